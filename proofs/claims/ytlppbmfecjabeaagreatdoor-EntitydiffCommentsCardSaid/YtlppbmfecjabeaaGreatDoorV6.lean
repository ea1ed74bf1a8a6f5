/- Part 6 of what the claim needs: values without addresses, and what the program's functions do with them. -/
import Derived.Test.YtlppbmfecjabeaaGreatDoorRows
import Derived.Test.YtlppbmfecjabeaaGreatDoorTie
import Derived.Test.YtlppbmfecjabeaaGreatDoorCards
import Derived.SevenTiedAt
import Derived.Lay
import Derived.Test.YtlppbmfecjabeaaGreatDoorV5
set_option maxRecDepth 100000
set_option maxHeartbeats 4000000
namespace Go.Proofs.YtlppbmfecjabeaaGreatDoor
open Go Go.Cl Go.ChangeShapes Go.WideShapes Go.RowKit Go.ChangeAt Go.ChangeMaps Go.Joins Go.Deep
theorem r_own:ownKnob Tryz.prog.godebug=none:=by kernel_rfl
theorem r_laidOut:laidOutB Tryz.prog=true:=by kernel_rfl
abbrev laidL : List (String × DataW Unit) := [("math/bits.deBruijn32tab", Rows.laid_math_bits_deBruijn32tab), ("math/bits.deBruijn64tab", Rows.laid_math_bits_deBruijn64tab), ("internal/strconv.uint64pow10", Rows.laid_internal_strconv_uint64pow10), ("unicode/utf8.acceptRanges", Rows.laid_unicode_utf8_acceptRanges), ("unicode/utf8.first", Rows.laid_unicode_utf8_first)]
theorem r_gtab : Tryz.prog.globalNamed "internal/strconv.uint64pow10" = some 1 := by kernel_rfl
def tabZ:List Int:=[1,10,100,1000,10000,100000,1000000,10000000,100000000,1000000000,10000000000,100000000000,1000000000000,10000000000000,100000000000000,1000000000000000,10000000000000000,100000000000000000,1000000000000000000,10000000000000000000]
theorem r_tabd:(Rows.laid_internal_strconv_uint64pow10:DataW Unit)=Lib.tabData .u64 tabZ:=by kernel_rfl
theorem r_tabp:tabP=tabZ.map fun z=>CV.val (.int .u64 z):=by rfl
theorem r_tabt:∃ t e n,(Tryz.prog.globals[1]?).map (·.type)=some t/\Tryz.prog.underlying t=some (.array n e)/\Tryz.prog.underlying e=some (.int .u64)/\Tryz.prog.cellsOf e=1/\Tryz.prog.cellsOf t=n:=⟨313,86,20,by kernel_rfl,by kernel_rfl,by kernel_rfl,by kernel_rfl,by kernel_rfl⟩
theorem r_glob {W:World} (h:laidMetH Tryz.prog laidL W):∀ g cells,CC.glob g=some cells->GV (whole W) W cells g:=by
 rw [MakeChecks.laidMetH_plain _ _ _ q_289] at h;obtain ⟨ps,⟨_,_,_,_,_,_,_,_,_,_,⟨_,_,_,_,_,_,_,_,_,_,⟨g',t',cs,fuel,p,q,hg',ht',hvar,hd,_,_⟩,_⟩,_⟩,_⟩:=h;obtain ⟨t,e,n,k1,k2,k3,k4,k5⟩:=r_tabt;obtain rfl:=Option.some.inj (r_gtab.symm.trans hg');obtain rfl:=Option.some.inj (k1.symm.trans ht');rw [r_tabd] at hd;have hcs:=Lib.cells_of_tab k2 k3 k4 k5 hd;intro g cells hgc;have hgc':g=1/\cells=tabP:=by
  simp only [CC] at hgc;split at hgc
  ·exact ⟨rfl,(Option.some.inj hgc).symm⟩
  ·cases hgc
 obtain ⟨rfl,rfl⟩:=hgc';have hheap:∃ ty fr,W.heap[1]? = some (.cells cs ty fr):=by
  simp only [World.var?,r_gtab,n_6] at hvar;split at hvar
  ·rename_i c ty fr hh;injection hvar with hvar
   subst hvar;exact ⟨ty,fr,hh⟩
  ·cases hvar
 obtain ⟨ty,fr,hh⟩:=hheap;have hsz:cs.size=tabP.length:=by
  rw [<- n_61,hcs,r_tabp]; simp
 have hcell:∀ j:Nat,j < 20->W.cell? ⟨1,j,none⟩=some (.int .u64 (tabZ.getD j 0)):=fun j hj=>by
  rw [World.var?_cell r_gtab hvar j,<- Array.getElem?_toList,hcs,n_14];have hl:tabZ.length=20:=rfl;obtain ⟨z,hz⟩:∃ z,tabZ[j]? = some z:=⟨tabZ[j]'om_,si_⟩;rw [hz,n_37,hz]; rfl
 have hlt:1 < W.heap.size:=by
  rcases n_23 1 W.heap.size with h | h
  ·exact h
  ·rw [n_43 h] at hh; cases hh
 refine ⟨.cptr (fun j=>.int .u64 (tabZ.getD j 0)) (fun c hc=>?_) (fun j c hj=>?_) (fun j c hj=>?_),hlt,cs,ty,fr,hh,hsz⟩
 ·rw [r_tabp] at hc;obtain ⟨z,_,rfl⟩:=n_9.1 hc;rfl
 ·have hj2:j < 20:=by
   have:=(n_1.1 hj).1;exact this
  rw [n_10];exact ⟨.inl hlt,hcell j hj2⟩
 ·rw [r_tabp,n_14,n_26] at hj;obtain ⟨z,hz,rfl⟩:=hj;rw [n_37,hz];exact .val _
theorem r_fits (os:Os):(World.holding Tryz.prog os ⟨#[],#[],[]⟩).layFits Tryz.prog laidL []=true:=by kernel_rfl
theorem r_ifaces (os:Os):(World.holding Tryz.prog os ⟨#[],#[],[]⟩).layIfaces Tryz.prog laidL (World.laidAll Tryz.prog os laidL)=true:=by kernel_rfl
theorem r_door (os:Os) (args:Array Value):laidMetH Tryz.prog laidL ((World.laidAll Tryz.prog os laidL).forCall (fun _ _=>0) ⟨#[],args,[]⟩).memory:=by
 rw [MakeChecks.laidMetH_plain _ _ _ q_289];exact laidMet_laidAll _ (r_fits os) (r_ifaces os)
section
variable {H:Type} {enc:TypeId × Value->H} {w:World} {r:Go.Reach} {b0:Nat}
abbrev TrA (enc:TypeId × Value->H) (w:World) (t:TypeId) (v:Value) (d:DataW H) (p:List MemPlace):Prop:=DataW.Trod enc Tryz.prog w 0 (fun _=>true) true t v d p
theorem a_ints {v:Value} {d:DataW H} {p:List MemPlace} (hv:Value.okWide Tryz.prog w r b0 22 v) (h:TrA enc w 22 v d p):∃ (l:List Int) (nn:Bool),RV (whole w) w (.list (l.map icv) nn none) v/\l.length<=maxLen/\∀ a∈l,-9223372036854775808<=a/\a<=9223372036854775807:=by
 obtain ⟨a,len,cap,rfl⟩:=okWide_slice Tryz.underlying22 hv;obtain ⟨fuel,h⟩:=h;obtain ⟨l,nn,v',e,h1,h2,h3,-⟩:=tr_slice (α:=Int) icv (fun a=>-9223372036854775808<=a/\a<=9223372036854775807) Tryz.underlying22 (s:=1) q_289 de_ (fun n cs y hy=>by
  obtain ⟨z,rfl,-,hw⟩:=DataW.trod_int t_102 hy;simp [Lit.wf,IntKind.min,IntKind.max,IntKind.bits,IntKind.signed] at hw;exact ⟨z,om_,RCs.val rfl .nil⟩) h
 simp [Value.cells] at e;subst e;exact ⟨l,nn,h1,h2,h3⟩
end
theorem rvs1 {w:World} {v0:Value} {c0:CV} (h0:RV (whole w) w c0 v0):∀ (i:Nat) (c:CV),[c0][i]? = some c->RV (whole w) w c ((#[v0]:Array Value).getD i undef):=fun i c hi=>by
 rcases i with _ | i
 ·simp at hi; subst hi; exact h0
 ·simp at hi
end Go.Proofs.YtlppbmfecjabeaaGreatDoor
namespace Go.Proofs.YtlppbmfecjabeaaGreatDoor
open Go Go.Cl Go.ChangeShapes Go.WideShapes Go.RowKit Go.ChangeAt Go.ChangeMaps Go.Joins
theorem j_inPlace:(Rows.entitydiffCommentsRow.inPlace == Tryz.pinned.checked.prog.inPlace 8)=true:=by kernel_rfl
theorem j_unfollowed:(Rows.entitydiffCommentsRow.unfollowed == Tryz.pinned.checked.prog.unfollowed 8)=true:=by kernel_rfl
theorem j_recurses:(Rows.entitydiffCommentsRow.recurses == Tryz.pinned.checked.prog.recurses 8)=true:=by kernel_rfl
theorem j_named:(Rows.entitydiffCommentsRow.named == Tryz.pinned.checked.prog.varsNamed 8)=true:=by kernel_rfl
theorem j_closed:joinedFacts Tryz.pinned.checked.prog 8 Tryz.f8 Rows.entitydiffCommentsSpec Rows.entitydiffCommentsRow=true:=by
 unfold joinedFacts;rw [j_inPlace,j_unfollowed,j_recurses,j_named];kernel_rfl
theorem c_main:Tryz.pinned.checked.prog.mainIs=some (Rows.entitydiffCommentsCard.stood.harness.fst,Rows.entitydiffCommentsCard.stood.harness.snd.toList):=by kernel_rfl
theorem c_looks:true=Tryz.pinned.checked.prog.looks []:=by kernel_rfl
theorem c_goes:false=Rows.entitydiffCommentsRow.goesBy Tryz.pinned.checked.prog:=by kernel_rfl
end Go.Proofs.YtlppbmfecjabeaaGreatDoor
