/- EntitydiffSides returns true for every input and leaves its arguments as they were. No condition. -/
import Derived.Test.YtlppbmfecjabeaaGreatDoorRows
import Derived.Test.YtlppbmfecjabeaaGreatDoorTie
import Derived.Test.YtlppbmfecjabeaaGreatDoorCards
import Derived.SevenTiedAt
import Derived.Lay
import Derived.Test.YtlppbmfecjabeaaGreatDoorW5
set_option maxRecDepth 100000
set_option maxHeartbeats 4000000
namespace Go.Proofs.YtlppbmfecjabeaaGreatDoor
open Go Go.Cl Go.ChangeShapes Go.WideShapes Go.RowKit Go.ChangeAt Go.ChangeMaps Go.Joins Go.Deep
theorem r_own:ownKnob Tryz.prog.godebug=none:=by kernel_rfl
theorem r_laidOut:laidOutB Tryz.prog=true:=by kernel_rfl
abbrev laidL : List (String × DataW Unit) := [("math/bits.deBruijn32tab", Rows.laid_math_bits_deBruijn32tab), ("math/bits.deBruijn64tab", Rows.laid_math_bits_deBruijn64tab), ("internal/strconv.uint64pow10", Rows.laid_internal_strconv_uint64pow10), ("unicode/utf8.acceptRanges", Rows.laid_unicode_utf8_acceptRanges), ("unicode/utf8.first", Rows.laid_unicode_utf8_first)]
theorem r_gtab : Tryz.prog.globalNamed "internal/strconv.uint64pow10" = some 1 := by kernel_rfl
def tabZ:List Int:=[1,10,100,1000,10000,100000,1000000,10000000,100000000,1000000000,10000000000,100000000000,1000000000000,10000000000000,100000000000000,1000000000000000,10000000000000000,100000000000000000,1000000000000000000,10000000000000000000]
theorem r_tabd:(Rows.laid_internal_strconv_uint64pow10:DataW Unit)=Lib.tabData .u64 tabZ:=by kernel_rfl
theorem r_tabp:tabP=tabZ.map fun z=>CV.val (.int .u64 z):=by rfl
theorem r_tabt:∃ t e n,(Tryz.prog.globals[1]?).map (·.type)=some t/\Tryz.prog.underlying t=some (.array n e)/\Tryz.prog.underlying e=some (.int .u64)/\Tryz.prog.cellsOf e=1/\Tryz.prog.cellsOf t=n:=⟨313,86,20,by kernel_rfl,by kernel_rfl,by kernel_rfl,by kernel_rfl,by kernel_rfl⟩
theorem r_glob {W:World} (h:laidMetH Tryz.prog laidL W):∀ g cells,CC.glob g=some cells->GV (whole W) W cells g:=by
 rw [MakeChecks.laidMetH_plain _ _ _ q_291] at h;obtain ⟨ps,⟨_,_,_,_,_,_,_,_,_,_,⟨_,_,_,_,_,_,_,_,_,_,⟨g',t',cs,fuel,p,q,hg',ht',hvar,hd,_,_⟩,_⟩,_⟩,_⟩:=h;obtain ⟨t,e,n,k1,k2,k3,k4,k5⟩:=r_tabt;obtain rfl:=Option.some.inj (r_gtab.symm.trans hg');obtain rfl:=Option.some.inj (k1.symm.trans ht');rw [r_tabd] at hd;have hcs:=Lib.cells_of_tab k2 k3 k4 k5 hd;intro g cells hgc;have hgc':g=1/\cells=tabP:=by
  simp only [CC] at hgc;split at hgc
  ·exact ⟨rfl,(Option.some.inj hgc).symm⟩
  ·cases hgc
 obtain ⟨rfl,rfl⟩:=hgc';have hheap:∃ ty fr,W.heap[1]? = some (.cells cs ty fr):=by
  simp only [World.var?,r_gtab,n_6] at hvar;split at hvar
  ·rename_i c ty fr hh;injection hvar with hvar
   subst hvar;exact ⟨ty,fr,hh⟩
  ·cases hvar
 obtain ⟨ty,fr,hh⟩:=hheap;have hsz:cs.size=tabP.length:=by
  rw [<- n_58,hcs,r_tabp]; simp
 have hcell:∀ j:Nat,j < 20->W.cell? ⟨1,j,none⟩=some (.int .u64 (tabZ.getD j 0)):=fun j hj=>by
  rw [World.var?_cell r_gtab hvar j,<- Array.getElem?_toList,hcs,n_15];have hl:tabZ.length=20:=rfl;obtain ⟨z,hz⟩:∃ z,tabZ[j]? = some z:=⟨tabZ[j]'om_,si_⟩;rw [hz,n_37,hz]; rfl
 have hlt:1 < W.heap.size:=by
  rcases n_23 1 W.heap.size with h | h
  ·exact h
  ·rw [n_44 h] at hh; cases hh
 refine ⟨.cptr (fun j=>.int .u64 (tabZ.getD j 0)) (fun c hc=>?_) (fun j c hj=>?_) (fun j c hj=>?_),hlt,cs,ty,fr,hh,hsz⟩
 ·rw [r_tabp] at hc;obtain ⟨z,_,rfl⟩:=n_9.1 hc;rfl
 ·have hj2:j < 20:=by
   have:=(n_1.1 hj).1;exact this
  rw [n_10];exact ⟨.inl hlt,hcell j hj2⟩
 ·rw [r_tabp,n_15,n_25] at hj;obtain ⟨z,hz,rfl⟩:=hj;rw [n_37,hz];exact .val _
theorem r_fits (os:Os):(World.holding Tryz.prog os ⟨#[],#[],[]⟩).layFits Tryz.prog laidL []=true:=by kernel_rfl
theorem r_ifaces (os:Os):(World.holding Tryz.prog os ⟨#[],#[],[]⟩).layIfaces Tryz.prog laidL (World.laidAll Tryz.prog os laidL)=true:=by kernel_rfl
theorem r_door (os:Os) (args:Array Value):laidMetH Tryz.prog laidL ((World.laidAll Tryz.prog os laidL).forCall (fun _ _=>0) ⟨#[],args,[]⟩).memory:=by
 rw [MakeChecks.laidMetH_plain _ _ _ q_291];exact laidMet_laidAll _ (r_fits os) (r_ifaces os)
section
variable {H:Type} {enc:TypeId × Value->H} {w:World} {r:Go.Reach} {b0:Nat}
abbrev TrA (enc:TypeId × Value->H) (w:World) (t:TypeId) (v:Value) (d:DataW H) (p:List MemPlace):Prop:=DataW.Trod enc Tryz.prog w 0 (fun _=>true) true t v d p
theorem a_ints {v:Value} {d:DataW H} {p:List MemPlace} (hv:Value.okWide Tryz.prog w r b0 22 v) (h:TrA enc w 22 v d p):∃ (l:List Int) (nn:Bool),RV (whole w) w (.list (l.map icv) nn none) v/\l.length<=maxLen/\∀ a∈l,-9223372036854775808<=a/\a<=9223372036854775807:=by
 obtain ⟨a,len,cap,rfl⟩:=okWide_slice Tryz.underlying22 hv;obtain ⟨fuel,h⟩:=h;obtain ⟨l,nn,v',e,h1,h2,h3,-⟩:=tr_slice (α:=Int) icv (fun a=>-9223372036854775808<=a/\a<=9223372036854775807) Tryz.underlying22 (s:=1) q_291 de_ (fun n cs y hy=>by
  obtain ⟨z,rfl,-,hw⟩:=DataW.trod_int t_102 hy;simp [Lit.wf,IntKind.min,IntKind.max,IntKind.bits,IntKind.signed] at hw;exact ⟨z,om_,RCs.val rfl .nil⟩) h
 simp [Value.cells] at e;subst e;exact ⟨l,nn,h1,h2,h3⟩
end
theorem rvs1 {w:World} {v0:Value} {c0:CV} (h0:RV (whole w) w c0 v0):∀ (i:Nat) (c:CV),[c0][i]? = some c->RV (whole w) w c ((#[v0]:Array Value).getD i undef):=fun i c hi=>by
 rcases i with _ | i
 ·simp at hi; subst hi; exact h0
 ·simp at hi
end Go.Proofs.YtlppbmfecjabeaaGreatDoor
namespace Go.Proofs.YtlppbmfecjabeaaGreatDoor
open Go Go.Cl Go.ChangeShapes Go.WideShapes Go.RowKit Go.ChangeAt Go.ChangeMaps Go.Joins
theorem j_inPlace:(Rows.entitydiffSidesRow.inPlace == Tryz.pinned.checked.prog.inPlace 7)=true:=by kernel_rfl
theorem j_unfollowed:(Rows.entitydiffSidesRow.unfollowed == Tryz.pinned.checked.prog.unfollowed 7)=true:=by kernel_rfl
theorem j_recurses:(Rows.entitydiffSidesRow.recurses == Tryz.pinned.checked.prog.recurses 7)=true:=by kernel_rfl
theorem j_named:(Rows.entitydiffSidesRow.named == Tryz.pinned.checked.prog.varsNamed 7)=true:=by kernel_rfl
theorem j_closed:joinedFacts Tryz.pinned.checked.prog 7 Tryz.f7 Rows.entitydiffSidesSpec Rows.entitydiffSidesRow=true:=by
 unfold joinedFacts;rw [j_inPlace,j_unfollowed,j_recurses,j_named];kernel_rfl
theorem c_main:Tryz.pinned.checked.prog.mainIs=some (Rows.entitydiffSidesCard.stood.harness.fst,Rows.entitydiffSidesCard.stood.harness.snd.toList):=by kernel_rfl
theorem c_looks:true=Tryz.pinned.checked.prog.looks []:=by kernel_rfl
theorem c_goes:false=Rows.entitydiffSidesRow.goesBy Tryz.pinned.checked.prog:=by kernel_rfl
theorem entitydiffSides_lifted (os:Os) (started:os.Started) (H:Type) (enc:TypeId × Value->H) :
 ReturnsInHanded {} Tryz.checked os 7 .any (fun w args=>(Rows.entitydiffSidesSpec.pre enc Tryz.prog Tryz.f7 [] false w args/\laidMetH Tryz.prog laidL w)/\sizedMet enc Tryz.prog Tryz.f7 (OpenSpec.ofChange Rows.entitydiffSidesSpec) false w args)
  (Rows.entitydiffSidesSpec.post enc Tryz.prog Tryz.f7 false true false false):=by
 refine law_lifted (CX:=CC) (tb:=4) #[.slice none 0 0] 8 (World.laidAll Tryz.prog os laidL) rfl r_own started (by kernel_rfl) Tryz.func7 r_laidOut
  (read_all (by kernel_rfl)) rfl (fun ds hd=>?_) (by kernel_rfl) Tryz.underlying4 (fun W h=>r_glob h) (World.laidAll_os _ _ _) (World.shaped_of_ZipB (by kernel_rfl) (by kernel_rfl)) (by kernel_rfl) (by kernel_rfl) (by kernel_rfl) (r_door os _) ?_
 ·rw [show Tryz.f7.params.size=1 by kernel_rfl] at hd
  match ds,hd with
  | [_],_=>rfl
 ·intro W base args ds ps hval hA;rw [Tryz.params7] at hA hval;obtain ⟨v0,d0,rfl,rfl,h0⟩:=trodAll_one hA;obtain ⟨l0,nn0,rv0,len0,fit0⟩:=a_ints (hval 0 _ _ rfl rfl) h0;exact ⟨_,rfl,rvs1 rv0,l6_EntitydiffSides l0 nn0 len0 []⟩
theorem entitydiffSides_holds:Rows.EntitydiffSidesSaid :=
 OpenClaim.holds_of_wide 7 Tryz.f7 rfl rfl rfl rfl rfl rfl rfl ⟨rfl,rfl,rfl,rfl,rfl⟩ rfl rfl rfl rfl rfl (by kernel_rfl) Tryz.func7 j_closed
  (of_decide_eq_true (by kernel_rfl)) (by unfold Func.isWrapper; first|(rw [if_pos (by decide +kernel)]; kernel_rfl)|(rw [if_neg (by decide +kernel)]; exact ⟨rfl,rfl⟩))
  (fun os started H enc _=>entitydiffSides_lifted os started H enc)
theorem entitydiffSides_card:Rows.EntitydiffSidesCardSaid :=
 Claim7.holds_tied_plain_at .later [] _ _ _ _
  entitydiffSides_holds (fun _ h=>by cases h) (by kernel_rfl) (fun _ h=>by cases h) entitydiffSides_row_tie rfl ⟨rfl,rfl⟩ c_main rfl
  (fun f fn hf hfn=>by
   obtain rfl : f = 7 := Option.some.inj ((show Tryz.prog.funcNamed "testgate/testgatelaw16.EntitydiffSides" = some 7 by kernel_rfl).symm.trans hf) |>.symm
   obtain rfl:fn=Tryz.f7:=(Option.some.inj (Tryz.func7.symm.trans hfn)).symm;exact ⟨c_looks,fun j t ht=>by
    rw [Tryz.params7] at ht;have hm:t∈[22]:=by simpa using Array.mem_of_getElem? ht
    have hall:([22].all fun u=>!Tryz.prog.wantsStandIn u)=true:=by kernel_rfl
    exact (show Tryz.prog.wantsStandIn t=false by simpa using List.all_eq_true.1 hall t hm)⟩)
  c_goes
#print axioms entitydiffSides_card
end Go.Proofs.YtlppbmfecjabeaaGreatDoor
