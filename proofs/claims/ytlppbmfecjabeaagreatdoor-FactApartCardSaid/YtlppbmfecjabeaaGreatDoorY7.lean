/- Part 7 of what the claim needs: values without addresses, and what the program's functions do with them. -/
import Derived.Test.YtlppbmfecjabeaaGreatDoorRows
import Derived.Test.YtlppbmfecjabeaaGreatDoorTie
import Derived.Test.YtlppbmfecjabeaaGreatDoorCards
import Derived.SevenTiedAt
import Derived.Lay
import Derived.Test.YtlppbmfecjabeaaGreatDoorY6
set_option maxRecDepth 100000
set_option maxHeartbeats 4000000
namespace Go.Proofs.YtlppbmfecjabeaaGreatDoor
open Go Go.Cl Go.ChangeShapes Go.WideShapes Go.RowKit Go.ChangeAt Go.ChangeMaps Go.Joins Go.Deep
theorem d5U:ownKnob Tryz.prog.godebug=none:=by kernel_rfl
theorem c2g:laidOutB Tryz.prog=true:=by kernel_rfl
abbrev a8K : List (String × DataW Unit) := [("math/bits.deBruijn32tab", Rows.laid_math_bits_deBruijn32tab), ("math/bits.deBruijn64tab", Rows.laid_math_bits_deBruijn64tab), ("internal/strconv.uint64pow10", Rows.laid_internal_strconv_uint64pow10), ("unicode/utf8.acceptRanges", Rows.laid_unicode_utf8_acceptRanges), ("unicode/utf8.first", Rows.laid_unicode_utf8_first)]
theorem b8x : Tryz.prog.globalNamed "internal/strconv.uint64pow10" = some 1 := by kernel_rfl
def b78:List Int:=[1,10,100,1000,10000,100000,1000000,10000000,100000000,1000000000,10000000000,100000000000,1000000000000,10000000000000,100000000000000,1000000000000000,10000000000000000,100000000000000000,1000000000000000000,10000000000000000000]
theorem d4h:(Rows.laid_internal_strconv_uint64pow10:DataW Unit)=Lib.tabData .u64 b78:=by kernel_rfl
theorem b8u:c22=b78.map fun z=>CV.val (.int .u64 z):=by rfl
theorem d30:∃ t e n,(Tryz.prog.globals[1]?).map (·.type)=some t/\Tryz.prog.underlying t=some (.array n e)/\Tryz.prog.underlying e=some (.int .u64)/\Tryz.prog.cellsOf e=1/\Tryz.prog.cellsOf t=n:=⟨313,86,20,by kernel_rfl,by kernel_rfl,by kernel_rfl,by kernel_rfl,by kernel_rfl⟩
theorem d3r {W:World} (h:laidMetH Tryz.prog a8K W):∀ g cells,CC.glob g=some cells->GV (X4 W) W cells g:=by
 rw [MakeChecks.laidMetH_plain _ _ _ d5] at h;obtain ⟨ps,⟨_,_,_,_,_,_,_,_,_,_,⟨_,_,_,_,_,_,_,_,_,_,⟨g',t',cs,fuel,p,q,hg',ht',hvar,hd,_,_⟩,_⟩,_⟩,_⟩:=h;obtain ⟨t,e,n,k1,k2,k3,k4,k5⟩:=d30;obtain rfl:=Option.some.inj (b8x.symm.trans hg');obtain rfl:=Option.some.inj (k1.symm.trans ht');rw [d4h] at hd;have hcs:=Lib.cells_of_tab k2 k3 k4 k5 hd;intro g cells hgc;have hgc':g=1/\cells=c22:=by
  simp only [CC] at hgc;split at hgc
  ·exact ⟨rfl,(Option.some.inj hgc).symm⟩
  ·cases hgc
 obtain ⟨rfl,rfl⟩:=hgc';have hheap:∃ ty fr,W.heap[1]? = some (.cells cs ty fr):=by
  simp only [World.var?,b8x,n_5] at hvar;split at hvar
  ·rename_i c ty fr hh;injection hvar with hvar
   subst hvar;exact ⟨ty,fr,hh⟩
  ·cases hvar
 obtain ⟨ty,fr,hh⟩:=hheap;have hsz:cs.size=c22.length:=by
  rw [<- a9x,hcs,b8u]; simp
 have hcell:∀ j:Nat,j < 20->W.cell? ⟨1,j,none⟩=some (.int .u64 (b78.getD j 0)):=fun j hj=>by
  rw [World.var?_cell b8x hvar j,<- Array.getElem?_toList,hcs,N0];have hl:b78.length=20:=rfl;obtain ⟨z,hz⟩:∃ z,b78[j]? = some z:=⟨b78[j]'om_,si_⟩;rw [hz,a2A,hz]; rfl
 have hlt:1 < W.heap.size:=by
  rcases T5 1 W.heap.size with h | h
  ·exact h
  ·rw [a6r h] at hh; cases hh
 refine ⟨.cptr (fun j=>.int .u64 (b78.getD j 0)) (fun c hc=>?_) (fun j c hj=>?_) (fun j c hj=>?_),hlt,cs,ty,fr,hh,hsz⟩
 ·rw [b8u] at hc;obtain ⟨z,_,rfl⟩:=K3.1 hc;rfl
 ·have hj2:j < 20:=by
   have:=(n_0.1 hj).1;exact this
  rw [n_8];exact ⟨.inl hlt,hcell j hj2⟩
 ·rw [b8u,N0,Q1] at hj;obtain ⟨z,hz,rfl⟩:=hj;rw [a2A,hz];exact .val _
theorem d3F (os:Os):(World.holding Tryz.prog os ⟨#[],#[],[]⟩).layFits Tryz.prog a8K []=true:=by kernel_rfl
theorem c4x (os:Os):(World.holding Tryz.prog os ⟨#[],#[],[]⟩).layIfaces Tryz.prog a8K (World.laidAll Tryz.prog os a8K)=true:=by kernel_rfl
theorem d3Q (os:Os) (args:Array Value):laidMetH Tryz.prog a8K ((World.laidAll Tryz.prog os a8K).forCall (fun _ _=>0) ⟨#[],args,[]⟩).memory:=by
 rw [MakeChecks.laidMetH_plain _ _ _ d5];exact laidMet_laidAll _ (d3F os) (c4x os)
section
variable {H:Type} {enc:TypeId × Value->H} {w:World} {r:Go.Reach} {b0:Nat}
abbrev TrA (enc:TypeId × Value->H) (w:World) (t:TypeId) (v:Value) (d:DataW H) (p:List MemPlace):Prop:=DataW.Trod enc Tryz.prog w 0 (fun _=>true) true t v d p
theorem d4l {v:Value} {d:DataW H} {p:List MemPlace} (hv:Value.okWide Tryz.prog w r b0 22 v) (h:TrA enc w 22 v d p):∃ (l:List Int) (nn:Bool),RV (X4 w) w (.list (l.map icv) nn none) v/\l.length<=maxLen/\∀ a∈l,-9223372036854775808<=a/\a<=9223372036854775807:=by
 obtain ⟨a,len,cap,rfl⟩:=okWide_slice Tryz.underlying22 hv;obtain ⟨fuel,h⟩:=h;obtain ⟨l,nn,v',e,h1,h2,h3,-⟩:=c7W (α:=Int) icv (fun a=>-9223372036854775808<=a/\a<=9223372036854775807) Tryz.underlying22 (s:=1) d5 de_ (fun n cs y hy=>by
  obtain ⟨z,rfl,-,hw⟩:=DataW.trod_int c5O hy;simp [Lit.wf,IntKind.min,IntKind.max,IntKind.bits,IntKind.signed] at hw;exact ⟨z,om_,RCs.val rfl .nil⟩) h
 simp [Value.cells] at e;subst e;exact ⟨l,nn,h1,h2,h3⟩
end
theorem d6b {w:World} {v0 v1:Value} {c0 c1:CV} (h0:RV (X4 w) w c0 v0) (h1:RV (X4 w) w c1 v1):∀ (i:Nat) (c:CV),[c0,c1][i]? = some c->RV (X4 w) w c ((#[v0,v1]:Array Value).getD i undef):=fun i c hi=>by
 rcases i with _ | _ | i
 ·simp at hi; subst hi; exact h0
 ·simp at hi; subst hi; exact h1
 ·simp at hi
end Go.Proofs.YtlppbmfecjabeaaGreatDoor
namespace Go.Proofs.YtlppbmfecjabeaaGreatDoor
open Go Go.Cl Go.ChangeShapes Go.WideShapes Go.RowKit Go.ChangeAt Go.ChangeMaps Go.Joins
theorem c3T:(Rows.factApartRow.inPlace == Tryz.pinned.checked.prog.inPlace 4)=true:=by kernel_rfl
theorem b4s:(Rows.factApartRow.unfollowed == Tryz.pinned.checked.prog.unfollowed 4)=true:=by kernel_rfl
theorem b75:(Rows.factApartRow.recurses == Tryz.pinned.checked.prog.recurses 4)=true:=by kernel_rfl
theorem c9j:(Rows.factApartRow.named == Tryz.pinned.checked.prog.varsNamed 4)=true:=by kernel_rfl
theorem c6s:joinedFacts Tryz.pinned.checked.prog 4 Tryz.f4 Rows.factApartSpec Rows.factApartRow=true:=by
 unfold joinedFacts;rw [c3T,b4s,b75,c9j];kernel_rfl
theorem d31:Tryz.pinned.checked.prog.mainIs=some (Rows.factApartCard.stood.harness.fst,Rows.factApartCard.stood.harness.snd.toList):=by kernel_rfl
theorem d0g:true=Tryz.pinned.checked.prog.looks []:=by kernel_rfl
theorem d4n:false=Rows.factApartRow.goesBy Tryz.pinned.checked.prog:=by kernel_rfl
end Go.Proofs.YtlppbmfecjabeaaGreatDoor
namespace Go.Proofs.YtlppbmfecjabeaaGreatDoor
open Go Go.Cl Go.ChangeShapes Go.WideShapes Go.RowKit Go.ChangeAt Go.ChangeMaps Go.Joins Go.Deep
theorem d48 {H:Type} {enc:TypeId × Value->H} {w:World} {r:Go.Reach} {b0:Nat} {v:Value} {d:DataW H} {p:List MemPlace} (hv:Value.okWide Tryz.prog w r b0 9 v) (h:TrA enc w 9 v d p):∃ s:Str,RV (X4 w) w (sv s) v:=by
 obtain ⟨s,rfl,-,-⟩:=open_string c4t hv h;refine ⟨s.data.toList,?_⟩;show RV _ _ (.val (.string (str s.data.toList))) _;rw [<- d3O];exact .val _
end Go.Proofs.YtlppbmfecjabeaaGreatDoor
