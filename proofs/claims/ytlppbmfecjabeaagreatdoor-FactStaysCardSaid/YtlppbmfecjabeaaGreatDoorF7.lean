/- Part 7 of what the claim needs: values without addresses, and what the program's functions do with them. -/
import Derived.Test.YtlppbmfecjabeaaGreatDoorRows
import Derived.Test.YtlppbmfecjabeaaGreatDoorTie
import Derived.Test.YtlppbmfecjabeaaGreatDoorCards
import Derived.SevenTiedAt
import Derived.Lay
import Derived.Test.YtlppbmfecjabeaaGreatDoorF6
set_option linter.all false
set_option maxRecDepth 100000
set_option maxHeartbeats 4000000
namespace Go.Proofs.YtlppbmfecjabeaaGreatDoor
open Go Go.Cl Go.ChangeShapes Go.WideShapes Go.RowKit Go.ChangeAt Go.ChangeMaps Go.Joins Go.Deep
theorem d6O:ownKnob Tryz.prog.godebug=none:=by kernel_rfl
theorem c2r:laidOutB Tryz.prog=true:=by kernel_rfl
abbrev a73 : List (String × DataW Unit) := [("math/bits.deBruijn32tab", Rows.laid_math_bits_deBruijn32tab), ("math/bits.deBruijn64tab", Rows.laid_math_bits_deBruijn64tab), ("internal/strconv.uint64pow10", Rows.laid_internal_strconv_uint64pow10), ("unicode/utf8.acceptRanges", Rows.laid_unicode_utf8_acceptRanges), ("unicode/utf8.first", Rows.laid_unicode_utf8_first)]
theorem b9o : Tryz.prog.globalNamed "internal/strconv.uint64pow10" = some 1 := by kernel_rfl
def c2J:List Int:=[1,10,100,1000,10000,100000,1000000,10000000,100000000,1000000000,10000000000,100000000000,1000000000000,10000000000000,100000000000000,1000000000000000,10000000000000000,100000000000000000,1000000000000000000,10000000000000000000]
theorem d4G:(Rows.laid_internal_strconv_uint64pow10:DataW Unit)=Lib.tabData .u64 c2J:=by kernel_rfl
theorem b78:c3V=c2J.map fun z=>CV.val (.int .u64 z):=by rfl
theorem d3K:∃ t e n,(Tryz.prog.globals[1]?).map (·.type)=some t/\Tryz.prog.underlying t=some (.array n e)/\Tryz.prog.underlying e=some (.int .u64)/\Tryz.prog.cellsOf e=1/\Tryz.prog.cellsOf t=n:=⟨313,86,20,by kernel_rfl,by kernel_rfl,by kernel_rfl,by kernel_rfl,by kernel_rfl⟩
theorem d3Q {W:World} (h:laidMetH Tryz.prog a73 W):∀ g cells,CC.glob g=some cells->GV (a0r W) W cells g:=by
 rw [MakeChecks.laidMetH_plain _ _ _ B4] at h;obtain ⟨ps,⟨_,_,_,_,_,_,_,_,_,_,⟨_,_,_,_,_,_,_,_,_,_,⟨g',t',cs,fuel,p,q,hg',gj,fV,hd,_,_⟩,_⟩,_⟩,_⟩:=h;obtain ⟨t,e,n,k1,k2,k3,k4,k5⟩:=d3K;obtain rfl:=Option.some.inj (b9o.symm.trans hg');obtain rfl:=Option.some.inj (k1.symm.trans gj);rw [d4G] at hd;have hcs:=Lib.cells_of_tab k2 k3 k4 k5 hd;intro g cells hgc;have hgc':g=1/\cells=c3V:=by
  simp only [CC] at hgc;split at hgc
  ·exact ⟨rfl,(Option.some.inj hgc).symm⟩
  ·cases hgc
 obtain ⟨rfl,rfl⟩:=hgc';have gd:∃ ty fr,W.heap[1]? = some (.cells cs ty fr):=by
  simp only [World.var?,b9o,n_8] at fV;split at fV
  ·rename_i c ty fr hh;injection fV with fV
   subst fV;exact ⟨ty,fr,hh⟩
  ·cases fV
 obtain ⟨ty,fr,hh⟩:=gd;have aF:cs.size=c3V.length:=by
  rw [<- a8J,hcs,b78];simp
 have aO:∀ j:Nat,j < 20->W.cell? ⟨1,j,none⟩=some (.int .u64 (c2J.getD j 0)):=fun j hj=>by
  rw [World.var?_cell b9o fV j,<- Array.getElem?_toList,hcs,Q0];have hl:c2J.length=20:=rfl;obtain ⟨z,hz⟩:=gx_ c2J j;rw [hz,a5m,hz];rfl
 have ae:1 < W.heap.size:=by
  rcases a3c 1 W.heap.size with h | h
  ·exact h
  ·rw [a9C h] at hh;cases hh
 refine ⟨.cptr (fun j=>.int .u64 (c2J.getD j 0)) (fun c hc=>?_) (fun j c hj=>?_) (fun j c hj=>?_),ae,cs,ty,fr,hh,aF⟩
 ·rw [b78] at hc;obtain ⟨z,_,rfl⟩:=I9.1 hc;rfl
 ·have hj2:j < 20:=by
   have:=(n_3.1 hj).1;exact this
  rw [K9];exact ⟨.inl ae,aO j hj2⟩
 ·rw [b78,Q0,N0] at hj;obtain ⟨z,hz,rfl⟩:=hj;rw [a5m,hz];exact .val _
theorem d4s (os:Os):(World.holding Tryz.prog os ⟨#[],#[],[]⟩).layFits Tryz.prog a73 []=true:=by kernel_rfl
theorem c8b (os:Os):(World.holding Tryz.prog os ⟨#[],#[],[]⟩).layIfaces Tryz.prog a73 (World.laidAll Tryz.prog os a73)=true:=by kernel_rfl
theorem d3T (os:Os) (args:Array Value):laidMetH Tryz.prog a73 ((World.laidAll Tryz.prog os a73).forCall (fun _ _=>0) ⟨#[],args,[]⟩).memory:=by
 rw [MakeChecks.laidMetH_plain _ _ _ B4];exact laidMet_laidAll _ (d4s os) (c8b os)
section
variable {H:Type} {enc:TypeId × Value->H} {w:World} {r:Go.Reach} {b0:Nat}
abbrev TrA (enc:TypeId × Value->H) (w:World) (t:TypeId) (v:Value) (d:DataW H) (p:List MemPlace):Prop:=DataW.Trod enc Tryz.prog w 0 (fun _=>true) true t v d p
theorem d3V {v:Value} {d:DataW H} {p:List MemPlace} (hv:Value.okWide Tryz.prog w r b0 22 v) (h:TrA enc w 22 v d p):∃ (l:List Int) (nn:Bool),RV (a0r w) w (.list (l.map icv) nn none) v/\l.length<=maxLen/\∀ a∈l,-9223372036854775808<=a/\a<=9223372036854775807:=by
 obtain ⟨a,len,cap,rfl⟩:=okWide_slice Tryz.underlying22 hv;obtain ⟨fuel,h⟩:=h;obtain ⟨l,nn,v',e,h1,h2,h3,-⟩:=c8i (α:=Int) icv (fun a=>-9223372036854775808<=a/\a<=9223372036854775807) Tryz.underlying22 (s:=1) B4 de_ (fun n cs y hy=>by
  obtain ⟨z,rfl,-,hw⟩:=DataW.trod_int c6b hy;simp [Lit.wf,IntKind.min,IntKind.max,IntKind.bits,IntKind.signed] at hw;exact ⟨z,om_,RCs.val rfl .nil⟩) h
 simp [Value.cells] at e;subst e;exact ⟨l,nn,h1,h2,h3⟩
end
theorem d7N {w:World} {v0:Value} {c0:CV} (h0:RV (a0r w) w c0 v0):∀ (i:Nat) (c:CV),[c0][i]? = some c->RV (a0r w) w c ((#[v0]:Array Value).getD i undef):=fun i c hi=>by
 rcases i with _ | i
 ·simp at hi;subst hi;exact h0
 ·simp at hi
end Go.Proofs.YtlppbmfecjabeaaGreatDoor
namespace Go.Proofs.YtlppbmfecjabeaaGreatDoor
open Go Go.Cl Go.ChangeShapes Go.WideShapes Go.RowKit Go.ChangeAt Go.ChangeMaps Go.Joins
theorem c3X:(Rows.factStaysRow.inPlace == Tryz.pinned.checked.prog.inPlace 5)=true:=by kernel_rfl
theorem b3A:(Rows.factStaysRow.unfollowed == Tryz.pinned.checked.prog.unfollowed 5)=true:=by kernel_rfl
theorem b71:(Rows.factStaysRow.recurses == Tryz.pinned.checked.prog.recurses 5)=true:=by kernel_rfl
theorem c9f:(Rows.factStaysRow.named == Tryz.pinned.checked.prog.varsNamed 5)=true:=by kernel_rfl
theorem c6w:joinedFacts Tryz.pinned.checked.prog 5 Tryz.f5 Rows.factStaysSpec Rows.factStaysRow=true:=by
 unfold joinedFacts;rw [c3X,b3A,b71,c9f];kernel_rfl
theorem d4w:Tryz.pinned.checked.prog.mainIs=some (Rows.factStaysCard.stood.harness.fst,Rows.factStaysCard.stood.harness.snd.toList):=by kernel_rfl
theorem c9m:true=Tryz.pinned.checked.prog.looks []:=by kernel_rfl
theorem d4M:false=Rows.factStaysRow.goesBy Tryz.pinned.checked.prog:=by kernel_rfl
end Go.Proofs.YtlppbmfecjabeaaGreatDoor
