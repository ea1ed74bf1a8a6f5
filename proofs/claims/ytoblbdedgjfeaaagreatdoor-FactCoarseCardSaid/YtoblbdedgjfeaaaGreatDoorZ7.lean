/- Part 7 of what the claim needs: values without addresses, and what the program's functions do with them. -/
import Derived.Test.YtoblbdedgjfeaaaGreatDoorRows
import Derived.Test.YtoblbdedgjfeaaaGreatDoorTie
import Derived.Test.YtoblbdedgjfeaaaGreatDoorCards
import Derived.SevenTiedAt
import Derived.Lay
import Derived.Lib.LaidTab
import Derived.Test.YtoblbdedgjfeaaaGreatDoorZ6
namespace Go.Proofs.YtoblbdedgjfeaaaGreatDoor
open Go Go.Cl Go.ChangeShapes Go.WideShapes Go.RowKit Go.ChangeAt Go.ChangeMaps Go.Joins Go.Deep
theorem b76:ownKnob Tryz.prog.godebug=none:=by kernel_rfl
theorem b2X:laidOutB Tryz.prog=true:=by kernel_rfl
abbrev a30 : List (String × DataW Unit) := [("math/bits.deBruijn32tab", Rows.laid_math_bits_deBruijn32tab), ("math/bits.deBruijn64tab", Rows.laid_math_bits_deBruijn64tab), ("internal/strconv.uint64pow10", Rows.laid_internal_strconv_uint64pow10), ("unicode/utf8.acceptRanges", Rows.laid_unicode_utf8_acceptRanges), ("unicode/utf8.first", Rows.laid_unicode_utf8_first)]
theorem b0G : Tryz.prog.globalNamed "internal/strconv.uint64pow10" = some 1 := by kernel_rfl
def b00:List Int:=[1,10,100,1000,10000,100000,1000000,10000000,100000000,1000000000,10000000000,100000000000,1000000000000,10000000000000,100000000000000,1000000000000000,10000000000000000,100000000000000000,1000000000000000000,10000000000000000000]
theorem b7J:(Rows.laid_internal_strconv_uint64pow10:DataW Unit)=Lib.tabData .u64 b00:=by kernel_rfl
theorem b0B:b2b=b00.map fun z=>CV.val (.int .u64 z):=by rfl
theorem b7N:∃ t e n,(Tryz.prog.globals[1]?).map (·.type)=some t∧Tryz.prog.underlying t=some (.array n e)∧Tryz.prog.underlying e=some (.int .u64)∧Tryz.prog.cellsOf e=1∧Tryz.prog.cellsOf t=n:=⟨305,77,20,by kernel_rfl,by kernel_rfl,by kernel_rfl,by kernel_rfl,by kernel_rfl⟩
theorem b7l {W:World} (h:laidMetH Tryz.prog a30 W):∀ g cells,CC.glob g=some cells→GV (R9 W) W cells g:=by
 rw [MakeChecks.laidMetH_plain _ _ _ j6] at h
 obtain ⟨ps,⟨_,_,_,_,_,_,_,_,_,_,⟨_,_,_,_,_,_,_,_,_,_,⟨g',t',cs,fuel,p,q,hg',ht',hvar,hd,_,_⟩,_⟩,_⟩,_⟩:=h
 obtain ⟨t,e,n,k1,k2,k3,k4,k5⟩:=b7N
 obtain rfl:=Option.some.inj (b0G.symm.trans hg')
 obtain rfl:=Option.some.inj (k1.symm.trans ht')
 rw [b7J] at hd
 have hcs:=Lib.cells_of_tab k2 k3 k4 k5 hd
 intro g cells hgc
 have hgc':g=1∧cells=b2b:=by
  simp only [CC] at hgc
  split at hgc
  ·exact ⟨rfl,(Option.some.inj hgc).symm⟩
  ·cases hgc
 obtain ⟨rfl,rfl⟩:=hgc'
 have hheap:∃ ty fr,W.heap[1]? = some (.cells cs ty fr):=by
  simp only [World.var?,b0G,Option.bind_some] at hvar
  split at hvar
  ·rename_i c ty fr hh
   injection hvar with hvar
   subst hvar
   exact ⟨ty,fr,hh⟩
  ·cases hvar
 obtain ⟨ty,fr,hh⟩:=hheap
 have hsz:cs.size=b2b.length:=by
  rw [← Array.length_toList,hcs,b0B]; simp
 have hcell:∀ j:Nat,j < 20→W.cell? ⟨1,j,none⟩=some (.int .u64 (b00.getD j 0)):=fun j hj=>by
  rw [World.var?_cell b0G hvar j,← Array.getElem?_toList,hcs,List.getElem?_map]
  have hl:b00.length=20:=rfl
  obtain ⟨z,hz⟩:∃ z,b00[j]? = some z:=⟨b00[j]'b8,by simp⟩
  rw [hz,List.getD_eq_getElem?_getD,hz]; rfl
 have hlt:1 < W.heap.size:=by
  rcases Nat.lt_or_ge 1 W.heap.size with h | h
  ·exact h
  ·rw [Array.getElem?_eq_none h] at hh; cases hh
 refine ⟨.cptr (fun j=>.int .u64 (b00.getD j 0)) (fun c hc=>?_) (fun j c hj=>?_) (fun j c hj=>?_),hlt,cs,ty,fr,hh,hsz⟩
 ·rw [b0B] at hc
  obtain ⟨z,_,rfl⟩:=List.mem_map.1 hc
  rfl
 ·have hj2:j < 20:=by
   have:=(List.getElem?_eq_some_iff.1 hj).1
   exact this
  rw [Nat.zero_add]
  exact ⟨.inl hlt,hcell j hj2⟩
 ·rw [b0B,List.getElem?_map,Option.map_eq_some_iff] at hj
  obtain ⟨z,hz,rfl⟩:=hj
  rw [List.getD_eq_getElem?_getD,hz]
  exact .val _
theorem b7A (os:Os):(World.holding Tryz.prog os ⟨#[],#[],[]⟩).layFits Tryz.prog a30 []=true:=by kernel_rfl
theorem b4h (os:Os):(World.holding Tryz.prog os ⟨#[],#[],[]⟩).layIfaces Tryz.prog a30 (World.laidAll Tryz.prog os a30)=true:=by kernel_rfl
set_option maxRecDepth 100000 in
theorem b7P (os:Os) (args:Array Value):laidMetH Tryz.prog a30 ((World.laidAll Tryz.prog os a30).forCall (fun _ _=>0) ⟨#[],args,[]⟩).memory:=by
 rw [MakeChecks.laidMetH_plain _ _ _ j6]
 exact laidMet_laidAll _ (b7A os) (b4h os)
section
variable {H:Type} {enc:TypeId × Value→H} {w:World} {r:Go.Reach} {b0:Nat}
abbrev TrA (enc:TypeId × Value→H) (w:World) (t:TypeId) (v:Value) (d:DataW H) (p:List MemPlace):Prop:=DataW.Trod enc Tryz.prog w 0 (fun _=>true) true t v d p
set_option maxRecDepth 100000 in
theorem b7B {v:Value} {d:DataW H} {p:List MemPlace} (hv:Value.okWide Tryz.prog w r b0 22 v) (h:TrA enc w 22 v d p):∃ (l:List Int) (nn:Bool),RV (R9 w) w (.list (l.map icv) nn none) v∧l.length≤maxLen∧∀ a∈l,-9223372036854775808≤a∧a≤9223372036854775807:=by
 obtain ⟨a,len,cap,rfl⟩:=okWide_slice Tryz.underlying22 hv
 obtain ⟨fuel,h⟩:=h
 obtain ⟨l,nn,v',e,h1,h2,h3,-⟩:=b5n (α:=Int) icv (fun a=>-9223372036854775808≤a∧a≤9223372036854775807) Tryz.underlying22 (s:=1) j6 j4 (fun n cs y hy=>by
  obtain ⟨z,rfl,-,hw⟩:=DataW.trod_int Tryz.underlying3 hy
  simp [Lit.wf,IntKind.min,IntKind.max,IntKind.bits,IntKind.signed] at hw
  exact ⟨z,by omega,RCs.val rfl .nil⟩) h
 simp [Value.cells] at e
 subst e
 exact ⟨l,nn,h1,h2,h3⟩
end
theorem b9i {w:World} {v0:Value} {c0:CV} (h0:RV (R9 w) w c0 v0):∀ (i:Nat) (c:CV),[c0][i]? = some c→RV (R9 w) w c ((#[v0]:Array Value).getD i undef):=fun i c hi=>by
 rcases i with _ | i
 ·simp at hi; subst hi; exact h0
 ·simp at hi
end Go.Proofs.YtoblbdedgjfeaaaGreatDoor
