/- Part 7 of what the claim needs: values without addresses, and what the program's functions do with them. -/
import Derived.Test.YtlppbmfecjabeaaGreatDoorRows
import Derived.Test.YtlppbmfecjabeaaGreatDoorTie
import Derived.Test.YtlppbmfecjabeaaGreatDoorCards
import Derived.SevenTiedAt
import Derived.Lay
import Derived.Deep.Strs
import Derived.Test.YtlppbmfecjabeaaGreatDoorC6
set_option linter.all false
set_option maxRecDepth 100000
set_option maxHeartbeats 4000000
namespace Go.Proofs.YtlppbmfecjabeaaGreatDoor
open Go Go.Cl Go.ChangeShapes Go.WideShapes Go.RowKit Go.ChangeAt Go.ChangeMaps Go.Joins Go.Deep
theorem d8J:ownKnob Tryz.prog.godebug=none:=by kernel_rfl
theorem c4O:laidOutB Tryz.prog=true:=by kernel_rfl
abbrev a9M : List (String × DataW Unit) := [("math/bits.deBruijn32tab", Rows.laid_math_bits_deBruijn32tab), ("math/bits.deBruijn64tab", Rows.laid_math_bits_deBruijn64tab), ("internal/strconv.uint64pow10", Rows.laid_internal_strconv_uint64pow10), ("unicode/utf8.acceptRanges", Rows.laid_unicode_utf8_acceptRanges), ("unicode/utf8.first", Rows.laid_unicode_utf8_first)]
theorem c0K : Tryz.prog.globalNamed "internal/strconv.uint64pow10" = some 1 := by kernel_rfl
def c3U:List Int:=[1,10,100,1000,10000,100000,1000000,10000000,100000000,1000000000,10000000000,100000000000,1000000000000,10000000000000,100000000000000,1000000000000000,10000000000000000,100000000000000000,1000000000000000000,10000000000000000000]
theorem d6K:(Rows.laid_internal_strconv_uint64pow10:DataW Unit)=Lib.tabData .u64 c3U:=by kernel_rfl
theorem c0x:c47=c3U.map fun z=>CV.val (.int .u64 z):=by rfl
theorem d6S:∃ t e n,(Tryz.prog.globals[1]?).map (·.type)=some t/\Tryz.prog.underlying t=some (.array n e)/\Tryz.prog.underlying e=some (.int .u64)/\Tryz.prog.cellsOf e=1/\Tryz.prog.cellsOf t=n:=⟨313,86,20,by kernel_rfl,by kernel_rfl,by kernel_rfl,by kernel_rfl,by kernel_rfl⟩
theorem d8h {W:World} (h:laidMetH Tryz.prog a9M W):∀ g cells,CC.glob g=some cells->GV (U6 W) W cells g:=by
 rw [MakeChecks.laidMetH_plain _ _ _ C6] at h;obtain ⟨ps,⟨_,_,_,_,_,_,_,_,_,_,⟨_,_,_,_,_,_,_,_,_,_,⟨g',t',cs,fuel,p,q,hg',ht',hvar,hd,_,_⟩,_⟩,_⟩,_⟩:=h;obtain ⟨t,e,n,k1,k2,k3,k4,k5⟩:=d6S;obtain rfl:=Option.some.inj (c0K.symm.trans hg');obtain rfl:=Option.some.inj (k1.symm.trans ht');rw [d6K] at hd;have hcs:=Lib.cells_of_tab k2 k3 k4 k5 hd;intro g cells hgc;have hgc':g=1/\cells=c47:=by
  simp only [CC] at hgc;split at hgc
  ·exact ⟨rfl,(Option.some.inj hgc).symm⟩
  ·cases hgc
 obtain ⟨rfl,rfl⟩:=hgc';have hheap:∃ ty fr,W.heap[1]? = some (.cells cs ty fr):=by
  simp only [World.var?,c0K,n_6] at hvar;split at hvar
  ·rename_i c ty fr hh;injection hvar with hvar
   subst hvar;exact ⟨ty,fr,hh⟩
  ·cases hvar
 obtain ⟨ty,fr,hh⟩:=hheap;have hsz:cs.size=c47.length:=by
  rw [<- b0u,hcs,c0x];simp
 have hcell:∀ j:Nat,j < 20->W.cell? ⟨1,j,none⟩=some (.int .u64 (c3U.getD j 0)):=fun j hj=>by
  rw [World.var?_cell c0K hvar j,<- Array.getElem?_toList,hcs,O9];have hl:c3U.length=20:=rfl;obtain ⟨z,hz⟩:=gx_ c3U j;rw [hz,a3o,hz];rfl
 have hlt:1 < W.heap.size:=by
  rcases a0c 1 W.heap.size with h | h
  ·exact h
  ·rw [a9a h] at hh;cases hh
 refine ⟨.cptr (fun j=>.int .u64 (c3U.getD j 0)) (fun c hc=>?_) (fun j c hj=>?_) (fun j c hj=>?_),hlt,cs,ty,fr,hh,hsz⟩
 ·rw [c0x] at hc;obtain ⟨z,_,rfl⟩:=K5.1 hc;rfl
 ·have hj2:j < 20:=by
   have:=(n_1.1 hj).1;exact this
  rw [n_9];exact ⟨.inl hlt,hcell j hj2⟩
 ·rw [c0x,O9,O3] at hj;obtain ⟨z,hz,rfl⟩:=hj;rw [a3o,hz];exact .val _
theorem d7t (os:Os):(World.holding Tryz.prog os ⟨#[],#[],[]⟩).layFits Tryz.prog a9M []=true:=by kernel_rfl
theorem c9P (os:Os):(World.holding Tryz.prog os ⟨#[],#[],[]⟩).layIfaces Tryz.prog a9M (World.laidAll Tryz.prog os a9M)=true:=by kernel_rfl
theorem d7H (os:Os) (args:Array Value):laidMetH Tryz.prog a9M ((World.laidAll Tryz.prog os a9M).forCall (fun _ _=>0) ⟨#[],args,[]⟩).memory:=by
 rw [MakeChecks.laidMetH_plain _ _ _ C6];exact laidMet_laidAll _ (d7t os) (c9P os)
section
variable {H:Type} {enc:TypeId × Value->H} {w:World} {r:Go.Reach} {b0:Nat}
abbrev TrA (enc:TypeId × Value->H) (w:World) (t:TypeId) (v:Value) (d:DataW H) (p:List MemPlace):Prop:=DataW.Trod enc Tryz.prog w 0 (fun _=>true) true t v d p
theorem d7g {v:Value} {d:DataW H} {p:List MemPlace} (hv:Value.okWide Tryz.prog w r b0 22 v) (h:TrA enc w 22 v d p):∃ (l:List Int) (nn:Bool),RV (U6 w) w (.list (l.map icv) nn none) v/\l.length<=maxLen/\∀ a∈l,-9223372036854775808<=a/\a<=9223372036854775807:=by
 obtain ⟨a,len,cap,rfl⟩:=okWide_slice Tryz.underlying22 hv;obtain ⟨fuel,h⟩:=h;obtain ⟨l,nn,v',e,h1,h2,h3,-⟩:=b2E (α:=Int) icv (fun a=>-9223372036854775808<=a/\a<=9223372036854775807) Tryz.underlying22 (s:=1) C6 de_ (fun n cs y hy=>by
  obtain ⟨z,rfl,-,hw⟩:=DataW.trod_int c2E hy;simp [Lit.wf,IntKind.min,IntKind.max,IntKind.bits,IntKind.signed] at hw;exact ⟨z,om_,RCs.val rfl .nil⟩) h
 simp [Value.cells] at e;subst e;exact ⟨l,nn,h1,h2,h3⟩
end
theorem e0p {w:World} {v0 v1 v2:Value} {c0 c1 c2:CV} (h0:RV (U6 w) w c0 v0) (h1:RV (U6 w) w c1 v1) (h2:RV (U6 w) w c2 v2):∀ (i:Nat) (c:CV),[c0,c1,c2][i]? = some c->RV (U6 w) w c ((#[v0,v1,v2]:Array Value).getD i undef):=fun i c hi=>by
 rcases i with _ | _ | _ | i
 ·simp at hi;subst hi;exact h0
 ·simp at hi;subst hi;exact h1
 ·simp at hi;subst hi;exact h2
 ·simp at hi
end Go.Proofs.YtlppbmfecjabeaaGreatDoor
namespace Go.Proofs.YtlppbmfecjabeaaGreatDoor
open Go Go.Cl Go.ChangeShapes Go.WideShapes Go.RowKit Go.ChangeAt Go.ChangeMaps Go.Joins
theorem c4t:(Rows.factContentsRow.inPlace == Tryz.pinned.checked.prog.inPlace 3)=true:=by kernel_rfl
theorem b5d:(Rows.factContentsRow.unfollowed == Tryz.pinned.checked.prog.unfollowed 3)=true:=by kernel_rfl
theorem c0d:(Rows.factContentsRow.recurses == Tryz.pinned.checked.prog.recurses 3)=true:=by kernel_rfl
theorem d3i:(Rows.factContentsRow.named == Tryz.pinned.checked.prog.varsNamed 3)=true:=by kernel_rfl
theorem c6j:joinedFacts Tryz.pinned.checked.prog 3 Tryz.f3 Rows.factContentsSpec Rows.factContentsRow=true:=by
 unfold joinedFacts;rw [c4t,b5d,c0d,d3i];kernel_rfl
theorem d7E:Tryz.pinned.checked.prog.mainIs=some (Rows.factContentsCard.stood.harness.fst,Rows.factContentsCard.stood.harness.snd.toList):=by kernel_rfl
theorem d2e:true=Tryz.pinned.checked.prog.looks []:=by kernel_rfl
theorem d8j:false=Rows.factContentsRow.goesBy Tryz.pinned.checked.prog:=by kernel_rfl
end Go.Proofs.YtlppbmfecjabeaaGreatDoor
namespace Go.Proofs.YtlppbmfecjabeaaGreatDoor
open Go Go.Cl Go.ChangeShapes Go.WideShapes Go.RowKit Go.ChangeAt Go.ChangeMaps Go.Joins Go.Deep
section
variable {H:Type} {enc:TypeId × Value->H} {w:World} {r:Go.Reach} {b0:Nat}
instance:Inhabited Va:=⟨⟨[],0⟩⟩
theorem b8T (s:ByteArray):str s.data.toList=s:=by cases s;simp [str]
theorem d8c {v:Value} {d:DataW H} {p:List MemPlace} (hv:Value.okWide Tryz.prog w r b0 26 v) (h:TrA enc w 26 v d p):∃ (l:List Str) (nn:Bool),RV (U6 w) w (.list (l.map scv) nn none) v:=by
 obtain ⟨a,len,cap,rfl⟩:=okWide_slice d0E hv;obtain ⟨fuel,h⟩:=h;obtain ⟨l,nn,v',e,h1,-⟩:=b2E (α:=Str) scv (fun _=>True) d0E (s:=1) C6 de_ (fun n cs y hy=>by
  obtain ⟨s,rfl,-⟩:=DataW.trod_string c26 hy;exact ⟨s.data.toList,tt,by rw [<- b8T s];exact RCs.val rfl .nil⟩) h
 simp [Value.cells] at e;subst e;exact ⟨l,nn,h1⟩
theorem d8s {v:Value} {d:DataW H} {p:List MemPlace} (hv:Value.okWide Tryz.prog w r b0 25 v) (h:TrA enc w 25 v d p):∃ (l:List Va) (nn:Bool),RV (U6 w) w (.agg (G3 l nn)) v/\∀ x∈l,-9223372036854775808<=x.v/\x.v<=9223372036854775807:=by
 obtain ⟨cs,rfl,hsz⟩:=okWide_struct Tryz.underlying25 hv;have hC:Tryz.prog.cellsOf 25=1:=by kernel_rfl
 have hL:Tryz.prog.cellsOf 23=1:=by kernel_rfl
 have hV:Tryz.prog.cellsOf 129=2:=by kernel_rfl
 have hI:Tryz.prog.cellsOf 3=1:=by kernel_rfl
 have hS:Tryz.prog.cellsOf 9=1:=by kernel_rfl
 rw [hC] at hsz;obtain ⟨fuel,hf⟩:=h;obtain ⟨y0,n,-,-,g0⟩:=trod_struct1 Tryz.underlying25 hf;obtain ⟨l⟩:=cs
 match l,hsz with
 | [c0],_ =>
  simp only [Value.cells,hL] at g0;simp at g0;obtain ⟨bl,nn,v7,e7,hrv,-,hQ,-⟩:=b2E (α:=Va) Va.cv (fun x=>-9223372036854775808<=x.v/\x.v<=9223372036854775807) Tryz.underlying23 (s:=2) hV de_ (fun n cs y hy=>by
   obtain ⟨y0,y1,m,-,hl,q0,q1⟩:=trod_struct2 Tryz.underlying129 hy;rw [hV] at hl
   match cs,hl with
   | [a0,a1],_ =>
    simp only [hI,hS] at q0 q1;simp at q0 q1;obtain ⟨s,f0,-⟩:=DataW.trod_string c26 q0;obtain ⟨z,f1,-,hw⟩:=DataW.trod_int c2E q1;simp at f0 f1;subst f0;subst f1;simp [Lit.wf,IntKind.min,IntKind.max,IntKind.bits,IntKind.signed] at hw;refine ⟨⟨s.data.toList,z⟩,⟨do_,do_⟩,?_⟩;show RCs w [.val (.string (str s.data.toList)),iv z] _;rw [b8T];exact RCs.val rfl (RCs.val rfl .nil)) g0
  simp at e7;subst e7;exact ⟨bl,nn,RCs.agg (.cons rfl hrv .nil),hQ⟩
end
end Go.Proofs.YtlppbmfecjabeaaGreatDoor
