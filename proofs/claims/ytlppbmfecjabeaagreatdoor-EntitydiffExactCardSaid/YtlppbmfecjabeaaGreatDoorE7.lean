/- Part 7: values without addresses. -/
import Derived.Test.YtlppbmfecjabeaaGreatDoorRows
import Derived.Test.YtlppbmfecjabeaaGreatDoorTie
import Derived.Test.YtlppbmfecjabeaaGreatDoorCards
import Derived.SevenTiedAt
import Derived.Lay
import Derived.Deep.Strs
import Derived.Test.YtlppbmfecjabeaaGreatDoorE6
set_option linter.all false
set_option maxRecDepth 100000
set_option maxHeartbeats 4000000
namespace Go.Proofs.YtlppbmfecjabeaaGreatDoor
open Go Go.Cl Go.ChangeShapes Go.WideShapes Go.RowKit Go.ChangeAt Go.ChangeMaps Go.Joins Go.Deep
theorem e0s:ownKnob Tryz.prog.godebug=none:=by kernel_rfl
theorem c6j:laidOutB Tryz.prog=true:=by kernel_rfl
abbrev a9y : List (String × DataW Unit) := [("math/bits.deBruijn32tab", Rows.laid_math_bits_deBruijn32tab), ("math/bits.deBruijn64tab", Rows.laid_math_bits_deBruijn64tab), ("internal/strconv.uint64pow10", Rows.laid_internal_strconv_uint64pow10), ("unicode/utf8.acceptRanges", Rows.laid_unicode_utf8_acceptRanges), ("unicode/utf8.first", Rows.laid_unicode_utf8_first)]
theorem c05 : Tryz.prog.globalNamed "internal/strconv.uint64pow10" = some 1 := by kernel_rfl
def c4q:List Int:=[1,10,100,1000,10000,100000,1000000,10000000,100000000,1000000000,10000000000,100000000000,1000000000000,10000000000000,100000000000000,1000000000000000,10000000000000000,100000000000000000,1000000000000000000,10000000000000000000]
theorem d8p:(Rows.laid_internal_strconv_uint64pow10:DataW Unit)=Lib.tabData .u64 c4q:=by kernel_rfl
theorem b99:b90=c4q.map fun z=>CV.val (.int .u64 z):=by rfl
theorem d8z:∃ t e n,(Tryz.prog.globals[1]?).map (·.type)=some t/\Tryz.prog.underlying t=some (.array n e)/\Tryz.prog.underlying e=some (.int .u64)/\Tryz.prog.cellsOf e=1/\Tryz.prog.cellsOf t=n:=⟨313,86,20,by kernel_rfl,by kernel_rfl,by kernel_rfl,by kernel_rfl,by kernel_rfl⟩
theorem d7A {W:World} (h:laidMetH Tryz.prog a9y W):∀ g cells,CC.glob g=some cells->GV (T4 W) W cells g:=by
 rw [MakeChecks.laidMetH_plain _ _ _ o7] at h;obtain ⟨ps,⟨_,_,_,_,_,_,_,_,_,_,⟨_,_,_,_,_,_,_,_,_,_,⟨g',t',cs,fF,p,q,hg',ht',gk,hd,_,_⟩,_⟩,_⟩,_⟩:=h;obtain ⟨t,e,n,k1,k2,k3,k4,k5⟩:=d8z;obtain rfl:=Option.some.inj (c05.symm.trans hg');obtain rfl:=Option.some.inj (k1.symm.trans ht');rw [d8p] at hd;have hcs:=Lib.cells_of_tab k2 k3 k4 k5 hd;intro g cells hgc;have hgc':g=1/\cells=b90:=by
  simp only [CC] at hgc;split at hgc
  ·exact ⟨rfl,(Option.some.inj hgc).symm⟩
  ·cases hgc
 obtain ⟨rfl,rfl⟩:=hgc';have gr:∃ ty fr,W.heap[1]? = some (.cells cs ty fr):=by
  simp only [World.var?,c05,n_9] at gk;split at gk
  ·rename_i c ty fr hh;injection gk with gk
   subst gk;exact ⟨ty,fr,hh⟩
  ·cases gk
 obtain ⟨ty,fr,hh⟩:=gr;have aI:cs.size=b90.length:=by
  rw [<- a9V,hcs,b99];simp
 have aR:∀ j:Nat,j < 20->W.cell? ⟨1,j,none⟩=some (.int .u64 (c4q.getD j 0)):=fun j hj=>by
  rw [World.var?_cell c05 gk j,<- Array.getElem?_toList,hcs,O5];have hl:c4q.length=20:=rfl;obtain ⟨z,hz⟩:=gx_ c4q j;rw [hz,a58,hz];rfl
 have ab:1 < W.heap.size:=by
  rcases a4r 1 W.heap.size with h | h
  ·exact h
  ·rw [a9E h] at hh;cases hh
 refine ⟨.cptr (fun j=>.int .u64 (c4q.getD j 0)) (fun c hc=>?_) (fun j c hj=>?_) (fun j c hj=>?_),ab,cs,ty,fr,hh,aI⟩
 ·rw [b99] at hc;obtain ⟨z,_,rfl⟩:=F4.1 hc;rfl
 ·have hj2:j < 20:=by
   have:=(n_3.1 hj).1;exact this
  rw [L7];exact ⟨.inl ab,aR j hj2⟩
 ·rw [b99,O5,N6] at hj;obtain ⟨z,hz,rfl⟩:=hj;rw [a58,hz];exact .val _
theorem d8J (os:Os):(World.holding Tryz.prog os ⟨#[],#[],[]⟩).layFits Tryz.prog a9y []=true:=by kernel_rfl
theorem d0K (os:Os):(World.holding Tryz.prog os ⟨#[],#[],[]⟩).layIfaces Tryz.prog a9y (World.laidAll Tryz.prog os a9y)=true:=by kernel_rfl
theorem d7B (os:Os) (args:Array Value):laidMetH Tryz.prog a9y ((World.laidAll Tryz.prog os a9y).forCall (fun _ _=>0) ⟨#[],args,[]⟩).memory:=by
 rw [MakeChecks.laidMetH_plain _ _ _ o7];exact laidMet_laidAll _ (d8J os) (d0K os)
section
variable {H:Type} {enc:TypeId × Value->H} {w:World} {r:Go.Reach} {b0:Nat}
abbrev TrA (enc:TypeId × Value->H) (w:World) (t:TypeId) (v:Value) (d:DataW H) (p:List MemPlace):Prop:=DataW.Trod enc Tryz.prog w 0 (fun _=>true) true t v d p
theorem d8r {v:Value} {d:DataW H} {p:List MemPlace} (hv:Value.okWide Tryz.prog w r b0 22 v) (h:TrA enc w 22 v d p):∃ (l:List Int) (nn:Bool),RV (T4 w) w (.list (l.map icv) nn none) v/\l.length<=maxLen/\∀ a∈l,-9223372036854775808<=a/\a<=9223372036854775807:=by
 obtain ⟨a,len,cap,rfl⟩:=okWide_slice Tryz.underlying22 hv;obtain ⟨fF,h⟩:=h;obtain ⟨l,nn,v',e,h1,h2,h3,-⟩:=b7r (α:=Int) icv (fun a=>-9223372036854775808<=a/\a<=9223372036854775807) Tryz.underlying22 (s:=1) o7 de_ (fun n cs y hy=>by
  obtain ⟨z,rfl,-,hw⟩:=DataW.trod_int b7L hy;simp [Lit.wf,IntKind.min,IntKind.max,IntKind.bits,IntKind.signed] at hw;exact ⟨z,om_,RCs.val rfl .nil⟩) h
 simp [Value.cells] at e;subst e;exact ⟨l,nn,h1,h2,h3⟩
end
theorem e1l {w:World} {v0 v1:Value} {c0 c1:CV} (h0:RV (T4 w) w c0 v0) (h1:RV (T4 w) w c1 v1):∀ (i:Nat) (c:CV),[c0,c1][i]? = some c->RV (T4 w) w c ((#[v0,v1]:Array Value).getD i undef):=fun i c hi=>by
 rcases i with _ | _ | i
 ·simp at hi;subst hi;exact h0
 ·simp at hi;subst hi;exact h1
 ·simp at hi
end Go.Proofs.YtlppbmfecjabeaaGreatDoor
namespace Go.Proofs.YtlppbmfecjabeaaGreatDoor
open Go Go.Cl Go.ChangeShapes Go.WideShapes Go.RowKit Go.ChangeAt Go.ChangeMaps Go.Joins
theorem c6o:(Rows.entitydiffExactRow.inPlace == Tryz.pinned.checked.prog.inPlace 6)=true:=by kernel_rfl
theorem b46:(Rows.entitydiffExactRow.unfollowed == Tryz.pinned.checked.prog.unfollowed 6)=true:=by kernel_rfl
theorem c0S:(Rows.entitydiffExactRow.recurses == Tryz.pinned.checked.prog.recurses 6)=true:=by kernel_rfl
theorem d2m:(Rows.entitydiffExactRow.named == Tryz.pinned.checked.prog.varsNamed 6)=true:=by kernel_rfl
theorem c8z:joinedFacts Tryz.pinned.checked.prog 6 Tryz.f6 Rows.entitydiffExactSpec Rows.entitydiffExactRow=true:=by
 unfold joinedFacts;rw [c6o,b46,c0S,d2m];kernel_rfl
theorem d8K:Tryz.pinned.checked.prog.mainIs=some (Rows.entitydiffExactCard.stood.harness.fst,Rows.entitydiffExactCard.stood.harness.snd.toList):=by kernel_rfl
theorem d3q:true=Tryz.pinned.checked.prog.looks []:=by kernel_rfl
theorem d7R:false=Rows.entitydiffExactRow.goesBy Tryz.pinned.checked.prog:=by kernel_rfl
end Go.Proofs.YtlppbmfecjabeaaGreatDoor
namespace Go.Proofs.YtlppbmfecjabeaaGreatDoor
open Go Go.Cl Go.ChangeShapes Go.WideShapes Go.RowKit Go.ChangeAt Go.ChangeMaps Go.Joins Go.Deep
section
variable {H:Type} {enc:TypeId × Value->H} {w:World} {r:Go.Reach} {b0:Nat}
theorem c3j (s:ByteArray):str s.data.toList=s:=by cases s;simp [str]
theorem d2W {v:Value} {d:DataW H} {p:List MemPlace} (hv:Value.okWide Tryz.prog w r b0 36 v) (h:TrA enc w 36 v d p):∃ (l:List Ky) (nn:Bool),RV (T4 w) w (.list (l.map Ky.cv) nn none) v:=by
 obtain ⟨a,len,cap,rfl⟩:=okWide_slice c6N hv;obtain ⟨fF,h⟩:=h;have hK:Tryz.prog.cellsOf 39=3:=by kernel_rfl
 have hI:Tryz.prog.cellsOf 3=1:=by kernel_rfl
 have hS:Tryz.prog.cellsOf 9=1:=by kernel_rfl
 obtain ⟨l,nn,v',e,h1,-⟩:=b7r (α:=Ky) Ky.cv (fun _=>True) c6N (s:=3) hK de_ (fun n cs y hr=>by
  obtain ⟨y0,y1,y2,m,-,hl,q0,q1,q2⟩:=trod_struct3 Tryz.underlying39 hr;rw [hK] at hl
  match cs,hl with
  | [a0,a1,a2],_ =>
   simp only [hI,hS] at q0 q1 q2;simp at q0 q1 q2;obtain ⟨m0,f0,-⟩:=DataW.trod_int b7L q0;obtain ⟨s1,f1,-⟩:=DataW.trod_string b9r q1;obtain ⟨s2,f2,-⟩:=DataW.trod_string b9r q2;simp at f0 f1 f2;subst f0;subst f1;subst f2;refine ⟨⟨m0,s1.data.toList,s2.data.toList⟩,tt,?_⟩;show RCs w [iv m0,.val (.string (str s1.data.toList)),.val (.string (str s2.data.toList))] _;rw [c3j,c3j];exact RCs.val rfl (RCs.val rfl (RCs.val rfl .nil))) h
 simp [Value.cells] at e;subst e;exact ⟨l,nn,h1⟩
end
end Go.Proofs.YtlppbmfecjabeaaGreatDoor
