/- Part 7 of what the claim needs: values without addresses, and what the program's functions do with them. -/
import Derived.Test.YtlppbmfecjabeaaGreatDoorRows
import Derived.Test.YtlppbmfecjabeaaGreatDoorTie
import Derived.Test.YtlppbmfecjabeaaGreatDoorCards
import Derived.SevenTiedAt
import Derived.Lay
import Derived.Test.YtlppbmfecjabeaaGreatDoorD6
set_option linter.all false
set_option maxRecDepth 100000
set_option maxHeartbeats 4000000
namespace Go.Proofs.YtlppbmfecjabeaaGreatDoor
open Go Go.Cl Go.ChangeShapes Go.WideShapes Go.RowKit Go.ChangeAt Go.ChangeMaps Go.Joins Go.Deep
theorem d9n:ownKnob Tryz.prog.godebug=none:=by kernel_rfl
theorem c35:laidOutB Tryz.prog=true:=by kernel_rfl
abbrev a9g:List (String×DataW Unit):=[("math/bits.deBruijn32tab",Rows.laid_math_bits_deBruijn32tab),("math/bits.deBruijn64tab",Rows.laid_math_bits_deBruijn64tab),("internal/strconv.uint64pow10",Rows.laid_internal_strconv_uint64pow10),("unicode/utf8.acceptRanges",Rows.laid_unicode_utf8_acceptRanges),("unicode/utf8.first",Rows.laid_unicode_utf8_first)]
theorem b9e:Tryz.prog.globalNamed "internal/strconv.uint64pow10" =some 1:=by kernel_rfl
def c5j:List Int:=[1,10,100,1000,10000,100000,1000000,10000000,100000000,1000000000,10000000000,100000000000,1000000000000,10000000000000,100000000000000,1000000000000000,10000000000000000,100000000000000000,1000000000000000000,10000000000000000000]
theorem d7r:(Rows.laid_internal_strconv_uint64pow10:DataW Unit)=Lib.tabData .u64 c5j:=by kernel_rfl
theorem c0b:c3V=c5j.map λz=>CV.val (.int .u64 z):=by rfl
theorem d7L:∃t e n,(Tryz.prog.globals[1]?).map (·.type)=some t/\Tryz.prog.underlying t=some (.array n e)/\Tryz.prog.underlying e=some (.int .u64)/\Tryz.prog.cellsOf e=1/\Tryz.prog.cellsOf t=n:=⟨313,86,20,by kernel_rfl,by kernel_rfl,by kernel_rfl,by kernel_rfl,by kernel_rfl⟩
theorem d7j{Jh:World}(h:laidMetH Tryz.prog a9g Jh):∀g cells,CC.glob g=some cells->GV (V4 Jh) Jh cells g:=by
 rw[MakeChecks.laidMetH_plain _ _ _ D7]at h;obtain⟨ps,⟨_,_,_,_,_,_,_,_,_,_,⟨_,_,_,_,_,_,_,_,_,_,⟨g',t',cs,fuel,p,q,hg',gr,gb,hd,_,_⟩,_⟩,_⟩,_⟩:=h;obtain⟨t,e,n,k1,k2,k3,k4,k5⟩:=d7L;obtain rfl:=Option.some.inj (b9e.symm.trans hg');obtain rfl:=Option.some.inj (k1.symm.trans gr);rw[d7r]at hd;have hcs:=Lib.cells_of_tab k2 k3 k4 k5 hd;intro g cells hgc;have hgc':g=1/\cells=c3V:=by
  simp only[CC]at hgc;split at hgc
  .exact ⟨O,(Option.some.inj hgc).symm⟩
  .cases hgc
 obtain⟨rfl,rfl⟩:=hgc';have gj:∃ty fr,Jh.heap[1]?=some (.cells cs ty fr):=by
  simp only[World.var?,b9e,n_7]at gb;split at gb
  .rename_i c ty fr hh;injection gb with gb
   subst gb;exact⟨ty,fr,hh⟩
  .cases gb
 obtain⟨ty,fr,hh⟩:=gj;have aJ:cs.size=c3V.length:=by
  rw[<- a9u,hcs,c0b];simp
 have aY:∀j:Nat,j<20->Jh.cell? ⟨1,j,none⟩=some (.int .u64 (c5j.getD j 0)):=λj hj=>by
  rw[World.var?_cell b9e gb j,<- Array.getElem?_toList,hcs,P8];have hl:c5j.length=20:=O;obtain⟨z,hz⟩:=gx_ c5j j;rw[hz,a9A,hz];rfl
 have ah:1<Jh.heap.size:=by
  rcases a4g 1 Jh.heap.size with h|h
  .exact h
  .rw [b48 h]at hh;cases hh
 refine⟨.cptr (λj=>.int .u64 (c5j.getD j 0)) (λc hc=>?_) (λj c hj=>?_) (λj c hj=>?_),ah,cs,ty,fr,hh,aJ⟩
 .rw [c0b]at hc;obtain⟨z,_,rfl⟩:=H9.1 hc;rfl
 .have hj2:j<20:=by
   have:=(n_3.1 hj).1;exact this
  rw[P2];exact⟨.inl ah,aY j hj2⟩
 .rw [c0b,P8,M6]at hj;obtain⟨z,hz,rfl⟩:=hj;rw[a9A,hz];exact .val _
theorem d7k(os:Os):(World.holding Tryz.prog os ⟨#[],#[],[]⟩).layFits Tryz.prog a9g []=true:=by kernel_rfl
theorem c8e(os:Os):(World.holding Tryz.prog os ⟨#[],#[],[]⟩).layIfaces Tryz.prog a9g (World.laidAll Tryz.prog os a9g)=true:=by kernel_rfl
theorem d6D(os:Os)(args:Array Value):laidMetH Tryz.prog a9g ((World.laidAll Tryz.prog os a9g).forCall (λ_ _=>0) ⟨#[],args,[]⟩).memory:=by
 rw[MakeChecks.laidMetH_plain _ _ _ D7];exact laidMet_laidAll _ (d7k os) (c8e os)
section
variable{Jg:Type}{enc:TypeId×Value->Jg}{w:World}{r:Go.Reach}{b0:Nat}
abbrev TrA(enc:TypeId×Value->Jg)(w:World)(t:TypeId)(v:Value)(d:DataW Jg)(p:List MemPlace):Prop:=DataW.Trod enc Tryz.prog w 0 (λ_=>true) true t v d p
theorem d7c{v:Value}{d:DataW Jg}{p:List MemPlace}(hv:Value.okWide Tryz.prog w r b0 22 v)(h:TrA enc w 22 v d p):∃(l:List Int) (nn:Bool),RV (V4 w) w (.list (l.map icv) nn none) v/\l.length<=maxLen/\∀a∈l,-9223372036854775808<=a/\a<=9223372036854775807:=by
 obtain⟨a,len,cap,rfl⟩:=okWide_slice Tryz.underlying22 hv;obtain⟨fuel,h⟩:=h;obtain⟨l,nn,v',e,h1,h2,h3,-⟩:=c8K (α:=Int) icv (λa=>-9223372036854775808<=a/\a<=9223372036854775807) Tryz.underlying22 (s:=1) D7 U (λn cs y hy=>by
  obtain⟨z,rfl,-,hw⟩:=DataW.trod_int Tryz.underlying3 hy;simp[Lit.wf,IntKind.min,IntKind.max,IntKind.bits,IntKind.signed]at hw;exact⟨z,J,RCs.val O .nil⟩) h
 simp[Value.cells]at e;subst e;exact⟨l,nn,h1,h2,h3⟩
end
theorem e05{w:World}{v0:Value}{c0:CV}(h0:RV (V4 w) w c0 v0):∀(i:Nat) (c:CV),[c0][i]?=some c->RV (V4 w) w c ((#[v0]:Array Value).getD i undef):=λi c hi=>by
 rcases i with _|i
 .simp at hi;subst hi;exact h0
 .simp at hi
end Go.Proofs.YtlppbmfecjabeaaGreatDoor
namespace Go.Proofs.YtlppbmfecjabeaaGreatDoor
open Go Go.Cl Go.ChangeShapes Go.WideShapes Go.RowKit Go.ChangeAt Go.ChangeMaps Go.Joins
theorem c3B:(Rows.factDependsRow.inPlace == Tryz.pinned.checked.prog.inPlace 10)=true:=by kernel_rfl
theorem b4N:(Rows.factDependsRow.unfollowed == Tryz.pinned.checked.prog.unfollowed 10)=true:=by kernel_rfl
theorem b93:(Rows.factDependsRow.recurses == Tryz.pinned.checked.prog.recurses 10)=true:=by kernel_rfl
theorem d1I:(Rows.factDependsRow.named == Tryz.pinned.checked.prog.varsNamed 10)=true:=by kernel_rfl
theorem c6T:joinedFacts Tryz.pinned.checked.prog 10 Tryz.f10 Rows.factDependsSpec Rows.factDependsRow=true:=by
 unfold joinedFacts;rw[c3B,b4N,b93,d1I];kernel_rfl
theorem d6P:Tryz.pinned.checked.prog.mainIs=some (Rows.factDependsCard.stood.harness.fst,Rows.factDependsCard.stood.harness.snd.toList):=by kernel_rfl
theorem d1j:true=Tryz.pinned.checked.prog.looks []:=by kernel_rfl
theorem d6N:false=Rows.factDependsRow.goesBy Tryz.pinned.checked.prog:=by kernel_rfl
end Go.Proofs.YtlppbmfecjabeaaGreatDoor
