/- Part 7 of what the claim needs: values without addresses, and what the program's functions do with them. -/
import Derived.Test.YtncmhkpnclafkaaGreatDoorRows
import Derived.Test.YtncmhkpnclafkaaGreatDoorTie
import Derived.Test.YtncmhkpnclafkaaGreatDoorCards
import Derived.SevenTiedAt
import Derived.Lay
import Derived.Test.YtncmhkpnclafkaaGreatDoorY6
set_option linter.all false
set_option maxRecDepth 100000
set_option maxHeartbeats 4000000
namespace Go.Proofs.YtncmhkpnclafkaaGreatDoor
open Go Go.Cl Go.ChangeShapes Go.WideShapes Go.RowKit Go.ChangeAt Go.ChangeMaps Go.Joins Go.Deep
theorem e1H:ownKnob Tryz.prog.godebug=none:=by kernel_rfl
theorem c5H:laidOutB Tryz.prog=true:=by kernel_rfl
abbrev a9F:List (String×DataW Unit):=[("math/bits.deBruijn32tab",Rows.laid_math_bits_deBruijn32tab),("math/bits.deBruijn64tab",Rows.laid_math_bits_deBruijn64tab),("internal/strconv.uint64pow10",Rows.laid_internal_strconv_uint64pow10),("unicode/utf8.acceptRanges",Rows.laid_unicode_utf8_acceptRanges),("unicode/utf8.first",Rows.laid_unicode_utf8_first)]
theorem c2j:Tryz.prog.globalNamed "internal/strconv.uint64pow10" =some 1:=by kernel_rfl
def c5X:List Int:=[1,10,100,1000,10000,100000,1000000,10000000,100000000,1000000000,10000000000,100000000000,1000000000000,10000000000000,100000000000000,1000000000000000,10000000000000000,100000000000000000,1000000000000000000,10000000000000000000]
theorem e0q:(Rows.laid_internal_strconv_uint64pow10:DataW Unit)=Lib.tabData .u64 c5X:=by kernel_rfl
theorem c2m:c1M=c5X.map λz=>CV.val (.int .u64 z):=by rfl
theorem d9W:∃t e n,(Tryz.prog.globals[1]?).map (·.type)=some t/\Tryz.prog.underlying t=some (.array n e)/\Tryz.prog.underlying e=some (.int .u64)/\Tryz.prog.cellsOf e=1/\Tryz.prog.cellsOf t=n:=⟨327,55,20,by kernel_rfl,by kernel_rfl,by kernel_rfl,by kernel_rfl,by kernel_rfl⟩
theorem e0K{Jg:World}(h:laidMetH Tryz.prog a9F Jg):∀g cells,CC.glob g=some cells->GV (V8 Jg) Jg cells g:=by
 rw[MakeChecks.laidMetH_plain _ _ _ o9]at h;obtain⟨ps,⟨_,_,_,_,_,_,_,_,_,_,⟨_,_,_,_,_,_,_,_,_,_,⟨g',t',cs,fuel,p,q,hg',gJ,gv,hd,_,_⟩,_⟩,_⟩,_⟩:=h;obtain⟨t,e,n,k1,k2,k3,k4,k5⟩:=d9W;obtain rfl:=Option.some.inj (c2j.symm.trans hg');obtain rfl:=Option.some.inj (k1.symm.trans gJ);rw[e0q]at hd;have hcs:=Lib.cells_of_tab k2 k3 k4 k5 hd;intro g cells hgc;have hgc':g=1/\cells=c1M:=by
  simp only[CC]at hgc;split at hgc
  .exact ⟨O,(Option.some.inj hgc).symm⟩
  .cases hgc
 obtain⟨rfl,rfl⟩:=hgc';have gE:∃ty fr,Jg.heap[1]?=some (.cells cs ty fr):=by
  simp only[World.var?,c2j,n_9]at gv;split at gv
  .rename_i c ty fr hh;injection gv with gv
   subst gv;exact⟨ty,fr,hh⟩
  .cases gv
 obtain⟨ty,fr,hh⟩:=gE;have aK:cs.size=c1M.length:=by
  rw[<- b0d,hcs,c2m];simp
 have aS:∀j:Nat,j<20->Jg.cell? ⟨1,j,none⟩=some (.int .u64 (c5X.getD j 0)):=λj hj=>by
  rw[World.var?_cell c2j gv j,<- Array.getElem?_toList,hcs,O2];have hl:c5X.length=20:=O;obtain⟨z,hz⟩:=gx_ c5X j;rw[hz,a7V,hz];rfl
 have af:1<Jg.heap.size:=by
  rcases a4x 1 Jg.heap.size with h|h
  .exact h
  .rw [b0q h]at hh;cases hh
 refine⟨.cptr (λj=>.int .u64 (c5X.getD j 0)) (λc hc=>?_) (λj c hj=>?_) (λj c hj=>?_),af,cs,ty,fr,hh,aK⟩
 .rw [c2m]at hc;obtain⟨z,_,rfl⟩:=D6.1 hc;rfl
 .have hj2:j<20:=by
   have:=(n_2.1 hj).1;exact this
  rw[O7];exact⟨.inl af,aS j hj2⟩
 .rw [c2m,O2,Q3]at hj;obtain⟨z,hz,rfl⟩:=hj;rw[a7V,hz];exact .val _
theorem e0a(os:Os):(World.holding Tryz.prog os ⟨#[],#[],[]⟩).layFits Tryz.prog a9F []=true:=by kernel_rfl
theorem d1K(os:Os):(World.holding Tryz.prog os ⟨#[],#[],[]⟩).layIfaces Tryz.prog a9F (World.laidAll Tryz.prog os a9F)=true:=by kernel_rfl
theorem e1a(os:Os)(args:Array Value):laidMetH Tryz.prog a9F ((World.laidAll Tryz.prog os a9F).forCall (λ_ _=>0) ⟨#[],args,[]⟩).memory:=by
 rw[MakeChecks.laidMetH_plain _ _ _ o9];exact laidMet_laidAll _ (e0a os) (d1K os)
section
variable{Jf:Type}{enc:TypeId×Value->Jf}{w:World}{r:Go.Reach}{b0:Nat}
abbrev TrA(enc:TypeId×Value->Jf)(w:World)(t:TypeId)(v:Value)(d:DataW Jf)(p:List MemPlace):Prop:=DataW.Trod enc Tryz.prog w 0 (λ_=>true) true t v d p
theorem e0C{v:Value}{d:DataW Jf}{p:List MemPlace}(hv:Value.okWide Tryz.prog w r b0 22 v)(h:TrA enc w 22 v d p):∃(l:List Int) (nn:Bool),RV (V8 w) w (.list (l.map icv) nn none) v/\l.length<=maxLen/\∀a∈l,-9223372036854775808<=a/\a<=9223372036854775807:=by
 obtain⟨a,len,cap,rfl⟩:=okWide_slice Tryz.underlying22 hv;obtain⟨fuel,h⟩:=h;obtain⟨l,nn,v',e,h1,h2,h3,-⟩:=d3o (α:=Int) icv (λa=>-9223372036854775808<=a/\a<=9223372036854775807) Tryz.underlying22 (s:=1) o9 H (λn cs y hy=>by
  obtain⟨z,rfl,-,hw⟩:=DataW.trod_int b8t hy;simp[Lit.wf,IntKind.min,IntKind.max,IntKind.bits,IntKind.signed]at hw;exact⟨z,G,RCs.val O .nil⟩) h
 simp[Value.cells]at e;subst e;exact⟨l,nn,h1,h2,h3⟩
end
theorem e3a{w:World}{v0:Value}{c0:CV}(h0:RV (V8 w) w c0 v0):∀(i:Nat) (c:CV),[c0][i]?=some c->RV (V8 w) w c ((#[v0]:Array Value).getD i undef):=λi c hi=>by
 rcases i with _|i
 .simp at hi;subst hi;exact h0
 .simp at hi
end Go.Proofs.YtncmhkpnclafkaaGreatDoor
namespace Go.Proofs.YtncmhkpnclafkaaGreatDoor
open Go Go.Cl Go.ChangeShapes Go.WideShapes Go.RowKit Go.ChangeAt Go.ChangeMaps Go.Joins
theorem c63:(Rows.staticDependentsRow.inPlace == Tryz.pinned.checked.prog.inPlace 6)=true:=by kernel_rfl
theorem b5N:(Rows.staticDependentsRow.unfollowed == Tryz.pinned.checked.prog.unfollowed 6)=true:=by kernel_rfl
theorem c0V:(Rows.staticDependentsRow.recurses == Tryz.pinned.checked.prog.recurses 6)=true:=by kernel_rfl
theorem d4C:(Rows.staticDependentsRow.named == Tryz.pinned.checked.prog.varsNamed 6)=true:=by kernel_rfl
theorem c8w:joinedFacts Tryz.pinned.checked.prog 6 Tryz.f6 Rows.staticDependentsSpec Rows.staticDependentsRow=true:=by
 unfold joinedFacts;rw[c63,b5N,c0V,d4C];kernel_rfl
theorem e0b:Tryz.pinned.checked.prog.mainIs=some (Rows.staticDependentsCard.stood.harness.fst,Rows.staticDependentsCard.stood.harness.snd.toList):=by kernel_rfl
theorem d6h:true=Tryz.pinned.checked.prog.looks []:=by kernel_rfl
theorem d9m:false=Rows.staticDependentsRow.goesBy Tryz.pinned.checked.prog:=by kernel_rfl
end Go.Proofs.YtncmhkpnclafkaaGreatDoor
