/- Part 7 of what the claim needs: values without addresses, and what the program's functions do with them. -/
import Derived.Test.YtncmhkpnclafkaaGreatDoorRows
import Derived.Test.YtncmhkpnclafkaaGreatDoorTie
import Derived.Test.YtncmhkpnclafkaaGreatDoorCards
import Derived.SevenTiedAt
import Derived.Lay
import Derived.Test.YtncmhkpnclafkaaGreatDoorC6
set_option linter.all false
set_option maxRecDepth 100000
set_option maxHeartbeats 4000000
namespace Go.Proofs.YtncmhkpnclafkaaGreatDoor
open Go Go.Cl Go.ChangeShapes Go.WideShapes Go.RowKit Go.ChangeAt Go.ChangeMaps Go.Joins Go.Deep
theorem e1x:ownKnob Tryz.prog.godebug=none:=by kernel_rfl
theorem c4x:laidOutB Tryz.prog=true:=by kernel_rfl
abbrev a83:List (String×DataW Unit):=[("math/bits.deBruijn32tab",Rows.laid_math_bits_deBruijn32tab),("math/bits.deBruijn64tab",Rows.laid_math_bits_deBruijn64tab),("internal/strconv.uint64pow10",Rows.laid_internal_strconv_uint64pow10),("unicode/utf8.acceptRanges",Rows.laid_unicode_utf8_acceptRanges),("unicode/utf8.first",Rows.laid_unicode_utf8_first)]
theorem b97:Tryz.prog.globalNamed "internal/strconv.uint64pow10" =some 1:=by kernel_rfl
def c4N:List Int:=[1,10,100,1000,10000,100000,1000000,10000000,100000000,1000000000,10000000000,100000000000,1000000000000,10000000000000,100000000000000,1000000000000000,10000000000000000,100000000000000000,1000000000000000000,10000000000000000000]
theorem d8F:(Rows.laid_internal_strconv_uint64pow10:DataW Unit)=Lib.tabData .u64 c4N:=by kernel_rfl
theorem c08:c5v=c4N.map λz=>CV.val (.int .u64 z):=by rfl
theorem d9V:∃t e n,(Tryz.prog.globals[1]?).map (·.type)=some t/\Tryz.prog.underlying t=some (.array n e)/\Tryz.prog.underlying e=some (.int .u64)/\Tryz.prog.cellsOf e=1/\Tryz.prog.cellsOf t=n:=⟨327,55,20,by kernel_rfl,by kernel_rfl,by kernel_rfl,by kernel_rfl,by kernel_rfl⟩
theorem e0s{Jh:World}(h:laidMetH Tryz.prog a83 Jh):∀g cells,CC.glob g=some cells->GV (R7 Jh) Jh cells g:=by
 rw[MakeChecks.laidMetH_plain _ _ _ w9]at h;obtain⟨ps,⟨_,_,_,_,_,_,_,_,_,_,⟨_,_,_,_,_,_,_,_,_,_,⟨g',t',cs,fuel,p,q,hg',gD,gk,hd,_,_⟩,_⟩,_⟩,_⟩:=h;obtain⟨t,e,n,k1,k2,k3,k4,k5⟩:=d9V;obtain rfl:=Option.some.inj (b97.symm.trans hg');obtain rfl:=Option.some.inj (k1.symm.trans gD);rw[d8F]at hd;have hcs:=Lib.cells_of_tab k2 k3 k4 k5 hd;intro g cells hgc;have hgc':g=1/\cells=c5v:=by
  simp only[CC]at hgc;split at hgc
  .exact ⟨G,(Option.some.inj hgc).symm⟩
  .cases hgc
 obtain⟨rfl,rfl⟩:=hgc';have gx:∃ty fr,Jh.heap[1]?=some (.cells cs ty fr):=by
  simp only[World.var?,b97,n_8]at gk;split at gk
  .rename_i c ty fr hh;injection gk with gk
   subst gk;exact⟨ty,fr,hh⟩
  .cases gk
 obtain⟨ty,fr,hh⟩:=gx;have aP:cs.size=c5v.length:=by
  rw[<- a9A,hcs,c08];simp
 have aZ:∀j:Nat,j<20->Jh.cell? ⟨1,j,none⟩=some (.int .u64 (c4N.getD j 0)):=λj hj=>by
  rw[World.var?_cell b97 gk j,<- Array.getElem?_toList,hcs,N6];have hl:c4N.length=20:=G;obtain⟨z,hz⟩:=gx_ c4N j;rw[hz,b4D,hz];rfl
 have ai:1<Jh.heap.size:=by
  rcases a3d 1 Jh.heap.size with h|h
  .exact h
  .rw [b4H h]at hh;cases hh
 refine⟨.cptr (λj=>.int .u64 (c4N.getD j 0)) (λc hc=>?_) (λj c hj=>?_) (λj c hj=>?_),ai,cs,ty,fr,hh,aP⟩
 .rw [c08]at hc;obtain⟨z,_,rfl⟩:=D8.1 hc;rfl
 .have hj2:j<20:=by
   have:=(n_2.1 hj).1;exact this
  rw[P4];exact⟨.inl ai,aZ j hj2⟩
 .rw [c08,N6,M8]at hj;obtain⟨z,hz,rfl⟩:=hj;rw[b4D,hz];exact .val _
theorem d9t(os:Os):(World.holding Tryz.prog os ⟨#[],#[],[]⟩).layFits Tryz.prog a83 []=true:=by kernel_rfl
theorem c69(os:Os):(World.holding Tryz.prog os ⟨#[],#[],[]⟩).layIfaces Tryz.prog a83 (World.laidAll Tryz.prog os a83)=true:=by kernel_rfl
theorem e0h(os:Os)(args:Array Value):laidMetH Tryz.prog a83 ((World.laidAll Tryz.prog os a83).forCall (λ_ _=>0) ⟨#[],args,[]⟩).memory:=by
 rw[MakeChecks.laidMetH_plain _ _ _ w9];exact laidMet_laidAll _ (d9t os) (c69 os)
section
variable{Jg:Type}{enc:TypeId×Value->Jg}{w:World}{r:Go.Reach}{b0:Nat}
abbrev TrA(enc:TypeId×Value->Jg)(w:World)(t:TypeId)(v:Value)(d:DataW Jg)(p:List MemPlace):Prop:=DataW.Trod enc Tryz.prog w 0 (λ_=>true) true t v d p
theorem d9H{v:Value}{d:DataW Jg}{p:List MemPlace}(hv:Value.okWide Tryz.prog w r b0 22 v)(h:TrA enc w 22 v d p):∃(l:List Int) (nn:Bool),RV (R7 w) w (.list (l.map icv) nn none) v/\l.length<=maxLen/\∀a∈l,-9223372036854775808<=a/\a<=9223372036854775807:=by
 obtain⟨a,len,cap,rfl⟩:=okWide_slice Tryz.underlying22 hv;obtain⟨fuel,h⟩:=h;obtain⟨l,nn,v',e,h1,h2,h3,-⟩:=c8r (α:=Int) icv (λa=>-9223372036854775808<=a/\a<=9223372036854775807) Tryz.underlying22 (s:=1) w9 I (λn cs y hy=>by
  obtain⟨z,rfl,-,hw⟩:=DataW.trod_int c2U hy;simp[Lit.wf,IntKind.min,IntKind.max,IntKind.bits,IntKind.signed]at hw;exact⟨z,J,RCs.val G .nil⟩) h
 simp[Value.cells]at e;subst e;exact⟨l,nn,h1,h2,h3⟩
end
theorem e3y{w:World}{v0 v1:Value}{c0 c1:CV}(h0:RV (R7 w) w c0 v0)(h1:RV (R7 w) w c1 v1):∀(i:Nat) (c:CV),[c0,c1][i]?=some c->RV (R7 w) w c ((#[v0,v1]:Array Value).getD i undef):=λi c hi=>by
 rcases i with _|_|i
 .simp at hi;subst hi;exact h0
 .simp at hi;subst hi;exact h1
 .simp at hi
end Go.Proofs.YtncmhkpnclafkaaGreatDoor
namespace Go.Proofs.YtncmhkpnclafkaaGreatDoor
open Go Go.Cl Go.ChangeShapes Go.WideShapes Go.RowKit Go.ChangeAt Go.ChangeMaps Go.Joins
theorem c41:(Rows.staticCoversRow.inPlace == Tryz.pinned.checked.prog.inPlace 4)=true:=by kernel_rfl
theorem b4J:(Rows.staticCoversRow.unfollowed == Tryz.pinned.checked.prog.unfollowed 4)=true:=by kernel_rfl
theorem b9E:(Rows.staticCoversRow.recurses == Tryz.pinned.checked.prog.recurses 4)=true:=by kernel_rfl
theorem d3o:(Rows.staticCoversRow.named == Tryz.pinned.checked.prog.varsNamed 4)=true:=by kernel_rfl
theorem d0R:joinedFacts Tryz.pinned.checked.prog 4 Tryz.f4 Rows.staticCoversSpec Rows.staticCoversRow=true:=by
 unfold joinedFacts;rw[c41,b4J,b9E,d3o];kernel_rfl
theorem d9R:Tryz.pinned.checked.prog.mainIs=some (Rows.staticCoversCard.stood.harness.fst,Rows.staticCoversCard.stood.harness.snd.toList):=by kernel_rfl
theorem d5l:true=Tryz.pinned.checked.prog.looks []:=by kernel_rfl
theorem d9s:false=Rows.staticCoversRow.goesBy Tryz.pinned.checked.prog:=by kernel_rfl
end Go.Proofs.YtncmhkpnclafkaaGreatDoor
namespace Go.Proofs.YtncmhkpnclafkaaGreatDoor
open Go Go.Cl Go.ChangeShapes Go.WideShapes Go.RowKit Go.ChangeAt Go.ChangeMaps Go.Joins Go.Deep
theorem e0P{Jg:Type}{enc:TypeId×Value->Jg}{w:World}{r:Go.Reach}{b0:Nat}{v:Value}{d:DataW Jg}{p:List MemPlace}(hv:Value.okWide Tryz.prog w r b0 55 v)(h:TrA enc w 55 v d p):∃n:Int,RV (R7 w) w (.val (.int .u64 n)) v/\0<=n/\n<18446744073709551616:=by
 obtain⟨n,rfl,-,hw⟩:=open_int c1E hv h;simp[Lit.wf,IntKind.min,IntKind.max,IntKind.bits,IntKind.signed]at hw;exact⟨n,.val _,J,J⟩
end Go.Proofs.YtncmhkpnclafkaaGreatDoor
