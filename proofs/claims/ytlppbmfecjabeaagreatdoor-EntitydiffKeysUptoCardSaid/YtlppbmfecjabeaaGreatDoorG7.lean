/- Part 7 of what the claim needs: values without addresses, and what the program's functions do with them. -/
import Derived.Test.YtlppbmfecjabeaaGreatDoorRows
import Derived.Test.YtlppbmfecjabeaaGreatDoorTie
import Derived.Test.YtlppbmfecjabeaaGreatDoorCards
import Derived.SevenTiedAt
import Derived.Lay
import Derived.Deep.DeepHandedRow
import Derived.Deep.Strs
import Derived.Test.YtlppbmfecjabeaaGreatDoorG6
set_option linter.all false
set_option maxRecDepth 100000
set_option maxHeartbeats 4000000
namespace Go.Proofs.YtlppbmfecjabeaaGreatDoor
open Go Go.Cl Go.ChangeShapes Go.WideShapes Go.RowKit Go.ChangeAt Go.ChangeMaps Go.Joins Go.Deep
theorem e1O:ownKnob Tryz.prog.godebug=none:=by kernel_rfl
theorem c6l:laidOutB Tryz.prog=true:=by kernel_rfl
abbrev a9X:List (String×DataW Unit):=[("math/bits.deBruijn32tab",Rows.laid_math_bits_deBruijn32tab),("math/bits.deBruijn64tab",Rows.laid_math_bits_deBruijn64tab),("internal/strconv.uint64pow10",Rows.laid_internal_strconv_uint64pow10),("unicode/utf8.acceptRanges",Rows.laid_unicode_utf8_acceptRanges),("unicode/utf8.first",Rows.laid_unicode_utf8_first)]
theorem c2r:Tryz.prog.globalNamed "internal/strconv.uint64pow10" =some 1:=by kernel_rfl
def c7S:List Int:=[1,10,100,1000,10000,100000,1000000,10000000,100000000,1000000000,10000000000,100000000000,1000000000000,10000000000000,100000000000000,1000000000000000,10000000000000000,100000000000000000,1000000000000000000,10000000000000000000]
theorem d9O:(Rows.laid_internal_strconv_uint64pow10:DataW Unit)=Lib.tabData .u64 c7S:=by kernel_rfl
theorem c2V:c1r=c7S.map λz=>CV.val (.int .u64 z):=by rfl
theorem e0s:∃t e n,(Tryz.prog.globals[1]?).map (·.type)=some t/\Tryz.prog.underlying t=some (.array n e)/\Tryz.prog.underlying e=some (.int .u64)/\Tryz.prog.cellsOf e=1/\Tryz.prog.cellsOf t=n:=⟨313,86,20,by kernel_rfl,by kernel_rfl,by kernel_rfl,by kernel_rfl,by kernel_rfl⟩
theorem d9W{Ji:World}(h:laidMetH Tryz.prog a9X Ji):∀g cells,CC.glob g=some cells->GV (whole Ji) Ji cells g:=by
 rw[MakeChecks.laidMetH_plain _ _ _ l8]at h;obtain⟨ps,⟨_,_,_,_,_,_,_,_,_,_,⟨_,_,_,_,_,_,_,_,_,_,⟨g',t',cs,gd,p,q,hg',ht',gq,hd,_,_⟩,_⟩,_⟩,_⟩:=h;obtain⟨t,e,n,k1,k2,k3,k4,k5⟩:=e0s;obtain rfl:=Option.some.inj (c2r.symm.trans hg');obtain rfl:=Option.some.inj (k1.symm.trans ht');rw[d9O]at hd;have hcs:=Lib.cells_of_tab k2 k3 k4 k5 hd;intro g cells hgc;have hgc':g=1/\cells=c1r:=by
  simp only[CC]at hgc;split at hgc
  .exact ⟨J,(Option.some.inj hgc).symm⟩
  .cases hgc
 obtain⟨rfl,rfl⟩:=hgc';have gA:∃ty fr,Ji.heap[1]?=some (.cells cs ty fr):=by
  simp only[World.var?,c2r,n_9]at gq;split at gq
  .rename_i c ty fr hh;injection gq with gq
   subst gq;exact⟨ty,fr,hh⟩
  .cases gq
 obtain⟨ty,fr,hh⟩:=gA;have aJ:cs.size=c1r.length:=by
  rw[<- b0T,hcs,c2V];simp
 have aN:∀j:Nat,j<20->Ji.cell? ⟨1,j,none⟩=some (.int .u64 (c7S.getD j 0)):=λj hj=>by
  rw[World.var?_cell c2r gq j,<- Array.getElem?_toList,hcs,O5];have hl:c7S.length=20:=J;obtain⟨z,hz⟩:=gx_ c7S j;rw[hz,a49,hz];rfl
 have ab:1<Ji.heap.size:=by
  rcases a2J 1 Ji.heap.size with h|h
  .exact h
  .rw [b0X h]at hh;cases hh
 refine⟨.cptr (λj=>.int .u64 (c7S.getD j 0)) (λc hc=>?_) (λj c hj=>?_) (λj c hj=>?_),ab,cs,ty,fr,hh,aJ⟩
 .rw [c2V]at hc;obtain⟨z,_,rfl⟩:=D5.1 hc;rfl
 .have hj2:j<20:=by
   have:=(n_3.1 hj).1;exact this
  rw[K0];exact⟨.inl ab,aN j hj2⟩
 .rw [c2V,O5,P2]at hj;obtain⟨z,hz,rfl⟩:=hj;rw[a49,hz];exact .val _
theorem e0p(os:Os):(World.holding Tryz.prog os ⟨#[],#[],[]⟩).layFits Tryz.prog a9X []=true:=by kernel_rfl
theorem d3p(os:Os):(World.holding Tryz.prog os ⟨#[],#[],[]⟩).layIfaces Tryz.prog a9X (World.laidAll Tryz.prog os a9X)=true:=by kernel_rfl
theorem d9J(os:Os)(args:Array Value):laidMetH Tryz.prog a9X ((World.laidAll Tryz.prog os a9X).forCall (λ_ _=>0) ⟨#[],args,[]⟩).memory:=by
 rw[MakeChecks.laidMetH_plain _ _ _ l8];exact laidMet_laidAll _ (e0p os) (d3p os)
section
variable{Jj:Type}{enc:TypeId×Value->Jj}{w:World}{r:Go.Reach}{b0:Nat}
abbrev TrA(enc:TypeId×Value->Jj)(w:World)(t:TypeId)(v:Value)(d:DataW Jj)(p:List MemPlace):Prop:=DataW.Trod enc Tryz.prog w 0 (λ_=>true) true t v d p
theorem e0d{v:Value}{d:DataW Jj}{p:List MemPlace}(hv:Value.okWide Tryz.prog w r b0 22 v)(h:TrA enc w 22 v d p):∃(l:List Int) (nn:Bool),RV (whole w) w (.list (l.map icv) nn none) v/\l.length<=maxLen/\∀a∈l,-9223372036854775808<=a/\a<=9223372036854775807:=by
 obtain⟨a,len,cap,rfl⟩:=okWide_slice Tryz.underlying22 hv;obtain⟨gd,h⟩:=h;obtain⟨l,nn,v',e,h1,h2,h3,-⟩:=b7X (α:=Int) icv (λa=>-9223372036854775808<=a/\a<=9223372036854775807) Tryz.underlying22 (s:=1) l8 G (λn cs y hy=>by
  obtain⟨z,rfl,-,hw⟩:=DataW.trod_int b8r hy;simp[Lit.wf,IntKind.min,IntKind.max,IntKind.bits,IntKind.signed]at hw;exact⟨z,X,RCs.val J .nil⟩) h
 simp[Value.cells]at e;subst e;exact⟨l,nn,h1,h2,h3⟩
end
theorem e28{w:World}{v0 v1 v2:Value}{c0 c1 c2:CV}(h0:RV (whole w) w c0 v0)(h1:RV (whole w) w c1 v1)(h2:RV (whole w) w c2 v2):∀(i:Nat) (c:CV),[c0,c1,c2][i]?=some c->RV (whole w) w c ((#[v0,v1,v2]:Array Value).getD i undef):=λi c hi=>by
 rcases i with _|_|_|i
 .simp at hi;subst hi;exact h0
 .simp at hi;subst hi;exact h1
 .simp at hi;subst hi;exact h2
 .simp at hi
end Go.Proofs.YtlppbmfecjabeaaGreatDoor
namespace Go.Cl
open Go Go.ChangeShapes Go.WideShapes Go.RowKit Go.ChangeAt
section
variable{Jj:Type}{enc:TypeId×Value->Jj}{P:Program}{w:World}{base:Nat}{fH:Nat->Bool}{io:Bool}
theorem c6D{α:Type} [Inhabited α](f:α->List CV)(Jk:α->Prop)(B:DataW Jj->Prop){t e:TypeId}{gd:Nat}{cs:List Value}{x:DataW Jj×List MemPlace}(ht:P.underlying t=some (.slice e)){s:Nat}(hs:P.cellsOf e=s)(h0:0<s)
 (hB:∀es rs,x.1 = .slice es rs->∀d∈es,B d)
 (dR:∀(n:Nat) (cs:List Value) (y:DataW Jj×List MemPlace),B y.1->DataW.trod enc P w base fH io n e cs=some y->∃a,Jk a/\RCs w (f a) cs)
 (h:DataW.trod enc P w base fH io gd t cs=some x):
 ∃(l:List α) (nn:Bool) (v:Value),cs=[v]/\RV (whole w) w (.list (l.map f) nn none) v/\l.length<=maxLen/\(∀a∈l,Jk a)/\(nn=false->l=[]):=by
 rcases DataW.trod_slice ht h with⟨rfl,-⟩|⟨a,len,cap,fI,rest,n,-,rfl,hxe,hb,hl,hm,ak,hE,-,-⟩
 .exact ⟨[],false,_,J,.list (b:=0) (off:=0) (s:=s) (λ_ _=>undef) (n_7 _) (n_4 _) J a0b (λh=>by simp at h) (λr hr=>by simp at hr) (λr hr=>by simp at hr) (λi j r c hi=>by simp at hi) (λi j r c hi=>by simp at hi) (λk hk=>by cases hk),n_4 _,λa ha=>by simp at ha,λ_=>J⟩
 .have key:∀i:Nat,i<len->∃(a':α) (aS:List Value),Jk a'/\RCs w (f a') aS/\aS.length=s/\∀j,j<s->w.cell? (a.add (i*s+j))=some (aS.getD j undef):=by
   intro i hi;have h1:=hE i hi;have h2:fI[i]?=some (fI[i]'X):=a0H X;rw[h2,c45]at h1;obtain⟨aS,hc,hy⟩:=h1;obtain⟨a',hQ,hR⟩:=dR _ _ _ (hB _ _ (by rw[hxe]) _ (D5.2 ⟨_,b1t _,J⟩)) hy;obtain⟨-,bO,aV⟩:=World.cells?_some hc;rw[hs]at bO aV;refine⟨a',aS,hQ,hR,bO,λj hj=>?_⟩;have:=aV j hj;rw[a0H X]at this;rw[a49,a0H X];rw[<- Go.Deep.add_add,this];rfl
  have dh:∃Jh:Nat->α,∃Jg:Nat->List Value,∀i,i<len->Jk (Jh i)/\RCs w (f (Jh i)) (Jg i)/\(Jg i).length=s/\∀j,j<s->w.cell? (a.add (i*s+j))=some ((Jg i).getD j undef):=by
   classical
   by_cases hlz:len=0
   .subst hlz;exact⟨λ_=>default,λ_=>[],λi hi=>absurd hi (Nat.not_lt_zero _)⟩
   .obtain ⟨a0,-⟩:=key 0 X;have:∀i:Nat,∃p:α×List Value,i<len->Jk p.1/\RCs w (f p.1) p.2/\p.2.length=s/\∀j,j<s->w.cell? (a.add (i*s+j))=some (p.2.getD j undef):=λi=>by
     by_cases hi:i<len
     .obtain ⟨a',aS,h⟩:=key i hi;exact⟨(a',aS),λ_=>h⟩
     .exact ⟨(a0,[]),λh=>absurd h hi⟩
    exact⟨λi=>(Classical.choose (this i)).1,λi=>(Classical.choose (this i)).2,λi hi=>Classical.choose_spec (this i) hi⟩
  obtain⟨Jh,Jg,hF⟩:=dh;have bS:∀(i:Nat) (r:List CV),(((List.range len).map Jh).map f)[i]?=some r->i<len/\r=f (Jh i):=λi r hi=>by
   rw[List.map_map,O5]at hi
   rcases a2J i len with h|h
   .rw [c3i h]at hi;exact⟨h,(Option.some.inj hi).symm⟩
   .rw [b2P (I h)]at hi;cases hi
  have bx:∀r∈((List.range len).map Jh).map f,∃i,i<len/\r=f (Jh i):=λr hr=>by
   obtain⟨i,hi⟩:=N0.1 hr;exact⟨i,bS i r hi⟩
  have bX:(((List.range len).map Jh).map f).length=len:=by simp
  refine⟨(List.range len).map Jh,true,_,J,?_,by simp;omega,λx hx=>?_,λh=>by cases h⟩
  .have:=RV.list (M:=whole w) (w:=w) (Y:=((List.range len).map Jh).map f) (nn:=true) (tok:=none) (a:=some a) (cap:=cap) (b:=a.block) (off:=a.off) (s:=s) (λi j=>(Jg i).getD j undef)
    (by rw[bX];exact hl) hm J (λh=>by cases h) (λay=>?_) (λr hr=>?_) (λr hr=>?_) (λi j r c hi hj=>?_) (λi j r c hi hj=>?_) (λk hk=>by cases hk)
   .rw [bX]at this;exact this
   .rcases b0J len with hz|hz
    .subst hz;exact absurd J ay
    .have:=(hF 0 hz).2.2.2 0 h0;have:=a2Z this;simpa[Addr.add]using this
   .obtain ⟨i,hi,rfl⟩:=bx r hr;rw[(hF i hi).2.1.len,(hF i hi).2.2.1]
   .obtain ⟨i,hi,rfl⟩:=bx r hr;exact(hF i hi).2.1.one
   .obtain ⟨aZ,rfl⟩:=bS i r hi;have hjs:j<s:=by
     have:=(n_3.1 hj).1;rw[(hF i aZ).2.1.len,(hF i aZ).2.2.1]at this;exact this
    have hc:=(hF i aZ).2.2.2 j hjs;rw[a2Z hc,<- a8e]at hc;exact⟨c0v hc _,hc⟩
   .obtain ⟨aZ,rfl⟩:=bS i r hi;exact(hF i aZ).2.1.rv j c hj
  .obtain ⟨i,hi,rfl⟩:=D5.1 hx;exact(hF i (I hi)).1
end
theorem c9u{C:Checked}{os:Os}{f:FuncId}{fn:Func}{s:ChangeSpec}{S:OpenSpec}{k:(Jj:Type)->List (DataW Jj)->Bool}{CX:Ctx}{laid:List (String×DataW Unit)}{Jj:Type}{enc:TypeId×Value->Jj}{Jh:Stop.Interp}{gx dE gy:Bool}{tb:TypeId}(hSe:S={OpenSpec.ofChange s with cond:=some k})
 (hP:CX.P=C.prog)(own:ownKnob C.prog.godebug=none)(cZ:os.Started)(noInit:C.prog.inits.idxOf? f=none)(ck:C.prog.funcs[f]?=some fn)
 (hl:laidOutB C.prog=true)(hread:∀t∈fn.params.toList,C.prog.readableRec t=true/\t<C.prog.types.size)(hv:s.vars=[])
 (hs:∀ds:List (DataW Jj),ds.length=fn.params.size->s.fn Jj ds={results:=[.lit (.bool true)],args:=ds})
 (hrt:fn.resultTypes = #[tb])(htb:C.prog.underlying tb=some .bool)
 (hg:∀Ji,laidMetH C.prog laid Ji->∀g cells,CX.glob g=some cells->GV (whole Ji) Ji cells g)
 (wit:∃(w:World) (tape:Tape) (i:Input),w.os=os/\(w.forCall tape i).Shaped C.prog/\i.vars=[]/\Input.okWide C.prog (w.forCall tape i) .any w.heap.size f i/\S.preRow enc C.prog fn [] false laid (w.forCall tape i).memory i.args/\({}:Assume).holds C.prog (lone (Frame.enter C.prog f i.args .normal) [] (w.forCall tape i)))
 (walk:∀(Ji:World) (base:Nat) (args:Array Value) (ds:List (DataW Jj)) (ps:List MemPlace),k Jj ds=true->(∀(j:Nat) t v,fn.params[j]?=some t->args[j]?=some v->Value.okWide C.prog Ji .any base t v) ->
  DataW.TrodAll enc C.prog Ji 0 (λ_=>true) true fn.params.toList args.toList ds ps ->
  ∃gR:List CV,args.size=gR.length/\(∀(i:Nat) (c:CV),gR[i]?=some c->RV (whole Ji) Ji c (args.getD i undef))/\b8 CX f gR [] λr aa=>r= .ret (.val (.bool true))/\aa=[]):
 ReturnsInHanded {} C os f .any (S.preRow enc C.prog fn [] false laid) ((S.at Jh).post enc C.prog fn false gx dE gy):=by
 subst hSe;refine returnsInHanded_of_row (C:=C) (s:={OpenSpec.ofChange s with cond:=some k}) own cZ noInit ck wit ?_;intro Ji base args ds gs bA bC hW _ hcond _ hL _ _;have hk:k Jj (ds++gs)=true:=hcond _ J;have hW':DataW.Whole enc C.prog fn.params.toList s.vars false Ji args.toList ds gs bA:=hW;obtain⟨p,q,hA,hV,rfl,-,-⟩:=hW;rw[show({OpenSpec.ofChange s with cond:=some k}:OpenSpec).vars=[]from hv]at hV;have hgs:gs=[]/\q=[]:=by
  cases gs with
  |nil=>exact⟨J,hV⟩
  |cons g r=>exact hV.elim
 obtain⟨rfl,rfl⟩:=hgs;rw[a0z]at hk;obtain⟨gR,h1,h2,h3⟩:=walk Ji base args ds p hk bC hA;have eN:ds.length=fn.params.size:=by
  have:∀{ts:List TypeId} {vs:List Value} {ds:List (DataW Jj)} {ps:List MemPlace},DataW.TrodAll enc C.prog Ji 0 (λ_=>true) true ts vs ds ps->ds.length=ts.length:=by
   intro ts
   induction ts with
   |nil=>intro vs ds ps h;obtain⟨-,rfl,-⟩:=trodAll_nil h;rfl
   |cons t ts ih=>intro vs ds ps h;obtain⟨v,vs1,d,ds1,a,b,-,rfl,-,-,h2⟩:=trodAll_cons h;simp[ih h2]
  simpa using this hA
 have hsd:=hs (ds++[]) (I eN);have hc:=b0z (hg Ji hL) h1 h2 h3;rw[hP]at hc;refine hc.mono λe W' ⟨he,hb⟩=>⟨_,he,?_⟩;show s.post enc C.prog fn false gx dE gy Ji args _ W';refine c2z (pa:=p) (pv:=[]) hW' (λb sp hd=>?_) (λsp ah=>?_) (λsp _=>?_) J hb ?_
 .rw [hsd,hrt];exact trodAll_mk1 (shut_bool htb _)
 .rw [hsd];have ab:∀x∈p,x.block <Ji.heap.size:=λx hx=>hW'.lt x (by simp[hx]);simpa using a6Y hl hb hread hA ab λx hx=>ah x (by simp[hx])
 .rw [hsd,hv];rfl
 .exact ok_one hrt J (okWide_bool_mk htb _)
end Go.Cl
namespace Go.Proofs.YtlppbmfecjabeaaGreatDoor
open Go Go.Cl Go.ChangeShapes Go.WideShapes Go.RowKit Go.ChangeAt Go.ChangeMaps Go.Joins Go.Deep
section
variable{Jj:Type}{enc:TypeId×Value->Jj}{w:World}{r:Go.Reach}{b0:Nat}
instance:Inhabited Va:=⟨⟨[],0⟩⟩
theorem b2N(s:ByteArray):str s.data.toList=s:=by cases s;simp[str]
theorem e1N{v:Value}{d:DataW Jj}{p:List MemPlace}(hv:Value.okWide Tryz.prog w r b0 25 v)(h:TrA enc w 25 v d p):∃(l:List Va) (nn:Bool),RV (whole w) w (.agg (E7 l nn)) v/\∀x∈l,-9223372036854775808<=x.v/\x.v<=9223372036854775807:=by
 obtain⟨cs,rfl,aJ⟩:=okWide_struct Tryz.underlying25 hv;have hC:Tryz.prog.cellsOf 25=1:=by kernel_rfl
 have hL:Tryz.prog.cellsOf 23=1:=by kernel_rfl
 have hV:Tryz.prog.cellsOf 129=2:=by kernel_rfl
 have hI:Tryz.prog.cellsOf 3=1:=by kernel_rfl
 have hS:Tryz.prog.cellsOf 9=1:=by kernel_rfl
 rw[hC]at aJ;obtain⟨gd,hf⟩:=h;obtain⟨y0,n,-,-,g0⟩:=trod_struct1 Tryz.underlying25 hf;obtain⟨l⟩:=cs
 match l,aJ with
 | [c0],_=>
  simp only[Value.cells,hL]at g0;simp at g0;obtain⟨bl,nn,v7,e7,bh,-,hQ,-⟩:=b7X (α:=Va) Va.cv (λx=>-9223372036854775808<=x.v/\x.v<=9223372036854775807) Tryz.underlying23 (s:=2) hV G (λn cs y hy=>by
   obtain⟨y0,y1,m,-,hl,q0,q1⟩:=trod_struct2 Tryz.underlying129 hy;rw[hV]at hl
   match cs,hl with
   | [a0,a1],_=>
    simp only[hI,hS]at q0 q1;simp at q0 q1;obtain⟨s,f0,-⟩:=DataW.trod_string c65 q0;obtain⟨z,f1,-,hw⟩:=DataW.trod_int b8r q1;simp at f0 f1;subst f0;subst f1;simp[Lit.wf,IntKind.min,IntKind.max,IntKind.bits,IntKind.signed]at hw;refine⟨⟨s.data.toList,z⟩,⟨Q,Q⟩,?_⟩;show RCs w [.val (.string (str s.data.toList)),iv z] _;rw[b2N];exact RCs.val J (RCs.val J .nil)) g0
  simp at e7;subst e7;exact⟨bl,nn,RCs.agg (.cons J bh .nil),hQ⟩
end
theorem d6O{Jj:Type}{d:DataW Jj}{l:List (DataW Jj)}(h:d∈l):Rows.uptoBulk d<=Rows.uptoBulkAll l:=by
 induction l with
 |nil=>cases h
 |cons x r ih=>
  simp only[Rows.uptoBulkAll]
  rcases J0.1 h with e|e
  .subst e;omega
  .have:=ih e;omega
section
instance:Inhabited Fi:=⟨⟨[],[]⟩⟩
variable{Jj:Type}{enc:TypeId×Value->Jj}{w:World}{r:Go.Reach}{b0:Nat}
theorem e1c{v:Value}{d:DataW Jj}{p:List MemPlace}(hv:Value.okWide Tryz.prog w r b0 32 v)(h:TrA enc w 32 v d p)(hb:Rows.uptoBulk d<=1048576):∃(l:List Fi) (nn:Bool),RV (whole w) w (.agg (o4 l nn)) v/\RvB l:=by
 obtain⟨cs,rfl,aJ⟩:=okWide_struct Tryz.underlying32 hv;have hC:Tryz.prog.cellsOf 32=1:=by kernel_rfl
 have hL:Tryz.prog.cellsOf 30=1:=by kernel_rfl
 have hV:Tryz.prog.cellsOf 54=2:=by kernel_rfl
 have hS:Tryz.prog.cellsOf 9=1:=by kernel_rfl
 rw[hC]at aJ;obtain⟨gd,hf⟩:=h;obtain⟨y0,n,bV,-,g0⟩:=trod_struct1 Tryz.underlying32 hf;have hb0:Rows.uptoBulk y0.1<=1048576:=by
  have e:d=_:=n_8 Prod.fst bV;rw[e]at hb;simp only[Rows.uptoBulk,Rows.uptoBulkAll]at hb;omega
 obtain⟨l⟩:=cs
 match l,aJ with
 | [c0],_=>
  simp only[Value.cells,hL]at g0;simp at g0;obtain⟨bl,nn,v7,e7,bh,-,hQ,-⟩:=c6D (α:=Fi) Fi.cv (λx=>x.p.length<=1000000000) (λd=>Rows.uptoBulk d<=1048576) Tryz.underlying30 (s:=2) hV G (λes rs hx d hd=>by
   rw[hx]at hb0;simp only[Rows.uptoBulk]at hb0;have:=d6O hd;omega) (λn cs y hy hr=>by
   obtain⟨y0,y1,m,hyx,hl,q0,q1⟩:=trod_struct2 Tryz.underlying54 hr;rw[hV]at hl
   match cs,hl with
   | [a0,a1],_=>
    simp only[hS]at q0 q1;simp at q0 q1;obtain⟨s1,f1,g1,-⟩:=DataW.trod_string c65 q0;obtain⟨s2,f2,g2,-⟩:=DataW.trod_string c65 q1;simp at f1 f2;subst f1;subst f2;subst hyx;subst g1;subst g2;simp only[Rows.uptoBulk,Rows.uptoBulkAll]at hy;refine⟨⟨s1.data.toList,s2.data.toList⟩,by show s1.data.toList.length<=_;omega,?_⟩;show RCs w [.val (.string (str s1.data.toList)),.val (.string (str s2.data.toList))] _;rw[b2N,b2N];exact RCs.val J (RCs.val J .nil)) g0
  simp at e7;subst e7;exact⟨bl,nn,RCs.agg (.cons J bh .nil),hQ⟩
end
theorem d5o(os:Os){Jj:Type}(enc:TypeId×Value->Jj):∃iR,DataW.whole enc Tryz.prog ((World.laidAll Tryz.prog os a9X).forCall (λ_ _=>0) ⟨#[],#[.slice none 0 0,.agg #[.slice none 0 0],.agg #[.slice none 0 0]],[]⟩).memory Tryz.f9.params.toList Rows.entitydiffKeysSpec.vars false #[Value.slice none 0 0,.agg #[.slice none 0 0],.agg #[.slice none 0 0]].toList 8=some ([.nil,.agg [.nil],.agg [.nil]],[],iR):=
 ⟨[],by kernel_rfl⟩
theorem a4X(os:Os)(cZ:os.Started)(Jj:Type)(enc:TypeId×Value->Jj)(Jh:Stop.Interp):
 ReturnsInHanded {} Tryz.checked os 9 .any ((Rows.OpenSpec.upto Rows.entitydiffKeysSpec).preRow enc Tryz.prog Tryz.f9 Rows.entitydiffKeysUptoRow.domain false Rows.entitydiffKeysUptoRow.laid) (((Rows.OpenSpec.upto Rows.entitydiffKeysSpec).at Jh).post enc Tryz.prog Tryz.f9 false true false false):=by
 obtain⟨iR,hx⟩:=d5o os enc;refine c9u (s:=Rows.entitydiffKeysSpec) (k:=Rows.uptoSmall) (CX:=CC) (tb:=4) J J e1O cZ l8 Tryz.func9 c6l
  (d0n l8) J (λds hd=>?_) l8 c3V (λJi h=>d9W h)
  (witness_row_at (enc:=enc) (C:=Tryz.checked) false (World.laidAll Tryz.prog os a9X) #[.slice none 0 0,.agg #[.slice none 0 0],.agg #[.slice none 0 0]] (World.laidAll_os _ _ _) l8 l8 l8
   (OpenSpec.preRow_of_cond 8 hx l8 (λk hk=>by cases hk;kernel_rfl) l8 (d9J os _))) ?_
 .rw [show Tryz.f9.params.size=3 by kernel_rfl]at hd
  match ds,hd with
  | [_,_,_],_=>rfl
 .intro Ji base args ds ps hk bC hA;rw[Tryz.params9]at hA bC;obtain⟨v0,vs0,d0,ds0,p0,q0,ap,rfl,rfl,h0,r0⟩:=trodAll_cons hA;obtain⟨v1,vs1,d1,ds1,p1,q1,rfl,rfl,rfl,h1,r1⟩:=trodAll_cons r0;obtain⟨v2,vs2,d2,ds2,p2,q2,rfl,rfl,rfl,h2,r2⟩:=trodAll_cons r1;obtain⟨rfl,rfl,rfl⟩:=trodAll_nil r2;obtain rfl:args= #[v0,v1,v2]:=by cases args;simp_all
  have bK:=a6B hk;simp only[Rows.uptoBulkAll]at bK;obtain⟨l0,nn0,rv0,len0,fit0⟩:=e0d (bC 0 _ _ J J) h0;obtain⟨l1,nn1,rv1,ok1⟩:=e1c (bC 1 _ _ J J) h1 X;obtain⟨l2,nn2,rv2,ok2⟩:=e1N (bC 2 _ _ J J) h2;exact⟨_,J,e28 rv0 rv1 rv2,a72 l0 nn0 len0 l1 nn1 ok1 l2 nn2 ok2 []⟩
end Go.Proofs.YtlppbmfecjabeaaGreatDoor
namespace Go.Proofs.YtlppbmfecjabeaaGreatDoor
open Go Go.Cl Go.ChangeShapes Go.WideShapes Go.RowKit Go.ChangeAt Go.ChangeMaps Go.Joins
theorem c63:(Rows.entitydiffKeysUptoRow.inPlace == Tryz.pinned.checked.prog.inPlace 9)=true:=by kernel_rfl
theorem b7f:(Rows.entitydiffKeysUptoRow.unfollowed == Tryz.pinned.checked.prog.unfollowed 9)=true:=by kernel_rfl
theorem c2l:(Rows.entitydiffKeysUptoRow.recurses == Tryz.pinned.checked.prog.recurses 9)=true:=by kernel_rfl
theorem d3Y:(Rows.entitydiffKeysUptoRow.named == Tryz.pinned.checked.prog.varsNamed 9)=true:=by kernel_rfl
theorem d3V:joinedFacts Tryz.pinned.checked.prog 9 Tryz.f9 (Rows.OpenSpec.upto Rows.entitydiffKeysSpec).bare Rows.entitydiffKeysUptoRow=true:=by
 unfold joinedFacts;rw[c63,b7f,c2l,d3Y];kernel_rfl
theorem e0W:Tryz.pinned.checked.prog.mainIs=some (Rows.entitydiffKeysUptoCard.stood.harness.fst,Rows.entitydiffKeysUptoCard.stood.harness.snd.toList):=by kernel_rfl
theorem d6m:true=Tryz.pinned.checked.prog.looks []:=by kernel_rfl
theorem e0G:false=Rows.entitydiffKeysUptoRow.goesBy Tryz.pinned.checked.prog:=by kernel_rfl
end Go.Proofs.YtlppbmfecjabeaaGreatDoor
