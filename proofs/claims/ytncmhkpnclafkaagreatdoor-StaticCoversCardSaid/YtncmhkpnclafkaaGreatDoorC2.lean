/- Part 2 of what the claim needs: values without addresses, and what the program's functions do with them. -/
import Derived.Lib.Bytealg
import Derived.Recover
import Derived.Lib.Builder
import Derived.Lib.UnsafeStr
import Derived.Sort.Grow
import Derived.Deep.Draws
import Derived.Lib.LaidTab
import Derived.Shelf.Lays
import Derived.Sort.AssemblyPlain
import Derived.Sort.EveryDepth
import Derived.Shelf.Sort.WalkASIn
import Derived.Shelf.Sort.Walk7sIn
import Derived.Shelf.Sort.Walk11sIn
import Derived.Shelf.Sort.WalkC5sIn
import Derived.Shelf.Sort.WalkC4sIn
import Derived.Shelf.Sort.WalkB3sIn
import Derived.Shelf.Sort.Walk13sIn
import Derived.Shelf.Sort.WalkTopsIn
import Derived.Shelf.Sort.So_math_bits_LenInS
import Derived.Shelf.RegionOpen
import Derived.Shelf.AbstractIn
import Derived.Shelf.SlSortCmp.NoneTotal
import Derived.RangeFuncSeq
import Derived.RangeFuncCalls
import Derived.Scope
import Derived.Shelf.Slices.In.SortNone
import Derived.Test.YtncmhkpnclafkaaGreatDoorC1
set_option linter.all false
set_option maxRecDepth 100000
set_option maxHeartbeats 4000000
namespace Go.Cl
variable{t e t' et src dst kt:TypeId}{x y m kx:Operand}{K:L7->List b9->Prop}{C:Ctx}{f:FuncId}{c c':CV}{w:World}{α β:Type}{args args' cells cargs:List CV}{R R':Nat->Nat->Prop}{M:A5}{σ obs:List b9}{P:Program}{k q i n id off:Nat}{l:List (α×β)}{a:α}{p:Pl}{E:Env}{z v:Value}{ob:b9}{af:Array Oper}{o:Oper}{Ji:A7->Env->List b9->Prop}{b:Bool}{S:List (List b9->Prop)}{res:α->L7}{fl:List Nat}{xs:Array Operand}{ts:Array TypeId}
section
theorem e0d{s:Nat}(ho:o.op = .buildSlice t 0 #[])(hu:∀w,(underlying t).run C.P w= .ok (.slice e) w)(hs:∀w,(sizeOf e).run C.P w= .ok s w)
 (hk:∀a,K (.ret (.val (.slice (some a) 0 0))) σ):C5 C σ E o K:=λM w ρ hr _=>by
 obtain⟨hx,eL⟩:=hr.allocFull (.cells #[] e);have az:(execOp ρ o).run C.P w= .ok (.value (.slice (some ⟨w.heap.size,0,none⟩) 0 0)) (w.alloc (.cells #[] e)):=by
  have er:Array.range 0= #[]:=G;simp only[execOp,ho,Instr.buildSlice,Sem.run_bind,hu,Result.andThen_ok,hs];simp[er,Instr.fill,newRow]
 rw[az];exact⟨_,σ,_,hx,eL,.val _,hk _⟩
theorem c2k{aa:List (List CV)}{nn:Bool}{tok:Option Nat}(ho:o.op = .binOp .eql t x (.const (.slice none 0 0)) t')(hx:E.valid x)(ex:E.val C x= .list aa nn tok)(hu:∀w,(underlying t).run C.P w= .ok (.slice e) w)(hb:(!nn)=b):j4 C σ E o (.val (.bool b)):=
 i8 λM w ρ _ h=>by
  have h1:=h x r7 hx;have h2:=h (.const (.slice none 0 0)) r7 G;rw[ex]at h1;have e2:ρ (.const (.slice none 0 0))= .slice none 0 0:=by
   have h2:RV M w (.list [] false none) (ρ (.const (.slice none 0 0))):=h2;obtain⟨a,cap,b',off,s,vals,hv,-,-,fx,dX,-,-,-,-,-,-⟩:=h2.list_inv;cases a with
   |none=>rw[hv,dX G];rfl
   |some a=>simp at fx
  obtain⟨a,cap,b',off,s,vals,hv,-,-,fx,-,-,-,-,-,-,-⟩:=h1.list_inv;refine⟨.bool b,?_,.val _⟩;subst hb;cases a with
  |none=>
   have:nn=false:=U fx.symm;subst this;have heq:∀d,(Op.equalIn (d+1) t (.slice none aa.length cap) (.slice none 0 0)).run C.P w= .ok true w:=λd=>by simp[Op.equalIn,hu]
   have he:(Op.equal t (.slice none aa.length cap) (.slice none 0 0)).run C.P w= .ok true w:=heq 9999;simp[execOp,ho,hv,e2,eqGuard,binOp,he]
  |some a=>
   have:nn=true:=U fx.symm;subst this;have heq:∀d,(Op.equalIn (d+1) t (.slice (some a) aa.length cap) (.slice none 0 0)).run C.P w= .ok false w:=λd=>by simp[Op.equalIn,hu]
   have he:(Op.equal t (.slice (some a) aa.length cap) (.slice none 0 0)).run C.P w= .ok false w:=heq 9999;simp[execOp,ho,hv,e2,eqGuard,binOp,he]
theorem d2R{a:Addr}{s:Nat}{new:List (List CV)}{ti:TypeInfo}(m':Nat)(ho:o.op = .call {callee:=.builtin .append,args:=#[x,y],argTypes:=#[t,t]})(hx:E.valid x)(hy:E.valid y)(ex:E.val C x= .val (.slice (some a) 0 0))
 (aO:∀M w v,Rel C M σ w->RV M w (E.val C y) v->Src C M w new s v)(hu:∀w,(underlying t).run C.P w= .ok (.slice e) w)(hs:∀w,(sizeOf e).run C.P w= .ok s w)(cg:∀w,(typeInfo e).run C.P w= .ok ti w)(hz:∀w,(zeroValue e).run C.P w= .ok z w)(bp:z.cells.size=s)
 (bl:0<new.length)(hb:new.length*ti.bytes<=140737488355328)(aN:new.length<=9223372036854775807)(hm:new.length=m')
 (hk:K (.ret (.vec σ.length 0 m')) (σ++[.vec s new])):C5 C σ E o K:=λM w ρ hr hh=>by
 subst hm;have h1:=hh x J9 hx;have h2:=hh y J9 hy;rw[ex]at h1;have hv:=r6 h1;have ao:=(aO M w _ hr h2).lenOf;have bm:(execOp ρ o).run C.P w=((Builtin.append_ #[t,t] o.type #[ρ x,ρ y]).run C.P w).andThen λv w=>.ok (.value v) w:=by
  simp[execOp,ho,resolve,invoke,builtin]
 obtain⟨dq,fZ⟩:=hr.drewN;have hL:RV M w.drew (.list [] true none) (.slice (some a) 0 0):=.list (aa:=[]) (b:=0) (off:=0) (s:=s) (λ_ _=>undef) (n_6 _) (n_4 _) G (λh=>by cases h) (λh=>by simp at h) (λr hr=>by simp at hr) (λr hr=>by simp at hr) (λi j r c hi=>by simp at hi) (λi j r c hi=>by simp at hi) (λk hk=>by cases hk);have db:=a1f (C:=C) (s:=s) hL (λr hr=>by simp at hr);obtain⟨a1,c1,dO,_,aX,old,hfo,cy,dw⟩:=db;obtain⟨an,cn,hvn,_,bR,arr,cu,aV,bf⟩:=aO M w.drew _ dq (a3v h2);obtain⟨c',cK,fj,az⟩:=Q1 (P:=C.P) (ty:=o.type) (a:=some a) (c:=0) (w:=w) (n:=([]:List (List CV)).length) (m:=new.length) hu (.inl hu) hs cg hz ao hfo cu G5 (U aN) (U hb);rw[bm,hv];change b1H _ _ _ ((Sem.run C.P (Builtin.append_ #[t,t] o.type #[Value.slice (some a) ([]:List (List CV)).length 0,ρ y]) w).andThen _);rw[az];simp only[Result.andThen_ok];have eO:w.drew.heap.size=w.heap.size:=G;rw[<- eO];have dd:(old++arr++Builtin.zeroCells z.cells (c'- (([]:List (List CV)).length+new.length))).size=c'*s:=by
  simp only[b3Z,O9,cy,aV,bp];rw[<- P9,<- P9]
  congr 1;omega
 have aK:=Ext.alloc dq ⟨w.drew.heap.size,c',s⟩ (.cells (old++arr++Builtin.zeroCells z.cells (c'- (([]:List (List CV)).length+new.length))) e);have ax:=a1j (rest:=Builtin.zeroCells z.cells (c'- (([]:List (List CV)).length+new.length))) cy aV aX bR (λi j r c hi hj=>(dw i j r c hi hj).1) (λi j r c hi hj=>(bf i j r c hi hj).1);have bk:=dq.alloc ⟨w.drew.heap.size,c',s⟩ (.cells (old++arr++Builtin.zeroCells z.cells (c'- (([]:List (List CV)).length+new.length))) e) (.vec s ([]++new)) G
  ⟨G,U cK,by unfold maxLen;simp only;omega,U bR,λr hr c hc=>(by
   obtain⟨i,hi⟩:=J6.1 (by simpa using hr:r∈new);obtain⟨j,hj⟩:=J6.1 hc;exact(bf i j r c hi hj).2),_,e,x8 _ _,dd,λi j r c hi hj=>((ax i j r c hi hj).2.mono aK)⟩
 refine⟨.vec σ.length 0 new.length,_,_,fZ.trans aK,bk,?_,hk⟩;have:=RV.vec (M:=M.add ⟨w.drew.heap.size,c',s⟩) (w:=w.drew.alloc (.cells (old++arr++Builtin.zeroCells z.cells (c'- (([]:List (List CV)).length+new.length))) e)) (k:=σ.length) (off:=0) (len:=new.length) (p:=⟨w.drew.heap.size,c',s⟩) (a:=⟨w.drew.heap.size,0,none⟩) a7i (U cK) b8k (λ_=>by simp);simpa using this
end
def b0w:b9->Prop
 | .dead=>True
 | .boxT _ cells=>∀c∈cells,o8 c
 |_=>False
theorem b0w.rel{M':A5}(bg:∀b o,M.at b o->M'.at b o)(hf:∀b,M'.full b->M.full b)(cr:∀b o,M'.cell b o->M.cell b o)(hp:b0w ob)(h:R3 M w p ob/\a6U M p ob):R3 M' w p ob/\a6U M' p ob:=by
 cases ob with
 |dead=>exact⟨O,O⟩
 |boxT t0 cells=>
  obtain⟨⟨arr,ty,e1,e2,e3,e4⟩,g1,g2⟩:=h;exact⟨⟨arr,ty,e1,e2,e3,λi c hi=>(e4 i c hi).pure (λb o ha=>⟨bg b o ha,G⟩) (hp c (n_3 hi))⟩,λhh=>g1 (hf _ hh),λo hh=>g2 o (cr _ o hh)⟩
 |_=>exact hp.elim
theorem b2B{c:α->CV}{S:α->b9}{P:α->Prop}(hC:C.plain)(ap:∀a∈args,o8 a)(hc:∀a,o8 (c a))(hS:∀a,b0w (S a))(hob:b0w ob)(cb:ob.live=true)
 (h:b8 C f (.ptr 0 0::args) [ob] λr ae=>∃a,r= .ret (c a)/\ae=[S a]/\P a)(σ:List b9)(q:Nat)(hq:σ[q]?=some ob):b8 C f (.ptr q 0::args) σ λr ae=>∃a,r= .ret (c a)/\ae=σ.set q (S a)/\P a:=λM w vs hr hn hx=>by
 have gN:q<σ.length:=(n_2.1 hq).1;obtain⟨pq,hpq⟩:∃p,M.pl[q]?=some p:=⟨M.pl[q]'(by rw[hr.len];exact gN),Q⟩
 let LB:Nat->Prop:=λb=>∃(k:Nat) (p:Pl) (aH:b9),k≠q/\M.pl[k]?=some p/\σ[k]?=some aH/\aH.live=true/\p.block=b
 let M0:A5:={pl:=[pq],full:=M.full,cell:=M.cell,keep:=λb=>M.keep b\/LB b}
 have bg:∀b o,M.at b o->M0.at b o/\w.cell? ⟨b,o,none⟩=w.cell? ⟨b,o,none⟩:=λb o h=>⟨h,G⟩;have hLB:∀b,LB b->b<w.heap.size:=λb ⟨k,p,aH,_,hp,hs,hl,hb⟩=>hb▸(hr.obj k p aH hp hs).1.lt hl;have h0:∀{k:Nat} {p:Pl},M0.pl[k]?=some p->k=0/\p=pq:=λ{k p} hp=>by
  rcases k with _|k
  .exact ⟨G,(Option.some.inj hp).symm⟩
  .simp [M0]at hp
 have h0o:∀{k:Nat} {x:b9},[ob][k]?=some x->x=ob:=λ{k x} hx=>by
  rcases k with _|k
  .exact (Option.some.inj hx).symm
  .simp at hx
 have bM:Rel C M0 [ob] w:=⟨G,hr.blk,λk p x hp hs=>by
  obtain⟨rfl,rfl⟩:=h0 hp;obtain rfl:=h0o hs;exact hob.rel (M:=M) (M':=M0) (λb o h=>h) (λb h=>h) (λb o h=>h) (hr.obj q p x hpq hq),λk k' p p' x x' hp aI _ _ _ _ _=>by
  rw[(h0 hp).1,(h0 aI).1],λg cells hg=>⟨by
  have:=(hr.glob g cells hg).rv;cases this with
  |cptr vals h1 h2 h3=>exact .cptr vals h1 h2 λj c hj=>(h3 j c hj).pure bg (hC g cells hg c (n_3 hj)),(hr.glob g cells hg).full,(hr.glob g cells hg).sz⟩,
  λb hb=>(by
   rcases hb with hb|hb
   .exact hr.kep b hb
   .exact hLB b hb),λk p x hp hs hl hb=>by
  obtain⟨rfl,rfl⟩:=h0 hp;obtain rfl:=h0o hs
  rcases hb with hb|⟨k,p',aH,hk,aI,aU,bz,hb⟩
  .exact hr.nk q p x hpq hq hl hb
  .exact hk (hr.inj k q p' p aH x aI hpq aU hq bz hl hb)⟩
 refine(h M0 w vs bM (U hn) λi a hi=>?_).mono λe w' he=>?_
 .rcases i with _|i
  .simp at hi;subst hi;have:=hx 0 (.ptr q 0) Q;generalize vs.getD 0 undef=v0 at this⊢;cases this with
   |ptr hk=>
    rw[hpq]at hk;injection hk with hk
    subst hk;exact .ptr (M:=M0) (k:=0) G
  .simp at hi;exact(hx (i+1) a (U hi)).pure bg (ap a (n_3 hi))
 cases e with
 |panicked ch=>
  obtain⟨c',v,ae,M',_,_,_,_,⟨a,h5,_⟩⟩:=he;cases h5
 |outgrown=>exact he
 |returned v=>
  obtain⟨c',ae,M',h1,h2,h3,a,h4,rfl,hP⟩:=he;injection h4 with h4
  subst h4;have bo:M'.pl[0]?=some pq:=h1.get (M:=M0) G
  let M2:A5:={pl:=M.pl,full:=M'.full,cell:=M'.cell,keep:=M.keep}
  have aK:Ext M w M2 w':=⟨⟨[],by simp[M2]⟩,h1.full,h1.cell,h1.same,h1.sameC,h1.size,h1.drew,h1.os,h1.tape,h1.output,λb hb=>by
   obtain⟨k1,k2,k3,k4⟩:=h1.kept b (.inl hb);exact⟨hb,k2,k3,k4⟩⟩
  have gU:∀{k:Nat} {x:b9},(σ.set q (S a))[k]?=some x->(k=q/\x=S a)\/(k≠q/\σ[k]?=some x):=λ{k x} hk=>by
   rw[a9P]at hk;split at hk
   .rename_i e;exact .inl ⟨e.symm,(Option.some.inj hk).symm⟩
   .rename_i e;exact .inr ⟨λh=>e h.symm,hk⟩
  have cm:∀{k:Nat} {x:b9},(σ.set q (S a))[k]?=some x->x.live=true->∃y,σ[k]?=some y/\y.live=true:=λ{k x} hk hl=>by
   rcases gU hk with⟨rfl,rfl⟩|⟨_,h⟩
   .exact ⟨ob,hq,cb⟩
   .exact ⟨x,h,hl⟩
  refine⟨c a,σ.set q (S a),M2,aK,⟨by simp[M2,hr.len],h2.blk,λk p x hp hs=>?_,λk k' p p' x x' hp aI hs aU hl bz hb=>?_,λg cells hg=>(hr.glob g cells hg).mono aK,λb hb=>a9z (hr.kep b hb) h1.size,λk p x hp hs hl=>?_⟩,h3.pure (M:=M') (M':=M2) (w':=w') (λb o h=>⟨h,G⟩) (hc a),⟨a,G,G,hP⟩⟩
  .rcases gU hs with⟨rfl,rfl⟩|⟨hk,hs⟩
   .have e:p=pq:=by
     have hp:M.pl[k]?=some p:=hp;rw[hpq]at hp;exact(Option.some.inj hp).symm
    subst e;exact(hS a).rel (M:=M') (M':=M2) (λb o h=>h) (λb h=>h) (λb o h=>h) (h2.obj 0 p (S a) bo G)
   .by_cases hl:x.live=true
    .obtain ⟨k1,k2,k3,k4⟩:=h1.kept p.block (.inr ⟨k,p,x,hk,hp,hs,hl,G⟩);obtain⟨g1,g2⟩:=hr.obj k p x hp hs;refine⟨g1.mono aK k2 (λ_ _ _ o ho=>k4 o ho),?_⟩;cases x with
     |dead=>trivial
     |tipT t0 n=>exact λhf=>g2 (k3 hf)
     |_=>exact⟨λhf=>g2.1 (k3 hf),λo ho=>g2.2 o (k4 o ho)⟩
    .cases x<;>first|exact⟨O,O⟩|simp[b9.live]at hl
  .obtain ⟨y,hy,gW⟩:=cm hs hl;obtain⟨y',hy',hyl'⟩:=cm aU bz;exact hr.inj k k' p p' y y' hp aI hy hy' gW hyl' hb
  .obtain ⟨y,hy,gW⟩:=cm hs hl;exact hr.nk k p y hp hy gW
section
theorem b2R{l:List Oper}{j t:Nat}{av:Bool}(c0:CV)(hg:o.guard=some (j,av))(ht:(af[j]?).bind (·.dst)=some t)(hv:E.ok t)(hb:E.f t= .val (.bool b))
 (hd:(match o.dst with|some d=>Nat.blt d n|none=>true)=true)(hy:b=av->C5 C σ E o λr ae=>match r with
  | .ret c=>F0 C n af Ji l (E.put o.dst c (b=av)) ae
  | .pan c=>Ji (.pan c) E ae)(hn:¬b=av->F0 C n af Ji l (E.put o.dst c0 (b=av)) σ):F0 C n af Ji (o::l) E σ:=λM w a hr hf=>by
 have ej:(match o.dst with|some d=>d<n|none=>True):=by
  cases ft:o.dst with
  |none=>trivial
  |some d=>rw[ft]at hd;simpa[b12]using hd
 have h1:RV M w (E.f t) (a.tmps.getD t undef):=hf.rv t hv;rw[hb]at h1;have h2:a.tmps.getD t undef= .bool b:=by generalize a.tmps.getD t undef=Jj at h1;cases h1;rfl
 have aP:t<a.tmps.size:=by
  rcases a3d t a.tmps.size with h'|h'
  .exact h'
  .simp [b4H h',undef]at h2
 have hw:Region.wanted o (yielded af a.tmps)=(b == av):=by
  have h3:a.tmps[t]?=some (.bool b):=by
   rw[a0b,a1V aP]at h2;rw[a1V aP,<- h2];rfl
  have h4:yielded af a.tmps j=some b:=by unfold yielded;rw[ht,n_8,h3]
  simp only[Region.wanted,hg,h4];cases b<;>cases av<;>rfl
 have ft:∀t,o.dst=some t->t<n:=λt ht=>by rw[ht]at ej;exact ej
 unfold wpList;by_cases cJ:b=av
 .rw [W (by rw[hw];simpa using cJ)];refine .inl (a3z (hy cJ M w a.eval hr λx _ hx=>hf.eval hr hx) (λv w' ha=>?_) (λch w' ha=>?_))
  .obtain ⟨c',ae,M',h1,h2,h3,h4⟩:=ha;exact h4.later h1 h2 ((hf.mono h1).put ft (λ_=>h3) λhh=>absurd cJ hh)
  .obtain ⟨c,v,ae,M',h0,h1,h2,h3,h4⟩:=ha;exact⟨E,ae,M',h1,h2,hf.mono h1,c,v,h0,h3,h4⟩
 .rw [H (by rw[hw];simpa using cJ)];exact(hn cJ).later (Ext.refl M w) hr (hf.put ft (λhh=>absurd hh cJ) λ_=>G)
end
section
def P8(C:Ctx)(af:Array Oper)(qs:List Nat)(Ji:A7->Env->List b9->Prop)(S:List (List b9->Prop)):List (Nat×List Nat)->Env->List b9->Prop
 | [],E,σ=>Ji .normal E σ
 |(i,fl)::l,E,σ=>∃o,af[i]?=some o/\((qs.contains i=true/\∃c g,(∀ae,H1 C ae af o E c g)/\P8 C af qs Ji S l (E.put o.dst c g) σ)\/(qs.contains i=false/\(e0z C af o E σ (λc g ae=>a1t S ae fl/\P8 C af qs Ji S l (E.put o.dst c g) ae) (λc ae=>∀E',Ji (.pan c) E' ae)\/c2S C af o E σ (λc g ae=>a1t S ae fl/\P8 C af qs Ji S l (E.put o.dst c g) ae) λc ae=>∀E',Ji (.pan c) E' ae)))
def tfB(ms hd fl:List Nat)(i:Nat):Bool:=(List.range hd.length).all λk=>(ms.getD i 0).testBit (hd.getD k 0) ||fl.contains k
theorem d5W{ms:List Nat}{fl:List Nat}{i:Nat}{σ:List b9}:∀{hd:List Nat} {S:List (List b9->Prop)} (k0:Nat) (S0:List (List b9->Prop)),k0=S0.length->(∀k,k<hd.length->(ms.getD i 0).testBit (hd.getD k 0)=true\/(k0+k)∈fl)->a1t (S0++S) σ fl->TF ms hd S i σ
 | [],_,_,_,_,_,_=>trivial
 |_::_,[],_,_,_,_,_=>trivial
 |x::hd,F::S,k0,S0,h0,hb,hf=>by
  refine⟨λhbit=>?_,d5W (k0+1) (S0++[F]) (by simp[h0]) (λk hk=>?_) (by rw[T5];exact hf)⟩
  .rcases hb 0 (Nat.zero_lt_succ _)with h|h
   .rw [List.getD_cons_zero,hbit]at h;cases h
   .have:=hf.get _ h;rw[h0]at this;simpa[b4D]using this
  .have:=hb (k+1) (Nat.succ_lt_succ hk);rw[show k0+1+k=k0+(k+1) by omega];simpa using this
def c3A(af:Array Oper)(ms qs hd:List Nat)(Lf:Array Bool):List (Nat×List Nat)->Array Bool->Bool
 | [],_=>true
 |(i,fl)::l,L=>(match qs.contains i with
  |true=>b4U af ms Lf L i
  |false=>(match Region.ready .any af L with
   | [j]=>Nat.beq j i
   |_=>false)&&tfB ms hd fl i)&&c3A af ms qs hd Lf l (L.setIfInBounds i true)
theorem b4o{Lf:Array Bool}{ms qs hd:List Nat}{S:List (List b9->Prop)}:∀{l:List (Nat×List Nat)} {L:Array Bool} {E:Env} {σ:List b9} {T:Nat->List b9->Prop},c3A af ms qs hd Lf l L=true->a1s L (l.map Prod.fst)=Lf->(∀j ae,TF ms hd S j ae->T j ae)->P8 C af qs Ji S l E σ->CA C af Ji Lf (λE σ=>Ji .normal E σ) T l.length L E σ
 | [],_,_,_,_,_,hL,_,h=>⟨hL,h⟩
 |(i,fl)::l,L,E,σ,T,hB,hL,hT,⟨o,ho,h⟩=>by
  rw[c3A,R9]at hB
  rcases h with⟨hq,c,g,h1,h2⟩|⟨hq,h⟩
  .rw [hq]at hB;exact c9S (λae=>H1 C ae af o E c g) hB.1 ho (λ_ h=>h) (h1 σ) (b4o hB.2 hL (λj ae h=>⟨hT j ae h,λ_=>h1 ae⟩) h2)
  .simp only[hq,R9]at hB;obtain⟨⟨b1,b2⟩,b3⟩:=hB;have hr:=a1L b1;have go:∀(E':Env) (ae:List b9),a1t S ae fl/\P8 C af qs Ji S l E' ae->T i ae/\CA C af Ji Lf (λE σ=>Ji .normal E σ) T l.length (L.setIfInBounds i true) E' ae:=λE' ae ⟨h1,h2⟩=>by
    refine⟨hT i ae (d5W (fl:=fl) 0 [] G (λk hk=>?_) h1),b4o b3 hL hT h2⟩;unfold tfB at b2;have:=a6h.1 b2 k (List.mem_range.2 hk);rw[P4];simpa using this
   refine⟨by rw[hr];exact b2v _ _,λj hj=>?_⟩;rw[hr,a0r]at hj;subst hj;refine⟨o,ho,?_⟩
   rcases h with(⟨h1,h2⟩|⟨c,g,h1,h2⟩)|h
   .exact .inr (a2X (λ_ _=>⟨G,G,G⟩) (λc g ae hh=>go _ _ hh) (.inl ⟨h1,h2⟩))
   .exact .inl ⟨c,g,h1,(go _ _ h2).2⟩
   .exact .inr (a2X (λ_ _=>⟨G,G,G⟩) (λc g ae hh=>go _ _ hh) (.inr h))
def b00(af:Array Oper)(qs ms hd:List Nat)(tl:List (Nat×List Nat)):Bool:=
 Nat.beq (hd.length+tl.length) af.size &&a8L af ms (a1s (a1s (L0 af) hd) (tl.map Prod.fst)) hd (L0 af)&&c3A af ms qs hd (a1s (a1s (L0 af) hd) (tl.map Prod.fst)) tl (a1s (L0 af) hd)&& (Region.ready .any af (a1s (a1s (L0 af) hd) (tl.map Prod.fst))).isEmpty
theorem b3g{a:Act}(qs:List Nat)(ms hd:List Nat){tl:List (Nat×List Nat)}(hB:b00 af qs ms hd tl=true)(ca:(af.toList.all λo=>match o.dst with|some d=>Nat.blt d n|none=>true)=true)
 (h:Y5 C σ af (λE' S=>P8 C af qs Ji S tl E' σ) hd E [])(hr:Rel C M σ w)(hf:G4 M w n E a):wpAny C.P .any af (O6 C n Ji M w) af.size (L0 af) a {w with drawn:=w.drawn+1}:=by
 simp only[b00,R9]at hB;obtain⟨⟨⟨h1,h2⟩,h3⟩,h4⟩:=hB;obtain⟨bB,hx⟩:=hr.drew;have:=b4Y (f0:=0) (b5H ca) (λE σ M1 w1 a1 hB bP aR cI=>⟨b9e.1 h4,E,σ,M1,bP,aR,cI,hB⟩) (a7R (T:=λ_ _=>True) (f:=tl.length) h2 h λE' S' hk=>b4o h3 G (λj ae hh=>⟨O,hh⟩) hk) hx bB (hf.mono hx);rw[P4,show tl.length+hd.length=af.size by have:=a2l h1;omega]at this;exact this
theorem a21(qs ms hd:List Nat){tl:List (Nat×List Nat)}(hm:C.P.follows .mixedOrders=true)(hB:b00 af qs ms hd tl=true)(ca:(af.toList.all λo=>match o.dst with|some d=>Nat.blt d n|none=>true)=true)
 (h:Y5 C σ af (λE' S=>P8 C af qs Ji S tl E' σ) hd E []):CWp C n (.region id af true) Ji E σ:=λM w a hr hf=>wp_region_any hm (b3g qs ms hd hB ca h hr hf)
theorem d_y(h:j4 C σ E o c)(k:K (.ret c) σ):C5 C σ E o K:=h.mono λ_ _ ⟨h1,h2⟩=>h1▸h2▸k
theorem d3l(ms hd:List Nat){f:Nat}(hm:C.P.follows .mixedOrders=true)(hB:(Nat.beq (f+hd.length) af.size &&a8L af ms (Array.replicate af.size true) hd (L0 af)&& (Region.ready .any af (Array.replicate af.size true)).isEmpty)=true)(ca:(af.toList.all λo=>match o.dst with|some d=>Nat.blt d n|none=>true)=true)
 (h:Y5 C σ af (λE' S=>CA C af Ji (Array.replicate af.size true) (λE σ=>Ji .normal E σ) (λj ae=>TF ms hd S j ae) f (a1s (L0 af) hd) E' σ) hd E []):CWp C n (.region id af true) Ji E σ:=λM w a hr hf=>wp_region_any hm (by
  simp only[R9]at hB;obtain⟨⟨h1,h2⟩,h3⟩:=hB;obtain⟨bB,hx⟩:=hr.drew;have:=b4Y (f0:=0) (b5H ca) (λE σ M1 w1 a1 hB bP aR cI=>⟨b9e.1 h3,E,σ,M1,bP,aR,cI,hB⟩) (a7R (T:=λ_ _=>True) (f:=f) h2 h λE' S' hk=>a43 (λ_ _ h=>⟨O,h⟩) hk) hx bB (hf.mono hx);rw[P4,a2l h1]at this;exact this)
section
variable{Lf:Array Bool}{B:Env->List b9->Prop}{T:Nat->List b9->Prop}{f:Nat}{L:Array Bool}
theorem d9g{i:Nat}{o:Oper}(hr:(match Region.ready .any af L with
 | [j]=>Nat.beq j i
 |_=>false)=true)(ho:af[i]?=some o)(hg:o.guard=none)(h:C5 C σ E o λr ae=>match r with| .ret c=>T i ae/\CA C af Ji Lf B T f (L.setIfInBounds i true) (E.put o.dst c True) ae| .pan c=>∀E',Ji (.pan c) E' ae):CA C af Ji Lf B T (f+1) L E σ:=
 ⟨by rw[a1L hr];exact b2v _ _,λj hj=>by rw[a1L hr,a0r]at hj;subst hj;exact⟨o,ho,.inr (.inl ⟨hg,h⟩)⟩⟩
theorem d9B{i:Nat}{o:Oper}{c:CV}{g:Prop}(hr:(match Region.ready .any af L with
 | [j]=>Nat.beq j i
 |_=>false)=true)(ho:af[i]?=some o)(bj:H1 C σ af o E c g)(h:CA C af Ji Lf B T f (L.setIfInBounds i true) (E.put o.dst c g) σ):CA C af Ji Lf B T (f+1) L E σ:=
 ⟨by rw[a1L hr];exact b2v _ _,λj hj=>by rw[a1L hr,a0r]at hj;subst hj;exact⟨o,ho,.inl ⟨c,g,bj,h⟩⟩⟩
theorem e3F{i i':Nat}{o o':Oper}(hr:(match Region.ready .any af L with
 | [j,j']=>Nat.beq j i&&Nat.beq j' i'
 |_=>false)=true)(ho:af[i]?=some o)(ho':af[i']?=some o')(hg:o.guard=none)(hg':o'.guard=none)(h:C5 C σ E o λr ae=>match r with| .ret c=>T i ae/\CA C af Ji Lf B T f (L.setIfInBounds i true) (E.put o.dst c True) ae| .pan c=>∀E',Ji (.pan c) E' ae)
 (h':C5 C σ E o' λr ae=>match r with| .ret c=>T i' ae/\CA C af Ji Lf B T f (L.setIfInBounds i' true) (E.put o'.dst c True) ae| .pan c=>∀E',Ji (.pan c) E' ae):CA C af Ji Lf B T (f+1) L E σ:=by
 have bB:Region.ready .any af L=[i,i']:=by
  split at hr
  .rename_i j j' hj;rw[R9]at hr;rw[hj,a2l hr.1,a2l hr.2]
  .cases hr
 refine⟨by rw[bB];exact b2v _ _,λj hj=>?_⟩;rw[bB]at hj;simp only[I0,a9B,or_false]at hj
 rcases hj with rfl|rfl
 .exact ⟨o,ho,.inr (.inl ⟨hg,h⟩)⟩
 .exact ⟨o',ho',.inr (.inl ⟨hg',h'⟩)⟩
end
theorem a0Z{qs:List Nat}(h:Ji .normal E σ):P8 C af qs Ji S [] E σ:=h
theorem B1{qs:List Nat}{l:List (Nat×List Nat)}(gN:qs.contains i=false)(ho:af[i]?=some o)(hg:o.guard=none)(h:C5 C σ E o λr ae=>match r with| .ret c=>a1t S ae fl/\P8 C af qs Ji S l (E.put o.dst c True) ae| .pan c=>∀E',Ji (.pan c) E' ae):P8 C af qs Ji S ((i,fl)::l) E σ:=
 ⟨o,ho,.inr ⟨gN,.inl (.inl ⟨hg,h⟩)⟩⟩
theorem C7{qs:List Nat}{l:List (Nat×List Nat)}{g:Prop}(gN:qs.contains i=false)(ho:af[i]?=some o)(bj:H1 C σ af o E c g)(h:a1t S σ fl/\P8 C af qs Ji S l (E.put o.dst c g) σ):P8 C af qs Ji S ((i,fl)::l) E σ:=
 ⟨o,ho,.inr ⟨gN,.inl (.inr ⟨c,g,bj,h⟩)⟩⟩
theorem b1M{qs:List Nat}{l:List (Nat×List Nat)}{g:Prop}(gN:qs.contains i=true)(ho:af[i]?=some o)(bj:∀ae,H1 C ae af o E c g)(h:P8 C af qs Ji S l (E.put o.dst c g) σ):P8 C af qs Ji S ((i,fl)::l) E σ:=
 ⟨o,ho,.inl ⟨gN,c,g,bj,h⟩⟩
end
structure c2F{α:Type} [DecidableEq α](P:Program)(kt:TypeId)(kc:α->CV)(kv:α->Value):Prop where
 rv:∀M w a v,RV M w (kc a) v->v=kv a
 rv':∀M w a,RV M w (kc a) (kv a)
 check:∀b a w,(Instr.checkKey b 10000 kt (kv a)).run P w= .ok () w
 eq:∀a b w,(Op.equal kt (kv a) (kv b)).run P w= .ok (decide (a=b)) w
 now:∃d,(∀w,(underlying kt).run P w= .ok d w)/\∀a b,Instr.sameNow d (kv a) (kv b)=none
 bits:∀a,Instr.sameBits 10000 (kv a) (kv a)=true
section
variable [DecidableEq α]{kc:α->CV}{kv:α->Value}
end
section
variable [DecidableEq α]{kc:α->CV}{kv:α->Value}
end
abbrev D:=List UInt8
def str(l:D):ByteArray:=⟨l.toArray⟩
abbrev sv(l:D):CV:=.val (.string (str l))
theorem a4r(l:D):(str l).size=l.length:=by simp[str,ByteArray.size]
theorem O4(l:D):(str l).toList=l:=by
 rw[ByteArray.toList_eq];simp[str]
theorem c0N(a b:D):str a++str b=str (a++b):=by
 apply ByteArray.ext;simp[str]
theorem d3W(l:D)(i:Nat):(str l)[i]?=l[i]?:=by
 simp only[str,getElem?_def]
 split<;>rename_i h<;>split<;>rename_i h'<;>first|rfl|(exfalso;simp[ByteArray.size]at h h';omega)
theorem b5U(l:D)(a b:Nat):(str l).extract a b=str ((l.take b).drop a):=by
 apply ByteArray.ext;simp[str,List.drop_take]
section
theorem c0Z{l:D}(ho:o.op = .call {callee:=.builtin .len,args:=#[x],argTypes:=#[t]})(hx:E.valid x)(ex:E.val C x=sv l)(hu:∀w,(underlying t).run C.P w= .ok .string w):j4 C σ E o (.val (.int .i64 l.length)):=
 i8 λM w ρ _ h=>by
  have h1:=h x J9 hx;rw[ex]at h1;have h2:=r6 h1;refine⟨.int .i64 l.length,?_,.val _⟩;simp[execOp,ho,h2,resolve,invoke,builtin,Builtin.len_,hu,goInt,a4r]
theorem J2{ix:Operand}{l:D}{i:Int}{k:IntKind}{b:UInt8}(ho:o.op = .index t x ix)(hx:E.valid x)(hi:E.valid ix)(ex:E.val C x=sv l)(ei:E.val C ix= .val (.int k i))(hu:∀w,(underlying t).run C.P w= .ok .string w)(h0:0<=i)(hb:l[i.toNat]?=some b):j4 C σ E o (.val (.int .u8 b.toNat)):=
 i8 λM w ρ _ h=>by
  have h1:=h x r7 hx;have h2:=h ix r7 hi;rw[ex]at h1;rw[ei]at h2;have dP:=r6 h1;have dl:=r6 h2;refine⟨.int .u8 b.toNat,?_,.val _⟩;simp[execOp,ho,dP,dl,Instr.index,hu,asIntOf,h0,d3W,hb]
theorem a8p{a b:D}(ho:o.op = .binOp .add t x y t')(hx:E.valid x)(hy:E.valid y)(ex:E.val C x=sv a)(ey:E.val C y=sv b)(hl:a.length+b.length<=9223372036854775807):j4 C σ E o (sv (a++b)):=
 i8 λM w ρ _ h=>by
  have h1:=h x r7 hx;have h2:=h y r7 hy;rw[ex]at h1;rw[ey]at h2;have dP:=r6 h1;have dl:=r6 h2;refine⟨.string (str (a++b)),?_,.val _⟩;simp[execOp,ho,dP,dl,eqGuard,binOp,Op.stringOp,c0N];rw[a4r,a4r];omega
theorem b4M(a b:D):(a == b)=decide (a=b):=by
 by_cases h:a=b<;>simp[h]
theorem a4O(a b:D):b0q .eql (str a) (str b)=some (decide (a=b)):=by simp[b0q,O4,b4M]
theorem a7p(a b:D):b0q .neq (str a) (str b)=some (!decide (a=b)):=by simp[b0q,O4,b4M]
theorem b66(a b:D):b0q .lss (str a) (str b)=some (Op.bytesLess a b):=by simp[b0q,O4]
theorem b8x(a b:D):b0q .leq (str a) (str b)=some (Op.bytesLess a b ||decide (a=b)):=by simp[b0q,O4,b4M]
theorem a1r{op:BinOp}{a b:D}{r:Bool}(ho:o.op = .binOp op t x y t')(hx:E.valid x)(hy:E.valid y)(ex:E.val C x=sv a)(ey:E.val C y=sv b)(hv:b0q op (str a) (str b)=some r):j4 C σ E o (.val (.bool r)):=
 c6y ho hx hy ex ey hv
end
def bcv(b:UInt8):List CV:=[.val (.int .u8 b.toNat)]
section
theorem I4{lo hi:Option Operand}{l:D}{a h:Nat}(ho:o.op = .slice t x lo hi none)(hx:E.valid x)(ex:E.val C x=sv l)(hu:∀w,(underlying t).run C.P w= .ok .string w)(gp:a0C C E lo 0 a)(gM:a0C C E hi l.length h)(h1:a<=h)(h2:h<=l.length):j4 C σ E o (sv ((l.take h).drop a)):=
 i8 λM w ρ hr hh=>by
  have aD:=hh x r7 hx;rw[ex]at aD;have hv:=r6 aD;have iy:∀v,lo=some v->∃k i,ρ v= .int k i/\0<=i/\i.toNat=a:=λv hv=>by
   subst hv;obtain⟨bI,k,i,he,h0,hi⟩:=gp;have:=hh v r7 bI;rw[he]at this;exact⟨k,i,r6 this,h0,hi⟩
  have fy:∀v,hi=some v->∃k i,ρ v= .int k i/\0<=i/\i.toNat=h:=λv hv=>by
   subst hv;obtain⟨bI,k,i,he,h0,hi⟩:=gM;have:=hh v r7 bI;rw[he]at this;exact⟨k,i,r6 this,h0,hi⟩
  have hb:(Instr.sliceBounds false l.length l.length (lo.map ρ) (hi.map ρ) none).run C.P w= .ok (a,h,l.length) w:=by
   have dE:(a:Int)<=h:=by omega
   have hh2:(h:Int)<=l.length:=by omega
   cases lo with
   |none=>
    have:a=0:=by simpa[a0C]using gp.symm
    subst this;cases hi with
    |none=>
     have:h=l.length:=by simpa[a0C]using gM.symm
     subst this;simp[Instr.sliceBounds]
    |some v=>
     obtain⟨k,i,he,h0,hi⟩:=fy v G;have aT:i<=l.length:=by omega
     simp[Instr.sliceBounds,Instr.sliceBound,he,asIntOf,h0,aT,hi]
   |some Jj=>
    obtain⟨k,i,he,h0,hi0⟩:=iy Jj G;cases hi with
    |none=>
     have:h=l.length:=by simpa[a0C]using gM.symm
     subst this;have aT:i<=l.length:=by omega
     simp[Instr.sliceBounds,Instr.sliceBound,he,asIntOf,h0,aT,hi0]
    |some v=>
     obtain⟨k',i',fz,iz,bd⟩:=fy v G;have aT:i<=h:=by omega
     have eQ:i'<=l.length:=by omega
     simp[Instr.sliceBounds,Instr.sliceBound,he,fz,asIntOf,h0,iz,aT,eQ,hi0,bd]
  refine⟨.string (str ((l.take h).drop a)),?_,.val _⟩;simp[execOp,ho,hv,Instr.sliceAt,Instr.slice,hu,a4r,hb,b5U]
theorem c2v{P:Program}{w:World}:∀(l:D) (acc:D),(forIn (m:=Sem) (l.map λb:UInt8=>Value.int .u8 (b.toNat:Int)) (str acc) λ(c:Value) (s:ByteArray)=>
 match c with
 | .int .u8 n=>(do pure (ForInStep.yield (s.push (UInt8.ofNat n.toNat))):Sem (ForInStep ByteArray))
 |_=>(do
  let _ ← (stuck "bytesToString: byte expected" :Sem PUnit)
  pure (ForInStep.yield s))).run P w= .ok (str (acc++l)) w
 | [],acc=>by simp
 |b::l,acc=>by
  have h:(str acc).push (UInt8.ofNat ((b.toNat:Int).toNat))=str (acc++[b]):=by
   apply ByteArray.ext;simp[str,ByteArray.push]
  rw[a8C,List.forIn_cons];simp only[Sem.run_bind,Sem.run_pure,Result.andThen_ok,h];rw[c2v l (acc++[b])];simp
theorem e2B{l:D}{nn:Bool}{tok:Option Nat}(ho:o.op = .convert src dst x)(hx:E.valid x)(ex:E.val C x= .list (l.map bcv) nn tok)(hs:∀w,(underlying src).run C.P w= .ok (.slice e) w)(hd:∀w,(underlying dst).run C.P w= .ok .string w)(he:∀w,(underlying e).run C.P w= .ok (.int .u8) w):j4 C σ E o (sv l):=
 i8 λM w ρ hr hh=>by
  have aD:=hh x r7 hx;rw[ex]at aD;obtain⟨a,cap,b,off,s',vals,hv,bH,aN,fx,dX,ha,cZ,aQ,hc,ba,_⟩:=aD.list_inv;refine⟨.string (str l),?_,.val _⟩;cases l with
  |nil=>
   cases a with
   |none=>simp[execOp,ho,hv,convert,hs,hd,he,Conv.bytesToString];rfl
   |some a=>simp[execOp,ho,hv,convert,hs,hd,he,Conv.bytesToString,loadCells,loadCellsFrom];rfl
  |cons y l=>
   have cA:=ha Q;have bc:s'=1:=by have:=cZ (bcv y) Q;simpa[bcv]using this.symm
   subst bc;have aZ:∀j,j< (y::l).length->w.cell? ⟨b,off+j,none⟩=some ((((y::l).map λb:UInt8=>Value.int .u8 (b.toNat:Int))[j]?).getD undef):=λj hj=>by
    have h1:((y::l).map bcv)[j]?=some (bcv ((y::l)[j]'hj)):=by rw[N6,a2o hj];rfl
    have h2:=hc j 0 (bcv ((y::l)[j]'hj)) (.val (.int .u8 (((y::l)[j]'hj).toNat:Int))) h1 G;have h3:=r6 (ba j 0 (bcv ((y::l)[j]'hj)) (.val (.int .u8 (((y::l)[j]'hj).toNat:Int))) h1 G);simp only[c0m,a8c]at h2;rw[h2.2,h3,N6,a2o hj];rfl
   have hl:=Q3 (P:=C.P) _ _ aZ;have aA:((List.range (y::l).length).map λj=>(((y::l).map λb:UInt8=>Value.int .u8 (b.toNat:Int))[j]?).getD undef)=(y::l).map λb:UInt8=>Value.int .u8 (b.toNat:Int):=by
    apply List.ext_getElem
    .simp
    .intro i h1 h2;simp at h1;simp[h1]
   have:=c2v (P:=C.P) (w:=w) (y::l) [];simp only[b2j]at this;rw[cA]at hv;simp only[N0]at hv;simp only[execOp,ho,hv,convert,Sem.run_bind,hs,hd,he,Result.andThen_ok,Conv.bytesToString,hl,aA];simp only[List.forIn_toArray];have e0:(ByteArray.empty)=str []:=G;rw[e0];refine(n_7 (λr=>(r.andThen λa w'=>Sem.run C.P (pure (Value.string a)) w').andThen λa w'=>Sem.run C.P (pure (Next.value a)) w') this).trans ?_;simp
end
theorem Rel.settleBlock(hr:Rel C M σ w){b:Nat}(hb:b<w.heap.size)(cM:∀(k:Nat) (p:Pl) (ob:b9),M.pl[k]?=some p->σ[k]?=some ob->ob.live=true->p.block≠b)(hk:¬M.keep b):Ext M w (M.settle b) w/\Rel C (M.settle b) σ w:=by
 have hx:Ext M w (M.settle b) w:=⟨⟨[],by simp[A5.settle]⟩,λ_ h=>.inl h,λ_ _ h=>.inr h,λ_ _=>G,λ_ _ _=>G,n_6 _,R4,G,G,G,λb' h=>⟨h,G,λf=>(by
  rcases f with f|f
  .exact f
  .exact absurd (f▸h) hk),λ_ f=>f⟩⟩
 refine⟨hx,hr.len,λb' o ha=>?_,λk p x hp hs=>?_,hr.inj,λg cells hg=>(hr.glob g cells hg).mono hx,hr.kep,hr.nk⟩
 .rcases ha with(ha|ha)|ha
  .exact hr.blk b' o (.inl ha)
  .omega
  .exact hr.blk b' o (.inr ha)
 .obtain ⟨h1,h2⟩:=hr.obj k p x hp hs;by_cases hl:x.live=true
  .refine ⟨h1.mono hx G (λ_ _ _ _ h=>h),?_⟩;have hf:¬M.full p.block->¬(M.settle b).full p.block:=λh h'=>by
    rcases h' with h'|h'
    .exact h h'
    .exact cM k p x hp hs hl h'
   cases x<;>first|trivial|exact hf h2|exact⟨hf h2.1,h2.2⟩
  .cases x<;>first|exact⟨O,O⟩|simp[b9.live]at hl
theorem b1S{a:Array α}{p:α->Bool}(h:∀x∈a,p x=true):a.filter p=a:=by
 apply Array.toList_inj.1;rw[Array.toList_filter];exact List.filter_eq_self.2 λx hx=>h x (U hx)
theorem a9L{a:Array α}{p:α->Bool}(h:∀x∈a,p x=false):a.filter p= #[]:=by
 apply Array.toList_inj.1;rw[Array.toList_filter];exact List.filter_eq_nil_iff.2 λx hx=>by rw[h x (U hx)];simp
theorem b2Q{ah:Array MapEntry}(ha:b0W ah){seen:Array Nat}{e:MapEntry}(hi:(ah.toList.filter λe=>!seen.contains e.born)[i]?=some e):
 (ah.toList.filter λx=>!(seen.push e.born).contains x.born)=(ah.toList.filter λe=>!seen.contains e.born).eraseIdx i:=by
 have gt:∀(i j:Nat) (e e':MapEntry),ah.toList[i]?=some e->ah.toList[j]?=some e'->e.born=e'.born->i=j:=λi j e e' h1 h2 h3=>ha i j e e' (U h1) (U h2) h3;have hc:∀x:MapEntry,(seen.push e.born).contains x.born=(seen.contains x.born ||x.born == e.born):=λx=>by
  rw[Array.contains_push]
 simp only[hc];generalize ah.toList=l at hi gt;clear ha hc
 induction l generalizing i with
 |nil=>simp at hi
 |cons y l ih=>
  have hag':∀(i j:Nat) (e e':MapEntry),l[i]?=some e->l[j]?=some e'->e.born=e'.born->i=j:=λi j a b h1 h2 h3=>by
   have:=gt (i+1) (j+1) a b (U h1) (U h2) h3;omega
  by_cases hy:seen.contains y.born=true
  .have h1:(!seen.contains y.born)=false:=by rw[hy];rfl
   rw[b2p,H (by rw[h1];simp)]at hi;rw[b2p,H (by rw[hy];simp),b2p,H (by rw[h1];simp)];exact ih hi hag'
  .have hy':seen.contains y.born=false:=U hy;have h1:(!seen.contains y.born)=true:=by rw[hy'];rfl
   have e1:(List.filter (λe=>!seen.contains e.born) (y::l))=y::l.filter λe=>!seen.contains e.born:=by rw[b2p,W h1]
   rw[e1]at hi⊢
   rcases i with _|i
   .simp at hi;subst hi;rw[b2p,H Q];rw[List.eraseIdx_zero,List.tail_cons];refine List.filter_congr λx hx=>?_;have aB:x.born≠y.born:=λhe=>by
     obtain⟨j,hj⟩:=J6.1 hx;have:=gt (j+1) 0 x y (U hj) G he;omega
    simp[aB]
   .rw [List.getElem?_cons_succ]at hi;have aB:y.born≠e.born:=λhe=>by
     have hm:=b4A.1 (n_3 hi);obtain⟨j,hj⟩:=J6.1 hm.1;have:=gt 0 (j+1) y e G (U hj) he;omega
    rw[b2p,W (by rw[hy'];simp[aB]),List.eraseIdx_cons_succ,ih hi hag']
def H0(ah:Array MapEntry)(seen:Array Nat):Array MapEntry:=ah.filter λe=>!seen.contains e.born
theorem b6H(ah:Array MapEntry)(seen:Array Nat):(H0 ah seen).toList=ah.toList.filter λe=>!seen.contains e.born:=Array.toList_filter ..
section
theorem b47{es:List (CV×CV)}(ho:o.op = .range t x)(hx:E.valid x)(ex:E.val C x= .map k)(hu:∀w,(underlying t).run C.P w= .ok (.map kt et) w)(aw:σ[k]?=some (.map es))(hK:K (.ret (.ptr σ.length 0)) (σ.set k .dead++[.iter [] es])):C5 C σ E o K:=λM w ρ hr h=>by
 have h1:=h x r7 hx;rw[ex]at h1;generalize hv:ρ x=v at h1;cases h1 with
 |map hp=>
  rename_i p;obtain⟨h1,h2⟩:=hr.obj k p _ hp aw;have ai:=h1.lt G;obtain⟨ah,ak,g1,g2,g3⟩:=h1;have hnk:=hr.nk k p _ hp aw G;have dq:=hr.dead k;have bx:∀(i:Nat) (e:MapEntry),ah[i]?=some e->e.born <ak:=λi e he=>by
   have ai:i<es.length:=by rw[<- g2.1];exact(a06.1 he).1
   obtain⟨e',h1,_,_,h4⟩:=g3 i es[i] (by simp[ai]);rw[he]at h1;injection h1 with h1
   rw[h1];exact h4
  obtain⟨bP,aR⟩:=dq.settleBlock ai (λk' p' aH aI aU bz hb=>by
   rw[a9P]at aU;split at aU
   .split at aU
    .injection aU with aU;subst aU;cases bz
    .cases aU
   .rename_i aB;exact aB (hr.inj k k' p p' _ _ hp aI aw aU G bz hb.symm)) hnk
  have az:(execOp ρ o).run C.P w= .ok (.value (.pointer (some ⟨w.heap.size,0,none⟩))) (w.alloc (.mapIter (some p.block) ak #[] ak)):=by
   simp[execOp,ho,hv,Instr.range,hu,L4 g1]
  rw[az];have aK:=Ext.alloc aR ⟨w.heap.size,0,0⟩ (.mapIter (some p.block) ak #[] ak);have hk:=(dq.settleBlock ai (λk' p' aH aI aU bz hb=>by
   rw[a9P]at aU;split at aU
   .split at aU
    .injection aU with aU;subst aU;cases bz
    .cases aU
   .rename_i aB;exact aB (hr.inj k k' p p' _ _ hp aI aw aU G bz hb.symm)) hnk).2
  refine⟨.ptr σ.length 0,_,_,bP.trans aK,aR.alloc ⟨w.heap.size,0,0⟩ _ (.iter [] es) G ⟨p.block,#[],ak,ah,ak,x8 _ _,.inr G,?_,.inl G,g2.2,bx,?_,λi x hi=>?_,λi x hi=>by simp at hi⟩,RV.ptr (p:=⟨w.heap.size,0,0⟩) (by
   have hl:=aR.len;simp at hl;simp[A5.add,<- hl]),hK⟩
  .rw [J0 w _ ai];exact g1
  .have:(ah.toList.filter λe=>!(#[]:Array Nat).contains e.born)=ah.toList:=List.filter_eq_self.2 λx _=>by simp
   rw[this];simpa using g2.1
  .have:(ah.toList.filter λe=>!(#[]:Array Nat).contains e.born)=ah.toList:=List.filter_eq_self.2 λx _=>by simp
   rw[this];obtain⟨e,f1,f2,f3,_⟩:=g3 i x hi;exact⟨e,U f1,(f2.mono bP).mono aK,(f3.mono bP).mono aK⟩
theorem b0u{q:Question}(h:q.forced=false):(choose q).run P w= .ok (q.cut (w.tape w.drawn q)) w.drew:=by
 simp[choose,Sem.run,h]
theorem b9X{it:Operand}{aF left:List (CV×CV)}(ho:o.op = .next it false)(hx:E.valid it)(ex:E.val C it= .ptr q 0)(aw:σ[q]?=some (.iter aF left))(hz:left=[]->K (.ret (.tup [.val (.bool false)])) σ)
 (hs:∀(i:Nat) (x:CV×CV),left[i]?=some x->K (.ret (.tup [.val (.bool true),x.1,x.2])) (σ.set q (.iter [x] (left.eraseIdx i)))):C5 C σ E o K:=λM w ρ hr h=>by
 have h1:=h it r7 hx;rw[ex]at h1;generalize hv:ρ it=v at h1;cases h1 with
 |ptr hp=>
  rename_i p;obtain⟨h1,hf,hc⟩:=hr.obj q p _ hp aw;have ai:=h1.lt G;obtain⟨mb,seen,bG,ah,ak,g1,g2,g3,g4,g5,g6,g7,g8,_⟩:=h1;have bw:∀e∈ah,e.born <ak:=λe he=>by
   obtain⟨i,hi⟩:=Array.mem_iff_getElem?.1 he;exact g6 i e hi
  have hA:=b6H ah seen;have hmemA:∀e∈(H0 ah seen),e.born <ak:=λe he=>bw e (Array.mem_filter.1 (show e∈ah.filter λe=>!seen.contains e.born from he)).1;have bN:((H0 ah seen).filter λe=>decide (e.born <ak))=H0 ah seen:=b1S λx hx=>by simpa using hmemA x hx
  have bl:((H0 ah seen).filter λe=>decide (e.born>=ak))= #[]:=a9L λx hx=>by have:=hmemA x hx;simp;omega
  have cH:(!seen.isEmpty && !ah.isEmpty &&ah.all λe=>decide (e.born>=bG))=false:=by
   rcases g4 with rfl|rfl
   .simp
   .by_cases he:ah.isEmpty=true
    .simp [he]
    .have:∃e,e∈ah:=by
      have aP:0<ah.size:=by
       rcases b9x ah.size with h|h
       .exact absurd (by simp[Array.isEmpty,h]) he
       .exact h
      exact⟨ah[0],Array.getElem_mem aP⟩
     obtain⟨e,he⟩:=this;have:(ah.all λe=>decide (e.born>=bG))=false:=by
      rw[c1Z];intro hh;rw[Array.all_eq_true_iff_forall_mem]at hh;have h1:=hh e he;have h2:=bw e he;simp at h1;omega
     rw[this];simp
  have dz:(getObj p.block).run C.P w= .ok (.mapIter (some mb) ak seen bG) w:=by simp[getObj,Sem.run,g1]
  have hrun0:(execOp ρ o).run C.P w=((choose (.mapNext ((if(H0 ah seen).isEmpty then #[none]else #[])++((H0 ah seen)++#[]).map some).size)).run C.P w).andThen λj w'=>
   ((match((if(H0 ah seen).isEmpty then #[none]else #[])++((H0 ah seen)++#[]).map some)[j]? with
    |some (some e)=>(do
     setObj p.block (.mapIter (some mb) ak (seen.push e.born) ak)
     pure (Next.value (.tuple #[.bool true,e.key,e.val])):Sem Next)
    |some none=>pure (Next.value (.tuple #[.bool false]))
    |none=>stuck "Next: no such candidate").run C.P w'):=by
   have hun:(ah.filter λe=>!seen.contains e.born)=H0 ah seen:=G;simp only[execOp,ho,hv,Instr.next,Sem.run_bind,dz,Result.andThen_ok,L4 g3,cH,hun,bN,bl];simp only[a8l,if_false,Sem.run_bind,Sem.run_pure];cases gu:(choose (.mapNext ((if(H0 ah seen).isEmpty then #[none]else #[])++((H0 ah seen)++#[]).map some).size)).run C.P w with
   |halt x w'=>rfl
   |ok j w'=>
    simp only[Result.andThen_ok];generalize ((if(H0 ah seen).isEmpty=true then #[none]else #[])++Array.map some (H0 ah seen++#[]))[j]?=cand
    rcases cand with _|_|e
    .simp [stuck]
    .simp
    .simp only[Sem.run_bind];generalize (setObj p.block (Obj.mapIter (some mb) ak (seen.push e.born) ak)).run C.P w'=r;cases r<;>simp
  rw[hrun0];cases hL:(H0 ah seen).toList with
  |nil=>
   have hempty:(H0 ah seen)= #[]:=Array.toList_inj.1 hL;have eJ:left=[]:=by
    rw[<- hA,hL]at g7;exact c1t g7.symm
   rw[hempty];have gu:(choose (.mapNext (((if(#[]:Array MapEntry).isEmpty then #[none]else #[])++((#[]:Array MapEntry)++#[]).map some).size))).run C.P w= .ok 0 w:=by
    simp[choose,Sem.run,Question.forced]
   rw[gu];have dx:((if(#[]:Array MapEntry).isEmpty=true then #[none]else #[])++Array.map some ((#[]:Array MapEntry)++#[]))[0]?=some none:=by simp
   simp only[Result.andThen_ok];rw[dx];show a1h C M w K (.tuple #[.bool false]) w;exact⟨.tup [.val (.bool false)],σ,M,Ext.refl M w,hr,.tup G (λi c hi=>by
    rcases i with _|i
    .simp at hi;subst hi;exact .val _
    .simp at hi),hz eJ⟩
  |cons e0 r0=>
   have aB:(H0 ah seen).isEmpty=false:=by
    rw[<- Array.isEmpty_toList,hL];rfl
   have aP:(H0 ah seen).size=(ah.toList.filter λe=>!seen.contains e.born).length:=by rw[<- hA];simp
   rw[aB];simp only[a8l,if_false,Array.append_empty,Array.empty_append];have key:∀(j:Nat) (w':World) (M':A5),Ext M w M' w'->Rel C M' σ w'->M'.pl=M.pl->w'.heap=w.heap->j< (H0 ah seen).size->b1H C.P (a1h C M w K) (R5 C M w K) ((match((H0 ah seen).map some)[j]? with
    |some (some e)=>(do
     setObj p.block (.mapIter (some mb) ak (seen.push e.born) ak)
     pure (Next.value (.tuple #[.bool true,e.key,e.val])):Sem Next)
    |some none=>pure (Next.value (.tuple #[.bool false]))
    |none=>stuck "Next: no such candidate").run C.P w'):=by
    intro j w' M' aD bB bo gx hj;obtain⟨e,he⟩:∃e,(H0 ah seen)[j]?=some e:=⟨_,a1V hj⟩;have fz:(ah.toList.filter λe=>!seen.contains e.born)[j]?=some e:=by rw[<- hA];simpa using he
    have hm:((H0 ah seen).map some)[j]?=some (some e):=by rw[c0M,he];rfl
    rw[hm];have gU:(setObj p.block (.mapIter (some mb) ak (seen.push e.born) ak)).run C.P w'= .ok () (World.putObj w' p.block (.mapIter (some mb) ak (seen.push e.born) ak)):=by
     simp[setObj,Sem.run,World.putObj,gx,g1]
    simp only[Sem.run_bind,gU,Result.andThen_ok,Sem.run_pure];have cB:j<left.length:=by rw[<- g7];exact(n_2.1 fz).1
    obtain⟨x,dm⟩:∃x,left[j]?=some x:=⟨left[j],by simp[cB]⟩;obtain⟨e2,f1,f2,f3⟩:=g8 j x dm;rw[fz]at f1;injection f1 with f1
    subst f1;have aI:M'.pl[q]?=some p:=by rw[bo];exact hp
    obtain⟨ob1,gJ,bA⟩:=bB.obj q p _ aI aw;have bt:p.block <w'.heap.size:=ob1.lt G;have aK:=Ext.putObj (w:=w') (.mapIter (some mb) ak (seen.push e.born) ak) (bB.nk q p _ aI aw G) gJ bA;have hne2:p.block≠mb:=λhb=>by
     rw[hb]at g1;rw[g1]at g3;cases g3
    have bk:=bB.putObj (ob:=.iter [x] (left.eraseIdx j)) aI aw G gJ bA (.mapIter (some mb) ak (seen.push e.born) ak) ⟨mb,seen.push e.born,ak,ah,ak,World.putObj_same w' _ bt,aD.full _ g2,by rw[World.putObj_other w' _ hne2,gx];exact g3,.inr G,g5,g6,by
     rw[b2Q g5 fz,List.length_eraseIdx,List.length_eraseIdx,g7],λi y hi=>by
     rw[b2Q g5 fz];rw[List.getElem?_eraseIdx]at hi⊢;split at hi
     .rename_i hij;rw[W hij];obtain⟨e3,u1,u2,u3⟩:=g8 i y hi;exact⟨e3,u1,(u2.mono aD).mono aK,(u3.mono aD).mono aK⟩
     .rename_i hij;rw[H hij];obtain⟨e3,u1,u2,u3⟩:=g8 (i+1) y hi;exact⟨e3,u1,(u2.mono aD).mono aK,(u3.mono aD).mono aK⟩,λi y hi=>by
     rcases i with _|i
     .simp at hi;subst hi;obtain⟨j0,hj0⟩:=Array.mem_iff_getElem?.1 (Array.mem_filter.1 (show e∈ah.filter λe=>!seen.contains e.born from b4k he)).1;exact⟨G,j0,e,hj0,Q,(f2.mono aD).mono aK,(f3.mono aD).mono aK⟩
     .simp at hi⟩
    refine⟨.tup [.val (.bool true),x.1,x.2],_,M',aD.trans aK,bk,.tup G (λi c hi=>?_),hs j x dm⟩
    rcases i with _|_|_|i
    .simp at hi;subst hi;exact .val _
    .simp at hi;subst hi;exact(f2.mono aD).mono aK
    .simp at hi;subst hi;exact(f3.mono aD).mono aK
    .simp at hi
   have hpos:0< (H0 ah seen).size:=by rw[<- a9A,hL];simp
   have hszm:((H0 ah seen).map some).size=(H0 ah seen).size:=by simp
   rw[hszm];by_cases h1:(H0 ah seen).size<=1
   .have gu:(choose (.mapNext (H0 ah seen).size)).run C.P w= .ok 0 w:=by
     simp[choose,Sem.run,Question.forced,h1]
    rw[gu];exact key 0 w M (Ext.refl M w) hr G G hpos
   .have gu:(choose (.mapNext (H0 ah seen).size)).run C.P w= .ok ((Question.mapNext (H0 ah seen).size).cut (w.tape w.drawn (.mapNext (H0 ah seen).size))) w.drew:=b0u (by simp[Question.forced];omega);rw[gu];obtain⟨dq,fZ⟩:=hr.drew;exact key _ w.drew M fZ dq G G (a63 _ hpos)
theorem b5g{it:Operand}{x:CV×CV}{left:List (CV×CV)}(ho:o.op = .entry it)(hx:E.valid it)(ex:E.val C it= .ptr q 0)(aw:σ[q]?=some (.iter [x] left)):j4 C σ E o (.tup [x.1,x.2]):=
 i8 λM w ρ hr h=>by
  have h1:=h it r7 hx;rw[ex]at h1;generalize hv:ρ it=v at h1;cases h1 with
  |ptr hp=>
   rename_i p;obtain⟨mb,seen,bG,ah,ak,g1,g2,g3,g4,g5,g6,g7,g8,g9⟩:=(hr.obj q p _ hp aw).1;obtain⟨hl,j,e,f1,f2,f3,f4⟩:=g9 0 x G;have hfind:ah.find? (λe'=>e'.born == e.born)=some e:=by
    rw[<- Array.find?_toList];have hj:ah.toList[j]?=some e:=U f1;obtain⟨ai,hje⟩:=n_2.1 hj;rw[List.find?_eq_some_iff_getElem];refine⟨Q,j,ai,hje,λk hk=>?_⟩;have aB:ah.toList[k].born≠e.born:=λhb=>by
     have:=g5 k j ah.toList[k] e Q f1 hb;omega
    simpa using aB
   have dz:(getObj p.block).run C.P w= .ok (.mapIter (some mb) ak seen bG) w:=by simp[getObj,Sem.run,g1]
   refine⟨.tuple #[e.key,e.val],?_,.tup G λi c hi=>?_⟩
   .simp [execOp,ho,hv,Instr.entry,dz,f2,L4 g3,hl,hfind]
   .rcases i with _|_|i
    .simp at hi;subst hi;exact f3
    .simp at hi;subst hi;exact f4
    .simp at hi
end
structure R2{α:Type} [DecidableEq α](P:Program)(kt:TypeId)(kc:α->CV)(kv:α->Value):Prop where
 rv:∀M w a v,RV M w (kc a) v->v=kv a
 rv':∀M w a,RV M w (kc a) (kv a)
 check:∀b a w,(Instr.checkKey b 10000 kt (kv a)).run P w= .ok () w
 bits:∀a,Instr.sameBits 10000 (kv a) (kv a)=true
 none:∀(a:α) (l:List α) (ah:List MapEntry),ah.length=l.length->(∀(i:Nat) (x:α),l[i]?=some x->∃e,ah[i]?=some e/\e.key=kv x)->a∉l->∀w,(Instr.findKey kt (kv a) ah).run P w= .ok none w
 some:∀(a:α) (l:List α) (ah:List MapEntry),ah.length=l.length->(∀(i:Nat) (x:α),l[i]?=some x->∃e,ah[i]?=some e/\e.key=kv x)->∀(i:Nat) (e:MapEntry),l[i]?=some a->(∀j,j<i->l[j]?≠some a)->ah[i]?=some e->∀w,(Instr.findKey kt (kv a) ah).run P w= .ok (some (i,e.val)) w
section
variable [DecidableEq α]{kc:α->CV}{kv:α->Value}
theorem a4I{d:TypeDesc}(hs:∀a b,Instr.sameNow d (kv a) (kv b)=some (decide (a=b)))(a:α):∀(l:List α) (ah:List MapEntry) (n:Nat),ah.length=l.length->(∀(i:Nat) (x:α),l[i]?=some x->∃e,ah[i]?=some e/\e.key=kv x) ->
 (a∉l->Instr.findNow d (kv a) ah n=some none)/\∀(i:Nat) (e:MapEntry),l[i]?=some a->(∀j,j<i->l[j]?≠some a)->ah[i]?=some e->Instr.findNow d (kv a) ah n=some (some (n+i,e.val))
 | [],[],n,_,_=>⟨λ_=>G,λi e h=>by simp at h⟩
 | [],_::_,_,h,_=>by simp at h
 |_::_,[],_,h,_=>by simp at h
 |x::l,e0::ah,n,hl,hh=>by
  obtain⟨e',he,hk⟩:=hh 0 x G;simp at he;subst he;obtain⟨ih1,ih2⟩:=a4I hs a l ah (n+1) (U hl) λi y hi=>hh (i+1) y (U hi);by_cases hax:a=x
  .subst hax;refine⟨λh=>absurd Q h,λi e hi eS he=>?_⟩
   rcases i with _|i
   .simp at he;subst he;simp[Instr.findNow,hk,hs]
   .exact absurd G (eS 0 J)
  .have step:Instr.findNow d (kv a) (e0::ah) n=Instr.findNow d (kv a) ah (n+1):=by simp[Instr.findNow,hk,hs,hax]
   refine⟨λh=>by rw[step];exact ih1 (λhm=>h (by simp[hm])),λi e hi eS he=>?_⟩
   rcases i with _|i
   .simp at hi;exact absurd hi.symm hax
   .rw [step,ih2 i e (U hi) (λj hj=>by simpa using eS (j+1) J) (U he)]
    congr 3;omega
theorem a9g{d:TypeDesc}(ba:∀M w a v,RV M w (kc a) v->v=kv a)(hrv':∀M w a,RV M w (kc a) (kv a))(hu:∀w,(underlying kt).run P w= .ok d w)(hs:∀a b,Instr.sameNow d (kv a) (kv b)=some (decide (a=b)))
 (hc:∀b a w,(Instr.checkKey b 10000 kt (kv a)).run P w= .ok () w)(hb:∀a,Instr.sameBits 10000 (kv a) (kv a)=true):R2 P kt kc kv where
 rv:=ba
 rv':=hrv'
 check:=hc
 bits:=hb
 none a l ah h1 h2 h3 w:=by simp[Instr.findKey,hu,(a4I hs a l ah 0 h1 h2).1 h3]
 some a l ah h1 h2 i e h3 h4 h5 w:=by
  have:=(a4I hs a l ah 0 h1 h2).2 i e h3 h4 h5;simp[Instr.findKey,hu,this]
theorem a4K(heq:∀a b w,(Op.equal kt (kv a) (kv b)).run P w= .ok (decide (a=b)) w)(a:α):∀(l:List α) (ah:List MapEntry) (n:Nat),ah.length=l.length->(∀(i:Nat) (x:α),l[i]?=some x->∃e,ah[i]?=some e/\e.key=kv x) ->
 (a∉l->∀w,(Instr.findAsking kt (kv a) ah n).run P w= .ok none w)/\∀(i:Nat) (e:MapEntry),l[i]?=some a->(∀j,j<i->l[j]?≠some a)->ah[i]?=some e->∀w,(Instr.findAsking kt (kv a) ah n).run P w= .ok (some (n+i,e.val)) w
 | [],[],n,_,_=>⟨λ_ w=>by simp[Instr.findAsking],λi e h=>by simp at h⟩
 | [],_::_,_,h,_=>by simp at h
 |_::_,[],_,h,_=>by simp at h
 |x::l,e0::ah,n,hl,hh=>by
  obtain⟨e',he,hk⟩:=hh 0 x G;simp at he;subst he;obtain⟨ih1,ih2⟩:=a4K heq a l ah (n+1) (U hl) λi y hi=>hh (i+1) y (U hi);by_cases hax:a=x
  .subst hax;refine⟨λh=>absurd Q h,λi e hi eS he w=>?_⟩
   rcases i with _|i
   .simp at he;subst he;simp[Instr.findAsking,hk,heq]
   .exact absurd G (eS 0 J)
  .have step:∀w,(Instr.findAsking kt (kv a) (e0::ah) n).run P w=(Instr.findAsking kt (kv a) ah (n+1)).run P w:=λw=>by simp[Instr.findAsking,hk,heq,hax]
   refine⟨λh w=>by rw[step];exact ih1 (λhm=>h (by simp[hm])) w,λi e hi eS he w=>?_⟩
   rcases i with _|i
   .simp at hi;exact absurd hi.symm hax
   .rw [step,ih2 i e (U hi) (λj hj=>by simpa using eS (j+1) J) (U he)]
    congr 3;omega
theorem c2F.find(hK:c2F P kt kc kv):R2 P kt kc kv where
 rv:=hK.rv
 rv':=hK.rv'
 check:=hK.check
 bits:=hK.bits
 none a l ah h1 h2 h3 w:=by
  obtain⟨d,hd,hs⟩:=hK.now;cases ah with
  |nil=>simp[Instr.findKey,hd,Instr.findNow]
  |cons e ah=>
   cases l with
   |nil=>simp at h1
   |cons x l=>
    obtain⟨e',he,hk⟩:=h2 0 x G;simp at he;subst he;have hn:Instr.findNow d (kv a) (e::ah) 0= .none:=by simp[Instr.findNow,hk,hs]
    simp[Instr.findKey,hd,hn,(a4K hK.eq a (x::l) (e::ah) 0 h1 h2).1 h3]
 some a l ah h1 h2 i e h3 h4 h5 w:=by
  obtain⟨d,hd,hs⟩:=hK.now;cases ah with
  |nil=>simp at h5
  |cons e0 ah=>
   cases l with
   |nil=>simp at h1
   |cons x l=>
    obtain⟨e',he,hk⟩:=h2 0 x G;simp at he;subst he;have hn:Instr.findNow d (kv a) (e0::ah) 0= .none:=by simp[Instr.findNow,hk,hs]
    have:=(a4K hK.eq a (x::l) (e0::ah) 0 h1 h2).2 i e h3 h4 h5 w;simp[Instr.findKey,hd,hn,this]
end
theorem c8P(k:IntKind)(hu:∀w,(underlying kt).run P w= .ok (.int k) w):R2 (α:=Int) P kt (λa=>.val (.int k a)) (λa=>.int k a):=
 a9g (λ_ _ _ _ h=>r6 h) (λ_ _ _=>.val _) hu (λa b=>by simp[Instr.sameNow];rfl)
  (λb a w=>by
   have:∀n,(Instr.checkKey b (n+1) kt (.int k a)).run P w= .ok () w:=λn=>by simp[Instr.checkKey,hu]
   exact this 9999)
  (λa=>by
   have:∀n,Instr.sameBits (n+1) (.int k a) (.int k a)=true:=λn=>by simp[Instr.sameBits]
   exact this 9999)
theorem a9U(a b:D):(str a == str b)=decide (a=b):=by
 have h:(str a == str b)=((str a).data ==(str b).data):=G;rw[h];by_cases e:a=b
 .subst e;simp
 .have:¬(str a).data=(str b).data:=λh'=>e (by simpa[str]using h');simp[e,this]
theorem d8N(hu:∀w,(underlying kt).run P w= .ok .string w):R2 (α:=D) P kt sv (λa=>.string (str a)):=
 a9g (λ_ _ _ _ h=>r6 h) (λ_ _ _=>.val _) hu (λa b=>by
  simp only[Instr.sameNow];rw[a9U])
  (λb a w=>by
   have:∀n,(Instr.checkKey b (n+1) kt (.string (str a))).run P w= .ok () w:=λn=>by simp[Instr.checkKey,hu]
   exact this 9999)
  (λa=>by
   have:∀n,Instr.sameBits (n+1) (.string (str a)) (.string (str a))=true:=λn=>by simp[Instr.sameBits,a9U]
   exact this 9999)
def gm{α β:Type}(kc:α->CV)(vc:β->CV)(l:List (α×β)):List (CV×CV):=l.map λx=>(kc x.1,vc x.2)
def glk{α β:Type} [DecidableEq α]:List (α×β)->α->Option β
 | [],_=>none
 |(b,c)::l,a=>if a=b then some c else glk l a
def G6{α β:Type} [DecidableEq α]:List (α×β)->α->β->List (α×β)
 | [],a,c=>[(a,c)]
 |(b,d)::l,a,c=>if a=b then(b,c)::l else(b,d)::G6 l a c
theorem b4q [DecidableEq α](l:List (α×Int))(a:α):((glk l a).map λv:Int=>CV.val (.int .i64 v)).getD (G2 (.int .i64 0))= .val (.int .i64 ((glk l a).getD 0)):=by cases glk l a<;>rfl
theorem b8I [DecidableEq α]:glk l a=none↔a∉l.map (·.1):=by
 induction l with
 |nil=>simp[glk]
 |cons x l ih=>
  obtain⟨b,c⟩:=x;by_cases h:a=b
  .simp [glk,h]
  .simp [glk,h,ih]
theorem a67{α β:Type} [DecidableEq α]:∀{l:List (α×β)} {a:α} {c:β},glk l a=some c->∃i:Nat,l[i]?=some (a,c)/\∀j,j<i->(l.map (·.1))[j]?≠some a
 | [],_,_,h=>by cases h
 |(b,d)::l,a,c,h=>by
  by_cases bZ:a=b
  .rw [glk,W bZ]at h;injection h with h
   subst h bZ;exact⟨0,G,λj hj=>by omega⟩
  .rw [glk,H bZ]at h;obtain⟨i,h1,h2⟩:=a67 h;refine⟨i+1,U h1,λj hj=>?_⟩
   rcases j with _|j
   .simpa using λe=>bZ e.symm
   .simpa using h2 j J
theorem c4l [DecidableEq α]{c:β}(h:glk l a=none):G6 l a c=l++[(a,c)]:=by
 induction l with
 |nil=>rfl
 |cons x l ih=>
  obtain⟨b,d⟩:=x;by_cases bZ:a=b
  .rw [glk,W bZ]at h;cases h
  .rw [glk,H bZ]at h;rw[G6,H bZ,ih h];rfl
theorem b2P{α β:Type} [DecidableEq α]{c d:β}{a:α}:∀{l:List (α×β)} {i:Nat},l[i]?=some (a,d)->(∀j,j<i->(l.map (·.1))[j]?≠some a)->G6 l a c=l.set i (a,c)
 | [],i,h,_=>by simp at h
 |(b,e)::l,i,h,hm=>by
  rcases i with _|i
  .simp at h;rw[G6,W h.1.symm,h.1];rfl
  .have bZ:¬a=b:=λe=>hm 0 J a2v;rw[G6,H bZ,b2P (U h) (λj hj=>by simpa using hm (j+1) J)];rfl
theorem G3 [DecidableEq α](l:List (α×β))(a b:α)(c:β):glk (G6 l a c) b=if b=a then some c else glk l b:=by
 induction l with
 |nil=>rfl
 |cons x l ih=>
  obtain⟨k,d⟩:=x;by_cases hak:a=k
  .subst hak;rw[G6,W G,glk,glk];by_cases h:b=a<;>simp[h]
  .rw [G6,H hak,glk,glk,ih];by_cases h:b=k
   .subst h;rw[W G,W G,H (λe=>hak e.symm)]
   .rw [H h,H h]
section
variable [DecidableEq α]{kc:α->CV}{kv:α->Value}{vc:β->CV}
theorem d1L(hK:R2 C.P kt kc kv)(h:R3 M w p (.map (gm kc vc l))):
 ∃ah ak,w.heap[p.block]?=some (.map ah ak)/\(ah.size=l.length/\b0W ah)/\(∀(i:Nat) (x:α),(l.map (·.1))[i]?=some x->∃e,ah.toList[i]?=some e/\e.key=kv x)/\∀(i:Nat) (x:α×β),l[i]?=some x->∃e,ah[i]?=some e/\e.key=kv x.1/\RV M w (vc x.2) e.val/\e.born <ak:=by
 obtain⟨ah,ak,h1,h2,h3⟩:=h;have key:∀(i:Nat) (x:α×β),l[i]?=some x->∃e,ah[i]?=some e/\e.key=kv x.1/\RV M w (vc x.2) e.val/\e.born <ak:=λi x hi=>by
  obtain⟨e,he,hk,hv,hb⟩:=h3 i (kc x.1,vc x.2) (by simp[gm,hi]);exact⟨e,he,hK.rv _ _ _ _ hk,hv,hb⟩
 refine⟨ah,ak,h1,⟨by simpa[gm]using h2.1,h2.2⟩,λi x hi=>?_,key⟩;rw[N6,M8]at hi;obtain⟨y,hy,rfl⟩:=hi;obtain⟨e,he,hk,_⟩:=key i y hy;exact⟨e,U he,hk⟩
theorem a7b(hK:R2 C.P kt kc kv){ok:Bool}(h:R3 M w p (.map (gm kc vc l)))(hu:∀w,(underlying t).run C.P w= .ok (.map kt et) w)(hz:∀w,(zeroValue et).run C.P w= .ok z w):
 match glk l a with
 |none=>(Instr.lookup t (.map (some p.block)) (kv a) ok).run C.P w= .ok (if ok=true then .tuple #[z,.bool false]else z) w
 |some c=>∃v,RV M w (vc c) v/\(Instr.lookup t (.map (some p.block)) (kv a) ok).run C.P w= .ok (if ok=true then .tuple #[v,.bool true]else v) w:=by
 obtain⟨ah,ak,g1,g2,g3,g4⟩:=d1L hK h;have ao:ah.toList.length=(l.map (·.1)).length:=U g2.1;cases ic:glk l a with
 |none=>
  have hf:=hK.none a (l.map (·.1)) ah.toList ao g3 (b8I.1 ic) w;cases ok<;>simp[Instr.lookup,hu,L4 g1,hK.check,hf,hz]
 |some c=>
  obtain⟨i,h1,h2⟩:=a67 ic;obtain⟨e,e1,_,e3,_⟩:=g4 i (a,c) h1;have hf:=hK.some a (l.map (·.1)) ah.toList ao g3 i e (by simp[h1]) h2 (U e1) w;exact⟨e.val,e3,by cases ok<;>simp[Instr.lookup,hu,L4 g1,hK.check,hf]⟩
theorem U2(hK:R2 C.P kt kc kv)(ho:o.op = .lookup t m kx false)(hm:E.valid m)(hk:E.valid kx)(em:E.val C m= .map q)(ek:E.val C kx=kc a)
 (hu:∀w,(underlying t).run C.P w= .ok (.map kt et) w)(hz:∀w,(zeroValue et).run C.P w= .ok z w)(bQ:I2 z=true)(aw:σ[q]?=some (.map (gm kc vc l)))(hc:((glk l a).map vc).getD (G2 z)=c):j4 C σ E o c:=
 i8 λM w ρ hr h=>by
  have h1:=h m r7 hm;have h2:=h kx r7 hk;rw[em]at h1;rw[ek]at h2;have dl:=hK.rv _ _ _ _ h2;generalize hv:ρ m=v at h1;cases h1 with
  |map hp=>
   rename_i p;have hl:=a7b hK (t:=t) (a:=a) (ok:=false) (hr.obj q p _ hp aw).1 hu hz;subst hc;cases ic:glk l a with
   |none=>
    rw[ic]at hl;exact⟨z,by simp[execOp,ho,hv,dl,hl],a0m bQ⟩
   |some c=>
    rw[ic]at hl;obtain⟨Jj,f1,f2⟩:=hl;exact⟨Jj,by simp[execOp,ho,hv,dl,f2],f1⟩
theorem a7f(hK:R2 C.P kt kc kv)(ho:o.op = .lookup t m kx true)(hm:E.valid m)(hk:E.valid kx)(em:E.val C m= .map q)(ek:E.val C kx=kc a)
 (hu:∀w,(underlying t).run C.P w= .ok (.map kt et) w)(hz:∀w,(zeroValue et).run C.P w= .ok z w)(bQ:I2 z=true)(aw:σ[q]?=some (.map (gm kc vc l)))(hc:((glk l a).map vc).getD (G2 z)=c):j4 C σ E o (.tup [c,.val (.bool (glk l a).isSome)]):=
 i8 λM w ρ hr h=>by
  have h1:=h m r7 hm;have h2:=h kx r7 hk;rw[em]at h1;rw[ek]at h2;have dl:=hK.rv _ _ _ _ h2;have tup:∀{c:CV} {v:Value} {b:Bool},RV M w c v->RV M w (.tup [c,.val (.bool b)]) (.tuple #[v,.bool b]):=λ{c v b} hcv=>.tup G λi x hi=>by
   rcases i with _|_|i
   .simp at hi;subst hi;exact hcv
   .simp at hi;subst hi;exact .val _
   .simp at hi
  generalize hv:ρ m=v at h1;cases h1 with
  |map hp=>
   rename_i p;have hl:=a7b hK (t:=t) (a:=a) (ok:=true) (hr.obj q p _ hp aw).1 hu hz;subst hc;cases ic:glk l a with
   |none=>
    rw[ic]at hl;exact⟨.tuple #[z,.bool false],by simp[execOp,ho,hv,dl,hl],tup (a0m bQ)⟩
   |some c=>
    rw[ic]at hl;obtain⟨Jj,f1,f2⟩:=hl;exact⟨.tuple #[Jj,.bool true],by simp[execOp,ho,hv,dl,f2],tup f1⟩
theorem b2m(hK:R2 C.P kt kc kv){b:β}(hr:Rel C M σ w)(hp:M.pl[q]?=some p)(aw:σ[q]?=some (.map (gm kc vc l)))(hv:RV M w (vc b) v)
 (hu:∀w,(underlying t).run C.P w= .ok (.map kt et) w):∃w',(Instr.mapUpdate t (.map (some p.block)) (kv a) v).run C.P w= .ok () w'/\Ext M w M w'/\Rel C M (σ.set q (.map (gm kc vc (G6 l a b)))) w':=by
 obtain⟨ah,ak,g1,g2,g3,g4⟩:=d1L hK (hr.obj q p _ hp aw).1;have ao:ah.toList.length=(l.map (·.1)).length:=U g2.1;have bx:∀(i:Nat) (e:MapEntry),ah[i]?=some e->e.born <ak:=λi e he=>by
  have ai:i<l.length:=by rw[<- g2.1];exact(a06.1 he).1
  obtain⟨e',h1,_,_,h4⟩:=g4 i l[i] (by simp[ai]);rw[he]at h1;injection h1 with h1
  rw[h1];exact h4
 cases ic:glk l a with
 |none=>
  have hf:=hK.none a (l.map (·.1)) ah.toList ao g3 (b8I.1 ic) w;refine⟨World.putObj w p.block (.map (ah.push {key:=kv a,val:=v,born:=ak}) (ak+1)),by simp[Instr.mapUpdate,hu,L4 g1,hK.check,hf,a4p _ g1],?_⟩;rw[c4l ic];exact hr.setObj (es':=gm kc vc (l++[(a,b)])) hp aw (by simp[gm,g2.1]) (g2.2.push bx G) (λi x hi=>by
   obtain⟨y,hy,rfl⟩:∃y,(l++[(a,b)])[i]?=some y/\(kc y.1,vc y.2)=x:=by unfold gm at hi;rwa[N6,M8]at hi
   rw[a6m]at hy;split at hy
   .obtain ⟨e,q1,q2,q3,q4⟩:=g4 i y hy;have ai:i<ah.size:=(a06.1 q1).1;exact⟨e,by rw[b7L,H J];exact q1,by rw[q2];exact hK.rv' _ _ _,q3,J⟩
   .rename_i aL;have ai:=(n_2.1 hy).1;simp at ai;have hi0:i=l.length:=by omega
    subst hi0;simp at hy;subst hy;exact⟨_,by rw[b7L,W J],hK.rv' _ _ _,hv,Q⟩)
 |some c=>
  obtain⟨i,h1,h2⟩:=a67 ic;obtain⟨e,e1,e2,e3,e4⟩:=g4 i (a,c) h1;have hf:=hK.some a (l.map (·.1)) ah.toList ao g3 i e (by simp[h1]) h2 (U e1) w;refine⟨World.putObj w p.block (.map (ah.modify i λe=>{e with key:=kv a,val:=v}) ak),by simp[Instr.mapUpdate,hu,L4 g1,hK.check,hf,a4p _ g1,Instr.keyThatStays,e1,e2,hK.bits],?_⟩;rw[b2P h1 h2];exact hr.setObj (es':=gm kc vc (l.set i (a,b))) hp aw (by simp[gm,g2.1]) (g2.2.modify λ_=>G) (λj x hj=>by
   obtain⟨y,hy,rfl⟩:∃y,(l.set i (a,b))[j]?=some y/\(kc y.1,vc y.2)=x:=by unfold gm at hj;rwa[N6,M8]at hj
   rw[a9P]at hy;split at hy
   .rename_i hij;subst hij;split at hy
    .injection hy with hy
     subst hy;exact⟨{e with key:=kv a,val:=v},by rw[b8j,W rfl,e1];rfl,hK.rv' _ _ _,hv,e4⟩
    .cases hy
   .rename_i hij;obtain⟨e',q1,q2,q3,q4⟩:=g4 j y hy;exact⟨e',by rw[b8j,H hij];exact q1,by rw[q2];exact hK.rv' _ _ _,q3,q4⟩)
theorem p9(hK:R2 C.P kt kc kv){vx:Operand}{b:β}(ho:o.op = .mapUpdate t m kx vx\/o.op = .insert t m kx vx)(hm:E.valid m)(hk:E.valid kx)(hv:E.valid vx)(em:E.val C m= .map q)(ek:E.val C kx=kc a)(ev:E.val C vx=vc b)
 (hu:∀w,(underlying t).run C.P w= .ok (.map kt et) w)(aw:σ[q]?=some (.map (gm kc vc l)))(hQ:K (.ret (.val undef)) (σ.set q (.map (gm kc vc (G6 l a b))))):C5 C σ E o K:=λM w ρ hr h=>by
 have hops:m∈o.op.operands/\kx∈o.op.operands/\vx∈o.op.operands:=by rcases ho with ho|ho<;>simp[ho,Op.operands]
 have h1:=h m hops.1 hm;have h2:=h kx hops.2.1 hk;have h3:=h vx hops.2.2 hv;rw[em]at h1;rw[ek]at h2;rw[ev]at h3;have dl:=hK.rv _ _ _ _ h2;generalize hum:ρ m=um at h1;cases h1 with
 |map hp=>
  rename_i p;obtain⟨w',az,hx,bB⟩:=b2m hK (a:=a) (b:=b) hr hp aw h3 hu;have hex:(execOp ρ o).run C.P w= .ok .skip w':=by
   rcases ho with ho|ho<;>simp[execOp,ho,hum,dl,az]
  rw[hex];exact⟨.val undef,_,M,hx,bB,.val _,hQ⟩
end
theorem a6Y(w:World)(arr:Array Value)(e:TypeId)(n:Nat):(w.alloc (.cells arr e)).freeze ⟨w.heap.size,n,none⟩ 1=w.alloc (.cells arr e (n,n+1)):=by
 unfold World.freeze World.alloc;rw[H J]
 congr 1
 apply Array.ext
 .simp
 .intro i h1 h2;simp at h1 h2;rw[Array.getElem_modify];by_cases hi:w.heap.size=i
  .subst hi;simp
  .rw [H hi];rw[Array.getElem_push_lt J,Array.getElem_push_lt J]
section
theorem d7G{l:D}(ho:o.op = .convert src dst x)(hx:E.valid x)(ex:E.val C x=sv l)(hs:∀w,(underlying src).run C.P w= .ok .string w)(hd:∀w,(underlying dst).run C.P w= .ok (.slice e) w)(he:∀w,(underlying e).run C.P w= .ok (.int .u8) w)(hl:l.length<=1000000000000):j4 C σ E o (.list (l.map bcv) true none):=λM w ρ hr h=>by
 have h1:=h x r7 hx;rw[ex]at h1;have hv:=r6 h1;obtain⟨dq,fZ⟩:=hr.drew;obtain⟨c,cK,fj,gu⟩:∃c,l.length<=c/\c<=9223372036854775807/\(choose (.appendCap l.length 0 e)).run C.P w= .ok c w.drew:=by
  refine⟨(Question.appendCap l.length 0 e).cut (w.tape w.drawn (.appendCap l.length 0 e)),by simp[Question.cut],?_,b0u G⟩;simp only[Question.cut];have:w.tape w.drawn (.appendCap l.length 0 e)%(2^63-l.length)<2^63-l.length:=a63 _ J;omega
 generalize hA:(((str l).data.map λb:UInt8=>Value.int .u8 (b.toNat:Int))++Array.replicate (c-l.length) (Value.int .u8 0))=A;have hAs:A.size=c:=by
  rw[<- hA];simp[str];omega
 have az:(execOp ρ o).run C.P w= .ok (.value (.slice (some ⟨w.heap.size,0,none⟩) l.length c)) (w.drew.alloc (.cells A e (c,c+1))):=by
  have hsh:((w.drew.alloc (.cells A e)).shape? w.heap.size)=some (e,c):=by
   have:=x8 w.drew (.cells A e);simp only[World.shape?];rw[show w.heap.size=w.drew.heap.size from G,this];simp[hAs]
  have hm:(markStringish ⟨w.heap.size,0,none⟩).run C.P (w.drew.alloc (.cells A e))= .ok () (w.drew.alloc (.cells A e (c,c+1))):=by
   have:=a6Y w.drew A e c;simp only[markStringish,shape,freeze,Sem.run_bind];simp only[Sem.run,hsh,Result.andThen_ok];rw[show w.heap.size=w.drew.heap.size from G,this]
  simp only[execOp,ho,hv,convert,Sem.run_bind,hs,hd,Result.andThen_ok,he,Conv.stringToBytes,a4r,gu,newRow,hA];simp only[newObj,Sem.run,Result.andThen_ok];rw[show(w.drew.heap.size)=w.heap.size from G];simp only[Sem.run_pure,Result.andThen_ok];have e0:({heap:=w.drew.heap.push (.cells A e),tape:=w.drew.tape,drawn:=w.drew.drawn,os:=w.drew.os,output:=w.drew.output}:World)=w.drew.alloc (.cells A e):=G;rw[e0,hm];simp only[Result.andThen_ok]
 rw[az];obtain⟨aK,bk⟩:=dq.allocFull (.cells A e (c,c+1));have ax:∀(i:Nat) (b:UInt8),l[i]?=some b->A[i]?=some (.int .u8 b.toNat):=λi b hb=>by
  have ai:=(n_2.1 hb).1;rw[<- hA,b2Y (by simp[str];exact ai)];simp[str,hb]
 have gy:RV (M.settle w.drew.heap.size) (w.drew.alloc (.cells A e (c,c+1))) (.list (l.map bcv) true none) (.slice (some ⟨w.drew.heap.size,0,none⟩) (l.map bcv).length c):=by
  refine .list (b:=w.drew.heap.size) (off:=0) (s:=1) (λi _=>A.getD i undef) (U cK) (by unfold maxLen;omega) G (λh=>by cases h) V9 (λr hr=>?_) (λr hr c hc=>?_) (λi j r c' hi hj=>?_) (λi j r c' hi hj=>?_) (λk hk=>by cases hk)
  .obtain ⟨b,_,rfl⟩:=D8.1 hr;rfl
  .obtain ⟨b,_,rfl⟩:=D8.1 hr;simp[bcv]at hc;subst hc;rfl
  .rw [N6,M8]at hi;obtain⟨b,hb,rfl⟩:=hi;have hj0:j=0:=by
    have:=(n_2.1 hj).1;simp[bcv]at this;exact this
   subst hj0;refine⟨.inl (.inr G),?_⟩;simp only[World.cell?,x8];have:=ax i b hb;simp[this]
  .rw [N6,M8]at hi;obtain⟨b,hb,rfl⟩:=hi;have hj0:j=0:=by
    have:=(n_2.1 hj).1;simp[bcv]at this;exact this
   subst hj0;simp[bcv]at hj;subst hj;have:=ax i b hb;rw[a0b,this];exact .val _
 rw[N0]at gy;exact⟨_,σ,_,fZ.trans aK,bk,gy,G,G⟩
theorem a5i{f:Nat}{fs:Array Field}{fd:Field}(ho:o.op = .field t x f)(hx:E.valid x)(ex:E.val C x= .agg cells)(hu:∀w,(underlying t).run C.P w= .ok (.struct fs) w)(hf:fs[f]?=some fd)(ha:∀w,(isAgg fd.type).run C.P w= .ok false w)(hc:cells[fd.offset]?=some c):j4 C σ E o c:=
 i8 λM w ρ hr h=>by
  have h1:=h x r7 hx;rw[ex]at h1;generalize hv:ρ x=v at h1;cases h1 with
  |agg g1 g2 g3=>
   rename_i vs;have ai:fd.offset <vs.size:=by rw[g1];exact(n_2.1 hc).1
   refine⟨vs.getD fd.offset undef,?_,g3 _ _ hc⟩;simp[execOp,ho,hv,Instr.field,hu,hf,part,ha,asAgg,ai]
theorem d3F(ho:o.op = .panic x)(hx:E.valid x)(ex:E.val C x=c)(hn:∀M w v,RV M w c v->∃t Jj,v= .iface t Jj)(hk:K (.pan c) σ):C5 C σ E o K:=λM w ρ hr h=>by
 have h1:=h x r7 hx;rw[ex]at h1;obtain⟨t,Jj,hv⟩:=hn M w _ h1;have az:(execOp ρ o).run C.P w= .halt (.panic (ρ x)) w:=by
  simp[execOp,ho,hv,Instr.panic]
 rw[az];exact⟨c,ρ x,σ,M,G,Ext.refl M w,hr,h1,hk⟩
end
inductive O1(R:Nat->Nat->Prop):CV->CV->Prop where
 |val (v:Value):O1 R (.val v) (.val v)
 |agg {cs aW:List CV}:cs.length=aW.length->(∀(i:Nat) (c c':CV),cs[i]?=some c->aW[i]?=some c'->O1 R c c')->O1 R (.agg cs) (.agg aW)
 |tup {cs aW:List CV}:cs.length=aW.length->(∀(i:Nat) (c c':CV),cs[i]?=some c->aW[i]?=some c'->O1 R c c')->O1 R (.tup cs) (.tup aW)
 |clo {f:FuncId} {cs aW:List CV}:cs.length=aW.length->(∀(i:Nat) (c c':CV),cs[i]?=some c->aW[i]?=some c'->O1 R c c')->O1 R (.clo f cs) (.clo f aW)
 |list {aa rows':List (List CV)} {nn:Bool} {tok gb:Option Nat}:aa.length=rows'.length->(∀(i:Nat) (r r':List CV),aa[i]?=some r->rows'[i]?=some r'->r.length=r'.length) ->
  (∀(i j:Nat) (r r':List CV) (c c':CV),aa[i]?=some r->rows'[i]?=some r'->r[j]?=some c->r'[j]?=some c'->O1 R c c')->((tok=none/\gb=none)\/∃k k',tok=some k/\gb=some k'/\R k k')->O1 R (.list aa nn tok) (.list rows' nn gb)
 |ptr {k k' off:Nat}:R k k'->O1 R (.ptr k off) (.ptr k' off)
 |cptr {cells ay:List CV}:cells.length=ay.length->(∀(i:Nat) (c c':CV),cells[i]?=some c->ay[i]?=some c'->O1 R c c')->O1 R (.cptr cells) (.cptr ay)
 |eptr {k k' i off:Nat}:R k k'->O1 R (.eptr k i off) (.eptr k' i off)
 |vec {k k' off len:Nat}:R k k'->O1 R (.vec k off len) (.vec k' off len)
 |map {k k':Nat}:R k k'->O1 R (.map k) (.map k')
 |yld {k k':Nat}:R k k'->O1 R (.yld k) (.yld k')
theorem O1.one(h:O1 R c c'):c'.one=c.one:=by cases h<;>rfl
theorem O1.symm(hR:∀k k',R k k'->R' k' k)(h:O1 R c c'):O1 R' c' c:=by
 induction h with
 |val v=>exact .val v
 |agg h1 _ ih=>exact .agg h1.symm λi c c' h h'=>ih i c' c h' h
 |tup h1 _ ih=>exact .tup h1.symm λi c c' h h'=>ih i c' c h' h
 |clo h1 _ ih=>exact .clo h1.symm λi c c' h h'=>ih i c' c h' h
 |list h1 h2 _ h4 ih=>exact .list h1.symm (λi r r' h h'=>(h2 i r' r h' h).symm) (λi j r r' c c' a b d e=>ih i j r' r c' c b a e d) (h4.imp (λ⟨a,b⟩=>⟨b,a⟩) λ⟨k,k',a,b,d⟩=>⟨k',k,b,a,hR _ _ d⟩)
 |ptr h=>exact .ptr (hR _ _ h)
 |cptr h1 _ ih=>exact .cptr h1.symm λi c c' h h'=>ih i c' c h' h
 |eptr h=>exact .eptr (hR _ _ h)
 |vec h=>exact .vec (hR _ _ h)
 |map h=>exact .map (hR _ _ h)
 |yld h=>exact .yld (hR _ _ h)
theorem O1.pure(h:o8 c):O1 R c c:=by
 induction h with
 |val v=>exact .val v
 |agg _ ih=>
  refine .agg G λi c c' h h'=>?_;rw[h]at h';injection h' with h';subst h'
  exact ih c (n_3 h)
 |tup _ ih=>
  refine .tup G λi c c' h h'=>?_;rw[h]at h';injection h' with h';subst h'
  exact ih c (n_3 h)
 |clo _ ih=>
  refine .clo G λi c c' h h'=>?_;rw[h]at h';injection h' with h';subst h'
  exact ih c (n_3 h)
 |list _ ih=>
  refine .list G (λi r r' h h'=>?_) (λi j r r' c c' h h' g g'=>?_) (.inl ⟨G,G⟩)
  .rw [h]at h';injection h' with h';subst h';rfl
  .rw [h]at h';injection h' with h';subst h'
   rw[g]at g';injection g' with g';subst g'
   exact ih r (n_3 h) c (n_3 g)
theorem RV.renR{R:Nat->Nat->Prop}{M M':A5}{w:World}(hR:∀(k k':Nat) (p:Pl),R k k'->M.pl[k]?=some p->M'.pl[k']?=some p)(bg:∀b o,M.at b o->M'.at b o){c:CV}{v:Value}(h:RV M w c v):∀{c':CV},O1 R c c'->RV M' w c' v:=by
 induction h with
 |val v=>intro c' hr;cases hr;exact .val v
 |agg h1 h2 _ ih=>
  intro c' hr;cases hr with
  |agg e1 e2=>
   refine .agg (by rw[h1,e1]) (λc hc=>?_) λi c hi=>?_
   .obtain ⟨i,hi⟩:=J6.1 hc;obtain⟨y,hy⟩:=p7 e1 hi;rw[(e2 i y c hy hi).one];exact h2 y (n_3 hy)
   .obtain ⟨y,hy⟩:=p7 e1 hi;exact ih i y hy (e2 i y c hy hi)
 |tup h1 _ ih=>
  intro c' hr;cases hr with
  |tup e1 e2=>
   refine .tup (by rw[h1,e1]) λi c hi=>?_;obtain⟨y,hy⟩:=p7 e1 hi;exact ih i y hy (e2 i y c hy hi)
 |clo h1 _ ih=>
  intro c' hr;cases hr with
  |clo e1 e2=>
   refine .clo (by rw[h1,e1]) λi c hi=>?_;obtain⟨y,hy⟩:=p7 e1 hi;exact ih i y hy (e2 i y c hy hi)
 | @list aa nn tok a cap b off s vals h1 h2 h3 h4 h5 h6 h7 h8 _ bL ih=>
  intro c' hr;cases hr with
  | @list _ rows' _ _ gb e1 e2 e3 e4=>
   have aB:rows'≠[]->aa≠[]:=λhn h0=>by
    rw[h0]at e1;exact hn (c1t e1.symm)
   have bT:∀{i:Nat} {r':List CV},rows'[i]?=some r'->∃r,aa[i]?=some r:=λhi=>p7 e1 hi;rw[e1];refine .list (s:=s) vals (by rw[<- e1];exact h1) h2 h3 h4 (λhn=>h5 (aB hn)) (λr' bB=>?_) (λr' bB c' bA=>?_) (λi j r' c' hi hj=>?_) (λi j r' c' hi hj=>?_) (λk hk=>?_)
   .obtain ⟨i,hi⟩:=J6.1 bB;obtain⟨r,hr⟩:=bT hi;rw[<- e2 i r r' hr hi];exact h6 r (n_3 hr)
   .obtain ⟨i,hi⟩:=J6.1 bB;obtain⟨r,hr⟩:=bT hi;obtain⟨j,hj⟩:=J6.1 bA;obtain⟨c,hc⟩:=p7 (e2 i r r' hr hi) hj;rw[(e3 i j r r' c c' hr hi hc hj).one];exact h7 r (n_3 hr) c (n_3 hc)
   .obtain ⟨r,hr⟩:=bT hi;obtain⟨c,hc⟩:=p7 (e2 i r r' hr hi) hj;have:=h8 i j r c hr hc;exact⟨bg _ _ this.1,this.2⟩
   .obtain ⟨r,hr⟩:=bT hi;obtain⟨c,hc⟩:=p7 (e2 i r r' hr hi) hj;exact ih i j r c hr hc (e3 i j r r' c c' hr hi hc hj)
   .rcases e4 with⟨_,e4⟩|⟨k0,k1,e5,e6,e7⟩
    .rw [e4]at hk;cases hk
    .rw [e6]at hk;injection hk with hk
     subst hk;obtain⟨s',f1,f2,f3,f4⟩:=bL k0 e5;exact⟨s',hR _ _ _ e7 f1,f2,f3,λhn=>f4 (aB hn)⟩
 |ptr hk=>intro c' hr;cases hr with|ptr e=>exact .ptr (hR _ _ _ e hk)
 |cptr vals h1 h2 _ ih=>
  intro c' hr;cases hr with
  |cptr e1 e2=>
   refine .cptr vals (λc hc=>?_) (λj c hj=>?_) (λj c hj=>?_)
   .obtain ⟨i,hi⟩:=J6.1 hc;obtain⟨y,hy⟩:=p7 e1 hi;rw[(e2 i y c hy hi).one];exact h1 y (n_3 hy)
   .obtain ⟨y,hy⟩:=p7 e1 hj;exact⟨bg _ _ (h2 j y hy).1,(h2 j y hy).2⟩
   .obtain ⟨y,hy⟩:=p7 e1 hj;exact ih j y hy (e2 j y c hy hj)
 |eptr hk=>intro c' hr;cases hr with|eptr e=>exact .eptr (hR _ _ _ e hk)
 |vec hk h1 h2 h3=>intro c' hr;cases hr with|vec e=>exact .vec (hR _ _ _ e hk) h1 h2 h3
 |map hk=>intro c' hr;cases hr with|map e=>exact .map (hR _ _ _ e hk)
 |yld hk=>intro c' hr;cases hr with|yld e=>exact .yld (hR _ _ _ e hk)
def a12(R:Nat->Nat->Prop)(l l':List CV):Prop:=l.length=l'.length/\∀(i:Nat) (c c':CV),l[i]?=some c->l'[i]?=some c'->O1 R c c'
def c4r(R:Nat->Nat->Prop)(l l':List (CV×CV)):Prop:=l.length=l'.length/\∀(i:Nat) (x x':CV×CV),l[i]?=some x->l'[i]?=some x'->O1 R x.1 x'.1/\O1 R x.2 x'.2
inductive H3(R:Nat->Nat->Prop):b9->b9->Prop where
 |dead:H3 R .dead .dead
 |box {t0:Option TypeId} {l l':List CV}:a12 R l l'->H3 R (.boxT t0 l) (.boxT t0 l')
 |tip {t0:Option TypeId} (n:Nat):H3 R (.tipT t0 n) (.tipT t0 n)
 |vec {s:Nat} {aa rows':List (List CV)}:aa.length=rows'.length->(∀(i:Nat) (r r':List CV),aa[i]?=some r->rows'[i]?=some r'->a12 R r r')->H3 R (.vec s aa) (.vec s rows')
 |map {es es':List (CV×CV)}:c4r R es es'->H3 R (.map es) (.map es')
 |iter {c c' l l':List (CV×CV)}:c4r R c c'->c4r R l l'->H3 R (.iter c l) (.iter c' l')
 |blk (o:Obj):H3 R (.blk o) (.blk o)
 |lp {o:Loop} {n:Nat} {cs aW:List (Nat×CV)}:cs.map Prod.fst=aW.map Prod.fst->(∀(i:Nat) (x x':Nat×CV),cs[i]?=some x->aW[i]?=some x'->O1 R x.2 x'.2)->H3 R (.lp o n cs) (.lp o n aW)
theorem H3.live{a b:b9}(h:H3 R a b):b.live=a.live:=by cases h<;>rfl
theorem H3.symm(hR:∀k k',R k k'->R' k' k){a b:b9}(h:H3 R a b):H3 R' b a:=by
 have hl:∀{l l':List CV},a12 R l l'->a12 R' l' l:=λh=>⟨h.1.symm,λi c c' g g'=>(h.2 i c' c g' g).symm hR⟩;have he:∀{l l':List (CV×CV)},c4r R l l'->c4r R' l' l:=λh=>⟨h.1.symm,λi c c' g g'=>⟨(h.2 i c' c g' g).1.symm hR,(h.2 i c' c g' g).2.symm hR⟩⟩;cases h with
 |dead=>exact .dead
 |box h=>exact .box (hl h)
 |tip n=>exact .tip n
 |vec h1 h2=>exact .vec h1.symm λi r r' g g'=>hl (h2 i r' r g' g)
 |map h=>exact .map (he h)
 |iter h1 h2=>exact .iter (he h1) (he h2)
 |blk o=>exact .blk o
 |lp h1 h2=>exact .lp h1.symm λi x x' g g'=>(h2 i x' x g' g).symm hR
theorem R3.renR{M':A5}(hR:∀(k k':Nat) (p:Pl),R k k'->M.pl[k]?=some p->M'.pl[k']?=some p)(bg:∀b o,M.at b o->M'.at b o)(dY:∀b,M.full b->M'.full b)(cr:∀b o,M'.cell b o->M.cell b o){a b:b9}(h:R3 M w p a)(hr:H3 R a b):R3 M' w p b:=by
 cases hr with
 |dead=>trivial
 |box hl=>
  obtain⟨arr,ty,e1,e2,e3,e4⟩:=h;refine⟨arr,ty,e1,by rw[e2,hl.1],λc hc=>?_,λi c hi=>?_⟩
  .obtain ⟨i,hi⟩:=J6.1 hc;obtain⟨y,hy⟩:=p7 hl.1 hi;rw[(hl.2 i y c hy hi).one];exact e3 y (n_3 hy)
  .obtain ⟨y,hy⟩:=p7 hl.1 hi;exact(e4 i y hy).renR hR bg (hl.2 i y c hy hi)
 |tip n=>
  obtain⟨e1,e2,e3,e4⟩:=h;exact⟨e1,e2,⟨λo ho=>e3.1 o (cr _ _ ho),e3.2⟩,e4⟩
 |vec h1 h2=>
  obtain⟨e0,e1,e2,e3,e4,arr,ty,e5,e6,e7⟩:=h;refine⟨e0,by rw[<- h1];exact e1,e2,λr hr=>?_,λr hr c hc=>?_,arr,ty,e5,e6,λi j r c hi hj=>?_⟩
  .obtain ⟨i,hi⟩:=J6.1 hr;obtain⟨y,hy⟩:=p7 h1 hi;rw[<- (h2 i y r hy hi).1];exact e3 y (n_3 hy)
  .obtain ⟨i,hi⟩:=J6.1 hr;obtain⟨y,hy⟩:=p7 h1 hi;obtain⟨j,hj⟩:=J6.1 hc;obtain⟨d,hd⟩:=p7 (h2 i y r hy hi).1 hj;rw[((h2 i y r hy hi).2 j d c hd hj).one];exact e4 y (n_3 hy) d (n_3 hd)
  .obtain ⟨y,hy⟩:=p7 h1 hi;obtain⟨d,hd⟩:=p7 (h2 i y r hy hi).1 hj;exact(e7 i j y d hy hd).renR hR bg ((h2 i y r hy hi).2 j d c hd hj)
 |map he=>
  obtain⟨ah,ak,e1,e2,e3⟩:=h;refine⟨ah,ak,e1,⟨by rw[e2.1,he.1],e2.2⟩,λi x hi=>?_⟩;obtain⟨y,hy⟩:=p7 he.1 hi;obtain⟨e,g1,g2,g3,g4⟩:=e3 i y hy;exact⟨e,g1,g2.renR hR bg (he.2 i y x hy hi).1,g3.renR hR bg (he.2 i y x hy hi).2,g4⟩
 |iter hc hl=>
  obtain⟨mb,seen,bG,ah,ak,e1,e2,e3,e4,e5,e6,e7,e8,e9⟩:=h;refine⟨mb,seen,bG,ah,ak,e1,dY _ e2,e3,e4,e5,e6,by rw[e7,hl.1],λi x hi=>?_,λi x hi=>?_⟩
  .obtain ⟨y,hy⟩:=p7 hl.1 hi;obtain⟨e,g1,g2,g3⟩:=e8 i y hy;exact⟨e,g1,g2.renR hR bg (hl.2 i y x hy hi).1,g3.renR hR bg (hl.2 i y x hy hi).2⟩
  .obtain ⟨y,hy⟩:=p7 hc.1 hi;obtain⟨hla,j,e,g0,g1,g2,g3⟩:=e9 i y hy;exact⟨hla,j,e,g0,g1,g2.renR hR bg (hc.2 i y x hy hi).1,g3.renR hR bg (hc.2 i y x hy hi).2⟩
 |blk o=>exact h
 |lp h1 h2=>
  obtain⟨tm,e1,e2,e3⟩:=h;refine⟨tm,e1,e2,λx hx=>?_⟩;obtain⟨i,hi⟩:=J6.1 hx;obtain⟨y,hy⟩:=p7 (by simpa using n_7 List.length h1) hi;have hf:y.1=x.1:=by
   have:=n_7 (·[i]?) h1;simp[hy,hi]at this;exact this
  rw[<- hf];exact(e3 y (n_3 hy)).renR hR bg (h2 i y x hy hi)
inductive a6a(R:Nat->Nat->Prop):L7->L7->Prop where
 |ret {c c':CV}:O1 R c c'->a6a R (.ret c) (.ret c')
 |pan {c c':CV}:O1 R c c'->a6a R (.pan c) (.pan c')
def Y6(am:List Nat)(n:Nat)(i k:Nat):Prop:=am[i]?=some k\/(am.length<=i/\k=n+(i-am.length))
theorem I9(am:List Nat)(hC:C.plain)(ao:am.length=obs.length)(ez:∀(i j k:Nat),am[i]?=some k->am[j]?=some k->i=j)
 (cR:∀(i k:Nat) (ob:b9),am[i]?=some k->obs[i]?=some ob->∃aH,σ[k]?=some aH/\H3 (λk i=>am[i]?=some k) aH ob)(ap:a12 (λk i=>am[i]?=some k) args' args)
 {K:L7->List b9->Prop}{K':L7->List b9->Prop}(h:b8 C f args obs K)
 (hK:∀r τ,K r τ->obs.length<=τ.length/\∃r' dQ,a6a (Y6 am σ.length) r r'/\dQ.length=σ.length+(τ.length -obs.length)/\(∀k,k<σ.length->k∉am->dQ[k]?=σ[k]?)/\(∀(i k:Nat) (x:b9),Y6 am σ.length i k->τ[i]?=some x->∃x',dQ[k]?=some x'/\H3 (Y6 am σ.length) x x')/\K' r' dQ):
 b8 C f args' σ K':=λM w vs hr hn hx=>by
 have gz:∀{i k:Nat},am[i]?=some k->∃p ob,M.pl[k]?=some p/\obs[i]?=some ob/\k<σ.length:=λ{i k} hi=>by
  have bX:i<obs.length:=by rw[<- ao];exact(n_2.1 hi).1
  obtain⟨aH,h1,_⟩:=cR i k obs[i] hi (by simp[bX]);have hk:k<σ.length:=(n_2.1 h1).1;exact⟨M.pl[k]'(by rw[hr.len];exact hk),obs[i],Q,by simp[bX],hk⟩
 let LB:Nat->Prop:=λb=>∃(k:Nat) (p:Pl) (aH:b9),k∉am/\M.pl[k]?=some p/\σ[k]?=some aH/\aH.live=true/\p.block=b
 let M0:A5:={pl:=am.map λk=>(M.pl[k]?).getD ⟨0,0,0⟩,full:=M.full,cell:=M.cell,keep:=λb=>M.keep b\/LB b}
 have hLB:∀b,LB b->b<w.heap.size:=λb ⟨k,p,aH,_,hp,hs,hl,hb⟩=>hb▸(hr.obj k p aH hp hs).1.lt hl;have h0:∀{i:Nat} {p:Pl},M0.pl[i]?=some p->∃k,am[i]?=some k/\M.pl[k]?=some p:=λ{i p} hp=>by
  have hp:(am.map λk=>(M.pl[k]?).getD ⟨0,0,0⟩)[i]?=some p:=hp;rw[N6,M8]at hp;obtain⟨k,hk,rfl⟩:=hp;obtain⟨p,_,g1,_,_⟩:=gz hk;exact⟨k,hk,by rw[g1];rfl⟩
 have iz:∀(k i:Nat) (p:Pl),am[i]?=some k->M.pl[k]?=some p->M0.pl[i]?=some p:=λk i p hi hp=>by
  show(am.map λk=>(M.pl[k]?).getD ⟨0,0,0⟩)[i]?=some p;rw[N6,hi,b8V,hp];rfl
 have bM:Rel C M0 obs w:=⟨by simp[M0,ao],hr.blk,λi p ob hp hs=>(by
  obtain⟨k,hk,dA⟩:=h0 hp;obtain⟨aH,g1,g2⟩:=cR i k ob hk hs;obtain⟨q1,q2⟩:=hr.obj k p aH dA g1;refine⟨q1.renR (M':=M0) iz (λb o h=>h) (λb h=>h) (λb o h=>h) g2,?_⟩;cases g2<;>first|trivial|exact q2),λi i' p p' x x' hp aI hs aU hl bz hb=>(by
  obtain⟨k,hk,dA⟩:=h0 hp;obtain⟨k',aJ,gc⟩:=h0 aI;obtain⟨y,g1,g2⟩:=cR i k x hk hs;obtain⟨y',gr,gQ⟩:=cR i' k' x' aJ aU;have:=hr.inj k k' p p' y y' dA gc g1 gr (by rw[<- g2.live];exact hl) (by rw[<- gQ.live];exact bz) hb;subst this;exact ez i i' k hk aJ),λg cells hg=>⟨(by
  have:=(hr.glob g cells hg).rv;exact RV.renR (M:=M) (R:=λ_ _=>False) (M':=M0) (λ_ _ _ h=>h.elim) (λb o h=>h) this (.cptr G λi c c' h h'=>(by
   rw[h]at h';injection h' with h';subst h'
   exact .pure (hC g cells hg c (n_3 h))))),(hr.glob g cells hg).full,(hr.glob g cells hg).sz⟩,
  λb hb=>(by
   rcases hb with hb|hb
   .exact hr.kep b hb
   .exact hLB b hb),λi p x hp hs hl hb=>(by
  obtain⟨k,hk,dA⟩:=h0 hp;obtain⟨y,g1,g2⟩:=cR i k x hk hs;have gW:y.live=true:=by rw[<- g2.live];exact hl
  rcases hb with hb|⟨k',p',aH,aJ,aI,aU,bz,hb⟩
  .exact hr.nk k p y dA g1 gW hb
  .have:=hr.inj k' k p' p aH y aI dA aU g1 bz gW hb;subst this;exact aJ (n_3 hk))⟩
 have gA:∀(c:CV) (v:Value) (r:CV->L7) (hret:∀c c' R,a6a R (r c) c'->∃d,c'=r d/\O1 R c d) (τ:List b9) (M':A5) (w':World),Ext M0 w M' w'->Rel C M' τ w'->RV M' w' c v->K (r c) τ->∃c' dQ M2,Ext M w M2 w'/\Rel C M2 dQ w'/\RV M2 w' c' v/\K' (r c') dQ:=by
  intro c v r hret τ M' w' h1 h2 h3 h4;obtain⟨aT,r',dQ,e1,e2,e3,e4,e5⟩:=hK _ _ h4;obtain⟨c',rfl,hrc⟩:=hret _ _ _ e1;have hM0:∀(k i:Nat) (p:Pl),am[i]?=some k->M.pl[k]?=some p->M'.pl[i]?=some p:=λk i p hi hp=>h1.get (iz k i p hi hp);have eA:M'.pl.length=τ.length:=h2.len
  let M2:A5:={pl:=M.pl++M'.pl.drop obs.length,full:=M'.full,cell:=M'.cell,keep:=M.keep}
  have hA:∀(i k:Nat) (p:Pl),Y6 am σ.length i k->M'.pl[i]?=some p->M2.pl[k]?=some p:=λi k p ha hp=>by
   rcases ha with ha|⟨ha,rfl⟩
   .obtain ⟨p0,_,g1,_,g3⟩:=gz ha;have:=hM0 k i p0 ha g1;rw[hp]at this;injection this with this
    subst this;show(M.pl++_)[k]?=_;rw[T6 (by rw[hr.len];exact g3)];exact g1
   .show (M.pl++M'.pl.drop obs.length)[σ.length+(i-am.length)]?=_;rw[a5O (by rw[hr.len];omega),a7O,hr.len];rw[show obs.length+(σ.length+(i-am.length) -σ.length)=i by omega];exact hp
  have hB:∀(k:Nat) (p:Pl) (x:b9),M2.pl[k]?=some p->dQ[k]?=some x->(k<σ.length/\k∉am/\M.pl[k]?=some p/\σ[k]?=some x)\/∃i y,Y6 am σ.length i k/\M'.pl[i]?=some p/\τ[i]?=some y/\H3 (Y6 am σ.length) y x:=λk p x hp hs=>by
   by_cases hk:k<σ.length
   .have aI:M.pl[k]?=some p:=by
     have hp:(M.pl++M'.pl.drop obs.length)[k]?=some p:=hp;rwa[T6 (by rw[hr.len];exact hk)]at hp
    by_cases bi:k∈am
    .obtain ⟨i,hi⟩:=J6.1 bi;have bX:i<τ.length:=by
      have:=(n_2.1 hi).1;omega
     obtain⟨x',g1,g2⟩:=e4 i k τ[i] (.inl hi) (by simp[bX]);rw[hs]at g1;injection g1 with g1
     subst g1;exact .inr ⟨i,τ[i],.inl hi,hM0 k i p hi aI,by simp[bX],g2⟩
    .rw [e3 k hk bi]at hs;exact .inl ⟨hk,bi,aI,hs⟩
   .have dH:=(n_2.1 hs).1;rw[e2]at dH;have bX:obs.length+(k-σ.length)<τ.length:=by omega
    have ha:Y6 am σ.length (obs.length+(k-σ.length)) k:=.inr ⟨J,J⟩;obtain⟨x',g1,g2⟩:=e4 (obs.length+(k-σ.length)) k τ[obs.length+(k-σ.length)] ha (by simp[bX]);rw[hs]at g1;injection g1 with g1
    subst g1;have aI:M'.pl[obs.length+(k-σ.length)]?=some (M'.pl[obs.length+(k-σ.length)]'J):=by simp
    have:=hA _ _ _ ha aI;rw[hp]at this;injection this with this
    exact .inr ⟨_,_,ha,by rw[aI,this],by simp[bX],g2⟩
  have hAinj:∀(i i' k:Nat),Y6 am σ.length i k->Y6 am σ.length i' k->i=i':=λi i' k ha cA=>by
   rcases ha with ha|⟨ha,e⟩<;>rcases cA with cA|⟨cA,e'⟩
   .exact ez i i' k ha cA
   .have:=(gz ha).choose_spec.choose_spec.2.2;omega
   .have:=(gz cA).choose_spec.choose_spec.2.2;omega
   .omega
  have hAfun:∀(i k k':Nat),Y6 am σ.length i k->Y6 am σ.length i k'->k=k':=λi k k' ha cA=>by
   rcases ha with ha|⟨ha,e⟩<;>rcases cA with cA|⟨cA,e'⟩
   .rw [ha]at cA;exact Option.some.inj cA
   .have:=(n_2.1 ha).1;omega
   .have:=(n_2.1 cA).1;omega
   .omega
  have aK:Ext M w M2 w':=⟨⟨M'.pl.drop obs.length,G⟩,h1.full,h1.cell,h1.same,h1.sameC,h1.size,h1.drew,h1.os,h1.tape,h1.output,λb hb=>by
   obtain⟨k1,k2,k3,k4⟩:=h1.kept b (.inl hb);exact⟨hb,k2,k3,k4⟩⟩
  refine⟨c',dQ,M2,aK,⟨by show(M.pl++M'.pl.drop obs.length).length=_;simp[hr.len,eA,e2],h2.blk,λk p x hp hs=>?_,λk k' p p' x x' hp aI hs aU hl bz hb=>?_,λg cells hg=>(hr.glob g cells hg).mono aK,λb hb=>a9z (hr.kep b hb) h1.size,λk p x hp hs hl hkp=>?_⟩,h3.renR (M':=M2) hA (λb o h=>h) hrc,e5⟩
  .rcases hB k p x hp hs with⟨hk,bi,aI,aU⟩|⟨i,y,ha,aI,aU,hro⟩
   .by_cases hl:x.live=true
    .obtain ⟨k1,k2,k3,k4⟩:=h1.kept p.block (.inr ⟨k,p,x,bi,aI,aU,hl,G⟩);obtain⟨g1,g2⟩:=hr.obj k p x aI aU;refine⟨g1.mono aK k2 (λ_ _ _ o ho=>k4 o ho),?_⟩;cases x with
     |dead=>trivial
     |tipT t0 n=>exact λhf=>g2 (k3 hf)
     |_=>exact⟨λhf=>g2.1 (k3 hf),λo ho=>g2.2 o (k4 o ho)⟩
    .cases x<;>first|exact⟨O,O⟩|simp[b9.live]at hl
   .obtain ⟨g1,g2⟩:=h2.obj i p y aI aU;refine⟨g1.renR (M':=M2) hA (λb o h=>h) (λb h=>h) (λb o h=>h) hro,?_⟩;cases hro<;>first|trivial|exact g2
  .have keep:∀{k:Nat} {p:Pl} {x:b9},k∉am->M.pl[k]?=some p->σ[k]?=some x->x.live=true->M'.keep p.block:=λ{k p x} bi aI aU hl=>(h1.kept p.block (.inr ⟨k,p,x,bi,aI,aU,hl,G⟩)).1
   rcases hB k p x hp hs with⟨hk,bi,dA,hsk⟩|⟨i,y,ha,dA,hsk,hro⟩<;>rcases hB k' p' x' aI aU with⟨aJ,hks',gc,iH⟩|⟨i',y',cA,gc,iH,hro'⟩
   .exact hr.inj k k' p p' x x' dA gc hsk iH hl bz hb
   .exact absurd (hb▸keep bi dA hsk hl) (h2.nk i' p' y' gc iH (by rw[<- hro'.live];exact bz))
   .exact absurd (hb▸keep hks' gc iH bz) (h2.nk i p y dA hsk (by rw[<- hro.live];exact hl))
   .have:=h2.inj i i' p p' y y' dA gc hsk iH (by rw[<- hro.live];exact hl) (by rw[<- hro'.live];exact bz) hb;subst this;exact hAfun i k k' ha cA
  .rcases hB k p x hp hs with⟨hk,bi,aI,aU⟩|⟨i,y,ha,aI,aU,hro⟩
   .exact hr.nk k p x aI aU hl hkp
   .exact h2.nk i p y aI aU (by rw[<- hro.live];exact hl) (h1.kept p.block (.inl hkp)).1
 have gB:vs.size=args.length:=by rw[hn,ap.1]
 refine(h M0 w vs bM gB λi a hi=>?_).mono λe w' he=>?_
 .obtain ⟨a',cA⟩:=p7 ap.1 hi;exact(hx i a' cA).renR (M':=M0) iz (λb o h=>h) (ap.2 i a' a cA hi)
 cases e with
 |panicked ch=>
  obtain⟨c,v,τ,M',gu,h1,h2,h3,h4⟩:=he;obtain⟨c',dQ,M2,g1,g2,g3,g4⟩:=gA c v .pan (λc c' R h=>by cases h with|pan h=>exact⟨_,G,h⟩) τ M' w' h1 h2 h3 h4;exact⟨c',v,dQ,M2,gu,g1,g2,g3,g4⟩
 |outgrown=>exact he
 |returned v=>
  obtain⟨c,τ,M',h1,h2,h3,h4⟩:=he;exact gA c v .ret (λc c' R h=>by cases h with|ret h=>exact⟨_,G,h⟩) τ M' w' h1 h2 h3 h4
def a2I:b9->Prop
 | .dead=>True
 | .boxT _ cells=>∀c∈cells,o8 c
 | .tipT _ _=>True
 | .vec _ aa=>∀r∈aa,∀c∈r,o8 c
 | .map es=>∀x∈es,o8 x.1/\o8 x.2
 | .iter c l=>(∀x∈c,o8 x.1/\o8 x.2)/\∀x∈l,o8 x.1/\o8 x.2
 | .blk _=>True
 | .lp _ _ cs=>∀x∈cs,o8 x.2
theorem G7{l:List CV}(h:∀c∈l,o8 c):a12 R l l:=⟨G,λi c c' g g'=>by
 rw[g]at g';injection g' with g';subst g'
 exact .pure (h c (n_3 g))⟩
theorem a8b{l:List (CV×CV)}(h:∀x∈l,o8 x.1/\o8 x.2):c4r R l l:=⟨G,λi c c' g g'=>by
 rw[g]at g';injection g' with g';subst g'
 exact⟨.pure (h c (n_3 g)).1,.pure (h c (n_3 g)).2⟩⟩
theorem a2I.ren(h:a2I ob):H3 R ob ob:=by
 cases ob with
 |dead=>exact .dead
 |boxT t0 cells=>exact .box (G7 h)
 |tipT t0 n=>exact .tip n
 |vec s aa=>
  refine .vec G λi r r' g g'=>?_;rw[g]at g';injection g' with g';subst g'
  exact G7 (h r (n_3 g))
 |map es=>exact .map (a8b h)
 |iter c l=>exact .iter (a8b h.1) (a8b h.2)
 |blk o=>exact .blk o
 |lp o n cs=>
  refine .lp G λi x x' g g'=>?_;rw[g]at g';injection g' with g';subst g'
  exact .pure (h x (n_3 g))
theorem a2I.old(h:a2I ob):G1 n ob:=by
 cases ob with
 |dead=>trivial
 |boxT t0 cells=>exact λc hc=>(h c hc).old
 |tipT t0 n=>trivial
 |blk o=>trivial
 |lp o n cs=>exact λx hx=>(h x hx).old
 |vec s aa=>exact λr hr c hc=>(h r hr c hc).old
 |map es=>exact λx hx=>⟨(h x hx).1.old,(h x hx).2.old⟩
 |iter c l=>exact⟨λx hx=>⟨(h.1 x hx).1.old,(h.1 x hx).2.old⟩,λx hx=>⟨(h.2 x hx).1.old,(h.2 x hx).2.old⟩⟩
def a2O:List Nat->List b9->List b9->List b9
 | [],_,σ=>σ
 |_::_,[],σ=>σ
 |k::ks,o::os,σ=>a2O ks os (σ.set k o)
theorem a52:∀(ks:List Nat) (os:List b9) (σ:List b9),(a2O ks os σ).length=σ.length
 | [],_,σ=>rfl
 |k::ks,[],σ=>rfl
 |k::ks,o::os,σ=>by rw[a2O,a52 ks os];simp
theorem a3N:∀(ks:List Nat) (os:List b9) (σ:List b9) (k:Nat),k∉ks->(a2O ks os σ)[k]?=σ[k]?
 | [],_,σ,k,_=>rfl
 |_::ks,[],σ,k,_=>rfl
 |k'::ks,o::os,σ,k,h=>by
  rw[a2O,a3N ks os _ k λhm=>h (by simp[hm]),a1c λe=>h a2v]
theorem b1i:∀(ks:List Nat) (os:List b9) (σ:List b9) (i k:Nat),(∀(i j k:Nat),ks[i]?=some k->ks[j]?=some k->i=j)->ks.length=os.length->ks[i]?=some k->k<σ.length->(a2O ks os σ)[k]?=os[i]?
 | [],_,σ,i,k,_,_,h,_=>by simp at h
 |_::ks,[],σ,i,k,_,h,_,_=>by simp at h
 |k'::ks,o::os,σ,i,k,ez,hl,hi,hk=>by
  rw[a2O];have hnd':∀(i j k:Nat),ks[i]?=some k->ks[j]?=some k->i=j:=λi j k h1 h2=>by
   have:=ez (i+1) (j+1) k (U h1) (U h2);omega
  rcases i with _|i
  .simp at hi;subst hi;rw[a3N ks os _ k' λhm=>by
    obtain⟨j,hj⟩:=J6.1 hm;have:=ez 0 (j+1) k' G (U hj);omega]
   simp[hk]
  .rw [b1i ks os _ i k hnd' (U hl) (U hi) (U hk)];simp
theorem a03{res':α->L7}{S N:α->List b9}{P:α->Prop}(am:List Nat)(hC:C.plain)(ao:am.length=obs.length)(ez:∀(i j k:Nat),am[i]?=some k->am[j]?=some k->i=j)
 (cR:∀(i k:Nat),am[i]?=some k->k<σ.length/\σ[k]?=obs[i]?)(hpo:∀ob∈obs,a2I ob)(ap:a12 (λk i=>am[i]?=some k) args' args)
 (h:b8 C f args obs λr τ=>∃a,r=res a/\τ=S a++N a/\P a)(hS:∀a,P a->(S a).length=obs.length/\∀ob∈S a++N a,a2I ob)(dy:∀a,P a->a6a (Y6 am σ.length) (res a) (res' a)):
 b8 C f args' σ λr τ=>∃a,r=res' a/\τ=a2O am (S a) σ++N a/\P a:=by
 refine I9 am hC ao ez (λi k ob hi ho=>?_) ap h λr τ hk=>?_
 .obtain ⟨_,h2⟩:=cR i k hi;exact⟨ob,by rw[h2,ho],(hpo ob (n_3 ho)).ren⟩
 .obtain ⟨a,rfl,rfl,hp⟩:=hk;obtain⟨hl,hn⟩:=hS a hp;have gC:=a52 am (S a) σ;refine⟨by simp[hl],res' a,a2O am (S a) σ++N a,dy a hp,by simp[gC,hl],λk hk bi=>?_,λi k x ha hx=>?_,a,G,G,hp⟩
  .rw [T6 (by rw[gC];exact hk),a3N am (S a) σ k bi]
  .refine ⟨x,?_,(hn x (n_3 hx)).ren⟩
   rcases ha with ha|⟨ha,rfl⟩
   .have hk:=(cR i k ha).1;have bX:i< (S a).length:=by rw[hl,<- ao];exact(n_2.1 ha).1
    rw[T6 bX]at hx;rw[T6 (by rw[gC];exact hk),b1i am (S a) σ i k ez (by rw[ao,hl]) ha hk,hx]
   .rw [a5O J]at hx;rw[a5O (by rw[gC];omega),gC,<- hx]
    congr 1
    omega
theorem a12.nil:a12 R [] []:=⟨G,λi c c' h=>by simp at h⟩
theorem a12.cons{l l':List CV}(h:O1 R c c')(hl:a12 R l l'):a12 R (c::l) (c'::l'):=⟨n_7 (· +1) hl.1,λi d d' g g'=>by
 rcases i with _|i
 .simp at g g';subst g g';exact h
 .exact hl.2 i d d' (U g) (U g')⟩
inductive X0(n:Nat)(τ:List b9):L7->L7->Prop where
 |ret {c c':CV}:Cls n τ c c'->X0 n τ (.ret c) (.ret c')
 |pan {c c':CV}:Cls n τ c c'->X0 n τ (.pan c) (.pan c')
theorem K9{S:α->List b9}{P:α->Prop}(hC:C.plain)
 (h:b8 C f args obs λr τ=>∃a,X0 (S a).length τ r (res a)/\a4o (S a).length τ τ (S a)/\obs.length<=(S a).length/\P a):b8 C f args obs λr τ=>∃a,r=res a/\τ=S a/\P a:=λM w vs hr hn hx=>(h M w vs hr hn hx).mono λe w' he=>by
 cases e with
 |returned v=>
  obtain⟨c',τ,M',h1,h2,h3,a,h4,h5,h6,h7⟩:=he;obtain⟨g1,g2,g3⟩:=h2.cutCls hC h5;generalize hra:res a=ra at h4;cases h4 with
  |ret h4=>exact⟨_,S a,_,g3 M w h1 (by rw[hr.len];exact h6),g1,RV.close h2 g2 (λk p s aa hk hp hs=>.inr ⟨k,p,_,hk,hp,hs,G,G⟩) h4 h3,a,hra.symm,G,h7⟩
 |panicked ch=>
  obtain⟨c',v,τ,M',h0,h1,h2,h3,a,h4,h5,h6,h7⟩:=he;obtain⟨g1,g2,g3⟩:=h2.cutCls hC h5;generalize hra:res a=ra at h4;cases h4 with
  |pan h4=>exact⟨_,v,S a,_,h0,g3 M w h1 (by rw[hr.len];exact h6),g1,RV.close h2 g2 (λk p s aa hk hp hs=>.inr ⟨k,p,_,hk,hp,hs,G,G⟩) h4 h3,a,hra.symm,G,h7⟩
 |outgrown=>exact he
theorem a6C(hC:C.plain)(hob:a2I ob)(hc:o8 c)(hq:σ[q]?=some ob)(ap:a12 (λk i=>[q][i]?=some k) args' args)
 (h:b8 C f args [ob] λr τ=>∃_:Unit,X0 [ob].length τ r (.ret c)/\a4o [ob].length τ τ [ob]/\[ob].length<=[ob].length/\True):b8 C f args' σ λr τ=>r= .ret c/\τ=σ:=by
 have hk:q<σ.length:=(n_2.1 hq).1;have h1:=K9 (res:=λ_=>.ret c) (S:=λ_=>[ob]) (P:=λ_=>True) hC h;have h2:=a03 (σ:=σ) (args':=args') (res':=λ_:Unit=>.ret c) (N:=λ_=>[]) [q] hC G (λi j k h1 h2=>by
  have:=(n_2.1 h1).1;have:=(n_2.1 h2).1;simp at*;omega) (λi k hi=>by
  rcases i with _|i
  .simp at hi;subst hi;exact⟨hk,by rw[hq];rfl⟩
  .simp at hi) (λo ho=>by simp at ho;subst ho;exact hob) ap (h1.mono λr τ ⟨a,e1,e2,e3⟩=>⟨a,e1,by rw[e2,a0h],e3⟩) (λ_ _=>⟨G,λo ho=>by simp at ho;subst ho;exact hob⟩) (λ_ _=>.ret (.pure hc))
 refine h2.mono λr τ ⟨_,e1,e2,_⟩=>⟨e1,?_⟩;rw[e2,a0h];show σ.set q ob=σ;apply b2J;intro i;rw[a9P]
 split
 .rename_i e;subst e;first|(rw[W hk,hq])|(rw[hq])
 .rfl
theorem a4h{P:Program}{f:FuncId}{fn:Func}{e:Array Value → Sem Value}{args:Array Value}{w:World}{v:Value}(hf:P.funcs[f]?=some fn)(fI:(fn.name == "runtime.NumGoroutine")=false)(hb:fn.body.isNone =true)(hn:Extern.findNext fn=none)(he:Extern.find fn=some e)(hr:(e args).run P w= .ok v w):
 (callFunc f args).run P w= .ok (.value v) w:=by
 simp only[callFunc,Sem.run_bind,run_program,Result.andThen_ok,hf,fI,hb,hn,he];simp[hr]
section
theorem b95{f:FuncId}{fn:Func}{e:Array Value → Sem Value}{ts:Array TypeId}{x y:Operand}{a b v:Value}(ho:o.op = .call {callee:=.value (.func f),args:= #[x,y],argTypes:=ts})(hf:C.P.funcs[f]?=some fn)(fI:(fn.name == "runtime.NumGoroutine")=false)(hb:fn.body.isNone =true)(hn:Extern.findNext fn=none)(he:Extern.find fn=some e)
 (hx:E.valid x)(hy:E.valid y)(ex:E.val C x= .val a)(ey:E.val C y= .val b)(hr:∀w,(e #[a,b]).run C.P w= .ok v w):j4 C σ E o (.val v):=
 i8 λM w ρ _ hh=>by
  have h1:=hh x J9 hx;have h2:=hh y J9 hy;have cu:=r6 (hh (.func f) J9 O);rw[ex]at h1;rw[ey]at h2;refine⟨v,?_,.val _⟩;have:=a4h (args:=#[a,b]) (w:=w) hf fI hb hn he (hr w);simp[execOp,ho,resolve,cu,r6 h1,r6 h2,Deferred.ofValue,invoke,this]
end
theorem c4A(s:D)(c:UInt8)(w:World):(Extern.BytealgCount.count #[.string (str s),.int .u8 c.toNat]).run P w= .ok (.int .i64 (s.count c:Nat)) w:=by
 have:=Go.Lib.run_countString (P:=P) (str s) (c.toNat:Int) w;rw[this];simp[Go.Lib.countByte,str]
theorem c5D(s:D)(c:UInt8)(w:World):(Extern.BytealgIndexByte.indexByte #[.string (str s),.int .u8 c.toNat]).run P w= .ok (.int .i64 (Go.Lib.indexByte s c)) w:=by
 have:=Go.Lib.run_indexByteString (P:=P) (str s) (c.toNat:Int) w;rw[this];simp[str]
def d4T:L7->Prop
 | .ret c=>o8 c
 | .pan c=>o8 c
theorem F8{P:α->Prop}(hC:C.plain)(ap:∀c∈args,o8 c)
 (h:b8 C f args [] λr τ=>∃a,X0 0 τ r (res a)/\P a)(dy:∀a,P a->d4T (res a))(σ:List b9):b8 C f args σ λr τ=>∃a,r=res a/\τ=σ/\P a:=by
 have h1:b8 C f args [] λr τ=>∃a,r=res a/\τ=(λ_=>[]) a/\P a:=K9 (res:=res) (S:=λ_=>[]) (P:=P) hC (h.mono λr τ ⟨a,h2,h3⟩=>⟨a,h2,by cases τ<;>trivial,n_6 _,h3⟩);have h2:=a03 (σ:=σ) (args':=args) (res':=res) (S:=λ_=>[]) (N:=λ_=>[]) (P:=P) [] hC G (λi j k h1=>by simp at h1) (λi k h1=>by simp at h1) (λo ho=>by simp at ho) (G7 ap)
  (h1.mono λr τ ⟨a,e1,e2,e3⟩=>⟨a,e1,by rw[e2];rfl,e3⟩) (λ_ _=>⟨G,λo ho=>by simp at ho⟩) (λa hp=>by
   have:=dy a hp;cases hr:res a with
   |ret c=>rw[hr]at this;exact .ret (.pure this)
   |pan c=>rw[hr]at this;exact .pan (.pure this))
 exact h2.mono λr τ ⟨a,e1,e2,e3⟩=>⟨a,e1,by rw[e2];simp[a2O],e3⟩
theorem a9d(h:b8 C f args (σ++[.dead]) K):b8 C f args σ K:=λM w vs hr hn hx=>by
 obtain⟨h1,h2⟩:=hr.addDead ⟨0,0,0⟩;refine(h _ w vs h1 hn λi c hi=>(hx i c hi).mono h2).mono λe w' he=>?_;cases e with
 |returned v=>
  obtain⟨c,τ,M',g1,g2,g3,g4⟩:=he;exact⟨c,τ,M',h2.trans g1,g2,g3,g4⟩
 |panicked ch=>
  obtain⟨c,v,τ,M',g0,g1,g2,g3,g4⟩:=he;exact⟨c,v,τ,M',g0,h2.trans g1,g2,g3,g4⟩
 |outgrown=>exact he
theorem a7V{c:Code}(h:CWp C n c Ji E (σ++[.dead])):CWp C n c Ji E σ:=λM w a hr hf=>by
 obtain⟨h1,h2⟩:=hr.addDead ⟨0,0,0⟩;exact wp_mono (h _ w a h1 (hf.mono h2)) λ_ _ _=>O6.later h2
inductive d0E(L:Nat)(am:List Nat):L7->L7->Prop where
 |ret {c c':CV}:B5 L am c c'->d0E L am (.ret c) (.ret c')
 |pan {c c':CV}:B5 L am c c'->d0E L am (.pan c) (.pan c')
def C9(L:Nat)(τ:List b9)(r r':L7)(S:List b9):Prop:=∃am,a7I L am=true/\Y9 am=true/\d0E L am r r'/\b6r L am τ am S
theorem D7(hC:C.plain)(h:b8 C f args obs λr τ=>∃r' S,C9 obs.length τ r r' S/\K r' S):b8 C f args obs K:=λM w vs hr hn hx=>by
 refine(h M w vs hr hn hx).mono λe w' he=>?_;cases e with
 |returned v=>
  obtain⟨c,τ,M',g1,g2,g3,r',S,⟨am,k1,k2,k3,k4⟩,k5⟩:=he;have hL:obs.length<=M'.pl.length:=by
   obtain⟨l,hl⟩:=g1.pl;rw[hl,<- hr.len];simp
  cases k3 with
  |ret k3=>exact⟨_,S,_,g1.ren k1 hr.len,g2.ren hC k1 k2 hL k4,RV.ren (a2R k1) hL g3 k3,k5⟩
 |panicked ch=>
  obtain⟨c,v,τ,M',g0,g1,g2,g3,r',S,⟨am,k1,k2,k3,k4⟩,k5⟩:=he;have hL:obs.length<=M'.pl.length:=by
   obtain⟨l,hl⟩:=g1.pl;rw[hl,<- hr.len];simp
  cases k3 with
  |pan k3=>exact⟨_,v,S,_,g0,g1.ren k1 hr.len,g2.ren hC k1 k2 hL k4,RV.ren (a2R k1) hL g3 k3,k5⟩
 |outgrown=>exact he
section
theorem o5{c:α->CV}{S:α->List b9}{P:α->Prop}{c':β->CV}{S':β->List b9}{P':β->Prop}(ho:o.op = .call {callee:=.value (.func f),args:=xs,argTypes:=ts})(aE:∀args w,(callFunc f args).run C.P w= .ok (.enter f args) w)
 (hv:E.valids xs.toList)(h:b8 C f cargs σ λr ae=>(∃a,r= .ret (c a)/\ae=S a/\P a)\/∃b,r= .pan (c' b)/\ae=S' b/\P' b)(ea:(E.vals C xs.toList).map CV.fgt=cargs)(hp:∀b,P' b->K (.pan (c' b)) (S' b))(hk:∀a,P a->K (.ret (c a)) (S a)):C5 C σ E o K:=
 b03 ho aE (Env.valids_mem hv) (Env.vals_map _) ((Y8 (ea▸h)).mono λr ae hh=>by
  rcases hh with⟨a,rfl,rfl,hq⟩|⟨b,rfl,rfl,hq⟩
  .exact hk a hq
  .exact hp b hq)
theorem N5{c':β->CV}{S':β->List b9}{P':β->Prop}(ho:o.op = .call {callee:=.value (.func f),args:=xs,argTypes:=ts})(aE:∀args w,(callFunc f args).run C.P w= .ok (.enter f args) w)
 (hv:E.valids xs.toList)(h:b8 C f cargs σ λr ae=>∃b,r= .pan (c' b)/\ae=S' b/\P' b)(ea:(E.vals C xs.toList).map CV.fgt=cargs)(hp:∀b,P' b->K (.pan (c' b)) (S' b)):C5 C σ E o K:=
 b03 ho aE (Env.valids_mem hv) (Env.vals_map _) ((Y8 (ea▸h)).mono λr ae hh=>by
  obtain⟨b,rfl,rfl,hq⟩:=hh;exact hp b hq)
def a9T:TypeDesc->Bool
 | .interface _=>true
 |_=>false
theorem b9W{Jj:TypeDesc}(h:∀w,(underlying t).run P w= .ok Jj w)(hu:a9T Jj=false)(v:Value)(w:World):(Instr.makeInterface t v).run P w= .ok (.iface t v) w:=by
 simp[Instr.makeInterface,go_sem];rw[h w];cases Jj<;>simp[a9T]at hu⊢
theorem c4m{xs:List Value}(ho:o.op = .makeInterface t x)(hx:E.valid x)(ex:E.val C x=plain xs)(hm:∀v w,(Instr.makeInterface t v).run C.P w= .ok (.iface t v) w):j4 C σ E o (.val (.iface t (.agg xs.toArray))):=
 i8 λM w ρ _ h=>by
  have h1:=h x r7 hx;rw[ex]at h1;have h2:=a09 h1;refine⟨_,?_,.val _⟩;simp only[execOp,ho];rw[<- h2];simp[hm]
end
section
theorem A1{l:List Oper}(ae:List b9)(h:σ=ae)(k:F0 C n af Ji l E ae):F0 C n af Ji l E σ:=h▸k
theorem a2t{c:Code}(ae:List b9)(h:σ=ae)(k:CWp C n c Ji E ae):CWp C n c Ji E σ:=h▸k
end
def addDs(ds:List Deferred)(a:Act):Act:={a with defers:=a.defers++ds}
theorem S7{ds:List Deferred}{a:Act}{d:Option Nat}:(addDs ds a).put d v=addDs ds (a.put d v):=by
 cases d<;>rfl
theorem a8U{ds:List Deferred}{a:Act}{d:Deferred}{t:Option Nat}:({addDs ds a with defers:=d::(addDs ds a).defers}:Act).put t undef=addDs ds (({a with defers:=d::a.defers}:Act).put t undef):=by
 cases t<;>rfl
theorem c43{Ji Q':Exit->Act->World->Prop}{ds:List Deferred}(hq:∀e a w,Ji e a w->Q' e (addDs ds a) w):∀(l:List Oper) (a:Act) (w:World),wpList P af Ji l a w->wpList P af Q' l (addDs ds a) w:=by
 have bq:LetsOut Ji->LetsOut Q':=λ⟨a0,w0,h⟩=>⟨_,w0,hq _ a0 w0 h⟩;intro l
 induction l with
 |nil=>exact λa w h=>hq _ _ _ h
 |cons o l ih=>
  intro a w h;unfold wpList at h⊢;change if Region.wanted o (yielded af a.tmps)=true then _ else _
  split
  .rename_i hw;rw[W hw]at h;refine h.imp (λh=>?_) (λ⟨h1,h2⟩=>⟨h1,bq h2⟩);unfold Oper.wp at h⊢;change o.upon P (addDs ds a) _ _ ((execOp a.eval o).run P w);generalize (execOp a.eval o).run P w=r at h;cases r with
   |ok x w3=>
    cases x<;>simp only[Oper.upon]at h⊢
    case value v=>rw[S7];exact ih _ _ h
    case skip=>rw[S7];exact ih _ _ h
    case defer d=>rw[a8U];exact ih _ _ h
    case enter f args=>
     refine h.mono λe w4 he=>?_;cases e with
     |returned v=>show wpList P af Q' l ((addDs ds a).put o.dst v) w4;rw[S7];exact ih _ _ he
     |panicked ch=>exact hq _ _ _ he
     |outgrown=>exact bq he
    case row r args=>exact Rows.mono h λ_ _ he=>by rw[S7];exact ih _ _ he
   |halt x w3=>
    cases x<;>simp only[Oper.upon]at h⊢
    exact hq _ _ _ h
  .rename_i hw;rw[H hw]at h;rw[S7];exact ih _ _ h
def b85(ds:List Deferred)(C:Ctx)(n:Nat)(Ji:A7->Env->List b9->Prop)(M:A5)(w:World)(e:Exit)(a':Act)(w':World):Prop:=∃a0,a'=addDs ds a0/\O6 C n Ji M w e a0 w'
def a4R(ds:List Deferred)(C:Ctx)(n:Nat)(c:Code)(Ji:A7->Env->List b9->Prop)(E:Env)(σ:List b9):Prop:=
 ∀(M:A5) (w:World) (a:Act),Rel C M σ w->G4 M w n E a->c.wp C.P (b85 ds C n Ji M w) (addDs ds a) w
section
variable{ds:List Deferred}
theorem b85.later{M1:A5}{w1:World}(he:Ext M w M1 w1){e:Exit}{a:Act}{w':World}(hl:b85 ds C n Ji M1 w1 e a w'):b85 ds C n Ji M w e a w':=by
 obtain⟨a0,h0,h⟩:=hl;exact⟨a0,h0,O6.later he h⟩
theorem a3G(h:F0 C n af Ji af.toList E σ):a4R ds C n (.region id af false) Ji E σ:=
 λM w a hr hf=>wp_region_list (c43 (λ_ a0 _ h=>⟨a0,G,h⟩) _ _ _ (h M w a hr hf))
theorem b0c(h:Ji .ret E σ):a4R ds C n .ret Ji E σ:=λM w a hr hf=>wp_ret ⟨a,G,E,σ,M,Ext.refl M w,hr,hf,h⟩
theorem c8M(h:Ji .normal E σ):a4R ds C n .skip Ji E σ:=λM w a hr hf=>wp_skip ⟨a,G,E,σ,M,Ext.refl M w,hr,hf,h⟩
theorem a5d{x y:Code}(h:a4R ds C n x (A7.next (a4R ds C n y Ji) Ji) E σ):a4R ds C n (.seq x y) Ji E σ:=λM w a hr hf=>by
 refine wp_seq (wp_mono (h M w a hr hf) λe a' w' hl=>?_);obtain⟨a0,rfl,E',ae,M',h1,h2,h3,h4⟩:=hl;cases e with
 |normal=>exact wp_mono (h4 M' w' a0 h2 h3) λ_ _ _=>b85.later h1
 |_=>exact⟨a0,G,E',ae,M',h1,h2,h3,h4⟩
theorem b8U{c:Operand}{x y:Code}(hv:E.valid c)(hc:E.val C c= .val (.bool b))(ht:b=true->a4R ds C n x Ji E σ)(gJ:b=false->a4R ds C n y Ji E σ):a4R ds C n (.cond c x y) Ji E σ:=λM w a hr hf=>by
 have h1:RV M w (E.val C c) (a.eval c):=hf.eval hr hv;rw[hc]at h1;have h2:a.eval c= .bool b:=by generalize a.eval c=Jj at h1;cases h1;rfl
 exact wp_cond_split (a:=addDs ds a) h2 (λh=>ht h M w a hr hf) (λh=>gJ h M w a hr hf)
end
section
theorem a3f{caps:Array Operand}(ho:o.op = .makeFunc (.func f) #[] caps)(hv:E.valids caps.toList):j4 C σ E o (.clo f (E.vals C caps.toList)):=
 i8 λM w ρ _ h=>by
  refine⟨.func (.func f) #[] (caps.map ρ),by simp[execOp,ho,Instr.makeFunc],.clo (by rw[<- Env.vals_map];simp) λi c hi=>?_⟩;rw[<- Env.vals_map,N6,M8]at hi;obtain⟨x,hx,rfl⟩:=hi;have aD:caps[i]?=some x:=U hx;have hm:x∈caps:=b4k aD;have:(caps.map ρ).getD i undef=ρ x:=by
   rw[a0b,c0M,aD];rfl
  rw[this];exact h x (by simp[ho,Op.operands,hm]) (Env.valids_mem hv x (U hm))
theorem a8r{f:FuncId}{cx:Operand}{xs:Array Operand}{ts:Array TypeId}{cargs caps:List CV}{K:L7->List b9->Prop}(ho:o.op = .call {callee:=.value cx,args:=xs,argTypes:=ts})(hc:E.valid cx)(ec:E.val C cx= .clo f caps)(aE:∀args w,(callFunc f args).run C.P w= .ok (.enter f args) w)
 (hv:∀x∈xs.toList,E.valid x)(ea:xs.toList.map (E.val C)=cargs)(h:b8 C f (cargs++caps) σ K):C5 C σ E o K:=λM w ρ hr hh=>by
 have hf:=hh cx J9 hc;rw[ec]at hf;generalize hcx:ρ cx=fv at hf;cases hf with
 | @clo _ _ vs aP iI=>
  have az:(execOp ρ o).run C.P w= .ok (.enter f (xs.map ρ++vs)) w:=by
   simp[execOp,ho,resolve,hcx,Deferred.ofValue,invoke,aE]
  rw[az];refine(h M w (xs.map ρ++vs) hr (by simp[<- ea,aP]) λi c hi=>?_).mono λe w' he=>by cases e<;>exact he
  subst ea;rw[a0b,b8Q];rw[a6m]at hi;simp only[N0,a9A,Array.size_map]at hi⊢
  split<;>rename_i ai
  .rw [W ai]at hi;simp only[N6,M8]at hi;obtain⟨x,hx,rfl⟩:=hi;have aD:xs[i]?=some x:=U hx;have hm:x∈xs:=b4k aD;rw[c0M,aD];exact hh x (by simp[ho,Op.operands,Call.operands,hm]) (hv x (U hm))
  .rw [H ai]at hi;have:=iI _ _ hi;rwa[a0b]at this
theorem b31{cx:Operand}{caps:List CV}(ho:o.op = .call {callee:=.value cx,args:=xs,argTypes:=ts})(hc:E.valid cx)(ec:E.val C cx= .clo f caps)(aE:∀args w,(callFunc f args).run C.P w= .ok (.enter f args) w)
 (hv:E.valids xs.toList)(h:b8 C f (cargs++caps) σ λr ae=>r= .ret c/\ae=σ)(ea:E.vals C xs.toList=cargs):j4 C σ E o c:=
 a8r ho hc ec aE (Env.valids_mem hv) (Env.vals_map _) (ea▸h)
end
def c6e(C:Ctx)(M:A5)(w:World)(K:L7->List b9->Prop):Ending->World->Prop
 | .returned v,w'=>a1h C M w K v w'
 | .panicked ch,w'=>R5 C M w K ch w'
 | .outgrown,_=>False
theorem c6e.later{M1:A5}{w1:World}(hx:Ext M w M1 w1){e:Ending}{w':World}(h:c6e C M1 w1 K e w'):c6e C M w K e w':=by
 cases e with
 |returned v=>
  obtain⟨c,ae,M',h1,h2⟩:=h;exact⟨c,ae,M',hx.trans h1,h2⟩
 |panicked ch=>
  obtain⟨c,v,ae,M',h0,h1,h2⟩:=h;exact⟨c,v,ae,M',h0,hx.trans h1,h2⟩
 |outgrown=>exact h
theorem a4N{fn:Func}{tmps:Array Value}{R R':Ending->World->Prop}(h:∀e w,R e w->R' e w):∀(ds:List Deferred) (Jj:FrameMode) (w:World),Leaves P fn tmps R ds Jj w->Leaves P fn tmps R' ds Jj w:=by
 intro ds
 induction ds with
 |nil=>
  intro Jj w hl;cases Jj with
  |run=>exact hl
  |returning=>
   obtain⟨v,h1,h2⟩:=hl;exact⟨v,h1,h _ _ h2⟩
  |panicking ch=>exact h _ _ hl
 |cons d ds ih=>
  intro Jj w hl;obtain⟨h1,fv,cap,f,args,h2,h3,h4⟩:=hl;refine⟨h1,fv,cap,f,args,h2,h3,h4.mono λe u' w' he=>?_⟩;cases e with
  |returned v=>exact ih _ _ he
  |panicked ch=>exact ih _ _ he
  |outgrown=>exact h _ _ he
theorem b06{fn:Func}{R R':Ending->World->Prop}(h:∀e w,R e w->R' e w){e:Exit}{a:Act}(hb:bodyPostD P fn R e a w):bodyPostD P fn R' e a w:=by
 cases e with
 |normal=>exact a4N h _ _ _ hb
 |ret=>exact a4N h _ _ _ hb
 |panic ch=>exact a4N h _ _ _ hb
 |outgrown=>exact h _ _ hb
 |exit id=>exact hb
 |goto l=>exact hb
def b7g(C:Ctx)(fn:Func)(K:L7->List b9->Prop)(c:Code)(E:Env)(σ:List b9):Prop:=
 ∀(M:A5) (w:World) (a:Act),Rel C M σ w->G4 M w fn.ntmps E a->c.wp C.P (bodyPostD C.P fn (c6e C M w K)) a w
theorem a8w{vs:Array Value}(hn:args.length<=n)(aP:vs.size=args.length)(hx:∀(i:Nat) (c:CV),args[i]?=some c->RV M w c (vs.getD i undef)):G4 M w n (Env.args args) {tmps:=vs++Array.replicate (n-vs.size) undef,defers:=[]}:=by
 refine⟨G,by simp;omega,λt _=>?_,λt ht=>absurd trivial ht⟩;simp only[Env.args,Env.f]
 rcases a3d t args.length with ht|ht
 .have:=hx t (args[t]) (by simp[ht]);have h1:(vs++Array.replicate (n-vs.size) undef).getD t undef=vs.getD t undef:=by
   simp[b8Q,aP,ht]
  rw[h1];simpa[ht]using this
 .have h1:(vs++Array.replicate (n-vs.size) undef).getD t undef=undef:=by
   simp only[a0b,b8Q];rw[H J];rw[Array.getElem?_replicate]
   split<;>rfl
  rw[h1];simp only[b5V ht,Option.getD_none];exact .val _
theorem c1c{fn:Func}{c:Code}(hf:C.P.funcs[f]?=some fn)(hb:fn.body=some c)(hn:Nat.ble args.length fn.ntmps=true)(h:b7g C fn K c (Env.args args) σ):b8 C f args σ K:=λM w vs hr aP hx=>
 (calls_of_wp_defers hf hb (h M w _ hr (a8w (nb hn) aP hx))).mono λe w' he=>by cases e<;>exact he
theorem b96{fn:Func}{x y:Code}(h:CWp C fn.ntmps x (A7.next (b7g C fn K y) (Fin C fn K)) E σ):b7g C fn K (.seq x y) E σ:=λM w a hr hf=>by
 refine wp_seq (wp_mono (h M w a hr hf) λe a' w' hl=>?_);obtain⟨E',ae,M',h1,h2,h3,h4⟩:=hl;cases e with
 |normal=>exact wp_mono (h4 M' w' a' h2 h3) λe a0 w0 hb=>b06 (λe w he=>c6e.later h1 he) hb
 |ret=>
  obtain⟨c,hc,hk⟩:=h4;obtain⟨v,hv,ba⟩:=hc M' w' a' h2 h3.rv;show Leaves C.P fn a'.tmps _ a'.defers .returning w';rw[h3.defers];exact⟨v,hv,c,ae,M',h1,h2,ba,hk⟩
 |panic ch=>
  obtain⟨c,v,h0,hv,hk⟩:=h4;show Leaves C.P fn a'.tmps _ a'.defers (.panicking ch) w';rw[h3.defers];exact⟨c,v,ae,M',h0,h1,h2,hv,hk⟩
 |exit id=>exact h4.elim
 |goto l=>exact h4.elim
 |outgrown=>exact h4.elim
def b1s(b:Bool)(v:Value):FrameMode:=if b then .panicking [{v,recovered:=false}]else .returning
def Z7(b:Bool)(v:Value):FrameMode:=if b then .panicking [{v,recovered:=true}]else .returning
theorem b4y(b:Bool)(v:Value):settle (Z7 b v)= .returning:=by cases b<;>rfl
def c58(C:Ctx)(g:FuncId)(caps:List CV)(σ:List b9)(b:Bool)(Jj:CV)(K:List b9->Prop):Prop:=
 ∀(M:A5) (w:World) (vs:Array Value) (v:Value),Rel C M σ w->vs.size=caps.length->(∀(i:Nat) (c:CV),caps[i]?=some c->RV M w c (vs.getD i undef))->RV M w Jj v ->
  CallsD C.P g vs (b1s b v) w λe u' w'=>(∃x,e= .returned x)/\u'=Z7 b v/\∃ae M',Ext M w M' w'/\Rel C M' ae w'/\K ae
theorem c9y{C:Ctx}{fn:Func}{K:L7->List b9->Prop}{id:Nat}{af:Array Oper}{y:Code}{E:Env}{σ:List b9}{g:FuncId}{caps:Array Operand}{t:Nat}{o1 o2:Oper}{ats:Array TypeId}(hl:af.toList=[o1,o2])(g1:o1.guard=none)(g2:o2.guard=none)(d1:o1.dst=some t)(d2:o2.dst=none)(ht:t<fn.ntmps)
 (e1:o1.op = .makeFunc (.func g) #[] caps)(e2:o2.op = .defer {callee:=.value (.tmp t),args:=#[],argTypes:=ats})(hg:∀args w,(callFunc g args).run C.P w= .ok (.enter g args) w)(hv:E.valids caps.toList)
 (h:∀ds,a4R ds C fn.ntmps y (λe E' ae=>match e with
  | .normal | .ret=>c58 C g (E.vals C caps.toList) ae false (.val undef) λbu=>∃c,V1 C E' bu fn c/\K (.ret c) bu
  | .pan Jj=>c58 C g (E.vals C caps.toList) ae true Jj λbu=>∃c,V1 C E' bu fn c/\K (.ret c) bu
  |_=>False) (E.put (some t) (.clo g (E.vals C caps.toList)) True) σ):b7g C fn K (.seq (.region id af false) y) E σ:=λM w a hr hf=>by
 refine wp_seq (wp_region_list ?_);rw[hl];obtain⟨v,dO,cL⟩:∃v,(execOp a.eval o1).run C.P w= .ok (.value v) w/\RV M w (.clo g (E.vals C caps.toList)) v:=by
  refine⟨.func (.func g) #[] (caps.map a.eval),by simp[execOp,e1,Instr.makeFunc],.clo (by rw[<- Env.vals_map];simp) λi c hi=>?_⟩;rw[<- Env.vals_map,N6,M8]at hi;obtain⟨x,hx,rfl⟩:=hi;have aD:caps[i]?=some x:=U hx;have hm:x∈caps:=b4k aD;have:(caps.map a.eval).getD i undef=a.eval x:=by
   rw[a0b,c0M,aD];rfl
  rw[this];exact hf.eval hr (Env.valids_mem hv x (U hm))
 have cI:G4 M w fn.ntmps (E.put (some t) (.clo g (E.vals C caps.toList)) True) (a.put (some t) v):=hf.put (λt' gD=>by injection gD with gD;omega) (λ_=>cL) λhh=>absurd trivial hh;unfold wpList;rw[W (by simp[Region.wanted,g1])];refine .inl ?_;unfold Oper.wp;rw[dO,Oper.upon_value,d1];unfold wpList;rw[W (by simp[Region.wanted,g2])];refine .inl ?_;have hev:(a.put (some t) v).eval (.tmp t)=v:=by
  have aP:t<a.tmps.size:=by rw[hf.size];exact ht
  simp[Act.eval,Act.put,aP]
 cases cL with
 | @clo _ _ vs aP iI=>
 have az:(execOp (a.put (some t) (.func (.func g) #[] vs)).eval o2).run C.P w= .ok (.defer {target:=.fn (.func g) vs,args:=#[]}) w:=by
  simp[execOp,e2,resolve,hev,Deferred.ofValue]
 unfold Oper.wp;rw[az,Oper.upon_defer,d2];unfold wpList;have hact:({a.put (some t) (.func (.func g) #[] vs)with defers:={target:=.fn (.func g) vs,args:=#[]}::(a.put (some t) (.func (.func g) #[] vs)).defers}:Act).put none undef=addDs [{target:=.fn (.func g) vs,args:=#[]}] (a.put (some t) (.func (.func g) #[] vs)):=by
  simp[addDs,Act.put,hf.defers]
 rw[hact];refine wp_mono (h _ M w _ hr cI) λe a' w' hl=>?_;obtain⟨a0,rfl,E',ae,M',h1,h2,h3,h4⟩:=hl;have hvs':∀(i:Nat) (c:CV),(E.vals C caps.toList)[i]?=some c->RV M' w' c (vs.getD i undef):=λi c hi=>(iI i c hi).mono h1;have ck:(addDs [{target:=.fn (.func g) vs,args:=#[]}] a0).defers=[{target:=.fn (.func g) vs,args:=#[]}]:=by simp[addDs,h3.defers]
 have gA:∀(b:Bool) (Jj:CV) (pv:Value),RV M' w' Jj pv->(c58 C g (E.vals C caps.toList) ae b Jj λbu=>∃c,V1 C E' bu fn c/\K (.ret c) bu)->Leaves C.P fn a0.tmps (c6e C M w K) [{target:=.fn (.func g) vs,args:=#[]}] (b1s b pv) w':=λb Jj pv hu hd=>by
  refine leaves_cons (f:=g) (args:=vs) (by cases b<;>simp[b1s]) (by simp[invoke,hg]) ((hd M' w' vs pv h2 aP hvs' hu).mono λe u' w'' he=>?_);obtain⟨⟨x,rfl⟩,rfl,bu,hZ,k1,k2,c,hc,hk⟩:=he;show Leaves C.P fn a0.tmps _ [] (settle _) w'';rw[b4y];obtain⟨rv,ba,hrv2⟩:=hc hZ w'' a0 k2 λt ht=>(h3.rv t ht).mono k1;exact⟨rv,ba,c,bu,hZ,h1.trans k1,k2,hrv2,hk⟩
 cases e with
 |normal=>
  show Leaves C.P fn _ _ (addDs _ a0).defers .returning w';rw[ck];exact gA false _ undef (.val _) h4
 |ret=>
  show Leaves C.P fn _ _ (addDs _ a0).defers .returning w';rw[ck];exact gA false _ undef (.val _) h4
 |panic ch=>
  obtain⟨c,pv,rfl,hpv,h4⟩:=h4;show Leaves C.P fn _ _ (addDs _ a0).defers (.panicking _) w';rw[ck];exact gA true c pv hpv h4
 |exit id=>exact h4.elim
 |goto l=>exact h4.elim
 |outgrown=>exact h4.elim
theorem d3d{g:FuncId}{fn:Func}{y:Code}{caps:List CV}{Jj:CV}{K:List b9->Prop}{t1 t2:Nat}{o1 o2:Oper}{ats:Array TypeId}(hf:C.P.funcs[g]?=some fn)(hb:fn.body=some (.seq (.region id af false) y))(bM:fn.results = #[])(hn:Nat.ble caps.length fn.ntmps=true)
 (hs:af.size=2)(h0:af[0]?=some o1)(h1:af[1]?=some o2)(g1:o1.guard=none)(g2:o2.guard=none)(d1:o1.dst=some t1)(d2:o2.dst=some t2)(ht1:t1<fn.ntmps)(ht2:t2<fn.ntmps)(e1:o1.op = .call {callee:=.builtin .recover,args:=#[],argTypes:=ats})(e2:o2.op = .assign (.tmp t1))
 (h:CWp C fn.ntmps y (λe _ ae=>match e with| .normal | .ret=>K ae|_=>False) (((Env.args caps).put (some t1) (if b then Jj else .val .nilIface) True).put (some t2) (if b then Jj else .val .nilIface) True) σ):c58 C g caps σ b Jj K:=λM w vs v hr aP iI hu=>by
 refine callsD_of_wpS hf hb λgX cs hc₀=>?_;refine wpS_seq (wpS_region ?_);rw[hs];have hrec:recoverD (gX::cs)=if b then some (v,{gX with mode:=Z7 b v}::cs)else none:=by
  unfold recoverD;simp only[hc₀];cases b<;>simp[b1s,Z7]
 have f0:=a8w (n:=fn.ntmps) (nb hn) aP iI;generalize hact:({tmps:=vs++Array.replicate (fn.ntmps -vs.size) undef,defers:=[]}:Act)=a0 at f0;have hrun1:(execOp a0.eval o1).run C.P w= .ok .recover w:=by simp[execOp,e1,resolve,invoke,builtin]
 have rest:∀(x:Value) (aW:List Frame),aW={gX with mode:=Z7 b v}::cs->RV M w (if b then Jj else .val .nilIface) x->wpOpsS C.P af (Exit.thenS (y.wpS C.P (bodyPostS C.P fn gX cs λe u' w'=>(∃x,e= .returned x)/\u'=Z7 b v/\∃ae M',Ext M w M' w'/\Rel C M' ae w'/\K ae)) (bodyPostS C.P fn gX cs λe u' w'=>(∃x,e= .returned x)/\u'=Z7 b v/\∃ae M',Ext M w M' w'/\Rel C M' ae w'/\K ae)) [1] (a0.put (some t1) x) aW w:=by
  intro x aW hcs hx;have f1:G4 M w fn.ntmps ((Env.args caps).put (some t1) (if b then Jj else .val .nilIface) True) (a0.put (some t1) x):=f0.put (λt' gD=>by injection gD with gD;omega) (λ_=>hx) λhh=>absurd trivial hh;have hev:(a0.put (some t1) x).eval (.tmp t1)=x:=by
   have aP:t1<a0.tmps.size:=by rw[f0.size];exact ht1
   simp[Act.eval,Act.put,aP]
  have iJ:(execOp (a0.put (some t1) x).eval o2).run C.P w= .ok (.value x) w:=by simp[execOp,e2,hev]
  have f2:G4 M w fn.ntmps (((Env.args caps).put (some t1) (if b then Jj else .val .nilIface) True).put (some t2) (if b then Jj else .val .nilIface) True) ((a0.put (some t1) x).put (some t2) x):=f1.put (λt' gD=>by injection gD with gD;omega) (λ_=>hx) λhh=>absurd trivial hh;simp only[wpOpsS,h1,Region.wanted,g2,if_true,iJ,Oper.upon_value,d2,Exit.thenS];refine wpS_of_wp (wp_mono (h M w _ hr f2) λe a' w' hl=>?_);obtain⟨E',ae,M',k1,k2,k3,k4⟩:=hl;subst hcs;cases e with
  |normal=>exact⟨k3.defers,_,G,_,results_none bM _ _ _,⟨_,G⟩,G,ae,M',k1,k2,k4⟩
  |ret=>exact⟨k3.defers,_,G,_,results_none bM _ _ _,⟨_,G⟩,G,ae,M',k1,k2,k4⟩
  |panic ch=>
   obtain⟨c,pv,_,_,k4⟩:=k4;exact k4.elim
  |exit id=>exact k4.elim
  |goto l=>exact k4.elim
  |outgrown=>exact k4.elim
 show wpOpsS C.P af _ [0,1] _ _ _;unfold wpOpsS;simp only[h0,Region.wanted,g1,if_true,hrun1,hrec,d1];cases b with
 |true=>exact rest v _ G hu
 |false=>
  refine rest .nilIface _ ?_ (.val _);simp[Z7,b1s]at hc₀⊢;cases gX
  simp_all
section
def a9Y:Value->Bool
 | .iface _ _=>true
 |_=>false
theorem c32{ms:Array (String×TypeId)}(ho:o.op = .binOp .neq t x (.const .nilIface) t')(hx:E.valid x)(ex:E.val C x= .val v)(hu:∀w,(underlying t).run C.P w= .ok (.interface ms) w)(hv:v= .nilIface\/∃a b,v= .iface a b):j4 C σ E o (.val (.bool (a9Y v))):=
 i8 λM w ρ _ h=>by
  have h1:=h x r7 hx;rw[ex]at h1;have e1:=r6 h1;have e2:=h (.const .nilIface) r7 G;have e3:=r6 e2;refine⟨.bool (a9Y v),?_,.val _⟩
  rcases hv with rfl|⟨a,b,rfl⟩
  .have he:(Op.equal t .nilIface .nilIface).run C.P w= .ok true w:=by
    unfold Op.equal;rw[show Op.maxDepth=(Op.maxDepth -1)+1 from G,Op.equalIn];simp[hu]
   simp[execOp,ho,e1,e3,eqGuard,binOp,he,a9Y]
  .have he:(Op.equal t (.iface a b) .nilIface).run C.P w= .ok false w:=by
    unfold Op.equal;rw[show Op.maxDepth=(Op.maxDepth -1)+1 from G,Op.equalIn];simp[hu]
   simp[execOp,ho,e1,e3,eqGuard,binOp,he,a9Y]
theorem c4G{s:TypeId}{xs:List Value}{Jj:TypeDesc}(ho:o.op = .typeAssert x s t true)(hx:E.valid x)(ex:E.val C x= .val (.iface t (.agg xs.toArray)))(hu:∀w,(underlying t).run C.P w= .ok Jj w)(hi:a9T Jj=false)(h1x:(xs.all λv=>(CV.val v).one)=true):j4 C σ E o (.tup [plain xs,.val (.bool true)]):=
 i8 λM w ρ _ h=>by
  have h1:=h x r7 hx;rw[ex]at h1;have e1:=r6 h1;refine⟨.tuple #[.agg xs.toArray,.bool true],?_,.tup G λi c hc=>?_⟩
  .simp [execOp,ho,e1,Instr.typeAssert,hu];cases Jj<;>simp[a9T]at hi⊢
  .rcases i with _|_|i
   .injection hc with hc;subst hc
    refine .agg Q (λc hc=>?_) λi c hc=>?_
    .obtain ⟨v,hm,rfl⟩:=D8.1 hc;exact a6h.1 h1x v hm
    .rw [N6,M8]at hc;obtain⟨v,hv,rfl⟩:=hc;have:(xs.toArray).getD i undef=v:=by simp[a0b,hv]
     show RV M w (.val v) ((xs.toArray).getD i undef);rw[this];exact .val v
   .injection hc with hc;subst hc;exact .val _
   .cases hc
end
def a8n(σ:List b9):List Nat->List b9->List b9
 |k::am,x::xs=>(a8n σ am xs).set k x
 |_,_=>σ
theorem b1n(σ:List b9):∀(am:List Nat) (xs:List b9),(a8n σ am xs).length=σ.length
 | [],_=>by cases ‹List b9›<;>rfl
 |_::_,[]=>rfl
 |k::am,x::xs=>by rw[a8n,List.length_set,b1n σ am xs]
theorem b6C{σ:List b9}:∀{am:List Nat} {xs:List b9} {k:Nat},k∉am->(a8n σ am xs)[k]?=σ[k]?
 | [],xs,k,_=>by cases xs<;>rfl
 |j::am,[],k,_=>rfl
 |j::am,x::xs,k,h=>by
  rw[a8n,a1c (λe=>h (by rw[<- e];simp))];exact b6C λhm=>h (by simp[hm])
theorem c1H{σ:List b9}:∀{am:List Nat} {xs:List b9} {i k:Nat} {x:b9},(∀(i j k:Nat),am[i]?=some k->am[j]?=some k->i=j)->k<σ.length->am[i]?=some k->xs[i]?=some x->(a8n σ am xs)[k]?=some x
 | [],xs,i,k,x,_,_,h,_=>by simp at h
 |j::am,[],i,k,x,_,_,_,h=>by simp at h
 |j::am,y::xs,0,k,x,_,hk,h,hx=>by
  simp at h hx;subst h hx;rw[a8n];simp[b1n,hk]
 |j::am,y::xs,i+1,k,x,ez,hk,h,hx=>by
  have aB:j≠k:=λe=>by
   subst e;have:=ez 0 (i+1) j G h;omega
  rw[a8n,a1c aB];exact c1H (λa b c h1 h2=>by
   have:=ez (a+1) (b+1) c (U h1) (U h2);omega) hk (U h) (U hx)
theorem O1.mono(hR:∀k k',R k k'->R' k k')(h:O1 R c c'):O1 R' c c':=(h.symm (R':=λa b=>R' b a) λ_ _ h=>hR _ _ h).symm λ_ _ h=>h
theorem H3.mono(hR:∀k k',R k k'->R' k k'){a b:b9}(h:H3 R a b):H3 R' a b:=(h.symm (R':=λa b=>R' b a) λ_ _ h=>hR _ _ h).symm λ_ _ h=>h
def b4h(am:List Nat):Prop:=∀(i j k:Nat),am[i]?=some k->am[j]?=some k->i=j
theorem a3u(am:List Nat)(hC:C.plain)(ao:am.length=obs.length)(ez:b4h am)
 (cR:∀(i k:Nat) (ob:b9),am[i]?=some k->obs[i]?=some ob->∃aH,σ[k]?=some aH/\H3 (λk i=>am[i]?=some k) aH ob)(ap:a12 (λk i=>am[i]?=some k) args' args)
 {res res':α->L7}{S S':α->List b9}{P:α->Prop}(h:b8 C f args obs λr τ=>∃a,r=res a/\τ=S a/\P a)(hS:∀a,(S a).length=obs.length)
 (eL:∀a (i k:Nat) (x:b9),am[i]?=some k->(S a)[i]?=some x->∃x',(S' a)[i]?=some x'/\H3 (λi k=>am[i]?=some k) x x')(dy:∀a,a6a (λi k=>am[i]?=some k) (res a) (res' a)):
 b8 C f args' σ λr τ=>∃a,r=res' a/\τ=a8n σ am (S' a)/\P a:=by
 refine I9 am hC ao ez cR ap h λr τ hk=>?_;obtain⟨a,rfl,rfl,hp⟩:=hk;have up:∀{c c':CV},O1 (λi k=>am[i]?=some k) c c'->O1 (Y6 am σ.length) c c':=λhh=>O1.mono (λ_ _ h=>.inl h) hh;refine⟨by rw[hS];exact n_6 _,res' a,a8n σ am (S' a),?_,by rw[b1n,hS];omega,λk _ bi=>b6C bi,λi k x ha hx=>?_,a,G,G,hp⟩
 .have:=dy a;generalize hra:res a=ra at this;generalize hrb:res' a=rb at this;cases this with
  |ret h=>exact .ret (up h)
  |pan h=>exact .pan (up h)
 .rcases ha with ha|⟨ha,_⟩
  .obtain ⟨x',h1,h2⟩:=eL a i k x ha hx;have bi:k<σ.length:=by
    have hi:i<obs.length:=by rw[<- ao];exact(n_2.1 ha).1
    obtain⟨aH,g1,_⟩:=cR i k obs[i] ha (by simp[hi]);exact(n_2.1 g1).1
   exact⟨x',c1H ez bi ha h1,H3.mono (λ_ _ h=>.inl h) h2⟩
  .have:=(n_2.1 hx).1;rw[hS,<- ao]at this;omega
theorem a2f(am:List Nat)(hC:C.plain)(ao:am.length=obs.length)(ez:b4h am){obs':List b9}
 (cR:∀(i k:Nat) (ob:b9),am[i]?=some k->obs[i]?=some ob->∃aH,obs'[i]?=some aH/\σ[k]?=some aH/\H3 (λi k=>am[i]?=some k) ob aH)(ap:a12 (λk i=>am[i]?=some k) args' args)
 {c:α->CV}{P:α->Prop}(hc:∀a,P a->o8 (c a))(h:b8 C f args obs λr τ=>∃a,r= .ret (c a)/\τ=obs/\P a):b8 C f args' σ λr τ=>∃a,r= .ret (c a)/\τ=σ/\P a:=by
 refine I9 am hC ao ez (λi k ob g1 g2=>?_) ap h λr τ hk=>?_
 .obtain ⟨aH,_,h2,h3⟩:=cR i k ob g1 g2;exact⟨aH,h2,h3.symm λ_ _ h=>h⟩
 .obtain ⟨a,rfl,rfl,hp⟩:=hk;refine⟨n_6 _,.ret (c a),σ,.ret (.pure (hc a hp)),J,λ_ _ _=>G,λi k x ha hx=>?_,a,G,G,hp⟩
  rcases ha with ha|⟨ha,_⟩
  .obtain ⟨aH,_,h2,h3⟩:=cR i k x ha hx;exact⟨aH,h2,H3.mono (λ_ _ h=>.inl h) h3⟩
  .have:=(n_2.1 hx).1;rw[<- ao]at this;omega
theorem a6w(hC:C.plain)(ap:∀a∈args,o8 a){res':α->Nat->L7}{S:α->List b9}{S':α->Nat->List b9}{P:α->Prop}(h:b8 C f args [] λr τ=>∃a,r=res a/\τ=S a/\P a)
 (ao:∀a n,(S' a n).length=(S a).length)(eL:∀a (n i:Nat) (x:b9),(S a)[i]?=some x->∃x',(S' a n)[i]?=some x'/\H3 (λi k=>k=n+i) x x')(dy:∀a n,a6a (λi k=>k=n+i) (res a) (res' a n))(σ:List b9):
 b8 C f args σ λr τ=>∃a,r=res' a σ.length/\τ=σ++S' a σ.length/\P a:=by
 refine I9 [] hC G (λi j k h=>by simp at h) (λi k ob h=>by simp at h) (by
  refine⟨G,λi c c' h h'=>?_⟩;rw[h]at h';injection h' with h';subst h'
  exact .pure (ap c (n_3 h))) h λr τ hk=>?_
 obtain⟨a,rfl,rfl,hp⟩:=hk;have up:∀i k,k=σ.length+i->Y6 [] σ.length i k:=λi k h=>.inr ⟨n_4 _,U h⟩;refine⟨n_4 _,res' a σ.length,σ++S' a σ.length,?_,by simp[ao],λk hk _=>T6 hk,λi k x ha hx=>?_,a,G,G,hp⟩
 .have:=dy a σ.length;generalize hra:res a=ra at this;generalize hrb:res' a σ.length=rb at this;cases this with
  |ret h=>exact .ret (O1.mono up h)
  |pan h=>exact .pan (O1.mono up h)
 .rcases ha with ha|⟨_,ha⟩
  .simp at ha
  .obtain ⟨x',h1,h2⟩:=eL a σ.length i x hx;refine⟨x',?_,H3.mono up h2⟩;rw[ha,a5O J];simpa using h1
section
theorem b1a(hr:Rel C M σ w)(h:RV M w c v)(ho:c.one=true\/∃cs,c= .agg cs)(hk:K (.ret (.ptr σ.length 0)) (σ++[.boxT (some t) c.cells])):
 a1h C M w K (.pointer (some ⟨w.heap.size,0,none⟩)) (w.alloc (.cells v.cells t)):=by
 obtain⟨h1,h2,h3⟩:=h.cells ho;have hx:=Ext.alloc hr ⟨w.heap.size,0,0⟩ (.cells v.cells t);refine⟨.ptr σ.length 0,_,_,hx,hr.alloc ⟨w.heap.size,0,0⟩ _ (.boxT (some t) c.cells) G ⟨v.cells,t,x8 w _,h1,h2,λi x hi=>(h3 i x hi).mono hx⟩,?_,hk⟩;exact .ptr (p:=⟨w.heap.size,0,0⟩) a7i
theorem d9C(ho:o.op = .box t x)(hx:E.valid x)(ex:E.val C x=c)(hc:c.one=true\/∃cs,c= .agg cs)(hk:K (.ret (.ptr σ.length 0)) (σ++[.boxT (some t) c.cells])):C5 C σ E o K:=λM w ρ hr h=>by
 have h1:=h x r7 hx;rw[ex]at h1;have:(execOp ρ o).run C.P w= .ok (.value (.pointer (some ⟨w.heap.size,0,none⟩))) (w.alloc (.cells (ρ x).cells t)):=by
  simp[execOp,ho,Instr.box,a3M]
 rw[this];exact b1a hr h1 hc hk
theorem c7T(ho:o.op = .alloc t)(hz:∀w,(zeroValue t).run C.P w= .ok z w)(bQ:I2 z=true)(ci:(G2 z).one=true\/∃cs,G2 z= .agg cs)(hk:K (.ret (.ptr σ.length 0)) (σ++[.boxT (some t) (G2 z).cells])):C5 C σ E o K:=λM w ρ hr h=>by
 have:(execOp ρ o).run C.P w= .ok (.value (.pointer (some ⟨w.heap.size,0,none⟩))) (w.alloc (.cells z.cells t)):=by
  simp[execOp,ho,Instr.alloc,hz,a3M]
 rw[this];exact b1a hr (a0m bQ) ci hk
theorem d0w{te:TypeId}(ho:o.op = .binOp .eql t x (.const (.pointer none)) t')(hx:E.valid x)(ex:E.val C x= .ptr k off)(hu:∀w,(underlying t).run C.P w= .ok (.pointer te) w):j4 C σ E o (.val (.bool false)):=
 i8 λM w ρ _ h=>by
  have h1:=h x r7 hx;rw[ex]at h1;have e2:=r6 (h (.const (.pointer none)) r7 G);generalize hv:ρ x=v at h1;cases h1 with
  |ptr hp=>
   rename_i p;have he:(Op.equal t (.pointer (some ⟨p.block,off,none⟩)) (.pointer none)).run C.P w= .ok false w:=by
    unfold Op.equal;rw[show Op.maxDepth=(Op.maxDepth -1)+1 from G,Op.equalIn];simp[hu]
   exact⟨.bool false,by simp[execOp,ho,hv,e2,eqGuard,binOp,he],.val _⟩
theorem c4g{te:TypeId}(ho:o.op = .binOp .eql t x (.const (.pointer none)) t')(hx:E.valid x)(ex:E.val C x= .val (.pointer none))(hu:∀w,(underlying t).run C.P w= .ok (.pointer te) w):j4 C σ E o (.val (.bool true)):=
 i8 λM w ρ _ h=>by
  have h1:=h x r7 hx;rw[ex]at h1;have e1:=r6 h1;have e2:=r6 (h (.const (.pointer none)) r7 G);have he:(Op.equal t (.pointer none) (.pointer none)).run C.P w= .ok true w:=by
   unfold Op.equal;rw[show Op.maxDepth=(Op.maxDepth -1)+1 from G,Op.equalIn];simp[hu]
  exact⟨.bool true,by simp[execOp,ho,e1,e2,eqGuard,binOp,he],.val _⟩
theorem c47(ho:o.op = .binOp .neq t x y t')(hx:E.valid x)(hy:E.valid y)(ex:E.val C x= .ptr k off)(ey:E.val C y= .ptr k off)(te':TypeId)(hp:C.P.underlying t=some (.pointer te'))(hte:(C.P.info? te').isSome=true):j4 C σ E o (.val (.bool false)):=
 i8 λM w ρ _ h=>by
  obtain⟨j,hte⟩:=b27.1 hte;have h1:=h x r7 hx;have h2:=h y r7 hy;rw[ex]at h1;rw[ey]at h2;generalize hv:ρ x=v at h1;generalize gI:ρ y=v' at h2;cases h1 with
  |ptr q1=>
   rename_i p;cases h2 with
   |ptr q2=>
    rename_i p';rw[q1]at q2;injection q2 with q2
    subst q2;have:=Lib.run_neq_ptr_same (P:=C.P) (w:=w) ⟨p.block,off,none⟩ hp hte;exact⟨.bool false,by simp[execOp,ho,hv,gI,eqGuard,this],.val _⟩
theorem b9S(ho:o.op = .convert src dst x)(hx:E.valid x)(ex:E.val C x= .ptr k off)(hk:σ[k]?=some (.boxT (some e) cells))(hoff:off<cells.length)
 (t:TypeId)(hs:C.P.underlying src=some (.pointer t))(hd:C.P.underlying dst=some .unsafePointer)(ht:((C.P.info? t).any λj=>j.size != 0)=true):j4 C σ E o (.ptr k off):=
 i8 λM w ρ hr h=>by
  obtain⟨j,ht,hj⟩:∃j,C.P.info? t=some j/\j.size≠0:=by
   rw[Option.any_eq_true_iff_get]at ht;exact⟨_,Option.eq_some_of_isSome ht.1,U ht.2⟩
  have h1:=h x r7 hx;rw[ex]at h1;generalize hv:ρ x=v at h1;cases h1 with
  |ptr hp=>
   rename_i p;obtain⟨arr,ty,e1,e2,_⟩:=(hr.obj k p _ hp hk).1;have hsh:w.shape? p.block=some (e,arr.size):=by simp[World.shape?,e1]
   have:=Lib.run_to_unsafe (P:=C.P) (w:=w) (src:=src) (dst:=dst) ⟨p.block,off,none⟩ hs hd ht hj hsh (by rw[e2];exact hoff);exact⟨_,by simp[execOp,ho,hv,this],.ptr hp⟩
theorem b5l(ho:o.op = .convert src dst x)(hx:E.valid x)(ex:E.val C x= .ptr k off)(hk:σ[k]?=some (.boxT (some e) cells))
 (Jj:TypeId)(hs:C.P.underlying src=some .unsafePointer)(hd:C.P.underlying dst=some (.pointer Jj))(ht:(C.P.info? Jj).isSome=true)(hl:liesAt C.P C.P.depth e (cells.length / C.P.cellsOf e) off Jj 1=true):j4 C σ E o (.ptr k off):=
 i8 λM w ρ hr h=>by
  obtain⟨j,ht⟩:=b27.1 ht;have h1:=h x r7 hx;rw[ex]at h1;generalize hv:ρ x=v at h1;cases h1 with
  |ptr hp=>
   rename_i p;obtain⟨arr,ty,e1,e2,_⟩:=(hr.obj k p _ hp hk).1;have hsh:w.shape? p.block=some (e,arr.size):=by simp[World.shape?,e1]
   have:=Lib.run_from_unsafe (P:=C.P) (w:=w) (src:=src) (dst:=dst) ⟨p.block,off,none⟩ hs hd ht hsh (by rw[e2];exact hl);exact⟨_,by simp[execOp,ho,hv,this],.ptr hp⟩
theorem d9z{f:FuncId}{fn:Func}{e:Array Value → Sem Value}{ts:Array TypeId}{x:Operand}{c:CV}(ho:o.op = .call {callee:=.value (.func f),args:= #[x],argTypes:=ts})(hf:C.P.funcs[f]?=some fn)(fI:(fn.name == "runtime.NumGoroutine")=false)(hb:fn.body.isNone =true)(hn:Extern.findNext fn=none)(he:Extern.find fn=some e)
 (hx:E.valid x)(ex:E.val C x=c)(hr:∀v w,(e #[v]).run C.P w= .ok v w):j4 C σ E o c:=
 i8 λM w ρ _ hh=>by
  have h1:=hh x J9 hx;have cu:=r6 (hh (.func f) J9 O);rw[ex]at h1;refine⟨ρ x,?_,h1⟩;have:=a4h (args:=#[ρ x]) (w:=w) hf fI hb hn he (hr (ρ x) w);simp[execOp,ho,resolve,cu,Deferred.ofValue,invoke,this]
theorem b8e{aa:List (List CV)}(ho:o.op = .call {callee:=.builtin .unsafeSliceData,args:=#[x],argTypes:=#[t]})(hx:E.valid x)(ex:E.val C x= .list aa true (some k))(aB:aa≠[]):j4 C σ E o (.eptr k 0 0):=
 i8 λM w ρ _ h=>by
  have h1:=h x J9 hx;rw[ex]at h1;obtain⟨a,cap,b,off,s,vals,hv,bH,fC,fx,dX,ha,cZ,aQ,hc,ba,dv⟩:=h1.list_inv;obtain⟨s',hp,ha0,rfl,hs⟩:=dv k G;have hl:0<aa.length:=a8E.2 aB;refine⟨.pointer (some ⟨b,0,none⟩),?_,?_⟩
  .have:=Lib.run_unsafeSliceData_row (P:=C.P) (w:=w) #[t] o.type ⟨b,0,none⟩ aa.length cap J;simp[execOp,ho,resolve,invoke,builtin,hv,ha0,this]
  .have:=RV.eptr (w:=w) (i:=0) (off:=0) hp;simpa using this
theorem Rel.tipKill(hr:Rel C M σ w){t0:Option TypeId}{aF:Array Value}{ty:TypeId}{fr fr':Nat×Nat}(hp:M.pl[k]?=some p)(hk:σ[k]?=some (.tipT t0 n))(hc:w.heap[p.block]?=some (.cells aF ty fr)):
 Ext M w M (World.putObj w p.block (.cells aF ty fr'))/\Rel C M (σ.set k .dead) (World.putObj w p.block (.cells aF ty fr')):=by
 obtain⟨⟨q1,q2,q3,cur0,ty0,q4,q5⟩,cM⟩:=hr.obj k _ _ hp hk;have hb:p.block <w.heap.size:=(a06.1 hc).1;have hx:Ext M w M (World.putObj w p.block (.cells aF ty fr')):=by
  refine⟨⟨[],Q⟩,λ_ h=>h,λ_ _ h=>.inr h,λb' h=>World.putObj_other w _ (λe=>cM (e▸h)),λb' o' h=>?_,by rw[World.putObj_size];exact n_6 _,R4,G,G,G,λb' h=>⟨h,World.putObj_other w _ (λe=>hr.nk k p _ hp hk G (e▸h)),id,λ_=>id⟩⟩;by_cases he:p.block=b'
  .subst he;simp only[World.cell?,World.putObj_same w _ hb,hc]
  .exact L1 (World.putObj_other w _ he)
 have hd:=hr.dead k;refine⟨hx,hd.len,λb o' ha=>by rw[World.putObj_size];exact hr.blk b o' ha,λk' p' x aI aD=>?_,hd.inj,λg cells hg=>(hr.glob g cells hg).mono hx,λb h=>(by rw[World.putObj_size];exact hr.kep b h),hd.nk⟩;obtain⟨h1,h2⟩:=hd.obj k' p' x aI aD;refine⟨?_,h2⟩;by_cases hl:x.live=true
 .have ia:k'≠k:=by
   rintro rfl;rw[b2E (n_2.1 hk).1]at aD;injection aD with aD
   subst aD;cases hl
  rw[a1c (Ne.symm ia)]at aD;have aB:p.block≠p'.block:=λe=>ia (hr.inj k' k p' p x _ aI hp aD hk hl G e.symm);exact h1.mono hx (World.putObj_other w _ aB) (λ_ _ _ _ h=>h)
 .cases x<;>first|trivial|simp[b9.live]at hl
theorem c0A{b:Nat}{aF:Array Value}{ty:TypeId}{fr:Nat×Nat}(hc:w.heap[b]?=some (.cells aF ty fr))(hn:n≠0):∃fr',w.freeze ⟨b,0,none⟩ n=World.putObj w b (.cells aF ty fr'):=by
 have hb:b<w.heap.size:=(a06.1 hc).1;obtain⟨lo,hi⟩:=fr;refine⟨if lo == hi then(0,0+n)else(min lo 0,max hi (0+n)),?_⟩;have hg:w.heap[b]= .cells aF ty (lo,hi):=by
  have:=(a06.1 hc).2;exact this
 simp only[World.freeze,H hn,World.putObj]
 congr 1
 apply c1l;intro i;rw[b8j,c7b];by_cases bd:b=i
 .subst bd;simp[hb,hg]
 .simp [bd]
theorem b1f{pt it:TypeId}{t0:Option TypeId}{l:D}(ho:o.op = .call {callee:=.builtin .unsafeString,args:=#[x,y],argTypes:=#[pt,it]})(hx:E.valid x)(hy:E.valid y)(ex:E.val C x= .eptr q 0 0)(ey:E.val C y= .val (.int .i64 l.length))
 (hq:σ[q]?=some (.tipT (some e) l.length))(hk:σ[k]?=some (.boxT t0 cells))(hi:cells[i]?=some (.list (l.map bcv) true (some q)))(aB:l≠[])
 (hp:C.P.underlying pt=some (.pointer e))(hc:C.P.cellsOf e=1)(h:K (.ret (sv l)) (σ.set q .dead)):C5 C σ E o K:=λM w ρ hr hh=>by
 have h1:=hh x J9 hx;have h2:=r6 (ey▸hh y J9 hy);rw[ex]at h1;generalize hv:ρ x=v at h1;cases h1 with
 |eptr bo=>
  rename_i p;obtain⟨pk,dA⟩:∃pk,M.pl[k]?=some pk:=by
   have:=(n_2.1 hk).1;rw[<- hr.len]at this;exact⟨_,a2o this⟩
  obtain⟨arr,ty,e1,e2,e3,e4⟩:=(hr.obj k pk _ dA hk).1;obtain⟨a,cap,b,off,s,vals,hvv,bH,fC,fx,dX,ha,cZ,aQ,aZ,ba,dv⟩:=(e4 i _ hi).list_inv;obtain⟨s',aI,ha0,rfl,hs⟩:=dv q G;rw[bo]at aI;injection aI with aI
  subst aI;have hne':l.map bcv≠[]:=U aB;have bc:s=1:=by
   cases l with
   |nil=>exact absurd G aB
   |cons x l=>exact(cZ (bcv x) Q).symm
  subst bc;have aU:=hs hne';subst aU;obtain⟨⟨q1,q2,q3,aF,fS,q4,q5⟩,_⟩:=hr.obj q _ _ bo hq;simp only[b8K,c0m]at q1 q4 q5;have hcells:∀j x,l[j]?=some x->w.cell? ((⟨b,0,none⟩:Addr).add j)=some (.int .u8 x.toNat):=λj x hj=>by
   have g:(l.map bcv)[j]?=some (bcv x):=by rw[N6,hj];rfl
   have:=(aZ j 0 _ _ g G).2;have hz:=r6 (ba j 0 _ _ g G);rw[hz]at this;simp only[c0m,P4,a8c]at this;rw[V0];simpa using this
  have ao:l.length<=cap:=U bH;have hus:=Lib.run_unsafeString_row (P:=C.P) w pt it o.type e hp hc b aF.size (by simp[World.shape?,q4]) l aB (by rw[q5];exact ao) (by unfold maxLen at fC;omega) hcells;obtain⟨fr',hfr⟩:=c0A q4 (n:=l.length) (U aB);have az:(execOp ρ o).run C.P w= .ok (.value (.string ⟨l.toArray⟩)) (World.putObj w b (.cells aF e fr')):=by
   rw[<- hfr];simp[execOp,ho,resolve,invoke,builtin,hv,h2,hus]
  rw[az];obtain⟨g1,g2⟩:=hr.tipKill (fr':=fr') bo hq q4;exact⟨_,_,_,g1,g2,.val _,h⟩
theorem e0b{l:D}(ey:E.val C y=sv l):∀M w v,Rel C M σ w->RV M w (E.val C y) v->d1W C w M (l.map bcv) 1 v:=λM w v _ h=>by
 rw[ey]at h;have hv:=r6 h;subst hv;refine⟨λw'=>by simp[Builtin.lenOf,str,ByteArray.size],λr hr=>?_,(l.map λb=>Value.int .u8 b.toNat).toArray,?_,Q,λi j r c hi hj=>?_⟩
 .obtain ⟨b,_,rfl⟩:=D8.1 hr;rfl
 .simp [Builtin.firstCells,str]
 .rw [N6,M8]at hi;obtain⟨b,hb,rfl⟩:=hi
  rcases j with _|j
  .simp only[bcv,List.getElem?_cons_zero,Option.some.injEq]at hj;subst hj;refine⟨?_,G⟩;have:((l.map λb=>Value.int .u8 b.toNat).toArray).getD (i*1+0) undef= .int .u8 b.toNat:=by simp[a0b,hb]
   rw[this];exact .val _
  .cases hj
end
end Go.Cl
namespace Go.Cl
open Go.Sort
theorem a7M{C:Ctx}{M:A5}{σ:List b9}{w:World}(hr:Rel C M σ w)(k:Nat)(os:Array Obj):Ext M w M (grow (w.drewN k) os)/\Rel C M σ (grow (w.drewN k) os):=by
 have bN:∀b,b<w.heap.size->(grow (w.drewN k) os).heap[b]?=w.heap[b]?:=λb hb=>by
  show(w.heap++os)[b]?=_;exact b2Y hb
 have aP:w.heap.size<=(grow (w.drewN k) os).heap.size:=by
  show w.heap.size<=(w.heap++os).size;rw[b3Z];omega
 have hx:Ext M w M (grow (w.drewN k) os):=⟨⟨[],Q⟩,λ_ h=>h,λ_ _ h=>.inr h,λb h=>bN b (hr.blk b 0 (.inl h)),λb o h=>L1 (bN b (hr.blk b o (.inr h))),aP,R4,G,G,G,λb h=>⟨h,bN b (hr.kep b h),id,λ_=>id⟩⟩;refine⟨hx,hr.len,λb o h=>a9z (hr.blk b o h) aP,λj p ob hp hs=>?_,hr.inj,λg cells hg=>(hr.glob g cells hg).mono hx,λb h=>a9z (hr.kep b h) aP,hr.nk⟩;obtain⟨h1,h2⟩:=hr.obj j p ob hp hs;refine⟨?_,h2⟩;by_cases hl:ob.live=true
 .exact h1.mono hx (bN _ (h1.lt hl)) (λ_ _ _ _ h=>h)
 .cases ob<;>first|trivial|simp[b9.live]at hl
end Go.Cl
namespace Go.Cl
variable{c c':CV}{C:Ctx}{α:Type}{l:List Oper}{f:FuncId}{E:Env}{args:List CV}{o:Oper}{P:α->Prop}{t:TypeId}{ob:b9}{n:Nat}{K:L7->List b9->Prop}{x:Operand}{M:A5}{σ:List b9}{w:World}{b:Bool}
section
theorem wr8{z:Int}(h0:0<=z)(h1:z<256):IntKind.u8.wrap z=z:=by
 have:z%256=z:=Int.emod_eq_of_lt h0 h1;simp[IntKind.wrap,IntKind.signed,IntKind.bits];omega
end
section
theorem V2{cx:Operand}{xs:Array Operand}{ts:Array TypeId}{cargs caps:List CV}{c:α->CV}{S:α->List b9}(ho:o.op = .call {callee:=.value cx,args:=xs,argTypes:=ts})(hc:E.valid cx)(ec:E.val C cx= .clo f caps)(aE:∀args w,(callFunc f args).run C.P w= .ok (.enter f args) w)
 (hv:E.valids xs.toList)(h:b8 C f (cargs++caps) σ λr ae=>∃a,r= .ret (c a)/\ae=S a/\P a)(ea:E.vals C xs.toList=cargs)(hk:∀a,P a->K (.ret (c a)) (S a)):C5 C σ E o K:=
 a8r ho hc ec aE (Env.valids_mem hv) (Env.vals_map _) (ea▸h.mono λr ae hh=>by
  obtain⟨a,rfl,rfl,hp⟩:=hh;exact hk a hp)
theorem c2c{e:TypeId}{v z:Value}(ho:o.op = .buildSlice t 1 #[(0,x)])(hx:E.valid x)(ex:E.val C x= .val v)(hv:v.oneCell'=true)(hu:∀w,(underlying t).run C.P w= .ok (.slice e) w)(hs:∀w,(sizeOf e).run C.P w= .ok 1 w)(hz:∀w,(zeroValue e).run C.P w= .ok z w)(bQ:z.oneCell'=true)
 (hk:K (.ret (.list [[.val v]] true (some σ.length))) (σ++[.tip 1])):C5 C σ E o K:=λM w ρ hr hh=>by
 have h1:=r6 (ex▸hh x r7 hx);have hvc:v.cells = #[v]:=by cases v<;>first|rfl|simp[Value.oneCell']at hv
 have hzc:z.cells = #[z]:=by cases z<;>first|rfl|simp[Value.oneCell']at bQ
 have az:(execOp ρ o).run C.P w= .ok (.value (.slice (some ⟨w.heap.size,0,none⟩) 1 1)) (w.alloc (.cells #[v] e)):=by
  have er:Array.range 1= #[0]:=G;simp only[execOp,ho,Instr.buildSlice,Sem.run_bind,hu,Result.andThen_ok,hs];simp[er,Instr.fill,newRow,h1,hvc,hz]
 rw[az];have aK:=Ext.alloc hr ⟨w.heap.size,1,1⟩ (.cells #[v] e);have bk:=hr.alloc ⟨w.heap.size,1,1⟩ (.cells #[v] e) (.tip 1) G ⟨n_6 _,by unfold maxLen;simp,⟨λo ho=>by
  have:=hr.blk w.heap.size o (.inr ho);omega,λh=>by cases h⟩,#[v],e,x8 _ _,G⟩
 have hp:(M.add ⟨w.heap.size,1,1⟩).pl[σ.length]?=some ⟨w.heap.size,1,1⟩:=by simp[A5.add,<- hr.len]
 obtain⟨fT,fD⟩:=bk.settleCells hp (by simp:(σ++[b9.tip 1])[σ.length]?=some (.tipT none 1));refine⟨_,_,_,aK.trans fT,fD,?_,hk⟩;refine RV.list (aa:=[[.val v]]) (b:=w.heap.size) (off:=0) (s:=1) (λ_ _=>v) (n_6 _) (by unfold maxLen;simp) G (λh=>by cases h) V9 (λr hr=>by simp at hr;subst hr;rfl) (λr hr c hc=>by simp at hr;subst hr;simp at hc;subst hc;exact hv) (λi j r c hi hj=>?_) (λi j r c hi hj=>?_) (λk hk=>?_)
 .rcases i with _|i
  .injection hi with hi
   subst hi
   rcases j with _|j
   .refine ⟨.inr (.inr ⟨G,Q⟩),?_⟩;show(match(w.alloc (.cells #[v] e)).heap[w.heap.size]? with|some (.cells c _ _)=>c[0]? |_=>none)=some v;rw[x8];rfl
   .simp at hj
  .simp at hi
 .rcases i with _|i
  .injection hi with hi
   subst hi
   rcases j with _|j
   .injection hj with hj
    subst hj;exact .val _
   .simp at hj
  .simp at hi
 .injection hk with hk
  subst hk;exact⟨1,hp,G,G,λ_=>G⟩
end
theorem d7m{c:α->CV}(hC:C.plain)(ap:∀a∈args,o8 a)(hc:∀a,o8 (c a))(h:b8 C f args [] λr τ=>∃a,C9 0 τ r (.ret (c a)) []/\P a)(σ:List b9):b8 C f args σ λr τ=>∃a,r= .ret (c a)/\τ=σ/\P a:=
 a2f (obs:=[]) (obs':=[]) [] hC G (by intro i j k h1;simp at h1) (λi k ob h1=>by simp at h1) (G7 ap) (λa _=>hc a) (D7 hC (h.mono λr τ ⟨a,h1,h2⟩=>⟨_,_,h1,a,G,G,h2⟩))
theorem d1M(hC:C.plain)(ap:∀a∈args,o8 a)(hc:o8 c)(h:b8 C f args [] λr τ=>C9 0 τ r (.ret c) [])(σ:List b9):b8 C f args σ λr τ=>r= .ret c/\τ=σ:=
 (d7m (α:=Unit) (c:=λ_=>c) (P:=λ_=>True) hC ap (λ_=>hc) (h.mono λ_ _ hh=>⟨(),hh,O⟩) σ).mono λ_ _ ⟨_,h1,h2,_⟩=>⟨h1,h2⟩
theorem a6L{c:α->CV}{S:α->b9}(hC:C.plain)(ap:∀a∈args,o8 a)(hc:∀a,o8 (c a))(hS:∀a,b0w (S a))(hob:b0w ob)(cb:ob.live=true)
 (h:b8 C f (.ptr 0 0::args) [ob] λr τ=>∃a,C9 1 τ r (.ret (c a)) [S a]/\P a)(σ:List b9)(q:Nat)(hq:σ[q]?=some ob):b8 C f (.ptr q 0::args) σ λr ae=>∃a,r= .ret (c a)/\ae=σ.set q (S a)/\P a:=
 b2B hC ap hc hS hob cb (D7 hC (h.mono λ_ _ ⟨a,h1,h2⟩=>⟨_,_,h1,a,G,G,h2⟩)) σ q hq
theorem d5f{τ:List b9}(h:B5 0 [] c c'):C9 0 τ (.ret c) (.ret c') []:=⟨[],G,G,.ret h,O⟩
theorem a2k{τ rest:List b9}(eT:τ=ob::rest)(ho:G1 1 ob)(h:B5 1 [0] c c'):C9 1 τ (.ret c) (.ret c') [ob]:=by
 subst eT;exact⟨[0],G,G,.ret h,.inr ⟨_,G,.same G ho⟩,O⟩
theorem a7o{R:Nat->Nat->Prop}{s:Nat}{aa:List (List CV)}(h:∀r∈aa,∀c∈r,o8 c):H3 R (.vec s aa) (.vec s aa):=
 .vec G λi r r' h1 h2=>by
  rw[h1]at h2;injection h2 with h2;subst h2
  exact G7 (h r (n_3 h1))
theorem a6v{s:Nat}{aa:List (List CV)}{g:α->Bool}{rows':α->List (List CV)}{off len:α->Nat}(hC:C.plain)(hp:∀r∈aa,∀c∈r,o8 c)(ap:∀a∈args,o8 a)
 (aI:∀a,P a->∀r∈rows' a,∀c∈r,o8 c)
 (h:b8 C f (.vec 0 0 n::args) [.vec s aa] λr τ=>∃a,C9 1 τ r (.ret (.vec (if g a=true then 1 else 0) (off a) (len a))) (if g a=true then [.dead,.vec s (rows' a)]else [.vec s (rows' a)])/\P a){σ:List b9}{q:Nat}(hq:σ[q]?=some (.vec s aa)):
 b8 C f (.vec q 0 n::args) σ λr τ=>∃a,r= .ret (.vec (if g a=true then σ.length else q) (off a) (len a))/\τ=(if g a=true then σ.set q .dead++[.vec s (rows' a)]else σ.set q (.vec s (rows' a)))/\P a:=by
 have hql:=(n_2.1 hq).1;have h':b8 C f (.vec 0 0 n::args) [.vec s aa] λr τ=>∃a,r= .ret (.vec (if g a=true then 1 else 0) (off a) (len a))/\τ=(if g a=true then [.dead,.vec s (rows' a)]else [.vec s (rows' a)])/\P a:=
  D7 hC (h.mono λr τ ⟨a,k1,k2⟩=>⟨_,_,k1,a,G,G,k2⟩)
 refine I9 [q] hC G (λi j k g1 g2=>?_) (λi k ob g1 g2=>?_) (.cons (.vec G) (G7 ap)) h' λr τ hk=>?_
 .rcases i with _|i<;>rcases j with _|j<;>simp at g1 g2<;>rfl
 .rcases i with _|i
  .simp at g1 g2;subst g1 g2;exact⟨_,hq,a7o hp⟩
  .simp at g1
 .obtain ⟨a,rfl,rfl,hpa⟩:=hk;by_cases hg:g a=true
  all_goals simp only[hg,if_true,if_false,a8l]
  rotate_left
  .refine ⟨Q,.ret (.vec q (off a) (len a)),σ.set q (.vec s (rows' a)),.ret (.vec (.inl Q)),Q,λk hk bi=>?_,λi k x ha hx=>?_,a,by simp[hg],by simp[hg],hpa⟩
   .have n1:q≠k:=λe=>bi a2v;simp[n1]
   .rcases ha with ha|⟨ha,rfl⟩
    .rcases i with _|i
     .simp at ha hx;subst ha hx;exact⟨_,by simp[hql],a7o (aI a hpa)⟩
     .simp at ha
    .rcases i with _|i
     .simp at ha
     .simp at hx
  .refine ⟨Q,.ret (.vec σ.length (off a) (len a)),σ.set q .dead++[.vec s (rows' a)],.ret (.vec (.inr ⟨Q,Q⟩)),Q,λk hk bi=>?_,λi k x ha hx=>?_,a,by simp[hg],by simp[hg],hpa⟩
   .have n1:q≠k:=λe=>bi a2v;rw[T6 (U hk)];simp[n1]
   .rcases ha with ha|⟨ha,rfl⟩
    .rcases i with _|i
     .simp at ha hx;subst ha hx;exact⟨.dead,by rw[T6 (U hql)];simp[hql],.dead⟩
     .simp at ha
    .rcases i with _|_|i
     .simp at ha
     .simp at hx;subst hx;exact⟨_,by rw[a5O Q];simp,a7o (aI a hpa)⟩
     .simp at hx
def ShV(k q:Nat)(c c':CV):Prop:=c=c'\/(∃o n,c= .vec k o n/\c'= .vec q o n)\/∃l nn,c= .list l nn (some k)/\c'= .list l nn (some q)
theorem Rel.shift{k:Nat}{p:Pl}(hr:Rel C M σ w)(hk:σ[k]?=some ob)(hp:M.pl[k]?=some p):Rel C {M with pl:=M.pl++[p]} (σ.set k .dead++[ob]) w/\Ext M w {M with pl:=M.pl++[p]} w:=by
 obtain⟨h1,h2⟩:=hr.addDead p;refine⟨?_,h2⟩;have ai:k<σ.length:=(n_2.1 hk).1;have hl:=hr.len;have key:∀(i:Nat) (q:Pl) (aH:b9),(M.pl++[p])[i]?=some q->(σ.set k .dead++[ob])[i]?=some aH->aH= .dead\/∃j,(σ++[.dead])[j]?=some aH/\(M.pl++[p])[j]?=some q/\j<σ.length/\((i=j/\i≠k)\/(i=σ.length/\j=k)):=by
  intro i q aH hq hi
  rcases Nat.lt_trichotomy i σ.length with h|h|h
  .rw [T6 (U h),a9P]at hi;by_cases hik:k=i
   .rw [W hik,W ai]at hi;injection hi with hi
    exact .inl hi.symm
   .rw [H hik]at hi;exact .inr ⟨i,by rw[T6 h];exact hi,hq,h,.inl ⟨G,λe=>hik e.symm⟩⟩
  .have e1:(σ.set k .dead++[ob])[i]?=some ob:=by rw[h];simp
   have e2:(M.pl++[p])[i]?=some p:=by rw[h,<- hl];simp
   rw[e1]at hi;rw[e2]at hq;injection hi with hi;injection hq with hq
   subst hi hq;exact .inr ⟨k,by rw[T6 ai];exact hk,by rw[T6 J];exact hp,ai,.inr ⟨h,G⟩⟩
  .rw [b5V G5]at hi;cases hi
 refine⟨U hl,h1.blk,λi q aH hq hi=>?_,λi i' q q' ob1 ob2 hq dN hi bd hv gI hb=>?_,h1.glob,h1.kep,λi q aH hq hi hv=>?_⟩
 .rcases key i q aH hq hi with rfl|⟨j,g1,g2,_⟩
  .exact ⟨O,O⟩
  .exact h1.obj j q aH g2 g1
 .rcases key i q ob1 hq hi with rfl|⟨j,g1,g2,g3,g4⟩
  .cases hv
  .rcases key i' q' ob2 dN bd with rfl|⟨j',gr,gQ,g3',g4'⟩
   .cases gI
   .have:=h1.inj j j' q q' ob1 ob2 g2 gQ g1 gr hv gI hb;omega
 .rcases key i q aH hq hi with rfl|⟨j,g1,g2,_⟩
  .cases hv
  .exact h1.nk j q aH g2 g1 hv
theorem G4.shift{k q t:Nat}{a:Act}{p:Pl}(hf:G4 {M with pl:=M.pl++[p]} w n E a)(hp:(M.pl++[p])[k]?=some p)(hq:(M.pl++[p])[q]?=some p)(ht:E.ok t)(hc:ShV k q (E.f t) c'):G4 {M with pl:=M.pl++[p]} w n (E.put (some t) c' True) a:=by
 have ba:RV {M with pl:=M.pl++[p]} w c' (a.tmps.getD t undef):=by
  have h3:=hf.rv t ht
  rcases hc with e|⟨o,m,e1,e2⟩|⟨l,nn,e1,e2⟩
  .rw [<- e];exact h3
  .rw [e1]at h3;rw[e2];generalize a.tmps.getD t undef=Jj at h3;cases h3 with
   |vec g1 g2 g3 g4=>
    have gr:(M.pl++[p])[k]?=some _:=g1;rw[hp]at gr;injection gr with gr
    subst gr;exact .vec (p:=p) hq g2 g3 g4
  .rw [e1]at h3;rw[e2];generalize a.tmps.getD t undef=Jj at h3;cases h3 with
   |list v g1 g2 g3 g4 g5 g6 g7 g8 g9 g10=>
    refine .list v g1 g2 g3 g4 g5 g6 g7 g8 g9 λj hj=>?_;injection hj with hj
    subst hj;obtain⟨c0,u1,u2,u3,u4⟩:=g10 k G;rw[hp]at u1;injection u1 with u1
    subst u1;exact⟨c0,hq,u2,u3,u4⟩
 refine⟨hf.defers,hf.size,λx hx=>?_,λx hx=>?_⟩
 .rw [Env.putO_f];rw[Env.putO_ok]at hx;by_cases e:x=t
  .rw [W e,e];exact ba
  .rw [H e]at hx⊢;exact hf.rv x hx
 .rw [Env.putO_un]at hx;by_cases e:x=t
  .rw [W e]at hx;exact absurd trivial hx
  .rw [H e]at hx;exact hf.un x hx
theorem c5e{Ji:A7->Env->List b9->Prop}{c:Code}(hC:C.plain)(L:Nat)(hL:Nat.beq L σ.length=true)(k t:Nat)(c':CV)(hk:σ[k]?=some ob)(ht:E.ok t)(hc:ShV k L (E.f t) c')(l:α->List (Nat×CV))(S:α->List b9)(Je:α->Prop)(m:α->Nat)(h0:a3Z L l S Je (E.put (some t) c' True) (σ.set k .dead++[ob]))
 (round:∀(a:α),Je a->CWp C n c (A7.next (a3Z L l S λa'=>m a'<m a/\Je a') Ji) (Env.only (l a)) (S a)):CWp C n (.loop c) Ji E σ:=λM w a hr hf=>by
 intro b k0 cs;have hL:=a2l hL;have key:∀d (x:α) M1 w1 a1,m x=d->Je x->Ext M w M1 w1->Rel C M1 (S x) w1->G4 M1 w1 n (Env.only (l x)) a1 ->
  ∃e a' w',O6 C n Ji M w e a' w'/\Arrives C.P (lone (b.at a1 (.code c::.inLoop c::k0)) cs w1) b k0 cs e a' w':=by
  intro d
  induction d using Nat.strongRecOn with
  |_ d ih=>
   intro x M1 w1 a1 hd hI hx aR cI;obtain⟨e,a2,w2,hq,aA⟩:=round x hI M1 w1 a1 aR cI b (.inLoop c::k0) cs;obtain⟨E',ae,M',h1,h2,h3,h4⟩:=hq;cases e with
   |normal=>
    obtain⟨x',am,⟨ai,gK⟩,⟨g1,g2⟩,hE',hS⟩:=h4;have aD:=hx.trans h1;have df:L<=M'.pl.length:=by
     obtain⟨l,hl⟩:=aD.pl;rw[hl];simp;rw[hr.len,hL];omega
    obtain⟨co,cp,cq,bv,aM⟩:=ih (m x') J x' _ w2 a2 G gK (aD.ren g1 a8T) (h2.ren hC g1 g2 df hS) (h3.onlyR g1 df hE');exact⟨co,cp,cq,bv,.of_steps (Steps.trans aA (.one step_inLoop)) aM⟩
   |outgrown=>exact h4.elim
   |_=>exact⟨_,a2,w2,⟨E',ae,M',hx.trans h1,h2,h3,h4⟩,.pass (x:=.inLoop c) G (λ_ _=>.inl Q) aA⟩
 obtain⟨x,am,hP,⟨g1,g2⟩,hE,hS⟩:=h0;have ai:k<σ.length:=(n_2.1 hk).1;obtain⟨p,hp⟩:∃p,M.pl[k]?=some p:=⟨M.pl[k]'(by rw[hr.len];exact ai),Q⟩;obtain⟨h1,h2⟩:=hr.shift hk hp;have gJ:=(hf.mono h2).shift (k:=k) (q:=L) (by rw[T6 (by rw[hr.len];exact ai)];exact hp) (by rw[hL,<- hr.len];simp) ht hc;have df:L<=(M.pl++[p]).length:=by rw[n_9,hr.len,hL];omega
 obtain⟨e,a',w',hq,aA⟩:=key _ x _ w a G hP (h2.ren g1 a8T) (h1.ren hC g1 g2 df hS) (gJ.onlyR g1 df hE);exact⟨e,a',w',hq,.of_steps (.one step_loop) aA⟩
section
end
theorem d1R{β:Type}{kc:α->CV}{vc:β->CV}(hk:∀a,o8 (kc a))(hv:∀b,o8 (vc b))(n:Nat)(a b:List (α×β)):G1 n (.iter (gm kc vc a) (gm kc vc b)):=⟨λx hx=>by
 obtain⟨y,_,rfl⟩:=D8.1 hx;exact⟨(hk _).old,(hv _).old⟩,λx hx=>by
 obtain⟨y,_,rfl⟩:=D8.1 hx;exact⟨(hk _).old,(hv _).old⟩⟩
theorem b1Y{α:Type}:∀{l:List α} {i:Nat} {x:α},l[i]?=some x->(x::l.eraseIdx i).Perm l
 | [],_,_,h=>by cases h
 |y::l,0,x,h=>by injection h with h;subst h;exact .refl _
 |y::l,i+1,x,h=>by
  rw[List.eraseIdx_cons_succ];exact(List.Perm.swap y x _).trans ((b1Y (l:=l) (i:=i) h).cons y)
theorem d0J{β:Type}{left:List (α×β)}{i:Nat}{q:α}{e:β}{aq:List β}(h:left[i]?=some (q,e)):(aq++[e]++(left.eraseIdx i).map Prod.snd).Perm (aq++left.map Prod.snd):=by
 rw[T5];exact((b1Y h).map Prod.snd).append_left aq
def d1J:List (Nat×TyE)->Nat->Option TyE
 | [],_=>none
 |(k,e)::l,t=>match Nat.beq k t with
  |true=>some e
  |false=>d1J l t
theorem b0H{t:Nat}{e:TyE}:∀{l:List (Nat×TyE)},d1J l t=some e->(t,e)∈l
 | [],h=>by cases h
 |(k,x)::l,h=>by
  unfold d1J at h;split at h
  .rename_i hb;obtain rfl:=a2l hb;injection h with h;subst h
   exact b2h
  .exact a4a _ (b0H h)
def tyB(P:Program)(x:Nat×TyE):Bool:=match P.info? x.1,P.underlying x.1 with
 |some i,some d=>Nat.beq i.size x.2.size &&match d with
  | .struct fs=>x.2.agg && (List.range x.2.offs.length).all λi=>match fs[i]? with
   |some fd=>Nat.beq fd.offset (x.2.offs.getD i 0)&&match P.info? fd.type with
    |some j=>Nat.blt 0 j.size
    |none=>false
   |none=>false
  | .array _ _=>x.2.agg &&x.2.offs.isEmpty
  |_=>!x.2.agg &&x.2.offs.isEmpty
 |_,_=>false
theorem I3{P:Program}{i:TypeInfo}(h:P.info? t=some i)(w:World):(sizeOf t).run P w= .ok i.size w:=by simp[sizeOf,typeInfo,h]
theorem F1{P:Program}{d:TypeDesc}(h:P.underlying t=some d)(w:World):(underlying t).run P w= .ok d w:=by simp[underlying,h]
def e2R:TypeDesc->Bool
 | .struct _| .array _ _=>true
 |_=>false
theorem a99{P:Program}{d:TypeDesc}(h:P.underlying t=some d)(w:World):(isAgg t).run P w= .ok (e2R d) w:=by
 unfold isAgg;rw[Sem.run_bind,F1 h];cases d<;>rfl
theorem d9k{P:Program}{l:List (Nat×TyE)}(h:l.all (tyB P)=true):∀x∈l,x.2.right P x.1:=λ⟨t,e⟩ hx=>by
 rw[a6h]at h;have h:=h _ hx;unfold tyB at h;split at h
 .rename_i i d hi hd;rw[R9]at h;have aP:=a2l h.1;have h2:=h.2;have hs:∀w,(sizeOf t).run P w= .ok e.size w:=λw=>by rw[I3 hi];exact n_7 (λn=>Result.ok n w) aP
  cases d with
  |struct fs=>
   simp only[R9,a6h,List.mem_range]at h2;refine⟨λw=>by rw[a99 hd,show e.agg=true from h2.1];rfl,hs,.inr ⟨fs,F1 hd,λi o ho=>?_⟩⟩;have h3:=h2.2 i (n_2.1 ho).1;split at h3
   .rename_i fd hfd;rw[R9]at h3;have h4:=a2l h3.1;have h5:=h3.2;split at h5
    .rename_i j hj;exact⟨fd,j.size,hfd,by rw[h4,b4D];dsimp only at ho⊢;rw[ho];rfl,I3 hj,by have h6:=h5;rw[b12]at h6;omega⟩
    .cases h5
   .cases h3
  |array n t'=>
   simp only[R9]at h2;exact⟨λw=>by rw[a99 hd,show e.agg=true from h2.1];rfl,hs,.inl (b9e.1 h2.2)⟩
  |_=>
   simp only[R9,b69]at h2;exact⟨λw=>by rw[a99 hd,show e.agg=false from h2.1];rfl,hs,.inl (b9e.1 h2.2)⟩
 .cases h
def Env.vb(E:Env):Operand->Bool
 | .tmp t=>match E.g t with
  | .yes=>true
  |_=>false
 | .const v=>I2 v
 |_=>true
theorem Env.vb_ok(h:E.vb x=true):E.valid x:=by
 cases x with
 |tmp t=>
  show(E.g t).is;simp only[Env.vb]at h;generalize E.g t=g at h;cases g with
  |yes=>exact O
  |two a b=>cases h
 |const v=>exact h
 |global g=>exact O
 |func f=>exact O
theorem Env.val_h(h:(match x with| .tmp t=>E.h t|x=>some (E.val C x))=some c):E.val C x=c:=by
 cases x with
 |tmp t=>show(E.h t).getD _=c;rw[show E.h t=some c from h];rfl
 |_=>injection h
def e3h:BinOp->Bool
 | .eql | .neq | .lss | .leq | .gtr | .geq=>true
 |_=>false
def qv(C:Ctx)(σ:List b9)(E:Env):Op->Option CV
 | .move x| .assign x=>match E.vb x with
  |true=>match x with
   | .tmp t=>E.h t
   |x=>some (E.val C x)
  |false=>none
 | .nilCheck x=>match E.vb x with
  |true=>match E.val C x with
   | .ptr k d=>some (.ptr k d)
   |_=>none
  |false=>none
 | .extract x i=>match E.vb x with
  |true=>match E.val C x with
   | .tup cs=>cs[i]?
   |_=>none
  |false=>none
 | .unOp .not _ x=>match E.vb x with
  |true=>match E.val C x with
   | .val (.bool b)=>some (.val (.bool (!b)))
   |_=>none
  |false=>none
 | .fieldAddr t x f=>match E.vb x with
  |true=>match d1J C.tab t with
   |some e=>match e.offs[f]? with
    |some d=>match E.val C x with
     | .ptr k o=>some (.ptr k (o+d))
     | .cptr cs=>some (.cptr (cs.drop d))
     | .eptr k i o=>some (.eptr k i (o+d))
     |_=>none
    |none=>none
   |none=>none
  |false=>none
 | .load t x=>match E.vb x with
  |true=>
   match d1J C.tab t with
   |some e=>match E.val C x with
    | .ptr k o=>match σ[k]? with
     |some (.boxT _ cells)=>match e.agg with
      |false=>cells[o]?
      |true=>match Nat.ble (o+e.size) cells.length with
       |true=>some (.agg ((cells.drop o).take e.size))
       |false=>none
     |_=>none
    | .cptr cells=>match e.agg with
     |false=>cells[0]?
     |true=>match Nat.ble e.size cells.length with
      |true=>some (.agg (cells.take e.size))
      |false=>none
    |_=>none
   |none=>none
  |false=>none
 | .binOp op _ x y _=>match e3h op with
  |true=>match E.vb x with
   |true=>match E.vb y with
    |true=>match E.val C x with
     | .val (.int k a)=>match E.val C y with
      | .val (.int k' b)=>if k=k' then(b2i op k a b).map CV.val else none
      |_=>none
     |_=>none
    |false=>none
   |false=>none
  |false=>none
 |_=>none
theorem e2Z(h:qv C σ E o.op=some c):j4 C σ E o c:=by
 generalize bj:o.op=op at h;cases op with
 |move x=>
  simp only[qv]at h;split at h
  .exact a0Q bj (Env.vb_ok ‹_›) (Env.val_h h)
  .cases h
 |assign x=>
  simp only[qv]at h;split at h
  .exact a1T bj (Env.vb_ok ‹_›) (Env.val_h h)
  .cases h
 |nilCheck x=>
  simp only[qv]at h;split at h
  .split at h
   .injection h with h;subst h;exact b0x bj (Env.vb_ok ‹_›) ‹_›
   .cases h
  .cases h
 |extract x i=>
  simp only[qv]at h;split at h
  .split at h
   .exact a28 bj (Env.vb_ok ‹_›) ‹_› h
   .cases h
  .cases h
 |unOp Jj t x=>
  cases Jj<;>simp only[qv]at h<;>try cases h
  split at h
  .split at h
   .injection h with h;subst h;exact b1Z bj (Env.vb_ok ‹_›) ‹_›
   .cases h
  .cases h
 |fieldAddr t x f=>
  simp only[qv]at h;split at h
  .split at h
   .rename_i e he;split at h
    .rename_i d hd;obtain⟨-,-,hf⟩:=C.right _ (b0H he)
     rcases hf with hf|⟨fs,hu,hf⟩
     .dsimp only at hf;rw[hf]at hd;cases hd
     .obtain ⟨fd,s,h1,rfl,h3,h4⟩:=hf f d hd;split at h
      .injection h with h;subst h;exact i7 bj (Env.vb_ok ‹_›) ‹_› hu h1 h3 h4
      .injection h with h;subst h;exact a0U bj (Env.vb_ok ‹_›) ‹_› hu h1 h3 h4
      .injection h with h;subst h;exact c4O bj (Env.vb_ok ‹_›) ‹_› hu h1 h3 h4
      .cases h
    .cases h
   .cases h
  .cases h
 |load t x=>
  simp only[qv]at h;split at h
  .split at h
   .rename_i e he;obtain⟨ha,hs,-⟩:=C.right _ (b0H he);dsimp only at ha hs;split at h
    .split at h
     .split at h
      .rename_i gt;rw[gt]at ha;exact l9 bj (Env.vb_ok ‹_›) ‹_› ha ‹_› h
      .rename_i gt;rw[gt]at ha;split at h
       .injection h with h;subst h;exact I5 bj (Env.vb_ok ‹_›) ‹_› ha hs ‹_› (nb ‹_›)
       .cases h
     .cases h
    .split at h
     .rename_i gt;rw[gt]at ha;exact Z1 bj (Env.vb_ok ‹_›) ‹_› ha h
     .rename_i gt;rw[gt]at ha;split at h
      .injection h with h;subst h;exact X8 bj (Env.vb_ok ‹_›) ‹_› ha hs (nb ‹_›)
      .cases h
    .cases h
   .cases h
  .cases h
 |binOp op t x y t'=>
  simp only[qv]at h;split at h
  .split at h
   .split at h
    .split at h
     .split at h
      .split at h
       .rename_i hk;subst hk;rw[M8]at h;obtain⟨v,hv,rfl⟩:=h;exact a0e bj (Env.vb_ok ‹_›) (Env.vb_ok ‹_›) ‹_› ‹_› hv
       .cases h
      .cases h
     .cases h
    .cases h
   .cases h
  .cases h
 |_=>cases h
theorem G4.yes{a:Act}{d:Option Nat}(h:G4 M w n (E.put d c True) a):G4 M w n (E.putO d c .yes) a:=by
 cases d with
 |none=>exact h
 |some d=>
  refine⟨h.defers,h.size,λt ht=>?_,λt ht=>?_⟩
  .have:=h.rv t (by rw[Env.put_ok];rw[Env.putO_ok]at ht;exact ht);rw[Env.put_f]at this;rw[Env.putO_f];exact this
  .exact h.un t (by rw[Env.put_un];rw[Env.putO_un]at ht;exact ht)
section
variable{af:Array Oper}{Ji:A7->Env->List b9->Prop}
theorem F0.yes{d:Option Nat}(h:F0 C n af Ji l (E.putO d c .yes) σ):F0 C n af Ji l (E.put d c True) σ:=λM w a hr hf=>h M w a hr hf.yes
def e3b(n:Nat)(o:Oper):Bool:=match o.dst with
 |some d=>Nat.blt d n
 |none=>true
def a8H(C:Ctx)(n:Nat)(af:Array Oper)(Ji:A7->Env->List b9->Prop):List Oper->Env->List b9->Prop
 | [],E,σ=>Ji .normal E σ
 |o::l,E,σ=>match o.guard with
  |some _=>F0 C n af Ji (o::l) E σ
  |none=>match e3b n o with
   |false=>F0 C n af Ji (o::l) E σ
   |true=>match qv C σ E o.op with
    |none=>F0 C n af Ji (o::l) E σ
    |some c=>match o.dst with
     |some d=>a8H C n af Ji l (E.putO (some d) c .yes) σ
     |none=>a8H C n af Ji l E σ
theorem a1E:∀{l:List Oper} {E:Env},a8H C n af Ji l E σ->F0 C n af Ji l E σ
 | [],_,h=>o7 h
 |o::l,E,h=>by
  unfold a8H at h;split at h
  .exact h
  .rename_i hg;split at h
   .exact h
   .rename_i hd;split at h
    .exact h
    .rename_i c hc;refine d3H hg hd (e2Z hc) ?_;split at h
     .rename_i d eH;rw[eH];exact(a1E h).yes
     .rename_i eH;rw[eH];exact a1E h
def qc(C:Ctx)(n:Nat):Nat->Nat->Code->(A7->Env->List b9->Prop)->Env->List b9->Prop
 |0,_,c,Ji,E,σ=>CWp C n c Ji E σ
 |k+1,s,c,Ji,E,σ=>match c with
  | .seq x y=>match s with
   |0=>CWp C n (.seq x y) Ji E σ
   |s+1=>qc C n k 1000 x (A7.next (λE σ=>qc C n k s y Ji E σ) Ji) E σ
  | .skip=>Ji .normal E σ
  | .block id x=>qc C n k s x (A7.blk id Ji) E σ
  | .region _ af false=>a8H C n af Ji af.toList E σ
  |c=>CWp C n c Ji E σ
theorem a4z:∀{k s:Nat} {c:Code} {Ji:A7->Env->List b9->Prop} {E:Env} {σ:List b9},qc C n k s c Ji E σ->CWp C n c Ji E σ
 |0,_,_,_,_,_,h=>h
 |k+1,s,c,Ji,E,σ,h=>by
  unfold qc at h;split at h
  .split at h
   .exact h
   .refine F7 ((a4z h).mono λe E σ h=>?_);cases e with
    |normal=>exact a4z h
    |_=>exact h
  .exact A8 h
  .exact a1Z (a4z h)
  .exact C4 (a1E h)
  .exact h
end
section
variable{af:Array Oper}{Ji:A7->Env->List b9->Prop}
theorem qk{c:Code}(h:qc C n 999 999 c Ji E σ):CWp C n c Ji E σ:=a4z h
theorem qs(s:Nat){c:Code}(h:qc C n 999 s c Ji E σ):CWp C n c Ji E σ:=a4z h
theorem qN(ae:List b9)(he:σ=ae)(h:a8H C n af Ji l E ae):a8H C n af Ji l E σ:=he▸h
theorem qo(h:a8H C n af Ji l E σ):F0 C n af Ji l E σ:=a1E h
theorem u(hy:j4 C σ E o c)(h:a8H C n af Ji l (E.putO o.dst c .yes) σ)(hg:o.guard=none:=by rfl)(hd:(match o.dst with|some d=>Nat.blt d n|none=>true)=true:=by rfl):F0 C n af Ji (o::l) E σ:=d3H hg hd hy (a1E h).yes
theorem qD(h:C5 C σ E o λr ae=>match r with| .ret c=>a8H C n af Ji l (E.putO o.dst c .yes) ae| .pan c=>Ji (.pan c) E ae)(hg:o.guard=none:=by rfl)(hd:(match o.dst with|some d=>Nat.blt d n|none=>true)=true:=by rfl):F0 C n af Ji (o::l) E σ:=
 a2J hg hd (h.mono λr ae h=>by
  cases r with
  |ret c=>exact(a1E h).yes
  |pan c=>exact h)
theorem qG{j t:Nat}{av:Bool}(hy:b=av->j4 C σ E o c)(h:a8H C n af Ji l (E.put o.dst c (b=av)) σ)(hg:o.guard=some (j,av):=by rfl)(ht:(af[j]?).bind (·.dst)=some t:=by rfl)(hv:E.ok t:=by exact O)(hb:E.f t= .val (.bool b):=by rfl)
 (hd:(match o.dst with|some d=>Nat.blt d n|none=>true)=true:=by rfl):F0 C n af Ji (o::l) E σ:=e1l hg ht hv hb hd hy (a1E h)
theorem qH{j t:Nat}{av:Bool}(hg:o.guard=some (j,av))(ht:(af[j]?).bind (·.dst)=some t)(hy:E.ok t->b=av->j4 C σ E o c)(h:a8H C n af Ji l (E.put o.dst c (E.ok t/\b=av)) σ)(hv:¬E.ok t->E.un t:=by exact λh=>h)(hb:E.f t= .val (.bool b):=by rfl)
 (hd:(match o.dst with|some d=>Nat.blt d n|none=>true)=true:=by rfl):F0 C n af Ji (o::l) E σ:=c8m hg ht hv hb hd hy (a1E h)
theorem qC{c:Operand}{x y:Code}(ht:b=true->qc C n 999 999 x Ji E σ)(hf:b=false->qc C n 999 999 y Ji E σ)(hv:E.valid c:=by first|exact O|exact G)(hc:E.val C c= .val (.bool b):=by exact G):CWp C n (.cond c x y) Ji E σ:=a2A hv hc (λh=>a4z (ht h)) λh=>a4z (hf h)
theorem qO{fn:Func}{c:Code}(hf:C.P.funcs[f]?=some fn)(h:qc C fn.ntmps 999 999 c (Fin C fn K) (Env.args args) σ)(hb:fn.body=some c:=by rfl)(hn:Nat.ble args.length fn.ntmps=true:=by rfl):b8 C f args σ K:=a8z hf hb hn (a4z h)
end
def a1Y(ss:List D):List D:=ss.mergeSort λx y=>decide (x<=y)
end Go.Cl
namespace Go.Proofs
open Go.Shelf Go.Sort
theorem b7y{P:Program}{ρ:Ren}(Ly:Lays.n190 P ρ)(blk off cap:Nat)(ss:List (List UInt8))(w:World)(hH:Holds encStr w blk off ss.toArray)(hb:blk<w.heap.size)(hn:ss.length <4611686018427387904):
 Calls P (ρ.f 190) #[.slice (some ⟨blk,off,none⟩) ss.length cap] w λe w'=>e= .returned (.tuple #[])/\∃n os,w'=grow (putRow encStr (Sort.ahead w n) blk off (ss.mergeSort λx y=>decide (x<=y)).toArray) os:=
 calls_of_every_depth λJd=>by
  have parts:Any.Callees13sIn P ρ Jd:={
   heap:=AnyS.heapSort_stringIn {Ly with} Jd,rev:=AnyS.reverseRange_stringIn {Ly with} Jd,ins:=AnyS.insertionSort_strIn {Ly with} Jd,brk:=AnyS.breakPatterns_strIn {Ly with} Jd,
   piv:=AnyS.choosePivot_strIn {Ly with} Jd,par:=AnyS.partialInsertionSort_strIn {Ly with} Jd,peq:=AnyS.partitionEqualOrdered_stringIn {Ly with} Jd,prt:=AnyS.partitionOrdered_stringIn {Ly with} Jd}
  have laws:Plain13s:={swo:=swo_ltStr,ins:=insertionSort_holds,par:=partialInsertionSort_holds,prt:=partition_holds _,peq:=partitionEqual_holds _,pdq:=pdq_sorts _};have quick:Any.pdqWalkIn_str P ρ Jd:=λrm b' o' c' x y lim d w' h1 h2 h3 h4 h5 h6 h7 h8=>AnyS.pdqsort_stringIn {Ly with} Jd parts laws (y-x+1) rm b' o' c' x y lim d w' J h1 h2 h3 h4 h5 h6 h7 h8;have lens:Any.lenWalkInS P ρ Jd:=λn w' h=>by
   have h1:=AnyS.bits_LenInS {Ly with} Jd (n:Int) w' J J;rwa[a8q,bitLen_eq _ J]at h1
  have h:=AnyS.Sort_strIn {Ly with} Jd quick lens blk off cap ss.toArray w hH hb (U hn);rw[<- sortStr ss];simpa using h
end Go.Proofs
namespace Go.Cl
open Go.Sort Go.Proofs
variable{w Jh:World}{α:Type}{b s i:Nat}{arr:Array Value}{C:Ctx}{enc:α->List Value}
theorem d5m{ty:TypeId}{fr:Nat×Nat}{d:Array (List UInt8)}(h:w.heap[b]?=some (.cells arr ty fr)):putRow encStr w b 0 d=World.putObj w b (.cells (putCells encStr 0 d arr) ty fr):=by
 have hb:b<w.heap.size:=(a06.1 h).1;have hg:w.heap[b]= .cells arr ty fr:=(a06.1 h).2;unfold putRow mapBlock World.putObj
 congr 1
 apply c1l;intro i;rw[b8j,c7b];by_cases hi:b=i
 .subst hi;simp[hb,hg,onCells]
 .simp [hi]
theorem d3D{d:Array (List UInt8)}(hi:i<d.size)(ha:i<arr.size):(putCells encStr 0 d arr).getD i undef=encStr d[i]:=by
 unfold putCells;rw[a0b,Array.getElem?_mapIdx,a1V ha];simp[hi]
theorem d2n{C:Ctx}{f:FuncId}(aE:∀(blk off cap:Nat) (ss:List (List UInt8)) (w:World),Holds encStr w blk off ss.toArray->blk<w.heap.size->ss.length <4611686018427387904 ->
 Calls C.P f #[.slice (some ⟨blk,off,none⟩) ss.length cap] w λe w'=>e= .returned (.tuple #[])/\∃n os,w'=grow (putRow encStr (Sort.ahead w n) blk off (ss.mergeSort λx y=>decide (x<=y)).toArray) os)
 {σ:List b9}{k:Nat}{ss:List D}(aB:ss≠[])(ao:ss.length <4611686018427387904)(hk:σ[k]?=some (.vec 1 (ss.map λs=>[sv s]))):b8 C f [.vec k 0 ss.length] σ λr τ=>r= .ret (.tup [])/\τ=σ.set k (.vec 1 ((a1Y ss).map λs=>[sv s])):=λM w vs hr hn hx=>by
 have hl:0<ss.length:=a8E.2 aB;have h0:=hx 0 _ G;have hs:vs.size=1:=hn;obtain⟨v,rfl⟩:∃v,vs= #[v]:=⟨vs[0]'J,Array.ext (by simp[hs]) λi h1 h2=>by
  have:i=0:=by omega
  subst this;simp⟩
 have h0:RV M w (.vec k 0 ss.length) v:=h0;cases h0 with
 |vec hp g1 g2 g3=>
  rename_i p a;obtain⟨⟨e0,e1,e2,e3,e4,arr,ty,e5,e6,e7⟩,hf,cr⟩:=hr.obj k p _ hp hk;rw[N0]at e1;rw[e0,c0m]at e6;have ha:=g3 J;rw[Nat.zero_mul]at ha;subst ha;have hb:p.block <w.heap.size:=(a06.1 e5).1;have ax:∀j (hj:j<ss.length),arr.getD j undef=encStr ss[j]:=λj hj=>by
   have h1:(ss.map λs=>[sv s])[j]?=some [sv ss[j]]:=by rw[N6,a2o hj];rfl
   have:=r6 (e7 j 0 _ _ h1 G);rw[e0,c0m,a8c]at this;exact this
  have hH:Holds encStr w p.block 0 ss.toArray:=λj hj=>by
   have dj:j<ss.length:=U hj;have hja:j<arr.size:=by omega
   refine⟨?_,by simp[World.frozen?,e5]⟩;have:=ax j dj;rw[a0b,a1V hja]at this;simp only[b8K]at this;rw[P4,getElem!_pos _ _ (U dj)];simp[World.cell?,e5,hja,this]
  refine(aE p.block 0 (p.cap -0) ss w hH hb ao).mono λe w' ⟨he,n,os,hw⟩=>?_;subst he hw;obtain⟨bP,aR⟩:=a7M hr n #[];have ew:grow (w.drewN n) #[]=Sort.ahead w n:=by simp[grow,World.drewN,Sort.ahead]
  rw[ew]at bP aR;have e5':(Sort.ahead w n).heap[p.block]?=some (.cells arr ty (0,0)):=e5;rw[d5m e5'];have eB:(a1Y ss).length=ss.length:=b6M _;have hd:((a1Y ss).toArray).size=ss.length:=by simp[eB]
  have dd:(putCells encStr 0 (a1Y ss).toArray arr).size=arr.size:=by simp[putCells]
  have aK:=Ext.putObj (w:=Sort.ahead w n) (.cells (putCells encStr 0 (a1Y ss).toArray arr) ty (0,0)) (aR.nk k p _ hp hk G) hf cr;have bk:=aR.putObj (ob:=.vec 1 ((a1Y ss).map λs=>[sv s])) hp hk G hf cr (.cells (putCells encStr 0 (a1Y ss).toArray arr) ty (0,0)) ⟨e0,by rw[N0,eB];exact e1,e2,λr hr=>by
   obtain⟨s,_,rfl⟩:=D8.1 hr;rw[e0];rfl,λr hr c hc=>by
   obtain⟨s,_,rfl⟩:=D8.1 hr;simp at hc;subst hc;rfl,_,ty,World.putObj_same _ _ (by exact hb),by rw[dd,e0,c0m];exact e6,λi j r c hi hj=>by
   rw[N6,M8]at hi;obtain⟨s,aU,rfl⟩:=hi
   rcases j with _|j
   .injection hj with hj
    subst hj;have bX:=(n_2.1 aU).1;rw[e0,c0m,a8c,d3D (U bX) J];have:(a1Y ss)[i]=s:=(n_2.1 aU).2;simp only[List.getElem_toArray,this];exact .val _
   .cases hj⟩
  obtain⟨fT,fD⟩:=a7M bk 0 os;have ew2:∀Jj:World,Jj.drewN 0=Jj:=λJj=>G;rw[ew2]at fT fD;exact⟨_,_,_,(bP.trans aK).trans fT,fD,.tup G (λi c h=>by simp at h),G,G⟩
theorem b71 [Inhabited α]{enc:α->Value}{ty:TypeId}{fr:Nat×Nat}{d:Array α}(h:w.heap[b]?=some (.cells arr ty fr)):putRow enc w b 0 d=World.putObj w b (.cells (putCells enc 0 d arr) ty fr):=by
 have hb:b<w.heap.size:=(a06.1 h).1;have hg:w.heap[b]= .cells arr ty fr:=(a06.1 h).2;unfold putRow mapBlock World.putObj
 congr 1
 apply c1l;intro i;rw[b8j,c7b];by_cases hi:b=i
 .subst hi;simp[hb,hg,onCells]
 .simp [hi]
theorem b9P{F:Array Value}(hi:i<F.size)(ha:i<arr.size):(putCells id 0 F arr).getD i undef=F[i]!:=by
 unfold putCells;rw[a0b,Array.getElem?_mapIdx,a1V ha];simp[hi]
theorem b55{W':World}{M':A5}(h:Ext (R7 Jh) Jh M' W'):∃q os',W'=grow (Jh.drewN q) os':=by
 refine⟨W'.drawn -Jh.drawn,W'.heap.extract Jh.heap.size W'.heap.size,?_⟩;have hd:Jh.drawn+(W'.drawn -Jh.drawn)=W'.drawn:=by have:=h.drew;omega
 have hh:W'.heap=Jh.heap++W'.heap.extract Jh.heap.size W'.heap.size:=by
  apply c1l;intro i;rw[b8Q]
  split
  .rename_i hi;exact h.same i hi
  .rename_i hi;rw[Array.getElem?_extract];have hs:=h.size
   split
   .congr 1;omega
   .rename_i h2;rw[b4H];omega
 have h1:=h.os;have h2:=h.tape;have h3:=h.output;show W'=⟨_,_,_,_,_⟩;cases W';simp only at hd hh h1 h2 h3⊢;subst h1 h2 h3;simp only[World.drewN,World.mk.injEq,true_and,and_true];exact⟨hh,hd.symm⟩
theorem c1m{f:FuncId}{ib:List CV}{args:Array Value}{Jj:Value}
 (hg:∀g cells,C.glob g=some cells->GV (R7 Jh) Jh cells g)
 (hn:args.size=ib.length)(ha:∀(i:Nat) (c:CV),ib[i]?=some c->RV (R7 Jh) Jh c (args.getD i undef))
 (h:b8 C f ib [] λr ae=>r= .ret (.val Jj)/\ae=[]):Calls C.P f args Jh λe W'=>e= .returned Jj/\∃q os',W'=grow (Jh.drewN q) os':=by
 refine(h (R7 Jh) Jh args (b20 hg) hn ha).mono λe W' he=>?_;cases e with
 |returned v=>
  obtain⟨c,ae,M',h1,h2,h3,h4,h5⟩:=he;cases h4;cases h3;exact⟨G,b55 h1⟩
 |panicked ch=>
  obtain⟨c,v,ae,M',-,-,-,-,h4,-⟩:=he;cases h4
 |outgrown=>exact he.elim
theorem c4U{M:A5}{σ:List b9}(hv:∀g cells,C.glob g=some cells->∀c∈cells,∃v,c=CV.val v)(hr:Rel C M σ w)(hb:¬M.full b)(hs:w.heap.size<=Jh.heap.size)
 (hh:∀x,x<w.heap.size->x≠b->Jh.heap[x]?=w.heap[x]?)(g:Nat)(cells:List CV)(hg:C.glob g=some cells):GV (R7 Jh) Jh cells g:=by
 obtain⟨rv,full,sz⟩:=hr.glob g cells hg;have ai:g<w.heap.size:=hr.blk g 0 (.inl full);have aB:g≠b:=λe=>hb (e▸full);have bc:=hh g ai aB;cases rv with
 |cptr vals a1 a2 a3=>
  refine⟨.cptr vals a1 (λj c hj=>⟨.inl (a9z ai hs),?_⟩) (λj c hj=>?_),a9z ai hs,?_⟩
  .rw [L1 bc];exact(a2 j c hj).2
  .obtain ⟨v,rfl⟩:=hv g cells hg c (n_3 hj);have:=a3 j _ hj;cases this;exact .val _
  .rw [bc];exact sz
theorem b2K [Inhabited α]{m:Nat}{dk:Array α}{os:Array Obj}:w.heap.size<=(sortWorldK enc s w b 0 m dk os).heap.size/\∀x,x<w.heap.size->x≠b->(sortWorldK enc s w b 0 m dk os).heap[x]?=w.heap[x]?:=by
 refine⟨by unfold sortWorldK;rw[size_grow,size_putRowK];exact Nat.le_add_right _ _,λx hx aB=>?_⟩;unfold sortWorldK grow putRowK putRow mapBlock;show(Array.modify w.heap b _++os)[x]?=_;rw[b2Y (U hx),b8j,H (λe=>aB e.symm)]
theorem c2Y{M:A5}{l:List Value}(h1:∀v∈l,v.oneCell'=true):RV M w (.agg (l.map .val)) (.agg l.toArray):=by
 refine .agg Q (λc hc=>?_) (λi c hi=>?_)
 .obtain ⟨v,hv,rfl⟩:=D8.1 hc;exact h1 v hv
 .rw [N6,M8]at hi;obtain⟨v,hv,rfl⟩:=hi;have:l.toArray.getD i undef=v:=by rw[a0b,List.getElem?_toArray,hv];rfl
  rw[this];exact .val _
theorem d0T{g:FuncId} [Inhabited α]{cf:α->α->Int}(h1:∀x,∀v∈enc x,v.oneCell'=true)(hcmp:∀x y:α,b8 C g [.agg ((enc x).map .val),.agg ((enc y).map .val)] [] λr τ=>r= .ret (.val (.int .i64 (cf x y)))/\τ=[])
 (hv:∀g cells,C.glob g=some cells->∀c∈cells,∃v,c=CV.val v){M:A5}{σ:List b9}{w:World}{b size:Nat}(hr:Rel C M σ w)(hb:¬M.full b):CmpLays C.P g #[] enc s cf b 0 size w:=λm os dk hs x y=>by
 refine c1m (c4U hv hr hb b2K.1 b2K.2) G (λi c hi=>?_) (hcmp x y)
 rcases i with _|_|i
 .injection hi with hi;subst hi;exact c2Y (h1 x)
 .injection hi with hi;subst hi;exact c2Y (h1 y)
 .cases hi
theorem b3b [Inhabited α]{l:List α}{j:Nat}{x:α}(hx:l[i]?=some x)(hj:j<s)(hk:(enc x).length=s):(flatK enc s l.toArray)[i*s+j]! =(enc x)[j]!/\i*s+j<l.length*s:=by
 have hi:=(n_2.1 hx).1;have lt:i*s+j<l.length*s:=by
  have:=X4 s (show i+1<=l.length from hi);rw[P9,Nat.one_mul]at this;omega
 have e1:(i*s+j) / s=i:=(blk_iff s i _ J).1 ⟨J,J⟩;have e2:(i*s+j)%s=j:=by rw[Nat.mod_eq_sub_div_mul,e1];omega
 refine⟨?_,lt⟩;rw[get_flatK _ _ _ _ (U lt),e1,e2];have:l.toArray[i]! =x:=by simp[hi,(n_2.1 hx).2]
 rw[this]
def a79{α:Type}(cf:α->α->Int)(l:List α):List α:=l.mergeSort λx y=>!(ltOf cf) y x
theorem b37{f g:FuncId} [Inhabited α]{cf:α->α->Int}(dW:0<s)(hk0:∀x,(enc x).length=s)(h1:∀x,∀v∈enc x,v.oneCell'=true)
 (aE:∀(blk off cap:Nat) (d:Array α) (w:World),CmpLays C.P g #[] enc s cf blk off d.size w->HoldsK enc s w blk off d->blk<w.heap.size->d.size <4611686018427387904 ->
  Calls C.P f #[.slice (some ⟨blk,off,none⟩) d.size cap,.func (.func g) #[] #[]] w λe w'=>e= .returned (.tuple #[])/\∃n os,w'=sortWorldK enc s w blk off n (d.toList.mergeSort λx y=>!(ltOf cf) y x).toArray os)
 (hcmp:∀x y:α,b8 C g [.agg ((enc x).map .val),.agg ((enc y).map .val)] [] λr τ=>r= .ret (.val (.int .i64 (cf x y)))/\τ=[])
 (hv:∀g cells,C.glob g=some cells->∀c∈cells,∃v,c=CV.val v)
 {σ:List b9}{k:Nat}{l:List α}(aB:l≠[])(ao:l.length <4611686018427387904)(hk:σ[k]?=some (.vec s (l.map λx=>(enc x).map .val))):
 b8 C f [.vec k 0 l.length,.val (.func (.func g) #[] #[])] σ λr τ=>r= .ret (.tup [])/\τ=σ.set k (.vec s ((a79 cf l).map λx=>(enc x).map .val)):=λM w vs hr hn hx=>by
 have hl:0<l.length:=a8E.2 aB;have hs:vs.size=2:=hn;obtain⟨v,v2,rfl⟩:∃v v2,vs= #[v,v2]:=⟨vs[0]'J,vs[1]'J,Array.ext (by simp[hs]) λi h1 h2=>by
  have:i=0\/i=1:=by omega
  rcases this with rfl|rfl<;>simp⟩
 have h0:RV M w (.vec k 0 l.length) v:=hx 0 _ G;have h2:RV M w (.val (.func (.func g) #[] #[])) v2:=hx 1 _ G;cases h2;cases h0 with
 |vec hp g1 g2 g3=>
  rename_i p a;obtain⟨⟨e0,e1,e2,e3,e4,arr,ty,e5,e6,e7⟩,hf,cr⟩:=hr.obj k p _ hp hk;rw[N0]at e1;rw[e0]at e6;have ha:=g3 J;rw[Nat.zero_mul]at ha;subst ha;have hb:p.block <w.heap.size:=(a06.1 e5).1;have hcs:l.length*s<=arr.size:=by rw[e6];exact X4 s e1
  have ax:∀t,t<l.length*s->arr.getD t undef=(flatK enc s l.toArray)[t]!:=λt ht=>by
   have hd:t / s<l.length:=(Nat.div_lt_iff_lt_mul dW).2 ht;have hm:t%s<s:=a63 _ dW;have ht2:t / s*s+t%s=t:=by rw[Nat.mul_comm];exact Nat.div_add_mod t s
   have hx:l[t / s]?=some l[t / s]:=a2o hd;have ia:=hk0 l[t / s];have h3:=(b3b (enc:=enc) hx hm ia).1;rw[ht2]at h3;rw[h3];have h4:(l.map λx=>(enc x).map CV.val)[t / s]?=some ((enc l[t / s]).map .val):=by rw[N6,hx];rfl
   have h5:((enc l[t / s]).map CV.val)[t%s]?=some (.val (enc l[t / s])[t%s]!):=by
    rw[N6,a2o J];simp[ia,hm]
   have:=r6 (e7 _ _ _ _ h4 h5);rw[e0,ht2]at this;exact this
  have hH:HoldsK enc s w p.block 0 l.toArray:=λj hj=>by
   have dj:j<l.length*s:=U hj;have hja:j<arr.size:=by omega
   refine⟨?_,by simp[World.frozen?,e5]⟩;have:=ax j dj;rw[a0b,a1V hja]at this;simp only[b8K]at this;rw[P4];simp[World.cell?,e5,hja,this]
  have hC:=d0T (s:=s) (size:=l.toArray.size) h1 hcmp hv hr hf;have eU:=aE p.block 0 (p.cap -0) l.toArray w hC hH hb (U ao);rw[show l.toArray.size=l.length by simp,show l.toArray.toList=l by simp]at eU;refine eU.mono λe w' ⟨he,n,os,hw⟩=>?_;subst he hw;obtain⟨bP,aR⟩:=a7M hr n #[];have ew:grow (w.drewN n) #[]=Sort.ahead w n:=by simp[grow,World.drewN,Sort.ahead]
  rw[ew]at bP aR;have e5':(Sort.ahead w n).heap[p.block]?=some (.cells arr ty (0,0)):=e5;unfold sortWorldK putRowK;rw[b71 e5'];have eB:(a79 cf l).length=l.length:=b6M _;change a1h C M w _ _ (grow (World.putObj (Sort.ahead w n) p.block (.cells (putCells id 0 (flatK enc s (a79 cf l).toArray) arr) ty (0,0))) os);generalize hF:flatK enc s (a79 cf l).toArray=F;have hFs:F.size=l.length*s:=by rw[<- hF,size_flatK];simp[eB]
  have dd:(putCells id 0 F arr).size=arr.size:=by simp[putCells]
  have aK:=Ext.putObj (w:=Sort.ahead w n) (.cells (putCells id 0 F arr) ty (0,0)) (aR.nk k p _ hp hk G) hf cr;have bk:=aR.putObj (ob:=.vec s ((a79 cf l).map λx=>(enc x).map .val)) hp hk G hf cr (.cells (putCells id 0 F arr) ty (0,0)) ⟨e0,by rw[N0,eB];exact e1,e2,λr hr=>by
   obtain⟨x,_,rfl⟩:=D8.1 hr;rw[e0,N0];exact hk0 x,λr hr c hc=>by
   obtain⟨x,_,rfl⟩:=D8.1 hr;obtain⟨v,hv,rfl⟩:=D8.1 hc;exact h1 x v hv,_,ty,World.putObj_same _ _ (by exact hb),by rw[dd,e0];exact e6,λi j r c hi hj=>by
   rw[N6,M8]at hi;obtain⟨x,aU,rfl⟩:=hi;rw[N6,M8]at hj;obtain⟨v,dj,rfl⟩:=hj;have hjs:j<s:=by have:=(n_2.1 dj).1;rw[hk0]at this;exact this
   obtain⟨h3,h4⟩:=b3b (enc:=enc) aU hjs (hk0 x);rw[hF]at h3;rw[eB]at h4;rw[e0,b9P J J,h3,List.getElem!_eq_getElem?_getD,dj];exact .val _⟩
  obtain⟨fT,fD⟩:=a7M bk 0 os;have ew2:∀Jj:World,Jj.drewN 0=Jj:=λJj=>G;rw[ew2]at fT fD;exact⟨_,_,_,(bP.trans aK).trans fT,fD,.tup G (λi c h=>by simp at h),G,G⟩
end Go.Cl
namespace Go.Cl
variable{C:Ctx}{K K':L7->List b9->Prop}{σ:List b9}{c:Code}{k n s id kD len q off:Nat}{t e t':TypeId}{w:World}{x y:Operand}{aa new:List (List CV)}{f:FuncId}{args cells:List CV}{M:A5}{z:Value}{ob:b9}{Ji:A7->Env->List b9->Prop}{α:Type}{o:Oper}{a:Act}{af:Array Oper}
theorem b8v(h:b8 C f args σ K)(hk:∀r τ,K r τ->K' r τ\/∃k ob o n,τ[k]?=some ob/\r= .ret (.vec k o n)/\K' (.ret (.vec τ.length o n)) (τ.set k .dead++[ob]))(hp:∀c τ,K (.pan c) τ->K' (.pan c) τ):b8 C f args σ K':=by
 intro M w vs hr hs ha;refine(h M w vs hr hs ha).mono λr w' hh=>?_;cases r with
 |returned v=>
  obtain⟨c,ae,M',h1,h2,h3,h4⟩:=hh
  rcases hk _ _ h4 with h5|⟨k,ob,o,n,e1,e2,h5⟩
  .exact ⟨c,ae,M',h1,h2,h3,h5⟩
  .injection e2 with e2
   subst e2;cases h3 with
   |vec g1 g2 g3 g4=>
    obtain⟨h6,h7⟩:=h2.shift e1 g1;exact⟨_,_,_,h1.trans h7,h6,.vec (by rw[<- h2.len];simp) g2 g3 g4,h5⟩
 |panicked ch=>
  obtain⟨c,Jj,ae,M',h0,h1,h2,h3,h4⟩:=hh;exact⟨c,Jj,ae,M',h0,h1,h2,h3,hp _ _ h4⟩
 |outgrown=>exact hh
theorem Rel.recell{t0:Option TypeId}{ay:List CV}(hr:Rel C M σ w)(hq:σ[q]?=some (.boxT t0 cells))(hl:ay.length=cells.length)
 (hc:∀(i:Nat) (c c':CV),cells[i]?=some c->ay[i]?=some c'->c'.one=c.one/\∀v,RV M w c v->RV M w c' v):Rel C M (σ.set q (.boxT t0 ay)) w:=by
 have ai:q<σ.length:=(n_2.1 hq).1;have key:∀(i:Nat) (x:b9),(σ.set q (.boxT t0 ay))[i]?=some x->(i=q/\x= .boxT t0 ay)\/(i≠q/\σ[i]?=some x):=λi x h=>by
  rw[a9P]at h;split at h
  .rename_i e;subst e;injection h with h
   exact .inl ⟨G,h.symm⟩
  .rename_i e;exact .inr ⟨λe'=>e e'.symm,h⟩
 have old:∀(i:Nat) (x:b9),(σ.set q (.boxT t0 ay))[i]?=some x->x.live=true->∃y,σ[i]?=some y/\y.live=true:=λi x h hl=>by
  rcases key i x h with⟨rfl,_⟩|⟨_,h'⟩
  .exact ⟨_,hq,G⟩
  .exact ⟨_,h',hl⟩
 have get:∀(i:Nat) (c':CV),ay[i]?=some c'->∃c,cells[i]?=some c:=λi c' h=>⟨cells[i]'(by have:=(n_2.1 h).1;omega),Q⟩;refine⟨by simp[hr.len],hr.blk,λi p x hp hx=>?_,λi i' p p' x x' hp aI hx aD hv gI hb=>?_,hr.glob,hr.kep,λi p x hp hx hv=>?_⟩
 .rcases key i x hx with⟨rfl,rfl⟩|⟨_,h'⟩
  .obtain ⟨⟨arr,ty,h1,h2,h3,h4⟩,h5⟩:=hr.obj i p _ hp hq;refine⟨⟨arr,ty,h1,J,λc' bA=>?_,λj c' hj=>?_⟩,h5⟩
   .obtain ⟨j,hj⟩:=J6.1 bA;obtain⟨c,hcj⟩:=get j c' hj;rw[(hc j c c' hcj hj).1];exact h3 c (n_3 hcj)
   .obtain ⟨c,hcj⟩:=get j c' hj;exact(hc j c c' hcj hj).2 _ (h4 j c hcj)
  .exact hr.obj i p x hp h'
 .obtain ⟨y,g1,g2⟩:=old i x hx hv;obtain⟨y',gr,gQ⟩:=old i' x' aD gI;exact hr.inj i i' p p' y y' hp aI g1 gr g2 gQ hb
 .obtain ⟨y,g1,g2⟩:=old i x hx hv;exact hr.nk i p y hp g1 g2
theorem b5q(h:b8 C f args σ K)(hk:∀r τ,K r τ->K' r τ\/∃v k q ob cells ay,r= .ret (.val v)/\τ[k]?=some ob/\q≠k/\τ[q]?=some (.boxT none cells)/\ay.length=cells.length/\(∀(i:Nat) (c c':CV),cells[i]?=some c->ay[i]?=some c'->ShV k τ.length c c')/\K' r ((τ.set k .dead++[ob]).set q (.boxT none ay)))(hp:∀c τ,K (.pan c) τ->K' (.pan c) τ):b8 C f args σ K':=by
 intro M w vs hr hs ha;refine(h M w vs hr hs ha).mono λr w' hh=>?_;cases r with
 |returned v=>
  obtain⟨c,ae,M',h1,h2,h3,h4⟩:=hh
  rcases hk _ _ h4 with h5|⟨Jj,k,q,ob,cells,ay,e0,e1,iK,e2,e3,e4,h5⟩
  .exact ⟨c,ae,M',h1,h2,h3,h5⟩
  .injection e0 with e0
   subst e0;obtain⟨p,aI⟩:∃p,M'.pl[k]?=some p:=⟨M'.pl[k]'(by rw[h2.len];exact(n_2.1 e1).1),Q⟩;obtain⟨h6,h7⟩:=h2.shift e1 aI;have bE:(ae.set k .dead++[ob])[q]?=some (.boxT none cells):=by
    have ai:q<ae.length:=(n_2.1 e2).1;rw[T6 (U ai),a1c (Ne.symm iK)];exact e2
   have bn:(M'.pl++[p])[k]?=some p:=by rw[T6 (n_2.1 aI).1];exact aI
   have bh:(M'.pl++[p])[ae.length]?=some p:=by rw[<- h2.len];simp
   refine⟨_,_,_,h1.trans h7,h6.recell bE e3 (λi c c' g1 g2=>?_),?_,h5⟩
   .rcases e4 i c c' g1 g2 with rfl|⟨o,n,rfl,rfl⟩|⟨l,nn,rfl,rfl⟩
    .exact ⟨G,λv hv=>hv⟩
    .refine ⟨G,λv hv=>?_⟩;cases hv with
     |vec u1 u2 u3 u4=>
      have eC:(M'.pl++[p])[k]?=some _:=u1;rw[bn]at eC;injection eC with eC;subst eC
      exact .vec (p:=p) bh u2 u3 u4
    .refine ⟨G,λv hv=>?_⟩;cases hv with
     |list x g1 g2 g3 g4 g5 g6 g7 g8 g9 g10=>
      refine .list x g1 g2 g3 g4 g5 g6 g7 g8 g9 λj hj=>?_;injection hj with hj;subst hj
      obtain⟨c0,u1,u2,u3,u4⟩:=g10 k G;have eC:(M'.pl++[p])[k]?=some _:=u1;rw[bn]at eC;injection eC with eC;subst eC
      exact⟨c0,bh,u2,u3,u4⟩
   .cases h3;exact .val _
 |panicked ch=>
  obtain⟨c,Jj,ae,M',h0,h1,h2,h3,h4⟩:=hh;exact⟨c,Jj,ae,M',h0,h1,h2,h3,hp _ _ h4⟩
 |outgrown=>exact hh
theorem Rel.moveB(hr:Rel C M σ w){ay:List CV}(hk:σ[k]?=some ob)(iK:q≠k)(hq:σ[q]?=some (.boxT none cells))(hl:ay.length=cells.length)(hc:∀(i:Nat) (c c':CV),cells[i]?=some c->ay[i]?=some c'->ShV k σ.length c c'):
 ∃M',Ext M w M' w/\Rel C M' ((σ.set k .dead++[ob]).set q (.boxT none ay)) w:=by
 obtain⟨p,aI⟩:∃p,M.pl[k]?=some p:=⟨M.pl[k]'(by rw[hr.len];exact(n_2.1 hk).1),Q⟩;obtain⟨h6,h7⟩:=hr.shift hk aI;have bE:(σ.set k .dead++[ob])[q]?=some (.boxT none cells):=by
  have ai:q<σ.length:=(n_2.1 hq).1;rw[T6 (U ai),a1c (Ne.symm iK)];exact hq
 have bn:(M.pl++[p])[k]?=some p:=by rw[T6 (n_2.1 aI).1];exact aI
 have bh:(M.pl++[p])[σ.length]?=some p:=by rw[<- hr.len];simp
 refine⟨_,h7,h6.recell bE hl (λi c c' g1 g2=>?_)⟩
 rcases hc i c c' g1 g2 with rfl|⟨o,n,rfl,rfl⟩|⟨l,nn,rfl,rfl⟩
 .exact ⟨G,λv hv=>hv⟩
 .refine ⟨G,λv hv=>?_⟩;cases hv with
  |vec u1 u2 u3 u4=>
   have eC:(M.pl++[p])[k]?=some _:=u1;rw[bn]at eC;injection eC with eC;subst eC
   exact .vec (p:=p) bh u2 u3 u4
 .refine ⟨G,λv hv=>?_⟩;cases hv with
  |list x g1 g2 g3 g4 g5 g6 g7 g8 g9 g10=>
   refine .list x g1 g2 g3 g4 g5 g6 g7 g8 g9 λj hj=>?_;injection hj with hj;subst hj
   obtain⟨c0,u1,u2,u3,u4⟩:=g10 k G;have eC:(M.pl++[p])[k]?=some _:=u1;rw[bn]at eC;injection eC with eC;subst eC
   exact⟨c0,bh,u2,u3,u4⟩
theorem b25{E:Env}(hC:C.plain)(L:Nat)(hL:Nat.beq L σ.length=true)(k q:Nat)(ay:List CV)(hk:σ[k]?=some ob)(iK:Nat.beq q k=false)(hq:σ[q]?=some (.boxT none cells))(hl:ay.length=cells.length)
 (hc:∀(i:Nat) (c c':CV),cells[i]?=some c->ay[i]?=some c'->ShV k L c c')(l:α->List (Nat×CV))(S:α->List b9)(Je:α->Prop)(m:α->Nat)(h0:a3Z L l S Je E ((σ.set k .dead++[ob]).set q (.boxT none ay)))
 (round:∀(a:α),Je a->CWp C n c (A7.next (a3Z L l S λa'=>m a'<m a/\Je a') Ji) (Env.only (l a)) (S a)):CWp C n (.loop c) Ji E σ:=λM w a hr hf=>by
 intro b k0 cs;have hL:=a2l hL;have key:∀d (x:α) M1 w1 a1,m x=d->Je x->Ext M w M1 w1->Rel C M1 (S x) w1->G4 M1 w1 n (Env.only (l x)) a1 ->
  ∃e a' w',O6 C n Ji M w e a' w'/\Arrives C.P (lone (b.at a1 (.code c::.inLoop c::k0)) cs w1) b k0 cs e a' w':=by
  intro d
  induction d using Nat.strongRecOn with
  |_ d ih=>
   intro x M1 w1 a1 hd hI hx aR cI;obtain⟨e,a2,w2,hq,aA⟩:=round x hI M1 w1 a1 aR cI b (.inLoop c::k0) cs;obtain⟨E',ae,M',h1,h2,h3,h4⟩:=hq;cases e with
   |normal=>
    obtain⟨x',am,⟨ai,gK⟩,⟨g1,g2⟩,hE',hS⟩:=h4;have aD:=hx.trans h1;have df:L<=M'.pl.length:=by
     obtain⟨l,hl⟩:=aD.pl;rw[hl];simp;rw[hr.len,hL];omega
    obtain⟨co,cp,cq,bv,aM⟩:=ih (m x') J x' _ w2 a2 G gK (aD.ren g1 a8T) (h2.ren hC g1 g2 df hS) (h3.onlyR g1 df hE');exact⟨co,cp,cq,bv,.of_steps (Steps.trans aA (.one step_inLoop)) aM⟩
   |outgrown=>exact h4.elim
   |_=>exact⟨_,a2,w2,⟨E',ae,M',hx.trans h1,h2,h3,h4⟩,.pass (x:=.inLoop c) G (λ_ _=>.inl Q) aA⟩
 obtain⟨x,am,hP,⟨g1,g2⟩,hE,hS⟩:=h0;obtain⟨M1,h2,h1⟩:=hr.moveB hk (n_5 iK) hq hl (hL▸hc);have df:L<=M1.pl.length:=by obtain⟨l,hl⟩:=h2.pl;rw[hl,n_9,hr.len,hL];omega
 obtain⟨e,a',w',hq,aA⟩:=key _ x _ w a G hP (h2.ren g1 a8T) (h1.ren hC g1 g2 df hS) ((hf.mono h2).onlyR g1 df hE);exact⟨e,a',w',hq,.of_steps (.one step_loop) aA⟩
section
variable{E:Env}
theorem b8z{ti:TypeInfo}(ho:o.op = .call {callee:=.builtin .append,args:=#[x,y],argTypes:=#[t,t]})(hx:E.valid x)(hy:E.valid y)(ex:E.val C x= .vec k off len)
 (aO:∀M w v,Rel C M σ w->RV M w (E.val C y) v->Src C M w new s v)(hu:∀w,(underlying t).run C.P w= .ok (.slice e) w)(hs:∀w,(sizeOf e).run C.P w= .ok s w)(cg:∀w,(typeInfo e).run C.P w= .ok ti w)(hz:∀w,(zeroValue e).run C.P w= .ok z w)(bp:z.cells.size=s)
 (aJ:σ[k]?=some (.vec s aa))(hln:off+len=aa.length)(bl:new≠[])(hb:(len+new.length)*ti.bytes<=140737488355328)(aN:len+new.length<=9223372036854775807)
 (hk:∀j,j=0\/j=off->K (.ret (.vec σ.length (off-j) (len+new.length))) (σ.set k .dead++[.vec s (aa.drop j++new)])):C5 C σ E o K:=λM w ρ hr hh=>by
 have h1:=hh x J9 hx;have h2:=hh y J9 hy;rw[ex]at h1;have hnl:0<new.length:=a8E.2 bl;have ao:=(aO M w _ hr h2).lenOf;have bm:(execOp ρ o).run C.P w=((Builtin.append_ #[t,t] o.type #[ρ x,ρ y]).run C.P w).andThen λv w=>.ok (.value v) w:=by
  simp[execOp,ho,resolve,invoke,builtin]
 generalize hv:ρ x=v at h1;cases h1 with
 |vec hp g1 g2 g3=>
  rename_i p a;have dI:=(hr.obj k p _ hp aJ).1;have bH:aa.length<=p.cap:=dI.2.1;have cE:p.size=s:=dI.1;subst cE;by_cases cj:len+new.length<=p.cap -off
  .obtain ⟨an,cn,hvn,_,bR,arr,cu,aV,bf⟩:=aO M w _ hr h2;obtain⟨w',aG,aD,bB⟩:=a3t hr hp aJ (p:=off+len) (new:=new) J J bR aV bf;have ha:=g3 J;have bY:=Y3 (P:=C.P) (ty:=o.type) (b:=p.block) (off:=off*p.size) (n:=len) (m:=new.length) (c:=p.cap -off) hu (.inl hu) hs ao cu cj (by rw[<- P9];exact aG);rw[<- ha]at bY;rw[bm,hv,bY];simp only[Result.andThen_ok];have aj:G9 aa (off+len) new=aa++new:=by rw[hln];simp[G9]
   rw[aj]at bB;have bi:k<σ.length:=(n_2.1 aJ).1;have bK:(σ.set k (.vec p.size (aa++new)))[k]?=some (.vec p.size (aa++new)):=by rw[b2E bi]
   obtain⟨bk,aK⟩:=bB.shift bK hp;rw[List.set_set]at bk;have hk3:=hk 0 (.inl G);rw[b40,Nat.sub_zero]at hk3;refine⟨_,_,_,aD.trans aK,bk,?_,hk3⟩;exact RV.vec (p:=p) (a:=a) (by simp[<- hr.len]) J g2 g3
  .obtain ⟨dq,fZ⟩:=hr.drewN;have dP:RV M w.drew (.vec k off len) (.slice (some a) len (p.cap -off)):=.vec hp g1 g2 g3;have db:=a3E dq dP aJ (b7T hln);have fm:(aa.drop off).length=len:=by simp;omega
   rw[a2p (b7T fm)]at db;obtain⟨a1,c1,dO,_,aX,old,hfo,cy,dw⟩:=db;obtain⟨an,cn,hvn,_,bR,arr,cu,aV,bf⟩:=aO M w.drew _ dq (a3v h2);rw[fm]at hfo cy;obtain⟨c',cK,fj,az⟩:=Q1 (P:=C.P) (ty:=o.type) (a:=some a) (c:=p.cap -off) (w:=w) hu (.inl hu) hs cg hz ao hfo cu J aN hb;rw[bm,hv,az];simp only[Result.andThen_ok];have eO:w.drew.heap.size=w.heap.size:=G;rw[<- eO];have hrk:=dq.dead k;have dd:(old++arr++Builtin.zeroCells z.cells (c'- (len+new.length))).size=c'*p.size:=by
    simp only[b3Z,O9,cy,aV,bp];rw[<- P9,<- P9]
    congr 1;omega
   have aK:=Ext.alloc hrk ⟨w.drew.heap.size,c',p.size⟩ (.cells (old++arr++Builtin.zeroCells z.cells (c'- (len+new.length))) e);have bT:∀r∈aa.drop off++new,r.length=p.size:=λr hr=>by
    rcases Q9.1 hr with h|h
    .exact aX r h
    .exact bR r h
   have ax:=a1j (rest:=Builtin.zeroCells z.cells (c'- (len+new.length))) (by rw[fm];exact cy) aV aX bR (λi j r c hi hj=>(dw i j r c hi hj).1) (λi j r c hi hj=>(bf i j r c hi hj).1);have bk:=hrk.alloc ⟨w.drew.heap.size,c',p.size⟩ (.cells (old++arr++Builtin.zeroCells z.cells (c'- (len+new.length))) e) (.vec p.size (aa.drop off++new)) G
    ⟨G,by rw[n_9,fm];exact cK,by unfold maxLen;simp only;omega,bT,λr hr c hc=>(by
     rcases Q9.1 hr with h|h
     .obtain ⟨i,hi⟩:=J6.1 h;obtain⟨j,hj⟩:=J6.1 hc;exact(dw i j r c hi hj).2
     .obtain ⟨i,hi⟩:=J6.1 h;obtain⟨j,hj⟩:=J6.1 hc;exact(bf i j r c hi hj).2),_,e,x8 _ _,dd,λi j r c hi hj=>((ax i j r c hi hj).2.mono aK)⟩
   have hk3:=hk off (.inr G);rw[Nat.sub_self]at hk3;refine⟨.vec σ.length 0 (len+new.length),_,_,fZ.trans aK,bk,?_,hk3⟩;exact RV.vec (M:=M.add ⟨w.drew.heap.size,c',p.size⟩) (k:=σ.length) (off:=0) (len:=len+new.length) (p:=⟨w.drew.heap.size,c',p.size⟩) (a:=⟨w.drew.heap.size,0,none⟩) a7i (U cK) b8k (λ_=>by simp)
def vcO(aa:List (List CV))(q:Nat):CV:=match aa with
 | []=>.list [] false none
 |_::_=>.vec q 0 aa.length
def obO(s:Nat)(aa:List (List CV)):b9:=match aa with
 | []=>.dead
 |_::_=>.vec s aa
theorem b4r(h:aa≠[])(q:Nat):vcO aa q= .vec q 0 aa.length:=by cases aa;exact absurd G h;rfl
theorem c1v(h:aa≠[])(s:Nat):obO s aa= .vec s aa:=by cases aa;exact absurd G h;rfl
theorem a0w{l:List α}{x:α}(h:l[q]?=some x):l.set q x=l:=by
 obtain⟨h1,rfl⟩:=n_2.1 h;exact List.set_getElem_self h1
theorem d0f{ti:TypeInfo}(rows':List (List CV))(ho:o.op = .call {callee:=.builtin .append,args:=#[x,y],argTypes:=#[t,t]})(hx:E.valid x)(hy:E.valid y)(ex:E.val C x=vcO aa q)
 (aO:∀M w v,Rel C M σ w->RV M w (E.val C y) v->Src C M w new s v)(hu:∀w,(underlying t).run C.P w= .ok (.slice e) w)(hs:∀w,(sizeOf e).run C.P w= .ok s w)(cg:∀w,(typeInfo e).run C.P w= .ok ti w)(hz:∀w,(zeroValue e).run C.P w= .ok z w)(bp:z.cells.size=s)
 (aJ:σ[q]?=some (obO s aa))(bl:new≠[])(hb:(aa.length+new.length)*ti.bytes<=140737488355328)(aN:aa.length+new.length<=9223372036854775807)(he:aa++new=rows')
 (hk:K (.ret (vcO rows' σ.length)) (σ.set q .dead++[obO s rows'])):C5 C σ E o K:=by
 subst he;have aB:aa++new≠[]:=by simp[bl]
 rw[b4r aB,c1v aB]at hk;cases aa with
 |nil=>
  refine b0a new.length ho hx hy ex aO hu hs cg hz bp (a8E.2 bl) (U hb) (U aN) G ?_;rw[show(([]:List (List CV))++new)=new from G,a0w (show σ[q]?=some .dead from aJ)]at hk;exact hk
 |cons r aa=>
  refine b0k ho hx hy ex aO hu hs cg hz bp aJ bl hb aN ?_;rw[n_9]at hk;exact hk
end
def Mv(C:Ctx)(σ ae:List b9):Prop:=∀M w,Rel C M σ w->∃M',Ext M w M' w/\Rel C M' ae w
theorem Mv.refl(σ:List b9):Mv C σ σ:=λM w hr=>⟨M,Ext.refl M w,hr⟩
theorem Mv.trans{ae bu:List b9}(h:Mv C σ ae)(k:Mv C ae bu):Mv C σ bu:=λM w hr=>by
 obtain⟨M1,h1,h2⟩:=h M w hr;obtain⟨M2,h3,h4⟩:=k M1 w h2;exact⟨M2,h1.trans h3,h4⟩
theorem Mv.box(k q:Nat)(ay:List CV){ae:List b9}(hk:σ[k]?=some ob)(iK:q≠k)(hq:σ[q]?=some (.boxT none cells))(hl:ay.length=cells.length)(hc:∀(i:Nat) (c c':CV),cells[i]?=some c->ay[i]?=some c'->ShV k σ.length c c')(he:(σ.set k .dead++[ob]).set q (.boxT none ay)=ae):Mv C σ ae:=λM w hr=>by
 subst he;obtain⟨M1,h1,h2⟩:=hr.moveB hk iK hq hl hc;exact⟨M1,h1,h2⟩
theorem a5c{E:Env}{σ1:List b9}(hC:C.plain)(L:Nat)(hL:Nat.beq L σ.length=true)(hm:Mv C σ σ1)(l:α->List (Nat×CV))(S:α->List b9)(Je:α->Prop)(m:α->Nat)(h0:a3Z L l S Je E σ1)
 (round:∀(a:α),Je a->CWp C n c (A7.next (a3Z L l S λa'=>m a'<m a/\Je a') Ji) (Env.only (l a)) (S a)):CWp C n (.loop c) Ji E σ:=λM w a hr hf=>by
 intro b k0 cs;have hL:=a2l hL;have key:∀d (x:α) M1 w1 a1,m x=d->Je x->Ext M w M1 w1->Rel C M1 (S x) w1->G4 M1 w1 n (Env.only (l x)) a1 ->
  ∃e a' w',O6 C n Ji M w e a' w'/\Arrives C.P (lone (b.at a1 (.code c::.inLoop c::k0)) cs w1) b k0 cs e a' w':=by
  intro d
  induction d using Nat.strongRecOn with
  |_ d ih=>
   intro x M1 w1 a1 hd hI hx aR cI;obtain⟨e,a2,w2,hq,aA⟩:=round x hI M1 w1 a1 aR cI b (.inLoop c::k0) cs;obtain⟨E',ae,M',h1,h2,h3,h4⟩:=hq;cases e with
   |normal=>
    obtain⟨x',am,⟨ai,gK⟩,⟨g1,g2⟩,hE',hS⟩:=h4;have aD:=hx.trans h1;have df:L<=M'.pl.length:=by
     obtain⟨l,hl⟩:=aD.pl;rw[hl];simp;rw[hr.len,hL];omega
    obtain⟨co,cp,cq,bv,aM⟩:=ih (m x') J x' _ w2 a2 G gK (aD.ren g1 a8T) (h2.ren hC g1 g2 df hS) (h3.onlyR g1 df hE');exact⟨co,cp,cq,bv,.of_steps (Steps.trans aA (.one step_inLoop)) aM⟩
   |outgrown=>exact h4.elim
   |_=>exact⟨_,a2,w2,⟨E',ae,M',hx.trans h1,h2,h3,h4⟩,.pass (x:=.inLoop c) G (λ_ _=>.inl Q) aA⟩
 obtain⟨x,am,hP,⟨g1,g2⟩,hE,hS⟩:=h0;obtain⟨M1,h2,h1⟩:=hm M w hr;have df:L<=M1.pl.length:=by obtain⟨l,hl⟩:=h2.pl;rw[hl,n_9,hr.len,hL];omega
 obtain⟨e,a',w',hq,aA⟩:=key _ x _ w a G hP (h2.ren g1 a8T) (h1.ren hC g1 g2 df hS) ((hf.mono h2).onlyR g1 df hE);exact⟨e,a',w',hq,.of_steps (.one step_loop) aA⟩
theorem a1g{L j:Nat}{am:List Nat}(l:List (List CV))(h:am[j]?=some k):B5 L am (vcO l k) (vcO l j):=by
 cases l with
 |nil=>exact .old (o8.list λr hr=>by cases hr).old
 |cons x l=>exact .vec h
theorem b4C{l:List (List CV)}(h:∀r∈l,∀c∈r,o8 c):G1 n (obO s l):=by
 cases l with
 |nil=>exact O
 |cons x l=>exact λr hr c hc=>(h r hr c hc).old
theorem d3V{l:List (List CV)}(hp:∀r∈l,∀c∈r,o8 c)(hk:n<=k)(hs:σ[k]?=some (obO s l)):Cls n σ (vcO l k) (.list l (gnn l.length) none):=by
 cases l with
 |nil=>exact .old (o8.list λr hr=>by cases hr).old
 |cons x l=>exact .vecs hk hs Q Q hp
section
variable{E:Env}
theorem a5l{gY len2:Nat}(ho:o.op = .call {callee:=.builtin .copy,args:=#[x,y],argTypes:=#[t,t']})(hx:E.valid x)(hy:E.valid y)(ex:E.val C x= .vec k off len)(ey:E.val C y= .vec k gY len2)
 (hu:∀w,(underlying t).run C.P w= .ok (.slice e) w)(hs:∀w,(sizeOf e).run C.P w= .ok s w)(aJ:σ[k]?=some (.vec s aa))(aT:len<=len2)(hl:off+len<=aa.length)(dE:gY+len<=aa.length)
 (hk:K (.ret (.val (.int .i64 len))) (σ.set k (.vec s (G9 aa off ((aa.drop gY).take len))))):C5 C σ E o K:=λM w ρ hr hh=>by
 have h1:=hh x J9 hx;have h2:=hh y J9 hy;rw[ex]at h1;rw[ey]at h2;generalize hv:ρ x=v at h1;generalize cL:ρ y=v2 at h2;have hnl:((aa.drop gY).take len).length=len:=by simp;omega
 cases h1 with
 |vec hp g1 g2 g3=>
  rename_i p a;cases h2 with
  |vec cw i1 i2 i3=>
   rename_i p2 a2;obtain rfl:=Option.some.inj (hp.symm.trans cw);have iA:=a3E (len:=len) hr (.vec (w:=w) cw J i2 i3) aJ dE;obtain⟨an,cn,hvn,_,bR,arr,cu,aV,bf⟩:=iA;have dI:=(hr.obj k p _ hp aJ).1;have bH:aa.length<=p.cap:=dI.2.1;have cE:p.size=s:=dI.1;obtain⟨w',aG,aD,bB⟩:=a3t hr hp aJ (p:=off) (new:=(aa.drop gY).take len) J J bR aV bf;have eS:Nat.min len2 len=len:=Nat.min_eq_right aT;rw[hnl]at cu;have hfn2:(Builtin.firstCells s len (.slice (some a2) len2 (p.cap -gY))).run C.P w= .ok arr w:=by
    simpa[Builtin.firstCells]using cu
   have hst':(storeCells a arr.toList).run C.P w= .ok () w':=by
    rcases b9x len with h0|h0
    .have fY:arr.toList=[]:=c1t (by rw[hnl]at aV;simp[aV,h0]);rw[fY]at aG⊢;exact aG
    .rw [g3 J,cE];exact aG
   have az:(execOp ρ o).run C.P w= .ok (.value (.int .i64 len)) w':=by
    simp[execOp,ho,resolve,invoke,builtin,Builtin.copy_,hu,hs,hv,cL,Builtin.lenOf,eS,hfn2,hst',goInt]
   rw[az];exact⟨_,_,M,aD,bB,.val _,hk⟩
end
def fen(ro:Option Nat):Fence:={Fence.wide with round:=ro}
def ndB(o:Oper):Bool:=match o.op with
 | .defer _=>false
 |_=>true
theorem d9n(h:ndB o=true)(c:Call):o.op≠.defer c:=λe=>by
 unfold ndB at h;rw[e]at h;cases h
theorem e2m{ro:Option Nat}{P:Program}{next eD:Act->World->Prop}{Ji Q':Exit->Act->World->Prop}(hd:ndB o=true)(hn:∀a w,next a w->eD a w)(hq:∀ch w,Ji (.panic ch) a w->Q' (.panic ch) a w)(bq:¬LetsOut Ji)(h:o.wp P a w next Ji):o.wpIn (fen ro) 0 P a w eD Q':=by
 refine⟨λ_ _=>trivial,?_⟩;rw[Oper.semAt_eq _ _ _ (d9n hd)];unfold Oper.wp at h;generalize (execOp a.eval o).run P w=r at h;have nod:∀{p:Prop},(fen ro).depth.isSome=true->p:=λh=>by cases h
 cases r with
 |ok x w3=>
  cases x<;>simp only[Oper.upon]at h<;>simp only[Oper.uponIn]
  case value v=>exact hn _ _ h
  case skip=>exact hn _ _ h
  case defer d=>exact hn _ _ h
  case enter f args=>
   refine⟨nod,(callsIn_wide (n:=0)).2 (h.mono λe w4 he=>?_)⟩;cases e with
   |returned v=>exact hn _ _ he
   |panicked ch=>exact hq _ _ he
   |outgrown=>exact absurd he bq
  case row r args=>
   refine⟨nod,λc cs _=>?_⟩;obtain⟨v,w',r,s⟩:=h c cs;exact⟨v,w',hn _ _ r,stepsIn_wide.2 s⟩
 |halt x w3=>
  cases x<;>simp only[Oper.upon]at h<;>simp only[Oper.uponIn]
  exact hq _ _ h
theorem a69{ro:Option Nat}{P:Program}{af:Array Oper}{rest:List Oper}{Ji Q':Exit->Act->World->Prop}(hn:∀a w,Ji .normal a w->wpListIn (fen ro) 0 P af Q' rest a w)(hq:∀a ch w,Ji (.panic ch) a w->Q' (.panic ch) a w)(bq:¬LetsOut Ji):∀(l:List Oper),l.all ndB=true->∀(a:Act) (w:World),wpList P af Ji l a w->wpListIn (fen ro) 0 P af Q' (l++rest) a w
 | [],_,a,w,h=>hn a w h
 |o::l,hd,a,w,h=>by
  rw[b3W,R9]at hd;unfold wpList at h;show wpListIn (fen ro) 0 P af Q' (o::(l++rest)) a w;unfold wpListIn
  split
  .rename_i hw;rw[W hw]at h
   rcases h with h|⟨_,h⟩
   .exact e2m hd.1 (a69 hn hq bq l hd.2) (hq a) bq h
   .exact absurd h bq
  .rename_i hw;rw[H hw]at h;exact⟨λ_ _=>trivial,a69 hn hq bq l hd.2 _ _ h⟩
theorem b4u:¬LetsOut (O6 C n Ji M w):=λ⟨_,_,h⟩=>by
 obtain⟨_,_,_,_,_,_,h⟩:=h;exact h
def a6t(C:Ctx)(n:Nat)(c:Code)(Ji:A7->Env->List b9->Prop)(E:Env)(σ:List b9):Prop:=
 ∀(ro:Option Nat) (M:A5) (w:World) (a:Act),Rel C M σ w->G4 M w n E a->c.wpIn (fen ro) 0 C.P (O6 C n Ji M w) a w
section
variable{E:Env}
theorem d6z{c':Code}(e:c=c')(h:a6t C n c' Ji E σ):a6t C n c Ji E σ:=e▸h
theorem d3C(h:Ji .normal E σ):a6t C n .skip Ji E σ:=λ_ M w _ hr hf=>wpIn_skip ⟨E,σ,M,Ext.refl M w,hr,hf,h⟩
theorem d3b(h:Ji (.exit id) E σ):a6t C n (.exit id) Ji E σ:=λ_ M w _ hr hf=>wpIn_exit ⟨E,σ,M,Ext.refl M w,hr,hf,h⟩
theorem c0b{x y:Code}(h:a6t C n x (A7.next (a6t C n y Ji) Ji) E σ):a6t C n (.seq x y) Ji E σ:=λro M w a hr hf=>by
 refine wpIn_seq (wpIn_mono (h ro M w a hr hf) λe a' w' hl=>?_);obtain⟨E',ae,M',h1,h2,h3,h4⟩:=hl;cases e with
 |normal=>exact wpIn_mono (h4 ro M' w' a' h2 h3) λ_ _ _=>O6.later h1
 |_=>exact⟨E',ae,M',h1,h2,h3,h4⟩
theorem d4m{c:Operand}{x y:Code}{b:Bool}(hv:E.valid c)(hc:E.val C c= .val (.bool b))(ht:b=true->a6t C n x Ji E σ)(gJ:b=false->a6t C n y Ji E σ):a6t C n (.cond c x y) Ji E σ:=λro M w a hr hf=>by
 have h1:RV M w (E.val C c) (a.eval c):=hf.eval hr hv;rw[hc]at h1;have h2:a.eval c= .bool b:=by generalize a.eval c=Jj at h1;cases h1;rfl
 exact wpIn_cond_split h2 (λh=>ht h ro M w a hr hf) (λh=>gJ h ro M w a hr hf)
theorem a5b(hd:af.toList.all ndB=true)(h:F0 C n af Ji af.toList E σ):a6t C n (.region id af false) Ji E σ:=λro M w a hr hf=>by
 refine wpIn_region_list ?_;have:=a69 (ro:=ro) (rest:=[]) (λa w h=>h) (λ_ _ _ h=>h) b4u af.toList hd a w (h M w a hr hf);rwa[a0h]at this
def a8d(C:Ctx)(k:Nat)(args:List CV)(σ:List b9)(K:L7->List b9->Prop):Prop:=
 ∀(M:A5) (w:World) (vs:Array Value) (p:Pl),Rel C M σ w->M.pl[k]?=some p->vs.size=args.length->(∀(i:Nat) (c:CV),args[i]?=some c->RV M w c (vs.getD i undef)) ->
  YieldAt Fence.wide 0 C.P p.block vs w λ
   | .returned v,w'=>a1h C M w K v w'
   | .panicked ch,w'=>R5 C M w K ch w'
   | .outgrown,_=>False
theorem a8d.mono(hd:a8d C k args σ K)(h:∀r σ,K r σ->K' r σ):a8d C k args σ K':=
 λM w vs p hr hp hn hx=>by
  obtain⟨fn,tm,a,b,h1,h2⟩:=hd M w vs p hr hp hn hx;exact⟨fn,tm,a,b,h1,h2.mono λe w' he=>by
   cases e with
   |returned v=>exact a1h.mono h he
   |panicked c=>exact R5.mono h he
   |outgrown=>exact he⟩
theorem b8f{id k:Nat}{af:Array Oper}{pre post:List Oper}{o:Oper}{y:Operand}{xs:Array Operand}{ts:Array TypeId}{cargs:List CV}(hs:af.toList=pre++o::post)(h1:pre.all ndB=true)(h2:post.all ndB=true)(hg:o.guard=none)(hd:(match o.dst with|some d=>d<n|none=>True))(ho:o.op = .call {callee:=.value y,args:=xs,argTypes:=ts})
 (h:F0 C n af (A7.next (λE' ae=>E'.valid y/\E'.val C y= .yld k/\E'.valids xs.toList/\E'.vals C xs.toList=cargs/\a8d C k cargs ae λr bu=>match r with
  | .ret c=>F0 C n af Ji post (E'.putO o.dst c .yes) bu
  | .pan c=>Ji (.pan c) E' bu) Ji) pre E σ):CWp C n (.region id af false) Ji E σ:=λM w a hr hf=>by
 refine(wpIn_wide (n:=0)).1 (wpIn_region_list ?_);rw[hs];refine a69 (ro:=none) ?_ ?_ b4u pre h1 a w (h M w a hr hf)
 case refine_2=>exact λ_ _ _ h=>h
 intro a1 w1 hl;obtain⟨E',ae,M',k1,k2,k3,hv,ey,iI,eas,hy⟩:=hl;have hfy:=k3.eval k2 hv;rw[ey]at hfy;generalize hcy:a1.eval y=fv at hfy;cases hfy with
 | @yld _ p hp=>
  have hx:∀(i:Nat) (c:CV),cargs[i]?=some c->RV M' w1 c ((xs.map a1.eval).getD i undef):=λi c hi=>by
   subst eas;rw[<- Env.vals_map,N6,M8]at hi;obtain⟨x,hx,rfl⟩:=hi;have aD:xs[i]?=some x:=U hx;have hm:x∈xs:=b4k aD;rw[a0b,c0M,aD];exact k3.eval k2 (Env.valids_mem iI x (U hm))
  obtain⟨fn,tm,asg,body,az,hround⟩:=hy M' w1 (xs.map a1.eval) p k2 hp (by subst eas;rw[<- Env.vals_map];simp) hx;have bm:(execOp a1.eval o).run C.P w1= .ok (.round p.block fn tm asg body) w1:=by
   simp[execOp,ho,resolve,hcy,Deferred.ofValue,invoke,az]
  unfold wpListIn;rw[W (by simp[Region.wanted,hg])];refine⟨λ_ _=>trivial,?_⟩;rw[Oper.semAt_eq _ _ _ (λc e=>by rw[ho]at e;cases e),bm];refine⟨λh=>(by cases h),?_⟩;refine hround.mono λe w2 he=>?_;cases e with
  |returned v=>
   obtain⟨c,bu,hZ,g1,g2,g3,g4⟩:=he;have gE:G4 hZ w2 n (E'.putO o.dst c .yes) (a1.put o.dst v):=((k3.mono g1).put (λt ht=>by rw[ht]at hd;exact hd) (λ_=>g3) λhh=>absurd trivial hh).yes;have:=a69 (ro:=none) (rest:=[]) (Q':=O6 C n Ji M w) (λa w h=>O6.later (k1.trans g1) h) (λ_ _ _ h=>O6.later (k1.trans g1) h) b4u post h2 _ w2 (g4 hZ w2 _ g2 gE);rwa[a0h]at this
  |panicked ch=>
   obtain⟨c,v,bu,hZ,g0,g1,g2,g3,g4⟩:=he;exact⟨E',bu,hZ,k1.trans g1,g2,k3.mono g1,c,v,g0,g3,g4⟩
  |outgrown=>exact he.elim
theorem b3y{M:A5}{w:World}{n:Nat}{tmps:Array Value}(hs:tmps.size=n):∀{l:List (Nat×CV)},(∀x∈l,RV M w x.2 (tmps.getD x.1 undef))->G4 M w n (Env.only l) {tmps,defers:=[]}
 | [],_=>⟨G,hs,λ_ h=>h.elim,λ_ h=>h.elim⟩
 |(t,c)::l,h=>by
  have ih:=b3y hs (l:=l) λx hx=>h x (a4a _ hx);refine⟨G,hs,λx hx=>?_,λx hx=>?_⟩
  .show RV M w (((Env.only l).putO (some t) c .yes).f x) _;have hx:((Env.only l).putO (some t) c .yes).ok x:=hx;rw[Env.putO_f];rw[Env.putO_ok]at hx
   split
   .subst x;exact h (t,c) b2h
   .rename_i aB;rw[H aB]at hx;exact ih.rv x hx
  .have hx:((Env.only l).putO (some t) c .yes).un x:=hx;rw[Env.putO_un]at hx;split at hx
   .exact absurd trivial hx
   .exact ih.un x hx
def c8G(o:Loop)(n:Nat)(cs:List (Nat×CV))(k:Nat)(K:L7->List b9->Prop)(e:A7)(σ:List b9):Prop:=
 σ[k]?=some (.lp {o with state:=.busy} n cs)/\match e with
  | .normal=>K (.ret (.val (.bool true))) (σ.set k (.lp {o with state:=.ready,pending:=none} n cs))
  | .ret=>K (.ret (.val (.bool false))) (σ.set k (.lp {o with state:=.done,pending:=some .ret} n cs))
  | .exit id=>K (.ret (.val (.bool false))) (σ.set k (.lp {o with state:=.done,pending:=some (.exit id)} n cs))
  | .goto t=>K (.ret (.val (.bool false))) (σ.set k (.lp {o with state:=.done,pending:=some (.goto t)} n cs))
  | .pan _=>False
theorem b5K(hr:Rel C M σ w){p:Pl}{o o':Loop}{cs:List (Nat×CV)}(hk:M.pl[k]?=some p)(aw:σ[k]?=some (.lp o n cs)):
 ∃tmps,w.heap[p.block]?=some (.loop {o with tmps})/\tmps.size=n/\(∀x∈cs,RV M w x.2 (tmps.getD x.1 undef))/\Ext M w M (World.putObj w p.block (.loop {o' with tmps}))/\Rel C M (σ.set k (.lp o' n cs)) (World.putObj w p.block (.loop {o' with tmps})):=by
 obtain⟨⟨tm,e1,e2,e3⟩,f1,f2⟩:=hr.obj k p _ hk aw;have hx:=Ext.putObj (w:=w) (.loop {o' with tmps:=tm}) (hr.nk k p _ hk aw rfl) f1 f2;exact⟨tm,e1,e2,e3,hx,hr.putObj hk aw G f1 f2 _ ⟨tm,World.putObj_same w _ (a06.1 e1).1,e2,λx aD=>(e3 x aD).mono hx⟩⟩
theorem c59{t:Nat}{o:Loop}{cs:List (Nat×CV)}{c:CV}(aw:σ[k]?=some (.lp o n cs))(hs:o.state = .ready)(hp:o.params = #[t])(ht:Nat.blt t n=true)
 (h:a6t C n o.assign (λe E' ae=>e= .normal/\ae[k]?=some (.lp o n cs)/\a6t C n o.body (λe _ bu=>c8G o n cs k K e bu) E' (ae.set k (.lp {o with state:=.busy} n cs))) ((Env.only cs).putO (some t) c .yes) σ):a8d C k [c] σ K:=λM w vs p hr hk aP hx=>by
 obtain⟨tm,e1,e2,e3,-,-⟩:=b5K (o':=o) hr hk aw;obtain⟨v,rfl⟩:∃v,vs= #[v]:=by
  obtain⟨l⟩:=vs
  match l,aP with
  | [v],_=>exact⟨v,G⟩
 have hv:RV M w c v:=hx 0 c G;have hf0:=b3y (n:=n) e2 e3;have cI:G4 M w n ((Env.only cs).putO (some t) c .yes) (({tmps:=tm,defers:=[]}:Act).put (some t) v):=(hf0.put (λt' gD=>by injection gD with gD;subst gD;rw[b12]at ht;exact ht) (λ_=>hv) λhh=>absurd trivial hh).yes;have hy:=run_yield (P:=C.P) (args:=#[v]) e1 (by simp[hp]);refine⟨_,_,_,_,hy,?_⟩;have etm:(({o with tmps:=tm}:Loop).params.zip #[v]).foldl (λtmps (t,a)=>tmps.setIfInBounds t a) tm=tm.setIfInBounds t v:=by
  show(o.params.zip #[v]).foldl _ tm=_;rw[hp];simp
 refine roundIn_of_wpIn trivial ?_;have hb:=h (some p.block) M w _ hr cI;refine wpIn_mono (F:=fen (some p.block)) (a:=({tmps:=_,defers:=[]}:Act)) (by rw[etm];exact hb) λe a1 w1 hl=>?_;obtain⟨E',ae,M',g1,g2,g3,g4⟩:=hl;cases e with
 |normal=>
  obtain⟨-,hσ',hbody⟩:=g4;have aJ:=g1.get hk;obtain⟨tm1,q1,q2,q3,q4,q5⟩:=b5K (o':={o with state:=.busy}) g2 aJ hσ';refine⟨_,run_beginRound q1 hs,?_⟩;refine wpIn_mono (hbody (some p.block) M' _ a1 q5 (g3.mono q4)) λe a2 w2 hl=>?_;obtain⟨E'',bu,hZ,k1,k2,k3,k4⟩:=hl;have hk'':=k1.get aJ;have gA:∀(jump:Option Code) (b:Bool),jump.isNone=b->bu[k]?=some (.lp {o with state:=.busy} n cs)->K (.ret (.val (.bool b))) (bu.set k (.lp {o with state:=if jump.isNone then .ready else .done,pending:=jump} n cs)) ->
   ∃v w',(Instr.endRound p.block jump).run C.P w2= .ok v w'/\a1h C M w K v w':=λjump b hjb hs'' hk3=>by
   obtain⟨tm2,r1,r2,r3,r4,r5⟩:=b5K (o':={o with state:=if jump.isNone then .ready else .done,pending:=jump}) k2 hk'' hs'';refine⟨_,_,run_endRound jump r1,?_⟩;rw[hjb]at*;exact⟨_,_,hZ,((g1.trans q4).trans k1).trans r4,r5,.val _,hk3⟩
  cases e with
  |normal=>exact gA none true G k4.1 k4.2
  |ret=>exact gA (some .ret) false G k4.1 k4.2
  |exit id=>exact gA (some (.exit id)) false G k4.1 k4.2
  |goto l=>exact gA (some (.goto l)) false G k4.1 k4.2
  |panic ch=>
   obtain⟨_,_,_,_,h1,h2⟩:=k4;exact h2.elim
  |outgrown=>exact k4
 |exit id=>cases g4.1
 |goto l=>cases g4.1
 |ret=>cases g4.1
 |panic ch=>
  obtain⟨_,_,_,_,h1,h2⟩:=g4;cases h1
 |outgrown=>exact g4
theorem c9K(h:a6t C n c (A7.blk id Ji) E σ):a6t C n (.block id c) Ji E σ:=λro M w a hr hf=>by
 refine wpIn_block (wpIn_mono (h ro M w a hr hf) λe a' w' hl=>?_);obtain⟨E',ae,M',h1,h2,h3,h4⟩:=hl;cases e with
 |exit id'=>
  simp only[Exit.inBlock];simp only[A7.blk]at h4
  split<;>rename_i io
  .rw [W io]at h4;exact⟨E',ae,M',h1,h2,h3,h4⟩
  .rw [H io]at h4;exact⟨E',ae,M',h1,h2,h3,h4⟩
 |_=>exact⟨E',ae,M',h1,h2,h3,h4⟩
def b8H(p:Pl):List Deferred:=[{target:=.collected p.block,args:=#[]}]
def b57(kD:Nat)(C:Ctx)(n:Nat)(Ji:A7->Env->List b9->Prop)(M:A5)(w:World)(e:Exit)(a':Act)(w':World):Prop:=
 ∃E' ae M' p a0,M'.pl[kD]?=some p/\a'=addDs (b8H p) a0/\Ext M w M' w'/\Rel C M' ae w'/\G4 M' w' n E' a0/\match e with
  | .normal=>Ji .normal E' ae
  | .exit id=>Ji (.exit id) E' ae
  | .ret=>Ji .ret E' ae
  |_=>False
theorem b57.later{M1:A5}{w1:World}(he:Ext M w M1 w1){e:Exit}{w':World}(hl:b57 kD C n Ji M1 w1 e a w'):b57 kD C n Ji M w e a w':=by
 obtain⟨E',ae,M',p,a0,h1,h2,h3,h4⟩:=hl;exact⟨E',ae,M',p,a0,h1,h2,he.trans h3,h4⟩
def a7S(kD:Nat)(C:Ctx)(n:Nat)(c:Code)(Ji:A7->Env->List b9->Prop)(E:Env)(σ:List b9):Prop:=
 ∀(M:A5) (w:World) (a:Act),Rel C M σ w->G4 M w n E a->c.wpIn Fence.wide 0 C.P (b57 kD C n Ji M w) a w
theorem b1j{x y:Code}(h:CWp C n x (λe E σ=>e= .normal/\a7S kD C n y Ji E σ) E σ):a7S kD C n (.seq x y) Ji E σ:=λM w a hr hf=>by
 refine wpIn_seq (wpIn_mono (wpIn_wide.2 (h M w a hr hf)) λe a' w' hl=>?_);obtain⟨E',ae,M',h1,h2,h3,h4⟩:=hl;cases e with
 |normal=>exact wpIn_mono (h4.2 M' w' a' h2 h3) λ_ _ _=>b57.later h1
 |exit id=>cases h4.1
 |goto l=>cases h4.1
 |ret=>cases h4.1
 |panic ch=>
  obtain⟨_,_,_,_,h,_⟩:=h4;cases h
 |outgrown=>exact h4.elim
theorem d4g{kD:Nat}{x y:Code}(h:a7S kD C n x (λe E σ=>e= .normal/\∀ds,a4R ds C n y (λe E σ=>match e with
 | .normal=>Ji .normal E σ
 | .ret=>Ji .ret E σ
 |_=>False) E σ) E σ):a7S kD C n (.seq x y) Ji E σ:=λM w a hr hf=>by
 refine wpIn_seq (wpIn_mono (h M w a hr hf) λe a' w' hl=>?_);obtain⟨E',ae,M',p,a0,hp,rfl,h1,h2,h3,h4⟩:=hl;cases e with
 |normal=>
  refine wpIn_mono (wpIn_wide.2 (h4.2 (b8H p) M' w' a0 h2 h3)) λe a1 w1 hl=>?_;obtain⟨a2,rfl,E2,σ2,M2,k1,k2,k3,k4⟩:=hl;refine⟨E2,σ2,M2,p,a2,k1.get hp,G,h1.trans k1,k2,k3,?_⟩;cases e with
  |normal=>exact k4
  |ret=>exact k4
  |exit id=>exact k4.elim
  |goto l=>exact k4.elim
  |panic ch=>
   obtain⟨_,_,_,_,h⟩:=k4;exact h.elim
  |outgrown=>exact k4.elim
 |exit id=>cases h4.1
 |ret=>cases h4.1
 |goto l=>exact h4.elim
 |panic ch=>exact h4.elim
 |outgrown=>exact h4.elim
theorem d0n(h:a7S kD C n c (A7.blk id Ji) E σ):a7S kD C n (.block id c) Ji E σ:=λM w a hr hf=>by
 refine wpIn_block (wpIn_mono (h M w a hr hf) λe a' w' hl=>?_);obtain⟨E',ae,M',p,a0,hp,h0,h1,h2,h3,h4⟩:=hl;cases e with
 |exit id'=>
  simp only[Exit.inBlock];simp only[A7.blk]at h4
  split<;>rename_i io
  .rw [W io]at h4;exact⟨E',ae,M',p,a0,hp,h0,h1,h2,h3,h4⟩
  .rw [H io]at h4;exact⟨E',ae,M',p,a0,hp,h0,h1,h2,h3,h4⟩
 |_=>exact⟨E',ae,M',p,a0,hp,h0,h1,h2,h3,h4⟩
theorem d1O{g:Operand}{ps:Array Nat}{asg body:Code}{gf:FuncId}{caps:List CV}{cs:List (Nat×CV)}(hv:E.valid g)(eg:E.val C g= .clo gf caps)(aE:∀args w,(callFunc gf args).run C.P w= .ok (.enter gf args) w)(hcs:E.is cs)
 (h:∀o:Loop,o.state = .ready->o.pending=none->o.params=ps->o.assign=asg->o.body=body->b8 C gf (.yld (σ.length+1)::caps) (σ++[.blk (.deferred (some [])),.lp o n cs]) λr τ=>(∃c,r= .ret c)/\∃o':Loop,τ[σ.length+1]?=some (.lp o' n cs)/\o'.state≠.busy/\match o'.pending with
  |none=>Ji .normal E (τ.set (σ.length+1) (.lp {o' with state:=.exhausted} n cs))
  |some .ret=>Ji .ret E (τ.set (σ.length+1) (.lp {o' with state:=.exhausted} n cs))
  |some (.exit id)=>Ji (.exit id) E (τ.set (σ.length+1) (.lp {o' with state:=.exhausted} n cs))
  |_=>False):a7S σ.length C n (.rangeFunc g ps asg body) Ji E σ:=λM w a hr hf=>by
 have hg:=hf.eval hr hv;rw[eg]at hg;generalize hgv:a.eval g=fv at hg;cases hg with
 | @clo _ _ vs aP iI=>
 refine wpIn_rangeFunc λfn cu=>?_
 let o:Loop:={state:=.ready,pending:=none,fn,tmps:=a.tmps,params:=ps,assign:=asg,body,defers:=w.heap.size}
 have x1:=Ext.alloc hr ⟨w.heap.size,0,0⟩ (.deferred (some []));have r1:=hr.alloc ⟨w.heap.size,0,0⟩ (.deferred (some [])) (.blk (.deferred (some []))) G (x8 _ _);have x2:=Ext.alloc r1 ⟨w.heap.size+1,0,0⟩ (.loop o);have hcsr:∀{l:List (Nat×CV)},E.is l->∀x∈l,RV M w x.2 (a.tmps.getD x.1 undef):=λ{l}=>by
  induction l with
  |nil=>intro _ x hx;cases hx
  |cons y l ih=>
   obtain⟨t,c⟩:=y;intro⟨⟨g1,g2⟩,g3⟩ x hx
   rcases I0.1 hx with rfl|hx
   .exact g2▸hf.rv t g1
   .exact ih g3 x hx
 have r2:=r1.alloc ⟨w.heap.size+1,0,0⟩ (.loop o) (.lp o n cs) (by rw[b8G]) ⟨a.tmps,by
  have:=x8 (w.alloc (.deferred (some []))) (.loop o);rw[b8G]at this;exact this,hf.size,λx hx=>((hcsr hcs x hx).mono x1).mono x2⟩
 have bo:((M.add ⟨w.heap.size,0,0⟩).add ⟨w.heap.size+1,0,0⟩).pl[σ.length+1]?=some ⟨w.heap.size+1,0,0⟩:=by
  simp[A5.add,hr.len]
 have hpd:((M.add ⟨w.heap.size,0,0⟩).add ⟨w.heap.size+1,0,0⟩).pl[σ.length]?=some ⟨w.heap.size,0,0⟩:=by
  simp[A5.add,hr.len]
 have hc:=h o G G G G G ((M.add ⟨w.heap.size,0,0⟩).add ⟨w.heap.size+1,0,0⟩) ((w.alloc (.deferred (some []))).alloc (.loop o)) (#[.func (.yield (w.heap.size+1)) #[] #[]]++vs) (by rw[T5]at r2;exact r2) (by simp[aP];omega) λi c hi=>by
  rcases i with _|i
  .simp at hi;subst hi;have e0:(#[Value.func (.yield (w.heap.size+1)) #[] #[]]++vs).getD 0 undef= .func (.yield (w.heap.size+1)) #[] #[]:=by
    rw[a0b,b8Q];simp
   rw[e0];exact .yld (p:=⟨w.heap.size+1,0,0⟩) bo
  .have bd:caps[i]?=some c:=U hi;have:=((iI i c bd).mono x1).mono x2;simp only[a0b,b8Q]at this⊢;simpa using this
 refine⟨w.heap.size+1,b8H ⟨w.heap.size,0,0⟩,(w.alloc (.deferred (some []))).alloc (.loop o),{target:=.fn (.func gf) vs,args:=#[.func (.yield (w.heap.size+1)) #[] #[]]},(w.alloc (.deferred (some []))).alloc (.loop o),gf,#[.func (.yield (w.heap.size+1)) #[] #[]]++vs,(w.alloc (.deferred (some []))).alloc (.loop o),run_enterLoop_outer _ _ _ _ _,?_,?_,?_,?_,?_⟩
 .simp [resolve,hgv,Deferred.ofValue];rfl
 .exact λ_ _=>trivial
 .simp [invoke,aE]
 .exact λh=>by cases h
 .refine (callsIn_wide (n:=0)).2 (hc.mono λe w3 he=>?_);have ha:({a with defers:=b8H ⟨w.heap.size,0,0⟩++a.defers}:Act)=addDs (b8H ⟨w.heap.size,0,0⟩) a:=by simp[addDs,hf.defers]
  rw[ha];cases e with
  |returned v=>
   obtain⟨c,τ,M3,k1,k2,k3,-,o',g1,g2,g3⟩:=he;obtain⟨tm,q1,q2,q3,q4,q5⟩:=b5K (o':={o' with state:=.exhausted}) k2 (k1.get bo) g1;have hx:=((x1.trans x2).trans k1).trans q4;refine⟨o'.pending,_,run_endLoop (r:={o' with tmps:=tm}) q1 g2,?_⟩;have hf3:=hf.mono hx;have hp3:=(k1.trans q4).get hpd;generalize o'.pending=pe at g3 hx q5 hf3⊢;cases pe with
   |none=>exact⟨E,_,M3,_,a,hp3,G,hx,q5,hf3,g3⟩
   |some cd=>
    cases cd with
    |ret=>exact wpIn_ret ⟨E,_,M3,_,a,hp3,G,hx,q5,hf3,g3⟩
    |exit id=>exact wpIn_exit ⟨E,_,M3,_,a,hp3,G,hx,q5,hf3,g3⟩
    |_=>exact g3.elim
  |panicked ch=>
   obtain⟨c,v,τ,M3,h0,k1,k2,k3,⟨⟨_,h⟩,_⟩⟩:=he;cases h
  |outgrown=>exact he.elim
theorem c0s{fn:Func}(hf:C.P.funcs[f]?=some fn)(hb:fn.body=some c)(hn:Nat.ble args.length fn.ntmps=true)
 (h:a7S kD C fn.ntmps c (λe E' ae=>match e with
  | .normal | .ret=>ae[kD]?=some (.blk (.deferred (some [])))/\∃c,V1 C E' (ae.set kD (.blk (.deferred none))) fn c/\K (.ret c) (ae.set kD (.blk (.deferred none)))
  |_=>False) (Env.args args) σ):b8 C f args σ K:=λM w vs hr aP hx=>by
 refine(callsIn_wide (n:=0)).1 (callsIn_of_wp_marks hf hb trivial (wpIn_mono (h M w _ hr (a8w (nb hn) aP hx)) λe a w' hl=>?_) G);obtain⟨E',ae,M',p,a0,hp,rfl,h1,h2,h3,h4⟩:=hl;have gA:∀{c:CV},ae[kD]?=some (.blk (.deferred (some [])))->V1 C E' (ae.set kD (.blk (.deferred none))) fn c->K (.ret c) (ae.set kD (.blk (.deferred none)))->LeavesInM Fence.wide 0 C.P fn a0.tmps (λ
  | .returned v,w'=>a1h C M w K v w'
  | .panicked ch,w'=>R5 C M w K ch w'
  | .outgrown,_=>False) (addDs (b8H p) a0).defers .returning w':=λ{c} hd hc hk=>by
  have ck:(addDs (b8H p) a0).defers=b8H p:=by simp[addDs,h3.defers]
  rw[ck];obtain⟨e1,f1,f2⟩:=h2.obj kD p _ hp hd;have x1:=Ext.putObj (w:=w') (.deferred none) (h2.nk kD p _ hp hd G) f1 f2;have r1:=h2.putObj hp hd G f1 f2 (.deferred none) (ob:=.blk (.deferred none)) (World.putObj_same w' _ (a06.1 e1).1);obtain⟨v,dO,cL⟩:=hc M' _ a0 r1 λt ht=>(h3.rv t ht).mono x1;refine⟨Q,.inl ⟨_,_,G,run_takeDeferred e1,?_⟩⟩;exact⟨v,dO,c,_,M',h1.trans x1,r1,cL,hk⟩
 cases e with
 |normal=>obtain⟨hd,c,hc,hk⟩:=h4;exact gA hd hc hk
 |ret=>obtain⟨hd,c,hc,hk⟩:=h4;exact gA hd hc hk
 |exit id=>exact h4.elim
 |goto l=>exact h4.elim
 |panic ch=>exact h4.elim
 |outgrown=>exact h4.elim
end
section
variable{E:Env}{ds:List Deferred}
theorem c5H(h:a4R ds C n c (A7.blk id Ji) E σ):a4R ds C n (.block id c) Ji E σ:=λM w a hr hf=>by
 refine wp_block (wp_mono (h M w a hr hf) λe a' w' hl=>?_);obtain⟨a0,rfl,E',ae,M',h1,h2,h3,h4⟩:=hl;cases e with
 |exit id'=>
  simp only[Exit.inBlock];simp only[A7.blk]at h4
  split<;>rename_i io
  .rw [W io]at h4;exact⟨a0,G,E',ae,M',h1,h2,h3,h4⟩
  .rw [H io]at h4;exact⟨a0,G,E',ae,M',h1,h2,h3,h4⟩
 |_=>exact⟨a0,G,E',ae,M',h1,h2,h3,h4⟩
theorem c65{l:List (Nat×CV)}(hE:E.is l)(h:a4R ds C n c Ji (E.puts l) σ):a4R ds C n c Ji E σ:=λM w a hr hf=>h M w a hr (hf.puts hE)
theorem e2a{P:Program}{next eD:Act->World->Prop}{Ji Q':Exit->Act->World->Prop}(hn:∀a w,next a w->eD (addDs ds a) w)(hq:∀e a w,Ji e a w->Q' e (addDs ds a) w)(h:o.wp P a w next Ji):o.wp P (addDs ds a) w eD Q':=by
 unfold Oper.wp at h⊢;change o.upon P (addDs ds a) _ _ ((execOp a.eval o).run P w);generalize (execOp a.eval o).run P w=r at h;cases r with
 |ok x w3=>
  cases x<;>simp only[Oper.upon]at h⊢
  case value v=>rw[S7];exact hn _ _ h
  case skip=>rw[S7];exact hn _ _ h
  case defer d=>rw[a8U];exact hn _ _ h
  case enter f args=>
   refine h.mono λe w4 he=>?_;cases e with
   |returned v=>show eD ((addDs ds a).put o.dst v) w4;rw[S7];exact hn _ _ he
   |panicked ch=>exact hq _ _ _ he
   |outgrown=>obtain⟨a0,w0,h⟩:=he;exact⟨_,w0,hq _ a0 w0 h⟩
  case row r args=>exact Rows.mono h λ_ _ he=>by rw[S7];exact hn _ _ he
 |halt x w3=>
  cases x<;>simp only[Oper.upon]at h⊢
  exact hq _ _ _ h
theorem b4O{P:Program}{md:Region.Mode}{af:Array Oper}{Ji Q':Exit->Act->World->Prop}(hq:∀e a w,Ji e a w->Q' e (addDs ds a) w):∀(fuel:Nat) (gd:Array Bool) (a:Act) (w:World),wpAny P md af Ji fuel gd a w->wpAny P md af Q' fuel gd (addDs ds a) w
 |0,_,a,w,h=>⟨h.1,hq _ _ _ h.2⟩
 |fuel+1,gd,a,w,h=>by
  refine⟨λhr=>hq _ _ _ (h.1 hr),λi hi=>?_⟩;have hh:=h.2 i hi;unfold wpOp at hh⊢
  split
  .rename_i ho;rw[ho]at hh;exact b4O hq fuel _ _ _ hh
  .rename_i o ho;rw[ho]at hh;dsimp only at hh;change if Region.wanted o (yielded af a.tmps)=true then _ else _
   split
   .rename_i hw;rw[W hw]at hh;exact hh.imp (e2a (λ_ _=>b4O hq fuel _ _ _) hq) λ⟨h1,a0,w0,h2⟩=>⟨h1,_,w0,hq _ a0 w0 h2⟩
   .rename_i hw;rw[H hw]at hh;rw[S7];exact b4O hq fuel _ _ _ hh
theorem c4R(qs ms hd:List Nat){tl:List (Nat×List Nat)}(hm:C.P.follows .mixedOrders=true)(hB:b00 af qs ms hd tl=true)(ca:(af.toList.all λo=>match o.dst with|some d=>Nat.blt d n|none=>true)=true)
 (h:Y5 C σ af (λE' S=>P8 C af qs Ji S tl E' σ) hd E []):a4R ds C n (.region id af true) Ji E σ:=λM w a hr hf=>wp_region_any hm (b4O (λ_ a0 _ h=>⟨a0,G,h⟩) _ _ _ _ (b3g qs ms hd hB ca h hr hf))
theorem d0h(h:a7S kD C n c Ji E σ):a7S kD C n (.scope c) Ji E σ:=λM w a hr hf=>
 (wpIn_wide (n:=0)).2 (wp_scope_straight (wp_mono ((wpIn_wide (n:=0)).1 (h M w a hr hf)) λe a' w' hl=>by
  cases e with
  |goto l=>obtain⟨_,_,_,_,_,_,_,_,_,_,h⟩:=hl;exact h.elim
  |_=>exact hl))
theorem d4A(h:∀E0,E=E0->a7S kD C n c Ji E0 σ):a7S kD C n c Ji E σ:=h E G
theorem d4k{kD:Nat}{x y:Code}(R:Env->List b9->Prop)(h:a7S kD C n x (λe E σ=>e= .normal/\R E σ) E σ)(k:∀E σ,R E σ->∀ds,a4R ds C n y (λe E σ=>match e with
 | .normal=>Ji .normal E σ
 | .ret=>Ji .ret E σ
 |_=>False) E σ):a7S kD C n (.seq x y) Ji E σ:=
 d4g λM w a hr hf=>wpIn_mono (h M w a hr hf) λe a' w' hl=>by
  obtain⟨E',ae,M',p,a0,hp,h0,h1,h2,h3,h4⟩:=hl;refine⟨E',ae,M',p,a0,hp,h0,h1,h2,h3,?_⟩;cases e with
  |normal=>exact⟨h4.1,k _ _ h4.2⟩
  |exit id=>cases h4.1
  |ret=>cases h4.1
  |goto l=>exact h4
  |panic ch=>exact h4
  |outgrown=>exact h4
end
theorem c5f(h:b8 C f args σ K)(hk:∀r τ,K r τ->∃dQ,Mv C τ dQ/\K' r dQ):b8 C f args σ K':=λM w vs hr hs ha=>(h M w vs hr hs ha).mono λr w' hh=>by
 cases r with
 |returned v=>
  obtain⟨c,ae,M',h1,h2,h3,h4⟩:=hh;obtain⟨dQ,h5,h6⟩:=hk _ _ h4;obtain⟨M2,h7,h8⟩:=h5 M' w' h2;exact⟨c,dQ,M2,h1.trans h7,h8,h3.mono h7,h6⟩
 |panicked ch=>
  obtain⟨c,Jj,ae,M',h0,h1,h2,h3,h4⟩:=hh;obtain⟨dQ,h5,h6⟩:=hk _ _ h4;obtain⟨M2,h7,h8⟩:=h5 M' w' h2;exact⟨c,Jj,dQ,M2,h0,h1.trans h7,h8,h3.mono h7,h6⟩
 |outgrown=>exact hh
section
variable{E:Env}
theorem d9e{wv:CV}{ti:TypeInfo}(rows':Nat->List (List CV))(off':Nat->Nat)(n':Nat)(ho:o.op = .call {callee:=.builtin .append,args:=#[x,y],argTypes:=#[t,t]})(hx:E.valid x)(hy:E.valid y)(ex:E.val C x=wv)
 (aO:∀M w v,Rel C M σ w->RV M w (E.val C y) v->Src C M w new s v)(hu:∀w,(underlying t).run C.P w= .ok (.slice e) w)(hs:∀w,(sizeOf e).run C.P w= .ok s w)(cg:∀w,(typeInfo e).run C.P w= .ok ti w)(hz:∀w,(zeroValue e).run C.P w= .ok z w)(bp:z.cells.size=s)
 (aJ:(wv= .list [] false none/\aa=[]/\off=0/\len=0/\σ[k]?=some .dead)\/(wv= .vec k off len/\σ[k]?=some (.vec s aa)/\off+len=aa.length))(bl:new≠[])(hb:(len+new.length)*ti.bytes<=140737488355328)(aN:len+new.length<=9223372036854775807)
 (he:∀j,j=0\/j=off->aa.drop j++new=rows' j/\off-j=off' j)(hn:len+new.length=n')
 (hk:∀j,j=0\/j=off->K (.ret (.vec σ.length (off' j) n')) (σ.set k .dead++[.vec s (rows' j)])):C5 C σ E o K:=by
 subst hn
 rcases aJ with⟨rfl,rfl,rfl,rfl,hd⟩|⟨rfl,aw,hl⟩
 .refine b0a _ ho hx hy ex aO hu hs cg hz bp (a8E.2 bl) (U hb) (U aN) G ?_;have h:=hk 0 (.inl G);rw[<- (he 0 (.inl G)).1,<- (he 0 (.inl G)).2,a0w hd]at h;simpa using h
 .refine b8z ho hx hy ex aO hu hs cg hz bp aw hl bl hb aN λj hj=>?_;have h:=hk j hj;rwa[<- (he j hj).1,<- (he j hj).2]at h
end
section
variable{E:Env}
theorem d3p{parts:Array (Nat×Operand)}{ps:List (Nat×CV)}(ho:o.op = .buildSlice t len parts)(hv:E.valids (parts.toList.map (·.2)))
 (hu:∀w,(underlying t).run C.P w= .ok (.slice e) w)(hs:∀w,(sizeOf e).run C.P w= .ok s w)(hz:∀w,(zeroValue e).run C.P w= .ok z w)(bQ:I2 z=true)(ci:(G2 z).one=true\/∃cs,G2 z= .agg cs)(fu:(G2 z).cells.length=s)(dW:0<s)
 (ao:len*s<=2^24)(ep:parts.toList.map (λx=>(x.1,E.val C x.2))=ps)(aQ:∀x∈ps,x.2.one=true\/∃cs,x.2 = .agg cs)
 (bq:a3C (λi=>some (i*s,s)) ((List.range (len*s)).map λi=>(G2 z).cells.getD (i%s) default) ps=some aa.flatten)
 {M:A5}{w:World}{ρ:Operand->Value}(h:∀x∈o.op.operands,E.valid x->RV M w (E.val C x) (ρ x)):
 ∃r:Array Value,(execOp ρ o).run C.P w= .ok (.value (.slice (some ⟨w.heap.size,0,none⟩) len len)) (w.alloc (.cells r e))/\RV M w (.agg aa.flatten) (.agg r):=by
 have gL:RV M w (G2 z) z:=a0m bQ;obtain⟨g1,g2,g3⟩:=gL.cells ci;have bw:∀x∈parts.toList,x.2∈o.op.operands:=λx hx=>by
  rw[ho];simp only[Op.operands,List.mem_toArray,D8];exact⟨x,hx,G⟩
 have bI:=Env.valids_mem hv;obtain⟨r,aR,bk⟩:=a8g (M:=M) (w:=w) ps (parts.toList.map λx=>(x.1,ρ x.2)) ((List.range (len*s)).map λi=>(G2 z).cells.getD (i%s) default) ((Array.range (len*s)).map (z.cells[·%z.cells.size]!)) aa.flatten bq (by simp[<- ep]) (λi x y hx hy=>by
  refine⟨?_,aQ x (n_3 hx)⟩;subst ep;simp only[N6,M8]at hx hy;obtain⟨a,ha,rfl⟩:=hx;obtain⟨a',cA,rfl⟩:=hy;have:a=a':=by rw[ha]at cA;injection cA
  subst this;have hm:=n_3 ha;exact h _ (bw _ hm) (bI _ (D8.2 ⟨_,hm,G⟩))) Q (λc hc=>by
   obtain⟨i,_,rfl⟩:=D8.1 hc;have ai:i%s< (G2 z).cells.length:=by rw[fu];exact a63 _ dW
   rw[b4D,a2o ai];exact g2 _ (b26 ai)) (λi c hi=>by
   rw[N6,M8]at hi;obtain⟨i',bd,rfl⟩:=hi;have bt:=(n_2.1 bd).1;simp at bt;rw[List.getElem?_range bt]at bd;injection bd with bd
   subst bd;have ai:i%s< (G2 z).cells.length:=by rw[fu];exact a63 _ dW
   have hlt2:i%s<z.cells.size:=by rw[g1];exact ai
   have:=g3 (i%s) _ (a2o ai);have e1:(G2 z).cells.getD (i%s) default=(G2 z).cells[i%s]:=by
    rw[b4D,a2o ai];rfl
   rw[e1];have e2:((Array.range (len*s)).map (z.cells[·%z.cells.size]!)).getD i undef=z.cells.getD (i%s) undef:=by
    have bp:z.cells.size=s:=by rw[g1,fu]
    have hms:i%s<s:=a63 _ dW;simp[bt,bp,hms]
   rw[e2];exact this)
 refine⟨r,?_,bk⟩;have hl:(parts.map λx=>(x.1,ρ x.2)).toList=parts.toList.map λx=>(x.1,ρ x.2):=by simp
 simp only[execOp,ho,Instr.buildSlice,Sem.run_bind,hu,Result.andThen_ok,hs];rw[H J];simp only[hl];by_cases fY:len*s=0
 .have er:Array.range 0= #[]:=G;rw[fY,er]at aR;simp only[List.map_toArray,List.map_nil]at aR;simp[fY,er,aR,newRow]
 .simp [fY,hz,aR,newRow]
theorem c8V{l:List Oper}{o1 o2:Oper}{d1 d2:Nat}{parts:Array (Nat×Operand)}(bs:D)(ej:o1.dst=some d1)(eG:o2.dst=some d2)(ho1:o1.op = .buildSlice t len parts)(ho2:o2.op = .convert t t (.tmp d1))(dz:o1.guard=none)(cU:o2.guard=none)
 (dD:Nat.blt d1 n=true)(dE:Nat.blt d2 n=true)(hv:a3H E parts.toList)
 (hu:∀w,(underlying t).run C.P w= .ok (.slice e) w)(hs:∀w,(sizeOf e).run C.P w= .ok 1 w)(hz:∀w,(zeroValue e).run C.P w= .ok z w)(he:∀w,(underlying e).run C.P w= .ok (.int .u8) w)(bQ:I2 z=true)(ci:c55 (G2 z)=true)(fu:(G2 z).cells.length=1)
 (ao:Nat.ble (len*1) 16777216=true)(aQ:b28 (a3n C E parts.toList)=true)
 (bq:a3C (λi=>some (i*1,1)) ((List.range (len*1)).map λi=>(G2 z).cells.getD (i%1) default) (a3n C E parts.toList)=some (bs.map bcv).flatten)(cZ:bs.length=len)
 (h:F0 C n af Ji l ((E.hide (some d1)).put (some d2) (.list (bs.map bcv) true none) True) σ):F0 C n af Ji (o1::o2::l) E σ:=λM w a hr hf=>by
 have iI:E.valids (parts.toList.map (·.2)):=by
  have:=a2u hv;have key:∀l:List Operand,(∀x∈l,E.valid x)->E.valids l:=by
   intro l
   induction l with
   |nil=>intro _;trivial
   |cons x l ih=>intro h;exact⟨h x Q,ih λy hy=>h y (by simp[hy])⟩
  exact key _ λx hx=>by
   obtain⟨p,hp,rfl⟩:=D8.1 hx;exact this p hp
 have eA:len*1<=2^24:=by have:=nb ao;omega
 obtain⟨r,az,ba⟩:=d3p (o:=o1) (E:=E) (C:=C) (M:=M) (w:=w) (ρ:=a.eval) ho1 iI hu hs hz bQ (a5m ci) fu J eA (a5o _) (a8e aQ) bq (λx _ hx=>hf.eval hr hx);have hlt1:d1<n:=by simpa[b12]using dD
 have hlt2:d2<n:=by simpa[b12]using dE
 have hrl2:r.size=len:=by
  cases ba with
  |agg q1 _ _=>
   rw[q1,flat_len (bs.map bcv) (s:=1) (λr0 h0=>by
    obtain⟨b,_,rfl⟩:=D8.1 h0;rfl)]
   simp[cZ]
 unfold wpList;rw[W (by simp[Region.wanted,dz])];refine .inl ?_;unfold Oper.wp;rw[az];simp only[Oper.upon];unfold wpList;rw[W (by simp[Region.wanted,cU])];refine .inl ?_;unfold Oper.wp;have hev:(a.put o1.dst (.slice (some ⟨w.heap.size,0,none⟩) len len)).eval (.tmp d1)= .slice (some ⟨w.heap.size,0,none⟩) len len:=by
  rw[ej];simp[Act.eval,Act.put,hf.size,hlt1]
 have hsh:(w.alloc (.cells r e)).shape? w.heap.size=some (e,len):=by
  simp only[World.shape?,x8];simp[hrl2]
 have iJ:(execOp (a.put o1.dst (.slice (some ⟨w.heap.size,0,none⟩) len len)).eval o2).run C.P (w.alloc (.cells r e))= .ok (.value (.slice (some ⟨w.heap.size,0,none⟩) len len)) (w.alloc (.cells r e (len,len+1))):=by
  have hm:(markStringish ⟨w.heap.size,0,none⟩).run C.P (w.alloc (.cells r e))= .ok () (w.alloc (.cells r e (len,len+1))):=by
   have:=a6Y w r e len;simp only[markStringish,shape,freeze,Sem.run_bind];simp only[Sem.run,hsh,Result.andThen_ok];rw[this]
  simp only[execOp,ho2,hev,convert,Sem.run_bind,hu,Result.andThen_ok,he];simp[hm]
 rw[iJ];simp only[Oper.upon];obtain⟨hx,eL⟩:=hr.allocFull (.cells r e (len,len+1));have bH:bs.length<=maxLen:=by unfold maxLen;omega
 have gy:RV (M.settle w.heap.size) (w.alloc (.cells r e (len,len+1))) (.list (bs.map bcv) true none) (.slice (some ⟨w.heap.size,0,none⟩) len len):=by
  cases ba with
  |agg q1 q2 q3=>
   have aX:∀r0∈bs.map bcv,r0.length=1:=λr0 h0=>by
    obtain⟨b,_,rfl⟩:=D8.1 h0;rfl
   refine RV.list' (s:=1) (b:=w.heap.size) (off:=0) (U cZ.symm) (λi j=>r.getD (i*1+j) undef) (by simp[cZ]) J G (λh=>by cases h) V9 aX (λr0 bM c hc=>?_) (λi j r0 c hi hj=>?_) (λi j r0 c hi hj=>?_) (λk hk=>by cases hk)
   .obtain ⟨b,_,rfl⟩:=D8.1 bM;simp[bcv]at hc;subst hc;rfl
   .have hf:=a4q (bs.map bcv) aX i j r0 c hi hj;have ai:=(n_2.1 hf).1;have bt:i*1+j<r.size:=by omega
    refine⟨.inl (.inr G),?_⟩;rw[P4];show(match(w.alloc (.cells r e (len,len+1))).heap[w.heap.size]? with|some (.cells c _ _)=>c[i*1+j]? |_=>none)=_;rw[x8];simp at bt;simp[bt]
   .exact (q3 _ _ (a4q (bs.map bcv) aX i j r0 c hi hj)).mono hx
 rw[ej,eG];exact h.later hx eL (((hf.mono hx).hide (d:=some d1)).put (λt ht=>by injection ht with ht;omega) (λ_=>gy) λhh=>absurd trivial hh)
end
theorem e3B(h:n<18446744073709551616):IntKind.u64.wrap (n:Int)=(n:Int):=by
 simp[IntKind.wrap,IntKind.signed,IntKind.bits];omega
section
variable{E:Env}
theorem d8O{k k':IntKind}{a b:Int}(ho:o.op = .binOp .shr t x y t')(hx:E.valid x)(hy:E.valid y)(ex:E.val C x= .val (.int k a))(ey:E.val C y= .val (.int k' (n:Int)))(hk:n<=k.bits)(hb:a / 2^n=b):j4 C σ E o (.val (.int k b)):=
 i8 λM w ρ _ h=>by
  have h1:=h x r7 hx;have h2:=h y r7 hy;rw[ex]at h1;rw[ey]at h2;refine⟨.int k b,?_,.val _⟩;have e:min n k.bits=n:=by omega
  have e2:a.fdiv (2^n)=b:=by rw[Int.fdiv_eq_ediv_of_nonneg _ (Int.pow_nonneg J),hb]
  have e3:¬(n:Int)<0:=by omega
  simp[execOp,ho,r6 h1,r6 h2,eqGuard,binOp,Op.shift,e,e2,e3]
theorem d4y{a:Int}(ho:o.op = .binOp .and t x y t')(hx:E.valid x)(hy:E.valid y)(ex:E.val C x= .val (.int .u64 a))(ey:E.val C y= .val (.int .u64 1))(ha:0<=a/\a<18446744073709551616):j4 C σ E o (.val (.int .u64 (a%2))):=
 i8 λM w ρ _ h=>by
  have h1:=h x r7 hx;have h2:=h y r7 hy;rw[ex]at h1;rw[ey]at h2;obtain⟨m,rfl⟩:∃m:Nat,a=(m:Int):=⟨a.toNat,J⟩;have e3:(BitVec.ofInt IntKind.u64.bits (m:Int)&&&BitVec.ofInt IntKind.u64.bits 1).toNat=m%2:=by
   show(BitVec.ofInt 64 (m:Int)&&&BitVec.ofInt 64 1).toNat=_;rw[BitVec.toNat_and,BitVec.ofInt_natCast,BitVec.toNat_ofNat,c3U J];exact Nat.and_one_is_mod m
  have e4:(Op.intBits .and .u64 (m:Int) 1).run C.P w= .ok (.int .u64 ((m:Int)%2)) w:=by
   unfold Op.intBits;simp only[Sem.run_pure,e3];rw[e3B (n:=m%2) J];rfl
  exact⟨.int .u64 ((m:Int)%2),by simp[execOp,ho,r6 h1,r6 h2,eqGuard,binOp,e4],.val _⟩
theorem c39{v1 v2 v3 z1 z2 z3:Value}(ho:o.op = .buildSlice t 1 #[(0,x)])(hx:E.valid x)(ex:E.val C x= .agg [.val v1,.val v2,.val v3])(hv:v1.oneCell'=true/\v2.oneCell'=true/\v3.oneCell'=true)(hu:∀w,(underlying t).run C.P w= .ok (.slice e) w)(hs:∀w,(sizeOf e).run C.P w= .ok 3 w)(hz:∀w,(zeroValue e).run C.P w= .ok (.agg #[z1,z2,z3]) w)
 (hk:K (.ret (.list [[.val v1,.val v2,.val v3]] true (some σ.length))) (σ++[.tip 1])):C5 C σ E o K:=λM w ρ hr hh=>by
 have h1:=a09 (l:=[v1,v2,v3]) (ex▸hh x r7 hx);have az:(execOp ρ o).run C.P w= .ok (.value (.slice (some ⟨w.heap.size,0,none⟩) 1 1)) (w.alloc (.cells #[v1,v2,v3] e)):=by
  have er:Array.range 3= #[0,1,2]:=G;simp only[execOp,ho,Instr.buildSlice,Sem.run_bind,hu,Result.andThen_ok,hs];simp[er,Instr.fill,newRow,h1,Value.cells,hz]
 rw[az];have aK:=Ext.alloc hr ⟨w.heap.size,1,3⟩ (.cells #[v1,v2,v3] e);have bk:=hr.alloc ⟨w.heap.size,1,3⟩ (.cells #[v1,v2,v3] e) (.tip 1) G ⟨n_6 _,by unfold maxLen;simp,⟨λo ho=>by
  have:=hr.blk w.heap.size o (.inr ho);omega,λh=>by cases h⟩,#[v1,v2,v3],e,x8 _ _,G⟩
 have hp:(M.add ⟨w.heap.size,1,3⟩).pl[σ.length]?=some ⟨w.heap.size,1,3⟩:=by simp[A5.add,<- hr.len]
 obtain⟨fT,fD⟩:=bk.settleCells hp (by simp:(σ++[b9.tip 1])[σ.length]?=some (.tipT none 1));refine⟨_,_,_,aK.trans fT,fD,?_,hk⟩;have hc:∀j v,j<3->#[v1,v2,v3][j]?=some v->(w.alloc (.cells #[v1,v2,v3] e)).cell? ⟨w.heap.size,j,none⟩=some v:=λj v _ hv=>by
  show(match(w.alloc (.cells #[v1,v2,v3] e)).heap[w.heap.size]? with|some (.cells c _ _)=>c[j]? |_=>none)=some v;rw[x8];exact hv
 refine RV.list (aa:=[[.val v1,.val v2,.val v3]]) (b:=w.heap.size) (off:=0) (s:=3) (λ_ j=>#[v1,v2,v3].getD j undef) (n_6 _) (by unfold maxLen;simp) G (λh=>by cases h) V9 (λr hr=>by simp at hr;subst hr;rfl) (λr hr c hc=>by
  simp at hr;subst hr;simp at hc
  rcases hc with rfl|rfl|rfl
  .exact hv.1
  .exact hv.2.1
  .exact hv.2.2) (λi j r c hi hj=>?_) (λi j r c hi hj=>?_) (λk hk=>?_)
 .rcases i with _|i
  .injection hi with hi
   subst hi
   rcases j with _|_|_|j
   .exact ⟨.inr (.inr ⟨G,Q⟩),hc 0 _ J G⟩
   .exact ⟨.inr (.inr ⟨G,Q⟩),hc 1 _ J G⟩
   .exact ⟨.inr (.inr ⟨G,Q⟩),hc 2 _ J G⟩
   .simp at hj
  .simp at hi
 .rcases i with _|i
  .injection hi with hi
   subst hi
   rcases j with _|_|_|j
   .injection hj with hj;subst hj;exact .val _
   .injection hj with hj;subst hj;exact .val _
   .injection hj with hj;subst hj;exact .val _
   .simp at hj
  .simp at hi
 .injection hk with hk
  subst hk;exact⟨3,hp,G,G,λ_=>G⟩
end
theorem b9r{args':List CV}(h:b8 C f args σ K)(hl:args'.length=args.length)(ha:∀(i:Nat) (c c':CV),args[i]?=some c->args'[i]?=some c'->∀(M:A5) (w:World) (v:Value),RV M w c' v->RV M w c v):b8 C f args' σ K:=λM w vs hr hn hx=>
 h M w vs hr (hn.trans hl) λi c hi=>by
  obtain⟨c',bA⟩:∃c',args'[i]?=some c':=⟨_,a2o (by have:=(n_2.1 hi).1;omega)⟩;exact ha i c c' hi bA M w _ (hx i c' bA)
theorem e2V{g:FuncId}{v:Value}(h:RV M w (.val (.func (.func g) #[] #[])) v):RV M w (.clo g []) v:=by
 cases h with
 |val=>exact .clo G λi c hi=>by cases hi
theorem b0G{g:FuncId}{a:CV}(h:b8 C f [a,.clo g []] σ K):b8 C f [a,.val (.func (.func g) #[] #[])] σ K:=
 b9r h G λi c c' g1 g2 M w v hv=>by
  rcases i with _|_|i
  .injection g1 with g1;injection g2 with g2;subst g1 g2;exact hv
  .injection g1 with g1;injection g2 with g2;subst g1 g2;exact e2V hv
  .cases g1
end Go.Cl
namespace Go.Proofs
open Go.Shelf
theorem strs_none{P:Program}{ρ:Ren}(L:Lays.n190 P ρ)(p:Option Addr)(cap:Nat)(w:World):Calls P (ρ.f 190) #[.slice p 0 cap] w λe w'=>e= .returned (.tuple #[])/\w'=w:=Any.slices_Sort_string_none L p cap w
end Go.Proofs
namespace Go.Cl
variable{o:Oper}{l:List Oper}{c:CV}{f:FuncId}{xs:Array Operand}{ts:Array TypeId}{cargs:List CV}{K:Env->List (List b9->Prop)->Prop}{E:Env}
section
variable{C:Ctx}{σ:List b9}{af:Array Oper}
def a8v(C:Ctx)(σ:List b9)(af:Array Oper)(K:Env->List (List b9->Prop)->Prop):List Nat->Env->List (List b9->Prop)->Prop
 | [],E,S=>K E S.reverse
 |i::l,E,S=>∃o c g,af[i]?=some o/\H1 C σ af o E c g/\a8v C σ af K l (E.put o.dst c g) ((λae=>H1 C ae af o E c g)::S)
theorem c24{K:Env->List (List b9->Prop)->Prop}:∀{l:List Nat} {E:Env} {S:List (List b9->Prop)},a8v C σ af K l E S->Y5 C σ af K l E S.reverse
 | [],_,_,h=>h
 |_::_,_,_,⟨o,c,g,h1,h2,h3⟩=>⟨o,c,g,h1,h2,by have:=c24 h3;rwa[List.reverse_cons]at this⟩
theorem b48{l:List Nat}(h:a8v C σ af K l E []):Y5 C σ af K l E []:=c24 h
theorem a5p{S:List (List b9->Prop)}(h:K E S.reverse):a8v C σ af K [] E S:=h
theorem chr{i:Nat}{l:List Nat}{S:List (List b9->Prop)}{g:Prop}(ho:af[i]?=some o)(bj:H1 C σ af o E c g)(h:a8v C σ af K l (E.put o.dst c g) ((λae=>H1 C ae af o E c g)::S)):a8v C σ af K (i::l) E S:=
 ⟨o,c,g,ho,bj,h⟩
end
section
variable{C:Ctx}{n:Nat}{af:Array Oper}{Ji:A7->Env->List b9->Prop}{σ:List b9}
theorem cY(hy:j4 C σ E o c)(h:F0 C n af Ji l (E.put o.dst c True) σ)(hg:o.guard=none:=by rfl)(hd:(match o.dst with|some d=>Nat.blt d n|none=>true)=true:=by rfl):F0 C n af Ji (o::l) E σ:=d3H hg hd hy h
theorem cD(h:C5 C σ E o λr ae=>match r with| .ret c=>F0 C n af Ji l (E.put o.dst c True) ae| .pan c=>Ji (.pan c) E ae)(hg:o.guard=none:=by rfl)(hd:(match o.dst with|some d=>Nat.blt d n|none=>true)=true:=by rfl):F0 C n af Ji (o::l) E σ:=a2J hg hd h
theorem cG{j t:Nat}{av b:Bool}(hy:b=av->j4 C σ E o c)(h:F0 C n af Ji l (E.put o.dst c (b=av)) σ)(hg:o.guard=some (j,av):=by rfl)(ht:(af[j]?).bind (·.dst)=some t:=by rfl)(hv:E.ok t:=by exact O)(hb:E.f t= .val (.bool b):=by rfl)
 (hd:(match o.dst with|some d=>Nat.blt d n|none=>true)=true:=by rfl):F0 C n af Ji (o::l) E σ:=e1l hg ht hv hb hd hy h
theorem cC{c:Operand}{x y:Code}{b:Bool}(ht:b=true->CWp C n x Ji E σ)(gJ:b=false->CWp C n y Ji E σ)(hv:E.valid c:=by first|exact O|exact G)(hc:E.val C c= .val (.bool b):=by exact G):CWp C n (.cond c x y) Ji E σ:=a2A hv hc ht gJ
theorem hY{K:Env->Prop}(k:j4 C σ E o c)(h:U7 C σ af K l (E.put o.dst c True))(hg:o.guard=none:=by rfl):U7 C σ af K (o::l) E:=e1d hg k h
theorem yc(ho:o.op = .call {callee:=.value (.func f),args:=xs,argTypes:=ts})(aE:∀args w,(callFunc f args).run C.P w= .ok (.enter f args) w)
 (hv:E.valids xs.toList)(h:b8 C f cargs σ λr ae=>r= .ret c/\ae=σ)(k:F0 C n af Ji l (E.put o.dst c True) σ)(ea:(E.vals C xs.toList).map CV.fgt=cargs:=by exact G)(hg:o.guard=none:=by rfl)(hd:(match o.dst with|some d=>Nat.blt d n|none=>true)=true:=by rfl):F0 C n af Ji (o::l) E σ:=d3H hg hd (c5 ho aE hv h ea) k
theorem dc{α:Type}{c:α->CV}{S:α->List b9}{P:α->Prop}(ho:o.op = .call {callee:=.value (.func f),args:=xs,argTypes:=ts})(aE:∀args w,(callFunc f args).run C.P w= .ok (.enter f args) w)
 (hv:E.valids xs.toList)(h:b8 C f cargs σ λr ae=>∃a,r= .ret (c a)/\ae=S a/\P a)(hk:∀a,P a->F0 C n af Ji l (E.put o.dst (c a) True) (S a))(ea:(E.vals C xs.toList).map CV.fgt=cargs:=by exact G)(hg:o.guard=none:=by rfl)(hd:(match o.dst with|some d=>Nat.blt d n|none=>true)=true:=by rfl):F0 C n af Ji (o::l) E σ:=a2J hg hd (c4 ho aE hv h ea hk)
theorem ye(ho:o.op = .call {callee:=.value (.func f),args:=xs,argTypes:=ts})(aE:∀args w,(callFunc f args).run C.P w= .ok (.enter f args) w)
 (hv:E.valids xs.toList)(h:b8 C f cargs σ λr ae=>r= .ret c/\ae=σ)(ea:(E.vals C xs.toList).map CV.fgt=cargs)(k:F0 C n af Ji l (E.put o.dst c True) σ)(hg:o.guard=none:=by rfl)(hd:(match o.dst with|some d=>Nat.blt d n|none=>true)=true:=by rfl):F0 C n af Ji (o::l) E σ:=yc ho aE hv h k ea hg hd
theorem de{α:Type}{c:α->CV}{S:α->List b9}{P:α->Prop}(ho:o.op = .call {callee:=.value (.func f),args:=xs,argTypes:=ts})(aE:∀args w,(callFunc f args).run C.P w= .ok (.enter f args) w)
 (hv:E.valids xs.toList)(h:b8 C f cargs σ λr ae=>∃a,r= .ret (c a)/\ae=S a/\P a)(ea:(E.vals C xs.toList).map CV.fgt=cargs)(hk:∀a,P a->F0 C n af Ji l (E.put o.dst (c a) True) (S a))(hg:o.guard=none:=by rfl)(hd:(match o.dst with|some d=>Nat.blt d n|none=>true)=true:=by rfl):F0 C n af Ji (o::l) E σ:=dc ho aE hv h hk ea hg hd
def c4c(af:Array Oper):List Nat:=af.toList.foldl (λms o=>ms++[o.after.toList.foldl (λm e=>if b4W e then(m |||(1 <<< e.on)) |||ms.getD e.on 0 else m) 0]) []
theorem cW{id:Nat}(nh:Nat)(h:U7 C σ af (λE'=>F0 C n af Ji (af.toList.drop nh) E' σ) (af.toList.take nh) E)(hm:C.P.follows .mixedOrders=true:=by kernel_rfl)(hB:b6Z af nh (c4c af)=true:=by kernel_rfl)
 (hd:(af.toList.all λo=>match o.dst with|some d=>Nat.blt d n|none=>true)=true:=by rfl):CWp C n (.region id af true) Ji E σ:=c3Z nh (c4c af) hm hB hd h
theorem rE1{fn:Func}{t:Nat}(hr:fn.results = #[.tmp t]:=by exact G)(hv:E.ok t:=by exact O)(ec:E.f t=c:=by conv=>lhs;whnf):V1 C E σ fn c:=I8 hr hv ec
theorem rE0{fn:Func}(hr:fn.results = #[]:=by exact G):V1 C E σ fn (.tup []):=o9 (rs:=[]) (cs:=[]) hr trivial (n_5 G)
theorem cF{id:Nat}(qs hd:List Nat){tl:List (Nat×List Nat)}(h:Y5 C σ af (λE' S=>P8 C af qs Ji S tl E' σ) hd E [])(hm:C.P.follows .mixedOrders=true:=by kernel_rfl)(hB:b00 af qs (c4c af) hd tl=true:=by kernel_rfl)
 (ca:(af.toList.all λo=>match o.dst with|some d=>Nat.blt d n|none=>true)=true:=by rfl):CWp C n (.region id af true) Ji E σ:=a21 qs (c4c af) hd hm hB ca h
theorem cO{fn:Func}{c:Code}{args:List CV}{K:L7->List b9->Prop}(hf:C.P.funcs[f]?=some fn)(h:CWp C fn.ntmps c (Fin C fn K) (Env.args args) σ)(hb:fn.body=some c:=by rfl)(hn:Nat.ble args.length fn.ntmps=true:=by rfl):b8 C f args σ K:=a8z hf hb hn h
end
end Go.Cl
