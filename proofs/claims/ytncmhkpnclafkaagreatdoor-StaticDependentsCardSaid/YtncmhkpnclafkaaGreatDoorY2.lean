/- Part 2 of what the claim needs: values without addresses, and what the program's functions do with them. -/
import Derived.Lib.Bytealg
import Derived.Recover
import Derived.Lib.Builder
import Derived.Lib.UnsafeStr
import Derived.Sort.Grow
import Derived.Deep.Draws
import Derived.Lib.LaidTab
import Derived.Lib.MakeNoZero
import Derived.RangeFuncSeq
import Derived.RangeFuncCalls
import Derived.Scope
import Derived.Shelf.Lays
import Derived.Sort.AssemblyPlain
import Derived.Sort.EveryDepth
import Derived.Shelf.Sort.WalkASIn
import Derived.Shelf.Sort.Walk7sIn
import Derived.Shelf.Sort.Walk11sIn
import Derived.Shelf.Sort.WalkC5sIn
import Derived.Shelf.Sort.WalkC4sIn
import Derived.Shelf.Sort.WalkB3sIn
import Derived.Shelf.Sort.Walk13sIn
import Derived.Shelf.Sort.WalkTopsIn
import Derived.Shelf.Sort.So_math_bits_LenInS
import Derived.Shelf.RegionOpen
import Derived.Shelf.AbstractIn
import Derived.Shelf.SlSortCmp.NoneTotal
import Derived.Shelf.Slices.In.SortNone
import Derived.Test.YtncmhkpnclafkaaGreatDoorY1
set_option linter.all false
set_option maxRecDepth 100000
set_option maxHeartbeats 4000000
namespace Go.Cl
variable{t e t' et src dst kt:TypeId}{x y m kx:Operand}{C:Ctx}{K:R8->List b9->Prop}{f:FuncId}{w:World}{α β:Type}{args args' cells cargs:List CV}{c c':CV}{σ obs:List b9}{M:z8}{R R':Nat->Nat->Prop}{k q n off i s id:Nat}{P:Program}{ob:b9}{p:Pl}{a:α}{z v:Value}{E:Env}{ab:Array Oper}{Jh:A7->Env->List b9->Prop}{Y:List (List CV)}{b:Bool}{o:Oper}{qs fl:List Nat}{S:List (List b9->Prop)}{res:α->R8}{xs:Array Operand}{ts:Array TypeId}
section
theorem e03(ho:o.op = .buildSlice t 0 #[])(hu:∀w,(underlying t).run C.P w= .ok (.slice e) w)(hs:∀w,(sizeOf e).run C.P w= .ok s w)
 (hk:∀a,K (.ret (.val (.slice (some a) 0 0))) σ):G5 C σ E o K:=λM w ρ hr _=>by
 obtain⟨hx,fe⟩:=hr.allocFull (.cells #[] e);have au:(execOp ρ o).run C.P w= .ok (.value (.slice (some ⟨w.heap.size,0,none⟩) 0 0)) (w.alloc (.cells #[] e)):=by
  have er:Array.range 0= #[]:=O;simp only[execOp,ho,Instr.buildSlice,Sem.run_bind,hu,Result.andThen_ok,hs];simp[er,Instr.fill,newRow]
 rw[au];exact⟨_,σ,_,hx,fe,.val _,hk _⟩
theorem c21{nn:Bool}{tok:Option Nat}(ho:o.op = .binOp .eql t x (.const (.slice none 0 0)) t')(hx:E.valid x)(ex:E.val C x= .list Y nn tok)(hu:∀w,(underlying t).run C.P w= .ok (.slice e) w)(hb:(!nn)=b):l8 C σ E o (.val (.bool b)):=
 i8 λM w ρ _ h=>by
  have h1:=h x u0 hx;have h2:=h (.const (.slice none 0 0)) u0 O;rw[ex]at h1;have e2:ρ (.const (.slice none 0 0))= .slice none 0 0:=by
   have h2:RV M w (.list [] false none) (ρ (.const (.slice none 0 0))):=h2;obtain⟨a,cap,b',off,s,vals,hv,-,-,dY,eN,-,-,-,-,-,-⟩:=h2.list_inv;cases a with
   |none=>rw[hv,eN O];rfl
   |some a=>simp at dY
  obtain⟨a,cap,b',off,s,vals,hv,-,-,dY,-,-,-,-,-,-,-⟩:=h1.list_inv;refine⟨.bool b,?_,.val _⟩;subst hb;cases a with
  |none=>
   have:nn=false:=D dY.symm;subst this;have heq:∀d,(Op.equalIn (d+1) t (.slice none Y.length cap) (.slice none 0 0)).run C.P w= .ok true w:=λd=>by simp[Op.equalIn,hu]
   have he:(Op.equal t (.slice none Y.length cap) (.slice none 0 0)).run C.P w= .ok true w:=heq 9999;simp[execOp,ho,hv,e2,eqGuard,binOp,he]
  |some a=>
   have:nn=true:=D dY.symm;subst this;have heq:∀d,(Op.equalIn (d+1) t (.slice (some a) Y.length cap) (.slice none 0 0)).run C.P w= .ok false w:=λd=>by simp[Op.equalIn,hu]
   have he:(Op.equal t (.slice (some a) Y.length cap) (.slice none 0 0)).run C.P w= .ok false w:=heq 9999;simp[execOp,ho,hv,e2,eqGuard,binOp,he]
theorem d5G{a:Addr}{new:List (List CV)}{ti:TypeInfo}(m':Nat)(ho:o.op = .call {callee:=.builtin .append,args:=#[x,y],argTypes:=#[t,t]})(hx:E.valid x)(hy:E.valid y)(ex:E.val C x= .val (.slice (some a) 0 0))
 (aJ:∀M w v,Rel C M σ w->RV M w (E.val C y) v->Src C M w new s v)(hu:∀w,(underlying t).run C.P w= .ok (.slice e) w)(hs:∀w,(sizeOf e).run C.P w= .ok s w)(ca:∀w,(typeInfo e).run C.P w= .ok ti w)(hz:∀w,(zeroValue e).run C.P w= .ok z w)(bn:z.cells.size=s)
 (bC:0<new.length)(hb:new.length*ti.bytes<=140737488355328)(aQ:new.length<=9223372036854775807)(hm:new.length=m')
 (hk:K (.ret (.vec σ.length 0 m')) (σ++[.vec s new])):G5 C σ E o K:=λM w ρ hr hh=>by
 subst hm;have h1:=hh x H0 hx;have h2:=hh y H0 hy;rw[ex]at h1;have hv:=p8 h1;have aj:=(aJ M w _ hr h2).lenOf;have bb:(execOp ρ o).run C.P w=((Builtin.append_ #[t,t] o.type #[ρ x,ρ y]).run C.P w).andThen λv w=>.ok (.value v) w:=by
  simp[execOp,ho,resolve,invoke,builtin]
 obtain⟨dB,gc⟩:=hr.drewN;have hL:RV M w.drew (.list [] true none) (.slice (some a) 0 0):=.list (Y:=[]) (b:=0) (off:=0) (s:=s) (λ_ _=>undef) (n_6 _) (n_5 _) O (λh=>by cases h) (λh=>by simp at h) (λr hr=>by simp at hr) (λr hr=>by simp at hr) (λi j r c hi=>by simp at hi) (λi j r c hi=>by simp at hi) (λk hk=>by cases hk);have dq:=a1f (C:=C) (s:=s) hL (λr hr=>by simp at hr);obtain⟨a1,c1,dX,_,ba,old,hfo,cE,dF⟩:=dq;obtain⟨an,cn,hvn,_,bY,arr,ci,aR,bg⟩:=aJ M w.drew _ dB (a4c h2);obtain⟨c',cz,dM,au⟩:=S3 (P:=C.P) (ty:=o.type) (a:=some a) (c:=0) (w:=w) (n:=([]:List (List CV)).length) (m:=new.length) hu (.inl hu) hs ca hz aj hfo ci H6 (D aQ) (D hb);rw[bb,hv];change b0Y _ _ _ ((Sem.run C.P (Builtin.append_ #[t,t] o.type #[Value.slice (some a) ([]:List (List CV)).length 0,ρ y]) w).andThen _);rw[au];simp only[Result.andThen_ok];have fg:w.drew.heap.size=w.heap.size:=O;rw[<- fg];have dr:(old++arr++Builtin.zeroCells z.cells (c'- (([]:List (List CV)).length+new.length))).size=c'*s:=by
  simp only[b3L,R5,cE,aR,bn];rw[<- Q1,<- Q1]
  congr 1;omega
 have aE:=Ext.alloc dB ⟨w.drew.heap.size,c',s⟩ (.cells (old++arr++Builtin.zeroCells z.cells (c'- (([]:List (List CV)).length+new.length))) e);have aq:=a1m (rest:=Builtin.zeroCells z.cells (c'- (([]:List (List CV)).length+new.length))) cE aR ba bY (λi j r c hi hj=>(dF i j r c hi hj).1) (λi j r c hi hj=>(bg i j r c hi hj).1);have aW:=dB.alloc ⟨w.drew.heap.size,c',s⟩ (.cells (old++arr++Builtin.zeroCells z.cells (c'- (([]:List (List CV)).length+new.length))) e) (.vec s ([]++new)) O
  ⟨O,D cz,by unfold maxLen;simp only;omega,D bY,λr hr c hc=>(by
   obtain⟨i,hi⟩:=K5.1 (by simpa using hr:r∈new);obtain⟨j,hj⟩:=K5.1 hc;exact(bg i j r c hi hj).2),_,e,r9 _ _,dr,λi j r c hi hj=>((aq i j r c hi hj).2.mono aE)⟩
 refine⟨.vec σ.length 0 new.length,_,_,gc.trans aE,aW,?_,hk⟩;have:=RV.vec (M:=M.add ⟨w.drew.heap.size,c',s⟩) (w:=w.drew.alloc (.cells (old++arr++Builtin.zeroCells z.cells (c'- (([]:List (List CV)).length+new.length))) e)) (k:=σ.length) (off:=0) (len:=new.length) (p:=⟨w.drew.heap.size,c',s⟩) (a:=⟨w.drew.heap.size,0,none⟩) a7w (D cz) b9L (λ_=>by simp);simpa using this
end
def a6C:b9->Prop
 | .dead=>True
 | .boxT _ cells=>∀c∈cells,p9 c
 |_=>False
theorem a6C.old(h:a6C ob):F7 n ob:=by
 cases ob with
 |dead=>trivial
 |boxT t0 cells=>exact λc hc=>(h c hc).old
 |_=>exact h.elim
theorem a6C.rel{M':z8}(aU:∀b o,M.at b o->M'.at b o)(hf:∀b,M'.full b->M.full b)(cy:∀b o,M'.cell b o->M.cell b o)(hp:a6C ob)(h:R2 M w p ob/\a8d M p ob):R2 M' w p ob/\a8d M' p ob:=by
 cases ob with
 |dead=>exact⟨J,J⟩
 |boxT t0 cells=>
  obtain⟨⟨arr,ty,e1,e2,e3,e4⟩,g1,g2⟩:=h;exact⟨⟨arr,ty,e1,e2,e3,λi c hi=>(e4 i c hi).pure (λb o ha=>⟨aU b o ha,O⟩) (hp c (n_3 hi))⟩,λhh=>g1 (hf _ hh),λo hh=>g2 o (cy _ o hh)⟩
 |_=>exact hp.elim
theorem a3X.nil{l:List b9}:a3X n σ l []:=by cases l<;>trivial
theorem b2W{c:α->CV}{S:α->b9}{P:α->Prop}(hC:C.plain)(hS:∀a,a6C (S a))(h:b8 C f args [ob] λr aa=>∃(a:α) (rest:List b9) (c0:CV),aa=S a::rest/\r= .ret c0/\Cls 1 aa c0 (c a)/\P a):
 b8 C f args [ob] λr aa=>∃a,r= .ret (c a)/\aa=[S a]/\P a:=λM w vs hr hn hx=>(h M w vs hr hn hx).mono λe w' he=>by
 cases e with
 |returned v=>
  obtain⟨c',aa,M',h1,h2,h3,a,rest,c0,rfl,h5,h6,h7⟩:=he;injection h5 with h5
  subst h5;obtain⟨g1,g2,g3⟩:=h2.cutCls hC (S:=[S a]) ⟨.same (hS a).old,.nil⟩;exact⟨c a,[S a],_,g3 M w h1 (by rw[hr.len];exact n_6 _),g1,RV.close h2 g2 (λk p s Y hk hp hs=>.inr ⟨k,p,_,hk,hp,hs,O,O⟩) h6 h3,⟨a,O,O,h7⟩⟩
 |panicked ch=>
  obtain⟨c',v,aa,M',h0,h1,h2,h3,a,rest,c0,h4,h5,_⟩:=he;cases h5
 |outgrown=>exact he
theorem a6y{c:α->CV}{S:α->b9}{P:α->Prop}(hC:C.plain)(ap:∀a∈args,p9 a)(hc:∀a,p9 (c a))(hS:∀a,a6C (S a))(hob:a6C ob)(ck:ob.live=true)
 (h:b8 C f (.ptr 0 0::args) [ob] λr aa=>∃a,r= .ret (c a)/\aa=[S a]/\P a)(σ:List b9)(q:Nat)(hq:σ[q]?=some ob):b8 C f (.ptr q 0::args) σ λr aa=>∃a,r= .ret (c a)/\aa=σ.set q (S a)/\P a:=λM w vs hr hn hx=>by
 have iy:q<σ.length:=(n_2.1 hq).1;obtain⟨pq,hpq⟩:∃p,M.pl[q]?=some p:=⟨M.pl[q]'(by rw[hr.len];exact iy),U⟩
 let LB:Nat->Prop:=λb=>∃(k:Nat) (p:Pl) (aL:b9),k≠q/\M.pl[k]?=some p/\σ[k]?=some aL/\aL.live=true/\p.block=b
 let M0:z8:={pl:=[pq],full:=M.full,cell:=M.cell,keep:=λb=>M.keep b\/LB b}
 have aU:∀b o,M.at b o->M0.at b o/\w.cell? ⟨b,o,none⟩=w.cell? ⟨b,o,none⟩:=λb o h=>⟨h,O⟩;have hLB:∀b,LB b->b<w.heap.size:=λb ⟨k,p,aL,_,hp,hs,hl,hb⟩=>hb▸(hr.obj k p aL hp hs).1.lt hl;have h0:∀{k:Nat} {p:Pl},M0.pl[k]?=some p->k=0/\p=pq:=λ{k p} hp=>by
  rcases k with _|k
  .exact ⟨O,(Option.some.inj hp).symm⟩
  .simp [M0]at hp
 have h0o:∀{k:Nat} {x:b9},[ob][k]?=some x->x=ob:=λ{k x} hx=>by
  rcases k with _|k
  .exact (Option.some.inj hx).symm
  .simp at hx
 have bH:Rel C M0 [ob] w:=⟨O,hr.blk,λk p x hp hs=>by
  obtain⟨rfl,rfl⟩:=h0 hp;obtain rfl:=h0o hs;exact hob.rel (M:=M) (M':=M0) (λb o h=>h) (λb h=>h) (λb o h=>h) (hr.obj q p x hpq hq),λk k' p p' x x' hp aG _ _ _ _ _=>by
  rw[(h0 hp).1,(h0 aG).1],λg cells hg=>⟨by
  have:=(hr.glob g cells hg).rv;cases this with
  |cptr vals h1 h2 h3=>exact .cptr vals h1 h2 λj c hj=>(h3 j c hj).pure aU (hC g cells hg c (n_3 hj)),(hr.glob g cells hg).full,(hr.glob g cells hg).sz⟩,
  λb hb=>(by
   rcases hb with hb|hb
   .exact hr.kep b hb
   .exact hLB b hb),λk p x hp hs hl hb=>by
  obtain⟨rfl,rfl⟩:=h0 hp;obtain rfl:=h0o hs
  rcases hb with hb|⟨k,p',aL,hk,aG,aT,bL,hb⟩
  .exact hr.nk q p x hpq hq hl hb
  .exact hk (hr.inj k q p' p aL x aG hpq aT hq bL hl hb)⟩
 refine(h M0 w vs bH (D hn) λi a hi=>?_).mono λe w' he=>?_
 .rcases i with _|i
  .simp at hi;subst hi;have:=hx 0 (.ptr q 0) U;generalize vs.getD 0 undef=v0 at this⊢;cases this with
   |ptr hk=>
    rw[hpq]at hk;injection hk with hk
    subst hk;exact .ptr (M:=M0) (k:=0) O
  .simp at hi;exact(hx (i+1) a (D hi)).pure aU (ap a (n_3 hi))
 cases e with
 |panicked ch=>
  obtain⟨c',v,aa,M',_,_,_,_,⟨a,h5,_⟩⟩:=he;cases h5
 |outgrown=>exact he
 |returned v=>
  obtain⟨c',aa,M',h1,h2,h3,a,h4,rfl,hP⟩:=he;injection h4 with h4
  subst h4;have bc:M'.pl[0]?=some pq:=h1.get (M:=M0) O
  let M2:z8:={pl:=M.pl,full:=M'.full,cell:=M'.cell,keep:=M.keep}
  have aE:Ext M w M2 w':=⟨⟨[],by simp[M2]⟩,h1.full,h1.cell,h1.same,h1.sameC,h1.size,h1.drew,h1.os,h1.tape,h1.output,λb hb=>by
   obtain⟨k1,k2,k3,k4⟩:=h1.kept b (.inl hb);exact⟨hb,k2,k3,k4⟩⟩
  have hset:∀{k:Nat} {x:b9},(σ.set q (S a))[k]?=some x->(k=q/\x=S a)\/(k≠q/\σ[k]?=some x):=λ{k x} hk=>by
   rw[a8X]at hk;split at hk
   .rename_i e;exact .inl ⟨e.symm,(Option.some.inj hk).symm⟩
   .rename_i e;exact .inr ⟨λh=>e h.symm,hk⟩
  have cp:∀{k:Nat} {x:b9},(σ.set q (S a))[k]?=some x->x.live=true->∃y,σ[k]?=some y/\y.live=true:=λ{k x} hk hl=>by
   rcases hset hk with⟨rfl,rfl⟩|⟨_,h⟩
   .exact ⟨ob,hq,ck⟩
   .exact ⟨x,h,hl⟩
  refine⟨c a,σ.set q (S a),M2,aE,⟨by simp[M2,hr.len],h2.blk,λk p x hp hs=>?_,λk k' p p' x x' hp aG hs aT hl bL hb=>?_,λg cells hg=>(hr.glob g cells hg).mono aE,λb hb=>a8E (hr.kep b hb) h1.size,λk p x hp hs hl=>?_⟩,h3.pure (M:=M') (M':=M2) (w':=w') (λb o h=>⟨h,O⟩) (hc a),⟨a,O,O,hP⟩⟩
  .rcases hset hs with⟨rfl,rfl⟩|⟨hk,hs⟩
   .have e:p=pq:=by
     have hp:M.pl[k]?=some p:=hp;rw[hpq]at hp;exact(Option.some.inj hp).symm
    subst e;exact(hS a).rel (M:=M') (M':=M2) (λb o h=>h) (λb h=>h) (λb o h=>h) (h2.obj 0 p (S a) bc O)
   .by_cases hl:x.live=true
    .obtain ⟨k1,k2,k3,k4⟩:=h1.kept p.block (.inr ⟨k,p,x,hk,hp,hs,hl,O⟩);obtain⟨g1,g2⟩:=hr.obj k p x hp hs;refine⟨g1.mono aE k2 (λ_ _ _ o ho=>k4 o ho),?_⟩;cases x with
     |dead=>trivial
     |tipT t0 n=>exact λhf=>g2 (k3 hf)
     |_=>exact⟨λhf=>g2.1 (k3 hf),λo ho=>g2.2 o (k4 o ho)⟩
    .cases x<;>first|exact⟨J,J⟩|simp[b9.live]at hl
  .obtain ⟨y,hy,fj⟩:=cp hs hl;obtain⟨y',iH,hyl'⟩:=cp aT bL;exact hr.inj k k' p p' y y' hp aG hy iH fj hyl' hb
  .obtain ⟨y,hy,fj⟩:=cp hs hl;exact hr.nk k p y hp hy fj
theorem c5K{M0:z8}(hr:Rel C M σ w){len:Nat}(hp:M.pl[k]?=some p)(ao:σ[k]?=some (.vec s Y))(aM:off+len<=Y.length)(eO:∀r∈Y,∀c∈r,p9 c)
 (aU:∀b o,M.at b o->M0.at b o)(hfp:M0.full p.block){v:Value}(hv:RV M w (.vec k off len) v):RV M0 w (.list ((Y.drop off).take len) true none) v:=by
 cases hv with
 |vec aG g1 g2 g3=>
  rename_i p' a;rw[hp]at aG;injection aG with aG
  subst aG;obtain⟨⟨cj,q1,q2,q3,q4,arr,ty,q5,q6,q7⟩,_⟩:=hr.obj k p _ hp ao;have aj:((Y.drop off).take len).length=len:=by simp;omega
  have aq:∀i r,((Y.drop off).take len)[i]?=some r->i<len/\Y[off+i]?=some r:=λi r hi=>by
   rw[a2q]at hi;split at hi
   .rw [a6d]at hi;exact⟨‹_›,hi⟩
   .cases hi
  have gd:(Y.drop off).take len≠[]->off<p.cap:=λax=>by
   have:0< ((Y.drop off).take len).length:=a6M.2 ax;omega
  refine RV.list' (L:=len) G (b:=p.block) (off:=off*p.size) (s:=p.size) (λi j=>arr.getD ((off+i)*p.size+j) undef) G G O (λh=>by cases h) (λax=>by rw[g3 (gd ax)]) (λr bl=>?_) (λr bl c bx=>?_) (λi j r c hi hj=>?_) (λi j r c hi hj=>?_) (λk hk=>by cases hk)
  .obtain ⟨i,hi⟩:=K5.1 bl;exact q3 r (n_3 (aq i r hi).2)
  .obtain ⟨i,hi⟩:=K5.1 bl;exact q4 r (n_3 (aq i r hi).2) c bx
  .obtain ⟨bo,hri⟩:=aq i r hi;have bS:j<p.size:=by have:=(n_2.1 hj).1;rwa[q3 r (n_3 hri)]at this
   have hq:(off+i)*p.size+j<arr.size:=by
    rw[q6];have:(off+i+1)*p.size<=p.cap*p.size:=S7 _ G;rw[Q1 (off+i)]at this;omega
   refine⟨.inl hfp,?_⟩;rw[show off*p.size+i*p.size+j=(off+i)*p.size+j from by rw[Q1 off]];simp[World.cell?,q5,hq]
  .obtain ⟨bo,hri⟩:=aq i r hi;exact(q7 _ _ _ _ hri hj).pure (λb o h=>⟨aU b o h,O⟩) (eO r (n_3 hri) c (n_3 hj))
theorem b2X{len:Nat}{v0:Value}(hC:C.plain)(ap:∀a∈args,p9 a)(eO:∀r∈Y,∀c∈r,p9 c)(aM:off+len<=Y.length)(hk:σ[k]?=some (.vec s Y))
 (h:b8 C f (.list ((Y.drop off).take len) true none::args) [] λr aa=>r= .ret (.val v0)/\aa=[]):b8 C f (.vec k off len::args) σ λr aa=>r= .ret (.val v0)/\aa=σ:=
 λM w vs hr hn hx=>by
  have bm:k<σ.length:=(n_2.1 hk).1;obtain⟨q,hq⟩:∃p,M.pl[k]?=some p:=⟨M.pl[k]'(by rw[hr.len];exact bm),U⟩;obtain⟨hqo,hqf⟩:=hr.obj k q _ hq hk
  let LB:Nat->Prop:=λb=>∃(k:Nat) (p:Pl) (ob:b9),M.pl[k]?=some p/\σ[k]?=some ob/\ob.live=true/\p.block=b
  let M0:z8:={pl:=[],full:=λb=>M.full b\/b=q.block,cell:=M.cell,keep:=λb=>M.keep b\/LB b}
  have aU:∀b o,M.at b o->M0.at b o/\w.cell? ⟨b,o,none⟩=w.cell? ⟨b,o,none⟩:=λb o h=>⟨h.imp .inl id,O⟩;have hLB:∀b,LB b->b<w.heap.size:=λb ⟨k,p,ob,hp,hs,hl,hb⟩=>hb▸(hr.obj k p ob hp hs).1.lt hl;have bH:Rel C M0 [] w:=⟨O,λb o hb=>(by
   rcases hb with(hb|rfl)|hb
   .exact hr.blk b o (.inl hb)
   .exact hqo.lt O
   .exact hr.blk b o (.inr hb)),λk p ob hp=>by simp[M0]at hp,λk k' p p' ob aL hp=>by simp[M0]at hp,λg cells hg=>⟨by
   have:=(hr.glob g cells hg).rv;cases this with
   |cptr vals h1 h2 h3=>exact .cptr vals h1 (λj c hj=>⟨(aU _ _ (h2 j c hj).1).1,(h2 j c hj).2⟩) λj c hj=>(h3 j c hj).pure aU (hC g cells hg c (n_3 hj)),.inl (hr.glob g cells hg).full,(hr.glob g cells hg).sz⟩,
   λb hb=>(by
   rcases hb with hb|hb
   .exact hr.kep b hb
   .exact hLB b hb),λk p ob hp=>by simp[M0]at hp⟩
  refine(h M0 w vs bH hn λi a hi=>?_).mono λe w' he=>?_
  .rcases i with _|i
   .simp at hi;subst hi;exact c5K hr hq hk aM eO (λb o h=>(aU b o h).1) (.inr O) (hx 0 _ U)
   .exact (hx (i+1) a (D hi)).pure aU (ap a (n_3 (D hi)))
  .cases e with
   |panicked ch=>
    obtain⟨c',v,aa,M',_,_,_,_,⟨h5,_⟩⟩:=he;cases h5
   |outgrown=>exact he
   |returned v=>
    obtain⟨c',aa,M',h1,h2,h3,⟨h4,rfl⟩⟩:=he;injection h4 with h4
    subst h4
    let M2:z8:={pl:=M.pl,full:=λb=>M'.full b/\b≠q.block,cell:=λb o=>M'.cell b o/\b≠q.block,keep:=M.keep}
    have aE:Ext M w M2 w':=⟨⟨[],by simp[M2]⟩,λb hb=>⟨h1.full b (.inl hb),λe=>hqf.1 (e▸hb)⟩,λb o hb=>(h1.cell b o hb).imp (λh=>⟨h,λe=>hqf.2 o (e▸hb)⟩) (λh=>⟨h,λe=>hqf.2 o (e▸hb)⟩),λb hb=>h1.same b (.inl hb),h1.sameC,h1.size,h1.drew,h1.os,h1.tape,h1.output,λb hb=>by
     obtain⟨k1,k2,k3,k4⟩:=h1.kept b (.inl hb);exact⟨hb,k2,λhf=>(k3 hf.1).elim id λe=>absurd e hf.2,λo ho=>k4 o ho.1⟩⟩
    refine⟨.val v0,σ,M2,aE,⟨hr.len,λb o hb=>h2.blk b o (hb.imp (·.1) (·.1)),λk p ob hp hs=>?_,hr.inj,λg cells hg=>(hr.glob g cells hg).mono aE,λb hb=>a8E (hr.kep b hb) h1.size,hr.nk⟩,by rw[p8 h3];exact .val _,O,O⟩;by_cases hl:ob.live=true
    .obtain ⟨k1,k2,k3,k4⟩:=h1.kept p.block (.inr ⟨k,p,ob,hp,hs,hl,O⟩);obtain⟨g1,g2⟩:=hr.obj k p ob hp hs;have k3':M2.full p.block->M.full p.block:=λhf=>(k3 hf.1).elim id λe=>absurd e hf.2;refine⟨g1.mono aE k2 (λ_ _ _ o ho=>k4 o ho.1),?_⟩;cases ob with
     |dead=>trivial
     |tipT t0 n=>exact λhf=>g2 (k3' hf)
     |_=>exact⟨λhf=>g2.1 (k3' hf),λo ho=>g2.2 o (k4 o ho.1)⟩
    .cases ob<;>first|exact⟨J,J⟩|simp[b9.live]at hl
section
end
section
theorem b8z{l:List Oper}{j t:Nat}{av:Bool}(c0:CV)(hg:o.guard=some (j,av))(ht:(ab[j]?).bind (·.dst)=some t)(hv:E.ok t)(hb:E.f t= .val (.bool b))
 (hd:(match o.dst with|some d=>Nat.blt d n|none=>true)=true)(hy:b=av->G5 C σ E o λr aa=>match r with
  | .ret c=>I6 C n ab Jh l (E.put o.dst c (b=av)) aa
  | .pan c=>Jh (.pan c) E aa)(hn:¬b=av->I6 C n ab Jh l (E.put o.dst c0 (b=av)) σ):I6 C n ab Jh (o::l) E σ:=λM w a hr hf=>by
 have hd1:(match o.dst with|some d=>d<n|none=>True):=by
  cases fH:o.dst with
  |none=>trivial
  |some d=>rw[fH]at hd;simpa[b2q]using hd
 have h1:RV M w (E.f t) (a.tmps.getD t undef):=hf.rv t hv;rw[hb]at h1;have h2:a.tmps.getD t undef= .bool b:=by generalize a.tmps.getD t undef=u at h1;cases h1;rfl
 have aK:t<a.tmps.size:=by
  rcases a4x t a.tmps.size with h'|h'
  .exact h'
  .simp [b0q h',undef]at h2
 have hw:Region.wanted o (yielded ab a.tmps)=(b == av):=by
  have h3:a.tmps[t]?=some (.bool b):=by
   rw[Z6,a1t aK]at h2;rw[a1t aK,<- h2];rfl
  have h4:yielded ab a.tmps j=some b:=by unfold yielded;rw[ht,n_9,h3]
  simp only[Region.wanted,hg,h4];cases b<;>cases av<;>rfl
 have fH:∀t,o.dst=some t->t<n:=λt ht=>by rw[ht]at hd1;exact hd1
 unfold wpList;by_cases cP:b=av
 .rw [Q (by rw[hw];simpa using cP)];refine .inl (a3L (hy cP M w a.eval hr λx _ hx=>hf.eval hr hx) (λv w' ha=>?_) (λch w' ha=>?_))
  .obtain ⟨c',aa,M',h1,h2,h3,h4⟩:=ha;exact h4.later h1 h2 ((hf.mono h1).put fH (λ_=>h3) λhh=>absurd cP hh)
  .obtain ⟨c,v,aa,M',h0,h1,h2,h3,h4⟩:=ha;exact⟨E,aa,M',h1,h2,hf.mono h1,c,v,h0,h3,h4⟩
 .rw [W (by rw[hw];simpa using cP)];exact(hn cP).later (Ext.refl M w) hr (hf.put fH (λhh=>absurd hh cP) λ_=>O)
end
section
def V0(C:Ctx)(ab:Array Oper)(qs:List Nat)(Jh:A7->Env->List b9->Prop)(S:List (List b9->Prop)):List (Nat×List Nat)->Env->List b9->Prop
 | [],E,σ=>Jh .normal E σ
 |(i,fl)::l,E,σ=>∃o,ab[i]?=some o/\((qs.contains i=true/\∃c g,(∀aa,J1 C aa ab o E c g)/\V0 C ab qs Jh S l (E.put o.dst c g) σ)\/(qs.contains i=false/\(d9S C ab o E σ (λc g aa=>a2h S aa fl/\V0 C ab qs Jh S l (E.put o.dst c g) aa) (λc aa=>∀E',Jh (.pan c) E' aa)\/c3c C ab o E σ (λc g aa=>a2h S aa fl/\V0 C ab qs Jh S l (E.put o.dst c g) aa) λc aa=>∀E',Jh (.pan c) E' aa)))
def tfB(ms hd fl:List Nat)(i:Nat):Bool:=(List.range hd.length).all λk=>(ms.getD i 0).testBit (hd.getD k 0) ||fl.contains k
theorem d7r{ms:List Nat}{fl:List Nat}{i:Nat}{σ:List b9}:∀{hd:List Nat} {S:List (List b9->Prop)} (k0:Nat) (S0:List (List b9->Prop)),k0=S0.length->(∀k,k<hd.length->(ms.getD i 0).testBit (hd.getD k 0)=true\/(k0+k)∈fl)->a2h (S0++S) σ fl->TF ms hd S i σ
 | [],_,_,_,_,_,_=>trivial
 |_::_,[],_,_,_,_,_=>trivial
 |x::hd,F::S,k0,S0,h0,hb,hf=>by
  refine⟨λhbit=>?_,d7r (k0+1) (S0++[F]) (by simp[h0]) (λk hk=>?_) (by rw[H5];exact hf)⟩
  .rcases hb 0 (Nat.zero_lt_succ _)with h|h
   .rw [List.getD_cons_zero,hbit]at h;cases h
   .have:=hf.get _ h;rw[h0]at this;simpa[a7V]using this
  .have:=hb (k+1) (Nat.succ_lt_succ hk);rw[show k0+1+k=k0+(k+1) by omega];simpa using this
def c3M(ab:Array Oper)(ms qs hd:List Nat)(Lf:Array Bool):List (Nat×List Nat)->Array Bool->Bool
 | [],_=>true
 |(i,fl)::l,L=>(match qs.contains i with
  |true=>b5R ab ms Lf L i
  |false=>(match Region.ready .any ab L with
   | [j]=>Nat.beq j i
   |_=>false)&&tfB ms hd fl i)&&c3M ab ms qs hd Lf l (L.setIfInBounds i true)
theorem b5P{Lf:Array Bool}{ms qs hd:List Nat}{S:List (List b9->Prop)}:∀{l:List (Nat×List Nat)} {L:Array Bool} {E:Env} {σ:List b9} {T:Nat->List b9->Prop},c3M ab ms qs hd Lf l L=true->a1w L (l.map Prod.fst)=Lf->(∀j aa,TF ms hd S j aa->T j aa)->V0 C ab qs Jh S l E σ->CA C ab Jh Lf (λE σ=>Jh .normal E σ) T l.length L E σ
 | [],_,_,_,_,_,hL,_,h=>⟨hL,h⟩
 |(i,fl)::l,L,E,σ,T,hB,hL,hT,⟨o,ho,h⟩=>by
  rw[c3M,T5]at hB
  rcases h with⟨hq,c,g,h1,h2⟩|⟨hq,h⟩
  .rw [hq]at hB;exact c9u (λaa=>J1 C aa ab o E c g) hB.1 ho (λ_ h=>h) (h1 σ) (b5P hB.2 hL (λj aa h=>⟨hT j aa h,λ_=>h1 aa⟩) h2)
  .simp only[hq,T5]at hB;obtain⟨⟨b1,b2⟩,b3⟩:=hB;have hr:=a1M b1;have go:∀(E':Env) (aa:List b9),a2h S aa fl/\V0 C ab qs Jh S l E' aa->T i aa/\CA C ab Jh Lf (λE σ=>Jh .normal E σ) T l.length (L.setIfInBounds i true) E' aa:=λE' aa ⟨h1,h2⟩=>by
    refine⟨hT i aa (d7r (fl:=fl) 0 [] O (λk hk=>?_) h1),b5P b3 hL hT h2⟩;unfold tfB at b2;have:=a6b.1 b2 k (List.mem_range.2 hk);rw[O7];simpa using this
   refine⟨by rw[hr];exact c5f _ _,λj hj=>?_⟩;rw[hr,a2T]at hj;subst hj;refine⟨o,ho,?_⟩
   rcases h with(⟨h1,h2⟩|⟨c,g,h1,h2⟩)|h
   .exact .inr (a3A (λ_ _=>⟨O,O,O⟩) (λc g aa hh=>go _ _ hh) (.inl ⟨h1,h2⟩))
   .exact .inl ⟨c,g,h1,(go _ _ h2).2⟩
   .exact .inr (a3A (λ_ _=>⟨O,O,O⟩) (λc g aa hh=>go _ _ hh) (.inr h))
def b1I(ab:Array Oper)(qs ms hd:List Nat)(tl:List (Nat×List Nat)):Bool:=
 Nat.beq (hd.length+tl.length) ab.size &&a8B ab ms (a1w (a1w (L0 ab) hd) (tl.map Prod.fst)) hd (L0 ab)&&c3M ab ms qs hd (a1w (a1w (L0 ab) hd) (tl.map Prod.fst)) tl (a1w (L0 ab) hd)&& (Region.ready .any ab (a1w (a1w (L0 ab) hd) (tl.map Prod.fst))).isEmpty
theorem b4D{a:Act}(qs:List Nat)(ms hd:List Nat){tl:List (Nat×List Nat)}(hB:b1I ab qs ms hd tl=true)(bV:(ab.toList.all λo=>match o.dst with|some d=>Nat.blt d n|none=>true)=true)
 (h:a0V C σ ab (λE' S=>V0 C ab qs Jh S tl E' σ) hd E [])(hr:Rel C M σ w)(hf:I3 M w n E a):wpAny C.P .any ab (Q8 C n Jh M w) ab.size (L0 ab) a {w with drawn:=w.drawn+1}:=by
 simp only[b1I,T5]at hB;obtain⟨⟨⟨h1,h2⟩,h3⟩,h4⟩:=hB;obtain⟨bl,hx⟩:=hr.drew;have:=b5m (f0:=0) (b6y bV) (λE σ M1 w1 a1 hB bh aI di=>⟨b8R.1 h4,E,σ,M1,bh,aI,di,hB⟩) (a7S (T:=λ_ _=>True) (f:=tl.length) h2 h λE' S' hk=>b5P h3 O (λj aa hh=>⟨J,hh⟩) hk) hx bl (hf.mono hx);rw[O7,show tl.length+hd.length=ab.size by have:=a3H h1;omega]at this;exact this
theorem b2G(qs ms hd:List Nat){tl:List (Nat×List Nat)}(hm:C.P.follows .mixedOrders=true)(hB:b1I ab qs ms hd tl=true)(bV:(ab.toList.all λo=>match o.dst with|some d=>Nat.blt d n|none=>true)=true)
 (h:a0V C σ ab (λE' S=>V0 C ab qs Jh S tl E' σ) hd E []):CWp C n (.region id ab true) Jh E σ:=λM w a hr hf=>wp_region_any hm (b4D qs ms hd hB bV h hr hf)
theorem d5X(ms hd:List Nat){f:Nat}(hm:C.P.follows .mixedOrders=true)(hB:(Nat.beq (f+hd.length) ab.size &&a8B ab ms (Array.replicate ab.size true) hd (L0 ab)&& (Region.ready .any ab (Array.replicate ab.size true)).isEmpty)=true)(bV:(ab.toList.all λo=>match o.dst with|some d=>Nat.blt d n|none=>true)=true)
 (h:a0V C σ ab (λE' S=>CA C ab Jh (Array.replicate ab.size true) (λE σ=>Jh .normal E σ) (λj aa=>TF ms hd S j aa) f (a1w (L0 ab) hd) E' σ) hd E []):CWp C n (.region id ab true) Jh E σ:=λM w a hr hf=>wp_region_any hm (by
  simp only[T5]at hB;obtain⟨⟨h1,h2⟩,h3⟩:=hB;obtain⟨bl,hx⟩:=hr.drew;have:=b5m (f0:=0) (b6y bV) (λE σ M1 w1 a1 hB bh aI di=>⟨b8R.1 h3,E,σ,M1,bh,aI,di,hB⟩) (a7S (T:=λ_ _=>True) (f:=f) h2 h λE' S' hk=>a5H (λ_ _ h=>⟨J,h⟩) hk) hx bl (hf.mono hx);rw[O7,a3H h1]at this;exact this)
section
variable{Lf:Array Bool}{B:Env->List b9->Prop}{T:Nat->List b9->Prop}{f:Nat}{L:Array Bool}
theorem d9K{i:Nat}{o:Oper}(hr:(match Region.ready .any ab L with
 | [j]=>Nat.beq j i
 |_=>false)=true)(ho:ab[i]?=some o)(hg:o.guard=none)(h:G5 C σ E o λr aa=>match r with| .ret c=>T i aa/\CA C ab Jh Lf B T f (L.setIfInBounds i true) (E.put o.dst c True) aa| .pan c=>∀E',Jh (.pan c) E' aa):CA C ab Jh Lf B T (f+1) L E σ:=
 ⟨by rw[a1M hr];exact c5f _ _,λj hj=>by rw[a1M hr,a2T]at hj;subst hj;exact⟨o,ho,.inr (.inl ⟨hg,h⟩)⟩⟩
theorem d9u{i:Nat}{o:Oper}{c:CV}{g:Prop}(hr:(match Region.ready .any ab L with
 | [j]=>Nat.beq j i
 |_=>false)=true)(ho:ab[i]?=some o)(bi:J1 C σ ab o E c g)(h:CA C ab Jh Lf B T f (L.setIfInBounds i true) (E.put o.dst c g) σ):CA C ab Jh Lf B T (f+1) L E σ:=
 ⟨by rw[a1M hr];exact c5f _ _,λj hj=>by rw[a1M hr,a2T]at hj;subst hj;exact⟨o,ho,.inl ⟨c,g,bi,h⟩⟩⟩
theorem e3t{i i':Nat}{o o':Oper}(hr:(match Region.ready .any ab L with
 | [j,j']=>Nat.beq j i&&Nat.beq j' i'
 |_=>false)=true)(ho:ab[i]?=some o)(ho':ab[i']?=some o')(hg:o.guard=none)(hg':o'.guard=none)(h:G5 C σ E o λr aa=>match r with| .ret c=>T i aa/\CA C ab Jh Lf B T f (L.setIfInBounds i true) (E.put o.dst c True) aa| .pan c=>∀E',Jh (.pan c) E' aa)
 (h':G5 C σ E o' λr aa=>match r with| .ret c=>T i' aa/\CA C ab Jh Lf B T f (L.setIfInBounds i' true) (E.put o'.dst c True) aa| .pan c=>∀E',Jh (.pan c) E' aa):CA C ab Jh Lf B T (f+1) L E σ:=by
 have bl:Region.ready .any ab L=[i,i']:=by
  split at hr
  .rename_i j j' hj;rw[T5]at hr;rw[hj,a3H hr.1,a3H hr.2]
  .cases hr
 refine⟨by rw[bl];exact c5f _ _,λj hj=>?_⟩;rw[bl]at hj;simp only[J2,b0l,or_false]at hj
 rcases hj with rfl|rfl
 .exact ⟨o,ho,.inr (.inl ⟨hg,h⟩)⟩
 .exact ⟨o',ho',.inr (.inl ⟨hg',h'⟩)⟩
end
theorem a4h(h:Jh .normal E σ):V0 C ab qs Jh S [] E σ:=h
theorem B6{l:List (Nat×List Nat)}(iy:qs.contains i=false)(ho:ab[i]?=some o)(hg:o.guard=none)(h:G5 C σ E o λr aa=>match r with| .ret c=>a2h S aa fl/\V0 C ab qs Jh S l (E.put o.dst c True) aa| .pan c=>∀E',Jh (.pan c) E' aa):V0 C ab qs Jh S ((i,fl)::l) E σ:=
 ⟨o,ho,.inr ⟨iy,.inl (.inl ⟨hg,h⟩)⟩⟩
theorem E8{l:List (Nat×List Nat)}{g:Prop}(iy:qs.contains i=false)(ho:ab[i]?=some o)(bi:J1 C σ ab o E c g)(h:a2h S σ fl/\V0 C ab qs Jh S l (E.put o.dst c g) σ):V0 C ab qs Jh S ((i,fl)::l) E σ:=
 ⟨o,ho,.inr ⟨iy,.inl (.inr ⟨c,g,bi,h⟩)⟩⟩
theorem b07{l:List (Nat×List Nat)}{g:Prop}(iy:qs.contains i=true)(ho:ab[i]?=some o)(bi:∀aa,J1 C aa ab o E c g)(h:V0 C ab qs Jh S l (E.put o.dst c g) σ):V0 C ab qs Jh S ((i,fl)::l) E σ:=
 ⟨o,ho,.inl ⟨iy,c,g,bi,h⟩⟩
end
structure c4a{α:Type} [DecidableEq α](P:Program)(kt:TypeId)(kc:α->CV)(kv:α->Value):Prop where
 rv:∀M w a v,RV M w (kc a) v->v=kv a
 rv':∀M w a,RV M w (kc a) (kv a)
 check:∀b a w,(Instr.checkKey b 10000 kt (kv a)).run P w= .ok () w
 eq:∀a b w,(Op.equal kt (kv a) (kv b)).run P w= .ok (decide (a=b)) w
 now:∃d,(∀w,(underlying kt).run P w= .ok d w)/\∀a b,Instr.sameNow d (kv a) (kv b)=none
 bits:∀a,Instr.sameBits 10000 (kv a) (kv a)=true
section
variable [DecidableEq α]{kc:α->CV}{kv:α->Value}
end
section
variable [DecidableEq α]{kc:α->CV}{kv:α->Value}
end
abbrev I:=List UInt8
variable{l:I}
def str(l:I):ByteArray:=⟨l.toArray⟩
abbrev sv(l:I):CV:=.val (.string (str l))
theorem a5i(l:I):(str l).size=l.length:=by simp[str,ByteArray.size]
theorem Q4(l:I):(str l).toList=l:=by
 rw[ByteArray.toList_eq];simp[str]
theorem c0N(a b:I):str a++str b=str (a++b):=by
 apply ByteArray.ext;simp[str]
theorem d6k(l:I)(i:Nat):(str l)[i]?=l[i]?:=by
 simp only[str,getElem?_def]
 split<;>rename_i h<;>split<;>rename_i h'<;>first|rfl|(exfalso;simp[ByteArray.size]at h h';omega)
theorem b9w(l:I)(a b:Nat):(str l).extract a b=str ((l.take b).drop a):=by
 apply ByteArray.ext;simp[str,List.drop_take]
section
theorem d0j(ho:o.op = .call {callee:=.builtin .len,args:=#[x],argTypes:=#[t]})(hx:E.valid x)(ex:E.val C x=sv l)(hu:∀w,(underlying t).run C.P w= .ok .string w):l8 C σ E o (.val (.int .i64 l.length)):=
 i8 λM w ρ _ h=>by
  have h1:=h x H0 hx;rw[ex]at h1;have h2:=p8 h1;refine⟨.int .i64 l.length,?_,.val _⟩;simp[execOp,ho,h2,resolve,invoke,builtin,Builtin.len_,hu,goInt,a5i]
theorem M9{ix:Operand}{i:Int}{k:IntKind}{b:UInt8}(ho:o.op = .index t x ix)(hx:E.valid x)(hi:E.valid ix)(ex:E.val C x=sv l)(ei:E.val C ix= .val (.int k i))(hu:∀w,(underlying t).run C.P w= .ok .string w)(h0:0<=i)(hb:l[i.toNat]?=some b):l8 C σ E o (.val (.int .u8 b.toNat)):=
 i8 λM w ρ _ h=>by
  have h1:=h x u0 hx;have h2:=h ix u0 hi;rw[ex]at h1;rw[ei]at h2;have ez:=p8 h1;have dI:=p8 h2;refine⟨.int .u8 b.toNat,?_,.val _⟩;simp[execOp,ho,ez,dI,Instr.index,hu,asIntOf,h0,d6k,hb]
theorem L3{a b:I}(ho:o.op = .binOp .add t x y t')(hx:E.valid x)(hy:E.valid y)(ex:E.val C x=sv a)(ey:E.val C y=sv b)(hl:a.length+b.length<=9223372036854775807):l8 C σ E o (sv (a++b)):=
 i8 λM w ρ _ h=>by
  have h1:=h x u0 hx;have h2:=h y u0 hy;rw[ex]at h1;rw[ey]at h2;have ez:=p8 h1;have dI:=p8 h2;refine⟨.string (str (a++b)),?_,.val _⟩;simp[execOp,ho,ez,dI,eqGuard,binOp,Op.stringOp,c0N];rw[a5i,a5i];omega
theorem b5i(a b:I):(a == b)=decide (a=b):=by
 by_cases h:a=b<;>simp[h]
theorem a7J(a b:I):b2L .eql (str a) (str b)=some (decide (a=b)):=by simp[b2L,Q4,b5i]
theorem c0v(a b:I):b2L .neq (str a) (str b)=some (!decide (a=b)):=by simp[b2L,Q4,b5i]
theorem b9h(a b:I):b2L .lss (str a) (str b)=some (Op.bytesLess a b):=by simp[b2L,Q4]
theorem b87(a b:I):b2L .leq (str a) (str b)=some (Op.bytesLess a b ||decide (a=b)):=by simp[b2L,Q4,b5i]
theorem a2X{op:BinOp}{a b:I}{r:Bool}(ho:o.op = .binOp op t x y t')(hx:E.valid x)(hy:E.valid y)(ex:E.val C x=sv a)(ey:E.val C y=sv b)(hv:b2L op (str a) (str b)=some r):l8 C σ E o (.val (.bool r)):=
 d1b ho hx hy ex ey hv
end
def bcv(b:UInt8):List CV:=[.val (.int .u8 b.toNat)]
section
theorem K7{lo hi:Option Operand}{a h:Nat}(ho:o.op = .slice t x lo hi none)(hx:E.valid x)(ex:E.val C x=sv l)(hu:∀w,(underlying t).run C.P w= .ok .string w)(hM:a16 C E lo 0 a)(iq:a16 C E hi l.length h)(h1:a<=h)(h2:h<=l.length):l8 C σ E o (sv ((l.take h).drop a)):=
 i8 λM w ρ hr hh=>by
  have ay:=hh x u0 hx;rw[ex]at ay;have hv:=p8 ay;have ir:∀v,lo=some v->∃k i,ρ v= .int k i/\0<=i/\i.toNat=a:=λv hv=>by
   subst hv;obtain⟨bP,k,i,he,h0,hi⟩:=hM;have:=hh v u0 bP;rw[he]at this;exact⟨k,i,p8 this,h0,hi⟩
  have fI:∀v,hi=some v->∃k i,ρ v= .int k i/\0<=i/\i.toNat=h:=λv hv=>by
   subst hv;obtain⟨bP,k,i,he,h0,hi⟩:=iq;have:=hh v u0 bP;rw[he]at this;exact⟨k,i,p8 this,h0,hi⟩
  have hb:(Instr.sliceBounds false l.length l.length (lo.map ρ) (hi.map ρ) none).run C.P w= .ok (a,h,l.length) w:=by
   have da:(a:Int)<=h:=by omega
   have hh2:(h:Int)<=l.length:=by omega
   cases lo with
   |none=>
    have:a=0:=by simpa[a16]using hM.symm
    subst this;cases hi with
    |none=>
     have:h=l.length:=by simpa[a16]using iq.symm
     subst this;simp[Instr.sliceBounds]
    |some v=>
     obtain⟨k,i,he,h0,hi⟩:=fI v O;have aM:i<=l.length:=by omega
     simp[Instr.sliceBounds,Instr.sliceBound,he,asIntOf,h0,aM,hi]
   |some u=>
    obtain⟨k,i,he,h0,hi0⟩:=ir u O;cases hi with
    |none=>
     have:h=l.length:=by simpa[a16]using iq.symm
     subst this;have aM:i<=l.length:=by omega
     simp[Instr.sliceBounds,Instr.sliceBound,he,asIntOf,h0,aM,hi0]
    |some v=>
     obtain⟨k',i',fJ,iu,bf⟩:=fI v O;have aM:i<=h:=by omega
     have fm:i'<=l.length:=by omega
     simp[Instr.sliceBounds,Instr.sliceBound,he,fJ,asIntOf,h0,iu,aM,fm,hi0,bf]
  refine⟨.string (str ((l.take h).drop a)),?_,.val _⟩;simp[execOp,ho,hv,Instr.sliceAt,Instr.slice,hu,a5i,hb,b9w]
theorem c3T{P:Program}{w:World}:∀(l:I) (bq:I),(forIn (m:=Sem) (l.map λb:UInt8=>Value.int .u8 (b.toNat:Int)) (str bq) λ(c:Value) (s:ByteArray)=>
 match c with
 | .int .u8 n=>(do pure (ForInStep.yield (s.push (UInt8.ofNat n.toNat))):Sem (ForInStep ByteArray))
 |_=>(do
  let _ ← (stuck "bytesToString: byte expected" :Sem PUnit)
  pure (ForInStep.yield s))).run P w= .ok (str (bq++l)) w
 | [],bq=>by simp
 |b::l,bq=>by
  have h:(str bq).push (UInt8.ofNat ((b.toNat:Int).toNat))=str (bq++[b]):=by
   apply ByteArray.ext;simp[str,ByteArray.push]
  rw[a8C,List.forIn_cons];simp only[Sem.run_bind,Sem.run_pure,Result.andThen_ok,h];rw[c3T l (bq++[b])];simp
theorem e1S{nn:Bool}{tok:Option Nat}(ho:o.op = .convert src dst x)(hx:E.valid x)(ex:E.val C x= .list (l.map bcv) nn tok)(hs:∀w,(underlying src).run C.P w= .ok (.slice e) w)(hd:∀w,(underlying dst).run C.P w= .ok .string w)(he:∀w,(underlying e).run C.P w= .ok (.int .u8) w):l8 C σ E o (sv l):=
 i8 λM w ρ hr hh=>by
  have ay:=hh x u0 hx;rw[ex]at ay;obtain⟨a,cap,b,off,s',vals,hv,bj,aQ,dY,eN,ha,cQ,aN,hc,aZ,_⟩:=ay.list_inv;refine⟨.string (str l),?_,.val _⟩;cases l with
  |nil=>
   cases a with
   |none=>simp[execOp,ho,hv,convert,hs,hd,he,Conv.bytesToString];rfl
   |some a=>simp[execOp,ho,hv,convert,hs,hd,he,Conv.bytesToString,loadCells,loadCellsFrom];rfl
  |cons y l=>
   have cL:=ha U;have bu:s'=1:=by have:=cQ (bcv y) U;simpa[bcv]using this.symm
   subst bu;have aS:∀j,j< (y::l).length->w.cell? ⟨b,off+j,none⟩=some ((((y::l).map λb:UInt8=>Value.int .u8 (b.toNat:Int))[j]?).getD undef):=λj hj=>by
    have h1:((y::l).map bcv)[j]?=some (bcv ((y::l)[j]'hj)):=by rw[O2,a1r hj];rfl
    have h2:=hc j 0 (bcv ((y::l)[j]'hj)) (.val (.int .u8 (((y::l)[j]'hj).toNat:Int))) h1 O;have h3:=p8 (aZ j 0 (bcv ((y::l)[j]'hj)) (.val (.int .u8 (((y::l)[j]'hj).toNat:Int))) h1 O);simp only[b17,a85]at h2;rw[h2.2,h3,O2,a1r hj];rfl
   have hl:=R6 (P:=C.P) _ _ aS;have aw:((List.range (y::l).length).map λj=>(((y::l).map λb:UInt8=>Value.int .u8 (b.toNat:Int))[j]?).getD undef)=(y::l).map λb:UInt8=>Value.int .u8 (b.toNat:Int):=by
    apply List.ext_getElem
    .simp
    .intro i h1 h2;simp at h1;simp[h1]
   have:=c3T (P:=C.P) (w:=w) (y::l) [];simp only[a7j]at this;rw[cL]at hv;simp only[K6]at hv;simp only[execOp,ho,hv,convert,Sem.run_bind,hs,hd,he,Result.andThen_ok,Conv.bytesToString,hl,aw];simp only[List.forIn_toArray];have e0:(ByteArray.empty)=str []:=O;rw[e0];refine(n_7 (λr=>(r.andThen λa w'=>Sem.run C.P (pure (Value.string a)) w').andThen λa w'=>Sem.run C.P (pure (Next.value a)) w') this).trans ?_;simp
end
theorem Rel.settleBlock(hr:Rel C M σ w){b:Nat}(hb:b<w.heap.size)(cR:∀(k:Nat) (p:Pl) (ob:b9),M.pl[k]?=some p->σ[k]?=some ob->ob.live=true->p.block≠b)(hk:¬M.keep b):Ext M w (M.settle b) w/\Rel C (M.settle b) σ w:=by
 have hx:Ext M w (M.settle b) w:=⟨⟨[],by simp[z8.settle]⟩,λ_ h=>.inl h,λ_ _ h=>.inr h,λ_ _=>O,λ_ _ _=>O,n_6 _,T4,O,O,O,λb' h=>⟨h,O,λf=>(by
  rcases f with f|f
  .exact f
  .exact absurd (f▸h) hk),λ_ f=>f⟩⟩
 refine⟨hx,hr.len,λb' o ha=>?_,λk p x hp hs=>?_,hr.inj,λg cells hg=>(hr.glob g cells hg).mono hx,hr.kep,hr.nk⟩
 .rcases ha with(ha|ha)|ha
  .exact hr.blk b' o (.inl ha)
  .omega
  .exact hr.blk b' o (.inr ha)
 .obtain ⟨h1,h2⟩:=hr.obj k p x hp hs;by_cases hl:x.live=true
  .refine ⟨h1.mono hx O (λ_ _ _ _ h=>h),?_⟩;have hf:¬M.full p.block->¬(M.settle b).full p.block:=λh h'=>by
    rcases h' with h'|h'
    .exact h h'
    .exact cR k p x hp hs hl h'
   cases x<;>first|trivial|exact hf h2|exact⟨hf h2.1,h2.2⟩
  .cases x<;>first|exact⟨J,J⟩|simp[b9.live]at hl
theorem b2u{a:Array α}{p:α->Bool}(h:∀x∈a,p x=true):a.filter p=a:=by
 apply Array.toList_inj.1;rw[Array.toList_filter];exact List.filter_eq_self.2 λx hx=>h x (D hx)
theorem a94{a:Array α}{p:α->Bool}(h:∀x∈a,p x=false):a.filter p= #[]:=by
 apply Array.toList_inj.1;rw[Array.toList_filter];exact List.filter_eq_nil_iff.2 λx hx=>by rw[h x (D hx)];simp
theorem b3s{ae:Array MapEntry}(ha:b1b ae){seen:Array Nat}{e:MapEntry}(hi:(ae.toList.filter λe=>!seen.contains e.born)[i]?=some e):
 (ae.toList.filter λx=>!(seen.push e.born).contains x.born)=(ae.toList.filter λe=>!seen.contains e.born).eraseIdx i:=by
 have gB:∀(i j:Nat) (e e':MapEntry),ae.toList[i]?=some e->ae.toList[j]?=some e'->e.born=e'.born->i=j:=λi j e e' h1 h2 h3=>ha i j e e' (D h1) (D h2) h3;have hc:∀x:MapEntry,(seen.push e.born).contains x.born=(seen.contains x.born ||x.born == e.born):=λx=>by
  rw[Array.contains_push]
 simp only[hc];generalize ae.toList=l at hi gB;clear ha hc
 induction l generalizing i with
 |nil=>simp at hi
 |cons y l ih=>
  have hag':∀(i j:Nat) (e e':MapEntry),l[i]?=some e->l[j]?=some e'->e.born=e'.born->i=j:=λi j a b h1 h2 h3=>by
   have:=gB (i+1) (j+1) a b (D h1) (D h2) h3;omega
  by_cases hy:seen.contains y.born=true
  .have h1:(!seen.contains y.born)=false:=by rw[hy];rfl
   rw[b2n,W (by rw[h1];simp)]at hi;rw[b2n,W (by rw[hy];simp),b2n,W (by rw[h1];simp)];exact ih hi hag'
  .have iH:seen.contains y.born=false:=D hy;have h1:(!seen.contains y.born)=true:=by rw[iH];rfl
   have e1:(List.filter (λe=>!seen.contains e.born) (y::l))=y::l.filter λe=>!seen.contains e.born:=by rw[b2n,Q h1]
   rw[e1]at hi⊢
   rcases i with _|i
   .simp at hi;subst hi;rw[b2n,W U];rw[List.eraseIdx_zero,List.tail_cons];refine List.filter_congr λx hx=>?_;have ax:x.born≠y.born:=λhe=>by
     obtain⟨j,hj⟩:=K5.1 hx;have:=gB (j+1) 0 x y (D hj) O he;omega
    simp[ax]
   .rw [c42]at hi;have ax:y.born≠e.born:=λhe=>by
     have hm:=a7e.1 (n_3 hi);obtain⟨j,hj⟩:=K5.1 hm.1;have:=gB 0 (j+1) y e O (D hj) he;omega
    rw[b2n,Q (by rw[iH];simp[ax]),List.eraseIdx_cons_succ,ih hi hag']
def I4(ae:Array MapEntry)(seen:Array Nat):Array MapEntry:=ae.filter λe=>!seen.contains e.born
theorem b8H(ae:Array MapEntry)(seen:Array Nat):(I4 ae seen).toList=ae.toList.filter λe=>!seen.contains e.born:=Array.toList_filter ..
section
theorem b6b{es:List (CV×CV)}(ho:o.op = .range t x)(hx:E.valid x)(ex:E.val C x= .map k)(hu:∀w,(underlying t).run C.P w= .ok (.map kt et) w)(ao:σ[k]?=some (.map es))(hK:K (.ret (.ptr σ.length 0)) (σ.set k .dead++[.iter [] es])):G5 C σ E o K:=λM w ρ hr h=>by
 have h1:=h x u0 hx;rw[ex]at h1;generalize hv:ρ x=v at h1;cases h1 with
 |map hp=>
  rename_i p;obtain⟨h1,h2⟩:=hr.obj k p _ hp ao;have af:=h1.lt O;obtain⟨ae,ai,g1,g2,g3⟩:=h1;have hnk:=hr.nk k p _ hp ao O;have dB:=hr.dead k;have bk:∀(i:Nat) (e:MapEntry),ae[i]?=some e->e.born <ai:=λi e he=>by
   have af:i<es.length:=by rw[<- g2.1];exact(a1a.1 he).1
   obtain⟨e',h1,_,_,h4⟩:=g3 i es[i] (by simp[af]);rw[he]at h1;injection h1 with h1
   rw[h1];exact h4
  obtain⟨bh,aI⟩:=dB.settleBlock af (λk' p' aL aG aT bL hb=>by
   rw[a8X]at aT;split at aT
   .split at aT
    .injection aT with aT;subst aT;cases bL
    .cases aT
   .rename_i ax;exact ax (hr.inj k k' p p' _ _ hp aG ao aT O bL hb.symm)) hnk
  have au:(execOp ρ o).run C.P w= .ok (.value (.pointer (some ⟨w.heap.size,0,none⟩))) (w.alloc (.mapIter (some p.block) ai #[] ai)):=by
   simp[execOp,ho,hv,Instr.range,hu,N0 g1]
  rw[au];have aE:=Ext.alloc aI ⟨w.heap.size,0,0⟩ (.mapIter (some p.block) ai #[] ai);have hk:=(dB.settleBlock af (λk' p' aL aG aT bL hb=>by
   rw[a8X]at aT;split at aT
   .split at aT
    .injection aT with aT;subst aT;cases bL
    .cases aT
   .rename_i ax;exact ax (hr.inj k k' p p' _ _ hp aG ao aT O bL hb.symm)) hnk).2
  refine⟨.ptr σ.length 0,_,_,bh.trans aE,aI.alloc ⟨w.heap.size,0,0⟩ _ (.iter [] es) O ⟨p.block,#[],ai,ae,ai,r9 _ _,.inr O,?_,.inl O,g2.2,bk,?_,λi x hi=>?_,λi x hi=>by simp at hi⟩,RV.ptr (p:=⟨w.heap.size,0,0⟩) (by
   have hl:=aI.len;simp at hl;simp[z8.add,<- hl]),hK⟩
  .rw [K4 w _ af];exact g1
  .have:(ae.toList.filter λe=>!(#[]:Array Nat).contains e.born)=ae.toList:=List.filter_eq_self.2 λx _=>by simp
   rw[this];simpa using g2.1
  .have:(ae.toList.filter λe=>!(#[]:Array Nat).contains e.born)=ae.toList:=List.filter_eq_self.2 λx _=>by simp
   rw[this];obtain⟨e,f1,f2,f3,_⟩:=g3 i x hi;exact⟨e,D f1,(f2.mono bh).mono aE,(f3.mono bh).mono aE⟩
theorem b2x{q:Question}(h:q.forced=false):(choose q).run P w= .ok (q.cut (w.tape w.drawn q)) w.drew:=by
 simp[choose,Sem.run,h]
theorem c2t{it:Operand}{aD left:List (CV×CV)}(ho:o.op = .next it false)(hx:E.valid it)(ex:E.val C it= .ptr q 0)(ao:σ[q]?=some (.iter aD left))(hz:left=[]->K (.ret (.tup [.val (.bool false)])) σ)
 (hs:∀(i:Nat) (x:CV×CV),left[i]?=some x->K (.ret (.tup [.val (.bool true),x.1,x.2])) (σ.set q (.iter [x] (left.eraseIdx i)))):G5 C σ E o K:=λM w ρ hr h=>by
 have h1:=h it u0 hx;rw[ex]at h1;generalize hv:ρ it=v at h1;cases h1 with
 |ptr hp=>
  rename_i p;obtain⟨h1,hf,hc⟩:=hr.obj q p _ hp ao;have af:=h1.lt O;obtain⟨mb,seen,bF,ae,ai,g1,g2,g3,g4,g5,g6,g7,g8,_⟩:=h1;have bN:∀e∈ae,e.born <ai:=λe he=>by
   obtain⟨i,hi⟩:=Array.mem_iff_getElem?.1 he;exact g6 i e hi
  have hA:=b8H ae seen;have hmemA:∀e∈(I4 ae seen),e.born <ai:=λe he=>bN e (Array.mem_filter.1 (show e∈ae.filter λe=>!seen.contains e.born from he)).1;have bQ:((I4 ae seen).filter λe=>decide (e.born <ai))=I4 ae seen:=b2u λx hx=>by simpa using hmemA x hx
  have bC:((I4 ae seen).filter λe=>decide (e.born>=ai))= #[]:=a94 λx hx=>by have:=hmemA x hx;simp;omega
  have cM:(!seen.isEmpty && !ae.isEmpty &&ae.all λe=>decide (e.born>=bF))=false:=by
   rcases g4 with rfl|rfl
   .simp
   .by_cases he:ae.isEmpty=true
    .simp [he]
    .have:∃e,e∈ae:=by
      have aK:0<ae.size:=by
       rcases b9a ae.size with h|h
       .exact absurd (by simp[Array.isEmpty,h]) he
       .exact h
      exact⟨ae[0],Array.getElem_mem aK⟩
     obtain⟨e,he⟩:=this;have:(ae.all λe=>decide (e.born>=bF))=false:=by
      rw[c3r];intro hh;rw[Array.all_eq_true_iff_forall_mem]at hh;have h1:=hh e he;have h2:=bN e he;simp at h1;omega
     rw[this];simp
  have dG:(getObj p.block).run C.P w= .ok (.mapIter (some mb) ai seen bF) w:=by simp[getObj,Sem.run,g1]
  have hrun0:(execOp ρ o).run C.P w=((choose (.mapNext ((if(I4 ae seen).isEmpty then #[none]else #[])++((I4 ae seen)++#[]).map some).size)).run C.P w).andThen λj w'=>
   ((match((if(I4 ae seen).isEmpty then #[none]else #[])++((I4 ae seen)++#[]).map some)[j]? with
    |some (some e)=>(do
     setObj p.block (.mapIter (some mb) ai (seen.push e.born) ai)
     pure (Next.value (.tuple #[.bool true,e.key,e.val])):Sem Next)
    |some none=>pure (Next.value (.tuple #[.bool false]))
    |none=>stuck "Next: no such candidate").run C.P w'):=by
   have hun:(ae.filter λe=>!seen.contains e.born)=I4 ae seen:=O;simp only[execOp,ho,hv,Instr.next,Sem.run_bind,dG,Result.andThen_ok,N0 g3,cM,hun,bQ,bC];simp only[b09,if_false,Sem.run_bind,Sem.run_pure];cases eC:(choose (.mapNext ((if(I4 ae seen).isEmpty then #[none]else #[])++((I4 ae seen)++#[]).map some).size)).run C.P w with
   |halt x w'=>rfl
   |ok j w'=>
    simp only[Result.andThen_ok];generalize ((if(I4 ae seen).isEmpty=true then #[none]else #[])++Array.map some (I4 ae seen++#[]))[j]?=cand
    rcases cand with _|_|e
    .simp [stuck]
    .simp
    .simp only[Sem.run_bind];generalize (setObj p.block (Obj.mapIter (some mb) ai (seen.push e.born) ai)).run C.P w'=r;cases r<;>simp
  rw[hrun0];cases hL:(I4 ae seen).toList with
  |nil=>
   have hempty:(I4 ae seen)= #[]:=Array.toList_inj.1 hL;have fc:left=[]:=by
    rw[<- hA,hL]at g7;exact c1p g7.symm
   rw[hempty];have eC:(choose (.mapNext (((if(#[]:Array MapEntry).isEmpty then #[none]else #[])++((#[]:Array MapEntry)++#[]).map some).size))).run C.P w= .ok 0 w:=by
    simp[choose,Sem.run,Question.forced]
   rw[eC];have eP:((if(#[]:Array MapEntry).isEmpty=true then #[none]else #[])++Array.map some ((#[]:Array MapEntry)++#[]))[0]?=some none:=by simp
   simp only[Result.andThen_ok];rw[eP];show a1i C M w K (.tuple #[.bool false]) w;exact⟨.tup [.val (.bool false)],σ,M,Ext.refl M w,hr,.tup O (λi c hi=>by
    rcases i with _|i
    .simp at hi;subst hi;exact .val _
    .simp at hi),hz fc⟩
  |cons e0 r0=>
   have ax:(I4 ae seen).isEmpty=false:=by
    rw[<- Array.isEmpty_toList,hL];rfl
   have aK:(I4 ae seen).size=(ae.toList.filter λe=>!seen.contains e.born).length:=by rw[<- hA];simp
   rw[ax];simp only[b09,if_false,Array.append_empty,Array.empty_append];have key:∀(j:Nat) (w':World) (M':z8),Ext M w M' w'->Rel C M' σ w'->M'.pl=M.pl->w'.heap=w.heap->j< (I4 ae seen).size->b0Y C.P (a1i C M w K) (U1 C M w K) ((match((I4 ae seen).map some)[j]? with
    |some (some e)=>(do
     setObj p.block (.mapIter (some mb) ai (seen.push e.born) ai)
     pure (Next.value (.tuple #[.bool true,e.key,e.val])):Sem Next)
    |some none=>pure (Next.value (.tuple #[.bool false]))
    |none=>stuck "Next: no such candidate").run C.P w'):=by
    intro j w' M' ay bl bc gE hj;obtain⟨e,he⟩:∃e,(I4 ae seen)[j]?=some e:=⟨_,a1t hj⟩;have fJ:(ae.toList.filter λe=>!seen.contains e.born)[j]?=some e:=by rw[<- hA];simpa using he
    have hm:((I4 ae seen).map some)[j]?=some (some e):=by rw[c0G,he];rfl
    rw[hm];have hset:(setObj p.block (.mapIter (some mb) ai (seen.push e.born) ai)).run C.P w'= .ok () (World.putObj w' p.block (.mapIter (some mb) ai (seen.push e.born) ai)):=by
     simp[setObj,Sem.run,World.putObj,gE,g1]
    simp only[Sem.run_bind,hset,Result.andThen_ok,Sem.run_pure];have bS:j<left.length:=by rw[<- g7];exact(n_2.1 fJ).1
    obtain⟨x,dA⟩:∃x,left[j]?=some x:=⟨left[j],by simp[bS]⟩;obtain⟨e2,f1,f2,f3⟩:=g8 j x dA;rw[fJ]at f1;injection f1 with f1
    subst f1;have aG:M'.pl[q]?=some p:=by rw[bc];exact hp
    obtain⟨ob1,gR,bx⟩:=bl.obj q p _ aG ao;have bt:p.block <w'.heap.size:=ob1.lt O;have aE:=Ext.putObj (w:=w') (.mapIter (some mb) ai (seen.push e.born) ai) (bl.nk q p _ aG ao O) gR bx;have hne2:p.block≠mb:=λhb=>by
     rw[hb]at g1;rw[g1]at g3;cases g3
    have aW:=bl.putObj (ob:=.iter [x] (left.eraseIdx j)) aG ao O gR bx (.mapIter (some mb) ai (seen.push e.born) ai) ⟨mb,seen.push e.born,ai,ae,ai,World.putObj_same w' _ bt,ay.full _ g2,by rw[World.putObj_other w' _ hne2,gE];exact g3,.inr O,g5,g6,by
     rw[b3s g5 fJ,List.length_eraseIdx,List.length_eraseIdx,g7],λi y hi=>by
     rw[b3s g5 fJ];rw[List.getElem?_eraseIdx]at hi⊢;split at hi
     .rename_i hij;rw[Q hij];obtain⟨e3,u1,u2,u3⟩:=g8 i y hi;exact⟨e3,u1,(u2.mono ay).mono aE,(u3.mono ay).mono aE⟩
     .rename_i hij;rw[W hij];obtain⟨e3,u1,u2,u3⟩:=g8 (i+1) y hi;exact⟨e3,u1,(u2.mono ay).mono aE,(u3.mono ay).mono aE⟩,λi y hi=>by
     rcases i with _|i
     .simp at hi;subst hi;obtain⟨j0,hj0⟩:=Array.mem_iff_getElem?.1 (Array.mem_filter.1 (show e∈ae.filter λe=>!seen.contains e.born from b5x he)).1;exact⟨O,j0,e,hj0,U,(f2.mono ay).mono aE,(f3.mono ay).mono aE⟩
     .simp at hi⟩
    refine⟨.tup [.val (.bool true),x.1,x.2],_,M',ay.trans aE,aW,.tup O (λi c hi=>?_),hs j x dA⟩
    rcases i with _|_|_|i
    .simp at hi;subst hi;exact .val _
    .simp at hi;subst hi;exact(f2.mono ay).mono aE
    .simp at hi;subst hi;exact(f3.mono ay).mono aE
    .simp at hi
   have dU:0< (I4 ae seen).size:=by rw[<- b0d,hL];simp
   have hszm:((I4 ae seen).map some).size=(I4 ae seen).size:=by simp
   rw[hszm];by_cases h1:(I4 ae seen).size<=1
   .have eC:(choose (.mapNext (I4 ae seen).size)).run C.P w= .ok 0 w:=by
     simp[choose,Sem.run,Question.forced,h1]
    rw[eC];exact key 0 w M (Ext.refl M w) hr O O dU
   .have eC:(choose (.mapNext (I4 ae seen).size)).run C.P w= .ok ((Question.mapNext (I4 ae seen).size).cut (w.tape w.drawn (.mapNext (I4 ae seen).size))) w.drew:=b2x (by simp[Question.forced];omega);rw[eC];obtain⟨dB,gc⟩:=hr.drew;exact key _ w.drew M gc dB O O (a6i _ dU)
theorem b5t{it:Operand}{x:CV×CV}{left:List (CV×CV)}(ho:o.op = .entry it)(hx:E.valid it)(ex:E.val C it= .ptr q 0)(ao:σ[q]?=some (.iter [x] left)):l8 C σ E o (.tup [x.1,x.2]):=
 i8 λM w ρ hr h=>by
  have h1:=h it u0 hx;rw[ex]at h1;generalize hv:ρ it=v at h1;cases h1 with
  |ptr hp=>
   rename_i p;obtain⟨mb,seen,bF,ae,ai,g1,g2,g3,g4,g5,g6,g7,g8,g9⟩:=(hr.obj q p _ hp ao).1;obtain⟨hl,j,e,f1,f2,f3,f4⟩:=g9 0 x O;have hfind:ae.find? (λe'=>e'.born == e.born)=some e:=by
    rw[<- Array.find?_toList];have hj:ae.toList[j]?=some e:=D f1;obtain⟨af,hje⟩:=n_2.1 hj;rw[List.find?_eq_some_iff_getElem];refine⟨U,j,af,hje,λk hk=>?_⟩;have ax:ae.toList[k].born≠e.born:=λhb=>by
     have:=g5 k j ae.toList[k] e U f1 hb;omega
    simpa using ax
   have dG:(getObj p.block).run C.P w= .ok (.mapIter (some mb) ai seen bF) w:=by simp[getObj,Sem.run,g1]
   refine⟨.tuple #[e.key,e.val],?_,.tup O λi c hi=>?_⟩
   .simp [execOp,ho,hv,Instr.entry,dG,f2,N0 g3,hl,hfind]
   .rcases i with _|_|i
    .simp at hi;subst hi;exact f3
    .simp at hi;subst hi;exact f4
    .simp at hi
end
structure T6{α:Type} [DecidableEq α](P:Program)(kt:TypeId)(kc:α->CV)(kv:α->Value):Prop where
 rv:∀M w a v,RV M w (kc a) v->v=kv a
 rv':∀M w a,RV M w (kc a) (kv a)
 check:∀b a w,(Instr.checkKey b 10000 kt (kv a)).run P w= .ok () w
 bits:∀a,Instr.sameBits 10000 (kv a) (kv a)=true
 none:∀(a:α) (l:List α) (ae:List MapEntry),ae.length=l.length->(∀(i:Nat) (x:α),l[i]?=some x->∃e,ae[i]?=some e/\e.key=kv x)->a∉l->∀w,(Instr.findKey kt (kv a) ae).run P w= .ok none w
 some:∀(a:α) (l:List α) (ae:List MapEntry),ae.length=l.length->(∀(i:Nat) (x:α),l[i]?=some x->∃e,ae[i]?=some e/\e.key=kv x)->∀(i:Nat) (e:MapEntry),l[i]?=some a->(∀j,j<i->l[j]?≠some a)->ae[i]?=some e->∀w,(Instr.findKey kt (kv a) ae).run P w= .ok (some (i,e.val)) w
section
variable [DecidableEq α]{kc:α->CV}{kv:α->Value}
theorem a4W{d:TypeDesc}(hs:∀a b,Instr.sameNow d (kv a) (kv b)=some (decide (a=b)))(a:α):∀(l:List α) (ae:List MapEntry) (n:Nat),ae.length=l.length->(∀(i:Nat) (x:α),l[i]?=some x->∃e,ae[i]?=some e/\e.key=kv x) ->
 (a∉l->Instr.findNow d (kv a) ae n=some none)/\∀(i:Nat) (e:MapEntry),l[i]?=some a->(∀j,j<i->l[j]?≠some a)->ae[i]?=some e->Instr.findNow d (kv a) ae n=some (some (n+i,e.val))
 | [],[],n,_,_=>⟨λ_=>O,λi e h=>by simp at h⟩
 | [],_::_,_,h,_=>by simp at h
 |_::_,[],_,h,_=>by simp at h
 |x::l,e0::ae,n,hl,hh=>by
  obtain⟨e',he,hk⟩:=hh 0 x O;simp at he;subst he;obtain⟨ih1,ih2⟩:=a4W hs a l ae (n+1) (D hl) λi y hi=>hh (i+1) y (D hi);by_cases hax:a=x
  .subst hax;refine⟨λh=>absurd U h,λi e hi fo he=>?_⟩
   rcases i with _|i
   .simp at he;subst he;simp[Instr.findNow,hk,hs]
   .exact absurd O (fo 0 G)
  .have step:Instr.findNow d (kv a) (e0::ae) n=Instr.findNow d (kv a) ae (n+1):=by simp[Instr.findNow,hk,hs,hax]
   refine⟨λh=>by rw[step];exact ih1 (λhm=>h (by simp[hm])),λi e hi fo he=>?_⟩
   rcases i with _|i
   .simp at hi;exact absurd hi.symm hax
   .rw [step,ih2 i e (D hi) (λj hj=>by simpa using fo (j+1) G) (D he)]
    congr 3;omega
theorem a9H{d:TypeDesc}(aZ:∀M w a v,RV M w (kc a) v->v=kv a)(hrv':∀M w a,RV M w (kc a) (kv a))(hu:∀w,(underlying kt).run P w= .ok d w)(hs:∀a b,Instr.sameNow d (kv a) (kv b)=some (decide (a=b)))
 (hc:∀b a w,(Instr.checkKey b 10000 kt (kv a)).run P w= .ok () w)(hb:∀a,Instr.sameBits 10000 (kv a) (kv a)=true):T6 P kt kc kv where
 rv:=aZ
 rv':=hrv'
 check:=hc
 bits:=hb
 none a l ae h1 h2 h3 w:=by simp[Instr.findKey,hu,(a4W hs a l ae 0 h1 h2).1 h3]
 some a l ae h1 h2 i e h3 h4 h5 w:=by
  have:=(a4W hs a l ae 0 h1 h2).2 i e h3 h4 h5;simp[Instr.findKey,hu,this]
theorem a5b(heq:∀a b w,(Op.equal kt (kv a) (kv b)).run P w= .ok (decide (a=b)) w)(a:α):∀(l:List α) (ae:List MapEntry) (n:Nat),ae.length=l.length->(∀(i:Nat) (x:α),l[i]?=some x->∃e,ae[i]?=some e/\e.key=kv x) ->
 (a∉l->∀w,(Instr.findAsking kt (kv a) ae n).run P w= .ok none w)/\∀(i:Nat) (e:MapEntry),l[i]?=some a->(∀j,j<i->l[j]?≠some a)->ae[i]?=some e->∀w,(Instr.findAsking kt (kv a) ae n).run P w= .ok (some (n+i,e.val)) w
 | [],[],n,_,_=>⟨λ_ w=>by simp[Instr.findAsking],λi e h=>by simp at h⟩
 | [],_::_,_,h,_=>by simp at h
 |_::_,[],_,h,_=>by simp at h
 |x::l,e0::ae,n,hl,hh=>by
  obtain⟨e',he,hk⟩:=hh 0 x O;simp at he;subst he;obtain⟨ih1,ih2⟩:=a5b heq a l ae (n+1) (D hl) λi y hi=>hh (i+1) y (D hi);by_cases hax:a=x
  .subst hax;refine⟨λh=>absurd U h,λi e hi fo he w=>?_⟩
   rcases i with _|i
   .simp at he;subst he;simp[Instr.findAsking,hk,heq]
   .exact absurd O (fo 0 G)
  .have step:∀w,(Instr.findAsking kt (kv a) (e0::ae) n).run P w=(Instr.findAsking kt (kv a) ae (n+1)).run P w:=λw=>by simp[Instr.findAsking,hk,heq,hax]
   refine⟨λh w=>by rw[step];exact ih1 (λhm=>h (by simp[hm])) w,λi e hi fo he w=>?_⟩
   rcases i with _|i
   .simp at hi;exact absurd hi.symm hax
   .rw [step,ih2 i e (D hi) (λj hj=>by simpa using fo (j+1) G) (D he)]
    congr 3;omega
theorem c4a.find(hK:c4a P kt kc kv):T6 P kt kc kv where
 rv:=hK.rv
 rv':=hK.rv'
 check:=hK.check
 bits:=hK.bits
 none a l ae h1 h2 h3 w:=by
  obtain⟨d,hd,hs⟩:=hK.now;cases ae with
  |nil=>simp[Instr.findKey,hd,Instr.findNow]
  |cons e ae=>
   cases l with
   |nil=>simp at h1
   |cons x l=>
    obtain⟨e',he,hk⟩:=h2 0 x O;simp at he;subst he;have hn:Instr.findNow d (kv a) (e::ae) 0= .none:=by simp[Instr.findNow,hk,hs]
    simp[Instr.findKey,hd,hn,(a5b hK.eq a (x::l) (e::ae) 0 h1 h2).1 h3]
 some a l ae h1 h2 i e h3 h4 h5 w:=by
  obtain⟨d,hd,hs⟩:=hK.now;cases ae with
  |nil=>simp at h5
  |cons e0 ae=>
   cases l with
   |nil=>simp at h1
   |cons x l=>
    obtain⟨e',he,hk⟩:=h2 0 x O;simp at he;subst he;have hn:Instr.findNow d (kv a) (e0::ae) 0= .none:=by simp[Instr.findNow,hk,hs]
    have:=(a5b hK.eq a (x::l) (e0::ae) 0 h1 h2).2 i e h3 h4 h5 w;simp[Instr.findKey,hd,hn,this]
end
theorem c9x(k:IntKind)(hu:∀w,(underlying kt).run P w= .ok (.int k) w):T6 (α:=Int) P kt (λa=>.val (.int k a)) (λa=>.int k a):=
 a9H (λ_ _ _ _ h=>p8 h) (λ_ _ _=>.val _) hu (λa b=>by simp[Instr.sameNow];rfl)
  (λb a w=>by
   have:∀n,(Instr.checkKey b (n+1) kt (.int k a)).run P w= .ok () w:=λn=>by simp[Instr.checkKey,hu]
   exact this 9999)
  (λa=>by
   have:∀n,Instr.sameBits (n+1) (.int k a) (.int k a)=true:=λn=>by simp[Instr.sameBits]
   exact this 9999)
theorem b0E(a b:I):(str a == str b)=decide (a=b):=by
 have h:(str a == str b)=((str a).data ==(str b).data):=O;rw[h];by_cases e:a=b
 .subst e;simp
 .have:¬(str a).data=(str b).data:=λh'=>e (by simpa[str]using h');simp[e,this]
theorem e0N(hu:∀w,(underlying kt).run P w= .ok .string w):T6 (α:=I) P kt sv (λa=>.string (str a)):=
 a9H (λ_ _ _ _ h=>p8 h) (λ_ _ _=>.val _) hu (λa b=>by
  simp only[Instr.sameNow];rw[b0E])
  (λb a w=>by
   have:∀n,(Instr.checkKey b (n+1) kt (.string (str a))).run P w= .ok () w:=λn=>by simp[Instr.checkKey,hu]
   exact this 9999)
  (λa=>by
   have:∀n,Instr.sameBits (n+1) (.string (str a)) (.string (str a))=true:=λn=>by simp[Instr.sameBits,b0E]
   exact this 9999)
def gm{α β:Type}(kc:α->CV)(vc:β->CV)(l:List (α×β)):List (CV×CV):=l.map λx=>(kc x.1,vc x.2)
def glk{α β:Type} [DecidableEq α]:List (α×β)->α->Option β
 | [],_=>none
 |(b,c)::l,a=>if a=b then some c else glk l a
def L5{α β:Type} [DecidableEq α]:List (α×β)->α->β->List (α×β)
 | [],a,c=>[(a,c)]
 |(b,d)::l,a,c=>if a=b then(b,c)::l else(b,d)::L5 l a c
theorem b6G [DecidableEq α](l:List (α×Int))(a:α):((glk l a).map λv:Int=>CV.val (.int .i64 v)).getD (I0 (.int .i64 0))= .val (.int .i64 ((glk l a).getD 0)):=by cases glk l a<;>rfl
theorem b8S [DecidableEq α]{l:List (α×β)}:glk l a=none↔a∉l.map (·.1):=by
 induction l with
 |nil=>simp[glk]
 |cons x l ih=>
  obtain⟨b,c⟩:=x;by_cases h:a=b
  .simp [glk,h]
  .simp [glk,h,ih]
theorem a7U{α β:Type} [DecidableEq α]:∀{l:List (α×β)} {a:α} {c:β},glk l a=some c->∃i:Nat,l[i]?=some (a,c)/\∀j,j<i->(l.map (·.1))[j]?≠some a
 | [],_,_,h=>by cases h
 |(b,d)::l,a,c,h=>by
  by_cases df:a=b
  .rw [glk,Q df]at h;injection h with h
   subst h df;exact⟨0,O,λj hj=>by omega⟩
  .rw [glk,W df]at h;obtain⟨i,h1,h2⟩:=a7U h;refine⟨i+1,D h1,λj hj=>?_⟩
   rcases j with _|j
   .simpa using λe=>df e.symm
   .simpa using h2 j G
theorem c6E [DecidableEq α]{l:List (α×β)}{c:β}(h:glk l a=none):L5 l a c=l++[(a,c)]:=by
 induction l with
 |nil=>rfl
 |cons x l ih=>
  obtain⟨b,d⟩:=x;by_cases df:a=b
  .rw [glk,Q df]at h;cases h
  .rw [glk,W df]at h;rw[L5,W df,ih h];rfl
theorem b30{α β:Type} [DecidableEq α]{c d:β}{a:α}:∀{l:List (α×β)} {i:Nat},l[i]?=some (a,d)->(∀j,j<i->(l.map (·.1))[j]?≠some a)->L5 l a c=l.set i (a,c)
 | [],i,h,_=>by simp at h
 |(b,e)::l,i,h,hm=>by
  rcases i with _|i
  .simp at h;rw[L5,Q h.1.symm,h.1];rfl
  .have df:¬a=b:=λe=>hm 0 G a2d;rw[L5,W df,b30 (D h) (λj hj=>by simpa using hm (j+1) G)];rfl
theorem G8 [DecidableEq α](l:List (α×β))(a b:α)(c:β):glk (L5 l a c) b=if b=a then some c else glk l b:=by
 induction l with
 |nil=>rfl
 |cons x l ih=>
  obtain⟨k,d⟩:=x;by_cases hak:a=k
  .subst hak;rw[L5,Q O,glk,glk];by_cases h:b=a<;>simp[h]
  .rw [L5,W hak,glk,glk,ih];by_cases h:b=k
   .subst h;rw[Q O,Q O,W (λe=>hak e.symm)]
   .rw [W h,W h]
section
variable [DecidableEq α]{kc:α->CV}{kv:α->Value}{vc:β->CV}
theorem d2k(hK:T6 C.P kt kc kv){l:List (α×β)}(h:R2 M w p (.map (gm kc vc l))):
 ∃ae ai,w.heap[p.block]?=some (.map ae ai)/\(ae.size=l.length/\b1b ae)/\(∀(i:Nat) (x:α),(l.map (·.1))[i]?=some x->∃e,ae.toList[i]?=some e/\e.key=kv x)/\∀(i:Nat) (x:α×β),l[i]?=some x->∃e,ae[i]?=some e/\e.key=kv x.1/\RV M w (vc x.2) e.val/\e.born <ai:=by
 obtain⟨ae,ai,h1,h2,h3⟩:=h;have key:∀(i:Nat) (x:α×β),l[i]?=some x->∃e,ae[i]?=some e/\e.key=kv x.1/\RV M w (vc x.2) e.val/\e.born <ai:=λi x hi=>by
  obtain⟨e,he,hk,hv,hb⟩:=h3 i (kc x.1,vc x.2) (by simp[gm,hi]);exact⟨e,he,hK.rv _ _ _ _ hk,hv,hb⟩
 refine⟨ae,ai,h1,⟨by simpa[gm]using h2.1,h2.2⟩,λi x hi=>?_,key⟩;rw[O2,Q3]at hi;obtain⟨y,hy,rfl⟩:=hi;obtain⟨e,he,hk,_⟩:=key i y hy;exact⟨e,D he,hk⟩
theorem a7N(hK:T6 C.P kt kc kv){l:List (α×β)}{ok:Bool}(h:R2 M w p (.map (gm kc vc l)))(hu:∀w,(underlying t).run C.P w= .ok (.map kt et) w)(hz:∀w,(zeroValue et).run C.P w= .ok z w):
 match glk l a with
 |none=>(Instr.lookup t (.map (some p.block)) (kv a) ok).run C.P w= .ok (if ok=true then .tuple #[z,.bool false]else z) w
 |some c=>∃v,RV M w (vc c) v/\(Instr.lookup t (.map (some p.block)) (kv a) ok).run C.P w= .ok (if ok=true then .tuple #[v,.bool true]else v) w:=by
 obtain⟨ae,ai,g1,g2,g3,g4⟩:=d2k hK h;have aj:ae.toList.length=(l.map (·.1)).length:=D g2.1;cases gX:glk l a with
 |none=>
  have hf:=hK.none a (l.map (·.1)) ae.toList aj g3 (b8S.1 gX) w;cases ok<;>simp[Instr.lookup,hu,N0 g1,hK.check,hf,hz]
 |some c=>
  obtain⟨i,h1,h2⟩:=a7U gX;obtain⟨e,e1,_,e3,_⟩:=g4 i (a,c) h1;have hf:=hK.some a (l.map (·.1)) ae.toList aj g3 i e (by simp[h1]) h2 (D e1) w;exact⟨e.val,e3,by cases ok<;>simp[Instr.lookup,hu,N0 g1,hK.check,hf]⟩
theorem N3(hK:T6 C.P kt kc kv){l:List (α×β)}(ho:o.op = .lookup t m kx false)(hm:E.valid m)(hk:E.valid kx)(em:E.val C m= .map q)(ek:E.val C kx=kc a)
 (hu:∀w,(underlying t).run C.P w= .ok (.map kt et) w)(hz:∀w,(zeroValue et).run C.P w= .ok z w)(bR:L2 z=true)(ao:σ[q]?=some (.map (gm kc vc l)))(hc:((glk l a).map vc).getD (I0 z)=c):l8 C σ E o c:=
 i8 λM w ρ hr h=>by
  have h1:=h m u0 hm;have h2:=h kx u0 hk;rw[em]at h1;rw[ek]at h2;have dI:=hK.rv _ _ _ _ h2;generalize hv:ρ m=v at h1;cases h1 with
  |map hp=>
   rename_i p;have hl:=a7N hK (t:=t) (a:=a) (ok:=false) (hr.obj q p _ hp ao).1 hu hz;subst hc;cases gX:glk l a with
   |none=>
    rw[gX]at hl;exact⟨z,by simp[execOp,ho,hv,dI,hl],a0y bR⟩
   |some c=>
    rw[gX]at hl;obtain⟨u,f1,f2⟩:=hl;exact⟨u,by simp[execOp,ho,hv,dI,f2],f1⟩
theorem a3O(hK:T6 C.P kt kc kv){l:List (α×β)}(ho:o.op = .lookup t m kx true)(hm:E.valid m)(hk:E.valid kx)(em:E.val C m= .map q)(ek:E.val C kx=kc a)
 (hu:∀w,(underlying t).run C.P w= .ok (.map kt et) w)(hz:∀w,(zeroValue et).run C.P w= .ok z w)(bR:L2 z=true)(ao:σ[q]?=some (.map (gm kc vc l)))(hc:((glk l a).map vc).getD (I0 z)=c):l8 C σ E o (.tup [c,.val (.bool (glk l a).isSome)]):=
 i8 λM w ρ hr h=>by
  have h1:=h m u0 hm;have h2:=h kx u0 hk;rw[em]at h1;rw[ek]at h2;have dI:=hK.rv _ _ _ _ h2;have tup:∀{c:CV} {v:Value} {b:Bool},RV M w c v->RV M w (.tup [c,.val (.bool b)]) (.tuple #[v,.bool b]):=λ{c v b} hcv=>.tup O λi x hi=>by
   rcases i with _|_|i
   .simp at hi;subst hi;exact hcv
   .simp at hi;subst hi;exact .val _
   .simp at hi
  generalize hv:ρ m=v at h1;cases h1 with
  |map hp=>
   rename_i p;have hl:=a7N hK (t:=t) (a:=a) (ok:=true) (hr.obj q p _ hp ao).1 hu hz;subst hc;cases gX:glk l a with
   |none=>
    rw[gX]at hl;exact⟨.tuple #[z,.bool false],by simp[execOp,ho,hv,dI,hl],tup (a0y bR)⟩
   |some c=>
    rw[gX]at hl;obtain⟨u,f1,f2⟩:=hl;exact⟨.tuple #[u,.bool true],by simp[execOp,ho,hv,dI,f2],tup f1⟩
theorem b24(hK:T6 C.P kt kc kv){l:List (α×β)}{b:β}(hr:Rel C M σ w)(hp:M.pl[q]?=some p)(ao:σ[q]?=some (.map (gm kc vc l)))(hv:RV M w (vc b) v)
 (hu:∀w,(underlying t).run C.P w= .ok (.map kt et) w):∃w',(Instr.mapUpdate t (.map (some p.block)) (kv a) v).run C.P w= .ok () w'/\Ext M w M w'/\Rel C M (σ.set q (.map (gm kc vc (L5 l a b)))) w':=by
 obtain⟨ae,ai,g1,g2,g3,g4⟩:=d2k hK (hr.obj q p _ hp ao).1;have aj:ae.toList.length=(l.map (·.1)).length:=D g2.1;have bk:∀(i:Nat) (e:MapEntry),ae[i]?=some e->e.born <ai:=λi e he=>by
  have af:i<l.length:=by rw[<- g2.1];exact(a1a.1 he).1
  obtain⟨e',h1,_,_,h4⟩:=g4 i l[i] (by simp[af]);rw[he]at h1;injection h1 with h1
  rw[h1];exact h4
 cases gX:glk l a with
 |none=>
  have hf:=hK.none a (l.map (·.1)) ae.toList aj g3 (b8S.1 gX) w;refine⟨World.putObj w p.block (.map (ae.push {key:=kv a,val:=v,born:=ai}) (ai+1)),by simp[Instr.mapUpdate,hu,N0 g1,hK.check,hf,a5t _ g1],?_⟩;rw[c6E gX];exact hr.setObj (es':=gm kc vc (l++[(a,b)])) hp ao (by simp[gm,g2.1]) (g2.2.push bk O) (λi x hi=>by
   obtain⟨y,hy,rfl⟩:∃y,(l++[(a,b)])[i]?=some y/\(kc y.1,vc y.2)=x:=by unfold gm at hi;rwa[O2,Q3]at hi
   rw[a6O]at hy;split at hy
   .obtain ⟨e,q1,q2,q3,q4⟩:=g4 i y hy;have af:i<ae.size:=(a1a.1 q1).1;exact⟨e,by rw[b99,W G];exact q1,by rw[q2];exact hK.rv' _ _ _,q3,G⟩
   .rename_i aH;have af:=(n_2.1 hy).1;simp at af;have hi0:i=l.length:=by omega
    subst hi0;simp at hy;subst hy;exact⟨_,by rw[b99,Q G],hK.rv' _ _ _,hv,U⟩)
 |some c=>
  obtain⟨i,h1,h2⟩:=a7U gX;obtain⟨e,e1,e2,e3,e4⟩:=g4 i (a,c) h1;have hf:=hK.some a (l.map (·.1)) ae.toList aj g3 i e (by simp[h1]) h2 (D e1) w;refine⟨World.putObj w p.block (.map (ae.modify i λe=>{e with key:=kv a,val:=v}) ai),by simp[Instr.mapUpdate,hu,N0 g1,hK.check,hf,a5t _ g1,Instr.keyThatStays,e1,e2,hK.bits],?_⟩;rw[b30 h1 h2];exact hr.setObj (es':=gm kc vc (l.set i (a,b))) hp ao (by simp[gm,g2.1]) (g2.2.modify λ_=>O) (λj x hj=>by
   obtain⟨y,hy,rfl⟩:∃y,(l.set i (a,b))[j]?=some y/\(kc y.1,vc y.2)=x:=by unfold gm at hj;rwa[O2,Q3]at hj
   rw[a8X]at hy;split at hy
   .rename_i hij;subst hij;split at hy
    .injection hy with hy
     subst hy;exact⟨{e with key:=kv a,val:=v},by rw[c0q,Q rfl,e1];rfl,hK.rv' _ _ _,hv,e4⟩
    .cases hy
   .rename_i hij;obtain⟨e',q1,q2,q3,q4⟩:=g4 j y hy;exact⟨e',by rw[c0q,W hij];exact q1,by rw[q2];exact hK.rv' _ _ _,q3,q4⟩)
theorem k8(hK:T6 C.P kt kc kv){vx:Operand}{l:List (α×β)}{b:β}(ho:o.op = .mapUpdate t m kx vx\/o.op = .insert t m kx vx)(hm:E.valid m)(hk:E.valid kx)(hv:E.valid vx)(em:E.val C m= .map q)(ek:E.val C kx=kc a)(ev:E.val C vx=vc b)
 (hu:∀w,(underlying t).run C.P w= .ok (.map kt et) w)(ao:σ[q]?=some (.map (gm kc vc l)))(hQ:K (.ret (.val undef)) (σ.set q (.map (gm kc vc (L5 l a b))))):G5 C σ E o K:=λM w ρ hr h=>by
 have hops:m∈o.op.operands/\kx∈o.op.operands/\vx∈o.op.operands:=by rcases ho with ho|ho<;>simp[ho,Op.operands]
 have h1:=h m hops.1 hm;have h2:=h kx hops.2.1 hk;have h3:=h vx hops.2.2 hv;rw[em]at h1;rw[ek]at h2;rw[ev]at h3;have dI:=hK.rv _ _ _ _ h2;generalize hum:ρ m=um at h1;cases h1 with
 |map hp=>
  rename_i p;obtain⟨w',au,hx,bl⟩:=b24 hK (a:=a) (b:=b) hr hp ao h3 hu;have gg:(execOp ρ o).run C.P w= .ok .skip w':=by
   rcases ho with ho|ho<;>simp[execOp,ho,hum,dI,au]
  rw[gg];exact⟨.val undef,_,M,hx,bl,.val _,hQ⟩
end
theorem a71(w:World)(arr:Array Value)(e:TypeId)(n:Nat):(w.alloc (.cells arr e)).freeze ⟨w.heap.size,n,none⟩ 1=w.alloc (.cells arr e (n,n+1)):=by
 unfold World.freeze World.alloc;rw[W G]
 congr 1
 apply Array.ext
 .simp
 .intro i h1 h2;simp at h1 h2;rw[Array.getElem_modify];by_cases hi:w.heap.size=i
  .subst hi;simp
  .rw [W hi];rw[Array.getElem_push_lt G,Array.getElem_push_lt G]
section
theorem d8i(ho:o.op = .convert src dst x)(hx:E.valid x)(ex:E.val C x=sv l)(hs:∀w,(underlying src).run C.P w= .ok .string w)(hd:∀w,(underlying dst).run C.P w= .ok (.slice e) w)(he:∀w,(underlying e).run C.P w= .ok (.int .u8) w)(hl:l.length<=1000000000000):l8 C σ E o (.list (l.map bcv) true none):=λM w ρ hr h=>by
 have h1:=h x u0 hx;rw[ex]at h1;have hv:=p8 h1;obtain⟨dB,gc⟩:=hr.drew;obtain⟨c,cz,dM,eC⟩:∃c,l.length<=c/\c<=9223372036854775807/\(choose (.appendCap l.length 0 e)).run C.P w= .ok c w.drew:=by
  refine⟨(Question.appendCap l.length 0 e).cut (w.tape w.drawn (.appendCap l.length 0 e)),by simp[Question.cut],?_,b2x O⟩;simp only[Question.cut];have:w.tape w.drawn (.appendCap l.length 0 e)%(2^63-l.length)<2^63-l.length:=a6i _ G;omega
 generalize hA:(((str l).data.map λb:UInt8=>Value.int .u8 (b.toNat:Int))++Array.replicate (c-l.length) (Value.int .u8 0))=A;have hAs:A.size=c:=by
  rw[<- hA];simp[str];omega
 have au:(execOp ρ o).run C.P w= .ok (.value (.slice (some ⟨w.heap.size,0,none⟩) l.length c)) (w.drew.alloc (.cells A e (c,c+1))):=by
  have hsh:((w.drew.alloc (.cells A e)).shape? w.heap.size)=some (e,c):=by
   have:=r9 w.drew (.cells A e);simp only[World.shape?];rw[show w.heap.size=w.drew.heap.size from O,this];simp[hAs]
  have hm:(markStringish ⟨w.heap.size,0,none⟩).run C.P (w.drew.alloc (.cells A e))= .ok () (w.drew.alloc (.cells A e (c,c+1))):=by
   have:=a71 w.drew A e c;simp only[markStringish,shape,freeze,Sem.run_bind];simp only[Sem.run,hsh,Result.andThen_ok];rw[show w.heap.size=w.drew.heap.size from O,this]
  simp only[execOp,ho,hv,convert,Sem.run_bind,hs,hd,Result.andThen_ok,he,Conv.stringToBytes,a5i,eC,newRow,hA];simp only[newObj,Sem.run,Result.andThen_ok];rw[show(w.drew.heap.size)=w.heap.size from O];simp only[Sem.run_pure,Result.andThen_ok];have e0:({heap:=w.drew.heap.push (.cells A e),tape:=w.drew.tape,drawn:=w.drew.drawn,os:=w.drew.os,output:=w.drew.output}:World)=w.drew.alloc (.cells A e):=O;rw[e0,hm];simp only[Result.andThen_ok]
 rw[au];obtain⟨aE,aW⟩:=dB.allocFull (.cells A e (c,c+1));have aq:∀(i:Nat) (b:UInt8),l[i]?=some b->A[i]?=some (.int .u8 b.toNat):=λi b hb=>by
  have af:=(n_2.1 hb).1;rw[<- hA,b4C (by simp[str];exact af)];simp[str,hb]
 have gF:RV (M.settle w.drew.heap.size) (w.drew.alloc (.cells A e (c,c+1))) (.list (l.map bcv) true none) (.slice (some ⟨w.drew.heap.size,0,none⟩) (l.map bcv).length c):=by
  refine .list (b:=w.drew.heap.size) (off:=0) (s:=1) (λi _=>A.getD i undef) (D cz) (by unfold maxLen;omega) O (λh=>by cases h) Y1 (λr hr=>?_) (λr hr c hc=>?_) (λi j r c' hi hj=>?_) (λi j r c' hi hj=>?_) (λk hk=>by cases hk)
  .obtain ⟨b,_,rfl⟩:=D6.1 hr;rfl
  .obtain ⟨b,_,rfl⟩:=D6.1 hr;simp[bcv]at hc;subst hc;rfl
  .rw [O2,Q3]at hi;obtain⟨b,hb,rfl⟩:=hi;have hj0:j=0:=by
    have:=(n_2.1 hj).1;simp[bcv]at this;exact this
   subst hj0;refine⟨.inl (.inr O),?_⟩;simp only[World.cell?,r9];have:=aq i b hb;simp[this]
  .rw [O2,Q3]at hi;obtain⟨b,hb,rfl⟩:=hi;have hj0:j=0:=by
    have:=(n_2.1 hj).1;simp[bcv]at this;exact this
   subst hj0;simp[bcv]at hj;subst hj;have:=aq i b hb;rw[Z6,this];exact .val _
 rw[K6]at gF;exact⟨_,σ,_,gc.trans aE,aW,gF,O,O⟩
theorem a3x{f:Nat}{fs:Array Field}{fd:Field}(ho:o.op = .field t x f)(hx:E.valid x)(ex:E.val C x= .agg cells)(hu:∀w,(underlying t).run C.P w= .ok (.struct fs) w)(hf:fs[f]?=some fd)(ha:∀w,(isAgg fd.type).run C.P w= .ok false w)(hc:cells[fd.offset]?=some c):l8 C σ E o c:=
 i8 λM w ρ hr h=>by
  have h1:=h x u0 hx;rw[ex]at h1;generalize hv:ρ x=v at h1;cases h1 with
  |agg g1 g2 g3=>
   rename_i vs;have af:fd.offset <vs.size:=by rw[g1];exact(n_2.1 hc).1
   refine⟨vs.getD fd.offset undef,?_,g3 _ _ hc⟩;simp[execOp,ho,hv,Instr.field,hu,hf,part,ha,asAgg,af]
theorem d5l(ho:o.op = .panic x)(hx:E.valid x)(ex:E.val C x=c)(hn:∀M w v,RV M w c v->∃t u,v= .iface t u)(hk:K (.pan c) σ):G5 C σ E o K:=λM w ρ hr h=>by
 have h1:=h x u0 hx;rw[ex]at h1;obtain⟨t,u,hv⟩:=hn M w _ h1;have au:(execOp ρ o).run C.P w= .halt (.panic (ρ x)) w:=by
  simp[execOp,ho,hv,Instr.panic]
 rw[au];exact⟨c,ρ x,σ,M,O,Ext.refl M w,hr,h1,hk⟩
end
inductive Q7(R:Nat->Nat->Prop):CV->CV->Prop where
 |val (v:Value):Q7 R (.val v) (.val v)
 |agg {cs aX:List CV}:cs.length=aX.length->(∀(i:Nat) (c c':CV),cs[i]?=some c->aX[i]?=some c'->Q7 R c c')->Q7 R (.agg cs) (.agg aX)
 |tup {cs aX:List CV}:cs.length=aX.length->(∀(i:Nat) (c c':CV),cs[i]?=some c->aX[i]?=some c'->Q7 R c c')->Q7 R (.tup cs) (.tup aX)
 |clo {f:FuncId} {cs aX:List CV}:cs.length=aX.length->(∀(i:Nat) (c c':CV),cs[i]?=some c->aX[i]?=some c'->Q7 R c c')->Q7 R (.clo f cs) (.clo f aX)
 |list {Y rows':List (List CV)} {nn:Bool} {tok gh:Option Nat}:Y.length=rows'.length->(∀(i:Nat) (r r':List CV),Y[i]?=some r->rows'[i]?=some r'->r.length=r'.length) ->
  (∀(i j:Nat) (r r':List CV) (c c':CV),Y[i]?=some r->rows'[i]?=some r'->r[j]?=some c->r'[j]?=some c'->Q7 R c c')->((tok=none/\gh=none)\/∃k k',tok=some k/\gh=some k'/\R k k')->Q7 R (.list Y nn tok) (.list rows' nn gh)
 |ptr {k k' off:Nat}:R k k'->Q7 R (.ptr k off) (.ptr k' off)
 |cptr {cells aB:List CV}:cells.length=aB.length->(∀(i:Nat) (c c':CV),cells[i]?=some c->aB[i]?=some c'->Q7 R c c')->Q7 R (.cptr cells) (.cptr aB)
 |eptr {k k' i off:Nat}:R k k'->Q7 R (.eptr k i off) (.eptr k' i off)
 |vec {k k' off len:Nat}:R k k'->Q7 R (.vec k off len) (.vec k' off len)
 |map {k k':Nat}:R k k'->Q7 R (.map k) (.map k')
 |yld {k k':Nat}:R k k'->Q7 R (.yld k) (.yld k')
theorem Q7.one(h:Q7 R c c'):c'.one=c.one:=by cases h<;>rfl
theorem Q7.symm(hR:∀k k',R k k'->R' k' k)(h:Q7 R c c'):Q7 R' c' c:=by
 induction h with
 |val v=>exact .val v
 |agg h1 _ ih=>exact .agg h1.symm λi c c' h h'=>ih i c' c h' h
 |tup h1 _ ih=>exact .tup h1.symm λi c c' h h'=>ih i c' c h' h
 |clo h1 _ ih=>exact .clo h1.symm λi c c' h h'=>ih i c' c h' h
 |list h1 h2 _ h4 ih=>exact .list h1.symm (λi r r' h h'=>(h2 i r' r h' h).symm) (λi j r r' c c' a b d e=>ih i j r' r c' c b a e d) (h4.imp (λ⟨a,b⟩=>⟨b,a⟩) λ⟨k,k',a,b,d⟩=>⟨k',k,b,a,hR _ _ d⟩)
 |ptr h=>exact .ptr (hR _ _ h)
 |cptr h1 _ ih=>exact .cptr h1.symm λi c c' h h'=>ih i c' c h' h
 |eptr h=>exact .eptr (hR _ _ h)
 |vec h=>exact .vec (hR _ _ h)
 |map h=>exact .map (hR _ _ h)
 |yld h=>exact .yld (hR _ _ h)
theorem Q7.pure(h:p9 c):Q7 R c c:=by
 induction h with
 |val v=>exact .val v
 |agg _ ih=>
  refine .agg O λi c c' h h'=>?_;rw[h]at h';injection h' with h';subst h'
  exact ih c (n_3 h)
 |tup _ ih=>
  refine .tup O λi c c' h h'=>?_;rw[h]at h';injection h' with h';subst h'
  exact ih c (n_3 h)
 |clo _ ih=>
  refine .clo O λi c c' h h'=>?_;rw[h]at h';injection h' with h';subst h'
  exact ih c (n_3 h)
 |list _ ih=>
  refine .list O (λi r r' h h'=>?_) (λi j r r' c c' h h' g g'=>?_) (.inl ⟨O,O⟩)
  .rw [h]at h';injection h' with h';subst h';rfl
  .rw [h]at h';injection h' with h';subst h'
   rw[g]at g';injection g' with g';subst g'
   exact ih r (n_3 h) c (n_3 g)
theorem RV.renR{R:Nat->Nat->Prop}{M M':z8}{w:World}(hR:∀(k k':Nat) (p:Pl),R k k'->M.pl[k]?=some p->M'.pl[k']?=some p)(aU:∀b o,M.at b o->M'.at b o){c:CV}{v:Value}(h:RV M w c v):∀{c':CV},Q7 R c c'->RV M' w c' v:=by
 induction h with
 |val v=>intro c' hr;cases hr;exact .val v
 |agg h1 h2 _ ih=>
  intro c' hr;cases hr with
  |agg e1 e2=>
   refine .agg (by rw[h1,e1]) (λc hc=>?_) λi c hi=>?_
   .obtain ⟨i,hi⟩:=K5.1 hc;obtain⟨y,hy⟩:=r7 e1 hi;rw[(e2 i y c hy hi).one];exact h2 y (n_3 hy)
   .obtain ⟨y,hy⟩:=r7 e1 hi;exact ih i y hy (e2 i y c hy hi)
 |tup h1 _ ih=>
  intro c' hr;cases hr with
  |tup e1 e2=>
   refine .tup (by rw[h1,e1]) λi c hi=>?_;obtain⟨y,hy⟩:=r7 e1 hi;exact ih i y hy (e2 i y c hy hi)
 |clo h1 _ ih=>
  intro c' hr;cases hr with
  |clo e1 e2=>
   refine .clo (by rw[h1,e1]) λi c hi=>?_;obtain⟨y,hy⟩:=r7 e1 hi;exact ih i y hy (e2 i y c hy hi)
 | @list Y nn tok a cap b off s vals h1 h2 h3 h4 h5 h6 h7 h8 _ bp ih=>
  intro c' hr;cases hr with
  | @list _ rows' _ _ gh e1 e2 e3 e4=>
   have ax:rows'≠[]->Y≠[]:=λhn h0=>by
    rw[h0]at e1;exact hn (c1p e1.symm)
   have bT:∀{i:Nat} {r':List CV},rows'[i]?=some r'->∃r,Y[i]?=some r:=λhi=>r7 e1 hi;rw[e1];refine .list (s:=s) vals (by rw[<- e1];exact h1) h2 h3 h4 (λhn=>h5 (ax hn)) (λr' bl=>?_) (λr' bl c' bx=>?_) (λi j r' c' hi hj=>?_) (λi j r' c' hi hj=>?_) (λk hk=>?_)
   .obtain ⟨i,hi⟩:=K5.1 bl;obtain⟨r,hr⟩:=bT hi;rw[<- e2 i r r' hr hi];exact h6 r (n_3 hr)
   .obtain ⟨i,hi⟩:=K5.1 bl;obtain⟨r,hr⟩:=bT hi;obtain⟨j,hj⟩:=K5.1 bx;obtain⟨c,hc⟩:=r7 (e2 i r r' hr hi) hj;rw[(e3 i j r r' c c' hr hi hc hj).one];exact h7 r (n_3 hr) c (n_3 hc)
   .obtain ⟨r,hr⟩:=bT hi;obtain⟨c,hc⟩:=r7 (e2 i r r' hr hi) hj;have:=h8 i j r c hr hc;exact⟨aU _ _ this.1,this.2⟩
   .obtain ⟨r,hr⟩:=bT hi;obtain⟨c,hc⟩:=r7 (e2 i r r' hr hi) hj;exact ih i j r c hr hc (e3 i j r r' c c' hr hi hc hj)
   .rcases e4 with⟨_,e4⟩|⟨k0,k1,e5,e6,e7⟩
    .rw [e4]at hk;cases hk
    .rw [e6]at hk;injection hk with hk
     subst hk;obtain⟨s',f1,f2,f3,f4⟩:=bp k0 e5;exact⟨s',hR _ _ _ e7 f1,f2,f3,λhn=>f4 (ax hn)⟩
 |ptr hk=>intro c' hr;cases hr with|ptr e=>exact .ptr (hR _ _ _ e hk)
 |cptr vals h1 h2 _ ih=>
  intro c' hr;cases hr with
  |cptr e1 e2=>
   refine .cptr vals (λc hc=>?_) (λj c hj=>?_) (λj c hj=>?_)
   .obtain ⟨i,hi⟩:=K5.1 hc;obtain⟨y,hy⟩:=r7 e1 hi;rw[(e2 i y c hy hi).one];exact h1 y (n_3 hy)
   .obtain ⟨y,hy⟩:=r7 e1 hj;exact⟨aU _ _ (h2 j y hy).1,(h2 j y hy).2⟩
   .obtain ⟨y,hy⟩:=r7 e1 hj;exact ih j y hy (e2 j y c hy hj)
 |eptr hk=>intro c' hr;cases hr with|eptr e=>exact .eptr (hR _ _ _ e hk)
 |vec hk h1 h2 h3=>intro c' hr;cases hr with|vec e=>exact .vec (hR _ _ _ e hk) h1 h2 h3
 |map hk=>intro c' hr;cases hr with|map e=>exact .map (hR _ _ _ e hk)
 |yld hk=>intro c' hr;cases hr with|yld e=>exact .yld (hR _ _ _ e hk)
def a2j(R:Nat->Nat->Prop)(l l':List CV):Prop:=l.length=l'.length/\∀(i:Nat) (c c':CV),l[i]?=some c->l'[i]?=some c'->Q7 R c c'
def c5E(R:Nat->Nat->Prop)(l l':List (CV×CV)):Prop:=l.length=l'.length/\∀(i:Nat) (x x':CV×CV),l[i]?=some x->l'[i]?=some x'->Q7 R x.1 x'.1/\Q7 R x.2 x'.2
inductive I7(R:Nat->Nat->Prop):b9->b9->Prop where
 |dead:I7 R .dead .dead
 |box {t0:Option TypeId} {l l':List CV}:a2j R l l'->I7 R (.boxT t0 l) (.boxT t0 l')
 |tip {t0:Option TypeId} (n:Nat):I7 R (.tipT t0 n) (.tipT t0 n)
 |vec {s:Nat} {Y rows':List (List CV)}:Y.length=rows'.length->(∀(i:Nat) (r r':List CV),Y[i]?=some r->rows'[i]?=some r'->a2j R r r')->I7 R (.vec s Y) (.vec s rows')
 |map {es es':List (CV×CV)}:c5E R es es'->I7 R (.map es) (.map es')
 |iter {c c' l l':List (CV×CV)}:c5E R c c'->c5E R l l'->I7 R (.iter c l) (.iter c' l')
 |blk (o:Obj):I7 R (.blk o) (.blk o)
 |lp {o:Loop} {n:Nat} {cs aX:List (Nat×CV)}:cs.map Prod.fst=aX.map Prod.fst->(∀(i:Nat) (x x':Nat×CV),cs[i]?=some x->aX[i]?=some x'->Q7 R x.2 x'.2)->I7 R (.lp o n cs) (.lp o n aX)
theorem I7.live{a b:b9}(h:I7 R a b):b.live=a.live:=by cases h<;>rfl
theorem I7.symm(hR:∀k k',R k k'->R' k' k){a b:b9}(h:I7 R a b):I7 R' b a:=by
 have hl:∀{l l':List CV},a2j R l l'->a2j R' l' l:=λh=>⟨h.1.symm,λi c c' g g'=>(h.2 i c' c g' g).symm hR⟩;have he:∀{l l':List (CV×CV)},c5E R l l'->c5E R' l' l:=λh=>⟨h.1.symm,λi c c' g g'=>⟨(h.2 i c' c g' g).1.symm hR,(h.2 i c' c g' g).2.symm hR⟩⟩;cases h with
 |dead=>exact .dead
 |box h=>exact .box (hl h)
 |tip n=>exact .tip n
 |vec h1 h2=>exact .vec h1.symm λi r r' g g'=>hl (h2 i r' r g' g)
 |map h=>exact .map (he h)
 |iter h1 h2=>exact .iter (he h1) (he h2)
 |blk o=>exact .blk o
 |lp h1 h2=>exact .lp h1.symm λi x x' g g'=>(h2 i x' x g' g).symm hR
theorem R2.renR{M':z8}(hR:∀(k k':Nat) (p:Pl),R k k'->M.pl[k]?=some p->M'.pl[k']?=some p)(aU:∀b o,M.at b o->M'.at b o)(eE:∀b,M.full b->M'.full b)(cy:∀b o,M'.cell b o->M.cell b o){a b:b9}(h:R2 M w p a)(hr:I7 R a b):R2 M' w p b:=by
 cases hr with
 |dead=>trivial
 |box hl=>
  obtain⟨arr,ty,e1,e2,e3,e4⟩:=h;refine⟨arr,ty,e1,by rw[e2,hl.1],λc hc=>?_,λi c hi=>?_⟩
  .obtain ⟨i,hi⟩:=K5.1 hc;obtain⟨y,hy⟩:=r7 hl.1 hi;rw[(hl.2 i y c hy hi).one];exact e3 y (n_3 hy)
  .obtain ⟨y,hy⟩:=r7 hl.1 hi;exact(e4 i y hy).renR hR aU (hl.2 i y c hy hi)
 |tip n=>
  obtain⟨e1,e2,e3,e4⟩:=h;exact⟨e1,e2,⟨λo ho=>e3.1 o (cy _ _ ho),e3.2⟩,e4⟩
 |vec h1 h2=>
  obtain⟨e0,e1,e2,e3,e4,arr,ty,e5,e6,e7⟩:=h;refine⟨e0,by rw[<- h1];exact e1,e2,λr hr=>?_,λr hr c hc=>?_,arr,ty,e5,e6,λi j r c hi hj=>?_⟩
  .obtain ⟨i,hi⟩:=K5.1 hr;obtain⟨y,hy⟩:=r7 h1 hi;rw[<- (h2 i y r hy hi).1];exact e3 y (n_3 hy)
  .obtain ⟨i,hi⟩:=K5.1 hr;obtain⟨y,hy⟩:=r7 h1 hi;obtain⟨j,hj⟩:=K5.1 hc;obtain⟨d,hd⟩:=r7 (h2 i y r hy hi).1 hj;rw[((h2 i y r hy hi).2 j d c hd hj).one];exact e4 y (n_3 hy) d (n_3 hd)
  .obtain ⟨y,hy⟩:=r7 h1 hi;obtain⟨d,hd⟩:=r7 (h2 i y r hy hi).1 hj;exact(e7 i j y d hy hd).renR hR aU ((h2 i y r hy hi).2 j d c hd hj)
 |map he=>
  obtain⟨ae,ai,e1,e2,e3⟩:=h;refine⟨ae,ai,e1,⟨by rw[e2.1,he.1],e2.2⟩,λi x hi=>?_⟩;obtain⟨y,hy⟩:=r7 he.1 hi;obtain⟨e,g1,g2,g3,g4⟩:=e3 i y hy;exact⟨e,g1,g2.renR hR aU (he.2 i y x hy hi).1,g3.renR hR aU (he.2 i y x hy hi).2,g4⟩
 |iter hc hl=>
  obtain⟨mb,seen,bF,ae,ai,e1,e2,e3,e4,e5,e6,e7,e8,e9⟩:=h;refine⟨mb,seen,bF,ae,ai,e1,eE _ e2,e3,e4,e5,e6,by rw[e7,hl.1],λi x hi=>?_,λi x hi=>?_⟩
  .obtain ⟨y,hy⟩:=r7 hl.1 hi;obtain⟨e,g1,g2,g3⟩:=e8 i y hy;exact⟨e,g1,g2.renR hR aU (hl.2 i y x hy hi).1,g3.renR hR aU (hl.2 i y x hy hi).2⟩
  .obtain ⟨y,hy⟩:=r7 hc.1 hi;obtain⟨hla,j,e,g0,g1,g2,g3⟩:=e9 i y hy;exact⟨hla,j,e,g0,g1,g2.renR hR aU (hc.2 i y x hy hi).1,g3.renR hR aU (hc.2 i y x hy hi).2⟩
 |blk o=>exact h
 |lp h1 h2=>
  obtain⟨tm,e1,e2,e3⟩:=h;refine⟨tm,e1,e2,λx hx=>?_⟩;obtain⟨i,hi⟩:=K5.1 hx;obtain⟨y,hy⟩:=r7 (by simpa using n_7 List.length h1) hi;have hf:y.1=x.1:=by
   have:=n_7 (·[i]?) h1;simp[hy,hi]at this;exact this
  rw[<- hf];exact(e3 y (n_3 hy)).renR hR aU (h2 i y x hy hi)
inductive a7g(R:Nat->Nat->Prop):R8->R8->Prop where
 |ret {c c':CV}:Q7 R c c'->a7g R (.ret c) (.ret c')
 |pan {c c':CV}:Q7 R c c'->a7g R (.pan c) (.pan c')
def a0p(ak:List Nat)(n:Nat)(i k:Nat):Prop:=ak[i]?=some k\/(ak.length<=i/\k=n+(i-ak.length))
theorem I5(ak:List Nat)(hC:C.plain)(aj:ak.length=obs.length)(cb:∀(i j k:Nat),ak[i]?=some k->ak[j]?=some k->i=j)
 (cV:∀(i k:Nat) (ob:b9),ak[i]?=some k->obs[i]?=some ob->∃aL,σ[k]?=some aL/\I7 (λk i=>ak[i]?=some k) aL ob)(ap:a2j (λk i=>ak[i]?=some k) args' args)
 {K:R8->List b9->Prop}{K':R8->List b9->Prop}(h:b8 C f args obs K)
 (hK:∀r τ,K r τ->obs.length<=τ.length/\∃r' dZ,a7g (a0p ak σ.length) r r'/\dZ.length=σ.length+(τ.length -obs.length)/\(∀k,k<σ.length->k∉ak->dZ[k]?=σ[k]?)/\(∀(i k:Nat) (x:b9),a0p ak σ.length i k->τ[i]?=some x->∃x',dZ[k]?=some x'/\I7 (a0p ak σ.length) x x')/\K' r' dZ):
 b8 C f args' σ K':=λM w vs hr hn hx=>by
 have gG:∀{i k:Nat},ak[i]?=some k->∃p ob,M.pl[k]?=some p/\obs[i]?=some ob/\k<σ.length:=λ{i k} hi=>by
  have bo:i<obs.length:=by rw[<- aj];exact(n_2.1 hi).1
  obtain⟨aL,h1,_⟩:=cV i k obs[i] hi (by simp[bo]);have hk:k<σ.length:=(n_2.1 h1).1;exact⟨M.pl[k]'(by rw[hr.len];exact hk),obs[i],U,by simp[bo],hk⟩
 let LB:Nat->Prop:=λb=>∃(k:Nat) (p:Pl) (aL:b9),k∉ak/\M.pl[k]?=some p/\σ[k]?=some aL/\aL.live=true/\p.block=b
 let M0:z8:={pl:=ak.map λk=>(M.pl[k]?).getD ⟨0,0,0⟩,full:=M.full,cell:=M.cell,keep:=λb=>M.keep b\/LB b}
 have hLB:∀b,LB b->b<w.heap.size:=λb ⟨k,p,aL,_,hp,hs,hl,hb⟩=>hb▸(hr.obj k p aL hp hs).1.lt hl;have h0:∀{i:Nat} {p:Pl},M0.pl[i]?=some p->∃k,ak[i]?=some k/\M.pl[k]?=some p:=λ{i p} hp=>by
  have hp:(ak.map λk=>(M.pl[k]?).getD ⟨0,0,0⟩)[i]?=some p:=hp;rw[O2,Q3]at hp;obtain⟨k,hk,rfl⟩:=hp;obtain⟨p,_,g1,_,_⟩:=gG hk;exact⟨k,hk,by rw[g1];rfl⟩
 have iu:∀(k i:Nat) (p:Pl),ak[i]?=some k->M.pl[k]?=some p->M0.pl[i]?=some p:=λk i p hi hp=>by
  show(ak.map λk=>(M.pl[k]?).getD ⟨0,0,0⟩)[i]?=some p;rw[O2,hi,b95,hp];rfl
 have bH:Rel C M0 obs w:=⟨by simp[M0,aj],hr.blk,λi p ob hp hs=>(by
  obtain⟨k,hk,du⟩:=h0 hp;obtain⟨aL,g1,g2⟩:=cV i k ob hk hs;obtain⟨q1,q2⟩:=hr.obj k p aL du g1;refine⟨q1.renR (M':=M0) iu (λb o h=>h) (λb h=>h) (λb o h=>h) g2,?_⟩;cases g2<;>first|trivial|exact q2),λi i' p p' x x' hp aG hs aT hl bL hb=>(by
  obtain⟨k,hk,du⟩:=h0 hp;obtain⟨k',aC,gj⟩:=h0 aG;obtain⟨y,g1,g2⟩:=cV i k x hk hs;obtain⟨y',gA,gU⟩:=cV i' k' x' aC aT;have:=hr.inj k k' p p' y y' du gj g1 gA (by rw[<- g2.live];exact hl) (by rw[<- gU.live];exact bL) hb;subst this;exact cb i i' k hk aC),λg cells hg=>⟨(by
  have:=(hr.glob g cells hg).rv;exact RV.renR (M:=M) (R:=λ_ _=>False) (M':=M0) (λ_ _ _ h=>h.elim) (λb o h=>h) this (.cptr O λi c c' h h'=>(by
   rw[h]at h';injection h' with h';subst h'
   exact .pure (hC g cells hg c (n_3 h))))),(hr.glob g cells hg).full,(hr.glob g cells hg).sz⟩,
  λb hb=>(by
   rcases hb with hb|hb
   .exact hr.kep b hb
   .exact hLB b hb),λi p x hp hs hl hb=>(by
  obtain⟨k,hk,du⟩:=h0 hp;obtain⟨y,g1,g2⟩:=cV i k x hk hs;have fj:y.live=true:=by rw[<- g2.live];exact hl
  rcases hb with hb|⟨k',p',aL,aC,aG,aT,bL,hb⟩
  .exact hr.nk k p y du g1 fj hb
  .have:=hr.inj k' k p' p aL y aG du aT g1 bL fj hb;subst this;exact aC (n_3 hk))⟩
 have gH:∀(c:CV) (v:Value) (r:CV->R8) (hret:∀c c' R,a7g R (r c) c'->∃d,c'=r d/\Q7 R c d) (τ:List b9) (M':z8) (w':World),Ext M0 w M' w'->Rel C M' τ w'->RV M' w' c v->K (r c) τ->∃c' dZ M2,Ext M w M2 w'/\Rel C M2 dZ w'/\RV M2 w' c' v/\K' (r c') dZ:=by
  intro c v r hret τ M' w' h1 h2 h3 h4;obtain⟨aM,r',dZ,e1,e2,e3,e4,e5⟩:=hK _ _ h4;obtain⟨c',rfl,hrc⟩:=hret _ _ _ e1;have hM0:∀(k i:Nat) (p:Pl),ak[i]?=some k->M.pl[k]?=some p->M'.pl[i]?=some p:=λk i p hi hp=>h1.get (iu k i p hi hp);have cS:M'.pl.length=τ.length:=h2.len
  let M2:z8:={pl:=M.pl++M'.pl.drop obs.length,full:=M'.full,cell:=M'.cell,keep:=M.keep}
  have hA:∀(i k:Nat) (p:Pl),a0p ak σ.length i k->M'.pl[i]?=some p->M2.pl[k]?=some p:=λi k p ha hp=>by
   rcases ha with ha|⟨ha,rfl⟩
   .obtain ⟨p0,_,g1,_,g3⟩:=gG ha;have:=hM0 k i p0 ha g1;rw[hp]at this;injection this with this
    subst this;show(M.pl++_)[k]?=_;rw[T7 (by rw[hr.len];exact g3)];exact g1
   .show (M.pl++M'.pl.drop obs.length)[σ.length+(i-ak.length)]?=_;rw[a1c (by rw[hr.len];omega),a6d,hr.len];rw[show obs.length+(σ.length+(i-ak.length) -σ.length)=i by omega];exact hp
  have hB:∀(k:Nat) (p:Pl) (x:b9),M2.pl[k]?=some p->dZ[k]?=some x->(k<σ.length/\k∉ak/\M.pl[k]?=some p/\σ[k]?=some x)\/∃i y,a0p ak σ.length i k/\M'.pl[i]?=some p/\τ[i]?=some y/\I7 (a0p ak σ.length) y x:=λk p x hp hs=>by
   by_cases hk:k<σ.length
   .have aG:M.pl[k]?=some p:=by
     have hp:(M.pl++M'.pl.drop obs.length)[k]?=some p:=hp;rwa[T7 (by rw[hr.len];exact hk)]at hp
    by_cases bm:k∈ak
    .obtain ⟨i,hi⟩:=K5.1 bm;have bo:i<τ.length:=by
      have:=(n_2.1 hi).1;omega
     obtain⟨x',g1,g2⟩:=e4 i k τ[i] (.inl hi) (by simp[bo]);rw[hs]at g1;injection g1 with g1
     subst g1;exact .inr ⟨i,τ[i],.inl hi,hM0 k i p hi aG,by simp[bo],g2⟩
    .rw [e3 k hk bm]at hs;exact .inl ⟨hk,bm,aG,hs⟩
   .have fh:=(n_2.1 hs).1;rw[e2]at fh;have bo:obs.length+(k-σ.length)<τ.length:=by omega
    have ha:a0p ak σ.length (obs.length+(k-σ.length)) k:=.inr ⟨G,G⟩;obtain⟨x',g1,g2⟩:=e4 (obs.length+(k-σ.length)) k τ[obs.length+(k-σ.length)] ha (by simp[bo]);rw[hs]at g1;injection g1 with g1
    subst g1;have aG:M'.pl[obs.length+(k-σ.length)]?=some (M'.pl[obs.length+(k-σ.length)]'G):=by simp
    have:=hA _ _ _ ha aG;rw[hp]at this;injection this with this
    exact .inr ⟨_,_,ha,by rw[aG,this],by simp[bo],g2⟩
  have hAinj:∀(i i' k:Nat),a0p ak σ.length i k->a0p ak σ.length i' k->i=i':=λi i' k ha cL=>by
   rcases ha with ha|⟨ha,e⟩<;>rcases cL with cL|⟨cL,e'⟩
   .exact cb i i' k ha cL
   .have:=(gG ha).choose_spec.choose_spec.2.2;omega
   .have:=(gG cL).choose_spec.choose_spec.2.2;omega
   .omega
  have hAfun:∀(i k k':Nat),a0p ak σ.length i k->a0p ak σ.length i k'->k=k':=λi k k' ha cL=>by
   rcases ha with ha|⟨ha,e⟩<;>rcases cL with cL|⟨cL,e'⟩
   .rw [ha]at cL;exact Option.some.inj cL
   .have:=(n_2.1 ha).1;omega
   .have:=(n_2.1 cL).1;omega
   .omega
  have aE:Ext M w M2 w':=⟨⟨M'.pl.drop obs.length,O⟩,h1.full,h1.cell,h1.same,h1.sameC,h1.size,h1.drew,h1.os,h1.tape,h1.output,λb hb=>by
   obtain⟨k1,k2,k3,k4⟩:=h1.kept b (.inl hb);exact⟨hb,k2,k3,k4⟩⟩
  refine⟨c',dZ,M2,aE,⟨by show(M.pl++M'.pl.drop obs.length).length=_;simp[hr.len,cS,e2],h2.blk,λk p x hp hs=>?_,λk k' p p' x x' hp aG hs aT hl bL hb=>?_,λg cells hg=>(hr.glob g cells hg).mono aE,λb hb=>a8E (hr.kep b hb) h1.size,λk p x hp hs hl hkp=>?_⟩,h3.renR (M':=M2) hA (λb o h=>h) hrc,e5⟩
  .rcases hB k p x hp hs with⟨hk,bm,aG,aT⟩|⟨i,y,ha,aG,aT,hro⟩
   .by_cases hl:x.live=true
    .obtain ⟨k1,k2,k3,k4⟩:=h1.kept p.block (.inr ⟨k,p,x,bm,aG,aT,hl,O⟩);obtain⟨g1,g2⟩:=hr.obj k p x aG aT;refine⟨g1.mono aE k2 (λ_ _ _ o ho=>k4 o ho),?_⟩;cases x with
     |dead=>trivial
     |tipT t0 n=>exact λhf=>g2 (k3 hf)
     |_=>exact⟨λhf=>g2.1 (k3 hf),λo ho=>g2.2 o (k4 o ho)⟩
    .cases x<;>first|exact⟨J,J⟩|simp[b9.live]at hl
   .obtain ⟨g1,g2⟩:=h2.obj i p y aG aT;refine⟨g1.renR (M':=M2) hA (λb o h=>h) (λb h=>h) (λb o h=>h) hro,?_⟩;cases hro<;>first|trivial|exact g2
  .have keep:∀{k:Nat} {p:Pl} {x:b9},k∉ak->M.pl[k]?=some p->σ[k]?=some x->x.live=true->M'.keep p.block:=λ{k p x} bm aG aT hl=>(h1.kept p.block (.inr ⟨k,p,x,bm,aG,aT,hl,O⟩)).1
   rcases hB k p x hp hs with⟨hk,bm,du,hsk⟩|⟨i,y,ha,du,hsk,hro⟩<;>rcases hB k' p' x' aG aT with⟨aC,hks',gj,iI⟩|⟨i',y',cL,gj,iI,hro'⟩
   .exact hr.inj k k' p p' x x' du gj hsk iI hl bL hb
   .exact absurd (hb▸keep bm du hsk hl) (h2.nk i' p' y' gj iI (by rw[<- hro'.live];exact bL))
   .exact absurd (hb▸keep hks' gj iI bL) (h2.nk i p y du hsk (by rw[<- hro.live];exact hl))
   .have:=h2.inj i i' p p' y y' du gj hsk iI (by rw[<- hro.live];exact hl) (by rw[<- hro'.live];exact bL) hb;subst this;exact hAfun i k k' ha cL
  .rcases hB k p x hp hs with⟨hk,bm,aG,aT⟩|⟨i,y,ha,aG,aT,hro⟩
   .exact hr.nk k p x aG aT hl hkp
   .exact h2.nk i p y aG aT (by rw[<- hro.live];exact hl) (h1.kept p.block (.inl hkp)).1
 have gI:vs.size=args.length:=by rw[hn,ap.1]
 refine(h M0 w vs bH gI λi a hi=>?_).mono λe w' he=>?_
 .obtain ⟨a',cL⟩:=r7 ap.1 hi;exact(hx i a' cL).renR (M':=M0) iu (λb o h=>h) (ap.2 i a' a cL hi)
 cases e with
 |panicked ch=>
  obtain⟨c,v,τ,M',eC,h1,h2,h3,h4⟩:=he;obtain⟨c',dZ,M2,g1,g2,g3,g4⟩:=gH c v .pan (λc c' R h=>by cases h with|pan h=>exact⟨_,O,h⟩) τ M' w' h1 h2 h3 h4;exact⟨c',v,dZ,M2,eC,g1,g2,g3,g4⟩
 |outgrown=>exact he
 |returned v=>
  obtain⟨c,τ,M',h1,h2,h3,h4⟩:=he;exact gH c v .ret (λc c' R h=>by cases h with|ret h=>exact⟨_,O,h⟩) τ M' w' h1 h2 h3 h4
def a2Z:b9->Prop
 | .dead=>True
 | .boxT _ cells=>∀c∈cells,p9 c
 | .tipT _ _=>True
 | .vec _ Y=>∀r∈Y,∀c∈r,p9 c
 | .map es=>∀x∈es,p9 x.1/\p9 x.2
 | .iter c l=>(∀x∈c,p9 x.1/\p9 x.2)/\∀x∈l,p9 x.1/\p9 x.2
 | .blk _=>True
 | .lp _ _ cs=>∀x∈cs,p9 x.2
theorem H9{l:List CV}(h:∀c∈l,p9 c):a2j R l l:=⟨O,λi c c' g g'=>by
 rw[g]at g';injection g' with g';subst g'
 exact .pure (h c (n_3 g))⟩
theorem a9g{l:List (CV×CV)}(h:∀x∈l,p9 x.1/\p9 x.2):c5E R l l:=⟨O,λi c c' g g'=>by
 rw[g]at g';injection g' with g';subst g'
 exact⟨.pure (h c (n_3 g)).1,.pure (h c (n_3 g)).2⟩⟩
theorem a2Z.ren(h:a2Z ob):I7 R ob ob:=by
 cases ob with
 |dead=>exact .dead
 |boxT t0 cells=>exact .box (H9 h)
 |tipT t0 n=>exact .tip n
 |vec s Y=>
  refine .vec O λi r r' g g'=>?_;rw[g]at g';injection g' with g';subst g'
  exact H9 (h r (n_3 g))
 |map es=>exact .map (a9g h)
 |iter c l=>exact .iter (a9g h.1) (a9g h.2)
 |blk o=>exact .blk o
 |lp o n cs=>
  refine .lp O λi x x' g g'=>?_;rw[g]at g';injection g' with g';subst g'
  exact .pure (h x (n_3 g))
theorem a2Z.old(h:a2Z ob):F7 n ob:=by
 cases ob with
 |dead=>trivial
 |boxT t0 cells=>exact λc hc=>(h c hc).old
 |tipT t0 n=>trivial
 |blk o=>trivial
 |lp o n cs=>exact λx hx=>(h x hx).old
 |vec s Y=>exact λr hr c hc=>(h r hr c hc).old
 |map es=>exact λx hx=>⟨(h x hx).1.old,(h x hx).2.old⟩
 |iter c l=>exact⟨λx hx=>⟨(h.1 x hx).1.old,(h.1 x hx).2.old⟩,λx hx=>⟨(h.2 x hx).1.old,(h.2 x hx).2.old⟩⟩
def a26:List Nat->List b9->List b9->List b9
 | [],_,σ=>σ
 |_::_,[],σ=>σ
 |k::ks,o::os,σ=>a26 ks os (σ.set k o)
theorem a6t:∀(ks:List Nat) (os:List b9) (σ:List b9),(a26 ks os σ).length=σ.length
 | [],_,σ=>rfl
 |k::ks,[],σ=>rfl
 |k::ks,o::os,σ=>by rw[a26,a6t ks os];simp
theorem a4b:∀(ks:List Nat) (os:List b9) (σ:List b9) (k:Nat),k∉ks->(a26 ks os σ)[k]?=σ[k]?
 | [],_,σ,k,_=>rfl
 |_::ks,[],σ,k,_=>rfl
 |k'::ks,o::os,σ,k,h=>by
  rw[a26,a4b ks os _ k λhm=>h (by simp[hm]),a0S λe=>h a2d]
theorem b1E:∀(ks:List Nat) (os:List b9) (σ:List b9) (i k:Nat),(∀(i j k:Nat),ks[i]?=some k->ks[j]?=some k->i=j)->ks.length=os.length->ks[i]?=some k->k<σ.length->(a26 ks os σ)[k]?=os[i]?
 | [],_,σ,i,k,_,_,h,_=>by simp at h
 |_::ks,[],σ,i,k,_,h,_,_=>by simp at h
 |k'::ks,o::os,σ,i,k,cb,hl,hi,hk=>by
  rw[a26];have hnd':∀(i j k:Nat),ks[i]?=some k->ks[j]?=some k->i=j:=λi j k h1 h2=>by
   have:=cb (i+1) (j+1) k (D h1) (D h2);omega
  rcases i with _|i
  .simp at hi;subst hi;rw[a4b ks os _ k' λhm=>by
    obtain⟨j,hj⟩:=K5.1 hm;have:=cb 0 (j+1) k' O (D hj);omega]
   simp[hk]
  .rw [b1E ks os _ i k hnd' (D hl) (D hi) (D hk)];simp
theorem a02{res':α->R8}{S N:α->List b9}{P:α->Prop}(ak:List Nat)(hC:C.plain)(aj:ak.length=obs.length)(cb:∀(i j k:Nat),ak[i]?=some k->ak[j]?=some k->i=j)
 (cV:∀(i k:Nat),ak[i]?=some k->k<σ.length/\σ[k]?=obs[i]?)(hpo:∀ob∈obs,a2Z ob)(ap:a2j (λk i=>ak[i]?=some k) args' args)
 (h:b8 C f args obs λr τ=>∃a,r=res a/\τ=S a++N a/\P a)(hS:∀a,P a->(S a).length=obs.length/\∀ob∈S a++N a,a2Z ob)(eD:∀a,P a->a7g (a0p ak σ.length) (res a) (res' a)):
 b8 C f args' σ λr τ=>∃a,r=res' a/\τ=a26 ak (S a) σ++N a/\P a:=by
 refine I5 ak hC aj cb (λi k ob hi ho=>?_) ap h λr τ hk=>?_
 .obtain ⟨_,h2⟩:=cV i k hi;exact⟨ob,by rw[h2,ho],(hpo ob (n_3 ho)).ren⟩
 .obtain ⟨a,rfl,rfl,hp⟩:=hk;obtain⟨hl,hn⟩:=hS a hp;have dV:=a6t ak (S a) σ;refine⟨by simp[hl],res' a,a26 ak (S a) σ++N a,eD a hp,by simp[dV,hl],λk hk bm=>?_,λi k x ha hx=>?_,a,O,O,hp⟩
  .rw [T7 (by rw[dV];exact hk),a4b ak (S a) σ k bm]
  .refine ⟨x,?_,(hn x (n_3 hx)).ren⟩
   rcases ha with ha|⟨ha,rfl⟩
   .have hk:=(cV i k ha).1;have bo:i< (S a).length:=by rw[hl,<- aj];exact(n_2.1 ha).1
    rw[T7 bo]at hx;rw[T7 (by rw[dV];exact hk),b1E ak (S a) σ i k cb (by rw[aj,hl]) ha hk,hx]
   .rw [a1c G]at hx;rw[a1c (by rw[dV];omega),dV,<- hx]
    congr 1
    omega
theorem a2j.nil:a2j R [] []:=⟨O,λi c c' h=>by simp at h⟩
theorem a2j.cons{l l':List CV}(h:Q7 R c c')(hl:a2j R l l'):a2j R (c::l) (c'::l'):=⟨n_7 (· +1) hl.1,λi d d' g g'=>by
 rcases i with _|i
 .simp at g g';subst g g';exact h
 .exact hl.2 i d d' (D g) (D g')⟩
inductive X8(n:Nat)(τ:List b9):R8->R8->Prop where
 |ret {c c':CV}:Cls n τ c c'->X8 n τ (.ret c) (.ret c')
 |pan {c c':CV}:Cls n τ c c'->X8 n τ (.pan c) (.pan c')
theorem M4{S:α->List b9}{P:α->Prop}(hC:C.plain)
 (h:b8 C f args obs λr τ=>∃a,X8 (S a).length τ r (res a)/\a3X (S a).length τ τ (S a)/\obs.length<=(S a).length/\P a):b8 C f args obs λr τ=>∃a,r=res a/\τ=S a/\P a:=λM w vs hr hn hx=>(h M w vs hr hn hx).mono λe w' he=>by
 cases e with
 |returned v=>
  obtain⟨c',τ,M',h1,h2,h3,a,h4,h5,h6,h7⟩:=he;obtain⟨g1,g2,g3⟩:=h2.cutCls hC h5;generalize hra:res a=ra at h4;cases h4 with
  |ret h4=>exact⟨_,S a,_,g3 M w h1 (by rw[hr.len];exact h6),g1,RV.close h2 g2 (λk p s Y hk hp hs=>.inr ⟨k,p,_,hk,hp,hs,O,O⟩) h4 h3,a,hra.symm,O,h7⟩
 |panicked ch=>
  obtain⟨c',v,τ,M',h0,h1,h2,h3,a,h4,h5,h6,h7⟩:=he;obtain⟨g1,g2,g3⟩:=h2.cutCls hC h5;generalize hra:res a=ra at h4;cases h4 with
  |pan h4=>exact⟨_,v,S a,_,h0,g3 M w h1 (by rw[hr.len];exact h6),g1,RV.close h2 g2 (λk p s Y hk hp hs=>.inr ⟨k,p,_,hk,hp,hs,O,O⟩) h4 h3,a,hra.symm,O,h7⟩
 |outgrown=>exact he
theorem a62(hC:C.plain)(hob:a2Z ob)(hc:p9 c)(hq:σ[q]?=some ob)(ap:a2j (λk i=>[q][i]?=some k) args' args)
 (h:b8 C f args [ob] λr τ=>∃_:Unit,X8 [ob].length τ r (.ret c)/\a3X [ob].length τ τ [ob]/\[ob].length<=[ob].length/\True):b8 C f args' σ λr τ=>r= .ret c/\τ=σ:=by
 have hk:q<σ.length:=(n_2.1 hq).1;have h1:=M4 (res:=λ_=>.ret c) (S:=λ_=>[ob]) (P:=λ_=>True) hC h;have h2:=a02 (σ:=σ) (args':=args') (res':=λ_:Unit=>.ret c) (N:=λ_=>[]) [q] hC O (λi j k h1 h2=>by
  have:=(n_2.1 h1).1;have:=(n_2.1 h2).1;simp at*;omega) (λi k hi=>by
  rcases i with _|i
  .simp at hi;subst hi;exact⟨hk,by rw[hq];rfl⟩
  .simp at hi) (λo ho=>by simp at ho;subst ho;exact hob) ap (h1.mono λr τ ⟨a,e1,e2,e3⟩=>⟨a,e1,by rw[e2,Z7],e3⟩) (λ_ _=>⟨O,λo ho=>by simp at ho;subst ho;exact hob⟩) (λ_ _=>.ret (.pure hc))
 refine h2.mono λr τ ⟨_,e1,e2,_⟩=>⟨e1,?_⟩;rw[e2,Z7];show σ.set q ob=σ;apply b02;intro i;rw[a8X]
 split
 .rename_i e;subst e;first|(rw[Q hk,hq])|(rw[hq])
 .rfl
theorem a2i{P:Program}{f:FuncId}{fn:Func}{e:Array Value → Sem Value}{args:Array Value}{w:World}{v:Value}(hf:P.funcs[f]?=some fn)(dC:(fn.name == "runtime.NumGoroutine")=false)(hb:fn.body.isNone =true)(hn:Extern.findNext fn=none)(he:Extern.find fn=some e)(hr:(e args).run P w= .ok v w):
 (callFunc f args).run P w= .ok (.value v) w:=by
 simp only[callFunc,Sem.run_bind,run_program,Result.andThen_ok,hf,dC,hb,hn,he];simp[hr]
section
theorem c1j{f:FuncId}{fn:Func}{e:Array Value → Sem Value}{ts:Array TypeId}{x y:Operand}{a b v:Value}(ho:o.op = .call {callee:=.value (.func f),args:= #[x,y],argTypes:=ts})(hf:C.P.funcs[f]?=some fn)(dC:(fn.name == "runtime.NumGoroutine")=false)(hb:fn.body.isNone =true)(hn:Extern.findNext fn=none)(he:Extern.find fn=some e)
 (hx:E.valid x)(hy:E.valid y)(ex:E.val C x= .val a)(ey:E.val C y= .val b)(hr:∀w,(e #[a,b]).run C.P w= .ok v w):l8 C σ E o (.val v):=
 i8 λM w ρ _ hh=>by
  have h1:=hh x H0 hx;have h2:=hh y H0 hy;have ci:=p8 (hh (.func f) H0 J);rw[ex]at h1;rw[ey]at h2;refine⟨v,?_,.val _⟩;have:=a2i (args:=#[a,b]) (w:=w) hf dC hb hn he (hr w);simp[execOp,ho,resolve,ci,p8 h1,p8 h2,Deferred.ofValue,invoke,this]
end
theorem c6X(s:I)(c:UInt8)(w:World):(Extern.BytealgCount.count #[.string (str s),.int .u8 c.toNat]).run P w= .ok (.int .i64 (s.count c:Nat)) w:=by
 have:=Go.Lib.run_countString (P:=P) (str s) (c.toNat:Int) w;rw[this];simp[Go.Lib.countByte,str]
theorem c56(s:I)(c:UInt8)(w:World):(Extern.BytealgIndexByte.indexByte #[.string (str s),.int .u8 c.toNat]).run P w= .ok (.int .i64 (Go.Lib.indexByte s c)) w:=by
 have:=Go.Lib.run_indexByteString (P:=P) (str s) (c.toNat:Int) w;rw[this];simp[str]
def d7a:R8->Prop
 | .ret c=>p9 c
 | .pan c=>p9 c
theorem D8{P:α->Prop}(hC:C.plain)(ap:∀c∈args,p9 c)
 (h:b8 C f args [] λr τ=>∃a,X8 0 τ r (res a)/\P a)(eD:∀a,P a->d7a (res a))(σ:List b9):b8 C f args σ λr τ=>∃a,r=res a/\τ=σ/\P a:=by
 have h1:b8 C f args [] λr τ=>∃a,r=res a/\τ=(λ_=>[]) a/\P a:=M4 (res:=res) (S:=λ_=>[]) (P:=P) hC (h.mono λr τ ⟨a,h2,h3⟩=>⟨a,h2,by cases τ<;>trivial,n_6 _,h3⟩);have h2:=a02 (σ:=σ) (args':=args) (res':=res) (S:=λ_=>[]) (N:=λ_=>[]) (P:=P) [] hC O (λi j k h1=>by simp at h1) (λi k h1=>by simp at h1) (λo ho=>by simp at ho) (H9 ap)
  (h1.mono λr τ ⟨a,e1,e2,e3⟩=>⟨a,e1,by rw[e2];rfl,e3⟩) (λ_ _=>⟨O,λo ho=>by simp at ho⟩) (λa hp=>by
   have:=eD a hp;cases hr:res a with
   |ret c=>rw[hr]at this;exact .ret (.pure this)
   |pan c=>rw[hr]at this;exact .pan (.pure this))
 exact h2.mono λr τ ⟨a,e1,e2,e3⟩=>⟨a,e1,by rw[e2];simp[a26],e3⟩
theorem a0g(h:b8 C f args (σ++[.dead]) K):b8 C f args σ K:=λM w vs hr hn hx=>by
 obtain⟨h1,h2⟩:=hr.addDead ⟨0,0,0⟩;refine(h _ w vs h1 hn λi c hi=>(hx i c hi).mono h2).mono λe w' he=>?_;cases e with
 |returned v=>
  obtain⟨c,τ,M',g1,g2,g3,g4⟩:=he;exact⟨c,τ,M',h2.trans g1,g2,g3,g4⟩
 |panicked ch=>
  obtain⟨c,v,τ,M',g0,g1,g2,g3,g4⟩:=he;exact⟨c,v,τ,M',g0,h2.trans g1,g2,g3,g4⟩
 |outgrown=>exact he
theorem b0K{c:Code}(h:CWp C n c Jh E (σ++[.dead])):CWp C n c Jh E σ:=λM w a hr hf=>by
 obtain⟨h1,h2⟩:=hr.addDead ⟨0,0,0⟩;exact wp_mono (h _ w a h1 (hf.mono h2)) λ_ _ _=>Q8.later h2
inductive d2r(L:Nat)(ak:List Nat):R8->R8->Prop where
 |ret {c c':CV}:C3 L ak c c'->d2r L ak (.ret c) (.ret c')
 |pan {c c':CV}:C3 L ak c c'->d2r L ak (.pan c) (.pan c')
def F0(L:Nat)(τ:List b9)(r r':R8)(S:List b9):Prop:=∃ak,a6D L ak=true/\a0o ak=true/\d2r L ak r r'/\b7z L ak τ ak S
theorem K2(hC:C.plain)(h:b8 C f args obs λr τ=>∃r' S,F0 obs.length τ r r' S/\K r' S):b8 C f args obs K:=λM w vs hr hn hx=>by
 refine(h M w vs hr hn hx).mono λe w' he=>?_;cases e with
 |returned v=>
  obtain⟨c,τ,M',g1,g2,g3,r',S,⟨ak,k1,k2,k3,k4⟩,k5⟩:=he;have hL:obs.length<=M'.pl.length:=by
   obtain⟨l,hl⟩:=g1.pl;rw[hl,<- hr.len];simp
  cases k3 with
  |ret k3=>exact⟨_,S,_,g1.ren k1 hr.len,g2.ren hC k1 k2 hL k4,RV.ren (a3w k1) hL g3 k3,k5⟩
 |panicked ch=>
  obtain⟨c,v,τ,M',g0,g1,g2,g3,r',S,⟨ak,k1,k2,k3,k4⟩,k5⟩:=he;have hL:obs.length<=M'.pl.length:=by
   obtain⟨l,hl⟩:=g1.pl;rw[hl,<- hr.len];simp
  cases k3 with
  |pan k3=>exact⟨_,v,S,_,g0,g1.ren k1 hr.len,g2.ren hC k1 k2 hL k4,RV.ren (a3w k1) hL g3 k3,k5⟩
 |outgrown=>exact he
section
theorem o8{c:α->CV}{S:α->List b9}{P:α->Prop}{c':β->CV}{S':β->List b9}{P':β->Prop}(ho:o.op = .call {callee:=.value (.func f),args:=xs,argTypes:=ts})(aA:∀args w,(callFunc f args).run C.P w= .ok (.enter f args) w)
 (hv:E.valids xs.toList)(h:b8 C f cargs σ λr aa=>(∃a,r= .ret (c a)/\aa=S a/\P a)\/∃b,r= .pan (c' b)/\aa=S' b/\P' b)(ea:(E.vals C xs.toList).map CV.fgt=cargs)(hp:∀b,P' b->K (.pan (c' b)) (S' b))(hk:∀a,P a->K (.ret (c a)) (S a)):G5 C σ E o K:=
 b5A ho aA (Env.valids_mem hv) (Env.vals_map _) ((a3S (ea▸h)).mono λr aa hh=>by
  rcases hh with⟨a,rfl,rfl,hq⟩|⟨b,rfl,rfl,hq⟩
  .exact hk a hq
  .exact hp b hq)
theorem P6{c':β->CV}{S':β->List b9}{P':β->Prop}(ho:o.op = .call {callee:=.value (.func f),args:=xs,argTypes:=ts})(aA:∀args w,(callFunc f args).run C.P w= .ok (.enter f args) w)
 (hv:E.valids xs.toList)(h:b8 C f cargs σ λr aa=>∃b,r= .pan (c' b)/\aa=S' b/\P' b)(ea:(E.vals C xs.toList).map CV.fgt=cargs)(hp:∀b,P' b->K (.pan (c' b)) (S' b)):G5 C σ E o K:=
 b5A ho aA (Env.valids_mem hv) (Env.vals_map _) ((a3S (ea▸h)).mono λr aa hh=>by
  obtain⟨b,rfl,rfl,hq⟩:=hh;exact hp b hq)
def b0J:TypeDesc->Bool
 | .interface _=>true
 |_=>false
theorem c1E{u:TypeDesc}(h:∀w,(underlying t).run P w= .ok u w)(hu:b0J u=false)(v:Value)(w:World):(Instr.makeInterface t v).run P w= .ok (.iface t v) w:=by
 simp[Instr.makeInterface,go_sem];rw[h w];cases u<;>simp[b0J]at hu⊢
theorem c6A{xs:List Value}(ho:o.op = .makeInterface t x)(hx:E.valid x)(ex:E.val C x=plain xs)(hm:∀v w,(Instr.makeInterface t v).run C.P w= .ok (.iface t v) w):l8 C σ E o (.val (.iface t (.agg xs.toArray))):=
 i8 λM w ρ _ h=>by
  have h1:=h x u0 hx;rw[ex]at h1;have h2:=a1n h1;refine⟨_,?_,.val _⟩;simp only[execOp,ho];rw[<- h2];simp[hm]
end
section
theorem K9{l:List Oper}(aa:List b9)(h:σ=aa)(k:I6 C n ab Jh l E aa):I6 C n ab Jh l E σ:=h▸k
theorem L6{c:Code}(aa:List b9)(h:σ=aa)(k:CWp C n c Jh E aa):CWp C n c Jh E σ:=h▸k
end
def addDs(ds:List Deferred)(a:Act):Act:={a with defers:=a.defers++ds}
theorem U7{ds:List Deferred}{a:Act}{d:Option Nat}:(addDs ds a).put d v=addDs ds (a.put d v):=by
 cases d<;>rfl
theorem a9P{ds:List Deferred}{a:Act}{d:Deferred}{t:Option Nat}:({addDs ds a with defers:=d::(addDs ds a).defers}:Act).put t undef=addDs ds (({a with defers:=d::a.defers}:Act).put t undef):=by
 cases t<;>rfl
theorem c5W{Jh Q':Exit->Act->World->Prop}{ds:List Deferred}(hq:∀e a w,Jh e a w->Q' e (addDs ds a) w):∀(l:List Oper) (a:Act) (w:World),wpList P ab Jh l a w->wpList P ab Q' l (addDs ds a) w:=by
 have bG:LetsOut Jh->LetsOut Q':=λ⟨a0,w0,h⟩=>⟨_,w0,hq _ a0 w0 h⟩;intro l
 induction l with
 |nil=>exact λa w h=>hq _ _ _ h
 |cons o l ih=>
  intro a w h;unfold wpList at h⊢;change if Region.wanted o (yielded ab a.tmps)=true then _ else _
  split
  .rename_i hw;rw[Q hw]at h;refine h.imp (λh=>?_) (λ⟨h1,h2⟩=>⟨h1,bG h2⟩);unfold Oper.wp at h⊢;change o.upon P (addDs ds a) _ _ ((execOp a.eval o).run P w);generalize (execOp a.eval o).run P w=r at h;cases r with
   |ok x w3=>
    cases x<;>simp only[Oper.upon]at h⊢
    case value v=>rw[U7];exact ih _ _ h
    case skip=>rw[U7];exact ih _ _ h
    case defer d=>rw[a9P];exact ih _ _ h
    case enter f args=>
     refine h.mono λe w4 he=>?_;cases e with
     |returned v=>show wpList P ab Q' l ((addDs ds a).put o.dst v) w4;rw[U7];exact ih _ _ he
     |panicked ch=>exact hq _ _ _ he
     |outgrown=>exact bG he
    case row r args=>exact Rows.mono h λ_ _ he=>by rw[U7];exact ih _ _ he
   |halt x w3=>
    cases x<;>simp only[Oper.upon]at h⊢
    exact hq _ _ _ h
  .rename_i hw;rw[W hw]at h;rw[U7];exact ih _ _ h
def b8q(ds:List Deferred)(C:Ctx)(n:Nat)(Jh:A7->Env->List b9->Prop)(M:z8)(w:World)(e:Exit)(a':Act)(w':World):Prop:=∃a0,a'=addDs ds a0/\Q8 C n Jh M w e a0 w'
def a47(ds:List Deferred)(C:Ctx)(n:Nat)(c:Code)(Jh:A7->Env->List b9->Prop)(E:Env)(σ:List b9):Prop:=
 ∀(M:z8) (w:World) (a:Act),Rel C M σ w->I3 M w n E a->c.wp C.P (b8q ds C n Jh M w) (addDs ds a) w
section
variable{ds:List Deferred}
theorem b8q.later{M1:z8}{w1:World}(he:Ext M w M1 w1){e:Exit}{a:Act}{w':World}(hl:b8q ds C n Jh M1 w1 e a w'):b8q ds C n Jh M w e a w':=by
 obtain⟨a0,h0,h⟩:=hl;exact⟨a0,h0,Q8.later he h⟩
theorem a3Y(h:I6 C n ab Jh ab.toList E σ):a47 ds C n (.region id ab false) Jh E σ:=
 λM w a hr hf=>wp_region_list (c5W (λ_ a0 _ h=>⟨a0,O,h⟩) _ _ _ (h M w a hr hf))
theorem b0s(h:Jh .ret E σ):a47 ds C n .ret Jh E σ:=λM w a hr hf=>wp_ret ⟨a,O,E,σ,M,Ext.refl M w,hr,hf,h⟩
theorem d1p(h:Jh .normal E σ):a47 ds C n .skip Jh E σ:=λM w a hr hf=>wp_skip ⟨a,O,E,σ,M,Ext.refl M w,hr,hf,h⟩
theorem a5Q{x y:Code}(h:a47 ds C n x (A7.next (a47 ds C n y Jh) Jh) E σ):a47 ds C n (.seq x y) Jh E σ:=λM w a hr hf=>by
 refine wp_seq (wp_mono (h M w a hr hf) λe a' w' hl=>?_);obtain⟨a0,rfl,E',aa,M',h1,h2,h3,h4⟩:=hl;cases e with
 |normal=>exact wp_mono (h4 M' w' a0 h2 h3) λ_ _ _=>b8q.later h1
 |_=>exact⟨a0,O,E',aa,M',h1,h2,h3,h4⟩
theorem b7J{c:Operand}{x y:Code}(hv:E.valid c)(hc:E.val C c= .val (.bool b))(ht:b=true->a47 ds C n x Jh E σ)(gR:b=false->a47 ds C n y Jh E σ):a47 ds C n (.cond c x y) Jh E σ:=λM w a hr hf=>by
 have h1:RV M w (E.val C c) (a.eval c):=hf.eval hr hv;rw[hc]at h1;have h2:a.eval c= .bool b:=by generalize a.eval c=u at h1;cases h1;rfl
 exact wp_cond_split (a:=addDs ds a) h2 (λh=>ht h M w a hr hf) (λh=>gR h M w a hr hf)
end
section
theorem a3v{caps:Array Operand}(ho:o.op = .makeFunc (.func f) #[] caps)(hv:E.valids caps.toList):l8 C σ E o (.clo f (E.vals C caps.toList)):=
 i8 λM w ρ _ h=>by
  refine⟨.func (.func f) #[] (caps.map ρ),by simp[execOp,ho,Instr.makeFunc],.clo (by rw[<- Env.vals_map];simp) λi c hi=>?_⟩;rw[<- Env.vals_map,O2,Q3]at hi;obtain⟨x,hx,rfl⟩:=hi;have ay:caps[i]?=some x:=D hx;have hm:x∈caps:=b5x ay;have:(caps.map ρ).getD i undef=ρ x:=by
   rw[Z6,c0G,ay];rfl
  rw[this];exact h x (by simp[ho,Op.operands,hm]) (Env.valids_mem hv x (D hm))
theorem b4B{f:FuncId}{cx:Operand}{xs:Array Operand}{ts:Array TypeId}{cargs caps:List CV}{K:R8->List b9->Prop}(ho:o.op = .call {callee:=.value cx,args:=xs,argTypes:=ts})(hc:E.valid cx)(ec:E.val C cx= .clo f caps)(aA:∀args w,(callFunc f args).run C.P w= .ok (.enter f args) w)
 (hv:∀x∈xs.toList,E.valid x)(ea:xs.toList.map (E.val C)=cargs)(h:b8 C f (cargs++caps) σ K):G5 C σ E o K:=λM w ρ hr hh=>by
 have hf:=hh cx H0 hc;rw[ec]at hf;generalize hcx:ρ cx=fv at hf;cases hf with
 | @clo _ _ vs aK iJ=>
  have au:(execOp ρ o).run C.P w= .ok (.enter f (xs.map ρ++vs)) w:=by
   simp[execOp,ho,resolve,hcx,Deferred.ofValue,invoke,aA]
  rw[au];refine(h M w (xs.map ρ++vs) hr (by simp[<- ea,aK]) λi c hi=>?_).mono λe w' he=>by cases e<;>exact he
  subst ea;rw[Z6,b7d];rw[a6O]at hi;simp only[K6,b0d,Array.size_map]at hi⊢
  split<;>rename_i af
  .rw [Q af]at hi;simp only[O2,Q3]at hi;obtain⟨x,hx,rfl⟩:=hi;have ay:xs[i]?=some x:=D hx;have hm:x∈xs:=b5x ay;rw[c0G,ay];exact hh x (by simp[ho,Op.operands,Call.operands,hm]) (hv x (D hm))
  .rw [W af]at hi;have:=iJ _ _ hi;rwa[Z6]at this
theorem a8O{cx:Operand}{caps:List CV}(ho:o.op = .call {callee:=.value cx,args:=xs,argTypes:=ts})(hc:E.valid cx)(ec:E.val C cx= .clo f caps)(aA:∀args w,(callFunc f args).run C.P w= .ok (.enter f args) w)
 (hv:E.valids xs.toList)(h:b8 C f (cargs++caps) σ λr aa=>r= .ret c/\aa=σ)(ea:E.vals C xs.toList=cargs):l8 C σ E o c:=
 b4B ho hc ec aA (Env.valids_mem hv) (Env.vals_map _) (ea▸h)
end
def c7G(C:Ctx)(M:z8)(w:World)(K:R8->List b9->Prop):Ending->World->Prop
 | .returned v,w'=>a1i C M w K v w'
 | .panicked ch,w'=>U1 C M w K ch w'
 | .outgrown,_=>False
theorem c7G.later{M1:z8}{w1:World}(hx:Ext M w M1 w1){e:Ending}{w':World}(h:c7G C M1 w1 K e w'):c7G C M w K e w':=by
 cases e with
 |returned v=>
  obtain⟨c,aa,M',h1,h2⟩:=h;exact⟨c,aa,M',hx.trans h1,h2⟩
 |panicked ch=>
  obtain⟨c,v,aa,M',h0,h1,h2⟩:=h;exact⟨c,v,aa,M',h0,hx.trans h1,h2⟩
 |outgrown=>exact h
theorem a48{fn:Func}{tmps:Array Value}{R R':Ending->World->Prop}(h:∀e w,R e w->R' e w):∀(ds:List Deferred) (u:FrameMode) (w:World),Leaves P fn tmps R ds u w->Leaves P fn tmps R' ds u w:=by
 intro ds
 induction ds with
 |nil=>
  intro u w hl;cases u with
  |run=>exact hl
  |returning=>
   obtain⟨v,h1,h2⟩:=hl;exact⟨v,h1,h _ _ h2⟩
  |panicking ch=>exact h _ _ hl
 |cons d ds ih=>
  intro u w hl;obtain⟨h1,fv,cap,f,args,h2,h3,h4⟩:=hl;refine⟨h1,fv,cap,f,args,h2,h3,h4.mono λe u' w' he=>?_⟩;cases e with
  |returned v=>exact ih _ _ he
  |panicked ch=>exact ih _ _ he
  |outgrown=>exact h _ _ he
theorem b0N{fn:Func}{R R':Ending->World->Prop}(h:∀e w,R e w->R' e w){e:Exit}{a:Act}(hb:bodyPostD P fn R e a w):bodyPostD P fn R' e a w:=by
 cases e with
 |normal=>exact a48 h _ _ _ hb
 |ret=>exact a48 h _ _ _ hb
 |panic ch=>exact a48 h _ _ _ hb
 |outgrown=>exact h _ _ hb
 |exit id=>exact hb
 |goto l=>exact hb
def c0k(C:Ctx)(fn:Func)(K:R8->List b9->Prop)(c:Code)(E:Env)(σ:List b9):Prop:=
 ∀(M:z8) (w:World) (a:Act),Rel C M σ w->I3 M w fn.ntmps E a->c.wp C.P (bodyPostD C.P fn (c7G C M w K)) a w
theorem a8G{vs:Array Value}(hn:args.length<=n)(aK:vs.size=args.length)(hx:∀(i:Nat) (c:CV),args[i]?=some c->RV M w c (vs.getD i undef)):I3 M w n (Env.args args) {tmps:=vs++Array.replicate (n-vs.size) undef,defers:=[]}:=by
 refine⟨O,by simp;omega,λt _=>?_,λt ht=>absurd trivial ht⟩;simp only[Env.args,Env.f]
 rcases a4x t args.length with ht|ht
 .have:=hx t (args[t]) (by simp[ht]);have h1:(vs++Array.replicate (n-vs.size) undef).getD t undef=vs.getD t undef:=by
   simp[b7d,aK,ht]
  rw[h1];simpa[ht]using this
 .have h1:(vs++Array.replicate (n-vs.size) undef).getD t undef=undef:=by
   simp only[Z6,b7d];rw[W G];rw[Array.getElem?_replicate]
   split<;>rfl
  rw[h1];simp only[c0X ht,Option.getD_none];exact .val _
theorem c0C{fn:Func}{c:Code}(hf:C.P.funcs[f]?=some fn)(hb:fn.body=some c)(hn:Nat.ble args.length fn.ntmps=true)(h:c0k C fn K c (Env.args args) σ):b8 C f args σ K:=λM w vs hr aK hx=>
 (calls_of_wp_defers hf hb (h M w _ hr (a8G (nb hn) aK hx))).mono λe w' he=>by cases e<;>exact he
theorem c2g{fn:Func}{x y:Code}(h:CWp C fn.ntmps x (A7.next (c0k C fn K y) (Fin C fn K)) E σ):c0k C fn K (.seq x y) E σ:=λM w a hr hf=>by
 refine wp_seq (wp_mono (h M w a hr hf) λe a' w' hl=>?_);obtain⟨E',aa,M',h1,h2,h3,h4⟩:=hl;cases e with
 |normal=>exact wp_mono (h4 M' w' a' h2 h3) λe a0 w0 hb=>b0N (λe w he=>c7G.later h1 he) hb
 |ret=>
  obtain⟨c,hc,hk⟩:=h4;obtain⟨v,hv,aZ⟩:=hc M' w' a' h2 h3.rv;show Leaves C.P fn a'.tmps _ a'.defers .returning w';rw[h3.defers];exact⟨v,hv,c,aa,M',h1,h2,aZ,hk⟩
 |panic ch=>
  obtain⟨c,v,h0,hv,hk⟩:=h4;show Leaves C.P fn a'.tmps _ a'.defers (.panicking ch) w';rw[h3.defers];exact⟨c,v,aa,M',h0,h1,h2,hv,hk⟩
 |exit id=>exact h4.elim
 |goto l=>exact h4.elim
 |outgrown=>exact h4.elim
def b0M(b:Bool)(v:Value):FrameMode:=if b then .panicking [{v,recovered:=false}]else .returning
def a0h(b:Bool)(v:Value):FrameMode:=if b then .panicking [{v,recovered:=true}]else .returning
theorem b5V(b:Bool)(v:Value):settle (a0h b v)= .returning:=by cases b<;>rfl
def c7A(C:Ctx)(g:FuncId)(caps:List CV)(σ:List b9)(b:Bool)(u:CV)(K:List b9->Prop):Prop:=
 ∀(M:z8) (w:World) (vs:Array Value) (v:Value),Rel C M σ w->vs.size=caps.length->(∀(i:Nat) (c:CV),caps[i]?=some c->RV M w c (vs.getD i undef))->RV M w u v ->
  CallsD C.P g vs (b0M b v) w λe u' w'=>(∃x,e= .returned x)/\u'=a0h b v/\∃aa M',Ext M w M' w'/\Rel C M' aa w'/\K aa
theorem d1l{C:Ctx}{fn:Func}{K:R8->List b9->Prop}{id:Nat}{ab:Array Oper}{y:Code}{E:Env}{σ:List b9}{g:FuncId}{caps:Array Operand}{t:Nat}{o1 o2:Oper}{ats:Array TypeId}(hl:ab.toList=[o1,o2])(g1:o1.guard=none)(g2:o2.guard=none)(d1:o1.dst=some t)(d2:o2.dst=none)(ht:t<fn.ntmps)
 (e1:o1.op = .makeFunc (.func g) #[] caps)(e2:o2.op = .defer {callee:=.value (.tmp t),args:=#[],argTypes:=ats})(hg:∀args w,(callFunc g args).run C.P w= .ok (.enter g args) w)(hv:E.valids caps.toList)
 (h:∀ds,a47 ds C fn.ntmps y (λe E' aa=>match e with
  | .normal | .ret=>c7A C g (E.vals C caps.toList) aa false (.val undef) λbv=>∃c,W6 C E' bv fn c/\K (.ret c) bv
  | .pan u=>c7A C g (E.vals C caps.toList) aa true u λbv=>∃c,W6 C E' bv fn c/\K (.ret c) bv
  |_=>False) (E.put (some t) (.clo g (E.vals C caps.toList)) True) σ):c0k C fn K (.seq (.region id ab false) y) E σ:=λM w a hr hf=>by
 refine wp_seq (wp_region_list ?_);rw[hl];obtain⟨v,dX,db⟩:∃v,(execOp a.eval o1).run C.P w= .ok (.value v) w/\RV M w (.clo g (E.vals C caps.toList)) v:=by
  refine⟨.func (.func g) #[] (caps.map a.eval),by simp[execOp,e1,Instr.makeFunc],.clo (by rw[<- Env.vals_map];simp) λi c hi=>?_⟩;rw[<- Env.vals_map,O2,Q3]at hi;obtain⟨x,hx,rfl⟩:=hi;have ay:caps[i]?=some x:=D hx;have hm:x∈caps:=b5x ay;have:(caps.map a.eval).getD i undef=a.eval x:=by
   rw[Z6,c0G,ay];rfl
  rw[this];exact hf.eval hr (Env.valids_mem hv x (D hm))
 have di:I3 M w fn.ntmps (E.put (some t) (.clo g (E.vals C caps.toList)) True) (a.put (some t) v):=hf.put (λt' gJ=>by injection gJ with gJ;omega) (λ_=>db) λhh=>absurd trivial hh;unfold wpList;rw[Q (by simp[Region.wanted,g1])];refine .inl ?_;unfold Oper.wp;rw[dX,Oper.upon_value,d1];unfold wpList;rw[Q (by simp[Region.wanted,g2])];refine .inl ?_;have iK:(a.put (some t) v).eval (.tmp t)=v:=by
  have aK:t<a.tmps.size:=by rw[hf.size];exact ht
  simp[Act.eval,Act.put,aK]
 cases db with
 | @clo _ _ vs aK iJ=>
 have au:(execOp (a.put (some t) (.func (.func g) #[] vs)).eval o2).run C.P w= .ok (.defer {target:=.fn (.func g) vs,args:=#[]}) w:=by
  simp[execOp,e2,resolve,iK,Deferred.ofValue]
 unfold Oper.wp;rw[au,Oper.upon_defer,d2];unfold wpList;have hact:({a.put (some t) (.func (.func g) #[] vs)with defers:={target:=.fn (.func g) vs,args:=#[]}::(a.put (some t) (.func (.func g) #[] vs)).defers}:Act).put none undef=addDs [{target:=.fn (.func g) vs,args:=#[]}] (a.put (some t) (.func (.func g) #[] vs)):=by
  simp[addDs,Act.put,hf.defers]
 rw[hact];refine wp_mono (h _ M w _ hr di) λe a' w' hl=>?_;obtain⟨a0,rfl,E',aa,M',h1,h2,h3,h4⟩:=hl;have hvs':∀(i:Nat) (c:CV),(E.vals C caps.toList)[i]?=some c->RV M' w' c (vs.getD i undef):=λi c hi=>(iJ i c hi).mono h1;have cr:(addDs [{target:=.fn (.func g) vs,args:=#[]}] a0).defers=[{target:=.fn (.func g) vs,args:=#[]}]:=by simp[addDs,h3.defers]
 have gH:∀(b:Bool) (u:CV) (pv:Value),RV M' w' u pv->(c7A C g (E.vals C caps.toList) aa b u λbv=>∃c,W6 C E' bv fn c/\K (.ret c) bv)->Leaves C.P fn a0.tmps (c7G C M w K) [{target:=.fn (.func g) vs,args:=#[]}] (b0M b pv) w':=λb u pv hu hd=>by
  refine leaves_cons (f:=g) (args:=vs) (by cases b<;>simp[b0M]) (by simp[invoke,hg]) ((hd M' w' vs pv h2 aK hvs' hu).mono λe u' w'' he=>?_);obtain⟨⟨x,rfl⟩,rfl,bv,gZ,k1,k2,c,hc,hk⟩:=he;show Leaves C.P fn a0.tmps _ [] (settle _) w'';rw[b5V];obtain⟨rv,aZ,hrv2⟩:=hc gZ w'' a0 k2 λt ht=>(h3.rv t ht).mono k1;exact⟨rv,aZ,c,bv,gZ,h1.trans k1,k2,hrv2,hk⟩
 cases e with
 |normal=>
  show Leaves C.P fn _ _ (addDs _ a0).defers .returning w';rw[cr];exact gH false _ undef (.val _) h4
 |ret=>
  show Leaves C.P fn _ _ (addDs _ a0).defers .returning w';rw[cr];exact gH false _ undef (.val _) h4
 |panic ch=>
  obtain⟨c,pv,rfl,hpv,h4⟩:=h4;show Leaves C.P fn _ _ (addDs _ a0).defers (.panicking _) w';rw[cr];exact gH true c pv hpv h4
 |exit id=>exact h4.elim
 |goto l=>exact h4.elim
 |outgrown=>exact h4.elim
theorem d5r{g:FuncId}{fn:Func}{y:Code}{caps:List CV}{u:CV}{K:List b9->Prop}{t1 t2:Nat}{o1 o2:Oper}{ats:Array TypeId}(hf:C.P.funcs[g]?=some fn)(hb:fn.body=some (.seq (.region id ab false) y))(bH:fn.results = #[])(hn:Nat.ble caps.length fn.ntmps=true)
 (hs:ab.size=2)(h0:ab[0]?=some o1)(h1:ab[1]?=some o2)(g1:o1.guard=none)(g2:o2.guard=none)(d1:o1.dst=some t1)(d2:o2.dst=some t2)(iL:t1<fn.ntmps)(iM:t2<fn.ntmps)(e1:o1.op = .call {callee:=.builtin .recover,args:=#[],argTypes:=ats})(e2:o2.op = .assign (.tmp t1))
 (h:CWp C fn.ntmps y (λe _ aa=>match e with| .normal | .ret=>K aa|_=>False) (((Env.args caps).put (some t1) (if b then u else .val .nilIface) True).put (some t2) (if b then u else .val .nilIface) True) σ):c7A C g caps σ b u K:=λM w vs v hr aK iJ hu=>by
 refine callsD_of_wpS hf hb λgY cs hc₀=>?_;refine wpS_seq (wpS_region ?_);rw[hs];have hrec:recoverD (gY::cs)=if b then some (v,{gY with mode:=a0h b v}::cs)else none:=by
  unfold recoverD;simp only[hc₀];cases b<;>simp[b0M,a0h]
 have f0:=a8G (n:=fn.ntmps) (nb hn) aK iJ;generalize hact:({tmps:=vs++Array.replicate (fn.ntmps -vs.size) undef,defers:=[]}:Act)=a0 at f0;have hrun1:(execOp a0.eval o1).run C.P w= .ok .recover w:=by simp[execOp,e1,resolve,invoke,builtin]
 have rest:∀(x:Value) (aX:List Frame),aX={gY with mode:=a0h b v}::cs->RV M w (if b then u else .val .nilIface) x->wpOpsS C.P ab (Exit.thenS (y.wpS C.P (bodyPostS C.P fn gY cs λe u' w'=>(∃x,e= .returned x)/\u'=a0h b v/\∃aa M',Ext M w M' w'/\Rel C M' aa w'/\K aa)) (bodyPostS C.P fn gY cs λe u' w'=>(∃x,e= .returned x)/\u'=a0h b v/\∃aa M',Ext M w M' w'/\Rel C M' aa w'/\K aa)) [1] (a0.put (some t1) x) aX w:=by
  intro x aX hcs hx;have f1:I3 M w fn.ntmps ((Env.args caps).put (some t1) (if b then u else .val .nilIface) True) (a0.put (some t1) x):=f0.put (λt' gJ=>by injection gJ with gJ;omega) (λ_=>hx) λhh=>absurd trivial hh;have iK:(a0.put (some t1) x).eval (.tmp t1)=x:=by
   have aK:t1<a0.tmps.size:=by rw[f0.size];exact iL
   simp[Act.eval,Act.put,aK]
  have iN:(execOp (a0.put (some t1) x).eval o2).run C.P w= .ok (.value x) w:=by simp[execOp,e2,iK]
  have f2:I3 M w fn.ntmps (((Env.args caps).put (some t1) (if b then u else .val .nilIface) True).put (some t2) (if b then u else .val .nilIface) True) ((a0.put (some t1) x).put (some t2) x):=f1.put (λt' gJ=>by injection gJ with gJ;omega) (λ_=>hx) λhh=>absurd trivial hh;simp only[wpOpsS,h1,Region.wanted,g2,if_true,iN,Oper.upon_value,d2,Exit.thenS];refine wpS_of_wp (wp_mono (h M w _ hr f2) λe a' w' hl=>?_);obtain⟨E',aa,M',k1,k2,k3,k4⟩:=hl;subst hcs;cases e with
  |normal=>exact⟨k3.defers,_,O,_,results_none bH _ _ _,⟨_,O⟩,O,aa,M',k1,k2,k4⟩
  |ret=>exact⟨k3.defers,_,O,_,results_none bH _ _ _,⟨_,O⟩,O,aa,M',k1,k2,k4⟩
  |panic ch=>
   obtain⟨c,pv,_,_,k4⟩:=k4;exact k4.elim
  |exit id=>exact k4.elim
  |goto l=>exact k4.elim
  |outgrown=>exact k4.elim
 show wpOpsS C.P ab _ [0,1] _ _ _;unfold wpOpsS;simp only[h0,Region.wanted,g1,if_true,hrun1,hrec,d1];cases b with
 |true=>exact rest v _ O hu
 |false=>
  refine rest .nilIface _ ?_ (.val _);simp[a0h,b0M]at hc₀⊢;cases gY
  simp_all
section
def b0F:Value->Bool
 | .iface _ _=>true
 |_=>false
theorem c5q{ms:Array (String×TypeId)}(ho:o.op = .binOp .neq t x (.const .nilIface) t')(hx:E.valid x)(ex:E.val C x= .val v)(hu:∀w,(underlying t).run C.P w= .ok (.interface ms) w)(hv:v= .nilIface\/∃a b,v= .iface a b):l8 C σ E o (.val (.bool (b0F v))):=
 i8 λM w ρ _ h=>by
  have h1:=h x u0 hx;rw[ex]at h1;have e1:=p8 h1;have e2:=h (.const .nilIface) u0 O;have e3:=p8 e2;refine⟨.bool (b0F v),?_,.val _⟩
  rcases hv with rfl|⟨a,b,rfl⟩
  .have he:(Op.equal t .nilIface .nilIface).run C.P w= .ok true w:=by
    unfold Op.equal;rw[show Op.maxDepth=(Op.maxDepth -1)+1 from O,Op.equalIn];simp[hu]
   simp[execOp,ho,e1,e3,eqGuard,binOp,he,b0F]
  .have he:(Op.equal t (.iface a b) .nilIface).run C.P w= .ok false w:=by
    unfold Op.equal;rw[show Op.maxDepth=(Op.maxDepth -1)+1 from O,Op.equalIn];simp[hu]
   simp[execOp,ho,e1,e3,eqGuard,binOp,he,b0F]
theorem c5I{s:TypeId}{xs:List Value}{u:TypeDesc}(ho:o.op = .typeAssert x s t true)(hx:E.valid x)(ex:E.val C x= .val (.iface t (.agg xs.toArray)))(hu:∀w,(underlying t).run C.P w= .ok u w)(hi:b0J u=false)(h1x:(xs.all λv=>(CV.val v).one)=true):l8 C σ E o (.tup [plain xs,.val (.bool true)]):=
 i8 λM w ρ _ h=>by
  have h1:=h x u0 hx;rw[ex]at h1;have e1:=p8 h1;refine⟨.tuple #[.agg xs.toArray,.bool true],?_,.tup O λi c hc=>?_⟩
  .simp [execOp,ho,e1,Instr.typeAssert,hu];cases u<;>simp[b0J]at hi⊢
  .rcases i with _|_|i
   .injection hc with hc;subst hc
    refine .agg U (λc hc=>?_) λi c hc=>?_
    .obtain ⟨v,hm,rfl⟩:=D6.1 hc;exact a6b.1 h1x v hm
    .rw [O2,Q3]at hc;obtain⟨v,hv,rfl⟩:=hc;have:(xs.toArray).getD i undef=v:=by simp[Z6,hv]
     show RV M w (.val v) ((xs.toArray).getD i undef);rw[this];exact .val v
   .injection hc with hc;subst hc;exact .val _
   .cases hc
end
def b2j(σ:List b9):List Nat->List b9->List b9
 |k::ak,x::xs=>(b2j σ ak xs).set k x
 |_,_=>σ
theorem b1h(σ:List b9):∀(ak:List Nat) (xs:List b9),(b2j σ ak xs).length=σ.length
 | [],_=>by cases ‹List b9›<;>rfl
 |_::_,[]=>rfl
 |k::ak,x::xs=>by rw[b2j,List.length_set,b1h σ ak xs]
theorem c0f{σ:List b9}:∀{ak:List Nat} {xs:List b9} {k:Nat},k∉ak->(b2j σ ak xs)[k]?=σ[k]?
 | [],xs,k,_=>by cases xs<;>rfl
 |j::ak,[],k,_=>rfl
 |j::ak,x::xs,k,h=>by
  rw[b2j,a0S (λe=>h (by rw[<- e];simp))];exact c0f λhm=>h (by simp[hm])
theorem c3R{σ:List b9}:∀{ak:List Nat} {xs:List b9} {i k:Nat} {x:b9},(∀(i j k:Nat),ak[i]?=some k->ak[j]?=some k->i=j)->k<σ.length->ak[i]?=some k->xs[i]?=some x->(b2j σ ak xs)[k]?=some x
 | [],xs,i,k,x,_,_,h,_=>by simp at h
 |j::ak,[],i,k,x,_,_,_,h=>by simp at h
 |j::ak,y::xs,0,k,x,_,hk,h,hx=>by
  simp at h hx;subst h hx;rw[b2j];simp[b1h,hk]
 |j::ak,y::xs,i+1,k,x,cb,hk,h,hx=>by
  have ax:j≠k:=λe=>by
   subst e;have:=cb 0 (i+1) j O h;omega
  rw[b2j,a0S ax];exact c3R (λa b c h1 h2=>by
   have:=cb (a+1) (b+1) c (D h1) (D h2);omega) hk (D h) (D hx)
theorem Q7.mono(hR:∀k k',R k k'->R' k k')(h:Q7 R c c'):Q7 R' c c':=(h.symm (R':=λa b=>R' b a) λ_ _ h=>hR _ _ h).symm λ_ _ h=>h
theorem I7.mono(hR:∀k k',R k k'->R' k k'){a b:b9}(h:I7 R a b):I7 R' a b:=(h.symm (R':=λa b=>R' b a) λ_ _ h=>hR _ _ h).symm λ_ _ h=>h
def b51(ak:List Nat):Prop:=∀(i j k:Nat),ak[i]?=some k->ak[j]?=some k->i=j
theorem b59(ak:List Nat)(hC:C.plain)(aj:ak.length=obs.length)(cb:b51 ak)
 (cV:∀(i k:Nat) (ob:b9),ak[i]?=some k->obs[i]?=some ob->∃aL,σ[k]?=some aL/\I7 (λk i=>ak[i]?=some k) aL ob)(ap:a2j (λk i=>ak[i]?=some k) args' args)
 {res res':α->R8}{S S':α->List b9}{P:α->Prop}(h:b8 C f args obs λr τ=>∃a,r=res a/\τ=S a/\P a)(hS:∀a,(S a).length=obs.length)
 (fe:∀a (i k:Nat) (x:b9),ak[i]?=some k->(S a)[i]?=some x->∃x',(S' a)[i]?=some x'/\I7 (λi k=>ak[i]?=some k) x x')(eD:∀a,a7g (λi k=>ak[i]?=some k) (res a) (res' a)):
 b8 C f args' σ λr τ=>∃a,r=res' a/\τ=b2j σ ak (S' a)/\P a:=by
 refine I5 ak hC aj cb cV ap h λr τ hk=>?_;obtain⟨a,rfl,rfl,hp⟩:=hk;have up:∀{c c':CV},Q7 (λi k=>ak[i]?=some k) c c'->Q7 (a0p ak σ.length) c c':=λhh=>Q7.mono (λ_ _ h=>.inl h) hh;refine⟨by rw[hS];exact n_6 _,res' a,b2j σ ak (S' a),?_,by rw[b1h,hS];omega,λk _ bm=>c0f bm,λi k x ha hx=>?_,a,O,O,hp⟩
 .have:=eD a;generalize hra:res a=ra at this;generalize hrb:res' a=rb at this;cases this with
  |ret h=>exact .ret (up h)
  |pan h=>exact .pan (up h)
 .rcases ha with ha|⟨ha,_⟩
  .obtain ⟨x',h1,h2⟩:=fe a i k x ha hx;have bm:k<σ.length:=by
    have hi:i<obs.length:=by rw[<- aj];exact(n_2.1 ha).1
    obtain⟨aL,g1,_⟩:=cV i k obs[i] ha (by simp[hi]);exact(n_2.1 g1).1
   exact⟨x',c3R cb bm ha h1,I7.mono (λ_ _ h=>.inl h) h2⟩
  .have:=(n_2.1 hx).1;rw[hS,<- aj]at this;omega
theorem a2k(ak:List Nat)(hC:C.plain)(aj:ak.length=obs.length)(cb:b51 ak){obs':List b9}
 (cV:∀(i k:Nat) (ob:b9),ak[i]?=some k->obs[i]?=some ob->∃aL,obs'[i]?=some aL/\σ[k]?=some aL/\I7 (λi k=>ak[i]?=some k) ob aL)(ap:a2j (λk i=>ak[i]?=some k) args' args)
 {c:α->CV}{P:α->Prop}(hc:∀a,P a->p9 (c a))(h:b8 C f args obs λr τ=>∃a,r= .ret (c a)/\τ=obs/\P a):b8 C f args' σ λr τ=>∃a,r= .ret (c a)/\τ=σ/\P a:=by
 refine I5 ak hC aj cb (λi k ob g1 g2=>?_) ap h λr τ hk=>?_
 .obtain ⟨aL,_,h2,h3⟩:=cV i k ob g1 g2;exact⟨aL,h2,h3.symm λ_ _ h=>h⟩
 .obtain ⟨a,rfl,rfl,hp⟩:=hk;refine⟨n_6 _,.ret (c a),σ,.ret (.pure (hc a hp)),G,λ_ _ _=>O,λi k x ha hx=>?_,a,O,O,hp⟩
  rcases ha with ha|⟨ha,_⟩
  .obtain ⟨aL,_,h2,h3⟩:=cV i k x ha hx;exact⟨aL,h2,I7.mono (λ_ _ h=>.inl h) h3⟩
  .have:=(n_2.1 hx).1;rw[<- aj]at this;omega
theorem a6U(hC:C.plain)(ap:∀a∈args,p9 a){res':α->Nat->R8}{S:α->List b9}{S':α->Nat->List b9}{P:α->Prop}(h:b8 C f args [] λr τ=>∃a,r=res a/\τ=S a/\P a)
 (aj:∀a n,(S' a n).length=(S a).length)(fe:∀a (n i:Nat) (x:b9),(S a)[i]?=some x->∃x',(S' a n)[i]?=some x'/\I7 (λi k=>k=n+i) x x')(eD:∀a n,a7g (λi k=>k=n+i) (res a) (res' a n))(σ:List b9):
 b8 C f args σ λr τ=>∃a,r=res' a σ.length/\τ=σ++S' a σ.length/\P a:=by
 refine I5 [] hC O (λi j k h=>by simp at h) (λi k ob h=>by simp at h) (by
  refine⟨O,λi c c' h h'=>?_⟩;rw[h]at h';injection h' with h';subst h'
  exact .pure (ap c (n_3 h))) h λr τ hk=>?_
 obtain⟨a,rfl,rfl,hp⟩:=hk;have up:∀i k,k=σ.length+i->a0p [] σ.length i k:=λi k h=>.inr ⟨n_5 _,D h⟩;refine⟨n_5 _,res' a σ.length,σ++S' a σ.length,?_,by simp[aj],λk hk _=>T7 hk,λi k x ha hx=>?_,a,O,O,hp⟩
 .have:=eD a σ.length;generalize hra:res a=ra at this;generalize hrb:res' a σ.length=rb at this;cases this with
  |ret h=>exact .ret (Q7.mono up h)
  |pan h=>exact .pan (Q7.mono up h)
 .rcases ha with ha|⟨_,ha⟩
  .simp at ha
  .obtain ⟨x',h1,h2⟩:=fe a σ.length i x hx;refine⟨x',?_,I7.mono up h2⟩;rw[ha,a1c G];simpa using h1
section
theorem b00(hr:Rel C M σ w)(h:RV M w c v)(ho:c.one=true\/∃cs,c= .agg cs)(hk:K (.ret (.ptr σ.length 0)) (σ++[.boxT (some t) c.cells])):
 a1i C M w K (.pointer (some ⟨w.heap.size,0,none⟩)) (w.alloc (.cells v.cells t)):=by
 obtain⟨h1,h2,h3⟩:=h.cells ho;have hx:=Ext.alloc hr ⟨w.heap.size,0,0⟩ (.cells v.cells t);refine⟨.ptr σ.length 0,_,_,hx,hr.alloc ⟨w.heap.size,0,0⟩ _ (.boxT (some t) c.cells) O ⟨v.cells,t,r9 w _,h1,h2,λi x hi=>(h3 i x hi).mono hx⟩,?_,hk⟩;exact .ptr (p:=⟨w.heap.size,0,0⟩) a7w
theorem e0n(ho:o.op = .box t x)(hx:E.valid x)(ex:E.val C x=c)(hc:c.one=true\/∃cs,c= .agg cs)(hk:K (.ret (.ptr σ.length 0)) (σ++[.boxT (some t) c.cells])):G5 C σ E o K:=λM w ρ hr h=>by
 have h1:=h x u0 hx;rw[ex]at h1;have:(execOp ρ o).run C.P w= .ok (.value (.pointer (some ⟨w.heap.size,0,none⟩))) (w.alloc (.cells (ρ x).cells t)):=by
  simp[execOp,ho,Instr.box,a4d]
 rw[this];exact b00 hr h1 hc hk
theorem b7t(ho:o.op = .alloc t)(hz:∀w,(zeroValue t).run C.P w= .ok z w)(bR:L2 z=true)(cX:(I0 z).one=true\/∃cs,I0 z= .agg cs)(hk:K (.ret (.ptr σ.length 0)) (σ++[.boxT (some t) (I0 z).cells])):G5 C σ E o K:=λM w ρ hr h=>by
 have:(execOp ρ o).run C.P w= .ok (.value (.pointer (some ⟨w.heap.size,0,none⟩))) (w.alloc (.cells z.cells t)):=by
  simp[execOp,ho,Instr.alloc,hz,a4d]
 rw[this];exact b00 hr (a0y bR) cX hk
theorem b9A{te:TypeId}(ho:o.op = .binOp .eql t x (.const (.pointer none)) t')(hx:E.valid x)(ex:E.val C x= .ptr k off)(hu:∀w,(underlying t).run C.P w= .ok (.pointer te) w):l8 C σ E o (.val (.bool false)):=
 i8 λM w ρ _ h=>by
  have h1:=h x u0 hx;rw[ex]at h1;have e2:=p8 (h (.const (.pointer none)) u0 O);generalize hv:ρ x=v at h1;cases h1 with
  |ptr hp=>
   rename_i p;have he:(Op.equal t (.pointer (some ⟨p.block,off,none⟩)) (.pointer none)).run C.P w= .ok false w:=by
    unfold Op.equal;rw[show Op.maxDepth=(Op.maxDepth -1)+1 from O,Op.equalIn];simp[hu]
   exact⟨.bool false,by simp[execOp,ho,hv,e2,eqGuard,binOp,he],.val _⟩
theorem c7B{te:TypeId}(ho:o.op = .binOp .eql t x (.const (.pointer none)) t')(hx:E.valid x)(ex:E.val C x= .val (.pointer none))(hu:∀w,(underlying t).run C.P w= .ok (.pointer te) w):l8 C σ E o (.val (.bool true)):=
 i8 λM w ρ _ h=>by
  have h1:=h x u0 hx;rw[ex]at h1;have e1:=p8 h1;have e2:=p8 (h (.const (.pointer none)) u0 O);have he:(Op.equal t (.pointer none) (.pointer none)).run C.P w= .ok true w:=by
   unfold Op.equal;rw[show Op.maxDepth=(Op.maxDepth -1)+1 from O,Op.equalIn];simp[hu]
  exact⟨.bool true,by simp[execOp,ho,e1,e2,eqGuard,binOp,he],.val _⟩
theorem b4z(ho:o.op = .binOp .neq t x y t')(hx:E.valid x)(hy:E.valid y)(ex:E.val C x= .ptr k off)(ey:E.val C y= .ptr k off)(te':TypeId)(hp:C.P.underlying t=some (.pointer te'))(hte:(C.P.info? te').isSome=true):l8 C σ E o (.val (.bool false)):=
 i8 λM w ρ _ h=>by
  obtain⟨j,hte⟩:=b1Y.1 hte;have h1:=h x u0 hx;have h2:=h y u0 hy;rw[ex]at h1;rw[ey]at h2;generalize hv:ρ x=v at h1;generalize eY:ρ y=v' at h2;cases h1 with
  |ptr q1=>
   rename_i p;cases h2 with
   |ptr q2=>
    rename_i p';rw[q1]at q2;injection q2 with q2
    subst q2;have:=Lib.run_neq_ptr_same (P:=C.P) (w:=w) ⟨p.block,off,none⟩ hp hte;exact⟨.bool false,by simp[execOp,ho,hv,eY,eqGuard,this],.val _⟩
theorem c19(ho:o.op = .convert src dst x)(hx:E.valid x)(ex:E.val C x= .ptr k off)(hk:σ[k]?=some (.boxT (some e) cells))(gd:off<cells.length)
 (t:TypeId)(hs:C.P.underlying src=some (.pointer t))(hd:C.P.underlying dst=some .unsafePointer)(ht:((C.P.info? t).any λj=>j.size != 0)=true):l8 C σ E o (.ptr k off):=
 i8 λM w ρ hr h=>by
  obtain⟨j,ht,hj⟩:∃j,C.P.info? t=some j/\j.size≠0:=by
   rw[Option.any_eq_true_iff_get]at ht;exact⟨_,Option.eq_some_of_isSome ht.1,D ht.2⟩
  have h1:=h x u0 hx;rw[ex]at h1;generalize hv:ρ x=v at h1;cases h1 with
  |ptr hp=>
   rename_i p;obtain⟨arr,ty,e1,e2,_⟩:=(hr.obj k p _ hp hk).1;have hsh:w.shape? p.block=some (e,arr.size):=by simp[World.shape?,e1]
   have:=Lib.run_to_unsafe (P:=C.P) (w:=w) (src:=src) (dst:=dst) ⟨p.block,off,none⟩ hs hd ht hj hsh (by rw[e2];exact gd);exact⟨_,by simp[execOp,ho,hv,this],.ptr hp⟩
theorem b5X(ho:o.op = .convert src dst x)(hx:E.valid x)(ex:E.val C x= .ptr k off)(hk:σ[k]?=some (.boxT (some e) cells))
 (u:TypeId)(hs:C.P.underlying src=some .unsafePointer)(hd:C.P.underlying dst=some (.pointer u))(ht:(C.P.info? u).isSome=true)(hl:liesAt C.P C.P.depth e (cells.length / C.P.cellsOf e) off u 1=true):l8 C σ E o (.ptr k off):=
 i8 λM w ρ hr h=>by
  obtain⟨j,ht⟩:=b1Y.1 ht;have h1:=h x u0 hx;rw[ex]at h1;generalize hv:ρ x=v at h1;cases h1 with
  |ptr hp=>
   rename_i p;obtain⟨arr,ty,e1,e2,_⟩:=(hr.obj k p _ hp hk).1;have hsh:w.shape? p.block=some (e,arr.size):=by simp[World.shape?,e1]
   have:=Lib.run_from_unsafe (P:=C.P) (w:=w) (src:=src) (dst:=dst) ⟨p.block,off,none⟩ hs hd ht hsh (by rw[e2];exact hl);exact⟨_,by simp[execOp,ho,hv,this],.ptr hp⟩
theorem d9H{f:FuncId}{fn:Func}{e:Array Value → Sem Value}{ts:Array TypeId}{x:Operand}{c:CV}(ho:o.op = .call {callee:=.value (.func f),args:= #[x],argTypes:=ts})(hf:C.P.funcs[f]?=some fn)(dC:(fn.name == "runtime.NumGoroutine")=false)(hb:fn.body.isNone =true)(hn:Extern.findNext fn=none)(he:Extern.find fn=some e)
 (hx:E.valid x)(ex:E.val C x=c)(hr:∀v w,(e #[v]).run C.P w= .ok v w):l8 C σ E o c:=
 i8 λM w ρ _ hh=>by
  have h1:=hh x H0 hx;have ci:=p8 (hh (.func f) H0 J);rw[ex]at h1;refine⟨ρ x,?_,h1⟩;have:=a2i (args:=#[ρ x]) (w:=w) hf dC hb hn he (hr (ρ x) w);simp[execOp,ho,resolve,ci,Deferred.ofValue,invoke,this]
theorem c0y(ho:o.op = .call {callee:=.builtin .unsafeSliceData,args:=#[x],argTypes:=#[t]})(hx:E.valid x)(ex:E.val C x= .list Y true (some k))(ax:Y≠[]):l8 C σ E o (.eptr k 0 0):=
 i8 λM w ρ _ h=>by
  have h1:=h x H0 hx;rw[ex]at h1;obtain⟨a,cap,b,off,s,vals,hv,bj,dP,dY,eN,ha,cQ,aN,hc,aZ,cA⟩:=h1.list_inv;obtain⟨s',hp,ha0,rfl,hs⟩:=cA k O;have hl:0<Y.length:=a6M.2 ax;refine⟨.pointer (some ⟨b,0,none⟩),?_,?_⟩
  .have:=Lib.run_unsafeSliceData_row (P:=C.P) (w:=w) #[t] o.type ⟨b,0,none⟩ Y.length cap G;simp[execOp,ho,resolve,invoke,builtin,hv,ha0,this]
  .have:=RV.eptr (w:=w) (i:=0) (off:=0) hp;simpa using this
theorem b5n(ho:o.op = .call {callee:=.builtin .unsafeSliceData,args:=#[x],argTypes:=#[t]})(hx:E.valid x)(ex:E.val C x= .list [] false none):l8 C σ E o (.val (.pointer none)):=
 i8 λM w ρ _ h=>by
  have h1:=h x H0 hx;rw[ex]at h1;obtain⟨a,cap,b,off,s,vals,hv,bj,dP,dY,eN,ha,cQ,aN,hc,aZ,cA⟩:=h1.list_inv;have:a=none:=by cases a<;>first|rfl|simp at dY
  subst this;refine⟨.pointer none,?_,.val _⟩;have:=Lib.run_unsafeSliceData_nil (P:=C.P) (w:=w) #[t] o.type ([]:List (List CV)).length cap;simp only[K8]at this hv;simp[execOp,ho,resolve,invoke,builtin,hv,this]
theorem Rel.tipKill(hr:Rel C M σ w){t0:Option TypeId}{aD:Array Value}{ty:TypeId}{fr fr':Nat×Nat}(hp:M.pl[k]?=some p)(hk:σ[k]?=some (.tipT t0 n))(hc:w.heap[p.block]?=some (.cells aD ty fr)):
 Ext M w M (World.putObj w p.block (.cells aD ty fr'))/\Rel C M (σ.set k .dead) (World.putObj w p.block (.cells aD ty fr')):=by
 obtain⟨⟨q1,q2,q3,cur0,ty0,q4,q5⟩,cR⟩:=hr.obj k _ _ hp hk;have hb:p.block <w.heap.size:=(a1a.1 hc).1;have hx:Ext M w M (World.putObj w p.block (.cells aD ty fr')):=by
  refine⟨⟨[],U⟩,λ_ h=>h,λ_ _ h=>.inr h,λb' h=>World.putObj_other w _ (λe=>cR (e▸h)),λb' o' h=>?_,by rw[World.putObj_size];exact n_6 _,T4,O,O,O,λb' h=>⟨h,World.putObj_other w _ (λe=>hr.nk k p _ hp hk O (e▸h)),id,λ_=>id⟩⟩;by_cases he:p.block=b'
  .subst he;simp only[World.cell?,World.putObj_same w _ hb,hc]
  .exact M5 (World.putObj_other w _ he)
 have hd:=hr.dead k;refine⟨hx,hd.len,λb o' ha=>by rw[World.putObj_size];exact hr.blk b o' ha,λk' p' x aG ay=>?_,hd.inj,λg cells hg=>(hr.glob g cells hg).mono hx,λb h=>(by rw[World.putObj_size];exact hr.kep b h),hd.nk⟩;obtain⟨h1,h2⟩:=hd.obj k' p' x aG ay;refine⟨?_,h2⟩;by_cases hl:x.live=true
 .have gT:k'≠k:=by
   rintro rfl;rw[b0e (n_2.1 hk).1]at ay;injection ay with ay
   subst ay;cases hl
  rw[a0S (Ne.symm gT)]at ay;have ax:p.block≠p'.block:=λe=>gT (hr.inj k' k p' p x _ aG hp ay hk hl O e.symm);exact h1.mono hx (World.putObj_other w _ ax) (λ_ _ _ _ h=>h)
 .cases x<;>first|trivial|simp[b9.live]at hl
theorem c0M{b:Nat}{aD:Array Value}{ty:TypeId}{fr:Nat×Nat}(hc:w.heap[b]?=some (.cells aD ty fr))(hn:n≠0):∃fr',w.freeze ⟨b,0,none⟩ n=World.putObj w b (.cells aD ty fr'):=by
 have hb:b<w.heap.size:=(a1a.1 hc).1;obtain⟨lo,hi⟩:=fr;refine⟨if lo == hi then(0,0+n)else(min lo 0,max hi (0+n)),?_⟩;have hg:w.heap[b]= .cells aD ty (lo,hi):=by
  have:=(a1a.1 hc).2;exact this
 simp only[World.freeze,W hn,World.putObj]
 congr 1
 apply b5v;intro i;rw[c0q,c8X];by_cases bf:b=i
 .subst bf;simp[hb,hg]
 .simp [bf]
theorem b1V{pt it:TypeId}{t0:Option TypeId}(ho:o.op = .call {callee:=.builtin .unsafeString,args:=#[x,y],argTypes:=#[pt,it]})(hx:E.valid x)(hy:E.valid y)(ex:E.val C x= .eptr q 0 0)(ey:E.val C y= .val (.int .i64 l.length))
 (hq:σ[q]?=some (.tipT (some e) l.length))(hk:σ[k]?=some (.boxT t0 cells))(hi:cells[i]?=some (.list (l.map bcv) true (some q)))(ax:l≠[])
 (hp:C.P.underlying pt=some (.pointer e))(hc:C.P.cellsOf e=1)(h:K (.ret (sv l)) (σ.set q .dead)):G5 C σ E o K:=λM w ρ hr hh=>by
 have h1:=hh x H0 hx;have h2:=p8 (ey▸hh y H0 hy);rw[ex]at h1;generalize hv:ρ x=v at h1;cases h1 with
 |eptr bc=>
  rename_i p;obtain⟨pk,du⟩:∃pk,M.pl[k]?=some pk:=by
   have:=(n_2.1 hk).1;rw[<- hr.len]at this;exact⟨_,a1r this⟩
  obtain⟨arr,ty,e1,e2,e3,e4⟩:=(hr.obj k pk _ du hk).1;obtain⟨a,cap,b,off,s,vals,hvv,bj,dP,dY,eN,ha,cQ,aN,aS,aZ,cA⟩:=(e4 i _ hi).list_inv;obtain⟨s',aG,ha0,rfl,hs⟩:=cA q O;rw[bc]at aG;injection aG with aG
  subst aG;have iw:l.map bcv≠[]:=D ax;have bu:s=1:=by
   cases l with
   |nil=>exact absurd O ax
   |cons x l=>exact(cQ (bcv x) U).symm
  subst bu;have aT:=hs iw;subst aT;obtain⟨⟨q1,q2,q3,aD,fT,q4,q5⟩,_⟩:=hr.obj q _ _ bc hq;simp only[a84,b17]at q1 q4 q5;have hcells:∀j x,l[j]?=some x->w.cell? ((⟨b,0,none⟩:Addr).add j)=some (.int .u8 x.toNat):=λj x hj=>by
   have g:(l.map bcv)[j]?=some (bcv x):=by rw[O2,hj];rfl
   have:=(aS j 0 _ _ g O).2;have hz:=p8 (aZ j 0 _ _ g O);rw[hz]at this;simp only[b17,O7,a85]at this;rw[U0];simpa using this
  have aj:l.length<=cap:=D bj;have hus:=Lib.run_unsafeString_row (P:=C.P) w pt it o.type e hp hc b aD.size (by simp[World.shape?,q4]) l ax (by rw[q5];exact aj) (by unfold maxLen at dP;omega) hcells;obtain⟨fr',hfr⟩:=c0M q4 (n:=l.length) (D ax);have au:(execOp ρ o).run C.P w= .ok (.value (.string ⟨l.toArray⟩)) (World.putObj w b (.cells aD e fr')):=by
   rw[<- hfr];simp[execOp,ho,resolve,invoke,builtin,hv,h2,hus]
  rw[au];obtain⟨g1,g2⟩:=hr.tipKill (fr':=fr') bc hq q4;exact⟨_,_,_,g1,g2,.val _,h⟩
theorem c0B(ey:E.val C y=sv l):∀M w v,Rel C M σ w->RV M w (E.val C y) v->c01 C w M (l.map bcv) 1 v:=λM w v _ h=>by
 rw[ey]at h;have hv:=p8 h;subst hv;refine⟨λw'=>by simp[Builtin.lenOf,str,ByteArray.size],λr hr=>?_,(l.map λb=>Value.int .u8 b.toNat).toArray,?_,U,λi j r c hi hj=>?_⟩
 .obtain ⟨b,_,rfl⟩:=D6.1 hr;rfl
 .simp [Builtin.firstCells,str]
 .rw [O2,Q3]at hi;obtain⟨b,hb,rfl⟩:=hi
  rcases j with _|j
  .simp only[bcv,List.getElem?_cons_zero,Option.some.injEq]at hj;subst hj;refine⟨?_,O⟩;have:((l.map λb=>Value.int .u8 b.toNat).toArray).getD (i*1+0) undef= .int .u8 b.toNat:=by simp[Z6,hb]
   rw[this];exact .val _
  .cases hj
end
def A8(t:TypeId):Nat->b9
 |0=>.dead
 |n+1=>.tipT (some t) (n+1)
def a2O(l:I)(p:Nat):CV:=.list (l.map bcv) (gnn l.length) (F1 l.length p)
theorem b4w(t:TypeId)(n m:Nat):F7 n (A8 t m):=by cases m<;>trivial
section
theorem a8L{t2:TypeId}{new:I}{p:Nat}{ti:TypeInfo}(ho:o.op = .call {callee:=.builtin .append,args:=#[x,y],argTypes:=#[t,t2]})(hx:E.valid x)(hy:E.valid y)(ex:E.val C x=a2O l p)
 (aJ:∀M w v,Rel C M σ w->RV M w (E.val C y) v->c01 C w M (new.map bcv) 1 v)(hu:∀w,(underlying t).run C.P w= .ok (.slice e) w)(hs:∀w,(sizeOf e).run C.P w= .ok 1 w)(ca:∀w,(typeInfo e).run C.P w= .ok ti w)(hz:∀w,(zeroValue e).run C.P w= .ok z w)(bn:z.cells.size=1)
 (dE:(∀w,(underlying t2).run C.P w= .ok (.slice e) w)\/∀w,(underlying t2).run C.P w= .ok .string w)(hb1:ti.bytes=1)
 (bI:σ[p]?=some (A8 e l.length))(hb:l.length+new.length<=140737488355328)
 (hk:K (.ret (a2O (l++new) σ.length)) (σ.set p .dead++[A8 e (l++new).length])):G5 C σ E o K:=by
 have ba:∀(l:I),∀r∈l.map bcv,r.length=1:=λl r hr=>by
  obtain⟨b,_,rfl⟩:=D6.1 hr;rfl
 rcases new with _|⟨r1,new⟩
 .
  intro M w ρ hr hh;have h1:=hh x H0 hx;have h2:=hh y H0 hy;rw[ex,a2O]at h1;obtain⟨aj,_,arr,ci,aR,_⟩:=aJ M w _ hr h2;obtain⟨a,cap,b,off,s',vals,hv,bj,dP,dY,eN,ha,cQ,aN,hc,aZ,cA⟩:=h1.list_inv;have bb:(execOp ρ o).run C.P w=((Builtin.append_ #[t,t2] o.type #[ρ x,ρ y]).run C.P w).andThen λv w=>.ok (.value v) w:=by
   simp[execOp,ho,resolve,invoke,builtin]
  have aw:arr= #[]:=by
   apply Array.eq_empty_of_size_eq_zero;simpa using aR
  subst aw;have cS:∀w',(Builtin.lenOf (ρ y)).run C.P w'= .ok 0 w':=D aj;have hfn':(Builtin.firstCells 1 0 (ρ y)).run C.P w= .ok #[] w:=D ci;have iO:l.length<=cap:=D bj;have au:(execOp ρ o).run C.P w= .ok (.value (.slice a (l.map bcv).length cap)) w:=by
   rw[bb,hv]
   rcases dE with dE|dE
   all_goals
    cases a with
    |none=>simp[Builtin.append_,hu,dE,hs,cS,hfn',iO]
    |some a=>simp[Builtin.append_,hu,dE,hs,cS,hfn',iO,storeCells]
  rw[au];simp only[Z7]at hk
  rcases l with _|⟨r0,l⟩
  .obtain ⟨aI,bh⟩:=(hr.dead p).addDead ⟨0,0,0⟩;exact⟨_,_,_,bh,aI,by simpa[a2O,gnn,F1,hv]using h1.mono bh,hk⟩
  .obtain ⟨sz,hp,ha0,gd,aK⟩:=cA p O;obtain⟨bh,aI⟩:=hr.tipNew (m:=(r0::l).length) hp bI (n_6 _) iO;refine⟨_,_,_,bh,aI,?_,hk⟩;have hl:=h1.mono bh;rw[hv]at hl;obtain⟨a',cap',b',iD,s'',fP,eY,q1,q2,q3,q4,q5,q6,q7,q8,q9,q10⟩:=hl.list_inv;injection eY with e1 e2 e3
   subst e1 e3;refine RV.list' (L:=((r0::l).map bcv).length) O fP q1 q2 (by rw[q3]) (λh=>by cases h) q5 q6 q7 q8 q9 (λk' aC=>?_);obtain⟨s3,g1,g2,g3,g4⟩:=q10 p O;injection aC with aC
   subst aC;refine⟨s3,?_,g2,g3,g4⟩;have e4:=bh.get hp;rw[g1]at e4;rw[e4];simp[z8.add,<- hr.len]
 .have ax:(r1::new).map bcv≠[]:=by simp
  have hbb:((l.map bcv).length+((r1::new).map bcv).length)*ti.bytes<=140737488355328:=by rw[hb1];simp only[K6];simpa using hb
  have bA:(l.map bcv).length+((r1::new).map bcv).length<=9223372036854775807:=by simp only[K6];simp only[D3]at hb⊢;omega
  have hK:K (.ret (.list (l.map bcv++(r1::new).map bcv) true (some σ.length))) (σ.set p .dead++[.tipT (some e) ((l.map bcv).length+((r1::new).map bcv).length)]):=by
   have e1:(l++r1::new).length=(l.length+new.length)+1:=by simp;omega
   have e2:(l.map bcv).length+((r1::new).map bcv).length=(l.length+new.length)+1:=by simp;omega
   rw[a2O,e1]at hk;rw[e2,<- a3M];exact hk
  rcases l with _|⟨r,l⟩
  .have hee:σ.set p .dead=σ:=by
    refine b02 λi=>?_;rw[a8X]
    split
    .rename_i h';subst h';rw[Q (n_2.1 bI).1,bI];rfl
    .rfl
   rw[hee]at hK;exact a8W ho hx hy ex aJ hu hs ca hz bn dE (.inr O) Y1 (.inl ⟨O,O,O⟩) (ba []) ax hbb bA hK
  .refine a8W ho hx hy ex aJ hu hs ca hz bn dE (.inr O) Y1 (.inr ⟨U,p,O,?_⟩) (ba _) ax hbb bA hK;simpa[A8]using bI
theorem b0j{pt it:TypeId}(ho:o.op = .call {callee:=.builtin .unsafeString,args:=#[x,y],argTypes:=#[pt,it]})(hx:E.valid x)(hy:E.valid y)(ex:E.val C x= .val (.pointer none))(ey:E.val C y= .val (.int .i64 0))(h:K (.ret (sv [])) σ):G5 C σ E o K:=λM w ρ hr hh=>by
 have h1:=p8 (ex▸hh x H0 hx);have h2:=p8 (ey▸hh y H0 hy);have:=Lib.run_unsafeString_none (P:=C.P) (w:=w) pt it o.type none;have au:(execOp ρ o).run C.P w= .ok (.value (.string .empty)) w:=by simp[execOp,ho,resolve,invoke,builtin,h1,h2,this]
 rw[au];exact⟨_,_,_,Ext.refl _ _,hr,.val _,h⟩
end
end Go.Cl
namespace Go.Cl
open Go.Sort
theorem a4P{C:Ctx}{M:z8}{σ:List b9}{w:World}(hr:Rel C M σ w)(k:Nat)(os:Array Obj):Ext M w M (grow (w.drewN k) os)/\Rel C M σ (grow (w.drewN k) os):=by
 have bQ:∀b,b<w.heap.size->(grow (w.drewN k) os).heap[b]?=w.heap[b]?:=λb hb=>by
  show(w.heap++os)[b]?=_;exact b4C hb
 have aK:w.heap.size<=(grow (w.drewN k) os).heap.size:=by
  show w.heap.size<=(w.heap++os).size;rw[b3L];omega
 have hx:Ext M w M (grow (w.drewN k) os):=⟨⟨[],U⟩,λ_ h=>h,λ_ _ h=>.inr h,λb h=>bQ b (hr.blk b 0 (.inl h)),λb o h=>M5 (bQ b (hr.blk b o (.inr h))),aK,T4,O,O,O,λb h=>⟨h,bQ b (hr.kep b h),id,λ_=>id⟩⟩;refine⟨hx,hr.len,λb o h=>a8E (hr.blk b o h) aK,λj p ob hp hs=>?_,hr.inj,λg cells hg=>(hr.glob g cells hg).mono hx,λb h=>a8E (hr.kep b h) aK,hr.nk⟩;obtain⟨h1,h2⟩:=hr.obj j p ob hp hs;refine⟨?_,h2⟩;by_cases hl:ob.live=true
 .exact h1.mono hx (bQ _ (h1.lt hl)) (λ_ _ _ _ h=>h)
 .cases ob<;>first|trivial|simp[b9.live]at hl
theorem b2g{C:Ctx}{f:FuncId}{args:List CV}{v:Value}(h:∀(M:z8) (σ:List b9) (w:World) (vs:Array Value),Rel C M σ w->vs.size=args.length->(∀(i:Nat) (c:CV),args[i]?=some c->RV M w c (vs.getD i undef)) ->
 Calls C.P f vs w λe w'=>e= .returned v/\∃k os,w'=grow (w.drewN k) os)(σ:List b9):b8 C f args σ λr aa=>r= .ret (.val v)/\aa=σ:=λM w vs hr hn hx=>by
 refine(h M σ w vs hr hn hx).mono λe w' ⟨he,k,os,hw⟩=>?_;subst he hw;obtain⟨h1,h2⟩:=a4P hr k os;exact⟨_,_,_,h1,h2,.val _,O,O⟩
theorem GV.tab{C:Ctx}{M:z8}{w:World}{name:String}{g:Nat}{k:IntKind}{zs:List Int}(hg:GV M w (zs.map λz=>.val (.int k z)) g)(hn:C.P.globalNamed name=some g):Lib.TabIs C.P w name k zs:=by
 obtain⟨arr,ty,fr,h1,h2⟩:=hg.sz;have he:arr=(zs.map λz=>Value.int k z).toArray:=by
  have hc:=hg.rv;generalize hv:Value.pointer (some ⟨g,0,none⟩)=v at hc;cases hc with
  |cptr vals q1 q2 q3=>
   injection hv with hv
   injection hv with hv
   injection hv with e1 e2 e3
   subst e1;refine b5v λi=>?_;by_cases hi:i<zs.length
   .have hci:(zs.map λz=>CV.val (.int k z))[i]?=some (.val (.int k zs[i])):=by rw[O2,a1r hi];rfl
    have hz:=(q2 i _ hci).2;have hy:=p8 (q3 i _ hci);rw[hy]at hz;simp only[<- e2,O7]at hz;simp only[World.cell?,h1,Option.isSome_none,b09,if_false]at hz;rw[hz];simp[hi]
   .have:arr.size<=i:=by rw[h2];simp;omega
    rw[b0q this,b0q H6]
 unfold Lib.TabIs World.var?;rw[hn];simp only[n_9,h1,he]
end Go.Cl
namespace Go.Cl
variable{t e t':TypeId}{c:Code}{x y:Operand}{K:R8->List b9->Prop}{C:Ctx}{n k s id kD len:Nat}{w:World}{o:Oper}{l:List Oper}{f:FuncId}{α:Type}{args:List CV}{M:z8}{E:Env}{P:Program}{z:Value}{a:Act}{ob:b9}{Y:List (List CV)}{b:Bool}{c':CV}{σ:List b9}{p:Pl}{ab:Array Oper}
section
theorem b6I{f:FuncId}{fn:Func}{ps:Array TypeId}{t e:TypeId}{ts:Array TypeId}{x:Operand}{n:Nat}{K:R8 → List b9 → Prop}(ho:o.op = .call {callee:=.value (.func f),args:= #[x],argTypes:=ts})(hf:C.P.funcs[f]?=some fn)(dC:(fn.name == "runtime.NumGoroutine")=false)(hb:fn.body.isNone =true)(hn:Extern.findNext fn=none)(he:Extern.find fn=some (Extern.BytealgMakeNoZero.makeNoZero ps #[t]))
 (ht:C.P.underlying t=some (.slice e))(hx:E.valid x)(ex:E.val C x= .val (.int .i64 n))(eN:n<=140737488355328)(h:K (.ret (.vec σ.length 0 n)) (σ++[.tipT (some e) 0])):G5 C σ E o K:=λM w ρ hr hh=>by
 have h1:=p8 (ex▸hh x H0 hx);have ci:=p8 (hh (.func f) H0 J);obtain⟨cs,au,aM,aQ⟩:=Lib.run_makeNoZero (P:=C.P) w ps t e ht n G;have hc:=a2i (args:=#[.int .i64 n]) (v:=.slice (some ⟨w.heap.size,0,none⟩) n cs.size) (w:=w) hf dC hb hn he;have aA:(callFunc f #[.int .i64 n]).run C.P w= .ok (.value (.slice (some ⟨w.heap.size,0,none⟩) n cs.size)) (w.drew.drew.alloc (.cells cs e)):=by
  simp only[callFunc,Sem.run_bind,run_program,Result.andThen_ok,hf,dC,hb,hn,he];simp[au]
 have gg:(execOp ρ o).run C.P w= .ok (.value (.slice (some ⟨w.heap.size,0,none⟩) n cs.size)) (w.drew.drew.alloc (.cells cs e)):=by
  simp[execOp,ho,resolve,ci,h1,Deferred.ofValue,invoke,aA]
 rw[gg];obtain⟨aI,bh⟩:=hr.drewN;obtain⟨aW,aE⟩:=aI.drewN;have hcm:cs.size<=maxLen:=aQ (by unfold maxLen;omega);have fD:=Ext.alloc aW ⟨w.heap.size,cs.size,1⟩ (.cells cs e);have eA:=aW.alloc ⟨w.heap.size,cs.size,1⟩ (.cells cs e) (.tipT (some e) 0) O ⟨n_5 _,hcm,⟨λo' ho'=>by have:=aW.blk _ _ (.inr ho');simp only at this;exact absurd this (Nat.lt_irrefl _),λ_=>O⟩,cs,e,r9 _ _,U⟩;refine⟨_,_,_,(bh.trans aE).trans fD,eA,?_,h⟩;have hp:(M.add ⟨w.heap.size,cs.size,1⟩).pl[σ.length]?=some ⟨w.heap.size,cs.size,1⟩:=by simp[z8.add,<- hr.len]
 have:=RV.vec (w:=w.drew.drew.alloc (.cells cs e)) (off:=0) (len:=n) (a:=⟨w.heap.size,0,none⟩) hp (D aM) hcm (λ_=>by simp);simpa using this
theorem b7h{v:Operand}{kd:IntKind}(ho:o.op = .slice t x none (some v) none)(hx:E.valid x)(hv:E.valid v)(ex:E.val C x= .vec k 0 n)(ev:E.val C v= .val (.int kd 0))(hn:1<=n)(hu:∀w,(underlying t).run C.P w= .ok (.slice e) w)(hs:∀w,(sizeOf e).run C.P w= .ok s w):l8 C σ E o (.list [] true (some k)):=
 i8 λM w ρ hr hh=>by
  have ay:=hh x u0 hx;have eY:=p8 (ev▸hh v u0 hv);rw[ex]at ay;generalize hw:ρ x=u at ay;cases ay with
  |vec hp g1 g2 g3=>
   rename_i p a;have hc:0<p.cap:=by omega
   have ha:=g3 hc;rw[Nat.zero_mul]at ha;subst ha;have hb:(Instr.sliceBounds true n (p.cap -0) none (some (.int kd 0)) none).run C.P w= .ok (0,0,p.cap -0) w:=by
    simp[Instr.sliceBounds,Instr.sliceBound,asIntOf]
   have ax:¬p.cap=0:=by omega
   have au:(execOp ρ o).run C.P w= .ok (.value (.slice (some ⟨p.block,0,none⟩) 0 p.cap)) w:=by
    simp only[Nat.sub_zero]at hb hw;simp[execOp,ho,Instr.sliceAt,Instr.slice,hu,hw,eY,hb,hs,ax,U0]
   refine⟨_,au,?_⟩;exact RV.list' (L:=0) (b:=p.block) (off:=0) (s:=0) O (λ_ _=>undef) (n_5 _) g2 O (λh=>by cases h) Y1 (λr hr=>by simp at hr) (λr hr=>by simp at hr) (λi j r c hi=>by simp at hi) (λi j r c hi=>by simp at hi) (λk' aC=>by
    injection aC with aC
    subst aC;exact⟨p.size,hp,O,O,λh=>absurd O h⟩)
theorem d6C{tok:Option Nat}(ho:o.op = .call {callee:=.builtin .copy,args:=#[x,y],argTypes:=#[t,t']})(hx:E.valid x)(hy:E.valid y)(ex:E.val C x= .list [] true tok)(ey:E.val C y= .list [] false none)
 (hu:∀w,(underlying t).run C.P w= .ok (.slice e) w)(hs:∀w,(sizeOf e).run C.P w= .ok s w)(h:K (.ret (.val (.int .i64 0))) σ):G5 C σ E o K:=λM w ρ hr hh=>by
 have h1:=hh x H0 hx;have h2:=hh y H0 hy;rw[ex]at h1;rw[ey]at h2;obtain⟨a,cap,b,off,s1,vals,hv,_,_,dY,_⟩:=h1.list_inv;obtain⟨a2,cap2,b2,gk,s2,vals2,db,_,_,hnn2,_⟩:=h2.list_inv;have ha2:a2=none:=by cases a2<;>first|rfl|simp at hnn2
 obtain⟨a1,ha1⟩:∃a1,a=some a1:=by cases a with|none=>simp at dY|some a=>exact⟨a,O⟩
 subst ha2 ha1;have au:(execOp ρ o).run C.P w= .ok (.value (.int .i64 0)) w:=by
  simp[execOp,ho,resolve,invoke,builtin,hv,db,Builtin.copy_,Builtin.lenOf,Builtin.firstCells,hu,hs,storeCells,goInt]
 rw[au];exact⟨_,_,_,Ext.refl _ _,hr,.val _,h⟩
theorem c9E(ho:o.op = .call {callee:=.builtin .cap,args:=#[x],argTypes:=#[t]})(hx:E.valid x)(ex:E.val C x= .list [] false none)(hu:∀w,(underlying t).run C.P w= .ok (.slice e) w):l8 C σ E o (.val (.int .i64 0)):=
 i8 λM w ρ _ h=>by
  have h1:=h x H0 hx;rw[ex]at h1;obtain⟨a,cap,b,off,s,vals,hv,_,_,_,eN,_⟩:=h1.list_inv;have:=eN O;subst this;exact⟨.int .i64 0,by simp[execOp,ho,resolve,invoke,builtin,Builtin.cap_,hu,hv,goInt],.val _⟩
theorem d4K{t2:TypeId}{new:I}{p:Nat}{ti:TypeInfo}(ho:o.op = .call {callee:=.builtin .append,args:=#[x,y],argTypes:=#[t,t2]})(hx:E.valid x)(hy:E.valid y)(ex:E.val C x= .list [] true (some p))
 (aJ:∀M w v,Rel C M σ w->RV M w (E.val C y) v->c01 C w M (new.map bcv) 1 v)(hu:∀w,(underlying t).run C.P w= .ok (.slice e) w)(hs:∀w,(sizeOf e).run C.P w= .ok 1 w)(ca:∀w,(typeInfo e).run C.P w= .ok ti w)(hz:∀w,(zeroValue e).run C.P w= .ok z w)(bn:z.cells.size=1)
 (dE:(∀w,(underlying t2).run C.P w= .ok (.slice e) w)\/∀w,(underlying t2).run C.P w= .ok .string w)(hb1:ti.bytes=1)
 (bI:σ[p]?=some (.tipT (some e) 0))(ax:new≠[])(hb:new.length<=140737488355328)
 (hk:K (.ret (a2O new σ.length)) (σ.set p .dead++[A8 e new.length])):G5 C σ E o K:=by
 have iw:new.map bcv≠[]:=D ax;refine b2m ho hx hy ex aJ hu hs ca hz bn dE (.inr O) Y1 (.inr ⟨O,O,p,O,bI⟩) U iw (by rw[hb1];simp only[K6,K8];omega) (by simp only[K6,K8];omega) ?_
 rcases new with _|⟨c,new⟩
 .exact absurd O ax
 .have e1:([]:List (List CV)).length+((c::new).map bcv).length=new.length+1:=by simp
  rw[e1,a7j];exact hk
end
section
theorem wr8{z:Int}(h0:0<=z)(h1:z<256):IntKind.u8.wrap z=z:=by
 have:z%256=z:=Int.emod_eq_of_lt h0 h1;simp[IntKind.wrap,IntKind.signed,IntKind.bits];omega
theorem e18{a b:Nat}(ho:o.op = .binOp .or t x y t')(hx:E.valid x)(hy:E.valid y)(ex:E.val C x= .val (.int .u8 (a:Int)))(ey:E.val C y= .val (.int .u8 (b:Int)))(ha:a<256)(hb:b<256):l8 C σ E o (.val (.int .u8 ((a |||b:Nat):Int))):=
 i8 λM w ρ _ h=>by
  have h1:=h x u0 hx;have h2:=h y u0 hy;rw[ex]at h1;rw[ey]at h2;have e1:∀n:Nat,n<256->(BitVec.ofInt 8 (n:Int)).toNat=n:=λn hn=>by
   rw[BitVec.ofInt_natCast,BitVec.toNat_ofNat];exact b3B G
  have e2:a |||b<2^8:=Nat.or_lt_two_pow G G;have e3:(BitVec.ofInt IntKind.u8.bits (a:Int) |||BitVec.ofInt IntKind.u8.bits (b:Int)).toNat=a |||b:=by
   show(BitVec.ofInt 8 (a:Int) |||BitVec.ofInt 8 (b:Int)).toNat=_;rw[BitVec.toNat_or,e1 a ha,e1 b hb]
  have e4:(Op.intBits .or .u8 (a:Int) (b:Int)).run C.P w= .ok (.int .u8 ((a |||b:Nat):Int)) w:=by
   unfold Op.intBits;simp only[Sem.run_pure,e3];rw[wr8 G G]
  refine⟨_,?_,.val _⟩;simp[execOp,ho,p8 h1,p8 h2,eqGuard,binOp,e4]
theorem e0I{k k':IntKind}{a b:Int}{m:Nat}(ho:o.op = .binOp .shr t x y t')(hx:E.valid x)(hy:E.valid y)(ex:E.val C x= .val (.int k a))(ey:E.val C y= .val (.int k' (m:Int)))(hk:m<=k.bits)(hb:a / 2^m=b):l8 C σ E o (.val (.int k b)):=
 i8 λM w ρ _ h=>by
  have h1:=h x u0 hx;have h2:=h y u0 hy;rw[ex]at h1;rw[ey]at h2;refine⟨.int k b,?_,.val _⟩;have e:min (m:Int).toNat k.bits=m:=by rw[a3N];omega
  have h0:¬((m:Int)<0):=by omega
  have e2:a.fdiv (2^m)=b:=by
   have:(0:Int)<=2^m:=Int.le_of_lt (Int.pow_pos H);rw[Int.fdiv_eq_ediv_of_nonneg _ this,hb]
  have e3:min m k.bits=m:=by omega
  simp[execOp,ho,p8 h1,p8 h2,eqGuard,binOp,Op.shift,e3,e2];intro h;omega
end
section
theorem W4{cx:Operand}{xs:Array Operand}{ts:Array TypeId}{cargs caps:List CV}{c:α->CV}{S:α->List b9}{P:α->Prop}(ho:o.op = .call {callee:=.value cx,args:=xs,argTypes:=ts})(hc:E.valid cx)(ec:E.val C cx= .clo f caps)(aA:∀args w,(callFunc f args).run C.P w= .ok (.enter f args) w)
 (hv:E.valids xs.toList)(h:b8 C f (cargs++caps) σ λr aa=>∃a,r= .ret (c a)/\aa=S a/\P a)(ea:E.vals C xs.toList=cargs)(hk:∀a,P a->K (.ret (c a)) (S a)):G5 C σ E o K:=
 b4B ho hc ec aA (Env.valids_mem hv) (Env.vals_map _) (ea▸h.mono λr aa hh=>by
  obtain⟨a,rfl,rfl,hp⟩:=hh;exact hk a hp)
theorem d4d{v:Value}(ho:o.op = .buildSlice t 1 #[(0,x)])(hx:E.valid x)(ex:E.val C x= .val v)(hv:v.oneCell'=true)(hu:∀w,(underlying t).run C.P w= .ok (.slice e) w)(hs:∀w,(sizeOf e).run C.P w= .ok 1 w)(hz:∀w,(zeroValue e).run C.P w= .ok z w)(bR:z.oneCell'=true)
 (hk:K (.ret (.list [[.val v]] true (some σ.length))) (σ++[.tip 1])):G5 C σ E o K:=λM w ρ hr hh=>by
 have h1:=p8 (ex▸hh x u0 hx);have hvc:v.cells = #[v]:=by cases v<;>first|rfl|simp[Value.oneCell']at hv
 have hzc:z.cells = #[z]:=by cases z<;>first|rfl|simp[Value.oneCell']at bR
 have au:(execOp ρ o).run C.P w= .ok (.value (.slice (some ⟨w.heap.size,0,none⟩) 1 1)) (w.alloc (.cells #[v] e)):=by
  have er:Array.range 1= #[0]:=O;simp only[execOp,ho,Instr.buildSlice,Sem.run_bind,hu,Result.andThen_ok,hs];simp[er,Instr.fill,newRow,h1,hvc,hz]
 rw[au];have aE:=Ext.alloc hr ⟨w.heap.size,1,1⟩ (.cells #[v] e);have aW:=hr.alloc ⟨w.heap.size,1,1⟩ (.cells #[v] e) (.tip 1) O ⟨n_6 _,by unfold maxLen;simp,⟨λo ho=>by
  have:=hr.blk w.heap.size o (.inr ho);omega,λh=>by cases h⟩,#[v],e,r9 _ _,O⟩
 have hp:(M.add ⟨w.heap.size,1,1⟩).pl[σ.length]?=some ⟨w.heap.size,1,1⟩:=by simp[z8.add,<- hr.len]
 obtain⟨fD,eA⟩:=aW.settleCells hp (by simp:(σ++[b9.tip 1])[σ.length]?=some (.tipT none 1));refine⟨_,_,_,aE.trans fD,eA,?_,hk⟩;refine RV.list (Y:=[[.val v]]) (b:=w.heap.size) (off:=0) (s:=1) (λ_ _=>v) (n_6 _) (by unfold maxLen;simp) O (λh=>by cases h) Y1 (λr hr=>by simp at hr;subst hr;rfl) (λr hr c hc=>by simp at hr;subst hr;simp at hc;subst hc;exact hv) (λi j r c hi hj=>?_) (λi j r c hi hj=>?_) (λk hk=>?_)
 .rcases i with _|i
  .injection hi with hi
   subst hi
   rcases j with _|j
   .refine ⟨.inr (.inr ⟨O,U⟩),?_⟩;show(match(w.alloc (.cells #[v] e)).heap[w.heap.size]? with|some (.cells c _ _)=>c[0]? |_=>none)=some v;rw[r9];rfl
   .simp at hj
  .simp at hi
 .rcases i with _|i
  .injection hi with hi
   subst hi
   rcases j with _|j
   .injection hj with hj
    subst hj;exact .val _
   .simp at hj
  .simp at hi
 .injection hk with hk
  subst hk;exact⟨1,hp,O,O,λ_=>O⟩
end
theorem d8g{c:α->CV}{P:α->Prop}(hC:C.plain)(ap:∀a∈args,p9 a)(hc:∀a,p9 (c a))(h:b8 C f args [] λr τ=>∃a,F0 0 τ r (.ret (c a)) []/\P a)(σ:List b9):b8 C f args σ λr τ=>∃a,r= .ret (c a)/\τ=σ/\P a:=
 a2k (obs:=[]) (obs':=[]) [] hC O (by intro i j k h1;simp at h1) (λi k ob h1=>by simp at h1) (H9 ap) (λa _=>hc a) (K2 hC (h.mono λr τ ⟨a,h1,h2⟩=>⟨_,_,h1,a,O,O,h2⟩))
theorem c9r{c:CV}(hC:C.plain)(ap:∀a∈args,p9 a)(hc:p9 c)(h:b8 C f args [] λr τ=>F0 0 τ r (.ret c) [])(σ:List b9):b8 C f args σ λr τ=>r= .ret c/\τ=σ:=
 (d8g (α:=Unit) (c:=λ_=>c) (P:=λ_=>True) hC ap (λ_=>hc) (h.mono λ_ _ hh=>⟨(),hh,J⟩) σ).mono λ_ _ ⟨_,h1,h2,_⟩=>⟨h1,h2⟩
theorem a9y{c:α->CV}{S:α->b9}{P:α->Prop}(hC:C.plain)(ap:∀a∈args,p9 a)(hc:∀a,p9 (c a))(hS:∀a,a6C (S a))(hob:a6C ob)(ck:ob.live=true)
 (h:b8 C f (.ptr 0 0::args) [ob] λr τ=>∃a,F0 1 τ r (.ret (c a)) [S a]/\P a)(σ:List b9)(q:Nat)(hq:σ[q]?=some ob):b8 C f (.ptr q 0::args) σ λr aa=>∃a,r= .ret (c a)/\aa=σ.set q (S a)/\P a:=
 a6y hC ap hc hS hob ck (K2 hC (h.mono λ_ _ ⟨a,h1,h2⟩=>⟨_,_,h1,a,O,O,h2⟩)) σ q hq
theorem d5K{τ:List b9}{c:CV}(h:C3 0 [] c c'):F0 0 τ (.ret c) (.ret c') []:=⟨[],O,O,.ret h,J⟩
theorem a2V{τ rest:List b9}{c:CV}(gp:τ=ob::rest)(ho:F7 1 ob)(h:C3 1 [0] c c'):F0 1 τ (.ret c) (.ret c') [ob]:=by
 subst gp;exact⟨[0],O,O,.ret h,.inr ⟨_,O,.same O ho⟩,J⟩
theorem b5E{R:Nat->Nat->Prop}(h:∀r∈Y,∀c∈r,p9 c):I7 R (.vec s Y) (.vec s Y):=
 .vec O λi r r' h1 h2=>by
  rw[h1]at h2;injection h2 with h2;subst h2
  exact H9 (h r (n_3 h1))
theorem b1K{g:α->Bool}{rows':α->List (List CV)}{off len:α->Nat}{P:α->Prop}(hC:C.plain)(hp:∀r∈Y,∀c∈r,p9 c)(ap:∀a∈args,p9 a)
 (aG:∀a,P a->∀r∈rows' a,∀c∈r,p9 c)
 (h:b8 C f (.vec 0 0 n::args) [.vec s Y] λr τ=>∃a,F0 1 τ r (.ret (.vec (if g a=true then 1 else 0) (off a) (len a))) (if g a=true then [.dead,.vec s (rows' a)]else [.vec s (rows' a)])/\P a){σ:List b9}{q:Nat}(hq:σ[q]?=some (.vec s Y)):
 b8 C f (.vec q 0 n::args) σ λr τ=>∃a,r= .ret (.vec (if g a=true then σ.length else q) (off a) (len a))/\τ=(if g a=true then σ.set q .dead++[.vec s (rows' a)]else σ.set q (.vec s (rows' a)))/\P a:=by
 have hql:=(n_2.1 hq).1;have h':b8 C f (.vec 0 0 n::args) [.vec s Y] λr τ=>∃a,r= .ret (.vec (if g a=true then 1 else 0) (off a) (len a))/\τ=(if g a=true then [.dead,.vec s (rows' a)]else [.vec s (rows' a)])/\P a:=
  K2 hC (h.mono λr τ ⟨a,k1,k2⟩=>⟨_,_,k1,a,O,O,k2⟩)
 refine I5 [q] hC O (λi j k g1 g2=>?_) (λi k ob g1 g2=>?_) (.cons (.vec O) (H9 ap)) h' λr τ hk=>?_
 .rcases i with _|i<;>rcases j with _|j<;>simp at g1 g2<;>rfl
 .rcases i with _|i
  .simp at g1 g2;subst g1 g2;exact⟨_,hq,b5E hp⟩
  .simp at g1
 .obtain ⟨a,rfl,rfl,hpa⟩:=hk;by_cases hg:g a=true
  all_goals simp only[hg,if_true,if_false,b09]
  rotate_left
  .refine ⟨U,.ret (.vec q (off a) (len a)),σ.set q (.vec s (rows' a)),.ret (.vec (.inl U)),U,λk hk bm=>?_,λi k x ha hx=>?_,a,by simp[hg],by simp[hg],hpa⟩
   .have n1:q≠k:=λe=>bm a2d;simp[n1]
   .rcases ha with ha|⟨ha,rfl⟩
    .rcases i with _|i
     .simp at ha hx;subst ha hx;exact⟨_,by simp[hql],b5E (aG a hpa)⟩
     .simp at ha
    .rcases i with _|i
     .simp at ha
     .simp at hx
  .refine ⟨U,.ret (.vec σ.length (off a) (len a)),σ.set q .dead++[.vec s (rows' a)],.ret (.vec (.inr ⟨U,U⟩)),U,λk hk bm=>?_,λi k x ha hx=>?_,a,by simp[hg],by simp[hg],hpa⟩
   .have n1:q≠k:=λe=>bm a2d;rw[T7 (D hk)];simp[n1]
   .rcases ha with ha|⟨ha,rfl⟩
    .rcases i with _|i
     .simp at ha hx;subst ha hx;exact⟨.dead,by rw[T7 (D hql)];simp[hql],.dead⟩
     .simp at ha
    .rcases i with _|_|i
     .simp at ha
     .simp at hx;subst hx;exact⟨_,by rw[a1c U];simp,b5E (aG a hpa)⟩
     .simp at hx
def ShV(k q:Nat)(c c':CV):Prop:=c=c'\/(∃o n,c= .vec k o n/\c'= .vec q o n)\/∃l nn,c= .list l nn (some k)/\c'= .list l nn (some q)
theorem Rel.shift(hr:Rel C M σ w)(hk:σ[k]?=some ob)(hp:M.pl[k]?=some p):Rel C {M with pl:=M.pl++[p]} (σ.set k .dead++[ob]) w/\Ext M w {M with pl:=M.pl++[p]} w:=by
 obtain⟨h1,h2⟩:=hr.addDead p;refine⟨?_,h2⟩;have af:k<σ.length:=(n_2.1 hk).1;have hl:=hr.len;have key:∀(i:Nat) (q:Pl) (aL:b9),(M.pl++[p])[i]?=some q->(σ.set k .dead++[ob])[i]?=some aL->aL= .dead\/∃j,(σ++[.dead])[j]?=some aL/\(M.pl++[p])[j]?=some q/\j<σ.length/\((i=j/\i≠k)\/(i=σ.length/\j=k)):=by
  intro i q aL hq hi
  rcases Nat.lt_trichotomy i σ.length with h|h|h
  .rw [T7 (D h),a8X]at hi;by_cases hik:k=i
   .rw [Q hik,Q af]at hi;injection hi with hi
    exact .inl hi.symm
   .rw [W hik]at hi;exact .inr ⟨i,by rw[T7 h];exact hi,hq,h,.inl ⟨O,λe=>hik e.symm⟩⟩
  .have e1:(σ.set k .dead++[ob])[i]?=some ob:=by rw[h];simp
   have e2:(M.pl++[p])[i]?=some p:=by rw[h,<- hl];simp
   rw[e1]at hi;rw[e2]at hq;injection hi with hi;injection hq with hq
   subst hi hq;exact .inr ⟨k,by rw[T7 af];exact hk,by rw[T7 G];exact hp,af,.inr ⟨h,O⟩⟩
  .rw [c0X H6]at hi;cases hi
 refine⟨D hl,h1.blk,λi q aL hq hi=>?_,λi i' q q' ob1 ob2 hq eL hi bf hv eY hb=>?_,h1.glob,h1.kep,λi q aL hq hi hv=>?_⟩
 .rcases key i q aL hq hi with rfl|⟨j,g1,g2,_⟩
  .exact ⟨J,J⟩
  .exact h1.obj j q aL g2 g1
 .rcases key i q ob1 hq hi with rfl|⟨j,g1,g2,g3,g4⟩
  .cases hv
  .rcases key i' q' ob2 eL bf with rfl|⟨j',gA,gU,g3',g4'⟩
   .cases eY
   .have:=h1.inj j j' q q' ob1 ob2 g2 gU g1 gA hv eY hb;omega
 .rcases key i q aL hq hi with rfl|⟨j,g1,g2,_⟩
  .cases hv
  .exact h1.nk j q aL g2 g1 hv
theorem I3.shift{q t:Nat}(hf:I3 {M with pl:=M.pl++[p]} w n E a)(hp:(M.pl++[p])[k]?=some p)(hq:(M.pl++[p])[q]?=some p)(ht:E.ok t)(hc:ShV k q (E.f t) c'):I3 {M with pl:=M.pl++[p]} w n (E.put (some t) c' True) a:=by
 have aZ:RV {M with pl:=M.pl++[p]} w c' (a.tmps.getD t undef):=by
  have h3:=hf.rv t ht
  rcases hc with e|⟨o,m,e1,e2⟩|⟨l,nn,e1,e2⟩
  .rw [<- e];exact h3
  .rw [e1]at h3;rw[e2];generalize a.tmps.getD t undef=u at h3;cases h3 with
   |vec g1 g2 g3 g4=>
    have gA:(M.pl++[p])[k]?=some _:=g1;rw[hp]at gA;injection gA with gA
    subst gA;exact .vec (p:=p) hq g2 g3 g4
  .rw [e1]at h3;rw[e2];generalize a.tmps.getD t undef=u at h3;cases h3 with
   |list v g1 g2 g3 g4 g5 g6 g7 g8 g9 g10=>
    refine .list v g1 g2 g3 g4 g5 g6 g7 g8 g9 λj hj=>?_;injection hj with hj
    subst hj;obtain⟨c0,u1,u2,u3,u4⟩:=g10 k O;rw[hp]at u1;injection u1 with u1
    subst u1;exact⟨c0,hq,u2,u3,u4⟩
 refine⟨hf.defers,hf.size,λx hx=>?_,λx hx=>?_⟩
 .rw [Env.putO_f];rw[Env.putO_ok]at hx;by_cases e:x=t
  .rw [Q e,e];exact aZ
  .rw [W e]at hx⊢;exact hf.rv x hx
 .rw [Env.putO_un]at hx;by_cases e:x=t
  .rw [Q e]at hx;exact absurd trivial hx
  .rw [W e]at hx;exact hf.un x hx
theorem c7D{Jh:A7->Env->List b9->Prop}(hC:C.plain)(L:Nat)(hL:Nat.beq L σ.length=true)(k t:Nat)(c':CV)(hk:σ[k]?=some ob)(ht:E.ok t)(hc:ShV k L (E.f t) c')(l:α->List (Nat×CV))(S:α->List b9)(Jd:α->Prop)(m:α->Nat)(h0:a6B L l S Jd (E.put (some t) c' True) (σ.set k .dead++[ob]))
 (round:∀(a:α),Jd a->CWp C n c (A7.next (a6B L l S λa'=>m a'<m a/\Jd a') Jh) (Env.only (l a)) (S a)):CWp C n (.loop c) Jh E σ:=λM w a hr hf=>by
 intro b k0 cs;have hL:=a3H hL;have key:∀d (x:α) M1 w1 a1,m x=d->Jd x->Ext M w M1 w1->Rel C M1 (S x) w1->I3 M1 w1 n (Env.only (l x)) a1 ->
  ∃e a' w',Q8 C n Jh M w e a' w'/\Arrives C.P (lone (b.at a1 (.code c::.inLoop c::k0)) cs w1) b k0 cs e a' w':=by
  intro d
  induction d using Nat.strongRecOn with
  |_ d ih=>
   intro x M1 w1 a1 hd hI hx aI di;obtain⟨e,a2,w2,hq,aw⟩:=round x hI M1 w1 a1 aI di b (.inLoop c::k0) cs;obtain⟨E',aa,M',h1,h2,h3,h4⟩:=hq;cases e with
   |normal=>
    obtain⟨x',ak,⟨af,ij⟩,⟨g1,g2⟩,hE',hS⟩:=h4;have ay:=hx.trans h1;have eB:L<=M'.pl.length:=by
     obtain⟨l,hl⟩:=ay.pl;rw[hl];simp;rw[hr.len,hL];omega
    obtain⟨dj,dl,dm,bM,aP⟩:=ih (m x') G x' _ w2 a2 O ij (ay.ren g1 (by rw[hr.len,hL])) (h2.ren hC g1 g2 eB hS) (h3.onlyR g1 eB hE');exact⟨dj,dl,dm,bM,.of_steps (Steps.trans aw (.one step_inLoop)) aP⟩
   |outgrown=>exact h4.elim
   |_=>exact⟨_,a2,w2,⟨E',aa,M',hx.trans h1,h2,h3,h4⟩,.pass (x:=.inLoop c) O (λ_ _=>.inl U) aw⟩
 obtain⟨x,ak,hP,⟨g1,g2⟩,hE,hS⟩:=h0;have af:k<σ.length:=(n_2.1 hk).1;obtain⟨p,hp⟩:∃p,M.pl[k]?=some p:=⟨M.pl[k]'(by rw[hr.len];exact af),U⟩;obtain⟨h1,h2⟩:=hr.shift hk hp;have gR:=(hf.mono h2).shift (k:=k) (q:=L) (by rw[T7 (by rw[hr.len];exact af)];exact hp) (by rw[hL,<- hr.len];simp) ht hc;have eB:L<=(M.pl++[p]).length:=by rw[n_8,hr.len,hL];omega
 obtain⟨e,a',w',hq,aw⟩:=key _ x _ w a O hP (h2.ren g1 (by rw[hr.len,hL])) (h1.ren hC g1 g2 eB hS) (gR.onlyR g1 eB hE);exact⟨e,a',w',hq,.of_steps (.one step_loop) aw⟩
section
end
theorem c8Y{β:Type}{kc:α->CV}{vc:β->CV}(hk:∀a,p9 (kc a))(hv:∀b,p9 (vc b))(n:Nat)(a b:List (α×β)):F7 n (.iter (gm kc vc a) (gm kc vc b)):=⟨λx hx=>by
 obtain⟨y,_,rfl⟩:=D6.1 hx;exact⟨(hk _).old,(hv _).old⟩,λx hx=>by
 obtain⟨y,_,rfl⟩:=D6.1 hx;exact⟨(hk _).old,(hv _).old⟩⟩
theorem b2E{α:Type}:∀{l:List α} {i:Nat} {x:α},l[i]?=some x->(x::l.eraseIdx i).Perm l
 | [],_,_,h=>by cases h
 |y::l,0,x,h=>by injection h with h;subst h;exact .refl _
 |y::l,i+1,x,h=>by
  rw[List.eraseIdx_cons_succ];exact(List.Perm.swap y x _).trans ((b2E (l:=l) (i:=i) h).cons y)
theorem c71{β:Type}{left:List (α×β)}{i:Nat}{q:α}{e:β}{out:List β}(h:left[i]?=some (q,e)):(out++[e]++(left.eraseIdx i).map Prod.snd).Perm (out++left.map Prod.snd):=by
 rw[H5];exact((b2E h).map Prod.snd).append_left out
def c9H:List (Nat×TyE)->Nat->Option TyE
 | [],_=>none
 |(k,e)::l,t=>match Nat.beq k t with
  |true=>some e
  |false=>c9H l t
theorem b2l{t:Nat}{e:TyE}:∀{l:List (Nat×TyE)},c9H l t=some e->(t,e)∈l
 | [],h=>by cases h
 |(k,x)::l,h=>by
  unfold c9H at h;split at h
  .rename_i hb;obtain rfl:=a3H hb;injection h with h;subst h
   exact b0r
  .exact a13 _ (b2l h)
def tyB(P:Program)(x:Nat×TyE):Bool:=match P.info? x.1,P.underlying x.1 with
 |some i,some d=>Nat.beq i.size x.2.size &&match d with
  | .struct fs=>x.2.agg && (List.range x.2.offs.length).all λi=>match fs[i]? with
   |some fd=>Nat.beq fd.offset (x.2.offs.getD i 0)&&match P.info? fd.type with
    |some j=>Nat.blt 0 j.size
    |none=>false
   |none=>false
  | .array _ _=>x.2.agg &&x.2.offs.isEmpty
  |_=>!x.2.agg &&x.2.offs.isEmpty
 |_,_=>false
theorem b8n{i:TypeInfo}(h:P.info? t=some i)(w:World):(sizeOf t).run P w= .ok i.size w:=by simp[sizeOf,typeInfo,h]
theorem c2V{d:TypeDesc}(h:P.underlying t=some d)(w:World):(underlying t).run P w= .ok d w:=by simp[underlying,h]
def e3u:TypeDesc->Bool
 | .struct _| .array _ _=>true
 |_=>false
theorem b52{d:TypeDesc}(h:P.underlying t=some d)(w:World):(isAgg t).run P w= .ok (e3u d) w:=by
 unfold isAgg;rw[Sem.run_bind,c2V h];cases d<;>rfl
theorem e0i{l:List (Nat×TyE)}(h:l.all (tyB P)=true):∀x∈l,x.2.right P x.1:=λ⟨t,e⟩ hx=>by
 rw[a6b]at h;have h:=h _ hx;unfold tyB at h;split at h
 .rename_i i d hi hd;rw[T5]at h;have aK:=a3H h.1;have h2:=h.2;have hs:∀w,(sizeOf t).run P w= .ok e.size w:=λw=>by rw[b8n hi];exact n_7 (λn=>Result.ok n w) aK
  cases d with
  |struct fs=>
   simp only[T5,a6b,List.mem_range]at h2;refine⟨λw=>by rw[b52 hd,show e.agg=true from h2.1];rfl,hs,.inr ⟨fs,c2V hd,λi o ho=>?_⟩⟩;have h3:=h2.2 i (n_2.1 ho).1;split at h3
   .rename_i fd hfd;rw[T5]at h3;have h4:=a3H h3.1;have h5:=h3.2;split at h5
    .rename_i j hj;exact⟨fd,j.size,hfd,by rw[h4,a7V];dsimp only at ho⊢;rw[ho];rfl,b8n hj,by have h6:=h5;rw[b2q]at h6;omega⟩
    .cases h5
   .cases h3
  |array n t'=>
   simp only[T5]at h2;exact⟨λw=>by rw[b52 hd,show e.agg=true from h2.1];rfl,hs,.inl (b8R.1 h2.2)⟩
  |_=>
   simp only[T5,b9E]at h2;exact⟨λw=>by rw[b52 hd,show e.agg=false from h2.1];rfl,hs,.inl (b8R.1 h2.2)⟩
 .cases h
def Env.vb(E:Env):Operand->Bool
 | .tmp t=>match E.g t with
  | .yes=>true
  |_=>false
 | .const v=>L2 v
 |_=>true
theorem Env.vb_ok(h:E.vb x=true):E.valid x:=by
 cases x with
 |tmp t=>
  show(E.g t).is;simp only[Env.vb]at h;generalize E.g t=g at h;cases g with
  |yes=>exact J
  |two a b=>cases h
 |const v=>exact h
 |global g=>exact J
 |func f=>exact J
theorem Env.val_h{c:CV}(h:(match x with| .tmp t=>E.h t|x=>some (E.val C x))=some c):E.val C x=c:=by
 cases x with
 |tmp t=>show(E.h t).getD _=c;rw[show E.h t=some c from h];rfl
 |_=>injection h
def e3r:BinOp->Bool
 | .eql | .neq | .lss | .leq | .gtr | .geq=>true
 |_=>false
def qv(C:Ctx)(σ:List b9)(E:Env):Op->Option CV
 | .move x| .assign x=>match E.vb x with
  |true=>match x with
   | .tmp t=>E.h t
   |x=>some (E.val C x)
  |false=>none
 | .nilCheck x=>match E.vb x with
  |true=>match E.val C x with
   | .ptr k d=>some (.ptr k d)
   |_=>none
  |false=>none
 | .extract x i=>match E.vb x with
  |true=>match E.val C x with
   | .tup cs=>cs[i]?
   |_=>none
  |false=>none
 | .unOp .not _ x=>match E.vb x with
  |true=>match E.val C x with
   | .val (.bool b)=>some (.val (.bool (!b)))
   |_=>none
  |false=>none
 | .fieldAddr t x f=>match E.vb x with
  |true=>match c9H C.tab t with
   |some e=>match e.offs[f]? with
    |some d=>match E.val C x with
     | .ptr k o=>some (.ptr k (o+d))
     | .cptr cs=>some (.cptr (cs.drop d))
     | .eptr k i o=>some (.eptr k i (o+d))
     |_=>none
    |none=>none
   |none=>none
  |false=>none
 | .load t x=>match E.vb x with
  |true=>
   match c9H C.tab t with
   |some e=>match E.val C x with
    | .ptr k o=>match σ[k]? with
     |some (.boxT _ cells)=>match e.agg with
      |false=>cells[o]?
      |true=>match Nat.ble (o+e.size) cells.length with
       |true=>some (.agg ((cells.drop o).take e.size))
       |false=>none
     |_=>none
    | .cptr cells=>match e.agg with
     |false=>cells[0]?
     |true=>match Nat.ble e.size cells.length with
      |true=>some (.agg (cells.take e.size))
      |false=>none
    |_=>none
   |none=>none
  |false=>none
 | .binOp op _ x y _=>match e3r op with
  |true=>match E.vb x with
   |true=>match E.vb y with
    |true=>match E.val C x with
     | .val (.int k a)=>match E.val C y with
      | .val (.int k' b)=>if k=k' then(b3f op k a b).map CV.val else none
      |_=>none
     |_=>none
    |false=>none
   |false=>none
  |false=>none
 |_=>none
theorem e1n{c:CV}(h:qv C σ E o.op=some c):l8 C σ E o c:=by
 generalize bi:o.op=op at h;cases op with
 |move x=>
  simp only[qv]at h;split at h
  .exact a2Y bi (Env.vb_ok ‹_›) (Env.val_h h)
  .cases h
 |assign x=>
  simp only[qv]at h;split at h
  .exact a5k bi (Env.vb_ok ‹_›) (Env.val_h h)
  .cases h
 |nilCheck x=>
  simp only[qv]at h;split at h
  .split at h
   .injection h with h;subst h;exact b4c bi (Env.vb_ok ‹_›) ‹_›
   .cases h
  .cases h
 |extract x i=>
  simp only[qv]at h;split at h
  .split at h
   .exact a5N bi (Env.vb_ok ‹_›) ‹_› h
   .cases h
  .cases h
 |unOp u t x=>
  cases u<;>simp only[qv]at h<;>try cases h
  split at h
  .split at h
   .injection h with h;subst h;exact c0t bi (Env.vb_ok ‹_›) ‹_›
   .cases h
  .cases h
 |fieldAddr t x f=>
  simp only[qv]at h;split at h
  .split at h
   .rename_i e he;split at h
    .rename_i d hd;obtain⟨-,-,hf⟩:=C.right _ (b2l he)
     rcases hf with hf|⟨fs,hu,hf⟩
     .dsimp only at hf;rw[hf]at hd;cases hd
     .obtain ⟨fd,s,h1,rfl,h3,h4⟩:=hf f d hd;split at h
      .injection h with h;subst h;exact j3 bi (Env.vb_ok ‹_›) ‹_› hu h1 h3 h4
      .injection h with h;subst h;exact a3I bi (Env.vb_ok ‹_›) ‹_› hu h1 h3 h4
      .injection h with h;subst h;exact c7c bi (Env.vb_ok ‹_›) ‹_› hu h1 h3 h4
      .cases h
    .cases h
   .cases h
  .cases h
 |load t x=>
  simp only[qv]at h;split at h
  .split at h
   .rename_i e he;obtain⟨ha,hs,-⟩:=C.right _ (b2l he);dsimp only at ha hs;split at h
    .split at h
     .split at h
      .rename_i gB;rw[gB]at ha;exact j9 bi (Env.vb_ok ‹_›) ‹_› ha ‹_› h
      .rename_i gB;rw[gB]at ha;split at h
       .injection h with h;subst h;exact I8 bi (Env.vb_ok ‹_›) ‹_› ha hs ‹_› (nb ‹_›)
       .cases h
     .cases h
    .split at h
     .rename_i gB;rw[gB]at ha;exact a0N bi (Env.vb_ok ‹_›) ‹_› ha h
     .rename_i gB;rw[gB]at ha;split at h
      .injection h with h;subst h;exact U5 bi (Env.vb_ok ‹_›) ‹_› ha hs (nb ‹_›)
      .cases h
    .cases h
   .cases h
  .cases h
 |binOp op t x y t'=>
  simp only[qv]at h;split at h
  .split at h
   .split at h
    .split at h
     .split at h
      .split at h
       .rename_i hk;subst hk;rw[Q3]at h;obtain⟨v,hv,rfl⟩:=h;exact a2I bi (Env.vb_ok ‹_›) (Env.vb_ok ‹_›) ‹_› ‹_› hv
       .cases h
      .cases h
     .cases h
    .cases h
   .cases h
  .cases h
 |_=>cases h
theorem I3.yes{d:Option Nat}{c:CV}(h:I3 M w n (E.put d c True) a):I3 M w n (E.putO d c .yes) a:=by
 cases d with
 |none=>exact h
 |some d=>
  refine⟨h.defers,h.size,λt ht=>?_,λt ht=>?_⟩
  .have:=h.rv t (by rw[Env.put_ok];rw[Env.putO_ok]at ht;exact ht);rw[Env.put_f]at this;rw[Env.putO_f];exact this
  .exact h.un t (by rw[Env.put_un];rw[Env.putO_un]at ht;exact ht)
section
variable{Jh:A7->Env->List b9->Prop}
theorem I6.yes{d:Option Nat}{c:CV}(h:I6 C n ab Jh l (E.putO d c .yes) σ):I6 C n ab Jh l (E.put d c True) σ:=λM w a hr hf=>h M w a hr hf.yes
def e3f(n:Nat)(o:Oper):Bool:=match o.dst with
 |some d=>Nat.blt d n
 |none=>true
def b0o(C:Ctx)(n:Nat)(ab:Array Oper)(Jh:A7->Env->List b9->Prop):List Oper->Env->List b9->Prop
 | [],E,σ=>Jh .normal E σ
 |o::l,E,σ=>match o.guard with
  |some _=>I6 C n ab Jh (o::l) E σ
  |none=>match e3f n o with
   |false=>I6 C n ab Jh (o::l) E σ
   |true=>match qv C σ E o.op with
    |none=>I6 C n ab Jh (o::l) E σ
    |some c=>match o.dst with
     |some d=>b0o C n ab Jh l (E.putO (some d) c .yes) σ
     |none=>b0o C n ab Jh l E σ
theorem a2x:∀{l:List Oper} {E:Env},b0o C n ab Jh l E σ->I6 C n ab Jh l E σ
 | [],_,h=>p7 h
 |o::l,E,h=>by
  unfold b0o at h;split at h
  .exact h
  .rename_i hg;split at h
   .exact h
   .rename_i hd;split at h
    .exact h
    .rename_i c hc;refine d6l hg hd (e1n hc) ?_;split at h
     .rename_i d fU;rw[fU];exact(a2x h).yes
     .rename_i fU;rw[fU];exact a2x h
def qc(C:Ctx)(n:Nat):Nat->Nat->Code->(A7->Env->List b9->Prop)->Env->List b9->Prop
 |0,_,c,Jh,E,σ=>CWp C n c Jh E σ
 |k+1,s,c,Jh,E,σ=>match c with
  | .seq x y=>match s with
   |0=>CWp C n (.seq x y) Jh E σ
   |s+1=>qc C n k 1000 x (A7.next (λE σ=>qc C n k s y Jh E σ) Jh) E σ
  | .skip=>Jh .normal E σ
  | .block id x=>qc C n k s x (A7.blk id Jh) E σ
  | .region _ ab false=>b0o C n ab Jh ab.toList E σ
  |c=>CWp C n c Jh E σ
theorem a9J:∀{k s:Nat} {c:Code} {Jh:A7->Env->List b9->Prop} {E:Env} {σ:List b9},qc C n k s c Jh E σ->CWp C n c Jh E σ
 |0,_,_,_,_,_,h=>h
 |k+1,s,c,Jh,E,σ,h=>by
  unfold qc at h;split at h
  .split at h
   .exact h
   .refine F6 ((a9J h).mono λe E σ h=>?_);cases e with
    |normal=>exact a9J h
    |_=>exact h
  .exact w9 h
  .exact J9 (a9J h)
  .exact C2 (a2x h)
  .exact h
end
section
variable{Jh:A7->Env->List b9->Prop}
theorem qk(h:qc C n 999 999 c Jh E σ):CWp C n c Jh E σ:=a9J h
theorem qs(s:Nat)(h:qc C n 999 s c Jh E σ):CWp C n c Jh E σ:=a9J h
theorem qN(aa:List b9)(he:σ=aa)(h:b0o C n ab Jh l E aa):b0o C n ab Jh l E σ:=he▸h
theorem qo(h:b0o C n ab Jh l E σ):I6 C n ab Jh l E σ:=a2x h
theorem qY{c:CV}(hy:l8 C σ E o c)(h:b0o C n ab Jh l (E.putO o.dst c .yes) σ)(hg:o.guard=none:=by rfl)(hd:(match o.dst with|some d=>Nat.blt d n|none=>true)=true:=by rfl):I6 C n ab Jh (o::l) E σ:=d6l hg hd hy (a2x h).yes
theorem qD(h:G5 C σ E o λr aa=>match r with| .ret c=>b0o C n ab Jh l (E.putO o.dst c .yes) aa| .pan c=>Jh (.pan c) E aa)(hg:o.guard=none:=by rfl)(hd:(match o.dst with|some d=>Nat.blt d n|none=>true)=true:=by rfl):I6 C n ab Jh (o::l) E σ:=
 a27 hg hd (h.mono λr aa h=>by
  cases r with
  |ret c=>exact(a2x h).yes
  |pan c=>exact h)
theorem qG{j t:Nat}{av:Bool}{c:CV}(hy:b=av->l8 C σ E o c)(h:b0o C n ab Jh l (E.put o.dst c (b=av)) σ)(hg:o.guard=some (j,av):=by rfl)(ht:(ab[j]?).bind (·.dst)=some t:=by rfl)(hv:E.ok t:=by exact J)(hb:E.f t= .val (.bool b):=by rfl)
 (hd:(match o.dst with|some d=>Nat.blt d n|none=>true)=true:=by rfl):I6 C n ab Jh (o::l) E σ:=e2E hg ht hv hb hd hy (a2x h)
theorem qH{j t:Nat}{av:Bool}{c:CV}(hg:o.guard=some (j,av))(ht:(ab[j]?).bind (·.dst)=some t)(hy:E.ok t->b=av->l8 C σ E o c)(h:b0o C n ab Jh l (E.put o.dst c (E.ok t/\b=av)) σ)(hv:¬E.ok t->E.un t:=by exact λh=>h)(hb:E.f t= .val (.bool b):=by rfl)
 (hd:(match o.dst with|some d=>Nat.blt d n|none=>true)=true:=by rfl):I6 C n ab Jh (o::l) E σ:=e2M hg ht hv hb hd hy (a2x h)
theorem qC{c:Operand}{x y:Code}(ht:b=true->qc C n 999 999 x Jh E σ)(hf:b=false->qc C n 999 999 y Jh E σ)(hv:E.valid c:=by first|exact J|exact O)(hc:E.val C c= .val (.bool b):=by exact O):CWp C n (.cond c x y) Jh E σ:=a5C hv hc (λh=>a9J (ht h)) λh=>a9J (hf h)
theorem qO{fn:Func}(hf:C.P.funcs[f]?=some fn)(h:qc C fn.ntmps 999 999 c (Fin C fn K) (Env.args args) σ)(hb:fn.body=some c:=by rfl)(hn:Nat.ble args.length fn.ntmps=true:=by rfl):b8 C f args σ K:=a88 hf hb hn (a9J h)
end
section
variable{Jh:A7->Env->List b9->Prop}
theorem d5H{parts:Array (Nat×Operand)}{ps:List (Nat×CV)}(ho:o.op = .buildSlice t len parts)(hv:E.valids (parts.toList.map (·.2)))
 (hu:∀w,(underlying t).run C.P w= .ok (.slice e) w)(hs:∀w,(sizeOf e).run C.P w= .ok s w)(hz:∀w,(zeroValue e).run C.P w= .ok z w)(bR:L2 z=true)(cX:(I0 z).one=true\/∃cs,I0 z= .agg cs)(gb:(I0 z).cells.length=s)(eZ:0<s)
 (aj:len*s<=2^24)(ep:parts.toList.map (λx=>(x.1,E.val C x.2))=ps)(aN:∀x∈ps,x.2.one=true\/∃cs,x.2 = .agg cs)
 (bG:a5o (λi=>some (i*s,s)) ((List.range (len*s)).map λi=>(I0 z).cells.getD (i%s) default) ps=some Y.flatten)
 {M:z8}{w:World}{ρ:Operand->Value}(h:∀x∈o.op.operands,E.valid x->RV M w (E.val C x) (ρ x)):
 ∃r:Array Value,(execOp ρ o).run C.P w= .ok (.value (.slice (some ⟨w.heap.size,0,none⟩) len len)) (w.alloc (.cells r e))/\RV M w (.agg Y.flatten) (.agg r):=by
 have ga:RV M w (I0 z) z:=a0y bR;obtain⟨g1,g2,g3⟩:=ga.cells cX;have bN:∀x∈parts.toList,x.2∈o.op.operands:=λx hx=>by
  rw[ho];simp only[Op.operands,List.mem_toArray,D6];exact⟨x,hx,O⟩
 have bP:=Env.valids_mem hv;obtain⟨r,aI,aW⟩:=a8Z (M:=M) (w:=w) ps (parts.toList.map λx=>(x.1,ρ x.2)) ((List.range (len*s)).map λi=>(I0 z).cells.getD (i%s) default) ((Array.range (len*s)).map (z.cells[·%z.cells.size]!)) Y.flatten bG (by simp[<- ep]) (λi x y hx hy=>by
  refine⟨?_,aN x (n_3 hx)⟩;subst ep;simp only[O2,Q3]at hx hy;obtain⟨a,ha,rfl⟩:=hx;obtain⟨a',cL,rfl⟩:=hy;have:a=a':=by rw[ha]at cL;injection cL
  subst this;have hm:=n_3 ha;exact h _ (bN _ hm) (bP _ (D6.2 ⟨_,hm,O⟩))) U (λc hc=>by
   obtain⟨i,_,rfl⟩:=D6.1 hc;have af:i%s< (I0 z).cells.length:=by rw[gb];exact a6i _ eZ
   rw[a7V,a1r af];exact g2 _ (b3z af)) (λi c hi=>by
   rw[O2,Q3]at hi;obtain⟨i',bf,rfl⟩:=hi;have bt:=(n_2.1 bf).1;simp at bt;rw[List.getElem?_range bt]at bf;injection bf with bf
   subst bf;have af:i%s< (I0 z).cells.length:=by rw[gb];exact a6i _ eZ
   have gS:i%s<z.cells.size:=by rw[g1];exact af
   have:=g3 (i%s) _ (a1r af);have e1:(I0 z).cells.getD (i%s) default=(I0 z).cells[i%s]:=by
    rw[a7V,a1r af];rfl
   rw[e1];have e2:((Array.range (len*s)).map (z.cells[·%z.cells.size]!)).getD i undef=z.cells.getD (i%s) undef:=by
    have bn:z.cells.size=s:=by rw[g1,gb]
    have hms:i%s<s:=a6i _ eZ;simp[bt,bn,hms]
   rw[e2];exact this)
 refine⟨r,?_,aW⟩;have hl:(parts.map λx=>(x.1,ρ x.2)).toList=parts.toList.map λx=>(x.1,ρ x.2):=by simp
 simp only[execOp,ho,Instr.buildSlice,Sem.run_bind,hu,Result.andThen_ok,hs];rw[W G];simp only[hl];by_cases fZ:len*s=0
 .have er:Array.range 0= #[]:=O;rw[fZ,er]at aI;simp only[List.map_toArray,List.map_nil]at aI;simp[fZ,er,aI,newRow]
 .simp [fZ,hz,aI,newRow]
theorem c92{o1 o2:Oper}{d1 d2:Nat}{parts:Array (Nat×Operand)}(bs:I)(hd1:o1.dst=some d1)(hd2:o2.dst=some d2)(ho1:o1.op = .buildSlice t len parts)(ho2:o2.op = .convert t t (.tmp d1))(dG:o1.guard=none)(dg:o2.guard=none)
 (dL:Nat.blt d1 n=true)(da:Nat.blt d2 n=true)(hv:a7Q E parts.toList)
 (hu:∀w,(underlying t).run C.P w= .ok (.slice e) w)(hs:∀w,(sizeOf e).run C.P w= .ok 1 w)(hz:∀w,(zeroValue e).run C.P w= .ok z w)(he:∀w,(underlying e).run C.P w= .ok (.int .u8) w)(bR:L2 z=true)(cX:c95 (I0 z)=true)(gb:(I0 z).cells.length=1)
 (aj:Nat.ble (len*1) 16777216=true)(aN:c2v (a73 C E parts.toList)=true)
 (bG:a5o (λi=>some (i*1,1)) ((List.range (len*1)).map λi=>(I0 z).cells.getD (i%1) default) (a73 C E parts.toList)=some (bs.map bcv).flatten)(cQ:bs.length=len)
 (h:I6 C n ab Jh l ((E.hide (some d1)).put (some d2) (.list (bs.map bcv) true none) True) σ):I6 C n ab Jh (o1::o2::l) E σ:=λM w a hr hf=>by
 have iJ:E.valids (parts.toList.map (·.2)):=by
  have:=a2z hv;have key:∀l:List Operand,(∀x∈l,E.valid x)->E.valids l:=by
   intro l
   induction l with
   |nil=>intro _;trivial
   |cons x l ih=>intro h;exact⟨h x U,ih λy hy=>h y (by simp[hy])⟩
  exact key _ λx hx=>by
   obtain⟨p,hp,rfl⟩:=D6.1 hx;exact this p hp
 have cS:len*1<=2^24:=by have:=nb aj;omega
 obtain⟨r,au,aZ⟩:=d5H (o:=o1) (E:=E) (C:=C) (M:=M) (w:=w) (ρ:=a.eval) ho1 iJ hu hs hz bR (a2J cX) gb G cS (a5R _) (a8Y aN) bG (λx _ hx=>hf.eval hr hx);have hlt1:d1<n:=by simpa[b2q]using dL
 have gS:d2<n:=by simpa[b2q]using da
 have hrl2:r.size=len:=by
  cases aZ with
  |agg q1 _ _=>
   rw[q1,flat_len (bs.map bcv) (s:=1) (λr0 h0=>by
    obtain⟨b,_,rfl⟩:=D6.1 h0;rfl)]
   simp[cQ]
 unfold wpList;rw[Q (by simp[Region.wanted,dG])];refine .inl ?_;unfold Oper.wp;rw[au];simp only[Oper.upon];unfold wpList;rw[Q (by simp[Region.wanted,dg])];refine .inl ?_;unfold Oper.wp;have iK:(a.put o1.dst (.slice (some ⟨w.heap.size,0,none⟩) len len)).eval (.tmp d1)= .slice (some ⟨w.heap.size,0,none⟩) len len:=by
  rw[hd1];simp[Act.eval,Act.put,hf.size,hlt1]
 have hsh:(w.alloc (.cells r e)).shape? w.heap.size=some (e,len):=by
  simp only[World.shape?,r9];simp[hrl2]
 have iN:(execOp (a.put o1.dst (.slice (some ⟨w.heap.size,0,none⟩) len len)).eval o2).run C.P (w.alloc (.cells r e))= .ok (.value (.slice (some ⟨w.heap.size,0,none⟩) len len)) (w.alloc (.cells r e (len,len+1))):=by
  have hm:(markStringish ⟨w.heap.size,0,none⟩).run C.P (w.alloc (.cells r e))= .ok () (w.alloc (.cells r e (len,len+1))):=by
   have:=a71 w r e len;simp only[markStringish,shape,freeze,Sem.run_bind];simp only[Sem.run,hsh,Result.andThen_ok];rw[this]
  simp only[execOp,ho2,iK,convert,Sem.run_bind,hu,Result.andThen_ok,he];simp[hm]
 rw[iN];simp only[Oper.upon];obtain⟨hx,fe⟩:=hr.allocFull (.cells r e (len,len+1));have bj:bs.length<=maxLen:=by unfold maxLen;omega
 have gF:RV (M.settle w.heap.size) (w.alloc (.cells r e (len,len+1))) (.list (bs.map bcv) true none) (.slice (some ⟨w.heap.size,0,none⟩) len len):=by
  cases aZ with
  |agg q1 q2 q3=>
   have ba:∀r0∈bs.map bcv,r0.length=1:=λr0 h0=>by
    obtain⟨b,_,rfl⟩:=D6.1 h0;rfl
   refine RV.list' (s:=1) (b:=w.heap.size) (off:=0) (D cQ.symm) (λi j=>r.getD (i*1+j) undef) (by simp[cQ]) G O (λh=>by cases h) Y1 ba (λr0 bH c hc=>?_) (λi j r0 c hi hj=>?_) (λi j r0 c hi hj=>?_) (λk hk=>by cases hk)
   .obtain ⟨b,_,rfl⟩:=D6.1 bH;simp[bcv]at hc;subst hc;rfl
   .have hf:=a4J (bs.map bcv) ba i j r0 c hi hj;have af:=(n_2.1 hf).1;have bt:i*1+j<r.size:=by omega
    refine⟨.inl (.inr O),?_⟩;rw[O7];show(match(w.alloc (.cells r e (len,len+1))).heap[w.heap.size]? with|some (.cells c _ _)=>c[i*1+j]? |_=>none)=_;rw[r9];simp at bt;simp[bt]
   .exact (q3 _ _ (a4J (bs.map bcv) ba i j r0 c hi hj)).mono hx
 rw[hd1,hd2];exact h.later hx fe (((hf.mono hx).hide (d:=some d1)).put (λt ht=>by injection ht with ht;omega) (λ_=>gF) λhh=>absurd trivial hh)
end
section
theorem b33{off gk len2:Nat}(ho:o.op = .call {callee:=.builtin .copy,args:=#[x,y],argTypes:=#[t,t']})(hx:E.valid x)(hy:E.valid y)(ex:E.val C x= .vec k off len)(ey:E.val C y= .vec k gk len2)
 (hu:∀w,(underlying t).run C.P w= .ok (.slice e) w)(hs:∀w,(sizeOf e).run C.P w= .ok s w)(aC:σ[k]?=some (.vec s Y))(aM:len<=len2)(hl:off+len<=Y.length)(da:gk+len<=Y.length)
 (hk:K (.ret (.val (.int .i64 len))) (σ.set k (.vec s (J7 Y off ((Y.drop gk).take len))))):G5 C σ E o K:=λM w ρ hr hh=>by
 have h1:=hh x H0 hx;have h2:=hh y H0 hy;rw[ex]at h1;rw[ey]at h2;generalize hv:ρ x=v at h1;generalize db:ρ y=v2 at h2;have hnl:((Y.drop gk).take len).length=len:=by simp;omega
 cases h1 with
 |vec hp g1 g2 g3=>
  rename_i p a;cases h2 with
  |vec cB i1 i2 i3=>
   rename_i p2 a2;obtain rfl:=Option.some.inj (hp.symm.trans cB);have gz:=a3W (len:=len) hr (.vec (w:=w) cB G i2 i3) aC da;obtain⟨an,cn,hvn,_,bY,arr,ci,aR,bg⟩:=gz;have dQ:=(hr.obj k p _ hp aC).1;have bj:Y.length<=p.cap:=dQ.2.1;have cj:p.size=s:=dQ.1;obtain⟨w',aF,ay,bl⟩:=a3T hr hp aC (p:=off) (new:=(Y.drop gk).take len) G G bY aR bg;have fo:Nat.min len2 len=len:=Nat.min_eq_right aM;rw[hnl]at ci;have hfn2:(Builtin.firstCells s len (.slice (some a2) len2 (p.cap -gk))).run C.P w= .ok arr w:=by
    simpa[Builtin.firstCells]using ci
   have hst':(storeCells a arr.toList).run C.P w= .ok () w':=by
    rcases b9a len with h0|h0
    .have fZ:arr.toList=[]:=c1p (by rw[hnl]at aR;simp[aR,h0]);rw[fZ]at aF⊢;exact aF
    .rw [g3 G,cj];exact aF
   have au:(execOp ρ o).run C.P w= .ok (.value (.int .i64 len)) w':=by
    simp[execOp,ho,resolve,invoke,builtin,Builtin.copy_,hu,hs,hv,db,Builtin.lenOf,fo,hfn2,hst',goInt]
   rw[au];exact⟨_,_,M,ay,bl,.val _,hk⟩
end
def fen(ro:Option Nat):Fence:={Fence.wide with round:=ro}
def ndB(o:Oper):Bool:=match o.op with
 | .defer _=>false
 |_=>true
theorem e0g(h:ndB o=true)(c:Call):o.op≠.defer c:=λe=>by
 unfold ndB at h;rw[e]at h;cases h
theorem e16{ro:Option Nat}{next eQ:Act->World->Prop}{Jh Q':Exit->Act->World->Prop}(hd:ndB o=true)(hn:∀a w,next a w->eQ a w)(hq:∀ch w,Jh (.panic ch) a w->Q' (.panic ch) a w)(bG:¬LetsOut Jh)(h:o.wp P a w next Jh):o.wpIn (fen ro) 0 P a w eQ Q':=by
 refine⟨λ_ _=>trivial,?_⟩;rw[Oper.semAt_eq _ _ _ (e0g hd)];unfold Oper.wp at h;generalize (execOp a.eval o).run P w=r at h;have nod:∀{p:Prop},(fen ro).depth.isSome=true->p:=λh=>by cases h
 cases r with
 |ok x w3=>
  cases x<;>simp only[Oper.upon]at h<;>simp only[Oper.uponIn]
  case value v=>exact hn _ _ h
  case skip=>exact hn _ _ h
  case defer d=>exact hn _ _ h
  case enter f args=>
   refine⟨nod,(callsIn_wide (n:=0)).2 (h.mono λe w4 he=>?_)⟩;cases e with
   |returned v=>exact hn _ _ he
   |panicked ch=>exact hq _ _ he
   |outgrown=>exact absurd he bG
  case row r args=>
   refine⟨nod,λc cs _=>?_⟩;obtain⟨v,w',r,s⟩:=h c cs;exact⟨v,w',hn _ _ r,stepsIn_wide.2 s⟩
 |halt x w3=>
  cases x<;>simp only[Oper.upon]at h<;>simp only[Oper.uponIn]
  exact hq _ _ h
theorem a78{ro:Option Nat}{P:Program}{ab:Array Oper}{rest:List Oper}{Jh Q':Exit->Act->World->Prop}(hn:∀a w,Jh .normal a w->wpListIn (fen ro) 0 P ab Q' rest a w)(hq:∀a ch w,Jh (.panic ch) a w->Q' (.panic ch) a w)(bG:¬LetsOut Jh):∀(l:List Oper),l.all ndB=true->∀(a:Act) (w:World),wpList P ab Jh l a w->wpListIn (fen ro) 0 P ab Q' (l++rest) a w
 | [],_,a,w,h=>hn a w h
 |o::l,hd,a,w,h=>by
  rw[b7l,T5]at hd;unfold wpList at h;show wpListIn (fen ro) 0 P ab Q' (o::(l++rest)) a w;unfold wpListIn
  split
  .rename_i hw;rw[Q hw]at h
   rcases h with h|⟨_,h⟩
   .exact e16 hd.1 (a78 hn hq bG l hd.2) (hq a) bG h
   .exact absurd h bG
  .rename_i hw;rw[W hw]at h;exact⟨λ_ _=>trivial,a78 hn hq bG l hd.2 _ _ h⟩
theorem b6L{Jh:A7->Env->List b9->Prop}:¬LetsOut (Q8 C n Jh M w):=λ⟨_,_,h⟩=>by
 obtain⟨_,_,_,_,_,_,h⟩:=h;exact h
def a6V(C:Ctx)(n:Nat)(c:Code)(Jh:A7->Env->List b9->Prop)(E:Env)(σ:List b9):Prop:=
 ∀(ro:Option Nat) (M:z8) (w:World) (a:Act),Rel C M σ w->I3 M w n E a->c.wpIn (fen ro) 0 C.P (Q8 C n Jh M w) a w
section
variable{Jh:A7->Env->List b9->Prop}
theorem d8n{c':Code}(e:c=c')(h:a6V C n c' Jh E σ):a6V C n c Jh E σ:=e▸h
theorem d5S(h:Jh .normal E σ):a6V C n .skip Jh E σ:=λ_ M w _ hr hf=>wpIn_skip ⟨E,σ,M,Ext.refl M w,hr,hf,h⟩
theorem d5m(h:Jh (.exit id) E σ):a6V C n (.exit id) Jh E σ:=λ_ M w _ hr hf=>wpIn_exit ⟨E,σ,M,Ext.refl M w,hr,hf,h⟩
theorem c1T{x y:Code}(h:a6V C n x (A7.next (a6V C n y Jh) Jh) E σ):a6V C n (.seq x y) Jh E σ:=λro M w a hr hf=>by
 refine wpIn_seq (wpIn_mono (h ro M w a hr hf) λe a' w' hl=>?_);obtain⟨E',aa,M',h1,h2,h3,h4⟩:=hl;cases e with
 |normal=>exact wpIn_mono (h4 ro M' w' a' h2 h3) λ_ _ _=>Q8.later h1
 |_=>exact⟨E',aa,M',h1,h2,h3,h4⟩
theorem d4J{c:Operand}{x y:Code}(hv:E.valid c)(hc:E.val C c= .val (.bool b))(ht:b=true->a6V C n x Jh E σ)(gR:b=false->a6V C n y Jh E σ):a6V C n (.cond c x y) Jh E σ:=λro M w a hr hf=>by
 have h1:RV M w (E.val C c) (a.eval c):=hf.eval hr hv;rw[hc]at h1;have h2:a.eval c= .bool b:=by generalize a.eval c=u at h1;cases h1;rfl
 exact wpIn_cond_split h2 (λh=>ht h ro M w a hr hf) (λh=>gR h ro M w a hr hf)
theorem a5K(hd:ab.toList.all ndB=true)(h:I6 C n ab Jh ab.toList E σ):a6V C n (.region id ab false) Jh E σ:=λro M w a hr hf=>by
 refine wpIn_region_list ?_;have:=a78 (ro:=ro) (rest:=[]) (λa w h=>h) (λ_ _ _ h=>h) b6L ab.toList hd a w (h M w a hr hf);rwa[Z7]at this
def a8V(C:Ctx)(k:Nat)(args:List CV)(σ:List b9)(K:R8->List b9->Prop):Prop:=
 ∀(M:z8) (w:World) (vs:Array Value) (p:Pl),Rel C M σ w->M.pl[k]?=some p->vs.size=args.length->(∀(i:Nat) (c:CV),args[i]?=some c->RV M w c (vs.getD i undef)) ->
  YieldAt Fence.wide 0 C.P p.block vs w λ
   | .returned v,w'=>a1i C M w K v w'
   | .panicked ch,w'=>U1 C M w K ch w'
   | .outgrown,_=>False
theorem a8V.mono{K':R8->List b9->Prop}(hd:a8V C k args σ K)(h:∀r σ,K r σ->K' r σ):a8V C k args σ K':=
 λM w vs p hr hp hn hx=>by
  obtain⟨fn,tm,a,b,h1,h2⟩:=hd M w vs p hr hp hn hx;exact⟨fn,tm,a,b,h1,h2.mono λe w' he=>by
   cases e with
   |returned v=>exact a1i.mono h he
   |panicked c=>exact U1.mono h he
   |outgrown=>exact he⟩
theorem b7M{id k:Nat}{ab:Array Oper}{pre post:List Oper}{o:Oper}{y:Operand}{xs:Array Operand}{ts:Array TypeId}{cargs:List CV}(hs:ab.toList=pre++o::post)(h1:pre.all ndB=true)(h2:post.all ndB=true)(hg:o.guard=none)(hd:(match o.dst with|some d=>d<n|none=>True))(ho:o.op = .call {callee:=.value y,args:=xs,argTypes:=ts})
 (h:I6 C n ab (A7.next (λE' aa=>E'.valid y/\E'.val C y= .yld k/\E'.valids xs.toList/\E'.vals C xs.toList=cargs/\a8V C k cargs aa λr bv=>match r with
  | .ret c=>I6 C n ab Jh post (E'.putO o.dst c .yes) bv
  | .pan c=>Jh (.pan c) E' bv) Jh) pre E σ):CWp C n (.region id ab false) Jh E σ:=λM w a hr hf=>by
 refine(wpIn_wide (n:=0)).1 (wpIn_region_list ?_);rw[hs];refine a78 (ro:=none) ?_ ?_ b6L pre h1 a w (h M w a hr hf)
 case refine_2=>exact λ_ _ _ h=>h
 intro a1 w1 hl;obtain⟨E',aa,M',k1,k2,k3,hv,ey,iJ,eas,hy⟩:=hl;have hfy:=k3.eval k2 hv;rw[ey]at hfy;generalize hcy:a1.eval y=fv at hfy;cases hfy with
 | @yld _ p hp=>
  have hx:∀(i:Nat) (c:CV),cargs[i]?=some c->RV M' w1 c ((xs.map a1.eval).getD i undef):=λi c hi=>by
   subst eas;rw[<- Env.vals_map,O2,Q3]at hi;obtain⟨x,hx,rfl⟩:=hi;have ay:xs[i]?=some x:=D hx;have hm:x∈xs:=b5x ay;rw[Z6,c0G,ay];exact k3.eval k2 (Env.valids_mem iJ x (D hm))
  obtain⟨fn,tm,asg,body,au,hround⟩:=hy M' w1 (xs.map a1.eval) p k2 hp (by subst eas;rw[<- Env.vals_map];simp) hx;have bb:(execOp a1.eval o).run C.P w1= .ok (.round p.block fn tm asg body) w1:=by
   simp[execOp,ho,resolve,hcy,Deferred.ofValue,invoke,au]
  unfold wpListIn;rw[Q (by simp[Region.wanted,hg])];refine⟨λ_ _=>trivial,?_⟩;rw[Oper.semAt_eq _ _ _ (λc e=>by rw[ho]at e;cases e),bb];refine⟨λh=>(by cases h),?_⟩;refine hround.mono λe w2 he=>?_;cases e with
  |returned v=>
   obtain⟨c,bv,gZ,g1,g2,g3,g4⟩:=he;have gK:I3 gZ w2 n (E'.putO o.dst c .yes) (a1.put o.dst v):=((k3.mono g1).put (λt ht=>by rw[ht]at hd;exact hd) (λ_=>g3) λhh=>absurd trivial hh).yes;have:=a78 (ro:=none) (rest:=[]) (Q':=Q8 C n Jh M w) (λa w h=>Q8.later (k1.trans g1) h) (λ_ _ _ h=>Q8.later (k1.trans g1) h) b6L post h2 _ w2 (g4 gZ w2 _ g2 gK);rwa[Z7]at this
  |panicked ch=>
   obtain⟨c,v,bv,gZ,g0,g1,g2,g3,g4⟩:=he;exact⟨E',bv,gZ,k1.trans g1,g2,k3.mono g1,c,v,g0,g3,g4⟩
  |outgrown=>exact he.elim
theorem b4N{M:z8}{w:World}{n:Nat}{tmps:Array Value}(hs:tmps.size=n):∀{l:List (Nat×CV)},(∀x∈l,RV M w x.2 (tmps.getD x.1 undef))->I3 M w n (Env.only l) {tmps,defers:=[]}
 | [],_=>⟨O,hs,λ_ h=>h.elim,λ_ h=>h.elim⟩
 |(t,c)::l,h=>by
  have ih:=b4N hs (l:=l) λx hx=>h x (a13 _ hx);refine⟨O,hs,λx hx=>?_,λx hx=>?_⟩
  .show RV M w (((Env.only l).putO (some t) c .yes).f x) _;have hx:((Env.only l).putO (some t) c .yes).ok x:=hx;rw[Env.putO_f];rw[Env.putO_ok]at hx
   split
   .subst x;exact h (t,c) b0r
   .rename_i ax;rw[W ax]at hx;exact ih.rv x hx
  .have hx:((Env.only l).putO (some t) c .yes).un x:=hx;rw[Env.putO_un]at hx;split at hx
   .exact absurd trivial hx
   .exact ih.un x hx
def d0i(o:Loop)(n:Nat)(cs:List (Nat×CV))(k:Nat)(K:R8->List b9->Prop)(e:A7)(σ:List b9):Prop:=
 σ[k]?=some (.lp {o with state:=.busy} n cs)/\match e with
  | .normal=>K (.ret (.val (.bool true))) (σ.set k (.lp {o with state:=.ready,pending:=none} n cs))
  | .ret=>K (.ret (.val (.bool false))) (σ.set k (.lp {o with state:=.done,pending:=some .ret} n cs))
  | .exit id=>K (.ret (.val (.bool false))) (σ.set k (.lp {o with state:=.done,pending:=some (.exit id)} n cs))
  | .goto t=>K (.ret (.val (.bool false))) (σ.set k (.lp {o with state:=.done,pending:=some (.goto t)} n cs))
  | .pan _=>False
theorem b5s(hr:Rel C M σ w){o o':Loop}{cs:List (Nat×CV)}(hk:M.pl[k]?=some p)(ao:σ[k]?=some (.lp o n cs)):
 ∃tmps,w.heap[p.block]?=some (.loop {o with tmps})/\tmps.size=n/\(∀x∈cs,RV M w x.2 (tmps.getD x.1 undef))/\Ext M w M (World.putObj w p.block (.loop {o' with tmps}))/\Rel C M (σ.set k (.lp o' n cs)) (World.putObj w p.block (.loop {o' with tmps})):=by
 obtain⟨⟨tm,e1,e2,e3⟩,f1,f2⟩:=hr.obj k p _ hk ao;have hx:=Ext.putObj (w:=w) (.loop {o' with tmps:=tm}) (hr.nk k p _ hk ao rfl) f1 f2;exact⟨tm,e1,e2,e3,hx,hr.putObj hk ao O f1 f2 _ ⟨tm,World.putObj_same w _ (a1a.1 e1).1,e2,λx ay=>(e3 x ay).mono hx⟩⟩
theorem c6j{t:Nat}{o:Loop}{cs:List (Nat×CV)}{c:CV}(ao:σ[k]?=some (.lp o n cs))(hs:o.state = .ready)(hp:o.params = #[t])(ht:Nat.blt t n=true)
 (h:a6V C n o.assign (λe E' aa=>e= .normal/\aa[k]?=some (.lp o n cs)/\a6V C n o.body (λe _ bv=>d0i o n cs k K e bv) E' (aa.set k (.lp {o with state:=.busy} n cs))) ((Env.only cs).putO (some t) c .yes) σ):a8V C k [c] σ K:=λM w vs p hr hk aK hx=>by
 obtain⟨tm,e1,e2,e3,-,-⟩:=b5s (o':=o) hr hk ao;obtain⟨v,rfl⟩:∃v,vs= #[v]:=by
  obtain⟨l⟩:=vs
  match l,aK with
  | [v],_=>exact⟨v,O⟩
 have hv:RV M w c v:=hx 0 c O;have hf0:=b4N (n:=n) e2 e3;have di:I3 M w n ((Env.only cs).putO (some t) c .yes) (({tmps:=tm,defers:=[]}:Act).put (some t) v):=(hf0.put (λt' gJ=>by injection gJ with gJ;subst gJ;rw[b2q]at ht;exact ht) (λ_=>hv) λhh=>absurd trivial hh).yes;have hy:=run_yield (P:=C.P) (args:=#[v]) e1 (by simp[hp]);refine⟨_,_,_,_,hy,?_⟩;have etm:(({o with tmps:=tm}:Loop).params.zip #[v]).foldl (λtmps (t,a)=>tmps.setIfInBounds t a) tm=tm.setIfInBounds t v:=by
  show(o.params.zip #[v]).foldl _ tm=_;rw[hp];simp
 refine roundIn_of_wpIn trivial ?_;have hb:=h (some p.block) M w _ hr di;refine wpIn_mono (F:=fen (some p.block)) (a:=({tmps:=_,defers:=[]}:Act)) (by rw[etm];exact hb) λe a1 w1 hl=>?_;obtain⟨E',aa,M',g1,g2,g3,g4⟩:=hl;cases e with
 |normal=>
  obtain⟨-,hσ',dK⟩:=g4;have aC:=g1.get hk;obtain⟨tm1,q1,q2,q3,q4,q5⟩:=b5s (o':={o with state:=.busy}) g2 aC hσ';refine⟨_,run_beginRound q1 hs,?_⟩;refine wpIn_mono (dK (some p.block) M' _ a1 q5 (g3.mono q4)) λe a2 w2 hl=>?_;obtain⟨E'',bv,gZ,k1,k2,k3,k4⟩:=hl;have hk'':=k1.get aC;have gH:∀(jump:Option Code) (b:Bool),jump.isNone=b->bv[k]?=some (.lp {o with state:=.busy} n cs)->K (.ret (.val (.bool b))) (bv.set k (.lp {o with state:=if jump.isNone then .ready else .done,pending:=jump} n cs)) ->
   ∃v w',(Instr.endRound p.block jump).run C.P w2= .ok v w'/\a1i C M w K v w':=λjump b hjb hs'' hk3=>by
   obtain⟨tm2,r1,r2,r3,r4,r5⟩:=b5s (o':={o with state:=if jump.isNone then .ready else .done,pending:=jump}) k2 hk'' hs'';refine⟨_,_,run_endRound jump r1,?_⟩;rw[hjb]at*;exact⟨_,_,gZ,((g1.trans q4).trans k1).trans r4,r5,.val _,hk3⟩
  cases e with
  |normal=>exact gH none true O k4.1 k4.2
  |ret=>exact gH (some .ret) false O k4.1 k4.2
  |exit id=>exact gH (some (.exit id)) false O k4.1 k4.2
  |goto l=>exact gH (some (.goto l)) false O k4.1 k4.2
  |panic ch=>
   obtain⟨_,_,_,_,h1,h2⟩:=k4;exact h2.elim
  |outgrown=>exact k4
 |exit id=>cases g4.1
 |goto l=>cases g4.1
 |ret=>cases g4.1
 |panic ch=>
  obtain⟨_,_,_,_,h1,h2⟩:=g4;cases h1
 |outgrown=>exact g4
theorem d1Z(h:a6V C n c (A7.blk id Jh) E σ):a6V C n (.block id c) Jh E σ:=λro M w a hr hf=>by
 refine wpIn_block (wpIn_mono (h ro M w a hr hf) λe a' w' hl=>?_);obtain⟨E',aa,M',h1,h2,h3,h4⟩:=hl;cases e with
 |exit id'=>
  simp only[Exit.inBlock];simp only[A7.blk]at h4
  split<;>rename_i ii
  .rw [Q ii]at h4;exact⟨E',aa,M',h1,h2,h3,h4⟩
  .rw [W ii]at h4;exact⟨E',aa,M',h1,h2,h3,h4⟩
 |_=>exact⟨E',aa,M',h1,h2,h3,h4⟩
def c0h(p:Pl):List Deferred:=[{target:=.collected p.block,args:=#[]}]
def b7y(kD:Nat)(C:Ctx)(n:Nat)(Jh:A7->Env->List b9->Prop)(M:z8)(w:World)(e:Exit)(a':Act)(w':World):Prop:=
 ∃E' aa M' p a0,M'.pl[kD]?=some p/\a'=addDs (c0h p) a0/\Ext M w M' w'/\Rel C M' aa w'/\I3 M' w' n E' a0/\match e with
  | .normal=>Jh .normal E' aa
  | .exit id=>Jh (.exit id) E' aa
  | .ret=>Jh .ret E' aa
  |_=>False
theorem b7y.later{M1:z8}{w1:World}(he:Ext M w M1 w1){e:Exit}{w':World}(hl:b7y kD C n Jh M1 w1 e a w'):b7y kD C n Jh M w e a w':=by
 obtain⟨E',aa,M',p,a0,h1,h2,h3,h4⟩:=hl;exact⟨E',aa,M',p,a0,h1,h2,he.trans h3,h4⟩
def a8l(kD:Nat)(C:Ctx)(n:Nat)(c:Code)(Jh:A7->Env->List b9->Prop)(E:Env)(σ:List b9):Prop:=
 ∀(M:z8) (w:World) (a:Act),Rel C M σ w->I3 M w n E a->c.wpIn Fence.wide 0 C.P (b7y kD C n Jh M w) a w
theorem b2e{x y:Code}(h:CWp C n x (λe E σ=>e= .normal/\a8l kD C n y Jh E σ) E σ):a8l kD C n (.seq x y) Jh E σ:=λM w a hr hf=>by
 refine wpIn_seq (wpIn_mono (wpIn_wide.2 (h M w a hr hf)) λe a' w' hl=>?_);obtain⟨E',aa,M',h1,h2,h3,h4⟩:=hl;cases e with
 |normal=>exact wpIn_mono (h4.2 M' w' a' h2 h3) λ_ _ _=>b7y.later h1
 |exit id=>cases h4.1
 |goto l=>cases h4.1
 |ret=>cases h4.1
 |panic ch=>
  obtain⟨_,_,_,_,h,_⟩:=h4;cases h
 |outgrown=>exact h4.elim
theorem d5q{kD:Nat}{x y:Code}(h:a8l kD C n x (λe E σ=>e= .normal/\∀ds,a47 ds C n y (λe E σ=>match e with
 | .normal=>Jh .normal E σ
 | .ret=>Jh .ret E σ
 |_=>False) E σ) E σ):a8l kD C n (.seq x y) Jh E σ:=λM w a hr hf=>by
 refine wpIn_seq (wpIn_mono (h M w a hr hf) λe a' w' hl=>?_);obtain⟨E',aa,M',p,a0,hp,rfl,h1,h2,h3,h4⟩:=hl;cases e with
 |normal=>
  refine wpIn_mono (wpIn_wide.2 (h4.2 (c0h p) M' w' a0 h2 h3)) λe a1 w1 hl=>?_;obtain⟨a2,rfl,E2,σ2,M2,k1,k2,k3,k4⟩:=hl;refine⟨E2,σ2,M2,p,a2,k1.get hp,O,h1.trans k1,k2,k3,?_⟩;cases e with
  |normal=>exact k4
  |ret=>exact k4
  |exit id=>exact k4.elim
  |goto l=>exact k4.elim
  |panic ch=>
   obtain⟨_,_,_,_,h⟩:=k4;exact h.elim
  |outgrown=>exact k4.elim
 |exit id=>cases h4.1
 |ret=>cases h4.1
 |goto l=>exact h4.elim
 |panic ch=>exact h4.elim
 |outgrown=>exact h4.elim
theorem d1R(h:a8l kD C n c (A7.blk id Jh) E σ):a8l kD C n (.block id c) Jh E σ:=λM w a hr hf=>by
 refine wpIn_block (wpIn_mono (h M w a hr hf) λe a' w' hl=>?_);obtain⟨E',aa,M',p,a0,hp,h0,h1,h2,h3,h4⟩:=hl;cases e with
 |exit id'=>
  simp only[Exit.inBlock];simp only[A7.blk]at h4
  split<;>rename_i ii
  .rw [Q ii]at h4;exact⟨E',aa,M',p,a0,hp,h0,h1,h2,h3,h4⟩
  .rw [W ii]at h4;exact⟨E',aa,M',p,a0,hp,h0,h1,h2,h3,h4⟩
 |_=>exact⟨E',aa,M',p,a0,hp,h0,h1,h2,h3,h4⟩
theorem c9t{g:Operand}{ps:Array Nat}{asg body:Code}{gf:FuncId}{caps:List CV}{cs:List (Nat×CV)}(hv:E.valid g)(eg:E.val C g= .clo gf caps)(aA:∀args w,(callFunc gf args).run C.P w= .ok (.enter gf args) w)(hcs:E.is cs)
 (h:∀o:Loop,o.state = .ready->o.pending=none->o.params=ps->o.assign=asg->o.body=body->b8 C gf (.yld (σ.length+1)::caps) (σ++[.blk (.deferred (some [])),.lp o n cs]) λr τ=>(∃c,r= .ret c)/\∃o':Loop,τ[σ.length+1]?=some (.lp o' n cs)/\o'.state≠.busy/\match o'.pending with
  |none=>Jh .normal E (τ.set (σ.length+1) (.lp {o' with state:=.exhausted} n cs))
  |some .ret=>Jh .ret E (τ.set (σ.length+1) (.lp {o' with state:=.exhausted} n cs))
  |some (.exit id)=>Jh (.exit id) E (τ.set (σ.length+1) (.lp {o' with state:=.exhausted} n cs))
  |_=>False):a8l σ.length C n (.rangeFunc g ps asg body) Jh E σ:=λM w a hr hf=>by
 have hg:=hf.eval hr hv;rw[eg]at hg;generalize hgv:a.eval g=fv at hg;cases hg with
 | @clo _ _ vs aK iJ=>
 refine wpIn_rangeFunc λfn ci=>?_
 let o:Loop:={state:=.ready,pending:=none,fn,tmps:=a.tmps,params:=ps,assign:=asg,body,defers:=w.heap.size}
 have x1:=Ext.alloc hr ⟨w.heap.size,0,0⟩ (.deferred (some []));have r1:=hr.alloc ⟨w.heap.size,0,0⟩ (.deferred (some [])) (.blk (.deferred (some []))) O (r9 _ _);have x2:=Ext.alloc r1 ⟨w.heap.size+1,0,0⟩ (.loop o);have hcsr:∀{l:List (Nat×CV)},E.is l->∀x∈l,RV M w x.2 (a.tmps.getD x.1 undef):=λ{l}=>by
  induction l with
  |nil=>intro _ x hx;cases hx
  |cons y l ih=>
   obtain⟨t,c⟩:=y;intro⟨⟨g1,g2⟩,g3⟩ x hx
   rcases J2.1 hx with rfl|hx
   .exact g2▸hf.rv t g1
   .exact ih g3 x hx
 have r2:=r1.alloc ⟨w.heap.size+1,0,0⟩ (.loop o) (.lp o n cs) (by rw[b9s]) ⟨a.tmps,by
  have:=r9 (w.alloc (.deferred (some []))) (.loop o);rw[b9s]at this;exact this,hf.size,λx hx=>((hcsr hcs x hx).mono x1).mono x2⟩
 have bc:((M.add ⟨w.heap.size,0,0⟩).add ⟨w.heap.size+1,0,0⟩).pl[σ.length+1]?=some ⟨w.heap.size+1,0,0⟩:=by
  simp[z8.add,hr.len]
 have hpd:((M.add ⟨w.heap.size,0,0⟩).add ⟨w.heap.size+1,0,0⟩).pl[σ.length]?=some ⟨w.heap.size,0,0⟩:=by
  simp[z8.add,hr.len]
 have hc:=h o O O O O O ((M.add ⟨w.heap.size,0,0⟩).add ⟨w.heap.size+1,0,0⟩) ((w.alloc (.deferred (some []))).alloc (.loop o)) (#[.func (.yield (w.heap.size+1)) #[] #[]]++vs) (by rw[H5]at r2;exact r2) (by simp[aK];omega) λi c hi=>by
  rcases i with _|i
  .simp at hi;subst hi;have e0:(#[Value.func (.yield (w.heap.size+1)) #[] #[]]++vs).getD 0 undef= .func (.yield (w.heap.size+1)) #[] #[]:=by
    rw[Z6,b7d];simp
   rw[e0];exact .yld (p:=⟨w.heap.size+1,0,0⟩) bc
  .have bf:caps[i]?=some c:=D hi;have:=((iJ i c bf).mono x1).mono x2;simp only[Z6,b7d]at this⊢;simpa using this
 refine⟨w.heap.size+1,c0h ⟨w.heap.size,0,0⟩,(w.alloc (.deferred (some []))).alloc (.loop o),{target:=.fn (.func gf) vs,args:=#[.func (.yield (w.heap.size+1)) #[] #[]]},(w.alloc (.deferred (some []))).alloc (.loop o),gf,#[.func (.yield (w.heap.size+1)) #[] #[]]++vs,(w.alloc (.deferred (some []))).alloc (.loop o),run_enterLoop_outer _ _ _ _ _,?_,?_,?_,?_,?_⟩
 .simp [resolve,hgv,Deferred.ofValue];rfl
 .exact λ_ _=>trivial
 .simp [invoke,aA]
 .exact λh=>by cases h
 .refine (callsIn_wide (n:=0)).2 (hc.mono λe w3 he=>?_);have ha:({a with defers:=c0h ⟨w.heap.size,0,0⟩++a.defers}:Act)=addDs (c0h ⟨w.heap.size,0,0⟩) a:=by simp[addDs,hf.defers]
  rw[ha];cases e with
  |returned v=>
   obtain⟨c,τ,M3,k1,k2,k3,-,o',g1,g2,g3⟩:=he;obtain⟨tm,q1,q2,q3,q4,q5⟩:=b5s (o':={o' with state:=.exhausted}) k2 (k1.get bc) g1;have hx:=((x1.trans x2).trans k1).trans q4;refine⟨o'.pending,_,run_endLoop (r:={o' with tmps:=tm}) q1 g2,?_⟩;have hf3:=hf.mono hx;have hp3:=(k1.trans q4).get hpd;generalize o'.pending=pe at g3 hx q5 hf3⊢;cases pe with
   |none=>exact⟨E,_,M3,_,a,hp3,O,hx,q5,hf3,g3⟩
   |some cd=>
    cases cd with
    |ret=>exact wpIn_ret ⟨E,_,M3,_,a,hp3,O,hx,q5,hf3,g3⟩
    |exit id=>exact wpIn_exit ⟨E,_,M3,_,a,hp3,O,hx,q5,hf3,g3⟩
    |_=>exact g3.elim
  |panicked ch=>
   obtain⟨c,v,τ,M3,h0,k1,k2,k3,⟨⟨_,h⟩,_⟩⟩:=he;cases h
  |outgrown=>exact he.elim
theorem c2e{fn:Func}(hf:C.P.funcs[f]?=some fn)(hb:fn.body=some c)(hn:Nat.ble args.length fn.ntmps=true)
 (h:a8l kD C fn.ntmps c (λe E' aa=>match e with
  | .normal | .ret=>aa[kD]?=some (.blk (.deferred (some [])))/\∃c,W6 C E' (aa.set kD (.blk (.deferred none))) fn c/\K (.ret c) (aa.set kD (.blk (.deferred none)))
  |_=>False) (Env.args args) σ):b8 C f args σ K:=λM w vs hr aK hx=>by
 refine(callsIn_wide (n:=0)).1 (callsIn_of_wp_marks hf hb trivial (wpIn_mono (h M w _ hr (a8G (nb hn) aK hx)) λe a w' hl=>?_) O);obtain⟨E',aa,M',p,a0,hp,rfl,h1,h2,h3,h4⟩:=hl;have gH:∀{c:CV},aa[kD]?=some (.blk (.deferred (some [])))->W6 C E' (aa.set kD (.blk (.deferred none))) fn c->K (.ret c) (aa.set kD (.blk (.deferred none)))->LeavesInM Fence.wide 0 C.P fn a0.tmps (λ
  | .returned v,w'=>a1i C M w K v w'
  | .panicked ch,w'=>U1 C M w K ch w'
  | .outgrown,_=>False) (addDs (c0h p) a0).defers .returning w':=λ{c} hd hc hk=>by
  have cr:(addDs (c0h p) a0).defers=c0h p:=by simp[addDs,h3.defers]
  rw[cr];obtain⟨e1,f1,f2⟩:=h2.obj kD p _ hp hd;have x1:=Ext.putObj (w:=w') (.deferred none) (h2.nk kD p _ hp hd O) f1 f2;have r1:=h2.putObj hp hd O f1 f2 (.deferred none) (ob:=.blk (.deferred none)) (World.putObj_same w' _ (a1a.1 e1).1);obtain⟨v,dX,db⟩:=hc M' _ a0 r1 λt ht=>(h3.rv t ht).mono x1;refine⟨U,.inl ⟨_,_,O,run_takeDeferred e1,?_⟩⟩;exact⟨v,dX,c,_,M',h1.trans x1,r1,db,hk⟩
 cases e with
 |normal=>obtain⟨hd,c,hc,hk⟩:=h4;exact gH hd hc hk
 |ret=>obtain⟨hd,c,hc,hk⟩:=h4;exact gH hd hc hk
 |exit id=>exact h4.elim
 |goto l=>exact h4.elim
 |panic ch=>exact h4.elim
 |outgrown=>exact h4.elim
end
section
variable{Jh:A7->Env->List b9->Prop}{ds:List Deferred}
theorem c7x(h:a47 ds C n c (A7.blk id Jh) E σ):a47 ds C n (.block id c) Jh E σ:=λM w a hr hf=>by
 refine wp_block (wp_mono (h M w a hr hf) λe a' w' hl=>?_);obtain⟨a0,rfl,E',aa,M',h1,h2,h3,h4⟩:=hl;cases e with
 |exit id'=>
  simp only[Exit.inBlock];simp only[A7.blk]at h4
  split<;>rename_i ii
  .rw [Q ii]at h4;exact⟨a0,O,E',aa,M',h1,h2,h3,h4⟩
  .rw [W ii]at h4;exact⟨a0,O,E',aa,M',h1,h2,h3,h4⟩
 |_=>exact⟨a0,O,E',aa,M',h1,h2,h3,h4⟩
theorem c8K{l:List (Nat×CV)}(hE:E.is l)(h:a47 ds C n c Jh (E.puts l) σ):a47 ds C n c Jh E σ:=λM w a hr hf=>h M w a hr (hf.puts hE)
theorem e1P{next eQ:Act->World->Prop}{Jh Q':Exit->Act->World->Prop}(hn:∀a w,next a w->eQ (addDs ds a) w)(hq:∀e a w,Jh e a w->Q' e (addDs ds a) w)(h:o.wp P a w next Jh):o.wp P (addDs ds a) w eQ Q':=by
 unfold Oper.wp at h⊢;change o.upon P (addDs ds a) _ _ ((execOp a.eval o).run P w);generalize (execOp a.eval o).run P w=r at h;cases r with
 |ok x w3=>
  cases x<;>simp only[Oper.upon]at h⊢
  case value v=>rw[U7];exact hn _ _ h
  case skip=>rw[U7];exact hn _ _ h
  case defer d=>rw[a9P];exact hn _ _ h
  case enter f args=>
   refine h.mono λe w4 he=>?_;cases e with
   |returned v=>show eQ ((addDs ds a).put o.dst v) w4;rw[U7];exact hn _ _ he
   |panicked ch=>exact hq _ _ _ he
   |outgrown=>obtain⟨a0,w0,h⟩:=he;exact⟨_,w0,hq _ a0 w0 h⟩
  case row r args=>exact Rows.mono h λ_ _ he=>by rw[U7];exact hn _ _ he
 |halt x w3=>
  cases x<;>simp only[Oper.upon]at h⊢
  exact hq _ _ _ h
theorem b5q{P:Program}{md:Region.Mode}{ab:Array Oper}{Jh Q':Exit->Act->World->Prop}(hq:∀e a w,Jh e a w->Q' e (addDs ds a) w):∀(fuel:Nat) (gq:Array Bool) (a:Act) (w:World),wpAny P md ab Jh fuel gq a w->wpAny P md ab Q' fuel gq (addDs ds a) w
 |0,_,a,w,h=>⟨h.1,hq _ _ _ h.2⟩
 |fuel+1,gq,a,w,h=>by
  refine⟨λhr=>hq _ _ _ (h.1 hr),λi hi=>?_⟩;have hh:=h.2 i hi;unfold wpOp at hh⊢
  split
  .rename_i ho;rw[ho]at hh;exact b5q hq fuel _ _ _ hh
  .rename_i o ho;rw[ho]at hh;dsimp only at hh;change if Region.wanted o (yielded ab a.tmps)=true then _ else _
   split
   .rename_i hw;rw[Q hw]at hh;exact hh.imp (e1P (λ_ _=>b5q hq fuel _ _ _) hq) λ⟨h1,a0,w0,h2⟩=>⟨h1,_,w0,hq _ a0 w0 h2⟩
   .rename_i hw;rw[W hw]at hh;rw[U7];exact b5q hq fuel _ _ _ hh
theorem c7F(qs ms hd:List Nat){tl:List (Nat×List Nat)}(hm:C.P.follows .mixedOrders=true)(hB:b1I ab qs ms hd tl=true)(bV:(ab.toList.all λo=>match o.dst with|some d=>Nat.blt d n|none=>true)=true)
 (h:a0V C σ ab (λE' S=>V0 C ab qs Jh S tl E' σ) hd E []):a47 ds C n (.region id ab true) Jh E σ:=λM w a hr hf=>wp_region_any hm (b5q (λ_ a0 _ h=>⟨a0,O,h⟩) _ _ _ _ (b4D qs ms hd hB bV h hr hf))
theorem d1O(h:a8l kD C n c Jh E σ):a8l kD C n (.scope c) Jh E σ:=λM w a hr hf=>
 (wpIn_wide (n:=0)).2 (wp_scope_straight (wp_mono ((wpIn_wide (n:=0)).1 (h M w a hr hf)) λe a' w' hl=>by
  cases e with
  |goto l=>obtain⟨_,_,_,_,_,_,_,_,_,_,h⟩:=hl;exact h.elim
  |_=>exact hl))
theorem d4v(h:∀E0,E=E0->a8l kD C n c Jh E0 σ):a8l kD C n c Jh E σ:=h E O
theorem d6n{kD:Nat}{x y:Code}(R:Env->List b9->Prop)(h:a8l kD C n x (λe E σ=>e= .normal/\R E σ) E σ)(k:∀E σ,R E σ->∀ds,a47 ds C n y (λe E σ=>match e with
 | .normal=>Jh .normal E σ
 | .ret=>Jh .ret E σ
 |_=>False) E σ):a8l kD C n (.seq x y) Jh E σ:=
 d5q λM w a hr hf=>wpIn_mono (h M w a hr hf) λe a' w' hl=>by
  obtain⟨E',aa,M',p,a0,hp,h0,h1,h2,h3,h4⟩:=hl;refine⟨E',aa,M',p,a0,hp,h0,h1,h2,h3,?_⟩;cases e with
  |normal=>exact⟨h4.1,k _ _ h4.2⟩
  |exit id=>cases h4.1
  |ret=>cases h4.1
  |goto l=>exact h4
  |panic ch=>exact h4
  |outgrown=>exact h4
end
def W9(ss:List I):List I:=ss.mergeSort λx y=>decide (x<=y)
section
theorem d5B{v:Value}(ho:o.op = .buildSlice t 1 #[(0,x)])(hx:E.valid x)(ex:E.val C x= .val v)(hv:v.oneCell'=true)(hu:∀w,(underlying t).run C.P w= .ok (.slice e) w)(hs:∀w,(sizeOf e).run C.P w= .ok 1 w)(hz:∀w,(zeroValue e).run C.P w= .ok z w)(bR:z.oneCell'=true)
 (hk:K (.ret (.vec σ.length 0 1)) (σ++[.vec 1 [[.val v]]])):G5 C σ E o K:=λM w ρ hr hh=>by
 have h1:=p8 (ex▸hh x u0 hx);have hvc:v.cells = #[v]:=by cases v<;>first|rfl|simp[Value.oneCell']at hv
 have hzc:z.cells = #[z]:=by cases z<;>first|rfl|simp[Value.oneCell']at bR
 have au:(execOp ρ o).run C.P w= .ok (.value (.slice (some ⟨w.heap.size,0,none⟩) 1 1)) (w.alloc (.cells #[v] e)):=by
  have er:Array.range 1= #[0]:=O;simp only[execOp,ho,Instr.buildSlice,Sem.run_bind,hu,Result.andThen_ok,hs];simp[er,Instr.fill,newRow,h1,hvc,hz]
 rw[au];have aE:=Ext.alloc hr ⟨w.heap.size,1,1⟩ (.cells #[v] e);have aW:=hr.alloc ⟨w.heap.size,1,1⟩ (.cells #[v] e) (.vec 1 [[.val v]]) O ⟨O,n_6 _,by unfold maxLen;simp,λr hr=>by simp at hr;subst hr;rfl,λr hr c hc=>by simp at hr;subst hr;simp at hc;subst hc;exact hv,#[v],e,r9 _ _,O,λi j r c hi hj=>by
  rcases i with _|i
  .injection hi with hi
   subst hi
   rcases j with _|j
   .injection hj with hj
    subst hj;exact .val _
   .simp at hj
  .simp at hi⟩
 refine⟨_,_,_,aE,aW,?_,hk⟩;have hp:(M.add ⟨w.heap.size,1,1⟩).pl[σ.length]?=some ⟨w.heap.size,1,1⟩:=by simp[z8.add,<- hr.len]
 have:=RV.vec (w:=w.alloc (.cells #[v] e)) (off:=0) (len:=1) (a:=⟨w.heap.size,0,none⟩) hp (n_6 _) (by unfold maxLen;simp) (λ_=>by simp);simpa using this
end
end Go.Cl
namespace Go.Proofs
open Go.Shelf Go.Sort
theorem b9m{P:Program}{ρ:Ren}(Ly:Lays.n190 P ρ)(blk off cap:Nat)(ss:List (List UInt8))(w:World)(hH:Holds encStr w blk off ss.toArray)(hb:blk<w.heap.size)(hn:ss.length <4611686018427387904):
 Calls P (ρ.f 190) #[.slice (some ⟨blk,off,none⟩) ss.length cap] w λe w'=>e= .returned (.tuple #[])/\∃n os,w'=grow (putRow encStr (Sort.ahead w n) blk off (ss.mergeSort λx y=>decide (x<=y)).toArray) os:=
 calls_of_every_depth λJe=>by
  have parts:Any.Callees13sIn P ρ Je:={
   heap:=AnyS.heapSort_stringIn {Ly with} Je,rev:=AnyS.reverseRange_stringIn {Ly with} Je,ins:=AnyS.insertionSort_strIn {Ly with} Je,brk:=AnyS.breakPatterns_strIn {Ly with} Je,
   piv:=AnyS.choosePivot_strIn {Ly with} Je,par:=AnyS.partialInsertionSort_strIn {Ly with} Je,peq:=AnyS.partitionEqualOrdered_stringIn {Ly with} Je,prt:=AnyS.partitionOrdered_stringIn {Ly with} Je}
  have laws:Plain13s:={swo:=swo_ltStr,ins:=insertionSort_holds,par:=partialInsertionSort_holds,prt:=partition_holds _,peq:=partitionEqual_holds _,pdq:=pdq_sorts _};have quick:Any.pdqWalkIn_str P ρ Je:=λrm b' o' c' x y lim d w' h1 h2 h3 h4 h5 h6 h7 h8=>AnyS.pdqsort_stringIn {Ly with} Je parts laws (y-x+1) rm b' o' c' x y lim d w' G h1 h2 h3 h4 h5 h6 h7 h8;have lens:Any.lenWalkInS P ρ Je:=λn w' h=>by
   have h1:=AnyS.bits_LenInS {Ly with} Je (n:Int) w' G G;rwa[a3N,bitLen_eq _ G]at h1
  have h:=AnyS.Sort_strIn {Ly with} Je quick lens blk off cap ss.toArray w hH hb (D hn);rw[<- sortStr ss];simpa using h
end Go.Proofs
namespace Go.Cl
open Go.Sort Go.Proofs
variable{w Jg:World}{α:Type}{b s i:Nat}{arr:Array Value}{C:Ctx}{enc:α->List Value}
theorem d4f{ty:TypeId}{fr:Nat×Nat}{d:Array (List UInt8)}(h:w.heap[b]?=some (.cells arr ty fr)):putRow encStr w b 0 d=World.putObj w b (.cells (putCells encStr 0 d arr) ty fr):=by
 have hb:b<w.heap.size:=(a1a.1 h).1;have hg:w.heap[b]= .cells arr ty fr:=(a1a.1 h).2;unfold putRow mapBlock World.putObj
 congr 1
 apply b5v;intro i;rw[c0q,c8X];by_cases hi:b=i
 .subst hi;simp[hb,hg,onCells]
 .simp [hi]
theorem d5E{d:Array (List UInt8)}(hi:i<d.size)(ha:i<arr.size):(putCells encStr 0 d arr).getD i undef=encStr d[i]:=by
 unfold putCells;rw[Z6,Array.getElem?_mapIdx,a1t ha];simp[hi]
theorem d0c{C:Ctx}{f:FuncId}(aA:∀(blk off cap:Nat) (ss:List (List UInt8)) (w:World),Holds encStr w blk off ss.toArray->blk<w.heap.size->ss.length <4611686018427387904 ->
 Calls C.P f #[.slice (some ⟨blk,off,none⟩) ss.length cap] w λe w'=>e= .returned (.tuple #[])/\∃n os,w'=grow (putRow encStr (Sort.ahead w n) blk off (ss.mergeSort λx y=>decide (x<=y)).toArray) os)
 {σ:List b9}{k:Nat}{ss:List I}(ax:ss≠[])(aj:ss.length <4611686018427387904)(hk:σ[k]?=some (.vec 1 (ss.map λs=>[sv s]))):b8 C f [.vec k 0 ss.length] σ λr τ=>r= .ret (.tup [])/\τ=σ.set k (.vec 1 ((W9 ss).map λs=>[sv s])):=λM w vs hr hn hx=>by
 have hl:0<ss.length:=a6M.2 ax;have h0:=hx 0 _ O;have hs:vs.size=1:=hn;obtain⟨v,rfl⟩:∃v,vs= #[v]:=⟨vs[0]'G,Array.ext (by simp[hs]) λi h1 h2=>by
  have:i=0:=by omega
  subst this;simp⟩
 have h0:RV M w (.vec k 0 ss.length) v:=h0;cases h0 with
 |vec hp g1 g2 g3=>
  rename_i p a;obtain⟨⟨e0,e1,e2,e3,e4,arr,ty,e5,e6,e7⟩,hf,cy⟩:=hr.obj k p _ hp hk;rw[K6]at e1;rw[e0,b17]at e6;have ha:=g3 G;rw[Nat.zero_mul]at ha;subst ha;have hb:p.block <w.heap.size:=(a1a.1 e5).1;have aq:∀j (hj:j<ss.length),arr.getD j undef=encStr ss[j]:=λj hj=>by
   have h1:(ss.map λs=>[sv s])[j]?=some [sv ss[j]]:=by rw[O2,a1r hj];rfl
   have:=p8 (e7 j 0 _ _ h1 O);rw[e0,b17,a85]at this;exact this
  have hH:Holds encStr w p.block 0 ss.toArray:=λj hj=>by
   have dz:j<ss.length:=D hj;have hja:j<arr.size:=by omega
   refine⟨?_,by simp[World.frozen?,e5]⟩;have:=aq j dz;rw[Z6,a1t hja]at this;simp only[a84]at this;rw[O7,getElem!_pos _ _ (D dz)];simp[World.cell?,e5,hja,this]
  refine(aA p.block 0 (p.cap -0) ss w hH hb aj).mono λe w' ⟨he,n,os,hw⟩=>?_;subst he hw;obtain⟨bh,aI⟩:=a4P hr n #[];have ew:grow (w.drewN n) #[]=Sort.ahead w n:=by simp[grow,World.drewN,Sort.ahead]
  rw[ew]at bh aI;have e5':(Sort.ahead w n).heap[p.block]?=some (.cells arr ty (0,0)):=e5;rw[d4f e5'];have eS:(W9 ss).length=ss.length:=b6p _;have hd:((W9 ss).toArray).size=ss.length:=by simp[eS]
  have dr:(putCells encStr 0 (W9 ss).toArray arr).size=arr.size:=by simp[putCells]
  have aE:=Ext.putObj (w:=Sort.ahead w n) (.cells (putCells encStr 0 (W9 ss).toArray arr) ty (0,0)) (aI.nk k p _ hp hk O) hf cy;have aW:=aI.putObj (ob:=.vec 1 ((W9 ss).map λs=>[sv s])) hp hk O hf cy (.cells (putCells encStr 0 (W9 ss).toArray arr) ty (0,0)) ⟨e0,by rw[K6,eS];exact e1,e2,λr hr=>by
   obtain⟨s,_,rfl⟩:=D6.1 hr;rw[e0];rfl,λr hr c hc=>by
   obtain⟨s,_,rfl⟩:=D6.1 hr;simp at hc;subst hc;rfl,_,ty,World.putObj_same _ _ (by exact hb),by rw[dr,e0,b17];exact e6,λi j r c hi hj=>by
   rw[O2,Q3]at hi;obtain⟨s,aT,rfl⟩:=hi
   rcases j with _|j
   .injection hj with hj
    subst hj;have bo:=(n_2.1 aT).1;rw[e0,b17,a85,d5E (D bo) G];have:(W9 ss)[i]=s:=(n_2.1 aT).2;simp only[List.getElem_toArray,this];exact .val _
   .cases hj⟩
  obtain⟨fD,eA⟩:=a4P aW 0 os;have ew2:∀u:World,u.drewN 0=u:=λu=>O;rw[ew2]at fD eA;exact⟨_,_,_,(bh.trans aE).trans fD,eA,.tup O (λi c h=>by simp at h),O,O⟩
theorem b85 [Inhabited α]{enc:α->Value}{ty:TypeId}{fr:Nat×Nat}{d:Array α}(h:w.heap[b]?=some (.cells arr ty fr)):putRow enc w b 0 d=World.putObj w b (.cells (putCells enc 0 d arr) ty fr):=by
 have hb:b<w.heap.size:=(a1a.1 h).1;have hg:w.heap[b]= .cells arr ty fr:=(a1a.1 h).2;unfold putRow mapBlock World.putObj
 congr 1
 apply b5v;intro i;rw[c0q,c8X];by_cases hi:b=i
 .subst hi;simp[hb,hg,onCells]
 .simp [hi]
theorem c0L{F:Array Value}(hi:i<F.size)(ha:i<arr.size):(putCells id 0 F arr).getD i undef=F[i]!:=by
 unfold putCells;rw[Z6,Array.getElem?_mapIdx,a1t ha];simp[hi]
theorem b8N{W':World}{M':z8}(h:Ext (V8 Jg) Jg M' W'):∃q os',W'=grow (Jg.drewN q) os':=by
 refine⟨W'.drawn -Jg.drawn,W'.heap.extract Jg.heap.size W'.heap.size,?_⟩;have hd:Jg.drawn+(W'.drawn -Jg.drawn)=W'.drawn:=by have:=h.drew;omega
 have hh:W'.heap=Jg.heap++W'.heap.extract Jg.heap.size W'.heap.size:=by
  apply b5v;intro i;rw[b7d]
  split
  .rename_i hi;exact h.same i hi
  .rename_i hi;rw[Array.getElem?_extract];have hs:=h.size
   split
   .congr 1;omega
   .rename_i h2;rw[b0q];omega
 have h1:=h.os;have h2:=h.tape;have h3:=h.output;show W'=⟨_,_,_,_,_⟩;cases W';simp only at hd hh h1 h2 h3⊢;subst h1 h2 h3;simp only[World.drewN,World.mk.injEq,true_and,and_true];exact⟨hh,hd.symm⟩
theorem c16{f:FuncId}{hZ:List CV}{args:Array Value}{u:Value}
 (hg:∀g cells,C.glob g=some cells->GV (V8 Jg) Jg cells g)
 (hn:args.size=hZ.length)(ha:∀(i:Nat) (c:CV),hZ[i]?=some c->RV (V8 Jg) Jg c (args.getD i undef))
 (h:b8 C f hZ [] λr aa=>r= .ret (.val u)/\aa=[]):Calls C.P f args Jg λe W'=>e= .returned u/\∃q os',W'=grow (Jg.drewN q) os':=by
 refine(h (V8 Jg) Jg args (b38 hg) hn ha).mono λe W' he=>?_;cases e with
 |returned v=>
  obtain⟨c,aa,M',h1,h2,h3,h4,h5⟩:=he;cases h4;cases h3;exact⟨O,b8N h1⟩
 |panicked ch=>
  obtain⟨c,v,aa,M',-,-,-,-,h4,-⟩:=he;cases h4
 |outgrown=>exact he.elim
theorem c51{M:z8}{σ:List b9}(hv:∀g cells,C.glob g=some cells->∀c∈cells,∃v,c=CV.val v)(hr:Rel C M σ w)(hb:¬M.full b)(hs:w.heap.size<=Jg.heap.size)
 (hh:∀x,x<w.heap.size->x≠b->Jg.heap[x]?=w.heap[x]?)(g:Nat)(cells:List CV)(hg:C.glob g=some cells):GV (V8 Jg) Jg cells g:=by
 obtain⟨rv,full,sz⟩:=hr.glob g cells hg;have af:g<w.heap.size:=hr.blk g 0 (.inl full);have ax:g≠b:=λe=>hb (e▸full);have bu:=hh g af ax;cases rv with
 |cptr vals a1 a2 a3=>
  refine⟨.cptr vals a1 (λj c hj=>⟨.inl (a8E af hs),?_⟩) (λj c hj=>?_),a8E af hs,?_⟩
  .rw [M5 bu];exact(a2 j c hj).2
  .obtain ⟨v,rfl⟩:=hv g cells hg c (n_3 hj);have:=a3 j _ hj;cases this;exact .val _
  .rw [bu];exact sz
theorem b3S [Inhabited α]{m:Nat}{dk:Array α}{os:Array Obj}:w.heap.size<=(sortWorldK enc s w b 0 m dk os).heap.size/\∀x,x<w.heap.size->x≠b->(sortWorldK enc s w b 0 m dk os).heap[x]?=w.heap[x]?:=by
 refine⟨by unfold sortWorldK;rw[size_grow,size_putRowK];exact Nat.le_add_right _ _,λx hx ax=>?_⟩;unfold sortWorldK grow putRowK putRow mapBlock;show(Array.modify w.heap b _++os)[x]?=_;rw[b4C (D hx),c0q,W (λe=>ax e.symm)]
theorem c3E{M:z8}{l:List Value}(h1:∀v∈l,v.oneCell'=true):RV M w (.agg (l.map .val)) (.agg l.toArray):=by
 refine .agg U (λc hc=>?_) (λi c hi=>?_)
 .obtain ⟨v,hv,rfl⟩:=D6.1 hc;exact h1 v hv
 .rw [O2,Q3]at hi;obtain⟨v,hv,rfl⟩:=hi;have:l.toArray.getD i undef=v:=by rw[Z6,List.getElem?_toArray,hv];rfl
  rw[this];exact .val _
theorem d0v{g:FuncId} [Inhabited α]{cf:α->α->Int}(h1:∀x,∀v∈enc x,v.oneCell'=true)(hcmp:∀x y:α,b8 C g [.agg ((enc x).map .val),.agg ((enc y).map .val)] [] λr τ=>r= .ret (.val (.int .i64 (cf x y)))/\τ=[])
 (hv:∀g cells,C.glob g=some cells->∀c∈cells,∃v,c=CV.val v){M:z8}{σ:List b9}{w:World}{b size:Nat}(hr:Rel C M σ w)(hb:¬M.full b):CmpLays C.P g #[] enc s cf b 0 size w:=λm os dk hs x y=>by
 refine c16 (c51 hv hr hb b3S.1 b3S.2) O (λi c hi=>?_) (hcmp x y)
 rcases i with _|_|i
 .injection hi with hi;subst hi;exact c3E (h1 x)
 .injection hi with hi;subst hi;exact c3E (h1 y)
 .cases hi
theorem b41 [Inhabited α]{l:List α}{j:Nat}{x:α}(hx:l[i]?=some x)(hj:j<s)(hk:(enc x).length=s):(flatK enc s l.toArray)[i*s+j]! =(enc x)[j]!/\i*s+j<l.length*s:=by
 have hi:=(n_2.1 hx).1;have lt:i*s+j<l.length*s:=by
  have:=S7 s (show i+1<=l.length from hi);rw[Q1,Nat.one_mul]at this;omega
 have e1:(i*s+j) / s=i:=(blk_iff s i _ G).1 ⟨G,G⟩;have e2:(i*s+j)%s=j:=by rw[Nat.mod_eq_sub_div_mul,e1];omega
 refine⟨?_,lt⟩;rw[get_flatK _ _ _ _ (D lt),e1,e2];have:l.toArray[i]! =x:=by simp[hi,(n_2.1 hx).2]
 rw[this]
def a8U{α:Type}(cf:α->α->Int)(l:List α):List α:=l.mergeSort λx y=>!(ltOf cf) y x
theorem b4h{f g:FuncId} [Inhabited α]{cf:α->α->Int}(eZ:0<s)(hk0:∀x,(enc x).length=s)(h1:∀x,∀v∈enc x,v.oneCell'=true)
 (aA:∀(blk off cap:Nat) (d:Array α) (w:World),CmpLays C.P g #[] enc s cf blk off d.size w->HoldsK enc s w blk off d->blk<w.heap.size->d.size <4611686018427387904 ->
  Calls C.P f #[.slice (some ⟨blk,off,none⟩) d.size cap,.func (.func g) #[] #[]] w λe w'=>e= .returned (.tuple #[])/\∃n os,w'=sortWorldK enc s w blk off n (d.toList.mergeSort λx y=>!(ltOf cf) y x).toArray os)
 (hcmp:∀x y:α,b8 C g [.agg ((enc x).map .val),.agg ((enc y).map .val)] [] λr τ=>r= .ret (.val (.int .i64 (cf x y)))/\τ=[])
 (hv:∀g cells,C.glob g=some cells->∀c∈cells,∃v,c=CV.val v)
 {σ:List b9}{k:Nat}{l:List α}(ax:l≠[])(aj:l.length <4611686018427387904)(hk:σ[k]?=some (.vec s (l.map λx=>(enc x).map .val))):
 b8 C f [.vec k 0 l.length,.val (.func (.func g) #[] #[])] σ λr τ=>r= .ret (.tup [])/\τ=σ.set k (.vec s ((a8U cf l).map λx=>(enc x).map .val)):=λM w vs hr hn hx=>by
 have hl:0<l.length:=a6M.2 ax;have hs:vs.size=2:=hn;obtain⟨v,v2,rfl⟩:∃v v2,vs= #[v,v2]:=⟨vs[0]'G,vs[1]'G,Array.ext (by simp[hs]) λi h1 h2=>by
  have:i=0\/i=1:=by omega
  rcases this with rfl|rfl<;>simp⟩
 have h0:RV M w (.vec k 0 l.length) v:=hx 0 _ O;have h2:RV M w (.val (.func (.func g) #[] #[])) v2:=hx 1 _ O;cases h2;cases h0 with
 |vec hp g1 g2 g3=>
  rename_i p a;obtain⟨⟨e0,e1,e2,e3,e4,arr,ty,e5,e6,e7⟩,hf,cy⟩:=hr.obj k p _ hp hk;rw[K6]at e1;rw[e0]at e6;have ha:=g3 G;rw[Nat.zero_mul]at ha;subst ha;have hb:p.block <w.heap.size:=(a1a.1 e5).1;have hcs:l.length*s<=arr.size:=by rw[e6];exact S7 s e1
  have aq:∀t,t<l.length*s->arr.getD t undef=(flatK enc s l.toArray)[t]!:=λt ht=>by
   have hd:t / s<l.length:=(Nat.div_lt_iff_lt_mul eZ).2 ht;have hm:t%s<s:=a6i _ eZ;have iM:t / s*s+t%s=t:=by rw[b3E];exact Nat.div_add_mod t s
   have hx:l[t / s]?=some l[t / s]:=a1r hd;have gT:=hk0 l[t / s];have h3:=(b41 (enc:=enc) hx hm gT).1;rw[iM]at h3;rw[h3];have h4:(l.map λx=>(enc x).map CV.val)[t / s]?=some ((enc l[t / s]).map .val):=by rw[O2,hx];rfl
   have h5:((enc l[t / s]).map CV.val)[t%s]?=some (.val (enc l[t / s])[t%s]!):=by
    rw[O2,a1r G];simp[gT,hm]
   have:=p8 (e7 _ _ _ _ h4 h5);rw[e0,iM]at this;exact this
  have hH:HoldsK enc s w p.block 0 l.toArray:=λj hj=>by
   have dz:j<l.length*s:=D hj;have hja:j<arr.size:=by omega
   refine⟨?_,by simp[World.frozen?,e5]⟩;have:=aq j dz;rw[Z6,a1t hja]at this;simp only[a84]at this;rw[O7];simp[World.cell?,e5,hja,this]
  have hC:=d0v (s:=s) (size:=l.toArray.size) h1 hcmp hv hr hf;have hcc:=aA p.block 0 (p.cap -0) l.toArray w hC hH hb (D aj);rw[show l.toArray.size=l.length by simp,show l.toArray.toList=l by simp]at hcc;refine hcc.mono λe w' ⟨he,n,os,hw⟩=>?_;subst he hw;obtain⟨bh,aI⟩:=a4P hr n #[];have ew:grow (w.drewN n) #[]=Sort.ahead w n:=by simp[grow,World.drewN,Sort.ahead]
  rw[ew]at bh aI;have e5':(Sort.ahead w n).heap[p.block]?=some (.cells arr ty (0,0)):=e5;unfold sortWorldK putRowK;rw[b85 e5'];have eS:(a8U cf l).length=l.length:=b6p _;change a1i C M w _ _ (grow (World.putObj (Sort.ahead w n) p.block (.cells (putCells id 0 (flatK enc s (a8U cf l).toArray) arr) ty (0,0))) os);generalize hF:flatK enc s (a8U cf l).toArray=F;have hFs:F.size=l.length*s:=by rw[<- hF,size_flatK];simp[eS]
  have dr:(putCells id 0 F arr).size=arr.size:=by simp[putCells]
  have aE:=Ext.putObj (w:=Sort.ahead w n) (.cells (putCells id 0 F arr) ty (0,0)) (aI.nk k p _ hp hk O) hf cy;have aW:=aI.putObj (ob:=.vec s ((a8U cf l).map λx=>(enc x).map .val)) hp hk O hf cy (.cells (putCells id 0 F arr) ty (0,0)) ⟨e0,by rw[K6,eS];exact e1,e2,λr hr=>by
   obtain⟨x,_,rfl⟩:=D6.1 hr;rw[e0,K6];exact hk0 x,λr hr c hc=>by
   obtain⟨x,_,rfl⟩:=D6.1 hr;obtain⟨v,hv,rfl⟩:=D6.1 hc;exact h1 x v hv,_,ty,World.putObj_same _ _ (by exact hb),by rw[dr,e0];exact e6,λi j r c hi hj=>by
   rw[O2,Q3]at hi;obtain⟨x,aT,rfl⟩:=hi;rw[O2,Q3]at hj;obtain⟨v,dz,rfl⟩:=hj;have hjs:j<s:=by have:=(n_2.1 dz).1;rw[hk0]at this;exact this
   obtain⟨h3,h4⟩:=b41 (enc:=enc) aT hjs (hk0 x);rw[hF]at h3;rw[eS]at h4;rw[e0,c0L G G,h3,List.getElem!_eq_getElem?_getD,dz];exact .val _⟩
  obtain⟨fD,eA⟩:=a4P aW 0 os;have ew2:∀u:World,u.drewN 0=u:=λu=>O;rw[ew2]at fD eA;exact⟨_,_,_,(bh.trans aE).trans fD,eA,.tup O (λi c h=>by simp at h),O,O⟩
end Go.Cl
namespace Go.Cl
variable{C:Ctx}{σ:List b9}{K:R8->List b9->Prop}{k s q n:Nat}{Y new:List (List CV)}{t e:TypeId}{x y:Operand}{M:z8}{w:World}{cells:List CV}{z:Value}{f:FuncId}
theorem Rel.recell{t0:Option TypeId}{aB:List CV}(hr:Rel C M σ w)(hq:σ[q]?=some (.boxT t0 cells))(hl:aB.length=cells.length)
 (hc:∀(i:Nat) (c c':CV),cells[i]?=some c->aB[i]?=some c'->c'.one=c.one/\∀v,RV M w c v->RV M w c' v):Rel C M (σ.set q (.boxT t0 aB)) w:=by
 have af:q<σ.length:=(n_2.1 hq).1;have key:∀(i:Nat) (x:b9),(σ.set q (.boxT t0 aB))[i]?=some x->(i=q/\x= .boxT t0 aB)\/(i≠q/\σ[i]?=some x):=λi x h=>by
  rw[a8X]at h;split at h
  .rename_i e;subst e;injection h with h
   exact .inl ⟨O,h.symm⟩
  .rename_i e;exact .inr ⟨λe'=>e e'.symm,h⟩
 have old:∀(i:Nat) (x:b9),(σ.set q (.boxT t0 aB))[i]?=some x->x.live=true->∃y,σ[i]?=some y/\y.live=true:=λi x h hl=>by
  rcases key i x h with⟨rfl,_⟩|⟨_,h'⟩
  .exact ⟨_,hq,O⟩
  .exact ⟨_,h',hl⟩
 have get:∀(i:Nat) (c':CV),aB[i]?=some c'->∃c,cells[i]?=some c:=λi c' h=>⟨cells[i]'(by have:=(n_2.1 h).1;omega),U⟩;refine⟨by simp[hr.len],hr.blk,λi p x hp hx=>?_,λi i' p p' x x' hp aG hx ay hv eY hb=>?_,hr.glob,hr.kep,λi p x hp hx hv=>?_⟩
 .rcases key i x hx with⟨rfl,rfl⟩|⟨_,h'⟩
  .obtain ⟨⟨arr,ty,h1,h2,h3,h4⟩,h5⟩:=hr.obj i p _ hp hq;refine⟨⟨arr,ty,h1,G,λc' bx=>?_,λj c' hj=>?_⟩,h5⟩
   .obtain ⟨j,hj⟩:=K5.1 bx;obtain⟨c,hcj⟩:=get j c' hj;rw[(hc j c c' hcj hj).1];exact h3 c (n_3 hcj)
   .obtain ⟨c,hcj⟩:=get j c' hj;exact(hc j c c' hcj hj).2 _ (h4 j c hcj)
  .exact hr.obj i p x hp h'
 .obtain ⟨y,g1,g2⟩:=old i x hx hv;obtain⟨y',gA,gU⟩:=old i' x' ay eY;exact hr.inj i i' p p' y y' hp aG g1 gA g2 gU hb
 .obtain ⟨y,g1,g2⟩:=old i x hx hv;exact hr.nk i p y hp g1 g2
theorem Rel.moveB(hr:Rel C M σ w){ob:b9}{aB:List CV}(hk:σ[k]?=some ob)(hqk:q≠k)(hq:σ[q]?=some (.boxT none cells))(hl:aB.length=cells.length)(hc:∀(i:Nat) (c c':CV),cells[i]?=some c->aB[i]?=some c'->ShV k σ.length c c'):
 ∃M',Ext M w M' w/\Rel C M' ((σ.set k .dead++[ob]).set q (.boxT none aB)) w:=by
 obtain⟨p,aG⟩:∃p,M.pl[k]?=some p:=⟨M.pl[k]'(by rw[hr.len];exact(n_2.1 hk).1),U⟩;obtain⟨h6,h7⟩:=hr.shift hk aG;have bW:(σ.set k .dead++[ob])[q]?=some (.boxT none cells):=by
  have af:q<σ.length:=(n_2.1 hq).1;rw[T7 (D af),a0S (Ne.symm hqk)];exact hq
 have bB:(M.pl++[p])[k]?=some p:=by rw[T7 (n_2.1 aG).1];exact aG
 have bd:(M.pl++[p])[σ.length]?=some p:=by rw[<- hr.len];simp
 refine⟨_,h7,h6.recell bW hl (λi c c' g1 g2=>?_)⟩
 rcases hc i c c' g1 g2 with rfl|⟨o,n,rfl,rfl⟩|⟨l,nn,rfl,rfl⟩
 .exact ⟨O,λv hv=>hv⟩
 .refine ⟨O,λv hv=>?_⟩;cases hv with
  |vec u1 u2 u3 u4=>
   have u1':(M.pl++[p])[k]?=some _:=u1;rw[bB]at u1';injection u1' with u1';subst u1'
   exact .vec (p:=p) bd u2 u3 u4
 .refine ⟨O,λv hv=>?_⟩;cases hv with
  |list x g1 g2 g3 g4 g5 g6 g7 g8 g9 g10=>
   refine .list x g1 g2 g3 g4 g5 g6 g7 g8 g9 λj hj=>?_;injection hj with hj;subst hj
   obtain⟨c0,u1,u2,u3,u4⟩:=g10 k O;have u1':(M.pl++[p])[k]?=some _:=u1;rw[bB]at u1';injection u1' with u1';subst u1'
   exact⟨c0,bd,u2,u3,u4⟩
section
variable{E:Env}{o:Oper}
theorem b7v{off len:Nat}{ti:TypeInfo}(ho:o.op = .call {callee:=.builtin .append,args:=#[x,y],argTypes:=#[t,t]})(hx:E.valid x)(hy:E.valid y)(ex:E.val C x= .vec k off len)
 (aJ:∀M w v,Rel C M σ w->RV M w (E.val C y) v->Src C M w new s v)(hu:∀w,(underlying t).run C.P w= .ok (.slice e) w)(hs:∀w,(sizeOf e).run C.P w= .ok s w)(ca:∀w,(typeInfo e).run C.P w= .ok ti w)(hz:∀w,(zeroValue e).run C.P w= .ok z w)(bn:z.cells.size=s)
 (aC:σ[k]?=some (.vec s Y))(hln:off+len=Y.length)(bC:new≠[])(hb:(len+new.length)*ti.bytes<=140737488355328)(aQ:len+new.length<=9223372036854775807)
 (hk:∀j,j=0\/j=off->K (.ret (.vec σ.length (off-j) (len+new.length))) (σ.set k .dead++[.vec s (Y.drop j++new)])):G5 C σ E o K:=λM w ρ hr hh=>by
 have h1:=hh x H0 hx;have h2:=hh y H0 hy;rw[ex]at h1;have hnl:0<new.length:=a6M.2 bC;have aj:=(aJ M w _ hr h2).lenOf;have bb:(execOp ρ o).run C.P w=((Builtin.append_ #[t,t] o.type #[ρ x,ρ y]).run C.P w).andThen λv w=>.ok (.value v) w:=by
  simp[execOp,ho,resolve,invoke,builtin]
 generalize hv:ρ x=v at h1;cases h1 with
 |vec hp g1 g2 g3=>
  rename_i p a;have dQ:=(hr.obj k p _ hp aC).1;have bj:Y.length<=p.cap:=dQ.2.1;have cj:p.size=s:=dQ.1;subst cj;by_cases cq:len+new.length<=p.cap -off
  .obtain ⟨an,cn,hvn,_,bY,arr,ci,aR,bg⟩:=aJ M w _ hr h2;obtain⟨w',aF,ay,bl⟩:=a3T hr hp aC (p:=off+len) (new:=new) G G bY aR bg;have ha:=g3 G;have bI:=Y9 (P:=C.P) (ty:=o.type) (b:=p.block) (off:=off*p.size) (n:=len) (m:=new.length) (c:=p.cap -off) hu (.inl hu) hs aj ci cq (by rw[<- Q1];exact aF);rw[<- ha]at bI;rw[bb,hv,bI];simp only[Result.andThen_ok];have ah:J7 Y (off+len) new=Y++new:=by rw[hln];simp[J7]
   rw[ah]at bl;have bm:k<σ.length:=(n_2.1 aC).1;have cc:(σ.set k (.vec p.size (Y++new)))[k]?=some (.vec p.size (Y++new)):=by rw[b0e bm]
   obtain⟨aW,aE⟩:=bl.shift cc hp;rw[List.set_set]at aW;have hk3:=hk 0 (.inl O);rw[b0k,Nat.sub_zero]at hk3;refine⟨_,_,_,ay.trans aE,aW,?_,hk3⟩;exact RV.vec (p:=p) (a:=a) (by simp[<- hr.len]) G g2 g3
  .obtain ⟨dB,gc⟩:=hr.drewN;have ez:RV M w.drew (.vec k off len) (.slice (some a) len (p.cap -off)):=.vec hp g1 g2 g3;have dq:=a3W dB ez aC (b6T hln);have dT:(Y.drop off).length=len:=by simp;omega
   rw[U2 (b6T dT)]at dq;obtain⟨a1,c1,dX,_,ba,old,hfo,cE,dF⟩:=dq;obtain⟨an,cn,hvn,_,bY,arr,ci,aR,bg⟩:=aJ M w.drew _ dB (a4c h2);rw[dT]at hfo cE;obtain⟨c',cz,dM,au⟩:=S3 (P:=C.P) (ty:=o.type) (a:=some a) (c:=p.cap -off) (w:=w) hu (.inl hu) hs ca hz aj hfo ci G aQ hb;rw[bb,hv,au];simp only[Result.andThen_ok];have fg:w.drew.heap.size=w.heap.size:=O;rw[<- fg];have hrk:=dB.dead k;have dr:(old++arr++Builtin.zeroCells z.cells (c'- (len+new.length))).size=c'*p.size:=by
    simp only[b3L,R5,cE,aR,bn];rw[<- Q1,<- Q1]
    congr 1;omega
   have aE:=Ext.alloc hrk ⟨w.drew.heap.size,c',p.size⟩ (.cells (old++arr++Builtin.zeroCells z.cells (c'- (len+new.length))) e);have bT:∀r∈Y.drop off++new,r.length=p.size:=λr hr=>by
    rcases T9.1 hr with h|h
    .exact ba r h
    .exact bY r h
   have aq:=a1m (rest:=Builtin.zeroCells z.cells (c'- (len+new.length))) (by rw[dT];exact cE) aR ba bY (λi j r c hi hj=>(dF i j r c hi hj).1) (λi j r c hi hj=>(bg i j r c hi hj).1);have aW:=hrk.alloc ⟨w.drew.heap.size,c',p.size⟩ (.cells (old++arr++Builtin.zeroCells z.cells (c'- (len+new.length))) e) (.vec p.size (Y.drop off++new)) O
    ⟨O,by rw[n_8,dT];exact cz,by unfold maxLen;simp only;omega,bT,λr hr c hc=>(by
     rcases T9.1 hr with h|h
     .obtain ⟨i,hi⟩:=K5.1 h;obtain⟨j,hj⟩:=K5.1 hc;exact(dF i j r c hi hj).2
     .obtain ⟨i,hi⟩:=K5.1 h;obtain⟨j,hj⟩:=K5.1 hc;exact(bg i j r c hi hj).2),_,e,r9 _ _,dr,λi j r c hi hj=>((aq i j r c hi hj).2.mono aE)⟩
   have hk3:=hk off (.inr O);rw[b9b]at hk3;refine⟨.vec σ.length 0 (len+new.length),_,_,gc.trans aE,aW,?_,hk3⟩;exact RV.vec (M:=M.add ⟨w.drew.heap.size,c',p.size⟩) (k:=σ.length) (off:=0) (len:=len+new.length) (p:=⟨w.drew.heap.size,c',p.size⟩) (a:=⟨w.drew.heap.size,0,none⟩) a7w (D cz) b9L (λ_=>by simp)
def vcO(Y:List (List CV))(q:Nat):CV:=match Y with
 | []=>.list [] false none
 |_::_=>.vec q 0 Y.length
def obO(s:Nat)(Y:List (List CV)):b9:=match Y with
 | []=>.dead
 |_::_=>.vec s Y
theorem b5e(h:Y≠[])(q:Nat):vcO Y q= .vec q 0 Y.length:=by cases Y;exact absurd O h;rfl
theorem c2d(h:Y≠[])(s:Nat):obO s Y= .vec s Y:=by cases Y;exact absurd O h;rfl
theorem a1W{α:Type}{l:List α}{x:α}(h:l[q]?=some x):l.set q x=l:=by
 obtain⟨h1,rfl⟩:=n_2.1 h;exact List.set_getElem_self h1
theorem c7Z{ti:TypeInfo}(rows':List (List CV))(ho:o.op = .call {callee:=.builtin .append,args:=#[x,y],argTypes:=#[t,t]})(hx:E.valid x)(hy:E.valid y)(ex:E.val C x=vcO Y q)
 (aJ:∀M w v,Rel C M σ w->RV M w (E.val C y) v->Src C M w new s v)(hu:∀w,(underlying t).run C.P w= .ok (.slice e) w)(hs:∀w,(sizeOf e).run C.P w= .ok s w)(ca:∀w,(typeInfo e).run C.P w= .ok ti w)(hz:∀w,(zeroValue e).run C.P w= .ok z w)(bn:z.cells.size=s)
 (aC:σ[q]?=some (obO s Y))(bC:new≠[])(hb:(Y.length+new.length)*ti.bytes<=140737488355328)(aQ:Y.length+new.length<=9223372036854775807)(he:Y++new=rows')
 (hk:K (.ret (vcO rows' σ.length)) (σ.set q .dead++[obO s rows'])):G5 C σ E o K:=by
 subst he;have ax:Y++new≠[]:=by simp[bC]
 rw[b5e ax,c2d ax]at hk;cases Y with
 |nil=>
  refine b5a new.length ho hx hy ex aJ hu hs ca hz bn (a6M.2 bC) (D hb) (D aQ) O ?_;rw[show(([]:List (List CV))++new)=new from O,a1W (show σ[q]?=some .dead from aC)]at hk;exact hk
 |cons r Y=>
  refine b1u ho hx hy ex aJ hu hs ca hz bn aC bC hb aQ ?_;rw[n_8]at hk;exact hk
end
def Mv(C:Ctx)(σ aa:List b9):Prop:=∀M w,Rel C M σ w->∃M',Ext M w M' w/\Rel C M' aa w
theorem Mv.refl(σ:List b9):Mv C σ σ:=λM w hr=>⟨M,Ext.refl M w,hr⟩
theorem Mv.trans{aa bv:List b9}(h:Mv C σ aa)(k:Mv C aa bv):Mv C σ bv:=λM w hr=>by
 obtain⟨M1,h1,h2⟩:=h M w hr;obtain⟨M2,h3,h4⟩:=k M1 w h2;exact⟨M2,h1.trans h3,h4⟩
theorem Mv.box(k q:Nat){ob:b9}(aB:List CV){aa:List b9}(hk:σ[k]?=some ob)(hqk:q≠k)(hq:σ[q]?=some (.boxT none cells))(hl:aB.length=cells.length)(hc:∀(i:Nat) (c c':CV),cells[i]?=some c->aB[i]?=some c'->ShV k σ.length c c')(he:(σ.set k .dead++[ob]).set q (.boxT none aB)=aa):Mv C σ aa:=λM w hr=>by
 subst he;obtain⟨M1,h1,h2⟩:=hr.moveB hk hqk hq hl hc;exact⟨M1,h1,h2⟩
theorem a5M{Jh:A7->Env->List b9->Prop}{E:Env}{σ1:List b9}{α:Type}{c:Code}(hC:C.plain)(L:Nat)(hL:Nat.beq L σ.length=true)(hm:Mv C σ σ1)(l:α->List (Nat×CV))(S:α->List b9)(Jd:α->Prop)(m:α->Nat)(h0:a6B L l S Jd E σ1)
 (round:∀(a:α),Jd a->CWp C n c (A7.next (a6B L l S λa'=>m a'<m a/\Jd a') Jh) (Env.only (l a)) (S a)):CWp C n (.loop c) Jh E σ:=λM w a hr hf=>by
 intro b k0 cs;have hL:=a3H hL;have key:∀d (x:α) M1 w1 a1,m x=d->Jd x->Ext M w M1 w1->Rel C M1 (S x) w1->I3 M1 w1 n (Env.only (l x)) a1 ->
  ∃e a' w',Q8 C n Jh M w e a' w'/\Arrives C.P (lone (b.at a1 (.code c::.inLoop c::k0)) cs w1) b k0 cs e a' w':=by
  intro d
  induction d using Nat.strongRecOn with
  |_ d ih=>
   intro x M1 w1 a1 hd hI hx aI di;obtain⟨e,a2,w2,hq,aw⟩:=round x hI M1 w1 a1 aI di b (.inLoop c::k0) cs;obtain⟨E',aa,M',h1,h2,h3,h4⟩:=hq;cases e with
   |normal=>
    obtain⟨x',ak,⟨af,ij⟩,⟨g1,g2⟩,hE',hS⟩:=h4;have ay:=hx.trans h1;have eB:L<=M'.pl.length:=by
     obtain⟨l,hl⟩:=ay.pl;rw[hl];simp;rw[hr.len,hL];omega
    obtain⟨dj,dl,dm,bM,aP⟩:=ih (m x') G x' _ w2 a2 O ij (ay.ren g1 (by rw[hr.len,hL])) (h2.ren hC g1 g2 eB hS) (h3.onlyR g1 eB hE');exact⟨dj,dl,dm,bM,.of_steps (Steps.trans aw (.one step_inLoop)) aP⟩
   |outgrown=>exact h4.elim
   |_=>exact⟨_,a2,w2,⟨E',aa,M',hx.trans h1,h2,h3,h4⟩,.pass (x:=.inLoop c) O (λ_ _=>.inl U) aw⟩
 obtain⟨x,ak,hP,⟨g1,g2⟩,hE,hS⟩:=h0;obtain⟨M1,h2,h1⟩:=hm M w hr;have eB:L<=M1.pl.length:=by obtain⟨l,hl⟩:=h2.pl;rw[hl,n_8,hr.len,hL];omega
 obtain⟨e,a',w',hq,aw⟩:=key _ x _ w a O hP (h2.ren g1 (by rw[hr.len,hL])) (h1.ren hC g1 g2 eB hS) ((hf.mono h2).onlyR g1 eB hE);exact⟨e,a',w',hq,.of_steps (.one step_loop) aw⟩
theorem a1o{L j:Nat}{ak:List Nat}(l:List (List CV))(h:ak[j]?=some k):C3 L ak (vcO l k) (vcO l j):=by
 cases l with
 |nil=>exact .old (p9.list λr hr=>by cases hr).old
 |cons x l=>exact .vec h
theorem b5z{l:List (List CV)}(h:∀r∈l,∀c∈r,p9 c):F7 n (obO s l):=by
 cases l with
 |nil=>exact J
 |cons x l=>exact λr hr c hc=>(h r hr c hc).old
theorem d6w{l:List (List CV)}(hp:∀r∈l,∀c∈r,p9 c)(hk:n<=k)(hs:σ[k]?=some (obO s l)):Cls n σ (vcO l k) (.list l (gnn l.length) none):=by
 cases l with
 |nil=>exact .old (p9.list λr hr=>by cases hr).old
 |cons x l=>exact .vecs hk hs U U hp
section
variable{E:Env}{o:Oper}
def c4M(C:Ctx)(c:CV)(cargs:List CV)(σ:List b9)(r:CV):Prop:=
 (∃f,c= .val (.func (.func f) #[] #[])/\(∀args w,(callFunc f args).run C.P w= .ok (.enter f args) w)/\b8 C f cargs σ λr' aa=>r'= .ret r/\aa=σ) \/
 ∃f caps,c= .clo f caps/\(∀args w,(callFunc f args).run C.P w= .ok (.enter f args) w)/\b8 C f (cargs++caps) σ λr' aa=>r'= .ret r/\aa=σ
theorem c62{cx:Operand}{xs:Array Operand}{ts:Array TypeId}{cargs:List CV}{c r:CV}(ho:o.op = .call {callee:=.value cx,args:=xs,argTypes:=ts})(hc:E.valid cx)(ec:E.val C cx=c)(hv:E.valids xs.toList)(h:c4M C c cargs σ r)(ea:E.vals C xs.toList=cargs):l8 C σ E o r:=by
 rcases h with⟨f,h1,h2,h3⟩|⟨f,caps,h1,h2,h3⟩
 .exact d6F ho hc (ec.trans h1) h2 (Env.valids_mem hv) (Env.vals_map _) (ea▸h3)
 .exact a8O ho hc (ec.trans h1) h2 hv h3 ea
end
section
variable{E:Env}{o:Oper}
theorem c4E{v1 v2 v3 z1 z2 z3:Value}(ho:o.op = .buildSlice t 1 #[(0,x)])(hx:E.valid x)(ex:E.val C x= .agg [.val v1,.val v2,.val v3])(hv:v1.oneCell'=true/\v2.oneCell'=true/\v3.oneCell'=true)(hu:∀w,(underlying t).run C.P w= .ok (.slice e) w)(hs:∀w,(sizeOf e).run C.P w= .ok 3 w)(hz:∀w,(zeroValue e).run C.P w= .ok (.agg #[z1,z2,z3]) w)
 (hk:K (.ret (.list [[.val v1,.val v2,.val v3]] true (some σ.length))) (σ++[.tip 1])):G5 C σ E o K:=λM w ρ hr hh=>by
 have h1:=a1n (l:=[v1,v2,v3]) (ex▸hh x u0 hx);have au:(execOp ρ o).run C.P w= .ok (.value (.slice (some ⟨w.heap.size,0,none⟩) 1 1)) (w.alloc (.cells #[v1,v2,v3] e)):=by
  have er:Array.range 3= #[0,1,2]:=O;simp only[execOp,ho,Instr.buildSlice,Sem.run_bind,hu,Result.andThen_ok,hs];simp[er,Instr.fill,newRow,h1,Value.cells,hz]
 rw[au];have aE:=Ext.alloc hr ⟨w.heap.size,1,3⟩ (.cells #[v1,v2,v3] e);have aW:=hr.alloc ⟨w.heap.size,1,3⟩ (.cells #[v1,v2,v3] e) (.tip 1) O ⟨n_6 _,by unfold maxLen;simp,⟨λo ho=>by
  have:=hr.blk w.heap.size o (.inr ho);omega,λh=>by cases h⟩,#[v1,v2,v3],e,r9 _ _,O⟩
 have hp:(M.add ⟨w.heap.size,1,3⟩).pl[σ.length]?=some ⟨w.heap.size,1,3⟩:=by simp[z8.add,<- hr.len]
 obtain⟨fD,eA⟩:=aW.settleCells hp (by simp:(σ++[b9.tip 1])[σ.length]?=some (.tipT none 1));refine⟨_,_,_,aE.trans fD,eA,?_,hk⟩;have hc:∀j v,j<3->#[v1,v2,v3][j]?=some v->(w.alloc (.cells #[v1,v2,v3] e)).cell? ⟨w.heap.size,j,none⟩=some v:=λj v _ hv=>by
  show(match(w.alloc (.cells #[v1,v2,v3] e)).heap[w.heap.size]? with|some (.cells c _ _)=>c[j]? |_=>none)=some v;rw[r9];exact hv
 refine RV.list (Y:=[[.val v1,.val v2,.val v3]]) (b:=w.heap.size) (off:=0) (s:=3) (λ_ j=>#[v1,v2,v3].getD j undef) (n_6 _) (by unfold maxLen;simp) O (λh=>by cases h) Y1 (λr hr=>by simp at hr;subst hr;rfl) (λr hr c hc=>by
  simp at hr;subst hr;simp at hc
  rcases hc with rfl|rfl|rfl
  .exact hv.1
  .exact hv.2.1
  .exact hv.2.2) (λi j r c hi hj=>?_) (λi j r c hi hj=>?_) (λk hk=>?_)
 .rcases i with _|i
  .injection hi with hi
   subst hi
   rcases j with _|_|_|j
   .exact ⟨.inr (.inr ⟨O,U⟩),hc 0 _ G O⟩
   .exact ⟨.inr (.inr ⟨O,U⟩),hc 1 _ G O⟩
   .exact ⟨.inr (.inr ⟨O,U⟩),hc 2 _ G O⟩
   .simp at hj
  .simp at hi
 .rcases i with _|i
  .injection hi with hi
   subst hi
   rcases j with _|_|_|j
   .injection hj with hj;subst hj;exact .val _
   .injection hj with hj;subst hj;exact .val _
   .injection hj with hj;subst hj;exact .val _
   .simp at hj
  .simp at hi
 .injection hk with hk
  subst hk;exact⟨3,hp,O,O,λ_=>O⟩
end
theorem c7y{args:List CV}{K':R8->List b9->Prop}(h:b8 C f args σ K)(hk:∀r τ,K r τ->∃dZ,Mv C τ dZ/\K' r dZ):b8 C f args σ K':=λM w vs hr hs ha=>(h M w vs hr hs ha).mono λr w' hh=>by
 cases r with
 |returned v=>
  obtain⟨c,aa,M',h1,h2,h3,h4⟩:=hh;obtain⟨dZ,h5,h6⟩:=hk _ _ h4;obtain⟨M2,h7,h8⟩:=h5 M' w' h2;exact⟨c,dZ,M2,h1.trans h7,h8,h3.mono h7,h6⟩
 |panicked ch=>
  obtain⟨c,u,aa,M',h0,h1,h2,h3,h4⟩:=hh;obtain⟨dZ,h5,h6⟩:=hk _ _ h4;obtain⟨M2,h7,h8⟩:=h5 M' w' h2;exact⟨c,u,dZ,M2,h0,h1.trans h7,h8,h3.mono h7,h6⟩
 |outgrown=>exact hh
section
variable{E:Env}{o:Oper}
theorem e0h{off len:Nat}{wv:CV}{ti:TypeInfo}(rows':Nat->List (List CV))(iD:Nat->Nat)(n':Nat)(ho:o.op = .call {callee:=.builtin .append,args:=#[x,y],argTypes:=#[t,t]})(hx:E.valid x)(hy:E.valid y)(ex:E.val C x=wv)
 (aJ:∀M w v,Rel C M σ w->RV M w (E.val C y) v->Src C M w new s v)(hu:∀w,(underlying t).run C.P w= .ok (.slice e) w)(hs:∀w,(sizeOf e).run C.P w= .ok s w)(ca:∀w,(typeInfo e).run C.P w= .ok ti w)(hz:∀w,(zeroValue e).run C.P w= .ok z w)(bn:z.cells.size=s)
 (aC:(wv= .list [] false none/\Y=[]/\off=0/\len=0/\σ[k]?=some .dead)\/(wv= .vec k off len/\σ[k]?=some (.vec s Y)/\off+len=Y.length))(bC:new≠[])(hb:(len+new.length)*ti.bytes<=140737488355328)(aQ:len+new.length<=9223372036854775807)
 (he:∀j,j=0\/j=off->Y.drop j++new=rows' j/\off-j=iD j)(hn:len+new.length=n')
 (hk:∀j,j=0\/j=off->K (.ret (.vec σ.length (iD j) n')) (σ.set k .dead++[.vec s (rows' j)])):G5 C σ E o K:=by
 subst hn
 rcases aC with⟨rfl,rfl,rfl,rfl,hd⟩|⟨rfl,ao,hl⟩
 .refine b5a _ ho hx hy ex aJ hu hs ca hz bn (a6M.2 bC) (D hb) (D aQ) O ?_;have h:=hk 0 (.inl O);rw[<- (he 0 (.inl O)).1,<- (he 0 (.inl O)).2,a1W hd]at h;simpa using h
 .refine b7v ho hx hy ex aJ hu hs ca hz bn ao hl bC hb aQ λj hj=>?_;have h:=hk j hj;rwa[<- (he j hj).1,<- (he j hj).2]at h
end
theorem c1Q{args args':List CV}(h:b8 C f args σ K)(hl:args'.length=args.length)(ha:∀(i:Nat) (c c':CV),args[i]?=some c->args'[i]?=some c'->∀(M:z8) (w:World) (v:Value),RV M w c' v->RV M w c v):b8 C f args' σ K:=λM w vs hr hn hx=>
 h M w vs hr (hn.trans hl) λi c hi=>by
  obtain⟨c',bx⟩:∃c',args'[i]?=some c':=⟨_,a1r (by have:=(n_2.1 hi).1;omega)⟩;exact ha i c c' hi bx M w _ (hx i c' bx)
theorem e1T{g:FuncId}{v:Value}(h:RV M w (.val (.func (.func g) #[] #[])) v):RV M w (.clo g []) v:=by
 cases h with
 |val=>exact .clo O λi c hi=>by cases hi
theorem b2O{g:FuncId}{a:CV}(h:b8 C f [a,.clo g []] σ K):b8 C f [a,.val (.func (.func g) #[] #[])] σ K:=
 c1Q h O λi c c' g1 g2 M w v hv=>by
  rcases i with _|_|i
  .injection g1 with g1;injection g2 with g2;subst g1 g2;exact hv
  .injection g1 with g1;injection g2 with g2;subst g1 g2;exact e1T hv
  .cases g1
end Go.Cl
namespace Go.Proofs
open Go.Shelf
theorem strs_none{P:Program}{ρ:Ren}(L:Lays.n190 P ρ)(p:Option Addr)(cap:Nat)(w:World):Calls P (ρ.f 190) #[.slice p 0 cap] w λe w'=>e= .returned (.tuple #[])/\w'=w:=Any.slices_Sort_string_none L p cap w
end Go.Proofs
namespace Go.Cl
variable{K:Env->List (List b9->Prop)->Prop}{E:Env}
section
variable{C:Ctx}{σ:List b9}{ab:Array Oper}
def a8J(C:Ctx)(σ:List b9)(ab:Array Oper)(K:Env->List (List b9->Prop)->Prop):List Nat->Env->List (List b9->Prop)->Prop
 | [],E,S=>K E S.reverse
 |i::l,E,S=>∃o c g,ab[i]?=some o/\J1 C σ ab o E c g/\a8J C σ ab K l (E.put o.dst c g) ((λaa=>J1 C aa ab o E c g)::S)
theorem c2C{K:Env->List (List b9->Prop)->Prop}:∀{l:List Nat} {E:Env} {S:List (List b9->Prop)},a8J C σ ab K l E S->a0V C σ ab K l E S.reverse
 | [],_,_,h=>h
 |_::_,_,_,⟨o,c,g,h1,h2,h3⟩=>⟨o,c,g,h1,h2,by have:=c2C h3;rwa[List.reverse_cons]at this⟩
theorem c8e{l:List Nat}(h:a8J C σ ab K l E []):a0V C σ ab K l E []:=c2C h
theorem c4z{S:List (List b9->Prop)}(h:K E S.reverse):a8J C σ ab K [] E S:=h
theorem chr{i:Nat}{l:List Nat}{S:List (List b9->Prop)}{o:Oper}{c:CV}{g:Prop}(ho:ab[i]?=some o)(bi:J1 C σ ab o E c g)(h:a8J C σ ab K l (E.put o.dst c g) ((λaa=>J1 C aa ab o E c g)::S)):a8J C σ ab K (i::l) E S:=
 ⟨o,c,g,ho,bi,h⟩
end
end Go.Cl
