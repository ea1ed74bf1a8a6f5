/- Part 2 of what the claim needs: values without addresses, and what the program's functions do with them. -/
import Derived.Lib.Bytealg
import Derived.Recover
import Derived.Lib.Builder
import Derived.Lib.UnsafeStr
import Derived.Sort.Grow
import Derived.Deep.Draws
import Derived.Lib.LaidTab
import Derived.Lib.MakeNoZero
import Derived.Shelf.Lays
import Derived.Sort.AssemblyPlain
import Derived.Sort.EveryDepth
import Derived.Shelf.Sort.WalkASIn
import Derived.Shelf.Sort.Walk7sIn
import Derived.Shelf.Sort.Walk11sIn
import Derived.Shelf.Sort.WalkC5sIn
import Derived.Shelf.Sort.WalkC4sIn
import Derived.Shelf.Sort.WalkB3sIn
import Derived.Shelf.Sort.Walk13sIn
import Derived.Shelf.Sort.WalkTopsIn
import Derived.Shelf.Sort.So_math_bits_LenInS
import Derived.Shelf.RegionOpen
import Derived.Shelf.AbstractIn
import Derived.Shelf.SlSortCmp.NoneTotal
import Derived.Test.YtlppbmfecjabeaaGreatDoorProg
import Derived.Test.YtlppbmfecjabeaaGreatDoorG1
set_option linter.all false
set_option maxRecDepth 100000
set_option maxHeartbeats 4000000
namespace Go.Cl
variable{t e t' et src dst kt:TypeId}{x y m kx:Operand}{K:V7->List b9->Prop}{C:Ctx}{f:FuncId}{w:World}{c c':CV}{α β:Type}{args args' cells ax:List CV}{M:B2}{σ obs:List b9}{R R':Nat->Nat->Prop}{k q off i n s id:Nat}{P:Program}{p:Pl}{a:α}{z v:Value}{E:Env}{ob b:b9}{ae:Array Oper}{o:Oper}{Jk:D3->Env->List b9->Prop}{Y:List (List CV)}{qs fl:List Nat}{S:List (List b9->Prop)}{res:α->V7}{xs:Array Operand}{ts:Array TypeId}
section
theorem e0V(ho:o.op = .buildSlice t 0 #[])(hu:∀w,(underlying t).run C.P w= .ok (.slice e) w)(hs:∀w,(sizeOf e).run C.P w= .ok s w)
 (hk:∀a,K (.ret (.val (.slice (some a) 0 0))) σ):H4 C σ E o K:=λM w ρ hr _=>by
 obtain⟨hx,eX⟩:=hr.allocFull (.cells #[] e);have av:(execOp ρ o).run C.P w= .ok (.value (.slice (some ⟨w.heap.size,0,none⟩) 0 0)) (w.alloc (.cells #[] e)):=by
  have er:Array.range 0= #[]:=J;simp only[execOp,ho,Instr.buildSlice,Sem.run_bind,hu,Result.andThen_ok,hs];simp[er,Instr.fill,newRow]
 rw[av];exact⟨_,σ,_,hx,eX,.val _,hk _⟩
theorem c5r{nn:Bool}{tok:Option Nat}{b:Bool}(ho:o.op = .binOp .eql t x (.const (.slice none 0 0)) t')(hx:E.valid x)(ex:E.val C x= .list Y nn tok)(hu:∀w,(underlying t).run C.P w= .ok (.slice e) w)(hb:(!nn)=b):m0 C σ E o (.val (.bool b)):=
 i8 λM w ρ _ h=>by
  have h1:=h x w8 hx;have h2:=h (.const (.slice none 0 0)) w8 J;rw[ex]at h1;have e2:ρ (.const (.slice none 0 0))= .slice none 0 0:=by
   have h2:RV M w (.list [] false none) (ρ (.const (.slice none 0 0))):=h2;obtain⟨a,cap,b',off,s,vals,hv,-,-,dV,dz,-,-,-,-,-,-⟩:=h2.list_inv;cases a with
   |none=>rw[hv,dz J];rfl
   |some a=>simp at dV
  obtain⟨a,cap,b',off,s,vals,hv,-,-,dV,-,-,-,-,-,-,-⟩:=h1.list_inv;refine⟨.bool b,?_,.val _⟩;subst hb;cases a with
  |none=>
   have:nn=false:=I dV.symm;subst this;have heq:∀d,(Op.equalIn (d+1) t (.slice none Y.length cap) (.slice none 0 0)).run C.P w= .ok true w:=λd=>by simp[Op.equalIn,hu]
   have he:(Op.equal t (.slice none Y.length cap) (.slice none 0 0)).run C.P w= .ok true w:=heq 9999;simp[execOp,ho,hv,e2,eqGuard,binOp,he]
  |some a=>
   have:nn=true:=I dV.symm;subst this;have heq:∀d,(Op.equalIn (d+1) t (.slice (some a) Y.length cap) (.slice none 0 0)).run C.P w= .ok false w:=λd=>by simp[Op.equalIn,hu]
   have he:(Op.equal t (.slice (some a) Y.length cap) (.slice none 0 0)).run C.P w= .ok false w:=heq 9999;simp[execOp,ho,hv,e2,eqGuard,binOp,he]
theorem d6x{a:Addr}{new:List (List CV)}{ti:TypeInfo}(m':Nat)(ho:o.op = .call {callee:=.builtin .append,args:=#[x,y],argTypes:=#[t,t]})(hx:E.valid x)(hy:E.valid y)(ex:E.val C x= .val (.slice (some a) 0 0))
 (aT:∀M w v,Rel C M σ w->RV M w (E.val C y) v->Src C M w new s v)(hu:∀w,(underlying t).run C.P w= .ok (.slice e) w)(hs:∀w,(sizeOf e).run C.P w= .ok s w)(df:∀w,(typeInfo e).run C.P w= .ok ti w)(hz:∀w,(zeroValue e).run C.P w= .ok z w)(bL:z.cells.size=s)
 (dg:0<new.length)(hb:new.length*ti.bytes<=140737488355328)(bk:new.length<=9223372036854775807)(hm:new.length=m')
 (hk:K (.ret (.vec σ.length 0 m')) (σ++[.vec s new])):H4 C σ E o K:=λM w ρ hr hh=>by
 subst hm;have h1:=hh x H9 hx;have h2:=hh y H9 hy;rw[ex]at h1;have hv:=r4 h1;have ak:=(aT M w _ hr h2).lenOf;have bG:(execOp ρ o).run C.P w=((Builtin.append_ #[t,t] o.type #[ρ x,ρ y]).run C.P w).andThen λv w=>.ok (.value v) w:=by
  simp[execOp,ho,resolve,invoke,builtin]
 obtain⟨dX,gQ⟩:=hr.drewN;have hL:RV M w.drew (.list [] true none) (.slice (some a) 0 0):=.list (Y:=[]) (b:=0) (off:=0) (s:=s) (λ_ _=>undef) (n_7 _) (n_4 _) J (λh=>by cases h) (λh=>by simp at h) (λr hr=>by simp at hr) (λr hr=>by simp at hr) (λi j r c hi=>by simp at hi) (λi j r c hi=>by simp at hi) (λk hk=>by cases hk);have ez:=a1s (C:=C) (s:=s) hL (λr hr=>by simp at hr);obtain⟨a1,c1,eu,_,bi,old,hfo,dM,fa⟩:=ez;obtain⟨an,cn,hvn,_,cj,arr,ck,aW,bq⟩:=aT M w.drew _ dX (a6p h2);obtain⟨c',bW,cr,av⟩:=Y8 (P:=C.P) (ty:=o.type) (a:=some a) (c:=0) (w:=w) (n:=([]:List (List CV)).length) (m:=new.length) hu (.inl hu) hs df hz ak hfo ck K5 (I bk) (I hb);rw[bG,hv];change b2s _ _ _ ((Sem.run C.P (Builtin.append_ #[t,t] o.type #[Value.slice (some a) ([]:List (List CV)).length 0,ρ y]) w).andThen _);rw[av];simp only[Result.andThen_ok];have fZ:w.drew.heap.size=w.heap.size:=J;rw[<- fZ];have dN:(old++arr++Builtin.zeroCells z.cells (c'- (([]:List (List CV)).length+new.length))).size=c'*s:=by
  simp only[b8u,X4,dM,aW,bL];rw[<- R4,<- R4]
  congr 1;omega
 have aM:=Ext.alloc dX ⟨w.drew.heap.size,c',s⟩ (.cells (old++arr++Builtin.zeroCells z.cells (c'- (([]:List (List CV)).length+new.length))) e);have aq:=a24 (rest:=Builtin.zeroCells z.cells (c'- (([]:List (List CV)).length+new.length))) dM aW bi cj (λi j r c hi hj=>(fa i j r c hi hj).1) (λi j r c hi hj=>(bq i j r c hi hj).1);have aX:=dX.alloc ⟨w.drew.heap.size,c',s⟩ (.cells (old++arr++Builtin.zeroCells z.cells (c'- (([]:List (List CV)).length+new.length))) e) (.vec s ([]++new)) J
  ⟨J,I bW,by unfold maxLen;simp only;omega,I cj,λr hr c hc=>(by
   obtain⟨i,hi⟩:=N0.1 (by simpa using hr:r∈new);obtain⟨j,hj⟩:=N0.1 hc;exact(bq i j r c hi hj).2),_,e,B3 _ _,dN,λi j r c hi hj=>((aq i j r c hi hj).2.mono aM)⟩
 refine⟨.vec σ.length 0 new.length,_,_,gQ.trans aM,aX,?_,hk⟩;have:=RV.vec (M:=M.add ⟨w.drew.heap.size,c',s⟩) (w:=w.drew.alloc (.cells (old++arr++Builtin.zeroCells z.cells (c'- (([]:List (List CV)).length+new.length))) e)) (k:=σ.length) (off:=0) (len:=new.length) (p:=⟨w.drew.heap.size,c',s⟩) (a:=⟨w.drew.heap.size,0,none⟩) b0n (I bW) (by unfold maxLen;simp only;omega) (λ_=>by simp);simpa using this
end
def b11:b9->Prop
 | .dead=>True
 | .boxT _ cells=>∀c∈cells,r5 c
 |_=>False
theorem b11.rel{M':B2}(aV:∀b o,M.at b o->M'.at b o)(hf:∀b,M'.full b->M.full b)(bO:∀b o,M'.cell b o->M.cell b o)(hp:b11 ob)(h:S8 M w p ob/\a8R M p ob):S8 M' w p ob/\a8R M' p ob:=by
 cases ob with
 |dead=>exact⟨O,O⟩
 |boxT t0 cells=>
  obtain⟨⟨arr,ty,e1,e2,e3,e4⟩,g1,g2⟩:=h;exact⟨⟨arr,ty,e1,e2,e3,λi c hi=>(e4 i c hi).pure (λb o ha=>⟨aV b o ha,J⟩) (hp c (n_2 hi))⟩,λhh=>g1 (hf _ hh),λo hh=>g2 o (bO _ o hh)⟩
 |_=>exact hp.elim
theorem b3W{c:α->CV}{S:α->b9}{P:α->Prop}(hC:C.plain)(ap:∀a∈args,r5 a)(hc:∀a,r5 (c a))(hS:∀a,b11 (S a))(hob:b11 ob)(co:ob.live=true)
 (h:b8 C f (.ptr 0 0::args) [ob] λr aa=>∃a,r= .ret (c a)/\aa=[S a]/\P a)(σ:List b9)(q:Nat)(hq:σ[q]?=some ob):b8 C f (.ptr q 0::args) σ λr aa=>∃a,r= .ret (c a)/\aa=σ.set q (S a)/\P a:=λM w vs hr hn hx=>by
 have ig:q<σ.length:=(n_3.1 hq).1;obtain⟨pq,hpq⟩:∃p,M.pl[q]?=some p:=⟨M.pl[q]'(by rw[hr.len];exact ig),H⟩
 let LB:Nat->Prop:=λb=>∃(k:Nat) (p:Pl) (aL:b9),k≠q/\M.pl[k]?=some p/\σ[k]?=some aL/\aL.live=true/\p.block=b
 let M0:B2:={pl:=[pq],full:=M.full,cell:=M.cell,keep:=λb=>M.keep b\/LB b}
 have aV:∀b o,M.at b o->M0.at b o/\w.cell? ⟨b,o,none⟩=w.cell? ⟨b,o,none⟩:=λb o h=>⟨h,J⟩;have hLB:∀b,LB b->b<w.heap.size:=λb ⟨k,p,aL,_,hp,hs,hl,hb⟩=>hb▸(hr.obj k p aL hp hs).1.lt hl;have h0:∀{k:Nat} {p:Pl},M0.pl[k]?=some p->k=0/\p=pq:=λ{k p} hp=>by
  rcases k with _|k
  .exact ⟨J,(Option.some.inj hp).symm⟩
  .simp [M0]at hp
 have h0o:∀{k:Nat} {x:b9},[ob][k]?=some x->x=ob:=λ{k x} hx=>by
  rcases k with _|k
  .exact (Option.some.inj hx).symm
  .simp at hx
 have bM:Rel C M0 [ob] w:=⟨J,hr.blk,λk p x hp hs=>by
  obtain⟨rfl,rfl⟩:=h0 hp;obtain rfl:=h0o hs;exact hob.rel (M:=M) (M':=M0) (λb o h=>h) (λb h=>h) (λb o h=>h) (hr.obj q p x hpq hq),λk k' p p' x x' hp aI _ _ _ _ _=>by
  rw[(h0 hp).1,(h0 aI).1],λg cells hg=>⟨by
  have:=(hr.glob g cells hg).rv;cases this with
  |cptr vals h1 h2 h3=>exact .cptr vals h1 h2 λj c hj=>(h3 j c hj).pure aV (hC g cells hg c (n_2 hj)),(hr.glob g cells hg).full,(hr.glob g cells hg).sz⟩,
  λb hb=>(by
   rcases hb with hb|hb
   .exact hr.kep b hb
   .exact hLB b hb),λk p x hp hs hl hb=>by
  obtain⟨rfl,rfl⟩:=h0 hp;obtain rfl:=h0o hs
  rcases hb with hb|⟨k,p',aL,hk,aI,aU,bg,hb⟩
  .exact hr.nk q p x hpq hq hl hb
  .exact hk (hr.inj k q p' p aL x aI hpq aU hq bg hl hb)⟩
 refine(h M0 w vs bM (I hn) λi a hi=>?_).mono λe w' he=>?_
 .rcases i with _|i
  .simp at hi;subst hi;have:=hx 0 (.ptr q 0) H;generalize vs.getD 0 undef=v0 at this⊢;cases this with
   |ptr hk=>
    rw[hpq]at hk;injection hk with hk
    subst hk;exact .ptr (M:=M0) (k:=0) J
  .simp at hi;exact(hx (i+1) a (I hi)).pure aV (ap a (n_2 hi))
 cases e with
 |panicked ch=>
  obtain⟨c',v,aa,M',_,_,_,_,⟨a,h5,_⟩⟩:=he;cases h5
 |outgrown=>exact he
 |returned v=>
  obtain⟨c',aa,M',h1,h2,h3,a,h4,rfl,hP⟩:=he;injection h4 with h4
  subst h4;have ba:M'.pl[0]?=some pq:=h1.get (M:=M0) J
  let M2:B2:={pl:=M.pl,full:=M'.full,cell:=M'.cell,keep:=M.keep}
  have aM:Ext M w M2 w':=⟨⟨[],by simp[M2]⟩,h1.full,h1.cell,h1.same,h1.sameC,h1.size,h1.drew,h1.os,h1.tape,h1.output,λb hb=>by
   obtain⟨k1,k2,k3,k4⟩:=h1.kept b (.inl hb);exact⟨hb,k2,k3,k4⟩⟩
  have gL:∀{k:Nat} {x:b9},(σ.set q (S a))[k]?=some x->(k=q/\x=S a)\/(k≠q/\σ[k]?=some x):=λ{k x} hk=>by
   rw[a9z]at hk;split at hk
   .rename_i e;exact .inl ⟨e.symm,(Option.some.inj hk).symm⟩
   .rename_i e;exact .inr ⟨λh=>e h.symm,hk⟩
  have ca:∀{k:Nat} {x:b9},(σ.set q (S a))[k]?=some x->x.live=true->∃y,σ[k]?=some y/\y.live=true:=λ{k x} hk hl=>by
   rcases gL hk with⟨rfl,rfl⟩|⟨_,h⟩
   .exact ⟨ob,hq,co⟩
   .exact ⟨x,h,hl⟩
  refine⟨c a,σ.set q (S a),M2,aM,⟨by simp[M2,hr.len],h2.blk,λk p x hp hs=>?_,λk k' p p' x x' hp aI hs aU hl bg hb=>?_,λg cells hg=>(hr.glob g cells hg).mono aM,λb hb=>a9p (hr.kep b hb) h1.size,λk p x hp hs hl=>?_⟩,h3.pure (M:=M') (M':=M2) (w':=w') (λb o h=>⟨h,J⟩) (hc a),⟨a,J,J,hP⟩⟩
  .rcases gL hs with⟨rfl,rfl⟩|⟨hk,hs⟩
   .have e:p=pq:=by
     have hp:M.pl[k]?=some p:=hp;rw[hpq]at hp;exact(Option.some.inj hp).symm
    subst e;exact(hS a).rel (M:=M') (M':=M2) (λb o h=>h) (λb h=>h) (λb o h=>h) (h2.obj 0 p (S a) ba J)
   .by_cases hl:x.live=true
    .obtain ⟨k1,k2,k3,k4⟩:=h1.kept p.block (.inr ⟨k,p,x,hk,hp,hs,hl,J⟩);obtain⟨g1,g2⟩:=hr.obj k p x hp hs;refine⟨g1.mono aM k2 (λ_ _ _ o ho=>k4 o ho),?_⟩;cases x with
     |dead=>trivial
     |tipT t0 n=>exact λhf=>g2 (k3 hf)
     |_=>exact⟨λhf=>g2.1 (k3 hf),λo ho=>g2.2 o (k4 o ho)⟩
    .cases x<;>first|exact⟨O,O⟩|simp[b9.live]at hl
  .obtain ⟨y,hy,dY⟩:=ca hs hl;obtain⟨y',ip,hyl'⟩:=ca aU bg;exact hr.inj k k' p p' y y' hp aI hy ip dY hyl' hb
  .obtain ⟨y,hy,dY⟩:=ca hs hl;exact hr.nk k p y hp hy dY
theorem c6e{M0:B2}(hr:Rel C M σ w){len:Nat}(hp:M.pl[k]?=some p)(ao:σ[k]?=some (.vec s Y))(aO:off+len<=Y.length)(eJ:∀r∈Y,∀c∈r,r5 c)
 (aV:∀b o,M.at b o->M0.at b o)(hfp:M0.full p.block){v:Value}(hv:RV M w (.vec k off len) v):RV M0 w (.list ((Y.drop off).take len) true none) v:=by
 cases hv with
 |vec aI g1 g2 g3=>
  rename_i p' a;rw[hp]at aI;injection aI with aI
  subst aI;obtain⟨⟨cm,q1,q2,q3,q4,arr,ty,q5,q6,q7⟩,_⟩:=hr.obj k p _ hp ao;have ak:((Y.drop off).take len).length=len:=by simp;omega
  have aq:∀i r,((Y.drop off).take len)[i]?=some r->i<len/\Y[off+i]?=some r:=λi r hi=>by
   rw[a2y]at hi;split at hi
   .rw [a5z]at hi;exact⟨‹_›,hi⟩
   .cases hi
  have ga:(Y.drop off).take len≠[]->off<p.cap:=λay=>by
   have:0< ((Y.drop off).take len).length:=a81.2 ay;omega
  refine RV.list' (L:=len) X (b:=p.block) (off:=off*p.size) (s:=p.size) (λi j=>arr.getD ((off+i)*p.size+j) undef) X X J (λh=>by cases h) (λay=>by rw[g3 (ga ay)]) (λr bp=>?_) (λr bp c bJ=>?_) (λi j r c hi hj=>?_) (λi j r c hi hj=>?_) (λk hk=>by cases hk)
  .obtain ⟨i,hi⟩:=N0.1 bp;exact q3 r (n_2 (aq i r hi).2)
  .obtain ⟨i,hi⟩:=N0.1 bp;exact q4 r (n_2 (aq i r hi).2) c bJ
  .obtain ⟨bm,hri⟩:=aq i r hi;have cc:j<p.size:=by have:=(n_3.1 hj).1;rwa[q3 r (n_2 hri)]at this
   have hq:(off+i)*p.size+j<arr.size:=by
    rw[q6];have:(off+i+1)*p.size<=p.cap*p.size:=R9 _ X;rw[R4 (off+i)]at this;omega
   refine⟨.inl hfp,?_⟩;rw[show off*p.size+i*p.size+j=(off+i)*p.size+j from by rw[R4 off]];simp[World.cell?,q5,hq]
  .obtain ⟨bm,hri⟩:=aq i r hi;exact(q7 _ _ _ _ hri hj).pure (λb o h=>⟨aV b o h,J⟩) (eJ r (n_2 hri) c (n_2 hj))
theorem a60{len:Nat}{v0:Value}(hC:C.plain)(ap:∀a∈args,r5 a)(eJ:∀r∈Y,∀c∈r,r5 c)(aO:off+len<=Y.length)(hk:σ[k]?=some (.vec s Y))
 (h:b8 C f (.list ((Y.drop off).take len) true none::args) [] λr aa=>r= .ret (.val v0)/\aa=[]):b8 C f (.vec k off len::args) σ λr aa=>r= .ret (.val v0)/\aa=σ:=
 λM w vs hr hn hx=>by
  have bD:k<σ.length:=(n_3.1 hk).1;obtain⟨q,hq⟩:∃p,M.pl[k]?=some p:=⟨M.pl[k]'(by rw[hr.len];exact bD),H⟩;obtain⟨hqo,hqf⟩:=hr.obj k q _ hq hk
  let LB:Nat->Prop:=λb=>∃(k:Nat) (p:Pl) (ob:b9),M.pl[k]?=some p/\σ[k]?=some ob/\ob.live=true/\p.block=b
  let M0:B2:={pl:=[],full:=λb=>M.full b\/b=q.block,cell:=M.cell,keep:=λb=>M.keep b\/LB b}
  have aV:∀b o,M.at b o->M0.at b o/\w.cell? ⟨b,o,none⟩=w.cell? ⟨b,o,none⟩:=λb o h=>⟨h.imp .inl id,J⟩;have hLB:∀b,LB b->b<w.heap.size:=λb ⟨k,p,ob,hp,hs,hl,hb⟩=>hb▸(hr.obj k p ob hp hs).1.lt hl;have bM:Rel C M0 [] w:=⟨J,λb o hb=>(by
   rcases hb with(hb|rfl)|hb
   .exact hr.blk b o (.inl hb)
   .exact hqo.lt J
   .exact hr.blk b o (.inr hb)),λk p ob hp=>by simp[M0]at hp,λk k' p p' ob aL hp=>by simp[M0]at hp,λg cells hg=>⟨by
   have:=(hr.glob g cells hg).rv;cases this with
   |cptr vals h1 h2 h3=>exact .cptr vals h1 (λj c hj=>⟨(aV _ _ (h2 j c hj).1).1,(h2 j c hj).2⟩) λj c hj=>(h3 j c hj).pure aV (hC g cells hg c (n_2 hj)),.inl (hr.glob g cells hg).full,(hr.glob g cells hg).sz⟩,
   λb hb=>(by
   rcases hb with hb|hb
   .exact hr.kep b hb
   .exact hLB b hb),λk p ob hp=>by simp[M0]at hp⟩
  refine(h M0 w vs bM hn λi a hi=>?_).mono λe w' he=>?_
  .rcases i with _|i
   .simp at hi;subst hi;exact c6e hr hq hk aO eJ (λb o h=>(aV b o h).1) (.inr J) (hx 0 _ H)
   .exact (hx (i+1) a (I hi)).pure aV (ap a (n_2 (I hi)))
  .cases e with
   |panicked ch=>
    obtain⟨c',v,aa,M',_,_,_,_,⟨h5,_⟩⟩:=he;cases h5
   |outgrown=>exact he
   |returned v=>
    obtain⟨c',aa,M',h1,h2,h3,⟨h4,rfl⟩⟩:=he;injection h4 with h4
    subst h4
    let M2:B2:={pl:=M.pl,full:=λb=>M'.full b/\b≠q.block,cell:=λb o=>M'.cell b o/\b≠q.block,keep:=M.keep}
    have aM:Ext M w M2 w':=⟨⟨[],by simp[M2]⟩,λb hb=>⟨h1.full b (.inl hb),λe=>hqf.1 (e▸hb)⟩,λb o hb=>(h1.cell b o hb).imp (λh=>⟨h,λe=>hqf.2 o (e▸hb)⟩) (λh=>⟨h,λe=>hqf.2 o (e▸hb)⟩),λb hb=>h1.same b (.inl hb),h1.sameC,h1.size,h1.drew,h1.os,h1.tape,h1.output,λb hb=>by
     obtain⟨k1,k2,k3,k4⟩:=h1.kept b (.inl hb);exact⟨hb,k2,λhf=>(k3 hf.1).elim id λe=>absurd e hf.2,λo ho=>k4 o ho.1⟩⟩
    refine⟨.val v0,σ,M2,aM,⟨hr.len,λb o hb=>h2.blk b o (hb.imp (·.1) (·.1)),λk p ob hp hs=>?_,hr.inj,λg cells hg=>(hr.glob g cells hg).mono aM,λb hb=>a9p (hr.kep b hb) h1.size,hr.nk⟩,by rw[r4 h3];exact .val _,J,J⟩;by_cases hl:ob.live=true
    .obtain ⟨k1,k2,k3,k4⟩:=h1.kept p.block (.inr ⟨k,p,ob,hp,hs,hl,J⟩);obtain⟨g1,g2⟩:=hr.obj k p ob hp hs;have k3':M2.full p.block->M.full p.block:=λhf=>(k3 hf.1).elim id λe=>absurd e hf.2;refine⟨g1.mono aM k2 (λ_ _ _ o ho=>k4 o ho.1),?_⟩;cases ob with
     |dead=>trivial
     |tipT t0 n=>exact λhf=>g2 (k3' hf)
     |_=>exact⟨λhf=>g2.1 (k3' hf),λo ho=>g2.2 o (k4 o ho.1)⟩
    .cases ob<;>first|exact⟨O,O⟩|simp[b9.live]at hl
section
end
section
theorem b8b{l:List Oper}{j t:Nat}{au b:Bool}(c0:CV)(hg:o.guard=some (j,au))(ht:(ae[j]?).bind (·.dst)=some t)(hv:E.ok t)(hb:E.f t= .val (.bool b))
 (hd:(match o.dst with|some d=>Nat.blt d n|none=>true)=true)(hy:b=au->H4 C σ E o λr aa=>match r with
  | .ret c=>K4 C n ae Jk l (E.put o.dst c (b=au)) aa
  | .pan c=>Jk (.pan c) E aa)(hn:¬b=au->K4 C n ae Jk l (E.put o.dst c0 (b=au)) σ):K4 C n ae Jk (o::l) E σ:=λM w a hr hf=>by
 have hd1:(match o.dst with|some d=>d<n|none=>True):=by
  cases fz:o.dst with
  |none=>trivial
  |some d=>rw[fz]at hd;simpa[b3L]using hd
 have h1:RV M w (E.f t) (a.tmps.getD t undef):=hf.rv t hv;rw[hb]at h1;have h2:a.tmps.getD t undef= .bool b:=by generalize a.tmps.getD t undef=u at h1;cases h1;rfl
 have aJ:t<a.tmps.size:=by
  rcases a2J t a.tmps.size with h'|h'
  .exact h'
  .simp [b0X h',undef]at h2
 have hw:Region.wanted o (yielded ae a.tmps)=(b == au):=by
  have h3:a.tmps[t]?=some (.bool b):=by
   rw[a0U,a1J aJ]at h2;rw[a1J aJ,<- h2];rfl
  have h4:yielded ae a.tmps j=some b:=by unfold yielded;rw[ht,n_9,h3]
  simp only[Region.wanted,hg,h4];cases b<;>cases au<;>rfl
 have fz:∀t,o.dst=some t->t<n:=λt ht=>by rw[ht]at hd1;exact hd1
 unfold wpList;by_cases cS:b=au
 .rw [F (by rw[hw];simpa using cS)];refine .inl (a4g (hy cS M w a.eval hr λx _ hx=>hf.eval hr hx) (λv w' ha=>?_) (λch w' ha=>?_))
  .obtain ⟨c',aa,M',h1,h2,h3,h4⟩:=ha;exact h4.later h1 h2 ((hf.mono h1).put fz (λ_=>h3) λhh=>absurd cS hh)
  .obtain ⟨c,v,aa,M',h0,h1,h2,h3,h4⟩:=ha;exact⟨E,aa,M',h1,h2,hf.mono h1,c,v,h0,h3,h4⟩
 .rw [D (by rw[hw];simpa using cS)];exact(hn cS).later (Ext.refl M w) hr (hf.put fz (λhh=>absurd hh cS) λ_=>J)
end
section
def X9(C:Ctx)(ae:Array Oper)(qs:List Nat)(Jk:D3->Env->List b9->Prop)(S:List (List b9->Prop)):List (Nat×List Nat)->Env->List b9->Prop
 | [],E,σ=>Jk .normal E σ
 |(i,fl)::l,E,σ=>∃o,ae[i]?=some o/\((qs.contains i=true/\∃c g,(∀aa,M9 C aa ae o E c g)/\X9 C ae qs Jk S l (E.put o.dst c g) σ)\/(qs.contains i=false/\(d9v C ae o E σ (λc g aa=>a2F S aa fl/\X9 C ae qs Jk S l (E.put o.dst c g) aa) (λc aa=>∀E',Jk (.pan c) E' aa)\/c4h C ae o E σ (λc g aa=>a2F S aa fl/\X9 C ae qs Jk S l (E.put o.dst c g) aa) λc aa=>∀E',Jk (.pan c) E' aa)))
def tfB(ms hd fl:List Nat)(i:Nat):Bool:=(List.range hd.length).all λk=>(ms.getD i 0).testBit (hd.getD k 0) ||fl.contains k
theorem d8O{ms:List Nat}{fl:List Nat}{i:Nat}{σ:List b9}:∀{hd:List Nat} {S:List (List b9->Prop)} (k0:Nat) (S0:List (List b9->Prop)),k0=S0.length->(∀k,k<hd.length->(ms.getD i 0).testBit (hd.getD k 0)=true\/(k0+k)∈fl)->a2F (S0++S) σ fl->TF ms hd S i σ
 | [],_,_,_,_,_,_=>trivial
 |_::_,[],_,_,_,_,_=>trivial
 |x::hd,Jh::S,k0,S0,h0,hb,hf=>by
  refine⟨λhbit=>?_,d8O (k0+1) (S0++[Jh]) (by simp[h0]) (λk hk=>?_) (by rw[C7];exact hf)⟩
  .rcases hb 0 (Nat.zero_lt_succ _)with h|h
   .rw [List.getD_cons_zero,hbit]at h;cases h
   .have:=hf.get _ h;rw[h0]at this;simpa[a49]using this
  .have:=hb (k+1) (Nat.succ_lt_succ hk);rw[show k0+1+k=k0+(k+1) by omega];simpa using this
def c4m(ae:Array Oper)(ms qs hd:List Nat)(Lf:Array Bool):List (Nat×List Nat)->Array Bool->Bool
 | [],_=>true
 |(i,fl)::l,L=>(match qs.contains i with
  |true=>b5Y ae ms Lf L i
  |false=>(match Region.ready .any ae L with
   | [j]=>Nat.beq j i
   |_=>false)&&tfB ms hd fl i)&&c4m ae ms qs hd Lf l (L.setIfInBounds i true)
theorem b5U{Lf:Array Bool}{ms qs hd:List Nat}{S:List (List b9->Prop)}:∀{l:List (Nat×List Nat)} {L:Array Bool} {E:Env} {σ:List b9} {T:Nat->List b9->Prop},c4m ae ms qs hd Lf l L=true->a1C L (l.map Prod.fst)=Lf->(∀j aa,TF ms hd S j aa->T j aa)->X9 C ae qs Jk S l E σ->CA C ae Jk Lf (λE σ=>Jk .normal E σ) T l.length L E σ
 | [],_,_,_,_,_,hL,_,h=>⟨hL,h⟩
 |(i,fl)::l,L,E,σ,T,hB,hL,hT,⟨o,ho,h⟩=>by
  rw[c4m,T7]at hB
  rcases h with⟨hq,c,g,h1,h2⟩|⟨hq,h⟩
  .rw [hq]at hB;exact d0w (λaa=>M9 C aa ae o E c g) hB.1 ho (λ_ h=>h) (h1 σ) (b5U hB.2 hL (λj aa h=>⟨hT j aa h,λ_=>h1 aa⟩) h2)
  .simp only[hq,T7]at hB;obtain⟨⟨b1,b2⟩,b3⟩:=hB;have hr:=a11 b1;have go:∀(E':Env) (aa:List b9),a2F S aa fl/\X9 C ae qs Jk S l E' aa->T i aa/\CA C ae Jk Lf (λE σ=>Jk .normal E σ) T l.length (L.setIfInBounds i true) E' aa:=λE' aa ⟨h1,h2⟩=>by
    refine⟨hT i aa (d8O (fl:=fl) 0 [] J (λk hk=>?_) h1),b5U b3 hL hT h2⟩;unfold tfB at b2;have:=a40.1 b2 k (List.mem_range.2 hk);rw[K0];simpa using this
   refine⟨by rw[hr];exact c4v _ _,λj hj=>?_⟩;rw[hr,b0s]at hj;subst hj;refine⟨o,ho,?_⟩
   rcases h with(⟨h1,h2⟩|⟨c,g,h1,h2⟩)|h
   .exact .inr (a3D (λ_ _=>⟨J,J,J⟩) (λc g aa hh=>go _ _ hh) (.inl ⟨h1,h2⟩))
   .exact .inl ⟨c,g,h1,(go _ _ h2).2⟩
   .exact .inr (a3D (λ_ _=>⟨J,J,J⟩) (λc g aa hh=>go _ _ hh) (.inr h))
def b6A(ae:Array Oper)(qs ms hd:List Nat)(tl:List (Nat×List Nat)):Bool:=
 Nat.beq (hd.length+tl.length) ae.size &&a9v ae ms (a1C (a1C (L0 ae) hd) (tl.map Prod.fst)) hd (L0 ae)&&c4m ae ms qs hd (a1C (a1C (L0 ae) hd) (tl.map Prod.fst)) tl (a1C (L0 ae) hd)&& (Region.ready .any ae (a1C (a1C (L0 ae) hd) (tl.map Prod.fst))).isEmpty
theorem c8a{a:Act}(qs:List Nat)(ms hd:List Nat){tl:List (Nat×List Nat)}(hB:b6A ae qs ms hd tl=true)(bV:(ae.toList.all λo=>match o.dst with|some d=>Nat.blt d n|none=>true)=true)
 (h:a3k C σ ae (λE' S=>X9 C ae qs Jk S tl E' σ) hd E [])(hr:Rel C M σ w)(hf:L3 M w n E a):wpAny C.P .any ae (Y1 C n Jk M w) ae.size (L0 ae) a {w with drawn:=w.drawn+1}:=by
 simp only[b6A,T7]at hB;obtain⟨⟨⟨h1,h2⟩,h3⟩,h4⟩:=hB;obtain⟨bp,hx⟩:=hr.drew;have:=b6I (f0:=0) (b6y bV) (λE σ M1 w1 a1 hB bd aG dF=>⟨b7v.1 h4,E,σ,M1,bd,aG,dF,hB⟩) (a8H (T:=λ_ _=>True) (f:=tl.length) h2 h λE' S' hk=>b5U h3 J (λj aa hh=>⟨O,hh⟩) hk) hx bp (hf.mono hx);rw[K0,show tl.length+hd.length=ae.size by have:=a4A h1;omega]at this;exact this
theorem c9R(qs ms hd:List Nat){tl:List (Nat×List Nat)}(hm:C.P.follows .mixedOrders=true)(hB:b6A ae qs ms hd tl=true)(bV:(ae.toList.all λo=>match o.dst with|some d=>Nat.blt d n|none=>true)=true)
 (h:a3k C σ ae (λE' S=>X9 C ae qs Jk S tl E' σ) hd E []):CWp C n (.region id ae true) Jk E σ:=λM w a hr hf=>wp_region_any hm (c8a qs ms hd hB bV h hr hf)
theorem d_y(h:m0 C σ E o c)(k:K (.ret c) σ):H4 C σ E o K:=h.mono λ_ _ ⟨h1,h2⟩=>h1▸h2▸k
theorem b6J(ms hd:List Nat){f:Nat}(hm:C.P.follows .mixedOrders=true)(hB:(Nat.beq (f+hd.length) ae.size &&a9v ae ms (Array.replicate ae.size true) hd (L0 ae)&& (Region.ready .any ae (Array.replicate ae.size true)).isEmpty)=true)(bV:(ae.toList.all λo=>match o.dst with|some d=>Nat.blt d n|none=>true)=true)
 (h:a3k C σ ae (λE' S=>CA C ae Jk (Array.replicate ae.size true) (λE σ=>Jk .normal E σ) (λj aa=>TF ms hd S j aa) f (a1C (L0 ae) hd) E' σ) hd E []):CWp C n (.region id ae true) Jk E σ:=λM w a hr hf=>wp_region_any hm (by
  simp only[T7]at hB;obtain⟨⟨h1,h2⟩,h3⟩:=hB;obtain⟨bp,hx⟩:=hr.drew;have:=b6I (f0:=0) (b6y bV) (λE σ M1 w1 a1 hB bd aG dF=>⟨b7v.1 h3,E,σ,M1,bd,aG,dF,hB⟩) (a8H (T:=λ_ _=>True) (f:=f) h2 h λE' S' hk=>a6d (λ_ _ h=>⟨O,h⟩) hk) hx bp (hf.mono hx);rw[K0,a4A h1]at this;exact this)
section
variable{Lf:Array Bool}{B:Env->List b9->Prop}{T:Nat->List b9->Prop}{f:Nat}{L:Array Bool}
theorem a6N{i:Nat}{o:Oper}(hr:(match Region.ready .any ae L with
 | [j]=>Nat.beq j i
 |_=>false)=true)(ho:ae[i]?=some o)(hg:o.guard=none)(h:H4 C σ E o λr aa=>match r with| .ret c=>T i aa/\CA C ae Jk Lf B T f (L.setIfInBounds i true) (E.put o.dst c True) aa| .pan c=>∀E',Jk (.pan c) E' aa):CA C ae Jk Lf B T (f+1) L E σ:=
 ⟨by rw[a11 hr];exact c4v _ _,λj hj=>by rw[a11 hr,b0s]at hj;subst hj;exact⟨o,ho,.inr (.inl ⟨hg,h⟩)⟩⟩
theorem e0u{i:Nat}{o:Oper}{c:CV}{g:Prop}(hr:(match Region.ready .any ae L with
 | [j]=>Nat.beq j i
 |_=>false)=true)(ho:ae[i]?=some o)(bn:M9 C σ ae o E c g)(h:CA C ae Jk Lf B T f (L.setIfInBounds i true) (E.put o.dst c g) σ):CA C ae Jk Lf B T (f+1) L E σ:=
 ⟨by rw[a11 hr];exact c4v _ _,λj hj=>by rw[a11 hr,b0s]at hj;subst hj;exact⟨o,ho,.inl ⟨c,g,bn,h⟩⟩⟩
theorem c6v{i i':Nat}{o o':Oper}(hr:(match Region.ready .any ae L with
 | [j,j']=>Nat.beq j i&&Nat.beq j' i'
 |_=>false)=true)(ho:ae[i]?=some o)(ho':ae[i']?=some o')(hg:o.guard=none)(hg':o'.guard=none)(h:H4 C σ E o λr aa=>match r with| .ret c=>T i aa/\CA C ae Jk Lf B T f (L.setIfInBounds i true) (E.put o.dst c True) aa| .pan c=>∀E',Jk (.pan c) E' aa)
 (h':H4 C σ E o' λr aa=>match r with| .ret c=>T i' aa/\CA C ae Jk Lf B T f (L.setIfInBounds i' true) (E.put o'.dst c True) aa| .pan c=>∀E',Jk (.pan c) E' aa):CA C ae Jk Lf B T (f+1) L E σ:=by
 have bp:Region.ready .any ae L=[i,i']:=by
  split at hr
  .rename_i j j' hj;rw[T7]at hr;rw[hj,a4A hr.1,a4A hr.2]
  .cases hr
 refine⟨by rw[bp];exact c4v _ _,λj hj=>?_⟩;rw[bp]at hj;simp only[J0,a6A,or_false]at hj
 rcases hj with rfl|rfl
 .exact ⟨o,ho,.inr (.inl ⟨hg,h⟩)⟩
 .exact ⟨o',ho',.inr (.inl ⟨hg',h'⟩)⟩
end
theorem a8r(h:Jk .normal E σ):X9 C ae qs Jk S [] E σ:=h
theorem B0{l:List (Nat×List Nat)}(ig:qs.contains i=false)(ho:ae[i]?=some o)(hg:o.guard=none)(h:H4 C σ E o λr aa=>match r with| .ret c=>a2F S aa fl/\X9 C ae qs Jk S l (E.put o.dst c True) aa| .pan c=>∀E',Jk (.pan c) E' aa):X9 C ae qs Jk S ((i,fl)::l) E σ:=
 ⟨o,ho,.inr ⟨ig,.inl (.inl ⟨hg,h⟩)⟩⟩
theorem E9{l:List (Nat×List Nat)}{g:Prop}(ig:qs.contains i=false)(ho:ae[i]?=some o)(bn:M9 C σ ae o E c g)(h:a2F S σ fl/\X9 C ae qs Jk S l (E.put o.dst c g) σ):X9 C ae qs Jk S ((i,fl)::l) E σ:=
 ⟨o,ho,.inr ⟨ig,.inl (.inr ⟨c,g,bn,h⟩)⟩⟩
theorem b23{l:List (Nat×List Nat)}{g:Prop}(ig:qs.contains i=true)(ho:ae[i]?=some o)(bn:∀aa,M9 C aa ae o E c g)(h:X9 C ae qs Jk S l (E.put o.dst c g) σ):X9 C ae qs Jk S ((i,fl)::l) E σ:=
 ⟨o,ho,.inl ⟨ig,c,g,bn,h⟩⟩
end
structure d3T{α:Type} [DecidableEq α](P:Program)(kt:TypeId)(kc:α->CV)(kv:α->Value):Prop where
 rv:∀M w a v,RV M w (kc a) v->v=kv a
 rv':∀M w a,RV M w (kc a) (kv a)
 check:∀b a w,(Instr.checkKey b 10000 kt (kv a)).run P w= .ok () w
 eq:∀a b w,(Op.equal kt (kv a) (kv b)).run P w= .ok (decide (a=b)) w
 now:∃d,(∀w,(underlying kt).run P w= .ok d w)/\∀a b,Instr.sameNow d (kv a) (kv b)=none
 bits:∀a,Instr.sameBits 10000 (kv a) (kv a)=true
section
variable [DecidableEq α]{kc:α->CV}{kv:α->Value}
end
section
variable [DecidableEq α]{kc:α->CV}{kv:α->Value}
end
abbrev U:=List UInt8
variable{l:U}
def str(l:U):ByteArray:=⟨l.toArray⟩
abbrev sv(l:U):CV:=.val (.string (str l))
theorem a5Q(l:U):(str l).size=l.length:=by simp[str,ByteArray.size]
theorem a0m(l:U):(str l).toList=l:=by
 rw[ByteArray.toList_eq];simp[str]
theorem c2S(a b:U):str a++str b=str (a++b):=by
 apply ByteArray.ext;simp[str]
theorem d6K(l:U)(i:Nat):(str l)[i]?=l[i]?:=by
 simp only[str,getElem?_def]
 split<;>rename_i h<;>split<;>rename_i h'<;>first|rfl|(exfalso;simp[ByteArray.size]at h h';omega)
theorem b7s(l:U)(a b:Nat):(str l).extract a b=str ((l.take b).drop a):=by
 apply ByteArray.ext;simp[str,List.drop_take]
section
theorem d2a(ho:o.op = .call {callee:=.builtin .len,args:=#[x],argTypes:=#[t]})(hx:E.valid x)(ex:E.val C x=sv l)(hu:∀w,(underlying t).run C.P w= .ok .string w):m0 C σ E o (.val (.int .i64 l.length)):=
 i8 λM w ρ _ h=>by
  have h1:=h x H9 hx;rw[ex]at h1;have h2:=r4 h1;refine⟨.int .i64 l.length,?_,.val _⟩;simp[execOp,ho,h2,resolve,invoke,builtin,Builtin.len_,hu,goInt,a5Q]
theorem O6{ix:Operand}{i:Int}{k:IntKind}{b:UInt8}(ho:o.op = .index t x ix)(hx:E.valid x)(hi:E.valid ix)(ex:E.val C x=sv l)(ei:E.val C ix= .val (.int k i))(hu:∀w,(underlying t).run C.P w= .ok .string w)(h0:0<=i)(hb:l[i.toNat]?=some b):m0 C σ E o (.val (.int .u8 b.toNat)):=
 i8 λM w ρ _ h=>by
  have h1:=h x w8 hx;have h2:=h ix w8 hi;rw[ex]at h1;rw[ei]at h2;have dW:=r4 h1;have dr:=r4 h2;refine⟨.int .u8 b.toNat,?_,.val _⟩;simp[execOp,ho,dW,dr,Instr.index,hu,asIntOf,h0,d6K,hb]
theorem I2{a b:U}(ho:o.op = .binOp .add t x y t')(hx:E.valid x)(hy:E.valid y)(ex:E.val C x=sv a)(ey:E.val C y=sv b)(hl:a.length+b.length<=9223372036854775807):m0 C σ E o (sv (a++b)):=
 i8 λM w ρ _ h=>by
  have h1:=h x w8 hx;have h2:=h y w8 hy;rw[ex]at h1;rw[ey]at h2;have dW:=r4 h1;have dr:=r4 h2;refine⟨.string (str (a++b)),?_,.val _⟩;simp[execOp,ho,dW,dr,eqGuard,binOp,Op.stringOp,c2S];rw[a5Q,a5Q];omega
theorem b6k(a b:U):(a == b)=decide (a=b):=by
 by_cases h:a=b<;>simp[h]
theorem a8J(a b:U):b1w .eql (str a) (str b)=some (decide (a=b)):=by simp[b1w,a0m,b6k]
theorem b1u(a b:U):b1w .neq (str a) (str b)=some (!decide (a=b)):=by simp[b1w,a0m,b6k]
theorem b21(a b:U):b1w .lss (str a) (str b)=some (Op.bytesLess a b):=by simp[b1w,a0m]
theorem c04(a b:U):b1w .leq (str a) (str b)=some (Op.bytesLess a b ||decide (a=b)):=by simp[b1w,a0m,b6k]
theorem a1F{op:BinOp}{a b:U}{r:Bool}(ho:o.op = .binOp op t x y t')(hx:E.valid x)(hy:E.valid y)(ex:E.val C x=sv a)(ey:E.val C y=sv b)(hv:b1w op (str a) (str b)=some r):m0 C σ E o (.val (.bool r)):=
 d1f ho hx hy ex ey hv
end
def bcv(b:UInt8):List CV:=[.val (.int .u8 b.toNat)]
section
theorem L8{lo hi:Option Operand}{a h:Nat}(ho:o.op = .slice t x lo hi none)(hx:E.valid x)(ex:E.val C x=sv l)(hu:∀w,(underlying t).run C.P w= .ok .string w)(gP:a2p C E lo 0 a)(ia:a2p C E hi l.length h)(h1:a<=h)(h2:h<=l.length):m0 C σ E o (sv ((l.take h).drop a)):=
 i8 λM w ρ hr hh=>by
  have aC:=hh x w8 hx;rw[ex]at aC;have hv:=r4 aC;have ib:∀v,lo=some v->∃k i,ρ v= .int k i/\0<=i/\i.toNat=a:=λv hv=>by
   subst hv;obtain⟨bC,k,i,he,h0,hi⟩:=gP;have:=hh v w8 bC;rw[he]at this;exact⟨k,i,r4 this,h0,hi⟩
  have fA:∀v,hi=some v->∃k i,ρ v= .int k i/\0<=i/\i.toNat=h:=λv hv=>by
   subst hv;obtain⟨bC,k,i,he,h0,hi⟩:=ia;have:=hh v w8 bC;rw[he]at this;exact⟨k,i,r4 this,h0,hi⟩
  have hb:(Instr.sliceBounds false l.length l.length (lo.map ρ) (hi.map ρ) none).run C.P w= .ok (a,h,l.length) w:=by
   have cb:(a:Int)<=h:=by omega
   have hh2:(h:Int)<=l.length:=by omega
   cases lo with
   |none=>
    have:a=0:=by simpa[a2p]using gP.symm
    subst this;cases hi with
    |none=>
     have:h=l.length:=by simpa[a2p]using ia.symm
     subst this;simp[Instr.sliceBounds]
    |some v=>
     obtain⟨k,i,he,h0,hi⟩:=fA v J;have aO:i<=l.length:=by omega
     simp[Instr.sliceBounds,Instr.sliceBound,he,asIntOf,h0,aO,hi]
   |some u=>
    obtain⟨k,i,he,h0,hi0⟩:=ib u J;cases hi with
    |none=>
     have:h=l.length:=by simpa[a2p]using ia.symm
     subst this;have aO:i<=l.length:=by omega
     simp[Instr.sliceBounds,Instr.sliceBound,he,asIntOf,h0,aO,hi0]
    |some v=>
     obtain⟨k',i',fB,ic,aZ⟩:=fA v J;have aO:i<=h:=by omega
     have fc:i'<=l.length:=by omega
     simp[Instr.sliceBounds,Instr.sliceBound,he,fB,asIntOf,h0,ic,aO,fc,hi0,aZ]
  refine⟨.string (str ((l.take h).drop a)),?_,.val _⟩;simp[execOp,ho,hv,Instr.sliceAt,Instr.slice,hu,a5Q,hb,b7s]
theorem c3w{P:Program}{w:World}:∀(l:U) (bt:U),(forIn (m:=Sem) (l.map λb:UInt8=>Value.int .u8 (b.toNat:Int)) (str bt) λ(c:Value) (s:ByteArray)=>
 match c with
 | .int .u8 n=>(do pure (ForInStep.yield (s.push (UInt8.ofNat n.toNat))):Sem (ForInStep ByteArray))
 |_=>(do
  let _ ← (stuck "bytesToString: byte expected" :Sem PUnit)
  pure (ForInStep.yield s))).run P w= .ok (str (bt++l)) w
 | [],bt=>by simp
 |b::l,bt=>by
  have h:(str bt).push (UInt8.ofNat ((b.toNat:Int).toNat))=str (bt++[b]):=by
   apply ByteArray.ext;simp[str,ByteArray.push]
  rw[b0t,List.forIn_cons];simp only[Sem.run_bind,Sem.run_pure,Result.andThen_ok,h];rw[c3w l (bt++[b])];simp
theorem e2E{nn:Bool}{tok:Option Nat}(ho:o.op = .convert src dst x)(hx:E.valid x)(ex:E.val C x= .list (l.map bcv) nn tok)(hs:∀w,(underlying src).run C.P w= .ok (.slice e) w)(hd:∀w,(underlying dst).run C.P w= .ok .string w)(he:∀w,(underlying e).run C.P w= .ok (.int .u8) w):m0 C σ E o (sv l):=
 i8 λM w ρ hr hh=>by
  have aC:=hh x w8 hx;rw[ex]at aC;obtain⟨a,cap,b,off,s',vals,hv,bj,bk,dV,dz,ha,cq,aQ,hc,bh,_⟩:=aC.list_inv;refine⟨.string (str l),?_,.val _⟩;cases l with
  |nil=>
   cases a with
   |none=>simp[execOp,ho,hv,convert,hs,hd,he,Conv.bytesToString];rfl
   |some a=>simp[execOp,ho,hv,convert,hs,hd,he,Conv.bytesToString,loadCells,loadCellsFrom];rfl
  |cons y l=>
   have cM:=ha H;have bz:s'=1:=by have:=cq (bcv y) H;simpa[bcv]using this.symm
   subst bz;have aN:∀j,j< (y::l).length->w.cell? ⟨b,off+j,none⟩=some ((((y::l).map λb:UInt8=>Value.int .u8 (b.toNat:Int))[j]?).getD undef):=λj hj=>by
    have h1:((y::l).map bcv)[j]?=some (bcv ((y::l)[j]'hj)):=by rw[O5,a0H hj];rfl
    have h2:=hc j 0 (bcv ((y::l)[j]'hj)) (.val (.int .u8 (((y::l)[j]'hj).toNat:Int))) h1 J;have h3:=r4 (bh j 0 (bcv ((y::l)[j]'hj)) (.val (.int .u8 (((y::l)[j]'hj).toNat:Int))) h1 J);simp only[b2k,a9r]at h2;rw[h2.2,h3,O5,a0H hj];rfl
   have hl:=T5 (P:=C.P) _ _ aN;have aA:((List.range (y::l).length).map λj=>(((y::l).map λb:UInt8=>Value.int .u8 (b.toNat:Int))[j]?).getD undef)=(y::l).map λb:UInt8=>Value.int .u8 (b.toNat:Int):=by
    apply List.ext_getElem
    .simp
    .intro i h1 h2;simp at h1;simp[h1]
   have:=c3w (P:=C.P) (w:=w) (y::l) [];simp only[a1D]at this;rw[cM]at hv;simp only[L7]at hv;simp only[execOp,ho,hv,convert,Sem.run_bind,hs,hd,he,Result.andThen_ok,Conv.bytesToString,hl,aA];simp only[List.forIn_toArray];have e0:(ByteArray.empty)=str []:=J;rw[e0];refine(n_8 (λr=>(r.andThen λa w'=>Sem.run C.P (pure (Value.string a)) w').andThen λa w'=>Sem.run C.P (pure (Next.value a)) w') this).trans ?_;simp
end
theorem Rel.settleBlock(hr:Rel C M σ w){b:Nat}(hb:b<w.heap.size)(cU:∀(k:Nat) (p:Pl) (ob:b9),M.pl[k]?=some p->σ[k]?=some ob->ob.live=true->p.block≠b)(hk:¬M.keep b):Ext M w (M.settle b) w/\Rel C (M.settle b) σ w:=by
 have hx:Ext M w (M.settle b) w:=⟨⟨[],by simp[B2.settle]⟩,λ_ h=>.inl h,λ_ _ h=>.inr h,λ_ _=>J,λ_ _ _=>J,n_7 _,U0,J,J,J,λb' h=>⟨h,J,λf=>(by
  rcases f with f|f
  .exact f
  .exact absurd (f▸h) hk),λ_ f=>f⟩⟩
 refine⟨hx,hr.len,λb' o ha=>?_,λk p x hp hs=>?_,hr.inj,λg cells hg=>(hr.glob g cells hg).mono hx,hr.kep,hr.nk⟩
 .rcases ha with(ha|ha)|ha
  .exact hr.blk b' o (.inl ha)
  .omega
  .exact hr.blk b' o (.inr ha)
 .obtain ⟨h1,h2⟩:=hr.obj k p x hp hs;by_cases hl:x.live=true
  .refine ⟨h1.mono hx J (λ_ _ _ _ h=>h),?_⟩;have hf:¬M.full p.block->¬(M.settle b).full p.block:=λh h'=>by
    rcases h' with h'|h'
    .exact h h'
    .exact cU k p x hp hs hl h'
   cases x<;>first|trivial|exact hf h2|exact⟨hf h2.1,h2.2⟩
  .cases x<;>first|exact⟨O,O⟩|simp[b9.live]at hl
theorem b1E{a:Array α}{p:α->Bool}(h:∀x∈a,p x=true):a.filter p=a:=by
 apply Array.toList_inj.1;rw[Array.toList_filter];exact c5h.2 λx hx=>h x (I hx)
theorem b0w{a:Array α}{p:α->Bool}(h:∀x∈a,p x=false):a.filter p= #[]:=by
 apply Array.toList_inj.1;rw[Array.toList_filter];exact c3R.2 λx hx=>by rw[h x (I hx)];simp
theorem b5G{af:Array MapEntry}(ha:b2a af){seen:Array Nat}{e:MapEntry}(hi:(af.toList.filter λe=>!seen.contains e.born)[i]?=some e):
 (af.toList.filter λx=>!(seen.push e.born).contains x.born)=(af.toList.filter λe=>!seen.contains e.born).eraseIdx i:=by
 have gv:∀(i j:Nat) (e e':MapEntry),af.toList[i]?=some e->af.toList[j]?=some e'->e.born=e'.born->i=j:=λi j e e' h1 h2 h3=>ha i j e e' (I h1) (I h2) h3;have hc:∀x:MapEntry,(seen.push e.born).contains x.born=(seen.contains x.born ||x.born == e.born):=λx=>by
  rw[Array.contains_push]
 simp only[hc];generalize af.toList=l at hi gv;clear ha hc
 induction l generalizing i with
 |nil=>simp at hi
 |cons y l ih=>
  have hag':∀(i j:Nat) (e e':MapEntry),l[i]?=some e->l[j]?=some e'->e.born=e'.born->i=j:=λi j a b h1 h2 h3=>by
   have:=gv (i+1) (j+1) a b (I h1) (I h2) h3;omega
  by_cases hy:seen.contains y.born=true
  .have h1:(!seen.contains y.born)=false:=by rw[hy];rfl
   rw[a7o,D (by rw[h1];simp)]at hi;rw[a7o,D (by rw[hy];simp),a7o,D (by rw[h1];simp)];exact ih hi hag'
  .have ip:seen.contains y.born=false:=I hy;have h1:(!seen.contains y.born)=true:=by rw[ip];rfl
   have e1:(List.filter (λe=>!seen.contains e.born) (y::l))=y::l.filter λe=>!seen.contains e.born:=by rw[a7o,F h1]
   rw[e1]at hi⊢
   rcases i with _|i
   .simp at hi;subst hi;rw[a7o,D H];rw[List.eraseIdx_zero,List.tail_cons];refine List.filter_congr λx hx=>?_;have ay:x.born≠y.born:=λhe=>by
     obtain⟨j,hj⟩:=N0.1 hx;have:=gv (j+1) 0 x y (I hj) J he;omega
    simp[ay]
   .rw [c5J]at hi;have ay:y.born≠e.born:=λhe=>by
     have hm:=a7K.1 (n_2 hi);obtain⟨j,hj⟩:=N0.1 hm.1;have:=gv 0 (j+1) y e J (I hj) he;omega
    rw[a7o,F (by rw[ip];simp[ay]),List.eraseIdx_cons_succ,ih hi hag']
def I4(af:Array MapEntry)(seen:Array Nat):Array MapEntry:=af.filter λe=>!seen.contains e.born
theorem b7C(af:Array MapEntry)(seen:Array Nat):(I4 af seen).toList=af.toList.filter λe=>!seen.contains e.born:=Array.toList_filter ..
section
theorem b1a{es:List (CV×CV)}(ho:o.op = .range t x)(hx:E.valid x)(ex:E.val C x= .map k)(hu:∀w,(underlying t).run C.P w= .ok (.map kt et) w)(ao:σ[k]?=some (.map es))(hK:K (.ret (.ptr σ.length 0)) (σ.set k .dead++[.iter [] es])):H4 C σ E o K:=λM w ρ hr h=>by
 have h1:=h x w8 hx;rw[ex]at h1;generalize hv:ρ x=v at h1;cases h1 with
 |map hp=>
  rename_i p;obtain⟨h1,h2⟩:=hr.obj k p _ hp ao;have ab:=h1.lt J;obtain⟨af,aj,g1,g2,g3⟩:=h1;have hnk:=hr.nk k p _ hp ao J;have dX:=hr.dead k;have bv:∀(i:Nat) (e:MapEntry),af[i]?=some e->e.born <aj:=λi e he=>by
   have ab:i<es.length:=by rw[<- g2.1];exact(a1Z.1 he).1
   obtain⟨e',h1,_,_,h4⟩:=g3 i es[i] (by simp[ab]);rw[he]at h1;injection h1 with h1
   rw[h1];exact h4
  obtain⟨bd,aG⟩:=dX.settleBlock ab (λk' p' aL aI aU bg hb=>by
   rw[a9z]at aU;split at aU
   .split at aU
    .injection aU with aU;subst aU;cases bg
    .cases aU
   .rename_i ay;exact ay (hr.inj k k' p p' _ _ hp aI ao aU J bg hb.symm)) hnk
  have av:(execOp ρ o).run C.P w= .ok (.value (.pointer (some ⟨w.heap.size,0,none⟩))) (w.alloc (.mapIter (some p.block) aj #[] aj)):=by
   simp[execOp,ho,hv,Instr.range,hu,O7 g1]
  rw[av];have aM:=Ext.alloc aG ⟨w.heap.size,0,0⟩ (.mapIter (some p.block) aj #[] aj);have hk:=(dX.settleBlock ab (λk' p' aL aI aU bg hb=>by
   rw[a9z]at aU;split at aU
   .split at aU
    .injection aU with aU;subst aU;cases bg
    .cases aU
   .rename_i ay;exact ay (hr.inj k k' p p' _ _ hp aI ao aU J bg hb.symm)) hnk).2
  refine⟨.ptr σ.length 0,_,_,bd.trans aM,aG.alloc ⟨w.heap.size,0,0⟩ _ (.iter [] es) J ⟨p.block,#[],aj,af,aj,B3 _ _,.inr J,?_,.inl J,g2.2,bv,?_,λi x hi=>?_,λi x hi=>by simp at hi⟩,RV.ptr (p:=⟨w.heap.size,0,0⟩) (by
   have hl:=aG.len;simp at hl;simp[B2.add,<- hl]),hK⟩
  .rw [L2 w _ ab];exact g1
  .have:(af.toList.filter λe=>!(#[]:Array Nat).contains e.born)=af.toList:=c5h.2 λx _=>by simp
   rw[this];simpa using g2.1
  .have:(af.toList.filter λe=>!(#[]:Array Nat).contains e.born)=af.toList:=c5h.2 λx _=>by simp
   rw[this];obtain⟨e,f1,f2,f3,_⟩:=g3 i x hi;exact⟨e,I f1,(f2.mono bd).mono aM,(f3.mono bd).mono aM⟩
theorem b1R{q:Question}(h:q.forced=false):(choose q).run P w= .ok (q.cut (w.tape w.drawn q)) w.drew:=by
 simp[choose,Sem.run,h]
theorem b6b{it:Operand}{aH left:List (CV×CV)}(ho:o.op = .next it false)(hx:E.valid it)(ex:E.val C it= .ptr q 0)(ao:σ[q]?=some (.iter aH left))(hz:left=[]->K (.ret (.tup [.val (.bool false)])) σ)
 (hs:∀(i:Nat) (x:CV×CV),left[i]?=some x->K (.ret (.tup [.val (.bool true),x.1,x.2])) (σ.set q (.iter [x] (left.eraseIdx i)))):H4 C σ E o K:=λM w ρ hr h=>by
 have h1:=h it w8 hx;rw[ex]at h1;generalize hv:ρ it=v at h1;cases h1 with
 |ptr hp=>
  rename_i p;obtain⟨h1,hf,hc⟩:=hr.obj q p _ hp ao;have ab:=h1.lt J;obtain⟨mb,seen,bI,af,aj,g1,g2,g3,g4,g5,g6,g7,g8,_⟩:=h1;have bx:∀e∈af,e.born <aj:=λe he=>by
   obtain⟨i,hi⟩:=Array.mem_iff_getElem?.1 he;exact g6 i e hi
  have hA:=b7C af seen;have hmemA:∀e∈(I4 af seen),e.born <aj:=λe he=>bx e (Array.mem_filter.1 (show e∈af.filter λe=>!seen.contains e.born from he)).1;have bQ:((I4 af seen).filter λe=>decide (e.born <aj))=I4 af seen:=b1E λx hx=>by simpa using hmemA x hx
  have dg:((I4 af seen).filter λe=>decide (e.born>=aj))= #[]:=b0w λx hx=>by have:=hmemA x hx;simp;omega
  have eg:(!seen.isEmpty && !af.isEmpty &&af.all λe=>decide (e.born>=bI))=false:=by
   rcases g4 with rfl|rfl
   .simp
   .by_cases he:af.isEmpty=true
    .simp [he]
    .have:∃e,e∈af:=by
      have aJ:0<af.size:=by
       rcases b0J af.size with h|h
       .exact absurd (by simp[Array.isEmpty,h]) he
       .exact h
      exact⟨af[0],Array.getElem_mem aJ⟩
     obtain⟨e,he⟩:=this;have:(af.all λe=>decide (e.born>=bI))=false:=by
      rw[c5Y];intro hh;rw[Array.all_eq_true_iff_forall_mem]at hh;have h1:=hh e he;have h2:=bx e he;simp at h1;omega
     rw[this];simp
  have eB:(getObj p.block).run C.P w= .ok (.mapIter (some mb) aj seen bI) w:=by simp[getObj,Sem.run,g1]
  have hrun0:(execOp ρ o).run C.P w=((choose (.mapNext ((if(I4 af seen).isEmpty then #[none]else #[])++((I4 af seen)++#[]).map some).size)).run C.P w).andThen λj w'=>
   ((match((if(I4 af seen).isEmpty then #[none]else #[])++((I4 af seen)++#[]).map some)[j]? with
    |some (some e)=>(do
     setObj p.block (.mapIter (some mb) aj (seen.push e.born) aj)
     pure (Next.value (.tuple #[.bool true,e.key,e.val])):Sem Next)
    |some none=>pure (Next.value (.tuple #[.bool false]))
    |none=>stuck "Next: no such candidate").run C.P w'):=by
   have hun:(af.filter λe=>!seen.contains e.born)=I4 af seen:=J;simp only[execOp,ho,hv,Instr.next,Sem.run_bind,eB,Result.andThen_ok,O7 g3,eg,hun,bQ,dg];simp only[b8x,if_false,Sem.run_bind,Sem.run_pure];cases dh:(choose (.mapNext ((if(I4 af seen).isEmpty then #[none]else #[])++((I4 af seen)++#[]).map some).size)).run C.P w with
   |halt x w'=>rfl
   |ok j w'=>
    simp only[Result.andThen_ok];generalize ((if(I4 af seen).isEmpty=true then #[none]else #[])++Array.map some (I4 af seen++#[]))[j]?=cand
    rcases cand with _|_|e
    .simp [stuck]
    .simp
    .simp only[Sem.run_bind];generalize (setObj p.block (Obj.mapIter (some mb) aj (seen.push e.born) aj)).run C.P w'=r;cases r<;>simp
  rw[hrun0];cases hL:(I4 af seen).toList with
  |nil=>
   have hempty:(I4 af seen)= #[]:=Array.toList_inj.1 hL;have dy:left=[]:=by
    rw[<- hA,hL]at g7;exact b2K g7.symm
   rw[hempty];have dh:(choose (.mapNext (((if(#[]:Array MapEntry).isEmpty then #[none]else #[])++((#[]:Array MapEntry)++#[]).map some).size))).run C.P w= .ok 0 w:=by
    simp[choose,Sem.run,Question.forced]
   rw[dh];have eL:((if(#[]:Array MapEntry).isEmpty=true then #[none]else #[])++Array.map some ((#[]:Array MapEntry)++#[]))[0]?=some none:=by simp
   simp only[Result.andThen_ok];rw[eL];show a3O C M w K (.tuple #[.bool false]) w;exact⟨.tup [.val (.bool false)],σ,M,Ext.refl M w,hr,.tup J (λi c hi=>by
    rcases i with _|i
    .simp at hi;subst hi;exact .val _
    .simp at hi),hz dy⟩
  |cons e0 r0=>
   have ay:(I4 af seen).isEmpty=false:=by
    rw[<- Array.isEmpty_toList,hL];rfl
   have aJ:(I4 af seen).size=(af.toList.filter λe=>!seen.contains e.born).length:=by rw[<- hA];simp
   rw[ay];simp only[b8x,if_false,Array.append_empty,Array.empty_append];have key:∀(j:Nat) (w':World) (M':B2),Ext M w M' w'->Rel C M' σ w'->M'.pl=M.pl->w'.heap=w.heap->j< (I4 af seen).size->b2s C.P (a3O C M w K) (a0I C M w K) ((match((I4 af seen).map some)[j]? with
    |some (some e)=>(do
     setObj p.block (.mapIter (some mb) aj (seen.push e.born) aj)
     pure (Next.value (.tuple #[.bool true,e.key,e.val])):Sem Next)
    |some none=>pure (Next.value (.tuple #[.bool false]))
    |none=>stuck "Next: no such candidate").run C.P w'):=by
    intro j w' M' aC bp ba gA hj;obtain⟨e,he⟩:∃e,(I4 af seen)[j]?=some e:=⟨_,a1J hj⟩;have fB:(af.toList.filter λe=>!seen.contains e.born)[j]?=some e:=by rw[<- hA];simpa using he
    have hm:((I4 af seen).map some)[j]?=some (some e):=by rw[b4a,he];rfl
    rw[hm];have gL:(setObj p.block (.mapIter (some mb) aj (seen.push e.born) aj)).run C.P w'= .ok () (World.putObj w' p.block (.mapIter (some mb) aj (seen.push e.born) aj)):=by
     simp[setObj,Sem.run,World.putObj,gA,g1]
    simp only[Sem.run_bind,gL,Result.andThen_ok,Sem.run_pure];have cc:j<left.length:=by rw[<- g7];exact(n_3.1 fB).1
    obtain⟨x,du⟩:∃x,left[j]?=some x:=⟨left[j],by simp[cc]⟩;obtain⟨e2,f1,f2,f3⟩:=g8 j x du;rw[fB]at f1;injection f1 with f1
    subst f1;have aI:M'.pl[q]?=some p:=by rw[ba];exact hp
    obtain⟨ob1,hf',bJ⟩:=bp.obj q p _ aI ao;have bu:p.block <w'.heap.size:=ob1.lt J;have aM:=Ext.putObj (w:=w') (.mapIter (some mb) aj (seen.push e.born) aj) (bp.nk q p _ aI ao J) hf' bJ;have hne2:p.block≠mb:=λhb=>by
     rw[hb]at g1;rw[g1]at g3;cases g3
    have aX:=bp.putObj (ob:=.iter [x] (left.eraseIdx j)) aI ao J hf' bJ (.mapIter (some mb) aj (seen.push e.born) aj) ⟨mb,seen.push e.born,aj,af,aj,World.putObj_same w' _ bu,aC.full _ g2,by rw[World.putObj_other w' _ hne2,gA];exact g3,.inr J,g5,g6,by
     rw[b5G g5 fB,List.length_eraseIdx,List.length_eraseIdx,g7],λi y hi=>by
     rw[b5G g5 fB];rw[List.getElem?_eraseIdx]at hi⊢;split at hi
     .rename_i hij;rw[F hij];obtain⟨e3,u1,u2,u3⟩:=g8 i y hi;exact⟨e3,u1,(u2.mono aC).mono aM,(u3.mono aC).mono aM⟩
     .rename_i hij;rw[D hij];obtain⟨e3,u1,u2,u3⟩:=g8 (i+1) y hi;exact⟨e3,u1,(u2.mono aC).mono aM,(u3.mono aC).mono aM⟩,λi y hi=>by
     rcases i with _|i
     .simp at hi;subst hi;obtain⟨j0,hj0⟩:=Array.mem_iff_getElem?.1 (Array.mem_filter.1 (show e∈af.filter λe=>!seen.contains e.born from b8o he)).1;exact⟨J,j0,e,hj0,H,(f2.mono aC).mono aM,(f3.mono aC).mono aM⟩
     .simp at hi⟩
    refine⟨.tup [.val (.bool true),x.1,x.2],_,M',aC.trans aM,aX,.tup J (λi c hi=>?_),hs j x du⟩
    rcases i with _|_|_|i
    .simp at hi;subst hi;exact .val _
    .simp at hi;subst hi;exact(f2.mono aC).mono aM
    .simp at hi;subst hi;exact(f3.mono aC).mono aM
    .simp at hi
   have iq:0< (I4 af seen).size:=by rw[<- b0T,hL];simp
   have hszm:((I4 af seen).map some).size=(I4 af seen).size:=by simp
   rw[hszm];by_cases h1:(I4 af seen).size<=1
   .have dh:(choose (.mapNext (I4 af seen).size)).run C.P w= .ok 0 w:=by
     simp[choose,Sem.run,Question.forced,h1]
    rw[dh];exact key 0 w M (Ext.refl M w) hr J J iq
   .have dh:(choose (.mapNext (I4 af seen).size)).run C.P w= .ok ((Question.mapNext (I4 af seen).size).cut (w.tape w.drawn (.mapNext (I4 af seen).size))) w.drew:=b1R (by simp[Question.forced];omega);rw[dh];obtain⟨dX,gQ⟩:=hr.drew;exact key _ w.drew M gQ dX J J (a4l _ iq)
theorem b09{it:Operand}{x:CV×CV}{left:List (CV×CV)}(ho:o.op = .entry it)(hx:E.valid it)(ex:E.val C it= .ptr q 0)(ao:σ[q]?=some (.iter [x] left)):m0 C σ E o (.tup [x.1,x.2]):=
 i8 λM w ρ hr h=>by
  have h1:=h it w8 hx;rw[ex]at h1;generalize hv:ρ it=v at h1;cases h1 with
  |ptr hp=>
   rename_i p;obtain⟨mb,seen,bI,af,aj,g1,g2,g3,g4,g5,g6,g7,g8,g9⟩:=(hr.obj q p _ hp ao).1;obtain⟨hl,j,e,f1,f2,f3,f4⟩:=g9 0 x J;have hfind:af.find? (λe'=>e'.born == e.born)=some e:=by
    rw[<- Array.find?_toList];have hj:af.toList[j]?=some e:=I f1;obtain⟨ab,hje⟩:=n_3.1 hj;rw[List.find?_eq_some_iff_getElem];refine⟨H,j,ab,hje,λk hk=>?_⟩;have ay:af.toList[k].born≠e.born:=λhb=>by
     have:=g5 k j af.toList[k] e H f1 hb;omega
    simpa using ay
   have eB:(getObj p.block).run C.P w= .ok (.mapIter (some mb) aj seen bI) w:=by simp[getObj,Sem.run,g1]
   refine⟨.tuple #[e.key,e.val],?_,.tup J λi c hi=>?_⟩
   .simp [execOp,ho,hv,Instr.entry,eB,f2,O7 g3,hl,hfind]
   .rcases i with _|_|i
    .simp at hi;subst hi;exact f3
    .simp at hi;subst hi;exact f4
    .simp at hi
end
structure W4{α:Type} [DecidableEq α](P:Program)(kt:TypeId)(kc:α->CV)(kv:α->Value):Prop where
 rv:∀M w a v,RV M w (kc a) v->v=kv a
 rv':∀M w a,RV M w (kc a) (kv a)
 check:∀b a w,(Instr.checkKey b 10000 kt (kv a)).run P w= .ok () w
 bits:∀a,Instr.sameBits 10000 (kv a) (kv a)=true
 none:∀(a:α) (l:List α) (af:List MapEntry),af.length=l.length->(∀(i:Nat) (x:α),l[i]?=some x->∃e,af[i]?=some e/\e.key=kv x)->a∉l->∀w,(Instr.findKey kt (kv a) af).run P w= .ok none w
 some:∀(a:α) (l:List α) (af:List MapEntry),af.length=l.length->(∀(i:Nat) (x:α),l[i]?=some x->∃e,af[i]?=some e/\e.key=kv x)->∀(i:Nat) (e:MapEntry),l[i]?=some a->(∀j,j<i->l[j]?≠some a)->af[i]?=some e->∀w,(Instr.findKey kt (kv a) af).run P w= .ok (some (i,e.val)) w
section
variable [DecidableEq α]{kc:α->CV}{kv:α->Value}
theorem a5R{d:TypeDesc}(hs:∀a b,Instr.sameNow d (kv a) (kv b)=some (decide (a=b)))(a:α):∀(l:List α) (af:List MapEntry) (n:Nat),af.length=l.length->(∀(i:Nat) (x:α),l[i]?=some x->∃e,af[i]?=some e/\e.key=kv x) ->
 (a∉l->Instr.findNow d (kv a) af n=some none)/\∀(i:Nat) (e:MapEntry),l[i]?=some a->(∀j,j<i->l[j]?≠some a)->af[i]?=some e->Instr.findNow d (kv a) af n=some (some (n+i,e.val))
 | [],[],n,_,_=>⟨λ_=>J,λi e h=>by simp at h⟩
 | [],_::_,_,h,_=>by simp at h
 |_::_,[],_,h,_=>by simp at h
 |x::l,e0::af,n,hl,hh=>by
  obtain⟨e',he,hk⟩:=hh 0 x J;simp at he;subst he;obtain⟨ih1,ih2⟩:=a5R hs a l af (n+1) (I hl) λi y hi=>hh (i+1) y (I hi);by_cases ir:a=x
  .subst ir;refine⟨λh=>absurd H h,λi e hi fe he=>?_⟩
   rcases i with _|i
   .simp at he;subst he;simp[Instr.findNow,hk,hs]
   .exact absurd J (fe 0 X)
  .have step:Instr.findNow d (kv a) (e0::af) n=Instr.findNow d (kv a) af (n+1):=by simp[Instr.findNow,hk,hs,ir]
   refine⟨λh=>by rw[step];exact ih1 (λhm=>h (by simp[hm])),λi e hi fe he=>?_⟩
   rcases i with _|i
   .simp at hi;exact absurd hi.symm ir
   .rw [step,ih2 i e (I hi) (λj hj=>by simpa using fe (j+1) X) (I he)]
    congr 3;omega
theorem a9Q{d:TypeDesc}(bh:∀M w a v,RV M w (kc a) v->v=kv a)(hrv':∀M w a,RV M w (kc a) (kv a))(hu:∀w,(underlying kt).run P w= .ok d w)(hs:∀a b,Instr.sameNow d (kv a) (kv b)=some (decide (a=b)))
 (hc:∀b a w,(Instr.checkKey b 10000 kt (kv a)).run P w= .ok () w)(hb:∀a,Instr.sameBits 10000 (kv a) (kv a)=true):W4 P kt kc kv where
 rv:=bh
 rv':=hrv'
 check:=hc
 bits:=hb
 none a l af h1 h2 h3 w:=by simp[Instr.findKey,hu,(a5R hs a l af 0 h1 h2).1 h3]
 some a l af h1 h2 i e h3 h4 h5 w:=by
  have:=(a5R hs a l af 0 h1 h2).2 i e h3 h4 h5;simp[Instr.findKey,hu,this]
theorem a5I(heq:∀a b w,(Op.equal kt (kv a) (kv b)).run P w= .ok (decide (a=b)) w)(a:α):∀(l:List α) (af:List MapEntry) (n:Nat),af.length=l.length->(∀(i:Nat) (x:α),l[i]?=some x->∃e,af[i]?=some e/\e.key=kv x) ->
 (a∉l->∀w,(Instr.findAsking kt (kv a) af n).run P w= .ok none w)/\∀(i:Nat) (e:MapEntry),l[i]?=some a->(∀j,j<i->l[j]?≠some a)->af[i]?=some e->∀w,(Instr.findAsking kt (kv a) af n).run P w= .ok (some (n+i,e.val)) w
 | [],[],n,_,_=>⟨λ_ w=>by simp[Instr.findAsking],λi e h=>by simp at h⟩
 | [],_::_,_,h,_=>by simp at h
 |_::_,[],_,h,_=>by simp at h
 |x::l,e0::af,n,hl,hh=>by
  obtain⟨e',he,hk⟩:=hh 0 x J;simp at he;subst he;obtain⟨ih1,ih2⟩:=a5I heq a l af (n+1) (I hl) λi y hi=>hh (i+1) y (I hi);by_cases ir:a=x
  .subst ir;refine⟨λh=>absurd H h,λi e hi fe he w=>?_⟩
   rcases i with _|i
   .simp at he;subst he;simp[Instr.findAsking,hk,heq]
   .exact absurd J (fe 0 X)
  .have step:∀w,(Instr.findAsking kt (kv a) (e0::af) n).run P w=(Instr.findAsking kt (kv a) af (n+1)).run P w:=λw=>by simp[Instr.findAsking,hk,heq,ir]
   refine⟨λh w=>by rw[step];exact ih1 (λhm=>h (by simp[hm])) w,λi e hi fe he w=>?_⟩
   rcases i with _|i
   .simp at hi;exact absurd hi.symm ir
   .rw [step,ih2 i e (I hi) (λj hj=>by simpa using fe (j+1) X) (I he)]
    congr 3;omega
theorem d3T.find(hK:d3T P kt kc kv):W4 P kt kc kv where
 rv:=hK.rv
 rv':=hK.rv'
 check:=hK.check
 bits:=hK.bits
 none a l af h1 h2 h3 w:=by
  obtain⟨d,hd,hs⟩:=hK.now;cases af with
  |nil=>simp[Instr.findKey,hd,Instr.findNow]
  |cons e af=>
   cases l with
   |nil=>simp at h1
   |cons x l=>
    obtain⟨e',he,hk⟩:=h2 0 x J;simp at he;subst he;have hn:Instr.findNow d (kv a) (e::af) 0= .none:=by simp[Instr.findNow,hk,hs]
    simp[Instr.findKey,hd,hn,(a5I hK.eq a (x::l) (e::af) 0 h1 h2).1 h3]
 some a l af h1 h2 i e h3 h4 h5 w:=by
  obtain⟨d,hd,hs⟩:=hK.now;cases af with
  |nil=>simp at h5
  |cons e0 af=>
   cases l with
   |nil=>simp at h1
   |cons x l=>
    obtain⟨e',he,hk⟩:=h2 0 x J;simp at he;subst he;have hn:Instr.findNow d (kv a) (e0::af) 0= .none:=by simp[Instr.findNow,hk,hs]
    have:=(a5I hK.eq a (x::l) (e0::af) 0 h1 h2).2 i e h3 h4 h5 w;simp[Instr.findKey,hd,hn,this]
end
theorem c9V(k:IntKind)(hu:∀w,(underlying kt).run P w= .ok (.int k) w):W4 (α:=Int) P kt (λa=>.val (.int k a)) (λa=>.int k a):=
 a9Q (λ_ _ _ _ h=>r4 h) (λ_ _ _=>.val _) hu (λa b=>by simp[Instr.sameNow];rfl)
  (λb a w=>by
   have:∀n,(Instr.checkKey b (n+1) kt (.int k a)).run P w= .ok () w:=λn=>by simp[Instr.checkKey,hu]
   exact this 9999)
  (λa=>by
   have:∀n,Instr.sameBits (n+1) (.int k a) (.int k a)=true:=λn=>by simp[Instr.sameBits]
   exact this 9999)
theorem b6i(a b:U):(str a == str b)=decide (a=b):=by
 have h:(str a == str b)=((str a).data ==(str b).data):=J;rw[h];by_cases e:a=b
 .subst e;simp
 .have:¬(str a).data=(str b).data:=λh'=>e (by simpa[str]using h');simp[e,this]
theorem e0A(hu:∀w,(underlying kt).run P w= .ok .string w):W4 (α:=U) P kt sv (λa=>.string (str a)):=
 a9Q (λ_ _ _ _ h=>r4 h) (λ_ _ _=>.val _) hu (λa b=>by
  simp only[Instr.sameNow];rw[b6i])
  (λb a w=>by
   have:∀n,(Instr.checkKey b (n+1) kt (.string (str a))).run P w= .ok () w:=λn=>by simp[Instr.checkKey,hu]
   exact this 9999)
  (λa=>by
   have:∀n,Instr.sameBits (n+1) (.string (str a)) (.string (str a))=true:=λn=>by simp[Instr.sameBits,b6i]
   exact this 9999)
def gm{α β:Type}(kc:α->CV)(vc:β->CV)(l:List (α×β)):List (CV×CV):=l.map λx=>(kc x.1,vc x.2)
def glk{α β:Type} [DecidableEq α]:List (α×β)->α->Option β
 | [],_=>none
 |(b,c)::l,a=>if a=b then some c else glk l a
def V8{α β:Type} [DecidableEq α]:List (α×β)->α->β->List (α×β)
 | [],a,c=>[(a,c)]
 |(b,d)::l,a,c=>if a=b then(b,c)::l else(b,d)::V8 l a c
theorem b6F [DecidableEq α](l:List (α×Int))(a:α):((glk l a).map λv:Int=>CV.val (.int .i64 v)).getD (I5 (.int .i64 0))= .val (.int .i64 ((glk l a).getD 0)):=by cases glk l a<;>rfl
theorem b2e [DecidableEq α]{l:List (α×β)}:glk l a=none↔a∉l.map (·.1):=by
 induction l with
 |nil=>simp[glk]
 |cons x l ih=>
  obtain⟨b,c⟩:=x;by_cases h:a=b
  .simp [glk,h]
  .simp [glk,h,ih]
theorem a8L{α β:Type} [DecidableEq α]:∀{l:List (α×β)} {a:α} {c:β},glk l a=some c->∃i:Nat,l[i]?=some (a,c)/\∀j,j<i->(l.map (·.1))[j]?≠some a
 | [],_,_,h=>by cases h
 |(b,d)::l,a,c,h=>by
  by_cases cI:a=b
  .rw [glk,F cI]at h;injection h with h
   subst h cI;exact⟨0,J,λj hj=>by omega⟩
  .rw [glk,D cI]at h;obtain⟨i,h1,h2⟩:=a8L h;refine⟨i+1,I h1,λj hj=>?_⟩
   rcases j with _|j
   .simpa using λe=>cI e.symm
   .simpa using h2 j X
theorem c6O [DecidableEq α]{l:List (α×β)}{c:β}(h:glk l a=none):V8 l a c=l++[(a,c)]:=by
 induction l with
 |nil=>rfl
 |cons x l ih=>
  obtain⟨b,d⟩:=x;by_cases cI:a=b
  .rw [glk,F cI]at h;cases h
  .rw [glk,D cI]at h;rw[V8,D cI,ih h];rfl
theorem b47{α β:Type} [DecidableEq α]{c d:β}{a:α}:∀{l:List (α×β)} {i:Nat},l[i]?=some (a,d)->(∀j,j<i->(l.map (·.1))[j]?≠some a)->V8 l a c=l.set i (a,c)
 | [],i,h,_=>by simp at h
 |(b,e)::l,i,h,hm=>by
  rcases i with _|i
  .simp at h;rw[V8,F h.1.symm,h.1];rfl
  .have cI:¬a=b:=λe=>hm 0 X a2f;rw[V8,D cI,b47 (I h) (λj hj=>by simpa using hm (j+1) X)];rfl
theorem Q1 [DecidableEq α](l:List (α×β))(a b:α)(c:β):glk (V8 l a c) b=if b=a then some c else glk l b:=by
 induction l with
 |nil=>rfl
 |cons x l ih=>
  obtain⟨k,d⟩:=x;by_cases hak:a=k
  .subst hak;rw[V8,F J,glk,glk];by_cases h:b=a<;>simp[h]
  .rw [V8,D hak,glk,glk,ih];by_cases h:b=k
   .subst h;rw[F J,F J,D (λe=>hak e.symm)]
   .rw [D h,D h]
section
variable [DecidableEq α]{kc:α->CV}{kv:α->Value}{vc:β->CV}
theorem c9m(hK:W4 C.P kt kc kv){l:List (α×β)}(h:S8 M w p (.map (gm kc vc l))):
 ∃af aj,w.heap[p.block]?=some (.map af aj)/\(af.size=l.length/\b2a af)/\(∀(i:Nat) (x:α),(l.map (·.1))[i]?=some x->∃e,af.toList[i]?=some e/\e.key=kv x)/\∀(i:Nat) (x:α×β),l[i]?=some x->∃e,af[i]?=some e/\e.key=kv x.1/\RV M w (vc x.2) e.val/\e.born <aj:=by
 obtain⟨af,aj,h1,h2,h3⟩:=h;have key:∀(i:Nat) (x:α×β),l[i]?=some x->∃e,af[i]?=some e/\e.key=kv x.1/\RV M w (vc x.2) e.val/\e.born <aj:=λi x hi=>by
  obtain⟨e,he,hk,hv,hb⟩:=h3 i (kc x.1,vc x.2) (by simp[gm,hi]);exact⟨e,he,hK.rv _ _ _ _ hk,hv,hb⟩
 refine⟨af,aj,h1,⟨by simpa[gm]using h2.1,h2.2⟩,λi x hi=>?_,key⟩;rw[O5,P2]at hi;obtain⟨y,hy,rfl⟩:=hi;obtain⟨e,he,hk,_⟩:=key i y hy;exact⟨e,I he,hk⟩
theorem a8j(hK:W4 C.P kt kc kv){l:List (α×β)}{ok:Bool}(h:S8 M w p (.map (gm kc vc l)))(hu:∀w,(underlying t).run C.P w= .ok (.map kt et) w)(hz:∀w,(zeroValue et).run C.P w= .ok z w):
 match glk l a with
 |none=>(Instr.lookup t (.map (some p.block)) (kv a) ok).run C.P w= .ok (if ok=true then .tuple #[z,.bool false]else z) w
 |some c=>∃v,RV M w (vc c) v/\(Instr.lookup t (.map (some p.block)) (kv a) ok).run C.P w= .ok (if ok=true then .tuple #[v,.bool true]else v) w:=by
 obtain⟨af,aj,g1,g2,g3,g4⟩:=c9m hK h;have ak:af.toList.length=(l.map (·.1)).length:=I g2.1;cases fQ:glk l a with
 |none=>
  have hf:=hK.none a (l.map (·.1)) af.toList ak g3 (b2e.1 fQ) w;cases ok<;>simp[Instr.lookup,hu,O7 g1,hK.check,hf,hz]
 |some c=>
  obtain⟨i,h1,h2⟩:=a8L fQ;obtain⟨e,e1,_,e3,_⟩:=g4 i (a,c) h1;have hf:=hK.some a (l.map (·.1)) af.toList ak g3 i e (by simp[h1]) h2 (I e1) w;exact⟨e.val,e3,by cases ok<;>simp[Instr.lookup,hu,O7 g1,hK.check,hf]⟩
theorem U4(hK:W4 C.P kt kc kv){l:List (α×β)}(ho:o.op = .lookup t m kx false)(hm:E.valid m)(hk:E.valid kx)(em:E.val C m= .map q)(ek:E.val C kx=kc a)
 (hu:∀w,(underlying t).run C.P w= .ok (.map kt et) w)(hz:∀w,(zeroValue et).run C.P w= .ok z w)(bP:M6 z=true)(ao:σ[q]?=some (.map (gm kc vc l)))(hc:((glk l a).map vc).getD (I5 z)=c):m0 C σ E o c:=
 i8 λM w ρ hr h=>by
  have h1:=h m w8 hm;have h2:=h kx w8 hk;rw[em]at h1;rw[ek]at h2;have dr:=hK.rv _ _ _ _ h2;generalize hv:ρ m=v at h1;cases h1 with
  |map hp=>
   rename_i p;have hl:=a8j hK (t:=t) (a:=a) (ok:=false) (hr.obj q p _ hp ao).1 hu hz;subst hc;cases fQ:glk l a with
   |none=>
    rw[fQ]at hl;exact⟨z,by simp[execOp,ho,hv,dr,hl],a0D bP⟩
   |some c=>
    rw[fQ]at hl;obtain⟨u,f1,f2⟩:=hl;exact⟨u,by simp[execOp,ho,hv,dr,f2],f1⟩
theorem a4f(hK:W4 C.P kt kc kv){l:List (α×β)}(ho:o.op = .lookup t m kx true)(hm:E.valid m)(hk:E.valid kx)(em:E.val C m= .map q)(ek:E.val C kx=kc a)
 (hu:∀w,(underlying t).run C.P w= .ok (.map kt et) w)(hz:∀w,(zeroValue et).run C.P w= .ok z w)(bP:M6 z=true)(ao:σ[q]?=some (.map (gm kc vc l)))(hc:((glk l a).map vc).getD (I5 z)=c):m0 C σ E o (.tup [c,.val (.bool (glk l a).isSome)]):=
 i8 λM w ρ hr h=>by
  have h1:=h m w8 hm;have h2:=h kx w8 hk;rw[em]at h1;rw[ek]at h2;have dr:=hK.rv _ _ _ _ h2;have tup:∀{c:CV} {v:Value} {b:Bool},RV M w c v->RV M w (.tup [c,.val (.bool b)]) (.tuple #[v,.bool b]):=λ{c v b} hcv=>.tup J λi x hi=>by
   rcases i with _|_|i
   .simp at hi;subst hi;exact hcv
   .simp at hi;subst hi;exact .val _
   .simp at hi
  generalize hv:ρ m=v at h1;cases h1 with
  |map hp=>
   rename_i p;have hl:=a8j hK (t:=t) (a:=a) (ok:=true) (hr.obj q p _ hp ao).1 hu hz;subst hc;cases fQ:glk l a with
   |none=>
    rw[fQ]at hl;exact⟨.tuple #[z,.bool false],by simp[execOp,ho,hv,dr,hl],tup (a0D bP)⟩
   |some c=>
    rw[fQ]at hl;obtain⟨u,f1,f2⟩:=hl;exact⟨.tuple #[u,.bool true],by simp[execOp,ho,hv,dr,f2],tup f1⟩
theorem b3S(hK:W4 C.P kt kc kv){l:List (α×β)}{b:β}(hr:Rel C M σ w)(hp:M.pl[q]?=some p)(ao:σ[q]?=some (.map (gm kc vc l)))(hv:RV M w (vc b) v)
 (hu:∀w,(underlying t).run C.P w= .ok (.map kt et) w):∃w',(Instr.mapUpdate t (.map (some p.block)) (kv a) v).run C.P w= .ok () w'/\Ext M w M w'/\Rel C M (σ.set q (.map (gm kc vc (V8 l a b)))) w':=by
 obtain⟨af,aj,g1,g2,g3,g4⟩:=c9m hK (hr.obj q p _ hp ao).1;have ak:af.toList.length=(l.map (·.1)).length:=I g2.1;have bv:∀(i:Nat) (e:MapEntry),af[i]?=some e->e.born <aj:=λi e he=>by
  have ab:i<l.length:=by rw[<- g2.1];exact(a1Z.1 he).1
  obtain⟨e',h1,_,_,h4⟩:=g4 i l[i] (by simp[ab]);rw[he]at h1;injection h1 with h1
  rw[h1];exact h4
 cases fQ:glk l a with
 |none=>
  have hf:=hK.none a (l.map (·.1)) af.toList ak g3 (b2e.1 fQ) w;refine⟨World.putObj w p.block (.map (af.push {key:=kv a,val:=v,born:=aj}) (aj+1)),by simp[Instr.mapUpdate,hu,O7 g1,hK.check,hf,a56 _ g1],?_⟩;rw[c6O fQ];exact hr.setObj (es':=gm kc vc (l++[(a,b)])) hp ao (by simp[gm,g2.1]) (g2.2.push bv J) (λi x hi=>by
   obtain⟨y,hy,rfl⟩:∃y,(l++[(a,b)])[i]?=some y/\(kc y.1,vc y.2)=x:=by unfold gm at hi;rwa[O5,P2]at hi
   rw[a7p]at hy;split at hy
   .obtain ⟨e,q1,q2,q3,q4⟩:=g4 i y hy;have ab:i<af.size:=(a1Z.1 q1).1;exact⟨e,by rw[c0a,D X];exact q1,by rw[q2];exact hK.rv' _ _ _,q3,X⟩
   .rename_i aF;have ab:=(n_3.1 hy).1;simp at ab;have hi0:i=l.length:=by omega
    subst hi0;simp at hy;subst hy;exact⟨_,by rw[c0a,F X],hK.rv' _ _ _,hv,H⟩)
 |some c=>
  obtain⟨i,h1,h2⟩:=a8L fQ;obtain⟨e,e1,e2,e3,e4⟩:=g4 i (a,c) h1;have hf:=hK.some a (l.map (·.1)) af.toList ak g3 i e (by simp[h1]) h2 (I e1) w;refine⟨World.putObj w p.block (.map (af.modify i λe=>{e with key:=kv a,val:=v}) aj),by simp[Instr.mapUpdate,hu,O7 g1,hK.check,hf,a56 _ g1,Instr.keyThatStays,e1,e2,hK.bits],?_⟩;rw[b47 h1 h2];exact hr.setObj (es':=gm kc vc (l.set i (a,b))) hp ao (by simp[gm,g2.1]) (g2.2.modify λ_=>J) (λj x hj=>by
   obtain⟨y,hy,rfl⟩:∃y,(l.set i (a,b))[j]?=some y/\(kc y.1,vc y.2)=x:=by unfold gm at hj;rwa[O5,P2]at hj
   rw[a9z]at hy;split at hy
   .rename_i hij;subst hij;split at hy
    .injection hy with hy
     subst hy;exact⟨{e with key:=kv a,val:=v},by rw[b7U,F rfl,e1];rfl,hK.rv' _ _ _,hv,e4⟩
    .cases hy
   .rename_i hij;obtain⟨e',q1,q2,q3,q4⟩:=g4 j y hy;exact⟨e',by rw[b7U,D hij];exact q1,by rw[q2];exact hK.rv' _ _ _,q3,q4⟩)
theorem o3(hK:W4 C.P kt kc kv){vx:Operand}{l:List (α×β)}{b:β}(ho:o.op = .mapUpdate t m kx vx\/o.op = .insert t m kx vx)(hm:E.valid m)(hk:E.valid kx)(hv:E.valid vx)(em:E.val C m= .map q)(ek:E.val C kx=kc a)(ev:E.val C vx=vc b)
 (hu:∀w,(underlying t).run C.P w= .ok (.map kt et) w)(ao:σ[q]?=some (.map (gm kc vc l)))(hQ:K (.ret (.val undef)) (σ.set q (.map (gm kc vc (V8 l a b))))):H4 C σ E o K:=λM w ρ hr h=>by
 have hops:m∈o.op.operands/\kx∈o.op.operands/\vx∈o.op.operands:=by rcases ho with ho|ho<;>simp[ho,Op.operands]
 have h1:=h m hops.1 hm;have h2:=h kx hops.2.1 hk;have h3:=h vx hops.2.2 hv;rw[em]at h1;rw[ek]at h2;rw[ev]at h3;have dr:=hK.rv _ _ _ _ h2;generalize hum:ρ m=um at h1;cases h1 with
 |map hp=>
  rename_i p;obtain⟨w',av,hx,bp⟩:=b3S hK (a:=a) (b:=b) hr hp ao h3 hu;have dD:(execOp ρ o).run C.P w= .ok .skip w':=by
   rcases ho with ho|ho<;>simp[execOp,ho,hum,dr,av]
  rw[dD];exact⟨.val undef,_,M,hx,bp,.val _,hQ⟩
end
theorem a7H(w:World)(arr:Array Value)(e:TypeId)(n:Nat):(w.alloc (.cells arr e)).freeze ⟨w.heap.size,n,none⟩ 1=w.alloc (.cells arr e (n,n+1)):=by
 unfold World.freeze World.alloc;rw[D X]
 congr 1
 apply Array.ext
 .simp
 .intro i h1 h2;simp at h1 h2;rw[Array.getElem_modify];by_cases hi:w.heap.size=i
  .subst hi;simp
  .rw [D hi];rw[Array.getElem_push_lt X,Array.getElem_push_lt X]
section
theorem d7E(ho:o.op = .convert src dst x)(hx:E.valid x)(ex:E.val C x=sv l)(hs:∀w,(underlying src).run C.P w= .ok .string w)(hd:∀w,(underlying dst).run C.P w= .ok (.slice e) w)(he:∀w,(underlying e).run C.P w= .ok (.int .u8) w)(hl:l.length<=1000000000000):m0 C σ E o (.list (l.map bcv) true none):=λM w ρ hr h=>by
 have h1:=h x w8 hx;rw[ex]at h1;have hv:=r4 h1;obtain⟨dX,gQ⟩:=hr.drew;obtain⟨c,bW,cr,dh⟩:∃c,l.length<=c/\c<=9223372036854775807/\(choose (.appendCap l.length 0 e)).run C.P w= .ok c w.drew:=by
  refine⟨(Question.appendCap l.length 0 e).cut (w.tape w.drawn (.appendCap l.length 0 e)),by simp[Question.cut],?_,b1R J⟩;simp only[Question.cut];have:w.tape w.drawn (.appendCap l.length 0 e)%(2^63-l.length)<2^63-l.length:=a4l _ X;omega
 generalize hA:(((str l).data.map λb:UInt8=>Value.int .u8 (b.toNat:Int))++Array.replicate (c-l.length) (Value.int .u8 0))=A;have hAs:A.size=c:=by
  rw[<- hA];simp[str];omega
 have av:(execOp ρ o).run C.P w= .ok (.value (.slice (some ⟨w.heap.size,0,none⟩) l.length c)) (w.drew.alloc (.cells A e (c,c+1))):=by
  have hsh:((w.drew.alloc (.cells A e)).shape? w.heap.size)=some (e,c):=by
   have:=B3 w.drew (.cells A e);simp only[World.shape?];rw[show w.heap.size=w.drew.heap.size from J,this];simp[hAs]
  have hm:(markStringish ⟨w.heap.size,0,none⟩).run C.P (w.drew.alloc (.cells A e))= .ok () (w.drew.alloc (.cells A e (c,c+1))):=by
   have:=a7H w.drew A e c;simp only[markStringish,shape,freeze,Sem.run_bind];simp only[Sem.run,hsh,Result.andThen_ok];rw[show w.heap.size=w.drew.heap.size from J,this]
  simp only[execOp,ho,hv,convert,Sem.run_bind,hs,hd,Result.andThen_ok,he,Conv.stringToBytes,a5Q,dh,newRow,hA];simp only[newObj,Sem.run,Result.andThen_ok];rw[show(w.drew.heap.size)=w.heap.size from J];simp only[Sem.run_pure,Result.andThen_ok];have e0:({heap:=w.drew.heap.push (.cells A e),tape:=w.drew.tape,drawn:=w.drew.drawn,os:=w.drew.os,output:=w.drew.output}:World)=w.drew.alloc (.cells A e):=J;rw[e0,hm];simp only[Result.andThen_ok]
 rw[av];obtain⟨aM,aX⟩:=dX.allocFull (.cells A e (c,c+1));have aq:∀(i:Nat) (b:UInt8),l[i]?=some b->A[i]?=some (.int .u8 b.toNat):=λi b hb=>by
  have ab:=(n_3.1 hb).1;rw[<- hA,b5D (by simp[str];exact ab)];simp[str,hb]
 have gB:RV (M.settle w.drew.heap.size) (w.drew.alloc (.cells A e (c,c+1))) (.list (l.map bcv) true none) (.slice (some ⟨w.drew.heap.size,0,none⟩) (l.map bcv).length c):=by
  refine .list (b:=w.drew.heap.size) (off:=0) (s:=1) (λi _=>A.getD i undef) (I bW) (by unfold maxLen;omega) J (λh=>by cases h) a0b (λr hr=>?_) (λr hr c hc=>?_) (λi j r c' hi hj=>?_) (λi j r c' hi hj=>?_) (λk hk=>by cases hk)
  .obtain ⟨b,_,rfl⟩:=D5.1 hr;rfl
  .obtain ⟨b,_,rfl⟩:=D5.1 hr;simp[bcv]at hc;subst hc;rfl
  .rw [O5,P2]at hi;obtain⟨b,hb,rfl⟩:=hi;have hj0:j=0:=by
    have:=(n_3.1 hj).1;simp[bcv]at this;exact this
   subst hj0;refine⟨.inl (.inr J),?_⟩;simp only[World.cell?,B3];have:=aq i b hb;simp[this]
  .rw [O5,P2]at hi;obtain⟨b,hb,rfl⟩:=hi;have hj0:j=0:=by
    have:=(n_3.1 hj).1;simp[bcv]at this;exact this
   subst hj0;simp[bcv]at hj;subst hj;have:=aq i b hb;rw[a0U,this];exact .val _
 rw[L7]at gB;exact⟨_,σ,_,gQ.trans aM,aX,gB,J,J⟩
theorem a4b{f:Nat}{fs:Array Field}{fd:Field}(ho:o.op = .field t x f)(hx:E.valid x)(ex:E.val C x= .agg cells)(hu:∀w,(underlying t).run C.P w= .ok (.struct fs) w)(hf:fs[f]?=some fd)(ha:∀w,(isAgg fd.type).run C.P w= .ok false w)(hc:cells[fd.offset]?=some c):m0 C σ E o c:=
 i8 λM w ρ hr h=>by
  have h1:=h x w8 hx;rw[ex]at h1;generalize hv:ρ x=v at h1;cases h1 with
  |agg g1 g2 g3=>
   rename_i vs;have ab:fd.offset <vs.size:=by rw[g1];exact(n_3.1 hc).1
   refine⟨vs.getD fd.offset undef,?_,g3 _ _ hc⟩;simp[execOp,ho,hv,Instr.field,hu,hf,part,ha,asAgg,ab]
theorem d6l(ho:o.op = .panic x)(hx:E.valid x)(ex:E.val C x=c)(hn:∀M w v,RV M w c v->∃t u,v= .iface t u)(hk:K (.pan c) σ):H4 C σ E o K:=λM w ρ hr h=>by
 have h1:=h x w8 hx;rw[ex]at h1;obtain⟨t,u,hv⟩:=hn M w _ h1;have av:(execOp ρ o).run C.P w= .halt (.panic (ρ x)) w:=by
  simp[execOp,ho,hv,Instr.panic]
 rw[av];exact⟨c,ρ x,σ,M,J,Ext.refl M w,hr,h1,hk⟩
end
inductive R1(R:Nat->Nat->Prop):CV->CV->Prop where
 |val (v:Value):R1 R (.val v) (.val v)
 |agg {cs aS:List CV}:cs.length=aS.length->(∀(i:Nat) (c c':CV),cs[i]?=some c->aS[i]?=some c'->R1 R c c')->R1 R (.agg cs) (.agg aS)
 |tup {cs aS:List CV}:cs.length=aS.length->(∀(i:Nat) (c c':CV),cs[i]?=some c->aS[i]?=some c'->R1 R c c')->R1 R (.tup cs) (.tup aS)
 |clo {f:FuncId} {cs aS:List CV}:cs.length=aS.length->(∀(i:Nat) (c c':CV),cs[i]?=some c->aS[i]?=some c'->R1 R c c')->R1 R (.clo f cs) (.clo f aS)
 |list {Y rows':List (List CV)} {nn:Bool} {tok gc:Option Nat}:Y.length=rows'.length->(∀(i:Nat) (r r':List CV),Y[i]?=some r->rows'[i]?=some r'->r.length=r'.length) ->
  (∀(i j:Nat) (r r':List CV) (c c':CV),Y[i]?=some r->rows'[i]?=some r'->r[j]?=some c->r'[j]?=some c'->R1 R c c')->((tok=none/\gc=none)\/∃k k',tok=some k/\gc=some k'/\R k k')->R1 R (.list Y nn tok) (.list rows' nn gc)
 |ptr {k k' off:Nat}:R k k'->R1 R (.ptr k off) (.ptr k' off)
 |cptr {cells bU:List CV}:cells.length=bU.length->(∀(i:Nat) (c c':CV),cells[i]?=some c->bU[i]?=some c'->R1 R c c')->R1 R (.cptr cells) (.cptr bU)
 |eptr {k k' i off:Nat}:R k k'->R1 R (.eptr k i off) (.eptr k' i off)
 |vec {k k' off len:Nat}:R k k'->R1 R (.vec k off len) (.vec k' off len)
 |map {k k':Nat}:R k k'->R1 R (.map k) (.map k')
 |yld {k k':Nat}:R k k'->R1 R (.yld k) (.yld k')
theorem R1.one(h:R1 R c c'):c'.one=c.one:=by cases h<;>rfl
theorem R1.symm(hR:∀k k',R k k'->R' k' k)(h:R1 R c c'):R1 R' c' c:=by
 induction h with
 |val v=>exact .val v
 |agg h1 _ ih=>exact .agg h1.symm λi c c' h h'=>ih i c' c h' h
 |tup h1 _ ih=>exact .tup h1.symm λi c c' h h'=>ih i c' c h' h
 |clo h1 _ ih=>exact .clo h1.symm λi c c' h h'=>ih i c' c h' h
 |list h1 h2 _ h4 ih=>exact .list h1.symm (λi r r' h h'=>(h2 i r' r h' h).symm) (λi j r r' c c' a b d e=>ih i j r' r c' c b a e d) (h4.imp (λ⟨a,b⟩=>⟨b,a⟩) λ⟨k,k',a,b,d⟩=>⟨k',k,b,a,hR _ _ d⟩)
 |ptr h=>exact .ptr (hR _ _ h)
 |cptr h1 _ ih=>exact .cptr h1.symm λi c c' h h'=>ih i c' c h' h
 |eptr h=>exact .eptr (hR _ _ h)
 |vec h=>exact .vec (hR _ _ h)
 |map h=>exact .map (hR _ _ h)
 |yld h=>exact .yld (hR _ _ h)
theorem R1.pure(h:r5 c):R1 R c c:=by
 induction h with
 |val v=>exact .val v
 |agg _ ih=>
  refine .agg J λi c c' h h'=>?_;rw[h]at h';injection h' with h';subst h'
  exact ih c (n_2 h)
 |tup _ ih=>
  refine .tup J λi c c' h h'=>?_;rw[h]at h';injection h' with h';subst h'
  exact ih c (n_2 h)
 |clo _ ih=>
  refine .clo J λi c c' h h'=>?_;rw[h]at h';injection h' with h';subst h'
  exact ih c (n_2 h)
 |list _ ih=>
  refine .list J (λi r r' h h'=>?_) (λi j r r' c c' h h' g g'=>?_) (.inl ⟨J,J⟩)
  .rw [h]at h';injection h' with h';subst h';rfl
  .rw [h]at h';injection h' with h';subst h'
   rw[g]at g';injection g' with g';subst g'
   exact ih r (n_2 h) c (n_2 g)
theorem RV.renR{R:Nat->Nat->Prop}{M M':B2}{w:World}(hR:∀(k k':Nat) (p:Pl),R k k'->M.pl[k]?=some p->M'.pl[k']?=some p)(aV:∀b o,M.at b o->M'.at b o){c:CV}{v:Value}(h:RV M w c v):∀{c':CV},R1 R c c'->RV M' w c' v:=by
 induction h with
 |val v=>intro c' hr;cases hr;exact .val v
 |agg h1 h2 _ ih=>
  intro c' hr;cases hr with
  |agg e1 e2=>
   refine .agg (by rw[h1,e1]) (λc hc=>?_) λi c hi=>?_
   .obtain ⟨i,hi⟩:=N0.1 hc;obtain⟨y,hy⟩:=r7 e1 hi;rw[(e2 i y c hy hi).one];exact h2 y (n_2 hy)
   .obtain ⟨y,hy⟩:=r7 e1 hi;exact ih i y hy (e2 i y c hy hi)
 |tup h1 _ ih=>
  intro c' hr;cases hr with
  |tup e1 e2=>
   refine .tup (by rw[h1,e1]) λi c hi=>?_;obtain⟨y,hy⟩:=r7 e1 hi;exact ih i y hy (e2 i y c hy hi)
 |clo h1 _ ih=>
  intro c' hr;cases hr with
  |clo e1 e2=>
   refine .clo (by rw[h1,e1]) λi c hi=>?_;obtain⟨y,hy⟩:=r7 e1 hi;exact ih i y hy (e2 i y c hy hi)
 | @list Y nn tok a cap b off s vals h1 h2 h3 h4 h5 h6 h7 h8 _ bb ih=>
  intro c' hr;cases hr with
  | @list _ rows' _ _ gc e1 e2 e3 e4=>
   have ay:rows'≠[]->Y≠[]:=λhn h0=>by
    rw[h0]at e1;exact hn (b2K e1.symm)
   have bS:∀{i:Nat} {r':List CV},rows'[i]?=some r'->∃r,Y[i]?=some r:=λhi=>r7 e1 hi;rw[e1];refine .list (s:=s) vals (by rw[<- e1];exact h1) h2 h3 h4 (λhn=>h5 (ay hn)) (λr' bp=>?_) (λr' bp c' bJ=>?_) (λi j r' c' hi hj=>?_) (λi j r' c' hi hj=>?_) (λk hk=>?_)
   .obtain ⟨i,hi⟩:=N0.1 bp;obtain⟨r,hr⟩:=bS hi;rw[<- e2 i r r' hr hi];exact h6 r (n_2 hr)
   .obtain ⟨i,hi⟩:=N0.1 bp;obtain⟨r,hr⟩:=bS hi;obtain⟨j,hj⟩:=N0.1 bJ;obtain⟨c,hc⟩:=r7 (e2 i r r' hr hi) hj;rw[(e3 i j r r' c c' hr hi hc hj).one];exact h7 r (n_2 hr) c (n_2 hc)
   .obtain ⟨r,hr⟩:=bS hi;obtain⟨c,hc⟩:=r7 (e2 i r r' hr hi) hj;have:=h8 i j r c hr hc;exact⟨aV _ _ this.1,this.2⟩
   .obtain ⟨r,hr⟩:=bS hi;obtain⟨c,hc⟩:=r7 (e2 i r r' hr hi) hj;exact ih i j r c hr hc (e3 i j r r' c c' hr hi hc hj)
   .rcases e4 with⟨_,e4⟩|⟨k0,k1,e5,e6,e7⟩
    .rw [e4]at hk;cases hk
    .rw [e6]at hk;injection hk with hk
     subst hk;obtain⟨s',f1,f2,f3,f4⟩:=bb k0 e5;exact⟨s',hR _ _ _ e7 f1,f2,f3,λhn=>f4 (ay hn)⟩
 |ptr hk=>intro c' hr;cases hr with|ptr e=>exact .ptr (hR _ _ _ e hk)
 |cptr vals h1 h2 _ ih=>
  intro c' hr;cases hr with
  |cptr e1 e2=>
   refine .cptr vals (λc hc=>?_) (λj c hj=>?_) (λj c hj=>?_)
   .obtain ⟨i,hi⟩:=N0.1 hc;obtain⟨y,hy⟩:=r7 e1 hi;rw[(e2 i y c hy hi).one];exact h1 y (n_2 hy)
   .obtain ⟨y,hy⟩:=r7 e1 hj;exact⟨aV _ _ (h2 j y hy).1,(h2 j y hy).2⟩
   .obtain ⟨y,hy⟩:=r7 e1 hj;exact ih j y hy (e2 j y c hy hj)
 |eptr hk=>intro c' hr;cases hr with|eptr e=>exact .eptr (hR _ _ _ e hk)
 |vec hk h1 h2 h3=>intro c' hr;cases hr with|vec e=>exact .vec (hR _ _ _ e hk) h1 h2 h3
 |map hk=>intro c' hr;cases hr with|map e=>exact .map (hR _ _ _ e hk)
 |yld hk=>intro c' hr;cases hr with|yld e=>exact .yld (hR _ _ _ e hk)
def a2g(R:Nat->Nat->Prop)(l l':List CV):Prop:=l.length=l'.length/\∀(i:Nat) (c c':CV),l[i]?=some c->l'[i]?=some c'->R1 R c c'
def c60(R:Nat->Nat->Prop)(l l':List (CV×CV)):Prop:=l.length=l'.length/\∀(i:Nat) (x x':CV×CV),l[i]?=some x->l'[i]?=some x'->R1 R x.1 x'.1/\R1 R x.2 x'.2
inductive I8(R:Nat->Nat->Prop):b9->b9->Prop where
 |dead:I8 R .dead .dead
 |box {t0:Option TypeId} {l l':List CV}:a2g R l l'->I8 R (.boxT t0 l) (.boxT t0 l')
 |tip {t0:Option TypeId} (n:Nat):I8 R (.tipT t0 n) (.tipT t0 n)
 |vec {s:Nat} {Y rows':List (List CV)}:Y.length=rows'.length->(∀(i:Nat) (r r':List CV),Y[i]?=some r->rows'[i]?=some r'->a2g R r r')->I8 R (.vec s Y) (.vec s rows')
 |map {es es':List (CV×CV)}:c60 R es es'->I8 R (.map es) (.map es')
 |iter {c c' l l':List (CV×CV)}:c60 R c c'->c60 R l l'->I8 R (.iter c l) (.iter c' l')
 |blk (o:Obj):I8 R (.blk o) (.blk o)
 |lp {o:Loop} {n:Nat} {cs aS:List (Nat×CV)}:cs.map Prod.fst=aS.map Prod.fst->(∀(i:Nat) (x x':Nat×CV),cs[i]?=some x->aS[i]?=some x'->R1 R x.2 x'.2)->I8 R (.lp o n cs) (.lp o n aS)
theorem I8.live{a:b9}(h:I8 R a b):b.live=a.live:=by cases h<;>rfl
theorem I8.symm(hR:∀k k',R k k'->R' k' k){a:b9}(h:I8 R a b):I8 R' b a:=by
 have hl:∀{l l':List CV},a2g R l l'->a2g R' l' l:=λh=>⟨h.1.symm,λi c c' g g'=>(h.2 i c' c g' g).symm hR⟩;have he:∀{l l':List (CV×CV)},c60 R l l'->c60 R' l' l:=λh=>⟨h.1.symm,λi c c' g g'=>⟨(h.2 i c' c g' g).1.symm hR,(h.2 i c' c g' g).2.symm hR⟩⟩;cases h with
 |dead=>exact .dead
 |box h=>exact .box (hl h)
 |tip n=>exact .tip n
 |vec h1 h2=>exact .vec h1.symm λi r r' g g'=>hl (h2 i r' r g' g)
 |map h=>exact .map (he h)
 |iter h1 h2=>exact .iter (he h1) (he h2)
 |blk o=>exact .blk o
 |lp h1 h2=>exact .lp h1.symm λi x x' g g'=>(h2 i x' x g' g).symm hR
theorem S8.renR{M':B2}(hR:∀(k k':Nat) (p:Pl),R k k'->M.pl[k]?=some p->M'.pl[k']?=some p)(aV:∀b o,M.at b o->M'.at b o)(eC:∀b,M.full b->M'.full b)(bO:∀b o,M'.cell b o->M.cell b o){a:b9}(h:S8 M w p a)(hr:I8 R a b):S8 M' w p b:=by
 cases hr with
 |dead=>trivial
 |box hl=>
  obtain⟨arr,ty,e1,e2,e3,e4⟩:=h;refine⟨arr,ty,e1,by rw[e2,hl.1],λc hc=>?_,λi c hi=>?_⟩
  .obtain ⟨i,hi⟩:=N0.1 hc;obtain⟨y,hy⟩:=r7 hl.1 hi;rw[(hl.2 i y c hy hi).one];exact e3 y (n_2 hy)
  .obtain ⟨y,hy⟩:=r7 hl.1 hi;exact(e4 i y hy).renR hR aV (hl.2 i y c hy hi)
 |tip n=>
  obtain⟨e1,e2,e3,e4⟩:=h;exact⟨e1,e2,⟨λo ho=>e3.1 o (bO _ _ ho),e3.2⟩,e4⟩
 |vec h1 h2=>
  obtain⟨e0,e1,e2,e3,e4,arr,ty,e5,e6,e7⟩:=h;refine⟨e0,by rw[<- h1];exact e1,e2,λr hr=>?_,λr hr c hc=>?_,arr,ty,e5,e6,λi j r c hi hj=>?_⟩
  .obtain ⟨i,hi⟩:=N0.1 hr;obtain⟨y,hy⟩:=r7 h1 hi;rw[<- (h2 i y r hy hi).1];exact e3 y (n_2 hy)
  .obtain ⟨i,hi⟩:=N0.1 hr;obtain⟨y,hy⟩:=r7 h1 hi;obtain⟨j,hj⟩:=N0.1 hc;obtain⟨d,hd⟩:=r7 (h2 i y r hy hi).1 hj;rw[((h2 i y r hy hi).2 j d c hd hj).one];exact e4 y (n_2 hy) d (n_2 hd)
  .obtain ⟨y,hy⟩:=r7 h1 hi;obtain⟨d,hd⟩:=r7 (h2 i y r hy hi).1 hj;exact(e7 i j y d hy hd).renR hR aV ((h2 i y r hy hi).2 j d c hd hj)
 |map he=>
  obtain⟨af,aj,e1,e2,e3⟩:=h;refine⟨af,aj,e1,⟨by rw[e2.1,he.1],e2.2⟩,λi x hi=>?_⟩;obtain⟨y,hy⟩:=r7 he.1 hi;obtain⟨e,g1,g2,g3,g4⟩:=e3 i y hy;exact⟨e,g1,g2.renR hR aV (he.2 i y x hy hi).1,g3.renR hR aV (he.2 i y x hy hi).2,g4⟩
 |iter hc hl=>
  obtain⟨mb,seen,bI,af,aj,e1,e2,e3,e4,e5,e6,e7,e8,e9⟩:=h;refine⟨mb,seen,bI,af,aj,e1,eC _ e2,e3,e4,e5,e6,by rw[e7,hl.1],λi x hi=>?_,λi x hi=>?_⟩
  .obtain ⟨y,hy⟩:=r7 hl.1 hi;obtain⟨e,g1,g2,g3⟩:=e8 i y hy;exact⟨e,g1,g2.renR hR aV (hl.2 i y x hy hi).1,g3.renR hR aV (hl.2 i y x hy hi).2⟩
  .obtain ⟨y,hy⟩:=r7 hc.1 hi;obtain⟨hla,j,e,g0,g1,g2,g3⟩:=e9 i y hy;exact⟨hla,j,e,g0,g1,g2.renR hR aV (hc.2 i y x hy hi).1,g3.renR hR aV (hc.2 i y x hy hi).2⟩
 |blk o=>exact h
 |lp h1 h2=>
  obtain⟨tm,e1,e2,e3⟩:=h;refine⟨tm,e1,e2,λx hx=>?_⟩;obtain⟨i,hi⟩:=N0.1 hx;obtain⟨y,hy⟩:=r7 (by simpa using n_8 List.length h1) hi;have hf:y.1=x.1:=by
   have:=n_8 (·[i]?) h1;simp[hy,hi]at this;exact this
  rw[<- hf];exact(e3 y (n_2 hy)).renR hR aV (h2 i y x hy hi)
inductive a7n(R:Nat->Nat->Prop):V7->V7->Prop where
 |ret {c c':CV}:R1 R c c'->a7n R (.ret c) (.ret c')
 |pan {c c':CV}:R1 R c c'->a7n R (.pan c) (.pan c')
def a0K(am:List Nat)(n:Nat)(i k:Nat):Prop:=am[i]?=some k\/(am.length<=i/\k=n+(i-am.length))
theorem I9(am:List Nat)(hC:C.plain)(ak:am.length=obs.length)(cw:∀(i j k:Nat),am[i]?=some k->am[j]?=some k->i=j)
 (cV:∀(i k:Nat) (ob:b9),am[i]?=some k->obs[i]?=some ob->∃aL,σ[k]?=some aL/\I8 (λk i=>am[i]?=some k) aL ob)(ap:a2g (λk i=>am[i]?=some k) args' args)
 {K:V7->List b9->Prop}{K':V7->List b9->Prop}(h:b8 C f args obs K)
 (hK:∀r τ,K r τ->obs.length<=τ.length/\∃r' gS,a7n (a0K am σ.length) r r'/\gS.length=σ.length+(τ.length -obs.length)/\(∀k,k<σ.length->k∉am->gS[k]?=σ[k]?)/\(∀(i k:Nat) (x:b9),a0K am σ.length i k->τ[i]?=some x->∃x',gS[k]?=some x'/\I8 (a0K am σ.length) x x')/\K' r' gS):
 b8 C f args' σ K':=λM w vs hr hn hx=>by
 have gC:∀{i k:Nat},am[i]?=some k->∃p ob,M.pl[k]?=some p/\obs[i]?=some ob/\k<σ.length:=λ{i k} hi=>by
  have bm:i<obs.length:=by rw[<- ak];exact(n_3.1 hi).1
  obtain⟨aL,h1,_⟩:=cV i k obs[i] hi (by simp[bm]);have hk:k<σ.length:=(n_3.1 h1).1;exact⟨M.pl[k]'(by rw[hr.len];exact hk),obs[i],H,by simp[bm],hk⟩
 let LB:Nat->Prop:=λb=>∃(k:Nat) (p:Pl) (aL:b9),k∉am/\M.pl[k]?=some p/\σ[k]?=some aL/\aL.live=true/\p.block=b
 let M0:B2:={pl:=am.map λk=>(M.pl[k]?).getD ⟨0,0,0⟩,full:=M.full,cell:=M.cell,keep:=λb=>M.keep b\/LB b}
 have hLB:∀b,LB b->b<w.heap.size:=λb ⟨k,p,aL,_,hp,hs,hl,hb⟩=>hb▸(hr.obj k p aL hp hs).1.lt hl;have h0:∀{i:Nat} {p:Pl},M0.pl[i]?=some p->∃k,am[i]?=some k/\M.pl[k]?=some p:=λ{i p} hp=>by
  have hp:(am.map λk=>(M.pl[k]?).getD ⟨0,0,0⟩)[i]?=some p:=hp;rw[O5,P2]at hp;obtain⟨k,hk,rfl⟩:=hp;obtain⟨p,_,g1,_,_⟩:=gC hk;exact⟨k,hk,by rw[g1];rfl⟩
 have ic:∀(k i:Nat) (p:Pl),am[i]?=some k->M.pl[k]?=some p->M0.pl[i]?=some p:=λk i p hi hp=>by
  show(am.map λk=>(M.pl[k]?).getD ⟨0,0,0⟩)[i]?=some p;rw[O5,hi,b83,hp];rfl
 have bM:Rel C M0 obs w:=⟨by simp[M0,ak],hr.blk,λi p ob hp hs=>(by
  obtain⟨k,hk,eD⟩:=h0 hp;obtain⟨aL,g1,g2⟩:=cV i k ob hk hs;obtain⟨q1,q2⟩:=hr.obj k p aL eD g1;refine⟨q1.renR (M':=M0) ic (λb o h=>h) (λb h=>h) (λb o h=>h) g2,?_⟩;cases g2<;>first|trivial|exact q2),λi i' p p' x x' hp aI hs aU hl bg hb=>(by
  obtain⟨k,hk,eD⟩:=h0 hp;obtain⟨k',aK,ge⟩:=h0 aI;obtain⟨y,g1,g2⟩:=cV i k x hk hs;obtain⟨y',gu,gJ⟩:=cV i' k' x' aK aU;have:=hr.inj k k' p p' y y' eD ge g1 gu (by rw[<- g2.live];exact hl) (by rw[<- gJ.live];exact bg) hb;subst this;exact cw i i' k hk aK),λg cells hg=>⟨(by
  have:=(hr.glob g cells hg).rv;exact RV.renR (M:=M) (R:=λ_ _=>False) (M':=M0) (λ_ _ _ h=>h.elim) (λb o h=>h) this (.cptr J λi c c' h h'=>(by
   rw[h]at h';injection h' with h';subst h'
   exact .pure (hC g cells hg c (n_2 h))))),(hr.glob g cells hg).full,(hr.glob g cells hg).sz⟩,
  λb hb=>(by
   rcases hb with hb|hb
   .exact hr.kep b hb
   .exact hLB b hb),λi p x hp hs hl hb=>(by
  obtain⟨k,hk,eD⟩:=h0 hp;obtain⟨y,g1,g2⟩:=cV i k x hk hs;have dY:y.live=true:=by rw[<- g2.live];exact hl
  rcases hb with hb|⟨k',p',aL,aK,aI,aU,bg,hb⟩
  .exact hr.nk k p y eD g1 dY hb
  .have:=hr.inj k' k p' p aL y aI eD aU g1 bg dY hb;subst this;exact aK (n_2 hk))⟩
 have fin:∀(c:CV) (v:Value) (r:CV->V7) (hret:∀c c' R,a7n R (r c) c'->∃d,c'=r d/\R1 R c d) (τ:List b9) (M':B2) (w':World),Ext M0 w M' w'->Rel C M' τ w'->RV M' w' c v->K (r c) τ->∃c' gS M2,Ext M w M2 w'/\Rel C M2 gS w'/\RV M2 w' c' v/\K' (r c') gS:=by
  intro c v r hret τ M' w' h1 h2 h3 h4;obtain⟨aO,r',gS,e1,e2,e3,e4,e5⟩:=hK _ _ h4;obtain⟨c',rfl,hrc⟩:=hret _ _ _ e1;have hM0:∀(k i:Nat) (p:Pl),am[i]?=some k->M.pl[k]?=some p->M'.pl[i]?=some p:=λk i p hi hp=>h1.get (ic k i p hi hp);have bX:M'.pl.length=τ.length:=h2.len
  let M2:B2:={pl:=M.pl++M'.pl.drop obs.length,full:=M'.full,cell:=M'.cell,keep:=M.keep}
  have hA:∀(i k:Nat) (p:Pl),a0K am σ.length i k->M'.pl[i]?=some p->M2.pl[k]?=some p:=λi k p ha hp=>by
   rcases ha with ha|⟨ha,rfl⟩
   .obtain ⟨p0,_,g1,_,g3⟩:=gC ha;have:=hM0 k i p0 ha g1;rw[hp]at this;injection this with this
    subst this;show(M.pl++_)[k]?=_;rw[R8 (by rw[hr.len];exact g3)];exact g1
   .show (M.pl++M'.pl.drop obs.length)[σ.length+(i-am.length)]?=_;rw[a1v (by rw[hr.len];omega),a5z,hr.len];rw[show obs.length+(σ.length+(i-am.length) -σ.length)=i by omega];exact hp
  have hB:∀(k:Nat) (p:Pl) (x:b9),M2.pl[k]?=some p->gS[k]?=some x->(k<σ.length/\k∉am/\M.pl[k]?=some p/\σ[k]?=some x)\/∃i y,a0K am σ.length i k/\M'.pl[i]?=some p/\τ[i]?=some y/\I8 (a0K am σ.length) y x:=λk p x hp hs=>by
   by_cases hk:k<σ.length
   .have aI:M.pl[k]?=some p:=by
     have hp:(M.pl++M'.pl.drop obs.length)[k]?=some p:=hp;rwa[R8 (by rw[hr.len];exact hk)]at hp
    by_cases bD:k∈am
    .obtain ⟨i,hi⟩:=N0.1 bD;have bm:i<τ.length:=by
      have:=(n_3.1 hi).1;omega
     obtain⟨x',g1,g2⟩:=e4 i k τ[i] (.inl hi) (by simp[bm]);rw[hs]at g1;injection g1 with g1
     subst g1;exact .inr ⟨i,τ[i],.inl hi,hM0 k i p hi aI,by simp[bm],g2⟩
    .rw [e3 k hk bD]at hs;exact .inl ⟨hk,bD,aI,hs⟩
   .have ij:=(n_3.1 hs).1;rw[e2]at ij;have bm:obs.length+(k-σ.length)<τ.length:=by omega
    have ha:a0K am σ.length (obs.length+(k-σ.length)) k:=.inr ⟨X,X⟩;obtain⟨x',g1,g2⟩:=e4 (obs.length+(k-σ.length)) k τ[obs.length+(k-σ.length)] ha (by simp[bm]);rw[hs]at g1;injection g1 with g1
    subst g1;have aI:M'.pl[obs.length+(k-σ.length)]?=some (M'.pl[obs.length+(k-σ.length)]'X):=by simp
    have:=hA _ _ _ ha aI;rw[hp]at this;injection this with this
    exact .inr ⟨_,_,ha,by rw[aI,this],by simp[bm],g2⟩
  have hAinj:∀(i i' k:Nat),a0K am σ.length i k->a0K am σ.length i' k->i=i':=λi i' k ha cM=>by
   rcases ha with ha|⟨ha,e⟩<;>rcases cM with cM|⟨cM,e'⟩
   .exact cw i i' k ha cM
   .have:=(gC ha).choose_spec.choose_spec.2.2;omega
   .have:=(gC cM).choose_spec.choose_spec.2.2;omega
   .omega
  have hAfun:∀(i k k':Nat),a0K am σ.length i k->a0K am σ.length i k'->k=k':=λi k k' ha cM=>by
   rcases ha with ha|⟨ha,e⟩<;>rcases cM with cM|⟨cM,e'⟩
   .rw [ha]at cM;exact Option.some.inj cM
   .have:=(n_3.1 ha).1;omega
   .have:=(n_3.1 cM).1;omega
   .omega
  have aM:Ext M w M2 w':=⟨⟨M'.pl.drop obs.length,J⟩,h1.full,h1.cell,h1.same,h1.sameC,h1.size,h1.drew,h1.os,h1.tape,h1.output,λb hb=>by
   obtain⟨k1,k2,k3,k4⟩:=h1.kept b (.inl hb);exact⟨hb,k2,k3,k4⟩⟩
  refine⟨c',gS,M2,aM,⟨by show(M.pl++M'.pl.drop obs.length).length=_;simp[hr.len,bX,e2],h2.blk,λk p x hp hs=>?_,λk k' p p' x x' hp aI hs aU hl bg hb=>?_,λg cells hg=>(hr.glob g cells hg).mono aM,λb hb=>a9p (hr.kep b hb) h1.size,λk p x hp hs hl hkp=>?_⟩,h3.renR (M':=M2) hA (λb o h=>h) hrc,e5⟩
  .rcases hB k p x hp hs with⟨hk,bD,aI,aU⟩|⟨i,y,ha,aI,aU,hro⟩
   .by_cases hl:x.live=true
    .obtain ⟨k1,k2,k3,k4⟩:=h1.kept p.block (.inr ⟨k,p,x,bD,aI,aU,hl,J⟩);obtain⟨g1,g2⟩:=hr.obj k p x aI aU;refine⟨g1.mono aM k2 (λ_ _ _ o ho=>k4 o ho),?_⟩;cases x with
     |dead=>trivial
     |tipT t0 n=>exact λhf=>g2 (k3 hf)
     |_=>exact⟨λhf=>g2.1 (k3 hf),λo ho=>g2.2 o (k4 o ho)⟩
    .cases x<;>first|exact⟨O,O⟩|simp[b9.live]at hl
   .obtain ⟨g1,g2⟩:=h2.obj i p y aI aU;refine⟨g1.renR (M':=M2) hA (λb o h=>h) (λb h=>h) (λb o h=>h) hro,?_⟩;cases hro<;>first|trivial|exact g2
  .have keep:∀{k:Nat} {p:Pl} {x:b9},k∉am->M.pl[k]?=some p->σ[k]?=some x->x.live=true->M'.keep p.block:=λ{k p x} bD aI aU hl=>(h1.kept p.block (.inr ⟨k,p,x,bD,aI,aU,hl,J⟩)).1
   rcases hB k p x hp hs with⟨hk,bD,eD,hsk⟩|⟨i,y,ha,eD,hsk,hro⟩<;>rcases hB k' p' x' aI aU with⟨aK,hks',ge,iu⟩|⟨i',y',cM,ge,iu,hro'⟩
   .exact hr.inj k k' p p' x x' eD ge hsk iu hl bg hb
   .exact absurd (hb▸keep bD eD hsk hl) (h2.nk i' p' y' ge iu (by rw[<- hro'.live];exact bg))
   .exact absurd (hb▸keep hks' ge iu bg) (h2.nk i p y eD hsk (by rw[<- hro.live];exact hl))
   .have:=h2.inj i i' p p' y y' eD ge hsk iu (by rw[<- hro.live];exact hl) (by rw[<- hro'.live];exact bg) hb;subst this;exact hAfun i k k' ha cM
  .rcases hB k p x hp hs with⟨hk,bD,aI,aU⟩|⟨i,y,ha,aI,aU,hro⟩
   .exact hr.nk k p x aI aU hl hkp
   .exact h2.nk i p y aI aU (by rw[<- hro.live];exact hl) (h1.kept p.block (.inl hkp)).1
 have fR:vs.size=args.length:=by rw[hn,ap.1]
 refine(h M0 w vs bM fR λi a hi=>?_).mono λe w' he=>?_
 .obtain ⟨a',cM⟩:=r7 ap.1 hi;exact(hx i a' cM).renR (M':=M0) ic (λb o h=>h) (ap.2 i a' a cM hi)
 cases e with
 |panicked ch=>
  obtain⟨c,v,τ,M',dh,h1,h2,h3,h4⟩:=he;obtain⟨c',gS,M2,g1,g2,g3,g4⟩:=fin c v .pan (λc c' R h=>by cases h with|pan h=>exact⟨_,J,h⟩) τ M' w' h1 h2 h3 h4;exact⟨c',v,gS,M2,dh,g1,g2,g3,g4⟩
 |outgrown=>exact he
 |returned v=>
  obtain⟨c,τ,M',h1,h2,h3,h4⟩:=he;exact fin c v .ret (λc c' R h=>by cases h with|ret h=>exact⟨_,J,h⟩) τ M' w' h1 h2 h3 h4
def a4m:b9->Prop
 | .dead=>True
 | .boxT _ cells=>∀c∈cells,r5 c
 | .tipT _ _=>True
 | .vec _ Y=>∀r∈Y,∀c∈r,r5 c
 | .map es=>∀x∈es,r5 x.1/\r5 x.2
 | .iter c l=>(∀x∈c,r5 x.1/\r5 x.2)/\∀x∈l,r5 x.1/\r5 x.2
 | .blk _=>True
 | .lp _ _ cs=>∀x∈cs,r5 x.2
theorem L9{l:List CV}(h:∀c∈l,r5 c):a2g R l l:=⟨J,λi c c' g g'=>by
 rw[g]at g';injection g' with g';subst g'
 exact .pure (h c (n_2 g))⟩
theorem a9g{l:List (CV×CV)}(h:∀x∈l,r5 x.1/\r5 x.2):c60 R l l:=⟨J,λi c c' g g'=>by
 rw[g]at g';injection g' with g';subst g'
 exact⟨.pure (h c (n_2 g)).1,.pure (h c (n_2 g)).2⟩⟩
theorem a4m.ren(h:a4m ob):I8 R ob ob:=by
 cases ob with
 |dead=>exact .dead
 |boxT t0 cells=>exact .box (L9 h)
 |tipT t0 n=>exact .tip n
 |vec s Y=>
  refine .vec J λi r r' g g'=>?_;rw[g]at g';injection g' with g';subst g'
  exact L9 (h r (n_2 g))
 |map es=>exact .map (a9g h)
 |iter c l=>exact .iter (a9g h.1) (a9g h.2)
 |blk o=>exact .blk o
 |lp o n cs=>
  refine .lp J λi x x' g g'=>?_;rw[g]at g';injection g' with g';subst g'
  exact .pure (h x (n_2 g))
theorem a4m.old(h:a4m ob):I6 n ob:=by
 cases ob with
 |dead=>trivial
 |boxT t0 cells=>exact λc hc=>(h c hc).old
 |tipT t0 n=>trivial
 |blk o=>trivial
 |lp o n cs=>exact λx hx=>(h x hx).old
 |vec s Y=>exact λr hr c hc=>(h r hr c hc).old
 |map es=>exact λx hx=>⟨(h x hx).1.old,(h x hx).2.old⟩
 |iter c l=>exact⟨λx hx=>⟨(h.1 x hx).1.old,(h.1 x hx).2.old⟩,λx hx=>⟨(h.2 x hx).1.old,(h.2 x hx).2.old⟩⟩
def a3f:List Nat->List b9->List b9->List b9
 | [],_,σ=>σ
 |_::_,[],σ=>σ
 |k::ks,o::os,σ=>a3f ks os (σ.set k o)
theorem a6V:∀(ks:List Nat) (os:List b9) (σ:List b9),(a3f ks os σ).length=σ.length
 | [],_,σ=>rfl
 |k::ks,[],σ=>rfl
 |k::ks,o::os,σ=>by rw[a3f,a6V ks os];simp
theorem a4H:∀(ks:List Nat) (os:List b9) (σ:List b9) (k:Nat),k∉ks->(a3f ks os σ)[k]?=σ[k]?
 | [],_,σ,k,_=>rfl
 |_::ks,[],σ,k,_=>rfl
 |k'::ks,o::os,σ,k,h=>by
  rw[a3f,a4H ks os _ k λhm=>h (by simp[hm]),a2M λe=>h a2f]
theorem b1Q:∀(ks:List Nat) (os:List b9) (σ:List b9) (i k:Nat),(∀(i j k:Nat),ks[i]?=some k->ks[j]?=some k->i=j)->ks.length=os.length->ks[i]?=some k->k<σ.length->(a3f ks os σ)[k]?=os[i]?
 | [],_,σ,i,k,_,_,h,_=>by simp at h
 |_::ks,[],σ,i,k,_,h,_,_=>by simp at h
 |k'::ks,o::os,σ,i,k,cw,hl,hi,hk=>by
  rw[a3f];have hnd':∀(i j k:Nat),ks[i]?=some k->ks[j]?=some k->i=j:=λi j k h1 h2=>by
   have:=cw (i+1) (j+1) k (I h1) (I h2);omega
  rcases i with _|i
  .simp at hi;subst hi;rw[a4H ks os _ k' λhm=>by
    obtain⟨j,hj⟩:=N0.1 hm;have:=cw 0 (j+1) k' J (I hj);omega]
   simp[hk]
  .rw [b1Q ks os _ i k hnd' (I hl) (I hi) (I hk)];simp
theorem a1n{res':α->V7}{S N:α->List b9}{P:α->Prop}(am:List Nat)(hC:C.plain)(ak:am.length=obs.length)(cw:∀(i j k:Nat),am[i]?=some k->am[j]?=some k->i=j)
 (cV:∀(i k:Nat),am[i]?=some k->k<σ.length/\σ[k]?=obs[i]?)(hpo:∀ob∈obs,a4m ob)(ap:a2g (λk i=>am[i]?=some k) args' args)
 (h:b8 C f args obs λr τ=>∃a,r=res a/\τ=S a++N a/\P a)(hS:∀a,P a->(S a).length=obs.length/\∀ob∈S a++N a,a4m ob)(eA:∀a,P a->a7n (a0K am σ.length) (res a) (res' a)):
 b8 C f args' σ λr τ=>∃a,r=res' a/\τ=a3f am (S a) σ++N a/\P a:=by
 refine I9 am hC ak cw (λi k ob hi ho=>?_) ap h λr τ hk=>?_
 .obtain ⟨_,h2⟩:=cV i k hi;exact⟨ob,by rw[h2,ho],(hpo ob (n_2 ho)).ren⟩
 .obtain ⟨a,rfl,rfl,hp⟩:=hk;obtain⟨hl,hn⟩:=hS a hp;have dS:=a6V am (S a) σ;refine⟨by simp[hl],res' a,a3f am (S a) σ++N a,eA a hp,by simp[dS,hl],λk hk bD=>?_,λi k x ha hx=>?_,a,J,J,hp⟩
  .rw [R8 (by rw[dS];exact hk),a4H am (S a) σ k bD]
  .refine ⟨x,?_,(hn x (n_2 hx)).ren⟩
   rcases ha with ha|⟨ha,rfl⟩
   .have hk:=(cV i k ha).1;have bm:i< (S a).length:=by rw[hl,<- ak];exact(n_3.1 ha).1
    rw[R8 bm]at hx;rw[R8 (by rw[dS];exact hk),b1Q am (S a) σ i k cw (by rw[ak,hl]) ha hk,hx]
   .rw [a1v X]at hx;rw[a1v (by rw[dS];omega),dS,<- hx]
    congr 1
    omega
theorem a2g.nil:a2g R [] []:=⟨J,λi c c' h=>by simp at h⟩
theorem a2g.cons{l l':List CV}(h:R1 R c c')(hl:a2g R l l'):a2g R (c::l) (c'::l'):=⟨n_8 (· +1) hl.1,λi d d' g g'=>by
 rcases i with _|i
 .simp at g g';subst g g';exact h
 .exact hl.2 i d d' (I g) (I g')⟩
inductive a1t(n:Nat)(τ:List b9):V7->V7->Prop where
 |ret {c c':CV}:Cls n τ c c'->a1t n τ (.ret c) (.ret c')
 |pan {c c':CV}:Cls n τ c c'->a1t n τ (.pan c) (.pan c')
theorem a1m{S:α->List b9}{P:α->Prop}(hC:C.plain)
 (h:b8 C f args obs λr τ=>∃a,a1t (S a).length τ r (res a)/\b30 (S a).length τ τ (S a)/\obs.length<=(S a).length/\P a):b8 C f args obs λr τ=>∃a,r=res a/\τ=S a/\P a:=λM w vs hr hn hx=>(h M w vs hr hn hx).mono λe w' he=>by
 cases e with
 |returned v=>
  obtain⟨c',τ,M',h1,h2,h3,a,h4,h5,h6,h7⟩:=he;obtain⟨g1,g2,g3⟩:=h2.cutCls hC h5;generalize hra:res a=ra at h4;cases h4 with
  |ret h4=>exact⟨_,S a,_,g3 M w h1 (by rw[hr.len];exact h6),g1,RV.close h2 g2 (λk p s Y hk hp hs=>.inr ⟨k,p,_,hk,hp,hs,J,J⟩) h4 h3,a,hra.symm,J,h7⟩
 |panicked ch=>
  obtain⟨c',v,τ,M',h0,h1,h2,h3,a,h4,h5,h6,h7⟩:=he;obtain⟨g1,g2,g3⟩:=h2.cutCls hC h5;generalize hra:res a=ra at h4;cases h4 with
  |pan h4=>exact⟨_,v,S a,_,h0,g3 M w h1 (by rw[hr.len];exact h6),g1,RV.close h2 g2 (λk p s Y hk hp hs=>.inr ⟨k,p,_,hk,hp,hs,J,J⟩) h4 h3,a,hra.symm,J,h7⟩
 |outgrown=>exact he
theorem b2h(hC:C.plain)(hob:a4m ob)(hc:r5 c)(hq:σ[q]?=some ob)(ap:a2g (λk i=>[q][i]?=some k) args' args)
 (h:b8 C f args [ob] λr τ=>∃_:Unit,a1t [ob].length τ r (.ret c)/\b30 [ob].length τ τ [ob]/\[ob].length<=[ob].length/\True):b8 C f args' σ λr τ=>r= .ret c/\τ=σ:=by
 have hk:q<σ.length:=(n_3.1 hq).1;have h1:=a1m (res:=λ_=>.ret c) (S:=λ_=>[ob]) (P:=λ_=>True) hC h;have h2:=a1n (σ:=σ) (args':=args') (res':=λ_:Unit=>.ret c) (N:=λ_=>[]) [q] hC J (λi j k h1 h2=>by
  have:=(n_3.1 h1).1;have:=(n_3.1 h2).1;simp at*;omega) (λi k hi=>by
  rcases i with _|i
  .simp at hi;subst hi;exact⟨hk,by rw[hq];rfl⟩
  .simp at hi) (λo ho=>by simp at ho;subst ho;exact hob) ap (h1.mono λr τ ⟨a,e1,e2,e3⟩=>⟨a,e1,by rw[e2,a0z],e3⟩) (λ_ _=>⟨J,λo ho=>by simp at ho;subst ho;exact hob⟩) (λ_ _=>.ret (.pure hc))
 refine h2.mono λr τ ⟨_,e1,e2,_⟩=>⟨e1,?_⟩;rw[e2,a0z];show σ.set q ob=σ;apply b9b;intro i;rw[a9z]
 split
 .rename_i e;subst e;first|(rw[F hk,hq])|(rw[hq])
 .rfl
theorem a2x{P:Program}{f:FuncId}{fn:Func}{e:Array Value → Sem Value}{args:Array Value}{w:World}{v:Value}(hf:P.funcs[f]?=some fn)(dv:(fn.name == "runtime.NumGoroutine")=false)(hb:fn.body.isNone =true)(hn:Extern.findNext fn=none)(he:Extern.find fn=some e)(hr:(e args).run P w= .ok v w):
 (callFunc f args).run P w= .ok (.value v) w:=by
 simp only[callFunc,Sem.run_bind,run_program,Result.andThen_ok,hf,dv,hb,hn,he];simp[hr]
section
theorem c1Z{f:FuncId}{fn:Func}{e:Array Value → Sem Value}{ts:Array TypeId}{x y:Operand}{a b v:Value}(ho:o.op = .call {callee:=.value (.func f),args:= #[x,y],argTypes:=ts})(hf:C.P.funcs[f]?=some fn)(dv:(fn.name == "runtime.NumGoroutine")=false)(hb:fn.body.isNone =true)(hn:Extern.findNext fn=none)(he:Extern.find fn=some e)
 (hx:E.valid x)(hy:E.valid y)(ex:E.val C x= .val a)(ey:E.val C y= .val b)(hr:∀w,(e #[a,b]).run C.P w= .ok v w):m0 C σ E o (.val v):=
 i8 λM w ρ _ hh=>by
  have h1:=hh x H9 hx;have h2:=hh y H9 hy;have ck:=r4 (hh (.func f) H9 O);rw[ex]at h1;rw[ey]at h2;refine⟨v,?_,.val _⟩;have:=a2x (args:=#[a,b]) (w:=w) hf dv hb hn he (hr w);simp[execOp,ho,resolve,ck,r4 h1,r4 h2,Deferred.ofValue,invoke,this]
end
theorem c7p(s:U)(c:UInt8)(w:World):(Extern.BytealgCount.count #[.string (str s),.int .u8 c.toNat]).run P w= .ok (.int .i64 (s.count c:Nat)) w:=by
 have:=Go.Lib.run_countString (P:=P) (str s) (c.toNat:Int) w;rw[this];simp[Go.Lib.countByte,str]
theorem c7E(s:U)(c:UInt8)(w:World):(Extern.BytealgIndexByte.indexByte #[.string (str s),.int .u8 c.toNat]).run P w= .ok (.int .i64 (Go.Lib.indexByte s c)) w:=by
 have:=Go.Lib.run_indexByteString (P:=P) (str s) (c.toNat:Int) w;rw[this];simp[str]
def d4U:V7->Prop
 | .ret c=>r5 c
 | .pan c=>r5 c
theorem F5{P:α->Prop}(hC:C.plain)(ap:∀c∈args,r5 c)
 (h:b8 C f args [] λr τ=>∃a,a1t 0 τ r (res a)/\P a)(eA:∀a,P a->d4U (res a))(σ:List b9):b8 C f args σ λr τ=>∃a,r=res a/\τ=σ/\P a:=by
 have h1:b8 C f args [] λr τ=>∃a,r=res a/\τ=(λ_=>[]) a/\P a:=a1m (res:=res) (S:=λ_=>[]) (P:=P) hC (h.mono λr τ ⟨a,h2,h3⟩=>⟨a,h2,by cases τ<;>trivial,n_7 _,h3⟩);have h2:=a1n (σ:=σ) (args':=args) (res':=res) (S:=λ_=>[]) (N:=λ_=>[]) (P:=P) [] hC J (λi j k h1=>by simp at h1) (λi k h1=>by simp at h1) (λo ho=>by simp at ho) (L9 ap)
  (h1.mono λr τ ⟨a,e1,e2,e3⟩=>⟨a,e1,by rw[e2];rfl,e3⟩) (λ_ _=>⟨J,λo ho=>by simp at ho⟩) (λa hp=>by
   have:=eA a hp;cases hr:res a with
   |ret c=>rw[hr]at this;exact .ret (.pure this)
   |pan c=>rw[hr]at this;exact .pan (.pure this))
 exact h2.mono λr τ ⟨a,e1,e2,e3⟩=>⟨a,e1,by rw[e2];simp[a3f],e3⟩
theorem a0s(h:b8 C f args (σ++[.dead]) K):b8 C f args σ K:=λM w vs hr hn hx=>by
 obtain⟨h1,h2⟩:=hr.addDead ⟨0,0,0⟩;refine(h _ w vs h1 hn λi c hi=>(hx i c hi).mono h2).mono λe w' he=>?_;cases e with
 |returned v=>
  obtain⟨c,τ,M',g1,g2,g3,g4⟩:=he;exact⟨c,τ,M',h2.trans g1,g2,g3,g4⟩
 |panicked ch=>
  obtain⟨c,v,τ,M',g0,g1,g2,g3,g4⟩:=he;exact⟨c,v,τ,M',g0,h2.trans g1,g2,g3,g4⟩
 |outgrown=>exact he
theorem b63{c:Code}(h:CWp C n c Jk E (σ++[.dead])):CWp C n c Jk E σ:=λM w a hr hf=>by
 obtain⟨h1,h2⟩:=hr.addDead ⟨0,0,0⟩;exact wp_mono (h _ w a h1 (hf.mono h2)) λ_ _ _=>Y1.later h2
inductive c8n(L:Nat)(am:List Nat):V7->V7->Prop where
 |ret {c c':CV}:C6 L am c c'->c8n L am (.ret c) (.ret c')
 |pan {c c':CV}:C6 L am c c'->c8n L am (.pan c) (.pan c')
def D2(L:Nat)(τ:List b9)(r r':V7)(S:List b9):Prop:=∃am,a6Z L am=true/\a0J am=true/\c8n L am r r'/\b9u L am τ am S
theorem G5(hC:C.plain)(h:b8 C f args obs λr τ=>∃r' S,D2 obs.length τ r r' S/\K r' S):b8 C f args obs K:=λM w vs hr hn hx=>by
 refine(h M w vs hr hn hx).mono λe w' he=>?_;cases e with
 |returned v=>
  obtain⟨c,τ,M',g1,g2,g3,r',S,⟨am,k1,k2,k3,k4⟩,k5⟩:=he;have hL:obs.length<=M'.pl.length:=by
   obtain⟨l,hl⟩:=g1.pl;rw[hl,<- hr.len];simp
  cases k3 with
  |ret k3=>exact⟨_,S,_,g1.ren k1 hr.len,g2.ren hC k1 k2 hL k4,RV.ren (a3u k1) hL g3 k3,k5⟩
 |panicked ch=>
  obtain⟨c,v,τ,M',g0,g1,g2,g3,r',S,⟨am,k1,k2,k3,k4⟩,k5⟩:=he;have hL:obs.length<=M'.pl.length:=by
   obtain⟨l,hl⟩:=g1.pl;rw[hl,<- hr.len];simp
  cases k3 with
  |pan k3=>exact⟨_,v,S,_,g0,g1.ren k1 hr.len,g2.ren hC k1 k2 hL k4,RV.ren (a3u k1) hL g3 k3,k5⟩
 |outgrown=>exact he
section
theorem p8{c:α->CV}{S:α->List b9}{P:α->Prop}{c':β->CV}{S':β->List b9}{P':β->Prop}(ho:o.op = .call {callee:=.value (.func f),args:=xs,argTypes:=ts})(aB:∀args w,(callFunc f args).run C.P w= .ok (.enter f args) w)
 (hv:E.valids xs.toList)(h:b8 C f ax σ λr aa=>(∃a,r= .ret (c a)/\aa=S a/\P a)\/∃b,r= .pan (c' b)/\aa=S' b/\P' b)(ea:(E.vals C xs.toList).map CV.fgt=ax)(hp:∀b,P' b->K (.pan (c' b)) (S' b))(hk:∀a,P a->K (.ret (c a)) (S a)):H4 C σ E o K:=
 b7c ho aB (Env.valids_mem hv) (Env.vals_map _) ((a2D (ea▸h)).mono λr aa hh=>by
  rcases hh with⟨a,rfl,rfl,hq⟩|⟨b,rfl,rfl,hq⟩
  .exact hk a hq
  .exact hp b hq)
theorem Q6{c':β->CV}{S':β->List b9}{P':β->Prop}(ho:o.op = .call {callee:=.value (.func f),args:=xs,argTypes:=ts})(aB:∀args w,(callFunc f args).run C.P w= .ok (.enter f args) w)
 (hv:E.valids xs.toList)(h:b8 C f ax σ λr aa=>∃b,r= .pan (c' b)/\aa=S' b/\P' b)(ea:(E.vals C xs.toList).map CV.fgt=ax)(hp:∀b,P' b->K (.pan (c' b)) (S' b)):H4 C σ E o K:=
 b7c ho aB (Env.valids_mem hv) (Env.vals_map _) ((a2D (ea▸h)).mono λr aa hh=>by
  obtain⟨b,rfl,rfl,hq⟩:=hh;exact hp b hq)
def b07:TypeDesc->Bool
 | .interface _=>true
 |_=>false
theorem c1v{u:TypeDesc}(h:∀w,(underlying t).run P w= .ok u w)(hu:b07 u=false)(v:Value)(w:World):(Instr.makeInterface t v).run P w= .ok (.iface t v) w:=by
 simp[Instr.makeInterface,go_sem];rw[h w];cases u<;>simp[b07]at hu⊢
theorem c7J{xs:List Value}(ho:o.op = .makeInterface t x)(hx:E.valid x)(ex:E.val C x=plain xs)(hm:∀v w,(Instr.makeInterface t v).run C.P w= .ok (.iface t v) w):m0 C σ E o (.val (.iface t (.agg xs.toArray))):=
 i8 λM w ρ _ h=>by
  have h1:=h x w8 hx;rw[ex]at h1;have h2:=a3Z h1;refine⟨_,?_,.val _⟩;simp only[execOp,ho];rw[<- h2];simp[hm]
end
section
theorem P1{l:List Oper}(aa:List b9)(h:σ=aa)(k:K4 C n ae Jk l E aa):K4 C n ae Jk l E σ:=h▸k
theorem L5{c:Code}(aa:List b9)(h:σ=aa)(k:CWp C n c Jk E aa):CWp C n c Jk E σ:=h▸k
end
def addDs(ds:List Deferred)(a:Act):Act:={a with defers:=a.defers++ds}
theorem a34{ds:List Deferred}{a:Act}{d:Option Nat}:(addDs ds a).put d v=addDs ds (a.put d v):=by
 cases d<;>rfl
theorem b8E{ds:List Deferred}{a:Act}{d:Deferred}{t:Option Nat}:({addDs ds a with defers:=d::(addDs ds a).defers}:Act).put t undef=addDs ds (({a with defers:=d::a.defers}:Act).put t undef):=by
 cases t<;>rfl
theorem c6X{Jk Q':Exit->Act->World->Prop}{ds:List Deferred}(hq:∀e a w,Jk e a w->Q' e (addDs ds a) w):∀(l:List Oper) (a:Act) (w:World),wpList P ae Jk l a w->wpList P ae Q' l (addDs ds a) w:=by
 have cT:LetsOut Jk->LetsOut Q':=λ⟨a0,w0,h⟩=>⟨_,w0,hq _ a0 w0 h⟩;intro l
 induction l with
 |nil=>exact λa w h=>hq _ _ _ h
 |cons o l ih=>
  intro a w h;unfold wpList at h⊢;change if Region.wanted o (yielded ae a.tmps)=true then _ else _
  split
  .rename_i hw;rw[F hw]at h;refine h.imp (λh=>?_) (λ⟨h1,h2⟩=>⟨h1,cT h2⟩);unfold Oper.wp at h⊢;change o.upon P (addDs ds a) _ _ ((execOp a.eval o).run P w);generalize (execOp a.eval o).run P w=r at h;cases r with
   |ok x w3=>
    cases x<;>simp only[Oper.upon]at h⊢
    case value v=>rw[a34];exact ih _ _ h
    case skip=>rw[a34];exact ih _ _ h
    case defer d=>rw[b8E];exact ih _ _ h
    case enter f args=>
     refine h.mono λe w4 he=>?_;cases e with
     |returned v=>show wpList P ae Q' l ((addDs ds a).put o.dst v) w4;rw[a34];exact ih _ _ he
     |panicked ch=>exact hq _ _ _ he
     |outgrown=>exact cT he
    case row r args=>exact Rows.mono h λ_ _ he=>by rw[a34];exact ih _ _ he
   |halt x w3=>
    cases x<;>simp only[Oper.upon]at h⊢
    exact hq _ _ _ h
  .rename_i hw;rw[D hw]at h;rw[a34];exact ih _ _ h
def c0N(ds:List Deferred)(C:Ctx)(n:Nat)(Jk:D3->Env->List b9->Prop)(M:B2)(w:World)(e:Exit)(a':Act)(w':World):Prop:=∃a0,a'=addDs ds a0/\Y1 C n Jk M w e a0 w'
def c6N(ds:List Deferred)(C:Ctx)(n:Nat)(c:Code)(Jk:D3->Env->List b9->Prop)(E:Env)(σ:List b9):Prop:=
 ∀(M:B2) (w:World) (a:Act),Rel C M σ w->L3 M w n E a->c.wp C.P (c0N ds C n Jk M w) (addDs ds a) w
section
variable{ds:List Deferred}
theorem c0N.later{M1:B2}{w1:World}(he:Ext M w M1 w1){e:Exit}{a:Act}{w':World}(hl:c0N ds C n Jk M1 w1 e a w'):c0N ds C n Jk M w e a w':=by
 obtain⟨a0,h0,h⟩:=hl;exact⟨a0,h0,Y1.later he h⟩
theorem b1F(h:K4 C n ae Jk ae.toList E σ):c6N ds C n (.region id ae false) Jk E σ:=
 λM w a hr hf=>wp_region_list (c6X (λ_ a0 _ h=>⟨a0,J,h⟩) _ _ _ (h M w a hr hf))
theorem d6t(h:Jk .ret E σ):c6N ds C n .ret Jk E σ:=λM w a hr hf=>wp_ret ⟨a,J,E,σ,M,Ext.refl M w,hr,hf,h⟩
theorem c47{x y:Code}(h:c6N ds C n x (D3.next (c6N ds C n y Jk) Jk) E σ):c6N ds C n (.seq x y) Jk E σ:=λM w a hr hf=>by
 refine wp_seq (wp_mono (h M w a hr hf) λe a' w' hl=>?_);obtain⟨a0,rfl,E',aa,M',h1,h2,h3,h4⟩:=hl;cases e with
 |normal=>exact wp_mono (h4 M' w' a0 h2 h3) λ_ _ _=>c0N.later h1
 |_=>exact⟨a0,J,E',aa,M',h1,h2,h3,h4⟩
end
section
theorem a8Y{aD:Array Operand}(ho:o.op = .makeFunc (.func f) #[] aD)(hv:E.valids aD.toList):m0 C σ E o (.clo f (E.vals C aD.toList)):=
 i8 λM w ρ _ h=>by
  refine⟨.func (.func f) #[] (aD.map ρ),by simp[execOp,ho,Instr.makeFunc],.clo (by rw[<- Env.vals_map];simp) λi c hi=>?_⟩;rw[<- Env.vals_map,O5,P2]at hi;obtain⟨x,hx,rfl⟩:=hi;have aC:aD[i]?=some x:=I hx;have hm:x∈aD:=b8o aC;have:(aD.map ρ).getD i undef=ρ x:=by
   rw[a0U,b4a,aC];rfl
  rw[this];exact h x (by simp[ho,Op.operands,hm]) (Env.valids_mem hv x (I hm))
theorem b4d{f:FuncId}{cx:Operand}{xs:Array Operand}{ts:Array TypeId}{ax aD:List CV}{K:V7->List b9->Prop}(ho:o.op = .call {callee:=.value cx,args:=xs,argTypes:=ts})(hc:E.valid cx)(ec:E.val C cx= .clo f aD)(aB:∀args w,(callFunc f args).run C.P w= .ok (.enter f args) w)
 (hv:∀x∈xs.toList,E.valid x)(ea:xs.toList.map (E.val C)=ax)(h:b8 C f (ax++aD) σ K):H4 C σ E o K:=λM w ρ hr hh=>by
 have hf:=hh cx H9 hc;rw[ec]at hf;generalize hcx:ρ cx=fv at hf;cases hf with
 | @clo _ _ vs aJ hvs=>
  have av:(execOp ρ o).run C.P w= .ok (.enter f (xs.map ρ++vs)) w:=by
   simp[execOp,ho,resolve,hcx,Deferred.ofValue,invoke,aB]
  rw[av];refine(h M w (xs.map ρ++vs) hr (by simp[<- ea,aJ]) λi c hi=>?_).mono λe w' he=>by cases e<;>exact he
  subst ea;rw[a0U,b4t];rw[a7p]at hi;simp only[L7,b0T,Array.size_map]at hi⊢
  split<;>rename_i ab
  .rw [F ab]at hi;simp only[O5,P2]at hi;obtain⟨x,hx,rfl⟩:=hi;have aC:xs[i]?=some x:=I hx;have hm:x∈xs:=b8o aC;rw[b4a,aC];exact hh x (by simp[ho,Op.operands,Call.operands,hm]) (hv x (I hm))
  .rw [D ab]at hi;have:=hvs _ _ hi;rwa[a0U]at this
theorem b4N{cx:Operand}{aD:List CV}(ho:o.op = .call {callee:=.value cx,args:=xs,argTypes:=ts})(hc:E.valid cx)(ec:E.val C cx= .clo f aD)(aB:∀args w,(callFunc f args).run C.P w= .ok (.enter f args) w)
 (hv:E.valids xs.toList)(h:b8 C f (ax++aD) σ λr aa=>r= .ret c/\aa=σ)(ea:E.vals C xs.toList=ax):m0 C σ E o c:=
 b4d ho hc ec aB (Env.valids_mem hv) (Env.vals_map _) (ea▸h)
end
def c6T(C:Ctx)(M:B2)(w:World)(K:V7->List b9->Prop):Ending->World->Prop
 | .returned v,w'=>a3O C M w K v w'
 | .panicked ch,w'=>a0I C M w K ch w'
 | .outgrown,_=>False
theorem c6T.later{M1:B2}{w1:World}(hx:Ext M w M1 w1){e:Ending}{w':World}(h:c6T C M1 w1 K e w'):c6T C M w K e w':=by
 cases e with
 |returned v=>
  obtain⟨c,aa,M',h1,h2⟩:=h;exact⟨c,aa,M',hx.trans h1,h2⟩
 |panicked ch=>
  obtain⟨c,v,aa,M',h0,h1,h2⟩:=h;exact⟨c,v,aa,M',h0,hx.trans h1,h2⟩
 |outgrown=>exact h
theorem a5f{fn:Func}{tmps:Array Value}{R R':Ending->World->Prop}(h:∀e w,R e w->R' e w):∀(ds:List Deferred) (u:FrameMode) (w:World),Leaves P fn tmps R ds u w->Leaves P fn tmps R' ds u w:=by
 intro ds
 induction ds with
 |nil=>
  intro u w hl;cases u with
  |run=>exact hl
  |returning=>
   obtain⟨v,h1,h2⟩:=hl;exact⟨v,h1,h _ _ h2⟩
  |panicking ch=>exact h _ _ hl
 |cons d ds ih=>
  intro u w hl;obtain⟨h1,fv,cap,f,args,h2,h3,h4⟩:=hl;refine⟨h1,fv,cap,f,args,h2,h3,h4.mono λe u' w' he=>?_⟩;cases e with
  |returned v=>exact ih _ _ he
  |panicked ch=>exact ih _ _ he
  |outgrown=>exact h _ _ he
theorem b3d{fn:Func}{R R':Ending->World->Prop}(h:∀e w,R e w->R' e w){e:Exit}{a:Act}(hb:bodyPostD P fn R e a w):bodyPostD P fn R' e a w:=by
 cases e with
 |normal=>exact a5f h _ _ _ hb
 |ret=>exact a5f h _ _ _ hb
 |panic ch=>exact a5f h _ _ _ hb
 |outgrown=>exact h _ _ hb
 |exit id=>exact hb
 |goto l=>exact hb
def b8c(C:Ctx)(fn:Func)(K:V7->List b9->Prop)(c:Code)(E:Env)(σ:List b9):Prop:=
 ∀(M:B2) (w:World) (a:Act),Rel C M σ w->L3 M w fn.ntmps E a->c.wp C.P (bodyPostD C.P fn (c6T C M w K)) a w
theorem b5K{vs:Array Value}(hn:args.length<=n)(aJ:vs.size=args.length)(hx:∀(i:Nat) (c:CV),args[i]?=some c->RV M w c (vs.getD i undef)):L3 M w n (Env.args args) {tmps:=vs++Array.replicate (n-vs.size) undef,defers:=[]}:=by
 refine⟨J,by simp;omega,λt _=>?_,λt ht=>absurd trivial ht⟩;simp only[Env.args,Env.f]
 rcases a2J t args.length with ht|ht
 .have:=hx t (args[t]) (by simp[ht]);have h1:(vs++Array.replicate (n-vs.size) undef).getD t undef=vs.getD t undef:=by
   simp[b4t,aJ,ht]
  rw[h1];simpa[ht]using this
 .have h1:(vs++Array.replicate (n-vs.size) undef).getD t undef=undef:=by
   simp only[a0U,b4t];rw[D X];rw[Array.getElem?_replicate]
   split<;>rfl
  rw[h1];simp only[b2P ht,Option.getD_none];exact .val _
theorem c1P{fn:Func}{c:Code}(hf:C.P.funcs[f]?=some fn)(hb:fn.body=some c)(hn:Nat.ble args.length fn.ntmps=true)(h:b8c C fn K c (Env.args args) σ):b8 C f args σ K:=λM w vs hr aJ hx=>
 (calls_of_wp_defers hf hb (h M w _ hr (b5K (nb hn) aJ hx))).mono λe w' he=>by cases e<;>exact he
theorem c2K{fn:Func}{x y:Code}(h:CWp C fn.ntmps x (D3.next (b8c C fn K y) (Fin C fn K)) E σ):b8c C fn K (.seq x y) E σ:=λM w a hr hf=>by
 refine wp_seq (wp_mono (h M w a hr hf) λe a' w' hl=>?_);obtain⟨E',aa,M',h1,h2,h3,h4⟩:=hl;cases e with
 |normal=>exact wp_mono (h4 M' w' a' h2 h3) λe a0 w0 hb=>b3d (λe w he=>c6T.later h1 he) hb
 |ret=>
  obtain⟨c,hc,hk⟩:=h4;obtain⟨v,hv,bh⟩:=hc M' w' a' h2 h3.rv;show Leaves C.P fn a'.tmps _ a'.defers .returning w';rw[h3.defers];exact⟨v,hv,c,aa,M',h1,h2,bh,hk⟩
 |panic ch=>
  obtain⟨c,v,h0,hv,hk⟩:=h4;show Leaves C.P fn a'.tmps _ a'.defers (.panicking ch) w';rw[h3.defers];exact⟨c,v,aa,M',h0,h1,h2,hv,hk⟩
 |exit id=>exact h4.elim
 |goto l=>exact h4.elim
 |outgrown=>exact h4.elim
def b2U(b:Bool)(v:Value):FrameMode:=if b then .panicking [{v,recovered:=false}]else .returning
def a0t(b:Bool)(v:Value):FrameMode:=if b then .panicking [{v,recovered:=true}]else .returning
theorem b6S(b:Bool)(v:Value):settle (a0t b v)= .returning:=by cases b<;>rfl
def c7A(C:Ctx)(g:FuncId)(aD:List CV)(σ:List b9)(b:Bool)(u:CV)(K:List b9->Prop):Prop:=
 ∀(M:B2) (w:World) (vs:Array Value) (v:Value),Rel C M σ w->vs.size=aD.length->(∀(i:Nat) (c:CV),aD[i]?=some c->RV M w c (vs.getD i undef))->RV M w u v ->
  CallsD C.P g vs (b2U b v) w λe u' w'=>(∃x,e= .returned x)/\u'=a0t b v/\∃aa M',Ext M w M' w'/\Rel C M' aa w'/\K aa
theorem d3R{C:Ctx}{fn:Func}{K:V7->List b9->Prop}{id:Nat}{ae:Array Oper}{y:Code}{E:Env}{σ:List b9}{g:FuncId}{aD:Array Operand}{t:Nat}{o1 o2:Oper}{ats:Array TypeId}(hl:ae.toList=[o1,o2])(g1:o1.guard=none)(g2:o2.guard=none)(d1:o1.dst=some t)(d2:o2.dst=none)(ht:t<fn.ntmps)
 (e1:o1.op = .makeFunc (.func g) #[] aD)(e2:o2.op = .defer {callee:=.value (.tmp t),args:=#[],argTypes:=ats})(hg:∀args w,(callFunc g args).run C.P w= .ok (.enter g args) w)(hv:E.valids aD.toList)
 (h:∀ds,c6N ds C fn.ntmps y (λe E' aa=>match e with
  | .normal | .ret=>c7A C g (E.vals C aD.toList) aa false (.val undef) λeE=>∃c,a0N C E' eE fn c/\K (.ret c) eE
  | .pan u=>c7A C g (E.vals C aD.toList) aa true u λeE=>∃c,a0N C E' eE fn c/\K (.ret c) eE
  |_=>False) (E.put (some t) (.clo g (E.vals C aD.toList)) True) σ):b8c C fn K (.seq (.region id ae false) y) E σ:=λM w a hr hf=>by
 refine wp_seq (wp_region_list ?_);rw[hl];obtain⟨v,eu,cE⟩:∃v,(execOp a.eval o1).run C.P w= .ok (.value v) w/\RV M w (.clo g (E.vals C aD.toList)) v:=by
  refine⟨.func (.func g) #[] (aD.map a.eval),by simp[execOp,e1,Instr.makeFunc],.clo (by rw[<- Env.vals_map];simp) λi c hi=>?_⟩;rw[<- Env.vals_map,O5,P2]at hi;obtain⟨x,hx,rfl⟩:=hi;have aC:aD[i]?=some x:=I hx;have hm:x∈aD:=b8o aC;have:(aD.map a.eval).getD i undef=a.eval x:=by
   rw[a0U,b4a,aC];rfl
  rw[this];exact hf.eval hr (Env.valids_mem hv x (I hm))
 have dF:L3 M w fn.ntmps (E.put (some t) (.clo g (E.vals C aD.toList)) True) (a.put (some t) v):=hf.put (λt' ht'=>by injection ht' with ht';omega) (λ_=>cE) λhh=>absurd trivial hh;unfold wpList;rw[F (by simp[Region.wanted,g1])];refine .inl ?_;unfold Oper.wp;rw[eu,Oper.upon_value,d1];unfold wpList;rw[F (by simp[Region.wanted,g2])];refine .inl ?_;have fS:(a.put (some t) v).eval (.tmp t)=v:=by
  have aJ:t<a.tmps.size:=by rw[hf.size];exact ht
  simp[Act.eval,Act.put,aJ]
 cases cE with
 | @clo _ _ vs aJ hvs=>
 have av:(execOp (a.put (some t) (.func (.func g) #[] vs)).eval o2).run C.P w= .ok (.defer {target:=.fn (.func g) vs,args:=#[]}) w:=by
  simp[execOp,e2,resolve,fS,Deferred.ofValue]
 unfold Oper.wp;rw[av,Oper.upon_defer,d2];unfold wpList;have hact:({a.put (some t) (.func (.func g) #[] vs)with defers:={target:=.fn (.func g) vs,args:=#[]}::(a.put (some t) (.func (.func g) #[] vs)).defers}:Act).put none undef=addDs [{target:=.fn (.func g) vs,args:=#[]}] (a.put (some t) (.func (.func g) #[] vs)):=by
  simp[addDs,Act.put,hf.defers]
 rw[hact];refine wp_mono (h _ M w _ hr dF) λe a' w' hl=>?_;obtain⟨a0,rfl,E',aa,M',h1,h2,h3,h4⟩:=hl;have hvs':∀(i:Nat) (c:CV),(E.vals C aD.toList)[i]?=some c->RV M' w' c (vs.getD i undef):=λi c hi=>(hvs i c hi).mono h1;have cK:(addDs [{target:=.fn (.func g) vs,args:=#[]}] a0).defers=[{target:=.fn (.func g) vs,args:=#[]}]:=by simp[addDs,h3.defers]
 have fin:∀(b:Bool) (u:CV) (pv:Value),RV M' w' u pv->(c7A C g (E.vals C aD.toList) aa b u λeE=>∃c,a0N C E' eE fn c/\K (.ret c) eE)->Leaves C.P fn a0.tmps (c6T C M w K) [{target:=.fn (.func g) vs,args:=#[]}] (b2U b pv) w':=λb u pv hu hd=>by
  refine leaves_cons (f:=g) (args:=vs) (by cases b<;>simp[b2U]) (by simp[invoke,hg]) ((hd M' w' vs pv h2 aJ hvs' hu).mono λe u' w'' he=>?_);obtain⟨⟨x,rfl⟩,rfl,eE,M'',k1,k2,c,hc,hk⟩:=he;show Leaves C.P fn a0.tmps _ [] (settle _) w'';rw[b6S];obtain⟨rv,bh,hrv2⟩:=hc M'' w'' a0 k2 λt ht=>(h3.rv t ht).mono k1;exact⟨rv,bh,c,eE,M'',h1.trans k1,k2,hrv2,hk⟩
 cases e with
 |normal=>
  show Leaves C.P fn _ _ (addDs _ a0).defers .returning w';rw[cK];exact fin false _ undef (.val _) h4
 |ret=>
  show Leaves C.P fn _ _ (addDs _ a0).defers .returning w';rw[cK];exact fin false _ undef (.val _) h4
 |panic ch=>
  obtain⟨c,pv,rfl,hpv,h4⟩:=h4;show Leaves C.P fn _ _ (addDs _ a0).defers (.panicking _) w';rw[cK];exact fin true c pv hpv h4
 |exit id=>exact h4.elim
 |goto l=>exact h4.elim
 |outgrown=>exact h4.elim
theorem d5n{g:FuncId}{fn:Func}{y:Code}{aD:List CV}{b:Bool}{u:CV}{K:List b9->Prop}{t1 t2:Nat}{o1 o2:Oper}{ats:Array TypeId}(hf:C.P.funcs[g]?=some fn)(hb:fn.body=some (.seq (.region id ae false) y))(bM:fn.results = #[])(hn:Nat.ble aD.length fn.ntmps=true)
 (hs:ae.size=2)(h0:ae[0]?=some o1)(h1:ae[1]?=some o2)(g1:o1.guard=none)(g2:o2.guard=none)(d1:o1.dst=some t1)(d2:o2.dst=some t2)(ff:t1<fn.ntmps)(fq:t2<fn.ntmps)(e1:o1.op = .call {callee:=.builtin .recover,args:=#[],argTypes:=ats})(e2:o2.op = .assign (.tmp t1))
 (h:CWp C fn.ntmps y (λe _ aa=>match e with| .normal | .ret=>K aa|_=>False) (((Env.args aD).put (some t1) (if b then u else .val .nilIface) True).put (some t2) (if b then u else .val .nilIface) True) σ):c7A C g aD σ b u K:=λM w vs v hr aJ hvs hu=>by
 refine callsD_of_wpS hf hb λgM cs hc₀=>?_;refine wpS_seq (wpS_region ?_);rw[hs];have hrec:recoverD (gM::cs)=if b then some (v,{gM with mode:=a0t b v}::cs)else none:=by
  unfold recoverD;simp only[hc₀];cases b<;>simp[b2U,a0t]
 have f0:=b5K (n:=fn.ntmps) (nb hn) aJ hvs;generalize hact:({tmps:=vs++Array.replicate (fn.ntmps -vs.size) undef,defers:=[]}:Act)=a0 at f0;have hrun1:(execOp a0.eval o1).run C.P w= .ok .recover w:=by simp[execOp,e1,resolve,invoke,builtin]
 have rest:∀(x:Value) (aS:List Frame),aS={gM with mode:=a0t b v}::cs->RV M w (if b then u else .val .nilIface) x->wpOpsS C.P ae (Exit.thenS (y.wpS C.P (bodyPostS C.P fn gM cs λe u' w'=>(∃x,e= .returned x)/\u'=a0t b v/\∃aa M',Ext M w M' w'/\Rel C M' aa w'/\K aa)) (bodyPostS C.P fn gM cs λe u' w'=>(∃x,e= .returned x)/\u'=a0t b v/\∃aa M',Ext M w M' w'/\Rel C M' aa w'/\K aa)) [1] (a0.put (some t1) x) aS w:=by
  intro x aS hcs hx;have f1:L3 M w fn.ntmps ((Env.args aD).put (some t1) (if b then u else .val .nilIface) True) (a0.put (some t1) x):=f0.put (λt' ht'=>by injection ht' with ht';omega) (λ_=>hx) λhh=>absurd trivial hh;have fS:(a0.put (some t1) x).eval (.tmp t1)=x:=by
   have aJ:t1<a0.tmps.size:=by rw[f0.size];exact ff
   simp[Act.eval,Act.put,aJ]
  have iw:(execOp (a0.put (some t1) x).eval o2).run C.P w= .ok (.value x) w:=by simp[execOp,e2,fS]
  have f2:L3 M w fn.ntmps (((Env.args aD).put (some t1) (if b then u else .val .nilIface) True).put (some t2) (if b then u else .val .nilIface) True) ((a0.put (some t1) x).put (some t2) x):=f1.put (λt' ht'=>by injection ht' with ht';omega) (λ_=>hx) λhh=>absurd trivial hh;simp only[wpOpsS,h1,Region.wanted,g2,if_true,iw,Oper.upon_value,d2,Exit.thenS];refine wpS_of_wp (wp_mono (h M w _ hr f2) λe a' w' hl=>?_);obtain⟨E',aa,M',k1,k2,k3,k4⟩:=hl;subst hcs;cases e with
  |normal=>exact⟨k3.defers,_,J,_,results_none bM _ _ _,⟨_,J⟩,J,aa,M',k1,k2,k4⟩
  |ret=>exact⟨k3.defers,_,J,_,results_none bM _ _ _,⟨_,J⟩,J,aa,M',k1,k2,k4⟩
  |panic ch=>
   obtain⟨c,pv,_,_,k4⟩:=k4;exact k4.elim
  |exit id=>exact k4.elim
  |goto l=>exact k4.elim
  |outgrown=>exact k4.elim
 show wpOpsS C.P ae _ [0,1] _ _ _;unfold wpOpsS;simp only[h0,Region.wanted,g1,if_true,hrun1,hrec,d1];cases b with
 |true=>exact rest v _ J hu
 |false=>
  refine rest .nilIface _ ?_ (.val _);simp[a0t,b2U]at hc₀⊢;cases gM
  simp_all
section
def b1b:Value->Bool
 | .iface _ _=>true
 |_=>false
theorem c5o{ms:Array (String×TypeId)}(ho:o.op = .binOp .neq t x (.const .nilIface) t')(hx:E.valid x)(ex:E.val C x= .val v)(hu:∀w,(underlying t).run C.P w= .ok (.interface ms) w)(hv:v= .nilIface\/∃a b,v= .iface a b):m0 C σ E o (.val (.bool (b1b v))):=
 i8 λM w ρ _ h=>by
  have h1:=h x w8 hx;rw[ex]at h1;have e1:=r4 h1;have e2:=h (.const .nilIface) w8 J;have e3:=r4 e2;refine⟨.bool (b1b v),?_,.val _⟩
  rcases hv with rfl|⟨a,b,rfl⟩
  .have he:(Op.equal t .nilIface .nilIface).run C.P w= .ok true w:=by
    unfold Op.equal;rw[show Op.maxDepth=(Op.maxDepth -1)+1 from J,Op.equalIn];simp[hu]
   simp[execOp,ho,e1,e3,eqGuard,binOp,he,b1b]
  .have he:(Op.equal t (.iface a b) .nilIface).run C.P w= .ok false w:=by
    unfold Op.equal;rw[show Op.maxDepth=(Op.maxDepth -1)+1 from J,Op.equalIn];simp[hu]
   simp[execOp,ho,e1,e3,eqGuard,binOp,he,b1b]
theorem c8b{s:TypeId}{xs:List Value}{u:TypeDesc}(ho:o.op = .typeAssert x s t true)(hx:E.valid x)(ex:E.val C x= .val (.iface t (.agg xs.toArray)))(hu:∀w,(underlying t).run C.P w= .ok u w)(hi:b07 u=false)(h1x:(xs.all λv=>(CV.val v).one)=true):m0 C σ E o (.tup [plain xs,.val (.bool true)]):=
 i8 λM w ρ _ h=>by
  have h1:=h x w8 hx;rw[ex]at h1;have e1:=r4 h1;refine⟨.tuple #[.agg xs.toArray,.bool true],?_,.tup J λi c hc=>?_⟩
  .simp [execOp,ho,e1,Instr.typeAssert,hu];cases u<;>simp[b07]at hi⊢
  .rcases i with _|_|i
   .injection hc with hc;subst hc
    refine .agg H (λc hc=>?_) λi c hc=>?_
    .obtain ⟨v,hm,rfl⟩:=D5.1 hc;exact a40.1 h1x v hm
    .rw [O5,P2]at hc;obtain⟨v,hv,rfl⟩:=hc;have:(xs.toArray).getD i undef=v:=by simp[a0U,hv]
     show RV M w (.val v) ((xs.toArray).getD i undef);rw[this];exact .val v
   .injection hc with hc;subst hc;exact .val _
   .cases hc
end
def b0U(σ:List b9):List Nat->List b9->List b9
 |k::am,x::xs=>(b0U σ am xs).set k x
 |_,_=>σ
theorem b2x(σ:List b9):∀(am:List Nat) (xs:List b9),(b0U σ am xs).length=σ.length
 | [],_=>by cases ‹List b9›<;>rfl
 |_::_,[]=>rfl
 |k::am,x::xs=>by rw[b0U,List.length_set,b2x σ am xs]
theorem b89{σ:List b9}:∀{am:List Nat} {xs:List b9} {k:Nat},k∉am->(b0U σ am xs)[k]?=σ[k]?
 | [],xs,k,_=>by cases xs<;>rfl
 |j::am,[],k,_=>rfl
 |j::am,x::xs,k,h=>by
  rw[b0U,a2M (λe=>h (by rw[<- e];simp))];exact b89 λhm=>h (by simp[hm])
theorem c3p{σ:List b9}:∀{am:List Nat} {xs:List b9} {i k:Nat} {x:b9},(∀(i j k:Nat),am[i]?=some k->am[j]?=some k->i=j)->k<σ.length->am[i]?=some k->xs[i]?=some x->(b0U σ am xs)[k]?=some x
 | [],xs,i,k,x,_,_,h,_=>by simp at h
 |j::am,[],i,k,x,_,_,_,h=>by simp at h
 |j::am,y::xs,0,k,x,_,hk,h,hx=>by
  simp at h hx;subst h hx;rw[b0U];simp[b2x,hk]
 |j::am,y::xs,i+1,k,x,cw,hk,h,hx=>by
  have ay:j≠k:=λe=>by
   subst e;have:=cw 0 (i+1) j J h;omega
  rw[b0U,a2M ay];exact c3p (λa b c h1 h2=>by
   have:=cw (a+1) (b+1) c (I h1) (I h2);omega) hk (I h) (I hx)
theorem R1.mono(hR:∀k k',R k k'->R' k k')(h:R1 R c c'):R1 R' c c':=(h.symm (R':=λa b=>R' b a) λ_ _ h=>hR _ _ h).symm λ_ _ h=>h
theorem I8.mono(hR:∀k k',R k k'->R' k k'){a:b9}(h:I8 R a b):I8 R' a b:=(h.symm (R':=λa b=>R' b a) λ_ _ h=>hR _ _ h).symm λ_ _ h=>h
def b55(am:List Nat):Prop:=∀(i j k:Nat),am[i]?=some k->am[j]?=some k->i=j
theorem a7P(am:List Nat)(hC:C.plain)(ak:am.length=obs.length)(cw:b55 am)
 (cV:∀(i k:Nat) (ob:b9),am[i]?=some k->obs[i]?=some ob->∃aL,σ[k]?=some aL/\I8 (λk i=>am[i]?=some k) aL ob)(ap:a2g (λk i=>am[i]?=some k) args' args)
 {res res':α->V7}{S S':α->List b9}{P:α->Prop}(h:b8 C f args obs λr τ=>∃a,r=res a/\τ=S a/\P a)(hS:∀a,(S a).length=obs.length)
 (eX:∀a (i k:Nat) (x:b9),am[i]?=some k->(S a)[i]?=some x->∃x',(S' a)[i]?=some x'/\I8 (λi k=>am[i]?=some k) x x')(eA:∀a,a7n (λi k=>am[i]?=some k) (res a) (res' a)):
 b8 C f args' σ λr τ=>∃a,r=res' a/\τ=b0U σ am (S' a)/\P a:=by
 refine I9 am hC ak cw cV ap h λr τ hk=>?_;obtain⟨a,rfl,rfl,hp⟩:=hk;have up:∀{c c':CV},R1 (λi k=>am[i]?=some k) c c'->R1 (a0K am σ.length) c c':=λhh=>R1.mono (λ_ _ h=>.inl h) hh;refine⟨by rw[hS];exact n_7 _,res' a,b0U σ am (S' a),?_,by rw[b2x,hS];omega,λk _ bD=>b89 bD,λi k x ha hx=>?_,a,J,J,hp⟩
 .have:=eA a;generalize hra:res a=ra at this;generalize hrb:res' a=rb at this;cases this with
  |ret h=>exact .ret (up h)
  |pan h=>exact .pan (up h)
 .rcases ha with ha|⟨ha,_⟩
  .obtain ⟨x',h1,h2⟩:=eX a i k x ha hx;have bD:k<σ.length:=by
    have hi:i<obs.length:=by rw[<- ak];exact(n_3.1 ha).1
    obtain⟨aL,g1,_⟩:=cV i k obs[i] ha (by simp[hi]);exact(n_3.1 g1).1
   exact⟨x',c3p cw bD ha h1,I8.mono (λ_ _ h=>.inl h) h2⟩
  .have:=(n_3.1 hx).1;rw[hS,<- ak]at this;omega
theorem b2b(am:List Nat)(hC:C.plain)(ak:am.length=obs.length)(cw:b55 am){obs':List b9}
 (cV:∀(i k:Nat) (ob:b9),am[i]?=some k->obs[i]?=some ob->∃aL,obs'[i]?=some aL/\σ[k]?=some aL/\I8 (λi k=>am[i]?=some k) ob aL)(ap:a2g (λk i=>am[i]?=some k) args' args)
 {c:α->CV}{P:α->Prop}(hc:∀a,P a->r5 (c a))(h:b8 C f args obs λr τ=>∃a,r= .ret (c a)/\τ=obs/\P a):b8 C f args' σ λr τ=>∃a,r= .ret (c a)/\τ=σ/\P a:=by
 refine I9 am hC ak cw (λi k ob g1 g2=>?_) ap h λr τ hk=>?_
 .obtain ⟨aL,_,h2,h3⟩:=cV i k ob g1 g2;exact⟨aL,h2,h3.symm λ_ _ h=>h⟩
 .obtain ⟨a,rfl,rfl,hp⟩:=hk;refine⟨n_7 _,.ret (c a),σ,.ret (.pure (hc a hp)),X,λ_ _ _=>J,λi k x ha hx=>?_,a,J,J,hp⟩
  rcases ha with ha|⟨ha,_⟩
  .obtain ⟨aL,_,h2,h3⟩:=cV i k x ha hx;exact⟨aL,h2,I8.mono (λ_ _ h=>.inl h) h3⟩
  .have:=(n_3.1 hx).1;rw[<- ak]at this;omega
theorem W8(hC:C.plain)(ap:∀a∈args,r5 a){res':α->Nat->V7}{S:α->List b9}{S':α->Nat->List b9}{P:α->Prop}(h:b8 C f args [] λr τ=>∃a,r=res a/\τ=S a/\P a)
 (ak:∀a n,(S' a n).length=(S a).length)(eX:∀a (n i:Nat) (x:b9),(S a)[i]?=some x->∃x',(S' a n)[i]?=some x'/\I8 (λi k=>k=n+i) x x')(eA:∀a n,a7n (λi k=>k=n+i) (res a) (res' a n))(σ:List b9):
 b8 C f args σ λr τ=>∃a,r=res' a σ.length/\τ=σ++S' a σ.length/\P a:=by
 refine I9 [] hC J (λi j k h=>by simp at h) (λi k ob h=>by simp at h) (by
  refine⟨J,λi c c' h h'=>?_⟩;rw[h]at h';injection h' with h';subst h'
  exact .pure (ap c (n_2 h))) h λr τ hk=>?_
 obtain⟨a,rfl,rfl,hp⟩:=hk;have up:∀i k,k=σ.length+i->a0K [] σ.length i k:=λi k h=>.inr ⟨n_4 _,I h⟩;refine⟨n_4 _,res' a σ.length,σ++S' a σ.length,?_,by simp[ak],λk hk _=>R8 hk,λi k x ha hx=>?_,a,J,J,hp⟩
 .have:=eA a σ.length;generalize hra:res a=ra at this;generalize hrb:res' a σ.length=rb at this;cases this with
  |ret h=>exact .ret (R1.mono up h)
  |pan h=>exact .pan (R1.mono up h)
 .rcases ha with ha|⟨_,ha⟩
  .simp at ha
  .obtain ⟨x',h1,h2⟩:=eX a σ.length i x hx;refine⟨x',?_,I8.mono up h2⟩;rw[ha,a1v X];simpa using h1
section
theorem b1r(hr:Rel C M σ w)(h:RV M w c v)(ho:c.one=true\/∃cs,c= .agg cs)(hk:K (.ret (.ptr σ.length 0)) (σ++[.boxT (some t) c.cells])):
 a3O C M w K (.pointer (some ⟨w.heap.size,0,none⟩)) (w.alloc (.cells v.cells t)):=by
 obtain⟨h1,h2,h3⟩:=h.cells ho;have hx:=Ext.alloc hr ⟨w.heap.size,0,0⟩ (.cells v.cells t);refine⟨.ptr σ.length 0,_,_,hx,hr.alloc ⟨w.heap.size,0,0⟩ _ (.boxT (some t) c.cells) J ⟨v.cells,t,B3 w _,h1,h2,λi x hi=>(h3 i x hi).mono hx⟩,?_,hk⟩;exact .ptr (p:=⟨w.heap.size,0,0⟩) b0n
theorem e0H(ho:o.op = .box t x)(hx:E.valid x)(ex:E.val C x=c)(hc:c.one=true\/∃cs,c= .agg cs)(hk:K (.ret (.ptr σ.length 0)) (σ++[.boxT (some t) c.cells])):H4 C σ E o K:=λM w ρ hr h=>by
 have h1:=h x w8 hx;rw[ex]at h1;have:(execOp ρ o).run C.P w= .ok (.value (.pointer (some ⟨w.heap.size,0,none⟩))) (w.alloc (.cells (ρ x).cells t)):=by
  simp[execOp,ho,Instr.box,a4j]
 rw[this];exact b1r hr h1 hc hk
theorem b8X(ho:o.op = .alloc t)(hz:∀w,(zeroValue t).run C.P w= .ok z w)(bP:M6 z=true)(cL:(I5 z).one=true\/∃cs,I5 z= .agg cs)(hk:K (.ret (.ptr σ.length 0)) (σ++[.boxT (some t) (I5 z).cells])):H4 C σ E o K:=λM w ρ hr h=>by
 have:(execOp ρ o).run C.P w= .ok (.value (.pointer (some ⟨w.heap.size,0,none⟩))) (w.alloc (.cells z.cells t)):=by
  simp[execOp,ho,Instr.alloc,hz,a4j]
 rw[this];exact b1r hr (a0D bP) cL hk
theorem b9X{te:TypeId}(ho:o.op = .binOp .eql t x (.const (.pointer none)) t')(hx:E.valid x)(ex:E.val C x= .ptr k off)(hu:∀w,(underlying t).run C.P w= .ok (.pointer te) w):m0 C σ E o (.val (.bool false)):=
 i8 λM w ρ _ h=>by
  have h1:=h x w8 hx;rw[ex]at h1;have e2:=r4 (h (.const (.pointer none)) w8 J);generalize hv:ρ x=v at h1;cases h1 with
  |ptr hp=>
   rename_i p;have he:(Op.equal t (.pointer (some ⟨p.block,off,none⟩)) (.pointer none)).run C.P w= .ok false w:=by
    unfold Op.equal;rw[show Op.maxDepth=(Op.maxDepth -1)+1 from J,Op.equalIn];simp[hu]
   exact⟨.bool false,by simp[execOp,ho,hv,e2,eqGuard,binOp,he],.val _⟩
theorem c6a{te:TypeId}(ho:o.op = .binOp .eql t x (.const (.pointer none)) t')(hx:E.valid x)(ex:E.val C x= .val (.pointer none))(hu:∀w,(underlying t).run C.P w= .ok (.pointer te) w):m0 C σ E o (.val (.bool true)):=
 i8 λM w ρ _ h=>by
  have h1:=h x w8 hx;rw[ex]at h1;have e1:=r4 h1;have e2:=r4 (h (.const (.pointer none)) w8 J);have he:(Op.equal t (.pointer none) (.pointer none)).run C.P w= .ok true w:=by
   unfold Op.equal;rw[show Op.maxDepth=(Op.maxDepth -1)+1 from J,Op.equalIn];simp[hu]
  exact⟨.bool true,by simp[execOp,ho,e1,e2,eqGuard,binOp,he],.val _⟩
theorem b4k(ho:o.op = .binOp .neq t x y t')(hx:E.valid x)(hy:E.valid y)(ex:E.val C x= .ptr k off)(ey:E.val C y= .ptr k off)(te':TypeId)(hp:C.P.underlying t=some (.pointer te'))(hte:(C.P.info? te').isSome=true):m0 C σ E o (.val (.bool false)):=
 i8 λM w ρ _ h=>by
  obtain⟨j,hte⟩:=b8M.1 hte;have h1:=h x w8 hx;have h2:=h y w8 hy;rw[ex]at h1;rw[ey]at h2;generalize hv:ρ x=v at h1;generalize fy:ρ y=v' at h2;cases h1 with
  |ptr q1=>
   rename_i p;cases h2 with
   |ptr q2=>
    rename_i p';rw[q1]at q2;injection q2 with q2
    subst q2;have:=Lib.run_neq_ptr_same (P:=C.P) (w:=w) ⟨p.block,off,none⟩ hp hte;exact⟨.bool false,by simp[execOp,ho,hv,fy,eqGuard,this],.val _⟩
theorem c17(ho:o.op = .convert src dst x)(hx:E.valid x)(ex:E.val C x= .ptr k off)(hk:σ[k]?=some (.boxT (some e) cells))(ga:off<cells.length)
 (t:TypeId)(hs:C.P.underlying src=some (.pointer t))(hd:C.P.underlying dst=some .unsafePointer)(ht:((C.P.info? t).any λj=>j.size != 0)=true):m0 C σ E o (.ptr k off):=
 i8 λM w ρ hr h=>by
  obtain⟨j,ht,hj⟩:∃j,C.P.info? t=some j/\j.size≠0:=by
   rw[Option.any_eq_true_iff_get]at ht;exact⟨_,Option.eq_some_of_isSome ht.1,I ht.2⟩
  have h1:=h x w8 hx;rw[ex]at h1;generalize hv:ρ x=v at h1;cases h1 with
  |ptr hp=>
   rename_i p;obtain⟨arr,ty,e1,e2,_⟩:=(hr.obj k p _ hp hk).1;have hsh:w.shape? p.block=some (e,arr.size):=by simp[World.shape?,e1]
   have:=Lib.run_to_unsafe (P:=C.P) (w:=w) (src:=src) (dst:=dst) ⟨p.block,off,none⟩ hs hd ht hj hsh (by rw[e2];exact ga);exact⟨_,by simp[execOp,ho,hv,this],.ptr hp⟩
theorem b6d(ho:o.op = .convert src dst x)(hx:E.valid x)(ex:E.val C x= .ptr k off)(hk:σ[k]?=some (.boxT (some e) cells))
 (u:TypeId)(hs:C.P.underlying src=some .unsafePointer)(hd:C.P.underlying dst=some (.pointer u))(ht:(C.P.info? u).isSome=true)(hl:liesAt C.P C.P.depth e (cells.length / C.P.cellsOf e) off u 1=true):m0 C σ E o (.ptr k off):=
 i8 λM w ρ hr h=>by
  obtain⟨j,ht⟩:=b8M.1 ht;have h1:=h x w8 hx;rw[ex]at h1;generalize hv:ρ x=v at h1;cases h1 with
  |ptr hp=>
   rename_i p;obtain⟨arr,ty,e1,e2,_⟩:=(hr.obj k p _ hp hk).1;have hsh:w.shape? p.block=some (e,arr.size):=by simp[World.shape?,e1]
   have:=Lib.run_from_unsafe (P:=C.P) (w:=w) (src:=src) (dst:=dst) ⟨p.block,off,none⟩ hs hd ht hsh (by rw[e2];exact hl);exact⟨_,by simp[execOp,ho,hv,this],.ptr hp⟩
theorem d9R{f:FuncId}{fn:Func}{e:Array Value → Sem Value}{ts:Array TypeId}{x:Operand}{c:CV}(ho:o.op = .call {callee:=.value (.func f),args:= #[x],argTypes:=ts})(hf:C.P.funcs[f]?=some fn)(dv:(fn.name == "runtime.NumGoroutine")=false)(hb:fn.body.isNone =true)(hn:Extern.findNext fn=none)(he:Extern.find fn=some e)
 (hx:E.valid x)(ex:E.val C x=c)(hr:∀v w,(e #[v]).run C.P w= .ok v w):m0 C σ E o c:=
 i8 λM w ρ _ hh=>by
  have h1:=hh x H9 hx;have ck:=r4 (hh (.func f) H9 O);rw[ex]at h1;refine⟨ρ x,?_,h1⟩;have:=a2x (args:=#[ρ x]) (w:=w) hf dv hb hn he (hr (ρ x) w);simp[execOp,ho,resolve,ck,Deferred.ofValue,invoke,this]
theorem b78(ho:o.op = .call {callee:=.builtin .unsafeSliceData,args:=#[x],argTypes:=#[t]})(hx:E.valid x)(ex:E.val C x= .list Y true (some k))(ay:Y≠[]):m0 C σ E o (.eptr k 0 0):=
 i8 λM w ρ _ h=>by
  have h1:=h x H9 hx;rw[ex]at h1;obtain⟨a,cap,b,off,s,vals,hv,bj,dL,dV,dz,ha,cq,aQ,hc,bh,cH⟩:=h1.list_inv;obtain⟨s',hp,ha0,rfl,hs⟩:=cH k J;have hl:0<Y.length:=a81.2 ay;refine⟨.pointer (some ⟨b,0,none⟩),?_,?_⟩
  .have:=Lib.run_unsafeSliceData_row (P:=C.P) (w:=w) #[t] o.type ⟨b,0,none⟩ Y.length cap X;simp[execOp,ho,resolve,invoke,builtin,hv,ha0,this]
  .have:=RV.eptr (w:=w) (i:=0) (off:=0) hp;simpa using this
theorem b5V(ho:o.op = .call {callee:=.builtin .unsafeSliceData,args:=#[x],argTypes:=#[t]})(hx:E.valid x)(ex:E.val C x= .list [] false none):m0 C σ E o (.val (.pointer none)):=
 i8 λM w ρ _ h=>by
  have h1:=h x H9 hx;rw[ex]at h1;obtain⟨a,cap,b,off,s,vals,hv,bj,dL,dV,dz,ha,cq,aQ,hc,bh,cH⟩:=h1.list_inv;have:a=none:=by cases a<;>first|rfl|simp at dV
  subst this;refine⟨.pointer none,?_,.val _⟩;have:=Lib.run_unsafeSliceData_nil (P:=C.P) (w:=w) #[t] o.type ([]:List (List CV)).length cap;simp only[J6]at this hv;simp[execOp,ho,resolve,invoke,builtin,hv,this]
theorem Rel.tipKill(hr:Rel C M σ w){t0:Option TypeId}{aH:Array Value}{ty:TypeId}{fr fr':Nat×Nat}(hp:M.pl[k]?=some p)(hk:σ[k]?=some (.tipT t0 n))(hc:w.heap[p.block]?=some (.cells aH ty fr)):
 Ext M w M (World.putObj w p.block (.cells aH ty fr'))/\Rel C M (σ.set k .dead) (World.putObj w p.block (.cells aH ty fr')):=by
 obtain⟨⟨q1,q2,q3,cur0,ty0,q4,q5⟩,cU⟩:=hr.obj k _ _ hp hk;have hb:p.block <w.heap.size:=(a1Z.1 hc).1;have hx:Ext M w M (World.putObj w p.block (.cells aH ty fr')):=by
  refine⟨⟨[],H⟩,λ_ h=>h,λ_ _ h=>.inr h,λb' h=>World.putObj_other w _ (λe=>cU (e▸h)),λb' o' h=>?_,by rw[World.putObj_size];exact n_7 _,U0,J,J,J,λb' h=>⟨h,World.putObj_other w _ (λe=>hr.nk k p _ hp hk J (e▸h)),id,λ_=>id⟩⟩;by_cases he:p.block=b'
  .subst he;simp only[World.cell?,World.putObj_same w _ hb,hc]
  .exact O2 (World.putObj_other w _ he)
 have hd:=hr.dead k;refine⟨hx,hd.len,λb o' ha=>by rw[World.putObj_size];exact hr.blk b o' ha,λk' p' x aI aC=>?_,hd.inj,λg cells hg=>(hr.glob g cells hg).mono hx,λb h=>(by rw[World.putObj_size];exact hr.kep b h),hd.nk⟩;obtain⟨h1,h2⟩:=hd.obj k' p' x aI aC;refine⟨?_,h2⟩;by_cases hl:x.live=true
 .have gH:k'≠k:=by
   rintro rfl;rw[b0L (n_3.1 hk).1]at aC;injection aC with aC
   subst aC;cases hl
  rw[a2M (Ne.symm gH)]at aC;have ay:p.block≠p'.block:=λe=>gH (hr.inj k' k p' p x _ aI hp aC hk hl J e.symm);exact h1.mono hx (World.putObj_other w _ ay) (λ_ _ _ _ h=>h)
 .cases x<;>first|trivial|simp[b9.live]at hl
theorem c1y{b:Nat}{aH:Array Value}{ty:TypeId}{fr:Nat×Nat}(hc:w.heap[b]?=some (.cells aH ty fr))(hn:n≠0):∃fr',w.freeze ⟨b,0,none⟩ n=World.putObj w b (.cells aH ty fr'):=by
 have hb:b<w.heap.size:=(a1Z.1 hc).1;obtain⟨lo,hi⟩:=fr;refine⟨if lo == hi then(0,0+n)else(min lo 0,max hi (0+n)),?_⟩;have hg:w.heap[b]= .cells aH ty (lo,hi):=by
  have:=(a1Z.1 hc).2;exact this
 simp only[World.freeze,D hn,World.putObj]
 congr 1
 apply b6q;intro i;rw[b7U,c8l];by_cases aZ:b=i
 .subst aZ;simp[hb,hg]
 .simp [aZ]
theorem b3b{pt it:TypeId}{t0:Option TypeId}(ho:o.op = .call {callee:=.builtin .unsafeString,args:=#[x,y],argTypes:=#[pt,it]})(hx:E.valid x)(hy:E.valid y)(ex:E.val C x= .eptr q 0 0)(ey:E.val C y= .val (.int .i64 l.length))
 (hq:σ[q]?=some (.tipT (some e) l.length))(hk:σ[k]?=some (.boxT t0 cells))(hi:cells[i]?=some (.list (l.map bcv) true (some q)))(ay:l≠[])
 (hp:C.P.underlying pt=some (.pointer e))(hc:C.P.cellsOf e=1)(h:K (.ret (sv l)) (σ.set q .dead)):H4 C σ E o K:=λM w ρ hr hh=>by
 have h1:=hh x H9 hx;have h2:=r4 (ey▸hh y H9 hy);rw[ex]at h1;generalize hv:ρ x=v at h1;cases h1 with
 |eptr ba=>
  rename_i p;obtain⟨pk,eD⟩:∃pk,M.pl[k]?=some pk:=by
   have:=(n_3.1 hk).1;rw[<- hr.len]at this;exact⟨_,a0H this⟩
  obtain⟨arr,ty,e1,e2,e3,e4⟩:=(hr.obj k pk _ eD hk).1;obtain⟨a,cap,b,off,s,vals,hvv,bj,dL,dV,dz,ha,cq,aQ,aN,bh,cH⟩:=(e4 i _ hi).list_inv;obtain⟨s',aI,ha0,rfl,hs⟩:=cH q J;rw[ba]at aI;injection aI with aI
  subst aI;have ie:l.map bcv≠[]:=I ay;have bz:s=1:=by
   cases l with
   |nil=>exact absurd J ay
   |cons x l=>exact(cq (bcv x) H).symm
  subst bz;have aU:=hs ie;subst aU;obtain⟨⟨q1,q2,q3,aH,fO,q4,q5⟩,_⟩:=hr.obj q _ _ ba hq;simp only[a9B,b2k]at q1 q4 q5;have hcells:∀j x,l[j]?=some x->w.cell? ((⟨b,0,none⟩:Addr).add j)=some (.int .u8 x.toNat):=λj x hj=>by
   have g:(l.map bcv)[j]?=some (bcv x):=by rw[O5,hj];rfl
   have:=(aN j 0 _ _ g J).2;have hz:=r4 (bh j 0 _ _ g J);rw[hz]at this;simp only[b2k,K0,a9r]at this;rw[U9];simpa using this
  have ak:l.length<=cap:=I bj;have hus:=Lib.run_unsafeString_row (P:=C.P) w pt it o.type e hp hc b aH.size (by simp[World.shape?,q4]) l ay (by rw[q5];exact ak) (by unfold maxLen at dL;omega) hcells;obtain⟨fr',hfr⟩:=c1y q4 (n:=l.length) (I ay);have av:(execOp ρ o).run C.P w= .ok (.value (.string ⟨l.toArray⟩)) (World.putObj w b (.cells aH e fr')):=by
   rw[<- hfr];simp[execOp,ho,resolve,invoke,builtin,hv,h2,hus]
  rw[av];obtain⟨g1,g2⟩:=hr.tipKill (fr':=fr') ba hq q4;exact⟨_,_,_,g1,g2,.val _,h⟩
theorem b64(ey:E.val C y=sv l):∀M w v,Rel C M σ w->RV M w (E.val C y) v->c1L C w M (l.map bcv) 1 v:=λM w v _ h=>by
 rw[ey]at h;have hv:=r4 h;subst hv;refine⟨λw'=>by simp[Builtin.lenOf,str,ByteArray.size],λr hr=>?_,(l.map λb=>Value.int .u8 b.toNat).toArray,?_,H,λi j r c hi hj=>?_⟩
 .obtain ⟨b,_,rfl⟩:=D5.1 hr;rfl
 .simp [Builtin.firstCells,str]
 .rw [O5,P2]at hi;obtain⟨b,hb,rfl⟩:=hi
  rcases j with _|j
  .simp only[bcv,List.getElem?_cons_zero,Option.some.injEq]at hj;subst hj;refine⟨?_,J⟩;have:((l.map λb=>Value.int .u8 b.toNat).toArray).getD (i*1+0) undef= .int .u8 b.toNat:=by simp[a0U,hb]
   rw[this];exact .val _
  .cases hj
end
def A7(t:TypeId):Nat->b9
 |0=>.dead
 |n+1=>.tipT (some t) (n+1)
def a1g(l:U)(p:Nat):CV:=.list (l.map bcv) (gnn l.length) (C3 l.length p)
theorem b5H(t:TypeId)(n m:Nat):I6 n (A7 t m):=by cases m<;>trivial
section
theorem a4v{t2:TypeId}{new:U}{p:Nat}{ti:TypeInfo}(ho:o.op = .call {callee:=.builtin .append,args:=#[x,y],argTypes:=#[t,t2]})(hx:E.valid x)(hy:E.valid y)(ex:E.val C x=a1g l p)
 (aT:∀M w v,Rel C M σ w->RV M w (E.val C y) v->c1L C w M (new.map bcv) 1 v)(hu:∀w,(underlying t).run C.P w= .ok (.slice e) w)(hs:∀w,(sizeOf e).run C.P w= .ok 1 w)(df:∀w,(typeInfo e).run C.P w= .ok ti w)(hz:∀w,(zeroValue e).run C.P w= .ok z w)(bL:z.cells.size=1)
 (dB:(∀w,(underlying t2).run C.P w= .ok (.slice e) w)\/∀w,(underlying t2).run C.P w= .ok .string w)(hb1:ti.bytes=1)
 (cd:σ[p]?=some (A7 e l.length))(hb:l.length+new.length<=140737488355328)
 (hk:K (.ret (a1g (l++new) σ.length)) (σ.set p .dead++[A7 e (l++new).length])):H4 C σ E o K:=by
 have bi:∀(l:U),∀r∈l.map bcv,r.length=1:=λl r hr=>by
  obtain⟨b,_,rfl⟩:=D5.1 hr;rfl
 rcases new with _|⟨r1,new⟩
 .
  intro M w ρ hr hh;have h1:=hh x H9 hx;have h2:=hh y H9 hy;rw[ex,a1g]at h1;obtain⟨ak,_,arr,ck,aW,_⟩:=aT M w _ hr h2;obtain⟨a,cap,b,off,s',vals,hv,bj,dL,dV,dz,ha,cq,aQ,hc,bh,cH⟩:=h1.list_inv;have bG:(execOp ρ o).run C.P w=((Builtin.append_ #[t,t2] o.type #[ρ x,ρ y]).run C.P w).andThen λv w=>.ok (.value v) w:=by
   simp[execOp,ho,resolve,invoke,builtin]
  have aA:arr= #[]:=by
   apply Array.eq_empty_of_size_eq_zero;simpa using aW
  subst aA;have bX:∀w',(Builtin.lenOf (ρ y)).run C.P w'= .ok 0 w':=I ak;have hfn':(Builtin.firstCells 1 0 (ρ y)).run C.P w= .ok #[] w:=I ck;have iy:l.length<=cap:=I bj;have av:(execOp ρ o).run C.P w= .ok (.value (.slice a (l.map bcv).length cap)) w:=by
   rw[bG,hv]
   rcases dB with dB|dB
   all_goals
    cases a with
    |none=>simp[Builtin.append_,hu,dB,hs,bX,hfn',iy]
    |some a=>simp[Builtin.append_,hu,dB,hs,bX,hfn',iy,storeCells]
  rw[av];simp only[a0z]at hk
  rcases l with _|⟨r0,l⟩
  .obtain ⟨aG,bd⟩:=(hr.dead p).addDead ⟨0,0,0⟩;exact⟨_,_,_,bd,aG,by simpa[a1g,gnn,C3,hv]using h1.mono bd,hk⟩
  .obtain ⟨sz,hp,ha0,ga,aJ⟩:=cH p J;obtain⟨bd,aG⟩:=hr.tipNew (m:=(r0::l).length) hp cd (n_7 _) iy;refine⟨_,_,_,bd,aG,?_,hk⟩;have hl:=h1.mono bd;rw[hv]at hl;obtain⟨a',cap',b',off',s'',fG,fy,q1,q2,q3,q4,q5,q6,q7,q8,q9,q10⟩:=hl.list_inv;injection fy with e1 e2 e3
   subst e1 e3;refine RV.list' (L:=((r0::l).map bcv).length) J fG q1 q2 (by rw[q3]) (λh=>by cases h) q5 q6 q7 q8 q9 (λk' aK=>?_);obtain⟨s3,g1,g2,g3,g4⟩:=q10 p J;injection aK with aK
   subst aK;refine⟨s3,?_,g2,g3,g4⟩;have e4:=bd.get hp;rw[g1]at e4;rw[e4];simp[B2.add,<- hr.len]
 .have ay:(r1::new).map bcv≠[]:=by simp
  have hbb:((l.map bcv).length+((r1::new).map bcv).length)*ti.bytes<=140737488355328:=by rw[hb1];simp only[L7];simpa using hb
  have bB:(l.map bcv).length+((r1::new).map bcv).length<=9223372036854775807:=by simp only[L7];simp only[C5]at hb⊢;omega
  have hK:K (.ret (.list (l.map bcv++(r1::new).map bcv) true (some σ.length))) (σ.set p .dead++[.tipT (some e) ((l.map bcv).length+((r1::new).map bcv).length)]):=by
   have e1:(l++r1::new).length=(l.length+new.length)+1:=by simp;omega
   have e2:(l.map bcv).length+((r1::new).map bcv).length=(l.length+new.length)+1:=by simp;omega
   rw[a1g,e1]at hk;rw[e2,<- a3j];exact hk
  rcases l with _|⟨r,l⟩
  .have hee:σ.set p .dead=σ:=by
    refine b9b λi=>?_;rw[a9z]
    split
    .rename_i h';subst h';rw[F (n_3.1 cd).1,cd];rfl
    .rfl
   rw[hee]at hK;exact a9y ho hx hy ex aT hu hs df hz bL dB (.inr J) a0b (.inl ⟨J,J,J⟩) (bi []) ay hbb bB hK
  .refine a9y ho hx hy ex aT hu hs df hz bL dB (.inr J) a0b (.inr ⟨H,p,J,?_⟩) (bi _) ay hbb bB hK;simpa[A7]using cd
theorem b0y{pt it:TypeId}(ho:o.op = .call {callee:=.builtin .unsafeString,args:=#[x,y],argTypes:=#[pt,it]})(hx:E.valid x)(hy:E.valid y)(ex:E.val C x= .val (.pointer none))(ey:E.val C y= .val (.int .i64 0))(h:K (.ret (sv [])) σ):H4 C σ E o K:=λM w ρ hr hh=>by
 have h1:=r4 (ex▸hh x H9 hx);have h2:=r4 (ey▸hh y H9 hy);have:=Lib.run_unsafeString_none (P:=C.P) (w:=w) pt it o.type none;have av:(execOp ρ o).run C.P w= .ok (.value (.string .empty)) w:=by simp[execOp,ho,resolve,invoke,builtin,h1,h2,this]
 rw[av];exact⟨_,_,_,Ext.refl _ _,hr,.val _,h⟩
end
end Go.Cl
namespace Go.Cl
open Go.Sort
theorem a5Z{C:Ctx}{M:B2}{σ:List b9}{w:World}(hr:Rel C M σ w)(k:Nat)(os:Array Obj):Ext M w M (grow (w.drewN k) os)/\Rel C M σ (grow (w.drewN k) os):=by
 have bQ:∀b,b<w.heap.size->(grow (w.drewN k) os).heap[b]?=w.heap[b]?:=λb hb=>by
  show(w.heap++os)[b]?=_;exact b5D hb
 have aJ:w.heap.size<=(grow (w.drewN k) os).heap.size:=by
  show w.heap.size<=(w.heap++os).size;rw[b8u];omega
 have hx:Ext M w M (grow (w.drewN k) os):=⟨⟨[],H⟩,λ_ h=>h,λ_ _ h=>.inr h,λb h=>bQ b (hr.blk b 0 (.inl h)),λb o h=>O2 (bQ b (hr.blk b o (.inr h))),aJ,U0,J,J,J,λb h=>⟨h,bQ b (hr.kep b h),id,λ_=>id⟩⟩;refine⟨hx,hr.len,λb o h=>a9p (hr.blk b o h) aJ,λj p ob hp hs=>?_,hr.inj,λg cells hg=>(hr.glob g cells hg).mono hx,λb h=>a9p (hr.kep b h) aJ,hr.nk⟩;obtain⟨h1,h2⟩:=hr.obj j p ob hp hs;refine⟨?_,h2⟩;by_cases hl:ob.live=true
 .exact h1.mono hx (bQ _ (h1.lt hl)) (λ_ _ _ _ h=>h)
 .cases ob<;>first|trivial|simp[b9.live]at hl
theorem b1W{C:Ctx}{f:FuncId}{args:List CV}{v:Value}(h:∀(M:B2) (σ:List b9) (w:World) (vs:Array Value),Rel C M σ w->vs.size=args.length->(∀(i:Nat) (c:CV),args[i]?=some c->RV M w c (vs.getD i undef)) ->
 Calls C.P f vs w λe w'=>e= .returned v/\∃k os,w'=grow (w.drewN k) os)(σ:List b9):b8 C f args σ λr aa=>r= .ret (.val v)/\aa=σ:=λM w vs hr hn hx=>by
 refine(h M σ w vs hr hn hx).mono λe w' ⟨he,k,os,hw⟩=>?_;subst he hw;obtain⟨h1,h2⟩:=a5Z hr k os;exact⟨_,_,_,h1,h2,.val _,J,J⟩
theorem GV.tab{C:Ctx}{M:B2}{w:World}{name:String}{g:Nat}{k:IntKind}{zs:List Int}(hg:GV M w (zs.map λz=>.val (.int k z)) g)(hn:C.P.globalNamed name=some g):Lib.TabIs C.P w name k zs:=by
 obtain⟨arr,ty,fr,h1,h2⟩:=hg.sz;have he:arr=(zs.map λz=>Value.int k z).toArray:=by
  have hc:=hg.rv;generalize hv:Value.pointer (some ⟨g,0,none⟩)=v at hc;cases hc with
  |cptr vals q1 q2 q3=>
   injection hv with hv
   injection hv with hv
   injection hv with e1 e2 e3
   subst e1;refine b6q λi=>?_;by_cases hi:i<zs.length
   .have hci:(zs.map λz=>CV.val (.int k z))[i]?=some (.val (.int k zs[i])):=by rw[O5,a0H hi];rfl
    have hz:=(q2 i _ hci).2;have hy:=r4 (q3 i _ hci);rw[hy]at hz;simp only[<- e2,K0]at hz;simp only[World.cell?,h1,Option.isSome_none,b8x,if_false]at hz;rw[hz];simp[hi]
   .have:arr.size<=i:=by rw[h2];simp;omega
    rw[b0X this,b0X K5]
 unfold Lib.TabIs World.var?;rw[hn];simp only[n_9,h1,he]
end Go.Cl
namespace Go.Cl
variable{t e t':TypeId}{x y:Operand}{c c':CV}{K:V7->List b9->Prop}{α:Type}{C:Ctx}{l:List Oper}{f:FuncId}{s k n len:Nat}{E:Env}{z:Value}{P:α->Prop}{args:List CV}{Y:List (List CV)}{o:Oper}{ob:b9}{M:B2}{σ:List b9}{w:World}{b:Bool}
section
theorem b7i{f:FuncId}{fn:Func}{ps:Array TypeId}{t e:TypeId}{ts:Array TypeId}{x:Operand}{n:Nat}{K:V7 → List b9 → Prop}(ho:o.op = .call {callee:=.value (.func f),args:= #[x],argTypes:=ts})(hf:C.P.funcs[f]?=some fn)(dv:(fn.name == "runtime.NumGoroutine")=false)(hb:fn.body.isNone =true)(hn:Extern.findNext fn=none)(he:Extern.find fn=some (Extern.BytealgMakeNoZero.makeNoZero ps #[t]))
 (ht:C.P.underlying t=some (.slice e))(hx:E.valid x)(ex:E.val C x= .val (.int .i64 n))(dz:n<=140737488355328)(h:K (.ret (.vec σ.length 0 n)) (σ++[.tipT (some e) 0])):H4 C σ E o K:=λM w ρ hr hh=>by
 have h1:=r4 (ex▸hh x H9 hx);have ck:=r4 (hh (.func f) H9 O);obtain⟨cs,av,aO,bk⟩:=Lib.run_makeNoZero (P:=C.P) w ps t e ht n X;have hc:=a2x (args:=#[.int .i64 n]) (v:=.slice (some ⟨w.heap.size,0,none⟩) n cs.size) (w:=w) hf dv hb hn he;have aB:(callFunc f #[.int .i64 n]).run C.P w= .ok (.value (.slice (some ⟨w.heap.size,0,none⟩) n cs.size)) (w.drew.drew.alloc (.cells cs e)):=by
  simp only[callFunc,Sem.run_bind,run_program,Result.andThen_ok,hf,dv,hb,hn,he];simp[av]
 have dD:(execOp ρ o).run C.P w= .ok (.value (.slice (some ⟨w.heap.size,0,none⟩) n cs.size)) (w.drew.drew.alloc (.cells cs e)):=by
  simp[execOp,ho,resolve,ck,h1,Deferred.ofValue,invoke,aB]
 rw[dD];obtain⟨aG,bd⟩:=hr.drewN;obtain⟨aX,aM⟩:=aG.drewN;have hcm:cs.size<=maxLen:=bk (by unfold maxLen;omega);have fP:=Ext.alloc aX ⟨w.heap.size,cs.size,1⟩ (.cells cs e);have eZ:=aX.alloc ⟨w.heap.size,cs.size,1⟩ (.cells cs e) (.tipT (some e) 0) J ⟨n_4 _,hcm,⟨λo' ho'=>by have:=aX.blk _ _ (.inr ho');simp only at this;exact absurd this (Nat.lt_irrefl _),λ_=>J⟩,cs,e,B3 _ _,H⟩;refine⟨_,_,_,(bd.trans aM).trans fP,eZ,?_,h⟩;have hp:(M.add ⟨w.heap.size,cs.size,1⟩).pl[σ.length]?=some ⟨w.heap.size,cs.size,1⟩:=by simp[B2.add,<- hr.len]
 have:=RV.vec (w:=w.drew.drew.alloc (.cells cs e)) (off:=0) (len:=n) (a:=⟨w.heap.size,0,none⟩) hp (I aO) hcm (λ_=>by simp);simpa using this
theorem b9r{v:Operand}{kd:IntKind}(ho:o.op = .slice t x none (some v) none)(hx:E.valid x)(hv:E.valid v)(ex:E.val C x= .vec k 0 n)(ev:E.val C v= .val (.int kd 0))(hn:1<=n)(hu:∀w,(underlying t).run C.P w= .ok (.slice e) w)(hs:∀w,(sizeOf e).run C.P w= .ok s w):m0 C σ E o (.list [] true (some k)):=
 i8 λM w ρ hr hh=>by
  have aC:=hh x w8 hx;have fy:=r4 (ev▸hh v w8 hv);rw[ex]at aC;generalize hw:ρ x=u at aC;cases aC with
  |vec hp g1 g2 g3=>
   rename_i p a;have hc:0<p.cap:=by omega
   have ha:=g3 hc;rw[b5I]at ha;subst ha;have hb:(Instr.sliceBounds true n (p.cap -0) none (some (.int kd 0)) none).run C.P w= .ok (0,0,p.cap -0) w:=by
    simp[Instr.sliceBounds,Instr.sliceBound,asIntOf]
   have ay:¬p.cap=0:=by omega
   have av:(execOp ρ o).run C.P w= .ok (.value (.slice (some ⟨p.block,0,none⟩) 0 p.cap)) w:=by
    simp only[Nat.sub_zero]at hb hw;simp[execOp,ho,Instr.sliceAt,Instr.slice,hu,hw,fy,hb,hs,ay,U9]
   refine⟨_,av,?_⟩;exact RV.list' (L:=0) (b:=p.block) (off:=0) (s:=0) J (λ_ _=>undef) (n_4 _) g2 J (λh=>by cases h) a0b (λr hr=>by simp at hr) (λr hr=>by simp at hr) (λi j r c hi=>by simp at hi) (λi j r c hi=>by simp at hi) (λk' aK=>by
    injection aK with aK
    subst aK;exact⟨p.size,hp,J,J,λh=>absurd J h⟩)
theorem d4s{tok:Option Nat}(ho:o.op = .call {callee:=.builtin .copy,args:=#[x,y],argTypes:=#[t,t']})(hx:E.valid x)(hy:E.valid y)(ex:E.val C x= .list [] true tok)(ey:E.val C y= .list [] false none)
 (hu:∀w,(underlying t).run C.P w= .ok (.slice e) w)(hs:∀w,(sizeOf e).run C.P w= .ok s w)(h:K (.ret (.val (.int .i64 0))) σ):H4 C σ E o K:=λM w ρ hr hh=>by
 have h1:=hh x H9 hx;have h2:=hh y H9 hy;rw[ex]at h1;rw[ey]at h2;obtain⟨a,cap,b,off,s1,vals,hv,_,_,dV,_⟩:=h1.list_inv;obtain⟨a2,cap2,b2,gf,s2,vals2,cE,_,_,hnn2,_⟩:=h2.list_inv;have ha2:a2=none:=by cases a2<;>first|rfl|simp at hnn2
 obtain⟨a1,ha1⟩:∃a1,a=some a1:=by cases a with|none=>simp at dV|some a=>exact⟨a,J⟩
 subst ha2 ha1;have av:(execOp ρ o).run C.P w= .ok (.value (.int .i64 0)) w:=by
  simp[execOp,ho,resolve,invoke,builtin,hv,cE,Builtin.copy_,Builtin.lenOf,Builtin.firstCells,hu,hs,storeCells,goInt]
 rw[av];exact⟨_,_,_,Ext.refl _ _,hr,.val _,h⟩
theorem c8z(ho:o.op = .call {callee:=.builtin .cap,args:=#[x],argTypes:=#[t]})(hx:E.valid x)(ex:E.val C x= .list [] false none)(hu:∀w,(underlying t).run C.P w= .ok (.slice e) w):m0 C σ E o (.val (.int .i64 0)):=
 i8 λM w ρ _ h=>by
  have h1:=h x H9 hx;rw[ex]at h1;obtain⟨a,cap,b,off,s,vals,hv,_,_,_,dz,_⟩:=h1.list_inv;have:=dz J;subst this;exact⟨.int .i64 0,by simp[execOp,ho,resolve,invoke,builtin,Builtin.cap_,hu,hv,goInt],.val _⟩
theorem d4A{t2:TypeId}{new:U}{p:Nat}{ti:TypeInfo}(ho:o.op = .call {callee:=.builtin .append,args:=#[x,y],argTypes:=#[t,t2]})(hx:E.valid x)(hy:E.valid y)(ex:E.val C x= .list [] true (some p))
 (aT:∀M w v,Rel C M σ w->RV M w (E.val C y) v->c1L C w M (new.map bcv) 1 v)(hu:∀w,(underlying t).run C.P w= .ok (.slice e) w)(hs:∀w,(sizeOf e).run C.P w= .ok 1 w)(df:∀w,(typeInfo e).run C.P w= .ok ti w)(hz:∀w,(zeroValue e).run C.P w= .ok z w)(bL:z.cells.size=1)
 (dB:(∀w,(underlying t2).run C.P w= .ok (.slice e) w)\/∀w,(underlying t2).run C.P w= .ok .string w)(hb1:ti.bytes=1)
 (cd:σ[p]?=some (.tipT (some e) 0))(ay:new≠[])(hb:new.length<=140737488355328)
 (hk:K (.ret (a1g new σ.length)) (σ.set p .dead++[A7 e new.length])):H4 C σ E o K:=by
 have ie:new.map bcv≠[]:=I ay;refine b2C ho hx hy ex aT hu hs df hz bL dB (.inr J) a0b (.inr ⟨J,J,p,J,cd⟩) H ie (by rw[hb1];simp only[L7,J6];omega) (by simp only[L7,J6];omega) ?_
 rcases new with _|⟨c,new⟩
 .exact absurd J ay
 .have e1:([]:List (List CV)).length+((c::new).map bcv).length=new.length+1:=by simp
  rw[e1,a1D];exact hk
end
section
theorem wr8{z:Int}(h0:0<=z)(h1:z<256):IntKind.u8.wrap z=z:=by
 have:z%256=z:=Int.emod_eq_of_lt h0 h1;simp[IntKind.wrap,IntKind.signed,IntKind.bits];omega
theorem e1R{a b:Nat}(ho:o.op = .binOp .or t x y t')(hx:E.valid x)(hy:E.valid y)(ex:E.val C x= .val (.int .u8 (a:Int)))(ey:E.val C y= .val (.int .u8 (b:Int)))(ha:a<256)(hb:b<256):m0 C σ E o (.val (.int .u8 ((a |||b:Nat):Int))):=
 i8 λM w ρ _ h=>by
  have h1:=h x w8 hx;have h2:=h y w8 hy;rw[ex]at h1;rw[ey]at h2;have e1:∀n:Nat,n<256->(BitVec.ofInt 8 (n:Int)).toNat=n:=λn hn=>by
   rw[BitVec.ofInt_natCast,BitVec.toNat_ofNat];exact b52 X
  have e2:a |||b<2^8:=Nat.or_lt_two_pow X X;have e3:(BitVec.ofInt IntKind.u8.bits (a:Int) |||BitVec.ofInt IntKind.u8.bits (b:Int)).toNat=a |||b:=by
   show(BitVec.ofInt 8 (a:Int) |||BitVec.ofInt 8 (b:Int)).toNat=_;rw[BitVec.toNat_or,e1 a ha,e1 b hb]
  have e4:(Op.intBits .or .u8 (a:Int) (b:Int)).run C.P w= .ok (.int .u8 ((a |||b:Nat):Int)) w:=by
   unfold Op.intBits;simp only[Sem.run_pure,e3];rw[wr8 X X]
  refine⟨_,?_,.val _⟩;simp[execOp,ho,r4 h1,r4 h2,eqGuard,binOp,e4]
theorem e0Y{k k':IntKind}{a b:Int}{m:Nat}(ho:o.op = .binOp .shr t x y t')(hx:E.valid x)(hy:E.valid y)(ex:E.val C x= .val (.int k a))(ey:E.val C y= .val (.int k' (m:Int)))(hk:m<=k.bits)(hb:a / 2^m=b):m0 C σ E o (.val (.int k b)):=
 i8 λM w ρ _ h=>by
  have h1:=h x w8 hx;have h2:=h y w8 hy;rw[ex]at h1;rw[ey]at h2;refine⟨.int k b,?_,.val _⟩;have e:min (m:Int).toNat k.bits=m:=by rw[a2L];omega
  have h0:¬((m:Int)<0):=by omega
  have e2:a.fdiv (2^m)=b:=by
   have:(0:Int)<=2^m:=Int.le_of_lt (Int.pow_pos G);rw[Int.fdiv_eq_ediv_of_nonneg _ this,hb]
  have e3:min m k.bits=m:=by omega
  simp[execOp,ho,r4 h1,r4 h2,eqGuard,binOp,Op.shift,e3,e2];intro h;omega
end
section
theorem U7{cx:Operand}{xs:Array Operand}{ts:Array TypeId}{ax aD:List CV}{c:α->CV}{S:α->List b9}(ho:o.op = .call {callee:=.value cx,args:=xs,argTypes:=ts})(hc:E.valid cx)(ec:E.val C cx= .clo f aD)(aB:∀args w,(callFunc f args).run C.P w= .ok (.enter f args) w)
 (hv:E.valids xs.toList)(h:b8 C f (ax++aD) σ λr aa=>∃a,r= .ret (c a)/\aa=S a/\P a)(ea:E.vals C xs.toList=ax)(hk:∀a,P a->K (.ret (c a)) (S a)):H4 C σ E o K:=
 b4d ho hc ec aB (Env.valids_mem hv) (Env.vals_map _) (ea▸h.mono λr aa hh=>by
  obtain⟨a,rfl,rfl,hp⟩:=hh;exact hk a hp)
theorem c4w{v:Value}(ho:o.op = .buildSlice t 1 #[(0,x)])(hx:E.valid x)(ex:E.val C x= .val v)(hv:v.oneCell'=true)(hu:∀w,(underlying t).run C.P w= .ok (.slice e) w)(hs:∀w,(sizeOf e).run C.P w= .ok 1 w)(hz:∀w,(zeroValue e).run C.P w= .ok z w)(bP:z.oneCell'=true)
 (hk:K (.ret (.list [[.val v]] true (some σ.length))) (σ++[.tip 1])):H4 C σ E o K:=λM w ρ hr hh=>by
 have h1:=r4 (ex▸hh x w8 hx);have hvc:v.cells = #[v]:=by cases v<;>first|rfl|simp[Value.oneCell']at hv
 have hzc:z.cells = #[z]:=by cases z<;>first|rfl|simp[Value.oneCell']at bP
 have av:(execOp ρ o).run C.P w= .ok (.value (.slice (some ⟨w.heap.size,0,none⟩) 1 1)) (w.alloc (.cells #[v] e)):=by
  have er:Array.range 1= #[0]:=J;simp only[execOp,ho,Instr.buildSlice,Sem.run_bind,hu,Result.andThen_ok,hs];simp[er,Instr.fill,newRow,h1,hvc,hz]
 rw[av];have aM:=Ext.alloc hr ⟨w.heap.size,1,1⟩ (.cells #[v] e);have aX:=hr.alloc ⟨w.heap.size,1,1⟩ (.cells #[v] e) (.tip 1) J ⟨n_7 _,by unfold maxLen;simp,⟨λo ho=>by
  have:=hr.blk w.heap.size o (.inr ho);omega,λh=>by cases h⟩,#[v],e,B3 _ _,J⟩
 have hp:(M.add ⟨w.heap.size,1,1⟩).pl[σ.length]?=some ⟨w.heap.size,1,1⟩:=by simp[B2.add,<- hr.len]
 obtain⟨fP,eZ⟩:=aX.settleCells hp (by simp:(σ++[b9.tip 1])[σ.length]?=some (.tipT none 1));refine⟨_,_,_,aM.trans fP,eZ,?_,hk⟩;refine RV.list (Y:=[[.val v]]) (b:=w.heap.size) (off:=0) (s:=1) (λ_ _=>v) (n_7 _) (by unfold maxLen;simp) J (λh=>by cases h) a0b (λr hr=>by simp at hr;subst hr;rfl) (λr hr c hc=>by simp at hr;subst hr;simp at hc;subst hc;exact hv) (λi j r c hi hj=>?_) (λi j r c hi hj=>?_) (λk hk=>?_)
 .rcases i with _|i
  .injection hi with hi
   subst hi
   rcases j with _|j
   .refine ⟨.inr (.inr ⟨J,H⟩),?_⟩;show(match(w.alloc (.cells #[v] e)).heap[w.heap.size]? with|some (.cells c _ _)=>c[0]? |_=>none)=some v;rw[B3];rfl
   .simp at hj
  .simp at hi
 .rcases i with _|i
  .injection hi with hi
   subst hi
   rcases j with _|j
   .injection hj with hj
    subst hj;exact .val _
   .simp at hj
  .simp at hi
 .injection hk with hk
  subst hk;exact⟨1,hp,J,J,λ_=>J⟩
end
theorem d8k{c:α->CV}(hC:C.plain)(ap:∀a∈args,r5 a)(hc:∀a,r5 (c a))(h:b8 C f args [] λr τ=>∃a,D2 0 τ r (.ret (c a)) []/\P a)(σ:List b9):b8 C f args σ λr τ=>∃a,r= .ret (c a)/\τ=σ/\P a:=
 b2b (obs:=[]) (obs':=[]) [] hC J (by intro i j k h1;simp at h1) (λi k ob h1=>by simp at h1) (L9 ap) (λa _=>hc a) (G5 hC (h.mono λr τ ⟨a,h1,h2⟩=>⟨_,_,h1,a,J,J,h2⟩))
theorem d3c(hC:C.plain)(ap:∀a∈args,r5 a)(hc:r5 c)(h:b8 C f args [] λr τ=>D2 0 τ r (.ret c) [])(σ:List b9):b8 C f args σ λr τ=>r= .ret c/\τ=σ:=
 (d8k (α:=Unit) (c:=λ_=>c) (P:=λ_=>True) hC ap (λ_=>hc) (h.mono λ_ _ hh=>⟨(),hh,O⟩) σ).mono λ_ _ ⟨_,h1,h2,_⟩=>⟨h1,h2⟩
theorem a8N{c:α->CV}{S:α->b9}(hC:C.plain)(ap:∀a∈args,r5 a)(hc:∀a,r5 (c a))(hS:∀a,b11 (S a))(hob:b11 ob)(co:ob.live=true)
 (h:b8 C f (.ptr 0 0::args) [ob] λr τ=>∃a,D2 1 τ r (.ret (c a)) [S a]/\P a)(σ:List b9)(q:Nat)(hq:σ[q]?=some ob):b8 C f (.ptr q 0::args) σ λr aa=>∃a,r= .ret (c a)/\aa=σ.set q (S a)/\P a:=
 b3W hC ap hc hS hob co (G5 hC (h.mono λ_ _ ⟨a,h1,h2⟩=>⟨_,_,h1,a,J,J,h2⟩)) σ q hq
theorem d5S{τ:List b9}(h:C6 0 [] c c'):D2 0 τ (.ret c) (.ret c') []:=⟨[],J,J,.ret h,O⟩
theorem a2G{τ rest:List b9}(hτ:τ=ob::rest)(ho:I6 1 ob)(h:C6 1 [0] c c'):D2 1 τ (.ret c) (.ret c') [ob]:=by
 subst hτ;exact⟨[0],J,J,.ret h,.inr ⟨_,J,.same J ho⟩,O⟩
theorem a8V{R:Nat->Nat->Prop}(h:∀r∈Y,∀c∈r,r5 c):I8 R (.vec s Y) (.vec s Y):=
 .vec J λi r r' h1 h2=>by
  rw[h1]at h2;injection h2 with h2;subst h2
  exact L9 (h r (n_2 h1))
theorem b3q{g:α->Bool}{rows':α->List (List CV)}{off len:α->Nat}(hC:C.plain)(hp:∀r∈Y,∀c∈r,r5 c)(ap:∀a∈args,r5 a)
 (aI:∀a,P a->∀r∈rows' a,∀c∈r,r5 c)
 (h:b8 C f (.vec 0 0 n::args) [.vec s Y] λr τ=>∃a,D2 1 τ r (.ret (.vec (if g a=true then 1 else 0) (off a) (len a))) (if g a=true then [.dead,.vec s (rows' a)]else [.vec s (rows' a)])/\P a){σ:List b9}{q:Nat}(hq:σ[q]?=some (.vec s Y)):
 b8 C f (.vec q 0 n::args) σ λr τ=>∃a,r= .ret (.vec (if g a=true then σ.length else q) (off a) (len a))/\τ=(if g a=true then σ.set q .dead++[.vec s (rows' a)]else σ.set q (.vec s (rows' a)))/\P a:=by
 have hql:=(n_3.1 hq).1;have h':b8 C f (.vec 0 0 n::args) [.vec s Y] λr τ=>∃a,r= .ret (.vec (if g a=true then 1 else 0) (off a) (len a))/\τ=(if g a=true then [.dead,.vec s (rows' a)]else [.vec s (rows' a)])/\P a:=
  G5 hC (h.mono λr τ ⟨a,k1,k2⟩=>⟨_,_,k1,a,J,J,k2⟩)
 refine I9 [q] hC J (λi j k g1 g2=>?_) (λi k ob g1 g2=>?_) (.cons (.vec J) (L9 ap)) h' λr τ hk=>?_
 .rcases i with _|i<;>rcases j with _|j<;>simp at g1 g2<;>rfl
 .rcases i with _|i
  .simp at g1 g2;subst g1 g2;exact⟨_,hq,a8V hp⟩
  .simp at g1
 .obtain ⟨a,rfl,rfl,hpa⟩:=hk;by_cases hg:g a=true
  all_goals simp only[hg,if_true,if_false,b8x]
  rotate_left
  .refine ⟨H,.ret (.vec q (off a) (len a)),σ.set q (.vec s (rows' a)),.ret (.vec (.inl H)),H,λk hk bD=>?_,λi k x ha hx=>?_,a,by simp[hg],by simp[hg],hpa⟩
   .have n1:q≠k:=λe=>bD a2f;simp[n1]
   .rcases ha with ha|⟨ha,rfl⟩
    .rcases i with _|i
     .simp at ha hx;subst ha hx;exact⟨_,by simp[hql],a8V (aI a hpa)⟩
     .simp at ha
    .rcases i with _|i
     .simp at ha
     .simp at hx
  .refine ⟨H,.ret (.vec σ.length (off a) (len a)),σ.set q .dead++[.vec s (rows' a)],.ret (.vec (.inr ⟨H,H⟩)),H,λk hk bD=>?_,λi k x ha hx=>?_,a,by simp[hg],by simp[hg],hpa⟩
   .have n1:q≠k:=λe=>bD a2f;rw[R8 (I hk)];simp[n1]
   .rcases ha with ha|⟨ha,rfl⟩
    .rcases i with _|i
     .simp at ha hx;subst ha hx;exact⟨.dead,by rw[R8 (I hql)];simp[hql],.dead⟩
     .simp at ha
    .rcases i with _|_|i
     .simp at ha
     .simp at hx;subst hx;exact⟨_,by rw[a1v H];simp,a8V (aI a hpa)⟩
     .simp at hx
def ShV(k q:Nat)(c c':CV):Prop:=c=c'\/(∃o n,c= .vec k o n/\c'= .vec q o n)\/∃l nn,c= .list l nn (some k)/\c'= .list l nn (some q)
theorem Rel.shift{p:Pl}(hr:Rel C M σ w)(hk:σ[k]?=some ob)(hp:M.pl[k]?=some p):Rel C {M with pl:=M.pl++[p]} (σ.set k .dead++[ob]) w/\Ext M w {M with pl:=M.pl++[p]} w:=by
 obtain⟨h1,h2⟩:=hr.addDead p;refine⟨?_,h2⟩;have ab:k<σ.length:=(n_3.1 hk).1;have hl:=hr.len;have key:∀(i:Nat) (q:Pl) (aL:b9),(M.pl++[p])[i]?=some q->(σ.set k .dead++[ob])[i]?=some aL->aL= .dead\/∃j,(σ++[.dead])[j]?=some aL/\(M.pl++[p])[j]?=some q/\j<σ.length/\((i=j/\i≠k)\/(i=σ.length/\j=k)):=by
  intro i q aL hq hi
  rcases Nat.lt_trichotomy i σ.length with h|h|h
  .rw [R8 (I h),a9z]at hi;by_cases hik:k=i
   .rw [F hik,F ab]at hi;injection hi with hi
    exact .inl hi.symm
   .rw [D hik]at hi;exact .inr ⟨i,by rw[R8 h];exact hi,hq,h,.inl ⟨J,λe=>hik e.symm⟩⟩
  .have e1:(σ.set k .dead++[ob])[i]?=some ob:=by rw[h];simp
   have e2:(M.pl++[p])[i]?=some p:=by rw[h,<- hl];simp
   rw[e1]at hi;rw[e2]at hq;injection hi with hi;injection hq with hq
   subst hi hq;exact .inr ⟨k,by rw[R8 ab];exact hk,by rw[R8 X];exact hp,ab,.inr ⟨h,J⟩⟩
  .rw [b2P K5]at hi;cases hi
 refine⟨I hl,h1.blk,λi q aL hq hi=>?_,λi i' q q' ob1 ob2 hq eH hi aZ hv fy hb=>?_,h1.glob,h1.kep,λi q aL hq hi hv=>?_⟩
 .rcases key i q aL hq hi with rfl|⟨j,g1,g2,_⟩
  .exact ⟨O,O⟩
  .exact h1.obj j q aL g2 g1
 .rcases key i q ob1 hq hi with rfl|⟨j,g1,g2,g3,g4⟩
  .cases hv
  .rcases key i' q' ob2 eH aZ with rfl|⟨j',gu,gJ,g3',g4'⟩
   .cases fy
   .have:=h1.inj j j' q q' ob1 ob2 g2 gJ g1 gu hv fy hb;omega
 .rcases key i q aL hq hi with rfl|⟨j,g1,g2,_⟩
  .cases hv
  .exact h1.nk j q aL g2 g1 hv
theorem L3.shift{q t:Nat}{a:Act}{p:Pl}(hf:L3 {M with pl:=M.pl++[p]} w n E a)(hp:(M.pl++[p])[k]?=some p)(hq:(M.pl++[p])[q]?=some p)(ht:E.ok t)(hc:ShV k q (E.f t) c'):L3 {M with pl:=M.pl++[p]} w n (E.put (some t) c' True) a:=by
 have bh:RV {M with pl:=M.pl++[p]} w c' (a.tmps.getD t undef):=by
  have h3:=hf.rv t ht
  rcases hc with e|⟨o,m,e1,e2⟩|⟨l,nn,e1,e2⟩
  .rw [<- e];exact h3
  .rw [e1]at h3;rw[e2];generalize a.tmps.getD t undef=u at h3;cases h3 with
   |vec g1 g2 g3 g4=>
    have gu:(M.pl++[p])[k]?=some _:=g1;rw[hp]at gu;injection gu with gu
    subst gu;exact .vec (p:=p) hq g2 g3 g4
  .rw [e1]at h3;rw[e2];generalize a.tmps.getD t undef=u at h3;cases h3 with
   |list v g1 g2 g3 g4 g5 g6 g7 g8 g9 g10=>
    refine .list v g1 g2 g3 g4 g5 g6 g7 g8 g9 λj hj=>?_;injection hj with hj
    subst hj;obtain⟨c0,u1,u2,u3,u4⟩:=g10 k J;rw[hp]at u1;injection u1 with u1
    subst u1;exact⟨c0,hq,u2,u3,u4⟩
 refine⟨hf.defers,hf.size,λx hx=>?_,λx hx=>?_⟩
 .rw [Env.putO_f];rw[Env.putO_ok]at hx;by_cases e:x=t
  .rw [F e,e];exact bh
  .rw [D e]at hx⊢;exact hf.rv x hx
 .rw [Env.putO_un]at hx;by_cases e:x=t
  .rw [F e]at hx;exact absurd trivial hx
  .rw [D e]at hx;exact hf.un x hx
theorem a13{Jk:D3->Env->List b9->Prop}{c:Code}(hC:C.plain)(L:Nat)(hL:Nat.beq L σ.length=true)(k t:Nat)(c':CV)(hk:σ[k]?=some ob)(ht:E.ok t)(hc:ShV k L (E.f t) c')(l:α->List (Nat×CV))(S:α->List b9)(Je:α->Prop)(m:α->Nat)(h0:a91 L l S Je (E.put (some t) c' True) (σ.set k .dead++[ob]))
 (cR:∀(a:α),Je a->CWp C n c (D3.next (a91 L l S λa'=>m a'<m a/\Je a') Jk) (Env.only (l a)) (S a)):CWp C n (.loop c) Jk E σ:=λM w a hr hf=>by
 intro b k0 cs;have hL:=a4A hL;have key:∀d (x:α) M1 w1 a1,m x=d->Je x->Ext M w M1 w1->Rel C M1 (S x) w1->L3 M1 w1 n (Env.only (l x)) a1 ->
  ∃e a' w',Y1 C n Jk M w e a' w'/\Arrives C.P (lone (b.at a1 (.code c::.inLoop c::k0)) cs w1) b k0 cs e a' w':=by
  intro d
  induction d using Nat.strongRecOn with
  |_ d ih=>
   intro x M1 w1 a1 hd hI hx aG dF;obtain⟨e,a2,w2,hq,aA⟩:=cR x hI M1 w1 a1 aG dF b (.inLoop c::k0) cs;obtain⟨E',aa,M',h1,h2,h3,h4⟩:=hq;cases e with
   |normal=>
    obtain⟨x',am,⟨ab,hI'⟩,⟨g1,g2⟩,hE',hS⟩:=h4;have aC:=hx.trans h1;have gK:L<=M'.pl.length:=by
     obtain⟨l,hl⟩:=aC.pl;rw[hl];simp;rw[hr.len,hL];omega
    obtain⟨dG,dH,dI,ci,bc⟩:=ih (m x') X x' _ w2 a2 J hI' (aC.ren g1 (by rw[hr.len,hL])) (h2.ren hC g1 g2 gK hS) (h3.onlyR g1 gK hE');exact⟨dG,dH,dI,ci,.of_steps (Steps.trans aA (.one step_inLoop)) bc⟩
   |outgrown=>exact h4.elim
   |_=>exact⟨_,a2,w2,⟨E',aa,M',hx.trans h1,h2,h3,h4⟩,.pass (x:=.inLoop c) J (λ_ _=>.inl H) aA⟩
 obtain⟨x,am,hP,⟨g1,g2⟩,hE,hS⟩:=h0;have ab:k<σ.length:=(n_3.1 hk).1;obtain⟨p,hp⟩:∃p,M.pl[k]?=some p:=⟨M.pl[k]'(by rw[hr.len];exact ab),H⟩;obtain⟨h1,h2⟩:=hr.shift hk hp;have hf':=(hf.mono h2).shift (k:=k) (q:=L) (by rw[R8 (by rw[hr.len];exact ab)];exact hp) (by rw[hL,<- hr.len];simp) ht hc;have gK:L<=(M.pl++[p]).length:=by rw[n_6,hr.len,hL];omega
 obtain⟨e,a',w',hq,aA⟩:=key _ x _ w a J hP (h2.ren g1 (by rw[hr.len,hL])) (h1.ren hC g1 g2 gK hS) (hf'.onlyR g1 gK hE);exact⟨e,a',w',hq,.of_steps (.one step_loop) aA⟩
theorem a9d{m q:Nat}:ShV k q (.list Y (gnn m) (C3 m k)) (.list Y (gnn m) (C3 m q)):=by
 cases m
 .exact .inl J
 .exact .inr (.inr ⟨_,_,J,J⟩)
section
theorem a6s{cx:Operand}{xs:Array Operand}{ts:Array TypeId}{ax:List CV}{c:α->CV}{S:α->List b9}(ho:o.op = .call {callee:=.value cx,args:=xs,argTypes:=ts})(hc:E.valid cx)(ec:E.val C cx= .val (.func (.func f) #[] #[]))(aB:∀args w,(callFunc f args).run C.P w= .ok (.enter f args) w)
 (hv:E.valids xs.toList)(h:b8 C f ax σ λr aa=>∃a,r= .ret (c a)/\aa=S a/\P a)(ea:(E.vals C xs.toList).map CV.fgt=ax)(hk:∀a,P a->K (.ret (c a)) (S a)):H4 C σ E o K:=
 c3v ho hc ec aB (Env.valids_mem hv) (Env.vals_map _) ((a2D (ea▸h)).mono λr aa hh=>by
  obtain⟨a,rfl,rfl,hp⟩:=hh;exact hk a hp)
end
theorem b7I{β:Type}{kc:α->CV}{vc:β->CV}(hk:∀a,r5 (kc a))(hv:∀b,r5 (vc b))(n:Nat)(a b:List (α×β)):I6 n (.iter (gm kc vc a) (gm kc vc b)):=⟨λx hx=>by
 obtain⟨y,_,rfl⟩:=D5.1 hx;exact⟨(hk _).old,(hv _).old⟩,λx hx=>by
 obtain⟨y,_,rfl⟩:=D5.1 hx;exact⟨(hk _).old,(hv _).old⟩⟩
theorem b2M{α:Type}:∀{l:List α} {i:Nat} {x:α},l[i]?=some x->(x::l.eraseIdx i).Perm l
 | [],_,_,h=>by cases h
 |y::l,0,x,h=>by injection h with h;subst h;exact .refl _
 |y::l,i+1,x,h=>by
  rw[List.eraseIdx_cons_succ];exact(List.Perm.swap y x _).trans ((b2M (l:=l) (i:=i) h).cons y)
theorem c0l{β:Type}{left:List (α×β)}{i:Nat}{q:α}{e:β}{aw:List β}(h:left[i]?=some (q,e)):(aw++[e]++(left.eraseIdx i).map Prod.snd).Perm (aw++left.map Prod.snd):=by
 rw[C7];exact((b2M h).map Prod.snd).append_left aw
def d1X:List (Nat×TyE)->Nat->Option TyE
 | [],_=>none
 |(k,e)::l,t=>match Nat.beq k t with
  |true=>some e
  |false=>d1X l t
theorem b1H{t:Nat}{e:TyE}:∀{l:List (Nat×TyE)},d1X l t=some e->(t,e)∈l
 | [],h=>by cases h
 |(k,x)::l,h=>by
  unfold d1X at h;split at h
  .rename_i hb;obtain rfl:=a4A hb;injection h with h;subst h
   exact b1P
  .exact a6D _ (b1H h)
def tyB(P:Program)(x:Nat×TyE):Bool:=match P.info? x.1,P.underlying x.1 with
 |some i,some d=>Nat.beq i.size x.2.size &&match d with
  | .struct fs=>x.2.agg && (List.range x.2.offs.length).all λi=>match fs[i]? with
   |some fd=>Nat.beq fd.offset (x.2.offs.getD i 0)&&match P.info? fd.type with
    |some j=>Nat.blt 0 j.size
    |none=>false
   |none=>false
  | .array _ _=>x.2.agg &&x.2.offs.isEmpty
  |_=>!x.2.agg &&x.2.offs.isEmpty
 |_,_=>false
theorem b8Y{P:Program}{i:TypeInfo}(h:P.info? t=some i)(w:World):(sizeOf t).run P w= .ok i.size w:=by simp[sizeOf,typeInfo,h]
theorem c28{P:Program}{d:TypeDesc}(h:P.underlying t=some d)(w:World):(underlying t).run P w= .ok d w:=by simp[underlying,h]
def e2W:TypeDesc->Bool
 | .struct _| .array _ _=>true
 |_=>false
theorem b6T{P:Program}{d:TypeDesc}(h:P.underlying t=some d)(w:World):(isAgg t).run P w= .ok (e2W d) w:=by
 unfold isAgg;rw[Sem.run_bind,c28 h];cases d<;>rfl
theorem e0J{P:Program}{l:List (Nat×TyE)}(h:l.all (tyB P)=true):∀x∈l,x.2.right P x.1:=λ⟨t,e⟩ hx=>by
 rw[a40]at h;have h:=h _ hx;unfold tyB at h;split at h
 .rename_i i d hi hd;rw[T7]at h;have aJ:=a4A h.1;have h2:=h.2;have hs:∀w,(sizeOf t).run P w= .ok e.size w:=λw=>by rw[b8Y hi];exact n_8 (λn=>Result.ok n w) aJ
  cases d with
  |struct fs=>
   simp only[T7,a40,List.mem_range]at h2;refine⟨λw=>by rw[b6T hd,show e.agg=true from h2.1];rfl,hs,.inr ⟨fs,c28 hd,λi o ho=>?_⟩⟩;have h3:=h2.2 i (n_3.1 ho).1;split at h3
   .rename_i fd hfd;rw[T7]at h3;have h4:=a4A h3.1;have h5:=h3.2;split at h5
    .rename_i j hj;exact⟨fd,j.size,hfd,by rw[h4,a49];dsimp only at ho⊢;rw[ho];rfl,b8Y hj,by have h6:=h5;rw[b3L]at h6;omega⟩
    .cases h5
   .cases h3
  |array n t'=>
   simp only[T7]at h2;exact⟨λw=>by rw[b6T hd,show e.agg=true from h2.1];rfl,hs,.inl (b7v.1 h2.2)⟩
  |_=>
   simp only[T7,c02]at h2;exact⟨λw=>by rw[b6T hd,show e.agg=false from h2.1];rfl,hs,.inl (b7v.1 h2.2)⟩
 .cases h
def Env.vb(E:Env):Operand->Bool
 | .tmp t=>match E.g t with
  | .yes=>true
  |_=>false
 | .const v=>M6 v
 |_=>true
theorem Env.vb_ok(h:E.vb x=true):E.valid x:=by
 cases x with
 |tmp t=>
  show(E.g t).is;simp only[Env.vb]at h;generalize E.g t=g at h;cases g with
  |yes=>exact O
  |two a b=>cases h
 |const v=>exact h
 |global g=>exact O
 |func f=>exact O
theorem Env.val_h(h:(match x with| .tmp t=>E.h t|x=>some (E.val C x))=some c):E.val C x=c:=by
 cases x with
 |tmp t=>show(E.h t).getD _=c;rw[show E.h t=some c from h];rfl
 |_=>injection h
def e22:BinOp->Bool
 | .eql | .neq | .lss | .leq | .gtr | .geq=>true
 |_=>false
def qv(C:Ctx)(σ:List b9)(E:Env):Op->Option CV
 | .move x| .assign x=>match E.vb x with
  |true=>match x with
   | .tmp t=>E.h t
   |x=>some (E.val C x)
  |false=>none
 | .nilCheck x=>match E.vb x with
  |true=>match E.val C x with
   | .ptr k d=>some (.ptr k d)
   |_=>none
  |false=>none
 | .extract x i=>match E.vb x with
  |true=>match E.val C x with
   | .tup cs=>cs[i]?
   |_=>none
  |false=>none
 | .unOp .not _ x=>match E.vb x with
  |true=>match E.val C x with
   | .val (.bool b)=>some (.val (.bool (!b)))
   |_=>none
  |false=>none
 | .fieldAddr t x f=>match E.vb x with
  |true=>match d1X C.tab t with
   |some e=>match e.offs[f]? with
    |some d=>match E.val C x with
     | .ptr k o=>some (.ptr k (o+d))
     | .cptr cs=>some (.cptr (cs.drop d))
     | .eptr k i o=>some (.eptr k i (o+d))
     |_=>none
    |none=>none
   |none=>none
  |false=>none
 | .load t x=>match E.vb x with
  |true=>
   match d1X C.tab t with
   |some e=>match E.val C x with
    | .ptr k o=>match σ[k]? with
     |some (.boxT _ cells)=>match e.agg with
      |false=>cells[o]?
      |true=>match Nat.ble (o+e.size) cells.length with
       |true=>some (.agg ((cells.drop o).take e.size))
       |false=>none
     |_=>none
    | .cptr cells=>match e.agg with
     |false=>cells[0]?
     |true=>match Nat.ble e.size cells.length with
      |true=>some (.agg (cells.take e.size))
      |false=>none
    |_=>none
   |none=>none
  |false=>none
 | .binOp op _ x y _=>match e22 op with
  |true=>match E.vb x with
   |true=>match E.vb y with
    |true=>match E.val C x with
     | .val (.int k a)=>match E.val C y with
      | .val (.int k' b)=>if k=k' then(a7M op k a b).map CV.val else none
      |_=>none
     |_=>none
    |false=>none
   |false=>none
  |false=>none
 |_=>none
theorem e1C(h:qv C σ E o.op=some c):m0 C σ E o c:=by
 generalize bn:o.op=op at h;cases op with
 |move x=>
  simp only[qv]at h;split at h
  .exact a2r bn (Env.vb_ok ‹_›) (Env.val_h h)
  .cases h
 |assign x=>
  simp only[qv]at h;split at h
  .exact a7z bn (Env.vb_ok ‹_›) (Env.val_h h)
  .cases h
 |nilCheck x=>
  simp only[qv]at h;split at h
  .split at h
   .injection h with h;subst h;exact b4J bn (Env.vb_ok ‹_›) ‹_›
   .cases h
  .cases h
 |extract x i=>
  simp only[qv]at h;split at h
  .split at h
   .exact a6u bn (Env.vb_ok ‹_›) ‹_› h
   .cases h
  .cases h
 |unOp u t x=>
  cases u<;>simp only[qv]at h<;>try cases h
  split at h
  .split at h
   .injection h with h;subst h;exact c3c bn (Env.vb_ok ‹_›) ‹_›
   .cases h
  .cases h
 |fieldAddr t x f=>
  simp only[qv]at h;split at h
  .split at h
   .rename_i e he;split at h
    .rename_i d hd;obtain⟨-,-,hf⟩:=C.right _ (b1H he)
     rcases hf with hf|⟨fs,hu,hf⟩
     .dsimp only at hf;rw[hf]at hd;cases hd
     .obtain ⟨fd,s,h1,rfl,h3,h4⟩:=hf f d hd;split at h
      .injection h with h;subst h;exact j7 bn (Env.vb_ok ‹_›) ‹_› hu h1 h3 h4
      .injection h with h;subst h;exact a3Y bn (Env.vb_ok ‹_›) ‹_› hu h1 h3 h4
      .injection h with h;subst h;exact c7O bn (Env.vb_ok ‹_›) ‹_› hu h1 h3 h4
      .cases h
    .cases h
   .cases h
  .cases h
 |load t x=>
  simp only[qv]at h;split at h
  .split at h
   .rename_i e he;obtain⟨ha,hs,-⟩:=C.right _ (b1H he);dsimp only at ha hs;split at h
    .split at h
     .split at h
      .rename_i gv;rw[gv]at ha;exact o6 bn (Env.vb_ok ‹_›) ‹_› ha ‹_› h
      .rename_i gv;rw[gv]at ha;split at h
       .injection h with h;subst h;exact O4 bn (Env.vb_ok ‹_›) ‹_› ha hs ‹_› (nb ‹_›)
       .cases h
     .cases h
    .split at h
     .rename_i gv;rw[gv]at ha;exact a1f bn (Env.vb_ok ‹_›) ‹_› ha h
     .rename_i gv;rw[gv]at ha;split at h
      .injection h with h;subst h;exact X3 bn (Env.vb_ok ‹_›) ‹_› ha hs (nb ‹_›)
      .cases h
    .cases h
   .cases h
  .cases h
 |binOp op t x y t'=>
  simp only[qv]at h;split at h
  .split at h
   .split at h
    .split at h
     .split at h
      .split at h
       .rename_i hk;subst hk;rw[P2]at h;obtain⟨v,hv,rfl⟩:=h;exact a0Z bn (Env.vb_ok ‹_›) (Env.vb_ok ‹_›) ‹_› ‹_› hv
       .cases h
      .cases h
     .cases h
    .cases h
   .cases h
  .cases h
 |_=>cases h
theorem L3.yes{a:Act}{d:Option Nat}(h:L3 M w n (E.put d c True) a):L3 M w n (E.putO d c .yes) a:=by
 cases d with
 |none=>exact h
 |some d=>
  refine⟨h.defers,h.size,λt ht=>?_,λt ht=>?_⟩
  .have:=h.rv t (by rw[Env.put_ok];rw[Env.putO_ok]at ht;exact ht);rw[Env.put_f]at this;rw[Env.putO_f];exact this
  .exact h.un t (by rw[Env.put_un];rw[Env.putO_un]at ht;exact ht)
section
variable{ae:Array Oper}{Jk:D3->Env->List b9->Prop}
theorem K4.yes{d:Option Nat}(h:K4 C n ae Jk l (E.putO d c .yes) σ):K4 C n ae Jk l (E.put d c True) σ:=λM w a hr hf=>h M w a hr hf.yes
def e20(n:Nat)(o:Oper):Bool:=match o.dst with
 |some d=>Nat.blt d n
 |none=>true
def b0H(C:Ctx)(n:Nat)(ae:Array Oper)(Jk:D3->Env->List b9->Prop):List Oper->Env->List b9->Prop
 | [],E,σ=>Jk .normal E σ
 |o::l,E,σ=>match o.guard with
  |some _=>K4 C n ae Jk (o::l) E σ
  |none=>match e20 n o with
   |false=>K4 C n ae Jk (o::l) E σ
   |true=>match qv C σ E o.op with
    |none=>K4 C n ae Jk (o::l) E σ
    |some c=>match o.dst with
     |some d=>b0H C n ae Jk l (E.putO (some d) c .yes) σ
     |none=>b0H C n ae Jk l E σ
theorem a2Q:∀{l:List Oper} {E:Env},b0H C n ae Jk l E σ->K4 C n ae Jk l E σ
 | [],_,h=>w9 h
 |o::l,E,h=>by
  unfold b0H at h;split at h
  .exact h
  .rename_i hg;split at h
   .exact h
   .rename_i hd;split at h
    .exact h
    .rename_i c hc;refine d5U hg hd (e1C hc) ?_;split at h
     .rename_i d hdd;rw[hdd];exact(a2Q h).yes
     .rename_i hdd;rw[hdd];exact a2Q h
def qc(C:Ctx)(n:Nat):Nat->Nat->Code->(D3->Env->List b9->Prop)->Env->List b9->Prop
 |0,_,c,Jk,E,σ=>CWp C n c Jk E σ
 |k+1,s,c,Jk,E,σ=>match c with
  | .seq x y=>match s with
   |0=>CWp C n (.seq x y) Jk E σ
   |s+1=>qc C n k 1000 x (D3.next (λE σ=>qc C n k s y Jk E σ) Jk) E σ
  | .skip=>Jk .normal E σ
  | .block id x=>qc C n k s x (D3.blk id Jk) E σ
  | .region _ ae false=>b0H C n ae Jk ae.toList E σ
  |c=>CWp C n c Jk E σ
theorem a9S:∀{k s:Nat} {c:Code} {Jk:D3->Env->List b9->Prop} {E:Env} {σ:List b9},qc C n k s c Jk E σ->CWp C n c Jk E σ
 |0,_,_,_,_,_,h=>h
 |k+1,s,c,Jk,E,σ,h=>by
  unfold qc at h;split at h
  .split at h
   .exact h
   .refine G4 ((a9S h).mono λe E σ h=>?_);cases e with
    |normal=>exact a9S h
    |_=>exact h
  .exact C2 h
  .exact a1A (a9S h)
  .exact G8 (a2Q h)
  .exact h
end
section
variable{ae:Array Oper}{Jk:D3->Env->List b9->Prop}
theorem qk{c:Code}(h:qc C n 999 999 c Jk E σ):CWp C n c Jk E σ:=a9S h
theorem qs(s:Nat){c:Code}(h:qc C n 999 s c Jk E σ):CWp C n c Jk E σ:=a9S h
theorem qN(aa:List b9)(he:σ=aa)(h:b0H C n ae Jk l E aa):b0H C n ae Jk l E σ:=he▸h
theorem qo(h:b0H C n ae Jk l E σ):K4 C n ae Jk l E σ:=a2Q h
theorem W(hy:m0 C σ E o c)(h:b0H C n ae Jk l (E.putO o.dst c .yes) σ)(hg:o.guard=none:=by rfl)(hd:(match o.dst with|some d=>Nat.blt d n|none=>true)=true:=by rfl):K4 C n ae Jk (o::l) E σ:=d5U hg hd hy (a2Q h).yes
theorem qD(h:H4 C σ E o λr aa=>match r with| .ret c=>b0H C n ae Jk l (E.putO o.dst c .yes) aa| .pan c=>Jk (.pan c) E aa)(hg:o.guard=none:=by rfl)(hd:(match o.dst with|some d=>Nat.blt d n|none=>true)=true:=by rfl):K4 C n ae Jk (o::l) E σ:=
 a3i hg hd (h.mono λr aa h=>by
  cases r with
  |ret c=>exact(a2Q h).yes
  |pan c=>exact h)
theorem qG{j t:Nat}{au:Bool}(hy:b=au->m0 C σ E o c)(h:b0H C n ae Jk l (E.put o.dst c (b=au)) σ)(hg:o.guard=some (j,au):=by rfl)(ht:(ae[j]?).bind (·.dst)=some t:=by rfl)(hv:E.ok t:=by exact O)(hb:E.f t= .val (.bool b):=by rfl)
 (hd:(match o.dst with|some d=>Nat.blt d n|none=>true)=true:=by rfl):K4 C n ae Jk (o::l) E σ:=e1e hg ht hv hb hd hy (a2Q h)
theorem qH{j t:Nat}{au:Bool}(hg:o.guard=some (j,au))(ht:(ae[j]?).bind (·.dst)=some t)(hy:E.ok t->b=au->m0 C σ E o c)(h:b0H C n ae Jk l (E.put o.dst c (E.ok t/\b=au)) σ)(hv:¬E.ok t->E.un t:=by exact λh=>h)(hb:E.f t= .val (.bool b):=by rfl)
 (hd:(match o.dst with|some d=>Nat.blt d n|none=>true)=true:=by rfl):K4 C n ae Jk (o::l) E σ:=e1B hg ht hv hb hd hy (a2Q h)
theorem qC{c:Operand}{x y:Code}(ht:b=true->qc C n 999 999 x Jk E σ)(hf:b=false->qc C n 999 999 y Jk E σ)(hv:E.valid c:=by first|exact O|exact J)(hc:E.val C c= .val (.bool b):=by exact J):CWp C n (.cond c x y) Jk E σ:=c5g hv hc (λh=>a9S (ht h)) λh=>a9S (hf h)
theorem qO{fn:Func}{c:Code}(hf:C.P.funcs[f]?=some fn)(h:qc C fn.ntmps 999 999 c (Fin C fn K) (Env.args args) σ)(hb:fn.body=some c:=by rfl)(hn:Nat.ble args.length fn.ntmps=true:=by rfl):b8 C f args σ K:=a9j hf hb hn (a9S h)
end
section
variable{Jk:D3->Env->List b9->Prop}
theorem d5w{parts:Array (Nat×Operand)}{ps:List (Nat×CV)}(ho:o.op = .buildSlice t len parts)(hv:E.valids (parts.toList.map (·.2)))
 (hu:∀w,(underlying t).run C.P w= .ok (.slice e) w)(hs:∀w,(sizeOf e).run C.P w= .ok s w)(hz:∀w,(zeroValue e).run C.P w= .ok z w)(bP:M6 z=true)(cL:(I5 z).one=true\/∃cs,I5 z= .agg cs)(fY:(I5 z).cells.length=s)(eV:0<s)
 (ak:len*s<=2^24)(ep:parts.toList.map (λx=>(x.1,E.val C x.2))=ps)(aQ:∀x∈ps,x.2.one=true\/∃cs,x.2 = .agg cs)
 (cT:a5v (λi=>some (i*s,s)) ((List.range (len*s)).map λi=>(I5 z).cells.getD (i%s) default) ps=some Y.flatten)
 {M:B2}{w:World}{ρ:Operand->Value}(h:∀x∈o.op.operands,E.valid x->RV M w (E.val C x) (ρ x)):
 ∃r:Array Value,(execOp ρ o).run C.P w= .ok (.value (.slice (some ⟨w.heap.size,0,none⟩) len len)) (w.alloc (.cells r e))/\RV M w (.agg Y.flatten) (.agg r):=by
 have eW:RV M w (I5 z) z:=a0D bP;obtain⟨g1,g2,g3⟩:=eW.cells cL;have bx:∀x∈parts.toList,x.2∈o.op.operands:=λx hx=>by
  rw[ho];simp only[Op.operands,List.mem_toArray,D5];exact⟨x,hx,J⟩
 have bC:=Env.valids_mem hv;obtain⟨r,aG,aX⟩:=a80 (M:=M) (w:=w) ps (parts.toList.map λx=>(x.1,ρ x.2)) ((List.range (len*s)).map λi=>(I5 z).cells.getD (i%s) default) ((Array.range (len*s)).map (z.cells[·%z.cells.size]!)) Y.flatten cT (by simp[<- ep]) (λi x y hx hy=>by
  refine⟨?_,aQ x (n_2 hx)⟩;subst ep;simp only[O5,P2]at hx hy;obtain⟨a,ha,rfl⟩:=hx;obtain⟨a',cM,rfl⟩:=hy;have:a=a':=by rw[ha]at cM;injection cM
  subst this;have hm:=n_2 ha;exact h _ (bx _ hm) (bC _ (D5.2 ⟨_,hm,J⟩))) H (λc hc=>by
   obtain⟨i,_,rfl⟩:=D5.1 hc;have ab:i%s< (I5 z).cells.length:=by rw[fY];exact a4l _ eV
   rw[a49,a0H ab];exact g2 _ (b1t ab)) (λi c hi=>by
   rw[O5,P2]at hi;obtain⟨i',aZ,rfl⟩:=hi;have bu:=(n_3.1 aZ).1;simp at bu;rw[c3i bu]at aZ;injection aZ with aZ
   subst aZ;have ab:i%s< (I5 z).cells.length:=by rw[fY];exact a4l _ eV
   have hlt2:i%s<z.cells.size:=by rw[g1];exact ab
   have:=g3 (i%s) _ (a0H ab);have e1:(I5 z).cells.getD (i%s) default=(I5 z).cells[i%s]:=by
    rw[a49,a0H ab];rfl
   rw[e1];have e2:((Array.range (len*s)).map (z.cells[·%z.cells.size]!)).getD i undef=z.cells.getD (i%s) undef:=by
    have bL:z.cells.size=s:=by rw[g1,fY]
    have hms:i%s<s:=a4l _ eV;simp[bu,bL,hms]
   rw[e2];exact this)
 refine⟨r,?_,aX⟩;have hl:(parts.map λx=>(x.1,ρ x.2)).toList=parts.toList.map λx=>(x.1,ρ x.2):=by simp
 simp only[execOp,ho,Instr.buildSlice,Sem.run_bind,hu,Result.andThen_ok,hs];rw[D X];simp only[hl];by_cases fm:len*s=0
 .have er:Array.range 0= #[]:=J;rw[fm,er]at aG;simp only[List.map_toArray,b4R]at aG;simp[fm,er,aG,newRow]
 .simp [fm,hz,aG,newRow]
theorem c8k{ae:Array Oper}{o1 o2:Oper}{d1 d2:Nat}{parts:Array (Nat×Operand)}(bs:U)(hd1:o1.dst=some d1)(hd2:o2.dst=some d2)(ho1:o1.op = .buildSlice t len parts)(ho2:o2.op = .convert t t (.tmp d1))(eB:o1.guard=none)(dZ:o2.guard=none)
 (cp:Nat.blt d1 n=true)(cb:Nat.blt d2 n=true)(hv:a8g E parts.toList)
 (hu:∀w,(underlying t).run C.P w= .ok (.slice e) w)(hs:∀w,(sizeOf e).run C.P w= .ok 1 w)(hz:∀w,(zeroValue e).run C.P w= .ok z w)(he:∀w,(underlying e).run C.P w= .ok (.int .u8) w)(bP:M6 z=true)(cL:d1h (I5 z)=true)(fY:(I5 z).cells.length=1)
 (ak:Nat.ble (len*1) 16777216=true)(aQ:c3N (a8i C E parts.toList)=true)
 (cT:a5v (λi=>some (i*1,1)) ((List.range (len*1)).map λi=>(I5 z).cells.getD (i%1) default) (a8i C E parts.toList)=some (bs.map bcv).flatten)(cq:bs.length=len)
 (h:K4 C n ae Jk l ((E.hide (some d1)).put (some d2) (.list (bs.map bcv) true none) True) σ):K4 C n ae Jk (o1::o2::l) E σ:=λM w a hr hf=>by
 have hvs:E.valids (parts.toList.map (·.2)):=by
  have:=a2W hv;have key:∀l:List Operand,(∀x∈l,E.valid x)->E.valids l:=by
   intro l
   induction l with
   |nil=>intro _;trivial
   |cons x l ih=>intro h;exact⟨h x H,ih λy hy=>h y (by simp[hy])⟩
  exact key _ λx hx=>by
   obtain⟨p,hp,rfl⟩:=D5.1 hx;exact this p hp
 have bX:len*1<=2^24:=by have:=nb ak;omega
 obtain⟨r,av,bh⟩:=d5w (o:=o1) (E:=E) (C:=C) (M:=M) (w:=w) (ρ:=a.eval) ho1 hvs hu hs hz bP (a4h cL) fY X bX (a6z _) (a9i aQ) cT (λx _ hx=>hf.eval hr hx);have hlt1:d1<n:=by simpa[b3L]using cp
 have hlt2:d2<n:=by simpa[b3L]using cb
 have hrl2:r.size=len:=by
  cases bh with
  |agg q1 _ _=>
   rw[q1,flat_len (bs.map bcv) (s:=1) (λr0 h0=>by
    obtain⟨b,_,rfl⟩:=D5.1 h0;rfl)]
   simp[cq]
 unfold wpList;rw[F (by simp[Region.wanted,eB])];refine .inl ?_;unfold Oper.wp;rw[av];simp only[Oper.upon];unfold wpList;rw[F (by simp[Region.wanted,dZ])];refine .inl ?_;unfold Oper.wp;have fS:(a.put o1.dst (.slice (some ⟨w.heap.size,0,none⟩) len len)).eval (.tmp d1)= .slice (some ⟨w.heap.size,0,none⟩) len len:=by
  rw[hd1];simp[Act.eval,Act.put,hf.size,hlt1]
 have hsh:(w.alloc (.cells r e)).shape? w.heap.size=some (e,len):=by
  simp only[World.shape?,B3];simp[hrl2]
 have iw:(execOp (a.put o1.dst (.slice (some ⟨w.heap.size,0,none⟩) len len)).eval o2).run C.P (w.alloc (.cells r e))= .ok (.value (.slice (some ⟨w.heap.size,0,none⟩) len len)) (w.alloc (.cells r e (len,len+1))):=by
  have hm:(markStringish ⟨w.heap.size,0,none⟩).run C.P (w.alloc (.cells r e))= .ok () (w.alloc (.cells r e (len,len+1))):=by
   have:=a7H w r e len;simp only[markStringish,shape,freeze,Sem.run_bind];simp only[Sem.run,hsh,Result.andThen_ok];rw[this]
  simp only[execOp,ho2,fS,convert,Sem.run_bind,hu,Result.andThen_ok,he];simp[hm]
 rw[iw];simp only[Oper.upon];obtain⟨hx,eX⟩:=hr.allocFull (.cells r e (len,len+1));have bj:bs.length<=maxLen:=by unfold maxLen;omega
 have gB:RV (M.settle w.heap.size) (w.alloc (.cells r e (len,len+1))) (.list (bs.map bcv) true none) (.slice (some ⟨w.heap.size,0,none⟩) len len):=by
  cases bh with
  |agg q1 q2 q3=>
   have bi:∀r0∈bs.map bcv,r0.length=1:=λr0 h0=>by
    obtain⟨b,_,rfl⟩:=D5.1 h0;rfl
   refine RV.list' (s:=1) (b:=w.heap.size) (off:=0) (I cq.symm) (λi j=>r.getD (i*1+j) undef) (by simp[cq]) X J (λh=>by cases h) a0b bi (λr0 bM c hc=>?_) (λi j r0 c hi hj=>?_) (λi j r0 c hi hj=>?_) (λk hk=>by cases hk)
   .obtain ⟨b,_,rfl⟩:=D5.1 bM;simp[bcv]at hc;subst hc;rfl
   .have hf:=a5k (bs.map bcv) bi i j r0 c hi hj;have ab:=(n_3.1 hf).1;have bu:i*1+j<r.size:=by omega
    refine⟨.inl (.inr J),?_⟩;rw[K0];show(match(w.alloc (.cells r e (len,len+1))).heap[w.heap.size]? with|some (.cells c _ _)=>c[i*1+j]? |_=>none)=_;rw[B3];simp at bu;simp[bu]
   .exact (q3 _ _ (a5k (bs.map bcv) bi i j r0 c hi hj)).mono hx
 rw[hd1,hd2];exact h.later hx eX (((hf.mono hx).hide (d:=some d1)).put (λt ht=>by injection ht with ht;omega) (λ_=>gB) λhh=>absurd trivial hh)
end
section
theorem b4I{off gf len2:Nat}(ho:o.op = .call {callee:=.builtin .copy,args:=#[x,y],argTypes:=#[t,t']})(hx:E.valid x)(hy:E.valid y)(ex:E.val C x= .vec k off len)(ey:E.val C y= .vec k gf len2)
 (hu:∀w,(underlying t).run C.P w= .ok (.slice e) w)(hs:∀w,(sizeOf e).run C.P w= .ok s w)(aK:σ[k]?=some (.vec s Y))(aO:len<=len2)(hl:off+len<=Y.length)(cb:gf+len<=Y.length)
 (hk:K (.ret (.val (.int .i64 len))) (σ.set k (.vec s (J3 Y off ((Y.drop gf).take len))))):H4 C σ E o K:=λM w ρ hr hh=>by
 have h1:=hh x H9 hx;have h2:=hh y H9 hy;rw[ex]at h1;rw[ey]at h2;generalize hv:ρ x=v at h1;generalize cE:ρ y=v2 at h2;have gI:((Y.drop gf).take len).length=len:=by simp;omega
 cases h1 with
 |vec hp g1 g2 g3=>
  rename_i p a;cases h2 with
  |vec cl i1 i2 i3=>
   rename_i p2 a2;obtain rfl:=Option.some.inj (hp.symm.trans cl);have eK:=a7q (len:=len) hr (.vec (w:=w) cl X i2 i3) aK cb;obtain⟨an,cn,hvn,_,cj,arr,ck,aW,bq⟩:=eK;have dO:=(hr.obj k p _ hp aK).1;have bj:Y.length<=p.cap:=dO.2.1;have cm:p.size=s:=dO.1;obtain⟨w',aE,aC,bp⟩:=a4I hr hp aK (p:=off) (new:=(Y.drop gf).take len) X X cj aW bq;have fe:Nat.min len2 len=len:=Nat.min_eq_right aO;rw[gI]at ck;have hfn2:(Builtin.firstCells s len (.slice (some a2) len2 (p.cap -gf))).run C.P w= .ok arr w:=by
    simpa[Builtin.firstCells]using ck
   have hst':(storeCells a arr.toList).run C.P w= .ok () w':=by
    rcases b0J len with h0|h0
    .have fm:arr.toList=[]:=b2K (by rw[gI]at aW;simp[aW,h0]);rw[fm]at aE⊢;exact aE
    .rw [g3 X,cm];exact aE
   have av:(execOp ρ o).run C.P w= .ok (.value (.int .i64 len)) w':=by
    simp[execOp,ho,resolve,invoke,builtin,Builtin.copy_,hu,hs,hv,cE,Builtin.lenOf,fe,hfn2,hst',goInt]
   rw[av];exact⟨_,_,M,aC,bp,.val _,hk⟩
end
section
theorem c35{v:Value}(ho:o.op = .buildSlice t 1 #[(0,x)])(hx:E.valid x)(ex:E.val C x= .val v)(hv:v.oneCell'=true)(hu:∀w,(underlying t).run C.P w= .ok (.slice e) w)(hs:∀w,(sizeOf e).run C.P w= .ok 1 w)(hz:∀w,(zeroValue e).run C.P w= .ok z w)(bP:z.oneCell'=true)
 (hk:K (.ret (.vec σ.length 0 1)) (σ++[.vec 1 [[.val v]]])):H4 C σ E o K:=λM w ρ hr hh=>by
 have h1:=r4 (ex▸hh x w8 hx);have hvc:v.cells = #[v]:=by cases v<;>first|rfl|simp[Value.oneCell']at hv
 have hzc:z.cells = #[z]:=by cases z<;>first|rfl|simp[Value.oneCell']at bP
 have av:(execOp ρ o).run C.P w= .ok (.value (.slice (some ⟨w.heap.size,0,none⟩) 1 1)) (w.alloc (.cells #[v] e)):=by
  have er:Array.range 1= #[0]:=J;simp only[execOp,ho,Instr.buildSlice,Sem.run_bind,hu,Result.andThen_ok,hs];simp[er,Instr.fill,newRow,h1,hvc,hz]
 rw[av];have aM:=Ext.alloc hr ⟨w.heap.size,1,1⟩ (.cells #[v] e);have aX:=hr.alloc ⟨w.heap.size,1,1⟩ (.cells #[v] e) (.vec 1 [[.val v]]) J ⟨J,n_7 _,by unfold maxLen;simp,λr hr=>by simp at hr;subst hr;rfl,λr hr c hc=>by simp at hr;subst hr;simp at hc;subst hc;exact hv,#[v],e,B3 _ _,J,λi j r c hi hj=>by
  rcases i with _|i
  .injection hi with hi
   subst hi
   rcases j with _|j
   .injection hj with hj
    subst hj;exact .val _
   .simp at hj
  .simp at hi⟩
 refine⟨_,_,_,aM,aX,?_,hk⟩;have hp:(M.add ⟨w.heap.size,1,1⟩).pl[σ.length]?=some ⟨w.heap.size,1,1⟩:=by simp[B2.add,<- hr.len]
 have:=RV.vec (w:=w.alloc (.cells #[v] e)) (off:=0) (len:=1) (a:=⟨w.heap.size,0,none⟩) hp (n_7 _) (by unfold maxLen;simp) (λ_=>by simp);simpa using this
end
end Go.Cl
namespace Go.Proofs
open Go.Shelf Go.Sort
theorem b98{P:Program}{ρ:Ren}(Ly:Lays.n190 P ρ)(blk off cap:Nat)(ss:List (List UInt8))(w:World)(hH:Holds encStr w blk off ss.toArray)(hb:blk<w.heap.size)(hn:ss.length <4611686018427387904):
 Calls P (ρ.f 190) #[.slice (some ⟨blk,off,none⟩) ss.length cap] w λe w'=>e= .returned (.tuple #[])/\∃n os,w'=grow (putRow encStr (Sort.ahead w n) blk off (ss.mergeSort λx y=>decide (x<=y)).toArray) os:=
 calls_of_every_depth λJf=>by
  have parts:Any.Callees13sIn P ρ Jf:={
   heap:=AnyS.heapSort_stringIn {Ly with} Jf,rev:=AnyS.reverseRange_stringIn {Ly with} Jf,ins:=AnyS.insertionSort_strIn {Ly with} Jf,brk:=AnyS.breakPatterns_strIn {Ly with} Jf,
   piv:=AnyS.choosePivot_strIn {Ly with} Jf,par:=AnyS.partialInsertionSort_strIn {Ly with} Jf,peq:=AnyS.partitionEqualOrdered_stringIn {Ly with} Jf,prt:=AnyS.partitionOrdered_stringIn {Ly with} Jf}
  have laws:Plain13s:={swo:=swo_ltStr,ins:=insertionSort_holds,par:=partialInsertionSort_holds,prt:=partition_holds _,peq:=partitionEqual_holds _,pdq:=pdq_sorts _};have quick:Any.pdqWalkIn_str P ρ Jf:=λrm b' o' c' x y lim d w' h1 h2 h3 h4 h5 h6 h7 h8=>AnyS.pdqsort_stringIn {Ly with} Jf parts laws (y-x+1) rm b' o' c' x y lim d w' X h1 h2 h3 h4 h5 h6 h7 h8;have lens:Any.lenWalkInS P ρ Jf:=λn w' h=>by
   have h1:=AnyS.bits_LenInS {Ly with} Jf (n:Int) w' X X;rwa[a2L,bitLen_eq _ X]at h1
  have h:=AnyS.Sort_strIn {Ly with} Jf quick lens blk off cap ss.toArray w hH hb (I hn);rw[<- sortStr ss];simpa using h
end Go.Proofs
namespace Go.Cl
open Go.Sort Go.Proofs
def a0B(ss:List U):List U:=ss.mergeSort λx y=>decide (x<=y)
theorem d4j{w:World}{b:Nat}{arr:Array Value}{ty:TypeId}{fr:Nat×Nat}{d:Array (List UInt8)}(h:w.heap[b]?=some (.cells arr ty fr)):putRow encStr w b 0 d=World.putObj w b (.cells (putCells encStr 0 d arr) ty fr):=by
 have hb:b<w.heap.size:=(a1Z.1 h).1;have hg:w.heap[b]= .cells arr ty fr:=(a1Z.1 h).2;unfold putRow mapBlock World.putObj
 congr 1
 apply b6q;intro i;rw[b7U,c8l];by_cases hi:b=i
 .subst hi;simp[hb,hg,onCells]
 .simp [hi]
theorem d5F{d:Array (List UInt8)}{arr:Array Value}{i:Nat}(hi:i<d.size)(ha:i<arr.size):(putCells encStr 0 d arr).getD i undef=encStr d[i]:=by
 unfold putCells;rw[a0U,Array.getElem?_mapIdx,a1J ha];simp[hi]
theorem d0I{C:Ctx}{f:FuncId}(aB:∀(blk off cap:Nat) (ss:List (List UInt8)) (w:World),Holds encStr w blk off ss.toArray->blk<w.heap.size->ss.length <4611686018427387904 ->
 Calls C.P f #[.slice (some ⟨blk,off,none⟩) ss.length cap] w λe w'=>e= .returned (.tuple #[])/\∃n os,w'=grow (putRow encStr (Sort.ahead w n) blk off (ss.mergeSort λx y=>decide (x<=y)).toArray) os)
 {σ:List b9}{k:Nat}{ss:List U}(ay:ss≠[])(ak:ss.length <4611686018427387904)(hk:σ[k]?=some (.vec 1 (ss.map λs=>[sv s]))):b8 C f [.vec k 0 ss.length] σ λr τ=>r= .ret (.tup [])/\τ=σ.set k (.vec 1 ((a0B ss).map λs=>[sv s])):=λM w vs hr hn hx=>by
 have hl:0<ss.length:=a81.2 ay;have h0:=hx 0 _ J;have hs:vs.size=1:=hn;obtain⟨v,rfl⟩:∃v,vs= #[v]:=⟨vs[0]'X,Array.ext (by simp[hs]) λi h1 h2=>by
  have:i=0:=by omega
  subst this;simp⟩
 have h0:RV M w (.vec k 0 ss.length) v:=h0;cases h0 with
 |vec hp g1 g2 g3=>
  rename_i p a;obtain⟨⟨e0,e1,e2,e3,e4,arr,ty,e5,e6,e7⟩,hf,bO⟩:=hr.obj k p _ hp hk;rw[L7]at e1;rw[e0,b2k]at e6;have ha:=g3 X;rw[b5I]at ha;subst ha;have hb:p.block <w.heap.size:=(a1Z.1 e5).1;have aq:∀j (hj:j<ss.length),arr.getD j undef=encStr ss[j]:=λj hj=>by
   have h1:(ss.map λs=>[sv s])[j]?=some [sv ss[j]]:=by rw[O5,a0H hj];rfl
   have:=r4 (e7 j 0 _ _ h1 J);rw[e0,b2k,a9r]at this;exact this
  have hH:Holds encStr w p.block 0 ss.toArray:=λj hj=>by
   have dq:j<ss.length:=I hj;have hja:j<arr.size:=by omega
   refine⟨?_,by simp[World.frozen?,e5]⟩;have:=aq j dq;rw[a0U,a1J hja]at this;simp only[a9B]at this;rw[K0,getElem!_pos _ _ (I dq)];simp[World.cell?,e5,hja,this]
  refine(aB p.block 0 (p.cap -0) ss w hH hb ak).mono λe w' ⟨he,n,os,hw⟩=>?_;subst he hw;obtain⟨bd,aG⟩:=a5Z hr n #[];have ew:grow (w.drewN n) #[]=Sort.ahead w n:=by simp[grow,World.drewN,Sort.ahead]
  rw[ew]at bd aG;have e5':(Sort.ahead w n).heap[p.block]?=some (.cells arr ty (0,0)):=e5;rw[d4j e5'];have eM:(a0B ss).length=ss.length:=b4j _;have hd:((a0B ss).toArray).size=ss.length:=by simp[eM]
  have dN:(putCells encStr 0 (a0B ss).toArray arr).size=arr.size:=by simp[putCells]
  have aM:=Ext.putObj (w:=Sort.ahead w n) (.cells (putCells encStr 0 (a0B ss).toArray arr) ty (0,0)) (aG.nk k p _ hp hk J) hf bO;have aX:=aG.putObj (ob:=.vec 1 ((a0B ss).map λs=>[sv s])) hp hk J hf bO (.cells (putCells encStr 0 (a0B ss).toArray arr) ty (0,0)) ⟨e0,by rw[L7,eM];exact e1,e2,λr hr=>by
   obtain⟨s,_,rfl⟩:=D5.1 hr;rw[e0];rfl,λr hr c hc=>by
   obtain⟨s,_,rfl⟩:=D5.1 hr;simp at hc;subst hc;rfl,_,ty,World.putObj_same _ _ (by exact hb),by rw[dN,e0,b2k];exact e6,λi j r c hi hj=>by
   rw[O5,P2]at hi;obtain⟨s,aU,rfl⟩:=hi
   rcases j with _|j
   .injection hj with hj
    subst hj;have bm:=(n_3.1 aU).1;rw[e0,b2k,a9r,d5F (I bm) X];have:(a0B ss)[i]=s:=(n_3.1 aU).2;simp only[List.getElem_toArray,this];exact .val _
   .cases hj⟩
  obtain⟨fP,eZ⟩:=a5Z aX 0 os;have ew2:∀u:World,u.drewN 0=u:=λu=>J;rw[ew2]at fP eZ;exact⟨_,_,_,(bd.trans aM).trans fP,eZ,.tup J (λi c h=>by simp at h),J,J⟩
end Go.Cl
namespace Go.Cl
variable{C:Ctx}{σ:List b9}
section
variable{E:Env}{o:Oper}
def c3l(C:Ctx)(c:CV)(ax:List CV)(σ:List b9)(r:CV):Prop:=
 (∃f,c= .val (.func (.func f) #[] #[])/\(∀args w,(callFunc f args).run C.P w= .ok (.enter f args) w)/\b8 C f ax σ λr' aa=>r'= .ret r/\aa=σ) \/
 ∃f aD,c= .clo f aD/\(∀args w,(callFunc f args).run C.P w= .ok (.enter f args) w)/\b8 C f (ax++aD) σ λr' aa=>r'= .ret r/\aa=σ
theorem c53{cx:Operand}{xs:Array Operand}{ts:Array TypeId}{ax:List CV}{c r:CV}(ho:o.op = .call {callee:=.value cx,args:=xs,argTypes:=ts})(hc:E.valid cx)(ec:E.val C cx=c)(hv:E.valids xs.toList)(h:c3l C c ax σ r)(ea:E.vals C xs.toList=ax):m0 C σ E o r:=by
 rcases h with⟨f,h1,h2,h3⟩|⟨f,aD,h1,h2,h3⟩
 .exact c3v ho hc (ec.trans h1) h2 (Env.valids_mem hv) (Env.vals_map _) (ea▸h3)
 .exact b4N ho hc (ec.trans h1) h2 hv h3 ea
end
theorem b7D{f:FuncId}{args:List CV}{K K':V7->List b9->Prop}(h:b8 C f args σ K)(hk:∀r τ,K r τ->K' r τ\/∃k ob o n,τ[k]?=some ob/\r= .ret (.vec k o n)/\K' (.ret (.vec τ.length o n)) (τ.set k .dead++[ob]))(hp:∀c τ,K (.pan c) τ->K' (.pan c) τ):b8 C f args σ K':=by
 intro M w vs hr hs ha;refine(h M w vs hr hs ha).mono λr w' hh=>?_;cases r with
 |returned v=>
  obtain⟨c,aa,M',h1,h2,h3,h4⟩:=hh
  rcases hk _ _ h4 with h5|⟨k,ob,o,n,e1,e2,h5⟩
  .exact ⟨c,aa,M',h1,h2,h3,h5⟩
  .injection e2 with e2
   subst e2;cases h3 with
   |vec g1 g2 g3 g4=>
    obtain⟨h6,h7⟩:=h2.shift e1 g1;exact⟨_,_,_,h1.trans h7,h6,.vec (by rw[<- h2.len];simp) g2 g3 g4,h5⟩
 |panicked ch=>
  obtain⟨c,u,aa,M',h0,h1,h2,h3,h4⟩:=hh;exact⟨c,u,aa,M',h0,h1,h2,h3,hp _ _ h4⟩
 |outgrown=>exact hh
theorem Rel.toTip{M:B2}{w:World}{k s:Nat}{Y:List (List CV)}{p:Pl}{v:Value}(hr:Rel C M σ w)(hp:M.pl[k]?=some p)(hk:σ[k]?=some (.vec s Y))(h0:Y≠[])(hv:RV M w (.vec k 0 Y.length) v):
 Ext M w (M.settleCells p.block (Y.length*p.size)) w/\Rel C (M.settleCells p.block (Y.length*p.size)) (σ.set k (.tip Y.length)) w/\RV (M.settleCells p.block (Y.length*p.size)) w (.list Y true (some k)) v:=by
 obtain⟨⟨q1,q2,q3,q4,q5,arr,ty,q6,q7,q8⟩,f1,f2⟩:=hr.obj k p _ hp hk;have ab:k<σ.length:=(n_3.1 hk).1;have key:∀(i:Nat) (x:b9),(σ.set k (.tip Y.length))[i]?=some x->(i=k/\x= .tip Y.length)\/(i≠k/\σ[i]?=some x):=λi x h=>by
  rw[a9z]at h;split at h
  .rename_i e;subst e;injection h with h
   exact .inl ⟨J,h.symm⟩
  .rename_i e;exact .inr ⟨λe'=>e e'.symm,h⟩
 have aG:Rel C M (σ.set k (.tip Y.length)) w:=by
  have old:∀(i:Nat) (x:b9),(σ.set k (.tip Y.length))[i]?=some x->x.live=true->∃y,σ[i]?=some y/\y.live=true:=λi x h hl=>by
   rcases key i x h with⟨rfl,_⟩|⟨_,h'⟩
   .exact ⟨_,hk,J⟩
   .exact ⟨_,h',hl⟩
  refine⟨by simp[hr.len],hr.blk,λi q x hq hx=>?_,λi i' q q' x x' hq eH hx aC hl bg hb=>?_,hr.glob,hr.kep,λi q x hq hx hl=>?_⟩
  .rcases key i x hx with⟨rfl,rfl⟩|⟨_,h'⟩
   .rw [hp]at hq;injection hq with hq;subst hq
    exact⟨⟨q2,q3,⟨λo ho=>absurd ho (f2 o),λh=>by cases h⟩,arr,ty,q6,q7⟩,f1⟩
   .exact hr.obj i q x hq h'
  .obtain ⟨y,g1,g2⟩:=old i x hx hl;obtain⟨y',gu,gJ⟩:=old i' x' aC bg;exact hr.inj i i' q q' y y' hq eH g1 gu g2 gJ hb
  .obtain ⟨y,g1,g2⟩:=old i x hx hl;exact hr.nk i q y hq g1 g2
 obtain⟨hx,aX⟩:=aG.settleCells hp (n:=Y.length) (t0:=none) (by rw[b0L ab]);refine⟨hx,aX,?_⟩;cases hv with
 |vec g1 g2 g3 g4=>
  rw[hp]at g1;injection g1 with g1;subst g1
  have hn:0<Y.length:=a81.2 h0;have ha:=g4 X;rw[b5I]at ha;have aN:∀(i j:Nat) (r:List CV) (c:CV),Y[i]?=some r->r[j]?=some c->i*p.size+j<Y.length*p.size:=λi j r c hi hj=>by
   have bm:=(n_3.1 hi).1;have cc:j<p.size:=by have:=(n_3.1 hj).1;rwa[q4 r (n_2 hi)]at this
   have:(i+1)*p.size<=Y.length*p.size:=R9 _ bm;rw[R4]at this;omega
  have aO:Y.length*p.size<=p.cap*p.size:=R9 _ q2;rw[Nat.sub_zero,ha];exact .list (b:=p.block) (off:=0) (s:=p.size) (λi j=>arr.getD (i*p.size+j) undef) q2 q3 J (λh=>by cases h) a0b q4 q5 (λi j r c hi hj=>⟨.inr (.inr ⟨J,by rw[K0];exact aN i j r c hi hj⟩),by
   have h1:=aN i j r c hi hj;have h2:i*p.size+j<arr.size:=by omega
   rw[K0];simp[World.cell?,q6,h2]⟩) (λi j r c hi hj=>(q8 i j r c hi hj).mono hx) (λj hj=>by
   injection hj with hj;subst hj
   exact⟨_,hp,J,J,λ_=>J⟩)
theorem c2p{f:FuncId}{args:List CV}{K K':V7->List b9->Prop}(h:b8 C f args σ K)(hk:∀r τ,K r τ->K' r τ\/∃k s Y,Y≠[]/\τ[k]?=some (.vec s Y)/\r= .ret (.vec k 0 Y.length)/\K' (.ret (.list Y true (some k))) (τ.set k (.tip Y.length)))(hp:∀c τ,K (.pan c) τ->K' (.pan c) τ):b8 C f args σ K':=by
 intro M w vs hr hs ha;refine(h M w vs hr hs ha).mono λr w' hh=>?_;cases r with
 |returned v=>
  obtain⟨c,aa,M',h1,h2,h3,h4⟩:=hh
  rcases hk _ _ h4 with h5|⟨k,s,Y,e0,e1,e2,h5⟩
  .exact ⟨c,aa,M',h1,h2,h3,h5⟩
  .injection e2 with e2
   subst e2;obtain⟨p,aI⟩:∃p,M'.pl[k]?=some p:=⟨M'.pl[k]'(by rw[h2.len];exact(n_3.1 e1).1),H⟩;obtain⟨h6,h7,h8⟩:=h2.toTip aI e1 e0 h3;exact⟨_,_,_,h1.trans h6,h7,h8,h5⟩
 |panicked ch=>
  obtain⟨c,u,aa,M',h0,h1,h2,h3,h4⟩:=hh;exact⟨c,u,aa,M',h0,h1,h2,h3,hp _ _ h4⟩
 |outgrown=>exact hh
end Go.Cl
namespace Go.Cl
open Go.Sort Go.Proofs
variable{α:Type}{w Ji:World}{C:Ctx}{enc:α->List Value}{s b:Nat}
theorem c0F [Inhabited α]{enc:α->Value}{arr:Array Value}{ty:TypeId}{fr:Nat×Nat}{d:Array α}(h:w.heap[b]?=some (.cells arr ty fr)):putRow enc w b 0 d=World.putObj w b (.cells (putCells enc 0 d arr) ty fr):=by
 have hb:b<w.heap.size:=(a1Z.1 h).1;have hg:w.heap[b]= .cells arr ty fr:=(a1Z.1 h).2;unfold putRow mapBlock World.putObj
 congr 1
 apply b6q;intro i;rw[b7U,c8l];by_cases hi:b=i
 .subst hi;simp[hb,hg,onCells]
 .simp [hi]
theorem c18{Jh:Array Value}{arr:Array Value}{i:Nat}(hi:i<Jh.size)(ha:i<arr.size):(putCells id 0 Jh arr).getD i undef=Jh[i]!:=by
 unfold putCells;rw[a0U,Array.getElem?_mapIdx,a1J ha];simp[hi]
theorem c0q{W':World}{M':B2}(h:Ext (whole Ji) Ji M' W'):∃q os',W'=grow (Ji.drewN q) os':=by
 refine⟨W'.drawn -Ji.drawn,W'.heap.extract Ji.heap.size W'.heap.size,?_⟩;have hd:Ji.drawn+(W'.drawn -Ji.drawn)=W'.drawn:=by have:=h.drew;omega
 have hh:W'.heap=Ji.heap++W'.heap.extract Ji.heap.size W'.heap.size:=by
  apply b6q;intro i;rw[b4t]
  split
  .rename_i hi;exact h.same i hi
  .rename_i hi;rw[Array.getElem?_extract];have hs:=h.size
   split
   .congr 1;omega
   .rename_i h2;rw[b0X];omega
 have h1:=h.os;have h2:=h.tape;have h3:=h.output;show W'=⟨_,_,_,_,_⟩;cases W';simp only at hd hh h1 h2 h3⊢;subst h1 h2 h3;simp only[World.drewN,World.mk.injEq,true_and,and_true];exact⟨hh,hd.symm⟩
theorem c1D{f:FuncId}{gR:List CV}{args:Array Value}{u:Value}
 (hg:∀g cells,C.glob g=some cells->GV (whole Ji) Ji cells g)
 (hn:args.size=gR.length)(ha:∀(i:Nat) (c:CV),gR[i]?=some c->RV (whole Ji) Ji c (args.getD i undef))
 (h:b8 C f gR [] λr aa=>r= .ret (.val u)/\aa=[]):Calls C.P f args Ji λe W'=>e= .returned u/\∃q os',W'=grow (Ji.drewN q) os':=by
 refine(h (whole Ji) Ji args (b5c hg) hn ha).mono λe W' he=>?_;cases e with
 |returned v=>
  obtain⟨c,aa,M',h1,h2,h3,h4,h5⟩:=he;cases h4;cases h3;exact⟨J,c0q h1⟩
 |panicked ch=>
  obtain⟨c,v,aa,M',-,-,-,-,h4,-⟩:=he;cases h4
 |outgrown=>exact he.elim
theorem c7f{M:B2}{σ:List b9}(hv:∀g cells,C.glob g=some cells->∀c∈cells,∃v,c=CV.val v)(hr:Rel C M σ w)(hb:¬M.full b)(hs:w.heap.size<=Ji.heap.size)
 (hh:∀x,x<w.heap.size->x≠b->Ji.heap[x]?=w.heap[x]?)(g:Nat)(cells:List CV)(hg:C.glob g=some cells):GV (whole Ji) Ji cells g:=by
 obtain⟨rv,full,sz⟩:=hr.glob g cells hg;have ab:g<w.heap.size:=hr.blk g 0 (.inl full);have ay:g≠b:=λe=>hb (e▸full);have bz:=hh g ab ay;cases rv with
 |cptr vals a1 a2 a3=>
  refine⟨.cptr vals a1 (λj c hj=>⟨.inl (a9p ab hs),?_⟩) (λj c hj=>?_),a9p ab hs,?_⟩
  .rw [O2 bz];exact(a2 j c hj).2
  .obtain ⟨v,rfl⟩:=hv g cells hg c (n_2 hj);have:=a3 j _ hj;cases this;exact .val _
  .rw [bz];exact sz
theorem b5g [Inhabited α]{m:Nat}{dk:Array α}{os:Array Obj}:w.heap.size<=(sortWorldK enc s w b 0 m dk os).heap.size/\∀x,x<w.heap.size->x≠b->(sortWorldK enc s w b 0 m dk os).heap[x]?=w.heap[x]?:=by
 refine⟨by unfold sortWorldK;rw[size_grow,size_putRowK];exact Nat.le_add_right _ _,λx hx ay=>?_⟩;unfold sortWorldK grow putRowK putRow mapBlock;show(Array.modify w.heap b _++os)[x]?=_;rw[b5D (I hx),b7U,D (λe=>ay e.symm)]
theorem c5V{M:B2}{l:List Value}(h1:∀v∈l,v.oneCell'=true):RV M w (.agg (l.map .val)) (.agg l.toArray):=by
 refine .agg H (λc hc=>?_) (λi c hi=>?_)
 .obtain ⟨v,hv,rfl⟩:=D5.1 hc;exact h1 v hv
 .rw [O5,P2]at hi;obtain⟨v,hv,rfl⟩:=hi;have:l.toArray.getD i undef=v:=by rw[a0U,List.getElem?_toArray,hv];rfl
  rw[this];exact .val _
theorem c8Q{g:FuncId} [Inhabited α]{cf:α->α->Int}(h1:∀x,∀v∈enc x,v.oneCell'=true)(hcmp:∀x y:α,b8 C g [.agg ((enc x).map .val),.agg ((enc y).map .val)] [] λr τ=>r= .ret (.val (.int .i64 (cf x y)))/\τ=[])
 (hv:∀g cells,C.glob g=some cells->∀c∈cells,∃v,c=CV.val v){M:B2}{σ:List b9}{w:World}{b size:Nat}(hr:Rel C M σ w)(hb:¬M.full b):CmpLays C.P g #[] enc s cf b 0 size w:=λm os dk hs x y=>by
 refine c1D (c7f hv hr hb b5g.1 b5g.2) J (λi c hi=>?_) (hcmp x y)
 rcases i with _|_|i
 .injection hi with hi;subst hi;exact c5V (h1 x)
 .injection hi with hi;subst hi;exact c5V (h1 y)
 .cases hi
theorem b4b [Inhabited α]{l:List α}{i j:Nat}{x:α}(hx:l[i]?=some x)(hj:j<s)(hk:(enc x).length=s):(flatK enc s l.toArray)[i*s+j]! =(enc x)[j]!/\i*s+j<l.length*s:=by
 have hi:=(n_3.1 hx).1;have lt:i*s+j<l.length*s:=by
  have:=R9 s (show i+1<=l.length from hi);rw[R4,Nat.one_mul]at this;omega
 have e1:(i*s+j) / s=i:=(blk_iff s i _ X).1 ⟨X,X⟩;have e2:(i*s+j)%s=j:=by rw[Nat.mod_eq_sub_div_mul,e1];omega
 refine⟨?_,lt⟩;rw[get_flatK _ _ _ _ (I lt),e1,e2];have:l.toArray[i]! =x:=by simp[hi,(n_3.1 hx).2]
 rw[this]
def b2i{α:Type}(cf:α->α->Int)(l:List α):List α:=l.mergeSort λx y=>!(ltOf cf) y x
theorem c52{f g:FuncId} [Inhabited α]{cf:α->α->Int}(eV:0<s)(hk0:∀x,(enc x).length=s)(h1:∀x,∀v∈enc x,v.oneCell'=true)
 (aB:∀(blk off cap:Nat) (d:Array α) (w:World),CmpLays C.P g #[] enc s cf blk off d.size w->HoldsK enc s w blk off d->blk<w.heap.size->d.size <4611686018427387904 ->
  Calls C.P f #[.slice (some ⟨blk,off,none⟩) d.size cap,.func (.func g) #[] #[]] w λe w'=>e= .returned (.tuple #[])/\∃n os,w'=sortWorldK enc s w blk off n (d.toList.mergeSort λx y=>!(ltOf cf) y x).toArray os)
 (hcmp:∀x y:α,b8 C g [.agg ((enc x).map .val),.agg ((enc y).map .val)] [] λr τ=>r= .ret (.val (.int .i64 (cf x y)))/\τ=[])
 (hv:∀g cells,C.glob g=some cells->∀c∈cells,∃v,c=CV.val v)
 {σ:List b9}{k:Nat}{l:List α}(ay:l≠[])(ak:l.length <4611686018427387904)(hk:σ[k]?=some (.vec s (l.map λx=>(enc x).map .val))):
 b8 C f [.vec k 0 l.length,.val (.func (.func g) #[] #[])] σ λr τ=>r= .ret (.tup [])/\τ=σ.set k (.vec s ((b2i cf l).map λx=>(enc x).map .val)):=λM w vs hr hn hx=>by
 have hl:0<l.length:=a81.2 ay;have hs:vs.size=2:=hn;obtain⟨v,v2,rfl⟩:∃v v2,vs= #[v,v2]:=⟨vs[0]'X,vs[1]'X,Array.ext (by simp[hs]) λi h1 h2=>by
  have:i=0\/i=1:=by omega
  rcases this with rfl|rfl<;>simp⟩
 have h0:RV M w (.vec k 0 l.length) v:=hx 0 _ J;have h2:RV M w (.val (.func (.func g) #[] #[])) v2:=hx 1 _ J;cases h2;cases h0 with
 |vec hp g1 g2 g3=>
  rename_i p a;obtain⟨⟨e0,e1,e2,e3,e4,arr,ty,e5,e6,e7⟩,hf,bO⟩:=hr.obj k p _ hp hk;rw[L7]at e1;rw[e0]at e6;have ha:=g3 X;rw[b5I]at ha;subst ha;have hb:p.block <w.heap.size:=(a1Z.1 e5).1;have hcs:l.length*s<=arr.size:=by rw[e6];exact R9 s e1
  have aq:∀t,t<l.length*s->arr.getD t undef=(flatK enc s l.toArray)[t]!:=λt ht=>by
   have hd:t / s<l.length:=(Nat.div_lt_iff_lt_mul eV).2 ht;have hm:t%s<s:=a4l _ eV;have fq:t / s*s+t%s=t:=by rw[b4V];exact Nat.div_add_mod t s
   have hx:l[t / s]?=some l[t / s]:=a0H hd;have gH:=hk0 l[t / s];have h3:=(b4b (enc:=enc) hx hm gH).1;rw[fq]at h3;rw[h3];have h4:(l.map λx=>(enc x).map CV.val)[t / s]?=some ((enc l[t / s]).map .val):=by rw[O5,hx];rfl
   have h5:((enc l[t / s]).map CV.val)[t%s]?=some (.val (enc l[t / s])[t%s]!):=by
    rw[O5,a0H X];simp[gH,hm]
   have:=r4 (e7 _ _ _ _ h4 h5);rw[e0,fq]at this;exact this
  have hH:HoldsK enc s w p.block 0 l.toArray:=λj hj=>by
   have dq:j<l.length*s:=I hj;have hja:j<arr.size:=by omega
   refine⟨?_,by simp[World.frozen?,e5]⟩;have:=aq j dq;rw[a0U,a1J hja]at this;simp only[a9B]at this;rw[K0];simp[World.cell?,e5,hja,this]
  have hC:=c8Q (s:=s) (size:=l.toArray.size) h1 hcmp hv hr hf;have hcc:=aB p.block 0 (p.cap -0) l.toArray w hC hH hb (I ak);rw[show l.toArray.size=l.length by simp,show l.toArray.toList=l by simp]at hcc;refine hcc.mono λe w' ⟨he,n,os,hw⟩=>?_;subst he hw;obtain⟨bd,aG⟩:=a5Z hr n #[];have ew:grow (w.drewN n) #[]=Sort.ahead w n:=by simp[grow,World.drewN,Sort.ahead]
  rw[ew]at bd aG;have e5':(Sort.ahead w n).heap[p.block]?=some (.cells arr ty (0,0)):=e5;unfold sortWorldK putRowK;rw[c0F e5'];have eM:(b2i cf l).length=l.length:=b4j _;change a3O C M w _ _ (grow (World.putObj (Sort.ahead w n) p.block (.cells (putCells id 0 (flatK enc s (b2i cf l).toArray) arr) ty (0,0))) os);generalize hF:flatK enc s (b2i cf l).toArray=Jh;have hFs:Jh.size=l.length*s:=by rw[<- hF,size_flatK];simp[eM]
  have dN:(putCells id 0 Jh arr).size=arr.size:=by simp[putCells]
  have aM:=Ext.putObj (w:=Sort.ahead w n) (.cells (putCells id 0 Jh arr) ty (0,0)) (aG.nk k p _ hp hk J) hf bO;have aX:=aG.putObj (ob:=.vec s ((b2i cf l).map λx=>(enc x).map .val)) hp hk J hf bO (.cells (putCells id 0 Jh arr) ty (0,0)) ⟨e0,by rw[L7,eM];exact e1,e2,λr hr=>by
   obtain⟨x,_,rfl⟩:=D5.1 hr;rw[e0,L7];exact hk0 x,λr hr c hc=>by
   obtain⟨x,_,rfl⟩:=D5.1 hr;obtain⟨v,hv,rfl⟩:=D5.1 hc;exact h1 x v hv,_,ty,World.putObj_same _ _ (by exact hb),by rw[dN,e0];exact e6,λi j r c hi hj=>by
   rw[O5,P2]at hi;obtain⟨x,aU,rfl⟩:=hi;rw[O5,P2]at hj;obtain⟨v,dq,rfl⟩:=hj;have hjs:j<s:=by have:=(n_3.1 dq).1;rw[hk0]at this;exact this
   obtain⟨h3,h4⟩:=b4b (enc:=enc) aU hjs (hk0 x);rw[hF]at h3;rw[eM]at h4;rw[e0,c18 X X,h3,List.getElem!_eq_getElem?_getD,dq];exact .val _⟩
  obtain⟨fP,eZ⟩:=a5Z aX 0 os;have ew2:∀u:World,u.drewN 0=u:=λu=>J;rw[ew2]at fP eZ;exact⟨_,_,_,(bd.trans aM).trans fP,eZ,.tup J (λi c h=>by simp at h),J,J⟩
end Go.Cl
namespace Go.Cl
variable{o:Oper}{l:List Oper}{c:CV}{f:FuncId}{xs:Array Operand}{ts:Array TypeId}{ax:List CV}
section
variable{C:Ctx}{n:Nat}{ae:Array Oper}{Jk:D3->Env->List b9->Prop}{E:Env}{σ:List b9}
theorem cY(hy:m0 C σ E o c)(h:K4 C n ae Jk l (E.put o.dst c True) σ)(hg:o.guard=none:=by rfl)(hd:(match o.dst with|some d=>Nat.blt d n|none=>true)=true:=by rfl):K4 C n ae Jk (o::l) E σ:=d5U hg hd hy h
theorem cD(h:H4 C σ E o λr aa=>match r with| .ret c=>K4 C n ae Jk l (E.put o.dst c True) aa| .pan c=>Jk (.pan c) E aa)(hg:o.guard=none:=by rfl)(hd:(match o.dst with|some d=>Nat.blt d n|none=>true)=true:=by rfl):K4 C n ae Jk (o::l) E σ:=a3i hg hd h
theorem cG{j t:Nat}{au b:Bool}(hy:b=au->m0 C σ E o c)(h:K4 C n ae Jk l (E.put o.dst c (b=au)) σ)(hg:o.guard=some (j,au):=by rfl)(ht:(ae[j]?).bind (·.dst)=some t:=by rfl)(hv:E.ok t:=by exact O)(hb:E.f t= .val (.bool b):=by rfl)
 (hd:(match o.dst with|some d=>Nat.blt d n|none=>true)=true:=by rfl):K4 C n ae Jk (o::l) E σ:=e1e hg ht hv hb hd hy h
theorem cC{c:Operand}{x y:Code}{b:Bool}(ht:b=true->CWp C n x Jk E σ)(hf':b=false->CWp C n y Jk E σ)(hv:E.valid c:=by first|exact O|exact J)(hc:E.val C c= .val (.bool b):=by exact J):CWp C n (.cond c x y) Jk E σ:=c5g hv hc ht hf'
theorem hY{K:Env->Prop}(k:m0 C σ E o c)(h:a2S C σ ae K l (E.put o.dst c True))(hg:o.guard=none:=by rfl):a2S C σ ae K (o::l) E:=e3g hg k h
theorem yc(ho:o.op = .call {callee:=.value (.func f),args:=xs,argTypes:=ts})(aB:∀args w,(callFunc f args).run C.P w= .ok (.enter f args) w)
 (hv:E.valids xs.toList)(h:b8 C f ax σ λr aa=>r= .ret c/\aa=σ)(k:K4 C n ae Jk l (E.put o.dst c True) σ)(ea:(E.vals C xs.toList).map CV.fgt=ax:=by exact J)(hg:o.guard=none:=by rfl)(hd:(match o.dst with|some d=>Nat.blt d n|none=>true)=true:=by rfl):K4 C n ae Jk (o::l) E σ:=d5U hg hd (c4 ho aB hv h ea) k
theorem dc{α:Type}{c:α->CV}{S:α->List b9}{P:α->Prop}(ho:o.op = .call {callee:=.value (.func f),args:=xs,argTypes:=ts})(aB:∀args w,(callFunc f args).run C.P w= .ok (.enter f args) w)
 (hv:E.valids xs.toList)(h:b8 C f ax σ λr aa=>∃a,r= .ret (c a)/\aa=S a/\P a)(hk:∀a,P a->K4 C n ae Jk l (E.put o.dst (c a) True) (S a))(ea:(E.vals C xs.toList).map CV.fgt=ax:=by exact J)(hg:o.guard=none:=by rfl)(hd:(match o.dst with|some d=>Nat.blt d n|none=>true)=true:=by rfl):K4 C n ae Jk (o::l) E σ:=a3i hg hd (c5 ho aB hv h ea hk)
theorem ye(ho:o.op = .call {callee:=.value (.func f),args:=xs,argTypes:=ts})(aB:∀args w,(callFunc f args).run C.P w= .ok (.enter f args) w)
 (hv:E.valids xs.toList)(h:b8 C f ax σ λr aa=>r= .ret c/\aa=σ)(ea:(E.vals C xs.toList).map CV.fgt=ax)(k:K4 C n ae Jk l (E.put o.dst c True) σ)(hg:o.guard=none:=by rfl)(hd:(match o.dst with|some d=>Nat.blt d n|none=>true)=true:=by rfl):K4 C n ae Jk (o::l) E σ:=yc ho aB hv h k ea hg hd
theorem de{α:Type}{c:α->CV}{S:α->List b9}{P:α->Prop}(ho:o.op = .call {callee:=.value (.func f),args:=xs,argTypes:=ts})(aB:∀args w,(callFunc f args).run C.P w= .ok (.enter f args) w)
 (hv:E.valids xs.toList)(h:b8 C f ax σ λr aa=>∃a,r= .ret (c a)/\aa=S a/\P a)(ea:(E.vals C xs.toList).map CV.fgt=ax)(hk:∀a,P a->K4 C n ae Jk l (E.put o.dst (c a) True) (S a))(hg:o.guard=none:=by rfl)(hd:(match o.dst with|some d=>Nat.blt d n|none=>true)=true:=by rfl):K4 C n ae Jk (o::l) E σ:=dc ho aB hv h hk ea hg hd
def d5b(ae:Array Oper):List Nat:=ae.toList.foldl (λms o=>ms++[o.after.toList.foldl (λm e=>if b7d e then(m |||(1 <<< e.on)) |||ms.getD e.on 0 else m) 0]) []
theorem cW{id:Nat}(nh:Nat)(h:a2S C σ ae (λE'=>K4 C n ae Jk (ae.toList.drop nh) E' σ) (ae.toList.take nh) E)(hm:C.P.follows .mixedOrders=true:=by kernel_rfl)(hB:c3W ae nh (d5b ae)=true:=by kernel_rfl)
 (hd:(ae.toList.all λo=>match o.dst with|some d=>Nat.blt d n|none=>true)=true:=by rfl):CWp C n (.region id ae true) Jk E σ:=d5r nh (d5b ae) hm hB hd h
theorem rE1{fn:Func}{t:Nat}(hr:fn.results = #[.tmp t]:=by exact J)(hv:E.ok t:=by exact O)(ec:E.f t=c:=by conv=>lhs;whnf):a0N C E σ fn c:=a1V hr hv ec
theorem rE0{fn:Func}(hr:fn.results = #[]:=by exact J):a0N C E σ fn (.tup []):=r3 (rs:=[]) (cs:=[]) hr trivial (n_5 J)
theorem cF{id:Nat}(qs hd:List Nat){tl:List (Nat×List Nat)}(h:a3k C σ ae (λE' S=>X9 C ae qs Jk S tl E' σ) hd E [])(hm:C.P.follows .mixedOrders=true:=by kernel_rfl)(hB:b6A ae qs (d5b ae) hd tl=true:=by kernel_rfl)
 (bV:(ae.toList.all λo=>match o.dst with|some d=>Nat.blt d n|none=>true)=true:=by rfl):CWp C n (.region id ae true) Jk E σ:=c9R qs (d5b ae) hd hm hB bV h
theorem cO{fn:Func}{c:Code}{args:List CV}{K:V7->List b9->Prop}(hf:C.P.funcs[f]?=some fn)(h:CWp C fn.ntmps c (Fin C fn K) (Env.args args) σ)(hb:fn.body=some c:=by rfl)(hn:Nat.ble args.length fn.ntmps=true:=by rfl):b8 C f args σ K:=a9j hf hb hn h
end
end Go.Cl
namespace Go.Proofs.YtlppbmfecjabeaaGreatDoor
open Go Go.Cl
variable{s:U}{ks:List Int}{m:List (Int×Int)}{i a:Nat}{b:UInt8}{x y z:Bool}{d:List U}
abbrev iv(x:Int):CV:=.val (.int .i64 x)
def c1r:List CV:=[1,10,100,1000,10000,100000,1000000,10000000,100000000,1000000000,10000000000,100000000000,1000000000000,10000000000000,100000000000000,1000000000000000,10000000000000000,100000000000000000,1000000000000000000,10000000000000000000].map λz:Int=>.val (.int .u64 z)
def tyT:List (Nat×TyE):=[(9,⟨false,1,[]⟩),(3,⟨false,1,[]⟩),(39,⟨true,3,[0,1,2]⟩),(32,⟨true,1,[0]⟩),(212,⟨true,5,[0,1,2,3,4]⟩),(119,⟨true,4,[0,1,2,3]⟩),(67,⟨true,3,[0,1,2]⟩),(59,⟨true,6,[0,1,2,3,4,5]⟩),(54,⟨true,2,[0,1]⟩),(231,⟨true,4,[0,1,2,3]⟩),(25,⟨true,1,[0]⟩),(26,⟨false,1,[]⟩),(228,⟨true,7,[0,1,2,3,4,5,6]⟩),(30,⟨false,1,[]⟩),(22,⟨false,1,[]⟩),(105,⟨true,2,[0,1]⟩),(199,⟨true,4,[0,1,2,3]⟩),(117,⟨false,1,[]⟩),(40,⟨false,1,[]⟩),(65,⟨false,1,[]⟩),(129,⟨true,2,[0,1]⟩),(112,⟨true,5,[0,1,2,3,4]⟩),(183,⟨true,8,[0,1,2,3,4,5,6,7]⟩),(309,⟨true,5,[0,2,3,4]⟩),(36,⟨false,1,[]⟩),(95,⟨true,6,[0,3,4,5]⟩),(27,⟨false,1,[]⟩),(244,⟨true,2,[0,1]⟩),(23,⟨false,1,[]⟩),(210,⟨true,8,[0,3,7]⟩),(149,⟨false,1,[]⟩),(4,⟨false,1,[]⟩),(5,⟨false,1,[]⟩),(91,⟨true,2,[0,1]⟩),(29,⟨true,2,[0,1]⟩),(103,⟨false,1,[]⟩),(109,⟨false,1,[]⟩),(292,⟨false,1,[]⟩),(107,⟨false,1,[]⟩),(305,⟨true,2,[]⟩),(110,⟨false,1,[]⟩),(175,⟨true,3,[0,1,2]⟩),(93,⟨true,3,[]⟩),(335,⟨true,2,[0,1]⟩),(178,⟨false,1,[]⟩),(86,⟨false,1,[]⟩),(195,⟨true,2,[0,1]⟩),(191,⟨false,1,[]⟩),(242,⟨false,1,[]⟩),(181,⟨false,1,[]⟩),(221,⟨true,1,[0]⟩)]
theorem e0I:tyT.all (tyB Tryz.prog)=true:=by kernel_rfl
noncomputable def CC:Ctx:={P:=Tryz.prog,glob:=λg=>match g with|1=>some c1r|_=>none,tab:=tyT,right:=e0J e0I}
theorem hCC:CC.plain:=λg cells h=>by
 have:cells=c1r:=by
  simp only[CC]at h;split at h
  .exact (Option.some.inj h).symm
  .cases h
 subst this;intro c hc;obtain⟨z,_,rfl⟩:=D5.1 hc;exact .val _
theorem an_{f:FuncId}{fn:Func}{c:Code}{args:List CV}{res:CV}{σ:List b9}(hf:CC.P.funcs[f]?=some fn)(h:CWp CC fn.ntmps c (Fin CC fn λr τ=>∃az c,τ=[]++az/\r= .ret c/\Cls ([]:List b9).length τ c res) (Env.args args) [])(hb:fn.body=some c:=by rfl)(hn:Nat.ble args.length fn.ntmps=true:=by rfl)(p1:O0 args:=by exact pu_)(p2:r5 res:=by exact pu_):b8 CC f args σ λr τ=>r= .ret res/\τ=σ:=b8.anyw hCC p1 p2 (c7 (a9j hf hb hn h)) σ
def icv(x:Int):List CV:=[iv x]
def scv(x:U):List CV:=[sv x]
theorem P5(l:List Int)(nn:Bool):r5 (.list (l.map icv) nn none):=P7 (f:=icv) (λ_=>⟨.val _,O⟩) l nn
theorem F3(l:List U)(nn:Bool):r5 (.list (l.map scv) nn none):=P7 (f:=scv) (λ_=>⟨.val _,O⟩) l nn
theorem V0(n:Nat)(l:List Int)(nn:Bool):Old n (.list (l.map icv) nn none):=(P5 l nn).old
theorem A6(n:Nat)(l:List U)(nn:Bool):Old n (.list (l.map scv) nn none):=(F3 l nn).old
def d6n:U:=[97,98,99,100,101,102,103,104,105,106,107,108,109,110,111,112,113,114,115,116,117,118,119,120,121,122]
def e2V:U:=[48,49,50,51,52,53,54,55,56,57]
def a4U:U:=[59,44,40,41,43,45,42,47,37,60,61]
def M0:List (Int×U):=[(1,d6n),(2,e2V),(3,[95]),(4,[46]),(5,[9,10,13,32]),(6,[35]),(7,[34]),(8,a4U)]
def l9(c:Int):Int:=
 if 97<=c/\c<=122 then 1 else if 48<=c/\c<=57 then 2 else if c=95 then 3 else if c=46 then 4 else if c=9\/c=10\/c=13\/c=32 then 5 else if c=35 then 6 else if c=34 then 7
 else if c=59\/c=44\/c=40\/c=41\/c=43\/c=45\/c=42\/c=47\/c=37\/c=60\/c=61 then 8 else 0
abbrev kb(a:Int):CV:=.val (.int .u8 a)
abbrev kv(a:Int):CV:=iv a
theorem d5N:W4 (α:=Int) CC.P 5 kb (λa=>.int .u8 a):=c9V .u8 b3H
theorem a0X:W4 (α:=Int) CC.P 3 kv (λa=>.int .i64 a):=c9V .i64 d0x
theorem c0H:W4 (α:=U) CC.P 9 sv (λa=>.string (str a)):=e0A t_7
def KM(m:List (Int×Int)):Prop:=∀c,(glk m c).getD 0=l9 c
theorem Z5(n:Nat)(m:List (Int×Int)):I6 n (.map (gm kb kv m)):=λx hx=>by
 obtain⟨y,_,rfl⟩:=D5.1 hx;exact⟨.val _,.val _⟩
theorem d2k(n:Nat)(a b:List (Int×U)):I6 n (.iter (gm kv sv a) (gm kv sv b)):=⟨λx hx=>by
 obtain⟨y,_,rfl⟩:=D5.1 hx;exact⟨.val _,.val _⟩,λx hx=>by
 obtain⟨y,_,rfl⟩:=D5.1 hx;exact⟨.val _,.val _⟩⟩
theorem c9b(m:List (Int×Int)):a4m (.map (gm kb kv m)):=λx hx=>by
 obtain⟨y,_,rfl⟩:=D5.1 hx;exact⟨.val _,.val _⟩
def InB(s:U)(c:Int):Prop:=∃b∈s,(b.toNat:Int)=c
instance(s:U)(c:Int):Decidable (InB s c):=by unfold InB;exact inferInstance
def KL(m:List (Int×Int))(left:List (Int×U)):Prop:=left.Nodup/\(∀x∈left,x∈M0)/\∀c,(glk m c).getD 0=if ∃x∈left,InB x.2 c then 0 else l9 c
theorem d4q:∀x∈M0,∀b∈x.2,l9 (b.toNat:Int)=x.1:=by decide
theorem c99:∀x∈M0,∀y∈M0,x≠y->∀b∈x.2,b∉y.2:=by decide
theorem c8D:M0.Nodup:=by decide
theorem e0N:∀c:Fin 256,l9 (c.val:Int)≠0->∃x∈M0,∃b∈x.2,(b.toNat:Int)=(c.val:Int):=by decide
theorem d4k{c:Int}(h:l9 c≠0):∃x∈M0,∃b∈x.2,(b.toNat:Int)=c:=by
 have hr:0<=c/\c<256:=by
  unfold l9 at h;split at h;· omega
  split at h;· omega
  split at h;· omega
  split at h;· omega
  split at h;· omega
  split at h;· omega
  split at h;· omega
  split at h
  .omega
  .exact absurd J h
 obtain⟨n,rfl⟩:∃n:Nat,c=n:=⟨c.toNat,X⟩;exact e0N ⟨n,X⟩ h
theorem KL.start:KL [] M0:=by
 refine⟨c8D,λx h=>h,λc=>?_⟩
 split
 .rfl
 .rename_i eg;have:l9 c=0:=by
   rcases Int.decEq (l9 c) 0 with h|h
   .exact absurd (d4k h) eg
   .exact h
  rw[this];rfl
theorem KL.done(h:KL m []):KM m:=λc=>by
 rw[h.2.2 c,D H]
theorem KL.step{m':List (Int×Int)}{left:List (Int×U)}{x:Int×U}(h:KL m left)(hx:left[i]?=some x)(hm:∀c,(glk m' c).getD 0=if InB x.2 c then x.1 else(glk m c).getD 0):KL m' (left.eraseIdx i):=by
 obtain⟨h1,h2,h3⟩:=h;have hxm:=h2 x (n_2 hx);have fg:∀y,y∈left.eraseIdx i↔y∈left/\y≠x:=λy=>by
  have ab:=(n_3.1 hx).1;have hxe:=(n_3.1 hx).2;constructor
  .intro hy;obtain⟨j,hj,eI⟩:=c88.1 hy;refine⟨n_2 eI,λe=>?_⟩;subst e;exact hj ((List.getElem?_inj (n_3.1 eI).1 h1).1 (by rw[eI,hx]))
  .rintro ⟨hy,ay⟩;obtain⟨j,hj⟩:=N0.1 hy;refine c88.2 ⟨j,λe=>?_,hj⟩;subst e;rw[hx]at hj;exact ay (Option.some.inj hj).symm
 refine⟨h1.sublist (List.eraseIdx_sublist _ _),λy hy=>h2 y ((fg y).1 hy).1,λc=>?_⟩;rw[hm c,h3 c];by_cases hc:InB x.2 c
 .rw [F hc,D]
  .obtain ⟨b,hb,rfl⟩:=hc;exact(d4q x hxm b hb).symm
  .rintro ⟨y,hy,b',hb',he⟩;obtain⟨b,hb,hbc⟩:=hc;obtain⟨dY,ay⟩:=(fg y).1 hy;have:b'=b:=a95.1 X;subst this;exact c99 y (h2 y dY) x hxm ay b' hb' hb
 .rw [D hc];have iz:(∃y∈left,InB y.2 c)↔∃y∈left.eraseIdx i,InB y.2 c:=by
   constructor
   .rintro ⟨y,hy,hb⟩;exact⟨y,(fg y).2 ⟨hy,λe=>hc (e▸hb)⟩,hb⟩
   .rintro ⟨y,hy,hb⟩;exact⟨y,((fg y).1 hy).1,hb⟩
  by_cases hh:∃y∈left,InB y.2 c
  .rw [F hh,F (iz.1 hh)]
  .rw [D hh,D (λh=>hh (iz.2 h))]
theorem a8D{α β:Type}{kc:α->CV}{vc:β->CV}(l:List (α×β))(i:Nat):(gm kc vc l).eraseIdx i=gm kc vc (l.eraseIdx i):=by
 induction l generalizing i with
 |nil=>rfl
 |cons x l ih=>
  cases i with
  |zero=>rfl
  |succ i=>exact n_8 _ (ih i)
theorem b6f{α β:Type}{kc:α->CV}{vc:β->CV}{l:List (α×β)}{x:CV×CV}(h:(gm kc vc l)[i]?=some x):∃y,l[i]?=some y/\x=(kc y.1,vc y.2):=by
 unfold gm at h;rw[O5,P2]at h;obtain⟨y,h1,h2⟩:=h;exact⟨y,h1,h2.symm⟩
theorem a2j(l:U)(nn:Bool):r5 (.list (l.map bcv) nn none):=P7 (f:=bcv) (λ_=>⟨.val _,O⟩) l nn
theorem a1c(n:Nat)(l:U)(nn:Bool):Old n (.list (l.map bcv) nn none):=(a2j l nn).old
theorem e0y:∀x∈M0,x.2.length<=26:=by decide
theorem c8i{m1:List (Int×Int)}{j:Nat}{k:Int}(hb:s[j]?=some b)(h:∀c,(glk m1 c).getD 0=if InB (s.take j) c then k else(glk m c).getD 0):
 ∀c,(glk (V8 m1 (b.toNat:Int) k) c).getD 0=if InB (s.take (j+1)) c then k else(glk m c).getD 0:=λc=>by
 have ht:s.take (j+1)=s.take j++[b]:=by
  obtain⟨ab,rfl⟩:=n_3.1 hb;exact(b2J ab).symm
 rw[Q1,ht];by_cases hc:c=(b.toNat:Int)
 .rw [F hc,F ⟨b,H,hc.symm⟩];rfl
 .rw [D hc,h c];have iz:InB (s.take j) c↔InB (s.take j++[b]) c:=by
   constructor
   .rintro ⟨y,hy,e⟩;exact⟨y,by simp[hy],e⟩
   .rintro ⟨y,hy,e⟩
    rcases J5.1 hy with hy|hy
    .exact ⟨y,hy,e⟩
    .rw [b0s.1 hy]at e;exact absurd e.symm hc
  by_cases hh:InB (s.take j) c
  .rw [F hh,F (iz.1 hh)]
  .rw [D hh,D (λh=>hh (iz.2 h))]
theorem c56:b8 CC 123 [] [] λr τ=>∃m:List (Int×Int),a1t [b9.map (gm kb kv m)].length τ r (.ret (.map 0))/\b30 [b9.map (gm kb kv m)].length τ τ [.map (gm kb kv m)]/\([]:List b9).length<=[b9.map (gm kb kv m)].length/\KM m:=by
 refine qO Tryz.func123 ?_;refine qD (V3 J ?_);refine qD (V3 J ?_);refine qD (o3 (vc:=sv) (l:=M0.take 0) a0X (.inr J) O J J J J J a2I J ?_);refine qD (o3 (vc:=sv) (l:=M0.take 1) a0X (.inr J) O J J J J J a2I J ?_);refine qD (o3 (vc:=sv) (l:=M0.take 2) a0X (.inr J) O J J J J J a2I J ?_);refine qD (o3 (vc:=sv) (l:=M0.take 3) a0X (.inr J) O J J J J J a2I J ?_);refine qD (o3 (vc:=sv) (l:=M0.take 4) a0X (.inr J) O J J J J J a2I J ?_);refine qD (o3 (vc:=sv) (l:=M0.take 5) a0X (.inr J) O J J J J J a2I J ?_);refine qD (o3 (vc:=sv) (l:=M0.take 6) a0X (.inr J) O J J J J J a2I J ?_);refine qD (o3 (vc:=sv) (l:=M0.take 7) a0X (.inr J) O J J J J J a2I J ?_);refine qD (b1a J O J a2I J ?_);refine j8 hCC (α:=List (Int×Int)×List (Int×U)×List (Int×U)) (λ_=>[(1,.map 0),(9,.ptr 2 0)]) (λx=>[.map (gm kb kv x.1),.dead,.iter (gm kv sv x.2.1) (gm kv sv x.2.2)]) (λx=>KL x.1 x.2.2) (λx=>x.2.2.length) ([],[],M0) KL.start tu_ (ai:=[]) J z8 uz_ ?_;intro⟨m,aH,left⟩ ij;dsimp only at ij⊢;refine qk (qD (b6b J O J J (λhz=>?_) (λi x hx=>?_)))
 .
  have dy:left=[]:=by
   cases left with
   |nil=>rfl
   |cons y l=>cases hz
  subst dy;refine qC ?_ ?_<;>intro h1
  .cases h1
  .refine z_9 ?_;exact⟨_,rE1,⟨m,.ret (.old (.map (Nat.zero_lt_one))),⟨.same (Z5 _ _),O⟩,n_4 _,ij.done⟩⟩
 .
  obtain⟨⟨k,s⟩,hy,rfl⟩:=b6f hx;rw[a8D];have bD:=ij.2.1 _ (n_2 hy);have dS:s.length<=26:=e0y _ bD;refine qC ?_ ?_<;>intro h3
  .refine W (b09 J O J J) ?_;refine W (d7E J O J t_7 Z3 b3H Q) ?_;refine W a9U ?_;refine j8 hCC (α:=List (Int×Int)×Nat) (λx=>[(1,.map 0),(2,iv k),(9,.ptr 2 0),(16,(.list (s.map bcv) true none)),(17,iv s.length),(18,iv x.2)]) (λx=>[.map (gm kb kv x.1),.dead,.iter (gm kv sv [(k,s)]) (gm kv sv (left.eraseIdx i))]) (λx=>x.2<=s.length/\∀c,(glk x.1 c).getD 0=if InB (s.take x.2) c then k else(glk m c).getD 0) (λx=>s.length -x.2) (m,0) ⟨n_4 _,λc=>by rw[D (by simp[InB])]⟩ tu_ (ai:=[]) J z8 uz_ ?_;intro⟨m1,j⟩ ⟨hj,bZ⟩;dsimp only at hj bZ⊢;refine qk (qC ?_ ?_)<;> intro h4
   .have cc:(j:Int)<s.length:=I h4;obtain⟨b,hb⟩:=gx_ s j;refine W (p9 J O O J J Z3 a1P X (j1 hb) J) ?_;refine qD (o3 (vc:=kv) (l:=m1) (a:=(b.toNat:Int)) (b:=k) d5N (.inl J) O O trivial J J J c4S J ?_);refine W j9 ?_;exact⟨(V8 m1 (b.toNat:Int) k,j+1),_,⟨Q,Q,c8i hb bZ⟩,tu_,J⟩
   .have cc:s.length<=j:=by
     have:¬(j:Int)<s.length:=I h4;omega
    rw[R3 cc]at bZ;refine j6 ?_;exact⟨(m1,[(k,s)],left.eraseIdx i),_,⟨by dsimp only;rw[c41 (n_3.1 hy).1];have:=(n_3.1 hy).1;omega,ij.step hy bZ⟩,tu_,J⟩
  .cases h3
theorem b2A(σ:List b9):b8 CC 123 [] σ λr τ=>∃m:List (Int×Int),r= .ret (.map σ.length)/\τ=σ++[.map (gm kb kv m)]/\KM m:=
 a1n (α:=List (Int×Int)) (obs:=[]) (args:=[]) (res:=λ_=>.ret (.map 0)) (res':=λ_=>.ret (.map σ.length)) (S:=λ_=>[]) (N:=λm=>[.map (gm kb kv m)]) (P:=KM) [] hCC J (λi j k h=>by simp at h) (λi k h=>by simp at h) (λob h=>by cases h) ⟨J,λi c c' h=>by simp at h⟩
  (a1m (res:=λ_=>.ret (.map 0)) (S:=λm=>[.map (gm kb kv m)]) (P:=KM) hCC c56) (λm _=>⟨J,λob h=>by simp at h;subst h;exact c9b m⟩) (λm _=>.ret (.map (.inr ⟨n_4 _,J⟩)))
def inK(ks:List Int)(b:UInt8):Bool:=ks.any λk=>decide (l9 b.toNat=k)
def A9(s:U)(a:Nat)(ks:List Int):Nat:=a+((s.drop a).takeWhile (inK ks)).length
theorem a9I(h:s.length<=a):A9 s a ks=a:=by
 unfold A9;rw[T6 h];rfl
theorem X8(h:s[a]?=some b):A9 s a ks=if inK ks b=true then A9 s (a+1) ks else a:=by
 obtain⟨ab,rfl⟩:=n_3.1 h;unfold A9;rw[R0 ab,b0d]
 split
 .rw [C5];omega
 .rfl
theorem a2t(h:a<=s.length):a<=A9 s a ks/\A9 s a ks<=s.length:=by
 unfold A9;have:=(List.takeWhile_sublist (inK ks) (l:=s.drop a)).length_le;rw[a94]at this;omega
theorem d2w{j:Nat}{k:Int}(h:ks[j]?=some k)(p:Int->Bool):(ks.take (j+1)).any p=((ks.take j).any p ||p k):=by
 obtain⟨ab,rfl⟩:=n_3.1 h;rw[<- b2J ab,List.any_append];simp
theorem c9j(s:U)(at_:Nat)(ks:List Int)(nn:Bool)(m:List (Int×Int))(hm:KM m)(ha:at_<=s.length)(hs:s.length<=1000000000000)(ij:ks.length<=1000000000000):b8 CC 124 [(sv s),iv at_,.map 0,(.list (ks.map icv) nn none)] [b9.map (gm kb kv m)] λr τ=>∃_:Unit,a1t [b9.map (gm kb kv m)].length τ r (.ret (iv (A9 s at_ ks:Int)))/\b30 [b9.map (gm kb kv m)].length τ τ [b9.map (gm kb kv m)]/\[b9.map (gm kb kv m)].length<=[b9.map (gm kb kv m)].length/\True:=by
 refine qO Tryz.func124 ?_;refine j8 hCC (α:=Nat) (λi=>[(0,(sv s)),(1,iv i),(2,.map 0),(3,(.list (ks.map icv) nn none))]) (λ_=>[b9.map (gm kb kv m)]) (λi=>i<=s.length/\A9 s at_ ks=A9 s i ks) (λi=>s.length -i) at_ ⟨ha,J⟩ tu_ (ai:=[]) J z8 uz_ ?_;intro i ⟨hi,ah⟩;refine a7w ?_;refine qC ?_ ?_<;>intro h1
 .have bm:(i:Int)<s.length:=I h1;obtain⟨b,hb⟩:=gx_ s i;rw[X8 hb]at ah;refine W a1z ?_;refine j8 hCC (α:=Nat) (λj=>[(0,(sv s)),(1,iv i),(2,.map 0),(3,(.list (ks.map icv) nn none)),(9,(.val (.bool ((ks.take j).any λk=>decide (l9 b.toNat=k))))),(16,(.list (ks.map icv) nn none)),(17,iv ks.length),(18,iv j)]) (λ_=>[b9.map (gm kb kv m)]) (λj=>j<=ks.length) (λj=>ks.length -j) 0 (n_4 _) tu_ (ai:=[]) J z8 uz_ ?_;intro j hj;refine qk (qC ?_ ?_)<;> intro h2
  .have cc:(j:Int)<ks.length:=I h2;obtain⟨k,hk⟩:=gx_ ks j;refine W (p9 J O O J J t_6 t_1 X (j1 hk) J) ?_;refine a1y ?_;refine qG D4 ?_;refine qG e2C ?_;refine qG (λhg=>U4 (vc:=kv) (l:=m) (a:=(b.toNat:Int)) d5N J hg hg J J c4S t_8 J J (b6F _ _)) ?_;refine qG D4 ?_;refine a93 ?_;refine W j9 ?_;exact⟨(j+1),_,⟨X,X⟩,⟨o0,o0,o0,o0,⟨O,(by rw[d2w hk,<- hm];rfl)⟩,o0,o0,o0,O⟩,J⟩
  .have cc:ks.length<=j:=by
    have:¬(j:Int)<ks.length:=I h2;omega
   refine j6 ?_;refine qC ?_ ?_<;>intro h3
   .have eg:inK ks b=false:=by
     have:((ks.take j).any λk=>decide (l9 b.toNat=k))=false:=I h3;rwa[R3 cc]at this
    rw[eg]at ah;refine z_9 ?_;exact⟨_,rE1,⟨(),.ret (C9 (by rw[ah];rfl)),⟨.same (Z5 _ _),O⟩,n_7 _,O⟩⟩
   .have hyes:inK ks b=true:=by
     have:((ks.take j).any λk=>decide (l9 b.toNat=k))=true:=I h3;rwa[R3 cc]at this
    rw[hyes]at ah;refine W j9 ?_;exact⟨(i+1),_,⟨X,X,ah⟩,tu_,J⟩
 .have aF:s.length<=i:=by
   have:¬(i:Int)<s.length:=I h1;omega
  rw[a9I aF]at ah;refine z_9 ?_;exact⟨_,rE1,⟨(),.ret (C9 (by rw[ah])),⟨.same (Z5 _ _),O⟩,n_7 _,O⟩⟩
theorem a8M{at_:Nat}{nn:Bool}(hm:KM m)(ha:at_<=s.length)(hs:s.length<=1000000000000)(ij:ks.length<=1000000000000){σ:List b9}{q:Nat}(hq:σ[q]?=some (.map (gm kb kv m))):b8 CC 124 [(sv s),iv at_,.map q,(.list (ks.map icv) nn none)] σ λr τ=>r= .ret (iv (A9 s at_ ks:Int))/\τ=σ:=
 b2h hCC (c9b m) (.val _) hq (.cons (.val _) (.cons (.val _) (.cons (.map J) (.cons (.pure (P5 _ _)) .nil)))) (c9j s at_ ks nn m hm ha hs ij)
def C4(s:U):Bool:=match s with
 | []=>false
 |b::_=>decide (s.length<=24)&&decide (l9 b.toNat=1)&&s.all (inK [1,2,3])
theorem a8o:A9 s 0 ks=s.length↔s.all (inK ks)=true:=by
 unfold A9;rw[b0Q,K0];generalize inK ks=p
 induction s with
 |nil=>simp
 |cons b s ih=>
  rw[b0d,b1x];cases hp:p b with
  |false=>simp
  |true=>
   simp only[if_true,C5,Nat.add_right_cancel_iff,a9O];exact ih
theorem d1Z(h:1<=s.length):s[(0:Int).toNat]?=some (s.headD 0):=by
 cases s with
 |nil=>simp at h
 |cons b s=>rfl
theorem d4y(s:U)(hm:KM m){w:Bool}(h1:x=decide ((s.length:Int)>=1))(h2:y=decide ((s.length:Int)<=24))(h3:z=((glk m ((s.headD 0).toNat:Int)).getD 0 == 1))(h4:w=((A9 s 0 [1,2,3]:Int) ==(s.length:Int))):(((x&&y)&&z)&&w)=C4 s:=by
 subst h1 h2 h3 h4;rw[hm];have h5:((A9 s 0 [1,2,3]:Int) ==(s.length:Int))=s.all (inK [1,2,3]):=by
  cases h:s.all (inK [1,2,3])with
  |true=>exact a1B (by have:=a8o.2 h;omega)
  |false=>
   refine a1S λe=>?_;have:=a8o.1 (show A9 s 0 [1,2,3]=s.length by omega);rw[h]at this;cases this
 rw[h5];cases s with
 |nil=>rfl
 |cons b s=>
  have h6:decide (((b::s).length:Int)>=1)=true:=by simp;omega
  have h7:decide (((b::s).length:Int)<=24)=decide ((b::s).length<=24):=b3n.2 X;rw[h6,h7];rfl
theorem a14(s:U)(σ:List b9):b8 CC 74 [(sv s)] σ λr aa=>r= .ret (.val (.bool (C4 s)))/\aa=σ:=by
 refine b8.anyw hCC pu_ pu_ (c7 (qO Tryz.func74 ?_)) σ;refine qD (c5 J c9B trivial (b2A _) J ?_);intro m hm;refine W R6 ?_;refine a8a ?_;refine a4k ?_;refine a1y ?_;refine qG e1D ?_;refine qG (λhg=>U4 (vc:=kv) (l:=m) (a:=((s.headD 0).toNat:Int)) d5N J hg hg J J c4S t_8 J J (b6F _ _)) ?_;refine a4k ?_;refine a1y ?_;refine qG (λhg=>B1 ([1,2,3].map icv) J ⟨J,J,J,O⟩ t_6 t_1 t_8 J J J J J J J J J) ?_;refine qG (λhg=>c4 J d1K ⟨hg,J,hg,hg,O⟩ (a8M hm (n_4 _) (sm_ hg) G J) J) ?_;refine a8a ?_;refine qG b5j ?_;refine b0D ?_;exact⟨_,rE1,_,_,J,J,j4 (d4y s hm J J J J)⟩
theorem b2S(s:U)(c:UInt8)(σ:List b9):b8 CC 233 [(sv s),(.val (.int .u8 (c.toNat:Int)))] σ λr aa=>r= .ret (iv (Go.Lib.indexByte s c))/\aa=σ:=by
 refine b8.anyw hCC pu_ pu_ (c7 (qO Tryz.func233 ?_)) σ;refine W (c1Z (e:=Extern.BytealgIndexByte.indexByte) J Tryz.func274 J J J J O O J J (λw=>c7E s c w)) ?_;exact c1f
theorem a6C(s:U)(c:UInt8)(σ:List b9):b8 CC 189 [(sv s),(.val (.int .u8 (c.toNat:Int)))] σ λr aa=>r= .ret (iv (Go.Lib.indexByte s c))/\aa=σ:=by
 refine b8.anyw hCC pu_ pu_ (c7 (qO Tryz.func189 ?_)) σ;exact d7V
theorem b9m(s:U)(c:UInt8)(σ:List b9):b8 CC 298 [(sv s),(sv ([c]))] σ λr aa=>r= .ret (iv (Go.Lib.indexByte s c))/\aa=σ:=by
 refine b8.anyw hCC pu_ pu_ (c7 (qO Tryz.func298 ?_)) σ;refine W R6 ?_;refine a1y ?_;refine qG b1X ?_;refine W S6 ?_;refine qC ?_ ?_<;>intro h1
 .have hs:s=[c]:=by simp at h1;exact h1.symm
  subst hs;refine c6 ?_;exact⟨_,rE1,_,_,J,J,C9 (by simp[Go.Lib.indexByte])⟩
 .refine cC ?_ ?_<;>intro h2
  .refine qk (W (O6 J O J J J t_7 X J) ?_);exact d7V
  .simp at h2
theorem a9C(s:U)(c:UInt8)(σ:List b9):b8 CC 263 [(sv s),(sv ([c]))] σ λr aa=>r= .ret (iv (Go.Lib.indexByte s c))/\aa=σ:=by
 refine b8.anyw hCC pu_ pu_ (c7 (qO Tryz.func263 ?_)) σ;refine W (c4 J Tryz.call298 i7 (b9m s c _) J) ?_;exact c1f
theorem a86(s:U)(c:UInt8)(σ:List b9):b8 CC 262 [(sv s),(sv ([c]))] σ λr aa=>r= .ret (iv (s.count c:Nat))/\aa=σ:=by
 refine b8.anyw hCC pu_ pu_ (c7 (qO Tryz.func262 ?_)) σ;refine W R6 ?_;refine cC ?_ ?_<;>intro h1
 .simp at h1
 .refine a7w ?_;refine cC ?_ ?_<;>intro h2
  .refine qk (W (O6 J O J J J t_7 X J) ?_);refine W (c1Z (e:=Extern.BytealgCount.count) J Tryz.func297 J J J J O O J J (λw=>c7p s c w)) ?_;exact c1f
  .simp at h2
def B8(c:UInt8):U->List U
 | []=>[[]]
 |b::l=>if b=c then []::B8 c l else match B8 c l with
  |x::xs=>(b::x)::xs
  | []=>[[b]]
theorem a07(c:UInt8)(s:U):B8 c s≠[]:=by
 cases s with
 |nil=>simp[B8]
 |cons b l=>
  rw[B8]
  split
  .simp
  .split<;>simp
theorem a1p(c:UInt8)(s:U):(B8 c s).length=s.count c+1:=by
 induction s with
 |nil=>rfl
 |cons b l ih=>
  rw[B8,List.count_cons];by_cases h:b=c
  .rw [F h,C5,ih,F (I h)]
  .rw [D h,D (I h)];cases hs:B8 c l with
   |nil=>exact absurd hs (a07 c l)
   |cons x xs=>rw[hs]at ih;simpa using ih
theorem a5w{c:UInt8}:∀{s:U},Go.Lib.indexByte s c= -1->B8 c s=[s]
 | [],_=>rfl
 |b::l,h=>by
  rw[Go.Lib.indexByte]at h;by_cases hb:b=c
  .rw [F (I hb)]at h;omega
  .rw [D (I hb)]at h;have hl:Go.Lib.indexByte l c= -1:=by
    have:=Go.Lib.indexByte_ge l c;split at h
    .rename_i e;simpa using e
    .omega
   rw[B8,D hb,a5w hl]
theorem a5q{c:UInt8}:∀{s:U} {m:Nat},Go.Lib.indexByte s c=m->m<s.length/\B8 c s=s.take m::B8 c (s.drop (m+1))
 | [],m,h=>by rw[Go.Lib.indexByte]at h;omega
 |b::l,m,h=>by
  rw[Go.Lib.indexByte]at h;by_cases hb:b=c
  .rw [F (I hb)]at h;have hm:m=0:=by omega
   subst hm;exact⟨H,by rw[B8,F hb];rfl⟩
  .rw [D (I hb)]at h;have hg:=Go.Lib.indexByte_ge l c;split at h
   .omega
   .rename_i e;have e':Go.Lib.indexByte l c≠-1:=I e;obtain⟨k,hk⟩:∃k:Nat,Go.Lib.indexByte l c=k:=⟨(Go.Lib.indexByte l c).toNat,X⟩;have hmk:m=k+1:=by omega
    subst hmk;obtain⟨h1,h2⟩:=a5q hk;refine⟨by simp;omega,?_⟩;rw[B8,D hb,h2];rfl
theorem d0t(n:Nat){k:Nat}:I6 n (.vec 1 (d.map scv++List.replicate k (scv []))):=λr hr c hc=>by
 rcases J5.1 hr with hr|hr
 .obtain ⟨x,_,rfl⟩:=D5.1 hr;simp[scv]at hc;subst hc;exact .val _
 .have:=List.eq_of_mem_replicate hr;subst this;simp[scv]at hc;subst hc;exact .val _
theorem d0c{k:Nat}(hk:0<k):(d.map scv++List.replicate k (scv []))[0+((d.length:Int)).toNat]?=some (scv []):=by
 rw[K0,a2L,a1v H];simp[hk]
theorem d2C{n:Nat}{x:U}(hk:d.length <n):(d.map scv++List.replicate (n-d.length) (scv [])).set (0+((d.length:Int)).toNat) (scv x)=(d++[x]).map scv++List.replicate (n- (d++[x]).length) (scv []):=by
 rw[K0,a2L,List.set_append,D H];obtain⟨j,hj⟩:∃j,n-d.length=j+1:=⟨n-d.length -1,X⟩;have h2:n- (d++[x]).length=j:=by simp;omega
 rw[hj,h2];simp[List.replicate_succ]
theorem a6G(s:U)(c:UInt8)(hs:s.length<=1000000000)(σ:List b9):b8 CC 207 [(sv s),(sv ([c])),(iv (0)),(iv (-1))] σ λr aa=>r= .ret (.list ((B8 c s).map scv) true none)/\aa=σ:=by
 refine b8.anyw hCC pu_ pu_ ?_ σ;have hcnt:=s.count_le_length (a:=c);have bW:([c]:U).length=1:=J;refine c7 (cO Tryz.func207 ?_);refine qs 3 ?_;refine cC ?_ ?_<;>intro h1
 .simp at h1
 .refine qk (W Q7 ?_);refine cC ?_ ?_<;>intro h2
  .simp at h2
  .refine qk ?_;refine S3 hCC (α:=Unit) (λ_=>[(0,(sv s)),(1,(sv ([c]))),(2,(iv (0))),(3,(iv (((s.count c:Nat):Int)+1)))]) (λ_=>[]) (λ_=>True) z8 uz_ ?_ ?_
   .
    refine qk ?_;refine cC ?_ ?_<;>intro h3
    .refine qk (W (c4 J Tryz.call262 i7 (a86 s c _) J) ?_);refine W j9 ?_;exact⟨(),_,O,tu_,J⟩
    .simp at h3
   .intro _ _;refine a7w ?_;refine W j9 ?_;refine W (d9i J O O J J) ?_;refine qD (c2R J O O J J (n:=(s.count c+1)) (c:=(s.count c+1)) X X t_2 t_0 a3p t_4 J (a4h J) J X B7 Z6 ?_);refine W X7 ?_;refine j8 hCC (α:=List U×U) (λx=>[(0,(sv x.2)),(1,(sv ([c]))),(2,(iv (0))),(3,(iv ((s.count c:Nat):Int))),(9,.vec 0 0 (s.count c+1)),(10,iv x.1.length)]) (λx=>[.vec 1 (x.1.map scv++List.replicate (s.count c+1-x.1.length) (scv []))]) (λx=>x.1.length<=s.count c/\B8 c s=x.1++B8 c x.2/\x.2.length<=s.length) (λx=>s.count c+1-x.1.length) ([],s) ⟨n_4 _,J,n_7 _⟩ ⟨o0,o0,o0,⟨O,n_8 (λz:Int=>(iv z)) X⟩,o0,o0,O⟩ (ai:=[]) J z8 uz_ ?_;intro⟨d,u⟩ ⟨hd,ah,hul⟩;dsimp only at hd ah hul⊢;have ak:=a1p c s;rw[ah,n_6,a1p c u]at ak;refine qk (qC ?_ ?_)<;> intro h4
    .have eN:d.length <s.count c:=sm_ h4;refine W (c4 J Tryz.call263 i7 (a9C u c _) J) ?_;refine cC ?_ ?_<;>intro h5
     .exfalso;have hneg:Go.Lib.indexByte u c= -1:=by
       have:=Go.Lib.indexByte_ge u c;have h5':Go.Lib.indexByte u c<0:=I h5;omega
      have h6:=a1p c u;rw[a5w hneg]at h6;simp at h6;omega
     .have hm0:¬Go.Lib.indexByte u c<0:=I h5;obtain⟨m,hm⟩:∃m:Nat,Go.Lib.indexByte u c=m:=⟨(Go.Lib.indexByte u c).toNat,X⟩;obtain⟨gX,hsu⟩:=a5q hm;rw[hm];refine qk (W a4P ?_);refine W (L8 (h:=m) J O J t_7 J a2A a4O a4O) ?_;refine W (T0 J O O J J t_2 t_0 J X X) ?_;refine qD (M8 ((d++[u.take m]).map scv++List.replicate (s.count c+1- (d++[u.take m]).length) (scv [])) J O O J j3 t_0 (.inl J) J (d0c (d:=d) (k:=s.count c+1-d.length) X) J (nb J) (by exact d2C (d:=d) (x:=u.take m) (n:=s.count c+1) X) J ?_);refine W R6 ?_;refine W a4P ?_;refine W (L8 (a:=(m+1)) J O J t_7 a2A J a4O a4O) ?_;refine W j9 ?_;exact⟨(d++[u.take m],u.drop (m+1)),_,⟨by simp;omega,by simp;omega,by rw[ah,hsu];simp,by simp;omega⟩,⟨⟨O,(n_8 sv (show(u.take u.length).drop (m+1)=u.drop (m+1) by rw[a6K]))⟩,o0,o0,o0,o0,⟨O,n_8 (λz:Int=>(iv z)) H⟩,O⟩,J⟩
    .have eN:d.length=s.count c:=by
      have:¬(d.length:Int)< ((s.count c:Nat):Int):=I h4;omega
     have hu1:B8 c u=[u]:=by
      apply a5w;have h6:=a1p c u;have hg:=Go.Lib.indexByte_ge u c
      rcases Int.lt_or_le (Go.Lib.indexByte u c) 0 with h|h
      .omega
      .obtain ⟨m,hm⟩:∃m:Nat,Go.Lib.indexByte u c=m:=⟨(Go.Lib.indexByte u c).toNat,X⟩;obtain⟨_,h7⟩:=a5q hm;have h8:=n_8 List.length h7;have h9:=a07 c (u.drop (m+1));have bb:=a81.2 h9;simp only[C5]at h8;omega
     rw[hu1]at ah;refine j6 ?_;refine W (T0 J O O J J t_2 t_0 J X X) ?_;refine qD (M8 ((d++[u]).map scv++List.replicate (s.count c+1- (d++[u]).length) (scv [])) J O O J j3 t_0 (.inl J) J (d0c (d:=d) (k:=s.count c+1-d.length) X) J (nb J) (by exact d2C (d:=d) (x:=u) (n:=s.count c+1) X) J ?_);refine W j9 ?_;refine W (Y6 (h:=(d.length+1)) J O J t_2 t_0 J J a2A a2c (by first|(simp;done)|(simp;omega))) ?_;refine c6 ?_;exact⟨_,rE1,_,_,J,J,.vecs (n_4 _) J (by first|(simp;done)|(simp;omega)) (by rw[ah,b0Q];exact List.take_left' H) (λr hr c hc=>(C0 (f:=scv) (λ_=>O0.all ⟨.val _,O⟩) _) r hr c hc)⟩
theorem a9k(s:U)(c:UInt8)(hs:s.length<=1000000000)(σ:List b9):b8 CC 162 [(sv s),(sv ([c]))] σ λr aa=>r= .ret (.list ((B8 c s).map scv) true none)/\aa=σ:=by
 refine b8.anyw hCC pu_ pu_ (c7 (qO Tryz.func162 ?_)) σ;refine W (c4 J Tryz.call207 ⟨O,O,J,J,O⟩ (a6G s c hs _) J) ?_;refine c6 ?_;exact⟨_,rE1,_,_,J,J,(a1d J (F3 _ _))⟩
def a4V(p:U):Bool:=decide (1<=p.length)&&decide (p.length<=24)&&p.all (inK [1,2,3,4])
def I1(s:U):Bool:=decide (s.length<=80)&&decide ((B8 47 s).length<=8)&& (B8 47 s).all a4V
theorem c6W{c:UInt8}:∀p∈B8 c s,p.length<=s.length:=by
 induction s with
 |nil=>intro p hp;simp[B8]at hp;subst hp;simp
 |cons b l ih=>
  intro p hp;rw[B8]at hp;by_cases h:b=c
  .rw [F h]at hp
   rcases J0.1 hp with rfl|hp
   .simp
   .have:=ih p hp;simp;omega
  .rw [D h]at hp;cases hs:B8 c l with
   |nil=>exact absurd hs (a07 c l)
   |cons x xs=>
    rw[hs]at hp ih
    rcases J0.1 hp with rfl|hp
    .have:=ih x H;simp;omega
    .have:=ih p (by simp[hp]);simp;omega
theorem c4Z(p:U)(h1:x=decide ((p.length:Int)<1))(h2:y=decide ((p.length:Int) > 24))(h3:z= !((A9 p 0 [1,2,3,4]:Int) ==(p.length:Int))):((x ||y) ||z)= !a4V p:=by
 subst h1 h2 h3;have h5:((A9 p 0 [1,2,3,4]:Int) ==(p.length:Int))=p.all (inK [1,2,3,4]):=by
  cases h:p.all (inK [1,2,3,4])with
  |true=>exact a1B (by have:=a8o.2 h;omega)
  |false=>
   refine a1S λe=>?_;have:=a8o.1 (show A9 p 0 [1,2,3,4]=p.length by omega);rw[h]at this;cases this
 rw[h5,a4V];have h6:decide ((p.length:Int)<1)= !decide (1<=p.length):=by by_cases h:1<=p.length<;>simp[h]<;>omega
 have h7:decide ((p.length:Int) > 24)= !decide (p.length<=24):=by by_cases h:p.length<=24<;>simp[h]<;>omega
 rw[h6,h7];simp[Bool.not_and]
theorem a19(s:U)(hs:s.length<=1000000000)(σ:List b9):b8 CC 118 [(sv s)] σ λr aa=>r= .ret (.val (.bool (I1 s)))/\aa=σ:=by
 refine b8.anyw hCC pu_ pu_ (c7 (qO Tryz.func118 ?_)) σ;refine W (c4 J Tryz.call162 o8 (a9k s 47 hs _) J) ?_;refine W R6 ?_;refine qG D4 ?_;refine qG (λhg=>a0u J hg J t_2 a7W J) ?_;refine a38 ?_;refine qC ?_ ?_<;>intro h1
 .have eg:I1 s=false:=by
   unfold I1;have dW:(decide ((s.length:Int) > 80) ||decide (((B8 47 s).length:Int) > 8))=true:=h1;by_cases h:s.length<=80
   .have h2:¬(B8 47 s).length<=8:=by
     intro h2;have e1:decide ((s.length:Int) > 80)=false:=a1S X;have e2:decide (((B8 47 s).length:Int) > 8)=false:=a1S X;rw[e1,e2]at dW;cases dW
    simp[h2]
   .simp [h]
  exact d6L
 .have bo:s.length<=80/\(B8 47 s).length<=8:=by
   have dW:(decide ((s.length:Int) > 80) ||decide (((B8 47 s).length:Int) > 8))=false:=h1;simp only[c0r,b3R]at dW;omega
  refine qD (c5 J c9B trivial (b2A _) J ?_);intro m hm;refine W I7 ?_;refine j8 hCC (α:=Nat) (λi=>[(4,.map 0),(18,(.list ((B8 47 s).map scv) true none)),(19,(iv ((B8 47 s).length:Int))),(20,iv i)]) (λ_=>[.map (gm kb kv m)]) (λi=>i<=(B8 47 s).length/\((B8 47 s).take i).all a4V=true) (λi=>(B8 47 s).length -i) 0 ⟨n_4 _,J⟩ tu_ (ai:=[]) J z8 uz_ ?_;intro i ⟨hi,bv⟩;refine qk (qC ?_ ?_)<;> intro h2
  .have bm:(i:Int)< (B8 47 s).length:=I h2;obtain⟨p,hp⟩:∃p,(B8 47 s)[i]?=some p:=⟨(B8 47 s)[i]'X,H⟩;have ba:=c6W p (n_2 hp);refine W (p9 J O O J J t_2 t_0 X (j1 hp) J) ?_;refine W R6 ?_;refine a8a ?_;refine a38 ?_;refine a1y ?_;refine qG (λhg=>B1 ([1,2,3,4].map icv) J ⟨J,J,J,J,O⟩ t_6 t_1 t_8 J J J J J J J J J) ?_;refine qG (λhg=>c4 J d1K ⟨hg,J,hg,hg,O⟩ (a8M hm (n_4 _) X G J) J) ?_;refine a8a ?_;refine a93 ?_;refine qC ?_ ?_<;>intro h3
   .have hbad:a4V p=false:=by
     have h3':true= !a4V p:=Eq.trans (Eq.symm h3) (c4Z p J J J);simpa using h3'.symm
    have eg:I1 s=false:=by
     unfold I1;have:(B8 47 s).all a4V=false:=by
      rw[c5Y];intro hh;have:=a40.1 hh p (n_2 hp);rw[hbad]at this;cases this
     rw[this];simp
    exact d6L
   .have hgood:a4V p=true:=by
     have h3':false= !a4V p:=Eq.trans (Eq.symm h3) (c4Z p J J J);simpa using h3'.symm
    refine W j9 ?_;exact⟨(i+1),_,⟨X,X,by
     obtain⟨ab,he⟩:=n_3.1 hp;rw[<- b2J ab,List.all_append,bv,he];simp[hgood]⟩,tu_,J⟩
  .have aF:(B8 47 s).length<=i:=by
    have:¬(i:Int)< (B8 47 s).length:=I h2;omega
   rw[R3 aF]at bv;refine z_9 ?_;exact⟨_,rE1,_,_,J,J,j4 (by rw[I1,bv];simp[bo.1,bo.2])⟩
theorem d1V(c:Int):(decide (c>=97)&&decide (c<=122))=decide (l9 c=1):=by
 by_cases h:97<=c/\c<=122
 .have e:l9 c=1:=by unfold l9;rw[F h]
  simp[e,h.1,h.2]
 .have e:l9 c≠1:=by
   unfold l9;rw[D h]
   repeat' split
   all_goals omega
  have e2:¬(c>=97/\c<=122):=h;simp only[a1S e];by_cases h1:c>=97
  .have h2:¬c<=122:=λh2=>h ⟨h1,h2⟩;simp[h2]
  .simp [h1]
theorem d4G(b:UInt8)(hx:x=decide (l9 b.toNat=1))(hy:y=(decide ((b.toNat:Int)>=48)&&decide ((b.toNat:Int)<=57)))(hz:z=((b.toNat:Int) == 95)):((x ||y) ||z)=inK [1,2,3] b:=by
 subst hx hy hz;unfold inK;generalize (b.toNat:Int)=c;have h2:(decide (c>=48)&&decide (c<=57))=decide (l9 c=2):=by
  by_cases h:48<=c/\c<=57
  .have e:l9 c=2:=by unfold l9;rw[D X,F h]
   simp[e,h.1,h.2]
  .have e:l9 c≠2:=by
    unfold l9
    repeat' split
    all_goals omega
   simp only[a1S e];by_cases h1:c>=48
   .have h2:¬c<=57:=λh2=>h ⟨h1,h2⟩;simp[h2]
   .simp [h1]
 have h3:(c == 95)=decide (l9 c=3):=by
  by_cases h:c=95
  .subst h;rfl
  .have e:l9 c≠3:=by
    unfold l9
    repeat' split
    all_goals omega
   rw[a1S e];simp[h]
 rw[h2,h3];simp[Bool.or_assoc]
theorem a5W(b:UInt8)(σ:List b9):b8 CC 131 [(.val (.int .u8 (b.toNat:Int)))] σ λr aa=>r= .ret (.val (.bool (decide (l9 b.toNat=1))))/\aa=σ:=by
 refine b8.anyw hCC pu_ pu_ (c7 (qO Tryz.func131 ?_)) σ;refine qG D4 ?_;refine a4k ?_;refine c6 ?_;exact⟨_,rE1,_,_,J,J,j4 (d1V _)⟩
theorem a7e(b:UInt8)(σ:List b9):b8 CC 119 [(.val (.int .u8 (b.toNat:Int)))] σ λr aa=>r= .ret (.val (.bool (inK [1,2,3] b)))/\aa=σ:=by
 refine b8.anyw hCC pu_ pu_ (c7 (qO Tryz.func119 ?_)) σ;refine W (c4 J c9C ⟨O,O⟩ (a5W b _) J) ?_;refine qG D4 ?_;refine b7M ?_;refine qH J J (λhk hg=>a2r J O j3) ?_;refine d5Z ?_;refine W S6 ?_;refine qG D4 ?_;refine a38 ?_;refine c6 ?_;exact⟨_,rE1,_,_,J,J,j4 (d4G b J J J)⟩
theorem e2p(h:(((decide ((s.length:Int)<1)) ||decide ((s.length:Int) > 24)) || !decide (l9 ((s.headD 0).toNat:Int)=1))=true):C4 s=false:=by
 cases s with
 |nil=>rfl
 |cons b l=>
  unfold C4;by_cases h1:(b::l).length<=24
  .have e1:decide (((b::l).length:Int) > 24)=false:=a1S X;have e2:decide (((b::l).length:Int)<1)=false:=a1S K5;rw[e1,e2]at h;have h3:l9 (b.toNat:Int)≠1:=I h;simp[h3]
  .simp only[a1S h1,Bool.false_and]
theorem e1x(h:(((decide ((s.length:Int)<1)) ||decide ((s.length:Int) > 24)) || !decide (l9 ((s.headD 0).toNat:Int)=1))=false)(ha:s.all (inK [1,2,3])=true):C4 s=true:=by
 cases s with
 |nil=>simp at h
 |cons b l=>
  simp only[c0r,b3R,Bool.not_eq_false']at h;unfold C4;have h1:(b::l).length<=24:=by omega
  have h3:l9 (b.toNat:Int)=1:=I h.2;rw[ha];simp only[a1B h1,a1B h3];rfl
theorem d4J(hb:s[i]?=some b)(h:inK [1,2,3] b=false):C4 s=false:=by
 cases s with
 |nil=>rfl
 |cons x l=>
  unfold C4;have:(x::l).all (inK [1,2,3])=false:=by
   rw[c5Y];intro hh;have:=a40.1 hh b (n_2 hb);rw[h]at this;cases this
  rw[this];show(_&&false)=false;rw[Bool.and_false]
theorem c9r{p:UInt8->Bool}(hb:s[i]?=some b)(ha:(s.take i).all p=true)(h:p b=true):(s.take (i+1)).all p=true:=by
 obtain⟨ab,rfl⟩:=n_3.1 hb;rw[<- b2J ab,List.all_append,ha];simp[h]
theorem a6k(s:U)(σ:List b9):b8 CC 85 [(sv s)] σ λr aa=>r= .ret (.val (.bool (C4 s)))/\aa=σ:=by
 refine b8.anyw hCC pu_ pu_ (c7 (qO Tryz.func85 ?_)) σ;refine W R6 ?_;refine a8a ?_;refine a38 ?_;refine qG D4 ?_;refine qG e1D ?_;refine qG (λhg=>c4 J c9C ⟨hg,O⟩ (a5W (s.headD 0) _) J) ?_;refine a9R ?_;refine qC ?_ ?_<;>intro h1
 .have eg:C4 s=false:=e2p h1;exact d6L
 .have bo:=e1x h1;have hs:s.length<=24:=sm_ h1;refine j8 hCC (α:=Nat) (λi=>[(0,(sv s)),(3,iv i)]) (λ_=>[]) (λi=>i<=s.length/\(s.take i).all (inK [1,2,3])=true) (λi=>s.length -i) 0 ⟨n_4 _,J⟩ tu_ (ai:=[]) J z8 uz_ ?_;intro i ⟨hi,bv⟩;refine a7w ?_;refine qC ?_ ?_<;>intro h2
  .have bm:(i:Int)<s.length:=I h2;obtain⟨b,hb⟩:=gx_ s i;refine W b9K ?_;refine W (c4 J d0A ⟨O,O⟩ (a7e b _) J) ?_;refine qC ?_ ?_<;>intro h3
   .have eg:C4 s=false:=d4J hb (I h3);exact d6L
   .refine W j9 ?_;exact⟨(i+1),_,⟨X,X,c9r hb bv (I h3)⟩,tu_,J⟩
  .have aF:s.length<=i:=by
    have:¬(i:Int)<s.length:=I h2;omega
   rw[R3 aF]at bv;refine z_9 ?_;exact⟨_,rE1,_,_,J,J,j4 (by rw[bo bv])⟩
end Go.Proofs.YtlppbmfecjabeaaGreatDoor
