/- Part 2 of what the claim needs: values without addresses, and what the program's functions do with them. -/
import Derived.Lib.Bytealg
import Derived.Recover
import Derived.Lib.Builder
import Derived.Lib.UnsafeStr
import Derived.Sort.Grow
import Derived.Deep.Draws
import Derived.Lib.LaidTab
import Derived.RangeFuncSeq
import Derived.RangeFuncCalls
import Derived.Scope
import Derived.Shelf.SlSortCmp.NoneTotal
import Derived.Test.YtlppbmfecjabeaaGreatDoorProg
import Derived.Test.YtlppbmfecjabeaaGreatDoorD1
set_option linter.all false
set_option maxRecDepth 100000
set_option maxHeartbeats 4000000
namespace Go.Cl
variable{t t' e et src dst kt:TypeId}{x y m kx:Operand}{C:Ctx}{f:FuncId}{K:N8->List b9->Prop}{w:World}{c c':CV}{σ obs:List b9}{α β:Type}{args args' cells cargs:List CV}{M:A5}{R R':Nat->Nat->Prop}{k q n off i id:Nat}{P:Program}{p:Pl}{a:α}{E:Env}{ob b:b9}{ae:Array Oper}{o:Oper}{Ji:A8->Env->List b9->Prop}{z v:Value}{qs fl:List Nat}{S:List (List b9->Prop)}{res:α->N8}{Y:List (List CV)}{xs:Array Operand}{ts:Array TypeId}
def b0G:b9->Prop
 | .dead=>True
 | .boxT _ cells=>∀c∈cells,r9 c
 |_=>False
theorem b0G.rel{M':A5}(aV:∀b o,M.at b o->M'.at b o)(hf:∀b,M'.full b->M.full b)(dw:∀b o,M'.cell b o->M.cell b o)(hp:b0G ob)(h:R7 M w p ob/\a7n M p ob):R7 M' w p ob/\a7n M' p ob:=by
 cases ob with
 |dead=>exact⟨D,D⟩
 |boxT t0 cells=>
  obtain⟨⟨ap,ty,e1,e2,e3,e4⟩,g1,g2⟩:=h;exact⟨⟨ap,ty,e1,e2,e3,λi c hi=>(e4 i c hi).pure (λb o ha=>⟨aV b o ha,O⟩) (hp c (n_2 hi))⟩,λhh=>g1 (hf _ hh),λo hh=>g2 o (dw _ o hh)⟩
 |_=>exact hp.elim
theorem a5T.nil{l:List b9}:a5T n σ l []:=by cases l<;>trivial
theorem b2c{c:α->CV}{S:α->b9}{P:α->Prop}(hC:C.plain)(aq:∀a∈args,r9 a)(hc:∀a,r9 (c a))(hS:∀a,b0G (S a))(hob:b0G ob)(cb:ob.live=true)
 (h:b8 C f (.ptr 0 0::args) [ob] λr aa=>∃a,r= .ret (c a)/\aa=[S a]/\P a)(σ:List b9)(q:Nat)(hq:σ[q]?=some ob):b8 C f (.ptr q 0::args) σ λr aa=>∃a,r= .ret (c a)/\aa=σ.set q (S a)/\P a:=λM w vs hr hn hx=>by
 have gB:q<σ.length:=(n_3.1 hq).1;obtain⟨pq,hpq⟩:∃p,M.pl[q]?=some p:=⟨M.pl[q]'(by rw[hr.len];exact gB),Q⟩
 let LB:Nat->Prop:=λb=>∃(k:Nat) (p:Pl) (aG:b9),k≠q/\M.pl[k]?=some p/\σ[k]?=some aG/\aG.live=true/\p.block=b
 let M0:A5:={pl:=[pq],full:=M.full,cell:=M.cell,keep:=λb=>M.keep b\/LB b}
 have aV:∀b o,M.at b o->M0.at b o/\w.cell? ⟨b,o,none⟩=w.cell? ⟨b,o,none⟩:=λb o h=>⟨h,O⟩;have hLB:∀b,LB b->b<w.heap.size:=λb ⟨k,p,aG,_,hp,hs,hl,hb⟩=>hb▸(hr.obj k p aG hp hs).1.lt hl;have h0:∀{k:Nat} {p:Pl},M0.pl[k]?=some p->k=0/\p=pq:=λ{k p} hp=>by
  rcases k with _|k
  .exact ⟨O,(Option.some.inj hp).symm⟩
  .simp [M0]at hp
 have h0o:∀{k:Nat} {x:b9},[ob][k]?=some x->x=ob:=λ{k x} hx=>by
  rcases k with _|k
  .exact (Option.some.inj hx).symm
  .simp at hx
 have bE:Rel C M0 [ob] w:=⟨O,hr.blk,λk p x hp hs=>by
  obtain⟨rfl,rfl⟩:=h0 hp;obtain rfl:=h0o hs;exact hob.rel (M:=M) (M':=M0) (λb o h=>h) (λb h=>h) (λb o h=>h) (hr.obj q p x hpq hq),λk k' p p' x x' hp aN _ _ _ _ _=>by
  rw[(h0 hp).1,(h0 aN).1],λg cells hg=>⟨by
  have:=(hr.glob g cells hg).rv;cases this with
  |cptr vals h1 h2 h3=>exact .cptr vals h1 h2 λj c hj=>(h3 j c hj).pure aV (hC g cells hg c (n_2 hj)),(hr.glob g cells hg).full,(hr.glob g cells hg).sz⟩,
  λb hb=>(by
   rcases hb with hb|hb
   .exact hr.kep b hb
   .exact hLB b hb),λk p x hp hs hl hb=>by
  obtain⟨rfl,rfl⟩:=h0 hp;obtain rfl:=h0o hs
  rcases hb with hb|⟨k,p',aG,hk,aN,aI,bw,hb⟩
  .exact hr.nk q p x hpq hq hl hb
  .exact hk (hr.inj k q p' p aG x aN hpq aI hq bw hl hb)⟩
 refine(h M0 w vs bE (H hn) λi a hi=>?_).mono λe w' he=>?_
 .rcases i with _|i
  .simp at hi;subst hi;have:=hx 0 (.ptr q 0) Q;generalize vs.getD 0 undef=v0 at this⊢;cases this with
   |ptr hk=>
    rw[hpq]at hk;injection hk with hk
    subst hk;exact .ptr (M:=M0) (k:=0) O
  .simp at hi;exact(hx (i+1) a (H hi)).pure aV (aq a (n_2 hi))
 cases e with
 |panicked ch=>
  obtain⟨c',v,aa,M',_,_,_,_,⟨a,h5,_⟩⟩:=he;cases h5
 |outgrown=>exact he
 |returned v=>
  obtain⟨c',aa,M',h1,h2,h3,a,h4,rfl,hP⟩:=he;injection h4 with h4
  subst h4;have bf:M'.pl[0]?=some pq:=h1.get (M:=M0) O
  let M2:A5:={pl:=M.pl,full:=M'.full,cell:=M'.cell,keep:=M.keep}
  have aS:Ext M w M2 w':=⟨⟨[],by simp[M2]⟩,h1.full,h1.cell,h1.same,h1.sameC,h1.size,h1.drew,h1.os,h1.tape,h1.output,λb hb=>by
   obtain⟨k1,k2,k3,k4⟩:=h1.kept b (.inl hb);exact⟨hb,k2,k3,k4⟩⟩
  have hset:∀{k:Nat} {x:b9},(σ.set q (S a))[k]?=some x->(k=q/\x=S a)\/(k≠q/\σ[k]?=some x):=λ{k x} hk=>by
   rw[b09]at hk;split at hk
   .rename_i e;exact .inl ⟨e.symm,(Option.some.inj hk).symm⟩
   .rename_i e;exact .inr ⟨λh=>e h.symm,hk⟩
  have bU:∀{k:Nat} {x:b9},(σ.set q (S a))[k]?=some x->x.live=true->∃y,σ[k]?=some y/\y.live=true:=λ{k x} hk hl=>by
   rcases hset hk with⟨rfl,rfl⟩|⟨_,h⟩
   .exact ⟨ob,hq,cb⟩
   .exact ⟨x,h,hl⟩
  refine⟨c a,σ.set q (S a),M2,aS,⟨by simp[M2,hr.len],h2.blk,λk p x hp hs=>?_,λk k' p p' x x' hp aN hs aI hl bw hb=>?_,λg cells hg=>(hr.glob g cells hg).mono aS,λb hb=>a8M (hr.kep b hb) h1.size,λk p x hp hs hl=>?_⟩,h3.pure (M:=M') (M':=M2) (w':=w') (λb o h=>⟨h,O⟩) (hc a),⟨a,O,O,hP⟩⟩
  .rcases hset hs with⟨rfl,rfl⟩|⟨hk,hs⟩
   .have e:p=pq:=by
     have hp:M.pl[k]?=some p:=hp;rw[hpq]at hp;exact(Option.some.inj hp).symm
    subst e;exact(hS a).rel (M:=M') (M':=M2) (λb o h=>h) (λb h=>h) (λb o h=>h) (h2.obj 0 p (S a) bf O)
   .by_cases hl:x.live=true
    .obtain ⟨k1,k2,k3,k4⟩:=h1.kept p.block (.inr ⟨k,p,x,hk,hp,hs,hl,O⟩);obtain⟨g1,g2⟩:=hr.obj k p x hp hs;refine⟨g1.mono aS k2 (λ_ _ _ o ho=>k4 o ho),?_⟩;cases x with
     |dead=>trivial
     |tipT t0 n=>exact λhf=>g2 (k3 hf)
     |_=>exact⟨λhf=>g2.1 (k3 hf),λo ho=>g2.2 o (k4 o ho)⟩
    .cases x<;>first|exact⟨D,D⟩|simp[b9.live]at hl
  .obtain ⟨y,hy,fT⟩:=bU hs hl;obtain⟨y',hy',hyl'⟩:=bU aI bw;exact hr.inj k k' p p' y y' hp aN hy hy' fT hyl' hb
  .obtain ⟨y,hy,fT⟩:=bU hs hl;exact hr.nk k p y hp hy fT
theorem c5y{M0:A5}(hr:Rel C M σ w){len s:Nat}(hp:M.pl[k]?=some p)(au:σ[k]?=some (.vec s Y))(aR:off+len<=Y.length)(eh:∀r∈Y,∀c∈r,r9 c)
 (aV:∀b o,M.at b o->M0.at b o)(hfp:M0.full p.block){v:Value}(hv:RV M w (.vec k off len) v):RV M0 w (.list ((Y.drop off).take len) true none) v:=by
 cases hv with
 |vec aN g1 g2 g3=>
  rename_i p' a;rw[hp]at aN;injection aN with aN
  subst aN;obtain⟨⟨ba,q1,q2,q3,q4,ap,ty,q5,q6,q7⟩,_⟩:=hr.obj k p _ hp au;have am:((Y.drop off).take len).length=len:=by simp;omega
  have aw:∀i r,((Y.drop off).take len)[i]?=some r->i<len/\Y[off+i]?=some r:=λi r hi=>by
   rw[a2L]at hi;split at hi
   .rw [a5H]at hi;exact⟨‹_›,hi⟩
   .cases hi
  have fO:(Y.drop off).take len≠[]->off<p.cap:=λaB=>by
   have:0< ((Y.drop off).take len).length:=b2h.2 aB;omega
  refine RV.list' (L:=len) J (b:=p.block) (off:=off*p.size) (s:=p.size) (λi j=>ap.getD ((off+i)*p.size+j) undef) J J O (λh=>by cases h) (λaB=>by rw[g3 (fO aB)]) (λr bl=>?_) (λr bl c aM=>?_) (λi j r c hi hj=>?_) (λi j r c hi hj=>?_) (λk hk=>by cases hk)
  .obtain ⟨i,hi⟩:=M5.1 bl;exact q3 r (n_2 (aw i r hi).2)
  .obtain ⟨i,hi⟩:=M5.1 bl;exact q4 r (n_2 (aw i r hi).2) c aM
  .obtain ⟨bM,hri⟩:=aw i r hi;have cg:j<p.size:=by have:=(n_3.1 hj).1;rwa[q3 r (n_2 hri)]at this
   have hq:(off+i)*p.size+j<ap.size:=by
    rw[q6];have:(off+i+1)*p.size<=p.cap*p.size:=X3 _ J;rw[R6 (off+i)]at this;omega
   refine⟨.inl hfp,?_⟩;rw[show off*p.size+i*p.size+j=(off+i)*p.size+j from by rw[R6 off]];simp[World.cell?,q5,hq]
  .obtain ⟨bM,hri⟩:=aw i r hi;exact(q7 _ _ _ _ hri hj).pure (λb o h=>⟨aV b o h,O⟩) (eh r (n_2 hri) c (n_2 hj))
theorem b1W{len s:Nat}{v0:Value}(hC:C.plain)(aq:∀a∈args,r9 a)(eh:∀r∈Y,∀c∈r,r9 c)(aR:off+len<=Y.length)(hk:σ[k]?=some (.vec s Y))
 (h:b8 C f (.list ((Y.drop off).take len) true none::args) [] λr aa=>r= .ret (.val v0)/\aa=[]):b8 C f (.vec k off len::args) σ λr aa=>r= .ret (.val v0)/\aa=σ:=
 λM w vs hr hn hx=>by
  have bS:k<σ.length:=(n_3.1 hk).1;obtain⟨q,hq⟩:∃p,M.pl[k]?=some p:=⟨M.pl[k]'(by rw[hr.len];exact bS),Q⟩;obtain⟨hqo,hqf⟩:=hr.obj k q _ hq hk
  let LB:Nat->Prop:=λb=>∃(k:Nat) (p:Pl) (ob:b9),M.pl[k]?=some p/\σ[k]?=some ob/\ob.live=true/\p.block=b
  let M0:A5:={pl:=[],full:=λb=>M.full b\/b=q.block,cell:=M.cell,keep:=λb=>M.keep b\/LB b}
  have aV:∀b o,M.at b o->M0.at b o/\w.cell? ⟨b,o,none⟩=w.cell? ⟨b,o,none⟩:=λb o h=>⟨h.imp .inl id,O⟩;have hLB:∀b,LB b->b<w.heap.size:=λb ⟨k,p,ob,hp,hs,hl,hb⟩=>hb▸(hr.obj k p ob hp hs).1.lt hl;have bE:Rel C M0 [] w:=⟨O,λb o hb=>(by
   rcases hb with(hb|rfl)|hb
   .exact hr.blk b o (.inl hb)
   .exact hqo.lt O
   .exact hr.blk b o (.inr hb)),λk p ob hp=>by simp[M0]at hp,λk k' p p' ob aG hp=>by simp[M0]at hp,λg cells hg=>⟨by
   have:=(hr.glob g cells hg).rv;cases this with
   |cptr vals h1 h2 h3=>exact .cptr vals h1 (λj c hj=>⟨(aV _ _ (h2 j c hj).1).1,(h2 j c hj).2⟩) λj c hj=>(h3 j c hj).pure aV (hC g cells hg c (n_2 hj)),.inl (hr.glob g cells hg).full,(hr.glob g cells hg).sz⟩,
   λb hb=>(by
   rcases hb with hb|hb
   .exact hr.kep b hb
   .exact hLB b hb),λk p ob hp=>by simp[M0]at hp⟩
  refine(h M0 w vs bE hn λi a hi=>?_).mono λe w' he=>?_
  .rcases i with _|i
   .simp at hi;subst hi;exact c5y hr hq hk aR eh (λb o h=>(aV b o h).1) (.inr O) (hx 0 _ Q)
   .exact (hx (i+1) a (H hi)).pure aV (aq a (n_2 (H hi)))
  .cases e with
   |panicked ch=>
    obtain⟨c',v,aa,M',_,_,_,_,⟨h5,_⟩⟩:=he;cases h5
   |outgrown=>exact he
   |returned v=>
    obtain⟨c',aa,M',h1,h2,h3,⟨h4,rfl⟩⟩:=he;injection h4 with h4
    subst h4
    let M2:A5:={pl:=M.pl,full:=λb=>M'.full b/\b≠q.block,cell:=λb o=>M'.cell b o/\b≠q.block,keep:=M.keep}
    have aS:Ext M w M2 w':=⟨⟨[],by simp[M2]⟩,λb hb=>⟨h1.full b (.inl hb),λe=>hqf.1 (e▸hb)⟩,λb o hb=>(h1.cell b o hb).imp (λh=>⟨h,λe=>hqf.2 o (e▸hb)⟩) (λh=>⟨h,λe=>hqf.2 o (e▸hb)⟩),λb hb=>h1.same b (.inl hb),h1.sameC,h1.size,h1.drew,h1.os,h1.tape,h1.output,λb hb=>by
     obtain⟨k1,k2,k3,k4⟩:=h1.kept b (.inl hb);exact⟨hb,k2,λhf=>(k3 hf.1).elim id λe=>absurd e hf.2,λo ho=>k4 o ho.1⟩⟩
    refine⟨.val v0,σ,M2,aS,⟨hr.len,λb o hb=>h2.blk b o (hb.imp (·.1) (·.1)),λk p ob hp hs=>?_,hr.inj,λg cells hg=>(hr.glob g cells hg).mono aS,λb hb=>a8M (hr.kep b hb) h1.size,hr.nk⟩,by rw[p8 h3];exact .val _,O,O⟩;by_cases hl:ob.live=true
    .obtain ⟨k1,k2,k3,k4⟩:=h1.kept p.block (.inr ⟨k,p,ob,hp,hs,hl,O⟩);obtain⟨g1,g2⟩:=hr.obj k p ob hp hs;have k3':M2.full p.block->M.full p.block:=λhf=>(k3 hf.1).elim id λe=>absurd e hf.2;refine⟨g1.mono aS k2 (λ_ _ _ o ho=>k4 o ho.1),?_⟩;cases ob with
     |dead=>trivial
     |tipT t0 n=>exact λhf=>g2 (k3' hf)
     |_=>exact⟨λhf=>g2.1 (k3' hf),λo ho=>g2.2 o (k4 o ho.1)⟩
    .cases ob<;>first|exact⟨D,D⟩|simp[b9.live]at hl
section
end
section
theorem b3h{l:List Oper}{j t:Nat}{av b:Bool}(c0:CV)(hg:o.guard=some (j,av))(ht:(ae[j]?).bind (·.dst)=some t)(hv:E.ok t)(hb:E.f t= .val (.bool b))
 (hd:(match o.dst with|some d=>Nat.blt d n|none=>true)=true)(hy:b=av->D3 C σ E o λr aa=>match r with
  | .ret c=>G5 C n ae Ji l (E.put o.dst c (b=av)) aa
  | .pan c=>Ji (.pan c) E aa)(hn:¬b=av->G5 C n ae Ji l (E.put o.dst c0 (b=av)) σ):G5 C n ae Ji (o::l) E σ:=λM w a hr hf=>by
 have gL:(match o.dst with|some d=>d<n|none=>True):=by
  cases cp:o.dst with
  |none=>trivial
  |some d=>rw[cp]at hd;simpa[a94]using hd
 have h1:RV M w (E.f t) (a.tmps.getD t undef):=hf.rv t hv;rw[hb]at h1;have h2:a.tmps.getD t undef= .bool b:=by generalize a.tmps.getD t undef=u at h1;cases h1;rfl
 have aJ:t<a.tmps.size:=by
  rcases a4g t a.tmps.size with h'|h'
  .exact h'
  .simp [b48 h',undef]at h2
 have hw:Region.wanted o (yielded ae a.tmps)=(b == av):=by
  have h3:a.tmps[t]?=some (.bool b):=by
   rw[a0D,a2I aJ]at h2;rw[a2I aJ,<- h2];rfl
  have h4:yielded ae a.tmps j=some b:=by unfold yielded;rw[ht,n_7,h3]
  simp only[Region.wanted,hg,h4];cases b<;>cases av<;>rfl
 have cp:∀t,o.dst=some t->t<n:=λt ht=>by rw[ht]at gL;exact gL
 unfold wpList;by_cases cE:b=av
 .rw [W (by rw[hw];simpa using cE)];refine .inl (a3R (hy cE M w a.eval hr λx _ hx=>hf.eval hr hx) (λv w' ha=>?_) (λch w' ha=>?_))
  .obtain ⟨c',aa,M',h1,h2,h3,h4⟩:=ha;exact h4.later h1 h2 ((hf.mono h1).put cp (λ_=>h3) λhh=>absurd cE hh)
  .obtain ⟨c,v,aa,M',h0,h1,h2,h3,h4⟩:=ha;exact⟨E,aa,M',h1,h2,hf.mono h1,c,v,h0,h3,h4⟩
 .rw [G (by rw[hw];simpa using cE)];exact(hn cE).later (Ext.refl M w) hr (hf.put cp (λhh=>absurd hh cE) λ_=>O)
end
section
def Q8(C:Ctx)(ae:Array Oper)(qs:List Nat)(Ji:A8->Env->List b9->Prop)(S:List (List b9->Prop)):List (Nat×List Nat)->Env->List b9->Prop
 | [],E,σ=>Ji .normal E σ
 |(i,fl)::l,E,σ=>∃o,ae[i]?=some o/\((qs.contains i=true/\∃c g,(∀aa,J9 C aa ae o E c g)/\Q8 C ae qs Ji S l (E.put o.dst c g) σ)\/(qs.contains i=false/\(d7P C ae o E σ (λc g aa=>a1h S aa fl/\Q8 C ae qs Ji S l (E.put o.dst c g) aa) (λc aa=>∀E',Ji (.pan c) E' aa)\/c0Z C ae o E σ (λc g aa=>a1h S aa fl/\Q8 C ae qs Ji S l (E.put o.dst c g) aa) λc aa=>∀E',Ji (.pan c) E' aa)))
def tfB(ms hd fl:List Nat)(i:Nat):Bool:=(List.range hd.length).all λk=>(ms.getD i 0).testBit (hd.getD k 0) ||fl.contains k
theorem d4v{ms:List Nat}{fl:List Nat}{i:Nat}{σ:List b9}:∀{hd:List Nat} {S:List (List b9->Prop)} (k0:Nat) (S0:List (List b9->Prop)),k0=S0.length->(∀k,k<hd.length->(ms.getD i 0).testBit (hd.getD k 0)=true\/(k0+k)∈fl)->a1h (S0++S) σ fl->TF ms hd S i σ
 | [],_,_,_,_,_,_=>trivial
 |_::_,[],_,_,_,_,_=>trivial
 |x::hd,F::S,k0,S0,h0,hb,hf=>by
  refine⟨λhbit=>?_,d4v (k0+1) (S0++[F]) (by simp[h0]) (λk hk=>?_) (by rw[H4];exact hf)⟩
  .rcases hb 0 (Nat.zero_lt_succ _)with h|h
   .rw [List.getD_cons_zero,hbit]at h;cases h
   .have:=hf.get _ h;rw[h0]at this;simpa[a9A]using this
  .have:=hb (k+1) (Nat.succ_lt_succ hk);rw[show k0+1+k=k0+(k+1) by omega];simpa using this
def c0I(ae:Array Oper)(ms qs hd:List Nat)(Lf:Array Bool):List (Nat×List Nat)->Array Bool->Bool
 | [],_=>true
 |(i,fl)::l,L=>(match qs.contains i with
  |true=>b4f ae ms Lf L i
  |false=>(match Region.ready .any ae L with
   | [j]=>Nat.beq j i
   |_=>false)&&tfB ms hd fl i)&&c0I ae ms qs hd Lf l (L.setIfInBounds i true)
theorem b5n{Lf:Array Bool}{ms qs hd:List Nat}{S:List (List b9->Prop)}:∀{l:List (Nat×List Nat)} {L:Array Bool} {E:Env} {σ:List b9} {T:Nat->List b9->Prop},c0I ae ms qs hd Lf l L=true->a1k L (l.map Prod.fst)=Lf->(∀j aa,TF ms hd S j aa->T j aa)->Q8 C ae qs Ji S l E σ->CA C ae Ji Lf (λE σ=>Ji .normal E σ) T l.length L E σ
 | [],_,_,_,_,_,hL,_,h=>⟨hL,h⟩
 |(i,fl)::l,L,E,σ,T,hB,hL,hT,⟨o,ho,h⟩=>by
  rw[c0I,O5]at hB
  rcases h with⟨hq,c,g,h1,h2⟩|⟨hq,h⟩
  .rw [hq]at hB;exact c6R (λaa=>J9 C aa ae o E c g) hB.1 ho (λ_ h=>h) (h1 σ) (b5n hB.2 hL (λj aa h=>⟨hT j aa h,λ_=>h1 aa⟩) h2)
  .simp only[hq,O5]at hB;obtain⟨⟨b1,b2⟩,b3⟩:=hB;have hr:=a1F b1;have go:∀(E':Env) (aa:List b9),a1h S aa fl/\Q8 C ae qs Ji S l E' aa->T i aa/\CA C ae Ji Lf (λE σ=>Ji .normal E σ) T l.length (L.setIfInBounds i true) E' aa:=λE' aa ⟨h1,h2⟩=>by
    refine⟨hT i aa (d4v (fl:=fl) 0 [] O (λk hk=>?_) h1),b5n b3 hL hT h2⟩;unfold tfB at b2;have:=a2d.1 b2 k (List.mem_range.2 hk);rw[P2];simpa using this
   refine⟨by rw[hr];exact a9j _ _,λj hj=>?_⟩;rw[hr,a9t]at hj;subst hj;refine⟨o,ho,?_⟩
   rcases h with(⟨h1,h2⟩|⟨c,g,h1,h2⟩)|h
   .exact .inr (a2Q (λ_ _=>⟨O,O,O⟩) (λc g aa hh=>go _ _ hh) (.inl ⟨h1,h2⟩))
   .exact .inl ⟨c,g,h1,(go _ _ h2).2⟩
   .exact .inr (a2Q (λ_ _=>⟨O,O,O⟩) (λc g aa hh=>go _ _ hh) (.inr h))
def b1c(ae:Array Oper)(qs ms hd:List Nat)(tl:List (Nat×List Nat)):Bool:=
 Nat.beq (hd.length+tl.length) ae.size &&a8v ae ms (a1k (a1k (L0 ae) hd) (tl.map Prod.fst)) hd (L0 ae)&&c0I ae ms qs hd (a1k (a1k (L0 ae) hd) (tl.map Prod.fst)) tl (a1k (L0 ae) hd)&& (Region.ready .any ae (a1k (a1k (L0 ae) hd) (tl.map Prod.fst))).isEmpty
theorem b3N{a:Act}(qs:List Nat)(ms hd:List Nat){tl:List (Nat×List Nat)}(hB:b1c ae qs ms hd tl=true)(bX:(ae.toList.all λo=>match o.dst with|some d=>Nat.blt d n|none=>true)=true)
 (h:a0T C σ ae (λE' S=>Q8 C ae qs Ji S tl E' σ) hd E [])(hr:Rel C M σ w)(hf:H0 M w n E a):wpAny C.P .any ae (R0 C n Ji M w) ae.size (L0 ae) a {w with drawn:=w.drawn+1}:=by
 simp only[b1c,O5]at hB;obtain⟨⟨⟨h1,h2⟩,h3⟩,h4⟩:=hB;obtain⟨bl,hx⟩:=hr.drew;have:=b4v (f0:=0) (b4C bX) (λE σ M1 w1 a1 hB bv aQ dg=>⟨b6V.1 h4,E,σ,M1,bv,aQ,dg,hB⟩) (a65 (T:=λ_ _=>True) (f:=tl.length) h2 h λE' S' hk=>b5n h3 O (λj aa hh=>⟨D,hh⟩) hk) hx bl (hf.mono hx);rw[P2,show tl.length+hd.length=ae.size by have:=a2a h1;omega]at this;exact this
theorem b7q(qs ms hd:List Nat){tl:List (Nat×List Nat)}(hm:C.P.follows .mixedOrders=true)(hB:b1c ae qs ms hd tl=true)(bX:(ae.toList.all λo=>match o.dst with|some d=>Nat.blt d n|none=>true)=true)
 (h:a0T C σ ae (λE' S=>Q8 C ae qs Ji S tl E' σ) hd E []):CWp C n (.region id ae true) Ji E σ:=λM w a hr hf=>wp_region_any hm (b3N qs ms hd hB bX h hr hf)
theorem d_y(h:Yields C σ E o c)(k:K (.ret c) σ):D3 C σ E o K:=h.mono λ_ _ ⟨h1,h2⟩=>h1▸h2▸k
theorem c0Y(ms hd:List Nat){f:Nat}(hm:C.P.follows .mixedOrders=true)(hB:(Nat.beq (f+hd.length) ae.size &&a8v ae ms (Array.replicate ae.size true) hd (L0 ae)&& (Region.ready .any ae (Array.replicate ae.size true)).isEmpty)=true)(bX:(ae.toList.all λo=>match o.dst with|some d=>Nat.blt d n|none=>true)=true)
 (h:a0T C σ ae (λE' S=>CA C ae Ji (Array.replicate ae.size true) (λE σ=>Ji .normal E σ) (λj aa=>TF ms hd S j aa) f (a1k (L0 ae) hd) E' σ) hd E []):CWp C n (.region id ae true) Ji E σ:=λM w a hr hf=>wp_region_any hm (by
  simp only[O5]at hB;obtain⟨⟨h1,h2⟩,h3⟩:=hB;obtain⟨bl,hx⟩:=hr.drew;have:=b4v (f0:=0) (b4C bX) (λE σ M1 w1 a1 hB bv aQ dg=>⟨b6V.1 h3,E,σ,M1,bv,aQ,dg,hB⟩) (a65 (T:=λ_ _=>True) (f:=f) h2 h λE' S' hk=>a5p (λ_ _ h=>⟨D,h⟩) hk) hx bl (hf.mono hx);rw[P2,a2a h1]at this;exact this)
section
variable{Lf:Array Bool}{B:Env->List b9->Prop}{T:Nat->List b9->Prop}{f:Nat}{L:Array Bool}
theorem b1X{i:Nat}{o:Oper}(hr:(match Region.ready .any ae L with
 | [j]=>Nat.beq j i
 |_=>false)=true)(ho:ae[i]?=some o)(hg:o.guard=none)(h:D3 C σ E o λr aa=>match r with| .ret c=>T i aa/\CA C ae Ji Lf B T f (L.setIfInBounds i true) (E.put o.dst c True) aa| .pan c=>∀E',Ji (.pan c) E' aa):CA C ae Ji Lf B T (f+1) L E σ:=
 ⟨by rw[a1F hr];exact a9j _ _,λj hj=>by rw[a1F hr,a9t]at hj;subst hj;exact⟨o,ho,.inr (.inl ⟨hg,h⟩)⟩⟩
theorem d6R{i:Nat}{o:Oper}{c:CV}{g:Prop}(hr:(match Region.ready .any ae L with
 | [j]=>Nat.beq j i
 |_=>false)=true)(ho:ae[i]?=some o)(bn:J9 C σ ae o E c g)(h:CA C ae Ji Lf B T f (L.setIfInBounds i true) (E.put o.dst c g) σ):CA C ae Ji Lf B T (f+1) L E σ:=
 ⟨by rw[a1F hr];exact a9j _ _,λj hj=>by rw[a1F hr,a9t]at hj;subst hj;exact⟨o,ho,.inl ⟨c,g,bn,h⟩⟩⟩
theorem d1t{i i':Nat}{o o':Oper}(hr:(match Region.ready .any ae L with
 | [j,j']=>Nat.beq j i&&Nat.beq j' i'
 |_=>false)=true)(ho:ae[i]?=some o)(ho':ae[i']?=some o')(hg:o.guard=none)(hg':o'.guard=none)(h:D3 C σ E o λr aa=>match r with| .ret c=>T i aa/\CA C ae Ji Lf B T f (L.setIfInBounds i true) (E.put o.dst c True) aa| .pan c=>∀E',Ji (.pan c) E' aa)
 (h':D3 C σ E o' λr aa=>match r with| .ret c=>T i' aa/\CA C ae Ji Lf B T f (L.setIfInBounds i' true) (E.put o'.dst c True) aa| .pan c=>∀E',Ji (.pan c) E' aa):CA C ae Ji Lf B T (f+1) L E σ:=by
 have bl:Region.ready .any ae L=[i,i']:=by
  split at hr
  .rename_i j j' hj;rw[O5]at hr;rw[hj,a2a hr.1,a2a hr.2]
  .cases hr
 refine⟨by rw[bl];exact a9j _ _,λj hj=>?_⟩;rw[bl]at hj;simp only[J6,a5J,or_false]at hj
 rcases hj with rfl|rfl
 .exact ⟨o,ho,.inr (.inl ⟨hg,h⟩)⟩
 .exact ⟨o',ho',.inr (.inl ⟨hg',h'⟩)⟩
end
theorem a2s(h:Ji .normal E σ):Q8 C ae qs Ji S [] E σ:=h
theorem B9{l:List (Nat×List Nat)}(gB:qs.contains i=false)(ho:ae[i]?=some o)(hg:o.guard=none)(h:D3 C σ E o λr aa=>match r with| .ret c=>a1h S aa fl/\Q8 C ae qs Ji S l (E.put o.dst c True) aa| .pan c=>∀E',Ji (.pan c) E' aa):Q8 C ae qs Ji S ((i,fl)::l) E σ:=
 ⟨o,ho,.inr ⟨gB,.inl (.inl ⟨hg,h⟩)⟩⟩
theorem E8{l:List (Nat×List Nat)}{g:Prop}(gB:qs.contains i=false)(ho:ae[i]?=some o)(bn:J9 C σ ae o E c g)(h:a1h S σ fl/\Q8 C ae qs Ji S l (E.put o.dst c g) σ):Q8 C ae qs Ji S ((i,fl)::l) E σ:=
 ⟨o,ho,.inr ⟨gB,.inl (.inr ⟨c,g,bn,h⟩)⟩⟩
theorem b1f{l:List (Nat×List Nat)}{g:Prop}(gB:qs.contains i=true)(ho:ae[i]?=some o)(bn:∀aa,J9 C aa ae o E c g)(h:Q8 C ae qs Ji S l (E.put o.dst c g) σ):Q8 C ae qs Ji S ((i,fl)::l) E σ:=
 ⟨o,ho,.inl ⟨gB,c,g,bn,h⟩⟩
end
structure c1P{α:Type} [DecidableEq α](P:Program)(kt:TypeId)(kc:α->CV)(kv:α->Value):Prop where
 rv:∀M w a v,RV M w (kc a) v->v=kv a
 rv':∀M w a,RV M w (kc a) (kv a)
 check:∀b a w,(Instr.checkKey b 10000 kt (kv a)).run P w= .ok () w
 eq:∀a b w,(Op.equal kt (kv a) (kv b)).run P w= .ok (decide (a=b)) w
 now:∃d,(∀w,(underlying kt).run P w= .ok d w)/\∀a b,Instr.sameNow d (kv a) (kv b)=none
 bits:∀a,Instr.sameBits 10000 (kv a) (kv a)=true
section
variable [DecidableEq α]{kc:α->CV}{kv:α->Value}
end
section
variable [DecidableEq α]{kc:α->CV}{kv:α->Value}
end
abbrev I:=List UInt8
variable{l:I}
def str(l:I):ByteArray:=⟨l.toArray⟩
abbrev sv(l:I):CV:=.val (.string (str l))
theorem a4z(l:I):(str l).size=l.length:=by simp[str,ByteArray.size]
theorem U9(l:I):(str l).toList=l:=by
 rw[ByteArray.toList_eq];simp[str]
theorem b9J(a b:I):str a++str b=str (a++b):=by
 apply ByteArray.ext;simp[str]
theorem d2h(l:I)(i:Nat):(str l)[i]?=l[i]?:=by
 simp only[str,getElem?_def]
 split<;>rename_i h<;>split<;>rename_i h'<;>first|rfl|(exfalso;simp[ByteArray.size]at h h';omega)
theorem b5A(l:I)(a b:Nat):(str l).extract a b=str ((l.take b).drop a):=by
 apply ByteArray.ext;simp[str,List.drop_take]
section
theorem b9B(ho:o.op = .call {callee:=.builtin .len,args:=#[x],argTypes:=#[t]})(hx:E.valid x)(ex:E.val C x=sv l)(hu:∀w,(underlying t).run C.P w= .ok .string w):Yields C σ E o (.val (.int .i64 l.length)):=
 i8 λM w ρ _ h=>by
  have h1:=h x L4 hx;rw[ex]at h1;have h2:=p8 h1;refine⟨.int .i64 l.length,?_,.val _⟩;simp[execOp,ho,h2,resolve,invoke,builtin,Builtin.len_,hu,goInt,a4z]
theorem J8{ix:Operand}{i:Int}{k:IntKind}{b:UInt8}(ho:o.op = .index t x ix)(hx:E.valid x)(hi:E.valid ix)(ex:E.val C x=sv l)(ei:E.val C ix= .val (.int k i))(hu:∀w,(underlying t).run C.P w= .ok .string w)(h0:0<=i)(hb:l[i.toNat]?=some b):Yields C σ E o (.val (.int .u8 b.toNat)):=
 i8 λM w ρ _ h=>by
  have h1:=h x w8 hx;have h2:=h ix w8 hi;rw[ex]at h1;rw[ei]at h2;have dy:=p8 h1;have cI:=p8 h2;refine⟨.int .u8 b.toNat,?_,.val _⟩;simp[execOp,ho,dy,cI,Instr.index,hu,asIntOf,h0,d2h,hb]
theorem a1e{a b:I}(ho:o.op = .binOp .add t x y t')(hx:E.valid x)(hy:E.valid y)(ex:E.val C x=sv a)(ey:E.val C y=sv b)(hl:a.length+b.length<=9223372036854775807):Yields C σ E o (sv (a++b)):=
 i8 λM w ρ _ h=>by
  have h1:=h x w8 hx;have h2:=h y w8 hy;rw[ex]at h1;rw[ey]at h2;have dy:=p8 h1;have cI:=p8 h2;refine⟨.string (str (a++b)),?_,.val _⟩;simp[execOp,ho,dy,cI,eqGuard,binOp,Op.stringOp,b9J];rw[a4z,a4z];omega
theorem b4e(a b:I):(a == b)=decide (a=b):=by
 by_cases h:a=b<;>simp[h]
theorem a4O(a b:I):b0A .eql (str a) (str b)=some (decide (a=b)):=by simp[b0A,U9,b4e]
theorem a75(a b:I):b0A .neq (str a) (str b)=some (!decide (a=b)):=by simp[b0A,U9,b4e]
theorem b7E(a b:I):b0A .lss (str a) (str b)=some (Op.bytesLess a b):=by simp[b0A,U9]
theorem b5D(a b:I):b0A .leq (str a) (str b)=some (Op.bytesLess a b ||decide (a=b)):=by simp[b0A,U9,b4e]
theorem a1g{op:BinOp}{a b:I}{r:Bool}(ho:o.op = .binOp op t x y t')(hx:E.valid x)(hy:E.valid y)(ex:E.val C x=sv a)(ey:E.val C y=sv b)(hv:b0A op (str a) (str b)=some r):Yields C σ E o (.val (.bool r)):=
 c59 ho hx hy ex ey hv
end
def bcv(b:UInt8):List CV:=[.val (.int .u8 b.toNat)]
section
theorem I9{lo hi:Option Operand}{a h:Nat}(ho:o.op = .slice t x lo hi none)(hx:E.valid x)(ex:E.val C x=sv l)(hu:∀w,(underlying t).run C.P w= .ok .string w)(gc:a0I C E lo 0 a)(gA:a0I C E hi l.length h)(h1:a<=h)(h2:h<=l.length):Yields C σ E o (sv ((l.take h).drop a)):=
 i8 λM w ρ hr hh=>by
  have aC:=hh x w8 hx;rw[ex]at aC;have hv:=p8 aC;have ib:∀v,lo=some v->∃k i,ρ v= .int k i/\0<=i/\i.toNat=a:=λv hv=>by
   subst hv;obtain⟨bI,k,i,he,h0,hi⟩:=gc;have:=hh v w8 bI;rw[he]at this;exact⟨k,i,p8 this,h0,hi⟩
  have eZ:∀v,hi=some v->∃k i,ρ v= .int k i/\0<=i/\i.toNat=h:=λv hv=>by
   subst hv;obtain⟨bI,k,i,he,h0,hi⟩:=gA;have:=hh v w8 bI;rw[he]at this;exact⟨k,i,p8 this,h0,hi⟩
  have hb:(Instr.sliceBounds false l.length l.length (lo.map ρ) (hi.map ρ) none).run C.P w= .ok (a,h,l.length) w:=by
   have dv:(a:Int)<=h:=by omega
   have hh2:(h:Int)<=l.length:=by omega
   cases lo with
   |none=>
    have:a=0:=by simpa[a0I]using gc.symm
    subst this;cases hi with
    |none=>
     have:h=l.length:=by simpa[a0I]using gA.symm
     subst this;simp[Instr.sliceBounds]
    |some v=>
     obtain⟨k,i,he,h0,hi⟩:=eZ v O;have aR:i<=l.length:=by omega
     simp[Instr.sliceBounds,Instr.sliceBound,he,asIntOf,h0,aR,hi]
   |some u=>
    obtain⟨k,i,he,h0,hi0⟩:=ib u O;cases hi with
    |none=>
     have:h=l.length:=by simpa[a0I]using gA.symm
     subst this;have aR:i<=l.length:=by omega
     simp[Instr.sliceBounds,Instr.sliceBound,he,asIntOf,h0,aR,hi0]
    |some v=>
     obtain⟨k',i',fa,ic,bh⟩:=eZ v O;have aR:i<=h:=by omega
     have eF:i'<=l.length:=by omega
     simp[Instr.sliceBounds,Instr.sliceBound,he,fa,asIntOf,h0,ic,aR,eF,hi0,bh]
  refine⟨.string (str ((l.take h).drop a)),?_,.val _⟩;simp[execOp,ho,hv,Instr.sliceAt,Instr.slice,hu,a4z,hb,b5A]
theorem c0X{P:Program}{w:World}:∀(l:I) (acc:I),(forIn (m:=Sem) (l.map λb:UInt8=>Value.int .u8 (b.toNat:Int)) (str acc) λ(c:Value) (s:ByteArray)=>
 match c with
 | .int .u8 n=>(do pure (ForInStep.yield (s.push (UInt8.ofNat n.toNat))):Sem (ForInStep ByteArray))
 |_=>(do
  let _ ← (stuck "bytesToString: byte expected" :Sem PUnit)
  pure (ForInStep.yield s))).run P w= .ok (str (acc++l)) w
 | [],acc=>by simp
 |b::l,acc=>by
  have h:(str acc).push (UInt8.ofNat ((b.toNat:Int).toNat))=str (acc++[b]):=by
   apply ByteArray.ext;simp[str,ByteArray.push]
  rw[a8w,List.forIn_cons];simp only[Sem.run_bind,Sem.run_pure,Result.andThen_ok,h];rw[c0X l (acc++[b])];simp
theorem d8Z{nn:Bool}{tok:Option Nat}(ho:o.op = .convert src dst x)(hx:E.valid x)(ex:E.val C x= .list (l.map bcv) nn tok)(hs:∀w,(underlying src).run C.P w= .ok (.slice e) w)(hd:∀w,(underlying dst).run C.P w= .ok .string w)(he:∀w,(underlying e).run C.P w= .ok (.int .u8) w):Yields C σ E o (sv l):=
 i8 λM w ρ hr hh=>by
  have aC:=hh x w8 hx;rw[ex]at aC;obtain⟨a,cap,b,off,s',vals,hv,bx,bm,gN,eS,ha,cz,aO,hc,bg,_⟩:=aC.list_inv;refine⟨.string (str l),?_,.val _⟩;cases l with
  |nil=>
   cases a with
   |none=>simp[execOp,ho,hv,convert,hs,hd,he,Conv.bytesToString];rfl
   |some a=>simp[execOp,ho,hv,convert,hs,hd,he,Conv.bytesToString,loadCells,loadCellsFrom];rfl
  |cons y l=>
   have bR:=ha Q;have bu:s'=1:=by have:=cz (bcv y) Q;simpa[bcv]using this.symm
   subst bu;have aY:∀j,j< (y::l).length->w.cell? ⟨b,off+j,none⟩=some ((((y::l).map λb:UInt8=>Value.int .u8 (b.toNat:Int))[j]?).getD undef):=λj hj=>by
    have h1:((y::l).map bcv)[j]?=some (bcv ((y::l)[j]'hj)):=by rw[P8,a1C hj];rfl
    have h2:=hc j 0 (bcv ((y::l)[j]'hj)) (.val (.int .u8 (((y::l)[j]'hj).toNat:Int))) h1 O;have h3:=p8 (bg j 0 (bcv ((y::l)[j]'hj)) (.val (.int .u8 (((y::l)[j]'hj).toNat:Int))) h1 O);simp only[Nat.mul_one,b1q]at h2;rw[h2.2,h3,P8,a1C hj];rfl
   have hl:=Q3 (P:=C.P) _ _ aY;have aA:((List.range (y::l).length).map λj=>(((y::l).map λb:UInt8=>Value.int .u8 (b.toNat:Int))[j]?).getD undef)=(y::l).map λb:UInt8=>Value.int .u8 (b.toNat:Int):=by
    apply List.ext_getElem
    .simp
    .intro i h1 h2;simp at h1;simp[h1]
   have:=c0X (P:=C.P) (w:=w) (y::l) [];simp only[b4Y]at this;rw[bR]at hv;simp only[a02]at hv;simp only[execOp,ho,hv,convert,Sem.run_bind,hs,hd,he,Result.andThen_ok,Conv.bytesToString,hl,aA];simp only[List.forIn_toArray];have e0:(ByteArray.empty)=str []:=O;rw[e0];refine(D9 (λr=>(r.andThen λa w'=>Sem.run C.P (pure (Value.string a)) w').andThen λa w'=>Sem.run C.P (pure (Next.value a)) w') this).trans ?_;simp
end
theorem Rel.settleBlock(hr:Rel C M σ w){b:Nat}(hb:b<w.heap.size)(cJ:∀(k:Nat) (p:Pl) (ob:b9),M.pl[k]?=some p->σ[k]?=some ob->ob.live=true->p.block≠b)(hk:¬M.keep b):Ext M w (M.settle b) w/\Rel C (M.settle b) σ w:=by
 have hx:Ext M w (M.settle b) w:=⟨⟨[],by simp[A5.settle]⟩,λ_ h=>.inl h,λ_ _ h=>.inr h,λ_ _=>O,λ_ _ _=>O,n_6 _,R4,O,O,O,λb' h=>⟨h,O,λf=>(by
  rcases f with f|f
  .exact f
  .exact absurd (f▸h) hk),λ_ f=>f⟩⟩
 refine⟨hx,hr.len,λb' o ha=>?_,λk p x hp hs=>?_,hr.inj,λg cells hg=>(hr.glob g cells hg).mono hx,hr.kep,hr.nk⟩
 .rcases ha with(ha|ha)|ha
  .exact hr.blk b' o (.inl ha)
  .omega
  .exact hr.blk b' o (.inr ha)
 .obtain ⟨h1,h2⟩:=hr.obj k p x hp hs;by_cases hl:x.live=true
  .refine ⟨h1.mono hx O (λ_ _ _ _ h=>h),?_⟩;have hf:¬M.full p.block->¬(M.settle b).full p.block:=λh h'=>by
    rcases h' with h'|h'
    .exact h h'
    .exact cJ k p x hp hs hl h'
   cases x<;>first|trivial|exact hf h2|exact⟨hf h2.1,h2.2⟩
  .cases x<;>first|exact⟨D,D⟩|simp[b9.live]at hl
theorem b1z{a:Array α}{p:α->Bool}(h:∀x∈a,p x=true):a.filter p=a:=by
 apply Array.toList_inj.1;rw[Array.toList_filter];exact List.filter_eq_self.2 λx hx=>h x (H hx)
theorem a9s{a:Array α}{p:α->Bool}(h:∀x∈a,p x=false):a.filter p= #[]:=by
 apply Array.toList_inj.1;rw[Array.toList_filter];exact List.filter_eq_nil_iff.2 λx hx=>by rw[h x (H hx)];simp
theorem b3d{af:Array MapEntry}(ha:b0c af){seen:Array Nat}{e:MapEntry}(hi:(af.toList.filter λe=>!seen.contains e.born)[i]?=some e):
 (af.toList.filter λx=>!(seen.push e.born).contains x.born)=(af.toList.filter λe=>!seen.contains e.born).eraseIdx i:=by
 have gh:∀(i j:Nat) (e e':MapEntry),af.toList[i]?=some e->af.toList[j]?=some e'->e.born=e'.born->i=j:=λi j e e' h1 h2 h3=>ha i j e e' (H h1) (H h2) h3;have hc:∀x:MapEntry,(seen.push e.born).contains x.born=(seen.contains x.born ||x.born == e.born):=λx=>by
  rw[Array.contains_push]
 simp only[hc];generalize af.toList=l at hi gh;clear ha hc
 induction l generalizing i with
 |nil=>simp at hi
 |cons y l ih=>
  have hag':∀(i j:Nat) (e e':MapEntry),l[i]?=some e->l[j]?=some e'->e.born=e'.born->i=j:=λi j a b h1 h2 h3=>by
   have:=gh (i+1) (j+1) a b (H h1) (H h2) h3;omega
  by_cases hy:seen.contains y.born=true
  .have h1:(!seen.contains y.born)=false:=by rw[hy];rfl
   rw[b0I,G (by rw[h1];simp)]at hi;rw[b0I,G (by rw[hy];simp),b0I,G (by rw[h1];simp)];exact ih hi hag'
  .have hy':seen.contains y.born=false:=H hy;have h1:(!seen.contains y.born)=true:=by rw[hy'];rfl
   have e1:(List.filter (λe=>!seen.contains e.born) (y::l))=y::l.filter λe=>!seen.contains e.born:=by rw[b0I,W h1]
   rw[e1]at hi⊢
   rcases i with _|i
   .simp at hi;subst hi;rw[b0I,G Q];rw[List.eraseIdx_zero,List.tail_cons];refine List.filter_congr λx hx=>?_;have aB:x.born≠y.born:=λhe=>by
     obtain⟨j,hj⟩:=M5.1 hx;have:=gh (j+1) 0 x y (H hj) O he;omega
    simp[aB]
   .rw [c7K]at hi;have aB:y.born≠e.born:=λhe=>by
     have hm:=b1Y.1 (n_2 hi);obtain⟨j,hj⟩:=M5.1 hm.1;have:=gh 0 (j+1) y e O (H hj) he;omega
    rw[b0I,W (by rw[hy'];simp[aB]),List.eraseIdx_cons_succ,ih hi hag']
def H7(af:Array MapEntry)(seen:Array Nat):Array MapEntry:=af.filter λe=>!seen.contains e.born
theorem b5E(af:Array MapEntry)(seen:Array Nat):(H7 af seen).toList=af.toList.filter λe=>!seen.contains e.born:=Array.toList_filter ..
section
theorem b4b{es:List (CV×CV)}(ho:o.op = .range t x)(hx:E.valid x)(ex:E.val C x= .map k)(hu:∀w,(underlying t).run C.P w= .ok (.map kt et) w)(au:σ[k]?=some (.map es))(hK:K (.ret (.ptr σ.length 0)) (σ.set k .dead++[.iter [] es])):D3 C σ E o K:=λM w ρ hr h=>by
 have h1:=h x w8 hx;rw[ex]at h1;generalize hv:ρ x=v at h1;cases h1 with
 |map hp=>
  rename_i p;obtain⟨h1,h2⟩:=hr.obj k p _ hp au;have ah:=h1.lt O;obtain⟨af,ak,g1,g2,g3⟩:=h1;have hnk:=hr.nk k p _ hp au O;have eT:=hr.dead k;have aK:∀(i:Nat) (e:MapEntry),af[i]?=some e->e.born <ak:=λi e he=>by
   have ah:i<es.length:=by rw[<- g2.1];exact(a1N.1 he).1
   obtain⟨e',h1,_,_,h4⟩:=g3 i es[i] (by simp[ah]);rw[he]at h1;injection h1 with h1
   rw[h1];exact h4
  obtain⟨bv,aQ⟩:=eT.settleBlock ah (λk' p' aG aN aI bw hb=>by
   rw[b09]at aI;split at aI
   .split at aI
    .injection aI with aI;subst aI;cases bw
    .cases aI
   .rename_i aB;exact aB (hr.inj k k' p p' _ _ hp aN au aI O bw hb.symm)) hnk
  have ay:(execOp ρ o).run C.P w= .ok (.value (.pointer (some ⟨w.heap.size,0,none⟩))) (w.alloc (.mapIter (some p.block) ak #[] ak)):=by
   simp[execOp,ho,hv,Instr.range,hu,M7 g1]
  rw[ay];have aS:=Ext.alloc aQ ⟨w.heap.size,0,0⟩ (.mapIter (some p.block) ak #[] ak);have hk:=(eT.settleBlock ah (λk' p' aG aN aI bw hb=>by
   rw[b09]at aI;split at aI
   .split at aI
    .injection aI with aI;subst aI;cases bw
    .cases aI
   .rename_i aB;exact aB (hr.inj k k' p p' _ _ hp aN au aI O bw hb.symm)) hnk).2
  refine⟨.ptr σ.length 0,_,_,bv.trans aS,aQ.alloc ⟨w.heap.size,0,0⟩ _ (.iter [] es) O ⟨p.block,#[],ak,af,ak,A2 _ _,.inr O,?_,.inl O,g2.2,aK,?_,λi x hi=>?_,λi x hi=>by simp at hi⟩,RV.ptr (p:=⟨w.heap.size,0,0⟩) (by
   have hl:=aQ.len;simp at hl;simp[A5.add,<- hl]),hK⟩
  .rw [J4 w _ ah];exact g1
  .have:(af.toList.filter λe=>!(#[]:Array Nat).contains e.born)=af.toList:=List.filter_eq_self.2 λx _=>by simp
   rw[this];simpa using g2.1
  .have:(af.toList.filter λe=>!(#[]:Array Nat).contains e.born)=af.toList:=List.filter_eq_self.2 λx _=>by simp
   rw[this];obtain⟨e,f1,f2,f3,_⟩:=g3 i x hi;exact⟨e,H f1,(f2.mono bv).mono aS,(f3.mono bv).mono aS⟩
theorem b03{q:Question}(h:q.forced=false):(choose q).run P w= .ok (q.cut (w.tape w.drawn q)) w.drew:=by
 simp[choose,Sem.run,h]
theorem b83{it:Operand}{aF left:List (CV×CV)}(ho:o.op = .next it false)(hx:E.valid it)(ex:E.val C it= .ptr q 0)(au:σ[q]?=some (.iter aF left))(hz:left=[]->K (.ret (.tup [.val (.bool false)])) σ)
 (hs:∀(i:Nat) (x:CV×CV),left[i]?=some x->K (.ret (.tup [.val (.bool true),x.1,x.2])) (σ.set q (.iter [x] (left.eraseIdx i)))):D3 C σ E o K:=λM w ρ hr h=>by
 have h1:=h it w8 hx;rw[ex]at h1;generalize hv:ρ it=v at h1;cases h1 with
 |ptr hp=>
  rename_i p;obtain⟨h1,hf,hc⟩:=hr.obj q p _ hp au;have ah:=h1.lt O;obtain⟨mb,seen,bD,af,ak,g1,g2,g3,g4,g5,g6,g7,g8,_⟩:=h1;have bo:∀e∈af,e.born <ak:=λe he=>by
   obtain⟨i,hi⟩:=Array.mem_iff_getElem?.1 he;exact g6 i e hi
  have hA:=b5E af seen;have hmemA:∀e∈(H7 af seen),e.born <ak:=λe he=>bo e (Array.mem_filter.1 (show e∈af.filter λe=>!seen.contains e.born from he)).1;have bJ:((H7 af seen).filter λe=>decide (e.born <ak))=H7 af seen:=b1z λx hx=>by simpa using hmemA x hx
  have ci:((H7 af seen).filter λe=>decide (e.born>=ak))= #[]:=a9s λx hx=>by have:=hmemA x hx;simp;omega
  have cA:(!seen.isEmpty && !af.isEmpty &&af.all λe=>decide (e.born>=bD))=false:=by
   rcases g4 with rfl|rfl
   .simp
   .by_cases he:af.isEmpty=true
    .simp [he]
    .have:∃e,e∈af:=by
      have aJ:0<af.size:=by
       rcases b1C af.size with h|h
       .exact absurd (by simp[Array.isEmpty,h]) he
       .exact h
      exact⟨af[0],Array.getElem_mem aJ⟩
     obtain⟨e,he⟩:=this;have:(af.all λe=>decide (e.born>=bD))=false:=by
      rw[c1W];intro hh;rw[Array.all_eq_true_iff_forall_mem]at hh;have h1:=hh e he;have h2:=bo e he;simp at h1;omega
     rw[this];simp
  have dV:(getObj p.block).run C.P w= .ok (.mapIter (some mb) ak seen bD) w:=by simp[getObj,Sem.run,g1]
  have hrun0:(execOp ρ o).run C.P w=((choose (.mapNext ((if(H7 af seen).isEmpty then #[none]else #[])++((H7 af seen)++#[]).map some).size)).run C.P w).andThen λj w'=>
   ((match((if(H7 af seen).isEmpty then #[none]else #[])++((H7 af seen)++#[]).map some)[j]? with
    |some (some e)=>(do
     setObj p.block (.mapIter (some mb) ak (seen.push e.born) ak)
     pure (Next.value (.tuple #[.bool true,e.key,e.val])):Sem Next)
    |some none=>pure (Next.value (.tuple #[.bool false]))
    |none=>stuck "Next: no such candidate").run C.P w'):=by
   have hun:(af.filter λe=>!seen.contains e.born)=H7 af seen:=O;simp only[execOp,ho,hv,Instr.next,Sem.run_bind,dV,Result.andThen_ok,M7 g3,cA,hun,bJ,ci];simp only[b7N,if_false,Sem.run_bind,Sem.run_pure];cases fA:(choose (.mapNext ((if(H7 af seen).isEmpty then #[none]else #[])++((H7 af seen)++#[]).map some).size)).run C.P w with
   |halt x w'=>rfl
   |ok j w'=>
    simp only[Result.andThen_ok];generalize ((if(H7 af seen).isEmpty=true then #[none]else #[])++Array.map some (H7 af seen++#[]))[j]?=cand
    rcases cand with _|_|e
    .simp [stuck]
    .simp
    .simp only[Sem.run_bind];generalize (setObj p.block (Obj.mapIter (some mb) ak (seen.push e.born) ak)).run C.P w'=r;cases r<;>simp
  rw[hrun0];cases hL:(H7 af seen).toList with
  |nil=>
   have hempty:(H7 af seen)= #[]:=Array.toList_inj.1 hL;have dF:left=[]:=by
    rw[<- hA,hL]at g7;exact b9E g7.symm
   rw[hempty];have fA:(choose (.mapNext (((if(#[]:Array MapEntry).isEmpty then #[none]else #[])++((#[]:Array MapEntry)++#[]).map some).size))).run C.P w= .ok 0 w:=by
    simp[choose,Sem.run,Question.forced]
   rw[fA];have cT:((if(#[]:Array MapEntry).isEmpty=true then #[none]else #[])++Array.map some ((#[]:Array MapEntry)++#[]))[0]?=some none:=by simp
   simp only[Result.andThen_ok];rw[cT];show a05 C M w K (.tuple #[.bool false]) w;exact⟨.tup [.val (.bool false)],σ,M,Ext.refl M w,hr,.tup O (λi c hi=>by
    rcases i with _|i
    .simp at hi;subst hi;exact .val _
    .simp at hi),hz dF⟩
  |cons e0 r0=>
   have aB:(H7 af seen).isEmpty=false:=by
    rw[<- Array.isEmpty_toList,hL];rfl
   have aJ:(H7 af seen).size=(af.toList.filter λe=>!seen.contains e.born).length:=by rw[<- hA];simp
   rw[aB];simp only[b7N,if_false,Array.append_empty,Array.empty_append];have key:∀(j:Nat) (w':World) (M':A5),Ext M w M' w'->Rel C M' σ w'->M'.pl=M.pl->w'.heap=w.heap->j< (H7 af seen).size->b2d C.P (a05 C M w K) (S8 C M w K) ((match((H7 af seen).map some)[j]? with
    |some (some e)=>(do
     setObj p.block (.mapIter (some mb) ak (seen.push e.born) ak)
     pure (Next.value (.tuple #[.bool true,e.key,e.val])):Sem Next)
    |some none=>pure (Next.value (.tuple #[.bool false]))
    |none=>stuck "Next: no such candidate").run C.P w'):=by
    intro j w' M' aC bl bf gj hj;obtain⟨e,he⟩:∃e,(H7 af seen)[j]?=some e:=⟨_,a2I hj⟩;have fa:(af.toList.filter λe=>!seen.contains e.born)[j]?=some e:=by rw[<- hA];simpa using he
    have hm:((H7 af seen).map some)[j]?=some (some e):=by rw[c0q,he];rfl
    rw[hm];have hset:(setObj p.block (.mapIter (some mb) ak (seen.push e.born) ak)).run C.P w'= .ok () (World.putObj w' p.block (.mapIter (some mb) ak (seen.push e.born) ak)):=by
     simp[setObj,Sem.run,World.putObj,gj,g1]
    simp only[Sem.run_bind,hset,Result.andThen_ok,Sem.run_pure];have cg:j<left.length:=by rw[<- g7];exact(n_3.1 fa).1
    obtain⟨x,df⟩:∃x,left[j]?=some x:=⟨left[j],by simp[cg]⟩;obtain⟨e2,f1,f2,f3⟩:=g8 j x df;rw[fa]at f1;injection f1 with f1
    subst f1;have aN:M'.pl[q]?=some p:=by rw[bf];exact hp
    obtain⟨ob1,gz,aM⟩:=bl.obj q p _ aN au;have bt:p.block <w'.heap.size:=ob1.lt O;have aS:=Ext.putObj (w:=w') (.mapIter (some mb) ak (seen.push e.born) ak) (bl.nk q p _ aN au O) gz aM;have hne2:p.block≠mb:=λhb=>by
     rw[hb]at g1;rw[g1]at g3;cases g3
    have bq:=bl.putObj (ob:=.iter [x] (left.eraseIdx j)) aN au O gz aM (.mapIter (some mb) ak (seen.push e.born) ak) ⟨mb,seen.push e.born,ak,af,ak,World.putObj_same w' _ bt,aC.full _ g2,by rw[World.putObj_other w' _ hne2,gj];exact g3,.inr O,g5,g6,by
     rw[b3d g5 fa,List.length_eraseIdx,List.length_eraseIdx,g7],λi y hi=>by
     rw[b3d g5 fa];rw[List.getElem?_eraseIdx]at hi⊢;split at hi
     .rename_i hij;rw[W hij];obtain⟨e3,u1,u2,u3⟩:=g8 i y hi;exact⟨e3,u1,(u2.mono aC).mono aS,(u3.mono aC).mono aS⟩
     .rename_i hij;rw[G hij];obtain⟨e3,u1,u2,u3⟩:=g8 (i+1) y hi;exact⟨e3,u1,(u2.mono aC).mono aS,(u3.mono aC).mono aS⟩,λi y hi=>by
     rcases i with _|i
     .simp at hi;subst hi;obtain⟨j0,hj0⟩:=Array.mem_iff_getElem?.1 (Array.mem_filter.1 (show e∈af.filter λe=>!seen.contains e.born from b4J he)).1;exact⟨O,j0,e,hj0,Q,(f2.mono aC).mono aS,(f3.mono aC).mono aS⟩
     .simp at hi⟩
    refine⟨.tup [.val (.bool true),x.1,x.2],_,M',aC.trans aS,bq,.tup O (λi c hi=>?_),hs j x df⟩
    rcases i with _|_|_|i
    .simp at hi;subst hi;exact .val _
    .simp at hi;subst hi;exact(f2.mono aC).mono aS
    .simp at hi;subst hi;exact(f3.mono aC).mono aS
    .simp at hi
   have iw:0< (H7 af seen).size:=by rw[<- a9u,hL];simp
   have hszm:((H7 af seen).map some).size=(H7 af seen).size:=by simp
   rw[hszm];by_cases h1:(H7 af seen).size<=1
   .have fA:(choose (.mapNext (H7 af seen).size)).run C.P w= .ok 0 w:=by
     simp[choose,Sem.run,Question.forced,h1]
    rw[fA];exact key 0 w M (Ext.refl M w) hr O O iw
   .have fA:(choose (.mapNext (H7 af seen).size)).run C.P w= .ok ((Question.mapNext (H7 af seen).size).cut (w.tape w.drawn (.mapNext (H7 af seen).size))) w.drew:=b03 (by simp[Question.forced];omega);rw[fA];obtain⟨eT,ii⟩:=hr.drew;exact key _ w.drew M ii eT O O (a4L _ iw)
theorem b5l{it:Operand}{x:CV×CV}{left:List (CV×CV)}(ho:o.op = .entry it)(hx:E.valid it)(ex:E.val C it= .ptr q 0)(au:σ[q]?=some (.iter [x] left)):Yields C σ E o (.tup [x.1,x.2]):=
 i8 λM w ρ hr h=>by
  have h1:=h it w8 hx;rw[ex]at h1;generalize hv:ρ it=v at h1;cases h1 with
  |ptr hp=>
   rename_i p;obtain⟨mb,seen,bD,af,ak,g1,g2,g3,g4,g5,g6,g7,g8,g9⟩:=(hr.obj q p _ hp au).1;obtain⟨hl,j,e,f1,f2,f3,f4⟩:=g9 0 x O;have hfind:af.find? (λe'=>e'.born == e.born)=some e:=by
    rw[<- Array.find?_toList];have hj:af.toList[j]?=some e:=H f1;obtain⟨ah,hje⟩:=n_3.1 hj;rw[List.find?_eq_some_iff_getElem];refine⟨Q,j,ah,hje,λk hk=>?_⟩;have aB:af.toList[k].born≠e.born:=λhb=>by
     have:=g5 k j af.toList[k] e Q f1 hb;omega
    simpa using aB
   have dV:(getObj p.block).run C.P w= .ok (.mapIter (some mb) ak seen bD) w:=by simp[getObj,Sem.run,g1]
   refine⟨.tuple #[e.key,e.val],?_,.tup O λi c hi=>?_⟩
   .simp [execOp,ho,hv,Instr.entry,dV,f2,M7 g3,hl,hfind]
   .rcases i with _|_|i
    .simp at hi;subst hi;exact f3
    .simp at hi;subst hi;exact f4
    .simp at hi
end
structure R5{α:Type} [DecidableEq α](P:Program)(kt:TypeId)(kc:α->CV)(kv:α->Value):Prop where
 rv:∀M w a v,RV M w (kc a) v->v=kv a
 rv':∀M w a,RV M w (kc a) (kv a)
 check:∀b a w,(Instr.checkKey b 10000 kt (kv a)).run P w= .ok () w
 bits:∀a,Instr.sameBits 10000 (kv a) (kv a)=true
 none:∀(a:α) (l:List α) (af:List MapEntry),af.length=l.length->(∀(i:Nat) (x:α),l[i]?=some x->∃e,af[i]?=some e/\e.key=kv x)->a∉l->∀w,(Instr.findKey kt (kv a) af).run P w= .ok none w
 some:∀(a:α) (l:List α) (af:List MapEntry),af.length=l.length->(∀(i:Nat) (x:α),l[i]?=some x->∃e,af[i]?=some e/\e.key=kv x)->∀(i:Nat) (e:MapEntry),l[i]?=some a->(∀j,j<i->l[j]?≠some a)->af[i]?=some e->∀w,(Instr.findKey kt (kv a) af).run P w= .ok (some (i,e.val)) w
section
variable [DecidableEq α]{kc:α->CV}{kv:α->Value}
theorem a4T{d:TypeDesc}(hs:∀a b,Instr.sameNow d (kv a) (kv b)=some (decide (a=b)))(a:α):∀(l:List α) (af:List MapEntry) (n:Nat),af.length=l.length->(∀(i:Nat) (x:α),l[i]?=some x->∃e,af[i]?=some e/\e.key=kv x) ->
 (a∉l->Instr.findNow d (kv a) af n=some none)/\∀(i:Nat) (e:MapEntry),l[i]?=some a->(∀j,j<i->l[j]?≠some a)->af[i]?=some e->Instr.findNow d (kv a) af n=some (some (n+i,e.val))
 | [],[],n,_,_=>⟨λ_=>O,λi e h=>by simp at h⟩
 | [],_::_,_,h,_=>by simp at h
 |_::_,[],_,h,_=>by simp at h
 |x::l,e0::af,n,hl,hh=>by
  obtain⟨e',he,hk⟩:=hh 0 x O;simp at he;subst he;obtain⟨ih1,ih2⟩:=a4T hs a l af (n+1) (H hl) λi y hi=>hh (i+1) y (H hi);by_cases iy:a=x
  .subst iy;refine⟨λh=>absurd Q h,λi e hi eG he=>?_⟩
   rcases i with _|i
   .simp at he;subst he;simp[Instr.findNow,hk,hs]
   .exact absurd O (eG 0 J)
  .have step:Instr.findNow d (kv a) (e0::af) n=Instr.findNow d (kv a) af (n+1):=by simp[Instr.findNow,hk,hs,iy]
   refine⟨λh=>by rw[step];exact ih1 (λhm=>h (by simp[hm])),λi e hi eG he=>?_⟩
   rcases i with _|i
   .simp at hi;exact absurd hi.symm iy
   .rw [step,ih2 i e (H hi) (λj hj=>by simpa using eG (j+1) J) (H he)]
    congr 3;omega
theorem a9d{d:TypeDesc}(bg:∀M w a v,RV M w (kc a) v->v=kv a)(hrv':∀M w a,RV M w (kc a) (kv a))(hu:∀w,(underlying kt).run P w= .ok d w)(hs:∀a b,Instr.sameNow d (kv a) (kv b)=some (decide (a=b)))
 (hc:∀b a w,(Instr.checkKey b 10000 kt (kv a)).run P w= .ok () w)(hb:∀a,Instr.sameBits 10000 (kv a) (kv a)=true):R5 P kt kc kv where
 rv:=bg
 rv':=hrv'
 check:=hc
 bits:=hb
 none a l af h1 h2 h3 w:=by simp[Instr.findKey,hu,(a4T hs a l af 0 h1 h2).1 h3]
 some a l af h1 h2 i e h3 h4 h5 w:=by
  have:=(a4T hs a l af 0 h1 h2).2 i e h3 h4 h5;simp[Instr.findKey,hu,this]
theorem a4s(heq:∀a b w,(Op.equal kt (kv a) (kv b)).run P w= .ok (decide (a=b)) w)(a:α):∀(l:List α) (af:List MapEntry) (n:Nat),af.length=l.length->(∀(i:Nat) (x:α),l[i]?=some x->∃e,af[i]?=some e/\e.key=kv x) ->
 (a∉l->∀w,(Instr.findAsking kt (kv a) af n).run P w= .ok none w)/\∀(i:Nat) (e:MapEntry),l[i]?=some a->(∀j,j<i->l[j]?≠some a)->af[i]?=some e->∀w,(Instr.findAsking kt (kv a) af n).run P w= .ok (some (n+i,e.val)) w
 | [],[],n,_,_=>⟨λ_ w=>by simp[Instr.findAsking],λi e h=>by simp at h⟩
 | [],_::_,_,h,_=>by simp at h
 |_::_,[],_,h,_=>by simp at h
 |x::l,e0::af,n,hl,hh=>by
  obtain⟨e',he,hk⟩:=hh 0 x O;simp at he;subst he;obtain⟨ih1,ih2⟩:=a4s heq a l af (n+1) (H hl) λi y hi=>hh (i+1) y (H hi);by_cases iy:a=x
  .subst iy;refine⟨λh=>absurd Q h,λi e hi eG he w=>?_⟩
   rcases i with _|i
   .simp at he;subst he;simp[Instr.findAsking,hk,heq]
   .exact absurd O (eG 0 J)
  .have step:∀w,(Instr.findAsking kt (kv a) (e0::af) n).run P w=(Instr.findAsking kt (kv a) af (n+1)).run P w:=λw=>by simp[Instr.findAsking,hk,heq,iy]
   refine⟨λh w=>by rw[step];exact ih1 (λhm=>h (by simp[hm])) w,λi e hi eG he w=>?_⟩
   rcases i with _|i
   .simp at hi;exact absurd hi.symm iy
   .rw [step,ih2 i e (H hi) (λj hj=>by simpa using eG (j+1) J) (H he)]
    congr 3;omega
theorem c1P.find(hK:c1P P kt kc kv):R5 P kt kc kv where
 rv:=hK.rv
 rv':=hK.rv'
 check:=hK.check
 bits:=hK.bits
 none a l af h1 h2 h3 w:=by
  obtain⟨d,hd,hs⟩:=hK.now;cases af with
  |nil=>simp[Instr.findKey,hd,Instr.findNow]
  |cons e af=>
   cases l with
   |nil=>simp at h1
   |cons x l=>
    obtain⟨e',he,hk⟩:=h2 0 x O;simp at he;subst he;have hn:Instr.findNow d (kv a) (e::af) 0= .none:=by simp[Instr.findNow,hk,hs]
    simp[Instr.findKey,hd,hn,(a4s hK.eq a (x::l) (e::af) 0 h1 h2).1 h3]
 some a l af h1 h2 i e h3 h4 h5 w:=by
  obtain⟨d,hd,hs⟩:=hK.now;cases af with
  |nil=>simp at h5
  |cons e0 af=>
   cases l with
   |nil=>simp at h1
   |cons x l=>
    obtain⟨e',he,hk⟩:=h2 0 x O;simp at he;subst he;have hn:Instr.findNow d (kv a) (e0::af) 0= .none:=by simp[Instr.findNow,hk,hs]
    have:=(a4s hK.eq a (x::l) (e0::af) 0 h1 h2).2 i e h3 h4 h5 w;simp[Instr.findKey,hd,hn,this]
end
theorem c77(k:IntKind)(hu:∀w,(underlying kt).run P w= .ok (.int k) w):R5 (α:=Int) P kt (λa=>.val (.int k a)) (λa=>.int k a):=
 a9d (λ_ _ _ _ h=>p8 h) (λ_ _ _=>.val _) hu (λa b=>by simp[Instr.sameNow];rfl)
  (λb a w=>by
   have:∀n,(Instr.checkKey b (n+1) kt (.int k a)).run P w= .ok () w:=λn=>by simp[Instr.checkKey,hu]
   exact this 9999)
  (λa=>by
   have:∀n,Instr.sameBits (n+1) (.int k a) (.int k a)=true:=λn=>by simp[Instr.sameBits]
   exact this 9999)
theorem a9N(a b:I):(str a == str b)=decide (a=b):=by
 have h:(str a == str b)=((str a).data ==(str b).data):=O;rw[h];by_cases e:a=b
 .subst e;simp
 .have:¬(str a).data=(str b).data:=λh'=>e (by simpa[str]using h');simp[e,this]
theorem d8l(hu:∀w,(underlying kt).run P w= .ok .string w):R5 (α:=I) P kt sv (λa=>.string (str a)):=
 a9d (λ_ _ _ _ h=>p8 h) (λ_ _ _=>.val _) hu (λa b=>by
  simp only[Instr.sameNow];rw[a9N])
  (λb a w=>by
   have:∀n,(Instr.checkKey b (n+1) kt (.string (str a))).run P w= .ok () w:=λn=>by simp[Instr.checkKey,hu]
   exact this 9999)
  (λa=>by
   have:∀n,Instr.sameBits (n+1) (.string (str a)) (.string (str a))=true:=λn=>by simp[Instr.sameBits,a9N]
   exact this 9999)
def gm{α β:Type}(kc:α->CV)(vc:β->CV)(l:List (α×β)):List (CV×CV):=l.map λx=>(kc x.1,vc x.2)
def glk{α β:Type} [DecidableEq α]:List (α×β)->α->Option β
 | [],_=>none
 |(b,c)::l,a=>if a=b then some c else glk l a
def J5{α β:Type} [DecidableEq α]:List (α×β)->α->β->List (α×β)
 | [],a,c=>[(a,c)]
 |(b,d)::l,a,c=>if a=b then(b,c)::l else(b,d)::J5 l a c
theorem b4a [DecidableEq α](l:List (α×Int))(a:α):((glk l a).map λv:Int=>CV.val (.int .i64 v)).getD (H8 (.int .i64 0))= .val (.int .i64 ((glk l a).getD 0)):=by cases glk l a<;>rfl
theorem b5S [DecidableEq α]{l:List (α×β)}:glk l a=none↔a∉l.map (·.1):=by
 induction l with
 |nil=>simp[glk]
 |cons x l ih=>
  obtain⟨b,c⟩:=x;by_cases h:a=b
  .simp [glk,h]
  .simp [glk,h,ih]
theorem a7F{α β:Type} [DecidableEq α]:∀{l:List (α×β)} {a:α} {c:β},glk l a=some c->∃i:Nat,l[i]?=some (a,c)/\∀j,j<i->(l.map (·.1))[j]?≠some a
 | [],_,_,h=>by cases h
 |(b,d)::l,a,c,h=>by
  by_cases ck:a=b
  .rw [glk,W ck]at h;injection h with h
   subst h ck;exact⟨0,O,λj hj=>by omega⟩
  .rw [glk,G ck]at h;obtain⟨i,h1,h2⟩:=a7F h;refine⟨i+1,H h1,λj hj=>?_⟩
   rcases j with _|j
   .simpa using λe=>ck e.symm
   .simpa using h2 j J
theorem c4q [DecidableEq α]{l:List (α×β)}{c:β}(h:glk l a=none):J5 l a c=l++[(a,c)]:=by
 induction l with
 |nil=>rfl
 |cons x l ih=>
  obtain⟨b,d⟩:=x;by_cases ck:a=b
  .rw [glk,W ck]at h;cases h
  .rw [glk,G ck]at h;rw[J5,G ck,ih h];rfl
theorem b3n{α β:Type} [DecidableEq α]{c d:β}{a:α}:∀{l:List (α×β)} {i:Nat},l[i]?=some (a,d)->(∀j,j<i->(l.map (·.1))[j]?≠some a)->J5 l a c=l.set i (a,c)
 | [],i,h,_=>by simp at h
 |(b,e)::l,i,h,hm=>by
  rcases i with _|i
  .simp at h;rw[J5,W h.1.symm,h.1];rfl
  .have ck:¬a=b:=λe=>hm 0 J (by simp[e]);rw[J5,G ck,b3n (H h) (λj hj=>by simpa using hm (j+1) J)];rfl
theorem I8 [DecidableEq α](l:List (α×β))(a b:α)(c:β):glk (J5 l a c) b=if b=a then some c else glk l b:=by
 induction l with
 |nil=>rfl
 |cons x l ih=>
  obtain⟨k,d⟩:=x;by_cases hak:a=k
  .subst hak;rw[J5,W O,glk,glk];by_cases h:b=a<;>simp[h]
  .rw [J5,G hak,glk,glk,ih];by_cases h:b=k
   .subst h;rw[W O,W O,G (λe=>hak e.symm)]
   .rw [G h,G h]
section
variable [DecidableEq α]{kc:α->CV}{kv:α->Value}{vc:β->CV}
theorem c8s(hK:R5 C.P kt kc kv){l:List (α×β)}(h:R7 M w p (.map (gm kc vc l))):
 ∃af ak,w.heap[p.block]?=some (.map af ak)/\(af.size=l.length/\b0c af)/\(∀(i:Nat) (x:α),(l.map (·.1))[i]?=some x->∃e,af.toList[i]?=some e/\e.key=kv x)/\∀(i:Nat) (x:α×β),l[i]?=some x->∃e,af[i]?=some e/\e.key=kv x.1/\RV M w (vc x.2) e.val/\e.born <ak:=by
 obtain⟨af,ak,h1,h2,h3⟩:=h;have key:∀(i:Nat) (x:α×β),l[i]?=some x->∃e,af[i]?=some e/\e.key=kv x.1/\RV M w (vc x.2) e.val/\e.born <ak:=λi x hi=>by
  obtain⟨e,he,hk,hv,hb⟩:=h3 i (kc x.1,vc x.2) (by simp[gm,hi]);exact⟨e,he,hK.rv _ _ _ _ hk,hv,hb⟩
 refine⟨af,ak,h1,⟨by simpa[gm]using h2.1,h2.2⟩,λi x hi=>?_,key⟩;rw[P8,M6]at hi;obtain⟨y,hy,rfl⟩:=hi;obtain⟨e,he,hk,_⟩:=key i y hy;exact⟨e,H he,hk⟩
theorem a6M(hK:R5 C.P kt kc kv){l:List (α×β)}{ok:Bool}(h:R7 M w p (.map (gm kc vc l)))(hu:∀w,(underlying t).run C.P w= .ok (.map kt et) w)(hz:∀w,(zeroValue et).run C.P w= .ok z w):
 match glk l a with
 |none=>(Instr.lookup t (.map (some p.block)) (kv a) ok).run C.P w= .ok (if ok=true then .tuple #[z,.bool false]else z) w
 |some c=>∃v,RV M w (vc c) v/\(Instr.lookup t (.map (some p.block)) (kv a) ok).run C.P w= .ok (if ok=true then .tuple #[v,.bool true]else v) w:=by
 obtain⟨af,ak,g1,g2,g3,g4⟩:=c8s hK h;have am:af.toList.length=(l.map (·.1)).length:=H g2.1;cases fm:glk l a with
 |none=>
  have hf:=hK.none a (l.map (·.1)) af.toList am g3 (b5S.1 fm) w;cases ok<;>simp[Instr.lookup,hu,M7 g1,hK.check,hf,hz]
 |some c=>
  obtain⟨i,h1,h2⟩:=a7F fm;obtain⟨e,e1,_,e3,_⟩:=g4 i (a,c) h1;have hf:=hK.some a (l.map (·.1)) af.toList am g3 i e (by simp[h1]) h2 (H e1) w;exact⟨e.val,e3,by cases ok<;>simp[Instr.lookup,hu,M7 g1,hK.check,hf]⟩
theorem S4(hK:R5 C.P kt kc kv){l:List (α×β)}(ho:o.op = .lookup t m kx false)(hm:E.valid m)(hk:E.valid kx)(em:E.val C m= .map q)(ek:E.val C kx=kc a)
 (hu:∀w,(underlying t).run C.P w= .ok (.map kt et) w)(hz:∀w,(zeroValue et).run C.P w= .ok z w)(bV:K4 z=true)(au:σ[q]?=some (.map (gm kc vc l)))(hc:((glk l a).map vc).getD (H8 z)=c):Yields C σ E o c:=
 i8 λM w ρ hr h=>by
  have h1:=h m w8 hm;have h2:=h kx w8 hk;rw[em]at h1;rw[ek]at h2;have cI:=hK.rv _ _ _ _ h2;generalize hv:ρ m=v at h1;cases h1 with
  |map hp=>
   rename_i p;have hl:=a6M hK (t:=t) (a:=a) (ok:=false) (hr.obj q p _ hp au).1 hu hz;subst hc;cases fm:glk l a with
   |none=>
    rw[fm]at hl;exact⟨z,by simp[execOp,ho,hv,cI,hl],a0v bV⟩
   |some c=>
    rw[fm]at hl;obtain⟨u,f1,f2⟩:=hl;exact⟨u,by simp[execOp,ho,hv,cI,f2],f1⟩
theorem a6V(hK:R5 C.P kt kc kv){l:List (α×β)}(ho:o.op = .lookup t m kx true)(hm:E.valid m)(hk:E.valid kx)(em:E.val C m= .map q)(ek:E.val C kx=kc a)
 (hu:∀w,(underlying t).run C.P w= .ok (.map kt et) w)(hz:∀w,(zeroValue et).run C.P w= .ok z w)(bV:K4 z=true)(au:σ[q]?=some (.map (gm kc vc l)))(hc:((glk l a).map vc).getD (H8 z)=c):Yields C σ E o (.tup [c,.val (.bool (glk l a).isSome)]):=
 i8 λM w ρ hr h=>by
  have h1:=h m w8 hm;have h2:=h kx w8 hk;rw[em]at h1;rw[ek]at h2;have cI:=hK.rv _ _ _ _ h2;have tup:∀{c:CV} {v:Value} {b:Bool},RV M w c v->RV M w (.tup [c,.val (.bool b)]) (.tuple #[v,.bool b]):=λ{c v b} hcv=>.tup O λi x hi=>by
   rcases i with _|_|i
   .simp at hi;subst hi;exact hcv
   .simp at hi;subst hi;exact .val _
   .simp at hi
  generalize hv:ρ m=v at h1;cases h1 with
  |map hp=>
   rename_i p;have hl:=a6M hK (t:=t) (a:=a) (ok:=true) (hr.obj q p _ hp au).1 hu hz;subst hc;cases fm:glk l a with
   |none=>
    rw[fm]at hl;exact⟨.tuple #[z,.bool false],by simp[execOp,ho,hv,cI,hl],tup (a0v bV)⟩
   |some c=>
    rw[fm]at hl;obtain⟨u,f1,f2⟩:=hl;exact⟨.tuple #[u,.bool true],by simp[execOp,ho,hv,cI,f2],tup f1⟩
theorem b16(hK:R5 C.P kt kc kv){l:List (α×β)}{b:β}(hr:Rel C M σ w)(hp:M.pl[q]?=some p)(au:σ[q]?=some (.map (gm kc vc l)))(hv:RV M w (vc b) v)
 (hu:∀w,(underlying t).run C.P w= .ok (.map kt et) w):∃w',(Instr.mapUpdate t (.map (some p.block)) (kv a) v).run C.P w= .ok () w'/\Ext M w M w'/\Rel C M (σ.set q (.map (gm kc vc (J5 l a b)))) w':=by
 obtain⟨af,ak,g1,g2,g3,g4⟩:=c8s hK (hr.obj q p _ hp au).1;have am:af.toList.length=(l.map (·.1)).length:=H g2.1;have aK:∀(i:Nat) (e:MapEntry),af[i]?=some e->e.born <ak:=λi e he=>by
  have ah:i<l.length:=by rw[<- g2.1];exact(a1N.1 he).1
  obtain⟨e',h1,_,_,h4⟩:=g4 i l[i] (by simp[ah]);rw[he]at h1;injection h1 with h1
  rw[h1];exact h4
 cases fm:glk l a with
 |none=>
  have hf:=hK.none a (l.map (·.1)) af.toList am g3 (b5S.1 fm) w;refine⟨World.putObj w p.block (.map (af.push {key:=kv a,val:=v,born:=ak}) (ak+1)),by simp[Instr.mapUpdate,hu,M7 g1,hK.check,hf,a42 _ g1],?_⟩;rw[c4q fm];exact hr.setObj (es':=gm kc vc (l++[(a,b)])) hp au (by simp[gm,g2.1]) (g2.2.push aK O) (λi x hi=>by
   obtain⟨y,hy,rfl⟩:∃y,(l++[(a,b)])[i]?=some y/\(kc y.1,vc y.2)=x:=by unfold gm at hi;rwa[P8,M6]at hi
   rw[a6j]at hy;split at hy
   .obtain ⟨e,q1,q2,q3,q4⟩:=g4 i y hy;have ah:i<af.size:=(a1N.1 q1).1;exact⟨e,by rw[b78,G J];exact q1,by rw[q2];exact hK.rv' _ _ _,q3,J⟩
   .rename_i aH;have ah:=(n_3.1 hy).1;simp at ah;have hi0:i=l.length:=by omega
    subst hi0;simp at hy;subst hy;exact⟨_,by rw[b78,W J],hK.rv' _ _ _,hv,Q⟩)
 |some c=>
  obtain⟨i,h1,h2⟩:=a7F fm;obtain⟨e,e1,e2,e3,e4⟩:=g4 i (a,c) h1;have hf:=hK.some a (l.map (·.1)) af.toList am g3 i e (by simp[h1]) h2 (H e1) w;refine⟨World.putObj w p.block (.map (af.modify i λe=>{e with key:=kv a,val:=v}) ak),by simp[Instr.mapUpdate,hu,M7 g1,hK.check,hf,a42 _ g1,Instr.keyThatStays,e1,e2,hK.bits],?_⟩;rw[b3n h1 h2];exact hr.setObj (es':=gm kc vc (l.set i (a,b))) hp au (by simp[gm,g2.1]) (g2.2.modify λ_=>O) (λj x hj=>by
   obtain⟨y,hy,rfl⟩:∃y,(l.set i (a,b))[j]?=some y/\(kc y.1,vc y.2)=x:=by unfold gm at hj;rwa[P8,M6]at hj
   rw[b09]at hy;split at hy
   .rename_i hij;subst hij;split at hy
    .injection hy with hy
     subst hy;exact⟨{e with key:=kv a,val:=v},by rw[b8Y,W rfl,e1];rfl,hK.rv' _ _ _,hv,e4⟩
    .cases hy
   .rename_i hij;obtain⟨e',q1,q2,q3,q4⟩:=g4 j y hy;exact⟨e',by rw[b8Y,G hij];exact q1,by rw[q2];exact hK.rv' _ _ _,q3,q4⟩)
theorem j9(hK:R5 C.P kt kc kv){vx:Operand}{l:List (α×β)}{b:β}(ho:o.op = .mapUpdate t m kx vx\/o.op = .insert t m kx vx)(hm:E.valid m)(hk:E.valid kx)(hv:E.valid vx)(em:E.val C m= .map q)(ek:E.val C kx=kc a)(ev:E.val C vx=vc b)
 (hu:∀w,(underlying t).run C.P w= .ok (.map kt et) w)(au:σ[q]?=some (.map (gm kc vc l)))(hQ:K (.ret (.val undef)) (σ.set q (.map (gm kc vc (J5 l a b))))):D3 C σ E o K:=λM w ρ hr h=>by
 have hops:m∈o.op.operands/\kx∈o.op.operands/\vx∈o.op.operands:=by rcases ho with ho|ho<;>simp[ho,Op.operands]
 have h1:=h m hops.1 hm;have h2:=h kx hops.2.1 hk;have h3:=h vx hops.2.2 hv;rw[em]at h1;rw[ek]at h2;rw[ev]at h3;have cI:=hK.rv _ _ _ _ h2;generalize hum:ρ m=um at h1;cases h1 with
 |map hp=>
  rename_i p;obtain⟨w',ay,hx,bl⟩:=b16 hK (a:=a) (b:=b) hr hp au h3 hu;have dM:(execOp ρ o).run C.P w= .ok .skip w':=by
   rcases ho with ho|ho<;>simp[execOp,ho,hum,cI,ay]
  rw[dM];exact⟨.val undef,_,M,hx,bl,.val _,hQ⟩
end
theorem a6U(w:World)(ap:Array Value)(e:TypeId)(n:Nat):(w.alloc (.cells ap e)).freeze ⟨w.heap.size,n,none⟩ 1=w.alloc (.cells ap e (n,n+1)):=by
 unfold World.freeze World.alloc;rw[G J]
 congr 1
 apply Array.ext
 .simp
 .intro i h1 h2;simp at h1 h2;rw[Array.getElem_modify];by_cases hi:w.heap.size=i
  .subst hi;simp
  .rw [G hi];rw[Array.getElem_push_lt J,Array.getElem_push_lt J]
section
theorem d4Q(ho:o.op = .convert src dst x)(hx:E.valid x)(ex:E.val C x=sv l)(hs:∀w,(underlying src).run C.P w= .ok .string w)(hd:∀w,(underlying dst).run C.P w= .ok (.slice e) w)(he:∀w,(underlying e).run C.P w= .ok (.int .u8) w)(hl:l.length<=1000000000000):Yields C σ E o (.list (l.map bcv) true none):=λM w ρ hr h=>by
 have h1:=h x w8 hx;rw[ex]at h1;have hv:=p8 h1;obtain⟨eT,ii⟩:=hr.drew;obtain⟨c,di,dT,fA⟩:∃c,l.length<=c/\c<=9223372036854775807/\(choose (.appendCap l.length 0 e)).run C.P w= .ok c w.drew:=by
  refine⟨(Question.appendCap l.length 0 e).cut (w.tape w.drawn (.appendCap l.length 0 e)),by simp[Question.cut],?_,b03 O⟩;simp only[Question.cut];have:w.tape w.drawn (.appendCap l.length 0 e)%(2^63-l.length)<2^63-l.length:=a4L _ J;omega
 generalize hA:(((str l).data.map λb:UInt8=>Value.int .u8 (b.toNat:Int))++Array.replicate (c-l.length) (Value.int .u8 0))=A;have hAs:A.size=c:=by
  rw[<- hA];simp[str];omega
 have ay:(execOp ρ o).run C.P w= .ok (.value (.slice (some ⟨w.heap.size,0,none⟩) l.length c)) (w.drew.alloc (.cells A e (c,c+1))):=by
  have hsh:((w.drew.alloc (.cells A e)).shape? w.heap.size)=some (e,c):=by
   have:=A2 w.drew (.cells A e);simp only[World.shape?];rw[show w.heap.size=w.drew.heap.size from O,this];simp[hAs]
  have hm:(markStringish ⟨w.heap.size,0,none⟩).run C.P (w.drew.alloc (.cells A e))= .ok () (w.drew.alloc (.cells A e (c,c+1))):=by
   have:=a6U w.drew A e c;simp only[markStringish,shape,freeze,Sem.run_bind];simp only[Sem.run,hsh,Result.andThen_ok];rw[show w.heap.size=w.drew.heap.size from O,this]
  simp only[execOp,ho,hv,convert,Sem.run_bind,hs,hd,Result.andThen_ok,he,Conv.stringToBytes,a4z,fA,newRow,hA];simp only[newObj,Sem.run,Result.andThen_ok];rw[show(w.drew.heap.size)=w.heap.size from O];simp only[Sem.run_pure,Result.andThen_ok];have e0:({heap:=w.drew.heap.push (.cells A e),tape:=w.drew.tape,drawn:=w.drew.drawn,os:=w.drew.os,output:=w.drew.output}:World)=w.drew.alloc (.cells A e):=O;rw[e0,hm];simp only[Result.andThen_ok]
 rw[ay];obtain⟨aS,bq⟩:=eT.allocFull (.cells A e (c,c+1));have aw:∀(i:Nat) (b:UInt8),l[i]?=some b->A[i]?=some (.int .u8 b.toNat):=λi b hb=>by
  have ah:=(n_3.1 hb).1;rw[<- hA,b28 (by simp[str];exact ah)];simp[str,hb]
 have gk:RV (M.settle w.drew.heap.size) (w.drew.alloc (.cells A e (c,c+1))) (.list (l.map bcv) true none) (.slice (some ⟨w.drew.heap.size,0,none⟩) (l.map bcv).length c):=by
  refine .list (b:=w.drew.heap.size) (off:=0) (s:=1) (λi _=>A.getD i undef) (H di) (by unfold maxLen;omega) O (λh=>by cases h) W9 (λr hr=>?_) (λr hr c hc=>?_) (λi j r c' hi hj=>?_) (λi j r c' hi hj=>?_) (λk hk=>by cases hk)
  .obtain ⟨b,_,rfl⟩:=H9.1 hr;rfl
  .obtain ⟨b,_,rfl⟩:=H9.1 hr;simp[bcv]at hc;subst hc;rfl
  .rw [P8,M6]at hi;obtain⟨b,hb,rfl⟩:=hi;have hj0:j=0:=by
    have:=(n_3.1 hj).1;simp[bcv]at this;exact this
   subst hj0;refine⟨.inl (.inr O),?_⟩;simp only[World.cell?,A2];have:=aw i b hb;simp[this]
  .rw [P8,M6]at hi;obtain⟨b,hb,rfl⟩:=hi;have hj0:j=0:=by
    have:=(n_3.1 hj).1;simp[bcv]at this;exact this
   subst hj0;simp[bcv]at hj;subst hj;have:=aw i b hb;rw[a0D,this];exact .val _
 rw[a02]at gk;exact⟨_,σ,_,ii.trans aS,bq,gk,O,O⟩
theorem a28{f:Nat}{fs:Array Field}{fd:Field}(ho:o.op = .field t x f)(hx:E.valid x)(ex:E.val C x= .agg cells)(hu:∀w,(underlying t).run C.P w= .ok (.struct fs) w)(hf:fs[f]?=some fd)(ha:∀w,(isAgg fd.type).run C.P w= .ok false w)(hc:cells[fd.offset]?=some c):Yields C σ E o c:=
 i8 λM w ρ hr h=>by
  have h1:=h x w8 hx;rw[ex]at h1;generalize hv:ρ x=v at h1;cases h1 with
  |agg g1 g2 g3=>
   rename_i vs;have ah:fd.offset <vs.size:=by rw[g1];exact(n_3.1 hc).1
   refine⟨vs.getD fd.offset undef,?_,g3 _ _ hc⟩;simp[execOp,ho,hv,Instr.field,hu,hf,part,ha,asAgg,ah]
theorem b4A(ho:o.op = .panic x)(hx:E.valid x)(ex:E.val C x=c)(hn:∀M w v,RV M w c v->∃t u,v= .iface t u)(hk:K (.pan c) σ):D3 C σ E o K:=λM w ρ hr h=>by
 have h1:=h x w8 hx;rw[ex]at h1;obtain⟨t,u,hv⟩:=hn M w _ h1;have ay:(execOp ρ o).run C.P w= .halt (.panic (ρ x)) w:=by
  simp[execOp,ho,hv,Instr.panic]
 rw[ay];exact⟨c,ρ x,σ,M,O,Ext.refl M w,hr,h1,hk⟩
end
inductive P7(R:Nat->Nat->Prop):CV->CV->Prop where
 |val (v:Value):P7 R (.val v) (.val v)
 |agg {cs bi:List CV}:cs.length=bi.length->(∀(i:Nat) (c c':CV),cs[i]?=some c->bi[i]?=some c'->P7 R c c')->P7 R (.agg cs) (.agg bi)
 |tup {cs bi:List CV}:cs.length=bi.length->(∀(i:Nat) (c c':CV),cs[i]?=some c->bi[i]?=some c'->P7 R c c')->P7 R (.tup cs) (.tup bi)
 |clo {f:FuncId} {cs bi:List CV}:cs.length=bi.length->(∀(i:Nat) (c c':CV),cs[i]?=some c->bi[i]?=some c'->P7 R c c')->P7 R (.clo f cs) (.clo f bi)
 |list {Y ax:List (List CV)} {nn:Bool} {tok fQ:Option Nat}:Y.length=ax.length->(∀(i:Nat) (r r':List CV),Y[i]?=some r->ax[i]?=some r'->r.length=r'.length) ->
  (∀(i j:Nat) (r r':List CV) (c c':CV),Y[i]?=some r->ax[i]?=some r'->r[j]?=some c->r'[j]?=some c'->P7 R c c')->((tok=none/\fQ=none)\/∃k k',tok=some k/\fQ=some k'/\R k k')->P7 R (.list Y nn tok) (.list ax nn fQ)
 |ptr {k k' off:Nat}:R k k'->P7 R (.ptr k off) (.ptr k' off)
 |cptr {cells bP:List CV}:cells.length=bP.length->(∀(i:Nat) (c c':CV),cells[i]?=some c->bP[i]?=some c'->P7 R c c')->P7 R (.cptr cells) (.cptr bP)
 |eptr {k k' i off:Nat}:R k k'->P7 R (.eptr k i off) (.eptr k' i off)
 |vec {k k' off len:Nat}:R k k'->P7 R (.vec k off len) (.vec k' off len)
 |map {k k':Nat}:R k k'->P7 R (.map k) (.map k')
 |yld {k k':Nat}:R k k'->P7 R (.yld k) (.yld k')
theorem P7.one(h:P7 R c c'):c'.one=c.one:=by cases h<;>rfl
theorem P7.symm(hR:∀k k',R k k'->R' k' k)(h:P7 R c c'):P7 R' c' c:=by
 induction h with
 |val v=>exact .val v
 |agg h1 _ ih=>exact .agg h1.symm λi c c' h h'=>ih i c' c h' h
 |tup h1 _ ih=>exact .tup h1.symm λi c c' h h'=>ih i c' c h' h
 |clo h1 _ ih=>exact .clo h1.symm λi c c' h h'=>ih i c' c h' h
 |list h1 h2 _ h4 ih=>exact .list h1.symm (λi r r' h h'=>(h2 i r' r h' h).symm) (λi j r r' c c' a b d e=>ih i j r' r c' c b a e d) (h4.imp (λ⟨a,b⟩=>⟨b,a⟩) λ⟨k,k',a,b,d⟩=>⟨k',k,b,a,hR _ _ d⟩)
 |ptr h=>exact .ptr (hR _ _ h)
 |cptr h1 _ ih=>exact .cptr h1.symm λi c c' h h'=>ih i c' c h' h
 |eptr h=>exact .eptr (hR _ _ h)
 |vec h=>exact .vec (hR _ _ h)
 |map h=>exact .map (hR _ _ h)
 |yld h=>exact .yld (hR _ _ h)
theorem P7.pure(h:r9 c):P7 R c c:=by
 induction h with
 |val v=>exact .val v
 |agg _ ih=>
  refine .agg O λi c c' h h'=>?_;rw[h]at h';injection h' with h';subst h'
  exact ih c (n_2 h)
 |tup _ ih=>
  refine .tup O λi c c' h h'=>?_;rw[h]at h';injection h' with h';subst h'
  exact ih c (n_2 h)
 |clo _ ih=>
  refine .clo O λi c c' h h'=>?_;rw[h]at h';injection h' with h';subst h'
  exact ih c (n_2 h)
 |list _ ih=>
  refine .list O (λi r r' h h'=>?_) (λi j r r' c c' h h' g g'=>?_) (.inl ⟨O,O⟩)
  .rw [h]at h';injection h' with h';subst h';rfl
  .rw [h]at h';injection h' with h';subst h'
   rw[g]at g';injection g' with g';subst g'
   exact ih r (n_2 h) c (n_2 g)
theorem RV.renR{R:Nat->Nat->Prop}{M M':A5}{w:World}(hR:∀(k k':Nat) (p:Pl),R k k'->M.pl[k]?=some p->M'.pl[k']?=some p)(aV:∀b o,M.at b o->M'.at b o){c:CV}{v:Value}(h:RV M w c v):∀{c':CV},P7 R c c'->RV M' w c' v:=by
 induction h with
 |val v=>intro c' hr;cases hr;exact .val v
 |agg h1 h2 _ ih=>
  intro c' hr;cases hr with
  |agg e1 e2=>
   refine .agg (by rw[h1,e1]) (λc hc=>?_) λi c hi=>?_
   .obtain ⟨i,hi⟩:=M5.1 hc;obtain⟨y,hy⟩:=p9 e1 hi;rw[(e2 i y c hy hi).one];exact h2 y (n_2 hy)
   .obtain ⟨y,hy⟩:=p9 e1 hi;exact ih i y hy (e2 i y c hy hi)
 |tup h1 _ ih=>
  intro c' hr;cases hr with
  |tup e1 e2=>
   refine .tup (by rw[h1,e1]) λi c hi=>?_;obtain⟨y,hy⟩:=p9 e1 hi;exact ih i y hy (e2 i y c hy hi)
 |clo h1 _ ih=>
  intro c' hr;cases hr with
  |clo e1 e2=>
   refine .clo (by rw[h1,e1]) λi c hi=>?_;obtain⟨y,hy⟩:=p9 e1 hi;exact ih i y hy (e2 i y c hy hi)
 | @list Y nn tok a cap b off s vals h1 h2 h3 h4 h5 h6 h7 h8 _ bj ih=>
  intro c' hr;cases hr with
  | @list _ ax _ _ fQ e1 e2 e3 e4=>
   have aB:ax≠[]->Y≠[]:=λhn h0=>by
    rw[h0]at e1;exact hn (b9E e1.symm)
   have cq:∀{i:Nat} {r':List CV},ax[i]?=some r'->∃r,Y[i]?=some r:=λhi=>p9 e1 hi;rw[e1];refine .list (s:=s) vals (by rw[<- e1];exact h1) h2 h3 h4 (λhn=>h5 (aB hn)) (λr' bl=>?_) (λr' bl c' aM=>?_) (λi j r' c' hi hj=>?_) (λi j r' c' hi hj=>?_) (λk hk=>?_)
   .obtain ⟨i,hi⟩:=M5.1 bl;obtain⟨r,hr⟩:=cq hi;rw[<- e2 i r r' hr hi];exact h6 r (n_2 hr)
   .obtain ⟨i,hi⟩:=M5.1 bl;obtain⟨r,hr⟩:=cq hi;obtain⟨j,hj⟩:=M5.1 aM;obtain⟨c,hc⟩:=p9 (e2 i r r' hr hi) hj;rw[(e3 i j r r' c c' hr hi hc hj).one];exact h7 r (n_2 hr) c (n_2 hc)
   .obtain ⟨r,hr⟩:=cq hi;obtain⟨c,hc⟩:=p9 (e2 i r r' hr hi) hj;have:=h8 i j r c hr hc;exact⟨aV _ _ this.1,this.2⟩
   .obtain ⟨r,hr⟩:=cq hi;obtain⟨c,hc⟩:=p9 (e2 i r r' hr hi) hj;exact ih i j r c hr hc (e3 i j r r' c c' hr hi hc hj)
   .rcases e4 with⟨_,e4⟩|⟨k0,k1,e5,e6,e7⟩
    .rw [e4]at hk;cases hk
    .rw [e6]at hk;injection hk with hk
     subst hk;obtain⟨s',f1,f2,f3,f4⟩:=bj k0 e5;exact⟨s',hR _ _ _ e7 f1,f2,f3,λhn=>f4 (aB hn)⟩
 |ptr hk=>intro c' hr;cases hr with|ptr e=>exact .ptr (hR _ _ _ e hk)
 |cptr vals h1 h2 _ ih=>
  intro c' hr;cases hr with
  |cptr e1 e2=>
   refine .cptr vals (λc hc=>?_) (λj c hj=>?_) (λj c hj=>?_)
   .obtain ⟨i,hi⟩:=M5.1 hc;obtain⟨y,hy⟩:=p9 e1 hi;rw[(e2 i y c hy hi).one];exact h1 y (n_2 hy)
   .obtain ⟨y,hy⟩:=p9 e1 hj;exact⟨aV _ _ (h2 j y hy).1,(h2 j y hy).2⟩
   .obtain ⟨y,hy⟩:=p9 e1 hj;exact ih j y hy (e2 j y c hy hj)
 |eptr hk=>intro c' hr;cases hr with|eptr e=>exact .eptr (hR _ _ _ e hk)
 |vec hk h1 h2 h3=>intro c' hr;cases hr with|vec e=>exact .vec (hR _ _ _ e hk) h1 h2 h3
 |map hk=>intro c' hr;cases hr with|map e=>exact .map (hR _ _ _ e hk)
 |yld hk=>intro c' hr;cases hr with|yld e=>exact .yld (hR _ _ _ e hk)
def a14(R:Nat->Nat->Prop)(l l':List CV):Prop:=l.length=l'.length/\∀(i:Nat) (c c':CV),l[i]?=some c->l'[i]?=some c'->P7 R c c'
def c3F(R:Nat->Nat->Prop)(l l':List (CV×CV)):Prop:=l.length=l'.length/\∀(i:Nat) (x x':CV×CV),l[i]?=some x->l'[i]?=some x'->P7 R x.1 x'.1/\P7 R x.2 x'.2
inductive I5(R:Nat->Nat->Prop):b9->b9->Prop where
 |dead:I5 R .dead .dead
 |box {t0:Option TypeId} {l l':List CV}:a14 R l l'->I5 R (.boxT t0 l) (.boxT t0 l')
 |tip {t0:Option TypeId} (n:Nat):I5 R (.tipT t0 n) (.tipT t0 n)
 |vec {s:Nat} {Y ax:List (List CV)}:Y.length=ax.length->(∀(i:Nat) (r r':List CV),Y[i]?=some r->ax[i]?=some r'->a14 R r r')->I5 R (.vec s Y) (.vec s ax)
 |map {es es':List (CV×CV)}:c3F R es es'->I5 R (.map es) (.map es')
 |iter {c c' l l':List (CV×CV)}:c3F R c c'->c3F R l l'->I5 R (.iter c l) (.iter c' l')
 |blk (o:Obj):I5 R (.blk o) (.blk o)
 |lp {o:Loop} {n:Nat} {cs bi:List (Nat×CV)}:cs.map Prod.fst=bi.map Prod.fst->(∀(i:Nat) (x x':Nat×CV),cs[i]?=some x->bi[i]?=some x'->P7 R x.2 x'.2)->I5 R (.lp o n cs) (.lp o n bi)
theorem I5.live{a:b9}(h:I5 R a b):b.live=a.live:=by cases h<;>rfl
theorem I5.symm(hR:∀k k',R k k'->R' k' k){a:b9}(h:I5 R a b):I5 R' b a:=by
 have hl:∀{l l':List CV},a14 R l l'->a14 R' l' l:=λh=>⟨h.1.symm,λi c c' g g'=>(h.2 i c' c g' g).symm hR⟩;have he:∀{l l':List (CV×CV)},c3F R l l'->c3F R' l' l:=λh=>⟨h.1.symm,λi c c' g g'=>⟨(h.2 i c' c g' g).1.symm hR,(h.2 i c' c g' g).2.symm hR⟩⟩;cases h with
 |dead=>exact .dead
 |box h=>exact .box (hl h)
 |tip n=>exact .tip n
 |vec h1 h2=>exact .vec h1.symm λi r r' g g'=>hl (h2 i r' r g' g)
 |map h=>exact .map (he h)
 |iter h1 h2=>exact .iter (he h1) (he h2)
 |blk o=>exact .blk o
 |lp h1 h2=>exact .lp h1.symm λi x x' g g'=>(h2 i x' x g' g).symm hR
theorem R7.renR{M':A5}(hR:∀(k k':Nat) (p:Pl),R k k'->M.pl[k]?=some p->M'.pl[k']?=some p)(aV:∀b o,M.at b o->M'.at b o)(dW:∀b,M.full b->M'.full b)(dw:∀b o,M'.cell b o->M.cell b o){a:b9}(h:R7 M w p a)(hr:I5 R a b):R7 M' w p b:=by
 cases hr with
 |dead=>trivial
 |box hl=>
  obtain⟨ap,ty,e1,e2,e3,e4⟩:=h;refine⟨ap,ty,e1,by rw[e2,hl.1],λc hc=>?_,λi c hi=>?_⟩
  .obtain ⟨i,hi⟩:=M5.1 hc;obtain⟨y,hy⟩:=p9 hl.1 hi;rw[(hl.2 i y c hy hi).one];exact e3 y (n_2 hy)
  .obtain ⟨y,hy⟩:=p9 hl.1 hi;exact(e4 i y hy).renR hR aV (hl.2 i y c hy hi)
 |tip n=>
  obtain⟨e1,e2,e3,e4⟩:=h;exact⟨e1,e2,⟨λo ho=>e3.1 o (dw _ _ ho),e3.2⟩,e4⟩
 |vec h1 h2=>
  obtain⟨e0,e1,e2,e3,e4,ap,ty,e5,e6,e7⟩:=h;refine⟨e0,by rw[<- h1];exact e1,e2,λr hr=>?_,λr hr c hc=>?_,ap,ty,e5,e6,λi j r c hi hj=>?_⟩
  .obtain ⟨i,hi⟩:=M5.1 hr;obtain⟨y,hy⟩:=p9 h1 hi;rw[<- (h2 i y r hy hi).1];exact e3 y (n_2 hy)
  .obtain ⟨i,hi⟩:=M5.1 hr;obtain⟨y,hy⟩:=p9 h1 hi;obtain⟨j,hj⟩:=M5.1 hc;obtain⟨d,hd⟩:=p9 (h2 i y r hy hi).1 hj;rw[((h2 i y r hy hi).2 j d c hd hj).one];exact e4 y (n_2 hy) d (n_2 hd)
  .obtain ⟨y,hy⟩:=p9 h1 hi;obtain⟨d,hd⟩:=p9 (h2 i y r hy hi).1 hj;exact(e7 i j y d hy hd).renR hR aV ((h2 i y r hy hi).2 j d c hd hj)
 |map he=>
  obtain⟨af,ak,e1,e2,e3⟩:=h;refine⟨af,ak,e1,⟨by rw[e2.1,he.1],e2.2⟩,λi x hi=>?_⟩;obtain⟨y,hy⟩:=p9 he.1 hi;obtain⟨e,g1,g2,g3,g4⟩:=e3 i y hy;exact⟨e,g1,g2.renR hR aV (he.2 i y x hy hi).1,g3.renR hR aV (he.2 i y x hy hi).2,g4⟩
 |iter hc hl=>
  obtain⟨mb,seen,bD,af,ak,e1,e2,e3,e4,e5,e6,e7,e8,e9⟩:=h;refine⟨mb,seen,bD,af,ak,e1,dW _ e2,e3,e4,e5,e6,by rw[e7,hl.1],λi x hi=>?_,λi x hi=>?_⟩
  .obtain ⟨y,hy⟩:=p9 hl.1 hi;obtain⟨e,g1,g2,g3⟩:=e8 i y hy;exact⟨e,g1,g2.renR hR aV (hl.2 i y x hy hi).1,g3.renR hR aV (hl.2 i y x hy hi).2⟩
  .obtain ⟨y,hy⟩:=p9 hc.1 hi;obtain⟨hla,j,e,g0,g1,g2,g3⟩:=e9 i y hy;exact⟨hla,j,e,g0,g1,g2.renR hR aV (hc.2 i y x hy hi).1,g3.renR hR aV (hc.2 i y x hy hi).2⟩
 |blk o=>exact h
 |lp h1 h2=>
  obtain⟨tm,e1,e2,e3⟩:=h;refine⟨tm,e1,e2,λx hx=>?_⟩;obtain⟨i,hi⟩:=M5.1 hx;obtain⟨y,hy⟩:=p9 (by simpa using D9 List.length h1) hi;have hf:y.1=x.1:=by
   have:=D9 (·[i]?) h1;simp[hy,hi]at this;exact this
  rw[<- hf];exact(e3 y (n_2 hy)).renR hR aV (h2 i y x hy hi)
inductive a6h(R:Nat->Nat->Prop):N8->N8->Prop where
 |ret {c c':CV}:P7 R c c'->a6h R (.ret c) (.ret c')
 |pan {c c':CV}:P7 R c c'->a6h R (.pan c) (.pan c')
def a0w(ao:List Nat)(n:Nat)(i k:Nat):Prop:=ao[i]?=some k\/(ao.length<=i/\k=n+(i-ao.length))
theorem P0(ao:List Nat)(hC:C.plain)(am:ao.length=obs.length)(eU:∀(i j k:Nat),ao[i]?=some k->ao[j]?=some k->i=j)
 (cQ:∀(i k:Nat) (ob:b9),ao[i]?=some k->obs[i]?=some ob->∃aG,σ[k]?=some aG/\I5 (λk i=>ao[i]?=some k) aG ob)(aq:a14 (λk i=>ao[i]?=some k) args' args)
 {K:N8->List b9->Prop}{K':N8->List b9->Prop}(h:b8 C f args obs K)
 (hK:∀r τ,K r τ->obs.length<=τ.length/\∃r' fU,a6h (a0w ao σ.length) r r'/\fU.length=σ.length+(τ.length -obs.length)/\(∀k,k<σ.length->k∉ao->fU[k]?=σ[k]?)/\(∀(i k:Nat) (x:b9),a0w ao σ.length i k->τ[i]?=some x->∃x',fU[k]?=some x'/\I5 (a0w ao σ.length) x x')/\K' r' fU):
 b8 C f args' σ K':=λM w vs hr hn hx=>by
 have gp:∀{i k:Nat},ao[i]?=some k->∃p ob,M.pl[k]?=some p/\obs[i]?=some ob/\k<σ.length:=λ{i k} hi=>by
  have bM:i<obs.length:=by rw[<- am];exact(n_3.1 hi).1
  obtain⟨aG,h1,_⟩:=cQ i k obs[i] hi (by simp[bM]);have hk:k<σ.length:=(n_3.1 h1).1;exact⟨M.pl[k]'(by rw[hr.len];exact hk),obs[i],Q,by simp[bM],hk⟩
 let LB:Nat->Prop:=λb=>∃(k:Nat) (p:Pl) (aG:b9),k∉ao/\M.pl[k]?=some p/\σ[k]?=some aG/\aG.live=true/\p.block=b
 let M0:A5:={pl:=ao.map λk=>(M.pl[k]?).getD ⟨0,0,0⟩,full:=M.full,cell:=M.cell,keep:=λb=>M.keep b\/LB b}
 have hLB:∀b,LB b->b<w.heap.size:=λb ⟨k,p,aG,_,hp,hs,hl,hb⟩=>hb▸(hr.obj k p aG hp hs).1.lt hl;have h0:∀{i:Nat} {p:Pl},M0.pl[i]?=some p->∃k,ao[i]?=some k/\M.pl[k]?=some p:=λ{i p} hp=>by
  have hp:(ao.map λk=>(M.pl[k]?).getD ⟨0,0,0⟩)[i]?=some p:=hp;rw[P8,M6]at hp;obtain⟨k,hk,rfl⟩:=hp;obtain⟨p,_,g1,_,_⟩:=gp hk;exact⟨k,hk,by rw[g1];rfl⟩
 have ic:∀(k i:Nat) (p:Pl),ao[i]?=some k->M.pl[k]?=some p->M0.pl[i]?=some p:=λk i p hi hp=>by
  show(ao.map λk=>(M.pl[k]?).getD ⟨0,0,0⟩)[i]?=some p;rw[P8,hi,b2Z,hp];rfl
 have bE:Rel C M0 obs w:=⟨by simp[M0,am],hr.blk,λi p ob hp hs=>(by
  obtain⟨k,hk,eu⟩:=h0 hp;obtain⟨aG,g1,g2⟩:=cQ i k ob hk hs;obtain⟨q1,q2⟩:=hr.obj k p aG eu g1;refine⟨q1.renR (M':=M0) ic (λb o h=>h) (λb h=>h) (λb o h=>h) g2,?_⟩;cases g2<;>first|trivial|exact q2),λi i' p p' x x' hp aN hs aI hl bw hb=>(by
  obtain⟨k,hk,eu⟩:=h0 hp;obtain⟨k',aL,fV⟩:=h0 aN;obtain⟨y,g1,g2⟩:=cQ i k x hk hs;obtain⟨y',gQ,il⟩:=cQ i' k' x' aL aI;have:=hr.inj k k' p p' y y' eu fV g1 gQ (by rw[<- g2.live];exact hl) (by rw[<- il.live];exact bw) hb;subst this;exact eU i i' k hk aL),λg cells hg=>⟨(by
  have:=(hr.glob g cells hg).rv;exact RV.renR (M:=M) (R:=λ_ _=>False) (M':=M0) (λ_ _ _ h=>h.elim) (λb o h=>h) this (.cptr O λi c c' h h'=>(by
   rw[h]at h';injection h' with h';subst h'
   exact .pure (hC g cells hg c (n_2 h))))),(hr.glob g cells hg).full,(hr.glob g cells hg).sz⟩,
  λb hb=>(by
   rcases hb with hb|hb
   .exact hr.kep b hb
   .exact hLB b hb),λi p x hp hs hl hb=>(by
  obtain⟨k,hk,eu⟩:=h0 hp;obtain⟨y,g1,g2⟩:=cQ i k x hk hs;have fT:y.live=true:=by rw[<- g2.live];exact hl
  rcases hb with hb|⟨k',p',aG,aL,aN,aI,bw,hb⟩
  .exact hr.nk k p y eu g1 fT hb
  .have:=hr.inj k' k p' p aG y aN eu aI g1 bw fT hb;subst this;exact aL (n_2 hk))⟩
 have gq:∀(c:CV) (v:Value) (r:CV->N8) (hret:∀c c' R,a6h R (r c) c'->∃d,c'=r d/\P7 R c d) (τ:List b9) (M':A5) (w':World),Ext M0 w M' w'->Rel C M' τ w'->RV M' w' c v->K (r c) τ->∃c' fU M2,Ext M w M2 w'/\Rel C M2 fU w'/\RV M2 w' c' v/\K' (r c') fU:=by
  intro c v r hret τ M' w' h1 h2 h3 h4;obtain⟨aR,r',fU,e1,e2,e3,e4,e5⟩:=hK _ _ h4;obtain⟨c',rfl,hrc⟩:=hret _ _ _ e1;have hM0:∀(k i:Nat) (p:Pl),ao[i]?=some k->M.pl[k]?=some p->M'.pl[i]?=some p:=λk i p hi hp=>h1.get (ic k i p hi hp);have cL:M'.pl.length=τ.length:=h2.len
  let M2:A5:={pl:=M.pl++M'.pl.drop obs.length,full:=M'.full,cell:=M'.cell,keep:=M.keep}
  have hA:∀(i k:Nat) (p:Pl),a0w ao σ.length i k->M'.pl[i]?=some p->M2.pl[k]?=some p:=λi k p ha hp=>by
   rcases ha with ha|⟨ha,rfl⟩
   .obtain ⟨p0,_,g1,_,g3⟩:=gp ha;have:=hM0 k i p0 ha g1;rw[hp]at this;injection this with this
    subst this;show(M.pl++_)[k]?=_;rw[X1 (by rw[hr.len];exact g3)];exact g1
   .show (M.pl++M'.pl.drop obs.length)[σ.length+(i-ao.length)]?=_;rw[a3i (by rw[hr.len];omega),a5H,hr.len];rw[show obs.length+(σ.length+(i-ao.length) -σ.length)=i by omega];exact hp
  have hB:∀(k:Nat) (p:Pl) (x:b9),M2.pl[k]?=some p->fU[k]?=some x->(k<σ.length/\k∉ao/\M.pl[k]?=some p/\σ[k]?=some x)\/∃i y,a0w ao σ.length i k/\M'.pl[i]?=some p/\τ[i]?=some y/\I5 (a0w ao σ.length) y x:=λk p x hp hs=>by
   by_cases hk:k<σ.length
   .have aN:M.pl[k]?=some p:=by
     have hp:(M.pl++M'.pl.drop obs.length)[k]?=some p:=hp;rwa[X1 (by rw[hr.len];exact hk)]at hp
    by_cases bS:k∈ao
    .obtain ⟨i,hi⟩:=M5.1 bS;have bM:i<τ.length:=by
      have:=(n_3.1 hi).1;omega
     obtain⟨x',g1,g2⟩:=e4 i k τ[i] (.inl hi) (by simp[bM]);rw[hs]at g1;injection g1 with g1
     subst g1;exact .inr ⟨i,τ[i],.inl hi,hM0 k i p hi aN,by simp[bM],g2⟩
    .rw [e3 k hk bS]at hs;exact .inl ⟨hk,bS,aN,hs⟩
   .have fL:=(n_3.1 hs).1;rw[e2]at fL;have bM:obs.length+(k-σ.length)<τ.length:=by omega
    have ha:a0w ao σ.length (obs.length+(k-σ.length)) k:=.inr ⟨J,J⟩;obtain⟨x',g1,g2⟩:=e4 (obs.length+(k-σ.length)) k τ[obs.length+(k-σ.length)] ha (by simp[bM]);rw[hs]at g1;injection g1 with g1
    subst g1;have aN:M'.pl[obs.length+(k-σ.length)]?=some (M'.pl[obs.length+(k-σ.length)]'J):=by simp
    have:=hA _ _ _ ha aN;rw[hp]at this;injection this with this
    exact .inr ⟨_,_,ha,by rw[aN,this],by simp[bM],g2⟩
  have hAinj:∀(i i' k:Nat),a0w ao σ.length i k->a0w ao σ.length i' k->i=i':=λi i' k ha bR=>by
   rcases ha with ha|⟨ha,e⟩<;>rcases bR with bR|⟨bR,e'⟩
   .exact eU i i' k ha bR
   .have:=(gp ha).choose_spec.choose_spec.2.2;omega
   .have:=(gp bR).choose_spec.choose_spec.2.2;omega
   .omega
  have hAfun:∀(i k k':Nat),a0w ao σ.length i k->a0w ao σ.length i k'->k=k':=λi k k' ha bR=>by
   rcases ha with ha|⟨ha,e⟩<;>rcases bR with bR|⟨bR,e'⟩
   .rw [ha]at bR;exact Option.some.inj bR
   .have:=(n_3.1 ha).1;omega
   .have:=(n_3.1 bR).1;omega
   .omega
  have aS:Ext M w M2 w':=⟨⟨M'.pl.drop obs.length,O⟩,h1.full,h1.cell,h1.same,h1.sameC,h1.size,h1.drew,h1.os,h1.tape,h1.output,λb hb=>by
   obtain⟨k1,k2,k3,k4⟩:=h1.kept b (.inl hb);exact⟨hb,k2,k3,k4⟩⟩
  refine⟨c',fU,M2,aS,⟨by show(M.pl++M'.pl.drop obs.length).length=_;simp[hr.len,cL,e2],h2.blk,λk p x hp hs=>?_,λk k' p p' x x' hp aN hs aI hl bw hb=>?_,λg cells hg=>(hr.glob g cells hg).mono aS,λb hb=>a8M (hr.kep b hb) h1.size,λk p x hp hs hl hkp=>?_⟩,h3.renR (M':=M2) hA (λb o h=>h) hrc,e5⟩
  .rcases hB k p x hp hs with⟨hk,bS,aN,aI⟩|⟨i,y,ha,aN,aI,hro⟩
   .by_cases hl:x.live=true
    .obtain ⟨k1,k2,k3,k4⟩:=h1.kept p.block (.inr ⟨k,p,x,bS,aN,aI,hl,O⟩);obtain⟨g1,g2⟩:=hr.obj k p x aN aI;refine⟨g1.mono aS k2 (λ_ _ _ o ho=>k4 o ho),?_⟩;cases x with
     |dead=>trivial
     |tipT t0 n=>exact λhf=>g2 (k3 hf)
     |_=>exact⟨λhf=>g2.1 (k3 hf),λo ho=>g2.2 o (k4 o ho)⟩
    .cases x<;>first|exact⟨D,D⟩|simp[b9.live]at hl
   .obtain ⟨g1,g2⟩:=h2.obj i p y aN aI;refine⟨g1.renR (M':=M2) hA (λb o h=>h) (λb h=>h) (λb o h=>h) hro,?_⟩;cases hro<;>first|trivial|exact g2
  .have keep:∀{k:Nat} {p:Pl} {x:b9},k∉ao->M.pl[k]?=some p->σ[k]?=some x->x.live=true->M'.keep p.block:=λ{k p x} bS aN aI hl=>(h1.kept p.block (.inr ⟨k,p,x,bS,aN,aI,hl,O⟩)).1
   rcases hB k p x hp hs with⟨hk,bS,eu,hsk⟩|⟨i,y,ha,eu,hsk,hro⟩<;>rcases hB k' p' x' aN aI with⟨aL,hks',fV,iz⟩|⟨i',y',bR,fV,iz,hro'⟩
   .exact hr.inj k k' p p' x x' eu fV hsk iz hl bw hb
   .exact absurd (hb▸keep bS eu hsk hl) (h2.nk i' p' y' fV iz (by rw[<- hro'.live];exact bw))
   .exact absurd (hb▸keep hks' fV iz bw) (h2.nk i p y eu hsk (by rw[<- hro.live];exact hl))
   .have:=h2.inj i i' p p' y y' eu fV hsk iz (by rw[<- hro.live];exact hl) (by rw[<- hro'.live];exact bw) hb;subst this;exact hAfun i k k' ha bR
  .rcases hB k p x hp hs with⟨hk,bS,aN,aI⟩|⟨i,y,ha,aN,aI,hro⟩
   .exact hr.nk k p x aN aI hl hkp
   .exact h2.nk i p y aN aI (by rw[<- hro.live];exact hl) (h1.kept p.block (.inl hkp)).1
 have gF:vs.size=args.length:=by rw[hn,aq.1]
 refine(h M0 w vs bE gF λi a hi=>?_).mono λe w' he=>?_
 .obtain ⟨a',bR⟩:=p9 aq.1 hi;exact(hx i a' bR).renR (M':=M0) ic (λb o h=>h) (aq.2 i a' a bR hi)
 cases e with
 |panicked ch=>
  obtain⟨c,v,τ,M',fA,h1,h2,h3,h4⟩:=he;obtain⟨c',fU,M2,g1,g2,g3,g4⟩:=gq c v .pan (λc c' R h=>by cases h with|pan h=>exact⟨_,O,h⟩) τ M' w' h1 h2 h3 h4;exact⟨c',v,fU,M2,fA,g1,g2,g3,g4⟩
 |outgrown=>exact he
 |returned v=>
  obtain⟨c,τ,M',h1,h2,h3,h4⟩:=he;exact gq c v .ret (λc c' R h=>by cases h with|ret h=>exact⟨_,O,h⟩) τ M' w' h1 h2 h3 h4
def a2M:b9->Prop
 | .dead=>True
 | .boxT _ cells=>∀c∈cells,r9 c
 | .tipT _ _=>True
 | .vec _ Y=>∀r∈Y,∀c∈r,r9 c
 | .map es=>∀x∈es,r9 x.1/\r9 x.2
 | .iter c l=>(∀x∈c,r9 x.1/\r9 x.2)/\∀x∈l,r9 x.1/\r9 x.2
 | .blk _=>True
 | .lp _ _ cs=>∀x∈cs,r9 x.2
theorem L9{l:List CV}(h:∀c∈l,r9 c):a14 R l l:=⟨O,λi c c' g g'=>by
 rw[g]at g';injection g' with g';subst g'
 exact .pure (h c (n_2 g))⟩
theorem a8D{l:List (CV×CV)}(h:∀x∈l,r9 x.1/\r9 x.2):c3F R l l:=⟨O,λi c c' g g'=>by
 rw[g]at g';injection g' with g';subst g'
 exact⟨.pure (h c (n_2 g)).1,.pure (h c (n_2 g)).2⟩⟩
theorem a2M.ren(h:a2M ob):I5 R ob ob:=by
 cases ob with
 |dead=>exact .dead
 |boxT t0 cells=>exact .box (L9 h)
 |tipT t0 n=>exact .tip n
 |vec s Y=>
  refine .vec O λi r r' g g'=>?_;rw[g]at g';injection g' with g';subst g'
  exact L9 (h r (n_2 g))
 |map es=>exact .map (a8D h)
 |iter c l=>exact .iter (a8D h.1) (a8D h.2)
 |blk o=>exact .blk o
 |lp o n cs=>
  refine .lp O λi x x' g g'=>?_;rw[g]at g';injection g' with g';subst g'
  exact .pure (h x (n_2 g))
theorem a2M.old(h:a2M ob):G7 n ob:=by
 cases ob with
 |dead=>trivial
 |boxT t0 cells=>exact λc hc=>(h c hc).old
 |tipT t0 n=>trivial
 |blk o=>trivial
 |lp o n cs=>exact λx hx=>(h x hx).old
 |vec s Y=>exact λr hr c hc=>(h r hr c hc).old
 |map es=>exact λx hx=>⟨(h x hx).1.old,(h x hx).2.old⟩
 |iter c l=>exact⟨λx hx=>⟨(h.1 x hx).1.old,(h.1 x hx).2.old⟩,λx hx=>⟨(h.2 x hx).1.old,(h.2 x hx).2.old⟩⟩
def a2H:List Nat->List b9->List b9->List b9
 | [],_,σ=>σ
 |_::_,[],σ=>σ
 |k::ks,o::os,σ=>a2H ks os (σ.set k o)
theorem a5Y:∀(ks:List Nat) (os:List b9) (σ:List b9),(a2H ks os σ).length=σ.length
 | [],_,σ=>rfl
 |k::ks,[],σ=>rfl
 |k::ks,o::os,σ=>by rw[a2H,a5Y ks os];simp
theorem a3F:∀(ks:List Nat) (os:List b9) (σ:List b9) (k:Nat),k∉ks->(a2H ks os σ)[k]?=σ[k]?
 | [],_,σ,k,_=>rfl
 |_::ks,[],σ,k,_=>rfl
 |k'::ks,o::os,σ,k,h=>by
  rw[a2H,a3F ks os _ k λhm=>h (by simp[hm]),a5I λe=>h (by simp[e])]
theorem b1k:∀(ks:List Nat) (os:List b9) (σ:List b9) (i k:Nat),(∀(i j k:Nat),ks[i]?=some k->ks[j]?=some k->i=j)->ks.length=os.length->ks[i]?=some k->k<σ.length->(a2H ks os σ)[k]?=os[i]?
 | [],_,σ,i,k,_,_,h,_=>by simp at h
 |_::ks,[],σ,i,k,_,h,_,_=>by simp at h
 |k'::ks,o::os,σ,i,k,eU,hl,hi,hk=>by
  rw[a2H];have hnd':∀(i j k:Nat),ks[i]?=some k->ks[j]?=some k->i=j:=λi j k h1 h2=>by
   have:=eU (i+1) (j+1) k (H h1) (H h2);omega
  rcases i with _|i
  .simp at hi;subst hi;rw[a3F ks os _ k' λhm=>by
    obtain⟨j,hj⟩:=M5.1 hm;have:=eU 0 (j+1) k' O (H hj);omega]
   simp[hk]
  .rw [b1k ks os _ i k hnd' (H hl) (H hi) (H hk)];simp
theorem a0Z{res':α->N8}{S N:α->List b9}{P:α->Prop}(ao:List Nat)(hC:C.plain)(am:ao.length=obs.length)(eU:∀(i j k:Nat),ao[i]?=some k->ao[j]?=some k->i=j)
 (cQ:∀(i k:Nat),ao[i]?=some k->k<σ.length/\σ[k]?=obs[i]?)(hpo:∀ob∈obs,a2M ob)(aq:a14 (λk i=>ao[i]?=some k) args' args)
 (h:b8 C f args obs λr τ=>∃a,r=res a/\τ=S a++N a/\P a)(hS:∀a,P a->(S a).length=obs.length/\∀ob∈S a++N a,a2M ob)(dU:∀a,P a->a6h (a0w ao σ.length) (res a) (res' a)):
 b8 C f args' σ λr τ=>∃a,r=res' a/\τ=a2H ao (S a) σ++N a/\P a:=by
 refine P0 ao hC am eU (λi k ob hi ho=>?_) aq h λr τ hk=>?_
 .obtain ⟨_,h2⟩:=cQ i k hi;exact⟨ob,by rw[h2,ho],(hpo ob (n_2 ho)).ren⟩
 .obtain ⟨a,rfl,rfl,hp⟩:=hk;obtain⟨hl,hn⟩:=hS a hp;have ez:=a5Y ao (S a) σ;refine⟨by simp[hl],res' a,a2H ao (S a) σ++N a,dU a hp,by simp[ez,hl],λk hk bS=>?_,λi k x ha hx=>?_,a,O,O,hp⟩
  .rw [X1 (by rw[ez];exact hk),a3F ao (S a) σ k bS]
  .refine ⟨x,?_,(hn x (n_2 hx)).ren⟩
   rcases ha with ha|⟨ha,rfl⟩
   .have hk:=(cQ i k ha).1;have bM:i< (S a).length:=by rw[hl,<- am];exact(n_3.1 ha).1
    rw[X1 bM]at hx;rw[X1 (by rw[ez];exact hk),b1k ao (S a) σ i k eU (by rw[am,hl]) ha hk,hx]
   .rw [a3i J]at hx;rw[a3i (by rw[ez];omega),ez,<- hx]
    congr 1
    omega
theorem a14.nil:a14 R [] []:=⟨O,λi c c' h=>by simp at h⟩
theorem a14.cons{l l':List CV}(h:P7 R c c')(hl:a14 R l l'):a14 R (c::l) (c'::l'):=⟨D9 (· +1) hl.1,λi d d' g g'=>by
 rcases i with _|i
 .simp at g g';subst g g';exact h
 .exact hl.2 i d d' (H g) (H g')⟩
inductive a03(n:Nat)(τ:List b9):N8->N8->Prop where
 |ret {c c':CV}:Cls n τ c c'->a03 n τ (.ret c) (.ret c')
 |pan {c c':CV}:Cls n τ c c'->a03 n τ (.pan c) (.pan c')
theorem P4{S:α->List b9}{P:α->Prop}(hC:C.plain)
 (h:b8 C f args obs λr τ=>∃a,a03 (S a).length τ r (res a)/\a5T (S a).length τ τ (S a)/\obs.length<=(S a).length/\P a):b8 C f args obs λr τ=>∃a,r=res a/\τ=S a/\P a:=λM w vs hr hn hx=>(h M w vs hr hn hx).mono λe w' he=>by
 cases e with
 |returned v=>
  obtain⟨c',τ,M',h1,h2,h3,a,h4,h5,h6,h7⟩:=he;obtain⟨g1,g2,g3⟩:=h2.cutCls hC h5;generalize hra:res a=ra at h4;cases h4 with
  |ret h4=>exact⟨_,S a,_,g3 M w h1 (by rw[hr.len];exact h6),g1,RV.close h2 g2 (λk p s Y hk hp hs=>.inr ⟨k,p,_,hk,hp,hs,O,O⟩) h4 h3,a,hra.symm,O,h7⟩
 |panicked ch=>
  obtain⟨c',v,τ,M',h0,h1,h2,h3,a,h4,h5,h6,h7⟩:=he;obtain⟨g1,g2,g3⟩:=h2.cutCls hC h5;generalize hra:res a=ra at h4;cases h4 with
  |pan h4=>exact⟨_,v,S a,_,h0,g3 M w h1 (by rw[hr.len];exact h6),g1,RV.close h2 g2 (λk p s Y hk hp hs=>.inr ⟨k,p,_,hk,hp,hs,O,O⟩) h4 h3,a,hra.symm,O,h7⟩
 |outgrown=>exact he
theorem b0z(hC:C.plain)(hob:a2M ob)(hc:r9 c)(hq:σ[q]?=some ob)(aq:a14 (λk i=>[q][i]?=some k) args' args)
 (h:b8 C f args [ob] λr τ=>∃_:Unit,a03 [ob].length τ r (.ret c)/\a5T [ob].length τ τ [ob]/\[ob].length<=[ob].length/\True):b8 C f args' σ λr τ=>r= .ret c/\τ=σ:=by
 have hk:q<σ.length:=(n_3.1 hq).1;have h1:=P4 (res:=λ_=>.ret c) (S:=λ_=>[ob]) (P:=λ_=>True) hC h;have h2:=a0Z (σ:=σ) (args':=args') (res':=λ_:Unit=>.ret c) (N:=λ_=>[]) [q] hC O (λi j k h1 h2=>by
  have:=(n_3.1 h1).1;have:=(n_3.1 h2).1;simp at*;omega) (λi k hi=>by
  rcases i with _|i
  .simp at hi;subst hi;exact⟨hk,by rw[hq];rfl⟩
  .simp at hi) (λo ho=>by simp at ho;subst ho;exact hob) aq (h1.mono λr τ ⟨a,e1,e2,e3⟩=>⟨a,e1,by rw[e2,a1f],e3⟩) (λ_ _=>⟨O,λo ho=>by simp at ho;subst ho;exact hob⟩) (λ_ _=>.ret (.pure hc))
 refine h2.mono λr τ ⟨_,e1,e2,_⟩=>⟨e1,?_⟩;rw[e2,a1f];show σ.set q ob=σ;apply b2s;intro i;rw[b09]
 split
 .rename_i e;subst e;first|(rw[W hk,hq])|(rw[hq])
 .rfl
theorem a4m{P:Program}{f:FuncId}{fn:Func}{e:Array Value → Sem Value}{args:Array Value}{w:World}{v:Value}(hf:P.funcs[f]?=some fn)(fo:(fn.name == "runtime.NumGoroutine")=false)(hb:fn.body.isNone =true)(hn:Extern.findNext fn=none)(he:Extern.find fn=some e)(hr:(e args).run P w= .ok v w):
 (callFunc f args).run P w= .ok (.value v) w:=by
 simp only[callFunc,Sem.run_bind,run_program,Result.andThen_ok,hf,fo,hb,hn,he];simp[hr]
section
theorem b9Q{f:FuncId}{fn:Func}{e:Array Value → Sem Value}{ts:Array TypeId}{x y:Operand}{a b v:Value}(ho:o.op = .call {callee:=.value (.func f),args:= #[x,y],argTypes:=ts})(hf:C.P.funcs[f]?=some fn)(fo:(fn.name == "runtime.NumGoroutine")=false)(hb:fn.body.isNone =true)(hn:Extern.findNext fn=none)(he:Extern.find fn=some e)
 (hx:E.valid x)(hy:E.valid y)(ex:E.val C x= .val a)(ey:E.val C y= .val b)(hr:∀w,(e #[a,b]).run C.P w= .ok v w):Yields C σ E o (.val v):=
 i8 λM w ρ _ hh=>by
  have h1:=hh x L4 hx;have h2:=hh y L4 hy;have cr:=p8 (hh (.func f) L4 D);rw[ex]at h1;rw[ey]at h2;refine⟨v,?_,.val _⟩;have:=a4m (args:=#[a,b]) (w:=w) hf fo hb hn he (hr w);simp[execOp,ho,resolve,cr,p8 h1,p8 h2,Deferred.ofValue,invoke,this]
end
theorem c5C(s:I)(c:UInt8)(w:World):(Extern.BytealgCount.count #[.string (str s),.int .u8 c.toNat]).run P w= .ok (.int .i64 (s.count c:Nat)) w:=by
 have:=Go.Lib.run_countString (P:=P) (str s) (c.toNat:Int) w;rw[this];simp[Go.Lib.countByte,str]
theorem c48(s:I)(c:UInt8)(w:World):(Extern.BytealgIndexByte.indexByte #[.string (str s),.int .u8 c.toNat]).run P w= .ok (.int .i64 (Go.Lib.indexByte s c)) w:=by
 have:=Go.Lib.run_indexByteString (P:=P) (str s) (c.toNat:Int) w;rw[this];simp[str]
def d1l:N8->Prop
 | .ret c=>r9 c
 | .pan c=>r9 c
theorem I0{P:α->Prop}(hC:C.plain)(aq:∀c∈args,r9 c)
 (h:b8 C f args [] λr τ=>∃a,a03 0 τ r (res a)/\P a)(dU:∀a,P a->d1l (res a))(σ:List b9):b8 C f args σ λr τ=>∃a,r=res a/\τ=σ/\P a:=by
 have h1:b8 C f args [] λr τ=>∃a,r=res a/\τ=(λ_=>[]) a/\P a:=P4 (res:=res) (S:=λ_=>[]) (P:=P) hC (h.mono λr τ ⟨a,h2,h3⟩=>⟨a,h2,by cases τ<;>trivial,n_6 _,h3⟩);have h2:=a0Z (σ:=σ) (args':=args) (res':=res) (S:=λ_=>[]) (N:=λ_=>[]) (P:=P) [] hC O (λi j k h1=>by simp at h1) (λi k h1=>by simp at h1) (λo ho=>by simp at ho) (L9 aq)
  (h1.mono λr τ ⟨a,e1,e2,e3⟩=>⟨a,e1,by rw[e2];rfl,e3⟩) (λ_ _=>⟨O,λo ho=>by simp at ho⟩) (λa hp=>by
   have:=dU a hp;cases hr:res a with
   |ret c=>rw[hr]at this;exact .ret (.pure this)
   |pan c=>rw[hr]at this;exact .pan (.pure this))
 exact h2.mono λr τ ⟨a,e1,e2,e3⟩=>⟨a,e1,by rw[e2];simp[a2H],e3⟩
theorem a4V(h:b8 C f args (σ++[.dead]) K):b8 C f args σ K:=λM w vs hr hn hx=>by
 obtain⟨h1,h2⟩:=hr.addDead ⟨0,0,0⟩;refine(h _ w vs h1 hn λi c hi=>(hx i c hi).mono h2).mono λe w' he=>?_;cases e with
 |returned v=>
  obtain⟨c,τ,M',g1,g2,g3,g4⟩:=he;exact⟨c,τ,M',h2.trans g1,g2,g3,g4⟩
 |panicked ch=>
  obtain⟨c,v,τ,M',g0,g1,g2,g3,g4⟩:=he;exact⟨c,v,τ,M',g0,h2.trans g1,g2,g3,g4⟩
 |outgrown=>exact he
theorem b4j{c:Code}(h:CWp C n c Ji E (σ++[.dead])):CWp C n c Ji E σ:=λM w a hr hf=>by
 obtain⟨h1,h2⟩:=hr.addDead ⟨0,0,0⟩;exact wp_mono (h _ w a h1 (hf.mono h2)) λ_ _ _=>R0.later h2
inductive c9B(L:Nat)(ao:List Nat):N8->N8->Prop where
 |ret {c c':CV}:D5 L ao c c'->c9B L ao (.ret c) (.ret c')
 |pan {c c':CV}:D5 L ao c c'->c9B L ao (.pan c) (.pan c')
def F7(L:Nat)(τ:List b9)(r r':N8)(S:List b9):Prop:=∃ao,a7I L ao=true/\a0r ao=true/\c9B L ao r r'/\b3Z L ao τ ao S
theorem N3(hC:C.plain)(h:b8 C f args obs λr τ=>∃r' S,F7 obs.length τ r r' S/\K r' S):b8 C f args obs K:=λM w vs hr hn hx=>by
 refine(h M w vs hr hn hx).mono λe w' he=>?_;cases e with
 |returned v=>
  obtain⟨c,τ,M',g1,g2,g3,r',S,⟨ao,k1,k2,k3,k4⟩,k5⟩:=he;have hL:obs.length<=M'.pl.length:=by
   obtain⟨l,hl⟩:=g1.pl;rw[hl,<- hr.len];simp
  cases k3 with
  |ret k3=>exact⟨_,S,_,g1.ren k1 hr.len,g2.ren hC k1 k2 hL k4,RV.ren (a3q k1) hL g3 k3,k5⟩
 |panicked ch=>
  obtain⟨c,v,τ,M',g0,g1,g2,g3,r',S,⟨ao,k1,k2,k3,k4⟩,k5⟩:=he;have hL:obs.length<=M'.pl.length:=by
   obtain⟨l,hl⟩:=g1.pl;rw[hl,<- hr.len];simp
  cases k3 with
  |pan k3=>exact⟨_,v,S,_,g0,g1.ren k1 hr.len,g2.ren hC k1 k2 hL k4,RV.ren (a3q k1) hL g3 k3,k5⟩
 |outgrown=>exact he
section
theorem j5{c:α->CV}{S:α->List b9}{P:α->Prop}{c':β->CV}{S':β->List b9}{P':β->Prop}(ho:o.op = .call {callee:=.value (.func f),args:=xs,argTypes:=ts})(az:∀args w,(callFunc f args).run C.P w= .ok (.enter f args) w)
 (hv:E.valids xs.toList)(h:b8 C f cargs σ λr aa=>(∃a,r= .ret (c a)/\aa=S a/\P a)\/∃b,r= .pan (c' b)/\aa=S' b/\P' b)(ea:(E.vals C xs.toList).map CV.fgt=cargs)(hp:∀b,P' b->K (.pan (c' b)) (S' b))(hk:∀a,P a->K (.ret (c a)) (S a)):D3 C σ E o K:=
 b0R ho az (Env.valids_mem hv) (Env.vals_map _) ((Z9 (ea▸h)).mono λr aa hh=>by
  rcases hh with⟨a,rfl,rfl,hq⟩|⟨b,rfl,rfl,hq⟩
  .exact hk a hq
  .exact hp b hq)
theorem O6{c':β->CV}{S':β->List b9}{P':β->Prop}(ho:o.op = .call {callee:=.value (.func f),args:=xs,argTypes:=ts})(az:∀args w,(callFunc f args).run C.P w= .ok (.enter f args) w)
 (hv:E.valids xs.toList)(h:b8 C f cargs σ λr aa=>∃b,r= .pan (c' b)/\aa=S' b/\P' b)(ea:(E.vals C xs.toList).map CV.fgt=cargs)(hp:∀b,P' b->K (.pan (c' b)) (S' b)):D3 C σ E o K:=
 b0R ho az (Env.valids_mem hv) (Env.vals_map _) ((Z9 (ea▸h)).mono λr aa hh=>by
  obtain⟨b,rfl,rfl,hq⟩:=hh;exact hp b hq)
def a9E:TypeDesc->Bool
 | .interface _=>true
 |_=>false
theorem b04{u:TypeDesc}(h:∀w,(underlying t).run P w= .ok u w)(hu:a9E u=false)(v:Value)(w:World):(Instr.makeInterface t v).run P w= .ok (.iface t v) w:=by
 simp[Instr.makeInterface,go_sem];rw[h w];cases u<;>simp[a9E]at hu⊢
theorem b3R{xs:List Value}(ho:o.op = .makeInterface t x)(hx:E.valid x)(ex:E.val C x=plain xs)(hm:∀v w,(Instr.makeInterface t v).run C.P w= .ok (.iface t v) w):Yields C σ E o (.val (.iface t (.agg xs.toArray))):=
 i8 λM w ρ _ h=>by
  have h1:=h x w8 hx;rw[ex]at h1;have h2:=a06 h1;refine⟨_,?_,.val _⟩;simp only[execOp,ho];rw[<- h2];simp[hm]
end
section
theorem G8{l:List Oper}(aa:List b9)(h:σ=aa)(k:G5 C n ae Ji l E aa):G5 C n ae Ji l E σ:=h▸k
theorem a5e{c:Code}(aa:List b9)(h:σ=aa)(k:CWp C n c Ji E aa):CWp C n c Ji E σ:=h▸k
end
def addDs(ds:List Deferred)(a:Act):Act:={a with defers:=a.defers++ds}
theorem T2{ds:List Deferred}{a:Act}{d:Option Nat}:(addDs ds a).put d v=addDs ds (a.put d v):=by
 cases d<;>rfl
theorem a8Q{ds:List Deferred}{a:Act}{d:Deferred}{t:Option Nat}:({addDs ds a with defers:=d::(addDs ds a).defers}:Act).put t undef=addDs ds (({a with defers:=d::a.defers}:Act).put t undef):=by
 cases t<;>rfl
theorem c4H{Ji Q':Exit->Act->World->Prop}{ds:List Deferred}(hq:∀e a w,Ji e a w->Q' e (addDs ds a) w):∀(l:List Oper) (a:Act) (w:World),wpList P ae Ji l a w->wpList P ae Q' l (addDs ds a) w:=by
 have bp:LetsOut Ji->LetsOut Q':=λ⟨a0,w0,h⟩=>⟨_,w0,hq _ a0 w0 h⟩;intro l
 induction l with
 |nil=>exact λa w h=>hq _ _ _ h
 |cons o l ih=>
  intro a w h;unfold wpList at h⊢;change if Region.wanted o (yielded ae a.tmps)=true then _ else _
  split
  .rename_i hw;rw[W hw]at h;refine h.imp (λh=>?_) (λ⟨h1,h2⟩=>⟨h1,bp h2⟩);unfold Oper.wp at h⊢;change o.upon P (addDs ds a) _ _ ((execOp a.eval o).run P w);generalize (execOp a.eval o).run P w=r at h;cases r with
   |ok x w3=>
    cases x<;>simp only[Oper.upon]at h⊢
    case value v=>rw[T2];exact ih _ _ h
    case skip=>rw[T2];exact ih _ _ h
    case defer d=>rw[a8Q];exact ih _ _ h
    case enter f args=>
     refine h.mono λe w4 he=>?_;cases e with
     |returned v=>show wpList P ae Q' l ((addDs ds a).put o.dst v) w4;rw[T2];exact ih _ _ he
     |panicked ch=>exact hq _ _ _ he
     |outgrown=>exact bp he
    case row r args=>exact Rows.mono h λ_ _ he=>by rw[T2];exact ih _ _ he
   |halt x w3=>
    cases x<;>simp only[Oper.upon]at h⊢
    exact hq _ _ _ h
  .rename_i hw;rw[G hw]at h;rw[T2];exact ih _ _ h
def b5s(ds:List Deferred)(C:Ctx)(n:Nat)(Ji:A8->Env->List b9->Prop)(M:A5)(w:World)(e:Exit)(a':Act)(w':World):Prop:=∃a0,a'=addDs ds a0/\R0 C n Ji M w e a0 w'
def a44(ds:List Deferred)(C:Ctx)(n:Nat)(c:Code)(Ji:A8->Env->List b9->Prop)(E:Env)(σ:List b9):Prop:=
 ∀(M:A5) (w:World) (a:Act),Rel C M σ w->H0 M w n E a->c.wp C.P (b5s ds C n Ji M w) (addDs ds a) w
section
variable{ds:List Deferred}
theorem b5s.later{M1:A5}{w1:World}(he:Ext M w M1 w1){e:Exit}{a:Act}{w':World}(hl:b5s ds C n Ji M1 w1 e a w'):b5s ds C n Ji M w e a w':=by
 obtain⟨a0,h0,h⟩:=hl;exact⟨a0,h0,R0.later he h⟩
theorem b9f(h:G5 C n ae Ji ae.toList E σ):a44 ds C n (.region id ae false) Ji E σ:=
 λM w a hr hf=>wp_region_list (c4H (λ_ a0 _ h=>⟨a0,O,h⟩) _ _ _ (h M w a hr hf))
theorem a5E(h:Ji .ret E σ):a44 ds C n .ret Ji E σ:=λM w a hr hf=>wp_ret ⟨a,O,E,σ,M,Ext.refl M w,hr,hf,h⟩
theorem b7S(h:Ji .normal E σ):a44 ds C n .skip Ji E σ:=λM w a hr hf=>wp_skip ⟨a,O,E,σ,M,Ext.refl M w,hr,hf,h⟩
theorem a9M{x y:Code}(h:a44 ds C n x (A8.next (a44 ds C n y Ji) Ji) E σ):a44 ds C n (.seq x y) Ji E σ:=λM w a hr hf=>by
 refine wp_seq (wp_mono (h M w a hr hf) λe a' w' hl=>?_);obtain⟨a0,rfl,E',aa,M',h1,h2,h3,h4⟩:=hl;cases e with
 |normal=>exact wp_mono (h4 M' w' a0 h2 h3) λ_ _ _=>b5s.later h1
 |_=>exact⟨a0,O,E',aa,M',h1,h2,h3,h4⟩
theorem b1n{c:Operand}{x y:Code}{b:Bool}(hv:E.valid c)(hc:E.val C c= .val (.bool b))(ht:b=true->a44 ds C n x Ji E σ)(gz:b=false->a44 ds C n y Ji E σ):a44 ds C n (.cond c x y) Ji E σ:=λM w a hr hf=>by
 have h1:RV M w (E.val C c) (a.eval c):=hf.eval hr hv;rw[hc]at h1;have h2:a.eval c= .bool b:=by generalize a.eval c=u at h1;cases h1;rfl
 exact wp_cond_split (a:=addDs ds a) h2 (λh=>ht h M w a hr hf) (λh=>gz h M w a hr hf)
end
section
theorem a7c{aE:Array Operand}(ho:o.op = .makeFunc (.func f) #[] aE)(hv:E.valids aE.toList):Yields C σ E o (.clo f (E.vals C aE.toList)):=
 i8 λM w ρ _ h=>by
  refine⟨.func (.func f) #[] (aE.map ρ),by simp[execOp,ho,Instr.makeFunc],.clo (by rw[<- Env.vals_map];simp) λi c hi=>?_⟩;rw[<- Env.vals_map,P8,M6]at hi;obtain⟨x,hx,rfl⟩:=hi;have aC:aE[i]?=some x:=H hx;have hm:x∈aE:=b4J aC;have:(aE.map ρ).getD i undef=ρ x:=by
   rw[a0D,c0q,aC];rfl
  rw[this];exact h x (by simp[ho,Op.operands,hm]) (Env.valids_mem hv x (H hm))
theorem b27{f:FuncId}{cx:Operand}{xs:Array Operand}{ts:Array TypeId}{cargs aE:List CV}{K:N8->List b9->Prop}(ho:o.op = .call {callee:=.value cx,args:=xs,argTypes:=ts})(hc:E.valid cx)(ec:E.val C cx= .clo f aE)(az:∀args w,(callFunc f args).run C.P w= .ok (.enter f args) w)
 (hv:∀x∈xs.toList,E.valid x)(ea:xs.toList.map (E.val C)=cargs)(h:b8 C f (cargs++aE) σ K):D3 C σ E o K:=λM w ρ hr hh=>by
 have hf:=hh cx L4 hc;rw[ec]at hf;generalize hcx:ρ cx=fv at hf;cases hf with
 | @clo _ _ vs aJ iA=>
  have ay:(execOp ρ o).run C.P w= .ok (.enter f (xs.map ρ++vs)) w:=by
   simp[execOp,ho,resolve,hcx,Deferred.ofValue,invoke,az]
  rw[ay];refine(h M w (xs.map ρ++vs) hr (by simp[<- ea,aJ]) λi c hi=>?_).mono λe w' he=>by cases e<;>exact he
  subst ea;rw[a0D,b6Y];rw[a6j]at hi;simp only[a02,a9u,Array.size_map]at hi⊢
  split<;>rename_i ah
  .rw [W ah]at hi;simp only[P8,M6]at hi;obtain⟨x,hx,rfl⟩:=hi;have aC:xs[i]?=some x:=H hx;have hm:x∈xs:=b4J aC;rw[c0q,aC];exact hh x (by simp[ho,Op.operands,Call.operands,hm]) (hv x (H hm))
  .rw [G ah]at hi;have:=iA _ _ hi;rwa[a0D]at this
theorem c5u{cx:Operand}{aE:List CV}(ho:o.op = .call {callee:=.value cx,args:=xs,argTypes:=ts})(hc:E.valid cx)(ec:E.val C cx= .clo f aE)(az:∀args w,(callFunc f args).run C.P w= .ok (.enter f args) w)
 (hv:E.valids xs.toList)(h:b8 C f (cargs++aE) σ λr aa=>r= .ret c/\aa=σ)(ea:E.vals C xs.toList=cargs):Yields C σ E o c:=
 b27 ho hc ec az (Env.valids_mem hv) (Env.vals_map _) (ea▸h)
end
def c3G(C:Ctx)(M:A5)(w:World)(K:N8->List b9->Prop):Ending->World->Prop
 | .returned v,w'=>a05 C M w K v w'
 | .panicked ch,w'=>S8 C M w K ch w'
 | .outgrown,_=>False
theorem c3G.later{M1:A5}{w1:World}(hx:Ext M w M1 w1){e:Ending}{w':World}(h:c3G C M1 w1 K e w'):c3G C M w K e w':=by
 cases e with
 |returned v=>
  obtain⟨c,aa,M',h1,h2⟩:=h;exact⟨c,aa,M',hx.trans h1,h2⟩
 |panicked ch=>
  obtain⟨c,v,aa,M',h0,h1,h2⟩:=h;exact⟨c,v,aa,M',h0,hx.trans h1,h2⟩
 |outgrown=>exact h
theorem a4D{fn:Func}{tmps:Array Value}{R R':Ending->World->Prop}(h:∀e w,R e w->R' e w):∀(ds:List Deferred) (u:FrameMode) (w:World),Leaves P fn tmps R ds u w->Leaves P fn tmps R' ds u w:=by
 intro ds
 induction ds with
 |nil=>
  intro u w hl;cases u with
  |run=>exact hl
  |returning=>
   obtain⟨v,h1,h2⟩:=hl;exact⟨v,h1,h _ _ h2⟩
  |panicking ch=>exact h _ _ hl
 |cons d ds ih=>
  intro u w hl;obtain⟨h1,fv,cap,f,args,h2,h3,h4⟩:=hl;refine⟨h1,fv,cap,f,args,h2,h3,h4.mono λe u' w' he=>?_⟩;cases e with
  |returned v=>exact ih _ _ he
  |panicked ch=>exact ih _ _ he
  |outgrown=>exact h _ _ he
theorem b0i{fn:Func}{R R':Ending->World->Prop}(h:∀e w,R e w->R' e w){e:Exit}{a:Act}(hb:bodyPostD P fn R e a w):bodyPostD P fn R' e a w:=by
 cases e with
 |normal=>exact a4D h _ _ _ hb
 |ret=>exact a4D h _ _ _ hb
 |panic ch=>exact a4D h _ _ _ hb
 |outgrown=>exact h _ _ hb
 |exit id=>exact hb
 |goto l=>exact hb
def b5C(C:Ctx)(fn:Func)(K:N8->List b9->Prop)(c:Code)(E:Env)(σ:List b9):Prop:=
 ∀(M:A5) (w:World) (a:Act),Rel C M σ w->H0 M w fn.ntmps E a->c.wp C.P (bodyPostD C.P fn (c3G C M w K)) a w
theorem a8j{vs:Array Value}(hn:args.length<=n)(aJ:vs.size=args.length)(hx:∀(i:Nat) (c:CV),args[i]?=some c->RV M w c (vs.getD i undef)):H0 M w n (Env.args args) {tmps:=vs++Array.replicate (n-vs.size) undef,defers:=[]}:=by
 refine⟨O,by simp;omega,λt _=>?_,λt ht=>absurd trivial ht⟩;simp only[Env.args,Env.f]
 rcases a4g t args.length with ht|ht
 .have:=hx t (args[t]) (by simp[ht]);have h1:(vs++Array.replicate (n-vs.size) undef).getD t undef=vs.getD t undef:=by
   simp[b6Y,aJ,ht]
  rw[h1];simpa[ht]using this
 .have h1:(vs++Array.replicate (n-vs.size) undef).getD t undef=undef:=by
   simp only[a0D,b6Y];rw[G J];rw[Array.getElem?_replicate]
   split<;>rfl
  rw[h1];simp only[b9z ht,Option.getD_none];exact .val _
theorem b1O{fn:Func}{c:Code}(hf:C.P.funcs[f]?=some fn)(hb:fn.body=some c)(hn:Nat.ble args.length fn.ntmps=true)(h:b5C C fn K c (Env.args args) σ):b8 C f args σ K:=λM w vs hr aJ hx=>
 (calls_of_wp_defers hf hb (h M w _ hr (a8j (nb hn) aJ hx))).mono λe w' he=>by cases e<;>exact he
theorem b4i{fn:Func}{x y:Code}(h:CWp C fn.ntmps x (A8.next (b5C C fn K y) (Fin C fn K)) E σ):b5C C fn K (.seq x y) E σ:=λM w a hr hf=>by
 refine wp_seq (wp_mono (h M w a hr hf) λe a' w' hl=>?_);obtain⟨E',aa,M',h1,h2,h3,h4⟩:=hl;cases e with
 |normal=>exact wp_mono (h4 M' w' a' h2 h3) λe a0 w0 hb=>b0i (λe w he=>c3G.later h1 he) hb
 |ret=>
  obtain⟨c,hc,hk⟩:=h4;obtain⟨v,hv,bg⟩:=hc M' w' a' h2 h3.rv;show Leaves C.P fn a'.tmps _ a'.defers .returning w';rw[h3.defers];exact⟨v,hv,c,aa,M',h1,h2,bg,hk⟩
 |panic ch=>
  obtain⟨c,v,h0,hv,hk⟩:=h4;show Leaves C.P fn a'.tmps _ a'.defers (.panicking ch) w';rw[h3.defers];exact⟨c,v,aa,M',h0,h1,h2,hv,hk⟩
 |exit id=>exact h4.elim
 |goto l=>exact h4.elim
 |outgrown=>exact h4.elim
def b0n(b:Bool)(v:Value):FrameMode:=if b then .panicking [{v,recovered:=false}]else .returning
def a0h(b:Bool)(v:Value):FrameMode:=if b then .panicking [{v,recovered:=true}]else .returning
theorem b4h(b:Bool)(v:Value):settle (a0h b v)= .returning:=by cases b<;>rfl
def b7P(C:Ctx)(g:FuncId)(aE:List CV)(σ:List b9)(b:Bool)(u:CV)(K:List b9->Prop):Prop:=
 ∀(M:A5) (w:World) (vs:Array Value) (v:Value),Rel C M σ w->vs.size=aE.length->(∀(i:Nat) (c:CV),aE[i]?=some c->RV M w c (vs.getD i undef))->RV M w u v ->
  CallsD C.P g vs (b0n b v) w λe u' w'=>(∃x,e= .returned x)/\u'=a0h b v/\∃aa M',Ext M w M' w'/\Rel C M' aa w'/\K aa
theorem b75{C:Ctx}{fn:Func}{K:N8->List b9->Prop}{id:Nat}{ae:Array Oper}{y:Code}{E:Env}{σ:List b9}{g:FuncId}{aE:Array Operand}{t:Nat}{o1 o2:Oper}{ats:Array TypeId}(hl:ae.toList=[o1,o2])(g1:o1.guard=none)(g2:o2.guard=none)(d1:o1.dst=some t)(d2:o2.dst=none)(ht:t<fn.ntmps)
 (e1:o1.op = .makeFunc (.func g) #[] aE)(e2:o2.op = .defer {callee:=.value (.tmp t),args:=#[],argTypes:=ats})(hg:∀args w,(callFunc g args).run C.P w= .ok (.enter g args) w)(hv:E.valids aE.toList)
 (h:∀ds,a44 ds C fn.ntmps y (λe E' aa=>match e with
  | .normal | .ret=>b7P C g (E.vals C aE.toList) aa false (.val undef) λbG=>∃c,V8 C E' bG fn c/\K (.ret c) bG
  | .pan u=>b7P C g (E.vals C aE.toList) aa true u λbG=>∃c,V8 C E' bG fn c/\K (.ret c) bG
  |_=>False) (E.put (some t) (.clo g (E.vals C aE.toList)) True) σ):b5C C fn K (.seq (.region id ae false) y) E σ:=λM w a hr hf=>by
 refine wp_seq (wp_region_list ?_);rw[hl];obtain⟨v,eY,cB⟩:∃v,(execOp a.eval o1).run C.P w= .ok (.value v) w/\RV M w (.clo g (E.vals C aE.toList)) v:=by
  refine⟨.func (.func g) #[] (aE.map a.eval),by simp[execOp,e1,Instr.makeFunc],.clo (by rw[<- Env.vals_map];simp) λi c hi=>?_⟩;rw[<- Env.vals_map,P8,M6]at hi;obtain⟨x,hx,rfl⟩:=hi;have aC:aE[i]?=some x:=H hx;have hm:x∈aE:=b4J aC;have:(aE.map a.eval).getD i undef=a.eval x:=by
   rw[a0D,c0q,aC];rfl
  rw[this];exact hf.eval hr (Env.valids_mem hv x (H hm))
 have dg:H0 M w fn.ntmps (E.put (some t) (.clo g (E.vals C aE.toList)) True) (a.put (some t) v):=hf.put (λt' gr=>by injection gr with gr;omega) (λ_=>cB) λhh=>absurd trivial hh;unfold wpList;rw[W (by simp[Region.wanted,g1])];refine .inl ?_;unfold Oper.wp;rw[eY,Oper.upon_value,d1];unfold wpList;rw[W (by simp[Region.wanted,g2])];refine .inl ?_;have hev:(a.put (some t) v).eval (.tmp t)=v:=by
  have aJ:t<a.tmps.size:=by rw[hf.size];exact ht
  simp[Act.eval,Act.put,aJ]
 cases cB with
 | @clo _ _ vs aJ iA=>
 have ay:(execOp (a.put (some t) (.func (.func g) #[] vs)).eval o2).run C.P w= .ok (.defer {target:=.fn (.func g) vs,args:=#[]}) w:=by
  simp[execOp,e2,resolve,hev,Deferred.ofValue]
 unfold Oper.wp;rw[ay,Oper.upon_defer,d2];unfold wpList;have hact:({a.put (some t) (.func (.func g) #[] vs)with defers:={target:=.fn (.func g) vs,args:=#[]}::(a.put (some t) (.func (.func g) #[] vs)).defers}:Act).put none undef=addDs [{target:=.fn (.func g) vs,args:=#[]}] (a.put (some t) (.func (.func g) #[] vs)):=by
  simp[addDs,Act.put,hf.defers]
 rw[hact];refine wp_mono (h _ M w _ hr dg) λe a' w' hl=>?_;obtain⟨a0,rfl,E',aa,M',h1,h2,h3,h4⟩:=hl;have hvs':∀(i:Nat) (c:CV),(E.vals C aE.toList)[i]?=some c->RV M' w' c (vs.getD i undef):=λi c hi=>(iA i c hi).mono h1;have cm:(addDs [{target:=.fn (.func g) vs,args:=#[]}] a0).defers=[{target:=.fn (.func g) vs,args:=#[]}]:=by simp[addDs,h3.defers]
 have gq:∀(b:Bool) (u:CV) (pv:Value),RV M' w' u pv->(b7P C g (E.vals C aE.toList) aa b u λbG=>∃c,V8 C E' bG fn c/\K (.ret c) bG)->Leaves C.P fn a0.tmps (c3G C M w K) [{target:=.fn (.func g) vs,args:=#[]}] (b0n b pv) w':=λb u pv hu hd=>by
  refine leaves_cons (f:=g) (args:=vs) (by cases b<;>simp[b0n]) (by simp[invoke,hg]) ((hd M' w' vs pv h2 aJ hvs' hu).mono λe u' w'' he=>?_);obtain⟨⟨x,rfl⟩,rfl,bG,gM,k1,k2,c,hc,hk⟩:=he;show Leaves C.P fn a0.tmps _ [] (settle _) w'';rw[b4h];obtain⟨rv,bg,hrv2⟩:=hc gM w'' a0 k2 λt ht=>(h3.rv t ht).mono k1;exact⟨rv,bg,c,bG,gM,h1.trans k1,k2,hrv2,hk⟩
 cases e with
 |normal=>
  show Leaves C.P fn _ _ (addDs _ a0).defers .returning w';rw[cm];exact gq false _ undef (.val _) h4
 |ret=>
  show Leaves C.P fn _ _ (addDs _ a0).defers .returning w';rw[cm];exact gq false _ undef (.val _) h4
 |panic ch=>
  obtain⟨c,pv,rfl,hpv,h4⟩:=h4;show Leaves C.P fn _ _ (addDs _ a0).defers (.panicking _) w';rw[cm];exact gq true c pv hpv h4
 |exit id=>exact h4.elim
 |goto l=>exact h4.elim
 |outgrown=>exact h4.elim
theorem c0O{g:FuncId}{fn:Func}{y:Code}{aE:List CV}{b:Bool}{u:CV}{K:List b9->Prop}{t1 t2:Nat}{o1 o2:Oper}{ats:Array TypeId}(hf:C.P.funcs[g]?=some fn)(hb:fn.body=some (.seq (.region id ae false) y))(bE:fn.results = #[])(hn:Nat.ble aE.length fn.ntmps=true)
 (hs:ae.size=2)(h0:ae[0]?=some o1)(h1:ae[1]?=some o2)(g1:o1.guard=none)(g2:o2.guard=none)(d1:o1.dst=some t1)(d2:o2.dst=some t2)(ht1:t1<fn.ntmps)(ht2:t2<fn.ntmps)(e1:o1.op = .call {callee:=.builtin .recover,args:=#[],argTypes:=ats})(e2:o2.op = .assign (.tmp t1))
 (h:CWp C fn.ntmps y (λe _ aa=>match e with| .normal | .ret=>K aa|_=>False) (((Env.args aE).put (some t1) (if b then u else .val .nilIface) True).put (some t2) (if b then u else .val .nilIface) True) σ):b7P C g aE σ b u K:=λM w vs v hr aJ iA hu=>by
 refine callsD_of_wpS hf hb λgG cs hc₀=>?_;refine wpS_seq (wpS_region ?_);rw[hs];have hrec:recoverD (gG::cs)=if b then some (v,{gG with mode:=a0h b v}::cs)else none:=by
  unfold recoverD;simp only[hc₀];cases b<;>simp[b0n,a0h]
 have f0:=a8j (n:=fn.ntmps) (nb hn) aJ iA;generalize hact:({tmps:=vs++Array.replicate (fn.ntmps -vs.size) undef,defers:=[]}:Act)=a0 at f0;have hrun1:(execOp a0.eval o1).run C.P w= .ok .recover w:=by simp[execOp,e1,resolve,invoke,builtin]
 have rest:∀(x:Value) (bi:List Frame),bi={gG with mode:=a0h b v}::cs->RV M w (if b then u else .val .nilIface) x->wpOpsS C.P ae (Exit.thenS (y.wpS C.P (bodyPostS C.P fn gG cs λe u' w'=>(∃x,e= .returned x)/\u'=a0h b v/\∃aa M',Ext M w M' w'/\Rel C M' aa w'/\K aa)) (bodyPostS C.P fn gG cs λe u' w'=>(∃x,e= .returned x)/\u'=a0h b v/\∃aa M',Ext M w M' w'/\Rel C M' aa w'/\K aa)) [1] (a0.put (some t1) x) bi w:=by
  intro x bi hcs hx;have f1:H0 M w fn.ntmps ((Env.args aE).put (some t1) (if b then u else .val .nilIface) True) (a0.put (some t1) x):=f0.put (λt' gr=>by injection gr with gr;omega) (λ_=>hx) λhh=>absurd trivial hh;have hev:(a0.put (some t1) x).eval (.tmp t1)=x:=by
   have aJ:t1<a0.tmps.size:=by rw[f0.size];exact ht1
   simp[Act.eval,Act.put,aJ]
  have eA:(execOp (a0.put (some t1) x).eval o2).run C.P w= .ok (.value x) w:=by simp[execOp,e2,hev]
  have f2:H0 M w fn.ntmps (((Env.args aE).put (some t1) (if b then u else .val .nilIface) True).put (some t2) (if b then u else .val .nilIface) True) ((a0.put (some t1) x).put (some t2) x):=f1.put (λt' gr=>by injection gr with gr;omega) (λ_=>hx) λhh=>absurd trivial hh;simp only[wpOpsS,h1,Region.wanted,g2,if_true,eA,Oper.upon_value,d2,Exit.thenS];refine wpS_of_wp (wp_mono (h M w _ hr f2) λe a' w' hl=>?_);obtain⟨E',aa,M',k1,k2,k3,k4⟩:=hl;subst hcs;cases e with
  |normal=>exact⟨k3.defers,_,O,_,results_none bE _ _ _,⟨_,O⟩,O,aa,M',k1,k2,k4⟩
  |ret=>exact⟨k3.defers,_,O,_,results_none bE _ _ _,⟨_,O⟩,O,aa,M',k1,k2,k4⟩
  |panic ch=>
   obtain⟨c,pv,_,_,k4⟩:=k4;exact k4.elim
  |exit id=>exact k4.elim
  |goto l=>exact k4.elim
  |outgrown=>exact k4.elim
 show wpOpsS C.P ae _ [0,1] _ _ _;unfold wpOpsS;simp only[h0,Region.wanted,g1,if_true,hrun1,hrec,d1];cases b with
 |true=>exact rest v _ O hu
 |false=>
  refine rest .nilIface _ ?_ (.val _);simp[a0h,b0n]at hc₀⊢;cases gG
  simp_all
section
def a9J:Value->Bool
 | .iface _ _=>true
 |_=>false
theorem b4X{ms:Array (String×TypeId)}(ho:o.op = .binOp .neq t x (.const .nilIface) t')(hx:E.valid x)(ex:E.val C x= .val v)(hu:∀w,(underlying t).run C.P w= .ok (.interface ms) w)(hv:v= .nilIface\/∃a b,v= .iface a b):Yields C σ E o (.val (.bool (a9J v))):=
 i8 λM w ρ _ h=>by
  have h1:=h x w8 hx;rw[ex]at h1;have e1:=p8 h1;have e2:=h (.const .nilIface) w8 O;have e3:=p8 e2;refine⟨.bool (a9J v),?_,.val _⟩
  rcases hv with rfl|⟨a,b,rfl⟩
  .have he:(Op.equal t .nilIface .nilIface).run C.P w= .ok true w:=by
    unfold Op.equal;rw[show Op.maxDepth=(Op.maxDepth -1)+1 from O,Op.equalIn];simp[hu]
   simp[execOp,ho,e1,e3,eqGuard,binOp,he,a9J]
  .have he:(Op.equal t (.iface a b) .nilIface).run C.P w= .ok false w:=by
    unfold Op.equal;rw[show Op.maxDepth=(Op.maxDepth -1)+1 from O,Op.equalIn];simp[hu]
   simp[execOp,ho,e1,e3,eqGuard,binOp,he,a9J]
theorem b3D{s:TypeId}{xs:List Value}{u:TypeDesc}(ho:o.op = .typeAssert x s t true)(hx:E.valid x)(ex:E.val C x= .val (.iface t (.agg xs.toArray)))(hu:∀w,(underlying t).run C.P w= .ok u w)(hi:a9E u=false)(h1x:(xs.all λv=>(CV.val v).one)=true):Yields C σ E o (.tup [plain xs,.val (.bool true)]):=
 i8 λM w ρ _ h=>by
  have h1:=h x w8 hx;rw[ex]at h1;have e1:=p8 h1;refine⟨.tuple #[.agg xs.toArray,.bool true],?_,.tup O λi c hc=>?_⟩
  .simp [execOp,ho,e1,Instr.typeAssert,hu];cases u<;>simp[a9E]at hi⊢
  .rcases i with _|_|i
   .injection hc with hc;subst hc
    refine .agg Q (λc hc=>?_) λi c hc=>?_
    .obtain ⟨v,hm,rfl⟩:=H9.1 hc;exact a2d.1 h1x v hm
    .rw [P8,M6]at hc;obtain⟨v,hv,rfl⟩:=hc;have:(xs.toArray).getD i undef=v:=by simp[a0D,hv]
     show RV M w (.val v) ((xs.toArray).getD i undef);rw[this];exact .val v
   .injection hc with hc;subst hc;exact .val _
   .cases hc
end
def a8i(σ:List b9):List Nat->List b9->List b9
 |k::ao,x::xs=>(a8i σ ao xs).set k x
 |_,_=>σ
theorem b1I(σ:List b9):∀(ao:List Nat) (xs:List b9),(a8i σ ao xs).length=σ.length
 | [],_=>by cases ‹List b9›<;>rfl
 |_::_,[]=>rfl
 |k::ao,x::xs=>by rw[a8i,List.length_set,b1I σ ao xs]
theorem b8d{σ:List b9}:∀{ao:List Nat} {xs:List b9} {k:Nat},k∉ao->(a8i σ ao xs)[k]?=σ[k]?
 | [],xs,k,_=>by cases xs<;>rfl
 |j::ao,[],k,_=>rfl
 |j::ao,x::xs,k,h=>by
  rw[a8i,a5I (λe=>h (by rw[<- e];simp))];exact b8d λhm=>h (by simp[hm])
theorem c1g{σ:List b9}:∀{ao:List Nat} {xs:List b9} {i k:Nat} {x:b9},(∀(i j k:Nat),ao[i]?=some k->ao[j]?=some k->i=j)->k<σ.length->ao[i]?=some k->xs[i]?=some x->(a8i σ ao xs)[k]?=some x
 | [],xs,i,k,x,_,_,h,_=>by simp at h
 |j::ao,[],i,k,x,_,_,_,h=>by simp at h
 |j::ao,y::xs,0,k,x,_,hk,h,hx=>by
  simp at h hx;subst h hx;rw[a8i];simp[b1I,hk]
 |j::ao,y::xs,i+1,k,x,eU,hk,h,hx=>by
  have aB:j≠k:=λe=>by
   subst e;have:=eU 0 (i+1) j O h;omega
  rw[a8i,a5I aB];exact c1g (λa b c h1 h2=>by
   have:=eU (a+1) (b+1) c (H h1) (H h2);omega) hk (H h) (H hx)
theorem P7.mono(hR:∀k k',R k k'->R' k k')(h:P7 R c c'):P7 R' c c':=(h.symm (R':=λa b=>R' b a) λ_ _ h=>hR _ _ h).symm λ_ _ h=>h
theorem I5.mono(hR:∀k k',R k k'->R' k k'){a:b9}(h:I5 R a b):I5 R' a b:=(h.symm (R':=λa b=>R' b a) λ_ _ h=>hR _ _ h).symm λ_ _ h=>h
def b46(ao:List Nat):Prop:=∀(i j k:Nat),ao[i]?=some k->ao[j]?=some k->i=j
theorem a3W(ao:List Nat)(hC:C.plain)(am:ao.length=obs.length)(eU:b46 ao)
 (cQ:∀(i k:Nat) (ob:b9),ao[i]?=some k->obs[i]?=some ob->∃aG,σ[k]?=some aG/\I5 (λk i=>ao[i]?=some k) aG ob)(aq:a14 (λk i=>ao[i]?=some k) args' args)
 {res res':α->N8}{S S':α->List b9}{P:α->Prop}(h:b8 C f args obs λr τ=>∃a,r=res a/\τ=S a/\P a)(hS:∀a,(S a).length=obs.length)
 (fI:∀a (i k:Nat) (x:b9),ao[i]?=some k->(S a)[i]?=some x->∃x',(S' a)[i]?=some x'/\I5 (λi k=>ao[i]?=some k) x x')(dU:∀a,a6h (λi k=>ao[i]?=some k) (res a) (res' a)):
 b8 C f args' σ λr τ=>∃a,r=res' a/\τ=a8i σ ao (S' a)/\P a:=by
 refine P0 ao hC am eU cQ aq h λr τ hk=>?_;obtain⟨a,rfl,rfl,hp⟩:=hk;have up:∀{c c':CV},P7 (λi k=>ao[i]?=some k) c c'->P7 (a0w ao σ.length) c c':=λhh=>P7.mono (λ_ _ h=>.inl h) hh;refine⟨by rw[hS];exact n_6 _,res' a,a8i σ ao (S' a),?_,by rw[b1I,hS];omega,λk _ bS=>b8d bS,λi k x ha hx=>?_,a,O,O,hp⟩
 .have:=dU a;generalize hra:res a=ra at this;generalize hrb:res' a=rb at this;cases this with
  |ret h=>exact .ret (up h)
  |pan h=>exact .pan (up h)
 .rcases ha with ha|⟨ha,_⟩
  .obtain ⟨x',h1,h2⟩:=fI a i k x ha hx;have bS:k<σ.length:=by
    have hi:i<obs.length:=by rw[<- am];exact(n_3.1 ha).1
    obtain⟨aG,g1,_⟩:=cQ i k obs[i] ha (by simp[hi]);exact(n_3.1 g1).1
   exact⟨x',c1g eU bS ha h1,I5.mono (λ_ _ h=>.inl h) h2⟩
  .have:=(n_3.1 hx).1;rw[hS,<- am]at this;omega
theorem a3I(ao:List Nat)(hC:C.plain)(am:ao.length=obs.length)(eU:b46 ao){obs':List b9}
 (cQ:∀(i k:Nat) (ob:b9),ao[i]?=some k->obs[i]?=some ob->∃aG,obs'[i]?=some aG/\σ[k]?=some aG/\I5 (λi k=>ao[i]?=some k) ob aG)(aq:a14 (λk i=>ao[i]?=some k) args' args)
 {c:α->CV}{P:α->Prop}(hc:∀a,P a->r9 (c a))(h:b8 C f args obs λr τ=>∃a,r= .ret (c a)/\τ=obs/\P a):b8 C f args' σ λr τ=>∃a,r= .ret (c a)/\τ=σ/\P a:=by
 refine P0 ao hC am eU (λi k ob g1 g2=>?_) aq h λr τ hk=>?_
 .obtain ⟨aG,_,h2,h3⟩:=cQ i k ob g1 g2;exact⟨aG,h2,h3.symm λ_ _ h=>h⟩
 .obtain ⟨a,rfl,rfl,hp⟩:=hk;refine⟨n_6 _,.ret (c a),σ,.ret (.pure (hc a hp)),J,λ_ _ _=>O,λi k x ha hx=>?_,a,O,O,hp⟩
  rcases ha with ha|⟨ha,_⟩
  .obtain ⟨aG,_,h2,h3⟩:=cQ i k x ha hx;exact⟨aG,h2,I5.mono (λ_ _ h=>.inl h) h3⟩
  .have:=(n_3.1 hx).1;rw[<- am]at this;omega
theorem a6F(hC:C.plain)(aq:∀a∈args,r9 a){res':α->Nat->N8}{S:α->List b9}{S':α->Nat->List b9}{P:α->Prop}(h:b8 C f args [] λr τ=>∃a,r=res a/\τ=S a/\P a)
 (am:∀a n,(S' a n).length=(S a).length)(fI:∀a (n i:Nat) (x:b9),(S a)[i]?=some x->∃x',(S' a n)[i]?=some x'/\I5 (λi k=>k=n+i) x x')(dU:∀a n,a6h (λi k=>k=n+i) (res a) (res' a n))(σ:List b9):
 b8 C f args σ λr τ=>∃a,r=res' a σ.length/\τ=σ++S' a σ.length/\P a:=by
 refine P0 [] hC O (λi j k h=>by simp at h) (λi k ob h=>by simp at h) (by
  refine⟨O,λi c c' h h'=>?_⟩;rw[h]at h';injection h' with h';subst h'
  exact .pure (aq c (n_2 h))) h λr τ hk=>?_
 obtain⟨a,rfl,rfl,hp⟩:=hk;have up:∀i k,k=σ.length+i->a0w [] σ.length i k:=λi k h=>.inr ⟨n_4 _,H h⟩;refine⟨n_4 _,res' a σ.length,σ++S' a σ.length,?_,by simp[am],λk hk _=>X1 hk,λi k x ha hx=>?_,a,O,O,hp⟩
 .have:=dU a σ.length;generalize hra:res a=ra at this;generalize hrb:res' a σ.length=rb at this;cases this with
  |ret h=>exact .ret (P7.mono up h)
  |pan h=>exact .pan (P7.mono up h)
 .rcases ha with ha|⟨_,ha⟩
  .simp at ha
  .obtain ⟨x',h1,h2⟩:=fI a σ.length i x hx;refine⟨x',?_,I5.mono up h2⟩;rw[ha,a3i J];simpa using h1
section
theorem b1A(hr:Rel C M σ w)(h:RV M w c v)(ho:c.one=true\/∃cs,c= .agg cs)(hk:K (.ret (.ptr σ.length 0)) (σ++[.boxT (some t) c.cells])):
 a05 C M w K (.pointer (some ⟨w.heap.size,0,none⟩)) (w.alloc (.cells v.cells t)):=by
 obtain⟨h1,h2,h3⟩:=h.cells ho;have hx:=Ext.alloc hr ⟨w.heap.size,0,0⟩ (.cells v.cells t);refine⟨.ptr σ.length 0,_,_,hx,hr.alloc ⟨w.heap.size,0,0⟩ _ (.boxT (some t) c.cells) O ⟨v.cells,t,A2 w _,h1,h2,λi x hi=>(h3 i x hi).mono hx⟩,?_,hk⟩;exact .ptr (p:=⟨w.heap.size,0,0⟩) b1i
theorem d7C(ho:o.op = .box t x)(hx:E.valid x)(ex:E.val C x=c)(hc:c.one=true\/∃cs,c= .agg cs)(hk:K (.ret (.ptr σ.length 0)) (σ++[.boxT (some t) c.cells])):D3 C σ E o K:=λM w ρ hr h=>by
 have h1:=h x w8 hx;rw[ex]at h1;have:(execOp ρ o).run C.P w= .ok (.value (.pointer (some ⟨w.heap.size,0,none⟩))) (w.alloc (.cells (ρ x).cells t)):=by
  simp[execOp,ho,Instr.box,a3B]
 rw[this];exact b1A hr h1 hc hk
theorem c6K(ho:o.op = .alloc t)(hz:∀w,(zeroValue t).run C.P w= .ok z w)(bV:K4 z=true)(cU:(H8 z).one=true\/∃cs,H8 z= .agg cs)(hk:K (.ret (.ptr σ.length 0)) (σ++[.boxT (some t) (H8 z).cells])):D3 C σ E o K:=λM w ρ hr h=>by
 have:(execOp ρ o).run C.P w= .ok (.value (.pointer (some ⟨w.heap.size,0,none⟩))) (w.alloc (.cells z.cells t)):=by
  simp[execOp,ho,Instr.alloc,hz,a3B]
 rw[this];exact b1A hr (a0v bV) cU hk
theorem c56{te:TypeId}(ho:o.op = .binOp .eql t x (.const (.pointer none)) t')(hx:E.valid x)(ex:E.val C x= .ptr k off)(hu:∀w,(underlying t).run C.P w= .ok (.pointer te) w):Yields C σ E o (.val (.bool false)):=
 i8 λM w ρ _ h=>by
  have h1:=h x w8 hx;rw[ex]at h1;have e2:=p8 (h (.const (.pointer none)) w8 O);generalize hv:ρ x=v at h1;cases h1 with
  |ptr hp=>
   rename_i p;have he:(Op.equal t (.pointer (some ⟨p.block,off,none⟩)) (.pointer none)).run C.P w= .ok false w:=by
    unfold Op.equal;rw[show Op.maxDepth=(Op.maxDepth -1)+1 from O,Op.equalIn];simp[hu]
   exact⟨.bool false,by simp[execOp,ho,hv,e2,eqGuard,binOp,he],.val _⟩
theorem c5b{te:TypeId}(ho:o.op = .binOp .eql t x (.const (.pointer none)) t')(hx:E.valid x)(ex:E.val C x= .val (.pointer none))(hu:∀w,(underlying t).run C.P w= .ok (.pointer te) w):Yields C σ E o (.val (.bool true)):=
 i8 λM w ρ _ h=>by
  have h1:=h x w8 hx;rw[ex]at h1;have e1:=p8 h1;have e2:=p8 (h (.const (.pointer none)) w8 O);have he:(Op.equal t (.pointer none) (.pointer none)).run C.P w= .ok true w:=by
   unfold Op.equal;rw[show Op.maxDepth=(Op.maxDepth -1)+1 from O,Op.equalIn];simp[hu]
  exact⟨.bool true,by simp[execOp,ho,e1,e2,eqGuard,binOp,he],.val _⟩
theorem c4f(ho:o.op = .binOp .neq t x y t')(hx:E.valid x)(hy:E.valid y)(ex:E.val C x= .ptr k off)(ey:E.val C y= .ptr k off)(te':TypeId)(hp:C.P.underlying t=some (.pointer te'))(hte:(C.P.info? te').isSome=true):Yields C σ E o (.val (.bool false)):=
 i8 λM w ρ _ h=>by
  obtain⟨j,hte⟩:=c0C.1 hte;have h1:=h x w8 hx;have h2:=h y w8 hy;rw[ex]at h1;rw[ey]at h2;generalize hv:ρ x=v at h1;generalize gy:ρ y=v' at h2;cases h1 with
  |ptr q1=>
   rename_i p;cases h2 with
   |ptr q2=>
    rename_i p';rw[q1]at q2;injection q2 with q2
    subst q2;have:=Lib.run_neq_ptr_same (P:=C.P) (w:=w) ⟨p.block,off,none⟩ hp hte;exact⟨.bool false,by simp[execOp,ho,hv,gy,eqGuard,this],.val _⟩
theorem b9X(ho:o.op = .convert src dst x)(hx:E.valid x)(ex:E.val C x= .ptr k off)(hk:σ[k]?=some (.boxT (some e) cells))(fO:off<cells.length)
 (t:TypeId)(hs:C.P.underlying src=some (.pointer t))(hd:C.P.underlying dst=some .unsafePointer)(ht:((C.P.info? t).any λj=>j.size != 0)=true):Yields C σ E o (.ptr k off):=
 i8 λM w ρ hr h=>by
  obtain⟨j,ht,hj⟩:∃j,C.P.info? t=some j/\j.size≠0:=by
   rw[Option.any_eq_true_iff_get]at ht;exact⟨_,Option.eq_some_of_isSome ht.1,H ht.2⟩
  have h1:=h x w8 hx;rw[ex]at h1;generalize hv:ρ x=v at h1;cases h1 with
  |ptr hp=>
   rename_i p;obtain⟨ap,ty,e1,e2,_⟩:=(hr.obj k p _ hp hk).1;have hsh:w.shape? p.block=some (e,ap.size):=by simp[World.shape?,e1]
   have:=Lib.run_to_unsafe (P:=C.P) (w:=w) (src:=src) (dst:=dst) ⟨p.block,off,none⟩ hs hd ht hj hsh (by rw[e2];exact fO);exact⟨_,by simp[execOp,ho,hv,this],.ptr hp⟩
theorem b5h(ho:o.op = .convert src dst x)(hx:E.valid x)(ex:E.val C x= .ptr k off)(hk:σ[k]?=some (.boxT (some e) cells))
 (u:TypeId)(hs:C.P.underlying src=some .unsafePointer)(hd:C.P.underlying dst=some (.pointer u))(ht:(C.P.info? u).isSome=true)(hl:liesAt C.P C.P.depth e (cells.length / C.P.cellsOf e) off u 1=true):Yields C σ E o (.ptr k off):=
 i8 λM w ρ hr h=>by
  obtain⟨j,ht⟩:=c0C.1 ht;have h1:=h x w8 hx;rw[ex]at h1;generalize hv:ρ x=v at h1;cases h1 with
  |ptr hp=>
   rename_i p;obtain⟨ap,ty,e1,e2,_⟩:=(hr.obj k p _ hp hk).1;have hsh:w.shape? p.block=some (e,ap.size):=by simp[World.shape?,e1]
   have:=Lib.run_from_unsafe (P:=C.P) (w:=w) (src:=src) (dst:=dst) ⟨p.block,off,none⟩ hs hd ht hsh (by rw[e2];exact hl);exact⟨_,by simp[execOp,ho,hv,this],.ptr hp⟩
theorem d7e{f:FuncId}{fn:Func}{e:Array Value → Sem Value}{ts:Array TypeId}{x:Operand}{c:CV}(ho:o.op = .call {callee:=.value (.func f),args:= #[x],argTypes:=ts})(hf:C.P.funcs[f]?=some fn)(fo:(fn.name == "runtime.NumGoroutine")=false)(hb:fn.body.isNone =true)(hn:Extern.findNext fn=none)(he:Extern.find fn=some e)
 (hx:E.valid x)(ex:E.val C x=c)(hr:∀v w,(e #[v]).run C.P w= .ok v w):Yields C σ E o c:=
 i8 λM w ρ _ hh=>by
  have h1:=hh x L4 hx;have cr:=p8 (hh (.func f) L4 D);rw[ex]at h1;refine⟨ρ x,?_,h1⟩;have:=a4m (args:=#[ρ x]) (w:=w) hf fo hb hn he (hr (ρ x) w);simp[execOp,ho,resolve,cr,Deferred.ofValue,invoke,this]
theorem b7z(ho:o.op = .call {callee:=.builtin .unsafeSliceData,args:=#[x],argTypes:=#[t]})(hx:E.valid x)(ex:E.val C x= .list Y true (some k))(aB:Y≠[]):Yields C σ E o (.eptr k 0 0):=
 i8 λM w ρ _ h=>by
  have h1:=h x L4 hx;rw[ex]at h1;obtain⟨a,cap,b,off,s,vals,hv,bx,ej,gN,eS,ha,cz,aO,hc,bg,cK⟩:=h1.list_inv;obtain⟨s',hp,ha0,rfl,hs⟩:=cK k O;have hl:0<Y.length:=b2h.2 aB;refine⟨.pointer (some ⟨b,0,none⟩),?_,?_⟩
  .have:=Lib.run_unsafeSliceData_row (P:=C.P) (w:=w) #[t] o.type ⟨b,0,none⟩ Y.length cap J;simp[execOp,ho,resolve,invoke,builtin,hv,ha0,this]
  .have:=RV.eptr (w:=w) (i:=0) (off:=0) hp;simpa using this
theorem Rel.tipKill(hr:Rel C M σ w){t0:Option TypeId}{aF:Array Value}{ty:TypeId}{fr fr':Nat×Nat}(hp:M.pl[k]?=some p)(hk:σ[k]?=some (.tipT t0 n))(hc:w.heap[p.block]?=some (.cells aF ty fr)):
 Ext M w M (World.putObj w p.block (.cells aF ty fr'))/\Rel C M (σ.set k .dead) (World.putObj w p.block (.cells aF ty fr')):=by
 obtain⟨⟨q1,q2,q3,cur0,ty0,q4,q5⟩,cJ⟩:=hr.obj k _ _ hp hk;have hb:p.block <w.heap.size:=(a1N.1 hc).1;have hx:Ext M w M (World.putObj w p.block (.cells aF ty fr')):=by
  refine⟨⟨[],Q⟩,λ_ h=>h,λ_ _ h=>.inr h,λb' h=>World.putObj_other w _ (λe=>cJ (e▸h)),λb' o' h=>?_,by rw[World.putObj_size];exact n_6 _,R4,O,O,O,λb' h=>⟨h,World.putObj_other w _ (λe=>hr.nk k p _ hp hk O (e▸h)),id,λ_=>id⟩⟩;by_cases he:p.block=b'
  .subst he;simp only[World.cell?,World.putObj_same w _ hb,hc]
  .exact L5 (World.putObj_other w _ he)
 have hd:=hr.dead k;refine⟨hx,hd.len,λb o' ha=>by rw[World.putObj_size];exact hr.blk b o' ha,λk' p' x aN aC=>?_,hd.inj,λg cells hg=>(hr.glob g cells hg).mono hx,λb h=>(by rw[World.putObj_size];exact hr.kep b h),hd.nk⟩;obtain⟨h1,h2⟩:=hd.obj k' p' x aN aC;refine⟨?_,h2⟩;by_cases hl:x.live=true
 .have gd:k'≠k:=by
   rintro rfl;rw[b8U (n_3.1 hk).1]at aC;injection aC with aC
   subst aC;cases hl
  rw[a5I (Ne.symm gd)]at aC;have aB:p.block≠p'.block:=λe=>gd (hr.inj k' k p' p x _ aN hp aC hk hl O e.symm);exact h1.mono hx (World.putObj_other w _ aB) (λ_ _ _ _ h=>h)
 .cases x<;>first|trivial|simp[b9.live]at hl
theorem b89{b:Nat}{aF:Array Value}{ty:TypeId}{fr:Nat×Nat}(hc:w.heap[b]?=some (.cells aF ty fr))(hn:n≠0):∃fr',w.freeze ⟨b,0,none⟩ n=World.putObj w b (.cells aF ty fr'):=by
 have hb:b<w.heap.size:=(a1N.1 hc).1;obtain⟨lo,hi⟩:=fr;refine⟨if lo == hi then(0,0+n)else(min lo 0,max hi (0+n)),?_⟩;have hg:w.heap[b]= .cells aF ty (lo,hi):=by
  have:=(a1N.1 hc).2;exact this
 simp only[World.freeze,G hn,World.putObj]
 congr 1
 apply b2r;intro i;rw[b8Y,Array.getElem?_setIfInBounds];by_cases bh:b=i
 .subst bh;simp[hb,hg]
 .simp [bh]
theorem b0Q{pt it:TypeId}{t0:Option TypeId}(ho:o.op = .call {callee:=.builtin .unsafeString,args:=#[x,y],argTypes:=#[pt,it]})(hx:E.valid x)(hy:E.valid y)(ex:E.val C x= .eptr q 0 0)(ey:E.val C y= .val (.int .i64 l.length))
 (hq:σ[q]?=some (.tipT (some e) l.length))(hk:σ[k]?=some (.boxT t0 cells))(hi:cells[i]?=some (.list (l.map bcv) true (some q)))(aB:l≠[])
 (hp:C.P.underlying pt=some (.pointer e))(hc:C.P.cellsOf e=1)(h:K (.ret (sv l)) (σ.set q .dead)):D3 C σ E o K:=λM w ρ hr hh=>by
 have h1:=hh x L4 hx;have h2:=p8 (ey▸hh y L4 hy);rw[ex]at h1;generalize hv:ρ x=v at h1;cases h1 with
 |eptr bf=>
  rename_i p;obtain⟨pk,eu⟩:∃pk,M.pl[k]?=some pk:=by
   have:=(n_3.1 hk).1;rw[<- hr.len]at this;exact⟨_,a1C this⟩
  obtain⟨ap,ty,e1,e2,e3,e4⟩:=(hr.obj k pk _ eu hk).1;obtain⟨a,cap,b,off,s,vals,hvv,bx,ej,gN,eS,ha,cz,aO,aY,bg,cK⟩:=(e4 i _ hi).list_inv;obtain⟨s',aN,ha0,rfl,hs⟩:=cK q O;rw[bf]at aN;injection aN with aN
  subst aN;have hne':l.map bcv≠[]:=H aB;have bu:s=1:=by
   cases l with
   |nil=>exact absurd O aB
   |cons x l=>exact(cz (bcv x) Q).symm
  subst bu;have aI:=hs hne';subst aI;obtain⟨⟨q1,q2,q3,aF,fz,q4,q5⟩,_⟩:=hr.obj q _ _ bf hq;simp only[b8S,Nat.mul_one]at q1 q4 q5;have hcells:∀j x,l[j]?=some x->w.cell? ((⟨b,0,none⟩:Addr).add j)=some (.int .u8 x.toNat):=λj x hj=>by
   have g:(l.map bcv)[j]?=some (bcv x):=by rw[P8,hj];rfl
   have:=(aY j 0 _ _ g O).2;have hz:=p8 (bg j 0 _ _ g O);rw[hz]at this;simp only[Nat.mul_one,P2,b1q]at this;rw[V1];simpa using this
  have am:l.length<=cap:=H bx;have hus:=Lib.run_unsafeString_row (P:=C.P) w pt it o.type e hp hc b aF.size (by simp[World.shape?,q4]) l aB (by rw[q5];exact am) (by unfold maxLen at ej;omega) hcells;obtain⟨fr',hfr⟩:=b89 q4 (n:=l.length) (H aB);have ay:(execOp ρ o).run C.P w= .ok (.value (.string ⟨l.toArray⟩)) (World.putObj w b (.cells aF e fr')):=by
   rw[<- hfr];simp[execOp,ho,resolve,invoke,builtin,hv,h2,hus]
  rw[ay];obtain⟨g1,g2⟩:=hr.tipKill (fr':=fr') bf hq q4;exact⟨_,_,_,g1,g2,.val _,h⟩
theorem c7u(ey:E.val C y=sv l):∀M w v,Rel C M σ w->RV M w (E.val C y) v->b9S C w M (l.map bcv) 1 v:=λM w v _ h=>by
 rw[ey]at h;have hv:=p8 h;subst hv;refine⟨λw'=>by simp[Builtin.lenOf,str,ByteArray.size],λr hr=>?_,(l.map λb=>Value.int .u8 b.toNat).toArray,?_,Q,λi j r c hi hj=>?_⟩
 .obtain ⟨b,_,rfl⟩:=H9.1 hr;rfl
 .simp [Builtin.firstCells,str]
 .rw [P8,M6]at hi;obtain⟨b,hb,rfl⟩:=hi
  rcases j with _|j
  .simp only[bcv,List.getElem?_cons_zero,Option.some.injEq]at hj;subst hj;refine⟨?_,O⟩;have:((l.map λb=>Value.int .u8 b.toNat).toArray).getD (i*1+0) undef= .int .u8 b.toNat:=by simp[a0D,hb]
   rw[this];exact .val _
  .cases hj
end
def a1W(t:TypeId):Nat->b9
 |0=>.dead
 |n+1=>.tipT (some t) (n+1)
def a4b(l:I)(p:Nat):CV:=.list (l.map bcv) (gnn l.length) (G9 l.length p)
theorem c4K(t:TypeId)(n m:Nat):G7 n (a1W t m):=by cases m<;>trivial
section
theorem b3X{t2:TypeId}{new:I}{p:Nat}{ti:TypeInfo}(ho:o.op = .call {callee:=.builtin .append,args:=#[x,y],argTypes:=#[t,t2]})(hx:E.valid x)(hy:E.valid y)(ex:E.val C x=a4b l p)
 (aW:∀M w v,Rel C M σ w->RV M w (E.val C y) v->b9S C w M (new.map bcv) 1 v)(hu:∀w,(underlying t).run C.P w= .ok (.slice e) w)(hs:∀w,(sizeOf e).run C.P w= .ok 1 w)(dm:∀w,(typeInfo e).run C.P w= .ok ti w)(hz:∀w,(zeroValue e).run C.P w= .ok z w)(ca:z.cells.size=1)
 (dl:(∀w,(underlying t2).run C.P w= .ok (.slice e) w)\/∀w,(underlying t2).run C.P w= .ok .string w)(hb1:ti.bytes=1)
 (bK:σ[p]?=some (a1W e l.length))(hb:l.length+new.length<=140737488355328)
 (hk:K (.ret (a4b (l++new) σ.length)) (σ.set p .dead++[a1W e (l++new).length])):D3 C σ E o K:=by
 have aZ:∀(l:I),∀r∈l.map bcv,r.length=1:=λl r hr=>by
  obtain⟨b,_,rfl⟩:=H9.1 hr;rfl
 rcases new with _|⟨r1,new⟩
 .
  intro M w ρ hr hh;have h1:=hh x L4 hx;have h2:=hh y L4 hy;rw[ex,a4b]at h1;obtain⟨am,_,ap,cr,bc,_⟩:=aW M w _ hr h2;obtain⟨a,cap,b,off,s',vals,hv,bx,ej,gN,eS,ha,cz,aO,hc,bg,cK⟩:=h1.list_inv;have bB:(execOp ρ o).run C.P w=((Builtin.append_ #[t,t2] o.type #[ρ x,ρ y]).run C.P w).andThen λv w=>.ok (.value v) w:=by
   simp[execOp,ho,resolve,invoke,builtin]
  have aA:ap= #[]:=by
   apply Array.eq_empty_of_size_eq_zero;simpa using bc
  subst aA;have cL:∀w',(Builtin.lenOf (ρ y)).run C.P w'= .ok 0 w':=H am;have hfn':(Builtin.firstCells 1 0 (ρ y)).run C.P w= .ok #[] w:=H cr;have iB:l.length<=cap:=H bx;have ay:(execOp ρ o).run C.P w= .ok (.value (.slice a (l.map bcv).length cap)) w:=by
   rw[bB,hv]
   rcases dl with dl|dl
   all_goals
    cases a with
    |none=>simp[Builtin.append_,hu,dl,hs,cL,hfn',iB]
    |some a=>simp[Builtin.append_,hu,dl,hs,cL,hfn',iB,storeCells]
  rw[ay];simp only[a1f]at hk
  rcases l with _|⟨r0,l⟩
  .obtain ⟨aQ,bv⟩:=(hr.dead p).addDead ⟨0,0,0⟩;exact⟨_,_,_,bv,aQ,by simpa[a4b,gnn,G9,hv]using h1.mono bv,hk⟩
  .obtain ⟨sz,hp,ha0,fO,aJ⟩:=cK p O;obtain⟨bv,aQ⟩:=hr.tipNew (m:=(r0::l).length) hp bK (n_6 _) iB;refine⟨_,_,_,bv,aQ,?_,hk⟩;have hl:=h1.mono bv;rw[hv]at hl;obtain⟨a',cap',b',off',s'',ip,gy,q1,q2,q3,q4,q5,q6,q7,q8,q9,q10⟩:=hl.list_inv;injection gy with e1 e2 e3
   subst e1 e3;refine RV.list' (L:=((r0::l).map bcv).length) O ip q1 q2 (by rw[q3]) (λh=>by cases h) q5 q6 q7 q8 q9 (λk' aL=>?_);obtain⟨s3,g1,g2,g3,g4⟩:=q10 p O;injection aL with aL
   subst aL;refine⟨s3,?_,g2,g3,g4⟩;have e4:=bv.get hp;rw[g1]at e4;rw[e4];simp[A5.add,<- hr.len]
 .have aB:(r1::new).map bcv≠[]:=by simp
  have hbb:((l.map bcv).length+((r1::new).map bcv).length)*ti.bytes<=140737488355328:=by rw[hb1];simp only[a02];simpa using hb
  have bH:(l.map bcv).length+((r1::new).map bcv).length<=9223372036854775807:=by simp only[a02];simp only[n_9]at hb⊢;omega
  have hK:K (.ret (.list (l.map bcv++(r1::new).map bcv) true (some σ.length))) (σ.set p .dead++[.tipT (some e) ((l.map bcv).length+((r1::new).map bcv).length)]):=by
   have e1:(l++r1::new).length=(l.length+new.length)+1:=by simp;omega
   have e2:(l.map bcv).length+((r1::new).map bcv).length=(l.length+new.length)+1:=by simp;omega
   rw[a4b,e1]at hk;rw[e2,<- b42];exact hk
  rcases l with _|⟨r,l⟩
  .have hee:σ.set p .dead=σ:=by
    refine b2s λi=>?_;rw[b09]
    split
    .rename_i h';subst h';rw[W (n_3.1 bK).1,bK];rfl
    .rfl
   rw[hee]at hK;exact a5z ho hx hy ex aW hu hs dm hz ca dl (.inr O) W9 (.inl ⟨O,O,O⟩) (aZ []) aB hbb bH hK
  .refine a5z ho hx hy ex aW hu hs dm hz ca dl (.inr O) W9 (.inr ⟨Q,p,O,?_⟩) (aZ _) aB hbb bH hK;simpa[a1W]using bK
end
end Go.Cl
namespace Go.Cl
open Go.Sort
theorem b74{C:Ctx}{M:A5}{σ:List b9}{w:World}(hr:Rel C M σ w)(k:Nat)(os:Array Obj):Ext M w M (grow (w.drewN k) os)/\Rel C M σ (grow (w.drewN k) os):=by
 have bJ:∀b,b<w.heap.size->(grow (w.drewN k) os).heap[b]?=w.heap[b]?:=λb hb=>by
  show(w.heap++os)[b]?=_;exact b28 hb
 have aJ:w.heap.size<=(grow (w.drewN k) os).heap.size:=by
  show w.heap.size<=(w.heap++os).size;rw[c0W];omega
 have hx:Ext M w M (grow (w.drewN k) os):=⟨⟨[],Q⟩,λ_ h=>h,λ_ _ h=>.inr h,λb h=>bJ b (hr.blk b 0 (.inl h)),λb o h=>L5 (bJ b (hr.blk b o (.inr h))),aJ,R4,O,O,O,λb h=>⟨h,bJ b (hr.kep b h),id,λ_=>id⟩⟩;refine⟨hx,hr.len,λb o h=>a8M (hr.blk b o h) aJ,λj p ob hp hs=>?_,hr.inj,λg cells hg=>(hr.glob g cells hg).mono hx,λb h=>a8M (hr.kep b h) aJ,hr.nk⟩;obtain⟨h1,h2⟩:=hr.obj j p ob hp hs;refine⟨?_,h2⟩;by_cases hl:ob.live=true
 .exact h1.mono hx (bJ _ (h1.lt hl)) (λ_ _ _ _ h=>h)
 .cases ob<;>first|trivial|simp[b9.live]at hl
end Go.Cl
namespace Go.Cl
variable{c y:Code}{C:Ctx}{w:World}{o:Oper}{K:N8->List b9->Prop}{l:List Oper}{f:FuncId}{args:List CV}{M:A5}{n id kD k:Nat}{E:Env}{P:Program}{α:Type}{t:TypeId}{a:Act}{x:Operand}{ob:b9}{b:Bool}{c':CV}{σ:List b9}{p:Pl}
section
theorem wr8{z:Int}(h0:0<=z)(h1:z<256):IntKind.u8.wrap z=z:=by
 have:z%256=z:=Int.emod_eq_of_lt h0 h1;simp[IntKind.wrap,IntKind.signed,IntKind.bits];omega
end
section
theorem V7{cx:Operand}{xs:Array Operand}{ts:Array TypeId}{cargs aE:List CV}{c:α->CV}{S:α->List b9}{P:α->Prop}(ho:o.op = .call {callee:=.value cx,args:=xs,argTypes:=ts})(hc:E.valid cx)(ec:E.val C cx= .clo f aE)(az:∀args w,(callFunc f args).run C.P w= .ok (.enter f args) w)
 (hv:E.valids xs.toList)(h:b8 C f (cargs++aE) σ λr aa=>∃a,r= .ret (c a)/\aa=S a/\P a)(ea:E.vals C xs.toList=cargs)(hk:∀a,P a->K (.ret (c a)) (S a)):D3 C σ E o K:=
 b27 ho hc ec az (Env.valids_mem hv) (Env.vals_map _) (ea▸h.mono λr aa hh=>by
  obtain⟨a,rfl,rfl,hp⟩:=hh;exact hk a hp)
theorem d1Y{e:TypeId}{v z:Value}(ho:o.op = .buildSlice t 1 #[(0,x)])(hx:E.valid x)(ex:E.val C x= .val v)(hv:v.oneCell'=true)(hu:∀w,(underlying t).run C.P w= .ok (.slice e) w)(hs:∀w,(sizeOf e).run C.P w= .ok 1 w)(hz:∀w,(zeroValue e).run C.P w= .ok z w)(bV:z.oneCell'=true)
 (hk:K (.ret (.list [[.val v]] true (some σ.length))) (σ++[.tip 1])):D3 C σ E o K:=λM w ρ hr hh=>by
 have h1:=p8 (ex▸hh x w8 hx);have hvc:v.cells = #[v]:=by cases v<;>first|rfl|simp[Value.oneCell']at hv
 have hzc:z.cells = #[z]:=by cases z<;>first|rfl|simp[Value.oneCell']at bV
 have ay:(execOp ρ o).run C.P w= .ok (.value (.slice (some ⟨w.heap.size,0,none⟩) 1 1)) (w.alloc (.cells #[v] e)):=by
  have er:Array.range 1= #[0]:=O;simp only[execOp,ho,Instr.buildSlice,Sem.run_bind,hu,Result.andThen_ok,hs];simp[er,Instr.fill,newRow,h1,hvc,hz]
 rw[ay];have aS:=Ext.alloc hr ⟨w.heap.size,1,1⟩ (.cells #[v] e);have bq:=hr.alloc ⟨w.heap.size,1,1⟩ (.cells #[v] e) (.tip 1) O ⟨n_6 _,by unfold maxLen;simp,⟨λo ho=>by
  have:=hr.blk w.heap.size o (.inr ho);omega,λh=>by cases h⟩,#[v],e,A2 _ _,O⟩
 have hp:(M.add ⟨w.heap.size,1,1⟩).pl[σ.length]?=some ⟨w.heap.size,1,1⟩:=by simp[A5.add,<- hr.len]
 obtain⟨gC,gg⟩:=bq.settleCells hp (by simp:(σ++[b9.tip 1])[σ.length]?=some (.tipT none 1));refine⟨_,_,_,aS.trans gC,gg,?_,hk⟩;refine RV.list (Y:=[[.val v]]) (b:=w.heap.size) (off:=0) (s:=1) (λ_ _=>v) (n_6 _) (by unfold maxLen;simp) O (λh=>by cases h) W9 (λr hr=>by simp at hr;subst hr;rfl) (λr hr c hc=>by simp at hr;subst hr;simp at hc;subst hc;exact hv) (λi j r c hi hj=>?_) (λi j r c hi hj=>?_) (λk hk=>?_)
 .rcases i with _|i
  .injection hi with hi
   subst hi
   rcases j with _|j
   .refine ⟨.inr (.inr ⟨O,Q⟩),?_⟩;show(match(w.alloc (.cells #[v] e)).heap[w.heap.size]? with|some (.cells c _ _)=>c[0]? |_=>none)=some v;rw[A2];rfl
   .simp at hj
  .simp at hi
 .rcases i with _|i
  .injection hi with hi
   subst hi
   rcases j with _|j
   .injection hj with hj
    subst hj;exact .val _
   .simp at hj
  .simp at hi
 .injection hk with hk
  subst hk;exact⟨1,hp,O,O,λ_=>O⟩
end
theorem d4C{c:α->CV}{P:α->Prop}(hC:C.plain)(aq:∀a∈args,r9 a)(hc:∀a,r9 (c a))(h:b8 C f args [] λr τ=>∃a,F7 0 τ r (.ret (c a)) []/\P a)(σ:List b9):b8 C f args σ λr τ=>∃a,r= .ret (c a)/\τ=σ/\P a:=
 a3I (obs:=[]) (obs':=[]) [] hC O (by intro i j k h1;simp at h1) (λi k ob h1=>by simp at h1) (L9 aq) (λa _=>hc a) (N3 hC (h.mono λr τ ⟨a,h1,h2⟩=>⟨_,_,h1,a,O,O,h2⟩))
theorem c9U{c:CV}(hC:C.plain)(aq:∀a∈args,r9 a)(hc:r9 c)(h:b8 C f args [] λr τ=>F7 0 τ r (.ret c) [])(σ:List b9):b8 C f args σ λr τ=>r= .ret c/\τ=σ:=
 (d4C (α:=Unit) (c:=λ_=>c) (P:=λ_=>True) hC aq (λ_=>hc) (h.mono λ_ _ hh=>⟨(),hh,D⟩) σ).mono λ_ _ ⟨_,h1,h2,_⟩=>⟨h1,h2⟩
theorem a7v{c:α->CV}{S:α->b9}{P:α->Prop}(hC:C.plain)(aq:∀a∈args,r9 a)(hc:∀a,r9 (c a))(hS:∀a,b0G (S a))(hob:b0G ob)(cb:ob.live=true)
 (h:b8 C f (.ptr 0 0::args) [ob] λr τ=>∃a,F7 1 τ r (.ret (c a)) [S a]/\P a)(σ:List b9)(q:Nat)(hq:σ[q]?=some ob):b8 C f (.ptr q 0::args) σ λr aa=>∃a,r= .ret (c a)/\aa=σ.set q (S a)/\P a:=
 b2c hC aq hc hS hob cb (N3 hC (h.mono λ_ _ ⟨a,h1,h2⟩=>⟨_,_,h1,a,O,O,h2⟩)) σ q hq
theorem d2m{τ:List b9}{c:CV}(h:D5 0 [] c c'):F7 0 τ (.ret c) (.ret c') []:=⟨[],O,O,.ret h,D⟩
theorem a16{τ rest:List b9}{c:CV}(eH:τ=ob::rest)(ho:G7 1 ob)(h:D5 1 [0] c c'):F7 1 τ (.ret c) (.ret c') [ob]:=by
 subst eH;exact⟨[0],O,O,.ret h,.inr ⟨_,O,.same O ho⟩,D⟩
def ShV(k q:Nat)(c c':CV):Prop:=c=c'\/(∃o n,c= .vec k o n/\c'= .vec q o n)\/∃l nn,c= .list l nn (some k)/\c'= .list l nn (some q)
theorem Rel.shift(hr:Rel C M σ w)(hk:σ[k]?=some ob)(hp:M.pl[k]?=some p):Rel C {M with pl:=M.pl++[p]} (σ.set k .dead++[ob]) w/\Ext M w {M with pl:=M.pl++[p]} w:=by
 obtain⟨h1,h2⟩:=hr.addDead p;refine⟨?_,h2⟩;have ah:k<σ.length:=(n_3.1 hk).1;have hl:=hr.len;have key:∀(i:Nat) (q:Pl) (aG:b9),(M.pl++[p])[i]?=some q->(σ.set k .dead++[ob])[i]?=some aG->aG= .dead\/∃j,(σ++[.dead])[j]?=some aG/\(M.pl++[p])[j]?=some q/\j<σ.length/\((i=j/\i≠k)\/(i=σ.length/\j=k)):=by
  intro i q aG hq hi
  rcases Nat.lt_trichotomy i σ.length with h|h|h
  .rw [X1 (H h),b09]at hi;by_cases hik:k=i
   .rw [W hik,W ah]at hi;injection hi with hi
    exact .inl hi.symm
   .rw [G hik]at hi;exact .inr ⟨i,by rw[X1 h];exact hi,hq,h,.inl ⟨O,λe=>hik e.symm⟩⟩
  .have e1:(σ.set k .dead++[ob])[i]?=some ob:=by rw[h];simp
   have e2:(M.pl++[p])[i]?=some p:=by rw[h,<- hl];simp
   rw[e1]at hi;rw[e2]at hq;injection hi with hi;injection hq with hq
   subst hi hq;exact .inr ⟨k,by rw[X1 ah];exact hk,by rw[X1 J];exact hp,ah,.inr ⟨h,O⟩⟩
  .rw [b9z N4]at hi;cases hi
 refine⟨H hl,h1.blk,λi q aG hq hi=>?_,λi i' q q' ob1 ob2 hq dZ hi bh hv gy hb=>?_,h1.glob,h1.kep,λi q aG hq hi hv=>?_⟩
 .rcases key i q aG hq hi with rfl|⟨j,g1,g2,_⟩
  .exact ⟨D,D⟩
  .exact h1.obj j q aG g2 g1
 .rcases key i q ob1 hq hi with rfl|⟨j,g1,g2,g3,g4⟩
  .cases hv
  .rcases key i' q' ob2 dZ bh with rfl|⟨j',gQ,il,g3',g4'⟩
   .cases gy
   .have:=h1.inj j j' q q' ob1 ob2 g2 il g1 gQ hv gy hb;omega
 .rcases key i q aG hq hi with rfl|⟨j,g1,g2,_⟩
  .cases hv
  .exact h1.nk j q aG g2 g1 hv
theorem H0.shift{q t:Nat}(hf:H0 {M with pl:=M.pl++[p]} w n E a)(hp:(M.pl++[p])[k]?=some p)(hq:(M.pl++[p])[q]?=some p)(ht:E.ok t)(hc:ShV k q (E.f t) c'):H0 {M with pl:=M.pl++[p]} w n (E.put (some t) c' True) a:=by
 have bg:RV {M with pl:=M.pl++[p]} w c' (a.tmps.getD t undef):=by
  have h3:=hf.rv t ht
  rcases hc with e|⟨o,m,e1,e2⟩|⟨l,nn,e1,e2⟩
  .rw [<- e];exact h3
  .rw [e1]at h3;rw[e2];generalize a.tmps.getD t undef=u at h3;cases h3 with
   |vec g1 g2 g3 g4=>
    have gQ:(M.pl++[p])[k]?=some _:=g1;rw[hp]at gQ;injection gQ with gQ
    subst gQ;exact .vec (p:=p) hq g2 g3 g4
  .rw [e1]at h3;rw[e2];generalize a.tmps.getD t undef=u at h3;cases h3 with
   |list v g1 g2 g3 g4 g5 g6 g7 g8 g9 g10=>
    refine .list v g1 g2 g3 g4 g5 g6 g7 g8 g9 λj hj=>?_;injection hj with hj
    subst hj;obtain⟨c0,u1,u2,u3,u4⟩:=g10 k O;rw[hp]at u1;injection u1 with u1
    subst u1;exact⟨c0,hq,u2,u3,u4⟩
 refine⟨hf.defers,hf.size,λx hx=>?_,λx hx=>?_⟩
 .rw [Env.putO_f];rw[Env.putO_ok]at hx;by_cases e:x=t
  .rw [W e,e];exact bg
  .rw [G e]at hx⊢;exact hf.rv x hx
 .rw [Env.putO_un]at hx;by_cases e:x=t
  .rw [W e]at hx;exact absurd trivial hx
  .rw [G e]at hx;exact hf.un x hx
theorem c4j{Ji:A8->Env->List b9->Prop}(hC:C.plain)(L:Nat)(hL:Nat.beq L σ.length=true)(k t:Nat)(c':CV)(hk:σ[k]?=some ob)(ht:E.ok t)(hc:ShV k L (E.f t) c')(l:α->List (Nat×CV))(S:α->List b9)(Jd:α->Prop)(m:α->Nat)(h0:a8Y L l S Jd (E.put (some t) c' True) (σ.set k .dead++[ob]))
 (round:∀(a:α),Jd a->CWp C n c (A8.next (a8Y L l S λa'=>m a'<m a/\Jd a') Ji) (Env.only (l a)) (S a)):CWp C n (.loop c) Ji E σ:=λM w a hr hf=>by
 intro b k0 cs;have hL:=a2a hL;have key:∀d (x:α) M1 w1 a1,m x=d->Jd x->Ext M w M1 w1->Rel C M1 (S x) w1->H0 M1 w1 n (Env.only (l x)) a1 ->
  ∃e a' w',R0 C n Ji M w e a' w'/\Arrives C.P (lone (b.at a1 (.code c::.inLoop c::k0)) cs w1) b k0 cs e a' w':=by
  intro d
  induction d using Nat.strongRecOn with
  |_ d ih=>
   intro x M1 w1 a1 hd hI hx aQ dg;obtain⟨e,a2,w2,hq,aA⟩:=round x hI M1 w1 a1 aQ dg b (.inLoop c::k0) cs;obtain⟨E',aa,M',h1,h2,h3,h4⟩:=hq;cases e with
   |normal=>
    obtain⟨x',ao,⟨ah,hI'⟩,⟨g1,g2⟩,hE',hS⟩:=h4;have aC:=hx.trans h1;have fR:L<=M'.pl.length:=by
     obtain⟨l,hl⟩:=aC.pl;rw[hl];simp;rw[hr.len,hL];omega
    obtain⟨dC,dD,dE,bZ,bb⟩:=ih (m x') J x' _ w2 a2 O hI' (aC.ren g1 (by rw[hr.len,hL])) (h2.ren hC g1 g2 fR hS) (h3.onlyR g1 fR hE');exact⟨dC,dD,dE,bZ,.of_steps (Steps.trans aA (.one step_inLoop)) bb⟩
   |outgrown=>exact h4.elim
   |_=>exact⟨_,a2,w2,⟨E',aa,M',hx.trans h1,h2,h3,h4⟩,.pass (x:=.inLoop c) O (λ_ _=>.inl Q) aA⟩
 obtain⟨x,ao,hP,⟨g1,g2⟩,hE,hS⟩:=h0;have ah:k<σ.length:=(n_3.1 hk).1;obtain⟨p,hp⟩:∃p,M.pl[k]?=some p:=⟨M.pl[k]'(by rw[hr.len];exact ah),Q⟩;obtain⟨h1,h2⟩:=hr.shift hk hp;have gz:=(hf.mono h2).shift (k:=k) (q:=L) (by rw[X1 (by rw[hr.len];exact ah)];exact hp) (by rw[hL,<- hr.len];simp) ht hc;have fR:L<=(M.pl++[p]).length:=by rw[n_8,hr.len,hL];omega
 obtain⟨e,a',w',hq,aA⟩:=key _ x _ w a O hP (h2.ren g1 (by rw[hr.len,hL])) (h1.ren hC g1 g2 fR hS) (gz.onlyR g1 fR hE);exact⟨e,a',w',hq,.of_steps (.one step_loop) aA⟩
section
end
theorem c6o{β:Type}{kc:α->CV}{vc:β->CV}(hk:∀a,r9 (kc a))(hv:∀b,r9 (vc b))(n:Nat)(a b:List (α×β)):G7 n (.iter (gm kc vc a) (gm kc vc b)):=⟨λx hx=>by
 obtain⟨y,_,rfl⟩:=H9.1 hx;exact⟨(hk _).old,(hv _).old⟩,λx hx=>by
 obtain⟨y,_,rfl⟩:=H9.1 hx;exact⟨(hk _).old,(hv _).old⟩⟩
theorem b0S{α:Type}:∀{l:List α} {i:Nat} {x:α},l[i]?=some x->(x::l.eraseIdx i).Perm l
 | [],_,_,h=>by cases h
 |y::l,0,x,h=>by injection h with h;subst h;exact .refl _
 |y::l,i+1,x,h=>by
  rw[List.eraseIdx_cons_succ];exact(List.Perm.swap y x _).trans ((b0S (l:=l) (i:=i) h).cons y)
def c9t:List (Nat×TyE)->Nat->Option TyE
 | [],_=>none
 |(k,e)::l,t=>match Nat.beq k t with
  |true=>some e
  |false=>c9t l t
theorem b0x{t:Nat}{e:TyE}:∀{l:List (Nat×TyE)},c9t l t=some e->(t,e)∈l
 | [],h=>by cases h
 |(k,x)::l,h=>by
  unfold c9t at h;split at h
  .rename_i hb;obtain rfl:=a2a hb;injection h with h;subst h
   exact a1l
  .exact X6 _ (b0x h)
def tyB(P:Program)(x:Nat×TyE):Bool:=match P.info? x.1,P.underlying x.1 with
 |some i,some d=>Nat.beq i.size x.2.size &&match d with
  | .struct fs=>x.2.agg && (List.range x.2.offs.length).all λi=>match fs[i]? with
   |some fd=>Nat.beq fd.offset (x.2.offs.getD i 0)&&match P.info? fd.type with
    |some j=>Nat.blt 0 j.size
    |none=>false
   |none=>false
  | .array _ _=>x.2.agg &&x.2.offs.isEmpty
  |_=>!x.2.agg &&x.2.offs.isEmpty
 |_,_=>false
theorem I7{i:TypeInfo}(h:P.info? t=some i)(w:World):(sizeOf t).run P w= .ok i.size w:=by simp[sizeOf,typeInfo,h]
theorem F6{d:TypeDesc}(h:P.underlying t=some d)(w:World):(underlying t).run P w= .ok d w:=by simp[underlying,h]
def d8F:TypeDesc->Bool
 | .struct _| .array _ _=>true
 |_=>false
theorem a9X{d:TypeDesc}(h:P.underlying t=some d)(w:World):(isAgg t).run P w= .ok (d8F d) w:=by
 unfold isAgg;rw[Sem.run_bind,F6 h];cases d<;>rfl
theorem d7W{l:List (Nat×TyE)}(h:l.all (tyB P)=true):∀x∈l,x.2.right P x.1:=λ⟨t,e⟩ hx=>by
 rw[a2d]at h;have h:=h _ hx;unfold tyB at h;split at h
 .rename_i i d hi hd;rw[O5]at h;have aJ:=a2a h.1;have h2:=h.2;have hs:∀w,(sizeOf t).run P w= .ok e.size w:=λw=>by rw[I7 hi];exact D9 (λn=>Result.ok n w) aJ
  cases d with
  |struct fs=>
   simp only[O5,a2d,List.mem_range]at h2;refine⟨λw=>by rw[a9X hd,show e.agg=true from h2.1];rfl,hs,.inr ⟨fs,F6 hd,λi o ho=>?_⟩⟩;have h3:=h2.2 i (n_3.1 ho).1;split at h3
   .rename_i fd hfd;rw[O5]at h3;have h4:=a2a h3.1;have h5:=h3.2;split at h5
    .rename_i j hj;exact⟨fd,j.size,hfd,by rw[h4,a9A];dsimp only at ho⊢;rw[ho];rfl,I7 hj,by have h6:=h5;rw[a94]at h6;omega⟩
    .cases h5
   .cases h3
  |array n t'=>
   simp only[O5]at h2;exact⟨λw=>by rw[a9X hd,show e.agg=true from h2.1];rfl,hs,.inl (b6V.1 h2.2)⟩
  |_=>
   simp only[O5,b50]at h2;exact⟨λw=>by rw[a9X hd,show e.agg=false from h2.1];rfl,hs,.inl (b6V.1 h2.2)⟩
 .cases h
def Env.vb(E:Env):Operand->Bool
 | .tmp t=>match E.g t with
  | .yes=>true
  |_=>false
 | .const v=>K4 v
 |_=>true
theorem Env.vb_ok(h:E.vb x=true):E.valid x:=by
 cases x with
 |tmp t=>
  show(E.g t).is;simp only[Env.vb]at h;generalize E.g t=g at h;cases g with
  |yes=>exact D
  |two a b=>cases h
 |const v=>exact h
 |global g=>exact D
 |func f=>exact D
theorem Env.val_h{c:CV}(h:(match x with| .tmp t=>E.h t|x=>some (E.val C x))=some c):E.val C x=c:=by
 cases x with
 |tmp t=>show(E.h t).getD _=c;rw[show E.h t=some c from h];rfl
 |_=>injection h
def e09:BinOp->Bool
 | .eql | .neq | .lss | .leq | .gtr | .geq=>true
 |_=>false
def qv(C:Ctx)(σ:List b9)(E:Env):Op->Option CV
 | .move x| .assign x=>match E.vb x with
  |true=>match x with
   | .tmp t=>E.h t
   |x=>some (E.val C x)
  |false=>none
 | .nilCheck x=>match E.vb x with
  |true=>match E.val C x with
   | .ptr k d=>some (.ptr k d)
   |_=>none
  |false=>none
 | .extract x i=>match E.vb x with
  |true=>match E.val C x with
   | .tup cs=>cs[i]?
   |_=>none
  |false=>none
 | .unOp .not _ x=>match E.vb x with
  |true=>match E.val C x with
   | .val (.bool b)=>some (.val (.bool (!b)))
   |_=>none
  |false=>none
 | .fieldAddr t x f=>match E.vb x with
  |true=>match c9t C.tab t with
   |some e=>match e.offs[f]? with
    |some d=>match E.val C x with
     | .ptr k o=>some (.ptr k (o+d))
     | .cptr cs=>some (.cptr (cs.drop d))
     | .eptr k i o=>some (.eptr k i (o+d))
     |_=>none
    |none=>none
   |none=>none
  |false=>none
 | .load t x=>match E.vb x with
  |true=>
   match c9t C.tab t with
   |some e=>match E.val C x with
    | .ptr k o=>match σ[k]? with
     |some (.boxT _ cells)=>match e.agg with
      |false=>cells[o]?
      |true=>match Nat.ble (o+e.size) cells.length with
       |true=>some (.agg ((cells.drop o).take e.size))
       |false=>none
     |_=>none
    | .cptr cells=>match e.agg with
     |false=>cells[0]?
     |true=>match Nat.ble e.size cells.length with
      |true=>some (.agg (cells.take e.size))
      |false=>none
    |_=>none
   |none=>none
  |false=>none
 | .binOp op _ x y _=>match e09 op with
  |true=>match E.vb x with
   |true=>match E.vb y with
    |true=>match E.val C x with
     | .val (.int k a)=>match E.val C y with
      | .val (.int k' b)=>if k=k' then(a7C op k a b).map CV.val else none
      |_=>none
     |_=>none
    |false=>none
   |false=>none
  |false=>none
 |_=>none
theorem e0R{c:CV}(h:qv C σ E o.op=some c):Yields C σ E o c:=by
 generalize bn:o.op=op at h;cases op with
 |move x=>
  simp only[qv]at h;split at h
  .exact a1j bn (Env.vb_ok ‹_›) (Env.val_h h)
  .cases h
 |assign x=>
  simp only[qv]at h;split at h
  .exact a1U bn (Env.vb_ok ‹_›) (Env.val_h h)
  .cases h
 |nilCheck x=>
  simp only[qv]at h;split at h
  .split at h
   .injection h with h;subst h;exact b07 bn (Env.vb_ok ‹_›) ‹_›
   .cases h
  .cases h
 |extract x i=>
  simp only[qv]at h;split at h
  .split at h
   .exact a2W bn (Env.vb_ok ‹_›) ‹_› h
   .cases h
  .cases h
 |unOp u t x=>
  cases u<;>simp only[qv]at h<;>try cases h
  split at h
  .split at h
   .injection h with h;subst h;exact b6e bn (Env.vb_ok ‹_›) ‹_›
   .cases h
  .cases h
 |fieldAddr t x f=>
  simp only[qv]at h;split at h
  .split at h
   .rename_i e he;split at h
    .rename_i d hd;obtain⟨-,-,hf⟩:=C.right _ (b0x he)
     rcases hf with hf|⟨fs,hu,hf⟩
     .dsimp only at hf;rw[hf]at hd;cases hd
     .obtain ⟨fd,s,h1,rfl,h3,h4⟩:=hf f d hd;split at h
      .injection h with h;subst h;exact j2 bn (Env.vb_ok ‹_›) ‹_› hu h1 h3 h4
      .injection h with h;subst h;exact a2U bn (Env.vb_ok ‹_›) ‹_› hu h1 h3 h4
      .injection h with h;subst h;exact c4a bn (Env.vb_ok ‹_›) ‹_› hu h1 h3 h4
      .cases h
    .cases h
   .cases h
  .cases h
 |load t x=>
  simp only[qv]at h;split at h
  .split at h
   .rename_i e he;obtain⟨ha,hs,-⟩:=C.right _ (b0x he);dsimp only at ha hs;split at h
    .split at h
     .split at h
      .rename_i gh;rw[gh]at ha;exact o5 bn (Env.vb_ok ‹_›) ‹_› ha ‹_› h
      .rename_i gh;rw[gh]at ha;split at h
       .injection h with h;subst h;exact J7 bn (Env.vb_ok ‹_›) ‹_› ha hs ‹_› (nb ‹_›)
       .cases h
     .cases h
    .split at h
     .rename_i gh;rw[gh]at ha;exact a0L bn (Env.vb_ok ‹_›) ‹_› ha h
     .rename_i gh;rw[gh]at ha;split at h
      .injection h with h;subst h;exact Y7 bn (Env.vb_ok ‹_›) ‹_› ha hs (nb ‹_›)
      .cases h
    .cases h
   .cases h
  .cases h
 |binOp op t x y t'=>
  simp only[qv]at h;split at h
  .split at h
   .split at h
    .split at h
     .split at h
      .split at h
       .rename_i hk;subst hk;rw[M6]at h;obtain⟨v,hv,rfl⟩:=h;exact T9 bn (Env.vb_ok ‹_›) (Env.vb_ok ‹_›) ‹_› ‹_› hv
       .cases h
      .cases h
     .cases h
    .cases h
   .cases h
  .cases h
 |_=>cases h
theorem H0.yes{d:Option Nat}{c:CV}(h:H0 M w n (E.put d c True) a):H0 M w n (E.putO d c .yes) a:=by
 cases d with
 |none=>exact h
 |some d=>
  refine⟨h.defers,h.size,λt ht=>?_,λt ht=>?_⟩
  .have:=h.rv t (by rw[Env.put_ok];rw[Env.putO_ok]at ht;exact ht);rw[Env.put_f]at this;rw[Env.putO_f];exact this
  .exact h.un t (by rw[Env.put_un];rw[Env.putO_un]at ht;exact ht)
section
variable{ae:Array Oper}{Ji:A8->Env->List b9->Prop}
theorem G5.yes{d:Option Nat}{c:CV}(h:G5 C n ae Ji l (E.putO d c .yes) σ):G5 C n ae Ji l (E.put d c True) σ:=λM w a hr hf=>h M w a hr hf.yes
def e0U(n:Nat)(o:Oper):Bool:=match o.dst with
 |some d=>Nat.blt d n
 |none=>true
def a8l(C:Ctx)(n:Nat)(ae:Array Oper)(Ji:A8->Env->List b9->Prop):List Oper->Env->List b9->Prop
 | [],E,σ=>Ji .normal E σ
 |o::l,E,σ=>match o.guard with
  |some _=>G5 C n ae Ji (o::l) E σ
  |none=>match e0U n o with
   |false=>G5 C n ae Ji (o::l) E σ
   |true=>match qv C σ E o.op with
    |none=>G5 C n ae Ji (o::l) E σ
    |some c=>match o.dst with
     |some d=>a8l C n ae Ji l (E.putO (some d) c .yes) σ
     |none=>a8l C n ae Ji l E σ
theorem a1x:∀{l:List Oper} {E:Env},a8l C n ae Ji l E σ->G5 C n ae Ji l E σ
 | [],_,h=>A6 h
 |o::l,E,h=>by
  unfold a8l at h;split at h
  .exact h
  .rename_i hg;split at h
   .exact h
   .rename_i hd;split at h
    .exact h
    .rename_i c hc;refine d3N hg hd (e0R hc) ?_;split at h
     .rename_i d hdd;rw[hdd];exact(a1x h).yes
     .rename_i hdd;rw[hdd];exact a1x h
def qc(C:Ctx)(n:Nat):Nat->Nat->Code->(A8->Env->List b9->Prop)->Env->List b9->Prop
 |0,_,c,Ji,E,σ=>CWp C n c Ji E σ
 |k+1,s,c,Ji,E,σ=>match c with
  | .seq x y=>match s with
   |0=>CWp C n (.seq x y) Ji E σ
   |s+1=>qc C n k 1000 x (A8.next (λE σ=>qc C n k s y Ji E σ) Ji) E σ
  | .skip=>Ji .normal E σ
  | .block id x=>qc C n k s x (A8.blk id Ji) E σ
  | .region _ ae false=>a8l C n ae Ji ae.toList E σ
  |c=>CWp C n c Ji E σ
theorem a4Q:∀{k s:Nat} {c:Code} {Ji:A8->Env->List b9->Prop} {E:Env} {σ:List b9},qc C n k s c Ji E σ->CWp C n c Ji E σ
 |0,_,_,_,_,_,h=>h
 |k+1,s,c,Ji,E,σ,h=>by
  unfold qc at h;split at h
  .split at h
   .exact h
   .refine J2 ((a4Q h).mono λe E σ h=>?_);cases e with
    |normal=>exact a4Q h
    |_=>exact h
  .exact D8 h
  .exact a3p (a4Q h)
  .exact C6 (a1x h)
  .exact h
end
section
variable{ae:Array Oper}{Ji:A8->Env->List b9->Prop}
theorem qk(h:qc C n 999 999 c Ji E σ):CWp C n c Ji E σ:=a4Q h
theorem qs(s:Nat)(h:qc C n 999 s c Ji E σ):CWp C n c Ji E σ:=a4Q h
theorem qN(aa:List b9)(he:σ=aa)(h:a8l C n ae Ji l E aa):a8l C n ae Ji l E σ:=he▸h
theorem qo(h:a8l C n ae Ji l E σ):G5 C n ae Ji l E σ:=a1x h
theorem V{c:CV}(hy:Yields C σ E o c)(h:a8l C n ae Ji l (E.putO o.dst c .yes) σ)(hg:o.guard=none:=by rfl)(hd:(match o.dst with|some d=>Nat.blt d n|none=>true)=true:=by rfl):G5 C n ae Ji (o::l) E σ:=d3N hg hd hy (a1x h).yes
theorem qD(h:D3 C σ E o λr aa=>match r with| .ret c=>a8l C n ae Ji l (E.putO o.dst c .yes) aa| .pan c=>Ji (.pan c) E aa)(hg:o.guard=none:=by rfl)(hd:(match o.dst with|some d=>Nat.blt d n|none=>true)=true:=by rfl):G5 C n ae Ji (o::l) E σ:=
 a1P hg hd (h.mono λr aa h=>by
  cases r with
  |ret c=>exact(a1x h).yes
  |pan c=>exact h)
theorem qG{j t:Nat}{av:Bool}{c:CV}(hy:b=av->Yields C σ E o c)(h:a8l C n ae Ji l (E.put o.dst c (b=av)) σ)(hg:o.guard=some (j,av):=by rfl)(ht:(ae[j]?).bind (·.dst)=some t:=by rfl)(hv:E.ok t:=by exact D)(hb:E.f t= .val (.bool b):=by rfl)
 (hd:(match o.dst with|some d=>Nat.blt d n|none=>true)=true:=by rfl):G5 C n ae Ji (o::l) E σ:=d8A hg ht hv hb hd hy (a1x h)
theorem qH{j t:Nat}{av:Bool}{c:CV}(hg:o.guard=some (j,av))(ht:(ae[j]?).bind (·.dst)=some t)(hy:E.ok t->b=av->Yields C σ E o c)(h:a8l C n ae Ji l (E.put o.dst c (E.ok t/\b=av)) σ)(hv:¬E.ok t->E.un t:=by exact λh=>h)(hb:E.f t= .val (.bool b):=by rfl)
 (hd:(match o.dst with|some d=>Nat.blt d n|none=>true)=true:=by rfl):G5 C n ae Ji (o::l) E σ:=d9r hg ht hv hb hd hy (a1x h)
theorem qC{c:Operand}{x:Code}(ht:b=true->qc C n 999 999 x Ji E σ)(hf:b=false->qc C n 999 999 y Ji E σ)(hv:E.valid c:=by first|exact D|exact O)(hc:E.val C c= .val (.bool b):=by exact O):CWp C n (.cond c x y) Ji E σ:=a2C hv hc (λh=>a4Q (ht h)) λh=>a4Q (hf h)
theorem qO{fn:Func}(hf:C.P.funcs[f]?=some fn)(h:qc C fn.ntmps 999 999 c (Fin C fn K) (Env.args args) σ)(hb:fn.body=some c:=by rfl)(hn:Nat.ble args.length fn.ntmps=true:=by rfl):b8 C f args σ K:=a5g hf hb hn (a4Q h)
end
def fen(ro:Option Nat):Fence:={Fence.wide with round:=ro}
def ndB(o:Oper):Bool:=match o.op with
 | .defer _=>false
 |_=>true
theorem d7n(h:ndB o=true)(c:Call):o.op≠.defer c:=λe=>by
 unfold ndB at h;rw[e]at h;cases h
theorem d9I{ro:Option Nat}{next eB:Act->World->Prop}{Ji Q':Exit->Act->World->Prop}(hd:ndB o=true)(hn:∀a w,next a w->eB a w)(hq:∀ch w,Ji (.panic ch) a w->Q' (.panic ch) a w)(bp:¬LetsOut Ji)(h:o.wp P a w next Ji):o.wpIn (fen ro) 0 P a w eB Q':=by
 refine⟨λ_ _=>trivial,?_⟩;rw[Oper.semAt_eq _ _ _ (d7n hd)];unfold Oper.wp at h;generalize (execOp a.eval o).run P w=r at h;have nod:∀{p:Prop},(fen ro).depth.isSome=true->p:=λh=>by cases h
 cases r with
 |ok x w3=>
  cases x<;>simp only[Oper.upon]at h<;>simp only[Oper.uponIn]
  case value v=>exact hn _ _ h
  case skip=>exact hn _ _ h
  case defer d=>exact hn _ _ h
  case enter f args=>
   refine⟨nod,(callsIn_wide (n:=0)).2 (h.mono λe w4 he=>?_)⟩;cases e with
   |returned v=>exact hn _ _ he
   |panicked ch=>exact hq _ _ he
   |outgrown=>exact absurd he bp
  case row r args=>
   refine⟨nod,λc cs _=>?_⟩;obtain⟨v,w',r,s⟩:=h c cs;exact⟨v,w',hn _ _ r,stepsIn_wide.2 s⟩
 |halt x w3=>
  cases x<;>simp only[Oper.upon]at h<;>simp only[Oper.uponIn]
  exact hq _ _ h
theorem a71{ro:Option Nat}{P:Program}{ae:Array Oper}{rest:List Oper}{Ji Q':Exit->Act->World->Prop}(hn:∀a w,Ji .normal a w->wpListIn (fen ro) 0 P ae Q' rest a w)(hq:∀a ch w,Ji (.panic ch) a w->Q' (.panic ch) a w)(bp:¬LetsOut Ji):∀(l:List Oper),l.all ndB=true->∀(a:Act) (w:World),wpList P ae Ji l a w->wpListIn (fen ro) 0 P ae Q' (l++rest) a w
 | [],_,a,w,h=>hn a w h
 |o::l,hd,a,w,h=>by
  rw[b1F,O5]at hd;unfold wpList at h;show wpListIn (fen ro) 0 P ae Q' (o::(l++rest)) a w;unfold wpListIn
  split
  .rename_i hw;rw[W hw]at h
   rcases h with h|⟨_,h⟩
   .exact d9I hd.1 (a71 hn hq bp l hd.2) (hq a) bp h
   .exact absurd h bp
  .rename_i hw;rw[G hw]at h;exact⟨λ_ _=>trivial,a71 hn hq bp l hd.2 _ _ h⟩
theorem b34{Ji:A8->Env->List b9->Prop}:¬LetsOut (R0 C n Ji M w):=λ⟨_,_,h⟩=>by
 obtain⟨_,_,_,_,_,_,h⟩:=h;exact h
def a6J(C:Ctx)(n:Nat)(c:Code)(Ji:A8->Env->List b9->Prop)(E:Env)(σ:List b9):Prop:=
 ∀(ro:Option Nat) (M:A5) (w:World) (a:Act),Rel C M σ w->H0 M w n E a->c.wpIn (fen ro) 0 C.P (R0 C n Ji M w) a w
section
variable{Ji:A8->Env->List b9->Prop}
theorem d4H{c':Code}(e:c=c')(h:a6J C n c' Ji E σ):a6J C n c Ji E σ:=e▸h
theorem d2z(h:Ji .normal E σ):a6J C n .skip Ji E σ:=λ_ M w _ hr hf=>wpIn_skip ⟨E,σ,M,Ext.refl M w,hr,hf,h⟩
theorem d1W(h:Ji (.exit id) E σ):a6J C n (.exit id) Ji E σ:=λ_ M w _ hr hf=>wpIn_exit ⟨E,σ,M,Ext.refl M w,hr,hf,h⟩
theorem b9P{x:Code}(h:a6J C n x (A8.next (a6J C n y Ji) Ji) E σ):a6J C n (.seq x y) Ji E σ:=λro M w a hr hf=>by
 refine wpIn_seq (wpIn_mono (h ro M w a hr hf) λe a' w' hl=>?_);obtain⟨E',aa,M',h1,h2,h3,h4⟩:=hl;cases e with
 |normal=>exact wpIn_mono (h4 ro M' w' a' h2 h3) λ_ _ _=>R0.later h1
 |_=>exact⟨E',aa,M',h1,h2,h3,h4⟩
theorem d2c{c:Operand}{x:Code}(hv:E.valid c)(hc:E.val C c= .val (.bool b))(ht:b=true->a6J C n x Ji E σ)(gz:b=false->a6J C n y Ji E σ):a6J C n (.cond c x y) Ji E σ:=λro M w a hr hf=>by
 have h1:RV M w (E.val C c) (a.eval c):=hf.eval hr hv;rw[hc]at h1;have h2:a.eval c= .bool b:=by generalize a.eval c=u at h1;cases h1;rfl
 exact wpIn_cond_split h2 (λh=>ht h ro M w a hr hf) (λh=>gz h ro M w a hr hf)
theorem a5q{ae:Array Oper}(hd:ae.toList.all ndB=true)(h:G5 C n ae Ji ae.toList E σ):a6J C n (.region id ae false) Ji E σ:=λro M w a hr hf=>by
 refine wpIn_region_list ?_;have:=a71 (ro:=ro) (rest:=[]) (λa w h=>h) (λ_ _ _ h=>h) b34 ae.toList hd a w (h M w a hr hf);rwa[a1f]at this
def a8E(C:Ctx)(k:Nat)(args:List CV)(σ:List b9)(K:N8->List b9->Prop):Prop:=
 ∀(M:A5) (w:World) (vs:Array Value) (p:Pl),Rel C M σ w->M.pl[k]?=some p->vs.size=args.length->(∀(i:Nat) (c:CV),args[i]?=some c->RV M w c (vs.getD i undef)) ->
  YieldAt Fence.wide 0 C.P p.block vs w λ
   | .returned v,w'=>a05 C M w K v w'
   | .panicked ch,w'=>S8 C M w K ch w'
   | .outgrown,_=>False
theorem a8E.mono{K':N8->List b9->Prop}(hd:a8E C k args σ K)(h:∀r σ,K r σ->K' r σ):a8E C k args σ K':=
 λM w vs p hr hp hn hx=>by
  obtain⟨fn,tm,a,b,h1,h2⟩:=hd M w vs p hr hp hn hx;exact⟨fn,tm,a,b,h1,h2.mono λe w' he=>by
   cases e with
   |returned v=>exact a05.mono h he
   |panicked c=>exact S8.mono h he
   |outgrown=>exact he⟩
theorem b7y{id k:Nat}{ae:Array Oper}{pre post:List Oper}{o:Oper}{y:Operand}{xs:Array Operand}{ts:Array TypeId}{cargs:List CV}(hs:ae.toList=pre++o::post)(h1:pre.all ndB=true)(h2:post.all ndB=true)(hg:o.guard=none)(hd:(match o.dst with|some d=>d<n|none=>True))(ho:o.op = .call {callee:=.value y,args:=xs,argTypes:=ts})
 (h:G5 C n ae (A8.next (λE' aa=>E'.valid y/\E'.val C y= .yld k/\E'.valids xs.toList/\E'.vals C xs.toList=cargs/\a8E C k cargs aa λr bG=>match r with
  | .ret c=>G5 C n ae Ji post (E'.putO o.dst c .yes) bG
  | .pan c=>Ji (.pan c) E' bG) Ji) pre E σ):CWp C n (.region id ae false) Ji E σ:=λM w a hr hf=>by
 refine(wpIn_wide (n:=0)).1 (wpIn_region_list ?_);rw[hs];refine a71 (ro:=none) ?_ ?_ b34 pre h1 a w (h M w a hr hf)
 case refine_2=>exact λ_ _ _ h=>h
 intro a1 w1 hl;obtain⟨E',aa,M',k1,k2,k3,hv,ey,iA,eas,hy⟩:=hl;have hfy:=k3.eval k2 hv;rw[ey]at hfy;generalize hcy:a1.eval y=fv at hfy;cases hfy with
 | @yld _ p hp=>
  have hx:∀(i:Nat) (c:CV),cargs[i]?=some c->RV M' w1 c ((xs.map a1.eval).getD i undef):=λi c hi=>by
   subst eas;rw[<- Env.vals_map,P8,M6]at hi;obtain⟨x,hx,rfl⟩:=hi;have aC:xs[i]?=some x:=H hx;have hm:x∈xs:=b4J aC;rw[a0D,c0q,aC];exact k3.eval k2 (Env.valids_mem iA x (H hm))
  obtain⟨fn,tm,asg,body,ay,hround⟩:=hy M' w1 (xs.map a1.eval) p k2 hp (by subst eas;rw[<- Env.vals_map];simp) hx;have bB:(execOp a1.eval o).run C.P w1= .ok (.round p.block fn tm asg body) w1:=by
   simp[execOp,ho,resolve,hcy,Deferred.ofValue,invoke,ay]
  unfold wpListIn;rw[W (by simp[Region.wanted,hg])];refine⟨λ_ _=>trivial,?_⟩;rw[Oper.semAt_eq _ _ _ (λc e=>by rw[ho]at e;cases e),bB];refine⟨λh=>(by cases h),?_⟩;refine hround.mono λe w2 he=>?_;cases e with
  |returned v=>
   obtain⟨c,bG,gM,g1,g2,g3,g4⟩:=he;have gt:H0 gM w2 n (E'.putO o.dst c .yes) (a1.put o.dst v):=((k3.mono g1).put (λt ht=>by rw[ht]at hd;exact hd) (λ_=>g3) λhh=>absurd trivial hh).yes;have:=a71 (ro:=none) (rest:=[]) (Q':=R0 C n Ji M w) (λa w h=>R0.later (k1.trans g1) h) (λ_ _ _ h=>R0.later (k1.trans g1) h) b34 post h2 _ w2 (g4 gM w2 _ g2 gt);rwa[a1f]at this
  |panicked ch=>
   obtain⟨c,v,bG,gM,g0,g1,g2,g3,g4⟩:=he;exact⟨E',bG,gM,k1.trans g1,g2,k3.mono g1,c,v,g0,g3,g4⟩
  |outgrown=>exact he.elim
theorem b3q{M:A5}{w:World}{n:Nat}{tmps:Array Value}(hs:tmps.size=n):∀{l:List (Nat×CV)},(∀x∈l,RV M w x.2 (tmps.getD x.1 undef))->H0 M w n (Env.only l) {tmps,defers:=[]}
 | [],_=>⟨O,hs,λ_ h=>h.elim,λ_ h=>h.elim⟩
 |(t,c)::l,h=>by
  have ih:=b3q hs (l:=l) λx hx=>h x (X6 _ hx);refine⟨O,hs,λx hx=>?_,λx hx=>?_⟩
  .show RV M w (((Env.only l).putO (some t) c .yes).f x) _;have hx:((Env.only l).putO (some t) c .yes).ok x:=hx;rw[Env.putO_f];rw[Env.putO_ok]at hx
   split
   .subst x;exact h (t,c) a1l
   .rename_i aB;rw[G aB]at hx;exact ih.rv x hx
  .have hx:((Env.only l).putO (some t) c .yes).un x:=hx;rw[Env.putO_un]at hx;split at hx
   .exact absurd trivial hx
   .exact ih.un x hx
def c6i(o:Loop)(n:Nat)(cs:List (Nat×CV))(k:Nat)(K:N8->List b9->Prop)(e:A8)(σ:List b9):Prop:=
 σ[k]?=some (.lp {o with state:=.busy} n cs)/\match e with
  | .normal=>K (.ret (.val (.bool true))) (σ.set k (.lp {o with state:=.ready,pending:=none} n cs))
  | .ret=>K (.ret (.val (.bool false))) (σ.set k (.lp {o with state:=.done,pending:=some .ret} n cs))
  | .exit id=>K (.ret (.val (.bool false))) (σ.set k (.lp {o with state:=.done,pending:=some (.exit id)} n cs))
  | .goto t=>K (.ret (.val (.bool false))) (σ.set k (.lp {o with state:=.done,pending:=some (.goto t)} n cs))
  | .pan _=>False
theorem b5i(hr:Rel C M σ w){o o':Loop}{cs:List (Nat×CV)}(hk:M.pl[k]?=some p)(au:σ[k]?=some (.lp o n cs)):
 ∃tmps,w.heap[p.block]?=some (.loop {o with tmps})/\tmps.size=n/\(∀x∈cs,RV M w x.2 (tmps.getD x.1 undef))/\Ext M w M (World.putObj w p.block (.loop {o' with tmps}))/\Rel C M (σ.set k (.lp o' n cs)) (World.putObj w p.block (.loop {o' with tmps})):=by
 obtain⟨⟨tm,e1,e2,e3⟩,f1,f2⟩:=hr.obj k p _ hk au;have hx:=Ext.putObj (w:=w) (.loop {o' with tmps:=tm}) (hr.nk k p _ hk au rfl) f1 f2;exact⟨tm,e1,e2,e3,hx,hr.putObj hk au O f1 f2 _ ⟨tm,World.putObj_same w _ (a1N.1 e1).1,e2,λx aC=>(e3 x aC).mono hx⟩⟩
theorem c4g{t:Nat}{o:Loop}{cs:List (Nat×CV)}{c:CV}(au:σ[k]?=some (.lp o n cs))(hs:o.state = .ready)(hp:o.params = #[t])(ht:Nat.blt t n=true)
 (h:a6J C n o.assign (λe E' aa=>e= .normal/\aa[k]?=some (.lp o n cs)/\a6J C n o.body (λe _ bG=>c6i o n cs k K e bG) E' (aa.set k (.lp {o with state:=.busy} n cs))) ((Env.only cs).putO (some t) c .yes) σ):a8E C k [c] σ K:=λM w vs p hr hk aJ hx=>by
 obtain⟨tm,e1,e2,e3,-,-⟩:=b5i (o':=o) hr hk au;obtain⟨v,rfl⟩:∃v,vs= #[v]:=by
  obtain⟨l⟩:=vs
  match l,aJ with
  | [v],_=>exact⟨v,O⟩
 have hv:RV M w c v:=hx 0 c O;have hf0:=b3q (n:=n) e2 e3;have dg:H0 M w n ((Env.only cs).putO (some t) c .yes) (({tmps:=tm,defers:=[]}:Act).put (some t) v):=(hf0.put (λt' gr=>by injection gr with gr;subst gr;rw[a94]at ht;exact ht) (λ_=>hv) λhh=>absurd trivial hh).yes;have hy:=run_yield (P:=C.P) (args:=#[v]) e1 (by simp[hp]);refine⟨_,_,_,_,hy,?_⟩;have etm:(({o with tmps:=tm}:Loop).params.zip #[v]).foldl (λtmps (t,a)=>tmps.setIfInBounds t a) tm=tm.setIfInBounds t v:=by
  show(o.params.zip #[v]).foldl _ tm=_;rw[hp];simp
 refine roundIn_of_wpIn trivial ?_;have hb:=h (some p.block) M w _ hr dg;refine wpIn_mono (F:=fen (some p.block)) (a:=({tmps:=_,defers:=[]}:Act)) (by rw[etm];exact hb) λe a1 w1 hl=>?_;obtain⟨E',aa,M',g1,g2,g3,g4⟩:=hl;cases e with
 |normal=>
  obtain⟨-,hσ',hbody⟩:=g4;have aL:=g1.get hk;obtain⟨tm1,q1,q2,q3,q4,q5⟩:=b5i (o':={o with state:=.busy}) g2 aL hσ';refine⟨_,run_beginRound q1 hs,?_⟩;refine wpIn_mono (hbody (some p.block) M' _ a1 q5 (g3.mono q4)) λe a2 w2 hl=>?_;obtain⟨E'',bG,gM,k1,k2,k3,k4⟩:=hl;have hk'':=k1.get aL;have gq:∀(jump:Option Code) (b:Bool),jump.isNone=b->bG[k]?=some (.lp {o with state:=.busy} n cs)->K (.ret (.val (.bool b))) (bG.set k (.lp {o with state:=if jump.isNone then .ready else .done,pending:=jump} n cs)) ->
   ∃v w',(Instr.endRound p.block jump).run C.P w2= .ok v w'/\a05 C M w K v w':=λjump b hjb hs'' hk3=>by
   obtain⟨tm2,r1,r2,r3,r4,r5⟩:=b5i (o':={o with state:=if jump.isNone then .ready else .done,pending:=jump}) k2 hk'' hs'';refine⟨_,_,run_endRound jump r1,?_⟩;rw[hjb]at*;exact⟨_,_,gM,((g1.trans q4).trans k1).trans r4,r5,.val _,hk3⟩
  cases e with
  |normal=>exact gq none true O k4.1 k4.2
  |ret=>exact gq (some .ret) false O k4.1 k4.2
  |exit id=>exact gq (some (.exit id)) false O k4.1 k4.2
  |goto l=>exact gq (some (.goto l)) false O k4.1 k4.2
  |panic ch=>
   obtain⟨_,_,_,_,h1,h2⟩:=k4;exact h2.elim
  |outgrown=>exact k4
 |exit id=>cases g4.1
 |goto l=>cases g4.1
 |ret=>cases g4.1
 |panic ch=>
  obtain⟨_,_,_,_,h1,h2⟩:=g4;cases h1
 |outgrown=>exact g4
theorem c8T(h:a6J C n c (A8.blk id Ji) E σ):a6J C n (.block id c) Ji E σ:=λro M w a hr hf=>by
 refine wpIn_block (wpIn_mono (h ro M w a hr hf) λe a' w' hl=>?_);obtain⟨E',aa,M',h1,h2,h3,h4⟩:=hl;cases e with
 |exit id'=>
  simp only[Exit.inBlock];simp only[A8.blk]at h4
  split<;>rename_i gX
  .rw [W gX]at h4;exact⟨E',aa,M',h1,h2,h3,h4⟩
  .rw [G gX]at h4;exact⟨E',aa,M',h1,h2,h3,h4⟩
 |_=>exact⟨E',aa,M',h1,h2,h3,h4⟩
def b52(p:Pl):List Deferred:=[{target:=.collected p.block,args:=#[]}]
def b7e(kD:Nat)(C:Ctx)(n:Nat)(Ji:A8->Env->List b9->Prop)(M:A5)(w:World)(e:Exit)(a':Act)(w':World):Prop:=
 ∃E' aa M' p a0,M'.pl[kD]?=some p/\a'=addDs (b52 p) a0/\Ext M w M' w'/\Rel C M' aa w'/\H0 M' w' n E' a0/\match e with
  | .normal=>Ji .normal E' aa
  | .exit id=>Ji (.exit id) E' aa
  | .ret=>Ji .ret E' aa
  |_=>False
theorem b7e.later{M1:A5}{w1:World}(he:Ext M w M1 w1){e:Exit}{w':World}(hl:b7e kD C n Ji M1 w1 e a w'):b7e kD C n Ji M w e a w':=by
 obtain⟨E',aa,M',p,a0,h1,h2,h3,h4⟩:=hl;exact⟨E',aa,M',p,a0,h1,h2,he.trans h3,h4⟩
def a63(kD:Nat)(C:Ctx)(n:Nat)(c:Code)(Ji:A8->Env->List b9->Prop)(E:Env)(σ:List b9):Prop:=
 ∀(M:A5) (w:World) (a:Act),Rel C M σ w->H0 M w n E a->c.wpIn Fence.wide 0 C.P (b7e kD C n Ji M w) a w
theorem b1a{x:Code}(h:CWp C n x (λe E σ=>e= .normal/\a63 kD C n y Ji E σ) E σ):a63 kD C n (.seq x y) Ji E σ:=λM w a hr hf=>by
 refine wpIn_seq (wpIn_mono (wpIn_wide.2 (h M w a hr hf)) λe a' w' hl=>?_);obtain⟨E',aa,M',h1,h2,h3,h4⟩:=hl;cases e with
 |normal=>exact wpIn_mono (h4.2 M' w' a' h2 h3) λ_ _ _=>b7e.later h1
 |exit id=>cases h4.1
 |goto l=>cases h4.1
 |ret=>cases h4.1
 |panic ch=>
  obtain⟨_,_,_,_,h,_⟩:=h4;cases h
 |outgrown=>exact h4.elim
theorem d2y{kD:Nat}{x y:Code}(h:a63 kD C n x (λe E σ=>e= .normal/\∀ds,a44 ds C n y (λe E σ=>match e with
 | .normal=>Ji .normal E σ
 | .ret=>Ji .ret E σ
 |_=>False) E σ) E σ):a63 kD C n (.seq x y) Ji E σ:=λM w a hr hf=>by
 refine wpIn_seq (wpIn_mono (h M w a hr hf) λe a' w' hl=>?_);obtain⟨E',aa,M',p,a0,hp,rfl,h1,h2,h3,h4⟩:=hl;cases e with
 |normal=>
  refine wpIn_mono (wpIn_wide.2 (h4.2 (b52 p) M' w' a0 h2 h3)) λe a1 w1 hl=>?_;obtain⟨a2,rfl,E2,σ2,M2,k1,k2,k3,k4⟩:=hl;refine⟨E2,σ2,M2,p,a2,k1.get hp,O,h1.trans k1,k2,k3,?_⟩;cases e with
  |normal=>exact k4
  |ret=>exact k4
  |exit id=>exact k4.elim
  |goto l=>exact k4.elim
  |panic ch=>
   obtain⟨_,_,_,_,h⟩:=k4;exact h.elim
  |outgrown=>exact k4.elim
 |exit id=>cases h4.1
 |ret=>cases h4.1
 |goto l=>exact h4.elim
 |panic ch=>exact h4.elim
 |outgrown=>exact h4.elim
theorem d0j(h:a63 kD C n c (A8.blk id Ji) E σ):a63 kD C n (.block id c) Ji E σ:=λM w a hr hf=>by
 refine wpIn_block (wpIn_mono (h M w a hr hf) λe a' w' hl=>?_);obtain⟨E',aa,M',p,a0,hp,h0,h1,h2,h3,h4⟩:=hl;cases e with
 |exit id'=>
  simp only[Exit.inBlock];simp only[A8.blk]at h4
  split<;>rename_i gX
  .rw [W gX]at h4;exact⟨E',aa,M',p,a0,hp,h0,h1,h2,h3,h4⟩
  .rw [G gX]at h4;exact⟨E',aa,M',p,a0,hp,h0,h1,h2,h3,h4⟩
 |_=>exact⟨E',aa,M',p,a0,hp,h0,h1,h2,h3,h4⟩
theorem c7e{g:Operand}{ps:Array Nat}{asg body:Code}{gf:FuncId}{aE:List CV}{cs:List (Nat×CV)}(hv:E.valid g)(eg:E.val C g= .clo gf aE)(az:∀args w,(callFunc gf args).run C.P w= .ok (.enter gf args) w)(hcs:E.is cs)
 (h:∀o:Loop,o.state = .ready->o.pending=none->o.params=ps->o.assign=asg->o.body=body->b8 C gf (.yld (σ.length+1)::aE) (σ++[.blk (.deferred (some [])),.lp o n cs]) λr τ=>(∃c,r= .ret c)/\∃o':Loop,τ[σ.length+1]?=some (.lp o' n cs)/\o'.state≠.busy/\match o'.pending with
  |none=>Ji .normal E (τ.set (σ.length+1) (.lp {o' with state:=.exhausted} n cs))
  |some .ret=>Ji .ret E (τ.set (σ.length+1) (.lp {o' with state:=.exhausted} n cs))
  |some (.exit id)=>Ji (.exit id) E (τ.set (σ.length+1) (.lp {o' with state:=.exhausted} n cs))
  |_=>False):a63 σ.length C n (.rangeFunc g ps asg body) Ji E σ:=λM w a hr hf=>by
 have hg:=hf.eval hr hv;rw[eg]at hg;generalize hgv:a.eval g=fv at hg;cases hg with
 | @clo _ _ vs aJ iA=>
 refine wpIn_rangeFunc λfn cr=>?_
 let o:Loop:={state:=.ready,pending:=none,fn,tmps:=a.tmps,params:=ps,assign:=asg,body,defers:=w.heap.size}
 have x1:=Ext.alloc hr ⟨w.heap.size,0,0⟩ (.deferred (some []));have r1:=hr.alloc ⟨w.heap.size,0,0⟩ (.deferred (some [])) (.blk (.deferred (some []))) O (A2 _ _);have x2:=Ext.alloc r1 ⟨w.heap.size+1,0,0⟩ (.loop o);have hcsr:∀{l:List (Nat×CV)},E.is l->∀x∈l,RV M w x.2 (a.tmps.getD x.1 undef):=λ{l}=>by
  induction l with
  |nil=>intro _ x hx;cases hx
  |cons y l ih=>
   obtain⟨t,c⟩:=y;intro⟨⟨g1,g2⟩,g3⟩ x hx
   rcases J6.1 hx with rfl|hx
   .exact g2▸hf.rv t g1
   .exact ih g3 x hx
 have r2:=r1.alloc ⟨w.heap.size+1,0,0⟩ (.loop o) (.lp o n cs) (by rw[b8t]) ⟨a.tmps,by
  have:=A2 (w.alloc (.deferred (some []))) (.loop o);rw[b8t]at this;exact this,hf.size,λx hx=>((hcsr hcs x hx).mono x1).mono x2⟩
 have bf:((M.add ⟨w.heap.size,0,0⟩).add ⟨w.heap.size+1,0,0⟩).pl[σ.length+1]?=some ⟨w.heap.size+1,0,0⟩:=by
  simp[A5.add,hr.len]
 have hpd:((M.add ⟨w.heap.size,0,0⟩).add ⟨w.heap.size+1,0,0⟩).pl[σ.length]?=some ⟨w.heap.size,0,0⟩:=by
  simp[A5.add,hr.len]
 have hc:=h o O O O O O ((M.add ⟨w.heap.size,0,0⟩).add ⟨w.heap.size+1,0,0⟩) ((w.alloc (.deferred (some []))).alloc (.loop o)) (#[.func (.yield (w.heap.size+1)) #[] #[]]++vs) (by rw[H4]at r2;exact r2) (by simp[aJ];omega) λi c hi=>by
  rcases i with _|i
  .simp at hi;subst hi;have e0:(#[Value.func (.yield (w.heap.size+1)) #[] #[]]++vs).getD 0 undef= .func (.yield (w.heap.size+1)) #[] #[]:=by
    rw[a0D,b6Y];simp
   rw[e0];exact .yld (p:=⟨w.heap.size+1,0,0⟩) bf
  .have bh:aE[i]?=some c:=H hi;have:=((iA i c bh).mono x1).mono x2;simp only[a0D,b6Y]at this⊢;simpa using this
 refine⟨w.heap.size+1,b52 ⟨w.heap.size,0,0⟩,(w.alloc (.deferred (some []))).alloc (.loop o),{target:=.fn (.func gf) vs,args:=#[.func (.yield (w.heap.size+1)) #[] #[]]},(w.alloc (.deferred (some []))).alloc (.loop o),gf,#[.func (.yield (w.heap.size+1)) #[] #[]]++vs,(w.alloc (.deferred (some []))).alloc (.loop o),run_enterLoop_outer _ _ _ _ _,?_,?_,?_,?_,?_⟩
 .simp [resolve,hgv,Deferred.ofValue];rfl
 .exact λ_ _=>trivial
 .simp [invoke,az]
 .exact λh=>by cases h
 .refine (callsIn_wide (n:=0)).2 (hc.mono λe w3 he=>?_);have ha:({a with defers:=b52 ⟨w.heap.size,0,0⟩++a.defers}:Act)=addDs (b52 ⟨w.heap.size,0,0⟩) a:=by simp[addDs,hf.defers]
  rw[ha];cases e with
  |returned v=>
   obtain⟨c,τ,M3,k1,k2,k3,-,o',g1,g2,g3⟩:=he;obtain⟨tm,q1,q2,q3,q4,q5⟩:=b5i (o':={o' with state:=.exhausted}) k2 (k1.get bf) g1;have hx:=((x1.trans x2).trans k1).trans q4;refine⟨o'.pending,_,run_endLoop (r:={o' with tmps:=tm}) q1 g2,?_⟩;have hf3:=hf.mono hx;have hp3:=(k1.trans q4).get hpd;generalize o'.pending=pe at g3 hx q5 hf3⊢;cases pe with
   |none=>exact⟨E,_,M3,_,a,hp3,O,hx,q5,hf3,g3⟩
   |some cd=>
    cases cd with
    |ret=>exact wpIn_ret ⟨E,_,M3,_,a,hp3,O,hx,q5,hf3,g3⟩
    |exit id=>exact wpIn_exit ⟨E,_,M3,_,a,hp3,O,hx,q5,hf3,g3⟩
    |_=>exact g3.elim
  |panicked ch=>
   obtain⟨c,v,τ,M3,h0,k1,k2,k3,⟨⟨_,h⟩,_⟩⟩:=he;cases h
  |outgrown=>exact he.elim
theorem c0r{fn:Func}(hf:C.P.funcs[f]?=some fn)(hb:fn.body=some c)(hn:Nat.ble args.length fn.ntmps=true)
 (h:a63 kD C fn.ntmps c (λe E' aa=>match e with
  | .normal | .ret=>aa[kD]?=some (.blk (.deferred (some [])))/\∃c,V8 C E' (aa.set kD (.blk (.deferred none))) fn c/\K (.ret c) (aa.set kD (.blk (.deferred none)))
  |_=>False) (Env.args args) σ):b8 C f args σ K:=λM w vs hr aJ hx=>by
 refine(callsIn_wide (n:=0)).1 (callsIn_of_wp_marks hf hb trivial (wpIn_mono (h M w _ hr (a8j (nb hn) aJ hx)) λe a w' hl=>?_) O);obtain⟨E',aa,M',p,a0,hp,rfl,h1,h2,h3,h4⟩:=hl;have gq:∀{c:CV},aa[kD]?=some (.blk (.deferred (some [])))->V8 C E' (aa.set kD (.blk (.deferred none))) fn c->K (.ret c) (aa.set kD (.blk (.deferred none)))->LeavesInM Fence.wide 0 C.P fn a0.tmps (λ
  | .returned v,w'=>a05 C M w K v w'
  | .panicked ch,w'=>S8 C M w K ch w'
  | .outgrown,_=>False) (addDs (b52 p) a0).defers .returning w':=λ{c} hd hc hk=>by
  have cm:(addDs (b52 p) a0).defers=b52 p:=by simp[addDs,h3.defers]
  rw[cm];obtain⟨e1,f1,f2⟩:=h2.obj kD p _ hp hd;have x1:=Ext.putObj (w:=w') (.deferred none) (h2.nk kD p _ hp hd O) f1 f2;have r1:=h2.putObj hp hd O f1 f2 (.deferred none) (ob:=.blk (.deferred none)) (World.putObj_same w' _ (a1N.1 e1).1);obtain⟨v,eY,cB⟩:=hc M' _ a0 r1 λt ht=>(h3.rv t ht).mono x1;refine⟨Q,.inl ⟨_,_,O,run_takeDeferred e1,?_⟩⟩;exact⟨v,eY,c,_,M',h1.trans x1,r1,cB,hk⟩
 cases e with
 |normal=>obtain⟨hd,c,hc,hk⟩:=h4;exact gq hd hc hk
 |ret=>obtain⟨hd,c,hc,hk⟩:=h4;exact gq hd hc hk
 |exit id=>exact h4.elim
 |goto l=>exact h4.elim
 |panic ch=>exact h4.elim
 |outgrown=>exact h4.elim
end
section
variable{Ji:A8->Env->List b9->Prop}{ds:List Deferred}
theorem c4T(h:a44 ds C n c (A8.blk id Ji) E σ):a44 ds C n (.block id c) Ji E σ:=λM w a hr hf=>by
 refine wp_block (wp_mono (h M w a hr hf) λe a' w' hl=>?_);obtain⟨a0,rfl,E',aa,M',h1,h2,h3,h4⟩:=hl;cases e with
 |exit id'=>
  simp only[Exit.inBlock];simp only[A8.blk]at h4
  split<;>rename_i gX
  .rw [W gX]at h4;exact⟨a0,O,E',aa,M',h1,h2,h3,h4⟩
  .rw [G gX]at h4;exact⟨a0,O,E',aa,M',h1,h2,h3,h4⟩
 |_=>exact⟨a0,O,E',aa,M',h1,h2,h3,h4⟩
theorem c8j{l:List (Nat×CV)}(hE:E.is l)(h:a44 ds C n c Ji (E.puts l) σ):a44 ds C n c Ji E σ:=λM w a hr hf=>h M w a hr (hf.puts hE)
theorem d9v{next eB:Act->World->Prop}{Ji Q':Exit->Act->World->Prop}(hn:∀a w,next a w->eB (addDs ds a) w)(hq:∀e a w,Ji e a w->Q' e (addDs ds a) w)(h:o.wp P a w next Ji):o.wp P (addDs ds a) w eB Q':=by
 unfold Oper.wp at h⊢;change o.upon P (addDs ds a) _ _ ((execOp a.eval o).run P w);generalize (execOp a.eval o).run P w=r at h;cases r with
 |ok x w3=>
  cases x<;>simp only[Oper.upon]at h⊢
  case value v=>rw[T2];exact hn _ _ h
  case skip=>rw[T2];exact hn _ _ h
  case defer d=>rw[a8Q];exact hn _ _ h
  case enter f args=>
   refine h.mono λe w4 he=>?_;cases e with
   |returned v=>show eB ((addDs ds a).put o.dst v) w4;rw[T2];exact hn _ _ he
   |panicked ch=>exact hq _ _ _ he
   |outgrown=>obtain⟨a0,w0,h⟩:=he;exact⟨_,w0,hq _ a0 w0 h⟩
  case row r args=>exact Rows.mono h λ_ _ he=>by rw[T2];exact hn _ _ he
 |halt x w3=>
  cases x<;>simp only[Oper.upon]at h⊢
  exact hq _ _ _ h
theorem b4V{P:Program}{md:Region.Mode}{ae:Array Oper}{Ji Q':Exit->Act->World->Prop}(hq:∀e a w,Ji e a w->Q' e (addDs ds a) w):∀(fuel:Nat) (fW:Array Bool) (a:Act) (w:World),wpAny P md ae Ji fuel fW a w->wpAny P md ae Q' fuel fW (addDs ds a) w
 |0,_,a,w,h=>⟨h.1,hq _ _ _ h.2⟩
 |fuel+1,fW,a,w,h=>by
  refine⟨λhr=>hq _ _ _ (h.1 hr),λi hi=>?_⟩;have hh:=h.2 i hi;unfold wpOp at hh⊢
  split
  .rename_i ho;rw[ho]at hh;exact b4V hq fuel _ _ _ hh
  .rename_i o ho;rw[ho]at hh;dsimp only at hh;change if Region.wanted o (yielded ae a.tmps)=true then _ else _
   split
   .rename_i hw;rw[W hw]at hh;exact hh.imp (d9v (λ_ _=>b4V hq fuel _ _ _) hq) λ⟨h1,a0,w0,h2⟩=>⟨h1,_,w0,hq _ a0 w0 h2⟩
   .rename_i hw;rw[G hw]at hh;rw[T2];exact b4V hq fuel _ _ _ hh
theorem c47{ae:Array Oper}(qs ms hd:List Nat){tl:List (Nat×List Nat)}(hm:C.P.follows .mixedOrders=true)(hB:b1c ae qs ms hd tl=true)(bX:(ae.toList.all λo=>match o.dst with|some d=>Nat.blt d n|none=>true)=true)
 (h:a0T C σ ae (λE' S=>Q8 C ae qs Ji S tl E' σ) hd E []):a44 ds C n (.region id ae true) Ji E σ:=λM w a hr hf=>wp_region_any hm (b4V (λ_ a0 _ h=>⟨a0,O,h⟩) _ _ _ _ (b3N qs ms hd hB bX h hr hf))
theorem c8B(h:a63 kD C n c Ji E σ):a63 kD C n (.scope c) Ji E σ:=λM w a hr hf=>
 (wpIn_wide (n:=0)).2 (wp_scope_straight (wp_mono ((wpIn_wide (n:=0)).1 (h M w a hr hf)) λe a' w' hl=>by
  cases e with
  |goto l=>obtain⟨_,_,_,_,_,_,_,_,_,_,h⟩:=hl;exact h.elim
  |_=>exact hl))
theorem d1H(h:∀E0,E=E0->a63 kD C n c Ji E0 σ):a63 kD C n c Ji E σ:=h E O
theorem d1T{kD:Nat}{x y:Code}(R:Env->List b9->Prop)(h:a63 kD C n x (λe E σ=>e= .normal/\R E σ) E σ)(k:∀E σ,R E σ->∀ds,a44 ds C n y (λe E σ=>match e with
 | .normal=>Ji .normal E σ
 | .ret=>Ji .ret E σ
 |_=>False) E σ):a63 kD C n (.seq x y) Ji E σ:=
 d2y λM w a hr hf=>wpIn_mono (h M w a hr hf) λe a' w' hl=>by
  obtain⟨E',aa,M',p,a0,hp,h0,h1,h2,h3,h4⟩:=hl;refine⟨E',aa,M',p,a0,hp,h0,h1,h2,h3,?_⟩;cases e with
  |normal=>exact⟨h4.1,k _ _ h4.2⟩
  |exit id=>cases h4.1
  |ret=>cases h4.1
  |goto l=>exact h4
  |panic ch=>exact h4
  |outgrown=>exact h4
end
section
theorem d3x{e:TypeId}{v z:Value}(ho:o.op = .buildSlice t 1 #[(0,x)])(hx:E.valid x)(ex:E.val C x= .val v)(hv:v.oneCell'=true)(hu:∀w,(underlying t).run C.P w= .ok (.slice e) w)(hs:∀w,(sizeOf e).run C.P w= .ok 1 w)(hz:∀w,(zeroValue e).run C.P w= .ok z w)(bV:z.oneCell'=true)
 (hk:K (.ret (.vec σ.length 0 1)) (σ++[.vec 1 [[.val v]]])):D3 C σ E o K:=λM w ρ hr hh=>by
 have h1:=p8 (ex▸hh x w8 hx);have hvc:v.cells = #[v]:=by cases v<;>first|rfl|simp[Value.oneCell']at hv
 have hzc:z.cells = #[z]:=by cases z<;>first|rfl|simp[Value.oneCell']at bV
 have ay:(execOp ρ o).run C.P w= .ok (.value (.slice (some ⟨w.heap.size,0,none⟩) 1 1)) (w.alloc (.cells #[v] e)):=by
  have er:Array.range 1= #[0]:=O;simp only[execOp,ho,Instr.buildSlice,Sem.run_bind,hu,Result.andThen_ok,hs];simp[er,Instr.fill,newRow,h1,hvc,hz]
 rw[ay];have aS:=Ext.alloc hr ⟨w.heap.size,1,1⟩ (.cells #[v] e);have bq:=hr.alloc ⟨w.heap.size,1,1⟩ (.cells #[v] e) (.vec 1 [[.val v]]) O ⟨O,n_6 _,by unfold maxLen;simp,λr hr=>by simp at hr;subst hr;rfl,λr hr c hc=>by simp at hr;subst hr;simp at hc;subst hc;exact hv,#[v],e,A2 _ _,O,λi j r c hi hj=>by
  rcases i with _|i
  .injection hi with hi
   subst hi
   rcases j with _|j
   .injection hj with hj
    subst hj;exact .val _
   .simp at hj
  .simp at hi⟩
 refine⟨_,_,_,aS,bq,?_,hk⟩;have hp:(M.add ⟨w.heap.size,1,1⟩).pl[σ.length]?=some ⟨w.heap.size,1,1⟩:=by simp[A5.add,<- hr.len]
 have:=RV.vec (w:=w.alloc (.cells #[v] e)) (off:=0) (len:=1) (a:=⟨w.heap.size,0,none⟩) hp (n_6 _) (by unfold maxLen;simp) (λ_=>by simp);simpa using this
end
end Go.Cl
namespace Go.Cl
open Go.Sort Go.Proofs
def b2m(ss:List I):List I:=ss.mergeSort λx y=>decide (x<=y)
end Go.Cl
namespace Go.Cl
variable{t e t':TypeId}{x y:Operand}{K:N8->List b9->Prop}{len:Nat}
theorem d9c{n:Nat}(h:n<18446744073709551616):IntKind.u64.wrap (n:Int)=(n:Int):=by
 simp[IntKind.wrap,IntKind.signed,IntKind.bits];omega
section
variable{C:Ctx}{E:Env}{σ:List b9}{o:Oper}
theorem d6p{k k':IntKind}{a b:Int}{n:Nat}(ho:o.op = .binOp .shr t x y t')(hx:E.valid x)(hy:E.valid y)(ex:E.val C x= .val (.int k a))(ey:E.val C y= .val (.int k' (n:Int)))(hk:n<=k.bits)(hb:a / 2^n=b):Yields C σ E o (.val (.int k b)):=
 i8 λM w ρ _ h=>by
  have h1:=h x w8 hx;have h2:=h y w8 hy;rw[ex]at h1;rw[ey]at h2;refine⟨.int k b,?_,.val _⟩;have e:min n k.bits=n:=by omega
  have e2:a.fdiv (2^n)=b:=by rw[Int.fdiv_eq_ediv_of_nonneg _ (Int.pow_nonneg J),hb]
  have e3:¬(n:Int)<0:=by omega
  simp[execOp,ho,p8 h1,p8 h2,eqGuard,binOp,Op.shift,e,e2,e3]
theorem d3h{a:Int}(ho:o.op = .binOp .and t x y t')(hx:E.valid x)(hy:E.valid y)(ex:E.val C x= .val (.int .u64 a))(ey:E.val C y= .val (.int .u64 1))(ha:0<=a/\a<18446744073709551616):Yields C σ E o (.val (.int .u64 (a%2))):=
 i8 λM w ρ _ h=>by
  have h1:=h x w8 hx;have h2:=h y w8 hy;rw[ex]at h1;rw[ey]at h2;obtain⟨m,rfl⟩:∃m:Nat,a=(m:Int):=⟨a.toNat,J⟩;have e3:(BitVec.ofInt IntKind.u64.bits (m:Int)&&&BitVec.ofInt IntKind.u64.bits 1).toNat=m%2:=by
   show(BitVec.ofInt 64 (m:Int)&&&BitVec.ofInt 64 1).toNat=_;rw[BitVec.toNat_and,BitVec.ofInt_natCast,BitVec.toNat_ofNat,b9c J];exact Nat.and_one_is_mod m
  have e4:(Op.intBits .and .u64 (m:Int) 1).run C.P w= .ok (.int .u64 ((m:Int)%2)) w:=by
   unfold Op.intBits;simp only[Sem.run_pure,e3];rw[d9c (n:=m%2) J];rfl
  exact⟨.int .u64 ((m:Int)%2),by simp[execOp,ho,p8 h1,p8 h2,eqGuard,binOp,e4],.val _⟩
theorem d2U{v1 v2 v3 z1 z2 z3:Value}(ho:o.op = .buildSlice t 1 #[(0,x)])(hx:E.valid x)(ex:E.val C x= .agg [.val v1,.val v2,.val v3])(hv:v1.oneCell'=true/\v2.oneCell'=true/\v3.oneCell'=true)(hu:∀w,(underlying t).run C.P w= .ok (.slice e) w)(hs:∀w,(sizeOf e).run C.P w= .ok 3 w)(hz:∀w,(zeroValue e).run C.P w= .ok (.agg #[z1,z2,z3]) w)
 (hk:K (.ret (.list [[.val v1,.val v2,.val v3]] true (some σ.length))) (σ++[.tip 1])):D3 C σ E o K:=λM w ρ hr hh=>by
 have h1:=a06 (l:=[v1,v2,v3]) (ex▸hh x w8 hx);have ay:(execOp ρ o).run C.P w= .ok (.value (.slice (some ⟨w.heap.size,0,none⟩) 1 1)) (w.alloc (.cells #[v1,v2,v3] e)):=by
  have er:Array.range 3= #[0,1,2]:=O;simp only[execOp,ho,Instr.buildSlice,Sem.run_bind,hu,Result.andThen_ok,hs];simp[er,Instr.fill,newRow,h1,Value.cells,hz]
 rw[ay];have aS:=Ext.alloc hr ⟨w.heap.size,1,3⟩ (.cells #[v1,v2,v3] e);have bq:=hr.alloc ⟨w.heap.size,1,3⟩ (.cells #[v1,v2,v3] e) (.tip 1) O ⟨n_6 _,by unfold maxLen;simp,⟨λo ho=>by
  have:=hr.blk w.heap.size o (.inr ho);omega,λh=>by cases h⟩,#[v1,v2,v3],e,A2 _ _,O⟩
 have hp:(M.add ⟨w.heap.size,1,3⟩).pl[σ.length]?=some ⟨w.heap.size,1,3⟩:=by simp[A5.add,<- hr.len]
 obtain⟨gC,gg⟩:=bq.settleCells hp (by simp:(σ++[b9.tip 1])[σ.length]?=some (.tipT none 1));refine⟨_,_,_,aS.trans gC,gg,?_,hk⟩;have hc:∀j v,j<3->#[v1,v2,v3][j]?=some v->(w.alloc (.cells #[v1,v2,v3] e)).cell? ⟨w.heap.size,j,none⟩=some v:=λj v _ hv=>by
  show(match(w.alloc (.cells #[v1,v2,v3] e)).heap[w.heap.size]? with|some (.cells c _ _)=>c[j]? |_=>none)=some v;rw[A2];exact hv
 refine RV.list (Y:=[[.val v1,.val v2,.val v3]]) (b:=w.heap.size) (off:=0) (s:=3) (λ_ j=>#[v1,v2,v3].getD j undef) (n_6 _) (by unfold maxLen;simp) O (λh=>by cases h) W9 (λr hr=>by simp at hr;subst hr;rfl) (λr hr c hc=>by
  simp at hr;subst hr;simp at hc
  rcases hc with rfl|rfl|rfl
  .exact hv.1
  .exact hv.2.1
  .exact hv.2.2) (λi j r c hi hj=>?_) (λi j r c hi hj=>?_) (λk hk=>?_)
 .rcases i with _|i
  .injection hi with hi
   subst hi
   rcases j with _|_|_|j
   .exact ⟨.inr (.inr ⟨O,Q⟩),hc 0 _ J O⟩
   .exact ⟨.inr (.inr ⟨O,Q⟩),hc 1 _ J O⟩
   .exact ⟨.inr (.inr ⟨O,Q⟩),hc 2 _ J O⟩
   .simp at hj
  .simp at hi
 .rcases i with _|i
  .injection hi with hi
   subst hi
   rcases j with _|_|_|j
   .injection hj with hj;subst hj;exact .val _
   .injection hj with hj;subst hj;exact .val _
   .injection hj with hj;subst hj;exact .val _
   .simp at hj
  .simp at hi
 .injection hk with hk
  subst hk;exact⟨3,hp,O,O,λ_=>O⟩
theorem c0e{f:FuncId}{cx:Operand}{xs:Array Operand}{ts:Array TypeId}{cargs:List CV}{α β:Type}{c:α->CV}{S:α->List b9}{P:α->Prop}{c':β->CV}{S':β->List b9}{P':β->Prop}(ho:o.op = .call {callee:=.value cx,args:=xs,argTypes:=ts})(hc:E.valid cx)(ec:E.val C cx= .val (.func (.func f) #[] #[]))(az:∀args w,(callFunc f args).run C.P w= .ok (.enter f args) w)
 (hv:E.valids xs.toList)(h:b8 C f cargs σ λr aa=>(∃a,r= .ret (c a)/\aa=S a/\P a)\/∃b,r= .pan (c' b)/\aa=S' b/\P' b)(ea:(E.vals C xs.toList).map CV.fgt=cargs)(hp:∀b,P' b->K (.pan (c' b)) (S' b))(hk:∀a,P a->K (.ret (c a)) (S a)):D3 C σ E o K:=
 c1u ho hc ec az (Env.valids_mem hv) (Env.vals_map _) ((Z9 (ea▸h)).mono λr aa hh=>by
  rcases hh with⟨a,rfl,rfl,hq⟩|⟨b,rfl,rfl,hq⟩
  .exact hk a hq
  .exact hp b hq)
end
section
variable{C:Ctx}{n:Nat}{Ji:A8->Env->List b9->Prop}{E:Env}{σ:List b9}{o:Oper}
theorem d3B{s:Nat}{parts:Array (Nat×Operand)}{z:Value}{ps:List (Nat×CV)}{Y:List (List CV)}(ho:o.op = .buildSlice t len parts)(hv:E.valids (parts.toList.map (·.2)))
 (hu:∀w,(underlying t).run C.P w= .ok (.slice e) w)(hs:∀w,(sizeOf e).run C.P w= .ok s w)(hz:∀w,(zeroValue e).run C.P w= .ok z w)(bV:K4 z=true)(cU:(H8 z).one=true\/∃cs,H8 z= .agg cs)(fH:(H8 z).cells.length=s)(dS:0<s)
 (am:len*s<=2^24)(ep:parts.toList.map (λx=>(x.1,E.val C x.2))=ps)(aO:∀x∈ps,x.2.one=true\/∃cs,x.2 = .agg cs)
 (bp:a3L (λi=>some (i*s,s)) ((List.range (len*s)).map λi=>(H8 z).cells.getD (i%s) default) ps=some Y.flatten)
 {M:A5}{w:World}{ρ:Operand->Value}(h:∀x∈o.op.operands,E.valid x->RV M w (E.val C x) (ρ x)):
 ∃r:Array Value,(execOp ρ o).run C.P w= .ok (.value (.slice (some ⟨w.heap.size,0,none⟩) len len)) (w.alloc (.cells r e))/\RV M w (.agg Y.flatten) (.agg r):=by
 have eX:RV M w (H8 z) z:=a0v bV;obtain⟨g1,g2,g3⟩:=eX.cells cU;have bo:∀x∈parts.toList,x.2∈o.op.operands:=λx hx=>by
  rw[ho];simp only[Op.operands,List.mem_toArray,H9];exact⟨x,hx,O⟩
 have bI:=Env.valids_mem hv;obtain⟨r,aQ,bq⟩:=a8m (M:=M) (w:=w) ps (parts.toList.map λx=>(x.1,ρ x.2)) ((List.range (len*s)).map λi=>(H8 z).cells.getD (i%s) default) ((Array.range (len*s)).map (z.cells[·%z.cells.size]!)) Y.flatten bp (by simp[<- ep]) (λi x y hx hy=>by
  refine⟨?_,aO x (n_2 hx)⟩;subst ep;simp only[P8,M6]at hx hy;obtain⟨a,ha,rfl⟩:=hx;obtain⟨a',bR,rfl⟩:=hy;have:a=a':=by rw[ha]at bR;injection bR
  subst this;have hm:=n_2 ha;exact h _ (bo _ hm) (bI _ (H9.2 ⟨_,hm,O⟩))) Q (λc hc=>by
   obtain⟨i,_,rfl⟩:=H9.1 hc;have ah:i%s< (H8 z).cells.length:=by rw[fH];exact a4L _ dS
   rw[a9A,a1C ah];exact g2 _ (b9D ah)) (λi c hi=>by
   rw[P8,M6]at hi;obtain⟨i',bh,rfl⟩:=hi;have bt:=(n_3.1 bh).1;simp at bt;rw[List.getElem?_range bt]at bh;injection bh with bh
   subst bh;have ah:i%s< (H8 z).cells.length:=by rw[fH];exact a4L _ dS
   have hlt2:i%s<z.cells.size:=by rw[g1];exact ah
   have:=g3 (i%s) _ (a1C ah);have e1:(H8 z).cells.getD (i%s) default=(H8 z).cells[i%s]:=by
    rw[a9A,a1C ah];rfl
   rw[e1];have e2:((Array.range (len*s)).map (z.cells[·%z.cells.size]!)).getD i undef=z.cells.getD (i%s) undef:=by
    have ca:z.cells.size=s:=by rw[g1,fH]
    have hms:i%s<s:=a4L _ dS;simp[bt,ca,hms]
   rw[e2];exact this)
 refine⟨r,?_,bq⟩;have hl:(parts.map λx=>(x.1,ρ x.2)).toList=parts.toList.map λx=>(x.1,ρ x.2):=by simp
 simp only[execOp,ho,Instr.buildSlice,Sem.run_bind,hu,Result.andThen_ok,hs];rw[G J];simp only[hl];by_cases fy:len*s=0
 .have er:Array.range 0= #[]:=O;rw[fy,er]at aQ;simp only[List.map_toArray,List.map_nil]at aQ;simp[fy,er,aQ,newRow]
 .simp [fy,hz,aQ,newRow]
theorem c8n{ae:Array Oper}{l:List Oper}{o1 o2:Oper}{d1 d2:Nat}{parts:Array (Nat×Operand)}{z:Value}(bs:I)(gL:o1.dst=some d1)(hd2:o2.dst=some d2)(ho1:o1.op = .buildSlice t len parts)(ho2:o2.op = .convert t t (.tmp d1))(dV:o1.guard=none)(dN:o2.guard=none)
 (cH:Nat.blt d1 n=true)(dv:Nat.blt d2 n=true)(hv:a3t E parts.toList)
 (hu:∀w,(underlying t).run C.P w= .ok (.slice e) w)(hs:∀w,(sizeOf e).run C.P w= .ok 1 w)(hz:∀w,(zeroValue e).run C.P w= .ok z w)(he:∀w,(underlying e).run C.P w= .ok (.int .u8) w)(bV:K4 z=true)(cU:c3z (H8 z)=true)(fH:(H8 z).cells.length=1)
 (am:Nat.ble (len*1) 16777216=true)(aO:b3a (a3o C E parts.toList)=true)
 (bp:a3L (λi=>some (i*1,1)) ((List.range (len*1)).map λi=>(H8 z).cells.getD (i%1) default) (a3o C E parts.toList)=some (bs.map bcv).flatten)(cz:bs.length=len)
 (h:G5 C n ae Ji l ((E.hide (some d1)).put (some d2) (.list (bs.map bcv) true none) True) σ):G5 C n ae Ji (o1::o2::l) E σ:=λM w a hr hf=>by
 have iA:E.valids (parts.toList.map (·.2)):=by
  have:=a2m hv;have key:∀l:List Operand,(∀x∈l,E.valid x)->E.valids l:=by
   intro l
   induction l with
   |nil=>intro _;trivial
   |cons x l ih=>intro h;exact⟨h x Q,ih λy hy=>h y (by simp[hy])⟩
  exact key _ λx hx=>by
   obtain⟨p,hp,rfl⟩:=H9.1 hx;exact this p hp
 have cL:len*1<=2^24:=by have:=nb am;omega
 obtain⟨r,ay,bg⟩:=d3B (o:=o1) (E:=E) (C:=C) (M:=M) (w:=w) (ρ:=a.eval) ho1 iA hu hs hz bV (a9Z cU) fH J cL (a5h _) (a8f aO) bp (λx _ hx=>hf.eval hr hx);have hlt1:d1<n:=by simpa[a94]using cH
 have hlt2:d2<n:=by simpa[a94]using dv
 have hrl2:r.size=len:=by
  cases bg with
  |agg q1 _ _=>
   rw[q1,flat_len (bs.map bcv) (s:=1) (λr0 h0=>by
    obtain⟨b,_,rfl⟩:=H9.1 h0;rfl)]
   simp[cz]
 unfold wpList;rw[W (by simp[Region.wanted,dV])];refine .inl ?_;unfold Oper.wp;rw[ay];simp only[Oper.upon];unfold wpList;rw[W (by simp[Region.wanted,dN])];refine .inl ?_;unfold Oper.wp;have hev:(a.put o1.dst (.slice (some ⟨w.heap.size,0,none⟩) len len)).eval (.tmp d1)= .slice (some ⟨w.heap.size,0,none⟩) len len:=by
  rw[gL];simp[Act.eval,Act.put,hf.size,hlt1]
 have hsh:(w.alloc (.cells r e)).shape? w.heap.size=some (e,len):=by
  simp only[World.shape?,A2];simp[hrl2]
 have eA:(execOp (a.put o1.dst (.slice (some ⟨w.heap.size,0,none⟩) len len)).eval o2).run C.P (w.alloc (.cells r e))= .ok (.value (.slice (some ⟨w.heap.size,0,none⟩) len len)) (w.alloc (.cells r e (len,len+1))):=by
  have hm:(markStringish ⟨w.heap.size,0,none⟩).run C.P (w.alloc (.cells r e))= .ok () (w.alloc (.cells r e (len,len+1))):=by
   have:=a6U w r e len;simp only[markStringish,shape,freeze,Sem.run_bind];simp only[Sem.run,hsh,Result.andThen_ok];rw[this]
  simp only[execOp,ho2,hev,convert,Sem.run_bind,hu,Result.andThen_ok,he];simp[hm]
 rw[eA];simp only[Oper.upon];obtain⟨hx,fI⟩:=hr.allocFull (.cells r e (len,len+1));have bx:bs.length<=maxLen:=by unfold maxLen;omega
 have gk:RV (M.settle w.heap.size) (w.alloc (.cells r e (len,len+1))) (.list (bs.map bcv) true none) (.slice (some ⟨w.heap.size,0,none⟩) len len):=by
  cases bg with
  |agg q1 q2 q3=>
   have aZ:∀r0∈bs.map bcv,r0.length=1:=λr0 h0=>by
    obtain⟨b,_,rfl⟩:=H9.1 h0;rfl
   refine RV.list' (s:=1) (b:=w.heap.size) (off:=0) (H cz.symm) (λi j=>r.getD (i*1+j) undef) (by simp[cz]) J O (λh=>by cases h) W9 aZ (λr0 bE c hc=>?_) (λi j r0 c hi hj=>?_) (λi j r0 c hi hj=>?_) (λk hk=>by cases hk)
   .obtain ⟨b,_,rfl⟩:=H9.1 bE;simp[bcv]at hc;subst hc;rfl
   .have hf:=a4J (bs.map bcv) aZ i j r0 c hi hj;have ah:=(n_3.1 hf).1;have bt:i*1+j<r.size:=by omega
    refine⟨.inl (.inr O),?_⟩;rw[P2];show(match(w.alloc (.cells r e (len,len+1))).heap[w.heap.size]? with|some (.cells c _ _)=>c[i*1+j]? |_=>none)=_;rw[A2];simp at bt;simp[bt]
   .exact (q3 _ _ (a4J (bs.map bcv) aZ i j r0 c hi hj)).mono hx
 rw[gL,hd2];exact h.later hx fI (((hf.mono hx).hide (d:=some d1)).put (λt ht=>by injection ht with ht;omega) (λ_=>gk) λhh=>absurd trivial hh)
end
section
variable{C:Ctx}{σ:List b9}{E:Env}{o:Oper}
theorem b3H{k off gH len2 s:Nat}{Y:List (List CV)}(ho:o.op = .call {callee:=.builtin .copy,args:=#[x,y],argTypes:=#[t,t']})(hx:E.valid x)(hy:E.valid y)(ex:E.val C x= .vec k off len)(ey:E.val C y= .vec k gH len2)
 (hu:∀w,(underlying t).run C.P w= .ok (.slice e) w)(hs:∀w,(sizeOf e).run C.P w= .ok s w)(aL:σ[k]?=some (.vec s Y))(aR:len<=len2)(hl:off+len<=Y.length)(dv:gH+len<=Y.length)
 (hk:K (.ret (.val (.int .i64 len))) (σ.set k (.vec s (K3 Y off ((Y.drop gH).take len))))):D3 C σ E o K:=λM w ρ hr hh=>by
 have h1:=hh x L4 hx;have h2:=hh y L4 hy;rw[ex]at h1;rw[ey]at h2;generalize hv:ρ x=v at h1;generalize cB:ρ y=v2 at h2;have fJ:((Y.drop gH).take len).length=len:=by simp;omega
 cases h1 with
 |vec hp g1 g2 g3=>
  rename_i p a;cases h2 with
  |vec cu i1 i2 i3=>
   rename_i p2 a2;obtain rfl:=Option.some.inj (hp.symm.trans cu);have fe:=a6E (len:=len) hr (.vec (w:=w) cu J i2 i3) aL dv;obtain⟨an,cn,hvn,_,cc,ap,cr,bc,bz⟩:=fe;have fh:=(hr.obj k p _ hp aL).1;have bx:Y.length<=p.cap:=fh.2.1;have ba:p.size=s:=fh.1;obtain⟨w',aP,aC,bl⟩:=a6y hr hp aL (p:=off) (new:=(Y.drop gH).take len) J J cc bc bz;have eG:Nat.min len2 len=len:=Nat.min_eq_right aR;rw[fJ]at cr;have hfn2:(Builtin.firstCells s len (.slice (some a2) len2 (p.cap -gH))).run C.P w= .ok ap w:=by
    simpa[Builtin.firstCells]using cr
   have hst':(storeCells a ap.toList).run C.P w= .ok () w':=by
    rcases b1C len with h0|h0
    .have fy:ap.toList=[]:=b9E (by rw[fJ]at bc;simp[bc,h0]);rw[fy]at aP⊢;exact aP
    .rw [g3 J,ba];exact aP
   have ay:(execOp ρ o).run C.P w= .ok (.value (.int .i64 len)) w':=by
    simp[execOp,ho,resolve,invoke,builtin,Builtin.copy_,hu,hs,hv,cB,Builtin.lenOf,eG,hfn2,hst',goInt]
   rw[ay];exact⟨_,_,M,aC,bl,.val _,hk⟩
end
end Go.Cl
namespace Go.Cl
open Go.Sort Go.Proofs
variable{α:Type}{w Jh:World}{C:Ctx}{enc:α->List Value}{s b:Nat}
theorem b55 [Inhabited α]{enc:α->Value}{ap:Array Value}{ty:TypeId}{fr:Nat×Nat}{d:Array α}(h:w.heap[b]?=some (.cells ap ty fr)):putRow enc w b 0 d=World.putObj w b (.cells (putCells enc 0 d ap) ty fr):=by
 have hb:b<w.heap.size:=(a1N.1 h).1;have hg:w.heap[b]= .cells ap ty fr:=(a1N.1 h).2;unfold putRow mapBlock World.putObj
 congr 1
 apply b2r;intro i;rw[b8Y,Array.getElem?_setIfInBounds];by_cases hi:b=i
 .subst hi;simp[hb,hg,onCells]
 .simp [hi]
theorem b9V{F:Array Value}{ap:Array Value}{i:Nat}(hi:i<F.size)(ha:i<ap.size):(putCells id 0 F ap).getD i undef=F[i]!:=by
 unfold putCells;rw[a0D,Array.getElem?_mapIdx,a2I ha];simp[hi]
theorem b8l{W':World}{M':A5}(h:Ext (V4 Jh) Jh M' W'):∃q os',W'=grow (Jh.drewN q) os':=by
 refine⟨W'.drawn -Jh.drawn,W'.heap.extract Jh.heap.size W'.heap.size,?_⟩;have hd:Jh.drawn+(W'.drawn -Jh.drawn)=W'.drawn:=by have:=h.drew;omega
 have hh:W'.heap=Jh.heap++W'.heap.extract Jh.heap.size W'.heap.size:=by
  apply b2r;intro i;rw[b6Y]
  split
  .rename_i hi;exact h.same i hi
  .rename_i hi;rw[Array.getElem?_extract];have hs:=h.size
   split
   .congr 1;omega
   .rename_i h2;rw[b48];omega
 have h1:=h.os;have h2:=h.tape;have h3:=h.output;show W'=⟨_,_,_,_,_⟩;cases W';simp only at hd hh h1 h2 h3⊢;subst h1 h2 h3;simp only[World.drewN,World.mk.injEq,true_and,and_true];exact⟨hh,hd.symm⟩
theorem c0F{f:FuncId}{gR:List CV}{args:Array Value}{u:Value}
 (hg:∀g cells,C.glob g=some cells->GV (V4 Jh) Jh cells g)
 (hn:args.size=gR.length)(ha:∀(i:Nat) (c:CV),gR[i]?=some c->RV (V4 Jh) Jh c (args.getD i undef))
 (h:b8 C f gR [] λr aa=>r= .ret (.val u)/\aa=[]):Calls C.P f args Jh λe W'=>e= .returned u/\∃q os',W'=grow (Jh.drewN q) os':=by
 refine(h (V4 Jh) Jh args (b2C hg) hn ha).mono λe W' he=>?_;cases e with
 |returned v=>
  obtain⟨c,aa,M',h1,h2,h3,h4,h5⟩:=he;cases h4;cases h3;exact⟨O,b8l h1⟩
 |panicked ch=>
  obtain⟨c,v,aa,M',-,-,-,-,h4,-⟩:=he;cases h4
 |outgrown=>exact he.elim
theorem c43{M:A5}{σ:List b9}(hv:∀g cells,C.glob g=some cells->∀c∈cells,∃v,c=CV.val v)(hr:Rel C M σ w)(hb:¬M.full b)(hs:w.heap.size<=Jh.heap.size)
 (hh:∀x,x<w.heap.size->x≠b->Jh.heap[x]?=w.heap[x]?)(g:Nat)(cells:List CV)(hg:C.glob g=some cells):GV (V4 Jh) Jh cells g:=by
 obtain⟨rv,full,sz⟩:=hr.glob g cells hg;have ah:g<w.heap.size:=hr.blk g 0 (.inl full);have aB:g≠b:=λe=>hb (e▸full);have bu:=hh g ah aB;cases rv with
 |cptr vals a1 a2 a3=>
  refine⟨.cptr vals a1 (λj c hj=>⟨.inl (a8M ah hs),?_⟩) (λj c hj=>?_),a8M ah hs,?_⟩
  .rw [L5 bu];exact(a2 j c hj).2
  .obtain ⟨v,rfl⟩:=hv g cells hg c (n_2 hj);have:=a3 j _ hj;cases this;exact .val _
  .rw [bu];exact sz
theorem b2G [Inhabited α]{m:Nat}{dk:Array α}{os:Array Obj}:w.heap.size<=(sortWorldK enc s w b 0 m dk os).heap.size/\∀x,x<w.heap.size->x≠b->(sortWorldK enc s w b 0 m dk os).heap[x]?=w.heap[x]?:=by
 refine⟨by unfold sortWorldK;rw[size_grow,size_putRowK];exact Nat.le_add_right _ _,λx hx aB=>?_⟩;unfold sortWorldK grow putRowK putRow mapBlock;show(Array.modify w.heap b _++os)[x]?=_;rw[b28 (H hx),b8Y,G (λe=>aB e.symm)]
theorem c2m{M:A5}{l:List Value}(h1:∀v∈l,v.oneCell'=true):RV M w (.agg (l.map .val)) (.agg l.toArray):=by
 refine .agg Q (λc hc=>?_) (λi c hi=>?_)
 .obtain ⟨v,hv,rfl⟩:=H9.1 hc;exact h1 v hv
 .rw [P8,M6]at hi;obtain⟨v,hv,rfl⟩:=hi;have:l.toArray.getD i undef=v:=by rw[a0D,List.getElem?_toArray,hv];rfl
  rw[this];exact .val _
theorem c9V{g:FuncId} [Inhabited α]{cf:α->α->Int}(h1:∀x,∀v∈enc x,v.oneCell'=true)(hcmp:∀x y:α,b8 C g [.agg ((enc x).map .val),.agg ((enc y).map .val)] [] λr τ=>r= .ret (.val (.int .i64 (cf x y)))/\τ=[])
 (hv:∀g cells,C.glob g=some cells->∀c∈cells,∃v,c=CV.val v){M:A5}{σ:List b9}{w:World}{b size:Nat}(hr:Rel C M σ w)(hb:¬M.full b):CmpLays C.P g #[] enc s cf b 0 size w:=λm os dk hs x y=>by
 refine c0F (c43 hv hr hb b2G.1 b2G.2) O (λi c hi=>?_) (hcmp x y)
 rcases i with _|_|i
 .injection hi with hi;subst hi;exact c2m (h1 x)
 .injection hi with hi;subst hi;exact c2m (h1 y)
 .cases hi
theorem b2J [Inhabited α]{l:List α}{i j:Nat}{x:α}(hx:l[i]?=some x)(hj:j<s)(hk:(enc x).length=s):(flatK enc s l.toArray)[i*s+j]! =(enc x)[j]!/\i*s+j<l.length*s:=by
 have hi:=(n_3.1 hx).1;have lt:i*s+j<l.length*s:=by
  have:=X3 s (show i+1<=l.length from hi);rw[R6,Nat.one_mul]at this;omega
 have e1:(i*s+j) / s=i:=(blk_iff s i _ J).1 ⟨J,J⟩;have e2:(i*s+j)%s=j:=by rw[Nat.mod_eq_sub_div_mul,e1];omega
 refine⟨?_,lt⟩;rw[get_flatK _ _ _ _ (H lt),e1,e2];have:l.toArray[i]! =x:=by simp[hi,(n_3.1 hx).2]
 rw[this]
def a3g{α:Type}(cf:α->α->Int)(l:List α):List α:=l.mergeSort λx y=>!(ltOf cf) y x
theorem c4x{f g:FuncId} [Inhabited α]{cf:α->α->Int}(dS:0<s)(hk0:∀x,(enc x).length=s)(h1:∀x,∀v∈enc x,v.oneCell'=true)
 (az:∀(blk off cap:Nat) (d:Array α) (w:World),CmpLays C.P g #[] enc s cf blk off d.size w->HoldsK enc s w blk off d->blk<w.heap.size->d.size <4611686018427387904 ->
  Calls C.P f #[.slice (some ⟨blk,off,none⟩) d.size cap,.func (.func g) #[] #[]] w λe w'=>e= .returned (.tuple #[])/\∃n os,w'=sortWorldK enc s w blk off n (d.toList.mergeSort λx y=>!(ltOf cf) y x).toArray os)
 (hcmp:∀x y:α,b8 C g [.agg ((enc x).map .val),.agg ((enc y).map .val)] [] λr τ=>r= .ret (.val (.int .i64 (cf x y)))/\τ=[])
 (hv:∀g cells,C.glob g=some cells->∀c∈cells,∃v,c=CV.val v)
 {σ:List b9}{k:Nat}{l:List α}(aB:l≠[])(am:l.length <4611686018427387904)(hk:σ[k]?=some (.vec s (l.map λx=>(enc x).map .val))):
 b8 C f [.vec k 0 l.length,.val (.func (.func g) #[] #[])] σ λr τ=>r= .ret (.tup [])/\τ=σ.set k (.vec s ((a3g cf l).map λx=>(enc x).map .val)):=λM w vs hr hn hx=>by
 have hl:0<l.length:=b2h.2 aB;have hs:vs.size=2:=hn;obtain⟨v,v2,rfl⟩:∃v v2,vs= #[v,v2]:=⟨vs[0]'J,vs[1]'J,Array.ext (by simp[hs]) λi h1 h2=>by
  have:i=0\/i=1:=by omega
  rcases this with rfl|rfl<;>simp⟩
 have h0:RV M w (.vec k 0 l.length) v:=hx 0 _ O;have h2:RV M w (.val (.func (.func g) #[] #[])) v2:=hx 1 _ O;cases h2;cases h0 with
 |vec hp g1 g2 g3=>
  rename_i p a;obtain⟨⟨e0,e1,e2,e3,e4,ap,ty,e5,e6,e7⟩,hf,dw⟩:=hr.obj k p _ hp hk;rw[a02]at e1;rw[e0]at e6;have ha:=g3 J;rw[Nat.zero_mul]at ha;subst ha;have hb:p.block <w.heap.size:=(a1N.1 e5).1;have hcs:l.length*s<=ap.size:=by rw[e6];exact X3 s e1
  have aw:∀t,t<l.length*s->ap.getD t undef=(flatK enc s l.toArray)[t]!:=λt ht=>by
   have hd:t / s<l.length:=(Nat.div_lt_iff_lt_mul dS).2 ht;have hm:t%s<s:=a4L _ dS;have ht2:t / s*s+t%s=t:=by rw[b2K];exact Nat.div_add_mod t s
   have hx:l[t / s]?=some l[t / s]:=a1C hd;have gd:=hk0 l[t / s];have h3:=(b2J (enc:=enc) hx hm gd).1;rw[ht2]at h3;rw[h3];have h4:(l.map λx=>(enc x).map CV.val)[t / s]?=some ((enc l[t / s]).map .val):=by rw[P8,hx];rfl
   have h5:((enc l[t / s]).map CV.val)[t%s]?=some (.val (enc l[t / s])[t%s]!):=by
    rw[P8,a1C J];simp[gd,hm]
   have:=p8 (e7 _ _ _ _ h4 h5);rw[e0,ht2]at this;exact this
  have hH:HoldsK enc s w p.block 0 l.toArray:=λj hj=>by
   have dG:j<l.length*s:=H hj;have hja:j<ap.size:=by omega
   refine⟨?_,by simp[World.frozen?,e5]⟩;have:=aw j dG;rw[a0D,a2I hja]at this;simp only[b8S]at this;rw[P2];simp[World.cell?,e5,hja,this]
  have hC:=c9V (s:=s) (size:=l.toArray.size) h1 hcmp hv hr hf;have hcc:=az p.block 0 (p.cap -0) l.toArray w hC hH hb (H am);rw[show l.toArray.size=l.length by simp,show l.toArray.toList=l by simp]at hcc;refine hcc.mono λe w' ⟨he,n,os,hw⟩=>?_;subst he hw;obtain⟨bv,aQ⟩:=b74 hr n #[];have ew:grow (w.drewN n) #[]=Sort.ahead w n:=by simp[grow,World.drewN,Sort.ahead]
  rw[ew]at bv aQ;have e5':(Sort.ahead w n).heap[p.block]?=some (.cells ap ty (0,0)):=e5;unfold sortWorldK putRowK;rw[b55 e5'];have iC:(a3g cf l).length=l.length:=c0H _;change a05 C M w _ _ (grow (World.putObj (Sort.ahead w n) p.block (.cells (putCells id 0 (flatK enc s (a3g cf l).toArray) ap) ty (0,0))) os);generalize hF:flatK enc s (a3g cf l).toArray=F;have hFs:F.size=l.length*s:=by rw[<- hF,size_flatK];simp[iC]
  have fM:(putCells id 0 F ap).size=ap.size:=by simp[putCells]
  have aS:=Ext.putObj (w:=Sort.ahead w n) (.cells (putCells id 0 F ap) ty (0,0)) (aQ.nk k p _ hp hk O) hf dw;have bq:=aQ.putObj (ob:=.vec s ((a3g cf l).map λx=>(enc x).map .val)) hp hk O hf dw (.cells (putCells id 0 F ap) ty (0,0)) ⟨e0,by rw[a02,iC];exact e1,e2,λr hr=>by
   obtain⟨x,_,rfl⟩:=H9.1 hr;rw[e0,a02];exact hk0 x,λr hr c hc=>by
   obtain⟨x,_,rfl⟩:=H9.1 hr;obtain⟨v,hv,rfl⟩:=H9.1 hc;exact h1 x v hv,_,ty,World.putObj_same _ _ (by exact hb),by rw[fM,e0];exact e6,λi j r c hi hj=>by
   rw[P8,M6]at hi;obtain⟨x,aI,rfl⟩:=hi;rw[P8,M6]at hj;obtain⟨v,dG,rfl⟩:=hj;have hjs:j<s:=by have:=(n_3.1 dG).1;rw[hk0]at this;exact this
   obtain⟨h3,h4⟩:=b2J (enc:=enc) aI hjs (hk0 x);rw[hF]at h3;rw[iC]at h4;rw[e0,b9V J J,h3,List.getElem!_eq_getElem?_getD,dG];exact .val _⟩
  obtain⟨gC,gg⟩:=b74 bq 0 os;have ew2:∀u:World,u.drewN 0=u:=λu=>O;rw[ew2]at gC gg;exact⟨_,_,_,(bv.trans aS).trans gC,gg,.tup O (λi c h=>by simp at h),O,O⟩
end Go.Cl
namespace Go.Cl
variable{c:CV}{l:List Oper}{K:N8->List b9->Prop}{o:Oper}{t e:TypeId}{Y:List (List CV)}{x:Operand}{xs:Array Operand}{ts:Array TypeId}{cargs:List CV}{id i:Nat}{P:Program}{z:Value}{b nn:Bool}{y:Code}{tok:Option Nat}
section
variable{C:Ctx}{n:Nat}{ae:Array Oper}{Ji:A8->Env->List b9->Prop}{E:Env}{σ:List b9}
theorem cY(hy:Yields C σ E o c)(h:G5 C n ae Ji l (E.put o.dst c True) σ)(hg:o.guard=none:=by rfl)(hd:(match o.dst with|some d=>Nat.blt d n|none=>true)=true:=by rfl):G5 C n ae Ji (o::l) E σ:=d3N hg hd hy h
theorem cD(h:D3 C σ E o λr aa=>match r with| .ret c=>G5 C n ae Ji l (E.put o.dst c True) aa| .pan c=>Ji (.pan c) E aa)(hg:o.guard=none:=by rfl)(hd:(match o.dst with|some d=>Nat.blt d n|none=>true)=true:=by rfl):G5 C n ae Ji (o::l) E σ:=a1P hg hd h
theorem cG{j t:Nat}{av:Bool}(hy:b=av->Yields C σ E o c)(h:G5 C n ae Ji l (E.put o.dst c (b=av)) σ)(hg:o.guard=some (j,av):=by rfl)(ht:(ae[j]?).bind (·.dst)=some t:=by rfl)(hv:E.ok t:=by exact D)(hb:E.f t= .val (.bool b):=by rfl)
 (hd:(match o.dst with|some d=>Nat.blt d n|none=>true)=true:=by rfl):G5 C n ae Ji (o::l) E σ:=d8A hg ht hv hb hd hy h
theorem cC{c:Operand}{x:Code}(ht:b=true->CWp C n x Ji E σ)(gz:b=false->CWp C n y Ji E σ)(hv:E.valid c:=by first|exact D|exact O)(hc:E.val C c= .val (.bool b):=by exact O):CWp C n (.cond c x y) Ji E σ:=a2C hv hc ht gz
theorem hY{K:Env->Prop}(k:Yields C σ E o c)(h:a0f C σ ae K l (E.put o.dst c True))(hg:o.guard=none:=by rfl):a0f C σ ae K (o::l) E:=d9H hg k h
theorem yc{f:FuncId}(ho:o.op = .call {callee:=.value (.func f),args:=xs,argTypes:=ts})(az:∀args w,(callFunc f args).run C.P w= .ok (.enter f args) w)
 (hv:E.valids xs.toList)(h:b8 C f cargs σ λr aa=>r= .ret c/\aa=σ)(k:G5 C n ae Ji l (E.put o.dst c True) σ)(ea:(E.vals C xs.toList).map CV.fgt=cargs:=by exact O)(hg:o.guard=none:=by rfl)(hd:(match o.dst with|some d=>Nat.blt d n|none=>true)=true:=by rfl):G5 C n ae Ji (o::l) E σ:=d3N hg hd (c4 ho az hv h ea) k
theorem dc{f:FuncId}{α:Type}{c:α->CV}{S:α->List b9}{P:α->Prop}(ho:o.op = .call {callee:=.value (.func f),args:=xs,argTypes:=ts})(az:∀args w,(callFunc f args).run C.P w= .ok (.enter f args) w)
 (hv:E.valids xs.toList)(h:b8 C f cargs σ λr aa=>∃a,r= .ret (c a)/\aa=S a/\P a)(hk:∀a,P a->G5 C n ae Ji l (E.put o.dst (c a) True) (S a))(ea:(E.vals C xs.toList).map CV.fgt=cargs:=by exact O)(hg:o.guard=none:=by rfl)(hd:(match o.dst with|some d=>Nat.blt d n|none=>true)=true:=by rfl):G5 C n ae Ji (o::l) E σ:=a1P hg hd (c5 ho az hv h ea hk)
theorem ye{f:FuncId}(ho:o.op = .call {callee:=.value (.func f),args:=xs,argTypes:=ts})(az:∀args w,(callFunc f args).run C.P w= .ok (.enter f args) w)
 (hv:E.valids xs.toList)(h:b8 C f cargs σ λr aa=>r= .ret c/\aa=σ)(ea:(E.vals C xs.toList).map CV.fgt=cargs)(k:G5 C n ae Ji l (E.put o.dst c True) σ)(hg:o.guard=none:=by rfl)(hd:(match o.dst with|some d=>Nat.blt d n|none=>true)=true:=by rfl):G5 C n ae Ji (o::l) E σ:=yc ho az hv h k ea hg hd
theorem de{f:FuncId}{α:Type}{c:α->CV}{S:α->List b9}{P:α->Prop}(ho:o.op = .call {callee:=.value (.func f),args:=xs,argTypes:=ts})(az:∀args w,(callFunc f args).run C.P w= .ok (.enter f args) w)
 (hv:E.valids xs.toList)(h:b8 C f cargs σ λr aa=>∃a,r= .ret (c a)/\aa=S a/\P a)(ea:(E.vals C xs.toList).map CV.fgt=cargs)(hk:∀a,P a->G5 C n ae Ji l (E.put o.dst (c a) True) (S a))(hg:o.guard=none:=by rfl)(hd:(match o.dst with|some d=>Nat.blt d n|none=>true)=true:=by rfl):G5 C n ae Ji (o::l) E σ:=dc ho az hv h hk ea hg hd
def c40(ae:Array Oper):List Nat:=ae.toList.foldl (λms o=>ms++[o.after.toList.foldl (λm e=>if b4x e then(m |||(1 <<< e.on)) |||ms.getD e.on 0 else m) 0]) []
theorem cW(nh:Nat)(h:a0f C σ ae (λE'=>G5 C n ae Ji (ae.toList.drop nh) E' σ) (ae.toList.take nh) E)(hm:C.P.follows .mixedOrders=true:=by kernel_rfl)(hB:b7F ae nh (c40 ae)=true:=by kernel_rfl)
 (hd:(ae.toList.all λo=>match o.dst with|some d=>Nat.blt d n|none=>true)=true:=by rfl):CWp C n (.region id ae true) Ji E σ:=c1B nh (c40 ae) hm hB hd h
theorem rE1{fn:Func}{t:Nat}(hr:fn.results = #[.tmp t]:=by exact O)(hv:E.ok t:=by exact D)(ec:E.f t=c:=by conv=>lhs;whnf):V8 C E σ fn c:=a1w hr hv ec
theorem rE0{fn:Func}(hr:fn.results = #[]:=by exact O):V8 C E σ fn (.tup []):=r8 (rs:=[]) (cs:=[]) hr trivial (n_5 O)
theorem cF(qs hd:List Nat){tl:List (Nat×List Nat)}(h:a0T C σ ae (λE' S=>Q8 C ae qs Ji S tl E' σ) hd E [])(hm:C.P.follows .mixedOrders=true:=by kernel_rfl)(hB:b1c ae qs (c40 ae) hd tl=true:=by kernel_rfl)
 (bX:(ae.toList.all λo=>match o.dst with|some d=>Nat.blt d n|none=>true)=true:=by rfl):CWp C n (.region id ae true) Ji E σ:=b7q qs (c40 ae) hd hm hB bX h
theorem cO{f:FuncId}{fn:Func}{c:Code}{args:List CV}(hf:C.P.funcs[f]?=some fn)(h:CWp C fn.ntmps c (Fin C fn K) (Env.args args) σ)(hb:fn.body=some c:=by rfl)(hn:Nat.ble args.length fn.ntmps=true:=by rfl):b8 C f args σ K:=a5g hf hb hn h
end
section
variable{C:Ctx}{n:Nat}{ae:Array Oper}{Ji:A8->Env->List b9->Prop}{E E':Env}{σ:List b9}
def Unr(C:Ctx)(n:Nat)(c:Code)(Ji:A8->Env->List b9->Prop):Nat->Env->List b9->Prop
 |0,_,_=>False
 |k+1,E,σ=>qc C n 999 999 c (A8.next (λE σ=>Unr C n c Ji k E σ) Ji) E σ
theorem d6V(k:Nat){c:Code}(h:Unr C n c Ji k E σ):CWp C n (.loop c) Ji E σ:=c1L (Unr C n c Ji) k h λm E σ hI=>by
 cases m with
 |zero=>exact hI.elim
 |succ m=>
  refine CWp.mono (a4Q hI) λe E σ h=>?_;cases e with
  |normal=>exact⟨m,Nat.lt_succ_self m,h⟩
  |_=>exact h
theorem a5y{P:Program}{f:FuncId}{fn:Func}{c:Code}(hf:P.funcs[f]?=some fn)(hb:fn.body =some c)(hn:(fn.name == "runtime.NumGoroutine")=false): ∀args w,(callFunc f args).run P w= .ok (.enter f args) w:=λargs w=>by
 have hn: ¬fn.name = "runtime.NumGoroutine" :=H hn
 simp[callFunc,hf,hb,hn,go_sem]
abbrev DK(C:Ctx)(n:Nat)(ae:Array Oper)(Ji:A8->Env->List b9->Prop)(l:List Oper)(E:Env)(o:Oper):N8->List b9->Prop:=λr aa=>match r with| .ret c=>a8l C n ae Ji l (E.putO o.dst c .yes) aa| .pan c=>Ji (.pan c) E aa
theorem x_g{j t:Nat}{av:Bool}(hg:o.guard=some (j,av))(ht:(ae[j]?).bind (·.dst)=some t)(hv:E.ok t)(hb:E.f t= .val (.bool av))(hd:(match o.dst with|some d=>Nat.blt d n|none=>true)=true)(h:D3 C σ E o (DK C n ae Ji l E o)):G5 C n ae Ji (o::l) E σ:=
 b3h (b:=av) (.val undef) hg ht hv hb hd (λ_=>h.mono λr aa h=>by
  cases r with
  |ret c=>rw[show(av=av)=True from eq_true O];exact(a1x h).yes
  |pan c=>exact h) λh=>absurd O h
theorem a0B:∀{l:List Operand},l.all E.vb=true->E.valids l
 | [],_=>trivial
 |x::l,h=>by
  rw[b1F,O5]at h;exact⟨Env.vb_ok h.1,a0B h.2⟩
theorem d7Z{f:FuncId}{fn:Func}{c:Code}{xs:Array Operand}{ts:Array TypeId}{K:N8 → List b9 → Prop}(ho:o.op = .call {callee:=.value (.func f),args:=xs,argTypes:=ts})(hv:E.valids xs.toList)(hf:C.P.funcs[f]?=some fn)(hb:fn.body =some c)(hn:(fn.name == "runtime.NumGoroutine")=false)(hl:Nat.ble ((E.vals C xs.toList).map CV.fgt).length fn.ntmps =true)
 (h:qc C fn.ntmps 999 999 c (Fin C fn K) (Env.args ((E.vals C xs.toList).map CV.fgt)) σ):D3 C σ E o K:=
 b0R ho (a5y hf hb hn) (Env.valids_mem hv) (Env.vals_map _) (Z9 (qO hf h hb hl))
theorem qCt{c:Operand}{x:Code}(h:qc C n 999 999 x Ji E σ)(hv:E.valid c)(hc:E.val C c= .val (.bool true)):CWp C n (.cond c x y) Ji E σ:=a2C hv hc (λ_=>a4Q h) λh=>by cases h
theorem qCf{c:Operand}{x:Code}(h:qc C n 999 999 y Ji E σ)(hv:E.valid c)(hc:E.val C c= .val (.bool false)):CWp C n (.cond c x y) Ji E σ:=a2C hv hc (λh=>by cases h) λ_=>a4Q h
theorem qX(h:Ji (.exit id) E σ):CWp C n (.exit id) Ji E σ:=l9 h
theorem e0h{f:FuncId}{fn:Func}{c:Code}{xs:Array Operand}{ts:Array TypeId}{K:N8 → List b9 → Prop}{cargs:List CV}{α:Type}{r:α → CV}{S:α → List b9}{P:α → Prop}(ho:o.op = .call {callee:=.value (.func f),args:=xs,argTypes:=ts})(hf:C.P.funcs[f]?=some fn)(h:b8 C f cargs σ λr' τ=>∃a,r'= .ret (r a) ∧ τ=S a ∧ P a)(hv:E.valids xs.toList)(hb:fn.body =some c)(hn:(fn.name == "runtime.NumGoroutine")=false)
 (ea:(E.vals C xs.toList).map CV.fgt=cargs)(k:∀a,P a->K (.ret (r a)) (S a)):D3 C σ E o K:=c5 ho (a5y hf hb hn) hv h ea k
theorem a6l{f:FuncId}{fn:Func}{c:Code}{xs:Array Operand}{ts:Array TypeId}{K:N8 → List b9 → Prop}{cargs:List CV}{r:CV}(ho:o.op = .call {callee:=.value (.func f),args:=xs,argTypes:=ts})(hf:C.P.funcs[f]?=some fn)(h:b8 C f cargs σ λr' τ=>r'= .ret r ∧ τ=σ)(hv:E.valids xs.toList)(hb:fn.body =some c)(hn:(fn.name == "runtime.NumGoroutine")=false)
 (ea:(E.vals C xs.toList).map CV.fgt=cargs)(k:K (.ret r) σ):D3 C σ E o K:=d_y (c4 ho (a5y hf hb hn) hv h ea) k
theorem a04{i:TypeInfo}{v:Value}(h:P.info? t=some i)(hz:i.zero=some v)(w:World):(zeroValue t).run P w= .ok v w:=by simp[zeroValue,typeInfo,h,hz]
theorem b1L{i:TypeInfo}(h:P.info? t=some i)(w:World):(typeInfo t).run P w= .ok i w:=by simp[typeInfo,h]
theorem b84{fn:Func}{t:Nat}(hr:fn.results = #[.tmp t])(hv:E.ok t)(ec:E.f t=c)(k:K (.ret c) σ):Fin C fn K .ret E σ:=⟨c,a1w hr hv ec,k⟩
theorem d6v{fn:Func}{t u:Nat}{d:CV}(hr:fn.results = #[.tmp t,.tmp u])(hv:E.ok t)(cB:E.ok u)(ec:E.f t=c)(ed:E.f u=d)(k:K (.ret (.tup [c,d])) σ):Fin C fn K .ret E σ:=⟨_,r8 (rs:=[.tmp t,.tmp u]) (cs:=[c,d]) hr ⟨⟨hv,ec⟩,⟨cB,ed⟩,D⟩ Q,k⟩
theorem d2G{fn:Func}(hr:fn.results = #[])(k:K (.ret (.tup [])) σ):Fin C fn K .normal E σ:=⟨_,r8 (rs:=[]) (cs:=[]) hr trivial Q,k⟩
def YK(C:Ctx)(σ:List b9)(E:Env)(o:Oper)(K:CV->Prop):Prop:=∃c,Yields C σ E o c/\K c
theorem k_y{K:CV->Prop}(h:Yields C σ E o c)(k:K c):YK C σ E o K:=⟨c,h,k⟩
theorem k_e{K:CV->Prop}{c':CV}(h:Yields C σ E o c)(e:c=c')(k:K c'):YK C σ E o K:=⟨c',e▸h,k⟩
theorem k_d(h:YK C σ E o λc=>K (.ret c) σ):D3 C σ E o K:=let⟨_,h1,h2⟩:=h;d_y h1 h2
structure Env.Like(E E':Env):Prop where
 f:∀t,E.f t=E'.f t
 ok:∀t,E.ok t↔E'.ok t
 un:∀t,E.un t↔E'.un t
theorem Env.Like.put(h:E.Like E')(d:Option Nat)(c:CV)(g:Prop):(E.put d c g).Like (E'.put d c g) where
 f t:=by
  cases d with
  |none=>exact h.f t
  |some d=>rw[Env.put_f,Env.put_f,h.f]
 ok t:=by
  cases d with
  |none=>exact h.ok t
  |some d=>rw[Env.put_ok,Env.put_ok,h.ok]
 un t:=by
  cases d with
  |none=>exact h.un t
  |some d=>rw[Env.put_un,Env.put_un,h.un]
theorem Env.like_yes{d:Option Nat}:(E.putO d c .yes).Like (E.put d c True) where
 f t:=by
  cases d with
  |none=>rfl
  |some d=>rw[Env.put_f,Env.putO_f]
 ok t:=by
  cases d with
  |none=>rfl
  |some d=>rw[Env.put_ok,Env.putO_ok];rfl
 un t:=by
  cases d with
  |none=>rfl
  |some d=>rw[Env.put_un,Env.putO_un];rfl
theorem Env.Like.does(h:E.Like E')(hd:D3 C σ E o K):D3 C σ E' o K:=λM w ρ hr hx=>hd M w ρ hr λx hm hv=>by
 cases x with
 |tmp t=>
  show RV M w (E.f t) _;rw[h.f t];exact hx _ hm ((h.ok t).1 hv)
 |_=>exact hx _ hm hv
theorem Env.Like.frel{M:A5}{w:World}{a:Act}(h:E.Like E')(hf:H0 M w n E' a):H0 M w n E a:=⟨hf.defers,hf.size,λt ht=>by rw[h.f t];exact hf.rv t ((h.ok t).1 ht),λt ht=>hf.un t ((h.un t).1 ht)⟩
theorem Env.Like.cops(h:E.Like E')(hc:G5 C n ae Ji l E σ):G5 C n ae Ji l E' σ:=λM w a hr hf=>hc M w a hr (h.frel hf)
theorem Env.Like.head{K:Env->Prop}(hK:∀E E',E.Like E'->K E->K E'):∀{l:List Oper} {E E':Env},E.Like E'->a0f C σ ae K l E->a0f C σ ae K l E'
 | [],_,_,h,hc=>hK _ _ h hc
 |o::l,E,E',h,⟨c,g,ho,hc⟩=>⟨c,g,by
  rcases ho with⟨h1,h2,h3⟩|⟨j,t,av,b,h1,h2,h3,h4,h5,h6⟩
  .exact .inl ⟨h1,h2,h.does h3⟩
  .refine .inr ⟨j,t,av,b,h1,h2,λu=>(h.un t).1 (h3 λv=>u ((h.ok t).1 v)),by rw[<- h.f t];exact h4,?_,λu v=>h.does (h6 ((h.ok t).2 u) v)⟩;rw[h5,h.ok t],Env.Like.head hK (h.put _ _ _) hc⟩
theorem k_h{l2:List Oper}(h:YK C σ E o λc=>a0f C σ ae (λE'=>G5 C n ae Ji l2 E' σ) l (E.putO o.dst c .yes))(hg:o.guard=none:=by rfl):a0f C σ ae (λE'=>G5 C n ae Ji l2 E' σ) (o::l) E:=let⟨_,h1,h2⟩:=h;d9H hg h1 (Env.like_yes.head (λ_ _ h=>h.cops) h2)
def c9H(ae:Array Oper):Nat:=(ae.toList.takeWhile λo=>match o.op with
 | .call {callee:=.value _,..} | .store .. | .alloc _| .box .. | .panic _| .insert .. | .mapUpdate .. | .makeSlice .. | .makeMap ..=>false
 | .call {callee:=.builtin .append,..} | .call {callee:=.builtin .unsafeString,..}=>false
 |_=>true).length
theorem k_w(k:Nat)(hB:b7F ae (c9H ae+k) (c40 ae)=true)(h:a0f C σ ae (λE'=>G5 C n ae Ji (ae.toList.drop (c9H ae+k)) E' σ) (ae.toList.take (c9H ae+k)) E)(hm:C.P.follows .mixedOrders=true:=by kernel_rfl)
 (hd:(ae.toList.all λo=>match o.dst with|some d=>Nat.blt d n|none=>true)=true:=by rfl):CWp C n (.region id ae true) Ji E σ:=c1B _ (c40 ae) hm hB hd h
theorem k_f{K:Env->List (List b9->Prop)->Prop}{S:List (List b9->Prop)}{l:List Nat}(ho:ae[i]?=some o)(hg:o.guard=none)(h:YK C σ E o λc=>a0T C σ ae K l (E.put o.dst c True) (S++[λaa=>J9 C aa ae o E c True])):a0T C σ ae K (i::l) E S:=let⟨_,h1,h2⟩:=h;chf ho (c7 hg h1) h2
theorem k_t{qs:List Nat}{S:List (List b9->Prop)}{fl:List Nat}{l:List (Nat×List Nat)}(gB:qs.contains i=false)(ho:ae[i]?=some o)(hg:o.guard=none)(h:YK C σ E o λc=>a1h S σ fl/\Q8 C ae qs Ji S l (E.put o.dst c True) σ):Q8 C ae qs Ji S ((i,fl)::l) E σ:=let⟨_,h1,h2⟩:=h;E8 gB ho (c7 hg h1) h2
theorem y_c{c':CV}(h:Yields C σ E o c)(e:c=c'):Yields C σ E o c':=e▸h
theorem a1O(h:(P.underlying t).map d8F=some b)(w:World):(isAgg t).run P w= .ok b w:=by
 obtain⟨d,hd,rfl⟩:=M6.1 h;exact a9X hd w
theorem a7z{s:Nat}(h:(Y.all λr=>Nat.beq r.length s)=true):∀r∈Y,r.length=s:=λr hr=>a2a (a2d.1 h r hr)
theorem d9A{y:Operand}{new:List (List CV)}{nn2:Bool}{tok2:Option Nat}{s:Nat}{ti:TypeInfo}(ho:o.op = .call {callee:=.builtin .append,args:=#[x,y],argTypes:=#[t,t]})(hx:E.valid x)(hy:E.valid y)(ex:E.val C x= .list Y nn tok)(ey:E.val C y= .list new nn2 tok2)
 (hu:C.P.underlying t=some (.slice e))(hs:C.P.info? e=some ti)(hz:ti.zero=some z)(gY:ti.size=s)(ca:z.cells.size=s)
 (bK:d0h σ Y nn tok)(aZ:(Y.all λr=>Nat.beq r.length s)=true)(cc:(new.all λr=>Nat.beq r.length s)=true)(ci:new≠[])(hb:Nat.ble ((Y.length+new.length)*ti.bytes) 140737488355328=true)(bm:Nat.ble (Y.length+new.length) 9223372036854775807=true)
 (hk:K (.ret (.list (Y++new) true (some σ.length))) (kill σ tok++[.tip (Y.length+new.length)])):D3 C σ E o K:=by
 subst gY;exact b0f ho hx hy ex (a20 ey (a7z cc)) (F6 hu) (I7 hs) (b1L hs) (a04 hs hz) ca bK (a7z aZ) ci (nb hb) (nb bm) hk
theorem d1J{fs:Array Field}{l:List (Nat×Nat)}(h:fs.toList.mapM (λf=>(P.info? f.type).map λi=>(f.offset,i.size))=some l)(w:World):(fs.mapM λ(f:Field)=>do pure (f.offset,<- sizeOf f.type)).run P w= .ok l.toArray w:=by
 obtain⟨fs⟩:=fs;have key:∀(fs:List Field) (l:List (Nat×Nat)),fs.mapM (λf=>(P.info? f.type).map λi=>(f.offset,i.size))=some l->(fs.mapM λ(f:Field)=>do pure (f.offset,<- sizeOf f.type):Sem (List (Nat×Nat))).run P w= .ok l w:=by
  intro fs
  induction fs with
  |nil=>intro l h;cases h;rfl
  |cons f fs ih=>
   intro l h;rw[List.mapM_cons]at h;cases hf:P.info? f.type with
   |none=>rw[hf]at h;cases h
   |some i=>
    rw[hf]at h;cases hr:fs.mapM (λf=>(P.info? f.type).map λi=>(f.offset,i.size))with
    |none=>rw[hr]at h;cases h
    |some r=>
     rw[hr]at h;cases h;have h2:=ih r hr;simp at h2;simp[List.mapM_cons,I7 hf,h2]
 rw[List.mapM_toArray,Sem.run_map,key fs l h];rfl
theorem d3l{parts:Array (Nat×Operand)}{fs:Array Field}{l:List (Nat×Nat)}{ti:TypeInfo}{out:List CV}(ho:o.op = .build t parts)(hv:a3t E parts.toList)
 (hu:C.P.underlying t=some (.struct fs))(hs:C.P.info? t=some ti)(hz:ti.zero=some z)(bV:K4 z=true)(cU:∃cs,H8 z= .agg cs)
 (bf:fs.toList.mapM (λf=>(C.P.info? f.type).map λi=>(f.offset,i.size))=some l)
 (aO:b3a (a3o C E parts.toList)=true)(bp:b1T l.toArray (H8 z).cells (a3o C E parts.toList)=some out):Yields C σ E o (.agg out):=
 B2 l.toArray ho hv (F6 hu) (a04 hs hz) bV cU (d1J bf) aO bp
def b66(s:Nat):Nat->List CV->List (List CV)
 |0,_=>[]
 |n+1,l=>l.take s::b66 s n (l.drop s)
theorem e0Q{len:Nat}{parts:Array (Nat×Operand)}{ti:TypeInfo}{out:List CV}(ho:o.op = .buildSlice t len parts)(hv:a3t E parts.toList)
 (hu:C.P.underlying t=some (.slice e))(hs:C.P.info? e=some ti)(hz:ti.zero=some z)(bV:K4 z=true)(cU:c3z (H8 z)=true)(fH:(H8 z).cells.length=ti.size)(dS:Nat.blt 0 ti.size=true)
 (am:Nat.ble (len*ti.size) 16777216=true)(aO:b3a (a3o C E parts.toList)=true)
 (bp:a3L (λi=>some (i*ti.size,ti.size)) ((List.range (len*ti.size)).map λi=>(H8 z).cells.getD (i%ti.size) default) (a3o C E parts.toList)=some out)(cl:out=(b66 ti.size len out).flatten)(cz:(b66 ti.size len out).length=len)(aZ:((b66 ti.size len out).all λr=>Nat.beq r.length ti.size)=true):Yields C σ E o (.list (b66 ti.size len out) true none):=
 B4 _ ho hv (F6 hu) (I7 hs) (a04 hs hz) bV cU fH dS am aO (bp.trans (D9 some cl)) cz aZ
theorem d1X{k:IntKind}{d m:Nat}(hv:E.valid x)(he:E.val C x= .val (.int k (Int.ofNat m))):a0I C E (some x) d m:=⟨hv,k,_,he,Int.natCast_nonneg m,O⟩
theorem d1C{lo hi:Option Operand}{l h:Nat}{ti:TypeInfo}(ho:o.op = .slice t x lo hi none)(hx:E.valid x)(ex:E.val C x= .list Y nn tok)
 (hu:C.P.underlying t=some (.slice e))(hs:C.P.info? e=some ti)(aZ:(Y.all λr=>Nat.beq r.length ti.size)=true)(gc:a0I C E lo 0 l)(gA:a0I C E hi Y.length h)(h1:Nat.ble l h=true)(h2:Nat.ble h Y.length=true):Yields C σ E o (.list ((Y.take h).drop l) nn none):=
 a6S ho hx ex (F6 hu) (I7 hs) (a7z aZ) gc gA (nb h1) (nb h2)
theorem d0a{t2:TypeId}{y:Operand}{new:List (List CV)}{ti:TypeInfo}(ho:o.op = .call {callee:=.builtin .append,args:=#[x,y],argTypes:=#[t,t2]})(hx:E.valid x)(hy:E.valid y)(ex:E.val C x= .list Y nn tok)(aW:∀M w v,Rel C M σ w->RV M w (E.val C y) v->b9S C w M new 1 v)
 (hu:C.P.underlying t=some (.slice e))(dl:C.P.underlying t2=some (.slice e)\/C.P.underlying t2=some .string)(hs:C.P.info? e=some ti)(hz:ti.zero=some z)(gY:ti.size=1)(ca:z.cells.size=1)
 (bK:b3U (some e) σ Y nn tok)(aZ:(Y.all λr=>Nat.beq r.length 1)=true)(ci:new≠[])(hb:Nat.ble ((Y.length+new.length)*ti.bytes) 140737488355328=true)(bm:Nat.ble (Y.length+new.length) 9223372036854775807=true)
 (hk:K (.ret (.list (Y++new) true (some σ.length))) (kill σ tok++[.tipT (some e) (Y.length+new.length)])):D3 C σ E o K:=
 a5z ho hx hy ex aW (F6 hu) (λw=>by rw[I7 hs,gY]) (b1L hs) (a04 hs hz) ca (dl.imp F6 F6) (.inr O) W9 bK (a7z aZ) ci (nb hb) (nb bm) hk
def unb:List (List CV)->I
 | [.val (.int _ n)]::l=>UInt8.ofNat n.toNat::unb l
 |_=>[]
def d8m(q:Nat):List CV->Nat->Option (Nat×List (List CV))
 | [],_=>none
 | .list Y _ (some p)::l,i=>match Nat.beq p q with
  |true=>some (i,Y)
  |false=>d8m q l (i+1)
 |_::l,i=>d8m q l (i+1)
def d7R(q:Nat):List b9->Nat->Option (Nat×Nat×List (List CV))
 | [],_=>none
 | .boxT _ cells::l,k=>match d8m q cells 0 with
  |some (i,Y)=>some (k,i,Y)
  |none=>d7R q l (k+1)
 |_::l,k=>d7R q l (k+1)
theorem d8w{pt it:TypeId}{y:Operand}{q k n:Nat}{cells:List CV}{t0:Option TypeId}(ho:o.op = .call {callee:=.builtin .unsafeString,args:=#[x,y],argTypes:=#[pt,it]})(hx:E.valid x)(hy:E.valid y)(ex:E.val C x= .eptr q 0 0)(ey:E.val C y= .val (.int .i64 (Int.ofNat n)))
 (hf:d7R q σ 0=some (k,i,Y))(hn:n=(unb Y).length)(hq:σ[q]?=some (.tipT (some e) (unb Y).length))(hk:σ[k]?=some (.boxT t0 cells))(hi:cells[i]?=some (.list ((unb Y).map bcv) true (some q)))(aB:unb Y≠[])
 (hp:C.P.underlying pt=some (.pointer e))(hc:C.P.cellsOf e=1)(h:K (.ret (sv (unb Y))) (σ.set q .dead)):D3 C σ E o K:=
 b0Q ho hx hy ex (by rw[ey,hn];rfl) hq hk hi aB hp hc h
theorem d8O{f:FuncId}{fn:Func}{c:Code}{cx:Operand}{xs:Array Operand}{ts:Array TypeId}{K:N8 → List b9 → Prop}(ho:o.op = .call {callee:=.value cx,args:=xs,argTypes:=ts})(hc:E.valid cx)(ec:E.val C cx= .val (.func (.func f) #[] #[]))(hv:E.valids xs.toList)(hf:C.P.funcs[f]?=some fn)(hb:fn.body =some c)(hn:(fn.name == "runtime.NumGoroutine")=false)(hl:Nat.ble ((E.vals C xs.toList).map CV.fgt).length fn.ntmps =true)
 (h:qc C fn.ntmps 999 999 c (Fin C fn K) (Env.args ((E.vals C xs.toList).map CV.fgt)) σ):D3 C σ E o K:=
 c1u ho hc ec (a5y hf hb hn) (Env.valids_mem hv) (Env.vals_map _) (Z9 (qO hf h hb hl))
end
variable{f:FuncId}
end Go.Cl
namespace Go.Proofs.YtlppbmfecjabeaaGreatDoor
open Go Go.Cl
variable{s:I}{ks:List Int}{m:List (Int×Int)}{a:Nat}
abbrev iv(x:Int):CV:=.val (.int .i64 x)
def c3V:List CV:=[1,10,100,1000,10000,100000,1000000,10000000,100000000,1000000000,10000000000,100000000000,1000000000000,10000000000000,100000000000000,1000000000000000,10000000000000000,100000000000000000,1000000000000000000,10000000000000000000].map λz:Int=>.val (.int .u64 z)
def tyT:List (Nat×TyE):=[(9,⟨false,1,[]⟩),(3,⟨false,1,[]⟩),(39,⟨true,3,[0,1,2]⟩),(32,⟨true,1,[0]⟩),(212,⟨true,5,[0,1,2,3,4]⟩),(119,⟨true,4,[0,1,2,3]⟩),(67,⟨true,3,[0,1,2]⟩),(59,⟨true,6,[0,1,2,3,4,5]⟩),(54,⟨true,2,[0,1]⟩),(231,⟨true,4,[0,1,2,3]⟩),(25,⟨true,1,[0]⟩),(26,⟨false,1,[]⟩),(228,⟨true,7,[0,1,2,3,4,5,6]⟩),(30,⟨false,1,[]⟩),(22,⟨false,1,[]⟩),(105,⟨true,2,[0,1]⟩),(199,⟨true,4,[0,1,2,3]⟩),(117,⟨false,1,[]⟩),(40,⟨false,1,[]⟩),(65,⟨false,1,[]⟩),(129,⟨true,2,[0,1]⟩),(112,⟨true,5,[0,1,2,3,4]⟩),(183,⟨true,8,[0,1,2,3,4,5,6,7]⟩),(309,⟨true,5,[0,2,3,4]⟩),(36,⟨false,1,[]⟩),(95,⟨true,6,[0,3,4,5]⟩),(27,⟨false,1,[]⟩),(244,⟨true,2,[0,1]⟩),(23,⟨false,1,[]⟩),(210,⟨true,8,[0,3,7]⟩),(149,⟨false,1,[]⟩),(4,⟨false,1,[]⟩),(5,⟨false,1,[]⟩),(91,⟨true,2,[0,1]⟩),(29,⟨true,2,[0,1]⟩),(103,⟨false,1,[]⟩),(109,⟨false,1,[]⟩),(292,⟨false,1,[]⟩),(107,⟨false,1,[]⟩),(305,⟨true,2,[]⟩),(110,⟨false,1,[]⟩),(175,⟨true,3,[0,1,2]⟩),(93,⟨true,3,[]⟩),(335,⟨true,2,[0,1]⟩),(178,⟨false,1,[]⟩),(86,⟨false,1,[]⟩),(195,⟨true,2,[0,1]⟩),(191,⟨false,1,[]⟩),(242,⟨false,1,[]⟩),(181,⟨false,1,[]⟩),(221,⟨true,1,[0]⟩)]
theorem d7a:tyT.all (tyB Tryz.prog)=true:=by kernel_rfl
noncomputable def CC:Ctx:={P:=Tryz.prog,glob:=λg=>match g with|1=>some c3V|_=>none,tab:=tyT,right:=d7W d7a}
theorem hCC:CC.plain:=λg cells h=>by
 have:cells=c3V:=by
  simp only[CC]at h;split at h
  .exact (Option.some.inj h).symm
  .cases h
 subst this;intro c hc;obtain⟨z,_,rfl⟩:=H9.1 hc;exact .val _
theorem an_{f:FuncId}{fn:Func}{c:Code}{args:List CV}{res:CV}{σ:List b9}(hf:CC.P.funcs[f]?=some fn)(h:CWp CC fn.ntmps c (Fin CC fn λr τ=>∃aD c,τ=[]++aD/\r= .ret c/\Cls ([]:List b9).length τ c res) (Env.args args) [])(hb:fn.body=some c:=by rfl)(hn:Nat.ble args.length fn.ntmps=true:=by rfl)(p1:P5 args:=by exact pu_)(p2:r9 res:=by exact pu_):b8 CC f args σ λr τ=>r= .ret res/\τ=σ:=b8.anyw hCC p1 p2 (c9 (a5g hf hb hn h)) σ
def icv(x:Int):List CV:=[iv x]
def scv(x:I):List CV:=[sv x]
theorem F4(l:List Int)(nn:Bool):r9 (.list (l.map icv) nn none):=M4 (f:=icv) (λ_=>⟨.val _,D⟩) l nn
theorem o6(l:List I)(nn:Bool):r9 (.list (l.map scv) nn none):=M4 (f:=scv) (λ_=>⟨.val _,D⟩) l nn
theorem X7(n:Nat)(l:List Int)(nn:Bool):Old n (.list (l.map icv) nn none):=(F4 l nn).old
theorem B8(n:Nat)(l:List I)(nn:Bool):Old n (.list (l.map scv) nn none):=(o6 l nn).old
def d0X:I:=[97,98,99,100,101,102,103,104,105,106,107,108,109,110,111,112,113,114,115,116,117,118,119,120,121,122]
def e00:I:=[48,49,50,51,52,53,54,55,56,57]
def a30:I:=[59,44,40,41,43,45,42,47,37,60,61]
def M0:List (Int×I):=[(1,d0X),(2,e00),(3,[95]),(4,[46]),(5,[9,10,13,32]),(6,[35]),(7,[34]),(8,a30)]
def j8(c:Int):Int:=
 if 97<=c/\c<=122 then 1 else if 48<=c/\c<=57 then 2 else if c=95 then 3 else if c=46 then 4 else if c=9\/c=10\/c=13\/c=32 then 5 else if c=35 then 6 else if c=34 then 7
 else if c=59\/c=44\/c=40\/c=41\/c=43\/c=45\/c=42\/c=47\/c=37\/c=60\/c=61 then 8 else 0
abbrev kb(a:Int):CV:=.val (.int .u8 a)
abbrev kv(a:Int):CV:=iv a
theorem d1s:R5 (α:=Int) CC.P 5 kb (λa=>.int .u8 a):=c77 .u8 b2e
theorem a0C:R5 (α:=Int) CC.P 3 kv (λa=>.int .i64 a):=c77 .i64 b7r
theorem b8e:R5 (α:=I) CC.P 9 sv (λa=>.string (str a)):=d8l t_5
def KM(m:List (Int×Int)):Prop:=∀c,(glk m c).getD 0=j8 c
theorem X4(n:Nat)(m:List (Int×Int)):G7 n (.map (gm kb kv m)):=λx hx=>by
 obtain⟨y,_,rfl⟩:=H9.1 hx;exact⟨.val _,.val _⟩
theorem c6c(n:Nat)(a b:List (Int×I)):G7 n (.iter (gm kv sv a) (gm kv sv b)):=⟨λx hx=>by
 obtain⟨y,_,rfl⟩:=H9.1 hx;exact⟨.val _,.val _⟩,λx hx=>by
 obtain⟨y,_,rfl⟩:=H9.1 hx;exact⟨.val _,.val _⟩⟩
theorem d0c(m:List (Int×Int)):a2M (.map (gm kb kv m)):=λx hx=>by
 obtain⟨y,_,rfl⟩:=H9.1 hx;exact⟨.val _,.val _⟩
def InB(s:I)(c:Int):Prop:=∃b∈s,(b.toNat:Int)=c
instance(s:I)(c:Int):Decidable (InB s c):=by unfold InB;exact inferInstance
def KL(m:List (Int×Int))(left:List (Int×I)):Prop:=left.Nodup/\(∀x∈left,x∈M0)/\∀c,(glk m c).getD 0=if ∃x∈left,InB x.2 c then 0 else j8 c
theorem d3v:∀x∈M0,∀b∈x.2,j8 (b.toNat:Int)=x.1:=by decide
theorem c9b:∀x∈M0,∀y∈M0,x≠y->∀b∈x.2,b∉y.2:=by decide
theorem c6e:M0.Nodup:=by decide
theorem d7p:∀c:Fin 256,j8 (c.val:Int)≠0->∃x∈M0,∃b∈x.2,(b.toNat:Int)=(c.val:Int):=by decide
theorem d2a{c:Int}(h:j8 c≠0):∃x∈M0,∃b∈x.2,(b.toNat:Int)=c:=by
 have hr:0<=c/\c<256:=by
  unfold j8 at h;split at h;· omega
  split at h;· omega
  split at h;· omega
  split at h;· omega
  split at h;· omega
  split at h;· omega
  split at h;· omega
  split at h
  .omega
  .exact absurd O h
 obtain⟨n,rfl⟩:∃n:Nat,c=n:=⟨c.toNat,J⟩;exact d7p ⟨n,J⟩ h
theorem KL.start:KL [] M0:=by
 refine⟨c6e,λx h=>h,λc=>?_⟩
 split
 .rfl
 .rename_i cA;have:j8 c=0:=by
   rcases Int.decEq (j8 c) 0 with h|h
   .exact absurd (d2a h) cA
   .exact h
  rw[this];rfl
theorem KL.done(h:KL m []):KM m:=λc=>by
 rw[h.2.2 c,G Q]
theorem KL.step{m':List (Int×Int)}{left:List (Int×I)}{i:Nat}{x:Int×I}(h:KL m left)(hx:left[i]?=some x)(hm:∀c,(glk m' c).getD 0=if InB x.2 c then x.1 else(glk m c).getD 0):KL m' (left.eraseIdx i):=by
 obtain⟨h1,h2,h3⟩:=h;have hxm:=h2 x (n_2 hx);have eI:∀y,y∈left.eraseIdx i↔y∈left/\y≠x:=λy=>by
  have ah:=(n_3.1 hx).1;have hxe:=(n_3.1 hx).2;constructor
  .intro hy;obtain⟨j,hj,ee⟩:=c9v.1 hy;refine⟨n_2 ee,λe=>?_⟩;subst e;exact hj ((List.getElem?_inj (n_3.1 ee).1 h1).1 (by rw[ee,hx]))
  .rintro ⟨hy,aB⟩;obtain⟨j,hj⟩:=M5.1 hy;refine c9v.2 ⟨j,λe=>?_,hj⟩;subst e;rw[hx]at hj;exact aB (Option.some.inj hj).symm
 refine⟨h1.sublist (List.eraseIdx_sublist _ _),λy hy=>h2 y ((eI y).1 hy).1,λc=>?_⟩;rw[hm c,h3 c];by_cases hc:InB x.2 c
 .rw [W hc,G]
  .obtain ⟨b,hb,rfl⟩:=hc;exact(d3v x hxm b hb).symm
  .rintro ⟨y,hy,b',gS,he⟩;obtain⟨b,hb,hbc⟩:=hc;obtain⟨fT,aB⟩:=(eI y).1 hy;have:b'=b:=b8H.1 J;subst this;exact c9b y (h2 y fT) x hxm aB b' gS hb
 .rw [G hc];have iD:(∃y∈left,InB y.2 c)↔∃y∈left.eraseIdx i,InB y.2 c:=by
   constructor
   .rintro ⟨y,hy,hb⟩;exact⟨y,(eI y).2 ⟨hy,λe=>hc (e▸hb)⟩,hb⟩
   .rintro ⟨y,hy,hb⟩;exact⟨y,((eI y).1 hy).1,hb⟩
  by_cases hh:∃y∈left,InB y.2 c
  .rw [W hh,W (iD.1 hh)]
  .rw [G hh,G (λh=>hh (iD.2 h))]
theorem b0V{α β:Type}{kc:α->CV}{vc:β->CV}(l:List (α×β))(i:Nat):(gm kc vc l).eraseIdx i=gm kc vc (l.eraseIdx i):=by
 induction l generalizing i with
 |nil=>rfl
 |cons x l ih=>
  cases i with
  |zero=>rfl
  |succ i=>exact D9 _ (ih i)
theorem b9w{α β:Type}{kc:α->CV}{vc:β->CV}{l:List (α×β)}{i:Nat}{x:CV×CV}(h:(gm kc vc l)[i]?=some x):∃y,l[i]?=some y/\x=(kc y.1,vc y.2):=by
 unfold gm at h;rw[P8,M6]at h;obtain⟨y,h1,h2⟩:=h;exact⟨y,h1,h2.symm⟩
theorem a3z(l:I)(nn:Bool):r9 (.list (l.map bcv) nn none):=M4 (f:=bcv) (λ_=>⟨.val _,D⟩) l nn
theorem a0R(n:Nat)(l:I)(nn:Bool):Old n (.list (l.map bcv) nn none):=(a3z l nn).old
theorem d7S:∀x∈M0,x.2.length<=26:=by decide
theorem c8O{m1:List (Int×Int)}{j:Nat}{b:UInt8}{k:Int}(hb:s[j]?=some b)(h:∀c,(glk m1 c).getD 0=if InB (s.take j) c then k else(glk m c).getD 0):
 ∀c,(glk (J5 m1 (b.toNat:Int) k) c).getD 0=if InB (s.take (j+1)) c then k else(glk m c).getD 0:=λc=>by
 have ht:s.take (j+1)=s.take j++[b]:=by
  obtain⟨ah,rfl⟩:=n_3.1 hb;exact(c0n ah).symm
 rw[I8,ht];by_cases hc:c=(b.toNat:Int)
 .rw [W hc,W ⟨b,Q,hc.symm⟩];rfl
 .rw [G hc,h c];have iD:InB (s.take j) c↔InB (s.take j++[b]) c:=by
   constructor
   .rintro ⟨y,hy,e⟩;exact⟨y,by simp[hy],e⟩
   .rintro ⟨y,hy,e⟩
    rcases W0.1 hy with hy|hy
    .exact ⟨y,hy,e⟩
    .rw [a9t.1 hy]at e;exact absurd e.symm hc
  by_cases hh:InB (s.take j) c
  .rw [W hh,W (iD.1 hh)]
  .rw [G hh,G (λh=>hh (iD.2 h))]
theorem c4I:b8 CC 123 [] [] λr τ=>∃m:List (Int×Int),a03 [b9.map (gm kb kv m)].length τ r (.ret (.map 0))/\a5T [b9.map (gm kb kv m)].length τ τ [.map (gm kb kv m)]/\([]:List b9).length<=[b9.map (gm kb kv m)].length/\KM m:=by
 refine qO Tryz.func123 ?_;refine qD (Q4 O ?_);refine qD (Q4 O ?_);refine qD (j9 (vc:=sv) (l:=M0.take 0) a0C (.inr O) D O O O O O a4W O ?_);refine qD (j9 (vc:=sv) (l:=M0.take 1) a0C (.inr O) D O O O O O a4W O ?_);refine qD (j9 (vc:=sv) (l:=M0.take 2) a0C (.inr O) D O O O O O a4W O ?_);refine qD (j9 (vc:=sv) (l:=M0.take 3) a0C (.inr O) D O O O O O a4W O ?_);refine qD (j9 (vc:=sv) (l:=M0.take 4) a0C (.inr O) D O O O O O a4W O ?_);refine qD (j9 (vc:=sv) (l:=M0.take 5) a0C (.inr O) D O O O O O a4W O ?_);refine qD (j9 (vc:=sv) (l:=M0.take 6) a0C (.inr O) D O O O O O a4W O ?_);refine qD (j9 (vc:=sv) (l:=M0.take 7) a0C (.inr O) D O O O O O a4W O ?_);refine qD (b4b O D O a4W O ?_);refine m0 hCC (α:=List (Int×Int)×List (Int×I)×List (Int×I)) (λ_=>[(1,.map 0),(9,.ptr 2 0)]) (λx=>[.map (gm kb kv x.1),.dead,.iter (gm kv sv x.2.1) (gm kv sv x.2.2)]) (λx=>KL x.1 x.2.2) (λx=>x.2.2.length) ([],[],M0) KL.start tu_ (aj:=[]) O A7 uz_ ?_;intro⟨m,aF,left⟩ fL;dsimp only at fL⊢;refine qk (qD (b83 O D O O (λhz=>?_) (λi x hx=>?_)))
 .
  have dF:left=[]:=by
   cases left with
   |nil=>rfl
   |cons y l=>cases hz
  subst dF;refine qC ?_ ?_<;>intro h1
  .cases h1
  .refine W5 ?_;exact⟨_,rE1,⟨m,.ret (.old (.map (Nat.zero_lt_one))),⟨.same (X4 _ _),D⟩,n_4 _,fL.done⟩⟩
 .
  obtain⟨⟨k,s⟩,hy,rfl⟩:=b9w hx;rw[b0V];have bS:=fL.2.1 _ (n_2 hy);have ez:s.length<=26:=d7S _ bS;refine qC ?_ ?_<;>intro h3
  .refine V (b5l O D O O) ?_;refine V (d4Q O D O t_5 a3C b2e do_) ?_;refine V c6w ?_;refine m0 hCC (α:=List (Int×Int)×Nat) (λx=>[(1,.map 0),(2,iv k),(9,.ptr 2 0),(16,(.list (s.map bcv) true none)),(17,iv s.length),(18,iv x.2)]) (λx=>[.map (gm kb kv x.1),.dead,.iter (gm kv sv [(k,s)]) (gm kv sv (left.eraseIdx i))]) (λx=>x.2<=s.length/\∀c,(glk x.1 c).getD 0=if InB (s.take x.2) c then k else(glk m c).getD 0) (λx=>s.length -x.2) (m,0) ⟨n_4 _,λc=>by rw[G (by simp[InB])]⟩ tu_ (aj:=[]) O A7 uz_ ?_;intro⟨m1,j⟩ ⟨hj,dz⟩;dsimp only at hj dz⊢;refine qk (qC ?_ ?_)<;> intro h4
   .have cg:(j:Int)<s.length:=H h4;obtain⟨b,hb⟩:=gx_ s j;refine V (z8 O D D O O a3C a8B J (o7 hb) O) ?_;refine qD (j9 (vc:=kv) (l:=m1) (a:=(b.toNat:Int)) (b:=k) d1s (.inl O) D D trivial O O O c1I O ?_);refine V r6 ?_;exact⟨(J5 m1 (b.toNat:Int) k,j+1),_,⟨do_,do_,c8O hb dz⟩,tu_,O⟩
   .have cg:s.length<=j:=by
     have:¬(j:Int)<s.length:=H h4;omega
    rw[a1i cg]at dz;refine l9 ?_;exact⟨(m1,[(k,s)],left.eraseIdx i),_,⟨by dsimp only;rw[c01 (n_3.1 hy).1];have:=(n_3.1 hy).1;omega,fL.step hy dz⟩,tu_,O⟩
  .cases h3
theorem b0U(σ:List b9):b8 CC 123 [] σ λr τ=>∃m:List (Int×Int),r= .ret (.map σ.length)/\τ=σ++[.map (gm kb kv m)]/\KM m:=
 a0Z (α:=List (Int×Int)) (obs:=[]) (args:=[]) (res:=λ_=>.ret (.map 0)) (res':=λ_=>.ret (.map σ.length)) (S:=λ_=>[]) (N:=λm=>[.map (gm kb kv m)]) (P:=KM) [] hCC O (λi j k h=>by simp at h) (λi k h=>by simp at h) (λob h=>by cases h) ⟨O,λi c c' h=>by simp at h⟩
  (P4 (res:=λ_=>.ret (.map 0)) (S:=λm=>[.map (gm kb kv m)]) (P:=KM) hCC c4I) (λm _=>⟨O,λob h=>by simp at h;subst h;exact d0c m⟩) (λm _=>.ret (.map (.inr ⟨n_4 _,O⟩)))
def inK(ks:List Int)(b:UInt8):Bool:=ks.any λk=>decide (j8 b.toNat=k)
def A4(s:I)(a:Nat)(ks:List Int):Nat:=a+((s.drop a).takeWhile (inK ks)).length
theorem a8J(h:s.length<=a):A4 s a ks=a:=by
 unfold A4;rw[U4 h];rfl
theorem V0{b:UInt8}(h:s[a]?=some b):A4 s a ks=if inK ks b=true then A4 s (a+1) ks else a:=by
 obtain⟨ah,rfl⟩:=n_3.1 h;unfold A4;rw[U5 ah,b53]
 split
 .rw [n_9];omega
 .rfl
theorem a19(h:a<=s.length):a<=A4 s a ks/\A4 s a ks<=s.length:=by
 unfold A4;have:=(List.takeWhile_sublist (inK ks) (l:=s.drop a)).length_le;rw[b6k]at this;omega
theorem c99{j:Nat}{k:Int}(h:ks[j]?=some k)(p:Int->Bool):(ks.take (j+1)).any p=((ks.take j).any p ||p k):=by
 obtain⟨ah,rfl⟩:=n_3.1 h;rw[<- c0n ah,List.any_append];simp
theorem c9O(s:I)(at_:Nat)(ks:List Int)(nn:Bool)(m:List (Int×Int))(hm:KM m)(ha:at_<=s.length)(hs:s.length<=1000000000000)(fL:ks.length<=1000000000000):b8 CC 124 [(sv s),iv at_,.map 0,(.list (ks.map icv) nn none)] [b9.map (gm kb kv m)] λr τ=>∃_:Unit,a03 [b9.map (gm kb kv m)].length τ r (.ret (iv (A4 s at_ ks:Int)))/\a5T [b9.map (gm kb kv m)].length τ τ [b9.map (gm kb kv m)]/\[b9.map (gm kb kv m)].length<=[b9.map (gm kb kv m)].length/\True:=by
 refine qO Tryz.func124 ?_;refine m0 hCC (α:=Nat) (λi=>[(0,(sv s)),(1,iv i),(2,.map 0),(3,(.list (ks.map icv) nn none))]) (λ_=>[b9.map (gm kb kv m)]) (λi=>i<=s.length/\A4 s at_ ks=A4 s i ks) (λi=>s.length -i) at_ ⟨ha,O⟩ tu_ (aj:=[]) O A7 uz_ ?_;intro i ⟨hi,ai⟩;refine a61 ?_;refine qC ?_ ?_<;>intro h1
 .have bM:(i:Int)<s.length:=H h1;obtain⟨b,hb⟩:=gx_ s i;rw[V0 hb]at ai;refine V a1Q ?_;refine m0 hCC (α:=Nat) (λj=>[(0,(sv s)),(1,iv i),(2,.map 0),(3,(.list (ks.map icv) nn none)),(9,(.val (.bool ((ks.take j).any λk=>decide (j8 b.toNat=k))))),(16,(.list (ks.map icv) nn none)),(17,iv ks.length),(18,iv j)]) (λ_=>[b9.map (gm kb kv m)]) (λj=>j<=ks.length) (λj=>ks.length -j) 0 (n_4 _) tu_ (aj:=[]) O A7 uz_ ?_;intro j hj;refine qk (qC ?_ ?_)<;> intro h2
  .have cg:(j:Int)<ks.length:=H h2;obtain⟨k,hk⟩:=gx_ ks j;refine V (z8 O D D O O t_3 t_1 J (o7 hk) O) ?_;refine a1u ?_;refine qG D2 ?_;refine qG d8S ?_;refine qG (λhg=>S4 (vc:=kv) (l:=m) (a:=(b.toNat:Int)) d1s O hg hg O O c1I t_6 O O (b4a _ _)) ?_;refine qG D2 ?_;refine b0C ?_;refine V r6 ?_;exact⟨(j+1),_,⟨J,J⟩,⟨r7,r7,r7,r7,⟨D,(by rw[c99 hk,<- hm];rfl)⟩,r7,r7,r7,D⟩,O⟩
  .have cg:ks.length<=j:=by
    have:¬(j:Int)<ks.length:=H h2;omega
   refine l9 ?_;refine qC ?_ ?_<;>intro h3
   .have cA:inK ks b=false:=by
     have:((ks.take j).any λk=>decide (j8 b.toNat=k))=false:=H h3;rwa[a1i cg]at this
    rw[cA]at ai;refine W5 ?_;exact⟨_,rE1,⟨(),.ret (C8 (by rw[ai];rfl)),⟨.same (X4 _ _),D⟩,n_6 _,D⟩⟩
   .have hyes:inK ks b=true:=by
     have:((ks.take j).any λk=>decide (j8 b.toNat=k))=true:=H h3;rwa[a1i cg]at this
    rw[hyes]at ai;refine V r6 ?_;exact⟨(i+1),_,⟨J,J,ai⟩,tu_,O⟩
 .have aH:s.length<=i:=by
   have:¬(i:Int)<s.length:=H h1;omega
  rw[a8J aH]at ai;refine W5 ?_;exact⟨_,rE1,⟨(),.ret (C8 (by rw[ai])),⟨.same (X4 _ _),D⟩,n_6 _,D⟩⟩
theorem a7a{at_:Nat}{nn:Bool}(hm:KM m)(ha:at_<=s.length)(hs:s.length<=1000000000000)(fL:ks.length<=1000000000000){σ:List b9}{q:Nat}(hq:σ[q]?=some (.map (gm kb kv m))):b8 CC 124 [(sv s),iv at_,.map q,(.list (ks.map icv) nn none)] σ λr τ=>r= .ret (iv (A4 s at_ ks:Int))/\τ=σ:=
 b0z hCC (d0c m) (.val _) hq (.cons (.val _) (.cons (.val _) (.cons (.map O) (.cons (.pure (F4 _ _)) .nil)))) (c9O s at_ ks nn m hm ha hs fL)
def B5(s:I):Bool:=match s with
 | []=>false
 |b::_=>decide (s.length<=24)&&decide (j8 b.toNat=1)&&s.all (inK [1,2,3])
theorem a7q:A4 s 0 ks=s.length↔s.all (inK ks)=true:=by
 unfold A4;rw[b3S,P2];generalize inK ks=p
 induction s with
 |nil=>simp
 |cons b s ih=>
  rw[b53,b1F];cases hp:p b with
  |false=>simp
  |true=>
   simp only[if_true,n_9,Nat.add_right_cancel_iff,b6g];exact ih
theorem c8M(h:1<=s.length):s[(0:Int).toNat]?=some (s.headD 0):=by
 cases s with
 |nil=>simp at h
 |cons b s=>rfl
theorem d0T(s:I)(hm:KM m){x y z w:Bool}(h1:x=decide ((s.length:Int)>=1))(h2:y=decide ((s.length:Int)<=24))(h3:z=((glk m ((s.headD 0).toNat:Int)).getD 0 == 1))(h4:w=((A4 s 0 [1,2,3]:Int) ==(s.length:Int))):(((x&&y)&&z)&&w)=B5 s:=by
 subst h1 h2 h3 h4;rw[hm];have h5:((A4 s 0 [1,2,3]:Int) ==(s.length:Int))=s.all (inK [1,2,3]):=by
  cases h:s.all (inK [1,2,3])with
  |true=>exact a2h (by have:=a7q.2 h;omega)
  |false=>
   refine a2c λe=>?_;have:=a7q.1 (show A4 s 0 [1,2,3]=s.length by omega);rw[h]at this;cases this
 rw[h5];cases s with
 |nil=>rfl
 |cons b s=>
  have h6:decide (((b::s).length:Int)>=1)=true:=by simp;omega
  have h7:decide (((b::s).length:Int)<=24)=decide ((b::s).length<=24):=b0u.2 J;rw[h6,h7];rfl
theorem a8x(s:I)(σ:List b9):b8 CC 74 [(sv s)] σ λr aa=>r= .ret (.val (.bool (B5 s)))/\aa=σ:=by
 refine b8.anyw hCC pu_ pu_ (c9 (qO Tryz.func74 ?_)) σ;refine qD (c5 O c71 trivial (b0U _) O ?_);intro m hm;refine V T7 ?_;refine b5o ?_;refine a2g ?_;refine a1u ?_;refine qG d9a ?_;refine qG (λhg=>S4 (vc:=kv) (l:=m) (a:=((s.headD 0).toNat:Int)) d1s O hg hg O O c1I t_6 O O (b4a _ _)) ?_;refine a2g ?_;refine a1u ?_;refine qG (λhg=>B4 ([1,2,3].map icv) O ⟨O,O,O,D⟩ t_3 t_1 t_6 O O O O O O O O O) ?_;refine qG (λhg=>c4 O c5I ⟨hg,O,hg,hg,D⟩ (a7a hm (n_4 _) (sm_ hg) U O) O) ?_;refine b5o ?_;refine qG b2y ?_;refine b4T ?_;exact⟨_,rE1,_,_,O,O,o3 (d0T s hm O O O O)⟩
theorem a93(s:I)(c:UInt8)(σ:List b9):b8 CC 233 [(sv s),(.val (.int .u8 (c.toNat:Int)))] σ λr aa=>r= .ret (iv (Go.Lib.indexByte s c))/\aa=σ:=by
 refine b8.anyw hCC pu_ pu_ (c9 (qO Tryz.func233 ?_)) σ;refine V (b9Q (e:=Extern.BytealgIndexByte.indexByte) O Tryz.func274 O O O O D D O O (λw=>c48 s c w)) ?_;exact c3t
theorem a5F(s:I)(c:UInt8)(σ:List b9):b8 CC 189 [(sv s),(.val (.int .u8 (c.toNat:Int)))] σ λr aa=>r= .ret (iv (Go.Lib.indexByte s c))/\aa=σ:=by
 refine b8.anyw hCC pu_ pu_ (c9 (qO Tryz.func189 ?_)) σ;exact d5i
theorem b8g(s:I)(c:UInt8)(σ:List b9):b8 CC 298 [(sv s),(sv ([c]))] σ λr aa=>r= .ret (iv (Go.Lib.indexByte s c))/\aa=σ:=by
 refine b8.anyw hCC pu_ pu_ (c9 (qO Tryz.func298 ?_)) σ;refine V T7 ?_;refine a1u ?_;refine qG b2v ?_;refine V U8 ?_;refine qC ?_ ?_<;>intro h1
 .have hs:s=[c]:=by simp at h1;exact h1.symm
  subst hs;refine c6 ?_;exact⟨_,rE1,_,_,O,O,C8 (by simp[Go.Lib.indexByte])⟩
 .refine cC ?_ ?_<;>intro h2
  .refine qk (V (J8 O D O O O t_5 J O) ?_);exact d5i
  .simp at h2
theorem a8I(s:I)(c:UInt8)(σ:List b9):b8 CC 263 [(sv s),(sv ([c]))] σ λr aa=>r= .ret (iv (Go.Lib.indexByte s c))/\aa=σ:=by
 refine b8.anyw hCC pu_ pu_ (c9 (qO Tryz.func263 ?_)) σ;refine V (c4 O Tryz.call298 j7 (b8g s c _) O) ?_;exact c3t
theorem a8o(s:I)(c:UInt8)(σ:List b9):b8 CC 262 [(sv s),(sv ([c]))] σ λr aa=>r= .ret (iv (s.count c:Nat))/\aa=σ:=by
 refine b8.anyw hCC pu_ pu_ (c9 (qO Tryz.func262 ?_)) σ;refine V T7 ?_;refine cC ?_ ?_<;>intro h1
 .simp at h1
 .refine a61 ?_;refine cC ?_ ?_<;>intro h2
  .refine qk (V (J8 O D O O O t_5 J O) ?_);refine V (b9Q (e:=Extern.BytealgCount.count) O Tryz.func297 O O O O D D O O (λw=>c5C s c w)) ?_;exact c3t
  .simp at h2
end Go.Proofs.YtlppbmfecjabeaaGreatDoor
