/- Part 2 of what the claim needs: values without addresses, and what the program's functions do with them. -/
import Derived.Lib.Bytealg
import Derived.Recover
import Derived.Lib.Builder
import Derived.Lib.UnsafeStr
import Derived.Sort.Grow
import Derived.Deep.Draws
import Derived.Lib.LaidTab
import Derived.Lib.MakeNoZero
import Derived.Shelf.Lays
import Derived.Sort.AssemblyPlain
import Derived.Sort.EveryDepth
import Derived.Shelf.Sort.WalkASIn
import Derived.Shelf.Sort.Walk7sIn
import Derived.Shelf.Sort.Walk11sIn
import Derived.Shelf.Sort.WalkC5sIn
import Derived.Shelf.Sort.WalkC4sIn
import Derived.Shelf.Sort.WalkB3sIn
import Derived.Shelf.Sort.Walk13sIn
import Derived.Shelf.Sort.WalkTopsIn
import Derived.Shelf.Sort.So_math_bits_LenInS
import Derived.Shelf.RegionOpen
import Derived.Shelf.AbstractIn
import Derived.Test.YtlppbmfecjabeaaGreatDoorProg
import Derived.Test.YtlppbmfecjabeaaGreatDoorC1
set_option linter.all false
set_option maxRecDepth 100000
set_option maxHeartbeats 4000000
namespace Go.Cl
variable {C:Ctx} {x y m kx:Operand} {t t' e et src dst kt:TypeId} {w w':World} {f:FuncId} {K:X7->List b9->Prop} {M M':z6} {σ obs:List b9} {c c':CV} {α β:Type} {args args' cargs cells:List CV} {R R':Nat->Nat->Prop} {q k n i off nh id:Nat} {o:Oper} {E:Env} {P:Program} {al qs ix ms:List Nat} {Q:G6->Env->List b9->Prop} {p:Pl} {v z:Value} {a:α} {ops:Array Oper} {ts:Array TypeId} {S:List (List b9->Prop)} {xs:Array Operand} {b:b9} {res:α->X7} {rows:List (List CV)} {g:Prop}
section
theorem a7a {s d:TypeId} {k k0 k':IntKind} {a b:Int} (ho:o.op = .convert s d x) (hx:E.valid x) (ex:E.val C x = .val (.int k a)) (hs:∀ w,(underlying s).run C.P w = .ok (.int k0) w) (hd:∀ w,(underlying d).run C.P w = .ok (.int k') w) (hb:k'.wrap a=b):o4 C σ E o (.val (.int k' b)) :=
 i8 fun M w ρ _ h=>by
  have h1:=h x x9 hx;rw [ex] at h1;refine ⟨.int k' b,?_,.val _⟩;simp [execOp,ho,convert,hs,hd,r2 h1,Conv.intToInt,hb]
theorem d1z {cx:Operand} (ho:o.op = .call { callee:=.value cx,args:=xs,argTypes:=ts}) (hc:E.valid cx) (ec:E.val C cx = .val (.func (.func f) #[] #[])) (hcall:∀ args w,(callFunc f args).run C.P w = .ok (.enter f args) w)
 (hv:∀ x∈xs.toList,E.valid x) (ea:xs.toList.map (E.val C)=cargs) (h:b8 C f cargs σ K):K1 C σ E o K:=fun M w ρ hr hh=>by
 have hf:=hh cx I7 hc;rw [ec] at hf;have ef:=r2 hf;have hrun:(execOp ρ o).run C.P w = .ok (.enter f (xs.map ρ)) w:=by
  simp [execOp,ho,resolve,ef,Deferred.ofValue,invoke,hcall]
 rw [hrun];refine (h M w (xs.map ρ) hr (by simp [<- ea]) fun i c hi=>?_).mono fun e w' he=>by cases e <;> exact he
 subst ea;simp only [O9,O3] at hi;obtain ⟨x,hx,rfl⟩:=hi;have hx':xs[i]? = some x:=sp_ hx;have hm:x∈xs:=a86 hx';have:(xs.map ρ).getD i undef=ρ x:=by
  rw [W4,c4F,hx'];rfl
 rw [this];exact hh x (by simp [ho,Op.operands,Call.operands,hm]) (hv x (sp_ hm))
theorem d5O {k:IntKind} {a b:Int} (ho:o.op = .call { callee:=.builtin .min,args:=#[x,y],argTypes:=ts}) (hx:E.valid x) (hy:E.valid y) (ex:E.val C x = .val (.int k a)) (ey:E.val C y = .val (.int k b)):o4 C σ E o (.val (.int k (min a b))) :=
 i8 fun M w ρ _ h=>by
  have h1:=h x I7 hx;have h2:=h y I7 hy;rw [ex] at h1;rw [ey] at h2;refine ⟨.int k (min a b),?_,.val _⟩;simp [execOp,ho,resolve,invoke,builtin,r2 h1,r2 h2,Go.Lib.run_min_ints]
end
def a6D:b9->Prop
 | .dead=>True
 | .boxT _ cells=>∀ c∈cells,r9 c
 | _=>False
theorem a6D.old {ob:b9} (h:a6D ob):I8 n ob:=by
 cases ob with
 | dead=>trivial
 | boxT t0 cells=>exact fun c hc=>(h c hc).old
 | _=>exact h.elim
theorem a6D.rel {ob:b9} (hat:∀ b o,M.at b o->M'.at b o) (hf:∀ b,M'.full b->M.full b) (hcl:∀ b o,M'.cell b o->M.cell b o) (hp:a6D ob) (h:O5 M w p ob/\a6b M p ob):O5 M' w p ob/\a6b M' p ob:=by
 cases ob with
 | dead=>exact ⟨tt,tt⟩
 | boxT t0 cells =>
  obtain ⟨⟨arr,ty,e1,e2,e3,e4⟩,g1,g2⟩:=h;exact ⟨⟨arr,ty,e1,e2,e3,fun i c hi=>(e4 i c hi).pure (fun b o ha=>⟨hat b o ha,rfl⟩) (hp c (n_0 hi))⟩,fun hh=>g1 (hf _ hh),fun o hh=>g2 o (hcl _ o hh)⟩
 | _=>exact hp.elim
theorem a8V.nil {l:List b9}:a8V n σ l []:=by cases l <;> trivial
theorem a6V {ob:b9} {c:α->CV} {S:α->b9} {P:α->Prop} (hC:C.plain) (hS:∀ a,a6D (S a)) (h:b8 C f args [ob] fun r σ'=>∃ (a:α) (rest:List b9) (c0:CV),σ'=S a::rest/\r = .ret c0/\Cls 1 σ' c0 (c a)/\P a) :
 b8 C f args [ob] fun r σ'=>∃ a,r = .ret (c a)/\σ'=[S a]/\P a:=fun M w vs hr hn hx=>(h M w vs hr hn hx).mono fun e w' he=>by
 cases e with
 | returned v =>
  obtain ⟨c',σ',M',h1,h2,h3,a,rest,c0,rfl,h5,h6,h7⟩:=he;injection h5 with h5
  subst h5;obtain ⟨g1,g2,g3⟩:=h2.cutCls hC (S:=[S a]) ⟨.same (hS a).old,.nil⟩;exact ⟨c a,[S a],_,g3 M w h1 (by rw [hr.len];exact n_4 _),g1,RV.close h2 g2 (fun k p s rows hk hp hs=>.inr ⟨k,p,_,hk,hp,hs,rfl,rfl⟩) h6 h3,⟨a,rfl,rfl,h7⟩⟩
 | panicked ch =>
  obtain ⟨c',v,σ',M',h0,h1,h2,h3,a,rest,c0,h4,h5,_⟩:=he;cases h5
 | outgrown=>exact he
theorem a2Z {ob:b9} {c:α->CV} {S:α->b9} {P:α->Prop} (hC:C.plain) (hargs:∀ a∈args,r9 a) (hc:∀ a,r9 (c a)) (hS:∀ a,a6D (S a)) (hob:a6D ob) (hlive:ob.live=true)
 (h:b8 C f (.ptr 0 0::args) [ob] fun r σ'=>∃ a,r = .ret (c a)/\σ'=[S a]/\P a) (σ:List b9) (q:Nat) (hq:σ[q]? = some ob):b8 C f (.ptr q 0::args) σ fun r σ'=>∃ a,r = .ret (c a)/\σ'=σ.set q (S a)/\P a:=fun M w vs hr hn hx=>by
 have hqs:q < σ.length:=(n_1.1 hq).1;obtain ⟨pq,hpq⟩:∃ p,M.pl[q]? = some p:=⟨M.pl[q]'(by rw [hr.len];exact hqs),si_⟩
 let LB:Nat->Prop:=fun b=>∃ (k:Nat) (p:Pl) (ob':b9),k≠q/\M.pl[k]? = some p/\σ[k]? = some ob'/\ob'.live=true/\p.block=b
 let M0:z6:={ pl:=[pq],full:=M.full,cell:=M.cell,keep:=fun b=>M.keep b\/LB b}
 have hat:∀ b o,M.at b o->M0.at b o/\w.cell? ⟨b,o,none⟩=w.cell? ⟨b,o,none⟩:=fun b o h=>⟨h,rfl⟩;have hLB:∀ b,LB b->b < w.heap.size:=fun b ⟨k,p,ob',_,hp,hs,hl,hb⟩=>hb ▸ (hr.obj k p ob' hp hs).1.lt hl;have h0:∀ {k:Nat} {p:Pl},M0.pl[k]? = some p->k=0/\p=pq:=fun {k p} hp=>by
  rcases k with _ | k
  ·exact ⟨rfl,(Option.some.inj hp).symm⟩
  ·simp [M0] at hp
 have h0o:∀ {k:Nat} {x:b9},[ob][k]? = some x->x=ob:=fun {k x} hx=>by
  rcases k with _ | k
  ·exact (Option.some.inj hx).symm
  ·simp at hx
 have hr0:Rel C M0 [ob] w:=⟨rfl,hr.blk,fun k p x hp hs=>by
  obtain ⟨rfl,rfl⟩:=h0 hp;obtain rfl:=h0o hs;exact hob.rel (M:=M) (M':=M0) (fun b o h=>h) (fun b h=>h) (fun b o h=>h) (hr.obj q p x hpq hq),fun k k' p p' x x' hp hp' _ _ _ _ _=>by
  rw [(h0 hp).1,(h0 hp').1],fun g cells hg=>⟨by
  have:=(hr.glob g cells hg).rv;cases this with
  | cptr vals h1 h2 h3=>exact .cptr vals h1 h2 fun j c hj=>(h3 j c hj).pure hat (hC g cells hg c (n_0 hj)),(hr.glob g cells hg).full,(hr.glob g cells hg).sz⟩,
  fun b hb=>(by
   rcases hb with hb | hb
   ·exact hr.kep b hb
   ·exact hLB b hb),fun k p x hp hs hl hb=>by
  obtain ⟨rfl,rfl⟩:=h0 hp;obtain rfl:=h0o hs
  rcases hb with hb | ⟨k,p',ob',hk,hp',hs',hl',hb⟩
  ·exact hr.nk q p x hpq hq hl hb
  ·exact hk (hr.inj k q p' p ob' x hp' hpq hs' hq hl' hl hb)⟩
 refine (h M0 w vs hr0 (sp_ hn) fun i a hi=>?_).mono fun e w' he=>?_
 ·rcases i with _ | i
  ·simp at hi;subst hi;have:=hx 0 (.ptr q 0) si_;generalize vs.getD 0 undef=v0 at this ⊢;cases this with
   | ptr hk =>
    rw [hpq] at hk;injection hk with hk
    subst hk;exact .ptr (M:=M0) (k:=0) rfl
  ·simp at hi;exact (hx (i+1) a (sp_ hi)).pure hat (hargs a (n_0 hi))
 cases e with
 | panicked ch =>
  obtain ⟨c',v,σ',M',_,_,_,_,⟨a,h5,_⟩⟩:=he;cases h5
 | outgrown=>exact he
 | returned v =>
  obtain ⟨c',σ',M',h1,h2,h3,a,h4,rfl,hP⟩:=he;injection h4 with h4
  subst h4;have hpl:M'.pl[0]? = some pq:=h1.get (M:=M0) rfl
  let M2:z6:={ pl:=M.pl,full:=M'.full,cell:=M'.cell,keep:=M.keep}
  have hx2:Ext M w M2 w':=⟨⟨[],by simp [M2]⟩,h1.full,h1.cell,h1.same,h1.sameC,h1.size,h1.drew,h1.os,h1.tape,h1.output,fun b hb=>by
   obtain ⟨k1,k2,k3,k4⟩:=h1.kept b (.inl hb);exact ⟨hb,k2,k3,k4⟩⟩
  have hset:∀ {k:Nat} {x:b9},(σ.set q (S a))[k]? = some x->(k=q/\x=S a)\/(k≠q/\σ[k]? = some x):=fun {k x} hk=>by
   rw [b2C] at hk;split at hk
   ·rename_i e;exact .inl ⟨e.symm,(Option.some.inj hk).symm⟩
   ·rename_i e;exact .inr ⟨fun h=>e h.symm,hk⟩
  have hlv:∀ {k:Nat} {x:b9},(σ.set q (S a))[k]? = some x->x.live=true->∃ y,σ[k]? = some y/\y.live=true:=fun {k x} hk hl=>by
   rcases hset hk with ⟨rfl,rfl⟩ | ⟨_,h⟩
   ·exact ⟨ob,hq,hlive⟩
   ·exact ⟨x,h,hl⟩
  refine ⟨c a,σ.set q (S a),M2,hx2,⟨by simp [M2,hr.len],h2.blk,fun k p x hp hs=>?_,fun k k' p p' x x' hp hp' hs hs' hl hl' hb=>?_,fun g cells hg=>(hr.glob g cells hg).mono hx2,fun b hb=>b1g (hr.kep b hb) h1.size,fun k p x hp hs hl=>?_⟩,h3.pure (M:=M') (M':=M2) (w':=w') (fun b o h=>⟨h,rfl⟩) (hc a),⟨a,rfl,rfl,hP⟩⟩
  ·rcases hset hs with ⟨rfl,rfl⟩ | ⟨hk,hs⟩
   ·have e:p=pq:=by
     have hp:M.pl[k]? = some p:=hp;rw [hpq] at hp;exact (Option.some.inj hp).symm
    subst e;exact (hS a).rel (M:=M') (M':=M2) (fun b o h=>h) (fun b h=>h) (fun b o h=>h) (h2.obj 0 p (S a) hpl rfl)
   ·by_cases hl:x.live=true
    ·obtain ⟨k1,k2,k3,k4⟩:=h1.kept p.block (.inr ⟨k,p,x,hk,hp,hs,hl,rfl⟩);obtain ⟨g1,g2⟩:=hr.obj k p x hp hs;refine ⟨g1.mono hx2 k2 (fun _ _ _ o ho=>k4 o ho),?_⟩;cases x with
     | dead=>trivial
     | tipT t0 n=>exact fun hf=>g2 (k3 hf)
     | _=>exact ⟨fun hf=>g2.1 (k3 hf),fun o ho=>g2.2 o (k4 o ho)⟩
    ·cases x <;> first|exact ⟨tt,tt⟩ | simp [b9.live] at hl
  ·obtain ⟨y,hy,hyl⟩:=hlv hs hl;obtain ⟨y',hy',hyl'⟩:=hlv hs' hl';exact hr.inj k k' p p' y y' hp hp' hy hy' hyl hyl' hb
  ·obtain ⟨y,hy,hyl⟩:=hlv hs hl;exact hr.nk k p y hp hy hyl
theorem c4c {M0:z6} (hr:Rel C M σ w) {len s:Nat} (hp:M.pl[k]? = some p) (hσ:σ[k]? = some (.vec s rows)) (hle:off+len<=rows.length) (hrows:∀ r∈rows,∀ c∈r,r9 c)
 (hat:∀ b o,M.at b o->M0.at b o) (hfp:M0.full p.block) {v:Value} (hv:RV M w (.vec k off len) v):RV M0 w (.list ((rows.drop off).take len) true none) v:=by
 cases hv with
 | vec hp' g1 g2 g3 =>
  rename_i p' a;rw [hp] at hp';injection hp' with hp'
  subst hp';obtain ⟨⟨hps,q1,q2,q3,q4,arr,ty,q5,q6,q7⟩,_⟩:=hr.obj k p _ hp hσ;have hlen:((rows.drop off).take len).length=len:=by simp;omega
  have hget:∀ i r,((rows.drop off).take len)[i]? = some r->i < len/\rows[off+i]? = some r:=fun i r hi=>by
   rw [a2o] at hi;split at hi
   ·rw [a66] at hi;exact ⟨‹_›,hi⟩
   ·cases hi
  have hoff:(rows.drop off).take len≠[]->off < p.cap:=fun hne=>by
   have:0 < ((rows.drop off).take len).length:=a85.2 hne;omega
  refine RV.list' (L:=len) om_ (b:=p.block) (off:=off*p.size) (s:=p.size) (fun i j=>arr.getD ((off+i)*p.size+j) undef) om_ om_ rfl (fun h=>by cases h) (fun hne=>by rw [g3 (hoff hne)]) (fun r hr'=>?_) (fun r hr' c hc'=>?_) (fun i j r c hi hj=>?_) (fun i j r c hi hj=>?_) (fun k hk=>by cases hk)
  ·obtain ⟨i,hi⟩:=L3.1 hr';exact q3 r (n_0 (hget i r hi).2)
  ·obtain ⟨i,hi⟩:=L3.1 hr';exact q4 r (n_0 (hget i r hi).2) c hc'
  ·obtain ⟨hil,hri⟩:=hget i r hi;have hjl:j < p.size:=by have:=(n_1.1 hj).1;rwa [q3 r (n_0 hri)] at this
   have hq:(off+i)*p.size+j < arr.size:=by
    rw [q6];have:(off+i+1)*p.size<=p.cap*p.size:=R9 _ om_;rw [R7 (off+i)] at this;omega
   refine ⟨.inl hfp,?_⟩;rw [show off*p.size+i*p.size+j=(off+i)*p.size+j from by rw [R7 off]];simp [World.cell?,q5,hq]
  ·obtain ⟨hil,hri⟩:=hget i r hi;exact (q7 _ _ _ _ hri hj).pure (fun b o h=>⟨hat b o h,rfl⟩) (hrows r (n_0 hri) c (n_0 hj))
theorem a6E {len s:Nat} {v0:Value} (hC:C.plain) (hargs:∀ a∈args,r9 a) (hrows:∀ r∈rows,∀ c∈r,r9 c) (hle:off+len<=rows.length) (hk:σ[k]? = some (.vec s rows))
 (h:b8 C f (.list ((rows.drop off).take len) true none::args) [] fun r σ'=>r = .ret (.val v0)/\σ'=[]):b8 C f (.vec k off len::args) σ fun r σ'=>r = .ret (.val v0)/\σ'=σ :=
 fun M w vs hr hn hx=>by
  have hks:k < σ.length:=(n_1.1 hk).1;obtain ⟨q,hq⟩:∃ p,M.pl[k]? = some p:=⟨M.pl[k]'(by rw [hr.len];exact hks),si_⟩;obtain ⟨hqo,hqf⟩:=hr.obj k q _ hq hk
  let LB:Nat->Prop:=fun b=>∃ (k:Nat) (p:Pl) (ob:b9),M.pl[k]? = some p/\σ[k]? = some ob/\ob.live=true/\p.block=b
  let M0:z6:={ pl:=[],full:=fun b=>M.full b\/b=q.block,cell:=M.cell,keep:=fun b=>M.keep b\/LB b}
  have hat:∀ b o,M.at b o->M0.at b o/\w.cell? ⟨b,o,none⟩=w.cell? ⟨b,o,none⟩:=fun b o h=>⟨h.imp .inl id,rfl⟩;have hLB:∀ b,LB b->b < w.heap.size:=fun b ⟨k,p,ob,hp,hs,hl,hb⟩=>hb ▸ (hr.obj k p ob hp hs).1.lt hl;have hr0:Rel C M0 [] w:=⟨rfl,fun b o hb=>(by
   rcases hb with (hb | rfl) | hb
   ·exact hr.blk b o (.inl hb)
   ·exact hqo.lt rfl
   ·exact hr.blk b o (.inr hb)),fun k p ob hp=>by simp [M0] at hp,fun k k' p p' ob ob' hp=>by simp [M0] at hp,fun g cells hg=>⟨by
   have:=(hr.glob g cells hg).rv;cases this with
   | cptr vals h1 h2 h3=>exact .cptr vals h1 (fun j c hj=>⟨(hat _ _ (h2 j c hj).1).1,(h2 j c hj).2⟩) fun j c hj=>(h3 j c hj).pure hat (hC g cells hg c (n_0 hj)),.inl (hr.glob g cells hg).full,(hr.glob g cells hg).sz⟩,
   fun b hb=>(by
   rcases hb with hb | hb
   ·exact hr.kep b hb
   ·exact hLB b hb),fun k p ob hp=>by simp [M0] at hp⟩
  refine (h M0 w vs hr0 hn fun i a hi=>?_).mono fun e w' he=>?_
  ·rcases i with _ | i
   ·simp at hi;subst hi;exact c4c hr hq hk hle hrows (fun b o h=>(hat b o h).1) (.inr rfl) (hx 0 _ si_)
   ·exact (hx (i+1) a (sp_ hi)).pure hat (hargs a (n_0 (sp_ hi)))
  ·cases e with
   | panicked ch =>
    obtain ⟨c',v,σ',M',_,_,_,_,⟨h5,_⟩⟩:=he;cases h5
   | outgrown=>exact he
   | returned v =>
    obtain ⟨c',σ',M',h1,h2,h3,⟨h4,rfl⟩⟩:=he;injection h4 with h4
    subst h4
    let M2:z6:={ pl:=M.pl,full:=fun b=>M'.full b/\b≠q.block,cell:=fun b o=>M'.cell b o/\b≠q.block,keep:=M.keep}
    have hx2:Ext M w M2 w':=⟨⟨[],by simp [M2]⟩,fun b hb=>⟨h1.full b (.inl hb),fun e=>hqf.1 (e ▸ hb)⟩,fun b o hb=>(h1.cell b o hb).imp (fun h=>⟨h,fun e=>hqf.2 o (e ▸ hb)⟩) (fun h=>⟨h,fun e=>hqf.2 o (e ▸ hb)⟩),fun b hb=>h1.same b (.inl hb),h1.sameC,h1.size,h1.drew,h1.os,h1.tape,h1.output,fun b hb=>by
     obtain ⟨k1,k2,k3,k4⟩:=h1.kept b (.inl hb);exact ⟨hb,k2,fun hf=>(k3 hf.1).elim id fun e=>absurd e hf.2,fun o ho=>k4 o ho.1⟩⟩
    refine ⟨.val v0,σ,M2,hx2,⟨hr.len,fun b o hb=>h2.blk b o (hb.imp (·.1) (·.1)),fun k p ob hp hs=>?_,hr.inj,fun g cells hg=>(hr.glob g cells hg).mono hx2,fun b hb=>b1g (hr.kep b hb) h1.size,hr.nk⟩,by rw [r2 h3];exact .val _,rfl,rfl⟩;by_cases hl:ob.live=true
    ·obtain ⟨k1,k2,k3,k4⟩:=h1.kept p.block (.inr ⟨k,p,ob,hp,hs,hl,rfl⟩);obtain ⟨g1,g2⟩:=hr.obj k p ob hp hs;have k3':M2.full p.block->M.full p.block:=fun hf=>(k3 hf.1).elim id fun e=>absurd e hf.2;refine ⟨g1.mono hx2 k2 (fun _ _ _ o ho=>k4 o ho.1),?_⟩;cases ob with
     | dead=>trivial
     | tipT t0 n=>exact fun hf=>g2 (k3' hf)
     | _=>exact ⟨fun hf=>g2.1 (k3' hf),fun o ho=>g2.2 o (k4 o ho.1)⟩
    ·cases ob <;> first|exact ⟨tt,tt⟩ | simp [b9.live] at hl
section
end
section
theorem b1E {l:List Oper} {j t:Nat} {want b:Bool} (c0:CV) (hg:o.guard=some (j,want)) (ht:(ops[j]?).bind (·.dst)=some t) (hv:E.ok t) (hb:E.f t = .val (.bool b))
 (hd:(match o.dst with | some d=>Nat.blt d n | none=>true)=true) (hy:b=want->K1 C σ E o fun r σ'=>match r with
  | .ret c=>O6 C n ops Q l (E.put o.dst c (b=want)) σ'
  | .pan c=>Q (.pan c) E σ') (hn:¬ b=want->O6 C n ops Q l (E.put o.dst c0 (b=want)) σ):O6 C n ops Q (o::l) E σ:=fun M w a hr hf=>by
 have hd1:(match o.dst with | some d=>d < n | none=>True):=by
  cases hd':o.dst with
  | none=>trivial
  | some d=>rw [hd'] at hd;simpa [a33] using hd
 have h1:RV M w (E.f t) (a.tmps.getD t undef):=hf.rv t hv;rw [hb] at h1;have h2:a.tmps.getD t undef = .bool b:=by generalize a.tmps.getD t undef=u at h1;cases h1;rfl
 have hsz:t < a.tmps.size:=by
  rcases a0c t a.tmps.size with h' | h'
  ·exact h'
  ·simp [a9a h',undef] at h2
 have hw:Region.wanted o (yielded ops a.tmps)=(b == want):=by
  have h3:a.tmps[t]? = some (.bool b):=by
   rw [W4,a0q hsz] at h2;rw [a0q hsz,<- h2];rfl
  have h4:yielded ops a.tmps j=some b:=by unfold yielded;rw [ht,n_6,h3]
  simp only [Region.wanted,hg,h4];cases b <;> cases want <;> rfl
 have hd':∀ t,o.dst=some t->t < n:=fun t ht=>by rw [ht] at hd1;exact hd1
 unfold wpList;by_cases hbw:b=want
 ·rw [if_pos a6H];refine .inl (R1 (hy hbw M w a.eval hr fun x _ hx=>hf.eval hr hx) (fun v w' ha=>?_) (fun ch w' ha=>?_))
  ·obtain ⟨c',σ',M',h1,h2,h3,h4⟩:=ha;exact h4.later h1 h2 ((hf.mono h1).put hd' (fun _=>h3) fun hh=>absurd hbw hh)
  ·obtain ⟨c,v,σ',M',h0,h1,h2,h3,h4⟩:=ha;exact ⟨E,σ',M',h1,h2,hf.mono h1,c,v,h0,h3,h4⟩
 ·rw [if_neg a6H];exact (hn hbw).later (Ext.refl M w) hr (hf.put hd' (fun hh=>absurd hh hbw) fun _=>rfl)
end
def b0H (ops:Array Oper) (al qs:List Nat) (ix:List Nat) (nh:Nat) (ms:List Nat) (fls:List (List Nat)):Bool :=
 Nat.beq ix.length ops.size && Y7 ix && (ix.all fun j=>Nat.blt j ops.size) && ((List.range ops.size).all fun j=>ix.contains j) && Nat.ble nh ops.size && Nat.beq (nh+fls.length) ops.size &&
 ((List.range ops.size).all fun j =>
  match ops[j]? with
  | none=>true
  | some o =>
   (o.after.toList.all fun e=>!N9 e || Nat.blt e.on j) &&
   ((List.range ops.size).all fun i=>!(ms.getD j 0).testBit i || o.after.toList.any fun e=>N9 e && (Nat.beq e.on i || (ms.getD e.on 0).testBit i))) &&
 ((List.range ops.size).all fun k =>
  match ops[ix.getD k 0]? with
  | none=>true
  | some o =>
   (if Nat.ble nh k then (List.range k).all fun k'=>Nat.blt k' nh || al.contains (ix.getD k 0) || qs.contains (ix.getD k' 0) || (ms.getD (ix.getD k 0) 0).testBit (ix.getD k' 0) else true) &&
   ((o.looksAt ops).all fun t=>(List.range ops.size).all fun k'=>Nat.beq k' k || !((ops[ix.getD k' 0]?).bind (·.dst) == some t) || (if Nat.blt k' k then (ms.getD (ix.getD k 0) 0).testBit (ix.getD k' 0) else (ms.getD (ix.getD k' 0) 0).testBit (ix.getD k 0))) &&
   (o.dst == none || (List.range k).all fun k'=>!((ops[ix.getD k' 0]?).bind (·.dst) == o.dst) || (ms.getD (ix.getD k 0) 0).testBit (ix.getD k' 0))) &&
 ((List.range fls.length).all fun p=>(List.range nh).all fun k=>(fls.getD p []).contains k || (List.range (p+1)).any fun p'=>!qs.contains (ix.getD (nh+p') 0) && (ms.getD (ix.getD (nh+p') 0) 0).testBit (ix.getD k 0)) &&
 (al.all fun i=>!qs.contains i)
structure b1W (ops:Array Oper) (al qs:List Nat) (ix:List Nat) (nh:Nat) (ms:List Nat) (fls:List (List Nat)):Prop where
 len:ix.length=ops.size
 nodup:∀ (i j k:Nat),ix[i]? = some k->ix[j]? = some k->i=j
 lt:∀ (k j:Nat),ix[k]? = some j->j < ops.size
 onto:∀ j,j < ops.size->∃ k:Nat,ix[k]? = some j
 le:nh<=ops.size
 fl:nh+fls.length=ops.size
 edge:∀ j o,ops[j]? = some o->∀ e∈o.after,N9 e=true->e.on < j
 mask:∀ j o,ops[j]? = some o->∀ i,i < ops.size->(ms.getD j 0).testBit i=true->∃ e∈o.after,N9 e=true/\(e.on=i\/(ms.getD e.on 0).testBit i=true)
 tail:∀ (k k' j j':Nat),nh<=k'->k' < k->ix[k]? = some j->ix[k']? = some j'->j∈al\/j'∈qs\/(ms.getD j 0).testBit j'=true
 tmps:∀ (k j:Nat) (o:Oper),ix[k]? = some j->ops[j]? = some o->∀ t∈o.looksAt ops,∀ (k' j':Nat) (o':Oper),k'≠k->ix[k']? = some j'->ops[j']? = some o'->o'.dst=some t->(k' < k/\(ms.getD j 0).testBit j'=true)\/(k < k'/\(ms.getD j' 0).testBit j=true)
 dsts:∀ (k k' j j':Nat) (o o':Oper) (d:Nat),k' < k->ix[k]? = some j->ix[k']? = some j'->ops[j]? = some o->ops[j']? = some o'->o.dst=some d->o'.dst=some d->(ms.getD j 0).testBit j'=true
 fls:∀ p k,p < fls.length->k < nh->k∈fls.getD p []\/∃ p',p'<=p/\ix.getD (nh+p') 0∉qs/\(ms.getD (ix.getD (nh+p') 0) 0).testBit (ix.getD k 0)=true
 aq:∀ i∈al,i∉qs
variable {fl:List Nat} {fls:List (List Nat)}
theorem c5Z (h:b0H ops al qs ix nh ms fls=true):b1W ops al qs ix nh ms fls:=by
 unfold b0H at h;simp only [a0i] at h;obtain ⟨⟨⟨⟨⟨⟨⟨⟨⟨h1,h2⟩,h3⟩,h4⟩,h5⟩,h6⟩,h7⟩,h8⟩,h9⟩,h10⟩:=h;have hlen:=a6h h1;simp only [a0z] at h3 h4 h7 h8 h9 h10;have getD_of:∀ {k j:Nat},ix[k]? = some j->ix.getD k 0=j/\k < ops.size:=fun {k j} hk=>⟨by simp [a3o,hk],by rw [<- hlen];exact (n_1.1 hk).1⟩;have get7:∀ j o,ops[j]? = some o->_:=fun j o ho=>by
  have hj:j < ops.size:=(T9.1 ho).1;have:=h7 j (sp_ hj);rw [ho] at this;simp only [a0i] at this;exact this
 have get8:∀ k j o,ix[k]? = some j->ops[j]? = some o->_:=fun k j o hk ho=>by
  have:=h8 k (by simpa using (getD_of hk).2);rw [(getD_of hk).1,ho] at this;simp only [a0i] at this;exact this
 refine ⟨hlen,a7p h2,fun k j hk=>by have:=h3 j (n_0 hk);simpa [a33] using this,fun j hj=>?_,nb h5,a6h h6,fun j o ho e he hb=>?_,fun j o ho i hi hm=>?_,fun k k' j j' hn hlt hk hk'=>?_,fun k j o hk ho t ht k' j' o' hne hk' ho' hd=>?_,fun k k' j j' o o' d hlt hk hk' ho ho' hd hd'=>?_,fun p k hp hk=>?_,fun i hi=>by simpa using h10 i hi⟩
 ·have:=h4 j (sp_ hj);have hm:j∈ix:=sp_ this;exact L3.1 hm
 ·have:=(get7 j o ho).1;rw [a0z] at this;have:=this e (sp_ he);simp only [hb,c05,b6o] at this;simpa [a33] using this
 ·have:=(get7 j o ho).2;rw [a0z] at this;have:=this i (sp_ hi);simp only [hm,c05,b6o,c2i,a0i,a6j] at this;obtain ⟨e,he,hb,hx⟩:=this;refine ⟨e,sp_ he,hb,?_⟩
  rcases hx with hx | hx
  ·exact .inl (a6h hx)
  ·exact .inr hx
 ·have ho:ops[j]? = some (ops[j]'(by have:=h3 j (n_0 hk);simpa [a33] using this)):=by simp
  have:=(get8 k j _ hk ho).1.1;rw [if_pos (by simp [Nat.ble_eq];omega),a0z] at this;have:=this k' (sp_ hlt);rw [(getD_of hk').1] at this;have e1:Nat.blt k' nh=false:=b2h.2 fun hb=>by simp [a33] at hb;omega
  simp only [e1,b6o,a6j] at this
  rcases this with (h | h) | h
  ·exact .inl (sp_ h)
  ·exact .inr (.inl (sp_ h))
  ·exact .inr (.inr h)
 ·have:=(get8 k j o hk ho).1.2;rw [a0z] at this;have:=this t ht;rw [a0z] at this;have:=this k' (by simpa using (getD_of hk').2);rw [(getD_of hk').1] at this;have e1:Nat.beq k' k=false:=b2h.2 fun hb=>hne (a6h hb);simp only [e1,ho',n_6,hd,b6o,beq_self_eq_true,c05] at this;by_cases hlt:k' < k
  ·rw [if_pos (by simpa [a33] using hlt)] at this;exact .inl ⟨hlt,this⟩
  ·rw [if_neg (by simp [a33];omega)] at this;exact .inr ⟨om_,this⟩
 ·have:=(get8 k j o hk ho).2;simp only [hd,a6j,a0z,b7u] at this
  rcases this with h | h
  ·cases h
  ·have:=h k' hlt;rw [(getD_of hk').1] at this;simp only [ho',n_6,hd',beq_self_eq_true,c05,c0a,false_or] at this;exact this
 ·have:=h9 p (sp_ hp) k (sp_ hk);simp only [a6j,c2i,b7u,a0i] at this
  rcases this with h | ⟨p',hp',hq,h⟩
  ·exact .inl (sp_ h)
  ·exact .inr ⟨p',om_,sp_ hq,h⟩
theorem RV.grow (hpl:∃ l,M'.pl=M.pl++l) (hat:∀ b o,M.at b o->M'.at b o) (hr:RV M w c v):RV M' w c v:=by
 have get:∀ {k:Nat} {p:Pl},M.pl[k]? = some p->M'.pl[k]? = some p:=fun {k p} hk=>by
  obtain ⟨l,hl⟩:=hpl;rw [hl,M5 (n_1.1 hk).1];exact hk
 induction hr with
 | val v=>exact .val v
 | agg h1 h2 _ ih=>exact .agg h1 h2 ih
 | tup h1 _ ih=>exact .tup h1 ih
 | clo h1 _ ih=>exact .clo h1 ih
 | list vals h1 h2 h3 h4 h5 h6 h7 h8 _ h10 ih =>
  refine .list vals h1 h2 h3 h4 h5 h6 h7 (fun i j r c hi hj=>?_) ih (fun k hk=>?_)
  ·obtain ⟨ha,hc⟩:=h8 i j r c hi hj;exact ⟨hat _ _ ha,hc⟩
  ·obtain ⟨s',hp,hrest⟩:=h10 k hk;exact ⟨s',get hp,hrest⟩
 | ptr hk=>exact .ptr (get hk)
 | cptr vals h1 h2 _ ih =>
  refine .cptr vals h1 (fun j c hj=>?_) ih;obtain ⟨ha,hc⟩:=h2 j c hj;exact ⟨hat _ _ ha,hc⟩
 | eptr hk=>exact .eptr (get hk)
 | vec hk h1 h2 h3=>exact .vec (get hk) h1 h2 h3
 | map hk=>exact .map (get hk)
def z6.adopt (M:z6) (q:Nat):z6:={ pl:=M.pl++[⟨q,0,0⟩],full:=M.full,cell:=M.cell,keep:=fun b=>M.keep b/\b≠q}
def z6.keepNew (M:z6) (q:Nat):z6:={ M with keep:=fun b=>M.keep b\/b=q}
theorem Rel.keepNew (hr:Rel C M σ w) (ob:Obj):Ext M w (M.keepNew w.heap.size) (w.alloc ob)/\Rel C (M.keepNew w.heap.size) σ (w.alloc ob):=by
 have hx:Ext M w (M.keepNew w.heap.size) (w.alloc ob):=⟨⟨[],by simp [z6.keepNew]⟩,fun _ h=>h,fun _ _ h=>.inr h,fun b h=>D8 w ob (hr.blk b 0 (.inl h)),fun b o' h=>L0 (D8 w ob (hr.blk b o' (.inr h))),by rw [World.size_alloc];omega,P1,rfl,rfl,rfl,fun b h=>⟨.inl h,D8 w ob (hr.kep b h),id,fun _ f=>f⟩⟩;refine ⟨hx,hr.len,fun b o' ha=>?_,fun k p x hk hs=>?_,hr.inj,fun g cells hg=>(hr.glob g cells hg).mono hx,fun b h=>?_,fun k p x hk hs hl h=>?_⟩
 ·have:=hr.blk b o' ha;rw [World.size_alloc];omega
 ·obtain ⟨h1,h2⟩:=hr.obj k p x hk hs;refine ⟨?_,h2⟩;by_cases hl:x.live=true
  ·exact h1.mono hx (D8 w ob (h1.lt hl)) (fun _ _ _ _ h=>h)
  ·cases x <;> first | trivial | simp [b9.live] at hl
 ·rw [World.size_alloc]
  rcases h with h | h
  ·have:=hr.kep b h;omega
  ·omega
 ·rcases h with h | h
  ·exact hr.nk k p x hk hs hl h
  ·have:=(hr.obj k p x hk hs).1.lt hl;omega
structure c7w where
 ob:Obj
 cob:b9
 val:Nat->Value
 cv:Nat->CV
variable {ob:b9} {N:c7w}
def d9U (z:Value) (t:TypeId):c7w:=⟨.cells z.cells t,.box (H9 z).cells,fun q=>.pointer (some ⟨q,0,none⟩),fun k=>.ptr k 0⟩
def d7B:c7w:=⟨.map #[] 0,.map [],fun q=>.map (some q),fun k=>.map k⟩
def a1t (C:Ctx) (o:Oper) (N:c7w):Prop :=
 (∃ t z,o.op = .alloc t/\(∀ w,(zeroValue t).run C.P w = .ok z w)/\M4 z=true/\((H9 z).one=true\/∃ cs,H9 z = .agg cs)/\N=d9U z t)\/(∃ t,o.op = .makeMap t none/\N=d7B)
theorem a1t.uniq {N':c7w} (w:World) (h:a1t C o N) (h':a1t C o N'):N=N':=by
 rcases h with ⟨t,z,h1,h2,_,_,rfl⟩ | ⟨t,h1,rfl⟩
 ·rcases h' with ⟨t',z',g1,g2,_,_,rfl⟩ | ⟨t',g1,rfl⟩
  ·rw [h1] at g1;injection g1 with g1
   subst g1;have e:=h2 w;rw [g2 w] at e;injection e with e _
   rw [e]
  ·rw [h1] at g1;cases g1
 ·rcases h' with ⟨t',z',g1,g2,_,_,rfl⟩ | ⟨t',g1,rfl⟩
  ·rw [h1] at g1;cases g1
  ·rfl
theorem a1t.run (h:a1t C o N) (ρ:Operand->Value) (w:World):(execOp ρ o).run C.P w = .ok (.value (N.val w.heap.size)) (w.alloc N.ob):=by
 rcases h with ⟨t,z,h1,h2,_,_,rfl⟩ | ⟨t,h1,rfl⟩
 ·simp [execOp,h1,Instr.alloc,h2,a19,d9U]
 ·simp [execOp,h1,Instr.makeMap,d7B]
theorem a1t.rel (h:a1t C o N) (hh:w.heap[q]? = some N.ob) (h1:¬ M.full q) (h2:∀ x,¬ M.cell q x):O5 M w ⟨q,0,0⟩ N.cob/\a6b M ⟨q,0,0⟩ N.cob:=by
 rcases h with ⟨t,z,_,_,hc1,hc2,rfl⟩ | ⟨t,_,rfl⟩
 ·obtain ⟨e1,e2,e3⟩:=(Y0 (M:=M) (w:=w) hc1).cells hc2;exact ⟨⟨z.cells,t,hh,e1,e2,e3⟩,h1,h2⟩
 ·exact ⟨⟨#[],0,hh,⟨rfl,fun i j e e' h=>by simp at h⟩,si_⟩,h1,h2⟩
theorem a1t.rv (h:a1t C o N) (hk:M.pl[k]? = some ⟨q,0,0⟩):RV M w (N.cv k) (N.val q):=by
 rcases h with ⟨t,z,_,_,_,_,rfl⟩ | ⟨t,_,rfl⟩
 ·exact .ptr hk
 ·exact .map hk
theorem a1t.does (h:a1t C o N) (hk:K (.ret (N.cv σ.length)) (σ++[N.cob])):K1 C σ E o K:=by
 rcases h with ⟨t,z,h1,h2,hc1,hc2,rfl⟩ | ⟨t,h1,rfl⟩
 ·exact x8 h1 h2 hc1 hc2 hk
 ·exact Z5 h1 hk
theorem Rel.adopt (hr:Rel C M σ w) (hN:a1t C o N) (hk:M.keep q) (hh:w.heap[q]? = some N.ob) (h1:¬ M.full q) (h2:∀ x,¬ M.cell q x) :
 Rel C (M.adopt q) (σ++[N.cob]) w/\∀ c v,RV M w c v->RV (M.adopt q) w c v:=by
 have hg:∀ c v,RV M w c v->RV (M.adopt q) w c v:=fun c v h=>RV.grow (M:=M) (M':=M.adopt q) ⟨[⟨q,0,0⟩],rfl⟩ (fun _ _ h=>h) h;have hget:∀ {k:Nat} {p:Pl},(M.adopt q).pl[k]? = some p->(k < σ.length/\M.pl[k]? = some p)\/(k=σ.length/\p=⟨q,0,0⟩):=fun {k p} hk'=>by
  simp only [z6.adopt,a6i,hr.len] at hk';split at hk'
  ·exact .inl ⟨‹_›,hk'⟩
  ·have:k - σ.length=0:=by
    have:=(n_1.1 hk').1;simp at this;omega
   rw [this] at hk';simp at hk';exact .inr ⟨om_,hk'.symm⟩
 have hgo:∀ {k:Nat} {x:b9},(σ++[N.cob])[k]? = some x->k < σ.length->σ[k]? = some x:=fun {k x} hk' hlt=>by
  rwa [M5 hlt] at hk'
 have hgn:∀ {x:b9},(σ++[N.cob])[σ.length]? = some x->x=N.cob:=fun {x} hk'=>by simp at hk';exact hk'.symm
 refine ⟨⟨by simp [z6.adopt,hr.len],hr.blk,fun k p x hp hs=>?_,fun k k' p p' x x' hp hp' hs hs' hl hl' hb=>?_,fun g cells hgg=>⟨hg _ _ (hr.glob g cells hgg).rv,(hr.glob g cells hgg).full,(hr.glob g cells hgg).sz⟩,fun b hb=>hr.kep b hb.1,fun k p x hp hs hl hkk=>?_⟩,hg⟩
 ·rcases hget hp with ⟨hlt,hp⟩ | ⟨rfl,rfl⟩
  ·obtain ⟨g1,g2⟩:=hr.obj k p x hp (hgo hs hlt);refine ⟨?_,g2⟩;cases x with
   | dead=>trivial
   | boxT t0 cells =>
    obtain ⟨arr,ty,e1,e2,e3,e4⟩:=g1;exact ⟨arr,ty,e1,e2,e3,fun i c hi=>hg _ _ (e4 i c hi)⟩
   | tipT t0 n=>exact g1
   | vec s rows =>
    obtain ⟨e0,e1,e2,e3,e4,arr,ty,e5,e6,e7⟩:=g1;exact ⟨e0,e1,e2,e3,e4,arr,ty,e5,e6,fun i j r c hi hj=>hg _ _ (e7 i j r c hi hj)⟩
   | map es =>
    obtain ⟨ents,clock,e1,e2,e3⟩:=g1;exact ⟨ents,clock,e1,e2,fun i x hi=>by
     obtain ⟨e,q1,q2,q3,q4⟩:=e3 i x hi;exact ⟨e,q1,hg _ _ q2,hg _ _ q3,q4⟩⟩
   | iter cur es =>
    obtain ⟨mb,seen,last,ents,clock,e1,e2,e3,e4,e5,e6,e7,e8,e9⟩:=g1;exact ⟨mb,seen,last,ents,clock,e1,e2,e3,e4,e5,e6,e7,fun i x hi=>by
     obtain ⟨e,q1,q2,q3⟩:=e8 i x hi;exact ⟨e,q1,hg _ _ q2,hg _ _ q3⟩,fun i x hi=>by
     obtain ⟨hl,j,e,q0,q1,q2,q3⟩:=e9 i x hi;exact ⟨hl,j,e,q0,q1,hg _ _ q2,hg _ _ q3⟩⟩
  ·obtain rfl:=hgn hs;exact hN.rel (M:=M.adopt q) hh h1 h2
 ·rcases hget hp with ⟨hlt,hp⟩ | ⟨rfl,rfl⟩
  ·rcases hget hp' with ⟨hlt',hp'⟩ | ⟨rfl,rfl⟩
   ·exact hr.inj k k' p p' x x' hp hp' (hgo hs hlt) (hgo hs' hlt') hl hl' hb
   ·exact absurd (hb ▸ hk) (hr.nk k p x hp (hgo hs hlt) hl)
  ·rcases hget hp' with ⟨hlt',hp'⟩ | ⟨rfl,rfl⟩
   ·exact absurd (hb ▸ hk) (hr.nk k' p' x' hp' (hgo hs' hlt') hl')
   ·rfl
 ·rcases hget hp with ⟨hlt,hp⟩ | ⟨rfl,rfl⟩
  ·exact hr.nk k p x hp (hgo hs hlt) hl hkk.1
  ·exact hkk.2 rfl
def Env.hideP (E:Env) (p:Nat->Prop):Env:={ f:=E.f,ok:=fun t=>¬ p t/\E.ok t,un:=fun t=>¬ p t/\E.un t}
theorem J9.putH {E':Env} {a:Act} {d:Option Nat} {p p':Nat->Prop} (hf:J9 M w n (E.hideP p) a) (hx:Ext M w M' w') (hd:∀ t,d=some t->t < n) (hv:g->RV M' w' c' v) (hu:¬ g->v=undef)
 (hag:∀ t,¬ p' t->E'.agree t (E.put d c' g)) (hp:∀ t,¬ p' t->d≠some t->¬ p t):J9 M' w' n (E'.hideP p') (a.put d v):=by
 have hput:=(hf.mono hx).put (d:=d) (c:=c') (v:=v) (g:=g) hd hv hu;refine ⟨hput.defers,hput.size,fun t ⟨h1,h2⟩=>?_,fun t ⟨h1,h2⟩=>?_⟩
 ·have hg:=hag t h1;show RV M' w' (E'.f t) _;rw [hg.2.1] at h2;rw [hg.1];cases d with
  | none=>exact hput.rv t ⟨hp t h1 si_,h2⟩
  | some d =>
   have h3:=hput.rv t;by_cases htd:t=d
   ·subst htd;rw [Env.put_ok,if_pos rfl] at h2;rw [Env.put_f,if_pos rfl];have:=h3 (by rw [Env.put_ok,if_pos rfl];exact h2);rwa [Env.put_f,if_pos rfl] at this
   ·rw [Env.put_ok,if_neg htd] at h2;rw [Env.put_f,if_neg htd];have:=h3 (by rw [Env.put_ok,if_neg htd];exact ⟨hp t h1 (by simpa using fun e=>htd e.symm),h2⟩);rwa [Env.put_f,if_neg htd] at this
 ·have hg:=hag t h1;rw [hg.2.2] at h2;cases d with
  | none=>exact hput.un t ⟨hp t h1 si_,h2⟩
  | some d =>
   have h3:=hput.un t;by_cases htd:t=d
   ·subst htd;rw [Env.put_un,if_pos rfl] at h2;exact h3 (by rw [Env.put_un,if_pos rfl];exact h2)
   ·rw [Env.put_un,if_neg htd] at h2;exact h3 (by rw [Env.put_un,if_neg htd];exact ⟨hp t h1 (by simpa using fun e=>htd e.symm),h2⟩)
section
def d2Q (C:Ctx) (ops:Array Oper) (o:Oper) (E:Env) (σ:List b9) (K:CV->Prop->List b9->Prop) (Kp:CV->List b9->Prop):Prop :=
 ∃ j t want b c0,o.guard=some (j,want)/\(ops[j]?).bind (·.dst)=some t/\E.ok t/\E.f t = .val (.bool b)/\(b=want->K1 C σ E o fun r σ'=>match r with | .ret c=>K c (b=want) σ' | .pan c=>Kp c σ')/\(¬ b=want->K c0 (b=want) σ)
def P6 (C:Ctx) (ops:Array Oper) (al qs:List Nat) (Q:G6->Env->List b9->Prop) (S:List (List b9->Prop)):List (Nat × List Nat)->Env->List b9->Prop
 | [],E,σ=>Q .normal E σ
 | (i,fl)::l,E,σ=>∃ o,ops[i]? = some o/\((qs.contains i=true/\∃ c g,(∀ σ',O8 C σ' ops o E c g)/\P6 C ops al qs Q S l (E.put o.dst c g) σ)\/(qs.contains i=false/\((al.contains i=false/\((d7i C ops o E σ (fun c g σ'=>a0S S σ' fl/\P6 C ops al qs Q S l (E.put o.dst c g) σ') fun c σ'=>∀ E',Q (.pan c) E' σ')\/(d2Q C ops o E σ (fun c g σ'=>a0S S σ' fl/\P6 C ops al qs Q S l (E.put o.dst c g) σ') fun c σ'=>∀ E',Q (.pan c) E' σ'))) \/
  (o.guard=none/\∃ N,a1t C o N/\a0S S (σ++[N.cob]) fl/\P6 C ops al qs Q S l (E.put o.dst (N.cv σ.length) True) (σ++[N.cob])))))
def AZ (C:Ctx) (ops:Array Oper):List Nat->Prop
 | []=>True
 | i::l=>(∃ o N d,ops[i]? = some o/\a1t C o N/\o.guard=none/\o.dst=some d)/\AZ C ops l
theorem AZ.get:∀ {al:List Nat},AZ C ops al->∀ i∈al,∃ o N d,ops[i]? = some o/\a1t C o N/\o.guard=none/\o.dst=some d
 | [],_,i,h=>by cases h
 | x::l,⟨h1,h2⟩,i,h=>by
  rcases R5.1 h with rfl | h
  ·exact h1
  ·exact AZ.get h2 i h
def b7s (C:Ctx) (M0 M:z6) (w:World) (a:Act) (ops:Array Oper) (i q:Nat):Prop :=
 ∃ o N d,ops[i]? = some o/\a1t C o N/\o.dst=some d/\M.keep q/\¬ M0.keep q/\w.heap[q]? = some N.ob/\¬ M.full q/\(∀ x,¬ M.cell q x)/\a.tmps.getD d undef=N.val q
theorem b7s.step {M0:z6} {a:Act} {d':Option Nat} (h:b7s C M0 M w a ops i q) (hx:Ext M w M' w') (hs:∀ d o,ops[i]? = some o->o.dst=some d->d'≠some d):b7s C M0 M' w' (a.put d' v) ops i q:=by
 obtain ⟨o,N,d,h1,h2,h4,h5,h6,h7,h8,h9,h10⟩:=h;obtain ⟨k1,k2,k3,k4⟩:=hx.kept q h5;refine ⟨o,N,d,h1,h2,h4,k1,h6,k2.trans h7,fun f=>h8 (k3 f),fun x f=>h9 x (k4 x f),?_⟩;have hne:=hs d o h1 h4;cases d' with
 | none=>exact h10
 | some d' =>
  have:d'≠d:=fun e=>hne (by rw [e]);rw [<- h10];simp [Act.put,b0p this]
theorem a3O (hok:b1W ops al qs ix nh ms fls) {listed:Array Bool} (hcl:∀ k o,ops[k]? = some o->listed.getD k false=true->∀ e∈o.after,N9 e=true->listed.getD e.on false=true) :
 ∀ (j:Nat) (o:Oper),ops[j]? = some o->(∀ e∈o.after,N9 e=true->listed.getD e.on false=true)->∀ i,i < ops.size->(ms.getD j 0).testBit i=true->listed.getD i false=true:=by
 intro j
 induction j using Nat.strongRecOn with
 | _ j ih =>
  intro o ho he i hi hm;obtain ⟨e,hmem,hb,hx⟩:=hok.mask j o ho i hi hm
  rcases hx with hx | hx
  ·subst hx;exact he e hmem hb
  ·have hlt:=hok.edge j o ho e hmem hb;have hj:j < ops.size:=(T9.1 ho).1;have ho':ops[e.on]? = some (ops[e.on]'om_):=by simp [show e.on < ops.size by omega]
   exact ih e.on hlt _ ho' (hcl _ _ ho' (he e hmem hb)) i hi hx
def ES (ops:Array Oper) (ix:List Nat) (m:Nat) (listed:Array Bool) (t:Nat):Prop:=∃ k i o,m<=k/\ix[k]? = some i/\listed.getD i false=true/\ops[i]? = some o/\o.dst=some t
theorem b9Y (hok:b1W ops al qs ix nh ms fls) {hs:List (Oper × CV × Prop)} (hhl:hs.length=nh) (hhs:∀ (k i:Nat),k < nh->ix[k]? = some i->∃ o c g,hs[k]? = some (o,c,g)/\ops[i]? = some o)
 (hz:AZ C ops al) (huniq:∀ i∈al,∀ (i':Nat) (o o':Oper) (d:Nat),ops[i]? = some o->ops[i']? = some o'->o.dst=some d->o'.dst=some d->i'=i) (hd:∀ o∈ops,∀ d,o.dst=some d->d < n) {S:List (List b9->Prop)} (hS:∀ (k:Nat) (o:Oper) (c:CV) (g:Prop) σ',hs[k]? = some (o,c,g)->(S.getD k fun _=>True) σ'->O8 C σ' ops o (o8 (fun j=>decide (j < k)) 0 hs E) c g) (M0:z6) (w0:World) :
 ∀ (m:Nat) (fuel:Nat) (j:Nat) (ts:List (Oper × CV × Prop)) (listed:Array Bool) (u:List Nat) (σ:List b9) (a:Act) (w:World) (M:z6) (qf:Nat->Nat),fuel+(ops.size - (nh+j))=m->listed.size=ops.size->u.length=fuel->(∀ i,i < ops.size->listed.getD i false=false->i∈u)->(∀ i,i∈u->i < ops.size/\listed.getD i false=false)->u.Nodup ->
  (∀ k o,ops[k]? = some o->listed.getD k false=true->∀ e∈o.after,N9 e=true->listed.getD e.on false=true) ->
  nh+j<=ops.size->ts.length=j->(∀ (k i:Nat),nh<=k->k < nh+j->ix[k]? = some i->(listed.getD i false=true\/i∈qs)/\∃ o c g,ts[k - nh]? = some (o,c,g)/\ops[i]? = some o) ->
  (∀ (k i:Nat) (o:Oper) (c:CV) (g:Prop),nh<=k->k < nh+j->ix[k]? = some i->i∈qs->ts[k - nh]? = some (o,c,g)->∀ σ',O8 C σ' ops o (o8 (fun j=>decide (j < k)) 0 (hs++ts) E) c g) ->
  (∀ (k i:Nat),nh+j<=k->ix[k]? = some i->listed.getD i false=true->i∈al/\b7s C M0 M w a ops i (qf k)) ->
  (∀ (k k' i i':Nat),nh+j<=k->nh+j<=k'->ix[k]? = some i->ix[k']? = some i'->listed.getD i false=true->listed.getD i' false=true->qf k=qf k'->k=k') ->
  (∀ (k i:Nat) (o:Oper) (c:CV) (g:Prop),k < nh->ix[k]? = some i->listed.getD i false=false->hs[k]? = some (o,c,g)->O8 C σ ops o (o8 (fun j=>decide (j < k)) 0 hs E) c g) ->
  P6 C ops al qs Q S (((List.range (ops.size - nh)).map fun p=>(ix.getD (nh+p) 0,fls.getD p [])).drop j) (o8 (fun _=>true) 0 (hs++ts) E) σ ->
  Ext M0 w0 M w->Rel C M σ w->J9 M w n ((o8 (fun k=>listed.getD (ix.getD k 0) false) 0 (hs++ts) E).hideP (ES ops ix (nh+j) listed)) a->wpAny C.P .any ops (P3 C n Q M0 w0) fuel listed a w:=by
 have ixD:∀ {k i:Nat},ix[k]? = some i->ix.getD k 0=i:=fun {k i} h=>by simp [a3o,h]
 have ixk:∀ k,k < ops.size->∃ i:Nat,ix[k]? = some i:=fun k hk=>⟨ix[k]'(by rw [hok.len];exact hk),si_⟩;have hclosed:∀ {listed:Array Bool},(∀ k o,ops[k]? = some o->listed.getD k false=true->∀ e∈o.after,N9 e=true->listed.getD e.on false=true)->∀ i j:Nat,i < ops.size->j < ops.size->(ms.getD j 0).testBit i=true->listed.getD j false=true->listed.getD i false=true:=fun {listed} hcl i j hi hj hm hl=>by
  have ho:ops[j]? = some ops[j]:=by simp [hj]
  exact a3O hok hcl j _ ho (hcl j _ ho hl) i hi hm
 intro m
 induction m using Nat.strongRecOn with
 | _ m IH =>
 intro fuel j ts listed u σ a w M qf hm hsz hu hun hun' hnd hcl hjs hts htl hqt hea hinj hst hct hx hr hf;have hdrop:∀ {i:Nat},nh+j < ops.size->ix[nh+j]? = some i->(((List.range (ops.size - nh)).map fun p=>(ix.getD (nh+p) 0,fls.getD p [])).drop j)=(i,fls.getD j [])::(((List.range (ops.size - nh)).map fun p=>(ix.getD (nh+p) 0,fls.getD p [])).drop (j+1)):=fun {i} hlt hk=>by
  rw [Q4 Q9];rw [List.getElem_map,List.getElem_range,ixD hk]
 have hts1:∀ (L:Nat->Bool) (o:Oper) (c:CV) (g:Prop),o8 L 0 (hs++(ts++[(o,c,g)])) E=match L (nh+j) with | true=>(o8 L 0 (hs++ts) E).put o.dst c g | false=>o8 L 0 (hs++ts) E:=fun L o c g=>by
  rw [<- n_8,a8O];have:0+(hs++ts).length=nh+j:=by simp [hhl,hts]
  rw [this];rfl
 have hqt1:∀ (o1:Oper) (c1:CV) (g1:Prop),(nh+j < ops.size->∀ i:Nat,ix[nh+j]? = some i->i∈qs->∀ σ',O8 C σ' ops o1 (o8 (fun _=>true) 0 (hs++ts) E) c1 g1)->nh+j < ops.size->∀ (k i:Nat) (o:Oper) (c:CV) (g:Prop),nh<=k->k < nh+(j+1)->ix[k]? = some i->i∈qs->(ts++[(o1,c1,g1)])[k - nh]? = some (o,c,g)->∀ σ',O8 C σ' ops o (o8 (fun j=>decide (j < k)) 0 (hs++(ts++[(o1,c1,g1)])) E) c g:=fun o1 c1 g1 hnew hlt k i o c g h1 h2 h3 h4 h5 σ'=>by
  rw [hts1];have e:decide (nh+j < k)=false:=by simp;omega
  simp only [e];by_cases hkk:k=nh+j
  ·subst hkk;rw [show nh+j - nh=ts.length by omega] at h5;have h6:some (o1,c1,g1)=some (o,c,g):=by rw [<- h5,a0y (n_4 _),b5J];rfl
   cases h6;have he:o8 (fun j'=>decide (j' < nh+j)) 0 (hs++ts) E=o8 (fun _=>true) 0 (hs++ts) E:=a1k _ _ _ fun k hk=>by
    simp [hhl,hts] at hk;simp;omega
   rw [he];exact hnew hlt i h3 h4 σ'
  ·rw [M5 om_] at h5;exact hqt k i o c g h1 om_ h3 h4 h5 σ'
 by_cases hquiet:∃ i,ix[nh+j]? = some i/\i∈qs
 ·obtain ⟨i,hi,hiq⟩:=hquiet;have hlt:nh+j < ops.size:=by rw [<- hok.len];exact (n_1.1 hi).1
  have hno:listed.getD i false=false:=by
   cases h:listed.getD i false with
   | false=>rfl
   | true=>exact absurd hiq (hok.aq i (hea _ i (n_4 _) hi h).1)
  rw [hdrop hlt hi] at hct;obtain ⟨o,ho,hct⟩:=hct
  rcases hct with ⟨_,c,g,hop,hct⟩ | ⟨hq,_⟩
  ·refine IH (fuel+(ops.size - (nh+(j+1)))) om_ fuel (j+1) (ts++[(o,c,g)]) listed u σ a w M qf rfl hsz hu hun hun' hnd hcl om_ (by simp [hts]) (fun k' i' h1 h2 h3=>?_) (hqt1 o c g (fun _ _ _ _ σ'=>hop σ') hlt) (fun k' i' h1 h3 h4=>hea k' i' om_ h3 h4) (fun k k' i i' h1 h2=>hinj k k' i i' om_ om_) hst (by rw [hts1];exact hct) hx hr ?_
   ·by_cases hkk:k'=nh+j
    ·subst hkk;rw [hi] at h3;injection h3 with h3
     subst h3;refine ⟨.inr hiq,o,c,g,?_,ho⟩;rw [show nh+j - nh=ts.length by omega];simp
    ·obtain ⟨g1,o',c',g',g2,g3⟩:=htl k' i' h1 om_ h3;refine ⟨g1,o',c',g',?_,g3⟩;rw [M5 om_];exact g2
   ·rw [hts1];have:listed.getD (ix.getD (nh+j) 0) false=false:=by rw [ixD hi];exact hno
    simp only [this];have hES:∀ t',¬ ES ops ix (nh+(j+1)) listed t'->¬ ES ops ix (nh+j) listed t':=fun t' h ⟨k',i',o',q1,q2,q3,q4,q5⟩=>by
     by_cases hkk:k'=nh+j
     ·subst hkk;rw [hi] at q2;injection q2 with q2
      subst q2;rw [hno] at q3;cases q3
     ·exact h ⟨k',i',o',om_,q2,q3,q4,q5⟩
    exact ⟨hf.defers,hf.size,fun t ht=>hf.rv t ⟨hES t ht.1,ht.2⟩,fun t ht=>hf.un t ⟨hES t ht.1,ht.2⟩⟩
  ·simp [hiq] at hq
 have hnq:∀ i:Nat,ix[nh+j]? = some i->i∉qs:=fun i hi hiq=>hquiet ⟨i,hi,hiq⟩;by_cases hrev:∃ i,ix[nh+j]? = some i/\listed.getD i false=true
 ·
  obtain ⟨i,hi,hiL⟩:=hrev;have hlt:nh+j < ops.size:=by rw [<- hok.len];exact (n_1.1 hi).1
  obtain ⟨hal,o,N,d,ho,hot,hod,hk1,hk2,hhp,hq1,hq2,htm⟩:=hea _ i (n_4 _) hi hiL;rw [hdrop hlt hi] at hct;obtain ⟨o',ho',hct⟩:=hct;rw [ho] at ho';injection ho' with ho'
  subst ho'
  rcases hct with ⟨hqc,_⟩ | ⟨_,⟨hno,_⟩ | ⟨hg,N',hot',hfl,hct⟩⟩
  ·exact absurd (sp_ hqc) (hnq i hi)
  ·simp [hal] at hno
  ·obtain rfl:=hot.uniq w hot';obtain ⟨hr1,hgrow⟩:=hr.adopt hot hk1 hhp hq1 hq2;have hx1:Ext M0 w0 (M.adopt (qf (nh+j))) w:=by
    obtain ⟨l,hl⟩:=hx.pl;exact ⟨⟨l++[⟨qf (nh+j),0,0⟩],by rw [<- n_8,<- hl];rfl⟩,hx.full,hx.cell,hx.same,hx.sameC,hx.size,hx.drew,hx.os,hx.tape,hx.output,fun b hb=>by
     obtain ⟨k1,k2,k3,k4⟩:=hx.kept b hb;exact ⟨⟨k1,fun e=>hk2 (e ▸ hb)⟩,k2,k3,k4⟩⟩
   refine IH (fuel+(ops.size - (nh+(j+1)))) om_ fuel (j+1) (ts++[(o,N.cv σ.length,True)]) listed u _ a w _ qf rfl hsz hu hun hun' hnd hcl om_ (by simp [hts]) (fun k' i' h1 h2 h3=>?_) (hqt1 _ _ _ (fun _ i' hi' hiq=>absurd hiq (hnq i' hi')) hlt) (fun k' i' h1 h3 h4=>?_) (fun k k' i i' h1 h2=>hinj k k' i i' om_ om_) (fun k' i' o' c' g' h1 h2 h3 h4=>?_) (by rw [hts1];exact hct) hx1 hr1 ?_
   ·by_cases hkk:k'=nh+j
    ·subst hkk;rw [hi] at h3;injection h3 with h3
     subst h3;refine ⟨.inl hiL,o,N.cv σ.length,True,?_,ho⟩;rw [show nh+j - nh=ts.length by omega];simp
    ·obtain ⟨g1,o',c',g',g2,g3⟩:=htl k' i' h1 om_ h3;refine ⟨g1,o',c',g',?_,g3⟩;rw [M5 om_];exact g2
   ·obtain ⟨e0,o1,N1,d1,e1,e2,e4,e5,e6,e7,e8,e9,e10⟩:=hea k' i' om_ h3 h4;refine ⟨e0,o1,N1,d1,e1,e2,e4,⟨e5,fun e=>?_⟩,e6,e7,e8,e9,e10⟩;have:=hinj k' (nh+j) i' i om_ (n_4 _) h3 hi h4 hiL e;omega
   ·rcases hok.fls j k' (by have:=hok.fl;omega) h1 with hin | ⟨p',hp',hpq,hmm⟩
    ·exact hS k' o' c' g' _ h4 (hfl.get k' hin)
    ·exfalso;obtain ⟨i'',hi''⟩:=ixk (nh+p') om_;rw [ixD hi'',ixD h2] at hmm;have hL'':listed.getD i'' false=true:=by
      by_cases hpj:p'=j
      ·subst hpj;rw [hi] at hi'';injection hi'' with hi''
       subst hi'';exact hiL
      ·exact (htl (nh+p') i'' om_ om_ hi'').1.resolve_right (by rw [ixD hi''] at hpq;exact hpq)
     have hl:=hclosed hcl i' i'' (hok.lt _ _ h2) (hok.lt _ _ hi'') hmm hL'';rw [hl] at h3;cases h3
   ·rw [hts1];have:listed.getD (ix.getD (nh+j) 0) false=true:=by rw [ixD hi];exact hiL
    simp only [this];rw [hod];have hES:∀ t',¬ ES ops ix (nh+(j+1)) listed t'->t'≠d->¬ ES ops ix (nh+j) listed t':=fun t' h hne ⟨k',i',o',q1,q2,q3,q4,q5⟩=>by
     by_cases hkk:k'=nh+j
     ·subst hkk;rw [hi] at q2;injection q2 with q2
      subst q2;rw [ho] at q4;injection q4 with q4
      subst q4;rw [hod] at q5;injection q5 with q5
      exact hne q5.symm
     ·exact h ⟨k',i',o',om_,q2,q3,q4,q5⟩
    refine ⟨hf.defers,hf.size,fun t' ht=>?_,fun t' ht=>?_⟩
    ·obtain ⟨g1,g2⟩:=ht;show RV (M.adopt (qf (nh+j))) w (((o8 (fun k=>listed.getD (ix.getD k 0) false) 0 (hs++ts) E).put (some d) (N.cv σ.length) True).f t') (a.tmps.getD t' undef);by_cases htd:t'=d
     ·subst htd;rw [Env.put_f,if_pos rfl,htm];exact hot.rv (by simp [z6.adopt,<- hr.len])
     ·rw [Env.put_ok,if_neg htd] at g2;rw [Env.put_f,if_neg htd];exact hgrow _ _ (hf.rv t' ⟨hES t' g1 htd,g2⟩)
    ·obtain ⟨g1,g2⟩:=ht;by_cases htd:t'=d
     ·subst htd;rw [Env.put_un,if_pos rfl] at g2;exact absurd trivial g2
     ·rw [Env.put_un,if_neg htd] at g2;exact hf.un t' ⟨hES t' g1 htd,g2⟩
 ·cases fuel with
 | zero =>
  have hu0:u=[]:=b69 hu;subst hu0;have hall:∀ i,i < ops.size->listed.getD i false=true:=fun i hi=>by
   cases h:listed.getD i false with
   | true=>rfl
   | false=>exact absurd (hun i hi h) si_
  have hj:ops.size<=nh+j:=by
   rcases a0c (nh+j) ops.size with h | h
   ·obtain ⟨i,hi⟩:=ixk _ h;exact absurd ⟨i,hi,hall i (hok.lt _ _ hi)⟩ hrev
   ·exact h
  rw [S8 Q9] at hct;refine ⟨List.eq_nil_iff_forall_not_mem.2 fun i hi=>?_,o8 (fun _=>true) 0 (hs++ts) E,σ,M,hx,hr,?_,hct⟩
  ·obtain ⟨h1,o,ho,_⟩:=mem_ready.1 hi;have hi':i < ops.size:=(T9.1 ho).1;have h2:=(I5 om_).1 h1;rw [hall i hi'] at h2;cases h2
  ·have he:o8 (fun k=>listed.getD (ix.getD k 0) false) 0 (hs++ts) E=o8 (fun _=>true) 0 (hs++ts) E:=a1k _ _ _ fun k hk=>by
    rw [n_9];simp [hhl,hts] at hk;obtain ⟨i,hi⟩:=ixk k om_;rw [ixD hi];exact hall i (hok.lt _ _ hi)
   have hno:∀ t,¬ ES ops ix (nh+j) listed t:=fun t ⟨k,i,o,q1,q2,_⟩=>by
    have:=(n_1.1 q2).1;rw [hok.len] at this;omega
   rw [he] at hf;exact ⟨hf.defers,hf.size,fun t ht=>hf.rv t ⟨hno t,ht⟩,fun t ht=>hf.un t ⟨hno t,ht⟩⟩
 | succ fuel =>
  have hleast:∃ j,j∈Region.ready .any ops listed:=by
   have hex:∃ j,j < ops.size/\listed.getD j false=false:=by
    cases u with
    | nil=>simp at hu
    | cons x u=>exact ⟨x,hun' x si_⟩
   obtain ⟨j,hj,hmin⟩:∃ j,(j < ops.size/\listed.getD j false=false)/\∀ i,i < j->¬ (i < ops.size/\listed.getD i false=false):=by
    obtain ⟨j,hj⟩:=hex
    induction j using Nat.strongRecOn with
    | _ j ihj =>
     by_cases h:∃ i,i < j/\i < ops.size/\listed.getD i false=false
     ·obtain ⟨i,hi,hp⟩:=h;exact ihj i hi hp
     ·exact ⟨j,hj,fun i hi hp=>h ⟨i,hi,hp⟩⟩
   refine ⟨j,mem_ready.2 ⟨(I5 om_).2 hj.2,ops[j]'hj.1,by simp [hj.1],fun e he hb=>?_⟩⟩;have hlt:=hok.edge j _ (by simp [hj.1]) e he hb;cases h:listed.getD e.on false with
   | true=>rfl
   | false=>exact absurd ⟨om_,h⟩ (hmin e.on hlt)
  obtain ⟨j0,hj0⟩:=hleast;refine ⟨fun h0=>(by rw [h0] at hj0;cases hj0),fun i hi=>?_⟩;obtain ⟨h1,o,ho,he⟩:=mem_ready.1 hi;have his:i < ops.size:=(T9.1 ho).1;have hiL:listed.getD i false=false:=(I5 om_).1 h1;obtain ⟨k,hk⟩:=hok.onto i his;have hks:k < ops.size:=by rw [<- hok.len];exact (n_1.1 hk).1
  have hiu:i∈u:=hun i his hiL;have hgd:∀ x,(listed.setIfInBounds i true).getD x false=if x=i then true else listed.getD x false:=fun x=>by
   by_cases hxi:x=i
   ·subst hxi;have:x < listed.size:=by omega
    simp [this]
   ·rw [if_neg hxi];simp [b0p (Ne.symm hxi)]
  have hent:∀ (k':Nat) (x:Oper × CV × Prop),(hs++ts)[k']? = some x->∃ i':Nat,ix[k']? = some i'/\ops[i']? = some x.1/\k' < nh+j/\True:=fun k' x hx'=>by
   have hlt:k' < nh+j:=by
    have:=(n_1.1 hx').1;simpa [hhl,hts] using this
   obtain ⟨i',hi'⟩:=ixk k' om_;refine ⟨i',hi',?_,hlt,tt⟩
   rcases a0c k' nh with h | h
   ·rw [M5 om_] at hx';obtain ⟨o',c',g',g1,g2⟩:=hhs k' i' h hi';rw [g1] at hx';cases hx';exact g2
   ·rw [a0y om_,hhl] at hx';obtain ⟨_,o',c',g',g1,g2⟩:=htl k' i' h hlt hi';rw [g1] at hx';cases hx';exact g2
  have hgen:(∀ x,x < ops.size->(listed.setIfInBounds i true).getD x false=false->x∈u.erase i)/\(∀ x,x∈u.erase i->x < ops.size/\(listed.setIfInBounds i true).getD x false=false) /\
   (∀ x ox,ops[x]? = some ox->(listed.setIfInBounds i true).getD x false=true->∀ e∈ox.after,N9 e=true->(listed.setIfInBounds i true).getD e.on false=true):=by
   refine ⟨fun x hx' hxl=>?_,fun x hx'=>?_,fun x ox hox hxl e hex hb=>?_⟩
   ·rw [hgd] at hxl;split at hxl
    ·cases hxl
    ·rename_i hne;exact (List.mem_erase_of_ne hne).2 (hun x hx' hxl)
   ·have hne:x≠i:=fun e=>by subst e;exact (hnd.not_mem_erase) hx'
    rw [hgd,if_neg hne];exact hun' x (List.mem_of_mem_erase hx')
   ·rw [hgd] at hxl ⊢
    split
    ·rfl
    ·split at hxl
     ·rename_i hxi;subst hxi;rw [ho] at hox;injection hox with hox
      subst hox;exact he e hex hb
     ·exact hcl x ox hox hxl e hex hb
  have hmaskl:∀ i':Nat,i' < ops.size->(ms.getD i 0).testBit i'=true->listed.getD i' false=true:=fun i' hi' hmm=>a3O hok hcl i o ho (fun e hek hb=>he e hek hb) i' hi' hmm;have hnext:nh+j < k->i∈al:=fun hlt=>by
   obtain ⟨i',hi'⟩:=ixk (nh+j) om_
   rcases hok.tail k (nh+j) i i' om_ hlt hk hi' with h | h | h
   ·exact h
   ·exact absurd h (hnq i' hi')
   ·exact absurd ⟨i',hi',hmaskl i' (hok.lt _ _ hi') h⟩ hrev
  have hnoES:∀ t,t∈o.looksAt ops->¬ ES ops ix (nh+j) listed t:=fun t ht ⟨k',i',o',q1,q2,q3,q4,q5⟩=>by
   have hne:k'≠k:=fun e=>by
    subst e;rw [hk] at q2;injection q2 with q2
    subst q2;rw [hiL] at q3;cases q3
   rcases hok.tmps k i o hk ho t ht k' i' o' hne q2 q4 q5 with ⟨h1,h2⟩ | ⟨h1,h2⟩
   ·have hi:=hnext om_;obtain ⟨o1,N1,d1,e1,e2,e3,e4⟩:=hz.get i hi;rw [ho] at e1;injection e1 with e1
    subst e1
    rcases e2 with ⟨_,_,e2,_⟩ | ⟨_,e2,_⟩
    ·simp [Oper.looksAt,e2,e3,Op.operands] at ht
    ·simp [Oper.looksAt,e2,e3,Op.operands] at ht
   ·have:=hclosed hcl i i' his (hok.lt _ _ q2) h2 q3;rw [hiL] at this;cases this
  have hslot:∀ d,o.dst=some d->¬ ES ops ix (nh+j) listed d:=fun d hd' ⟨k',i',o',q1,q2,q3,q4,q5⟩=>by
   have:=huniq i' (hea k' i' q1 q2 q3).1 i o' o d q4 ho q5 hd';subst this;rw [hiL] at q3;cases q3
  have hix:∀ {k' i':Nat},k'≠k->ix[k']? = some i'->i'≠i:=fun {k' i'} hne hk' e=>by
   subst e;exact hne (hok.nodup k' k i' hk' hk)
  have heaN:∀ {M':z6} {w':World} {v:Value} {m':Nat},Ext M w M' w'->nh+j<=m'->(∀ k' i',m'<=k'->ix[k']? = some i'->i'≠i)->∀ k' i',m'<=k'->ix[k']? = some i'->(listed.setIfInBounds i true).getD i' false=true->i'∈al/\b7s C M0 M' w' (a.put o.dst v) ops i' (qf k'):=fun {M' w' v m'} hx' hm' hne k' i' h1 h2 h3=>by
   rw [hgd,if_neg (hne k' i' h1 h2)] at h3;obtain ⟨e0,e1⟩:=hea k' i' om_ h2 h3;refine ⟨e0,e1.step hx' fun d o' ho' hod' hd'=>?_⟩;exact hslot d hd' ⟨k',i',o',om_,h2,h3,ho',hod'⟩
  have hinjN:∀ {m':Nat},nh+j<=m'->(∀ k' i',m'<=k'->ix[k']? = some i'->i'≠i)->∀ (k k' x x':Nat),m'<=k->m'<=k'->ix[k]? = some x->ix[k']? = some x'->(listed.setIfInBounds i true).getD x false=true->(listed.setIfInBounds i true).getD x' false=true->qf k=qf k'->k=k':=fun {m'} hm' hne k k' x x' h1 h2 h3 h4 h5 h6=>by
   rw [hgd,if_neg (hne k x h1 h3)] at h5;rw [hgd,if_neg (hne k' x' h2 h4)] at h6;exact hinj k k' x x' om_ om_ h3 h4 h5 h6
  have hESN:∀ {m':Nat} (t:Nat),(∀ k' i',nh+j<=k'->k' < m'->ix[k']? = some i'->i'=i)->¬ ES ops ix m' (listed.setIfInBounds i true) t->¬ ES ops ix (nh+j) listed t:=fun {m'} t hm' hno ⟨k',i',o',q1,q2,q3,q4,q5⟩=>by
   rcases a0c k' m' with h | h
   ·have:=hm' k' i' q1 h q2;subst this;rw [hiL] at q3;cases q3
   ·exact hno ⟨k',i',o',h,q2,by rw [hgd];split <;> first|rfl|exact q3,q4,q5⟩
  have quiet:∀ (E1:Env) (c:CV) (g:Prop),O8 C σ ops o E1 c g->(∀ t,t∈o.looksAt ops->E1.agree t (o8 (fun k=>listed.getD (ix.getD k 0) false) 0 (hs++ts) E)) ->
   (∀ (v:Value) (w':World) (M':z6),Ext M w M' w'->Rel C M' σ w'->(g->RV M' w' c v)->(¬ g->v=undef)->wpAny C.P .any ops (P3 C n Q M0 w0) fuel (listed.setIfInBounds i true) (a.put o.dst v) w') ->
   wpOp C.P ops (P3 C n Q M0 w0) i (wpAny C.P .any ops (P3 C n Q M0 w0) fuel (listed.setIfInBounds i true)) a w:=by
   intro E1 c g hop hag next;unfold wpOp;simp only [ho];have hopr:∀ x∈o.op.operands,E1.valid x->RV M w (E1.val C x) (a.eval x):=fun x hx hv=>by
    cases x with
    | tmp t =>
     have h2:=hag t (a2i hx);simp only [Env.val,Env.valid] at hv ⊢;rw [h2.1];exact hf.rv t ⟨hnoES t (a2i hx),by rw [<- h2.2.1];exact hv⟩
    | const v=>exact hf.eval (x:=.const v) hr hv
    | global v=>exact hf.eval (x:=.global v) hr hv
    | func v=>exact hf.eval (x:=.func v) hr hv
   rcases hop with ⟨hg,hgp,hy⟩ | ⟨jj,t,want,b,hg,ht,hok',hb,hgb,hy⟩
   ·rw [if_pos b8O];refine .inl (R1 (hy M w a.eval hr hopr) (fun v w' ha=>?_) (fun ch w' ha=>?_))
    ·obtain ⟨c',σ',M',h1,h2,h3,h4,rfl⟩:=ha;injection h4 with h4
     subst h4;exact next v w' M' h1 h2 (fun _=>h3) fun hh=>absurd hgp hh
    ·obtain ⟨c',v,σ',M',_,_,_,_,h4,_⟩:=ha;cases h4
   ·have h2:=hag t (T2 hg ht);by_cases hokt:E1.ok t
    ·have h3:RV M w ((o8 (fun k=>listed.getD (ix.getD k 0) false) 0 (hs++ts) E).f t) (a.tmps.getD t undef):=hf.rv t ⟨hnoES t (T2 hg ht),by rw [<- h2.2.1];exact hokt⟩;rw [<- h2.1,hb] at h3;have h4:=r2 h3;have hszt:t < a.tmps.size:=by
      rcases a0c t a.tmps.size with h' | h'
      ·exact h'
      ·simp [a9a h',undef] at h4
     have h5:a.tmps[t]? = some (.bool b):=by
      rw [W4,a0q hszt] at h4;rw [a0q hszt,<- h4];rfl
     have h6:yielded ops a.tmps jj=some b:=by unfold yielded;rw [ht,n_6,h5]
     have hw:Region.wanted o (yielded ops a.tmps)=(b == want):=by
      simp only [Region.wanted,hg,h6];cases b <;> cases want <;> rfl
     by_cases hbw:b=want
     ·rw [if_pos a6H];refine .inl (R1 (hy hokt hbw M w a.eval hr hopr) (fun v w' ha=>?_) (fun ch w' ha=>?_))
      ·obtain ⟨c',σ',M',h1,h2,h3,h4,rfl⟩:=ha;injection h4 with h4
       subst h4;exact next v w' M' h1 h2 (fun _=>h3) fun hh=>absurd (hgb.2 ⟨hokt,hbw⟩) hh
      ·obtain ⟨c',v,σ',M',_,_,_,_,h4,_⟩:=ha;cases h4
     ·rw [if_neg a6H];exact next undef w M (Ext.refl M w) hr (fun hgg=>absurd (hgb.1 hgg).2 hbw) fun _=>rfl
    ·have h3:=hf.un t ⟨hnoES t (T2 hg ht),by rw [<- h2.2.2];exact hok' hokt⟩;have h6:yielded ops a.tmps jj=none:=by
      unfold yielded;rw [ht,n_6]
      rcases a0c t a.tmps.size with h' | h'
      ·rw [W4,a0q h'] at h3;rw [a0q h'];simp only [a7R] at h3;rw [h3];rfl
      ·rw [a9a h']
     have hw:Region.wanted o (yielded ops a.tmps)=false:=by
      simp only [Region.wanted,hg,h6];cases want <;> rfl
     rw [if_neg (by rw [hw];simp)];exact next undef w M (Ext.refl M w) hr (fun hgg=>absurd (hgb.1 hgg).1 hokt) fun _=>rfl
  have seen:∀ t,t∈o.looksAt ops->∀ (k':Nat) (x:Oper × CV × Prop),(hs++ts)[k']? = some x->x.1.dst=some t->k'≠k->(k' < k->listed.getD (ix.getD k' 0) false=true)/\(k < k'->listed.getD (ix.getD k' 0) false=false):=fun t ht k' x hx' hxd hne=>by
   obtain ⟨i',hi',ho',hlt',_⟩:=hent k' x hx';rw [ixD hi'];have his':=hok.lt _ _ hi'
   rcases hok.tmps k i o hk ho t ht k' i' x.1 hne hi' ho' hxd with ⟨q1,q2⟩ | ⟨q1,q2⟩
   ·exact ⟨fun _=>a3O hok hcl i o ho (fun e hek hb=>he e hek hb) i' his' q2,fun h=>by omega⟩
   ·refine ⟨fun h=>by omega,fun _=>?_⟩;cases hl:listed.getD i' false with
    | false=>rfl
    | true =>
     have:=hclosed hcl i i' his his' q2 hl;rw [hiL] at this;cases this
  rcases a0c k nh with hkn | hkn
  ·
   obtain ⟨o',c,g,hc,ho'⟩:=hhs k i hkn hk;rw [ho] at ho';injection ho' with ho'
   subst ho';have hop:=hst k i o c g hkn hk hiL hc;refine quiet _ c g hop (fun t ht=>?_) fun v w' M' hx' hr' hv hun0=>?_
   ·have e1:o8 (fun j=>decide (j < k)) 0 hs E=o8 (fun j=>decide (j < k)) 0 (hs++ts) E:=by
     rw [a8O,a3w (L:=fun j=>decide (j < k)) ts _ _ (fun i' hi'=>by simp;omega)]
    rw [e1];refine J8 (hs++ts) 0 E E ⟨rfl,rfl,rfl⟩ fun k' x hx' hxd=>?_;rw [n_9];by_cases hkk:k'=k
    ·subst hkk;rw [ixD hk,hiL];simp
    ·have:=seen t ht k' x hx' hxd hkk
     rcases Nat.lt_or_gt_of_ne hkk with h | h
     ·rw [this.1 h];simp [h]
     ·rw [this.2 h];simp;omega
   ·refine IH (fuel+(ops.size - (nh+j))) om_ fuel j ts (listed.setIfInBounds i true) (u.erase i) σ _ w' M' qf rfl (by simp [hsz]) b6i hgen.1 hgen.2.1 (hnd.erase i) hgen.2.2 hjs hts (fun k' i' h1 h2 h3=>?_) hqt (heaN hx' (n_4 _) fun k' i' h1 h2=>hix om_ h2) (hinjN (n_4 _) fun k' i' h1 h2=>hix om_ h2) (fun k' i' o' c' g' h1 h2 h3 h4=>?_) hct (hx.trans hx') hr' ?_
    ·obtain ⟨g1,g2⟩:=htl k' i' h1 h2 h3;refine ⟨?_,g2⟩;rw [hgd];split
     ·exact .inl rfl
     ·exact g1
    ·rw [hgd] at h3;split at h3
     ·cases h3
     ·exact hst k' i' o' c' g' h1 h2 h3 h4
    ·have hag':∀ t,(o8 (fun k=>(listed.setIfInBounds i true).getD (ix.getD k 0) false) 0 (hs++ts) E).agree t ((o8 (fun k=>listed.getD (ix.getD k 0) false) 0 (hs++ts) E).put o.dst c g):=by
      intro t;by_cases hdt:o.dst=some t
      ·have hat:=a7e (L:=fun k=>(listed.setIfInBounds i true).getD (ix.getD k 0) false) (hs++ts) 0 k E o c g (by rw [M5 om_];exact hc) hdt (by simp only [n_9,ixD hk,hgd,if_true]) (fun k' x hlt hx' hLx hxd=>by
        obtain ⟨i',hi',ho',_,_⟩:=hent k' x hx';rw [n_9,ixD hi',hgd] at hLx;have hne:i'≠i:=fun e=>by
         subst e;have:=hok.nodup k k' i' hk hi';omega
        rw [if_neg hne] at hLx;have hm:=hok.dsts k' k i' i x.1 o t hlt hi' hk ho' ho hxd hdt;have:=hclosed hcl i i' his (hok.lt _ _ hi') hm hLx;rw [hiL] at this;cases this)
       unfold Env.agree;rw [hat.1,hat.2.1,hat.2.2,hdt,Env.put_f,Env.put_ok,Env.put_un];simp
      ·refine (M8 hdt ?_).symm;refine J8 (hs++ts) 0 E E ⟨rfl,rfl,rfl⟩ fun k' x hx' hxd=>?_;obtain ⟨i',hi',ho',_,_⟩:=hent k' x hx';rw [n_9,ixD hi',hgd]
       split
       ·rename_i hki;subst hki;rw [ho] at ho';injection ho' with ho'
        rw [<- ho'] at hxd;exact absurd hxd hdt
       ·rfl
     exact hf.putH hx' (fun t ht=>hd o (a86 ho) t ht) hv hun0 (fun t _=>hag' t) fun t ht _=>hESN t (fun k' i' h1 h2=>by omega) ht
  ·
   rcases Nat.lt_trichotomy k (nh+j) with hlt | hkj | hgt
   ·
    obtain ⟨hlq,o',c,g,hc,ho'⟩:=htl k i hkn hlt hk;rw [ho] at ho';injection ho' with ho'
    subst ho';have hiq:i∈qs:=hlq.resolve_left (by rw [hiL];simp);have hop:=hqt k i o c g hkn hlt hk hiq hc σ;refine quiet _ c g hop (fun t ht=>?_) fun v w' M' hx' hr' hv hun0=>?_
    ·refine J8 (hs++ts) 0 E E ⟨rfl,rfl,rfl⟩ fun k' x hx' hxd=>?_;rw [n_9];by_cases hkk:k'=k
     ·subst hkk;rw [ixD hk,hiL];simp
     ·have:=seen t ht k' x hx' hxd hkk
      rcases Nat.lt_or_gt_of_ne hkk with h | h
      ·rw [this.1 h];simp [h]
      ·rw [this.2 h];simp;omega
    ·refine IH (fuel+(ops.size - (nh+j))) om_ fuel j ts (listed.setIfInBounds i true) (u.erase i) σ _ w' M' qf rfl (by simp [hsz]) b6i hgen.1 hgen.2.1 (hnd.erase i) hgen.2.2 hjs hts (fun k' i' h1 h2 h3=>?_) hqt (heaN hx' (n_4 _) fun k' i' h1 h2=>hix om_ h2) (hinjN (n_4 _) fun k' i' h1 h2=>hix om_ h2) (fun k' i' o' c' g' h1 h2 h3 h4=>?_) hct (hx.trans hx') hr' ?_
     ·obtain ⟨g1,g2⟩:=htl k' i' h1 h2 h3;refine ⟨?_,g2⟩;rw [hgd];split
      ·exact .inl rfl
      ·exact g1
     ·rw [hgd] at h3;split at h3
      ·cases h3
      ·exact hst k' i' o' c' g' h1 h2 h3 h4
     ·have hag':∀ t,(o8 (fun k=>(listed.setIfInBounds i true).getD (ix.getD k 0) false) 0 (hs++ts) E).agree t ((o8 (fun k=>listed.getD (ix.getD k 0) false) 0 (hs++ts) E).put o.dst c g):=by
       intro t;by_cases hdt:o.dst=some t
       ·have hat:=a7e (L:=fun k=>(listed.setIfInBounds i true).getD (ix.getD k 0) false) (hs++ts) 0 k E o c g (by rw [a0y om_,hhl];exact hc) hdt (by simp only [n_9,ixD hk,hgd,if_true]) (fun k' x hlt hx' hLx hxd=>by
         obtain ⟨i',hi',ho',_,_⟩:=hent k' x hx';rw [n_9,ixD hi',hgd] at hLx;have hne:i'≠i:=fun e=>by
          subst e;have:=hok.nodup k k' i' hk hi';omega
         rw [if_neg hne] at hLx;have hm:=hok.dsts k' k i' i x.1 o t hlt hi' hk ho' ho hxd hdt;have:=hclosed hcl i i' his (hok.lt _ _ hi') hm hLx;rw [hiL] at this;cases this)
        unfold Env.agree;rw [hat.1,hat.2.1,hat.2.2,hdt,Env.put_f,Env.put_ok,Env.put_un];simp
       ·refine (M8 hdt ?_).symm;refine J8 (hs++ts) 0 E E ⟨rfl,rfl,rfl⟩ fun k' x hx' hxd=>?_;obtain ⟨i',hi',ho',_,_⟩:=hent k' x hx';rw [n_9,ixD hi',hgd]
        split
        ·rename_i hki;subst hki;rw [ho] at ho';injection ho' with ho'
         rw [<- ho'] at hxd;exact absurd hxd hdt
        ·rfl
      exact hf.putH hx' (fun t ht=>hd o (a86 ho) t ht) hv hun0 (fun t _=>hag' t) fun t ht _=>hESN t (fun k' i' h1 h2=>by omega) ht
   rotate_left
   ·
    have hal:=hnext hgt;obtain ⟨o1,N,d,e1,e2,e3,hod⟩:=hz.get i hal;rw [ho] at e1;injection e1 with e1
    subst e1;unfold wpOp;simp only [ho];rw [if_pos (by simp [Region.wanted,e3])];have hrun:(execOp a.eval o).run C.P w = .ok (.value (N.val w.heap.size)) (w.alloc N.ob):=e2.run _ _;obtain ⟨hx',hr'⟩:=hr.keepNew N.ob;refine .inl (R1 (K:=fun v w'=>v=N.val w.heap.size/\w'=w.alloc N.ob) (Kp:=fun _ _=>False) (by rw [hrun];exact ⟨rfl,rfl⟩) (fun v w' ⟨hv,hw⟩=>?_) (fun ch w' ha=>ha.elim));subst hv hw;have hqn:∀ k' i',nh+j<=k'->ix[k']? = some i'->listed.getD i' false=true->qf k' < w.heap.size:=fun k' i' h1 h2 h3=>by
     obtain ⟨_,o2,N2,d2,f1,f2,f4,f5,_⟩:=hea k' i' h1 h2 h3;exact hr.kep _ f5
    refine IH (fuel+(ops.size - (nh+j))) om_ fuel j ts (listed.setIfInBounds i true) (u.erase i) σ _ _ (M.keepNew w.heap.size) (fun x=>if x=k then w.heap.size else qf x) rfl (by simp [hsz]) b6i hgen.1 hgen.2.1 (hnd.erase i) hgen.2.2 hjs hts (fun k' i' h1 h2 h3=>?_) hqt (fun k' i' h1 h2 h3=>?_) (fun k1 k2 i1 i2 h1 h2 h3 h4 h5 h6 h7=>?_) (fun k' i' o' c' g' h1 h2 h3 h4=>?_) hct (hx.trans hx') hr' ?_
    ·obtain ⟨g1,g2⟩:=htl k' i' h1 h2 h3;refine ⟨?_,g2⟩;rw [hgd];split
     ·exact .inl rfl
     ·exact g1
    ·by_cases hkk:k'=k
     ·subst hkk;rw [hk] at h2;injection h2 with h2
      subst h2;refine ⟨hal,o,N,d,ho,e2,hod,?_⟩;simp only [if_true];have hlt0:∀ b o',M.at b o'->b < w.heap.size:=hr.blk;refine ⟨.inr rfl,fun hb=>?_,A3 w _,fun hf'=>?_,fun x hc=>?_,?_⟩
      ·have:=hr.kep _ (hx.kept _ hb).1;omega
      ·have:=hlt0 _ 0 (.inl hf');omega
      ·have:=hlt0 _ x (.inr hc);omega
      ·rw [hod];have hdn:=hd o (a86 ho) d hod;simp [Act.put,hf.size,hdn]
     ·simp only [if_neg hkk];rw [hgd,if_neg (hix hkk h2)] at h3;obtain ⟨f0,f1⟩:=hea k' i' h1 h2 h3;exact ⟨f0,f1.step hx' fun d' o' ho' hod' hd'=>hslot d' hd' ⟨k',i',o',h1,h2,h3,ho',hod'⟩⟩
    ·by_cases hk1:k1=k
     ·by_cases hk2:k2=k
      ·omega
      ·simp only [if_pos hk1,if_neg hk2] at h7;rw [hgd,if_neg (hix hk2 h4)] at h6;have:=hqn k2 i2 h2 h4 h6;omega
     ·by_cases hk2:k2=k
      ·simp only [if_pos hk2,if_neg hk1] at h7;rw [hgd,if_neg (hix hk1 h3)] at h5;have:=hqn k1 i1 h1 h3 h5;omega
      ·simp only [if_neg hk1,if_neg hk2] at h7;rw [hgd,if_neg (hix hk1 h3)] at h5;rw [hgd,if_neg (hix hk2 h4)] at h6;exact hinj k1 k2 i1 i2 h1 h2 h3 h4 h5 h6 h7
    ·rw [hgd] at h3;split at h3
     ·cases h3
     ·exact hst k' i' o' c' g' h1 h2 h3 h4
    ·have hLc:o8 (fun k=>(listed.setIfInBounds i true).getD (ix.getD k 0) false) 0 (hs++ts) E=o8 (fun k=>listed.getD (ix.getD k 0) false) 0 (hs++ts) E:=a1k _ _ _ fun k' hk'=>by
      rw [n_9];have hlt':k' < nh+j:=by simpa [hhl,hts] using hk'
      obtain ⟨i',hi'⟩:=ixk k' om_;rw [ixD hi',hgd,if_neg (hix om_ hi')]
     rw [hLc];have hnd':∀ t',¬ ES ops ix (nh+j) (listed.setIfInBounds i true) t'->o.dst≠some t':=fun t' h e=>h ⟨k,i,o,om_,hk,by rw [hgd,if_pos rfl],ho,e⟩;exact hf.putH (g:=True) hx' (fun t ht=>hd o (a86 ho) t ht) (p':=ES ops ix (nh+j) (listed.setIfInBounds i true)) (v:=N.val w.heap.size) (c':=.val (N.val w.heap.size)) (fun _=>.val _) (fun h=>absurd trivial h) (fun t' ht'=>(M8 (hnd' t' ht') ⟨rfl,rfl,rfl⟩).symm) fun t' ht' _=>hESN t' (fun k' i' h1 h2=>by omega) ht'
   subst hkj;have hlt:nh+j < ops.size:=hks;rw [hdrop hlt hk] at hct;obtain ⟨o',ho',hct⟩:=hct;rw [ho] at ho';injection ho' with ho'
   subst ho';have hag:∀ t,t∈o.looksAt ops->(o8 (fun _=>true) 0 (hs++ts) E).agree t (o8 (fun k=>listed.getD (ix.getD k 0) false) 0 (hs++ts) E):=fun t ht=>J8 (hs++ts) 0 E E ⟨rfl,rfl,rfl⟩ fun k' x hx' hxd=>by
    obtain ⟨i',hi',ho',hlt',_⟩:=hent k' x hx';rw [n_9,(seen t ht k' x hx' hxd om_).1 hlt']
   have next:∀ (v:Value) (c:CV) (g:Prop) (σ':List b9) (w':World) (M':z6),(a0S S σ' (fls.getD j [])/\P6 C ops al qs Q S (((List.range (ops.size - nh)).map fun p=>(ix.getD (nh+p) 0,fls.getD p [])).drop (j+1)) ((o8 (fun _=>true) 0 (hs++ts) E).put o.dst c g) σ') ->
    Ext M w M' w'->Rel C M' σ' w'->(g->RV M' w' c v)->(¬ g->v=undef)->wpAny C.P .any ops (P3 C n Q M0 w0) fuel (listed.setIfInBounds i true) (a.put o.dst v) w':=by
    intro v c g σ' w' M' ⟨hfl,hct'⟩ hx' hr' hv hun0;have hLc:o8 (fun k=>(listed.setIfInBounds i true).getD (ix.getD k 0) false) 0 (hs++ts) E=o8 (fun k=>listed.getD (ix.getD k 0) false) 0 (hs++ts) E:=a1k _ _ _ fun k' hk'=>by
     rw [n_9];have hlt':k' < nh+j:=by simpa [hhl,hts] using hk'
     obtain ⟨i',hi'⟩:=ixk k' om_;rw [ixD hi',hgd,if_neg];intro e;subst e;have:=hok.nodup k' (nh+j) i' hi' hk;omega
    refine IH (fuel+(ops.size - (nh+(j+1)))) om_ fuel (j+1) (ts++[(o,c,g)]) (listed.setIfInBounds i true) (u.erase i) σ' _ w' M' qf rfl (by simp [hsz]) b6i hgen.1 hgen.2.1 (hnd.erase i) hgen.2.2 om_ (by simp [hts]) (fun k' i' h1 h2 h3=>?_) (hqt1 _ _ _ (fun _ i' hi' hiq=>absurd hiq (hnq i' hi')) hlt) (heaN hx' om_ fun k' i' h1 h2=>hix om_ h2) (hinjN om_ fun k' i' h1 h2=>hix om_ h2) (fun k' i' o' c' g' h1 h2 h3 h4=>?_) (by rw [hts1];exact hct') (hx.trans hx') hr' ?_
    ·by_cases hkk:k'=nh+j
     ·subst hkk;rw [hk] at h3;injection h3 with h3
      subst h3;refine ⟨.inl (by rw [hgd,if_pos rfl]),o,c,g,?_,ho⟩;rw [show nh+j - nh=ts.length by omega];simp
     ·obtain ⟨g1,o',c',g',g2,g3⟩:=htl k' i' h1 om_ h3;refine ⟨?_,o',c',g',?_,g3⟩
      ·rw [hgd];split
       ·exact .inl rfl
       ·exact g1
      ·rw [M5 om_];exact g2
    ·rw [hgd] at h3;split at h3
     ·cases h3
     ·rcases hok.fls j k' (by have:=hok.fl;omega) h1 with hin | ⟨p',hp',hpq,hm⟩
      ·exact hS k' o' c' g' σ' h4 (hfl.get k' hin)
      ·exfalso;obtain ⟨i'',hi''⟩:=ixk (nh+p') om_;rw [ixD hi'',ixD h2] at hm;have hl:listed.getD i' false=true:=by
        by_cases hpj:p'=j
        ·subst hpj;rw [hk] at hi'';injection hi'' with hi''
         subst hi'';exact a3O hok hcl i o ho (fun e hek hb=>he e hek hb) i' (hok.lt _ _ h2) hm
        ·exact hclosed hcl i' i'' (hok.lt _ _ h2) (hok.lt _ _ hi'') hm ((htl (nh+p') i'' om_ om_ hi'').1.resolve_right (by rw [ixD hi''] at hpq;exact hpq))
       rw [hl] at h3;cases h3
    ·rw [hts1];have:(listed.setIfInBounds i true).getD (ix.getD (nh+j) 0) false=true:=by rw [ixD hk,hgd,if_pos rfl]
     simp only [this];rw [hLc];exact hf.putH hx' (fun t ht=>hd o (a86 ho) t ht) hv hun0 (fun t _=>⟨rfl,rfl,rfl⟩) fun t ht _=>hESN t (fun k' i' h1 h2 h3=>by
      have:k'=nh+j:=by omega
      subst this;rw [hk] at h3;injection h3 with h3
      exact h3.symm) ht
   have hopr:∀ x∈o.op.operands,(o8 (fun _=>true) 0 (hs++ts) E).valid x->RV M w ((o8 (fun _=>true) 0 (hs++ts) E).val C x) (a.eval x):=fun x hx hv=>by
    cases x with
    | tmp t =>
     have h2:=hag t (a2i hx);simp only [Env.val,Env.valid] at hv ⊢;rw [h2.1];exact hf.rv t ⟨hnoES t (a2i hx),by rw [<- h2.2.1];exact hv⟩
    | const v=>exact hf.eval (x:=.const v) hr hv
    | global v=>exact hf.eval (x:=.global v) hr hv
    | func v=>exact hf.eval (x:=.func v) hr hv
   have does:∀ (g:Prop),g->(K1 C σ (o8 (fun _=>true) 0 (hs++ts) E) o fun r σ'=>match r with | .ret c=>a0S S σ' (fls.getD j [])/\P6 C ops al qs Q S (((List.range (ops.size - nh)).map fun p=>(ix.getD (nh+p) 0,fls.getD p [])).drop (j+1)) ((o8 (fun _=>true) 0 (hs++ts) E).put o.dst c g) σ' | .pan c=>∀ E',Q (.pan c) E' σ')->o.wp C.P a w (wpAny C.P .any ops (P3 C n Q M0 w0) fuel (listed.setIfInBounds i true)) (P3 C n Q M0 w0):=fun g hg hdo=>by
    refine R1 (hdo M w a.eval hr hopr) (fun v w' ha=>?_) (fun ch w' ha=>?_)
    ·obtain ⟨c',σ',M',h1,h2,h3,h4⟩:=ha;exact next v c' g σ' w' M' h4 h1 h2 (fun _=>h3) fun hh=>absurd hg hh
    ·obtain ⟨c',v,σ',M',h0,h1,h2,h3,h4⟩:=ha;exact ⟨_,σ',M',hx.trans h1,h2,hf.mono h1,c',v,h0,h3,h4 _⟩
   rcases hct with ⟨hqc,_⟩ | ⟨_,⟨_,(⟨hg,hdo⟩ | ⟨c,g,hop,hkk⟩) | ⟨jj,t,want,b,c0,hg,ht,hv,hb,hy,hn⟩⟩ | ⟨hg,N,hot,hfl,hkk⟩⟩
   ·exact absurd (sp_ hqc) (hnq i hk)
   ·unfold wpOp;simp only [ho];rw [if_pos b8O];exact .inl (does True trivial hdo)
   ·exact quiet _ c g hop hag fun v w' M' hx' hr' hv hun0=>next v c g σ w' M' hkk hx' hr' hv hun0
   ·
    unfold wpOp;simp only [ho];have h2:=hag t (T2 hg ht);have h3:RV M w ((o8 (fun k=>listed.getD (ix.getD k 0) false) 0 (hs++ts) E).f t) (a.tmps.getD t undef):=hf.rv t ⟨hnoES t (T2 hg ht),by rw [<- h2.2.1];exact hv⟩;rw [<- h2.1,hb] at h3;have h4:=r2 h3;have hszt:t < a.tmps.size:=by
     rcases a0c t a.tmps.size with h' | h'
     ·exact h'
     ·simp [a9a h',undef] at h4
    have h5:a.tmps[t]? = some (.bool b):=by
     rw [W4,a0q hszt] at h4;rw [a0q hszt,<- h4];rfl
    have h6:yielded ops a.tmps jj=some b:=by unfold yielded;rw [ht,n_6,h5]
    have hw:Region.wanted o (yielded ops a.tmps)=(b == want):=by
     simp only [Region.wanted,hg,h6];cases b <;> cases want <;> rfl
    by_cases hbw:b=want
    ·rw [if_pos a6H];exact .inl (does (b=want) hbw (hy hbw))
    ·rw [if_neg a6H];exact next undef c0 (b=want) σ w M (hn hbw) (Ext.refl M w) hr (fun hh=>absurd hh hbw) fun _=>rfl
   ·unfold wpOp;simp only [ho];rw [if_pos b8O];exact .inl (does True trivial (hot.does ⟨hfl,hkk⟩))
def d8d (ops:Array Oper) (al:List Nat):Bool:=al.all fun i=>(List.range ops.size).all fun i'=>Nat.beq i' i || ((ops[i]?).bind (·.dst)).isNone || !((ops[i]?).bind (·.dst) == (ops[i']?).bind (·.dst))
theorem c4k (al qs:List Nat) (ix:List Nat) (nh:Nat) (ms:List Nat) (fls:List (List Nat)) (hm:C.P.follows .mixedOrders=true) (hB:b0H ops al qs ix nh ms fls=true) (hu:d8d ops al=true) (hz:AZ C ops al) (hd:(ops.toList.all fun o=>match o.dst with | some d=>Nat.blt d n | none=>true)=true)
 {hd1l:List Nat} {tll:List (Nat × List Nat)} (hd1:List.take nh ix=hd1l) (hd2:((List.range (ops.size - nh)).map fun p=>(ix.getD (nh+p) 0,fls.getD p []))=tll)
 (h:a45 C σ ops (fun E' S=>P6 C ops al qs Q S tll E' σ) hd1l E []):CWp C n (.region id ops true) Q E σ:=fun M w a hr hf=>by
 subst hd1 hd2;have hok:=c5Z hB;obtain ⟨hs,h0,h1,h2,h3⟩:=a9o _ _ _ h;obtain ⟨hr',hx⟩:=hr.drew;have hl:hs.length=nh:=by rw [h0,a7Z,hok.len];have:=hok.le;omega
 refine wp_region_any hm (b9Y hok (S:=_) hl (fun k i hk hi=>?_) hz (fun i hi i' o o' d h1 h2 h3 h4=>?_) (fun o ho d hod=>?_) (fun k o c g σ' hk hS=>?_) M w _ ops.size 0 [] (Array.replicate ops.size false) (List.range ops.size) σ a _ M (fun _=>0) rfl si_ si_ (fun i hi _=>sp_ hi) (fun i hi=>?_) List.nodup_range (fun k o hk hkl=>?_) (by have:=hok.le;omega) rfl (fun k i h1 h2=>by omega) (fun k i o c g h1 h2=>by omega) (fun k i _ hi h=>?_) (fun k k' i i' _ _ h1 _ h=>?_) (fun k i o c g _ _ _ hk=>h3 k o c g hk) (by rw [a2q,a8G];exact h2) hx hr' ?_)
 ·exact h1 k i (by rw [a2o,if_pos hk];exact hi)
 ·unfold d8d at hu;rw [a0z] at hu;have:=hu i hi;rw [a0z] at this;have:=this i' (by simpa using (T9.1 h2).1);simp only [h1,h2,n_6,h3,h4] at this;simpa using this
 ·rw [a0z] at hd;have:=hd o (sp_ ho);rw [hod] at this;simpa [a33] using this
 ·have hlt:=(n_1.1 hk).1;rw [a7t] at hS;have e:(((List.range hs.length).map (b7x C ops hs E)).getD k fun _=>True)=b7x C ops hs E k:=by simp [a3o,hlt]
  rw [e] at hS;simpa only [b7x,hk] using hS
 ·have:i < ops.size:=sp_ hi;exact ⟨this,by simp [this]⟩
 ·have hks:k < ops.size:=(T9.1 hk).1;simp [hks] at hkl
 ·simp [hok.lt _ _ hi] at h
 ·simp [hok.lt _ _ h1] at h
 ·have hff:o8 (fun k=>(Array.replicate ops.size false).getD (ix.getD k 0) false) 0 (hs++[]) E=E:=a3w _ _ _ fun i _=>by
   simp only [W4,c11]
   split <;> rfl
  rw [hff];have hf':=hf.mono hx;exact ⟨hf'.defers,hf'.size,fun t ht=>hf'.rv t ht.2,fun t ht=>hf'.un t ht.2⟩
theorem b5a (h:Q .normal E σ):P6 C ops al qs Q S [] E σ:=h
theorem A6 {l:List (Nat × List Nat)} (hqs:qs.contains i=false) (hal:al.contains i=false) (ho:ops[i]? = some o) (hg:o.guard=none) (h:K1 C σ E o fun r σ'=>match r with | .ret c=>a0S S σ' fl/\P6 C ops al qs Q S l (E.put o.dst c True) σ' | .pan c=>∀ E',Q (.pan c) E' σ'):P6 C ops al qs Q S ((i,fl)::l) E σ :=
 ⟨o,ho,.inr ⟨hqs,.inl ⟨hal,.inl (.inl ⟨hg,h⟩)⟩⟩⟩
theorem D9 {l:List (Nat × List Nat)} (hqs:qs.contains i=false) (hal:al.contains i=false) (ho:ops[i]? = some o) (hop:O8 C σ ops o E c g) (h:a0S S σ fl/\P6 C ops al qs Q S l (E.put o.dst c g) σ):P6 C ops al qs Q S ((i,fl)::l) E σ :=
 ⟨o,ho,.inr ⟨hqs,.inl ⟨hal,.inl (.inr ⟨c,g,hop,h⟩)⟩⟩⟩
theorem e0k {l:List (Nat × List Nat)} (hqs:qs.contains i=false) (ho:ops[i]? = some o) (hg:o.guard=none) (hot:o.op = .makeMap t none)
 (h:a0S S (σ++[.map []]) fl/\P6 C ops al qs Q S l (E.put o.dst (.map σ.length) True) (σ++[.map []])):P6 C ops al qs Q S ((i,fl)::l) E σ :=
 ⟨o,ho,.inr ⟨hqs,.inr ⟨hg,d7B,.inr ⟨t,hot,rfl⟩,h⟩⟩⟩
theorem b1M {l:List (Nat × List Nat)} (hqs:qs.contains i=true) (ho:ops[i]? = some o) (hop:∀ σ',O8 C σ' ops o E c g) (h:P6 C ops al qs Q S l (E.put o.dst c g) σ):P6 C ops al qs Q S ((i,fl)::l) E σ :=
 ⟨o,ho,.inl ⟨hqs,c,g,hop,h⟩⟩
end
structure c55 {α:Type} [DecidableEq α] (P:Program) (kt:TypeId) (kc:α->CV) (kv:α->Value):Prop where
 rv:∀ M w a v,RV M w (kc a) v->v=kv a
 rv':∀ M w a,RV M w (kc a) (kv a)
 check:∀ b a w,(Instr.checkKey b 10000 kt (kv a)).run P w = .ok () w
 eq:∀ a b w,(Op.equal kt (kv a) (kv b)).run P w = .ok (decide (a=b)) w
 now:∃ d,(∀ w,(underlying kt).run P w = .ok d w)/\∀ a b,Instr.sameNow d (kv a) (kv b)=none
 bits:∀ a,Instr.sameBits 10000 (kv a) (kv a)=true
section
variable [DecidableEq α] {kc:α->CV} {kv:α->Value}
end
section
variable [DecidableEq α] {kc:α->CV} {kv:α->Value}
end
abbrev Str:=List UInt8
variable {l:Str}
def str (l:Str):ByteArray:=⟨l.toArray⟩
abbrev sv (l:Str):CV:=.val (.string (str l))
theorem a4Y (l:Str):(str l).size=l.length:=by simp [str,ByteArray.size]
theorem a0U (l:Str):(str l).toList=l:=by
 rw [ByteArray.toList_eq];simp [str]
theorem b92 (a b:Str):str a++str b=str (a++b):=by
 apply ByteArray.ext;simp [str]
theorem d2W (l:Str) (i:Nat):(str l)[i]? = l[i]?:=by
 simp only [str,getElem?_def]
 split <;> rename_i h <;> split <;> rename_i h' <;> first|rfl|(exfalso;simp [ByteArray.size] at h h';omega)
theorem b9l (l:Str) (a b:Nat):(str l).extract a b=str ((l.take b).drop a):=by
 apply ByteArray.ext;simp [str,List.drop_take]
section
theorem c9m (ho:o.op = .call { callee:=.builtin .len,args:=#[x],argTypes:=#[t]}) (hx:E.valid x) (ex:E.val C x=sv l) (hu:∀ w,(underlying t).run C.P w = .ok .string w):o4 C σ E o (.val (.int .i64 l.length)) :=
 i8 fun M w ρ _ h=>by
  have h1:=h x I7 hx;rw [ex] at h1;have h2:=r2 h1;refine ⟨.int .i64 l.length,?_,.val _⟩;simp [execOp,ho,h2,resolve,invoke,builtin,Builtin.len_,hu,goInt,a4Y]
theorem L6 {ix:Operand} {i:Int} {k:IntKind} {b:UInt8} (ho:o.op = .index t x ix) (hx:E.valid x) (hi:E.valid ix) (ex:E.val C x=sv l) (ei:E.val C ix = .val (.int k i)) (hu:∀ w,(underlying t).run C.P w = .ok .string w) (h0:0<=i) (hb:l[i.toNat]? = some b):o4 C σ E o (.val (.int .u8 b.toNat)) :=
 i8 fun M w ρ _ h=>by
  have h1:=h x x9 hx;have h2:=h ix x9 hi;rw [ex] at h1;rw [ei] at h2;have h1':=r2 h1;have h2':=r2 h2;refine ⟨.int .u8 b.toNat,?_,.val _⟩;simp [execOp,ho,h1',h2',Instr.index,hu,asIntOf,h0,d2W,hb]
theorem I1 {a b:Str} (ho:o.op = .binOp .add t x y t') (hx:E.valid x) (hy:E.valid y) (ex:E.val C x=sv a) (ey:E.val C y=sv b) (hl:a.length+b.length<=9223372036854775807):o4 C σ E o (sv (a++b)) :=
 i8 fun M w ρ _ h=>by
  have h1:=h x x9 hx;have h2:=h y x9 hy;rw [ex] at h1;rw [ey] at h2;have h1':=r2 h1;have h2':=r2 h2;refine ⟨.string (str (a++b)),?_,.val _⟩;simp [execOp,ho,h1',h2',eqGuard,binOp,Op.stringOp,b92];rw [a4Y,a4Y];omega
theorem b5y (a b:Str):(a == b)=decide (a=b):=by
 by_cases h:a=b <;> simp [h]
theorem a79 (a b:Str):b09 .eql (str a) (str b)=some (decide (a=b)):=by simp [b09,a0U,b5y]
theorem b1U (a b:Str):b09 .neq (str a) (str b)=some (!decide (a=b)):=by simp [b09,a0U,b5y]
theorem c9Z (a b:Str):b09 .lss (str a) (str b)=some (Op.bytesLess a b):=by simp [b09,a0U]
theorem b7n (a b:Str):b09 .leq (str a) (str b)=some (Op.bytesLess a b || decide (a=b)):=by simp [b09,a0U,b5y]
theorem a2T {op:BinOp} {a b:Str} {r:Bool} (ho:o.op = .binOp op t x y t') (hx:E.valid x) (hy:E.valid y) (ex:E.val C x=sv a) (ey:E.val C y=sv b) (hv:b09 op (str a) (str b)=some r):o4 C σ E o (.val (.bool r)) :=
 c9B ho hx hy ex ey hv
end
def bcv (b:UInt8):List CV:=[.val (.int .u8 b.toNat)]
section
theorem J7 {lo hi:Option Operand} {a h:Nat} (ho:o.op = .slice t x lo hi none) (hx:E.valid x) (ex:E.val C x=sv l) (hu:∀ w,(underlying t).run C.P w = .ok .string w) (hlo:a1U C E lo 0 a) (hhi:a1U C E hi l.length h) (h1:a<=h) (h2:h<=l.length):o4 C σ E o (sv ((l.take h).drop a)) :=
 i8 fun M w ρ hr hh=>by
  have hx':=hh x x9 hx;rw [ex] at hx';have hv:=r2 hx';have hlo':∀ v,lo=some v->∃ k i,ρ v = .int k i/\0<=i/\i.toNat=a:=fun v hv=>by
   subst hv;obtain ⟨hval,k,i,he,h0,hi⟩:=hlo;have:=hh v x9 hval;rw [he] at this;exact ⟨k,i,r2 this,h0,hi⟩
  have hhi':∀ v,hi=some v->∃ k i,ρ v = .int k i/\0<=i/\i.toNat=h:=fun v hv=>by
   subst hv;obtain ⟨hval,k,i,he,h0,hi⟩:=hhi;have:=hh v x9 hval;rw [he] at this;exact ⟨k,i,r2 this,h0,hi⟩
  have hb:(Instr.sliceBounds false l.length l.length (lo.map ρ) (hi.map ρ) none).run C.P w = .ok (a,h,l.length) w:=by
   have hl2:(a:Int)<=h:=by omega
   have hh2:(h:Int)<=l.length:=by omega
   cases lo with
   | none =>
    have:a=0:=by simpa [a1U] using hlo.symm
    subst this;cases hi with
    | none =>
     have:h=l.length:=by simpa [a1U] using hhi.symm
     subst this;simp [Instr.sliceBounds]
    | some v =>
     obtain ⟨k,i,he,h0,hi⟩:=hhi' v rfl;have hle:i<=l.length:=by omega
     simp [Instr.sliceBounds,Instr.sliceBound,he,asIntOf,h0,hle,hi]
   | some u =>
    obtain ⟨k,i,he,h0,hi0⟩:=hlo' u rfl;cases hi with
    | none =>
     have:h=l.length:=by simpa [a1U] using hhi.symm
     subst this;have hle:i<=l.length:=by omega
     simp [Instr.sliceBounds,Instr.sliceBound,he,asIntOf,h0,hle,hi0]
    | some v =>
     obtain ⟨k',i',he',h0',hi'⟩:=hhi' v rfl;have hle:i<=h:=by omega
     have hle':i'<=l.length:=by omega
     simp [Instr.sliceBounds,Instr.sliceBound,he,he',asIntOf,h0,h0',hle,hle',hi0,hi']
  refine ⟨.string (str ((l.take h).drop a)),?_,.val _⟩;simp [execOp,ho,hv,Instr.sliceAt,Instr.slice,hu,a4Y,hb,b9l]
theorem c1m {P:Program} {w:World}:∀ (l:Str) (acc:Str),(forIn (m:=Sem) (l.map fun b:UInt8=>Value.int .u8 (b.toNat:Int)) (str acc) fun (c:Value) (s:ByteArray) =>
 match c with
 | .int .u8 n=>(do pure (ForInStep.yield (s.push (UInt8.ofNat n.toNat))):Sem (ForInStep ByteArray))
 | _=>(do
  let _ ← (stuck "bytesToString: byte expected" : Sem PUnit)
  pure (ForInStep.yield s))).run P w = .ok (str (acc++l)) w
 | [],acc=>by simp
 | b::l,acc=>by
  have h:(str acc).push (UInt8.ofNat ((b.toNat:Int).toNat))=str (acc++[b]):=by
   apply ByteArray.ext;simp [str,ByteArray.push]
  rw [b3h,List.forIn_cons];simp only [Sem.run_bind,Sem.run_pure,Result.andThen_ok,h];rw [c1m l (acc++[b])];simp
theorem d8T {nn:Bool} {tok:Option Nat} (ho:o.op = .convert src dst x) (hx:E.valid x) (ex:E.val C x = .list (l.map bcv) nn tok) (hs:∀ w,(underlying src).run C.P w = .ok (.slice e) w) (hd:∀ w,(underlying dst).run C.P w = .ok .string w) (he:∀ w,(underlying e).run C.P w = .ok (.int .u8) w):o4 C σ E o (sv l) :=
 i8 fun M w ρ hr hh=>by
  have hx':=hh x x9 hx;rw [ex] at hx';obtain ⟨a,cap,b,off,s',vals,hv,hcap,hmax,hnn,hn0,ha,hrl,hone,hc,hrv,_⟩:=hx'.list_inv;refine ⟨.string (str l),?_,.val _⟩;cases l with
  | nil =>
   cases a with
   | none=>simp [execOp,ho,hv,convert,hs,hd,he,Conv.bytesToString];rfl
   | some a=>simp [execOp,ho,hv,convert,hs,hd,he,Conv.bytesToString,loadCells,loadCellsFrom];rfl
  | cons y l =>
   have ha':=ha si_;have hs1:s'=1:=by have:=hrl (bcv y) si_;simpa [bcv] using this.symm
   subst hs1;have hcell:∀ j,j < (y::l).length->w.cell? ⟨b,off+j,none⟩=some ((((y::l).map fun b:UInt8=>Value.int .u8 (b.toNat:Int))[j]?).getD undef):=fun j hj=>by
    have h1:((y::l).map bcv)[j]? = some (bcv ((y::l)[j]'hj)):=by rw [O9,a2b hj];rfl
    have h2:=hc j 0 (bcv ((y::l)[j]'hj)) (.val (.int .u8 (((y::l)[j]'hj).toNat:Int))) h1 rfl;have h3:=r2 (hrv j 0 (bcv ((y::l)[j]'hj)) (.val (.int .u8 (((y::l)[j]'hj).toNat:Int))) h1 rfl);simp only [c1g,a4K] at h2;rw [h2.2,h3,O9,a2b hj];rfl
   have hl:=V0 (P:=C.P) _ _ hcell;have harr:((List.range (y::l).length).map fun j=>(((y::l).map fun b:UInt8=>Value.int .u8 (b.toNat:Int))[j]?).getD undef)=(y::l).map fun b:UInt8=>Value.int .u8 (b.toNat:Int):=by
    apply List.ext_getElem
    ·simp
    ·intro i h1 h2;simp at h1;simp [h1]
   have:=c1m (P:=C.P) (w:=w) (y::l) [];simp only [a7t] at this;rw [ha'] at hv;simp only [a2O] at hv;simp only [execOp,ho,hv,convert,Sem.run_bind,hs,hd,he,Result.andThen_ok,Conv.bytesToString,hl,harr];simp only [List.forIn_toArray];have e0:(ByteArray.empty)=str []:=rfl;rw [e0];refine (congrArg (fun r=>(r.andThen fun a w'=>Sem.run C.P (pure (Value.string a)) w').andThen fun a w'=>Sem.run C.P (pure (Next.value a)) w') this).trans ?_;simp
end
theorem Rel.settleBlock (hr:Rel C M σ w) {b:Nat} (hb:b < w.heap.size) (hfree:∀ (k:Nat) (p:Pl) (ob:b9),M.pl[k]? = some p->σ[k]? = some ob->ob.live=true->p.block≠b) (hk:¬ M.keep b):Ext M w (M.settle b) w/\Rel C (M.settle b) σ w:=by
 have hx:Ext M w (M.settle b) w:=⟨⟨[],by simp [z6.settle]⟩,fun _ h=>.inl h,fun _ _ h=>.inr h,fun _ _=>rfl,fun _ _ _=>rfl,n_4 _,P1,rfl,rfl,rfl,fun b' h=>⟨h,rfl,fun f=>(by
  rcases f with f | f
  ·exact f
  ·exact absurd (f ▸ h) hk),fun _ f=>f⟩⟩
 refine ⟨hx,hr.len,fun b' o ha=>?_,fun k p x hp hs=>?_,hr.inj,fun g cells hg=>(hr.glob g cells hg).mono hx,hr.kep,hr.nk⟩
 ·rcases ha with (ha | ha) | ha
  ·exact hr.blk b' o (.inl ha)
  ·omega
  ·exact hr.blk b' o (.inr ha)
 ·obtain ⟨h1,h2⟩:=hr.obj k p x hp hs;by_cases hl:x.live=true
  ·refine ⟨h1.mono hx rfl (fun _ _ _ _ h=>h),?_⟩;have hf:¬ M.full p.block->¬ (M.settle b).full p.block:=fun h h'=>by
    rcases h' with h' | h'
    ·exact h h'
    ·exact hfree k p x hp hs hl h'
   cases x <;> first | trivial|exact hf h2|exact ⟨hf h2.1,h2.2⟩
  ·cases x <;> first|exact ⟨tt,tt⟩ | simp [b9.live] at hl
theorem b2K {a:Array α} {p:α->Bool} (h:∀ x∈a,p x=true):a.filter p=a:=by
 apply Array.toList_inj.1;rw [Array.toList_filter];exact List.filter_eq_self.2 fun x hx=>h x (sp_ hx)
theorem b0n {a:Array α} {p:α->Bool} (h:∀ x∈a,p x=false):a.filter p = #[]:=by
 apply Array.toList_inj.1;rw [Array.toList_filter];exact List.filter_eq_nil_iff.2 fun x hx=>by rw [h x (sp_ hx)];simp
theorem b4S {ents:Array MapEntry} (ha:b0P ents) {seen:Array Nat} {e:MapEntry} (hi:(ents.toList.filter fun e=>!seen.contains e.born)[i]? = some e) :
 (ents.toList.filter fun x=>!(seen.push e.born).contains x.born)=(ents.toList.filter fun e=>!seen.contains e.born).eraseIdx i:=by
 have hag:∀ (i j:Nat) (e e':MapEntry),ents.toList[i]? = some e->ents.toList[j]? = some e'->e.born=e'.born->i=j:=fun i j e e' h1 h2 h3=>ha i j e e' (sp_ h1) (sp_ h2) h3;have hc:∀ x:MapEntry,(seen.push e.born).contains x.born=(seen.contains x.born || x.born == e.born):=fun x=>by
  rw [Array.contains_push]
 simp only [hc];generalize ents.toList=l at hi hag;clear ha hc
 induction l generalizing i with
 | nil=>simp at hi
 | cons y l ih =>
  have hag':∀ (i j:Nat) (e e':MapEntry),l[i]? = some e->l[j]? = some e'->e.born=e'.born->i=j:=fun i j a b h1 h2 h3=>by
   have:=hag (i+1) (j+1) a b (sp_ h1) (sp_ h2) h3;omega
  by_cases hy:seen.contains y.born=true
  ·have h1:(!seen.contains y.born)=false:=by rw [hy];rfl
   rw [b0s,if_neg (by rw [h1];simp)] at hi;rw [b0s,if_neg (by rw [hy];simp),b0s,if_neg (by rw [h1];simp)];exact ih hi hag'
  ·have hy':seen.contains y.born=false:=sp_ hy;have h1:(!seen.contains y.born)=true:=by rw [hy'];rfl
   have e1:(List.filter (fun e=>!seen.contains e.born) (y::l))=y::l.filter fun e=>!seen.contains e.born:=by rw [b0s,if_pos h1]
   rw [e1] at hi ⊢
   rcases i with _ | i
   ·simp at hi;subst hi;rw [b0s,if_neg si_];rw [List.eraseIdx_zero,List.tail_cons];refine List.filter_congr fun x hx=>?_;have hne:x.born≠y.born:=fun he=>by
     obtain ⟨j,hj⟩:=L3.1 hx;have:=hag (j+1) 0 x y (sp_ hj) rfl he;omega
    simp [hne]
   ·rw [c2S] at hi;have hne:y.born≠e.born:=fun he=>by
     have hm:=b5r.1 (n_0 hi);obtain ⟨j,hj⟩:=L3.1 hm.1;have:=hag 0 (j+1) y e rfl (sp_ hj) he;omega
    rw [b0s,if_pos (by rw [hy'];simp [hne]),List.eraseIdx_cons_succ,ih hi hag']
def H8 (ents:Array MapEntry) (seen:Array Nat):Array MapEntry:=ents.filter fun e=>!seen.contains e.born
theorem b6j (ents:Array MapEntry) (seen:Array Nat):(H8 ents seen).toList=ents.toList.filter fun e=>!seen.contains e.born:=Array.toList_filter ..
section
theorem c2H {es:List (CV × CV)} (ho:o.op = .range t x) (hx:E.valid x) (ex:E.val C x = .map k) (hu:∀ w,(underlying t).run C.P w = .ok (.map kt et) w) (hσ:σ[k]? = some (.map es)) (hK:K (.ret (.ptr σ.length 0)) (σ.set k .dead++[.iter [] es])):K1 C σ E o K:=fun M w ρ hr h=>by
 have h1:=h x x9 hx;rw [ex] at h1;generalize hv:ρ x=v at h1;cases h1 with
 | map hp =>
  rename_i p;obtain ⟨h1,h2⟩:=hr.obj k p _ hp hσ;have hlt:=h1.lt rfl;obtain ⟨ents,clock,g1,g2,g3⟩:=h1;have hnk:=hr.nk k p _ hp hσ rfl;have hrd:=hr.dead k;have hall:∀ (i:Nat) (e:MapEntry),ents[i]? = some e->e.born < clock:=fun i e he=>by
   have hlt:i < es.length:=by rw [<- g2.1];exact (T9.1 he).1
   obtain ⟨e',h1,_,_,h4⟩:=g3 i es[i] (by simp [hlt]);rw [he] at h1;injection h1 with h1
   rw [h1];exact h4
  obtain ⟨hx1,hr1⟩:=hrd.settleBlock hlt (fun k' p' ob' hp' hs' hl' hb=>by
   rw [b2C] at hs';split at hs'
   ·split at hs'
    ·injection hs' with hs';subst hs';cases hl'
    ·cases hs'
   ·rename_i hne;exact hne (hr.inj k k' p p' _ _ hp hp' hσ hs' rfl hl' hb.symm)) hnk
  have hrun:(execOp ρ o).run C.P w = .ok (.value (.pointer (some ⟨w.heap.size,0,none⟩))) (w.alloc (.mapIter (some p.block) clock #[] clock)):=by
   simp [execOp,ho,hv,Instr.range,hu,L5 g1]
  rw [hrun];have hx2:=Ext.alloc hr1 ⟨w.heap.size,0,0⟩ (.mapIter (some p.block) clock #[] clock);have hk:=(hrd.settleBlock hlt (fun k' p' ob' hp' hs' hl' hb=>by
   rw [b2C] at hs';split at hs'
   ·split at hs'
    ·injection hs' with hs';subst hs';cases hl'
    ·cases hs'
   ·rename_i hne;exact hne (hr.inj k k' p p' _ _ hp hp' hσ hs' rfl hl' hb.symm)) hnk).2
  refine ⟨.ptr σ.length 0,_,_,hx1.trans hx2,hr1.alloc ⟨w.heap.size,0,0⟩ _ (.iter [] es) rfl ⟨p.block,#[],clock,ents,clock,A3 _ _,.inr rfl,?_,.inl rfl,g2.2,hall,?_,fun i x hi=>?_,fun i x hi=>by simp at hi⟩,RV.ptr (p:=⟨w.heap.size,0,0⟩) (by
   have hl:=hr1.len;simp at hl;simp [z6.add,<- hl]),hK⟩
  ·rw [D8 w _ hlt];exact g1
  ·have:(ents.toList.filter fun e=>!(#[]:Array Nat).contains e.born)=ents.toList:=List.filter_eq_self.2 fun x _=>by simp
   rw [this];simpa using g2.1
  ·have:(ents.toList.filter fun e=>!(#[]:Array Nat).contains e.born)=ents.toList:=List.filter_eq_self.2 fun x _=>by simp
   rw [this];obtain ⟨e,f1,f2,f3,_⟩:=g3 i x hi;exact ⟨e,sp_ f1,(f2.mono hx1).mono hx2,(f3.mono hx1).mono hx2⟩
theorem b2z {q:Question} (h:q.forced=false):(choose q).run P w = .ok (q.cut (w.tape w.drawn q)) w.drew:=by
 simp [choose,Sem.run,h]
theorem c8p {it:Operand} {cur left:List (CV × CV)} (ho:o.op = .next it false) (hx:E.valid it) (ex:E.val C it = .ptr q 0) (hσ:σ[q]? = some (.iter cur left)) (hz:left=[]->K (.ret (.tup [.val (.bool false)])) σ)
 (hs:∀ (i:Nat) (x:CV × CV),left[i]? = some x->K (.ret (.tup [.val (.bool true),x.1,x.2])) (σ.set q (.iter [x] (left.eraseIdx i)))):K1 C σ E o K:=fun M w ρ hr h=>by
 have h1:=h it x9 hx;rw [ex] at h1;generalize hv:ρ it=v at h1;cases h1 with
 | ptr hp =>
  rename_i p;obtain ⟨h1,hf,hc⟩:=hr.obj q p _ hp hσ;have hlt:=h1.lt rfl;obtain ⟨mb,seen,last,ents,clock,g1,g2,g3,g4,g5,g6,g7,g8,_⟩:=h1;have hmem:∀ e∈ents,e.born < clock:=fun e he=>by
   obtain ⟨i,hi⟩:=Array.mem_iff_getElem?.1 he;exact g6 i e hi
  have hA:=b6j ents seen;have hmemA:∀ e∈(H8 ents seen),e.born < clock:=fun e he=>hmem e (Array.mem_filter.1 (show e∈ents.filter fun e=>!seen.contains e.born from he)).1;have hold:((H8 ents seen).filter fun e=>decide (e.born < clock))=H8 ents seen:=b2K fun x hx=>by simpa using hmemA x hx
  have hnew:((H8 ents seen).filter fun e=>decide (e.born>=clock)) = #[]:=b0n fun x hx=>by have:=hmemA x hx;simp;omega
  have hno:(!seen.isEmpty && !ents.isEmpty && ents.all fun e=>decide (e.born>=last))=false:=by
   rcases g4 with rfl | rfl
   ·simp
   ·by_cases he:ents.isEmpty=true
    ·simp [he]
    ·have:∃ e,e∈ents:=by
      have hsz:0 < ents.size:=by
       rcases b3g ents.size with h | h
       ·exact absurd (by simp [Array.isEmpty,h]) he
       ·exact h
      exact ⟨ents[0],Array.getElem_mem hsz⟩
     obtain ⟨e,he⟩:=this;have:(ents.all fun e=>decide (e.born>=last))=false:=by
      rw [b2h];intro hh;rw [Array.all_eq_true_iff_forall_mem] at hh;have h1:=hh e he;have h2:=hmem e he;simp at h1;omega
     rw [this];simp
  have hg1:(getObj p.block).run C.P w = .ok (.mapIter (some mb) clock seen last) w:=by simp [getObj,Sem.run,g1]
  have hrun0:(execOp ρ o).run C.P w=((choose (.mapNext ((if (H8 ents seen).isEmpty then #[none] else #[])++((H8 ents seen)++#[]).map some).size)).run C.P w).andThen fun j w' =>
   ((match ((if (H8 ents seen).isEmpty then #[none] else #[])++((H8 ents seen)++#[]).map some)[j]? with
    | some (some e)=>(do
     setObj p.block (.mapIter (some mb) clock (seen.push e.born) clock)
     pure (Next.value (.tuple #[.bool true,e.key,e.val])):Sem Next)
    | some none=>pure (Next.value (.tuple #[.bool false]))
    | none => stuck "Next: no such candidate").run C.P w') := by
   have hun:(ents.filter fun e=>!seen.contains e.born)=H8 ents seen:=rfl;simp only [execOp,ho,hv,Instr.next,Sem.run_bind,hg1,Result.andThen_ok,L5 g3,hno,hun,hold,hnew];simp only [c0a,if_false,Sem.run_bind,Sem.run_pure];cases hch:(choose (.mapNext ((if (H8 ents seen).isEmpty then #[none] else #[])++((H8 ents seen)++#[]).map some).size)).run C.P w with
   | halt x w'=>rfl
   | ok j w' =>
    simp only [Result.andThen_ok];generalize ((if (H8 ents seen).isEmpty=true then #[none] else #[])++Array.map some (H8 ents seen++#[]))[j]? = cand
    rcases cand with _ | _ | e
    ·simp [stuck]
    ·simp
    ·simp only [Sem.run_bind];generalize (setObj p.block (Obj.mapIter (some mb) clock (seen.push e.born) clock)).run C.P w'=r;cases r <;> simp
  rw [hrun0];cases hL:(H8 ents seen).toList with
  | nil =>
   have hempty:(H8 ents seen) = #[]:=Array.toList_inj.1 hL;have hl0:left=[]:=by
    rw [<- hA,hL] at g7;exact b69 g7.symm
   rw [hempty];have hch:(choose (.mapNext (((if (#[]:Array MapEntry).isEmpty then #[none] else #[])++((#[]:Array MapEntry)++#[]).map some).size))).run C.P w = .ok 0 w:=by
    simp [choose,Sem.run,Question.forced]
   rw [hch];have hc0:((if (#[]:Array MapEntry).isEmpty=true then #[none] else #[])++Array.map some ((#[]:Array MapEntry)++#[]))[0]? = some none:=by simp
   simp only [Result.andThen_ok];rw [hc0];show a4q C M w K (.tuple #[.bool false]) w;exact ⟨.tup [.val (.bool false)],σ,M,Ext.refl M w,hr,.tup rfl (fun i c hi=>by
    rcases i with _ | i
    ·simp at hi;subst hi;exact .val _
    ·simp at hi),hz hl0⟩
  | cons e0 r0 =>
   have hne:(H8 ents seen).isEmpty=false:=by
    rw [<- Array.isEmpty_toList,hL];rfl
   have hsz:(H8 ents seen).size=(ents.toList.filter fun e=>!seen.contains e.born).length:=by rw [<- hA];simp
   rw [hne];simp only [c0a,if_false,Array.append_empty,Array.empty_append];have key:∀ (j:Nat) (w':World) (M':z6),Ext M w M' w'->Rel C M' σ w'->M'.pl=M.pl->w'.heap=w.heap->j < (H8 ents seen).size->b20 C.P (a4q C M w K) (a0n C M w K) ((match ((H8 ents seen).map some)[j]? with
    | some (some e)=>(do
     setObj p.block (.mapIter (some mb) clock (seen.push e.born) clock)
     pure (Next.value (.tuple #[.bool true,e.key,e.val])):Sem Next)
    | some none=>pure (Next.value (.tuple #[.bool false]))
    | none => stuck "Next: no such candidate").run C.P w') := by
    intro j w' M' hx' hr' hpl hheap hj;obtain ⟨e,he⟩:∃ e,(H8 ents seen)[j]? = some e:=⟨_,a0q hj⟩;have he':(ents.toList.filter fun e=>!seen.contains e.born)[j]? = some e:=by rw [<- hA];simpa using he
    have hm:((H8 ents seen).map some)[j]? = some (some e):=by rw [c4F,he];rfl
    rw [hm];have hset:(setObj p.block (.mapIter (some mb) clock (seen.push e.born) clock)).run C.P w' = .ok () (World.putObj w' p.block (.mapIter (some mb) clock (seen.push e.born) clock)):=by
     simp [setObj,Sem.run,World.putObj,hheap,g1]
    simp only [Sem.run_bind,hset,Result.andThen_ok,Sem.run_pure];have hjl:j < left.length:=by rw [<- g7];exact (n_1.1 he').1
    obtain ⟨x,hxj⟩:∃ x,left[j]? = some x:=⟨left[j],by simp [hjl]⟩;obtain ⟨e2,f1,f2,f3⟩:=g8 j x hxj;rw [he'] at f1;injection f1 with f1
    subst f1;have hp':M'.pl[q]? = some p:=by rw [hpl];exact hp
    obtain ⟨ob1,hf',hc'⟩:=hr'.obj q p _ hp' hσ;have hlt':p.block < w'.heap.size:=ob1.lt rfl;have hx2:=Ext.putObj (w:=w') (.mapIter (some mb) clock (seen.push e.born) clock) (hr'.nk q p _ hp' hσ rfl) hf' hc';have hne2:p.block≠mb:=fun hb=>by
     rw [hb] at g1;rw [g1] at g3;cases g3
    have hr2:=hr'.putObj (ob:=.iter [x] (left.eraseIdx j)) hp' hσ rfl hf' hc' (.mapIter (some mb) clock (seen.push e.born) clock) ⟨mb,seen.push e.born,clock,ents,clock,World.putObj_same w' _ hlt',hx'.full _ g2,by rw [World.putObj_other w' _ hne2,hheap];exact g3,.inr rfl,g5,g6,by
     rw [b4S g5 he',List.length_eraseIdx,List.length_eraseIdx,g7],fun i y hi=>by
     rw [b4S g5 he'];rw [List.getElem?_eraseIdx] at hi ⊢;split at hi
     ·rename_i hij;rw [if_pos hij];obtain ⟨e3,u1,u2,u3⟩:=g8 i y hi;exact ⟨e3,u1,(u2.mono hx').mono hx2,(u3.mono hx').mono hx2⟩
     ·rename_i hij;rw [if_neg hij];obtain ⟨e3,u1,u2,u3⟩:=g8 (i+1) y hi;exact ⟨e3,u1,(u2.mono hx').mono hx2,(u3.mono hx').mono hx2⟩,fun i y hi=>by
     rcases i with _ | i
     ·simp at hi;subst hi;obtain ⟨j0,hj0⟩:=Array.mem_iff_getElem?.1 (Array.mem_filter.1 (show e∈ents.filter fun e=>!seen.contains e.born from a86 he)).1;exact ⟨rfl,j0,e,hj0,si_,(f2.mono hx').mono hx2,(f3.mono hx').mono hx2⟩
     ·simp at hi⟩
    refine ⟨.tup [.val (.bool true),x.1,x.2],_,M',hx'.trans hx2,hr2,.tup rfl (fun i c hi=>?_),hs j x hxj⟩
    rcases i with _ | _ | _ | i
    ·simp at hi;subst hi;exact .val _
    ·simp at hi;subst hi;exact (f2.mono hx').mono hx2
    ·simp at hi;subst hi;exact (f3.mono hx').mono hx2
    ·simp at hi
   have hpos:0 < (H8 ents seen).size:=by rw [<- b0u,hL];simp
   have hszm:((H8 ents seen).map some).size=(H8 ents seen).size:=by simp
   rw [hszm];by_cases h1:(H8 ents seen).size<=1
   ·have hch:(choose (.mapNext (H8 ents seen).size)).run C.P w = .ok 0 w:=by
     simp [choose,Sem.run,Question.forced,h1]
    rw [hch];exact key 0 w M (Ext.refl M w) hr rfl rfl hpos
   ·have hch:(choose (.mapNext (H8 ents seen).size)).run C.P w = .ok ((Question.mapNext (H8 ents seen).size).cut (w.tape w.drawn (.mapNext (H8 ents seen).size))) w.drew:=b2z (by simp [Question.forced];omega);rw [hch];obtain ⟨hrd,hxd⟩:=hr.drew;exact key _ w.drew M hxd hrd rfl rfl (a6o _ hpos)
theorem c2B {it:Operand} {x:CV × CV} {left:List (CV × CV)} (ho:o.op = .entry it) (hx:E.valid it) (ex:E.val C it = .ptr q 0) (hσ:σ[q]? = some (.iter [x] left)):o4 C σ E o (.tup [x.1,x.2]) :=
 i8 fun M w ρ hr h=>by
  have h1:=h it x9 hx;rw [ex] at h1;generalize hv:ρ it=v at h1;cases h1 with
  | ptr hp =>
   rename_i p;obtain ⟨mb,seen,last,ents,clock,g1,g2,g3,g4,g5,g6,g7,g8,g9⟩:=(hr.obj q p _ hp hσ).1;obtain ⟨hl,j,e,f1,f2,f3,f4⟩:=g9 0 x rfl;have hfind:ents.find? (fun e'=>e'.born == e.born)=some e:=by
    rw [<- Array.find?_toList];have hj:ents.toList[j]? = some e:=sp_ f1;obtain ⟨hlt,hje⟩:=n_1.1 hj;rw [List.find?_eq_some_iff_getElem];refine ⟨si_,j,hlt,hje,fun k hk=>?_⟩;have hne:ents.toList[k].born≠e.born:=fun hb=>by
     have:=g5 k j ents.toList[k] e si_ f1 hb;omega
    simpa using hne
   have hg1:(getObj p.block).run C.P w = .ok (.mapIter (some mb) clock seen last) w:=by simp [getObj,Sem.run,g1]
   refine ⟨.tuple #[e.key,e.val],?_,.tup rfl fun i c hi=>?_⟩
   ·simp [execOp,ho,hv,Instr.entry,hg1,f2,L5 g3,hl,hfind]
   ·rcases i with _ | _ | i
    ·simp at hi;subst hi;exact f3
    ·simp at hi;subst hi;exact f4
    ·simp at hi
end
structure T6 {α:Type} [DecidableEq α] (P:Program) (kt:TypeId) (kc:α->CV) (kv:α->Value):Prop where
 rv:∀ M w a v,RV M w (kc a) v->v=kv a
 rv':∀ M w a,RV M w (kc a) (kv a)
 check:∀ b a w,(Instr.checkKey b 10000 kt (kv a)).run P w = .ok () w
 bits:∀ a,Instr.sameBits 10000 (kv a) (kv a)=true
 none:∀ (a:α) (l:List α) (ents:List MapEntry),ents.length=l.length->(∀ (i:Nat) (x:α),l[i]? = some x->∃ e,ents[i]? = some e/\e.key=kv x)->a∉l->∀ w,(Instr.findKey kt (kv a) ents).run P w = .ok none w
 some:∀ (a:α) (l:List α) (ents:List MapEntry),ents.length=l.length->(∀ (i:Nat) (x:α),l[i]? = some x->∃ e,ents[i]? = some e/\e.key=kv x)->∀ (i:Nat) (e:MapEntry),l[i]? = some a->(∀ j,j < i->l[j]?≠some a)->ents[i]? = some e->∀ w,(Instr.findKey kt (kv a) ents).run P w = .ok (some (i,e.val)) w
section
variable [DecidableEq α] {kc:α->CV} {kv:α->Value}
theorem a5l {d:TypeDesc} (hs:∀ a b,Instr.sameNow d (kv a) (kv b)=some (decide (a=b))) (a:α):∀ (l:List α) (ents:List MapEntry) (n:Nat),ents.length=l.length->(∀ (i:Nat) (x:α),l[i]? = some x->∃ e,ents[i]? = some e/\e.key=kv x) ->
 (a∉l->Instr.findNow d (kv a) ents n=some none)/\∀ (i:Nat) (e:MapEntry),l[i]? = some a->(∀ j,j < i->l[j]?≠some a)->ents[i]? = some e->Instr.findNow d (kv a) ents n=some (some (n+i,e.val))
 | [],[],n,_,_=>⟨fun _=>rfl,fun i e h=>by simp at h⟩
 | [],_::_,_,h,_=>by simp at h
 | _::_,[],_,h,_=>by simp at h
 | x::l,e0::ents,n,hl,hh=>by
  obtain ⟨e',he,hk⟩:=hh 0 x rfl;simp at he;subst he;obtain ⟨ih1,ih2⟩:=a5l hs a l ents (n+1) (sp_ hl) fun i y hi=>hh (i+1) y (sp_ hi);by_cases hax:a=x
  ·subst hax;refine ⟨fun h=>absurd si_ h,fun i e hi hmin he=>?_⟩
   rcases i with _ | i
   ·simp at he;subst he;simp [Instr.findNow,hk,hs]
   ·exact absurd rfl (hmin 0 om_)
  ·have step:Instr.findNow d (kv a) (e0::ents) n=Instr.findNow d (kv a) ents (n+1):=by simp [Instr.findNow,hk,hs,hax]
   refine ⟨fun h=>by rw [step];exact ih1 (fun hm=>h (by simp [hm])),fun i e hi hmin he=>?_⟩
   rcases i with _ | i
   ·simp at hi;exact absurd hi.symm hax
   ·rw [step,ih2 i e (sp_ hi) (fun j hj=>by simpa using hmin (j+1) om_) (sp_ he)]
    congr 3;omega
theorem a97 {d:TypeDesc} (hrv:∀ M w a v,RV M w (kc a) v->v=kv a) (hrv':∀ M w a,RV M w (kc a) (kv a)) (hu:∀ w,(underlying kt).run P w = .ok d w) (hs:∀ a b,Instr.sameNow d (kv a) (kv b)=some (decide (a=b)))
 (hc:∀ b a w,(Instr.checkKey b 10000 kt (kv a)).run P w = .ok () w) (hb:∀ a,Instr.sameBits 10000 (kv a) (kv a)=true):T6 P kt kc kv where
 rv:=hrv
 rv':=hrv'
 check:=hc
 bits:=hb
 none a l ents h1 h2 h3 w:=by simp [Instr.findKey,hu,(a5l hs a l ents 0 h1 h2).1 h3]
 some a l ents h1 h2 i e h3 h4 h5 w:=by
  have:=(a5l hs a l ents 0 h1 h2).2 i e h3 h4 h5;simp [Instr.findKey,hu,this]
theorem a5G (heq:∀ a b w,(Op.equal kt (kv a) (kv b)).run P w = .ok (decide (a=b)) w) (a:α):∀ (l:List α) (ents:List MapEntry) (n:Nat),ents.length=l.length->(∀ (i:Nat) (x:α),l[i]? = some x->∃ e,ents[i]? = some e/\e.key=kv x) ->
 (a∉l->∀ w,(Instr.findAsking kt (kv a) ents n).run P w = .ok none w)/\∀ (i:Nat) (e:MapEntry),l[i]? = some a->(∀ j,j < i->l[j]?≠some a)->ents[i]? = some e->∀ w,(Instr.findAsking kt (kv a) ents n).run P w = .ok (some (n+i,e.val)) w
 | [],[],n,_,_=>⟨fun _ w=>by simp [Instr.findAsking],fun i e h=>by simp at h⟩
 | [],_::_,_,h,_=>by simp at h
 | _::_,[],_,h,_=>by simp at h
 | x::l,e0::ents,n,hl,hh=>by
  obtain ⟨e',he,hk⟩:=hh 0 x rfl;simp at he;subst he;obtain ⟨ih1,ih2⟩:=a5G heq a l ents (n+1) (sp_ hl) fun i y hi=>hh (i+1) y (sp_ hi);by_cases hax:a=x
  ·subst hax;refine ⟨fun h=>absurd si_ h,fun i e hi hmin he w=>?_⟩
   rcases i with _ | i
   ·simp at he;subst he;simp [Instr.findAsking,hk,heq]
   ·exact absurd rfl (hmin 0 om_)
  ·have step:∀ w,(Instr.findAsking kt (kv a) (e0::ents) n).run P w=(Instr.findAsking kt (kv a) ents (n+1)).run P w:=fun w=>by simp [Instr.findAsking,hk,heq,hax]
   refine ⟨fun h w=>by rw [step];exact ih1 (fun hm=>h (by simp [hm])) w,fun i e hi hmin he w=>?_⟩
   rcases i with _ | i
   ·simp at hi;exact absurd hi.symm hax
   ·rw [step,ih2 i e (sp_ hi) (fun j hj=>by simpa using hmin (j+1) om_) (sp_ he)]
    congr 3;omega
theorem c55.find (hK:c55 P kt kc kv):T6 P kt kc kv where
 rv:=hK.rv
 rv':=hK.rv'
 check:=hK.check
 bits:=hK.bits
 none a l ents h1 h2 h3 w:=by
  obtain ⟨d,hd,hs⟩:=hK.now;cases ents with
  | nil=>simp [Instr.findKey,hd,Instr.findNow]
  | cons e ents =>
   cases l with
   | nil=>simp at h1
   | cons x l =>
    obtain ⟨e',he,hk⟩:=h2 0 x rfl;simp at he;subst he;have hn:Instr.findNow d (kv a) (e::ents) 0 = .none:=by simp [Instr.findNow,hk,hs]
    simp [Instr.findKey,hd,hn,(a5G hK.eq a (x::l) (e::ents) 0 h1 h2).1 h3]
 some a l ents h1 h2 i e h3 h4 h5 w:=by
  obtain ⟨d,hd,hs⟩:=hK.now;cases ents with
  | nil=>simp at h5
  | cons e0 ents =>
   cases l with
   | nil=>simp at h1
   | cons x l =>
    obtain ⟨e',he,hk⟩:=h2 0 x rfl;simp at he;subst he;have hn:Instr.findNow d (kv a) (e0::ents) 0 = .none:=by simp [Instr.findNow,hk,hs]
    have:=(a5G hK.eq a (x::l) (e0::ents) 0 h1 h2).2 i e h3 h4 h5 w;simp [Instr.findKey,hd,hn,this]
end
theorem c84 (k:IntKind) (hu:∀ w,(underlying kt).run P w = .ok (.int k) w):T6 (α:=Int) P kt (fun a=>.val (.int k a)) (fun a=>.int k a) :=
 a97 (fun _ _ _ _ h=>r2 h) (fun _ _ _=>.val _) hu (fun a b=>by simp [Instr.sameNow];rfl)
  (fun b a w=>by
   have:∀ n,(Instr.checkKey b (n+1) kt (.int k a)).run P w = .ok () w:=fun n=>by simp [Instr.checkKey,hu]
   exact this 9999)
  (fun a=>by
   have:∀ n,Instr.sameBits (n+1) (.int k a) (.int k a)=true:=fun n=>by simp [Instr.sameBits]
   exact this 9999)
theorem b5U (a b:Str):(str a == str b)=decide (a=b):=by
 have h:(str a == str b)=((str a).data == (str b).data):=rfl;rw [h];by_cases e:a=b
 ·subst e;simp
 ·have:¬ (str a).data=(str b).data:=fun h'=>e (by simpa [str] using h');simp [e,this]
theorem d7c (hu:∀ w,(underlying kt).run P w = .ok .string w):T6 (α:=Str) P kt sv (fun a=>.string (str a)) :=
 a97 (fun _ _ _ _ h=>r2 h) (fun _ _ _=>.val _) hu (fun a b=>by
  simp only [Instr.sameNow];rw [b5U])
  (fun b a w=>by
   have:∀ n,(Instr.checkKey b (n+1) kt (.string (str a))).run P w = .ok () w:=fun n=>by simp [Instr.checkKey,hu]
   exact this 9999)
  (fun a=>by
   have:∀ n,Instr.sameBits (n+1) (.string (str a)) (.string (str a))=true:=fun n=>by simp [Instr.sameBits,b5U]
   exact this 9999)
def gm {α β:Type} (kc:α->CV) (vc:β->CV) (l:List (α × β)):List (CV × CV):=l.map fun x=>(kc x.1,vc x.2)
def glk {α β:Type} [DecidableEq α]:List (α × β)->α->Option β
 | [],_=>none
 | (b,c)::l,a=>if a=b then some c else glk l a
def X6 {α β:Type} [DecidableEq α]:List (α × β)->α->β->List (α × β)
 | [],a,c=>[(a,c)]
 | (b,d)::l,a,c=>if a=b then (b,c)::l else (b,d)::X6 l a c
theorem b6c [DecidableEq α] (l:List (α × Int)) (a:α):((glk l a).map fun v:Int=>CV.val (.int .i64 v)).getD (H9 (.int .i64 0)) = .val (.int .i64 ((glk l a).getD 0)):=by cases glk l a <;> rfl
theorem b8p [DecidableEq α] {l:List (α × β)}:glk l a=none↔a∉l.map (·.1):=by
 induction l with
 | nil=>simp [glk]
 | cons x l ih =>
  obtain ⟨b,c⟩:=x;by_cases h:a=b
  ·simp [glk,h]
  ·simp [glk,h,ih]
theorem b03 {α β:Type} [DecidableEq α]:∀ {l:List (α × β)} {a:α} {c:β},glk l a=some c->∃ i:Nat,l[i]? = some (a,c)/\∀ j,j < i->(l.map (·.1))[j]?≠some a
 | [],_,_,h=>by cases h
 | (b,d)::l,a,c,h=>by
  by_cases hab:a=b
  ·rw [glk,if_pos hab] at h;injection h with h
   subst h hab;exact ⟨0,rfl,fun j hj=>by omega⟩
  ·rw [glk,if_neg hab] at h;obtain ⟨i,h1,h2⟩:=b03 h;refine ⟨i+1,sp_ h1,fun j hj=>?_⟩
   rcases j with _ | j
   ·simpa using fun e=>hab e.symm
   ·simpa using h2 j om_
theorem c5d [DecidableEq α] {l:List (α × β)} {c:β} (h:glk l a=none):X6 l a c=l++[(a,c)]:=by
 induction l with
 | nil=>rfl
 | cons x l ih =>
  obtain ⟨b,d⟩:=x;by_cases hab:a=b
  ·rw [glk,if_pos hab] at h;cases h
  ·rw [glk,if_neg hab] at h;rw [X6,if_neg hab,ih h];rfl
theorem b3X {α β:Type} [DecidableEq α] {c d:β} {a:α}:∀ {l:List (α × β)} {i:Nat},l[i]? = some (a,d)->(∀ j,j < i->(l.map (·.1))[j]?≠some a)->X6 l a c=l.set i (a,c)
 | [],i,h,_=>by simp at h
 | (b,e)::l,i,h,hm=>by
  rcases i with _ | i
  ·simp at h;rw [X6,if_pos h.1.symm,h.1];rfl
  ·have hab:¬ a=b:=fun e=>hm 0 om_ a28;rw [X6,if_neg hab,b3X (sp_ h) (fun j hj=>by simpa using hm (j+1) om_)];rfl
theorem N7 [DecidableEq α] (l:List (α × β)) (a b:α) (c:β):glk (X6 l a c) b=if b=a then some c else glk l b:=by
 induction l with
 | nil=>rfl
 | cons x l ih =>
  obtain ⟨k,d⟩:=x;by_cases hak:a=k
  ·subst hak;rw [X6,if_pos rfl,glk,glk];by_cases h:b=a <;> simp [h]
  ·rw [X6,if_neg hak,glk,glk,ih];by_cases h:b=k
   ·subst h;rw [if_pos rfl,if_pos rfl,if_neg (fun e=>hak e.symm)]
   ·rw [if_neg h,if_neg h]
section
variable [DecidableEq α] {kc:α->CV} {kv:α->Value} {vc:β->CV}
theorem c6H (hK:T6 C.P kt kc kv) {l:List (α × β)} (h:O5 M w p (.map (gm kc vc l))) :
 ∃ ents clock,w.heap[p.block]? = some (.map ents clock)/\(ents.size=l.length/\b0P ents)/\(∀ (i:Nat) (x:α),(l.map (·.1))[i]? = some x->∃ e,ents.toList[i]? = some e/\e.key=kv x)/\∀ (i:Nat) (x:α × β),l[i]? = some x->∃ e,ents[i]? = some e/\e.key=kv x.1/\RV M w (vc x.2) e.val/\e.born < clock:=by
 obtain ⟨ents,clock,h1,h2,h3⟩:=h;have key:∀ (i:Nat) (x:α × β),l[i]? = some x->∃ e,ents[i]? = some e/\e.key=kv x.1/\RV M w (vc x.2) e.val/\e.born < clock:=fun i x hi=>by
  obtain ⟨e,he,hk,hv,hb⟩:=h3 i (kc x.1,vc x.2) (by simp [gm,hi]);exact ⟨e,he,hK.rv _ _ _ _ hk,hv,hb⟩
 refine ⟨ents,clock,h1,⟨by simpa [gm] using h2.1,h2.2⟩,fun i x hi=>?_,key⟩;rw [O9,O3] at hi;obtain ⟨y,hy,rfl⟩:=hi;obtain ⟨e,he,hk,_⟩:=key i y hy;exact ⟨e,sp_ he,hk⟩
theorem a8e (hK:T6 C.P kt kc kv) {l:List (α × β)} {ok:Bool} (h:O5 M w p (.map (gm kc vc l))) (hu:∀ w,(underlying t).run C.P w = .ok (.map kt et) w) (hz:∀ w,(zeroValue et).run C.P w = .ok z w) :
 match glk l a with
 | none=>(Instr.lookup t (.map (some p.block)) (kv a) ok).run C.P w = .ok (if ok=true then .tuple #[z,.bool false] else z) w
 | some c=>∃ v,RV M w (vc c) v/\(Instr.lookup t (.map (some p.block)) (kv a) ok).run C.P w = .ok (if ok=true then .tuple #[v,.bool true] else v) w:=by
 obtain ⟨ents,clock,g1,g2,g3,g4⟩:=c6H hK h;have hlen:ents.toList.length=(l.map (·.1)).length:=sp_ g2.1;cases hlk:glk l a with
 | none =>
  have hf:=hK.none a (l.map (·.1)) ents.toList hlen g3 (b8p.1 hlk) w;cases ok <;> simp [Instr.lookup,hu,L5 g1,hK.check,hf,hz]
 | some c =>
  obtain ⟨i,h1,h2⟩:=b03 hlk;obtain ⟨e,e1,_,e3,_⟩:=g4 i (a,c) h1;have hf:=hK.some a (l.map (·.1)) ents.toList hlen g3 i e (by simp [h1]) h2 (sp_ e1) w;exact ⟨e.val,e3,by cases ok <;> simp [Instr.lookup,hu,L5 g1,hK.check,hf]⟩
theorem R2 (hK:T6 C.P kt kc kv) {l:List (α × β)} (ho:o.op = .lookup t m kx false) (hm:E.valid m) (hk:E.valid kx) (em:E.val C m = .map q) (ek:E.val C kx=kc a)
 (hu:∀ w,(underlying t).run C.P w = .ok (.map kt et) w) (hz:∀ w,(zeroValue et).run C.P w = .ok z w) (hz1:M4 z=true) (hσ:σ[q]? = some (.map (gm kc vc l))) (hc:((glk l a).map vc).getD (H9 z)=c):o4 C σ E o c :=
 i8 fun M w ρ hr h=>by
  have h1:=h m x9 hm;have h2:=h kx x9 hk;rw [em] at h1;rw [ek] at h2;have h2':=hK.rv _ _ _ _ h2;generalize hv:ρ m=v at h1;cases h1 with
  | map hp =>
   rename_i p;have hl:=a8e hK (t:=t) (a:=a) (ok:=false) (hr.obj q p _ hp hσ).1 hu hz;subst hc;cases hlk:glk l a with
   | none =>
    rw [hlk] at hl;exact ⟨z,by simp [execOp,ho,hv,h2',hl],Y0 hz1⟩
   | some c =>
    rw [hlk] at hl;obtain ⟨u,f1,f2⟩:=hl;exact ⟨u,by simp [execOp,ho,hv,h2',f2],f1⟩
theorem a3K (hK:T6 C.P kt kc kv) {l:List (α × β)} (ho:o.op = .lookup t m kx true) (hm:E.valid m) (hk:E.valid kx) (em:E.val C m = .map q) (ek:E.val C kx=kc a)
 (hu:∀ w,(underlying t).run C.P w = .ok (.map kt et) w) (hz:∀ w,(zeroValue et).run C.P w = .ok z w) (hz1:M4 z=true) (hσ:σ[q]? = some (.map (gm kc vc l))) (hc:((glk l a).map vc).getD (H9 z)=c):o4 C σ E o (.tup [c,.val (.bool (glk l a).isSome)]) :=
 i8 fun M w ρ hr h=>by
  have h1:=h m x9 hm;have h2:=h kx x9 hk;rw [em] at h1;rw [ek] at h2;have h2':=hK.rv _ _ _ _ h2;have tup:∀ {c:CV} {v:Value} {b:Bool},RV M w c v->RV M w (.tup [c,.val (.bool b)]) (.tuple #[v,.bool b]):=fun {c v b} hcv=>.tup rfl fun i x hi=>by
   rcases i with _ | _ | i
   ·simp at hi;subst hi;exact hcv
   ·simp at hi;subst hi;exact .val _
   ·simp at hi
  generalize hv:ρ m=v at h1;cases h1 with
  | map hp =>
   rename_i p;have hl:=a8e hK (t:=t) (a:=a) (ok:=true) (hr.obj q p _ hp hσ).1 hu hz;subst hc;cases hlk:glk l a with
   | none =>
    rw [hlk] at hl;exact ⟨.tuple #[z,.bool false],by simp [execOp,ho,hv,h2',hl],tup (Y0 hz1)⟩
   | some c =>
    rw [hlk] at hl;obtain ⟨u,f1,f2⟩:=hl;exact ⟨.tuple #[u,.bool true],by simp [execOp,ho,hv,h2',f2],tup f1⟩
theorem b24 (hK:T6 C.P kt kc kv) {l:List (α × β)} {b:β} (hr:Rel C M σ w) (hp:M.pl[q]? = some p) (hσ:σ[q]? = some (.map (gm kc vc l))) (hv:RV M w (vc b) v)
 (hu:∀ w,(underlying t).run C.P w = .ok (.map kt et) w):∃ w',(Instr.mapUpdate t (.map (some p.block)) (kv a) v).run C.P w = .ok () w'/\Ext M w M w'/\Rel C M (σ.set q (.map (gm kc vc (X6 l a b)))) w':=by
 obtain ⟨ents,clock,g1,g2,g3,g4⟩:=c6H hK (hr.obj q p _ hp hσ).1;have hlen:ents.toList.length=(l.map (·.1)).length:=sp_ g2.1;have hall:∀ (i:Nat) (e:MapEntry),ents[i]? = some e->e.born < clock:=fun i e he=>by
  have hlt:i < l.length:=by rw [<- g2.1];exact (T9.1 he).1
  obtain ⟨e',h1,_,_,h4⟩:=g4 i l[i] (by simp [hlt]);rw [he] at h1;injection h1 with h1
  rw [h1];exact h4
 cases hlk:glk l a with
 | none =>
  have hf:=hK.none a (l.map (·.1)) ents.toList hlen g3 (b8p.1 hlk) w;refine ⟨World.putObj w p.block (.map (ents.push { key:=kv a,val:=v,born:=clock}) (clock+1)),by simp [Instr.mapUpdate,hu,L5 g1,hK.check,hf,a5S _ g1],?_⟩;rw [c5d hlk];exact hr.setObj (es':=gm kc vc (l++[(a,b)])) hp hσ (by simp [gm,g2.1]) (g2.2.push hall rfl) (fun i x hi=>by
   obtain ⟨y,hy,rfl⟩:∃ y,(l++[(a,b)])[i]? = some y/\(kc y.1,vc y.2)=x:=by unfold gm at hi;rwa [O9,O3] at hi
   rw [a6i] at hy;split at hy
   ·obtain ⟨e,q1,q2,q3,q4⟩:=g4 i y hy;have hlt:i < ents.size:=(T9.1 q1).1;exact ⟨e,by rw [b6Y,if_neg om_];exact q1,by rw [q2];exact hK.rv' _ _ _,q3,om_⟩
   ·rename_i hge;have hlt:=(n_1.1 hy).1;simp at hlt;have hi0:i=l.length:=by omega
    subst hi0;simp at hy;subst hy;exact ⟨_,by rw [b6Y,if_pos om_],hK.rv' _ _ _,hv,si_⟩)
 | some c =>
  obtain ⟨i,h1,h2⟩:=b03 hlk;obtain ⟨e,e1,e2,e3,e4⟩:=g4 i (a,c) h1;have hf:=hK.some a (l.map (·.1)) ents.toList hlen g3 i e (by simp [h1]) h2 (sp_ e1) w;refine ⟨World.putObj w p.block (.map (ents.modify i fun e=>{ e with key:=kv a,val:=v}) clock),by simp [Instr.mapUpdate,hu,L5 g1,hK.check,hf,a5S _ g1,Instr.keyThatStays,e1,e2,hK.bits],?_⟩;rw [b3X h1 h2];exact hr.setObj (es':=gm kc vc (l.set i (a,b))) hp hσ (by simp [gm,g2.1]) (g2.2.modify fun _=>rfl) (fun j x hj=>by
   obtain ⟨y,hy,rfl⟩:∃ y,(l.set i (a,b))[j]? = some y/\(kc y.1,vc y.2)=x:=by unfold gm at hj;rwa [O9,O3] at hj
   rw [b2C] at hy;split at hy
   ·rename_i hij;subst hij;split at hy
    ·injection hy with hy
     subst hy;exact ⟨{ e with key:=kv a,val:=v},by rw [c5M,if_pos rfl,e1];rfl,hK.rv' _ _ _,hv,e4⟩
    ·cases hy
   ·rename_i hij;obtain ⟨e',q1,q2,q3,q4⟩:=g4 j y hy;exact ⟨e',by rw [c5M,if_neg hij];exact q1,by rw [q2];exact hK.rv' _ _ _,q3,q4⟩)
theorem l8 (hK:T6 C.P kt kc kv) {vx:Operand} {l:List (α × β)} {b:β} (ho:o.op = .mapUpdate t m kx vx\/o.op = .insert t m kx vx) (hm:E.valid m) (hk:E.valid kx) (hv:E.valid vx) (em:E.val C m = .map q) (ek:E.val C kx=kc a) (ev:E.val C vx=vc b)
 (hu:∀ w,(underlying t).run C.P w = .ok (.map kt et) w) (hσ:σ[q]? = some (.map (gm kc vc l))) (hQ:K (.ret (.val undef)) (σ.set q (.map (gm kc vc (X6 l a b))))):K1 C σ E o K:=fun M w ρ hr h=>by
 have hops:m∈o.op.operands/\kx∈o.op.operands/\vx∈o.op.operands:=by rcases ho with ho | ho <;> simp [ho,Op.operands]
 have h1:=h m hops.1 hm;have h2:=h kx hops.2.1 hk;have h3:=h vx hops.2.2 hv;rw [em] at h1;rw [ek] at h2;rw [ev] at h3;have h2':=hK.rv _ _ _ _ h2;generalize hum:ρ m=um at h1;cases h1 with
 | map hp =>
  rename_i p;obtain ⟨w',hrun,hx,hr'⟩:=b24 hK (a:=a) (b:=b) hr hp hσ h3 hu;have hex:(execOp ρ o).run C.P w = .ok .skip w':=by
   rcases ho with ho | ho <;> simp [execOp,ho,hum,h2',hrun]
  rw [hex];exact ⟨.val undef,_,M,hx,hr',.val _,hQ⟩
end
theorem a8z (w:World) (arr:Array Value) (e:TypeId) (n:Nat):(w.alloc (.cells arr e)).freeze ⟨w.heap.size,n,none⟩ 1=w.alloc (.cells arr e (n,n+1)):=by
 unfold World.freeze World.alloc;rw [if_neg om_]
 congr 1
 apply Array.ext
 ·simp
 ·intro i h1 h2;simp at h1 h2;rw [Array.getElem_modify];by_cases hi:w.heap.size=i
  ·subst hi;simp
  ·rw [if_neg hi];rw [Array.getElem_push_lt om_,Array.getElem_push_lt om_]
section
theorem d4l (ho:o.op = .convert src dst x) (hx:E.valid x) (ex:E.val C x=sv l) (hs:∀ w,(underlying src).run C.P w = .ok .string w) (hd:∀ w,(underlying dst).run C.P w = .ok (.slice e) w) (he:∀ w,(underlying e).run C.P w = .ok (.int .u8) w) (hl:l.length<=1000000000000):o4 C σ E o (.list (l.map bcv) true none):=fun M w ρ hr h=>by
 have h1:=h x x9 hx;rw [ex] at h1;have hv:=r2 h1;obtain ⟨hrd,hxd⟩:=hr.drew;obtain ⟨c,hc1,hc2,hch⟩:∃ c,l.length<=c/\c<=9223372036854775807/\(choose (.appendCap l.length 0 e)).run C.P w = .ok c w.drew:=by
  refine ⟨(Question.appendCap l.length 0 e).cut (w.tape w.drawn (.appendCap l.length 0 e)),by simp [Question.cut],?_,b2z rfl⟩;simp only [Question.cut];have:w.tape w.drawn (.appendCap l.length 0 e)%(2^63 - l.length) < 2^63 - l.length:=a6o _ om_;omega
 generalize hA:(((str l).data.map fun b:UInt8=>Value.int .u8 (b.toNat:Int))++Array.replicate (c - l.length) (Value.int .u8 0))=A;have hAs:A.size=c:=by
  rw [<- hA];simp [str];omega
 have hrun:(execOp ρ o).run C.P w = .ok (.value (.slice (some ⟨w.heap.size,0,none⟩) l.length c)) (w.drew.alloc (.cells A e (c,c+1))):=by
  have hsh:((w.drew.alloc (.cells A e)).shape? w.heap.size)=some (e,c):=by
   have:=A3 w.drew (.cells A e);simp only [World.shape?];rw [show w.heap.size=w.drew.heap.size from rfl,this];simp [hAs]
  have hm:(markStringish ⟨w.heap.size,0,none⟩).run C.P (w.drew.alloc (.cells A e)) = .ok () (w.drew.alloc (.cells A e (c,c+1))):=by
   have:=a8z w.drew A e c;simp only [markStringish,shape,freeze,Sem.run_bind];simp only [Sem.run,hsh,Result.andThen_ok];rw [show w.heap.size=w.drew.heap.size from rfl,this]
  simp only [execOp,ho,hv,convert,Sem.run_bind,hs,hd,Result.andThen_ok,he,Conv.stringToBytes,a4Y,hch,newRow,hA];simp only [newObj,Sem.run,Result.andThen_ok];rw [show (w.drew.heap.size)=w.heap.size from rfl];simp only [Sem.run_pure,Result.andThen_ok];have e0:({ heap:=w.drew.heap.push (.cells A e),tape:=w.drew.tape,drawn:=w.drew.drawn,os:=w.drew.os,output:=w.drew.output}:World)=w.drew.alloc (.cells A e):=rfl;rw [e0,hm];simp only [Result.andThen_ok]
 rw [hrun];obtain ⟨hx2,hr2⟩:=hrd.allocFull (.cells A e (c,c+1));have hget:∀ (i:Nat) (b:UInt8),l[i]? = some b->A[i]? = some (.int .u8 b.toNat):=fun i b hb=>by
  have hlt:=(n_1.1 hb).1;rw [<- hA,b6N (by simp [str];exact hlt)];simp [str,hb]
 have hlist:RV (M.settle w.drew.heap.size) (w.drew.alloc (.cells A e (c,c+1))) (.list (l.map bcv) true none) (.slice (some ⟨w.drew.heap.size,0,none⟩) (l.map bcv).length c):=by
  refine .list (b:=w.drew.heap.size) (off:=0) (s:=1) (fun i _=>A.getD i undef) (sp_ hc1) (by unfold maxLen;omega) rfl (fun h=>by cases h) a1u (fun r hr=>?_) (fun r hr c hc=>?_) (fun i j r c' hi hj=>?_) (fun i j r c' hi hj=>?_) (fun k hk=>by cases hk)
  ·obtain ⟨b,_,rfl⟩:=K5.1 hr;rfl
  ·obtain ⟨b,_,rfl⟩:=K5.1 hr;simp [bcv] at hc;subst hc;rfl
  ·rw [O9,O3] at hi;obtain ⟨b,hb,rfl⟩:=hi;have hj0:j=0:=by
    have:=(n_1.1 hj).1;simp [bcv] at this;exact this
   subst hj0;refine ⟨.inl (.inr rfl),?_⟩;simp only [World.cell?,A3];have:=hget i b hb;simp [this]
  ·rw [O9,O3] at hi;obtain ⟨b,hb,rfl⟩:=hi;have hj0:j=0:=by
    have:=(n_1.1 hj).1;simp [bcv] at this;exact this
   subst hj0;simp [bcv] at hj;subst hj;have:=hget i b hb;rw [W4,this];exact .val _
 rw [a2O] at hlist;exact ⟨_,σ,_,hxd.trans hx2,hr2,hlist,rfl,rfl⟩
theorem a3l {f:Nat} {fs:Array Field} {fd:Field} (ho:o.op = .field t x f) (hx:E.valid x) (ex:E.val C x = .agg cells) (hu:∀ w,(underlying t).run C.P w = .ok (.struct fs) w) (hf:fs[f]? = some fd) (ha:∀ w,(isAgg fd.type).run C.P w = .ok false w) (hc:cells[fd.offset]? = some c):o4 C σ E o c :=
 i8 fun M w ρ hr h=>by
  have h1:=h x x9 hx;rw [ex] at h1;generalize hv:ρ x=v at h1;cases h1 with
  | agg g1 g2 g3 =>
   rename_i vs;have hlt:fd.offset < vs.size:=by rw [g1];exact (n_1.1 hc).1
   refine ⟨vs.getD fd.offset undef,?_,g3 _ _ hc⟩;simp [execOp,ho,hv,Instr.field,hu,hf,part,ha,asAgg,hlt]
theorem d1D (ho:o.op = .panic x) (hx:E.valid x) (ex:E.val C x=c) (hn:∀ M w v,RV M w c v->∃ t u,v = .iface t u) (hk:K (.pan c) σ):K1 C σ E o K:=fun M w ρ hr h=>by
 have h1:=h x x9 hx;rw [ex] at h1;obtain ⟨t,u,hv⟩:=hn M w _ h1;have hrun:(execOp ρ o).run C.P w = .halt (.panic (ρ x)) w:=by
  simp [execOp,ho,hv,Instr.panic]
 rw [hrun];exact ⟨c,ρ x,σ,M,rfl,Ext.refl M w,hr,h1,hk⟩
end
inductive Q5 (R:Nat->Nat->Prop):CV->CV->Prop where
 | val (v:Value):Q5 R (.val v) (.val v)
 | agg {cs cs':List CV}:cs.length=cs'.length->(∀ (i:Nat) (c c':CV),cs[i]? = some c->cs'[i]? = some c'->Q5 R c c')->Q5 R (.agg cs) (.agg cs')
 | tup {cs cs':List CV}:cs.length=cs'.length->(∀ (i:Nat) (c c':CV),cs[i]? = some c->cs'[i]? = some c'->Q5 R c c')->Q5 R (.tup cs) (.tup cs')
 | clo {f:FuncId} {cs cs':List CV}:cs.length=cs'.length->(∀ (i:Nat) (c c':CV),cs[i]? = some c->cs'[i]? = some c'->Q5 R c c')->Q5 R (.clo f cs) (.clo f cs')
 | list {rows rows':List (List CV)} {nn:Bool} {tok tok':Option Nat}:rows.length=rows'.length->(∀ (i:Nat) (r r':List CV),rows[i]? = some r->rows'[i]? = some r'->r.length=r'.length) ->
  (∀ (i j:Nat) (r r':List CV) (c c':CV),rows[i]? = some r->rows'[i]? = some r'->r[j]? = some c->r'[j]? = some c'->Q5 R c c')->((tok=none/\tok'=none)\/∃ k k',tok=some k/\tok'=some k'/\R k k')->Q5 R (.list rows nn tok) (.list rows' nn tok')
 | ptr {k k' off:Nat}:R k k'->Q5 R (.ptr k off) (.ptr k' off)
 | cptr {cells cells':List CV}:cells.length=cells'.length->(∀ (i:Nat) (c c':CV),cells[i]? = some c->cells'[i]? = some c'->Q5 R c c')->Q5 R (.cptr cells) (.cptr cells')
 | eptr {k k' i off:Nat}:R k k'->Q5 R (.eptr k i off) (.eptr k' i off)
 | vec {k k' off len:Nat}:R k k'->Q5 R (.vec k off len) (.vec k' off len)
 | map {k k':Nat}:R k k'->Q5 R (.map k) (.map k')
theorem Q5.one (h:Q5 R c c'):c'.one=c.one:=by cases h <;> rfl
theorem Q5.symm (hR:∀ k k',R k k'->R' k' k) (h:Q5 R c c'):Q5 R' c' c:=by
 induction h with
 | val v=>exact .val v
 | agg h1 _ ih=>exact .agg h1.symm fun i c c' h h'=>ih i c' c h' h
 | tup h1 _ ih=>exact .tup h1.symm fun i c c' h h'=>ih i c' c h' h
 | clo h1 _ ih=>exact .clo h1.symm fun i c c' h h'=>ih i c' c h' h
 | list h1 h2 _ h4 ih=>exact .list h1.symm (fun i r r' h h'=>(h2 i r' r h' h).symm) (fun i j r r' c c' a b d e=>ih i j r' r c' c b a e d) (h4.imp (fun ⟨a,b⟩=>⟨b,a⟩) fun ⟨k,k',a,b,d⟩=>⟨k',k,b,a,hR _ _ d⟩)
 | ptr h=>exact .ptr (hR _ _ h)
 | cptr h1 _ ih=>exact .cptr h1.symm fun i c c' h h'=>ih i c' c h' h
 | eptr h=>exact .eptr (hR _ _ h)
 | vec h=>exact .vec (hR _ _ h)
 | map h=>exact .map (hR _ _ h)
theorem Q5.pure (h:r9 c):Q5 R c c:=by
 induction h with
 | val v=>exact .val v
 | agg _ ih =>
  refine .agg rfl fun i c c' h h'=>?_;rw [h] at h';injection h' with h';subst h'
  exact ih c (n_0 h)
 | tup _ ih =>
  refine .tup rfl fun i c c' h h'=>?_;rw [h] at h';injection h' with h';subst h'
  exact ih c (n_0 h)
 | clo _ ih =>
  refine .clo rfl fun i c c' h h'=>?_;rw [h] at h';injection h' with h';subst h'
  exact ih c (n_0 h)
 | list _ ih =>
  refine .list rfl (fun i r r' h h'=>?_) (fun i j r r' c c' h h' g g'=>?_) (.inl ⟨rfl,rfl⟩)
  ·rw [h] at h';injection h' with h';subst h';rfl
  ·rw [h] at h';injection h' with h';subst h'
   rw [g] at g';injection g' with g';subst g'
   exact ih r (n_0 h) c (n_0 g)
theorem RV.renR {R:Nat->Nat->Prop} {M M':z6} {w:World} (hR:∀ (k k':Nat) (p:Pl),R k k'->M.pl[k]? = some p->M'.pl[k']? = some p) (hat:∀ b o,M.at b o->M'.at b o) {c:CV} {v:Value} (h:RV M w c v):∀ {c':CV},Q5 R c c'->RV M' w c' v:=by
 induction h with
 | val v=>intro c' hr;cases hr;exact .val v
 | agg h1 h2 _ ih =>
  intro c' hr;cases hr with
  | agg e1 e2 =>
   refine .agg (by rw [h1,e1]) (fun c hc=>?_) fun i c hi=>?_
   ·obtain ⟨i,hi⟩:=L3.1 hc;obtain ⟨y,hy⟩:=r4 e1 hi;rw [(e2 i y c hy hi).one];exact h2 y (n_0 hy)
   ·obtain ⟨y,hy⟩:=r4 e1 hi;exact ih i y hy (e2 i y c hy hi)
 | tup h1 _ ih =>
  intro c' hr;cases hr with
  | tup e1 e2 =>
   refine .tup (by rw [h1,e1]) fun i c hi=>?_;obtain ⟨y,hy⟩:=r4 e1 hi;exact ih i y hy (e2 i y c hy hi)
 | clo h1 _ ih =>
  intro c' hr;cases hr with
  | clo e1 e2 =>
   refine .clo (by rw [h1,e1]) fun i c hi=>?_;obtain ⟨y,hy⟩:=r4 e1 hi;exact ih i y hy (e2 i y c hy hi)
 | @list rows nn tok a cap b off s vals h1 h2 h3 h4 h5 h6 h7 h8 _ h10 ih =>
  intro c' hr;cases hr with
  | @list _ rows' _ _ tok' e1 e2 e3 e4 =>
   have hne:rows'≠[]->rows≠[]:=fun hn h0=>by
    rw [h0] at e1;exact hn (b69 e1.symm)
   have hrow:∀ {i:Nat} {r':List CV},rows'[i]? = some r'->∃ r,rows[i]? = some r:=fun hi=>r4 e1 hi;rw [e1];refine .list (s:=s) vals (by rw [<- e1];exact h1) h2 h3 h4 (fun hn=>h5 (hne hn)) (fun r' hr'=>?_) (fun r' hr' c' hc'=>?_) (fun i j r' c' hi hj=>?_) (fun i j r' c' hi hj=>?_) (fun k hk=>?_)
   ·obtain ⟨i,hi⟩:=L3.1 hr';obtain ⟨r,hr⟩:=hrow hi;rw [<- e2 i r r' hr hi];exact h6 r (n_0 hr)
   ·obtain ⟨i,hi⟩:=L3.1 hr';obtain ⟨r,hr⟩:=hrow hi;obtain ⟨j,hj⟩:=L3.1 hc';obtain ⟨c,hc⟩:=r4 (e2 i r r' hr hi) hj;rw [(e3 i j r r' c c' hr hi hc hj).one];exact h7 r (n_0 hr) c (n_0 hc)
   ·obtain ⟨r,hr⟩:=hrow hi;obtain ⟨c,hc⟩:=r4 (e2 i r r' hr hi) hj;have:=h8 i j r c hr hc;exact ⟨hat _ _ this.1,this.2⟩
   ·obtain ⟨r,hr⟩:=hrow hi;obtain ⟨c,hc⟩:=r4 (e2 i r r' hr hi) hj;exact ih i j r c hr hc (e3 i j r r' c c' hr hi hc hj)
   ·rcases e4 with ⟨_,e4⟩ | ⟨k0,k1,e5,e6,e7⟩
    ·rw [e4] at hk;cases hk
    ·rw [e6] at hk;injection hk with hk
     subst hk;obtain ⟨s',f1,f2,f3,f4⟩:=h10 k0 e5;exact ⟨s',hR _ _ _ e7 f1,f2,f3,fun hn=>f4 (hne hn)⟩
 | ptr hk=>intro c' hr;cases hr with | ptr e=>exact .ptr (hR _ _ _ e hk)
 | cptr vals h1 h2 _ ih =>
  intro c' hr;cases hr with
  | cptr e1 e2 =>
   refine .cptr vals (fun c hc=>?_) (fun j c hj=>?_) (fun j c hj=>?_)
   ·obtain ⟨i,hi⟩:=L3.1 hc;obtain ⟨y,hy⟩:=r4 e1 hi;rw [(e2 i y c hy hi).one];exact h1 y (n_0 hy)
   ·obtain ⟨y,hy⟩:=r4 e1 hj;exact ⟨hat _ _ (h2 j y hy).1,(h2 j y hy).2⟩
   ·obtain ⟨y,hy⟩:=r4 e1 hj;exact ih j y hy (e2 j y c hy hj)
 | eptr hk=>intro c' hr;cases hr with | eptr e=>exact .eptr (hR _ _ _ e hk)
 | vec hk h1 h2 h3=>intro c' hr;cases hr with | vec e=>exact .vec (hR _ _ _ e hk) h1 h2 h3
 | map hk=>intro c' hr;cases hr with | map e=>exact .map (hR _ _ _ e hk)
def a2h (R:Nat->Nat->Prop) (l l':List CV):Prop:=l.length=l'.length/\∀ (i:Nat) (c c':CV),l[i]? = some c->l'[i]? = some c'->Q5 R c c'
def c5E (R:Nat->Nat->Prop) (l l':List (CV × CV)):Prop:=l.length=l'.length/\∀ (i:Nat) (x x':CV × CV),l[i]? = some x->l'[i]? = some x'->Q5 R x.1 x'.1/\Q5 R x.2 x'.2
inductive J4 (R:Nat->Nat->Prop):b9->b9->Prop where
 | dead:J4 R .dead .dead
 | box {t0:Option TypeId} {l l':List CV}:a2h R l l'->J4 R (.boxT t0 l) (.boxT t0 l')
 | tip {t0:Option TypeId} (n:Nat):J4 R (.tipT t0 n) (.tipT t0 n)
 | vec {s:Nat} {rows rows':List (List CV)}:rows.length=rows'.length->(∀ (i:Nat) (r r':List CV),rows[i]? = some r->rows'[i]? = some r'->a2h R r r')->J4 R (.vec s rows) (.vec s rows')
 | map {es es':List (CV × CV)}:c5E R es es'->J4 R (.map es) (.map es')
 | iter {c c' l l':List (CV × CV)}:c5E R c c'->c5E R l l'->J4 R (.iter c l) (.iter c' l')
theorem J4.live {a:b9} (h:J4 R a b):b.live=a.live:=by cases h <;> rfl
theorem J4.symm (hR:∀ k k',R k k'->R' k' k) {a:b9} (h:J4 R a b):J4 R' b a:=by
 have hl:∀ {l l':List CV},a2h R l l'->a2h R' l' l:=fun h=>⟨h.1.symm,fun i c c' g g'=>(h.2 i c' c g' g).symm hR⟩;have he:∀ {l l':List (CV × CV)},c5E R l l'->c5E R' l' l:=fun h=>⟨h.1.symm,fun i c c' g g'=>⟨(h.2 i c' c g' g).1.symm hR,(h.2 i c' c g' g).2.symm hR⟩⟩;cases h with
 | dead=>exact .dead
 | box h=>exact .box (hl h)
 | tip n=>exact .tip n
 | vec h1 h2=>exact .vec h1.symm fun i r r' g g'=>hl (h2 i r' r g' g)
 | map h=>exact .map (he h)
 | iter h1 h2=>exact .iter (he h1) (he h2)
theorem O5.renR (hR:∀ (k k':Nat) (p:Pl),R k k'->M.pl[k]? = some p->M'.pl[k']? = some p) (hat:∀ b o,M.at b o->M'.at b o) (hfu:∀ b,M.full b->M'.full b) (hcl:∀ b o,M'.cell b o->M.cell b o) {a:b9} (h:O5 M w p a) (hr:J4 R a b):O5 M' w p b:=by
 cases hr with
 | dead=>trivial
 | box hl =>
  obtain ⟨arr,ty,e1,e2,e3,e4⟩:=h;refine ⟨arr,ty,e1,by rw [e2,hl.1],fun c hc=>?_,fun i c hi=>?_⟩
  ·obtain ⟨i,hi⟩:=L3.1 hc;obtain ⟨y,hy⟩:=r4 hl.1 hi;rw [(hl.2 i y c hy hi).one];exact e3 y (n_0 hy)
  ·obtain ⟨y,hy⟩:=r4 hl.1 hi;exact (e4 i y hy).renR hR hat (hl.2 i y c hy hi)
 | tip n =>
  obtain ⟨e1,e2,e3,e4⟩:=h;exact ⟨e1,e2,⟨fun o ho=>e3.1 o (hcl _ _ ho),e3.2⟩,e4⟩
 | vec h1 h2 =>
  obtain ⟨e0,e1,e2,e3,e4,arr,ty,e5,e6,e7⟩:=h;refine ⟨e0,by rw [<- h1];exact e1,e2,fun r hr=>?_,fun r hr c hc=>?_,arr,ty,e5,e6,fun i j r c hi hj=>?_⟩
  ·obtain ⟨i,hi⟩:=L3.1 hr;obtain ⟨y,hy⟩:=r4 h1 hi;rw [<- (h2 i y r hy hi).1];exact e3 y (n_0 hy)
  ·obtain ⟨i,hi⟩:=L3.1 hr;obtain ⟨y,hy⟩:=r4 h1 hi;obtain ⟨j,hj⟩:=L3.1 hc;obtain ⟨d,hd⟩:=r4 (h2 i y r hy hi).1 hj;rw [((h2 i y r hy hi).2 j d c hd hj).one];exact e4 y (n_0 hy) d (n_0 hd)
  ·obtain ⟨y,hy⟩:=r4 h1 hi;obtain ⟨d,hd⟩:=r4 (h2 i y r hy hi).1 hj;exact (e7 i j y d hy hd).renR hR hat ((h2 i y r hy hi).2 j d c hd hj)
 | map he =>
  obtain ⟨ents,clock,e1,e2,e3⟩:=h;refine ⟨ents,clock,e1,⟨by rw [e2.1,he.1],e2.2⟩,fun i x hi=>?_⟩;obtain ⟨y,hy⟩:=r4 he.1 hi;obtain ⟨e,g1,g2,g3,g4⟩:=e3 i y hy;exact ⟨e,g1,g2.renR hR hat (he.2 i y x hy hi).1,g3.renR hR hat (he.2 i y x hy hi).2,g4⟩
 | iter hc hl =>
  obtain ⟨mb,seen,last,ents,clock,e1,e2,e3,e4,e5,e6,e7,e8,e9⟩:=h;refine ⟨mb,seen,last,ents,clock,e1,hfu _ e2,e3,e4,e5,e6,by rw [e7,hl.1],fun i x hi=>?_,fun i x hi=>?_⟩
  ·obtain ⟨y,hy⟩:=r4 hl.1 hi;obtain ⟨e,g1,g2,g3⟩:=e8 i y hy;exact ⟨e,g1,g2.renR hR hat (hl.2 i y x hy hi).1,g3.renR hR hat (hl.2 i y x hy hi).2⟩
  ·obtain ⟨y,hy⟩:=r4 hc.1 hi;obtain ⟨hla,j,e,g0,g1,g2,g3⟩:=e9 i y hy;exact ⟨hla,j,e,g0,g1,g2.renR hR hat (hc.2 i y x hy hi).1,g3.renR hR hat (hc.2 i y x hy hi).2⟩
inductive a6X (R:Nat->Nat->Prop):X7->X7->Prop where
 | ret {c c':CV}:Q5 R c c'->a6X R (.ret c) (.ret c')
 | pan {c c':CV}:Q5 R c c'->a6X R (.pan c) (.pan c')
def a0l (sel:List Nat) (n:Nat) (i k:Nat):Prop:=sel[i]? = some k\/(sel.length<=i/\k=n+(i - sel.length))
theorem J5 (sel:List Nat) (hC:C.plain) (hlen:sel.length=obs.length) (hnd:∀ (i j k:Nat),sel[i]? = some k->sel[j]? = some k->i=j)
 (hobs:∀ (i k:Nat) (ob:b9),sel[i]? = some k->obs[i]? = some ob->∃ ob',σ[k]? = some ob'/\J4 (fun k i=>sel[i]? = some k) ob' ob) (hargs:a2h (fun k i=>sel[i]? = some k) args' args)
 {K:X7->List b9->Prop} {K':X7->List b9->Prop} (h:b8 C f args obs K)
 (hK:∀ r τ,K r τ->obs.length<=τ.length/\∃ r' τ',a6X (a0l sel σ.length) r r'/\τ'.length=σ.length+(τ.length - obs.length)/\(∀ k,k < σ.length->k∉sel->τ'[k]? = σ[k]?)/\(∀ (i k:Nat) (x:b9),a0l sel σ.length i k->τ[i]? = some x->∃ x',τ'[k]? = some x'/\J4 (a0l sel σ.length) x x')/\K' r' τ') :
 b8 C f args' σ K':=fun M w vs hr hn hx=>by
 have hselk:∀ {i k:Nat},sel[i]? = some k->∃ p ob,M.pl[k]? = some p/\obs[i]? = some ob/\k < σ.length:=fun {i k} hi=>by
  have hil:i < obs.length:=by rw [<- hlen];exact (n_1.1 hi).1
  obtain ⟨ob',h1,_⟩:=hobs i k obs[i] hi (by simp [hil]);have hk:k < σ.length:=(n_1.1 h1).1;exact ⟨M.pl[k]'(by rw [hr.len];exact hk),obs[i],si_,by simp [hil],hk⟩
 let LB:Nat->Prop:=fun b=>∃ (k:Nat) (p:Pl) (ob':b9),k∉sel/\M.pl[k]? = some p/\σ[k]? = some ob'/\ob'.live=true/\p.block=b
 let M0:z6:={ pl:=sel.map fun k=>(M.pl[k]?).getD ⟨0,0,0⟩,full:=M.full,cell:=M.cell,keep:=fun b=>M.keep b\/LB b}
 have hLB:∀ b,LB b->b < w.heap.size:=fun b ⟨k,p,ob',_,hp,hs,hl,hb⟩=>hb ▸ (hr.obj k p ob' hp hs).1.lt hl;have h0:∀ {i:Nat} {p:Pl},M0.pl[i]? = some p->∃ k,sel[i]? = some k/\M.pl[k]? = some p:=fun {i p} hp=>by
  have hp:(sel.map fun k=>(M.pl[k]?).getD ⟨0,0,0⟩)[i]? = some p:=hp;rw [O9,O3] at hp;obtain ⟨k,hk,rfl⟩:=hp;obtain ⟨p,_,g1,_,_⟩:=hselk hk;exact ⟨k,hk,by rw [g1];rfl⟩
 have h0':∀ (k i:Nat) (p:Pl),sel[i]? = some k->M.pl[k]? = some p->M0.pl[i]? = some p:=fun k i p hi hp=>by
  show (sel.map fun k=>(M.pl[k]?).getD ⟨0,0,0⟩)[i]? = some p;rw [O9,hi,b3w,hp];rfl
 have hr0:Rel C M0 obs w:=⟨by simp [M0,hlen],hr.blk,fun i p ob hp hs=>(by
  obtain ⟨k,hk,hpk⟩:=h0 hp;obtain ⟨ob',g1,g2⟩:=hobs i k ob hk hs;obtain ⟨q1,q2⟩:=hr.obj k p ob' hpk g1;refine ⟨q1.renR (M':=M0) h0' (fun b o h=>h) (fun b h=>h) (fun b o h=>h) g2,?_⟩;cases g2 <;> first | trivial|exact q2),fun i i' p p' x x' hp hp' hs hs' hl hl' hb=>(by
  obtain ⟨k,hk,hpk⟩:=h0 hp;obtain ⟨k',hk',hpk'⟩:=h0 hp';obtain ⟨y,g1,g2⟩:=hobs i k x hk hs;obtain ⟨y',g1',g2'⟩:=hobs i' k' x' hk' hs';have:=hr.inj k k' p p' y y' hpk hpk' g1 g1' (by rw [<- g2.live];exact hl) (by rw [<- g2'.live];exact hl') hb;subst this;exact hnd i i' k hk hk'),fun g cells hg=>⟨(by
  have:=(hr.glob g cells hg).rv;exact RV.renR (M:=M) (R:=fun _ _=>False) (M':=M0) (fun _ _ _ h=>h.elim) (fun b o h=>h) this (.cptr rfl fun i c c' h h'=>(by
   rw [h] at h';injection h' with h';subst h'
   exact .pure (hC g cells hg c (n_0 h))))),(hr.glob g cells hg).full,(hr.glob g cells hg).sz⟩,
  fun b hb=>(by
   rcases hb with hb | hb
   ·exact hr.kep b hb
   ·exact hLB b hb),fun i p x hp hs hl hb=>(by
  obtain ⟨k,hk,hpk⟩:=h0 hp;obtain ⟨y,g1,g2⟩:=hobs i k x hk hs;have hyl:y.live=true:=by rw [<- g2.live];exact hl
  rcases hb with hb | ⟨k',p',ob',hk',hp',hs',hl',hb⟩
  ·exact hr.nk k p y hpk g1 hyl hb
  ·have:=hr.inj k' k p' p ob' y hp' hpk hs' g1 hl' hyl hb;subst this;exact hk' (n_0 hk))⟩
 have fin:∀ (c:CV) (v:Value) (r:CV->X7) (hret:∀ c c' R,a6X R (r c) c'->∃ d,c'=r d/\Q5 R c d) (τ:List b9) (M':z6) (w':World),Ext M0 w M' w'->Rel C M' τ w'->RV M' w' c v->K (r c) τ->∃ c' τ' M2,Ext M w M2 w'/\Rel C M2 τ' w'/\RV M2 w' c' v/\K' (r c') τ':=by
  intro c v r hret τ M' w' h1 h2 h3 h4;obtain ⟨hle,r',τ',e1,e2,e3,e4,e5⟩:=hK _ _ h4;obtain ⟨c',rfl,hrc⟩:=hret _ _ _ e1;have hM0:∀ (k i:Nat) (p:Pl),sel[i]? = some k->M.pl[k]? = some p->M'.pl[i]? = some p:=fun k i p hi hp=>h1.get (h0' k i p hi hp);have hlen':M'.pl.length=τ.length:=h2.len
  let M2:z6:={ pl:=M.pl++M'.pl.drop obs.length,full:=M'.full,cell:=M'.cell,keep:=M.keep}
  have hA:∀ (i k:Nat) (p:Pl),a0l sel σ.length i k->M'.pl[i]? = some p->M2.pl[k]? = some p:=fun i k p ha hp=>by
   rcases ha with ha | ⟨ha,rfl⟩
   ·obtain ⟨p0,_,g1,_,g3⟩:=hselk ha;have:=hM0 k i p0 ha g1;rw [hp] at this;injection this with this
    subst this;show (M.pl++_)[k]? = _;rw [M5 (by rw [hr.len];exact g3)];exact g1
   ·show (M.pl++M'.pl.drop obs.length)[σ.length+(i - sel.length)]? = _;rw [a0y (by rw [hr.len];omega),a66,hr.len];rw [show obs.length+(σ.length+(i - sel.length) - σ.length)=i by omega];exact hp
  have hB:∀ (k:Nat) (p:Pl) (x:b9),M2.pl[k]? = some p->τ'[k]? = some x->(k < σ.length/\k∉sel/\M.pl[k]? = some p/\σ[k]? = some x)\/∃ i y,a0l sel σ.length i k/\M'.pl[i]? = some p/\τ[i]? = some y/\J4 (a0l sel σ.length) y x:=fun k p x hp hs=>by
   by_cases hk:k < σ.length
   ·have hp':M.pl[k]? = some p:=by
     have hp:(M.pl++M'.pl.drop obs.length)[k]? = some p:=hp;rwa [M5 (by rw [hr.len];exact hk)] at hp
    by_cases hks:k∈sel
    ·obtain ⟨i,hi⟩:=L3.1 hks;have hil:i < τ.length:=by
      have:=(n_1.1 hi).1;omega
     obtain ⟨x',g1,g2⟩:=e4 i k τ[i] (.inl hi) (by simp [hil]);rw [hs] at g1;injection g1 with g1
     subst g1;exact .inr ⟨i,τ[i],.inl hi,hM0 k i p hi hp',by simp [hil],g2⟩
    ·rw [e3 k hk hks] at hs;exact .inl ⟨hk,hks,hp',hs⟩
   ·have hkl:=(n_1.1 hs).1;rw [e2] at hkl;have hil:obs.length+(k - σ.length) < τ.length:=by omega
    have ha:a0l sel σ.length (obs.length+(k - σ.length)) k:=.inr ⟨om_,om_⟩;obtain ⟨x',g1,g2⟩:=e4 (obs.length+(k - σ.length)) k τ[obs.length+(k - σ.length)] ha (by simp [hil]);rw [hs] at g1;injection g1 with g1
    subst g1;have hp':M'.pl[obs.length+(k - σ.length)]? = some (M'.pl[obs.length+(k - σ.length)]'om_):=by simp
    have:=hA _ _ _ ha hp';rw [hp] at this;injection this with this
    exact .inr ⟨_,_,ha,by rw [hp',this],by simp [hil],g2⟩
  have hAinj:∀ (i i' k:Nat),a0l sel σ.length i k->a0l sel σ.length i' k->i=i':=fun i i' k ha ha'=>by
   rcases ha with ha | ⟨ha,e⟩ <;> rcases ha' with ha' | ⟨ha',e'⟩
   ·exact hnd i i' k ha ha'
   ·have:=(hselk ha).choose_spec.choose_spec.2.2;omega
   ·have:=(hselk ha').choose_spec.choose_spec.2.2;omega
   ·omega
  have hAfun:∀ (i k k':Nat),a0l sel σ.length i k->a0l sel σ.length i k'->k=k':=fun i k k' ha ha'=>by
   rcases ha with ha | ⟨ha,e⟩ <;> rcases ha' with ha' | ⟨ha',e'⟩
   ·rw [ha] at ha';exact Option.some.inj ha'
   ·have:=(n_1.1 ha).1;omega
   ·have:=(n_1.1 ha').1;omega
   ·omega
  have hx2:Ext M w M2 w':=⟨⟨M'.pl.drop obs.length,rfl⟩,h1.full,h1.cell,h1.same,h1.sameC,h1.size,h1.drew,h1.os,h1.tape,h1.output,fun b hb=>by
   obtain ⟨k1,k2,k3,k4⟩:=h1.kept b (.inl hb);exact ⟨hb,k2,k3,k4⟩⟩
  refine ⟨c',τ',M2,hx2,⟨by show (M.pl++M'.pl.drop obs.length).length=_;simp [hr.len,hlen',e2],h2.blk,fun k p x hp hs=>?_,fun k k' p p' x x' hp hp' hs hs' hl hl' hb=>?_,fun g cells hg=>(hr.glob g cells hg).mono hx2,fun b hb=>b1g (hr.kep b hb) h1.size,fun k p x hp hs hl hkp=>?_⟩,h3.renR (M':=M2) hA (fun b o h=>h) hrc,e5⟩
  ·rcases hB k p x hp hs with ⟨hk,hks,hp',hs'⟩ | ⟨i,y,ha,hp',hs',hro⟩
   ·by_cases hl:x.live=true
    ·obtain ⟨k1,k2,k3,k4⟩:=h1.kept p.block (.inr ⟨k,p,x,hks,hp',hs',hl,rfl⟩);obtain ⟨g1,g2⟩:=hr.obj k p x hp' hs';refine ⟨g1.mono hx2 k2 (fun _ _ _ o ho=>k4 o ho),?_⟩;cases x with
     | dead=>trivial
     | tipT t0 n=>exact fun hf=>g2 (k3 hf)
     | _=>exact ⟨fun hf=>g2.1 (k3 hf),fun o ho=>g2.2 o (k4 o ho)⟩
    ·cases x <;> first|exact ⟨tt,tt⟩ | simp [b9.live] at hl
   ·obtain ⟨g1,g2⟩:=h2.obj i p y hp' hs';refine ⟨g1.renR (M':=M2) hA (fun b o h=>h) (fun b h=>h) (fun b o h=>h) hro,?_⟩;cases hro <;> first | trivial|exact g2
  ·have keep:∀ {k:Nat} {p:Pl} {x:b9},k∉sel->M.pl[k]? = some p->σ[k]? = some x->x.live=true->M'.keep p.block:=fun {k p x} hks hp' hs' hl=>(h1.kept p.block (.inr ⟨k,p,x,hks,hp',hs',hl,rfl⟩)).1
   rcases hB k p x hp hs with ⟨hk,hks,hpk,hsk⟩ | ⟨i,y,ha,hpk,hsk,hro⟩ <;> rcases hB k' p' x' hp' hs' with ⟨hk',hks',hpk',hsk'⟩ | ⟨i',y',ha',hpk',hsk',hro'⟩
   ·exact hr.inj k k' p p' x x' hpk hpk' hsk hsk' hl hl' hb
   ·exact absurd (hb ▸ keep hks hpk hsk hl) (h2.nk i' p' y' hpk' hsk' (by rw [<- hro'.live];exact hl'))
   ·exact absurd (hb ▸ keep hks' hpk' hsk' hl') (h2.nk i p y hpk hsk (by rw [<- hro.live];exact hl))
   ·have:=h2.inj i i' p p' y y' hpk hpk' hsk hsk' (by rw [<- hro.live];exact hl) (by rw [<- hro'.live];exact hl') hb;subst this;exact hAfun i k k' ha ha'
  ·rcases hB k p x hp hs with ⟨hk,hks,hp',hs'⟩ | ⟨i,y,ha,hp',hs',hro⟩
   ·exact hr.nk k p x hp' hs' hl hkp
   ·exact h2.nk i p y hp' hs' (by rw [<- hro.live];exact hl) (h1.kept p.block (.inl hkp)).1
 have hal:vs.size=args.length:=by rw [hn,hargs.1]
 refine (h M0 w vs hr0 hal fun i a hi=>?_).mono fun e w' he=>?_
 ·obtain ⟨a',ha'⟩:=r4 hargs.1 hi;exact (hx i a' ha').renR (M':=M0) h0' (fun b o h=>h) (hargs.2 i a' a ha' hi)
 cases e with
 | panicked ch =>
  obtain ⟨c,v,τ,M',hch,h1,h2,h3,h4⟩:=he;obtain ⟨c',τ',M2,g1,g2,g3,g4⟩:=fin c v .pan (fun c c' R h=>by cases h with | pan h=>exact ⟨_,rfl,h⟩) τ M' w' h1 h2 h3 h4;exact ⟨c',v,τ',M2,hch,g1,g2,g3,g4⟩
 | outgrown=>exact he
 | returned v =>
  obtain ⟨c,τ,M',h1,h2,h3,h4⟩:=he;exact fin c v .ret (fun c c' R h=>by cases h with | ret h=>exact ⟨_,rfl,h⟩) τ M' w' h1 h2 h3 h4
def a3V:b9->Prop
 | .dead=>True
 | .boxT _ cells=>∀ c∈cells,r9 c
 | .tipT _ _=>True
 | .vec _ rows=>∀ r∈rows,∀ c∈r,r9 c
 | .map es=>∀ x∈es,r9 x.1/\r9 x.2
 | .iter c l=>(∀ x∈c,r9 x.1/\r9 x.2)/\∀ x∈l,r9 x.1/\r9 x.2
theorem N0 {l:List CV} (h:∀ c∈l,r9 c):a2h R l l:=⟨rfl,fun i c c' g g'=>by
 rw [g] at g';injection g' with g';subst g'
 exact .pure (h c (n_0 g))⟩
theorem a8N {l:List (CV × CV)} (h:∀ x∈l,r9 x.1/\r9 x.2):c5E R l l:=⟨rfl,fun i c c' g g'=>by
 rw [g] at g';injection g' with g';subst g'
 exact ⟨.pure (h c (n_0 g)).1,.pure (h c (n_0 g)).2⟩⟩
theorem a3V.ren (h:a3V ob):J4 R ob ob:=by
 cases ob with
 | dead=>exact .dead
 | boxT t0 cells=>exact .box (N0 h)
 | tipT t0 n=>exact .tip n
 | vec s rows =>
  refine .vec rfl fun i r r' g g'=>?_;rw [g] at g';injection g' with g';subst g'
  exact N0 (h r (n_0 g))
 | map es=>exact .map (a8N h)
 | iter c l=>exact .iter (a8N h.1) (a8N h.2)
theorem a3V.old (h:a3V ob):I8 n ob:=by
 cases ob with
 | dead=>trivial
 | boxT t0 cells=>exact fun c hc=>(h c hc).old
 | tipT t0 n=>trivial
 | vec s rows=>exact fun r hr c hc=>(h r hr c hc).old
 | map es=>exact fun x hx=>⟨(h x hx).1.old,(h x hx).2.old⟩
 | iter c l=>exact ⟨fun x hx=>⟨(h.1 x hx).1.old,(h.1 x hx).2.old⟩,fun x hx=>⟨(h.2 x hx).1.old,(h.2 x hx).2.old⟩⟩
def a2X:List Nat->List b9->List b9->List b9
 | [],_,σ=>σ
 | _::_,[],σ=>σ
 | k::ks,o::os,σ=>a2X ks os (σ.set k o)
theorem a6x:∀ (ks:List Nat) (os:List b9) (σ:List b9),(a2X ks os σ).length=σ.length
 | [],_,σ=>rfl
 | k::ks,[],σ=>rfl
 | k::ks,o::os,σ=>by rw [a2X,a6x ks os];simp
theorem a3M:∀ (ks:List Nat) (os:List b9) (σ:List b9) (k:Nat),k∉ks->(a2X ks os σ)[k]? = σ[k]?
 | [],_,σ,k,_=>rfl
 | _::ks,[],σ,k,_=>rfl
 | k'::ks,o::os,σ,k,h=>by
  rw [a2X,a3M ks os _ k fun hm=>h (by simp [hm]),a2V fun e=>h a28]
theorem b2p:∀ (ks:List Nat) (os:List b9) (σ:List b9) (i k:Nat),(∀ (i j k:Nat),ks[i]? = some k->ks[j]? = some k->i=j)->ks.length=os.length->ks[i]? = some k->k < σ.length->(a2X ks os σ)[k]? = os[i]?
 | [],_,σ,i,k,_,_,h,_=>by simp at h
 | _::ks,[],σ,i,k,_,h,_,_=>by simp at h
 | k'::ks,o::os,σ,i,k,hnd,hl,hi,hk=>by
  rw [a2X];have hnd':∀ (i j k:Nat),ks[i]? = some k->ks[j]? = some k->i=j:=fun i j k h1 h2=>by
   have:=hnd (i+1) (j+1) k (sp_ h1) (sp_ h2);omega
  rcases i with _ | i
  ·simp at hi;subst hi;rw [a3M ks os _ k' fun hm=>by
    obtain ⟨j,hj⟩:=L3.1 hm;have:=hnd 0 (j+1) k' rfl (sp_ hj);omega]
   simp [hk]
  ·rw [b2p ks os _ i k hnd' (sp_ hl) (sp_ hi) (sp_ hk)];simp
theorem a05 {res':α->X7} {S N:α->List b9} {P:α->Prop} (sel:List Nat) (hC:C.plain) (hlen:sel.length=obs.length) (hnd:∀ (i j k:Nat),sel[i]? = some k->sel[j]? = some k->i=j)
 (hobs:∀ (i k:Nat),sel[i]? = some k->k < σ.length/\σ[k]? = obs[i]?) (hpo:∀ ob∈obs,a3V ob) (hargs:a2h (fun k i=>sel[i]? = some k) args' args)
 (h:b8 C f args obs fun r τ=>∃ a,r=res a/\τ=S a++N a/\P a) (hS:∀ a,P a->(S a).length=obs.length/\∀ ob∈S a++N a,a3V ob) (hres:∀ a,P a->a6X (a0l sel σ.length) (res a) (res' a)) :
 b8 C f args' σ fun r τ=>∃ a,r=res' a/\τ=a2X sel (S a) σ++N a/\P a:=by
 refine J5 sel hC hlen hnd (fun i k ob hi ho=>?_) hargs h fun r τ hk=>?_
 ·obtain ⟨_,h2⟩:=hobs i k hi;exact ⟨ob,by rw [h2,ho],(hpo ob (n_0 ho)).ren⟩
 ·obtain ⟨a,rfl,rfl,hp⟩:=hk;obtain ⟨hl,hn⟩:=hS a hp;have hsl:=a6x sel (S a) σ;refine ⟨by simp [hl],res' a,a2X sel (S a) σ++N a,hres a hp,by simp [hsl,hl],fun k hk hks=>?_,fun i k x ha hx=>?_,a,rfl,rfl,hp⟩
  ·rw [M5 (by rw [hsl];exact hk),a3M sel (S a) σ k hks]
  ·refine ⟨x,?_,(hn x (n_0 hx)).ren⟩
   rcases ha with ha | ⟨ha,rfl⟩
   ·have hk:=(hobs i k ha).1;have hil:i < (S a).length:=by rw [hl,<- hlen];exact (n_1.1 ha).1
    rw [M5 hil] at hx;rw [M5 (by rw [hsl];exact hk),b2p sel (S a) σ i k hnd (by rw [hlen,hl]) ha hk,hx]
   ·rw [a0y om_] at hx;rw [a0y (by rw [hsl];omega),hsl,<- hx]
    congr 1
    omega
theorem a2h.nil:a2h R [] []:=⟨rfl,fun i c c' h=>by simp at h⟩
theorem a2h.cons {l l':List CV} (h:Q5 R c c') (hl:a2h R l l'):a2h R (c::l) (c'::l'):=⟨congrArg (· + 1) hl.1,fun i d d' g g'=>by
 rcases i with _ | i
 ·simp at g g';subst g g';exact h
 ·exact hl.2 i d d' (sp_ g) (sp_ g')⟩
inductive a1e (n:Nat) (τ:List b9):X7->X7->Prop where
 | ret {c c':CV}:Cls n τ c c'->a1e n τ (.ret c) (.ret c')
 | pan {c c':CV}:Cls n τ c c'->a1e n τ (.pan c) (.pan c')
theorem a04 {S:α->List b9} {P:α->Prop} (hC:C.plain)
 (h:b8 C f args obs fun r τ=>∃ a,a1e (S a).length τ r (res a)/\a8V (S a).length τ τ (S a)/\obs.length<=(S a).length/\P a):b8 C f args obs fun r τ=>∃ a,r=res a/\τ=S a/\P a:=fun M w vs hr hn hx=>(h M w vs hr hn hx).mono fun e w' he=>by
 cases e with
 | returned v =>
  obtain ⟨c',τ,M',h1,h2,h3,a,h4,h5,h6,h7⟩:=he;obtain ⟨g1,g2,g3⟩:=h2.cutCls hC h5;generalize hra:res a=ra at h4;cases h4 with
  | ret h4=>exact ⟨_,S a,_,g3 M w h1 (by rw [hr.len];exact h6),g1,RV.close h2 g2 (fun k p s rows hk hp hs=>.inr ⟨k,p,_,hk,hp,hs,rfl,rfl⟩) h4 h3,a,hra.symm,rfl,h7⟩
 | panicked ch =>
  obtain ⟨c',v,τ,M',h0,h1,h2,h3,a,h4,h5,h6,h7⟩:=he;obtain ⟨g1,g2,g3⟩:=h2.cutCls hC h5;generalize hra:res a=ra at h4;cases h4 with
  | pan h4=>exact ⟨_,v,S a,_,h0,g3 M w h1 (by rw [hr.len];exact h6),g1,RV.close h2 g2 (fun k p s rows hk hp hs=>.inr ⟨k,p,_,hk,hp,hs,rfl,rfl⟩) h4 h3,a,hra.symm,rfl,h7⟩
 | outgrown=>exact he
theorem b1X (hC:C.plain) (hob:a3V ob) (hc:r9 c) (hq:σ[q]? = some ob) (hargs:a2h (fun k i=>[q][i]? = some k) args' args)
 (h:b8 C f args [ob] fun r τ=>∃ _:Unit,a1e [ob].length τ r (.ret c)/\a8V [ob].length τ τ [ob]/\[ob].length<=[ob].length/\True):b8 C f args' σ fun r τ=>r = .ret c/\τ=σ:=by
 have hk:q < σ.length:=(n_1.1 hq).1;have h1:=a04 (res:=fun _=>.ret c) (S:=fun _=>[ob]) (P:=fun _=>True) hC h;have h2:=a05 (σ:=σ) (args':=args') (res':=fun _:Unit=>.ret c) (N:=fun _=>[]) [q] hC rfl (fun i j k h1 h2=>by
  have:=(n_1.1 h1).1;have:=(n_1.1 h2).1;simp at *;omega) (fun i k hi=>by
  rcases i with _ | i
  ·simp at hi;subst hi;exact ⟨hk,by rw [hq];rfl⟩
  ·simp at hi) (fun o ho=>by simp at ho;subst ho;exact hob) hargs (h1.mono fun r τ ⟨a,e1,e2,e3⟩=>⟨a,e1,by rw [e2,a2q],e3⟩) (fun _ _=>⟨rfl,fun o ho=>by simp at ho;subst ho;exact hob⟩) (fun _ _=>.ret (.pure hc))
 refine h2.mono fun r τ ⟨_,e1,e2,_⟩=>⟨e1,?_⟩;rw [e2,a2q];show σ.set q ob=σ;apply c45;intro i;rw [b2C]
 split
 ·rename_i e;subst e;first|(rw [if_pos hk,hq])|(rw [hq])
 ·rfl
theorem a1Z {P : Program} {f : FuncId} {fn : Func} {e : Array Value → Sem Value} {args : Array Value} {w : World} {v : Value} (hf : P.funcs[f]? = some fn) (hname : (fn.name == "runtime.NumGoroutine") = false) (hb : fn.body.isNone = true) (hn : Extern.findNext fn = none) (he : Extern.find fn = some e) (hr : (e args).run P w = .ok v w) :
 (callFunc f args).run P w = .ok (.value v) w:=by
 simp only [callFunc,Sem.run_bind,run_program,Result.andThen_ok,hf,hname,hb,hn,he];simp [hr]
section
theorem d0u {f : FuncId} {fn : Func} {e : Array Value → Sem Value} {ts : Array TypeId} {x y : Operand} {a b v : Value} (ho : o.op = .call { callee := .value (.func f), args := #[x, y], argTypes := ts }) (hf : C.P.funcs[f]? = some fn) (hname : (fn.name == "runtime.NumGoroutine") = false) (hb : fn.body.isNone = true) (hn : Extern.findNext fn = none) (he : Extern.find fn = some e)
 (hx:E.valid x) (hy:E.valid y) (ex:E.val C x = .val a) (ey:E.val C y = .val b) (hr:∀ w,(e #[a,b]).run C.P w = .ok v w):o4 C σ E o (.val v) :=
 i8 fun M w ρ _ hh=>by
  have h1:=hh x I7 hx;have h2:=hh y I7 hy;have hfn:=r2 (hh (.func f) I7 tt);rw [ex] at h1;rw [ey] at h2;refine ⟨v,?_,.val _⟩;have:=a1Z (args:=#[a,b]) (w:=w) hf hname hb hn he (hr w);simp [execOp,ho,resolve,hfn,r2 h1,r2 h2,Deferred.ofValue,invoke,this]
end
theorem c4b (s:Str) (c:UInt8) (w:World):(Extern.BytealgCount.count #[.string (str s),.int .u8 c.toNat]).run P w = .ok (.int .i64 (s.count c:Nat)) w:=by
 have:=Go.Lib.run_countString (P:=P) (str s) (c.toNat:Int) w;rw [this];simp [Go.Lib.countByte,str]
theorem c4a (s:Str) (c:UInt8) (w:World):(Extern.BytealgIndexByte.indexByte #[.string (str s),.int .u8 c.toNat]).run P w = .ok (.int .i64 (Go.Lib.indexByte s c)) w:=by
 have:=Go.Lib.run_indexByteString (P:=P) (str s) (c.toNat:Int) w;rw [this];simp [str]
def d2J:X7->Prop
 | .ret c=>r9 c
 | .pan c=>r9 c
theorem F6 {P:α->Prop} (hC:C.plain) (hargs:∀ c∈args,r9 c)
 (h:b8 C f args [] fun r τ=>∃ a,a1e 0 τ r (res a)/\P a) (hres:∀ a,P a->d2J (res a)) (σ:List b9):b8 C f args σ fun r τ=>∃ a,r=res a/\τ=σ/\P a:=by
 have h1:b8 C f args [] fun r τ=>∃ a,r=res a/\τ=(fun _=>[]) a/\P a:=a04 (res:=res) (S:=fun _=>[]) (P:=P) hC (h.mono fun r τ ⟨a,h2,h3⟩=>⟨a,h2,by cases τ <;> trivial,n_4 _,h3⟩);have h2:=a05 (σ:=σ) (args':=args) (res':=res) (S:=fun _=>[]) (N:=fun _=>[]) (P:=P) [] hC rfl (fun i j k h1=>by simp at h1) (fun i k h1=>by simp at h1) (fun o ho=>by simp at ho) (N0 hargs)
  (h1.mono fun r τ ⟨a,e1,e2,e3⟩=>⟨a,e1,by rw [e2];rfl,e3⟩) (fun _ _=>⟨rfl,fun o ho=>by simp at ho⟩) (fun a hp=>by
   have:=hres a hp;cases hr:res a with
   | ret c=>rw [hr] at this;exact .ret (.pure this)
   | pan c=>rw [hr] at this;exact .pan (.pure this))
 exact h2.mono fun r τ ⟨a,e1,e2,e3⟩=>⟨a,e1,by rw [e2];simp [a2X],e3⟩
theorem a0a (h:b8 C f args (σ++[.dead]) K):b8 C f args σ K:=fun M w vs hr hn hx=>by
 obtain ⟨h1,h2⟩:=hr.addDead ⟨0,0,0⟩;refine (h _ w vs h1 hn fun i c hi=>(hx i c hi).mono h2).mono fun e w' he=>?_;cases e with
 | returned v =>
  obtain ⟨c,τ,M',g1,g2,g3,g4⟩:=he;exact ⟨c,τ,M',h2.trans g1,g2,g3,g4⟩
 | panicked ch =>
  obtain ⟨c,v,τ,M',g0,g1,g2,g3,g4⟩:=he;exact ⟨c,v,τ,M',g0,h2.trans g1,g2,g3,g4⟩
 | outgrown=>exact he
theorem b5b {c:Code} (h:CWp C n c Q E (σ++[.dead])):CWp C n c Q E σ:=fun M w a hr hf=>by
 obtain ⟨h1,h2⟩:=hr.addDead ⟨0,0,0⟩;exact wp_mono (h _ w a h1 (hf.mono h2)) fun _ _ _=>P3.later h2
inductive c8E (L:Nat) (sel:List Nat):X7->X7->Prop where
 | ret {c c':CV}:D2 L sel c c'->c8E L sel (.ret c) (.ret c')
 | pan {c c':CV}:D2 L sel c c'->c8E L sel (.pan c) (.pan c')
def F1 (L:Nat) (τ:List b9) (r r':X7) (S:List b9):Prop:=∃ sel,a6A L sel=true/\Y7 sel=true/\c8E L sel r r'/\b6L L sel τ sel S
theorem L2 (hC:C.plain) (h:b8 C f args obs fun r τ=>∃ r' S,F1 obs.length τ r r' S/\K r' S):b8 C f args obs K:=fun M w vs hr hn hx=>by
 refine (h M w vs hr hn hx).mono fun e w' he=>?_;cases e with
 | returned v =>
  obtain ⟨c,τ,M',g1,g2,g3,r',S,⟨sel,k1,k2,k3,k4⟩,k5⟩:=he;have hL:obs.length<=M'.pl.length:=by
   obtain ⟨l,hl⟩:=g1.pl;rw [hl,<- hr.len];simp
  cases k3 with
  | ret k3=>exact ⟨_,S,_,g1.ren k1 hr.len,g2.ren hC k1 k2 hL k4,RV.ren (a3A k1) hL g3 k3,k5⟩
 | panicked ch =>
  obtain ⟨c,v,τ,M',g0,g1,g2,g3,r',S,⟨sel,k1,k2,k3,k4⟩,k5⟩:=he;have hL:obs.length<=M'.pl.length:=by
   obtain ⟨l,hl⟩:=g1.pl;rw [hl,<- hr.len];simp
  cases k3 with
  | pan k3=>exact ⟨_,v,S,_,g0,g1.ren k1 hr.len,g2.ren hC k1 k2 hL k4,RV.ren (a3A k1) hL g3 k3,k5⟩
 | outgrown=>exact he
section
theorem o6 {c:α->CV} {S:α->List b9} {P:α->Prop} {c':β->CV} {S':β->List b9} {P':β->Prop} (ho:o.op = .call { callee:=.value (.func f),args:=xs,argTypes:=ts}) (hcall:∀ args w,(callFunc f args).run C.P w = .ok (.enter f args) w)
 (hv:E.valids xs.toList) (h:b8 C f cargs σ fun r σ'=>(∃ a,r = .ret (c a)/\σ'=S a/\P a)\/∃ b,r = .pan (c' b)/\σ'=S' b/\P' b) (ea:(E.vals C xs.toList).map CV.fgt=cargs) (hp:∀ b,P' b->K (.pan (c' b)) (S' b)) (hk:∀ a,P a->K (.ret (c a)) (S a)):K1 C σ E o K :=
 b5V ho hcall (Env.valids_mem hv) (Env.vals_map _) ((a4f (ea ▸ h)).mono fun r σ' hh=>by
  rcases hh with ⟨a,rfl,rfl,hq⟩ | ⟨b,rfl,rfl,hq⟩
  ·exact hk a hq
  ·exact hp b hq)
theorem a1B {c':β->CV} {S':β->List b9} {P':β->Prop} (ho:o.op = .call { callee:=.value (.func f),args:=xs,argTypes:=ts}) (hcall:∀ args w,(callFunc f args).run C.P w = .ok (.enter f args) w)
 (hv:E.valids xs.toList) (h:b8 C f cargs σ fun r σ'=>∃ b,r = .pan (c' b)/\σ'=S' b/\P' b) (ea:(E.vals C xs.toList).map CV.fgt=cargs) (hp:∀ b,P' b->K (.pan (c' b)) (S' b)):K1 C σ E o K :=
 b5V ho hcall (Env.valids_mem hv) (Env.vals_map _) ((a4f (ea ▸ h)).mono fun r σ' hh=>by
  obtain ⟨b,rfl,rfl,hq⟩:=hh;exact hp b hq)
def b0F:TypeDesc->Bool
 | .interface _=>true
 | _=>false
theorem c1b {u:TypeDesc} (h:∀ w,(underlying t).run P w = .ok u w) (hu:b0F u=false) (v:Value) (w:World):(Instr.makeInterface t v).run P w = .ok (.iface t v) w:=by
 simp [Instr.makeInterface,go_sem];rw [h w];cases u <;> simp [b0F] at hu ⊢
theorem c4A {xs:List Value} (ho:o.op = .makeInterface t x) (hx:E.valid x) (ex:E.val C x=plain xs) (hm:∀ v w,(Instr.makeInterface t v).run C.P w = .ok (.iface t v) w):o4 C σ E o (.val (.iface t (.agg xs.toArray))) :=
 i8 fun M w ρ _ h=>by
  have h1:=h x x9 hx;rw [ex] at h1;have h2:=a7S h1;refine ⟨_,?_,.val _⟩;simp only [execOp,ho];rw [<- h2];simp [hm]
end
section
theorem c5 {l:List Oper} (σ':List b9) (h:σ=σ') (k:O6 C n ops Q l E σ'):O6 C n ops Q l E σ:=h ▸ k
theorem K9 {c:Code} (σ':List b9) (h:σ=σ') (k:CWp C n c Q E σ'):CWp C n c Q E σ:=h ▸ k
end
def addDs (ds:List Deferred) (a:Act):Act:={ a with defers:=a.defers++ds}
theorem a25 {ds:List Deferred} {a:Act} {d:Option Nat}:(addDs ds a).put d v=addDs ds (a.put d v):=by
 cases d <;> rfl
theorem b9A {ds:List Deferred} {a:Act} {d:Deferred} {t:Option Nat}:({ addDs ds a with defers:=d::(addDs ds a).defers}:Act).put t undef=addDs ds (({ a with defers:=d::a.defers}:Act).put t undef):=by
 cases t <;> rfl
theorem c5r {Q Q':Exit->Act->World->Prop} {ds:List Deferred} (hq:∀ e a w,Q e a w->Q' e (addDs ds a) w):∀ (l:List Oper) (a:Act) (w:World),wpList P ops Q l a w->wpList P ops Q' l (addDs ds a) w:=by
 have hout:LetsOut Q->LetsOut Q':=fun ⟨a0,w0,h⟩=>⟨_,w0,hq _ a0 w0 h⟩;intro l
 induction l with
 | nil=>exact fun a w h=>hq _ _ _ h
 | cons o l ih =>
  intro a w h;unfold wpList at h ⊢;change if Region.wanted o (yielded ops a.tmps)=true then _ else _
  split
  ·rename_i hw;rw [if_pos hw] at h;refine h.imp (fun h=>?_) (fun ⟨h1,h2⟩=>⟨h1,hout h2⟩);unfold Oper.wp at h ⊢;change o.upon P (addDs ds a) _ _ ((execOp a.eval o).run P w);generalize (execOp a.eval o).run P w=r at h;cases r with
   | ok x w3 =>
    cases x <;> simp only [Oper.upon] at h ⊢
    case value v=>rw [a25];exact ih _ _ h
    case skip=>rw [a25];exact ih _ _ h
    case defer d=>rw [b9A];exact ih _ _ h
    case enter f args =>
     refine h.mono fun e w4 he=>?_;cases e with
     | returned v=>show wpList P ops Q' l ((addDs ds a).put o.dst v) w4;rw [a25];exact ih _ _ he
     | panicked ch=>exact hq _ _ _ he
     | outgrown=>exact hout he
    case row r args=>exact Rows.mono h fun _ _ he=>by rw [a25];exact ih _ _ he
   | halt x w3 =>
    cases x <;> simp only [Oper.upon] at h ⊢
    exact hq _ _ _ h
  ·rename_i hw;rw [if_neg hw] at h;rw [a25];exact ih _ _ h
def b8K (ds:List Deferred) (C:Ctx) (n:Nat) (Q:G6->Env->List b9->Prop) (M:z6) (w:World) (e:Exit) (a':Act) (w':World):Prop:=∃ a0,a'=addDs ds a0/\P3 C n Q M w e a0 w'
def c35 (ds:List Deferred) (C:Ctx) (n:Nat) (c:Code) (Q:G6->Env->List b9->Prop) (E:Env) (σ:List b9):Prop :=
 ∀ (M:z6) (w:World) (a:Act),Rel C M σ w->J9 M w n E a->c.wp C.P (b8K ds C n Q M w) (addDs ds a) w
section
variable {ds:List Deferred}
theorem b8K.later {M1:z6} {w1:World} (he:Ext M w M1 w1) {e:Exit} {a:Act} (hl:b8K ds C n Q M1 w1 e a w'):b8K ds C n Q M w e a w':=by
 obtain ⟨a0,h0,h⟩:=hl;exact ⟨a0,h0,P3.later he h⟩
theorem b1F (h:O6 C n ops Q ops.toList E σ):c35 ds C n (.region id ops false) Q E σ :=
 fun M w a hr hf=>wp_region_list (c5r (fun _ a0 _ h=>⟨a0,rfl,h⟩) _ _ _ (h M w a hr hf))
theorem d1n (h:Q .ret E σ):c35 ds C n .ret Q E σ:=fun M w a hr hf=>wp_ret ⟨a,rfl,E,σ,M,Ext.refl M w,hr,hf,h⟩
theorem c1M {x y:Code} (h:c35 ds C n x (G6.next (c35 ds C n y Q) Q) E σ):c35 ds C n (.seq x y) Q E σ:=fun M w a hr hf=>by
 refine wp_seq (wp_mono (h M w a hr hf) fun e a' w' hl=>?_);obtain ⟨a0,rfl,E',σ',M',h1,h2,h3,h4⟩:=hl;cases e with
 | normal=>exact wp_mono (h4 M' w' a0 h2 h3) fun _ _ _=>b8K.later h1
 | _=>exact ⟨a0,rfl,E',σ',M',h1,h2,h3,h4⟩
end
section
theorem b1O {caps:Array Operand} (ho:o.op = .makeFunc (.func f) #[] caps) (hv:E.valids caps.toList):o4 C σ E o (.clo f (E.vals C caps.toList)) :=
 i8 fun M w ρ _ h=>by
  refine ⟨.func (.func f) #[] (caps.map ρ),by simp [execOp,ho,Instr.makeFunc],.clo (by rw [<- Env.vals_map];simp) fun i c hi=>?_⟩;rw [<- Env.vals_map,O9,O3] at hi;obtain ⟨x,hx,rfl⟩:=hi;have hx':caps[i]? = some x:=sp_ hx;have hm:x∈caps:=a86 hx';have:(caps.map ρ).getD i undef=ρ x:=by
   rw [W4,c4F,hx'];rfl
  rw [this];exact h x (by simp [ho,Op.operands,hm]) (Env.valids_mem hv x (sp_ hm))
theorem b3p {f:FuncId} {cx:Operand} {xs:Array Operand} {ts:Array TypeId} {cargs caps:List CV} {K:X7->List b9->Prop} (ho:o.op = .call { callee:=.value cx,args:=xs,argTypes:=ts}) (hc:E.valid cx) (ec:E.val C cx = .clo f caps) (hcall:∀ args w,(callFunc f args).run C.P w = .ok (.enter f args) w)
 (hv:∀ x∈xs.toList,E.valid x) (ea:xs.toList.map (E.val C)=cargs) (h:b8 C f (cargs++caps) σ K):K1 C σ E o K:=fun M w ρ hr hh=>by
 have hf:=hh cx I7 hc;rw [ec] at hf;generalize hcx:ρ cx=fv at hf;cases hf with
 | @clo _ _ vs hsz hvs =>
  have hrun:(execOp ρ o).run C.P w = .ok (.enter f (xs.map ρ++vs)) w:=by
   simp [execOp,ho,resolve,hcx,Deferred.ofValue,invoke,hcall]
  rw [hrun];refine (h M w (xs.map ρ++vs) hr (by simp [<- ea,hsz]) fun i c hi=>?_).mono fun e w' he=>by cases e <;> exact he
  subst ea;rw [W4,b6v];rw [a6i] at hi;simp only [a2O,b0u,Array.size_map] at hi ⊢
  split <;> rename_i hlt
  ·rw [if_pos hlt] at hi;simp only [O9,O3] at hi;obtain ⟨x,hx,rfl⟩:=hi;have hx':xs[i]? = some x:=sp_ hx;have hm:x∈xs:=a86 hx';rw [c4F,hx'];exact hh x (by simp [ho,Op.operands,Call.operands,hm]) (hv x (sp_ hm))
  ·rw [if_neg hlt] at hi;have:=hvs _ _ hi;rwa [W4] at this
theorem b3U {cx:Operand} {caps:List CV} (ho:o.op = .call { callee:=.value cx,args:=xs,argTypes:=ts}) (hc:E.valid cx) (ec:E.val C cx = .clo f caps) (hcall:∀ args w,(callFunc f args).run C.P w = .ok (.enter f args) w)
 (hv:E.valids xs.toList) (h:b8 C f (cargs++caps) σ fun r σ'=>r = .ret c/\σ'=σ) (ea:E.vals C xs.toList=cargs):o4 C σ E o c :=
 b3p ho hc ec hcall (Env.valids_mem hv) (Env.vals_map _) (ea ▸ h)
end
def c4H (C:Ctx) (M:z6) (w:World) (K:X7->List b9->Prop):Ending->World->Prop
 | .returned v,w'=>a4q C M w K v w'
 | .panicked ch,w'=>a0n C M w K ch w'
 | .outgrown,_=>False
theorem c4H.later {M1:z6} {w1:World} (hx:Ext M w M1 w1) {e:Ending} (h:c4H C M1 w1 K e w'):c4H C M w K e w':=by
 cases e with
 | returned v =>
  obtain ⟨c,σ',M',h1,h2⟩:=h;exact ⟨c,σ',M',hx.trans h1,h2⟩
 | panicked ch =>
  obtain ⟨c,v,σ',M',h0,h1,h2⟩:=h;exact ⟨c,v,σ',M',h0,hx.trans h1,h2⟩
 | outgrown=>exact h
theorem a5E {fn:Func} {tmps:Array Value} {R R':Ending->World->Prop} (h:∀ e w,R e w->R' e w):∀ (ds:List Deferred) (u:FrameMode) (w:World),Leaves P fn tmps R ds u w->Leaves P fn tmps R' ds u w:=by
 intro ds
 induction ds with
 | nil =>
  intro u w hl;cases u with
  | run=>exact hl
  | returning =>
   obtain ⟨v,h1,h2⟩:=hl;exact ⟨v,h1,h _ _ h2⟩
  | panicking ch=>exact h _ _ hl
 | cons d ds ih =>
  intro u w hl;obtain ⟨h1,fv,cap,f,args,h2,h3,h4⟩:=hl;refine ⟨h1,fv,cap,f,args,h2,h3,h4.mono fun e u' w' he=>?_⟩;cases e with
  | returned v=>exact ih _ _ he
  | panicked ch=>exact ih _ _ he
  | outgrown=>exact h _ _ he
theorem b2x {fn:Func} {R R':Ending->World->Prop} (h:∀ e w,R e w->R' e w) {e:Exit} {a:Act} (hb:bodyPostD P fn R e a w):bodyPostD P fn R' e a w:=by
 cases e with
 | normal=>exact a5E h _ _ _ hb
 | ret=>exact a5E h _ _ _ hb
 | panic ch=>exact a5E h _ _ _ hb
 | outgrown=>exact h _ _ hb
 | exit id=>exact hb
 | goto l=>exact hb
def b7h (C:Ctx) (fn:Func) (K:X7->List b9->Prop) (c:Code) (E:Env) (σ:List b9):Prop :=
 ∀ (M:z6) (w:World) (a:Act),Rel C M σ w->J9 M w fn.ntmps E a->c.wp C.P (bodyPostD C.P fn (c4H C M w K)) a w
theorem b3J {vs:Array Value} (hn:args.length<=n) (hsz:vs.size=args.length) (hx:∀ (i:Nat) (c:CV),args[i]? = some c->RV M w c (vs.getD i undef)):J9 M w n (Env.args args) { tmps:=vs++Array.replicate (n - vs.size) undef,defers:=[]}:=by
 refine ⟨rfl,by simp;omega,fun t _=>?_,fun t ht=>ht.elim⟩;simp only [Env.args]
 rcases a0c t args.length with ht | ht
 ·have:=hx t (args[t]) (by simp [ht]);have h1:(vs++Array.replicate (n - vs.size) undef).getD t undef=vs.getD t undef:=by
   simp [b6v,hsz,ht]
  rw [h1];simpa [ht] using this
 ·have h1:(vs++Array.replicate (n - vs.size) undef).getD t undef=undef:=by
   simp only [W4,b6v];rw [if_neg om_];rw [c11]
   split <;> rfl
  rw [h1];simp only [a3o,c0u ht,Option.getD_none];exact .val _
theorem c0r {fn:Func} {c:Code} (hf:C.P.funcs[f]? = some fn) (hb:fn.body=some c) (hn:Nat.ble args.length fn.ntmps=true) (h:b7h C fn K c (Env.args args) σ):b8 C f args σ K:=fun M w vs hr hsz hx =>
 (calls_of_wp_defers hf hb (h M w _ hr (b3J (nb hn) hsz hx))).mono fun e w' he=>by cases e <;> exact he
theorem c1a {fn:Func} {x y:Code} (h:CWp C fn.ntmps x (G6.next (b7h C fn K y) (Fin C fn K)) E σ):b7h C fn K (.seq x y) E σ:=fun M w a hr hf=>by
 refine wp_seq (wp_mono (h M w a hr hf) fun e a' w' hl=>?_);obtain ⟨E',σ',M',h1,h2,h3,h4⟩:=hl;cases e with
 | normal=>exact wp_mono (h4 M' w' a' h2 h3) fun e a0 w0 hb=>b2x (fun e w he=>c4H.later h1 he) hb
 | ret =>
  obtain ⟨c,hc,hk⟩:=h4;obtain ⟨v,hv,hrv⟩:=hc M' w' a' h2 h3.rv;show Leaves C.P fn a'.tmps _ a'.defers .returning w';rw [h3.defers];exact ⟨v,hv,c,σ',M',h1,h2,hrv,hk⟩
 | panic ch =>
  obtain ⟨c,v,h0,hv,hk⟩:=h4;show Leaves C.P fn a'.tmps _ a'.defers (.panicking ch) w';rw [h3.defers];exact ⟨c,v,σ',M',h0,h1,h2,hv,hk⟩
 | exit id=>exact h4.elim
 | goto l=>exact h4.elim
 | outgrown=>exact h4.elim
def b0V (b:Bool) (v:Value):FrameMode:=if b then .panicking [{ v,recovered:=false}] else .returning
def Z8 (b:Bool) (v:Value):FrameMode:=if b then .panicking [{ v,recovered:=true}] else .returning
theorem b5i (b:Bool) (v:Value):settle (Z8 b v) = .returning:=by cases b <;> rfl
def c5o (C:Ctx) (g:FuncId) (caps:List CV) (σ:List b9) (b:Bool) (u:CV) (K:List b9->Prop):Prop :=
 ∀ (M:z6) (w:World) (vs:Array Value) (v:Value),Rel C M σ w->vs.size=caps.length->(∀ (i:Nat) (c:CV),caps[i]? = some c->RV M w c (vs.getD i undef))->RV M w u v ->
  CallsD C.P g vs (b0V b v) w fun e u' w'=>(∃ x,e = .returned x)/\u'=Z8 b v/\∃ σ' M',Ext M w M' w'/\Rel C M' σ' w'/\K σ'
theorem c8B {C:Ctx} {fn:Func} {K:X7->List b9->Prop} {id:Nat} {ops:Array Oper} {y:Code} {E:Env} {σ:List b9} {g:FuncId} {caps:Array Operand} {t:Nat} {o1 o2:Oper} {ats:Array TypeId} (hl:ops.toList=[o1,o2]) (g1:o1.guard=none) (g2:o2.guard=none) (d1:o1.dst=some t) (d2:o2.dst=none) (ht:t < fn.ntmps)
 (e1:o1.op = .makeFunc (.func g) #[] caps) (e2:o2.op = .defer { callee:=.value (.tmp t),args:=#[],argTypes:=ats}) (hg:∀ args w,(callFunc g args).run C.P w = .ok (.enter g args) w) (hv:E.valids caps.toList)
 (h:∀ ds,c35 ds C fn.ntmps y (fun e E' σ'=>match e with
  | .normal | .ret=>c5o C g (E.vals C caps.toList) σ' false (.val undef) fun σ''=>∃ c,a2c C E' σ'' fn c/\K (.ret c) σ''
  | .pan u=>c5o C g (E.vals C caps.toList) σ' true u fun σ''=>∃ c,a2c C E' σ'' fn c/\K (.ret c) σ''
  | _=>False) (E.put (some t) (.clo g (E.vals C caps.toList)) True) σ):b7h C fn K (.seq (.region id ops false) y) E σ:=fun M w a hr hf=>by
 refine wp_seq (wp_region_list ?_);rw [hl];obtain ⟨v,hv1,hv2⟩:∃ v,(execOp a.eval o1).run C.P w = .ok (.value v) w/\RV M w (.clo g (E.vals C caps.toList)) v:=by
  refine ⟨.func (.func g) #[] (caps.map a.eval),by simp [execOp,e1,Instr.makeFunc],.clo (by rw [<- Env.vals_map];simp) fun i c hi=>?_⟩;rw [<- Env.vals_map,O9,O3] at hi;obtain ⟨x,hx,rfl⟩:=hi;have hx':caps[i]? = some x:=sp_ hx;have hm:x∈caps:=a86 hx';have:(caps.map a.eval).getD i undef=a.eval x:=by
   rw [W4,c4F,hx'];rfl
  rw [this];exact hf.eval hr (Env.valids_mem hv x (sp_ hm))
 have hf1:J9 M w fn.ntmps (E.put (some t) (.clo g (E.vals C caps.toList)) True) (a.put (some t) v):=hf.put (fun t' ht'=>by injection ht' with ht';omega) (fun _=>hv2) fun hh=>absurd trivial hh;unfold wpList;rw [if_pos (by simp [Region.wanted,g1])];refine .inl ?_;unfold Oper.wp;rw [hv1,Oper.upon_value,d1];unfold wpList;rw [if_pos (by simp [Region.wanted,g2])];refine .inl ?_;have hev:(a.put (some t) v).eval (.tmp t)=v:=by
  have hsz:t < a.tmps.size:=by rw [hf.size];exact ht
  simp [Act.eval,Act.put,hsz]
 cases hv2 with
 | @clo _ _ vs hsz hvs =>
 have hrun:(execOp (a.put (some t) (.func (.func g) #[] vs)).eval o2).run C.P w = .ok (.defer { target:=.fn (.func g) vs,args:=#[]}) w:=by
  simp [execOp,e2,resolve,hev,Deferred.ofValue]
 unfold Oper.wp;rw [hrun,Oper.upon_defer,d2];unfold wpList;have hact:({ a.put (some t) (.func (.func g) #[] vs) with defers:={ target:=.fn (.func g) vs,args:=#[]}::(a.put (some t) (.func (.func g) #[] vs)).defers}:Act).put none undef=addDs [{ target:=.fn (.func g) vs,args:=#[]}] (a.put (some t) (.func (.func g) #[] vs)):=by
  simp [addDs,Act.put,hf.defers]
 rw [hact];refine wp_mono (h _ M w _ hr hf1) fun e a' w' hl=>?_;obtain ⟨a0,rfl,E',σ',M',h1,h2,h3,h4⟩:=hl;have hvs':∀ (i:Nat) (c:CV),(E.vals C caps.toList)[i]? = some c->RV M' w' c (vs.getD i undef):=fun i c hi=>(hvs i c hi).mono h1;have hds:(addDs [{ target:=.fn (.func g) vs,args:=#[]}] a0).defers=[{ target:=.fn (.func g) vs,args:=#[]}]:=by simp [addDs,h3.defers]
 have fin:∀ (b:Bool) (u:CV) (pv:Value),RV M' w' u pv->(c5o C g (E.vals C caps.toList) σ' b u fun σ''=>∃ c,a2c C E' σ'' fn c/\K (.ret c) σ'')->Leaves C.P fn a0.tmps (c4H C M w K) [{ target:=.fn (.func g) vs,args:=#[]}] (b0V b pv) w':=fun b u pv hu hd=>by
  refine leaves_cons (f:=g) (args:=vs) (by cases b <;> simp [b0V]) (by simp [invoke,hg]) ((hd M' w' vs pv h2 hsz hvs' hu).mono fun e u' w'' he=>?_);obtain ⟨⟨x,rfl⟩,rfl,σ'',M'',k1,k2,c,hc,hk⟩:=he;show Leaves C.P fn a0.tmps _ [] (settle _) w'';rw [b5i];obtain ⟨rv,hrv,hrv2⟩:=hc M'' w'' a0 k2 fun t ht=>(h3.rv t ht).mono k1;exact ⟨rv,hrv,c,σ'',M'',h1.trans k1,k2,hrv2,hk⟩
 cases e with
 | normal =>
  show Leaves C.P fn _ _ (addDs _ a0).defers .returning w';rw [hds];exact fin false _ undef (.val _) h4
 | ret =>
  show Leaves C.P fn _ _ (addDs _ a0).defers .returning w';rw [hds];exact fin false _ undef (.val _) h4
 | panic ch =>
  obtain ⟨c,pv,rfl,hpv,h4⟩:=h4;show Leaves C.P fn _ _ (addDs _ a0).defers (.panicking _) w';rw [hds];exact fin true c pv hpv h4
 | exit id=>exact h4.elim
 | goto l=>exact h4.elim
 | outgrown=>exact h4.elim
theorem d2u {g:FuncId} {fn:Func} {y:Code} {caps:List CV} {b:Bool} {u:CV} {K:List b9->Prop} {t1 t2:Nat} {o1 o2:Oper} {ats:Array TypeId} (hf:C.P.funcs[g]? = some fn) (hb:fn.body=some (.seq (.region id ops false) y)) (hr0:fn.results = #[]) (hn:Nat.ble caps.length fn.ntmps=true)
 (hs:ops.size=2) (h0:ops[0]? = some o1) (h1:ops[1]? = some o2) (g1:o1.guard=none) (g2:o2.guard=none) (d1:o1.dst=some t1) (d2:o2.dst=some t2) (ht1:t1 < fn.ntmps) (ht2:t2 < fn.ntmps) (e1:o1.op = .call { callee:=.builtin .recover,args:=#[],argTypes:=ats}) (e2:o2.op = .assign (.tmp t1))
 (h:CWp C fn.ntmps y (fun e _ σ'=>match e with | .normal | .ret=>K σ' | _=>False) (((Env.args caps).put (some t1) (if b then u else .val .nilIface) True).put (some t2) (if b then u else .val .nilIface) True) σ):c5o C g caps σ b u K:=fun M w vs v hr hsz hvs hu=>by
 refine callsD_of_wpS hf hb fun c₀ cs hc₀=>?_;refine wpS_seq (wpS_region ?_);rw [hs];have hrec:recoverD (c₀::cs)=if b then some (v,{ c₀ with mode:=Z8 b v}::cs) else none:=by
  unfold recoverD;simp only [hc₀];cases b <;> simp [b0V,Z8]
 have f0:=b3J (n:=fn.ntmps) (nb hn) hsz hvs;generalize hact:({ tmps:=vs++Array.replicate (fn.ntmps - vs.size) undef,defers:=[]}:Act)=a0 at f0;have hrun1:(execOp a0.eval o1).run C.P w = .ok .recover w:=by simp [execOp,e1,resolve,invoke,builtin]
 have rest:∀ (x:Value) (cs':List Frame),cs'={ c₀ with mode:=Z8 b v}::cs->RV M w (if b then u else .val .nilIface) x->wpOpsS C.P ops (Exit.thenS (y.wpS C.P (bodyPostS C.P fn c₀ cs fun e u' w'=>(∃ x,e = .returned x)/\u'=Z8 b v/\∃ σ' M',Ext M w M' w'/\Rel C M' σ' w'/\K σ')) (bodyPostS C.P fn c₀ cs fun e u' w'=>(∃ x,e = .returned x)/\u'=Z8 b v/\∃ σ' M',Ext M w M' w'/\Rel C M' σ' w'/\K σ')) [1] (a0.put (some t1) x) cs' w:=by
  intro x cs' hcs hx;have f1:J9 M w fn.ntmps ((Env.args caps).put (some t1) (if b then u else .val .nilIface) True) (a0.put (some t1) x):=f0.put (fun t' ht'=>by injection ht' with ht';omega) (fun _=>hx) fun hh=>absurd trivial hh;have hev:(a0.put (some t1) x).eval (.tmp t1)=x:=by
   have hsz:t1 < a0.tmps.size:=by rw [f0.size];exact ht1
   simp [Act.eval,Act.put,hsz]
  have hrun2:(execOp (a0.put (some t1) x).eval o2).run C.P w = .ok (.value x) w:=by simp [execOp,e2,hev]
  have f2:J9 M w fn.ntmps (((Env.args caps).put (some t1) (if b then u else .val .nilIface) True).put (some t2) (if b then u else .val .nilIface) True) ((a0.put (some t1) x).put (some t2) x):=f1.put (fun t' ht'=>by injection ht' with ht';omega) (fun _=>hx) fun hh=>absurd trivial hh;simp only [wpOpsS,h1,Region.wanted,g2,if_true,hrun2,Oper.upon_value,d2,Exit.thenS];refine wpS_of_wp (wp_mono (h M w _ hr f2) fun e a' w' hl=>?_);obtain ⟨E',σ',M',k1,k2,k3,k4⟩:=hl;subst hcs;cases e with
  | normal=>exact ⟨k3.defers,_,rfl,_,results_none hr0 _ _ _,⟨_,rfl⟩,rfl,σ',M',k1,k2,k4⟩
  | ret=>exact ⟨k3.defers,_,rfl,_,results_none hr0 _ _ _,⟨_,rfl⟩,rfl,σ',M',k1,k2,k4⟩
  | panic ch =>
   obtain ⟨c,pv,_,_,k4⟩:=k4;exact k4.elim
  | exit id=>exact k4.elim
  | goto l=>exact k4.elim
  | outgrown=>exact k4.elim
 show wpOpsS C.P ops _ [0,1] _ _ _;unfold wpOpsS;simp only [h0,Region.wanted,g1,if_true,hrun1,hrec,d1];cases b with
 | true=>exact rest v _ rfl hu
 | false =>
  refine rest .nilIface _ ?_ (.val _);simp [Z8,b0V] at hc₀ ⊢;cases c₀
  simp_all
section
def b0B:Value->Bool
 | .iface _ _=>true
 | _=>false
theorem c2X {ms:Array (String × TypeId)} (ho:o.op = .binOp .neq t x (.const .nilIface) t') (hx:E.valid x) (ex:E.val C x = .val v) (hu:∀ w,(underlying t).run C.P w = .ok (.interface ms) w) (hv:v = .nilIface\/∃ a b,v = .iface a b):o4 C σ E o (.val (.bool (b0B v))) :=
 i8 fun M w ρ _ h=>by
  have h1:=h x x9 hx;rw [ex] at h1;have e1:=r2 h1;have e2:=h (.const .nilIface) x9 rfl;have e3:=r2 e2;refine ⟨.bool (b0B v),?_,.val _⟩
  rcases hv with rfl | ⟨a,b,rfl⟩
  ·have he:(Op.equal t .nilIface .nilIface).run C.P w = .ok true w:=by
    unfold Op.equal;rw [show Op.maxDepth=(Op.maxDepth - 1)+1 from rfl,Op.equalIn];simp [hu]
   simp [execOp,ho,e1,e3,eqGuard,binOp,he,b0B]
  ·have he:(Op.equal t (.iface a b) .nilIface).run C.P w = .ok false w:=by
    unfold Op.equal;rw [show Op.maxDepth=(Op.maxDepth - 1)+1 from rfl,Op.equalIn];simp [hu]
   simp [execOp,ho,e1,e3,eqGuard,binOp,he,b0B]
theorem c4X {s:TypeId} {xs:List Value} {u:TypeDesc} (ho:o.op = .typeAssert x s t true) (hx:E.valid x) (ex:E.val C x = .val (.iface t (.agg xs.toArray))) (hu:∀ w,(underlying t).run C.P w = .ok u w) (hi:b0F u=false) (h1x:(xs.all fun v=>(CV.val v).one)=true):o4 C σ E o (.tup [plain xs,.val (.bool true)]) :=
 i8 fun M w ρ _ h=>by
  have h1:=h x x9 hx;rw [ex] at h1;have e1:=r2 h1;refine ⟨.tuple #[.agg xs.toArray,.bool true],?_,.tup rfl fun i c hc=>?_⟩
  ·simp [execOp,ho,e1,Instr.typeAssert,hu];cases u <;> simp [b0F] at hi ⊢
  ·rcases i with _ | _ | i
   ·injection hc with hc;subst hc
    refine .agg si_ (fun c hc=>?_) fun i c hc=>?_
    ·obtain ⟨v,hm,rfl⟩:=K5.1 hc;exact a0z.1 h1x v hm
    ·rw [O9,O3] at hc;obtain ⟨v,hv,rfl⟩:=hc;have:(xs.toArray).getD i undef=v:=by simp [W4,hv]
     show RV M w (.val v) ((xs.toArray).getD i undef);rw [this];exact .val v
   ·injection hc with hc;subst hc;exact .val _
   ·cases hc
end
def b1z (σ:List b9):List Nat->List b9->List b9
 | k::sel,x::xs=>(b1z σ sel xs).set k x
 | _,_=>σ
theorem b2J (σ:List b9):∀ (sel:List Nat) (xs:List b9),(b1z σ sel xs).length=σ.length
 | [],_=>by cases ‹List b9› <;> rfl
 | _::_,[]=>rfl
 | k::sel,x::xs=>by rw [b1z,List.length_set,b2J σ sel xs]
theorem b6f {σ:List b9}:∀ {sel:List Nat} {xs:List b9} {k:Nat},k∉sel->(b1z σ sel xs)[k]? = σ[k]?
 | [],xs,k,_=>by cases xs <;> rfl
 | j::sel,[],k,_=>rfl
 | j::sel,x::xs,k,h=>by
  rw [b1z,a2V (fun e=>h (by rw [<- e];simp))];exact b6f fun hm=>h (by simp [hm])
theorem c1B {σ:List b9}:∀ {sel:List Nat} {xs:List b9} {i k:Nat} {x:b9},(∀ (i j k:Nat),sel[i]? = some k->sel[j]? = some k->i=j)->k < σ.length->sel[i]? = some k->xs[i]? = some x->(b1z σ sel xs)[k]? = some x
 | [],xs,i,k,x,_,_,h,_=>by simp at h
 | j::sel,[],i,k,x,_,_,_,h=>by simp at h
 | j::sel,y::xs,0,k,x,_,hk,h,hx=>by
  simp at h hx;subst h hx;rw [b1z];simp [b2J,hk]
 | j::sel,y::xs,i+1,k,x,hnd,hk,h,hx=>by
  have hne:j≠k:=fun e=>by
   subst e;have:=hnd 0 (i+1) j rfl h;omega
  rw [b1z,a2V hne];exact c1B (fun a b c h1 h2=>by
   have:=hnd (a+1) (b+1) c (sp_ h1) (sp_ h2);omega) hk (sp_ h) (sp_ hx)
theorem Q5.mono (hR:∀ k k',R k k'->R' k k') (h:Q5 R c c'):Q5 R' c c':=(h.symm (R':=fun a b=>R' b a) fun _ _ h=>hR _ _ h).symm fun _ _ h=>h
theorem J4.mono (hR:∀ k k',R k k'->R' k k') {a:b9} (h:J4 R a b):J4 R' a b:=(h.symm (R':=fun a b=>R' b a) fun _ _ h=>hR _ _ h).symm fun _ _ h=>h
def b5v (sel:List Nat):Prop:=∀ (i j k:Nat),sel[i]? = some k->sel[j]? = some k->i=j
theorem b5f (sel:List Nat) (hC:C.plain) (hlen:sel.length=obs.length) (hnd:b5v sel)
 (hobs:∀ (i k:Nat) (ob:b9),sel[i]? = some k->obs[i]? = some ob->∃ ob',σ[k]? = some ob'/\J4 (fun k i=>sel[i]? = some k) ob' ob) (hargs:a2h (fun k i=>sel[i]? = some k) args' args)
 {res res':α->X7} {S S':α->List b9} {P:α->Prop} (h:b8 C f args obs fun r τ=>∃ a,r=res a/\τ=S a/\P a) (hS:∀ a,(S a).length=obs.length)
 (hrel:∀ a (i k:Nat) (x:b9),sel[i]? = some k->(S a)[i]? = some x->∃ x',(S' a)[i]? = some x'/\J4 (fun i k=>sel[i]? = some k) x x') (hres:∀ a,a6X (fun i k=>sel[i]? = some k) (res a) (res' a)) :
 b8 C f args' σ fun r τ=>∃ a,r=res' a/\τ=b1z σ sel (S' a)/\P a:=by
 refine J5 sel hC hlen hnd hobs hargs h fun r τ hk=>?_;obtain ⟨a,rfl,rfl,hp⟩:=hk;have up:∀ {c c':CV},Q5 (fun i k=>sel[i]? = some k) c c'->Q5 (a0l sel σ.length) c c':=fun hh=>Q5.mono (fun _ _ h=>.inl h) hh;refine ⟨by rw [hS];exact n_4 _,res' a,b1z σ sel (S' a),?_,by rw [b2J,hS];omega,fun k _ hks=>b6f hks,fun i k x ha hx=>?_,a,rfl,rfl,hp⟩
 ·have:=hres a;generalize hra:res a=ra at this;generalize hrb:res' a=rb at this;cases this with
  | ret h=>exact .ret (up h)
  | pan h=>exact .pan (up h)
 ·rcases ha with ha | ⟨ha,_⟩
  ·obtain ⟨x',h1,h2⟩:=hrel a i k x ha hx;have hks:k < σ.length:=by
    have hi:i < obs.length:=by rw [<- hlen];exact (n_1.1 ha).1
    obtain ⟨ob',g1,_⟩:=hobs i k obs[i] ha (by simp [hi]);exact (n_1.1 g1).1
   exact ⟨x',c1B hnd hks ha h1,J4.mono (fun _ _ h=>.inl h) h2⟩
  ·have:=(n_1.1 hx).1;rw [hS,<- hlen] at this;omega
theorem b1f (sel:List Nat) (hC:C.plain) (hlen:sel.length=obs.length) (hnd:b5v sel) {obs':List b9}
 (hobs:∀ (i k:Nat) (ob:b9),sel[i]? = some k->obs[i]? = some ob->∃ ob',obs'[i]? = some ob'/\σ[k]? = some ob'/\J4 (fun i k=>sel[i]? = some k) ob ob') (hargs:a2h (fun k i=>sel[i]? = some k) args' args)
 {c:α->CV} {P:α->Prop} (hc:∀ a,P a->r9 (c a)) (h:b8 C f args obs fun r τ=>∃ a,r = .ret (c a)/\τ=obs/\P a):b8 C f args' σ fun r τ=>∃ a,r = .ret (c a)/\τ=σ/\P a:=by
 refine J5 sel hC hlen hnd (fun i k ob g1 g2=>?_) hargs h fun r τ hk=>?_
 ·obtain ⟨ob',_,h2,h3⟩:=hobs i k ob g1 g2;exact ⟨ob',h2,h3.symm fun _ _ h=>h⟩
 ·obtain ⟨a,rfl,rfl,hp⟩:=hk;refine ⟨n_4 _,.ret (c a),σ,.ret (.pure (hc a hp)),om_,fun _ _ _=>rfl,fun i k x ha hx=>?_,a,rfl,rfl,hp⟩
  rcases ha with ha | ⟨ha,_⟩
  ·obtain ⟨ob',_,h2,h3⟩:=hobs i k x ha hx;exact ⟨ob',h2,J4.mono (fun _ _ h=>.inl h) h3⟩
  ·have:=(n_1.1 hx).1;rw [<- hlen] at this;omega
theorem a4g (hC:C.plain) (hargs:∀ a∈args,r9 a) {res':α->Nat->X7} {S:α->List b9} {S':α->Nat->List b9} {P:α->Prop} (h:b8 C f args [] fun r τ=>∃ a,r=res a/\τ=S a/\P a)
 (hlen:∀ a n,(S' a n).length=(S a).length) (hrel:∀ a (n i:Nat) (x:b9),(S a)[i]? = some x->∃ x',(S' a n)[i]? = some x'/\J4 (fun i k=>k=n+i) x x') (hres:∀ a n,a6X (fun i k=>k=n+i) (res a) (res' a n)) (σ:List b9) :
 b8 C f args σ fun r τ=>∃ a,r=res' a σ.length/\τ=σ++S' a σ.length/\P a:=by
 refine J5 [] hC rfl (fun i j k h=>by simp at h) (fun i k ob h=>by simp at h) (by
  refine ⟨rfl,fun i c c' h h'=>?_⟩;rw [h] at h';injection h' with h';subst h'
  exact .pure (hargs c (n_0 h))) h fun r τ hk=>?_
 obtain ⟨a,rfl,rfl,hp⟩:=hk;have up:∀ i k,k=σ.length+i->a0l [] σ.length i k:=fun i k h=>.inr ⟨n_3 _,sp_ h⟩;refine ⟨n_3 _,res' a σ.length,σ++S' a σ.length,?_,by simp [hlen],fun k hk _=>M5 hk,fun i k x ha hx=>?_,a,rfl,rfl,hp⟩
 ·have:=hres a σ.length;generalize hra:res a=ra at this;generalize hrb:res' a σ.length=rb at this;cases this with
  | ret h=>exact .ret (Q5.mono up h)
  | pan h=>exact .pan (Q5.mono up h)
 ·rcases ha with ha | ⟨_,ha⟩
  ·simp at ha
  ·obtain ⟨x',h1,h2⟩:=hrel a σ.length i x hx;refine ⟨x',?_,J4.mono up h2⟩;rw [ha,a0y om_];simpa using h1
section
theorem b2u (hr:Rel C M σ w) (h:RV M w c v) (ho:c.one=true\/∃ cs,c = .agg cs) (hk:K (.ret (.ptr σ.length 0)) (σ++[.boxT (some t) c.cells])) :
 a4q C M w K (.pointer (some ⟨w.heap.size,0,none⟩)) (w.alloc (.cells v.cells t)):=by
 obtain ⟨h1,h2,h3⟩:=h.cells ho;have hx:=Ext.alloc hr ⟨w.heap.size,0,0⟩ (.cells v.cells t);refine ⟨.ptr σ.length 0,_,_,hx,hr.alloc ⟨w.heap.size,0,0⟩ _ (.boxT (some t) c.cells) rfl ⟨v.cells,t,A3 w _,h1,h2,fun i x hi=>(h3 i x hi).mono hx⟩,?_,hk⟩;exact .ptr (p:=⟨w.heap.size,0,0⟩) b2s
theorem d7S (ho:o.op = .box t x) (hx:E.valid x) (ex:E.val C x=c) (hc:c.one=true\/∃ cs,c = .agg cs) (hk:K (.ret (.ptr σ.length 0)) (σ++[.boxT (some t) c.cells])):K1 C σ E o K:=fun M w ρ hr h=>by
 have h1:=h x x9 hx;rw [ex] at h1;have:(execOp ρ o).run C.P w = .ok (.value (.pointer (some ⟨w.heap.size,0,none⟩))) (w.alloc (.cells (ρ x).cells t)):=by
  simp [execOp,ho,Instr.box,a19]
 rw [this];exact b2u hr h1 hc hk
theorem b8I (ho:o.op = .alloc t) (hz:∀ w,(zeroValue t).run C.P w = .ok z w) (hz1:M4 z=true) (hz2:(H9 z).one=true\/∃ cs,H9 z = .agg cs) (hk:K (.ret (.ptr σ.length 0)) (σ++[.boxT (some t) (H9 z).cells])):K1 C σ E o K:=fun M w ρ hr h=>by
 have:(execOp ρ o).run C.P w = .ok (.value (.pointer (some ⟨w.heap.size,0,none⟩))) (w.alloc (.cells z.cells t)):=by
  simp [execOp,ho,Instr.alloc,hz,a19]
 rw [this];exact b2u hr (Y0 hz1) hz2 hk
theorem b8r {te:TypeId} (ho:o.op = .binOp .eql t x (.const (.pointer none)) t') (hx:E.valid x) (ex:E.val C x = .ptr k off) (hu:∀ w,(underlying t).run C.P w = .ok (.pointer te) w):o4 C σ E o (.val (.bool false)) :=
 i8 fun M w ρ _ h=>by
  have h1:=h x x9 hx;rw [ex] at h1;have e2:=r2 (h (.const (.pointer none)) x9 rfl);generalize hv:ρ x=v at h1;cases h1 with
  | ptr hp =>
   rename_i p;have he:(Op.equal t (.pointer (some ⟨p.block,off,none⟩)) (.pointer none)).run C.P w = .ok false w:=by
    unfold Op.equal;rw [show Op.maxDepth=(Op.maxDepth - 1)+1 from rfl,Op.equalIn];simp [hu]
   exact ⟨.bool false,by simp [execOp,ho,hv,e2,eqGuard,binOp,he],.val _⟩
theorem c48 {te:TypeId} (ho:o.op = .binOp .eql t x (.const (.pointer none)) t') (hx:E.valid x) (ex:E.val C x = .val (.pointer none)) (hu:∀ w,(underlying t).run C.P w = .ok (.pointer te) w):o4 C σ E o (.val (.bool true)) :=
 i8 fun M w ρ _ h=>by
  have h1:=h x x9 hx;rw [ex] at h1;have e1:=r2 h1;have e2:=r2 (h (.const (.pointer none)) x9 rfl);have he:(Op.equal t (.pointer none) (.pointer none)).run C.P w = .ok true w:=by
   unfold Op.equal;rw [show Op.maxDepth=(Op.maxDepth - 1)+1 from rfl,Op.equalIn];simp [hu]
  exact ⟨.bool true,by simp [execOp,ho,e1,e2,eqGuard,binOp,he],.val _⟩
theorem b4D (ho:o.op = .binOp .neq t x y t') (hx:E.valid x) (hy:E.valid y) (ex:E.val C x = .ptr k off) (ey:E.val C y = .ptr k off) (te':TypeId) (hp:C.P.underlying t=some (.pointer te')) (hte:(C.P.info? te').isSome=true):o4 C σ E o (.val (.bool false)) :=
 i8 fun M w ρ _ h=>by
  obtain ⟨j,hte⟩:=b8w.1 hte;have h1:=h x x9 hx;have h2:=h y x9 hy;rw [ex] at h1;rw [ey] at h2;generalize hv:ρ x=v at h1;generalize hv':ρ y=v' at h2;cases h1 with
  | ptr q1 =>
   rename_i p;cases h2 with
   | ptr q2 =>
    rename_i p';rw [q1] at q2;injection q2 with q2
    subst q2;have:=Lib.run_neq_ptr_same (P:=C.P) (w:=w) ⟨p.block,off,none⟩ hp hte;exact ⟨.bool false,by simp [execOp,ho,hv,hv',eqGuard,this],.val _⟩
theorem c0Y (ho:o.op = .convert src dst x) (hx:E.valid x) (ex:E.val C x = .ptr k off) (hk:σ[k]? = some (.boxT (some e) cells)) (hoff:off < cells.length)
 (t:TypeId) (hs:C.P.underlying src=some (.pointer t)) (hd:C.P.underlying dst=some .unsafePointer) (ht:((C.P.info? t).any fun j=>j.size != 0)=true):o4 C σ E o (.ptr k off) :=
 i8 fun M w ρ hr h=>by
  obtain ⟨j,ht,hj⟩:∃ j,C.P.info? t=some j/\j.size≠0:=by
   rw [Option.any_eq_true_iff_get] at ht;exact ⟨_,Option.eq_some_of_isSome ht.1,sp_ ht.2⟩
  have h1:=h x x9 hx;rw [ex] at h1;generalize hv:ρ x=v at h1;cases h1 with
  | ptr hp =>
   rename_i p;obtain ⟨arr,ty,e1,e2,_⟩:=(hr.obj k p _ hp hk).1;have hsh:w.shape? p.block=some (e,arr.size):=by simp [World.shape?,e1]
   have:=Lib.run_to_unsafe (P:=C.P) (w:=w) (src:=src) (dst:=dst) ⟨p.block,off,none⟩ hs hd ht hj hsh (by rw [e2];exact hoff);exact ⟨_,by simp [execOp,ho,hv,this],.ptr hp⟩
theorem b46 (ho:o.op = .convert src dst x) (hx:E.valid x) (ex:E.val C x = .ptr k off) (hk:σ[k]? = some (.boxT (some e) cells))
 (u:TypeId) (hs:C.P.underlying src=some .unsafePointer) (hd:C.P.underlying dst=some (.pointer u)) (ht:(C.P.info? u).isSome=true) (hl:liesAt C.P C.P.depth e (cells.length / C.P.cellsOf e) off u 1=true):o4 C σ E o (.ptr k off) :=
 i8 fun M w ρ hr h=>by
  obtain ⟨j,ht⟩:=b8w.1 ht;have h1:=h x x9 hx;rw [ex] at h1;generalize hv:ρ x=v at h1;cases h1 with
  | ptr hp =>
   rename_i p;obtain ⟨arr,ty,e1,e2,_⟩:=(hr.obj k p _ hp hk).1;have hsh:w.shape? p.block=some (e,arr.size):=by simp [World.shape?,e1]
   have:=Lib.run_from_unsafe (P:=C.P) (w:=w) (src:=src) (dst:=dst) ⟨p.block,off,none⟩ hs hd ht hsh (by rw [e2];exact hl);exact ⟨_,by simp [execOp,ho,hv,this],.ptr hp⟩
theorem d7s {f : FuncId} {fn : Func} {e : Array Value → Sem Value} {ts : Array TypeId} {x : Operand} {c : CV} (ho : o.op = .call { callee := .value (.func f), args := #[x], argTypes := ts }) (hf : C.P.funcs[f]? = some fn) (hname : (fn.name == "runtime.NumGoroutine") = false) (hb : fn.body.isNone = true) (hn : Extern.findNext fn = none) (he : Extern.find fn = some e)
 (hx:E.valid x) (ex:E.val C x=c) (hr:∀ v w,(e #[v]).run C.P w = .ok v w):o4 C σ E o c :=
 i8 fun M w ρ _ hh=>by
  have h1:=hh x I7 hx;have hfn:=r2 (hh (.func f) I7 tt);rw [ex] at h1;refine ⟨ρ x,?_,h1⟩;have:=a1Z (args:=#[ρ x]) (w:=w) hf hname hb hn he (hr (ρ x) w);simp [execOp,ho,resolve,hfn,Deferred.ofValue,invoke,this]
theorem b8D (ho:o.op = .call { callee:=.builtin .unsafeSliceData,args:=#[x],argTypes:=#[t]}) (hx:E.valid x) (ex:E.val C x = .list rows true (some k)) (hne:rows≠[]):o4 C σ E o (.eptr k 0 0) :=
 i8 fun M w ρ _ h=>by
  have h1:=h x I7 hx;rw [ex] at h1;obtain ⟨a,cap,b,off,s,vals,hv,hcap,hcmax,hnn,hn0,ha,hrl,hone,hc,hrv,htok⟩:=h1.list_inv;obtain ⟨s',hp,ha0,rfl,hs⟩:=htok k rfl;have hl:0 < rows.length:=a85.2 hne;refine ⟨.pointer (some ⟨b,0,none⟩),?_,?_⟩
  ·have:=Lib.run_unsafeSliceData_row (P:=C.P) (w:=w) #[t] o.type ⟨b,0,none⟩ rows.length cap om_;simp [execOp,ho,resolve,invoke,builtin,hv,ha0,this]
  ·have:=RV.eptr (w:=w) (i:=0) (off:=0) hp;simpa using this
theorem b5E (ho:o.op = .call { callee:=.builtin .unsafeSliceData,args:=#[x],argTypes:=#[t]}) (hx:E.valid x) (ex:E.val C x = .list [] false none):o4 C σ E o (.val (.pointer none)) :=
 i8 fun M w ρ _ h=>by
  have h1:=h x I7 hx;rw [ex] at h1;obtain ⟨a,cap,b,off,s,vals,hv,hcap,hcmax,hnn,hn0,ha,hrl,hone,hc,hrv,htok⟩:=h1.list_inv;have:a=none:=by cases a <;> first|rfl | simp at hnn
  subst this;refine ⟨.pointer none,?_,.val _⟩;have:=Lib.run_unsafeSliceData_nil (P:=C.P) (w:=w) #[t] o.type ([]:List (List CV)).length cap;simp only [I4] at this hv;simp [execOp,ho,resolve,invoke,builtin,hv,this]
theorem Rel.tipKill (hr:Rel C M σ w) {t0:Option TypeId} {cur:Array Value} {ty:TypeId} {fr fr':Nat × Nat} (hp:M.pl[k]? = some p) (hk:σ[k]? = some (.tipT t0 n)) (hc:w.heap[p.block]? = some (.cells cur ty fr)) :
 Ext M w M (World.putObj w p.block (.cells cur ty fr'))/\Rel C M (σ.set k .dead) (World.putObj w p.block (.cells cur ty fr')):=by
 obtain ⟨⟨q1,q2,q3,cur0,ty0,q4,q5⟩,hfree⟩:=hr.obj k _ _ hp hk;have hb:p.block < w.heap.size:=(T9.1 hc).1;have hx:Ext M w M (World.putObj w p.block (.cells cur ty fr')):=by
  refine ⟨⟨[],si_⟩,fun _ h=>h,fun _ _ h=>.inr h,fun b' h=>World.putObj_other w _ (fun e=>hfree (e ▸ h)),fun b' o' h=>?_,by rw [World.putObj_size];exact n_4 _,P1,rfl,rfl,rfl,fun b' h=>⟨h,World.putObj_other w _ (fun e=>hr.nk k p _ hp hk rfl (e ▸ h)),id,fun _=>id⟩⟩;by_cases he:p.block=b'
  ·subst he;simp only [World.cell?,World.putObj_same w _ hb,hc]
  ·exact L0 (World.putObj_other w _ he)
 have hd:=hr.dead k;refine ⟨hx,hd.len,fun b o' ha=>by rw [World.putObj_size];exact hr.blk b o' ha,fun k' p' x hp' hx'=>?_,hd.inj,fun g cells hg=>(hr.glob g cells hg).mono hx,fun b h=>(by rw [World.putObj_size];exact hr.kep b h),hd.nk⟩;obtain ⟨h1,h2⟩:=hd.obj k' p' x hp' hx';refine ⟨?_,h2⟩;by_cases hl:x.live=true
 ·have hkk:k'≠k:=by
   rintro rfl;rw [b3a (n_1.1 hk).1] at hx';injection hx' with hx'
   subst hx';cases hl
  rw [a2V (Ne.symm hkk)] at hx';have hne:p.block≠p'.block:=fun e=>hkk (hr.inj k' k p' p x _ hp' hp hx' hk hl rfl e.symm);exact h1.mono hx (World.putObj_other w _ hne) (fun _ _ _ _ h=>h)
 ·cases x <;> first | trivial | simp [b9.live] at hl
theorem c1j {b:Nat} {cur:Array Value} {ty:TypeId} {fr:Nat × Nat} (hc:w.heap[b]? = some (.cells cur ty fr)) (hn:n≠0):∃ fr',w.freeze ⟨b,0,none⟩ n=World.putObj w b (.cells cur ty fr'):=by
 have hb:b < w.heap.size:=(T9.1 hc).1;obtain ⟨lo,hi⟩:=fr;refine ⟨if lo == hi then (0,0+n) else (min lo 0,max hi (0+n)),?_⟩;have hg:w.heap[b] = .cells cur ty (lo,hi):=by
  have:=(T9.1 hc).2;exact this
 simp only [World.freeze,if_neg hn,World.putObj]
 congr 1
 apply c0s;intro i;rw [c5M,Array.getElem?_setIfInBounds];by_cases hi':b=i
 ·subst hi';simp [hb,hg]
 ·simp [hi']
theorem b1t {pt it:TypeId} {t0:Option TypeId} (ho:o.op = .call { callee:=.builtin .unsafeString,args:=#[x,y],argTypes:=#[pt,it]}) (hx:E.valid x) (hy:E.valid y) (ex:E.val C x = .eptr q 0 0) (ey:E.val C y = .val (.int .i64 l.length))
 (hq:σ[q]? = some (.tipT (some e) l.length)) (hk:σ[k]? = some (.boxT t0 cells)) (hi:cells[i]? = some (.list (l.map bcv) true (some q))) (hne:l≠[])
 (hp:C.P.underlying pt=some (.pointer e)) (hc:C.P.cellsOf e=1) (h:K (.ret (sv l)) (σ.set q .dead)):K1 C σ E o K:=fun M w ρ hr hh=>by
 have h1:=hh x I7 hx;have h2:=r2 (ey ▸ hh y I7 hy);rw [ex] at h1;generalize hv:ρ x=v at h1;cases h1 with
 | eptr hpl =>
  rename_i p;obtain ⟨pk,hpk⟩:∃ pk,M.pl[k]? = some pk:=by
   have:=(n_1.1 hk).1;rw [<- hr.len] at this;exact ⟨_,a2b this⟩
  obtain ⟨arr,ty,e1,e2,e3,e4⟩:=(hr.obj k pk _ hpk hk).1;obtain ⟨a,cap,b,off,s,vals,hvv,hcap,hcmax,hnn,hn0,ha,hrl,hone,hcell,hrv,htok⟩:=(e4 i _ hi).list_inv;obtain ⟨s',hp',ha0,rfl,hs⟩:=htok q rfl;rw [hpl] at hp';injection hp' with hp'
  subst hp';have hne':l.map bcv≠[]:=sp_ hne;have hs1:s=1:=by
   cases l with
   | nil=>exact absurd rfl hne
   | cons x l=>exact (hrl (bcv x) si_).symm
  subst hs1;have hs':=hs hne';subst hs';obtain ⟨⟨q1,q2,q3,cur,ty',q4,q5⟩,_⟩:=hr.obj q _ _ hpl hq;simp only [a7R,c1g] at q1 q4 q5;have hcells:∀ j x,l[j]? = some x->w.cell? ((⟨b,0,none⟩:Addr).add j)=some (.int .u8 x.toNat):=fun j x hj=>by
   have g:(l.map bcv)[j]? = some (bcv x):=by rw [O9,hj];rfl
   have:=(hcell j 0 _ _ g rfl).2;have hz:=r2 (hrv j 0 _ _ g rfl);rw [hz] at this;simp only [c1g,n_9,a4K] at this;rw [U0];simpa using this
  have hlen:l.length<=cap:=sp_ hcap;have hus:=Lib.run_unsafeString_row (P:=C.P) w pt it o.type e hp hc b cur.size (by simp [World.shape?,q4]) l hne (by rw [q5];exact hlen) (by unfold maxLen at hcmax;omega) hcells;obtain ⟨fr',hfr⟩:=c1j q4 (n:=l.length) (sp_ hne);have hrun:(execOp ρ o).run C.P w = .ok (.value (.string ⟨l.toArray⟩)) (World.putObj w b (.cells cur e fr')):=by
   rw [<- hfr];simp [execOp,ho,resolve,invoke,builtin,hv,h2,hus]
  rw [hrun];obtain ⟨g1,g2⟩:=hr.tipKill (fr':=fr') hpl hq q4;exact ⟨_,_,_,g1,g2,.val _,h⟩
theorem b5m (ey:E.val C y=sv l):∀ M w v,Rel C M σ w->RV M w (E.val C y) v->c0X C w M (l.map bcv) 1 v:=fun M w v _ h=>by
 rw [ey] at h;have hv:=r2 h;subst hv;refine ⟨fun w'=>by simp [Builtin.lenOf,str,ByteArray.size],fun r hr=>?_,(l.map fun b=>Value.int .u8 b.toNat).toArray,?_,si_,fun i j r c hi hj=>?_⟩
 ·obtain ⟨b,_,rfl⟩:=K5.1 hr;rfl
 ·simp [Builtin.firstCells,str]
 ·rw [O9,O3] at hi;obtain ⟨b,hb,rfl⟩:=hi
  rcases j with _ | j
  ·simp only [bcv,c5B,Option.some.injEq] at hj;subst hj;refine ⟨?_,rfl⟩;have:((l.map fun b=>Value.int .u8 b.toNat).toArray).getD (i*1+0) undef = .int .u8 b.toNat:=by simp [W4,hb]
   rw [this];exact .val _
  ·cases hj
end
def A1 (t:TypeId):Nat->b9
 | 0=>.dead
 | n+1=>.tipT (some t) (n+1)
def a09 (l:Str) (p:Nat):CV:=.list (l.map bcv) (gnn l.length) (G9 l.length p)
theorem b3o (t:TypeId) (n m:Nat):I8 n (A1 t m):=by cases m <;> trivial
section
theorem a38 {t2:TypeId} {new:Str} {p:Nat} {ti:TypeInfo} (ho:o.op = .call { callee:=.builtin .append,args:=#[x,y],argTypes:=#[t,t2]}) (hx:E.valid x) (hy:E.valid y) (ex:E.val C x=a09 l p)
 (hsrc:∀ M w v,Rel C M σ w->RV M w (E.val C y) v->c0X C w M (new.map bcv) 1 v) (hu:∀ w,(underlying t).run C.P w = .ok (.slice e) w) (hs:∀ w,(sizeOf e).run C.P w = .ok 1 w) (hti:∀ w,(typeInfo e).run C.P w = .ok ti w) (hz:∀ w,(zeroValue e).run C.P w = .ok z w) (hzs:z.cells.size=1)
 (hu2:(∀ w,(underlying t2).run C.P w = .ok (.slice e) w)\/∀ w,(underlying t2).run C.P w = .ok .string w) (hb1:ti.bytes=1)
 (happ:σ[p]? = some (A1 e l.length)) (hb:l.length+new.length<=140737488355328)
 (hk:K (.ret (a09 (l++new) σ.length)) (σ.set p .dead++[A1 e (l++new).length])):K1 C σ E o K:=by
 have hrs:∀ (l:Str),∀ r∈l.map bcv,r.length=1:=fun l r hr=>by
  obtain ⟨b,_,rfl⟩:=K5.1 hr;rfl
 rcases new with _ | ⟨r1,new⟩
 ·
  intro M w ρ hr hh;have h1:=hh x I7 hx;have h2:=hh y I7 hy;rw [ex,a09] at h1;obtain ⟨hlen,_,arr,hfn,hszn,_⟩:=hsrc M w _ hr h2;obtain ⟨a,cap,b,off,s',vals,hv,hcap,hcmax,hnn,hn0,ha,hrl,hone,hc,hrv,htok⟩:=h1.list_inv;have hexec:(execOp ρ o).run C.P w=((Builtin.append_ #[t,t2] o.type #[ρ x,ρ y]).run C.P w).andThen fun v w=>.ok (.value v) w:=by
   simp [execOp,ho,resolve,invoke,builtin]
  have harr:arr = #[]:=by
   apply Array.eq_empty_of_size_eq_zero;simpa using hszn
  subst harr;have hlen':∀ w',(Builtin.lenOf (ρ y)).run C.P w' = .ok 0 w':=sp_ hlen;have hfn':(Builtin.firstCells 1 0 (ρ y)).run C.P w = .ok #[] w:=sp_ hfn;have hcap':l.length<=cap:=sp_ hcap;have hrun:(execOp ρ o).run C.P w = .ok (.value (.slice a (l.map bcv).length cap)) w:=by
   rw [hexec,hv]
   rcases hu2 with hu2 | hu2
   all_goals
    cases a with
    | none=>simp [Builtin.append_,hu,hu2,hs,hlen',hfn',hcap']
    | some a=>simp [Builtin.append_,hu,hu2,hs,hlen',hfn',hcap',storeCells]
  rw [hrun];simp only [a2q] at hk
  rcases l with _ | ⟨r0,l⟩
  ·obtain ⟨hr1,hx1⟩:=(hr.dead p).addDead ⟨0,0,0⟩;exact ⟨_,_,_,hx1,hr1,by simpa [a09,gnn,G9,hv] using h1.mono hx1,hk⟩
  ·obtain ⟨sz,hp,ha0,hoff,hsz⟩:=htok p rfl;obtain ⟨hx1,hr1⟩:=hr.tipNew (m:=(r0::l).length) hp happ (n_4 _) hcap';refine ⟨_,_,_,hx1,hr1,?_,hk⟩;have hl:=h1.mono hx1;rw [hv] at hl;obtain ⟨a',cap',b',off',s'',vals',hv',q1,q2,q3,q4,q5,q6,q7,q8,q9,q10⟩:=hl.list_inv;injection hv' with e1 e2 e3
   subst e1 e3;refine RV.list' (L:=((r0::l).map bcv).length) rfl vals' q1 q2 (by rw [q3]) (fun h=>by cases h) q5 q6 q7 q8 q9 (fun k' hk'=>?_);obtain ⟨s3,g1,g2,g3,g4⟩:=q10 p rfl;injection hk' with hk'
   subst hk';refine ⟨s3,?_,g2,g3,g4⟩;have e4:=hx1.get hp;rw [g1] at e4;rw [e4];simp [z6.add,<- hr.len]
 ·have hne:(r1::new).map bcv≠[]:=by simp
  have hbb:((l.map bcv).length+((r1::new).map bcv).length)*ti.bytes<=140737488355328:=by rw [hb1];simp only [a2O];simpa using hb
  have hmm:(l.map bcv).length+((r1::new).map bcv).length<=9223372036854775807:=by simp only [a2O];simp only [n_7] at hb ⊢;omega
  have hK:K (.ret (.list (l.map bcv++(r1::new).map bcv) true (some σ.length))) (σ.set p .dead++[.tipT (some e) ((l.map bcv).length+((r1::new).map bcv).length)]):=by
   have e1:(l++r1::new).length=(l.length+new.length)+1:=by simp;omega
   have e2:(l.map bcv).length+((r1::new).map bcv).length=(l.length+new.length)+1:=by simp;omega
   rw [a09,e1] at hk;rw [e2,<- b5x];exact hk
  rcases l with _ | ⟨r,l⟩
  ·have hee:σ.set p .dead=σ:=by
    refine c45 fun i=>?_;rw [b2C]
    split
    ·rename_i h';subst h';rw [if_pos (n_1.1 happ).1,happ];rfl
    ·rfl
   rw [hee] at hK;exact a8Y ho hx hy ex hsrc hu hs hti hz hzs hu2 (.inr rfl) a1u (.inl ⟨rfl,rfl,rfl⟩) (hrs []) hne hbb hmm hK
  ·refine a8Y ho hx hy ex hsrc hu hs hti hz hzs hu2 (.inr rfl) a1u (.inr ⟨si_,p,rfl,?_⟩) (hrs _) hne hbb hmm hK;simpa [A1] using happ
theorem b0m {pt it:TypeId} (ho:o.op = .call { callee:=.builtin .unsafeString,args:=#[x,y],argTypes:=#[pt,it]}) (hx:E.valid x) (hy:E.valid y) (ex:E.val C x = .val (.pointer none)) (ey:E.val C y = .val (.int .i64 0)) (h:K (.ret (sv [])) σ):K1 C σ E o K:=fun M w ρ hr hh=>by
 have h1:=r2 (ex ▸ hh x I7 hx);have h2:=r2 (ey ▸ hh y I7 hy);have:=Lib.run_unsafeString_none (P:=C.P) (w:=w) pt it o.type none;have hrun:(execOp ρ o).run C.P w = .ok (.value (.string .empty)) w:=by simp [execOp,ho,resolve,invoke,builtin,h1,h2,this]
 rw [hrun];exact ⟨_,_,_,Ext.refl _ _,hr,.val _,h⟩
end
end Go.Cl
namespace Go.Cl
open Go.Sort
theorem b1I {C:Ctx} {M:z6} {σ:List b9} {w:World} (hr:Rel C M σ w) (k:Nat) (os:Array Obj):Ext M w M (grow (w.drewN k) os)/\Rel C M σ (grow (w.drewN k) os):=by
 have hold:∀ b,b < w.heap.size->(grow (w.drewN k) os).heap[b]? = w.heap[b]?:=fun b hb=>by
  show (w.heap++os)[b]? = _;exact b6N hb
 have hsz:w.heap.size<=(grow (w.drewN k) os).heap.size:=by
  show w.heap.size<=(w.heap++os).size;rw [c1K];omega
 have hx:Ext M w M (grow (w.drewN k) os):=⟨⟨[],si_⟩,fun _ h=>h,fun _ _ h=>.inr h,fun b h=>hold b (hr.blk b 0 (.inl h)),fun b o h=>L0 (hold b (hr.blk b o (.inr h))),hsz,P1,rfl,rfl,rfl,fun b h=>⟨h,hold b (hr.kep b h),id,fun _=>id⟩⟩;refine ⟨hx,hr.len,fun b o h=>b1g (hr.blk b o h) hsz,fun j p ob hp hs=>?_,hr.inj,fun g cells hg=>(hr.glob g cells hg).mono hx,fun b h=>b1g (hr.kep b h) hsz,hr.nk⟩;obtain ⟨h1,h2⟩:=hr.obj j p ob hp hs;refine ⟨?_,h2⟩;by_cases hl:ob.live=true
 ·exact h1.mono hx (hold _ (h1.lt hl)) (fun _ _ _ _ h=>h)
 ·cases ob <;> first | trivial | simp [b9.live] at hl
theorem b1d {C:Ctx} {f:FuncId} {args:List CV} {v:Value} (h:∀ (M:z6) (σ:List b9) (w:World) (vs:Array Value),Rel C M σ w->vs.size=args.length->(∀ (i:Nat) (c:CV),args[i]? = some c->RV M w c (vs.getD i undef)) ->
 Calls C.P f vs w fun e w'=>e = .returned v/\∃ k os,w'=grow (w.drewN k) os) (σ:List b9):b8 C f args σ fun r σ'=>r = .ret (.val v)/\σ'=σ:=fun M w vs hr hn hx=>by
 refine (h M σ w vs hr hn hx).mono fun e w' ⟨he,k,os,hw⟩=>?_;subst he hw;obtain ⟨h1,h2⟩:=b1I hr k os;exact ⟨_,_,_,h1,h2,.val _,rfl,rfl⟩
theorem GV.tab {C:Ctx} {M:z6} {w:World} {name:String} {g:Nat} {k:IntKind} {zs:List Int} (hg:GV M w (zs.map fun z=>.val (.int k z)) g) (hn:C.P.globalNamed name=some g):Lib.TabIs C.P w name k zs:=by
 obtain ⟨arr,ty,fr,h1,h2⟩:=hg.sz;have he:arr=(zs.map fun z=>Value.int k z).toArray:=by
  have hc:=hg.rv;generalize hv:Value.pointer (some ⟨g,0,none⟩)=v at hc;cases hc with
  | cptr vals q1 q2 q3 =>
   injection hv with hv
   injection hv with hv
   injection hv with e1 e2 e3
   subst e1;refine c0s fun i=>?_;by_cases hi:i < zs.length
   ·have hci:(zs.map fun z=>CV.val (.int k z))[i]? = some (.val (.int k zs[i])):=by rw [O9,a2b hi];rfl
    have hz:=(q2 i _ hci).2;have hy:=r2 (q3 i _ hci);rw [hy] at hz;simp only [<- e2,n_9] at hz;simp only [World.cell?,h1,Option.isSome_none,c0a,if_false] at hz;rw [hz];simp [hi]
   ·have:arr.size<=i:=by rw [h2];simp;omega
    rw [a9a this,a9a Q9]
 unfold Lib.TabIs World.var?;rw [hn];simp only [n_6,h1,he]
end Go.Cl
namespace Go.Cl
variable {t e t':TypeId} {x y:Operand} {K:X7->List b9->Prop} {z:Value} {f:FuncId} {C:Ctx} {k s:Nat} {α:Type} {c:α->CV} {P:α->Prop} {args:List CV} {ob:b9} {c':CV}
section
variable {σ:List b9} {E:Env} {o:Oper}
theorem b5R {f : FuncId} {fn : Func} {ps : Array TypeId} {t e : TypeId} {ts : Array TypeId} {x : Operand} {n : Nat} {K : X7 → List b9 → Prop} (ho : o.op = .call { callee := .value (.func f), args := #[x], argTypes := ts }) (hf : C.P.funcs[f]? = some fn) (hname : (fn.name == "runtime.NumGoroutine") = false) (hb : fn.body.isNone = true) (hn : Extern.findNext fn = none) (he : Extern.find fn = some (Extern.BytealgMakeNoZero.makeNoZero ps #[t]))
 (ht:C.P.underlying t=some (.slice e)) (hx:E.valid x) (ex:E.val C x = .val (.int .i64 n)) (hn0:n<=140737488355328) (h:K (.ret (.vec σ.length 0 n)) (σ++[.tipT (some e) 0])):K1 C σ E o K:=fun M w ρ hr hh=>by
 have h1:=r2 (ex ▸ hh x I7 hx);have hfn:=r2 (hh (.func f) I7 tt);obtain ⟨cs,hrun,hle,hmax⟩:=Lib.run_makeNoZero (P:=C.P) w ps t e ht n om_;have hc:=a1Z (args:=#[.int .i64 n]) (v:=.slice (some ⟨w.heap.size,0,none⟩) n cs.size) (w:=w) hf hname hb hn he;have hcall:(callFunc f #[.int .i64 n]).run C.P w = .ok (.value (.slice (some ⟨w.heap.size,0,none⟩) n cs.size)) (w.drew.drew.alloc (.cells cs e)):=by
  simp only [callFunc,Sem.run_bind,run_program,Result.andThen_ok,hf,hname,hb,hn,he];simp [hrun]
 have hex:(execOp ρ o).run C.P w = .ok (.value (.slice (some ⟨w.heap.size,0,none⟩) n cs.size)) (w.drew.drew.alloc (.cells cs e)):=by
  simp [execOp,ho,resolve,hfn,h1,Deferred.ofValue,invoke,hcall]
 rw [hex];obtain ⟨hr1,hx1⟩:=hr.drewN;obtain ⟨hr2,hx2⟩:=hr1.drewN;have hcm:cs.size<=maxLen:=hmax (by unfold maxLen;omega);have hx3:=Ext.alloc hr2 ⟨w.heap.size,cs.size,1⟩ (.cells cs e);have hr3:=hr2.alloc ⟨w.heap.size,cs.size,1⟩ (.cells cs e) (.tipT (some e) 0) rfl ⟨n_3 _,hcm,⟨fun o' ho'=>by have:=hr2.blk _ _ (.inr ho');simp only at this;exact absurd this (Nat.lt_irrefl _),fun _=>rfl⟩,cs,e,A3 _ _,si_⟩;refine ⟨_,_,_,(hx1.trans hx2).trans hx3,hr3,?_,h⟩;have hp:(M.add ⟨w.heap.size,cs.size,1⟩).pl[σ.length]? = some ⟨w.heap.size,cs.size,1⟩:=by simp [z6.add,<- hr.len]
 have:=RV.vec (w:=w.drew.drew.alloc (.cells cs e)) (off:=0) (len:=n) (a:=⟨w.heap.size,0,none⟩) hp (sp_ hle) hcm (fun _=>by simp);simpa using this
theorem b7G {v:Operand} {n:Nat} {kd:IntKind} (ho:o.op = .slice t x none (some v) none) (hx:E.valid x) (hv:E.valid v) (ex:E.val C x = .vec k 0 n) (ev:E.val C v = .val (.int kd 0)) (hn:1<=n) (hu:∀ w,(underlying t).run C.P w = .ok (.slice e) w) (hs:∀ w,(sizeOf e).run C.P w = .ok s w):o4 C σ E o (.list [] true (some k)) :=
 i8 fun M w ρ hr hh=>by
  have hx':=hh x x9 hx;have hv':=r2 (ev ▸ hh v x9 hv);rw [ex] at hx';generalize hw:ρ x=u at hx';cases hx' with
  | vec hp g1 g2 g3 =>
   rename_i p a;have hc:0 < p.cap:=by omega
   have ha:=g3 hc;rw [Nat.zero_mul] at ha;subst ha;have hb:(Instr.sliceBounds true n (p.cap - 0) none (some (.int kd 0)) none).run C.P w = .ok (0,0,p.cap - 0) w:=by
    simp [Instr.sliceBounds,Instr.sliceBound,asIntOf]
   have hne:¬ p.cap=0:=by omega
   have hrun:(execOp ρ o).run C.P w = .ok (.value (.slice (some ⟨p.block,0,none⟩) 0 p.cap)) w:=by
    simp only [Nat.sub_zero] at hb hw;simp [execOp,ho,Instr.sliceAt,Instr.slice,hu,hw,hv',hb,hs,hne,U0]
   refine ⟨_,hrun,?_⟩;exact RV.list' (L:=0) (b:=p.block) (off:=0) (s:=0) rfl (fun _ _=>undef) (n_3 _) g2 rfl (fun h=>by cases h) a1u (fun r hr=>by simp at hr) (fun r hr=>by simp at hr) (fun i j r c hi=>by simp at hi) (fun i j r c hi=>by simp at hi) (fun k' hk'=>by
    injection hk' with hk'
    subst hk';exact ⟨p.size,hp,rfl,rfl,fun h=>absurd rfl h⟩)
theorem d2x {tok:Option Nat} (ho:o.op = .call { callee:=.builtin .copy,args:=#[x,y],argTypes:=#[t,t']}) (hx:E.valid x) (hy:E.valid y) (ex:E.val C x = .list [] true tok) (ey:E.val C y = .list [] false none)
 (hu:∀ w,(underlying t).run C.P w = .ok (.slice e) w) (hs:∀ w,(sizeOf e).run C.P w = .ok s w) (h:K (.ret (.val (.int .i64 0))) σ):K1 C σ E o K:=fun M w ρ hr hh=>by
 have h1:=hh x I7 hx;have h2:=hh y I7 hy;rw [ex] at h1;rw [ey] at h2;obtain ⟨a,cap,b,off,s1,vals,hv,_,_,hnn,_⟩:=h1.list_inv;obtain ⟨a2,cap2,b2,off2,s2,vals2,hv2,_,_,hnn2,_⟩:=h2.list_inv;have ha2:a2=none:=by cases a2 <;> first|rfl | simp at hnn2
 obtain ⟨a1,ha1⟩:∃ a1,a=some a1:=by cases a with | none=>simp at hnn | some a=>exact ⟨a,rfl⟩
 subst ha2 ha1;have hrun:(execOp ρ o).run C.P w = .ok (.value (.int .i64 0)) w:=by
  simp [execOp,ho,resolve,invoke,builtin,hv,hv2,Builtin.copy_,Builtin.lenOf,Builtin.firstCells,hu,hs,storeCells,goInt]
 rw [hrun];exact ⟨_,_,_,Ext.refl _ _,hr,.val _,h⟩
theorem c9U (ho:o.op = .call { callee:=.builtin .cap,args:=#[x],argTypes:=#[t]}) (hx:E.valid x) (ex:E.val C x = .list [] false none) (hu:∀ w,(underlying t).run C.P w = .ok (.slice e) w):o4 C σ E o (.val (.int .i64 0)) :=
 i8 fun M w ρ _ h=>by
  have h1:=h x I7 hx;rw [ex] at h1;obtain ⟨a,cap,b,off,s,vals,hv,_,_,_,hn0,_⟩:=h1.list_inv;have:=hn0 rfl;subst this;exact ⟨.int .i64 0,by simp [execOp,ho,resolve,invoke,builtin,Builtin.cap_,hu,hv,goInt],.val _⟩
theorem d1B {t2:TypeId} {new:Str} {p:Nat} {ti:TypeInfo} (ho:o.op = .call { callee:=.builtin .append,args:=#[x,y],argTypes:=#[t,t2]}) (hx:E.valid x) (hy:E.valid y) (ex:E.val C x = .list [] true (some p))
 (hsrc:∀ M w v,Rel C M σ w->RV M w (E.val C y) v->c0X C w M (new.map bcv) 1 v) (hu:∀ w,(underlying t).run C.P w = .ok (.slice e) w) (hs:∀ w,(sizeOf e).run C.P w = .ok 1 w) (hti:∀ w,(typeInfo e).run C.P w = .ok ti w) (hz:∀ w,(zeroValue e).run C.P w = .ok z w) (hzs:z.cells.size=1)
 (hu2:(∀ w,(underlying t2).run C.P w = .ok (.slice e) w)\/∀ w,(underlying t2).run C.P w = .ok .string w) (hb1:ti.bytes=1)
 (happ:σ[p]? = some (.tipT (some e) 0)) (hne:new≠[]) (hb:new.length<=140737488355328)
 (hk:K (.ret (a09 new σ.length)) (σ.set p .dead++[A1 e new.length])):K1 C σ E o K:=by
 have hne':new.map bcv≠[]:=sp_ hne;refine b1Q ho hx hy ex hsrc hu hs hti hz hzs hu2 (.inr rfl) a1u (.inr ⟨rfl,rfl,p,rfl,happ⟩) si_ hne' (by rw [hb1];simp only [a2O,I4];omega) (by simp only [a2O,I4];omega) ?_
 rcases new with _ | ⟨c,new⟩
 ·exact absurd rfl hne
 ·have e1:([]:List (List CV)).length+((c::new).map bcv).length=new.length+1:=by simp
  rw [e1,a7t];exact hk
end
section
variable {σ:List b9} {E:Env} {o:Oper}
theorem wr8 {z:Int} (h0:0<=z) (h1:z < 256):IntKind.u8.wrap z=z:=by
 have:z%256=z:=Int.emod_eq_of_lt h0 h1;simp [IntKind.wrap,IntKind.signed,IntKind.bits];omega
theorem d9M {a b:Nat} (ho:o.op = .binOp .or t x y t') (hx:E.valid x) (hy:E.valid y) (ex:E.val C x = .val (.int .u8 (a:Int))) (ey:E.val C y = .val (.int .u8 (b:Int))) (ha:a < 256) (hb:b < 256):o4 C σ E o (.val (.int .u8 ((a ||| b:Nat):Int))) :=
 i8 fun M w ρ _ h=>by
  have h1:=h x x9 hx;have h2:=h y x9 hy;rw [ex] at h1;rw [ey] at h2;have e1:∀ n:Nat,n < 256->(BitVec.ofInt 8 (n:Int)).toNat=n:=fun n hn=>by
   rw [BitVec.ofInt_natCast,BitVec.toNat_ofNat];exact b9X om_
  have e2:a ||| b < 2^8:=Nat.or_lt_two_pow om_ om_;have e3:(BitVec.ofInt IntKind.u8.bits (a:Int) ||| BitVec.ofInt IntKind.u8.bits (b:Int)).toNat=a ||| b:=by
   show (BitVec.ofInt 8 (a:Int) ||| BitVec.ofInt 8 (b:Int)).toNat=_;rw [BitVec.toNat_or,e1 a ha,e1 b hb]
  have e4:(Op.intBits .or .u8 (a:Int) (b:Int)).run C.P w = .ok (.int .u8 ((a ||| b:Nat):Int)) w:=by
   unfold Op.intBits;simp only [Sem.run_pure,e3];rw [wr8 om_ om_]
  refine ⟨_,?_,.val _⟩;simp [execOp,ho,r2 h1,r2 h2,eqGuard,binOp,e4]
theorem d7I {k k':IntKind} {a b:Int} {m:Nat} (ho:o.op = .binOp .shr t x y t') (hx:E.valid x) (hy:E.valid y) (ex:E.val C x = .val (.int k a)) (ey:E.val C y = .val (.int k' (m:Int))) (hk:m<=k.bits) (hb:a / 2^m=b):o4 C σ E o (.val (.int k b)) :=
 i8 fun M w ρ _ h=>by
  have h1:=h x x9 hx;have h2:=h y x9 hy;rw [ex] at h1;rw [ey] at h2;refine ⟨.int k b,?_,.val _⟩;have e:min (m:Int).toNat k.bits=m:=by rw [a2p];omega
  have h0:¬ ((m:Int) < 0):=by omega
  have e2:a.fdiv (2^m)=b:=by
   have:(0:Int)<=2^m:=Int.le_of_lt (Int.pow_pos de_);rw [Int.fdiv_eq_ediv_of_nonneg _ this,hb]
  have e3:min m k.bits=m:=by omega
  simp [execOp,ho,r2 h1,r2 h2,eqGuard,binOp,Op.shift,e3,e2];intro h;omega
end
section
variable {E:Env} {σ:List b9} {o:Oper}
theorem Z1 {cx:Operand} {xs:Array Operand} {ts:Array TypeId} {cargs caps:List CV} {S:α->List b9} (ho:o.op = .call { callee:=.value cx,args:=xs,argTypes:=ts}) (hc:E.valid cx) (ec:E.val C cx = .clo f caps) (hcall:∀ args w,(callFunc f args).run C.P w = .ok (.enter f args) w)
 (hv:E.valids xs.toList) (h:b8 C f (cargs++caps) σ fun r σ'=>∃ a,r = .ret (c a)/\σ'=S a/\P a) (ea:E.vals C xs.toList=cargs) (hk:∀ a,P a->K (.ret (c a)) (S a)):K1 C σ E o K :=
 b3p ho hc ec hcall (Env.valids_mem hv) (Env.vals_map _) (ea ▸ h.mono fun r σ' hh=>by
  obtain ⟨a,rfl,rfl,hp⟩:=hh;exact hk a hp)
theorem d1h {v:Value} (ho:o.op = .buildSlice t 1 #[(0,x)]) (hx:E.valid x) (ex:E.val C x = .val v) (hv:v.oneCell'=true) (hu:∀ w,(underlying t).run C.P w = .ok (.slice e) w) (hs:∀ w,(sizeOf e).run C.P w = .ok 1 w) (hz:∀ w,(zeroValue e).run C.P w = .ok z w) (hz1:z.oneCell'=true)
 (hk:K (.ret (.list [[.val v]] true (some σ.length))) (σ++[.tip 1])):K1 C σ E o K:=fun M w ρ hr hh=>by
 have h1:=r2 (ex ▸ hh x x9 hx);have hvc:v.cells = #[v]:=by cases v <;> first|rfl | simp [Value.oneCell'] at hv
 have hzc:z.cells = #[z]:=by cases z <;> first|rfl | simp [Value.oneCell'] at hz1
 have hrun:(execOp ρ o).run C.P w = .ok (.value (.slice (some ⟨w.heap.size,0,none⟩) 1 1)) (w.alloc (.cells #[v] e)):=by
  have er:Array.range 1 = #[0]:=rfl;simp only [execOp,ho,Instr.buildSlice,Sem.run_bind,hu,Result.andThen_ok,hs];simp [er,Instr.fill,newRow,h1,hvc,hz]
 rw [hrun];have hx2:=Ext.alloc hr ⟨w.heap.size,1,1⟩ (.cells #[v] e);have hr2:=hr.alloc ⟨w.heap.size,1,1⟩ (.cells #[v] e) (.tip 1) rfl ⟨n_4 _,by unfold maxLen;simp,⟨fun o ho=>by
  have:=hr.blk w.heap.size o (.inr ho);omega,fun h=>by cases h⟩,#[v],e,A3 _ _,rfl⟩
 have hp:(M.add ⟨w.heap.size,1,1⟩).pl[σ.length]? = some ⟨w.heap.size,1,1⟩:=by simp [z6.add,<- hr.len]
 obtain ⟨hx3,hr3⟩:=hr2.settleCells hp (by simp:(σ++[b9.tip 1])[σ.length]? = some (.tipT none 1));refine ⟨_,_,_,hx2.trans hx3,hr3,?_,hk⟩;refine RV.list (rows:=[[.val v]]) (b:=w.heap.size) (off:=0) (s:=1) (fun _ _=>v) (n_4 _) (by unfold maxLen;simp) rfl (fun h=>by cases h) a1u (fun r hr=>by simp at hr;subst hr;rfl) (fun r hr c hc=>by simp at hr;subst hr;simp at hc;subst hc;exact hv) (fun i j r c hi hj=>?_) (fun i j r c hi hj=>?_) (fun k hk=>?_)
 ·rcases i with _ | i
  ·injection hi with hi
   subst hi
   rcases j with _ | j
   ·refine ⟨.inr (.inr ⟨rfl,si_⟩),?_⟩;show (match (w.alloc (.cells #[v] e)).heap[w.heap.size]? with | some (.cells c _ _)=>c[0]? | _=>none)=some v;rw [A3];rfl
   ·simp at hj
  ·simp at hi
 ·rcases i with _ | i
  ·injection hi with hi
   subst hi
   rcases j with _ | j
   ·injection hj with hj
    subst hj;exact .val _
   ·simp at hj
  ·simp at hi
 ·injection hk with hk
  subst hk;exact ⟨1,hp,rfl,rfl,fun _=>rfl⟩
end
theorem d3P (hC:C.plain) (hargs:∀ a∈args,r9 a) (hc:∀ a,r9 (c a)) (h:b8 C f args [] fun r τ=>∃ a,F1 0 τ r (.ret (c a)) []/\P a) (σ:List b9):b8 C f args σ fun r τ=>∃ a,r = .ret (c a)/\τ=σ/\P a :=
 b1f (obs:=[]) (obs':=[]) [] hC rfl (by intro i j k h1;simp at h1) (fun i k ob h1=>by simp at h1) (N0 hargs) (fun a _=>hc a) (L2 hC (h.mono fun r τ ⟨a,h1,h2⟩=>⟨_,_,h1,a,rfl,rfl,h2⟩))
theorem d0G {c:CV} (hC:C.plain) (hargs:∀ a∈args,r9 a) (hc:r9 c) (h:b8 C f args [] fun r τ=>F1 0 τ r (.ret c) []) (σ:List b9):b8 C f args σ fun r τ=>r = .ret c/\τ=σ :=
 (d3P (α:=Unit) (c:=fun _=>c) (P:=fun _=>True) hC hargs (fun _=>hc) (h.mono fun _ _ hh=>⟨(),hh,tt⟩) σ).mono fun _ _ ⟨_,h1,h2,_⟩=>⟨h1,h2⟩
theorem a8r {S:α->b9} (hC:C.plain) (hargs:∀ a∈args,r9 a) (hc:∀ a,r9 (c a)) (hS:∀ a,a6D (S a)) (hob:a6D ob) (hlive:ob.live=true)
 (h:b8 C f (.ptr 0 0::args) [ob] fun r τ=>∃ a,F1 1 τ r (.ret (c a)) [S a]/\P a) (σ:List b9) (q:Nat) (hq:σ[q]? = some ob):b8 C f (.ptr q 0::args) σ fun r σ'=>∃ a,r = .ret (c a)/\σ'=σ.set q (S a)/\P a :=
 a2Z hC hargs hc hS hob hlive (L2 hC (h.mono fun _ _ ⟨a,h1,h2⟩=>⟨_,_,h1,a,rfl,rfl,h2⟩)) σ q hq
theorem d3a {τ:List b9} {c:CV} (h:D2 0 [] c c'):F1 0 τ (.ret c) (.ret c') []:=⟨[],rfl,rfl,.ret h,tt⟩
theorem a1x {τ rest:List b9} {c:CV} (hτ:τ=ob::rest) (ho:I8 1 ob) (h:D2 1 [0] c c'):F1 1 τ (.ret c) (.ret c') [ob]:=by
 subst hτ;exact ⟨[0],rfl,rfl,.ret h,.inr ⟨_,rfl,.same rfl ho⟩,tt⟩
section
variable {n:Nat} {Q:G6->Env->List b9->Prop} {E:Env} {σ:List b9} {o:Oper}
theorem d1V {len:Nat} {parts:Array (Nat × Operand)} {ps:List (Nat × CV)} {rows:List (List CV)} (ho:o.op = .buildSlice t len parts) (hv:E.valids (parts.toList.map (·.2)))
 (hu:∀ w,(underlying t).run C.P w = .ok (.slice e) w) (hs:∀ w,(sizeOf e).run C.P w = .ok s w) (hz:∀ w,(zeroValue e).run C.P w = .ok z w) (hz1:M4 z=true) (hz2:(H9 z).one=true\/∃ cs,H9 z = .agg cs) (hzl:(H9 z).cells.length=s) (hs0:0 < s)
 (hlen:len*s<=2^24) (ep:parts.toList.map (fun x=>(x.1,E.val C x.2))=ps) (hone:∀ x∈ps,x.2.one=true\/∃ cs,x.2 = .agg cs)
 (hout:a5T (fun i=>some (i*s,s)) ((List.range (len*s)).map fun i=>(H9 z).cells.getD (i%s) default) ps=some rows.flatten)
 {M:z6} {w:World} {ρ:Operand->Value} (h:∀ x∈o.op.operands,E.valid x->RV M w (E.val C x) (ρ x)) :
 ∃ r:Array Value,(execOp ρ o).run C.P w = .ok (.value (.slice (some ⟨w.heap.size,0,none⟩) len len)) (w.alloc (.cells r e))/\RV M w (.agg rows.flatten) (.agg r):=by
 have hz0:RV M w (H9 z) z:=Y0 hz1;obtain ⟨g1,g2,g3⟩:=hz0.cells hz2;have hmem:∀ x∈parts.toList,x.2∈o.op.operands:=fun x hx=>by
  rw [ho];simp only [Op.operands,List.mem_toArray,K5];exact ⟨x,hx,rfl⟩
 have hval:=Env.valids_mem hv;obtain ⟨r,hr1,hr2⟩:=a8H (M:=M) (w:=w) ps (parts.toList.map fun x=>(x.1,ρ x.2)) ((List.range (len*s)).map fun i=>(H9 z).cells.getD (i%s) default) ((Array.range (len*s)).map (z.cells[·%z.cells.size]!)) rows.flatten hout (by simp [<- ep]) (fun i x y hx hy=>by
  refine ⟨?_,hone x (n_0 hx)⟩;subst ep;simp only [O9,O3] at hx hy;obtain ⟨a,ha,rfl⟩:=hx;obtain ⟨a',ha',rfl⟩:=hy;have:a=a':=by rw [ha] at ha';injection ha'
  subst this;have hm:=n_0 ha;exact h _ (hmem _ hm) (hval _ (K5.2 ⟨_,hm,rfl⟩))) si_ (fun c hc=>by
   obtain ⟨i,_,rfl⟩:=K5.1 hc;have hlt:i%s < (H9 z).cells.length:=by rw [hzl];exact a6o _ hs0
   rw [a3o,a2b hlt];exact g2 _ (c5x hlt)) (fun i c hi=>by
   rw [O9,O3] at hi;obtain ⟨i',hi',rfl⟩:=hi;have hlt':=(n_1.1 hi').1;simp at hlt';rw [List.getElem?_range hlt'] at hi';injection hi' with hi'
   subst hi';have hlt:i%s < (H9 z).cells.length:=by rw [hzl];exact a6o _ hs0
   have hlt2:i%s < z.cells.size:=by rw [g1];exact hlt
   have:=g3 (i%s) _ (a2b hlt);have e1:(H9 z).cells.getD (i%s) default=(H9 z).cells[i%s]:=by
    rw [a3o,a2b hlt];rfl
   rw [e1];have e2:((Array.range (len*s)).map (z.cells[·%z.cells.size]!)).getD i undef=z.cells.getD (i%s) undef:=by
    have hzs:z.cells.size=s:=by rw [g1,hzl]
    have hms:i%s < s:=a6o _ hs0;simp [hlt',hzs,hms]
   rw [e2];exact this)
 refine ⟨r,?_,hr2⟩;have hl:(parts.map fun x=>(x.1,ρ x.2)).toList=parts.toList.map fun x=>(x.1,ρ x.2):=by simp
 simp only [execOp,ho,Instr.buildSlice,Sem.run_bind,hu,Result.andThen_ok,hs];rw [if_neg om_];simp only [hl];by_cases h00:len*s=0
 ·have er:Array.range 0 = #[]:=rfl;rw [h00,er] at hr1;simp only [List.map_toArray,List.map_nil] at hr1;simp [h00,er,hr1,newRow]
 ·simp [h00,hz,hr1,newRow]
theorem c6P {ops:Array Oper} {l:List Oper} {o1 o2:Oper} {len d1 d2:Nat} {parts:Array (Nat × Operand)} (bs:Str) (hd1:o1.dst=some d1) (hd2:o2.dst=some d2) (ho1:o1.op = .buildSlice t len parts) (ho2:o2.op = .convert t t (.tmp d1)) (hg1:o1.guard=none) (hg2:o2.guard=none)
 (hl1:Nat.blt d1 n=true) (hl2:Nat.blt d2 n=true) (hv:a7J E parts.toList)
 (hu:∀ w,(underlying t).run C.P w = .ok (.slice e) w) (hs:∀ w,(sizeOf e).run C.P w = .ok 1 w) (hz:∀ w,(zeroValue e).run C.P w = .ok z w) (he:∀ w,(underlying e).run C.P w = .ok (.int .u8) w) (hz1:M4 z=true) (hz2:c6m (H9 z)=true) (hzl:(H9 z).cells.length=1)
 (hlen:Nat.ble (len*1) 16777216=true) (hone:c2e (a8A C E parts.toList)=true)
 (hout:a5T (fun i=>some (i*1,1)) ((List.range (len*1)).map fun i=>(H9 z).cells.getD (i%1) default) (a8A C E parts.toList)=some (bs.map bcv).flatten) (hrl:bs.length=len)
 (h:O6 C n ops Q l ((E.hide (some d1)).put (some d2) (.list (bs.map bcv) true none) True) σ):O6 C n ops Q (o1::o2::l) E σ:=fun M w a hr hf=>by
 have hvs:E.valids (parts.toList.map (·.2)):=by
  have:=a2I hv;have key:∀ l:List Operand,(∀ x∈l,E.valid x)->E.valids l:=by
   intro l
   induction l with
   | nil=>intro _;trivial
   | cons x l ih=>intro h;exact ⟨h x si_,ih fun y hy=>h y (by simp [hy])⟩
  exact key _ fun x hx=>by
   obtain ⟨p,hp,rfl⟩:=K5.1 hx;exact this p hp
 have hlen':len*1<=2^24:=by have:=nb hlen;omega
 obtain ⟨r,hrun,hrv⟩:=d1V (o:=o1) (E:=E) (C:=C) (M:=M) (w:=w) (ρ:=a.eval) ho1 hvs hu hs hz hz1 (a6a hz2) hzl om_ hlen' (a6c _) (a9d hone) hout (fun x _ hx=>hf.eval hr hx);have hlt1:d1 < n:=by simpa [a33] using hl1
 have hlt2:d2 < n:=by simpa [a33] using hl2
 have hrl2:r.size=len:=by
  cases hrv with
  | agg q1 _ _ =>
   rw [q1,flat_len (bs.map bcv) (s:=1) (fun r0 h0=>by
    obtain ⟨b,_,rfl⟩:=K5.1 h0;rfl)]
   simp [hrl]
 unfold wpList;rw [if_pos (by simp [Region.wanted,hg1])];refine .inl ?_;unfold Oper.wp;rw [hrun];simp only [Oper.upon];unfold wpList;rw [if_pos (by simp [Region.wanted,hg2])];refine .inl ?_;unfold Oper.wp;have hev:(a.put o1.dst (.slice (some ⟨w.heap.size,0,none⟩) len len)).eval (.tmp d1) = .slice (some ⟨w.heap.size,0,none⟩) len len:=by
  rw [hd1];simp [Act.eval,Act.put,hf.size,hlt1]
 have hsh:(w.alloc (.cells r e)).shape? w.heap.size=some (e,len):=by
  simp only [World.shape?,A3];simp [hrl2]
 have hrun2:(execOp (a.put o1.dst (.slice (some ⟨w.heap.size,0,none⟩) len len)).eval o2).run C.P (w.alloc (.cells r e)) = .ok (.value (.slice (some ⟨w.heap.size,0,none⟩) len len)) (w.alloc (.cells r e (len,len+1))):=by
  have hm:(markStringish ⟨w.heap.size,0,none⟩).run C.P (w.alloc (.cells r e)) = .ok () (w.alloc (.cells r e (len,len+1))):=by
   have:=a8z w r e len;simp only [markStringish,shape,freeze,Sem.run_bind];simp only [Sem.run,hsh,Result.andThen_ok];rw [this]
  simp only [execOp,ho2,hev,convert,Sem.run_bind,hu,Result.andThen_ok,he];simp [hm]
 rw [hrun2];simp only [Oper.upon];obtain ⟨hx,hrel⟩:=hr.allocFull (.cells r e (len,len+1));have hcap:bs.length<=maxLen:=by unfold maxLen;omega
 have hlist:RV (M.settle w.heap.size) (w.alloc (.cells r e (len,len+1))) (.list (bs.map bcv) true none) (.slice (some ⟨w.heap.size,0,none⟩) len len):=by
  cases hrv with
  | agg q1 q2 q3 =>
   have hrs:∀ r0∈bs.map bcv,r0.length=1:=fun r0 h0=>by
    obtain ⟨b,_,rfl⟩:=K5.1 h0;rfl
   refine RV.list' (s:=1) (b:=w.heap.size) (off:=0) (sp_ hrl.symm) (fun i j=>r.getD (i*1+j) undef) (by simp [hrl]) om_ rfl (fun h=>by cases h) a1u hrs (fun r0 hr0 c hc=>?_) (fun i j r0 c hi hj=>?_) (fun i j r0 c hi hj=>?_) (fun k hk=>by cases hk)
   ·obtain ⟨b,_,rfl⟩:=K5.1 hr0;simp [bcv] at hc;subst hc;rfl
   ·have hf:=a5Q (bs.map bcv) hrs i j r0 c hi hj;have hlt:=(n_1.1 hf).1;have hlt':i*1+j < r.size:=by omega
    refine ⟨.inl (.inr rfl),?_⟩;rw [n_9];show (match (w.alloc (.cells r e (len,len+1))).heap[w.heap.size]? with | some (.cells c _ _)=>c[i*1+j]? | _=>none)=_;rw [A3];simp at hlt';simp [hlt']
   ·exact (q3 _ _ (a5Q (bs.map bcv) hrs i j r0 c hi hj)).mono hx
 rw [hd1,hd2];exact h.later hx hrel (((hf.mono hx).hide (d:=some d1)).put (fun t ht=>by injection ht with ht;omega) (fun _=>hlist) fun hh=>absurd trivial hh)
end
def ShV (k q:Nat) (c c':CV):Prop:=c=c'\/(∃ o n,c = .vec k o n/\c' = .vec q o n)\/∃ l nn,c = .list l nn (some k)/\c' = .list l nn (some q)
theorem Rel.shift {M:z6} {σ:List b9} {w:World} {p:Pl} (hr:Rel C M σ w) (hk:σ[k]? = some ob) (hp:M.pl[k]? = some p):Rel C { M with pl:=M.pl++[p]} (σ.set k .dead++[ob]) w/\Ext M w { M with pl:=M.pl++[p]} w:=by
 obtain ⟨h1,h2⟩:=hr.addDead p;refine ⟨?_,h2⟩;have hlt:k < σ.length:=(n_1.1 hk).1;have hl:=hr.len;have key:∀ (i:Nat) (q:Pl) (ob':b9),(M.pl++[p])[i]? = some q->(σ.set k .dead++[ob])[i]? = some ob'->ob' = .dead\/∃ j,(σ++[.dead])[j]? = some ob'/\(M.pl++[p])[j]? = some q/\j < σ.length/\((i=j/\i≠k)\/(i=σ.length/\j=k)):=by
  intro i q ob' hq hi
  rcases Nat.lt_trichotomy i σ.length with h | h | h
  ·rw [M5 (sp_ h),b2C] at hi;by_cases hik:k=i
   ·rw [if_pos hik,if_pos hlt] at hi;injection hi with hi
    exact .inl hi.symm
   ·rw [if_neg hik] at hi;exact .inr ⟨i,by rw [M5 h];exact hi,hq,h,.inl ⟨rfl,fun e=>hik e.symm⟩⟩
  ·have e1:(σ.set k .dead++[ob])[i]? = some ob:=by rw [h];simp
   have e2:(M.pl++[p])[i]? = some p:=by rw [h,<- hl];simp
   rw [e1] at hi;rw [e2] at hq;injection hi with hi;injection hq with hq
   subst hi hq;exact .inr ⟨k,by rw [M5 hlt];exact hk,by rw [M5 om_];exact hp,hlt,.inr ⟨h,rfl⟩⟩
  ·rw [c0u Q9] at hi;cases hi
 refine ⟨sp_ hl,h1.blk,fun i q ob' hq hi=>?_,fun i i' q q' ob1 ob2 hq hq' hi hi' hv hv' hb=>?_,h1.glob,h1.kep,fun i q ob' hq hi hv=>?_⟩
 ·rcases key i q ob' hq hi with rfl | ⟨j,g1,g2,_⟩
  ·exact ⟨tt,tt⟩
  ·exact h1.obj j q ob' g2 g1
 ·rcases key i q ob1 hq hi with rfl | ⟨j,g1,g2,g3,g4⟩
  ·cases hv
  ·rcases key i' q' ob2 hq' hi' with rfl | ⟨j',g1',g2',g3',g4'⟩
   ·cases hv'
   ·have:=h1.inj j j' q q' ob1 ob2 g2 g2' g1 g1' hv hv' hb;omega
 ·rcases key i q ob' hq hi with rfl | ⟨j,g1,g2,_⟩
  ·cases hv
  ·exact h1.nk j q ob' g2 g1 hv
theorem J9.shift {M:z6} {w:World} {n q t:Nat} {E:Env} {a:Act} {p:Pl} (hf:J9 { M with pl:=M.pl++[p]} w n E a) (hp:(M.pl++[p])[k]? = some p) (hq:(M.pl++[p])[q]? = some p) (ht:E.ok t) (hc:ShV k q (E.f t) c'):J9 { M with pl:=M.pl++[p]} w n (E.put (some t) c' True) a:=by
 have hrv:RV { M with pl:=M.pl++[p]} w c' (a.tmps.getD t undef):=by
  have h3:=hf.rv t ht
  rcases hc with e | ⟨o,m,e1,e2⟩ | ⟨l,nn,e1,e2⟩
  ·rw [<- e];exact h3
  ·rw [e1] at h3;rw [e2];generalize a.tmps.getD t undef=u at h3;cases h3 with
   | vec g1 g2 g3 g4 =>
    have g1':(M.pl++[p])[k]? = some _:=g1;rw [hp] at g1';injection g1' with g1'
    subst g1';exact .vec (p:=p) hq g2 g3 g4
  ·rw [e1] at h3;rw [e2];generalize a.tmps.getD t undef=u at h3;cases h3 with
   | list v g1 g2 g3 g4 g5 g6 g7 g8 g9 g10 =>
    refine .list v g1 g2 g3 g4 g5 g6 g7 g8 g9 fun j hj=>?_;injection hj with hj
    subst hj;obtain ⟨c0,u1,u2,u3,u4⟩:=g10 k rfl;rw [hp] at u1;injection u1 with u1
    subst u1;exact ⟨c0,hq,u2,u3,u4⟩
 refine ⟨hf.defers,hf.size,fun x hx=>?_,fun x hx=>?_⟩
 ·rw [Env.put_f];rw [Env.put_ok] at hx;by_cases e:x=t
  ·rw [if_pos e,e];exact hrv
  ·rw [if_neg e] at hx ⊢;exact hf.rv x hx
 ·rw [Env.put_un] at hx;by_cases e:x=t
  ·rw [if_pos e] at hx;exact absurd trivial hx
  ·rw [if_neg e] at hx;exact hf.un x hx
section
variable {σ:List b9} {E:Env} {o:Oper}
theorem d2v {v:Value} (ho:o.op = .buildSlice t 1 #[(0,x)]) (hx:E.valid x) (ex:E.val C x = .val v) (hv:v.oneCell'=true) (hu:∀ w,(underlying t).run C.P w = .ok (.slice e) w) (hs:∀ w,(sizeOf e).run C.P w = .ok 1 w) (hz:∀ w,(zeroValue e).run C.P w = .ok z w) (hz1:z.oneCell'=true)
 (hk:K (.ret (.vec σ.length 0 1)) (σ++[.vec 1 [[.val v]]])):K1 C σ E o K:=fun M w ρ hr hh=>by
 have h1:=r2 (ex ▸ hh x x9 hx);have hvc:v.cells = #[v]:=by cases v <;> first|rfl | simp [Value.oneCell'] at hv
 have hzc:z.cells = #[z]:=by cases z <;> first|rfl | simp [Value.oneCell'] at hz1
 have hrun:(execOp ρ o).run C.P w = .ok (.value (.slice (some ⟨w.heap.size,0,none⟩) 1 1)) (w.alloc (.cells #[v] e)):=by
  have er:Array.range 1 = #[0]:=rfl;simp only [execOp,ho,Instr.buildSlice,Sem.run_bind,hu,Result.andThen_ok,hs];simp [er,Instr.fill,newRow,h1,hvc,hz]
 rw [hrun];have hx2:=Ext.alloc hr ⟨w.heap.size,1,1⟩ (.cells #[v] e);have hr2:=hr.alloc ⟨w.heap.size,1,1⟩ (.cells #[v] e) (.vec 1 [[.val v]]) rfl ⟨rfl,n_4 _,by unfold maxLen;simp,fun r hr=>by simp at hr;subst hr;rfl,fun r hr c hc=>by simp at hr;subst hr;simp at hc;subst hc;exact hv,#[v],e,A3 _ _,rfl,fun i j r c hi hj=>by
  rcases i with _ | i
  ·injection hi with hi
   subst hi
   rcases j with _ | j
   ·injection hj with hj
    subst hj;exact .val _
   ·simp at hj
  ·simp at hi⟩
 refine ⟨_,_,_,hx2,hr2,?_,hk⟩;have hp:(M.add ⟨w.heap.size,1,1⟩).pl[σ.length]? = some ⟨w.heap.size,1,1⟩:=by simp [z6.add,<- hr.len]
 have:=RV.vec (w:=w.alloc (.cells #[v] e)) (off:=0) (len:=1) (a:=⟨w.heap.size,0,none⟩) hp (n_4 _) (by unfold maxLen;simp) (fun _=>by simp);simpa using this
end
end Go.Cl
namespace Go.Proofs
open Go.Shelf Go.Sort
theorem b8J {P:Program} {ρ:Ren} (Ly:Lays.n190 P ρ) (blk off cap:Nat) (ss:List (List UInt8)) (w:World) (hH:Holds encStr w blk off ss.toArray) (hb:blk < w.heap.size) (hn:ss.length < 4611686018427387904) :
 Calls P (ρ.f 190) #[.slice (some ⟨blk,off,none⟩) ss.length cap] w fun e w'=>e = .returned (.tuple #[])/\∃ n os,w'=grow (putRow encStr (Sort.ahead w n) blk off (ss.mergeSort fun x y=>decide (x<=y)).toArray) os :=
 calls_of_every_depth fun D=>by
  have parts:Any.Callees13sIn P ρ D:={
   heap:=AnyS.heapSort_stringIn { Ly with} D,rev:=AnyS.reverseRange_stringIn { Ly with} D,ins:=AnyS.insertionSort_strIn { Ly with} D,brk:=AnyS.breakPatterns_strIn { Ly with} D,
   piv:=AnyS.choosePivot_strIn { Ly with} D,par:=AnyS.partialInsertionSort_strIn { Ly with} D,peq:=AnyS.partitionEqualOrdered_stringIn { Ly with} D,prt:=AnyS.partitionOrdered_stringIn { Ly with} D}
  have laws:Plain13s:={ swo:=swo_ltStr,ins:=insertionSort_holds,par:=partialInsertionSort_holds,prt:=partition_holds _,peq:=partitionEqual_holds _,pdq:=pdq_sorts _};have quick:Any.pdqWalkIn_str P ρ D:=fun rm b' o' c' x y lim d w' h1 h2 h3 h4 h5 h6 h7 h8=>AnyS.pdqsort_stringIn { Ly with} D parts laws (y - x+1) rm b' o' c' x y lim d w' om_ h1 h2 h3 h4 h5 h6 h7 h8;have lens:Any.lenWalkInS P ρ D:=fun n w' h=>by
   have h1:=AnyS.bits_LenInS { Ly with} D (n:Int) w' om_ om_;rwa [a2p,bitLen_eq _ om_] at h1
  have h:=AnyS.Sort_strIn { Ly with} D quick lens blk off cap ss.toArray w hH hb (sp_ hn);rw [<- sortStr ss];simpa using h
end Go.Proofs
namespace Go.Cl
open Go.Sort Go.Proofs
def a0Z (ss:List Str):List Str:=ss.mergeSort fun x y=>decide (x<=y)
theorem d1g {w:World} {b:Nat} {arr:Array Value} {ty:TypeId} {fr:Nat × Nat} {d:Array (List UInt8)} (h:w.heap[b]? = some (.cells arr ty fr)):putRow encStr w b 0 d=World.putObj w b (.cells (putCells encStr 0 d arr) ty fr):=by
 have hb:b < w.heap.size:=(T9.1 h).1;have hg:w.heap[b] = .cells arr ty fr:=(T9.1 h).2;unfold putRow mapBlock World.putObj
 congr 1
 apply c0s;intro i;rw [c5M,Array.getElem?_setIfInBounds];by_cases hi:b=i
 ·subst hi;simp [hb,hg,onCells]
 ·simp [hi]
theorem d2X {d:Array (List UInt8)} {arr:Array Value} {i:Nat} (hi:i < d.size) (ha:i < arr.size):(putCells encStr 0 d arr).getD i undef=encStr d[i]:=by
 unfold putCells;rw [W4,Array.getElem?_mapIdx,a0q ha];simp [hi]
theorem c6S {C:Ctx} {f:FuncId} (hcall:∀ (blk off cap:Nat) (ss:List (List UInt8)) (w:World),Holds encStr w blk off ss.toArray->blk < w.heap.size->ss.length < 4611686018427387904 ->
 Calls C.P f #[.slice (some ⟨blk,off,none⟩) ss.length cap] w fun e w'=>e = .returned (.tuple #[])/\∃ n os,w'=grow (putRow encStr (Sort.ahead w n) blk off (ss.mergeSort fun x y=>decide (x<=y)).toArray) os)
 {σ:List b9} {k:Nat} {ss:List Str} (hne:ss≠[]) (hlen:ss.length < 4611686018427387904) (hk:σ[k]? = some (.vec 1 (ss.map fun s=>[sv s]))):b8 C f [.vec k 0 ss.length] σ fun r τ=>r = .ret (.tup [])/\τ=σ.set k (.vec 1 ((a0Z ss).map fun s=>[sv s])):=fun M w vs hr hn hx=>by
 have hl:0 < ss.length:=a85.2 hne;have h0:=hx 0 _ rfl;have hs:vs.size=1:=hn;obtain ⟨v,rfl⟩:∃ v,vs = #[v]:=⟨vs[0]'om_,Array.ext (by simp [hs]) fun i h1 h2=>by
  have:i=0:=by omega
  subst this;simp⟩
 have h0:RV M w (.vec k 0 ss.length) v:=h0;cases h0 with
 | vec hp g1 g2 g3 =>
  rename_i p a;obtain ⟨⟨e0,e1,e2,e3,e4,arr,ty,e5,e6,e7⟩,hf,hcl⟩:=hr.obj k p _ hp hk;rw [a2O] at e1;rw [e0,c1g] at e6;have ha:=g3 om_;rw [Nat.zero_mul] at ha;subst ha;have hb:p.block < w.heap.size:=(T9.1 e5).1;have hget:∀ j (hj:j < ss.length),arr.getD j undef=encStr ss[j]:=fun j hj=>by
   have h1:(ss.map fun s=>[sv s])[j]? = some [sv ss[j]]:=by rw [O9,a2b hj];rfl
   have:=r2 (e7 j 0 _ _ h1 rfl);rw [e0,c1g,a4K] at this;exact this
  have hH:Holds encStr w p.block 0 ss.toArray:=fun j hj=>by
   have hj':j < ss.length:=sp_ hj;have hja:j < arr.size:=by omega
   refine ⟨?_,by simp [World.frozen?,e5]⟩;have:=hget j hj';rw [W4,a0q hja] at this;simp only [a7R] at this;rw [n_9,getElem!_pos _ _ (sp_ hj')];simp [World.cell?,e5,hja,this]
  refine (hcall p.block 0 (p.cap - 0) ss w hH hb hlen).mono fun e w' ⟨he,n,os,hw⟩=>?_;subst he hw;obtain ⟨hx1,hr1⟩:=b1I hr n #[];have ew:grow (w.drewN n) #[]=Sort.ahead w n:=by simp [grow,World.drewN,Sort.ahead]
  rw [ew] at hx1 hr1;have e5':(Sort.ahead w n).heap[p.block]? = some (.cells arr ty (0,0)):=e5;rw [d1g e5'];have hperm:(a0Z ss).length=ss.length:=List.length_mergeSort _;have hd:((a0Z ss).toArray).size=ss.length:=by simp [hperm]
  have hasz:(putCells encStr 0 (a0Z ss).toArray arr).size=arr.size:=by simp [putCells]
  have hx2:=Ext.putObj (w:=Sort.ahead w n) (.cells (putCells encStr 0 (a0Z ss).toArray arr) ty (0,0)) (hr1.nk k p _ hp hk rfl) hf hcl;have hr2:=hr1.putObj (ob:=.vec 1 ((a0Z ss).map fun s=>[sv s])) hp hk rfl hf hcl (.cells (putCells encStr 0 (a0Z ss).toArray arr) ty (0,0)) ⟨e0,by rw [a2O,hperm];exact e1,e2,fun r hr=>by
   obtain ⟨s,_,rfl⟩:=K5.1 hr;rw [e0];rfl,fun r hr c hc=>by
   obtain ⟨s,_,rfl⟩:=K5.1 hr;simp at hc;subst hc;rfl,_,ty,World.putObj_same _ _ (by exact hb),by rw [hasz,e0,c1g];exact e6,fun i j r c hi hj=>by
   rw [O9,O3] at hi;obtain ⟨s,hs',rfl⟩:=hi
   rcases j with _ | j
   ·injection hj with hj
    subst hj;have hil:=(n_1.1 hs').1;rw [e0,c1g,a4K,d2X (sp_ hil) om_];have:(a0Z ss)[i]=s:=(n_1.1 hs').2;simp only [List.getElem_toArray,this];exact .val _
   ·cases hj⟩
  obtain ⟨hx3,hr3⟩:=b1I hr2 0 os;have ew2:∀ u:World,u.drewN 0=u:=fun u=>rfl;rw [ew2] at hx3 hr3;exact ⟨_,_,_,(hx1.trans hx2).trans hx3,hr3,.tup rfl (fun i c h=>by simp at h),rfl,rfl⟩
end Go.Cl
namespace Go.Cl
variable {o:Oper} {l:List Oper} {c:CV} {xs:Array Operand} {ts:Array TypeId} {cargs:List CV} {f:FuncId} {α:Type}
section
variable {C:Ctx} {E:Env} {σ:List b9}
def c3q (C:Ctx) (c:CV) (cargs:List CV) (σ:List b9) (r:CV):Prop :=
 (∃ f,c = .val (.func (.func f) #[] #[])/\(∀ args w,(callFunc f args).run C.P w = .ok (.enter f args) w)/\b8 C f cargs σ fun r' σ'=>r' = .ret r/\σ'=σ) \/
 ∃ f caps,c = .clo f caps/\(∀ args w,(callFunc f args).run C.P w = .ok (.enter f args) w)/\b8 C f (cargs++caps) σ fun r' σ'=>r' = .ret r/\σ'=σ
theorem c4Z {cx:Operand} {r:CV} (ho:o.op = .call { callee:=.value cx,args:=xs,argTypes:=ts}) (hc:E.valid cx) (ec:E.val C cx=c) (hv:E.valids xs.toList) (h:c3q C c cargs σ r) (ea:E.vals C xs.toList=cargs):o4 C σ E o r:=by
 rcases h with ⟨f,h1,h2,h3⟩ | ⟨f,caps,h1,h2,h3⟩
 ·exact d1z ho hc (ec.trans h1) h2 (Env.valids_mem hv) (Env.vals_map _) (ea ▸ h3)
 ·exact b3U ho hc (ec.trans h1) h2 hv h3 ea
end
theorem c7D {C:Ctx} {n:Nat} {Q:G6->Env->List b9->Prop} {E:Env} {σ:List b9} {x y z:Code} (hC:C.plain) (l:α->List (Nat × CV)) (S:α->List b9) (P:α->Prop) (hlen:∀ a,P a->σ.length<=(S a).length) (h:CWp C n x (G6.next (CWp C n y (G6.next (d9z l S P) Q)) Q) E σ) (k:∀ a,P a->CWp C n z Q (Env.only (l a)) (S a)):CWp C n (.seq x (.seq y z)) Q E σ:=fun M w a hr hf=>by
 refine wp_seq (wp_mono (h M w a hr hf) fun e a' w' hl=>?_);obtain ⟨E',σ',M',h1,h2,h3,h4⟩:=hl;cases e with
 | normal =>
  refine wp_seq (wp_mono (h4 M' w' a' h2 h3) fun e2 a2 w2 hl2=>?_);obtain ⟨E2,σ2,M2,k1,k2,k3,k4⟩:=hl2;cases e2 with
  | normal =>
   obtain ⟨x,hP,hE,hS⟩:=k4;obtain ⟨g1,g2,g3⟩:=k2.cutCls hC hS;exact wp_mono (k x hP _ w2 a2 g1 (J9.onlyC k2 g2 (fun j p s rows hj hp hs=>.inr ⟨j,p,_,hj,hp,hs,rfl,rfl⟩) k3 hE)) fun _ _ _=>P3.later (g3 M w (h1.trans k1) (by rw [hr.len];exact hlen x hP))
  | _=>exact ⟨E2,σ2,M2,h1.trans k1,k2,k3,k4⟩
 | _=>exact ⟨E',σ',M',h1,h2,h3,h4⟩
section
variable {C:Ctx} {n:Nat} {ops:Array Oper} {Q:G6->Env->List b9->Prop} {E:Env} {σ:List b9}
theorem cY (hy:o4 C σ E o c) (h:O6 C n ops Q l (E.put o.dst c True) σ) (hg:o.guard=none:=by rfl) (hd:(match o.dst with | some d=>Nat.blt d n | none=>true)=true:=by rfl):O6 C n ops Q (o::l) E σ:=d9b hg hd hy h
theorem cD (h:K1 C σ E o fun r σ'=>match r with | .ret c=>O6 C n ops Q l (E.put o.dst c True) σ' | .pan c=>Q (.pan c) E σ') (hg:o.guard=none:=by rfl) (hd:(match o.dst with | some d=>Nat.blt d n | none=>true)=true:=by rfl):O6 C n ops Q (o::l) E σ:=b0e hg hd h
theorem cG {j t:Nat} {want b:Bool} (hy:b=want->o4 C σ E o c) (h:O6 C n ops Q l (E.put o.dst c (b=want)) σ) (hg:o.guard=some (j,want):=by rfl) (ht:(ops[j]?).bind (·.dst)=some t:=by rfl) (hv:E.ok t:=by exact tt) (hb:E.f t = .val (.bool b):=by rfl)
 (hd:(match o.dst with | some d=>Nat.blt d n | none=>true)=true:=by rfl):O6 C n ops Q (o::l) E σ:=e0x hg ht hv hb hd hy h
theorem cC {c:Operand} {x y:Code} {b:Bool} (ht:b=true->CWp C n x Q E σ) (hf':b=false->CWp C n y Q E σ) (hv:E.valid c:=by first|exact tt|exact rfl) (hc:E.val C c = .val (.bool b):=by exact rfl):CWp C n (.cond c x y) Q E σ:=d2z hv hc ht hf'
theorem hY {K:Env->Prop} (k:o4 C σ E o c) (h:a3C C σ ops K l (E.put o.dst c True)) (hg:o.guard=none:=by rfl):a3C C σ ops K (o::l) E:=e0t hg k h
theorem yc (ho:o.op = .call { callee:=.value (.func f),args:=xs,argTypes:=ts}) (hcall:∀ args w,(callFunc f args).run C.P w = .ok (.enter f args) w)
 (hv:E.valids xs.toList) (h:b8 C f cargs σ fun r σ'=>r = .ret c/\σ'=σ) (k:O6 C n ops Q l (E.put o.dst c True) σ) (ea:(E.vals C xs.toList).map CV.fgt=cargs:=by exact rfl) (hg:o.guard=none:=by rfl) (hd:(match o.dst with | some d=>Nat.blt d n | none=>true)=true:=by rfl):O6 C n ops Q (o::l) E σ:=d9b hg hd (j8 ho hcall hv h ea) k
theorem dc {c:α->CV} {S:α->List b9} {P:α->Prop} (ho:o.op = .call { callee:=.value (.func f),args:=xs,argTypes:=ts}) (hcall:∀ args w,(callFunc f args).run C.P w = .ok (.enter f args) w)
 (hv:E.valids xs.toList) (h:b8 C f cargs σ fun r σ'=>∃ a,r = .ret (c a)/\σ'=S a/\P a) (hk:∀ a,P a->O6 C n ops Q l (E.put o.dst (c a) True) (S a)) (ea:(E.vals C xs.toList).map CV.fgt=cargs:=by exact rfl) (hg:o.guard=none:=by rfl) (hd:(match o.dst with | some d=>Nat.blt d n | none=>true)=true:=by rfl):O6 C n ops Q (o::l) E σ:=b0e hg hd (C1 ho hcall hv h ea hk)
theorem ye (ho:o.op = .call { callee:=.value (.func f),args:=xs,argTypes:=ts}) (hcall:∀ args w,(callFunc f args).run C.P w = .ok (.enter f args) w)
 (hv:E.valids xs.toList) (h:b8 C f cargs σ fun r σ'=>r = .ret c/\σ'=σ) (ea:(E.vals C xs.toList).map CV.fgt=cargs) (k:O6 C n ops Q l (E.put o.dst c True) σ) (hg:o.guard=none:=by rfl) (hd:(match o.dst with | some d=>Nat.blt d n | none=>true)=true:=by rfl):O6 C n ops Q (o::l) E σ:=yc ho hcall hv h k ea hg hd
theorem de {c:α->CV} {S:α->List b9} {P:α->Prop} (ho:o.op = .call { callee:=.value (.func f),args:=xs,argTypes:=ts}) (hcall:∀ args w,(callFunc f args).run C.P w = .ok (.enter f args) w)
 (hv:E.valids xs.toList) (h:b8 C f cargs σ fun r σ'=>∃ a,r = .ret (c a)/\σ'=S a/\P a) (ea:(E.vals C xs.toList).map CV.fgt=cargs) (hk:∀ a,P a->O6 C n ops Q l (E.put o.dst (c a) True) (S a)) (hg:o.guard=none:=by rfl) (hd:(match o.dst with | some d=>Nat.blt d n | none=>true)=true:=by rfl):O6 C n ops Q (o::l) E σ:=dc ho hcall hv h hk ea hg hd
def d1i (ops:Array Oper):List Nat:=ops.toList.foldl (fun ms o=>ms++[o.after.toList.foldl (fun m e=>if N9 e then (m ||| (1 <<< e.on)) ||| ms.getD e.on 0 else m) 0]) []
theorem cW {id:Nat} (nh:Nat) (h:a3C C σ ops (fun E'=>O6 C n ops Q (ops.toList.drop nh) E' σ) (ops.toList.take nh) E) (hm:C.P.follows .mixedOrders=true:=by kernel_rfl) (hB:c1l ops nh (d1i ops)=true:=by kernel_rfl)
 (hd:(ops.toList.all fun o=>match o.dst with | some d=>Nat.blt d n | none=>true)=true:=by rfl):CWp C n (.region id ops true) Q E σ:=d2l nh (d1i ops) hm hB hd h
theorem cF {id:Nat} (al qs ix:List Nat) (nh:Nat) (fls:List (List Nat)) (hz:AZ C ops al) {hd1l:List Nat} {tll:List (Nat × List Nat)} (h:a45 C σ ops (fun E' S=>P6 C ops al qs Q S tll E' σ) hd1l E []) (hm:C.P.follows .mixedOrders=true:=by kernel_rfl) (hB:b0H ops al qs ix nh (d1i ops) fls=true:=by kernel_rfl) (hu:d8d ops al=true:=by kernel_rfl)
 (hd:(ops.toList.all fun o=>match o.dst with | some d=>Nat.blt d n | none=>true)=true:=by rfl) (hd1:List.take nh ix=hd1l:=by exact rfl) (hd2:((List.range (ops.size - nh)).map fun p=>(ix.getD (nh+p) 0,fls.getD p []))=tll:=by exact rfl):CWp C n (.region id ops true) Q E σ:=c4k al qs ix nh (d1i ops) fls hm hB hu hz hd hd1 hd2 h
theorem cO {fn:Func} {c:Code} {args:List CV} {K:X7->List b9->Prop} (hf:C.P.funcs[f]? = some fn) (h:CWp C fn.ntmps c (Fin C fn K) (Env.args args) σ) (hb:fn.body=some c:=by rfl) (hn:Nat.ble args.length fn.ntmps=true:=by rfl):b8 C f args σ K:=b4B hf hb hn h
end
end Go.Cl
namespace Go.Proofs.YtlppbmfecjabeaaGreatDoor
open Go Go.Cl
variable {s:Str} {ks:List Int} {m:List (Int × Int)} {a:Nat} {d:List Str}
abbrev iv (x:Int):CV:=.val (.int .i64 x)
def c47:List CV:=[1,10,100,1000,10000,100000,1000000,10000000,100000000,1000000000,10000000000,100000000000,1000000000000,10000000000000,100000000000000,1000000000000000,10000000000000000,100000000000000000,1000000000000000000,10000000000000000000].map fun z:Int=>.val (.int .u64 z)
noncomputable def CC:Ctx:={ P:=Tryz.prog,glob:=fun g=>match g with | 1=>some c47 | _=>none}
theorem hCC:CC.plain:=fun g cells h=>by
 have:cells=c47:=by
  simp only [CC] at h;split at h
  ·exact (Option.some.inj h).symm
  ·cases h
 subst this;intro c hc;obtain ⟨z,_,rfl⟩:=K5.1 hc;exact .val _
theorem an_ {f:FuncId} {fn:Func} {c:Code} {args:List CV} {res:CV} {σ:List b9} (hf:CC.P.funcs[f]? = some fn) (h:CWp CC fn.ntmps c (Fin CC fn fun r τ=>∃ extra c,τ=[]++extra/\r = .ret c/\Cls ([]:List b9).length τ c res) (Env.args args) []) (hb:fn.body=some c:=by rfl) (hn:Nat.ble args.length fn.ntmps=true:=by rfl) (p1:S9 args:=by exact pu_) (p2:r9 res:=by exact pu_):b8 CC f args σ fun r τ=>r = .ret res/\τ=σ:=b8.anyw hCC p1 p2 (D5 (b4B hf hb hn h)) σ
def icv (x:Int):List CV:=[iv x]
def scv (x:Str):List CV:=[sv x]
theorem N3 (l:List Int) (nn:Bool):r9 (.list (l.map icv) nn none):=N5 (f:=icv) (fun _=>⟨.val _,tt⟩) l nn
theorem C2 (l:List Str) (nn:Bool):r9 (.list (l.map scv) nn none):=N5 (f:=scv) (fun _=>⟨.val _,tt⟩) l nn
theorem Q0 (n:Nat) (l:List Int) (nn:Bool):Old n (.list (l.map icv) nn none):=(N3 l nn).old
theorem B3 (n:Nat) (l:List Str) (nn:Bool):Old n (.list (l.map scv) nn none):=(C2 l nn).old
def d3m:Str:=[97,98,99,100,101,102,103,104,105,106,107,108,109,110,111,112,113,114,115,116,117,118,119,120,121,122]
def e0n:Str:=[48,49,50,51,52,53,54,55,56,57]
def a4w:Str:=[59,44,40,41,43,45,42,47,37,60,61]
def M0:List (Int × Str):=[(1,d3m),(2,e0n),(3,[95]),(4,[46]),(5,[9,10,13,32]),(6,[35]),(7,[34]),(8,a4w)]
def k8 (c:Int):Int :=
 if 97<=c/\c<=122 then 1 else if 48<=c/\c<=57 then 2 else if c=95 then 3 else if c=46 then 4 else if c=9\/c=10\/c=13\/c=32 then 5 else if c=35 then 6 else if c=34 then 7
 else if c=59\/c=44\/c=40\/c=41\/c=43\/c=45\/c=42\/c=47\/c=37\/c=60\/c=61 then 8 else 0
abbrev kb (a:Int):CV:=.val (.int .u8 a)
abbrev kv (a:Int):CV:=iv a
theorem d1P:T6 (α:=Int) CC.P 5 kb (fun a=>.int .u8 a):=c84 .u8 b28
theorem a0A:T6 (α:=Int) CC.P 3 kv (fun a=>.int .i64 a):=c84 .i64 d0U
theorem b7z:T6 (α:=Str) CC.P 9 sv (fun a=>.string (str a)):=d7c t_5
def KM (m:List (Int × Int)):Prop:=∀ c,(glk m c).getD 0=k8 c
theorem W5 (n:Nat) (m:List (Int × Int)):I8 n (.map (gm kb kv m)):=fun x hx=>by
 obtain ⟨y,_,rfl⟩:=K5.1 hx;exact ⟨.val _,.val _⟩
theorem c9A (n:Nat) (a b:List (Int × Str)):I8 n (.iter (gm kv sv a) (gm kv sv b)):=⟨fun x hx=>by
 obtain ⟨y,_,rfl⟩:=K5.1 hx;exact ⟨.val _,.val _⟩,fun x hx=>by
 obtain ⟨y,_,rfl⟩:=K5.1 hx;exact ⟨.val _,.val _⟩⟩
theorem c7m (m:List (Int × Int)):a3V (.map (gm kb kv m)):=fun x hx=>by
 obtain ⟨y,_,rfl⟩:=K5.1 hx;exact ⟨.val _,.val _⟩
def InB (s:Str) (c:Int):Prop:=∃ b∈s,(b.toNat:Int)=c
instance (s:Str) (c:Int):Decidable (InB s c):=by unfold InB;exact inferInstance
def KL (m:List (Int × Int)) (left:List (Int × Str)):Prop:=left.Nodup/\(∀ x∈left,x∈M0)/\∀ c,(glk m c).getD 0=if ∃ x∈left,InB x.2 c then 0 else k8 c
theorem d1o:∀ x∈M0,∀ b∈x.2,k8 (b.toNat:Int)=x.1:=by decide
theorem c8q:∀ x∈M0,∀ y∈M0,x≠y->∀ b∈x.2,b∉y.2:=by decide
theorem c65:M0.Nodup:=by decide
theorem d7h:∀ c:Fin 256,k8 (c.val:Int)≠0->∃ x∈M0,∃ b∈x.2,(b.toNat:Int)=(c.val:Int):=by decide
theorem d2r {c:Int} (h:k8 c≠0):∃ x∈M0,∃ b∈x.2,(b.toNat:Int)=c:=by
 have hr:0<=c/\c < 256:=by
  unfold k8 at h;split at h;· omega
  split at h;· omega
  split at h;· omega
  split at h;· omega
  split at h;· omega
  split at h;· omega
  split at h;· omega
  split at h
  ·omega
  ·exact absurd rfl h
 obtain ⟨n,rfl⟩:∃ n:Nat,c=n:=⟨c.toNat,om_⟩;exact d7h ⟨n,om_⟩ h
theorem KL.start:KL [] M0:=by
 refine ⟨c65,fun x h=>h,fun c=>?_⟩
 split
 ·rfl
 ·rename_i hno;have:k8 c=0:=by
   rcases Int.decEq (k8 c) 0 with h | h
   ·exact absurd (d2r h) hno
   ·exact h
  rw [this];rfl
theorem KL.done (h:KL m []):KM m:=fun c=>by
 rw [h.2.2 c,if_neg si_]
theorem KL.step {m':List (Int × Int)} {left:List (Int × Str)} {i:Nat} {x:Int × Str} (h:KL m left) (hx:left[i]? = some x) (hm:∀ c,(glk m' c).getD 0=if InB x.2 c then x.1 else (glk m c).getD 0):KL m' (left.eraseIdx i):=by
 obtain ⟨h1,h2,h3⟩:=h;have hxm:=h2 x (n_0 hx);have hsub:∀ y,y∈left.eraseIdx i↔y∈left/\y≠x:=fun y=>by
  have hlt:=(n_1.1 hx).1;have hxe:=(n_1.1 hx).2;constructor
  ·intro hy;obtain ⟨j,hj,hji⟩:=c7f.1 hy;refine ⟨n_0 hji,fun e=>?_⟩;subst e;exact hj ((List.getElem?_inj (n_1.1 hji).1 h1).1 (by rw [hji,hx]))
  ·rintro ⟨hy,hne⟩;obtain ⟨j,hj⟩:=L3.1 hy;refine c7f.2 ⟨j,fun e=>?_,hj⟩;subst e;rw [hx] at hj;exact hne (Option.some.inj hj).symm
 refine ⟨h1.sublist (List.eraseIdx_sublist _ _),fun y hy=>h2 y ((hsub y).1 hy).1,fun c=>?_⟩;rw [hm c,h3 c];by_cases hc:InB x.2 c
 ·rw [if_pos hc,if_neg]
  ·obtain ⟨b,hb,rfl⟩:=hc;exact (d1o x hxm b hb).symm
  ·rintro ⟨y,hy,b',hb',he⟩;obtain ⟨b,hb,hbc⟩:=hc;obtain ⟨hyl,hne⟩:=(hsub y).1 hy;have:b'=b:=b36.1 om_;subst this;exact c8q y (h2 y hyl) x hxm hne b' hb' hb
 ·rw [if_neg hc];have hiff:(∃ y∈left,InB y.2 c)↔∃ y∈left.eraseIdx i,InB y.2 c:=by
   constructor
   ·rintro ⟨y,hy,hb⟩;exact ⟨y,(hsub y).2 ⟨hy,fun e=>hc (e ▸ hb)⟩,hb⟩
   ·rintro ⟨y,hy,hb⟩;exact ⟨y,((hsub y).1 hy).1,hb⟩
  by_cases hh:∃ y∈left,InB y.2 c
  ·rw [if_pos hh,if_pos (hiff.1 hh)]
  ·rw [if_neg hh,if_neg (fun h=>hh (hiff.2 h))]
theorem b6B {α β:Type} {kc:α->CV} {vc:β->CV} (l:List (α × β)) (i:Nat):(gm kc vc l).eraseIdx i=gm kc vc (l.eraseIdx i):=by
 induction l generalizing i with
 | nil=>rfl
 | cons x l ih =>
  cases i with
  | zero=>rfl
  | succ i=>exact congrArg _ (ih i)
theorem c6v {α β:Type} {kc:α->CV} {vc:β->CV} {l:List (α × β)} {i:Nat} {x:CV × CV} (h:(gm kc vc l)[i]? = some x):∃ y,l[i]? = some y/\x=(kc y.1,vc y.2):=by
 unfold gm at h;rw [O9,O3] at h;obtain ⟨y,h1,h2⟩:=h;exact ⟨y,h1,h2.symm⟩
theorem a2g (l:Str) (nn:Bool):r9 (.list (l.map bcv) nn none):=N5 (f:=bcv) (fun _=>⟨.val _,tt⟩) l nn
theorem a0V (n:Nat) (l:Str) (nn:Bool):Old n (.list (l.map bcv) nn none):=(a2g l nn).old
theorem d7O:∀ x∈M0,x.2.length<=26:=by decide
theorem c7M {m1:List (Int × Int)} {j:Nat} {b:UInt8} {k:Int} (hb:s[j]? = some b) (h:∀ c,(glk m1 c).getD 0=if InB (s.take j) c then k else (glk m c).getD 0) :
 ∀ c,(glk (X6 m1 (b.toNat:Int) k) c).getD 0=if InB (s.take (j+1)) c then k else (glk m c).getD 0:=fun c=>by
 have ht:s.take (j+1)=s.take j++[b]:=by
  obtain ⟨hlt,rfl⟩:=n_1.1 hb;exact (b4U hlt).symm
 rw [N7,ht];by_cases hc:c=(b.toNat:Int)
 ·rw [if_pos hc,if_pos ⟨b,si_,hc.symm⟩];rfl
 ·rw [if_neg hc,h c];have hiff:InB (s.take j) c↔InB (s.take j++[b]) c:=by
   constructor
   ·rintro ⟨y,hy,e⟩;exact ⟨y,by simp [hy],e⟩
   ·rintro ⟨y,hy,e⟩
    rcases X1.1 hy with hy | hy
    ·exact ⟨y,hy,e⟩
    ·rw [c0J.1 hy] at e;exact absurd e.symm hc
  by_cases hh:InB (s.take j) c
  ·rw [if_pos hh,if_pos (hiff.1 hh)]
  ·rw [if_neg hh,if_neg (fun h=>hh (hiff.2 h))]
theorem c5H:b8 CC 123 [] [] fun r τ=>∃ m:List (Int × Int),a1e [b9.map (gm kb kv m)].length τ r (.ret (.map 0))/\a8V [b9.map (gm kb kv m)].length τ τ [.map (gm kb kv m)]/\([]:List b9).length<=[b9.map (gm kb kv m)].length/\KM m:=by
 refine cO Tryz.func123 ?_;refine a4o ?_;refine cD (Z5 rfl ?_);refine z_1 ?_;refine a0Y ?_;refine cD (Z5 rfl ?_);refine cD (l8 (vc:=sv) (l:=M0.take 0) a0A (.inr rfl) tt rfl rfl rfl rfl rfl a2s rfl ?_);refine cD (l8 (vc:=sv) (l:=M0.take 1) a0A (.inr rfl) tt rfl rfl rfl rfl rfl a2s rfl ?_);refine cD (l8 (vc:=sv) (l:=M0.take 2) a0A (.inr rfl) tt rfl rfl rfl rfl rfl a2s rfl ?_);refine cD (l8 (vc:=sv) (l:=M0.take 3) a0A (.inr rfl) tt rfl rfl rfl rfl rfl a2s rfl ?_);refine cD (l8 (vc:=sv) (l:=M0.take 4) a0A (.inr rfl) tt rfl rfl rfl rfl rfl a2s rfl ?_);refine cD (l8 (vc:=sv) (l:=M0.take 5) a0A (.inr rfl) tt rfl rfl rfl rfl rfl a2s rfl ?_);refine cD (l8 (vc:=sv) (l:=M0.take 6) a0A (.inr rfl) tt rfl rfl rfl rfl rfl a2s rfl ?_);refine cD (l8 (vc:=sv) (l:=M0.take 7) a0A (.inr rfl) tt rfl rfl rfl rfl rfl a2s rfl ?_);refine cY j1 ?_;refine cD (c2H rfl tt rfl a2s rfl ?_);refine a4B ?_;refine j5 hCC (α:=List (Int × Int) × List (Int × Str) × List (Int × Str)) (fun _=>[(1,.map 0),(9,.ptr 2 0)]) (fun x=>[.map (gm kb kv x.1),.dead,.iter (gm kv sv x.2.1) (gm kv sv x.2.2)]) (fun x=>KL x.1 x.2.2) (fun x=>x.2.2.length) ([],[],M0) KL.start tu_ (extra0:=[]) rfl r5 uz_ ?_;intro ⟨m,cur,left⟩ hkl;dsimp only at hkl ⊢;refine z_0 ?_;refine cD (c8p rfl tt rfl rfl (fun hz=>?_) (fun i x hx=>?_))
 ·
  have hl0:left=[]:=by
   cases left with
   | nil=>rfl
   | cons y l=>cases hz
  subst hl0;refine cY a5p ?_;refine z_9 ?_;refine cC ?_ ?_ <;> intro h1
  ·cases h1
  ·refine a2y ?_;exact ⟨_,j2 rfl tt c4,⟨m,.ret (.old (.map (Nat.zero_lt_one))),⟨.same (W5 _ _),tt⟩,n_3 _,hkl.done⟩⟩
 ·
  obtain ⟨⟨k,s⟩,hy,rfl⟩:=c6v hx;rw [b6B];have hks:=hkl.2.1 _ (n_0 hy);have hsl:s.length<=26:=d7O _ hks;refine cY a5p ?_;refine z_9 ?_;refine cC ?_ ?_ <;> intro h3
  ·refine a21 ?_;refine z_0 ?_;refine cY (c2B rfl tt rfl rfl) ?_;refine d6I ?_;refine a9t ?_;refine cY (d4l rfl tt rfl t_5 t_7 b28 do_) ?_;refine cY a9r ?_;refine Z0 ?_;refine j5 hCC (α:=List (Int × Int) × Nat) (fun x=>[(1,.map 0),(2,iv k),(9,.ptr 2 0),(16,(.list (s.map bcv) true none)),(17,iv s.length),(18,iv x.2)]) (fun x=>[.map (gm kb kv x.1),.dead,.iter (gm kv sv [(k,s)]) (gm kv sv (left.eraseIdx i))]) (fun x=>x.2<=s.length/\∀ c,(glk x.1 c).getD 0=if InB (s.take x.2) c then k else (glk m c).getD 0) (fun x=>s.length - x.2) (m,0) ⟨n_3 _,fun c=>by rw [if_neg (by simp [InB])]⟩ tu_ (extra0:=[]) rfl r5 uz_ ?_;intro ⟨m1,j⟩ ⟨hj,hm1⟩;dsimp only at hj hm1 ⊢;refine C9 ?_;refine cC ?_ ?_ <;> intro h4
   ·have hjl:(j:Int) < s.length:=sp_ h4;obtain ⟨b,hb⟩:=gx_ s j;refine W7 ?_;refine cY (r8 rfl tt tt rfl rfl t_7 t_9 om_ (j3 hb) rfl) ?_;refine cY (T0 rfl tt rfl c6r rfl) ?_;refine a7W ?_;refine cY j1 ?_;refine cD (l8 (vc:=kv) (l:=m1) (a:=(b.toNat:Int)) (b:=k) d1P (.inl rfl) tt tt trivial rfl rfl rfl c3u rfl ?_);refine a5e ?_;exact ⟨(X6 m1 (b.toNat:Int) k,j+1),_,⟨do_,do_,c7M hb hm1⟩,tu_,rfl⟩
   ·have hjl:s.length<=j:=by
     have:¬ (j:Int) < s.length:=sp_ h4;omega
    rw [U3 hjl] at hm1;refine A4 ?_;exact ⟨(m1,[(k,s)],left.eraseIdx i),_,⟨by dsimp only;rw [List.length_eraseIdx_of_lt (n_1.1 hy).1];have:=(n_1.1 hy).1;omega,hkl.step hy hm1⟩,tu_,rfl⟩
  ·cases h3
theorem b0Q (σ:List b9):b8 CC 123 [] σ fun r τ=>∃ m:List (Int × Int),r = .ret (.map σ.length)/\τ=σ++[.map (gm kb kv m)]/\KM m :=
 a05 (α:=List (Int × Int)) (obs:=[]) (args:=[]) (res:=fun _=>.ret (.map 0)) (res':=fun _=>.ret (.map σ.length)) (S:=fun _=>[]) (N:=fun m=>[.map (gm kb kv m)]) (P:=KM) [] hCC rfl (fun i j k h=>by simp at h) (fun i k h=>by simp at h) (fun ob h=>by cases h) ⟨rfl,fun i c c' h=>by simp at h⟩
  (a04 (res:=fun _=>.ret (.map 0)) (S:=fun m=>[.map (gm kb kv m)]) (P:=KM) hCC c5H) (fun m _=>⟨rfl,fun ob h=>by simp at h;subst h;exact c7m m⟩) (fun m _=>.ret (.map (.inr ⟨n_3 _,rfl⟩)))
def inK (ks:List Int) (b:UInt8):Bool:=ks.any fun k=>decide (k8 b.toNat=k)
def A0 (s:Str) (a:Nat) (ks:List Int):Nat:=a+((s.drop a).takeWhile (inK ks)).length
theorem a8J (h:s.length<=a):A0 s a ks=a:=by
 unfold A0;rw [S8 h];rfl
theorem V1 {b:UInt8} (h:s[a]? = some b):A0 s a ks=if inK ks b=true then A0 s (a+1) ks else a:=by
 obtain ⟨hlt,rfl⟩:=n_1.1 h;unfold A0;rw [Q4 hlt,b8g]
 split
 ·rw [n_7];omega
 ·rfl
theorem a1S (h:a<=s.length):a<=A0 s a ks/\A0 s a ks<=s.length:=by
 unfold A0;have:=(List.takeWhile_sublist (inK ks) (l:=s.drop a)).length_le;rw [b9x] at this;omega
theorem c9T {j:Nat} {k:Int} (h:ks[j]? = some k) (p:Int->Bool):(ks.take (j+1)).any p=((ks.take j).any p || p k):=by
 obtain ⟨hlt,rfl⟩:=n_1.1 h;rw [<- b4U hlt,List.any_append];simp
theorem c9y (s:Str) (at_:Nat) (ks:List Int) (nn:Bool) (m:List (Int × Int)) (hm:KM m) (ha:at_<=s.length) (hs:s.length<=1000000000000) (hkl:ks.length<=1000000000000):b8 CC 124 [(sv s),iv at_,.map 0,(.list (ks.map icv) nn none)] [b9.map (gm kb kv m)] fun r τ=>∃ _:Unit,a1e [b9.map (gm kb kv m)].length τ r (.ret (iv (A0 s at_ ks:Int)))/\a8V [b9.map (gm kb kv m)].length τ τ [b9.map (gm kb kv m)]/\[b9.map (gm kb kv m)].length<=[b9.map (gm kb kv m)].length/\True:=by
 refine cO Tryz.func124 ?_;refine z_6 ?_;refine a4A ?_;refine j5 hCC (α:=Nat) (fun i=>[(0,(sv s)),(1,iv i),(2,.map 0),(3,(.list (ks.map icv) nn none))]) (fun _=>[b9.map (gm kb kv m)]) (fun i=>i<=s.length/\A0 s at_ ks=A0 s i ks) (fun i=>s.length - i) at_ ⟨ha,rfl⟩ tu_ (extra0:=[]) rfl r5 uz_ ?_;intro i ⟨hi,hsp⟩;refine b3F ?_;refine cC ?_ ?_ <;> intro h1
 ·have hil:(i:Int) < s.length:=sp_ h1;obtain ⟨b,hb⟩:=gx_ s i;rw [V1 hb] at hsp;refine a21 ?_;refine Q7 ?_;refine cY a7Y ?_;refine Z0 ?_;refine j5 hCC (α:=Nat) (fun j=>[(0,(sv s)),(1,iv i),(2,.map 0),(3,(.list (ks.map icv) nn none)),(9,(.val (.bool ((ks.take j).any fun k=>decide (k8 b.toNat=k))))),(16,(.list (ks.map icv) nn none)),(17,iv ks.length),(18,iv j)]) (fun _=>[b9.map (gm kb kv m)]) (fun j=>j<=ks.length) (fun j=>ks.length - j) 0 (n_3 _) tu_ (extra0:=[]) rfl r5 uz_ ?_;intro j hj;refine C9 ?_;refine cC ?_ ?_ <;> intro h2
  ·have hjl:(j:Int) < ks.length:=sp_ h2;obtain ⟨k,hk⟩:=gx_ ks j;refine W7 ?_;refine cY (r8 rfl tt tt rfl rfl t_4 t_2 om_ (j3 hk) rfl) ?_;refine cY a1a ?_;refine a9T ?_;refine a8T ?_;refine cG T7 ?_;refine cG e0a ?_;refine cG (fun hg=>R2 (vc:=kv) (l:=m) (a:=(b.toNat:Int)) d1P rfl hg hg rfl rfl c3u t_6 rfl rfl (b6c _ _)) ?_;refine cG T7 ?_;refine cG b2Q ?_;refine cY a1f ?_;refine a1j ?_;exact ⟨(j+1),_,⟨om_,om_⟩,⟨m0,m0,m0,m0,⟨tt,(by rw [c9T hk,<- hm];rfl)⟩,m0,m0,m0,tt⟩,rfl⟩
  ·have hjl:ks.length<=j:=by
    have:¬ (j:Int) < ks.length:=sp_ h2;omega
   refine A4 ?_;refine a1z ?_;refine S4 ?_;refine cC ?_ ?_ <;> intro h3
   ·have hno:inK ks b=false:=by
     have:((ks.take j).any fun k=>decide (k8 b.toNat=k))=false:=sp_ h3;rwa [U3 hjl] at this
    rw [hno] at hsp;refine a2y ?_;exact ⟨_,j2 rfl tt c4,⟨(),.ret (G4 (by rw [hsp];rfl)),⟨.same (W5 _ _),tt⟩,n_4 _,tt⟩⟩
   ·have hyes:inK ks b=true:=by
     have:((ks.take j).any fun k=>decide (k8 b.toNat=k))=true:=sp_ h3;rwa [U3 hjl] at this
    rw [hyes] at hsp;refine a8q ?_;exact ⟨(i+1),_,⟨om_,om_,hsp⟩,tu_,rfl⟩
 ·have hge:s.length<=i:=by
   have:¬ (i:Int) < s.length:=sp_ h1;omega
  rw [a8J hge] at hsp;refine a2y ?_;exact ⟨_,j2 rfl tt c4,⟨(),.ret (G4 (by rw [hsp])),⟨.same (W5 _ _),tt⟩,n_4 _,tt⟩⟩
theorem a7H {at_:Nat} {nn:Bool} (hm:KM m) (ha:at_<=s.length) (hs:s.length<=1000000000000) (hkl:ks.length<=1000000000000) {σ:List b9} {q:Nat} (hq:σ[q]? = some (.map (gm kb kv m))):b8 CC 124 [(sv s),iv at_,.map q,(.list (ks.map icv) nn none)] σ fun r τ=>r = .ret (iv (A0 s at_ ks:Int))/\τ=σ :=
 b1X hCC (c7m m) (.val _) hq (.cons (.val _) (.cons (.val _) (.cons (.map rfl) (.cons (.pure (N3 _ _)) .nil)))) (c9y s at_ ks nn m hm ha hs hkl)
def C8 (s:Str):Bool:=match s with
 | []=>false
 | b::_=>decide (s.length<=24) && decide (k8 b.toNat=1) && s.all (inK [1,2,3])
theorem a8p:A0 s 0 ks=s.length↔s.all (inK ks)=true:=by
 unfold A0;rw [a8G,n_9];generalize inK ks=p
 induction s with
 | nil=>simp
 | cons b s ih =>
  rw [b8g,List.all_cons];cases hp:p b with
  | false=>simp
  | true =>
   simp only [if_true,n_7,Nat.add_right_cancel_iff,b74];exact ih
theorem c7Y (h:1<=s.length):s[(0:Int).toNat]? = some (s.headD 0):=by
 cases s with
 | nil=>simp at h
 | cons b s=>rfl
theorem d1v (s:Str) (hm:KM m) {x y z w:Bool} (h1:x=decide ((s.length:Int)>=1)) (h2:y=decide ((s.length:Int)<=24)) (h3:z=((glk m ((s.headD 0).toNat:Int)).getD 0 == 1)) (h4:w=((A0 s 0 [1,2,3]:Int) == (s.length:Int))):(((x && y) && z) && w)=C8 s:=by
 subst h1 h2 h3 h4;rw [hm];have h5:((A0 s 0 [1,2,3]:Int) == (s.length:Int))=s.all (inK [1,2,3]):=by
  cases h:s.all (inK [1,2,3]) with
  | true=>exact a2d (by have:=a8p.2 h;omega)
  | false =>
   refine a1W fun e=>?_;have:=a8p.1 (show A0 s 0 [1,2,3]=s.length by omega);rw [h] at this;cases this
 rw [h5];cases s with
 | nil=>rfl
 | cons b s =>
  have h6:decide (((b::s).length:Int)>=1)=true:=by simp;omega
  have h7:decide (((b::s).length:Int)<=24)=decide ((b::s).length<=24):=decide_eq_decide.2 om_;rw [h6,h7];rfl
theorem a1L (s:Str) (σ:List b9):b8 CC 74 [(sv s)] σ fun r σ'=>r = .ret (.val (.bool (C8 s)))/\σ'=σ:=by
 refine an_ Tryz.func74 ?_;refine a4o ?_;refine dc rfl c7U trivial (b0Q _) ?_;intro m hm;refine O0 ?_;refine cY X5 ?_;refine a1h ?_;refine cG a4r ?_;refine b1h ?_;refine cG d8w ?_;refine cG (fun hg=>R2 (vc:=kv) (l:=m) (a:=((s.headD 0).toNat:Int)) d1P rfl hg hg rfl rfl c3u t_6 rfl rfl (b6c _ _)) ?_;refine b1h ?_;refine cG (fun hg=>A2 ([1,2,3].map icv) rfl ⟨rfl,rfl,rfl,tt⟩ t_4 t_2 t_6 rfl rfl rfl rfl rfl rfl rfl rfl rfl) ?_;refine cG (fun hg=>j8 rfl c9z ⟨hg,rfl,hg,hg,tt⟩ (a7H hm (n_3 _) (sm_ hg) de_ rfl) rfl) ?_;refine cG T7 ?_;refine cG a4r ?_;refine cG b2Q ?_;refine a3j ?_;exact ⟨_,j2 rfl tt c4,_,_,rfl,rfl,j7 (d1v s hm rfl rfl rfl rfl)⟩
theorem b1b (s:Str) (c:UInt8) (σ:List b9):b8 CC 233 [(sv s),(.val (.int .u8 (c.toNat:Int)))] σ fun r σ'=>r = .ret (iv (Go.Lib.indexByte s c))/\σ'=σ:=by
 refine an_ Tryz.func233 ?_;refine a11 ?_;refine cY (d0u (e:=Extern.BytealgIndexByte.indexByte) rfl Tryz.func274 rfl rfl rfl rfl tt tt rfl rfl (fun w=>c4a s c w)) ?_;exact c3d
theorem a6m (s:Str) (c:UInt8) (σ:List b9):b8 CC 189 [(sv s),(.val (.int .u8 (c.toNat:Int)))] σ fun r σ'=>r = .ret (iv (Go.Lib.indexByte s c))/\σ'=σ:=by
 refine an_ Tryz.func189 ?_;refine a11 ?_;exact d3O
theorem b8B (s:Str) (c:UInt8) (σ:List b9):b8 CC 298 [(sv s),(sv ([c]))] σ fun r σ'=>r = .ret (iv (Go.Lib.indexByte s c))/\σ'=σ:=by
 refine an_ Tryz.func298 ?_;refine U5 ?_;refine cY X5 ?_;refine b43 ?_;refine z_2 ?_;refine cY S7 ?_;refine a8T ?_;refine cG b4t ?_;refine cY a1f ?_;refine z_1 ?_;refine cC ?_ ?_ <;> intro h1
 ·have hs:s=[c]:=by simp at h1;exact h1.symm
  subst hs;refine I0 ?_;exact ⟨_,j2 rfl tt c4,_,_,rfl,rfl,G4 (by simp [Go.Lib.indexByte])⟩
 ·refine z_2 ?_;refine a73 ?_;refine cC ?_ ?_ <;> intro h2
  ·refine z_5 ?_;refine cY (L6 rfl tt rfl rfl rfl t_5 om_ rfl) ?_;exact d3O
  ·simp at h2
theorem a8X (s:Str) (c:UInt8) (σ:List b9):b8 CC 263 [(sv s),(sv ([c]))] σ fun r σ'=>r = .ret (iv (Go.Lib.indexByte s c))/\σ'=σ:=by
 refine an_ Tryz.func263 ?_;refine a11 ?_;refine yc rfl Tryz.call298 i7 (b8B s c _) ?_;exact c3d
theorem a81 (s:Str) (c:UInt8) (σ:List b9):b8 CC 262 [(sv s),(sv ([c]))] σ fun r σ'=>r = .ret (iv (s.count c:Nat))/\σ'=σ:=by
 refine an_ Tryz.func262 ?_;refine Q7 ?_;refine b1D ?_;refine cC ?_ ?_ <;> intro h1
 ·simp at h1
 ·refine a5L ?_;refine b1D ?_;refine cC ?_ ?_ <;> intro h2
  ·refine z_5 ?_;refine cY (L6 rfl tt rfl rfl rfl t_5 om_ rfl) ?_;refine cY (d0u (e:=Extern.BytealgCount.count) rfl Tryz.func297 rfl rfl rfl rfl tt tt rfl rfl (fun w=>c4b s c w)) ?_;exact c3d
  ·simp at h2
def A7 (c:UInt8):Str->List Str
 | []=>[[]]
 | b::l=>if b=c then []::A7 c l else match A7 c l with
  | x::xs=>(b::x)::xs
  | []=>[[b]]
theorem a0W (c:UInt8) (s:Str):A7 c s≠[]:=by
 cases s with
 | nil=>simp [A7]
 | cons b l =>
  rw [A7]
  split
  ·simp
  ·split <;> simp
theorem a06 (c:UInt8) (s:Str):(A7 c s).length=s.count c+1:=by
 induction s with
 | nil=>rfl
 | cons b l ih =>
  rw [A7,List.count_cons];by_cases h:b=c
  ·rw [if_pos h,n_7,ih,if_pos (sp_ h)]
  ·rw [if_neg h,if_neg (sp_ h)];cases hs:A7 c l with
   | nil=>exact absurd hs (a0W c l)
   | cons x xs=>rw [hs] at ih;simpa using ih
theorem a5N {c:UInt8}:∀ {s:Str},Go.Lib.indexByte s c = -1->A7 c s=[s]
 | [],_=>rfl
 | b::l,h=>by
  rw [Go.Lib.indexByte] at h;by_cases hb:b=c
  ·rw [if_pos (sp_ hb)] at h;omega
  ·rw [if_neg (sp_ hb)] at h;have hl:Go.Lib.indexByte l c = -1:=by
    have:=Go.Lib.indexByte_ge l c;split at h
    ·rename_i e;simpa using e
    ·omega
   rw [A7,if_neg hb,a5N hl]
theorem a5a {c:UInt8}:∀ {s:Str} {m:Nat},Go.Lib.indexByte s c=m->m < s.length/\A7 c s=s.take m::A7 c (s.drop (m+1))
 | [],m,h=>by rw [Go.Lib.indexByte] at h;omega
 | b::l,m,h=>by
  rw [Go.Lib.indexByte] at h;by_cases hb:b=c
  ·rw [if_pos (sp_ hb)] at h;have hm:m=0:=by omega
   subst hm;exact ⟨si_,by rw [A7,if_pos hb];rfl⟩
  ·rw [if_neg (sp_ hb)] at h;have hg:=Go.Lib.indexByte_ge l c;split at h
   ·omega
   ·rename_i e;have e':Go.Lib.indexByte l c≠-1:=sp_ e;obtain ⟨k,hk⟩:∃ k:Nat,Go.Lib.indexByte l c=k:=⟨(Go.Lib.indexByte l c).toNat,om_⟩;have hmk:m=k+1:=by omega
    subst hmk;obtain ⟨h1,h2⟩:=a5a hk;refine ⟨by simp;omega,?_⟩;rw [A7,if_neg hb,h2];rfl
theorem c8X (n:Nat) {k:Nat}:I8 n (.vec 1 (d.map scv++List.replicate k (scv []))):=fun r hr c hc=>by
 rcases X1.1 hr with hr | hr
 ·obtain ⟨x,_,rfl⟩:=K5.1 hr;simp [scv] at hc;subst hc;exact .val _
 ·have:=List.eq_of_mem_replicate hr;subst this;simp [scv] at hc;subst hc;exact .val _
theorem c9p {k:Nat} (hk:0 < k):(d.map scv++List.replicate k (scv []))[0+((d.length:Int)).toNat]? = some (scv []):=by
 rw [n_9,a2p,a0y si_];simp [hk]
theorem c7a {n:Nat} {x:Str} (hk:d.length < n):(d.map scv++List.replicate (n - d.length) (scv [])).set (0+((d.length:Int)).toNat) (scv x)=(d++[x]).map scv++List.replicate (n - (d++[x]).length) (scv []):=by
 rw [n_9,a2p,List.set_append,if_neg si_];obtain ⟨j,hj⟩:∃ j,n - d.length=j+1:=⟨n - d.length - 1,om_⟩;have h2:n - (d++[x]).length=j:=by simp;omega
 rw [hj,h2];simp [List.replicate_succ]
theorem a6l (s:Str) (c:UInt8) (hs:s.length<=1000000000) (σ:List b9):b8 CC 207 [(sv s),(sv ([c])),(iv (0)),(iv (-1))] σ fun r σ'=>r = .ret (.list ((A7 c s).map scv) true none)/\σ'=σ:=by
 refine b8.anyw hCC pu_ pu_ ?_ σ;have hcnt:=s.count_le_length (a:=c);have hc1:([c]:Str).length=1:=rfl;refine D5 (cO Tryz.func207 ?_);refine z_6 ?_;refine a2Q ?_;refine cC ?_ ?_ <;> intro h1
 ·simp at h1
 ·refine a5L ?_;refine b3O ?_;refine cC ?_ ?_ <;> intro h2
  ·simp at h2
  ·refine c9 ?_;refine K8 hCC (α:=Unit) (fun _=>[(0,(sv s)),(1,(sv ([c]))),(2,(iv (0))),(3,(iv (((s.count c:Nat):Int)+1)))]) (fun _=>[]) (fun _=>True) r5 uz_ ?_ ?_
   ·
    refine a3F ?_;refine cC ?_ ?_ <;> intro h3
    ·refine X0 ?_;refine yc rfl Tryz.call262 i7 (a81 s c _) ?_;refine b78 ?_;exact ⟨(),_,tt,tu_,rfl⟩
    ·simp at h3
   ·intro _ _;refine z_5 ?_;refine cY X5 ?_;refine cY a0v ?_;refine cY (d5O rfl tt tt rfl rfl) ?_;refine O0 ?_;refine cD (b9U rfl tt tt rfl rfl (n:=(s.count c+1)) (c:=(s.count c+1)) om_ om_ t_1 t_0 a3y t_3 rfl (a6a rfl) rfl om_ E7 a36 ?_);refine O0 ?_;refine a7z ?_;refine z_6 ?_;refine a4A ?_;refine j5 hCC (α:=List Str × Str) (fun x=>[(0,(sv x.2)),(1,(sv ([c]))),(2,(iv (0))),(3,(iv ((s.count c:Nat):Int))),(9,.vec 0 0 (s.count c+1)),(10,iv x.1.length)]) (fun x=>[.vec 1 (x.1.map scv++List.replicate (s.count c+1 - x.1.length) (scv []))]) (fun x=>x.1.length<=s.count c/\A7 c s=x.1++A7 c x.2/\x.2.length<=s.length) (fun x=>s.count c+1 - x.1.length) ([],s) ⟨n_3 _,rfl,n_4 _⟩ ⟨m0,m0,m0,⟨tt,congrArg (fun z:Int=>(iv z)) om_⟩,m0,m0,tt⟩ (extra0:=[]) rfl r5 uz_ ?_;intro ⟨d,u⟩ ⟨hd,hsp,hul⟩;dsimp only at hd hsp hul ⊢;have hlen:=a06 c s;rw [hsp,n_5,a06 c u] at hlen;refine a1Q ?_;refine a7N ?_;refine cC ?_ ?_ <;> intro h4
    ·have hdl:d.length < s.count c:=sm_ h4;refine a21 ?_;refine z_5 ?_;refine yc rfl Tryz.call263 i7 (a8X u c _) ?_;refine b1w ?_;refine cC ?_ ?_ <;> intro h5
     ·exfalso;have hneg:Go.Lib.indexByte u c = -1:=by
       have:=Go.Lib.indexByte_ge u c;have h5':Go.Lib.indexByte u c < 0:=sp_ h5;omega
      have h6:=a06 c u;rw [a5N hneg] at h6;simp at h6;omega
     ·have hm0:¬ Go.Lib.indexByte u c < 0:=sp_ h5;obtain ⟨m,hm⟩:∃ m:Nat,Go.Lib.indexByte u c=m:=⟨(Go.Lib.indexByte u c).toNat,om_⟩;obtain ⟨hml,hsu⟩:=a5a hm;rw [hm];refine a6J ?_;refine a4Q ?_;refine cY a4s ?_;refine cY (J7 (h:=m) rfl tt rfl t_5 rfl a94 a4n a4n) ?_;refine cY c68 ?_;refine cD (O7 ((d++[u.take m]).map scv++List.replicate (s.count c+1 - (d++[u.take m]).length) (scv [])) rfl tt tt rfl c4 t_0 (.inl rfl) rfl (c9p (d:=d) (k:=s.count c+1 - d.length) om_) rfl (nb rfl) (by exact c7a (d:=d) (x:=u.take m) (n:=s.count c+1) om_) rfl ?_);refine c8 ?_;refine a0M ?_;refine cY X5 ?_;refine cY a4s ?_;refine cY (J7 (a:=(m+1)) rfl tt rfl t_5 a94 rfl a4n a4n) ?_;refine a9T ?_;refine b78 ?_;exact ⟨(d++[u.take m],u.drop (m+1)),_,⟨by simp;omega,by simp;omega,by rw [hsp,hsu];simp,by simp;omega⟩,⟨⟨tt,(congrArg sv (show (u.take u.length).drop (m+1)=u.drop (m+1) by rw [a7O]))⟩,m0,m0,m0,m0,⟨tt,congrArg (fun z:Int=>(iv z)) si_⟩,tt⟩,rfl⟩
    ·have hdl:d.length=s.count c:=by
      have:¬ (d.length:Int) < ((s.count c:Nat):Int):=sp_ h4;omega
     have hu1:A7 c u=[u]:=by
      apply a5N;have h6:=a06 c u;have hg:=Go.Lib.indexByte_ge u c
      rcases Int.lt_or_le (Go.Lib.indexByte u c) 0 with h | h
      ·omega
      ·obtain ⟨m,hm⟩:∃ m:Nat,Go.Lib.indexByte u c=m:=⟨(Go.Lib.indexByte u c).toNat,om_⟩;obtain ⟨_,h7⟩:=a5a hm;have h8:=congrArg List.length h7;have h9:=a0W c (u.drop (m+1));have h10:=a85.2 h9;simp only [n_7] at h8;omega
     rw [hu1] at hsp;refine A4 ?_;refine a0M ?_;refine cY c68 ?_;refine cD (O7 ((d++[u]).map scv++List.replicate (s.count c+1 - (d++[u]).length) (scv [])) rfl tt tt rfl c4 t_0 (.inl rfl) rfl (c9p (d:=d) (k:=s.count c+1 - d.length) om_) rfl (nb rfl) (by exact c7a (d:=d) (x:=u) (n:=s.count c+1) om_) rfl ?_);refine c8 ?_;refine a4x ?_;refine cY (b4d (h:=(d.length+1)) rfl tt rfl t_1 t_0 rfl rfl a94 a9q (by first|(simp;done)|(simp;omega))) ?_;refine z_7 ?_;exact ⟨_,j2 rfl tt c4,_,_,rfl,rfl,.vecs (n_3 _) rfl (by first|(simp;done)|(simp;omega)) (by rw [hsp,a8G];exact List.take_left' si_) (fun r hr c hc=>(C4 (f:=scv) (fun _=>S9.all ⟨.val _,tt⟩) _) r hr c hc)⟩
theorem a8R (s:Str) (c:UInt8) (hs:s.length<=1000000000) (σ:List b9):b8 CC 162 [(sv s),(sv ([c]))] σ fun r σ'=>r = .ret (.list ((A7 c s).map scv) true none)/\σ'=σ:=by
 refine an_ Tryz.func162 ?_;refine a11 ?_;refine yc rfl Tryz.call207 ⟨tt,tt,rfl,rfl,tt⟩ (a6l s c hs _) ?_;refine z_7 ?_;exact ⟨_,j2 rfl tt c4,_,_,rfl,rfl,(W1 rfl (C2 _ _))⟩
end Go.Proofs.YtlppbmfecjabeaaGreatDoor
