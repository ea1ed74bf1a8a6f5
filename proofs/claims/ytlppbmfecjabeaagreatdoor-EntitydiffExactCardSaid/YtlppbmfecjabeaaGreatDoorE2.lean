/- Part 2: values without addresses. -/
import Derived.Lib.Bytealg
import Derived.Recover
import Derived.Lib.Builder
import Derived.Lib.UnsafeStr
import Derived.Sort.Grow
import Derived.Deep.Draws
import Derived.Lib.LaidTab
import Derived.Lib.MakeNoZero
import Derived.Shelf.Lays
import Derived.Sort.AssemblyPlain
import Derived.Sort.EveryDepth
import Derived.Shelf.Sort.WalkASIn
import Derived.Shelf.Sort.Walk7sIn
import Derived.Shelf.Sort.Walk11sIn
import Derived.Shelf.Sort.WalkC5sIn
import Derived.Shelf.Sort.WalkC4sIn
import Derived.Shelf.Sort.WalkB3sIn
import Derived.Shelf.Sort.Walk13sIn
import Derived.Shelf.Sort.WalkTopsIn
import Derived.Shelf.Sort.So_math_bits_LenInS
import Derived.Shelf.RegionOpen
import Derived.Shelf.AbstractIn
import Derived.Shelf.SlSortCmp.NoneTotal
import Derived.Test.YtlppbmfecjabeaaGreatDoorProg
import Derived.Test.YtlppbmfecjabeaaGreatDoorE1
set_option linter.all false
set_option maxRecDepth 100000
set_option maxHeartbeats 4000000
namespace Go.Cl
variable {t e t' et src dst kt:TypeId} {x y m kx:Operand} {K:W5->List b9->Prop} {C:Ctx} {f:FuncId} {w:World} {c c':CV} {α β:Type} {args args' cells av:List CV} {σ obs:List b9} {M:A9} {R R':Nat->Nat->Prop} {k q n off i s id:Nat} {P:Program} {ob b:b9} {p:Pl} {a:α} {z v:Value} {E:Env} {aa:Array Oper} {o:Oper} {Q:D5->Env->List b9->Prop} {V:List (List CV)} {qs fl:List Nat} {S:List (List b9->Prop)} {res:α->W5} {xs:Array Operand} {ts:Array TypeId}
section
theorem d7r (ho:o.op = .buildSlice t 0 #[]) (hu:∀ w,(underlying t).run C.P w = .ok (.slice e) w) (hs:∀ w,(sizeOf e).run C.P w = .ok s w)
 (hk:∀ a,K (.ret (.val (.slice (some a) 0 0))) σ):G9 C σ E o K:=fun M w ρ hr _=>by
 obtain ⟨hx,eU⟩:=hr.allocFull (.cells #[] e);have au:(execOp ρ o).run C.P w = .ok (.value (.slice (some ⟨w.heap.size,0,none⟩) 0 0)) (w.alloc (.cells #[] e)):=by
  have er:Array.range 0 = #[]:=rfl;simp only [execOp,ho,Instr.buildSlice,Sem.run_bind,hu,Result.andThen_ok,hs];simp [er,Instr.fill,newRow]
 rw [au];exact ⟨_,σ,_,hx,eU,.val _,hk _⟩
theorem c2Y {nn:Bool} {tok:Option Nat} {b:Bool} (ho:o.op = .binOp .eql t x (.const (.slice none 0 0)) t') (hx:E.valid x) (ex:E.val C x = .list V nn tok) (hu:∀ w,(underlying t).run C.P w = .ok (.slice e) w) (hb:(!nn)=b):l8 C σ E o (.val (.bool b)) :=
 i7 fun M w ρ _ h=>by
  have h1:=h x w9 hx;have h2:=h (.const (.slice none 0 0)) w9 rfl;rw [ex] at h1;have e2:ρ (.const (.slice none 0 0)) = .slice none 0 0:=by
   have h2:RV M w (.list [] false none) (ρ (.const (.slice none 0 0))):=h2;obtain ⟨a,cap,b',off,s,vals,hv,-,-,eb,dw,-,-,-,-,-,-⟩:=h2.list_inv;cases a with
   | none=>rw [hv,dw rfl];rfl
   | some a=>simp at eb
  obtain ⟨a,cap,b',off,s,vals,hv,-,-,eb,-,-,-,-,-,-,-⟩:=h1.list_inv;refine ⟨.bool b,?_,.val _⟩;subst hb;cases a with
  | none =>
   have:nn=false:=sp_ eb.symm;subst this;have heq:∀ d,(Op.equalIn (d+1) t (.slice none V.length cap) (.slice none 0 0)).run C.P w = .ok true w:=fun d=>by simp [Op.equalIn,hu]
   have he:(Op.equal t (.slice none V.length cap) (.slice none 0 0)).run C.P w = .ok true w:=heq 9999;simp [execOp,ho,hv,e2,eqGuard,binOp,he]
  | some a =>
   have:nn=true:=sp_ eb.symm;subst this;have heq:∀ d,(Op.equalIn (d+1) t (.slice (some a) V.length cap) (.slice none 0 0)).run C.P w = .ok false w:=fun d=>by simp [Op.equalIn,hu]
   have he:(Op.equal t (.slice (some a) V.length cap) (.slice none 0 0)).run C.P w = .ok false w:=heq 9999;simp [execOp,ho,hv,e2,eqGuard,binOp,he]
theorem d2g {a:Addr} {new:List (List CV)} {ti:TypeInfo} (m':Nat) (ho:o.op = .call { callee:=.builtin .append,args:=#[x,y],argTypes:=#[t,t]}) (hx:E.valid x) (hy:E.valid y) (ex:E.val C x = .val (.slice (some a) 0 0))
 (aQ:∀ M w v,Rel C M σ w->RV M w (E.val C y) v->Src C M w new s v) (hu:∀ w,(underlying t).run C.P w = .ok (.slice e) w) (hs:∀ w,(sizeOf e).run C.P w = .ok s w) (df:∀ w,(typeInfo e).run C.P w = .ok ti w) (hz:∀ w,(zeroValue e).run C.P w = .ok z w) (bI:z.cells.size=s)
 (dg:0 < new.length) (hb:new.length*ti.bytes<=140737488355328) (bi:new.length<=9223372036854775807) (hm:new.length=m')
 (hk:K (.ret (.vec σ.length 0 m')) (σ++[.vec s new])):G9 C σ E o K:=fun M w ρ hr hh=>by
 subst hm;have h1:=hh x H9 hx;have h2:=hh y H9 hy;rw [ex] at h1;have hv:=r3 h1;have aj:=(aQ M w _ hr h2).lenOf;have bD:(execOp ρ o).run C.P w=((Builtin.append_ #[t,t] o.type #[ρ x,ρ y]).run C.P w).andThen fun v w=>.ok (.value v) w:=by
  simp [execOp,ho,resolve,invoke,builtin]
 obtain ⟨dT,gI⟩:=hr.drewN;have hL:RV M w.drew (.list [] true none) (.slice (some a) 0 0):=.list (V:=[]) (b:=0) (off:=0) (s:=s) (fun _ _=>undef) (n_7 _) (n_4 _) rfl (fun h=>by cases h) (fun h=>by simp at h) (fun r hr=>by simp at hr) (fun r hr=>by simp at hr) (fun i j r c hi=>by simp at hi) (fun i j r c hi=>by simp at hi) (fun k hk=>by cases hk);have ee:=a07 (C:=C) (s:=s) hL (fun r hr=>by simp at hr);obtain ⟨a1,c1,dI,_,bg,old,hfo,dM,eX⟩:=ee;obtain ⟨an,cn,hvn,_,ck,arr,cB,ba,bx⟩:=aQ M w.drew _ dT (a5G h2);obtain ⟨c',ca,cr,au⟩:=X1 (P:=C.P) (ty:=o.type) (a:=some a) (c:=0) (w:=w) (n:=([]:List (List CV)).length) (m:=new.length) hu (.inl hu) hs df hz aj hfo cB L4 (sp_ bi) (sp_ hb);rw [bD,hv];change b0u _ _ _ ((Sem.run C.P (Builtin.append_ #[t,t] o.type #[Value.slice (some a) ([]:List (List CV)).length 0,ρ y]) w).andThen _);rw [au];simp only [Result.andThen_ok];have fY:w.drew.heap.size=w.heap.size:=rfl;rw [<- fY];have dN:(old++arr++Builtin.zeroCells z.cells (c' - (([]:List (List CV)).length+new.length))).size=c'*s:=by
  simp only [b9h,V9,dM,ba,bI];rw [<- Q5,<- Q5]
  congr 1;omega
 have aK:=Ext.alloc dT ⟨w.drew.heap.size,c',s⟩ (.cells (old++arr++Builtin.zeroCells z.cells (c' - (([]:List (List CV)).length+new.length))) e);have ap:=a2z (rest:=Builtin.zeroCells z.cells (c' - (([]:List (List CV)).length+new.length))) dM ba bg ck (fun i j r c hi hj=>(eX i j r c hi hj).1) (fun i j r c hi hj=>(bx i j r c hi hj).1);have aV:=dT.alloc ⟨w.drew.heap.size,c',s⟩ (.cells (old++arr++Builtin.zeroCells z.cells (c' - (([]:List (List CV)).length+new.length))) e) (.vec s ([]++new)) rfl
  ⟨rfl,sp_ ca,by unfold maxLen;simp only;omega,sp_ ck,fun r hr c hc=>(by
   obtain ⟨i,hi⟩:=M6.1 (by simpa using hr:r∈new);obtain ⟨j,hj⟩:=M6.1 hc;exact (bx i j r c hi hj).2),_,e,B0 _ _,dN,fun i j r c hi hj=>((ap i j r c hi hj).2.mono aK)⟩
 refine ⟨.vec σ.length 0 new.length,_,_,gI.trans aK,aV,?_,hk⟩;have:=RV.vec (M:=M.add ⟨w.drew.heap.size,c',s⟩) (w:=w.drew.alloc (.cells (old++arr++Builtin.zeroCells z.cells (c' - (([]:List (List CV)).length+new.length))) e)) (k:=σ.length) (off:=0) (len:=new.length) (p:=⟨w.drew.heap.size,c',s⟩) (a:=⟨w.drew.heap.size,0,none⟩) a9q (sp_ ca) (by unfold maxLen;simp only;omega) (fun _=>by simp);simpa using this
end
def a6s:b9->Prop
 | .dead=>True
 | .boxT _ cells=>∀ c∈cells,r4 c
 | _=>False
theorem a6s.old (h:a6s ob):I0 n ob:=by
 cases ob with
 | dead=>trivial
 | boxT t0 cells=>exact fun c hc=>(h c hc).old
 | _=>exact h.elim
theorem a6s.rel {M':A9} (aS:∀ b o,M.at b o->M'.at b o) (hf:∀ b,M'.full b->M.full b) (bZ:∀ b o,M'.cell b o->M.cell b o) (hp:a6s ob) (h:R5 M w p ob/\a7d M p ob):R5 M' w p ob/\a7d M' p ob:=by
 cases ob with
 | dead=>exact ⟨tt,tt⟩
 | boxT t0 cells =>
  obtain ⟨⟨arr,ty,e1,e2,e3,e4⟩,g1,g2⟩:=h;exact ⟨⟨arr,ty,e1,e2,e3,fun i c hi=>(e4 i c hi).pure (fun b o ha=>⟨aS b o ha,rfl⟩) (hp c (n_2 hi))⟩,fun hh=>g1 (hf _ hh),fun o hh=>g2 o (bZ _ o hh)⟩
 | _=>exact hp.elim
theorem a9X.nil {l:List b9}:a9X n σ l []:=by cases l<;>trivial
theorem b2u {c:α->CV} {S:α->b9} {P:α->Prop} (hC:C.plain) (hS:∀ a,a6s (S a)) (h:b8 C f args [ob] fun r Y=>∃ (a:α) (rest:List b9) (c0:CV),Y=S a::rest/\r = .ret c0/\Cls 1 Y c0 (c a)/\P a) :
 b8 C f args [ob] fun r Y=>∃ a,r = .ret (c a)/\Y=[S a]/\P a:=fun M w vs hr hn hx=>(h M w vs hr hn hx).mono fun e w' he=>by
 cases e with
 | returned v =>
  obtain ⟨c',Y,M',h1,h2,h3,a,rest,c0,rfl,h5,h6,h7⟩:=he;injection h5 with h5
  subst h5;obtain ⟨g1,g2,g3⟩:=h2.cutCls hC (S:=[S a]) ⟨.same (hS a).old,.nil⟩;exact ⟨c a,[S a],_,g3 M w h1 (by rw [hr.len];exact n_7 _),g1,RV.close h2 g2 (fun k p s V hk hp hs=>.inr ⟨k,p,_,hk,hp,hs,rfl,rfl⟩) h6 h3,⟨a,rfl,rfl,h7⟩⟩
 | panicked ch =>
  obtain ⟨c',v,Y,M',h0,h1,h2,h3,a,rest,c0,h4,h5,_⟩:=he;cases h5
 | outgrown=>exact he
theorem a6r {c:α->CV} {S:α->b9} {P:α->Prop} (hC:C.plain) (ao:∀ a∈args,r4 a) (hc:∀ a,r4 (c a)) (hS:∀ a,a6s (S a)) (hob:a6s ob) (cg:ob.live=true)
 (h:b8 C f (.ptr 0 0::args) [ob] fun r Y=>∃ a,r = .ret (c a)/\Y=[S a]/\P a) (σ:List b9) (q:Nat) (hq:σ[q]? = some ob):b8 C f (.ptr q 0::args) σ fun r Y=>∃ a,r = .ret (c a)/\Y=σ.set q (S a)/\P a:=fun M w vs hr hn hx=>by
 have gZ:q < σ.length:=(n_3.1 hq).1;obtain ⟨pq,hpq⟩:∃ p,M.pl[q]? = some p:=⟨M.pl[q]'(by rw [hr.len];exact gZ),si_⟩
 let LB:Nat->Prop:=fun b=>∃ (k:Nat) (p:Pl) (aG:b9),k≠q/\M.pl[k]? = some p/\σ[k]? = some aG/\aG.live=true/\p.block=b
 let M0:A9:={ pl:=[pq],full:=M.full,cell:=M.cell,keep:=fun b=>M.keep b\/LB b}
 have aS:∀ b o,M.at b o->M0.at b o/\w.cell? ⟨b,o,none⟩=w.cell? ⟨b,o,none⟩:=fun b o h=>⟨h,rfl⟩;have hLB:∀ b,LB b->b < w.heap.size:=fun b ⟨k,p,aG,_,hp,hs,hl,hb⟩=>hb ▸ (hr.obj k p aG hp hs).1.lt hl;have h0:∀ {k:Nat} {p:Pl},M0.pl[k]? = some p->k=0/\p=pq:=fun {k p} hp=>by
  rcases k with _ | k
  ·exact ⟨rfl,(Option.some.inj hp).symm⟩
  ·simp [M0] at hp
 have h0o:∀ {k:Nat} {x:b9},[ob][k]? = some x->x=ob:=fun {k x} hx=>by
  rcases k with _ | k
  ·exact (Option.some.inj hx).symm
  ·simp at hx
 have bJ:Rel C M0 [ob] w:=⟨rfl,hr.blk,fun k p x hp hs=>by
  obtain ⟨rfl,rfl⟩:=h0 hp;obtain rfl:=h0o hs;exact hob.rel (M:=M) (M':=M0) (fun b o h=>h) (fun b h=>h) (fun b o h=>h) (hr.obj q p x hpq hq),fun k k' p p' x x' hp aH _ _ _ _ _=>by
  rw [(h0 hp).1,(h0 aH).1],fun g cells hg=>⟨by
  have:=(hr.glob g cells hg).rv;cases this with
  | cptr vals h1 h2 h3=>exact .cptr vals h1 h2 fun j c hj=>(h3 j c hj).pure aS (hC g cells hg c (n_2 hj)),(hr.glob g cells hg).full,(hr.glob g cells hg).sz⟩,
  fun b hb=>(by
   rcases hb with hb | hb
   ·exact hr.kep b hb
   ·exact hLB b hb),fun k p x hp hs hl hb=>by
  obtain ⟨rfl,rfl⟩:=h0 hp;obtain rfl:=h0o hs
  rcases hb with hb | ⟨k,p',aG,hk,aH,aT,bM,hb⟩
  ·exact hr.nk q p x hpq hq hl hb
  ·exact hk (hr.inj k q p' p aG x aH hpq aT hq bM hl hb)⟩
 refine (h M0 w vs bJ (sp_ hn) fun i a hi=>?_).mono fun e w' he=>?_
 ·rcases i with _ | i
  ·simp at hi;subst hi;have:=hx 0 (.ptr q 0) si_;generalize vs.getD 0 undef=v0 at this ⊢;cases this with
   | ptr hk =>
    rw [hpq] at hk;injection hk with hk
    subst hk;exact .ptr (M:=M0) (k:=0) rfl
  ·simp at hi;exact (hx (i+1) a (sp_ hi)).pure aS (ao a (n_2 hi))
 cases e with
 | panicked ch =>
  obtain ⟨c',v,Y,M',_,_,_,_,⟨a,h5,_⟩⟩:=he;cases h5
 | outgrown=>exact he
 | returned v =>
  obtain ⟨c',Y,M',h1,h2,h3,a,h4,rfl,hP⟩:=he;injection h4 with h4
  subst h4;have aX:M'.pl[0]? = some pq:=h1.get (M:=M0) rfl
  let M2:A9:={ pl:=M.pl,full:=M'.full,cell:=M'.cell,keep:=M.keep}
  have aK:Ext M w M2 w':=⟨⟨[],by simp [M2]⟩,h1.full,h1.cell,h1.same,h1.sameC,h1.size,h1.drew,h1.os,h1.tape,h1.output,fun b hb=>by
   obtain ⟨k1,k2,k3,k4⟩:=h1.kept b (.inl hb);exact ⟨hb,k2,k3,k4⟩⟩
  have gC:∀ {k:Nat} {x:b9},(σ.set q (S a))[k]? = some x->(k=q/\x=S a)\/(k≠q/\σ[k]? = some x):=fun {k x} hk=>by
   rw [b0A] at hk;split at hk
   ·rename_i e;exact .inl ⟨e.symm,(Option.some.inj hk).symm⟩
   ·rename_i e;exact .inr ⟨fun h=>e h.symm,hk⟩
  have bY:∀ {k:Nat} {x:b9},(σ.set q (S a))[k]? = some x->x.live=true->∃ y,σ[k]? = some y/\y.live=true:=fun {k x} hk hl=>by
   rcases gC hk with ⟨rfl,rfl⟩ | ⟨_,h⟩
   ·exact ⟨ob,hq,cg⟩
   ·exact ⟨x,h,hl⟩
  refine ⟨c a,σ.set q (S a),M2,aK,⟨by simp [M2,hr.len],h2.blk,fun k p x hp hs=>?_,fun k k' p p' x x' hp aH hs aT hl bM hb=>?_,fun g cells hg=>(hr.glob g cells hg).mono aK,fun b hb=>a8L (hr.kep b hb) h1.size,fun k p x hp hs hl=>?_⟩,h3.pure (M:=M') (M':=M2) (w':=w') (fun b o h=>⟨h,rfl⟩) (hc a),⟨a,rfl,rfl,hP⟩⟩
  ·rcases gC hs with ⟨rfl,rfl⟩ | ⟨hk,hs⟩
   ·have e:p=pq:=by
     have hp:M.pl[k]? = some p:=hp;rw [hpq] at hp;exact (Option.some.inj hp).symm
    subst e;exact (hS a).rel (M:=M') (M':=M2) (fun b o h=>h) (fun b h=>h) (fun b o h=>h) (h2.obj 0 p (S a) aX rfl)
   ·by_cases hl:x.live=true
    ·obtain ⟨k1,k2,k3,k4⟩:=h1.kept p.block (.inr ⟨k,p,x,hk,hp,hs,hl,rfl⟩);obtain ⟨g1,g2⟩:=hr.obj k p x hp hs;refine ⟨g1.mono aK k2 (fun _ _ _ o ho=>k4 o ho),?_⟩;cases x with
     | dead=>trivial
     | tipT t0 n=>exact fun hf=>g2 (k3 hf)
     | _=>exact ⟨fun hf=>g2.1 (k3 hf),fun o ho=>g2.2 o (k4 o ho)⟩
    ·cases x<;>first|exact ⟨tt,tt⟩ | simp [b9.live] at hl
  ·obtain ⟨y,hy,dU⟩:=bY hs hl;obtain ⟨y',ii,hyl'⟩:=bY aT bM;exact hr.inj k k' p p' y y' hp aH hy ii dU hyl' hb
  ·obtain ⟨y,hy,dU⟩:=bY hs hl;exact hr.nk k p y hp hy dU
theorem c5k {M0:A9} (hr:Rel C M σ w) {len:Nat} (hp:M.pl[k]? = some p) (am:σ[k]? = some (.vec s V)) (aP:off+len<=V.length) (eE:∀ r∈V,∀ c∈r,r4 c)
 (aS:∀ b o,M.at b o->M0.at b o) (hfp:M0.full p.block) {v:Value} (hv:RV M w (.vec k off len) v):RV M0 w (.list ((V.drop off).take len) true none) v:=by
 cases hv with
 | vec aH g1 g2 g3 =>
  rename_i p' a;rw [hp] at aH;injection aH with aH
  subst aH;obtain ⟨⟨cm,q1,q2,q3,q4,arr,ty,q5,q6,q7⟩,_⟩:=hr.obj k p _ hp am;have aj:((V.drop off).take len).length=len:=by simp;omega
  have ap:∀ i r,((V.drop off).take len)[i]? = some r->i < len/\V[off+i]? = some r:=fun i r hi=>by
   rw [a2d] at hi;split at hi
   ·rw [a5v] at hi;exact ⟨‹_›,hi⟩
   ·cases hi
  have ga:(V.drop off).take len≠[]->off < p.cap:=fun az=>by
   have:0 < ((V.drop off).take len).length:=a94.2 az;omega
  refine RV.list' (L:=len) om_ (b:=p.block) (off:=off*p.size) (s:=p.size) (fun i j=>arr.getD ((off+i)*p.size+j) undef) om_ om_ rfl (fun h=>by cases h) (fun az=>by rw [g3 (ga az)]) (fun r bt=>?_) (fun r bt c bG=>?_) (fun i j r c hi hj=>?_) (fun i j r c hi hj=>?_) (fun k hk=>by cases hk)
  ·obtain ⟨i,hi⟩:=M6.1 bt;exact q3 r (n_2 (ap i r hi).2)
  ·obtain ⟨i,hi⟩:=M6.1 bt;exact q4 r (n_2 (ap i r hi).2) c bG
  ·obtain ⟨bn,hri⟩:=ap i r hi;have cd:j < p.size:=by have:=(n_3.1 hj).1;rwa [q3 r (n_2 hri)] at this
   have hq:(off+i)*p.size+j < arr.size:=by
    rw [q6];have:(off+i+1)*p.size<=p.cap*p.size:=S4 _ om_;rw [Q5 (off+i)] at this;omega
   refine ⟨.inl hfp,?_⟩;rw [show off*p.size+i*p.size+j=(off+i)*p.size+j from by rw [Q5 off]];simp [World.cell?,q5,hq]
  ·obtain ⟨bn,hri⟩:=ap i r hi;exact (q7 _ _ _ _ hri hj).pure (fun b o h=>⟨aS b o h,rfl⟩) (eE r (n_2 hri) c (n_2 hj))
theorem a6t {len:Nat} {v0:Value} (hC:C.plain) (ao:∀ a∈args,r4 a) (eE:∀ r∈V,∀ c∈r,r4 c) (aP:off+len<=V.length) (hk:σ[k]? = some (.vec s V))
 (h:b8 C f (.list ((V.drop off).take len) true none::args) [] fun r Y=>r = .ret (.val v0)/\Y=[]):b8 C f (.vec k off len::args) σ fun r Y=>r = .ret (.val v0)/\Y=σ :=
 fun M w vs hr hn hx=>by
  have bA:k < σ.length:=(n_3.1 hk).1;obtain ⟨q,hq⟩:∃ p,M.pl[k]? = some p:=⟨M.pl[k]'(by rw [hr.len];exact bA),si_⟩;obtain ⟨hqo,hqf⟩:=hr.obj k q _ hq hk
  let LB:Nat->Prop:=fun b=>∃ (k:Nat) (p:Pl) (ob:b9),M.pl[k]? = some p/\σ[k]? = some ob/\ob.live=true/\p.block=b
  let M0:A9:={ pl:=[],full:=fun b=>M.full b\/b=q.block,cell:=M.cell,keep:=fun b=>M.keep b\/LB b}
  have aS:∀ b o,M.at b o->M0.at b o/\w.cell? ⟨b,o,none⟩=w.cell? ⟨b,o,none⟩:=fun b o h=>⟨h.imp .inl id,rfl⟩;have hLB:∀ b,LB b->b < w.heap.size:=fun b ⟨k,p,ob,hp,hs,hl,hb⟩=>hb ▸ (hr.obj k p ob hp hs).1.lt hl;have bJ:Rel C M0 [] w:=⟨rfl,fun b o hb=>(by
   rcases hb with (hb | rfl) | hb
   ·exact hr.blk b o (.inl hb)
   ·exact hqo.lt rfl
   ·exact hr.blk b o (.inr hb)),fun k p ob hp=>by simp [M0] at hp,fun k k' p p' ob aG hp=>by simp [M0] at hp,fun g cells hg=>⟨by
   have:=(hr.glob g cells hg).rv;cases this with
   | cptr vals h1 h2 h3=>exact .cptr vals h1 (fun j c hj=>⟨(aS _ _ (h2 j c hj).1).1,(h2 j c hj).2⟩) fun j c hj=>(h3 j c hj).pure aS (hC g cells hg c (n_2 hj)),.inl (hr.glob g cells hg).full,(hr.glob g cells hg).sz⟩,
   fun b hb=>(by
   rcases hb with hb | hb
   ·exact hr.kep b hb
   ·exact hLB b hb),fun k p ob hp=>by simp [M0] at hp⟩
  refine (h M0 w vs bJ hn fun i a hi=>?_).mono fun e w' he=>?_
  ·rcases i with _ | i
   ·simp at hi;subst hi;exact c5k hr hq hk aP eE (fun b o h=>(aS b o h).1) (.inr rfl) (hx 0 _ si_)
   ·exact (hx (i+1) a (sp_ hi)).pure aS (ao a (n_2 (sp_ hi)))
  ·cases e with
   | panicked ch =>
    obtain ⟨c',v,Y,M',_,_,_,_,⟨h5,_⟩⟩:=he;cases h5
   | outgrown=>exact he
   | returned v =>
    obtain ⟨c',Y,M',h1,h2,h3,⟨h4,rfl⟩⟩:=he;injection h4 with h4
    subst h4
    let M2:A9:={ pl:=M.pl,full:=fun b=>M'.full b/\b≠q.block,cell:=fun b o=>M'.cell b o/\b≠q.block,keep:=M.keep}
    have aK:Ext M w M2 w':=⟨⟨[],by simp [M2]⟩,fun b hb=>⟨h1.full b (.inl hb),fun e=>hqf.1 (e ▸ hb)⟩,fun b o hb=>(h1.cell b o hb).imp (fun h=>⟨h,fun e=>hqf.2 o (e ▸ hb)⟩) (fun h=>⟨h,fun e=>hqf.2 o (e ▸ hb)⟩),fun b hb=>h1.same b (.inl hb),h1.sameC,h1.size,h1.drew,h1.os,h1.tape,h1.output,fun b hb=>by
     obtain ⟨k1,k2,k3,k4⟩:=h1.kept b (.inl hb);exact ⟨hb,k2,fun hf=>(k3 hf.1).elim id fun e=>absurd e hf.2,fun o ho=>k4 o ho.1⟩⟩
    refine ⟨.val v0,σ,M2,aK,⟨hr.len,fun b o hb=>h2.blk b o (hb.imp (·.1) (·.1)),fun k p ob hp hs=>?_,hr.inj,fun g cells hg=>(hr.glob g cells hg).mono aK,fun b hb=>a8L (hr.kep b hb) h1.size,hr.nk⟩,by rw [r3 h3];exact .val _,rfl,rfl⟩;by_cases hl:ob.live=true
    ·obtain ⟨k1,k2,k3,k4⟩:=h1.kept p.block (.inr ⟨k,p,ob,hp,hs,hl,rfl⟩);obtain ⟨g1,g2⟩:=hr.obj k p ob hp hs;have k3':M2.full p.block->M.full p.block:=fun hf=>(k3 hf.1).elim id fun e=>absurd e hf.2;refine ⟨g1.mono aK k2 (fun _ _ _ o ho=>k4 o ho.1),?_⟩;cases ob with
     | dead=>trivial
     | tipT t0 n=>exact fun hf=>g2 (k3' hf)
     | _=>exact ⟨fun hf=>g2.1 (k3' hf),fun o ho=>g2.2 o (k4 o ho.1)⟩
    ·cases ob<;>first|exact ⟨tt,tt⟩ | simp [b9.live] at hl
section
end
section
theorem b9y {l:List Oper} {j t:Nat} {aq b:Bool} (c0:CV) (hg:o.guard=some (j,aq)) (ht:(aa[j]?).bind (·.dst)=some t) (hv:E.ok t) (hb:E.f t = .val (.bool b))
 (hd:(match o.dst with | some d=>Nat.blt d n | none=>true)=true) (hy:b=aq->G9 C σ E o fun r Y=>match r with
  | .ret c=>J4 C n aa Q l (E.put o.dst c (b=aq)) Y
  | .pan c=>Q (.pan c) E Y) (hn:¬ b=aq->J4 C n aa Q l (E.put o.dst c0 (b=aq)) σ):J4 C n aa Q (o::l) E σ:=fun M w a hr hf=>by
 have hd1:(match o.dst with | some d=>d < n | none=>True):=by
  cases fx:o.dst with
  | none=>trivial
  | some d=>rw [fx] at hd;simpa [b2A] using hd
 have h1:RV M w (E.f t) (a.tmps.getD t undef):=hf.rv t hv;rw [hb] at h1;have h2:a.tmps.getD t undef = .bool b:=by generalize a.tmps.getD t undef=u at h1;cases h1;rfl
 have aI:t < a.tmps.size:=by
  rcases a4r t a.tmps.size with h' | h'
  ·exact h'
  ·simp [a9E h',undef] at h2
 have hw:Region.wanted o (yielded aa a.tmps)=(b == aq):=by
  have h3:a.tmps[t]? = some (.bool b):=by
   rw [a0H,a1j aI] at h2;rw [a1j aI,<- h2];rfl
  have h4:yielded aa a.tmps j=some b:=by unfold yielded;rw [ht,n_9,h3]
  simp only [Region.wanted,hg,h4];cases b<;>cases aq<;>rfl
 have fx:∀ t,o.dst=some t->t < n:=fun t ht=>by rw [ht] at hd1;exact hd1
 unfold wpList;by_cases cM:b=aq
 ·rw [n_1 (by rw [hw];simpa using cM)];refine .inl (a30 (hy cM M w a.eval hr fun x _ hx=>hf.eval hr hx) (fun v w' ha=>?_) (fun ch w' ha=>?_))
  ·obtain ⟨c',Y,M',h1,h2,h3,h4⟩:=ha;exact h4.later h1 h2 ((hf.mono h1).put fx (fun _=>h3) fun hh=>absurd cM hh)
  ·obtain ⟨c,v,Y,M',h0,h1,h2,h3,h4⟩:=ha;exact ⟨E,Y,M',h1,h2,hf.mono h1,c,v,h0,h3,h4⟩
 ·rw [n_0 (by rw [hw];simpa using cM)];exact (hn cM).later (Ext.refl M w) hr (hf.put fx (fun hh=>absurd hh cM) fun _=>rfl)
end
section
def V7 (C:Ctx) (aa:Array Oper) (qs:List Nat) (Q:D5->Env->List b9->Prop) (S:List (List b9->Prop)):List (Nat × List Nat)->Env->List b9->Prop
 | [],E,σ=>Q .normal E σ
 | (i,fl)::l,E,σ=>∃ o,aa[i]? = some o/\((qs.contains i=true/\∃ c g,(∀ Y,L5 C Y aa o E c g)/\V7 C aa qs Q S l (E.put o.dst c g) σ)\/(qs.contains i=false/\(d8w C aa o E σ (fun c g Y=>a13 S Y fl/\V7 C aa qs Q S l (E.put o.dst c g) Y) (fun c Y=>∀ E',Q (.pan c) E' Y)\/c37 C aa o E σ (fun c g Y=>a13 S Y fl/\V7 C aa qs Q S l (E.put o.dst c g) Y) fun c Y=>∀ E',Q (.pan c) E' Y)))
def tfB (ms hd fl:List Nat) (i:Nat):Bool:=(List.range hd.length).all fun k=>(ms.getD i 0).testBit (hd.getD k 0) || fl.contains k
theorem d5r {ms:List Nat} {fl:List Nat} {i:Nat} {σ:List b9}:∀ {hd:List Nat} {S:List (List b9->Prop)} (k0:Nat) (S0:List (List b9->Prop)),k0=S0.length->(∀ k,k < hd.length->(ms.getD i 0).testBit (hd.getD k 0)=true\/(k0+k)∈fl)->a13 (S0++S) σ fl->TF ms hd S i σ
 | [],_,_,_,_,_,_=>trivial
 | _::_,[],_,_,_,_,_=>trivial
 | x::hd,F::S,k0,S0,h0,hb,hf=>by
  refine ⟨fun hbit=>?_,d5r (k0+1) (S0++[F]) (by simp [h0]) (fun k hk=>?_) (by rw [D7];exact hf)⟩
  ·rcases hb 0 (Nat.zero_lt_succ _) with h | h
   ·rw [List.getD_cons_zero,hbit] at h;cases h
   ·have:=hf.get _ h;rw [h0] at this;simpa [a58] using this
  ·have:=hb (k+1) (Nat.succ_lt_succ hk);rw [show k0+1+k=k0+(k+1) by omega];simpa using this
def c3T (aa:Array Oper) (ms qs hd:List Nat) (Lf:Array Bool):List (Nat × List Nat)->Array Bool->Bool
 | [],_=>true
 | (i,fl)::l,L=>(match qs.contains i with
  | true=>b5Z aa ms Lf L i
  | false=>(match Region.ready .any aa L with
   | [j]=>Nat.beq j i
   | _=>false) && tfB ms hd fl i) && c3T aa ms qs hd Lf l (L.setIfInBounds i true)
theorem b5d {Lf:Array Bool} {ms qs hd:List Nat} {S:List (List b9->Prop)}:∀ {l:List (Nat × List Nat)} {L:Array Bool} {E:Env} {σ:List b9} {T:Nat->List b9->Prop},c3T aa ms qs hd Lf l L=true->a1i L (l.map Prod.fst)=Lf->(∀ j Y,TF ms hd S j Y->T j Y)->V7 C aa qs Q S l E σ->CA C aa Q Lf (fun E σ=>Q .normal E σ) T l.length L E σ
 | [],_,_,_,_,_,hL,_,h=>⟨hL,h⟩
 | (i,fl)::l,L,E,σ,T,hB,hL,hT,⟨o,ho,h⟩=>by
  rw [c3T,U6] at hB
  rcases h with ⟨hq,c,g,h1,h2⟩ | ⟨hq,h⟩
  ·rw [hq] at hB;exact c9q (fun Y=>L5 C Y aa o E c g) hB.1 ho (fun _ h=>h) (h1 σ) (b5d hB.2 hL (fun j Y h=>⟨hT j Y h,fun _=>h1 Y⟩) h2)
  ·simp only [hq,U6] at hB;obtain ⟨⟨b1,b2⟩,b3⟩:=hB;have hr:=a1J b1;have go:∀ (E':Env) (Y:List b9),a13 S Y fl/\V7 C aa qs Q S l E' Y->T i Y/\CA C aa Q Lf (fun E σ=>Q .normal E σ) T l.length (L.setIfInBounds i true) E' Y:=fun E' Y ⟨h1,h2⟩=>by
    refine ⟨hT i Y (d5r (fl:=fl) 0 [] rfl (fun k hk=>?_) h1),b5d b3 hL hT h2⟩;unfold tfB at b2;have:=a5D.1 b2 k (List.mem_range.2 hk);rw [L7];simpa using this
   refine ⟨by rw [hr];exact c2Q _ _,fun j hj=>?_⟩;rw [hr,a9H] at hj;subst hj;refine ⟨o,ho,?_⟩
   rcases h with (⟨h1,h2⟩ | ⟨c,g,h1,h2⟩) | h
   ·exact .inr (a3h (fun _ _=>⟨rfl,rfl,rfl⟩) (fun c g Y hh=>go _ _ hh) (.inl ⟨h1,h2⟩))
   ·exact .inl ⟨c,g,h1,(go _ _ h2).2⟩
   ·exact .inr (a3h (fun _ _=>⟨rfl,rfl,rfl⟩) (fun c g Y hh=>go _ _ hh) (.inr h))
def b5T (aa:Array Oper) (qs ms hd:List Nat) (tl:List (Nat × List Nat)):Bool :=
 Nat.beq (hd.length+tl.length) aa.size && a8I aa ms (a1i (a1i (L0 aa) hd) (tl.map Prod.fst)) hd (L0 aa) && c3T aa ms qs hd (a1i (a1i (L0 aa) hd) (tl.map Prod.fst)) tl (a1i (L0 aa) hd) && (Region.ready .any aa (a1i (a1i (L0 aa) hd) (tl.map Prod.fst))).isEmpty
theorem c44 {a:Act} (qs:List Nat) (ms hd:List Nat) {tl:List (Nat × List Nat)} (hB:b5T aa qs ms hd tl=true) (cc:(aa.toList.all fun o=>match o.dst with | some d=>Nat.blt d n | none=>true)=true)
 (h:a2O C σ aa (fun E' S=>V7 C aa qs Q S tl E' σ) hd E []) (hr:Rel C M σ w) (hf:K5 M w n E a):wpAny C.P .any aa (W2 C n Q M w) aa.size (L0 aa) a { w with drawn:=w.drawn+1}:=by
 simp only [b5T,U6] at hB;obtain ⟨⟨⟨h1,h2⟩,h3⟩,h4⟩:=hB;obtain ⟨bt,hx⟩:=hr.drew;have:=b5a (f0:=0) (b4F cc) (fun E σ M1 w1 a1 hB bb aF dE=>⟨b55.1 h4,E,σ,M1,bb,aF,dE,hB⟩) (a7O (T:=fun _ _=>True) (f:=tl.length) h2 h fun E' S' hk=>b5d h3 rfl (fun j Y hh=>⟨tt,hh⟩) hk) hx bt (hf.mono hx);rw [L7,show tl.length+hd.length=aa.size by have:=a3U h1;omega] at this;exact this
theorem d1M (qs ms hd:List Nat) {tl:List (Nat × List Nat)} (hm:C.P.follows .mixedOrders=true) (hB:b5T aa qs ms hd tl=true) (cc:(aa.toList.all fun o=>match o.dst with | some d=>Nat.blt d n | none=>true)=true)
 (h:a2O C σ aa (fun E' S=>V7 C aa qs Q S tl E' σ) hd E []):CWp C n (.region id aa true) Q E σ:=fun M w a hr hf=>wp_region_any hm (c44 qs ms hd hB cc h hr hf)
theorem d_y (h:l8 C σ E o c) (k:K (.ret c) σ):G9 C σ E o K:=h.mono fun _ _ ⟨h1,h2⟩=>h1 ▸ h2 ▸ k
theorem c2M (ms hd:List Nat) {f:Nat} (hm:C.P.follows .mixedOrders=true) (hB:(Nat.beq (f+hd.length) aa.size && a8I aa ms (Array.replicate aa.size true) hd (L0 aa) && (Region.ready .any aa (Array.replicate aa.size true)).isEmpty)=true) (cc:(aa.toList.all fun o=>match o.dst with | some d=>Nat.blt d n | none=>true)=true)
 (h:a2O C σ aa (fun E' S=>CA C aa Q (Array.replicate aa.size true) (fun E σ=>Q .normal E σ) (fun j Y=>TF ms hd S j Y) f (a1i (L0 aa) hd) E' σ) hd E []):CWp C n (.region id aa true) Q E σ:=fun M w a hr hf=>wp_region_any hm (by
  simp only [U6] at hB;obtain ⟨⟨h1,h2⟩,h3⟩:=hB;obtain ⟨bt,hx⟩:=hr.drew;have:=b5a (f0:=0) (b4F cc) (fun E σ M1 w1 a1 hB bb aF dE=>⟨b55.1 h3,E,σ,M1,bb,aF,dE,hB⟩) (a7O (T:=fun _ _=>True) (f:=f) h2 h fun E' S' hk=>a5Q (fun _ _ h=>⟨tt,h⟩) hk) hx bt (hf.mono hx);rw [L7,a3U h1] at this;exact this)
section
variable {Lf:Array Bool} {B:Env->List b9->Prop} {T:Nat->List b9->Prop} {f:Nat} {L:Array Bool}
theorem a9D {i:Nat} {o:Oper} (hr:(match Region.ready .any aa L with
 | [j]=>Nat.beq j i
 | _=>false)=true) (ho:aa[i]? = some o) (hg:o.guard=none) (h:G9 C σ E o fun r Y=>match r with | .ret c=>T i Y/\CA C aa Q Lf B T f (L.setIfInBounds i true) (E.put o.dst c True) Y | .pan c=>∀ E',Q (.pan c) E' Y):CA C aa Q Lf B T (f+1) L E σ :=
 ⟨by rw [a1J hr];exact c2Q _ _,fun j hj=>by rw [a1J hr,a9H] at hj;subst hj;exact ⟨o,ho,.inr (.inl ⟨hg,h⟩)⟩⟩
theorem d7N {i:Nat} {o:Oper} {c:CV} {g:Prop} (hr:(match Region.ready .any aa L with
 | [j]=>Nat.beq j i
 | _=>false)=true) (ho:aa[i]? = some o) (bk:L5 C σ aa o E c g) (h:CA C aa Q Lf B T f (L.setIfInBounds i true) (E.put o.dst c g) σ):CA C aa Q Lf B T (f+1) L E σ :=
 ⟨by rw [a1J hr];exact c2Q _ _,fun j hj=>by rw [a1J hr,a9H] at hj;subst hj;exact ⟨o,ho,.inl ⟨c,g,bk,h⟩⟩⟩
theorem d1T {i i':Nat} {o o':Oper} (hr:(match Region.ready .any aa L with
 | [j,j']=>Nat.beq j i && Nat.beq j' i'
 | _=>false)=true) (ho:aa[i]? = some o) (ho':aa[i']? = some o') (hg:o.guard=none) (hg':o'.guard=none) (h:G9 C σ E o fun r Y=>match r with | .ret c=>T i Y/\CA C aa Q Lf B T f (L.setIfInBounds i true) (E.put o.dst c True) Y | .pan c=>∀ E',Q (.pan c) E' Y)
 (h':G9 C σ E o' fun r Y=>match r with | .ret c=>T i' Y/\CA C aa Q Lf B T f (L.setIfInBounds i' true) (E.put o'.dst c True) Y | .pan c=>∀ E',Q (.pan c) E' Y):CA C aa Q Lf B T (f+1) L E σ:=by
 have bt:Region.ready .any aa L=[i,i']:=by
  split at hr
  ·rename_i j j' hj;rw [U6] at hr;rw [hj,a3U hr.1,a3U hr.2]
  ·cases hr
 refine ⟨by rw [bt];exact c2Q _ _,fun j hj=>?_⟩;rw [bt] at hj;simp only [J5,a7v,or_false] at hj
 rcases hj with rfl | rfl
 ·exact ⟨o,ho,.inr (.inl ⟨hg,h⟩)⟩
 ·exact ⟨o',ho',.inr (.inl ⟨hg',h'⟩)⟩
end
theorem b5t (h:Q .normal E σ):V7 C aa qs Q S [] E σ:=h
theorem B1 {l:List (Nat × List Nat)} (gZ:qs.contains i=false) (ho:aa[i]? = some o) (hg:o.guard=none) (h:G9 C σ E o fun r Y=>match r with | .ret c=>a13 S Y fl/\V7 C aa qs Q S l (E.put o.dst c True) Y | .pan c=>∀ E',Q (.pan c) E' Y):V7 C aa qs Q S ((i,fl)::l) E σ :=
 ⟨o,ho,.inr ⟨gZ,.inl (.inl ⟨hg,h⟩)⟩⟩
theorem F2 {l:List (Nat × List Nat)} {g:Prop} (gZ:qs.contains i=false) (ho:aa[i]? = some o) (bk:L5 C σ aa o E c g) (h:a13 S σ fl/\V7 C aa qs Q S l (E.put o.dst c g) σ):V7 C aa qs Q S ((i,fl)::l) E σ :=
 ⟨o,ho,.inr ⟨gZ,.inl (.inr ⟨c,g,bk,h⟩)⟩⟩
theorem b0G {l:List (Nat × List Nat)} {g:Prop} (gZ:qs.contains i=true) (ho:aa[i]? = some o) (bk:∀ Y,L5 C Y aa o E c g) (h:V7 C aa qs Q S l (E.put o.dst c g) σ):V7 C aa qs Q S ((i,fl)::l) E σ :=
 ⟨o,ho,.inl ⟨gZ,c,g,bk,h⟩⟩
end
structure d0a {α:Type} [DecidableEq α] (P:Program) (kt:TypeId) (kc:α->CV) (kv:α->Value):Prop where
 rv:∀ M w a v,RV M w (kc a) v->v=kv a
 rv':∀ M w a,RV M w (kc a) (kv a)
 check:∀ b a w,(Instr.checkKey b 10000 kt (kv a)).run P w = .ok () w
 eq:∀ a b w,(Op.equal kt (kv a) (kv b)).run P w = .ok (decide (a=b)) w
 now:∃ d,(∀ w,(underlying kt).run P w = .ok d w)/\∀ a b,Instr.sameNow d (kv a) (kv b)=none
 bits:∀ a,Instr.sameBits 10000 (kv a) (kv a)=true
section
variable [DecidableEq α] {kc:α->CV} {kv:α->Value}
end
section
variable [DecidableEq α] {kc:α->CV} {kv:α->Value}
end
abbrev Str:=List UInt8
variable {l:Str}
def str (l:Str):ByteArray:=⟨l.toArray⟩
abbrev sv (l:Str):CV:=.val (.string (str l))
theorem a5h (l:Str):(str l).size=l.length:=by simp [str,ByteArray.size]
theorem Z3 (l:Str):(str l).toList=l:=by
 rw [ByteArray.toList_eq];simp [str]
theorem c0g (a b:Str):str a++str b=str (a++b):=by
 apply ByteArray.ext;simp [str]
theorem d4U (l:Str) (i:Nat):(str l)[i]? = l[i]?:=by
 simp only [str,getElem?_def]
 split<;>rename_i h<;>split<;>rename_i h'<;>first|rfl|(exfalso;simp [ByteArray.size] at h h';omega)
theorem b56 (l:Str) (a b:Nat):(str l).extract a b=str ((l.take b).drop a):=by
 apply ByteArray.ext;simp [str,List.drop_take]
section
theorem c7w (ho:o.op = .call { callee:=.builtin .len,args:=#[x],argTypes:=#[t]}) (hx:E.valid x) (ex:E.val C x=sv l) (hu:∀ w,(underlying t).run C.P w = .ok .string w):l8 C σ E o (.val (.int .i64 l.length)) :=
 i7 fun M w ρ _ h=>by
  have h1:=h x H9 hx;rw [ex] at h1;have h2:=r3 h1;refine ⟨.int .i64 l.length,?_,.val _⟩;simp [execOp,ho,h2,resolve,invoke,builtin,Builtin.len_,hu,goInt,a5h]
theorem N5 {ix:Operand} {i:Int} {k:IntKind} {b:UInt8} (ho:o.op = .index t x ix) (hx:E.valid x) (hi:E.valid ix) (ex:E.val C x=sv l) (ei:E.val C ix = .val (.int k i)) (hu:∀ w,(underlying t).run C.P w = .ok .string w) (h0:0<=i) (hb:l[i.toNat]? = some b):l8 C σ E o (.val (.int .u8 b.toNat)) :=
 i7 fun M w ρ _ h=>by
  have h1:=h x w9 hx;have h2:=h ix w9 hi;rw [ex] at h1;rw [ei] at h2;have eF:=r3 h1;have dC:=r3 h2;refine ⟨.int .u8 b.toNat,?_,.val _⟩;simp [execOp,ho,eF,dC,Instr.index,hu,asIntOf,h0,d4U,hb]
theorem H4 {a b:Str} (ho:o.op = .binOp .add t x y t') (hx:E.valid x) (hy:E.valid y) (ex:E.val C x=sv a) (ey:E.val C y=sv b) (hl:a.length+b.length<=9223372036854775807):l8 C σ E o (sv (a++b)) :=
 i7 fun M w ρ _ h=>by
  have h1:=h x w9 hx;have h2:=h y w9 hy;rw [ex] at h1;rw [ey] at h2;have eF:=r3 h1;have dC:=r3 h2;refine ⟨.string (str (a++b)),?_,.val _⟩;simp [execOp,ho,eF,dC,eqGuard,binOp,Op.stringOp,c0g];rw [a5h,a5h];omega
theorem b4M (a b:Str):(a == b)=decide (a=b):=by
 by_cases h:a=b<;>simp [h]
theorem a8a (a b:Str):b1l .eql (str a) (str b)=some (decide (a=b)):=by simp [b1l,Z3,b4M]
theorem b2j (a b:Str):b1l .neq (str a) (str b)=some (!decide (a=b)):=by simp [b1l,Z3,b4M]
theorem c6W (a b:Str):b1l .lss (str a) (str b)=some (Op.bytesLess a b):=by simp [b1l,Z3]
theorem b7m (a b:Str):b1l .leq (str a) (str b)=some (Op.bytesLess a b || decide (a=b)):=by simp [b1l,Z3,b4M]
theorem a2L {op:BinOp} {a b:Str} {r:Bool} (ho:o.op = .binOp op t x y t') (hx:E.valid x) (hy:E.valid y) (ex:E.val C x=sv a) (ey:E.val C y=sv b) (hv:b1l op (str a) (str b)=some r):l8 C σ E o (.val (.bool r)) :=
 d0b ho hx hy ex ey hv
end
def bcv (b:UInt8):List CV:=[.val (.int .u8 b.toNat)]
section
theorem K8 {lo hi:Option Operand} {a h:Nat} (ho:o.op = .slice t x lo hi none) (hx:E.valid x) (ex:E.val C x=sv l) (hu:∀ w,(underlying t).run C.P w = .ok .string w) (gG:a1X C E lo 0 a) (gU:a1X C E hi l.length h) (h1:a<=h) (h2:h<=l.length):l8 C σ E o (sv ((l.take h).drop a)) :=
 i7 fun M w ρ hr hh=>by
  have aC:=hh x w9 hx;rw [ex] at aC;have hv:=r3 aC;have gW:∀ v,lo=some v->∃ k i,ρ v = .int k i/\0<=i/\i.toNat=a:=fun v hv=>by
   subst hv;obtain ⟨bH,k,i,he,h0,hi⟩:=gG;have:=hh v w9 bH;rw [he] at this;exact ⟨k,i,r3 this,h0,hi⟩
  have fy:∀ v,hi=some v->∃ k i,ρ v = .int k i/\0<=i/\i.toNat=h:=fun v hv=>by
   subst hv;obtain ⟨bH,k,i,he,h0,hi⟩:=gU;have:=hh v w9 bH;rw [he] at this;exact ⟨k,i,r3 this,h0,hi⟩
  have hb:(Instr.sliceBounds false l.length l.length (lo.map ρ) (hi.map ρ) none).run C.P w = .ok (a,h,l.length) w:=by
   have cp:(a:Int)<=h:=by omega
   have hh2:(h:Int)<=l.length:=by omega
   cases lo with
   | none =>
    have:a=0:=by simpa [a1X] using gG.symm
    subst this;cases hi with
    | none =>
     have:h=l.length:=by simpa [a1X] using gU.symm
     subst this;simp [Instr.sliceBounds]
    | some v =>
     obtain ⟨k,i,he,h0,hi⟩:=fy v rfl;have aP:i<=l.length:=by omega
     simp [Instr.sliceBounds,Instr.sliceBound,he,asIntOf,h0,aP,hi]
   | some u =>
    obtain ⟨k,i,he,h0,hi0⟩:=gW u rfl;cases hi with
    | none =>
     have:h=l.length:=by simpa [a1X] using gU.symm
     subst this;have aP:i<=l.length:=by omega
     simp [Instr.sliceBounds,Instr.sliceBound,he,asIntOf,h0,aP,hi0]
    | some v =>
     obtain ⟨k',i',fz,gX,bd⟩:=fy v rfl;have aP:i<=h:=by omega
     have eZ:i'<=l.length:=by omega
     simp [Instr.sliceBounds,Instr.sliceBound,he,fz,asIntOf,h0,gX,aP,eZ,hi0,bd]
  refine ⟨.string (str ((l.take h).drop a)),?_,.val _⟩;simp [execOp,ho,hv,Instr.sliceAt,Instr.slice,hu,a5h,hb,b56]
theorem c2C {P:Program} {w:World}:∀ (l:Str) (bo:Str),(forIn (m:=Sem) (l.map fun b:UInt8=>Value.int .u8 (b.toNat:Int)) (str bo) fun (c:Value) (s:ByteArray) =>
 match c with
 | .int .u8 n=>(do pure (ForInStep.yield (s.push (UInt8.ofNat n.toNat))):Sem (ForInStep ByteArray))
 | _=>(do
  let _ ← (stuck "bytesToString: byte expected" : Sem PUnit)
  pure (ForInStep.yield s))).run P w = .ok (str (bo++l)) w
 | [],bo=>by simp
 | b::l,bo=>by
  have h:(str bo).push (UInt8.ofNat ((b.toNat:Int).toNat))=str (bo++[b]):=by
   apply ByteArray.ext;simp [str,ByteArray.push]
  rw [b2C,List.forIn_cons];simp only [Sem.run_bind,Sem.run_pure,Result.andThen_ok,h];rw [c2C l (bo++[b])];simp
theorem d9Y {nn:Bool} {tok:Option Nat} (ho:o.op = .convert src dst x) (hx:E.valid x) (ex:E.val C x = .list (l.map bcv) nn tok) (hs:∀ w,(underlying src).run C.P w = .ok (.slice e) w) (hd:∀ w,(underlying dst).run C.P w = .ok .string w) (he:∀ w,(underlying e).run C.P w = .ok (.int .u8) w):l8 C σ E o (sv l) :=
 i7 fun M w ρ hr hh=>by
  have aC:=hh x w9 hx;rw [ex] at aC;obtain ⟨a,cap,b,off,s',vals,hv,bm,bi,eb,dw,ha,cN,aM,hc,bj,_⟩:=aC.list_inv;refine ⟨.string (str l),?_,.val _⟩;cases l with
  | nil =>
   cases a with
   | none=>simp [execOp,ho,hv,convert,hs,hd,he,Conv.bytesToString];rfl
   | some a=>simp [execOp,ho,hv,convert,hs,hd,he,Conv.bytesToString,loadCells,loadCellsFrom];rfl
  | cons y l =>
   have cI:=ha si_;have bv:s'=1:=by have:=cN (bcv y) si_;simpa [bcv] using this.symm
   subst bv;have aR:∀ j,j < (y::l).length->w.cell? ⟨b,off+j,none⟩=some ((((y::l).map fun b:UInt8=>Value.int .u8 (b.toNat:Int))[j]?).getD undef):=fun j hj=>by
    have h1:((y::l).map bcv)[j]? = some (bcv ((y::l)[j]'hj)):=by rw [O5,a09 hj];rfl
    have h2:=hc j 0 (bcv ((y::l)[j]'hj)) (.val (.int .u8 (((y::l)[j]'hj).toNat:Int))) h1 rfl;have h3:=r3 (bj j 0 (bcv ((y::l)[j]'hj)) (.val (.int .u8 (((y::l)[j]'hj).toNat:Int))) h1 rfl);simp only [b0q,a8l] at h2;rw [h2.2,h3,O5,a09 hj];rfl
   have hl:=R8 (P:=C.P) _ _ aR;have ax:((List.range (y::l).length).map fun j=>(((y::l).map fun b:UInt8=>Value.int .u8 (b.toNat:Int))[j]?).getD undef)=(y::l).map fun b:UInt8=>Value.int .u8 (b.toNat:Int):=by
    apply List.ext_getElem
    ·simp
    ·intro i h1 h2;simp at h1;simp [h1]
   have:=c2C (P:=C.P) (w:=w) (y::l) [];simp only [a2e] at this;rw [cI] at hv;simp only [O3] at hv;simp only [execOp,ho,hv,convert,Sem.run_bind,hs,hd,he,Result.andThen_ok,Conv.bytesToString,hl,ax];simp only [List.forIn_toArray];have e0:(ByteArray.empty)=str []:=rfl;rw [e0];refine (n_8 (fun r=>(r.andThen fun a w'=>Sem.run C.P (pure (Value.string a)) w').andThen fun a w'=>Sem.run C.P (pure (Next.value a)) w') this).trans ?_;simp
end
theorem Rel.settleBlock (hr:Rel C M σ w) {b:Nat} (hb:b < w.heap.size) (cS:∀ (k:Nat) (p:Pl) (ob:b9),M.pl[k]? = some p->σ[k]? = some ob->ob.live=true->p.block≠b) (hk:¬ M.keep b):Ext M w (M.settle b) w/\Rel C (M.settle b) σ w:=by
 have hx:Ext M w (M.settle b) w:=⟨⟨[],by simp [A9.settle]⟩,fun _ h=>.inl h,fun _ _ h=>.inr h,fun _ _=>rfl,fun _ _ _=>rfl,n_7 _,T1,rfl,rfl,rfl,fun b' h=>⟨h,rfl,fun f=>(by
  rcases f with f | f
  ·exact f
  ·exact absurd (f ▸ h) hk),fun _ f=>f⟩⟩
 refine ⟨hx,hr.len,fun b' o ha=>?_,fun k p x hp hs=>?_,hr.inj,fun g cells hg=>(hr.glob g cells hg).mono hx,hr.kep,hr.nk⟩
 ·rcases ha with (ha | ha) | ha
  ·exact hr.blk b' o (.inl ha)
  ·omega
  ·exact hr.blk b' o (.inr ha)
 ·obtain ⟨h1,h2⟩:=hr.obj k p x hp hs;by_cases hl:x.live=true
  ·refine ⟨h1.mono hx rfl (fun _ _ _ _ h=>h),?_⟩;have hf:¬ M.full p.block->¬ (M.settle b).full p.block:=fun h h'=>by
    rcases h' with h' | h'
    ·exact h h'
    ·exact cS k p x hp hs hl h'
   cases x<;>first | trivial|exact hf h2|exact ⟨hf h2.1,h2.2⟩
  ·cases x<;>first|exact ⟨tt,tt⟩ | simp [b9.live] at hl
theorem b1c {a:Array α} {p:α->Bool} (h:∀ x∈a,p x=true):a.filter p=a:=by
 apply Array.toList_inj.1;rw [Array.toList_filter];exact c4h.2 fun x hx=>h x (sp_ hx)
theorem a97 {a:Array α} {p:α->Bool} (h:∀ x∈a,p x=false):a.filter p = #[]:=by
 apply Array.toList_inj.1;rw [Array.toList_filter];exact c4g.2 fun x hx=>by rw [h x (sp_ hx)];simp
theorem b3J {ae:Array MapEntry} (ha:b19 ae) {seen:Array Nat} {e:MapEntry} (hi:(ae.toList.filter fun e=>!seen.contains e.born)[i]? = some e) :
 (ae.toList.filter fun x=>!(seen.push e.born).contains x.born)=(ae.toList.filter fun e=>!seen.contains e.born).eraseIdx i:=by
 have gp:∀ (i j:Nat) (e e':MapEntry),ae.toList[i]? = some e->ae.toList[j]? = some e'->e.born=e'.born->i=j:=fun i j e e' h1 h2 h3=>ha i j e e' (sp_ h1) (sp_ h2) h3;have hc:∀ x:MapEntry,(seen.push e.born).contains x.born=(seen.contains x.born || x.born == e.born):=fun x=>by
  rw [Array.contains_push]
 simp only [hc];generalize ae.toList=l at hi gp;clear ha hc
 induction l generalizing i with
 | nil=>simp at hi
 | cons y l ih =>
  have hag':∀ (i j:Nat) (e e':MapEntry),l[i]? = some e->l[j]? = some e'->e.born=e'.born->i=j:=fun i j a b h1 h2 h3=>by
   have:=gp (i+1) (j+1) a b (sp_ h1) (sp_ h2) h3;omega
  by_cases hy:seen.contains y.born=true
  ·have h1:(!seen.contains y.born)=false:=by rw [hy];rfl
   rw [a7V,n_0 (by rw [h1];simp)] at hi;rw [a7V,n_0 (by rw [hy];simp),a7V,n_0 (by rw [h1];simp)];exact ih hi hag'
  ·have ii:seen.contains y.born=false:=sp_ hy;have h1:(!seen.contains y.born)=true:=by rw [ii];rfl
   have e1:(List.filter (fun e=>!seen.contains e.born) (y::l))=y::l.filter fun e=>!seen.contains e.born:=by rw [a7V,n_1 h1]
   rw [e1] at hi ⊢
   rcases i with _ | i
   ·simp at hi;subst hi;rw [a7V,n_0 si_];rw [List.eraseIdx_zero,List.tail_cons];refine List.filter_congr fun x hx=>?_;have az:x.born≠y.born:=fun he=>by
     obtain ⟨j,hj⟩:=M6.1 hx;have:=gp (j+1) 0 x y (sp_ hj) rfl he;omega
    simp [az]
   ·rw [c1Z] at hi;have az:y.born≠e.born:=fun he=>by
     have hm:=b2N.1 (n_2 hi);obtain ⟨j,hj⟩:=M6.1 hm.1;have:=gp 0 (j+1) y e rfl (sp_ hj) he;omega
    rw [a7V,n_1 (by rw [ii];simp [az]),List.eraseIdx_cons_succ,ih hi hag']
def I1 (ae:Array MapEntry) (seen:Array Nat):Array MapEntry:=ae.filter fun e=>!seen.contains e.born
theorem b6T (ae:Array MapEntry) (seen:Array Nat):(I1 ae seen).toList=ae.toList.filter fun e=>!seen.contains e.born:=Array.toList_filter ..
section
theorem b0m {es:List (CV × CV)} (ho:o.op = .range t x) (hx:E.valid x) (ex:E.val C x = .map k) (hu:∀ w,(underlying t).run C.P w = .ok (.map kt et) w) (am:σ[k]? = some (.map es)) (hK:K (.ret (.ptr σ.length 0)) (σ.set k .dead++[.iter [] es])):G9 C σ E o K:=fun M w ρ hr h=>by
 have h1:=h x w9 hx;rw [ex] at h1;generalize hv:ρ x=v at h1;cases h1 with
 | map hp =>
  rename_i p;obtain ⟨h1,h2⟩:=hr.obj k p _ hp am;have ab:=h1.lt rfl;obtain ⟨ae,ai,g1,g2,g3⟩:=h1;have hnk:=hr.nk k p _ hp am rfl;have dT:=hr.dead k;have bq:∀ (i:Nat) (e:MapEntry),ae[i]? = some e->e.born < ai:=fun i e he=>by
   have ab:i < es.length:=by rw [<- g2.1];exact (a1s.1 he).1
   obtain ⟨e',h1,_,_,h4⟩:=g3 i es[i] (by simp [ab]);rw [he] at h1;injection h1 with h1
   rw [h1];exact h4
  obtain ⟨bb,aF⟩:=dT.settleBlock ab (fun k' p' aG aH aT bM hb=>by
   rw [b0A] at aT;split at aT
   ·split at aT
    ·injection aT with aT;subst aT;cases bM
    ·cases aT
   ·rename_i az;exact az (hr.inj k k' p p' _ _ hp aH am aT rfl bM hb.symm)) hnk
  have au:(execOp ρ o).run C.P w = .ok (.value (.pointer (some ⟨w.heap.size,0,none⟩))) (w.alloc (.mapIter (some p.block) ai #[] ai)):=by
   simp [execOp,ho,hv,Instr.range,hu,N3 g1]
  rw [au];have aK:=Ext.alloc aF ⟨w.heap.size,0,0⟩ (.mapIter (some p.block) ai #[] ai);have hk:=(dT.settleBlock ab (fun k' p' aG aH aT bM hb=>by
   rw [b0A] at aT;split at aT
   ·split at aT
    ·injection aT with aT;subst aT;cases bM
    ·cases aT
   ·rename_i az;exact az (hr.inj k k' p p' _ _ hp aH am aT rfl bM hb.symm)) hnk).2
  refine ⟨.ptr σ.length 0,_,_,bb.trans aK,aF.alloc ⟨w.heap.size,0,0⟩ _ (.iter [] es) rfl ⟨p.block,#[],ai,ae,ai,B0 _ _,.inr rfl,?_,.inl rfl,g2.2,bq,?_,fun i x hi=>?_,fun i x hi=>by simp at hi⟩,RV.ptr (p:=⟨w.heap.size,0,0⟩) (by
   have hl:=aF.len;simp at hl;simp [A9.add,<- hl]),hK⟩
  ·rw [K7 w _ ab];exact g1
  ·have:(ae.toList.filter fun e=>!(#[]:Array Nat).contains e.born)=ae.toList:=c4h.2 fun x _=>by simp
   rw [this];simpa using g2.1
  ·have:(ae.toList.filter fun e=>!(#[]:Array Nat).contains e.born)=ae.toList:=c4h.2 fun x _=>by simp
   rw [this];obtain ⟨e,f1,f2,f3,_⟩:=g3 i x hi;exact ⟨e,sp_ f1,(f2.mono bb).mono aK,(f3.mono bb).mono aK⟩
theorem b0V {q:Question} (h:q.forced=false):(choose q).run P w = .ok (q.cut (w.tape w.drawn q)) w.drew:=by
 simp [choose,Sem.run,h]
theorem b5C {it:Operand} {aD left:List (CV × CV)} (ho:o.op = .next it false) (hx:E.valid it) (ex:E.val C it = .ptr q 0) (am:σ[q]? = some (.iter aD left)) (hz:left=[]->K (.ret (.tup [.val (.bool false)])) σ)
 (hs:∀ (i:Nat) (x:CV × CV),left[i]? = some x->K (.ret (.tup [.val (.bool true),x.1,x.2])) (σ.set q (.iter [x] (left.eraseIdx i)))):G9 C σ E o K:=fun M w ρ hr h=>by
 have h1:=h it w9 hx;rw [ex] at h1;generalize hv:ρ it=v at h1;cases h1 with
 | ptr hp =>
  rename_i p;obtain ⟨h1,hf,hc⟩:=hr.obj q p _ hp am;have ab:=h1.lt rfl;obtain ⟨mb,seen,bF,ae,ai,g1,g2,g3,g4,g5,g6,g7,g8,_⟩:=h1;have bN:∀ e∈ae,e.born < ai:=fun e he=>by
   obtain ⟨i,hi⟩:=Array.mem_iff_getElem?.1 he;exact g6 i e hi
  have hA:=b6T ae seen;have hmemA:∀ e∈(I1 ae seen),e.born < ai:=fun e he=>bN e (Array.mem_filter.1 (show e∈ae.filter fun e=>!seen.contains e.born from he)).1;have bP:((I1 ae seen).filter fun e=>decide (e.born < ai))=I1 ae seen:=b1c fun x hx=>by simpa using hmemA x hx
  have dg:((I1 ae seen).filter fun e=>decide (e.born>=ai)) = #[]:=a97 fun x hx=>by have:=hmemA x hx;simp;omega
  have dX:(!seen.isEmpty && !ae.isEmpty && ae.all fun e=>decide (e.born>=bF))=false:=by
   rcases g4 with rfl | rfl
   ·simp
   ·by_cases he:ae.isEmpty=true
    ·simp [he]
    ·have:∃ e,e∈ae:=by
      have aI:0 < ae.size:=by
       rcases b20 ae.size with h | h
       ·exact absurd (by simp [Array.isEmpty,h]) he
       ·exact h
      exact ⟨ae[0],Array.getElem_mem aI⟩
     obtain ⟨e,he⟩:=this;have:(ae.all fun e=>decide (e.born>=bF))=false:=by
      rw [c27];intro hh;rw [Array.all_eq_true_iff_forall_mem] at hh;have h1:=hh e he;have h2:=bN e he;simp at h1;omega
     rw [this];simp
  have eh:(getObj p.block).run C.P w = .ok (.mapIter (some mb) ai seen bF) w:=by simp [getObj,Sem.run,g1]
  have hrun0:(execOp ρ o).run C.P w=((choose (.mapNext ((if (I1 ae seen).isEmpty then #[none] else #[])++((I1 ae seen)++#[]).map some).size)).run C.P w).andThen fun j w' =>
   ((match ((if (I1 ae seen).isEmpty then #[none] else #[])++((I1 ae seen)++#[]).map some)[j]? with
    | some (some e)=>(do
     setObj p.block (.mapIter (some mb) ai (seen.push e.born) ai)
     pure (Next.value (.tuple #[.bool true,e.key,e.val])):Sem Next)
    | some none=>pure (Next.value (.tuple #[.bool false]))
    | none => stuck "Next: no such candidate").run C.P w') := by
   have hun:(ae.filter fun e=>!seen.contains e.born)=I1 ae seen:=rfl;simp only [execOp,ho,hv,Instr.next,Sem.run_bind,eh,Result.andThen_ok,N3 g3,dX,hun,bP,dg];simp only [b9D,if_false,Sem.run_bind,Sem.run_pure];cases dz:(choose (.mapNext ((if (I1 ae seen).isEmpty then #[none] else #[])++((I1 ae seen)++#[]).map some).size)).run C.P w with
   | halt x w'=>rfl
   | ok j w' =>
    simp only [Result.andThen_ok];generalize ((if (I1 ae seen).isEmpty=true then #[none] else #[])++Array.map some (I1 ae seen++#[]))[j]? = cand
    rcases cand with _ | _ | e
    ·simp [stuck]
    ·simp
    ·simp only [Sem.run_bind];generalize (setObj p.block (Obj.mapIter (some mb) ai (seen.push e.born) ai)).run C.P w'=r;cases r<;>simp
  rw [hrun0];cases hL:(I1 ae seen).toList with
  | nil =>
   have hempty:(I1 ae seen) = #[]:=Array.toList_inj.1 hL;have dv:left=[]:=by
    rw [<- hA,hL] at g7;exact b3D g7.symm
   rw [hempty];have dz:(choose (.mapNext (((if (#[]:Array MapEntry).isEmpty then #[none] else #[])++((#[]:Array MapEntry)++#[]).map some).size))).run C.P w = .ok 0 w:=by
    simp [choose,Sem.run,Question.forced]
   rw [dz];have eG:((if (#[]:Array MapEntry).isEmpty=true then #[none] else #[])++Array.map some ((#[]:Array MapEntry)++#[]))[0]? = some none:=by simp
   simp only [Result.andThen_ok];rw [eG];show a3v C M w K (.tuple #[.bool false]) w;exact ⟨.tup [.val (.bool false)],σ,M,Ext.refl M w,hr,.tup rfl (fun i c hi=>by
    rcases i with _ | i
    ·simp at hi;subst hi;exact .val _
    ·simp at hi),hz dv⟩
  | cons e0 r0 =>
   have az:(I1 ae seen).isEmpty=false:=by
    rw [<- Array.isEmpty_toList,hL];rfl
   have aI:(I1 ae seen).size=(ae.toList.filter fun e=>!seen.contains e.born).length:=by rw [<- hA];simp
   rw [az];simp only [b9D,if_false,Array.append_empty,Array.empty_append];have key:∀ (j:Nat) (w':World) (M':A9),Ext M w M' w'->Rel C M' σ w'->M'.pl=M.pl->w'.heap=w.heap->j < (I1 ae seen).size->b0u C.P (a3v C M w K) (a0w C M w K) ((match ((I1 ae seen).map some)[j]? with
    | some (some e)=>(do
     setObj p.block (.mapIter (some mb) ai (seen.push e.born) ai)
     pure (Next.value (.tuple #[.bool true,e.key,e.val])):Sem Next)
    | some none=>pure (Next.value (.tuple #[.bool false]))
    | none => stuck "Next: no such candidate").run C.P w') := by
    intro j w' M' aC bt aX gr hj;obtain ⟨e,he⟩:∃ e,(I1 ae seen)[j]? = some e:=⟨_,a1j hj⟩;have fz:(ae.toList.filter fun e=>!seen.contains e.born)[j]? = some e:=by rw [<- hA];simpa using he
    have hm:((I1 ae seen).map some)[j]? = some (some e):=by rw [b3T,he];rfl
    rw [hm];have gC:(setObj p.block (.mapIter (some mb) ai (seen.push e.born) ai)).run C.P w' = .ok () (World.putObj w' p.block (.mapIter (some mb) ai (seen.push e.born) ai)):=by
     simp [setObj,Sem.run,World.putObj,gr,g1]
    simp only [Sem.run_bind,gC,Result.andThen_ok,Sem.run_pure];have cd:j < left.length:=by rw [<- g7];exact (n_3.1 fz).1
    obtain ⟨x,dm⟩:∃ x,left[j]? = some x:=⟨left[j],by simp [cd]⟩;obtain ⟨e2,f1,f2,f3⟩:=g8 j x dm;rw [fz] at f1;injection f1 with f1
    subst f1;have aH:M'.pl[q]? = some p:=by rw [aX];exact hp
    obtain ⟨ob1,hf',bG⟩:=bt.obj q p _ aH am;have bp:p.block < w'.heap.size:=ob1.lt rfl;have aK:=Ext.putObj (w:=w') (.mapIter (some mb) ai (seen.push e.born) ai) (bt.nk q p _ aH am rfl) hf' bG;have hne2:p.block≠mb:=fun hb=>by
     rw [hb] at g1;rw [g1] at g3;cases g3
    have aV:=bt.putObj (ob:=.iter [x] (left.eraseIdx j)) aH am rfl hf' bG (.mapIter (some mb) ai (seen.push e.born) ai) ⟨mb,seen.push e.born,ai,ae,ai,World.putObj_same w' _ bp,aC.full _ g2,by rw [World.putObj_other w' _ hne2,gr];exact g3,.inr rfl,g5,g6,by
     rw [b3J g5 fz,List.length_eraseIdx,List.length_eraseIdx,g7],fun i y hi=>by
     rw [b3J g5 fz];rw [List.getElem?_eraseIdx] at hi ⊢;split at hi
     ·rename_i hij;rw [n_1 hij];obtain ⟨e3,u1,u2,u3⟩:=g8 i y hi;exact ⟨e3,u1,(u2.mono aC).mono aK,(u3.mono aC).mono aK⟩
     ·rename_i hij;rw [n_0 hij];obtain ⟨e3,u1,u2,u3⟩:=g8 (i+1) y hi;exact ⟨e3,u1,(u2.mono aC).mono aK,(u3.mono aC).mono aK⟩,fun i y hi=>by
     rcases i with _ | i
     ·simp at hi;subst hi;obtain ⟨j0,hj0⟩:=Array.mem_iff_getElem?.1 (Array.mem_filter.1 (show e∈ae.filter fun e=>!seen.contains e.born from b6t he)).1;exact ⟨rfl,j0,e,hj0,si_,(f2.mono aC).mono aK,(f3.mono aC).mono aK⟩
     ·simp at hi⟩
    refine ⟨.tup [.val (.bool true),x.1,x.2],_,M',aC.trans aK,aV,.tup rfl (fun i c hi=>?_),hs j x dm⟩
    rcases i with _ | _ | _ | i
    ·simp at hi;subst hi;exact .val _
    ·simp at hi;subst hi;exact (f2.mono aC).mono aK
    ·simp at hi;subst hi;exact (f3.mono aC).mono aK
    ·simp at hi
   have ij:0 < (I1 ae seen).size:=by rw [<- a9V,hL];simp
   have hszm:((I1 ae seen).map some).size=(I1 ae seen).size:=by simp
   rw [hszm];by_cases h1:(I1 ae seen).size<=1
   ·have dz:(choose (.mapNext (I1 ae seen).size)).run C.P w = .ok 0 w:=by
     simp [choose,Sem.run,Question.forced,h1]
    rw [dz];exact key 0 w M (Ext.refl M w) hr rfl rfl ij
   ·have dz:(choose (.mapNext (I1 ae seen).size)).run C.P w = .ok ((Question.mapNext (I1 ae seen).size).cut (w.tape w.drawn (.mapNext (I1 ae seen).size))) w.drew:=b0V (by simp [Question.forced];omega);rw [dz];obtain ⟨dT,gI⟩:=hr.drew;exact key _ w.drew M gI dT rfl rfl (a5m _ ij)
theorem b0o {it:Operand} {x:CV × CV} {left:List (CV × CV)} (ho:o.op = .entry it) (hx:E.valid it) (ex:E.val C it = .ptr q 0) (am:σ[q]? = some (.iter [x] left)):l8 C σ E o (.tup [x.1,x.2]) :=
 i7 fun M w ρ hr h=>by
  have h1:=h it w9 hx;rw [ex] at h1;generalize hv:ρ it=v at h1;cases h1 with
  | ptr hp =>
   rename_i p;obtain ⟨mb,seen,bF,ae,ai,g1,g2,g3,g4,g5,g6,g7,g8,g9⟩:=(hr.obj q p _ hp am).1;obtain ⟨hl,j,e,f1,f2,f3,f4⟩:=g9 0 x rfl;have hfind:ae.find? (fun e'=>e'.born == e.born)=some e:=by
    rw [<- Array.find?_toList];have hj:ae.toList[j]? = some e:=sp_ f1;obtain ⟨ab,hje⟩:=n_3.1 hj;rw [List.find?_eq_some_iff_getElem];refine ⟨si_,j,ab,hje,fun k hk=>?_⟩;have az:ae.toList[k].born≠e.born:=fun hb=>by
     have:=g5 k j ae.toList[k] e si_ f1 hb;omega
    simpa using az
   have eh:(getObj p.block).run C.P w = .ok (.mapIter (some mb) ai seen bF) w:=by simp [getObj,Sem.run,g1]
   refine ⟨.tuple #[e.key,e.val],?_,.tup rfl fun i c hi=>?_⟩
   ·simp [execOp,ho,hv,Instr.entry,eh,f2,N3 g3,hl,hfind]
   ·rcases i with _ | _ | i
    ·simp at hi;subst hi;exact f3
    ·simp at hi;subst hi;exact f4
    ·simp at hi
end
structure U9 {α:Type} [DecidableEq α] (P:Program) (kt:TypeId) (kc:α->CV) (kv:α->Value):Prop where
 rv:∀ M w a v,RV M w (kc a) v->v=kv a
 rv':∀ M w a,RV M w (kc a) (kv a)
 check:∀ b a w,(Instr.checkKey b 10000 kt (kv a)).run P w = .ok () w
 bits:∀ a,Instr.sameBits 10000 (kv a) (kv a)=true
 none:∀ (a:α) (l:List α) (ae:List MapEntry),ae.length=l.length->(∀ (i:Nat) (x:α),l[i]? = some x->∃ e,ae[i]? = some e/\e.key=kv x)->a∉l->∀ w,(Instr.findKey kt (kv a) ae).run P w = .ok none w
 some:∀ (a:α) (l:List α) (ae:List MapEntry),ae.length=l.length->(∀ (i:Nat) (x:α),l[i]? = some x->∃ e,ae[i]? = some e/\e.key=kv x)->∀ (i:Nat) (e:MapEntry),l[i]? = some a->(∀ j,j < i->l[j]?≠some a)->ae[i]? = some e->∀ w,(Instr.findKey kt (kv a) ae).run P w = .ok (some (i,e.val)) w
section
variable [DecidableEq α] {kc:α->CV} {kv:α->Value}
theorem a4Q {d:TypeDesc} (hs:∀ a b,Instr.sameNow d (kv a) (kv b)=some (decide (a=b))) (a:α):∀ (l:List α) (ae:List MapEntry) (n:Nat),ae.length=l.length->(∀ (i:Nat) (x:α),l[i]? = some x->∃ e,ae[i]? = some e/\e.key=kv x) ->
 (a∉l->Instr.findNow d (kv a) ae n=some none)/\∀ (i:Nat) (e:MapEntry),l[i]? = some a->(∀ j,j < i->l[j]?≠some a)->ae[i]? = some e->Instr.findNow d (kv a) ae n=some (some (n+i,e.val))
 | [],[],n,_,_=>⟨fun _=>rfl,fun i e h=>by simp at h⟩
 | [],_::_,_,h,_=>by simp at h
 | _::_,[],_,h,_=>by simp at h
 | x::l,e0::ae,n,hl,hh=>by
  obtain ⟨e',he,hk⟩:=hh 0 x rfl;simp at he;subst he;obtain ⟨ih1,ih2⟩:=a4Q hs a l ae (n+1) (sp_ hl) fun i y hi=>hh (i+1) y (sp_ hi);by_cases ik:a=x
  ·subst ik;refine ⟨fun h=>absurd si_ h,fun i e hi gd he=>?_⟩
   rcases i with _ | i
   ·simp at he;subst he;simp [Instr.findNow,hk,hs]
   ·exact absurd rfl (gd 0 om_)
  ·have step:Instr.findNow d (kv a) (e0::ae) n=Instr.findNow d (kv a) ae (n+1):=by simp [Instr.findNow,hk,hs,ik]
   refine ⟨fun h=>by rw [step];exact ih1 (fun hm=>h (by simp [hm])),fun i e hi gd he=>?_⟩
   rcases i with _ | i
   ·simp at hi;exact absurd hi.symm ik
   ·rw [step,ih2 i e (sp_ hi) (fun j hj=>by simpa using gd (j+1) om_) (sp_ he)]
    congr 3;omega
theorem a9b {d:TypeDesc} (bj:∀ M w a v,RV M w (kc a) v->v=kv a) (hrv':∀ M w a,RV M w (kc a) (kv a)) (hu:∀ w,(underlying kt).run P w = .ok d w) (hs:∀ a b,Instr.sameNow d (kv a) (kv b)=some (decide (a=b)))
 (hc:∀ b a w,(Instr.checkKey b 10000 kt (kv a)).run P w = .ok () w) (hb:∀ a,Instr.sameBits 10000 (kv a) (kv a)=true):U9 P kt kc kv where
 rv:=bj
 rv':=hrv'
 check:=hc
 bits:=hb
 none a l ae h1 h2 h3 w:=by simp [Instr.findKey,hu,(a4Q hs a l ae 0 h1 h2).1 h3]
 some a l ae h1 h2 i e h3 h4 h5 w:=by
  have:=(a4Q hs a l ae 0 h1 h2).2 i e h3 h4 h5;simp [Instr.findKey,hu,this]
theorem a5c (heq:∀ a b w,(Op.equal kt (kv a) (kv b)).run P w = .ok (decide (a=b)) w) (a:α):∀ (l:List α) (ae:List MapEntry) (n:Nat),ae.length=l.length->(∀ (i:Nat) (x:α),l[i]? = some x->∃ e,ae[i]? = some e/\e.key=kv x) ->
 (a∉l->∀ w,(Instr.findAsking kt (kv a) ae n).run P w = .ok none w)/\∀ (i:Nat) (e:MapEntry),l[i]? = some a->(∀ j,j < i->l[j]?≠some a)->ae[i]? = some e->∀ w,(Instr.findAsking kt (kv a) ae n).run P w = .ok (some (n+i,e.val)) w
 | [],[],n,_,_=>⟨fun _ w=>by simp [Instr.findAsking],fun i e h=>by simp at h⟩
 | [],_::_,_,h,_=>by simp at h
 | _::_,[],_,h,_=>by simp at h
 | x::l,e0::ae,n,hl,hh=>by
  obtain ⟨e',he,hk⟩:=hh 0 x rfl;simp at he;subst he;obtain ⟨ih1,ih2⟩:=a5c heq a l ae (n+1) (sp_ hl) fun i y hi=>hh (i+1) y (sp_ hi);by_cases ik:a=x
  ·subst ik;refine ⟨fun h=>absurd si_ h,fun i e hi gd he w=>?_⟩
   rcases i with _ | i
   ·simp at he;subst he;simp [Instr.findAsking,hk,heq]
   ·exact absurd rfl (gd 0 om_)
  ·have step:∀ w,(Instr.findAsking kt (kv a) (e0::ae) n).run P w=(Instr.findAsking kt (kv a) ae (n+1)).run P w:=fun w=>by simp [Instr.findAsking,hk,heq,ik]
   refine ⟨fun h w=>by rw [step];exact ih1 (fun hm=>h (by simp [hm])) w,fun i e hi gd he w=>?_⟩
   rcases i with _ | i
   ·simp at hi;exact absurd hi.symm ik
   ·rw [step,ih2 i e (sp_ hi) (fun j hj=>by simpa using gd (j+1) om_) (sp_ he)]
    congr 3;omega
theorem d0a.find (hK:d0a P kt kc kv):U9 P kt kc kv where
 rv:=hK.rv
 rv':=hK.rv'
 check:=hK.check
 bits:=hK.bits
 none a l ae h1 h2 h3 w:=by
  obtain ⟨d,hd,hs⟩:=hK.now;cases ae with
  | nil=>simp [Instr.findKey,hd,Instr.findNow]
  | cons e ae =>
   cases l with
   | nil=>simp at h1
   | cons x l =>
    obtain ⟨e',he,hk⟩:=h2 0 x rfl;simp at he;subst he;have hn:Instr.findNow d (kv a) (e::ae) 0 = .none:=by simp [Instr.findNow,hk,hs]
    simp [Instr.findKey,hd,hn,(a5c hK.eq a (x::l) (e::ae) 0 h1 h2).1 h3]
 some a l ae h1 h2 i e h3 h4 h5 w:=by
  obtain ⟨d,hd,hs⟩:=hK.now;cases ae with
  | nil=>simp at h5
  | cons e0 ae =>
   cases l with
   | nil=>simp at h1
   | cons x l =>
    obtain ⟨e',he,hk⟩:=h2 0 x rfl;simp at he;subst he;have hn:Instr.findNow d (kv a) (e0::ae) 0 = .none:=by simp [Instr.findNow,hk,hs]
    have:=(a5c hK.eq a (x::l) (e0::ae) 0 h1 h2).2 i e h3 h4 h5 w;simp [Instr.findKey,hd,hn,this]
end
theorem c7P (k:IntKind) (hu:∀ w,(underlying kt).run P w = .ok (.int k) w):U9 (α:=Int) P kt (fun a=>.val (.int k a)) (fun a=>.int k a) :=
 a9b (fun _ _ _ _ h=>r3 h) (fun _ _ _=>.val _) hu (fun a b=>by simp [Instr.sameNow];rfl)
  (fun b a w=>by
   have:∀ n,(Instr.checkKey b (n+1) kt (.int k a)).run P w = .ok () w:=fun n=>by simp [Instr.checkKey,hu]
   exact this 9999)
  (fun a=>by
   have:∀ n,Instr.sameBits (n+1) (.int k a) (.int k a)=true:=fun n=>by simp [Instr.sameBits]
   exact this 9999)
theorem b4P (a b:Str):(str a == str b)=decide (a=b):=by
 have h:(str a == str b)=((str a).data == (str b).data):=rfl;rw [h];by_cases e:a=b
 ·subst e;simp
 ·have:¬ (str a).data=(str b).data:=fun h'=>e (by simpa [str] using h');simp [e,this]
theorem d7W (hu:∀ w,(underlying kt).run P w = .ok .string w):U9 (α:=Str) P kt sv (fun a=>.string (str a)) :=
 a9b (fun _ _ _ _ h=>r3 h) (fun _ _ _=>.val _) hu (fun a b=>by
  simp only [Instr.sameNow];rw [b4P])
  (fun b a w=>by
   have:∀ n,(Instr.checkKey b (n+1) kt (.string (str a))).run P w = .ok () w:=fun n=>by simp [Instr.checkKey,hu]
   exact this 9999)
  (fun a=>by
   have:∀ n,Instr.sameBits (n+1) (.string (str a)) (.string (str a))=true:=fun n=>by simp [Instr.sameBits,b4P]
   exact this 9999)
def gm {α β:Type} (kc:α->CV) (vc:β->CV) (l:List (α × β)):List (CV × CV):=l.map fun x=>(kc x.1,vc x.2)
def glk {α β:Type} [DecidableEq α]:List (α × β)->α->Option β
 | [],_=>none
 | (b,c)::l,a=>if a=b then some c else glk l a
def U4 {α β:Type} [DecidableEq α]:List (α × β)->α->β->List (α × β)
 | [],a,c=>[(a,c)]
 | (b,d)::l,a,c=>if a=b then (b,c)::l else (b,d)::U4 l a c
theorem b5y [DecidableEq α] (l:List (α × Int)) (a:α):((glk l a).map fun v:Int=>CV.val (.int .i64 v)).getD (I2 (.int .i64 0)) = .val (.int .i64 ((glk l a).getD 0)):=by cases glk l a<;>rfl
theorem b7q [DecidableEq α] {l:List (α × β)}:glk l a=none↔a∉l.map (·.1):=by
 induction l with
 | nil=>simp [glk]
 | cons x l ih =>
  obtain ⟨b,c⟩:=x;by_cases h:a=b
  ·simp [glk,h]
  ·simp [glk,h,ih]
theorem a8e {α β:Type} [DecidableEq α]:∀ {l:List (α × β)} {a:α} {c:β},glk l a=some c->∃ i:Nat,l[i]? = some (a,c)/\∀ j,j < i->(l.map (·.1))[j]?≠some a
 | [],_,_,h=>by cases h
 | (b,d)::l,a,c,h=>by
  by_cases cX:a=b
  ·rw [glk,n_1 cX] at h;injection h with h
   subst h cX;exact ⟨0,rfl,fun j hj=>by omega⟩
  ·rw [glk,n_0 cX] at h;obtain ⟨i,h1,h2⟩:=a8e h;refine ⟨i+1,sp_ h1,fun j hj=>?_⟩
   rcases j with _ | j
   ·simpa using fun e=>cX e.symm
   ·simpa using h2 j om_
theorem c5I [DecidableEq α] {l:List (α × β)} {c:β} (h:glk l a=none):U4 l a c=l++[(a,c)]:=by
 induction l with
 | nil=>rfl
 | cons x l ih =>
  obtain ⟨b,d⟩:=x;by_cases cX:a=b
  ·rw [glk,n_1 cX] at h;cases h
  ·rw [glk,n_0 cX] at h;rw [U4,n_0 cX,ih h];rfl
theorem b3Q {α β:Type} [DecidableEq α] {c d:β} {a:α}:∀ {l:List (α × β)} {i:Nat},l[i]? = some (a,d)->(∀ j,j < i->(l.map (·.1))[j]?≠some a)->U4 l a c=l.set i (a,c)
 | [],i,h,_=>by simp at h
 | (b,e)::l,i,h,hm=>by
  rcases i with _ | i
  ·simp at h;rw [U4,n_1 h.1.symm,h.1];rfl
  ·have cX:¬ a=b:=fun e=>hm 0 om_ a1Q;rw [U4,n_0 cX,b3Q (sp_ h) (fun j hj=>by simpa using hm (j+1) om_)];rfl
theorem P1 [DecidableEq α] (l:List (α × β)) (a b:α) (c:β):glk (U4 l a c) b=if b=a then some c else glk l b:=by
 induction l with
 | nil=>rfl
 | cons x l ih =>
  obtain ⟨k,d⟩:=x;by_cases hak:a=k
  ·subst hak;rw [U4,n_1 rfl,glk,glk];by_cases h:b=a<;>simp [h]
  ·rw [U4,n_0 hak,glk,glk,ih];by_cases h:b=k
   ·subst h;rw [n_1 rfl,n_1 rfl,n_0 (fun e=>hak e.symm)]
   ·rw [n_0 h,n_0 h]
section
variable [DecidableEq α] {kc:α->CV} {kv:α->Value} {vc:β->CV}
theorem c7b (hK:U9 C.P kt kc kv) {l:List (α × β)} (h:R5 M w p (.map (gm kc vc l))) :
 ∃ ae ai,w.heap[p.block]? = some (.map ae ai)/\(ae.size=l.length/\b19 ae)/\(∀ (i:Nat) (x:α),(l.map (·.1))[i]? = some x->∃ e,ae.toList[i]? = some e/\e.key=kv x)/\∀ (i:Nat) (x:α × β),l[i]? = some x->∃ e,ae[i]? = some e/\e.key=kv x.1/\RV M w (vc x.2) e.val/\e.born < ai:=by
 obtain ⟨ae,ai,h1,h2,h3⟩:=h;have key:∀ (i:Nat) (x:α × β),l[i]? = some x->∃ e,ae[i]? = some e/\e.key=kv x.1/\RV M w (vc x.2) e.val/\e.born < ai:=fun i x hi=>by
  obtain ⟨e,he,hk,hv,hb⟩:=h3 i (kc x.1,vc x.2) (by simp [gm,hi]);exact ⟨e,he,hK.rv _ _ _ _ hk,hv,hb⟩
 refine ⟨ae,ai,h1,⟨by simpa [gm] using h2.1,h2.2⟩,fun i x hi=>?_,key⟩;rw [O5,N6] at hi;obtain ⟨y,hy,rfl⟩:=hi;obtain ⟨e,he,hk,_⟩:=key i y hy;exact ⟨e,sp_ he,hk⟩
theorem a7r (hK:U9 C.P kt kc kv) {l:List (α × β)} {ok:Bool} (h:R5 M w p (.map (gm kc vc l))) (hu:∀ w,(underlying t).run C.P w = .ok (.map kt et) w) (hz:∀ w,(zeroValue et).run C.P w = .ok z w) :
 match glk l a with
 | none=>(Instr.lookup t (.map (some p.block)) (kv a) ok).run C.P w = .ok (if ok=true then .tuple #[z,.bool false] else z) w
 | some c=>∃ v,RV M w (vc c) v/\(Instr.lookup t (.map (some p.block)) (kv a) ok).run C.P w = .ok (if ok=true then .tuple #[v,.bool true] else v) w:=by
 obtain ⟨ae,ai,g1,g2,g3,g4⟩:=c7b hK h;have aj:ae.toList.length=(l.map (·.1)).length:=sp_ g2.1;cases fP:glk l a with
 | none =>
  have hf:=hK.none a (l.map (·.1)) ae.toList aj g3 (b7q.1 fP) w;cases ok<;>simp [Instr.lookup,hu,N3 g1,hK.check,hf,hz]
 | some c =>
  obtain ⟨i,h1,h2⟩:=a8e fP;obtain ⟨e,e1,_,e3,_⟩:=g4 i (a,c) h1;have hf:=hK.some a (l.map (·.1)) ae.toList aj g3 i e (by simp [h1]) h2 (sp_ e1) w;exact ⟨e.val,e3,by cases ok<;>simp [Instr.lookup,hu,N3 g1,hK.check,hf]⟩
theorem S9 (hK:U9 C.P kt kc kv) {l:List (α × β)} (ho:o.op = .lookup t m kx false) (hm:E.valid m) (hk:E.valid kx) (em:E.val C m = .map q) (ek:E.val C kx=kc a)
 (hu:∀ w,(underlying t).run C.P w = .ok (.map kt et) w) (hz:∀ w,(zeroValue et).run C.P w = .ok z w) (bO:K9 z=true) (am:σ[q]? = some (.map (gm kc vc l))) (hc:((glk l a).map vc).getD (I2 z)=c):l8 C σ E o c :=
 i7 fun M w ρ hr h=>by
  have h1:=h m w9 hm;have h2:=h kx w9 hk;rw [em] at h1;rw [ek] at h2;have dC:=hK.rv _ _ _ _ h2;generalize hv:ρ m=v at h1;cases h1 with
  | map hp =>
   rename_i p;have hl:=a7r hK (t:=t) (a:=a) (ok:=false) (hr.obj q p _ hp am).1 hu hz;subst hc;cases fP:glk l a with
   | none =>
    rw [fP] at hl;exact ⟨z,by simp [execOp,ho,hv,dC,hl],a0r bO⟩
   | some c =>
    rw [fP] at hl;obtain ⟨u,f1,f2⟩:=hl;exact ⟨u,by simp [execOp,ho,hv,dC,f2],f1⟩
theorem a3E (hK:U9 C.P kt kc kv) {l:List (α × β)} (ho:o.op = .lookup t m kx true) (hm:E.valid m) (hk:E.valid kx) (em:E.val C m = .map q) (ek:E.val C kx=kc a)
 (hu:∀ w,(underlying t).run C.P w = .ok (.map kt et) w) (hz:∀ w,(zeroValue et).run C.P w = .ok z w) (bO:K9 z=true) (am:σ[q]? = some (.map (gm kc vc l))) (hc:((glk l a).map vc).getD (I2 z)=c):l8 C σ E o (.tup [c,.val (.bool (glk l a).isSome)]) :=
 i7 fun M w ρ hr h=>by
  have h1:=h m w9 hm;have h2:=h kx w9 hk;rw [em] at h1;rw [ek] at h2;have dC:=hK.rv _ _ _ _ h2;have tup:∀ {c:CV} {v:Value} {b:Bool},RV M w c v->RV M w (.tup [c,.val (.bool b)]) (.tuple #[v,.bool b]):=fun {c v b} hcv=>.tup rfl fun i x hi=>by
   rcases i with _ | _ | i
   ·simp at hi;subst hi;exact hcv
   ·simp at hi;subst hi;exact .val _
   ·simp at hi
  generalize hv:ρ m=v at h1;cases h1 with
  | map hp =>
   rename_i p;have hl:=a7r hK (t:=t) (a:=a) (ok:=true) (hr.obj q p _ hp am).1 hu hz;subst hc;cases fP:glk l a with
   | none =>
    rw [fP] at hl;exact ⟨.tuple #[z,.bool false],by simp [execOp,ho,hv,dC,hl],tup (a0r bO)⟩
   | some c =>
    rw [fP] at hl;obtain ⟨u,f1,f2⟩:=hl;exact ⟨.tuple #[u,.bool true],by simp [execOp,ho,hv,dC,f2],tup f1⟩
theorem b2F (hK:U9 C.P kt kc kv) {l:List (α × β)} {b:β} (hr:Rel C M σ w) (hp:M.pl[q]? = some p) (am:σ[q]? = some (.map (gm kc vc l))) (hv:RV M w (vc b) v)
 (hu:∀ w,(underlying t).run C.P w = .ok (.map kt et) w):∃ w',(Instr.mapUpdate t (.map (some p.block)) (kv a) v).run C.P w = .ok () w'/\Ext M w M w'/\Rel C M (σ.set q (.map (gm kc vc (U4 l a b)))) w':=by
 obtain ⟨ae,ai,g1,g2,g3,g4⟩:=c7b hK (hr.obj q p _ hp am).1;have aj:ae.toList.length=(l.map (·.1)).length:=sp_ g2.1;have bq:∀ (i:Nat) (e:MapEntry),ae[i]? = some e->e.born < ai:=fun i e he=>by
  have ab:i < l.length:=by rw [<- g2.1];exact (a1s.1 he).1
  obtain ⟨e',h1,_,_,h4⟩:=g4 i l[i] (by simp [ab]);rw [he] at h1;injection h1 with h1
  rw [h1];exact h4
 cases fP:glk l a with
 | none =>
  have hf:=hK.none a (l.map (·.1)) ae.toList aj g3 (b7q.1 fP) w;refine ⟨World.putObj w p.block (.map (ae.push { key:=kv a,val:=v,born:=ai}) (ai+1)),by simp [Instr.mapUpdate,hu,N3 g1,hK.check,hf,a5z _ g1],?_⟩;rw [c5I fP];exact hr.setObj (es':=gm kc vc (l++[(a,b)])) hp am (by simp [gm,g2.1]) (g2.2.push bq rfl) (fun i x hi=>by
   obtain ⟨y,hy,rfl⟩:∃ y,(l++[(a,b)])[i]? = some y/\(kc y.1,vc y.2)=x:=by unfold gm at hi;rwa [O5,N6] at hi
   rw [a6V] at hy;split at hy
   ·obtain ⟨e,q1,q2,q3,q4⟩:=g4 i y hy;have ab:i < ae.size:=(a1s.1 q1).1;exact ⟨e,by rw [b7s,n_0 om_];exact q1,by rw [q2];exact hK.rv' _ _ _,q3,om_⟩
   ·rename_i aE;have ab:=(n_3.1 hy).1;simp at ab;have hi0:i=l.length:=by omega
    subst hi0;simp at hy;subst hy;exact ⟨_,by rw [b7s,n_1 om_],hK.rv' _ _ _,hv,si_⟩)
 | some c =>
  obtain ⟨i,h1,h2⟩:=a8e fP;obtain ⟨e,e1,e2,e3,e4⟩:=g4 i (a,c) h1;have hf:=hK.some a (l.map (·.1)) ae.toList aj g3 i e (by simp [h1]) h2 (sp_ e1) w;refine ⟨World.putObj w p.block (.map (ae.modify i fun e=>{ e with key:=kv a,val:=v}) ai),by simp [Instr.mapUpdate,hu,N3 g1,hK.check,hf,a5z _ g1,Instr.keyThatStays,e1,e2,hK.bits],?_⟩;rw [b3Q h1 h2];exact hr.setObj (es':=gm kc vc (l.set i (a,b))) hp am (by simp [gm,g2.1]) (g2.2.modify fun _=>rfl) (fun j x hj=>by
   obtain ⟨y,hy,rfl⟩:∃ y,(l.set i (a,b))[j]? = some y/\(kc y.1,vc y.2)=x:=by unfold gm at hj;rwa [O5,N6] at hj
   rw [b0A] at hy;split at hy
   ·rename_i hij;subst hij;split at hy
    ·injection hy with hy
     subst hy;exact ⟨{ e with key:=kv a,val:=v},by rw [b83,n_1 rfl,e1];rfl,hK.rv' _ _ _,hv,e4⟩
    ·cases hy
   ·rename_i hij;obtain ⟨e',q1,q2,q3,q4⟩:=g4 j y hy;exact ⟨e',by rw [b83,n_0 hij];exact q1,by rw [q2];exact hK.rv' _ _ _,q3,q4⟩)
theorem o3 (hK:U9 C.P kt kc kv) {vx:Operand} {l:List (α × β)} {b:β} (ho:o.op = .mapUpdate t m kx vx\/o.op = .insert t m kx vx) (hm:E.valid m) (hk:E.valid kx) (hv:E.valid vx) (em:E.val C m = .map q) (ek:E.val C kx=kc a) (ev:E.val C vx=vc b)
 (hu:∀ w,(underlying t).run C.P w = .ok (.map kt et) w) (am:σ[q]? = some (.map (gm kc vc l))) (hQ:K (.ret (.val undef)) (σ.set q (.map (gm kc vc (U4 l a b))))):G9 C σ E o K:=fun M w ρ hr h=>by
 have hops:m∈o.op.operands/\kx∈o.op.operands/\vx∈o.op.operands:=by rcases ho with ho | ho<;>simp [ho,Op.operands]
 have h1:=h m hops.1 hm;have h2:=h kx hops.2.1 hk;have h3:=h vx hops.2.2 hv;rw [em] at h1;rw [ek] at h2;rw [ev] at h3;have dC:=hK.rv _ _ _ _ h2;generalize hum:ρ m=um at h1;cases h1 with
 | map hp =>
  rename_i p;obtain ⟨w',au,hx,bt⟩:=b2F hK (a:=a) (b:=b) hr hp am h3 hu;have dD:(execOp ρ o).run C.P w = .ok .skip w':=by
   rcases ho with ho | ho<;>simp [execOp,ho,hum,dC,au]
  rw [dD];exact ⟨.val undef,_,M,hx,bt,.val _,hQ⟩
end
theorem a7w (w:World) (arr:Array Value) (e:TypeId) (n:Nat):(w.alloc (.cells arr e)).freeze ⟨w.heap.size,n,none⟩ 1=w.alloc (.cells arr e (n,n+1)):=by
 unfold World.freeze World.alloc;rw [n_0 om_]
 congr 1
 apply Array.ext
 ·simp
 ·intro i h1 h2;simp at h1 h2;rw [Array.getElem_modify];by_cases hi:w.heap.size=i
  ·subst hi;simp
  ·rw [n_0 hi];rw [Array.getElem_push_lt om_,Array.getElem_push_lt om_]
section
theorem d6I (ho:o.op = .convert src dst x) (hx:E.valid x) (ex:E.val C x=sv l) (hs:∀ w,(underlying src).run C.P w = .ok .string w) (hd:∀ w,(underlying dst).run C.P w = .ok (.slice e) w) (he:∀ w,(underlying e).run C.P w = .ok (.int .u8) w) (hl:l.length<=1000000000000):l8 C σ E o (.list (l.map bcv) true none):=fun M w ρ hr h=>by
 have h1:=h x w9 hx;rw [ex] at h1;have hv:=r3 h1;obtain ⟨dT,gI⟩:=hr.drew;obtain ⟨c,ca,cr,dz⟩:∃ c,l.length<=c/\c<=9223372036854775807/\(choose (.appendCap l.length 0 e)).run C.P w = .ok c w.drew:=by
  refine ⟨(Question.appendCap l.length 0 e).cut (w.tape w.drawn (.appendCap l.length 0 e)),by simp [Question.cut],?_,b0V rfl⟩;simp only [Question.cut];have:w.tape w.drawn (.appendCap l.length 0 e)%(2^63 - l.length) < 2^63 - l.length:=a5m _ om_;omega
 generalize hA:(((str l).data.map fun b:UInt8=>Value.int .u8 (b.toNat:Int))++Array.replicate (c - l.length) (Value.int .u8 0))=A;have hAs:A.size=c:=by
  rw [<- hA];simp [str];omega
 have au:(execOp ρ o).run C.P w = .ok (.value (.slice (some ⟨w.heap.size,0,none⟩) l.length c)) (w.drew.alloc (.cells A e (c,c+1))):=by
  have hsh:((w.drew.alloc (.cells A e)).shape? w.heap.size)=some (e,c):=by
   have:=B0 w.drew (.cells A e);simp only [World.shape?];rw [show w.heap.size=w.drew.heap.size from rfl,this];simp [hAs]
  have hm:(markStringish ⟨w.heap.size,0,none⟩).run C.P (w.drew.alloc (.cells A e)) = .ok () (w.drew.alloc (.cells A e (c,c+1))):=by
   have:=a7w w.drew A e c;simp only [markStringish,shape,freeze,Sem.run_bind];simp only [Sem.run,hsh,Result.andThen_ok];rw [show w.heap.size=w.drew.heap.size from rfl,this]
  simp only [execOp,ho,hv,convert,Sem.run_bind,hs,hd,Result.andThen_ok,he,Conv.stringToBytes,a5h,dz,newRow,hA];simp only [newObj,Sem.run,Result.andThen_ok];rw [show (w.drew.heap.size)=w.heap.size from rfl];simp only [Sem.run_pure,Result.andThen_ok];have e0:({ heap:=w.drew.heap.push (.cells A e),tape:=w.drew.tape,drawn:=w.drew.drawn,os:=w.drew.os,output:=w.drew.output}:World)=w.drew.alloc (.cells A e):=rfl;rw [e0,hm];simp only [Result.andThen_ok]
 rw [au];obtain ⟨aK,aV⟩:=dT.allocFull (.cells A e (c,c+1));have ap:∀ (i:Nat) (b:UInt8),l[i]? = some b->A[i]? = some (.int .u8 b.toNat):=fun i b hb=>by
  have ab:=(n_3.1 hb).1;rw [<- hA,b4j (by simp [str];exact ab)];simp [str,hb]
 have gt:RV (M.settle w.drew.heap.size) (w.drew.alloc (.cells A e (c,c+1))) (.list (l.map bcv) true none) (.slice (some ⟨w.drew.heap.size,0,none⟩) (l.map bcv).length c):=by
  refine .list (b:=w.drew.heap.size) (off:=0) (s:=1) (fun i _=>A.getD i undef) (sp_ ca) (by unfold maxLen;omega) rfl (fun h=>by cases h) a0B (fun r hr=>?_) (fun r hr c hc=>?_) (fun i j r c' hi hj=>?_) (fun i j r c' hi hj=>?_) (fun k hk=>by cases hk)
  ·obtain ⟨b,_,rfl⟩:=F4.1 hr;rfl
  ·obtain ⟨b,_,rfl⟩:=F4.1 hr;simp [bcv] at hc;subst hc;rfl
  ·rw [O5,N6] at hi;obtain ⟨b,hb,rfl⟩:=hi;have hj0:j=0:=by
    have:=(n_3.1 hj).1;simp [bcv] at this;exact this
   subst hj0;refine ⟨.inl (.inr rfl),?_⟩;simp only [World.cell?,B0];have:=ap i b hb;simp [this]
  ·rw [O5,N6] at hi;obtain ⟨b,hb,rfl⟩:=hi;have hj0:j=0:=by
    have:=(n_3.1 hj).1;simp [bcv] at this;exact this
   subst hj0;simp [bcv] at hj;subst hj;have:=ap i b hb;rw [a0H,this];exact .val _
 rw [O3] at gt;exact ⟨_,σ,_,gI.trans aK,aV,gt,rfl,rfl⟩
theorem a3n {f:Nat} {fs:Array Field} {fd:Field} (ho:o.op = .field t x f) (hx:E.valid x) (ex:E.val C x = .agg cells) (hu:∀ w,(underlying t).run C.P w = .ok (.struct fs) w) (hf:fs[f]? = some fd) (ha:∀ w,(isAgg fd.type).run C.P w = .ok false w) (hc:cells[fd.offset]? = some c):l8 C σ E o c :=
 i7 fun M w ρ hr h=>by
  have h1:=h x w9 hx;rw [ex] at h1;generalize hv:ρ x=v at h1;cases h1 with
  | agg g1 g2 g3 =>
   rename_i vs;have ab:fd.offset < vs.size:=by rw [g1];exact (n_3.1 hc).1
   refine ⟨vs.getD fd.offset undef,?_,g3 _ _ hc⟩;simp [execOp,ho,hv,Instr.field,hu,hf,part,ha,asAgg,ab]
theorem d3m (ho:o.op = .panic x) (hx:E.valid x) (ex:E.val C x=c) (hn:∀ M w v,RV M w c v->∃ t u,v = .iface t u) (hk:K (.pan c) σ):G9 C σ E o K:=fun M w ρ hr h=>by
 have h1:=h x w9 hx;rw [ex] at h1;obtain ⟨t,u,hv⟩:=hn M w _ h1;have au:(execOp ρ o).run C.P w = .halt (.panic (ρ x)) w:=by
  simp [execOp,ho,hv,Instr.panic]
 rw [au];exact ⟨c,ρ x,σ,M,rfl,Ext.refl M w,hr,h1,hk⟩
end
inductive Q1 (R:Nat->Nat->Prop):CV->CV->Prop where
 | val (v:Value):Q1 R (.val v) (.val v)
 | agg {cs bc:List CV}:cs.length=bc.length->(∀ (i:Nat) (c c':CV),cs[i]? = some c->bc[i]? = some c'->Q1 R c c')->Q1 R (.agg cs) (.agg bc)
 | tup {cs bc:List CV}:cs.length=bc.length->(∀ (i:Nat) (c c':CV),cs[i]? = some c->bc[i]? = some c'->Q1 R c c')->Q1 R (.tup cs) (.tup bc)
 | clo {f:FuncId} {cs bc:List CV}:cs.length=bc.length->(∀ (i:Nat) (c c':CV),cs[i]? = some c->bc[i]? = some c'->Q1 R c c')->Q1 R (.clo f cs) (.clo f bc)
 | list {V rows':List (List CV)} {nn:Bool} {tok gc:Option Nat}:V.length=rows'.length->(∀ (i:Nat) (r r':List CV),V[i]? = some r->rows'[i]? = some r'->r.length=r'.length) ->
  (∀ (i j:Nat) (r r':List CV) (c c':CV),V[i]? = some r->rows'[i]? = some r'->r[j]? = some c->r'[j]? = some c'->Q1 R c c')->((tok=none/\gc=none)\/∃ k k',tok=some k/\gc=some k'/\R k k')->Q1 R (.list V nn tok) (.list rows' nn gc)
 | ptr {k k' off:Nat}:R k k'->Q1 R (.ptr k off) (.ptr k' off)
 | cptr {cells bR:List CV}:cells.length=bR.length->(∀ (i:Nat) (c c':CV),cells[i]? = some c->bR[i]? = some c'->Q1 R c c')->Q1 R (.cptr cells) (.cptr bR)
 | eptr {k k' i off:Nat}:R k k'->Q1 R (.eptr k i off) (.eptr k' i off)
 | vec {k k' off len:Nat}:R k k'->Q1 R (.vec k off len) (.vec k' off len)
 | map {k k':Nat}:R k k'->Q1 R (.map k) (.map k')
 | yld {k k':Nat}:R k k'->Q1 R (.yld k) (.yld k')
theorem Q1.one (h:Q1 R c c'):c'.one=c.one:=by cases h<;>rfl
theorem Q1.symm (hR:∀ k k',R k k'->R' k' k) (h:Q1 R c c'):Q1 R' c' c:=by
 induction h with
 | val v=>exact .val v
 | agg h1 _ ih=>exact .agg h1.symm fun i c c' h h'=>ih i c' c h' h
 | tup h1 _ ih=>exact .tup h1.symm fun i c c' h h'=>ih i c' c h' h
 | clo h1 _ ih=>exact .clo h1.symm fun i c c' h h'=>ih i c' c h' h
 | list h1 h2 _ h4 ih=>exact .list h1.symm (fun i r r' h h'=>(h2 i r' r h' h).symm) (fun i j r r' c c' a b d e=>ih i j r' r c' c b a e d) (h4.imp (fun ⟨a,b⟩=>⟨b,a⟩) fun ⟨k,k',a,b,d⟩=>⟨k',k,b,a,hR _ _ d⟩)
 | ptr h=>exact .ptr (hR _ _ h)
 | cptr h1 _ ih=>exact .cptr h1.symm fun i c c' h h'=>ih i c' c h' h
 | eptr h=>exact .eptr (hR _ _ h)
 | vec h=>exact .vec (hR _ _ h)
 | map h=>exact .map (hR _ _ h)
 | yld h=>exact .yld (hR _ _ h)
theorem Q1.pure (h:r4 c):Q1 R c c:=by
 induction h with
 | val v=>exact .val v
 | agg _ ih =>
  refine .agg rfl fun i c c' h h'=>?_;rw [h] at h';injection h' with h';subst h'
  exact ih c (n_2 h)
 | tup _ ih =>
  refine .tup rfl fun i c c' h h'=>?_;rw [h] at h';injection h' with h';subst h'
  exact ih c (n_2 h)
 | clo _ ih =>
  refine .clo rfl fun i c c' h h'=>?_;rw [h] at h';injection h' with h';subst h'
  exact ih c (n_2 h)
 | list _ ih =>
  refine .list rfl (fun i r r' h h'=>?_) (fun i j r r' c c' h h' g g'=>?_) (.inl ⟨rfl,rfl⟩)
  ·rw [h] at h';injection h' with h';subst h';rfl
  ·rw [h] at h';injection h' with h';subst h'
   rw [g] at g';injection g' with g';subst g'
   exact ih r (n_2 h) c (n_2 g)
theorem RV.renR {R:Nat->Nat->Prop} {M M':A9} {w:World} (hR:∀ (k k':Nat) (p:Pl),R k k'->M.pl[k]? = some p->M'.pl[k']? = some p) (aS:∀ b o,M.at b o->M'.at b o) {c:CV} {v:Value} (h:RV M w c v):∀ {c':CV},Q1 R c c'->RV M' w c' v:=by
 induction h with
 | val v=>intro c' hr;cases hr;exact .val v
 | agg h1 h2 _ ih =>
  intro c' hr;cases hr with
  | agg e1 e2 =>
   refine .agg (by rw [h1,e1]) (fun c hc=>?_) fun i c hi=>?_
   ·obtain ⟨i,hi⟩:=M6.1 hc;obtain ⟨y,hy⟩:=r7 e1 hi;rw [(e2 i y c hy hi).one];exact h2 y (n_2 hy)
   ·obtain ⟨y,hy⟩:=r7 e1 hi;exact ih i y hy (e2 i y c hy hi)
 | tup h1 _ ih =>
  intro c' hr;cases hr with
  | tup e1 e2 =>
   refine .tup (by rw [h1,e1]) fun i c hi=>?_;obtain ⟨y,hy⟩:=r7 e1 hi;exact ih i y hy (e2 i y c hy hi)
 | clo h1 _ ih =>
  intro c' hr;cases hr with
  | clo e1 e2 =>
   refine .clo (by rw [h1,e1]) fun i c hi=>?_;obtain ⟨y,hy⟩:=r7 e1 hi;exact ih i y hy (e2 i y c hy hi)
 | @list V nn tok a cap b off s vals h1 h2 h3 h4 h5 h6 h7 h8 _ aY ih =>
  intro c' hr;cases hr with
  | @list _ rows' _ _ gc e1 e2 e3 e4 =>
   have az:rows'≠[]->V≠[]:=fun hn h0=>by
    rw [h0] at e1;exact hn (b3D e1.symm)
   have cA:∀ {i:Nat} {r':List CV},rows'[i]? = some r'->∃ r,V[i]? = some r:=fun hi=>r7 e1 hi;rw [e1];refine .list (s:=s) vals (by rw [<- e1];exact h1) h2 h3 h4 (fun hn=>h5 (az hn)) (fun r' bt=>?_) (fun r' bt c' bG=>?_) (fun i j r' c' hi hj=>?_) (fun i j r' c' hi hj=>?_) (fun k hk=>?_)
   ·obtain ⟨i,hi⟩:=M6.1 bt;obtain ⟨r,hr⟩:=cA hi;rw [<- e2 i r r' hr hi];exact h6 r (n_2 hr)
   ·obtain ⟨i,hi⟩:=M6.1 bt;obtain ⟨r,hr⟩:=cA hi;obtain ⟨j,hj⟩:=M6.1 bG;obtain ⟨c,hc⟩:=r7 (e2 i r r' hr hi) hj;rw [(e3 i j r r' c c' hr hi hc hj).one];exact h7 r (n_2 hr) c (n_2 hc)
   ·obtain ⟨r,hr⟩:=cA hi;obtain ⟨c,hc⟩:=r7 (e2 i r r' hr hi) hj;have:=h8 i j r c hr hc;exact ⟨aS _ _ this.1,this.2⟩
   ·obtain ⟨r,hr⟩:=cA hi;obtain ⟨c,hc⟩:=r7 (e2 i r r' hr hi) hj;exact ih i j r c hr hc (e3 i j r r' c c' hr hi hc hj)
   ·rcases e4 with ⟨_,e4⟩ | ⟨k0,k1,e5,e6,e7⟩
    ·rw [e4] at hk;cases hk
    ·rw [e6] at hk;injection hk with hk
     subst hk;obtain ⟨s',f1,f2,f3,f4⟩:=aY k0 e5;exact ⟨s',hR _ _ _ e7 f1,f2,f3,fun hn=>f4 (az hn)⟩
 | ptr hk=>intro c' hr;cases hr with | ptr e=>exact .ptr (hR _ _ _ e hk)
 | cptr vals h1 h2 _ ih =>
  intro c' hr;cases hr with
  | cptr e1 e2 =>
   refine .cptr vals (fun c hc=>?_) (fun j c hj=>?_) (fun j c hj=>?_)
   ·obtain ⟨i,hi⟩:=M6.1 hc;obtain ⟨y,hy⟩:=r7 e1 hi;rw [(e2 i y c hy hi).one];exact h1 y (n_2 hy)
   ·obtain ⟨y,hy⟩:=r7 e1 hj;exact ⟨aS _ _ (h2 j y hy).1,(h2 j y hy).2⟩
   ·obtain ⟨y,hy⟩:=r7 e1 hj;exact ih j y hy (e2 j y c hy hj)
 | eptr hk=>intro c' hr;cases hr with | eptr e=>exact .eptr (hR _ _ _ e hk)
 | vec hk h1 h2 h3=>intro c' hr;cases hr with | vec e=>exact .vec (hR _ _ _ e hk) h1 h2 h3
 | map hk=>intro c' hr;cases hr with | map e=>exact .map (hR _ _ _ e hk)
 | yld hk=>intro c' hr;cases hr with | yld e=>exact .yld (hR _ _ _ e hk)
def a1Y (R:Nat->Nat->Prop) (l l':List CV):Prop:=l.length=l'.length/\∀ (i:Nat) (c c':CV),l[i]? = some c->l'[i]? = some c'->Q1 R c c'
def c4p (R:Nat->Nat->Prop) (l l':List (CV × CV)):Prop:=l.length=l'.length/\∀ (i:Nat) (x x':CV × CV),l[i]? = some x->l'[i]? = some x'->Q1 R x.1 x'.1/\Q1 R x.2 x'.2
inductive I4 (R:Nat->Nat->Prop):b9->b9->Prop where
 | dead:I4 R .dead .dead
 | box {t0:Option TypeId} {l l':List CV}:a1Y R l l'->I4 R (.boxT t0 l) (.boxT t0 l')
 | tip {t0:Option TypeId} (n:Nat):I4 R (.tipT t0 n) (.tipT t0 n)
 | vec {s:Nat} {V rows':List (List CV)}:V.length=rows'.length->(∀ (i:Nat) (r r':List CV),V[i]? = some r->rows'[i]? = some r'->a1Y R r r')->I4 R (.vec s V) (.vec s rows')
 | map {es es':List (CV × CV)}:c4p R es es'->I4 R (.map es) (.map es')
 | iter {c c' l l':List (CV × CV)}:c4p R c c'->c4p R l l'->I4 R (.iter c l) (.iter c' l')
 | blk (o:Obj):I4 R (.blk o) (.blk o)
 | lp {o:Loop} {n:Nat} {cs bc:List (Nat × CV)}:cs.map Prod.fst=bc.map Prod.fst->(∀ (i:Nat) (x x':Nat × CV),cs[i]? = some x->bc[i]? = some x'->Q1 R x.2 x'.2)->I4 R (.lp o n cs) (.lp o n bc)
theorem I4.live {a:b9} (h:I4 R a b):b.live=a.live:=by cases h<;>rfl
theorem I4.symm (hR:∀ k k',R k k'->R' k' k) {a:b9} (h:I4 R a b):I4 R' b a:=by
 have hl:∀ {l l':List CV},a1Y R l l'->a1Y R' l' l:=fun h=>⟨h.1.symm,fun i c c' g g'=>(h.2 i c' c g' g).symm hR⟩;have he:∀ {l l':List (CV × CV)},c4p R l l'->c4p R' l' l:=fun h=>⟨h.1.symm,fun i c c' g g'=>⟨(h.2 i c' c g' g).1.symm hR,(h.2 i c' c g' g).2.symm hR⟩⟩;cases h with
 | dead=>exact .dead
 | box h=>exact .box (hl h)
 | tip n=>exact .tip n
 | vec h1 h2=>exact .vec h1.symm fun i r r' g g'=>hl (h2 i r' r g' g)
 | map h=>exact .map (he h)
 | iter h1 h2=>exact .iter (he h1) (he h2)
 | blk o=>exact .blk o
 | lp h1 h2=>exact .lp h1.symm fun i x x' g g'=>(h2 i x' x g' g).symm hR
theorem R5.renR {M':A9} (hR:∀ (k k':Nat) (p:Pl),R k k'->M.pl[k]? = some p->M'.pl[k']? = some p) (aS:∀ b o,M.at b o->M'.at b o) (eo:∀ b,M.full b->M'.full b) (bZ:∀ b o,M'.cell b o->M.cell b o) {a:b9} (h:R5 M w p a) (hr:I4 R a b):R5 M' w p b:=by
 cases hr with
 | dead=>trivial
 | box hl =>
  obtain ⟨arr,ty,e1,e2,e3,e4⟩:=h;refine ⟨arr,ty,e1,by rw [e2,hl.1],fun c hc=>?_,fun i c hi=>?_⟩
  ·obtain ⟨i,hi⟩:=M6.1 hc;obtain ⟨y,hy⟩:=r7 hl.1 hi;rw [(hl.2 i y c hy hi).one];exact e3 y (n_2 hy)
  ·obtain ⟨y,hy⟩:=r7 hl.1 hi;exact (e4 i y hy).renR hR aS (hl.2 i y c hy hi)
 | tip n =>
  obtain ⟨e1,e2,e3,e4⟩:=h;exact ⟨e1,e2,⟨fun o ho=>e3.1 o (bZ _ _ ho),e3.2⟩,e4⟩
 | vec h1 h2 =>
  obtain ⟨e0,e1,e2,e3,e4,arr,ty,e5,e6,e7⟩:=h;refine ⟨e0,by rw [<- h1];exact e1,e2,fun r hr=>?_,fun r hr c hc=>?_,arr,ty,e5,e6,fun i j r c hi hj=>?_⟩
  ·obtain ⟨i,hi⟩:=M6.1 hr;obtain ⟨y,hy⟩:=r7 h1 hi;rw [<- (h2 i y r hy hi).1];exact e3 y (n_2 hy)
  ·obtain ⟨i,hi⟩:=M6.1 hr;obtain ⟨y,hy⟩:=r7 h1 hi;obtain ⟨j,hj⟩:=M6.1 hc;obtain ⟨d,hd⟩:=r7 (h2 i y r hy hi).1 hj;rw [((h2 i y r hy hi).2 j d c hd hj).one];exact e4 y (n_2 hy) d (n_2 hd)
  ·obtain ⟨y,hy⟩:=r7 h1 hi;obtain ⟨d,hd⟩:=r7 (h2 i y r hy hi).1 hj;exact (e7 i j y d hy hd).renR hR aS ((h2 i y r hy hi).2 j d c hd hj)
 | map he =>
  obtain ⟨ae,ai,e1,e2,e3⟩:=h;refine ⟨ae,ai,e1,⟨by rw [e2.1,he.1],e2.2⟩,fun i x hi=>?_⟩;obtain ⟨y,hy⟩:=r7 he.1 hi;obtain ⟨e,g1,g2,g3,g4⟩:=e3 i y hy;exact ⟨e,g1,g2.renR hR aS (he.2 i y x hy hi).1,g3.renR hR aS (he.2 i y x hy hi).2,g4⟩
 | iter hc hl =>
  obtain ⟨mb,seen,bF,ae,ai,e1,e2,e3,e4,e5,e6,e7,e8,e9⟩:=h;refine ⟨mb,seen,bF,ae,ai,e1,eo _ e2,e3,e4,e5,e6,by rw [e7,hl.1],fun i x hi=>?_,fun i x hi=>?_⟩
  ·obtain ⟨y,hy⟩:=r7 hl.1 hi;obtain ⟨e,g1,g2,g3⟩:=e8 i y hy;exact ⟨e,g1,g2.renR hR aS (hl.2 i y x hy hi).1,g3.renR hR aS (hl.2 i y x hy hi).2⟩
  ·obtain ⟨y,hy⟩:=r7 hc.1 hi;obtain ⟨hla,j,e,g0,g1,g2,g3⟩:=e9 i y hy;exact ⟨hla,j,e,g0,g1,g2.renR hR aS (hc.2 i y x hy hi).1,g3.renR hR aS (hc.2 i y x hy hi).2⟩
 | blk o=>exact h
 | lp h1 h2 =>
  obtain ⟨tm,e1,e2,e3⟩:=h;refine ⟨tm,e1,e2,fun x hx=>?_⟩;obtain ⟨i,hi⟩:=M6.1 hx;obtain ⟨y,hy⟩:=r7 (by simpa using n_8 List.length h1) hi;have hf:y.1=x.1:=by
   have:=n_8 (·[i]?) h1;simp [hy,hi] at this;exact this
  rw [<- hf];exact (e3 y (n_2 hy)).renR hR aS (h2 i y x hy hi)
inductive a6O (R:Nat->Nat->Prop):W5->W5->Prop where
 | ret {c c':CV}:Q1 R c c'->a6O R (.ret c) (.ret c')
 | pan {c c':CV}:Q1 R c c'->a6O R (.pan c) (.pan c')
def a0E (ak:List Nat) (n:Nat) (i k:Nat):Prop:=ak[i]? = some k\/(ak.length<=i/\k=n+(i - ak.length))
theorem I3 (ak:List Nat) (hC:C.plain) (aj:ak.length=obs.length) (co:∀ (i j k:Nat),ak[i]? = some k->ak[j]? = some k->i=j)
 (cZ:∀ (i k:Nat) (ob:b9),ak[i]? = some k->obs[i]? = some ob->∃ aG,σ[k]? = some aG/\I4 (fun k i=>ak[i]? = some k) aG ob) (ao:a1Y (fun k i=>ak[i]? = some k) args' args)
 {K:W5->List b9->Prop} {K':W5->List b9->Prop} (h:b8 C f args obs K)
 (hK:∀ r τ,K r τ->obs.length<=τ.length/\∃ r' gL,a6O (a0E ak σ.length) r r'/\gL.length=σ.length+(τ.length - obs.length)/\(∀ k,k < σ.length->k∉ak->gL[k]? = σ[k]?)/\(∀ (i k:Nat) (x:b9),a0E ak σ.length i k->τ[i]? = some x->∃ x',gL[k]? = some x'/\I4 (a0E ak σ.length) x x')/\K' r' gL) :
 b8 C f args' σ K':=fun M w vs hr hn hx=>by
 have gu:∀ {i k:Nat},ak[i]? = some k->∃ p ob,M.pl[k]? = some p/\obs[i]? = some ob/\k < σ.length:=fun {i k} hi=>by
  have bn:i < obs.length:=by rw [<- aj];exact (n_3.1 hi).1
  obtain ⟨aG,h1,_⟩:=cZ i k obs[i] hi (by simp [bn]);have hk:k < σ.length:=(n_3.1 h1).1;exact ⟨M.pl[k]'(by rw [hr.len];exact hk),obs[i],si_,by simp [bn],hk⟩
 let LB:Nat->Prop:=fun b=>∃ (k:Nat) (p:Pl) (aG:b9),k∉ak/\M.pl[k]? = some p/\σ[k]? = some aG/\aG.live=true/\p.block=b
 let M0:A9:={ pl:=ak.map fun k=>(M.pl[k]?).getD ⟨0,0,0⟩,full:=M.full,cell:=M.cell,keep:=fun b=>M.keep b\/LB b}
 have hLB:∀ b,LB b->b < w.heap.size:=fun b ⟨k,p,aG,_,hp,hs,hl,hb⟩=>hb ▸ (hr.obj k p aG hp hs).1.lt hl;have h0:∀ {i:Nat} {p:Pl},M0.pl[i]? = some p->∃ k,ak[i]? = some k/\M.pl[k]? = some p:=fun {i p} hp=>by
  have hp:(ak.map fun k=>(M.pl[k]?).getD ⟨0,0,0⟩)[i]? = some p:=hp;rw [O5,N6] at hp;obtain ⟨k,hk,rfl⟩:=hp;obtain ⟨p,_,g1,_,_⟩:=gu hk;exact ⟨k,hk,by rw [g1];rfl⟩
 have gX:∀ (k i:Nat) (p:Pl),ak[i]? = some k->M.pl[k]? = some p->M0.pl[i]? = some p:=fun k i p hi hp=>by
  show (ak.map fun k=>(M.pl[k]?).getD ⟨0,0,0⟩)[i]? = some p;rw [O5,hi,b6A,hp];rfl
 have bJ:Rel C M0 obs w:=⟨by simp [M0,aj],hr.blk,fun i p ob hp hs=>(by
  obtain ⟨k,hk,eu⟩:=h0 hp;obtain ⟨aG,g1,g2⟩:=cZ i k ob hk hs;obtain ⟨q1,q2⟩:=hr.obj k p aG eu g1;refine ⟨q1.renR (M':=M0) gX (fun b o h=>h) (fun b h=>h) (fun b o h=>h) g2,?_⟩;cases g2<;>first | trivial|exact q2),fun i i' p p' x x' hp aH hs aT hl bM hb=>(by
  obtain ⟨k,hk,eu⟩:=h0 hp;obtain ⟨k',aJ,ge⟩:=h0 aH;obtain ⟨y,g1,g2⟩:=cZ i k x hk hs;obtain ⟨y',gJ,ia⟩:=cZ i' k' x' aJ aT;have:=hr.inj k k' p p' y y' eu ge g1 gJ (by rw [<- g2.live];exact hl) (by rw [<- ia.live];exact bM) hb;subst this;exact co i i' k hk aJ),fun g cells hg=>⟨(by
  have:=(hr.glob g cells hg).rv;exact RV.renR (M:=M) (R:=fun _ _=>False) (M':=M0) (fun _ _ _ h=>h.elim) (fun b o h=>h) this (.cptr rfl fun i c c' h h'=>(by
   rw [h] at h';injection h' with h';subst h'
   exact .pure (hC g cells hg c (n_2 h))))),(hr.glob g cells hg).full,(hr.glob g cells hg).sz⟩,
  fun b hb=>(by
   rcases hb with hb | hb
   ·exact hr.kep b hb
   ·exact hLB b hb),fun i p x hp hs hl hb=>(by
  obtain ⟨k,hk,eu⟩:=h0 hp;obtain ⟨y,g1,g2⟩:=cZ i k x hk hs;have dU:y.live=true:=by rw [<- g2.live];exact hl
  rcases hb with hb | ⟨k',p',aG,aJ,aH,aT,bM,hb⟩
  ·exact hr.nk k p y eu g1 dU hb
  ·have:=hr.inj k' k p' p aG y aH eu aT g1 bM dU hb;subst this;exact aJ (n_2 hk))⟩
 have fin:∀ (c:CV) (v:Value) (r:CV->W5) (hret:∀ c c' R,a6O R (r c) c'->∃ d,c'=r d/\Q1 R c d) (τ:List b9) (M':A9) (w':World),Ext M0 w M' w'->Rel C M' τ w'->RV M' w' c v->K (r c) τ->∃ c' gL M2,Ext M w M2 w'/\Rel C M2 gL w'/\RV M2 w' c' v/\K' (r c') gL:=by
  intro c v r hret τ M' w' h1 h2 h3 h4;obtain ⟨aP,r',gL,e1,e2,e3,e4,e5⟩:=hK _ _ h4;obtain ⟨c',rfl,hrc⟩:=hret _ _ _ e1;have hM0:∀ (k i:Nat) (p:Pl),ak[i]? = some k->M.pl[k]? = some p->M'.pl[i]? = some p:=fun k i p hi hp=>h1.get (gX k i p hi hp);have cT:M'.pl.length=τ.length:=h2.len
  let M2:A9:={ pl:=M.pl++M'.pl.drop obs.length,full:=M'.full,cell:=M'.cell,keep:=M.keep}
  have hA:∀ (i k:Nat) (p:Pl),a0E ak σ.length i k->M'.pl[i]? = some p->M2.pl[k]? = some p:=fun i k p ha hp=>by
   rcases ha with ha | ⟨ha,rfl⟩
   ·obtain ⟨p0,_,g1,_,g3⟩:=gu ha;have:=hM0 k i p0 ha g1;rw [hp] at this;injection this with this
    subst this;show (M.pl++_)[k]? = _;rw [R3 (by rw [hr.len];exact g3)];exact g1
   ·show (M.pl++M'.pl.drop obs.length)[σ.length+(i - ak.length)]? = _;rw [a1f (by rw [hr.len];omega),a5v,hr.len];rw [show obs.length+(σ.length+(i - ak.length) - σ.length)=i by omega];exact hp
  have hB:∀ (k:Nat) (p:Pl) (x:b9),M2.pl[k]? = some p->gL[k]? = some x->(k < σ.length/\k∉ak/\M.pl[k]? = some p/\σ[k]? = some x)\/∃ i y,a0E ak σ.length i k/\M'.pl[i]? = some p/\τ[i]? = some y/\I4 (a0E ak σ.length) y x:=fun k p x hp hs=>by
   by_cases hk:k < σ.length
   ·have aH:M.pl[k]? = some p:=by
     have hp:(M.pl++M'.pl.drop obs.length)[k]? = some p:=hp;rwa [R3 (by rw [hr.len];exact hk)] at hp
    by_cases bA:k∈ak
    ·obtain ⟨i,hi⟩:=M6.1 bA;have bn:i < τ.length:=by
      have:=(n_3.1 hi).1;omega
     obtain ⟨x',g1,g2⟩:=e4 i k τ[i] (.inl hi) (by simp [bn]);rw [hs] at g1;injection g1 with g1
     subst g1;exact .inr ⟨i,τ[i],.inl hi,hM0 k i p hi aH,by simp [bn],g2⟩
    ·rw [e3 k hk bA] at hs;exact .inl ⟨hk,bA,aH,hs⟩
   ·have gA:=(n_3.1 hs).1;rw [e2] at gA;have bn:obs.length+(k - σ.length) < τ.length:=by omega
    have ha:a0E ak σ.length (obs.length+(k - σ.length)) k:=.inr ⟨om_,om_⟩;obtain ⟨x',g1,g2⟩:=e4 (obs.length+(k - σ.length)) k τ[obs.length+(k - σ.length)] ha (by simp [bn]);rw [hs] at g1;injection g1 with g1
    subst g1;have aH:M'.pl[obs.length+(k - σ.length)]? = some (M'.pl[obs.length+(k - σ.length)]'om_):=by simp
    have:=hA _ _ _ ha aH;rw [hp] at this;injection this with this
    exact .inr ⟨_,_,ha,by rw [aH,this],by simp [bn],g2⟩
  have hAinj:∀ (i i' k:Nat),a0E ak σ.length i k->a0E ak σ.length i' k->i=i':=fun i i' k ha cI=>by
   rcases ha with ha | ⟨ha,e⟩<;>rcases cI with cI | ⟨cI,e'⟩
   ·exact co i i' k ha cI
   ·have:=(gu ha).choose_spec.choose_spec.2.2;omega
   ·have:=(gu cI).choose_spec.choose_spec.2.2;omega
   ·omega
  have hAfun:∀ (i k k':Nat),a0E ak σ.length i k->a0E ak σ.length i k'->k=k':=fun i k k' ha cI=>by
   rcases ha with ha | ⟨ha,e⟩<;>rcases cI with cI | ⟨cI,e'⟩
   ·rw [ha] at cI;exact Option.some.inj cI
   ·have:=(n_3.1 ha).1;omega
   ·have:=(n_3.1 cI).1;omega
   ·omega
  have aK:Ext M w M2 w':=⟨⟨M'.pl.drop obs.length,rfl⟩,h1.full,h1.cell,h1.same,h1.sameC,h1.size,h1.drew,h1.os,h1.tape,h1.output,fun b hb=>by
   obtain ⟨k1,k2,k3,k4⟩:=h1.kept b (.inl hb);exact ⟨hb,k2,k3,k4⟩⟩
  refine ⟨c',gL,M2,aK,⟨by show (M.pl++M'.pl.drop obs.length).length=_;simp [hr.len,cT,e2],h2.blk,fun k p x hp hs=>?_,fun k k' p p' x x' hp aH hs aT hl bM hb=>?_,fun g cells hg=>(hr.glob g cells hg).mono aK,fun b hb=>a8L (hr.kep b hb) h1.size,fun k p x hp hs hl hkp=>?_⟩,h3.renR (M':=M2) hA (fun b o h=>h) hrc,e5⟩
  ·rcases hB k p x hp hs with ⟨hk,bA,aH,aT⟩ | ⟨i,y,ha,aH,aT,hro⟩
   ·by_cases hl:x.live=true
    ·obtain ⟨k1,k2,k3,k4⟩:=h1.kept p.block (.inr ⟨k,p,x,bA,aH,aT,hl,rfl⟩);obtain ⟨g1,g2⟩:=hr.obj k p x aH aT;refine ⟨g1.mono aK k2 (fun _ _ _ o ho=>k4 o ho),?_⟩;cases x with
     | dead=>trivial
     | tipT t0 n=>exact fun hf=>g2 (k3 hf)
     | _=>exact ⟨fun hf=>g2.1 (k3 hf),fun o ho=>g2.2 o (k4 o ho)⟩
    ·cases x<;>first|exact ⟨tt,tt⟩ | simp [b9.live] at hl
   ·obtain ⟨g1,g2⟩:=h2.obj i p y aH aT;refine ⟨g1.renR (M':=M2) hA (fun b o h=>h) (fun b h=>h) (fun b o h=>h) hro,?_⟩;cases hro<;>first | trivial|exact g2
  ·have keep:∀ {k:Nat} {p:Pl} {x:b9},k∉ak->M.pl[k]? = some p->σ[k]? = some x->x.live=true->M'.keep p.block:=fun {k p x} bA aH aT hl=>(h1.kept p.block (.inr ⟨k,p,x,bA,aH,aT,hl,rfl⟩)).1
   rcases hB k p x hp hs with ⟨hk,bA,eu,hsk⟩ | ⟨i,y,ha,eu,hsk,hro⟩<;>rcases hB k' p' x' aH aT with ⟨aJ,hks',ge,il⟩ | ⟨i',y',cI,ge,il,hro'⟩
   ·exact hr.inj k k' p p' x x' eu ge hsk il hl bM hb
   ·exact absurd (hb ▸ keep bA eu hsk hl) (h2.nk i' p' y' ge il (by rw [<- hro'.live];exact bM))
   ·exact absurd (hb ▸ keep hks' ge il bM) (h2.nk i p y eu hsk (by rw [<- hro.live];exact hl))
   ·have:=h2.inj i i' p p' y y' eu ge hsk il (by rw [<- hro.live];exact hl) (by rw [<- hro'.live];exact bM) hb;subst this;exact hAfun i k k' ha cI
  ·rcases hB k p x hp hs with ⟨hk,bA,aH,aT⟩ | ⟨i,y,ha,aH,aT,hro⟩
   ·exact hr.nk k p x aH aT hl hkp
   ·exact h2.nk i p y aH aT (by rw [<- hro.live];exact hl) (h1.kept p.block (.inl hkp)).1
 have fQ:vs.size=args.length:=by rw [hn,ao.1]
 refine (h M0 w vs bJ fQ fun i a hi=>?_).mono fun e w' he=>?_
 ·obtain ⟨a',cI⟩:=r7 ao.1 hi;exact (hx i a' cI).renR (M':=M0) gX (fun b o h=>h) (ao.2 i a' a cI hi)
 cases e with
 | panicked ch =>
  obtain ⟨c,v,τ,M',dz,h1,h2,h3,h4⟩:=he;obtain ⟨c',gL,M2,g1,g2,g3,g4⟩:=fin c v .pan (fun c c' R h=>by cases h with | pan h=>exact ⟨_,rfl,h⟩) τ M' w' h1 h2 h3 h4;exact ⟨c',v,gL,M2,dz,g1,g2,g3,g4⟩
 | outgrown=>exact he
 | returned v =>
  obtain ⟨c,τ,M',h1,h2,h3,h4⟩:=he;exact fin c v .ret (fun c c' R h=>by cases h with | ret h=>exact ⟨_,rfl,h⟩) τ M' w' h1 h2 h3 h4
def a3Q:b9->Prop
 | .dead=>True
 | .boxT _ cells=>∀ c∈cells,r4 c
 | .tipT _ _=>True
 | .vec _ V=>∀ r∈V,∀ c∈r,r4 c
 | .map es=>∀ x∈es,r4 x.1/\r4 x.2
 | .iter c l=>(∀ x∈c,r4 x.1/\r4 x.2)/\∀ x∈l,r4 x.1/\r4 x.2
 | .blk _=>True
 | .lp _ _ cs=>∀ x∈cs,r4 x.2
theorem L3 {l:List CV} (h:∀ c∈l,r4 c):a1Y R l l:=⟨rfl,fun i c c' g g'=>by
 rw [g] at g';injection g' with g';subst g'
 exact .pure (h c (n_2 g))⟩
theorem a8C {l:List (CV × CV)} (h:∀ x∈l,r4 x.1/\r4 x.2):c4p R l l:=⟨rfl,fun i c c' g g'=>by
 rw [g] at g';injection g' with g';subst g'
 exact ⟨.pure (h c (n_2 g)).1,.pure (h c (n_2 g)).2⟩⟩
theorem a3Q.ren (h:a3Q ob):I4 R ob ob:=by
 cases ob with
 | dead=>exact .dead
 | boxT t0 cells=>exact .box (L3 h)
 | tipT t0 n=>exact .tip n
 | vec s V =>
  refine .vec rfl fun i r r' g g'=>?_;rw [g] at g';injection g' with g';subst g'
  exact L3 (h r (n_2 g))
 | map es=>exact .map (a8C h)
 | iter c l=>exact .iter (a8C h.1) (a8C h.2)
 | blk o=>exact .blk o
 | lp o n cs =>
  refine .lp rfl fun i x x' g g'=>?_;rw [g] at g';injection g' with g';subst g'
  exact .pure (h x (n_2 g))
theorem a3Q.old (h:a3Q ob):I0 n ob:=by
 cases ob with
 | dead=>trivial
 | boxT t0 cells=>exact fun c hc=>(h c hc).old
 | tipT t0 n=>trivial
 | blk o=>trivial
 | lp o n cs=>exact fun x hx=>(h x hx).old
 | vec s V=>exact fun r hr c hc=>(h r hr c hc).old
 | map es=>exact fun x hx=>⟨(h x hx).1.old,(h x hx).2.old⟩
 | iter c l=>exact ⟨fun x hx=>⟨(h.1 x hx).1.old,(h.1 x hx).2.old⟩,fun x hx=>⟨(h.2 x hx).1.old,(h.2 x hx).2.old⟩⟩
def a2K:List Nat->List b9->List b9->List b9
 | [],_,σ=>σ
 | _::_,[],σ=>σ
 | k::ks,o::os,σ=>a2K ks os (σ.set k o)
theorem a6j:∀ (ks:List Nat) (os:List b9) (σ:List b9),(a2K ks os σ).length=σ.length
 | [],_,σ=>rfl
 | k::ks,[],σ=>rfl
 | k::ks,o::os,σ=>by rw [a2K,a6j ks os];simp
theorem a34:∀ (ks:List Nat) (os:List b9) (σ:List b9) (k:Nat),k∉ks->(a2K ks os σ)[k]? = σ[k]?
 | [],_,σ,k,_=>rfl
 | _::ks,[],σ,k,_=>rfl
 | k'::ks,o::os,σ,k,h=>by
  rw [a2K,a34 ks os _ k fun hm=>h (by simp [hm]),a2i fun e=>h a1Q]
theorem b0x:∀ (ks:List Nat) (os:List b9) (σ:List b9) (i k:Nat),(∀ (i j k:Nat),ks[i]? = some k->ks[j]? = some k->i=j)->ks.length=os.length->ks[i]? = some k->k < σ.length->(a2K ks os σ)[k]? = os[i]?
 | [],_,σ,i,k,_,_,h,_=>by simp at h
 | _::ks,[],σ,i,k,_,h,_,_=>by simp at h
 | k'::ks,o::os,σ,i,k,co,hl,hi,hk=>by
  rw [a2K];have hnd':∀ (i j k:Nat),ks[i]? = some k->ks[j]? = some k->i=j:=fun i j k h1 h2=>by
   have:=co (i+1) (j+1) k (sp_ h1) (sp_ h2);omega
  rcases i with _ | i
  ·simp at hi;subst hi;rw [a34 ks os _ k' fun hm=>by
    obtain ⟨j,hj⟩:=M6.1 hm;have:=co 0 (j+1) k' rfl (sp_ hj);omega]
   simp [hk]
  ·rw [b0x ks os _ i k hnd' (sp_ hl) (sp_ hi) (sp_ hk)];simp
theorem a04 {res':α->W5} {S N:α->List b9} {P:α->Prop} (ak:List Nat) (hC:C.plain) (aj:ak.length=obs.length) (co:∀ (i j k:Nat),ak[i]? = some k->ak[j]? = some k->i=j)
 (cZ:∀ (i k:Nat),ak[i]? = some k->k < σ.length/\σ[k]? = obs[i]?) (hpo:∀ ob∈obs,a3Q ob) (ao:a1Y (fun k i=>ak[i]? = some k) args' args)
 (h:b8 C f args obs fun r τ=>∃ a,r=res a/\τ=S a++N a/\P a) (hS:∀ a,P a->(S a).length=obs.length/\∀ ob∈S a++N a,a3Q ob) (eg:∀ a,P a->a6O (a0E ak σ.length) (res a) (res' a)) :
 b8 C f args' σ fun r τ=>∃ a,r=res' a/\τ=a2K ak (S a) σ++N a/\P a:=by
 refine I3 ak hC aj co (fun i k ob hi ho=>?_) ao h fun r τ hk=>?_
 ·obtain ⟨_,h2⟩:=cZ i k hi;exact ⟨ob,by rw [h2,ho],(hpo ob (n_2 ho)).ren⟩
 ·obtain ⟨a,rfl,rfl,hp⟩:=hk;obtain ⟨hl,hn⟩:=hS a hp;have dQ:=a6j ak (S a) σ;refine ⟨by simp [hl],res' a,a2K ak (S a) σ++N a,eg a hp,by simp [dQ,hl],fun k hk bA=>?_,fun i k x ha hx=>?_,a,rfl,rfl,hp⟩
  ·rw [R3 (by rw [dQ];exact hk),a34 ak (S a) σ k bA]
  ·refine ⟨x,?_,(hn x (n_2 hx)).ren⟩
   rcases ha with ha | ⟨ha,rfl⟩
   ·have hk:=(cZ i k ha).1;have bn:i < (S a).length:=by rw [hl,<- aj];exact (n_3.1 ha).1
    rw [R3 bn] at hx;rw [R3 (by rw [dQ];exact hk),b0x ak (S a) σ i k co (by rw [aj,hl]) ha hk,hx]
   ·rw [a1f om_] at hx;rw [a1f (by rw [dQ];omega),dQ,<- hx]
    congr 1
    omega
theorem a1Y.nil:a1Y R [] []:=⟨rfl,fun i c c' h=>by simp at h⟩
theorem a1Y.cons {l l':List CV} (h:Q1 R c c') (hl:a1Y R l l'):a1Y R (c::l) (c'::l'):=⟨n_8 (· + 1) hl.1,fun i d d' g g'=>by
 rcases i with _ | i
 ·simp at g g';subst g g';exact h
 ·exact hl.2 i d d' (sp_ g) (sp_ g')⟩
inductive a1q (n:Nat) (τ:List b9):W5->W5->Prop where
 | ret {c c':CV}:Cls n τ c c'->a1q n τ (.ret c) (.ret c')
 | pan {c c':CV}:Cls n τ c c'->a1q n τ (.pan c) (.pan c')
theorem a05 {S:α->List b9} {P:α->Prop} (hC:C.plain)
 (h:b8 C f args obs fun r τ=>∃ a,a1q (S a).length τ r (res a)/\a9X (S a).length τ τ (S a)/\obs.length<=(S a).length/\P a):b8 C f args obs fun r τ=>∃ a,r=res a/\τ=S a/\P a:=fun M w vs hr hn hx=>(h M w vs hr hn hx).mono fun e w' he=>by
 cases e with
 | returned v =>
  obtain ⟨c',τ,M',h1,h2,h3,a,h4,h5,h6,h7⟩:=he;obtain ⟨g1,g2,g3⟩:=h2.cutCls hC h5;generalize hra:res a=ra at h4;cases h4 with
  | ret h4=>exact ⟨_,S a,_,g3 M w h1 (by rw [hr.len];exact h6),g1,RV.close h2 g2 (fun k p s V hk hp hs=>.inr ⟨k,p,_,hk,hp,hs,rfl,rfl⟩) h4 h3,a,hra.symm,rfl,h7⟩
 | panicked ch =>
  obtain ⟨c',v,τ,M',h0,h1,h2,h3,a,h4,h5,h6,h7⟩:=he;obtain ⟨g1,g2,g3⟩:=h2.cutCls hC h5;generalize hra:res a=ra at h4;cases h4 with
  | pan h4=>exact ⟨_,v,S a,_,h0,g3 M w h1 (by rw [hr.len];exact h6),g1,RV.close h2 g2 (fun k p s V hk hp hs=>.inr ⟨k,p,_,hk,hp,hs,rfl,rfl⟩) h4 h3,a,hra.symm,rfl,h7⟩
 | outgrown=>exact he
theorem b1n (hC:C.plain) (hob:a3Q ob) (hc:r4 c) (hq:σ[q]? = some ob) (ao:a1Y (fun k i=>[q][i]? = some k) args' args)
 (h:b8 C f args [ob] fun r τ=>∃ _:Unit,a1q [ob].length τ r (.ret c)/\a9X [ob].length τ τ [ob]/\[ob].length<=[ob].length/\True):b8 C f args' σ fun r τ=>r = .ret c/\τ=σ:=by
 have hk:q < σ.length:=(n_3.1 hq).1;have h1:=a05 (res:=fun _=>.ret c) (S:=fun _=>[ob]) (P:=fun _=>True) hC h;have h2:=a04 (σ:=σ) (args':=args') (res':=fun _:Unit=>.ret c) (N:=fun _=>[]) [q] hC rfl (fun i j k h1 h2=>by
  have:=(n_3.1 h1).1;have:=(n_3.1 h2).1;simp at *;omega) (fun i k hi=>by
  rcases i with _ | i
  ·simp at hi;subst hi;exact ⟨hk,by rw [hq];rfl⟩
  ·simp at hi) (fun o ho=>by simp at ho;subst ho;exact hob) ao (h1.mono fun r τ ⟨a,e1,e2,e3⟩=>⟨a,e1,by rw [e2,a1k],e3⟩) (fun _ _=>⟨rfl,fun o ho=>by simp at ho;subst ho;exact hob⟩) (fun _ _=>.ret (.pure hc))
 refine h2.mono fun r τ ⟨_,e1,e2,_⟩=>⟨e1,?_⟩;rw [e2,a1k];show σ.set q ob=σ;apply b35;intro i;rw [b0A]
 split
 ·rename_i e;subst e;first|(rw [n_1 hk,hq])|(rw [hq])
 ·rfl
theorem a16 {P : Program} {f : FuncId} {fn : Func} {e : Array Value → Sem Value} {args : Array Value} {w : World} {v : Value} (hf : P.funcs[f]? = some fn) (dq : (fn.name == "runtime.NumGoroutine") = false) (hb : fn.body.isNone = true) (hn : Extern.findNext fn = none) (he : Extern.find fn = some e) (hr : (e args).run P w = .ok v w) :
 (callFunc f args).run P w = .ok (.value v) w:=by
 simp only [callFunc,Sem.run_bind,run_program,Result.andThen_ok,hf,dq,hb,hn,he];simp [hr]
section
theorem c07 {f : FuncId} {fn : Func} {e : Array Value → Sem Value} {ts : Array TypeId} {x y : Operand} {a b v : Value} (ho : o.op = .call { callee := .value (.func f), args := #[x, y], argTypes := ts }) (hf : C.P.funcs[f]? = some fn) (dq : (fn.name == "runtime.NumGoroutine") = false) (hb : fn.body.isNone = true) (hn : Extern.findNext fn = none) (he : Extern.find fn = some e)
 (hx:E.valid x) (hy:E.valid y) (ex:E.val C x = .val a) (ey:E.val C y = .val b) (hr:∀ w,(e #[a,b]).run C.P w = .ok v w):l8 C σ E o (.val v) :=
 i7 fun M w ρ _ hh=>by
  have h1:=hh x H9 hx;have h2:=hh y H9 hy;have cB:=r3 (hh (.func f) H9 tt);rw [ex] at h1;rw [ey] at h2;refine ⟨v,?_,.val _⟩;have:=a16 (args:=#[a,b]) (w:=w) hf dq hb hn he (hr w);simp [execOp,ho,resolve,cB,r3 h1,r3 h2,Deferred.ofValue,invoke,this]
end
theorem c5d (s:Str) (c:UInt8) (w:World):(Extern.BytealgCount.count #[.string (str s),.int .u8 c.toNat]).run P w = .ok (.int .i64 (s.count c:Nat)) w:=by
 have:=Go.Lib.run_countString (P:=P) (str s) (c.toNat:Int) w;rw [this];simp [Go.Lib.countByte,str]
theorem c5R (s:Str) (c:UInt8) (w:World):(Extern.BytealgIndexByte.indexByte #[.string (str s),.int .u8 c.toNat]).run P w = .ok (.int .i64 (Go.Lib.indexByte s c)) w:=by
 have:=Go.Lib.run_indexByteString (P:=P) (str s) (c.toNat:Int) w;rw [this];simp [str]
def d4q:W5->Prop
 | .ret c=>r4 c
 | .pan c=>r4 c
theorem H5 {P:α->Prop} (hC:C.plain) (ao:∀ c∈args,r4 c)
 (h:b8 C f args [] fun r τ=>∃ a,a1q 0 τ r (res a)/\P a) (eg:∀ a,P a->d4q (res a)) (σ:List b9):b8 C f args σ fun r τ=>∃ a,r=res a/\τ=σ/\P a:=by
 have h1:b8 C f args [] fun r τ=>∃ a,r=res a/\τ=(fun _=>[]) a/\P a:=a05 (res:=res) (S:=fun _=>[]) (P:=P) hC (h.mono fun r τ ⟨a,h2,h3⟩=>⟨a,h2,by cases τ<;>trivial,n_7 _,h3⟩);have h2:=a04 (σ:=σ) (args':=args) (res':=res) (S:=fun _=>[]) (N:=fun _=>[]) (P:=P) [] hC rfl (fun i j k h1=>by simp at h1) (fun i k h1=>by simp at h1) (fun o ho=>by simp at ho) (L3 ao)
  (h1.mono fun r τ ⟨a,e1,e2,e3⟩=>⟨a,e1,by rw [e2];rfl,e3⟩) (fun _ _=>⟨rfl,fun o ho=>by simp at ho⟩) (fun a hp=>by
   have:=eg a hp;cases hr:res a with
   | ret c=>rw [hr] at this;exact .ret (.pure this)
   | pan c=>rw [hr] at this;exact .pan (.pure this))
 exact h2.mono fun r τ ⟨a,e1,e2,e3⟩=>⟨a,e1,by rw [e2];simp [a2K],e3⟩
theorem a0e (h:b8 C f args (σ++[.dead]) K):b8 C f args σ K:=fun M w vs hr hn hx=>by
 obtain ⟨h1,h2⟩:=hr.addDead ⟨0,0,0⟩;refine (h _ w vs h1 hn fun i c hi=>(hx i c hi).mono h2).mono fun e w' he=>?_;cases e with
 | returned v =>
  obtain ⟨c,τ,M',g1,g2,g3,g4⟩:=he;exact ⟨c,τ,M',h2.trans g1,g2,g3,g4⟩
 | panicked ch =>
  obtain ⟨c,v,τ,M',g0,g1,g2,g3,g4⟩:=he;exact ⟨c,v,τ,M',g0,h2.trans g1,g2,g3,g4⟩
 | outgrown=>exact he
theorem b5L {c:Code} (h:CWp C n c Q E (σ++[.dead])):CWp C n c Q E σ:=fun M w a hr hf=>by
 obtain ⟨h1,h2⟩:=hr.addDead ⟨0,0,0⟩;exact wp_mono (h _ w a h1 (hf.mono h2)) fun _ _ _=>W2.later h2
inductive c7O (L:Nat) (ak:List Nat):W5->W5->Prop where
 | ret {c c':CV}:C7 L ak c c'->c7O L ak (.ret c) (.ret c')
 | pan {c c':CV}:C7 L ak c c'->c7O L ak (.pan c) (.pan c')
def E8 (L:Nat) (τ:List b9) (r r':W5) (S:List b9):Prop:=∃ ak,a6l L ak=true/\a0t ak=true/\c7O L ak r r'/\b8l L ak τ ak S
theorem I5 (hC:C.plain) (h:b8 C f args obs fun r τ=>∃ r' S,E8 obs.length τ r r' S/\K r' S):b8 C f args obs K:=fun M w vs hr hn hx=>by
 refine (h M w vs hr hn hx).mono fun e w' he=>?_;cases e with
 | returned v =>
  obtain ⟨c,τ,M',g1,g2,g3,r',S,⟨ak,k1,k2,k3,k4⟩,k5⟩:=he;have hL:obs.length<=M'.pl.length:=by
   obtain ⟨l,hl⟩:=g1.pl;rw [hl,<- hr.len];simp
  cases k3 with
  | ret k3=>exact ⟨_,S,_,g1.ren k1 hr.len,g2.ren hC k1 k2 hL k4,RV.ren (a3d k1) hL g3 k3,k5⟩
 | panicked ch =>
  obtain ⟨c,v,τ,M',g0,g1,g2,g3,r',S,⟨ak,k1,k2,k3,k4⟩,k5⟩:=he;have hL:obs.length<=M'.pl.length:=by
   obtain ⟨l,hl⟩:=g1.pl;rw [hl,<- hr.len];simp
  cases k3 with
  | pan k3=>exact ⟨_,v,S,_,g0,g1.ren k1 hr.len,g2.ren hC k1 k2 hL k4,RV.ren (a3d k1) hL g3 k3,k5⟩
 | outgrown=>exact he
section
theorem p7 {c:α->CV} {S:α->List b9} {P:α->Prop} {c':β->CV} {S':β->List b9} {P':β->Prop} (ho:o.op = .call { callee:=.value (.func f),args:=xs,argTypes:=ts}) (aA:∀ args w,(callFunc f args).run C.P w = .ok (.enter f args) w)
 (hv:E.valids xs.toList) (h:b8 C f av σ fun r Y=>(∃ a,r = .ret (c a)/\Y=S a/\P a)\/∃ b,r = .pan (c' b)/\Y=S' b/\P' b) (ea:(E.vals C xs.toList).map CV.fgt=av) (hp:∀ b,P' b->K (.pan (c' b)) (S' b)) (hk:∀ a,P a->K (.ret (c a)) (S a)):G9 C σ E o K :=
 b4V ho aA (Env.valids_mem hv) (Env.vals_map _) ((a1Z (ea ▸ h)).mono fun r Y hh=>by
  rcases hh with ⟨a,rfl,rfl,hq⟩ | ⟨b,rfl,rfl,hq⟩
  ·exact hk a hq
  ·exact hp b hq)
theorem P3 {c':β->CV} {S':β->List b9} {P':β->Prop} (ho:o.op = .call { callee:=.value (.func f),args:=xs,argTypes:=ts}) (aA:∀ args w,(callFunc f args).run C.P w = .ok (.enter f args) w)
 (hv:E.valids xs.toList) (h:b8 C f av σ fun r Y=>∃ b,r = .pan (c' b)/\Y=S' b/\P' b) (ea:(E.vals C xs.toList).map CV.fgt=av) (hp:∀ b,P' b->K (.pan (c' b)) (S' b)):G9 C σ E o K :=
 b4V ho aA (Env.valids_mem hv) (Env.vals_map _) ((a1Z (ea ▸ h)).mono fun r Y hh=>by
  obtain ⟨b,rfl,rfl,hq⟩:=hh;exact hp b hq)
def b0c:TypeDesc->Bool
 | .interface _=>true
 | _=>false
theorem c1C {u:TypeDesc} (h:∀ w,(underlying t).run P w = .ok u w) (hu:b0c u=false) (v:Value) (w:World):(Instr.makeInterface t v).run P w = .ok (.iface t v) w:=by
 simp [Instr.makeInterface,go_sem];rw [h w];cases u<;>simp [b0c] at hu ⊢
theorem c5z {xs:List Value} (ho:o.op = .makeInterface t x) (hx:E.valid x) (ex:E.val C x=plain xs) (hm:∀ v w,(Instr.makeInterface t v).run C.P w = .ok (.iface t v) w):l8 C σ E o (.val (.iface t (.agg xs.toArray))) :=
 i7 fun M w ρ _ h=>by
  have h1:=h x w9 hx;rw [ex] at h1;have h2:=a3o h1;refine ⟨_,?_,.val _⟩;simp only [execOp,ho];rw [<- h2];simp [hm]
end
section
theorem K3 {l:List Oper} (Y:List b9) (h:σ=Y) (k:J4 C n aa Q l E Y):J4 C n aa Q l E σ:=h ▸ k
theorem J1 {c:Code} (Y:List b9) (h:σ=Y) (k:CWp C n c Q E Y):CWp C n c Q E σ:=h ▸ k
end
def addDs (ds:List Deferred) (a:Act):Act:={ a with defers:=a.defers++ds}
theorem a2X {ds:List Deferred} {a:Act} {d:Option Nat}:(addDs ds a).put d v=addDs ds (a.put d v):=by
 cases d<;>rfl
theorem b72 {ds:List Deferred} {a:Act} {d:Deferred} {t:Option Nat}:({ addDs ds a with defers:=d::(addDs ds a).defers}:Act).put t undef=addDs ds (({ a with defers:=d::a.defers}:Act).put t undef):=by
 cases t<;>rfl
theorem c53 {Q Q':Exit->Act->World->Prop} {ds:List Deferred} (hq:∀ e a w,Q e a w->Q' e (addDs ds a) w):∀ (l:List Oper) (a:Act) (w:World),wpList P aa Q l a w->wpList P aa Q' l (addDs ds a) w:=by
 have cR:LetsOut Q->LetsOut Q':=fun ⟨a0,w0,h⟩=>⟨_,w0,hq _ a0 w0 h⟩;intro l
 induction l with
 | nil=>exact fun a w h=>hq _ _ _ h
 | cons o l ih =>
  intro a w h;unfold wpList at h ⊢;change if Region.wanted o (yielded aa a.tmps)=true then _ else _
  split
  ·rename_i hw;rw [n_1 hw] at h;refine h.imp (fun h=>?_) (fun ⟨h1,h2⟩=>⟨h1,cR h2⟩);unfold Oper.wp at h ⊢;change o.upon P (addDs ds a) _ _ ((execOp a.eval o).run P w);generalize (execOp a.eval o).run P w=r at h;cases r with
   | ok x w3 =>
    cases x<;>simp only [Oper.upon] at h ⊢
    case value v=>rw [a2X];exact ih _ _ h
    case skip=>rw [a2X];exact ih _ _ h
    case defer d=>rw [b72];exact ih _ _ h
    case enter f args =>
     refine h.mono fun e w4 he=>?_;cases e with
     | returned v=>show wpList P aa Q' l ((addDs ds a).put o.dst v) w4;rw [a2X];exact ih _ _ he
     | panicked ch=>exact hq _ _ _ he
     | outgrown=>exact cR he
    case row r args=>exact Rows.mono h fun _ _ he=>by rw [a2X];exact ih _ _ he
   | halt x w3 =>
    cases x<;>simp only [Oper.upon] at h ⊢
    exact hq _ _ _ h
  ·rename_i hw;rw [n_0 hw] at h;rw [a2X];exact ih _ _ h
def b69 (ds:List Deferred) (C:Ctx) (n:Nat) (Q:D5->Env->List b9->Prop) (M:A9) (w:World) (e:Exit) (a':Act) (w':World):Prop:=∃ a0,a'=addDs ds a0/\W2 C n Q M w e a0 w'
def c5H (ds:List Deferred) (C:Ctx) (n:Nat) (c:Code) (Q:D5->Env->List b9->Prop) (E:Env) (σ:List b9):Prop :=
 ∀ (M:A9) (w:World) (a:Act),Rel C M σ w->K5 M w n E a->c.wp C.P (b69 ds C n Q M w) (addDs ds a) w
section
variable {ds:List Deferred}
theorem b69.later {M1:A9} {w1:World} (he:Ext M w M1 w1) {e:Exit} {a:Act} {w':World} (hl:b69 ds C n Q M1 w1 e a w'):b69 ds C n Q M w e a w':=by
 obtain ⟨a0,h0,h⟩:=hl;exact ⟨a0,h0,W2.later he h⟩
theorem b08 (h:J4 C n aa Q aa.toList E σ):c5H ds C n (.region id aa false) Q E σ :=
 fun M w a hr hf=>wp_region_list (c53 (fun _ a0 _ h=>⟨a0,rfl,h⟩) _ _ _ (h M w a hr hf))
theorem d4T (h:Q .ret E σ):c5H ds C n .ret Q E σ:=fun M w a hr hf=>wp_ret ⟨a,rfl,E,σ,M,Ext.refl M w,hr,hf,h⟩
theorem c15 {x y:Code} (h:c5H ds C n x (D5.next (c5H ds C n y Q) Q) E σ):c5H ds C n (.seq x y) Q E σ:=fun M w a hr hf=>by
 refine wp_seq (wp_mono (h M w a hr hf) fun e a' w' hl=>?_);obtain ⟨a0,rfl,E',Y,M',h1,h2,h3,h4⟩:=hl;cases e with
 | normal=>exact wp_mono (h4 M' w' a0 h2 h3) fun _ _ _=>b69.later h1
 | _=>exact ⟨a0,rfl,E',Y,M',h1,h2,h3,h4⟩
end
section
theorem a7Y {aB:Array Operand} (ho:o.op = .makeFunc (.func f) #[] aB) (hv:E.valids aB.toList):l8 C σ E o (.clo f (E.vals C aB.toList)) :=
 i7 fun M w ρ _ h=>by
  refine ⟨.func (.func f) #[] (aB.map ρ),by simp [execOp,ho,Instr.makeFunc],.clo (by rw [<- Env.vals_map];simp) fun i c hi=>?_⟩;rw [<- Env.vals_map,O5,N6] at hi;obtain ⟨x,hx,rfl⟩:=hi;have aC:aB[i]? = some x:=sp_ hx;have hm:x∈aB:=b6t aC;have:(aB.map ρ).getD i undef=ρ x:=by
   rw [a0H,b3T,aC];rfl
  rw [this];exact h x (by simp [ho,Op.operands,hm]) (Env.valids_mem hv x (sp_ hm))
theorem b3o {f:FuncId} {cx:Operand} {xs:Array Operand} {ts:Array TypeId} {av aB:List CV} {K:W5->List b9->Prop} (ho:o.op = .call { callee:=.value cx,args:=xs,argTypes:=ts}) (hc:E.valid cx) (ec:E.val C cx = .clo f aB) (aA:∀ args w,(callFunc f args).run C.P w = .ok (.enter f args) w)
 (hv:∀ x∈xs.toList,E.valid x) (ea:xs.toList.map (E.val C)=av) (h:b8 C f (av++aB) σ K):G9 C σ E o K:=fun M w ρ hr hh=>by
 have hf:=hh cx H9 hc;rw [ec] at hf;generalize hcx:ρ cx=fv at hf;cases hf with
 | @clo _ _ vs aI hvs =>
  have au:(execOp ρ o).run C.P w = .ok (.enter f (xs.map ρ++vs)) w:=by
   simp [execOp,ho,resolve,hcx,Deferred.ofValue,invoke,aA]
  rw [au];refine (h M w (xs.map ρ++vs) hr (by simp [<- ea,aI]) fun i c hi=>?_).mono fun e w' he=>by cases e<;>exact he
  subst ea;rw [a0H,b3z];rw [a6V] at hi;simp only [O3,a9V,Array.size_map] at hi ⊢
  split<;>rename_i ab
  ·rw [n_1 ab] at hi;simp only [O5,N6] at hi;obtain ⟨x,hx,rfl⟩:=hi;have aC:xs[i]? = some x:=sp_ hx;have hm:x∈xs:=b6t aC;rw [b3T,aC];exact hh x (by simp [ho,Op.operands,Call.operands,hm]) (hv x (sp_ hm))
  ·rw [n_0 ab] at hi;have:=hvs _ _ hi;rwa [a0H] at this
theorem b4n {cx:Operand} {aB:List CV} (ho:o.op = .call { callee:=.value cx,args:=xs,argTypes:=ts}) (hc:E.valid cx) (ec:E.val C cx = .clo f aB) (aA:∀ args w,(callFunc f args).run C.P w = .ok (.enter f args) w)
 (hv:E.valids xs.toList) (h:b8 C f (av++aB) σ fun r Y=>r = .ret c/\Y=σ) (ea:E.vals C xs.toList=av):l8 C σ E o c :=
 b3o ho hc ec aA (Env.valids_mem hv) (Env.vals_map _) (ea ▸ h)
end
def c5y (C:Ctx) (M:A9) (w:World) (K:W5->List b9->Prop):Ending->World->Prop
 | .returned v,w'=>a3v C M w K v w'
 | .panicked ch,w'=>a0w C M w K ch w'
 | .outgrown,_=>False
theorem c5y.later {M1:A9} {w1:World} (hx:Ext M w M1 w1) {e:Ending} {w':World} (h:c5y C M1 w1 K e w'):c5y C M w K e w':=by
 cases e with
 | returned v =>
  obtain ⟨c,Y,M',h1,h2⟩:=h;exact ⟨c,Y,M',hx.trans h1,h2⟩
 | panicked ch =>
  obtain ⟨c,v,Y,M',h0,h1,h2⟩:=h;exact ⟨c,v,Y,M',h0,hx.trans h1,h2⟩
 | outgrown=>exact h
theorem a4A {fn:Func} {tmps:Array Value} {R R':Ending->World->Prop} (h:∀ e w,R e w->R' e w):∀ (ds:List Deferred) (u:FrameMode) (w:World),Leaves P fn tmps R ds u w->Leaves P fn tmps R' ds u w:=by
 intro ds
 induction ds with
 | nil =>
  intro u w hl;cases u with
  | run=>exact hl
  | returning =>
   obtain ⟨v,h1,h2⟩:=hl;exact ⟨v,h1,h _ _ h2⟩
  | panicking ch=>exact h _ _ hl
 | cons d ds ih =>
  intro u w hl;obtain ⟨h1,fv,cap,f,args,h2,h3,h4⟩:=hl;refine ⟨h1,fv,cap,f,args,h2,h3,h4.mono fun e u' w' he=>?_⟩;cases e with
  | returned v=>exact ih _ _ he
  | panicked ch=>exact ih _ _ he
  | outgrown=>exact h _ _ he
theorem b1H {fn:Func} {R R':Ending->World->Prop} (h:∀ e w,R e w->R' e w) {e:Exit} {a:Act} (hb:bodyPostD P fn R e a w):bodyPostD P fn R' e a w:=by
 cases e with
 | normal=>exact a4A h _ _ _ hb
 | ret=>exact a4A h _ _ _ hb
 | panic ch=>exact a4A h _ _ _ hb
 | outgrown=>exact h _ _ hb
 | exit id=>exact hb
 | goto l=>exact hb
def b7h (C:Ctx) (fn:Func) (K:W5->List b9->Prop) (c:Code) (E:Env) (σ:List b9):Prop :=
 ∀ (M:A9) (w:World) (a:Act),Rel C M σ w->K5 M w fn.ntmps E a->c.wp C.P (bodyPostD C.P fn (c5y C M w K)) a w
theorem b3F {vs:Array Value} (hn:args.length<=n) (aI:vs.size=args.length) (hx:∀ (i:Nat) (c:CV),args[i]? = some c->RV M w c (vs.getD i undef)):K5 M w n (Env.args args) { tmps:=vs++Array.replicate (n - vs.size) undef,defers:=[]}:=by
 refine ⟨rfl,by simp;omega,fun t _=>?_,fun t ht=>absurd trivial ht⟩;simp only [Env.args,Env.f]
 rcases a4r t args.length with ht | ht
 ·have:=hx t (args[t]) (by simp [ht]);have h1:(vs++Array.replicate (n - vs.size) undef).getD t undef=vs.getD t undef:=by
   simp [b3z,aI,ht]
  rw [h1];simpa [ht] using this
 ·have h1:(vs++Array.replicate (n - vs.size) undef).getD t undef=undef:=by
   simp only [a0H,b3z];rw [n_0 om_];rw [Array.getElem?_replicate]
   split<;>rfl
  rw [h1];simp only [b0N ht,Option.getD_none];exact .val _
theorem c0p {fn:Func} {c:Code} (hf:C.P.funcs[f]? = some fn) (hb:fn.body=some c) (hn:Nat.ble args.length fn.ntmps=true) (h:b7h C fn K c (Env.args args) σ):b8 C f args σ K:=fun M w vs hr aI hx =>
 (calls_of_wp_defers hf hb (h M w _ hr (b3F (nb hn) aI hx))).mono fun e w' he=>by cases e<;>exact he
theorem c1d {fn:Func} {x y:Code} (h:CWp C fn.ntmps x (D5.next (b7h C fn K y) (Fin C fn K)) E σ):b7h C fn K (.seq x y) E σ:=fun M w a hr hf=>by
 refine wp_seq (wp_mono (h M w a hr hf) fun e a' w' hl=>?_);obtain ⟨E',Y,M',h1,h2,h3,h4⟩:=hl;cases e with
 | normal=>exact wp_mono (h4 M' w' a' h2 h3) fun e a0 w0 hb=>b1H (fun e w he=>c5y.later h1 he) hb
 | ret =>
  obtain ⟨c,hc,hk⟩:=h4;obtain ⟨v,hv,bj⟩:=hc M' w' a' h2 h3.rv;show Leaves C.P fn a'.tmps _ a'.defers .returning w';rw [h3.defers];exact ⟨v,hv,c,Y,M',h1,h2,bj,hk⟩
 | panic ch =>
  obtain ⟨c,v,h0,hv,hk⟩:=h4;show Leaves C.P fn a'.tmps _ a'.defers (.panicking ch) w';rw [h3.defers];exact ⟨c,v,Y,M',h0,h1,h2,hv,hk⟩
 | exit id=>exact h4.elim
 | goto l=>exact h4.elim
 | outgrown=>exact h4.elim
def b0T (b:Bool) (v:Value):FrameMode:=if b then .panicking [{ v,recovered:=false}] else .returning
def a0h (b:Bool) (v:Value):FrameMode:=if b then .panicking [{ v,recovered:=true}] else .returning
theorem b4Y (b:Bool) (v:Value):settle (a0h b v) = .returning:=by cases b<;>rfl
def c4F (C:Ctx) (g:FuncId) (aB:List CV) (σ:List b9) (b:Bool) (u:CV) (K:List b9->Prop):Prop :=
 ∀ (M:A9) (w:World) (vs:Array Value) (v:Value),Rel C M σ w->vs.size=aB.length->(∀ (i:Nat) (c:CV),aB[i]? = some c->RV M w c (vs.getD i undef))->RV M w u v ->
  CallsD C.P g vs (b0T b v) w fun e u' w'=>(∃ x,e = .returned x)/\u'=a0h b v/\∃ Y M',Ext M w M' w'/\Rel C M' Y w'/\K Y
theorem c84 {C:Ctx} {fn:Func} {K:W5->List b9->Prop} {id:Nat} {aa:Array Oper} {y:Code} {E:Env} {σ:List b9} {g:FuncId} {aB:Array Operand} {t:Nat} {o1 o2:Oper} {ats:Array TypeId} (hl:aa.toList=[o1,o2]) (g1:o1.guard=none) (g2:o2.guard=none) (d1:o1.dst=some t) (d2:o2.dst=none) (ht:t < fn.ntmps)
 (e1:o1.op = .makeFunc (.func g) #[] aB) (e2:o2.op = .defer { callee:=.value (.tmp t),args:=#[],argTypes:=ats}) (hg:∀ args w,(callFunc g args).run C.P w = .ok (.enter g args) w) (hv:E.valids aB.toList)
 (h:∀ ds,c5H ds C fn.ntmps y (fun e E' Y=>match e with
  | .normal | .ret=>c4F C g (E.vals C aB.toList) Y false (.val undef) fun ez=>∃ c,a0y C E' ez fn c/\K (.ret c) ez
  | .pan u=>c4F C g (E.vals C aB.toList) Y true u fun ez=>∃ c,a0y C E' ez fn c/\K (.ret c) ez
  | _=>False) (E.put (some t) (.clo g (E.vals C aB.toList)) True) σ):b7h C fn K (.seq (.region id aa false) y) E σ:=fun M w a hr hf=>by
 refine wp_seq (wp_region_list ?_);rw [hl];obtain ⟨v,dI,cy⟩:∃ v,(execOp a.eval o1).run C.P w = .ok (.value v) w/\RV M w (.clo g (E.vals C aB.toList)) v:=by
  refine ⟨.func (.func g) #[] (aB.map a.eval),by simp [execOp,e1,Instr.makeFunc],.clo (by rw [<- Env.vals_map];simp) fun i c hi=>?_⟩;rw [<- Env.vals_map,O5,N6] at hi;obtain ⟨x,hx,rfl⟩:=hi;have aC:aB[i]? = some x:=sp_ hx;have hm:x∈aB:=b6t aC;have:(aB.map a.eval).getD i undef=a.eval x:=by
   rw [a0H,b3T,aC];rfl
  rw [this];exact hf.eval hr (Env.valids_mem hv x (sp_ hm))
 have dE:K5 M w fn.ntmps (E.put (some t) (.clo g (E.vals C aB.toList)) True) (a.put (some t) v):=hf.put (fun t' ht'=>by injection ht' with ht';omega) (fun _=>cy) fun hh=>absurd trivial hh;unfold wpList;rw [n_1 (by simp [Region.wanted,g1])];refine .inl ?_;unfold Oper.wp;rw [dI,Oper.upon_value,d1];unfold wpList;rw [n_1 (by simp [Region.wanted,g2])];refine .inl ?_;have fR:(a.put (some t) v).eval (.tmp t)=v:=by
  have aI:t < a.tmps.size:=by rw [hf.size];exact ht
  simp [Act.eval,Act.put,aI]
 cases cy with
 | @clo _ _ vs aI hvs =>
 have au:(execOp (a.put (some t) (.func (.func g) #[] vs)).eval o2).run C.P w = .ok (.defer { target:=.fn (.func g) vs,args:=#[]}) w:=by
  simp [execOp,e2,resolve,fR,Deferred.ofValue]
 unfold Oper.wp;rw [au,Oper.upon_defer,d2];unfold wpList;have hact:({ a.put (some t) (.func (.func g) #[] vs) with defers:={ target:=.fn (.func g) vs,args:=#[]}::(a.put (some t) (.func (.func g) #[] vs)).defers}:Act).put none undef=addDs [{ target:=.fn (.func g) vs,args:=#[]}] (a.put (some t) (.func (.func g) #[] vs)):=by
  simp [addDs,Act.put,hf.defers]
 rw [hact];refine wp_mono (h _ M w _ hr dE) fun e a' w' hl=>?_;obtain ⟨a0,rfl,E',Y,M',h1,h2,h3,h4⟩:=hl;have hvs':∀ (i:Nat) (c:CV),(E.vals C aB.toList)[i]? = some c->RV M' w' c (vs.getD i undef):=fun i c hi=>(hvs i c hi).mono h1;have cE:(addDs [{ target:=.fn (.func g) vs,args:=#[]}] a0).defers=[{ target:=.fn (.func g) vs,args:=#[]}]:=by simp [addDs,h3.defers]
 have fin:∀ (b:Bool) (u:CV) (pv:Value),RV M' w' u pv->(c4F C g (E.vals C aB.toList) Y b u fun ez=>∃ c,a0y C E' ez fn c/\K (.ret c) ez)->Leaves C.P fn a0.tmps (c5y C M w K) [{ target:=.fn (.func g) vs,args:=#[]}] (b0T b pv) w':=fun b u pv hu hd=>by
  refine leaves_cons (f:=g) (args:=vs) (by cases b<;>simp [b0T]) (by simp [invoke,hg]) ((hd M' w' vs pv h2 aI hvs' hu).mono fun e u' w'' he=>?_);obtain ⟨⟨x,rfl⟩,rfl,ez,M'',k1,k2,c,hc,hk⟩:=he;show Leaves C.P fn a0.tmps _ [] (settle _) w'';rw [b4Y];obtain ⟨rv,bj,hrv2⟩:=hc M'' w'' a0 k2 fun t ht=>(h3.rv t ht).mono k1;exact ⟨rv,bj,c,ez,M'',h1.trans k1,k2,hrv2,hk⟩
 cases e with
 | normal =>
  show Leaves C.P fn _ _ (addDs _ a0).defers .returning w';rw [cE];exact fin false _ undef (.val _) h4
 | ret =>
  show Leaves C.P fn _ _ (addDs _ a0).defers .returning w';rw [cE];exact fin false _ undef (.val _) h4
 | panic ch =>
  obtain ⟨c,pv,rfl,hpv,h4⟩:=h4;show Leaves C.P fn _ _ (addDs _ a0).defers (.panicking _) w';rw [cE];exact fin true c pv hpv h4
 | exit id=>exact h4.elim
 | goto l=>exact h4.elim
 | outgrown=>exact h4.elim
theorem d3D {g:FuncId} {fn:Func} {y:Code} {aB:List CV} {b:Bool} {u:CV} {K:List b9->Prop} {t1 t2:Nat} {o1 o2:Oper} {ats:Array TypeId} (hf:C.P.funcs[g]? = some fn) (hb:fn.body=some (.seq (.region id aa false) y)) (bJ:fn.results = #[]) (hn:Nat.ble aB.length fn.ntmps=true)
 (hs:aa.size=2) (h0:aa[0]? = some o1) (h1:aa[1]? = some o2) (g1:o1.guard=none) (g2:o2.guard=none) (d1:o1.dst=some t1) (d2:o2.dst=some t2) (fc:t1 < fn.ntmps) (fo:t2 < fn.ntmps) (e1:o1.op = .call { callee:=.builtin .recover,args:=#[],argTypes:=ats}) (e2:o2.op = .assign (.tmp t1))
 (h:CWp C fn.ntmps y (fun e _ Y=>match e with | .normal | .ret=>K Y | _=>False) (((Env.args aB).put (some t1) (if b then u else .val .nilIface) True).put (some t2) (if b then u else .val .nilIface) True) σ):c4F C g aB σ b u K:=fun M w vs v hr aI hvs hu=>by
 refine callsD_of_wpS hf hb fun gD cs hc₀=>?_;refine wpS_seq (wpS_region ?_);rw [hs];have hrec:recoverD (gD::cs)=if b then some (v,{ gD with mode:=a0h b v}::cs) else none:=by
  unfold recoverD;simp only [hc₀];cases b<;>simp [b0T,a0h]
 have f0:=b3F (n:=fn.ntmps) (nb hn) aI hvs;generalize hact:({ tmps:=vs++Array.replicate (fn.ntmps - vs.size) undef,defers:=[]}:Act)=a0 at f0;have hrun1:(execOp a0.eval o1).run C.P w = .ok .recover w:=by simp [execOp,e1,resolve,invoke,builtin]
 have rest:∀ (x:Value) (bc:List Frame),bc={ gD with mode:=a0h b v}::cs->RV M w (if b then u else .val .nilIface) x->wpOpsS C.P aa (Exit.thenS (y.wpS C.P (bodyPostS C.P fn gD cs fun e u' w'=>(∃ x,e = .returned x)/\u'=a0h b v/\∃ Y M',Ext M w M' w'/\Rel C M' Y w'/\K Y)) (bodyPostS C.P fn gD cs fun e u' w'=>(∃ x,e = .returned x)/\u'=a0h b v/\∃ Y M',Ext M w M' w'/\Rel C M' Y w'/\K Y)) [1] (a0.put (some t1) x) bc w:=by
  intro x bc hcs hx;have f1:K5 M w fn.ntmps ((Env.args aB).put (some t1) (if b then u else .val .nilIface) True) (a0.put (some t1) x):=f0.put (fun t' ht'=>by injection ht' with ht';omega) (fun _=>hx) fun hh=>absurd trivial hh;have fR:(a0.put (some t1) x).eval (.tmp t1)=x:=by
   have aI:t1 < a0.tmps.size:=by rw [f0.size];exact fc
   simp [Act.eval,Act.put,aI]
  have io:(execOp (a0.put (some t1) x).eval o2).run C.P w = .ok (.value x) w:=by simp [execOp,e2,fR]
  have f2:K5 M w fn.ntmps (((Env.args aB).put (some t1) (if b then u else .val .nilIface) True).put (some t2) (if b then u else .val .nilIface) True) ((a0.put (some t1) x).put (some t2) x):=f1.put (fun t' ht'=>by injection ht' with ht';omega) (fun _=>hx) fun hh=>absurd trivial hh;simp only [wpOpsS,h1,Region.wanted,g2,if_true,io,Oper.upon_value,d2,Exit.thenS];refine wpS_of_wp (wp_mono (h M w _ hr f2) fun e a' w' hl=>?_);obtain ⟨E',Y,M',k1,k2,k3,k4⟩:=hl;subst hcs;cases e with
  | normal=>exact ⟨k3.defers,_,rfl,_,results_none bJ _ _ _,⟨_,rfl⟩,rfl,Y,M',k1,k2,k4⟩
  | ret=>exact ⟨k3.defers,_,rfl,_,results_none bJ _ _ _,⟨_,rfl⟩,rfl,Y,M',k1,k2,k4⟩
  | panic ch =>
   obtain ⟨c,pv,_,_,k4⟩:=k4;exact k4.elim
  | exit id=>exact k4.elim
  | goto l=>exact k4.elim
  | outgrown=>exact k4.elim
 show wpOpsS C.P aa _ [0,1] _ _ _;unfold wpOpsS;simp only [h0,Region.wanted,g1,if_true,hrun1,hrec,d1];cases b with
 | true=>exact rest v _ rfl hu
 | false =>
  refine rest .nilIface _ ?_ (.val _);simp [a0h,b0T] at hc₀ ⊢;cases gD
  simp_all
section
def b0d:Value->Bool
 | .iface _ _=>true
 | _=>false
theorem c26 {ms:Array (String × TypeId)} (ho:o.op = .binOp .neq t x (.const .nilIface) t') (hx:E.valid x) (ex:E.val C x = .val v) (hu:∀ w,(underlying t).run C.P w = .ok (.interface ms) w) (hv:v = .nilIface\/∃ a b,v = .iface a b):l8 C σ E o (.val (.bool (b0d v))) :=
 i7 fun M w ρ _ h=>by
  have h1:=h x w9 hx;rw [ex] at h1;have e1:=r3 h1;have e2:=h (.const .nilIface) w9 rfl;have e3:=r3 e2;refine ⟨.bool (b0d v),?_,.val _⟩
  rcases hv with rfl | ⟨a,b,rfl⟩
  ·have he:(Op.equal t .nilIface .nilIface).run C.P w = .ok true w:=by
    unfold Op.equal;rw [show Op.maxDepth=(Op.maxDepth - 1)+1 from rfl,Op.equalIn];simp [hu]
   simp [execOp,ho,e1,e3,eqGuard,binOp,he,b0d]
  ·have he:(Op.equal t (.iface a b) .nilIface).run C.P w = .ok false w:=by
    unfold Op.equal;rw [show Op.maxDepth=(Op.maxDepth - 1)+1 from rfl,Op.equalIn];simp [hu]
   simp [execOp,ho,e1,e3,eqGuard,binOp,he,b0d]
theorem c5x {s:TypeId} {xs:List Value} {u:TypeDesc} (ho:o.op = .typeAssert x s t true) (hx:E.valid x) (ex:E.val C x = .val (.iface t (.agg xs.toArray))) (hu:∀ w,(underlying t).run C.P w = .ok u w) (hi:b0c u=false) (h1x:(xs.all fun v=>(CV.val v).one)=true):l8 C σ E o (.tup [plain xs,.val (.bool true)]) :=
 i7 fun M w ρ _ h=>by
  have h1:=h x w9 hx;rw [ex] at h1;have e1:=r3 h1;refine ⟨.tuple #[.agg xs.toArray,.bool true],?_,.tup rfl fun i c hc=>?_⟩
  ·simp [execOp,ho,e1,Instr.typeAssert,hu];cases u<;>simp [b0c] at hi ⊢
  ·rcases i with _ | _ | i
   ·injection hc with hc;subst hc
    refine .agg si_ (fun c hc=>?_) fun i c hc=>?_
    ·obtain ⟨v,hm,rfl⟩:=F4.1 hc;exact a5D.1 h1x v hm
    ·rw [O5,N6] at hc;obtain ⟨v,hv,rfl⟩:=hc;have:(xs.toArray).getD i undef=v:=by simp [a0H,hv]
     show RV M w (.val v) ((xs.toArray).getD i undef);rw [this];exact .val v
   ·injection hc with hc;subst hc;exact .val _
   ·cases hc
end
def a9G (σ:List b9):List Nat->List b9->List b9
 | k::ak,x::xs=>(a9G σ ak xs).set k x
 | _,_=>σ
theorem b1Z (σ:List b9):∀ (ak:List Nat) (xs:List b9),(a9G σ ak xs).length=σ.length
 | [],_=>by cases ‹List b9›<;>rfl
 | _::_,[]=>rfl
 | k::ak,x::xs=>by rw [a9G,List.length_set,b1Z σ ak xs]
theorem b6j {σ:List b9}:∀ {ak:List Nat} {xs:List b9} {k:Nat},k∉ak->(a9G σ ak xs)[k]? = σ[k]?
 | [],xs,k,_=>by cases xs<;>rfl
 | j::ak,[],k,_=>rfl
 | j::ak,x::xs,k,h=>by
  rw [a9G,a2i (fun e=>h (by rw [<- e];simp))];exact b6j fun hm=>h (by simp [hm])
theorem c4j {σ:List b9}:∀ {ak:List Nat} {xs:List b9} {i k:Nat} {x:b9},(∀ (i j k:Nat),ak[i]? = some k->ak[j]? = some k->i=j)->k < σ.length->ak[i]? = some k->xs[i]? = some x->(a9G σ ak xs)[k]? = some x
 | [],xs,i,k,x,_,_,h,_=>by simp at h
 | j::ak,[],i,k,x,_,_,_,h=>by simp at h
 | j::ak,y::xs,0,k,x,_,hk,h,hx=>by
  simp at h hx;subst h hx;rw [a9G];simp [b1Z,hk]
 | j::ak,y::xs,i+1,k,x,co,hk,h,hx=>by
  have az:j≠k:=fun e=>by
   subst e;have:=co 0 (i+1) j rfl h;omega
  rw [a9G,a2i az];exact c4j (fun a b c h1 h2=>by
   have:=co (a+1) (b+1) c (sp_ h1) (sp_ h2);omega) hk (sp_ h) (sp_ hx)
theorem Q1.mono (hR:∀ k k',R k k'->R' k k') (h:Q1 R c c'):Q1 R' c c':=(h.symm (R':=fun a b=>R' b a) fun _ _ h=>hR _ _ h).symm fun _ _ h=>h
theorem I4.mono (hR:∀ k k',R k k'->R' k k') {a:b9} (h:I4 R a b):I4 R' a b:=(h.symm (R':=fun a b=>R' b a) fun _ _ h=>hR _ _ h).symm fun _ _ h=>h
def b5I (ak:List Nat):Prop:=∀ (i j k:Nat),ak[i]? = some k->ak[j]? = some k->i=j
theorem a74 (ak:List Nat) (hC:C.plain) (aj:ak.length=obs.length) (co:b5I ak)
 (cZ:∀ (i k:Nat) (ob:b9),ak[i]? = some k->obs[i]? = some ob->∃ aG,σ[k]? = some aG/\I4 (fun k i=>ak[i]? = some k) aG ob) (ao:a1Y (fun k i=>ak[i]? = some k) args' args)
 {res res':α->W5} {S S':α->List b9} {P:α->Prop} (h:b8 C f args obs fun r τ=>∃ a,r=res a/\τ=S a/\P a) (hS:∀ a,(S a).length=obs.length)
 (eU:∀ a (i k:Nat) (x:b9),ak[i]? = some k->(S a)[i]? = some x->∃ x',(S' a)[i]? = some x'/\I4 (fun i k=>ak[i]? = some k) x x') (eg:∀ a,a6O (fun i k=>ak[i]? = some k) (res a) (res' a)) :
 b8 C f args' σ fun r τ=>∃ a,r=res' a/\τ=a9G σ ak (S' a)/\P a:=by
 refine I3 ak hC aj co cZ ao h fun r τ hk=>?_;obtain ⟨a,rfl,rfl,hp⟩:=hk;have up:∀ {c c':CV},Q1 (fun i k=>ak[i]? = some k) c c'->Q1 (a0E ak σ.length) c c':=fun hh=>Q1.mono (fun _ _ h=>.inl h) hh;refine ⟨by rw [hS];exact n_7 _,res' a,a9G σ ak (S' a),?_,by rw [b1Z,hS];omega,fun k _ bA=>b6j bA,fun i k x ha hx=>?_,a,rfl,rfl,hp⟩
 ·have:=eg a;generalize hra:res a=ra at this;generalize hrb:res' a=rb at this;cases this with
  | ret h=>exact .ret (up h)
  | pan h=>exact .pan (up h)
 ·rcases ha with ha | ⟨ha,_⟩
  ·obtain ⟨x',h1,h2⟩:=eU a i k x ha hx;have bA:k < σ.length:=by
    have hi:i < obs.length:=by rw [<- aj];exact (n_3.1 ha).1
    obtain ⟨aG,g1,_⟩:=cZ i k obs[i] ha (by simp [hi]);exact (n_3.1 g1).1
   exact ⟨x',c4j co bA ha h1,I4.mono (fun _ _ h=>.inl h) h2⟩
  ·have:=(n_3.1 hx).1;rw [hS,<- aj] at this;omega
theorem b18 (ak:List Nat) (hC:C.plain) (aj:ak.length=obs.length) (co:b5I ak) {obs':List b9}
 (cZ:∀ (i k:Nat) (ob:b9),ak[i]? = some k->obs[i]? = some ob->∃ aG,obs'[i]? = some aG/\σ[k]? = some aG/\I4 (fun i k=>ak[i]? = some k) ob aG) (ao:a1Y (fun k i=>ak[i]? = some k) args' args)
 {c:α->CV} {P:α->Prop} (hc:∀ a,P a->r4 (c a)) (h:b8 C f args obs fun r τ=>∃ a,r = .ret (c a)/\τ=obs/\P a):b8 C f args' σ fun r τ=>∃ a,r = .ret (c a)/\τ=σ/\P a:=by
 refine I3 ak hC aj co (fun i k ob g1 g2=>?_) ao h fun r τ hk=>?_
 ·obtain ⟨aG,_,h2,h3⟩:=cZ i k ob g1 g2;exact ⟨aG,h2,h3.symm fun _ _ h=>h⟩
 ·obtain ⟨a,rfl,rfl,hp⟩:=hk;refine ⟨n_7 _,.ret (c a),σ,.ret (.pure (hc a hp)),om_,fun _ _ _=>rfl,fun i k x ha hx=>?_,a,rfl,rfl,hp⟩
  rcases ha with ha | ⟨ha,_⟩
  ·obtain ⟨aG,_,h2,h3⟩:=cZ i k x ha hx;exact ⟨aG,h2,I4.mono (fun _ _ h=>.inl h) h3⟩
  ·have:=(n_3.1 hx).1;rw [<- aj] at this;omega
theorem a1L (hC:C.plain) (ao:∀ a∈args,r4 a) {res':α->Nat->W5} {S:α->List b9} {S':α->Nat->List b9} {P:α->Prop} (h:b8 C f args [] fun r τ=>∃ a,r=res a/\τ=S a/\P a)
 (aj:∀ a n,(S' a n).length=(S a).length) (eU:∀ a (n i:Nat) (x:b9),(S a)[i]? = some x->∃ x',(S' a n)[i]? = some x'/\I4 (fun i k=>k=n+i) x x') (eg:∀ a n,a6O (fun i k=>k=n+i) (res a) (res' a n)) (σ:List b9) :
 b8 C f args σ fun r τ=>∃ a,r=res' a σ.length/\τ=σ++S' a σ.length/\P a:=by
 refine I3 [] hC rfl (fun i j k h=>by simp at h) (fun i k ob h=>by simp at h) (by
  refine ⟨rfl,fun i c c' h h'=>?_⟩;rw [h] at h';injection h' with h';subst h'
  exact .pure (ao c (n_2 h))) h fun r τ hk=>?_
 obtain ⟨a,rfl,rfl,hp⟩:=hk;have up:∀ i k,k=σ.length+i->a0E [] σ.length i k:=fun i k h=>.inr ⟨n_4 _,sp_ h⟩;refine ⟨n_4 _,res' a σ.length,σ++S' a σ.length,?_,by simp [aj],fun k hk _=>R3 hk,fun i k x ha hx=>?_,a,rfl,rfl,hp⟩
 ·have:=eg a σ.length;generalize hra:res a=ra at this;generalize hrb:res' a σ.length=rb at this;cases this with
  | ret h=>exact .ret (Q1.mono up h)
  | pan h=>exact .pan (Q1.mono up h)
 ·rcases ha with ha | ⟨_,ha⟩
  ·simp at ha
  ·obtain ⟨x',h1,h2⟩:=eU a σ.length i x hx;refine ⟨x',?_,I4.mono up h2⟩;rw [ha,a1f om_];simpa using h1
section
theorem b1b (hr:Rel C M σ w) (h:RV M w c v) (ho:c.one=true\/∃ cs,c = .agg cs) (hk:K (.ret (.ptr σ.length 0)) (σ++[.boxT (some t) c.cells])) :
 a3v C M w K (.pointer (some ⟨w.heap.size,0,none⟩)) (w.alloc (.cells v.cells t)):=by
 obtain ⟨h1,h2,h3⟩:=h.cells ho;have hx:=Ext.alloc hr ⟨w.heap.size,0,0⟩ (.cells v.cells t);refine ⟨.ptr σ.length 0,_,_,hx,hr.alloc ⟨w.heap.size,0,0⟩ _ (.boxT (some t) c.cells) rfl ⟨v.cells,t,B0 w _,h1,h2,fun i x hi=>(h3 i x hi).mono hx⟩,?_,hk⟩;exact .ptr (p:=⟨w.heap.size,0,0⟩) a9q
theorem d8m (ho:o.op = .box t x) (hx:E.valid x) (ex:E.val C x=c) (hc:c.one=true\/∃ cs,c = .agg cs) (hk:K (.ret (.ptr σ.length 0)) (σ++[.boxT (some t) c.cells])):G9 C σ E o K:=fun M w ρ hr h=>by
 have h1:=h x w9 hx;rw [ex] at h1;have:(execOp ρ o).run C.P w = .ok (.value (.pointer (some ⟨w.heap.size,0,none⟩))) (w.alloc (.cells (ρ x).cells t)):=by
  simp [execOp,ho,Instr.box,a3F]
 rw [this];exact b1b hr h1 hc hk
theorem b6c (ho:o.op = .alloc t) (hz:∀ w,(zeroValue t).run C.P w = .ok z w) (bO:K9 z=true) (cH:(I2 z).one=true\/∃ cs,I2 z = .agg cs) (hk:K (.ret (.ptr σ.length 0)) (σ++[.boxT (some t) (I2 z).cells])):G9 C σ E o K:=fun M w ρ hr h=>by
 have:(execOp ρ o).run C.P w = .ok (.value (.pointer (some ⟨w.heap.size,0,none⟩))) (w.alloc (.cells z.cells t)):=by
  simp [execOp,ho,Instr.alloc,hz,a3F]
 rw [this];exact b1b hr (a0r bO) cH hk
theorem b6B {te:TypeId} (ho:o.op = .binOp .eql t x (.const (.pointer none)) t') (hx:E.valid x) (ex:E.val C x = .ptr k off) (hu:∀ w,(underlying t).run C.P w = .ok (.pointer te) w):l8 C σ E o (.val (.bool false)) :=
 i7 fun M w ρ _ h=>by
  have h1:=h x w9 hx;rw [ex] at h1;have e2:=r3 (h (.const (.pointer none)) w9 rfl);generalize hv:ρ x=v at h1;cases h1 with
  | ptr hp =>
   rename_i p;have he:(Op.equal t (.pointer (some ⟨p.block,off,none⟩)) (.pointer none)).run C.P w = .ok false w:=by
    unfold Op.equal;rw [show Op.maxDepth=(Op.maxDepth - 1)+1 from rfl,Op.equalIn];simp [hu]
   exact ⟨.bool false,by simp [execOp,ho,hv,e2,eqGuard,binOp,he],.val _⟩
theorem c5q {te:TypeId} (ho:o.op = .binOp .eql t x (.const (.pointer none)) t') (hx:E.valid x) (ex:E.val C x = .val (.pointer none)) (hu:∀ w,(underlying t).run C.P w = .ok (.pointer te) w):l8 C σ E o (.val (.bool true)) :=
 i7 fun M w ρ _ h=>by
  have h1:=h x w9 hx;rw [ex] at h1;have e1:=r3 h1;have e2:=r3 (h (.const (.pointer none)) w9 rfl);have he:(Op.equal t (.pointer none) (.pointer none)).run C.P w = .ok true w:=by
   unfold Op.equal;rw [show Op.maxDepth=(Op.maxDepth - 1)+1 from rfl,Op.equalIn];simp [hu]
  exact ⟨.bool true,by simp [execOp,ho,e1,e2,eqGuard,binOp,he],.val _⟩
theorem b4D (ho:o.op = .binOp .neq t x y t') (hx:E.valid x) (hy:E.valid y) (ex:E.val C x = .ptr k off) (ey:E.val C y = .ptr k off) (te':TypeId) (hp:C.P.underlying t=some (.pointer te')) (hte:(C.P.info? te').isSome=true):l8 C σ E o (.val (.bool false)) :=
 i7 fun M w ρ _ h=>by
  obtain ⟨j,hte⟩:=b6z.1 hte;have h1:=h x w9 hx;have h2:=h y w9 hy;rw [ex] at h1;rw [ey] at h2;generalize hv:ρ x=v at h1;generalize fu:ρ y=v' at h2;cases h1 with
  | ptr q1 =>
   rename_i p;cases h2 with
   | ptr q2 =>
    rename_i p';rw [q1] at q2;injection q2 with q2
    subst q2;have:=Lib.run_neq_ptr_same (P:=C.P) (w:=w) ⟨p.block,off,none⟩ hp hte;exact ⟨.bool false,by simp [execOp,ho,hv,fu,eqGuard,this],.val _⟩
theorem c1A (ho:o.op = .convert src dst x) (hx:E.valid x) (ex:E.val C x = .ptr k off) (hk:σ[k]? = some (.boxT (some e) cells)) (ga:off < cells.length)
 (t:TypeId) (hs:C.P.underlying src=some (.pointer t)) (hd:C.P.underlying dst=some .unsafePointer) (ht:((C.P.info? t).any fun j=>j.size != 0)=true):l8 C σ E o (.ptr k off) :=
 i7 fun M w ρ hr h=>by
  obtain ⟨j,ht,hj⟩:∃ j,C.P.info? t=some j/\j.size≠0:=by
   rw [Option.any_eq_true_iff_get] at ht;exact ⟨_,Option.eq_some_of_isSome ht.1,sp_ ht.2⟩
  have h1:=h x w9 hx;rw [ex] at h1;generalize hv:ρ x=v at h1;cases h1 with
  | ptr hp =>
   rename_i p;obtain ⟨arr,ty,e1,e2,_⟩:=(hr.obj k p _ hp hk).1;have hsh:w.shape? p.block=some (e,arr.size):=by simp [World.shape?,e1]
   have:=Lib.run_to_unsafe (P:=C.P) (w:=w) (src:=src) (dst:=dst) ⟨p.block,off,none⟩ hs hd ht hj hsh (by rw [e2];exact ga);exact ⟨_,by simp [execOp,ho,hv,this],.ptr hp⟩
theorem b4J (ho:o.op = .convert src dst x) (hx:E.valid x) (ex:E.val C x = .ptr k off) (hk:σ[k]? = some (.boxT (some e) cells))
 (u:TypeId) (hs:C.P.underlying src=some .unsafePointer) (hd:C.P.underlying dst=some (.pointer u)) (ht:(C.P.info? u).isSome=true) (hl:liesAt C.P C.P.depth e (cells.length / C.P.cellsOf e) off u 1=true):l8 C σ E o (.ptr k off) :=
 i7 fun M w ρ hr h=>by
  obtain ⟨j,ht⟩:=b6z.1 ht;have h1:=h x w9 hx;rw [ex] at h1;generalize hv:ρ x=v at h1;cases h1 with
  | ptr hp =>
   rename_i p;obtain ⟨arr,ty,e1,e2,_⟩:=(hr.obj k p _ hp hk).1;have hsh:w.shape? p.block=some (e,arr.size):=by simp [World.shape?,e1]
   have:=Lib.run_from_unsafe (P:=C.P) (w:=w) (src:=src) (dst:=dst) ⟨p.block,off,none⟩ hs hd ht hsh (by rw [e2];exact hl);exact ⟨_,by simp [execOp,ho,hv,this],.ptr hp⟩
theorem d8i {f : FuncId} {fn : Func} {e : Array Value → Sem Value} {ts : Array TypeId} {x : Operand} {c : CV} (ho : o.op = .call { callee := .value (.func f), args := #[x], argTypes := ts }) (hf : C.P.funcs[f]? = some fn) (dq : (fn.name == "runtime.NumGoroutine") = false) (hb : fn.body.isNone = true) (hn : Extern.findNext fn = none) (he : Extern.find fn = some e)
 (hx:E.valid x) (ex:E.val C x=c) (hr:∀ v w,(e #[v]).run C.P w = .ok v w):l8 C σ E o c :=
 i7 fun M w ρ _ hh=>by
  have h1:=hh x H9 hx;have cB:=r3 (hh (.func f) H9 tt);rw [ex] at h1;refine ⟨ρ x,?_,h1⟩;have:=a16 (args:=#[ρ x]) (w:=w) hf dq hb hn he (hr (ρ x) w);simp [execOp,ho,resolve,cB,Deferred.ofValue,invoke,this]
theorem b6w (ho:o.op = .call { callee:=.builtin .unsafeSliceData,args:=#[x],argTypes:=#[t]}) (hx:E.valid x) (ex:E.val C x = .list V true (some k)) (az:V≠[]):l8 C σ E o (.eptr k 0 0) :=
 i7 fun M w ρ _ h=>by
  have h1:=h x H9 hx;rw [ex] at h1;obtain ⟨a,cap,b,off,s,vals,hv,bm,dL,eb,dw,ha,cN,aM,hc,bj,cz⟩:=h1.list_inv;obtain ⟨s',hp,ha0,rfl,hs⟩:=cz k rfl;have hl:0 < V.length:=a94.2 az;refine ⟨.pointer (some ⟨b,0,none⟩),?_,?_⟩
  ·have:=Lib.run_unsafeSliceData_row (P:=C.P) (w:=w) #[t] o.type ⟨b,0,none⟩ V.length cap om_;simp [execOp,ho,resolve,invoke,builtin,hv,ha0,this]
  ·have:=RV.eptr (w:=w) (i:=0) (off:=0) hp;simpa using this
theorem b5p (ho:o.op = .call { callee:=.builtin .unsafeSliceData,args:=#[x],argTypes:=#[t]}) (hx:E.valid x) (ex:E.val C x = .list [] false none):l8 C σ E o (.val (.pointer none)) :=
 i7 fun M w ρ _ h=>by
  have h1:=h x H9 hx;rw [ex] at h1;obtain ⟨a,cap,b,off,s,vals,hv,bm,dL,eb,dw,ha,cN,aM,hc,bj,cz⟩:=h1.list_inv;have:a=none:=by cases a<;>first|rfl | simp at eb
  subst this;refine ⟨.pointer none,?_,.val _⟩;have:=Lib.run_unsafeSliceData_nil (P:=C.P) (w:=w) #[t] o.type ([]:List (List CV)).length cap;simp only [I8] at this hv;simp [execOp,ho,resolve,invoke,builtin,hv,this]
theorem Rel.tipKill (hr:Rel C M σ w) {t0:Option TypeId} {aD:Array Value} {ty:TypeId} {fr fr':Nat × Nat} (hp:M.pl[k]? = some p) (hk:σ[k]? = some (.tipT t0 n)) (hc:w.heap[p.block]? = some (.cells aD ty fr)) :
 Ext M w M (World.putObj w p.block (.cells aD ty fr'))/\Rel C M (σ.set k .dead) (World.putObj w p.block (.cells aD ty fr')):=by
 obtain ⟨⟨q1,q2,q3,cur0,ty0,q4,q5⟩,cS⟩:=hr.obj k _ _ hp hk;have hb:p.block < w.heap.size:=(a1s.1 hc).1;have hx:Ext M w M (World.putObj w p.block (.cells aD ty fr')):=by
  refine ⟨⟨[],si_⟩,fun _ h=>h,fun _ _ h=>.inr h,fun b' h=>World.putObj_other w _ (fun e=>cS (e ▸ h)),fun b' o' h=>?_,by rw [World.putObj_size];exact n_7 _,T1,rfl,rfl,rfl,fun b' h=>⟨h,World.putObj_other w _ (fun e=>hr.nk k p _ hp hk rfl (e ▸ h)),id,fun _=>id⟩⟩;by_cases he:p.block=b'
  ·subst he;simp only [World.cell?,World.putObj_same w _ hb,hc]
  ·exact M8 (World.putObj_other w _ he)
 have hd:=hr.dead k;refine ⟨hx,hd.len,fun b o' ha=>by rw [World.putObj_size];exact hr.blk b o' ha,fun k' p' x aH aC=>?_,hd.inj,fun g cells hg=>(hr.glob g cells hg).mono hx,fun b h=>(by rw [World.putObj_size];exact hr.kep b h),hd.nk⟩;obtain ⟨h1,h2⟩:=hd.obj k' p' x aH aC;refine ⟨?_,h2⟩;by_cases hl:x.live=true
 ·have gz:k'≠k:=by
   rintro rfl;rw [b1v (n_3.1 hk).1] at aC;injection aC with aC
   subst aC;cases hl
  rw [a2i (Ne.symm gz)] at aC;have az:p.block≠p'.block:=fun e=>gz (hr.inj k' k p' p x _ aH hp aC hk hl rfl e.symm);exact h1.mono hx (World.putObj_other w _ az) (fun _ _ _ _ h=>h)
 ·cases x<;>first | trivial | simp [b9.live] at hl
theorem b97 {b:Nat} {aD:Array Value} {ty:TypeId} {fr:Nat × Nat} (hc:w.heap[b]? = some (.cells aD ty fr)) (hn:n≠0):∃ fr',w.freeze ⟨b,0,none⟩ n=World.putObj w b (.cells aD ty fr'):=by
 have hb:b < w.heap.size:=(a1s.1 hc).1;obtain ⟨lo,hi⟩:=fr;refine ⟨if lo == hi then (0,0+n) else (min lo 0,max hi (0+n)),?_⟩;have hg:w.heap[b] = .cells aD ty (lo,hi):=by
  have:=(a1s.1 hc).2;exact this
 simp only [World.freeze,n_0 hn,World.putObj]
 congr 1
 apply b5g;intro i;rw [b83,c8Y];by_cases bd:b=i
 ·subst bd;simp [hb,hg]
 ·simp [bd]
theorem b1d {pt it:TypeId} {t0:Option TypeId} (ho:o.op = .call { callee:=.builtin .unsafeString,args:=#[x,y],argTypes:=#[pt,it]}) (hx:E.valid x) (hy:E.valid y) (ex:E.val C x = .eptr q 0 0) (ey:E.val C y = .val (.int .i64 l.length))
 (hq:σ[q]? = some (.tipT (some e) l.length)) (hk:σ[k]? = some (.boxT t0 cells)) (hi:cells[i]? = some (.list (l.map bcv) true (some q))) (az:l≠[])
 (hp:C.P.underlying pt=some (.pointer e)) (hc:C.P.cellsOf e=1) (h:K (.ret (sv l)) (σ.set q .dead)):G9 C σ E o K:=fun M w ρ hr hh=>by
 have h1:=hh x H9 hx;have h2:=r3 (ey ▸ hh y H9 hy);rw [ex] at h1;generalize hv:ρ x=v at h1;cases h1 with
 | eptr aX =>
  rename_i p;obtain ⟨pk,eu⟩:∃ pk,M.pl[k]? = some pk:=by
   have:=(n_3.1 hk).1;rw [<- hr.len] at this;exact ⟨_,a09 this⟩
  obtain ⟨arr,ty,e1,e2,e3,e4⟩:=(hr.obj k pk _ eu hk).1;obtain ⟨a,cap,b,off,s,vals,hvv,bm,dL,eb,dw,ha,cN,aM,aR,bj,cz⟩:=(e4 i _ hi).list_inv;obtain ⟨s',aH,ha0,rfl,hs⟩:=cz q rfl;rw [aX] at aH;injection aH with aH
  subst aH;have gY:l.map bcv≠[]:=sp_ az;have bv:s=1:=by
   cases l with
   | nil=>exact absurd rfl az
   | cons x l=>exact (cN (bcv x) si_).symm
  subst bv;have aT:=hs gY;subst aT;obtain ⟨⟨q1,q2,q3,aD,fN,q4,q5⟩,_⟩:=hr.obj q _ _ aX hq;simp only [a8S,b0q] at q1 q4 q5;have hcells:∀ j x,l[j]? = some x->w.cell? ((⟨b,0,none⟩:Addr).add j)=some (.int .u8 x.toNat):=fun j x hj=>by
   have g:(l.map bcv)[j]? = some (bcv x):=by rw [O5,hj];rfl
   have:=(aR j 0 _ _ g rfl).2;have hz:=r3 (bj j 0 _ _ g rfl);rw [hz] at this;simp only [b0q,L7,a8l] at this;rw [T5];simpa using this
  have aj:l.length<=cap:=sp_ bm;have hus:=Lib.run_unsafeString_row (P:=C.P) w pt it o.type e hp hc b aD.size (by simp [World.shape?,q4]) l az (by rw [q5];exact aj) (by unfold maxLen at dL;omega) hcells;obtain ⟨fr',hfr⟩:=b97 q4 (n:=l.length) (sp_ az);have au:(execOp ρ o).run C.P w = .ok (.value (.string ⟨l.toArray⟩)) (World.putObj w b (.cells aD e fr')):=by
   rw [<- hfr];simp [execOp,ho,resolve,invoke,builtin,hv,h2,hus]
  rw [au];obtain ⟨g1,g2⟩:=hr.tipKill (fr':=fr') aX hq q4;exact ⟨_,_,_,g1,g2,.val _,h⟩
theorem b44 (ey:E.val C y=sv l):∀ M w v,Rel C M σ w->RV M w (E.val C y) v->c1y C w M (l.map bcv) 1 v:=fun M w v _ h=>by
 rw [ey] at h;have hv:=r3 h;subst hv;refine ⟨fun w'=>by simp [Builtin.lenOf,str,ByteArray.size],fun r hr=>?_,(l.map fun b=>Value.int .u8 b.toNat).toArray,?_,si_,fun i j r c hi hj=>?_⟩
 ·obtain ⟨b,_,rfl⟩:=F4.1 hr;rfl
 ·simp [Builtin.firstCells,str]
 ·rw [O5,N6] at hi;obtain ⟨b,hb,rfl⟩:=hi
  rcases j with _ | j
  ·simp only [bcv,List.getElem?_cons_zero,Option.some.injEq] at hj;subst hj;refine ⟨?_,rfl⟩;have:((l.map fun b=>Value.int .u8 b.toNat).toArray).getD (i*1+0) undef = .int .u8 b.toNat:=by simp [a0H,hb]
   rw [this];exact .val _
  ·cases hj
end
def A3 (t:TypeId):Nat->b9
 | 0=>.dead
 | n+1=>.tipT (some t) (n+1)
def a0Y (l:Str) (p:Nat):CV:=.list (l.map bcv) (gnn l.length) (C2 l.length p)
theorem b3q (t:TypeId) (n m:Nat):I0 n (A3 t m):=by cases m<;>trivial
section
theorem a35 {t2:TypeId} {new:Str} {p:Nat} {ti:TypeInfo} (ho:o.op = .call { callee:=.builtin .append,args:=#[x,y],argTypes:=#[t,t2]}) (hx:E.valid x) (hy:E.valid y) (ex:E.val C x=a0Y l p)
 (aQ:∀ M w v,Rel C M σ w->RV M w (E.val C y) v->c1y C w M (new.map bcv) 1 v) (hu:∀ w,(underlying t).run C.P w = .ok (.slice e) w) (hs:∀ w,(sizeOf e).run C.P w = .ok 1 w) (df:∀ w,(typeInfo e).run C.P w = .ok ti w) (hz:∀ w,(zeroValue e).run C.P w = .ok z w) (bI:z.cells.size=1)
 (dy:(∀ w,(underlying t2).run C.P w = .ok (.slice e) w)\/∀ w,(underlying t2).run C.P w = .ok .string w) (hb1:ti.bytes=1)
 (cb:σ[p]? = some (A3 e l.length)) (hb:l.length+new.length<=140737488355328)
 (hk:K (.ret (a0Y (l++new) σ.length)) (σ.set p .dead++[A3 e (l++new).length])):G9 C σ E o K:=by
 have bg:∀ (l:Str),∀ r∈l.map bcv,r.length=1:=fun l r hr=>by
  obtain ⟨b,_,rfl⟩:=F4.1 hr;rfl
 rcases new with _ | ⟨r1,new⟩
 ·
  intro M w ρ hr hh;have h1:=hh x H9 hx;have h2:=hh y H9 hy;rw [ex,a0Y] at h1;obtain ⟨aj,_,arr,cB,ba,_⟩:=aQ M w _ hr h2;obtain ⟨a,cap,b,off,s',vals,hv,bm,dL,eb,dw,ha,cN,aM,hc,bj,cz⟩:=h1.list_inv;have bD:(execOp ρ o).run C.P w=((Builtin.append_ #[t,t2] o.type #[ρ x,ρ y]).run C.P w).andThen fun v w=>.ok (.value v) w:=by
   simp [execOp,ho,resolve,invoke,builtin]
  have ax:arr = #[]:=by
   apply Array.eq_empty_of_size_eq_zero;simpa using ba
  subst ax;have cT:∀ w',(Builtin.lenOf (ρ y)).run C.P w' = .ok 0 w':=sp_ aj;have hfn':(Builtin.firstCells 1 0 (ρ y)).run C.P w = .ok #[] w:=sp_ cB;have ip:l.length<=cap:=sp_ bm;have au:(execOp ρ o).run C.P w = .ok (.value (.slice a (l.map bcv).length cap)) w:=by
   rw [bD,hv]
   rcases dy with dy | dy
   all_goals
    cases a with
    | none=>simp [Builtin.append_,hu,dy,hs,cT,hfn',ip]
    | some a=>simp [Builtin.append_,hu,dy,hs,cT,hfn',ip,storeCells]
  rw [au];simp only [a1k] at hk
  rcases l with _ | ⟨r0,l⟩
  ·obtain ⟨aF,bb⟩:=(hr.dead p).addDead ⟨0,0,0⟩;exact ⟨_,_,_,bb,aF,by simpa [a0Y,gnn,C2,hv] using h1.mono bb,hk⟩
  ·obtain ⟨sz,hp,ha0,ga,aI⟩:=cz p rfl;obtain ⟨bb,aF⟩:=hr.tipNew (m:=(r0::l).length) hp cb (n_7 _) ip;refine ⟨_,_,_,bb,aF,?_,hk⟩;have hl:=h1.mono bb;rw [hv] at hl;obtain ⟨a',cap',b',off',s'',fE,fu,q1,q2,q3,q4,q5,q6,q7,q8,q9,q10⟩:=hl.list_inv;injection fu with e1 e2 e3
   subst e1 e3;refine RV.list' (L:=((r0::l).map bcv).length) rfl fE q1 q2 (by rw [q3]) (fun h=>by cases h) q5 q6 q7 q8 q9 (fun k' aJ=>?_);obtain ⟨s3,g1,g2,g3,g4⟩:=q10 p rfl;injection aJ with aJ
   subst aJ;refine ⟨s3,?_,g2,g3,g4⟩;have e4:=bb.get hp;rw [g1] at e4;rw [e4];simp [A9.add,<- hr.len]
 ·have az:(r1::new).map bcv≠[]:=by simp
  have hbb:((l.map bcv).length+((r1::new).map bcv).length)*ti.bytes<=140737488355328:=by rw [hb1];simp only [O3];simpa using hb
  have bz:(l.map bcv).length+((r1::new).map bcv).length<=9223372036854775807:=by simp only [O3];simp only [C5] at hb ⊢;omega
  have hK:K (.ret (.list (l.map bcv++(r1::new).map bcv) true (some σ.length))) (σ.set p .dead++[.tipT (some e) ((l.map bcv).length+((r1::new).map bcv).length)]):=by
   have e1:(l++r1::new).length=(l.length+new.length)+1:=by simp;omega
   have e2:(l.map bcv).length+((r1::new).map bcv).length=(l.length+new.length)+1:=by simp;omega
   rw [a0Y,e1] at hk;rw [e2,<- a6H];exact hk
  rcases l with _ | ⟨r,l⟩
  ·have hee:σ.set p .dead=σ:=by
    refine b35 fun i=>?_;rw [b0A]
    split
    ·rename_i h';subst h';rw [n_1 (n_3.1 cb).1,cb];rfl
    ·rfl
   rw [hee] at hK;exact a8B ho hx hy ex aQ hu hs df hz bI dy (.inr rfl) a0B (.inl ⟨rfl,rfl,rfl⟩) (bg []) az hbb bz hK
  ·refine a8B ho hx hy ex aQ hu hs df hz bI dy (.inr rfl) a0B (.inr ⟨si_,p,rfl,?_⟩) (bg _) az hbb bz hK;simpa [A3] using cb
theorem a90 {pt it:TypeId} (ho:o.op = .call { callee:=.builtin .unsafeString,args:=#[x,y],argTypes:=#[pt,it]}) (hx:E.valid x) (hy:E.valid y) (ex:E.val C x = .val (.pointer none)) (ey:E.val C y = .val (.int .i64 0)) (h:K (.ret (sv [])) σ):G9 C σ E o K:=fun M w ρ hr hh=>by
 have h1:=r3 (ex ▸ hh x H9 hx);have h2:=r3 (ey ▸ hh y H9 hy);have:=Lib.run_unsafeString_none (P:=C.P) (w:=w) pt it o.type none;have au:(execOp ρ o).run C.P w = .ok (.value (.string .empty)) w:=by simp [execOp,ho,resolve,invoke,builtin,h1,h2,this]
 rw [au];exact ⟨_,_,_,Ext.refl _ _,hr,.val _,h⟩
end
end Go.Cl
namespace Go.Cl
open Go.Sort
theorem a5E {C:Ctx} {M:A9} {σ:List b9} {w:World} (hr:Rel C M σ w) (k:Nat) (os:Array Obj):Ext M w M (grow (w.drewN k) os)/\Rel C M σ (grow (w.drewN k) os):=by
 have bP:∀ b,b < w.heap.size->(grow (w.drewN k) os).heap[b]? = w.heap[b]?:=fun b hb=>by
  show (w.heap++os)[b]? = _;exact b4j hb
 have aI:w.heap.size<=(grow (w.drewN k) os).heap.size:=by
  show w.heap.size<=(w.heap++os).size;rw [b9h];omega
 have hx:Ext M w M (grow (w.drewN k) os):=⟨⟨[],si_⟩,fun _ h=>h,fun _ _ h=>.inr h,fun b h=>bP b (hr.blk b 0 (.inl h)),fun b o h=>M8 (bP b (hr.blk b o (.inr h))),aI,T1,rfl,rfl,rfl,fun b h=>⟨h,bP b (hr.kep b h),id,fun _=>id⟩⟩;refine ⟨hx,hr.len,fun b o h=>a8L (hr.blk b o h) aI,fun j p ob hp hs=>?_,hr.inj,fun g cells hg=>(hr.glob g cells hg).mono hx,fun b h=>a8L (hr.kep b h) aI,hr.nk⟩;obtain ⟨h1,h2⟩:=hr.obj j p ob hp hs;refine ⟨?_,h2⟩;by_cases hl:ob.live=true
 ·exact h1.mono hx (bP _ (h1.lt hl)) (fun _ _ _ _ h=>h)
 ·cases ob<;>first | trivial | simp [b9.live] at hl
theorem b0J {C:Ctx} {f:FuncId} {args:List CV} {v:Value} (h:∀ (M:A9) (σ:List b9) (w:World) (vs:Array Value),Rel C M σ w->vs.size=args.length->(∀ (i:Nat) (c:CV),args[i]? = some c->RV M w c (vs.getD i undef)) ->
 Calls C.P f vs w fun e w'=>e = .returned v/\∃ k os,w'=grow (w.drewN k) os) (σ:List b9):b8 C f args σ fun r Y=>r = .ret (.val v)/\Y=σ:=fun M w vs hr hn hx=>by
 refine (h M σ w vs hr hn hx).mono fun e w' ⟨he,k,os,hw⟩=>?_;subst he hw;obtain ⟨h1,h2⟩:=a5E hr k os;exact ⟨_,_,_,h1,h2,.val _,rfl,rfl⟩
theorem GV.tab {C:Ctx} {M:A9} {w:World} {name:String} {g:Nat} {k:IntKind} {zs:List Int} (hg:GV M w (zs.map fun z=>.val (.int k z)) g) (hn:C.P.globalNamed name=some g):Lib.TabIs C.P w name k zs:=by
 obtain ⟨arr,ty,fr,h1,h2⟩:=hg.sz;have he:arr=(zs.map fun z=>Value.int k z).toArray:=by
  have hc:=hg.rv;generalize hv:Value.pointer (some ⟨g,0,none⟩)=v at hc;cases hc with
  | cptr vals q1 q2 q3 =>
   injection hv with hv
   injection hv with hv
   injection hv with e1 e2 e3
   subst e1;refine b5g fun i=>?_;by_cases hi:i < zs.length
   ·have hci:(zs.map fun z=>CV.val (.int k z))[i]? = some (.val (.int k zs[i])):=by rw [O5,a09 hi];rfl
    have hz:=(q2 i _ hci).2;have hy:=r3 (q3 i _ hci);rw [hy] at hz;simp only [<- e2,L7] at hz;simp only [World.cell?,h1,Option.isSome_none,b9D,if_false] at hz;rw [hz];simp [hi]
   ·have:arr.size<=i:=by rw [h2];simp;omega
    rw [a9E this,a9E L4]
 unfold Lib.TabIs World.var?;rw [hn];simp only [n_9,h1,he]
end Go.Cl
namespace Go.Cl
variable {t e t':TypeId} {x y:Operand} {c c':CV} {α:Type} {C:Ctx} {K:W5->List b9->Prop} {f:FuncId} {l:List Oper} {E:Env} {n k s:Nat} {P:α->Prop} {args:List CV} {o:Oper} {ob:b9} {z:Value} {V:List (List CV)} {M:A9} {σ:List b9} {w:World} {b:Bool}
section
theorem b5B {f : FuncId} {fn : Func} {ps : Array TypeId} {t e : TypeId} {ts : Array TypeId} {x : Operand} {n : Nat} {K : W5 → List b9 → Prop} (ho : o.op = .call { callee := .value (.func f), args := #[x], argTypes := ts }) (hf : C.P.funcs[f]? = some fn) (dq : (fn.name == "runtime.NumGoroutine") = false) (hb : fn.body.isNone = true) (hn : Extern.findNext fn = none) (he : Extern.find fn = some (Extern.BytealgMakeNoZero.makeNoZero ps #[t]))
 (ht:C.P.underlying t=some (.slice e)) (hx:E.valid x) (ex:E.val C x = .val (.int .i64 n)) (dw:n<=140737488355328) (h:K (.ret (.vec σ.length 0 n)) (σ++[.tipT (some e) 0])):G9 C σ E o K:=fun M w ρ hr hh=>by
 have h1:=r3 (ex ▸ hh x H9 hx);have cB:=r3 (hh (.func f) H9 tt);obtain ⟨cs,au,aP,bi⟩:=Lib.run_makeNoZero (P:=C.P) w ps t e ht n om_;have hc:=a16 (args:=#[.int .i64 n]) (v:=.slice (some ⟨w.heap.size,0,none⟩) n cs.size) (w:=w) hf dq hb hn he;have aA:(callFunc f #[.int .i64 n]).run C.P w = .ok (.value (.slice (some ⟨w.heap.size,0,none⟩) n cs.size)) (w.drew.drew.alloc (.cells cs e)):=by
  simp only [callFunc,Sem.run_bind,run_program,Result.andThen_ok,hf,dq,hb,hn,he];simp [au]
 have dD:(execOp ρ o).run C.P w = .ok (.value (.slice (some ⟨w.heap.size,0,none⟩) n cs.size)) (w.drew.drew.alloc (.cells cs e)):=by
  simp [execOp,ho,resolve,cB,h1,Deferred.ofValue,invoke,aA]
 rw [dD];obtain ⟨aF,bb⟩:=hr.drewN;obtain ⟨aV,aK⟩:=aF.drewN;have hcm:cs.size<=maxLen:=bi (by unfold maxLen;omega);have fO:=Ext.alloc aV ⟨w.heap.size,cs.size,1⟩ (.cells cs e);have eW:=aV.alloc ⟨w.heap.size,cs.size,1⟩ (.cells cs e) (.tipT (some e) 0) rfl ⟨n_4 _,hcm,⟨fun o' ho'=>by have:=aV.blk _ _ (.inr ho');simp only at this;exact absurd this (Nat.lt_irrefl _),fun _=>rfl⟩,cs,e,B0 _ _,si_⟩;refine ⟨_,_,_,(bb.trans aK).trans fO,eW,?_,h⟩;have hp:(M.add ⟨w.heap.size,cs.size,1⟩).pl[σ.length]? = some ⟨w.heap.size,cs.size,1⟩:=by simp [A9.add,<- hr.len]
 have:=RV.vec (w:=w.drew.drew.alloc (.cells cs e)) (off:=0) (len:=n) (a:=⟨w.heap.size,0,none⟩) hp (sp_ aP) hcm (fun _=>by simp);simpa using this
theorem b9p {v:Operand} {kd:IntKind} (ho:o.op = .slice t x none (some v) none) (hx:E.valid x) (hv:E.valid v) (ex:E.val C x = .vec k 0 n) (ev:E.val C v = .val (.int kd 0)) (hn:1<=n) (hu:∀ w,(underlying t).run C.P w = .ok (.slice e) w) (hs:∀ w,(sizeOf e).run C.P w = .ok s w):l8 C σ E o (.list [] true (some k)) :=
 i7 fun M w ρ hr hh=>by
  have aC:=hh x w9 hx;have fu:=r3 (ev ▸ hh v w9 hv);rw [ex] at aC;generalize hw:ρ x=u at aC;cases aC with
  | vec hp g1 g2 g3 =>
   rename_i p a;have hc:0 < p.cap:=by omega
   have ha:=g3 hc;rw [Nat.zero_mul] at ha;subst ha;have hb:(Instr.sliceBounds true n (p.cap - 0) none (some (.int kd 0)) none).run C.P w = .ok (0,0,p.cap - 0) w:=by
    simp [Instr.sliceBounds,Instr.sliceBound,asIntOf]
   have az:¬ p.cap=0:=by omega
   have au:(execOp ρ o).run C.P w = .ok (.value (.slice (some ⟨p.block,0,none⟩) 0 p.cap)) w:=by
    simp only [Nat.sub_zero] at hb hw;simp [execOp,ho,Instr.sliceAt,Instr.slice,hu,hw,fu,hb,hs,az,T5]
   refine ⟨_,au,?_⟩;exact RV.list' (L:=0) (b:=p.block) (off:=0) (s:=0) rfl (fun _ _=>undef) (n_4 _) g2 rfl (fun h=>by cases h) a0B (fun r hr=>by simp at hr) (fun r hr=>by simp at hr) (fun i j r c hi=>by simp at hi) (fun i j r c hi=>by simp at hi) (fun k' aJ=>by
    injection aJ with aJ
    subst aJ;exact ⟨p.size,hp,rfl,rfl,fun h=>absurd rfl h⟩)
theorem d4P {tok:Option Nat} (ho:o.op = .call { callee:=.builtin .copy,args:=#[x,y],argTypes:=#[t,t']}) (hx:E.valid x) (hy:E.valid y) (ex:E.val C x = .list [] true tok) (ey:E.val C y = .list [] false none)
 (hu:∀ w,(underlying t).run C.P w = .ok (.slice e) w) (hs:∀ w,(sizeOf e).run C.P w = .ok s w) (h:K (.ret (.val (.int .i64 0))) σ):G9 C σ E o K:=fun M w ρ hr hh=>by
 have h1:=hh x H9 hx;have h2:=hh y H9 hy;rw [ex] at h1;rw [ey] at h2;obtain ⟨a,cap,b,off,s1,vals,hv,_,_,eb,_⟩:=h1.list_inv;obtain ⟨a2,cap2,b2,off2,s2,vals2,cy,_,_,hnn2,_⟩:=h2.list_inv;have ha2:a2=none:=by cases a2<;>first|rfl | simp at hnn2
 obtain ⟨a1,ha1⟩:∃ a1,a=some a1:=by cases a with | none=>simp at eb | some a=>exact ⟨a,rfl⟩
 subst ha2 ha1;have au:(execOp ρ o).run C.P w = .ok (.value (.int .i64 0)) w:=by
  simp [execOp,ho,resolve,invoke,builtin,hv,cy,Builtin.copy_,Builtin.lenOf,Builtin.firstCells,hu,hs,storeCells,goInt]
 rw [au];exact ⟨_,_,_,Ext.refl _ _,hr,.val _,h⟩
theorem c9R (ho:o.op = .call { callee:=.builtin .cap,args:=#[x],argTypes:=#[t]}) (hx:E.valid x) (ex:E.val C x = .list [] false none) (hu:∀ w,(underlying t).run C.P w = .ok (.slice e) w):l8 C σ E o (.val (.int .i64 0)) :=
 i7 fun M w ρ _ h=>by
  have h1:=h x H9 hx;rw [ex] at h1;obtain ⟨a,cap,b,off,s,vals,hv,_,_,_,dw,_⟩:=h1.list_inv;have:=dw rfl;subst this;exact ⟨.int .i64 0,by simp [execOp,ho,resolve,invoke,builtin,Builtin.cap_,hu,hv,goInt],.val _⟩
theorem d4D {t2:TypeId} {new:Str} {p:Nat} {ti:TypeInfo} (ho:o.op = .call { callee:=.builtin .append,args:=#[x,y],argTypes:=#[t,t2]}) (hx:E.valid x) (hy:E.valid y) (ex:E.val C x = .list [] true (some p))
 (aQ:∀ M w v,Rel C M σ w->RV M w (E.val C y) v->c1y C w M (new.map bcv) 1 v) (hu:∀ w,(underlying t).run C.P w = .ok (.slice e) w) (hs:∀ w,(sizeOf e).run C.P w = .ok 1 w) (df:∀ w,(typeInfo e).run C.P w = .ok ti w) (hz:∀ w,(zeroValue e).run C.P w = .ok z w) (bI:z.cells.size=1)
 (dy:(∀ w,(underlying t2).run C.P w = .ok (.slice e) w)\/∀ w,(underlying t2).run C.P w = .ok .string w) (hb1:ti.bytes=1)
 (cb:σ[p]? = some (.tipT (some e) 0)) (az:new≠[]) (hb:new.length<=140737488355328)
 (hk:K (.ret (a0Y new σ.length)) (σ.set p .dead++[A3 e new.length])):G9 C σ E o K:=by
 have gY:new.map bcv≠[]:=sp_ az;refine b1I ho hx hy ex aQ hu hs df hz bI dy (.inr rfl) a0B (.inr ⟨rfl,rfl,p,rfl,cb⟩) si_ gY (by rw [hb1];simp only [O3,I8];omega) (by simp only [O3,I8];omega) ?_
 rcases new with _ | ⟨c,new⟩
 ·exact absurd rfl az
 ·have e1:([]:List (List CV)).length+((c::new).map bcv).length=new.length+1:=by simp
  rw [e1,a2e];exact hk
end
section
theorem wr8 {z:Int} (h0:0<=z) (h1:z < 256):IntKind.u8.wrap z=z:=by
 have:z%256=z:=Int.emod_eq_of_lt h0 h1;simp [IntKind.wrap,IntKind.signed,IntKind.bits];omega
theorem d9J {a b:Nat} (ho:o.op = .binOp .or t x y t') (hx:E.valid x) (hy:E.valid y) (ex:E.val C x = .val (.int .u8 (a:Int))) (ey:E.val C y = .val (.int .u8 (b:Int))) (ha:a < 256) (hb:b < 256):l8 C σ E o (.val (.int .u8 ((a ||| b:Nat):Int))) :=
 i7 fun M w ρ _ h=>by
  have h1:=h x w9 hx;have h2:=h y w9 hy;rw [ex] at h1;rw [ey] at h2;have e1:∀ n:Nat,n < 256->(BitVec.ofInt 8 (n:Int)).toNat=n:=fun n hn=>by
   rw [BitVec.ofInt_natCast,BitVec.toNat_ofNat];exact b5l om_
  have e2:a ||| b < 2^8:=Nat.or_lt_two_pow om_ om_;have e3:(BitVec.ofInt IntKind.u8.bits (a:Int) ||| BitVec.ofInt IntKind.u8.bits (b:Int)).toNat=a ||| b:=by
   show (BitVec.ofInt 8 (a:Int) ||| BitVec.ofInt 8 (b:Int)).toNat=_;rw [BitVec.toNat_or,e1 a ha,e1 b hb]
  have e4:(Op.intBits .or .u8 (a:Int) (b:Int)).run C.P w = .ok (.int .u8 ((a ||| b:Nat):Int)) w:=by
   unfold Op.intBits;simp only [Sem.run_pure,e3];rw [wr8 om_ om_]
  refine ⟨_,?_,.val _⟩;simp [execOp,ho,r3 h1,r3 h2,eqGuard,binOp,e4]
theorem d8o {k k':IntKind} {a b:Int} {m:Nat} (ho:o.op = .binOp .shr t x y t') (hx:E.valid x) (hy:E.valid y) (ex:E.val C x = .val (.int k a)) (ey:E.val C y = .val (.int k' (m:Int))) (hk:m<=k.bits) (hb:a / 2^m=b):l8 C σ E o (.val (.int k b)) :=
 i7 fun M w ρ _ h=>by
  have h1:=h x w9 hx;have h2:=h y w9 hy;rw [ex] at h1;rw [ey] at h2;refine ⟨.int k b,?_,.val _⟩;have e:min (m:Int).toNat k.bits=m:=by rw [a2c];omega
  have h0:¬ ((m:Int) < 0):=by omega
  have e2:a.fdiv (2^m)=b:=by
   have:(0:Int)<=2^m:=Int.le_of_lt (Int.pow_pos de_);rw [Int.fdiv_eq_ediv_of_nonneg _ this,hb]
  have e3:min m k.bits=m:=by omega
  simp [execOp,ho,r3 h1,r3 h2,eqGuard,binOp,Op.shift,e3,e2];intro h;omega
end
section
theorem S6 {cx:Operand} {xs:Array Operand} {ts:Array TypeId} {av aB:List CV} {c:α->CV} {S:α->List b9} (ho:o.op = .call { callee:=.value cx,args:=xs,argTypes:=ts}) (hc:E.valid cx) (ec:E.val C cx = .clo f aB) (aA:∀ args w,(callFunc f args).run C.P w = .ok (.enter f args) w)
 (hv:E.valids xs.toList) (h:b8 C f (av++aB) σ fun r Y=>∃ a,r = .ret (c a)/\Y=S a/\P a) (ea:E.vals C xs.toList=av) (hk:∀ a,P a->K (.ret (c a)) (S a)):G9 C σ E o K :=
 b3o ho hc ec aA (Env.valids_mem hv) (Env.vals_map _) (ea ▸ h.mono fun r Y hh=>by
  obtain ⟨a,rfl,rfl,hp⟩:=hh;exact hk a hp)
theorem c3a {v:Value} (ho:o.op = .buildSlice t 1 #[(0,x)]) (hx:E.valid x) (ex:E.val C x = .val v) (hv:v.oneCell'=true) (hu:∀ w,(underlying t).run C.P w = .ok (.slice e) w) (hs:∀ w,(sizeOf e).run C.P w = .ok 1 w) (hz:∀ w,(zeroValue e).run C.P w = .ok z w) (bO:z.oneCell'=true)
 (hk:K (.ret (.list [[.val v]] true (some σ.length))) (σ++[.tip 1])):G9 C σ E o K:=fun M w ρ hr hh=>by
 have h1:=r3 (ex ▸ hh x w9 hx);have hvc:v.cells = #[v]:=by cases v<;>first|rfl | simp [Value.oneCell'] at hv
 have hzc:z.cells = #[z]:=by cases z<;>first|rfl | simp [Value.oneCell'] at bO
 have au:(execOp ρ o).run C.P w = .ok (.value (.slice (some ⟨w.heap.size,0,none⟩) 1 1)) (w.alloc (.cells #[v] e)):=by
  have er:Array.range 1 = #[0]:=rfl;simp only [execOp,ho,Instr.buildSlice,Sem.run_bind,hu,Result.andThen_ok,hs];simp [er,Instr.fill,newRow,h1,hvc,hz]
 rw [au];have aK:=Ext.alloc hr ⟨w.heap.size,1,1⟩ (.cells #[v] e);have aV:=hr.alloc ⟨w.heap.size,1,1⟩ (.cells #[v] e) (.tip 1) rfl ⟨n_7 _,by unfold maxLen;simp,⟨fun o ho=>by
  have:=hr.blk w.heap.size o (.inr ho);omega,fun h=>by cases h⟩,#[v],e,B0 _ _,rfl⟩
 have hp:(M.add ⟨w.heap.size,1,1⟩).pl[σ.length]? = some ⟨w.heap.size,1,1⟩:=by simp [A9.add,<- hr.len]
 obtain ⟨fO,eW⟩:=aV.settleCells hp (by simp:(σ++[b9.tip 1])[σ.length]? = some (.tipT none 1));refine ⟨_,_,_,aK.trans fO,eW,?_,hk⟩;refine RV.list (V:=[[.val v]]) (b:=w.heap.size) (off:=0) (s:=1) (fun _ _=>v) (n_7 _) (by unfold maxLen;simp) rfl (fun h=>by cases h) a0B (fun r hr=>by simp at hr;subst hr;rfl) (fun r hr c hc=>by simp at hr;subst hr;simp at hc;subst hc;exact hv) (fun i j r c hi hj=>?_) (fun i j r c hi hj=>?_) (fun k hk=>?_)
 ·rcases i with _ | i
  ·injection hi with hi
   subst hi
   rcases j with _ | j
   ·refine ⟨.inr (.inr ⟨rfl,si_⟩),?_⟩;show (match (w.alloc (.cells #[v] e)).heap[w.heap.size]? with | some (.cells c _ _)=>c[0]? | _=>none)=some v;rw [B0];rfl
   ·simp at hj
  ·simp at hi
 ·rcases i with _ | i
  ·injection hi with hi
   subst hi
   rcases j with _ | j
   ·injection hj with hj
    subst hj;exact .val _
   ·simp at hj
  ·simp at hi
 ·injection hk with hk
  subst hk;exact ⟨1,hp,rfl,rfl,fun _=>rfl⟩
end
theorem d5x {c:α->CV} (hC:C.plain) (ao:∀ a∈args,r4 a) (hc:∀ a,r4 (c a)) (h:b8 C f args [] fun r τ=>∃ a,E8 0 τ r (.ret (c a)) []/\P a) (σ:List b9):b8 C f args σ fun r τ=>∃ a,r = .ret (c a)/\τ=σ/\P a :=
 b18 (obs:=[]) (obs':=[]) [] hC rfl (by intro i j k h1;simp at h1) (fun i k ob h1=>by simp at h1) (L3 ao) (fun a _=>hc a) (I5 hC (h.mono fun r τ ⟨a,h1,h2⟩=>⟨_,_,h1,a,rfl,rfl,h2⟩))
theorem c7a (hC:C.plain) (ao:∀ a∈args,r4 a) (hc:r4 c) (h:b8 C f args [] fun r τ=>E8 0 τ r (.ret c) []) (σ:List b9):b8 C f args σ fun r τ=>r = .ret c/\τ=σ :=
 (d5x (α:=Unit) (c:=fun _=>c) (P:=fun _=>True) hC ao (fun _=>hc) (h.mono fun _ _ hh=>⟨(),hh,tt⟩) σ).mono fun _ _ ⟨_,h1,h2,_⟩=>⟨h1,h2⟩
theorem a7F {c:α->CV} {S:α->b9} (hC:C.plain) (ao:∀ a∈args,r4 a) (hc:∀ a,r4 (c a)) (hS:∀ a,a6s (S a)) (hob:a6s ob) (cg:ob.live=true)
 (h:b8 C f (.ptr 0 0::args) [ob] fun r τ=>∃ a,E8 1 τ r (.ret (c a)) [S a]/\P a) (σ:List b9) (q:Nat) (hq:σ[q]? = some ob):b8 C f (.ptr q 0::args) σ fun r Y=>∃ a,r = .ret (c a)/\Y=σ.set q (S a)/\P a :=
 a6r hC ao hc hS hob cg (I5 hC (h.mono fun _ _ ⟨a,h1,h2⟩=>⟨_,_,h1,a,rfl,rfl,h2⟩)) σ q hq
theorem d4g {τ:List b9} (h:C7 0 [] c c'):E8 0 τ (.ret c) (.ret c') []:=⟨[],rfl,rfl,.ret h,tt⟩
theorem a2h {τ rest:List b9} (hτ:τ=ob::rest) (ho:I0 1 ob) (h:C7 1 [0] c c'):E8 1 τ (.ret c) (.ret c') [ob]:=by
 subst hτ;exact ⟨[0],rfl,rfl,.ret h,.inr ⟨_,rfl,.same rfl ho⟩,tt⟩
theorem b4U {R:Nat->Nat->Prop} (h:∀ r∈V,∀ c∈r,r4 c):I4 R (.vec s V) (.vec s V) :=
 .vec rfl fun i r r' h1 h2=>by
  rw [h1] at h2;injection h2 with h2;subst h2
  exact L3 (h r (n_2 h1))
theorem c0m {g:α->Bool} {rows':α->List (List CV)} {off len:α->Nat} (hC:C.plain) (hp:∀ r∈V,∀ c∈r,r4 c) (ao:∀ a∈args,r4 a)
 (aH:∀ a,P a->∀ r∈rows' a,∀ c∈r,r4 c)
 (h:b8 C f (.vec 0 0 n::args) [.vec s V] fun r τ=>∃ a,E8 1 τ r (.ret (.vec (if g a=true then 1 else 0) (off a) (len a))) (if g a=true then [.dead,.vec s (rows' a)] else [.vec s (rows' a)])/\P a) {σ:List b9} {q:Nat} (hq:σ[q]? = some (.vec s V)) :
 b8 C f (.vec q 0 n::args) σ fun r τ=>∃ a,r = .ret (.vec (if g a=true then σ.length else q) (off a) (len a))/\τ=(if g a=true then σ.set q .dead++[.vec s (rows' a)] else σ.set q (.vec s (rows' a)))/\P a:=by
 have hql:=(n_3.1 hq).1;have h':b8 C f (.vec 0 0 n::args) [.vec s V] fun r τ=>∃ a,r = .ret (.vec (if g a=true then 1 else 0) (off a) (len a))/\τ=(if g a=true then [.dead,.vec s (rows' a)] else [.vec s (rows' a)])/\P a :=
  I5 hC (h.mono fun r τ ⟨a,k1,k2⟩=>⟨_,_,k1,a,rfl,rfl,k2⟩)
 refine I3 [q] hC rfl (fun i j k g1 g2=>?_) (fun i k ob g1 g2=>?_) (.cons (.vec rfl) (L3 ao)) h' fun r τ hk=>?_
 ·rcases i with _ | i<;>rcases j with _ | j<;>simp at g1 g2<;>rfl
 ·rcases i with _ | i
  ·simp at g1 g2;subst g1 g2;exact ⟨_,hq,b4U hp⟩
  ·simp at g1
 ·obtain ⟨a,rfl,rfl,hpa⟩:=hk;by_cases hg:g a=true
  all_goals simp only [hg,if_true,if_false,b9D]
  rotate_left
  ·refine ⟨si_,.ret (.vec q (off a) (len a)),σ.set q (.vec s (rows' a)),.ret (.vec (.inl si_)),si_,fun k hk bA=>?_,fun i k x ha hx=>?_,a,by simp [hg],by simp [hg],hpa⟩
   ·have n1:q≠k:=fun e=>bA a1Q;simp [n1]
   ·rcases ha with ha | ⟨ha,rfl⟩
    ·rcases i with _ | i
     ·simp at ha hx;subst ha hx;exact ⟨_,by simp [hql],b4U (aH a hpa)⟩
     ·simp at ha
    ·rcases i with _ | i
     ·simp at ha
     ·simp at hx
  ·refine ⟨si_,.ret (.vec σ.length (off a) (len a)),σ.set q .dead++[.vec s (rows' a)],.ret (.vec (.inr ⟨si_,si_⟩)),si_,fun k hk bA=>?_,fun i k x ha hx=>?_,a,by simp [hg],by simp [hg],hpa⟩
   ·have n1:q≠k:=fun e=>bA a1Q;rw [R3 (sp_ hk)];simp [n1]
   ·rcases ha with ha | ⟨ha,rfl⟩
    ·rcases i with _ | i
     ·simp at ha hx;subst ha hx;exact ⟨.dead,by rw [R3 (sp_ hql)];simp [hql],.dead⟩
     ·simp at ha
    ·rcases i with _ | _ | i
     ·simp at ha
     ·simp at hx;subst hx;exact ⟨_,by rw [a1f si_];simp,b4U (aH a hpa)⟩
     ·simp at hx
def ShV (k q:Nat) (c c':CV):Prop:=c=c'\/(∃ o n,c = .vec k o n/\c' = .vec q o n)\/∃ l nn,c = .list l nn (some k)/\c' = .list l nn (some q)
theorem Rel.shift {p:Pl} (hr:Rel C M σ w) (hk:σ[k]? = some ob) (hp:M.pl[k]? = some p):Rel C { M with pl:=M.pl++[p]} (σ.set k .dead++[ob]) w/\Ext M w { M with pl:=M.pl++[p]} w:=by
 obtain ⟨h1,h2⟩:=hr.addDead p;refine ⟨?_,h2⟩;have ab:k < σ.length:=(n_3.1 hk).1;have hl:=hr.len;have key:∀ (i:Nat) (q:Pl) (aG:b9),(M.pl++[p])[i]? = some q->(σ.set k .dead++[ob])[i]? = some aG->aG = .dead\/∃ j,(σ++[.dead])[j]? = some aG/\(M.pl++[p])[j]? = some q/\j < σ.length/\((i=j/\i≠k)\/(i=σ.length/\j=k)):=by
  intro i q aG hq hi
  rcases Nat.lt_trichotomy i σ.length with h | h | h
  ·rw [R3 (sp_ h),b0A] at hi;by_cases hik:k=i
   ·rw [n_1 hik,n_1 ab] at hi;injection hi with hi
    exact .inl hi.symm
   ·rw [n_0 hik] at hi;exact .inr ⟨i,by rw [R3 h];exact hi,hq,h,.inl ⟨rfl,fun e=>hik e.symm⟩⟩
  ·have e1:(σ.set k .dead++[ob])[i]? = some ob:=by rw [h];simp
   have e2:(M.pl++[p])[i]? = some p:=by rw [h,<- hl];simp
   rw [e1] at hi;rw [e2] at hq;injection hi with hi;injection hq with hq
   subst hi hq;exact .inr ⟨k,by rw [R3 ab];exact hk,by rw [R3 om_];exact hp,ab,.inr ⟨h,rfl⟩⟩
  ·rw [b0N L4] at hi;cases hi
 refine ⟨sp_ hl,h1.blk,fun i q aG hq hi=>?_,fun i i' q q' ob1 ob2 hq fM hi bd hv fu hb=>?_,h1.glob,h1.kep,fun i q aG hq hi hv=>?_⟩
 ·rcases key i q aG hq hi with rfl | ⟨j,g1,g2,_⟩
  ·exact ⟨tt,tt⟩
  ·exact h1.obj j q aG g2 g1
 ·rcases key i q ob1 hq hi with rfl | ⟨j,g1,g2,g3,g4⟩
  ·cases hv
  ·rcases key i' q' ob2 fM bd with rfl | ⟨j',gJ,ia,g3',g4'⟩
   ·cases fu
   ·have:=h1.inj j j' q q' ob1 ob2 g2 ia g1 gJ hv fu hb;omega
 ·rcases key i q aG hq hi with rfl | ⟨j,g1,g2,_⟩
  ·cases hv
  ·exact h1.nk j q aG g2 g1 hv
theorem K5.shift {q t:Nat} {a:Act} {p:Pl} (hf:K5 { M with pl:=M.pl++[p]} w n E a) (hp:(M.pl++[p])[k]? = some p) (hq:(M.pl++[p])[q]? = some p) (ht:E.ok t) (hc:ShV k q (E.f t) c'):K5 { M with pl:=M.pl++[p]} w n (E.put (some t) c' True) a:=by
 have bj:RV { M with pl:=M.pl++[p]} w c' (a.tmps.getD t undef):=by
  have h3:=hf.rv t ht
  rcases hc with e | ⟨o,m,e1,e2⟩ | ⟨l,nn,e1,e2⟩
  ·rw [<- e];exact h3
  ·rw [e1] at h3;rw [e2];generalize a.tmps.getD t undef=u at h3;cases h3 with
   | vec g1 g2 g3 g4 =>
    have gJ:(M.pl++[p])[k]? = some _:=g1;rw [hp] at gJ;injection gJ with gJ
    subst gJ;exact .vec (p:=p) hq g2 g3 g4
  ·rw [e1] at h3;rw [e2];generalize a.tmps.getD t undef=u at h3;cases h3 with
   | list v g1 g2 g3 g4 g5 g6 g7 g8 g9 g10 =>
    refine .list v g1 g2 g3 g4 g5 g6 g7 g8 g9 fun j hj=>?_;injection hj with hj
    subst hj;obtain ⟨c0,u1,u2,u3,u4⟩:=g10 k rfl;rw [hp] at u1;injection u1 with u1
    subst u1;exact ⟨c0,hq,u2,u3,u4⟩
 refine ⟨hf.defers,hf.size,fun x hx=>?_,fun x hx=>?_⟩
 ·rw [Env.putO_f];rw [Env.putO_ok] at hx;by_cases e:x=t
  ·rw [n_1 e,e];exact bj
  ·rw [n_0 e] at hx ⊢;exact hf.rv x hx
 ·rw [Env.putO_un] at hx;by_cases e:x=t
  ·rw [n_1 e] at hx;exact absurd trivial hx
  ·rw [n_0 e] at hx;exact hf.un x hx
theorem a5V {Q:D5->Env->List b9->Prop} {c:Code} (hC:C.plain) (L:Nat) (hL:Nat.beq L σ.length=true) (k t:Nat) (c':CV) (hk:σ[k]? = some ob) (ht:E.ok t) (hc:ShV k L (E.f t) c') (l:α->List (Nat × CV)) (S:α->List b9) (I:α->Prop) (m:α->Nat) (h0:a9a L l S I (E.put (some t) c' True) (σ.set k .dead++[ob]))
 (cL:∀ (a:α),I a->CWp C n c (D5.next (a9a L l S fun a'=>m a' < m a/\I a') Q) (Env.only (l a)) (S a)):CWp C n (.loop c) Q E σ:=fun M w a hr hf=>by
 intro b k0 cs;have hL:=a3U hL;have key:∀ d (x:α) M1 w1 a1,m x=d->I x->Ext M w M1 w1->Rel C M1 (S x) w1->K5 M1 w1 n (Env.only (l x)) a1 ->
  ∃ e a' w',W2 C n Q M w e a' w'/\Arrives C.P (lone (b.at a1 (.code c::.inLoop c::k0)) cs w1) b k0 cs e a' w':=by
  intro d
  induction d using Nat.strongRecOn with
  | _ d ih =>
   intro x M1 w1 a1 hd hI hx aF dE;obtain ⟨e,a2,w2,hq,ax⟩:=cL x hI M1 w1 a1 aF dE b (.inLoop c::k0) cs;obtain ⟨E',Y,M',h1,h2,h3,h4⟩:=hq;cases e with
   | normal =>
    obtain ⟨x',ak,⟨ab,hI'⟩,⟨g1,g2⟩,hE',hS⟩:=h4;have aC:=hx.trans h1;have gB:L<=M'.pl.length:=by
     obtain ⟨l,hl⟩:=aC.pl;rw [hl];simp;rw [hr.len,hL];omega
    obtain ⟨dF,dG,dH,ce,aZ⟩:=ih (m x') om_ x' _ w2 a2 rfl hI' (aC.ren g1 (by rw [hr.len,hL])) (h2.ren hC g1 g2 gB hS) (h3.onlyR g1 gB hE');exact ⟨dF,dG,dH,ce,.of_steps (Steps.trans ax (.one step_inLoop)) aZ⟩
   | outgrown=>exact h4.elim
   | _=>exact ⟨_,a2,w2,⟨E',Y,M',hx.trans h1,h2,h3,h4⟩,.pass (x:=.inLoop c) rfl (fun _ _=>.inl si_) ax⟩
 obtain ⟨x,ak,hP,⟨g1,g2⟩,hE,hS⟩:=h0;have ab:k < σ.length:=(n_3.1 hk).1;obtain ⟨p,hp⟩:∃ p,M.pl[k]? = some p:=⟨M.pl[k]'(by rw [hr.len];exact ab),si_⟩;obtain ⟨h1,h2⟩:=hr.shift hk hp;have hf':=(hf.mono h2).shift (k:=k) (q:=L) (by rw [R3 (by rw [hr.len];exact ab)];exact hp) (by rw [hL,<- hr.len];simp) ht hc;have gB:L<=(M.pl++[p]).length:=by rw [n_6,hr.len,hL];omega
 obtain ⟨e,a',w',hq,ax⟩:=key _ x _ w a rfl hP (h2.ren g1 (by rw [hr.len,hL])) (h1.ren hC g1 g2 gB hS) (hf'.onlyR g1 gB hE);exact ⟨e,a',w',hq,.of_steps (.one step_loop) ax⟩
theorem a5H {m q:Nat}:ShV k q (.list V (gnn m) (C2 m k)) (.list V (gnn m) (C2 m q)):=by
 cases m
 ·exact .inl rfl
 ·exact .inr (.inr ⟨_,_,rfl,rfl⟩)
section
theorem a5W {cx:Operand} {xs:Array Operand} {ts:Array TypeId} {av:List CV} {c:α->CV} {S:α->List b9} (ho:o.op = .call { callee:=.value cx,args:=xs,argTypes:=ts}) (hc:E.valid cx) (ec:E.val C cx = .val (.func (.func f) #[] #[])) (aA:∀ args w,(callFunc f args).run C.P w = .ok (.enter f args) w)
 (hv:E.valids xs.toList) (h:b8 C f av σ fun r Y=>∃ a,r = .ret (c a)/\Y=S a/\P a) (ea:(E.vals C xs.toList).map CV.fgt=av) (hk:∀ a,P a->K (.ret (c a)) (S a)):G9 C σ E o K :=
 c2g ho hc ec aA (Env.valids_mem hv) (Env.vals_map _) ((a1Z (ea ▸ h)).mono fun r Y hh=>by
  obtain ⟨a,rfl,rfl,hp⟩:=hh;exact hk a hp)
end
theorem b9c {β:Type} {kc:α->CV} {vc:β->CV} (hk:∀ a,r4 (kc a)) (hv:∀ b,r4 (vc b)) (n:Nat) (a b:List (α × β)):I0 n (.iter (gm kc vc a) (gm kc vc b)):=⟨fun x hx=>by
 obtain ⟨y,_,rfl⟩:=F4.1 hx;exact ⟨(hk _).old,(hv _).old⟩,fun x hx=>by
 obtain ⟨y,_,rfl⟩:=F4.1 hx;exact ⟨(hk _).old,(hv _).old⟩⟩
theorem b0E {α:Type}:∀ {l:List α} {i:Nat} {x:α},l[i]? = some x->(x::l.eraseIdx i).Perm l
 | [],_,_,h=>by cases h
 | y::l,0,x,h=>by injection h with h;subst h;exact .refl _
 | y::l,i+1,x,h=>by
  rw [List.eraseIdx_cons_succ];exact (List.Perm.swap y x _).trans ((b0E (l:=l) (i:=i) h).cons y)
theorem b78 {β:Type} {left:List (α × β)} {i:Nat} {q:α} {e:β} {aw:List β} (h:left[i]? = some (q,e)):(aw++[e]++(left.eraseIdx i).map Prod.snd).Perm (aw++left.map Prod.snd):=by
 rw [D7];exact ((b0E h).map Prod.snd).append_left aw
def c8u:List (Nat × TyE)->Nat->Option TyE
 | [],_=>none
 | (k,e)::l,t=>match Nat.beq k t with
  | true=>some e
  | false=>c8u l t
theorem b2d {t:Nat} {e:TyE}:∀ {l:List (Nat × TyE)},c8u l t=some e->(t,e)∈l
 | [],h=>by cases h
 | (k,x)::l,h=>by
  unfold c8u at h;split at h
  ·rename_i hb;obtain rfl:=a3U hb;injection h with h;subst h
   exact b1X
  ·exact a8g _ (b2d h)
def tyB (P:Program) (x:Nat × TyE):Bool:=match P.info? x.1,P.underlying x.1 with
 | some i,some d=>Nat.beq i.size x.2.size && match d with
  | .struct fs=>x.2.agg && (List.range x.2.offs.length).all fun i=>match fs[i]? with
   | some fd=>Nat.beq fd.offset (x.2.offs.getD i 0) && match P.info? fd.type with
    | some j=>Nat.blt 0 j.size
    | none=>false
   | none=>false
  | .array _ _=>x.2.agg && x.2.offs.isEmpty
  | _=>!x.2.agg && x.2.offs.isEmpty
 | _,_=>false
theorem b7P {P:Program} {i:TypeInfo} (h:P.info? t=some i) (w:World):(sizeOf t).run P w = .ok i.size w:=by simp [sizeOf,typeInfo,h]
theorem c1M {P:Program} {d:TypeDesc} (h:P.underlying t=some d) (w:World):(underlying t).run P w = .ok d w:=by simp [underlying,h]
def e1b:TypeDesc->Bool
 | .struct _ | .array _ _=>true
 | _=>false
theorem b41 {P:Program} {d:TypeDesc} (h:P.underlying t=some d) (w:World):(isAgg t).run P w = .ok (e1b d) w:=by
 unfold isAgg;rw [Sem.run_bind,c1M h];cases d<;>rfl
theorem d8C {P:Program} {l:List (Nat × TyE)} (h:l.all (tyB P)=true):∀ x∈l,x.2.right P x.1:=fun ⟨t,e⟩ hx=>by
 rw [a5D] at h;have h:=h _ hx;unfold tyB at h;split at h
 ·rename_i i d hi hd;rw [U6] at h;have aI:=a3U h.1;have h2:=h.2;have hs:∀ w,(sizeOf t).run P w = .ok e.size w:=fun w=>by rw [b7P hi];exact n_8 (fun n=>Result.ok n w) aI
  cases d with
  | struct fs =>
   simp only [U6,a5D,List.mem_range] at h2;refine ⟨fun w=>by rw [b41 hd,show e.agg=true from h2.1];rfl,hs,.inr ⟨fs,c1M hd,fun i o ho=>?_⟩⟩;have h3:=h2.2 i (n_3.1 ho).1;split at h3
   ·rename_i fd hfd;rw [U6] at h3;have h4:=a3U h3.1;have h5:=h3.2;split at h5
    ·rename_i j hj;exact ⟨fd,j.size,hfd,by rw [h4,a58];dsimp only at ho ⊢;rw [ho];rfl,b7P hj,by have h6:=h5;rw [b2A] at h6;omega⟩
    ·cases h5
   ·cases h3
  | array n t' =>
   simp only [U6] at h2;exact ⟨fun w=>by rw [b41 hd,show e.agg=true from h2.1];rfl,hs,.inl (b55.1 h2.2)⟩
  | _ =>
   simp only [U6,b7W] at h2;exact ⟨fun w=>by rw [b41 hd,show e.agg=false from h2.1];rfl,hs,.inl (b55.1 h2.2)⟩
 ·cases h
def Env.vb (E:Env):Operand->Bool
 | .tmp t=>match E.g t with
  | .yes=>true
  | _=>false
 | .const v=>K9 v
 | _=>true
theorem Env.vb_ok (h:E.vb x=true):E.valid x:=by
 cases x with
 | tmp t =>
  show (E.g t).is;simp only [Env.vb] at h;generalize E.g t=g at h;cases g with
  | yes=>exact tt
  | two a b=>cases h
 | const v=>exact h
 | global g=>exact tt
 | func f=>exact tt
theorem Env.val_h (h:(match x with | .tmp t=>E.h t | x=>some (E.val C x))=some c):E.val C x=c:=by
 cases x with
 | tmp t=>show (E.h t).getD _=c;rw [show E.h t=some c from h];rfl
 | _=>injection h
def e1m:BinOp->Bool
 | .eql | .neq | .lss | .leq | .gtr | .geq=>true
 | _=>false
def qv (C:Ctx) (σ:List b9) (E:Env):Op->Option CV
 | .move x | .assign x=>match E.vb x with
  | true=>match x with
   | .tmp t=>E.h t
   | x=>some (E.val C x)
  | false=>none
 | .nilCheck x=>match E.vb x with
  | true=>match E.val C x with
   | .ptr k d=>some (.ptr k d)
   | _=>none
  | false=>none
 | .extract x i=>match E.vb x with
  | true=>match E.val C x with
   | .tup cs=>cs[i]?
   | _=>none
  | false=>none
 | .unOp .not _ x=>match E.vb x with
  | true=>match E.val C x with
   | .val (.bool b)=>some (.val (.bool (!b)))
   | _=>none
  | false=>none
 | .fieldAddr t x f=>match E.vb x with
  | true=>match c8u C.tab t with
   | some e=>match e.offs[f]? with
    | some d=>match E.val C x with
     | .ptr k o=>some (.ptr k (o+d))
     | .cptr cs=>some (.cptr (cs.drop d))
     | .eptr k i o=>some (.eptr k i (o+d))
     | _=>none
    | none=>none
   | none=>none
  | false=>none
 | .load t x=>match E.vb x with
  | true =>
   match c8u C.tab t with
   | some e=>match E.val C x with
    | .ptr k o=>match σ[k]? with
     | some (.boxT _ cells)=>match e.agg with
      | false=>cells[o]?
      | true=>match Nat.ble (o+e.size) cells.length with
       | true=>some (.agg ((cells.drop o).take e.size))
       | false=>none
     | _=>none
    | .cptr cells=>match e.agg with
     | false=>cells[0]?
     | true=>match Nat.ble e.size cells.length with
      | true=>some (.agg (cells.take e.size))
      | false=>none
    | _=>none
   | none=>none
  | false=>none
 | .binOp op _ x y _=>match e1m op with
  | true=>match E.vb x with
   | true=>match E.vb y with
    | true=>match E.val C x with
     | .val (.int k a)=>match E.val C y with
      | .val (.int k' b)=>if k=k' then (a68 op k a b).map CV.val else none
      | _=>none
     | _=>none
    | false=>none
   | false=>none
  | false=>none
 | _=>none
theorem d9I (h:qv C σ E o.op=some c):l8 C σ E o c:=by
 generalize bk:o.op=op at h;cases op with
 | move x =>
  simp only [qv] at h;split at h
  ·exact a2S bk (Env.vb_ok ‹_›) (Env.val_h h)
  ·cases h
 | assign x =>
  simp only [qv] at h;split at h
  ·exact a8k bk (Env.vb_ok ‹_›) (Env.val_h h)
  ·cases h
 | nilCheck x =>
  simp only [qv] at h;split at h
  ·split at h
   ·injection h with h;subst h;exact b4A bk (Env.vb_ok ‹_›) ‹_›
   ·cases h
  ·cases h
 | extract x i =>
  simp only [qv] at h;split at h
  ·split at h
   ·exact a5S bk (Env.vb_ok ‹_›) ‹_› h
   ·cases h
  ·cases h
 | unOp u t x =>
  cases u<;>simp only [qv] at h<;>try cases h
  split at h
  ·split at h
   ·injection h with h;subst h;exact c3D bk (Env.vb_ok ‹_›) ‹_›
   ·cases h
  ·cases h
 | fieldAddr t x f =>
  simp only [qv] at h;split at h
  ·split at h
   ·rename_i e he;split at h
    ·rename_i d hd;obtain ⟨-,-,hf⟩:=C.right _ (b2d he)
     rcases hf with hf | ⟨fs,hu,hf⟩
     ·dsimp only at hf;rw [hf] at hd;cases hd
     ·obtain ⟨fd,s,h1,rfl,h3,h4⟩:=hf f d hd;split at h
      ·injection h with h;subst h;exact j5 bk (Env.vb_ok ‹_›) ‹_› hu h1 h3 h4
      ·injection h with h;subst h;exact a3j bk (Env.vb_ok ‹_›) ‹_› hu h1 h3 h4
      ·injection h with h;subst h;exact c4k bk (Env.vb_ok ‹_›) ‹_› hu h1 h3 h4
      ·cases h
    ·cases h
   ·cases h
  ·cases h
 | load t x =>
  simp only [qv] at h;split at h
  ·split at h
   ·rename_i e he;obtain ⟨ha,hs,-⟩:=C.right _ (b2d he);dsimp only at ha hs;split at h
    ·split at h
     ·split at h
      ·rename_i gp;rw [gp] at ha;exact o5 bk (Env.vb_ok ‹_›) ‹_› ha ‹_› h
      ·rename_i gp;rw [gp] at ha;split at h
       ·injection h with h;subst h;exact M3 bk (Env.vb_ok ‹_›) ‹_› ha hs ‹_› (nb ‹_›)
       ·cases h
     ·cases h
    ·split at h
     ·rename_i gp;rw [gp] at ha;exact a0O bk (Env.vb_ok ‹_›) ‹_› ha h
     ·rename_i gp;rw [gp] at ha;split at h
      ·injection h with h;subst h;exact W6 bk (Env.vb_ok ‹_›) ‹_› ha hs (nb ‹_›)
      ·cases h
    ·cases h
   ·cases h
  ·cases h
 | binOp op t x y t' =>
  simp only [qv] at h;split at h
  ·split at h
   ·split at h
    ·split at h
     ·split at h
      ·split at h
       ·rename_i hk;subst hk;rw [N6] at h;obtain ⟨v,hv,rfl⟩:=h;exact a0M bk (Env.vb_ok ‹_›) (Env.vb_ok ‹_›) ‹_› ‹_› hv
       ·cases h
      ·cases h
     ·cases h
    ·cases h
   ·cases h
  ·cases h
 | _=>cases h
theorem K5.yes {a:Act} {d:Option Nat} (h:K5 M w n (E.put d c True) a):K5 M w n (E.putO d c .yes) a:=by
 cases d with
 | none=>exact h
 | some d =>
  refine ⟨h.defers,h.size,fun t ht=>?_,fun t ht=>?_⟩
  ·have:=h.rv t (by rw [Env.put_ok];rw [Env.putO_ok] at ht;exact ht);rw [Env.put_f] at this;rw [Env.putO_f];exact this
  ·exact h.un t (by rw [Env.put_un];rw [Env.putO_un] at ht;exact ht)
section
variable {aa:Array Oper} {Q:D5->Env->List b9->Prop}
theorem J4.yes {d:Option Nat} (h:J4 C n aa Q l (E.putO d c .yes) σ):J4 C n aa Q l (E.put d c True) σ:=fun M w a hr hf=>h M w a hr hf.yes
def e1j (n:Nat) (o:Oper):Bool:=match o.dst with
 | some d=>Nat.blt d n
 | none=>true
def a9U (C:Ctx) (n:Nat) (aa:Array Oper) (Q:D5->Env->List b9->Prop):List Oper->Env->List b9->Prop
 | [],E,σ=>Q .normal E σ
 | o::l,E,σ=>match o.guard with
  | some _=>J4 C n aa Q (o::l) E σ
  | none=>match e1j n o with
   | false=>J4 C n aa Q (o::l) E σ
   | true=>match qv C σ E o.op with
    | none=>J4 C n aa Q (o::l) E σ
    | some c=>match o.dst with
     | some d=>a9U C n aa Q l (E.putO (some d) c .yes) σ
     | none=>a9U C n aa Q l E σ
theorem a2t:∀ {l:List Oper} {E:Env},a9U C n aa Q l E σ->J4 C n aa Q l E σ
 | [],_,h=>x9 h
 | o::l,E,h=>by
  unfold a9U at h;split at h
  ·exact h
  ·rename_i hg;split at h
   ·exact h
   ·rename_i hd;split at h
    ·exact h
    ·rename_i c hc;refine d3j hg hd (d9I hc) ?_;split at h
     ·rename_i d hdd;rw [hdd];exact (a2t h).yes
     ·rename_i hdd;rw [hdd];exact a2t h
def qc (C:Ctx) (n:Nat):Nat->Nat->Code->(D5->Env->List b9->Prop)->Env->List b9->Prop
 | 0,_,c,Q,E,σ=>CWp C n c Q E σ
 | k+1,s,c,Q,E,σ=>match c with
  | .seq x y=>match s with
   | 0=>CWp C n (.seq x y) Q E σ
   | s+1=>qc C n k 1000 x (D5.next (fun E σ=>qc C n k s y Q E σ) Q) E σ
  | .skip=>Q .normal E σ
  | .block id x=>qc C n k s x (D5.blk id Q) E σ
  | .region _ aa false=>a9U C n aa Q aa.toList E σ
  | c=>CWp C n c Q E σ
theorem a9m:∀ {k s:Nat} {c:Code} {Q:D5->Env->List b9->Prop} {E:Env} {σ:List b9},qc C n k s c Q E σ->CWp C n c Q E σ
 | 0,_,_,_,_,_,h=>h
 | k+1,s,c,Q,E,σ,h=>by
  unfold qc at h;split at h
  ·split at h
   ·exact h
   ·refine F9 ((a9m h).mono fun e E σ h=>?_);cases e with
    | normal=>exact a9m h
    | _=>exact h
  ·exact C9 h
  ·exact a12 (a9m h)
  ·exact G5 (a2t h)
  ·exact h
end
section
variable {aa:Array Oper} {Q:D5->Env->List b9->Prop}
theorem qk {c:Code} (h:qc C n 999 999 c Q E σ):CWp C n c Q E σ:=a9m h
theorem qs (s:Nat) {c:Code} (h:qc C n 999 s c Q E σ):CWp C n c Q E σ:=a9m h
theorem qN (Y:List b9) (he:σ=Y) (h:a9U C n aa Q l E Y):a9U C n aa Q l E σ:=he ▸ h
theorem qo (h:a9U C n aa Q l E σ):J4 C n aa Q l E σ:=a2t h
theorem qY (hy:l8 C σ E o c) (h:a9U C n aa Q l (E.putO o.dst c .yes) σ) (hg:o.guard=none:=by rfl) (hd:(match o.dst with | some d=>Nat.blt d n | none=>true)=true:=by rfl):J4 C n aa Q (o::l) E σ:=d3j hg hd hy (a2t h).yes
theorem qD (h:G9 C σ E o fun r Y=>match r with | .ret c=>a9U C n aa Q l (E.putO o.dst c .yes) Y | .pan c=>Q (.pan c) E Y) (hg:o.guard=none:=by rfl) (hd:(match o.dst with | some d=>Nat.blt d n | none=>true)=true:=by rfl):J4 C n aa Q (o::l) E σ :=
 a2N hg hd (h.mono fun r Y h=>by
  cases r with
  | ret c=>exact (a2t h).yes
  | pan c=>exact h)
theorem qG {j t:Nat} {aq:Bool} (hy:b=aq->l8 C σ E o c) (h:a9U C n aa Q l (E.put o.dst c (b=aq)) σ) (hg:o.guard=some (j,aq):=by rfl) (ht:(aa[j]?).bind (·.dst)=some t:=by rfl) (hv:E.ok t:=by exact tt) (hb:E.f t = .val (.bool b):=by rfl)
 (hd:(match o.dst with | some d=>Nat.blt d n | none=>true)=true:=by rfl):J4 C n aa Q (o::l) E σ:=d9n hg ht hv hb hd hy (a2t h)
theorem qH {j t:Nat} {aq:Bool} (hg:o.guard=some (j,aq)) (ht:(aa[j]?).bind (·.dst)=some t) (hy:E.ok t->b=aq->l8 C σ E o c) (h:a9U C n aa Q l (E.put o.dst c (E.ok t/\b=aq)) σ) (hv:¬ E.ok t->E.un t:=by exact fun h=>h) (hb:E.f t = .val (.bool b):=by rfl)
 (hd:(match o.dst with | some d=>Nat.blt d n | none=>true)=true:=by rfl):J4 C n aa Q (o::l) E σ:=e0K hg ht hv hb hd hy (a2t h)
theorem qC {c:Operand} {x y:Code} (ht:b=true->qc C n 999 999 x Q E σ) (hf:b=false->qc C n 999 999 y Q E σ) (hv:E.valid c:=by first|exact tt|exact rfl) (hc:E.val C c = .val (.bool b):=by exact rfl):CWp C n (.cond c x y) Q E σ:=c1P hv hc (fun h=>a9m (ht h)) fun h=>a9m (hf h)
theorem qO {fn:Func} {c:Code} (hf:C.P.funcs[f]? = some fn) (h:qc C fn.ntmps 999 999 c (Fin C fn K) (Env.args args) σ) (hb:fn.body=some c:=by rfl) (hn:Nat.ble args.length fn.ntmps=true:=by rfl):b8 C f args σ K:=a8R hf hb hn (a9m h)
end
section
theorem c3h {v:Value} (ho:o.op = .buildSlice t 1 #[(0,x)]) (hx:E.valid x) (ex:E.val C x = .val v) (hv:v.oneCell'=true) (hu:∀ w,(underlying t).run C.P w = .ok (.slice e) w) (hs:∀ w,(sizeOf e).run C.P w = .ok 1 w) (hz:∀ w,(zeroValue e).run C.P w = .ok z w) (bO:z.oneCell'=true)
 (hk:K (.ret (.vec σ.length 0 1)) (σ++[.vec 1 [[.val v]]])):G9 C σ E o K:=fun M w ρ hr hh=>by
 have h1:=r3 (ex ▸ hh x w9 hx);have hvc:v.cells = #[v]:=by cases v<;>first|rfl | simp [Value.oneCell'] at hv
 have hzc:z.cells = #[z]:=by cases z<;>first|rfl | simp [Value.oneCell'] at bO
 have au:(execOp ρ o).run C.P w = .ok (.value (.slice (some ⟨w.heap.size,0,none⟩) 1 1)) (w.alloc (.cells #[v] e)):=by
  have er:Array.range 1 = #[0]:=rfl;simp only [execOp,ho,Instr.buildSlice,Sem.run_bind,hu,Result.andThen_ok,hs];simp [er,Instr.fill,newRow,h1,hvc,hz]
 rw [au];have aK:=Ext.alloc hr ⟨w.heap.size,1,1⟩ (.cells #[v] e);have aV:=hr.alloc ⟨w.heap.size,1,1⟩ (.cells #[v] e) (.vec 1 [[.val v]]) rfl ⟨rfl,n_7 _,by unfold maxLen;simp,fun r hr=>by simp at hr;subst hr;rfl,fun r hr c hc=>by simp at hr;subst hr;simp at hc;subst hc;exact hv,#[v],e,B0 _ _,rfl,fun i j r c hi hj=>by
  rcases i with _ | i
  ·injection hi with hi
   subst hi
   rcases j with _ | j
   ·injection hj with hj
    subst hj;exact .val _
   ·simp at hj
  ·simp at hi⟩
 refine ⟨_,_,_,aK,aV,?_,hk⟩;have hp:(M.add ⟨w.heap.size,1,1⟩).pl[σ.length]? = some ⟨w.heap.size,1,1⟩:=by simp [A9.add,<- hr.len]
 have:=RV.vec (w:=w.alloc (.cells #[v] e)) (off:=0) (len:=1) (a:=⟨w.heap.size,0,none⟩) hp (n_7 _) (by unfold maxLen;simp) (fun _=>by simp);simpa using this
end
end Go.Cl
namespace Go.Proofs
open Go.Shelf Go.Sort
theorem b8G {P:Program} {ρ:Ren} (Ly:Lays.n190 P ρ) (blk off cap:Nat) (ss:List (List UInt8)) (w:World) (hH:Holds encStr w blk off ss.toArray) (hb:blk < w.heap.size) (hn:ss.length < 4611686018427387904) :
 Calls P (ρ.f 190) #[.slice (some ⟨blk,off,none⟩) ss.length cap] w fun e w'=>e = .returned (.tuple #[])/\∃ n os,w'=grow (putRow encStr (Sort.ahead w n) blk off (ss.mergeSort fun x y=>decide (x<=y)).toArray) os :=
 calls_of_every_depth fun D=>by
  have parts:Any.Callees13sIn P ρ D:={
   heap:=AnyS.heapSort_stringIn { Ly with} D,rev:=AnyS.reverseRange_stringIn { Ly with} D,ins:=AnyS.insertionSort_strIn { Ly with} D,brk:=AnyS.breakPatterns_strIn { Ly with} D,
   piv:=AnyS.choosePivot_strIn { Ly with} D,par:=AnyS.partialInsertionSort_strIn { Ly with} D,peq:=AnyS.partitionEqualOrdered_stringIn { Ly with} D,prt:=AnyS.partitionOrdered_stringIn { Ly with} D}
  have laws:Plain13s:={ swo:=swo_ltStr,ins:=insertionSort_holds,par:=partialInsertionSort_holds,prt:=partition_holds _,peq:=partitionEqual_holds _,pdq:=pdq_sorts _};have quick:Any.pdqWalkIn_str P ρ D:=fun rm b' o' c' x y lim d w' h1 h2 h3 h4 h5 h6 h7 h8=>AnyS.pdqsort_stringIn { Ly with} D parts laws (y - x+1) rm b' o' c' x y lim d w' om_ h1 h2 h3 h4 h5 h6 h7 h8;have lens:Any.lenWalkInS P ρ D:=fun n w' h=>by
   have h1:=AnyS.bits_LenInS { Ly with} D (n:Int) w' om_ om_;rwa [a2c,bitLen_eq _ om_] at h1
  have h:=AnyS.Sort_strIn { Ly with} D quick lens blk off cap ss.toArray w hH hb (sp_ hn);rw [<- sortStr ss];simpa using h
end Go.Proofs
namespace Go.Cl
open Go.Sort Go.Proofs
variable {w W:World} {α:Type} {b s i:Nat} {arr:Array Value} {C:Ctx} {enc:α->List Value}
def a0o (ss:List Str):List Str:=ss.mergeSort fun x y=>decide (x<=y)
theorem d2L {ty:TypeId} {fr:Nat × Nat} {d:Array (List UInt8)} (h:w.heap[b]? = some (.cells arr ty fr)):putRow encStr w b 0 d=World.putObj w b (.cells (putCells encStr 0 d arr) ty fr):=by
 have hb:b < w.heap.size:=(a1s.1 h).1;have hg:w.heap[b] = .cells arr ty fr:=(a1s.1 h).2;unfold putRow mapBlock World.putObj
 congr 1
 apply b5g;intro i;rw [b83,c8Y];by_cases hi:b=i
 ·subst hi;simp [hb,hg,onCells]
 ·simp [hi]
theorem d4r {d:Array (List UInt8)} (hi:i < d.size) (ha:i < arr.size):(putCells encStr 0 d arr).getD i undef=encStr d[i]:=by
 unfold putCells;rw [a0H,Array.getElem?_mapIdx,a1j ha];simp [hi]
theorem d1E {C:Ctx} {f:FuncId} (aA:∀ (blk off cap:Nat) (ss:List (List UInt8)) (w:World),Holds encStr w blk off ss.toArray->blk < w.heap.size->ss.length < 4611686018427387904 ->
 Calls C.P f #[.slice (some ⟨blk,off,none⟩) ss.length cap] w fun e w'=>e = .returned (.tuple #[])/\∃ n os,w'=grow (putRow encStr (Sort.ahead w n) blk off (ss.mergeSort fun x y=>decide (x<=y)).toArray) os)
 {σ:List b9} {k:Nat} {ss:List Str} (az:ss≠[]) (aj:ss.length < 4611686018427387904) (hk:σ[k]? = some (.vec 1 (ss.map fun s=>[sv s]))):b8 C f [.vec k 0 ss.length] σ fun r τ=>r = .ret (.tup [])/\τ=σ.set k (.vec 1 ((a0o ss).map fun s=>[sv s])):=fun M w vs hr hn hx=>by
 have hl:0 < ss.length:=a94.2 az;have h0:=hx 0 _ rfl;have hs:vs.size=1:=hn;obtain ⟨v,rfl⟩:∃ v,vs = #[v]:=⟨vs[0]'om_,Array.ext (by simp [hs]) fun i h1 h2=>by
  have:i=0:=by omega
  subst this;simp⟩
 have h0:RV M w (.vec k 0 ss.length) v:=h0;cases h0 with
 | vec hp g1 g2 g3 =>
  rename_i p a;obtain ⟨⟨e0,e1,e2,e3,e4,arr,ty,e5,e6,e7⟩,hf,bZ⟩:=hr.obj k p _ hp hk;rw [O3] at e1;rw [e0,b0q] at e6;have ha:=g3 om_;rw [Nat.zero_mul] at ha;subst ha;have hb:p.block < w.heap.size:=(a1s.1 e5).1;have ap:∀ j (hj:j < ss.length),arr.getD j undef=encStr ss[j]:=fun j hj=>by
   have h1:(ss.map fun s=>[sv s])[j]? = some [sv ss[j]]:=by rw [O5,a09 hj];rfl
   have:=r3 (e7 j 0 _ _ h1 rfl);rw [e0,b0q,a8l] at this;exact this
  have hH:Holds encStr w p.block 0 ss.toArray:=fun j hj=>by
   have dl:j < ss.length:=sp_ hj;have hja:j < arr.size:=by omega
   refine ⟨?_,by simp [World.frozen?,e5]⟩;have:=ap j dl;rw [a0H,a1j hja] at this;simp only [a8S] at this;rw [L7,getElem!_pos _ _ (sp_ dl)];simp [World.cell?,e5,hja,this]
  refine (aA p.block 0 (p.cap - 0) ss w hH hb aj).mono fun e w' ⟨he,n,os,hw⟩=>?_;subst he hw;obtain ⟨bb,aF⟩:=a5E hr n #[];have ew:grow (w.drewN n) #[]=Sort.ahead w n:=by simp [grow,World.drewN,Sort.ahead]
  rw [ew] at bb aF;have e5':(Sort.ahead w n).heap[p.block]? = some (.cells arr ty (0,0)):=e5;rw [d2L e5'];have eJ:(a0o ss).length=ss.length:=b4q _;have hd:((a0o ss).toArray).size=ss.length:=by simp [eJ]
  have dN:(putCells encStr 0 (a0o ss).toArray arr).size=arr.size:=by simp [putCells]
  have aK:=Ext.putObj (w:=Sort.ahead w n) (.cells (putCells encStr 0 (a0o ss).toArray arr) ty (0,0)) (aF.nk k p _ hp hk rfl) hf bZ;have aV:=aF.putObj (ob:=.vec 1 ((a0o ss).map fun s=>[sv s])) hp hk rfl hf bZ (.cells (putCells encStr 0 (a0o ss).toArray arr) ty (0,0)) ⟨e0,by rw [O3,eJ];exact e1,e2,fun r hr=>by
   obtain ⟨s,_,rfl⟩:=F4.1 hr;rw [e0];rfl,fun r hr c hc=>by
   obtain ⟨s,_,rfl⟩:=F4.1 hr;simp at hc;subst hc;rfl,_,ty,World.putObj_same _ _ (by exact hb),by rw [dN,e0,b0q];exact e6,fun i j r c hi hj=>by
   rw [O5,N6] at hi;obtain ⟨s,aT,rfl⟩:=hi
   rcases j with _ | j
   ·injection hj with hj
    subst hj;have bn:=(n_3.1 aT).1;rw [e0,b0q,a8l,d4r (sp_ bn) om_];have:(a0o ss)[i]=s:=(n_3.1 aT).2;simp only [List.getElem_toArray,this];exact .val _
   ·cases hj⟩
  obtain ⟨fO,eW⟩:=a5E aV 0 os;have ew2:∀ u:World,u.drewN 0=u:=fun u=>rfl;rw [ew2] at fO eW;exact ⟨_,_,_,(bb.trans aK).trans fO,eW,.tup rfl (fun i c h=>by simp at h),rfl,rfl⟩
theorem b6l [Inhabited α] {enc:α->Value} {ty:TypeId} {fr:Nat × Nat} {d:Array α} (h:w.heap[b]? = some (.cells arr ty fr)):putRow enc w b 0 d=World.putObj w b (.cells (putCells enc 0 d arr) ty fr):=by
 have hb:b < w.heap.size:=(a1s.1 h).1;have hg:w.heap[b] = .cells arr ty fr:=(a1s.1 h).2;unfold putRow mapBlock World.putObj
 congr 1
 apply b5g;intro i;rw [b83,c8Y];by_cases hi:b=i
 ·subst hi;simp [hb,hg,onCells]
 ·simp [hi]
theorem c0r {F:Array Value} (hi:i < F.size) (ha:i < arr.size):(putCells id 0 F arr).getD i undef=F[i]!:=by
 unfold putCells;rw [a0H,Array.getElem?_mapIdx,a1j ha];simp [hi]
theorem b6N {W':World} {M':A9} (h:Ext (T4 W) W M' W'):∃ q os',W'=grow (W.drewN q) os':=by
 refine ⟨W'.drawn - W.drawn,W'.heap.extract W.heap.size W'.heap.size,?_⟩;have hd:W.drawn+(W'.drawn - W.drawn)=W'.drawn:=by have:=h.drew;omega
 have hh:W'.heap=W.heap++W'.heap.extract W.heap.size W'.heap.size:=by
  apply b5g;intro i;rw [b3z]
  split
  ·rename_i hi;exact h.same i hi
  ·rename_i hi;rw [Array.getElem?_extract];have hs:=h.size
   split
   ·congr 1;omega
   ·rename_i h2;rw [a9E];omega
 have h1:=h.os;have h2:=h.tape;have h3:=h.output;show W'=⟨_,_,_,_,_⟩;cases W';simp only at hd hh h1 h2 h3 ⊢;subst h1 h2 h3;simp only [World.drewN,World.mk.injEq,true_and,and_true];exact ⟨hh,hd.symm⟩
theorem c08 {f:FuncId} {gK:List CV} {args:Array Value} {u:Value}
 (hg:∀ g cells,C.glob g=some cells->GV (T4 W) W cells g)
 (hn:args.size=gK.length) (ha:∀ (i:Nat) (c:CV),gK[i]? = some c->RV (T4 W) W c (args.getD i undef))
 (h:b8 C f gK [] fun r Y=>r = .ret (.val u)/\Y=[]):Calls C.P f args W fun e W'=>e = .returned u/\∃ q os',W'=grow (W.drewN q) os':=by
 refine (h (T4 W) W args (b3W hg) hn ha).mono fun e W' he=>?_;cases e with
 | returned v =>
  obtain ⟨c,Y,M',h1,h2,h3,h4,h5⟩:=he;cases h4;cases h3;exact ⟨rfl,b6N h1⟩
 | panicked ch =>
  obtain ⟨c,v,Y,M',-,-,-,-,h4,-⟩:=he;cases h4
 | outgrown=>exact he.elim
theorem c5D {M:A9} {σ:List b9} (hv:∀ g cells,C.glob g=some cells->∀ c∈cells,∃ v,c=CV.val v) (hr:Rel C M σ w) (hb:¬ M.full b) (hs:w.heap.size<=W.heap.size)
 (hh:∀ x,x < w.heap.size->x≠b->W.heap[x]? = w.heap[x]?) (g:Nat) (cells:List CV) (hg:C.glob g=some cells):GV (T4 W) W cells g:=by
 obtain ⟨rv,full,sz⟩:=hr.glob g cells hg;have ab:g < w.heap.size:=hr.blk g 0 (.inl full);have az:g≠b:=fun e=>hb (e ▸ full);have bv:=hh g ab az;cases rv with
 | cptr vals a1 a2 a3 =>
  refine ⟨.cptr vals a1 (fun j c hj=>⟨.inl (a8L ab hs),?_⟩) (fun j c hj=>?_),a8L ab hs,?_⟩
  ·rw [M8 bv];exact (a2 j c hj).2
  ·obtain ⟨v,rfl⟩:=hv g cells hg c (n_2 hj);have:=a3 j _ hj;cases this;exact .val _
  ·rw [bv];exact sz
theorem b22 [Inhabited α] {m:Nat} {dk:Array α} {os:Array Obj}:w.heap.size<=(sortWorldK enc s w b 0 m dk os).heap.size/\∀ x,x < w.heap.size->x≠b->(sortWorldK enc s w b 0 m dk os).heap[x]? = w.heap[x]?:=by
 refine ⟨by unfold sortWorldK;rw [size_grow,size_putRowK];exact Nat.le_add_right _ _,fun x hx az=>?_⟩;unfold sortWorldK grow putRowK putRow mapBlock;show (Array.modify w.heap b _++os)[x]? = _;rw [b4j (sp_ hx),b83,n_0 (fun e=>az e.symm)]
theorem c2v {M:A9} {l:List Value} (h1:∀ v∈l,v.oneCell'=true):RV M w (.agg (l.map .val)) (.agg l.toArray):=by
 refine .agg si_ (fun c hc=>?_) (fun i c hi=>?_)
 ·obtain ⟨v,hv,rfl⟩:=F4.1 hc;exact h1 v hv
 ·rw [O5,N6] at hi;obtain ⟨v,hv,rfl⟩:=hi;have:l.toArray.getD i undef=v:=by rw [a0H,List.getElem?_toArray,hv];rfl
  rw [this];exact .val _
theorem c8n {g:FuncId} [Inhabited α] {cf:α->α->Int} (h1:∀ x,∀ v∈enc x,v.oneCell'=true) (hcmp:∀ x y:α,b8 C g [.agg ((enc x).map .val),.agg ((enc y).map .val)] [] fun r τ=>r = .ret (.val (.int .i64 (cf x y)))/\τ=[])
 (hv:∀ g cells,C.glob g=some cells->∀ c∈cells,∃ v,c=CV.val v) {M:A9} {σ:List b9} {w:World} {b size:Nat} (hr:Rel C M σ w) (hb:¬ M.full b):CmpLays C.P g #[] enc s cf b 0 size w:=fun m os dk hs x y=>by
 refine c08 (c5D hv hr hb b22.1 b22.2) rfl (fun i c hi=>?_) (hcmp x y)
 rcases i with _ | _ | i
 ·injection hi with hi;subst hi;exact c2v (h1 x)
 ·injection hi with hi;subst hi;exact c2v (h1 y)
 ·cases hi
theorem b30 [Inhabited α] {l:List α} {j:Nat} {x:α} (hx:l[i]? = some x) (hj:j < s) (hk:(enc x).length=s):(flatK enc s l.toArray)[i*s+j]! = (enc x)[j]!/\i*s+j < l.length*s:=by
 have hi:=(n_3.1 hx).1;have lt:i*s+j < l.length*s:=by
  have:=S4 s (show i+1<=l.length from hi);rw [Q5,Nat.one_mul] at this;omega
 have e1:(i*s+j) / s=i:=(blk_iff s i _ om_).1 ⟨om_,om_⟩;have e2:(i*s+j)%s=j:=by rw [Nat.mod_eq_sub_div_mul,e1];omega
 refine ⟨?_,lt⟩;rw [get_flatK _ _ _ _ (sp_ lt),e1,e2];have:l.toArray[i]! = x:=by simp [hi,(n_3.1 hx).2]
 rw [this]
def b1k {α:Type} (cf:α->α->Int) (l:List α):List α:=l.mergeSort fun x y=>!(ltOf cf) y x
theorem c4m {f g:FuncId} [Inhabited α] {cf:α->α->Int} (eR:0 < s) (hk0:∀ x,(enc x).length=s) (h1:∀ x,∀ v∈enc x,v.oneCell'=true)
 (aA:∀ (blk off cap:Nat) (d:Array α) (w:World),CmpLays C.P g #[] enc s cf blk off d.size w->HoldsK enc s w blk off d->blk < w.heap.size->d.size < 4611686018427387904 ->
  Calls C.P f #[.slice (some ⟨blk,off,none⟩) d.size cap,.func (.func g) #[] #[]] w fun e w'=>e = .returned (.tuple #[])/\∃ n os,w'=sortWorldK enc s w blk off n (d.toList.mergeSort fun x y=>!(ltOf cf) y x).toArray os)
 (hcmp:∀ x y:α,b8 C g [.agg ((enc x).map .val),.agg ((enc y).map .val)] [] fun r τ=>r = .ret (.val (.int .i64 (cf x y)))/\τ=[])
 (hv:∀ g cells,C.glob g=some cells->∀ c∈cells,∃ v,c=CV.val v)
 {σ:List b9} {k:Nat} {l:List α} (az:l≠[]) (aj:l.length < 4611686018427387904) (hk:σ[k]? = some (.vec s (l.map fun x=>(enc x).map .val))) :
 b8 C f [.vec k 0 l.length,.val (.func (.func g) #[] #[])] σ fun r τ=>r = .ret (.tup [])/\τ=σ.set k (.vec s ((b1k cf l).map fun x=>(enc x).map .val)):=fun M w vs hr hn hx=>by
 have hl:0 < l.length:=a94.2 az;have hs:vs.size=2:=hn;obtain ⟨v,v2,rfl⟩:∃ v v2,vs = #[v,v2]:=⟨vs[0]'om_,vs[1]'om_,Array.ext (by simp [hs]) fun i h1 h2=>by
  have:i=0\/i=1:=by omega
  rcases this with rfl | rfl<;>simp⟩
 have h0:RV M w (.vec k 0 l.length) v:=hx 0 _ rfl;have h2:RV M w (.val (.func (.func g) #[] #[])) v2:=hx 1 _ rfl;cases h2;cases h0 with
 | vec hp g1 g2 g3 =>
  rename_i p a;obtain ⟨⟨e0,e1,e2,e3,e4,arr,ty,e5,e6,e7⟩,hf,bZ⟩:=hr.obj k p _ hp hk;rw [O3] at e1;rw [e0] at e6;have ha:=g3 om_;rw [Nat.zero_mul] at ha;subst ha;have hb:p.block < w.heap.size:=(a1s.1 e5).1;have hcs:l.length*s<=arr.size:=by rw [e6];exact S4 s e1
  have ap:∀ t,t < l.length*s->arr.getD t undef=(flatK enc s l.toArray)[t]!:=fun t ht=>by
   have hd:t / s < l.length:=(Nat.div_lt_iff_lt_mul eR).2 ht;have hm:t%s < s:=a5m _ eR;have fo:t / s*s+t%s=t:=by rw [b3Z];exact Nat.div_add_mod t s
   have hx:l[t / s]? = some l[t / s]:=a09 hd;have gz:=hk0 l[t / s];have h3:=(b30 (enc:=enc) hx hm gz).1;rw [fo] at h3;rw [h3];have h4:(l.map fun x=>(enc x).map CV.val)[t / s]? = some ((enc l[t / s]).map .val):=by rw [O5,hx];rfl
   have h5:((enc l[t / s]).map CV.val)[t%s]? = some (.val (enc l[t / s])[t%s]!):=by
    rw [O5,a09 om_];simp [gz,hm]
   have:=r3 (e7 _ _ _ _ h4 h5);rw [e0,fo] at this;exact this
  have hH:HoldsK enc s w p.block 0 l.toArray:=fun j hj=>by
   have dl:j < l.length*s:=sp_ hj;have hja:j < arr.size:=by omega
   refine ⟨?_,by simp [World.frozen?,e5]⟩;have:=ap j dl;rw [a0H,a1j hja] at this;simp only [a8S] at this;rw [L7];simp [World.cell?,e5,hja,this]
  have hC:=c8n (s:=s) (size:=l.toArray.size) h1 hcmp hv hr hf;have hcc:=aA p.block 0 (p.cap - 0) l.toArray w hC hH hb (sp_ aj);rw [show l.toArray.size=l.length by simp,show l.toArray.toList=l by simp] at hcc;refine hcc.mono fun e w' ⟨he,n,os,hw⟩=>?_;subst he hw;obtain ⟨bb,aF⟩:=a5E hr n #[];have ew:grow (w.drewN n) #[]=Sort.ahead w n:=by simp [grow,World.drewN,Sort.ahead]
  rw [ew] at bb aF;have e5':(Sort.ahead w n).heap[p.block]? = some (.cells arr ty (0,0)):=e5;unfold sortWorldK putRowK;rw [b6l e5'];have eJ:(b1k cf l).length=l.length:=b4q _;change a3v C M w _ _ (grow (World.putObj (Sort.ahead w n) p.block (.cells (putCells id 0 (flatK enc s (b1k cf l).toArray) arr) ty (0,0))) os);generalize hF:flatK enc s (b1k cf l).toArray=F;have hFs:F.size=l.length*s:=by rw [<- hF,size_flatK];simp [eJ]
  have dN:(putCells id 0 F arr).size=arr.size:=by simp [putCells]
  have aK:=Ext.putObj (w:=Sort.ahead w n) (.cells (putCells id 0 F arr) ty (0,0)) (aF.nk k p _ hp hk rfl) hf bZ;have aV:=aF.putObj (ob:=.vec s ((b1k cf l).map fun x=>(enc x).map .val)) hp hk rfl hf bZ (.cells (putCells id 0 F arr) ty (0,0)) ⟨e0,by rw [O3,eJ];exact e1,e2,fun r hr=>by
   obtain ⟨x,_,rfl⟩:=F4.1 hr;rw [e0,O3];exact hk0 x,fun r hr c hc=>by
   obtain ⟨x,_,rfl⟩:=F4.1 hr;obtain ⟨v,hv,rfl⟩:=F4.1 hc;exact h1 x v hv,_,ty,World.putObj_same _ _ (by exact hb),by rw [dN,e0];exact e6,fun i j r c hi hj=>by
   rw [O5,N6] at hi;obtain ⟨x,aT,rfl⟩:=hi;rw [O5,N6] at hj;obtain ⟨v,dl,rfl⟩:=hj;have hjs:j < s:=by have:=(n_3.1 dl).1;rw [hk0] at this;exact this
   obtain ⟨h3,h4⟩:=b30 (enc:=enc) aT hjs (hk0 x);rw [hF] at h3;rw [eJ] at h4;rw [e0,c0r om_ om_,h3,List.getElem!_eq_getElem?_getD,dl];exact .val _⟩
  obtain ⟨fO,eW⟩:=a5E aV 0 os;have ew2:∀ u:World,u.drewN 0=u:=fun u=>rfl;rw [ew2] at fO eW;exact ⟨_,_,_,(bb.trans aK).trans fO,eW,.tup rfl (fun i c h=>by simp at h),rfl,rfl⟩
end Go.Cl
namespace Go.Cl
variable {l:List Oper} {o:Oper} {c:CV} {xs:Array Operand} {ts:Array TypeId} {av:List CV} {f:FuncId}
section
variable {C:Ctx} {n:Nat} {Q:D5->Env->List b9->Prop} {E:Env} {σ:List b9}
theorem d3g {t e:TypeId} {len s:Nat} {parts:Array (Nat × Operand)} {z:Value} {ps:List (Nat × CV)} {V:List (List CV)} (ho:o.op = .buildSlice t len parts) (hv:E.valids (parts.toList.map (·.2)))
 (hu:∀ w,(underlying t).run C.P w = .ok (.slice e) w) (hs:∀ w,(sizeOf e).run C.P w = .ok s w) (hz:∀ w,(zeroValue e).run C.P w = .ok z w) (bO:K9 z=true) (cH:(I2 z).one=true\/∃ cs,I2 z = .agg cs) (fX:(I2 z).cells.length=s) (eR:0 < s)
 (aj:len*s<=2^24) (ep:parts.toList.map (fun x=>(x.1,E.val C x.2))=ps) (aM:∀ x∈ps,x.2.one=true\/∃ cs,x.2 = .agg cs)
 (cR:a48 (fun i=>some (i*s,s)) ((List.range (len*s)).map fun i=>(I2 z).cells.getD (i%s) default) ps=some V.flatten)
 {M:A9} {w:World} {ρ:Operand->Value} (h:∀ x∈o.op.operands,E.valid x->RV M w (E.val C x) (ρ x)) :
 ∃ r:Array Value,(execOp ρ o).run C.P w = .ok (.value (.slice (some ⟨w.heap.size,0,none⟩) len len)) (w.alloc (.cells r e))/\RV M w (.agg V.flatten) (.agg r):=by
 have eS:RV M w (I2 z) z:=a0r bO;obtain ⟨g1,g2,g3⟩:=eS.cells cH;have bN:∀ x∈parts.toList,x.2∈o.op.operands:=fun x hx=>by
  rw [ho];simp only [Op.operands,List.mem_toArray,F4];exact ⟨x,hx,rfl⟩
 have bH:=Env.valids_mem hv;obtain ⟨r,aF,aV⟩:=a8u (M:=M) (w:=w) ps (parts.toList.map fun x=>(x.1,ρ x.2)) ((List.range (len*s)).map fun i=>(I2 z).cells.getD (i%s) default) ((Array.range (len*s)).map (z.cells[·%z.cells.size]!)) V.flatten cR (by simp [<- ep]) (fun i x y hx hy=>by
  refine ⟨?_,aM x (n_2 hx)⟩;subst ep;simp only [O5,N6] at hx hy;obtain ⟨a,ha,rfl⟩:=hx;obtain ⟨a',cI,rfl⟩:=hy;have:a=a':=by rw [ha] at cI;injection cI
  subst this;have hm:=n_2 ha;exact h _ (bN _ hm) (bH _ (F4.2 ⟨_,hm,rfl⟩))) si_ (fun c hc=>by
   obtain ⟨i,_,rfl⟩:=F4.1 hc;have ab:i%s < (I2 z).cells.length:=by rw [fX];exact a5m _ eR
   rw [a58,a09 ab];exact g2 _ (b3O ab)) (fun i c hi=>by
   rw [O5,N6] at hi;obtain ⟨i',bd,rfl⟩:=hi;have bp:=(n_3.1 bd).1;simp at bp;rw [List.getElem?_range bp] at bd;injection bd with bd
   subst bd;have ab:i%s < (I2 z).cells.length:=by rw [fX];exact a5m _ eR
   have hlt2:i%s < z.cells.size:=by rw [g1];exact ab
   have:=g3 (i%s) _ (a09 ab);have e1:(I2 z).cells.getD (i%s) default=(I2 z).cells[i%s]:=by
    rw [a58,a09 ab];rfl
   rw [e1];have e2:((Array.range (len*s)).map (z.cells[·%z.cells.size]!)).getD i undef=z.cells.getD (i%s) undef:=by
    have bI:z.cells.size=s:=by rw [g1,fX]
    have hms:i%s < s:=a5m _ eR;simp [bp,bI,hms]
   rw [e2];exact this)
 refine ⟨r,?_,aV⟩;have hl:(parts.map fun x=>(x.1,ρ x.2)).toList=parts.toList.map fun x=>(x.1,ρ x.2):=by simp
 simp only [execOp,ho,Instr.buildSlice,Sem.run_bind,hu,Result.andThen_ok,hs];rw [n_0 om_];simp only [hl];by_cases fL:len*s=0
 ·have er:Array.range 0 = #[]:=rfl;rw [fL,er] at aF;simp only [List.map_toArray,List.map_nil] at aF;simp [fL,er,aF,newRow]
 ·simp [fL,hz,aF,newRow]
theorem c7E {aa:Array Oper} {o1 o2:Oper} {t e:TypeId} {len d1 d2:Nat} {parts:Array (Nat × Operand)} {z:Value} (bs:Str) (hd1:o1.dst=some d1) (hd2:o2.dst=some d2) (ho1:o1.op = .buildSlice t len parts) (ho2:o2.op = .convert t t (.tmp d1)) (eh:o1.guard=none) (dV:o2.guard=none)
 (cP:Nat.blt d1 n=true) (cp:Nat.blt d2 n=true) (hv:a8d E parts.toList)
 (hu:∀ w,(underlying t).run C.P w = .ok (.slice e) w) (hs:∀ w,(sizeOf e).run C.P w = .ok 1 w) (hz:∀ w,(zeroValue e).run C.P w = .ok z w) (he:∀ w,(underlying e).run C.P w = .ok (.int .u8) w) (bO:K9 z=true) (cH:d0M (I2 z)=true) (fX:(I2 z).cells.length=1)
 (aj:Nat.ble (len*1) 16777216=true) (aM:c2w (a75 C E parts.toList)=true)
 (cR:a48 (fun i=>some (i*1,1)) ((List.range (len*1)).map fun i=>(I2 z).cells.getD (i%1) default) (a75 C E parts.toList)=some (bs.map bcv).flatten) (cN:bs.length=len)
 (h:J4 C n aa Q l ((E.hide (some d1)).put (some d2) (.list (bs.map bcv) true none) True) σ):J4 C n aa Q (o1::o2::l) E σ:=fun M w a hr hf=>by
 have hvs:E.valids (parts.toList.map (·.2)):=by
  have:=a2F hv;have key:∀ l:List Operand,(∀ x∈l,E.valid x)->E.valids l:=by
   intro l
   induction l with
   | nil=>intro _;trivial
   | cons x l ih=>intro h;exact ⟨h x si_,ih fun y hy=>h y (by simp [hy])⟩
  exact key _ fun x hx=>by
   obtain ⟨p,hp,rfl⟩:=F4.1 hx;exact this p hp
 have cT:len*1<=2^24:=by have:=nb aj;omega
 obtain ⟨r,au,bj⟩:=d3g (o:=o1) (E:=E) (C:=C) (M:=M) (w:=w) (ρ:=a.eval) ho1 hvs hu hs hz bO (a38 cH) fX om_ cT (a5O _) (a8x aM) cR (fun x _ hx=>hf.eval hr hx);have hlt1:d1 < n:=by simpa [b2A] using cP
 have hlt2:d2 < n:=by simpa [b2A] using cp
 have hrl2:r.size=len:=by
  cases bj with
  | agg q1 _ _ =>
   rw [q1,flat_len (bs.map bcv) (s:=1) (fun r0 h0=>by
    obtain ⟨b,_,rfl⟩:=F4.1 h0;rfl)]
   simp [cN]
 unfold wpList;rw [n_1 (by simp [Region.wanted,eh])];refine .inl ?_;unfold Oper.wp;rw [au];simp only [Oper.upon];unfold wpList;rw [n_1 (by simp [Region.wanted,dV])];refine .inl ?_;unfold Oper.wp;have fR:(a.put o1.dst (.slice (some ⟨w.heap.size,0,none⟩) len len)).eval (.tmp d1) = .slice (some ⟨w.heap.size,0,none⟩) len len:=by
  rw [hd1];simp [Act.eval,Act.put,hf.size,hlt1]
 have hsh:(w.alloc (.cells r e)).shape? w.heap.size=some (e,len):=by
  simp only [World.shape?,B0];simp [hrl2]
 have io:(execOp (a.put o1.dst (.slice (some ⟨w.heap.size,0,none⟩) len len)).eval o2).run C.P (w.alloc (.cells r e)) = .ok (.value (.slice (some ⟨w.heap.size,0,none⟩) len len)) (w.alloc (.cells r e (len,len+1))):=by
  have hm:(markStringish ⟨w.heap.size,0,none⟩).run C.P (w.alloc (.cells r e)) = .ok () (w.alloc (.cells r e (len,len+1))):=by
   have:=a7w w r e len;simp only [markStringish,shape,freeze,Sem.run_bind];simp only [Sem.run,hsh,Result.andThen_ok];rw [this]
  simp only [execOp,ho2,fR,convert,Sem.run_bind,hu,Result.andThen_ok,he];simp [hm]
 rw [io];simp only [Oper.upon];obtain ⟨hx,eU⟩:=hr.allocFull (.cells r e (len,len+1));have bm:bs.length<=maxLen:=by unfold maxLen;omega
 have gt:RV (M.settle w.heap.size) (w.alloc (.cells r e (len,len+1))) (.list (bs.map bcv) true none) (.slice (some ⟨w.heap.size,0,none⟩) len len):=by
  cases bj with
  | agg q1 q2 q3 =>
   have bg:∀ r0∈bs.map bcv,r0.length=1:=fun r0 h0=>by
    obtain ⟨b,_,rfl⟩:=F4.1 h0;rfl
   refine RV.list' (s:=1) (b:=w.heap.size) (off:=0) (sp_ cN.symm) (fun i j=>r.getD (i*1+j) undef) (by simp [cN]) om_ rfl (fun h=>by cases h) a0B bg (fun r0 bJ c hc=>?_) (fun i j r0 c hi hj=>?_) (fun i j r0 c hi hj=>?_) (fun k hk=>by cases hk)
   ·obtain ⟨b,_,rfl⟩:=F4.1 bJ;simp [bcv] at hc;subst hc;rfl
   ·have hf:=a4U (bs.map bcv) bg i j r0 c hi hj;have ab:=(n_3.1 hf).1;have bp:i*1+j < r.size:=by omega
    refine ⟨.inl (.inr rfl),?_⟩;rw [L7];show (match (w.alloc (.cells r e (len,len+1))).heap[w.heap.size]? with | some (.cells c _ _)=>c[i*1+j]? | _=>none)=_;rw [B0];simp at bp;simp [bp]
   ·exact (q3 _ _ (a4U (bs.map bcv) bg i j r0 c hi hj)).mono hx
 rw [hd1,hd2];exact h.later hx eU (((hf.mono hx).hide (d:=some d1)).put (fun t ht=>by injection ht with ht;omega) (fun _=>gt) fun hh=>absurd trivial hh)
end
section
variable {C:Ctx} {E:Env} {σ:List b9}
def c3e (C:Ctx) (c:CV) (av:List CV) (σ:List b9) (r:CV):Prop :=
 (∃ f,c = .val (.func (.func f) #[] #[])/\(∀ args w,(callFunc f args).run C.P w = .ok (.enter f args) w)/\b8 C f av σ fun r' Y=>r' = .ret r/\Y=σ) \/
 ∃ f aB,c = .clo f aB/\(∀ args w,(callFunc f args).run C.P w = .ok (.enter f args) w)/\b8 C f (av++aB) σ fun r' Y=>r' = .ret r/\Y=σ
theorem c5m {cx:Operand} {r:CV} (ho:o.op = .call { callee:=.value cx,args:=xs,argTypes:=ts}) (hc:E.valid cx) (ec:E.val C cx=c) (hv:E.valids xs.toList) (h:c3e C c av σ r) (ea:E.vals C xs.toList=av):l8 C σ E o r:=by
 rcases h with ⟨f,h1,h2,h3⟩ | ⟨f,aB,h1,h2,h3⟩
 ·exact c2g ho hc (ec.trans h1) h2 (Env.valids_mem hv) (Env.vals_map _) (ea ▸ h3)
 ·exact b4n ho hc (ec.trans h1) h2 hv h3 ea
end
section
variable {C:Ctx} {n:Nat} {aa:Array Oper} {Q:D5->Env->List b9->Prop} {E:Env} {σ:List b9}
theorem cY (hy:l8 C σ E o c) (h:J4 C n aa Q l (E.put o.dst c True) σ) (hg:o.guard=none:=by rfl) (hd:(match o.dst with | some d=>Nat.blt d n | none=>true)=true:=by rfl):J4 C n aa Q (o::l) E σ:=d3j hg hd hy h
theorem cD (h:G9 C σ E o fun r Y=>match r with | .ret c=>J4 C n aa Q l (E.put o.dst c True) Y | .pan c=>Q (.pan c) E Y) (hg:o.guard=none:=by rfl) (hd:(match o.dst with | some d=>Nat.blt d n | none=>true)=true:=by rfl):J4 C n aa Q (o::l) E σ:=a2N hg hd h
theorem cG {j t:Nat} {aq b:Bool} (hy:b=aq->l8 C σ E o c) (h:J4 C n aa Q l (E.put o.dst c (b=aq)) σ) (hg:o.guard=some (j,aq):=by rfl) (ht:(aa[j]?).bind (·.dst)=some t:=by rfl) (hv:E.ok t:=by exact tt) (hb:E.f t = .val (.bool b):=by rfl)
 (hd:(match o.dst with | some d=>Nat.blt d n | none=>true)=true:=by rfl):J4 C n aa Q (o::l) E σ:=d9n hg ht hv hb hd hy h
theorem cC {c:Operand} {x y:Code} {b:Bool} (ht:b=true->CWp C n x Q E σ) (hf':b=false->CWp C n y Q E σ) (hv:E.valid c:=by first|exact tt|exact rfl) (hc:E.val C c = .val (.bool b):=by exact rfl):CWp C n (.cond c x y) Q E σ:=c1P hv hc ht hf'
theorem hY {K:Env->Prop} (k:l8 C σ E o c) (h:a2p C σ aa K l (E.put o.dst c True)) (hg:o.guard=none:=by rfl):a2p C σ aa K (o::l) E:=e1d hg k h
theorem yc (ho:o.op = .call { callee:=.value (.func f),args:=xs,argTypes:=ts}) (aA:∀ args w,(callFunc f args).run C.P w = .ok (.enter f args) w)
 (hv:E.valids xs.toList) (h:b8 C f av σ fun r Y=>r = .ret c/\Y=σ) (k:J4 C n aa Q l (E.put o.dst c True) σ) (ea:(E.vals C xs.toList).map CV.fgt=av:=by exact rfl) (hg:o.guard=none:=by rfl) (hd:(match o.dst with | some d=>Nat.blt d n | none=>true)=true:=by rfl):J4 C n aa Q (o::l) E σ:=d3j hg hd (c5 ho aA hv h ea) k
theorem dc {α:Type} {c:α->CV} {S:α->List b9} {P:α->Prop} (ho:o.op = .call { callee:=.value (.func f),args:=xs,argTypes:=ts}) (aA:∀ args w,(callFunc f args).run C.P w = .ok (.enter f args) w)
 (hv:E.valids xs.toList) (h:b8 C f av σ fun r Y=>∃ a,r = .ret (c a)/\Y=S a/\P a) (hk:∀ a,P a->J4 C n aa Q l (E.put o.dst (c a) True) (S a)) (ea:(E.vals C xs.toList).map CV.fgt=av:=by exact rfl) (hg:o.guard=none:=by rfl) (hd:(match o.dst with | some d=>Nat.blt d n | none=>true)=true:=by rfl):J4 C n aa Q (o::l) E σ:=a2N hg hd (c4 ho aA hv h ea hk)
theorem ye (ho:o.op = .call { callee:=.value (.func f),args:=xs,argTypes:=ts}) (aA:∀ args w,(callFunc f args).run C.P w = .ok (.enter f args) w)
 (hv:E.valids xs.toList) (h:b8 C f av σ fun r Y=>r = .ret c/\Y=σ) (ea:(E.vals C xs.toList).map CV.fgt=av) (k:J4 C n aa Q l (E.put o.dst c True) σ) (hg:o.guard=none:=by rfl) (hd:(match o.dst with | some d=>Nat.blt d n | none=>true)=true:=by rfl):J4 C n aa Q (o::l) E σ:=yc ho aA hv h k ea hg hd
theorem de {α:Type} {c:α->CV} {S:α->List b9} {P:α->Prop} (ho:o.op = .call { callee:=.value (.func f),args:=xs,argTypes:=ts}) (aA:∀ args w,(callFunc f args).run C.P w = .ok (.enter f args) w)
 (hv:E.valids xs.toList) (h:b8 C f av σ fun r Y=>∃ a,r = .ret (c a)/\Y=S a/\P a) (ea:(E.vals C xs.toList).map CV.fgt=av) (hk:∀ a,P a->J4 C n aa Q l (E.put o.dst (c a) True) (S a)) (hg:o.guard=none:=by rfl) (hd:(match o.dst with | some d=>Nat.blt d n | none=>true)=true:=by rfl):J4 C n aa Q (o::l) E σ:=dc ho aA hv h hk ea hg hd
def d2i (aa:Array Oper):List Nat:=aa.toList.foldl (fun ms o=>ms++[o.after.toList.foldl (fun m e=>if b49 e then (m ||| (1 <<< e.on)) ||| ms.getD e.on 0 else m) 0]) []
theorem cW {id:Nat} (nh:Nat) (h:a2p C σ aa (fun E'=>J4 C n aa Q (aa.toList.drop nh) E' σ) (aa.toList.take nh) E) (hm:C.P.follows .mixedOrders=true:=by kernel_rfl) (hB:c3b aa nh (d2i aa)=true:=by kernel_rfl)
 (hd:(aa.toList.all fun o=>match o.dst with | some d=>Nat.blt d n | none=>true)=true:=by rfl):CWp C n (.region id aa true) Q E σ:=d4v nh (d2i aa) hm hB hd h
theorem rE1 {fn:Func} {t:Nat} (hr:fn.results = #[.tmp t]:=by exact rfl) (hv:E.ok t:=by exact tt) (ec:E.f t=c:=by conv=>lhs;whnf):a0y C E σ fn c:=a1R hr hv ec
theorem rE0 {fn:Func} (hr:fn.results = #[]:=by exact rfl):a0y C E σ fn (.tup []):=r9 (rs:=[]) (cs:=[]) hr trivial (n_5 rfl)
theorem cF {id:Nat} (qs hd:List Nat) {tl:List (Nat × List Nat)} (h:a2O C σ aa (fun E' S=>V7 C aa qs Q S tl E' σ) hd E []) (hm:C.P.follows .mixedOrders=true:=by kernel_rfl) (hB:b5T aa qs (d2i aa) hd tl=true:=by kernel_rfl)
 (cc:(aa.toList.all fun o=>match o.dst with | some d=>Nat.blt d n | none=>true)=true:=by rfl):CWp C n (.region id aa true) Q E σ:=d1M qs (d2i aa) hd hm hB cc h
theorem cO {fn:Func} {c:Code} {args:List CV} {K:W5->List b9->Prop} (hf:C.P.funcs[f]? = some fn) (h:CWp C fn.ntmps c (Fin C fn K) (Env.args args) σ) (hb:fn.body=some c:=by rfl) (hn:Nat.ble args.length fn.ntmps=true:=by rfl):b8 C f args σ K:=a8R hf hb hn h
end
end Go.Cl
namespace Go.Proofs.YtlppbmfecjabeaaGreatDoor
open Go Go.Cl
variable {s u:Str} {b:UInt8} {ks:List Int} {aU parts i a:Nat} {m:List (Int × Int)} {x y z:Bool} {d:List Str}
abbrev iv (x:Int):CV:=.val (.int .i64 x)
def b90:List CV:=[1,10,100,1000,10000,100000,1000000,10000000,100000000,1000000000,10000000000,100000000000,1000000000000,10000000000000,100000000000000,1000000000000000,10000000000000000,100000000000000000,1000000000000000000,10000000000000000000].map fun z:Int=>.val (.int .u64 z)
def tyT:List (Nat × TyE):=[(9,⟨false,1,[]⟩),(3,⟨false,1,[]⟩),(39,⟨true,3,[0,1,2]⟩),(32,⟨true,1,[0]⟩),(212,⟨true,5,[0,1,2,3,4]⟩),(119,⟨true,4,[0,1,2,3]⟩),(67,⟨true,3,[0,1,2]⟩),(59,⟨true,6,[0,1,2,3,4,5]⟩),(54,⟨true,2,[0,1]⟩),(231,⟨true,4,[0,1,2,3]⟩),(25,⟨true,1,[0]⟩),(26,⟨false,1,[]⟩),(228,⟨true,7,[0,1,2,3,4,5,6]⟩),(30,⟨false,1,[]⟩),(22,⟨false,1,[]⟩),(105,⟨true,2,[0,1]⟩),(199,⟨true,4,[0,1,2,3]⟩),(117,⟨false,1,[]⟩),(40,⟨false,1,[]⟩),(65,⟨false,1,[]⟩),(129,⟨true,2,[0,1]⟩),(112,⟨true,5,[0,1,2,3,4]⟩),(183,⟨true,8,[0,1,2,3,4,5,6,7]⟩),(309,⟨true,5,[0,2,3,4]⟩),(36,⟨false,1,[]⟩),(95,⟨true,6,[0,3,4,5]⟩),(27,⟨false,1,[]⟩),(244,⟨true,2,[0,1]⟩),(23,⟨false,1,[]⟩),(210,⟨true,8,[0,3,7]⟩),(149,⟨false,1,[]⟩),(4,⟨false,1,[]⟩),(5,⟨false,1,[]⟩),(91,⟨true,2,[0,1]⟩),(29,⟨true,2,[0,1]⟩),(103,⟨false,1,[]⟩),(109,⟨false,1,[]⟩),(292,⟨false,1,[]⟩),(107,⟨false,1,[]⟩),(305,⟨true,2,[]⟩),(110,⟨false,1,[]⟩),(175,⟨true,3,[0,1,2]⟩),(93,⟨true,3,[]⟩),(335,⟨true,2,[0,1]⟩),(178,⟨false,1,[]⟩),(86,⟨false,1,[]⟩),(195,⟨true,2,[0,1]⟩),(191,⟨false,1,[]⟩),(242,⟨false,1,[]⟩),(181,⟨false,1,[]⟩),(221,⟨true,1,[0]⟩)]
theorem d7X:tyT.all (tyB Tryz.prog)=true:=by kernel_rfl
noncomputable def CC:Ctx:={ P:=Tryz.prog,glob:=fun g=>match g with | 1=>some b90 | _=>none,tab:=tyT,right:=d8C d7X}
theorem hCC:CC.plain:=fun g cells h=>by
 have:cells=b90:=by
  simp only [CC] at h;split at h
  ·exact (Option.some.inj h).symm
  ·cases h
 subst this;intro c hc;obtain ⟨z,_,rfl⟩:=F4.1 hc;exact .val _
theorem an_ {f:FuncId} {fn:Func} {c:Code} {args:List CV} {res:CV} {σ:List b9} (hf:CC.P.funcs[f]? = some fn) (h:CWp CC fn.ntmps c (Fin CC fn fun r τ=>∃ ay c,τ=[]++ay/\r = .ret c/\Cls ([]:List b9).length τ c res) (Env.args args) []) (hb:fn.body=some c:=by rfl) (hn:Nat.ble args.length fn.ntmps=true:=by rfl) (p1:O4 args:=by exact pu_) (p2:r4 res:=by exact pu_):b8 CC f args σ fun r τ=>r = .ret res/\τ=σ:=b8.anyw hCC p1 p2 (c7 (a8R hf hb hn h)) σ
def icv (x:Int):List CV:=[iv x]
def scv (x:Str):List CV:=[sv x]
theorem O7 (l:List Int) (nn:Bool):r4 (.list (l.map icv) nn none):=O6 (f:=icv) (fun _=>⟨.val _,tt⟩) l nn
theorem F5 (l:List Str) (nn:Bool):r4 (.list (l.map scv) nn none):=O6 (f:=scv) (fun _=>⟨.val _,tt⟩) l nn
theorem T6 (n:Nat) (l:List Int) (nn:Bool):Old n (.list (l.map icv) nn none):=(O7 l nn).old
theorem A5 (n:Nat) (l:List Str) (nn:Bool):Old n (.list (l.map scv) nn none):=(F5 l nn).old
def d2P:Str:=[97,98,99,100,101,102,103,104,105,106,107,108,109,110,111,112,113,114,115,116,117,118,119,120,121,122]
def e1g:Str:=[48,49,50,51,52,53,54,55,56,57]
def a4o:Str:=[59,44,40,41,43,45,42,47,37,60,61]
def M0:List (Int × Str):=[(1,d2P),(2,e1g),(3,[95]),(4,[46]),(5,[9,10,13,32]),(6,[35]),(7,[34]),(8,a4o)]
def o0 (c:Int):Int :=
 if 97<=c/\c<=122 then 1 else if 48<=c/\c<=57 then 2 else if c=95 then 3 else if c=46 then 4 else if c=9\/c=10\/c=13\/c=32 then 5 else if c=35 then 6 else if c=34 then 7
 else if c=59\/c=44\/c=40\/c=41\/c=43\/c=45\/c=42\/c=47\/c=37\/c=60\/c=61 then 8 else 0
abbrev kb (a:Int):CV:=.val (.int .u8 a)
abbrev kv (a:Int):CV:=iv a
theorem d3u:U9 (α:=Int) CC.P 5 kb (fun a=>.int .u8 a):=c7P .u8 b2z
theorem a0G:U9 (α:=Int) CC.P 3 kv (fun a=>.int .i64 a):=c7P .i64 c88
theorem b9m:U9 (α:=Str) CC.P 9 sv (fun a=>.string (str a)):=d7W t_7
def KM (m:List (Int × Int)):Prop:=∀ c,(glk m c).getD 0=o0 c
theorem X5 (n:Nat) (m:List (Int × Int)):I0 n (.map (gm kb kv m)):=fun x hx=>by
 obtain ⟨y,_,rfl⟩:=F4.1 hx;exact ⟨.val _,.val _⟩
theorem c7W (n:Nat) (a b:List (Int × Str)):I0 n (.iter (gm kv sv a) (gm kv sv b)):=⟨fun x hx=>by
 obtain ⟨y,_,rfl⟩:=F4.1 hx;exact ⟨.val _,.val _⟩,fun x hx=>by
 obtain ⟨y,_,rfl⟩:=F4.1 hx;exact ⟨.val _,.val _⟩⟩
theorem c6O (m:List (Int × Int)):a3Q (.map (gm kb kv m)):=fun x hx=>by
 obtain ⟨y,_,rfl⟩:=F4.1 hx;exact ⟨.val _,.val _⟩
def InB (s:Str) (c:Int):Prop:=∃ b∈s,(b.toNat:Int)=c
instance (s:Str) (c:Int):Decidable (InB s c):=by unfold InB;exact inferInstance
def KL (m:List (Int × Int)) (left:List (Int × Str)):Prop:=left.Nodup/\(∀ x∈left,x∈M0)/\∀ c,(glk m c).getD 0=if ∃ x∈left,InB x.2 c then 0 else o0 c
theorem d3A:∀ x∈M0,∀ b∈x.2,o0 (b.toNat:Int)=x.1:=by decide
theorem c8i:∀ x∈M0,∀ y∈M0,x≠y->∀ b∈x.2,b∉y.2:=by decide
theorem c85:M0.Nodup:=by decide
theorem d7y:∀ c:Fin 256,o0 (c.val:Int)≠0->∃ x∈M0,∃ b∈x.2,(b.toNat:Int)=(c.val:Int):=by decide
theorem d3U {c:Int} (h:o0 c≠0):∃ x∈M0,∃ b∈x.2,(b.toNat:Int)=c:=by
 have hr:0<=c/\c < 256:=by
  unfold o0 at h;split at h;· omega
  split at h;· omega
  split at h;· omega
  split at h;· omega
  split at h;· omega
  split at h;· omega
  split at h;· omega
  split at h
  ·omega
  ·exact absurd rfl h
 obtain ⟨n,rfl⟩:∃ n:Nat,c=n:=⟨c.toNat,om_⟩;exact d7y ⟨n,om_⟩ h
theorem KL.start:KL [] M0:=by
 refine ⟨c85,fun x h=>h,fun c=>?_⟩
 split
 ·rfl
 ·rename_i dX;have:o0 c=0:=by
   rcases Int.decEq (o0 c) 0 with h | h
   ·exact absurd (d3U h) dX
   ·exact h
  rw [this];rfl
theorem KL.done (h:KL m []):KM m:=fun c=>by
 rw [h.2.2 c,n_0 si_]
theorem KL.step {m':List (Int × Int)} {left:List (Int × Str)} {x:Int × Str} (h:KL m left) (hx:left[i]? = some x) (hm:∀ c,(glk m' c).getD 0=if InB x.2 c then x.1 else (glk m c).getD 0):KL m' (left.eraseIdx i):=by
 obtain ⟨h1,h2,h3⟩:=h;have hxm:=h2 x (n_2 hx);have fe:∀ y,y∈left.eraseIdx i↔y∈left/\y≠x:=fun y=>by
  have ab:=(n_3.1 hx).1;have hxe:=(n_3.1 hx).2;constructor
  ·intro hy;obtain ⟨j,hj,eD⟩:=d0Y.1 hy;refine ⟨n_2 eD,fun e=>?_⟩;subst e;exact hj ((List.getElem?_inj (n_3.1 eD).1 h1).1 (by rw [eD,hx]))
  ·rintro ⟨hy,az⟩;obtain ⟨j,hj⟩:=M6.1 hy;refine d0Y.2 ⟨j,fun e=>?_,hj⟩;subst e;rw [hx] at hj;exact az (Option.some.inj hj).symm
 refine ⟨h1.sublist (List.eraseIdx_sublist _ _),fun y hy=>h2 y ((fe y).1 hy).1,fun c=>?_⟩;rw [hm c,h3 c];by_cases hc:InB x.2 c
 ·rw [n_1 hc,n_0]
  ·obtain ⟨b,hb,rfl⟩:=hc;exact (d3A x hxm b hb).symm
  ·rintro ⟨y,hy,b',hb',he⟩;obtain ⟨b,hb,hbc⟩:=hc;obtain ⟨dU,az⟩:=(fe y).1 hy;have:b'=b:=b66.1 om_;subst this;exact c8i y (h2 y dU) x hxm az b' hb' hb
 ·rw [n_0 hc];have iq:(∃ y∈left,InB y.2 c)↔∃ y∈left.eraseIdx i,InB y.2 c:=by
   constructor
   ·rintro ⟨y,hy,hb⟩;exact ⟨y,(fe y).2 ⟨hy,fun e=>hc (e ▸ hb)⟩,hb⟩
   ·rintro ⟨y,hy,hb⟩;exact ⟨y,((fe y).1 hy).1,hb⟩
  by_cases hh:∃ y∈left,InB y.2 c
  ·rw [n_1 hh,n_1 (iq.1 hh)]
  ·rw [n_0 hh,n_0 (fun h=>hh (iq.2 h))]
theorem a79 {α β:Type} {kc:α->CV} {vc:β->CV} (l:List (α × β)) (i:Nat):(gm kc vc l).eraseIdx i=gm kc vc (l.eraseIdx i):=by
 induction l generalizing i with
 | nil=>rfl
 | cons x l ih =>
  cases i with
  | zero=>rfl
  | succ i=>exact n_8 _ (ih i)
theorem b5X {α β:Type} {kc:α->CV} {vc:β->CV} {l:List (α × β)} {x:CV × CV} (h:(gm kc vc l)[i]? = some x):∃ y,l[i]? = some y/\x=(kc y.1,vc y.2):=by
 unfold gm at h;rw [O5,N6] at h;obtain ⟨y,h1,h2⟩:=h;exact ⟨y,h1,h2.symm⟩
theorem a14 (l:Str) (nn:Bool):r4 (.list (l.map bcv) nn none):=O6 (f:=bcv) (fun _=>⟨.val _,tt⟩) l nn
theorem a0P (n:Nat) (l:Str) (nn:Bool):Old n (.list (l.map bcv) nn none):=(a14 l nn).old
theorem d8T:∀ x∈M0,x.2.length<=26:=by decide
theorem c9T {m1:List (Int × Int)} {j:Nat} {k:Int} (hb:s[j]? = some b) (h:∀ c,(glk m1 c).getD 0=if InB (s.take j) c then k else (glk m c).getD 0) :
 ∀ c,(glk (U4 m1 (b.toNat:Int) k) c).getD 0=if InB (s.take (j+1)) c then k else (glk m c).getD 0:=fun c=>by
 have ht:s.take (j+1)=s.take j++[b]:=by
  obtain ⟨ab,rfl⟩:=n_3.1 hb;exact (b1w ab).symm
 rw [P1,ht];by_cases hc:c=(b.toNat:Int)
 ·rw [n_1 hc,n_1 ⟨b,si_,hc.symm⟩];rfl
 ·rw [n_0 hc,h c];have iq:InB (s.take j) c↔InB (s.take j++[b]) c:=by
   constructor
   ·rintro ⟨y,hy,e⟩;exact ⟨y,by simp [hy],e⟩
   ·rintro ⟨y,hy,e⟩
    rcases L8.1 hy with hy | hy
    ·exact ⟨y,hy,e⟩
    ·rw [a9H.1 hy] at e;exact absurd e.symm hc
  by_cases hh:InB (s.take j) c
  ·rw [n_1 hh,n_1 (iq.1 hh)]
  ·rw [n_0 hh,n_0 (fun h=>hh (iq.2 h))]
theorem c4M:b8 CC 123 [] [] fun r τ=>∃ m:List (Int × Int),a1q [b9.map (gm kb kv m)].length τ r (.ret (.map 0))/\a9X [b9.map (gm kb kv m)].length τ τ [.map (gm kb kv m)]/\([]:List b9).length<=[b9.map (gm kb kv m)].length/\KM m:=by
 refine qO Tryz.func123 ?_;refine qD (T9 rfl ?_);refine qD (T9 rfl ?_);refine qD (o3 (vc:=sv) (l:=M0.take 0) a0G (.inr rfl) tt rfl rfl rfl rfl rfl a2g rfl ?_);refine qD (o3 (vc:=sv) (l:=M0.take 1) a0G (.inr rfl) tt rfl rfl rfl rfl rfl a2g rfl ?_);refine qD (o3 (vc:=sv) (l:=M0.take 2) a0G (.inr rfl) tt rfl rfl rfl rfl rfl a2g rfl ?_);refine qD (o3 (vc:=sv) (l:=M0.take 3) a0G (.inr rfl) tt rfl rfl rfl rfl rfl a2g rfl ?_);refine qD (o3 (vc:=sv) (l:=M0.take 4) a0G (.inr rfl) tt rfl rfl rfl rfl rfl a2g rfl ?_);refine qD (o3 (vc:=sv) (l:=M0.take 5) a0G (.inr rfl) tt rfl rfl rfl rfl rfl a2g rfl ?_);refine qD (o3 (vc:=sv) (l:=M0.take 6) a0G (.inr rfl) tt rfl rfl rfl rfl rfl a2g rfl ?_);refine qD (o3 (vc:=sv) (l:=M0.take 7) a0G (.inr rfl) tt rfl rfl rfl rfl rfl a2g rfl ?_);refine qD (b0m rfl tt rfl a2g rfl ?_);refine j7 hCC (α:=List (Int × Int) × List (Int × Str) × List (Int × Str)) (fun _=>[(1,.map 0),(9,.ptr 2 0)]) (fun x=>[.map (gm kb kv x.1),.dead,.iter (gm kv sv x.2.1) (gm kv sv x.2.2)]) (fun x=>KL x.1 x.2.2) (fun x=>x.2.2.length) ([],[],M0) KL.start tu_ (ah:=[]) rfl z6 uz_ ?_;intro ⟨m,aD,left⟩ gA;dsimp only at gA ⊢;refine qk (qD (b5C rfl tt rfl rfl (fun hz=>?_) (fun i x hx=>?_)))
 ·
  have dv:left=[]:=by
   cases left with
   | nil=>rfl
   | cons y l=>cases hz
  subst dv;refine qC ?_ ?_<;>intro h1
  ·cases h1
  ·refine z_9 ?_;exact ⟨_,rE1,⟨m,.ret (.old (.map (Nat.zero_lt_one))),⟨.same (X5 _ _),tt⟩,n_4 _,gA.done⟩⟩
 ·
  obtain ⟨⟨k,s⟩,hy,rfl⟩:=b5X hx;rw [a79];have bA:=gA.2.1 _ (n_2 hy);have dQ:s.length<=26:=d8T _ bA;refine qC ?_ ?_<;>intro h3
  ·refine qY (b0o rfl tt rfl rfl) ?_;refine qY (d6I rfl tt rfl t_7 X7 b2z do_) ?_;refine qY a81 ?_;refine j7 hCC (α:=List (Int × Int) × Nat) (fun x=>[(1,.map 0),(2,iv k),(9,.ptr 2 0),(16,(.list (s.map bcv) true none)),(17,iv s.length),(18,iv x.2)]) (fun x=>[.map (gm kb kv x.1),.dead,.iter (gm kv sv [(k,s)]) (gm kv sv (left.eraseIdx i))]) (fun x=>x.2<=s.length/\∀ c,(glk x.1 c).getD 0=if InB (s.take x.2) c then k else (glk m c).getD 0) (fun x=>s.length - x.2) (m,0) ⟨n_4 _,fun c=>by rw [n_0 (by simp [InB])]⟩ tu_ (ah:=[]) rfl z6 uz_ ?_;intro ⟨m1,j⟩ ⟨hj,bX⟩;dsimp only at hj bX ⊢;refine qk (qC ?_ ?_)<;> intro h4
   ·have cd:(j:Int) < s.length:=sp_ h4;obtain ⟨b,hb⟩:=gx_ s j;refine qY (p9 rfl tt tt rfl rfl X7 a1w om_ (i8 hb) rfl) ?_;refine qD (o3 (vc:=kv) (l:=m1) (a:=(b.toNat:Int)) (b:=k) d3u (.inl rfl) tt tt trivial rfl rfl rfl c23 rfl ?_);refine qY l9 ?_;exact ⟨(U4 m1 (b.toNat:Int) k,j+1),_,⟨do_,do_,c9T hb bX⟩,tu_,rfl⟩
   ·have cd:s.length<=j:=by
     have:¬ (j:Int) < s.length:=sp_ h4;omega
    rw [U5 cd] at bX;refine j4 ?_;exact ⟨(m1,[(k,s)],left.eraseIdx i),_,⟨by dsimp only;rw [c11 (n_3.1 hy).1];have:=(n_3.1 hy).1;omega,gA.step hy bX⟩,tu_,rfl⟩
  ·cases h3
theorem b1W (σ:List b9):b8 CC 123 [] σ fun r τ=>∃ m:List (Int × Int),r = .ret (.map σ.length)/\τ=σ++[.map (gm kb kv m)]/\KM m :=
 a04 (α:=List (Int × Int)) (obs:=[]) (args:=[]) (res:=fun _=>.ret (.map 0)) (res':=fun _=>.ret (.map σ.length)) (S:=fun _=>[]) (N:=fun m=>[.map (gm kb kv m)]) (P:=KM) [] hCC rfl (fun i j k h=>by simp at h) (fun i k h=>by simp at h) (fun ob h=>by cases h) ⟨rfl,fun i c c' h=>by simp at h⟩
  (a05 (res:=fun _=>.ret (.map 0)) (S:=fun m=>[.map (gm kb kv m)]) (P:=KM) hCC c4M) (fun m _=>⟨rfl,fun ob h=>by simp at h;subst h;exact c6O m⟩) (fun m _=>.ret (.map (.inr ⟨n_4 _,rfl⟩)))
def inK (ks:List Int) (b:UInt8):Bool:=ks.any fun k=>decide (o0 b.toNat=k)
def A4 (s:Str) (a:Nat) (ks:List Int):Nat:=a+((s.drop a).takeWhile (inK ks)).length
theorem a8Z (h:s.length<=a):A4 s a ks=a:=by
 unfold A4;rw [V2 h];rfl
theorem W1 (h:s[a]? = some b):A4 s a ks=if inK ks b=true then A4 s (a+1) ks else a:=by
 obtain ⟨ab,rfl⟩:=n_3.1 h;unfold A4;rw [R2 ab,b9b]
 split
 ·rw [C5];omega
 ·rfl
theorem a1S (h:a<=s.length):a<=A4 s a ks/\A4 s a ks<=s.length:=by
 unfold A4;have:=(List.takeWhile_sublist (inK ks) (l:=s.drop a)).length_le;rw [b7c] at this;omega
theorem c6L {j:Nat} {k:Int} (h:ks[j]? = some k) (p:Int->Bool):(ks.take (j+1)).any p=((ks.take j).any p || p k):=by
 obtain ⟨ab,rfl⟩:=n_3.1 h;rw [<- b1w ab,List.any_append];simp
theorem d0u (s:Str) (at_:Nat) (ks:List Int) (nn:Bool) (m:List (Int × Int)) (hm:KM m) (ha:at_<=s.length) (hs:s.length<=1000000000000) (gA:ks.length<=1000000000000):b8 CC 124 [(sv s),iv at_,.map 0,(.list (ks.map icv) nn none)] [b9.map (gm kb kv m)] fun r τ=>∃ _:Unit,a1q [b9.map (gm kb kv m)].length τ r (.ret (iv (A4 s at_ ks:Int)))/\a9X [b9.map (gm kb kv m)].length τ τ [b9.map (gm kb kv m)]/\[b9.map (gm kb kv m)].length<=[b9.map (gm kb kv m)].length/\True:=by
 refine qO Tryz.func124 ?_;refine j7 hCC (α:=Nat) (fun i=>[(0,(sv s)),(1,iv i),(2,.map 0),(3,(.list (ks.map icv) nn none))]) (fun _=>[b9.map (gm kb kv m)]) (fun i=>i<=s.length/\A4 s at_ ks=A4 s i ks) (fun i=>s.length - i) at_ ⟨ha,rfl⟩ tu_ (ah:=[]) rfl z6 uz_ ?_;intro i ⟨hi,af⟩;refine a6S ?_;refine qC ?_ ?_<;>intro h1
 ·have bn:(i:Int) < s.length:=sp_ h1;obtain ⟨b,hb⟩:=gx_ s i;rw [W1 hb] at af;refine qY a1g ?_;refine j7 hCC (α:=Nat) (fun j=>[(0,(sv s)),(1,iv i),(2,.map 0),(3,(.list (ks.map icv) nn none)),(9,(.val (.bool ((ks.take j).any fun k=>decide (o0 b.toNat=k))))),(16,(.list (ks.map icv) nn none)),(17,iv ks.length),(18,iv j)]) (fun _=>[b9.map (gm kb kv m)]) (fun j=>j<=ks.length) (fun j=>ks.length - j) 0 (n_4 _) tu_ (ah:=[]) rfl z6 uz_ ?_;intro j hj;refine qk (qC ?_ ?_)<;> intro h2
  ·have cd:(j:Int) < ks.length:=sp_ h2;obtain ⟨k,hk⟩:=gx_ ks j;refine qY (p9 rfl tt tt rfl rfl t_4 t_1 om_ (i8 hk) rfl) ?_;refine a2Q ?_;refine qG D6 ?_;refine qG d9T ?_;refine qG (fun hg=>S9 (vc:=kv) (l:=m) (a:=(b.toNat:Int)) d3u rfl hg hg rfl rfl c23 t_8 rfl rfl (b5y _ _)) ?_;refine qG D6 ?_;refine b0R ?_;refine qY l9 ?_;exact ⟨(j+1),_,⟨om_,om_⟩,⟨k8,k8,k8,k8,⟨tt,(by rw [c6L hk,<- hm];rfl)⟩,k8,k8,k8,tt⟩,rfl⟩
  ·have cd:ks.length<=j:=by
    have:¬ (j:Int) < ks.length:=sp_ h2;omega
   refine j4 ?_;refine qC ?_ ?_<;>intro h3
   ·have dX:inK ks b=false:=by
     have:((ks.take j).any fun k=>decide (o0 b.toNat=k))=false:=sp_ h3;rwa [U5 cd] at this
    rw [dX] at af;refine z_9 ?_;exact ⟨_,rE1,⟨(),.ret (D2 (by rw [af];rfl)),⟨.same (X5 _ _),tt⟩,n_7 _,tt⟩⟩
   ·have hyes:inK ks b=true:=by
     have:((ks.take j).any fun k=>decide (o0 b.toNat=k))=true:=sp_ h3;rwa [U5 cd] at this
    rw [hyes] at af;refine qY l9 ?_;exact ⟨(i+1),_,⟨om_,om_,af⟩,tu_,rfl⟩
 ·have aE:s.length<=i:=by
   have:¬ (i:Int) < s.length:=sp_ h1;omega
  rw [a8Z aE] at af;refine z_9 ?_;exact ⟨_,rE1,⟨(),.ret (D2 (by rw [af])),⟨.same (X5 _ _),tt⟩,n_7 _,tt⟩⟩
theorem a7k {at_:Nat} {nn:Bool} (hm:KM m) (ha:at_<=s.length) (hs:s.length<=1000000000000) (gA:ks.length<=1000000000000) {σ:List b9} {q:Nat} (hq:σ[q]? = some (.map (gm kb kv m))):b8 CC 124 [(sv s),iv at_,.map q,(.list (ks.map icv) nn none)] σ fun r τ=>r = .ret (iv (A4 s at_ ks:Int))/\τ=σ :=
 b1n hCC (c6O m) (.val _) hq (.cons (.val _) (.cons (.val _) (.cons (.map rfl) (.cons (.pure (O7 _ _)) .nil)))) (d0u s at_ ks nn m hm ha hs gA)
def C3 (s:Str):Bool:=match s with
 | []=>false
 | b::_=>decide (s.length<=24) && decide (o0 b.toNat=1) && s.all (inK [1,2,3])
theorem a7s:A4 s 0 ks=s.length↔s.all (inK ks)=true:=by
 unfold A4;rw [a9L,L7];generalize inK ks=p
 induction s with
 | nil=>simp
 | cons b s ih =>
  rw [b9b,List.all_cons];cases hp:p b with
  | false=>simp
  | true =>
   simp only [if_true,C5,Nat.add_right_cancel_iff,b7e];exact ih
theorem c60 (h:1<=s.length):s[(0:Int).toNat]? = some (s.headD 0):=by
 cases s with
 | nil=>simp at h
 | cons b s=>rfl
theorem d2H (s:Str) (hm:KM m) {w:Bool} (h1:x=decide ((s.length:Int)>=1)) (h2:y=decide ((s.length:Int)<=24)) (h3:z=((glk m ((s.headD 0).toNat:Int)).getD 0 == 1)) (h4:w=((A4 s 0 [1,2,3]:Int) == (s.length:Int))):(((x && y) && z) && w)=C3 s:=by
 subst h1 h2 h3 h4;rw [hm];have h5:((A4 s 0 [1,2,3]:Int) == (s.length:Int))=s.all (inK [1,2,3]):=by
  cases h:s.all (inK [1,2,3]) with
  | true=>exact a2a (by have:=a7s.2 h;omega)
  | false =>
   refine a2f fun e=>?_;have:=a7s.1 (show A4 s 0 [1,2,3]=s.length by omega);rw [h] at this;cases this
 rw [h5];cases s with
 | nil=>rfl
 | cons b s =>
  have h6:decide (((b::s).length:Int)>=1)=true:=by simp;omega
  have h7:decide (((b::s).length:Int)<=24)=decide ((b::s).length<=24):=b1q.2 om_;rw [h6,h7];rfl
theorem a1F (s:Str) (σ:List b9):b8 CC 74 [(sv s)] σ fun r Y=>r = .ret (.val (.bool (C3 s)))/\Y=σ:=by
 refine b8.anyw hCC pu_ pu_ (c7 (qO Tryz.func74 ?_)) σ;refine qD (c4 rfl c7i trivial (b1W _) rfl ?_);intro m hm;refine qY Q2 ?_;refine a7I ?_;refine a3G ?_;refine a2Q ?_;refine qG e0U ?_;refine qG (fun hg=>S9 (vc:=kv) (l:=m) (a:=((s.headD 0).toNat:Int)) d3u rfl hg hg rfl rfl c23 t_8 rfl rfl (b5y _ _)) ?_;refine a3G ?_;refine a2Q ?_;refine qG (fun hg=>A8 ([1,2,3].map icv) rfl ⟨rfl,rfl,rfl,tt⟩ t_4 t_1 t_8 rfl rfl rfl rfl rfl rfl rfl rfl rfl) ?_;refine qG (fun hg=>c5 rfl c9N ⟨hg,rfl,hg,hg,tt⟩ (a7k hm (n_4 _) (sm_ hg) de_ rfl) rfl) ?_;refine a7I ?_;refine qG b39 ?_;refine qY M7 ?_;refine c6 ?_;exact ⟨_,rE1,_,_,rfl,rfl,j8 (d2H s hm rfl rfl rfl rfl)⟩
theorem b1a (s:Str) (c:UInt8) (σ:List b9):b8 CC 233 [(sv s),(.val (.int .u8 (c.toNat:Int)))] σ fun r Y=>r = .ret (iv (Go.Lib.indexByte s c))/\Y=σ:=by
 refine b8.anyw hCC pu_ pu_ (c7 (qO Tryz.func233 ?_)) σ;refine qY (c07 (e:=Extern.BytealgIndexByte.indexByte) rfl Tryz.func274 rfl rfl rfl rfl tt tt rfl rfl (fun w=>c5R s c w)) ?_;exact c0Q
theorem a6a (s:Str) (c:UInt8) (σ:List b9):b8 CC 189 [(sv s),(.val (.int .u8 (c.toNat:Int)))] σ fun r Y=>r = .ret (iv (Go.Lib.indexByte s c))/\Y=σ:=by
 refine b8.anyw hCC pu_ pu_ (c7 (qO Tryz.func189 ?_)) σ;exact d5K
theorem b54 (s:Str) (c:UInt8) (σ:List b9):b8 CC 298 [(sv s),(sv ([c]))] σ fun r Y=>r = .ret (iv (Go.Lib.indexByte s c))/\Y=σ:=by
 refine b8.anyw hCC pu_ pu_ (c7 (qO Tryz.func298 ?_)) σ;refine qY Q2 ?_;refine a2Q ?_;refine qG b0D ?_;refine qY R7 ?_;refine qC ?_ ?_<;>intro h1
 ·have hs:s=[c]:=by simp at h1;exact h1.symm
  subst hs;refine c6 ?_;exact ⟨_,rE1,_,_,rfl,rfl,D2 (by simp [Go.Lib.indexByte])⟩
 ·refine cC ?_ ?_<;>intro h2
  ·refine qk (qY (N5 rfl tt rfl rfl rfl t_7 om_ rfl) ?_);exact d5K
  ·simp at h2
theorem a8W (s:Str) (c:UInt8) (σ:List b9):b8 CC 263 [(sv s),(sv ([c]))] σ fun r Y=>r = .ret (iv (Go.Lib.indexByte s c))/\Y=σ:=by
 refine b8.anyw hCC pu_ pu_ (c7 (qO Tryz.func263 ?_)) σ;refine qY (c5 rfl Tryz.call298 j1 (b54 s c _) rfl) ?_;exact c0Q
theorem a8G (s:Str) (c:UInt8) (σ:List b9):b8 CC 262 [(sv s),(sv ([c]))] σ fun r Y=>r = .ret (iv (s.count c:Nat))/\Y=σ:=by
 refine b8.anyw hCC pu_ pu_ (c7 (qO Tryz.func262 ?_)) σ;refine qY Q2 ?_;refine cC ?_ ?_<;>intro h1
 ·simp at h1
 ·refine a6S ?_;refine cC ?_ ?_<;>intro h2
  ·refine qk (qY (N5 rfl tt rfl rfl rfl t_7 om_ rfl) ?_);refine qY (c07 (e:=Extern.BytealgCount.count) rfl Tryz.func297 rfl rfl rfl rfl tt tt rfl rfl (fun w=>c5d s c w)) ?_;exact c0Q
  ·simp at h2
def B6 (c:UInt8):Str->List Str
 | []=>[[]]
 | b::l=>if b=c then []::B6 c l else match B6 c l with
  | x::xs=>(b::x)::xs
  | []=>[[b]]
theorem a0W (c:UInt8) (s:Str):B6 c s≠[]:=by
 cases s with
 | nil=>simp [B6]
 | cons b l =>
  rw [B6]
  split
  ·simp
  ·split<;>simp
theorem a03 (c:UInt8) (s:Str):(B6 c s).length=s.count c+1:=by
 induction s with
 | nil=>rfl
 | cons b l ih =>
  rw [B6,List.count_cons];by_cases h:b=c
  ·rw [n_1 h,C5,ih,n_1 (sp_ h)]
  ·rw [n_0 h,n_0 (sp_ h)];cases hs:B6 c l with
   | nil=>exact absurd hs (a0W c l)
   | cons x xs=>rw [hs] at ih;simpa using ih
theorem a4L {c:UInt8}:∀ {s:Str},Go.Lib.indexByte s c = -1->B6 c s=[s]
 | [],_=>rfl
 | b::l,h=>by
  rw [Go.Lib.indexByte] at h;by_cases hb:b=c
  ·rw [n_1 (sp_ hb)] at h;omega
  ·rw [n_0 (sp_ hb)] at h;have hl:Go.Lib.indexByte l c = -1:=by
    have:=Go.Lib.indexByte_ge l c;split at h
    ·rename_i e;simpa using e
    ·omega
   rw [B6,n_0 hb,a4L hl]
theorem a5i {c:UInt8}:∀ {s:Str} {m:Nat},Go.Lib.indexByte s c=m->m < s.length/\B6 c s=s.take m::B6 c (s.drop (m+1))
 | [],m,h=>by rw [Go.Lib.indexByte] at h;omega
 | b::l,m,h=>by
  rw [Go.Lib.indexByte] at h;by_cases hb:b=c
  ·rw [n_1 (sp_ hb)] at h;have hm:m=0:=by omega
   subst hm;exact ⟨si_,by rw [B6,n_1 hb];rfl⟩
  ·rw [n_0 (sp_ hb)] at h;have hg:=Go.Lib.indexByte_ge l c;split at h
   ·omega
   ·rename_i e;have e':Go.Lib.indexByte l c≠-1:=sp_ e;obtain ⟨k,hk⟩:∃ k:Nat,Go.Lib.indexByte l c=k:=⟨(Go.Lib.indexByte l c).toNat,om_⟩;have hmk:m=k+1:=by omega
    subst hmk;obtain ⟨h1,h2⟩:=a5i hk;refine ⟨by simp;omega,?_⟩;rw [B6,n_0 hb,h2];rfl
theorem d1C (n:Nat) {k:Nat}:I0 n (.vec 1 (d.map scv++List.replicate k (scv []))):=fun r hr c hc=>by
 rcases L8.1 hr with hr | hr
 ·obtain ⟨x,_,rfl⟩:=F4.1 hr;simp [scv] at hc;subst hc;exact .val _
 ·have:=List.eq_of_mem_replicate hr;subst this;simp [scv] at hc;subst hc;exact .val _
theorem c8J {k:Nat} (hk:0 < k):(d.map scv++List.replicate k (scv []))[0+((d.length:Int)).toNat]? = some (scv []):=by
 rw [L7,a2c,a1f si_];simp [hk]
theorem d1S {n:Nat} {x:Str} (hk:d.length < n):(d.map scv++List.replicate (n - d.length) (scv [])).set (0+((d.length:Int)).toNat) (scv x)=(d++[x]).map scv++List.replicate (n - (d++[x]).length) (scv []):=by
 rw [L7,a2c,List.set_append,n_0 si_];obtain ⟨j,hj⟩:∃ j,n - d.length=j+1:=⟨n - d.length - 1,om_⟩;have h2:n - (d++[x]).length=j:=by simp;omega
 rw [hj,h2];simp [List.replicate_succ]
theorem a56 (s:Str) (c:UInt8) (hs:s.length<=1000000000) (σ:List b9):b8 CC 207 [(sv s),(sv ([c])),(iv (0)),(iv (-1))] σ fun r Y=>r = .ret (.list ((B6 c s).map scv) true none)/\Y=σ:=by
 refine b8.anyw hCC pu_ pu_ ?_ σ;have hcnt:=s.count_le_length (a:=c);have ca:([c]:Str).length=1:=rfl;refine c7 (cO Tryz.func207 ?_);refine qs 3 ?_;refine cC ?_ ?_<;>intro h1
 ·simp at h1
 ·refine qk (qY P0 ?_);refine cC ?_ ?_<;>intro h2
  ·simp at h2
  ·refine qk ?_;refine N8 hCC (α:=Unit) (fun _=>[(0,(sv s)),(1,(sv ([c]))),(2,(iv (0))),(3,(iv (((s.count c:Nat):Int)+1)))]) (fun _=>[]) (fun _=>True) z6 uz_ ?_ ?_
   ·
    refine qk ?_;refine cC ?_ ?_<;>intro h3
    ·refine qk (qY (c5 rfl Tryz.call262 j1 (a8G s c _) rfl) ?_);refine qY l9 ?_;exact ⟨(),_,tt,tu_,rfl⟩
    ·simp at h3
   ·intro _ _;refine a6S ?_;refine qY l9 ?_;refine qY (d6g rfl tt tt rfl rfl) ?_;refine qD (c0d rfl tt tt rfl rfl (n:=(s.count c+1)) (c:=(s.count c+1)) om_ om_ t_2 t_0 a32 t_3 rfl (a38 rfl) rfl om_ C1 a3Z ?_);refine qY V3 ?_;refine j7 hCC (α:=List Str × Str) (fun x=>[(0,(sv x.2)),(1,(sv ([c]))),(2,(iv (0))),(3,(iv ((s.count c:Nat):Int))),(9,.vec 0 0 (s.count c+1)),(10,iv x.1.length)]) (fun x=>[.vec 1 (x.1.map scv++List.replicate (s.count c+1 - x.1.length) (scv []))]) (fun x=>x.1.length<=s.count c/\B6 c s=x.1++B6 c x.2/\x.2.length<=s.length) (fun x=>s.count c+1 - x.1.length) ([],s) ⟨n_4 _,rfl,n_7 _⟩ ⟨k8,k8,k8,⟨tt,n_8 (fun z:Int=>(iv z)) om_⟩,k8,k8,tt⟩ (ah:=[]) rfl z6 uz_ ?_;intro ⟨d,u⟩ ⟨hd,af,hul⟩;dsimp only at hd af hul ⊢;have aj:=a03 c s;rw [af,n_6,a03 c u] at aj;refine qk (qC ?_ ?_)<;> intro h4
    ·have eI:d.length < s.count c:=sm_ h4;refine qY (c5 rfl Tryz.call263 j1 (a8W u c _) rfl) ?_;refine cC ?_ ?_<;>intro h5
     ·exfalso;have hneg:Go.Lib.indexByte u c = -1:=by
       have:=Go.Lib.indexByte_ge u c;have h5':Go.Lib.indexByte u c < 0:=sp_ h5;omega
      have h6:=a03 c u;rw [a4L hneg] at h6;simp at h6;omega
     ·have hm0:¬ Go.Lib.indexByte u c < 0:=sp_ h5;obtain ⟨m,hm⟩:∃ m:Nat,Go.Lib.indexByte u c=m:=⟨(Go.Lib.indexByte u c).toNat,om_⟩;obtain ⟨gP,hsu⟩:=a5i hm;rw [hm];refine qk (qY a4n ?_);refine qY (K8 (h:=m) rfl tt rfl t_7 rfl a5B a4k a4k) ?_;refine qY (T8 rfl tt tt rfl rfl t_2 t_0 rfl om_ om_) ?_;refine qD (P8 ((d++[u.take m]).map scv++List.replicate (s.count c+1 - (d++[u.take m]).length) (scv [])) rfl tt tt rfl j3 t_0 (.inl rfl) rfl (c8J (d:=d) (k:=s.count c+1 - d.length) om_) rfl (nb rfl) (by exact d1S (d:=d) (x:=u.take m) (n:=s.count c+1) om_) rfl ?_);refine qY Q2 ?_;refine qY a4n ?_;refine qY (K8 (a:=(m+1)) rfl tt rfl t_7 a5B rfl a4k a4k) ?_;refine qY l9 ?_;exact ⟨(d++[u.take m],u.drop (m+1)),_,⟨by simp;omega,by simp;omega,by rw [af,hsu];simp,by simp;omega⟩,⟨⟨tt,(n_8 sv (show (u.take u.length).drop (m+1)=u.drop (m+1) by rw [a57]))⟩,k8,k8,k8,k8,⟨tt,n_8 (fun z:Int=>(iv z)) si_⟩,tt⟩,rfl⟩
    ·have eI:d.length=s.count c:=by
      have:¬ (d.length:Int) < ((s.count c:Nat):Int):=sp_ h4;omega
     have hu1:B6 c u=[u]:=by
      apply a4L;have h6:=a03 c u;have hg:=Go.Lib.indexByte_ge u c
      rcases Int.lt_or_le (Go.Lib.indexByte u c) 0 with h | h
      ·omega
      ·obtain ⟨m,hm⟩:∃ m:Nat,Go.Lib.indexByte u c=m:=⟨(Go.Lib.indexByte u c).toNat,om_⟩;obtain ⟨_,h7⟩:=a5i hm;have h8:=n_8 List.length h7;have h9:=a0W c (u.drop (m+1));have aY:=a94.2 h9;simp only [C5] at h8;omega
     rw [hu1] at af;refine j4 ?_;refine qY (T8 rfl tt tt rfl rfl t_2 t_0 rfl om_ om_) ?_;refine qD (P8 ((d++[u]).map scv++List.replicate (s.count c+1 - (d++[u]).length) (scv [])) rfl tt tt rfl j3 t_0 (.inl rfl) rfl (c8J (d:=d) (k:=s.count c+1 - d.length) om_) rfl (nb rfl) (by exact d1S (d:=d) (x:=u) (n:=s.count c+1) om_) rfl ?_);refine qY l9 ?_;refine qY (a3i (h:=(d.length+1)) rfl tt rfl t_2 t_0 rfl rfl a5B a4g (by first|(simp;done)|(simp;omega))) ?_;refine c6 ?_;exact ⟨_,rE1,_,_,rfl,rfl,.vecs (n_4 _) rfl (by first|(simp;done)|(simp;omega)) (by rw [af,a9L];exact List.take_left' si_) (fun r hr c hc=>(C4 (f:=scv) (fun _=>O4.all ⟨.val _,tt⟩) _) r hr c hc)⟩
theorem a8o (s:Str) (c:UInt8) (hs:s.length<=1000000000) (σ:List b9):b8 CC 162 [(sv s),(sv ([c]))] σ fun r Y=>r = .ret (.list ((B6 c s).map scv) true none)/\Y=σ:=by
 refine b8.anyw hCC pu_ pu_ (c7 (qO Tryz.func162 ?_)) σ;refine qY (c5 rfl Tryz.call207 ⟨tt,tt,rfl,rfl,tt⟩ (a56 s c hs _) rfl) ?_;refine c6 ?_;exact ⟨_,rE1,_,_,rfl,rfl,(U2 rfl (F5 _ _))⟩
def a4j (p:Str):Bool:=decide (1<=p.length) && decide (p.length<=24) && p.all (inK [1,2,3,4])
def H3 (s:Str):Bool:=decide (s.length<=80) && decide ((B6 47 s).length<=8) && (B6 47 s).all a4j
theorem c5G {c:UInt8}:∀ p∈B6 c s,p.length<=s.length:=by
 induction s with
 | nil=>intro p hp;simp [B6] at hp;subst hp;simp
 | cons b l ih =>
  intro p hp;rw [B6] at hp;by_cases h:b=c
  ·rw [n_1 h] at hp
   rcases J5.1 hp with rfl | hp
   ·simp
   ·have:=ih p hp;simp;omega
  ·rw [n_0 h] at hp;cases hs:B6 c l with
   | nil=>exact absurd hs (a0W c l)
   | cons x xs =>
    rw [hs] at hp ih
    rcases J5.1 hp with rfl | hp
    ·have:=ih x si_;simp;omega
    ·have:=ih p (by simp [hp]);simp;omega
theorem c2R (p:Str) (h1:x=decide ((p.length:Int) < 1)) (h2:y=decide ((p.length:Int) > 24)) (h3:z = !((A4 p 0 [1,2,3,4]:Int) == (p.length:Int))):((x || y) || z) = !a4j p:=by
 subst h1 h2 h3;have h5:((A4 p 0 [1,2,3,4]:Int) == (p.length:Int))=p.all (inK [1,2,3,4]):=by
  cases h:p.all (inK [1,2,3,4]) with
  | true=>exact a2a (by have:=a7s.2 h;omega)
  | false =>
   refine a2f fun e=>?_;have:=a7s.1 (show A4 p 0 [1,2,3,4]=p.length by omega);rw [h] at this;cases this
 rw [h5,a4j];have h6:decide ((p.length:Int) < 1) = !decide (1<=p.length):=by by_cases h:1<=p.length<;>simp [h]<;>omega
 have h7:decide ((p.length:Int) > 24) = !decide (p.length<=24):=by by_cases h:p.length<=24<;>simp [h]<;>omega
 rw [h6,h7];simp [Bool.not_and]
theorem a1C (s:Str) (hs:s.length<=1000000000) (σ:List b9):b8 CC 118 [(sv s)] σ fun r Y=>r = .ret (.val (.bool (H3 s)))/\Y=σ:=by
 refine b8.anyw hCC pu_ pu_ (c7 (qO Tryz.func118 ?_)) σ;refine qY (c5 rfl Tryz.call162 o6 (a8o s 47 hs _) rfl) ?_;refine qY Q2 ?_;refine qG D6 ?_;refine qG (fun hg=>a0f rfl hg rfl t_2 a7N rfl) ?_;refine a4c ?_;refine qC ?_ ?_<;>intro h1
 ·have dX:H3 s=false:=by
   unfold H3;have eF:(decide ((s.length:Int) > 80) || decide (((B6 47 s).length:Int) > 8))=true:=h1;by_cases h:s.length<=80
   ·have h2:¬ (B6 47 s).length<=8:=by
     intro h2;have e1:decide ((s.length:Int) > 80)=false:=a2f om_;have e2:decide (((B6 47 s).length:Int) > 8)=false:=a2f om_;rw [e1,e2] at eF;cases eF
    simp [h2]
   ·simp [h]
  exact d3s
 ·have bh:s.length<=80/\(B6 47 s).length<=8:=by
   have eF:(decide ((s.length:Int) > 80) || decide (((B6 47 s).length:Int) > 8))=false:=h1;simp only [b6f,b2R] at eF;omega
  refine qD (c4 rfl c7i trivial (b1W _) rfl ?_);intro m hm;refine qY J3 ?_;refine j7 hCC (α:=Nat) (fun i=>[(4,.map 0),(18,(.list ((B6 47 s).map scv) true none)),(19,(iv ((B6 47 s).length:Int))),(20,iv i)]) (fun _=>[.map (gm kb kv m)]) (fun i=>i<=(B6 47 s).length/\((B6 47 s).take i).all a4j=true) (fun i=>(B6 47 s).length - i) 0 ⟨n_4 _,rfl⟩ tu_ (ah:=[]) rfl z6 uz_ ?_;intro i ⟨hi,bq⟩;refine qk (qC ?_ ?_)<;> intro h2
  ·have bn:(i:Int) < (B6 47 s).length:=sp_ h2;obtain ⟨p,hp⟩:∃ p,(B6 47 s)[i]? = some p:=⟨(B6 47 s)[i]'om_,si_⟩;have aX:=c5G p (n_2 hp);refine qY (p9 rfl tt tt rfl rfl t_2 t_0 om_ (i8 hp) rfl) ?_;refine qY Q2 ?_;refine a7I ?_;refine a4c ?_;refine a2Q ?_;refine qG (fun hg=>A8 ([1,2,3,4].map icv) rfl ⟨rfl,rfl,rfl,rfl,tt⟩ t_4 t_1 t_8 rfl rfl rfl rfl rfl rfl rfl rfl rfl) ?_;refine qG (fun hg=>c5 rfl c9N ⟨hg,rfl,hg,hg,tt⟩ (a7k hm (n_4 _) om_ de_ rfl) rfl) ?_;refine a7I ?_;refine b0R ?_;refine qC ?_ ?_<;>intro h3
   ·have hbad:a4j p=false:=by
     have h3':true = !a4j p:=Eq.trans (Eq.symm h3) (c2R p rfl rfl rfl);simpa using h3'.symm
    have dX:H3 s=false:=by
     unfold H3;have:(B6 47 s).all a4j=false:=by
      rw [c27];intro hh;have:=a5D.1 hh p (n_2 hp);rw [hbad] at this;cases this
     rw [this];simp
    exact d3s
   ·have hgood:a4j p=true:=by
     have h3':false = !a4j p:=Eq.trans (Eq.symm h3) (c2R p rfl rfl rfl);simpa using h3'.symm
    refine qY l9 ?_;exact ⟨(i+1),_,⟨om_,om_,by
     obtain ⟨ab,he⟩:=n_3.1 hp;rw [<- b1w ab,List.all_append,bq,he];simp [hgood]⟩,tu_,rfl⟩
  ·have aE:(B6 47 s).length<=i:=by
    have:¬ (i:Int) < (B6 47 s).length:=sp_ h2;omega
   rw [U5 aE] at bq;refine z_9 ?_;exact ⟨_,rE1,_,_,rfl,rfl,j8 (by rw [H3,bq];simp [bh.1,bh.2])⟩
theorem d2a (c:Int):(decide (c>=97) && decide (c<=122))=decide (o0 c=1):=by
 by_cases h:97<=c/\c<=122
 ·have e:o0 c=1:=by unfold o0;rw [n_1 h]
  simp [e,h.1,h.2]
 ·have e:o0 c≠1:=by
   unfold o0;rw [n_0 h]
   repeat' split
   all_goals omega
  have e2:¬ (c>=97/\c<=122):=h;simp only [a2f e];by_cases h1:c>=97
  ·have h2:¬ c<=122:=fun h2=>h ⟨h1,h2⟩;simp [h2]
  ·simp [h1]
theorem d3i (b:UInt8) (hx:x=decide (o0 b.toNat=1)) (hy:y=(decide ((b.toNat:Int)>=48) && decide ((b.toNat:Int)<=57))) (hz:z=((b.toNat:Int) == 95)):((x || y) || z)=inK [1,2,3] b:=by
 subst hx hy hz;unfold inK;generalize (b.toNat:Int)=c;have h2:(decide (c>=48) && decide (c<=57))=decide (o0 c=2):=by
  by_cases h:48<=c/\c<=57
  ·have e:o0 c=2:=by unfold o0;rw [n_0 om_,n_1 h]
   simp [e,h.1,h.2]
  ·have e:o0 c≠2:=by
    unfold o0
    repeat' split
    all_goals omega
   simp only [a2f e];by_cases h1:c>=48
   ·have h2:¬ c<=57:=fun h2=>h ⟨h1,h2⟩;simp [h2]
   ·simp [h1]
 have h3:(c == 95)=decide (o0 c=3):=by
  by_cases h:c=95
  ·subst h;rfl
  ·have e:o0 c≠3:=by
    unfold o0
    repeat' split
    all_goals omega
   rw [a2f e];simp [h]
 rw [h2,h3];simp [Bool.or_assoc]
theorem a42 (b:UInt8) (σ:List b9):b8 CC 131 [(.val (.int .u8 (b.toNat:Int)))] σ fun r Y=>r = .ret (.val (.bool (decide (o0 b.toNat=1))))/\Y=σ:=by
 refine b8.anyw hCC pu_ pu_ (c7 (qO Tryz.func131 ?_)) σ;refine qG D6 ?_;refine a3G ?_;refine c6 ?_;exact ⟨_,rE1,_,_,rfl,rfl,j8 (d2a _)⟩
theorem a6D (b:UInt8) (σ:List b9):b8 CC 119 [(.val (.int .u8 (b.toNat:Int)))] σ fun r Y=>r = .ret (.val (.bool (inK [1,2,3] b)))/\Y=σ:=by
 refine b8.anyw hCC pu_ pu_ (c7 (qO Tryz.func119 ?_)) σ;refine qY (c5 rfl c8U ⟨tt,tt⟩ (a42 b _) rfl) ?_;refine qG D6 ?_;refine b8K ?_;refine qH rfl rfl (fun hk hg=>a2S rfl tt j3) ?_;refine d2F ?_;refine qY R7 ?_;refine qG D6 ?_;refine a4c ?_;refine c6 ?_;exact ⟨_,rE1,_,_,rfl,rfl,j8 (d3i b rfl rfl rfl)⟩
theorem d9u (h:(((decide ((s.length:Int) < 1)) || decide ((s.length:Int) > 24)) || !decide (o0 ((s.headD 0).toNat:Int)=1))=true):C3 s=false:=by
 cases s with
 | nil=>rfl
 | cons b l =>
  unfold C3;by_cases h1:(b::l).length<=24
  ·have e1:decide (((b::l).length:Int) > 24)=false:=a2f om_;have e2:decide (((b::l).length:Int) < 1)=false:=a2f L4;rw [e1,e2] at h;have h3:o0 (b.toNat:Int)≠1:=sp_ h;simp [h3]
  ·simp only [a2f h1,Bool.false_and]
theorem e0Y (h:(((decide ((s.length:Int) < 1)) || decide ((s.length:Int) > 24)) || !decide (o0 ((s.headD 0).toNat:Int)=1))=false) (ha:s.all (inK [1,2,3])=true):C3 s=true:=by
 cases s with
 | nil=>simp at h
 | cons b l =>
  simp only [b6f,b2R,Bool.not_eq_false'] at h;unfold C3;have h1:(b::l).length<=24:=by omega
  have h3:o0 (b.toNat:Int)=1:=sp_ h.2;rw [ha];simp only [a2a h1,a2a h3];rfl
theorem d3k (hb:s[i]? = some b) (h:inK [1,2,3] b=false):C3 s=false:=by
 cases s with
 | nil=>rfl
 | cons x l =>
  unfold C3;have:(x::l).all (inK [1,2,3])=false:=by
   rw [c27];intro hh;have:=a5D.1 hh b (n_2 hb);rw [h] at this;cases this
  rw [this];show (_ && false)=false;rw [Bool.and_false]
theorem c6X {p:UInt8->Bool} (hb:s[i]? = some b) (ha:(s.take i).all p=true) (h:p b=true):(s.take (i+1)).all p=true:=by
 obtain ⟨ab,rfl⟩:=n_3.1 hb;rw [<- b1w ab,List.all_append,ha];simp [h]
theorem a1D (s:Str) (σ:List b9):b8 CC 85 [(sv s)] σ fun r Y=>r = .ret (.val (.bool (C3 s)))/\Y=σ:=by
 refine b8.anyw hCC pu_ pu_ (c7 (qO Tryz.func85 ?_)) σ;refine qY Q2 ?_;refine a7I ?_;refine a4c ?_;refine qG D6 ?_;refine qG e0U ?_;refine qG (fun hg=>c5 rfl c8U ⟨hg,tt⟩ (a42 (s.headD 0) _) rfl) ?_;refine b73 ?_;refine qC ?_ ?_<;>intro h1
 ·have dX:C3 s=false:=d9u h1;exact d3s
 ·have bh:=e0Y h1;have hs:s.length<=24:=sm_ h1;refine j7 hCC (α:=Nat) (fun i=>[(0,(sv s)),(3,iv i)]) (fun _=>[]) (fun i=>i<=s.length/\(s.take i).all (inK [1,2,3])=true) (fun i=>s.length - i) 0 ⟨n_4 _,rfl⟩ tu_ (ah:=[]) rfl z6 uz_ ?_;intro i ⟨hi,bq⟩;refine a6S ?_;refine qC ?_ ?_<;>intro h2
  ·have bn:(i:Int) < s.length:=sp_ h2;obtain ⟨b,hb⟩:=gx_ s i;refine qY b7f ?_;refine qY (c5 rfl c9B ⟨tt,tt⟩ (a6D b _) rfl) ?_;refine qC ?_ ?_<;>intro h3
   ·have dX:C3 s=false:=d3k hb (sp_ h3);exact d3s
   ·refine qY l9 ?_;exact ⟨(i+1),_,⟨om_,om_,c6X hb bq (sp_ h3)⟩,tu_,rfl⟩
  ·have aE:s.length<=i:=by
    have:¬ (i:Int) < s.length:=sp_ h2;omega
   rw [U5 aE] at bq;refine z_9 ?_;exact ⟨_,rE1,_,_,rfl,rfl,j8 (by rw [bh bq])⟩
theorem d6s (b:UInt8) (hx:x=inK [1,2,3] b) (hy:y=((b.toNat:Int) == 46)):(x || y)=inK [1,2,3,4] b:=by
 subst hx hy;unfold inK;generalize (b.toNat:Int)=c;have h4:(c == 46)=decide (o0 c=4):=by
  by_cases h:c=46
  ·subst h;rfl
  ·have e:o0 c≠4:=by
    unfold o0
    repeat' split
    all_goals omega
   rw [a2f e];simp [h]
 rw [h4];simp [Bool.or_assoc]
def a10 (aU parts:Nat) (u:Str):Bool:=match B6 47 u with
 | []=>false
 | p::ps=>decide (1<=aU+p.length) && decide (aU+p.length<=24) && p.all (inK [1,2,3,4]) && ps.all a4j && decide (parts+ps.length<=8)
theorem c0O (h:s.length<=80):H3 s=a10 0 1 s:=by
 unfold H3 a10;cases hs:B6 47 s with
 | nil=>exact absurd hs (a0W 47 s)
 | cons p ps =>
  have e1:decide ((p::ps).length<=8)=decide (1+ps.length<=8):=by rw [C5,b5S]
  rw [e1,a2a h];simp only [List.all_cons,a4j,L7,b7e];cases decide (1+ps.length<=8)<;>simp
theorem d1r:a10 aU parts []=(decide (1<=aU) && decide (aU<=24) && decide (parts<=8)):=by
 simp [a10,B6]
theorem c1n (h:aU<=24):a10 aU parts (47::u)=(decide (1<=aU) && a10 0 (parts+1) u):=by
 unfold a10;rw [B6,n_1 rfl];cases hs:B6 47 u with
 | nil=>exact absurd hs (a0W 47 u)
 | cons p ps =>
  have e:decide (parts+(p::ps).length<=8)=decide (parts+1+ps.length<=8):=b1q.2 L4;simp only [e,List.all_cons,a4j,L7,I8,a8l,a2a h,List.all_nil,Bool.and_true,b0w]
theorem d3L (hb:b≠47) (hk:inK [1,2,3,4] b=true):a10 aU parts (b::u)=a10 (aU+1) parts u:=by
 unfold a10;rw [B6,n_0 hb];cases hs:B6 47 u with
 | nil=>exact absurd hs (a0W 47 u)
 | cons p ps =>
  have e:aU+(b::p).length=aU+1+p.length:=by simp;omega
  simp only [e,List.all_cons,hk,b7e]
theorem c79 (hb:b≠47) (hk:inK [1,2,3,4] b=false):a10 aU parts (b::u)=false:=by
 unfold a10;rw [B6,n_0 hb];cases hs:B6 47 u with
 | nil=>exact absurd hs (a0W 47 u)
 | cons p ps=>simp [hk]
theorem c4v (h:24 < aU):a10 aU parts u=false:=by
 unfold a10
 split
 ·rfl
 ·rename_i p ps _;have:¬ aU+p.length<=24:=by omega
  simp [this]
theorem c8c (h:s[i]? = some b):s.drop i=b::s.drop (i+1):=by
 obtain ⟨ab,rfl⟩:=n_3.1 h;exact R2 ab
theorem c6K:(decide ((aU:Int) > 0) && decide ((parts:Int)<=8))=(decide (1<=aU) && decide (parts<=8)):=by
 have e1:decide ((aU:Int) > 0)=decide (1<=aU):=b1q.2 om_;have e2:decide ((parts:Int)<=8)=decide (parts<=8):=b1q.2 om_;rw [e1,e2]
theorem a1E (s:Str) (σ:List b9):b8 CC 61 [(sv s)] σ fun r Y=>r = .ret (.val (.bool (H3 s)))/\Y=σ:=by
 refine b8.anyw hCC pu_ pu_ (c7 (qO Tryz.func61 ?_)) σ;refine qY Q2 ?_;refine qC ?_ ?_<;>intro h1
 ·have h80:¬ s.length<=80:=by
   have:(s.length:Int) > 80:=sp_ h1;omega
  refine c6 ?_;exact ⟨_,rE1,_,_,rfl,rfl,j8 (by simp [H3,h80])⟩
 ·have h80:s.length<=80:=by
   have:¬ (s.length:Int) > 80:=sp_ h1;omega
  refine j7 hCC (α:=Nat × Nat × Nat) (fun x=>[(0,(sv s)),(3,iv x.2.1),(4,iv x.2.2),(5,iv x.1)]) (fun _=>[]) (fun x=>x.1<=s.length/\x.2.2<=24/\x.2.1<=x.1+1/\H3 s=a10 x.2.2 x.2.1 (s.drop x.1)) (fun x=>s.length - x.1) (0,1,0) ⟨n_4 _,de_,de_,c0O h80⟩ tu_ (ah:=[]) rfl z6 uz_ ?_;intro ⟨i,parts,aU⟩ ⟨hi,gG,hpa,aL⟩;dsimp only at hi gG hpa aL ⊢;refine a6S ?_;refine qC ?_ ?_<;>intro h2
  ·have bn:(i:Int) < s.length:=sp_ h2;obtain ⟨b,hb⟩:=gx_ s i;rw [c8c hb] at aL;refine qY b7f ?_;refine qC ?_ ?_<;>intro h3
   ·have hb47:b=47:=by
     have h47:(b.toNat:Int)=47:=sp_ h3;have h48:(47:UInt8).toNat=47:=rfl;exact b66.1 om_
    subst hb47;rw [c1n gG] at aL;refine qC ?_ ?_<;>intro h4
    ·have dv:aU=0:=by
      have:(aU:Int)=0:=sp_ h4;omega
     subst dv;refine c6 ?_;exact ⟨_,rE1,_,_,rfl,rfl,j8 (show false=H3 s by rw [aL];rfl)⟩
    ·have dv:1<=aU:=by
      have:¬ (aU:Int)=0:=sp_ h4;omega
     rw [a2a dv,b7e] at aL;refine qY l9 ?_;refine cC ?_ ?_<;>intro h5
     ·exfalso;simp at h5
     ·refine a4T ?_;exact ⟨(i+1,parts+1,0),_,⟨do_,do_,do_,do_,aL⟩,tu_,rfl⟩
   ·have hb47:b≠47:=by
     intro e;subst e;simp at h3
    refine qY b7f ?_;refine qY (c5 rfl c9B ⟨tt,tt⟩ (a6D b _) rfl) ?_;refine a2Q ?_;refine qG d9T ?_;refine a4c ?_;refine qC ?_ ?_<;>intro h6
    ·have bC:inK [1,2,3,4] b=true:=Eq.trans (Eq.symm (d6s b rfl rfl)) h6;rw [d3L hb47 bC] at aL;refine qY l9 ?_;refine qC ?_ ?_<;>intro h7
     ·have hbig:24 < aU+1:=by
       have:((aU:Int)+1) > 24:=sp_ h7;omega
      refine c6 ?_;exact ⟨_,rE1,_,_,rfl,rfl,j8 (show false=H3 s by rw [aL,c4v hbig])⟩
     ·have hbig:aU+1<=24:=by
       have:¬ ((aU:Int)+1) > 24:=sp_ h7;omega
      refine qY l9 ?_;exact ⟨(i+1,parts,aU+1),_,⟨do_,do_,hbig,do_,aL⟩,tu_,rfl⟩
    ·have bC:inK [1,2,3,4] b=false:=Eq.trans (Eq.symm (d6s b rfl rfl)) h6;rw [c79 hb47 bC] at aL;refine c6 ?_;exact ⟨_,rE1,_,_,rfl,rfl,j8 (show false=H3 s from aL.symm)⟩
  ·have aE:s.length<=i:=by
    have:¬ (i:Int) < s.length:=sp_ h2;omega
   rw [V2 aE,d1r,a2a gG,Bool.and_true] at aL;refine j4 ?_;refine qG D6 ?_;refine a3G ?_;refine c6 ?_;exact ⟨_,rE1,_,_,rfl,rfl,j8 (Eq.trans c6K aL.symm)⟩
end Go.Proofs.YtlppbmfecjabeaaGreatDoor
