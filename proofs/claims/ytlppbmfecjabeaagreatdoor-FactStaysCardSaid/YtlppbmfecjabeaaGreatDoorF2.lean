/- Part 2 of what the claim needs: values without addresses, and what the program's functions do with them. -/
import Derived.Lib.Bytealg
import Derived.Recover
import Derived.Lib.Builder
import Derived.Lib.UnsafeStr
import Derived.Sort.Grow
import Derived.Deep.Draws
import Derived.Lib.LaidTab
import Derived.Lib.MakeNoZero
import Derived.RangeFuncSeq
import Derived.RangeFuncCalls
import Derived.Scope
import Derived.Shelf.Lays
import Derived.Sort.AssemblyPlain
import Derived.Sort.EveryDepth
import Derived.Shelf.Sort.WalkASIn
import Derived.Shelf.Sort.Walk7sIn
import Derived.Shelf.Sort.Walk11sIn
import Derived.Shelf.Sort.WalkC5sIn
import Derived.Shelf.Sort.WalkC4sIn
import Derived.Shelf.Sort.WalkB3sIn
import Derived.Shelf.Sort.Walk13sIn
import Derived.Shelf.Sort.WalkTopsIn
import Derived.Shelf.Sort.So_math_bits_LenInS
import Derived.Shelf.RegionOpen
import Derived.Shelf.AbstractIn
import Derived.Test.YtlppbmfecjabeaaGreatDoorProg
import Derived.Test.YtlppbmfecjabeaaGreatDoorF1
set_option linter.all false
set_option maxRecDepth 100000
set_option maxHeartbeats 4000000
namespace Go.Cl
variable {t t' e et src dst kt:TypeId} {x y m kx:Operand} {C:Ctx} {K:Q9->List b9->Prop} {f:FuncId} {w:World} {c c':CV} {σ obs:List b9} {args args' cells cargs:List CV} {α β:Type} {R R':Nat->Nat->Prop} {M:A5} {k q off i n id:Nat} {P:Program} {a:α} {p:Pl} {E:Env} {aa:Array Oper} {Q:A8->Env->List b9->Prop} {z v:Value} {o:Oper} {qs fl:List Nat} {S:List (List b9->Prop)} {b ob:b9} {res:α->Q9} {V:List (List CV)} {xs:Array Operand} {ts:Array TypeId}
theorem c2N {M0:A5} (hr:Rel C M σ w) {len s:Nat} (hp:M.pl[k]? = some p) (ao:σ[k]? = some (.vec s V)) (aJ:off+len<=V.length) (eb:∀ r∈V,∀ c∈r,u0 c)
 (aV:∀ b o,M.at b o->M0.at b o) (hfp:M0.full p.block) {v:Value} (hv:RV M w (.vec k off len) v):RV M0 w (.list ((V.drop off).take len) true none) v:=by
 cases hv with
 | vec aG g1 g2 g3 =>
  rename_i p' a;rw [hp] at aG;injection aG with aG
  subst aG;obtain ⟨⟨co,q1,q2,q3,q4,ak,ty,q5,q6,q7⟩,_⟩:=hr.obj k p _ hp ao;have aj:((V.drop off).take len).length=len:=by simp;omega
  have aq:∀ i r,((V.drop off).take len)[i]? = some r->i < len/\V[off+i]? = some r:=fun i r hi=>by
   rw [a2I] at hi;split at hi
   ·rw [a5s] at hi;exact ⟨‹_›,hi⟩
   ·cases hi
  have fJ:(V.drop off).take len≠[]->off < p.cap:=fun aC=>by
   have:0 < ((V.drop off).take len).length:=b1w.2 aC;omega
  refine RV.list' (L:=len) om_ (b:=p.block) (off:=off*p.size) (s:=p.size) (fun i j=>ak.getD ((off+i)*p.size+j) undef) om_ om_ rfl (fun h=>by cases h) (fun aC=>by rw [g3 (fJ aC)]) (fun r bp=>?_) (fun r bp c bC=>?_) (fun i j r c hi hj=>?_) (fun i j r c hi hj=>?_) (fun k hk=>by cases hk)
  ·obtain ⟨i,hi⟩:=L7.1 bp;exact q3 r (n_2 (aq i r hi).2)
  ·obtain ⟨i,hi⟩:=L7.1 bp;exact q4 r (n_2 (aq i r hi).2) c bC
  ·obtain ⟨bh,hri⟩:=aq i r hi;have bU:j < p.size:=by have:=(n_3.1 hj).1;rwa [q3 r (n_2 hri)] at this
   have hq:(off+i)*p.size+j < ak.size:=by
    rw [q6];have:(off+i+1)*p.size<=p.cap*p.size:=R6 _ om_;rw [R3 (off+i)] at this;omega
   refine ⟨.inl hfp,?_⟩;rw [show off*p.size+i*p.size+j=(off+i)*p.size+j from by rw [R3 off]];simp [World.cell?,q5,hq]
  ·obtain ⟨bh,hri⟩:=aq i r hi;exact (q7 _ _ _ _ hri hj).pure (fun b o h=>⟨aV b o h,rfl⟩) (eb r (n_2 hri) c (n_2 hj))
theorem a5z {len s:Nat} {v0:Value} (hC:C.plain) (ap:∀ a∈args,u0 a) (eb:∀ r∈V,∀ c∈r,u0 c) (aJ:off+len<=V.length) (hk:σ[k]? = some (.vec s V))
 (h:b8 C f (.list ((V.drop off).take len) true none::args) [] fun r Y=>r = .ret (.val v0)/\Y=[]):b8 C f (.vec k off len::args) σ fun r Y=>r = .ret (.val v0)/\Y=σ :=
 fun M w vs hr hn hx=>by
  have bx:k < σ.length:=(n_3.1 hk).1;obtain ⟨q,hq⟩:∃ p,M.pl[k]? = some p:=⟨M.pl[k]'(by rw [hr.len];exact bx),si_⟩;obtain ⟨hqo,hqf⟩:=hr.obj k q _ hq hk
  let LB:Nat->Prop:=fun b=>∃ (k:Nat) (p:Pl) (ob:b9),M.pl[k]? = some p/\σ[k]? = some ob/\ob.live=true/\p.block=b
  let M0:A5:={ pl:=[],full:=fun b=>M.full b\/b=q.block,cell:=M.cell,keep:=fun b=>M.keep b\/LB b}
  have aV:∀ b o,M.at b o->M0.at b o/\w.cell? ⟨b,o,none⟩=w.cell? ⟨b,o,none⟩:=fun b o h=>⟨h.imp .inl id,rfl⟩;have hLB:∀ b,LB b->b < w.heap.size:=fun b ⟨k,p,ob,hp,hs,hl,hb⟩=>hb ▸ (hr.obj k p ob hp hs).1.lt hl;have bF:Rel C M0 [] w:=⟨rfl,fun b o hb=>(by
   rcases hb with (hb | rfl) | hb
   ·exact hr.blk b o (.inl hb)
   ·exact hqo.lt rfl
   ·exact hr.blk b o (.inr hb)),fun k p ob hp=>by simp [M0] at hp,fun k k' p p' ob aN hp=>by simp [M0] at hp,fun g cells hg=>⟨by
   have:=(hr.glob g cells hg).rv;cases this with
   | cptr vals h1 h2 h3=>exact .cptr vals h1 (fun j c hj=>⟨(aV _ _ (h2 j c hj).1).1,(h2 j c hj).2⟩) fun j c hj=>(h3 j c hj).pure aV (hC g cells hg c (n_2 hj)),.inl (hr.glob g cells hg).full,(hr.glob g cells hg).sz⟩,
   fun b hb=>(by
   rcases hb with hb | hb
   ·exact hr.kep b hb
   ·exact hLB b hb),fun k p ob hp=>by simp [M0] at hp⟩
  refine (h M0 w vs bF hn fun i a hi=>?_).mono fun e w' he=>?_
  ·rcases i with _ | i
   ·simp at hi;subst hi;exact c2N hr hq hk aJ eb (fun b o h=>(aV b o h).1) (.inr rfl) (hx 0 _ si_)
   ·exact (hx (i+1) a (sp_ hi)).pure aV (ap a (n_2 (sp_ hi)))
  ·cases e with
   | panicked ch =>
    obtain ⟨c',v,Y,M',_,_,_,_,⟨h5,_⟩⟩:=he;cases h5
   | outgrown=>exact he
   | returned v =>
    obtain ⟨c',Y,M',h1,h2,h3,⟨h4,rfl⟩⟩:=he;injection h4 with h4
    subst h4
    let M2:A5:={ pl:=M.pl,full:=fun b=>M'.full b/\b≠q.block,cell:=fun b o=>M'.cell b o/\b≠q.block,keep:=M.keep}
    have aK:Ext M w M2 w':=⟨⟨[],by simp [M2]⟩,fun b hb=>⟨h1.full b (.inl hb),fun e=>hqf.1 (e ▸ hb)⟩,fun b o hb=>(h1.cell b o hb).imp (fun h=>⟨h,fun e=>hqf.2 o (e ▸ hb)⟩) (fun h=>⟨h,fun e=>hqf.2 o (e ▸ hb)⟩),fun b hb=>h1.same b (.inl hb),h1.sameC,h1.size,h1.drew,h1.os,h1.tape,h1.output,fun b hb=>by
     obtain ⟨k1,k2,k3,k4⟩:=h1.kept b (.inl hb);exact ⟨hb,k2,fun hf=>(k3 hf.1).elim id fun e=>absurd e hf.2,fun o ho=>k4 o ho.1⟩⟩
    refine ⟨.val v0,σ,M2,aK,⟨hr.len,fun b o hb=>h2.blk b o (hb.imp (·.1) (·.1)),fun k p ob hp hs=>?_,hr.inj,fun g cells hg=>(hr.glob g cells hg).mono aK,fun b hb=>a97 (hr.kep b hb) h1.size,hr.nk⟩,by rw [r6 h3];exact .val _,rfl,rfl⟩;by_cases hl:ob.live=true
    ·obtain ⟨k1,k2,k3,k4⟩:=h1.kept p.block (.inr ⟨k,p,ob,hp,hs,hl,rfl⟩);obtain ⟨g1,g2⟩:=hr.obj k p ob hp hs;have k3':M2.full p.block->M.full p.block:=fun hf=>(k3 hf.1).elim id fun e=>absurd e hf.2;refine ⟨g1.mono aK k2 (fun _ _ _ o ho=>k4 o ho.1),?_⟩;cases ob with
     | dead=>trivial
     | tipT t0 n=>exact fun hf=>g2 (k3' hf)
     | _=>exact ⟨fun hf=>g2.1 (k3' hf),fun o ho=>g2.2 o (k4 o ho.1)⟩
    ·cases ob<;>first|exact ⟨tt,tt⟩ | simp [b9.live] at hl
section
end
section
theorem b6j {l:List Oper} {j t:Nat} {au b:Bool} (c0:CV) (hg:o.guard=some (j,au)) (ht:(aa[j]?).bind (·.dst)=some t) (hv:E.ok t) (hb:E.f t = .val (.bool b))
 (hd:(match o.dst with | some d=>Nat.blt d n | none=>true)=true) (hy:b=au->H4 C σ E o fun r Y=>match r with
  | .ret c=>H7 C n aa Q l (E.put o.dst c (b=au)) Y
  | .pan c=>Q (.pan c) E Y) (hn:¬ b=au->H7 C n aa Q l (E.put o.dst c0 (b=au)) σ):H7 C n aa Q (o::l) E σ:=fun M w a hr hf=>by
 have hd1:(match o.dst with | some d=>d < n | none=>True):=by
  cases eW:o.dst with
  | none=>trivial
  | some d=>rw [eW] at hd;simpa [a9G] using hd
 have h1:RV M w (E.f t) (a.tmps.getD t undef):=hf.rv t hv;rw [hb] at h1;have h2:a.tmps.getD t undef = .bool b:=by generalize a.tmps.getD t undef=u at h1;cases h1;rfl
 have aF:t < a.tmps.size:=by
  rcases a3c t a.tmps.size with h' | h'
  ·exact h'
  ·simp [a9C h',undef] at h2
 have hw:Region.wanted o (yielded aa a.tmps)=(b == au):=by
  have h3:a.tmps[t]? = some (.bool b):=by
   rw [a0k,a1r aF] at h2;rw [a1r aF,<- h2];rfl
  have h4:yielded aa a.tmps j=some b:=by unfold yielded;rw [ht,n_8,h3]
  simp only [Region.wanted,hg,h4];cases b<;>cases au<;>rfl
 have eW:∀ t,o.dst=some t->t < n:=fun t ht=>by rw [ht] at hd1;exact hd1
 unfold wpList;by_cases cB:b=au
 ·rw [n_1 (by rw [hw];simpa using cB)];refine .inl (a3h (hy cB M w a.eval hr fun x _ hx=>hf.eval hr hx) (fun v w' ha=>?_) (fun ch w' ha=>?_))
  ·obtain ⟨c',Y,M',h1,h2,h3,h4⟩:=ha;exact h4.later h1 h2 ((hf.mono h1).put eW (fun _=>h3) fun hh=>absurd cB hh)
  ·obtain ⟨c,v,Y,M',h0,h1,h2,h3,h4⟩:=ha;exact ⟨E,Y,M',h1,h2,hf.mono h1,c,v,h0,h3,h4⟩
 ·rw [n_0 (by rw [hw];simpa using cB)];exact (hn cB).later (Ext.refl M w) hr (hf.put eW (fun hh=>absurd hh cB) fun _=>rfl)
end
section
def S6 (C:Ctx) (aa:Array Oper) (qs:List Nat) (Q:A8->Env->List b9->Prop) (S:List (List b9->Prop)):List (Nat × List Nat)->Env->List b9->Prop
 | [],E,σ=>Q .normal E σ
 | (i,fl)::l,E,σ=>∃ o,aa[i]? = some o/\((qs.contains i=true/\∃ c g,(∀ Y,K3 C Y aa o E c g)/\S6 C aa qs Q S l (E.put o.dst c g) σ)\/(qs.contains i=false/\(d4A C aa o E σ (fun c g Y=>a1G S Y fl/\S6 C aa qs Q S l (E.put o.dst c g) Y) (fun c Y=>∀ E',Q (.pan c) E' Y)\/b93 C aa o E σ (fun c g Y=>a1G S Y fl/\S6 C aa qs Q S l (E.put o.dst c g) Y) fun c Y=>∀ E',Q (.pan c) E' Y)))
def tfB (ms hd fl:List Nat) (i:Nat):Bool:=(List.range hd.length).all fun k=>(ms.getD i 0).testBit (hd.getD k 0) || fl.contains k
theorem d1O {ms:List Nat} {fl:List Nat} {i:Nat} {σ:List b9}:∀ {hd:List Nat} {S:List (List b9->Prop)} (k0:Nat) (S0:List (List b9->Prop)),k0=S0.length->(∀ k,k < hd.length->(ms.getD i 0).testBit (hd.getD k 0)=true\/(k0+k)∈fl)->a1G (S0++S) σ fl->TF ms hd S i σ
 | [],_,_,_,_,_,_=>trivial
 | _::_,[],_,_,_,_,_=>trivial
 | x::hd,F::S,k0,S0,h0,hb,hf=>by
  refine ⟨fun hbit=>?_,d1O (k0+1) (S0++[F]) (by simp [h0]) (fun k hk=>?_) (by rw [F7];exact hf)⟩
  ·rcases hb 0 (Nat.zero_lt_succ _) with h | h
   ·rw [List.getD_cons_zero,hbit] at h;cases h
   ·have:=hf.get _ h;rw [h0] at this;simpa [a5m] using this
  ·have:=hb (k+1) (Nat.succ_lt_succ hk);rw [show k0+1+k=k0+(k+1) by omega];simpa using this
def c0B (aa:Array Oper) (ms qs hd:List Nat) (Lf:Array Bool):List (Nat × List Nat)->Array Bool->Bool
 | [],_=>true
 | (i,fl)::l,L=>(match qs.contains i with
  | true=>b3C aa ms Lf L i
  | false=>(match Region.ready .any aa L with
   | [j]=>Nat.beq j i
   | _=>false) && tfB ms hd fl i) && c0B aa ms qs hd Lf l (L.setIfInBounds i true)
theorem b4v {Lf:Array Bool} {ms qs hd:List Nat} {S:List (List b9->Prop)}:∀ {l:List (Nat × List Nat)} {L:Array Bool} {E:Env} {σ:List b9} {T:Nat->List b9->Prop},c0B aa ms qs hd Lf l L=true->a0Z L (l.map Prod.fst)=Lf->(∀ j Y,TF ms hd S j Y->T j Y)->S6 C aa qs Q S l E σ->CA C aa Q Lf (fun E σ=>Q .normal E σ) T l.length L E σ
 | [],_,_,_,_,_,hL,_,h=>⟨hL,h⟩
 | (i,fl)::l,L,E,σ,T,hB,hL,hT,⟨o,ho,h⟩=>by
  rw [c0B,S7] at hB
  rcases h with ⟨hq,c,g,h1,h2⟩ | ⟨hq,h⟩
  ·rw [hq] at hB;exact c6E (fun Y=>K3 C Y aa o E c g) hB.1 ho (fun _ h=>h) (h1 σ) (b4v hB.2 hL (fun j Y h=>⟨hT j Y h,fun _=>h1 Y⟩) h2)
  ·simp only [hq,S7] at hB;obtain ⟨⟨b1,b2⟩,b3⟩:=hB;have hr:=a1n b1;have go:∀ (E':Env) (Y:List b9),a1G S Y fl/\S6 C aa qs Q S l E' Y->T i Y/\CA C aa Q Lf (fun E σ=>Q .normal E σ) T l.length (L.setIfInBounds i true) E' Y:=fun E' Y ⟨h1,h2⟩=>by
    refine ⟨hT i Y (d1O (fl:=fl) 0 [] rfl (fun k hk=>?_) h1),b4v b3 hL hT h2⟩;unfold tfB at b2;have:=a5p.1 b2 k (List.mem_range.2 hk);rw [K9];simpa using this
   refine ⟨by rw [hr];exact c1j _ _,fun j hj=>?_⟩;rw [hr,b38] at hj;subst hj;refine ⟨o,ho,?_⟩
   rcases h with (⟨h1,h2⟩ | ⟨c,g,h1,h2⟩) | h
   ·exact .inr (a2O (fun _ _=>⟨rfl,rfl,rfl⟩) (fun c g Y hh=>go _ _ hh) (.inl ⟨h1,h2⟩))
   ·exact .inl ⟨c,g,h1,(go _ _ h2).2⟩
   ·exact .inr (a2O (fun _ _=>⟨rfl,rfl,rfl⟩) (fun c g Y hh=>go _ _ hh) (.inr h))
def b0j (aa:Array Oper) (qs ms hd:List Nat) (tl:List (Nat × List Nat)):Bool :=
 Nat.beq (hd.length+tl.length) aa.size && a7y aa ms (a0Z (a0Z (L0 aa) hd) (tl.map Prod.fst)) hd (L0 aa) && c0B aa ms qs hd (a0Z (a0Z (L0 aa) hd) (tl.map Prod.fst)) tl (a0Z (L0 aa) hd) && (Region.ready .any aa (a0Z (a0Z (L0 aa) hd) (tl.map Prod.fst))).isEmpty
theorem b2k {a:Act} (qs:List Nat) (ms hd:List Nat) {tl:List (Nat × List Nat)} (hB:b0j aa qs ms hd tl=true) (bR:(aa.toList.all fun o=>match o.dst with | some d=>Nat.blt d n | none=>true)=true)
 (h:a1E C σ aa (fun E' S=>S6 C aa qs Q S tl E' σ) hd E []) (hr:Rel C M σ w) (hf:I8 M w n E a):wpAny C.P .any aa (Q4 C n Q M w) aa.size (L0 aa) a { w with drawn:=w.drawn+1}:=by
 simp only [b0j,S7] at hB;obtain ⟨⟨⟨h1,h2⟩,h3⟩,h4⟩:=hB;obtain ⟨bp,hx⟩:=hr.drew;have:=b3Y (f0:=0) (b39 bR) (fun E σ M1 w1 a1 hB bc aI dA=>⟨b5n.1 h4,E,σ,M1,bc,aI,dA,hB⟩) (a6i (T:=fun _ _=>True) (f:=tl.length) h2 h fun E' S' hk=>b4v h3 rfl (fun j Y hh=>⟨tt,hh⟩) hk) hx bp (hf.mono hx);rw [K9,show tl.length+hd.length=aa.size by have:=a3R h1;omega] at this;exact this
theorem c4x (qs ms hd:List Nat) {tl:List (Nat × List Nat)} (hm:C.P.follows .mixedOrders=true) (hB:b0j aa qs ms hd tl=true) (bR:(aa.toList.all fun o=>match o.dst with | some d=>Nat.blt d n | none=>true)=true)
 (h:a1E C σ aa (fun E' S=>S6 C aa qs Q S tl E' σ) hd E []):CWp C n (.region id aa true) Q E σ:=fun M w a hr hf=>wp_region_any hm (b2k qs ms hd hB bR h hr hf)
theorem d0V (ms hd:List Nat) {f:Nat} (hm:C.P.follows .mixedOrders=true) (hB:(Nat.beq (f+hd.length) aa.size && a7y aa ms (Array.replicate aa.size true) hd (L0 aa) && (Region.ready .any aa (Array.replicate aa.size true)).isEmpty)=true) (bR:(aa.toList.all fun o=>match o.dst with | some d=>Nat.blt d n | none=>true)=true)
 (h:a1E C σ aa (fun E' S=>CA C aa Q (Array.replicate aa.size true) (fun E σ=>Q .normal E σ) (fun j Y=>TF ms hd S j Y) f (a0Z (L0 aa) hd) E' σ) hd E []):CWp C n (.region id aa true) Q E σ:=fun M w a hr hf=>wp_region_any hm (by
  simp only [S7] at hB;obtain ⟨⟨h1,h2⟩,h3⟩:=hB;obtain ⟨bp,hx⟩:=hr.drew;have:=b3Y (f0:=0) (b39 bR) (fun E σ M1 w1 a1 hB bc aI dA=>⟨b5n.1 h3,E,σ,M1,bc,aI,dA,hB⟩) (a6i (T:=fun _ _=>True) (f:=f) h2 h fun E' S' hk=>a42 (fun _ _ h=>⟨tt,h⟩) hk) hx bp (hf.mono hx);rw [K9,a3R h1] at this;exact this)
section
variable {Lf:Array Bool} {B:Env->List b9->Prop} {T:Nat->List b9->Prop} {f:Nat} {L:Array Bool}
theorem d3B {i:Nat} {o:Oper} (hr:(match Region.ready .any aa L with
 | [j]=>Nat.beq j i
 | _=>false)=true) (ho:aa[i]? = some o) (hg:o.guard=none) (h:H4 C σ E o fun r Y=>match r with | .ret c=>T i Y/\CA C aa Q Lf B T f (L.setIfInBounds i true) (E.put o.dst c True) Y | .pan c=>∀ E',Q (.pan c) E' Y):CA C aa Q Lf B T (f+1) L E σ :=
 ⟨by rw [a1n hr];exact c1j _ _,fun j hj=>by rw [a1n hr,b38] at hj;subst hj;exact ⟨o,ho,.inr (.inl ⟨hg,h⟩)⟩⟩
theorem d4D {i:Nat} {o:Oper} {c:CV} {g:Prop} (hr:(match Region.ready .any aa L with
 | [j]=>Nat.beq j i
 | _=>false)=true) (ho:aa[i]? = some o) (bf:K3 C σ aa o E c g) (h:CA C aa Q Lf B T f (L.setIfInBounds i true) (E.put o.dst c g) σ):CA C aa Q Lf B T (f+1) L E σ :=
 ⟨by rw [a1n hr];exact c1j _ _,fun j hj=>by rw [a1n hr,b38] at hj;subst hj;exact ⟨o,ho,.inl ⟨c,g,bf,h⟩⟩⟩
theorem d7A {i i':Nat} {o o':Oper} (hr:(match Region.ready .any aa L with
 | [j,j']=>Nat.beq j i && Nat.beq j' i'
 | _=>false)=true) (ho:aa[i]? = some o) (ho':aa[i']? = some o') (hg:o.guard=none) (hg':o'.guard=none) (h:H4 C σ E o fun r Y=>match r with | .ret c=>T i Y/\CA C aa Q Lf B T f (L.setIfInBounds i true) (E.put o.dst c True) Y | .pan c=>∀ E',Q (.pan c) E' Y)
 (h':H4 C σ E o' fun r Y=>match r with | .ret c=>T i' Y/\CA C aa Q Lf B T f (L.setIfInBounds i' true) (E.put o'.dst c True) Y | .pan c=>∀ E',Q (.pan c) E' Y):CA C aa Q Lf B T (f+1) L E σ:=by
 have bp:Region.ready .any aa L=[i,i']:=by
  split at hr
  ·rename_i j j' hj;rw [S7] at hr;rw [hj,a3R hr.1,a3R hr.2]
  ·cases hr
 refine ⟨by rw [bp];exact c1j _ _,fun j hj=>?_⟩;rw [bp] at hj;simp only [P0,a8Z,or_false] at hj
 rcases hj with rfl | rfl
 ·exact ⟨o,ho,.inr (.inl ⟨hg,h⟩)⟩
 ·exact ⟨o',ho',.inr (.inl ⟨hg',h'⟩)⟩
end
theorem a5b (h:Q .normal E σ):S6 C aa qs Q S [] E σ:=h
theorem B8 {l:List (Nat × List Nat)} (gW:qs.contains i=false) (ho:aa[i]? = some o) (hg:o.guard=none) (h:H4 C σ E o fun r Y=>match r with | .ret c=>a1G S Y fl/\S6 C aa qs Q S l (E.put o.dst c True) Y | .pan c=>∀ E',Q (.pan c) E' Y):S6 C aa qs Q S ((i,fl)::l) E σ :=
 ⟨o,ho,.inr ⟨gW,.inl (.inl ⟨hg,h⟩)⟩⟩
theorem D7 {l:List (Nat × List Nat)} {g:Prop} (gW:qs.contains i=false) (ho:aa[i]? = some o) (bf:K3 C σ aa o E c g) (h:a1G S σ fl/\S6 C aa qs Q S l (E.put o.dst c g) σ):S6 C aa qs Q S ((i,fl)::l) E σ :=
 ⟨o,ho,.inr ⟨gW,.inl (.inr ⟨c,g,bf,h⟩)⟩⟩
theorem b0Q {l:List (Nat × List Nat)} {g:Prop} (gW:qs.contains i=true) (ho:aa[i]? = some o) (bf:∀ Y,K3 C Y aa o E c g) (h:S6 C aa qs Q S l (E.put o.dst c g) σ):S6 C aa qs Q S ((i,fl)::l) E σ :=
 ⟨o,ho,.inl ⟨gW,c,g,bf,h⟩⟩
end
structure c5L {α:Type} [DecidableEq α] (P:Program) (kt:TypeId) (kc:α->CV) (kv:α->Value):Prop where
 rv:∀ M w a v,RV M w (kc a) v->v=kv a
 rv':∀ M w a,RV M w (kc a) (kv a)
 check:∀ b a w,(Instr.checkKey b 10000 kt (kv a)).run P w = .ok () w
 eq:∀ a b w,(Op.equal kt (kv a) (kv b)).run P w = .ok (decide (a=b)) w
 now:∃ d,(∀ w,(underlying kt).run P w = .ok d w)/\∀ a b,Instr.sameNow d (kv a) (kv b)=none
 bits:∀ a,Instr.sameBits 10000 (kv a) (kv a)=true
section
variable [DecidableEq α] {kc:α->CV} {kv:α->Value}
end
section
variable [DecidableEq α] {kc:α->CV} {kv:α->Value}
end
abbrev Str:=List UInt8
variable {l:Str}
def str (l:Str):ByteArray:=⟨l.toArray⟩
abbrev sv (l:Str):CV:=.val (.string (str l))
theorem a4S (l:Str):(str l).size=l.length:=by simp [str,ByteArray.size]
theorem Y3 (l:Str):(str l).toList=l:=by
 rw [ByteArray.toList_eq];simp [str]
theorem b8s (a b:Str):str a++str b=str (a++b):=by
 apply ByteArray.ext;simp [str]
theorem d1b (l:Str) (i:Nat):(str l)[i]? = l[i]?:=by
 simp only [str,getElem?_def]
 split<;>rename_i h<;>split<;>rename_i h'<;>first|rfl|(exfalso;simp [ByteArray.size] at h h';omega)
theorem b5N (l:Str) (a b:Nat):(str l).extract a b=str ((l.take b).drop a):=by
 apply ByteArray.ext;simp [str,List.drop_take]
section
theorem c40 (ho:o.op = .call { callee:=.builtin .len,args:=#[x],argTypes:=#[t]}) (hx:E.valid x) (ex:E.val C x=sv l) (hu:∀ w,(underlying t).run C.P w = .ok .string w):l9 C σ E o (.val (.int .i64 l.length)) :=
 i7 fun M w ρ _ h=>by
  have h1:=h x H9 hx;rw [ex] at h1;have h2:=r6 h1;refine ⟨.int .i64 l.length,?_,.val _⟩;simp [execOp,ho,h2,resolve,invoke,builtin,Builtin.len_,hu,goInt,a4S]
theorem L5 {ix:Operand} {i:Int} {k:IntKind} {b:UInt8} (ho:o.op = .index t x ix) (hx:E.valid x) (hi:E.valid ix) (ex:E.val C x=sv l) (ei:E.val C ix = .val (.int k i)) (hu:∀ w,(underlying t).run C.P w = .ok .string w) (h0:0<=i) (hb:l[i.toNat]? = some b):l9 C σ E o (.val (.int .u8 b.toNat)) :=
 i7 fun M w ρ _ h=>by
  have h1:=h x w9 hx;have h2:=h ix w9 hi;rw [ex] at h1;rw [ei] at h2;have dD:=r6 h1;have dw:=r6 h2;refine ⟨.int .u8 b.toNat,?_,.val _⟩;simp [execOp,ho,dD,dw,Instr.index,hu,asIntOf,h0,d1b,hb]
theorem G8 {a b:Str} (ho:o.op = .binOp .add t x y t') (hx:E.valid x) (hy:E.valid y) (ex:E.val C x=sv a) (ey:E.val C y=sv b) (hl:a.length+b.length<=9223372036854775807):l9 C σ E o (sv (a++b)) :=
 i7 fun M w ρ _ h=>by
  have h1:=h x w9 hx;have h2:=h y w9 hy;rw [ex] at h1;rw [ey] at h2;have dD:=r6 h1;have dw:=r6 h2;refine ⟨.string (str (a++b)),?_,.val _⟩;simp [execOp,ho,dD,dw,eqGuard,binOp,Op.stringOp,b8s];rw [a4S,a4S];omega
theorem b3I (a b:Str):(a == b)=decide (a=b):=by
 by_cases h:a=b<;>simp [h]
theorem a6G (a b:Str):b0y .eql (str a) (str b)=some (decide (a=b)):=by simp [b0y,Y3,b3I]
theorem a63 (a b:Str):b0y .neq (str a) (str b)=some (!decide (a=b)):=by simp [b0y,Y3,b3I]
theorem c7i (a b:Str):b0y .lss (str a) (str b)=some (Op.bytesLess a b):=by simp [b0y,Y3]
theorem b56 (a b:Str):b0y .leq (str a) (str b)=some (Op.bytesLess a b || decide (a=b)):=by simp [b0y,Y3,b3I]
theorem a1A {op:BinOp} {a b:Str} {r:Bool} (ho:o.op = .binOp op t x y t') (hx:E.valid x) (hy:E.valid y) (ex:E.val C x=sv a) (ey:E.val C y=sv b) (hv:b0y op (str a) (str b)=some r):l9 C σ E o (.val (.bool r)) :=
 c7u ho hx hy ex ey hv
end
def bcv (b:UInt8):List CV:=[.val (.int .u8 b.toNat)]
section
theorem J7 {lo hi:Option Operand} {a h:Nat} (ho:o.op = .slice t x lo hi none) (hx:E.valid x) (ex:E.val C x=sv l) (hu:∀ w,(underlying t).run C.P w = .ok .string w) (gG:a1C C E lo 0 a) (gS:a1C C E hi l.length h) (h1:a<=h) (h2:h<=l.length):l9 C σ E o (sv ((l.take h).drop a)) :=
 i7 fun M w ρ hr hh=>by
  have aB:=hh x w9 hx;rw [ex] at aB;have hv:=r6 aB;have gT:∀ v,lo=some v->∃ k i,ρ v = .int k i/\0<=i/\i.toNat=a:=fun v hv=>by
   subst hv;obtain ⟨bL,k,i,he,h0,hi⟩:=gG;have:=hh v w9 bL;rw [he] at this;exact ⟨k,i,r6 this,h0,hi⟩
  have eX:∀ v,hi=some v->∃ k i,ρ v = .int k i/\0<=i/\i.toNat=h:=fun v hv=>by
   subst hv;obtain ⟨bL,k,i,he,h0,hi⟩:=gS;have:=hh v w9 bL;rw [he] at this;exact ⟨k,i,r6 this,h0,hi⟩
  have hb:(Instr.sliceBounds false l.length l.length (lo.map ρ) (hi.map ρ) none).run C.P w = .ok (a,h,l.length) w:=by
   have cT:(a:Int)<=h:=by omega
   have hh2:(h:Int)<=l.length:=by omega
   cases lo with
   | none =>
    have:a=0:=by simpa [a1C] using gG.symm
    subst this;cases hi with
    | none =>
     have:h=l.length:=by simpa [a1C] using gS.symm
     subst this;simp [Instr.sliceBounds]
    | some v =>
     obtain ⟨k,i,he,h0,hi⟩:=eX v rfl;have aJ:i<=l.length:=by omega
     simp [Instr.sliceBounds,Instr.sliceBound,he,asIntOf,h0,aJ,hi]
   | some u =>
    obtain ⟨k,i,he,h0,hi0⟩:=gT u rfl;cases hi with
    | none =>
     have:h=l.length:=by simpa [a1C] using gS.symm
     subst this;have aJ:i<=l.length:=by omega
     simp [Instr.sliceBounds,Instr.sliceBound,he,asIntOf,h0,aJ,hi0]
    | some v =>
     obtain ⟨k',i',eY,ft,aY⟩:=eX v rfl;have aJ:i<=h:=by omega
     have eH:i'<=l.length:=by omega
     simp [Instr.sliceBounds,Instr.sliceBound,he,eY,asIntOf,h0,ft,aJ,eH,hi0,aY]
  refine ⟨.string (str ((l.take h).drop a)),?_,.val _⟩;simp [execOp,ho,hv,Instr.sliceAt,Instr.slice,hu,a4S,hb,b5N]
theorem c1J {P:Program} {w:World}:∀ (l:Str) (bj:Str),(forIn (m:=Sem) (l.map fun b:UInt8=>Value.int .u8 (b.toNat:Int)) (str bj) fun (c:Value) (s:ByteArray) =>
 match c with
 | .int .u8 n=>(do pure (ForInStep.yield (s.push (UInt8.ofNat n.toNat))):Sem (ForInStep ByteArray))
 | _=>(do
  let _ ← (stuck "bytesToString: byte expected" : Sem PUnit)
  pure (ForInStep.yield s))).run P w = .ok (str (bj++l)) w
 | [],bj=>by simp
 | b::l,bj=>by
  have h:(str bj).push (UInt8.ofNat ((b.toNat:Int).toNat))=str (bj++[b]):=by
   apply ByteArray.ext;simp [str,ByteArray.push]
  rw [b3E,List.forIn_cons];simp only [Sem.run_bind,Sem.run_pure,Result.andThen_ok,h];rw [c1J l (bj++[b])];simp
theorem d6G {nn:Bool} {tok:Option Nat} (ho:o.op = .convert src dst x) (hx:E.valid x) (ex:E.val C x = .list (l.map bcv) nn tok) (hs:∀ w,(underlying src).run C.P w = .ok (.slice e) w) (hd:∀ w,(underlying dst).run C.P w = .ok .string w) (he:∀ w,(underlying e).run C.P w = .ok (.int .u8) w):l9 C σ E o (sv l) :=
 i7 fun M w ρ hr hh=>by
  have aB:=hh x w9 hx;rw [ex] at aB;obtain ⟨a,cap,b,off,s',vals,hv,bk,bn,fq,dM,ha,cE,aP,hc,bo,_⟩:=aB.list_inv;refine ⟨.string (str l),?_,.val _⟩;cases l with
  | nil =>
   cases a with
   | none=>simp [execOp,ho,hv,convert,hs,hd,he,Conv.bytesToString];rfl
   | some a=>simp [execOp,ho,hv,convert,hs,hd,he,Conv.bytesToString,loadCells,loadCellsFrom];rfl
  | cons y l =>
   have cu:=ha si_;have bq:s'=1:=by have:=cE (bcv y) si_;simpa [bcv] using this.symm
   subst bq;have aO:∀ j,j < (y::l).length->w.cell? ⟨b,off+j,none⟩=some ((((y::l).map fun b:UInt8=>Value.int .u8 (b.toNat:Int))[j]?).getD undef):=fun j hj=>by
    have h1:((y::l).map bcv)[j]? = some (bcv ((y::l)[j]'hj)):=by rw [Q0,a1u hj];rfl
    have h2:=hc j 0 (bcv ((y::l)[j]'hj)) (.val (.int .u8 (((y::l)[j]'hj).toNat:Int))) h1 rfl;have h3:=r6 (bo j 0 (bcv ((y::l)[j]'hj)) (.val (.int .u8 (((y::l)[j]'hj).toNat:Int))) h1 rfl);simp only [b9y,a7l] at h2;rw [h2.2,h3,Q0,a1u hj];rfl
   have hl:=U0 (P:=C.P) _ _ aO;have az:((List.range (y::l).length).map fun j=>(((y::l).map fun b:UInt8=>Value.int .u8 (b.toNat:Int))[j]?).getD undef)=(y::l).map fun b:UInt8=>Value.int .u8 (b.toNat:Int):=by
    apply List.ext_getElem
    ·simp
    ·intro i h1 h2;simp at h1;simp [h1]
   have:=c1J (P:=C.P) (w:=w) (y::l) [];simp only [a72] at this;rw [cu] at hv;simp only [a0W] at hv;simp only [execOp,ho,hv,convert,Sem.run_bind,hs,hd,he,Result.andThen_ok,Conv.bytesToString,hl,az];simp only [List.forIn_toArray];have e0:(ByteArray.empty)=str []:=rfl;rw [e0];refine (n_9 (fun r=>(r.andThen fun a w'=>Sem.run C.P (pure (Value.string a)) w').andThen fun a w'=>Sem.run C.P (pure (Next.value a)) w') this).trans ?_;simp
end
theorem Rel.settleBlock (hr:Rel C M σ w) {b:Nat} (hb:b < w.heap.size) (cI:∀ (k:Nat) (p:Pl) (ob:b9),M.pl[k]? = some p->σ[k]? = some ob->ob.live=true->p.block≠b) (hk:¬ M.keep b):Ext M w (M.settle b) w/\Rel C (M.settle b) σ w:=by
 have hx:Ext M w (M.settle b) w:=⟨⟨[],by simp [A5.settle]⟩,fun _ h=>.inl h,fun _ _ h=>.inr h,fun _ _=>rfl,fun _ _ _=>rfl,n_6 _,Q8,rfl,rfl,rfl,fun b' h=>⟨h,rfl,fun f=>(by
  rcases f with f | f
  ·exact f
  ·exact absurd (f ▸ h) hk),fun _ f=>f⟩⟩
 refine ⟨hx,hr.len,fun b' o ha=>?_,fun k p x hp hs=>?_,hr.inj,fun g cells hg=>(hr.glob g cells hg).mono hx,hr.kep,hr.nk⟩
 ·rcases ha with (ha | ha) | ha
  ·exact hr.blk b' o (.inl ha)
  ·omega
  ·exact hr.blk b' o (.inr ha)
 ·obtain ⟨h1,h2⟩:=hr.obj k p x hp hs;by_cases hl:x.live=true
  ·refine ⟨h1.mono hx rfl (fun _ _ _ _ h=>h),?_⟩;have hf:¬ M.full p.block->¬ (M.settle b).full p.block:=fun h h'=>by
    rcases h' with h' | h'
    ·exact h h'
    ·exact cI k p x hp hs hl h'
   cases x<;>first | trivial|exact hf h2|exact ⟨hf h2.1,h2.2⟩
  ·cases x<;>first|exact ⟨tt,tt⟩ | simp [b9.live] at hl
theorem b0R {a:Array α} {p:α->Bool} (h:∀ x∈a,p x=true):a.filter p=a:=by
 apply Array.toList_inj.1;rw [Array.toList_filter];exact List.filter_eq_self.2 fun x hx=>h x (sp_ hx)
theorem a81 {a:Array α} {p:α->Bool} (h:∀ x∈a,p x=false):a.filter p = #[]:=by
 apply Array.toList_inj.1;rw [Array.toList_filter];exact List.filter_eq_nil_iff.2 fun x hx=>by rw [h x (sp_ hx)];simp
theorem b2s {ab:Array MapEntry} (ha:b0H ab) {seen:Array Nat} {e:MapEntry} (hi:(ab.toList.filter fun e=>!seen.contains e.born)[i]? = some e) :
 (ab.toList.filter fun x=>!(seen.push e.born).contains x.born)=(ab.toList.filter fun e=>!seen.contains e.born).eraseIdx i:=by
 have gb:∀ (i j:Nat) (e e':MapEntry),ab.toList[i]? = some e->ab.toList[j]? = some e'->e.born=e'.born->i=j:=fun i j e e' h1 h2 h3=>ha i j e e' (sp_ h1) (sp_ h2) h3;have hc:∀ x:MapEntry,(seen.push e.born).contains x.born=(seen.contains x.born || x.born == e.born):=fun x=>by
  rw [Array.contains_push]
 simp only [hc];generalize ab.toList=l at hi gb;clear ha hc
 induction l generalizing i with
 | nil=>simp at hi
 | cons y l ih =>
  have hag':∀ (i j:Nat) (e e':MapEntry),l[i]? = some e->l[j]? = some e'->e.born=e'.born->i=j:=fun i j a b h1 h2 h3=>by
   have:=gb (i+1) (j+1) a b (sp_ h1) (sp_ h2) h3;omega
  by_cases hy:seen.contains y.born=true
  ·have h1:(!seen.contains y.born)=false:=by rw [hy];rfl
   rw [a8C,n_0 (by rw [h1];simp)] at hi;rw [a8C,n_0 (by rw [hy];simp),a8C,n_0 (by rw [h1];simp)];exact ih hi hag'
  ·have hy':seen.contains y.born=false:=sp_ hy;have h1:(!seen.contains y.born)=true:=by rw [hy'];rfl
   have e1:(List.filter (fun e=>!seen.contains e.born) (y::l))=y::l.filter fun e=>!seen.contains e.born:=by rw [a8C,n_1 h1]
   rw [e1] at hi ⊢
   rcases i with _ | i
   ·simp at hi;subst hi;rw [a8C,n_0 si_];rw [List.eraseIdx_zero,List.tail_cons];refine List.filter_congr fun x hx=>?_;have aC:x.born≠y.born:=fun he=>by
     obtain ⟨j,hj⟩:=L7.1 hx;have:=gb (j+1) 0 x y (sp_ hj) rfl he;omega
    simp [aC]
   ·rw [c6q] at hi;have aC:y.born≠e.born:=fun he=>by
     have hm:=b3r.1 (n_2 hi);obtain ⟨j,hj⟩:=L7.1 hm.1;have:=gb 0 (j+1) y e rfl (sp_ hj) he;omega
    rw [a8C,n_1 (by rw [hy'];simp [aC]),List.eraseIdx_cons_succ,ih hi hag']
def H3 (ab:Array MapEntry) (seen:Array Nat):Array MapEntry:=ab.filter fun e=>!seen.contains e.born
theorem b6W (ab:Array MapEntry) (seen:Array Nat):(H3 ab seen).toList=ab.toList.filter fun e=>!seen.contains e.born:=Array.toList_filter ..
section
theorem b9M {es:List (CV × CV)} (ho:o.op = .range t x) (hx:E.valid x) (ex:E.val C x = .map k) (hu:∀ w,(underlying t).run C.P w = .ok (.map kt et) w) (ao:σ[k]? = some (.map es)) (hK:K (.ret (.ptr σ.length 0)) (σ.set k .dead++[.iter [] es])):H4 C σ E o K:=fun M w ρ hr h=>by
 have h1:=h x w9 hx;rw [ex] at h1;generalize hv:ρ x=v at h1;cases h1 with
 | map hp =>
  rename_i p;obtain ⟨h1,h2⟩:=hr.obj k p _ hp ao;have ae:=h1.lt rfl;obtain ⟨ab,ai,g1,g2,g3⟩:=h1;have hnk:=hr.nk k p _ hp ao rfl;have eS:=hr.dead k;have bE:∀ (i:Nat) (e:MapEntry),ab[i]? = some e->e.born < ai:=fun i e he=>by
   have ae:i < es.length:=by rw [<- g2.1];exact (a1z.1 he).1
   obtain ⟨e',h1,_,_,h4⟩:=g3 i es[i] (by simp [ae]);rw [he] at h1;injection h1 with h1
   rw [h1];exact h4
  obtain ⟨bc,aI⟩:=eS.settleBlock ae (fun k' p' aN aG aQ bJ hb=>by
   rw [b1k] at aQ;split at aQ
   ·split at aQ
    ·injection aQ with aQ;subst aQ;cases bJ
    ·cases aQ
   ·rename_i aC;exact aC (hr.inj k k' p p' _ _ hp aG ao aQ rfl bJ hb.symm)) hnk
  have aw:(execOp ρ o).run C.P w = .ok (.value (.pointer (some ⟨w.heap.size,0,none⟩))) (w.alloc (.mapIter (some p.block) ai #[] ai)):=by
   simp [execOp,ho,hv,Instr.range,hu,L4 g1]
  rw [aw];have aK:=Ext.alloc aI ⟨w.heap.size,0,0⟩ (.mapIter (some p.block) ai #[] ai);have hk:=(eS.settleBlock ae (fun k' p' aN aG aQ bJ hb=>by
   rw [b1k] at aQ;split at aQ
   ·split at aQ
    ·injection aQ with aQ;subst aQ;cases bJ
    ·cases aQ
   ·rename_i aC;exact aC (hr.inj k k' p p' _ _ hp aG ao aQ rfl bJ hb.symm)) hnk).2
  refine ⟨.ptr σ.length 0,_,_,bc.trans aK,aI.alloc ⟨w.heap.size,0,0⟩ _ (.iter [] es) rfl ⟨p.block,#[],ai,ab,ai,A4 _ _,.inr rfl,?_,.inl rfl,g2.2,bE,?_,fun i x hi=>?_,fun i x hi=>by simp at hi⟩,RV.ptr (p:=⟨w.heap.size,0,0⟩) (by
   have hl:=aI.len;simp at hl;simp [A5.add,<- hl]),hK⟩
  ·rw [J5 w _ ae];exact g1
  ·have:(ab.toList.filter fun e=>!(#[]:Array Nat).contains e.born)=ab.toList:=List.filter_eq_self.2 fun x _=>by simp
   rw [this];simpa using g2.1
  ·have:(ab.toList.filter fun e=>!(#[]:Array Nat).contains e.born)=ab.toList:=List.filter_eq_self.2 fun x _=>by simp
   rw [this];obtain ⟨e,f1,f2,f3,_⟩:=g3 i x hi;exact ⟨e,sp_ f1,(f2.mono bc).mono aK,(f3.mono bc).mono aK⟩
theorem a9v {q:Question} (h:q.forced=false):(choose q).run P w = .ok (q.cut (w.tape w.drawn q)) w.drew:=by
 simp [choose,Sem.run,h]
theorem c4F {it:Operand} {aD left:List (CV × CV)} (ho:o.op = .next it false) (hx:E.valid it) (ex:E.val C it = .ptr q 0) (ao:σ[q]? = some (.iter aD left)) (hz:left=[]->K (.ret (.tup [.val (.bool false)])) σ)
 (hs:∀ (i:Nat) (x:CV × CV),left[i]? = some x->K (.ret (.tup [.val (.bool true),x.1,x.2])) (σ.set q (.iter [x] (left.eraseIdx i)))):H4 C σ E o K:=fun M w ρ hr h=>by
 have h1:=h it w9 hx;rw [ex] at h1;generalize hv:ρ it=v at h1;cases h1 with
 | ptr hp =>
  rename_i p;obtain ⟨h1,hf,hc⟩:=hr.obj q p _ hp ao;have ae:=h1.lt rfl;obtain ⟨mb,seen,bB,ab,ai,g1,g2,g3,g4,g5,g6,g7,g8,_⟩:=h1;have bu:∀ e∈ab,e.born < ai:=fun e he=>by
   obtain ⟨i,hi⟩:=Array.mem_iff_getElem?.1 he;exact g6 i e hi
  have hA:=b6W ab seen;have hmemA:∀ e∈(H3 ab seen),e.born < ai:=fun e he=>bu e (Array.mem_filter.1 (show e∈ab.filter fun e=>!seen.contains e.born from he)).1;have bM:((H3 ab seen).filter fun e=>decide (e.born < ai))=H3 ab seen:=b0R fun x hx=>by simpa using hmemA x hx
  have dr:((H3 ab seen).filter fun e=>decide (e.born>=ai)) = #[]:=a81 fun x hx=>by have:=hmemA x hx;simp;omega
  have cz:(!seen.isEmpty && !ab.isEmpty && ab.all fun e=>decide (e.born>=bB))=false:=by
   rcases g4 with rfl | rfl
   ·simp
   ·by_cases he:ab.isEmpty=true
    ·simp [he]
    ·have:∃ e,e∈ab:=by
      have aF:0 < ab.size:=by
       rcases b1h ab.size with h | h
       ·exact absurd (by simp [Array.isEmpty,h]) he
       ·exact h
      exact ⟨ab[0],Array.getElem_mem aF⟩
     obtain ⟨e,he⟩:=this;have:(ab.all fun e=>decide (e.born>=bB))=false:=by
      rw [b9K];intro hh;rw [Array.all_eq_true_iff_forall_mem] at hh;have h1:=hh e he;have h2:=bu e he;simp at h1;omega
     rw [this];simp
  have dU:(getObj p.block).run C.P w = .ok (.mapIter (some mb) ai seen bB) w:=by simp [getObj,Sem.run,g1]
  have hrun0:(execOp ρ o).run C.P w=((choose (.mapNext ((if (H3 ab seen).isEmpty then #[none] else #[])++((H3 ab seen)++#[]).map some).size)).run C.P w).andThen fun j w' =>
   ((match ((if (H3 ab seen).isEmpty then #[none] else #[])++((H3 ab seen)++#[]).map some)[j]? with
    | some (some e)=>(do
     setObj p.block (.mapIter (some mb) ai (seen.push e.born) ai)
     pure (Next.value (.tuple #[.bool true,e.key,e.val])):Sem Next)
    | some none=>pure (Next.value (.tuple #[.bool false]))
    | none => stuck "Next: no such candidate").run C.P w') := by
   have hun:(ab.filter fun e=>!seen.contains e.born)=H3 ab seen:=rfl;simp only [execOp,ho,hv,Instr.next,Sem.run_bind,dU,Result.andThen_ok,L4 g3,cz,hun,bM,dr];simp only [b2c,if_false,Sem.run_bind,Sem.run_pure];cases du:(choose (.mapNext ((if (H3 ab seen).isEmpty then #[none] else #[])++((H3 ab seen)++#[]).map some).size)).run C.P w with
   | halt x w'=>rfl
   | ok j w' =>
    simp only [Result.andThen_ok];generalize ((if (H3 ab seen).isEmpty=true then #[none] else #[])++Array.map some (H3 ab seen++#[]))[j]? = cand
    rcases cand with _ | _ | e
    ·simp [stuck]
    ·simp
    ·simp only [Sem.run_bind];generalize (setObj p.block (Obj.mapIter (some mb) ai (seen.push e.born) ai)).run C.P w'=r;cases r<;>simp
  rw [hrun0];cases hL:(H3 ab seen).toList with
  | nil =>
   have hempty:(H3 ab seen) = #[]:=Array.toList_inj.1 hL;have dR:left=[]:=by
    rw [<- hA,hL] at g7;exact b2p g7.symm
   rw [hempty];have du:(choose (.mapNext (((if (#[]:Array MapEntry).isEmpty then #[none] else #[])++((#[]:Array MapEntry)++#[]).map some).size))).run C.P w = .ok 0 w:=by
    simp [choose,Sem.run,Question.forced]
   rw [du];have ee:((if (#[]:Array MapEntry).isEmpty=true then #[none] else #[])++Array.map some ((#[]:Array MapEntry)++#[]))[0]? = some none:=by simp
   simp only [Result.andThen_ok];rw [ee];show a03 C M w K (.tuple #[.bool false]) w;exact ⟨.tup [.val (.bool false)],σ,M,Ext.refl M w,hr,.tup rfl (fun i c hi=>by
    rcases i with _ | i
    ·simp at hi;subst hi;exact .val _
    ·simp at hi),hz dR⟩
  | cons e0 r0 =>
   have aC:(H3 ab seen).isEmpty=false:=by
    rw [<- Array.isEmpty_toList,hL];rfl
   have aF:(H3 ab seen).size=(ab.toList.filter fun e=>!seen.contains e.born).length:=by rw [<- hA];simp
   rw [aC];simp only [b2c,if_false,Array.append_empty,Array.empty_append];have key:∀ (j:Nat) (w':World) (M':A5),Ext M w M' w'->Rel C M' σ w'->M'.pl=M.pl->w'.heap=w.heap->j < (H3 ab seen).size->b1s C.P (a03 C M w K) (R8 C M w K) ((match ((H3 ab seen).map some)[j]? with
    | some (some e)=>(do
     setObj p.block (.mapIter (some mb) ai (seen.push e.born) ai)
     pure (Next.value (.tuple #[.bool true,e.key,e.val])):Sem Next)
    | some none=>pure (Next.value (.tuple #[.bool false]))
    | none => stuck "Next: no such candidate").run C.P w') := by
    intro j w' M' aB bp aT gd hj;obtain ⟨e,he⟩:∃ e,(H3 ab seen)[j]? = some e:=⟨_,a1r hj⟩;have eY:(ab.toList.filter fun e=>!seen.contains e.born)[j]? = some e:=by rw [<- hA];simpa using he
    have hm:((H3 ab seen).map some)[j]? = some (some e):=by rw [b8S,he];rfl
    rw [hm];have hset:(setObj p.block (.mapIter (some mb) ai (seen.push e.born) ai)).run C.P w' = .ok () (World.putObj w' p.block (.mapIter (some mb) ai (seen.push e.born) ai)):=by
     simp [setObj,Sem.run,World.putObj,gd,g1]
    simp only [Sem.run_bind,hset,Result.andThen_ok,Sem.run_pure];have bU:j < left.length:=by rw [<- g7];exact (n_3.1 eY).1
    obtain ⟨x,dg⟩:∃ x,left[j]? = some x:=⟨left[j],by simp [bU]⟩;obtain ⟨e2,f1,f2,f3⟩:=g8 j x dg;rw [eY] at f1;injection f1 with f1
    subst f1;have aG:M'.pl[q]? = some p:=by rw [aT];exact hp
    obtain ⟨ob1,gN,bC⟩:=bp.obj q p _ aG ao;have bl:p.block < w'.heap.size:=ob1.lt rfl;have aK:=Ext.putObj (w:=w') (.mapIter (some mb) ai (seen.push e.born) ai) (bp.nk q p _ aG ao rfl) gN bC;have hne2:p.block≠mb:=fun hb=>by
     rw [hb] at g1;rw [g1] at g3;cases g3
    have bm:=bp.putObj (ob:=.iter [x] (left.eraseIdx j)) aG ao rfl gN bC (.mapIter (some mb) ai (seen.push e.born) ai) ⟨mb,seen.push e.born,ai,ab,ai,World.putObj_same w' _ bl,aB.full _ g2,by rw [World.putObj_other w' _ hne2,gd];exact g3,.inr rfl,g5,g6,by
     rw [b2s g5 eY,List.length_eraseIdx,List.length_eraseIdx,g7],fun i y hi=>by
     rw [b2s g5 eY];rw [List.getElem?_eraseIdx] at hi ⊢;split at hi
     ·rename_i hij;rw [n_1 hij];obtain ⟨e3,u1,u2,u3⟩:=g8 i y hi;exact ⟨e3,u1,(u2.mono aB).mono aK,(u3.mono aB).mono aK⟩
     ·rename_i hij;rw [n_0 hij];obtain ⟨e3,u1,u2,u3⟩:=g8 (i+1) y hi;exact ⟨e3,u1,(u2.mono aB).mono aK,(u3.mono aB).mono aK⟩,fun i y hi=>by
     rcases i with _ | i
     ·simp at hi;subst hi;obtain ⟨j0,hj0⟩:=Array.mem_iff_getElem?.1 (Array.mem_filter.1 (show e∈ab.filter fun e=>!seen.contains e.born from b32 he)).1;exact ⟨rfl,j0,e,hj0,si_,(f2.mono aB).mono aK,(f3.mono aB).mono aK⟩
     ·simp at hi⟩
    refine ⟨.tup [.val (.bool true),x.1,x.2],_,M',aB.trans aK,bm,.tup rfl (fun i c hi=>?_),hs j x dg⟩
    rcases i with _ | _ | _ | i
    ·simp at hi;subst hi;exact .val _
    ·simp at hi;subst hi;exact (f2.mono aB).mono aK
    ·simp at hi;subst hi;exact (f3.mono aB).mono aK
    ·simp at hi
   have gx:0 < (H3 ab seen).size:=by rw [<- a8J,hL];simp
   have hszm:((H3 ab seen).map some).size=(H3 ab seen).size:=by simp
   rw [hszm];by_cases h1:(H3 ab seen).size<=1
   ·have du:(choose (.mapNext (H3 ab seen).size)).run C.P w = .ok 0 w:=by
     simp [choose,Sem.run,Question.forced,h1]
    rw [du];exact key 0 w M (Ext.refl M w) hr rfl rfl gx
   ·have du:(choose (.mapNext (H3 ab seen).size)).run C.P w = .ok ((Question.mapNext (H3 ab seen).size).cut (w.tape w.drawn (.mapNext (H3 ab seen).size))) w.drew:=a9v (by simp [Question.forced];omega);rw [du];obtain ⟨eS,hxd⟩:=hr.drew;exact key _ w.drew M hxd eS rfl rfl (a5j _ gx)
theorem b9Y {it:Operand} {x:CV × CV} {left:List (CV × CV)} (ho:o.op = .entry it) (hx:E.valid it) (ex:E.val C it = .ptr q 0) (ao:σ[q]? = some (.iter [x] left)):l9 C σ E o (.tup [x.1,x.2]) :=
 i7 fun M w ρ hr h=>by
  have h1:=h it w9 hx;rw [ex] at h1;generalize hv:ρ it=v at h1;cases h1 with
  | ptr hp =>
   rename_i p;obtain ⟨mb,seen,bB,ab,ai,g1,g2,g3,g4,g5,g6,g7,g8,g9⟩:=(hr.obj q p _ hp ao).1;obtain ⟨hl,j,e,f1,f2,f3,f4⟩:=g9 0 x rfl;have hfind:ab.find? (fun e'=>e'.born == e.born)=some e:=by
    rw [<- Array.find?_toList];have hj:ab.toList[j]? = some e:=sp_ f1;obtain ⟨ae,hje⟩:=n_3.1 hj;rw [List.find?_eq_some_iff_getElem];refine ⟨si_,j,ae,hje,fun k hk=>?_⟩;have aC:ab.toList[k].born≠e.born:=fun hb=>by
     have:=g5 k j ab.toList[k] e si_ f1 hb;omega
    simpa using aC
   have dU:(getObj p.block).run C.P w = .ok (.mapIter (some mb) ai seen bB) w:=by simp [getObj,Sem.run,g1]
   refine ⟨.tuple #[e.key,e.val],?_,.tup rfl fun i c hi=>?_⟩
   ·simp [execOp,ho,hv,Instr.entry,dU,f2,L4 g3,hl,hfind]
   ·rcases i with _ | _ | i
    ·simp at hi;subst hi;exact f3
    ·simp at hi;subst hi;exact f4
    ·simp at hi
end
structure T4 {α:Type} [DecidableEq α] (P:Program) (kt:TypeId) (kc:α->CV) (kv:α->Value):Prop where
 rv:∀ M w a v,RV M w (kc a) v->v=kv a
 rv':∀ M w a,RV M w (kc a) (kv a)
 check:∀ b a w,(Instr.checkKey b 10000 kt (kv a)).run P w = .ok () w
 bits:∀ a,Instr.sameBits 10000 (kv a) (kv a)=true
 none:∀ (a:α) (l:List α) (ab:List MapEntry),ab.length=l.length->(∀ (i:Nat) (x:α),l[i]? = some x->∃ e,ab[i]? = some e/\e.key=kv x)->a∉l->∀ w,(Instr.findKey kt (kv a) ab).run P w = .ok none w
 some:∀ (a:α) (l:List α) (ab:List MapEntry),ab.length=l.length->(∀ (i:Nat) (x:α),l[i]? = some x->∃ e,ab[i]? = some e/\e.key=kv x)->∀ (i:Nat) (e:MapEntry),l[i]? = some a->(∀ j,j < i->l[j]?≠some a)->ab[i]? = some e->∀ w,(Instr.findKey kt (kv a) ab).run P w = .ok (some (i,e.val)) w
section
variable [DecidableEq α] {kc:α->CV} {kv:α->Value}
theorem a4P {d:TypeDesc} (hs:∀ a b,Instr.sameNow d (kv a) (kv b)=some (decide (a=b))) (a:α):∀ (l:List α) (ab:List MapEntry) (n:Nat),ab.length=l.length->(∀ (i:Nat) (x:α),l[i]? = some x->∃ e,ab[i]? = some e/\e.key=kv x) ->
 (a∉l->Instr.findNow d (kv a) ab n=some none)/\∀ (i:Nat) (e:MapEntry),l[i]? = some a->(∀ j,j < i->l[j]?≠some a)->ab[i]? = some e->Instr.findNow d (kv a) ab n=some (some (n+i,e.val))
 | [],[],n,_,_=>⟨fun _=>rfl,fun i e h=>by simp at h⟩
 | [],_::_,_,h,_=>by simp at h
 | _::_,[],_,h,_=>by simp at h
 | x::l,e0::ab,n,hl,hh=>by
  obtain ⟨e',he,hk⟩:=hh 0 x rfl;simp at he;subst he;obtain ⟨ih1,ih2⟩:=a4P hs a l ab (n+1) (sp_ hl) fun i y hi=>hh (i+1) y (sp_ hi);by_cases ig:a=x
  ·subst ig;refine ⟨fun h=>absurd si_ h,fun i e hi fM he=>?_⟩
   rcases i with _ | i
   ·simp at he;subst he;simp [Instr.findNow,hk,hs]
   ·exact absurd rfl (fM 0 om_)
  ·have step:Instr.findNow d (kv a) (e0::ab) n=Instr.findNow d (kv a) ab (n+1):=by simp [Instr.findNow,hk,hs,ig]
   refine ⟨fun h=>by rw [step];exact ih1 (fun hm=>h (by simp [hm])),fun i e hi fM he=>?_⟩
   rcases i with _ | i
   ·simp at hi;exact absurd hi.symm ig
   ·rw [step,ih2 i e (sp_ hi) (fun j hj=>by simpa using fM (j+1) om_) (sp_ he)]
    congr 3;omega
theorem a8e {d:TypeDesc} (bo:∀ M w a v,RV M w (kc a) v->v=kv a) (hrv':∀ M w a,RV M w (kc a) (kv a)) (hu:∀ w,(underlying kt).run P w = .ok d w) (hs:∀ a b,Instr.sameNow d (kv a) (kv b)=some (decide (a=b)))
 (hc:∀ b a w,(Instr.checkKey b 10000 kt (kv a)).run P w = .ok () w) (hb:∀ a,Instr.sameBits 10000 (kv a) (kv a)=true):T4 P kt kc kv where
 rv:=bo
 rv':=hrv'
 check:=hc
 bits:=hb
 none a l ab h1 h2 h3 w:=by simp [Instr.findKey,hu,(a4P hs a l ab 0 h1 h2).1 h3]
 some a l ab h1 h2 i e h3 h4 h5 w:=by
  have:=(a4P hs a l ab 0 h1 h2).2 i e h3 h4 h5;simp [Instr.findKey,hu,this]
theorem a4D (heq:∀ a b w,(Op.equal kt (kv a) (kv b)).run P w = .ok (decide (a=b)) w) (a:α):∀ (l:List α) (ab:List MapEntry) (n:Nat),ab.length=l.length->(∀ (i:Nat) (x:α),l[i]? = some x->∃ e,ab[i]? = some e/\e.key=kv x) ->
 (a∉l->∀ w,(Instr.findAsking kt (kv a) ab n).run P w = .ok none w)/\∀ (i:Nat) (e:MapEntry),l[i]? = some a->(∀ j,j < i->l[j]?≠some a)->ab[i]? = some e->∀ w,(Instr.findAsking kt (kv a) ab n).run P w = .ok (some (n+i,e.val)) w
 | [],[],n,_,_=>⟨fun _ w=>by simp [Instr.findAsking],fun i e h=>by simp at h⟩
 | [],_::_,_,h,_=>by simp at h
 | _::_,[],_,h,_=>by simp at h
 | x::l,e0::ab,n,hl,hh=>by
  obtain ⟨e',he,hk⟩:=hh 0 x rfl;simp at he;subst he;obtain ⟨ih1,ih2⟩:=a4D heq a l ab (n+1) (sp_ hl) fun i y hi=>hh (i+1) y (sp_ hi);by_cases ig:a=x
  ·subst ig;refine ⟨fun h=>absurd si_ h,fun i e hi fM he w=>?_⟩
   rcases i with _ | i
   ·simp at he;subst he;simp [Instr.findAsking,hk,heq]
   ·exact absurd rfl (fM 0 om_)
  ·have step:∀ w,(Instr.findAsking kt (kv a) (e0::ab) n).run P w=(Instr.findAsking kt (kv a) ab (n+1)).run P w:=fun w=>by simp [Instr.findAsking,hk,heq,ig]
   refine ⟨fun h w=>by rw [step];exact ih1 (fun hm=>h (by simp [hm])) w,fun i e hi fM he w=>?_⟩
   rcases i with _ | i
   ·simp at hi;exact absurd hi.symm ig
   ·rw [step,ih2 i e (sp_ hi) (fun j hj=>by simpa using fM (j+1) om_) (sp_ he)]
    congr 3;omega
theorem c5L.find (hK:c5L P kt kc kv):T4 P kt kc kv where
 rv:=hK.rv
 rv':=hK.rv'
 check:=hK.check
 bits:=hK.bits
 none a l ab h1 h2 h3 w:=by
  obtain ⟨d,hd,hs⟩:=hK.now;cases ab with
  | nil=>simp [Instr.findKey,hd,Instr.findNow]
  | cons e ab =>
   cases l with
   | nil=>simp at h1
   | cons x l =>
    obtain ⟨e',he,hk⟩:=h2 0 x rfl;simp at he;subst he;have hn:Instr.findNow d (kv a) (e::ab) 0 = .none:=by simp [Instr.findNow,hk,hs]
    simp [Instr.findKey,hd,hn,(a4D hK.eq a (x::l) (e::ab) 0 h1 h2).1 h3]
 some a l ab h1 h2 i e h3 h4 h5 w:=by
  obtain ⟨d,hd,hs⟩:=hK.now;cases ab with
  | nil=>simp at h5
  | cons e0 ab =>
   cases l with
   | nil=>simp at h1
   | cons x l =>
    obtain ⟨e',he,hk⟩:=h2 0 x rfl;simp at he;subst he;have hn:Instr.findNow d (kv a) (e0::ab) 0 = .none:=by simp [Instr.findNow,hk,hs]
    have:=(a4D hK.eq a (x::l) (e0::ab) 0 h1 h2).2 i e h3 h4 h5 w;simp [Instr.findKey,hd,hn,this]
end
theorem c8X (k:IntKind) (hu:∀ w,(underlying kt).run P w = .ok (.int k) w):T4 (α:=Int) P kt (fun a=>.val (.int k a)) (fun a=>.int k a) :=
 a8e (fun _ _ _ _ h=>r6 h) (fun _ _ _=>.val _) hu (fun a b=>by simp [Instr.sameNow];rfl)
  (fun b a w=>by
   have:∀ n,(Instr.checkKey b (n+1) kt (.int k a)).run P w = .ok () w:=fun n=>by simp [Instr.checkKey,hu]
   exact this 9999)
  (fun a=>by
   have:∀ n,Instr.sameBits (n+1) (.int k a) (.int k a)=true:=fun n=>by simp [Instr.sameBits]
   exact this 9999)
theorem b3v (a b:Str):(str a == str b)=decide (a=b):=by
 have h:(str a == str b)=((str a).data == (str b).data):=rfl;rw [h];by_cases e:a=b
 ·subst e;simp
 ·have:¬ (str a).data=(str b).data:=fun h'=>e (by simpa [str] using h');simp [e,this]
theorem d3L (hu:∀ w,(underlying kt).run P w = .ok .string w):T4 (α:=Str) P kt sv (fun a=>.string (str a)) :=
 a8e (fun _ _ _ _ h=>r6 h) (fun _ _ _=>.val _) hu (fun a b=>by
  simp only [Instr.sameNow];rw [b3v])
  (fun b a w=>by
   have:∀ n,(Instr.checkKey b (n+1) kt (.string (str a))).run P w = .ok () w:=fun n=>by simp [Instr.checkKey,hu]
   exact this 9999)
  (fun a=>by
   have:∀ n,Instr.sameBits (n+1) (.string (str a)) (.string (str a))=true:=fun n=>by simp [Instr.sameBits,b3v]
   exact this 9999)
def gm {α β:Type} (kc:α->CV) (vc:β->CV) (l:List (α × β)):List (CV × CV):=l.map fun x=>(kc x.1,vc x.2)
def glk {α β:Type} [DecidableEq α]:List (α × β)->α->Option β
 | [],_=>none
 | (b,c)::l,a=>if a=b then some c else glk l a
def S8 {α β:Type} [DecidableEq α]:List (α × β)->α->β->List (α × β)
 | [],a,c=>[(a,c)]
 | (b,d)::l,a,c=>if a=b then (b,c)::l else (b,d)::S8 l a c
theorem b3z [DecidableEq α] (l:List (α × Int)) (a:α):((glk l a).map fun v:Int=>CV.val (.int .i64 v)).getD (I2 (.int .i64 0)) = .val (.int .i64 ((glk l a).getD 0)):=by cases glk l a<;>rfl
theorem b6D [DecidableEq α] {l:List (α × β)}:glk l a=none↔a∉l.map (·.1):=by
 induction l with
 | nil=>simp [glk]
 | cons x l ih =>
  obtain ⟨b,c⟩:=x;by_cases h:a=b
  ·simp [glk,h]
  ·simp [glk,h,ih]
theorem a6s {α β:Type} [DecidableEq α]:∀ {l:List (α × β)} {a:α} {c:β},glk l a=some c->∃ i:Nat,l[i]? = some (a,c)/\∀ j,j < i->(l.map (·.1))[j]?≠some a
 | [],_,_,h=>by cases h
 | (b,d)::l,a,c,h=>by
  by_cases cM:a=b
  ·rw [glk,n_1 cM] at h;injection h with h
   subst h cM;exact ⟨0,rfl,fun j hj=>by omega⟩
  ·rw [glk,n_0 cM] at h;obtain ⟨i,h1,h2⟩:=a6s h;refine ⟨i+1,sp_ h1,fun j hj=>?_⟩
   rcases j with _ | j
   ·simpa using fun e=>cM e.symm
   ·simpa using h2 j om_
theorem c3v [DecidableEq α] {l:List (α × β)} {c:β} (h:glk l a=none):S8 l a c=l++[(a,c)]:=by
 induction l with
 | nil=>rfl
 | cons x l ih =>
  obtain ⟨b,d⟩:=x;by_cases cM:a=b
  ·rw [glk,n_1 cM] at h;cases h
  ·rw [glk,n_0 cM] at h;rw [S8,n_0 cM,ih h];rfl
theorem b2D {α β:Type} [DecidableEq α] {c d:β} {a:α}:∀ {l:List (α × β)} {i:Nat},l[i]? = some (a,d)->(∀ j,j < i->(l.map (·.1))[j]?≠some a)->S8 l a c=l.set i (a,c)
 | [],i,h,_=>by simp at h
 | (b,e)::l,i,h,hm=>by
  rcases i with _ | i
  ·simp at h;rw [S8,n_1 h.1.symm,h.1];rfl
  ·have cM:¬ a=b:=fun e=>hm 0 om_ a2u;rw [S8,n_0 cM,b2D (sp_ h) (fun j hj=>by simpa using hm (j+1) om_)];rfl
theorem O0 [DecidableEq α] (l:List (α × β)) (a b:α) (c:β):glk (S8 l a c) b=if b=a then some c else glk l b:=by
 induction l with
 | nil=>rfl
 | cons x l ih =>
  obtain ⟨k,d⟩:=x;by_cases hak:a=k
  ·subst hak;rw [S8,n_1 rfl,glk,glk];by_cases h:b=a<;>simp [h]
  ·rw [S8,n_0 hak,glk,glk,ih];by_cases h:b=k
   ·subst h;rw [n_1 rfl,n_1 rfl,n_0 (fun e=>hak e.symm)]
   ·rw [n_0 h,n_0 h]
section
variable [DecidableEq α] {kc:α->CV} {kv:α->Value} {vc:β->CV}
theorem c4S (hK:T4 C.P kt kc kv) {l:List (α × β)} (h:Q3 M w p (.map (gm kc vc l))) :
 ∃ ab ai,w.heap[p.block]? = some (.map ab ai)/\(ab.size=l.length/\b0H ab)/\(∀ (i:Nat) (x:α),(l.map (·.1))[i]? = some x->∃ e,ab.toList[i]? = some e/\e.key=kv x)/\∀ (i:Nat) (x:α × β),l[i]? = some x->∃ e,ab[i]? = some e/\e.key=kv x.1/\RV M w (vc x.2) e.val/\e.born < ai:=by
 obtain ⟨ab,ai,h1,h2,h3⟩:=h;have key:∀ (i:Nat) (x:α × β),l[i]? = some x->∃ e,ab[i]? = some e/\e.key=kv x.1/\RV M w (vc x.2) e.val/\e.born < ai:=fun i x hi=>by
  obtain ⟨e,he,hk,hv,hb⟩:=h3 i (kc x.1,vc x.2) (by simp [gm,hi]);exact ⟨e,he,hK.rv _ _ _ _ hk,hv,hb⟩
 refine ⟨ab,ai,h1,⟨by simpa [gm] using h2.1,h2.2⟩,fun i x hi=>?_,key⟩;rw [Q0,N0] at hi;obtain ⟨y,hy,rfl⟩:=hi;obtain ⟨e,he,hk,_⟩:=key i y hy;exact ⟨e,sp_ he,hk⟩
theorem a6m (hK:T4 C.P kt kc kv) {l:List (α × β)} {ok:Bool} (h:Q3 M w p (.map (gm kc vc l))) (hu:∀ w,(underlying t).run C.P w = .ok (.map kt et) w) (hz:∀ w,(zeroValue et).run C.P w = .ok z w) :
 match glk l a with
 | none=>(Instr.lookup t (.map (some p.block)) (kv a) ok).run C.P w = .ok (if ok=true then .tuple #[z,.bool false] else z) w
 | some c=>∃ v,RV M w (vc c) v/\(Instr.lookup t (.map (some p.block)) (kv a) ok).run C.P w = .ok (if ok=true then .tuple #[v,.bool true] else v) w:=by
 obtain ⟨ab,ai,g1,g2,g3,g4⟩:=c4S hK h;have aj:ab.toList.length=(l.map (·.1)).length:=sp_ g2.1;cases fj:glk l a with
 | none =>
  have hf:=hK.none a (l.map (·.1)) ab.toList aj g3 (b6D.1 fj) w;cases ok<;>simp [Instr.lookup,hu,L4 g1,hK.check,hf,hz]
 | some c =>
  obtain ⟨i,h1,h2⟩:=a6s fj;obtain ⟨e,e1,_,e3,_⟩:=g4 i (a,c) h1;have hf:=hK.some a (l.map (·.1)) ab.toList aj g3 i e (by simp [h1]) h2 (sp_ e1) w;exact ⟨e.val,e3,by cases ok<;>simp [Instr.lookup,hu,L4 g1,hK.check,hf]⟩
theorem R5 (hK:T4 C.P kt kc kv) {l:List (α × β)} (ho:o.op = .lookup t m kx false) (hm:E.valid m) (hk:E.valid kx) (em:E.val C m = .map q) (ek:E.val C kx=kc a)
 (hu:∀ w,(underlying t).run C.P w = .ok (.map kt et) w) (hz:∀ w,(zeroValue et).run C.P w = .ok z w) (bY:M5 z=true) (ao:σ[q]? = some (.map (gm kc vc l))) (hc:((glk l a).map vc).getD (I2 z)=c):l9 C σ E o c :=
 i7 fun M w ρ hr h=>by
  have h1:=h m w9 hm;have h2:=h kx w9 hk;rw [em] at h1;rw [ek] at h2;have dw:=hK.rv _ _ _ _ h2;generalize hv:ρ m=v at h1;cases h1 with
  | map hp =>
   rename_i p;have hl:=a6m hK (t:=t) (a:=a) (ok:=false) (hr.obj q p _ hp ao).1 hu hz;subst hc;cases fj:glk l a with
   | none =>
    rw [fj] at hl;exact ⟨z,by simp [execOp,ho,hv,dw,hl],a0c bY⟩
   | some c =>
    rw [fj] at hl;obtain ⟨u,f1,f2⟩:=hl;exact ⟨u,by simp [execOp,ho,hv,dw,f2],f1⟩
theorem a23 (hK:T4 C.P kt kc kv) {l:List (α × β)} (ho:o.op = .lookup t m kx true) (hm:E.valid m) (hk:E.valid kx) (em:E.val C m = .map q) (ek:E.val C kx=kc a)
 (hu:∀ w,(underlying t).run C.P w = .ok (.map kt et) w) (hz:∀ w,(zeroValue et).run C.P w = .ok z w) (bY:M5 z=true) (ao:σ[q]? = some (.map (gm kc vc l))) (hc:((glk l a).map vc).getD (I2 z)=c):l9 C σ E o (.tup [c,.val (.bool (glk l a).isSome)]) :=
 i7 fun M w ρ hr h=>by
  have h1:=h m w9 hm;have h2:=h kx w9 hk;rw [em] at h1;rw [ek] at h2;have dw:=hK.rv _ _ _ _ h2;have tup:∀ {c:CV} {v:Value} {b:Bool},RV M w c v->RV M w (.tup [c,.val (.bool b)]) (.tuple #[v,.bool b]):=fun {c v b} hcv=>.tup rfl fun i x hi=>by
   rcases i with _ | _ | i
   ·simp at hi;subst hi;exact hcv
   ·simp at hi;subst hi;exact .val _
   ·simp at hi
  generalize hv:ρ m=v at h1;cases h1 with
  | map hp =>
   rename_i p;have hl:=a6m hK (t:=t) (a:=a) (ok:=true) (hr.obj q p _ hp ao).1 hu hz;subst hc;cases fj:glk l a with
   | none =>
    rw [fj] at hl;exact ⟨.tuple #[z,.bool false],by simp [execOp,ho,hv,dw,hl],tup (a0c bY)⟩
   | some c =>
    rw [fj] at hl;obtain ⟨u,f1,f2⟩:=hl;exact ⟨.tuple #[u,.bool true],by simp [execOp,ho,hv,dw,f2],tup f1⟩
theorem b1y (hK:T4 C.P kt kc kv) {l:List (α × β)} {b:β} (hr:Rel C M σ w) (hp:M.pl[q]? = some p) (ao:σ[q]? = some (.map (gm kc vc l))) (hv:RV M w (vc b) v)
 (hu:∀ w,(underlying t).run C.P w = .ok (.map kt et) w):∃ w',(Instr.mapUpdate t (.map (some p.block)) (kv a) v).run C.P w = .ok () w'/\Ext M w M w'/\Rel C M (σ.set q (.map (gm kc vc (S8 l a b)))) w':=by
 obtain ⟨ab,ai,g1,g2,g3,g4⟩:=c4S hK (hr.obj q p _ hp ao).1;have aj:ab.toList.length=(l.map (·.1)).length:=sp_ g2.1;have bE:∀ (i:Nat) (e:MapEntry),ab[i]? = some e->e.born < ai:=fun i e he=>by
  have ae:i < l.length:=by rw [<- g2.1];exact (a1z.1 he).1
  obtain ⟨e',h1,_,_,h4⟩:=g4 i l[i] (by simp [ae]);rw [he] at h1;injection h1 with h1
  rw [h1];exact h4
 cases fj:glk l a with
 | none =>
  have hf:=hK.none a (l.map (·.1)) ab.toList aj g3 (b6D.1 fj) w;refine ⟨World.putObj w p.block (.map (ab.push { key:=kv a,val:=v,born:=ai}) (ai+1)),by simp [Instr.mapUpdate,hu,L4 g1,hK.check,hf,a36 _ g1],?_⟩;rw [c3v fj];exact hr.setObj (es':=gm kc vc (l++[(a,b)])) hp ao (by simp [gm,g2.1]) (g2.2.push bE rfl) (fun i x hi=>by
   obtain ⟨y,hy,rfl⟩:∃ y,(l++[(a,b)])[i]? = some y/\(kc y.1,vc y.2)=x:=by unfold gm at hi;rwa [Q0,N0] at hi
   rw [a5Y] at hy;split at hy
   ·obtain ⟨e,q1,q2,q3,q4⟩:=g4 i y hy;have ae:i < ab.size:=(a1z.1 q1).1;exact ⟨e,by rw [b6l,n_0 om_];exact q1,by rw [q2];exact hK.rv' _ _ _,q3,om_⟩
   ·rename_i aE;have ae:=(n_3.1 hy).1;simp at ae;have hi0:i=l.length:=by omega
    subst hi0;simp at hy;subst hy;exact ⟨_,by rw [b6l,n_1 om_],hK.rv' _ _ _,hv,si_⟩)
 | some c =>
  obtain ⟨i,h1,h2⟩:=a6s fj;obtain ⟨e,e1,e2,e3,e4⟩:=g4 i (a,c) h1;have hf:=hK.some a (l.map (·.1)) ab.toList aj g3 i e (by simp [h1]) h2 (sp_ e1) w;refine ⟨World.putObj w p.block (.map (ab.modify i fun e=>{ e with key:=kv a,val:=v}) ai),by simp [Instr.mapUpdate,hu,L4 g1,hK.check,hf,a36 _ g1,Instr.keyThatStays,e1,e2,hK.bits],?_⟩;rw [b2D h1 h2];exact hr.setObj (es':=gm kc vc (l.set i (a,b))) hp ao (by simp [gm,g2.1]) (g2.2.modify fun _=>rfl) (fun j x hj=>by
   obtain ⟨y,hy,rfl⟩:∃ y,(l.set i (a,b))[j]? = some y/\(kc y.1,vc y.2)=x:=by unfold gm at hj;rwa [Q0,N0] at hj
   rw [b1k] at hy;split at hy
   ·rename_i hij;subst hij;split at hy
    ·injection hy with hy
     subst hy;exact ⟨{ e with key:=kv a,val:=v},by rw [b2W,n_1 rfl,e1];rfl,hK.rv' _ _ _,hv,e4⟩
    ·cases hy
   ·rename_i hij;obtain ⟨e',q1,q2,q3,q4⟩:=g4 j y hy;exact ⟨e',by rw [b2W,n_0 hij];exact q1,by rw [q2];exact hK.rv' _ _ _,q3,q4⟩)
theorem l8 (hK:T4 C.P kt kc kv) {vx:Operand} {l:List (α × β)} {b:β} (ho:o.op = .mapUpdate t m kx vx\/o.op = .insert t m kx vx) (hm:E.valid m) (hk:E.valid kx) (hv:E.valid vx) (em:E.val C m = .map q) (ek:E.val C kx=kc a) (ev:E.val C vx=vc b)
 (hu:∀ w,(underlying t).run C.P w = .ok (.map kt et) w) (ao:σ[q]? = some (.map (gm kc vc l))) (hQ:K (.ret (.val undef)) (σ.set q (.map (gm kc vc (S8 l a b))))):H4 C σ E o K:=fun M w ρ hr h=>by
 have hops:m∈o.op.operands/\kx∈o.op.operands/\vx∈o.op.operands:=by rcases ho with ho | ho<;>simp [ho,Op.operands]
 have h1:=h m hops.1 hm;have h2:=h kx hops.2.1 hk;have h3:=h vx hops.2.2 hv;rw [em] at h1;rw [ek] at h2;rw [ev] at h3;have dw:=hK.rv _ _ _ _ h2;generalize hum:ρ m=um at h1;cases h1 with
 | map hp =>
  rename_i p;obtain ⟨w',aw,hx,bp⟩:=b1y hK (a:=a) (b:=b) hr hp ao h3 hu;have dx:(execOp ρ o).run C.P w = .ok .skip w':=by
   rcases ho with ho | ho<;>simp [execOp,ho,hum,dw,aw]
  rw [dx];exact ⟨.val undef,_,M,hx,bp,.val _,hQ⟩
end
theorem a6C (w:World) (ak:Array Value) (e:TypeId) (n:Nat):(w.alloc (.cells ak e)).freeze ⟨w.heap.size,n,none⟩ 1=w.alloc (.cells ak e (n,n+1)):=by
 unfold World.freeze World.alloc;rw [n_0 om_]
 congr 1
 apply Array.ext
 ·simp
 ·intro i h1 h2;simp at h1 h2;rw [Array.getElem_modify];by_cases hi:w.heap.size=i
  ·subst hi;simp
  ·rw [n_0 hi];rw [Array.getElem_push_lt om_,Array.getElem_push_lt om_]
section
theorem d3w (ho:o.op = .convert src dst x) (hx:E.valid x) (ex:E.val C x=sv l) (hs:∀ w,(underlying src).run C.P w = .ok .string w) (hd:∀ w,(underlying dst).run C.P w = .ok (.slice e) w) (he:∀ w,(underlying e).run C.P w = .ok (.int .u8) w) (hl:l.length<=1000000000000):l9 C σ E o (.list (l.map bcv) true none):=fun M w ρ hr h=>by
 have h1:=h x w9 hx;rw [ex] at h1;have hv:=r6 h1;obtain ⟨eS,hxd⟩:=hr.drew;obtain ⟨c,cH,db,du⟩:∃ c,l.length<=c/\c<=9223372036854775807/\(choose (.appendCap l.length 0 e)).run C.P w = .ok c w.drew:=by
  refine ⟨(Question.appendCap l.length 0 e).cut (w.tape w.drawn (.appendCap l.length 0 e)),by simp [Question.cut],?_,a9v rfl⟩;simp only [Question.cut];have:w.tape w.drawn (.appendCap l.length 0 e)%(2^63 - l.length) < 2^63 - l.length:=a5j _ om_;omega
 generalize hA:(((str l).data.map fun b:UInt8=>Value.int .u8 (b.toNat:Int))++Array.replicate (c - l.length) (Value.int .u8 0))=A;have hAs:A.size=c:=by
  rw [<- hA];simp [str];omega
 have aw:(execOp ρ o).run C.P w = .ok (.value (.slice (some ⟨w.heap.size,0,none⟩) l.length c)) (w.drew.alloc (.cells A e (c,c+1))):=by
  have hsh:((w.drew.alloc (.cells A e)).shape? w.heap.size)=some (e,c):=by
   have:=A4 w.drew (.cells A e);simp only [World.shape?];rw [show w.heap.size=w.drew.heap.size from rfl,this];simp [hAs]
  have hm:(markStringish ⟨w.heap.size,0,none⟩).run C.P (w.drew.alloc (.cells A e)) = .ok () (w.drew.alloc (.cells A e (c,c+1))):=by
   have:=a6C w.drew A e c;simp only [markStringish,shape,freeze,Sem.run_bind];simp only [Sem.run,hsh,Result.andThen_ok];rw [show w.heap.size=w.drew.heap.size from rfl,this]
  simp only [execOp,ho,hv,convert,Sem.run_bind,hs,hd,Result.andThen_ok,he,Conv.stringToBytes,a4S,du,newRow,hA];simp only [newObj,Sem.run,Result.andThen_ok];rw [show (w.drew.heap.size)=w.heap.size from rfl];simp only [Sem.run_pure,Result.andThen_ok];have e0:({ heap:=w.drew.heap.push (.cells A e),tape:=w.drew.tape,drawn:=w.drew.drawn,os:=w.drew.os,output:=w.drew.output}:World)=w.drew.alloc (.cells A e):=rfl;rw [e0,hm];simp only [Result.andThen_ok]
 rw [aw];obtain ⟨aK,bm⟩:=eS.allocFull (.cells A e (c,c+1));have aq:∀ (i:Nat) (b:UInt8),l[i]? = some b->A[i]? = some (.int .u8 b.toNat):=fun i b hb=>by
  have ae:=(n_3.1 hb).1;rw [<- hA,b6r (by simp [str];exact ae)];simp [str,hb]
 have ge:RV (M.settle w.drew.heap.size) (w.drew.alloc (.cells A e (c,c+1))) (.list (l.map bcv) true none) (.slice (some ⟨w.drew.heap.size,0,none⟩) (l.map bcv).length c):=by
  refine .list (b:=w.drew.heap.size) (off:=0) (s:=1) (fun i _=>A.getD i undef) (sp_ cH) (by unfold maxLen;omega) rfl (fun h=>by cases h) a1N (fun r hr=>?_) (fun r hr c hc=>?_) (fun i j r c' hi hj=>?_) (fun i j r c' hi hj=>?_) (fun k hk=>by cases hk)
  ·obtain ⟨b,_,rfl⟩:=I9.1 hr;rfl
  ·obtain ⟨b,_,rfl⟩:=I9.1 hr;simp [bcv] at hc;subst hc;rfl
  ·rw [Q0,N0] at hi;obtain ⟨b,hb,rfl⟩:=hi;have hj0:j=0:=by
    have:=(n_3.1 hj).1;simp [bcv] at this;exact this
   subst hj0;refine ⟨.inl (.inr rfl),?_⟩;simp only [World.cell?,A4];have:=aq i b hb;simp [this]
  ·rw [Q0,N0] at hi;obtain ⟨b,hb,rfl⟩:=hi;have hj0:j=0:=by
    have:=(n_3.1 hj).1;simp [bcv] at this;exact this
   subst hj0;simp [bcv] at hj;subst hj;have:=aq i b hb;rw [a0k,this];exact .val _
 rw [a0W] at ge;exact ⟨_,σ,_,hxd.trans aK,bm,ge,rfl,rfl⟩
theorem a2V {f:Nat} {fs:Array Field} {fd:Field} (ho:o.op = .field t x f) (hx:E.valid x) (ex:E.val C x = .agg cells) (hu:∀ w,(underlying t).run C.P w = .ok (.struct fs) w) (hf:fs[f]? = some fd) (ha:∀ w,(isAgg fd.type).run C.P w = .ok false w) (hc:cells[fd.offset]? = some c):l9 C σ E o c :=
 i7 fun M w ρ hr h=>by
  have h1:=h x w9 hx;rw [ex] at h1;generalize hv:ρ x=v at h1;cases h1 with
  | agg g1 g2 g3 =>
   rename_i vs;have ae:fd.offset < vs.size:=by rw [g1];exact (n_3.1 hc).1
   refine ⟨vs.getD fd.offset undef,?_,g3 _ _ hc⟩;simp [execOp,ho,hv,Instr.field,hu,hf,part,ha,asAgg,ae]
theorem c9W (ho:o.op = .panic x) (hx:E.valid x) (ex:E.val C x=c) (hn:∀ M w v,RV M w c v->∃ t u,v = .iface t u) (hk:K (.pan c) σ):H4 C σ E o K:=fun M w ρ hr h=>by
 have h1:=h x w9 hx;rw [ex] at h1;obtain ⟨t,u,hv⟩:=hn M w _ h1;have aw:(execOp ρ o).run C.P w = .halt (.panic (ρ x)) w:=by
  simp [execOp,ho,hv,Instr.panic]
 rw [aw];exact ⟨c,ρ x,σ,M,rfl,Ext.refl M w,hr,h1,hk⟩
end
inductive O9 (R:Nat->Nat->Prop):CV->CV->Prop where
 | val (v:Value):O9 R (.val v) (.val v)
 | agg {cs aX:List CV}:cs.length=aX.length->(∀ (i:Nat) (c c':CV),cs[i]? = some c->aX[i]? = some c'->O9 R c c')->O9 R (.agg cs) (.agg aX)
 | tup {cs aX:List CV}:cs.length=aX.length->(∀ (i:Nat) (c c':CV),cs[i]? = some c->aX[i]? = some c'->O9 R c c')->O9 R (.tup cs) (.tup aX)
 | clo {f:FuncId} {cs aX:List CV}:cs.length=aX.length->(∀ (i:Nat) (c c':CV),cs[i]? = some c->aX[i]? = some c'->O9 R c c')->O9 R (.clo f cs) (.clo f aX)
 | list {V av:List (List CV)} {nn:Bool} {tok fL:Option Nat}:V.length=av.length->(∀ (i:Nat) (r r':List CV),V[i]? = some r->av[i]? = some r'->r.length=r'.length) ->
  (∀ (i j:Nat) (r r':List CV) (c c':CV),V[i]? = some r->av[i]? = some r'->r[j]? = some c->r'[j]? = some c'->O9 R c c')->((tok=none/\fL=none)\/∃ k k',tok=some k/\fL=some k'/\R k k')->O9 R (.list V nn tok) (.list av nn fL)
 | ptr {k k' off:Nat}:R k k'->O9 R (.ptr k off) (.ptr k' off)
 | cptr {cells bQ:List CV}:cells.length=bQ.length->(∀ (i:Nat) (c c':CV),cells[i]? = some c->bQ[i]? = some c'->O9 R c c')->O9 R (.cptr cells) (.cptr bQ)
 | eptr {k k' i off:Nat}:R k k'->O9 R (.eptr k i off) (.eptr k' i off)
 | vec {k k' off len:Nat}:R k k'->O9 R (.vec k off len) (.vec k' off len)
 | map {k k':Nat}:R k k'->O9 R (.map k) (.map k')
 | yld {k k':Nat}:R k k'->O9 R (.yld k) (.yld k')
theorem O9.one (h:O9 R c c'):c'.one=c.one:=by cases h<;>rfl
theorem O9.symm (hR:∀ k k',R k k'->R' k' k) (h:O9 R c c'):O9 R' c' c:=by
 induction h with
 | val v=>exact .val v
 | agg h1 _ ih=>exact .agg h1.symm fun i c c' h h'=>ih i c' c h' h
 | tup h1 _ ih=>exact .tup h1.symm fun i c c' h h'=>ih i c' c h' h
 | clo h1 _ ih=>exact .clo h1.symm fun i c c' h h'=>ih i c' c h' h
 | list h1 h2 _ h4 ih=>exact .list h1.symm (fun i r r' h h'=>(h2 i r' r h' h).symm) (fun i j r r' c c' a b d e=>ih i j r' r c' c b a e d) (h4.imp (fun ⟨a,b⟩=>⟨b,a⟩) fun ⟨k,k',a,b,d⟩=>⟨k',k,b,a,hR _ _ d⟩)
 | ptr h=>exact .ptr (hR _ _ h)
 | cptr h1 _ ih=>exact .cptr h1.symm fun i c c' h h'=>ih i c' c h' h
 | eptr h=>exact .eptr (hR _ _ h)
 | vec h=>exact .vec (hR _ _ h)
 | map h=>exact .map (hR _ _ h)
 | yld h=>exact .yld (hR _ _ h)
theorem O9.pure (h:u0 c):O9 R c c:=by
 induction h with
 | val v=>exact .val v
 | agg _ ih =>
  refine .agg rfl fun i c c' h h'=>?_;rw [h] at h';injection h' with h';subst h'
  exact ih c (n_2 h)
 | tup _ ih =>
  refine .tup rfl fun i c c' h h'=>?_;rw [h] at h';injection h' with h';subst h'
  exact ih c (n_2 h)
 | clo _ ih =>
  refine .clo rfl fun i c c' h h'=>?_;rw [h] at h';injection h' with h';subst h'
  exact ih c (n_2 h)
 | list _ ih =>
  refine .list rfl (fun i r r' h h'=>?_) (fun i j r r' c c' h h' g g'=>?_) (.inl ⟨rfl,rfl⟩)
  ·rw [h] at h';injection h' with h';subst h';rfl
  ·rw [h] at h';injection h' with h';subst h'
   rw [g] at g';injection g' with g';subst g'
   exact ih r (n_2 h) c (n_2 g)
theorem RV.renR {R:Nat->Nat->Prop} {M M':A5} {w:World} (hR:∀ (k k':Nat) (p:Pl),R k k'->M.pl[k]? = some p->M'.pl[k']? = some p) (aV:∀ b o,M.at b o->M'.at b o) {c:CV} {v:Value} (h:RV M w c v):∀ {c':CV},O9 R c c'->RV M' w c' v:=by
 induction h with
 | val v=>intro c' hr;cases hr;exact .val v
 | agg h1 h2 _ ih =>
  intro c' hr;cases hr with
  | agg e1 e2 =>
   refine .agg (by rw [h1,e1]) (fun c hc=>?_) fun i c hi=>?_
   ·obtain ⟨i,hi⟩:=L7.1 hc;obtain ⟨y,hy⟩:=p9 e1 hi;rw [(e2 i y c hy hi).one];exact h2 y (n_2 hy)
   ·obtain ⟨y,hy⟩:=p9 e1 hi;exact ih i y hy (e2 i y c hy hi)
 | tup h1 _ ih =>
  intro c' hr;cases hr with
  | tup e1 e2 =>
   refine .tup (by rw [h1,e1]) fun i c hi=>?_;obtain ⟨y,hy⟩:=p9 e1 hi;exact ih i y hy (e2 i y c hy hi)
 | clo h1 _ ih =>
  intro c' hr;cases hr with
  | clo e1 e2 =>
   refine .clo (by rw [h1,e1]) fun i c hi=>?_;obtain ⟨y,hy⟩:=p9 e1 hi;exact ih i y hy (e2 i y c hy hi)
 | @list V nn tok a cap b off s vals h1 h2 h3 h4 h5 h6 h7 h8 _ aU ih =>
  intro c' hr;cases hr with
  | @list _ av _ _ fL e1 e2 e3 e4 =>
   have aC:av≠[]->V≠[]:=fun hn h0=>by
    rw [h0] at e1;exact hn (b2p e1.symm)
   have cm:∀ {i:Nat} {r':List CV},av[i]? = some r'->∃ r,V[i]? = some r:=fun hi=>p9 e1 hi;rw [e1];refine .list (s:=s) vals (by rw [<- e1];exact h1) h2 h3 h4 (fun hn=>h5 (aC hn)) (fun r' bp=>?_) (fun r' bp c' bC=>?_) (fun i j r' c' hi hj=>?_) (fun i j r' c' hi hj=>?_) (fun k hk=>?_)
   ·obtain ⟨i,hi⟩:=L7.1 bp;obtain ⟨r,hr⟩:=cm hi;rw [<- e2 i r r' hr hi];exact h6 r (n_2 hr)
   ·obtain ⟨i,hi⟩:=L7.1 bp;obtain ⟨r,hr⟩:=cm hi;obtain ⟨j,hj⟩:=L7.1 bC;obtain ⟨c,hc⟩:=p9 (e2 i r r' hr hi) hj;rw [(e3 i j r r' c c' hr hi hc hj).one];exact h7 r (n_2 hr) c (n_2 hc)
   ·obtain ⟨r,hr⟩:=cm hi;obtain ⟨c,hc⟩:=p9 (e2 i r r' hr hi) hj;have:=h8 i j r c hr hc;exact ⟨aV _ _ this.1,this.2⟩
   ·obtain ⟨r,hr⟩:=cm hi;obtain ⟨c,hc⟩:=p9 (e2 i r r' hr hi) hj;exact ih i j r c hr hc (e3 i j r r' c c' hr hi hc hj)
   ·rcases e4 with ⟨_,e4⟩ | ⟨k0,k1,e5,e6,e7⟩
    ·rw [e4] at hk;cases hk
    ·rw [e6] at hk;injection hk with hk
     subst hk;obtain ⟨s',f1,f2,f3,f4⟩:=aU k0 e5;exact ⟨s',hR _ _ _ e7 f1,f2,f3,fun hn=>f4 (aC hn)⟩
 | ptr hk=>intro c' hr;cases hr with | ptr e=>exact .ptr (hR _ _ _ e hk)
 | cptr vals h1 h2 _ ih =>
  intro c' hr;cases hr with
  | cptr e1 e2 =>
   refine .cptr vals (fun c hc=>?_) (fun j c hj=>?_) (fun j c hj=>?_)
   ·obtain ⟨i,hi⟩:=L7.1 hc;obtain ⟨y,hy⟩:=p9 e1 hi;rw [(e2 i y c hy hi).one];exact h1 y (n_2 hy)
   ·obtain ⟨y,hy⟩:=p9 e1 hj;exact ⟨aV _ _ (h2 j y hy).1,(h2 j y hy).2⟩
   ·obtain ⟨y,hy⟩:=p9 e1 hj;exact ih j y hy (e2 j y c hy hj)
 | eptr hk=>intro c' hr;cases hr with | eptr e=>exact .eptr (hR _ _ _ e hk)
 | vec hk h1 h2 h3=>intro c' hr;cases hr with | vec e=>exact .vec (hR _ _ _ e hk) h1 h2 h3
 | map hk=>intro c' hr;cases hr with | map e=>exact .map (hR _ _ _ e hk)
 | yld hk=>intro c' hr;cases hr with | yld e=>exact .yld (hR _ _ _ e hk)
def a1L (R:Nat->Nat->Prop) (l l':List CV):Prop:=l.length=l'.length/\∀ (i:Nat) (c c':CV),l[i]? = some c->l'[i]? = some c'->O9 R c c'
def c2P (R:Nat->Nat->Prop) (l l':List (CV × CV)):Prop:=l.length=l'.length/\∀ (i:Nat) (x x':CV × CV),l[i]? = some x->l'[i]? = some x'->O9 R x.1 x'.1/\O9 R x.2 x'.2
inductive H8 (R:Nat->Nat->Prop):b9->b9->Prop where
 | dead:H8 R .dead .dead
 | box {t0:Option TypeId} {l l':List CV}:a1L R l l'->H8 R (.boxT t0 l) (.boxT t0 l')
 | tip {t0:Option TypeId} (n:Nat):H8 R (.tipT t0 n) (.tipT t0 n)
 | vec {s:Nat} {V av:List (List CV)}:V.length=av.length->(∀ (i:Nat) (r r':List CV),V[i]? = some r->av[i]? = some r'->a1L R r r')->H8 R (.vec s V) (.vec s av)
 | map {es es':List (CV × CV)}:c2P R es es'->H8 R (.map es) (.map es')
 | iter {c c' l l':List (CV × CV)}:c2P R c c'->c2P R l l'->H8 R (.iter c l) (.iter c' l')
 | blk (o:Obj):H8 R (.blk o) (.blk o)
 | lp {o:Loop} {n:Nat} {cs aX:List (Nat × CV)}:cs.map Prod.fst=aX.map Prod.fst->(∀ (i:Nat) (x x':Nat × CV),cs[i]? = some x->aX[i]? = some x'->O9 R x.2 x'.2)->H8 R (.lp o n cs) (.lp o n aX)
theorem H8.live {a:b9} (h:H8 R a b):b.live=a.live:=by cases h<;>rfl
theorem H8.symm (hR:∀ k k',R k k'->R' k' k) {a:b9} (h:H8 R a b):H8 R' b a:=by
 have hl:∀ {l l':List CV},a1L R l l'->a1L R' l' l:=fun h=>⟨h.1.symm,fun i c c' g g'=>(h.2 i c' c g' g).symm hR⟩;have he:∀ {l l':List (CV × CV)},c2P R l l'->c2P R' l' l:=fun h=>⟨h.1.symm,fun i c c' g g'=>⟨(h.2 i c' c g' g).1.symm hR,(h.2 i c' c g' g).2.symm hR⟩⟩;cases h with
 | dead=>exact .dead
 | box h=>exact .box (hl h)
 | tip n=>exact .tip n
 | vec h1 h2=>exact .vec h1.symm fun i r r' g g'=>hl (h2 i r' r g' g)
 | map h=>exact .map (he h)
 | iter h1 h2=>exact .iter (he h1) (he h2)
 | blk o=>exact .blk o
 | lp h1 h2=>exact .lp h1.symm fun i x x' g g'=>(h2 i x' x g' g).symm hR
theorem Q3.renR {M':A5} (hR:∀ (k k':Nat) (p:Pl),R k k'->M.pl[k]? = some p->M'.pl[k']? = some p) (aV:∀ b o,M.at b o->M'.at b o) (dV:∀ b,M.full b->M'.full b) (cr:∀ b o,M'.cell b o->M.cell b o) {a:b9} (h:Q3 M w p a) (hr:H8 R a b):Q3 M' w p b:=by
 cases hr with
 | dead=>trivial
 | box hl =>
  obtain ⟨ak,ty,e1,e2,e3,e4⟩:=h;refine ⟨ak,ty,e1,by rw [e2,hl.1],fun c hc=>?_,fun i c hi=>?_⟩
  ·obtain ⟨i,hi⟩:=L7.1 hc;obtain ⟨y,hy⟩:=p9 hl.1 hi;rw [(hl.2 i y c hy hi).one];exact e3 y (n_2 hy)
  ·obtain ⟨y,hy⟩:=p9 hl.1 hi;exact (e4 i y hy).renR hR aV (hl.2 i y c hy hi)
 | tip n =>
  obtain ⟨e1,e2,e3,e4⟩:=h;exact ⟨e1,e2,⟨fun o ho=>e3.1 o (cr _ _ ho),e3.2⟩,e4⟩
 | vec h1 h2 =>
  obtain ⟨e0,e1,e2,e3,e4,ak,ty,e5,e6,e7⟩:=h;refine ⟨e0,by rw [<- h1];exact e1,e2,fun r hr=>?_,fun r hr c hc=>?_,ak,ty,e5,e6,fun i j r c hi hj=>?_⟩
  ·obtain ⟨i,hi⟩:=L7.1 hr;obtain ⟨y,hy⟩:=p9 h1 hi;rw [<- (h2 i y r hy hi).1];exact e3 y (n_2 hy)
  ·obtain ⟨i,hi⟩:=L7.1 hr;obtain ⟨y,hy⟩:=p9 h1 hi;obtain ⟨j,hj⟩:=L7.1 hc;obtain ⟨d,hd⟩:=p9 (h2 i y r hy hi).1 hj;rw [((h2 i y r hy hi).2 j d c hd hj).one];exact e4 y (n_2 hy) d (n_2 hd)
  ·obtain ⟨y,hy⟩:=p9 h1 hi;obtain ⟨d,hd⟩:=p9 (h2 i y r hy hi).1 hj;exact (e7 i j y d hy hd).renR hR aV ((h2 i y r hy hi).2 j d c hd hj)
 | map he =>
  obtain ⟨ab,ai,e1,e2,e3⟩:=h;refine ⟨ab,ai,e1,⟨by rw [e2.1,he.1],e2.2⟩,fun i x hi=>?_⟩;obtain ⟨y,hy⟩:=p9 he.1 hi;obtain ⟨e,g1,g2,g3,g4⟩:=e3 i y hy;exact ⟨e,g1,g2.renR hR aV (he.2 i y x hy hi).1,g3.renR hR aV (he.2 i y x hy hi).2,g4⟩
 | iter hc hl =>
  obtain ⟨mb,seen,bB,ab,ai,e1,e2,e3,e4,e5,e6,e7,e8,e9⟩:=h;refine ⟨mb,seen,bB,ab,ai,e1,dV _ e2,e3,e4,e5,e6,by rw [e7,hl.1],fun i x hi=>?_,fun i x hi=>?_⟩
  ·obtain ⟨y,hy⟩:=p9 hl.1 hi;obtain ⟨e,g1,g2,g3⟩:=e8 i y hy;exact ⟨e,g1,g2.renR hR aV (hl.2 i y x hy hi).1,g3.renR hR aV (hl.2 i y x hy hi).2⟩
  ·obtain ⟨y,hy⟩:=p9 hc.1 hi;obtain ⟨hla,j,e,g0,g1,g2,g3⟩:=e9 i y hy;exact ⟨hla,j,e,g0,g1,g2.renR hR aV (hc.2 i y x hy hi).1,g3.renR hR aV (hc.2 i y x hy hi).2⟩
 | blk o=>exact h
 | lp h1 h2 =>
  obtain ⟨tm,e1,e2,e3⟩:=h;refine ⟨tm,e1,e2,fun x hx=>?_⟩;obtain ⟨i,hi⟩:=L7.1 hx;obtain ⟨y,hy⟩:=p9 (by simpa using n_9 List.length h1) hi;have hf:y.1=x.1:=by
   have:=n_9 (·[i]?) h1;simp [hy,hi] at this;exact this
  rw [<- hf];exact (e3 y (n_2 hy)).renR hR aV (h2 i y x hy hi)
inductive a57 (R:Nat->Nat->Prop):Q9->Q9->Prop where
 | ret {c c':CV}:O9 R c c'->a57 R (.ret c) (.ret c')
 | pan {c c':CV}:O9 R c c'->a57 R (.pan c) (.pan c')
def Z7 (am:List Nat) (n:Nat) (i k:Nat):Prop:=am[i]? = some k\/(am.length<=i/\k=n+(i - am.length))
theorem J4 (am:List Nat) (hC:C.plain) (aj:am.length=obs.length) (cf:∀ (i j k:Nat),am[i]? = some k->am[j]? = some k->i=j)
 (cP:∀ (i k:Nat) (ob:b9),am[i]? = some k->obs[i]? = some ob->∃ aN,σ[k]? = some aN/\H8 (fun k i=>am[i]? = some k) aN ob) (ap:a1L (fun k i=>am[i]? = some k) args' args)
 {K:Q9->List b9->Prop} {K':Q9->List b9->Prop} (h:b8 C f args obs K)
 (hK:∀ r τ,K r τ->obs.length<=τ.length/\∃ r' fN,a57 (Z7 am σ.length) r r'/\fN.length=σ.length+(τ.length - obs.length)/\(∀ k,k < σ.length->k∉am->fN[k]? = σ[k]?)/\(∀ (i k:Nat) (x:b9),Z7 am σ.length i k->τ[i]? = some x->∃ x',fN[k]? = some x'/\H8 (Z7 am σ.length) x x')/\K' r' fN) :
 b8 C f args' σ K':=fun M w vs hr hn hx=>by
 have gg:∀ {i k:Nat},am[i]? = some k->∃ p ob,M.pl[k]? = some p/\obs[i]? = some ob/\k < σ.length:=fun {i k} hi=>by
  have bh:i < obs.length:=by rw [<- aj];exact (n_3.1 hi).1
  obtain ⟨aN,h1,_⟩:=cP i k obs[i] hi (by simp [bh]);have hk:k < σ.length:=(n_3.1 h1).1;exact ⟨M.pl[k]'(by rw [hr.len];exact hk),obs[i],si_,by simp [bh],hk⟩
 let LB:Nat->Prop:=fun b=>∃ (k:Nat) (p:Pl) (aN:b9),k∉am/\M.pl[k]? = some p/\σ[k]? = some aN/\aN.live=true/\p.block=b
 let M0:A5:={ pl:=am.map fun k=>(M.pl[k]?).getD ⟨0,0,0⟩,full:=M.full,cell:=M.cell,keep:=fun b=>M.keep b\/LB b}
 have hLB:∀ b,LB b->b < w.heap.size:=fun b ⟨k,p,aN,_,hp,hs,hl,hb⟩=>hb ▸ (hr.obj k p aN hp hs).1.lt hl;have h0:∀ {i:Nat} {p:Pl},M0.pl[i]? = some p->∃ k,am[i]? = some k/\M.pl[k]? = some p:=fun {i p} hp=>by
  have hp:(am.map fun k=>(M.pl[k]?).getD ⟨0,0,0⟩)[i]? = some p:=hp;rw [Q0,N0] at hp;obtain ⟨k,hk,rfl⟩:=hp;obtain ⟨p,_,g1,_,_⟩:=gg hk;exact ⟨k,hk,by rw [g1];rfl⟩
 have ft:∀ (k i:Nat) (p:Pl),am[i]? = some k->M.pl[k]? = some p->M0.pl[i]? = some p:=fun k i p hi hp=>by
  show (am.map fun k=>(M.pl[k]?).getD ⟨0,0,0⟩)[i]? = some p;rw [Q0,hi,b2u,hp];rfl
 have bF:Rel C M0 obs w:=⟨by simp [M0,aj],hr.blk,fun i p ob hp hs=>(by
  obtain ⟨k,hk,dN⟩:=h0 hp;obtain ⟨aN,g1,g2⟩:=cP i k ob hk hs;obtain ⟨q1,q2⟩:=hr.obj k p aN dN g1;refine ⟨q1.renR (M':=M0) ft (fun b o h=>h) (fun b h=>h) (fun b o h=>h) g2,?_⟩;cases g2<;>first | trivial|exact q2),fun i i' p p' x x' hp aG hs aQ hl bJ hb=>(by
  obtain ⟨k,hk,dN⟩:=h0 hp;obtain ⟨k',aH,fO⟩:=h0 aG;obtain ⟨y,g1,g2⟩:=cP i k x hk hs;obtain ⟨y',g1',g2'⟩:=cP i' k' x' aH aQ;have:=hr.inj k k' p p' y y' dN fO g1 g1' (by rw [<- g2.live];exact hl) (by rw [<- g2'.live];exact bJ) hb;subst this;exact cf i i' k hk aH),fun g cells hg=>⟨(by
  have:=(hr.glob g cells hg).rv;exact RV.renR (M:=M) (R:=fun _ _=>False) (M':=M0) (fun _ _ _ h=>h.elim) (fun b o h=>h) this (.cptr rfl fun i c c' h h'=>(by
   rw [h] at h';injection h' with h';subst h'
   exact .pure (hC g cells hg c (n_2 h))))),(hr.glob g cells hg).full,(hr.glob g cells hg).sz⟩,
  fun b hb=>(by
   rcases hb with hb | hb
   ·exact hr.kep b hb
   ·exact hLB b hb),fun i p x hp hs hl hb=>(by
  obtain ⟨k,hk,dN⟩:=h0 hp;obtain ⟨y,g1,g2⟩:=cP i k x hk hs;have dT:y.live=true:=by rw [<- g2.live];exact hl
  rcases hb with hb | ⟨k',p',aN,aH,aG,aQ,bJ,hb⟩
  ·exact hr.nk k p y dN g1 dT hb
  ·have:=hr.inj k' k p' p aN y aG dN aQ g1 bJ dT hb;subst this;exact aH (n_2 hk))⟩
 have gh:∀ (c:CV) (v:Value) (r:CV->Q9) (hret:∀ c c' R,a57 R (r c) c'->∃ d,c'=r d/\O9 R c d) (τ:List b9) (M':A5) (w':World),Ext M0 w M' w'->Rel C M' τ w'->RV M' w' c v->K (r c) τ->∃ c' fN M2,Ext M w M2 w'/\Rel C M2 fN w'/\RV M2 w' c' v/\K' (r c') fN:=by
  intro c v r hret τ M' w' h1 h2 h3 h4;obtain ⟨aJ,r',fN,e1,e2,e3,e4,e5⟩:=hK _ _ h4;obtain ⟨c',rfl,hrc⟩:=hret _ _ _ e1;have hM0:∀ (k i:Nat) (p:Pl),am[i]? = some k->M.pl[k]? = some p->M'.pl[i]? = some p:=fun k i p hi hp=>h1.get (ft k i p hi hp);have cJ:M'.pl.length=τ.length:=h2.len
  let M2:A5:={ pl:=M.pl++M'.pl.drop obs.length,full:=M'.full,cell:=M'.cell,keep:=M.keep}
  have hA:∀ (i k:Nat) (p:Pl),Z7 am σ.length i k->M'.pl[i]? = some p->M2.pl[k]? = some p:=fun i k p ha hp=>by
   rcases ha with ha | ⟨ha,rfl⟩
   ·obtain ⟨p0,_,g1,_,g3⟩:=gg ha;have:=hM0 k i p0 ha g1;rw [hp] at this;injection this with this
    subst this;show (M.pl++_)[k]? = _;rw [V3 (by rw [hr.len];exact g3)];exact g1
   ·show (M.pl++M'.pl.drop obs.length)[σ.length+(i - am.length)]? = _;rw [a0y (by rw [hr.len];omega),a5s,hr.len];rw [show obs.length+(σ.length+(i - am.length) - σ.length)=i by omega];exact hp
  have hB:∀ (k:Nat) (p:Pl) (x:b9),M2.pl[k]? = some p->fN[k]? = some x->(k < σ.length/\k∉am/\M.pl[k]? = some p/\σ[k]? = some x)\/∃ i y,Z7 am σ.length i k/\M'.pl[i]? = some p/\τ[i]? = some y/\H8 (Z7 am σ.length) y x:=fun k p x hp hs=>by
   by_cases hk:k < σ.length
   ·have aG:M.pl[k]? = some p:=by
     have hp:(M.pl++M'.pl.drop obs.length)[k]? = some p:=hp;rwa [V3 (by rw [hr.len];exact hk)] at hp
    by_cases bx:k∈am
    ·obtain ⟨i,hi⟩:=L7.1 bx;have bh:i < τ.length:=by
      have:=(n_3.1 hi).1;omega
     obtain ⟨x',g1,g2⟩:=e4 i k τ[i] (.inl hi) (by simp [bh]);rw [hs] at g1;injection g1 with g1
     subst g1;exact .inr ⟨i,τ[i],.inl hi,hM0 k i p hi aG,by simp [bh],g2⟩
    ·rw [e3 k hk bx] at hs;exact .inl ⟨hk,bx,aG,hs⟩
   ·have gZ:=(n_3.1 hs).1;rw [e2] at gZ;have bh:obs.length+(k - σ.length) < τ.length:=by omega
    have ha:Z7 am σ.length (obs.length+(k - σ.length)) k:=.inr ⟨om_,om_⟩;obtain ⟨x',g1,g2⟩:=e4 (obs.length+(k - σ.length)) k τ[obs.length+(k - σ.length)] ha (by simp [bh]);rw [hs] at g1;injection g1 with g1
    subst g1;have aG:M'.pl[obs.length+(k - σ.length)]? = some (M'.pl[obs.length+(k - σ.length)]'om_):=by simp
    have:=hA _ _ _ ha aG;rw [hp] at this;injection this with this
    exact .inr ⟨_,_,ha,by rw [aG,this],by simp [bh],g2⟩
  have hAinj:∀ (i i' k:Nat),Z7 am σ.length i k->Z7 am σ.length i' k->i=i':=fun i i' k ha cu=>by
   rcases ha with ha | ⟨ha,e⟩<;>rcases cu with cu | ⟨cu,e'⟩
   ·exact cf i i' k ha cu
   ·have:=(gg ha).choose_spec.choose_spec.2.2;omega
   ·have:=(gg cu).choose_spec.choose_spec.2.2;omega
   ·omega
  have hAfun:∀ (i k k':Nat),Z7 am σ.length i k->Z7 am σ.length i k'->k=k':=fun i k k' ha cu=>by
   rcases ha with ha | ⟨ha,e⟩<;>rcases cu with cu | ⟨cu,e'⟩
   ·rw [ha] at cu;exact Option.some.inj cu
   ·have:=(n_3.1 ha).1;omega
   ·have:=(n_3.1 cu).1;omega
   ·omega
  have aK:Ext M w M2 w':=⟨⟨M'.pl.drop obs.length,rfl⟩,h1.full,h1.cell,h1.same,h1.sameC,h1.size,h1.drew,h1.os,h1.tape,h1.output,fun b hb=>by
   obtain ⟨k1,k2,k3,k4⟩:=h1.kept b (.inl hb);exact ⟨hb,k2,k3,k4⟩⟩
  refine ⟨c',fN,M2,aK,⟨by show (M.pl++M'.pl.drop obs.length).length=_;simp [hr.len,cJ,e2],h2.blk,fun k p x hp hs=>?_,fun k k' p p' x x' hp aG hs aQ hl bJ hb=>?_,fun g cells hg=>(hr.glob g cells hg).mono aK,fun b hb=>a97 (hr.kep b hb) h1.size,fun k p x hp hs hl hkp=>?_⟩,h3.renR (M':=M2) hA (fun b o h=>h) hrc,e5⟩
  ·rcases hB k p x hp hs with ⟨hk,bx,aG,aQ⟩ | ⟨i,y,ha,aG,aQ,hro⟩
   ·by_cases hl:x.live=true
    ·obtain ⟨k1,k2,k3,k4⟩:=h1.kept p.block (.inr ⟨k,p,x,bx,aG,aQ,hl,rfl⟩);obtain ⟨g1,g2⟩:=hr.obj k p x aG aQ;refine ⟨g1.mono aK k2 (fun _ _ _ o ho=>k4 o ho),?_⟩;cases x with
     | dead=>trivial
     | tipT t0 n=>exact fun hf=>g2 (k3 hf)
     | _=>exact ⟨fun hf=>g2.1 (k3 hf),fun o ho=>g2.2 o (k4 o ho)⟩
    ·cases x<;>first|exact ⟨tt,tt⟩ | simp [b9.live] at hl
   ·obtain ⟨g1,g2⟩:=h2.obj i p y aG aQ;refine ⟨g1.renR (M':=M2) hA (fun b o h=>h) (fun b h=>h) (fun b o h=>h) hro,?_⟩;cases hro<;>first | trivial|exact g2
  ·have keep:∀ {k:Nat} {p:Pl} {x:b9},k∉am->M.pl[k]? = some p->σ[k]? = some x->x.live=true->M'.keep p.block:=fun {k p x} bx aG aQ hl=>(h1.kept p.block (.inr ⟨k,p,x,bx,aG,aQ,hl,rfl⟩)).1
   rcases hB k p x hp hs with ⟨hk,bx,dN,hsk⟩ | ⟨i,y,ha,dN,hsk,hro⟩<;>rcases hB k' p' x' aG aQ with ⟨aH,hks',fO,ii⟩ | ⟨i',y',cu,fO,ii,hro'⟩
   ·exact hr.inj k k' p p' x x' dN fO hsk ii hl bJ hb
   ·exact absurd (hb ▸ keep bx dN hsk hl) (h2.nk i' p' y' fO ii (by rw [<- hro'.live];exact bJ))
   ·exact absurd (hb ▸ keep hks' fO ii bJ) (h2.nk i p y dN hsk (by rw [<- hro.live];exact hl))
   ·have:=h2.inj i i' p p' y y' dN fO hsk ii (by rw [<- hro.live];exact hl) (by rw [<- hro'.live];exact bJ) hb;subst this;exact hAfun i k k' ha cu
  ·rcases hB k p x hp hs with ⟨hk,bx,aG,aQ⟩ | ⟨i,y,ha,aG,aQ,hro⟩
   ·exact hr.nk k p x aG aQ hl hkp
   ·exact h2.nk i p y aG aQ (by rw [<- hro.live];exact hl) (h1.kept p.block (.inl hkp)).1
 have gi:vs.size=args.length:=by rw [hn,ap.1]
 refine (h M0 w vs bF gi fun i a hi=>?_).mono fun e w' he=>?_
 ·obtain ⟨a',cu⟩:=p9 ap.1 hi;exact (hx i a' cu).renR (M':=M0) ft (fun b o h=>h) (ap.2 i a' a cu hi)
 cases e with
 | panicked ch =>
  obtain ⟨c,v,τ,M',du,h1,h2,h3,h4⟩:=he;obtain ⟨c',fN,M2,g1,g2,g3,g4⟩:=gh c v .pan (fun c c' R h=>by cases h with | pan h=>exact ⟨_,rfl,h⟩) τ M' w' h1 h2 h3 h4;exact ⟨c',v,fN,M2,du,g1,g2,g3,g4⟩
 | outgrown=>exact he
 | returned v =>
  obtain ⟨c,τ,M',h1,h2,h3,h4⟩:=he;exact gh c v .ret (fun c c' R h=>by cases h with | ret h=>exact ⟨_,rfl,h⟩) τ M' w' h1 h2 h3 h4
def a26:b9->Prop
 | .dead=>True
 | .boxT _ cells=>∀ c∈cells,u0 c
 | .tipT _ _=>True
 | .vec _ V=>∀ r∈V,∀ c∈r,u0 c
 | .map es=>∀ x∈es,u0 x.1/\u0 x.2
 | .iter c l=>(∀ x∈c,u0 x.1/\u0 x.2)/\∀ x∈l,u0 x.1/\u0 x.2
 | .blk _=>True
 | .lp _ _ cs=>∀ x∈cs,u0 x.2
theorem L3 {l:List CV} (h:∀ c∈l,u0 c):a1L R l l:=⟨rfl,fun i c c' g g'=>by
 rw [g] at g';injection g' with g';subst g'
 exact .pure (h c (n_2 g))⟩
theorem a7S {l:List (CV × CV)} (h:∀ x∈l,u0 x.1/\u0 x.2):c2P R l l:=⟨rfl,fun i c c' g g'=>by
 rw [g] at g';injection g' with g';subst g'
 exact ⟨.pure (h c (n_2 g)).1,.pure (h c (n_2 g)).2⟩⟩
theorem a26.ren (h:a26 ob):H8 R ob ob:=by
 cases ob with
 | dead=>exact .dead
 | boxT t0 cells=>exact .box (L3 h)
 | tipT t0 n=>exact .tip n
 | vec s V =>
  refine .vec rfl fun i r r' g g'=>?_;rw [g] at g';injection g' with g';subst g'
  exact L3 (h r (n_2 g))
 | map es=>exact .map (a7S h)
 | iter c l=>exact .iter (a7S h.1) (a7S h.2)
 | blk o=>exact .blk o
 | lp o n cs =>
  refine .lp rfl fun i x x' g g'=>?_;rw [g] at g';injection g' with g';subst g'
  exact .pure (h x (n_2 g))
theorem a26.old (h:a26 ob):J0 n ob:=by
 cases ob with
 | dead=>trivial
 | boxT t0 cells=>exact fun c hc=>(h c hc).old
 | tipT t0 n=>trivial
 | blk o=>trivial
 | lp o n cs=>exact fun x hx=>(h x hx).old
 | vec s V=>exact fun r hr c hc=>(h r hr c hc).old
 | map es=>exact fun x hx=>⟨(h x hx).1.old,(h x hx).2.old⟩
 | iter c l=>exact ⟨fun x hx=>⟨(h.1 x hx).1.old,(h.1 x hx).2.old⟩,fun x hx=>⟨(h.2 x hx).1.old,(h.2 x hx).2.old⟩⟩
def a2m:List Nat->List b9->List b9->List b9
 | [],_,σ=>σ
 | _::_,[],σ=>σ
 | k::ks,o::os,σ=>a2m ks os (σ.set k o)
theorem a5A:∀ (ks:List Nat) (os:List b9) (σ:List b9),(a2m ks os σ).length=σ.length
 | [],_,σ=>rfl
 | k::ks,[],σ=>rfl
 | k::ks,o::os,σ=>by rw [a2m,a5A ks os];simp
theorem a3q:∀ (ks:List Nat) (os:List b9) (σ:List b9) (k:Nat),k∉ks->(a2m ks os σ)[k]? = σ[k]?
 | [],_,σ,k,_=>rfl
 | _::ks,[],σ,k,_=>rfl
 | k'::ks,o::os,σ,k,h=>by
  rw [a2m,a3q ks os _ k fun hm=>h (by simp [hm]),a2i fun e=>h a2u]
theorem b0r:∀ (ks:List Nat) (os:List b9) (σ:List b9) (i k:Nat),(∀ (i j k:Nat),ks[i]? = some k->ks[j]? = some k->i=j)->ks.length=os.length->ks[i]? = some k->k < σ.length->(a2m ks os σ)[k]? = os[i]?
 | [],_,σ,i,k,_,_,h,_=>by simp at h
 | _::ks,[],σ,i,k,_,h,_,_=>by simp at h
 | k'::ks,o::os,σ,i,k,cf,hl,hi,hk=>by
  rw [a2m];have hnd':∀ (i j k:Nat),ks[i]? = some k->ks[j]? = some k->i=j:=fun i j k h1 h2=>by
   have:=cf (i+1) (j+1) k (sp_ h1) (sp_ h2);omega
  rcases i with _ | i
  ·simp at hi;subst hi;rw [a3q ks os _ k' fun hm=>by
    obtain ⟨j,hj⟩:=L7.1 hm;have:=cf 0 (j+1) k' rfl (sp_ hj);omega]
   simp [hk]
  ·rw [b0r ks os _ i k hnd' (sp_ hl) (sp_ hi) (sp_ hk)];simp
theorem a0L {res':α->Q9} {S N:α->List b9} {P:α->Prop} (am:List Nat) (hC:C.plain) (aj:am.length=obs.length) (cf:∀ (i j k:Nat),am[i]? = some k->am[j]? = some k->i=j)
 (cP:∀ (i k:Nat),am[i]? = some k->k < σ.length/\σ[k]? = obs[i]?) (hpo:∀ ob∈obs,a26 ob) (ap:a1L (fun k i=>am[i]? = some k) args' args)
 (h:b8 C f args obs fun r τ=>∃ a,r=res a/\τ=S a++N a/\P a) (hS:∀ a,P a->(S a).length=obs.length/\∀ ob∈S a++N a,a26 ob) (dS:∀ a,P a->a57 (Z7 am σ.length) (res a) (res' a)) :
 b8 C f args' σ fun r τ=>∃ a,r=res' a/\τ=a2m am (S a) σ++N a/\P a:=by
 refine J4 am hC aj cf (fun i k ob hi ho=>?_) ap h fun r τ hk=>?_
 ·obtain ⟨_,h2⟩:=cP i k hi;exact ⟨ob,by rw [h2,ho],(hpo ob (n_2 ho)).ren⟩
 ·obtain ⟨a,rfl,rfl,hp⟩:=hk;obtain ⟨hl,hn⟩:=hS a hp;have dW:=a5A am (S a) σ;refine ⟨by simp [hl],res' a,a2m am (S a) σ++N a,dS a hp,by simp [dW,hl],fun k hk bx=>?_,fun i k x ha hx=>?_,a,rfl,rfl,hp⟩
  ·rw [V3 (by rw [dW];exact hk),a3q am (S a) σ k bx]
  ·refine ⟨x,?_,(hn x (n_2 hx)).ren⟩
   rcases ha with ha | ⟨ha,rfl⟩
   ·have hk:=(cP i k ha).1;have bh:i < (S a).length:=by rw [hl,<- aj];exact (n_3.1 ha).1
    rw [V3 bh] at hx;rw [V3 (by rw [dW];exact hk),b0r am (S a) σ i k cf (by rw [aj,hl]) ha hk,hx]
   ·rw [a0y om_] at hx;rw [a0y (by rw [dW];omega),dW,<- hx]
    congr 1
    omega
theorem a1L.nil:a1L R [] []:=⟨rfl,fun i c c' h=>by simp at h⟩
theorem a1L.cons {l l':List CV} (h:O9 R c c') (hl:a1L R l l'):a1L R (c::l) (c'::l'):=⟨n_9 (· + 1) hl.1,fun i d d' g g'=>by
 rcases i with _ | i
 ·simp at g g';subst g g';exact h
 ·exact hl.2 i d d' (sp_ g) (sp_ g')⟩
inductive a0T (n:Nat) (τ:List b9):Q9->Q9->Prop where
 | ret {c c':CV}:Cls n τ c c'->a0T n τ (.ret c) (.ret c')
 | pan {c c':CV}:Cls n τ c c'->a0T n τ (.pan c) (.pan c')
theorem W9 {S:α->List b9} {P:α->Prop} (hC:C.plain)
 (h:b8 C f args obs fun r τ=>∃ a,a0T (S a).length τ r (res a)/\a8Q (S a).length τ τ (S a)/\obs.length<=(S a).length/\P a):b8 C f args obs fun r τ=>∃ a,r=res a/\τ=S a/\P a:=fun M w vs hr hn hx=>(h M w vs hr hn hx).mono fun e w' he=>by
 cases e with
 | returned v =>
  obtain ⟨c',τ,M',h1,h2,h3,a,h4,h5,h6,h7⟩:=he;obtain ⟨g1,g2,g3⟩:=h2.cutCls hC h5;generalize hra:res a=ra at h4;cases h4 with
  | ret h4=>exact ⟨_,S a,_,g3 M w h1 (by rw [hr.len];exact h6),g1,RV.close h2 g2 (fun k p s V hk hp hs=>.inr ⟨k,p,_,hk,hp,hs,rfl,rfl⟩) h4 h3,a,hra.symm,rfl,h7⟩
 | panicked ch =>
  obtain ⟨c',v,τ,M',h0,h1,h2,h3,a,h4,h5,h6,h7⟩:=he;obtain ⟨g1,g2,g3⟩:=h2.cutCls hC h5;generalize hra:res a=ra at h4;cases h4 with
  | pan h4=>exact ⟨_,v,S a,_,h0,g3 M w h1 (by rw [hr.len];exact h6),g1,RV.close h2 g2 (fun k p s V hk hp hs=>.inr ⟨k,p,_,hk,hp,hs,rfl,rfl⟩) h4 h3,a,hra.symm,rfl,h7⟩
 | outgrown=>exact he
theorem b0O (hC:C.plain) (hob:a26 ob) (hc:u0 c) (hq:σ[q]? = some ob) (ap:a1L (fun k i=>[q][i]? = some k) args' args)
 (h:b8 C f args [ob] fun r τ=>∃ _:Unit,a0T [ob].length τ r (.ret c)/\a8Q [ob].length τ τ [ob]/\[ob].length<=[ob].length/\True):b8 C f args' σ fun r τ=>r = .ret c/\τ=σ:=by
 have hk:q < σ.length:=(n_3.1 hq).1;have h1:=W9 (res:=fun _=>.ret c) (S:=fun _=>[ob]) (P:=fun _=>True) hC h;have h2:=a0L (σ:=σ) (args':=args') (res':=fun _:Unit=>.ret c) (N:=fun _=>[]) [q] hC rfl (fun i j k h1 h2=>by
  have:=(n_3.1 h1).1;have:=(n_3.1 h2).1;simp at *;omega) (fun i k hi=>by
  rcases i with _ | i
  ·simp at hi;subst hi;exact ⟨hk,by rw [hq];rfl⟩
  ·simp at hi) (fun o ho=>by simp at ho;subst ho;exact hob) ap (h1.mono fun r τ ⟨a,e1,e2,e3⟩=>⟨a,e1,by rw [e2,a1d],e3⟩) (fun _ _=>⟨rfl,fun o ho=>by simp at ho;subst ho;exact hob⟩) (fun _ _=>.ret (.pure hc))
 refine h2.mono fun r τ ⟨_,e1,e2,_⟩=>⟨e1,?_⟩;rw [e2,a1d];show σ.set q ob=σ;apply b8A;intro i;rw [b1k]
 split
 ·rename_i e;subst e;first|(rw [n_1 hk,hq])|(rw [hq])
 ·rfl
theorem a1M {P : Program} {f : FuncId} {fn : Func} {e : Array Value → Sem Value} {args : Array Value} {w : World} {v : Value} (hf : P.funcs[f]? = some fn) (dj : (fn.name == "runtime.NumGoroutine") = false) (hb : fn.body.isNone = true) (hn : Extern.findNext fn = none) (he : Extern.find fn = some e) (hr : (e args).run P w = .ok v w) :
 (callFunc f args).run P w = .ok (.value v) w:=by
 simp only [callFunc,Sem.run_bind,run_program,Result.andThen_ok,hf,dj,hb,hn,he];simp [hr]
section
theorem c4b {f : FuncId} {fn : Func} {e : Array Value → Sem Value} {ts : Array TypeId} {x y : Operand} {a b v : Value} (ho : o.op = .call { callee := .value (.func f), args := #[x, y], argTypes := ts }) (hf : C.P.funcs[f]? = some fn) (dj : (fn.name == "runtime.NumGoroutine") = false) (hb : fn.body.isNone = true) (hn : Extern.findNext fn = none) (he : Extern.find fn = some e)
 (hx:E.valid x) (hy:E.valid y) (ex:E.val C x = .val a) (ey:E.val C y = .val b) (hr:∀ w,(e #[a,b]).run C.P w = .ok v w):l9 C σ E o (.val v) :=
 i7 fun M w ρ _ hh=>by
  have h1:=hh x H9 hx;have h2:=hh y H9 hy;have cy:=r6 (hh (.func f) H9 tt);rw [ex] at h1;rw [ey] at h2;refine ⟨v,?_,.val _⟩;have:=a1M (args:=#[a,b]) (w:=w) hf dj hb hn he (hr w);simp [execOp,ho,resolve,cy,r6 h1,r6 h2,Deferred.ofValue,invoke,this]
end
theorem c3r (s:Str) (c:UInt8) (w:World):(Extern.BytealgCount.count #[.string (str s),.int .u8 c.toNat]).run P w = .ok (.int .i64 (s.count c:Nat)) w:=by
 have:=Go.Lib.run_countString (P:=P) (str s) (c.toNat:Int) w;rw [this];simp [Go.Lib.countByte,str]
theorem c2h (s:Str) (c:UInt8) (w:World):(Extern.BytealgIndexByte.indexByte #[.string (str s),.int .u8 c.toNat]).run P w = .ok (.int .i64 (Go.Lib.indexByte s c)) w:=by
 have:=Go.Lib.run_indexByteString (P:=P) (str s) (c.toNat:Int) w;rw [this];simp [str]
def c9O:Q9->Prop
 | .ret c=>u0 c
 | .pan c=>u0 c
theorem G4 {P:α->Prop} (hC:C.plain) (ap:∀ c∈args,u0 c)
 (h:b8 C f args [] fun r τ=>∃ a,a0T 0 τ r (res a)/\P a) (dS:∀ a,P a->c9O (res a)) (σ:List b9):b8 C f args σ fun r τ=>∃ a,r=res a/\τ=σ/\P a:=by
 have h1:b8 C f args [] fun r τ=>∃ a,r=res a/\τ=(fun _=>[]) a/\P a:=W9 (res:=res) (S:=fun _=>[]) (P:=P) hC (h.mono fun r τ ⟨a,h2,h3⟩=>⟨a,h2,by cases τ<;>trivial,n_6 _,h3⟩);have h2:=a0L (σ:=σ) (args':=args) (res':=res) (S:=fun _=>[]) (N:=fun _=>[]) (P:=P) [] hC rfl (fun i j k h1=>by simp at h1) (fun i k h1=>by simp at h1) (fun o ho=>by simp at ho) (L3 ap)
  (h1.mono fun r τ ⟨a,e1,e2,e3⟩=>⟨a,e1,by rw [e2];rfl,e3⟩) (fun _ _=>⟨rfl,fun o ho=>by simp at ho⟩) (fun a hp=>by
   have:=dS a hp;cases hr:res a with
   | ret c=>rw [hr] at this;exact .ret (.pure this)
   | pan c=>rw [hr] at this;exact .pan (.pure this))
 exact h2.mono fun r τ ⟨a,e1,e2,e3⟩=>⟨a,e1,by rw [e2];simp [a2m],e3⟩
theorem U2 (h:b8 C f args (σ++[.dead]) K):b8 C f args σ K:=fun M w vs hr hn hx=>by
 obtain ⟨h1,h2⟩:=hr.addDead ⟨0,0,0⟩;refine (h _ w vs h1 hn fun i c hi=>(hx i c hi).mono h2).mono fun e w' he=>?_;cases e with
 | returned v =>
  obtain ⟨c,τ,M',g1,g2,g3,g4⟩:=he;exact ⟨c,τ,M',h2.trans g1,g2,g3,g4⟩
 | panicked ch =>
  obtain ⟨c,v,τ,M',g0,g1,g2,g3,g4⟩:=he;exact ⟨c,v,τ,M',g0,h2.trans g1,g2,g3,g4⟩
 | outgrown=>exact he
theorem b3u {c:Code} (h:CWp C n c Q E (σ++[.dead])):CWp C n c Q E σ:=fun M w a hr hf=>by
 obtain ⟨h1,h2⟩:=hr.addDead ⟨0,0,0⟩;exact wp_mono (h _ w a h1 (hf.mono h2)) fun _ _ _=>Q4.later h2
inductive c6B (L:Nat) (am:List Nat):Q9->Q9->Prop where
 | ret {c c':CV}:E9 L am c c'->c6B L am (.ret c) (.ret c')
 | pan {c c':CV}:E9 L am c c'->c6B L am (.pan c) (.pan c')
def F8 (L:Nat) (τ:List b9) (r r':Q9) (S:List b9):Prop:=∃ am,a5B L am=true/\a0f am=true/\c6B L am r r'/\b6g L am τ am S
theorem L6 (hC:C.plain) (h:b8 C f args obs fun r τ=>∃ r' S,F8 obs.length τ r r' S/\K r' S):b8 C f args obs K:=fun M w vs hr hn hx=>by
 refine (h M w vs hr hn hx).mono fun e w' he=>?_;cases e with
 | returned v =>
  obtain ⟨c,τ,M',g1,g2,g3,r',S,⟨am,k1,k2,k3,k4⟩,k5⟩:=he;have hL:obs.length<=M'.pl.length:=by
   obtain ⟨l,hl⟩:=g1.pl;rw [hl,<- hr.len];simp
  cases k3 with
  | ret k3=>exact ⟨_,S,_,g1.ren k1 hr.len,g2.ren hC k1 k2 hL k4,RV.ren (a2F k1) hL g3 k3,k5⟩
 | panicked ch =>
  obtain ⟨c,v,τ,M',g0,g1,g2,g3,r',S,⟨am,k1,k2,k3,k4⟩,k5⟩:=he;have hL:obs.length<=M'.pl.length:=by
   obtain ⟨l,hl⟩:=g1.pl;rw [hl,<- hr.len];simp
  cases k3 with
  | pan k3=>exact ⟨_,v,S,_,g0,g1.ren k1 hr.len,g2.ren hC k1 k2 hL k4,RV.ren (a2F k1) hL g3 k3,k5⟩
 | outgrown=>exact he
section
theorem o6 {c:α->CV} {S:α->List b9} {P:α->Prop} {c':β->CV} {S':β->List b9} {P':β->Prop} (ho:o.op = .call { callee:=.value (.func f),args:=xs,argTypes:=ts}) (aA:∀ args w,(callFunc f args).run C.P w = .ok (.enter f args) w)
 (hv:E.valids xs.toList) (h:b8 C f cargs σ fun r Y=>(∃ a,r = .ret (c a)/\Y=S a/\P a)\/∃ b,r = .pan (c' b)/\Y=S' b/\P' b) (ea:(E.vals C xs.toList).map CV.fgt=cargs) (hp:∀ b,P' b->K (.pan (c' b)) (S' b)) (hk:∀ a,P a->K (.ret (c a)) (S a)):H4 C σ E o K :=
 b3Q ho aA (Env.valids_mem hv) (Env.vals_map _) ((a3a (ea ▸ h)).mono fun r Y hh=>by
  rcases hh with ⟨a,rfl,rfl,hq⟩ | ⟨b,rfl,rfl,hq⟩
  ·exact hk a hq
  ·exact hp b hq)
theorem O2 {c':β->CV} {S':β->List b9} {P':β->Prop} (ho:o.op = .call { callee:=.value (.func f),args:=xs,argTypes:=ts}) (aA:∀ args w,(callFunc f args).run C.P w = .ok (.enter f args) w)
 (hv:E.valids xs.toList) (h:b8 C f cargs σ fun r Y=>∃ b,r = .pan (c' b)/\Y=S' b/\P' b) (ea:(E.vals C xs.toList).map CV.fgt=cargs) (hp:∀ b,P' b->K (.pan (c' b)) (S' b)):H4 C σ E o K :=
 b3Q ho aA (Env.valids_mem hv) (Env.vals_map _) ((a3a (ea ▸ h)).mono fun r Y hh=>by
  obtain ⟨b,rfl,rfl,hq⟩:=hh;exact hp b hq)
def a9d:TypeDesc->Bool
 | .interface _=>true
 | _=>false
theorem b8L {u:TypeDesc} (h:∀ w,(underlying t).run P w = .ok u w) (hu:a9d u=false) (v:Value) (w:World):(Instr.makeInterface t v).run P w = .ok (.iface t v) w:=by
 simp [Instr.makeInterface,go_sem];rw [h w];cases u<;>simp [a9d] at hu ⊢
theorem c22 {xs:List Value} (ho:o.op = .makeInterface t x) (hx:E.valid x) (ex:E.val C x=plain xs) (hm:∀ v w,(Instr.makeInterface t v).run C.P w = .ok (.iface t v) w):l9 C σ E o (.val (.iface t (.agg xs.toArray))) :=
 i7 fun M w ρ _ h=>by
  have h1:=h x w9 hx;rw [ex] at h1;have h2:=a2q h1;refine ⟨_,?_,.val _⟩;simp only [execOp,ho];rw [<- h2];simp [hm]
end
section
theorem K0 {l:List Oper} (Y:List b9) (h:σ=Y) (k:H7 C n aa Q l E Y):H7 C n aa Q l E σ:=h ▸ k
theorem K8 {c:Code} (Y:List b9) (h:σ=Y) (k:CWp C n c Q E Y):CWp C n c Q E σ:=h ▸ k
end
def addDs (ds:List Deferred) (a:Act):Act:={ a with defers:=a.defers++ds}
theorem R9 {ds:List Deferred} {a:Act} {d:Option Nat}:(addDs ds a).put d v=addDs ds (a.put d v):=by
 cases d<;>rfl
theorem a8m {ds:List Deferred} {a:Act} {d:Deferred} {t:Option Nat}:({ addDs ds a with defers:=d::(addDs ds a).defers}:Act).put t undef=addDs ds (({ a with defers:=d::a.defers}:Act).put t undef):=by
 cases t<;>rfl
theorem c2q {Q Q':Exit->Act->World->Prop} {ds:List Deferred} (hq:∀ e a w,Q e a w->Q' e (addDs ds a) w):∀ (l:List Oper) (a:Act) (w:World),wpList P aa Q l a w->wpList P aa Q' l (addDs ds a) w:=by
 have bD:LetsOut Q->LetsOut Q':=fun ⟨a0,w0,h⟩=>⟨_,w0,hq _ a0 w0 h⟩;intro l
 induction l with
 | nil=>exact fun a w h=>hq _ _ _ h
 | cons o l ih =>
  intro a w h;unfold wpList at h ⊢;change if Region.wanted o (yielded aa a.tmps)=true then _ else _
  split
  ·rename_i hw;rw [n_1 hw] at h;refine h.imp (fun h=>?_) (fun ⟨h1,h2⟩=>⟨h1,bD h2⟩);unfold Oper.wp at h ⊢;change o.upon P (addDs ds a) _ _ ((execOp a.eval o).run P w);generalize (execOp a.eval o).run P w=r at h;cases r with
   | ok x w3 =>
    cases x<;>simp only [Oper.upon] at h ⊢
    case value v=>rw [R9];exact ih _ _ h
    case skip=>rw [R9];exact ih _ _ h
    case defer d=>rw [a8m];exact ih _ _ h
    case enter f args =>
     refine h.mono fun e w4 he=>?_;cases e with
     | returned v=>show wpList P aa Q' l ((addDs ds a).put o.dst v) w4;rw [R9];exact ih _ _ he
     | panicked ch=>exact hq _ _ _ he
     | outgrown=>exact bD he
    case row r args=>exact Rows.mono h fun _ _ he=>by rw [R9];exact ih _ _ he
   | halt x w3 =>
    cases x<;>simp only [Oper.upon] at h ⊢
    exact hq _ _ _ h
  ·rename_i hw;rw [n_0 hw] at h;rw [R9];exact ih _ _ h
def b6Y (ds:List Deferred) (C:Ctx) (n:Nat) (Q:A8->Env->List b9->Prop) (M:A5) (w:World) (e:Exit) (a':Act) (w':World):Prop:=∃ a0,a'=addDs ds a0/\Q4 C n Q M w e a0 w'
def a4e (ds:List Deferred) (C:Ctx) (n:Nat) (c:Code) (Q:A8->Env->List b9->Prop) (E:Env) (σ:List b9):Prop :=
 ∀ (M:A5) (w:World) (a:Act),Rel C M σ w->I8 M w n E a->c.wp C.P (b6Y ds C n Q M w) (addDs ds a) w
section
variable {ds:List Deferred}
theorem b6Y.later {M1:A5} {w1:World} (he:Ext M w M1 w1) {e:Exit} {a:Act} {w':World} (hl:b6Y ds C n Q M1 w1 e a w'):b6Y ds C n Q M w e a w':=by
 obtain ⟨a0,h0,h⟩:=hl;exact ⟨a0,h0,Q4.later he h⟩
theorem a3t (h:H7 C n aa Q aa.toList E σ):a4e ds C n (.region id aa false) Q E σ :=
 fun M w a hr hf=>wp_region_list (c2q (fun _ a0 _ h=>⟨a0,rfl,h⟩) _ _ _ (h M w a hr hf))
theorem a86 (h:Q .ret E σ):a4e ds C n .ret Q E σ:=fun M w a hr hf=>wp_ret ⟨a,rfl,E,σ,M,Ext.refl M w,hr,hf,h⟩
theorem c4q (h:Q .normal E σ):a4e ds C n .skip Q E σ:=fun M w a hr hf=>wp_skip ⟨a,rfl,E,σ,M,Ext.refl M w,hr,hf,h⟩
theorem a4X {x y:Code} (h:a4e ds C n x (A8.next (a4e ds C n y Q) Q) E σ):a4e ds C n (.seq x y) Q E σ:=fun M w a hr hf=>by
 refine wp_seq (wp_mono (h M w a hr hf) fun e a' w' hl=>?_);obtain ⟨a0,rfl,E',Y,M',h1,h2,h3,h4⟩:=hl;cases e with
 | normal=>exact wp_mono (h4 M' w' a0 h2 h3) fun _ _ _=>b6Y.later h1
 | _=>exact ⟨a0,rfl,E',Y,M',h1,h2,h3,h4⟩
theorem b49 {c:Operand} {x y:Code} {b:Bool} (hv:E.valid c) (hc:E.val C c = .val (.bool b)) (ht:b=true->a4e ds C n x Q E σ) (gN:b=false->a4e ds C n y Q E σ):a4e ds C n (.cond c x y) Q E σ:=fun M w a hr hf=>by
 have h1:RV M w (E.val C c) (a.eval c):=hf.eval hr hv;rw [hc] at h1;have h2:a.eval c = .bool b:=by generalize a.eval c=u at h1;cases h1;rfl
 exact wp_cond_split (a:=addDs ds a) h2 (fun h=>ht h M w a hr hf) (fun h=>gN h M w a hr hf)
end
section
theorem a6q {ax:Array Operand} (ho:o.op = .makeFunc (.func f) #[] ax) (hv:E.valids ax.toList):l9 C σ E o (.clo f (E.vals C ax.toList)) :=
 i7 fun M w ρ _ h=>by
  refine ⟨.func (.func f) #[] (ax.map ρ),by simp [execOp,ho,Instr.makeFunc],.clo (by rw [<- Env.vals_map];simp) fun i c hi=>?_⟩;rw [<- Env.vals_map,Q0,N0] at hi;obtain ⟨x,hx,rfl⟩:=hi;have aB:ax[i]? = some x:=sp_ hx;have hm:x∈ax:=b32 aB;have:(ax.map ρ).getD i undef=ρ x:=by
   rw [a0k,b8S,aB];rfl
  rw [this];exact h x (by simp [ho,Op.operands,hm]) (Env.valids_mem hv x (sp_ hm))
theorem b27 {f:FuncId} {cx:Operand} {xs:Array Operand} {ts:Array TypeId} {cargs ax:List CV} {K:Q9->List b9->Prop} (ho:o.op = .call { callee:=.value cx,args:=xs,argTypes:=ts}) (hc:E.valid cx) (ec:E.val C cx = .clo f ax) (aA:∀ args w,(callFunc f args).run C.P w = .ok (.enter f args) w)
 (hv:∀ x∈xs.toList,E.valid x) (ea:xs.toList.map (E.val C)=cargs) (h:b8 C f (cargs++ax) σ K):H4 C σ E o K:=fun M w ρ hr hh=>by
 have hf:=hh cx H9 hc;rw [ec] at hf;generalize hcx:ρ cx=fv at hf;cases hf with
 | @clo _ _ vs aF ij =>
  have aw:(execOp ρ o).run C.P w = .ok (.enter f (xs.map ρ++vs)) w:=by
   simp [execOp,ho,resolve,hcx,Deferred.ofValue,invoke,aA]
  rw [aw];refine (h M w (xs.map ρ++vs) hr (by simp [<- ea,aF]) fun i c hi=>?_).mono fun e w' he=>by cases e<;>exact he
  subst ea;rw [a0k,b8M];rw [a5Y] at hi;simp only [a0W,a8J,Array.size_map] at hi ⊢
  split<;>rename_i ae
  ·rw [n_1 ae] at hi;simp only [Q0,N0] at hi;obtain ⟨x,hx,rfl⟩:=hi;have aB:xs[i]? = some x:=sp_ hx;have hm:x∈xs:=b32 aB;rw [b8S,aB];exact hh x (by simp [ho,Op.operands,Call.operands,hm]) (hv x (sp_ hm))
  ·rw [n_0 ae] at hi;have:=ij _ _ hi;rwa [a0k] at this
theorem b2x {cx:Operand} {ax:List CV} (ho:o.op = .call { callee:=.value cx,args:=xs,argTypes:=ts}) (hc:E.valid cx) (ec:E.val C cx = .clo f ax) (aA:∀ args w,(callFunc f args).run C.P w = .ok (.enter f args) w)
 (hv:E.valids xs.toList) (h:b8 C f (cargs++ax) σ fun r Y=>r = .ret c/\Y=σ) (ea:E.vals C xs.toList=cargs):l9 C σ E o c :=
 b27 ho hc ec aA (Env.valids_mem hv) (Env.vals_map _) (ea ▸ h)
end
def c3i (C:Ctx) (M:A5) (w:World) (K:Q9->List b9->Prop):Ending->World->Prop
 | .returned v,w'=>a03 C M w K v w'
 | .panicked ch,w'=>R8 C M w K ch w'
 | .outgrown,_=>False
theorem c3i.later {M1:A5} {w1:World} (hx:Ext M w M1 w1) {e:Ending} {w':World} (h:c3i C M1 w1 K e w'):c3i C M w K e w':=by
 cases e with
 | returned v =>
  obtain ⟨c,Y,M',h1,h2⟩:=h;exact ⟨c,Y,M',hx.trans h1,h2⟩
 | panicked ch =>
  obtain ⟨c,v,Y,M',h0,h1,h2⟩:=h;exact ⟨c,v,Y,M',h0,hx.trans h1,h2⟩
 | outgrown=>exact h
theorem a4G {fn:Func} {tmps:Array Value} {R R':Ending->World->Prop} (h:∀ e w,R e w->R' e w):∀ (ds:List Deferred) (u:FrameMode) (w:World),Leaves P fn tmps R ds u w->Leaves P fn tmps R' ds u w:=by
 intro ds
 induction ds with
 | nil =>
  intro u w hl;cases u with
  | run=>exact hl
  | returning =>
   obtain ⟨v,h1,h2⟩:=hl;exact ⟨v,h1,h _ _ h2⟩
  | panicking ch=>exact h _ _ hl
 | cons d ds ih =>
  intro u w hl;obtain ⟨h1,fv,cap,f,args,h2,h3,h4⟩:=hl;refine ⟨h1,fv,cap,f,args,h2,h3,h4.mono fun e u' w' he=>?_⟩;cases e with
  | returned v=>exact ih _ _ he
  | panicked ch=>exact ih _ _ he
  | outgrown=>exact h _ _ he
theorem a9K {fn:Func} {R R':Ending->World->Prop} (h:∀ e w,R e w->R' e w) {e:Exit} {a:Act} (hb:bodyPostD P fn R e a w):bodyPostD P fn R' e a w:=by
 cases e with
 | normal=>exact a4G h _ _ _ hb
 | ret=>exact a4G h _ _ _ hb
 | panic ch=>exact a4G h _ _ _ hb
 | outgrown=>exact h _ _ hb
 | exit id=>exact hb
 | goto l=>exact hb
def b6T (C:Ctx) (fn:Func) (K:Q9->List b9->Prop) (c:Code) (E:Env) (σ:List b9):Prop :=
 ∀ (M:A5) (w:World) (a:Act),Rel C M σ w->I8 M w fn.ntmps E a->c.wp C.P (bodyPostD C.P fn (c3i C M w K)) a w
theorem a7W {vs:Array Value} (hn:args.length<=n) (aF:vs.size=args.length) (hx:∀ (i:Nat) (c:CV),args[i]? = some c->RV M w c (vs.getD i undef)):I8 M w n (Env.args args) { tmps:=vs++Array.replicate (n - vs.size) undef,defers:=[]}:=by
 refine ⟨rfl,by simp;omega,fun t _=>?_,fun t ht=>absurd trivial ht⟩;simp only [Env.args,Env.f]
 rcases a3c t args.length with ht | ht
 ·have:=hx t (args[t]) (by simp [ht]);have h1:(vs++Array.replicate (n - vs.size) undef).getD t undef=vs.getD t undef:=by
   simp [b8M,aF,ht]
  rw [h1];simpa [ht] using this
 ·have h1:(vs++Array.replicate (n - vs.size) undef).getD t undef=undef:=by
   simp only [a0k,b8M];rw [n_0 om_];rw [Array.getElem?_replicate]
   split<;>rfl
  rw [h1];simp only [b7p ht,Option.getD_none];exact .val _
theorem b83 {fn:Func} {c:Code} (hf:C.P.funcs[f]? = some fn) (hb:fn.body=some c) (hn:Nat.ble args.length fn.ntmps=true) (h:b6T C fn K c (Env.args args) σ):b8 C f args σ K:=fun M w vs hr aF hx =>
 (calls_of_wp_defers hf hb (h M w _ hr (a7W (nb hn) aF hx))).mono fun e w' he=>by cases e<;>exact he
theorem b8I {fn:Func} {x y:Code} (h:CWp C fn.ntmps x (A8.next (b6T C fn K y) (Fin C fn K)) E σ):b6T C fn K (.seq x y) E σ:=fun M w a hr hf=>by
 refine wp_seq (wp_mono (h M w a hr hf) fun e a' w' hl=>?_);obtain ⟨E',Y,M',h1,h2,h3,h4⟩:=hl;cases e with
 | normal=>exact wp_mono (h4 M' w' a' h2 h3) fun e a0 w0 hb=>a9K (fun e w he=>c3i.later h1 he) hb
 | ret =>
  obtain ⟨c,hc,hk⟩:=h4;obtain ⟨v,hv,bo⟩:=hc M' w' a' h2 h3.rv;show Leaves C.P fn a'.tmps _ a'.defers .returning w';rw [h3.defers];exact ⟨v,hv,c,Y,M',h1,h2,bo,hk⟩
 | panic ch =>
  obtain ⟨c,v,h0,hv,hk⟩:=h4;show Leaves C.P fn a'.tmps _ a'.defers (.panicking ch) w';rw [h3.defers];exact ⟨c,v,Y,M',h0,h1,h2,hv,hk⟩
 | exit id=>exact h4.elim
 | goto l=>exact h4.elim
 | outgrown=>exact h4.elim
def b04 (b:Bool) (v:Value):FrameMode:=if b then .panicking [{ v,recovered:=false}] else .returning
def Z2 (b:Bool) (v:Value):FrameMode:=if b then .panicking [{ v,recovered:=true}] else .returning
theorem b3T (b:Bool) (v:Value):settle (Z2 b v) = .returning:=by cases b<;>rfl
def c3h (C:Ctx) (g:FuncId) (ax:List CV) (σ:List b9) (b:Bool) (u:CV) (K:List b9->Prop):Prop :=
 ∀ (M:A5) (w:World) (vs:Array Value) (v:Value),Rel C M σ w->vs.size=ax.length->(∀ (i:Nat) (c:CV),ax[i]? = some c->RV M w c (vs.getD i undef))->RV M w u v ->
  CallsD C.P g vs (b04 b v) w fun e u' w'=>(∃ x,e = .returned x)/\u'=Z2 b v/\∃ Y M',Ext M w M' w'/\Rel C M' Y w'/\K Y
theorem c45 {C:Ctx} {fn:Func} {K:Q9->List b9->Prop} {id:Nat} {aa:Array Oper} {y:Code} {E:Env} {σ:List b9} {g:FuncId} {ax:Array Operand} {t:Nat} {o1 o2:Oper} {ats:Array TypeId} (hl:aa.toList=[o1,o2]) (g1:o1.guard=none) (g2:o2.guard=none) (d1:o1.dst=some t) (d2:o2.dst=none) (ht:t < fn.ntmps)
 (e1:o1.op = .makeFunc (.func g) #[] ax) (e2:o2.op = .defer { callee:=.value (.tmp t),args:=#[],argTypes:=ats}) (hg:∀ args w,(callFunc g args).run C.P w = .ok (.enter g args) w) (hv:E.valids ax.toList)
 (h:∀ ds,a4e ds C fn.ntmps y (fun e E' Y=>match e with
  | .normal | .ret=>c3h C g (E.vals C ax.toList) Y false (.val undef) fun bH=>∃ c,U4 C E' bH fn c/\K (.ret c) bH
  | .pan u=>c3h C g (E.vals C ax.toList) Y true u fun bH=>∃ c,U4 C E' bH fn c/\K (.ret c) bH
  | _=>False) (E.put (some t) (.clo g (E.vals C ax.toList)) True) σ):b6T C fn K (.seq (.region id aa false) y) E σ:=fun M w a hr hf=>by
 refine wp_seq (wp_region_list ?_);rw [hl];obtain ⟨v,dC,ci⟩:∃ v,(execOp a.eval o1).run C.P w = .ok (.value v) w/\RV M w (.clo g (E.vals C ax.toList)) v:=by
  refine ⟨.func (.func g) #[] (ax.map a.eval),by simp [execOp,e1,Instr.makeFunc],.clo (by rw [<- Env.vals_map];simp) fun i c hi=>?_⟩;rw [<- Env.vals_map,Q0,N0] at hi;obtain ⟨x,hx,rfl⟩:=hi;have aB:ax[i]? = some x:=sp_ hx;have hm:x∈ax:=b32 aB;have:(ax.map a.eval).getD i undef=a.eval x:=by
   rw [a0k,b8S,aB];rfl
  rw [this];exact hf.eval hr (Env.valids_mem hv x (sp_ hm))
 have dA:I8 M w fn.ntmps (E.put (some t) (.clo g (E.vals C ax.toList)) True) (a.put (some t) v):=hf.put (fun t' gj=>by injection gj with gj;omega) (fun _=>ci) fun hh=>absurd trivial hh;unfold wpList;rw [n_1 (by simp [Region.wanted,g1])];refine .inl ?_;unfold Oper.wp;rw [dC,Oper.upon_value,d1];unfold wpList;rw [n_1 (by simp [Region.wanted,g2])];refine .inl ?_;have gy:(a.put (some t) v).eval (.tmp t)=v:=by
  have aF:t < a.tmps.size:=by rw [hf.size];exact ht
  simp [Act.eval,Act.put,aF]
 cases ci with
 | @clo _ _ vs aF ij =>
 have aw:(execOp (a.put (some t) (.func (.func g) #[] vs)).eval o2).run C.P w = .ok (.defer { target:=.fn (.func g) vs,args:=#[]}) w:=by
  simp [execOp,e2,resolve,gy,Deferred.ofValue]
 unfold Oper.wp;rw [aw,Oper.upon_defer,d2];unfold wpList;have hact:({ a.put (some t) (.func (.func g) #[] vs) with defers:={ target:=.fn (.func g) vs,args:=#[]}::(a.put (some t) (.func (.func g) #[] vs)).defers}:Act).put none undef=addDs [{ target:=.fn (.func g) vs,args:=#[]}] (a.put (some t) (.func (.func g) #[] vs)):=by
  simp [addDs,Act.put,hf.defers]
 rw [hact];refine wp_mono (h _ M w _ hr dA) fun e a' w' hl=>?_;obtain ⟨a0,rfl,E',Y,M',h1,h2,h3,h4⟩:=hl;have hvs':∀ (i:Nat) (c:CV),(E.vals C ax.toList)[i]? = some c->RV M' w' c (vs.getD i undef):=fun i c hi=>(ij i c hi).mono h1;have cg:(addDs [{ target:=.fn (.func g) vs,args:=#[]}] a0).defers=[{ target:=.fn (.func g) vs,args:=#[]}]:=by simp [addDs,h3.defers]
 have gh:∀ (b:Bool) (u:CV) (pv:Value),RV M' w' u pv->(c3h C g (E.vals C ax.toList) Y b u fun bH=>∃ c,U4 C E' bH fn c/\K (.ret c) bH)->Leaves C.P fn a0.tmps (c3i C M w K) [{ target:=.fn (.func g) vs,args:=#[]}] (b04 b pv) w':=fun b u pv hu hd=>by
  refine leaves_cons (f:=g) (args:=vs) (by cases b<;>simp [b04]) (by simp [invoke,hg]) ((hd M' w' vs pv h2 aF hvs' hu).mono fun e u' w'' he=>?_);obtain ⟨⟨x,rfl⟩,rfl,bH,gF,k1,k2,c,hc,hk⟩:=he;show Leaves C.P fn a0.tmps _ [] (settle _) w'';rw [b3T];obtain ⟨rv,bo,hrv2⟩:=hc gF w'' a0 k2 fun t ht=>(h3.rv t ht).mono k1;exact ⟨rv,bo,c,bH,gF,h1.trans k1,k2,hrv2,hk⟩
 cases e with
 | normal =>
  show Leaves C.P fn _ _ (addDs _ a0).defers .returning w';rw [cg];exact gh false _ undef (.val _) h4
 | ret =>
  show Leaves C.P fn _ _ (addDs _ a0).defers .returning w';rw [cg];exact gh false _ undef (.val _) h4
 | panic ch =>
  obtain ⟨c,pv,rfl,hpv,h4⟩:=h4;show Leaves C.P fn _ _ (addDs _ a0).defers (.panicking _) w';rw [cg];exact gh true c pv hpv h4
 | exit id=>exact h4.elim
 | goto l=>exact h4.elim
 | outgrown=>exact h4.elim
theorem c9Z {g:FuncId} {fn:Func} {y:Code} {ax:List CV} {b:Bool} {u:CV} {K:List b9->Prop} {t1 t2:Nat} {o1 o2:Oper} {ats:Array TypeId} (hf:C.P.funcs[g]? = some fn) (hb:fn.body=some (.seq (.region id aa false) y)) (bF:fn.results = #[]) (hn:Nat.ble ax.length fn.ntmps=true)
 (hs:aa.size=2) (h0:aa[0]? = some o1) (h1:aa[1]? = some o2) (g1:o1.guard=none) (g2:o2.guard=none) (d1:o1.dst=some t1) (d2:o2.dst=some t2) (eI:t1 < fn.ntmps) (fP:t2 < fn.ntmps) (e1:o1.op = .call { callee:=.builtin .recover,args:=#[],argTypes:=ats}) (e2:o2.op = .assign (.tmp t1))
 (h:CWp C fn.ntmps y (fun e _ Y=>match e with | .normal | .ret=>K Y | _=>False) (((Env.args ax).put (some t1) (if b then u else .val .nilIface) True).put (some t2) (if b then u else .val .nilIface) True) σ):c3h C g ax σ b u K:=fun M w vs v hr aF ij hu=>by
 refine callsD_of_wpS hf hb fun gz cs hc₀=>?_;refine wpS_seq (wpS_region ?_);rw [hs];have hrec:recoverD (gz::cs)=if b then some (v,{ gz with mode:=Z2 b v}::cs) else none:=by
  unfold recoverD;simp only [hc₀];cases b<;>simp [b04,Z2]
 have f0:=a7W (n:=fn.ntmps) (nb hn) aF ij;generalize hact:({ tmps:=vs++Array.replicate (fn.ntmps - vs.size) undef,defers:=[]}:Act)=a0 at f0;have hrun1:(execOp a0.eval o1).run C.P w = .ok .recover w:=by simp [execOp,e1,resolve,invoke,builtin]
 have rest:∀ (x:Value) (aX:List Frame),aX={ gz with mode:=Z2 b v}::cs->RV M w (if b then u else .val .nilIface) x->wpOpsS C.P aa (Exit.thenS (y.wpS C.P (bodyPostS C.P fn gz cs fun e u' w'=>(∃ x,e = .returned x)/\u'=Z2 b v/\∃ Y M',Ext M w M' w'/\Rel C M' Y w'/\K Y)) (bodyPostS C.P fn gz cs fun e u' w'=>(∃ x,e = .returned x)/\u'=Z2 b v/\∃ Y M',Ext M w M' w'/\Rel C M' Y w'/\K Y)) [1] (a0.put (some t1) x) aX w:=by
  intro x aX hcs hx;have f1:I8 M w fn.ntmps ((Env.args ax).put (some t1) (if b then u else .val .nilIface) True) (a0.put (some t1) x):=f0.put (fun t' gj=>by injection gj with gj;omega) (fun _=>hx) fun hh=>absurd trivial hh;have gy:(a0.put (some t1) x).eval (.tmp t1)=x:=by
   have aF:t1 < a0.tmps.size:=by rw [f0.size];exact eI
   simp [Act.eval,Act.put,aF]
  have ik:(execOp (a0.put (some t1) x).eval o2).run C.P w = .ok (.value x) w:=by simp [execOp,e2,gy]
  have f2:I8 M w fn.ntmps (((Env.args ax).put (some t1) (if b then u else .val .nilIface) True).put (some t2) (if b then u else .val .nilIface) True) ((a0.put (some t1) x).put (some t2) x):=f1.put (fun t' gj=>by injection gj with gj;omega) (fun _=>hx) fun hh=>absurd trivial hh;simp only [wpOpsS,h1,Region.wanted,g2,if_true,ik,Oper.upon_value,d2,Exit.thenS];refine wpS_of_wp (wp_mono (h M w _ hr f2) fun e a' w' hl=>?_);obtain ⟨E',Y,M',k1,k2,k3,k4⟩:=hl;subst hcs;cases e with
  | normal=>exact ⟨k3.defers,_,rfl,_,results_none bF _ _ _,⟨_,rfl⟩,rfl,Y,M',k1,k2,k4⟩
  | ret=>exact ⟨k3.defers,_,rfl,_,results_none bF _ _ _,⟨_,rfl⟩,rfl,Y,M',k1,k2,k4⟩
  | panic ch =>
   obtain ⟨c,pv,_,_,k4⟩:=k4;exact k4.elim
  | exit id=>exact k4.elim
  | goto l=>exact k4.elim
  | outgrown=>exact k4.elim
 show wpOpsS C.P aa _ [0,1] _ _ _;unfold wpOpsS;simp only [h0,Region.wanted,g1,if_true,hrun1,hrec,d1];cases b with
 | true=>exact rest v _ rfl hu
 | false =>
  refine rest .nilIface _ ?_ (.val _);simp [Z2,b04] at hc₀ ⊢;cases gz
  simp_all
section
def a9e:Value->Bool
 | .iface _ _=>true
 | _=>false
theorem b97 {ms:Array (String × TypeId)} (ho:o.op = .binOp .neq t x (.const .nilIface) t') (hx:E.valid x) (ex:E.val C x = .val v) (hu:∀ w,(underlying t).run C.P w = .ok (.interface ms) w) (hv:v = .nilIface\/∃ a b,v = .iface a b):l9 C σ E o (.val (.bool (a9e v))) :=
 i7 fun M w ρ _ h=>by
  have h1:=h x w9 hx;rw [ex] at h1;have e1:=r6 h1;have e2:=h (.const .nilIface) w9 rfl;have e3:=r6 e2;refine ⟨.bool (a9e v),?_,.val _⟩
  rcases hv with rfl | ⟨a,b,rfl⟩
  ·have he:(Op.equal t .nilIface .nilIface).run C.P w = .ok true w:=by
    unfold Op.equal;rw [show Op.maxDepth=(Op.maxDepth - 1)+1 from rfl,Op.equalIn];simp [hu]
   simp [execOp,ho,e1,e3,eqGuard,binOp,he,a9e]
  ·have he:(Op.equal t (.iface a b) .nilIface).run C.P w = .ok false w:=by
    unfold Op.equal;rw [show Op.maxDepth=(Op.maxDepth - 1)+1 from rfl,Op.equalIn];simp [hu]
   simp [execOp,ho,e1,e3,eqGuard,binOp,he,a9e]
theorem c3G {s:TypeId} {xs:List Value} {u:TypeDesc} (ho:o.op = .typeAssert x s t true) (hx:E.valid x) (ex:E.val C x = .val (.iface t (.agg xs.toArray))) (hu:∀ w,(underlying t).run C.P w = .ok u w) (hi:a9d u=false) (h1x:(xs.all fun v=>(CV.val v).one)=true):l9 C σ E o (.tup [plain xs,.val (.bool true)]) :=
 i7 fun M w ρ _ h=>by
  have h1:=h x w9 hx;rw [ex] at h1;have e1:=r6 h1;refine ⟨.tuple #[.agg xs.toArray,.bool true],?_,.tup rfl fun i c hc=>?_⟩
  ·simp [execOp,ho,e1,Instr.typeAssert,hu];cases u<;>simp [a9d] at hi ⊢
  ·rcases i with _ | _ | i
   ·injection hc with hc;subst hc
    refine .agg si_ (fun c hc=>?_) fun i c hc=>?_
    ·obtain ⟨v,hm,rfl⟩:=I9.1 hc;exact a5p.1 h1x v hm
    ·rw [Q0,N0] at hc;obtain ⟨v,hv,rfl⟩:=hc;have:(xs.toArray).getD i undef=v:=by simp [a0k,hv]
     show RV M w (.val v) ((xs.toArray).getD i undef);rw [this];exact .val v
   ·injection hc with hc;subst hc;exact .val _
   ·cases hc
end
def b1b (σ:List b9):List Nat->List b9->List b9
 | k::am,x::xs=>(b1b σ am xs).set k x
 | _,_=>σ
theorem b0t (σ:List b9):∀ (am:List Nat) (xs:List b9),(b1b σ am xs).length=σ.length
 | [],_=>by cases ‹List b9›<;>rfl
 | _::_,[]=>rfl
 | k::am,x::xs=>by rw [b1b,List.length_set,b0t σ am xs]
theorem b5p {σ:List b9}:∀ {am:List Nat} {xs:List b9} {k:Nat},k∉am->(b1b σ am xs)[k]? = σ[k]?
 | [],xs,k,_=>by cases xs<;>rfl
 | j::am,[],k,_=>rfl
 | j::am,x::xs,k,h=>by
  rw [b1b,a2i (fun e=>h (by rw [<- e];simp))];exact b5p fun hm=>h (by simp [hm])
theorem c0b {σ:List b9}:∀ {am:List Nat} {xs:List b9} {i k:Nat} {x:b9},(∀ (i j k:Nat),am[i]? = some k->am[j]? = some k->i=j)->k < σ.length->am[i]? = some k->xs[i]? = some x->(b1b σ am xs)[k]? = some x
 | [],xs,i,k,x,_,_,h,_=>by simp at h
 | j::am,[],i,k,x,_,_,_,h=>by simp at h
 | j::am,y::xs,0,k,x,_,hk,h,hx=>by
  simp at h hx;subst h hx;rw [b1b];simp [b0t,hk]
 | j::am,y::xs,i+1,k,x,cf,hk,h,hx=>by
  have aC:j≠k:=fun e=>by
   subst e;have:=cf 0 (i+1) j rfl h;omega
  rw [b1b,a2i aC];exact c0b (fun a b c h1 h2=>by
   have:=cf (a+1) (b+1) c (sp_ h1) (sp_ h2);omega) hk (sp_ h) (sp_ hx)
theorem O9.mono (hR:∀ k k',R k k'->R' k k') (h:O9 R c c'):O9 R' c c':=(h.symm (R':=fun a b=>R' b a) fun _ _ h=>hR _ _ h).symm fun _ _ h=>h
theorem H8.mono (hR:∀ k k',R k k'->R' k k') {a:b9} (h:H8 R a b):H8 R' a b:=(h.symm (R':=fun a b=>R' b a) fun _ _ h=>hR _ _ h).symm fun _ _ h=>h
def b3L (am:List Nat):Prop:=∀ (i j k:Nat),am[i]? = some k->am[j]? = some k->i=j
theorem b4A (am:List Nat) (hC:C.plain) (aj:am.length=obs.length) (cf:b3L am)
 (cP:∀ (i k:Nat) (ob:b9),am[i]? = some k->obs[i]? = some ob->∃ aN,σ[k]? = some aN/\H8 (fun k i=>am[i]? = some k) aN ob) (ap:a1L (fun k i=>am[i]? = some k) args' args)
 {res res':α->Q9} {S S':α->List b9} {P:α->Prop} (h:b8 C f args obs fun r τ=>∃ a,r=res a/\τ=S a/\P a) (hS:∀ a,(S a).length=obs.length)
 (fF:∀ a (i k:Nat) (x:b9),am[i]? = some k->(S a)[i]? = some x->∃ x',(S' a)[i]? = some x'/\H8 (fun i k=>am[i]? = some k) x x') (dS:∀ a,a57 (fun i k=>am[i]? = some k) (res a) (res' a)) :
 b8 C f args' σ fun r τ=>∃ a,r=res' a/\τ=b1b σ am (S' a)/\P a:=by
 refine J4 am hC aj cf cP ap h fun r τ hk=>?_;obtain ⟨a,rfl,rfl,hp⟩:=hk;have up:∀ {c c':CV},O9 (fun i k=>am[i]? = some k) c c'->O9 (Z7 am σ.length) c c':=fun hh=>O9.mono (fun _ _ h=>.inl h) hh;refine ⟨by rw [hS];exact n_6 _,res' a,b1b σ am (S' a),?_,by rw [b0t,hS];omega,fun k _ bx=>b5p bx,fun i k x ha hx=>?_,a,rfl,rfl,hp⟩
 ·have:=dS a;generalize hra:res a=ra at this;generalize hrb:res' a=rb at this;cases this with
  | ret h=>exact .ret (up h)
  | pan h=>exact .pan (up h)
 ·rcases ha with ha | ⟨ha,_⟩
  ·obtain ⟨x',h1,h2⟩:=fF a i k x ha hx;have bx:k < σ.length:=by
    have hi:i < obs.length:=by rw [<- aj];exact (n_3.1 ha).1
    obtain ⟨aN,g1,_⟩:=cP i k obs[i] ha (by simp [hi]);exact (n_3.1 g1).1
   exact ⟨x',c0b cf bx ha h1,H8.mono (fun _ _ h=>.inl h) h2⟩
  ·have:=(n_3.1 hx).1;rw [hS,<- aj] at this;omega
theorem a5J (am:List Nat) (hC:C.plain) (aj:am.length=obs.length) (cf:b3L am) {obs':List b9}
 (cP:∀ (i k:Nat) (ob:b9),am[i]? = some k->obs[i]? = some ob->∃ aN,obs'[i]? = some aN/\σ[k]? = some aN/\H8 (fun i k=>am[i]? = some k) ob aN) (ap:a1L (fun k i=>am[i]? = some k) args' args)
 {c:α->CV} {P:α->Prop} (hc:∀ a,P a->u0 (c a)) (h:b8 C f args obs fun r τ=>∃ a,r = .ret (c a)/\τ=obs/\P a):b8 C f args' σ fun r τ=>∃ a,r = .ret (c a)/\τ=σ/\P a:=by
 refine J4 am hC aj cf (fun i k ob g1 g2=>?_) ap h fun r τ hk=>?_
 ·obtain ⟨aN,_,h2,h3⟩:=cP i k ob g1 g2;exact ⟨aN,h2,h3.symm fun _ _ h=>h⟩
 ·obtain ⟨a,rfl,rfl,hp⟩:=hk;refine ⟨n_6 _,.ret (c a),σ,.ret (.pure (hc a hp)),om_,fun _ _ _=>rfl,fun i k x ha hx=>?_,a,rfl,rfl,hp⟩
  rcases ha with ha | ⟨ha,_⟩
  ·obtain ⟨aN,_,h2,h3⟩:=cP i k x ha hx;exact ⟨aN,h2,H8.mono (fun _ _ h=>.inl h) h3⟩
  ·have:=(n_3.1 hx).1;rw [<- aj] at this;omega
theorem a3i (hC:C.plain) (ap:∀ a∈args,u0 a) {res':α->Nat->Q9} {S:α->List b9} {S':α->Nat->List b9} {P:α->Prop} (h:b8 C f args [] fun r τ=>∃ a,r=res a/\τ=S a/\P a)
 (aj:∀ a n,(S' a n).length=(S a).length) (fF:∀ a (n i:Nat) (x:b9),(S a)[i]? = some x->∃ x',(S' a n)[i]? = some x'/\H8 (fun i k=>k=n+i) x x') (dS:∀ a n,a57 (fun i k=>k=n+i) (res a) (res' a n)) (σ:List b9) :
 b8 C f args σ fun r τ=>∃ a,r=res' a σ.length/\τ=σ++S' a σ.length/\P a:=by
 refine J4 [] hC rfl (fun i j k h=>by simp at h) (fun i k ob h=>by simp at h) (by
  refine ⟨rfl,fun i c c' h h'=>?_⟩;rw [h] at h';injection h' with h';subst h'
  exact .pure (ap c (n_2 h))) h fun r τ hk=>?_
 obtain ⟨a,rfl,rfl,hp⟩:=hk;have up:∀ i k,k=σ.length+i->Z7 [] σ.length i k:=fun i k h=>.inr ⟨n_5 _,sp_ h⟩;refine ⟨n_5 _,res' a σ.length,σ++S' a σ.length,?_,by simp [aj],fun k hk _=>V3 hk,fun i k x ha hx=>?_,a,rfl,rfl,hp⟩
 ·have:=dS a σ.length;generalize hra:res a=ra at this;generalize hrb:res' a σ.length=rb at this;cases this with
  | ret h=>exact .ret (O9.mono up h)
  | pan h=>exact .pan (O9.mono up h)
 ·rcases ha with ha | ⟨_,ha⟩
  ·simp at ha
  ·obtain ⟨x',h1,h2⟩:=fF a σ.length i x hx;refine ⟨x',?_,H8.mono up h2⟩;rw [ha,a0y om_];simpa using h1
section
theorem b0d (hr:Rel C M σ w) (h:RV M w c v) (ho:c.one=true\/∃ cs,c = .agg cs) (hk:K (.ret (.ptr σ.length 0)) (σ++[.boxT (some t) c.cells])) :
 a03 C M w K (.pointer (some ⟨w.heap.size,0,none⟩)) (w.alloc (.cells v.cells t)):=by
 obtain ⟨h1,h2,h3⟩:=h.cells ho;have hx:=Ext.alloc hr ⟨w.heap.size,0,0⟩ (.cells v.cells t);refine ⟨.ptr σ.length 0,_,_,hx,hr.alloc ⟨w.heap.size,0,0⟩ _ (.boxT (some t) c.cells) rfl ⟨v.cells,t,A4 w _,h1,h2,fun i x hi=>(h3 i x hi).mono hx⟩,?_,hk⟩;exact .ptr (p:=⟨w.heap.size,0,0⟩) b0W
theorem d4I (ho:o.op = .box t x) (hx:E.valid x) (ex:E.val C x=c) (hc:c.one=true\/∃ cs,c = .agg cs) (hk:K (.ret (.ptr σ.length 0)) (σ++[.boxT (some t) c.cells])):H4 C σ E o K:=fun M w ρ hr h=>by
 have h1:=h x w9 hx;rw [ex] at h1;have:(execOp ρ o).run C.P w = .ok (.value (.pointer (some ⟨w.heap.size,0,none⟩))) (w.alloc (.cells (ρ x).cells t)):=by
  simp [execOp,ho,Instr.box,a3u]
 rw [this];exact b0d hr h1 hc hk
theorem b5b (ho:o.op = .alloc t) (hz:∀ w,(zeroValue t).run C.P w = .ok z w) (bY:M5 z=true) (dB:(I2 z).one=true\/∃ cs,I2 z = .agg cs) (hk:K (.ret (.ptr σ.length 0)) (σ++[.boxT (some t) (I2 z).cells])):H4 C σ E o K:=fun M w ρ hr h=>by
 have:(execOp ρ o).run C.P w = .ok (.value (.pointer (some ⟨w.heap.size,0,none⟩))) (w.alloc (.cells z.cells t)):=by
  simp [execOp,ho,Instr.alloc,hz,a3u]
 rw [this];exact b0d hr (a0c bY) dB hk
theorem b6e {te:TypeId} (ho:o.op = .binOp .eql t x (.const (.pointer none)) t') (hx:E.valid x) (ex:E.val C x = .ptr k off) (hu:∀ w,(underlying t).run C.P w = .ok (.pointer te) w):l9 C σ E o (.val (.bool false)) :=
 i7 fun M w ρ _ h=>by
  have h1:=h x w9 hx;rw [ex] at h1;have e2:=r6 (h (.const (.pointer none)) w9 rfl);generalize hv:ρ x=v at h1;cases h1 with
  | ptr hp =>
   rename_i p;have he:(Op.equal t (.pointer (some ⟨p.block,off,none⟩)) (.pointer none)).run C.P w = .ok false w:=by
    unfold Op.equal;rw [show Op.maxDepth=(Op.maxDepth - 1)+1 from rfl,Op.equalIn];simp [hu]
   exact ⟨.bool false,by simp [execOp,ho,hv,e2,eqGuard,binOp,he],.val _⟩
theorem c2z {te:TypeId} (ho:o.op = .binOp .eql t x (.const (.pointer none)) t') (hx:E.valid x) (ex:E.val C x = .val (.pointer none)) (hu:∀ w,(underlying t).run C.P w = .ok (.pointer te) w):l9 C σ E o (.val (.bool true)) :=
 i7 fun M w ρ _ h=>by
  have h1:=h x w9 hx;rw [ex] at h1;have e1:=r6 h1;have e2:=r6 (h (.const (.pointer none)) w9 rfl);have he:(Op.equal t (.pointer none) (.pointer none)).run C.P w = .ok true w:=by
   unfold Op.equal;rw [show Op.maxDepth=(Op.maxDepth - 1)+1 from rfl,Op.equalIn];simp [hu]
  exact ⟨.bool true,by simp [execOp,ho,e1,e2,eqGuard,binOp,he],.val _⟩
theorem b26 (ho:o.op = .binOp .neq t x y t') (hx:E.valid x) (hy:E.valid y) (ex:E.val C x = .ptr k off) (ey:E.val C y = .ptr k off) (te':TypeId) (hp:C.P.underlying t=some (.pointer te')) (hte:(C.P.info? te').isSome=true):l9 C σ E o (.val (.bool false)) :=
 i7 fun M w ρ _ h=>by
  obtain ⟨j,hte⟩:=b5F.1 hte;have h1:=h x w9 hx;have h2:=h y w9 hy;rw [ex] at h1;rw [ey] at h2;generalize hv:ρ x=v at h1;generalize fW:ρ y=v' at h2;cases h1 with
  | ptr q1 =>
   rename_i p;cases h2 with
   | ptr q2 =>
    rename_i p';rw [q1] at q2;injection q2 with q2
    subst q2;have:=Lib.run_neq_ptr_same (P:=C.P) (w:=w) ⟨p.block,off,none⟩ hp hte;exact ⟨.bool false,by simp [execOp,ho,hv,fW,eqGuard,this],.val _⟩
theorem b8O (ho:o.op = .convert src dst x) (hx:E.valid x) (ex:E.val C x = .ptr k off) (hk:σ[k]? = some (.boxT (some e) cells)) (fJ:off < cells.length)
 (t:TypeId) (hs:C.P.underlying src=some (.pointer t)) (hd:C.P.underlying dst=some .unsafePointer) (ht:((C.P.info? t).any fun j=>j.size != 0)=true):l9 C σ E o (.ptr k off) :=
 i7 fun M w ρ hr h=>by
  obtain ⟨j,ht,hj⟩:∃ j,C.P.info? t=some j/\j.size≠0:=by
   rw [Option.any_eq_true_iff_get] at ht;exact ⟨_,Option.eq_some_of_isSome ht.1,sp_ ht.2⟩
  have h1:=h x w9 hx;rw [ex] at h1;generalize hv:ρ x=v at h1;cases h1 with
  | ptr hp =>
   rename_i p;obtain ⟨ak,ty,e1,e2,_⟩:=(hr.obj k p _ hp hk).1;have hsh:w.shape? p.block=some (e,ak.size):=by simp [World.shape?,e1]
   have:=Lib.run_to_unsafe (P:=C.P) (w:=w) (src:=src) (dst:=dst) ⟨p.block,off,none⟩ hs hd ht hj hsh (by rw [e2];exact fJ);exact ⟨_,by simp [execOp,ho,hv,this],.ptr hp⟩
theorem b3U (ho:o.op = .convert src dst x) (hx:E.valid x) (ex:E.val C x = .ptr k off) (hk:σ[k]? = some (.boxT (some e) cells))
 (u:TypeId) (hs:C.P.underlying src=some .unsafePointer) (hd:C.P.underlying dst=some (.pointer u)) (ht:(C.P.info? u).isSome=true) (hl:liesAt C.P C.P.depth e (cells.length / C.P.cellsOf e) off u 1=true):l9 C σ E o (.ptr k off) :=
 i7 fun M w ρ hr h=>by
  obtain ⟨j,ht⟩:=b5F.1 ht;have h1:=h x w9 hx;rw [ex] at h1;generalize hv:ρ x=v at h1;cases h1 with
  | ptr hp =>
   rename_i p;obtain ⟨ak,ty,e1,e2,_⟩:=(hr.obj k p _ hp hk).1;have hsh:w.shape? p.block=some (e,ak.size):=by simp [World.shape?,e1]
   have:=Lib.run_from_unsafe (P:=C.P) (w:=w) (src:=src) (dst:=dst) ⟨p.block,off,none⟩ hs hd ht hsh (by rw [e2];exact hl);exact ⟨_,by simp [execOp,ho,hv,this],.ptr hp⟩
theorem d4E {f : FuncId} {fn : Func} {e : Array Value → Sem Value} {ts : Array TypeId} {x : Operand} {c : CV} (ho : o.op = .call { callee := .value (.func f), args := #[x], argTypes := ts }) (hf : C.P.funcs[f]? = some fn) (dj : (fn.name == "runtime.NumGoroutine") = false) (hb : fn.body.isNone = true) (hn : Extern.findNext fn = none) (he : Extern.find fn = some e)
 (hx:E.valid x) (ex:E.val C x=c) (hr:∀ v w,(e #[v]).run C.P w = .ok v w):l9 C σ E o c :=
 i7 fun M w ρ _ hh=>by
  have h1:=hh x H9 hx;have cy:=r6 (hh (.func f) H9 tt);rw [ex] at h1;refine ⟨ρ x,?_,h1⟩;have:=a1M (args:=#[ρ x]) (w:=w) hf dj hb hn he (hr (ρ x) w);simp [execOp,ho,resolve,cy,Deferred.ofValue,invoke,this]
theorem b7E (ho:o.op = .call { callee:=.builtin .unsafeSliceData,args:=#[x],argTypes:=#[t]}) (hx:E.valid x) (ex:E.val C x = .list V true (some k)) (aC:V≠[]):l9 C σ E o (.eptr k 0 0) :=
 i7 fun M w ρ _ h=>by
  have h1:=h x H9 hx;rw [ex] at h1;obtain ⟨a,cap,b,off,s,vals,hv,bk,dG,fq,dM,ha,cE,aP,hc,bo,cl⟩:=h1.list_inv;obtain ⟨s',hp,ha0,rfl,hs⟩:=cl k rfl;have hl:0 < V.length:=b1w.2 aC;refine ⟨.pointer (some ⟨b,0,none⟩),?_,?_⟩
  ·have:=Lib.run_unsafeSliceData_row (P:=C.P) (w:=w) #[t] o.type ⟨b,0,none⟩ V.length cap om_;simp [execOp,ho,resolve,invoke,builtin,hv,ha0,this]
  ·have:=RV.eptr (w:=w) (i:=0) (off:=0) hp;simpa using this
theorem b4x (ho:o.op = .call { callee:=.builtin .unsafeSliceData,args:=#[x],argTypes:=#[t]}) (hx:E.valid x) (ex:E.val C x = .list [] false none):l9 C σ E o (.val (.pointer none)) :=
 i7 fun M w ρ _ h=>by
  have h1:=h x H9 hx;rw [ex] at h1;obtain ⟨a,cap,b,off,s,vals,hv,bk,dG,fq,dM,ha,cE,aP,hc,bo,cl⟩:=h1.list_inv;have:a=none:=by cases a<;>first|rfl | simp at fq
  subst this;refine ⟨.pointer none,?_,.val _⟩;have:=Lib.run_unsafeSliceData_nil (P:=C.P) (w:=w) #[t] o.type ([]:List (List CV)).length cap;simp only [I3] at this hv;simp [execOp,ho,resolve,invoke,builtin,hv,this]
theorem Rel.tipKill (hr:Rel C M σ w) {t0:Option TypeId} {aD:Array Value} {ty:TypeId} {fr fr':Nat × Nat} (hp:M.pl[k]? = some p) (hk:σ[k]? = some (.tipT t0 n)) (hc:w.heap[p.block]? = some (.cells aD ty fr)) :
 Ext M w M (World.putObj w p.block (.cells aD ty fr'))/\Rel C M (σ.set k .dead) (World.putObj w p.block (.cells aD ty fr')):=by
 obtain ⟨⟨q1,q2,q3,cur0,ty0,q4,q5⟩,cI⟩:=hr.obj k _ _ hp hk;have hb:p.block < w.heap.size:=(a1z.1 hc).1;have hx:Ext M w M (World.putObj w p.block (.cells aD ty fr')):=by
  refine ⟨⟨[],si_⟩,fun _ h=>h,fun _ _ h=>.inr h,fun b' h=>World.putObj_other w _ (fun e=>cI (e ▸ h)),fun b' o' h=>?_,by rw [World.putObj_size];exact n_6 _,Q8,rfl,rfl,rfl,fun b' h=>⟨h,World.putObj_other w _ (fun e=>hr.nk k p _ hp hk rfl (e ▸ h)),id,fun _=>id⟩⟩;by_cases he:p.block=b'
  ·subst he;simp only [World.cell?,World.putObj_same w _ hb,hc]
  ·exact O6 (World.putObj_other w _ he)
 have hd:=hr.dead k;refine ⟨hx,hd.len,fun b o' ha=>by rw [World.putObj_size];exact hr.blk b o' ha,fun k' p' x aG aB=>?_,hd.inj,fun g cells hg=>(hr.glob g cells hg).mono hx,fun b h=>(by rw [World.putObj_size];exact hr.kep b h),hd.nk⟩;obtain ⟨h1,h2⟩:=hd.obj k' p' x aG aB;refine ⟨?_,h2⟩;by_cases hl:x.live=true
 ·have hkk:k'≠k:=by
   rintro rfl;rw [b1i (n_3.1 hk).1] at aB;injection aB with aB
   subst aB;cases hl
  rw [a2i (Ne.symm hkk)] at aB;have aC:p.block≠p'.block:=fun e=>hkk (hr.inj k' k p' p x _ aG hp aB hk hl rfl e.symm);exact h1.mono hx (World.putObj_other w _ aC) (fun _ _ _ _ h=>h)
 ·cases x<;>first | trivial | simp [b9.live] at hl
theorem b9k {b:Nat} {aD:Array Value} {ty:TypeId} {fr:Nat × Nat} (hc:w.heap[b]? = some (.cells aD ty fr)) (hn:n≠0):∃ fr',w.freeze ⟨b,0,none⟩ n=World.putObj w b (.cells aD ty fr'):=by
 have hb:b < w.heap.size:=(a1z.1 hc).1;obtain ⟨lo,hi⟩:=fr;refine ⟨if lo == hi then (0,0+n) else (min lo 0,max hi (0+n)),?_⟩;have hg:w.heap[b] = .cells aD ty (lo,hi):=by
  have:=(a1z.1 hc).2;exact this
 simp only [World.freeze,n_0 hn,World.putObj]
 congr 1
 apply b79;intro i;rw [b2W,Array.getElem?_setIfInBounds];by_cases aY:b=i
 ·subst aY;simp [hb,hg]
 ·simp [aY]
theorem a9Q {pt it:TypeId} {t0:Option TypeId} (ho:o.op = .call { callee:=.builtin .unsafeString,args:=#[x,y],argTypes:=#[pt,it]}) (hx:E.valid x) (hy:E.valid y) (ex:E.val C x = .eptr q 0 0) (ey:E.val C y = .val (.int .i64 l.length))
 (hq:σ[q]? = some (.tipT (some e) l.length)) (hk:σ[k]? = some (.boxT t0 cells)) (hi:cells[i]? = some (.list (l.map bcv) true (some q))) (aC:l≠[])
 (hp:C.P.underlying pt=some (.pointer e)) (hc:C.P.cellsOf e=1) (h:K (.ret (sv l)) (σ.set q .dead)):H4 C σ E o K:=fun M w ρ hr hh=>by
 have h1:=hh x H9 hx;have h2:=r6 (ey ▸ hh y H9 hy);rw [ex] at h1;generalize hv:ρ x=v at h1;cases h1 with
 | eptr aT =>
  rename_i p;obtain ⟨pk,dN⟩:∃ pk,M.pl[k]? = some pk:=by
   have:=(n_3.1 hk).1;rw [<- hr.len] at this;exact ⟨_,a1u this⟩
  obtain ⟨ak,ty,e1,e2,e3,e4⟩:=(hr.obj k pk _ dN hk).1;obtain ⟨a,cap,b,off,s,vals,hvv,bk,dG,fq,dM,ha,cE,aP,aO,bo,cl⟩:=(e4 i _ hi).list_inv;obtain ⟨s',aG,ha0,rfl,hs⟩:=cl q rfl;rw [aT] at aG;injection aG with aG
  subst aG;have gU:l.map bcv≠[]:=sp_ aC;have bq:s=1:=by
   cases l with
   | nil=>exact absurd rfl aC
   | cons x l=>exact (cE (bcv x) si_).symm
  subst bq;have aQ:=hs gU;subst aQ;obtain ⟨⟨q1,q2,q3,aD,fu,q4,q5⟩,_⟩:=hr.obj q _ _ aT hq;simp only [a8H,b9y] at q1 q4 q5;have hcells:∀ j x,l[j]? = some x->w.cell? ((⟨b,0,none⟩:Addr).add j)=some (.int .u8 x.toNat):=fun j x hj=>by
   have g:(l.map bcv)[j]? = some (bcv x):=by rw [Q0,hj];rfl
   have:=(aO j 0 _ _ g rfl).2;have hz:=r6 (bo j 0 _ _ g rfl);rw [hz] at this;simp only [b9y,K9,a7l] at this;rw [R7];simpa using this
  have aj:l.length<=cap:=sp_ bk;have hus:=Lib.run_unsafeString_row (P:=C.P) w pt it o.type e hp hc b aD.size (by simp [World.shape?,q4]) l aC (by rw [q5];exact aj) (by unfold maxLen at dG;omega) hcells;obtain ⟨fr',hfr⟩:=b9k q4 (n:=l.length) (sp_ aC);have aw:(execOp ρ o).run C.P w = .ok (.value (.string ⟨l.toArray⟩)) (World.putObj w b (.cells aD e fr')):=by
   rw [<- hfr];simp [execOp,ho,resolve,invoke,builtin,hv,h2,hus]
  rw [aw];obtain ⟨g1,g2⟩:=hr.tipKill (fr':=fr') aT hq q4;exact ⟨_,_,_,g1,g2,.val _,h⟩
theorem b4c (ey:E.val C y=sv l):∀ M w v,Rel C M σ w->RV M w (E.val C y) v->b8x C w M (l.map bcv) 1 v:=fun M w v _ h=>by
 rw [ey] at h;have hv:=r6 h;subst hv;refine ⟨fun w'=>by simp [Builtin.lenOf,str,ByteArray.size],fun r hr=>?_,(l.map fun b=>Value.int .u8 b.toNat).toArray,?_,si_,fun i j r c hi hj=>?_⟩
 ·obtain ⟨b,_,rfl⟩:=I9.1 hr;rfl
 ·simp [Builtin.firstCells,str]
 ·rw [Q0,N0] at hi;obtain ⟨b,hb,rfl⟩:=hi
  rcases j with _ | j
  ·simp only [bcv,List.getElem?_cons_zero,Option.some.injEq] at hj;subst hj;refine ⟨?_,rfl⟩;have:((l.map fun b=>Value.int .u8 b.toNat).toArray).getD (i*1+0) undef = .int .u8 b.toNat:=by simp [a0k,hb]
   rw [this];exact .val _
  ·cases hj
end
def A1 (t:TypeId):Nat->b9
 | 0=>.dead
 | n+1=>.tipT (some t) (n+1)
def a0D (l:Str) (p:Nat):CV:=.list (l.map bcv) (gnn l.length) (G9 l.length p)
theorem b3c (t:TypeId) (n m:Nat):J0 n (A1 t m):=by cases m<;>trivial
section
theorem a27 {t2:TypeId} {new:Str} {p:Nat} {ti:TypeInfo} (ho:o.op = .call { callee:=.builtin .append,args:=#[x,y],argTypes:=#[t,t2]}) (hx:E.valid x) (hy:E.valid y) (ex:E.val C x=a0D l p)
 (aR:∀ M w v,Rel C M σ w->RV M w (E.val C y) v->b8x C w M (new.map bcv) 1 v) (hu:∀ w,(underlying t).run C.P w = .ok (.slice e) w) (hs:∀ w,(sizeOf e).run C.P w = .ok 1 w) (df:∀ w,(typeInfo e).run C.P w = .ok ti w) (hz:∀ w,(zeroValue e).run C.P w = .ok z w) (cc:z.cells.size=1)
 (dq:(∀ w,(underlying t2).run C.P w = .ok (.slice e) w)\/∀ w,(underlying t2).run C.P w = .ok .string w) (hb1:ti.bytes=1)
 (bT:σ[p]? = some (A1 e l.length)) (hb:l.length+new.length<=140737488355328)
 (hk:K (.ret (a0D (l++new) σ.length)) (σ.set p .dead++[A1 e (l++new).length])):H4 C σ E o K:=by
 have bb:∀ (l:Str),∀ r∈l.map bcv,r.length=1:=fun l r hr=>by
  obtain ⟨b,_,rfl⟩:=I9.1 hr;rfl
 rcases new with _ | ⟨r1,new⟩
 ·
  intro M w ρ hr hh;have h1:=hh x H9 hx;have h2:=hh y H9 hy;rw [ex,a0D] at h1;obtain ⟨aj,_,ak,cy,bg,_⟩:=aR M w _ hr h2;obtain ⟨a,cap,b,off,s',vals,hv,bk,dG,fq,dM,ha,cE,aP,hc,bo,cl⟩:=h1.list_inv;have bz:(execOp ρ o).run C.P w=((Builtin.append_ #[t,t2] o.type #[ρ x,ρ y]).run C.P w).andThen fun v w=>.ok (.value v) w:=by
   simp [execOp,ho,resolve,invoke,builtin]
  have az:ak = #[]:=by
   apply Array.eq_empty_of_size_eq_zero;simpa using bg
  subst az;have cJ:∀ w',(Builtin.lenOf (ρ y)).run C.P w' = .ok 0 w':=sp_ aj;have hfn':(Builtin.firstCells 1 0 (ρ y)).run C.P w = .ok #[] w:=sp_ cy;have il:l.length<=cap:=sp_ bk;have aw:(execOp ρ o).run C.P w = .ok (.value (.slice a (l.map bcv).length cap)) w:=by
   rw [bz,hv]
   rcases dq with dq | dq
   all_goals
    cases a with
    | none=>simp [Builtin.append_,hu,dq,hs,cJ,hfn',il]
    | some a=>simp [Builtin.append_,hu,dq,hs,cJ,hfn',il,storeCells]
  rw [aw];simp only [a1d] at hk
  rcases l with _ | ⟨r0,l⟩
  ·obtain ⟨aI,bc⟩:=(hr.dead p).addDead ⟨0,0,0⟩;exact ⟨_,_,_,bc,aI,by simpa [a0D,gnn,G9,hv] using h1.mono bc,hk⟩
  ·obtain ⟨sz,hp,ha0,fJ,aF⟩:=cl p rfl;obtain ⟨bc,aI⟩:=hr.tipNew (m:=(r0::l).length) hp bT (n_6 _) il;refine ⟨_,_,_,bc,aI,?_,hk⟩;have hl:=h1.mono bc;rw [hv] at hl;obtain ⟨a',cap',b',off',s'',fh,fW,q1,q2,q3,q4,q5,q6,q7,q8,q9,q10⟩:=hl.list_inv;injection fW with e1 e2 e3
   subst e1 e3;refine RV.list' (L:=((r0::l).map bcv).length) rfl fh q1 q2 (by rw [q3]) (fun h=>by cases h) q5 q6 q7 q8 q9 (fun k' aH=>?_);obtain ⟨s3,g1,g2,g3,g4⟩:=q10 p rfl;injection aH with aH
   subst aH;refine ⟨s3,?_,g2,g3,g4⟩;have e4:=bc.get hp;rw [g1] at e4;rw [e4];simp [A5.add,<- hr.len]
 ·have aC:(r1::new).map bcv≠[]:=by simp
  have hbb:((l.map bcv).length+((r1::new).map bcv).length)*ti.bytes<=140737488355328:=by rw [hb1];simp only [a0W];simpa using hb
  have bt:(l.map bcv).length+((r1::new).map bcv).length<=9223372036854775807:=by simp only [a0W];simp only [C4] at hb ⊢;omega
  have hK:K (.ret (.list (l.map bcv++(r1::new).map bcv) true (some σ.length))) (σ.set p .dead++[.tipT (some e) ((l.map bcv).length+((r1::new).map bcv).length)]):=by
   have e1:(l++r1::new).length=(l.length+new.length)+1:=by simp;omega
   have e2:(l.map bcv).length+((r1::new).map bcv).length=(l.length+new.length)+1:=by simp;omega
   rw [a0D,e1] at hk;rw [e2,<- b5r];exact hk
  rcases l with _ | ⟨r,l⟩
  ·have hee:σ.set p .dead=σ:=by
    refine b8A fun i=>?_;rw [b1k]
    split
    ·rename_i h';subst h';rw [n_1 (n_3.1 bT).1,bT];rfl
    ·rfl
   rw [hee] at hK;exact a7t ho hx hy ex aR hu hs df hz cc dq (.inr rfl) a1N (.inl ⟨rfl,rfl,rfl⟩) (bb []) aC hbb bt hK
  ·refine a7t ho hx hy ex aR hu hs df hz cc dq (.inr rfl) a1N (.inr ⟨si_,p,rfl,?_⟩) (bb _) aC hbb bt hK;simpa [A1] using bT
theorem a8X {pt it:TypeId} (ho:o.op = .call { callee:=.builtin .unsafeString,args:=#[x,y],argTypes:=#[pt,it]}) (hx:E.valid x) (hy:E.valid y) (ex:E.val C x = .val (.pointer none)) (ey:E.val C y = .val (.int .i64 0)) (h:K (.ret (sv [])) σ):H4 C σ E o K:=fun M w ρ hr hh=>by
 have h1:=r6 (ex ▸ hh x H9 hx);have h2:=r6 (ey ▸ hh y H9 hy);have:=Lib.run_unsafeString_none (P:=C.P) (w:=w) pt it o.type none;have aw:(execOp ρ o).run C.P w = .ok (.value (.string .empty)) w:=by simp [execOp,ho,resolve,invoke,builtin,h1,h2,this]
 rw [aw];exact ⟨_,_,_,Ext.refl _ _,hr,.val _,h⟩
end
end Go.Cl
namespace Go.Cl
open Go.Sort
theorem b0i {C:Ctx} {M:A5} {σ:List b9} {w:World} (hr:Rel C M σ w) (k:Nat) (os:Array Obj):Ext M w M (grow (w.drewN k) os)/\Rel C M σ (grow (w.drewN k) os):=by
 have bM:∀ b,b < w.heap.size->(grow (w.drewN k) os).heap[b]? = w.heap[b]?:=fun b hb=>by
  show (w.heap++os)[b]? = _;exact b6r hb
 have aF:w.heap.size<=(grow (w.drewN k) os).heap.size:=by
  show w.heap.size<=(w.heap++os).size;rw [c0E];omega
 have hx:Ext M w M (grow (w.drewN k) os):=⟨⟨[],si_⟩,fun _ h=>h,fun _ _ h=>.inr h,fun b h=>bM b (hr.blk b 0 (.inl h)),fun b o h=>O6 (bM b (hr.blk b o (.inr h))),aF,Q8,rfl,rfl,rfl,fun b h=>⟨h,bM b (hr.kep b h),id,fun _=>id⟩⟩;refine ⟨hx,hr.len,fun b o h=>a97 (hr.blk b o h) aF,fun j p ob hp hs=>?_,hr.inj,fun g cells hg=>(hr.glob g cells hg).mono hx,fun b h=>a97 (hr.kep b h) aF,hr.nk⟩;obtain ⟨h1,h2⟩:=hr.obj j p ob hp hs;refine ⟨?_,h2⟩;by_cases hl:ob.live=true
 ·exact h1.mono hx (bM _ (h1.lt hl)) (fun _ _ _ _ h=>h)
 ·cases ob<;>first | trivial | simp [b9.live] at hl
theorem b0S {C:Ctx} {f:FuncId} {args:List CV} {v:Value} (h:∀ (M:A5) (σ:List b9) (w:World) (vs:Array Value),Rel C M σ w->vs.size=args.length->(∀ (i:Nat) (c:CV),args[i]? = some c->RV M w c (vs.getD i undef)) ->
 Calls C.P f vs w fun e w'=>e = .returned v/\∃ k os,w'=grow (w.drewN k) os) (σ:List b9):b8 C f args σ fun r Y=>r = .ret (.val v)/\Y=σ:=fun M w vs hr hn hx=>by
 refine (h M σ w vs hr hn hx).mono fun e w' ⟨he,k,os,hw⟩=>?_;subst he hw;obtain ⟨h1,h2⟩:=b0i hr k os;exact ⟨_,_,_,h1,h2,.val _,rfl,rfl⟩
theorem GV.tab {C:Ctx} {M:A5} {w:World} {name:String} {g:Nat} {k:IntKind} {zs:List Int} (hg:GV M w (zs.map fun z=>.val (.int k z)) g) (hn:C.P.globalNamed name=some g):Lib.TabIs C.P w name k zs:=by
 obtain ⟨ak,ty,fr,h1,h2⟩:=hg.sz;have he:ak=(zs.map fun z=>Value.int k z).toArray:=by
  have hc:=hg.rv;generalize hv:Value.pointer (some ⟨g,0,none⟩)=v at hc;cases hc with
  | cptr vals q1 q2 q3 =>
   injection hv with hv
   injection hv with hv
   injection hv with e1 e2 e3
   subst e1;refine b79 fun i=>?_;by_cases hi:i < zs.length
   ·have hci:(zs.map fun z=>CV.val (.int k z))[i]? = some (.val (.int k zs[i])):=by rw [Q0,a1u hi];rfl
    have hz:=(q2 i _ hci).2;have hy:=r6 (q3 i _ hci);rw [hy] at hz;simp only [<- e2,K9] at hz;simp only [World.cell?,h1,Option.isSome_none,b2c,if_false] at hz;rw [hz];simp [hi]
   ·have:ak.size<=i:=by rw [h2];simp;omega
    rw [a9C this,a9C Q7]
 unfold Lib.TabIs World.var?;rw [hn];simp only [n_8,h1,he]
end Go.Cl
namespace Go.Cl
variable {t e t':TypeId} {c:CV} {x y:Operand} {K:Q9->List b9->Prop} {o:Oper} {l:List Oper} {f:FuncId} {C:Ctx} {args:List CV} {P:Program} {w:World} {id kD n k:Nat} {E:Env} {M:A5} {a:Act} {b:Bool} {z:Value} {α:Type}
section
variable {σ:List b9}
theorem b3P {f : FuncId} {fn : Func} {ps : Array TypeId} {t e : TypeId} {ts : Array TypeId} {x : Operand} {n : Nat} {K : Q9 → List b9 → Prop} (ho : o.op = .call { callee := .value (.func f), args := #[x], argTypes := ts }) (hf : C.P.funcs[f]? = some fn) (dj : (fn.name == "runtime.NumGoroutine") = false) (hb : fn.body.isNone = true) (hn : Extern.findNext fn = none) (he : Extern.find fn = some (Extern.BytealgMakeNoZero.makeNoZero ps #[t]))
 (ht:C.P.underlying t=some (.slice e)) (hx:E.valid x) (ex:E.val C x = .val (.int .i64 n)) (dM:n<=140737488355328) (h:K (.ret (.vec σ.length 0 n)) (σ++[.tipT (some e) 0])):H4 C σ E o K:=fun M w ρ hr hh=>by
 have h1:=r6 (ex ▸ hh x H9 hx);have cy:=r6 (hh (.func f) H9 tt);obtain ⟨cs,aw,aJ,bn⟩:=Lib.run_makeNoZero (P:=C.P) w ps t e ht n om_;have hc:=a1M (args:=#[.int .i64 n]) (v:=.slice (some ⟨w.heap.size,0,none⟩) n cs.size) (w:=w) hf dj hb hn he;have aA:(callFunc f #[.int .i64 n]).run C.P w = .ok (.value (.slice (some ⟨w.heap.size,0,none⟩) n cs.size)) (w.drew.drew.alloc (.cells cs e)):=by
  simp only [callFunc,Sem.run_bind,run_program,Result.andThen_ok,hf,dj,hb,hn,he];simp [aw]
 have dx:(execOp ρ o).run C.P w = .ok (.value (.slice (some ⟨w.heap.size,0,none⟩) n cs.size)) (w.drew.drew.alloc (.cells cs e)):=by
  simp [execOp,ho,resolve,cy,h1,Deferred.ofValue,invoke,aA]
 rw [dx];obtain ⟨aI,bc⟩:=hr.drewN;obtain ⟨bm,aK⟩:=aI.drewN;have hcm:cs.size<=maxLen:=bn (by unfold maxLen;omega);have gv:=Ext.alloc bm ⟨w.heap.size,cs.size,1⟩ (.cells cs e);have fx:=bm.alloc ⟨w.heap.size,cs.size,1⟩ (.cells cs e) (.tipT (some e) 0) rfl ⟨n_5 _,hcm,⟨fun o' ho'=>by have:=bm.blk _ _ (.inr ho');simp only at this;exact absurd this (Nat.lt_irrefl _),fun _=>rfl⟩,cs,e,A4 _ _,si_⟩;refine ⟨_,_,_,(bc.trans aK).trans gv,fx,?_,h⟩;have hp:(M.add ⟨w.heap.size,cs.size,1⟩).pl[σ.length]? = some ⟨w.heap.size,cs.size,1⟩:=by simp [A5.add,<- hr.len]
 have:=RV.vec (w:=w.drew.drew.alloc (.cells cs e)) (off:=0) (len:=n) (a:=⟨w.heap.size,0,none⟩) hp (sp_ aJ) hcm (fun _=>by simp);simpa using this
theorem b6S {v:Operand} {s:Nat} {kd:IntKind} (ho:o.op = .slice t x none (some v) none) (hx:E.valid x) (hv:E.valid v) (ex:E.val C x = .vec k 0 n) (ev:E.val C v = .val (.int kd 0)) (hn:1<=n) (hu:∀ w,(underlying t).run C.P w = .ok (.slice e) w) (hs:∀ w,(sizeOf e).run C.P w = .ok s w):l9 C σ E o (.list [] true (some k)) :=
 i7 fun M w ρ hr hh=>by
  have aB:=hh x w9 hx;have fW:=r6 (ev ▸ hh v w9 hv);rw [ex] at aB;generalize hw:ρ x=u at aB;cases aB with
  | vec hp g1 g2 g3 =>
   rename_i p a;have hc:0 < p.cap:=by omega
   have ha:=g3 hc;rw [Nat.zero_mul] at ha;subst ha;have hb:(Instr.sliceBounds true n (p.cap - 0) none (some (.int kd 0)) none).run C.P w = .ok (0,0,p.cap - 0) w:=by
    simp [Instr.sliceBounds,Instr.sliceBound,asIntOf]
   have aC:¬ p.cap=0:=by omega
   have aw:(execOp ρ o).run C.P w = .ok (.value (.slice (some ⟨p.block,0,none⟩) 0 p.cap)) w:=by
    simp only [Nat.sub_zero] at hb hw;simp [execOp,ho,Instr.sliceAt,Instr.slice,hu,hw,fW,hb,hs,aC,R7]
   refine ⟨_,aw,?_⟩;exact RV.list' (L:=0) (b:=p.block) (off:=0) (s:=0) rfl (fun _ _=>undef) (n_5 _) g2 rfl (fun h=>by cases h) a1N (fun r hr=>by simp at hr) (fun r hr=>by simp at hr) (fun i j r c hi=>by simp at hi) (fun i j r c hi=>by simp at hi) (fun k' aH=>by
    injection aH with aH
    subst aH;exact ⟨p.size,hp,rfl,rfl,fun h=>absurd rfl h⟩)
theorem d1d {tok:Option Nat} {s:Nat} (ho:o.op = .call { callee:=.builtin .copy,args:=#[x,y],argTypes:=#[t,t']}) (hx:E.valid x) (hy:E.valid y) (ex:E.val C x = .list [] true tok) (ey:E.val C y = .list [] false none)
 (hu:∀ w,(underlying t).run C.P w = .ok (.slice e) w) (hs:∀ w,(sizeOf e).run C.P w = .ok s w) (h:K (.ret (.val (.int .i64 0))) σ):H4 C σ E o K:=fun M w ρ hr hh=>by
 have h1:=hh x H9 hx;have h2:=hh y H9 hy;rw [ex] at h1;rw [ey] at h2;obtain ⟨a,cap,b,off,s1,vals,hv,_,_,fq,_⟩:=h1.list_inv;obtain ⟨a2,cap2,b2,off2,s2,vals2,ci,_,_,hnn2,_⟩:=h2.list_inv;have ha2:a2=none:=by cases a2<;>first|rfl | simp at hnn2
 obtain ⟨a1,ha1⟩:∃ a1,a=some a1:=by cases a with | none=>simp at fq | some a=>exact ⟨a,rfl⟩
 subst ha2 ha1;have aw:(execOp ρ o).run C.P w = .ok (.value (.int .i64 0)) w:=by
  simp [execOp,ho,resolve,invoke,builtin,hv,ci,Builtin.copy_,Builtin.lenOf,Builtin.firstCells,hu,hs,storeCells,goInt]
 rw [aw];exact ⟨_,_,_,Ext.refl _ _,hr,.val _,h⟩
theorem c56 (ho:o.op = .call { callee:=.builtin .cap,args:=#[x],argTypes:=#[t]}) (hx:E.valid x) (ex:E.val C x = .list [] false none) (hu:∀ w,(underlying t).run C.P w = .ok (.slice e) w):l9 C σ E o (.val (.int .i64 0)) :=
 i7 fun M w ρ _ h=>by
  have h1:=h x H9 hx;rw [ex] at h1;obtain ⟨a,cap,b,off,s,vals,hv,_,_,_,dM,_⟩:=h1.list_inv;have:=dM rfl;subst this;exact ⟨.int .i64 0,by simp [execOp,ho,resolve,invoke,builtin,Builtin.cap_,hu,hv,goInt],.val _⟩
theorem c9u {t2:TypeId} {new:Str} {p:Nat} {ti:TypeInfo} (ho:o.op = .call { callee:=.builtin .append,args:=#[x,y],argTypes:=#[t,t2]}) (hx:E.valid x) (hy:E.valid y) (ex:E.val C x = .list [] true (some p))
 (aR:∀ M w v,Rel C M σ w->RV M w (E.val C y) v->b8x C w M (new.map bcv) 1 v) (hu:∀ w,(underlying t).run C.P w = .ok (.slice e) w) (hs:∀ w,(sizeOf e).run C.P w = .ok 1 w) (df:∀ w,(typeInfo e).run C.P w = .ok ti w) (hz:∀ w,(zeroValue e).run C.P w = .ok z w) (cc:z.cells.size=1)
 (dq:(∀ w,(underlying t2).run C.P w = .ok (.slice e) w)\/∀ w,(underlying t2).run C.P w = .ok .string w) (hb1:ti.bytes=1)
 (bT:σ[p]? = some (.tipT (some e) 0)) (aC:new≠[]) (hb:new.length<=140737488355328)
 (hk:K (.ret (a0D new σ.length)) (σ.set p .dead++[A1 e new.length])):H4 C σ E o K:=by
 have gU:new.map bcv≠[]:=sp_ aC;refine a9T ho hx hy ex aR hu hs df hz cc dq (.inr rfl) a1N (.inr ⟨rfl,rfl,p,rfl,bT⟩) si_ gU (by rw [hb1];simp only [a0W,I3];omega) (by simp only [a0W,I3];omega) ?_
 rcases new with _ | ⟨c,new⟩
 ·exact absurd rfl aC
 ·have e1:([]:List (List CV)).length+((c::new).map bcv).length=new.length+1:=by simp
  rw [e1,a72];exact hk
end
section
variable {σ:List b9}
theorem wr8 {z:Int} (h0:0<=z) (h1:z < 256):IntKind.u8.wrap z=z:=by
 have:z%256=z:=Int.emod_eq_of_lt h0 h1;simp [IntKind.wrap,IntKind.signed,IntKind.bits];omega
theorem d5H {a b:Nat} (ho:o.op = .binOp .or t x y t') (hx:E.valid x) (hy:E.valid y) (ex:E.val C x = .val (.int .u8 (a:Int))) (ey:E.val C y = .val (.int .u8 (b:Int))) (ha:a < 256) (hb:b < 256):l9 C σ E o (.val (.int .u8 ((a ||| b:Nat):Int))) :=
 i7 fun M w ρ _ h=>by
  have h1:=h x w9 hx;have h2:=h y w9 hy;rw [ex] at h1;rw [ey] at h2;have e1:∀ n:Nat,n < 256->(BitVec.ofInt 8 (n:Int)).toNat=n:=fun n hn=>by
   rw [BitVec.ofInt_natCast,BitVec.toNat_ofNat];exact b8z om_
  have e2:a ||| b < 2^8:=Nat.or_lt_two_pow om_ om_;have e3:(BitVec.ofInt IntKind.u8.bits (a:Int) ||| BitVec.ofInt IntKind.u8.bits (b:Int)).toNat=a ||| b:=by
   show (BitVec.ofInt 8 (a:Int) ||| BitVec.ofInt 8 (b:Int)).toNat=_;rw [BitVec.toNat_or,e1 a ha,e1 b hb]
  have e4:(Op.intBits .or .u8 (a:Int) (b:Int)).run C.P w = .ok (.int .u8 ((a ||| b:Nat):Int)) w:=by
   unfold Op.intBits;simp only [Sem.run_pure,e3];rw [wr8 om_ om_]
  refine ⟨_,?_,.val _⟩;simp [execOp,ho,r6 h1,r6 h2,eqGuard,binOp,e4]
theorem d4X {k k':IntKind} {a b:Int} {m:Nat} (ho:o.op = .binOp .shr t x y t') (hx:E.valid x) (hy:E.valid y) (ex:E.val C x = .val (.int k a)) (ey:E.val C y = .val (.int k' (m:Int))) (hk:m<=k.bits) (hb:a / 2^m=b):l9 C σ E o (.val (.int k b)) :=
 i7 fun M w ρ _ h=>by
  have h1:=h x w9 hx;have h2:=h y w9 hy;rw [ex] at h1;rw [ey] at h2;refine ⟨.int k b,?_,.val _⟩;have e:min (m:Int).toNat k.bits=m:=by rw [a1Z];omega
  have h0:¬ ((m:Int) < 0):=by omega
  have e2:a.fdiv (2^m)=b:=by
   have:(0:Int)<=2^m:=Int.le_of_lt (Int.pow_pos de_);rw [Int.fdiv_eq_ediv_of_nonneg _ this,hb]
  have e3:min m k.bits=m:=by omega
  simp [execOp,ho,r6 h1,r6 h2,eqGuard,binOp,Op.shift,e3,e2];intro h;omega
end
section
variable {σ:List b9}
theorem T8 {cx:Operand} {xs:Array Operand} {ts:Array TypeId} {cargs ax:List CV} {c:α->CV} {S:α->List b9} {P:α->Prop} (ho:o.op = .call { callee:=.value cx,args:=xs,argTypes:=ts}) (hc:E.valid cx) (ec:E.val C cx = .clo f ax) (aA:∀ args w,(callFunc f args).run C.P w = .ok (.enter f args) w)
 (hv:E.valids xs.toList) (h:b8 C f (cargs++ax) σ fun r Y=>∃ a,r = .ret (c a)/\Y=S a/\P a) (ea:E.vals C xs.toList=cargs) (hk:∀ a,P a->K (.ret (c a)) (S a)):H4 C σ E o K :=
 b27 ho hc ec aA (Env.valids_mem hv) (Env.vals_map _) (ea ▸ h.mono fun r Y hh=>by
  obtain ⟨a,rfl,rfl,hp⟩:=hh;exact hk a hp)
theorem d0Q {v:Value} (ho:o.op = .buildSlice t 1 #[(0,x)]) (hx:E.valid x) (ex:E.val C x = .val v) (hv:v.oneCell'=true) (hu:∀ w,(underlying t).run C.P w = .ok (.slice e) w) (hs:∀ w,(sizeOf e).run C.P w = .ok 1 w) (hz:∀ w,(zeroValue e).run C.P w = .ok z w) (bY:z.oneCell'=true)
 (hk:K (.ret (.list [[.val v]] true (some σ.length))) (σ++[.tip 1])):H4 C σ E o K:=fun M w ρ hr hh=>by
 have h1:=r6 (ex ▸ hh x w9 hx);have hvc:v.cells = #[v]:=by cases v<;>first|rfl | simp [Value.oneCell'] at hv
 have hzc:z.cells = #[z]:=by cases z<;>first|rfl | simp [Value.oneCell'] at bY
 have aw:(execOp ρ o).run C.P w = .ok (.value (.slice (some ⟨w.heap.size,0,none⟩) 1 1)) (w.alloc (.cells #[v] e)):=by
  have er:Array.range 1 = #[0]:=rfl;simp only [execOp,ho,Instr.buildSlice,Sem.run_bind,hu,Result.andThen_ok,hs];simp [er,Instr.fill,newRow,h1,hvc,hz]
 rw [aw];have aK:=Ext.alloc hr ⟨w.heap.size,1,1⟩ (.cells #[v] e);have bm:=hr.alloc ⟨w.heap.size,1,1⟩ (.cells #[v] e) (.tip 1) rfl ⟨n_6 _,by unfold maxLen;simp,⟨fun o ho=>by
  have:=hr.blk w.heap.size o (.inr ho);omega,fun h=>by cases h⟩,#[v],e,A4 _ _,rfl⟩
 have hp:(M.add ⟨w.heap.size,1,1⟩).pl[σ.length]? = some ⟨w.heap.size,1,1⟩:=by simp [A5.add,<- hr.len]
 obtain ⟨gv,fx⟩:=bm.settleCells hp (by simp:(σ++[b9.tip 1])[σ.length]? = some (.tipT none 1));refine ⟨_,_,_,aK.trans gv,fx,?_,hk⟩;refine RV.list (V:=[[.val v]]) (b:=w.heap.size) (off:=0) (s:=1) (fun _ _=>v) (n_6 _) (by unfold maxLen;simp) rfl (fun h=>by cases h) a1N (fun r hr=>by simp at hr;subst hr;rfl) (fun r hr c hc=>by simp at hr;subst hr;simp at hc;subst hc;exact hv) (fun i j r c hi hj=>?_) (fun i j r c hi hj=>?_) (fun k hk=>?_)
 ·rcases i with _ | i
  ·injection hi with hi
   subst hi
   rcases j with _ | j
   ·refine ⟨.inr (.inr ⟨rfl,si_⟩),?_⟩;show (match (w.alloc (.cells #[v] e)).heap[w.heap.size]? with | some (.cells c _ _)=>c[0]? | _=>none)=some v;rw [A4];rfl
   ·simp at hj
  ·simp at hi
 ·rcases i with _ | i
  ·injection hi with hi
   subst hi
   rcases j with _ | j
   ·injection hj with hj
    subst hj;exact .val _
   ·simp at hj
  ·simp at hi
 ·injection hk with hk
  subst hk;exact ⟨1,hp,rfl,rfl,fun _=>rfl⟩
end
theorem d1M {c:α->CV} {P:α->Prop} (hC:C.plain) (ap:∀ a∈args,u0 a) (hc:∀ a,u0 (c a)) (h:b8 C f args [] fun r τ=>∃ a,F8 0 τ r (.ret (c a)) []/\P a) (σ:List b9):b8 C f args σ fun r τ=>∃ a,r = .ret (c a)/\τ=σ/\P a :=
 a5J (obs:=[]) (obs':=[]) [] hC rfl (by intro i j k h1;simp at h1) (fun i k ob h1=>by simp at h1) (L3 ap) (fun a _=>hc a) (L6 hC (h.mono fun r τ ⟨a,h1,h2⟩=>⟨_,_,h1,a,rfl,rfl,h2⟩))
theorem c4p (hC:C.plain) (ap:∀ a∈args,u0 a) (hc:u0 c) (h:b8 C f args [] fun r τ=>F8 0 τ r (.ret c) []) (σ:List b9):b8 C f args σ fun r τ=>r = .ret c/\τ=σ :=
 (d1M (α:=Unit) (c:=fun _=>c) (P:=fun _=>True) hC ap (fun _=>hc) (h.mono fun _ _ hh=>⟨(),hh,tt⟩) σ).mono fun _ _ ⟨_,h1,h2,_⟩=>⟨h1,h2⟩
theorem a96 {ob:b9} {c:α->CV} {S:α->b9} {P:α->Prop} (hC:C.plain) (ap:∀ a∈args,u0 a) (hc:∀ a,u0 (c a)) (hS:∀ a,a9O (S a)) (hob:a9O ob) (bV:ob.live=true)
 (h:b8 C f (.ptr 0 0::args) [ob] fun r τ=>∃ a,F8 1 τ r (.ret (c a)) [S a]/\P a) (σ:List b9) (q:Nat) (hq:σ[q]? = some ob):b8 C f (.ptr q 0::args) σ fun r Y=>∃ a,r = .ret (c a)/\Y=σ.set q (S a)/\P a :=
 b1C hC ap hc hS hob bV (L6 hC (h.mono fun _ _ ⟨a,h1,h2⟩=>⟨_,_,h1,a,rfl,rfl,h2⟩)) σ q hq
theorem c9J {τ:List b9} {c':CV} (h:E9 0 [] c c'):F8 0 τ (.ret c) (.ret c') []:=⟨[],rfl,rfl,.ret h,tt⟩
theorem a2w {τ rest:List b9} {ob:b9} {c':CV} (hτ:τ=ob::rest) (ho:J0 1 ob) (h:E9 1 [0] c c'):F8 1 τ (.ret c) (.ret c') [ob]:=by
 subst hτ;exact ⟨[0],rfl,rfl,.ret h,.inr ⟨_,rfl,.same rfl ho⟩,tt⟩
def c59:List (Nat × TyE)->Nat->Option TyE
 | [],_=>none
 | (k,e)::l,t=>match Nat.beq k t with
  | true=>some e
  | false=>c59 l t
theorem a95 {t:Nat} {e:TyE}:∀ {l:List (Nat × TyE)},c59 l t=some e->(t,e)∈l
 | [],h=>by cases h
 | (k,x)::l,h=>by
  unfold c59 at h;split at h
  ·rename_i hb;obtain rfl:=a3R hb;injection h with h;subst h
   exact b7n
  ·exact a4r _ (a95 h)
def tyB (P:Program) (x:Nat × TyE):Bool:=match P.info? x.1,P.underlying x.1 with
 | some i,some d=>Nat.beq i.size x.2.size && match d with
  | .struct fs=>x.2.agg && (List.range x.2.offs.length).all fun i=>match fs[i]? with
   | some fd=>Nat.beq fd.offset (x.2.offs.getD i 0) && match P.info? fd.type with
    | some j=>Nat.blt 0 j.size
    | none=>false
   | none=>false
  | .array _ _=>x.2.agg && x.2.offs.isEmpty
  | _=>!x.2.agg && x.2.offs.isEmpty
 | _,_=>false
theorem b6X {i:TypeInfo} (h:P.info? t=some i) (w:World):(sizeOf t).run P w = .ok i.size w:=by simp [sizeOf,typeInfo,h]
theorem c1L {d:TypeDesc} (h:P.underlying t=some d) (w:World):(underlying t).run P w = .ok d w:=by simp [underlying,h]
def d7Q:TypeDesc->Bool
 | .struct _ | .array _ _=>true
 | _=>false
theorem b4n {d:TypeDesc} (h:P.underlying t=some d) (w:World):(isAgg t).run P w = .ok (d7Q d) w:=by
 unfold isAgg;rw [Sem.run_bind,c1L h];cases d<;>rfl
theorem d3I {l:List (Nat × TyE)} (h:l.all (tyB P)=true):∀ x∈l,x.2.right P x.1:=fun ⟨t,e⟩ hx=>by
 rw [a5p] at h;have h:=h _ hx;unfold tyB at h;split at h
 ·rename_i i d hi hd;rw [S7] at h;have aF:=a3R h.1;have h2:=h.2;have hs:∀ w,(sizeOf t).run P w = .ok e.size w:=fun w=>by rw [b6X hi];exact n_9 (fun n=>Result.ok n w) aF
  cases d with
  | struct fs =>
   simp only [S7,a5p,List.mem_range] at h2;refine ⟨fun w=>by rw [b4n hd,show e.agg=true from h2.1];rfl,hs,.inr ⟨fs,c1L hd,fun i o ho=>?_⟩⟩;have h3:=h2.2 i (n_3.1 ho).1;split at h3
   ·rename_i fd hfd;rw [S7] at h3;have h4:=a3R h3.1;have h5:=h3.2;split at h5
    ·rename_i j hj;exact ⟨fd,j.size,hfd,by rw [h4,a5m];dsimp only at ho ⊢;rw [ho];rfl,b6X hj,by have h6:=h5;rw [a9G] at h6;omega⟩
    ·cases h5
   ·cases h3
  | array n t' =>
   simp only [S7] at h2;exact ⟨fun w=>by rw [b4n hd,show e.agg=true from h2.1];rfl,hs,.inl (b5n.1 h2.2)⟩
  | _ =>
   simp only [S7,b12] at h2;exact ⟨fun w=>by rw [b4n hd,show e.agg=false from h2.1];rfl,hs,.inl (b5n.1 h2.2)⟩
 ·cases h
def Env.vb (E:Env):Operand->Bool
 | .tmp t=>match E.g t with
  | .yes=>true
  | _=>false
 | .const v=>M5 v
 | _=>true
theorem Env.vb_ok (h:E.vb x=true):E.valid x:=by
 cases x with
 | tmp t =>
  show (E.g t).is;simp only [Env.vb] at h;generalize E.g t=g at h;cases g with
  | yes=>exact tt
  | two a b=>cases h
 | const v=>exact h
 | global g=>exact tt
 | func f=>exact tt
theorem Env.val_h (h:(match x with | .tmp t=>E.h t | x=>some (E.val C x))=some c):E.val C x=c:=by
 cases x with
 | tmp t=>show (E.h t).getD _=c;rw [show E.h t=some c from h];rfl
 | _=>injection h
def d7u:BinOp->Bool
 | .eql | .neq | .lss | .leq | .gtr | .geq=>true
 | _=>false
def qv (C:Ctx) (σ:List b9) (E:Env):Op->Option CV
 | .move x | .assign x=>match E.vb x with
  | true=>match x with
   | .tmp t=>E.h t
   | x=>some (E.val C x)
  | false=>none
 | .nilCheck x=>match E.vb x with
  | true=>match E.val C x with
   | .ptr k d=>some (.ptr k d)
   | _=>none
  | false=>none
 | .extract x i=>match E.vb x with
  | true=>match E.val C x with
   | .tup cs=>cs[i]?
   | _=>none
  | false=>none
 | .unOp .not _ x=>match E.vb x with
  | true=>match E.val C x with
   | .val (.bool b)=>some (.val (.bool (!b)))
   | _=>none
  | false=>none
 | .fieldAddr t x f=>match E.vb x with
  | true=>match c59 C.tab t with
   | some e=>match e.offs[f]? with
    | some d=>match E.val C x with
     | .ptr k o=>some (.ptr k (o+d))
     | .cptr cs=>some (.cptr (cs.drop d))
     | .eptr k i o=>some (.eptr k i (o+d))
     | _=>none
    | none=>none
   | none=>none
  | false=>none
 | .load t x=>match E.vb x with
  | true =>
   match c59 C.tab t with
   | some e=>match E.val C x with
    | .ptr k o=>match σ[k]? with
     | some (.boxT _ cells)=>match e.agg with
      | false=>cells[o]?
      | true=>match Nat.ble (o+e.size) cells.length with
       | true=>some (.agg ((cells.drop o).take e.size))
       | false=>none
     | _=>none
    | .cptr cells=>match e.agg with
     | false=>cells[0]?
     | true=>match Nat.ble e.size cells.length with
      | true=>some (.agg (cells.take e.size))
      | false=>none
    | _=>none
   | none=>none
  | false=>none
 | .binOp op _ x y _=>match d7u op with
  | true=>match E.vb x with
   | true=>match E.vb y with
    | true=>match E.val C x with
     | .val (.int k a)=>match E.val C y with
      | .val (.int k' b)=>if k=k' then (a6z op k a b).map CV.val else none
      | _=>none
     | _=>none
    | false=>none
   | false=>none
  | false=>none
 | _=>none
theorem d7q {σ:List b9} (h:qv C σ E o.op=some c):l9 C σ E o c:=by
 generalize bf:o.op=op at h;cases op with
 | move x =>
  simp only [qv] at h;split at h
  ·exact a0Y bf (Env.vb_ok ‹_›) (Env.val_h h)
  ·cases h
 | assign x =>
  simp only [qv] at h;split at h
  ·exact a4z bf (Env.vb_ok ‹_›) (Env.val_h h)
  ·cases h
 | nilCheck x =>
  simp only [qv] at h;split at h
  ·split at h
   ·injection h with h;subst h;exact b2y bf (Env.vb_ok ‹_›) ‹_›
   ·cases h
  ·cases h
 | extract x i =>
  simp only [qv] at h;split at h
  ·split at h
   ·exact a4Y bf (Env.vb_ok ‹_›) ‹_› h
   ·cases h
  ·cases h
 | unOp u t x =>
  cases u<;>simp only [qv] at h<;>try cases h
  split at h
  ·split at h
   ·injection h with h;subst h;exact b5Q bf (Env.vb_ok ‹_›) ‹_›
   ·cases h
  ·cases h
 | fieldAddr t x f =>
  simp only [qv] at h;split at h
  ·split at h
   ·rename_i e he;split at h
    ·rename_i d hd;obtain ⟨-,-,hf⟩:=C.right _ (a95 he)
     rcases hf with hf | ⟨fs,hu,hf⟩
     ·dsimp only at hf;rw [hf] at hd;cases hd
     ·obtain ⟨fd,s,h1,rfl,h3,h4⟩:=hf f d hd;split at h
      ·injection h with h;subst h;exact j5 bf (Env.vb_ok ‹_›) ‹_› hu h1 h3 h4
      ·injection h with h;subst h;exact a2E bf (Env.vb_ok ‹_›) ‹_› hu h1 h3 h4
      ·injection h with h;subst h;exact c3T bf (Env.vb_ok ‹_›) ‹_› hu h1 h3 h4
      ·cases h
    ·cases h
   ·cases h
  ·cases h
 | load t x =>
  simp only [qv] at h;split at h
  ·split at h
   ·rename_i e he;obtain ⟨ha,hs,-⟩:=C.right _ (a95 he);dsimp only at ha hs;split at h
    ·split at h
     ·split at h
      ·rename_i gb;rw [gb] at ha;exact m0 bf (Env.vb_ok ‹_›) ‹_› ha ‹_› h
      ·rename_i gb;rw [gb] at ha;split at h
       ·injection h with h;subst h;exact L8 bf (Env.vb_ok ‹_›) ‹_› ha hs ‹_› (nb ‹_›)
       ·cases h
     ·cases h
    ·split at h
     ·rename_i gb;rw [gb] at ha;exact a0v bf (Env.vb_ok ‹_›) ‹_› ha h
     ·rename_i gb;rw [gb] at ha;split at h
      ·injection h with h;subst h;exact W7 bf (Env.vb_ok ‹_›) ‹_› ha hs (nb ‹_›)
      ·cases h
    ·cases h
   ·cases h
  ·cases h
 | binOp op t x y t' =>
  simp only [qv] at h;split at h
  ·split at h
   ·split at h
    ·split at h
     ·split at h
      ·split at h
       ·rename_i hk;subst hk;rw [N0] at h;obtain ⟨v,hv,rfl⟩:=h;exact a0d bf (Env.vb_ok ‹_›) (Env.vb_ok ‹_›) ‹_› ‹_› hv
       ·cases h
      ·cases h
     ·cases h
    ·cases h
   ·cases h
  ·cases h
 | _=>cases h
theorem I8.yes {d:Option Nat} (h:I8 M w n (E.put d c True) a):I8 M w n (E.putO d c .yes) a:=by
 cases d with
 | none=>exact h
 | some d =>
  refine ⟨h.defers,h.size,fun t ht=>?_,fun t ht=>?_⟩
  ·have:=h.rv t (by rw [Env.put_ok];rw [Env.putO_ok] at ht;exact ht);rw [Env.put_f] at this;rw [Env.putO_f];exact this
  ·exact h.un t (by rw [Env.put_un];rw [Env.putO_un] at ht;exact ht)
section
variable {aa:Array Oper} {Q:A8->Env->List b9->Prop} {σ:List b9}
theorem H7.yes {d:Option Nat} (h:H7 C n aa Q l (E.putO d c .yes) σ):H7 C n aa Q l (E.put d c True) σ:=fun M w a hr hf=>h M w a hr hf.yes
def d7D (n:Nat) (o:Oper):Bool:=match o.dst with
 | some d=>Nat.blt d n
 | none=>true
def a8L (C:Ctx) (n:Nat) (aa:Array Oper) (Q:A8->Env->List b9->Prop):List Oper->Env->List b9->Prop
 | [],E,σ=>Q .normal E σ
 | o::l,E,σ=>match o.guard with
  | some _=>H7 C n aa Q (o::l) E σ
  | none=>match d7D n o with
   | false=>H7 C n aa Q (o::l) E σ
   | true=>match qv C σ E o.op with
    | none=>H7 C n aa Q (o::l) E σ
    | some c=>match o.dst with
     | some d=>a8L C n aa Q l (E.putO (some d) c .yes) σ
     | none=>a8L C n aa Q l E σ
theorem a2c:∀ {l:List Oper} {E:Env},a8L C n aa Q l E σ->H7 C n aa Q l E σ
 | [],_,h=>z8 h
 | o::l,E,h=>by
  unfold a8L at h;split at h
  ·exact h
  ·rename_i hg;split at h
   ·exact h
   ·rename_i hd;split at h
    ·exact h
    ·rename_i c hc;refine c9Q hg hd (d7q hc) ?_;split at h
     ·rename_i d hdd;rw [hdd];exact (a2c h).yes
     ·rename_i hdd;rw [hdd];exact a2c h
def qc (C:Ctx) (n:Nat):Nat->Nat->Code->(A8->Env->List b9->Prop)->Env->List b9->Prop
 | 0,_,c,Q,E,σ=>CWp C n c Q E σ
 | k+1,s,c,Q,E,σ=>match c with
  | .seq x y=>match s with
   | 0=>CWp C n (.seq x y) Q E σ
   | s+1=>qc C n k 1000 x (A8.next (fun E σ=>qc C n k s y Q E σ) Q) E σ
  | .skip=>Q .normal E σ
  | .block id x=>qc C n k s x (A8.blk id Q) E σ
  | .region _ aa false=>a8L C n aa Q aa.toList E σ
  | c=>CWp C n c Q E σ
theorem a8j:∀ {k s:Nat} {c:Code} {Q:A8->Env->List b9->Prop} {E:Env} {σ:List b9},qc C n k s c Q E σ->CWp C n c Q E σ
 | 0,_,_,_,_,_,h=>h
 | k+1,s,c,Q,E,σ,h=>by
  unfold qc at h;split at h
  ·split at h
   ·exact h
   ·refine D4 ((a8j h).mono fun e E σ h=>?_);cases e with
    | normal=>exact a8j h
    | _=>exact h
  ·exact C5 h
  ·exact a1K (a8j h)
  ·exact C8 (a2c h)
  ·exact h
end
section
variable {aa:Array Oper} {Q:A8->Env->List b9->Prop} {σ:List b9}
theorem qk {c:Code} (h:qc C n 999 999 c Q E σ):CWp C n c Q E σ:=a8j h
theorem qs (s:Nat) {c:Code} (h:qc C n 999 s c Q E σ):CWp C n c Q E σ:=a8j h
theorem qN (Y:List b9) (he:σ=Y) (h:a8L C n aa Q l E Y):a8L C n aa Q l E σ:=he ▸ h
theorem qo (h:a8L C n aa Q l E σ):H7 C n aa Q l E σ:=a2c h
theorem qY (hy:l9 C σ E o c) (h:a8L C n aa Q l (E.putO o.dst c .yes) σ) (hg:o.guard=none:=by rfl) (hd:(match o.dst with | some d=>Nat.blt d n | none=>true)=true:=by rfl):H7 C n aa Q (o::l) E σ:=c9Q hg hd hy (a2c h).yes
theorem qD (h:H4 C σ E o fun r Y=>match r with | .ret c=>a8L C n aa Q l (E.putO o.dst c .yes) Y | .pan c=>Q (.pan c) E Y) (hg:o.guard=none:=by rfl) (hd:(match o.dst with | some d=>Nat.blt d n | none=>true)=true:=by rfl):H7 C n aa Q (o::l) E σ :=
 a2d hg hd (h.mono fun r Y h=>by
  cases r with
  | ret c=>exact (a2c h).yes
  | pan c=>exact h)
theorem qG {j t:Nat} {au:Bool} (hy:b=au->l9 C σ E o c) (h:a8L C n aa Q l (E.put o.dst c (b=au)) σ) (hg:o.guard=some (j,au):=by rfl) (ht:(aa[j]?).bind (·.dst)=some t:=by rfl) (hv:E.ok t:=by exact tt) (hb:E.f t = .val (.bool b):=by rfl)
 (hd:(match o.dst with | some d=>Nat.blt d n | none=>true)=true:=by rfl):H7 C n aa Q (o::l) E σ:=d6v hg ht hv hb hd hy (a2c h)
theorem qH {j t:Nat} {au:Bool} (hg:o.guard=some (j,au)) (ht:(aa[j]?).bind (·.dst)=some t) (hy:E.ok t->b=au->l9 C σ E o c) (h:a8L C n aa Q l (E.put o.dst c (E.ok t/\b=au)) σ) (hv:¬ E.ok t->E.un t:=by exact fun h=>h) (hb:E.f t = .val (.bool b):=by rfl)
 (hd:(match o.dst with | some d=>Nat.blt d n | none=>true)=true:=by rfl):H7 C n aa Q (o::l) E σ:=a4l hg ht hv hb hd hy (a2c h)
theorem qC {c:Operand} {x y:Code} (ht:b=true->qc C n 999 999 x Q E σ) (hf:b=false->qc C n 999 999 y Q E σ) (hv:E.valid c:=by first|exact tt|exact rfl) (hc:E.val C c = .val (.bool b):=by exact rfl):CWp C n (.cond c x y) Q E σ:=a5g hv hc (fun h=>a8j (ht h)) fun h=>a8j (hf h)
theorem qO {fn:Func} {c:Code} (hf:C.P.funcs[f]? = some fn) (h:qc C fn.ntmps 999 999 c (Fin C fn K) (Env.args args) σ) (hb:fn.body=some c:=by rfl) (hn:Nat.ble args.length fn.ntmps=true:=by rfl):b8 C f args σ K:=a70 hf hb hn (a8j h)
end
def fen (ro:Option Nat):Fence:={ Fence.wide with round:=ro}
def ndB (o:Oper):Bool:=match o.op with
 | .defer _=>false
 | _=>true
theorem d4k (h:ndB o=true) (c:Call):o.op≠.defer c:=fun e=>by
 unfold ndB at h;rw [e] at h;cases h
theorem d6n {ro:Option Nat} {next eh:Act->World->Prop} {Q Q':Exit->Act->World->Prop} (hd:ndB o=true) (hn:∀ a w,next a w->eh a w) (hq:∀ ch w,Q (.panic ch) a w->Q' (.panic ch) a w) (bD:¬ LetsOut Q) (h:o.wp P a w next Q):o.wpIn (fen ro) 0 P a w eh Q':=by
 refine ⟨fun _ _=>trivial,?_⟩;rw [Oper.semAt_eq _ _ _ (d4k hd)];unfold Oper.wp at h;generalize (execOp a.eval o).run P w=r at h;have nod:∀ {p:Prop},(fen ro).depth.isSome=true->p:=fun h=>by cases h
 cases r with
 | ok x w3 =>
  cases x<;>simp only [Oper.upon] at h<;>simp only [Oper.uponIn]
  case value v=>exact hn _ _ h
  case skip=>exact hn _ _ h
  case defer d=>exact hn _ _ h
  case enter f args =>
   refine ⟨nod,(callsIn_wide (n:=0)).2 (h.mono fun e w4 he=>?_)⟩;cases e with
   | returned v=>exact hn _ _ he
   | panicked ch=>exact hq _ _ he
   | outgrown=>exact absurd he bD
  case row r args =>
   refine ⟨nod,fun c cs _=>?_⟩;obtain ⟨v,w',r,s⟩:=h c cs;exact ⟨v,w',hn _ _ r,stepsIn_wide.2 s⟩
 | halt x w3 =>
  cases x<;>simp only [Oper.upon] at h<;>simp only [Oper.uponIn]
  exact hq _ _ h
theorem a6j {ro:Option Nat} {P:Program} {aa:Array Oper} {rest:List Oper} {Q Q':Exit->Act->World->Prop} (hn:∀ a w,Q .normal a w->wpListIn (fen ro) 0 P aa Q' rest a w) (hq:∀ a ch w,Q (.panic ch) a w->Q' (.panic ch) a w) (bD:¬ LetsOut Q):∀ (l:List Oper),l.all ndB=true->∀ (a:Act) (w:World),wpList P aa Q l a w->wpListIn (fen ro) 0 P aa Q' (l++rest) a w
 | [],_,a,w,h=>hn a w h
 | o::l,hd,a,w,h=>by
  rw [b6I,S7] at hd;unfold wpList at h;show wpListIn (fen ro) 0 P aa Q' (o::(l++rest)) a w;unfold wpListIn
  split
  ·rename_i hw;rw [n_1 hw] at h
   rcases h with h | ⟨_,h⟩
   ·exact d6n hd.1 (a6j hn hq bD l hd.2) (hq a) bD h
   ·exact absurd h bD
  ·rename_i hw;rw [n_0 hw] at h;exact ⟨fun _ _=>trivial,a6j hn hq bD l hd.2 _ _ h⟩
theorem b4d {Q:A8->Env->List b9->Prop}:¬ LetsOut (Q4 C n Q M w):=fun ⟨_,_,h⟩=>by
 obtain ⟨_,_,_,_,_,_,h⟩:=h;exact h
def a5M (C:Ctx) (n:Nat) (c:Code) (Q:A8->Env->List b9->Prop) (E:Env) (σ:List b9):Prop :=
 ∀ (ro:Option Nat) (M:A5) (w:World) (a:Act),Rel C M σ w->I8 M w n E a->c.wpIn (fen ro) 0 C.P (Q4 C n Q M w) a w
section
variable {Q:A8->Env->List b9->Prop} {σ:List b9}
theorem d1H {c c':Code} (e:c=c') (h:a5M C n c' Q E σ):a5M C n c Q E σ:=e ▸ h
theorem d0v (h:Q .normal E σ):a5M C n .skip Q E σ:=fun _ M w _ hr hf=>wpIn_skip ⟨E,σ,M,Ext.refl M w,hr,hf,h⟩
theorem c96 (h:Q (.exit id) E σ):a5M C n (.exit id) Q E σ:=fun _ M w _ hr hf=>wpIn_exit ⟨E,σ,M,Ext.refl M w,hr,hf,h⟩
theorem b8g {x y:Code} (h:a5M C n x (A8.next (a5M C n y Q) Q) E σ):a5M C n (.seq x y) Q E σ:=fun ro M w a hr hf=>by
 refine wpIn_seq (wpIn_mono (h ro M w a hr hf) fun e a' w' hl=>?_);obtain ⟨E',Y,M',h1,h2,h3,h4⟩:=hl;cases e with
 | normal=>exact wpIn_mono (h4 ro M' w' a' h2 h3) fun _ _ _=>Q4.later h1
 | _=>exact ⟨E',Y,M',h1,h2,h3,h4⟩
theorem c9j {c:Operand} {x y:Code} (hv:E.valid c) (hc:E.val C c = .val (.bool b)) (ht:b=true->a5M C n x Q E σ) (gN:b=false->a5M C n y Q E σ):a5M C n (.cond c x y) Q E σ:=fun ro M w a hr hf=>by
 have h1:RV M w (E.val C c) (a.eval c):=hf.eval hr hv;rw [hc] at h1;have h2:a.eval c = .bool b:=by generalize a.eval c=u at h1;cases h1;rfl
 exact wpIn_cond_split h2 (fun h=>ht h ro M w a hr hf) (fun h=>gN h ro M w a hr hf)
theorem a4Z {aa:Array Oper} (hd:aa.toList.all ndB=true) (h:H7 C n aa Q aa.toList E σ):a5M C n (.region id aa false) Q E σ:=fun ro M w a hr hf=>by
 refine wpIn_region_list ?_;have:=a6j (ro:=ro) (rest:=[]) (fun a w h=>h) (fun _ _ _ h=>h) b4d aa.toList hd a w (h M w a hr hf);rwa [a1d] at this
def a71 (C:Ctx) (k:Nat) (args:List CV) (σ:List b9) (K:Q9->List b9->Prop):Prop :=
 ∀ (M:A5) (w:World) (vs:Array Value) (p:Pl),Rel C M σ w->M.pl[k]? = some p->vs.size=args.length->(∀ (i:Nat) (c:CV),args[i]? = some c->RV M w c (vs.getD i undef)) ->
  YieldAt Fence.wide 0 C.P p.block vs w fun
   | .returned v,w'=>a03 C M w K v w'
   | .panicked ch,w'=>R8 C M w K ch w'
   | .outgrown,_=>False
theorem a71.mono {K':Q9->List b9->Prop} (hd:a71 C k args σ K) (h:∀ r σ,K r σ->K' r σ):a71 C k args σ K' :=
 fun M w vs p hr hp hn hx=>by
  obtain ⟨fn,tm,a,b,h1,h2⟩:=hd M w vs p hr hp hn hx;exact ⟨fn,tm,a,b,h1,h2.mono fun e w' he=>by
   cases e with
   | returned v=>exact a03.mono h he
   | panicked c=>exact R8.mono h he
   | outgrown=>exact he⟩
theorem b7d {id k:Nat} {aa:Array Oper} {pre post:List Oper} {o:Oper} {y:Operand} {xs:Array Operand} {ts:Array TypeId} {cargs:List CV} (hs:aa.toList=pre++o::post) (h1:pre.all ndB=true) (h2:post.all ndB=true) (hg:o.guard=none) (hd:(match o.dst with | some d=>d < n | none=>True)) (ho:o.op = .call { callee:=.value y,args:=xs,argTypes:=ts})
 (h:H7 C n aa (A8.next (fun E' Y=>E'.valid y/\E'.val C y = .yld k/\E'.valids xs.toList/\E'.vals C xs.toList=cargs/\a71 C k cargs Y fun r bH=>match r with
  | .ret c=>H7 C n aa Q post (E'.putO o.dst c .yes) bH
  | .pan c=>Q (.pan c) E' bH) Q) pre E σ):CWp C n (.region id aa false) Q E σ:=fun M w a hr hf=>by
 refine (wpIn_wide (n:=0)).1 (wpIn_region_list ?_);rw [hs];refine a6j (ro:=none) ?_ ?_ b4d pre h1 a w (h M w a hr hf)
 case refine_2=>exact fun _ _ _ h=>h
 intro a1 w1 hl;obtain ⟨E',Y,M',k1,k2,k3,hv,ey,ij,eas,hy⟩:=hl;have hfy:=k3.eval k2 hv;rw [ey] at hfy;generalize hcy:a1.eval y=fv at hfy;cases hfy with
 | @yld _ p hp =>
  have hx:∀ (i:Nat) (c:CV),cargs[i]? = some c->RV M' w1 c ((xs.map a1.eval).getD i undef):=fun i c hi=>by
   subst eas;rw [<- Env.vals_map,Q0,N0] at hi;obtain ⟨x,hx,rfl⟩:=hi;have aB:xs[i]? = some x:=sp_ hx;have hm:x∈xs:=b32 aB;rw [a0k,b8S,aB];exact k3.eval k2 (Env.valids_mem ij x (sp_ hm))
  obtain ⟨fn,tm,asg,body,aw,hround⟩:=hy M' w1 (xs.map a1.eval) p k2 hp (by subst eas;rw [<- Env.vals_map];simp) hx;have bz:(execOp a1.eval o).run C.P w1 = .ok (.round p.block fn tm asg body) w1:=by
   simp [execOp,ho,resolve,hcy,Deferred.ofValue,invoke,aw]
  unfold wpListIn;rw [n_1 (by simp [Region.wanted,hg])];refine ⟨fun _ _=>trivial,?_⟩;rw [Oper.semAt_eq _ _ _ (fun c e=>by rw [ho] at e;cases e),bz];refine ⟨fun h=>(by cases h),?_⟩;refine hround.mono fun e w2 he=>?_;cases e with
  | returned v =>
   obtain ⟨c,bH,gF,g1,g2,g3,g4⟩:=he;have gk:I8 gF w2 n (E'.putO o.dst c .yes) (a1.put o.dst v):=((k3.mono g1).put (fun t ht=>by rw [ht] at hd;exact hd) (fun _=>g3) fun hh=>absurd trivial hh).yes;have:=a6j (ro:=none) (rest:=[]) (Q':=Q4 C n Q M w) (fun a w h=>Q4.later (k1.trans g1) h) (fun _ _ _ h=>Q4.later (k1.trans g1) h) b4d post h2 _ w2 (g4 gF w2 _ g2 gk);rwa [a1d] at this
  | panicked ch =>
   obtain ⟨c,v,bH,gF,g0,g1,g2,g3,g4⟩:=he;exact ⟨E',bH,gF,k1.trans g1,g2,k3.mono g1,c,v,g0,g3,g4⟩
  | outgrown=>exact he.elim
theorem b2l {M:A5} {w:World} {n:Nat} {tmps:Array Value} (hs:tmps.size=n):∀ {l:List (Nat × CV)},(∀ x∈l,RV M w x.2 (tmps.getD x.1 undef))->I8 M w n (Env.only l) { tmps,defers:=[]}
 | [],_=>⟨rfl,hs,fun _ h=>h.elim,fun _ h=>h.elim⟩
 | (t,c)::l,h=>by
  have ih:=b2l hs (l:=l) fun x hx=>h x (a4r _ hx);refine ⟨rfl,hs,fun x hx=>?_,fun x hx=>?_⟩
  ·show RV M w (((Env.only l).putO (some t) c .yes).f x) _;have hx:((Env.only l).putO (some t) c .yes).ok x:=hx;rw [Env.putO_f];rw [Env.putO_ok] at hx
   split
   ·subst x;exact h (t,c) b7n
   ·rename_i aC;rw [n_0 aC] at hx;exact ih.rv x hx
  ·have hx:((Env.only l).putO (some t) c .yes).un x:=hx;rw [Env.putO_un] at hx;split at hx
   ·exact absurd trivial hx
   ·exact ih.un x hx
def c5K (o:Loop) (n:Nat) (cs:List (Nat × CV)) (k:Nat) (K:Q9->List b9->Prop) (e:A8) (σ:List b9):Prop :=
 σ[k]? = some (.lp { o with state:=.busy} n cs)/\match e with
  | .normal=>K (.ret (.val (.bool true))) (σ.set k (.lp { o with state:=.ready,pending:=none} n cs))
  | .ret=>K (.ret (.val (.bool false))) (σ.set k (.lp { o with state:=.done,pending:=some .ret} n cs))
  | .exit id=>K (.ret (.val (.bool false))) (σ.set k (.lp { o with state:=.done,pending:=some (.exit id)} n cs))
  | .goto t=>K (.ret (.val (.bool false))) (σ.set k (.lp { o with state:=.done,pending:=some (.goto t)} n cs))
  | .pan _=>False
theorem b3n (hr:Rel C M σ w) {p:Pl} {o o':Loop} {cs:List (Nat × CV)} (hk:M.pl[k]? = some p) (ao:σ[k]? = some (.lp o n cs)) :
 ∃ tmps,w.heap[p.block]? = some (.loop { o with tmps})/\tmps.size=n/\(∀ x∈cs,RV M w x.2 (tmps.getD x.1 undef))/\Ext M w M (World.putObj w p.block (.loop { o' with tmps}))/\Rel C M (σ.set k (.lp o' n cs)) (World.putObj w p.block (.loop { o' with tmps})):=by
 obtain ⟨⟨tm,e1,e2,e3⟩,f1,f2⟩:=hr.obj k p _ hk ao;have hx:=Ext.putObj (w:=w) (.loop { o' with tmps:=tm}) (hr.nk k p _ hk ao rfl) f1 f2;exact ⟨tm,e1,e2,e3,hx,hr.putObj hk ao rfl f1 f2 _ ⟨tm,World.putObj_same w _ (a1z.1 e1).1,e2,fun x aB=>(e3 x aB).mono hx⟩⟩
theorem c26 {t:Nat} {o:Loop} {cs:List (Nat × CV)} (ao:σ[k]? = some (.lp o n cs)) (hs:o.state = .ready) (hp:o.params = #[t]) (ht:Nat.blt t n=true)
 (h:a5M C n o.assign (fun e E' Y=>e = .normal/\Y[k]? = some (.lp o n cs)/\a5M C n o.body (fun e _ bH=>c5K o n cs k K e bH) E' (Y.set k (.lp { o with state:=.busy} n cs))) ((Env.only cs).putO (some t) c .yes) σ):a71 C k [c] σ K:=fun M w vs p hr hk aF hx=>by
 obtain ⟨tm,e1,e2,e3,-,-⟩:=b3n (o':=o) hr hk ao;obtain ⟨v,rfl⟩:∃ v,vs = #[v]:=by
  obtain ⟨l⟩:=vs
  match l,aF with
  | [v],_=>exact ⟨v,rfl⟩
 have hv:RV M w c v:=hx 0 c rfl;have hf0:=b2l (n:=n) e2 e3;have dA:I8 M w n ((Env.only cs).putO (some t) c .yes) (({ tmps:=tm,defers:=[]}:Act).put (some t) v):=(hf0.put (fun t' gj=>by injection gj with gj;subst gj;rw [a9G] at ht;exact ht) (fun _=>hv) fun hh=>absurd trivial hh).yes;have hy:=run_yield (P:=C.P) (args:=#[v]) e1 (by simp [hp]);refine ⟨_,_,_,_,hy,?_⟩;have etm:(({ o with tmps:=tm}:Loop).params.zip #[v]).foldl (fun tmps (t,a)=>tmps.setIfInBounds t a) tm=tm.setIfInBounds t v:=by
  show (o.params.zip #[v]).foldl _ tm=_;rw [hp];simp
 refine roundIn_of_wpIn trivial ?_;have hb:=h (some p.block) M w _ hr dA;refine wpIn_mono (F:=fen (some p.block)) (a:=({ tmps:=_,defers:=[]}:Act)) (by rw [etm];exact hb) fun e a1 w1 hl=>?_;obtain ⟨E',Y,M',g1,g2,g3,g4⟩:=hl;cases e with
 | normal =>
  obtain ⟨-,hσ',dz⟩:=g4;have aH:=g1.get hk;obtain ⟨tm1,q1,q2,q3,q4,q5⟩:=b3n (o':={ o with state:=.busy}) g2 aH hσ';refine ⟨_,run_beginRound q1 hs,?_⟩;refine wpIn_mono (dz (some p.block) M' _ a1 q5 (g3.mono q4)) fun e a2 w2 hl=>?_;obtain ⟨E'',bH,gF,k1,k2,k3,k4⟩:=hl;have hk'':=k1.get aH;have gh:∀ (jump:Option Code) (b:Bool),jump.isNone=b->bH[k]? = some (.lp { o with state:=.busy} n cs)->K (.ret (.val (.bool b))) (bH.set k (.lp { o with state:=if jump.isNone then .ready else .done,pending:=jump} n cs)) ->
   ∃ v w',(Instr.endRound p.block jump).run C.P w2 = .ok v w'/\a03 C M w K v w':=fun jump b hjb hs'' hk3=>by
   obtain ⟨tm2,r1,r2,r3,r4,r5⟩:=b3n (o':={ o with state:=if jump.isNone then .ready else .done,pending:=jump}) k2 hk'' hs'';refine ⟨_,_,run_endRound jump r1,?_⟩;rw [hjb] at *;exact ⟨_,_,gF,((g1.trans q4).trans k1).trans r4,r5,.val _,hk3⟩
  cases e with
  | normal=>exact gh none true rfl k4.1 k4.2
  | ret=>exact gh (some .ret) false rfl k4.1 k4.2
  | exit id=>exact gh (some (.exit id)) false rfl k4.1 k4.2
  | goto l=>exact gh (some (.goto l)) false rfl k4.1 k4.2
  | panic ch =>
   obtain ⟨_,_,_,_,h1,h2⟩:=k4;exact h2.elim
  | outgrown=>exact k4
 | exit id=>cases g4.1
 | goto l=>cases g4.1
 | ret=>cases g4.1
 | panic ch =>
  obtain ⟨_,_,_,_,h1,h2⟩:=g4;cases h1
 | outgrown=>exact g4
theorem c6z {c:Code} (h:a5M C n c (A8.blk id Q) E σ):a5M C n (.block id c) Q E σ:=fun ro M w a hr hf=>by
 refine wpIn_block (wpIn_mono (h ro M w a hr hf) fun e a' w' hl=>?_);obtain ⟨E',Y,M',h1,h2,h3,h4⟩:=hl;cases e with
 | exit id' =>
  simp only [Exit.inBlock];simp only [A8.blk] at h4
  split<;>rename_i gO
  ·rw [n_1 gO] at h4;exact ⟨E',Y,M',h1,h2,h3,h4⟩
  ·rw [n_0 gO] at h4;exact ⟨E',Y,M',h1,h2,h3,h4⟩
 | _=>exact ⟨E',Y,M',h1,h2,h3,h4⟩
def b7S (p:Pl):List Deferred:=[{ target:=.collected p.block,args:=#[]}]
def b7s (kD:Nat) (C:Ctx) (n:Nat) (Q:A8->Env->List b9->Prop) (M:A5) (w:World) (e:Exit) (a':Act) (w':World):Prop :=
 ∃ E' Y M' p a0,M'.pl[kD]? = some p/\a'=addDs (b7S p) a0/\Ext M w M' w'/\Rel C M' Y w'/\I8 M' w' n E' a0/\match e with
  | .normal=>Q .normal E' Y
  | .exit id=>Q (.exit id) E' Y
  | .ret=>Q .ret E' Y
  | _=>False
theorem b7s.later {M1:A5} {w1:World} (he:Ext M w M1 w1) {e:Exit} {w':World} (hl:b7s kD C n Q M1 w1 e a w'):b7s kD C n Q M w e a w':=by
 obtain ⟨E',Y,M',p,a0,h1,h2,h3,h4⟩:=hl;exact ⟨E',Y,M',p,a0,h1,h2,he.trans h3,h4⟩
def a65 (kD:Nat) (C:Ctx) (n:Nat) (c:Code) (Q:A8->Env->List b9->Prop) (E:Env) (σ:List b9):Prop :=
 ∀ (M:A5) (w:World) (a:Act),Rel C M σ w->I8 M w n E a->c.wpIn Fence.wide 0 C.P (b7s kD C n Q M w) a w
theorem b0e {x y:Code} (h:CWp C n x (fun e E σ=>e = .normal/\a65 kD C n y Q E σ) E σ):a65 kD C n (.seq x y) Q E σ:=fun M w a hr hf=>by
 refine wpIn_seq (wpIn_mono (wpIn_wide.2 (h M w a hr hf)) fun e a' w' hl=>?_);obtain ⟨E',Y,M',h1,h2,h3,h4⟩:=hl;cases e with
 | normal=>exact wpIn_mono (h4.2 M' w' a' h2 h3) fun _ _ _=>b7s.later h1
 | exit id=>cases h4.1
 | goto l=>cases h4.1
 | ret=>cases h4.1
 | panic ch =>
  obtain ⟨_,_,_,_,h,_⟩:=h4;cases h
 | outgrown=>exact h4.elim
theorem d0o {kD:Nat} {x y:Code} (h:a65 kD C n x (fun e E σ=>e = .normal/\∀ ds,a4e ds C n y (fun e E σ=>match e with
 | .normal=>Q .normal E σ
 | .ret=>Q .ret E σ
 | _=>False) E σ) E σ):a65 kD C n (.seq x y) Q E σ:=fun M w a hr hf=>by
 refine wpIn_seq (wpIn_mono (h M w a hr hf) fun e a' w' hl=>?_);obtain ⟨E',Y,M',p,a0,hp,rfl,h1,h2,h3,h4⟩:=hl;cases e with
 | normal =>
  refine wpIn_mono (wpIn_wide.2 (h4.2 (b7S p) M' w' a0 h2 h3)) fun e a1 w1 hl=>?_;obtain ⟨a2,rfl,E2,σ2,M2,k1,k2,k3,k4⟩:=hl;refine ⟨E2,σ2,M2,p,a2,k1.get hp,rfl,h1.trans k1,k2,k3,?_⟩;cases e with
  | normal=>exact k4
  | ret=>exact k4
  | exit id=>exact k4.elim
  | goto l=>exact k4.elim
  | panic ch =>
   obtain ⟨_,_,_,_,h⟩:=k4;exact h.elim
  | outgrown=>exact k4.elim
 | exit id=>cases h4.1
 | ret=>cases h4.1
 | goto l=>exact h4.elim
 | panic ch=>exact h4.elim
 | outgrown=>exact h4.elim
theorem c84 {c:Code} (h:a65 kD C n c (A8.blk id Q) E σ):a65 kD C n (.block id c) Q E σ:=fun M w a hr hf=>by
 refine wpIn_block (wpIn_mono (h M w a hr hf) fun e a' w' hl=>?_);obtain ⟨E',Y,M',p,a0,hp,h0,h1,h2,h3,h4⟩:=hl;cases e with
 | exit id' =>
  simp only [Exit.inBlock];simp only [A8.blk] at h4
  split<;>rename_i gO
  ·rw [n_1 gO] at h4;exact ⟨E',Y,M',p,a0,hp,h0,h1,h2,h3,h4⟩
  ·rw [n_0 gO] at h4;exact ⟨E',Y,M',p,a0,hp,h0,h1,h2,h3,h4⟩
 | _=>exact ⟨E',Y,M',p,a0,hp,h0,h1,h2,h3,h4⟩
theorem c8C {g:Operand} {ps:Array Nat} {asg body:Code} {gf:FuncId} {ax:List CV} {cs:List (Nat × CV)} (hv:E.valid g) (eg:E.val C g = .clo gf ax) (aA:∀ args w,(callFunc gf args).run C.P w = .ok (.enter gf args) w) (hcs:E.is cs)
 (h:∀ o:Loop,o.state = .ready->o.pending=none->o.params=ps->o.assign=asg->o.body=body->b8 C gf (.yld (σ.length+1)::ax) (σ++[.blk (.deferred (some [])),.lp o n cs]) fun r τ=>(∃ c,r = .ret c)/\∃ o':Loop,τ[σ.length+1]? = some (.lp o' n cs)/\o'.state≠.busy/\match o'.pending with
  | none=>Q .normal E (τ.set (σ.length+1) (.lp { o' with state:=.exhausted} n cs))
  | some .ret=>Q .ret E (τ.set (σ.length+1) (.lp { o' with state:=.exhausted} n cs))
  | some (.exit id)=>Q (.exit id) E (τ.set (σ.length+1) (.lp { o' with state:=.exhausted} n cs))
  | _=>False):a65 σ.length C n (.rangeFunc g ps asg body) Q E σ:=fun M w a hr hf=>by
 have hg:=hf.eval hr hv;rw [eg] at hg;generalize hgv:a.eval g=fv at hg;cases hg with
 | @clo _ _ vs aF ij =>
 refine wpIn_rangeFunc fun fn cy=>?_
 let o:Loop:={ state:=.ready,pending:=none,fn,tmps:=a.tmps,params:=ps,assign:=asg,body,defers:=w.heap.size}
 have x1:=Ext.alloc hr ⟨w.heap.size,0,0⟩ (.deferred (some []));have r1:=hr.alloc ⟨w.heap.size,0,0⟩ (.deferred (some [])) (.blk (.deferred (some []))) rfl (A4 _ _);have x2:=Ext.alloc r1 ⟨w.heap.size+1,0,0⟩ (.loop o);have hcsr:∀ {l:List (Nat × CV)},E.is l->∀ x∈l,RV M w x.2 (a.tmps.getD x.1 undef):=fun {l}=>by
  induction l with
  | nil=>intro _ x hx;cases hx
  | cons y l ih =>
   obtain ⟨t,c⟩:=y;intro ⟨⟨g1,g2⟩,g3⟩ x hx
   rcases P0.1 hx with rfl | hx
   ·exact g2 ▸ hf.rv t g1
   ·exact ih g3 x hx
 have r2:=r1.alloc ⟨w.heap.size+1,0,0⟩ (.loop o) (.lp o n cs) (by rw [b7g]) ⟨a.tmps,by
  have:=A4 (w.alloc (.deferred (some []))) (.loop o);rw [b7g] at this;exact this,hf.size,fun x hx=>((hcsr hcs x hx).mono x1).mono x2⟩
 have aT:((M.add ⟨w.heap.size,0,0⟩).add ⟨w.heap.size+1,0,0⟩).pl[σ.length+1]? = some ⟨w.heap.size+1,0,0⟩:=by
  simp [A5.add,hr.len]
 have hpd:((M.add ⟨w.heap.size,0,0⟩).add ⟨w.heap.size+1,0,0⟩).pl[σ.length]? = some ⟨w.heap.size,0,0⟩:=by
  simp [A5.add,hr.len]
 have hc:=h o rfl rfl rfl rfl rfl ((M.add ⟨w.heap.size,0,0⟩).add ⟨w.heap.size+1,0,0⟩) ((w.alloc (.deferred (some []))).alloc (.loop o)) (#[.func (.yield (w.heap.size+1)) #[] #[]]++vs) (by rw [F7] at r2;exact r2) (by simp [aF];omega) fun i c hi=>by
  rcases i with _ | i
  ·simp at hi;subst hi;have e0:(#[Value.func (.yield (w.heap.size+1)) #[] #[]]++vs).getD 0 undef = .func (.yield (w.heap.size+1)) #[] #[]:=by
    rw [a0k,b8M];simp
   rw [e0];exact .yld (p:=⟨w.heap.size+1,0,0⟩) aT
  ·have aY:ax[i]? = some c:=sp_ hi;have:=((ij i c aY).mono x1).mono x2;simp only [a0k,b8M] at this ⊢;simpa using this
 refine ⟨w.heap.size+1,b7S ⟨w.heap.size,0,0⟩,(w.alloc (.deferred (some []))).alloc (.loop o),{ target:=.fn (.func gf) vs,args:=#[.func (.yield (w.heap.size+1)) #[] #[]]},(w.alloc (.deferred (some []))).alloc (.loop o),gf,#[.func (.yield (w.heap.size+1)) #[] #[]]++vs,(w.alloc (.deferred (some []))).alloc (.loop o),run_enterLoop_outer _ _ _ _ _,?_,?_,?_,?_,?_⟩
 ·simp [resolve,hgv,Deferred.ofValue];rfl
 ·exact fun _ _=>trivial
 ·simp [invoke,aA]
 ·exact fun h=>by cases h
 ·refine (callsIn_wide (n:=0)).2 (hc.mono fun e w3 he=>?_);have ha:({ a with defers:=b7S ⟨w.heap.size,0,0⟩++a.defers}:Act)=addDs (b7S ⟨w.heap.size,0,0⟩) a:=by simp [addDs,hf.defers]
  rw [ha];cases e with
  | returned v =>
   obtain ⟨c,τ,M3,k1,k2,k3,-,o',g1,g2,g3⟩:=he;obtain ⟨tm,q1,q2,q3,q4,q5⟩:=b3n (o':={ o' with state:=.exhausted}) k2 (k1.get aT) g1;have hx:=((x1.trans x2).trans k1).trans q4;refine ⟨o'.pending,_,run_endLoop (r:={ o' with tmps:=tm}) q1 g2,?_⟩;have hf3:=hf.mono hx;have hp3:=(k1.trans q4).get hpd;generalize o'.pending=pe at g3 hx q5 hf3 ⊢;cases pe with
   | none=>exact ⟨E,_,M3,_,a,hp3,rfl,hx,q5,hf3,g3⟩
   | some cd =>
    cases cd with
    | ret=>exact wpIn_ret ⟨E,_,M3,_,a,hp3,rfl,hx,q5,hf3,g3⟩
    | exit id=>exact wpIn_exit ⟨E,_,M3,_,a,hp3,rfl,hx,q5,hf3,g3⟩
    | _=>exact g3.elim
  | panicked ch =>
   obtain ⟨c,v,τ,M3,h0,k1,k2,k3,⟨⟨_,h⟩,_⟩⟩:=he;cases h
  | outgrown=>exact he.elim
theorem b8o {fn:Func} {c:Code} (hf:C.P.funcs[f]? = some fn) (hb:fn.body=some c) (hn:Nat.ble args.length fn.ntmps=true)
 (h:a65 kD C fn.ntmps c (fun e E' Y=>match e with
  | .normal | .ret=>Y[kD]? = some (.blk (.deferred (some [])))/\∃ c,U4 C E' (Y.set kD (.blk (.deferred none))) fn c/\K (.ret c) (Y.set kD (.blk (.deferred none)))
  | _=>False) (Env.args args) σ):b8 C f args σ K:=fun M w vs hr aF hx=>by
 refine (callsIn_wide (n:=0)).1 (callsIn_of_wp_marks hf hb trivial (wpIn_mono (h M w _ hr (a7W (nb hn) aF hx)) fun e a w' hl=>?_) rfl);obtain ⟨E',Y,M',p,a0,hp,rfl,h1,h2,h3,h4⟩:=hl;have gh:∀ {c:CV},Y[kD]? = some (.blk (.deferred (some [])))->U4 C E' (Y.set kD (.blk (.deferred none))) fn c->K (.ret c) (Y.set kD (.blk (.deferred none)))->LeavesInM Fence.wide 0 C.P fn a0.tmps (fun
  | .returned v,w'=>a03 C M w K v w'
  | .panicked ch,w'=>R8 C M w K ch w'
  | .outgrown,_=>False) (addDs (b7S p) a0).defers .returning w':=fun {c} hd hc hk=>by
  have cg:(addDs (b7S p) a0).defers=b7S p:=by simp [addDs,h3.defers]
  rw [cg];obtain ⟨e1,f1,f2⟩:=h2.obj kD p _ hp hd;have x1:=Ext.putObj (w:=w') (.deferred none) (h2.nk kD p _ hp hd rfl) f1 f2;have r1:=h2.putObj hp hd rfl f1 f2 (.deferred none) (ob:=.blk (.deferred none)) (World.putObj_same w' _ (a1z.1 e1).1);obtain ⟨v,dC,ci⟩:=hc M' _ a0 r1 fun t ht=>(h3.rv t ht).mono x1;refine ⟨si_,.inl ⟨_,_,rfl,run_takeDeferred e1,?_⟩⟩;exact ⟨v,dC,c,_,M',h1.trans x1,r1,ci,hk⟩
 cases e with
 | normal=>obtain ⟨hd,c,hc,hk⟩:=h4;exact gh hd hc hk
 | ret=>obtain ⟨hd,c,hc,hk⟩:=h4;exact gh hd hc hk
 | exit id=>exact h4.elim
 | goto l=>exact h4.elim
 | panic ch=>exact h4.elim
 | outgrown=>exact h4.elim
end
section
variable {Q:A8->Env->List b9->Prop} {σ:List b9} {ds:List Deferred}
theorem c3O {c:Code} (h:a4e ds C n c (A8.blk id Q) E σ):a4e ds C n (.block id c) Q E σ:=fun M w a hr hf=>by
 refine wp_block (wp_mono (h M w a hr hf) fun e a' w' hl=>?_);obtain ⟨a0,rfl,E',Y,M',h1,h2,h3,h4⟩:=hl;cases e with
 | exit id' =>
  simp only [Exit.inBlock];simp only [A8.blk] at h4
  split<;>rename_i gO
  ·rw [n_1 gO] at h4;exact ⟨a0,rfl,E',Y,M',h1,h2,h3,h4⟩
  ·rw [n_0 gO] at h4;exact ⟨a0,rfl,E',Y,M',h1,h2,h3,h4⟩
 | _=>exact ⟨a0,rfl,E',Y,M',h1,h2,h3,h4⟩
theorem c6f {c:Code} {l:List (Nat × CV)} (hE:E.is l) (h:a4e ds C n c Q (E.puts l) σ):a4e ds C n c Q E σ:=fun M w a hr hf=>h M w a hr (hf.puts hE)
theorem d6b {next eh:Act->World->Prop} {Q Q':Exit->Act->World->Prop} (hn:∀ a w,next a w->eh (addDs ds a) w) (hq:∀ e a w,Q e a w->Q' e (addDs ds a) w) (h:o.wp P a w next Q):o.wp P (addDs ds a) w eh Q':=by
 unfold Oper.wp at h ⊢;change o.upon P (addDs ds a) _ _ ((execOp a.eval o).run P w);generalize (execOp a.eval o).run P w=r at h;cases r with
 | ok x w3 =>
  cases x<;>simp only [Oper.upon] at h ⊢
  case value v=>rw [R9];exact hn _ _ h
  case skip=>rw [R9];exact hn _ _ h
  case defer d=>rw [a8m];exact hn _ _ h
  case enter f args =>
   refine h.mono fun e w4 he=>?_;cases e with
   | returned v=>show eh ((addDs ds a).put o.dst v) w4;rw [R9];exact hn _ _ he
   | panicked ch=>exact hq _ _ _ he
   | outgrown=>obtain ⟨a0,w0,h⟩:=he;exact ⟨_,w0,hq _ a0 w0 h⟩
  case row r args=>exact Rows.mono h fun _ _ he=>by rw [R9];exact hn _ _ he
 | halt x w3 =>
  cases x<;>simp only [Oper.upon] at h ⊢
  exact hq _ _ _ h
theorem b36 {P:Program} {md:Region.Mode} {aa:Array Oper} {Q Q':Exit->Act->World->Prop} (hq:∀ e a w,Q e a w->Q' e (addDs ds a) w):∀ (fuel:Nat) (fQ:Array Bool) (a:Act) (w:World),wpAny P md aa Q fuel fQ a w->wpAny P md aa Q' fuel fQ (addDs ds a) w
 | 0,_,a,w,h=>⟨h.1,hq _ _ _ h.2⟩
 | fuel+1,fQ,a,w,h=>by
  refine ⟨fun hr=>hq _ _ _ (h.1 hr),fun i hi=>?_⟩;have hh:=h.2 i hi;unfold wpOp at hh ⊢
  split
  ·rename_i ho;rw [ho] at hh;exact b36 hq fuel _ _ _ hh
  ·rename_i o ho;rw [ho] at hh;dsimp only at hh;change if Region.wanted o (yielded aa a.tmps)=true then _ else _
   split
   ·rename_i hw;rw [n_1 hw] at hh;exact hh.imp (d6b (fun _ _=>b36 hq fuel _ _ _) hq) fun ⟨h1,a0,w0,h2⟩=>⟨h1,_,w0,hq _ a0 w0 h2⟩
   ·rename_i hw;rw [n_0 hw] at hh;rw [R9];exact b36 hq fuel _ _ _ hh
theorem c2T {aa:Array Oper} (qs ms hd:List Nat) {tl:List (Nat × List Nat)} (hm:C.P.follows .mixedOrders=true) (hB:b0j aa qs ms hd tl=true) (bR:(aa.toList.all fun o=>match o.dst with | some d=>Nat.blt d n | none=>true)=true)
 (h:a1E C σ aa (fun E' S=>S6 C aa qs Q S tl E' σ) hd E []):a4e ds C n (.region id aa true) Q E σ:=fun M w a hr hf=>wp_region_any hm (b36 (fun _ a0 _ h=>⟨a0,rfl,h⟩) _ _ _ _ (b2k qs ms hd hB bR h hr hf))
theorem c5Q {c:Code} (h:a65 kD C n c Q E σ):a65 kD C n (.scope c) Q E σ:=fun M w a hr hf =>
 (wpIn_wide (n:=0)).2 (wp_scope_straight (wp_mono ((wpIn_wide (n:=0)).1 (h M w a hr hf)) fun e a' w' hl=>by
  cases e with
  | goto l=>obtain ⟨_,_,_,_,_,_,_,_,_,_,h⟩:=hl;exact h.elim
  | _=>exact hl))
theorem d0A {c:Code} (h:∀ E0,E=E0->a65 kD C n c Q E0 σ):a65 kD C n c Q E σ:=h E rfl
theorem d0P {kD:Nat} {x y:Code} (R:Env->List b9->Prop) (h:a65 kD C n x (fun e E σ=>e = .normal/\R E σ) E σ) (k:∀ E σ,R E σ->∀ ds,a4e ds C n y (fun e E σ=>match e with
 | .normal=>Q .normal E σ
 | .ret=>Q .ret E σ
 | _=>False) E σ):a65 kD C n (.seq x y) Q E σ :=
 d0o fun M w a hr hf=>wpIn_mono (h M w a hr hf) fun e a' w' hl=>by
  obtain ⟨E',Y,M',p,a0,hp,h0,h1,h2,h3,h4⟩:=hl;refine ⟨E',Y,M',p,a0,hp,h0,h1,h2,h3,?_⟩;cases e with
  | normal=>exact ⟨h4.1,k _ _ h4.2⟩
  | exit id=>cases h4.1
  | ret=>cases h4.1
  | goto l=>exact h4
  | panic ch=>exact h4
  | outgrown=>exact h4
end
section
variable {σ:List b9}
theorem c1e {v:Value} (ho:o.op = .buildSlice t 1 #[(0,x)]) (hx:E.valid x) (ex:E.val C x = .val v) (hv:v.oneCell'=true) (hu:∀ w,(underlying t).run C.P w = .ok (.slice e) w) (hs:∀ w,(sizeOf e).run C.P w = .ok 1 w) (hz:∀ w,(zeroValue e).run C.P w = .ok z w) (bY:z.oneCell'=true)
 (hk:K (.ret (.vec σ.length 0 1)) (σ++[.vec 1 [[.val v]]])):H4 C σ E o K:=fun M w ρ hr hh=>by
 have h1:=r6 (ex ▸ hh x w9 hx);have hvc:v.cells = #[v]:=by cases v<;>first|rfl | simp [Value.oneCell'] at hv
 have hzc:z.cells = #[z]:=by cases z<;>first|rfl | simp [Value.oneCell'] at bY
 have aw:(execOp ρ o).run C.P w = .ok (.value (.slice (some ⟨w.heap.size,0,none⟩) 1 1)) (w.alloc (.cells #[v] e)):=by
  have er:Array.range 1 = #[0]:=rfl;simp only [execOp,ho,Instr.buildSlice,Sem.run_bind,hu,Result.andThen_ok,hs];simp [er,Instr.fill,newRow,h1,hvc,hz]
 rw [aw];have aK:=Ext.alloc hr ⟨w.heap.size,1,1⟩ (.cells #[v] e);have bm:=hr.alloc ⟨w.heap.size,1,1⟩ (.cells #[v] e) (.vec 1 [[.val v]]) rfl ⟨rfl,n_6 _,by unfold maxLen;simp,fun r hr=>by simp at hr;subst hr;rfl,fun r hr c hc=>by simp at hr;subst hr;simp at hc;subst hc;exact hv,#[v],e,A4 _ _,rfl,fun i j r c hi hj=>by
  rcases i with _ | i
  ·injection hi with hi
   subst hi
   rcases j with _ | j
   ·injection hj with hj
    subst hj;exact .val _
   ·simp at hj
  ·simp at hi⟩
 refine ⟨_,_,_,aK,bm,?_,hk⟩;have hp:(M.add ⟨w.heap.size,1,1⟩).pl[σ.length]? = some ⟨w.heap.size,1,1⟩:=by simp [A5.add,<- hr.len]
 have:=RV.vec (w:=w.alloc (.cells #[v] e)) (off:=0) (len:=1) (a:=⟨w.heap.size,0,none⟩) hp (n_6 _) (by unfold maxLen;simp) (fun _=>by simp);simpa using this
end
end Go.Cl
namespace Go.Proofs
open Go.Shelf Go.Sort
theorem b4C {P:Program} {ρ:Ren} (Ly:Lays.n190 P ρ) (blk off cap:Nat) (ss:List (List UInt8)) (w:World) (hH:Holds encStr w blk off ss.toArray) (hb:blk < w.heap.size) (hn:ss.length < 4611686018427387904) :
 Calls P (ρ.f 190) #[.slice (some ⟨blk,off,none⟩) ss.length cap] w fun e w'=>e = .returned (.tuple #[])/\∃ n os,w'=grow (putRow encStr (Sort.ahead w n) blk off (ss.mergeSort fun x y=>decide (x<=y)).toArray) os :=
 calls_of_every_depth fun D=>by
  have parts:Any.Callees13sIn P ρ D:={
   heap:=AnyS.heapSort_stringIn { Ly with} D,rev:=AnyS.reverseRange_stringIn { Ly with} D,ins:=AnyS.insertionSort_strIn { Ly with} D,brk:=AnyS.breakPatterns_strIn { Ly with} D,
   piv:=AnyS.choosePivot_strIn { Ly with} D,par:=AnyS.partialInsertionSort_strIn { Ly with} D,peq:=AnyS.partitionEqualOrdered_stringIn { Ly with} D,prt:=AnyS.partitionOrdered_stringIn { Ly with} D}
  have laws:Plain13s:={ swo:=swo_ltStr,ins:=insertionSort_holds,par:=partialInsertionSort_holds,prt:=partition_holds _,peq:=partitionEqual_holds _,pdq:=pdq_sorts _};have quick:Any.pdqWalkIn_str P ρ D:=fun rm b' o' c' x y lim d w' h1 h2 h3 h4 h5 h6 h7 h8=>AnyS.pdqsort_stringIn { Ly with} D parts laws (y - x+1) rm b' o' c' x y lim d w' om_ h1 h2 h3 h4 h5 h6 h7 h8;have lens:Any.lenWalkInS P ρ D:=fun n w' h=>by
   have h1:=AnyS.bits_LenInS { Ly with} D (n:Int) w' om_ om_;rwa [a1Z,bitLen_eq _ om_] at h1
  have h:=AnyS.Sort_strIn { Ly with} D quick lens blk off cap ss.toArray w hH hb (sp_ hn);rw [<- sortStr ss];simpa using h
end Go.Proofs
namespace Go.Cl
open Go.Sort Go.Proofs
def a0F (ss:List Str):List Str:=ss.mergeSort fun x y=>decide (x<=y)
theorem d0t {w:World} {b:Nat} {ak:Array Value} {ty:TypeId} {fr:Nat × Nat} {d:Array (List UInt8)} (h:w.heap[b]? = some (.cells ak ty fr)):putRow encStr w b 0 d=World.putObj w b (.cells (putCells encStr 0 d ak) ty fr):=by
 have hb:b < w.heap.size:=(a1z.1 h).1;have hg:w.heap[b] = .cells ak ty fr:=(a1z.1 h).2;unfold putRow mapBlock World.putObj
 congr 1
 apply b79;intro i;rw [b2W,Array.getElem?_setIfInBounds];by_cases hi:b=i
 ·subst hi;simp [hb,hg,onCells]
 ·simp [hi]
theorem d1l {d:Array (List UInt8)} {ak:Array Value} {i:Nat} (hi:i < d.size) (ha:i < ak.size):(putCells encStr 0 d ak).getD i undef=encStr d[i]:=by
 unfold putCells;rw [a0k,Array.getElem?_mapIdx,a1r ha];simp [hi]
theorem c7p {C:Ctx} {f:FuncId} (aA:∀ (blk off cap:Nat) (ss:List (List UInt8)) (w:World),Holds encStr w blk off ss.toArray->blk < w.heap.size->ss.length < 4611686018427387904 ->
 Calls C.P f #[.slice (some ⟨blk,off,none⟩) ss.length cap] w fun e w'=>e = .returned (.tuple #[])/\∃ n os,w'=grow (putRow encStr (Sort.ahead w n) blk off (ss.mergeSort fun x y=>decide (x<=y)).toArray) os)
 {σ:List b9} {k:Nat} {ss:List Str} (aC:ss≠[]) (aj:ss.length < 4611686018427387904) (hk:σ[k]? = some (.vec 1 (ss.map fun s=>[sv s]))):b8 C f [.vec k 0 ss.length] σ fun r τ=>r = .ret (.tup [])/\τ=σ.set k (.vec 1 ((a0F ss).map fun s=>[sv s])):=fun M w vs hr hn hx=>by
 have hl:0 < ss.length:=b1w.2 aC;have h0:=hx 0 _ rfl;have hs:vs.size=1:=hn;obtain ⟨v,rfl⟩:∃ v,vs = #[v]:=⟨vs[0]'om_,Array.ext (by simp [hs]) fun i h1 h2=>by
  have:i=0:=by omega
  subst this;simp⟩
 have h0:RV M w (.vec k 0 ss.length) v:=h0;cases h0 with
 | vec hp g1 g2 g3 =>
  rename_i p a;obtain ⟨⟨e0,e1,e2,e3,e4,ak,ty,e5,e6,e7⟩,hf,cr⟩:=hr.obj k p _ hp hk;rw [a0W] at e1;rw [e0,b9y] at e6;have ha:=g3 om_;rw [Nat.zero_mul] at ha;subst ha;have hb:p.block < w.heap.size:=(a1z.1 e5).1;have aq:∀ j (hj:j < ss.length),ak.getD j undef=encStr ss[j]:=fun j hj=>by
   have h1:(ss.map fun s=>[sv s])[j]? = some [sv ss[j]]:=by rw [Q0,a1u hj];rfl
   have:=r6 (e7 j 0 _ _ h1 rfl);rw [e0,b9y,a7l] at this;exact this
  have hH:Holds encStr w p.block 0 ss.toArray:=fun j hj=>by
   have fa:j < ss.length:=sp_ hj;have hja:j < ak.size:=by omega
   refine ⟨?_,by simp [World.frozen?,e5]⟩;have:=aq j fa;rw [a0k,a1r hja] at this;simp only [a8H] at this;rw [K9,getElem!_pos _ _ (sp_ fa)];simp [World.cell?,e5,hja,this]
  refine (aA p.block 0 (p.cap - 0) ss w hH hb aj).mono fun e w' ⟨he,n,os,hw⟩=>?_;subst he hw;obtain ⟨bc,aI⟩:=b0i hr n #[];have ew:grow (w.drewN n) #[]=Sort.ahead w n:=by simp [grow,World.drewN,Sort.ahead]
  rw [ew] at bc aI;have e5':(Sort.ahead w n).heap[p.block]? = some (.cells ak ty (0,0)):=e5;rw [d0t e5'];have hperm:(a0F ss).length=ss.length:=List.length_mergeSort _;have hd:((a0F ss).toArray).size=ss.length:=by simp [hperm]
  have fH:(putCells encStr 0 (a0F ss).toArray ak).size=ak.size:=by simp [putCells]
  have aK:=Ext.putObj (w:=Sort.ahead w n) (.cells (putCells encStr 0 (a0F ss).toArray ak) ty (0,0)) (aI.nk k p _ hp hk rfl) hf cr;have bm:=aI.putObj (ob:=.vec 1 ((a0F ss).map fun s=>[sv s])) hp hk rfl hf cr (.cells (putCells encStr 0 (a0F ss).toArray ak) ty (0,0)) ⟨e0,by rw [a0W,hperm];exact e1,e2,fun r hr=>by
   obtain ⟨s,_,rfl⟩:=I9.1 hr;rw [e0];rfl,fun r hr c hc=>by
   obtain ⟨s,_,rfl⟩:=I9.1 hr;simp at hc;subst hc;rfl,_,ty,World.putObj_same _ _ (by exact hb),by rw [fH,e0,b9y];exact e6,fun i j r c hi hj=>by
   rw [Q0,N0] at hi;obtain ⟨s,aQ,rfl⟩:=hi
   rcases j with _ | j
   ·injection hj with hj
    subst hj;have bh:=(n_3.1 aQ).1;rw [e0,b9y,a7l,d1l (sp_ bh) om_];have:(a0F ss)[i]=s:=(n_3.1 aQ).2;simp only [List.getElem_toArray,this];exact .val _
   ·cases hj⟩
  obtain ⟨gv,fx⟩:=b0i bm 0 os;have ew2:∀ u:World,u.drewN 0=u:=fun u=>rfl;rw [ew2] at gv fx;exact ⟨_,_,_,(bc.trans aK).trans gv,fx,.tup rfl (fun i c h=>by simp at h),rfl,rfl⟩
end Go.Cl
namespace Go.Cl
variable {l:List Oper} {o:Oper} {c:CV} {xs:Array Operand} {ts:Array TypeId} {cargs:List CV} {f:FuncId}
section
variable {C:Ctx} {E:Env} {σ:List b9}
def c1t (C:Ctx) (c:CV) (cargs:List CV) (σ:List b9) (r:CV):Prop :=
 (∃ f,c = .val (.func (.func f) #[] #[])/\(∀ args w,(callFunc f args).run C.P w = .ok (.enter f args) w)/\b8 C f cargs σ fun r' Y=>r' = .ret r/\Y=σ) \/
 ∃ f ax,c = .clo f ax/\(∀ args w,(callFunc f args).run C.P w = .ok (.enter f args) w)/\b8 C f (cargs++ax) σ fun r' Y=>r' = .ret r/\Y=σ
theorem c2X {cx:Operand} {r:CV} (ho:o.op = .call { callee:=.value cx,args:=xs,argTypes:=ts}) (hc:E.valid cx) (ec:E.val C cx=c) (hv:E.valids xs.toList) (h:c1t C c cargs σ r) (ea:E.vals C xs.toList=cargs):l9 C σ E o r:=by
 rcases h with ⟨f,h1,h2,h3⟩ | ⟨f,ax,h1,h2,h3⟩
 ·exact c92 ho hc (ec.trans h1) h2 (Env.valids_mem hv) (Env.vals_map _) (ea ▸ h3)
 ·exact b2x ho hc (ec.trans h1) h2 hv h3 ea
end
section
variable {C:Ctx} {n:Nat} {Q:A8->Env->List b9->Prop} {E:Env} {σ:List b9}
theorem d0b {t e:TypeId} {len s:Nat} {parts:Array (Nat × Operand)} {z:Value} {ps:List (Nat × CV)} {V:List (List CV)} (ho:o.op = .buildSlice t len parts) (hv:E.valids (parts.toList.map (·.2)))
 (hu:∀ w,(underlying t).run C.P w = .ok (.slice e) w) (hs:∀ w,(sizeOf e).run C.P w = .ok s w) (hz:∀ w,(zeroValue e).run C.P w = .ok z w) (bY:M5 z=true) (dB:(I2 z).one=true\/∃ cs,I2 z = .agg cs) (gu:(I2 z).cells.length=s) (fp:0 < s)
 (aj:len*s<=2^24) (ep:parts.toList.map (fun x=>(x.1,E.val C x.2))=ps) (aP:∀ x∈ps,x.2.one=true\/∃ cs,x.2 = .agg cs)
 (bD:a4E (fun i=>some (i*s,s)) ((List.range (len*s)).map fun i=>(I2 z).cells.getD (i%s) default) ps=some V.flatten)
 {M:A5} {w:World} {ρ:Operand->Value} (h:∀ x∈o.op.operands,E.valid x->RV M w (E.val C x) (ρ x)) :
 ∃ r:Array Value,(execOp ρ o).run C.P w = .ok (.value (.slice (some ⟨w.heap.size,0,none⟩) len len)) (w.alloc (.cells r e))/\RV M w (.agg V.flatten) (.agg r):=by
 have eE:RV M w (I2 z) z:=a0c bY;obtain ⟨g1,g2,g3⟩:=eE.cells dB;have bu:∀ x∈parts.toList,x.2∈o.op.operands:=fun x hx=>by
  rw [ho];simp only [Op.operands,List.mem_toArray,I9];exact ⟨x,hx,rfl⟩
 have bL:=Env.valids_mem hv;obtain ⟨r,aI,bm⟩:=a7w (M:=M) (w:=w) ps (parts.toList.map fun x=>(x.1,ρ x.2)) ((List.range (len*s)).map fun i=>(I2 z).cells.getD (i%s) default) ((Array.range (len*s)).map (z.cells[·%z.cells.size]!)) V.flatten bD (by simp [<- ep]) (fun i x y hx hy=>by
  refine ⟨?_,aP x (n_2 hx)⟩;subst ep;simp only [Q0,N0] at hx hy;obtain ⟨a,ha,rfl⟩:=hx;obtain ⟨a',cu,rfl⟩:=hy;have:a=a':=by rw [ha] at cu;injection cu
  subst this;have hm:=n_2 ha;exact h _ (bu _ hm) (bL _ (I9.2 ⟨_,hm,rfl⟩))) si_ (fun c hc=>by
   obtain ⟨i,_,rfl⟩:=I9.1 hc;have ae:i%s < (I2 z).cells.length:=by rw [gu];exact a5j _ fp
   rw [a5m,a1u ae];exact g2 _ (b2X ae)) (fun i c hi=>by
   rw [Q0,N0] at hi;obtain ⟨i',aY,rfl⟩:=hi;have bl:=(n_3.1 aY).1;simp at bl;rw [List.getElem?_range bl] at aY;injection aY with aY
   subst aY;have ae:i%s < (I2 z).cells.length:=by rw [gu];exact a5j _ fp
   have hlt2:i%s < z.cells.size:=by rw [g1];exact ae
   have:=g3 (i%s) _ (a1u ae);have e1:(I2 z).cells.getD (i%s) default=(I2 z).cells[i%s]:=by
    rw [a5m,a1u ae];rfl
   rw [e1];have e2:((Array.range (len*s)).map (z.cells[·%z.cells.size]!)).getD i undef=z.cells.getD (i%s) undef:=by
    have cc:z.cells.size=s:=by rw [g1,gu]
    have hms:i%s < s:=a5j _ fp;simp [bl,cc,hms]
   rw [e2];exact this)
 refine ⟨r,?_,bm⟩;have hl:(parts.map fun x=>(x.1,ρ x.2)).toList=parts.toList.map fun x=>(x.1,ρ x.2):=by simp
 simp only [execOp,ho,Instr.buildSlice,Sem.run_bind,hu,Result.andThen_ok,hs];rw [n_0 om_];simp only [hl];by_cases fX:len*s=0
 ·have er:Array.range 0 = #[]:=rfl;rw [fX,er] at aI;simp only [List.map_toArray,List.map_nil] at aI;simp [fX,er,aI,newRow]
 ·simp [fX,hz,aI,newRow]
theorem c7q {aa:Array Oper} {o1 o2:Oper} {t e:TypeId} {len d1 d2:Nat} {parts:Array (Nat × Operand)} {z:Value} (bs:Str) (hd1:o1.dst=some d1) (hd2:o2.dst=some d2) (ho1:o1.op = .buildSlice t len parts) (ho2:o2.op = .convert t t (.tmp d1)) (dU:o1.guard=none) (dO:o2.guard=none)
 (da:Nat.blt d1 n=true) (cT:Nat.blt d2 n=true) (hv:a67 E parts.toList)
 (hu:∀ w,(underlying t).run C.P w = .ok (.slice e) w) (hs:∀ w,(sizeOf e).run C.P w = .ok 1 w) (hz:∀ w,(zeroValue e).run C.P w = .ok z w) (he:∀ w,(underlying e).run C.P w = .ok (.int .u8) w) (bY:M5 z=true) (dB:c5n (I2 z)=true) (gu:(I2 z).cells.length=1)
 (aj:Nat.ble (len*1) 16777216=true) (aP:c0u (a6M C E parts.toList)=true)
 (bD:a4E (fun i=>some (i*1,1)) ((List.range (len*1)).map fun i=>(I2 z).cells.getD (i%1) default) (a6M C E parts.toList)=some (bs.map bcv).flatten) (cE:bs.length=len)
 (h:H7 C n aa Q l ((E.hide (some d1)).put (some d2) (.list (bs.map bcv) true none) True) σ):H7 C n aa Q (o1::o2::l) E σ:=fun M w a hr hf=>by
 have ij:E.valids (parts.toList.map (·.2)):=by
  have:=a17 hv;have key:∀ l:List Operand,(∀ x∈l,E.valid x)->E.valids l:=by
   intro l
   induction l with
   | nil=>intro _;trivial
   | cons x l ih=>intro h;exact ⟨h x si_,ih fun y hy=>h y (by simp [hy])⟩
  exact key _ fun x hx=>by
   obtain ⟨p,hp,rfl⟩:=I9.1 hx;exact this p hp
 have cJ:len*1<=2^24:=by have:=nb aj;omega
 obtain ⟨r,aw,bo⟩:=d0b (o:=o1) (E:=E) (C:=C) (M:=M) (w:=w) (ρ:=a.eval) ho1 ij hu hs hz bY (a4W dB) gu om_ cJ (a5d _) (a7V aP) bD (fun x _ hx=>hf.eval hr hx);have hlt1:d1 < n:=by simpa [a9G] using da
 have hlt2:d2 < n:=by simpa [a9G] using cT
 have hrl2:r.size=len:=by
  cases bo with
  | agg q1 _ _ =>
   rw [q1,flat_len (bs.map bcv) (s:=1) (fun r0 h0=>by
    obtain ⟨b,_,rfl⟩:=I9.1 h0;rfl)]
   simp [cE]
 unfold wpList;rw [n_1 (by simp [Region.wanted,dU])];refine .inl ?_;unfold Oper.wp;rw [aw];simp only [Oper.upon];unfold wpList;rw [n_1 (by simp [Region.wanted,dO])];refine .inl ?_;unfold Oper.wp;have gy:(a.put o1.dst (.slice (some ⟨w.heap.size,0,none⟩) len len)).eval (.tmp d1) = .slice (some ⟨w.heap.size,0,none⟩) len len:=by
  rw [hd1];simp [Act.eval,Act.put,hf.size,hlt1]
 have hsh:(w.alloc (.cells r e)).shape? w.heap.size=some (e,len):=by
  simp only [World.shape?,A4];simp [hrl2]
 have ik:(execOp (a.put o1.dst (.slice (some ⟨w.heap.size,0,none⟩) len len)).eval o2).run C.P (w.alloc (.cells r e)) = .ok (.value (.slice (some ⟨w.heap.size,0,none⟩) len len)) (w.alloc (.cells r e (len,len+1))):=by
  have hm:(markStringish ⟨w.heap.size,0,none⟩).run C.P (w.alloc (.cells r e)) = .ok () (w.alloc (.cells r e (len,len+1))):=by
   have:=a6C w r e len;simp only [markStringish,shape,freeze,Sem.run_bind];simp only [Sem.run,hsh,Result.andThen_ok];rw [this]
  simp only [execOp,ho2,gy,convert,Sem.run_bind,hu,Result.andThen_ok,he];simp [hm]
 rw [ik];simp only [Oper.upon];obtain ⟨hx,fF⟩:=hr.allocFull (.cells r e (len,len+1));have bk:bs.length<=maxLen:=by unfold maxLen;omega
 have ge:RV (M.settle w.heap.size) (w.alloc (.cells r e (len,len+1))) (.list (bs.map bcv) true none) (.slice (some ⟨w.heap.size,0,none⟩) len len):=by
  cases bo with
  | agg q1 q2 q3 =>
   have bb:∀ r0∈bs.map bcv,r0.length=1:=fun r0 h0=>by
    obtain ⟨b,_,rfl⟩:=I9.1 h0;rfl
   refine RV.list' (s:=1) (b:=w.heap.size) (off:=0) (sp_ cE.symm) (fun i j=>r.getD (i*1+j) undef) (by simp [cE]) om_ rfl (fun h=>by cases h) a1N bb (fun r0 bF c hc=>?_) (fun i j r0 c hi hj=>?_) (fun i j r0 c hi hj=>?_) (fun k hk=>by cases hk)
   ·obtain ⟨b,_,rfl⟩:=I9.1 bF;simp [bcv] at hc;subst hc;rfl
   ·have hf:=a4B (bs.map bcv) bb i j r0 c hi hj;have ae:=(n_3.1 hf).1;have bl:i*1+j < r.size:=by omega
    refine ⟨.inl (.inr rfl),?_⟩;rw [K9];show (match (w.alloc (.cells r e (len,len+1))).heap[w.heap.size]? with | some (.cells c _ _)=>c[i*1+j]? | _=>none)=_;rw [A4];simp at bl;simp [bl]
   ·exact (q3 _ _ (a4B (bs.map bcv) bb i j r0 c hi hj)).mono hx
 rw [hd1,hd2];exact h.later hx fF (((hf.mono hx).hide (d:=some d1)).put (fun t ht=>by injection ht with ht;omega) (fun _=>ge) fun hh=>absurd trivial hh)
end
section
variable {C:Ctx} {n:Nat} {aa:Array Oper} {Q:A8->Env->List b9->Prop} {E:Env} {σ:List b9}
theorem cY (hy:l9 C σ E o c) (h:H7 C n aa Q l (E.put o.dst c True) σ) (hg:o.guard=none:=by rfl) (hd:(match o.dst with | some d=>Nat.blt d n | none=>true)=true:=by rfl):H7 C n aa Q (o::l) E σ:=c9Q hg hd hy h
theorem cD (h:H4 C σ E o fun r Y=>match r with | .ret c=>H7 C n aa Q l (E.put o.dst c True) Y | .pan c=>Q (.pan c) E Y) (hg:o.guard=none:=by rfl) (hd:(match o.dst with | some d=>Nat.blt d n | none=>true)=true:=by rfl):H7 C n aa Q (o::l) E σ:=a2d hg hd h
theorem cG {j t:Nat} {au b:Bool} (hy:b=au->l9 C σ E o c) (h:H7 C n aa Q l (E.put o.dst c (b=au)) σ) (hg:o.guard=some (j,au):=by rfl) (ht:(aa[j]?).bind (·.dst)=some t:=by rfl) (hv:E.ok t:=by exact tt) (hb:E.f t = .val (.bool b):=by rfl)
 (hd:(match o.dst with | some d=>Nat.blt d n | none=>true)=true:=by rfl):H7 C n aa Q (o::l) E σ:=d6v hg ht hv hb hd hy h
theorem cC {c:Operand} {x y:Code} {b:Bool} (ht:b=true->CWp C n x Q E σ) (gN:b=false->CWp C n y Q E σ) (hv:E.valid c:=by first|exact tt|exact rfl) (hc:E.val C c = .val (.bool b):=by exact rfl):CWp C n (.cond c x y) Q E σ:=a5g hv hc ht gN
theorem hY {K:Env->Prop} (k:l9 C σ E o c) (h:a18 C σ aa K l (E.put o.dst c True)) (hg:o.guard=none:=by rfl):a18 C σ aa K (o::l) E:=d7B hg k h
theorem yc (ho:o.op = .call { callee:=.value (.func f),args:=xs,argTypes:=ts}) (aA:∀ args w,(callFunc f args).run C.P w = .ok (.enter f args) w)
 (hv:E.valids xs.toList) (h:b8 C f cargs σ fun r Y=>r = .ret c/\Y=σ) (k:H7 C n aa Q l (E.put o.dst c True) σ) (ea:(E.vals C xs.toList).map CV.fgt=cargs:=by exact rfl) (hg:o.guard=none:=by rfl) (hd:(match o.dst with | some d=>Nat.blt d n | none=>true)=true:=by rfl):H7 C n aa Q (o::l) E σ:=c9Q hg hd (c4 ho aA hv h ea) k
theorem dc {α:Type} {c:α->CV} {S:α->List b9} {P:α->Prop} (ho:o.op = .call { callee:=.value (.func f),args:=xs,argTypes:=ts}) (aA:∀ args w,(callFunc f args).run C.P w = .ok (.enter f args) w)
 (hv:E.valids xs.toList) (h:b8 C f cargs σ fun r Y=>∃ a,r = .ret (c a)/\Y=S a/\P a) (hk:∀ a,P a->H7 C n aa Q l (E.put o.dst (c a) True) (S a)) (ea:(E.vals C xs.toList).map CV.fgt=cargs:=by exact rfl) (hg:o.guard=none:=by rfl) (hd:(match o.dst with | some d=>Nat.blt d n | none=>true)=true:=by rfl):H7 C n aa Q (o::l) E σ:=a2d hg hd (c5 ho aA hv h ea hk)
theorem ye (ho:o.op = .call { callee:=.value (.func f),args:=xs,argTypes:=ts}) (aA:∀ args w,(callFunc f args).run C.P w = .ok (.enter f args) w)
 (hv:E.valids xs.toList) (h:b8 C f cargs σ fun r Y=>r = .ret c/\Y=σ) (ea:(E.vals C xs.toList).map CV.fgt=cargs) (k:H7 C n aa Q l (E.put o.dst c True) σ) (hg:o.guard=none:=by rfl) (hd:(match o.dst with | some d=>Nat.blt d n | none=>true)=true:=by rfl):H7 C n aa Q (o::l) E σ:=yc ho aA hv h k ea hg hd
theorem de {α:Type} {c:α->CV} {S:α->List b9} {P:α->Prop} (ho:o.op = .call { callee:=.value (.func f),args:=xs,argTypes:=ts}) (aA:∀ args w,(callFunc f args).run C.P w = .ok (.enter f args) w)
 (hv:E.valids xs.toList) (h:b8 C f cargs σ fun r Y=>∃ a,r = .ret (c a)/\Y=S a/\P a) (ea:(E.vals C xs.toList).map CV.fgt=cargs) (hk:∀ a,P a->H7 C n aa Q l (E.put o.dst (c a) True) (S a)) (hg:o.guard=none:=by rfl) (hd:(match o.dst with | some d=>Nat.blt d n | none=>true)=true:=by rfl):H7 C n aa Q (o::l) E σ:=dc ho aA hv h hk ea hg hd
def d1m (aa:Array Oper):List Nat:=aa.toList.foldl (fun ms o=>ms++[o.after.toList.foldl (fun m e=>if b3M e then (m ||| (1 <<< e.on)) ||| ms.getD e.on 0 else m) 0]) []
theorem cW {id:Nat} (nh:Nat) (h:a18 C σ aa (fun E'=>H7 C n aa Q (aa.toList.drop nh) E' σ) (aa.toList.take nh) E) (hm:C.P.follows .mixedOrders=true:=by kernel_rfl) (hB:c1w aa nh (d1m aa)=true:=by kernel_rfl)
 (hd:(aa.toList.all fun o=>match o.dst with | some d=>Nat.blt d n | none=>true)=true:=by rfl):CWp C n (.region id aa true) Q E σ:=d1g nh (d1m aa) hm hB hd h
theorem rE1 {fn:Func} {t:Nat} (hr:fn.results = #[.tmp t]:=by exact rfl) (hv:E.ok t:=by exact tt) (ec:E.f t=c:=by conv=>lhs;whnf):U4 C E σ fn c:=a1W hr hv ec
theorem rE0 {fn:Func} (hr:fn.results = #[]:=by exact rfl):U4 C E σ fn (.tup []):=p8 (rs:=[]) (cs:=[]) hr trivial (n_4 rfl)
theorem cF {id:Nat} (qs hd:List Nat) {tl:List (Nat × List Nat)} (h:a1E C σ aa (fun E' S=>S6 C aa qs Q S tl E' σ) hd E []) (hm:C.P.follows .mixedOrders=true:=by kernel_rfl) (hB:b0j aa qs (d1m aa) hd tl=true:=by kernel_rfl)
 (bR:(aa.toList.all fun o=>match o.dst with | some d=>Nat.blt d n | none=>true)=true:=by rfl):CWp C n (.region id aa true) Q E σ:=c4x qs (d1m aa) hd hm hB bR h
theorem cO {fn:Func} {c:Code} {args:List CV} {K:Q9->List b9->Prop} (hf:C.P.funcs[f]? = some fn) (h:CWp C fn.ntmps c (Fin C fn K) (Env.args args) σ) (hb:fn.body=some c:=by rfl) (hn:Nat.ble args.length fn.ntmps=true:=by rfl):b8 C f args σ K:=a70 hf hb hn h
end
end Go.Cl
namespace Go.Proofs.YtlppbmfecjabeaaGreatDoor
open Go Go.Cl
variable {s u:Str} {ks:List Int} {aS parts i:Nat} {m:List (Int × Int)} {x y z:Bool} {α:Type} {d:List Str}
abbrev iv (x:Int):CV:=.val (.int .i64 x)
def c3V:List CV:=[1,10,100,1000,10000,100000,1000000,10000000,100000000,1000000000,10000000000,100000000000,1000000000000,10000000000000,100000000000000,1000000000000000,10000000000000000,100000000000000000,1000000000000000000,10000000000000000000].map fun z:Int=>.val (.int .u64 z)
def tyT:List (Nat × TyE):=[(9,⟨false,1,[]⟩),(3,⟨false,1,[]⟩),(39,⟨true,3,[0,1,2]⟩),(32,⟨true,1,[0]⟩),(212,⟨true,5,[0,1,2,3,4]⟩),(119,⟨true,4,[0,1,2,3]⟩),(67,⟨true,3,[0,1,2]⟩),(59,⟨true,6,[0,1,2,3,4,5]⟩),(54,⟨true,2,[0,1]⟩),(231,⟨true,4,[0,1,2,3]⟩),(25,⟨true,1,[0]⟩),(26,⟨false,1,[]⟩),(228,⟨true,7,[0,1,2,3,4,5,6]⟩),(30,⟨false,1,[]⟩),(22,⟨false,1,[]⟩),(105,⟨true,2,[0,1]⟩),(199,⟨true,4,[0,1,2,3]⟩),(117,⟨false,1,[]⟩),(40,⟨false,1,[]⟩),(65,⟨false,1,[]⟩),(129,⟨true,2,[0,1]⟩),(112,⟨true,5,[0,1,2,3,4]⟩),(183,⟨true,8,[0,1,2,3,4,5,6,7]⟩),(309,⟨true,5,[0,2,3,4]⟩),(36,⟨false,1,[]⟩),(95,⟨true,6,[0,3,4,5]⟩),(27,⟨false,1,[]⟩),(244,⟨true,2,[0,1]⟩),(23,⟨false,1,[]⟩),(210,⟨true,8,[0,3,7]⟩),(149,⟨false,1,[]⟩),(4,⟨false,1,[]⟩),(5,⟨false,1,[]⟩),(91,⟨true,2,[0,1]⟩),(29,⟨true,2,[0,1]⟩),(103,⟨false,1,[]⟩),(109,⟨false,1,[]⟩),(292,⟨false,1,[]⟩),(107,⟨false,1,[]⟩),(305,⟨true,2,[]⟩),(110,⟨false,1,[]⟩),(175,⟨true,3,[0,1,2]⟩),(93,⟨true,3,[]⟩),(335,⟨true,2,[0,1]⟩),(178,⟨false,1,[]⟩),(86,⟨false,1,[]⟩),(195,⟨true,2,[0,1]⟩),(191,⟨false,1,[]⟩),(242,⟨false,1,[]⟩),(181,⟨false,1,[]⟩),(221,⟨true,1,[0]⟩)]
theorem d5i:tyT.all (tyB Tryz.prog)=true:=by kernel_rfl
noncomputable def CC:Ctx:={ P:=Tryz.prog,glob:=fun g=>match g with | 1=>some c3V | _=>none,tab:=tyT,right:=d3I d5i}
theorem hCC:CC.plain:=fun g cells h=>by
 have:cells=c3V:=by
  simp only [CC] at h;split at h
  ·exact (Option.some.inj h).symm
  ·cases h
 subst this;intro c hc;obtain ⟨z,_,rfl⟩:=I9.1 hc;exact .val _
theorem an_ {f:FuncId} {fn:Func} {c:Code} {args:List CV} {res:CV} {σ:List b9} (hf:CC.P.funcs[f]? = some fn) (h:CWp CC fn.ntmps c (Fin CC fn fun r τ=>∃ ay c,τ=[]++ay/\r = .ret c/\Cls ([]:List b9).length τ c res) (Env.args args) []) (hb:fn.body=some c:=by rfl) (hn:Nat.ble args.length fn.ntmps=true:=by rfl) (p1:T0 args:=by exact pu_) (p2:u0 res:=by exact pu_):b8 CC f args σ fun r τ=>r = .ret res/\τ=σ:=b8.anyw hCC p1 p2 (c7 (a70 hf hb hn h)) σ
def icv (x:Int):List CV:=[iv x]
def scv (x:Str):List CV:=[sv x]
theorem N5 (l:List Int) (nn:Bool):u0 (.list (l.map icv) nn none):=P9 (f:=icv) (fun _=>⟨.val _,tt⟩) l nn
theorem E7 (l:List Str) (nn:Bool):u0 (.list (l.map scv) nn none):=P9 (f:=scv) (fun _=>⟨.val _,tt⟩) l nn
theorem U9 (n:Nat) (l:List Int) (nn:Bool):Old n (.list (l.map icv) nn none):=(N5 l nn).old
theorem C1 (n:Nat) (l:List Str) (nn:Bool):Old n (.list (l.map scv) nn none):=(E7 l nn).old
def c9c:Str:=[97,98,99,100,101,102,103,104,105,106,107,108,109,110,111,112,113,114,115,116,117,118,119,120,121,122]
def d7I:Str:=[48,49,50,51,52,53,54,55,56,57]
def a3H:Str:=[59,44,40,41,43,45,42,47,37,60,61]
def M0:List (Int × Str):=[(1,c9c),(2,d7I),(3,[95]),(4,[46]),(5,[9,10,13,32]),(6,[35]),(7,[34]),(8,a3H)]
def k8 (c:Int):Int :=
 if 97<=c/\c<=122 then 1 else if 48<=c/\c<=57 then 2 else if c=95 then 3 else if c=46 then 4 else if c=9\/c=10\/c=13\/c=32 then 5 else if c=35 then 6 else if c=34 then 7
 else if c=59\/c=44\/c=40\/c=41\/c=43\/c=45\/c=42\/c=47\/c=37\/c=60\/c=61 then 8 else 0
abbrev kb (a:Int):CV:=.val (.int .u8 a)
abbrev kv (a:Int):CV:=iv a
theorem c99:T4 (α:=Int) CC.P 5 kb (fun a=>.int .u8 a):=c8X .u8 b1n
theorem a0m:T4 (α:=Int) CC.P 3 kv (fun a=>.int .i64 a):=c8X .i64 c4t
theorem b7C:T4 (α:=Str) CC.P 9 sv (fun a=>.string (str a)):=d3L t_5
def KM (m:List (Int × Int)):Prop:=∀ c,(glk m c).getD 0=k8 c
theorem W4 (n:Nat) (m:List (Int × Int)):J0 n (.map (gm kb kv m)):=fun x hx=>by
 obtain ⟨y,_,rfl⟩:=I9.1 hx;exact ⟨.val _,.val _⟩
theorem c5S (n:Nat) (a b:List (Int × Str)):J0 n (.iter (gm kv sv a) (gm kv sv b)):=⟨fun x hx=>by
 obtain ⟨y,_,rfl⟩:=I9.1 hx;exact ⟨.val _,.val _⟩,fun x hx=>by
 obtain ⟨y,_,rfl⟩:=I9.1 hx;exact ⟨.val _,.val _⟩⟩
theorem c89 (m:List (Int × Int)):a26 (.map (gm kb kv m)):=fun x hx=>by
 obtain ⟨y,_,rfl⟩:=I9.1 hx;exact ⟨.val _,.val _⟩
def InB (s:Str) (c:Int):Prop:=∃ b∈s,(b.toNat:Int)=c
instance (s:Str) (c:Int):Decidable (InB s c):=by unfold InB;exact inferInstance
def KL (m:List (Int × Int)) (left:List (Int × Str)):Prop:=left.Nodup/\(∀ x∈left,x∈M0)/\∀ c,(glk m c).getD 0=if ∃ x∈left,InB x.2 c then 0 else k8 c
theorem d0w:∀ x∈M0,∀ b∈x.2,k8 (b.toNat:Int)=x.1:=by decide
theorem c5d:∀ x∈M0,∀ y∈M0,x≠y->∀ b∈x.2,b∉y.2:=by decide
theorem c8W:M0.Nodup:=by decide
theorem d4e:∀ c:Fin 256,k8 (c.val:Int)≠0->∃ x∈M0,∃ b∈x.2,(b.toNat:Int)=(c.val:Int):=by decide
theorem c9s {c:Int} (h:k8 c≠0):∃ x∈M0,∃ b∈x.2,(b.toNat:Int)=c:=by
 have hr:0<=c/\c < 256:=by
  unfold k8 at h;split at h;· omega
  split at h;· omega
  split at h;· omega
  split at h;· omega
  split at h;· omega
  split at h;· omega
  split at h;· omega
  split at h
  ·omega
  ·exact absurd rfl h
 obtain ⟨n,rfl⟩:∃ n:Nat,c=n:=⟨c.toNat,om_⟩;exact d4e ⟨n,om_⟩ h
theorem KL.start:KL [] M0:=by
 refine ⟨c8W,fun x h=>h,fun c=>?_⟩
 split
 ·rfl
 ·rename_i cz;have:k8 c=0:=by
   rcases Int.decEq (k8 c) 0 with h | h
   ·exact absurd (c9s h) cz
   ·exact h
  rw [this];rfl
theorem KL.done (h:KL m []):KM m:=fun c=>by
 rw [h.2.2 c,n_0 si_]
theorem KL.step {m':List (Int × Int)} {left:List (Int × Str)} {x:Int × Str} (h:KL m left) (hx:left[i]? = some x) (hm:∀ c,(glk m' c).getD 0=if InB x.2 c then x.1 else (glk m c).getD 0):KL m' (left.eraseIdx i):=by
 obtain ⟨h1,h2,h3⟩:=h;have hxm:=h2 x (n_2 hx);have eJ:∀ y,y∈left.eraseIdx i↔y∈left/\y≠x:=fun y=>by
  have ae:=(n_3.1 hx).1;have hxe:=(n_3.1 hx).2;constructor
  ·intro hy;obtain ⟨j,hj,dZ⟩:=c4N.1 hy;refine ⟨n_2 dZ,fun e=>?_⟩;subst e;exact hj ((List.getElem?_inj (n_3.1 dZ).1 h1).1 (by rw [dZ,hx]))
  ·rintro ⟨hy,aC⟩;obtain ⟨j,hj⟩:=L7.1 hy;refine c4N.2 ⟨j,fun e=>?_,hj⟩;subst e;rw [hx] at hj;exact aC (Option.some.inj hj).symm
 refine ⟨h1.sublist (List.eraseIdx_sublist _ _),fun y hy=>h2 y ((eJ y).1 hy).1,fun c=>?_⟩;rw [hm c,h3 c];by_cases hc:InB x.2 c
 ·rw [n_1 hc,n_0]
  ·obtain ⟨b,hb,rfl⟩:=hc;exact (d0w x hxm b hb).symm
  ·rintro ⟨y,hy,b',hb',he⟩;obtain ⟨b,hb,hbc⟩:=hc;obtain ⟨dT,aC⟩:=(eJ y).1 hy;have:b'=b:=b1N.1 om_;subst this;exact c5d y (h2 y dT) x hxm aC b' hb' hb
 ·rw [n_0 hc];have io:(∃ y∈left,InB y.2 c)↔∃ y∈left.eraseIdx i,InB y.2 c:=by
   constructor
   ·rintro ⟨y,hy,hb⟩;exact ⟨y,(eJ y).2 ⟨hy,fun e=>hc (e ▸ hb)⟩,hb⟩
   ·rintro ⟨y,hy,hb⟩;exact ⟨y,((eJ y).1 hy).1,hb⟩
  by_cases hh:∃ y∈left,InB y.2 c
  ·rw [n_1 hh,n_1 (io.1 hh)]
  ·rw [n_0 hh,n_0 (fun h=>hh (io.2 h))]
theorem b54 {β:Type} {kc:α->CV} {vc:β->CV} (l:List (α × β)) (i:Nat):(gm kc vc l).eraseIdx i=gm kc vc (l.eraseIdx i):=by
 induction l generalizing i with
 | nil=>rfl
 | cons x l ih =>
  cases i with
  | zero=>rfl
  | succ i=>exact n_9 _ (ih i)
theorem c7z {β:Type} {kc:α->CV} {vc:β->CV} {l:List (α × β)} {x:CV × CV} (h:(gm kc vc l)[i]? = some x):∃ y,l[i]? = some y/\x=(kc y.1,vc y.2):=by
 unfold gm at h;rw [Q0,N0] at h;obtain ⟨y,h1,h2⟩:=h;exact ⟨y,h1,h2.symm⟩
theorem a1D (l:Str) (nn:Bool):u0 (.list (l.map bcv) nn none):=P9 (f:=bcv) (fun _=>⟨.val _,tt⟩) l nn
theorem a0A (n:Nat) (l:Str) (nn:Bool):Old n (.list (l.map bcv) nn none):=(a1D l nn).old
theorem d4W:∀ x∈M0,x.2.length<=26:=by decide
theorem c6G {m1:List (Int × Int)} {j:Nat} {b:UInt8} {k:Int} (hb:s[j]? = some b) (h:∀ c,(glk m1 c).getD 0=if InB (s.take j) c then k else (glk m c).getD 0) :
 ∀ c,(glk (S8 m1 (b.toNat:Int) k) c).getD 0=if InB (s.take (j+1)) c then k else (glk m c).getD 0:=fun c=>by
 have ht:s.take (j+1)=s.take j++[b]:=by
  obtain ⟨ae,rfl⟩:=n_3.1 hb;exact (b2J ae).symm
 rw [O0,ht];by_cases hc:c=(b.toNat:Int)
 ·rw [n_1 hc,n_1 ⟨b,si_,hc.symm⟩];rfl
 ·rw [n_0 hc,h c];have io:InB (s.take j) c↔InB (s.take j++[b]) c:=by
   constructor
   ·rintro ⟨y,hy,e⟩;exact ⟨y,by simp [hy],e⟩
   ·rintro ⟨y,hy,e⟩
    rcases Y1.1 hy with hy | hy
    ·exact ⟨y,hy,e⟩
    ·rw [b38.1 hy] at e;exact absurd e.symm hc
  by_cases hh:InB (s.take j) c
  ·rw [n_1 hh,n_1 (io.1 hh)]
  ·rw [n_0 hh,n_0 (fun h=>hh (io.2 h))]
theorem c3a:b8 CC 123 [] [] fun r τ=>∃ m:List (Int × Int),a0T [b9.map (gm kb kv m)].length τ r (.ret (.map 0))/\a8Q [b9.map (gm kb kv m)].length τ τ [.map (gm kb kv m)]/\([]:List b9).length<=[b9.map (gm kb kv m)].length/\KM m:=by
 refine qO Tryz.func123 ?_;refine qD (S4 rfl ?_);refine qD (S4 rfl ?_);refine qD (l8 (vc:=sv) (l:=M0.take 0) a0m (.inr rfl) tt rfl rfl rfl rfl rfl a1Y rfl ?_);refine qD (l8 (vc:=sv) (l:=M0.take 1) a0m (.inr rfl) tt rfl rfl rfl rfl rfl a1Y rfl ?_);refine qD (l8 (vc:=sv) (l:=M0.take 2) a0m (.inr rfl) tt rfl rfl rfl rfl rfl a1Y rfl ?_);refine qD (l8 (vc:=sv) (l:=M0.take 3) a0m (.inr rfl) tt rfl rfl rfl rfl rfl a1Y rfl ?_);refine qD (l8 (vc:=sv) (l:=M0.take 4) a0m (.inr rfl) tt rfl rfl rfl rfl rfl a1Y rfl ?_);refine qD (l8 (vc:=sv) (l:=M0.take 5) a0m (.inr rfl) tt rfl rfl rfl rfl rfl a1Y rfl ?_);refine qD (l8 (vc:=sv) (l:=M0.take 6) a0m (.inr rfl) tt rfl rfl rfl rfl rfl a1Y rfl ?_);refine qD (l8 (vc:=sv) (l:=M0.take 7) a0m (.inr rfl) tt rfl rfl rfl rfl rfl a1Y rfl ?_);refine qD (b9M rfl tt rfl a1Y rfl ?_);refine j7 hCC (α:=List (Int × Int) × List (Int × Str) × List (Int × Str)) (fun _=>[(1,.map 0),(9,.ptr 2 0)]) (fun x=>[.map (gm kb kv x.1),.dead,.iter (gm kv sv x.2.1) (gm kv sv x.2.2)]) (fun x=>KL x.1 x.2.2) (fun x=>x.2.2.length) ([],[],M0) KL.start tu_ (ah:=[]) rfl w8 uz_ ?_;intro ⟨m,aD,left⟩ gZ;dsimp only at gZ ⊢;refine qk (qD (c4F rfl tt rfl rfl (fun hz=>?_) (fun i x hx=>?_)))
 ·
  have dR:left=[]:=by
   cases left with
   | nil=>rfl
   | cons y l=>cases hz
  subst dR;refine qC ?_ ?_<;>intro h1
  ·cases h1
  ·refine V9 ?_;exact ⟨_,rE1,⟨m,.ret (.old (.map (Nat.zero_lt_one))),⟨.same (W4 _ _),tt⟩,n_5 _,gZ.done⟩⟩
 ·
  obtain ⟨⟨k,s⟩,hy,rfl⟩:=c7z hx;rw [b54];have bx:=gZ.2.1 _ (n_2 hy);have dW:s.length<=26:=d4W _ bx;refine qC ?_ ?_<;>intro h3
  ·refine qY (b9Y rfl tt rfl rfl) ?_;refine qY (d3w rfl tt rfl t_5 t_7 b1n do_) ?_;refine qY a8k ?_;refine j7 hCC (α:=List (Int × Int) × Nat) (fun x=>[(1,.map 0),(2,iv k),(9,.ptr 2 0),(16,(.list (s.map bcv) true none)),(17,iv s.length),(18,iv x.2)]) (fun x=>[.map (gm kb kv x.1),.dead,.iter (gm kv sv [(k,s)]) (gm kv sv (left.eraseIdx i))]) (fun x=>x.2<=s.length/\∀ c,(glk x.1 c).getD 0=if InB (s.take x.2) c then k else (glk m c).getD 0) (fun x=>s.length - x.2) (m,0) ⟨n_5 _,fun c=>by rw [n_0 (by simp [InB])]⟩ tu_ (ah:=[]) rfl w8 uz_ ?_;intro ⟨m1,j⟩ ⟨hj,dy⟩;dsimp only at hj dy ⊢;refine qk (qC ?_ ?_)<;> intro h4
   ·have bU:(j:Int) < s.length:=sp_ h4;obtain ⟨b,hb⟩:=gx_ s j;refine qY (o9 rfl tt tt rfl rfl t_7 t_9 om_ (i8 hb) rfl) ?_;refine qD (l8 (vc:=kv) (l:=m1) (a:=(b.toNat:Int)) (b:=k) c99 (.inl rfl) tt tt trivial rfl rfl rfl c0t rfl ?_);refine qY o7 ?_;exact ⟨(S8 m1 (b.toNat:Int) k,j+1),_,⟨do_,do_,c6G hb dy⟩,tu_,rfl⟩
   ·have bU:s.length<=j:=by
     have:¬ (j:Int) < s.length:=sp_ h4;omega
    rw [W1 bU] at dy;refine j6 ?_;exact ⟨(m1,[(k,s)],left.eraseIdx i),_,⟨by dsimp only;rw [List.length_eraseIdx_of_lt (n_3.1 hy).1];have:=(n_3.1 hy).1;omega,gZ.step hy dy⟩,tu_,rfl⟩
  ·cases h3
theorem a9w (σ:List b9):b8 CC 123 [] σ fun r τ=>∃ m:List (Int × Int),r = .ret (.map σ.length)/\τ=σ++[.map (gm kb kv m)]/\KM m :=
 a0L (α:=List (Int × Int)) (obs:=[]) (args:=[]) (res:=fun _=>.ret (.map 0)) (res':=fun _=>.ret (.map σ.length)) (S:=fun _=>[]) (N:=fun m=>[.map (gm kb kv m)]) (P:=KM) [] hCC rfl (fun i j k h=>by simp at h) (fun i k h=>by simp at h) (fun ob h=>by cases h) ⟨rfl,fun i c c' h=>by simp at h⟩
  (W9 (res:=fun _=>.ret (.map 0)) (S:=fun m=>[.map (gm kb kv m)]) (P:=KM) hCC c3a) (fun m _=>⟨rfl,fun ob h=>by simp at h;subst h;exact c89 m⟩) (fun m _=>.ret (.map (.inr ⟨n_5 _,rfl⟩)))
def inK (ks:List Int) (b:UInt8):Bool:=ks.any fun k=>decide (k8 b.toNat=k)
def A2 (s:Str) (a:Nat) (ks:List Int):Nat:=a+((s.drop a).takeWhile (inK ks)).length
theorem a7p {a:Nat} (h:s.length<=a):A2 s a ks=a:=by
 unfold A2;rw [T5 h];rfl
theorem U3 {a:Nat} {b:UInt8} (h:s[a]? = some b):A2 s a ks=if inK ks b=true then A2 s (a+1) ks else a:=by
 obtain ⟨ae,rfl⟩:=n_3.1 h;unfold A2;rw [R4 ae,b6C]
 split
 ·rw [C4];omega
 ·rfl
theorem a1S {a:Nat} (h:a<=s.length):a<=A2 s a ks/\A2 s a ks<=s.length:=by
 unfold A2;have:=(List.takeWhile_sublist (inK ks) (l:=s.drop a)).length_le;rw [b4Q] at this;omega
theorem c5I {j:Nat} {k:Int} (h:ks[j]? = some k) (p:Int->Bool):(ks.take (j+1)).any p=((ks.take j).any p || p k):=by
 obtain ⟨ae,rfl⟩:=n_3.1 h;rw [<- b2J ae,List.any_append];simp
theorem c6d (s:Str) (at_:Nat) (ks:List Int) (nn:Bool) (m:List (Int × Int)) (hm:KM m) (ha:at_<=s.length) (hs:s.length<=1000000000000) (gZ:ks.length<=1000000000000):b8 CC 124 [(sv s),iv at_,.map 0,(.list (ks.map icv) nn none)] [b9.map (gm kb kv m)] fun r τ=>∃ _:Unit,a0T [b9.map (gm kb kv m)].length τ r (.ret (iv (A2 s at_ ks:Int)))/\a8Q [b9.map (gm kb kv m)].length τ τ [b9.map (gm kb kv m)]/\[b9.map (gm kb kv m)].length<=[b9.map (gm kb kv m)].length/\True:=by
 refine qO Tryz.func124 ?_;refine j7 hCC (α:=Nat) (fun i=>[(0,(sv s)),(1,iv i),(2,.map 0),(3,(.list (ks.map icv) nn none))]) (fun _=>[b9.map (gm kb kv m)]) (fun i=>i<=s.length/\A2 s at_ ks=A2 s i ks) (fun i=>s.length - i) at_ ⟨ha,rfl⟩ tu_ (ah:=[]) rfl w8 uz_ ?_;intro i ⟨hi,af⟩;refine a5R ?_;refine qC ?_ ?_<;>intro h1
 ·have bh:(i:Int) < s.length:=sp_ h1;obtain ⟨b,hb⟩:=gx_ s i;rw [U3 hb] at af;refine qY a02 ?_;refine j7 hCC (α:=Nat) (fun j=>[(0,(sv s)),(1,iv i),(2,.map 0),(3,(.list (ks.map icv) nn none)),(9,(.val (.bool ((ks.take j).any fun k=>decide (k8 b.toNat=k))))),(16,(.list (ks.map icv) nn none)),(17,iv ks.length),(18,iv j)]) (fun _=>[b9.map (gm kb kv m)]) (fun j=>j<=ks.length) (fun j=>ks.length - j) 0 (n_5 _) tu_ (ah:=[]) rfl w8 uz_ ?_;intro j hj;refine qk (qC ?_ ?_)<;> intro h2
  ·have bU:(j:Int) < ks.length:=sp_ h2;obtain ⟨k,hk⟩:=gx_ ks j;refine qY (o9 rfl tt tt rfl rfl t_4 t_1 om_ (i8 hk) rfl) ?_;refine a2j ?_;refine qG C3 ?_;refine qG d6h ?_;refine qG (fun hg=>R5 (vc:=kv) (l:=m) (a:=(b.toNat:Int)) c99 rfl hg hg rfl rfl c0t t_8 rfl rfl (b3z _ _)) ?_;refine qG C3 ?_;refine a79 ?_;refine qY o7 ?_;exact ⟨(j+1),_,⟨om_,om_⟩,⟨o0,o0,o0,o0,⟨tt,(by rw [c5I hk,<- hm];rfl)⟩,o0,o0,o0,tt⟩,rfl⟩
  ·have bU:ks.length<=j:=by
    have:¬ (j:Int) < ks.length:=sp_ h2;omega
   refine j6 ?_;refine qC ?_ ?_<;>intro h3
   ·have cz:inK ks b=false:=by
     have:((ks.take j).any fun k=>decide (k8 b.toNat=k))=false:=sp_ h3;rwa [W1 bU] at this
    rw [cz] at af;refine V9 ?_;exact ⟨_,rE1,⟨(),.ret (F1 (by rw [af];rfl)),⟨.same (W4 _ _),tt⟩,n_6 _,tt⟩⟩
   ·have hyes:inK ks b=true:=by
     have:((ks.take j).any fun k=>decide (k8 b.toNat=k))=true:=sp_ h3;rwa [W1 bU] at this
    rw [hyes] at af;refine qY o7 ?_;exact ⟨(i+1),_,⟨om_,om_,af⟩,tu_,rfl⟩
 ·have aE:s.length<=i:=by
   have:¬ (i:Int) < s.length:=sp_ h1;omega
  rw [a7p aE] at af;refine V9 ?_;exact ⟨_,rE1,⟨(),.ret (F1 (by rw [af])),⟨.same (W4 _ _),tt⟩,n_6 _,tt⟩⟩
theorem a6b {at_:Nat} {nn:Bool} (hm:KM m) (ha:at_<=s.length) (hs:s.length<=1000000000000) (gZ:ks.length<=1000000000000) {σ:List b9} {q:Nat} (hq:σ[q]? = some (.map (gm kb kv m))):b8 CC 124 [(sv s),iv at_,.map q,(.list (ks.map icv) nn none)] σ fun r τ=>r = .ret (iv (A2 s at_ ks:Int))/\τ=σ :=
 b0O hCC (c89 m) (.val _) hq (.cons (.val _) (.cons (.val _) (.cons (.map rfl) (.cons (.pure (N5 _ _)) .nil)))) (c6d s at_ ks nn m hm ha hs gZ)
def A9 (s:Str):Bool:=match s with
 | []=>false
 | b::_=>decide (s.length<=24) && decide (k8 b.toNat=1) && s.all (inK [1,2,3])
theorem a6V:A2 s 0 ks=s.length↔s.all (inK ks)=true:=by
 unfold A2;rw [a9s,K9];generalize inK ks=p
 induction s with
 | nil=>simp
 | cons b s ih =>
  rw [b6C,b6I];cases hp:p b with
  | false=>simp
  | true =>
   simp only [if_true,C4,Nat.add_right_cancel_iff,b6t];exact ih
theorem c4g (h:1<=s.length):s[(0:Int).toNat]? = some (s.headD 0):=by
 cases s with
 | nil=>simp at h
 | cons b s=>rfl
theorem c97 (s:Str) (hm:KM m) {w:Bool} (h1:x=decide ((s.length:Int)>=1)) (h2:y=decide ((s.length:Int)<=24)) (h3:z=((glk m ((s.headD 0).toNat:Int)).getD 0 == 1)) (h4:w=((A2 s 0 [1,2,3]:Int) == (s.length:Int))):(((x && y) && z) && w)=A9 s:=by
 subst h1 h2 h3 h4;rw [hm];have h5:((A2 s 0 [1,2,3]:Int) == (s.length:Int))=s.all (inK [1,2,3]):=by
  cases h:s.all (inK [1,2,3]) with
  | true=>exact a1R (by have:=a6V.2 h;omega)
  | false =>
   refine a1o fun e=>?_;have:=a6V.1 (show A2 s 0 [1,2,3]=s.length by omega);rw [h] at this;cases this
 rw [h5];cases s with
 | nil=>rfl
 | cons b s =>
  have h6:decide (((b::s).length:Int)>=1)=true:=by simp;omega
  have h7:decide (((b::s).length:Int)<=24)=decide ((b::s).length<=24):=b5V.2 om_;rw [h6,h7];rfl
theorem a0J (s:Str) (σ:List b9):b8 CC 74 [(sv s)] σ fun r Y=>r = .ret (.val (.bool (A9 s)))/\Y=σ:=by
 refine b8.anyw hCC pu_ pu_ (c7 (qO Tryz.func74 ?_)) σ;refine qD (c5 rfl c4l trivial (a9w _) rfl ?_);intro m hm;refine qY O8 ?_;refine a6p ?_;refine a3Q ?_;refine a2j ?_;refine qG d6P ?_;refine qG (fun hg=>R5 (vc:=kv) (l:=m) (a:=((s.headD 0).toNat:Int)) c99 rfl hg hg rfl rfl c0t t_8 rfl rfl (b3z _ _)) ?_;refine a3Q ?_;refine a2j ?_;refine qG (fun hg=>B3 ([1,2,3].map icv) rfl ⟨rfl,rfl,rfl,tt⟩ t_4 t_1 t_8 rfl rfl rfl rfl rfl rfl rfl rfl rfl) ?_;refine qG (fun hg=>c4 rfl c75 ⟨hg,rfl,hg,hg,tt⟩ (a6b hm (n_5 _) (sm_ hg) de_ rfl) rfl) ?_;refine a6p ?_;refine qG a75 ?_;refine qY M8 ?_;refine c6 ?_;exact ⟨_,rE1,_,_,rfl,rfl,j8 (c97 s hm rfl rfl rfl rfl)⟩
theorem b0q (s:Str) (c:UInt8) (σ:List b9):b8 CC 233 [(sv s),(.val (.int .u8 (c.toNat:Int)))] σ fun r Y=>r = .ret (iv (Go.Lib.indexByte s c))/\Y=σ:=by
 refine b8.anyw hCC pu_ pu_ (c7 (qO Tryz.func233 ?_)) σ;refine qY (c4b (e:=Extern.BytealgIndexByte.indexByte) rfl Tryz.func274 rfl rfl rfl rfl tt tt rfl rfl (fun w=>c2h s c w)) ?_;exact c7R
theorem a5q (s:Str) (c:UInt8) (σ:List b9):b8 CC 189 [(sv s),(.val (.int .u8 (c.toNat:Int)))] σ fun r Y=>r = .ret (iv (Go.Lib.indexByte s c))/\Y=σ:=by
 refine b8.anyw hCC pu_ pu_ (c7 (qO Tryz.func189 ?_)) σ;exact d2s
theorem b5R (s:Str) (c:UInt8) (σ:List b9):b8 CC 298 [(sv s),(sv ([c]))] σ fun r Y=>r = .ret (iv (Go.Lib.indexByte s c))/\Y=σ:=by
 refine b8.anyw hCC pu_ pu_ (c7 (qO Tryz.func298 ?_)) σ;refine qY O8 ?_;refine a2j ?_;refine qG a8B ?_;refine qY Q1 ?_;refine qC ?_ ?_<;>intro h1
 ·have hs:s=[c]:=by simp at h1;exact h1.symm
  subst hs;refine c6 ?_;exact ⟨_,rE1,_,_,rfl,rfl,F1 (by simp [Go.Lib.indexByte])⟩
 ·refine cC ?_ ?_<;>intro h2
  ·refine qk (qY (L5 rfl tt rfl rfl rfl t_5 om_ rfl) ?_);exact d2s
  ·simp at h2
theorem a7q (s:Str) (c:UInt8) (σ:List b9):b8 CC 263 [(sv s),(sv ([c]))] σ fun r Y=>r = .ret (iv (Go.Lib.indexByte s c))/\Y=σ:=by
 refine b8.anyw hCC pu_ pu_ (c7 (qO Tryz.func263 ?_)) σ;refine qY (c4 rfl Tryz.call298 j1 (b5R s c _) rfl) ?_;exact c7R
theorem a7A (s:Str) (c:UInt8) (σ:List b9):b8 CC 262 [(sv s),(sv ([c]))] σ fun r Y=>r = .ret (iv (s.count c:Nat))/\Y=σ:=by
 refine b8.anyw hCC pu_ pu_ (c7 (qO Tryz.func262 ?_)) σ;refine qY O8 ?_;refine cC ?_ ?_<;>intro h1
 ·simp at h1
 ·refine a5R ?_;refine cC ?_ ?_<;>intro h2
  ·refine qk (qY (L5 rfl tt rfl rfl rfl t_5 om_ rfl) ?_);refine qY (c4b (e:=Extern.BytealgCount.count) rfl Tryz.func297 rfl rfl rfl rfl tt tt rfl rfl (fun w=>c3r s c w)) ?_;exact c7R
  ·simp at h2
def B0 (c:UInt8):Str->List Str
 | []=>[[]]
 | b::l=>if b=c then []::B0 c l else match B0 c l with
  | x::xs=>(b::x)::xs
  | []=>[[b]]
theorem a0E (c:UInt8) (s:Str):B0 c s≠[]:=by
 cases s with
 | nil=>simp [B0]
 | cons b l =>
  rw [B0]
  split
  ·simp
  ·split<;>simp
theorem a0M (c:UInt8) (s:Str):(B0 c s).length=s.count c+1:=by
 induction s with
 | nil=>rfl
 | cons b l ih =>
  rw [B0,List.count_cons];by_cases h:b=c
  ·rw [n_1 h,C4,ih,n_1 (sp_ h)]
  ·rw [n_0 h,n_0 (sp_ h)];cases hs:B0 c l with
   | nil=>exact absurd hs (a0E c l)
   | cons x xs=>rw [hs] at ih;simpa using ih
theorem a30 {c:UInt8}:∀ {s:Str},Go.Lib.indexByte s c = -1->B0 c s=[s]
 | [],_=>rfl
 | b::l,h=>by
  rw [Go.Lib.indexByte] at h;by_cases hb:b=c
  ·rw [n_1 (sp_ hb)] at h;omega
  ·rw [n_0 (sp_ hb)] at h;have hl:Go.Lib.indexByte l c = -1:=by
    have:=Go.Lib.indexByte_ge l c;split at h
    ·rename_i e;simpa using e
    ·omega
   rw [B0,n_0 hb,a30 hl]
theorem a4I {c:UInt8}:∀ {s:Str} {m:Nat},Go.Lib.indexByte s c=m->m < s.length/\B0 c s=s.take m::B0 c (s.drop (m+1))
 | [],m,h=>by rw [Go.Lib.indexByte] at h;omega
 | b::l,m,h=>by
  rw [Go.Lib.indexByte] at h;by_cases hb:b=c
  ·rw [n_1 (sp_ hb)] at h;have hm:m=0:=by omega
   subst hm;exact ⟨si_,by rw [B0,n_1 hb];rfl⟩
  ·rw [n_0 (sp_ hb)] at h;have hg:=Go.Lib.indexByte_ge l c;split at h
   ·omega
   ·rename_i e;have e':Go.Lib.indexByte l c≠-1:=sp_ e;obtain ⟨k,hk⟩:∃ k:Nat,Go.Lib.indexByte l c=k:=⟨(Go.Lib.indexByte l c).toNat,om_⟩;have hmk:m=k+1:=by omega
    subst hmk;obtain ⟨h1,h2⟩:=a4I hk;refine ⟨by simp;omega,?_⟩;rw [B0,n_0 hb,h2];rfl
theorem c8g (n:Nat) {k:Nat}:J0 n (.vec 1 (d.map scv++List.replicate k (scv []))):=fun r hr c hc=>by
 rcases Y1.1 hr with hr | hr
 ·obtain ⟨x,_,rfl⟩:=I9.1 hr;simp [scv] at hc;subst hc;exact .val _
 ·have:=List.eq_of_mem_replicate hr;subst this;simp [scv] at hc;subst hc;exact .val _
theorem c4e {k:Nat} (hk:0 < k):(d.map scv++List.replicate k (scv []))[0+((d.length:Int)).toNat]? = some (scv []):=by
 rw [K9,a1Z,a0y si_];simp [hk]
theorem c50 {n:Nat} {x:Str} (hk:d.length < n):(d.map scv++List.replicate (n - d.length) (scv [])).set (0+((d.length:Int)).toNat) (scv x)=(d++[x]).map scv++List.replicate (n - (d++[x]).length) (scv []):=by
 rw [K9,a1Z,List.set_append,n_0 si_];obtain ⟨j,hj⟩:∃ j,n - d.length=j+1:=⟨n - d.length - 1,om_⟩;have h2:n - (d++[x]).length=j:=by simp;omega
 rw [hj,h2];simp [List.replicate_succ]
theorem a5r (s:Str) (c:UInt8) (hs:s.length<=1000000000) (σ:List b9):b8 CC 207 [(sv s),(sv ([c])),(iv (0)),(iv (-1))] σ fun r Y=>r = .ret (.list ((B0 c s).map scv) true none)/\Y=σ:=by
 refine b8.anyw hCC pu_ pu_ ?_ σ;have hcnt:=s.count_le_length (a:=c);have cH:([c]:Str).length=1:=rfl;refine c7 (cO Tryz.func207 ?_);refine qs 3 ?_;refine cC ?_ ?_<;>intro h1
 ·simp at h1
 ·refine qk (qY N6 ?_);refine cC ?_ ?_<;>intro h2
  ·simp at h2
  ·refine qk ?_;refine L9 hCC (α:=Unit) (fun _=>[(0,(sv s)),(1,(sv ([c]))),(2,(iv (0))),(3,(iv (((s.count c:Nat):Int)+1)))]) (fun _=>[]) (fun _=>True) w8 uz_ ?_ ?_
   ·
    refine qk ?_;refine cC ?_ ?_<;>intro h3
    ·refine qk (qY (c4 rfl Tryz.call262 j1 (a7A s c _) rfl) ?_);refine qY o7 ?_;exact ⟨(),_,tt,tu_,rfl⟩
    ·simp at h3
   ·intro _ _;refine a5R ?_;refine qY o7 ?_;refine qY (d2o rfl tt tt rfl rfl) ?_;refine qD (b87 rfl tt tt rfl rfl (n:=(s.count c+1)) (c:=(s.count c+1)) om_ om_ t_2 t_0 a4b t_3 rfl (a4W rfl) rfl om_ G7 a4s ?_);refine qY Y8 ?_;refine j7 hCC (α:=List Str × Str) (fun x=>[(0,(sv x.2)),(1,(sv ([c]))),(2,(iv (0))),(3,(iv ((s.count c:Nat):Int))),(9,.vec 0 0 (s.count c+1)),(10,iv x.1.length)]) (fun x=>[.vec 1 (x.1.map scv++List.replicate (s.count c+1 - x.1.length) (scv []))]) (fun x=>x.1.length<=s.count c/\B0 c s=x.1++B0 c x.2/\x.2.length<=s.length) (fun x=>s.count c+1 - x.1.length) ([],s) ⟨n_5 _,rfl,n_6 _⟩ ⟨o0,o0,o0,⟨tt,n_9 (fun z:Int=>(iv z)) om_⟩,o0,o0,tt⟩ (ah:=[]) rfl w8 uz_ ?_;intro ⟨d,u⟩ ⟨hd,af,hul⟩;dsimp only at hd af hul ⊢;have aj:=a0M c s;rw [af,n_7,a0M c u] at aj;refine qk (qC ?_ ?_)<;> intro h4
    ·have fi:d.length < s.count c:=sm_ h4;refine qY (c4 rfl Tryz.call263 j1 (a7q u c _) rfl) ?_;refine cC ?_ ?_<;>intro h5
     ·exfalso;have hneg:Go.Lib.indexByte u c = -1:=by
       have:=Go.Lib.indexByte_ge u c;have h5':Go.Lib.indexByte u c < 0:=sp_ h5;omega
      have h6:=a0M c u;rw [a30 hneg] at h6;simp at h6;omega
     ·have hm0:¬ Go.Lib.indexByte u c < 0:=sp_ h5;obtain ⟨m,hm⟩:∃ m:Nat,Go.Lib.indexByte u c=m:=⟨(Go.Lib.indexByte u c).toNat,om_⟩;obtain ⟨hml,hsu⟩:=a4I hm;rw [hm];refine qk (qY a3E ?_);refine qY (J7 (h:=m) rfl tt rfl t_5 rfl a8g a3I a3I) ?_;refine qY (V1 rfl tt tt rfl rfl t_2 t_0 rfl om_ om_) ?_;refine qD (R2 ((d++[u.take m]).map scv++List.replicate (s.count c+1 - (d++[u.take m]).length) (scv [])) rfl tt tt rfl j2 t_0 (.inl rfl) rfl (c4e (d:=d) (k:=s.count c+1 - d.length) om_) rfl (nb rfl) (by exact c50 (d:=d) (x:=u.take m) (n:=s.count c+1) om_) rfl ?_);refine qY O8 ?_;refine qY a3E ?_;refine qY (J7 (a:=(m+1)) rfl tt rfl t_5 a8g rfl a3I a3I) ?_;refine qY o7 ?_;exact ⟨(d++[u.take m],u.drop (m+1)),_,⟨by simp;omega,by simp;omega,by rw [af,hsu];simp,by simp;omega⟩,⟨⟨tt,(n_9 sv (show (u.take u.length).drop (m+1)=u.drop (m+1) by rw [a60]))⟩,o0,o0,o0,o0,⟨tt,n_9 (fun z:Int=>(iv z)) si_⟩,tt⟩,rfl⟩
    ·have fi:d.length=s.count c:=by
      have:¬ (d.length:Int) < ((s.count c:Nat):Int):=sp_ h4;omega
     have hu1:B0 c u=[u]:=by
      apply a30;have h6:=a0M c u;have hg:=Go.Lib.indexByte_ge u c
      rcases Int.lt_or_le (Go.Lib.indexByte u c) 0 with h | h
      ·omega
      ·obtain ⟨m,hm⟩:∃ m:Nat,Go.Lib.indexByte u c=m:=⟨(Go.Lib.indexByte u c).toNat,om_⟩;obtain ⟨_,h7⟩:=a4I hm;have h8:=n_9 List.length h7;have h9:=a0E c (u.drop (m+1));have aU:=b1w.2 h9;simp only [C4] at h8;omega
     rw [hu1] at af;refine j6 ?_;refine qY (V1 rfl tt tt rfl rfl t_2 t_0 rfl om_ om_) ?_;refine qD (R2 ((d++[u]).map scv++List.replicate (s.count c+1 - (d++[u]).length) (scv [])) rfl tt tt rfl j2 t_0 (.inl rfl) rfl (c4e (d:=d) (k:=s.count c+1 - d.length) om_) rfl (nb rfl) (by exact c50 (d:=d) (x:=u) (n:=s.count c+1) om_) rfl ?_);refine qY o7 ?_;refine qY (b2A (h:=(d.length+1)) rfl tt rfl t_2 t_0 rfl rfl a8g a8w (by first|(simp;done)|(simp;omega))) ?_;refine c6 ?_;exact ⟨_,rE1,_,_,rfl,rfl,.vecs (n_5 _) rfl (by first|(simp;done)|(simp;omega)) (by rw [af,a9s];exact List.take_left' si_) (fun r hr c hc=>(D8 (f:=scv) (fun _=>T0.all ⟨.val _,tt⟩) _) r hr c hc)⟩
theorem a7P (s:Str) (c:UInt8) (hs:s.length<=1000000000) (σ:List b9):b8 CC 162 [(sv s),(sv ([c]))] σ fun r Y=>r = .ret (.list ((B0 c s).map scv) true none)/\Y=σ:=by
 refine b8.anyw hCC pu_ pu_ (c7 (qO Tryz.func162 ?_)) σ;refine qY (c4 rfl Tryz.call207 ⟨tt,tt,rfl,rfl,tt⟩ (a5r s c hs _) rfl) ?_;refine c6 ?_;exact ⟨_,rE1,_,_,rfl,rfl,(X9 rfl (E7 _ _))⟩
def a3D (p:Str):Bool:=decide (1<=p.length) && decide (p.length<=24) && p.all (inK [1,2,3,4])
def G6 (s:Str):Bool:=decide (s.length<=80) && decide ((B0 47 s).length<=8) && (B0 47 s).all a3D
theorem c15 {c:UInt8}:∀ p∈B0 c s,p.length<=s.length:=by
 induction s with
 | nil=>intro p hp;simp [B0] at hp;subst hp;simp
 | cons b l ih =>
  intro p hp;rw [B0] at hp;by_cases h:b=c
  ·rw [n_1 h] at hp
   rcases P0.1 hp with rfl | hp
   ·simp
   ·have:=ih p hp;simp;omega
  ·rw [n_0 h] at hp;cases hs:B0 c l with
   | nil=>exact absurd hs (a0E c l)
   | cons x xs =>
    rw [hs] at hp ih
    rcases P0.1 hp with rfl | hp
    ·have:=ih x si_;simp;omega
    ·have:=ih p (by simp [hp]);simp;omega
theorem b9P (p:Str) (h1:x=decide ((p.length:Int) < 1)) (h2:y=decide ((p.length:Int) > 24)) (h3:z = !((A2 p 0 [1,2,3,4]:Int) == (p.length:Int))):((x || y) || z) = !a3D p:=by
 subst h1 h2 h3;have h5:((A2 p 0 [1,2,3,4]:Int) == (p.length:Int))=p.all (inK [1,2,3,4]):=by
  cases h:p.all (inK [1,2,3,4]) with
  | true=>exact a1R (by have:=a6V.2 h;omega)
  | false =>
   refine a1o fun e=>?_;have:=a6V.1 (show A2 p 0 [1,2,3,4]=p.length by omega);rw [h] at this;cases this
 rw [h5,a3D];have h6:decide ((p.length:Int) < 1) = !decide (1<=p.length):=by by_cases h:1<=p.length<;>simp [h]<;>omega
 have h7:decide ((p.length:Int) > 24) = !decide (p.length<=24):=by by_cases h:p.length<=24<;>simp [h]<;>omega
 rw [h6,h7];simp [Bool.not_and]
theorem a1g (s:Str) (hs:s.length<=1000000000) (σ:List b9):b8 CC 118 [(sv s)] σ fun r Y=>r = .ret (.val (.bool (G6 s)))/\Y=σ:=by
 refine b8.anyw hCC pu_ pu_ (c7 (qO Tryz.func118 ?_)) σ;refine qY (c4 rfl Tryz.call162 o4 (a7P s 47 hs _) rfl) ?_;refine qY O8 ?_;refine qG C3 ?_;refine qG (fun hg=>a0s rfl hg rfl t_2 b0p rfl) ?_;refine a3g ?_;refine qC ?_ ?_<;>intro h1
 ·have cz:G6 s=false:=by
   unfold G6;have dD:(decide ((s.length:Int) > 80) || decide (((B0 47 s).length:Int) > 8))=true:=h1;by_cases h:s.length<=80
   ·have h2:¬ (B0 47 s).length<=8:=by
     intro h2;have e1:decide ((s.length:Int) > 80)=false:=a1o om_;have e2:decide (((B0 47 s).length:Int) > 8)=false:=a1o om_;rw [e1,e2] at dD;cases dD
    simp [h2]
   ·simp [h]
  exact d0Z
 ·have bd:s.length<=80/\(B0 47 s).length<=8:=by
   have dD:(decide ((s.length:Int) > 80) || decide (((B0 47 s).length:Int) > 8))=false:=h1;simp only [b6R,b4o] at dD;omega
  refine qD (c5 rfl c4l trivial (a9w _) rfl ?_);intro m hm;refine qY I7 ?_;refine j7 hCC (α:=Nat) (fun i=>[(4,.map 0),(18,(.list ((B0 47 s).map scv) true none)),(19,(iv ((B0 47 s).length:Int))),(20,iv i)]) (fun _=>[.map (gm kb kv m)]) (fun i=>i<=(B0 47 s).length/\((B0 47 s).take i).all a3D=true) (fun i=>(B0 47 s).length - i) 0 ⟨n_5 _,rfl⟩ tu_ (ah:=[]) rfl w8 uz_ ?_;intro i ⟨hi,bE⟩;refine qk (qC ?_ ?_)<;> intro h2
  ·have bh:(i:Int) < (B0 47 s).length:=sp_ h2;obtain ⟨p,hp⟩:∃ p,(B0 47 s)[i]? = some p:=⟨(B0 47 s)[i]'om_,si_⟩;have aT:=c15 p (n_2 hp);refine qY (o9 rfl tt tt rfl rfl t_2 t_0 om_ (i8 hp) rfl) ?_;refine qY O8 ?_;refine a6p ?_;refine a3g ?_;refine a2j ?_;refine qG (fun hg=>B3 ([1,2,3,4].map icv) rfl ⟨rfl,rfl,rfl,rfl,tt⟩ t_4 t_1 t_8 rfl rfl rfl rfl rfl rfl rfl rfl rfl) ?_;refine qG (fun hg=>c4 rfl c75 ⟨hg,rfl,hg,hg,tt⟩ (a6b hm (n_5 _) om_ de_ rfl) rfl) ?_;refine a6p ?_;refine a79 ?_;refine qC ?_ ?_<;>intro h3
   ·have hbad:a3D p=false:=by
     have h3':true = !a3D p:=Eq.trans (Eq.symm h3) (b9P p rfl rfl rfl);simpa using h3'.symm
    have cz:G6 s=false:=by
     unfold G6;have:(B0 47 s).all a3D=false:=by
      rw [b9K];intro hh;have:=a5p.1 hh p (n_2 hp);rw [hbad] at this;cases this
     rw [this];simp
    exact d0Z
   ·have hgood:a3D p=true:=by
     have h3':false = !a3D p:=Eq.trans (Eq.symm h3) (b9P p rfl rfl rfl);simpa using h3'.symm
    refine qY o7 ?_;exact ⟨(i+1),_,⟨om_,om_,by
     obtain ⟨ae,he⟩:=n_3.1 hp;rw [<- b2J ae,List.all_append,bE,he];simp [hgood]⟩,tu_,rfl⟩
  ·have aE:(B0 47 s).length<=i:=by
    have:¬ (i:Int) < (B0 47 s).length:=sp_ h2;omega
   rw [W1 aE] at bE;refine V9 ?_;exact ⟨_,rE1,_,_,rfl,rfl,j8 (by rw [G6,bE];simp [bd.1,bd.2])⟩
theorem c5k (c:Int):(decide (c>=97) && decide (c<=122))=decide (k8 c=1):=by
 by_cases h:97<=c/\c<=122
 ·have e:k8 c=1:=by unfold k8;rw [n_1 h]
  simp [e,h.1,h.2]
 ·have e:k8 c≠1:=by
   unfold k8;rw [n_0 h]
   repeat' split
   all_goals omega
  have e2:¬ (c>=97/\c<=122):=h;simp only [a1o e];by_cases h1:c>=97
  ·have h2:¬ c<=122:=fun h2=>h ⟨h1,h2⟩;simp [h2]
  ·simp [h1]
theorem c93 (b:UInt8) (hx:x=decide (k8 b.toNat=1)) (hy:y=(decide ((b.toNat:Int)>=48) && decide ((b.toNat:Int)<=57))) (hz:z=((b.toNat:Int) == 95)):((x || y) || z)=inK [1,2,3] b:=by
 subst hx hy hz;unfold inK;generalize (b.toNat:Int)=c;have h2:(decide (c>=48) && decide (c<=57))=decide (k8 c=2):=by
  by_cases h:48<=c/\c<=57
  ·have e:k8 c=2:=by unfold k8;rw [n_0 om_,n_1 h]
   simp [e,h.1,h.2]
  ·have e:k8 c≠2:=by
    unfold k8
    repeat' split
    all_goals omega
   simp only [a1o e];by_cases h1:c>=48
   ·have h2:¬ c<=57:=fun h2=>h ⟨h1,h2⟩;simp [h2]
   ·simp [h1]
 have h3:(c == 95)=decide (k8 c=3):=by
  by_cases h:c=95
  ·subst h;rfl
  ·have e:k8 c≠3:=by
    unfold k8
    repeat' split
    all_goals omega
   rw [a1o e];simp [h]
 rw [h2,h3];simp [Bool.or_assoc]
theorem a32 (b:UInt8) (σ:List b9):b8 CC 131 [(.val (.int .u8 (b.toNat:Int)))] σ fun r Y=>r = .ret (.val (.bool (decide (k8 b.toNat=1))))/\Y=σ:=by
 refine b8.anyw hCC pu_ pu_ (c7 (qO Tryz.func131 ?_)) σ;refine a9t ?_;refine c6 ?_;exact ⟨_,rE1,_,_,rfl,rfl,j8 (c5k _)⟩
theorem a56 (b:UInt8) (σ:List b9):b8 CC 119 [(.val (.int .u8 (b.toNat:Int)))] σ fun r Y=>r = .ret (.val (.bool (inK [1,2,3] b)))/\Y=σ:=by
 refine b8.anyw hCC pu_ pu_ (c7 (qO Tryz.func119 ?_)) σ;refine qY (c4 rfl c81 ⟨tt,tt⟩ (a32 b _) rfl) ?_;refine qG C3 ?_;refine b68 ?_;refine qH rfl rfl (fun hk hg=>a0Y rfl tt j2) ?_;refine d0m ?_;refine qY Q1 ?_;refine qG C3 ?_;refine a3g ?_;refine c6 ?_;exact ⟨_,rE1,_,_,rfl,rfl,j8 (c93 b rfl rfl rfl)⟩
theorem d7d (h:(((decide ((s.length:Int) < 1)) || decide ((s.length:Int) > 24)) || !decide (k8 ((s.headD 0).toNat:Int)=1))=true):A9 s=false:=by
 cases s with
 | nil=>rfl
 | cons b l =>
  unfold A9;by_cases h1:(b::l).length<=24
  ·have e1:decide (((b::l).length:Int) > 24)=false:=a1o om_;have e2:decide (((b::l).length:Int) < 1)=false:=a1o Q7;rw [e1,e2] at h;have h3:k8 (b.toNat:Int)≠1:=sp_ h;simp [h3]
  ·simp only [a1o h1,Bool.false_and]
theorem d7p (h:(((decide ((s.length:Int) < 1)) || decide ((s.length:Int) > 24)) || !decide (k8 ((s.headD 0).toNat:Int)=1))=false) (ha:s.all (inK [1,2,3])=true):A9 s=true:=by
 cases s with
 | nil=>simp at h
 | cons b l =>
  simp only [b6R,b4o,Bool.not_eq_false'] at h;unfold A9;have h1:(b::l).length<=24:=by omega
  have h3:k8 (b.toNat:Int)=1:=sp_ h.2;rw [ha];simp only [a1R h1,a1R h3];rfl
theorem d0c {b:UInt8} (hb:s[i]? = some b) (h:inK [1,2,3] b=false):A9 s=false:=by
 cases s with
 | nil=>rfl
 | cons x l =>
  unfold A9;have:(x::l).all (inK [1,2,3])=false:=by
   rw [b9K];intro hh;have:=a5p.1 hh b (n_2 hb);rw [h] at this;cases this
  rw [this];show (_ && false)=false;rw [Bool.and_false]
theorem c4Q {b:UInt8} {p:UInt8->Bool} (hb:s[i]? = some b) (ha:(s.take i).all p=true) (h:p b=true):(s.take (i+1)).all p=true:=by
 obtain ⟨ae,rfl⟩:=n_3.1 hb;rw [<- b2J ae,List.all_append,ha];simp [h]
theorem a1k (s:Str) (σ:List b9):b8 CC 85 [(sv s)] σ fun r Y=>r = .ret (.val (.bool (A9 s)))/\Y=σ:=by
 refine b8.anyw hCC pu_ pu_ (c7 (qO Tryz.func85 ?_)) σ;refine qY O8 ?_;refine a6p ?_;refine a3g ?_;refine qG C3 ?_;refine qG d6P ?_;refine qG (fun hg=>c4 rfl c81 ⟨hg,tt⟩ (a32 (s.headD 0) _) rfl) ?_;refine b7B ?_;refine qC ?_ ?_<;>intro h1
 ·have cz:A9 s=false:=d7d h1;exact d0Z
 ·have bd:=d7p h1;have hs:s.length<=24:=sm_ h1;refine j7 hCC (α:=Nat) (fun i=>[(0,(sv s)),(3,iv i)]) (fun _=>[]) (fun i=>i<=s.length/\(s.take i).all (inK [1,2,3])=true) (fun i=>s.length - i) 0 ⟨n_5 _,rfl⟩ tu_ (ah:=[]) rfl w8 uz_ ?_;intro i ⟨hi,bE⟩;refine a5R ?_;refine qC ?_ ?_<;>intro h2
  ·have bh:(i:Int) < s.length:=sp_ h2;obtain ⟨b,hb⟩:=gx_ s i;refine qY b7J ?_;refine qY (c4 rfl c5P ⟨tt,tt⟩ (a56 b _) rfl) ?_;refine qC ?_ ?_<;>intro h3
   ·have cz:A9 s=false:=d0c hb (sp_ h3);exact d0Z
   ·refine qY o7 ?_;exact ⟨(i+1),_,⟨om_,om_,c4Q hb bE (sp_ h3)⟩,tu_,rfl⟩
  ·have aE:s.length<=i:=by
    have:¬ (i:Int) < s.length:=sp_ h2;omega
   rw [W1 aE] at bE;refine V9 ?_;exact ⟨_,rE1,_,_,rfl,rfl,j8 (by rw [bd bE])⟩
theorem d2G (b:UInt8) (hx:x=inK [1,2,3] b) (hy:y=((b.toNat:Int) == 46)):(x || y)=inK [1,2,3,4] b:=by
 subst hx hy;unfold inK;generalize (b.toNat:Int)=c;have h4:(c == 46)=decide (k8 c=4):=by
  by_cases h:c=46
  ·subst h;rfl
  ·have e:k8 c≠4:=by
    unfold k8
    repeat' split
    all_goals omega
   rw [a1o e];simp [h]
 rw [h4];simp [Bool.or_assoc]
def a1I (aS parts:Nat) (u:Str):Bool:=match B0 47 u with
 | []=>false
 | p::ps=>decide (1<=aS+p.length) && decide (aS+p.length<=24) && p.all (inK [1,2,3,4]) && ps.all a3D && decide (parts+ps.length<=8)
theorem b8F (h:s.length<=80):G6 s=a1I 0 1 s:=by
 unfold G6 a1I;cases hs:B0 47 s with
 | nil=>exact absurd hs (a0E 47 s)
 | cons p ps =>
  have e1:decide ((p::ps).length<=8)=decide (1+ps.length<=8):=by rw [C4,b3N]
  rw [e1,a1R h];simp only [b6I,a3D,K9,b6t];cases decide (1+ps.length<=8)<;>simp
theorem c8y:a1I aS parts []=(decide (1<=aS) && decide (aS<=24) && decide (parts<=8)):=by
 simp [a1I,B0]
theorem b9d (h:aS<=24):a1I aS parts (47::u)=(decide (1<=aS) && a1I 0 (parts+1) u):=by
 unfold a1I;rw [B0,n_1 rfl];cases hs:B0 47 u with
 | nil=>exact absurd hs (a0E 47 u)
 | cons p ps =>
  have e:decide (parts+(p::ps).length<=8)=decide (parts+1+ps.length<=8):=b5V.2 Q7;simp only [e,b6I,a3D,K9,I3,a7l,a1R h,List.all_nil,Bool.and_true,b8w]
theorem c9V {b:UInt8} (hb:b≠47) (hk:inK [1,2,3,4] b=true):a1I aS parts (b::u)=a1I (aS+1) parts u:=by
 unfold a1I;rw [B0,n_0 hb];cases hs:B0 47 u with
 | nil=>exact absurd hs (a0E 47 u)
 | cons p ps =>
  have e:aS+(b::p).length=aS+1+p.length:=by simp;omega
  simp only [e,b6I,hk,b6t]
theorem c43 {b:UInt8} (hb:b≠47) (hk:inK [1,2,3,4] b=false):a1I aS parts (b::u)=false:=by
 unfold a1I;rw [B0,n_0 hb];cases hs:B0 47 u with
 | nil=>exact absurd hs (a0E 47 u)
 | cons p ps=>simp [hk]
theorem c2i (h:24 < aS):a1I aS parts u=false:=by
 unfold a1I
 split
 ·rfl
 ·rename_i p ps _;have:¬ aS+p.length<=24:=by omega
  simp [this]
theorem c8L {b:UInt8} (h:s[i]? = some b):s.drop i=b::s.drop (i+1):=by
 obtain ⟨ae,rfl⟩:=n_3.1 h;exact R4 ae
theorem c8H:(decide ((aS:Int) > 0) && decide ((parts:Int)<=8))=(decide (1<=aS) && decide (parts<=8)):=by
 have e1:decide ((aS:Int) > 0)=decide (1<=aS):=b5V.2 om_;have e2:decide ((parts:Int)<=8)=decide (parts<=8):=b5V.2 om_;rw [e1,e2]
theorem a1h (s:Str) (σ:List b9):b8 CC 61 [(sv s)] σ fun r Y=>r = .ret (.val (.bool (G6 s)))/\Y=σ:=by
 refine b8.anyw hCC pu_ pu_ (c7 (qO Tryz.func61 ?_)) σ;refine qY O8 ?_;refine qC ?_ ?_<;>intro h1
 ·have h80:¬ s.length<=80:=by
   have:(s.length:Int) > 80:=sp_ h1;omega
  refine c6 ?_;exact ⟨_,rE1,_,_,rfl,rfl,j8 (by simp [G6,h80])⟩
 ·have h80:s.length<=80:=by
   have:¬ (s.length:Int) > 80:=sp_ h1;omega
  refine j7 hCC (α:=Nat × Nat × Nat) (fun x=>[(0,(sv s)),(3,iv x.2.1),(4,iv x.2.2),(5,iv x.1)]) (fun _=>[]) (fun x=>x.1<=s.length/\x.2.2<=24/\x.2.1<=x.1+1/\G6 s=a1I x.2.2 x.2.1 (s.drop x.1)) (fun x=>s.length - x.1) (0,1,0) ⟨n_5 _,de_,de_,b8F h80⟩ tu_ (ah:=[]) rfl w8 uz_ ?_;intro ⟨i,parts,aS⟩ ⟨hi,gG,hpa,aL⟩;dsimp only at hi gG hpa aL ⊢;refine a5R ?_;refine qC ?_ ?_<;>intro h2
  ·have bh:(i:Int) < s.length:=sp_ h2;obtain ⟨b,hb⟩:=gx_ s i;rw [c8L hb] at aL;refine qY b7J ?_;refine qC ?_ ?_<;>intro h3
   ·have hb47:b=47:=by
     have h47:(b.toNat:Int)=47:=sp_ h3;have h48:(47:UInt8).toNat=47:=rfl;exact b1N.1 om_
    subst hb47;rw [b9d gG] at aL;refine qC ?_ ?_<;>intro h4
    ·have dR:aS=0:=by
      have:(aS:Int)=0:=sp_ h4;omega
     subst dR;refine c6 ?_;exact ⟨_,rE1,_,_,rfl,rfl,j8 (show false=G6 s by rw [aL];rfl)⟩
    ·have dR:1<=aS:=by
      have:¬ (aS:Int)=0:=sp_ h4;omega
     rw [a1R dR,b6t] at aL;refine qY o7 ?_;refine cC ?_ ?_<;>intro h5
     ·exfalso;simp at h5
     ·refine a8U ?_;exact ⟨(i+1,parts+1,0),_,⟨do_,do_,do_,do_,aL⟩,tu_,rfl⟩
   ·have hb47:b≠47:=by
     intro e;subst e;simp at h3
    refine qY b7J ?_;refine qY (c4 rfl c5P ⟨tt,tt⟩ (a56 b _) rfl) ?_;refine a2j ?_;refine qG d6h ?_;refine a3g ?_;refine qC ?_ ?_<;>intro h6
    ·have bw:inK [1,2,3,4] b=true:=Eq.trans (Eq.symm (d2G b rfl rfl)) h6;rw [c9V hb47 bw] at aL;refine qY o7 ?_;refine qC ?_ ?_<;>intro h7
     ·have hbig:24 < aS+1:=by
       have:((aS:Int)+1) > 24:=sp_ h7;omega
      refine c6 ?_;exact ⟨_,rE1,_,_,rfl,rfl,j8 (show false=G6 s by rw [aL,c2i hbig])⟩
     ·have hbig:aS+1<=24:=by
       have:¬ ((aS:Int)+1) > 24:=sp_ h7;omega
      refine qY o7 ?_;exact ⟨(i+1,parts,aS+1),_,⟨do_,do_,hbig,do_,aL⟩,tu_,rfl⟩
    ·have bw:inK [1,2,3,4] b=false:=Eq.trans (Eq.symm (d2G b rfl rfl)) h6;rw [c43 hb47 bw] at aL;refine c6 ?_;exact ⟨_,rE1,_,_,rfl,rfl,j8 (show false=G6 s from aL.symm)⟩
  ·have aE:s.length<=i:=by
    have:¬ (i:Int) < s.length:=sp_ h2;omega
   rw [T5 aE,c8y,a1R gG,Bool.and_true] at aL;refine j6 ?_;refine a9t ?_;refine c6 ?_;exact ⟨_,rE1,_,_,rfl,rfl,j8 (Eq.trans c8H aL.symm)⟩
structure Ky where
 k:Int
 a:Str
 b:Str
deriving DecidableEq
variable {b:UInt8} {a:Nat}
abbrev Ky.cells (x:Ky):List CV:=[iv x.k,sv x.a,sv x.b]
def Ky.cv (x:Ky):List CV:=x.cells
theorem a5a (l:List Ky) (nn:Bool):u0 (.list (l.map Ky.cv) nn none):=P9 (f:=Ky.cv) (fun _=>⟨.val _,.val _,.val _,tt⟩) l nn
theorem a9p (n:Nat) (l:List Ky) (nn:Bool):Old n (.list (l.map Ky.cv) nn none):=(a5a l nn).old
theorem c1v (n:Nat) (x:Ky):J0 n (.box x.cells):=B6 ⟨.val _,.val _,.val _,tt⟩
def a0x (x:Ky):Bool :=
 if (x.k == 1 || x.k == 2)=true then A9 x.a && A9 x.b else if (x.k == 3 || x.k == 4)=true then G6 x.a && decide (x.b=[]) else if (x.k == 5 || x.k == 6 || x.k == 7)=true then A9 x.a && decide (x.b=[]) else false
theorem b9n (x:Ky) (ha:x.a.length<=1000000000) (hb0:x.b.length<=1000000000) (σ:List b9):b8 CC 59 [.agg x.cells] σ fun r Y=>r = .ret (.val (.bool (a0x x)))/\Y=σ:=by
 refine an_ Tryz.func59 ?_;refine b1p ?_;refine D4 ?_;refine qs 1 ?_;refine L9 hCC (α:=Bool) (fun b=>[(1,.ptr 0 0),(4,iv x.k),(5,(.val (.bool b)))]) (fun _=>[.box x.cells]) (fun b=>b=(x.k == 1 || x.k == 2)) w8 uz_ ?_ ?_
 ·
  refine qk (qC ?_ ?_)<;> intro h1
  ·exact ⟨(x.k == 1),_,(by simp_all),tu_,rfl⟩
  ·exact ⟨(x.k == 2),_,(by simp_all),tu_,rfl⟩
 ·intro b hb;refine cC ?_ ?_<;>intro h2
  ·refine qk (qY c1z ?_);refine d3X ?_;refine qG (fun hg=>c4 rfl b9j ⟨hg,tt⟩ (a0J x.b _) rfl) ?_;refine qY M8 ?_;exact d2e
  ·refine L9 hCC (α:=Bool) (fun b=>[(1,.ptr 0 0),(4,iv x.k),(16,(.val (.bool b)))]) (fun _=>[.box x.cells]) (fun b=>b=(x.k == 3 || x.k == 4)) w8 uz_ ?_ ?_
   ·
    refine qk (qC ?_ ?_)<;> intro h3
    ·exact ⟨(x.k == 3),_,(by simp_all),tu_,rfl⟩
    ·exact ⟨(x.k == 4),_,(by simp_all),tu_,rfl⟩
   ·intro b2 cq;refine qC ?_ ?_<;>intro h4
    ·refine qY (c4 rfl c2U ⟨tt,tt⟩ (a1g x.a om_ _) rfl) ?_;refine c8T ?_;exact d1X
    ·refine qC ?_ ?_<;>intro h5
     ·refine qC ?_ ?_<;>intro h6
      ·refine qY c1z ?_;exact b23
      ·exact b2F
     ·refine qC ?_ ?_<;>intro h7
      ·refine qC ?_ ?_<;>intro h8
       ·refine qY c1z ?_;exact b23
       ·exact b2F
      ·refine qC ?_ ?_<;>intro h9
       ·refine qY c1z ?_;exact b23
       ·exact b2F
theorem b5Y (x:Ky)  (σ:List b9):b8 CC 36 [.agg x.cells] σ fun r Y=>r = .ret (.val (.bool (a0x x)))/\Y=σ:=by
 refine an_ Tryz.func36 ?_;refine b1p ?_;refine D4 ?_;refine qs 1 ?_;refine L9 hCC (α:=Bool) (fun b=>[(1,.ptr 0 0),(4,iv x.k),(5,(.val (.bool b)))]) (fun _=>[.box x.cells]) (fun b=>b=(x.k == 1 || x.k == 2)) w8 uz_ ?_ ?_
 ·
  refine qk (qC ?_ ?_)<;> intro h1
  ·exact ⟨(x.k == 1),_,(by simp_all),tu_,rfl⟩
  ·exact ⟨(x.k == 2),_,(by simp_all),tu_,rfl⟩
 ·intro b hb;refine cC ?_ ?_<;>intro h2
  ·refine qk (qY c1A ?_);refine d3X ?_;refine qG (fun hg=>c4 rfl c2a ⟨hg,tt⟩ (a1k x.b _) rfl) ?_;refine qY M8 ?_;exact d2e
  ·refine L9 hCC (α:=Bool) (fun b=>[(1,.ptr 0 0),(4,iv x.k),(16,(.val (.bool b)))]) (fun _=>[.box x.cells]) (fun b=>b=(x.k == 3 || x.k == 4)) w8 uz_ ?_ ?_
   ·
    refine qk (qC ?_ ?_)<;> intro h3
    ·exact ⟨(x.k == 3),_,(by simp_all),tu_,rfl⟩
    ·exact ⟨(x.k == 4),_,(by simp_all),tu_,rfl⟩
   ·intro b2 cq;refine qC ?_ ?_<;>intro h4
    ·refine qY (c4 rfl c3I ⟨tt,tt⟩ (a1h x.a _) rfl) ?_;refine c8T ?_;exact d1X
    ·refine qC ?_ ?_<;>intro h5
     ·refine qC ?_ ?_<;>intro h6
      ·refine qY c1A ?_;exact b23
      ·exact b2F
     ·refine qC ?_ ?_<;>intro h7
      ·refine qC ?_ ?_<;>intro h8
       ·refine qY c1A ?_;exact b23
       ·exact b2F
      ·refine qC ?_ ?_<;>intro h9
       ·refine qY c1A ?_;exact b23
       ·exact b2F
theorem d6W (x y:Ky):∀ w,(Op.equal 39 (.agg [.int .i64 x.k,.string (str x.a),.string (str x.b)].toArray) (.agg [.int .i64 y.k,.string (str y.a),.string (str y.b)].toArray)).run CC.P w = .ok (decide (x=y)) w:=fun w=>by
 show (Op.equal _ _ _).run Tryz.prog w=_;simp [Op.equal,Op.maxDepth,go_sem,Y3];obtain ⟨a,b,c⟩:=x;obtain ⟨a',b',c'⟩:=y;by_cases h1:a=a'<;>by_cases h2:b=b'<;>by_cases h3:c=c'<;>simp [h1,h2,h3]
theorem c3Z {a b:List α} (h1:a.length=b.length) (h2:∀ j,j < a.length->a[j]? = b[j]?):a=b:=by
 apply b8A fun j=>?_;by_cases h:j < a.length
 ·exact h2 j h
 ·rw [b7p om_,b7p om_]
theorem b8b (a b:List Ky) (na nbz:Bool) (hl:a.length<=maxLen) (σ:List b9):b8 CC 31 [(.list (a.map Ky.cv) na none),(.list (b.map Ky.cv) nbz none)] σ fun r Y=>r = .ret (.val (.bool (decide (a=b))))/\Y=σ:=by
 refine b8.anyw hCC pu_ pu_ ?_ σ;unfold maxLen at hl;refine c7 (qO Tryz.func31 ?_);refine qY b61 ?_;refine qY b61 ?_;refine qC ?_ ?_<;>intro h1
 ·have aC:¬ a=b:=fun g=>by simp [g] at h1
  refine c6 ?_;exact ⟨_,rE1,_,_,rfl,rfl,j8 (show false=decide (a=b) by simp [aC])⟩
 ·have aj:a.length=b.length:=sm_ h1;refine qY b61 ?_;refine j7 hCC (α:=Nat) (fun i=>[(0,(.list (a.map Ky.cv) na none)),(1,(.list (b.map Ky.cv) nbz none)),(12,iv a.length),(13,iv i)]) (fun _=>[]) (fun i=>i<=a.length/\∀ j,j < i->a[j]? = b[j]?) (fun i=>a.length - i) 0 ⟨n_5 _,fun j hj=>absurd hj (Nat.not_lt_zero j)⟩ tu_ (ah:=[]) rfl w8 uz_ ?_;intro i ⟨hi,hp⟩;refine qk (qC ?_ ?_)<;> intro h2
  ·have ae:(i:Int) < a.length:=sp_ h2;obtain ⟨x,hx⟩:=gx_ a i;obtain ⟨y,hy⟩:=gx_ b i;refine cW 9 ?_;refine b8N ?_;refine hY (o9 rfl tt tt rfl rfl b1J a7m om_ (i8 hx) rfl) ?_;refine hY c67 ?_;refine b8N ?_;refine hY (o9 rfl tt tt rfl rfl b1J a7m om_ (i8 hy) rfl) ?_;refine hY c67 ?_;refine hY (d5S rfl tt tt (xs:=[.int .i64 x.k,.string (str x.a),.string (str x.b)]) (ys:=[.int .i64 y.k,.string (str y.a),.string (str y.b)]) rfl rfl Tryz.eqGuardType39 (d6W x y)) ?_;refine Y5 ?_;refine qC ?_ ?_<;>intro h3
   ·have gI:¬ x=y:=sp_ h3;refine c6 ?_;exact ⟨_,rE1,_,_,rfl,rfl,j8 (show false=decide (a=b) from (a1o fun g=>gI (by rw [g,hy] at hx;exact (Option.some.inj hx).symm)).symm)⟩
   ·have gI:x=y:=sp_ h3;refine qY o7 ?_;exact ⟨i+1,_,⟨om_,om_,fun j hj=>by
     rcases a3c j i with h | h
     ·exact hp j h
     ·obtain rfl:j=i:=by omega
      rw [hx,hy,gI]⟩,tu_,rfl⟩
  ·have aE:¬ (i:Int) < a.length:=sp_ h2;refine V9 ?_;exact ⟨_,rE1,_,_,rfl,rfl,j8 (show true=decide (a=b) from (a1R (c3Z aj fun j hj=>hp j om_)).symm)⟩
end Go.Proofs.YtlppbmfecjabeaaGreatDoor
