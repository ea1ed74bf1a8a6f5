/- Part 2 of what the claim needs: values without addresses, and what the program's functions do with them. -/
import Derived.Below
import Derived.WideKeyArgs
import Derived.ChangeSame
import Derived.ChangeSlices
import Derived.Lib.SmallJoins
import Derived.LaidLaws
import Derived.LaidMore
import Derived.LaidHandle
import Derived.JoinedOf
import Derived.Handed
import Derived.Stop.Joined
import Derived.Lib.MinMax
import Derived.Lib.Bytealg
import Derived.Recover
import Derived.Lib.Builder
import Derived.Lib.UnsafeStr
import Derived.Test.YtoblbdedgjfeaaaGreatDoorZ1
namespace Go.Cl
def b0o (ops:Array Oper) (ix:List Nat) (nh:Nat) (ms:List Nat) (fls:List (List Nat)):Bool :=
 Nat.beq ix.length ops.size && Q7 ix && (ix.all fun j=>Nat.blt j ops.size) && ((List.range ops.size).all fun j=>ix.contains j) && Nat.ble nh ops.size && Nat.beq (nh+fls.length) ops.size &&
 ((List.range ops.size).all fun j =>
  match ops[j]? with
  | none=>true
  | some o =>
   (o.after.toList.all fun e=>!y8 e || Nat.blt e.on j) &&
   ((List.range ops.size).all fun i=>!(ms.getD j 0).testBit i || o.after.toList.any fun e=>y8 e && (Nat.beq e.on i || (ms.getD e.on 0).testBit i))) &&
 ((List.range ops.size).all fun k =>
  match ops[ix.getD k 0]? with
  | none=>true
  | some o =>
   (if Nat.ble nh k then (List.range k).all fun k'=>Nat.blt k' nh || (ms.getD (ix.getD k 0) 0).testBit (ix.getD k' 0) else true) &&
   ((o.looksAt ops).all fun t=>(List.range ops.size).all fun k'=>Nat.beq k' k || !((ops[ix.getD k' 0]?).bind (·.dst) == some t) || (if Nat.blt k' k then (ms.getD (ix.getD k 0) 0).testBit (ix.getD k' 0) else (ms.getD (ix.getD k' 0) 0).testBit (ix.getD k 0))) &&
   (o.dst == none || (List.range k).all fun k'=>!((ops[ix.getD k' 0]?).bind (·.dst) == o.dst) || (ms.getD (ix.getD k 0) 0).testBit (ix.getD k' 0))) &&
 ((List.range fls.length).all fun p=>(List.range nh).all fun k=>(fls.getD p []).contains k || (List.range (p+1)).any fun p'=>(ms.getD (ix.getD (nh+p') 0) 0).testBit (ix.getD k 0))
structure a6W (ops:Array Oper) (ix:List Nat) (nh:Nat) (ms:List Nat) (fls:List (List Nat)):Prop where
 len:ix.length=ops.size
 nodup:∀ (i j k:Nat),ix[i]? = some k→ix[j]? = some k→i=j
 lt:∀ (k j:Nat),ix[k]? = some j→j < ops.size
 onto:∀ j,j < ops.size→∃ k:Nat,ix[k]? = some j
 le:nh≤ops.size
 fl:nh+fls.length=ops.size
 edge:∀ j o,ops[j]? = some o→∀ e∈o.after,y8 e=true→e.on < j
 mask:∀ j o,ops[j]? = some o→∀ i,i < ops.size→(ms.getD j 0).testBit i=true→∃ e∈o.after,y8 e=true∧(e.on=i∨(ms.getD e.on 0).testBit i=true)
 tail:∀ (k k' j j':Nat),nh≤k'→k' < k→ix[k]? = some j→ix[k']? = some j'→(ms.getD j 0).testBit j'=true
 tmps:∀ (k j:Nat) (o:Oper),ix[k]? = some j→ops[j]? = some o→∀ t∈o.looksAt ops,∀ (k' j':Nat) (o':Oper),k'≠k→ix[k']? = some j'→ops[j']? = some o'→o'.dst=some t→(k' < k∧(ms.getD j 0).testBit j'=true)∨(k < k'∧(ms.getD j' 0).testBit j=true)
 dsts:∀ (k k' j j':Nat) (o o':Oper) (d:Nat),k' < k→ix[k]? = some j→ix[k']? = some j'→ops[j]? = some o→ops[j']? = some o'→o.dst=some d→o'.dst=some d→(ms.getD j 0).testBit j'=true
 fls:∀ p k,p < fls.length→k < nh→k∈fls.getD p []∨∃ p',p'≤p∧(ms.getD (ix.getD (nh+p') 0) 0).testBit (ix.getD k 0)=true
theorem b7w {ops:Array Oper} {ix:List Nat} {nh:Nat} {ms:List Nat} {fls:List (List Nat)} (h:b0o ops ix nh ms fls=true):a6W ops ix nh ms fls:=by
 unfold b0o at h
 simp only [Bool.and_eq_true] at h
 obtain ⟨⟨⟨⟨⟨⟨⟨⟨h1,h2⟩,h3⟩,h4⟩,h5⟩,h6⟩,h7⟩,h8⟩,h9⟩:=h
 have hlen:=Nat.eq_of_beq_eq_true h1
 simp only [List.all_eq_true] at h3 h4 h7 h8 h9
 have getD_of:∀ {k j:Nat},ix[k]? = some j→ix.getD k 0=j∧k < ops.size:=fun {k j} hk=>⟨by simp [List.getD_eq_getElem?_getD,hk],by rw [← hlen]; exact (List.getElem?_eq_some_iff.1 hk).1⟩
 have get7:∀ j o,ops[j]? = some o→_:=fun j o ho=>by
  have hj:j < ops.size:=(Array.getElem?_eq_some_iff.1 ho).1
  have:=h7 j (by simpa using hj)
  rw [ho] at this
  simp only [Bool.and_eq_true] at this
  exact this
 have get8:∀ k j o,ix[k]? = some j→ops[j]? = some o→_:=fun k j o hk ho=>by
  have:=h8 k (by simpa using (getD_of hk).2)
  rw [(getD_of hk).1,ho] at this
  simp only [Bool.and_eq_true] at this
  exact this
 refine ⟨hlen,a0A h2,fun k j hk=>by have:=h3 j (List.mem_of_getElem? hk); simpa [Nat.blt_eq] using this,fun j hj=>?_,nb h5,Nat.eq_of_beq_eq_true h6,fun j o ho e he hb=>?_,fun j o ho i hi hm=>?_,fun k k' j j' hn hlt hk hk'=>?_,fun k j o hk ho t ht k' j' o' hne hk' ho' hd=>?_,fun k k' j j' o o' d hlt hk hk' ho ho' hd hd'=>?_,fun p k hp hk=>?_⟩
 ·have:=h4 j (by simpa using hj)
  have hm:j∈ix:=by simpa using this
  exact List.mem_iff_getElem?.1 hm
 ·have:=(get7 j o ho).1
  rw [List.all_eq_true] at this
  have:=this e (by simpa using he)
  simp only [hb,Bool.not_true,Bool.false_or] at this
  simpa [Nat.blt_eq] using this
 ·have:=(get7 j o ho).2
  rw [List.all_eq_true] at this
  have:=this i (by simpa using hi)
  simp only [hm,Bool.not_true,Bool.false_or,List.any_eq_true,Bool.and_eq_true,Bool.or_eq_true] at this
  obtain ⟨e,he,hb,hx⟩:=this
  refine ⟨e,by simpa using he,hb,?_⟩
  rcases hx with hx | hx
  ·exact .inl (Nat.eq_of_beq_eq_true hx)
  ·exact .inr hx
 ·have ho:ops[j]? = some (ops[j]'(by have:=h3 j (List.mem_of_getElem? hk); simpa [Nat.blt_eq] using this)):=by simp
  have:=(get8 k j _ hk ho).1.1
  rw [if_pos (by simp [Nat.ble_eq]; omega),List.all_eq_true] at this
  have:=this k' (by simpa using hlt)
  rw [(getD_of hk').1] at this
  have e1:Nat.blt k' nh=false:=Bool.eq_false_iff.2 fun hb=>by simp [Nat.blt_eq] at hb; omega
  simpa [e1] using this
 ·have:=(get8 k j o hk ho).1.2
  rw [List.all_eq_true] at this
  have:=this t ht
  rw [List.all_eq_true] at this
  have:=this k' (by simpa using (getD_of hk').2)
  rw [(getD_of hk').1] at this
  have e1:Nat.beq k' k=false:=Bool.eq_false_iff.2 fun hb=>hne (Nat.eq_of_beq_eq_true hb)
  simp only [e1,ho',Option.bind_some,hd,Bool.false_or,beq_self_eq_true,Bool.not_true] at this
  by_cases hlt:k' < k
  ·rw [if_pos (by simpa [Nat.blt_eq] using hlt)] at this
   exact .inl ⟨hlt,this⟩
  ·rw [if_neg (by simp [Nat.blt_eq]; omega)] at this
   exact .inr ⟨by omega,this⟩
 ·have:=(get8 k j o hk ho).2
  simp only [hd,Bool.or_eq_true,List.all_eq_true,List.mem_range] at this
  rcases this with h | h
  ·cases h
  ·have:=h k' hlt
   rw [(getD_of hk').1] at this
   simp only [ho',Option.bind_some,hd',beq_self_eq_true,Bool.not_true,Bool.false_eq_true,false_or] at this
   exact this
 ·have:=h9 p (by simpa using hp) k (by simpa using hk)
  simp only [Bool.or_eq_true,List.any_eq_true,List.mem_range] at this
  rcases this with h | ⟨p',hp',h⟩
  ·exact .inl (by simpa using h)
  ·exact .inr ⟨p',by omega,h⟩
section
variable {C:Ctx} {n:Nat} {σ:List c5} {ops:Array Oper}
def a1d (C:Ctx) (σ:List c5) (ops:Array Oper) (K:Env→List (List c5→Prop)→Prop):List Nat→Env→List (List c5→Prop)→Prop
 | [],E,S=>K E S
 | i::l,E,S=>∃ o c g,ops[i]? = some o∧C7 C σ ops o E c g∧a1d C σ ops K l (E.put o.dst c g) (S++[fun σ'=>C7 C σ' ops o E c g])
def b4t (C:Ctx) (ops:Array Oper) (o:Oper) (E:Env) (σ:List c5) (K:CV→Prop→List c5→Prop) (Kp:CV→List c5→Prop):Prop :=
 (o.guard=none∧C2 C σ E o fun r σ'=>match r with | .ret c=>K c True σ' | .pan c=>Kp c σ')∨(∃ c g,C7 C σ ops o E c g∧K c g σ)
def J2 (S:List (List c5→Prop)) (σ:List c5):List Nat→Prop
 | []=>True
 | k::l=>(S.getD k fun _=>True) σ∧J2 S σ l
theorem J2.get {S:List (List c5→Prop)} {σ:List c5}:∀ {l:List Nat},J2 S σ l→∀ k∈l,(S.getD k fun _=>True) σ
 | [],_,k,h=>by cases h
 | x::l,⟨h1,h2⟩,k,h=>by
  rcases List.mem_cons.1 h with rfl | h
  ·exact h1
  ·exact h2.get k h
def a1s (C:Ctx) (ops:Array Oper) (Q:s8→Env→List c5→Prop) (S:List (List c5→Prop)):List (Nat × List Nat)→Env→List c5→Prop
 | [],E,σ=>Q .normal E σ
 | (i,fl)::l,E,σ=>∃ o,ops[i]? = some o∧b4t C ops o E σ (fun c g σ'=>J2 S σ' fl∧a1s C ops Q S l (E.put o.dst c g) σ') (fun c σ'=>∀ E',Q (.pan c) E' σ')
theorem a0e (L:Nat→Bool):∀ (l r:List (Oper × CV × Prop)) (k:Nat) (E:Env),l7 L k (l++r) E=l7 L (k+l.length) r (l7 L k l E)
 | [],_,_,_=>rfl
 | (o,c,g)::l,r,k,E=>by
  simp only [List.cons_append,l7,List.length_cons]
  rw [a0e L l r (k+1)]
  congr 1; omega
theorem Q0 {L:Nat→Bool}:∀ (l:List (Oper × CV × Prop)) (k:Nat) (E:Env),(∀ i,i < l.length→L (k+i)=false)→l7 L k l E=E
 | [],_,_,_=>rfl
 | (o,c,g)::l,k,E,h=>by
  have h0:=h 0 (by simp)
  rw [Nat.add_zero] at h0
  simp only [l7,h0]
  exact Q0 l (k+1) E fun i hi=>by
   have:=h (i+1) (by simpa using hi)
   rwa [show k+(i+1)=k+1+i by omega] at this
theorem K0 {L L':Nat→Bool}:∀ (l:List (Oper × CV × Prop)) (k:Nat) (E:Env),(∀ i,i < l.length→L (k+i)=L' (k+i))→l7 L k l E=l7 L' k l E
 | [],_,_,_=>rfl
 | (o,c,g)::l,k,E,h=>by
  have h0:=h 0 (by simp)
  rw [Nat.add_zero] at h0
  simp only [l7,h0]
  exact K0 l (k+1) _ fun i hi=>by
   have:=h (i+1) (by simpa using hi)
   rwa [show k+(i+1)=k+1+i by omega] at this
theorem a0z {d:Nat} {L:Nat→Bool}:∀ (l:List (Oper × CV × Prop)) (k j:Nat) (E:Env) (o:Oper) (c:CV) (g:Prop),l[j]? = some (o,c,g)→o.dst=some d→L (k+j)=true→(∀ i x,j < i→l[i]? = some x→L (k+i)=true→x.1.dst≠some d) →
 (l7 L k l E).f d=c∧(l7 L k l E).ok d=g∧(l7 L k l E).un d=(¬ g)
 | [],_,_,_,_,_,_,h,_,_,_=>by simp at h
 | (o',c',g')::l,k,0,E,o,c,g,h,hd,hL,hu=>by
  simp only [List.getElem?_cons_zero,Option.some.injEq,Prod.mk.injEq] at h
  obtain ⟨rfl,rfl,rfl⟩:=h
  rw [Nat.add_zero] at hL
  simp only [l7,hL]
  have:(l7 L (k+1) l (E.put o'.dst c' g')).agree d (l7 (fun _=>false) (k+1) l (E.put o'.dst c' g')):=x9 l _ _ _ ⟨rfl,rfl,rfl⟩ fun i x hi hx=>(by
   cases hLi:L (k+1+i) with
   | false=>rfl
   | true=>exact absurd hx (hu (i+1) x (by omega) (by simpa using hi) (by rwa [show k+(i+1)=k+1+i by omega])))
  rw [Q0 (L:=fun _=>false) l _ _ (fun _ _=>rfl)] at this
  rw [this.1,this.2.1,this.2.2,hd,Env.put_f,Env.put_ok,Env.put_un]
  simp
 | (o',c',g')::l,k,j+1,E,o,c,g,h,hd,hL,hu=>by
  simp only [l7]
  exact a0z l (k+1) j _ o c g (by simpa using h) hd (by rwa [show k+1+j=k+(j+1) from by omega]) fun i x hij hi hLi=>hu (i+1) x (by omega) (by simpa using hi) (by rwa [show k+(i+1)=k+1+i by omega])
def a4r (C:Ctx) (ops:Array Oper) (hs:List (Oper × CV × Prop)) (E:Env) (k:Nat) (σ':List c5):Prop :=
 match hs[k]? with
 | some (o,c,g)=>C7 C σ' ops o (l7 (fun j=>decide (j < k)) 0 hs E) c g
 | none=>True
theorem a03 {K:Env→List (List c5→Prop)→Prop}:∀ (l:List Nat) (E:Env) (S:List (List c5→Prop)),a1d C σ ops K l E S→∃ hs:List (Oper × CV × Prop),hs.length=l.length∧(∀ (k i:Nat),l[k]? = some i→∃ o c g,hs[k]? = some (o,c,g)∧ops[i]? = some o) ∧
 K (l7 (fun _=>true) 0 hs E) (S++(List.range hs.length).map (a4r C ops hs E)) ∧
 ∀ (k:Nat) (o:Oper) (c:CV) (g:Prop),hs[k]? = some (o,c,g)→C7 C σ ops o (l7 (fun j=>decide (j < k)) 0 hs E) c g
 | [],E,S,h=>⟨[],rfl,by simp,by simpa [a1d,l7] using h,by simp⟩
 | i::l,E,S,⟨o,c,g,ho,h1,h2⟩=>by
  obtain ⟨hs,e0,e1,e2,e3⟩:=a03 l _ _ h2
  have shift:∀ (L:Nat→Bool) (l:List (Oper × CV × Prop)) (k:Nat) (E:Env),l7 L (k+1) l E=l7 (fun i=>L (i+1)) k l E:=by
   intro L l
   induction l with
   | nil=>intros; rfl
   | cons x l ih=>intro k E; obtain ⟨a,b,c⟩:=x; simp only [l7]; exact ih _ _
  have h0:l7 (fun j=>decide (j < 0)) 0 ((o,c,g)::hs) E=E:=Q0 _ _ _ (fun i hi=>by simp)
  have hS:∀ k,l7 (fun j=>decide (j < k+1)) 0 ((o,c,g)::hs) E=l7 (fun j=>decide (j < k)) 0 hs (E.put o.dst c g):=fun k=>by
   simp only [l7]
   have:decide (0 < k+1)=true:=by simp
   rw [this,shift]
   congr 1
   funext j; simp
  refine ⟨(o,c,g)::hs,by simp [e0],fun k j hk=>?_,?_,fun k o' c' g' hk=>?_⟩
  ·rcases k with _ | k
   ·simp at hk; subst hk; exact ⟨o,c,g,rfl,ho⟩
   ·simpa using e1 k j (by simpa using hk)
  ·have hK:l7 (fun _=>true) 0 ((o,c,g)::hs) E=l7 (fun _=>true) 0 hs (E.put o.dst c g):=by
    simp only [l7]
    rw [shift]
   rw [hK]
   have hl:(S++[fun σ'=>C7 C σ' ops o E c g])++((List.range hs.length).map (a4r C ops hs (E.put o.dst c g)))=S++(List.range ((o,c,g)::hs).length).map (a4r C ops ((o,c,g)::hs) E):=by
    rw [List.append_assoc]
    congr 1
    rw [List.length_cons,List.range_succ_eq_map,List.map_cons,List.map_map]
    rw [List.singleton_append]
    congr 1
    ·funext σ'
     simp only [a4r,List.getElem?_cons_zero,h0]
    ·refine List.map_congr_left fun k _=>?_
     funext σ'
     simp only [a4r,Function.comp,List.getElem?_cons_succ,Nat.succ_eq_add_one,hS]
   rw [← hl]
   exact e2
  ·rcases k with _ | k
   ·simp only [List.getElem?_cons_zero,Option.some.injEq,Prod.mk.injEq] at hk
    obtain ⟨rfl,rfl,rfl⟩:=hk
    rw [h0]; exact h1
   ·rw [hS]
    exact e3 k o' c' g' (by simpa using hk)
theorem a1M {ix:List Nat} {nh:Nat} {ms:List Nat} {fls:List (List Nat)} (hok:a6W ops ix nh ms fls) {listed:Array Bool} (hcl:∀ k o,ops[k]? = some o→listed.getD k false=true→∀ e∈o.after,y8 e=true→listed.getD e.on false=true) :
 ∀ (j:Nat) (o:Oper),ops[j]? = some o→(∀ e∈o.after,y8 e=true→listed.getD e.on false=true)→∀ i,i < ops.size→(ms.getD j 0).testBit i=true→listed.getD i false=true:=by
 intro j
 induction j using Nat.strongRecOn with
 | _ j ih =>
  intro o ho he i hi hm
  obtain ⟨e,hmem,hb,hx⟩:=hok.mask j o ho i hi hm
  rcases hx with hx | hx
  ·subst hx; exact he e hmem hb
  ·have hlt:=hok.edge j o ho e hmem hb
   have hj:j < ops.size:=(Array.getElem?_eq_some_iff.1 ho).1
   have ho':ops[e.on]? = some (ops[e.on]'(by omega)):=by simp [show e.on < ops.size by omega]
   exact ih e.on hlt _ ho' (hcl _ _ ho' (he e hmem hb)) i hi hx
theorem b3i {ix:List Nat} {nh:Nat} {ms:List Nat} {fls:List (List Nat)} (hok:a6W ops ix nh ms fls) {Q:s8→Env→List c5→Prop} {E:Env} {hs:List (Oper × CV × Prop)} (hhl:hs.length=nh) (hhs:∀ (k i:Nat),k < nh→ix[k]? = some i→∃ o c g,hs[k]? = some (o,c,g)∧ops[i]? = some o)
 (hd:∀ o∈ops,∀ d,o.dst=some d→d < n) {S:List (List c5→Prop)} (hS:∀ (k:Nat) (o:Oper) (c:CV) (g:Prop) σ',hs[k]? = some (o,c,g)→(S.getD k fun _=>True) σ'→C7 C σ' ops o (l7 (fun j=>decide (j < k)) 0 hs E) c g) (M0:l3) (w0:World) :
 ∀ (fuel:Nat) (j:Nat) (ts:List (Oper × CV × Prop)) (listed:Array Bool) (u:List Nat) (σ:List c5) (a:Act) (w:World) (M:l3),listed.size=ops.size→u.length=fuel→(∀ i,i < ops.size→listed.getD i false=false→i∈u)→(∀ i,i∈u→i < ops.size∧listed.getD i false=false)→u.Nodup →
  (∀ k o,ops[k]? = some o→listed.getD k false=true→∀ e∈o.after,y8 e=true→listed.getD e.on false=true) →
  nh+j≤ops.size→ts.length=j→(∀ (k i:Nat),nh≤k→k < nh+j→ix[k]? = some i→listed.getD i false=true∧∃ o c g,ts[k - nh]? = some (o,c,g)∧ops[i]? = some o)→(∀ (k i:Nat),nh+j≤k→ix[k]? = some i→listed.getD i false=false) →
  (∀ (k i:Nat) (o:Oper) (c:CV) (g:Prop),k < nh→ix[k]? = some i→listed.getD i false=false→hs[k]? = some (o,c,g)→C7 C σ ops o (l7 (fun j=>decide (j < k)) 0 hs E) c g) →
  a1s C ops Q S (((List.range (ops.size - nh)).map fun p=>(ix.getD (nh+p) 0,fls.getD p [])).drop j) (l7 (fun _=>true) 0 (hs++ts) E) σ →
  Ext M0 w0 M w→Rel C M σ w→G3 M w n (l7 (fun k=>listed.getD (ix.getD k 0) false) 0 (hs++ts) E) a→wpAny C.P .any ops (E6 C n Q M0 w0) fuel listed a w:=by
 have ixD:∀ {k i:Nat},ix[k]? = some i→ix.getD k 0=i:=fun {k i} h=>by simp [List.getD_eq_getElem?_getD,h]
 have ixk:∀ k,k < ops.size→∃ i:Nat,ix[k]? = some i:=fun k hk=>⟨ix[k]'(by rw [hok.len]; exact hk),by simp⟩
 have hclosed:∀ {listed:Array Bool},(∀ k o,ops[k]? = some o→listed.getD k false=true→∀ e∈o.after,y8 e=true→listed.getD e.on false=true)→∀ i j:Nat,i < ops.size→j < ops.size→(ms.getD j 0).testBit i=true→listed.getD j false=true→listed.getD i false=true:=fun {listed} hcl i j hi hj hm hl=>by
  have ho:ops[j]? = some ops[j]:=by simp [hj]
  exact a1M hok hcl j _ ho (hcl j _ ho hl) i hi hm
 intro fuel
 induction fuel with
 | zero =>
  intro j ts listed u σ a w M hsz hu hun _ _ hcl hjs hts htl hut hst hct hx hr hf
  have hu0:u=[]:=List.eq_nil_of_length_eq_zero hu
  subst hu0
  have hall:∀ i,i < ops.size→listed.getD i false=true:=fun i hi=>by
   cases h:listed.getD i false with
   | true=>rfl
   | false=>exact absurd (hun i hi h) (by simp)
  have hj:ops.size≤nh+j:=by
   rcases Nat.lt_or_ge (nh+j) ops.size with h | h
   ·obtain ⟨i,hi⟩:=ixk _ h
    have:=hut _ i (Nat.le_refl _) hi
    rw [hall i (hok.lt _ _ hi)] at this
    cases this
   ·exact h
  rw [List.drop_eq_nil_of_le (by simp; omega)] at hct
  refine ⟨List.eq_nil_iff_forall_not_mem.2 fun i hi=>?_,_,σ,M,hx,hr,hf,?_⟩
  ·obtain ⟨h1,o,ho,_⟩:=mem_ready.1 hi
   have hi':i < ops.size:=(Array.getElem?_eq_some_iff.1 ho).1
   have h2:=(w6 (by omega)).1 h1
   rw [hall i hi'] at h2
   cases h2
  ·have he:l7 (fun k=>listed.getD (ix.getD k 0) false) 0 (hs++ts) E=l7 (fun _=>true) 0 (hs++ts) E:=K0 _ _ _ fun k hk=>by
    rw [Nat.zero_add]
    simp [hhl,hts] at hk
    obtain ⟨i,hi⟩:=ixk k (by omega)
    rw [ixD hi]; exact hall i (hok.lt _ _ hi)
   rw [he]; exact hct
 | succ fuel ih =>
  intro j ts listed u σ a w M hsz hu hun hun' hnd hcl hjs hts htl hut hst hct hx hr hf
  have hleast:∃ j,j∈Region.ready .any ops listed:=by
   have hex:∃ j,j < ops.size∧listed.getD j false=false:=by
    cases u with
    | nil=>simp at hu
    | cons x u=>exact ⟨x,hun' x (by simp)⟩
   obtain ⟨j,hj,hmin⟩:∃ j,(j < ops.size∧listed.getD j false=false)∧∀ i,i < j→¬ (i < ops.size∧listed.getD i false=false):=by
    obtain ⟨j,hj⟩:=hex
    induction j using Nat.strongRecOn with
    | _ j ihj =>
     by_cases h:∃ i,i < j∧i < ops.size∧listed.getD i false=false
     ·obtain ⟨i,hi,hp⟩:=h
      exact ihj i hi hp
     ·exact ⟨j,hj,fun i hi hp=>h ⟨i,hi,hp⟩⟩
   refine ⟨j,mem_ready.2 ⟨(w6 (by omega)).2 hj.2,ops[j]'hj.1,by simp [hj.1],fun e he hb=>?_⟩⟩
   have hlt:=hok.edge j _ (by simp [hj.1]) e he hb
   cases h:listed.getD e.on false with
   | true=>rfl
   | false=>exact absurd ⟨by omega,h⟩ (hmin e.on hlt)
  obtain ⟨j0,hj0⟩:=hleast
  refine ⟨fun h0=>(by rw [h0] at hj0; cases hj0),fun i hi=>?_⟩
  obtain ⟨h1,o,ho,he⟩:=mem_ready.1 hi
  have his:i < ops.size:=(Array.getElem?_eq_some_iff.1 ho).1
  have hiL:listed.getD i false=false:=(w6 (by omega)).1 h1
  obtain ⟨k,hk⟩:=hok.onto i his
  have hks:k < ops.size:=by rw [← hok.len]; exact (List.getElem?_eq_some_iff.1 hk).1
  have hiu:i∈u:=hun i his hiL
  have hgd:∀ x,(listed.setIfInBounds i true).getD x false=if x=i then true else listed.getD x false:=fun x=>by
   by_cases hxi:x=i
   ·subst hxi
    have:x < listed.size:=by omega
    simp [this]
   ·rw [if_neg hxi]
    simp [Array.getElem?_setIfInBounds_ne (Ne.symm hxi)]
  have hent:∀ (k':Nat) (x:Oper × CV × Prop),(hs++ts)[k']? = some x→∃ i':Nat,ix[k']? = some i'∧ops[i']? = some x.1∧k' < nh+j∧(nh≤k'→listed.getD i' false=true):=fun k' x hx'=>by
   have hlt:k' < nh+j:=by
    have:=(List.getElem?_eq_some_iff.1 hx').1
    simpa [hhl,hts] using this
   obtain ⟨i',hi'⟩:=ixk k' (by omega)
   refine ⟨i',hi',?_,hlt,fun h=>(htl k' i' h hlt hi').1⟩
   rcases Nat.lt_or_ge k' nh with h | h
   ·rw [List.getElem?_append_left (by omega)] at hx'
    obtain ⟨o',c',g',g1,g2⟩:=hhs k' i' h hi'
    rw [g1] at hx'; cases hx'; exact g2
   ·rw [List.getElem?_append_right (by omega),hhl] at hx'
    obtain ⟨_,o',c',g',g1,g2⟩:=htl k' i' h hlt hi'
    rw [g1] at hx'; cases hx'; exact g2
  have hgen:(∀ x,x < ops.size→(listed.setIfInBounds i true).getD x false=false→x∈u.erase i)∧(∀ x,x∈u.erase i→x < ops.size∧(listed.setIfInBounds i true).getD x false=false) ∧
   (∀ x ox,ops[x]? = some ox→(listed.setIfInBounds i true).getD x false=true→∀ e∈ox.after,y8 e=true→(listed.setIfInBounds i true).getD e.on false=true):=by
   refine ⟨fun x hx' hxl=>?_,fun x hx'=>?_,fun x ox hox hxl e hex hb=>?_⟩
   ·rw [hgd] at hxl
    split at hxl
    ·cases hxl
    ·rename_i hne
     exact (List.mem_erase_of_ne hne).2 (hun x hx' hxl)
   ·have hne:x≠i:=fun e=>by subst e; exact (hnd.not_mem_erase) hx'
    rw [hgd,if_neg hne]
    exact hun' x (List.mem_of_mem_erase hx')
   ·rw [hgd] at hxl ⊢
    split
    ·rfl
    ·split at hxl
     ·rename_i hxi
      subst hxi
      rw [ho] at hox
      injection hox with hox
      subst hox
      exact he e hex hb
     ·exact hcl x ox hox hxl e hex hb
  have quiet:∀ (E1:Env) (c:CV) (g:Prop),C7 C σ ops o E1 c g→(∀ t,t∈o.looksAt ops→E1.agree t (l7 (fun k=>listed.getD (ix.getD k 0) false) 0 (hs++ts) E)) →
   (∀ (v:Value) (w':World) (M':l3),Ext M w M' w'→Rel C M' σ w'→(g→RV M' w' c v)→(¬ g→v=undef)→wpAny C.P .any ops (E6 C n Q M0 w0) fuel (listed.setIfInBounds i true) (a.put o.dst v) w') →
   wpOp C.P ops (E6 C n Q M0 w0) i (wpAny C.P .any ops (E6 C n Q M0 w0) fuel (listed.setIfInBounds i true)) a w:=by
   intro E1 c g hop hag next
   unfold wpOp
   simp only [ho]
   have hopr:∀ x∈o.op.operands,E1.valid x→RV M w (E1.val C x) (a.eval x):=fun x hx hv=>by
    cases x with
    | tmp t =>
     have h2:=hag t (M8 hx)
     simp only [Env.val,Env.valid] at hv ⊢
     rw [h2.1]
     exact hf.rv t (by rw [← h2.2.1]; exact hv)
    | const v=>exact hf.eval (x:=.const v) hr hv
    | global v=>exact hf.eval (x:=.global v) hr hv
    | func v=>exact hf.eval (x:=.func v) hr hv
   rcases hop with ⟨hg,hgp,hy⟩ | ⟨jj,t,want,b,hg,ht,hok',hb,hgb,hy⟩
   ·rw [if_pos (by simp [Region.wanted,hg])]
    refine .inl (D7 (hy M w a.eval hr hopr) (fun v w' ha=>?_) (fun ch w' ha=>?_))
    ·obtain ⟨c',σ',M',h1,h2,h3,h4,rfl⟩:=ha
     injection h4 with h4
     subst h4
     exact next v w' M' h1 h2 (fun _=>h3) fun hh=>absurd hgp hh
    ·obtain ⟨c',v,σ',M',_,_,_,_,h4,_⟩:=ha
     cases h4
   ·have h2:=hag t (F6 hg ht)
    by_cases hokt:E1.ok t
    ·have h3:RV M w ((l7 (fun k=>listed.getD (ix.getD k 0) false) 0 (hs++ts) E).f t) (a.tmps.getD t undef):=hf.rv t (by rw [← h2.2.1]; exact hokt)
     rw [← h2.1,hb] at h3
     have h4:=n8 h3
     have hszt:t < a.tmps.size:=by
      rcases Nat.lt_or_ge t a.tmps.size with h' | h'
      ·exact h'
      ·simp [Array.getElem?_eq_none h',undef] at h4
     have h5:a.tmps[t]? = some (.bool b):=by
      rw [Array.getD_eq_getD_getElem?,Array.getElem?_eq_getElem hszt] at h4
      rw [Array.getElem?_eq_getElem hszt,← h4]; rfl
     have h6:yielded ops a.tmps jj=some b:=by unfold yielded; rw [ht,Option.bind_some,h5]
     have hw:Region.wanted o (yielded ops a.tmps)=(b == want):=by
      simp only [Region.wanted,hg,h6]
      cases b <;> cases want <;> rfl
     by_cases hbw:b=want
     ·rw [if_pos (by rw [hw]; simpa using hbw)]
      refine .inl (D7 (hy hokt hbw M w a.eval hr hopr) (fun v w' ha=>?_) (fun ch w' ha=>?_))
      ·obtain ⟨c',σ',M',h1,h2,h3,h4,rfl⟩:=ha
       injection h4 with h4
       subst h4
       exact next v w' M' h1 h2 (fun _=>h3) fun hh=>absurd (hgb.2 ⟨hokt,hbw⟩) hh
      ·obtain ⟨c',v,σ',M',_,_,_,_,h4,_⟩:=ha
       cases h4
     ·rw [if_neg (by rw [hw]; simpa using hbw)]
      exact next undef w M (Ext.refl M w) hr (fun hgg=>absurd (hgb.1 hgg).2 hbw) fun _=>rfl
    ·have h3:=hf.un t (by rw [← h2.2.2]; exact hok' hokt)
     have h6:yielded ops a.tmps jj=none:=by
      unfold yielded
      rw [ht,Option.bind_some]
      rcases Nat.lt_or_ge t a.tmps.size with h' | h'
      ·rw [Array.getD_eq_getD_getElem?,Array.getElem?_eq_getElem h'] at h3
       rw [Array.getElem?_eq_getElem h']
       simp only [Option.getD_some] at h3
       rw [h3]
       rfl
      ·rw [Array.getElem?_eq_none h']
     have hw:Region.wanted o (yielded ops a.tmps)=false:=by
      simp only [Region.wanted,hg,h6]
      cases want <;> rfl
     rw [if_neg (by rw [hw]; simp)]
     exact next undef w M (Ext.refl M w) hr (fun hgg=>absurd (hgb.1 hgg).1 hokt) fun _=>rfl
  have seen:∀ t,t∈o.looksAt ops→∀ (k':Nat) (x:Oper × CV × Prop),(hs++ts)[k']? = some x→x.1.dst=some t→k'≠k→(k' < k→listed.getD (ix.getD k' 0) false=true)∧(k < k'→listed.getD (ix.getD k' 0) false=false):=fun t ht k' x hx' hxd hne=>by
   obtain ⟨i',hi',ho',hlt',_⟩:=hent k' x hx'
   rw [ixD hi']
   have his':=hok.lt _ _ hi'
   rcases hok.tmps k i o hk ho t ht k' i' x.1 hne hi' ho' hxd with ⟨q1,q2⟩ | ⟨q1,q2⟩
   ·exact ⟨fun _=>a1M hok hcl i o ho (fun e hek hb=>he e hek hb) i' his' q2,fun h=>by omega⟩
   ·refine ⟨fun h=>by omega,fun _=>?_⟩
    cases hl:listed.getD i' false with
    | false=>rfl
    | true =>
     have:=hclosed hcl i i' his his' q2 hl
     rw [hiL] at this
     cases this
  rcases Nat.lt_or_ge k nh with hkn | hkn
  ·
   obtain ⟨o',c,g,hc,ho'⟩:=hhs k i hkn hk
   rw [ho] at ho'
   injection ho' with ho'
   subst ho'
   have hop:=hst k i o c g hkn hk hiL hc
   refine quiet _ c g hop (fun t ht=>?_) fun v w' M' hx' hr' hv hun0=>?_
   ·have e1:l7 (fun j=>decide (j < k)) 0 hs E=l7 (fun j=>decide (j < k)) 0 (hs++ts) E:=by
     rw [a0e,Q0 (L:=fun j=>decide (j < k)) ts _ _ (fun i' hi'=>by simp; omega)]
    rw [e1]
    refine x9 (hs++ts) 0 E E ⟨rfl,rfl,rfl⟩ fun k' x hx' hxd=>?_
    rw [Nat.zero_add]
    by_cases hkk:k'=k
    ·subst hkk; rw [ixD hk,hiL]; simp
    ·have:=seen t ht k' x hx' hxd hkk
     rcases Nat.lt_or_gt_of_ne hkk with h | h
     ·rw [this.1 h]; simp [h]
     ·rw [this.2 h]; simp; omega
   ·refine ih j ts (listed.setIfInBounds i true) (u.erase i) σ _ w' M' (by simp [hsz]) (by rw [List.length_erase_of_mem hiu,hu]; rfl) hgen.1 hgen.2.1 (hnd.erase i) hgen.2.2 hjs hts (fun k' i' h1 h2 h3=>?_) (fun k' i' h1 h3=>?_) (fun k' i' o' c' g' h1 h2 h3 h4=>?_) hct (hx.trans hx') hr' ?_
    ·obtain ⟨g1,g2⟩:=htl k' i' h1 h2 h3
     refine ⟨?_,g2⟩
     rw [hgd]; split
     ·rfl
     ·exact g1
    ·have hne:i'≠i:=fun e=>by
      subst e
      have:=hok.nodup k k' i' hk h3
      omega
     rw [hgd,if_neg hne]
     exact hut k' i' h1 h3
    ·rw [hgd] at h3
     split at h3
     ·cases h3
     ·exact hst k' i' o' c' g' h1 h2 h3 h4
    ·have hput:=(hf.mono hx').put (d:=o.dst) (c:=c) (v:=v) (g:=g) (fun t ht=>hd o (Array.mem_of_getElem? ho) t ht) hv hun0
     have hag':∀ t,(l7 (fun k=>(listed.setIfInBounds i true).getD (ix.getD k 0) false) 0 (hs++ts) E).agree t ((l7 (fun k=>listed.getD (ix.getD k 0) false) 0 (hs++ts) E).put o.dst c g):=by
      intro t
      by_cases hdt:o.dst=some t
      ·have hat:=a0z (L:=fun k=>(listed.setIfInBounds i true).getD (ix.getD k 0) false) (hs++ts) 0 k E o c g (by rw [List.getElem?_append_left (by omega)]; exact hc) hdt (by simp only [Nat.zero_add,ixD hk,hgd,if_true]) (fun k' x hlt hx' hLx hxd=>by
        obtain ⟨i',hi',ho',_,_⟩:=hent k' x hx'
        rw [Nat.zero_add,ixD hi',hgd] at hLx
        have hne:i'≠i:=fun e=>by
         subst e
         have:=hok.nodup k k' i' hk hi'
         omega
        rw [if_neg hne] at hLx
        have hm:=hok.dsts k' k i' i x.1 o t hlt hi' hk ho' ho hxd hdt
        have:=hclosed hcl i i' his (hok.lt _ _ hi') hm hLx
        rw [hiL] at this
        cases this)
       unfold Env.agree
       rw [hat.1,hat.2.1,hat.2.2,hdt,Env.put_f,Env.put_ok,Env.put_un]
       simp
      ·refine (C4 hdt ?_).symm
       refine x9 (hs++ts) 0 E E ⟨rfl,rfl,rfl⟩ fun k' x hx' hxd=>?_
       obtain ⟨i',hi',ho',_,_⟩:=hent k' x hx'
       rw [Nat.zero_add,ixD hi',hgd]
       split
       ·rename_i hki
        subst hki
        rw [ho] at ho'
        injection ho' with ho'
        rw [← ho'] at hxd
        exact absurd hxd hdt
       ·rfl
     refine ⟨hput.defers,hput.size,fun t ht=>?_,fun t ht=>hput.un t (by rw [← (hag' t).2.2]; exact ht)⟩
     rw [(hag' t).1]
     exact hput.rv t (by rw [← (hag' t).2.1]; exact ht)
  ·
   have hkj:k=nh+j:=by
    rcases Nat.lt_trichotomy k (nh+j) with h | h | h
    ·have:=(htl k i hkn h hk).1
     rw [hiL] at this; cases this
    ·exact h
    ·obtain ⟨i',hi'⟩:=ixk (nh+j) (by omega)
     have hm:=hok.tail k (nh+j) i i' (by omega) h hk hi'
     have:=a1M hok hcl i o ho (fun e hek hb=>he e hek hb) i' (hok.lt _ _ hi') hm
     rw [hut (nh+j) i' (Nat.le_refl _) hi'] at this
     cases this
   subst hkj
   have hdrop:(((List.range (ops.size - nh)).map fun p=>(ix.getD (nh+p) 0,fls.getD p [])).drop j)=(i,fls.getD j [])::(((List.range (ops.size - nh)).map fun p=>(ix.getD (nh+p) 0,fls.getD p [])).drop (j+1)):=by
    rw [List.drop_eq_getElem_cons (by simp; omega)]
    rw [List.getElem_map,List.getElem_range,ixD hk]
   rw [hdrop] at hct
   obtain ⟨o',ho',hct⟩:=hct
   rw [ho] at ho'
   injection ho' with ho'
   subst ho'
   have hag:∀ t,t∈o.looksAt ops→(l7 (fun _=>true) 0 (hs++ts) E).agree t (l7 (fun k=>listed.getD (ix.getD k 0) false) 0 (hs++ts) E):=fun t ht=>x9 (hs++ts) 0 E E ⟨rfl,rfl,rfl⟩ fun k' x hx' hxd=>by
    obtain ⟨i',hi',ho',hlt',_⟩:=hent k' x hx'
    rw [Nat.zero_add,(seen t ht k' x hx' hxd (by omega)).1 hlt']
   have next:∀ (v:Value) (c:CV) (g:Prop) (σ':List c5) (w':World) (M':l3),(J2 S σ' (fls.getD j [])∧a1s C ops Q S (((List.range (ops.size - nh)).map fun p=>(ix.getD (nh+p) 0,fls.getD p [])).drop (j+1)) ((l7 (fun _=>true) 0 (hs++ts) E).put o.dst c g) σ') →
    Ext M w M' w'→Rel C M' σ' w'→(g→RV M' w' c v)→(¬ g→v=undef)→wpAny C.P .any ops (E6 C n Q M0 w0) fuel (listed.setIfInBounds i true) (a.put o.dst v) w':=by
    intro v c g σ' w' M' ⟨hfl,hct'⟩ hx' hr' hv hun0
    have hts1:∀ L:Nat→Bool,l7 L 0 (hs++(ts++[(o,c,g)])) E=match L (nh+j) with | true=>(l7 L 0 (hs++ts) E).put o.dst c g | false=>l7 L 0 (hs++ts) E:=fun L=>by
     rw [← List.append_assoc,a0e]
     have:0+(hs++ts).length=nh+j:=by simp [hhl,hts]
     rw [this]; rfl
    have hLc:l7 (fun k=>(listed.setIfInBounds i true).getD (ix.getD k 0) false) 0 (hs++ts) E=l7 (fun k=>listed.getD (ix.getD k 0) false) 0 (hs++ts) E:=K0 _ _ _ fun k' hk'=>by
     rw [Nat.zero_add]
     have hlt':k' < nh+j:=by simpa [hhl,hts] using hk'
     obtain ⟨i',hi'⟩:=ixk k' (by omega)
     rw [ixD hi',hgd,if_neg]
     intro e; subst e
     have:=hok.nodup k' (nh+j) i' hi' hk
     omega
    refine ih (j+1) (ts++[(o,c,g)]) (listed.setIfInBounds i true) (u.erase i) σ' _ w' M' (by simp [hsz]) (by rw [List.length_erase_of_mem hiu,hu]; rfl) hgen.1 hgen.2.1 (hnd.erase i) hgen.2.2 (by omega) (by simp [hts]) (fun k' i' h1 h2 h3=>?_) (fun k' i' h1 h3=>?_) (fun k' i' o' c' g' h1 h2 h3 h4=>?_) (by rw [hts1]; exact hct') (hx.trans hx') hr' ?_
    ·by_cases hkk:k'=nh+j
     ·subst hkk
      rw [hk] at h3
      injection h3 with h3
      subst h3
      refine ⟨by rw [hgd,if_pos rfl],o,c,g,?_,ho⟩
      rw [show nh+j - nh=ts.length by omega]
      simp
     ·obtain ⟨g1,o',c',g',g2,g3⟩:=htl k' i' h1 (by omega) h3
      refine ⟨?_,o',c',g',?_,g3⟩
      ·rw [hgd]; split
       ·rfl
       ·exact g1
      ·rw [List.getElem?_append_left (by omega)]; exact g2
    ·have hne:i'≠i:=fun e=>by
      subst e
      have:=hok.nodup (nh+j) k' i' hk h3
      omega
     rw [hgd,if_neg hne]
     exact hut k' i' (by omega) h3
    ·rw [hgd] at h3
     split at h3
     ·cases h3
     ·rcases hok.fls j k' (by have:=hok.fl; omega) h1 with hin | ⟨p',hp',hm⟩
      ·exact hS k' o' c' g' σ' h4 (hfl.get k' hin)
      ·exfalso
       obtain ⟨i'',hi''⟩:=ixk (nh+p') (by omega)
       rw [ixD hi'',ixD h2] at hm
       have hl:listed.getD i' false=true:=by
        by_cases hpj:p'=j
        ·subst hpj
         rw [hk] at hi''
         injection hi'' with hi''
         subst hi''
         exact a1M hok hcl i o ho (fun e hek hb=>he e hek hb) i' (hok.lt _ _ h2) hm
        ·exact hclosed hcl i' i'' (hok.lt _ _ h2) (hok.lt _ _ hi'') hm (htl (nh+p') i'' (by omega) (by omega) hi'').1
       rw [hl] at h3
       cases h3
    ·rw [hts1]
     have:(listed.setIfInBounds i true).getD (ix.getD (nh+j) 0) false=true:=by rw [ixD hk,hgd,if_pos rfl]
     simp only [this]
     rw [hLc]
     exact (hf.mono hx').put (d:=o.dst) (c:=c) (v:=v) (g:=g) (fun t ht=>hd o (Array.mem_of_getElem? ho) t ht) hv hun0
   rcases hct with ⟨hg,hdo⟩ | ⟨c,g,hop,hkk⟩
   ·unfold wpOp
    simp only [ho]
    rw [if_pos (by simp [Region.wanted,hg])]
    have hopr:∀ x∈o.op.operands,(l7 (fun _=>true) 0 (hs++ts) E).valid x→RV M w ((l7 (fun _=>true) 0 (hs++ts) E).val C x) (a.eval x):=fun x hx hv=>by
     cases x with
     | tmp t =>
      have h2:=hag t (M8 hx)
      simp only [Env.val,Env.valid] at hv ⊢
      rw [h2.1]
      exact hf.rv t (by rw [← h2.2.1]; exact hv)
     | const v=>exact hf.eval (x:=.const v) hr hv
     | global v=>exact hf.eval (x:=.global v) hr hv
     | func v=>exact hf.eval (x:=.func v) hr hv
    refine .inl (D7 (hdo M w a.eval hr hopr) (fun v w' ha=>?_) (fun ch w' ha=>?_))
    ·obtain ⟨c',σ',M',h1,h2,h3,h4⟩:=ha
     exact next v c' True σ' w' M' h4 h1 h2 (fun _=>h3) fun hh=>absurd trivial hh
    ·obtain ⟨c',v,σ',M',h0,h1,h2,h3,h4⟩:=ha
     exact ⟨_,σ',M',hx.trans h1,h2,hf.mono h1,c',v,h0,h3,h4 _⟩
   ·exact quiet _ c g hop hag fun v w' M' hx' hr' hv hun0=>next v c g σ w' M' hkk hx' hr' hv hun0
theorem F3 {id:Nat} {Q:s8→Env→List c5→Prop} {E:Env} (ix:List Nat) (nh:Nat) (ms:List Nat) (fls:List (List Nat)) (hm:C.P.follows .mixedOrders=true) (hB:b0o ops ix nh ms fls=true) (hd:(ops.toList.all fun o=>match o.dst with | some d=>Nat.blt d n | none=>true)=true)
 {hd1l:List Nat} {tll:List (Nat × List Nat)} (hd1:List.take nh ix=hd1l) (hd2:((List.range (ops.size - nh)).map fun p=>(ix.getD (nh+p) 0,fls.getD p []))=tll)
 (h:a1d C σ ops (fun E' S=>a1s C ops Q S tll E' σ) hd1l E []):CWp C n (.region id ops true) Q E σ:=fun M w a hr hf=>by
 subst hd1 hd2
 have hok:=b7w hB
 obtain ⟨hs,h0,h1,h2,h3⟩:=a03 _ _ _ h
 obtain ⟨hr',hx⟩:=hr.drew
 have hl:hs.length=nh:=by rw [h0,List.length_take,hok.len]; have:=hok.le; omega
 refine wp_region_any hm (b3i hok (S:=_) hl (fun k i hk hi=>?_) (fun o ho d hod=>?_) (fun k o c g σ' hk hS=>?_) M w ops.size 0 [] (Array.replicate ops.size false) (List.range ops.size) σ a _ M (by simp) (by simp) (fun i hi _=>by simpa using hi) (fun i hi=>?_) List.nodup_range (fun k o hk hkl=>?_) (by have:=hok.le; omega) rfl (fun k i h1 h2=>by omega) (fun k i _ hi=>?_) (fun k i o c g _ _ _ hk=>h3 k o c g hk) (by rw [List.append_nil,List.drop_zero]; exact h2) hx hr' ?_)
 ·exact h1 k i (by rw [List.getElem?_take,if_pos hk]; exact hi)
 ·rw [List.all_eq_true] at hd
  have:=hd o (by simpa using ho)
  rw [hod] at this
  simpa [Nat.blt_eq] using this
 ·have hlt:=(List.getElem?_eq_some_iff.1 hk).1
  rw [List.nil_append] at hS
  have e:(((List.range hs.length).map (a4r C ops hs E)).getD k fun _=>True)=a4r C ops hs E k:=by simp [List.getD_eq_getElem?_getD,hlt]
  rw [e] at hS
  simpa only [a4r,hk] using hS
 ·have:i < ops.size:=by simpa using hi
  exact ⟨this,by simp [this]⟩
 ·have hks:k < ops.size:=(Array.getElem?_eq_some_iff.1 hk).1
  simp [hks] at hkl
 ·simp [hok.lt _ _ hi]
 ·have hff:l7 (fun k=>(Array.replicate ops.size false).getD (ix.getD k 0) false) 0 (hs++[]) E=E:=Q0 _ _ _ fun i _=>by
   simp only [Array.getD_eq_getD_getElem?,Array.getElem?_replicate]
   split <;> rfl
  rw [hff]
  exact hf.mono hx
end
end Go.Cl
namespace Go.Cl
section
variable {C:Ctx} {n:Nat} {σ:List c5} {ops:Array Oper}
theorem m7 {E:Env} {o:Oper} {c:CV} (hg:o.guard=none) (hy:m6 C σ E o c):C7 C σ ops o E c True:=.inl ⟨hg,tt,hy⟩
theorem H4 {K:Env→List (List c5→Prop)→Prop} {E:Env} {S:List (List c5→Prop)} (h:K E S):a1d C σ ops K [] E S:=h
theorem chf {K:Env→List (List c5→Prop)→Prop} {i:Nat} {l:List Nat} {E:Env} {S:List (List c5→Prop)} {o:Oper} {c:CV} {g:Prop} (ho:ops[i]? = some o) (hop:C7 C σ ops o E c g) (h:a1d C σ ops K l (E.put o.dst c g) (S++[fun σ'=>C7 C σ' ops o E c g])):a1d C σ ops K (i::l) E S :=
 ⟨o,c,g,ho,hop,h⟩
theorem I5 {Q:s8→Env→List c5→Prop} {E:Env} {S:List (List c5→Prop)} (h:Q .normal E σ):a1s C ops Q S [] E σ:=h
theorem F0 {Q:s8→Env→List c5→Prop} {E:Env} {S:List (List c5→Prop)} {i:Nat} {fl:List Nat} {l:List (Nat × List Nat)} {o:Oper} (ho:ops[i]? = some o) (hg:o.guard=none) (h:C2 C σ E o fun r σ'=>match r with | .ret c=>J2 S σ' fl∧a1s C ops Q S l (E.put o.dst c True) σ' | .pan c=>∀ E',Q (.pan c) E' σ'):a1s C ops Q S ((i,fl)::l) E σ :=
 ⟨o,ho,.inl ⟨hg,h⟩⟩
theorem H9 {Q:s8→Env→List c5→Prop} {E:Env} {S:List (List c5→Prop)} {i:Nat} {fl:List Nat} {l:List (Nat × List Nat)} {o:Oper} {c:CV} {g:Prop} (ho:ops[i]? = some o) (hop:C7 C σ ops o E c g) (h:J2 S σ fl∧a1s C ops Q S l (E.put o.dst c g) σ):a1s C ops Q S ((i,fl)::l) E σ :=
 ⟨o,ho,.inr ⟨c,g,hop,h⟩⟩
end
end Go.Cl
namespace Go.Cl
section
variable {C:Ctx} {E:Env} {σ:List c5}
theorem a3R {P:Program} {t e ty:TypeId} {s n c:Nat} {a:Option Addr} {x:Value} {arr:Array Value} {w:World} (hu:∀ w,(underlying t).run P w = .ok (.slice e) w) (hs:∀ w,(sizeOf e).run P w = .ok s w)
 (hlen:∀ w,(Builtin.lenOf x).run P w = .ok 0 w) (hfirst:(Builtin.firstCells s 0 x).run P w = .ok arr w) (harr:arr.size=0) (hneed:n≤c):(Builtin.append_ #[t,t] ty #[.slice a n c,x]).run P w = .ok (.slice a n c) w:=by
 have:arr = #[]:=Array.eq_empty_of_size_eq_zero harr
 subst this
 cases a <;> simp [Builtin.append_,hu,hs,hlen,hfirst,hneed,storeCells]
theorem Rel.addDead {M:l3} {w:World} (hr:Rel C M σ w) (q:Pl):Rel C (M.add q) (σ++[.dead]) w∧Ext M w (M.add q) w:=by
 have hx:Ext M w (M.add q) w:=⟨⟨[q],rfl⟩,fun _ h=>h,fun _ _ h=>.inr h,fun _ _=>rfl,fun _ _ _=>rfl,Nat.le_refl _,G5,rfl,rfl,rfl,fun _ h=>⟨h,rfl,id,fun _=>id⟩⟩
 have hget:∀ {k:Nat} {p:Pl} {ob:c5},(M.add q).pl[k]? = some p→(σ++[.dead])[k]? = some ob→ob = .dead∨(M.pl[k]? = some p∧σ[k]? = some ob):=by
  intro k p ob h1 h2
  rw [List.getElem?_append] at h2
  split at h2
  ·rename_i hlt
   have h1:(M.pl++[q])[k]? = some p:=h1
   rw [List.getElem?_append_left (by rw [hr.len]; exact hlt)] at h1
   exact .inr ⟨h1,h2⟩
  ·refine .inl ?_
   have:=List.mem_of_getElem? h2
   simpa using this
 refine ⟨⟨by show (M.pl++[q]).length=_; simp [hr.len],hr.blk,fun k p ob h1 h2=>?_,fun k k' p p' ob ob' h1 h1' h2 h2' hl hl' hb=>?_,fun g cells hg=>(hr.glob g cells hg).mono hx,hr.kep,fun k p ob h1 h2 hl=>?_⟩,hx⟩
 ·rcases hget h1 h2 with rfl | ⟨g1,g2⟩
  ·exact ⟨tt,tt⟩
  ·obtain ⟨o1,o2⟩:=hr.obj k p ob g1 g2
   exact ⟨o1.mono hx rfl (fun _ _ _ _ h=>h),by cases ob <;> exact o2⟩
 ·rcases hget h1 h2 with rfl | ⟨g1,g2⟩
  ·cases hl
  ·rcases hget h1' h2' with rfl | ⟨g1',g2'⟩
   ·cases hl'
   ·exact hr.inj k k' p p' ob ob' g1 g1' g2 g2' hl hl' hb
 ·rcases hget h1 h2 with rfl | ⟨g1,g2⟩
  ·cases hl
  ·exact hr.nk k p ob g1 g2 hl
theorem L3 {o:Oper} {t e:TypeId} {x y:Operand} {rows new:List (List CV)} {p m:Nat} {s:Nat} {ti:TypeInfo} {z:Value} {K:v7→List c5→Prop} (ho:o.op = .call { callee:=.builtin .append,args:=#[x,y],argTypes:=#[t,t]}) (hx:E.valid x) (hy:E.valid y) (ex:E.val C x = .list rows (gnn m) (P6 m p)) (hm:m=rows.length)
 (hsrc:∀ M w v,Rel C M σ w→RV M w (E.val C y) v→Src C M w new s v) (hu:∀ w,(underlying t).run C.P w = .ok (.slice e) w) (hs:∀ w,(sizeOf e).run C.P w = .ok s w) (hti:∀ w,(typeInfo e).run C.P w = .ok ti w) (hz:∀ w,(zeroValue e).run C.P w = .ok z w) (hzs:z.cells.size=s)
 (happ:(m=0∧σ.set p .dead=σ)∨σ[p]? = some (r9 m)) (hrs:∀ r∈rows,r.length=s) (hb:(rows.length+new.length)*ti.bytes≤140737488355328) (hmax:rows.length+new.length≤9223372036854775807) (rows':List (List CV)) (m':Nat) (he:rows++new=rows') (hm':rows.length+new.length=m')
 (hk:K (.ret (.list rows' (gnn m') (P6 m' σ.length))) (σ.set p .dead++[r9 m'])):C2 C σ E o K:=by
 subst hm he hm'
 rcases new with _ | ⟨r1,new⟩
 ·
  intro M w ρ hr hh
  have h1:=hh x (by simp [ho,Op.operands,Call.operands]) hx
  have h2:=hh y (by simp [ho,Op.operands,Call.operands]) hy
  rw [ex] at h1
  have hsn:=hsrc M w _ hr h2
  have hlen:=hsn.lenOf
  obtain ⟨a,cap,b,off,s',vals,hv,hcap,hcmax,hnn,hn0,ha,hrl,hone,hc,hrv,htok⟩:=h1.list_inv
  obtain ⟨_,_,_,_,_,arr,hfn,hszn,_⟩:=hsn
  have hexec:(execOp ρ o).run C.P w=((Builtin.append_ #[t,t] o.type #[ρ x,ρ y]).run C.P w).andThen fun v w=>.ok (.value v) w:=by
   simp [execOp,ho,resolve,invoke,builtin]
  have hrun:(execOp ρ o).run C.P w = .ok (.value (.slice a rows.length cap)) w:=by
   rw [hexec,hv,a3R hu hs (by simpa using hlen) (by simpa using hfn) (by simpa using hszn) hcap]
   rfl
  rw [hrun]
  simp only [List.append_nil,List.length_nil,Nat.add_zero] at hk
  rcases rows with _ | ⟨r0,rows⟩
  ·obtain ⟨hr1,hx1⟩:=(hr.dead p).addDead ⟨0,0,0⟩
   exact ⟨_,_,_,hx1,hr1,by simpa [gnn,P6,hv] using h1.mono hx1,hk⟩
  ·have happ':σ[p]? = some (.tip (r0::rows).length):=by
    rcases happ with h | h
    ·simp at h
    ·exact h
   obtain ⟨sz,hp,ha0,hoff,hsz⟩:=htok p rfl
   obtain ⟨hx1,hr1⟩:=hr.tipNew (m:=(r0::rows).length) hp happ' (Nat.le_refl _) hcap
   refine ⟨_,_,_,hx1,hr1,?_,hk⟩
   have hl:=h1.mono hx1
   rw [hv] at hl
   obtain ⟨a',cap',b',off',s'',vals',hv',q1,q2,q3,q4,q5,q6,q7,q8,q9,q10⟩:=hl.list_inv
   injection hv' with e1 e2 e3
   subst e1 e3
   refine RV.list' (L:=(r0::rows).length) rfl vals' q1 q2 (by rw [q3]) (fun h=>by cases h) q5 q6 q7 q8 q9 (fun k' hk'=>?_)
   obtain ⟨s3,g1,g2,g3,g4⟩:=q10 p rfl
   injection hk' with hk'
   subst hk'
   refine ⟨s3,?_,g2,g3,g4⟩
   have e4:=hx1.get hp
   rw [g1] at e4
   rw [e4]
   simp [l3.add,← hr.len]
 ·rcases rows with _ | ⟨r,rows⟩
  ·have e:σ.set p .dead=σ:=by
    rcases happ with h | h
    ·exact h.2
    ·refine List.ext_getElem? fun i=>?_
     rw [List.getElem?_set]
     split
     ·rename_i h'; subst h'
      rw [if_pos (List.getElem?_eq_some_iff.1 h).1,h]; rfl
     ·rfl
   rw [e] at hk
   exact a9X ho hx hy ex hsrc hu hs hti hz hzs (.inl ⟨rfl,rfl,rfl⟩) hrs (by simp) hb hmax (by simpa [kill,gnn,P6,r9] using hk)
  ·have happ':σ[p]? = some (.tip (r::rows).length):=by
    rcases happ with h | h
    ·simp at h
    ·exact h
   exact a9X ho hx hy ex hsrc hu hs hti hz hzs (.inr ⟨by simp,p,rfl,happ'⟩) hrs (by simp) hb hmax hk
end
end Go.Cl
namespace Go.Cl
section
variable {C:Ctx} {E:Env} {σ:List c5} {o:Oper}
theorem b3Q {x:Operand} {k off:Nat} (ho:o.op = .nilCheck x) (hx:E.valid x) (ex:E.val C x = .ptr k off):m6 C σ E o (.ptr k off) :=
 j7 fun M w ρ _ h=>by
  have h1:=h x (by simp [ho,Op.operands]) hx
  rw [ex] at h1
  generalize hu':ρ x=u at h1
  cases h1 with
  | ptr hp=>exact ⟨_,by simp [execOp,ho,hu'],.ptr hp⟩
end
end Go.Cl
namespace Go.Cl
open Go Go.ChangeShapes Go.WideShapes Go.RowKit Go.ChangeAt
def whole (w:World):l3:={ pl:=[],full:=fun b=>b < w.heap.size,cell:=fun _ _=>False,keep:=fun b=>b < w.heap.size}
theorem a2v {w:World} {a:Addr} {v:Value} (h:w.cell? a=some v):a.block < w.heap.size∧a.spot=none:=by
 unfold World.cell? at h
 split at h
 ·rename_i hw
  refine ⟨(Array.getElem?_eq_some_iff.1 hw).1,?_⟩
  cases hs:a.spot with
  | none=>rfl
  | some s=>rw [hs] at h; simp at h
 ·cases h
theorem X4 {w:World} {a:Addr} {k:Nat} {v:Value} (h:w.cell? (a.add k)=some v):a.add k=⟨a.block,a.off+k,none⟩:=by
 have hs:=(a2v h).2
 unfold Addr.add at hs ⊢
 by_cases hk:k=0
 ·rw [if_pos hk] at hs ⊢
  subst hk; cases a; simp at hs; subst hs; rfl
 ·rw [if_neg hk]
theorem a8i {w:World} {a:Addr} {v:Value} (h:w.cell? a=some v) (o:Nat):(whole w).at a.block o:=.inl (a2v h).1
theorem a6r {C:Ctx} {w:World} (hg:∀ g cells,C.glob g=some cells→GV (whole w) w cells g):Rel C (whole w) [] w:=by
 refine ⟨rfl,fun b o h=>?_,fun k p ob h=>?_,fun k k' p p' ob ob' h=>?_,hg,fun b h=>h,fun k p ob h=>?_⟩
 ·rcases h with h | h
  ·exact h
  ·exact h.elim
 all_goals simp [whole] at h
theorem a7g {w w':World} {M':l3} (h:Ext (whole w) w M' w'):Below w.heap.size w w' :=
 ⟨h.os,h.tape,h.output,h.size,fun k hk=>h.same k hk⟩
theorem a3Q {C:Ctx} {f:FuncId} {cvs:List CV} {W:World} {args:Array Value} {u:Value}
 (hg:∀ g cells,C.glob g=some cells→GV (whole W) W cells g)
 (hn:args.size=cvs.length) (ha:∀ (i:Nat) (c:CV),cvs[i]? = some c→RV (whole W) W c (args.getD i undef))
 (h:b8 C f cvs [] fun r σ'=>r = .ret (.val u)∧σ'=[]):Calls C.P f args W fun e W'=>e = .returned u∧Below W.heap.size W W':=by
 refine (h (whole W) W args (a6r hg) hn ha).mono fun e W' he=>?_
 cases e with
 | returned v =>
  obtain ⟨c,σ',M',h1,h2,h3,h4,h5⟩:=he
  cases h4
  cases h3
  exact ⟨rfl,a7g h1⟩
 | panicked ch =>
  obtain ⟨c,v,σ',M',-,-,-,-,h4,-⟩:=he
  cases h4
 | outgrown=>exact he.elim
structure RCs (w:World) (row:List CV) (cs:List Value):Prop where
 len:row.length=cs.length
 one:∀ c∈row,c.one=true
 rv:∀ (j:Nat) (c:CV),row[j]? = some c→RV (whole w) w c (cs.getD j undef)
theorem RCs.nil {w:World}:RCs w [] []:=⟨rfl,fun c h=>by simp at h,fun j c h=>by simp at h⟩
theorem RCs.cons {w:World} {c:CV} {v:Value} {row:List CV} {cs:List Value} (h1:c.one=true) (h2:RV (whole w) w c v) (h:RCs w row cs):RCs w (c::row) (v::cs):=by
 refine ⟨by simp [h.len],fun x hx=>?_,fun j x hj=>?_⟩
 ·rcases List.mem_cons.1 hx with rfl | hx
  ·exact h1
  ·exact h.one x hx
 ·rcases j with _ | j
  ·simp at hj; subst hj; simpa using h2
  ·simpa using h.rv j x (by simpa using hj)
theorem RCs.val {w:World} {v:Value} {row:List CV} {cs:List Value} (h1:v.oneCell'=true) (h:RCs w row cs):RCs w (.val v::row) (v::cs):=h.cons h1 (.val v)
section
variable {H:Type} {enc:TypeId × Value→H} {P:Program} {w:World} {base:Nat} {spare:Nat→Bool} {held:Bool}
theorem b5e {α:Type} [Inhabited α] (f:α→List CV) (Q:α→Prop) {t e:TypeId} {fuel:Nat} {cs:List Value} {x:DataW H × List MemPlace} (ht:P.underlying t=some (.slice e)) {s:Nat} (hs:P.cellsOf e=s) (h0:0 < s)
 (hel:∀ (n:Nat) (cs:List Value) (y:DataW H × List MemPlace),DataW.trod enc P w base spare held n e cs=some y→∃ a,Q a∧RCs w (f a) cs)
 (h:DataW.trod enc P w base spare held fuel t cs=some x) :
 ∃ (l:List α) (nn:Bool) (v:Value),cs=[v]∧RV (whole w) w (.list (l.map f) nn none) v∧l.length≤maxLen∧(∀ a∈l,Q a)∧(nn=false→l=[]):=by
 rcases DataW.trod_slice ht h with ⟨rfl,-⟩ | ⟨a,len,cap,elems,rest,n,-,rfl,-,hb,hl,hm,hlen,hE,-,-⟩
 ·exact ⟨[],false,_,rfl,.list (b:=0) (off:=0) (s:=s) (fun _ _=>undef) (Nat.le_refl _) (Nat.zero_le _) rfl (fun _=>rfl) (fun h=>by simp at h) (fun r hr=>by simp at hr) (fun r hr=>by simp at hr) (fun i j r c hi=>by simp at hi) (fun i j r c hi=>by simp at hi) (fun k hk=>by cases hk),Nat.zero_le _,fun a ha=>by simp at ha,fun _=>rfl⟩
 ·have key:∀ i:Nat,i < len→∃ (a':α) (cs':List Value),Q a'∧RCs w (f a') cs'∧cs'.length=s∧∀ j,j < s→w.cell? (a.add (i*s+j))=some (cs'.getD j undef):=by
   intro i hi
   have h1:=hE i hi
   have h2:elems[i]? = some (elems[i]'(by omega)):=List.getElem?_eq_getElem (by omega)
   rw [h2,Option.bind_eq_some_iff] at h1
   obtain ⟨cs',hc,hy⟩:=h1
   obtain ⟨a',hQ,hR⟩:=hel _ _ _ hy
   obtain ⟨-,hcl,hat⟩:=World.cells?_some hc
   rw [hs] at hcl hat
   refine ⟨a',cs',hQ,hR,hcl,fun j hj=>?_⟩
   have:=hat j hj
   rw [List.getElem?_eq_getElem (by omega)] at this
   rw [List.getD_eq_getElem?_getD,List.getElem?_eq_getElem (by omega)]
   rw [← Go.Deep.add_add,this]; rfl
  have hch:∃ F:Nat→α,∃ G:Nat→List Value,∀ i,i < len→Q (F i)∧RCs w (f (F i)) (G i)∧(G i).length=s∧∀ j,j < s→w.cell? (a.add (i*s+j))=some ((G i).getD j undef):=by
   classical
   by_cases hlz:len=0
   ·subst hlz
    exact ⟨fun _=>default,fun _=>[],fun i hi=>absurd hi (Nat.not_lt_zero _)⟩
   ·obtain ⟨a0,-⟩:=key 0 (by omega)
    have:∀ i:Nat,∃ p:α × List Value,i < len→Q p.1∧RCs w (f p.1) p.2∧p.2.length=s∧∀ j,j < s→w.cell? (a.add (i*s+j))=some (p.2.getD j undef):=fun i=>by
     by_cases hi:i < len
     ·obtain ⟨a',cs',h⟩:=key i hi
      exact ⟨(a',cs'),fun _=>h⟩
     ·exact ⟨(a0,[]),fun h=>absurd h hi⟩
    exact ⟨fun i=>(Classical.choose (this i)).1,fun i=>(Classical.choose (this i)).2,fun i hi=>Classical.choose_spec (this i) hi⟩
  obtain ⟨F,G,hF⟩:=hch
  have hrow:∀ (i:Nat) (r:List CV),(((List.range len).map F).map f)[i]? = some r→i < len∧r=f (F i):=fun i r hi=>by
   rw [List.map_map,List.getElem?_map] at hi
   rcases Nat.lt_or_ge i len with h | h
   ·rw [List.getElem?_range h] at hi
    exact ⟨h,(Option.some.inj hi).symm⟩
   ·rw [List.getElem?_eq_none (by simpa using h)] at hi
    cases hi
  have hmem:∀ r∈((List.range len).map F).map f,∃ i,i < len∧r=f (F i):=fun r hr=>by
   obtain ⟨i,hi⟩:=List.mem_iff_getElem?.1 hr
   exact ⟨i,hrow i r hi⟩
  have hlen':(((List.range len).map F).map f).length=len:=by simp
  refine ⟨(List.range len).map F,true,_,rfl,?_,by simp; omega,fun x hx=>?_,fun h=>by cases h⟩
  ·have:=RV.list (M:=whole w) (w:=w) (rows:=((List.range len).map F).map f) (nn:=true) (tok:=none) (a:=some a) (cap:=cap) (b:=a.block) (off:=a.off) (s:=s) (fun i j=>(G i).getD j undef)
    (by rw [hlen']; exact hl) hm rfl (fun h=>by cases h) (fun hne=>?_) (fun r hr=>?_) (fun r hr=>?_) (fun i j r c hi hj=>?_) (fun i j r c hi hj=>?_) (fun k hk=>by cases hk)
   ·rw [hlen'] at this; exact this
   ·rcases Nat.eq_zero_or_pos len with hz | hz
    ·subst hz; exact absurd rfl hne
    ·have:=(hF 0 hz).2.2.2 0 h0
     have:=X4 this
     simpa [Addr.add] using this
   ·obtain ⟨i,hi,rfl⟩:=hmem r hr
    rw [(hF i hi).2.1.len,(hF i hi).2.2.1]
   ·obtain ⟨i,hi,rfl⟩:=hmem r hr
    exact (hF i hi).2.1.one
   ·obtain ⟨hi',rfl⟩:=hrow i r hi
    have hjs:j < s:=by
     have:=(List.getElem?_eq_some_iff.1 hj).1
     rw [(hF i hi').2.1.len,(hF i hi').2.2.1] at this
     exact this
    have hc:=(hF i hi').2.2.2 j hjs
    rw [X4 hc,← Nat.add_assoc] at hc
    exact ⟨a8i hc _,hc⟩
   ·obtain ⟨hi',rfl⟩:=hrow i r hi
    exact (hF i hi').2.1.rv j c hj
  ·obtain ⟨i,hi,rfl⟩:=List.mem_map.1 hx
   exact (hF i (by simpa using hi)).1
end
theorem a11 {H:Type} {enc:TypeId × Value→H} {P:Program} (hl:laidOutB P=true) {W W':World} (hb:Below W.heap.size W W') {sp:Nat→Bool}:∀ {ts:List TypeId} {vs:List Value} {ds:List (DataW H)} {ps:List MemPlace},(∀ t∈ts,P.readableRec t=true∧t < P.types.size)→DataW.TrodAll enc P W 0 (fun _=>true) true ts vs ds ps→(∀ p∈ps,p.block < W.heap.size)→(∀ p∈ps,sp p.block=true)→DataW.TrodAll enc P W' 0 sp true ts vs ds ps
 | [],[],[],_,_,h,_,_=>h
 | t::ts,v::vs,d::ds,ps,hr,h,hlt,hsp=>by
  obtain ⟨p,q,h1,h2,rfl⟩:=h
  exact ⟨p,q,WideElems.Trod_stays hl (hr t (by simp)).1 (hr t (by simp)).2 h1 (fun x hx=>hb.same (hlt x (by simp [hx]))) (fun x hx=>hsp x (by simp [hx])),
   a11 hl hb (fun t ht=>hr t (by simp [ht])) h2 (fun x hx=>hlt x (by simp [hx])) (fun x hx=>hsp x (by simp [hx])),rfl⟩
 | [],_::_,_,_,_,h,_,_=>h.elim
 | [],[],_::_,_,_,h,_,_=>h.elim
 | _::_,[],_,_,_,h,_,_=>h.elim
 | _::_,_::_,[],_,_,h,_,_=>h.elim
theorem b4l {P:Program} {ts:List TypeId} (h:(ts.all fun t=>P.readableRec t && decide (t < P.types.size))=true):∀ t∈ts,P.readableRec t=true∧t < P.types.size:=fun t ht=>by
 have:=List.all_eq_true.1 h t ht
 simpa using this
theorem b01 {H:Type} {enc:TypeId × Value→H} {P:Program} {f:Func} {s:ChangeSpec} {apart fresh handsOn again:Bool} {W W':World} {args:Array Value} {v:Value} {ds gs:List (DataW H)} {before pa pv:List MemPlace}
 (hW:DataW.Whole enc P f.params.toList s.vars apart W args.toList ds gs before)
 (hres:∀ (b:Nat) (sp:Nat→Bool) (hd:Bool),DataW.TrodAll enc P W' b sp hd f.resultTypes.toList (v.resultList f.resultTypes.size) (s.fn H (ds++gs)).results [])
 (hargs:∀ sp:Nat→Bool,(∀ p∈before,sp p.block=true)→DataW.TrodAll enc P W' 0 sp true f.params.toList args.toList (s.fn H (ds++gs)).args pa)
 (hvars:∀ sp:Nat→Bool,(∀ p∈before,sp p.block=true)→DataW.TrodVars enc P W' sp s.vars (s.fn H (ds++gs)).vars pv)
 (hps:before=pa++pv) (hb:Below W.heap.size W W')
 (hok:∀ (j:Nat) (t:TypeId) (r:Value),f.resultTypes[j]? = some t→(v.resultList f.resultTypes.size)[j]? = some r→Value.okWide P W' .any 0 t r) :
 s.post enc P f apart fresh handsOn again W args v W':=by
 have hlt:∀ p∈before,p.block < W.heap.size:=fun p hp=>hW.lt p hp
 have hold:∀ p∈before,(fun b=>decide (b < W.heap.size)) p.block=true:=fun p hp=>by simpa using hlt p hp
 refine ⟨ds,gs,before,[],pa,pv,hW,hres _ _ _,hargs _ hold,hvars _ hold,World.keptBut_mono (fun p hp=>⟨hp,?_⟩) (hb.frame (·∈before)),fun _=>?_⟩
 ·rw [hps,List.mem_append] at hp
  exact Or.inr hp
 ·obtain ⟨_,_,_,_,_,hz,hn⟩:=hW
  refine ⟨hok,_,_,([]++pa)++pv,⟨[]++pa,pv,trodAll_append (hargs _ (fun _ _=>rfl)) (hres _ _ _),hvars _ (fun _ _=>rfl),rfl,?_,?_⟩,?_⟩
  ·intro b off hp
   have hin:MemPlace.cell b off∈before:=by rw [hps]; simpa using hp
   rw [hb.frozen (hlt _ hin)]
   exact hz b off hin
  ·intro ha
   have:=hn ha
   rw [hps] at this
   simpa using this
  ·intro p hp _
   rw [hps]
   simpa using hp
end Go.Cl
namespace Go.Cl
section
variable {C:Ctx} {E:Env} {σ:List c5} {o:Oper}
theorem b9M {x y:Operand} {ts:Array TypeId} {k:IntKind} {a b:Int} (ho:o.op = .call { callee:=.builtin .max,args:=#[x,y],argTypes:=ts}) (hx:E.valid x) (hy:E.valid y) (ex:E.val C x = .val (.int k a)) (ey:E.val C y = .val (.int k b)):m6 C σ E o (.val (.int k (max a b))) :=
 j7 fun M w ρ _ h=>by
  have h1:=h x (by simp [ho,Op.operands,Call.operands]) hx
  have h2:=h y (by simp [ho,Op.operands,Call.operands]) hy
  rw [ex] at h1
  rw [ey] at h2
  refine ⟨.int k (max a b),?_,.val _⟩
  simp [execOp,ho,resolve,invoke,builtin,n8 h1,n8 h2,Go.Lib.run_max_ints]
end
end Go.Cl
namespace Go.Cl
section
variable {C:Ctx} {E:Env} {σ:List c5} {o:Oper}
theorem b7e {t e:TypeId} {x y:Operand} {s:Nat} {new:List (List CV)} {ti:TypeInfo} {z:Value} {K:v7→List c5→Prop} (m':Nat) (ho:o.op = .call { callee:=.builtin .append,args:=#[x,y],argTypes:=#[t,t]}) (hx:E.valid x) (hy:E.valid y) (ex:E.val C x = .list [] false none)
 (hsrc:∀ M w v,Rel C M σ w→RV M w (E.val C y) v→Src C M w new s v) (hu:∀ w,(underlying t).run C.P w = .ok (.slice e) w) (hs:∀ w,(sizeOf e).run C.P w = .ok s w) (hti:∀ w,(typeInfo e).run C.P w = .ok ti w) (hz:∀ w,(zeroValue e).run C.P w = .ok z w) (hzs:z.cells.size=s)
 (hnew:0 < new.length) (hb:new.length*ti.bytes≤140737488355328) (hmax:new.length≤9223372036854775807) (hm:new.length=m')
 (hk:K (.ret (.vec σ.length 0 m')) (σ++[.vec s new])):C2 C σ E o K:=fun M w ρ hr hh=>by
 subst hm
 have h1:=hh x (by simp [ho,Op.operands,Call.operands]) hx
 have h2:=hh y (by simp [ho,Op.operands,Call.operands]) hy
 rw [ex] at h1
 have hlen:=(hsrc M w _ hr h2).lenOf
 have hexec:(execOp ρ o).run C.P w=((Builtin.append_ #[t,t] o.type #[ρ x,ρ y]).run C.P w).andThen fun v w=>.ok (.value v) w:=by
  simp [execOp,ho,resolve,invoke,builtin]
 have h1i:=h1
 obtain ⟨a,cap,b,off,s',vals,hv,hcap,hcmax,hnn,hn0,-,-,-,-,-,-⟩:=h1i.list_inv
 have hc0:=hn0 rfl
 subst hc0
 obtain ⟨hrd,hxd⟩:=hr.drewN
 have hso':=R5 (C:=C) (s:=s) (a1R h1) (fun r hr=>by simp at hr)
 rw [hv] at hso'
 obtain ⟨a1,c1,hv1,_,hrs,old,hfo,hszo,hrvo⟩:=hso'
 obtain ⟨an,cn,hvn,_,hns,arr,hfn,hszn,hrvn⟩:=hsrc M w.drew _ hrd (a1R h2)
 obtain ⟨c',hc1,hc2,hrun⟩:=K9 (P:=C.P) (ty:=o.type) (a:=a) (c:=0) (w:=w) (n:=([]:List (List CV)).length) (m:=new.length) hu (.inl hu) hs hti hz hlen hfo hfn (by simp; omega) (by simpa using hmax) (by simpa using hb)
 rw [hexec,hv,hrun]
 simp only [Result.andThen_ok]
 have hwsz:w.drew.heap.size=w.heap.size:=rfl
 rw [← hwsz]
 have hasz:(old++arr++Builtin.zeroCells z.cells (c' - (([]:List (List CV)).length+new.length))).size=c'*s:=by
  simp only [Array.size_append,K4,hszo,hszn,hzs]
  rw [← Nat.add_mul,← Nat.add_mul]
  congr 1; omega
 have hx2:=Ext.alloc hrd ⟨w.drew.heap.size,c',s⟩ (.cells (old++arr++Builtin.zeroCells z.cells (c' - (([]:List (List CV)).length+new.length))) e)
 have hget:=X0 (rest:=Builtin.zeroCells z.cells (c' - (([]:List (List CV)).length+new.length))) hszo hszn hrs hns (fun i j r c hi hj=>(hrvo i j r c hi hj).1) (fun i j r c hi hj=>(hrvn i j r c hi hj).1)
 have hr2:=hrd.alloc ⟨w.drew.heap.size,c',s⟩ (.cells (old++arr++Builtin.zeroCells z.cells (c' - (([]:List (List CV)).length+new.length))) e) (.vec s ([]++new)) rfl
  ⟨rfl,by simpa using hc1,by unfold maxLen; simp only; omega,by simpa using hns,fun r hr c hc=>(by
   obtain ⟨i,hi⟩:=List.mem_iff_getElem?.1 (by simpa using hr:r∈new)
   obtain ⟨j,hj⟩:=List.mem_iff_getElem?.1 hc
   exact (hrvn i j r c hi hj).2),_,e,s9 _ _,hasz,fun i j r c hi hj=>((hget i j r c hi hj).2.mono hx2)⟩
 refine ⟨.vec σ.length 0 new.length,_,_,hxd.trans hx2,hr2,?_,hk⟩
 have:=RV.vec (M:=M.add ⟨w.drew.heap.size,c',s⟩) (w:=w.drew.alloc (.cells (old++arr++Builtin.zeroCells z.cells (c' - (([]:List (List CV)).length+new.length))) e)) (k:=σ.length) (off:=0) (len:=new.length) (p:=⟨w.drew.heap.size,c',s⟩) (a:=⟨w.drew.heap.size,0,none⟩) (by simp [l3.add,← hr.len]) (by simpa using hc1) (by unfold maxLen; simp only; omega) (fun _=>by simp)
 simpa using this
end
inductive ClO (n:Nat) (σ:List c5):c5→c5→Prop where
 | dead {ob:c5}:ClO n σ ob .dead
 | same {ob:c5}:C8 n ob→ClO n σ ob ob
 | box {t0:Option TypeId} {cells cells':List CV}:a3h n σ cells cells'→ClO n σ (.boxT t0 cells) (.boxT t0 cells')
def a3U (n:Nat) (σ:List c5):List c5→List c5→Prop
 | _,[]=>True
 | a::l,b::l'=>ClO n σ a b∧a3U n σ l l'
 | [],_::_=>False
theorem a3U.get {n:Nat} {σ:List c5}:∀ {l l':List c5},a3U n σ l l'→l'.length≤l.length∧∀ (k:Nat) (b:c5),l'[k]? = some b→∃ a,l[k]? = some a∧ClO n σ a b
 | _,[],_=>⟨Nat.zero_le _,fun k b h=>by simp at h⟩
 | a::l,b::l',⟨h1,h⟩=>by
  obtain ⟨g1,g2⟩:=h.get
  refine ⟨Nat.succ_le_succ g1,fun k b hk=>?_⟩
  rcases k with _ | k
  ·simp at hk; subst hk; exact ⟨a,rfl,h1⟩
  ·exact g2 k b (by simpa using hk)
theorem Rel.cutCls {C:Ctx} (hC:C.plain) {M:l3} {σ S:List c5} {w:World} (hr:Rel C M σ w) (hS:a3U S.length σ σ S) :
 Rel C (M.cutAt S.length σ) S w∧Cut S.length M (M.cutAt S.length σ)∧∀ M0 w0,Ext M0 w0 M w→M0.pl.length≤S.length→Ext M0 w0 (M.cutAt S.length σ) w:=by
 obtain ⟨hle,hgetS⟩:=hS.get
 have hcut:Cut S.length M (M.cutAt S.length σ):=⟨rfl,fun _ h=>.inl h,fun _ _ h=>.inr h⟩
 have hfull:∀ (k:Nat) (p:Pl) (s:Nat) (rows:List (List CV)),S.length≤k→M.pl[k]? = some p→σ[k]? = some (.vec s rows)→(M.cutAt S.length σ).full p.block:=fun k p s rows hk hp hσ=>.inr ⟨k,p,_,hk,hp,hσ,rfl,rfl⟩
 have hget:∀ {k:Nat} {p:Pl},(M.cutAt S.length σ).pl[k]? = some p→k < S.length∧M.pl[k]? = some p:=by
  intro k p hk
  have hk:(M.pl.take S.length)[k]? = some p:=hk
  rw [List.getElem?_take] at hk
  split at hk
  ·exact ⟨‹_›,hk⟩
  ·cases hk
 have hlen:S.length≤M.pl.length:=by rw [hr.len]; exact hle
 have hlive:∀ {a b:c5},ClO S.length σ a b→b.live=true→a.live=true:=by
  intro a b h hl
  cases h with
  | dead=>cases hl
  | same _=>exact hl
  | box _=>rfl
 refine ⟨⟨by show (M.pl.take S.length).length=_; simp; omega,fun b o ha=>?_,fun k p ob hk hs=>?_,fun k k' p p' ob ob' hk hk' hs hs' hl1 hl2 hb=>?_,fun g cells hg=>?_,hr.kep,fun k p ob hk hs hlv=>?_⟩,hcut,fun M0 w0 hx hle=>?_⟩
 ·rcases ha with (ha | ⟨k,p,ob,_,hp,hs,hl,rfl⟩) | ha
  ·exact hr.blk b o (.inl ha)
  ·exact (hr.obj k p ob hp hs).1.lt hl
  ·exact hr.blk b o (.inr ha)
 ·obtain ⟨hlt,hp⟩:=hget hk
  obtain ⟨a,ha,hab⟩:=hgetS k ob hs
  obtain ⟨h1,h2⟩:=hr.obj k p a hp ha
  have hnf:a.live=true→¬ M.full p.block→¬ (M.cutAt S.length σ).full p.block:=fun hlv hnf h=>by
   rcases h with h | ⟨k',p',ob',hk',hp',hs',hl',hb⟩
   ·exact hnf h
   ·have:=hr.inj k' k p' p ob' a hp' hp hs' ha hl' hlv hb
    omega
  cases hab with
  | dead=>exact ⟨tt,tt⟩
  | same ho =>
   refine ⟨?_,?_⟩
   ·cases ob with
    | dead=>trivial
    | boxT t0 cells =>
     obtain ⟨arr,ty,e1,e2,e3,e4⟩:=h1
     exact ⟨arr,ty,e1,e2,e3,fun i c hi=>(e4 i c hi).cut hcut (ho c (List.mem_of_getElem? hi))⟩
    | tipT t0 m=>exact h1
    | vec s rows =>
     obtain ⟨e0,e1,e2,e3,e4,arr,ty,e5,e6,e7⟩:=h1
     exact ⟨e0,e1,e2,e3,e4,arr,ty,e5,e6,fun i j r c hi hj=>(e7 i j r c hi hj).cut hcut (ho r (List.mem_of_getElem? hi) c (List.mem_of_getElem? hj))⟩
    | map es =>
     obtain ⟨ents,clock,e1,e2,e3⟩:=h1
     refine ⟨ents,clock,e1,e2,fun i x hi=>?_⟩
     obtain ⟨e,g1,g2,g3,g4⟩:=e3 i x hi
     have:=ho x (List.mem_of_getElem? hi)
     exact ⟨e,g1,g2.cut hcut this.1,g3.cut hcut this.2,g4⟩
    | iter cur es =>
     obtain ⟨mb,seen,last,ents,clock,e1,e2,e3,e4,e5,e6,e7,e8,e9⟩:=h1
     refine ⟨mb,seen,last,ents,clock,e1,hcut.full _ e2,e3,e4,e5,e6,e7,fun i x hi=>?_,fun i x hi=>?_⟩
     ·obtain ⟨e,g1,g2,g3⟩:=e8 i x hi
      have:=ho.2 x (List.mem_of_getElem? hi)
      exact ⟨e,g1,g2.cut hcut this.1,g3.cut hcut this.2⟩
     ·obtain ⟨hl,j,e,g0,g1,g2,g3⟩:=e9 i x hi
      have:=ho.1 x (List.mem_of_getElem? hi)
      exact ⟨hl,j,e,g0,g1,g2.cut hcut this.1,g3.cut hcut this.2⟩
   ·cases ob with
    | dead=>trivial
    | tipT t0 m=>exact hnf rfl h2
    | _=>exact ⟨hnf rfl h2.1,h2.2⟩
  | box hc =>
   obtain ⟨hcl,hcg⟩:=hc.get
   obtain ⟨arr,ty,e1,e2,e3,e4⟩:=h1
   refine ⟨⟨arr,ty,e1,by rw [e2,hcl],fun c hm=>?_,fun i c' hi=>?_⟩,hnf rfl h2.1,h2.2⟩
   ·obtain ⟨i,hi⟩:=List.mem_iff_getElem?.1 hm
    obtain ⟨y,hy⟩:=o0 hcl hi
    exact (hcg i y c hy hi).one (e3 y (List.mem_of_getElem? hy))
   ·obtain ⟨y,hy⟩:=o0 hcl hi
    exact RV.close hr hcut hfull (hcg i y c' hy hi) (e4 i y hy)
 ·obtain ⟨a,ha,hab⟩:=hgetS k ob hs
  obtain ⟨a',ha',hab'⟩:=hgetS k' ob' hs'
  exact hr.inj k k' p p' a a' (hget hk).2 (hget hk').2 ha ha' (hlive hab hl1) (hlive hab' hl2) hb
 ·refine ⟨?_,hcut.full _ (hr.glob g cells hg).full,(hr.glob g cells hg).sz⟩
  exact (hr.glob g cells hg).rv.cut hcut (.cptr fun j c hj=>(hC g cells hg c (List.mem_of_getElem? hj)).old)
 ·obtain ⟨a,ha,hab⟩:=hgetS k ob hs
  exact hr.nk k p a (hget hk).2 ha (hlive hab hlv)
 ·obtain ⟨l,hl⟩:=hx.pl
  refine ⟨⟨l.take (S.length - M0.pl.length),?_⟩,fun b h=>.inl (hx.full b h),fun b o h=>hcut.at (hx.cell b o h),hx.same,hx.sameC,hx.size,hx.drew,hx.os,hx.tape,hx.output,fun b hb=>?_⟩
  ·show M.pl.take S.length=_
   rw [hl,List.take_append,List.take_of_length_le hle]
  ·obtain ⟨k1,k2,k3,k4⟩:=hx.kept b hb
   refine ⟨k1,k2,fun f=>?_,k4⟩
   rcases f with f | ⟨k,p,ob,_,hp,hs,hlv,rfl⟩
   ·exact k3 f
   ·exact absurd k1 (hr.nk k p ob hp hs hlv)
section
variable {C:Ctx} {n:Nat} {Q:s8→Env→List c5→Prop} {E:Env} {σ:List c5}
end
end Go.Cl
namespace Go.Cl
section
variable {C:Ctx} {E:Env} {σ:List c5} {o:Oper}
theorem a7T {s d:TypeId} {x:Operand} {k k0 k':IntKind} {a b:Int} (ho:o.op = .convert s d x) (hx:E.valid x) (ex:E.val C x = .val (.int k a)) (hs:∀ w,(underlying s).run C.P w = .ok (.int k0) w) (hd:∀ w,(underlying d).run C.P w = .ok (.int k') w) (hb:k'.wrap a=b):m6 C σ E o (.val (.int k' b)) :=
 j7 fun M w ρ _ h=>by
  have h1:=h x (by simp [ho,Op.operands]) hx
  rw [ex] at h1
  refine ⟨.int k' b,?_,.val _⟩
  simp [execOp,ho,convert,hs,hd,n8 h1,Conv.intToInt,hb]
theorem b7x {f:FuncId} {cx:Operand} {xs:Array Operand} {ts:Array TypeId} {cargs:List CV} {K:v7→List c5→Prop} (ho:o.op = .call { callee:=.value cx,args:=xs,argTypes:=ts}) (hc:E.valid cx) (ec:E.val C cx = .val (.func (.func f) #[] #[])) (hcall:∀ args w,(callFunc f args).run C.P w = .ok (.enter f args) w)
 (hv:∀ x∈xs.toList,E.valid x) (ea:xs.toList.map (E.val C)=cargs) (h:b8 C f cargs σ K):C2 C σ E o K:=fun M w ρ hr hh=>by
 have hf:=hh cx (by simp [ho,Op.operands,Call.operands]) hc
 rw [ec] at hf
 have ef:=n8 hf
 have hrun:(execOp ρ o).run C.P w = .ok (.enter f (xs.map ρ)) w:=by
  simp [execOp,ho,resolve,ef,Deferred.ofValue,invoke,hcall]
 rw [hrun]
 refine (h M w (xs.map ρ) hr (by simp [← ea]) fun i c hi=>?_).mono fun e w' he=>by cases e <;> exact he
 subst ea
 simp only [List.getElem?_map,Option.map_eq_some_iff] at hi
 obtain ⟨x,hx,rfl⟩:=hi
 have hx':xs[i]? = some x:=by simpa using hx
 have hm:x∈xs:=Array.mem_of_getElem? hx'
 have:(xs.map ρ).getD i undef=ρ x:=by
  rw [Array.getD_eq_getD_getElem?,Array.getElem?_map,hx']; rfl
 rw [this]
 exact hh x (by simp [ho,Op.operands,Call.operands,hm]) (hv x (by simpa using hm))
theorem b7Z {x y:Operand} {ts:Array TypeId} {k:IntKind} {a b:Int} (ho:o.op = .call { callee:=.builtin .min,args:=#[x,y],argTypes:=ts}) (hx:E.valid x) (hy:E.valid y) (ex:E.val C x = .val (.int k a)) (ey:E.val C y = .val (.int k b)):m6 C σ E o (.val (.int k (min a b))) :=
 j7 fun M w ρ _ h=>by
  have h1:=h x (by simp [ho,Op.operands,Call.operands]) hx
  have h2:=h y (by simp [ho,Op.operands,Call.operands]) hy
  rw [ex] at h1
  rw [ey] at h2
  refine ⟨.int k (min a b),?_,.val _⟩
  simp [execOp,ho,resolve,invoke,builtin,n8 h1,n8 h2,Go.Lib.run_min_ints]
end
end Go.Cl
namespace Go.Cl
section
variable {C:Ctx} {E:Env} {σ:List c5} {o:Oper}
theorem b8H {t e:TypeId} {s:Nat} {K:v7→List c5→Prop} (ho:o.op = .buildSlice t 0 #[]) (hu:∀ w,(underlying t).run C.P w = .ok (.slice e) w) (hs:∀ w,(sizeOf e).run C.P w = .ok s w)
 (hk:∀ a,K (.ret (.val (.slice (some a) 0 0))) σ):C2 C σ E o K:=fun M w ρ hr _=>by
 obtain ⟨hx,hrel⟩:=hr.allocFull (.cells #[] e)
 have hrun:(execOp ρ o).run C.P w = .ok (.value (.slice (some ⟨w.heap.size,0,none⟩) 0 0)) (w.alloc (.cells #[] e)):=by
  have er:Array.range 0 = #[]:=rfl
  simp only [execOp,ho,Instr.buildSlice,Sem.run_bind,hu,Result.andThen_ok,hs]
  simp [er,Instr.fill,newRow]
 rw [hrun]
 exact ⟨_,σ,_,hx,hrel,.val _,hk _⟩
theorem b1A {t t' e:TypeId} {x:Operand} {rows:List (List CV)} {nn:Bool} {tok:Option Nat} {b:Bool} (ho:o.op = .binOp .eql t x (.const (.slice none 0 0)) t') (hx:E.valid x) (ex:E.val C x = .list rows nn tok) (hu:∀ w,(underlying t).run C.P w = .ok (.slice e) w) (hb:(!nn)=b):m6 C σ E o (.val (.bool b)) :=
 j7 fun M w ρ _ h=>by
  have h1:=h x (by simp [ho,Op.operands]) hx
  have h2:=h (.const (.slice none 0 0)) (by simp [ho,Op.operands]) rfl
  rw [ex] at h1
  have e2:ρ (.const (.slice none 0 0)) = .slice none 0 0:=by
   have h2:RV M w (.list [] false none) (ρ (.const (.slice none 0 0))):=h2
   obtain ⟨a,cap,b',off,s,vals,hv,-,-,hnn,hn0,-,-,-,-,-,-⟩:=h2.list_inv
   cases a with
   | none=>rw [hv,hn0 rfl]; rfl
   | some a=>simp at hnn
  obtain ⟨a,cap,b',off,s,vals,hv,-,-,hnn,-,-,-,-,-,-,-⟩:=h1.list_inv
  refine ⟨.bool b,?_,.val _⟩
  subst hb
  cases a with
  | none =>
   have:nn=false:=by simpa using hnn.symm
   subst this
   have heq:∀ d,(Op.equalIn (d+1) t (.slice none rows.length cap) (.slice none 0 0)).run C.P w = .ok true w:=fun d=>by simp [Op.equalIn,hu]
   have he:(Op.equal t (.slice none rows.length cap) (.slice none 0 0)).run C.P w = .ok true w:=heq 9999
   simp [execOp,ho,hv,e2,eqGuard,binOp,he]
  | some a =>
   have:nn=true:=by simpa using hnn.symm
   subst this
   have heq:∀ d,(Op.equalIn (d+1) t (.slice (some a) rows.length cap) (.slice none 0 0)).run C.P w = .ok false w:=fun d=>by simp [Op.equalIn,hu]
   have he:(Op.equal t (.slice (some a) rows.length cap) (.slice none 0 0)).run C.P w = .ok false w:=heq 9999
   simp [execOp,ho,hv,e2,eqGuard,binOp,he]
theorem b6m {t e:TypeId} {x y:Operand} {a:Addr} {s:Nat} {new:List (List CV)} {ti:TypeInfo} {z:Value} {K:v7→List c5→Prop} (m':Nat) (ho:o.op = .call { callee:=.builtin .append,args:=#[x,y],argTypes:=#[t,t]}) (hx:E.valid x) (hy:E.valid y) (ex:E.val C x = .val (.slice (some a) 0 0))
 (hsrc:∀ M w v,Rel C M σ w→RV M w (E.val C y) v→Src C M w new s v) (hu:∀ w,(underlying t).run C.P w = .ok (.slice e) w) (hs:∀ w,(sizeOf e).run C.P w = .ok s w) (hti:∀ w,(typeInfo e).run C.P w = .ok ti w) (hz:∀ w,(zeroValue e).run C.P w = .ok z w) (hzs:z.cells.size=s)
 (hnew:0 < new.length) (hb:new.length*ti.bytes≤140737488355328) (hmax:new.length≤9223372036854775807) (hm:new.length=m')
 (hk:K (.ret (.vec σ.length 0 m')) (σ++[.vec s new])):C2 C σ E o K:=fun M w ρ hr hh=>by
 subst hm
 have h1:=hh x (by simp [ho,Op.operands,Call.operands]) hx
 have h2:=hh y (by simp [ho,Op.operands,Call.operands]) hy
 rw [ex] at h1
 have hv:=n8 h1
 have hlen:=(hsrc M w _ hr h2).lenOf
 have hexec:(execOp ρ o).run C.P w=((Builtin.append_ #[t,t] o.type #[ρ x,ρ y]).run C.P w).andThen fun v w=>.ok (.value v) w:=by
  simp [execOp,ho,resolve,invoke,builtin]
 obtain ⟨hrd,hxd⟩:=hr.drewN
 have hL:RV M w.drew (.list [] true none) (.slice (some a) 0 0):=.list (rows:=[]) (b:=0) (off:=0) (s:=s) (fun _ _=>undef) (Nat.le_refl _) (Nat.zero_le _) rfl (fun h=>by cases h) (fun h=>by simp at h) (fun r hr=>by simp at hr) (fun r hr=>by simp at hr) (fun i j r c hi=>by simp at hi) (fun i j r c hi=>by simp at hi) (fun k hk=>by cases hk)
 have hso':=R5 (C:=C) (s:=s) hL (fun r hr=>by simp at hr)
 obtain ⟨a1,c1,hv1,_,hrs,old,hfo,hszo,hrvo⟩:=hso'
 obtain ⟨an,cn,hvn,_,hns,arr,hfn,hszn,hrvn⟩:=hsrc M w.drew _ hrd (a1R h2)
 obtain ⟨c',hc1,hc2,hrun⟩:=K9 (P:=C.P) (ty:=o.type) (a:=some a) (c:=0) (w:=w) (n:=([]:List (List CV)).length) (m:=new.length) hu (.inl hu) hs hti hz hlen hfo hfn (by simp; omega) (by simpa using hmax) (by simpa using hb)
 rw [hexec,hv]
 change a5l _ _ _ ((Sem.run C.P (Builtin.append_ #[t,t] o.type #[Value.slice (some a) ([]:List (List CV)).length 0,ρ y]) w).andThen _)
 rw [hrun]
 simp only [Result.andThen_ok]
 have hwsz:w.drew.heap.size=w.heap.size:=rfl
 rw [← hwsz]
 have hasz:(old++arr++Builtin.zeroCells z.cells (c' - (([]:List (List CV)).length+new.length))).size=c'*s:=by
  simp only [Array.size_append,K4,hszo,hszn,hzs]
  rw [← Nat.add_mul,← Nat.add_mul]
  congr 1; omega
 have hx2:=Ext.alloc hrd ⟨w.drew.heap.size,c',s⟩ (.cells (old++arr++Builtin.zeroCells z.cells (c' - (([]:List (List CV)).length+new.length))) e)
 have hget:=X0 (rest:=Builtin.zeroCells z.cells (c' - (([]:List (List CV)).length+new.length))) hszo hszn hrs hns (fun i j r c hi hj=>(hrvo i j r c hi hj).1) (fun i j r c hi hj=>(hrvn i j r c hi hj).1)
 have hr2:=hrd.alloc ⟨w.drew.heap.size,c',s⟩ (.cells (old++arr++Builtin.zeroCells z.cells (c' - (([]:List (List CV)).length+new.length))) e) (.vec s ([]++new)) rfl
  ⟨rfl,by simpa using hc1,by unfold maxLen; simp only; omega,by simpa using hns,fun r hr c hc=>(by
   obtain ⟨i,hi⟩:=List.mem_iff_getElem?.1 (by simpa using hr:r∈new)
   obtain ⟨j,hj⟩:=List.mem_iff_getElem?.1 hc
   exact (hrvn i j r c hi hj).2),_,e,s9 _ _,hasz,fun i j r c hi hj=>((hget i j r c hi hj).2.mono hx2)⟩
 refine ⟨.vec σ.length 0 new.length,_,_,hxd.trans hx2,hr2,?_,hk⟩
 have:=RV.vec (M:=M.add ⟨w.drew.heap.size,c',s⟩) (w:=w.drew.alloc (.cells (old++arr++Builtin.zeroCells z.cells (c' - (([]:List (List CV)).length+new.length))) e)) (k:=σ.length) (off:=0) (len:=new.length) (p:=⟨w.drew.heap.size,c',s⟩) (a:=⟨w.drew.heap.size,0,none⟩) (by simp [l3.add,← hr.len]) (by simpa using hc1) (by unfold maxLen; simp only; omega) (fun _=>by simp)
 simpa using this
end
end Go.Cl
namespace Go.Cl
def a3G:c5→Prop
 | .dead=>True
 | .boxT _ cells=>∀ c∈cells,p5 c
 | _=>False
theorem a3G.old {n:Nat} {ob:c5} (h:a3G ob):C8 n ob:=by
 cases ob with
 | dead=>trivial
 | boxT t0 cells=>exact fun c hc=>(h c hc).old
 | _=>exact h.elim
theorem a3G.rel {M M':l3} {w:World} {p:Pl} {ob:c5} (hat:∀ b o,M.at b o→M'.at b o) (hf:∀ b,M'.full b→M.full b) (hcl:∀ b o,M'.cell b o→M.cell b o) (hp:a3G ob) (h:G0 M w p ob∧a1F M p ob):G0 M' w p ob∧a1F M' p ob:=by
 cases ob with
 | dead=>exact ⟨tt,tt⟩
 | boxT t0 cells =>
  obtain ⟨⟨arr,ty,e1,e2,e3,e4⟩,g1,g2⟩:=h
  exact ⟨⟨arr,ty,e1,e2,e3,fun i c hi=>(e4 i c hi).pure (fun b o ha=>⟨hat b o ha,rfl⟩) (hp c (List.mem_of_getElem? hi))⟩,fun hh=>g1 (hf _ hh),fun o hh=>g2 o (hcl _ o hh)⟩
 | _=>exact hp.elim
theorem a3U.nil {n:Nat} {σ l:List c5}:a3U n σ l []:=by cases l <;> trivial
theorem a5L {α:Type} {C:Ctx} {f:FuncId} {args:List CV} {ob:c5} {c:α→CV} {S:α→c5} {P:α→Prop} (hC:C.plain) (hS:∀ a,a3G (S a)) (h:b8 C f args [ob] fun r σ'=>∃ (a:α) (rest:List c5) (c0:CV),σ'=S a::rest∧r = .ret c0∧Cls 1 σ' c0 (c a)∧P a) :
 b8 C f args [ob] fun r σ'=>∃ a,r = .ret (c a)∧σ'=[S a]∧P a:=fun M w vs hr hn hx=>(h M w vs hr hn hx).mono fun e w' he=>by
 cases e with
 | returned v =>
  obtain ⟨c',σ',M',h1,h2,h3,a,rest,c0,rfl,h5,h6,h7⟩:=he
  injection h5 with h5
  subst h5
  obtain ⟨g1,g2,g3⟩:=h2.cutCls hC (S:=[S a]) ⟨.same (hS a).old,.nil⟩
  exact ⟨c a,[S a],_,g3 M w h1 (by rw [hr.len]; exact Nat.le_refl _),g1,RV.close h2 g2 (fun k p s rows hk hp hs=>.inr ⟨k,p,_,hk,hp,hs,rfl,rfl⟩) h6 h3,⟨a,rfl,rfl,h7⟩⟩
 | panicked ch =>
  obtain ⟨c',v,σ',M',h0,h1,h2,h3,a,rest,c0,h4,h5,_⟩:=he
  cases h5
 | outgrown=>exact he
theorem a5z {α:Type} {C:Ctx} {f:FuncId} {args:List CV} {ob:c5} {c:α→CV} {S:α→c5} {P:α→Prop} (hC:C.plain) (hargs:∀ a∈args,p5 a) (hc:∀ a,p5 (c a)) (hS:∀ a,a3G (S a)) (hob:a3G ob) (hlive:ob.live=true)
 (h:b8 C f (.ptr 0 0::args) [ob] fun r σ'=>∃ a,r = .ret (c a)∧σ'=[S a]∧P a) (σ:List c5) (q:Nat) (hq:σ[q]? = some ob):b8 C f (.ptr q 0::args) σ fun r σ'=>∃ a,r = .ret (c a)∧σ'=σ.set q (S a)∧P a:=fun M w vs hr hn hx=>by
 have hqs:q < σ.length:=(List.getElem?_eq_some_iff.1 hq).1
 obtain ⟨pq,hpq⟩:∃ p,M.pl[q]? = some p:=⟨M.pl[q]'(by rw [hr.len]; exact hqs),by simp⟩
 let LB:Nat→Prop:=fun b=>∃ (k:Nat) (p:Pl) (ob':c5),k≠q∧M.pl[k]? = some p∧σ[k]? = some ob'∧ob'.live=true∧p.block=b
 let M0:l3:={ pl:=[pq],full:=M.full,cell:=M.cell,keep:=fun b=>M.keep b∨LB b}
 have hat:∀ b o,M.at b o→M0.at b o∧w.cell? ⟨b,o,none⟩=w.cell? ⟨b,o,none⟩:=fun b o h=>⟨h,rfl⟩
 have hLB:∀ b,LB b→b < w.heap.size:=fun b ⟨k,p,ob',_,hp,hs,hl,hb⟩=>hb ▸ (hr.obj k p ob' hp hs).1.lt hl
 have h0:∀ {k:Nat} {p:Pl},M0.pl[k]? = some p→k=0∧p=pq:=fun {k p} hp=>by
  rcases k with _ | k
  ·exact ⟨rfl,(Option.some.inj hp).symm⟩
  ·simp [M0] at hp
 have h0o:∀ {k:Nat} {x:c5},[ob][k]? = some x→x=ob:=fun {k x} hx=>by
  rcases k with _ | k
  ·exact (Option.some.inj hx).symm
  ·simp at hx
 have hr0:Rel C M0 [ob] w:=⟨rfl,hr.blk,fun k p x hp hs=>by
  obtain ⟨rfl,rfl⟩:=h0 hp
  obtain rfl:=h0o hs
  exact hob.rel (M:=M) (M':=M0) (fun b o h=>h) (fun b h=>h) (fun b o h=>h) (hr.obj q p x hpq hq),fun k k' p p' x x' hp hp' _ _ _ _ _=>by
  rw [(h0 hp).1,(h0 hp').1],fun g cells hg=>⟨by
  have:=(hr.glob g cells hg).rv
  cases this with
  | cptr vals h1 h2 h3=>exact .cptr vals h1 h2 fun j c hj=>(h3 j c hj).pure hat (hC g cells hg c (List.mem_of_getElem? hj)),(hr.glob g cells hg).full,(hr.glob g cells hg).sz⟩,
  fun b hb=>(by
   rcases hb with hb | hb
   ·exact hr.kep b hb
   ·exact hLB b hb),fun k p x hp hs hl hb=>by
  obtain ⟨rfl,rfl⟩:=h0 hp
  obtain rfl:=h0o hs
  rcases hb with hb | ⟨k,p',ob',hk,hp',hs',hl',hb⟩
  ·exact hr.nk q p x hpq hq hl hb
  ·exact hk (hr.inj k q p' p ob' x hp' hpq hs' hq hl' hl hb)⟩
 refine (h M0 w vs hr0 (by simpa using hn) fun i a hi=>?_).mono fun e w' he=>?_
 ·rcases i with _ | i
  ·simp at hi
   subst hi
   have:=hx 0 (.ptr q 0) (by simp)
   generalize vs.getD 0 undef=v0 at this ⊢
   cases this with
   | ptr hk =>
    rw [hpq] at hk
    injection hk with hk
    subst hk
    exact .ptr (M:=M0) (k:=0) rfl
  ·simp at hi
   exact (hx (i+1) a (by simpa using hi)).pure hat (hargs a (List.mem_of_getElem? hi))
 cases e with
 | panicked ch =>
  obtain ⟨c',v,σ',M',_,_,_,_,⟨a,h5,_⟩⟩:=he
  cases h5
 | outgrown=>exact he
 | returned v =>
  obtain ⟨c',σ',M',h1,h2,h3,a,h4,rfl,hP⟩:=he
  injection h4 with h4
  subst h4
  have hpl:M'.pl[0]? = some pq:=h1.get (M:=M0) rfl
  let M2:l3:={ pl:=M.pl,full:=M'.full,cell:=M'.cell,keep:=M.keep}
  have hx2:Ext M w M2 w':=⟨⟨[],by simp [M2]⟩,h1.full,h1.cell,h1.same,h1.sameC,h1.size,h1.drew,h1.os,h1.tape,h1.output,fun b hb=>by
   obtain ⟨k1,k2,k3,k4⟩:=h1.kept b (.inl hb)
   exact ⟨hb,k2,k3,k4⟩⟩
  have hset:∀ {k:Nat} {x:c5},(σ.set q (S a))[k]? = some x→(k=q∧x=S a)∨(k≠q∧σ[k]? = some x):=fun {k x} hk=>by
   rw [List.getElem?_set] at hk
   split at hk
   ·rename_i e
    exact .inl ⟨e.symm,(Option.some.inj hk).symm⟩
   ·rename_i e
    exact .inr ⟨fun h=>e h.symm,hk⟩
  have hlv:∀ {k:Nat} {x:c5},(σ.set q (S a))[k]? = some x→x.live=true→∃ y,σ[k]? = some y∧y.live=true:=fun {k x} hk hl=>by
   rcases hset hk with ⟨rfl,rfl⟩ | ⟨_,h⟩
   ·exact ⟨ob,hq,hlive⟩
   ·exact ⟨x,h,hl⟩
  refine ⟨c a,σ.set q (S a),M2,hx2,⟨by simp [M2,hr.len],h2.blk,fun k p x hp hs=>?_,fun k k' p p' x x' hp hp' hs hs' hl hl' hb=>?_,fun g cells hg=>(hr.glob g cells hg).mono hx2,fun b hb=>Nat.lt_of_lt_of_le (hr.kep b hb) h1.size,fun k p x hp hs hl=>?_⟩,h3.pure (M:=M') (M':=M2) (w':=w') (fun b o h=>⟨h,rfl⟩) (hc a),⟨a,rfl,rfl,hP⟩⟩
  ·rcases hset hs with ⟨rfl,rfl⟩ | ⟨hk,hs⟩
   ·have e:p=pq:=by
     have hp:M.pl[k]? = some p:=hp
     rw [hpq] at hp; exact (Option.some.inj hp).symm
    subst e
    exact (hS a).rel (M:=M') (M':=M2) (fun b o h=>h) (fun b h=>h) (fun b o h=>h) (h2.obj 0 p (S a) hpl rfl)
   ·by_cases hl:x.live=true
    ·obtain ⟨k1,k2,k3,k4⟩:=h1.kept p.block (.inr ⟨k,p,x,hk,hp,hs,hl,rfl⟩)
     obtain ⟨g1,g2⟩:=hr.obj k p x hp hs
     refine ⟨g1.mono hx2 k2 (fun _ _ _ o ho=>k4 o ho),?_⟩
     cases x with
     | dead=>trivial
     | tipT t0 n=>exact fun hf=>g2 (k3 hf)
     | _=>exact ⟨fun hf=>g2.1 (k3 hf),fun o ho=>g2.2 o (k4 o ho)⟩
    ·cases x <;> first|exact ⟨tt,tt⟩ | simp [c5.live] at hl
  ·obtain ⟨y,hy,hyl⟩:=hlv hs hl
   obtain ⟨y',hy',hyl'⟩:=hlv hs' hl'
   exact hr.inj k k' p p' y y' hp hp' hy hy' hyl hyl' hb
  ·obtain ⟨y,hy,hyl⟩:=hlv hs hl
   exact hr.nk k p y hp hy hyl
theorem b3B {C:Ctx} {M M0:l3} {σ:List c5} {w:World} (hr:Rel C M σ w) {k off len s:Nat} {rows:List (List CV)} {p:Pl} (hp:M.pl[k]? = some p) (hσ:σ[k]? = some (.vec s rows)) (hle:off+len≤rows.length) (hrows:∀ r∈rows,∀ c∈r,p5 c)
 (hat:∀ b o,M.at b o→M0.at b o) (hfp:M0.full p.block) {v:Value} (hv:RV M w (.vec k off len) v):RV M0 w (.list ((rows.drop off).take len) true none) v:=by
 cases hv with
 | vec hp' g1 g2 g3 =>
  rename_i p' a
  rw [hp] at hp'
  injection hp' with hp'
  subst hp'
  obtain ⟨⟨hps,q1,q2,q3,q4,arr,ty,q5,q6,q7⟩,_⟩:=hr.obj k p _ hp hσ
  have hlen:((rows.drop off).take len).length=len:=by simp; omega
  have hget:∀ i r,((rows.drop off).take len)[i]? = some r→i < len∧rows[off+i]? = some r:=fun i r hi=>by
   rw [List.getElem?_take] at hi
   split at hi
   ·rw [List.getElem?_drop] at hi; exact ⟨‹_›,hi⟩
   ·cases hi
  have hoff:(rows.drop off).take len≠[]→off < p.cap:=fun hne=>by
   have:0 < ((rows.drop off).take len).length:=List.length_pos_iff.2 hne
   omega
  refine RV.list' (L:=len) (by omega) (b:=p.block) (off:=off*p.size) (s:=p.size) (fun i j=>arr.getD ((off+i)*p.size+j) undef) (by omega) (by omega) rfl (fun h=>by cases h) (fun hne=>by rw [g3 (hoff hne)]) (fun r hr'=>?_) (fun r hr' c hc'=>?_) (fun i j r c hi hj=>?_) (fun i j r c hi hj=>?_) (fun k hk=>by cases hk)
  ·obtain ⟨i,hi⟩:=List.mem_iff_getElem?.1 hr'
   exact q3 r (List.mem_of_getElem? (hget i r hi).2)
  ·obtain ⟨i,hi⟩:=List.mem_iff_getElem?.1 hr'
   exact q4 r (List.mem_of_getElem? (hget i r hi).2) c hc'
  ·obtain ⟨hil,hri⟩:=hget i r hi
   have hjl:j < p.size:=by have:=(List.getElem?_eq_some_iff.1 hj).1; rwa [q3 r (List.mem_of_getElem? hri)] at this
   have hq:(off+i)*p.size+j < arr.size:=by
    rw [q6]
    have:(off+i+1)*p.size≤p.cap*p.size:=Nat.mul_le_mul_right _ (by omega)
    rw [Nat.add_mul (off+i)] at this; omega
   refine ⟨.inl hfp,?_⟩
   rw [show off*p.size+i*p.size+j=(off+i)*p.size+j from by rw [Nat.add_mul off]]
   simp [World.cell?,q5,hq]
  ·obtain ⟨hil,hri⟩:=hget i r hi
   exact (q7 _ _ _ _ hri hj).pure (fun b o h=>⟨hat b o h,rfl⟩) (hrows r (List.mem_of_getElem? hri) c (List.mem_of_getElem? hj))
theorem a5Q {C:Ctx} {f:FuncId} {args:List CV} {k off len s:Nat} {rows:List (List CV)} {v0:Value} {σ:List c5} (hC:C.plain) (hargs:∀ a∈args,p5 a) (hrows:∀ r∈rows,∀ c∈r,p5 c) (hle:off+len≤rows.length) (hk:σ[k]? = some (.vec s rows))
 (h:b8 C f (.list ((rows.drop off).take len) true none::args) [] fun r σ'=>r = .ret (.val v0)∧σ'=[]):b8 C f (.vec k off len::args) σ fun r σ'=>r = .ret (.val v0)∧σ'=σ :=
 fun M w vs hr hn hx=>by
  have hks:k < σ.length:=(List.getElem?_eq_some_iff.1 hk).1
  obtain ⟨q,hq⟩:∃ p,M.pl[k]? = some p:=⟨M.pl[k]'(by rw [hr.len]; exact hks),by simp⟩
  obtain ⟨hqo,hqf⟩:=hr.obj k q _ hq hk
  let LB:Nat→Prop:=fun b=>∃ (k:Nat) (p:Pl) (ob:c5),M.pl[k]? = some p∧σ[k]? = some ob∧ob.live=true∧p.block=b
  let M0:l3:={ pl:=[],full:=fun b=>M.full b∨b=q.block,cell:=M.cell,keep:=fun b=>M.keep b∨LB b}
  have hat:∀ b o,M.at b o→M0.at b o∧w.cell? ⟨b,o,none⟩=w.cell? ⟨b,o,none⟩:=fun b o h=>⟨h.imp .inl id,rfl⟩
  have hLB:∀ b,LB b→b < w.heap.size:=fun b ⟨k,p,ob,hp,hs,hl,hb⟩=>hb ▸ (hr.obj k p ob hp hs).1.lt hl
  have hr0:Rel C M0 [] w:=⟨rfl,fun b o hb=>(by
   rcases hb with (hb | rfl) | hb
   ·exact hr.blk b o (.inl hb)
   ·exact hqo.lt rfl
   ·exact hr.blk b o (.inr hb)),fun k p ob hp=>by simp [M0] at hp,fun k k' p p' ob ob' hp=>by simp [M0] at hp,fun g cells hg=>⟨by
   have:=(hr.glob g cells hg).rv
   cases this with
   | cptr vals h1 h2 h3=>exact .cptr vals h1 (fun j c hj=>⟨(hat _ _ (h2 j c hj).1).1,(h2 j c hj).2⟩) fun j c hj=>(h3 j c hj).pure hat (hC g cells hg c (List.mem_of_getElem? hj)),.inl (hr.glob g cells hg).full,(hr.glob g cells hg).sz⟩,
   fun b hb=>(by
    rcases hb with hb | hb
    ·exact hr.kep b hb
    ·exact hLB b hb),fun k p ob hp=>by simp [M0] at hp⟩
  refine (h M0 w vs hr0 hn fun i a hi=>?_).mono fun e w' he=>?_
  ·rcases i with _ | i
   ·simp at hi
    subst hi
    exact b3B hr hq hk hle hrows (fun b o h=>(hat b o h).1) (.inr rfl) (hx 0 _ (by simp))
   ·exact (hx (i+1) a (by simpa using hi)).pure hat (hargs a (List.mem_of_getElem? (by simpa using hi)))
  ·cases e with
   | panicked ch =>
    obtain ⟨c',v,σ',M',_,_,_,_,⟨h5,_⟩⟩:=he
    cases h5
   | outgrown=>exact he
   | returned v =>
    obtain ⟨c',σ',M',h1,h2,h3,⟨h4,rfl⟩⟩:=he
    injection h4 with h4
    subst h4
    let M2:l3:={ pl:=M.pl,full:=fun b=>M'.full b∧b≠q.block,cell:=fun b o=>M'.cell b o∧b≠q.block,keep:=M.keep}
    have hx2:Ext M w M2 w':=⟨⟨[],by simp [M2]⟩,fun b hb=>⟨h1.full b (.inl hb),fun e=>hqf.1 (e ▸ hb)⟩,fun b o hb=>(h1.cell b o hb).imp (fun h=>⟨h,fun e=>hqf.2 o (e ▸ hb)⟩) (fun h=>⟨h,fun e=>hqf.2 o (e ▸ hb)⟩),fun b hb=>h1.same b (.inl hb),h1.sameC,h1.size,h1.drew,h1.os,h1.tape,h1.output,fun b hb=>by
     obtain ⟨k1,k2,k3,k4⟩:=h1.kept b (.inl hb)
     exact ⟨hb,k2,fun hf=>(k3 hf.1).elim id fun e=>absurd e hf.2,fun o ho=>k4 o ho.1⟩⟩
    refine ⟨.val v0,σ,M2,hx2,⟨hr.len,fun b o hb=>h2.blk b o (hb.imp (·.1) (·.1)),fun k p ob hp hs=>?_,hr.inj,fun g cells hg=>(hr.glob g cells hg).mono hx2,fun b hb=>Nat.lt_of_lt_of_le (hr.kep b hb) h1.size,hr.nk⟩,by rw [n8 h3]; exact .val _,rfl,rfl⟩
    by_cases hl:ob.live=true
    ·obtain ⟨k1,k2,k3,k4⟩:=h1.kept p.block (.inr ⟨k,p,ob,hp,hs,hl,rfl⟩)
     obtain ⟨g1,g2⟩:=hr.obj k p ob hp hs
     have k3':M2.full p.block→M.full p.block:=fun hf=>(k3 hf.1).elim id fun e=>absurd e hf.2
     refine ⟨g1.mono hx2 k2 (fun _ _ _ o ho=>k4 o ho.1),?_⟩
     cases ob with
     | dead=>trivial
     | tipT t0 n=>exact fun hf=>g2 (k3' hf)
     | _=>exact ⟨fun hf=>g2.1 (k3' hf),fun o ho=>g2.2 o (k4 o ho.1)⟩
    ·cases ob <;> first|exact ⟨tt,tt⟩ | simp [c5.live] at hl
section
variable {C:Ctx} {E:Env} {σ:List c5} {o:Oper}
end
end Go.Cl
namespace Go.Cl
def a61 (ops:Array Oper) (al qs:List Nat) (ix:List Nat) (nh:Nat) (ms:List Nat) (fls:List (List Nat)):Bool :=
 Nat.beq ix.length ops.size && Q7 ix && (ix.all fun j=>Nat.blt j ops.size) && ((List.range ops.size).all fun j=>ix.contains j) && Nat.ble nh ops.size && Nat.beq (nh+fls.length) ops.size &&
 ((List.range ops.size).all fun j =>
  match ops[j]? with
  | none=>true
  | some o =>
   (o.after.toList.all fun e=>!y8 e || Nat.blt e.on j) &&
   ((List.range ops.size).all fun i=>!(ms.getD j 0).testBit i || o.after.toList.any fun e=>y8 e && (Nat.beq e.on i || (ms.getD e.on 0).testBit i))) &&
 ((List.range ops.size).all fun k =>
  match ops[ix.getD k 0]? with
  | none=>true
  | some o =>
   (if Nat.ble nh k then (List.range k).all fun k'=>Nat.blt k' nh || al.contains (ix.getD k 0) || qs.contains (ix.getD k' 0) || (ms.getD (ix.getD k 0) 0).testBit (ix.getD k' 0) else true) &&
   ((o.looksAt ops).all fun t=>(List.range ops.size).all fun k'=>Nat.beq k' k || !((ops[ix.getD k' 0]?).bind (·.dst) == some t) || (if Nat.blt k' k then (ms.getD (ix.getD k 0) 0).testBit (ix.getD k' 0) else (ms.getD (ix.getD k' 0) 0).testBit (ix.getD k 0))) &&
   (o.dst == none || (List.range k).all fun k'=>!((ops[ix.getD k' 0]?).bind (·.dst) == o.dst) || (ms.getD (ix.getD k 0) 0).testBit (ix.getD k' 0))) &&
 ((List.range fls.length).all fun p=>(List.range nh).all fun k=>(fls.getD p []).contains k || (List.range (p+1)).any fun p'=>!qs.contains (ix.getD (nh+p') 0) && (ms.getD (ix.getD (nh+p') 0) 0).testBit (ix.getD k 0)) &&
 (al.all fun i=>!qs.contains i)
structure a4M (ops:Array Oper) (al qs:List Nat) (ix:List Nat) (nh:Nat) (ms:List Nat) (fls:List (List Nat)):Prop where
 len:ix.length=ops.size
 nodup:∀ (i j k:Nat),ix[i]? = some k→ix[j]? = some k→i=j
 lt:∀ (k j:Nat),ix[k]? = some j→j < ops.size
 onto:∀ j,j < ops.size→∃ k:Nat,ix[k]? = some j
 le:nh≤ops.size
 fl:nh+fls.length=ops.size
 edge:∀ j o,ops[j]? = some o→∀ e∈o.after,y8 e=true→e.on < j
 mask:∀ j o,ops[j]? = some o→∀ i,i < ops.size→(ms.getD j 0).testBit i=true→∃ e∈o.after,y8 e=true∧(e.on=i∨(ms.getD e.on 0).testBit i=true)
 tail:∀ (k k' j j':Nat),nh≤k'→k' < k→ix[k]? = some j→ix[k']? = some j'→j∈al∨j'∈qs∨(ms.getD j 0).testBit j'=true
 tmps:∀ (k j:Nat) (o:Oper),ix[k]? = some j→ops[j]? = some o→∀ t∈o.looksAt ops,∀ (k' j':Nat) (o':Oper),k'≠k→ix[k']? = some j'→ops[j']? = some o'→o'.dst=some t→(k' < k∧(ms.getD j 0).testBit j'=true)∨(k < k'∧(ms.getD j' 0).testBit j=true)
 dsts:∀ (k k' j j':Nat) (o o':Oper) (d:Nat),k' < k→ix[k]? = some j→ix[k']? = some j'→ops[j]? = some o→ops[j']? = some o'→o.dst=some d→o'.dst=some d→(ms.getD j 0).testBit j'=true
 fls:∀ p k,p < fls.length→k < nh→k∈fls.getD p []∨∃ p',p'≤p∧ix.getD (nh+p') 0∉qs∧(ms.getD (ix.getD (nh+p') 0) 0).testBit (ix.getD k 0)=true
 aq:∀ i∈al,i∉qs
theorem b5N {ops:Array Oper} {al qs:List Nat} {ix:List Nat} {nh:Nat} {ms:List Nat} {fls:List (List Nat)} (h:a61 ops al qs ix nh ms fls=true):a4M ops al qs ix nh ms fls:=by
 unfold a61 at h
 simp only [Bool.and_eq_true] at h
 obtain ⟨⟨⟨⟨⟨⟨⟨⟨⟨h1,h2⟩,h3⟩,h4⟩,h5⟩,h6⟩,h7⟩,h8⟩,h9⟩,h10⟩:=h
 have hlen:=Nat.eq_of_beq_eq_true h1
 simp only [List.all_eq_true] at h3 h4 h7 h8 h9 h10
 have getD_of:∀ {k j:Nat},ix[k]? = some j→ix.getD k 0=j∧k < ops.size:=fun {k j} hk=>⟨by simp [List.getD_eq_getElem?_getD,hk],by rw [← hlen]; exact (List.getElem?_eq_some_iff.1 hk).1⟩
 have get7:∀ j o,ops[j]? = some o→_:=fun j o ho=>by
  have hj:j < ops.size:=(Array.getElem?_eq_some_iff.1 ho).1
  have:=h7 j (by simpa using hj)
  rw [ho] at this
  simp only [Bool.and_eq_true] at this
  exact this
 have get8:∀ k j o,ix[k]? = some j→ops[j]? = some o→_:=fun k j o hk ho=>by
  have:=h8 k (by simpa using (getD_of hk).2)
  rw [(getD_of hk).1,ho] at this
  simp only [Bool.and_eq_true] at this
  exact this
 refine ⟨hlen,a0A h2,fun k j hk=>by have:=h3 j (List.mem_of_getElem? hk); simpa [Nat.blt_eq] using this,fun j hj=>?_,nb h5,Nat.eq_of_beq_eq_true h6,fun j o ho e he hb=>?_,fun j o ho i hi hm=>?_,fun k k' j j' hn hlt hk hk'=>?_,fun k j o hk ho t ht k' j' o' hne hk' ho' hd=>?_,fun k k' j j' o o' d hlt hk hk' ho ho' hd hd'=>?_,fun p k hp hk=>?_,fun i hi=>by simpa using h10 i hi⟩
 ·have:=h4 j (by simpa using hj)
  have hm:j∈ix:=by simpa using this
  exact List.mem_iff_getElem?.1 hm
 ·have:=(get7 j o ho).1
  rw [List.all_eq_true] at this
  have:=this e (by simpa using he)
  simp only [hb,Bool.not_true,Bool.false_or] at this
  simpa [Nat.blt_eq] using this
 ·have:=(get7 j o ho).2
  rw [List.all_eq_true] at this
  have:=this i (by simpa using hi)
  simp only [hm,Bool.not_true,Bool.false_or,List.any_eq_true,Bool.and_eq_true,Bool.or_eq_true] at this
  obtain ⟨e,he,hb,hx⟩:=this
  refine ⟨e,by simpa using he,hb,?_⟩
  rcases hx with hx | hx
  ·exact .inl (Nat.eq_of_beq_eq_true hx)
  ·exact .inr hx
 ·have ho:ops[j]? = some (ops[j]'(by have:=h3 j (List.mem_of_getElem? hk); simpa [Nat.blt_eq] using this)):=by simp
  have:=(get8 k j _ hk ho).1.1
  rw [if_pos (by simp [Nat.ble_eq]; omega),List.all_eq_true] at this
  have:=this k' (by simpa using hlt)
  rw [(getD_of hk').1] at this
  have e1:Nat.blt k' nh=false:=Bool.eq_false_iff.2 fun hb=>by simp [Nat.blt_eq] at hb; omega
  simp only [e1,Bool.false_or,Bool.or_eq_true] at this
  rcases this with (h | h) | h
  ·exact .inl (by simpa using h)
  ·exact .inr (.inl (by simpa using h))
  ·exact .inr (.inr h)
 ·have:=(get8 k j o hk ho).1.2
  rw [List.all_eq_true] at this
  have:=this t ht
  rw [List.all_eq_true] at this
  have:=this k' (by simpa using (getD_of hk').2)
  rw [(getD_of hk').1] at this
  have e1:Nat.beq k' k=false:=Bool.eq_false_iff.2 fun hb=>hne (Nat.eq_of_beq_eq_true hb)
  simp only [e1,ho',Option.bind_some,hd,Bool.false_or,beq_self_eq_true,Bool.not_true] at this
  by_cases hlt:k' < k
  ·rw [if_pos (by simpa [Nat.blt_eq] using hlt)] at this
   exact .inl ⟨hlt,this⟩
  ·rw [if_neg (by simp [Nat.blt_eq]; omega)] at this
   exact .inr ⟨by omega,this⟩
 ·have:=(get8 k j o hk ho).2
  simp only [hd,Bool.or_eq_true,List.all_eq_true,List.mem_range] at this
  rcases this with h | h
  ·cases h
  ·have:=h k' hlt
   rw [(getD_of hk').1] at this
   simp only [ho',Option.bind_some,hd',beq_self_eq_true,Bool.not_true,Bool.false_eq_true,false_or] at this
   exact this
 ·have:=h9 p (by simpa using hp) k (by simpa using hk)
  simp only [Bool.or_eq_true,List.any_eq_true,List.mem_range,Bool.and_eq_true] at this
  rcases this with h | ⟨p',hp',hq,h⟩
  ·exact .inl (by simpa using h)
  ·exact .inr ⟨p',by omega,by simpa using hq,h⟩
theorem RV.grow {M M':l3} {w:World} (hpl:∃ l,M'.pl=M.pl++l) (hat:∀ b o,M.at b o→M'.at b o) {c:CV} {v:Value} (hr:RV M w c v):RV M' w c v:=by
 have get:∀ {k:Nat} {p:Pl},M.pl[k]? = some p→M'.pl[k]? = some p:=fun {k p} hk=>by
  obtain ⟨l,hl⟩:=hpl
  rw [hl,List.getElem?_append_left (List.getElem?_eq_some_iff.1 hk).1]
  exact hk
 induction hr with
 | val v=>exact .val v
 | agg h1 h2 _ ih=>exact .agg h1 h2 ih
 | tup h1 _ ih=>exact .tup h1 ih
 | clo h1 _ ih=>exact .clo h1 ih
 | list vals h1 h2 h3 h4 h5 h6 h7 h8 _ h10 ih =>
  refine .list vals h1 h2 h3 h4 h5 h6 h7 (fun i j r c hi hj=>?_) ih (fun k hk=>?_)
  ·obtain ⟨ha,hc⟩:=h8 i j r c hi hj
   exact ⟨hat _ _ ha,hc⟩
  ·obtain ⟨s',hp,hrest⟩:=h10 k hk
   exact ⟨s',get hp,hrest⟩
 | ptr hk=>exact .ptr (get hk)
 | cptr vals h1 h2 _ ih =>
  refine .cptr vals h1 (fun j c hj=>?_) ih
  obtain ⟨ha,hc⟩:=h2 j c hj
  exact ⟨hat _ _ ha,hc⟩
 | eptr hk=>exact .eptr (get hk)
 | vec hk h1 h2 h3=>exact .vec (get hk) h1 h2 h3
 | map hk=>exact .map (get hk)
def l3.adopt (M:l3) (q:Nat):l3:={ pl:=M.pl++[⟨q,0,0⟩],full:=M.full,cell:=M.cell,keep:=fun b=>M.keep b∧b≠q}
def l3.keepNew (M:l3) (q:Nat):l3:={ M with keep:=fun b=>M.keep b∨b=q}
theorem Rel.keepNew {C:Ctx} {M:l3} {σ:List c5} {w:World} (hr:Rel C M σ w) (ob:Obj):Ext M w (M.keepNew w.heap.size) (w.alloc ob)∧Rel C (M.keepNew w.heap.size) σ (w.alloc ob):=by
 have hx:Ext M w (M.keepNew w.heap.size) (w.alloc ob):=⟨⟨[],by simp [l3.keepNew]⟩,fun _ h=>h,fun _ _ h=>.inr h,fun b h=>w8 w ob (hr.blk b 0 (.inl h)),fun b o' h=>B5 (w8 w ob (hr.blk b o' (.inr h))),by rw [World.size_alloc]; omega,G5,rfl,rfl,rfl,fun b h=>⟨.inl h,w8 w ob (hr.kep b h),id,fun _ f=>f⟩⟩
 refine ⟨hx,hr.len,fun b o' ha=>?_,fun k p x hk hs=>?_,hr.inj,fun g cells hg=>(hr.glob g cells hg).mono hx,fun b h=>?_,fun k p x hk hs hl h=>?_⟩
 ·have:=hr.blk b o' ha
  rw [World.size_alloc]; omega
 ·obtain ⟨h1,h2⟩:=hr.obj k p x hk hs
  refine ⟨?_,h2⟩
  by_cases hl:x.live=true
  ·exact h1.mono hx (w8 w ob (h1.lt hl)) (fun _ _ _ _ h=>h)
  ·cases x <;> first | trivial | simp [c5.live] at hl
 ·rw [World.size_alloc]
  rcases h with h | h
  ·have:=hr.kep b h; omega
  ·omega
 ·rcases h with h | h
  ·exact hr.nk k p x hk hs hl h
  ·have:=(hr.obj k p x hk hs).1.lt hl
   omega
structure a63 where
 ob:Obj
 cob:c5
 val:Nat→Value
 cv:Nat→CV
def b9K (z:Value) (t:TypeId):a63:=⟨.cells z.cells t,.box (C3 z).cells,fun q=>.pointer (some ⟨q,0,none⟩),fun k=>.ptr k 0⟩
def b8m:a63:=⟨.map #[] 0,.map [],fun q=>.map (some q),fun k=>.map k⟩
def T3 (C:Ctx) (o:Oper) (N:a63):Prop :=
 (∃ t z,o.op = .alloc t∧(∀ w,(zeroValue t).run C.P w = .ok z w)∧E3 z=true∧((C3 z).one=true∨∃ cs,C3 z = .agg cs)∧N=b9K z t)∨(∃ t,o.op = .makeMap t none∧N=b8m)
theorem T3.uniq {C:Ctx} {o:Oper} {N N':a63} (w:World) (h:T3 C o N) (h':T3 C o N'):N=N':=by
 rcases h with ⟨t,z,h1,h2,_,_,rfl⟩ | ⟨t,h1,rfl⟩
 ·rcases h' with ⟨t',z',g1,g2,_,_,rfl⟩ | ⟨t',g1,rfl⟩
  ·rw [h1] at g1
   injection g1 with g1
   subst g1
   have e:=h2 w
   rw [g2 w] at e
   injection e with e _
   rw [e]
  ·rw [h1] at g1; cases g1
 ·rcases h' with ⟨t',z',g1,g2,_,_,rfl⟩ | ⟨t',g1,rfl⟩
  ·rw [h1] at g1; cases g1
  ·rfl
theorem T3.run {C:Ctx} {o:Oper} {N:a63} (h:T3 C o N) (ρ:Operand→Value) (w:World):(execOp ρ o).run C.P w = .ok (.value (N.val w.heap.size)) (w.alloc N.ob):=by
 rcases h with ⟨t,z,h1,h2,_,_,rfl⟩ | ⟨t,h1,rfl⟩
 ·simp [execOp,h1,Instr.alloc,h2,V5,b9K]
 ·simp [execOp,h1,Instr.makeMap,b8m]
theorem T3.rel {C:Ctx} {o:Oper} {N:a63} (h:T3 C o N) {M:l3} {w:World} {q:Nat} (hh:w.heap[q]? = some N.ob) (h1:¬ M.full q) (h2:∀ x,¬ M.cell q x):G0 M w ⟨q,0,0⟩ N.cob∧a1F M ⟨q,0,0⟩ N.cob:=by
 rcases h with ⟨t,z,_,_,hc1,hc2,rfl⟩ | ⟨t,_,rfl⟩
 ·obtain ⟨e1,e2,e3⟩:=(O8 (M:=M) (w:=w) hc1).cells hc2
  exact ⟨⟨z.cells,t,hh,e1,e2,e3⟩,h1,h2⟩
 ·exact ⟨⟨#[],0,hh,⟨rfl,fun i j e e' h=>by simp at h⟩,by simp⟩,h1,h2⟩
theorem T3.rv {C:Ctx} {o:Oper} {N:a63} (h:T3 C o N) {M:l3} {w:World} {k q:Nat} (hk:M.pl[k]? = some ⟨q,0,0⟩):RV M w (N.cv k) (N.val q):=by
 rcases h with ⟨t,z,_,_,_,_,rfl⟩ | ⟨t,_,rfl⟩
 ·exact .ptr hk
 ·exact .map hk
theorem T3.does {C:Ctx} {σ:List c5} {E:Env} {o:Oper} {N:a63} (h:T3 C o N) {K:v7→List c5→Prop} (hk:K (.ret (N.cv σ.length)) (σ++[N.cob])):C2 C σ E o K:=by
 rcases h with ⟨t,z,h1,h2,hc1,hc2,rfl⟩ | ⟨t,h1,rfl⟩
 ·exact m9 h1 h2 hc1 hc2 hk
 ·exact N8 h1 hk
theorem Rel.adopt {C:Ctx} {M:l3} {σ:List c5} {w:World} (hr:Rel C M σ w) {q:Nat} {N:a63} {o:Oper} (hN:T3 C o N) (hk:M.keep q) (hh:w.heap[q]? = some N.ob) (h1:¬ M.full q) (h2:∀ x,¬ M.cell q x) :
 Rel C (M.adopt q) (σ++[N.cob]) w∧∀ c v,RV M w c v→RV (M.adopt q) w c v:=by
 have hg:∀ c v,RV M w c v→RV (M.adopt q) w c v:=fun c v h=>RV.grow (M:=M) (M':=M.adopt q) ⟨[⟨q,0,0⟩],rfl⟩ (fun _ _ h=>h) h
 have hget:∀ {k:Nat} {p:Pl},(M.adopt q).pl[k]? = some p→(k < σ.length∧M.pl[k]? = some p)∨(k=σ.length∧p=⟨q,0,0⟩):=fun {k p} hk'=>by
  simp only [l3.adopt,List.getElem?_append,hr.len] at hk'
  split at hk'
  ·exact .inl ⟨‹_›,hk'⟩
  ·have:k - σ.length=0:=by
    have:=(List.getElem?_eq_some_iff.1 hk').1
    simp at this; omega
   rw [this] at hk'
   simp at hk'
   exact .inr ⟨by omega,hk'.symm⟩
 have hgo:∀ {k:Nat} {x:c5},(σ++[N.cob])[k]? = some x→k < σ.length→σ[k]? = some x:=fun {k x} hk' hlt=>by
  rwa [List.getElem?_append_left hlt] at hk'
 have hgn:∀ {x:c5},(σ++[N.cob])[σ.length]? = some x→x=N.cob:=fun {x} hk'=>by simp at hk'; exact hk'.symm
 refine ⟨⟨by simp [l3.adopt,hr.len],hr.blk,fun k p x hp hs=>?_,fun k k' p p' x x' hp hp' hs hs' hl hl' hb=>?_,fun g cells hgg=>⟨hg _ _ (hr.glob g cells hgg).rv,(hr.glob g cells hgg).full,(hr.glob g cells hgg).sz⟩,fun b hb=>hr.kep b hb.1,fun k p x hp hs hl hkk=>?_⟩,hg⟩
 ·rcases hget hp with ⟨hlt,hp⟩ | ⟨rfl,rfl⟩
  ·obtain ⟨g1,g2⟩:=hr.obj k p x hp (hgo hs hlt)
   refine ⟨?_,g2⟩
   cases x with
   | dead=>trivial
   | boxT t0 cells =>
    obtain ⟨arr,ty,e1,e2,e3,e4⟩:=g1
    exact ⟨arr,ty,e1,e2,e3,fun i c hi=>hg _ _ (e4 i c hi)⟩
   | tipT t0 n=>exact g1
   | vec s rows =>
    obtain ⟨e0,e1,e2,e3,e4,arr,ty,e5,e6,e7⟩:=g1
    exact ⟨e0,e1,e2,e3,e4,arr,ty,e5,e6,fun i j r c hi hj=>hg _ _ (e7 i j r c hi hj)⟩
   | map es =>
    obtain ⟨ents,clock,e1,e2,e3⟩:=g1
    exact ⟨ents,clock,e1,e2,fun i x hi=>by
     obtain ⟨e,q1,q2,q3,q4⟩:=e3 i x hi
     exact ⟨e,q1,hg _ _ q2,hg _ _ q3,q4⟩⟩
   | iter cur es =>
    obtain ⟨mb,seen,last,ents,clock,e1,e2,e3,e4,e5,e6,e7,e8,e9⟩:=g1
    exact ⟨mb,seen,last,ents,clock,e1,e2,e3,e4,e5,e6,e7,fun i x hi=>by
     obtain ⟨e,q1,q2,q3⟩:=e8 i x hi
     exact ⟨e,q1,hg _ _ q2,hg _ _ q3⟩,fun i x hi=>by
     obtain ⟨hl,j,e,q0,q1,q2,q3⟩:=e9 i x hi
     exact ⟨hl,j,e,q0,q1,hg _ _ q2,hg _ _ q3⟩⟩
  ·obtain rfl:=hgn hs
   exact hN.rel (M:=M.adopt q) hh h1 h2
 ·rcases hget hp with ⟨hlt,hp⟩ | ⟨rfl,rfl⟩
  ·rcases hget hp' with ⟨hlt',hp'⟩ | ⟨rfl,rfl⟩
   ·exact hr.inj k k' p p' x x' hp hp' (hgo hs hlt) (hgo hs' hlt') hl hl' hb
   ·exact absurd (hb ▸ hk) (hr.nk k p x hp (hgo hs hlt) hl)
  ·rcases hget hp' with ⟨hlt',hp'⟩ | ⟨rfl,rfl⟩
   ·exact absurd (hb ▸ hk) (hr.nk k' p' x' hp' (hgo hs' hlt') hl')
   ·rfl
 ·rcases hget hp with ⟨hlt,hp⟩ | ⟨rfl,rfl⟩
  ·exact hr.nk k p x hp (hgo hs hlt) hl hkk.1
  ·exact hkk.2 rfl
def Env.hideP (E:Env) (p:Nat→Prop):Env:={ f:=E.f,ok:=fun t=>¬ p t∧E.ok t,un:=fun t=>¬ p t∧E.un t}
theorem G3.putH {M M':l3} {w w':World} {n:Nat} {E E':Env} {a:Act} {d:Option Nat} {c':CV} {v:Value} {g:Prop} {p p':Nat→Prop} (hf:G3 M w n (E.hideP p) a) (hx:Ext M w M' w') (hd:∀ t,d=some t→t < n) (hv:g→RV M' w' c' v) (hu:¬ g→v=undef)
 (hag:∀ t,¬ p' t→E'.agree t (E.put d c' g)) (hp:∀ t,¬ p' t→d≠some t→¬ p t):G3 M' w' n (E'.hideP p') (a.put d v):=by
 have hput:=(hf.mono hx).put (d:=d) (c:=c') (v:=v) (g:=g) hd hv hu
 refine ⟨hput.defers,hput.size,fun t ⟨h1,h2⟩=>?_,fun t ⟨h1,h2⟩=>?_⟩
 ·have hg:=hag t h1
  show RV M' w' (E'.f t) _
  rw [hg.2.1] at h2
  rw [hg.1]
  cases d with
  | none=>exact hput.rv t ⟨hp t h1 (by simp),h2⟩
  | some d =>
   have h3:=hput.rv t
   by_cases htd:t=d
   ·subst htd
    rw [Env.put_ok,if_pos rfl] at h2
    rw [Env.put_f,if_pos rfl]
    have:=h3 (by rw [Env.put_ok,if_pos rfl]; exact h2)
    rwa [Env.put_f,if_pos rfl] at this
   ·rw [Env.put_ok,if_neg htd] at h2
    rw [Env.put_f,if_neg htd]
    have:=h3 (by rw [Env.put_ok,if_neg htd]; exact ⟨hp t h1 (by simpa using fun e=>htd e.symm),h2⟩)
    rwa [Env.put_f,if_neg htd] at this
 ·have hg:=hag t h1
  rw [hg.2.2] at h2
  cases d with
  | none=>exact hput.un t ⟨hp t h1 (by simp),h2⟩
  | some d =>
   have h3:=hput.un t
   by_cases htd:t=d
   ·subst htd
    rw [Env.put_un,if_pos rfl] at h2
    exact h3 (by rw [Env.put_un,if_pos rfl]; exact h2)
   ·rw [Env.put_un,if_neg htd] at h2
    exact h3 (by rw [Env.put_un,if_neg htd]; exact ⟨hp t h1 (by simpa using fun e=>htd e.symm),h2⟩)
section
variable {C:Ctx} {n:Nat} {σ:List c5} {ops:Array Oper}
def b7j (C:Ctx) (ops:Array Oper) (o:Oper) (E:Env) (σ:List c5) (K:CV→Prop→List c5→Prop):Prop :=
 ∃ j t want b c0,o.guard=some (j,want)∧(ops[j]?).bind (·.dst)=some t∧E.ok t∧E.f t = .val (.bool b)∧(b=want→C2 C σ E o fun r σ'=>match r with | .ret c=>K c (b=want) σ' | .pan _=>False)∧(¬ b=want→K c0 (b=want) σ)
def M7 (C:Ctx) (ops:Array Oper) (al qs:List Nat) (Q:s8→Env→List c5→Prop) (S:List (List c5→Prop)):List (Nat × List Nat)→Env→List c5→Prop
 | [],E,σ=>Q .normal E σ
 | (i,fl)::l,E,σ=>∃ o,ops[i]? = some o∧((qs.contains i=true∧∃ c g,(∀ σ',C7 C σ' ops o E c g)∧M7 C ops al qs Q S l (E.put o.dst c g) σ)∨(qs.contains i=false∧((al.contains i=false∧((b4t C ops o E σ (fun c g σ'=>J2 S σ' fl∧M7 C ops al qs Q S l (E.put o.dst c g) σ') fun _ _=>False)∨(b7j C ops o E σ fun c g σ'=>J2 S σ' fl∧M7 C ops al qs Q S l (E.put o.dst c g) σ'))) ∨
  (o.guard=none∧∃ N,T3 C o N∧J2 S (σ++[N.cob]) fl∧M7 C ops al qs Q S l (E.put o.dst (N.cv σ.length) True) (σ++[N.cob])))))
def AZ (C:Ctx) (ops:Array Oper):List Nat→Prop
 | []=>True
 | i::l=>(∃ o N d,ops[i]? = some o∧T3 C o N∧o.guard=none∧o.dst=some d)∧AZ C ops l
theorem AZ.get:∀ {al:List Nat},AZ C ops al→∀ i∈al,∃ o N d,ops[i]? = some o∧T3 C o N∧o.guard=none∧o.dst=some d
 | [],_,i,h=>by cases h
 | x::l,⟨h1,h2⟩,i,h=>by
  rcases List.mem_cons.1 h with rfl | h
  ·exact h1
  ·exact AZ.get h2 i h
def a80 (C:Ctx) (M0 M:l3) (w:World) (a:Act) (ops:Array Oper) (i q:Nat):Prop :=
 ∃ o N d,ops[i]? = some o∧T3 C o N∧o.dst=some d∧M.keep q∧¬ M0.keep q∧w.heap[q]? = some N.ob∧¬ M.full q∧(∀ x,¬ M.cell q x)∧a.tmps.getD d undef=N.val q
theorem a80.step {M0 M M':l3} {w w':World} {a:Act} {i q:Nat} {d':Option Nat} {v:Value} (h:a80 C M0 M w a ops i q) (hx:Ext M w M' w') (hs:∀ d o,ops[i]? = some o→o.dst=some d→d'≠some d):a80 C M0 M' w' (a.put d' v) ops i q:=by
 obtain ⟨o,N,d,h1,h2,h4,h5,h6,h7,h8,h9,h10⟩:=h
 obtain ⟨k1,k2,k3,k4⟩:=hx.kept q h5
 refine ⟨o,N,d,h1,h2,h4,k1,h6,k2.trans h7,fun f=>h8 (k3 f),fun x f=>h9 x (k4 x f),?_⟩
 have hne:=hs d o h1 h4
 cases d' with
 | none=>exact h10
 | some d' =>
  have:d'≠d:=fun e=>hne (by rw [e])
  rw [← h10]
  simp [Act.put,Array.getElem?_setIfInBounds_ne this]
theorem a0J {al qs:List Nat} {ix:List Nat} {nh:Nat} {ms:List Nat} {fls:List (List Nat)} (hok:a4M ops al qs ix nh ms fls) {listed:Array Bool} (hcl:∀ k o,ops[k]? = some o→listed.getD k false=true→∀ e∈o.after,y8 e=true→listed.getD e.on false=true) :
 ∀ (j:Nat) (o:Oper),ops[j]? = some o→(∀ e∈o.after,y8 e=true→listed.getD e.on false=true)→∀ i,i < ops.size→(ms.getD j 0).testBit i=true→listed.getD i false=true:=by
 intro j
 induction j using Nat.strongRecOn with
 | _ j ih =>
  intro o ho he i hi hm
  obtain ⟨e,hmem,hb,hx⟩:=hok.mask j o ho i hi hm
  rcases hx with hx | hx
  ·subst hx; exact he e hmem hb
  ·have hlt:=hok.edge j o ho e hmem hb
   have hj:j < ops.size:=(Array.getElem?_eq_some_iff.1 ho).1
   have ho':ops[e.on]? = some (ops[e.on]'(by omega)):=by simp [show e.on < ops.size by omega]
   exact ih e.on hlt _ ho' (hcl _ _ ho' (he e hmem hb)) i hi hx
def ES (ops:Array Oper) (ix:List Nat) (m:Nat) (listed:Array Bool) (t:Nat):Prop:=∃ k i o,m≤k∧ix[k]? = some i∧listed.getD i false=true∧ops[i]? = some o∧o.dst=some t
theorem b0w {al qs:List Nat} {ix:List Nat} {nh:Nat} {ms:List Nat} {fls:List (List Nat)} (hok:a4M ops al qs ix nh ms fls) {Q:s8→Env→List c5→Prop} {E:Env} {hs:List (Oper × CV × Prop)} (hhl:hs.length=nh) (hhs:∀ (k i:Nat),k < nh→ix[k]? = some i→∃ o c g,hs[k]? = some (o,c,g)∧ops[i]? = some o)
 (hz:AZ C ops al) (huniq:∀ i∈al,∀ (i':Nat) (o o':Oper) (d:Nat),ops[i]? = some o→ops[i']? = some o'→o.dst=some d→o'.dst=some d→i'=i) (hd:∀ o∈ops,∀ d,o.dst=some d→d < n) {S:List (List c5→Prop)} (hS:∀ (k:Nat) (o:Oper) (c:CV) (g:Prop) σ',hs[k]? = some (o,c,g)→(S.getD k fun _=>True) σ'→C7 C σ' ops o (l7 (fun j=>decide (j < k)) 0 hs E) c g) (M0:l3) (w0:World) :
 ∀ (m:Nat) (fuel:Nat) (j:Nat) (ts:List (Oper × CV × Prop)) (listed:Array Bool) (u:List Nat) (σ:List c5) (a:Act) (w:World) (M:l3) (qf:Nat→Nat),fuel+(ops.size - (nh+j))=m→listed.size=ops.size→u.length=fuel→(∀ i,i < ops.size→listed.getD i false=false→i∈u)→(∀ i,i∈u→i < ops.size∧listed.getD i false=false)→u.Nodup →
  (∀ k o,ops[k]? = some o→listed.getD k false=true→∀ e∈o.after,y8 e=true→listed.getD e.on false=true) →
  nh+j≤ops.size→ts.length=j→(∀ (k i:Nat),nh≤k→k < nh+j→ix[k]? = some i→(listed.getD i false=true∨i∈qs)∧∃ o c g,ts[k - nh]? = some (o,c,g)∧ops[i]? = some o) →
  (∀ (k i:Nat) (o:Oper) (c:CV) (g:Prop),nh≤k→k < nh+j→ix[k]? = some i→i∈qs→ts[k - nh]? = some (o,c,g)→∀ σ',C7 C σ' ops o (l7 (fun j=>decide (j < k)) 0 (hs++ts) E) c g) →
  (∀ (k i:Nat),nh+j≤k→ix[k]? = some i→listed.getD i false=true→i∈al∧a80 C M0 M w a ops i (qf k)) →
  (∀ (k k' i i':Nat),nh+j≤k→nh+j≤k'→ix[k]? = some i→ix[k']? = some i'→listed.getD i false=true→listed.getD i' false=true→qf k=qf k'→k=k') →
  (∀ (k i:Nat) (o:Oper) (c:CV) (g:Prop),k < nh→ix[k]? = some i→listed.getD i false=false→hs[k]? = some (o,c,g)→C7 C σ ops o (l7 (fun j=>decide (j < k)) 0 hs E) c g) →
  M7 C ops al qs Q S (((List.range (ops.size - nh)).map fun p=>(ix.getD (nh+p) 0,fls.getD p [])).drop j) (l7 (fun _=>true) 0 (hs++ts) E) σ →
  Ext M0 w0 M w→Rel C M σ w→G3 M w n ((l7 (fun k=>listed.getD (ix.getD k 0) false) 0 (hs++ts) E).hideP (ES ops ix (nh+j) listed)) a→wpAny C.P .any ops (E6 C n Q M0 w0) fuel listed a w:=by
 have ixD:∀ {k i:Nat},ix[k]? = some i→ix.getD k 0=i:=fun {k i} h=>by simp [List.getD_eq_getElem?_getD,h]
 have ixk:∀ k,k < ops.size→∃ i:Nat,ix[k]? = some i:=fun k hk=>⟨ix[k]'(by rw [hok.len]; exact hk),by simp⟩
 have hclosed:∀ {listed:Array Bool},(∀ k o,ops[k]? = some o→listed.getD k false=true→∀ e∈o.after,y8 e=true→listed.getD e.on false=true)→∀ i j:Nat,i < ops.size→j < ops.size→(ms.getD j 0).testBit i=true→listed.getD j false=true→listed.getD i false=true:=fun {listed} hcl i j hi hj hm hl=>by
  have ho:ops[j]? = some ops[j]:=by simp [hj]
  exact a0J hok hcl j _ ho (hcl j _ ho hl) i hi hm
 intro m
 induction m using Nat.strongRecOn with
 | _ m IH =>
 intro fuel j ts listed u σ a w M qf hm hsz hu hun hun' hnd hcl hjs hts htl hqt hea hinj hst hct hx hr hf
 have hdrop:∀ {i:Nat},nh+j < ops.size→ix[nh+j]? = some i→(((List.range (ops.size - nh)).map fun p=>(ix.getD (nh+p) 0,fls.getD p [])).drop j)=(i,fls.getD j [])::(((List.range (ops.size - nh)).map fun p=>(ix.getD (nh+p) 0,fls.getD p [])).drop (j+1)):=fun {i} hlt hk=>by
  rw [List.drop_eq_getElem_cons (by simp; omega)]
  rw [List.getElem_map,List.getElem_range,ixD hk]
 have hts1:∀ (L:Nat→Bool) (o:Oper) (c:CV) (g:Prop),l7 L 0 (hs++(ts++[(o,c,g)])) E=match L (nh+j) with | true=>(l7 L 0 (hs++ts) E).put o.dst c g | false=>l7 L 0 (hs++ts) E:=fun L o c g=>by
  rw [← List.append_assoc,a0e]
  have:0+(hs++ts).length=nh+j:=by simp [hhl,hts]
  rw [this]; rfl
 have hqt1:∀ (o1:Oper) (c1:CV) (g1:Prop),(nh+j < ops.size→∀ i:Nat,ix[nh+j]? = some i→i∈qs→∀ σ',C7 C σ' ops o1 (l7 (fun _=>true) 0 (hs++ts) E) c1 g1)→nh+j < ops.size→∀ (k i:Nat) (o:Oper) (c:CV) (g:Prop),nh≤k→k < nh+(j+1)→ix[k]? = some i→i∈qs→(ts++[(o1,c1,g1)])[k - nh]? = some (o,c,g)→∀ σ',C7 C σ' ops o (l7 (fun j=>decide (j < k)) 0 (hs++(ts++[(o1,c1,g1)])) E) c g:=fun o1 c1 g1 hnew hlt k i o c g h1 h2 h3 h4 h5 σ'=>by
  rw [hts1]
  have e:decide (nh+j < k)=false:=by simp; omega
  simp only [e]
  by_cases hkk:k=nh+j
  ·subst hkk
   rw [show nh+j - nh=ts.length by omega] at h5
   have h6:some (o1,c1,g1)=some (o,c,g):=by rw [← h5,List.getElem?_append_right (Nat.le_refl _),Nat.sub_self]; rfl
   cases h6
   have he:l7 (fun j'=>decide (j' < nh+j)) 0 (hs++ts) E=l7 (fun _=>true) 0 (hs++ts) E:=K0 _ _ _ fun k hk=>by
    simp [hhl,hts] at hk
    simp; omega
   rw [he]
   exact hnew hlt i h3 h4 σ'
  ·rw [List.getElem?_append_left (by omega)] at h5
   exact hqt k i o c g h1 (by omega) h3 h4 h5 σ'
 by_cases hquiet:∃ i,ix[nh+j]? = some i∧i∈qs
 ·obtain ⟨i,hi,hiq⟩:=hquiet
  have hlt:nh+j < ops.size:=by rw [← hok.len]; exact (List.getElem?_eq_some_iff.1 hi).1
  have hno:listed.getD i false=false:=by
   cases h:listed.getD i false with
   | false=>rfl
   | true=>exact absurd hiq (hok.aq i (hea _ i (Nat.le_refl _) hi h).1)
  rw [hdrop hlt hi] at hct
  obtain ⟨o,ho,hct⟩:=hct
  rcases hct with ⟨_,c,g,hop,hct⟩ | ⟨hq,_⟩
  ·refine IH (fuel+(ops.size - (nh+(j+1)))) (by omega) fuel (j+1) (ts++[(o,c,g)]) listed u σ a w M qf rfl hsz hu hun hun' hnd hcl (by omega) (by simp [hts]) (fun k' i' h1 h2 h3=>?_) (hqt1 o c g (fun _ _ _ _ σ'=>hop σ') hlt) (fun k' i' h1 h3 h4=>hea k' i' (by omega) h3 h4) (fun k k' i i' h1 h2=>hinj k k' i i' (by omega) (by omega)) hst (by rw [hts1]; exact hct) hx hr ?_
   ·by_cases hkk:k'=nh+j
    ·subst hkk
     rw [hi] at h3
     injection h3 with h3
     subst h3
     refine ⟨.inr hiq,o,c,g,?_,ho⟩
     rw [show nh+j - nh=ts.length by omega]
     simp
    ·obtain ⟨g1,o',c',g',g2,g3⟩:=htl k' i' h1 (by omega) h3
     refine ⟨g1,o',c',g',?_,g3⟩
     rw [List.getElem?_append_left (by omega)]; exact g2
   ·rw [hts1]
    have:listed.getD (ix.getD (nh+j) 0) false=false:=by rw [ixD hi]; exact hno
    simp only [this]
    have hES:∀ t',¬ ES ops ix (nh+(j+1)) listed t'→¬ ES ops ix (nh+j) listed t':=fun t' h ⟨k',i',o',q1,q2,q3,q4,q5⟩=>by
     by_cases hkk:k'=nh+j
     ·subst hkk
      rw [hi] at q2
      injection q2 with q2
      subst q2
      rw [hno] at q3
      cases q3
     ·exact h ⟨k',i',o',by omega,q2,q3,q4,q5⟩
    exact ⟨hf.defers,hf.size,fun t ht=>hf.rv t ⟨hES t ht.1,ht.2⟩,fun t ht=>hf.un t ⟨hES t ht.1,ht.2⟩⟩
  ·simp [hiq] at hq
 have hnq:∀ i:Nat,ix[nh+j]? = some i→i∉qs:=fun i hi hiq=>hquiet ⟨i,hi,hiq⟩
 by_cases hrev:∃ i,ix[nh+j]? = some i∧listed.getD i false=true
 ·
  obtain ⟨i,hi,hiL⟩:=hrev
  have hlt:nh+j < ops.size:=by rw [← hok.len]; exact (List.getElem?_eq_some_iff.1 hi).1
  obtain ⟨hal,o,N,d,ho,hot,hod,hk1,hk2,hhp,hq1,hq2,htm⟩:=hea _ i (Nat.le_refl _) hi hiL
  rw [hdrop hlt hi] at hct
  obtain ⟨o',ho',hct⟩:=hct
  rw [ho] at ho'
  injection ho' with ho'
  subst ho'
  rcases hct with ⟨hqc,_⟩ | ⟨_,⟨hno,_⟩ | ⟨hg,N',hot',hfl,hct⟩⟩
  ·exact absurd (by simpa using hqc) (hnq i hi)
  ·simp [hal] at hno
  ·obtain rfl:=hot.uniq w hot'
   obtain ⟨hr1,hgrow⟩:=hr.adopt hot hk1 hhp hq1 hq2
   have hx1:Ext M0 w0 (M.adopt (qf (nh+j))) w:=by
    obtain ⟨l,hl⟩:=hx.pl
    exact ⟨⟨l++[⟨qf (nh+j),0,0⟩],by rw [← List.append_assoc,← hl]; rfl⟩,hx.full,hx.cell,hx.same,hx.sameC,hx.size,hx.drew,hx.os,hx.tape,hx.output,fun b hb=>by
     obtain ⟨k1,k2,k3,k4⟩:=hx.kept b hb
     exact ⟨⟨k1,fun e=>hk2 (e ▸ hb)⟩,k2,k3,k4⟩⟩
   refine IH (fuel+(ops.size - (nh+(j+1)))) (by omega) fuel (j+1) (ts++[(o,N.cv σ.length,True)]) listed u _ a w _ qf rfl hsz hu hun hun' hnd hcl (by omega) (by simp [hts]) (fun k' i' h1 h2 h3=>?_) (hqt1 _ _ _ (fun _ i' hi' hiq=>absurd hiq (hnq i' hi')) hlt) (fun k' i' h1 h3 h4=>?_) (fun k k' i i' h1 h2=>hinj k k' i i' (by omega) (by omega)) (fun k' i' o' c' g' h1 h2 h3 h4=>?_) (by rw [hts1]; exact hct) hx1 hr1 ?_
   ·by_cases hkk:k'=nh+j
    ·subst hkk
     rw [hi] at h3
     injection h3 with h3
     subst h3
     refine ⟨.inl hiL,o,N.cv σ.length,True,?_,ho⟩
     rw [show nh+j - nh=ts.length by omega]
     simp
    ·obtain ⟨g1,o',c',g',g2,g3⟩:=htl k' i' h1 (by omega) h3
     refine ⟨g1,o',c',g',?_,g3⟩
     rw [List.getElem?_append_left (by omega)]; exact g2
   ·obtain ⟨e0,o1,N1,d1,e1,e2,e4,e5,e6,e7,e8,e9,e10⟩:=hea k' i' (by omega) h3 h4
    refine ⟨e0,o1,N1,d1,e1,e2,e4,⟨e5,fun e=>?_⟩,e6,e7,e8,e9,e10⟩
    have:=hinj k' (nh+j) i' i (by omega) (Nat.le_refl _) h3 hi h4 hiL e
    omega
   ·rcases hok.fls j k' (by have:=hok.fl; omega) h1 with hin | ⟨p',hp',hpq,hmm⟩
    ·exact hS k' o' c' g' _ h4 (hfl.get k' hin)
    ·exfalso
     obtain ⟨i'',hi''⟩:=ixk (nh+p') (by omega)
     rw [ixD hi'',ixD h2] at hmm
     have hL'':listed.getD i'' false=true:=by
      by_cases hpj:p'=j
      ·subst hpj
       rw [hi] at hi''
       injection hi'' with hi''
       subst hi''
       exact hiL
      ·exact (htl (nh+p') i'' (by omega) (by omega) hi'').1.resolve_right (by rw [ixD hi''] at hpq; exact hpq)
     have hl:=hclosed hcl i' i'' (hok.lt _ _ h2) (hok.lt _ _ hi'') hmm hL''
     rw [hl] at h3
     cases h3
   ·rw [hts1]
    have:listed.getD (ix.getD (nh+j) 0) false=true:=by rw [ixD hi]; exact hiL
    simp only [this]
    rw [hod]
    have hES:∀ t',¬ ES ops ix (nh+(j+1)) listed t'→t'≠d→¬ ES ops ix (nh+j) listed t':=fun t' h hne ⟨k',i',o',q1,q2,q3,q4,q5⟩=>by
     by_cases hkk:k'=nh+j
     ·subst hkk
      rw [hi] at q2
      injection q2 with q2
      subst q2
      rw [ho] at q4
      injection q4 with q4
      subst q4
      rw [hod] at q5
      injection q5 with q5
      exact hne q5.symm
     ·exact h ⟨k',i',o',by omega,q2,q3,q4,q5⟩
    refine ⟨hf.defers,hf.size,fun t' ht=>?_,fun t' ht=>?_⟩
    ·obtain ⟨g1,g2⟩:=ht
     show RV (M.adopt (qf (nh+j))) w (((l7 (fun k=>listed.getD (ix.getD k 0) false) 0 (hs++ts) E).put (some d) (N.cv σ.length) True).f t') (a.tmps.getD t' undef)
     by_cases htd:t'=d
     ·subst htd
      rw [Env.put_f,if_pos rfl,htm]
      exact hot.rv (by simp [l3.adopt,← hr.len])
     ·rw [Env.put_ok,if_neg htd] at g2
      rw [Env.put_f,if_neg htd]
      exact hgrow _ _ (hf.rv t' ⟨hES t' g1 htd,g2⟩)
    ·obtain ⟨g1,g2⟩:=ht
     by_cases htd:t'=d
     ·subst htd
      rw [Env.put_un,if_pos rfl] at g2
      exact absurd trivial g2
     ·rw [Env.put_un,if_neg htd] at g2
      exact hf.un t' ⟨hES t' g1 htd,g2⟩
 ·cases fuel with
 | zero =>
  have hu0:u=[]:=List.eq_nil_of_length_eq_zero hu
  subst hu0
  have hall:∀ i,i < ops.size→listed.getD i false=true:=fun i hi=>by
   cases h:listed.getD i false with
   | true=>rfl
   | false=>exact absurd (hun i hi h) (by simp)
  have hj:ops.size≤nh+j:=by
   rcases Nat.lt_or_ge (nh+j) ops.size with h | h
   ·obtain ⟨i,hi⟩:=ixk _ h
    exact absurd ⟨i,hi,hall i (hok.lt _ _ hi)⟩ hrev
   ·exact h
  rw [List.drop_eq_nil_of_le (by simp; omega)] at hct
  refine ⟨List.eq_nil_iff_forall_not_mem.2 fun i hi=>?_,l7 (fun _=>true) 0 (hs++ts) E,σ,M,hx,hr,?_,hct⟩
  ·obtain ⟨h1,o,ho,_⟩:=mem_ready.1 hi
   have hi':i < ops.size:=(Array.getElem?_eq_some_iff.1 ho).1
   have h2:=(w6 (by omega)).1 h1
   rw [hall i hi'] at h2
   cases h2
  ·have he:l7 (fun k=>listed.getD (ix.getD k 0) false) 0 (hs++ts) E=l7 (fun _=>true) 0 (hs++ts) E:=K0 _ _ _ fun k hk=>by
    rw [Nat.zero_add]
    simp [hhl,hts] at hk
    obtain ⟨i,hi⟩:=ixk k (by omega)
    rw [ixD hi]; exact hall i (hok.lt _ _ hi)
   have hno:∀ t,¬ ES ops ix (nh+j) listed t:=fun t ⟨k,i,o,q1,q2,_⟩=>by
    have:=(List.getElem?_eq_some_iff.1 q2).1
    rw [hok.len] at this
    omega
   rw [he] at hf
   exact ⟨hf.defers,hf.size,fun t ht=>hf.rv t ⟨hno t,ht⟩,fun t ht=>hf.un t ⟨hno t,ht⟩⟩
 | succ fuel =>
  have hleast:∃ j,j∈Region.ready .any ops listed:=by
   have hex:∃ j,j < ops.size∧listed.getD j false=false:=by
    cases u with
    | nil=>simp at hu
    | cons x u=>exact ⟨x,hun' x (by simp)⟩
   obtain ⟨j,hj,hmin⟩:∃ j,(j < ops.size∧listed.getD j false=false)∧∀ i,i < j→¬ (i < ops.size∧listed.getD i false=false):=by
    obtain ⟨j,hj⟩:=hex
    induction j using Nat.strongRecOn with
    | _ j ihj =>
     by_cases h:∃ i,i < j∧i < ops.size∧listed.getD i false=false
     ·obtain ⟨i,hi,hp⟩:=h
      exact ihj i hi hp
     ·exact ⟨j,hj,fun i hi hp=>h ⟨i,hi,hp⟩⟩
   refine ⟨j,mem_ready.2 ⟨(w6 (by omega)).2 hj.2,ops[j]'hj.1,by simp [hj.1],fun e he hb=>?_⟩⟩
   have hlt:=hok.edge j _ (by simp [hj.1]) e he hb
   cases h:listed.getD e.on false with
   | true=>rfl
   | false=>exact absurd ⟨by omega,h⟩ (hmin e.on hlt)
  obtain ⟨j0,hj0⟩:=hleast
  refine ⟨fun h0=>(by rw [h0] at hj0; cases hj0),fun i hi=>?_⟩
  obtain ⟨h1,o,ho,he⟩:=mem_ready.1 hi
  have his:i < ops.size:=(Array.getElem?_eq_some_iff.1 ho).1
  have hiL:listed.getD i false=false:=(w6 (by omega)).1 h1
  obtain ⟨k,hk⟩:=hok.onto i his
  have hks:k < ops.size:=by rw [← hok.len]; exact (List.getElem?_eq_some_iff.1 hk).1
  have hiu:i∈u:=hun i his hiL
  have hgd:∀ x,(listed.setIfInBounds i true).getD x false=if x=i then true else listed.getD x false:=fun x=>by
   by_cases hxi:x=i
   ·subst hxi
    have:x < listed.size:=by omega
    simp [this]
   ·rw [if_neg hxi]
    simp [Array.getElem?_setIfInBounds_ne (Ne.symm hxi)]
  have hent:∀ (k':Nat) (x:Oper × CV × Prop),(hs++ts)[k']? = some x→∃ i':Nat,ix[k']? = some i'∧ops[i']? = some x.1∧k' < nh+j∧True:=fun k' x hx'=>by
   have hlt:k' < nh+j:=by
    have:=(List.getElem?_eq_some_iff.1 hx').1
    simpa [hhl,hts] using this
   obtain ⟨i',hi'⟩:=ixk k' (by omega)
   refine ⟨i',hi',?_,hlt,tt⟩
   rcases Nat.lt_or_ge k' nh with h | h
   ·rw [List.getElem?_append_left (by omega)] at hx'
    obtain ⟨o',c',g',g1,g2⟩:=hhs k' i' h hi'
    rw [g1] at hx'; cases hx'; exact g2
   ·rw [List.getElem?_append_right (by omega),hhl] at hx'
    obtain ⟨_,o',c',g',g1,g2⟩:=htl k' i' h hlt hi'
    rw [g1] at hx'; cases hx'; exact g2
  have hgen:(∀ x,x < ops.size→(listed.setIfInBounds i true).getD x false=false→x∈u.erase i)∧(∀ x,x∈u.erase i→x < ops.size∧(listed.setIfInBounds i true).getD x false=false) ∧
   (∀ x ox,ops[x]? = some ox→(listed.setIfInBounds i true).getD x false=true→∀ e∈ox.after,y8 e=true→(listed.setIfInBounds i true).getD e.on false=true):=by
   refine ⟨fun x hx' hxl=>?_,fun x hx'=>?_,fun x ox hox hxl e hex hb=>?_⟩
   ·rw [hgd] at hxl
    split at hxl
    ·cases hxl
    ·rename_i hne
     exact (List.mem_erase_of_ne hne).2 (hun x hx' hxl)
   ·have hne:x≠i:=fun e=>by subst e; exact (hnd.not_mem_erase) hx'
    rw [hgd,if_neg hne]
    exact hun' x (List.mem_of_mem_erase hx')
   ·rw [hgd] at hxl ⊢
    split
    ·rfl
    ·split at hxl
     ·rename_i hxi
      subst hxi
      rw [ho] at hox
      injection hox with hox
      subst hox
      exact he e hex hb
     ·exact hcl x ox hox hxl e hex hb
  have hmaskl:∀ i':Nat,i' < ops.size→(ms.getD i 0).testBit i'=true→listed.getD i' false=true:=fun i' hi' hmm=>a0J hok hcl i o ho (fun e hek hb=>he e hek hb) i' hi' hmm
  have hnext:nh+j < k→i∈al:=fun hlt=>by
   obtain ⟨i',hi'⟩:=ixk (nh+j) (by omega)
   rcases hok.tail k (nh+j) i i' (by omega) hlt hk hi' with h | h | h
   ·exact h
   ·exact absurd h (hnq i' hi')
   ·exact absurd ⟨i',hi',hmaskl i' (hok.lt _ _ hi') h⟩ hrev
  have hnoES:∀ t,t∈o.looksAt ops→¬ ES ops ix (nh+j) listed t:=fun t ht ⟨k',i',o',q1,q2,q3,q4,q5⟩=>by
   have hne:k'≠k:=fun e=>by
    subst e
    rw [hk] at q2
    injection q2 with q2
    subst q2
    rw [hiL] at q3
    cases q3
   rcases hok.tmps k i o hk ho t ht k' i' o' hne q2 q4 q5 with ⟨h1,h2⟩ | ⟨h1,h2⟩
   ·have hi:=hnext (by omega)
    obtain ⟨o1,N1,d1,e1,e2,e3,e4⟩:=hz.get i hi
    rw [ho] at e1
    injection e1 with e1
    subst e1
    rcases e2 with ⟨_,_,e2,_⟩ | ⟨_,e2,_⟩
    ·simp [Oper.looksAt,e2,e3,Op.operands] at ht
    ·simp [Oper.looksAt,e2,e3,Op.operands] at ht
   ·have:=hclosed hcl i i' his (hok.lt _ _ q2) h2 q3
    rw [hiL] at this
    cases this
  have hslot:∀ d,o.dst=some d→¬ ES ops ix (nh+j) listed d:=fun d hd' ⟨k',i',o',q1,q2,q3,q4,q5⟩=>by
   have:=huniq i' (hea k' i' q1 q2 q3).1 i o' o d q4 ho q5 hd'
   subst this
   rw [hiL] at q3
   cases q3
  have hix:∀ {k' i':Nat},k'≠k→ix[k']? = some i'→i'≠i:=fun {k' i'} hne hk' e=>by
   subst e
   exact hne (hok.nodup k' k i' hk' hk)
  have heaN:∀ {M':l3} {w':World} {v:Value} {m':Nat},Ext M w M' w'→nh+j≤m'→(∀ k' i',m'≤k'→ix[k']? = some i'→i'≠i)→∀ k' i',m'≤k'→ix[k']? = some i'→(listed.setIfInBounds i true).getD i' false=true→i'∈al∧a80 C M0 M' w' (a.put o.dst v) ops i' (qf k'):=fun {M' w' v m'} hx' hm' hne k' i' h1 h2 h3=>by
   rw [hgd,if_neg (hne k' i' h1 h2)] at h3
   obtain ⟨e0,e1⟩:=hea k' i' (by omega) h2 h3
   refine ⟨e0,e1.step hx' fun d o' ho' hod' hd'=>?_⟩
   exact hslot d hd' ⟨k',i',o',by omega,h2,h3,ho',hod'⟩
  have hinjN:∀ {m':Nat},nh+j≤m'→(∀ k' i',m'≤k'→ix[k']? = some i'→i'≠i)→∀ (k k' x x':Nat),m'≤k→m'≤k'→ix[k]? = some x→ix[k']? = some x'→(listed.setIfInBounds i true).getD x false=true→(listed.setIfInBounds i true).getD x' false=true→qf k=qf k'→k=k':=fun {m'} hm' hne k k' x x' h1 h2 h3 h4 h5 h6=>by
   rw [hgd,if_neg (hne k x h1 h3)] at h5
   rw [hgd,if_neg (hne k' x' h2 h4)] at h6
   exact hinj k k' x x' (by omega) (by omega) h3 h4 h5 h6
  have hESN:∀ {m':Nat} (t:Nat),(∀ k' i',nh+j≤k'→k' < m'→ix[k']? = some i'→i'=i)→¬ ES ops ix m' (listed.setIfInBounds i true) t→¬ ES ops ix (nh+j) listed t:=fun {m'} t hm' hno ⟨k',i',o',q1,q2,q3,q4,q5⟩=>by
   rcases Nat.lt_or_ge k' m' with h | h
   ·have:=hm' k' i' q1 h q2
    subst this
    rw [hiL] at q3
    cases q3
   ·exact hno ⟨k',i',o',h,q2,by rw [hgd]; split <;> first|rfl|exact q3,q4,q5⟩
  have quiet:∀ (E1:Env) (c:CV) (g:Prop),C7 C σ ops o E1 c g→(∀ t,t∈o.looksAt ops→E1.agree t (l7 (fun k=>listed.getD (ix.getD k 0) false) 0 (hs++ts) E)) →
   (∀ (v:Value) (w':World) (M':l3),Ext M w M' w'→Rel C M' σ w'→(g→RV M' w' c v)→(¬ g→v=undef)→wpAny C.P .any ops (E6 C n Q M0 w0) fuel (listed.setIfInBounds i true) (a.put o.dst v) w') →
   wpOp C.P ops (E6 C n Q M0 w0) i (wpAny C.P .any ops (E6 C n Q M0 w0) fuel (listed.setIfInBounds i true)) a w:=by
   intro E1 c g hop hag next
   unfold wpOp
   simp only [ho]
   have hopr:∀ x∈o.op.operands,E1.valid x→RV M w (E1.val C x) (a.eval x):=fun x hx hv=>by
    cases x with
    | tmp t =>
     have h2:=hag t (M8 hx)
     simp only [Env.val,Env.valid] at hv ⊢
     rw [h2.1]
     exact hf.rv t ⟨hnoES t (M8 hx),by rw [← h2.2.1]; exact hv⟩
    | const v=>exact hf.eval (x:=.const v) hr hv
    | global v=>exact hf.eval (x:=.global v) hr hv
    | func v=>exact hf.eval (x:=.func v) hr hv
   rcases hop with ⟨hg,hgp,hy⟩ | ⟨jj,t,want,b,hg,ht,hok',hb,hgb,hy⟩
   ·rw [if_pos (by simp [Region.wanted,hg])]
    refine .inl (D7 (hy M w a.eval hr hopr) (fun v w' ha=>?_) (fun ch w' ha=>?_))
    ·obtain ⟨c',σ',M',h1,h2,h3,h4,rfl⟩:=ha
     injection h4 with h4
     subst h4
     exact next v w' M' h1 h2 (fun _=>h3) fun hh=>absurd hgp hh
    ·obtain ⟨c',v,σ',M',_,_,_,_,h4,_⟩:=ha
     cases h4
   ·have h2:=hag t (F6 hg ht)
    by_cases hokt:E1.ok t
    ·have h3:RV M w ((l7 (fun k=>listed.getD (ix.getD k 0) false) 0 (hs++ts) E).f t) (a.tmps.getD t undef):=hf.rv t ⟨hnoES t (F6 hg ht),by rw [← h2.2.1]; exact hokt⟩
     rw [← h2.1,hb] at h3
     have h4:=n8 h3
     have hszt:t < a.tmps.size:=by
      rcases Nat.lt_or_ge t a.tmps.size with h' | h'
      ·exact h'
      ·simp [Array.getElem?_eq_none h',undef] at h4
     have h5:a.tmps[t]? = some (.bool b):=by
      rw [Array.getD_eq_getD_getElem?,Array.getElem?_eq_getElem hszt] at h4
      rw [Array.getElem?_eq_getElem hszt,← h4]; rfl
     have h6:yielded ops a.tmps jj=some b:=by unfold yielded; rw [ht,Option.bind_some,h5]
     have hw:Region.wanted o (yielded ops a.tmps)=(b == want):=by
      simp only [Region.wanted,hg,h6]
      cases b <;> cases want <;> rfl
     by_cases hbw:b=want
     ·rw [if_pos (by rw [hw]; simpa using hbw)]
      refine .inl (D7 (hy hokt hbw M w a.eval hr hopr) (fun v w' ha=>?_) (fun ch w' ha=>?_))
      ·obtain ⟨c',σ',M',h1,h2,h3,h4,rfl⟩:=ha
       injection h4 with h4
       subst h4
       exact next v w' M' h1 h2 (fun _=>h3) fun hh=>absurd (hgb.2 ⟨hokt,hbw⟩) hh
      ·obtain ⟨c',v,σ',M',_,_,_,_,h4,_⟩:=ha
       cases h4
     ·rw [if_neg (by rw [hw]; simpa using hbw)]
      exact next undef w M (Ext.refl M w) hr (fun hgg=>absurd (hgb.1 hgg).2 hbw) fun _=>rfl
    ·have h3:=hf.un t ⟨hnoES t (F6 hg ht),by rw [← h2.2.2]; exact hok' hokt⟩
     have h6:yielded ops a.tmps jj=none:=by
      unfold yielded
      rw [ht,Option.bind_some]
      rcases Nat.lt_or_ge t a.tmps.size with h' | h'
      ·rw [Array.getD_eq_getD_getElem?,Array.getElem?_eq_getElem h'] at h3
       rw [Array.getElem?_eq_getElem h']
       simp only [Option.getD_some] at h3
       rw [h3]
       rfl
      ·rw [Array.getElem?_eq_none h']
     have hw:Region.wanted o (yielded ops a.tmps)=false:=by
      simp only [Region.wanted,hg,h6]
      cases want <;> rfl
     rw [if_neg (by rw [hw]; simp)]
     exact next undef w M (Ext.refl M w) hr (fun hgg=>absurd (hgb.1 hgg).1 hokt) fun _=>rfl
  have seen:∀ t,t∈o.looksAt ops→∀ (k':Nat) (x:Oper × CV × Prop),(hs++ts)[k']? = some x→x.1.dst=some t→k'≠k→(k' < k→listed.getD (ix.getD k' 0) false=true)∧(k < k'→listed.getD (ix.getD k' 0) false=false):=fun t ht k' x hx' hxd hne=>by
   obtain ⟨i',hi',ho',hlt',_⟩:=hent k' x hx'
   rw [ixD hi']
   have his':=hok.lt _ _ hi'
   rcases hok.tmps k i o hk ho t ht k' i' x.1 hne hi' ho' hxd with ⟨q1,q2⟩ | ⟨q1,q2⟩
   ·exact ⟨fun _=>a0J hok hcl i o ho (fun e hek hb=>he e hek hb) i' his' q2,fun h=>by omega⟩
   ·refine ⟨fun h=>by omega,fun _=>?_⟩
    cases hl:listed.getD i' false with
    | false=>rfl
    | true =>
     have:=hclosed hcl i i' his his' q2 hl
     rw [hiL] at this
     cases this
  rcases Nat.lt_or_ge k nh with hkn | hkn
  ·
   obtain ⟨o',c,g,hc,ho'⟩:=hhs k i hkn hk
   rw [ho] at ho'
   injection ho' with ho'
   subst ho'
   have hop:=hst k i o c g hkn hk hiL hc
   refine quiet _ c g hop (fun t ht=>?_) fun v w' M' hx' hr' hv hun0=>?_
   ·have e1:l7 (fun j=>decide (j < k)) 0 hs E=l7 (fun j=>decide (j < k)) 0 (hs++ts) E:=by
     rw [a0e,Q0 (L:=fun j=>decide (j < k)) ts _ _ (fun i' hi'=>by simp; omega)]
    rw [e1]
    refine x9 (hs++ts) 0 E E ⟨rfl,rfl,rfl⟩ fun k' x hx' hxd=>?_
    rw [Nat.zero_add]
    by_cases hkk:k'=k
    ·subst hkk; rw [ixD hk,hiL]; simp
    ·have:=seen t ht k' x hx' hxd hkk
     rcases Nat.lt_or_gt_of_ne hkk with h | h
     ·rw [this.1 h]; simp [h]
     ·rw [this.2 h]; simp; omega
   ·refine IH (fuel+(ops.size - (nh+j))) (by omega) fuel j ts (listed.setIfInBounds i true) (u.erase i) σ _ w' M' qf rfl (by simp [hsz]) (by rw [List.length_erase_of_mem hiu,hu]; rfl) hgen.1 hgen.2.1 (hnd.erase i) hgen.2.2 hjs hts (fun k' i' h1 h2 h3=>?_) hqt (heaN hx' (Nat.le_refl _) fun k' i' h1 h2=>hix (by omega) h2) (hinjN (Nat.le_refl _) fun k' i' h1 h2=>hix (by omega) h2) (fun k' i' o' c' g' h1 h2 h3 h4=>?_) hct (hx.trans hx') hr' ?_
    ·obtain ⟨g1,g2⟩:=htl k' i' h1 h2 h3
     refine ⟨?_,g2⟩
     rw [hgd]; split
     ·exact .inl rfl
     ·exact g1
    ·rw [hgd] at h3
     split at h3
     ·cases h3
     ·exact hst k' i' o' c' g' h1 h2 h3 h4
    ·have hag':∀ t,(l7 (fun k=>(listed.setIfInBounds i true).getD (ix.getD k 0) false) 0 (hs++ts) E).agree t ((l7 (fun k=>listed.getD (ix.getD k 0) false) 0 (hs++ts) E).put o.dst c g):=by
      intro t
      by_cases hdt:o.dst=some t
      ·have hat:=a0z (L:=fun k=>(listed.setIfInBounds i true).getD (ix.getD k 0) false) (hs++ts) 0 k E o c g (by rw [List.getElem?_append_left (by omega)]; exact hc) hdt (by simp only [Nat.zero_add,ixD hk,hgd,if_true]) (fun k' x hlt hx' hLx hxd=>by
        obtain ⟨i',hi',ho',_,_⟩:=hent k' x hx'
        rw [Nat.zero_add,ixD hi',hgd] at hLx
        have hne:i'≠i:=fun e=>by
         subst e
         have:=hok.nodup k k' i' hk hi'
         omega
        rw [if_neg hne] at hLx
        have hm:=hok.dsts k' k i' i x.1 o t hlt hi' hk ho' ho hxd hdt
        have:=hclosed hcl i i' his (hok.lt _ _ hi') hm hLx
        rw [hiL] at this
        cases this)
       unfold Env.agree
       rw [hat.1,hat.2.1,hat.2.2,hdt,Env.put_f,Env.put_ok,Env.put_un]
       simp
      ·refine (C4 hdt ?_).symm
       refine x9 (hs++ts) 0 E E ⟨rfl,rfl,rfl⟩ fun k' x hx' hxd=>?_
       obtain ⟨i',hi',ho',_,_⟩:=hent k' x hx'
       rw [Nat.zero_add,ixD hi',hgd]
       split
       ·rename_i hki
        subst hki
        rw [ho] at ho'
        injection ho' with ho'
        rw [← ho'] at hxd
        exact absurd hxd hdt
       ·rfl
     exact hf.putH hx' (fun t ht=>hd o (Array.mem_of_getElem? ho) t ht) hv hun0 (fun t _=>hag' t) fun t ht _=>hESN t (fun k' i' h1 h2=>by omega) ht
  ·
   rcases Nat.lt_trichotomy k (nh+j) with hlt | hkj | hgt
   ·
    obtain ⟨hlq,o',c,g,hc,ho'⟩:=htl k i hkn hlt hk
    rw [ho] at ho'
    injection ho' with ho'
    subst ho'
    have hiq:i∈qs:=hlq.resolve_left (by rw [hiL]; simp)
    have hop:=hqt k i o c g hkn hlt hk hiq hc σ
    refine quiet _ c g hop (fun t ht=>?_) fun v w' M' hx' hr' hv hun0=>?_
    ·refine x9 (hs++ts) 0 E E ⟨rfl,rfl,rfl⟩ fun k' x hx' hxd=>?_
     rw [Nat.zero_add]
     by_cases hkk:k'=k
     ·subst hkk; rw [ixD hk,hiL]; simp
     ·have:=seen t ht k' x hx' hxd hkk
      rcases Nat.lt_or_gt_of_ne hkk with h | h
      ·rw [this.1 h]; simp [h]
      ·rw [this.2 h]; simp; omega
    ·refine IH (fuel+(ops.size - (nh+j))) (by omega) fuel j ts (listed.setIfInBounds i true) (u.erase i) σ _ w' M' qf rfl (by simp [hsz]) (by rw [List.length_erase_of_mem hiu,hu]; rfl) hgen.1 hgen.2.1 (hnd.erase i) hgen.2.2 hjs hts (fun k' i' h1 h2 h3=>?_) hqt (heaN hx' (Nat.le_refl _) fun k' i' h1 h2=>hix (by omega) h2) (hinjN (Nat.le_refl _) fun k' i' h1 h2=>hix (by omega) h2) (fun k' i' o' c' g' h1 h2 h3 h4=>?_) hct (hx.trans hx') hr' ?_
     ·obtain ⟨g1,g2⟩:=htl k' i' h1 h2 h3
      refine ⟨?_,g2⟩
      rw [hgd]; split
      ·exact .inl rfl
      ·exact g1
     ·rw [hgd] at h3
      split at h3
      ·cases h3
      ·exact hst k' i' o' c' g' h1 h2 h3 h4
     ·have hag':∀ t,(l7 (fun k=>(listed.setIfInBounds i true).getD (ix.getD k 0) false) 0 (hs++ts) E).agree t ((l7 (fun k=>listed.getD (ix.getD k 0) false) 0 (hs++ts) E).put o.dst c g):=by
       intro t
       by_cases hdt:o.dst=some t
       ·have hat:=a0z (L:=fun k=>(listed.setIfInBounds i true).getD (ix.getD k 0) false) (hs++ts) 0 k E o c g (by rw [List.getElem?_append_right (by omega),hhl]; exact hc) hdt (by simp only [Nat.zero_add,ixD hk,hgd,if_true]) (fun k' x hlt hx' hLx hxd=>by
         obtain ⟨i',hi',ho',_,_⟩:=hent k' x hx'
         rw [Nat.zero_add,ixD hi',hgd] at hLx
         have hne:i'≠i:=fun e=>by
          subst e
          have:=hok.nodup k k' i' hk hi'
          omega
         rw [if_neg hne] at hLx
         have hm:=hok.dsts k' k i' i x.1 o t hlt hi' hk ho' ho hxd hdt
         have:=hclosed hcl i i' his (hok.lt _ _ hi') hm hLx
         rw [hiL] at this
         cases this)
        unfold Env.agree
        rw [hat.1,hat.2.1,hat.2.2,hdt,Env.put_f,Env.put_ok,Env.put_un]
        simp
       ·refine (C4 hdt ?_).symm
        refine x9 (hs++ts) 0 E E ⟨rfl,rfl,rfl⟩ fun k' x hx' hxd=>?_
        obtain ⟨i',hi',ho',_,_⟩:=hent k' x hx'
        rw [Nat.zero_add,ixD hi',hgd]
        split
        ·rename_i hki
         subst hki
         rw [ho] at ho'
         injection ho' with ho'
         rw [← ho'] at hxd
         exact absurd hxd hdt
        ·rfl
      exact hf.putH hx' (fun t ht=>hd o (Array.mem_of_getElem? ho) t ht) hv hun0 (fun t _=>hag' t) fun t ht _=>hESN t (fun k' i' h1 h2=>by omega) ht
   rotate_left
   ·
    have hal:=hnext hgt
    obtain ⟨o1,N,d,e1,e2,e3,hod⟩:=hz.get i hal
    rw [ho] at e1
    injection e1 with e1
    subst e1
    unfold wpOp
    simp only [ho]
    rw [if_pos (by simp [Region.wanted,e3])]
    have hrun:(execOp a.eval o).run C.P w = .ok (.value (N.val w.heap.size)) (w.alloc N.ob):=e2.run _ _
    obtain ⟨hx',hr'⟩:=hr.keepNew N.ob
    refine .inl (D7 (K:=fun v w'=>v=N.val w.heap.size∧w'=w.alloc N.ob) (Kp:=fun _ _=>False) (by rw [hrun]; exact ⟨rfl,rfl⟩) (fun v w' ⟨hv,hw⟩=>?_) (fun ch w' ha=>ha.elim))
    subst hv hw
    have hqn:∀ k' i',nh+j≤k'→ix[k']? = some i'→listed.getD i' false=true→qf k' < w.heap.size:=fun k' i' h1 h2 h3=>by
     obtain ⟨_,o2,N2,d2,f1,f2,f4,f5,_⟩:=hea k' i' h1 h2 h3
     exact hr.kep _ f5
    refine IH (fuel+(ops.size - (nh+j))) (by omega) fuel j ts (listed.setIfInBounds i true) (u.erase i) σ _ _ (M.keepNew w.heap.size) (fun x=>if x=k then w.heap.size else qf x) rfl (by simp [hsz]) (by rw [List.length_erase_of_mem hiu,hu]; rfl) hgen.1 hgen.2.1 (hnd.erase i) hgen.2.2 hjs hts (fun k' i' h1 h2 h3=>?_) hqt (fun k' i' h1 h2 h3=>?_) (fun k1 k2 i1 i2 h1 h2 h3 h4 h5 h6 h7=>?_) (fun k' i' o' c' g' h1 h2 h3 h4=>?_) hct (hx.trans hx') hr' ?_
    ·obtain ⟨g1,g2⟩:=htl k' i' h1 h2 h3
     refine ⟨?_,g2⟩
     rw [hgd]; split
     ·exact .inl rfl
     ·exact g1
    ·by_cases hkk:k'=k
     ·subst hkk
      rw [hk] at h2
      injection h2 with h2
      subst h2
      refine ⟨hal,o,N,d,ho,e2,hod,?_⟩
      simp only [if_true]
      have hlt0:∀ b o',M.at b o'→b < w.heap.size:=hr.blk
      refine ⟨.inr rfl,fun hb=>?_,s9 w _,fun hf'=>?_,fun x hc=>?_,?_⟩
      ·have:=hr.kep _ (hx.kept _ hb).1
       omega
      ·have:=hlt0 _ 0 (.inl hf'); omega
      ·have:=hlt0 _ x (.inr hc); omega
      ·rw [hod]
       have hdn:=hd o (Array.mem_of_getElem? ho) d hod
       simp [Act.put,hf.size,hdn]
     ·simp only [if_neg hkk]
      rw [hgd,if_neg (hix hkk h2)] at h3
      obtain ⟨f0,f1⟩:=hea k' i' h1 h2 h3
      exact ⟨f0,f1.step hx' fun d' o' ho' hod' hd'=>hslot d' hd' ⟨k',i',o',h1,h2,h3,ho',hod'⟩⟩
    ·by_cases hk1:k1=k
     ·by_cases hk2:k2=k
      ·omega
      ·simp only [if_pos hk1,if_neg hk2] at h7
       rw [hgd,if_neg (hix hk2 h4)] at h6
       have:=hqn k2 i2 h2 h4 h6
       omega
     ·by_cases hk2:k2=k
      ·simp only [if_pos hk2,if_neg hk1] at h7
       rw [hgd,if_neg (hix hk1 h3)] at h5
       have:=hqn k1 i1 h1 h3 h5
       omega
      ·simp only [if_neg hk1,if_neg hk2] at h7
       rw [hgd,if_neg (hix hk1 h3)] at h5
       rw [hgd,if_neg (hix hk2 h4)] at h6
       exact hinj k1 k2 i1 i2 h1 h2 h3 h4 h5 h6 h7
    ·rw [hgd] at h3
     split at h3
     ·cases h3
     ·exact hst k' i' o' c' g' h1 h2 h3 h4
    ·have hLc:l7 (fun k=>(listed.setIfInBounds i true).getD (ix.getD k 0) false) 0 (hs++ts) E=l7 (fun k=>listed.getD (ix.getD k 0) false) 0 (hs++ts) E:=K0 _ _ _ fun k' hk'=>by
      rw [Nat.zero_add]
      have hlt':k' < nh+j:=by simpa [hhl,hts] using hk'
      obtain ⟨i',hi'⟩:=ixk k' (by omega)
      rw [ixD hi',hgd,if_neg (hix (by omega) hi')]
     rw [hLc]
     have hnd':∀ t',¬ ES ops ix (nh+j) (listed.setIfInBounds i true) t'→o.dst≠some t':=fun t' h e=>h ⟨k,i,o,by omega,hk,by rw [hgd,if_pos rfl],ho,e⟩
     exact hf.putH (g:=True) hx' (fun t ht=>hd o (Array.mem_of_getElem? ho) t ht) (p':=ES ops ix (nh+j) (listed.setIfInBounds i true)) (v:=N.val w.heap.size) (c':=.val (N.val w.heap.size)) (fun _=>.val _) (fun h=>absurd trivial h) (fun t' ht'=>(C4 (hnd' t' ht') ⟨rfl,rfl,rfl⟩).symm) fun t' ht' _=>hESN t' (fun k' i' h1 h2=>by omega) ht'
   subst hkj
   have hlt:nh+j < ops.size:=hks
   rw [hdrop hlt hk] at hct
   obtain ⟨o',ho',hct⟩:=hct
   rw [ho] at ho'
   injection ho' with ho'
   subst ho'
   have hag:∀ t,t∈o.looksAt ops→(l7 (fun _=>true) 0 (hs++ts) E).agree t (l7 (fun k=>listed.getD (ix.getD k 0) false) 0 (hs++ts) E):=fun t ht=>x9 (hs++ts) 0 E E ⟨rfl,rfl,rfl⟩ fun k' x hx' hxd=>by
    obtain ⟨i',hi',ho',hlt',_⟩:=hent k' x hx'
    rw [Nat.zero_add,(seen t ht k' x hx' hxd (by omega)).1 hlt']
   have next:∀ (v:Value) (c:CV) (g:Prop) (σ':List c5) (w':World) (M':l3),(J2 S σ' (fls.getD j [])∧M7 C ops al qs Q S (((List.range (ops.size - nh)).map fun p=>(ix.getD (nh+p) 0,fls.getD p [])).drop (j+1)) ((l7 (fun _=>true) 0 (hs++ts) E).put o.dst c g) σ') →
    Ext M w M' w'→Rel C M' σ' w'→(g→RV M' w' c v)→(¬ g→v=undef)→wpAny C.P .any ops (E6 C n Q M0 w0) fuel (listed.setIfInBounds i true) (a.put o.dst v) w':=by
    intro v c g σ' w' M' ⟨hfl,hct'⟩ hx' hr' hv hun0
    have hLc:l7 (fun k=>(listed.setIfInBounds i true).getD (ix.getD k 0) false) 0 (hs++ts) E=l7 (fun k=>listed.getD (ix.getD k 0) false) 0 (hs++ts) E:=K0 _ _ _ fun k' hk'=>by
     rw [Nat.zero_add]
     have hlt':k' < nh+j:=by simpa [hhl,hts] using hk'
     obtain ⟨i',hi'⟩:=ixk k' (by omega)
     rw [ixD hi',hgd,if_neg]
     intro e; subst e
     have:=hok.nodup k' (nh+j) i' hi' hk
     omega
    refine IH (fuel+(ops.size - (nh+(j+1)))) (by omega) fuel (j+1) (ts++[(o,c,g)]) (listed.setIfInBounds i true) (u.erase i) σ' _ w' M' qf rfl (by simp [hsz]) (by rw [List.length_erase_of_mem hiu,hu]; rfl) hgen.1 hgen.2.1 (hnd.erase i) hgen.2.2 (by omega) (by simp [hts]) (fun k' i' h1 h2 h3=>?_) (hqt1 _ _ _ (fun _ i' hi' hiq=>absurd hiq (hnq i' hi')) hlt) (heaN hx' (by omega) fun k' i' h1 h2=>hix (by omega) h2) (hinjN (by omega) fun k' i' h1 h2=>hix (by omega) h2) (fun k' i' o' c' g' h1 h2 h3 h4=>?_) (by rw [hts1]; exact hct') (hx.trans hx') hr' ?_
    ·by_cases hkk:k'=nh+j
     ·subst hkk
      rw [hk] at h3
      injection h3 with h3
      subst h3
      refine ⟨.inl (by rw [hgd,if_pos rfl]),o,c,g,?_,ho⟩
      rw [show nh+j - nh=ts.length by omega]
      simp
     ·obtain ⟨g1,o',c',g',g2,g3⟩:=htl k' i' h1 (by omega) h3
      refine ⟨?_,o',c',g',?_,g3⟩
      ·rw [hgd]; split
       ·exact .inl rfl
       ·exact g1
      ·rw [List.getElem?_append_left (by omega)]; exact g2
    ·rw [hgd] at h3
     split at h3
     ·cases h3
     ·rcases hok.fls j k' (by have:=hok.fl; omega) h1 with hin | ⟨p',hp',hpq,hm⟩
      ·exact hS k' o' c' g' σ' h4 (hfl.get k' hin)
      ·exfalso
       obtain ⟨i'',hi''⟩:=ixk (nh+p') (by omega)
       rw [ixD hi'',ixD h2] at hm
       have hl:listed.getD i' false=true:=by
        by_cases hpj:p'=j
        ·subst hpj
         rw [hk] at hi''
         injection hi'' with hi''
         subst hi''
         exact a0J hok hcl i o ho (fun e hek hb=>he e hek hb) i' (hok.lt _ _ h2) hm
        ·exact hclosed hcl i' i'' (hok.lt _ _ h2) (hok.lt _ _ hi'') hm ((htl (nh+p') i'' (by omega) (by omega) hi'').1.resolve_right (by rw [ixD hi''] at hpq; exact hpq))
       rw [hl] at h3
       cases h3
    ·rw [hts1]
     have:(listed.setIfInBounds i true).getD (ix.getD (nh+j) 0) false=true:=by rw [ixD hk,hgd,if_pos rfl]
     simp only [this]
     rw [hLc]
     exact hf.putH hx' (fun t ht=>hd o (Array.mem_of_getElem? ho) t ht) hv hun0 (fun t _=>⟨rfl,rfl,rfl⟩) fun t ht _=>hESN t (fun k' i' h1 h2 h3=>by
      have:k'=nh+j:=by omega
      subst this
      rw [hk] at h3
      injection h3 with h3
      exact h3.symm) ht
   have hopr:∀ x∈o.op.operands,(l7 (fun _=>true) 0 (hs++ts) E).valid x→RV M w ((l7 (fun _=>true) 0 (hs++ts) E).val C x) (a.eval x):=fun x hx hv=>by
    cases x with
    | tmp t =>
     have h2:=hag t (M8 hx)
     simp only [Env.val,Env.valid] at hv ⊢
     rw [h2.1]
     exact hf.rv t ⟨hnoES t (M8 hx),by rw [← h2.2.1]; exact hv⟩
    | const v=>exact hf.eval (x:=.const v) hr hv
    | global v=>exact hf.eval (x:=.global v) hr hv
    | func v=>exact hf.eval (x:=.func v) hr hv
   have does:∀ (g:Prop),g→(C2 C σ (l7 (fun _=>true) 0 (hs++ts) E) o fun r σ'=>match r with | .ret c=>J2 S σ' (fls.getD j [])∧M7 C ops al qs Q S (((List.range (ops.size - nh)).map fun p=>(ix.getD (nh+p) 0,fls.getD p [])).drop (j+1)) ((l7 (fun _=>true) 0 (hs++ts) E).put o.dst c g) σ' | .pan _=>False)→o.wp C.P a w (wpAny C.P .any ops (E6 C n Q M0 w0) fuel (listed.setIfInBounds i true)) (E6 C n Q M0 w0):=fun g hg hdo=>by
    refine D7 (hdo M w a.eval hr hopr) (fun v w' ha=>?_) (fun ch w' ha=>?_)
    ·obtain ⟨c',σ',M',h1,h2,h3,h4⟩:=ha
     exact next v c' g σ' w' M' h4 h1 h2 (fun _=>h3) fun hh=>absurd hg hh
    ·obtain ⟨c',v,σ',M',_,_,_,_,h4⟩:=ha
     exact h4.elim
   rcases hct with ⟨hqc,_⟩ | ⟨_,⟨_,(⟨hg,hdo⟩ | ⟨c,g,hop,hkk⟩) | ⟨jj,t,want,b,c0,hg,ht,hv,hb,hy,hn⟩⟩ | ⟨hg,N,hot,hfl,hkk⟩⟩
   ·exact absurd (by simpa using hqc) (hnq i hk)
   ·unfold wpOp
    simp only [ho]
    rw [if_pos (by simp [Region.wanted,hg])]
    exact .inl (does True trivial hdo)
   ·exact quiet _ c g hop hag fun v w' M' hx' hr' hv hun0=>next v c g σ w' M' hkk hx' hr' hv hun0
   ·
    unfold wpOp
    simp only [ho]
    have h2:=hag t (F6 hg ht)
    have h3:RV M w ((l7 (fun k=>listed.getD (ix.getD k 0) false) 0 (hs++ts) E).f t) (a.tmps.getD t undef):=hf.rv t ⟨hnoES t (F6 hg ht),by rw [← h2.2.1]; exact hv⟩
    rw [← h2.1,hb] at h3
    have h4:=n8 h3
    have hszt:t < a.tmps.size:=by
     rcases Nat.lt_or_ge t a.tmps.size with h' | h'
     ·exact h'
     ·simp [Array.getElem?_eq_none h',undef] at h4
    have h5:a.tmps[t]? = some (.bool b):=by
     rw [Array.getD_eq_getD_getElem?,Array.getElem?_eq_getElem hszt] at h4
     rw [Array.getElem?_eq_getElem hszt,← h4]; rfl
    have h6:yielded ops a.tmps jj=some b:=by unfold yielded; rw [ht,Option.bind_some,h5]
    have hw:Region.wanted o (yielded ops a.tmps)=(b == want):=by
     simp only [Region.wanted,hg,h6]
     cases b <;> cases want <;> rfl
    by_cases hbw:b=want
    ·rw [if_pos (by rw [hw]; simpa using hbw)]
     exact .inl (does (b=want) hbw (hy hbw))
    ·rw [if_neg (by rw [hw]; simpa using hbw)]
     exact next undef c0 (b=want) σ w M (hn hbw) (Ext.refl M w) hr (fun hh=>absurd hh hbw) fun _=>rfl
   ·unfold wpOp
    simp only [ho]
    rw [if_pos (by simp [Region.wanted,hg])]
    exact .inl (does True trivial (hot.does ⟨hfl,hkk⟩))
def b9f (ops:Array Oper) (al:List Nat):Bool:=al.all fun i=>(List.range ops.size).all fun i'=>Nat.beq i' i || ((ops[i]?).bind (·.dst)).isNone || !((ops[i]?).bind (·.dst) == (ops[i']?).bind (·.dst))
theorem b3d {id:Nat} {Q:s8→Env→List c5→Prop} {E:Env} (al qs:List Nat) (ix:List Nat) (nh:Nat) (ms:List Nat) (fls:List (List Nat)) (hm:C.P.follows .mixedOrders=true) (hB:a61 ops al qs ix nh ms fls=true) (hu:b9f ops al=true) (hz:AZ C ops al) (hd:(ops.toList.all fun o=>match o.dst with | some d=>Nat.blt d n | none=>true)=true)
 {hd1l:List Nat} {tll:List (Nat × List Nat)} (hd1:List.take nh ix=hd1l) (hd2:((List.range (ops.size - nh)).map fun p=>(ix.getD (nh+p) 0,fls.getD p []))=tll)
 (h:a1d C σ ops (fun E' S=>M7 C ops al qs Q S tll E' σ) hd1l E []):CWp C n (.region id ops true) Q E σ:=fun M w a hr hf=>by
 subst hd1 hd2
 have hok:=b5N hB
 obtain ⟨hs,h0,h1,h2,h3⟩:=a03 _ _ _ h
 obtain ⟨hr',hx⟩:=hr.drew
 have hl:hs.length=nh:=by rw [h0,List.length_take,hok.len]; have:=hok.le; omega
 refine wp_region_any hm (b0w hok (S:=_) hl (fun k i hk hi=>?_) hz (fun i hi i' o o' d h1 h2 h3 h4=>?_) (fun o ho d hod=>?_) (fun k o c g σ' hk hS=>?_) M w _ ops.size 0 [] (Array.replicate ops.size false) (List.range ops.size) σ a _ M (fun _=>0) rfl (by simp) (by simp) (fun i hi _=>by simpa using hi) (fun i hi=>?_) List.nodup_range (fun k o hk hkl=>?_) (by have:=hok.le; omega) rfl (fun k i h1 h2=>by omega) (fun k i o c g h1 h2=>by omega) (fun k i _ hi h=>?_) (fun k k' i i' _ _ h1 _ h=>?_) (fun k i o c g _ _ _ hk=>h3 k o c g hk) (by rw [List.append_nil,List.drop_zero]; exact h2) hx hr' ?_)
 ·exact h1 k i (by rw [List.getElem?_take,if_pos hk]; exact hi)
 ·unfold b9f at hu
  rw [List.all_eq_true] at hu
  have:=hu i hi
  rw [List.all_eq_true] at this
  have:=this i' (by simpa using (Array.getElem?_eq_some_iff.1 h2).1)
  simp only [h1,h2,Option.bind_some,h3,h4] at this
  simpa using this
 ·rw [List.all_eq_true] at hd
  have:=hd o (by simpa using ho)
  rw [hod] at this
  simpa [Nat.blt_eq] using this
 ·have hlt:=(List.getElem?_eq_some_iff.1 hk).1
  rw [List.nil_append] at hS
  have e:(((List.range hs.length).map (a4r C ops hs E)).getD k fun _=>True)=a4r C ops hs E k:=by simp [List.getD_eq_getElem?_getD,hlt]
  rw [e] at hS
  simpa only [a4r,hk] using hS
 ·have:i < ops.size:=by simpa using hi
  exact ⟨this,by simp [this]⟩
 ·have hks:k < ops.size:=(Array.getElem?_eq_some_iff.1 hk).1
  simp [hks] at hkl
 ·simp [hok.lt _ _ hi] at h
 ·simp [hok.lt _ _ h1] at h
 ·have hff:l7 (fun k=>(Array.replicate ops.size false).getD (ix.getD k 0) false) 0 (hs++[]) E=E:=Q0 _ _ _ fun i _=>by
   simp only [Array.getD_eq_getD_getElem?,Array.getElem?_replicate]
   split <;> rfl
  rw [hff]
  have hf':=hf.mono hx
  exact ⟨hf'.defers,hf'.size,fun t ht=>hf'.rv t ht.2,fun t ht=>hf'.un t ht.2⟩
theorem b7z {al qs:List Nat} {Q:s8→Env→List c5→Prop} {E:Env} {S:List (List c5→Prop)} (h:Q .normal E σ):M7 C ops al qs Q S [] E σ:=h
theorem b7N {al qs:List Nat} {Q:s8→Env→List c5→Prop} {E:Env} {S:List (List c5→Prop)} {i:Nat} {fl:List Nat} {l:List (Nat × List Nat)} {o:Oper} (hqs:qs.contains i=false) (hal:al.contains i=false) (ho:ops[i]? = some o) (hg:o.guard=none) (h:C2 C σ E o fun r σ'=>match r with | .ret c=>J2 S σ' fl∧M7 C ops al qs Q S l (E.put o.dst c True) σ' | .pan _=>False):M7 C ops al qs Q S ((i,fl)::l) E σ :=
 ⟨o,ho,.inr ⟨hqs,.inl ⟨hal,.inl (.inl ⟨hg,h⟩)⟩⟩⟩
theorem b70 {al qs:List Nat} {Q:s8→Env→List c5→Prop} {E:Env} {S:List (List c5→Prop)} {i:Nat} {fl:List Nat} {l:List (Nat × List Nat)} {o:Oper} {c:CV} {g:Prop} (hqs:qs.contains i=false) (hal:al.contains i=false) (ho:ops[i]? = some o) (hop:C7 C σ ops o E c g) (h:J2 S σ fl∧M7 C ops al qs Q S l (E.put o.dst c g) σ):M7 C ops al qs Q S ((i,fl)::l) E σ :=
 ⟨o,ho,.inr ⟨hqs,.inl ⟨hal,.inl (.inr ⟨c,g,hop,h⟩)⟩⟩⟩
theorem b9G {al qs:List Nat} {Q:s8→Env→List c5→Prop} {E:Env} {S:List (List c5→Prop)} {i:Nat} {fl:List Nat} {l:List (Nat × List Nat)} {o:Oper} {t:TypeId} (hqs:qs.contains i=false) (ho:ops[i]? = some o) (hg:o.guard=none) (hot:o.op = .makeMap t none)
 (h:J2 S (σ++[.map []]) fl∧M7 C ops al qs Q S l (E.put o.dst (.map σ.length) True) (σ++[.map []])):M7 C ops al qs Q S ((i,fl)::l) E σ :=
 ⟨o,ho,.inr ⟨hqs,.inr ⟨hg,b8m,.inr ⟨t,hot,rfl⟩,h⟩⟩⟩
end
end Go.Cl
namespace Go.Cl
structure b4O {α:Type} [DecidableEq α] (P:Program) (kt:TypeId) (kc:α→CV) (kv:α→Value):Prop where
 rv:∀ M w a v,RV M w (kc a) v→v=kv a
 rv':∀ M w a,RV M w (kc a) (kv a)
 check:∀ b a w,(Instr.checkKey b 10000 kt (kv a)).run P w = .ok () w
 eq:∀ a b w,(Op.equal kt (kv a) (kv b)).run P w = .ok (decide (a=b)) w
 now:∃ d,(∀ w,(underlying kt).run P w = .ok d w)∧∀ a b,Instr.sameNow d (kv a) (kv b)=none
 bits:∀ a,Instr.sameBits 10000 (kv a) (kv a)=true
section
variable {α:Type} [DecidableEq α] {P:Program} {kt:TypeId} {kc:α→CV} {kv:α→Value}
end
section
variable {C:Ctx} {σ:List c5} {E:Env} {o:Oper} {α:Type} [DecidableEq α] {kt:TypeId} {kc:α→CV} {kv:α→Value}
end
end Go.Cl
namespace Go.Cl
abbrev Str:=List UInt8
def str (l:Str):ByteArray:=⟨l.toArray⟩
abbrev sv (l:Str):CV:=.val (.string (str l))
theorem a1c (l:Str):(str l).size=l.length:=by simp [str,ByteArray.size]
theorem M5 (l:Str):(str l).toList=l:=by
 rw [ByteArray.toList_eq]
 simp [str]
theorem b0B (a b:Str):str a++str b=str (a++b):=by
 apply ByteArray.ext
 simp [str]
theorem b6W (l:Str) (i:Nat):(str l)[i]? = l[i]?:=by
 simp only [str,getElem?_def]
 split <;> rename_i h <;> split <;> rename_i h' <;> first|rfl|(exfalso; simp [ByteArray.size] at h h'; omega)
theorem a78 (l:Str) (a b:Nat):(str l).extract a b=str ((l.take b).drop a):=by
 apply ByteArray.ext
 simp [str,List.drop_take]
section
variable {C:Ctx} {σ:List c5} {E:Env} {o:Oper}
theorem b34 {x:Operand} {t:TypeId} {l:Str} (ho:o.op = .call { callee:=.builtin .len,args:=#[x],argTypes:=#[t]}) (hx:E.valid x) (ex:E.val C x=sv l) (hu:∀ w,(underlying t).run C.P w = .ok .string w):m6 C σ E o (.val (.int .i64 l.length)) :=
 j7 fun M w ρ _ h=>by
  have h1:=h x (by simp [ho,Op.operands,Call.operands]) hx
  rw [ex] at h1
  have h2:=n8 h1
  refine ⟨.int .i64 l.length,?_,.val _⟩
  simp [execOp,ho,h2,resolve,invoke,builtin,Builtin.len_,hu,goInt,a1c]
theorem U9 {t:TypeId} {x ix:Operand} {l:Str} {i:Int} {k:IntKind} {b:UInt8} (ho:o.op = .index t x ix) (hx:E.valid x) (hi:E.valid ix) (ex:E.val C x=sv l) (ei:E.val C ix = .val (.int k i)) (hu:∀ w,(underlying t).run C.P w = .ok .string w) (h0:0≤i) (hb:l[i.toNat]? = some b):m6 C σ E o (.val (.int .u8 b.toNat)) :=
 j7 fun M w ρ _ h=>by
  have h1:=h x (by simp [ho,Op.operands]) hx
  have h2:=h ix (by simp [ho,Op.operands]) hi
  rw [ex] at h1
  rw [ei] at h2
  have h1':=n8 h1
  have h2':=n8 h2
  refine ⟨.int .u8 b.toNat,?_,.val _⟩
  simp [execOp,ho,h1',h2',Instr.index,hu,asIntOf,h0,b6W,hb]
theorem I4 {t t':TypeId} {x y:Operand} {a b:Str} (ho:o.op = .binOp .add t x y t') (hx:E.valid x) (hy:E.valid y) (ex:E.val C x=sv a) (ey:E.val C y=sv b) (hl:a.length+b.length≤9223372036854775807):m6 C σ E o (sv (a++b)) :=
 j7 fun M w ρ _ h=>by
  have h1:=h x (by simp [ho,Op.operands]) hx
  have h2:=h y (by simp [ho,Op.operands]) hy
  rw [ex] at h1
  rw [ey] at h2
  have h1':=n8 h1
  have h2':=n8 h2
  refine ⟨.string (str (a++b)),?_,.val _⟩
  simp [execOp,ho,h1',h2',eqGuard,binOp,Op.stringOp,b0B]
  rw [a1c,a1c]
  omega
theorem a7x (a b:Str):(a == b)=decide (a=b):=by
 by_cases h:a=b <;> simp [h]
theorem a2K (a b:Str):a43 .eql (str a) (str b)=some (decide (a=b)):=by simp [a43,M5,a7x]
theorem a8c (a b:Str):a43 .neq (str a) (str b)=some (!decide (a=b)):=by simp [a43,M5,a7x]
theorem a4E (a b:Str):a43 .lss (str a) (str b)=some (Op.bytesLess a b):=by simp [a43,M5]
theorem b4C (a b:Str):a43 .leq (str a) (str b)=some (Op.bytesLess a b || decide (a=b)):=by simp [a43,M5,a7x]
theorem Y3 {op:BinOp} {t t':TypeId} {x y:Operand} {a b:Str} {r:Bool} (ho:o.op = .binOp op t x y t') (hx:E.valid x) (hy:E.valid y) (ex:E.val C x=sv a) (ey:E.val C y=sv b) (hv:a43 op (str a) (str b)=some r):m6 C σ E o (.val (.bool r)) :=
 b39 ho hx hy ex ey hv
end
end Go.Cl
namespace Go.Cl
def bcv (b:UInt8):List CV:=[.val (.int .u8 b.toNat)]
section
variable {C:Ctx} {σ:List c5} {E:Env} {o:Oper}
theorem K1 {t:TypeId} {x:Operand} {lo hi:Option Operand} {l:Str} {a h:Nat} (ho:o.op = .slice t x lo hi none) (hx:E.valid x) (ex:E.val C x=sv l) (hu:∀ w,(underlying t).run C.P w = .ok .string w) (hlo:V6 C E lo 0 a) (hhi:V6 C E hi l.length h) (h1:a≤h) (h2:h≤l.length):m6 C σ E o (sv ((l.take h).drop a)) :=
 j7 fun M w ρ hr hh=>by
  have hx':=hh x (by simp [ho,Op.operands]) hx
  rw [ex] at hx'
  have hv:=n8 hx'
  have hlo':∀ v,lo=some v→∃ k i,ρ v = .int k i∧0≤i∧i.toNat=a:=fun v hv=>by
   subst hv
   obtain ⟨hval,k,i,he,h0,hi⟩:=hlo
   have:=hh v (by simp [ho,Op.operands]) hval
   rw [he] at this
   exact ⟨k,i,n8 this,h0,hi⟩
  have hhi':∀ v,hi=some v→∃ k i,ρ v = .int k i∧0≤i∧i.toNat=h:=fun v hv=>by
   subst hv
   obtain ⟨hval,k,i,he,h0,hi⟩:=hhi
   have:=hh v (by simp [ho,Op.operands]) hval
   rw [he] at this
   exact ⟨k,i,n8 this,h0,hi⟩
  have hb:(Instr.sliceBounds false l.length l.length (lo.map ρ) (hi.map ρ) none).run C.P w = .ok (a,h,l.length) w:=by
   have hl2:(a:Int)≤h:=by omega
   have hh2:(h:Int)≤l.length:=by omega
   cases lo with
   | none =>
    have:a=0:=by simpa [V6] using hlo.symm
    subst this
    cases hi with
    | none =>
     have:h=l.length:=by simpa [V6] using hhi.symm
     subst this
     simp [Instr.sliceBounds]
    | some v =>
     obtain ⟨k,i,he,h0,hi⟩:=hhi' v rfl
     have hle:i≤l.length:=by omega
     simp [Instr.sliceBounds,Instr.sliceBound,he,asIntOf,h0,hle,hi]
   | some u =>
    obtain ⟨k,i,he,h0,hi0⟩:=hlo' u rfl
    cases hi with
    | none =>
     have:h=l.length:=by simpa [V6] using hhi.symm
     subst this
     have hle:i≤l.length:=by omega
     simp [Instr.sliceBounds,Instr.sliceBound,he,asIntOf,h0,hle,hi0]
    | some v =>
     obtain ⟨k',i',he',h0',hi'⟩:=hhi' v rfl
     have hle:i≤h:=by omega
     have hle':i'≤l.length:=by omega
     simp [Instr.sliceBounds,Instr.sliceBound,he,he',asIntOf,h0,h0',hle,hle',hi0,hi']
  refine ⟨.string (str ((l.take h).drop a)),?_,.val _⟩
  simp [execOp,ho,hv,Instr.sliceAt,Instr.slice,hu,a1c,hb,a78]
theorem b1t {P:Program} {w:World}:∀ (l:Str) (acc:Str),(forIn (m:=Sem) (l.map fun b:UInt8=>Value.int .u8 (b.toNat:Int)) (str acc) fun (c:Value) (s:ByteArray) =>
 match c with
 | .int .u8 n=>(do pure (ForInStep.yield (s.push (UInt8.ofNat n.toNat))):Sem (ForInStep ByteArray))
 | _=>(do
  let _ ← (stuck "bytesToString: byte expected" : Sem PUnit)
  pure (ForInStep.yield s))).run P w = .ok (str (acc++l)) w
 | [],acc=>by simp
 | b::l,acc=>by
  have h:(str acc).push (UInt8.ofNat ((b.toNat:Int).toNat))=str (acc++[b]):=by
   apply ByteArray.ext
   simp [str,ByteArray.push]
  rw [List.map_cons,List.forIn_cons]
  simp only [Sem.run_bind,Sem.run_pure,Result.andThen_ok,h]
  rw [b1t l (acc++[b])]
  simp
theorem b7Q {src dst e:TypeId} {x:Operand} {l:Str} {nn:Bool} {tok:Option Nat} (ho:o.op = .convert src dst x) (hx:E.valid x) (ex:E.val C x = .list (l.map bcv) nn tok) (hs:∀ w,(underlying src).run C.P w = .ok (.slice e) w) (hd:∀ w,(underlying dst).run C.P w = .ok .string w) (he:∀ w,(underlying e).run C.P w = .ok (.int .u8) w):m6 C σ E o (sv l) :=
 j7 fun M w ρ hr hh=>by
  have hx':=hh x (by simp [ho,Op.operands]) hx
  rw [ex] at hx'
  obtain ⟨a,cap,b,off,s',vals,hv,hcap,hmax,hnn,hn0,ha,hrl,hone,hc,hrv,_⟩:=hx'.list_inv
  refine ⟨.string (str l),?_,.val _⟩
  cases l with
  | nil =>
   cases a with
   | none=>simp [execOp,ho,hv,convert,hs,hd,he,Conv.bytesToString]; rfl
   | some a=>simp [execOp,ho,hv,convert,hs,hd,he,Conv.bytesToString,loadCells,loadCellsFrom]; rfl
  | cons y l =>
   have ha':=ha (by simp)
   have hs1:s'=1:=by have:=hrl (bcv y) (by simp); simpa [bcv] using this.symm
   subst hs1
   have hcell:∀ j,j < (y::l).length→w.cell? ⟨b,off+j,none⟩=some ((((y::l).map fun b:UInt8=>Value.int .u8 (b.toNat:Int))[j]?).getD undef):=fun j hj=>by
    have h1:((y::l).map bcv)[j]? = some (bcv ((y::l)[j]'hj)):=by rw [List.getElem?_map,List.getElem?_eq_getElem hj]; rfl
    have h2:=hc j 0 (bcv ((y::l)[j]'hj)) (.val (.int .u8 (((y::l)[j]'hj).toNat:Int))) h1 rfl
    have h3:=n8 (hrv j 0 (bcv ((y::l)[j]'hj)) (.val (.int .u8 (((y::l)[j]'hj).toNat:Int))) h1 rfl)
    simp only [Nat.mul_one,Nat.add_zero] at h2
    rw [h2.2,h3,List.getElem?_map,List.getElem?_eq_getElem hj]
    rfl
   have hl:=G8 (P:=C.P) _ _ hcell
   have harr:((List.range (y::l).length).map fun j=>(((y::l).map fun b:UInt8=>Value.int .u8 (b.toNat:Int))[j]?).getD undef)=(y::l).map fun b:UInt8=>Value.int .u8 (b.toNat:Int):=by
    apply List.ext_getElem
    ·simp
    ·intro i h1 h2
     simp at h1
     simp [h1]
   have:=b1t (P:=C.P) (w:=w) (y::l) []
   simp only [List.nil_append] at this
   rw [ha'] at hv
   simp only [List.length_map] at hv
   simp only [execOp,ho,hv,convert,Sem.run_bind,hs,hd,he,Result.andThen_ok,Conv.bytesToString,hl,harr]
   simp only [List.forIn_toArray]
   have e0:(ByteArray.empty)=str []:=rfl
   rw [e0]
   refine (congrArg (fun r=>(r.andThen fun a w'=>Sem.run C.P (pure (Value.string a)) w').andThen fun a w'=>Sem.run C.P (pure (Next.value a)) w') this).trans ?_
   simp
end
end Go.Cl
namespace Go.Cl
theorem Rel.settleBlock {C:Ctx} {M:l3} {σ:List c5} {w:World} (hr:Rel C M σ w) {b:Nat} (hb:b < w.heap.size) (hfree:∀ (k:Nat) (p:Pl) (ob:c5),M.pl[k]? = some p→σ[k]? = some ob→ob.live=true→p.block≠b) (hk:¬ M.keep b):Ext M w (M.settle b) w∧Rel C (M.settle b) σ w:=by
 have hx:Ext M w (M.settle b) w:=⟨⟨[],by simp [l3.settle]⟩,fun _ h=>.inl h,fun _ _ h=>.inr h,fun _ _=>rfl,fun _ _ _=>rfl,Nat.le_refl _,G5,rfl,rfl,rfl,fun b' h=>⟨h,rfl,fun f=>(by
  rcases f with f | f
  ·exact f
  ·exact absurd (f ▸ h) hk),fun _ f=>f⟩⟩
 refine ⟨hx,hr.len,fun b' o ha=>?_,fun k p x hp hs=>?_,hr.inj,fun g cells hg=>(hr.glob g cells hg).mono hx,hr.kep,hr.nk⟩
 ·rcases ha with (ha | ha) | ha
  ·exact hr.blk b' o (.inl ha)
  ·omega
  ·exact hr.blk b' o (.inr ha)
 ·obtain ⟨h1,h2⟩:=hr.obj k p x hp hs
  by_cases hl:x.live=true
  ·refine ⟨h1.mono hx rfl (fun _ _ _ _ h=>h),?_⟩
   have hf:¬ M.full p.block→¬ (M.settle b).full p.block:=fun h h'=>by
    rcases h' with h' | h'
    ·exact h h'
    ·exact hfree k p x hp hs hl h'
   cases x <;> first | trivial|exact hf h2|exact ⟨hf h2.1,h2.2⟩
  ·cases x <;> first|exact ⟨tt,tt⟩ | simp [c5.live] at hl
theorem a5s {α:Type} {a:Array α} {p:α→Bool} (h:∀ x∈a,p x=true):a.filter p=a:=by
 apply Array.toList_inj.1
 rw [Array.toList_filter]
 exact List.filter_eq_self.2 fun x hx=>h x (by simpa using hx)
theorem a30 {α:Type} {a:Array α} {p:α→Bool} (h:∀ x∈a,p x=false):a.filter p = #[]:=by
 apply Array.toList_inj.1
 rw [Array.toList_filter]
 exact List.filter_eq_nil_iff.2 fun x hx=>by rw [h x (by simpa using hx)]; simp
theorem a6q {ents:Array MapEntry} (ha:a4l ents) {seen:Array Nat} {i:Nat} {e:MapEntry} (hi:(ents.toList.filter fun e=>!seen.contains e.born)[i]? = some e) :
 (ents.toList.filter fun x=>!(seen.push e.born).contains x.born)=(ents.toList.filter fun e=>!seen.contains e.born).eraseIdx i:=by
 have hag:∀ (i j:Nat) (e e':MapEntry),ents.toList[i]? = some e→ents.toList[j]? = some e'→e.born=e'.born→i=j:=fun i j e e' h1 h2 h3=>ha i j e e' (by simpa using h1) (by simpa using h2) h3
 have hc:∀ x:MapEntry,(seen.push e.born).contains x.born=(seen.contains x.born || x.born == e.born):=fun x=>by
  rw [Array.contains_push]
 simp only [hc]
 generalize ents.toList=l at hi hag
 clear ha hc
 induction l generalizing i with
 | nil=>simp at hi
 | cons y l ih =>
  have hag':∀ (i j:Nat) (e e':MapEntry),l[i]? = some e→l[j]? = some e'→e.born=e'.born→i=j:=fun i j a b h1 h2 h3=>by
   have:=hag (i+1) (j+1) a b (by simpa using h1) (by simpa using h2) h3
   omega
  by_cases hy:seen.contains y.born=true
  ·have h1:(!seen.contains y.born)=false:=by rw [hy]; rfl
   rw [List.filter_cons,if_neg (by rw [h1]; simp)] at hi
   rw [List.filter_cons,if_neg (by rw [hy]; simp),List.filter_cons,if_neg (by rw [h1]; simp)]
   exact ih hi hag'
  ·have hy':seen.contains y.born=false:=by simpa using hy
   have h1:(!seen.contains y.born)=true:=by rw [hy']; rfl
   have e1:(List.filter (fun e=>!seen.contains e.born) (y::l))=y::l.filter fun e=>!seen.contains e.born:=by rw [List.filter_cons,if_pos h1]
   rw [e1] at hi ⊢
   rcases i with _ | i
   ·simp at hi
    subst hi
    rw [List.filter_cons,if_neg (by simp)]
    rw [List.eraseIdx_zero,List.tail_cons]
    refine List.filter_congr fun x hx=>?_
    have hne:x.born≠y.born:=fun he=>by
     obtain ⟨j,hj⟩:=List.mem_iff_getElem?.1 hx
     have:=hag (j+1) 0 x y (by simpa using hj) rfl he
     omega
    simp [hne]
   ·rw [List.getElem?_cons_succ] at hi
    have hne:y.born≠e.born:=fun he=>by
     have hm:=List.mem_filter.1 (List.mem_of_getElem? hi)
     obtain ⟨j,hj⟩:=List.mem_iff_getElem?.1 hm.1
     have:=hag 0 (j+1) y e rfl (by simpa using hj) he
     omega
    rw [List.filter_cons,if_pos (by rw [hy']; simp [hne]),List.eraseIdx_cons_succ,ih hi hag']
def z6 (ents:Array MapEntry) (seen:Array Nat):Array MapEntry:=ents.filter fun e=>!seen.contains e.born
theorem a8l (ents:Array MapEntry) (seen:Array Nat):(z6 ents seen).toList=ents.toList.filter fun e=>!seen.contains e.born:=Array.toList_filter ..
section
variable {C:Ctx} {σ:List c5} {E:Env} {o:Oper}
theorem b1u {t kt et:TypeId} {x:Operand} {k:Nat} {es:List (CV × CV)} {K:v7→List c5→Prop} (ho:o.op = .range t x) (hx:E.valid x) (ex:E.val C x = .map k) (hu:∀ w,(underlying t).run C.P w = .ok (.map kt et) w) (hσ:σ[k]? = some (.map es)) (hK:K (.ret (.ptr σ.length 0)) (σ.set k .dead++[.iter [] es])):C2 C σ E o K:=fun M w ρ hr h=>by
 have h1:=h x (by simp [ho,Op.operands]) hx
 rw [ex] at h1
 generalize hv:ρ x=v at h1
 cases h1 with
 | map hp =>
  rename_i p
  obtain ⟨h1,h2⟩:=hr.obj k p _ hp hσ
  have hlt:=h1.lt rfl
  obtain ⟨ents,clock,g1,g2,g3⟩:=h1
  have hnk:=hr.nk k p _ hp hσ rfl
  have hrd:=hr.dead k
  have hall:∀ (i:Nat) (e:MapEntry),ents[i]? = some e→e.born < clock:=fun i e he=>by
   have hlt:i < es.length:=by rw [← g2.1]; exact (Array.getElem?_eq_some_iff.1 he).1
   obtain ⟨e',h1,_,_,h4⟩:=g3 i es[i] (by simp [hlt])
   rw [he] at h1
   injection h1 with h1
   rw [h1]; exact h4
  obtain ⟨hx1,hr1⟩:=hrd.settleBlock hlt (fun k' p' ob' hp' hs' hl' hb=>by
   rw [List.getElem?_set] at hs'
   split at hs'
   ·split at hs'
    ·injection hs' with hs'; subst hs'; cases hl'
    ·cases hs'
   ·rename_i hne
    exact hne (hr.inj k k' p p' _ _ hp hp' hσ hs' rfl hl' hb.symm)) hnk
  have hrun:(execOp ρ o).run C.P w = .ok (.value (.pointer (some ⟨w.heap.size,0,none⟩))) (w.alloc (.mapIter (some p.block) clock #[] clock)):=by
   simp [execOp,ho,hv,Instr.range,hu,D9 g1]
  rw [hrun]
  have hx2:=Ext.alloc hr1 ⟨w.heap.size,0,0⟩ (.mapIter (some p.block) clock #[] clock)
  have hk:=(hrd.settleBlock hlt (fun k' p' ob' hp' hs' hl' hb=>by
   rw [List.getElem?_set] at hs'
   split at hs'
   ·split at hs'
    ·injection hs' with hs'; subst hs'; cases hl'
    ·cases hs'
   ·rename_i hne
    exact hne (hr.inj k k' p p' _ _ hp hp' hσ hs' rfl hl' hb.symm)) hnk).2
  refine ⟨.ptr σ.length 0,_,_,hx1.trans hx2,hr1.alloc ⟨w.heap.size,0,0⟩ _ (.iter [] es) rfl ⟨p.block,#[],clock,ents,clock,s9 _ _,.inr rfl,?_,.inl rfl,g2.2,hall,?_,fun i x hi=>?_,fun i x hi=>by simp at hi⟩,RV.ptr (p:=⟨w.heap.size,0,0⟩) (by
   have hl:=hr1.len
   simp at hl
   simp [l3.add,← hl]),hK⟩
  ·rw [w8 w _ hlt]; exact g1
  ·have:(ents.toList.filter fun e=>!(#[]:Array Nat).contains e.born)=ents.toList:=List.filter_eq_self.2 fun x _=>by simp
   rw [this]
   simpa using g2.1
  ·have:(ents.toList.filter fun e=>!(#[]:Array Nat).contains e.born)=ents.toList:=List.filter_eq_self.2 fun x _=>by simp
   rw [this]
   obtain ⟨e,f1,f2,f3,_⟩:=g3 i x hi
   exact ⟨e,by simpa using f1,(f2.mono hx1).mono hx2,(f3.mono hx1).mono hx2⟩
theorem a5b {P:Program} {q:Question} {w:World} (h:q.forced=false):(choose q).run P w = .ok (q.cut (w.tape w.drawn q)) w.drew:=by
 simp [choose,Sem.run,h]
theorem b3Y {it:Operand} {q:Nat} {cur left:List (CV × CV)} {K:v7→List c5→Prop} (ho:o.op = .next it false) (hx:E.valid it) (ex:E.val C it = .ptr q 0) (hσ:σ[q]? = some (.iter cur left)) (hz:left=[]→K (.ret (.tup [.val (.bool false)])) σ)
 (hs:∀ (i:Nat) (x:CV × CV),left[i]? = some x→K (.ret (.tup [.val (.bool true),x.1,x.2])) (σ.set q (.iter [x] (left.eraseIdx i)))):C2 C σ E o K:=fun M w ρ hr h=>by
 have h1:=h it (by simp [ho,Op.operands]) hx
 rw [ex] at h1
 generalize hv:ρ it=v at h1
 cases h1 with
 | ptr hp =>
  rename_i p
  obtain ⟨h1,hf,hc⟩:=hr.obj q p _ hp hσ
  have hlt:=h1.lt rfl
  obtain ⟨mb,seen,last,ents,clock,g1,g2,g3,g4,g5,g6,g7,g8,_⟩:=h1
  have hmem:∀ e∈ents,e.born < clock:=fun e he=>by
   obtain ⟨i,hi⟩:=Array.mem_iff_getElem?.1 he
   exact g6 i e hi
  have hA:=a8l ents seen
  have hmemA:∀ e∈(z6 ents seen),e.born < clock:=fun e he=>hmem e (Array.mem_filter.1 (show e∈ents.filter fun e=>!seen.contains e.born from he)).1
  have hold:((z6 ents seen).filter fun e=>decide (e.born < clock))=z6 ents seen:=a5s fun x hx=>by simpa using hmemA x hx
  have hnew:((z6 ents seen).filter fun e=>decide (e.born≥clock)) = #[]:=a30 fun x hx=>by have:=hmemA x hx; simp; omega
  have hno:(!seen.isEmpty && !ents.isEmpty && ents.all fun e=>decide (e.born≥last))=false:=by
   rcases g4 with rfl | rfl
   ·simp
   ·by_cases he:ents.isEmpty=true
    ·simp [he]
    ·have:∃ e,e∈ents:=by
      have hsz:0 < ents.size:=by
       rcases Nat.eq_zero_or_pos ents.size with h | h
       ·exact absurd (by simp [Array.isEmpty,h]) he
       ·exact h
      exact ⟨ents[0],Array.getElem_mem hsz⟩
     obtain ⟨e,he⟩:=this
     have:(ents.all fun e=>decide (e.born≥last))=false:=by
      rw [Bool.eq_false_iff]
      intro hh
      rw [Array.all_eq_true_iff_forall_mem] at hh
      have h1:=hh e he
      have h2:=hmem e he
      simp at h1
      omega
     rw [this]; simp
  have hg1:(getObj p.block).run C.P w = .ok (.mapIter (some mb) clock seen last) w:=by simp [getObj,Sem.run,g1]
  have hrun0:(execOp ρ o).run C.P w=((choose (.mapNext ((if (z6 ents seen).isEmpty then #[none] else #[])++((z6 ents seen)++#[]).map some).size)).run C.P w).andThen fun j w' =>
   ((match ((if (z6 ents seen).isEmpty then #[none] else #[])++((z6 ents seen)++#[]).map some)[j]? with
   | some (some e)=>(do
    setObj p.block (.mapIter (some mb) clock (seen.push e.born) clock)
    pure (Next.value (.tuple #[.bool true,e.key,e.val])):Sem Next)
   | some none=>pure (Next.value (.tuple #[.bool false]))
   | none => stuck "Next: no such candidate").run C.P w') := by
   have hun:(ents.filter fun e=>!seen.contains e.born)=z6 ents seen:=rfl
   simp only [execOp,ho,hv,Instr.next,Sem.run_bind,hg1,Result.andThen_ok,D9 g3,hno,hun,hold,hnew]
   simp only [Bool.false_eq_true,if_false,Sem.run_bind,Sem.run_pure,Result.andThen_ok]
   cases hch:(choose (.mapNext ((if (z6 ents seen).isEmpty then #[none] else #[])++((z6 ents seen)++#[]).map some).size)).run C.P w with
   | halt x w'=>rfl
   | ok j w' =>
    simp only [Result.andThen_ok]
    generalize ((if (z6 ents seen).isEmpty=true then #[none] else #[])++Array.map some (z6 ents seen++#[]))[j]? = cand
    rcases cand with _ | _ | e
    ·simp [stuck,Sem.run]
    ·simp
    ·simp only [Sem.run_bind]
     generalize (setObj p.block (Obj.mapIter (some mb) clock (seen.push e.born) clock)).run C.P w'=r
     cases r <;> simp
  rw [hrun0]
  cases hL:(z6 ents seen).toList with
  | nil =>
   have hempty:(z6 ents seen) = #[]:=Array.toList_inj.1 hL
   have hl0:left=[]:=by
    rw [← hA,hL] at g7
    exact List.eq_nil_of_length_eq_zero g7.symm
   rw [hempty]
   have hch:(choose (.mapNext (((if (#[]:Array MapEntry).isEmpty then #[none] else #[])++((#[]:Array MapEntry)++#[]).map some).size))).run C.P w = .ok 0 w:=by
    simp [choose,Sem.run,Question.forced]
   rw [hch]
   have hc0:((if (#[]:Array MapEntry).isEmpty=true then #[none] else #[])++Array.map some ((#[]:Array MapEntry)++#[]))[0]? = some none:=by simp
   simp only [Result.andThen_ok]
   rw [hc0]
   show a0m C M w K (.tuple #[.bool false]) w
   exact ⟨.tup [.val (.bool false)],σ,M,Ext.refl M w,hr,.tup rfl (fun i c hi=>by
    rcases i with _ | i
    ·simp at hi; subst hi; exact .val _
    ·simp at hi),hz hl0⟩
  | cons e0 r0 =>
   have hne:(z6 ents seen).isEmpty=false:=by
    rw [← Array.isEmpty_toList,hL]; rfl
   have hsz:(z6 ents seen).size=(ents.toList.filter fun e=>!seen.contains e.born).length:=by rw [← hA]; simp
   rw [hne]
   simp only [Bool.false_eq_true,if_false,Array.append_empty,Array.empty_append]
   have key:∀ (j:Nat) (w':World) (M':l3),Ext M w M' w'→Rel C M' σ w'→M'.pl=M.pl→w'.heap=w.heap→j < (z6 ents seen).size→a5l C.P (a0m C M w K) (O5 C M w K) ((match ((z6 ents seen).map some)[j]? with
    | some (some e)=>(do
     setObj p.block (.mapIter (some mb) clock (seen.push e.born) clock)
     pure (Next.value (.tuple #[.bool true,e.key,e.val])):Sem Next)
    | some none=>pure (Next.value (.tuple #[.bool false]))
    | none => stuck "Next: no such candidate").run C.P w') := by
    intro j w' M' hx' hr' hpl hheap hj
    obtain ⟨e,he⟩:∃ e,(z6 ents seen)[j]? = some e:=⟨_,Array.getElem?_eq_getElem hj⟩
    have he':(ents.toList.filter fun e=>!seen.contains e.born)[j]? = some e:=by rw [← hA]; simpa using he
    have hm:((z6 ents seen).map some)[j]? = some (some e):=by rw [Array.getElem?_map,he]; rfl
    rw [hm]
    have hset:(setObj p.block (.mapIter (some mb) clock (seen.push e.born) clock)).run C.P w' = .ok () (World.putObj w' p.block (.mapIter (some mb) clock (seen.push e.born) clock)):=by
     simp [setObj,Sem.run,World.putObj,hheap,g1]
    simp only [Sem.run_bind,hset,Result.andThen_ok,Sem.run_pure]
    have hjl:j < left.length:=by rw [← g7]; exact (List.getElem?_eq_some_iff.1 he').1
    obtain ⟨x,hxj⟩:∃ x,left[j]? = some x:=⟨left[j],by simp [hjl]⟩
    obtain ⟨e2,f1,f2,f3⟩:=g8 j x hxj
    rw [he'] at f1
    injection f1 with f1
    subst f1
    have hp':M'.pl[q]? = some p:=by rw [hpl]; exact hp
    obtain ⟨ob1,hf',hc'⟩:=hr'.obj q p _ hp' hσ
    have hlt':p.block < w'.heap.size:=ob1.lt rfl
    have hx2:=Ext.putObj (w:=w') (.mapIter (some mb) clock (seen.push e.born) clock) (hr'.nk q p _ hp' hσ rfl) hf' hc'
    have hne2:p.block≠mb:=fun hb=>by
     rw [hb] at g1
     rw [g1] at g3
     cases g3
    have hr2:=hr'.putObj (ob:=.iter [x] (left.eraseIdx j)) hp' hσ rfl hf' hc' (.mapIter (some mb) clock (seen.push e.born) clock) ⟨mb,seen.push e.born,clock,ents,clock,World.putObj_same w' _ hlt',hx'.full _ g2,by rw [World.putObj_other w' _ hne2,hheap]; exact g3,.inr rfl,g5,g6,by
     rw [a6q g5 he',List.length_eraseIdx,List.length_eraseIdx,g7],fun i y hi=>by
     rw [a6q g5 he']
     rw [List.getElem?_eraseIdx] at hi ⊢
     split at hi
     ·rename_i hij
      rw [if_pos hij]
      obtain ⟨e3,u1,u2,u3⟩:=g8 i y hi
      exact ⟨e3,u1,(u2.mono hx').mono hx2,(u3.mono hx').mono hx2⟩
     ·rename_i hij
      rw [if_neg hij]
      obtain ⟨e3,u1,u2,u3⟩:=g8 (i+1) y hi
      exact ⟨e3,u1,(u2.mono hx').mono hx2,(u3.mono hx').mono hx2⟩,fun i y hi=>by
     rcases i with _ | i
     ·simp at hi
      subst hi
      obtain ⟨j0,hj0⟩:=Array.mem_iff_getElem?.1 (Array.mem_filter.1 (show e∈ents.filter fun e=>!seen.contains e.born from Array.mem_of_getElem? he)).1
      exact ⟨rfl,j0,e,hj0,by simp,(f2.mono hx').mono hx2,(f3.mono hx').mono hx2⟩
     ·simp at hi⟩
    refine ⟨.tup [.val (.bool true),x.1,x.2],_,M',hx'.trans hx2,hr2,.tup rfl (fun i c hi=>?_),hs j x hxj⟩
    rcases i with _ | _ | _ | i
    ·simp at hi; subst hi; exact .val _
    ·simp at hi; subst hi; exact (f2.mono hx').mono hx2
    ·simp at hi; subst hi; exact (f3.mono hx').mono hx2
    ·simp at hi
   have hpos:0 < (z6 ents seen).size:=by rw [← Array.length_toList,hL]; simp
   have hszm:((z6 ents seen).map some).size=(z6 ents seen).size:=by simp
   rw [hszm]
   by_cases h1:(z6 ents seen).size≤1
   ·have hch:(choose (.mapNext (z6 ents seen).size)).run C.P w = .ok 0 w:=by
     simp [choose,Sem.run,Question.forced,h1]
    rw [hch]
    exact key 0 w M (Ext.refl M w) hr rfl rfl hpos
   ·have hch:(choose (.mapNext (z6 ents seen).size)).run C.P w = .ok ((Question.mapNext (z6 ents seen).size).cut (w.tape w.drawn (.mapNext (z6 ents seen).size))) w.drew:=a5b (by simp [Question.forced]; omega)
    rw [hch]
    obtain ⟨hrd,hxd⟩:=hr.drew
    exact key _ w.drew M hxd hrd rfl rfl (Nat.mod_lt _ hpos)
theorem b16 {it:Operand} {q:Nat} {x:CV × CV} {left:List (CV × CV)} (ho:o.op = .entry it) (hx:E.valid it) (ex:E.val C it = .ptr q 0) (hσ:σ[q]? = some (.iter [x] left)):m6 C σ E o (.tup [x.1,x.2]) :=
 j7 fun M w ρ hr h=>by
  have h1:=h it (by simp [ho,Op.operands]) hx
  rw [ex] at h1
  generalize hv:ρ it=v at h1
  cases h1 with
  | ptr hp =>
   rename_i p
   obtain ⟨mb,seen,last,ents,clock,g1,g2,g3,g4,g5,g6,g7,g8,g9⟩:=(hr.obj q p _ hp hσ).1
   obtain ⟨hl,j,e,f1,f2,f3,f4⟩:=g9 0 x rfl
   have hfind:ents.find? (fun e'=>e'.born == e.born)=some e:=by
    rw [← Array.find?_toList]
    have hj:ents.toList[j]? = some e:=by simpa using f1
    obtain ⟨hlt,hje⟩:=List.getElem?_eq_some_iff.1 hj
    rw [List.find?_eq_some_iff_getElem]
    refine ⟨by simp,j,hlt,hje,fun k hk=>?_⟩
    have hne:ents.toList[k].born≠e.born:=fun hb=>by
     have:=g5 k j ents.toList[k] e (by simp) f1 hb
     omega
    simpa using hne
   have hg1:(getObj p.block).run C.P w = .ok (.mapIter (some mb) clock seen last) w:=by simp [getObj,Sem.run,g1]
   refine ⟨.tuple #[e.key,e.val],?_,.tup rfl fun i c hi=>?_⟩
   ·simp [execOp,ho,hv,Instr.entry,hg1,f2,D9 g3,hl,hfind]
   ·rcases i with _ | _ | i
    ·simp at hi; subst hi; exact f3
    ·simp at hi; subst hi; exact f4
    ·simp at hi
end
end Go.Cl
namespace Go.Cl
structure I6 {α:Type} [DecidableEq α] (P:Program) (kt:TypeId) (kc:α→CV) (kv:α→Value):Prop where
 rv:∀ M w a v,RV M w (kc a) v→v=kv a
 rv':∀ M w a,RV M w (kc a) (kv a)
 check:∀ b a w,(Instr.checkKey b 10000 kt (kv a)).run P w = .ok () w
 bits:∀ a,Instr.sameBits 10000 (kv a) (kv a)=true
 none:∀ (a:α) (l:List α) (ents:List MapEntry),ents.length=l.length→(∀ (i:Nat) (x:α),l[i]? = some x→∃ e,ents[i]? = some e∧e.key=kv x)→a∉l→∀ w,(Instr.findKey kt (kv a) ents).run P w = .ok none w
 some:∀ (a:α) (l:List α) (ents:List MapEntry),ents.length=l.length→(∀ (i:Nat) (x:α),l[i]? = some x→∃ e,ents[i]? = some e∧e.key=kv x)→∀ (i:Nat) (e:MapEntry),l[i]? = some a→(∀ j,j < i→l[j]?≠some a)→ents[i]? = some e→∀ w,(Instr.findKey kt (kv a) ents).run P w = .ok (some (i,e.val)) w
section
variable {α:Type} [DecidableEq α] {P:Program} {kt:TypeId} {kc:α→CV} {kv:α→Value}
theorem a1q {d:TypeDesc} (hs:∀ a b,Instr.sameNow d (kv a) (kv b)=some (decide (a=b))) (a:α):∀ (l:List α) (ents:List MapEntry) (n:Nat),ents.length=l.length→(∀ (i:Nat) (x:α),l[i]? = some x→∃ e,ents[i]? = some e∧e.key=kv x) →
 (a∉l→Instr.findNow d (kv a) ents n=some none)∧∀ (i:Nat) (e:MapEntry),l[i]? = some a→(∀ j,j < i→l[j]?≠some a)→ents[i]? = some e→Instr.findNow d (kv a) ents n=some (some (n+i,e.val))
 | [],[],n,_,_=>⟨fun _=>rfl,fun i e h=>by simp at h⟩
 | [],_::_,_,h,_=>by simp at h
 | _::_,[],_,h,_=>by simp at h
 | x::l,e0::ents,n,hl,hh=>by
  obtain ⟨e',he,hk⟩:=hh 0 x rfl
  simp at he
  subst he
  obtain ⟨ih1,ih2⟩:=a1q hs a l ents (n+1) (by simpa using hl) fun i y hi=>hh (i+1) y (by simpa using hi)
  by_cases hax:a=x
  ·subst hax
   refine ⟨fun h=>absurd (by simp) h,fun i e hi hmin he=>?_⟩
   rcases i with _ | i
   ·simp at he
    subst he
    simp [Instr.findNow,hk,hs]
   ·exact absurd rfl (hmin 0 (by omega))
  ·have step:Instr.findNow d (kv a) (e0::ents) n=Instr.findNow d (kv a) ents (n+1):=by simp [Instr.findNow,hk,hs,hax]
   refine ⟨fun h=>by rw [step]; exact ih1 (fun hm=>h (by simp [hm])),fun i e hi hmin he=>?_⟩
   rcases i with _ | i
   ·simp at hi; exact absurd hi.symm hax
   ·rw [step,ih2 i e (by simpa using hi) (fun j hj=>by simpa using hmin (j+1) (by omega)) (by simpa using he)]
    congr 3; omega
theorem a3A {d:TypeDesc} (hrv:∀ M w a v,RV M w (kc a) v→v=kv a) (hrv':∀ M w a,RV M w (kc a) (kv a)) (hu:∀ w,(underlying kt).run P w = .ok d w) (hs:∀ a b,Instr.sameNow d (kv a) (kv b)=some (decide (a=b)))
 (hc:∀ b a w,(Instr.checkKey b 10000 kt (kv a)).run P w = .ok () w) (hb:∀ a,Instr.sameBits 10000 (kv a) (kv a)=true):I6 P kt kc kv where
 rv:=hrv
 rv':=hrv'
 check:=hc
 bits:=hb
 none a l ents h1 h2 h3 w:=by simp [Instr.findKey,hu,(a1q hs a l ents 0 h1 h2).1 h3]
 some a l ents h1 h2 i e h3 h4 h5 w:=by
  have:=(a1q hs a l ents 0 h1 h2).2 i e h3 h4 h5
  simp [Instr.findKey,hu,this]
theorem a1n (heq:∀ a b w,(Op.equal kt (kv a) (kv b)).run P w = .ok (decide (a=b)) w) (a:α):∀ (l:List α) (ents:List MapEntry) (n:Nat),ents.length=l.length→(∀ (i:Nat) (x:α),l[i]? = some x→∃ e,ents[i]? = some e∧e.key=kv x) →
 (a∉l→∀ w,(Instr.findAsking kt (kv a) ents n).run P w = .ok none w)∧∀ (i:Nat) (e:MapEntry),l[i]? = some a→(∀ j,j < i→l[j]?≠some a)→ents[i]? = some e→∀ w,(Instr.findAsking kt (kv a) ents n).run P w = .ok (some (n+i,e.val)) w
 | [],[],n,_,_=>⟨fun _ w=>by simp [Instr.findAsking],fun i e h=>by simp at h⟩
 | [],_::_,_,h,_=>by simp at h
 | _::_,[],_,h,_=>by simp at h
 | x::l,e0::ents,n,hl,hh=>by
  obtain ⟨e',he,hk⟩:=hh 0 x rfl
  simp at he
  subst he
  obtain ⟨ih1,ih2⟩:=a1n heq a l ents (n+1) (by simpa using hl) fun i y hi=>hh (i+1) y (by simpa using hi)
  by_cases hax:a=x
  ·subst hax
   refine ⟨fun h=>absurd (by simp) h,fun i e hi hmin he w=>?_⟩
   rcases i with _ | i
   ·simp at he
    subst he
    simp [Instr.findAsking,hk,heq]
   ·exact absurd rfl (hmin 0 (by omega))
  ·have step:∀ w,(Instr.findAsking kt (kv a) (e0::ents) n).run P w=(Instr.findAsking kt (kv a) ents (n+1)).run P w:=fun w=>by simp [Instr.findAsking,hk,heq,hax]
   refine ⟨fun h w=>by rw [step]; exact ih1 (fun hm=>h (by simp [hm])) w,fun i e hi hmin he w=>?_⟩
   rcases i with _ | i
   ·simp at hi; exact absurd hi.symm hax
   ·rw [step,ih2 i e (by simpa using hi) (fun j hj=>by simpa using hmin (j+1) (by omega)) (by simpa using he)]
    congr 3; omega
theorem b4O.find (hK:b4O P kt kc kv):I6 P kt kc kv where
 rv:=hK.rv
 rv':=hK.rv'
 check:=hK.check
 bits:=hK.bits
 none a l ents h1 h2 h3 w:=by
  obtain ⟨d,hd,hs⟩:=hK.now
  cases ents with
  | nil=>simp [Instr.findKey,hd,Instr.findNow]
  | cons e ents =>
   cases l with
   | nil=>simp at h1
   | cons x l =>
    obtain ⟨e',he,hk⟩:=h2 0 x rfl
    simp at he
    subst he
    have hn:Instr.findNow d (kv a) (e::ents) 0 = .none:=by simp [Instr.findNow,hk,hs]
    simp [Instr.findKey,hd,hn,(a1n hK.eq a (x::l) (e::ents) 0 h1 h2).1 h3]
 some a l ents h1 h2 i e h3 h4 h5 w:=by
  obtain ⟨d,hd,hs⟩:=hK.now
  cases ents with
  | nil=>simp at h5
  | cons e0 ents =>
   cases l with
   | nil=>simp at h1
   | cons x l =>
    obtain ⟨e',he,hk⟩:=h2 0 x rfl
    simp at he
    subst he
    have hn:Instr.findNow d (kv a) (e0::ents) 0 = .none:=by simp [Instr.findNow,hk,hs]
    have:=(a1n hK.eq a (x::l) (e0::ents) 0 h1 h2).2 i e h3 h4 h5 w
    simp [Instr.findKey,hd,hn,this]
end
theorem b3O {P:Program} {kt:TypeId} (k:IntKind) (hu:∀ w,(underlying kt).run P w = .ok (.int k) w):I6 (α:=Int) P kt (fun a=>.val (.int k a)) (fun a=>.int k a) :=
 a3A (fun _ _ _ _ h=>n8 h) (fun _ _ _=>.val _) hu (fun a b=>by simp [Instr.sameNow]; rfl)
  (fun b a w=>by
   have:∀ n,(Instr.checkKey b (n+1) kt (.int k a)).run P w = .ok () w:=fun n=>by simp [Instr.checkKey,hu]
   exact this 9999)
  (fun a=>by
   have:∀ n,Instr.sameBits (n+1) (.int k a) (.int k a)=true:=fun n=>by simp [Instr.sameBits]
   exact this 9999)
theorem a7n (a b:Str):(str a == str b)=decide (a=b):=by
 have h:(str a == str b)=((str a).data == (str b).data):=rfl
 rw [h]
 by_cases e:a=b
 ·subst e; simp
 ·have:¬ (str a).data=(str b).data:=fun h'=>e (by simpa [str] using h')
  simp [e,this]
theorem b8u {P:Program} {kt:TypeId} (hu:∀ w,(underlying kt).run P w = .ok .string w):I6 (α:=Str) P kt sv (fun a=>.string (str a)) :=
 a3A (fun _ _ _ _ h=>n8 h) (fun _ _ _=>.val _) hu (fun a b=>by
  simp only [Instr.sameNow]
  rw [a7n])
  (fun b a w=>by
   have:∀ n,(Instr.checkKey b (n+1) kt (.string (str a))).run P w = .ok () w:=fun n=>by simp [Instr.checkKey,hu]
   exact this 9999)
  (fun a=>by
   have:∀ n,Instr.sameBits (n+1) (.string (str a)) (.string (str a))=true:=fun n=>by simp [Instr.sameBits,a7n]
   exact this 9999)
def gm {α β:Type} (kc:α→CV) (vc:β→CV) (l:List (α × β)):List (CV × CV):=l.map fun x=>(kc x.1,vc x.2)
def glk {α β:Type} [DecidableEq α]:List (α × β)→α→Option β
 | [],_=>none
 | (b,c)::l,a=>if a=b then some c else glk l a
def P4 {α β:Type} [DecidableEq α]:List (α × β)→α→β→List (α × β)
 | [],a,c=>[(a,c)]
 | (b,d)::l,a,c=>if a=b then (b,c)::l else (b,d)::P4 l a c
theorem a7v {α:Type} [DecidableEq α] (l:List (α × Int)) (a:α):((glk l a).map fun v:Int=>CV.val (.int .i64 v)).getD (C3 (.int .i64 0)) = .val (.int .i64 ((glk l a).getD 0)):=by cases glk l a <;> rfl
theorem a9k {α β:Type} [DecidableEq α] {l:List (α × β)} {a:α}:glk l a=none↔a∉l.map (·.1):=by
 induction l with
 | nil=>simp [glk]
 | cons x l ih =>
  obtain ⟨b,c⟩:=x
  by_cases h:a=b
  ·simp [glk,h]
  ·simp [glk,h,ih]
theorem a5i {α β:Type} [DecidableEq α]:∀ {l:List (α × β)} {a:α} {c:β},glk l a=some c→∃ i:Nat,l[i]? = some (a,c)∧∀ j,j < i→(l.map (·.1))[j]?≠some a
 | [],_,_,h=>by cases h
 | (b,d)::l,a,c,h=>by
  by_cases hab:a=b
  ·rw [glk,if_pos hab] at h
   injection h with h
   subst h hab
   exact ⟨0,rfl,fun j hj=>by omega⟩
  ·rw [glk,if_neg hab] at h
   obtain ⟨i,h1,h2⟩:=a5i h
   refine ⟨i+1,by simpa using h1,fun j hj=>?_⟩
   rcases j with _ | j
   ·simpa using fun e=>hab e.symm
   ·simpa using h2 j (by omega)
theorem b3g {α β:Type} [DecidableEq α] {l:List (α × β)} {a:α} {c:β} (h:glk l a=none):P4 l a c=l++[(a,c)]:=by
 induction l with
 | nil=>rfl
 | cons x l ih =>
  obtain ⟨b,d⟩:=x
  by_cases hab:a=b
  ·rw [glk,if_pos hab] at h; cases h
  ·rw [glk,if_neg hab] at h
   rw [P4,if_neg hab,ih h]; rfl
theorem a6L {α β:Type} [DecidableEq α] {c d:β} {a:α}:∀ {l:List (α × β)} {i:Nat},l[i]? = some (a,d)→(∀ j,j < i→(l.map (·.1))[j]?≠some a)→P4 l a c=l.set i (a,c)
 | [],i,h,_=>by simp at h
 | (b,e)::l,i,h,hm=>by
  rcases i with _ | i
  ·simp at h
   rw [P4,if_pos h.1.symm,h.1]; rfl
  ·have hab:¬ a=b:=fun e=>hm 0 (by omega) (by simp [e])
   rw [P4,if_neg hab,a6L (by simpa using h) (fun j hj=>by simpa using hm (j+1) (by omega))]
   rfl
theorem O4 {α β:Type} [DecidableEq α] (l:List (α × β)) (a b:α) (c:β):glk (P4 l a c) b=if b=a then some c else glk l b:=by
 induction l with
 | nil=>rfl
 | cons x l ih =>
  obtain ⟨k,d⟩:=x
  by_cases hak:a=k
  ·subst hak
   rw [P4,if_pos rfl,glk,glk]
   by_cases h:b=a <;> simp [h]
  ·rw [P4,if_neg hak,glk,glk,ih]
   by_cases h:b=k
   ·subst h
    rw [if_pos rfl,if_pos rfl,if_neg (fun e=>hak e.symm)]
   ·rw [if_neg h,if_neg h]
section
variable {C:Ctx} {σ:List c5} {E:Env} {o:Oper} {α β:Type} [DecidableEq α] {kt:TypeId} {kc:α→CV} {kv:α→Value} {vc:β→CV}
theorem b5L (hK:I6 C.P kt kc kv) {M:l3} {w:World} {p:Pl} {l:List (α × β)} (h:G0 M w p (.map (gm kc vc l))) :
 ∃ ents clock,w.heap[p.block]? = some (.map ents clock)∧(ents.size=l.length∧a4l ents)∧(∀ (i:Nat) (x:α),(l.map (·.1))[i]? = some x→∃ e,ents.toList[i]? = some e∧e.key=kv x)∧∀ (i:Nat) (x:α × β),l[i]? = some x→∃ e,ents[i]? = some e∧e.key=kv x.1∧RV M w (vc x.2) e.val∧e.born < clock:=by
 obtain ⟨ents,clock,h1,h2,h3⟩:=h
 have key:∀ (i:Nat) (x:α × β),l[i]? = some x→∃ e,ents[i]? = some e∧e.key=kv x.1∧RV M w (vc x.2) e.val∧e.born < clock:=fun i x hi=>by
  obtain ⟨e,he,hk,hv,hb⟩:=h3 i (kc x.1,vc x.2) (by simp [gm,hi])
  exact ⟨e,he,hK.rv _ _ _ _ hk,hv,hb⟩
 refine ⟨ents,clock,h1,⟨by simpa [gm] using h2.1,h2.2⟩,fun i x hi=>?_,key⟩
 rw [List.getElem?_map,Option.map_eq_some_iff] at hi
 obtain ⟨y,hy,rfl⟩:=hi
 obtain ⟨e,he,hk,_⟩:=key i y hy
 exact ⟨e,by simpa using he,hk⟩
theorem a2u (hK:I6 C.P kt kc kv) {t et:TypeId} {M:l3} {w:World} {p:Pl} {l:List (α × β)} {a:α} {z:Value} {ok:Bool} (h:G0 M w p (.map (gm kc vc l))) (hu:∀ w,(underlying t).run C.P w = .ok (.map kt et) w) (hz:∀ w,(zeroValue et).run C.P w = .ok z w) :
 match glk l a with
 | none=>(Instr.lookup t (.map (some p.block)) (kv a) ok).run C.P w = .ok (if ok=true then .tuple #[z,.bool false] else z) w
 | some c=>∃ v,RV M w (vc c) v∧(Instr.lookup t (.map (some p.block)) (kv a) ok).run C.P w = .ok (if ok=true then .tuple #[v,.bool true] else v) w:=by
 obtain ⟨ents,clock,g1,g2,g3,g4⟩:=b5L hK h
 have hlen:ents.toList.length=(l.map (·.1)).length:=by simpa using g2.1
 cases hlk:glk l a with
 | none =>
  have hf:=hK.none a (l.map (·.1)) ents.toList hlen g3 (a9k.1 hlk) w
  cases ok <;> simp [Instr.lookup,hu,D9 g1,hK.check,hf,hz]
 | some c =>
  obtain ⟨i,h1,h2⟩:=a5i hlk
  obtain ⟨e,e1,_,e3,_⟩:=g4 i (a,c) h1
  have hf:=hK.some a (l.map (·.1)) ents.toList hlen g3 i e (by simp [h1]) h2 (by simpa using e1) w
  exact ⟨e.val,e3,by cases ok <;> simp [Instr.lookup,hu,D9 g1,hK.check,hf]⟩
theorem H5 (hK:I6 C.P kt kc kv) {t et:TypeId} {m kx:Operand} {q:Nat} {l:List (α × β)} {a:α} {z:Value} {c:CV} (ho:o.op = .lookup t m kx false) (hm:E.valid m) (hk:E.valid kx) (em:E.val C m = .map q) (ek:E.val C kx=kc a)
 (hu:∀ w,(underlying t).run C.P w = .ok (.map kt et) w) (hz:∀ w,(zeroValue et).run C.P w = .ok z w) (hz1:E3 z=true) (hσ:σ[q]? = some (.map (gm kc vc l))) (hc:((glk l a).map vc).getD (C3 z)=c):m6 C σ E o c :=
 j7 fun M w ρ hr h=>by
  have h1:=h m (by simp [ho,Op.operands]) hm
  have h2:=h kx (by simp [ho,Op.operands]) hk
  rw [em] at h1
  rw [ek] at h2
  have h2':=hK.rv _ _ _ _ h2
  generalize hv:ρ m=v at h1
  cases h1 with
  | map hp =>
   rename_i p
   have hl:=a2u hK (t:=t) (a:=a) (ok:=false) (hr.obj q p _ hp hσ).1 hu hz
   subst hc
   cases hlk:glk l a with
   | none =>
    rw [hlk] at hl
    exact ⟨z,by simp [execOp,ho,hv,h2',hl],O8 hz1⟩
   | some c =>
    rw [hlk] at hl
    obtain ⟨u,f1,f2⟩:=hl
    exact ⟨u,by simp [execOp,ho,hv,h2',f2],f1⟩
theorem a0I (hK:I6 C.P kt kc kv) {t et:TypeId} {m kx:Operand} {q:Nat} {l:List (α × β)} {a:α} {z:Value} {c:CV} (ho:o.op = .lookup t m kx true) (hm:E.valid m) (hk:E.valid kx) (em:E.val C m = .map q) (ek:E.val C kx=kc a)
 (hu:∀ w,(underlying t).run C.P w = .ok (.map kt et) w) (hz:∀ w,(zeroValue et).run C.P w = .ok z w) (hz1:E3 z=true) (hσ:σ[q]? = some (.map (gm kc vc l))) (hc:((glk l a).map vc).getD (C3 z)=c):m6 C σ E o (.tup [c,.val (.bool (glk l a).isSome)]) :=
 j7 fun M w ρ hr h=>by
  have h1:=h m (by simp [ho,Op.operands]) hm
  have h2:=h kx (by simp [ho,Op.operands]) hk
  rw [em] at h1
  rw [ek] at h2
  have h2':=hK.rv _ _ _ _ h2
  have tup:∀ {c:CV} {v:Value} {b:Bool},RV M w c v→RV M w (.tup [c,.val (.bool b)]) (.tuple #[v,.bool b]):=fun {c v b} hcv=>.tup rfl fun i x hi=>by
   rcases i with _ | _ | i
   ·simp at hi; subst hi; exact hcv
   ·simp at hi; subst hi; exact .val _
   ·simp at hi
  generalize hv:ρ m=v at h1
  cases h1 with
  | map hp =>
   rename_i p
   have hl:=a2u hK (t:=t) (a:=a) (ok:=true) (hr.obj q p _ hp hσ).1 hu hz
   subst hc
   cases hlk:glk l a with
   | none =>
    rw [hlk] at hl
    exact ⟨.tuple #[z,.bool false],by simp [execOp,ho,hv,h2',hl],tup (O8 hz1)⟩
   | some c =>
    rw [hlk] at hl
    obtain ⟨u,f1,f2⟩:=hl
    exact ⟨.tuple #[u,.bool true],by simp [execOp,ho,hv,h2',f2],tup f1⟩
theorem a5T (hK:I6 C.P kt kc kv) {t et:TypeId} {q:Nat} {p:Pl} {l:List (α × β)} {a:α} {b:β} {M:l3} {w:World} {v:Value} (hr:Rel C M σ w) (hp:M.pl[q]? = some p) (hσ:σ[q]? = some (.map (gm kc vc l))) (hv:RV M w (vc b) v)
 (hu:∀ w,(underlying t).run C.P w = .ok (.map kt et) w):∃ w',(Instr.mapUpdate t (.map (some p.block)) (kv a) v).run C.P w = .ok () w'∧Ext M w M w'∧Rel C M (σ.set q (.map (gm kc vc (P4 l a b)))) w':=by
 obtain ⟨ents,clock,g1,g2,g3,g4⟩:=b5L hK (hr.obj q p _ hp hσ).1
 have hlen:ents.toList.length=(l.map (·.1)).length:=by simpa using g2.1
 have hall:∀ (i:Nat) (e:MapEntry),ents[i]? = some e→e.born < clock:=fun i e he=>by
  have hlt:i < l.length:=by rw [← g2.1]; exact (Array.getElem?_eq_some_iff.1 he).1
  obtain ⟨e',h1,_,_,h4⟩:=g4 i l[i] (by simp [hlt])
  rw [he] at h1
  injection h1 with h1
  rw [h1]; exact h4
 cases hlk:glk l a with
 | none =>
  have hf:=hK.none a (l.map (·.1)) ents.toList hlen g3 (a9k.1 hlk) w
  refine ⟨World.putObj w p.block (.map (ents.push { key:=kv a,val:=v,born:=clock}) (clock+1)),by simp [Instr.mapUpdate,hu,D9 g1,hK.check,hf,a06 _ g1],?_⟩
  rw [b3g hlk]
  exact hr.setObj (es':=gm kc vc (l++[(a,b)])) hp hσ (by simp [gm,g2.1]) (g2.2.push hall rfl) (fun i x hi=>by
   obtain ⟨y,hy,rfl⟩:∃ y,(l++[(a,b)])[i]? = some y∧(kc y.1,vc y.2)=x:=by unfold gm at hi; rwa [List.getElem?_map,Option.map_eq_some_iff] at hi
   rw [List.getElem?_append] at hy
   split at hy
   ·obtain ⟨e,q1,q2,q3,q4⟩:=g4 i y hy
    have hlt:i < ents.size:=(Array.getElem?_eq_some_iff.1 q1).1
    exact ⟨e,by rw [Array.getElem?_push,if_neg (by omega)]; exact q1,by rw [q2]; exact hK.rv' _ _ _,q3,by omega⟩
   ·rename_i hge
    have hlt:=(List.getElem?_eq_some_iff.1 hy).1
    simp at hlt
    have hi0:i=l.length:=by omega
    subst hi0
    simp at hy
    subst hy
    exact ⟨_,by rw [Array.getElem?_push,if_pos (by omega)],hK.rv' _ _ _,hv,by simp⟩)
 | some c =>
  obtain ⟨i,h1,h2⟩:=a5i hlk
  obtain ⟨e,e1,e2,e3,e4⟩:=g4 i (a,c) h1
  have hf:=hK.some a (l.map (·.1)) ents.toList hlen g3 i e (by simp [h1]) h2 (by simpa using e1) w
  refine ⟨World.putObj w p.block (.map (ents.modify i fun e=>{ e with key:=kv a,val:=v}) clock),by simp [Instr.mapUpdate,hu,D9 g1,hK.check,hf,a06 _ g1,Instr.keyThatStays,e1,e2,hK.bits],?_⟩
  rw [a6L h1 h2]
  exact hr.setObj (es':=gm kc vc (l.set i (a,b))) hp hσ (by simp [gm,g2.1]) (g2.2.modify fun _=>rfl) (fun j x hj=>by
   obtain ⟨y,hy,rfl⟩:∃ y,(l.set i (a,b))[j]? = some y∧(kc y.1,vc y.2)=x:=by unfold gm at hj; rwa [List.getElem?_map,Option.map_eq_some_iff] at hj
   rw [List.getElem?_set] at hy
   split at hy
   ·rename_i hij
    subst hij
    split at hy
    ·injection hy with hy
     subst hy
     exact ⟨{ e with key:=kv a,val:=v},by rw [Array.getElem?_modify,if_pos rfl,e1]; rfl,hK.rv' _ _ _,hv,e4⟩
    ·cases hy
   ·rename_i hij
    obtain ⟨e',q1,q2,q3,q4⟩:=g4 j y hy
    exact ⟨e',by rw [Array.getElem?_modify,if_neg hij]; exact q1,by rw [q2]; exact hK.rv' _ _ _,q3,q4⟩)
theorem l8 (hK:I6 C.P kt kc kv) {t et:TypeId} {m kx vx:Operand} {q:Nat} {l:List (α × β)} {a:α} {b:β} {K:v7→List c5→Prop} (ho:o.op = .mapUpdate t m kx vx∨o.op = .insert t m kx vx) (hm:E.valid m) (hk:E.valid kx) (hv:E.valid vx) (em:E.val C m = .map q) (ek:E.val C kx=kc a) (ev:E.val C vx=vc b)
 (hu:∀ w,(underlying t).run C.P w = .ok (.map kt et) w) (hσ:σ[q]? = some (.map (gm kc vc l))) (hQ:K (.ret (.val undef)) (σ.set q (.map (gm kc vc (P4 l a b))))):C2 C σ E o K:=fun M w ρ hr h=>by
 have hops:m∈o.op.operands∧kx∈o.op.operands∧vx∈o.op.operands:=by rcases ho with ho | ho <;> simp [ho,Op.operands]
 have h1:=h m hops.1 hm
 have h2:=h kx hops.2.1 hk
 have h3:=h vx hops.2.2 hv
 rw [em] at h1
 rw [ek] at h2
 rw [ev] at h3
 have h2':=hK.rv _ _ _ _ h2
 generalize hum:ρ m=um at h1
 cases h1 with
 | map hp =>
  rename_i p
  obtain ⟨w',hrun,hx,hr'⟩:=a5T hK (a:=a) (b:=b) hr hp hσ h3 hu
  have hex:(execOp ρ o).run C.P w = .ok .skip w':=by
   rcases ho with ho | ho <;> simp [execOp,ho,hum,h2',hrun]
  rw [hex]
  exact ⟨.val undef,_,M,hx,hr',.val _,hQ⟩
end
end Go.Cl
namespace Go.Cl
theorem a7G (w:World) (arr:Array Value) (e:TypeId) (n:Nat):(w.alloc (.cells arr e)).freeze ⟨w.heap.size,n,none⟩ 1=w.alloc (.cells arr e (n,n+1)):=by
 unfold World.freeze World.alloc
 rw [if_neg (by omega)]
 congr 1
 apply Array.ext
 ·simp
 ·intro i h1 h2
  simp at h1 h2
  rw [Array.getElem_modify]
  by_cases hi:w.heap.size=i
  ·subst hi
   simp
  ·rw [if_neg hi]
   rw [Array.getElem_push_lt (by omega),Array.getElem_push_lt (by omega)]
section
variable {C:Ctx} {σ:List c5} {E:Env} {o:Oper}
theorem b7R {src dst e:TypeId} {x:Operand} {l:Str} (ho:o.op = .convert src dst x) (hx:E.valid x) (ex:E.val C x=sv l) (hs:∀ w,(underlying src).run C.P w = .ok .string w) (hd:∀ w,(underlying dst).run C.P w = .ok (.slice e) w) (he:∀ w,(underlying e).run C.P w = .ok (.int .u8) w) (hl:l.length≤1000000000000):m6 C σ E o (.list (l.map bcv) true none):=fun M w ρ hr h=>by
 have h1:=h x (by simp [ho,Op.operands]) hx
 rw [ex] at h1
 have hv:=n8 h1
 obtain ⟨hrd,hxd⟩:=hr.drew
 obtain ⟨c,hc1,hc2,hch⟩:∃ c,l.length≤c∧c≤9223372036854775807∧(choose (.appendCap l.length 0 e)).run C.P w = .ok c w.drew:=by
  refine ⟨(Question.appendCap l.length 0 e).cut (w.tape w.drawn (.appendCap l.length 0 e)),by simp [Question.cut],?_,a5b rfl⟩
  simp only [Question.cut]
  have:w.tape w.drawn (.appendCap l.length 0 e)%(2^63 - l.length) < 2^63 - l.length:=Nat.mod_lt _ (by omega)
  omega
 generalize hA:(((str l).data.map fun b:UInt8=>Value.int .u8 (b.toNat:Int))++Array.replicate (c - l.length) (Value.int .u8 0))=A
 have hAs:A.size=c:=by
  rw [← hA]
  simp [str]; omega
 have hrun:(execOp ρ o).run C.P w = .ok (.value (.slice (some ⟨w.heap.size,0,none⟩) l.length c)) (w.drew.alloc (.cells A e (c,c+1))):=by
  have hsh:((w.drew.alloc (.cells A e)).shape? w.heap.size)=some (e,c):=by
   have:=s9 w.drew (.cells A e)
   simp only [World.shape?]
   rw [show w.heap.size=w.drew.heap.size from rfl,this]
   simp [hAs]
  have hm:(markStringish ⟨w.heap.size,0,none⟩).run C.P (w.drew.alloc (.cells A e)) = .ok () (w.drew.alloc (.cells A e (c,c+1))):=by
   have:=a7G w.drew A e c
   simp only [markStringish,shape,freeze,Sem.run_bind]
   simp only [Sem.run,hsh,Result.andThen_ok]
   rw [show w.heap.size=w.drew.heap.size from rfl,this]
  simp only [execOp,ho,hv,convert,Sem.run_bind,hs,hd,Result.andThen_ok,he,Conv.stringToBytes,a1c,hch,newRow,hA]
  simp only [newObj,Sem.run,Result.andThen_ok]
  rw [show (w.drew.heap.size)=w.heap.size from rfl]
  simp only [Sem.run_pure,Result.andThen_ok]
  have e0:({ heap:=w.drew.heap.push (.cells A e),tape:=w.drew.tape,drawn:=w.drew.drawn,os:=w.drew.os,output:=w.drew.output}:World)=w.drew.alloc (.cells A e):=rfl
  rw [e0,hm]
  simp only [Sem.run_pure,Result.andThen_ok]
 rw [hrun]
 obtain ⟨hx2,hr2⟩:=hrd.allocFull (.cells A e (c,c+1))
 have hget:∀ (i:Nat) (b:UInt8),l[i]? = some b→A[i]? = some (.int .u8 b.toNat):=fun i b hb=>by
  have hlt:=(List.getElem?_eq_some_iff.1 hb).1
  rw [← hA,Array.getElem?_append_left (by simp [str]; exact hlt)]
  simp [str,hb]
 have hlist:RV (M.settle w.drew.heap.size) (w.drew.alloc (.cells A e (c,c+1))) (.list (l.map bcv) true none) (.slice (some ⟨w.drew.heap.size,0,none⟩) (l.map bcv).length c):=by
  refine .list (b:=w.drew.heap.size) (off:=0) (s:=1) (fun i _=>A.getD i undef) (by simpa using hc1) (by unfold maxLen; omega) rfl (fun h=>by cases h) (fun _=>rfl) (fun r hr=>?_) (fun r hr c hc=>?_) (fun i j r c' hi hj=>?_) (fun i j r c' hi hj=>?_) (fun k hk=>by cases hk)
  ·obtain ⟨b,_,rfl⟩:=List.mem_map.1 hr; rfl
  ·obtain ⟨b,_,rfl⟩:=List.mem_map.1 hr
   simp [bcv] at hc
   subst hc; rfl
  ·rw [List.getElem?_map,Option.map_eq_some_iff] at hi
   obtain ⟨b,hb,rfl⟩:=hi
   have hj0:j=0:=by
    have:=(List.getElem?_eq_some_iff.1 hj).1
    simp [bcv] at this; exact this
   subst hj0
   refine ⟨.inl (.inr rfl),?_⟩
   simp only [World.cell?,s9]
   have:=hget i b hb
   simp [this]
  ·rw [List.getElem?_map,Option.map_eq_some_iff] at hi
   obtain ⟨b,hb,rfl⟩:=hi
   have hj0:j=0:=by
    have:=(List.getElem?_eq_some_iff.1 hj).1
    simp [bcv] at this; exact this
   subst hj0
   simp [bcv] at hj
   subst hj
   have:=hget i b hb
   rw [Array.getD_eq_getD_getElem?,this]
   exact .val _
 rw [List.length_map] at hlist
 exact ⟨_,σ,_,hxd.trans hx2,hr2,hlist,rfl,rfl⟩
theorem a1E {t:TypeId} {x:Operand} {f:Nat} {fs:Array Field} {fd:Field} {cells:List CV} {c:CV} (ho:o.op = .field t x f) (hx:E.valid x) (ex:E.val C x = .agg cells) (hu:∀ w,(underlying t).run C.P w = .ok (.struct fs) w) (hf:fs[f]? = some fd) (ha:∀ w,(isAgg fd.type).run C.P w = .ok false w) (hc:cells[fd.offset]? = some c):m6 C σ E o c :=
 j7 fun M w ρ hr h=>by
  have h1:=h x (by simp [ho,Op.operands]) hx
  rw [ex] at h1
  generalize hv:ρ x=v at h1
  cases h1 with
  | agg g1 g2 g3 =>
   rename_i vs
   have hlt:fd.offset < vs.size:=by rw [g1]; exact (List.getElem?_eq_some_iff.1 hc).1
   refine ⟨vs.getD fd.offset undef,?_,g3 _ _ hc⟩
   simp [execOp,ho,hv,Instr.field,hu,hf,part,ha,asAgg,hlt]
theorem b65 {x:Operand} {c:CV} {K:v7→List c5→Prop} (ho:o.op = .panic x) (hx:E.valid x) (ex:E.val C x=c) (hn:∀ M w v,RV M w c v→∃ t u,v = .iface t u) (hk:K (.pan c) σ):C2 C σ E o K:=fun M w ρ hr h=>by
 have h1:=h x (by simp [ho,Op.operands]) hx
 rw [ex] at h1
 obtain ⟨t,u,hv⟩:=hn M w _ h1
 have hrun:(execOp ρ o).run C.P w = .halt (.panic (ρ x)) w:=by
  simp [execOp,ho,hv,Instr.panic]
 rw [hrun]
 exact ⟨c,ρ x,σ,M,rfl,Ext.refl M w,hr,h1,hk⟩
end
end Go.Cl
namespace Go.Cl
inductive H3 (R:Nat→Nat→Prop):CV→CV→Prop where
 | val (v:Value):H3 R (.val v) (.val v)
 | agg {cs cs':List CV}:cs.length=cs'.length→(∀ (i:Nat) (c c':CV),cs[i]? = some c→cs'[i]? = some c'→H3 R c c')→H3 R (.agg cs) (.agg cs')
 | tup {cs cs':List CV}:cs.length=cs'.length→(∀ (i:Nat) (c c':CV),cs[i]? = some c→cs'[i]? = some c'→H3 R c c')→H3 R (.tup cs) (.tup cs')
 | clo {f:FuncId} {cs cs':List CV}:cs.length=cs'.length→(∀ (i:Nat) (c c':CV),cs[i]? = some c→cs'[i]? = some c'→H3 R c c')→H3 R (.clo f cs) (.clo f cs')
 | list {rows rows':List (List CV)} {nn:Bool} {tok tok':Option Nat}:rows.length=rows'.length→(∀ (i:Nat) (r r':List CV),rows[i]? = some r→rows'[i]? = some r'→r.length=r'.length) →
  (∀ (i j:Nat) (r r':List CV) (c c':CV),rows[i]? = some r→rows'[i]? = some r'→r[j]? = some c→r'[j]? = some c'→H3 R c c')→((tok=none∧tok'=none)∨∃ k k',tok=some k∧tok'=some k'∧R k k')→H3 R (.list rows nn tok) (.list rows' nn tok')
 | ptr {k k' off:Nat}:R k k'→H3 R (.ptr k off) (.ptr k' off)
 | cptr {cells cells':List CV}:cells.length=cells'.length→(∀ (i:Nat) (c c':CV),cells[i]? = some c→cells'[i]? = some c'→H3 R c c')→H3 R (.cptr cells) (.cptr cells')
 | eptr {k k' i off:Nat}:R k k'→H3 R (.eptr k i off) (.eptr k' i off)
 | vec {k k' off len:Nat}:R k k'→H3 R (.vec k off len) (.vec k' off len)
 | map {k k':Nat}:R k k'→H3 R (.map k) (.map k')
theorem H3.one {R:Nat→Nat→Prop} {c c':CV} (h:H3 R c c'):c'.one=c.one:=by cases h <;> rfl
theorem H3.symm {R R':Nat→Nat→Prop} (hR:∀ k k',R k k'→R' k' k) {c c':CV} (h:H3 R c c'):H3 R' c' c:=by
 induction h with
 | val v=>exact .val v
 | agg h1 _ ih=>exact .agg h1.symm fun i c c' h h'=>ih i c' c h' h
 | tup h1 _ ih=>exact .tup h1.symm fun i c c' h h'=>ih i c' c h' h
 | clo h1 _ ih=>exact .clo h1.symm fun i c c' h h'=>ih i c' c h' h
 | list h1 h2 _ h4 ih=>exact .list h1.symm (fun i r r' h h'=>(h2 i r' r h' h).symm) (fun i j r r' c c' a b d e=>ih i j r' r c' c b a e d) (h4.imp (fun ⟨a,b⟩=>⟨b,a⟩) fun ⟨k,k',a,b,d⟩=>⟨k',k,b,a,hR _ _ d⟩)
 | ptr h=>exact .ptr (hR _ _ h)
 | cptr h1 _ ih=>exact .cptr h1.symm fun i c c' h h'=>ih i c' c h' h
 | eptr h=>exact .eptr (hR _ _ h)
 | vec h=>exact .vec (hR _ _ h)
 | map h=>exact .map (hR _ _ h)
theorem H3.pure {R:Nat→Nat→Prop} {c:CV} (h:p5 c):H3 R c c:=by
 induction h with
 | val v=>exact .val v
 | agg _ ih =>
  refine .agg rfl fun i c c' h h'=>?_
  rw [h] at h'; injection h' with h'; subst h'
  exact ih c (List.mem_of_getElem? h)
 | tup _ ih =>
  refine .tup rfl fun i c c' h h'=>?_
  rw [h] at h'; injection h' with h'; subst h'
  exact ih c (List.mem_of_getElem? h)
 | clo _ ih =>
  refine .clo rfl fun i c c' h h'=>?_
  rw [h] at h'; injection h' with h'; subst h'
  exact ih c (List.mem_of_getElem? h)
 | list _ ih =>
  refine .list rfl (fun i r r' h h'=>?_) (fun i j r r' c c' h h' g g'=>?_) (.inl ⟨rfl,rfl⟩)
  ·rw [h] at h'; injection h' with h'; subst h'; rfl
  ·rw [h] at h'; injection h' with h'; subst h'
   rw [g] at g'; injection g' with g'; subst g'
   exact ih r (List.mem_of_getElem? h) c (List.mem_of_getElem? g)
theorem RV.renR {R:Nat→Nat→Prop} {M M':l3} {w:World} (hR:∀ (k k':Nat) (p:Pl),R k k'→M.pl[k]? = some p→M'.pl[k']? = some p) (hat:∀ b o,M.at b o→M'.at b o) {c:CV} {v:Value} (h:RV M w c v):∀ {c':CV},H3 R c c'→RV M' w c' v:=by
 induction h with
 | val v=>intro c' hr; cases hr; exact .val v
 | agg h1 h2 _ ih =>
  intro c' hr
  cases hr with
  | agg e1 e2 =>
   refine .agg (by rw [h1,e1]) (fun c hc=>?_) fun i c hi=>?_
   ·obtain ⟨i,hi⟩:=List.mem_iff_getElem?.1 hc
    obtain ⟨y,hy⟩:=o0 e1 hi
    rw [(e2 i y c hy hi).one]
    exact h2 y (List.mem_of_getElem? hy)
   ·obtain ⟨y,hy⟩:=o0 e1 hi
    exact ih i y hy (e2 i y c hy hi)
 | tup h1 _ ih =>
  intro c' hr
  cases hr with
  | tup e1 e2 =>
   refine .tup (by rw [h1,e1]) fun i c hi=>?_
   obtain ⟨y,hy⟩:=o0 e1 hi
   exact ih i y hy (e2 i y c hy hi)
 | clo h1 _ ih =>
  intro c' hr
  cases hr with
  | clo e1 e2 =>
   refine .clo (by rw [h1,e1]) fun i c hi=>?_
   obtain ⟨y,hy⟩:=o0 e1 hi
   exact ih i y hy (e2 i y c hy hi)
 | @list rows nn tok a cap b off s vals h1 h2 h3 h4 h5 h6 h7 h8 _ h10 ih =>
  intro c' hr
  cases hr with
  | @list _ rows' _ _ tok' e1 e2 e3 e4 =>
   have hne:rows'≠[]→rows≠[]:=fun hn h0=>by
    rw [h0] at e1
    exact hn (List.eq_nil_of_length_eq_zero e1.symm)
   have hrow:∀ {i:Nat} {r':List CV},rows'[i]? = some r'→∃ r,rows[i]? = some r:=fun hi=>o0 e1 hi
   rw [e1]
   refine .list (s:=s) vals (by rw [← e1]; exact h1) h2 h3 h4 (fun hn=>h5 (hne hn)) (fun r' hr'=>?_) (fun r' hr' c' hc'=>?_) (fun i j r' c' hi hj=>?_) (fun i j r' c' hi hj=>?_) (fun k hk=>?_)
   ·obtain ⟨i,hi⟩:=List.mem_iff_getElem?.1 hr'
    obtain ⟨r,hr⟩:=hrow hi
    rw [← e2 i r r' hr hi]
    exact h6 r (List.mem_of_getElem? hr)
   ·obtain ⟨i,hi⟩:=List.mem_iff_getElem?.1 hr'
    obtain ⟨r,hr⟩:=hrow hi
    obtain ⟨j,hj⟩:=List.mem_iff_getElem?.1 hc'
    obtain ⟨c,hc⟩:=o0 (e2 i r r' hr hi) hj
    rw [(e3 i j r r' c c' hr hi hc hj).one]
    exact h7 r (List.mem_of_getElem? hr) c (List.mem_of_getElem? hc)
   ·obtain ⟨r,hr⟩:=hrow hi
    obtain ⟨c,hc⟩:=o0 (e2 i r r' hr hi) hj
    have:=h8 i j r c hr hc
    exact ⟨hat _ _ this.1,this.2⟩
   ·obtain ⟨r,hr⟩:=hrow hi
    obtain ⟨c,hc⟩:=o0 (e2 i r r' hr hi) hj
    exact ih i j r c hr hc (e3 i j r r' c c' hr hi hc hj)
   ·rcases e4 with ⟨_,e4⟩ | ⟨k0,k1,e5,e6,e7⟩
    ·rw [e4] at hk; cases hk
    ·rw [e6] at hk
     injection hk with hk
     subst hk
     obtain ⟨s',f1,f2,f3,f4⟩:=h10 k0 e5
     exact ⟨s',hR _ _ _ e7 f1,f2,f3,fun hn=>f4 (hne hn)⟩
 | ptr hk=>intro c' hr; cases hr with | ptr e=>exact .ptr (hR _ _ _ e hk)
 | cptr vals h1 h2 _ ih =>
  intro c' hr
  cases hr with
  | cptr e1 e2 =>
   refine .cptr vals (fun c hc=>?_) (fun j c hj=>?_) (fun j c hj=>?_)
   ·obtain ⟨i,hi⟩:=List.mem_iff_getElem?.1 hc
    obtain ⟨y,hy⟩:=o0 e1 hi
    rw [(e2 i y c hy hi).one]
    exact h1 y (List.mem_of_getElem? hy)
   ·obtain ⟨y,hy⟩:=o0 e1 hj
    exact ⟨hat _ _ (h2 j y hy).1,(h2 j y hy).2⟩
   ·obtain ⟨y,hy⟩:=o0 e1 hj
    exact ih j y hy (e2 j y c hy hj)
 | eptr hk=>intro c' hr; cases hr with | eptr e=>exact .eptr (hR _ _ _ e hk)
 | vec hk h1 h2 h3=>intro c' hr; cases hr with | vec e=>exact .vec (hR _ _ _ e hk) h1 h2 h3
 | map hk=>intro c' hr; cases hr with | map e=>exact .map (hR _ _ _ e hk)
def V1 (R:Nat→Nat→Prop) (l l':List CV):Prop:=l.length=l'.length∧∀ (i:Nat) (c c':CV),l[i]? = some c→l'[i]? = some c'→H3 R c c'
def b2J (R:Nat→Nat→Prop) (l l':List (CV × CV)):Prop:=l.length=l'.length∧∀ (i:Nat) (x x':CV × CV),l[i]? = some x→l'[i]? = some x'→H3 R x.1 x'.1∧H3 R x.2 x'.2
inductive B2 (R:Nat→Nat→Prop):c5→c5→Prop where
 | dead:B2 R .dead .dead
 | box {t0:Option TypeId} {l l':List CV}:V1 R l l'→B2 R (.boxT t0 l) (.boxT t0 l')
 | tip {t0:Option TypeId} (n:Nat):B2 R (.tipT t0 n) (.tipT t0 n)
 | vec {s:Nat} {rows rows':List (List CV)}:rows.length=rows'.length→(∀ (i:Nat) (r r':List CV),rows[i]? = some r→rows'[i]? = some r'→V1 R r r')→B2 R (.vec s rows) (.vec s rows')
 | map {es es':List (CV × CV)}:b2J R es es'→B2 R (.map es) (.map es')
 | iter {c c' l l':List (CV × CV)}:b2J R c c'→b2J R l l'→B2 R (.iter c l) (.iter c' l')
theorem B2.live {R:Nat→Nat→Prop} {a b:c5} (h:B2 R a b):b.live=a.live:=by cases h <;> rfl
theorem B2.symm {R R':Nat→Nat→Prop} (hR:∀ k k',R k k'→R' k' k) {a b:c5} (h:B2 R a b):B2 R' b a:=by
 have hl:∀ {l l':List CV},V1 R l l'→V1 R' l' l:=fun h=>⟨h.1.symm,fun i c c' g g'=>(h.2 i c' c g' g).symm hR⟩
 have he:∀ {l l':List (CV × CV)},b2J R l l'→b2J R' l' l:=fun h=>⟨h.1.symm,fun i c c' g g'=>⟨(h.2 i c' c g' g).1.symm hR,(h.2 i c' c g' g).2.symm hR⟩⟩
 cases h with
 | dead=>exact .dead
 | box h=>exact .box (hl h)
 | tip n=>exact .tip n
 | vec h1 h2=>exact .vec h1.symm fun i r r' g g'=>hl (h2 i r' r g' g)
 | map h=>exact .map (he h)
 | iter h1 h2=>exact .iter (he h1) (he h2)
theorem G0.renR {R:Nat→Nat→Prop} {M M':l3} {w:World} (hR:∀ (k k':Nat) (p:Pl),R k k'→M.pl[k]? = some p→M'.pl[k']? = some p) (hat:∀ b o,M.at b o→M'.at b o) (hfu:∀ b,M.full b→M'.full b) (hcl:∀ b o,M'.cell b o→M.cell b o) {p:Pl} {a b:c5} (h:G0 M w p a) (hr:B2 R a b):G0 M' w p b:=by
 cases hr with
 | dead=>trivial
 | box hl =>
  obtain ⟨arr,ty,e1,e2,e3,e4⟩:=h
  refine ⟨arr,ty,e1,by rw [e2,hl.1],fun c hc=>?_,fun i c hi=>?_⟩
  ·obtain ⟨i,hi⟩:=List.mem_iff_getElem?.1 hc
   obtain ⟨y,hy⟩:=o0 hl.1 hi
   rw [(hl.2 i y c hy hi).one]
   exact e3 y (List.mem_of_getElem? hy)
  ·obtain ⟨y,hy⟩:=o0 hl.1 hi
   exact (e4 i y hy).renR hR hat (hl.2 i y c hy hi)
 | tip n =>
  obtain ⟨e1,e2,e3,e4⟩:=h
  exact ⟨e1,e2,⟨fun o ho=>e3.1 o (hcl _ _ ho),e3.2⟩,e4⟩
 | vec h1 h2 =>
  obtain ⟨e0,e1,e2,e3,e4,arr,ty,e5,e6,e7⟩:=h
  refine ⟨e0,by rw [← h1]; exact e1,e2,fun r hr=>?_,fun r hr c hc=>?_,arr,ty,e5,e6,fun i j r c hi hj=>?_⟩
  ·obtain ⟨i,hi⟩:=List.mem_iff_getElem?.1 hr
   obtain ⟨y,hy⟩:=o0 h1 hi
   rw [← (h2 i y r hy hi).1]
   exact e3 y (List.mem_of_getElem? hy)
  ·obtain ⟨i,hi⟩:=List.mem_iff_getElem?.1 hr
   obtain ⟨y,hy⟩:=o0 h1 hi
   obtain ⟨j,hj⟩:=List.mem_iff_getElem?.1 hc
   obtain ⟨d,hd⟩:=o0 (h2 i y r hy hi).1 hj
   rw [((h2 i y r hy hi).2 j d c hd hj).one]
   exact e4 y (List.mem_of_getElem? hy) d (List.mem_of_getElem? hd)
  ·obtain ⟨y,hy⟩:=o0 h1 hi
   obtain ⟨d,hd⟩:=o0 (h2 i y r hy hi).1 hj
   exact (e7 i j y d hy hd).renR hR hat ((h2 i y r hy hi).2 j d c hd hj)
 | map he =>
  obtain ⟨ents,clock,e1,e2,e3⟩:=h
  refine ⟨ents,clock,e1,⟨by rw [e2.1,he.1],e2.2⟩,fun i x hi=>?_⟩
  obtain ⟨y,hy⟩:=o0 he.1 hi
  obtain ⟨e,g1,g2,g3,g4⟩:=e3 i y hy
  exact ⟨e,g1,g2.renR hR hat (he.2 i y x hy hi).1,g3.renR hR hat (he.2 i y x hy hi).2,g4⟩
 | iter hc hl =>
  obtain ⟨mb,seen,last,ents,clock,e1,e2,e3,e4,e5,e6,e7,e8,e9⟩:=h
  refine ⟨mb,seen,last,ents,clock,e1,hfu _ e2,e3,e4,e5,e6,by rw [e7,hl.1],fun i x hi=>?_,fun i x hi=>?_⟩
  ·obtain ⟨y,hy⟩:=o0 hl.1 hi
   obtain ⟨e,g1,g2,g3⟩:=e8 i y hy
   exact ⟨e,g1,g2.renR hR hat (hl.2 i y x hy hi).1,g3.renR hR hat (hl.2 i y x hy hi).2⟩
  ·obtain ⟨y,hy⟩:=o0 hc.1 hi
   obtain ⟨hla,j,e,g0,g1,g2,g3⟩:=e9 i y hy
   exact ⟨hla,j,e,g0,g1,g2.renR hR hat (hc.2 i y x hy hi).1,g3.renR hR hat (hc.2 i y x hy hi).2⟩
inductive a2h (R:Nat→Nat→Prop):v7→v7→Prop where
 | ret {c c':CV}:H3 R c c'→a2h R (.ret c) (.ret c')
 | pan {c c':CV}:H3 R c c'→a2h R (.pan c) (.pan c')
def O9 (sel:List Nat) (n:Nat) (i k:Nat):Prop:=sel[i]? = some k∨(sel.length≤i∧k=n+(i - sel.length))
theorem B4 {C:Ctx} {f:FuncId} {args args':List CV} {obs σ:List c5} (sel:List Nat) (hC:C.plain) (hlen:sel.length=obs.length) (hnd:∀ (i j k:Nat),sel[i]? = some k→sel[j]? = some k→i=j)
 (hobs:∀ (i k:Nat) (ob:c5),sel[i]? = some k→obs[i]? = some ob→∃ ob',σ[k]? = some ob'∧B2 (fun k i=>sel[i]? = some k) ob' ob) (hargs:V1 (fun k i=>sel[i]? = some k) args' args)
 {K:v7→List c5→Prop} {K':v7→List c5→Prop} (h:b8 C f args obs K)
 (hK:∀ r τ,K r τ→obs.length≤τ.length∧∃ r' τ',a2h (O9 sel σ.length) r r'∧τ'.length=σ.length+(τ.length - obs.length)∧(∀ k,k < σ.length→k∉sel→τ'[k]? = σ[k]?)∧(∀ (i k:Nat) (x:c5),O9 sel σ.length i k→τ[i]? = some x→∃ x',τ'[k]? = some x'∧B2 (O9 sel σ.length) x x')∧K' r' τ') :
 b8 C f args' σ K':=fun M w vs hr hn hx=>by
 have hselk:∀ {i k:Nat},sel[i]? = some k→∃ p ob,M.pl[k]? = some p∧obs[i]? = some ob∧k < σ.length:=fun {i k} hi=>by
  have hil:i < obs.length:=by rw [← hlen]; exact (List.getElem?_eq_some_iff.1 hi).1
  obtain ⟨ob',h1,_⟩:=hobs i k obs[i] hi (by simp [hil])
  have hk:k < σ.length:=(List.getElem?_eq_some_iff.1 h1).1
  exact ⟨M.pl[k]'(by rw [hr.len]; exact hk),obs[i],by simp,by simp [hil],hk⟩
 let LB:Nat→Prop:=fun b=>∃ (k:Nat) (p:Pl) (ob':c5),k∉sel∧M.pl[k]? = some p∧σ[k]? = some ob'∧ob'.live=true∧p.block=b
 let M0:l3:={ pl:=sel.map fun k=>(M.pl[k]?).getD ⟨0,0,0⟩,full:=M.full,cell:=M.cell,keep:=fun b=>M.keep b∨LB b}
 have hLB:∀ b,LB b→b < w.heap.size:=fun b ⟨k,p,ob',_,hp,hs,hl,hb⟩=>hb ▸ (hr.obj k p ob' hp hs).1.lt hl
 have h0:∀ {i:Nat} {p:Pl},M0.pl[i]? = some p→∃ k,sel[i]? = some k∧M.pl[k]? = some p:=fun {i p} hp=>by
  have hp:(sel.map fun k=>(M.pl[k]?).getD ⟨0,0,0⟩)[i]? = some p:=hp
  rw [List.getElem?_map,Option.map_eq_some_iff] at hp
  obtain ⟨k,hk,rfl⟩:=hp
  obtain ⟨p,_,g1,_,_⟩:=hselk hk
  exact ⟨k,hk,by rw [g1]; rfl⟩
 have h0':∀ (k i:Nat) (p:Pl),sel[i]? = some k→M.pl[k]? = some p→M0.pl[i]? = some p:=fun k i p hi hp=>by
  show (sel.map fun k=>(M.pl[k]?).getD ⟨0,0,0⟩)[i]? = some p
  rw [List.getElem?_map,hi,Option.map_some,hp]; rfl
 have hr0:Rel C M0 obs w:=⟨by simp [M0,hlen],hr.blk,fun i p ob hp hs=>(by
  obtain ⟨k,hk,hpk⟩:=h0 hp
  obtain ⟨ob',g1,g2⟩:=hobs i k ob hk hs
  obtain ⟨q1,q2⟩:=hr.obj k p ob' hpk g1
  refine ⟨q1.renR (M':=M0) h0' (fun b o h=>h) (fun b h=>h) (fun b o h=>h) g2,?_⟩
  cases g2 <;> first | trivial|exact q2),fun i i' p p' x x' hp hp' hs hs' hl hl' hb=>(by
  obtain ⟨k,hk,hpk⟩:=h0 hp
  obtain ⟨k',hk',hpk'⟩:=h0 hp'
  obtain ⟨y,g1,g2⟩:=hobs i k x hk hs
  obtain ⟨y',g1',g2'⟩:=hobs i' k' x' hk' hs'
  have:=hr.inj k k' p p' y y' hpk hpk' g1 g1' (by rw [← g2.live]; exact hl) (by rw [← g2'.live]; exact hl') hb
  subst this
  exact hnd i i' k hk hk'),fun g cells hg=>⟨(by
  have:=(hr.glob g cells hg).rv
  exact RV.renR (M:=M) (R:=fun _ _=>False) (M':=M0) (fun _ _ _ h=>h.elim) (fun b o h=>h) this (.cptr rfl fun i c c' h h'=>(by
   rw [h] at h'; injection h' with h'; subst h'
   exact .pure (hC g cells hg c (List.mem_of_getElem? h))))),(hr.glob g cells hg).full,(hr.glob g cells hg).sz⟩,
  fun b hb=>(by
   rcases hb with hb | hb
   ·exact hr.kep b hb
   ·exact hLB b hb),fun i p x hp hs hl hb=>(by
  obtain ⟨k,hk,hpk⟩:=h0 hp
  obtain ⟨y,g1,g2⟩:=hobs i k x hk hs
  have hyl:y.live=true:=by rw [← g2.live]; exact hl
  rcases hb with hb | ⟨k',p',ob',hk',hp',hs',hl',hb⟩
  ·exact hr.nk k p y hpk g1 hyl hb
  ·have:=hr.inj k' k p' p ob' y hp' hpk hs' g1 hl' hyl hb
   subst this
   exact hk' (List.mem_of_getElem? hk))⟩
 have fin:∀ (c:CV) (v:Value) (r:CV→v7) (hret:∀ c c' R,a2h R (r c) c'→∃ d,c'=r d∧H3 R c d) (τ:List c5) (M':l3) (w':World),Ext M0 w M' w'→Rel C M' τ w'→RV M' w' c v→K (r c) τ→∃ c' τ' M2,Ext M w M2 w'∧Rel C M2 τ' w'∧RV M2 w' c' v∧K' (r c') τ':=by
  intro c v r hret τ M' w' h1 h2 h3 h4
  obtain ⟨hle,r',τ',e1,e2,e3,e4,e5⟩:=hK _ _ h4
  obtain ⟨c',rfl,hrc⟩:=hret _ _ _ e1
  have hM0:∀ (k i:Nat) (p:Pl),sel[i]? = some k→M.pl[k]? = some p→M'.pl[i]? = some p:=fun k i p hi hp=>h1.get (h0' k i p hi hp)
  have hlen':M'.pl.length=τ.length:=h2.len
  let M2:l3:={ pl:=M.pl++M'.pl.drop obs.length,full:=M'.full,cell:=M'.cell,keep:=M.keep}
  have hA:∀ (i k:Nat) (p:Pl),O9 sel σ.length i k→M'.pl[i]? = some p→M2.pl[k]? = some p:=fun i k p ha hp=>by
   rcases ha with ha | ⟨ha,rfl⟩
   ·obtain ⟨p0,_,g1,_,g3⟩:=hselk ha
    have:=hM0 k i p0 ha g1
    rw [hp] at this
    injection this with this
    subst this
    show (M.pl++_)[k]? = _
    rw [List.getElem?_append_left (by rw [hr.len]; exact g3)]
    exact g1
   ·show (M.pl++M'.pl.drop obs.length)[σ.length+(i - sel.length)]? = _
    rw [List.getElem?_append_right (by rw [hr.len]; omega),List.getElem?_drop,hr.len]
    rw [show obs.length+(σ.length+(i - sel.length) - σ.length)=i by omega]
    exact hp
  have hB:∀ (k:Nat) (p:Pl) (x:c5),M2.pl[k]? = some p→τ'[k]? = some x→(k < σ.length∧k∉sel∧M.pl[k]? = some p∧σ[k]? = some x)∨∃ i y,O9 sel σ.length i k∧M'.pl[i]? = some p∧τ[i]? = some y∧B2 (O9 sel σ.length) y x:=fun k p x hp hs=>by
   by_cases hk:k < σ.length
   ·have hp':M.pl[k]? = some p:=by
     have hp:(M.pl++M'.pl.drop obs.length)[k]? = some p:=hp
     rwa [List.getElem?_append_left (by rw [hr.len]; exact hk)] at hp
    by_cases hks:k∈sel
    ·obtain ⟨i,hi⟩:=List.mem_iff_getElem?.1 hks
     have hil:i < τ.length:=by
      have:=(List.getElem?_eq_some_iff.1 hi).1
      omega
     obtain ⟨x',g1,g2⟩:=e4 i k τ[i] (.inl hi) (by simp [hil])
     rw [hs] at g1
     injection g1 with g1
     subst g1
     exact .inr ⟨i,τ[i],.inl hi,hM0 k i p hi hp',by simp [hil],g2⟩
    ·rw [e3 k hk hks] at hs
     exact .inl ⟨hk,hks,hp',hs⟩
   ·have hkl:=(List.getElem?_eq_some_iff.1 hs).1
    rw [e2] at hkl
    have hil:obs.length+(k - σ.length) < τ.length:=by omega
    have ha:O9 sel σ.length (obs.length+(k - σ.length)) k:=.inr ⟨by omega,by omega⟩
    obtain ⟨x',g1,g2⟩:=e4 (obs.length+(k - σ.length)) k τ[obs.length+(k - σ.length)] ha (by simp [hil])
    rw [hs] at g1
    injection g1 with g1
    subst g1
    have hp':M'.pl[obs.length+(k - σ.length)]? = some (M'.pl[obs.length+(k - σ.length)]'(by omega)):=by simp
    have:=hA _ _ _ ha hp'
    rw [hp] at this
    injection this with this
    exact .inr ⟨_,_,ha,by rw [hp',this],by simp [hil],g2⟩
  have hAinj:∀ (i i' k:Nat),O9 sel σ.length i k→O9 sel σ.length i' k→i=i':=fun i i' k ha ha'=>by
   rcases ha with ha | ⟨ha,e⟩ <;> rcases ha' with ha' | ⟨ha',e'⟩
   ·exact hnd i i' k ha ha'
   ·have:=(hselk ha).choose_spec.choose_spec.2.2; omega
   ·have:=(hselk ha').choose_spec.choose_spec.2.2; omega
   ·omega
  have hAfun:∀ (i k k':Nat),O9 sel σ.length i k→O9 sel σ.length i k'→k=k':=fun i k k' ha ha'=>by
   rcases ha with ha | ⟨ha,e⟩ <;> rcases ha' with ha' | ⟨ha',e'⟩
   ·rw [ha] at ha'; exact Option.some.inj ha'
   ·have:=(List.getElem?_eq_some_iff.1 ha).1; omega
   ·have:=(List.getElem?_eq_some_iff.1 ha').1; omega
   ·omega
  have hx2:Ext M w M2 w':=⟨⟨M'.pl.drop obs.length,rfl⟩,h1.full,h1.cell,h1.same,h1.sameC,h1.size,h1.drew,h1.os,h1.tape,h1.output,fun b hb=>by
   obtain ⟨k1,k2,k3,k4⟩:=h1.kept b (.inl hb)
   exact ⟨hb,k2,k3,k4⟩⟩
  refine ⟨c',τ',M2,hx2,⟨by show (M.pl++M'.pl.drop obs.length).length=_; simp [hr.len,hlen',e2],h2.blk,fun k p x hp hs=>?_,fun k k' p p' x x' hp hp' hs hs' hl hl' hb=>?_,fun g cells hg=>(hr.glob g cells hg).mono hx2,fun b hb=>Nat.lt_of_lt_of_le (hr.kep b hb) h1.size,fun k p x hp hs hl hkp=>?_⟩,h3.renR (M':=M2) hA (fun b o h=>h) hrc,e5⟩
  ·rcases hB k p x hp hs with ⟨hk,hks,hp',hs'⟩ | ⟨i,y,ha,hp',hs',hro⟩
   ·by_cases hl:x.live=true
    ·obtain ⟨k1,k2,k3,k4⟩:=h1.kept p.block (.inr ⟨k,p,x,hks,hp',hs',hl,rfl⟩)
     obtain ⟨g1,g2⟩:=hr.obj k p x hp' hs'
     refine ⟨g1.mono hx2 k2 (fun _ _ _ o ho=>k4 o ho),?_⟩
     cases x with
     | dead=>trivial
     | tipT t0 n=>exact fun hf=>g2 (k3 hf)
     | _=>exact ⟨fun hf=>g2.1 (k3 hf),fun o ho=>g2.2 o (k4 o ho)⟩
    ·cases x <;> first|exact ⟨tt,tt⟩ | simp [c5.live] at hl
   ·obtain ⟨g1,g2⟩:=h2.obj i p y hp' hs'
    refine ⟨g1.renR (M':=M2) hA (fun b o h=>h) (fun b h=>h) (fun b o h=>h) hro,?_⟩
    cases hro <;> first | trivial|exact g2
  ·have keep:∀ {k:Nat} {p:Pl} {x:c5},k∉sel→M.pl[k]? = some p→σ[k]? = some x→x.live=true→M'.keep p.block:=fun {k p x} hks hp' hs' hl=>(h1.kept p.block (.inr ⟨k,p,x,hks,hp',hs',hl,rfl⟩)).1
   rcases hB k p x hp hs with ⟨hk,hks,hpk,hsk⟩ | ⟨i,y,ha,hpk,hsk,hro⟩ <;> rcases hB k' p' x' hp' hs' with ⟨hk',hks',hpk',hsk'⟩ | ⟨i',y',ha',hpk',hsk',hro'⟩
   ·exact hr.inj k k' p p' x x' hpk hpk' hsk hsk' hl hl' hb
   ·exact absurd (hb ▸ keep hks hpk hsk hl) (h2.nk i' p' y' hpk' hsk' (by rw [← hro'.live]; exact hl'))
   ·exact absurd (hb ▸ keep hks' hpk' hsk' hl') (h2.nk i p y hpk hsk (by rw [← hro.live]; exact hl))
   ·have:=h2.inj i i' p p' y y' hpk hpk' hsk hsk' (by rw [← hro.live]; exact hl) (by rw [← hro'.live]; exact hl') hb
    subst this
    exact hAfun i k k' ha ha'
  ·rcases hB k p x hp hs with ⟨hk,hks,hp',hs'⟩ | ⟨i,y,ha,hp',hs',hro⟩
   ·exact hr.nk k p x hp' hs' hl hkp
   ·exact h2.nk i p y hp' hs' (by rw [← hro.live]; exact hl) (h1.kept p.block (.inl hkp)).1
 have hal:vs.size=args.length:=by rw [hn,hargs.1]
 refine (h M0 w vs hr0 hal fun i a hi=>?_).mono fun e w' he=>?_
 ·obtain ⟨a',ha'⟩:=o0 hargs.1 hi
  exact (hx i a' ha').renR (M':=M0) h0' (fun b o h=>h) (hargs.2 i a' a ha' hi)
 cases e with
 | panicked ch =>
  obtain ⟨c,v,τ,M',hch,h1,h2,h3,h4⟩:=he
  obtain ⟨c',τ',M2,g1,g2,g3,g4⟩:=fin c v .pan (fun c c' R h=>by cases h with | pan h=>exact ⟨_,rfl,h⟩) τ M' w' h1 h2 h3 h4
  exact ⟨c',v,τ',M2,hch,g1,g2,g3,g4⟩
 | outgrown=>exact he
 | returned v =>
  obtain ⟨c,τ,M',h1,h2,h3,h4⟩:=he
  exact fin c v .ret (fun c c' R h=>by cases h with | ret h=>exact ⟨_,rfl,h⟩) τ M' w' h1 h2 h3 h4
def a0L:c5→Prop
 | .dead=>True
 | .boxT _ cells=>∀ c∈cells,p5 c
 | .tipT _ _=>True
 | .vec _ rows=>∀ r∈rows,∀ c∈r,p5 c
 | .map es=>∀ x∈es,p5 x.1∧p5 x.2
 | .iter c l=>(∀ x∈c,p5 x.1∧p5 x.2)∧∀ x∈l,p5 x.1∧p5 x.2
theorem E9 {R:Nat→Nat→Prop} {l:List CV} (h:∀ c∈l,p5 c):V1 R l l:=⟨rfl,fun i c c' g g'=>by
 rw [g] at g'; injection g' with g'; subst g'
 exact .pure (h c (List.mem_of_getElem? g))⟩
theorem a3n {R:Nat→Nat→Prop} {l:List (CV × CV)} (h:∀ x∈l,p5 x.1∧p5 x.2):b2J R l l:=⟨rfl,fun i c c' g g'=>by
 rw [g] at g'; injection g' with g'; subst g'
 exact ⟨.pure (h c (List.mem_of_getElem? g)).1,.pure (h c (List.mem_of_getElem? g)).2⟩⟩
theorem a0L.ren {R:Nat→Nat→Prop} {ob:c5} (h:a0L ob):B2 R ob ob:=by
 cases ob with
 | dead=>exact .dead
 | boxT t0 cells=>exact .box (E9 h)
 | tipT t0 n=>exact .tip n
 | vec s rows =>
  refine .vec rfl fun i r r' g g'=>?_
  rw [g] at g'; injection g' with g'; subst g'
  exact E9 (h r (List.mem_of_getElem? g))
 | map es=>exact .map (a3n h)
 | iter c l=>exact .iter (a3n h.1) (a3n h.2)
theorem a0L.old {n:Nat} {ob:c5} (h:a0L ob):C8 n ob:=by
 cases ob with
 | dead=>trivial
 | boxT t0 cells=>exact fun c hc=>(h c hc).old
 | tipT t0 n=>trivial
 | vec s rows=>exact fun r hr c hc=>(h r hr c hc).old
 | map es=>exact fun x hx=>⟨(h x hx).1.old,(h x hx).2.old⟩
 | iter c l=>exact ⟨fun x hx=>⟨(h.1 x hx).1.old,(h.1 x hx).2.old⟩,fun x hx=>⟨(h.2 x hx).1.old,(h.2 x hx).2.old⟩⟩
def Y8:List Nat→List c5→List c5→List c5
 | [],_,σ=>σ
 | _::_,[],σ=>σ
 | k::ks,o::os,σ=>Y8 ks os (σ.set k o)
theorem a12:∀ (ks:List Nat) (os:List c5) (σ:List c5),(Y8 ks os σ).length=σ.length
 | [],_,σ=>rfl
 | k::ks,[],σ=>rfl
 | k::ks,o::os,σ=>by rw [Y8,a12 ks os]; simp
theorem a0G:∀ (ks:List Nat) (os:List c5) (σ:List c5) (k:Nat),k∉ks→(Y8 ks os σ)[k]? = σ[k]?
 | [],_,σ,k,_=>rfl
 | _::ks,[],σ,k,_=>rfl
 | k'::ks,o::os,σ,k,h=>by
  rw [Y8,a0G ks os _ k fun hm=>h (by simp [hm]),List.getElem?_set_ne fun e=>h (by simp [e])]
theorem a4X:∀ (ks:List Nat) (os:List c5) (σ:List c5) (i k:Nat),(∀ (i j k:Nat),ks[i]? = some k→ks[j]? = some k→i=j)→ks.length=os.length→ks[i]? = some k→k < σ.length→(Y8 ks os σ)[k]? = os[i]?
 | [],_,σ,i,k,_,_,h,_=>by simp at h
 | _::ks,[],σ,i,k,_,h,_,_=>by simp at h
 | k'::ks,o::os,σ,i,k,hnd,hl,hi,hk=>by
  rw [Y8]
  have hnd':∀ (i j k:Nat),ks[i]? = some k→ks[j]? = some k→i=j:=fun i j k h1 h2=>by
   have:=hnd (i+1) (j+1) k (by simpa using h1) (by simpa using h2)
   omega
  rcases i with _ | i
  ·simp at hi
   subst hi
   rw [a0G ks os _ k' fun hm=>by
    obtain ⟨j,hj⟩:=List.mem_iff_getElem?.1 hm
    have:=hnd 0 (j+1) k' rfl (by simpa using hj)
    omega]
   simp [hk]
  ·rw [a4X ks os _ i k hnd' (by simpa using hl) (by simpa using hi) (by simpa using hk)]
   simp
theorem R0 {α:Type} {C:Ctx} {f:FuncId} {args args':List CV} {obs σ:List c5} {res res':α→v7} {S N:α→List c5} {P:α→Prop} (sel:List Nat) (hC:C.plain) (hlen:sel.length=obs.length) (hnd:∀ (i j k:Nat),sel[i]? = some k→sel[j]? = some k→i=j)
 (hobs:∀ (i k:Nat),sel[i]? = some k→k < σ.length∧σ[k]? = obs[i]?) (hpo:∀ ob∈obs,a0L ob) (hargs:V1 (fun k i=>sel[i]? = some k) args' args)
 (h:b8 C f args obs fun r τ=>∃ a,r=res a∧τ=S a++N a∧P a) (hS:∀ a,P a→(S a).length=obs.length∧∀ ob∈S a++N a,a0L ob) (hres:∀ a,P a→a2h (O9 sel σ.length) (res a) (res' a)) :
 b8 C f args' σ fun r τ=>∃ a,r=res' a∧τ=Y8 sel (S a) σ++N a∧P a:=by
 refine B4 sel hC hlen hnd (fun i k ob hi ho=>?_) hargs h fun r τ hk=>?_
 ·obtain ⟨_,h2⟩:=hobs i k hi
  exact ⟨ob,by rw [h2,ho],(hpo ob (List.mem_of_getElem? ho)).ren⟩
 ·obtain ⟨a,rfl,rfl,hp⟩:=hk
  obtain ⟨hl,hn⟩:=hS a hp
  have hsl:=a12 sel (S a) σ
  refine ⟨by simp [hl],res' a,Y8 sel (S a) σ++N a,hres a hp,by simp [hsl,hl],fun k hk hks=>?_,fun i k x ha hx=>?_,a,rfl,rfl,hp⟩
  ·rw [List.getElem?_append_left (by rw [hsl]; exact hk),a0G sel (S a) σ k hks]
  ·refine ⟨x,?_,(hn x (List.mem_of_getElem? hx)).ren⟩
   rcases ha with ha | ⟨ha,rfl⟩
   ·have hk:=(hobs i k ha).1
    have hil:i < (S a).length:=by rw [hl,← hlen]; exact (List.getElem?_eq_some_iff.1 ha).1
    rw [List.getElem?_append_left hil] at hx
    rw [List.getElem?_append_left (by rw [hsl]; exact hk),a4X sel (S a) σ i k hnd (by rw [hlen,hl]) ha hk,hx]
   ·rw [List.getElem?_append_right (by omega)] at hx
    rw [List.getElem?_append_right (by rw [hsl]; omega),hsl,← hx]
    congr 1
    omega
theorem V1.nil {R:Nat→Nat→Prop}:V1 R [] []:=⟨rfl,fun i c c' h=>by simp at h⟩
theorem V1.cons {R:Nat→Nat→Prop} {c c':CV} {l l':List CV} (h:H3 R c c') (hl:V1 R l l'):V1 R (c::l) (c'::l'):=⟨congrArg (· + 1) hl.1,fun i d d' g g'=>by
 rcases i with _ | i
 ·simp at g g'
  subst g g'
  exact h
 ·exact hl.2 i d d' (by simpa using g) (by simpa using g')⟩
inductive a1i (n:Nat) (τ:List c5):v7→v7→Prop where
 | ret {c c':CV}:Cls n τ c c'→a1i n τ (.ret c) (.ret c')
 | pan {c c':CV}:Cls n τ c c'→a1i n τ (.pan c) (.pan c')
theorem R2 {α:Type} {C:Ctx} {f:FuncId} {args:List CV} {obs:List c5} {res:α→v7} {S:α→List c5} {P:α→Prop} (hC:C.plain)
 (h:b8 C f args obs fun r τ=>∃ a,a1i (S a).length τ r (res a)∧a3U (S a).length τ τ (S a)∧obs.length≤(S a).length∧P a):b8 C f args obs fun r τ=>∃ a,r=res a∧τ=S a∧P a:=fun M w vs hr hn hx=>(h M w vs hr hn hx).mono fun e w' he=>by
 cases e with
 | returned v =>
  obtain ⟨c',τ,M',h1,h2,h3,a,h4,h5,h6,h7⟩:=he
  obtain ⟨g1,g2,g3⟩:=h2.cutCls hC h5
  generalize hra:res a=ra at h4
  cases h4 with
  | ret h4=>exact ⟨_,S a,_,g3 M w h1 (by rw [hr.len]; exact h6),g1,RV.close h2 g2 (fun k p s rows hk hp hs=>.inr ⟨k,p,_,hk,hp,hs,rfl,rfl⟩) h4 h3,a,hra.symm,rfl,h7⟩
 | panicked ch =>
  obtain ⟨c',v,τ,M',h0,h1,h2,h3,a,h4,h5,h6,h7⟩:=he
  obtain ⟨g1,g2,g3⟩:=h2.cutCls hC h5
  generalize hra:res a=ra at h4
  cases h4 with
  | pan h4=>exact ⟨_,v,S a,_,h0,g3 M w h1 (by rw [hr.len]; exact h6),g1,RV.close h2 g2 (fun k p s rows hk hp hs=>.inr ⟨k,p,_,hk,hp,hs,rfl,rfl⟩) h4 h3,a,hra.symm,rfl,h7⟩
 | outgrown=>exact he
theorem a4N {C:Ctx} {f:FuncId} {args args':List CV} {ob:c5} {c:CV} (hC:C.plain) (hob:a0L ob) (hc:p5 c) {σ:List c5} {q:Nat} (hq:σ[q]? = some ob) (hargs:V1 (fun k i=>[q][i]? = some k) args' args)
 (h:b8 C f args [ob] fun r τ=>∃ _:Unit,a1i [ob].length τ r (.ret c)∧a3U [ob].length τ τ [ob]∧[ob].length≤[ob].length∧True):b8 C f args' σ fun r τ=>r = .ret c∧τ=σ:=by
 have hk:q < σ.length:=(List.getElem?_eq_some_iff.1 hq).1
 have h1:=R2 (res:=fun _=>.ret c) (S:=fun _=>[ob]) (P:=fun _=>True) hC h
 have h2:=R0 (σ:=σ) (args':=args') (res':=fun _:Unit=>.ret c) (N:=fun _=>[]) [q] hC rfl (fun i j k h1 h2=>by
  have:=(List.getElem?_eq_some_iff.1 h1).1
  have:=(List.getElem?_eq_some_iff.1 h2).1
  simp at *; omega) (fun i k hi=>by
  rcases i with _ | i
  ·simp at hi; subst hi; exact ⟨hk,by rw [hq]; rfl⟩
  ·simp at hi) (fun o ho=>by simp at ho; subst ho; exact hob) hargs (h1.mono fun r τ ⟨a,e1,e2,e3⟩=>⟨a,e1,by rw [e2,List.append_nil],e3⟩) (fun _ _=>⟨rfl,fun o ho=>by simp at ho; subst ho; exact hob⟩) (fun _ _=>.ret (.pure hc))
 refine h2.mono fun r τ ⟨_,e1,e2,_⟩=>⟨e1,?_⟩
 rw [e2,List.append_nil]
 show σ.set q ob=σ
 apply List.ext_getElem?
 intro i
 rw [List.getElem?_set]
 split
 ·rename_i e; subst e; first|(rw [if_pos hk,hq])|(rw [hq])
 ·rfl
theorem V2 {P : Program} {f : FuncId} {fn : Func} {e : Array Value → Sem Value} {args : Array Value} {w : World} {v : Value} (hf : P.funcs[f]? = some fn) (hname : (fn.name == "runtime.NumGoroutine") = false) (hb : fn.body.isNone = true) (hn : Extern.findNext fn = none) (he : Extern.find fn = some e) (hr : (e args).run P w = .ok v w) :
 (callFunc f args).run P w = .ok (.value v) w:=by
 simp only [callFunc,Sem.run_bind,run_program,Result.andThen_ok,hf,hname,hb,hn,he]
 simp [hr]
section
variable {C:Ctx} {σ:List c5} {E:Env} {o:Oper}
theorem b0j {f : FuncId} {fn : Func} {e : Array Value → Sem Value} {ts : Array TypeId} {x y : Operand} {a b v : Value} (ho : o.op = .call { callee := .value (.func f), args := #[x, y], argTypes := ts }) (hf : C.P.funcs[f]? = some fn) (hname : (fn.name == "runtime.NumGoroutine") = false) (hb : fn.body.isNone = true) (hn : Extern.findNext fn = none) (he : Extern.find fn = some e)
 (hx:E.valid x) (hy:E.valid y) (ex:E.val C x = .val a) (ey:E.val C y = .val b) (hr:∀ w,(e #[a,b]).run C.P w = .ok v w):m6 C σ E o (.val v) :=
 j7 fun M w ρ _ hh=>by
  have h1:=hh x (by simp [ho,Op.operands,Call.operands]) hx
  have h2:=hh y (by simp [ho,Op.operands,Call.operands]) hy
  have hfn:=n8 (hh (.func f) (by simp [ho,Op.operands,Call.operands]) tt)
  rw [ex] at h1
  rw [ey] at h2
  refine ⟨v,?_,.val _⟩
  have:=V2 (args:=#[a,b]) (w:=w) hf hname hb hn he (hr w)
  simp [execOp,ho,resolve,hfn,n8 h1,n8 h2,Deferred.ofValue,invoke,this]
end
theorem b2s {P:Program} (s:Str) (c:UInt8) (w:World):(Extern.BytealgCount.count #[.string (str s),.int .u8 c.toNat]).run P w = .ok (.int .i64 (s.count c:Nat)) w:=by
 have:=Go.Lib.run_countString (P:=P) (str s) (c.toNat:Int) w
 rw [this]
 simp [Go.Lib.countByte,str]
theorem b2l {P:Program} (s:Str) (c:UInt8) (w:World):(Extern.BytealgIndexByte.indexByte #[.string (str s),.int .u8 c.toNat]).run P w = .ok (.int .i64 (Go.Lib.indexByte s c)) w:=by
 have:=Go.Lib.run_indexByteString (P:=P) (str s) (c.toNat:Int) w
 rw [this]
 simp [str]
end Go.Cl
namespace Go.Cl
def b6x:v7→Prop
 | .ret c=>p5 c
 | .pan c=>p5 c
theorem J6 {α:Type} {C:Ctx} {f:FuncId} {args:List CV} {res:α→v7} {P:α→Prop} (hC:C.plain) (hargs:∀ c∈args,p5 c)
 (h:b8 C f args [] fun r τ=>∃ a,a1i 0 τ r (res a)∧P a) (hres:∀ a,P a→b6x (res a)) (σ:List c5):b8 C f args σ fun r τ=>∃ a,r=res a∧τ=σ∧P a:=by
 have h1:b8 C f args [] fun r τ=>∃ a,r=res a∧τ=(fun _=>[]) a∧P a:=R2 (res:=res) (S:=fun _=>[]) (P:=P) hC (h.mono fun r τ ⟨a,h2,h3⟩=>⟨a,h2,by cases τ <;> trivial,Nat.le_refl _,h3⟩)
 have h2:=R0 (σ:=σ) (args':=args) (res':=res) (S:=fun _=>[]) (N:=fun _=>[]) (P:=P) [] hC rfl (fun i j k h1=>by simp at h1) (fun i k h1=>by simp at h1) (fun o ho=>by simp at ho) (E9 hargs)
  (h1.mono fun r τ ⟨a,e1,e2,e3⟩=>⟨a,e1,by rw [e2]; rfl,e3⟩) (fun _ _=>⟨rfl,fun o ho=>by simp at ho⟩) (fun a hp=>by
   have:=hres a hp
   cases hr:res a with
   | ret c=>rw [hr] at this; exact .ret (.pure this)
   | pan c=>rw [hr] at this; exact .pan (.pure this))
 exact h2.mono fun r τ ⟨a,e1,e2,e3⟩=>⟨a,e1,by rw [e2]; simp [Y8],e3⟩
theorem R3 {C:Ctx} {f:FuncId} {args:List CV} {σ:List c5} {K:v7→List c5→Prop} (h:b8 C f args (σ++[.dead]) K):b8 C f args σ K:=fun M w vs hr hn hx=>by
 obtain ⟨h1,h2⟩:=hr.addDead ⟨0,0,0⟩
 refine (h _ w vs h1 hn fun i c hi=>(hx i c hi).mono h2).mono fun e w' he=>?_
 cases e with
 | returned v =>
  obtain ⟨c,τ,M',g1,g2,g3,g4⟩:=he
  exact ⟨c,τ,M',h2.trans g1,g2,g3,g4⟩
 | panicked ch =>
  obtain ⟨c,v,τ,M',g0,g1,g2,g3,g4⟩:=he
  exact ⟨c,v,τ,M',g0,h2.trans g1,g2,g3,g4⟩
 | outgrown=>exact he
theorem b7r {C:Ctx} {n:Nat} {c:Code} {Q:s8→Env→List c5→Prop} {E:Env} {σ:List c5} (h:CWp C n c Q E (σ++[.dead])):CWp C n c Q E σ:=fun M w a hr hf=>by
 obtain ⟨h1,h2⟩:=hr.addDead ⟨0,0,0⟩
 exact wp_mono (h _ w a h1 (hf.mono h2)) fun _ _ _=>E6.later h2
inductive b4f (L:Nat) (sel:List Nat):v7→v7→Prop where
 | ret {c c':CV}:z7 L sel c c'→b4f L sel (.ret c) (.ret c')
 | pan {c c':CV}:z7 L sel c c'→b4f L sel (.pan c) (.pan c')
def L2 (L:Nat) (τ:List c5) (r r':v7) (S:List c5):Prop:=∃ sel,a2D L sel=true∧Q7 sel=true∧b4f L sel r r'∧a8b L sel τ sel S
theorem J5 {C:Ctx} {f:FuncId} {args:List CV} {obs:List c5} {K:v7→List c5→Prop} (hC:C.plain) (h:b8 C f args obs fun r τ=>∃ r' S,L2 obs.length τ r r' S∧K r' S):b8 C f args obs K:=fun M w vs hr hn hx=>by
 refine (h M w vs hr hn hx).mono fun e w' he=>?_
 cases e with
 | returned v =>
  obtain ⟨c,τ,M',g1,g2,g3,r',S,⟨sel,k1,k2,k3,k4⟩,k5⟩:=he
  have hL:obs.length≤M'.pl.length:=by
   obtain ⟨l,hl⟩:=g1.pl
   rw [hl,← hr.len]; simp
  cases k3 with
  | ret k3=>exact ⟨_,S,_,g1.ren k1 hr.len,g2.ren hC k1 k2 hL k4,RV.ren (a0g k1) hL g3 k3,k5⟩
 | panicked ch =>
  obtain ⟨c,v,τ,M',g0,g1,g2,g3,r',S,⟨sel,k1,k2,k3,k4⟩,k5⟩:=he
  have hL:obs.length≤M'.pl.length:=by
   obtain ⟨l,hl⟩:=g1.pl
   rw [hl,← hr.len]; simp
  cases k3 with
  | pan k3=>exact ⟨_,v,S,_,g0,g1.ren k1 hr.len,g2.ren hC k1 k2 hL k4,RV.ren (a0g k1) hL g3 k3,k5⟩
 | outgrown=>exact he
section
variable {C:Ctx} {E:Env} {σ:List c5} {o:Oper}
theorem n7 {f:FuncId} {xs:Array Operand} {ts:Array TypeId} {cargs:List CV} {α β:Type} {c:α→CV} {S:α→List c5} {P:α→Prop} {c':β→CV} {S':β→List c5} {P':β→Prop} {K:v7→List c5→Prop} (ho:o.op = .call { callee:=.value (.func f),args:=xs,argTypes:=ts}) (hcall:∀ args w,(callFunc f args).run C.P w = .ok (.enter f args) w)
 (hv:E.valids xs.toList) (h:b8 C f cargs σ fun r σ'=>(∃ a,r = .ret (c a)∧σ'=S a∧P a)∨∃ b,r = .pan (c' b)∧σ'=S' b∧P' b) (ea:(E.vals C xs.toList).map CV.fgt=cargs) (hp:∀ b,P' b→K (.pan (c' b)) (S' b)) (hk:∀ a,P a→K (.ret (c a)) (S a)):C2 C σ E o K :=
 a68 ho hcall (Env.valids_mem hv) (Env.vals_map _) ((a0x (ea ▸ h)).mono fun r σ' hh=>by
  rcases hh with ⟨a,rfl,rfl,hq⟩ | ⟨b,rfl,rfl,hq⟩
  ·exact hk a hq
  ·exact hp b hq)
theorem D4 {f:FuncId} {xs:Array Operand} {ts:Array TypeId} {cargs:List CV} {β:Type} {c':β→CV} {S':β→List c5} {P':β→Prop} {K:v7→List c5→Prop} (ho:o.op = .call { callee:=.value (.func f),args:=xs,argTypes:=ts}) (hcall:∀ args w,(callFunc f args).run C.P w = .ok (.enter f args) w)
 (hv:E.valids xs.toList) (h:b8 C f cargs σ fun r σ'=>∃ b,r = .pan (c' b)∧σ'=S' b∧P' b) (ea:(E.vals C xs.toList).map CV.fgt=cargs) (hp:∀ b,P' b→K (.pan (c' b)) (S' b)):C2 C σ E o K :=
 a68 ho hcall (Env.valids_mem hv) (Env.vals_map _) ((a0x (ea ▸ h)).mono fun r σ' hh=>by
  obtain ⟨b,rfl,rfl,hq⟩:=hh
  exact hp b hq)
def a4e:TypeDesc→Bool
 | .interface _=>true
 | _=>false
theorem b0a {P:Program} {t:TypeId} {u:TypeDesc} (h:∀ w,(underlying t).run P w = .ok u w) (hu:a4e u=false) (v:Value) (w:World):(Instr.makeInterface t v).run P w = .ok (.iface t v) w:=by
 simp [Instr.makeInterface,go_sem]
 rw [h w]
 cases u <;> simp [a4e] at hu ⊢
theorem b2z {t:TypeId} {x:Operand} {xs:List Value} (ho:o.op = .makeInterface t x) (hx:E.valid x) (ex:E.val C x=plain xs) (hm:∀ v w,(Instr.makeInterface t v).run C.P w = .ok (.iface t v) w):m6 C σ E o (.val (.iface t (.agg xs.toArray))) :=
 j7 fun M w ρ _ h=>by
  have h1:=h x (by simp [ho,Op.operands]) hx
  rw [ex] at h1
  have h2:=Z3 h1
  refine ⟨_,?_,.val _⟩
  simp only [execOp,ho]
  rw [← h2]
  simp [hm]
end
end Go.Cl
namespace Go.Cl
section
variable {C:Ctx} {n:Nat} {Q:s8→Env→List c5→Prop} {E:Env} {σ:List c5}
theorem p4 {ops:Array Oper} {l:List Oper} (σ':List c5) (h:σ=σ') (k:O2 C n ops Q l E σ'):O2 C n ops Q l E σ:=h ▸ k
theorem I8 {c:Code} (σ':List c5) (h:σ=σ') (k:CWp C n c Q E σ'):CWp C n c Q E σ:=h ▸ k
end
end Go.Cl
namespace Go.Cl
def F2 (ds:List Deferred) (a:Act):Act:={ a with defers:=a.defers++ds}
theorem Z7 {ds:List Deferred} {a:Act} {d:Option Nat} {v:Value}:(F2 ds a).put d v=F2 ds (a.put d v):=by
 cases d <;> rfl
theorem a8K {ds:List Deferred} {a:Act} {d:Deferred} {t:Option Nat}:({ F2 ds a with defers:=d::(F2 ds a).defers}:Act).put t undef=F2 ds (({ a with defers:=d::a.defers}:Act).put t undef):=by
 cases t <;> rfl
theorem b2G {P:Program} {ops:Array Oper} {Q Q':Exit→Act→World→Prop} {ds:List Deferred} (hq:∀ e a w,Q e a w→Q' e (F2 ds a) w):∀ (l:List Oper) (a:Act) (w:World),wpList P ops Q l a w→wpList P ops Q' l (F2 ds a) w:=by
 have hout:LetsOut Q→LetsOut Q':=fun ⟨a0,w0,h⟩=>⟨_,w0,hq _ a0 w0 h⟩
 intro l
 induction l with
 | nil=>exact fun a w h=>hq _ _ _ h
 | cons o l ih =>
  intro a w h
  unfold wpList at h ⊢
  change if Region.wanted o (yielded ops a.tmps)=true then _ else _
  split
  ·rename_i hw
   rw [if_pos hw] at h
   refine h.imp (fun h=>?_) (fun ⟨h1,h2⟩=>⟨h1,hout h2⟩)
   unfold Oper.wp at h ⊢
   change o.upon P (F2 ds a) _ _ ((execOp a.eval o).run P w)
   generalize (execOp a.eval o).run P w=r at h
   cases r with
   | ok x w3 =>
    cases x <;> simp only [Oper.upon] at h ⊢
    case value v=>rw [Z7]; exact ih _ _ h
    case skip=>rw [Z7]; exact ih _ _ h
    case defer d=>rw [a8K]; exact ih _ _ h
    case enter f args =>
     refine h.mono fun e w4 he=>?_
     cases e with
     | returned v=>show wpList P ops Q' l ((F2 ds a).put o.dst v) w4; rw [Z7]; exact ih _ _ he
     | panicked ch=>exact hq _ _ _ he
     | outgrown=>exact hout he
    case row r args=>exact Rows.mono h fun _ _ he=>by rw [Z7]; exact ih _ _ he
   | halt x w3 =>
    cases x <;> simp only [Oper.upon] at h ⊢
    exact hq _ _ _ h
  ·rename_i hw
   rw [if_neg hw] at h
   rw [Z7]
   exact ih _ _ h
def a8N (ds:List Deferred) (C:Ctx) (n:Nat) (Q:s8→Env→List c5→Prop) (M:l3) (w:World) (e:Exit) (a':Act) (w':World):Prop:=∃ a0,a'=F2 ds a0∧E6 C n Q M w e a0 w'
def b3z (ds:List Deferred) (C:Ctx) (n:Nat) (c:Code) (Q:s8→Env→List c5→Prop) (E:Env) (σ:List c5):Prop :=
 ∀ (M:l3) (w:World) (a:Act),Rel C M σ w→G3 M w n E a→c.wp C.P (a8N ds C n Q M w) (F2 ds a) w
section
variable {C:Ctx} {n:Nat} {Q:s8→Env→List c5→Prop} {E:Env} {σ:List c5} {ds:List Deferred}
theorem a8N.later {M M1:l3} {w w1:World} (he:Ext M w M1 w1) {e:Exit} {a:Act} {w':World} (hl:a8N ds C n Q M1 w1 e a w'):a8N ds C n Q M w e a w':=by
 obtain ⟨a0,h0,h⟩:=hl
 exact ⟨a0,h0,E6.later he h⟩
theorem a5m {id:Nat} {ops:Array Oper} (h:O2 C n ops Q ops.toList E σ):b3z ds C n (.region id ops false) Q E σ :=
 fun M w a hr hf=>wp_region_list (b2G (fun _ a0 _ h=>⟨a0,rfl,h⟩) _ _ _ (h M w a hr hf))
theorem b6J (h:Q .ret E σ):b3z ds C n .ret Q E σ:=fun M w a hr hf=>wp_ret ⟨a,rfl,E,σ,M,Ext.refl M w,hr,hf,h⟩
theorem b1T {x y:Code} (h:b3z ds C n x (s8.next (b3z ds C n y Q) Q) E σ):b3z ds C n (.seq x y) Q E σ:=fun M w a hr hf=>by
 refine wp_seq (wp_mono (h M w a hr hf) fun e a' w' hl=>?_)
 obtain ⟨a0,rfl,E',σ',M',h1,h2,h3,h4⟩:=hl
 cases e with
 | normal=>exact wp_mono (h4 M' w' a0 h2 h3) fun _ _ _=>a8N.later h1
 | _=>exact ⟨a0,rfl,E',σ',M',h1,h2,h3,h4⟩
end
end Go.Cl
namespace Go.Cl
section
variable {C:Ctx} {E:Env} {σ:List c5} {o:Oper}
theorem a9f {f:FuncId} {caps:Array Operand} (ho:o.op = .makeFunc (.func f) #[] caps) (hv:E.valids caps.toList):m6 C σ E o (.clo f (E.vals C caps.toList)) :=
 j7 fun M w ρ _ h=>by
  refine ⟨.func (.func f) #[] (caps.map ρ),by simp [execOp,ho,Instr.makeFunc],.clo (by rw [← Env.vals_map]; simp) fun i c hi=>?_⟩
  rw [← Env.vals_map,List.getElem?_map,Option.map_eq_some_iff] at hi
  obtain ⟨x,hx,rfl⟩:=hi
  have hx':caps[i]? = some x:=by simpa using hx
  have hm:x∈caps:=Array.mem_of_getElem? hx'
  have:(caps.map ρ).getD i undef=ρ x:=by
   rw [Array.getD_eq_getD_getElem?,Array.getElem?_map,hx']; rfl
  rw [this]
  exact h x (by simp [ho,Op.operands,hm]) (Env.valids_mem hv x (by simpa using hm))
theorem b2O {f:FuncId} {cx:Operand} {xs:Array Operand} {ts:Array TypeId} {cargs caps:List CV} {K:v7→List c5→Prop} (ho:o.op = .call { callee:=.value cx,args:=xs,argTypes:=ts}) (hc:E.valid cx) (ec:E.val C cx = .clo f caps) (hcall:∀ args w,(callFunc f args).run C.P w = .ok (.enter f args) w)
 (hv:∀ x∈xs.toList,E.valid x) (ea:xs.toList.map (E.val C)=cargs) (h:b8 C f (cargs++caps) σ K):C2 C σ E o K:=fun M w ρ hr hh=>by
 have hf:=hh cx (by simp [ho,Op.operands,Call.operands]) hc
 rw [ec] at hf
 generalize hcx:ρ cx=fv at hf
 cases hf with
 | @clo _ _ vs hsz hvs =>
  have hrun:(execOp ρ o).run C.P w = .ok (.enter f (xs.map ρ++vs)) w:=by
   simp [execOp,ho,resolve,hcx,Deferred.ofValue,invoke,hcall]
  rw [hrun]
  refine (h M w (xs.map ρ++vs) hr (by simp [← ea,hsz]) fun i c hi=>?_).mono fun e w' he=>by cases e <;> exact he
  subst ea
  rw [Array.getD_eq_getD_getElem?,Array.getElem?_append]
  rw [List.getElem?_append] at hi
  simp only [List.length_map,Array.length_toList,Array.size_map] at hi ⊢
  split <;> rename_i hlt
  ·rw [if_pos hlt] at hi
   simp only [List.getElem?_map,Option.map_eq_some_iff] at hi
   obtain ⟨x,hx,rfl⟩:=hi
   have hx':xs[i]? = some x:=by simpa using hx
   have hm:x∈xs:=Array.mem_of_getElem? hx'
   rw [Array.getElem?_map,hx']
   exact hh x (by simp [ho,Op.operands,Call.operands,hm]) (hv x (by simpa using hm))
  ·rw [if_neg hlt] at hi
   have:=hvs _ _ hi
   rwa [Array.getD_eq_getD_getElem?] at this
theorem a6E {f:FuncId} {cx:Operand} {xs:Array Operand} {ts:Array TypeId} {cargs caps:List CV} {c:CV} (ho:o.op = .call { callee:=.value cx,args:=xs,argTypes:=ts}) (hc:E.valid cx) (ec:E.val C cx = .clo f caps) (hcall:∀ args w,(callFunc f args).run C.P w = .ok (.enter f args) w)
 (hv:E.valids xs.toList) (h:b8 C f (cargs++caps) σ fun r σ'=>r = .ret c∧σ'=σ) (ea:E.vals C xs.toList=cargs):m6 C σ E o c :=
 b2O ho hc ec hcall (Env.valids_mem hv) (Env.vals_map _) (ea ▸ h)
end
end Go.Cl
namespace Go.Cl
def b2L (C:Ctx) (M:l3) (w:World) (K:v7→List c5→Prop):Ending→World→Prop
 | .returned v,w'=>a0m C M w K v w'
 | .panicked ch,w'=>O5 C M w K ch w'
 | .outgrown,_=>False
theorem b2L.later {C:Ctx} {M M1:l3} {w w1:World} {K:v7→List c5→Prop} (hx:Ext M w M1 w1) {e:Ending} {w':World} (h:b2L C M1 w1 K e w'):b2L C M w K e w':=by
 cases e with
 | returned v =>
  obtain ⟨c,σ',M',h1,h2⟩:=h
  exact ⟨c,σ',M',hx.trans h1,h2⟩
 | panicked ch =>
  obtain ⟨c,v,σ',M',h0,h1,h2⟩:=h
  exact ⟨c,v,σ',M',h0,hx.trans h1,h2⟩
 | outgrown=>exact h
theorem a1b {P:Program} {fn:Func} {tmps:Array Value} {R R':Ending→World→Prop} (h:∀ e w,R e w→R' e w):∀ (ds:List Deferred) (u:FrameMode) (w:World),Leaves P fn tmps R ds u w→Leaves P fn tmps R' ds u w:=by
 intro ds
 induction ds with
 | nil =>
  intro u w hl
  cases u with
  | run=>exact hl
  | returning =>
   obtain ⟨v,h1,h2⟩:=hl
   exact ⟨v,h1,h _ _ h2⟩
  | panicking ch=>exact h _ _ hl
 | cons d ds ih =>
  intro u w hl
  obtain ⟨h1,fv,cap,f,args,h2,h3,h4⟩:=hl
  refine ⟨h1,fv,cap,f,args,h2,h3,h4.mono fun e u' w' he=>?_⟩
  cases e with
  | returned v=>exact ih _ _ he
  | panicked ch=>exact ih _ _ he
  | outgrown=>exact h _ _ he
theorem a5u {P:Program} {fn:Func} {R R':Ending→World→Prop} (h:∀ e w,R e w→R' e w) {e:Exit} {a:Act} {w:World} (hb:bodyPostD P fn R e a w):bodyPostD P fn R' e a w:=by
 cases e with
 | normal=>exact a1b h _ _ _ hb
 | ret=>exact a1b h _ _ _ hb
 | panic ch=>exact a1b h _ _ _ hb
 | outgrown=>exact h _ _ hb
 | exit id=>exact hb
 | goto l=>exact hb
def a9N (C:Ctx) (fn:Func) (K:v7→List c5→Prop) (c:Code) (E:Env) (σ:List c5):Prop :=
 ∀ (M:l3) (w:World) (a:Act),Rel C M σ w→G3 M w fn.ntmps E a→c.wp C.P (bodyPostD C.P fn (b2L C M w K)) a w
theorem a6G {M:l3} {w:World} {args:List CV} {vs:Array Value} {n:Nat} (hn:args.length≤n) (hsz:vs.size=args.length) (hx:∀ (i:Nat) (c:CV),args[i]? = some c→RV M w c (vs.getD i undef)):G3 M w n (Env.args args) { tmps:=vs++Array.replicate (n - vs.size) undef,defers:=[]}:=by
 refine ⟨rfl,by simp; omega,fun t _=>?_,fun t ht=>ht.elim⟩
 simp only [Env.args]
 rcases Nat.lt_or_ge t args.length with ht | ht
 ·have:=hx t (args[t]) (by simp [ht])
  have h1:(vs++Array.replicate (n - vs.size) undef).getD t undef=vs.getD t undef:=by
   simp [Array.getElem?_append,hsz,ht]
  rw [h1]
  simpa [ht] using this
 ·have h1:(vs++Array.replicate (n - vs.size) undef).getD t undef=undef:=by
   simp only [Array.getD_eq_getD_getElem?,Array.getElem?_append]
   rw [if_neg (by omega)]
   rw [Array.getElem?_replicate]
   split <;> rfl
  rw [h1]
  simp only [List.getD_eq_getElem?_getD,List.getElem?_eq_none ht,Option.getD_none]
  exact .val _
theorem b0A {C:Ctx} {f:FuncId} {fn:Func} {c:Code} {args:List CV} {σ:List c5} {K:v7→List c5→Prop} (hf:C.P.funcs[f]? = some fn) (hb:fn.body=some c) (hn:Nat.ble args.length fn.ntmps=true) (h:a9N C fn K c (Env.args args) σ):b8 C f args σ K:=fun M w vs hr hsz hx =>
 (calls_of_wp_defers hf hb (h M w _ hr (a6G (nb hn) hsz hx))).mono fun e w' he=>by cases e <;> exact he
theorem b0l {C:Ctx} {fn:Func} {K:v7→List c5→Prop} {x y:Code} {E:Env} {σ:List c5} (h:CWp C fn.ntmps x (s8.next (a9N C fn K y) (Fin C fn K)) E σ):a9N C fn K (.seq x y) E σ:=fun M w a hr hf=>by
 refine wp_seq (wp_mono (h M w a hr hf) fun e a' w' hl=>?_)
 obtain ⟨E',σ',M',h1,h2,h3,h4⟩:=hl
 cases e with
 | normal=>exact wp_mono (h4 M' w' a' h2 h3) fun e a0 w0 hb=>a5u (fun e w he=>b2L.later h1 he) hb
 | ret =>
  obtain ⟨c,hc,hk⟩:=h4
  obtain ⟨v,hv,hrv⟩:=hc M' w' a' h2 h3.rv
  show Leaves C.P fn a'.tmps _ a'.defers .returning w'
  rw [h3.defers]
  exact ⟨v,hv,c,σ',M',h1,h2,hrv,hk⟩
 | panic ch =>
  obtain ⟨c,v,h0,hv,hk⟩:=h4
  show Leaves C.P fn a'.tmps _ a'.defers (.panicking ch) w'
  rw [h3.defers]
  exact ⟨c,v,σ',M',h0,h1,h2,hv,hk⟩
 | exit id=>exact h4.elim
 | goto l=>exact h4.elim
 | outgrown=>exact h4.elim
def a5j (b:Bool) (v:Value):FrameMode:=if b then .panicking [{ v,recovered:=false}] else .returning
def N0 (b:Bool) (v:Value):FrameMode:=if b then .panicking [{ v,recovered:=true}] else .returning
theorem a71 (b:Bool) (v:Value):settle (N0 b v) = .returning:=by cases b <;> rfl
def b2f (C:Ctx) (g:FuncId) (caps:List CV) (σ:List c5) (b:Bool) (u:CV) (K:List c5→Prop):Prop :=
 ∀ (M:l3) (w:World) (vs:Array Value) (v:Value),Rel C M σ w→vs.size=caps.length→(∀ (i:Nat) (c:CV),caps[i]? = some c→RV M w c (vs.getD i undef))→RV M w u v →
  CallsD C.P g vs (a5j b v) w fun e u' w'=>(∃ x,e = .returned x)∧u'=N0 b v∧∃ σ' M',Ext M w M' w'∧Rel C M' σ' w'∧K σ'
theorem b3X {C:Ctx} {fn:Func} {K:v7→List c5→Prop} {id:Nat} {ops:Array Oper} {y:Code} {E:Env} {σ:List c5} {g:FuncId} {caps:Array Operand} {t:Nat} {o1 o2:Oper} {ats:Array TypeId} (hl:ops.toList=[o1,o2]) (g1:o1.guard=none) (g2:o2.guard=none) (d1:o1.dst=some t) (d2:o2.dst=none) (ht:t < fn.ntmps)
 (e1:o1.op = .makeFunc (.func g) #[] caps) (e2:o2.op = .defer { callee:=.value (.tmp t),args:=#[],argTypes:=ats}) (hg:∀ args w,(callFunc g args).run C.P w = .ok (.enter g args) w) (hv:E.valids caps.toList)
 (h:∀ ds,b3z ds C fn.ntmps y (fun e E' σ'=>match e with
  | .normal | .ret=>b2f C g (E.vals C caps.toList) σ' false (.val undef) fun σ''=>∃ c,V4 C E' σ'' fn c∧K (.ret c) σ''
  | .pan u=>b2f C g (E.vals C caps.toList) σ' true u fun σ''=>∃ c,V4 C E' σ'' fn c∧K (.ret c) σ''
  | _=>False) (E.put (some t) (.clo g (E.vals C caps.toList)) True) σ):a9N C fn K (.seq (.region id ops false) y) E σ:=fun M w a hr hf=>by
 refine wp_seq (wp_region_list ?_)
 rw [hl]
 obtain ⟨v,hv1,hv2⟩:∃ v,(execOp a.eval o1).run C.P w = .ok (.value v) w∧RV M w (.clo g (E.vals C caps.toList)) v:=by
  refine ⟨.func (.func g) #[] (caps.map a.eval),by simp [execOp,e1,Instr.makeFunc],.clo (by rw [← Env.vals_map]; simp) fun i c hi=>?_⟩
  rw [← Env.vals_map,List.getElem?_map,Option.map_eq_some_iff] at hi
  obtain ⟨x,hx,rfl⟩:=hi
  have hx':caps[i]? = some x:=by simpa using hx
  have hm:x∈caps:=Array.mem_of_getElem? hx'
  have:(caps.map a.eval).getD i undef=a.eval x:=by
   rw [Array.getD_eq_getD_getElem?,Array.getElem?_map,hx']; rfl
  rw [this]
  exact hf.eval hr (Env.valids_mem hv x (by simpa using hm))
 have hf1:G3 M w fn.ntmps (E.put (some t) (.clo g (E.vals C caps.toList)) True) (a.put (some t) v):=hf.put (fun t' ht'=>by injection ht' with ht'; omega) (fun _=>hv2) fun hh=>absurd trivial hh
 unfold wpList
 rw [if_pos (by simp [Region.wanted,g1])]
 refine .inl ?_
 unfold Oper.wp
 rw [hv1,Oper.upon_value,d1]
 unfold wpList
 rw [if_pos (by simp [Region.wanted,g2])]
 refine .inl ?_
 have hev:(a.put (some t) v).eval (.tmp t)=v:=by
  have hsz:t < a.tmps.size:=by rw [hf.size]; exact ht
  simp [Act.eval,Act.put,hsz]
 cases hv2 with
 | @clo _ _ vs hsz hvs =>
 have hrun:(execOp (a.put (some t) (.func (.func g) #[] vs)).eval o2).run C.P w = .ok (.defer { target:=.fn (.func g) vs,args:=#[]}) w:=by
  simp [execOp,e2,resolve,hev,Deferred.ofValue]
 unfold Oper.wp
 rw [hrun,Oper.upon_defer,d2]
 unfold wpList
 have hact:({ a.put (some t) (.func (.func g) #[] vs) with defers:={ target:=.fn (.func g) vs,args:=#[]}::(a.put (some t) (.func (.func g) #[] vs)).defers}:Act).put none undef=F2 [{ target:=.fn (.func g) vs,args:=#[]}] (a.put (some t) (.func (.func g) #[] vs)):=by
  simp [F2,Act.put,hf.defers]
 rw [hact]
 refine wp_mono (h _ M w _ hr hf1) fun e a' w' hl=>?_
 obtain ⟨a0,rfl,E',σ',M',h1,h2,h3,h4⟩:=hl
 have hvs':∀ (i:Nat) (c:CV),(E.vals C caps.toList)[i]? = some c→RV M' w' c (vs.getD i undef):=fun i c hi=>(hvs i c hi).mono h1
 have hds:(F2 [{ target:=.fn (.func g) vs,args:=#[]}] a0).defers=[{ target:=.fn (.func g) vs,args:=#[]}]:=by simp [F2,h3.defers]
 have fin:∀ (b:Bool) (u:CV) (pv:Value),RV M' w' u pv→(b2f C g (E.vals C caps.toList) σ' b u fun σ''=>∃ c,V4 C E' σ'' fn c∧K (.ret c) σ'')→Leaves C.P fn a0.tmps (b2L C M w K) [{ target:=.fn (.func g) vs,args:=#[]}] (a5j b pv) w':=fun b u pv hu hd=>by
  refine leaves_cons (f:=g) (args:=vs) (by cases b <;> simp [a5j]) (by simp [invoke,hg]) ((hd M' w' vs pv h2 hsz hvs' hu).mono fun e u' w'' he=>?_)
  obtain ⟨⟨x,rfl⟩,rfl,σ'',M'',k1,k2,c,hc,hk⟩:=he
  show Leaves C.P fn a0.tmps _ [] (settle _) w''
  rw [a71]
  obtain ⟨rv,hrv,hrv2⟩:=hc M'' w'' a0 k2 fun t ht=>(h3.rv t ht).mono k1
  exact ⟨rv,hrv,c,σ'',M'',h1.trans k1,k2,hrv2,hk⟩
 cases e with
 | normal =>
  show Leaves C.P fn _ _ (F2 _ a0).defers .returning w'
  rw [hds]
  exact fin false _ undef (.val _) h4
 | ret =>
  show Leaves C.P fn _ _ (F2 _ a0).defers .returning w'
  rw [hds]
  exact fin false _ undef (.val _) h4
 | panic ch =>
  obtain ⟨c,pv,rfl,hpv,h4⟩:=h4
  show Leaves C.P fn _ _ (F2 _ a0).defers (.panicking _) w'
  rw [hds]
  exact fin true c pv hpv h4
 | exit id=>exact h4.elim
 | goto l=>exact h4.elim
 | outgrown=>exact h4.elim
theorem b1X {C:Ctx} {g:FuncId} {fn:Func} {id:Nat} {ops:Array Oper} {y:Code} {caps:List CV} {σ:List c5} {b:Bool} {u:CV} {K:List c5→Prop} {t1 t2:Nat} {o1 o2:Oper} {ats:Array TypeId} (hf:C.P.funcs[g]? = some fn) (hb:fn.body=some (.seq (.region id ops false) y)) (hr0:fn.results = #[]) (hn:Nat.ble caps.length fn.ntmps=true)
 (hs:ops.size=2) (h0:ops[0]? = some o1) (h1:ops[1]? = some o2) (g1:o1.guard=none) (g2:o2.guard=none) (d1:o1.dst=some t1) (d2:o2.dst=some t2) (ht1:t1 < fn.ntmps) (ht2:t2 < fn.ntmps) (e1:o1.op = .call { callee:=.builtin .recover,args:=#[],argTypes:=ats}) (e2:o2.op = .assign (.tmp t1))
 (h:CWp C fn.ntmps y (fun e _ σ'=>match e with | .normal | .ret=>K σ' | _=>False) (((Env.args caps).put (some t1) (if b then u else .val .nilIface) True).put (some t2) (if b then u else .val .nilIface) True) σ):b2f C g caps σ b u K:=fun M w vs v hr hsz hvs hu=>by
 refine callsD_of_wpS hf hb fun c₀ cs hc₀=>?_
 refine wpS_seq (wpS_region ?_)
 rw [hs]
 have hrec:recoverD (c₀::cs)=if b then some (v,{ c₀ with mode:=N0 b v}::cs) else none:=by
  unfold recoverD
  simp only [hc₀]
  cases b <;> simp [a5j,N0]
 have f0:=a6G (n:=fn.ntmps) (nb hn) hsz hvs
 generalize hact:({ tmps:=vs++Array.replicate (fn.ntmps - vs.size) undef,defers:=[]}:Act)=a0 at f0
 have hrun1:(execOp a0.eval o1).run C.P w = .ok .recover w:=by simp [execOp,e1,resolve,invoke,builtin]
 have rest:∀ (x:Value) (cs':List Frame),cs'={ c₀ with mode:=N0 b v}::cs→RV M w (if b then u else .val .nilIface) x→wpOpsS C.P ops (Exit.thenS (y.wpS C.P (bodyPostS C.P fn c₀ cs fun e u' w'=>(∃ x,e = .returned x)∧u'=N0 b v∧∃ σ' M',Ext M w M' w'∧Rel C M' σ' w'∧K σ')) (bodyPostS C.P fn c₀ cs fun e u' w'=>(∃ x,e = .returned x)∧u'=N0 b v∧∃ σ' M',Ext M w M' w'∧Rel C M' σ' w'∧K σ')) [1] (a0.put (some t1) x) cs' w:=by
  intro x cs' hcs hx
  have f1:G3 M w fn.ntmps ((Env.args caps).put (some t1) (if b then u else .val .nilIface) True) (a0.put (some t1) x):=f0.put (fun t' ht'=>by injection ht' with ht'; omega) (fun _=>hx) fun hh=>absurd trivial hh
  have hev:(a0.put (some t1) x).eval (.tmp t1)=x:=by
   have hsz:t1 < a0.tmps.size:=by rw [f0.size]; exact ht1
   simp [Act.eval,Act.put,hsz]
  have hrun2:(execOp (a0.put (some t1) x).eval o2).run C.P w = .ok (.value x) w:=by simp [execOp,e2,hev]
  have f2:G3 M w fn.ntmps (((Env.args caps).put (some t1) (if b then u else .val .nilIface) True).put (some t2) (if b then u else .val .nilIface) True) ((a0.put (some t1) x).put (some t2) x):=f1.put (fun t' ht'=>by injection ht' with ht'; omega) (fun _=>hx) fun hh=>absurd trivial hh
  simp only [wpOpsS,h1,Region.wanted,g2,if_true,hrun2,Oper.upon_value,d2,Exit.thenS]
  refine wpS_of_wp (wp_mono (h M w _ hr f2) fun e a' w' hl=>?_)
  obtain ⟨E',σ',M',k1,k2,k3,k4⟩:=hl
  subst hcs
  cases e with
  | normal=>exact ⟨k3.defers,_,rfl,_,results_none hr0 _ _ _,⟨_,rfl⟩,rfl,σ',M',k1,k2,k4⟩
  | ret=>exact ⟨k3.defers,_,rfl,_,results_none hr0 _ _ _,⟨_,rfl⟩,rfl,σ',M',k1,k2,k4⟩
  | panic ch =>
   obtain ⟨c,pv,_,_,k4⟩:=k4
   exact k4.elim
  | exit id=>exact k4.elim
  | goto l=>exact k4.elim
  | outgrown=>exact k4.elim
 show wpOpsS C.P ops _ [0,1] _ _ _
 unfold wpOpsS
 simp only [h0,Region.wanted,g1,if_true,hrun1,hrec,d1]
 cases b with
 | true=>exact rest v _ rfl hu
 | false =>
  refine rest .nilIface _ ?_ (.val _)
  simp [N0,a5j] at hc₀ ⊢
  cases c₀
  simp_all
section
variable {C:Ctx} {E:Env} {σ:List c5} {o:Oper}
def a4h:Value→Bool
 | .iface _ _=>true
 | _=>false
theorem b1x {t t':TypeId} {x:Operand} {v:Value} {ms:Array (String × TypeId)} (ho:o.op = .binOp .neq t x (.const .nilIface) t') (hx:E.valid x) (ex:E.val C x = .val v) (hu:∀ w,(underlying t).run C.P w = .ok (.interface ms) w) (hv:v = .nilIface∨∃ a b,v = .iface a b):m6 C σ E o (.val (.bool (a4h v))) :=
 j7 fun M w ρ _ h=>by
  have h1:=h x (by simp [ho,Op.operands]) hx
  rw [ex] at h1
  have e1:=n8 h1
  have e2:=h (.const .nilIface) (by simp [ho,Op.operands]) rfl
  have e3:=n8 e2
  refine ⟨.bool (a4h v),?_,.val _⟩
  rcases hv with rfl | ⟨a,b,rfl⟩
  ·have he:(Op.equal t .nilIface .nilIface).run C.P w = .ok true w:=by
    unfold Op.equal
    rw [show Op.maxDepth=(Op.maxDepth - 1)+1 from rfl,Op.equalIn]
    simp [hu]
   simp [execOp,ho,e1,e3,eqGuard,binOp,he,a4h]
  ·have he:(Op.equal t (.iface a b) .nilIface).run C.P w = .ok false w:=by
    unfold Op.equal
    rw [show Op.maxDepth=(Op.maxDepth - 1)+1 from rfl,Op.equalIn]
    simp [hu]
   simp [execOp,ho,e1,e3,eqGuard,binOp,he,a4h]
theorem b2e {s t:TypeId} {x:Operand} {xs:List Value} {u:TypeDesc} (ho:o.op = .typeAssert x s t true) (hx:E.valid x) (ex:E.val C x = .val (.iface t (.agg xs.toArray))) (hu:∀ w,(underlying t).run C.P w = .ok u w) (hi:a4e u=false) (h1x:(xs.all fun v=>(CV.val v).one)=true):m6 C σ E o (.tup [plain xs,.val (.bool true)]) :=
 j7 fun M w ρ _ h=>by
  have h1:=h x (by simp [ho,Op.operands]) hx
  rw [ex] at h1
  have e1:=n8 h1
  refine ⟨.tuple #[.agg xs.toArray,.bool true],?_,.tup rfl fun i c hc=>?_⟩
  ·simp [execOp,ho,e1,Instr.typeAssert,hu]
   cases u <;> simp [a4e] at hi ⊢
  ·rcases i with _ | _ | i
   ·injection hc with hc; subst hc
    refine .agg (by simp) (fun c hc=>?_) fun i c hc=>?_
    ·obtain ⟨v,hm,rfl⟩:=List.mem_map.1 hc
     exact List.all_eq_true.1 h1x v hm
    ·rw [List.getElem?_map,Option.map_eq_some_iff] at hc
     obtain ⟨v,hv,rfl⟩:=hc
     have:(xs.toArray).getD i undef=v:=by simp [Array.getD_eq_getD_getElem?,hv]
     show RV M w (.val v) ((xs.toArray).getD i undef)
     rw [this]
     exact .val v
   ·injection hc with hc; subst hc; exact .val _
   ·cases hc
end
end Go.Cl
namespace Go.Cl
def a4I (σ:List c5):List Nat→List c5→List c5
 | k::sel,x::xs=>(a4I σ sel xs).set k x
 | _,_=>σ
theorem a4t (σ:List c5):∀ (sel:List Nat) (xs:List c5),(a4I σ sel xs).length=σ.length
 | [],_=>by cases ‹List c5› <;> rfl
 | _::_,[]=>rfl
 | k::sel,x::xs=>by rw [a4I,List.length_set,a4t σ sel xs]
theorem a9H {σ:List c5}:∀ {sel:List Nat} {xs:List c5} {k:Nat},k∉sel→(a4I σ sel xs)[k]? = σ[k]?
 | [],xs,k,_=>by cases xs <;> rfl
 | j::sel,[],k,_=>rfl
 | j::sel,x::xs,k,h=>by
  rw [a4I,List.getElem?_set_ne (fun e=>h (by rw [← e]; simp))]
  exact a9H fun hm=>h (by simp [hm])
theorem b1Q {σ:List c5}:∀ {sel:List Nat} {xs:List c5} {i k:Nat} {x:c5},(∀ (i j k:Nat),sel[i]? = some k→sel[j]? = some k→i=j)→k < σ.length→sel[i]? = some k→xs[i]? = some x→(a4I σ sel xs)[k]? = some x
 | [],xs,i,k,x,_,_,h,_=>by simp at h
 | j::sel,[],i,k,x,_,_,_,h=>by simp at h
 | j::sel,y::xs,0,k,x,_,hk,h,hx=>by
  simp at h hx
  subst h hx
  rw [a4I]
  simp [a4t,hk]
 | j::sel,y::xs,i+1,k,x,hnd,hk,h,hx=>by
  have hne:j≠k:=fun e=>by
   subst e
   have:=hnd 0 (i+1) j rfl h
   omega
  rw [a4I,List.getElem?_set_ne hne]
  exact b1Q (fun a b c h1 h2=>by
   have:=hnd (a+1) (b+1) c (by simpa using h1) (by simpa using h2)
   omega) hk (by simpa using h) (by simpa using hx)
theorem H3.mono {R R':Nat→Nat→Prop} (hR:∀ k k',R k k'→R' k k') {c c':CV} (h:H3 R c c'):H3 R' c c':=(h.symm (R':=fun a b=>R' b a) fun _ _ h=>hR _ _ h).symm fun _ _ h=>h
theorem B2.mono {R R':Nat→Nat→Prop} (hR:∀ k k',R k k'→R' k k') {a b:c5} (h:B2 R a b):B2 R' a b:=(h.symm (R':=fun a b=>R' b a) fun _ _ h=>hR _ _ h).symm fun _ _ h=>h
def a7H (sel:List Nat):Prop:=∀ (i j k:Nat),sel[i]? = some k→sel[j]? = some k→i=j
theorem a7N {α:Type} {C:Ctx} {f:FuncId} {args args':List CV} {obs σ:List c5} (sel:List Nat) (hC:C.plain) (hlen:sel.length=obs.length) (hnd:a7H sel)
 (hobs:∀ (i k:Nat) (ob:c5),sel[i]? = some k→obs[i]? = some ob→∃ ob',σ[k]? = some ob'∧B2 (fun k i=>sel[i]? = some k) ob' ob) (hargs:V1 (fun k i=>sel[i]? = some k) args' args)
 {res res':α→v7} {S S':α→List c5} {P:α→Prop} (h:b8 C f args obs fun r τ=>∃ a,r=res a∧τ=S a∧P a) (hS:∀ a,(S a).length=obs.length)
 (hrel:∀ a (i k:Nat) (x:c5),sel[i]? = some k→(S a)[i]? = some x→∃ x',(S' a)[i]? = some x'∧B2 (fun i k=>sel[i]? = some k) x x') (hres:∀ a,a2h (fun i k=>sel[i]? = some k) (res a) (res' a)) :
 b8 C f args' σ fun r τ=>∃ a,r=res' a∧τ=a4I σ sel (S' a)∧P a:=by
 refine B4 sel hC hlen hnd hobs hargs h fun r τ hk=>?_
 obtain ⟨a,rfl,rfl,hp⟩:=hk
 have up:∀ {c c':CV},H3 (fun i k=>sel[i]? = some k) c c'→H3 (O9 sel σ.length) c c':=fun hh=>H3.mono (fun _ _ h=>.inl h) hh
 refine ⟨by rw [hS]; exact Nat.le_refl _,res' a,a4I σ sel (S' a),?_,by rw [a4t,hS]; omega,fun k _ hks=>a9H hks,fun i k x ha hx=>?_,a,rfl,rfl,hp⟩
 ·have:=hres a
  generalize hra:res a=ra at this
  generalize hrb:res' a=rb at this
  cases this with
  | ret h=>exact .ret (up h)
  | pan h=>exact .pan (up h)
 ·rcases ha with ha | ⟨ha,_⟩
  ·obtain ⟨x',h1,h2⟩:=hrel a i k x ha hx
   have hks:k < σ.length:=by
    have hi:i < obs.length:=by rw [← hlen]; exact (List.getElem?_eq_some_iff.1 ha).1
    obtain ⟨ob',g1,_⟩:=hobs i k obs[i] ha (by simp [hi])
    exact (List.getElem?_eq_some_iff.1 g1).1
   exact ⟨x',b1Q hnd hks ha h1,B2.mono (fun _ _ h=>.inl h) h2⟩
  ·have:=(List.getElem?_eq_some_iff.1 hx).1
   rw [hS,← hlen] at this
   omega
theorem b07 {α:Type} {C:Ctx} {f:FuncId} {args args':List CV} {obs σ:List c5} (sel:List Nat) (hC:C.plain) (hlen:sel.length=obs.length) (hnd:a7H sel) {obs':List c5}
 (hobs:∀ (i k:Nat) (ob:c5),sel[i]? = some k→obs[i]? = some ob→∃ ob',obs'[i]? = some ob'∧σ[k]? = some ob'∧B2 (fun i k=>sel[i]? = some k) ob ob') (hargs:V1 (fun k i=>sel[i]? = some k) args' args)
 {c:α→CV} {P:α→Prop} (hc:∀ a,P a→p5 (c a)) (h:b8 C f args obs fun r τ=>∃ a,r = .ret (c a)∧τ=obs∧P a):b8 C f args' σ fun r τ=>∃ a,r = .ret (c a)∧τ=σ∧P a:=by
 refine B4 sel hC hlen hnd (fun i k ob g1 g2=>?_) hargs h fun r τ hk=>?_
 ·obtain ⟨ob',_,h2,h3⟩:=hobs i k ob g1 g2
  exact ⟨ob',h2,h3.symm fun _ _ h=>h⟩
 ·obtain ⟨a,rfl,rfl,hp⟩:=hk
  refine ⟨Nat.le_refl _,.ret (c a),σ,.ret (.pure (hc a hp)),by omega,fun _ _ _=>rfl,fun i k x ha hx=>?_,a,rfl,rfl,hp⟩
  rcases ha with ha | ⟨ha,_⟩
  ·obtain ⟨ob',_,h2,h3⟩:=hobs i k x ha hx
   exact ⟨ob',h2,B2.mono (fun _ _ h=>.inl h) h3⟩
  ·have:=(List.getElem?_eq_some_iff.1 hx).1
   rw [← hlen] at this
   omega
theorem a0D {α:Type} {C:Ctx} {f:FuncId} {args:List CV} (hC:C.plain) (hargs:∀ a∈args,p5 a) {res:α→v7} {res':α→Nat→v7} {S:α→List c5} {S':α→Nat→List c5} {P:α→Prop} (h:b8 C f args [] fun r τ=>∃ a,r=res a∧τ=S a∧P a)
 (hlen:∀ a n,(S' a n).length=(S a).length) (hrel:∀ a (n i:Nat) (x:c5),(S a)[i]? = some x→∃ x',(S' a n)[i]? = some x'∧B2 (fun i k=>k=n+i) x x') (hres:∀ a n,a2h (fun i k=>k=n+i) (res a) (res' a n)) (σ:List c5) :
 b8 C f args σ fun r τ=>∃ a,r=res' a σ.length∧τ=σ++S' a σ.length∧P a:=by
 refine B4 [] hC rfl (fun i j k h=>by simp at h) (fun i k ob h=>by simp at h) (by
  refine ⟨rfl,fun i c c' h h'=>?_⟩
  rw [h] at h'; injection h' with h'; subst h'
  exact .pure (hargs c (List.mem_of_getElem? h))) h fun r τ hk=>?_
 obtain ⟨a,rfl,rfl,hp⟩:=hk
 have up:∀ i k,k=σ.length+i→O9 [] σ.length i k:=fun i k h=>.inr ⟨Nat.zero_le _,by simpa using h⟩
 refine ⟨Nat.zero_le _,res' a σ.length,σ++S' a σ.length,?_,by simp [hlen],fun k hk _=>List.getElem?_append_left hk,fun i k x ha hx=>?_,a,rfl,rfl,hp⟩
 ·have:=hres a σ.length
  generalize hra:res a=ra at this
  generalize hrb:res' a σ.length=rb at this
  cases this with
  | ret h=>exact .ret (H3.mono up h)
  | pan h=>exact .pan (H3.mono up h)
 ·rcases ha with ha | ⟨_,ha⟩
  ·simp at ha
  ·obtain ⟨x',h1,h2⟩:=hrel a σ.length i x hx
   refine ⟨x',?_,B2.mono up h2⟩
   rw [ha,List.getElem?_append_right (by omega)]
   simpa using h1
section
variable {C:Ctx} {σ:List c5} {E:Env} {o:Oper}
theorem a48 {M:l3} {w:World} {c:CV} {v:Value} {t:TypeId} {K:v7→List c5→Prop} (hr:Rel C M σ w) (h:RV M w c v) (ho:c.one=true∨∃ cs,c = .agg cs) (hk:K (.ret (.ptr σ.length 0)) (σ++[.boxT (some t) c.cells])) :
 a0m C M w K (.pointer (some ⟨w.heap.size,0,none⟩)) (w.alloc (.cells v.cells t)):=by
 obtain ⟨h1,h2,h3⟩:=h.cells ho
 have hx:=Ext.alloc hr ⟨w.heap.size,0,0⟩ (.cells v.cells t)
 refine ⟨.ptr σ.length 0,_,_,hx,hr.alloc ⟨w.heap.size,0,0⟩ _ (.boxT (some t) c.cells) rfl ⟨v.cells,t,s9 w _,h1,h2,fun i x hi=>(h3 i x hi).mono hx⟩,?_,hk⟩
 exact .ptr (p:=⟨w.heap.size,0,0⟩) (by simp [l3.add,← hr.len])
theorem b8t {t:TypeId} {x:Operand} {c:CV} {K:v7→List c5→Prop} (ho:o.op = .box t x) (hx:E.valid x) (ex:E.val C x=c) (hc:c.one=true∨∃ cs,c = .agg cs) (hk:K (.ret (.ptr σ.length 0)) (σ++[.boxT (some t) c.cells])):C2 C σ E o K:=fun M w ρ hr h=>by
 have h1:=h x (by simp [ho,Op.operands]) hx
 rw [ex] at h1
 have:(execOp ρ o).run C.P w = .ok (.value (.pointer (some ⟨w.heap.size,0,none⟩))) (w.alloc (.cells (ρ x).cells t)):=by
  simp [execOp,ho,Instr.box,V5]
 rw [this]
 exact a48 hr h1 hc hk
theorem a8O {t:TypeId} {z:Value} {K:v7→List c5→Prop} (ho:o.op = .alloc t) (hz:∀ w,(zeroValue t).run C.P w = .ok z w) (hz1:E3 z=true) (hz2:(C3 z).one=true∨∃ cs,C3 z = .agg cs) (hk:K (.ret (.ptr σ.length 0)) (σ++[.boxT (some t) (C3 z).cells])):C2 C σ E o K:=fun M w ρ hr h=>by
 have:(execOp ρ o).run C.P w = .ok (.value (.pointer (some ⟨w.heap.size,0,none⟩))) (w.alloc (.cells z.cells t)):=by
  simp [execOp,ho,Instr.alloc,hz,V5]
 rw [this]
 exact a48 hr (O8 hz1) hz2 hk
theorem a8w {t t' te:TypeId} {x:Operand} {k off:Nat} (ho:o.op = .binOp .eql t x (.const (.pointer none)) t') (hx:E.valid x) (ex:E.val C x = .ptr k off) (hu:∀ w,(underlying t).run C.P w = .ok (.pointer te) w):m6 C σ E o (.val (.bool false)) :=
 j7 fun M w ρ _ h=>by
  have h1:=h x (by simp [ho,Op.operands]) hx
  rw [ex] at h1
  have e2:=n8 (h (.const (.pointer none)) (by simp [ho,Op.operands]) rfl)
  generalize hv:ρ x=v at h1
  cases h1 with
  | ptr hp =>
   rename_i p
   have he:(Op.equal t (.pointer (some ⟨p.block,off,none⟩)) (.pointer none)).run C.P w = .ok false w:=by
    unfold Op.equal
    rw [show Op.maxDepth=(Op.maxDepth - 1)+1 from rfl,Op.equalIn]
    simp [hu]
   exact ⟨.bool false,by simp [execOp,ho,hv,e2,eqGuard,binOp,he],.val _⟩
theorem b2B {t t' te:TypeId} {x:Operand} (ho:o.op = .binOp .eql t x (.const (.pointer none)) t') (hx:E.valid x) (ex:E.val C x = .val (.pointer none)) (hu:∀ w,(underlying t).run C.P w = .ok (.pointer te) w):m6 C σ E o (.val (.bool true)) :=
 j7 fun M w ρ _ h=>by
  have h1:=h x (by simp [ho,Op.operands]) hx
  rw [ex] at h1
  have e1:=n8 h1
  have e2:=n8 (h (.const (.pointer none)) (by simp [ho,Op.operands]) rfl)
  have he:(Op.equal t (.pointer none) (.pointer none)).run C.P w = .ok true w:=by
   unfold Op.equal
   rw [show Op.maxDepth=(Op.maxDepth - 1)+1 from rfl,Op.equalIn]
   simp [hu]
  exact ⟨.bool true,by simp [execOp,ho,e1,e2,eqGuard,binOp,he],.val _⟩
theorem a6O {t t':TypeId} {x y:Operand} {k off:Nat} (ho:o.op = .binOp .neq t x y t') (hx:E.valid x) (hy:E.valid y) (ex:E.val C x = .ptr k off) (ey:E.val C y = .ptr k off) (te':TypeId) (hp:C.P.underlying t=some (.pointer te')) (hte:(C.P.info? te').isSome=true):m6 C σ E o (.val (.bool false)) :=
 j7 fun M w ρ _ h=>by
  obtain ⟨j,hte⟩:=Option.isSome_iff_exists.1 hte
  have h1:=h x (by simp [ho,Op.operands]) hx
  have h2:=h y (by simp [ho,Op.operands]) hy
  rw [ex] at h1
  rw [ey] at h2
  generalize hv:ρ x=v at h1
  generalize hv':ρ y=v' at h2
  cases h1 with
  | ptr q1 =>
   rename_i p
   cases h2 with
   | ptr q2 =>
    rename_i p'
    rw [q1] at q2
    injection q2 with q2
    subst q2
    have:=Lib.run_neq_ptr_same (P:=C.P) (w:=w) ⟨p.block,off,none⟩ hp hte
    exact ⟨.bool false,by simp [execOp,ho,hv,hv',eqGuard,this],.val _⟩
theorem b0Q {e:TypeId} {src dst:TypeId} {x:Operand} {k off:Nat} {cells:List CV} (ho:o.op = .convert src dst x) (hx:E.valid x) (ex:E.val C x = .ptr k off) (hk:σ[k]? = some (.boxT (some e) cells)) (hoff:off < cells.length)
 (t:TypeId) (hs:C.P.underlying src=some (.pointer t)) (hd:C.P.underlying dst=some .unsafePointer) (ht:((C.P.info? t).any fun j=>j.size != 0)=true):m6 C σ E o (.ptr k off) :=
 j7 fun M w ρ hr h=>by
  obtain ⟨j,ht,hj⟩:∃ j,C.P.info? t=some j∧j.size≠0:=by
   rw [Option.any_eq_true_iff_get] at ht
   exact ⟨_,Option.eq_some_of_isSome ht.1,by simpa using ht.2⟩
  have h1:=h x (by simp [ho,Op.operands]) hx
  rw [ex] at h1
  generalize hv:ρ x=v at h1
  cases h1 with
  | ptr hp =>
   rename_i p
   obtain ⟨arr,ty,e1,e2,_⟩:=(hr.obj k p _ hp hk).1
   have hsh:w.shape? p.block=some (e,arr.size):=by simp [World.shape?,e1]
   have:=Lib.run_to_unsafe (P:=C.P) (w:=w) (src:=src) (dst:=dst) ⟨p.block,off,none⟩ hs hd ht hj hsh (by rw [e2]; exact hoff)
   exact ⟨_,by simp [execOp,ho,hv,this],.ptr hp⟩
theorem a7E {e:TypeId} {src dst:TypeId} {x:Operand} {k off:Nat} {cells:List CV} (ho:o.op = .convert src dst x) (hx:E.valid x) (ex:E.val C x = .ptr k off) (hk:σ[k]? = some (.boxT (some e) cells))
 (u:TypeId) (hs:C.P.underlying src=some .unsafePointer) (hd:C.P.underlying dst=some (.pointer u)) (ht:(C.P.info? u).isSome=true) (hl:liesAt C.P C.P.depth e (cells.length / C.P.cellsOf e) off u 1=true):m6 C σ E o (.ptr k off) :=
 j7 fun M w ρ hr h=>by
  obtain ⟨j,ht⟩:=Option.isSome_iff_exists.1 ht
  have h1:=h x (by simp [ho,Op.operands]) hx
  rw [ex] at h1
  generalize hv:ρ x=v at h1
  cases h1 with
  | ptr hp =>
   rename_i p
   obtain ⟨arr,ty,e1,e2,_⟩:=(hr.obj k p _ hp hk).1
   have hsh:w.shape? p.block=some (e,arr.size):=by simp [World.shape?,e1]
   have:=Lib.run_from_unsafe (P:=C.P) (w:=w) (src:=src) (dst:=dst) ⟨p.block,off,none⟩ hs hd ht hsh (by rw [e2]; exact hl)
   exact ⟨_,by simp [execOp,ho,hv,this],.ptr hp⟩
theorem b76 {f : FuncId} {fn : Func} {e : Array Value → Sem Value} {ts : Array TypeId} {x : Operand} {c : CV} (ho : o.op = .call { callee := .value (.func f), args := #[x], argTypes := ts }) (hf : C.P.funcs[f]? = some fn) (hname : (fn.name == "runtime.NumGoroutine") = false) (hb : fn.body.isNone = true) (hn : Extern.findNext fn = none) (he : Extern.find fn = some e)
 (hx:E.valid x) (ex:E.val C x=c) (hr:∀ v w,(e #[v]).run C.P w = .ok v w):m6 C σ E o c :=
 j7 fun M w ρ _ hh=>by
  have h1:=hh x (by simp [ho,Op.operands,Call.operands]) hx
  have hfn:=n8 (hh (.func f) (by simp [ho,Op.operands,Call.operands]) tt)
  rw [ex] at h1
  refine ⟨ρ x,?_,h1⟩
  have:=V2 (args:=#[ρ x]) (w:=w) hf hname hb hn he (hr (ρ x) w)
  simp [execOp,ho,resolve,hfn,Deferred.ofValue,invoke,this]
theorem a8E {t:TypeId} {x:Operand} {rows:List (List CV)} {k:Nat} (ho:o.op = .call { callee:=.builtin .unsafeSliceData,args:=#[x],argTypes:=#[t]}) (hx:E.valid x) (ex:E.val C x = .list rows true (some k)) (hne:rows≠[]):m6 C σ E o (.eptr k 0 0) :=
 j7 fun M w ρ _ h=>by
  have h1:=h x (by simp [ho,Op.operands,Call.operands]) hx
  rw [ex] at h1
  obtain ⟨a,cap,b,off,s,vals,hv,hcap,hcmax,hnn,hn0,ha,hrl,hone,hc,hrv,htok⟩:=h1.list_inv
  obtain ⟨s',hp,ha0,rfl,hs⟩:=htok k rfl
  have hl:0 < rows.length:=List.length_pos_iff.2 hne
  refine ⟨.pointer (some ⟨b,0,none⟩),?_,?_⟩
  ·have:=Lib.run_unsafeSliceData_row (P:=C.P) (w:=w) #[t] o.type ⟨b,0,none⟩ rows.length cap (by omega)
   simp [execOp,ho,resolve,invoke,builtin,hv,ha0,this]
  ·have:=RV.eptr (w:=w) (i:=0) (off:=0) hp
   simpa using this
theorem a7c {t:TypeId} {x:Operand} (ho:o.op = .call { callee:=.builtin .unsafeSliceData,args:=#[x],argTypes:=#[t]}) (hx:E.valid x) (ex:E.val C x = .list [] false none):m6 C σ E o (.val (.pointer none)) :=
 j7 fun M w ρ _ h=>by
  have h1:=h x (by simp [ho,Op.operands,Call.operands]) hx
  rw [ex] at h1
  obtain ⟨a,cap,b,off,s,vals,hv,hcap,hcmax,hnn,hn0,ha,hrl,hone,hc,hrv,htok⟩:=h1.list_inv
  have:a=none:=by cases a <;> first|rfl | simp at hnn
  subst this
  refine ⟨.pointer none,?_,.val _⟩
  have:=Lib.run_unsafeSliceData_nil (P:=C.P) (w:=w) #[t] o.type ([]:List (List CV)).length cap
  simp only [List.length_nil] at this hv
  simp [execOp,ho,resolve,invoke,builtin,hv,this]
theorem Rel.tipKill {M:l3} {w:World} (hr:Rel C M σ w) {k n:Nat} {p:Pl} {t0:Option TypeId} {cur:Array Value} {ty:TypeId} {fr fr':Nat × Nat} (hp:M.pl[k]? = some p) (hk:σ[k]? = some (.tipT t0 n)) (hc:w.heap[p.block]? = some (.cells cur ty fr)) :
 Ext M w M (World.putObj w p.block (.cells cur ty fr'))∧Rel C M (σ.set k .dead) (World.putObj w p.block (.cells cur ty fr')):=by
 obtain ⟨⟨q1,q2,q3,cur0,ty0,q4,q5⟩,hfree⟩:=hr.obj k _ _ hp hk
 have hb:p.block < w.heap.size:=(Array.getElem?_eq_some_iff.1 hc).1
 have hx:Ext M w M (World.putObj w p.block (.cells cur ty fr')):=by
  refine ⟨⟨[],by simp⟩,fun _ h=>h,fun _ _ h=>.inr h,fun b' h=>World.putObj_other w _ (fun e=>hfree (e ▸ h)),fun b' o' h=>?_,by rw [World.putObj_size]; exact Nat.le_refl _,G5,rfl,rfl,rfl,fun b' h=>⟨h,World.putObj_other w _ (fun e=>hr.nk k p _ hp hk rfl (e ▸ h)),id,fun _=>id⟩⟩
  by_cases he:p.block=b'
  ·subst he
   simp only [World.cell?,World.putObj_same w _ hb,hc]
  ·exact B5 (World.putObj_other w _ he)
 have hd:=hr.dead k
 refine ⟨hx,hd.len,fun b o' ha=>by rw [World.putObj_size]; exact hr.blk b o' ha,fun k' p' x hp' hx'=>?_,hd.inj,fun g cells hg=>(hr.glob g cells hg).mono hx,fun b h=>(by rw [World.putObj_size]; exact hr.kep b h),hd.nk⟩
 obtain ⟨h1,h2⟩:=hd.obj k' p' x hp' hx'
 refine ⟨?_,h2⟩
 by_cases hl:x.live=true
 ·have hkk:k'≠k:=by
   rintro rfl
   rw [List.getElem?_set_self (List.getElem?_eq_some_iff.1 hk).1] at hx'
   injection hx' with hx'
   subst hx'
   cases hl
  rw [List.getElem?_set_ne (Ne.symm hkk)] at hx'
  have hne:p.block≠p'.block:=fun e=>hkk (hr.inj k' k p' p x _ hp' hp hx' hk hl rfl e.symm)
  exact h1.mono hx (World.putObj_other w _ hne) (fun _ _ _ _ h=>h)
 ·cases x <;> first | trivial | simp [c5.live] at hl
theorem b0O {w:World} {b n:Nat} {cur:Array Value} {ty:TypeId} {fr:Nat × Nat} (hc:w.heap[b]? = some (.cells cur ty fr)) (hn:n≠0):∃ fr',w.freeze ⟨b,0,none⟩ n=World.putObj w b (.cells cur ty fr'):=by
 have hb:b < w.heap.size:=(Array.getElem?_eq_some_iff.1 hc).1
 obtain ⟨lo,hi⟩:=fr
 refine ⟨if lo == hi then (0,0+n) else (min lo 0,max hi (0+n)),?_⟩
 have hg:w.heap[b] = .cells cur ty (lo,hi):=by
  have:=(Array.getElem?_eq_some_iff.1 hc).2
  exact this
 simp only [World.freeze,if_neg hn,World.putObj]
 congr 1
 apply Array.ext_getElem?
 intro i
 rw [Array.getElem?_modify,Array.getElem?_setIfInBounds]
 by_cases hi':b=i
 ·subst hi'
  simp [hb,hg]
 ·simp [hi']
theorem a4k {pt it e:TypeId} {x y:Operand} {q k i:Nat} {cells:List CV} {t0:Option TypeId} {l:Str} {K:v7→List c5→Prop} (ho:o.op = .call { callee:=.builtin .unsafeString,args:=#[x,y],argTypes:=#[pt,it]}) (hx:E.valid x) (hy:E.valid y) (ex:E.val C x = .eptr q 0 0) (ey:E.val C y = .val (.int .i64 l.length))
 (hq:σ[q]? = some (.tipT (some e) l.length)) (hk:σ[k]? = some (.boxT t0 cells)) (hi:cells[i]? = some (.list (l.map bcv) true (some q))) (hne:l≠[])
 (hp:C.P.underlying pt=some (.pointer e)) (hc:C.P.cellsOf e=1) (h:K (.ret (sv l)) (σ.set q .dead)):C2 C σ E o K:=fun M w ρ hr hh=>by
 have h1:=hh x (by simp [ho,Op.operands,Call.operands]) hx
 have h2:=n8 (ey ▸ hh y (by simp [ho,Op.operands,Call.operands]) hy)
 rw [ex] at h1
 generalize hv:ρ x=v at h1
 cases h1 with
 | eptr hpl =>
  rename_i p
  obtain ⟨pk,hpk⟩:∃ pk,M.pl[k]? = some pk:=by
   have:=(List.getElem?_eq_some_iff.1 hk).1
   rw [← hr.len] at this
   exact ⟨_,List.getElem?_eq_getElem this⟩
  obtain ⟨arr,ty,e1,e2,e3,e4⟩:=(hr.obj k pk _ hpk hk).1
  obtain ⟨a,cap,b,off,s,vals,hvv,hcap,hcmax,hnn,hn0,ha,hrl,hone,hcell,hrv,htok⟩:=(e4 i _ hi).list_inv
  obtain ⟨s',hp',ha0,rfl,hs⟩:=htok q rfl
  rw [hpl] at hp'
  injection hp' with hp'
  subst hp'
  have hne':l.map bcv≠[]:=by simpa using hne
  have hs1:s=1:=by
   cases l with
   | nil=>exact absurd rfl hne
   | cons x l=>exact (hrl (bcv x) (by simp)).symm
  subst hs1
  have hs':=hs hne'
  subst hs'
  obtain ⟨⟨q1,q2,q3,cur,ty',q4,q5⟩,_⟩:=hr.obj q _ _ hpl hq
  simp only [Option.getD_some,Nat.mul_one] at q1 q4 q5
  have hcells:∀ j x,l[j]? = some x→w.cell? ((⟨b,0,none⟩:Addr).add j)=some (.int .u8 x.toNat):=fun j x hj=>by
   have g:(l.map bcv)[j]? = some (bcv x):=by rw [List.getElem?_map,hj]; rfl
   have:=(hcell j 0 _ _ g rfl).2
   have hz:=n8 (hrv j 0 _ _ g rfl)
   rw [hz] at this
   simp only [Nat.mul_one,Nat.zero_add,Nat.add_zero] at this
   rw [J8]
   simpa using this
  have hlen:l.length≤cap:=by simpa using hcap
  have hus:=Lib.run_unsafeString_row (P:=C.P) w pt it o.type e hp hc b cur.size (by simp [World.shape?,q4]) l hne (by rw [q5]; exact hlen) (by unfold maxLen at hcmax; omega) hcells
  obtain ⟨fr',hfr⟩:=b0O q4 (n:=l.length) (by simpa using hne)
  have hrun:(execOp ρ o).run C.P w = .ok (.value (.string ⟨l.toArray⟩)) (World.putObj w b (.cells cur e fr')):=by
   rw [← hfr]
   simp [execOp,ho,resolve,invoke,builtin,hv,h2,hus]
  rw [hrun]
  obtain ⟨g1,g2⟩:=hr.tipKill (fr':=fr') hpl hq q4
  exact ⟨_,_,_,g1,g2,.val _,h⟩
theorem b0q {y:Operand} {l:Str} (ey:E.val C y=sv l):∀ M w v,Rel C M σ w→RV M w (E.val C y) v→b0U C w M (l.map bcv) 1 v:=fun M w v _ h=>by
 rw [ey] at h
 have hv:=n8 h
 subst hv
 refine ⟨fun w'=>by simp [Builtin.lenOf,str,ByteArray.size],fun r hr=>?_,(l.map fun b=>Value.int .u8 b.toNat).toArray,?_,by simp,fun i j r c hi hj=>?_⟩
 ·obtain ⟨b,_,rfl⟩:=List.mem_map.1 hr; rfl
 ·simp [Builtin.firstCells,str]
 ·rw [List.getElem?_map,Option.map_eq_some_iff] at hi
  obtain ⟨b,hb,rfl⟩:=hi
  rcases j with _ | j
  ·simp only [bcv,List.getElem?_cons_zero,Option.some.injEq] at hj
   subst hj
   refine ⟨?_,rfl⟩
   have:((l.map fun b=>Value.int .u8 b.toNat).toArray).getD (i*1+0) undef = .int .u8 b.toNat:=by simp [Array.getD_eq_getD_getElem?,hb]
   rw [this]
   exact .val _
  ·cases hj
end
end Go.Cl
namespace Go.Cl
def r2 (t:TypeId):Nat→c5
 | 0=>.dead
 | n+1=>.tipT (some t) (n+1)
def Y5 (l:Str) (p:Nat):CV:=.list (l.map bcv) (gnn l.length) (P6 l.length p)
theorem a6h (t:TypeId) (n m:Nat):C8 n (r2 t m):=by cases m <;> trivial
section
variable {C:Ctx} {σ:List c5} {E:Env} {o:Oper}
theorem a27 {t t2 e:TypeId} {x y:Operand} {l new:Str} {p:Nat} {ti:TypeInfo} {z:Value} {K:v7→List c5→Prop} (ho:o.op = .call { callee:=.builtin .append,args:=#[x,y],argTypes:=#[t,t2]}) (hx:E.valid x) (hy:E.valid y) (ex:E.val C x=Y5 l p)
 (hsrc:∀ M w v,Rel C M σ w→RV M w (E.val C y) v→b0U C w M (new.map bcv) 1 v) (hu:∀ w,(underlying t).run C.P w = .ok (.slice e) w) (hs:∀ w,(sizeOf e).run C.P w = .ok 1 w) (hti:∀ w,(typeInfo e).run C.P w = .ok ti w) (hz:∀ w,(zeroValue e).run C.P w = .ok z w) (hzs:z.cells.size=1)
 (hu2:(∀ w,(underlying t2).run C.P w = .ok (.slice e) w)∨∀ w,(underlying t2).run C.P w = .ok .string w) (hb1:ti.bytes=1)
 (happ:σ[p]? = some (r2 e l.length)) (hb:l.length+new.length≤140737488355328)
 (hk:K (.ret (Y5 (l++new) σ.length)) (σ.set p .dead++[r2 e (l++new).length])):C2 C σ E o K:=by
 have hrs:∀ (l:Str),∀ r∈l.map bcv,r.length=1:=fun l r hr=>by
  obtain ⟨b,_,rfl⟩:=List.mem_map.1 hr; rfl
 rcases new with _ | ⟨r1,new⟩
 ·
  intro M w ρ hr hh
  have h1:=hh x (by simp [ho,Op.operands,Call.operands]) hx
  have h2:=hh y (by simp [ho,Op.operands,Call.operands]) hy
  rw [ex,Y5] at h1
  obtain ⟨hlen,_,arr,hfn,hszn,_⟩:=hsrc M w _ hr h2
  obtain ⟨a,cap,b,off,s',vals,hv,hcap,hcmax,hnn,hn0,ha,hrl,hone,hc,hrv,htok⟩:=h1.list_inv
  have hexec:(execOp ρ o).run C.P w=((Builtin.append_ #[t,t2] o.type #[ρ x,ρ y]).run C.P w).andThen fun v w=>.ok (.value v) w:=by
   simp [execOp,ho,resolve,invoke,builtin]
  have harr:arr = #[]:=by
   apply Array.eq_empty_of_size_eq_zero; simpa using hszn
  subst harr
  have hlen':∀ w',(Builtin.lenOf (ρ y)).run C.P w' = .ok 0 w':=by simpa using hlen
  have hfn':(Builtin.firstCells 1 0 (ρ y)).run C.P w = .ok #[] w:=by simpa using hfn
  have hcap':l.length≤cap:=by simpa using hcap
  have hrun:(execOp ρ o).run C.P w = .ok (.value (.slice a (l.map bcv).length cap)) w:=by
   rw [hexec,hv]
   rcases hu2 with hu2 | hu2
   all_goals
    cases a with
    | none=>simp [Builtin.append_,hu,hu2,hs,hlen',hfn',hcap',storeCells]
    | some a=>simp [Builtin.append_,hu,hu2,hs,hlen',hfn',hcap',storeCells]
  rw [hrun]
  simp only [List.append_nil] at hk
  rcases l with _ | ⟨r0,l⟩
  ·obtain ⟨hr1,hx1⟩:=(hr.dead p).addDead ⟨0,0,0⟩
   exact ⟨_,_,_,hx1,hr1,by simpa [Y5,gnn,P6,hv] using h1.mono hx1,hk⟩
  ·obtain ⟨sz,hp,ha0,hoff,hsz⟩:=htok p rfl
   obtain ⟨hx1,hr1⟩:=hr.tipNew (m:=(r0::l).length) hp happ (Nat.le_refl _) hcap'
   refine ⟨_,_,_,hx1,hr1,?_,hk⟩
   have hl:=h1.mono hx1
   rw [hv] at hl
   obtain ⟨a',cap',b',off',s'',vals',hv',q1,q2,q3,q4,q5,q6,q7,q8,q9,q10⟩:=hl.list_inv
   injection hv' with e1 e2 e3
   subst e1 e3
   refine RV.list' (L:=((r0::l).map bcv).length) rfl vals' q1 q2 (by rw [q3]) (fun h=>by cases h) q5 q6 q7 q8 q9 (fun k' hk'=>?_)
   obtain ⟨s3,g1,g2,g3,g4⟩:=q10 p rfl
   injection hk' with hk'
   subst hk'
   refine ⟨s3,?_,g2,g3,g4⟩
   have e4:=hx1.get hp
   rw [g1] at e4
   rw [e4]
   simp [l3.add,← hr.len]
 ·have hne:(r1::new).map bcv≠[]:=by simp
  have hbb:((l.map bcv).length+((r1::new).map bcv).length)*ti.bytes≤140737488355328:=by rw [hb1]; simp only [List.length_map]; simpa using hb
  have hmm:(l.map bcv).length+((r1::new).map bcv).length≤9223372036854775807:=by simp only [List.length_map]; simp only [List.length_cons] at hb ⊢; omega
  have hK:K (.ret (.list (l.map bcv++(r1::new).map bcv) true (some σ.length))) (σ.set p .dead++[.tipT (some e) ((l.map bcv).length+((r1::new).map bcv).length)]):=by
   have e1:(l++r1::new).length=(l.length+new.length)+1:=by simp; omega
   have e2:(l.map bcv).length+((r1::new).map bcv).length=(l.length+new.length)+1:=by simp; omega
   rw [Y5,e1] at hk
   rw [e2,← List.map_append]
   exact hk
  rcases l with _ | ⟨r,l⟩
  ·have hee:σ.set p .dead=σ:=by
    refine List.ext_getElem? fun i=>?_
    rw [List.getElem?_set]
    split
    ·rename_i h'; subst h'
     rw [if_pos (List.getElem?_eq_some_iff.1 happ).1,happ]; rfl
    ·rfl
   rw [hee] at hK
   exact a3b ho hx hy ex hsrc hu hs hti hz hzs hu2 (.inr rfl) (fun _=>rfl) (.inl ⟨rfl,rfl,rfl⟩) (hrs []) hne hbb hmm hK
  ·refine a3b ho hx hy ex hsrc hu hs hti hz hzs hu2 (.inr rfl) (fun _=>rfl) (.inr ⟨by simp,p,rfl,?_⟩) (hrs _) hne hbb hmm hK
   simpa [r2] using happ
theorem a3X {pt it:TypeId} {x y:Operand} {K:v7→List c5→Prop} (ho:o.op = .call { callee:=.builtin .unsafeString,args:=#[x,y],argTypes:=#[pt,it]}) (hx:E.valid x) (hy:E.valid y) (ex:E.val C x = .val (.pointer none)) (ey:E.val C y = .val (.int .i64 0)) (h:K (.ret (sv [])) σ):C2 C σ E o K:=fun M w ρ hr hh=>by
 have h1:=n8 (ex ▸ hh x (by simp [ho,Op.operands,Call.operands]) hx)
 have h2:=n8 (ey ▸ hh y (by simp [ho,Op.operands,Call.operands]) hy)
 have:=Lib.run_unsafeString_none (P:=C.P) (w:=w) pt it o.type none
 have hrun:(execOp ρ o).run C.P w = .ok (.value (.string .empty)) w:=by simp [execOp,ho,resolve,invoke,builtin,h1,h2,this]
 rw [hrun]
 exact ⟨_,_,_,Ext.refl _ _,hr,.val _,h⟩
end
end Go.Cl
