/- Part 1 of what the claim needs: values without addresses, and what the program's functions do with them. -/
import Derived.WalkKit
import Derived.Test.YtoblbdedgjfeaaaGreatDoorZ0
namespace Go.Cl
inductive CV where
 | val (v:Value)
 | agg (cs:List CV)
 | tup (cs:List CV)
 | list (rows:List (List CV)) (nn:Bool) (tok:Option Nat)
 | ptr (k off:Nat)
 | cptr (cells:List CV)
 | eptr (k i off:Nat)
 | vec (k off len:Nat)
 | map (k:Nat)
 | clo (f:FuncId) (cs:List CV)
instance:Inhabited CV:=⟨.val undef⟩
structure Pl where
 block:Nat
 cap:Nat
 size:Nat
structure l3 where
 pl:List Pl
 full:Nat→Prop
 cell:Nat→Nat→Prop
 keep:Nat→Prop
def l3.at (M:l3) (b o:Nat):Prop:=M.full b∨M.cell b o
def CV.one:CV→Bool
 | .val v=>v.oneCell'
 | .agg _ | .tup _=>false
 | _=>true
inductive RV (M:l3) (w:World):CV→Value→Prop where
 | val (v:Value):RV M w (.val v) v
 | agg {cs:List CV} {vs:Array Value}:vs.size=cs.length→(∀ c∈cs,c.one=true)→(∀ (i:Nat) (c:CV),cs[i]? = some c→RV M w c (vs.getD i undef))→RV M w (.agg cs) (.agg vs)
 | tup {cs:List CV} {vs:Array Value}:vs.size=cs.length→(∀ (i:Nat) (c:CV),cs[i]? = some c→RV M w c (vs.getD i undef))→RV M w (.tup cs) (.tuple vs)
 | clo {f:FuncId} {cs:List CV} {vs:Array Value}:vs.size=cs.length→(∀ (i:Nat) (c:CV),cs[i]? = some c→RV M w c (vs.getD i undef))→RV M w (.clo f cs) (.func (.func f) #[] vs)
 | list {rows:List (List CV)} {nn:Bool} {tok:Option Nat} {a:Option Addr} {cap b off s:Nat} (vals:Nat→Nat→Value) :
  rows.length≤cap→cap≤maxLen→a.isSome=nn→(nn=false→cap=0)→(rows≠[]→a=some ⟨b,off,none⟩) →
  (∀ r∈rows,r.length=s)→(∀ r∈rows,∀ c∈r,c.one=true) →
  (∀ (i j:Nat) (r:List CV) (c:CV),rows[i]? = some r→r[j]? = some c→M.at b (off+i*s+j)∧w.cell? ⟨b,off+i*s+j,none⟩=some (vals i j)) →
  (∀ (i j:Nat) (r:List CV) (c:CV),rows[i]? = some r→r[j]? = some c→RV M w c (vals i j)) →
  (∀ k,tok=some k→∃ s',M.pl[k]? = some ⟨b,cap,s'⟩∧a=some ⟨b,0,none⟩∧off=0∧(rows≠[]→s'=s)) →
  RV M w (.list rows nn tok) (.slice a rows.length cap)
 | ptr {k off:Nat} {p:Pl}:M.pl[k]? = some p→RV M w (.ptr k off) (.pointer (some ⟨p.block,off,none⟩))
 | cptr {cells:List CV} {b off:Nat} (vals:Nat→Value):(∀ c∈cells,c.one=true) →
  (∀ (j:Nat) (c:CV),cells[j]? = some c→M.at b (off+j)∧w.cell? ⟨b,off+j,none⟩=some (vals j)) →
  (∀ (j:Nat) (c:CV),cells[j]? = some c→RV M w c (vals j)) →
  RV M w (.cptr cells) (.pointer (some ⟨b,off,none⟩))
 | eptr {k i off:Nat} {p:Pl}:M.pl[k]? = some p→RV M w (.eptr k i off) (.pointer (some ⟨p.block,i*p.size+off,none⟩))
 | vec {k off len:Nat} {p:Pl} {a:Addr}:M.pl[k]? = some p→off+len≤p.cap→p.cap≤maxLen→(off < p.cap→a=⟨p.block,off*p.size,none⟩)→RV M w (.vec k off len) (.slice (some a) len (p.cap - off))
 | map {k:Nat} {p:Pl}:M.pl[k]? = some p→RV M w (.map k) (.map (some p.block))
theorem G5 {a b:Nat} (h:a≤b:=by first|exact Nat.le_refl _|exact Nat.le_add_right _ _):a≤b:=h
structure Ext (M:l3) (w:World) (M':l3) (w':World):Prop where
 pl:∃ l,M'.pl=M.pl++l
 full:∀ b,M.full b→M'.full b
 cell:∀ b o,M.cell b o→M'.at b o
 same:∀ b,M.full b→w'.heap[b]? = w.heap[b]?
 sameC:∀ b o,M.cell b o→w'.cell? ⟨b,o,none⟩=w.cell? ⟨b,o,none⟩
 size:w.heap.size≤w'.heap.size
 drew:w.drawn≤w'.drawn
 os:w'.os=w.os
 tape:w'.tape=w.tape
 output:w'.output=w.output
 kept:∀ b,M.keep b→M'.keep b∧w'.heap[b]? = w.heap[b]?∧(M'.full b→M.full b)∧∀ o,M'.cell b o→M.cell b o
theorem Ext.refl (M:l3) (w:World):Ext M w M w :=
 ⟨⟨[],by simp⟩,fun _ h=>h,fun _ _ h=>.inr h,fun _ _=>rfl,fun _ _ _=>rfl,Nat.le_refl _,G5,rfl,rfl,rfl,fun _ h=>⟨h,rfl,id,fun _=>id⟩⟩
theorem B5 {w w':World} {b o:Nat} (h:w'.heap[b]? = w.heap[b]?):w'.cell? ⟨b,o,none⟩=w.cell? ⟨b,o,none⟩:=by
 simp [World.cell?,h]
theorem Ext.at {M M':l3} {w w':World} (h:Ext M w M' w') {b o:Nat} (ha:M.at b o):M'.at b o∧w'.cell? ⟨b,o,none⟩=w.cell? ⟨b,o,none⟩:=by
 rcases ha with ha | ha
 ·exact ⟨.inl (h.full _ ha),B5 (h.same _ ha)⟩
 ·exact ⟨h.cell _ _ ha,h.sameC _ _ ha⟩
theorem Ext.get {M M':l3} {w w':World} (h:Ext M w M' w') {k:Nat} {p:Pl} (hk:M.pl[k]? = some p):M'.pl[k]? = some p:=by
 obtain ⟨l,hl⟩:=h.pl
 rw [hl,List.getElem?_append_left (List.getElem?_eq_some_iff.1 hk).1]
 exact hk
theorem Ext.trans {M M' M'':l3} {w w' w'':World} (h:Ext M w M' w') (k:Ext M' w' M'' w''):Ext M w M'' w'':=by
 obtain ⟨l,hl⟩:=h.pl
 obtain ⟨l',hl'⟩:=k.pl
 refine ⟨⟨l++l',by rw [hl',hl,List.append_assoc]⟩,fun b hb=>k.full _ (h.full _ hb),fun b o hb=>(k.at (h.cell _ _ hb)).1,fun b hb=>(k.same _ (h.full _ hb)).trans (h.same _ hb),fun b o hb=>?_,Nat.le_trans h.size k.size,Nat.le_trans h.drew k.drew,k.os.trans h.os,k.tape.trans h.tape,k.output.trans h.output,fun b hb=>?_⟩
 ·exact (k.at (h.cell _ _ hb)).2.trans (h.sameC _ _ hb)
 ·obtain ⟨h1,h2,h3,h4⟩:=h.kept b hb
  obtain ⟨k1,k2,k3,k4⟩:=k.kept b h1
  exact ⟨k1,k2.trans h2,fun f=>h3 (k3 f),fun o f=>h4 o (k4 o f)⟩
theorem RV.mono {M M':l3} {w w':World} (h:Ext M w M' w') {c:CV} {v:Value} (hr:RV M w c v):RV M' w' c v:=by
 induction hr with
 | val v=>exact .val v
 | agg h1 h2 _ ih=>exact .agg h1 h2 ih
 | tup h1 _ ih=>exact .tup h1 ih
 | clo h1 _ ih=>exact .clo h1 ih
 | list vals h1 h2 h3 h4 h5 h6 h7 h8 _ h10 ih =>
  refine .list vals h1 h2 h3 h4 h5 h6 h7 (fun i j r c hi hj=>?_) ih (fun k hk=>?_)
  ·obtain ⟨ha,hc⟩:=h8 i j r c hi hj
   exact ⟨(h.at ha).1,(h.at ha).2.trans hc⟩
  ·obtain ⟨s',hp,hrest⟩:=h10 k hk
   exact ⟨s',h.get hp,hrest⟩
 | ptr hk=>exact .ptr (h.get hk)
 | cptr vals h1 h2 _ ih =>
  refine .cptr vals h1 (fun j c hj=>?_) ih
  obtain ⟨ha,hc⟩:=h2 j c hj
  exact ⟨(h.at ha).1,(h.at ha).2.trans hc⟩
 | eptr hk=>exact .eptr (h.get hk)
 | vec hk h1 h2 h3=>exact .vec (h.get hk) h1 h2 h3
 | map hk=>exact .map (h.get hk)
theorem RV.one {M:l3} {w:World} {c:CV} {v:Value} (hr:RV M w c v) (hc:c.one=true):v.oneCell'=true:=by
 cases hr <;> first|rfl|exact hc|(simp [CV.one] at hc)
inductive c5 where
 | dead
 | boxT (ty:Option TypeId) (cells:List CV)
 | tipT (ty:Option TypeId) (n:Nat)
 | vec (s:Nat) (rows:List (List CV))
 | map (es:List (CV × CV))
 | iter (cur left:List (CV × CV))
abbrev c5.box (cells:List CV):c5:=.boxT none cells
abbrev c5.tip (n:Nat):c5:=.tipT none n
def c5.live:c5→Bool
 | .dead=>false
 | _=>true
def a4l (ents:Array MapEntry):Prop:=∀ (i j:Nat) (e e':MapEntry),ents[i]? = some e→ents[j]? = some e'→e.born=e'.born→i=j
def G0 (M:l3) (w:World) (p:Pl):c5→Prop
 | .dead=>True
 | .boxT t0 cells=>∃ arr ty,w.heap[p.block]? = some (.cells arr (t0.getD ty) (0,0))∧arr.size=cells.length∧(∀ c∈cells,c.one=true)∧∀ (i:Nat) (c:CV),cells[i]? = some c→RV M w c (arr.getD i undef)
 | .tipT t0 n=>n≤p.cap∧p.cap≤maxLen∧((∀ o,M.cell p.block o→o < n*p.size)∧(t0.isSome=true→p.size=1))∧∃ arr ty,w.heap[p.block]? = some (.cells arr (t0.getD ty) (0,0))∧arr.size=p.cap*p.size
 | .vec s rows=>p.size=s∧rows.length≤p.cap∧p.cap≤maxLen∧(∀ r∈rows,r.length=p.size)∧(∀ r∈rows,∀ c∈r,c.one=true)∧∃ arr ty,w.heap[p.block]? = some (.cells arr ty (0,0))∧arr.size=p.cap*p.size ∧
  ∀ (i j:Nat) (r:List CV) (c:CV),rows[i]? = some r→r[j]? = some c→RV M w c (arr.getD (i*p.size+j) undef)
 | .map es=>∃ (ents:Array MapEntry) (clock:Nat),w.heap[p.block]? = some (.map ents clock)∧(ents.size=es.length∧a4l ents)∧(∀ (i:Nat) (x:CV × CV),es[i]? = some x→∃ e,ents[i]? = some e∧RV M w x.1 e.key∧RV M w x.2 e.val∧e.born < clock)
 | .iter cur left=>∃ (mb:Nat) (seen:Array Nat) (last:Nat) (ents:Array MapEntry) (clock:Nat),w.heap[p.block]? = some (.mapIter (some mb) clock seen last)∧M.full mb∧w.heap[mb]? = some (.map ents clock)∧(seen = #[]∨last=clock)∧a4l ents∧(∀ (i:Nat) (e:MapEntry),ents[i]? = some e→e.born < clock)∧(ents.toList.filter fun e=>!seen.contains e.born).length=left.length∧(∀ (i:Nat) (x:CV × CV),left[i]? = some x→∃ e,(ents.toList.filter fun e=>!seen.contains e.born)[i]? = some e∧RV M w x.1 e.key∧RV M w x.2 e.val)∧∀ (i:Nat) (x:CV × CV),cur[i]? = some x→last=clock∧∃ (j:Nat) (e:MapEntry),ents[j]? = some e∧seen.back? = some e.born∧RV M w x.1 e.key∧RV M w x.2 e.val
def a1F (M:l3) (p:Pl):c5→Prop
 | .dead=>True
 | .tipT _ _=>¬ M.full p.block
 | _=>¬ M.full p.block∧∀ o,¬ M.cell p.block o
structure Ctx where
 P:Program
 glob:Nat→Option (List CV)
structure GV (M:l3) (w:World) (cells:List CV) (g:Nat):Prop where
 rv:RV M w (.cptr cells) (.pointer (some ⟨g,0,none⟩))
 full:M.full g
 sz:∃ arr ty fr,w.heap[g]? = some (.cells arr ty fr)∧arr.size=cells.length
theorem GV.mono {M M':l3} {w w':World} (h:Ext M w M' w') {cells:List CV} {g:Nat} (hg:GV M w cells g):GV M' w' cells g :=
 ⟨hg.rv.mono h,h.full _ hg.full,by rw [h.same _ hg.full]; exact hg.sz⟩
structure Rel (C:Ctx) (M:l3) (σ:List c5) (w:World):Prop where
 len:M.pl.length=σ.length
 blk:∀ b o,M.at b o→b < w.heap.size
 obj:∀ (k:Nat) (p:Pl) (ob:c5),M.pl[k]? = some p→σ[k]? = some ob→G0 M w p ob∧a1F M p ob
 inj:∀ (k k':Nat) (p p':Pl) (ob ob':c5),M.pl[k]? = some p→M.pl[k']? = some p'→σ[k]? = some ob→σ[k']? = some ob'→ob.live=true→ob'.live=true→p.block=p'.block→k=k'
 glob:∀ g cells,C.glob g=some cells→GV M w cells g
 kep:∀ b,M.keep b→b < w.heap.size
 nk:∀ (k:Nat) (p:Pl) (ob:c5),M.pl[k]? = some p→σ[k]? = some ob→ob.live=true→¬ M.keep p.block
structure Env where
 f:Nat→CV
 ok:Nat→Prop
 un:Nat→Prop
def Env.put (E:Env) (d:Option Nat) (c:CV) (g:Prop):Env :=
 match d with
 | none=>E
 | some d=>{ f:=fun t=>match Nat.beq t d with | true=>c | false=>E.f t,ok:=fun t=>match Nat.beq t d with | true=>g | false=>E.ok t,un:=fun t=>match Nat.beq t d with | true=>¬ g | false=>E.un t}
theorem Env.put_f (E:Env) (d:Nat) (c:CV) (g:Prop) (t:Nat):(E.put (some d) c g).f t=if t=d then c else E.f t:=by
 show (match Nat.beq t d with | true=>c | false=>E.f t)=_
 by_cases h:t=d
 ·subst h; simp
 ·have:Nat.beq t d=false:=Bool.eq_false_iff.2 fun hb=>h (Nat.eq_of_beq_eq_true hb)
  rw [this,if_neg h]
theorem Env.put_ok (E:Env) (d:Nat) (c:CV) (g:Prop) (t:Nat):(E.put (some d) c g).ok t=if t=d then g else E.ok t:=by
 show (match Nat.beq t d with | true=>g | false=>E.ok t)=_
 by_cases h:t=d
 ·subst h; simp
 ·have:Nat.beq t d=false:=Bool.eq_false_iff.2 fun hb=>h (Nat.eq_of_beq_eq_true hb)
  rw [this,if_neg h]
theorem Env.put_un (E:Env) (d:Nat) (c:CV) (g:Prop) (t:Nat):(E.put (some d) c g).un t=if t=d then ¬ g else E.un t:=by
 show (match Nat.beq t d with | true=>¬ g | false=>E.un t)=_
 by_cases h:t=d
 ·subst h; simp
 ·have:Nat.beq t d=false:=Bool.eq_false_iff.2 fun hb=>h (Nat.eq_of_beq_eq_true hb)
  rw [this,if_neg h]
def a9W:Value→CV
 | .slice none _ _=>.list [] false none
 | v=>.val v
def C3:Value→CV
 | .agg cs=>.agg (cs.toList.map a9W)
 | v=>a9W v
def O7:Value→Bool
 | .slice none 0 0=>true
 | .slice _ _ _=>false
 | v=>v.oneCell'
def E3:Value→Bool
 | .agg cs=>cs.toList.all O7
 | .slice none 0 0=>true
 | .slice _ _ _=>false
 | _=>true
def Env.val (C:Ctx) (E:Env):Operand→CV
 | .tmp t=>E.f t
 | .const v=>C3 v
 | .global g=>match C.glob g with
  | some cells=>.cptr cells
  | none=>.val (.pointer (some ⟨g,0,none⟩))
 | .func f=>.val (.func (.func f) #[] #[])
def Env.valid (E:Env):Operand→Prop
 | .tmp t=>E.ok t
 | .const v=>E3 v=true
 | _=>True
theorem a8V {M:l3} {w:World} {v:Value} (h:O7 v=true):RV M w (a9W v) v:=by
 cases v with
 | slice a n c =>
  cases a with
  | some a=>simp [O7] at h
  | none =>
   have:n=0∧c=0:=by
    rcases n with _ | n <;> rcases c with _ | c <;> simp [O7] at h ⊢
   obtain ⟨rfl,rfl⟩:=this
   exact RV.list (rows:=[]) (b:=0) (off:=0) (s:=0) (fun _ _=>undef) (Nat.le_refl _) (by simp [maxLen]) rfl (fun _=>rfl) (fun h=>absurd rfl h) (by simp) (by simp) (by simp) (by simp) (by simp)
 | _=>exact .val _
theorem b3y {v:Value} (h:O7 v=true):(a9W v).one=true:=by
 cases v with
 | slice a n c=>cases a <;> rfl
 | _=>simpa [a9W,CV.one,O7] using h
theorem O8 {M:l3} {w:World} {v:Value} (h:E3 v=true):RV M w (C3 v) v:=by
 cases v with
 | agg cs =>
  have hc:∀ v∈cs,O7 v=true:=by
   have h':∀ v∈cs.toList,O7 v=true:=List.all_eq_true.1 h
   exact fun v hv=>h' v (by simpa using hv)
  refine .agg (by simp) (fun c hm=>?_) (fun i c hi=>?_)
  ·obtain ⟨v,hv,rfl⟩:=List.mem_map.1 hm
   exact b3y (hc v (by simpa using hv))
  ·simp only [List.getElem?_map,Option.map_eq_some_iff] at hi
   obtain ⟨v,hv,rfl⟩:=hi
   have hv':cs[i]? = some v:=by simpa using hv
   rw [Array.getD_eq_getD_getElem?,hv']
   exact a8V (hc v (Array.mem_of_getElem? hv'))
 | slice a n c =>
  refine a8V ?_
  rcases a with _ | a
  ·rcases n with _ | n <;> rcases c with _ | c <;> simp [E3,O7] at h ⊢
  ·simp [E3] at h
 | _=>exact .val _
structure G3 (M:l3) (w:World) (n:Nat) (E:Env) (a:Act):Prop where
 defers:a.defers=[]
 size:a.tmps.size=n
 rv:∀ t,E.ok t→RV M w (E.f t) (a.tmps.getD t undef)
 un:∀ t,E.un t→a.tmps.getD t undef=undef
theorem G3.mono {M M':l3} {w w':World} {n:Nat} {E:Env} {a:Act} (h:Ext M w M' w') (hf:G3 M w n E a):G3 M' w' n E a :=
 ⟨hf.defers,hf.size,fun t ht=>(hf.rv t ht).mono h,hf.un⟩
theorem G3.put {M:l3} {w:World} {n:Nat} {E:Env} {a:Act} {d:Option Nat} {c:CV} {v:Value} {g:Prop} (hf:G3 M w n E a) (hd:∀ t,d=some t→t < n) (hv:g→RV M w c v) (hu:¬ g→v=undef) :
 G3 M w n (E.put d c g) (a.put d v):=by
 cases d with
 | none=>exact hf
 | some d =>
  have hdn:=hd d rfl
  refine ⟨hf.defers,by simp [Act.put,hf.size],fun t ht=>?_,fun t ht=>?_⟩
  by_cases htd:t=d
  ·subst htd
   simp only [Env.put_f,Env.put_ok,if_true] at ht ⊢
   have:(a.put (some t) v).tmps.getD t undef=v:=by simp [Act.put,hf.size,hdn]
   rw [this]
   exact hv ht
  ·simp only [Env.put_f,Env.put_ok,if_neg htd] at ht ⊢
   have:(a.put (some d) v).tmps.getD t undef=a.tmps.getD t undef:=by simp [Act.put,Array.getElem?_setIfInBounds_ne (Ne.symm htd)]
   rw [this]
   exact hf.rv t ht
  ·by_cases htd:t=d
   ·subst htd
    simp only [Env.put_un,if_true] at ht
    have:(a.put (some t) v).tmps.getD t undef=v:=by simp [Act.put,hf.size,hdn]
    rw [this]
    exact hu ht
   ·simp only [Env.put_un,if_neg htd] at ht
    have:(a.put (some d) v).tmps.getD t undef=a.tmps.getD t undef:=by simp [Act.put,Array.getElem?_setIfInBounds_ne (Ne.symm htd)]
    rw [this]
    exact hf.un t ht
theorem G3.eval {C:Ctx} {M:l3} {σ:List c5} {w:World} {n:Nat} {E:Env} {a:Act} (hr:Rel C M σ w) (hf:G3 M w n E a) {x:Operand} (hx:E.valid x):RV M w (E.val C x) (a.eval x):=by
 cases x with
 | tmp t=>exact hf.rv t hx
 | const v=>exact O8 hx
 | global g =>
  simp only [Env.val,Act.eval]
  split
  ·rename_i cells hc
   exact (hr.glob g cells hc).rv
  ·exact .val _
 | func f=>exact .val _
inductive v7 where
 | ret (c:CV)
 | pan (c:CV)
def a5l (P:Program) (K:Value→World→Prop) (Kp:List PanicEntry→World→Prop):Result Next→Prop
 | .ok (.value v) w'=>K v w'
 | .ok .skip w'=>K undef w'
 | .ok (.enter f args) w'=>Calls P f args w' fun
  | .returned v,w''=>K v w''
  | .panicked ch,w''=>Kp ch w''
  | .outgrown,_=>False
 | .halt (.panic v) w'=>Kp [{ v,recovered:=false}] w'
 | _=>False
theorem a5l.mono {P:Program} {K K':Value→World→Prop} {Kp Kp':List PanicEntry→World→Prop} {r:Result Next} (h:a5l P K Kp r) (hk:∀ v w,K v w→K' v w) (hp:∀ c w,Kp c w→Kp' c w):a5l P K' Kp' r:=by
 cases r with
 | ok x w =>
  cases x <;> simp only [a5l] at h ⊢
  case value v=>exact hk _ _ h
  case skip=>exact hk _ _ h
  case enter f args =>
   refine h.mono fun e w' he=>?_
   cases e with
   | returned v=>exact hk _ _ he
   | panicked c=>exact hp _ _ he
   | outgrown=>exact he
 | halt x w =>
  cases x <;> simp only [a5l] at h ⊢
  exact hp _ _ h
theorem D7 {P:Program} {o:Oper} {a:Act} {w:World} {K:Value→World→Prop} {Kp:List PanicEntry→World→Prop} {next:Act→World→Prop} {Q:Exit→Act→World→Prop}
 (h:a5l P K Kp ((execOp a.eval o).run P w)) (hk:∀ v w',K v w'→next (a.put o.dst v) w') (hp:∀ c w',Kp c w'→Q (.panic c) a w'):o.wp P a w next Q:=by
 unfold Oper.wp
 generalize (execOp a.eval o).run P w=r at h
 cases r with
 | ok x w =>
  cases x <;> simp only [a5l] at h <;> simp only [Oper.upon]
  case value v=>exact hk _ _ h
  case skip=>exact hk _ _ h
  case enter f args =>
   refine h.mono fun e w' he=>?_
   cases e with
   | returned v=>exact hk _ _ he
   | panicked c=>exact hp _ _ he
   | outgrown=>exact he.elim
 | halt x w =>
  cases x <;> simp only [a5l] at h <;> simp only [Oper.upon]
  exact hp _ _ h
def a0m (C:Ctx) (M:l3) (w:World) (K:v7→List c5→Prop) (v:Value) (w':World):Prop :=
 ∃ c σ' M',Ext M w M' w'∧Rel C M' σ' w'∧RV M' w' c v∧K (.ret c) σ'
def O5 (C:Ctx) (M:l3) (w:World) (K:v7→List c5→Prop) (ch:List PanicEntry) (w':World):Prop :=
 ∃ c v σ' M',ch=[{ v,recovered:=false}]∧Ext M w M' w'∧Rel C M' σ' w'∧RV M' w' c v∧K (.pan c) σ'
def C2 (C:Ctx) (σ:List c5) (E:Env) (o:Oper) (K:v7→List c5→Prop):Prop :=
 ∀ (M:l3) (w:World) (ρ:Operand→Value),Rel C M σ w→(∀ x∈o.op.operands,E.valid x→RV M w (E.val C x) (ρ x)) →
  a5l C.P (a0m C M w K) (O5 C M w K) ((execOp ρ o).run C.P w)
def m6 (C:Ctx) (σ:List c5) (E:Env) (o:Oper) (c:CV):Prop:=C2 C σ E o fun r σ'=>r = .ret c∧σ'=σ
def b8 (C:Ctx) (f:FuncId) (args:List CV) (σ:List c5) (K:v7→List c5→Prop):Prop :=
 ∀ (M:l3) (w:World) (vs:Array Value),Rel C M σ w→vs.size=args.length→(∀ (i:Nat) (c:CV),args[i]? = some c→RV M w c (vs.getD i undef)) →
  Calls C.P f vs w fun
   | .returned v,w'=>a0m C M w K v w'
   | .panicked ch,w'=>O5 C M w K ch w'
   | .outgrown,_=>False
theorem a0m.mono {C:Ctx} {M:l3} {w:World} {K K':v7→List c5→Prop} (h:∀ r σ,K r σ→K' r σ) {v:Value} {w':World} (ha:a0m C M w K v w'):a0m C M w K' v w':=by
 obtain ⟨c,σ',M',h1,h2,h3,h4⟩:=ha
 exact ⟨c,σ',M',h1,h2,h3,h _ _ h4⟩
theorem O5.mono {C:Ctx} {M:l3} {w:World} {K K':v7→List c5→Prop} (h:∀ r σ,K r σ→K' r σ) {v:List PanicEntry} {w':World} (ha:O5 C M w K v w'):O5 C M w K' v w':=by
 obtain ⟨c,u,σ',M',h0,h1,h2,h3,h4⟩:=ha
 exact ⟨c,u,σ',M',h0,h1,h2,h3,h _ _ h4⟩
theorem C2.mono {C:Ctx} {σ:List c5} {E:Env} {o:Oper} {K K':v7→List c5→Prop} (hd:C2 C σ E o K) (h:∀ r σ,K r σ→K' r σ):C2 C σ E o K' :=
 fun M w ρ hr hx=>(hd M w ρ hr hx).mono (fun _ _=>a0m.mono h) (fun _ _=>O5.mono h)
theorem b8.mono {C:Ctx} {f:FuncId} {args:List CV} {σ:List c5} {K K':v7→List c5→Prop} (hd:b8 C f args σ K) (h:∀ r σ,K r σ→K' r σ):b8 C f args σ K' :=
 fun M w vs hr hn hx=>(hd M w vs hr hn hx).mono fun e w' he=>by
  cases e with
  | returned v=>exact a0m.mono h he
  | panicked c=>exact O5.mono h he
  | outgrown=>exact he
inductive s8 where
 | normal
 | exit (id:Nat)
 | goto (l:Nat)
 | ret
 | pan (c:CV)
def E6 (C:Ctx) (n:Nat) (Q:s8→Env→List c5→Prop) (M:l3) (w:World) (e:Exit) (a':Act) (w':World):Prop :=
 ∃ E' σ' M',Ext M w M' w'∧Rel C M' σ' w'∧G3 M' w' n E' a' ∧
  match e with
  | .normal=>Q .normal E' σ'
  | .exit id=>Q (.exit id) E' σ'
  | .goto l=>Q (.goto l) E' σ'
  | .ret=>Q .ret E' σ'
  | .panic ch=>∃ c v,ch=[{ v,recovered:=false}]∧RV M' w' c v∧Q (.pan c) E' σ'
  | .outgrown=>False
def CWp (C:Ctx) (n:Nat) (c:Code) (Q:s8→Env→List c5→Prop) (E:Env) (σ:List c5):Prop :=
 ∀ (M:l3) (w:World) (a:Act),Rel C M σ w→G3 M w n E a→c.wp C.P (E6 C n Q M w) a w
def O2 (C:Ctx) (n:Nat) (ops:Array Oper) (Q:s8→Env→List c5→Prop) (l:List Oper) (E:Env) (σ:List c5):Prop :=
 ∀ (M:l3) (w:World) (a:Act),Rel C M σ w→G3 M w n E a→wpList C.P ops (E6 C n Q M w) l a w
theorem E6.mono {C:Ctx} {n:Nat} {Q Q':s8→Env→List c5→Prop} (h:∀ e E σ,Q e E σ→Q' e E σ) {M:l3} {w:World} {e:Exit} {a:Act} {w':World} (hl:E6 C n Q M w e a w'):E6 C n Q' M w e a w':=by
 obtain ⟨E',σ',M',h1,h2,h3,h4⟩:=hl
 refine ⟨E',σ',M',h1,h2,h3,?_⟩
 cases e <;> first|exact h _ _ _ h4|(obtain ⟨c,v,hc,hv,hq⟩:=h4; exact ⟨c,v,hc,hv,h _ _ _ hq⟩)|exact h4
theorem E6.later {C:Ctx} {n:Nat} {Q:s8→Env→List c5→Prop} {M M1:l3} {w w1:World} (he:Ext M w M1 w1) {e:Exit} {a:Act} {w':World} (hl:E6 C n Q M1 w1 e a w'):E6 C n Q M w e a w':=by
 obtain ⟨E',σ',M',h1,h2,h3,h4⟩:=hl
 exact ⟨E',σ',M',he.trans h1,h2,h3,h4⟩
theorem CWp.mono {C:Ctx} {n:Nat} {c:Code} {Q Q':s8→Env→List c5→Prop} {E:Env} {σ:List c5} (h:CWp C n c Q E σ) (hq:∀ e E σ,Q e E σ→Q' e E σ):CWp C n c Q' E σ :=
 fun M w a hr hf=>wp_mono (h M w a hr hf) fun _ _ _=>E6.mono hq
def s8.next (k:Env→List c5→Prop) (Q:s8→Env→List c5→Prop):s8→Env→List c5→Prop
 | .normal=>k
 | e=>Q e
section
variable {C:Ctx} {n:Nat} {Q:s8→Env→List c5→Prop} {E:Env} {σ:List c5}
theorem c8 (h:Q .normal E σ):CWp C n .skip Q E σ:=fun M w _ hr hf=>wp_skip ⟨E,σ,M,Ext.refl M w,hr,hf,h⟩
theorem b4N {l:Nat} (h:Q .normal E σ):CWp C n (.label l) Q E σ:=fun M w _ hr hf=>wp_label ⟨E,σ,M,Ext.refl M w,hr,hf,h⟩
theorem m8 {id:Nat} (h:Q (.exit id) E σ):CWp C n (.exit id) Q E σ:=fun M w _ hr hf=>wp_exit ⟨E,σ,M,Ext.refl M w,hr,hf,h⟩
theorem d5 (h:Q .ret E σ):CWp C n .ret Q E σ:=fun M w _ hr hf=>wp_ret ⟨E,σ,M,Ext.refl M w,hr,hf,h⟩
theorem a7 {x y:Code} (h:CWp C n x (s8.next (CWp C n y Q) Q) E σ):CWp C n (.seq x y) Q E σ:=fun M w a hr hf=>by
 refine wp_seq (wp_mono (h M w a hr hf) fun e a' w' hl=>?_)
 obtain ⟨E',σ',M',h1,h2,h3,h4⟩:=hl
 cases e with
 | normal=>exact wp_mono (h4 M' w' a' h2 h3) fun _ _ _=>E6.later h1
 | _=>exact ⟨E',σ',M',h1,h2,h3,h4⟩
theorem b9 {c:Operand} {x y:Code} {b:Bool} (hv:E.valid c) (hc:E.val C c = .val (.bool b)) (ht:b=true→CWp C n x Q E σ) (hf':b=false→CWp C n y Q E σ):CWp C n (.cond c x y) Q E σ:=fun M w a hr hf=>by
 have h1:RV M w (E.val C c) (a.eval c):=hf.eval hr hv
 rw [hc] at h1
 have h2:a.eval c = .bool b:=by generalize a.eval c=u at h1; cases h1; rfl
 exact wp_cond_split h2 (fun h=>ht h M w a hr hf) (fun h=>hf' h M w a hr hf)
def s8.blk (id:Nat) (Q:s8→Env→List c5→Prop):s8→Env→List c5→Prop
 | .exit id',E,σ=>if id'=id then Q .normal E σ else Q (.exit id') E σ
 | e,E,σ=>Q e E σ
theorem d9 {id:Nat} {c:Code} (h:CWp C n c (s8.blk id Q) E σ):CWp C n (.block id c) Q E σ:=fun M w a hr hf=>by
 refine wp_block (wp_mono (h M w a hr hf) fun e a' w' hl=>?_)
 obtain ⟨E',σ',M',h1,h2,h3,h4⟩:=hl
 cases e with
 | exit id' =>
  simp only [Exit.inBlock]
  simp only [s8.blk] at h4
  split <;> rename_i hid
  ·rw [if_pos hid] at h4; exact ⟨E',σ',M',h1,h2,h3,h4⟩
  ·rw [if_neg hid] at h4; exact ⟨E',σ',M',h1,h2,h3,h4⟩
 | _=>exact ⟨E',σ',M',h1,h2,h3,h4⟩
theorem b64 {c:Code} (I:Nat→Env→List c5→Prop) (m:Nat) (h0:I m E σ)
 (round:∀ m E σ,I m E σ→CWp C n c (s8.next (fun E' σ'=>∃ m',m' < m∧I m' E' σ') Q) E σ):CWp C n (.loop c) Q E σ:=fun M w a hr hf=>by
 intro b k cs
 have key:∀ m E σ M1 w1 a1,I m E σ→Ext M w M1 w1→Rel C M1 σ w1→G3 M1 w1 n E a1 →
  ∃ e a' w',E6 C n Q M w e a' w'∧Arrives C.P (lone (b.at a1 (.code c::.inLoop c::k)) cs w1) b k cs e a' w':=by
  intro m
  induction m using Nat.strongRecOn with
  | _ m ih =>
   intro E σ M1 w1 a1 hI hx hr1 hf1
   obtain ⟨e,a2,w2,hq,harr⟩:=round m E σ hI M1 w1 a1 hr1 hf1 b (.inLoop c::k) cs
   obtain ⟨E',σ',M',h1,h2,h3,h4⟩:=hq
   cases e with
   | normal =>
    obtain ⟨m',hlt,hI'⟩:=h4
    obtain ⟨e₂,a₂,w₂,hq₂,harr₂⟩:=ih m' hlt E' σ' M' w2 a2 hI' (hx.trans h1) h2 h3
    exact ⟨e₂,a₂,w₂,hq₂,.of_steps (Steps.trans harr (.one step_inLoop)) harr₂⟩
   | exit id=>exact ⟨_,a2,w2,⟨E',σ',M',hx.trans h1,h2,h3,h4⟩,.pass (x:=.inLoop c) rfl (fun _ _=>.inl (by simp)) harr⟩
   | goto l=>exact ⟨_,a2,w2,⟨E',σ',M',hx.trans h1,h2,h3,h4⟩,.pass (x:=.inLoop c) rfl (fun _ _=>.inl (by simp)) harr⟩
   | ret=>exact ⟨_,a2,w2,⟨E',σ',M',hx.trans h1,h2,h3,h4⟩,.pass (x:=.inLoop c) rfl (fun _ _=>.inl (by simp)) harr⟩
   | panic ch=>exact ⟨_,a2,w2,⟨E',σ',M',hx.trans h1,h2,h3,h4⟩,.pass (x:=.inLoop c) rfl (fun _ _=>.inl (by simp)) harr⟩
   | outgrown=>exact h4.elim
 obtain ⟨e,a',w',hq,harr⟩:=key m E σ M w a h0 (Ext.refl M w) hr hf
 exact ⟨e,a',w',hq,.of_steps (.one step_loop) harr⟩
theorem a6 {id:Nat} {ops:Array Oper} (h:O2 C n ops Q ops.toList E σ):CWp C n (.region id ops false) Q E σ :=
 fun M w a hr hf=>wp_region_list (h M w a hr hf)
theorem a8 {ops:Array Oper} (h:Q .normal E σ):O2 C n ops Q [] E σ:=fun M w _ hr hf=>wpList_nil ⟨E,σ,M,Ext.refl M w,hr,hf,h⟩
theorem O2.later {ops:Array Oper} {l:List Oper} (h:O2 C n ops Q l E σ) {M M1:l3} {w w1:World} {a:Act} (hx:Ext M w M1 w1) (hr:Rel C M1 σ w1) (hf:G3 M1 w1 n E a):wpList C.P ops (E6 C n Q M w) l a w1:=by
 have:=h M1 w1 a hr hf
 have hm:∀ (l:List Oper) (a:Act) (w2:World),wpList C.P ops (E6 C n Q M1 w1) l a w2→wpList C.P ops (E6 C n Q M w) l a w2:=by
  intro l
  induction l with
  | nil=>exact fun a w2 h=>E6.later hx h
  | cons o l ih =>
   intro a w2 h
   unfold wpList at h ⊢
   split
   ·rename_i hw
    rw [if_pos hw] at h
    refine h.imp (fun h=>?_) (fun ⟨h1,a0,w0,hl⟩=>⟨h1,a0,w0,E6.later hx hl⟩)
    unfold Oper.wp at h ⊢
    generalize (execOp a.eval o).run C.P w2=r at h
    cases r with
    | ok x w3 =>
     cases x <;> simp only [Oper.upon] at h ⊢
     case value v=>exact ih _ _ h
     case skip=>exact ih _ _ h
     case defer d=>exact ih _ _ h
     case enter f args =>
      refine h.mono fun e w4 he=>?_
      cases e with
      | returned v=>exact ih _ _ he
      | panicked ch=>exact E6.later hx he
      | outgrown=>obtain ⟨a0,w0,hl⟩:=he; exact ⟨a0,w0,E6.later hx hl⟩
     case row r args=>exact Rows.mono h fun _ _ he=>ih _ _ he
    | halt x w3 =>
     cases x <;> simp only [Oper.upon] at h ⊢
     exact E6.later hx h
   ·rename_i hw
    rw [if_neg hw] at h
    exact ih _ _ h
 exact hm _ _ _ this
theorem b1L {ops:Array Oper} {o:Oper} {l:List Oper} (hg:o.guard=none) (hd:(match o.dst with | some d=>d < n | none=>True))
 (h:C2 C σ E o fun r σ'=>match r with
  | .ret c=>O2 C n ops Q l (E.put o.dst c True) σ'
  | .pan c=>Q (.pan c) E σ'):O2 C n ops Q (o::l) E σ:=fun M w a hr hf=>by
 unfold wpList
 rw [if_pos (by simp [Region.wanted,hg])]
 refine .inl (D7 (h M w a.eval hr fun x _ hx=>hf.eval hr hx) (fun v w' ha=>?_) (fun ch w' ha=>?_))
 ·obtain ⟨c,σ',M',h1,h2,h3,h4⟩:=ha
  exact h4.later h1 h2 ((hf.mono h1).put (fun t ht=>by rw [ht] at hd; exact hd) (fun _=>h3) fun hh=>absurd trivial hh)
 ·obtain ⟨c,v,σ',M',h0,h1,h2,h3,h4⟩:=ha
  exact ⟨E,σ',M',h1,h2,hf.mono h1,c,v,h0,h3,h4⟩
theorem a9P {ops:Array Oper} {o:Oper} {l:List Oper} {j t:Nat} {want b:Bool} {c:CV} (hg:o.guard=some (j,want)) (ht:(ops[j]?).bind (·.dst)=some t) (hv:E.ok t) (hb:E.f t = .val (.bool b))
 (hd:(match o.dst with | some d=>d < n | none=>True)) (hy:b=want→m6 C σ E o c) (h:O2 C n ops Q l (E.put o.dst c (b=want)) σ):O2 C n ops Q (o::l) E σ:=fun M w a hr hf=>by
 have h1:RV M w (E.f t) (a.tmps.getD t undef):=hf.rv t hv
 rw [hb] at h1
 have h2:a.tmps.getD t undef = .bool b:=by generalize a.tmps.getD t undef=u at h1; cases h1; rfl
 have hsz:t < a.tmps.size:=by
  rcases Nat.lt_or_ge t a.tmps.size with h' | h'
  ·exact h'
  ·simp [Array.getElem?_eq_none h',undef] at h2
 have hw:Region.wanted o (yielded ops a.tmps)=(b == want):=by
  have h3:a.tmps[t]? = some (.bool b):=by
   rw [Array.getD_eq_getD_getElem?,Array.getElem?_eq_getElem hsz] at h2
   rw [Array.getElem?_eq_getElem hsz,← h2]; rfl
  have h4:yielded ops a.tmps j=some b:=by unfold yielded; rw [ht,Option.bind_some,h3]
  simp only [Region.wanted,hg,h4]
  cases b <;> cases want <;> rfl
 have hd':∀ t,o.dst=some t→t < n:=fun t ht=>by rw [ht] at hd; exact hd
 unfold wpList
 by_cases hbw:b=want
 ·rw [if_pos (by rw [hw]; simpa using hbw)]
  refine .inl (D7 (hy hbw M w a.eval hr fun x _ hx=>hf.eval hr hx) (fun v w' ha=>?_) (fun ch w' ha=>?_))
  ·obtain ⟨c',σ',M',h1,h2,h3,h4,rfl⟩:=ha
   injection h4 with h4
   subst h4
   exact h.later h1 h2 ((hf.mono h1).put hd' (fun _=>h3) fun hh=>absurd hbw hh)
  ·obtain ⟨c',v,σ',M',h0,h1,h2,h3,h4,_⟩:=ha
   cases h4
 ·rw [if_neg (by rw [hw]; simpa using hbw)]
  exact h.later (Ext.refl M w) hr (hf.put hd' (fun hh=>absurd hh hbw) fun _=>rfl)
theorem b21 {ops:Array Oper} {o:Oper} {l:List Oper} {j t:Nat} {want b:Bool} {c:CV} (hg:o.guard=some (j,want)) (ht:(ops[j]?).bind (·.dst)=some t) (hv:¬ E.ok t→E.un t) (hb:E.f t = .val (.bool b))
 (hd:(match o.dst with | some d=>d < n | none=>True)) (hy:E.ok t→b=want→m6 C σ E o c) (h:O2 C n ops Q l (E.put o.dst c (E.ok t∧b=want)) σ):O2 C n ops Q (o::l) E σ:=by
 by_cases hok:E.ok t
 ·have e:(E.ok t∧b=want)=(b=want):=propext ⟨fun h=>h.2,fun h=>⟨hok,h⟩⟩
  rw [e] at h
  exact a9P hg ht hok hb hd (hy hok) h
 ·intro M w a hr hf
  have h2:=hf.un t (hv hok)
  have hd':∀ t,o.dst=some t→t < n:=fun t ht=>by rw [ht] at hd; exact hd
  have hw:Region.wanted o (yielded ops a.tmps)=false:=by
   have h4:yielded ops a.tmps j=none:=by
    unfold yielded
    rw [ht,Option.bind_some]
    rcases Nat.lt_or_ge t a.tmps.size with h' | h'
    ·rw [Array.getD_eq_getD_getElem?,Array.getElem?_eq_getElem h'] at h2
     rw [Array.getElem?_eq_getElem h']
     simp only [Option.getD_some] at h2
     rw [h2]
     rfl
    ·rw [Array.getElem?_eq_none h']
   simp only [Region.wanted,hg,h4]
   cases want <;> rfl
  unfold wpList
  rw [if_neg (by rw [hw]; simp)]
  exact h.later (Ext.refl M w) hr (hf.put hd' (fun hh=>absurd hh.1 hok) fun _=>rfl)
end
section
variable {C:Ctx} {n:Nat} {Q:s8→Env→List c5→Prop} {E:Env} {σ:List c5}
theorem c0d {ops:Array Oper} {o:Oper} {l:List Oper} {c:CV} (hg:o.guard=none) (hd:(match o.dst with | some d=>Nat.blt d n | none=>true)=true) (hy:m6 C σ E o c) (h:O2 C n ops Q l (E.put o.dst c True) σ):O2 C n ops Q (o::l) E σ :=
 b1L hg (by
  cases hd':o.dst with
  | none=>trivial
  | some d=>rw [hd'] at hd; simpa [Nat.blt_eq] using hd) (hy.mono fun r σ' hr=>by
  obtain ⟨rfl,rfl⟩:=hr
  exact h)
theorem Y1 {ops:Array Oper} {o:Oper} {l:List Oper} (hg:o.guard=none) (hd:(match o.dst with | some d=>Nat.blt d n | none=>true)=true) (h:C2 C σ E o fun r σ'=>match r with
 | .ret c=>O2 C n ops Q l (E.put o.dst c True) σ'
 | .pan c=>Q (.pan c) E σ'):O2 C n ops Q (o::l) E σ :=
 b1L hg (by
  cases hd':o.dst with
  | none=>trivial
  | some d=>rw [hd'] at hd; simpa [Nat.blt_eq] using hd) h
theorem c0g {ops:Array Oper} {o:Oper} {l:List Oper} {j t:Nat} {want b:Bool} {c:CV} (hg:o.guard=some (j,want)) (ht:(ops[j]?).bind (·.dst)=some t) (hv:E.ok t) (hb:E.f t = .val (.bool b))
 (hd:(match o.dst with | some d=>Nat.blt d n | none=>true)=true) (hy:b=want→m6 C σ E o c) (h:O2 C n ops Q l (E.put o.dst c (b=want)) σ):O2 C n ops Q (o::l) E σ :=
 a9P hg ht hv hb (by
  cases hd':o.dst with
  | none=>trivial
  | some d=>rw [hd'] at hd; simpa [Nat.blt_eq] using hd) hy h
theorem b7S {ops:Array Oper} {o:Oper} {l:List Oper} {j t:Nat} {want b:Bool} {c:CV} (hg:o.guard=some (j,want)) (ht:(ops[j]?).bind (·.dst)=some t) (hv:¬ E.ok t→E.un t) (hb:E.f t = .val (.bool b))
 (hd:(match o.dst with | some d=>Nat.blt d n | none=>true)=true) (hy:E.ok t→b=want→m6 C σ E o c) (h:O2 C n ops Q l (E.put o.dst c (E.ok t∧b=want)) σ):O2 C n ops Q (o::l) E σ :=
 b21 hg ht hv hb (by
  cases hd':o.dst with
  | none=>trivial
  | some d=>rw [hd'] at hd; simpa [Nat.blt_eq] using hd) hy h
def Env.is (E:Env):List (Nat × CV)→Prop
 | []=>True
 | (t,c)::l=>(E.ok t∧E.f t=c)∧E.is l
def Env.puts (E:Env):List (Nat × CV)→Env
 | []=>E
 | (t,c)::l=>(E.puts l).put (some t) c True
theorem G3.puts {M:l3} {w:World} {n:Nat} {E:Env} {a:Act} (hf:G3 M w n E a):∀ {l:List (Nat × CV)},E.is l→G3 M w n (E.puts l) a
 | [],_=>hf
 | (t,c)::l,⟨⟨h1,h2⟩,h⟩=>by
  have ih:=hf.puts h
  refine ⟨hf.defers,hf.size,fun x hx=>?_,fun x hx=>?_⟩
  ·rw [Env.puts,Env.put_f]
   rw [Env.puts,Env.put_ok] at hx
   split
   ·subst x; exact h2 ▸ hf.rv t h1
   ·rename_i hne
    rw [if_neg hne] at hx
    exact ih.rv x hx
  ·rw [Env.puts,Env.put_un] at hx
   split at hx
   ·exact absurd trivial hx
   ·exact ih.un x hx
theorem CWp.puts {c:Code} {l:List (Nat × CV)} (h:CWp C n c Q (E.puts l) σ) (hE:E.is l):CWp C n c Q E σ:=fun M w a hr hf=>h M w a hr (hf.puts hE)
theorem L6 {α:Type} {c:Code} (l:α→List (Nat × CV)) (S:α→List c5) (I:α→Prop) (m:α→Nat) (a0:α) (h0:I a0) (hE:E.is (l a0)) (hσ:σ=S a0)
 (round:∀ (a:α) (E0:Env),I a→CWp C n c (s8.next (fun E' σ'=>∃ a',m a' < m a∧I a'∧E'.is (l a')∧σ'=S a') Q) (E0.puts (l a)) (S a)):CWp C n (.loop c) Q E σ:=by
 refine b64 (fun k E σ=>∃ a,k=m a∧I a∧E.is (l a)∧σ=S a) (m a0) ⟨a0,rfl,h0,hE,hσ⟩ fun k E σ hI=>?_
 obtain ⟨a,rfl,hI,hE,rfl⟩:=hI
 refine ((round a E hI).puts hE).mono fun e E' σ' h=>?_
 cases e with
 | normal =>
  obtain ⟨a',h1,h2,h3,h4⟩:=h
  exact ⟨m a',h1,a',rfl,h2,h3,h4⟩
 | _=>exact h
end
def V4 (C:Ctx) (E:Env) (σ:List c5) (fn:Func) (c:CV):Prop :=
 ∀ (M:l3) (w:World) (a:Act),Rel C M σ w→(∀ t,E.ok t→RV M w (E.f t) (a.tmps.getD t undef))→∃ v,(results fn a.tmps).run C.P w = .ok v w∧RV M w c v
def Env.args (args:List CV):Env:={ f:=fun t=>args.getD t (.val undef),ok:=fun _=>True,un:=fun _=>False}
def Fin (C:Ctx) (fn:Func) (K:v7→List c5→Prop):s8→Env→List c5→Prop
 | .normal,E,σ | .ret,E,σ=>∃ c,V4 C E σ fn c∧K (.ret c) σ
 | .pan c,_,σ=>K (.pan c) σ
 | _,_,_=>False
theorem d8 {C:Ctx} {f:FuncId} {fn:Func} {c:Code} {args:List CV} {σ:List c5} {K:v7→List c5→Prop} (hf:C.P.funcs[f]? = some fn) (hb:fn.body=some c) (hn':Nat.ble args.length fn.ntmps=true)
 (h:CWp C fn.ntmps c (Fin C fn K) (Env.args args) σ):b8 C f args σ K:=fun M w vs hr hsz hx=>by
 have hn:=nb hn'
 refine calls_of_wp hf hb (wp_mono (h M w _ hr ⟨rfl,by simp; omega,fun t _=>?_,fun t ht=>ht.elim⟩) fun e a w' hl=>?_)
 ·simp only [Env.args]
  rcases Nat.lt_or_ge t args.length with ht | ht
  ·have:=hx t (args[t]) (by simp [ht])
   have h1:(vs++Array.replicate (fn.ntmps - vs.size) undef).getD t undef=vs.getD t undef:=by
    simp [Array.getElem?_append,hsz,ht]
   rw [h1]
   simpa [ht] using this
  ·have h1:(vs++Array.replicate (fn.ntmps - vs.size) undef).getD t undef=undef:=by
    simp only [Array.getD_eq_getD_getElem?,Array.getElem?_append]
    rw [if_neg (by omega)]
    rw [Array.getElem?_replicate]
    split <;> rfl
   rw [h1]
   simp only [List.getD_eq_getElem?_getD,List.getElem?_eq_none ht,Option.getD_none]
   exact .val _
 ·obtain ⟨E',σ',M',h1,h2,h3,h4⟩:=hl
  cases e with
  | normal =>
   obtain ⟨c,hc,hk⟩:=h4
   obtain ⟨v,hv,hrv⟩:=hc M' w' a h2 h3.rv
   exact ⟨h3.defers,v,hv,c,σ',M',h1,h2,hrv,hk⟩
  | ret =>
   obtain ⟨c,hc,hk⟩:=h4
   obtain ⟨v,hv,hrv⟩:=hc M' w' a h2 h3.rv
   exact ⟨h3.defers,v,hv,c,σ',M',h1,h2,hrv,hk⟩
  | panic ch =>
   obtain ⟨c,v,h0,hv,hk⟩:=h4
   exact ⟨h3.defers,c,v,σ',M',h0,h1,h2,hv,hk⟩
  | exit id=>exact h4.elim
  | goto l=>exact h4.elim
  | outgrown=>exact h4.elim
end Go.Cl
namespace Go.Cl
open Sem
theorem n8 {M:l3} {w:World} {v u:Value} (h:RV M w (.val v) u):u=v:=by cases h; rfl
theorem J8 (b off n:Nat):(⟨b,off,none⟩:Addr).add n=⟨b,off+n,none⟩:=by
 unfold Addr.add
 split
 ·simp [*]
 ·rfl
theorem U6 {P:Program} {w:World} {a:Addr} (f:Nat→Value):∀ (n i:Nat) (acc:Array Value),(∀ j,j < n→w.cell? (a.add (i+j))=some (f (i+j))) →
 (loadCellsFrom a i n acc).run P w = .ok (acc++((List.range' i n).map f).toArray) w
 | 0,i,acc,_=>by simp [loadCellsFrom]
 | n+1,i,acc,h=>by
  have h0:=h 0 (by omega)
  rw [Nat.add_zero] at h0
  have ih:=U6 (P:=P) (w:=w) (a:=a) f n (i+1) (acc.push (f i)) (fun j hj=>by
   have:=h (j+1) (by omega)
   rwa [show i+(j+1)=i+1+j from by omega] at this)
  simp only [loadCellsFrom,Sem.run_bind,run_load,h0,Result.andThen_ok,ih,List.range'_succ,List.map_cons]
  simp
theorem G8 {P:Program} {w:World} {b off:Nat} (f:Nat→Value) (n:Nat) (h:∀ j,j < n→w.cell? ⟨b,off+j,none⟩=some (f j)) :
 (loadCells ⟨b,off,none⟩ n).run P w = .ok ((List.range n).map f).toArray w:=by
 unfold loadCells
 rw [U6 f n 0 #[] (fun j hj=>by rw [J8]; simpa using h j hj)]
 simp [List.range_eq_range']
section
variable {C:Ctx} {σ:List c5} {E:Env} {o:Oper}
theorem j7 {c:CV} (h:∀ (M:l3) (w:World) (ρ:Operand→Value),Rel C M σ w→(∀ x∈o.op.operands,E.valid x→RV M w (E.val C x) (ρ x))→∃ v,(execOp ρ o).run C.P w = .ok (.value v) w∧RV M w c v):m6 C σ E o c :=
 fun M w ρ hr hx=>by
  obtain ⟨v,h1,h2⟩:=h M w ρ hr hx
  rw [h1]
  exact ⟨c,σ,M,Ext.refl M w,hr,h2,rfl,rfl⟩
theorem a0B {x:Operand} {c:CV} (ho:o.op = .move x) (hx:E.valid x) (ec:E.val C x=c):m6 C σ E o c :=
 j7 fun M w ρ _ h=>⟨ρ x,by simp [execOp,ho],ec ▸ h x (by simp [ho,Op.operands]) hx⟩
theorem a4i {x:Operand} {c:CV} (ho:o.op = .assign x) (hx:E.valid x) (ec:E.val C x=c):m6 C σ E o c :=
 j7 fun M w ρ _ h=>⟨ρ x,by simp [execOp,ho],ec ▸ h x (by simp [ho,Op.operands]) hx⟩
theorem b3o {x y:Operand} {b d:Bool} (ho:o.op = .pick x (.const (.bool true)) y) (hx:E.valid x) (ex:E.val C x = .val (.bool b)) (hy:b=false→E.valid y) (ey:b=false→E.val C y = .val (.bool d)):m6 C σ E o (.val (.bool (b || d))) :=
 j7 fun M w ρ _ h=>by
  have h1:=h x (by simp [ho,Op.operands]) hx
  have h0:=h (.const (.bool true)) (by simp [ho,Op.operands]) rfl
  rw [ex] at h1
  have e1:=n8 h1
  have e0:ρ (.const (.bool true)) = .bool true:=n8 h0
  cases b with
  | true=>exact ⟨.bool true,by simp [execOp,ho,e1,e0,asBool],.val _⟩
  | false =>
   have h2:=h y (by simp [ho,Op.operands]) (hy rfl)
   rw [ey rfl] at h2
   have e2:=n8 h2
   exact ⟨.bool d,by simp [execOp,ho,e1,e2,asBool],.val _⟩
theorem a2j {x y:Operand} {b d:Bool} (ho:o.op = .pick x y (.const (.bool false))) (hx:E.valid x) (ex:E.val C x = .val (.bool b)) (hy:b=true→E.valid y) (ey:b=true→E.val C y = .val (.bool d)):m6 C σ E o (.val (.bool (b && d))) :=
 j7 fun M w ρ _ h=>by
  have h1:=h x (by simp [ho,Op.operands]) hx
  have h0:=h (.const (.bool false)) (by simp [ho,Op.operands]) rfl
  rw [ex] at h1
  have e1:=n8 h1
  have e0:ρ (.const (.bool false)) = .bool false:=n8 h0
  cases b with
  | false=>exact ⟨.bool false,by simp [execOp,ho,e1,e0,asBool],.val _⟩
  | true =>
   have h2:=h y (by simp [ho,Op.operands]) (hy rfl)
   rw [ey rfl] at h2
   have e2:=n8 h2
   exact ⟨.bool d,by simp [execOp,ho,e1,e2,asBool],.val _⟩
def a6U (op:BinOp) (k:IntKind) (a b:Int):Option Value :=
 match op with
 | .add=>some (.int k (k.wrap (a+b)))
 | .sub=>some (.int k (k.wrap (a - b)))
 | .mul=>some (.int k (k.wrap (a*b)))
 | .quo=>if b=0 then none else some (.int k (k.wrap (a.tdiv b)))
 | .rem=>if b=0 then none else some (.int k (a.tmod b))
 | .eql=>some (.bool (a == b))
 | .neq=>some (.bool (a != b))
 | .lss=>some (.bool (a < b))
 | .leq=>some (.bool (a≤b))
 | .gtr=>some (.bool (a > b))
 | .geq=>some (.bool (a≥b))
 | _=>none
theorem a1u {op:BinOp} {t t':TypeId} {x y:Operand} {k:IntKind} {a b:Int} {v:Value} (ho:o.op = .binOp op t x y t') (hx:E.valid x) (hy:E.valid y) (ex:E.val C x = .val (.int k a)) (ey:E.val C y = .val (.int k b)) (hv:a6U op k a b=some v):m6 C σ E o (.val v) :=
 j7 fun M w ρ _ h=>by
  have h1:=h x (by simp [ho,Op.operands]) hx
  have h2:=h y (by simp [ho,Op.operands]) hy
  rw [ex] at h1
  rw [ey] at h2
  have e1:=n8 h1
  have e2:=n8 h2
  refine ⟨v,?_,.val _⟩
  cases op <;> simp only [a6U] at hv
  case quo =>
   by_cases hb:b=0
   ·simp [hb] at hv
   ·rw [if_neg hb] at hv; injection hv with hv
    subst hv
    simp [execOp,ho,e1,e2,eqGuard,binOp,Op.intDiv,hb]
  case rem =>
   by_cases hb:b=0
   ·simp [hb] at hv
   ·rw [if_neg hb] at hv; injection hv with hv
    subst hv
    simp [execOp,ho,e1,e2,eqGuard,binOp,Op.intDiv,hb]
  all_goals first
   | (cases hv; done)
   | (injection hv with hv; subst hv; simp [execOp,ho,e1,e2,eqGuard,binOp,Op.intArith,Op.intCmp])
theorem a8x {x:Int} (h1 : -9223372036854775808≤x) (h2:x≤9223372036854775807):IntKind.i64.wrap x=x:=by
 rw [IntKind.wrap_i64]; omega
theorem b5s {t t':TypeId} {x y:Operand} {a b:Int} (ho:o.op = .binOp .add t x y t') (hx:E.valid x) (hy:E.valid y) (ex:E.val C x = .val (.int .i64 a)) (ey:E.val C y = .val (.int .i64 b)) (h1 : -9223372036854775808≤a+b) (h2:a+b≤9223372036854775807):m6 C σ E o (.val (.int .i64 (a+b))):=by
 have:=a1u (σ:=σ) (v:=.int .i64 (IntKind.i64.wrap (a+b))) ho hx hy ex ey rfl
 rwa [a8x h1 h2] at this
theorem a3K {t t':TypeId} {x y:Operand} {a b:Int} (ho:o.op = .binOp .sub t x y t') (hx:E.valid x) (hy:E.valid y) (ex:E.val C x = .val (.int .i64 a)) (ey:E.val C y = .val (.int .i64 b)) (h1 : -9223372036854775808≤a - b) (h2:a - b≤9223372036854775807):m6 C σ E o (.val (.int .i64 (a - b))):=by
 have:=a1u (σ:=σ) (v:=.int .i64 (IntKind.i64.wrap (a - b))) ho hx hy ex ey rfl
 rwa [a8x h1 h2] at this
theorem b15 {t t':TypeId} {x y:Operand} {a b:Int} (ho:o.op = .binOp .mul t x y t') (hx:E.valid x) (hy:E.valid y) (ex:E.val C x = .val (.int .i64 a)) (ey:E.val C y = .val (.int .i64 b)) (h1 : -9223372036854775808≤a*b) (h2:a*b≤9223372036854775807):m6 C σ E o (.val (.int .i64 (a*b))):=by
 have:=a1u (σ:=σ) (v:=.int .i64 (IntKind.i64.wrap (a*b))) ho hx hy ex ey rfl
 rwa [a8x h1 h2] at this
def b7O (op:BinOp) (a b:Bool):Option Bool :=
 match op with
 | .eql=>some (a == b)
 | .neq=>some (a != b)
 | _=>none
theorem b5m {op:BinOp} {t t':TypeId} {x y:Operand} {a b r:Bool} (ho:o.op = .binOp op t x y t') (hu:∀ w,(underlying t).run C.P w = .ok .bool w) (hx:E.valid x) (hy:E.valid y) (ex:E.val C x = .val (.bool a)) (ey:E.val C y = .val (.bool b)) (hv:b7O op a b=some r):m6 C σ E o (.val (.bool r)) :=
 j7 fun M w ρ _ h=>by
  have h1:=h x (by simp [ho,Op.operands]) hx
  have h2:=h y (by simp [ho,Op.operands]) hy
  rw [ex] at h1
  rw [ey] at h2
  have e1:=n8 h1
  have e2:=n8 h2
  refine ⟨.bool r,?_,.val _⟩
  have heq:∀ d,(Op.equalIn (d+1) t (.bool a) (.bool b)).run C.P w = .ok (a == b) w:=fun d=>by simp [Op.equalIn,hu]
  cases op <;> simp only [b7O] at hv <;> first
   | (cases hv; done)
   | (injection hv with hv; subst hv; simp [execOp,ho,e1,e2,eqGuard,binOp,Op.equal,Op.maxDepth,heq 9999])
  cases a <;> cases b <;> rfl
def a43 (op:BinOp) (a b:ByteArray):Option Bool :=
 match op with
 | .eql=>some (a.toList == b.toList)
 | .neq=>some (!(a.toList == b.toList))
 | .lss=>some (Op.bytesLess a.toList b.toList)
 | .leq=>some (Op.bytesLess a.toList b.toList || a.toList == b.toList)
 | .gtr=>some (!(Op.bytesLess a.toList b.toList || a.toList == b.toList))
 | .geq=>some (!Op.bytesLess a.toList b.toList)
 | _=>none
theorem b39 {op:BinOp} {t t':TypeId} {x y:Operand} {a b:ByteArray} {r:Bool} (ho:o.op = .binOp op t x y t') (hx:E.valid x) (hy:E.valid y) (ex:E.val C x = .val (.string a)) (ey:E.val C y = .val (.string b)) (hv:a43 op a b=some r):m6 C σ E o (.val (.bool r)) :=
 j7 fun M w ρ _ h=>by
  have h1:=h x (by simp [ho,Op.operands]) hx
  have h2:=h y (by simp [ho,Op.operands]) hy
  rw [ex] at h1
  rw [ey] at h2
  have e1:=n8 h1
  have e2:=n8 h2
  refine ⟨.bool r,?_,.val _⟩
  cases op <;> simp only [a43] at hv <;> first
   | (cases hv; done)
   | (injection hv with hv; subst hv; simp [execOp,ho,e1,e2,eqGuard,binOp,Op.stringOp])
theorem a5U {t:TypeId} {x:Operand} {b:Bool} (ho:o.op = .unOp .not t x) (hx:E.valid x) (ex:E.val C x = .val (.bool b)):m6 C σ E o (.val (.bool (!b))) :=
 j7 fun M w ρ _ h=>by
  have h1:=h x (by simp [ho,Op.operands]) hx
  rw [ex] at h1
  exact ⟨.bool (!b),by simp [execOp,ho,n8 h1,Op.unary],.val _⟩
theorem b92 {t:TypeId} {x:Operand} {k:IntKind} {a:Int} (ho:o.op = .unOp .neg t x) (hx:E.valid x) (ex:E.val C x = .val (.int k a)):m6 C σ E o (.val (.int k (k.wrap (0 - a)))) :=
 j7 fun M w ρ _ h=>by
  have h1:=h x (by simp [ho,Op.operands]) hx
  rw [ex] at h1
  exact ⟨.int k (k.wrap (0 - a)),by simp [execOp,ho,n8 h1,Op.unary,Op.intArith],.val _⟩
theorem a23 {x:Operand} {i:Nat} {cs:List CV} {c:CV} (ho:o.op = .extract x i) (hx:E.valid x) (ex:E.val C x = .tup cs) (hi:cs[i]? = some c):m6 C σ E o c :=
 j7 fun M w ρ _ h=>by
  have h1:=h x (by simp [ho,Op.operands]) hx
  rw [ex] at h1
  generalize hu:ρ x=u at h1
  cases h1 with
  | tup hsz hrv =>
   rename_i vs
   have hlt:i < vs.size:=by rw [hsz]; exact (List.getElem?_eq_some_iff.1 hi).1
   refine ⟨vs.getD i undef,?_,hrv i c hi⟩
   simp [execOp,ho,hu,Instr.extract,hlt]
theorem RV.list_inv {M:l3} {w:World} {rows:List (List CV)} {nn:Bool} {tok:Option Nat} {v:Value} (h:RV M w (.list rows nn tok) v) :
 ∃ (a:Option Addr) (cap b off s:Nat) (vals:Nat→Nat→Value),v = .slice a rows.length cap∧rows.length≤cap∧cap≤maxLen∧a.isSome=nn∧(nn=false→cap=0)∧(rows≠[]→a=some ⟨b,off,none⟩) ∧
  (∀ r∈rows,r.length=s)∧(∀ r∈rows,∀ c∈r,c.one=true) ∧
  (∀ (i j:Nat) (r:List CV) (c:CV),rows[i]? = some r→r[j]? = some c→M.at b (off+i*s+j)∧w.cell? ⟨b,off+i*s+j,none⟩=some (vals i j)) ∧
  (∀ (i j:Nat) (r:List CV) (c:CV),rows[i]? = some r→r[j]? = some c→RV M w c (vals i j)) ∧
  (∀ k,tok=some k→∃ s',M.pl[k]? = some ⟨b,cap,s'⟩∧a=some ⟨b,0,none⟩∧off=0∧(rows≠[]→s'=s)):=by
 cases h with
 | list vals h1 h2 h3 h4 h5 h6 h7 h8 h9 h10=>exact ⟨_,_,_,_,_,vals,rfl,h1,h2,h3,h4,h5,h6,h7,h8,h9,h10⟩
theorem S3 {x:Operand} {t ty:TypeId} {rows:List (List CV)} {nn:Bool} {tok:Option Nat} {e:TypeId} {n:Int} (ho:o.op = .call { callee:=.builtin .len,args:=#[x],argTypes:=#[t]}) (hx:E.valid x) (ex:E.val C x = .list rows nn tok)
 (hu:∀ w,(underlying t).run C.P w = .ok (.slice e) w) (hn:(rows.length:Int)=n) (_:o.type=ty):m6 C σ E o (.val (.int .i64 n)) :=
 j7 fun M w ρ _ h=>by
  have h1:=h x (by simp [ho,Op.operands,Call.operands]) hx
  rw [ex] at h1
  obtain ⟨a,cap,b,off,s,vals,hv,_⟩:=h1.list_inv
  subst hn
  exact ⟨.int .i64 rows.length,by simp [execOp,ho,resolve,invoke,builtin,Builtin.len_,hu,hv,goInt],.val _⟩
theorem a3p {x:Operand} {t ty:TypeId} {k off len:Nat} {e:TypeId} {n:Int} (ho:o.op = .call { callee:=.builtin .len,args:=#[x],argTypes:=#[t]}) (hx:E.valid x) (ex:E.val C x = .vec k off len)
 (hu:∀ w,(underlying t).run C.P w = .ok (.slice e) w) (hn:(len:Int)=n) (_:o.type=ty):m6 C σ E o (.val (.int .i64 n)) :=
 j7 fun M w ρ _ h=>by
  have h1:=h x (by simp [ho,Op.operands,Call.operands]) hx
  rw [ex] at h1
  generalize hu':ρ x=u at h1
  subst hn
  cases h1
  exact ⟨.int .i64 len,by simp [execOp,ho,resolve,invoke,builtin,Builtin.len_,hu,hu',goInt],.val _⟩
theorem o9 {t e:TypeId} {x ix:Operand} {rows:List (List CV)} {nn:Bool} {tok:Option Nat} {i:Int} {s:Nat} {r:List CV} (ho:o.op = .indexAddr t x ix) (hx:E.valid x) (hi:E.valid ix) (ex:E.val C x = .list rows nn tok) (ei:E.val C ix = .val (.int .i64 i))
 (hu:∀ w,(underlying t).run C.P w = .ok (.slice e) w) (hs:∀ w,(sizeOf e).run C.P w = .ok s w) (h0:0≤i) (hr:rows[i.toNat]? = some r) (hl:r.length=s):m6 C σ E o (.cptr r) :=
 j7 fun M w ρ _ h=>by
  have h1:=h x (by simp [ho,Op.operands]) hx
  have h2:=h ix (by simp [ho,Op.operands]) hi
  rw [ex] at h1
  rw [ei] at h2
  obtain ⟨a,cap,b,off,s',vals,hv,hcap,_,_,_,ha,hrl,hone,hc,hrv,_⟩:=h1.list_inv
  have hlt:i.toNat < rows.length:=(List.getElem?_eq_some_iff.1 hr).1
  have hne:rows≠[]:=by rintro rfl; simp at hlt
  have hmem:r∈rows:=List.mem_of_getElem? hr
  have hss:s'=s:=by rw [← hrl r hmem,hl]
  subst hss
  refine ⟨.pointer (some ⟨b,off+i.toNat*s',none⟩),?_,.cptr (vals i.toNat) (hone r hmem) (fun j c hj=>?_) (fun j c hj=>hrv _ _ _ _ hr hj)⟩
  ·have hlt':i < (rows.length:Int):=by omega
   simp [execOp,ho,hv,n8 h2,Instr.indexAt,asIntOf,hu,hs,ha hne,h0,hlt',J8]
  ·exact hc _ _ _ _ hr hj
theorem a0c {t:TypeId} {x:Operand} {f:Nat} {fs:Array Field} {fd:Field} {cells:List CV} {s:Nat} (ho:o.op = .fieldAddr t x f) (hx:E.valid x) (ex:E.val C x = .cptr cells)
 (hu:∀ w,(underlying t).run C.P w = .ok (.struct fs) w) (hf:fs[f]? = some fd) (hs:∀ w,(sizeOf fd.type).run C.P w = .ok s w) (hs0:s≠0):m6 C σ E o (.cptr (cells.drop fd.offset)) :=
 j7 fun M w ρ _ h=>by
  have h1:=h x (by simp [ho,Op.operands]) hx
  rw [ex] at h1
  generalize hu':ρ x=u at h1
  cases h1 with
  | cptr vals h1 h2 h3 =>
   rename_i b off
   refine ⟨.pointer (some ⟨b,off+fd.offset,none⟩),?_,.cptr (fun j=>vals (fd.offset+j)) (fun c hc=>h1 c (List.mem_of_mem_drop hc)) (fun j c hj=>?_) (fun j c hj=>?_)⟩
   ·simp [execOp,ho,hu',Instr.fieldAt,hu,hf,Instr.sureAddr,fieldPlace,hs,hs0,J8]
   ·rw [List.getElem?_drop] at hj
    have:=h2 _ _ hj
    rwa [← Nat.add_assoc] at this
   ·rw [List.getElem?_drop] at hj
    exact h3 _ _ hj
theorem l9 {t:TypeId} {x:Operand} {f:Nat} {fs:Array Field} {fd:Field} {k off s:Nat} (ho:o.op = .fieldAddr t x f) (hx:E.valid x) (ex:E.val C x = .ptr k off)
 (hu:∀ w,(underlying t).run C.P w = .ok (.struct fs) w) (hf:fs[f]? = some fd) (hs:∀ w,(sizeOf fd.type).run C.P w = .ok s w) (hs0:s≠0):m6 C σ E o (.ptr k (off+fd.offset)) :=
 j7 fun M w ρ _ h=>by
  have h1:=h x (by simp [ho,Op.operands]) hx
  rw [ex] at h1
  generalize hu':ρ x=u at h1
  cases h1 with
  | ptr hk=>exact ⟨_,by simp [execOp,ho,hu',Instr.fieldAt,hu,hf,Instr.sureAddr,fieldPlace,hs,hs0,J8],.ptr hk⟩
theorem K7 {t:TypeId} {x:Operand} {cells:List CV} {c:CV} (ho:o.op = .load t x) (hx:E.valid x) (ex:E.val C x = .cptr cells) (ha:∀ w,(isAgg t).run C.P w = .ok false w) (hc:cells[0]? = some c):m6 C σ E o c :=
 j7 fun M w ρ _ h=>by
  have h1:=h x (by simp [ho,Op.operands]) hx
  rw [ex] at h1
  generalize hu':ρ x=u at h1
  cases h1 with
  | cptr vals h1 h2 h3 =>
   rename_i b off
   have:=(h2 0 c hc).2
   rw [Nat.add_zero] at this
   exact ⟨vals 0,by simp [execOp,ho,hu',Instr.loadAt,Instr.sureAddr,loadVar,ha,this],h3 0 c hc⟩
theorem J1 {t:TypeId} {x:Operand} {cells:List CV} {s:Nat} (ho:o.op = .load t x) (hx:E.valid x) (ex:E.val C x = .cptr cells) (ha:∀ w,(isAgg t).run C.P w = .ok true w) (hs:∀ w,(sizeOf t).run C.P w = .ok s w) (hl:s≤cells.length):m6 C σ E o (.agg (cells.take s)) :=
 j7 fun M w ρ _ h=>by
  have h1:=h x (by simp [ho,Op.operands]) hx
  rw [ex] at h1
  generalize hu':ρ x=u at h1
  cases h1 with
  | cptr vals h1 h2 h3 =>
   rename_i b off
   refine ⟨.agg ((List.range s).map vals).toArray,?_,.agg (by simp [hl]) (fun c hc=>h1 c (List.mem_of_mem_take hc)) (fun i c hi=>?_)⟩
   ·simp [execOp,ho,hu',Instr.loadAt,Instr.sureAddr,loadVar,ha,hs,G8 (P:=C.P) (w:=w) vals s (fun j hj=>(h2 j cells[j] (by simp [show j < cells.length by omega])).2)]
   ·have hi':i < s:=by
     have:=(List.getElem?_eq_some_iff.1 hi).1
     simp at this; omega
    rw [List.getElem?_take,if_pos hi'] at hi
    have:=h3 i c hi
    simpa [hi'] using this
end
end Go.Cl
namespace Go.Cl
def l3.add (M:l3) (p:Pl):l3:={ M with pl:=M.pl++[p]}
theorem w8 (w:World) (o:Obj) {b:Nat} (h:b < w.heap.size):(w.alloc o).heap[b]? = w.heap[b]?:=by
 show (w.heap.push o)[b]? = _
 rw [Array.getElem?_push,if_neg (Nat.ne_of_lt h)]
theorem s9 (w:World) (o:Obj):(w.alloc o).heap[w.heap.size]? = some o:=by
 show (w.heap.push o)[w.heap.size]? = _
 rw [Array.getElem?_push,if_pos rfl]
theorem G0.lt {M:l3} {w:World} {p:Pl} {ob:c5} (h:G0 M w p ob) (hl:ob.live=true):p.block < w.heap.size:=by
 have key:∀ {o:Obj},w.heap[p.block]? = some o→p.block < w.heap.size:=fun h=>(Array.getElem?_eq_some_iff.1 h).1
 cases ob with
 | dead=>cases hl
 | boxT t0 cells=>obtain ⟨arr,ty,h,_⟩:=h; exact key h
 | tipT t0 n=>obtain ⟨_,_,_,arr,ty,h,_⟩:=h; exact key h
 | vec s rows=>obtain ⟨_,_,_,_,_,arr,ty,h,_⟩:=h; exact key h
 | map es=>obtain ⟨arr,ty,h,_⟩:=h; exact key h
 | iter cur left=>obtain ⟨_,_,_,_,_,h,_⟩:=h; exact key h
theorem G0.mono {M M':l3} {w w':World} {p:Pl} {ob:c5} (hx:Ext M w M' w') (hb:w'.heap[p.block]? = w.heap[p.block]?) (hc:∀ t n,ob = .tipT t n→∀ o,M'.cell p.block o→M.cell p.block o) (h:G0 M w p ob):G0 M' w' p ob:=by
 cases ob with
 | dead=>trivial
 | boxT t0 cells =>
  obtain ⟨arr,ty,h1,h2,h3,h4⟩:=h
  exact ⟨arr,ty,hb.trans h1,h2,h3,fun i c hi=>(h4 i c hi).mono hx⟩
 | tipT t0 n =>
  obtain ⟨h0,h00,h1,arr,ty,h2,h3⟩:=h
  exact ⟨h0,h00,⟨fun o ho=>h1.1 o (hc _ n rfl o ho),h1.2⟩,arr,ty,hb.trans h2,h3⟩
 | vec s rows =>
  obtain ⟨h0,h00,h000,h1,h2,arr,ty,h3,h4,h5⟩:=h
  exact ⟨h0,h00,h000,h1,h2,arr,ty,hb.trans h3,h4,fun i j r c hi hj=>(h5 i j r c hi hj).mono hx⟩
 | map es =>
  obtain ⟨ents,clock,h1,h2,h3⟩:=h
  refine ⟨ents,clock,hb.trans h1,h2,fun i x hi=>?_⟩
  obtain ⟨e,he,hk,hv,hc⟩:=h3 i x hi
  exact ⟨e,he,hk.mono hx,hv.mono hx,hc⟩
 | iter cur left =>
  obtain ⟨mb,seen,last,ents,clock,h1,h2,h3,h4,h5,h6,h7,h8,h9⟩:=h
  refine ⟨mb,seen,last,ents,clock,hb.trans h1,hx.full _ h2,(hx.same _ h2).trans h3,h4,h5,h6,h7,fun i x hi=>?_,fun i x hi=>?_⟩
  ·obtain ⟨e,he,hk,hv⟩:=h8 i x hi
   exact ⟨e,he,hk.mono hx,hv.mono hx⟩
  ·obtain ⟨hl,j,e,he,hs,hk,hv⟩:=h9 i x hi
   exact ⟨hl,j,e,he,hs,hk.mono hx,hv.mono hx⟩
theorem Ext.alloc {C:Ctx} {M:l3} {σ:List c5} {w:World} (hr:Rel C M σ w) (p:Pl) (o:Obj):Ext M w (M.add p) (w.alloc o) :=
 ⟨⟨[p],rfl⟩,fun _ h=>h,fun _ _ h=>.inr h,fun b h=>w8 w o (hr.blk b 0 (.inl h)),fun b o' h=>B5 (w8 w o (hr.blk b o' (.inr h))),by rw [World.size_alloc]; omega,G5,rfl,rfl,rfl,fun b h=>⟨h,w8 w o (hr.kep b h),id,fun _=>id⟩⟩
theorem Rel.alloc {C:Ctx} {M:l3} {σ:List c5} {w:World} (hr:Rel C M σ w) (p:Pl) (o:Obj) (ob:c5) (hb:p.block=w.heap.size) (h:G0 (M.add p) (w.alloc o) p ob):Rel C (M.add p) (σ++[ob]) (w.alloc o):=by
 have hx:=Ext.alloc hr p o
 have hget:∀ {k:Nat} {q:Pl},(M.add p).pl[k]? = some q→(k < σ.length∧M.pl[k]? = some q)∨(k=σ.length∧q=p):=by
  intro k q hk
  simp only [l3.add,List.getElem?_append,hr.len] at hk
  split at hk
  ·exact .inl ⟨‹_›,hk⟩
  ·rename_i hlt
   have:k - σ.length=0:=by
    have:=(List.getElem?_eq_some_iff.1 hk).1
    simp at this; omega
   rw [this] at hk
   simp at hk
   exact .inr ⟨by omega,hk.symm⟩
 have hgo:∀ {k:Nat} {x:c5},(σ++[ob])[k]? = some x→k < σ.length→σ[k]? = some x:=by
  intro k x hk hlt
  rwa [List.getElem?_append_left hlt] at hk
 have hgn:∀ {x:c5},(σ++[ob])[σ.length]? = some x→x=ob:=by
  intro x hk; simp at hk; exact hk.symm
 refine ⟨by simp [l3.add,hr.len],fun b o' ha=>?_,fun k q x hk hx'=>?_,fun k k' q q' x x' hk hk' hx1 hx2 hl hl' hbb=>?_,fun g cells hg=>(hr.glob g cells hg).mono hx,fun b h=>(by rw [World.size_alloc]; have:=hr.kep b h; omega),fun k q x hk hx' hlv h=>?_⟩
 ·have:=hr.blk b o' ha
  rw [World.size_alloc]; omega
 ·rcases hget hk with ⟨hlt,hq⟩ | ⟨rfl,rfl⟩
  ·have hxo:=hgo hx' hlt
   obtain ⟨h1,h2⟩:=hr.obj k q x hq hxo
   refine ⟨?_,h2⟩
   by_cases hl:x.live=true
   ·exact h1.mono hx (w8 w o (h1.lt hl)) (fun _ _ _ _ h=>h)
   ·cases x <;> first | trivial | simp [c5.live] at hl
  ·have:=hgn hx'
   subst this
   refine ⟨h,?_⟩
   have hf:¬ M.full q.block:=fun hf=>by have:=hr.blk q.block 0 (.inl hf); omega
   have hc:∀ o,¬ M.cell q.block o:=fun o hc=>by have:=hr.blk q.block o (.inr hc); omega
   cases x <;> first | trivial|exact hf|exact ⟨hf,hc⟩
 ·rcases hget hk with ⟨hlt,hq⟩ | ⟨rfl,rfl⟩
  ·rcases hget hk' with ⟨hlt',hq'⟩ | ⟨rfl,rfl⟩
   ·exact hr.inj k k' q q' x x' hq hq' (hgo hx1 hlt) (hgo hx2 hlt') hl hl' hbb
   ·have:=(hr.obj k q x hq (hgo hx1 hlt)).1.lt hl
    omega
  ·rcases hget hk' with ⟨hlt',hq'⟩ | ⟨rfl,rfl⟩
   ·have:=(hr.obj k' q' x' hq' (hgo hx2 hlt')).1.lt hl'
    omega
   ·rfl
 ·rcases hget hk with ⟨hlt,hq⟩ | ⟨rfl,rfl⟩
  ·exact hr.nk k q x hq (hgo hx' hlt) hlv h
  ·have:=hr.kep _ h
   omega
def CV.cells:CV→List CV
 | .agg cs=>cs
 | c=>[c]
theorem RV.cells {M:l3} {w:World} {c:CV} {v:Value} (h:RV M w c v) (ho:c.one=true∨∃ cs,c = .agg cs) :
 v.cells.size=c.cells.length∧(∀ x∈c.cells,x.one=true)∧∀ (i:Nat) (x:CV),c.cells[i]? = some x→RV M w x (v.cells.getD i undef):=by
 rcases ho with ho | ⟨cs,rfl⟩
 ·have hv:=h.one ho
  have hv':v.cells = #[v]:=by cases v <;> first|rfl | simp [Value.oneCell'] at hv
  have hc':c.cells=[c]:=by cases c <;> first|rfl | simp [CV.one] at ho
  rw [hv',hc']
  refine ⟨rfl,by simpa using ho,fun i x hi=>?_⟩
  rcases i with _ | i
  ·simp at hi; subst hi; exact h
  ·simp at hi
 ·cases h with
  | agg h1 h2 h3=>exact ⟨h1,h2,h3⟩
section
variable {C:Ctx} {σ:List c5} {E:Env} {o:Oper}
theorem V5 {P:Program} (t:TypeId) (v:Value) (w:World):(newVar t v).run P w = .ok ⟨w.heap.size,0,none⟩ (w.alloc (.cells v.cells t)):=by
 simp [newVar,newRow]
theorem a6u {M:l3} {w:World} {c:CV} {v:Value} {t:TypeId} {K:v7→List c5→Prop} (hr:Rel C M σ w) (h:RV M w c v) (ho:c.one=true∨∃ cs,c = .agg cs) (hk:K (.ret (.ptr σ.length 0)) (σ++[.box c.cells])) :
 a0m C M w K (.pointer (some ⟨w.heap.size,0,none⟩)) (w.alloc (.cells v.cells t)):=by
 obtain ⟨h1,h2,h3⟩:=h.cells ho
 have hx:=Ext.alloc hr ⟨w.heap.size,0,0⟩ (.cells v.cells t)
 refine ⟨.ptr σ.length 0,_,_,hx,hr.alloc ⟨w.heap.size,0,0⟩ _ (.box c.cells) rfl ⟨v.cells,t,s9 w _,h1,h2,fun i x hi=>(h3 i x hi).mono hx⟩,?_,hk⟩
 exact .ptr (p:=⟨w.heap.size,0,0⟩) (by simp [l3.add,← hr.len])
theorem w9 {t:TypeId} {x:Operand} {c:CV} {K:v7→List c5→Prop} (ho:o.op = .box t x) (hx:E.valid x) (ex:E.val C x=c) (hc:c.one=true∨∃ cs,c = .agg cs) (hk:K (.ret (.ptr σ.length 0)) (σ++[.box c.cells])):C2 C σ E o K:=fun M w ρ hr h=>by
 have h1:=h x (by simp [ho,Op.operands]) hx
 rw [ex] at h1
 have:(execOp ρ o).run C.P w = .ok (.value (.pointer (some ⟨w.heap.size,0,none⟩))) (w.alloc (.cells (ρ x).cells t)):=by
  simp [execOp,ho,Instr.box,V5]
 rw [this]
 exact a6u hr h1 hc hk
theorem m9 {t:TypeId} {z:Value} {K:v7→List c5→Prop} (ho:o.op = .alloc t) (hz:∀ w,(zeroValue t).run C.P w = .ok z w) (hz1:E3 z=true) (hz2:(C3 z).one=true∨∃ cs,C3 z = .agg cs) (hk:K (.ret (.ptr σ.length 0)) (σ++[.box (C3 z).cells])):C2 C σ E o K:=fun M w ρ hr h=>by
 have:(execOp ρ o).run C.P w = .ok (.value (.pointer (some ⟨w.heap.size,0,none⟩))) (w.alloc (.cells z.cells t)):=by
  simp [execOp,ho,Instr.alloc,hz,V5]
 rw [this]
 exact a6u hr (O8 hz1) hz2 hk
theorem a8r {M:l3} {w:World} {k:Nat} {p:Pl} {cells:List CV} {t0:Option TypeId} (hr:Rel C M σ w) (hp:M.pl[k]? = some p) (hb:σ[k]? = some (.boxT t0 cells)) {i:Nat} {c:CV} (hi:cells[i]? = some c) :
 ∃ v,w.cell? ⟨p.block,i,none⟩=some v∧RV M w c v∧w.frozen? ⟨p.block,i,none⟩=false:=by
 obtain ⟨arr,ty,h1,h2,h3,h4⟩:=(hr.obj k p _ hp hb).1
 have hlt:i < arr.size:=by rw [h2]; exact (List.getElem?_eq_some_iff.1 hi).1
 refine ⟨arr.getD i undef,?_,h4 i c hi,?_⟩
 ·simp [World.cell?,h1,hlt]
 ·simp [World.frozen?,h1]
theorem o5 {t:TypeId} {x:Operand} {k off:Nat} {cells:List CV} {c:CV} {t0:Option TypeId} (ho:o.op = .load t x) (hx:E.valid x) (ex:E.val C x = .ptr k off) (ha:∀ w,(isAgg t).run C.P w = .ok false w) (hk:σ[k]? = some (.boxT t0 cells)) (hc:cells[off]? = some c):m6 C σ E o c :=
 j7 fun M w ρ hr h=>by
  have h1:=h x (by simp [ho,Op.operands]) hx
  rw [ex] at h1
  generalize hu':ρ x=u at h1
  cases h1 with
  | ptr hp =>
   obtain ⟨v,hv,hrv,_⟩:=a8r hr hp hk hc
   exact ⟨v,by simp [execOp,ho,hu',Instr.loadAt,Instr.sureAddr,loadVar,ha,hv],hrv⟩
theorem J3 {t:TypeId} {x:Operand} {k off s:Nat} {cells:List CV} {t0:Option TypeId} (ho:o.op = .load t x) (hx:E.valid x) (ex:E.val C x = .ptr k off) (ha:∀ w,(isAgg t).run C.P w = .ok true w) (hs:∀ w,(sizeOf t).run C.P w = .ok s w) (hk:σ[k]? = some (.boxT t0 cells)) (hl:off+s≤cells.length):m6 C σ E o (.agg ((cells.drop off).take s)) :=
 j7 fun M w ρ hr h=>by
  have h1:=h x (by simp [ho,Op.operands]) hx
  rw [ex] at h1
  generalize hu':ρ x=u at h1
  cases h1 with
  | ptr hp =>
   rename_i p
   obtain ⟨arr,ty,h1,h2,h3,h4⟩:=(hr.obj k p _ hp hk).1
   have hcell:∀ j,j < s→w.cell? ⟨p.block,off+j,none⟩=some (arr.getD (off+j) undef):=fun j hj=>by
    have:off+j < arr.size:=by omega
    simp [World.cell?,h1,this]
   refine ⟨.agg ((List.range s).map fun j=>arr.getD (off+j) undef).toArray,?_,.agg (by simp; omega) (fun c hc=>h3 c (List.mem_of_mem_drop (List.mem_of_mem_take hc))) (fun i c hi=>?_)⟩
   ·simp [execOp,ho,hu',Instr.loadAt,Instr.sureAddr,loadVar,ha,hs,G8 (P:=C.P) (w:=w) _ s hcell]
   ·have hi':i < s:=by
     have:=(List.getElem?_eq_some_iff.1 hi).1
     simp at this; omega
    rw [List.getElem?_take,if_pos hi',List.getElem?_drop] at hi
    have:=h4 (off+i) c hi
    simpa [hi'] using this
theorem l4 {fn:Func} {t:Nat} {c:CV} (hr:fn.results = #[.tmp t]) (hv:E.ok t) (ec:E.f t=c):V4 C E σ fn c:=fun M w a _ h=>by
 refine ⟨a.tmps.getD t undef,results_tmp hr _ _ _,ec ▸ h t hv⟩
end
end Go.Cl
namespace Go.Cl
def World.putObj (w:World) (b:Nat) (o:Obj):World:={ w with heap:=w.heap.setIfInBounds b o}
theorem World.putObj_same (w:World) {b:Nat} (o:Obj) (hb:b < w.heap.size):(World.putObj w b o).heap[b]? = some o:=by
 simp [World.putObj,hb]
theorem World.putObj_other (w:World) {b b':Nat} (o:Obj) (h:b≠b'):(World.putObj w b o).heap[b']? = w.heap[b']?:=by
 simp [World.putObj,Array.getElem?_setIfInBounds_ne h]
theorem World.putObj_size (w:World) (b:Nat) (o:Obj):(World.putObj w b o).heap.size=w.heap.size:=by
 simp [World.putObj]
theorem World.putObj_put (w:World) (b:Nat) (o o':Obj):World.putObj (World.putObj w b o) b o'=World.putObj w b o':=by
 simp [World.putObj]
theorem World.putObj_self (w:World) {b:Nat} {o:Obj} (h:w.heap[b]? = some o):World.putObj w b o=w:=by
 have:w.heap.setIfInBounds b o=w.heap:=by
  apply Array.ext_getElem?
  intro i
  by_cases hi:b=i
  ·subst hi
   have hlt:=(Array.getElem?_eq_some_iff.1 h).1
   rw [h]
   simp [hlt]
  ·rw [Array.getElem?_setIfInBounds_ne hi]
 unfold World.putObj
 rw [this]
theorem a5k (w:World) {b off:Nat} {cur:Array Value} {t:TypeId} (v:Value) (h:w.heap[b]? = some (.cells cur t (0,0))) :
 w.setCell ⟨b,off,none⟩ v=World.putObj w b (.cells (cur.setIfInBounds off v) t (0,0)):=by
 have hlt:=(Array.getElem?_eq_some_iff.1 h).1
 unfold World.setCell World.putObj
 congr 1
 apply Array.ext_getElem?
 intro i
 rw [Array.getElem?_modify]
 by_cases hi:b=i
 ·subst hi
  rw [if_pos rfl,h,Array.getElem?_setIfInBounds_self_of_lt hlt]
  rfl
 ·rw [if_neg hi,Array.getElem?_setIfInBounds_ne hi]
def v8 (cur:Array Value) (o:Nat):List Value→Array Value
 | []=>cur
 | v::vs=>v8 (cur.setIfInBounds o v) (o+1) vs
theorem A3:∀ (vs:List Value) (cur:Array Value) (o:Nat),(v8 cur o vs).size=cur.size
 | [],_,_=>rfl
 | v::vs,cur,o=>by rw [v8,A3 vs]; simp
theorem C9:∀ (vs:List Value) (cur:Array Value) (o i:Nat),o+vs.length≤cur.size →
 (v8 cur o vs).getD i undef=if o≤i∧i < o+vs.length then vs.getD (i - o) undef else cur.getD i undef
 | [],cur,o,i,_=>by
  rw [v8,if_neg (by simp only [List.length_nil]; omega)]
 | v::vs,cur,o,i,h=>by
  simp only [List.length_cons] at h
  rw [v8,C9 vs _ _ _ (by simp; omega)]
  by_cases h1:o+1≤i∧i < o+1+vs.length
  ·rw [if_pos h1,if_pos (by simp only [List.length_cons]; omega)]
   have:i - o=(i - (o+1))+1:=by omega
   rw [this]; simp
  ·rw [if_neg h1]
   by_cases h2:i=o
   ·subst h2
    rw [if_pos (by simp only [List.length_cons]; omega)]
    have hlt:i < cur.size:=by omega
    simp [hlt]
   ·rw [if_neg (by simp only [List.length_cons]; omega)]
    simp [Array.getElem?_setIfInBounds_ne (Ne.symm h2)]
theorem E8 {P:Program} {b off:Nat} {t:TypeId}:∀ (vs:List Value) (i:Nat) (cur:Array Value) (w:World),w.heap[b]? = some (.cells cur t (0,0))→off+i+vs.length≤cur.size→(∀ v∈vs,v.oneCell'=true) →
 (storeCells ⟨b,off,none⟩ vs i).run P w = .ok () (World.putObj w b (.cells (v8 cur (off+i) vs) t (0,0)))
 | [],i,cur,w,h,_,_=>by
  simp only [storeCells,v8,World.putObj_self w h]; rfl
 | v::vs,i,cur,w,h,hl,h1=>by
  simp only [List.length_cons] at hl
  have hcell:w.cell? ⟨b,off+i,none⟩=some (cur.getD (off+i) undef):=by
   have:off+i < cur.size:=by omega
   simp [World.cell?,h,this]
  have hfz:w.frozen? ⟨b,off+i,none⟩=false:=by simp [World.frozen?,h]
  have hb:b < w.heap.size:=(Array.getElem?_eq_some_iff.1 h).1
  simp only [storeCells,J8,Sem.run_bind,run_store P w _ v .plain (h1 v (by simp)),hcell,hfz,Bool.false_eq_true,if_false,Result.andThen_ok]
  rw [a5k w v h]
  have ih:=E8 (P:=P) (off:=off) (t:=t) vs (i+1) (cur.setIfInBounds (off+i) v) (World.putObj w b (.cells (cur.setIfInBounds (off+i) v) t (0,0))) (World.putObj_same w _ hb) (by simp; omega) (fun u hu=>h1 u (by simp [hu]))
  rw [ih,World.putObj_put]
  rfl
def F5 (cells:List CV) (off:Nat) (new:List CV):List CV:=cells.take off++(new++cells.drop (off+new.length))
theorem O1 {cells new:List CV} {off:Nat} (h:off+new.length≤cells.length):(F5 cells off new).length=cells.length:=by
 simp [F5]; omega
theorem X9 {cells new:List CV} {off:Nat} (h:off+new.length≤cells.length) (i:Nat) :
 (F5 cells off new)[i]? = if off≤i∧i < off+new.length then new[i - off]? else cells[i]?:=by
 unfold F5
 rw [List.getElem?_append]
 simp only [List.length_take,Nat.min_eq_left (show off≤cells.length by omega)]
 split
 ·rename_i h1
  rw [if_neg (by omega),List.getElem?_take,if_pos h1]
 ·rename_i h1
  rw [List.getElem?_append]
  split
  ·rename_i h2
   rw [if_pos (by omega)]
  ·rename_i h2
   rw [if_neg (by omega),List.getElem?_drop]
   congr 1; omega
theorem X6 {cells new:List CV} {off:Nat} {c:CV} (h:c∈F5 cells off new):c∈new∨c∈cells:=by
 simp only [F5,List.mem_append] at h
 rcases h with h | h | h
 ·exact .inr (List.mem_of_mem_take h)
 ·exact .inl h
 ·exact .inr (List.mem_of_mem_drop h)
theorem Ext.putObj {M:l3} {w:World} {b:Nat} (o:Obj) (hkp:¬ M.keep b) (hf:¬ M.full b) (hc:∀ o,¬ M.cell b o):Ext M w M (World.putObj w b o) :=
 ⟨⟨[],by simp⟩,fun _ h=>h,fun _ _ h=>.inr h,fun b' h=>World.putObj_other w o (fun e=>hf (e ▸ h)),fun b' o' h=>B5 (World.putObj_other w o (fun e=>hc o' (e ▸ h))),by rw [World.putObj_size]; exact Nat.le_refl _,G5,rfl,rfl,rfl,fun b' h=>⟨h,World.putObj_other w o (fun e=>hkp (e ▸ h)),id,fun _=>id⟩⟩
theorem Rel.putObj {C:Ctx} {M:l3} {σ:List c5} {w:World} (hr:Rel C M σ w) {k:Nat} {p:Pl} {ob0 ob:c5} (hk:M.pl[k]? = some p) (hs:σ[k]? = some ob0) (hl0:ob0.live=true) (hf:¬ M.full p.block) (hc:∀ o,¬ M.cell p.block o) (o:Obj)
 (h:G0 M (World.putObj w p.block o) p ob):Rel C M (σ.set k ob) (World.putObj w p.block o):=by
 have hx:=Ext.putObj (w:=w) o (hr.nk k p ob0 hk hs hl0) hf hc
 have hb:p.block < w.heap.size:=(hr.obj k p ob0 hk hs).1.lt hl0
 have hget:∀ {k':Nat} {x:c5},(σ.set k ob)[k']? = some x→(k'=k∧x=ob)∨(k'≠k∧σ[k']? = some x):=by
  intro k' x hh
  rw [List.getElem?_set] at hh
  split at hh
  ·rename_i e
   split at hh
   ·injection hh with hh; exact .inl ⟨e.symm,hh.symm⟩
   ·cases hh
  ·rename_i e; exact .inr ⟨fun e'=>e e'.symm,hh⟩
 refine ⟨by simp [hr.len],fun b o' ha=>by rw [World.putObj_size]; exact hr.blk b o' ha,fun k' q x hk' hx'=>?_,fun k1 k2 q1 q2 x1 x2 hk1 hk2 hx1 hx2 hl1 hl2 hbb=>?_,fun g cells hg=>(hr.glob g cells hg).mono hx,fun b h=>(by rw [World.putObj_size]; exact hr.kep b h),fun k' q x hk' hx' hlv=>?_⟩
 ·rcases hget hx' with ⟨rfl,rfl⟩ | ⟨hne,hs'⟩
  ·have:q=p:=by rw [hk] at hk'; injection hk' with hk'; exact hk'.symm
   subst this
   refine ⟨h,?_⟩
   cases x <;> first | trivial|exact hf|exact ⟨hf,hc⟩
  ·obtain ⟨h1,h2⟩:=hr.obj k' q x hk' hs'
   refine ⟨?_,h2⟩
   by_cases hl:x.live=true
   ·refine h1.mono hx (World.putObj_other w o fun e=>hne ?_) (fun _ _ _ _ h=>h)
    exact hr.inj k' k q p x ob0 hk' hk hs' hs hl hl0 e.symm
   ·cases x <;> first | trivial | simp [c5.live] at hl
 ·have back:∀ {k':Nat} {x:c5},(σ.set k ob)[k']? = some x→x.live=true→∃ x',σ[k']? = some x'∧x'.live=true:=by
   intro k' x hh hl
   rcases hget hh with ⟨rfl,rfl⟩ | ⟨_,hs'⟩
   ·exact ⟨ob0,hs,hl0⟩
   ·exact ⟨x,hs',hl⟩
  obtain ⟨y1,hy1,hl1'⟩:=back hx1 hl1
  obtain ⟨y2,hy2,hl2'⟩:=back hx2 hl2
  exact hr.inj k1 k2 q1 q2 y1 y2 hk1 hk2 hy1 hy2 hl1' hl2' hbb
 ·rcases hget hx' with ⟨rfl,rfl⟩ | ⟨hne,hs'⟩
  ·rw [hk] at hk'
   injection hk' with hk'
   subst hk'
   exact hr.nk _ _ ob0 hk hs hl0
  ·exact hr.nk k' q x hk' hs' hlv
section
variable {C:Ctx} {σ:List c5} {E:Env} {o:Oper}
theorem a0s {M:l3} {w:World} {c:CV} {v:Value} (h:RV M w c v) (ho:c.one=true∨∃ cs,c = .agg cs):∀ u∈v.cells.toList,u.oneCell'=true:=by
 obtain ⟨h1,h2,h3⟩:=h.cells ho
 intro u hu
 obtain ⟨i,hi,rfl⟩:=List.mem_iff_getElem.1 hu
 have hi':i < v.cells.size:=by simpa using hi
 have hi2:i < c.cells.length:=by omega
 have:=(h3 i c.cells[i] (by simp [hi2])).one (h2 _ (List.getElem_mem hi2))
 simpa [hi'] using this
theorem j1 {t:TypeId} {x y:Operand} {k off s:Nat} {c:CV} {cells:List CV} {t0:Option TypeId} {K:v7→List c5→Prop} (ho:o.op = .store t x y) (hx:E.valid x) (hy:E.valid y) (ex:E.val C x = .ptr k off) (ey:E.val C y=c) (hs:∀ w,(sizeOf t).run C.P w = .ok s w)
 (hc:c.one=true∨∃ cs,c = .agg cs) (hk:σ[k]? = some (.boxT t0 cells)) (hl:c.cells.length=s) (hlt:off+s≤cells.length) (h:K (.ret (.val undef)) (σ.set k (.boxT t0 (F5 cells off c.cells)))):C2 C σ E o K:=fun M w ρ hr hh=>by
 have h1:=hh x (by simp [ho,Op.operands]) hx
 have h2:=hh y (by simp [ho,Op.operands]) hy
 rw [ex] at h1
 rw [ey] at h2
 generalize hu:ρ x=u at h1
 cases h1 with
 | ptr hp =>
  rename_i p
  obtain ⟨⟨arr,ty,e1,e2,e3,e4⟩,hf,hcl⟩:=hr.obj k p _ hp hk
  obtain ⟨g1,g2,g3⟩:=h2.cells hc
  have hone:=a0s h2 hc
  have hsz:off+c.cells.length≤cells.length:=by omega
  have hrun:(execOp ρ o).run C.P w = .ok .skip (World.putObj w p.block (.cells (v8 arr off (ρ y).cells.toList) (t0.getD ty) (0,0))):=by
   have:=E8 (P:=C.P) (b:=p.block) (off:=off) (t:=t0.getD ty) (ρ y).cells.toList 0 arr w e1 (by simp; omega) hone
   simp only [Nat.add_zero] at this
   simp [execOp,ho,hu,Instr.storeAt,Instr.sureAddr,storeVar,hs,g1,hl,this]
  rw [hrun]
  have hx:=Ext.putObj (w:=w) (.cells (v8 arr off (ρ y).cells.toList) (t0.getD ty) (0,0)) (hr.nk k p _ hp hk rfl) hf hcl
  have hb:p.block < w.heap.size:=(Array.getElem?_eq_some_iff.1 e1).1
  refine ⟨.val undef,_,M,hx,hr.putObj (ob:=.boxT t0 (F5 cells off c.cells)) hp hk rfl hf hcl _ ⟨_,ty,World.putObj_same w _ hb,by rw [A3,O1 hsz,e2],fun c' hc'=>?_,fun i c' hi=>?_⟩,.val _,h⟩
  ·rcases X6 hc' with h' | h'
   ·exact g2 _ h'
   ·exact e3 _ h'
  ·rw [C9 _ _ _ _ (by simp; omega)]
   rw [X9 hsz] at hi
   simp only [Array.length_toList,g1]
   split at hi
   ·rename_i hin
    rw [if_pos hin]
    have:=(g3 _ _ hi).mono hx
    simpa using this
   ·rename_i hin
    rw [if_neg hin]
    exact (e4 _ _ hi).mono hx
theorem a68 {f:FuncId} {xs:Array Operand} {ts:Array TypeId} {cargs:List CV} {K:v7→List c5→Prop} (ho:o.op = .call { callee:=.value (.func f),args:=xs,argTypes:=ts}) (hcall:∀ args w,(callFunc f args).run C.P w = .ok (.enter f args) w)
 (hv:∀ x∈xs.toList,E.valid x) (ea:xs.toList.map (E.val C)=cargs) (h:b8 C f cargs σ K):C2 C σ E o K:=fun M w ρ hr hh=>by
 have hf:RV M w (.val (.func (.func f) #[] #[])) (ρ (.func f)):=hh (.func f) (by simp [ho,Op.operands,Call.operands]) tt
 have ef:=n8 hf
 have hrun:(execOp ρ o).run C.P w = .ok (.enter f (xs.map ρ)) w:=by
  simp [execOp,ho,resolve,ef,Deferred.ofValue,invoke,hcall]
 rw [hrun]
 refine (h M w (xs.map ρ) hr (by simp [← ea]) fun i c hi=>?_).mono fun e w' he=>by cases e <;> exact he
 subst ea
 simp only [List.getElem?_map,Option.map_eq_some_iff] at hi
 obtain ⟨x,hx,rfl⟩:=hi
 have hx':xs[i]? = some x:=by simpa using hx
 have hm:x∈xs:=Array.mem_of_getElem? hx'
 have:(xs.map ρ).getD i undef=ρ x:=by
  rw [Array.getD_eq_getD_getElem?,Array.getElem?_map,hx']; rfl
 rw [this]
 exact hh x (by simp [ho,Op.operands,Call.operands,hm]) (hv x (by simpa using hm))
def a6A (pls:Array (Nat × Nat)) (cells:List CV):List (Nat × CV)→Option (List CV)
 | []=>some cells
 | (i,c)::rest =>
  match pls[i]? with
  | none=>none
  | some (off,size)=>if c.cells.length=size∧off+size≤cells.length then a6A pls (F5 cells off c.cells) rest else none
theorem a05:∀ (vs:List Value) (cs:Array Value) (off j:Nat),(vs.zipIdx j).foldl (fun cs (x:Value × Nat)=>cs.setIfInBounds (off+x.2) x.1) cs=v8 cs (off+j) vs
 | [],_,_,_=>rfl
 | v::vs,cs,off,j=>by
  rw [List.zipIdx_cons,List.foldl_cons,a05 vs _ off (j+1)]
  rfl
theorem a8m {M:l3} {w:World} {pls:Array (Nat × Nat)} {place:Nat→Option (Nat × Nat)} (hpl:∀ i,place i=pls[i]?):∀ (ps:List (Nat × CV)) (qs:List (Nat × Value)) (cells:List CV) (arr:Array Value) (out:List CV),
 a6A pls cells ps=some out→ps.map (·.1)=qs.map (·.1)→(∀ (i:Nat) (x:Nat × CV) (y:Nat × Value),ps[i]? = some x→qs[i]? = some y→RV M w x.2 y.2∧(x.2.one=true∨∃ cs,x.2 = .agg cs)) →
 arr.size=cells.length→(∀ c∈cells,c.one=true)→(∀ (i:Nat) (c:CV),cells[i]? = some c→RV M w c (arr.getD i undef)) →
 ∃ r,Instr.fill place arr qs=some r∧RV M w (.agg out) (.agg r)
 | [],[],cells,arr,out,h,_,_,h2,h3,h4=>by
  simp only [a6A,Option.some.injEq] at h
  subst h
  exact ⟨arr,rfl,.agg h2 h3 h4⟩
 | [],q::qs,_,_,_,_,h,_,_,_,_=>by simp at h
 | p::ps,[],_,_,_,_,h,_,_,_,_=>by simp at h
 | (i,c)::ps,(i',v)::qs,cells,arr,out,h,hm,hrv,h2,h3,h4=>by
  simp only [List.map_cons,List.cons.injEq] at hm
  obtain ⟨rfl,hm⟩:=hm
  simp only [a6A] at h
  cases hp:pls[i]? with
  | none=>rw [hp] at h; cases h
  | some x =>
   obtain ⟨off,size⟩:=x
   rw [hp] at h
   simp only at h
   split at h
   ·rename_i hc
    obtain ⟨hc1,hc2⟩:=hc
    obtain ⟨hv,hone⟩:=hrv 0 (i,c) (i,v) rfl rfl
    obtain ⟨g1,g2,g3⟩:=hv.cells hone
    have g1:v.cells.size=c.cells.length:=g1
    have hsz:off+c.cells.length≤cells.length:=by omega
    have hfold:(v.cells.zipIdx.foldl (fun cs (x:Value × Nat)=>cs.setIfInBounds (off+x.2) x.1) arr)=v8 arr off v.cells.toList:=by
     rw [← Array.foldl_toList,Array.toList_zipIdx,a05]; rfl
    have ih:=a8m hpl ps qs (F5 cells off c.cells) (v8 arr off v.cells.toList) out h hm (fun j x y hx hy=>hrv (j+1) x y (by simpa using hx) (by simpa using hy)) (by rw [A3,O1 hsz,h2])
     (fun c' hc'=>by
      rcases X6 hc' with h' | h'
      ·exact g2 _ h'
      ·exact h3 _ h')
     (fun j c' hj=>by
      rw [C9 _ _ _ _ (by simp; omega)]
      rw [X9 hsz] at hj
      simp only [Array.length_toList,g1]
      split at hj
      ·rename_i hin
       rw [if_pos hin]
       have:=g3 _ _ hj
       simpa using this
      ·rename_i hin
       rw [if_neg hin]
       exact h4 _ _ hj)
    obtain ⟨r,hr1,hr2⟩:=ih
    refine ⟨r,?_,hr2⟩
    simp only [Instr.fill,hpl,hp]
    rw [if_neg (by simp; omega)]
    exact (congrArg (fun z=>Instr.fill place z qs) hfold).trans hr1
   ·cases h
theorem b6O {t:TypeId} {parts:Array (Nat × Operand)} {fs:Array Field} {pls:Array (Nat × Nat)} {z:Value} {ps:List (Nat × CV)} {out:List CV} (ho:o.op = .build t parts) (hv:∀ x∈parts.toList,E.valid x.2)
 (hu:∀ w,(underlying t).run C.P w = .ok (.struct fs) w) (hz:∀ w,(zeroValue t).run C.P w = .ok z w) (hz1:E3 z=true) (hz2:∃ cs,C3 z = .agg cs)
 (hpl:∀ w,(fs.mapM fun (f:Field)=>do pure (f.offset,← sizeOf f.type)).run C.P w = .ok pls w) (ep:parts.toList.map (fun x=>(x.1,E.val C x.2))=ps)
 (hone:∀ x∈ps,x.2.one=true∨∃ cs,x.2 = .agg cs) (hout:a6A pls (C3 z).cells ps=some out):m6 C σ E o (.agg out) :=
 j7 fun M w ρ hr h=>by
  have hz0:RV M w (C3 z) z:=O8 hz1
  obtain ⟨g1,g2,g3⟩:=hz0.cells (.inr hz2)
  have hmem:∀ x∈parts.toList,x.2∈o.op.operands:=fun x hx=>by
   rw [ho]
   simp only [Op.operands,List.mem_toArray,List.mem_map]
   exact ⟨x,hx,rfl⟩
  obtain ⟨r,hr1,hr2⟩:=a8m (M:=M) (w:=w) (place:=fun i=>pls[i]?) (fun _=>rfl) ps (parts.toList.map fun x=>(x.1,ρ x.2)) (C3 z).cells z.cells out hout (by simp [← ep]) (fun i x y hx hy=>by
   refine ⟨?_,hone x (List.mem_of_getElem? hx)⟩
   subst ep
   simp only [List.getElem?_map,Option.map_eq_some_iff] at hx hy
   obtain ⟨a,ha,rfl⟩:=hx
   obtain ⟨a',ha',rfl⟩:=hy
   have:a=a':=by rw [ha] at ha'; injection ha'
   subst this
   have hm:=List.mem_of_getElem? ha
   exact h _ (hmem _ hm) (hv _ hm)) g1 g2 g3
  refine ⟨.agg r,?_,hr2⟩
  have hl:(parts.map fun x=>(x.1,ρ x.2)).toList=parts.toList.map fun x=>(x.1,ρ x.2):=by simp
  simp only [execOp,ho,Instr.build,Sem.run_bind,hz,Result.andThen_ok,hu,hpl]
  simp only [hl,hr1]
  rfl
end
end Go.Cl
namespace Go.Cl
def y8 (e:Edge):Bool:=Region.binds .any e
def b5W (ops:Array Oper) (nh:Nat) (ms:List Nat):Bool :=
 Nat.ble nh ops.size &&
 (List.range ops.size).all fun j =>
  match ops[j]? with
  | none=>true
  | some o =>
   (o.after.toList.all fun e=>!y8 e || Nat.blt e.on j) &&
   ((List.range ops.size).all fun i=>!(ms.getD j 0).testBit i || o.after.toList.any fun e=>y8 e && (Nat.beq e.on i || (ms.getD e.on 0).testBit i)) &&
   (if Nat.ble nh j then (List.range j).all fun i=>(ms.getD j 0).testBit i
    else
     ((o.looksAt ops).all fun t=>(List.range ops.size).all fun i=>Nat.beq i j || !((ops[i]?).bind (·.dst) == some t) || (if Nat.blt i j then (ms.getD j 0).testBit i else (ms.getD i 0).testBit j)) &&
     (o.dst == none || (List.range nh).all fun i=>Nat.beq i j || !((ops[i]?).bind (·.dst) == o.dst)))
structure a6V (ops:Array Oper) (nh:Nat) (ms:List Nat):Prop where
 le:nh≤ops.size
 edge:∀ j o,ops[j]? = some o→∀ e∈o.after,y8 e=true→e.on < j
 mask:∀ j o,ops[j]? = some o→∀ i,i < ops.size→(ms.getD j 0).testBit i=true→∃ e∈o.after,y8 e=true∧(e.on=i∨(ms.getD e.on 0).testBit i=true)
 tail:∀ j,nh≤j→j < ops.size→∀ i,i < j→(ms.getD j 0).testBit i=true
 tmps:∀ j o,j < nh→ops[j]? = some o→∀ t∈o.looksAt ops,∀ i,i < ops.size→i≠j→(ops[i]?).bind (·.dst)=some t→(i < j∧(ms.getD j 0).testBit i=true)∨(j < i∧(ms.getD i 0).testBit j=true)
 uniq:∀ j o d,j < nh→ops[j]? = some o→o.dst=some d→∀ i,i < nh→i≠j→(ops[i]?).bind (·.dst)≠some d
theorem b8W {ops:Array Oper} {nh:Nat} {ms:List Nat} (h:b5W ops nh ms=true):a6V ops nh ms:=by
 simp only [b5W,Bool.and_eq_true,List.all_eq_true,List.mem_range] at h
 obtain ⟨h0,h⟩:=h
 have get:∀ j o,ops[j]? = some o→_:=fun j o ho=>by
  have hj:j < ops.size:=(Array.getElem?_eq_some_iff.1 ho).1
  have:=h j hj
  rw [ho] at this
  simp only [Bool.and_eq_true] at this
  exact this
 refine ⟨nb h0,fun j o ho e he hb=>?_,fun j o ho i hi hm=>?_,fun j hn hj i hi=>?_,fun j o hn ho t ht i hi hne hd=>?_,fun j o d hn ho hd i hi hne=>?_⟩
 ·have:=(get j o ho).1.1
  rw [List.all_eq_true] at this
  have:=this e (by simpa using he)
  simp only [hb,Bool.not_true,Bool.false_or] at this
  simpa [Nat.blt_eq] using this
 ·have:=(get j o ho).1.2
  rw [List.all_eq_true] at this
  have:=this i (by simpa using hi)
  simp only [hm,Bool.not_true,Bool.false_or,List.any_eq_true,Bool.and_eq_true,Bool.or_eq_true] at this
  obtain ⟨e,he,hb,hx⟩:=this
  refine ⟨e,by simpa using he,hb,?_⟩
  rcases hx with hx | hx
  ·exact .inl (Nat.eq_of_beq_eq_true hx)
  ·exact .inr hx
 ·have ho:ops[j]? = some ops[j]:=by simp [hj]
  have:=(get j _ ho).2
  rw [if_pos (by simpa [Nat.ble_eq] using hn),List.all_eq_true] at this
  exact this i (by simpa using hi)
 ·have:=(get j o ho).2
  rw [if_neg (by simp [Nat.ble_eq]; omega)] at this
  simp only [Bool.and_eq_true] at this
  have h1:=this.1
  rw [List.all_eq_true] at h1
  have h2:=h1 t ht
  rw [List.all_eq_true] at h2
  have h3:=h2 i (by simpa using hi)
  have e1:Nat.beq i j=false:=Bool.eq_false_iff.2 fun hb=>hne (Nat.eq_of_beq_eq_true hb)
  simp only [e1,hd,Bool.false_or,beq_self_eq_true,Bool.not_true] at h3
  by_cases hlt:i < j
  ·rw [if_pos (by simpa [Nat.blt_eq] using hlt)] at h3
   exact .inl ⟨hlt,h3⟩
  ·rw [if_neg (by simp [Nat.blt_eq]; omega)] at h3
   exact .inr ⟨by omega,h3⟩
 ·have:=(get j o ho).2
  rw [if_neg (by simp [Nat.ble_eq]; omega)] at this
  simp only [Bool.and_eq_true] at this
  have h1:=this.2
  simp only [hd,Bool.or_eq_true,List.all_eq_true,List.mem_range] at h1
  rcases h1 with h1 | h1
  ·cases h1
  ·have h3:=h1 i hi
   intro hc
   rcases h3 with h3 | h3
   ·exact hne (Nat.eq_of_beq_eq_true h3)
   ·simp [hc] at h3
section
variable {C:Ctx} {n:Nat} {σ:List c5} {ops:Array Oper}
def C7 (C:Ctx) (σ:List c5) (ops:Array Oper) (o:Oper) (E:Env) (c:CV) (g:Prop):Prop :=
 (o.guard=none∧g∧m6 C σ E o c) ∨
 (∃ j t want b,o.guard=some (j,want)∧(ops[j]?).bind (·.dst)=some t∧(¬ E.ok t→E.un t)∧E.f t = .val (.bool b)∧(g↔(E.ok t∧b=want))∧(E.ok t→b=want→m6 C σ E o c))
def a0S (C:Ctx) (σ:List c5) (ops:Array Oper) (K:Env→Prop):List Oper→Env→Prop
 | [],E=>K E
 | o::l,E=>∃ c g,C7 C σ ops o E c g∧a0S C σ ops K l (E.put o.dst c g)
theorem u0 {K:Env→Prop} {E:Env} (h:K E):a0S C σ ops K [] E:=h
theorem c0f {K:Env→Prop} {E:Env} {o:Oper} {l:List Oper} {c:CV} (hg:o.guard=none) (hy:m6 C σ E o c) (h:a0S C σ ops K l (E.put o.dst c True)):a0S C σ ops K (o::l) E :=
 ⟨c,True,.inl ⟨hg,tt,hy⟩,h⟩
theorem A5 {K:Env→Prop} {E:Env} {o:Oper} {l:List Oper} {j t:Nat} {want b:Bool} {c:CV} (hg:o.guard=some (j,want)) (ht:(ops[j]?).bind (·.dst)=some t) (hv:E.ok t) (hb:E.f t = .val (.bool b))
 (hy:b=want→m6 C σ E o c) (h:a0S C σ ops K l (E.put o.dst c (b=want))):a0S C σ ops K (o::l) E :=
 ⟨c,b=want,.inr ⟨j,t,want,b,hg,ht,fun h=>absurd hv h,hb,⟨fun h=>⟨hv,h⟩,fun h=>h.2⟩,fun _=>hy⟩,h⟩
theorem a1Z {K:Env→Prop} {E:Env} {o:Oper} {l:List Oper} {j t:Nat} {want b:Bool} {c:CV} (hg:o.guard=some (j,want)) (ht:(ops[j]?).bind (·.dst)=some t) (hv:¬ E.ok t→E.un t) (hb:E.f t = .val (.bool b))
 (hy:E.ok t→b=want→m6 C σ E o c) (h:a0S C σ ops K l (E.put o.dst c (E.ok t∧b=want))):a0S C σ ops K (o::l) E :=
 ⟨c,E.ok t∧b=want,.inr ⟨j,t,want,b,hg,ht,hv,hb,Iff.rfl,hy⟩,h⟩
def l7 (L:Nat→Bool):Nat→List (Oper × CV × Prop)→Env→Env
 | _,[],E=>E
 | k,(o,c,g)::l,E=>l7 L (k+1) l (match L k with | true=>E.put o.dst c g | false=>E)
def Env.agree (t:Nat) (E E':Env):Prop:=E.f t=E'.f t∧E.ok t=E'.ok t∧E.un t=E'.un t
theorem b22 {t:Nat} {E E':Env} {d:Option Nat} {c:CV} {g:Prop} (h:d=some t∨E.agree t E'):(E.put d c g).agree t (E'.put d c g):=by
 cases d with
 | none =>
  rcases h with h | h
  ·cases h
  ·exact h
 | some d =>
  unfold Env.agree
  simp only [Env.put_f,Env.put_ok,Env.put_un]
  by_cases ht:t=d
  ·subst ht; simp
  ·simp only [if_neg ht]
   rcases h with h | h
   ·injection h with h; exact absurd h.symm ht
   ·exact h
theorem C4 {t:Nat} {E E':Env} {d:Option Nat} {c:CV} {g:Prop} (hd:d≠some t) (h:E.agree t E'):(E.put d c g).agree t E':=by
 cases d with
 | none=>exact h
 | some d =>
  have ht:t≠d:=fun e=>hd (by rw [e])
  unfold Env.agree
  simp only [Env.put_f,Env.put_ok,Env.put_un,if_neg ht]
  exact h
theorem Env.agree.symm {t:Nat} {E E':Env} (h:E.agree t E'):E'.agree t E:=⟨h.1.symm,h.2.1.symm,h.2.2.symm⟩
theorem x9 {t:Nat} {L L':Nat→Bool}:∀ (l:List (Oper × CV × Prop)) (k:Nat) (E E':Env),E.agree t E'→(∀ i x,l[i]? = some x→x.1.dst=some t→L (k+i)=L' (k+i))→(l7 L k l E).agree t (l7 L' k l E')
 | [],_,_,_,h,_=>h
 | (o,c,g)::l,k,E,E',h,hl=>by
  simp only [l7]
  refine x9 l (k+1) _ _ ?_ (fun i x hi hx=>by
   have:=hl (i+1) x (by simpa using hi) hx
   rwa [show k+(i+1)=k+1+i from by omega] at this)
  by_cases hd:o.dst=some t
  ·have:=hl 0 _ rfl hd
   rw [Nat.add_zero] at this
   rw [this]
   cases L' k
   ·exact h
   ·exact b22 (.inl hd)
  ·have h1:(match L k with | true=>E.put o.dst c g | false=>E).agree t E':=by
    cases L k
    ·exact h
    ·exact C4 hd h
   cases L' k
   ·exact h1
   ·exact (C4 hd h1.symm).symm
theorem a8A {d:Nat} {L:Nat→Bool}:∀ (l:List (Oper × CV × Prop)) (k j:Nat) (E:Env) (o:Oper) (c:CV) (g:Prop),l[j]? = some (o,c,g)→o.dst=some d→L (k+j)=true→(∀ i x,l[i]? = some x→i≠j→x.1.dst≠some d) →
 (l7 L k l E).f d=c∧(l7 L k l E).ok d=g∧(l7 L k l E).un d=(¬ g)
 | [],_,_,_,_,_,_,h,_,_,_=>by simp at h
 | (o',c',g')::l,k,0,E,o,c,g,h,hd,hL,hu=>by
  simp only [List.getElem?_cons_zero,Option.some.injEq,Prod.mk.injEq] at h
  obtain ⟨rfl,rfl,rfl⟩:=h
  rw [Nat.add_zero] at hL
  simp only [l7,hL]
  have:(l7 L (k+1) l (E.put o'.dst c' g')).agree d (l7 (fun _=>false) (k+1) l (E.put o'.dst c' g')):=x9 l _ _ _ ⟨rfl,rfl,rfl⟩ fun i x hi hx=>absurd hx (hu (i+1) x (by simpa using hi) (by omega))
  have hall:∀ (l:List (Oper × CV × Prop)) (k:Nat) (E:Env),l7 (fun _=>false) k l E=E:=by
   intro l
   induction l with
   | nil=>intros; rfl
   | cons x l ih=>intro k E; obtain ⟨a,b,c⟩:=x; simp only [l7]; exact ih _ _
  rw [hall] at this
  rw [this.1,this.2.1,this.2.2,hd,Env.put_f,Env.put_ok,Env.put_un]
  simp
 | (o',c',g')::l,k,j+1,E,o,c,g,h,hd,hL,hu=>by
  simp only [l7]
  exact a8A l (k+1) j _ o c g (by simpa using h) hd (by rwa [show k+1+j=k+(j+1) from by omega]) fun i x hi hne=>hu (i+1) x (by simpa using hi) (by omega)
theorem a4D {K:Env→Prop}:∀ (l:List Oper) (E:Env),a0S C σ ops K l E→∃ hs:List (Oper × CV × Prop),hs.map (·.1)=l∧K (l7 (fun _=>true) 0 hs E) ∧
 ∀ i o c g,hs[i]? = some (o,c,g)→C7 C σ ops o (l7 (fun k=>decide (k < i)) 0 hs E) c g
 | [],E,h=>⟨[],rfl,h,by simp⟩
 | o::l,E,⟨c,g,h1,h2⟩=>by
  obtain ⟨hs,e1,e2,e3⟩:=a4D l _ h2
  have shift:∀ (L:Nat→Bool) (l:List (Oper × CV × Prop)) (k:Nat) (E:Env),l7 L (k+1) l E=l7 (fun i=>L (i+1)) k l E:=by
   intro L l
   induction l with
   | nil=>intros; rfl
   | cons x l ih=>intro k E; obtain ⟨a,b,c⟩:=x; simp only [l7]; exact ih _ _
  refine ⟨(o,c,g)::hs,by simp [e1],?_,fun i o' c' g' hi=>?_⟩
  ·simp only [l7]
   rw [shift]
   exact e2
  ·rcases i with _ | i
   ·simp only [List.getElem?_cons_zero,Option.some.injEq,Prod.mk.injEq] at hi
    obtain ⟨rfl,rfl,rfl⟩:=hi
    have hall:∀ (l:List (Oper × CV × Prop)) (k:Nat) (E:Env),l7 (fun k=>decide (k < 0)) k l E=E:=by
     intro l
     induction l with
     | nil=>intros; rfl
     | cons x l ih =>
      intro k E; obtain ⟨a,b,c⟩:=x; simp only [l7]
      have:decide (k < 0)=false:=by simp
      rw [this]
      exact ih _ _
    rw [hall]
    exact h1
   ·have:=e3 i o' c' g' (by simpa using hi)
    simp only [l7]
    have h0:decide (0 < i+1)=true:=by simp
    rw [h0,shift]
    have e:(fun k=>decide (k+1 < i+1))=fun k=>decide (k < i):=by funext k; simp
    rw [e]
    exact this
theorem a0K {nh:Nat} {ms:List Nat} (hok:a6V ops nh ms) {listed:Array Bool} (hcl:∀ k o,ops[k]? = some o→listed.getD k false=true→∀ e∈o.after,y8 e=true→listed.getD e.on false=true) :
 ∀ (j:Nat) (o:Oper),ops[j]? = some o→(∀ e∈o.after,y8 e=true→listed.getD e.on false=true)→∀ i,i < ops.size→(ms.getD j 0).testBit i=true→listed.getD i false=true:=by
 intro j
 induction j using Nat.strongRecOn with
 | _ j ih =>
  intro o ho he i hi hm
  obtain ⟨e,hmem,hb,hx⟩:=hok.mask j o ho i hi hm
  rcases hx with hx | hx
  ·subst hx; exact he e hmem hb
  ·have hlt:=hok.edge j o ho e hmem hb
   have hj:j < ops.size:=(Array.getElem?_eq_some_iff.1 ho).1
   have ho':ops[e.on]? = some (ops[e.on]'(by omega)):=by simp [show e.on < ops.size by omega]
   exact ih e.on hlt _ ho' (hcl _ _ ho' (he e hmem hb)) i hi hx
theorem w6 {listed:Array Bool} {i:Nat} (hi:i < listed.size):(listed.getD i true=false)↔(listed.getD i false=false):=by
 simp [hi]
theorem a9G {nh:Nat} {ms:List Nat} (hok:a6V ops nh ms) {Q:Exit→Act→World→Prop}:∀ (l:List Oper) (j:Nat) (listed:Array Bool) (a:Act) (w:World),nh≤j→(∀ i,l[i]? = ops[j+i]?)→listed.size=ops.size →
 (∀ i,i < ops.size→listed.getD i false=decide (i < j))→wpList C.P ops Q l a w→wpAny C.P .any ops Q l.length listed a w
 | [],j,listed,a,w,_,hl,hsz,hL,h=>by
  refine ⟨?_,h⟩
  have hj:ops.size≤j:=by
   rcases Nat.lt_or_ge j ops.size with h' | h'
   ·have:=hl 0
    simp [h'] at this
   ·exact h'
  apply List.eq_nil_iff_forall_not_mem.2
  intro i hi
  obtain ⟨h1,o,ho,_⟩:=mem_ready.1 hi
  have hi':i < ops.size:=(Array.getElem?_eq_some_iff.1 ho).1
  have h2:=hL i hi'
  rw [(w6 (by omega)).1 h1] at h2
  simp at h2; omega
 | o::l,j,listed,a,w,hn,hl,hsz,hL,h=>by
  have hj:ops[j]? = some o:=by have:=hl 0; simpa using this.symm
  have hjs:j < ops.size:=(Array.getElem?_eq_some_iff.1 hj).1
  have hrdy:j∈Region.ready .any ops listed:=mem_ready.2 ⟨(w6 (by omega)).2 (by rw [hL j hjs]; simp),o,hj,fun e he hb=>by
   have:=hok.edge j o hj e he hb
   rw [hL e.on (by omega)]; simpa using this⟩
  refine ⟨fun h0=>(by rw [h0] at hrdy; cases hrdy),fun i hi=>?_⟩
  have hij:i=j:=by
   obtain ⟨h1,o',ho',he⟩:=mem_ready.1 hi
   have hi':i < ops.size:=(Array.getElem?_eq_some_iff.1 ho').1
   have h2:=hL i hi'
   rw [(w6 (by omega)).1 h1] at h2
   have hge:j≤i:=by simp at h2; omega
   rcases Nat.lt_or_ge j i with hlt | hge'
   ·have hm:=hok.tail i (by omega) hi' j hlt
    have:=a0K hok (listed:=listed) (fun k ok hk hkl e hek hb=>by
     have hks:k < ops.size:=(Array.getElem?_eq_some_iff.1 hk).1
     rw [hL k hks] at hkl
     have:=hok.edge k ok hk e hek hb
     rw [hL e.on (by omega)]
     simp at hkl ⊢; omega) i o' ho' (fun e hek hb=>he e hek hb) j hjs hm
    rw [hL j hjs] at this
    simp at this
   ·omega
  subst hij
  have hK:∀ a w,wpList C.P ops Q l a w→wpAny C.P .any ops Q l.length (listed.setIfInBounds i true) a w:=fun a w h =>
   a9G hok l (i+1) _ a w (by omega) (fun k=>by have:=hl (k+1); simpa [Nat.add_assoc,Nat.add_comm 1 k] using this) (by simp [hsz]) (fun k hk=>by
    by_cases hik:i=k
    ·subst hik
     have:i < listed.size:=by omega
     simp [this]
    ·simp only [Array.getD_eq_getD_getElem?,Array.getElem?_setIfInBounds_ne hik]
     rw [← Array.getD_eq_getD_getElem?,hL k hk]
     by_cases h1:k < i
     ·have h2:k < i+1:=by omega
      simp [h1,h2]
     ·have h2:¬ k < i+1:=by omega
      simp [h1,h2]) h
  unfold wpList at h
  unfold wpOp
  simp only [hj]
  split
  ·rename_i hw
   rw [if_pos hw] at h
   exact h.imp (Oper.wp_mono hK) id
  ·rename_i hw
   rw [if_neg hw] at h
   exact hK _ _ h
theorem M8 {o:Oper} {t:Nat} (h:Operand.tmp t∈o.op.operands):t∈o.looksAt ops :=
 List.mem_append_left _ (List.mem_filterMap.2 ⟨.tmp t,by simpa using h,rfl⟩)
theorem F6 {o:Oper} {j t:Nat} {want:Bool} (hg:o.guard=some (j,want)) (ht:(ops[j]?).bind (·.dst)=some t):t∈o.looksAt ops:=by
 unfold Oper.looksAt
 rw [hg]
 exact List.mem_append_right _ (by simp [ht])
theorem b5i {nh:Nat} {ms:List Nat} (hok:a6V ops nh ms) {Q:s8→Env→List c5→Prop} {E:Env} {hs:List (Oper × CV × Prop)} (hhs:hs.map (·.1)=ops.toList.take nh)
 (hd:∀ o∈ops,∀ d,o.dst=some d→d < n)
 (hval:∀ i o c g,hs[i]? = some (o,c,g)→C7 C σ ops o (l7 (fun k=>decide (k < i)) 0 hs E) c g)
 (hfin:O2 C n ops Q (ops.toList.drop nh) (l7 (fun _=>true) 0 hs E) σ) (M0:l3) (w0:World) :
 ∀ (fuel:Nat) (listed:Array Bool) (u:List Nat) (a:Act) (w:World) (M:l3),listed.size=ops.size→u.length=fuel→(∀ i,i < ops.size→listed.getD i false=false→i∈u)→(∀ i,i∈u→i < ops.size∧listed.getD i false=false)→u.Nodup →
  (∀ k o,ops[k]? = some o→listed.getD k false=true→∀ e∈o.after,y8 e=true→listed.getD e.on false=true)→(∀ i,nh≤i→i < ops.size→listed.getD i false=false) →
  Ext M0 w0 M w→Rel C M σ w→G3 M w n (l7 (fun k=>listed.getD k false) 0 hs E) a→wpAny C.P .any ops (E6 C n Q M0 w0) fuel listed a w:=by
 have hget:∀ i o,i < nh→ops[i]? = some o→∃ c g,hs[i]? = some (o,c,g):=fun i o hi ho=>by
  have h1:(hs.map (·.1))[i]? = some o:=by rw [hhs,List.getElem?_take,if_pos hi]; simpa using ho
  rw [List.getElem?_map,Option.map_eq_some_iff] at h1
  obtain ⟨⟨o',c,g⟩,h1,rfl⟩:=h1
  exact ⟨c,g,h1⟩
 have hback:∀ i x,hs[i]? = some x→i < nh∧ops[i]? = some x.1:=fun i x hi=>by
  have h1:(hs.map (·.1))[i]? = some x.1:=by rw [List.getElem?_map,hi]; rfl
  rw [hhs,List.getElem?_take] at h1
  split at h1
  ·exact ⟨‹_›,by simpa using h1⟩
  ·cases h1
 have toTail:∀ (fuel:Nat) (listed:Array Bool) (a:Act) (w:World) (M:l3),listed.size=ops.size→fuel=(ops.toList.drop nh).length→(∀ i,i < nh→listed.getD i false=true)→(∀ i,nh≤i→i < ops.size→listed.getD i false=false) →
  Ext M0 w0 M w→Rel C M σ w→G3 M w n (l7 (fun k=>listed.getD k false) 0 hs E) a→wpAny C.P .any ops (E6 C n Q M0 w0) fuel listed a w:=by
  intro fuel listed a w M hsz hfu h1 h2 hx hr hf; subst hfu; refine a9G hok _ nh listed a w (Nat.le_refl _) (fun i=>by simp) hsz (fun i hi=>?_) ?_
  ·by_cases h:i < nh
   ·rw [h1 i h]; simp [h]
   ·rw [h2 i (by omega) hi]; simp [h]
  ·have hag:∀ t,(l7 (fun _=>true) 0 hs E).agree t (l7 (fun k=>listed.getD k false) 0 hs E):=fun t=>x9 hs 0 E E ⟨rfl,rfl,rfl⟩ fun i x hi _=>by
    have:=(hback i x hi).1
    simp [h1 i this]
   refine hfin.later hx hr ⟨hf.defers,hf.size,fun t ht=>?_,fun t ht=>hf.un t (by rw [← (hag t).2.2]; exact ht)⟩
   rw [(hag t).1]
   exact hf.rv t (by rw [← (hag t).2.1]; exact ht)
 intro fuel
 induction fuel with
 | zero =>
  intro listed u a w M hsz hu hun _ _ hcl htl hx hr hf
  have hu0:u=[]:=List.eq_nil_of_length_eq_zero hu
  subst hu0
  have hall:∀ i,i < ops.size→listed.getD i false=true:=fun i hi=>by
   cases h:listed.getD i false with
   | true=>rfl
   | false=>exact absurd (hun i hi h) (by simp)
  have hns:ops.size≤nh:=by
   rcases Nat.lt_or_ge nh ops.size with h | h
   ·have h1:=hall nh h
    rw [htl nh (Nat.le_refl _) h] at h1
    cases h1
   ·exact h
  refine toTail 0 listed a w M hsz (by simp; omega) (fun i hi=>hall i (by have:=hok.le; omega)) htl hx hr hf
 | succ fuel ih =>
  intro listed u a w M hsz hu hun hun' hnd hcl htl hx hr hf
  have hleast:∃ j,j∈Region.ready .any ops listed:=by
   have hex:∃ j,j < ops.size∧listed.getD j false=false:=by
    cases u with
    | nil=>simp at hu
    | cons x u=>exact ⟨x,hun' x (by simp)⟩
   obtain ⟨j,hj,hmin⟩:∃ j,(j < ops.size∧listed.getD j false=false)∧∀ i,i < j→¬ (i < ops.size∧listed.getD i false=false):=by
    obtain ⟨j,hj⟩:=hex
    induction j using Nat.strongRecOn with
    | _ j ihj =>
     by_cases h:∃ i,i < j∧i < ops.size∧listed.getD i false=false
     ·obtain ⟨i,hi,hp⟩:=h
      exact ihj i hi hp
     ·exact ⟨j,hj,fun i hi hp=>h ⟨i,hi,hp⟩⟩
   refine ⟨j,mem_ready.2 ⟨(w6 (by omega)).2 hj.2,ops[j]'hj.1,by simp [hj.1],fun e he hb=>?_⟩⟩
   have hlt:=hok.edge j _ (by simp [hj.1]) e he hb
   cases h:listed.getD e.on false with
   | true=>rfl
   | false=>exact absurd ⟨by omega,h⟩ (hmin e.on hlt)
  obtain ⟨j0,hj0⟩:=hleast
  by_cases htail:∃ i∈Region.ready .any ops listed,nh≤i
  ·
   obtain ⟨i,hi,hni⟩:=htail
   obtain ⟨h1,o,ho,he⟩:=mem_ready.1 hi
   have his:i < ops.size:=(Array.getElem?_eq_some_iff.1 ho).1
   have hall:∀ k,k < i→listed.getD k false=true:=fun k hk=>a0K hok hcl i o ho (fun e hek hb=>he e hek hb) k (by omega) (hok.tail i hni his k hk)
   have hin:i=nh:=by
    rcases Nat.lt_or_ge nh i with h | h
    ·have:=hall nh h
     rw [htl nh (Nat.le_refl _) (by omega)] at this
     cases this
    ·omega
   subst hin
   refine toTail (fuel+1) listed a w M hsz ?_ hall htl hx hr hf
   have hperm:u.length=(List.range' i (ops.size - i)).length:=by
    apply List.Perm.length_eq
    apply (List.perm_ext_iff_of_nodup hnd (List.nodup_range')).2
    intro k
    rw [List.mem_range'_1]
    constructor
    ·intro hk
     obtain ⟨h2,h3⟩:=hun' k hk
     refine ⟨?_,by omega⟩
     rcases Nat.lt_or_ge k i with h4 | h4
     ·rw [hall k h4] at h3; cases h3
     ·exact h4
    ·intro ⟨h2,h3⟩
     exact hun k (by omega) (htl k h2 (by omega))
   rw [hu] at hperm
   simp at hperm ⊢
   omega
  ·refine ⟨fun h0=>(by rw [h0] at hj0; cases hj0),fun i hi=>?_⟩
   have hin:i < nh:=by
    rcases Nat.lt_or_ge i nh with h | h
    ·exact h
    ·exact absurd ⟨i,hi,h⟩ htail
   obtain ⟨h1,o,ho,he⟩:=mem_ready.1 hi
   have his:i < ops.size:=(Array.getElem?_eq_some_iff.1 ho).1
   have hiL:listed.getD i false=false:=(w6 (by omega)).1 h1
   obtain ⟨c,g,hc⟩:=hget i o hin ho
   have hop:=hval i o c g hc
   have hag:∀ t,t∈o.looksAt ops→(l7 (fun k=>decide (k < i)) 0 hs E).agree t (l7 (fun k=>listed.getD k false) 0 hs E):=fun t ht=>x9 hs 0 E E ⟨rfl,rfl,rfl⟩ fun k x hk hkd=>by
    rw [Nat.zero_add]
    obtain ⟨hkn,hko⟩:=hback k x hk
    have hks:k < ops.size:=(Array.getElem?_eq_some_iff.1 hko).1
    by_cases hki:k=i
    ·subst hki; rw [hiL]; simp
    ·rcases hok.tmps i o hin ho t ht k hks hki (by rw [hko]; exact hkd) with ⟨h2,h3⟩ | ⟨h2,h3⟩
     ·have:=a0K hok hcl i o ho (fun e hek hb=>he e hek hb) k hks h3
      rw [this]; simp [h2]
     ·have:listed.getD k false=false:=by
       cases h:listed.getD k false with
       | false=>rfl
       | true =>
        have:=a0K hok hcl k x.1 hko (hcl k x.1 hko h) i his h3
        rw [hiL] at this
        cases this
      rw [this]
      have:¬ k < i:=by omega
      simp [this]
   have next:∀ (v:Value) (w':World) (M':l3),Ext M w M' w'→Rel C M' σ w'→(g→RV M' w' c v)→(¬ g→v=undef)→wpAny C.P .any ops (E6 C n Q M0 w0) fuel (listed.setIfInBounds i true) (a.put o.dst v) w':=by
    intro v w' M' hx' hr' hv hun0
    have hiu:i∈u:=hun i his hiL
    have hgd:∀ k,(listed.setIfInBounds i true).getD k false=if k=i then true else listed.getD k false:=fun k=>by
     by_cases hki:k=i
     ·subst hki
      have:k < listed.size:=by omega
      simp [this]
     ·rw [if_neg hki]
      simp [Array.getElem?_setIfInBounds_ne (Ne.symm hki)]
    refine ih (listed.setIfInBounds i true) (u.erase i) _ w' M' (by simp [hsz]) (by rw [List.length_erase_of_mem hiu,hu]; rfl) (fun k hk hkl=>?_) (fun k hk=>?_) (hnd.erase i) (fun k ok hk hkl e hek hb=>?_) (fun k hk hks=>?_) (hx.trans hx') hr' ?_
    ·rw [hgd] at hkl
     split at hkl
     ·cases hkl
     ·rename_i hne
      exact (List.mem_erase_of_ne hne).2 (hun k hk hkl)
    ·have hne:k≠i:=fun e=>by subst e; exact (hnd.not_mem_erase) hk
     rw [hgd,if_neg hne]
     exact hun' k (List.mem_of_mem_erase hk)
    ·rw [hgd] at hkl ⊢
     split
     ·rfl
     ·split at hkl
      ·rename_i hki
       subst hki
       rw [ho] at hk
       injection hk with hk
       subst hk
       exact he e hek hb
      ·exact hcl k ok hk hkl e hek hb
    ·rw [hgd,if_neg (by omega)]
     exact htl k hk hks
    ·have hput:=(hf.mono hx').put (d:=o.dst) (c:=c) (v:=v) (g:=g) (fun t ht=>hd o (Array.mem_of_getElem? ho) t ht) hv hun0
     have hag':∀ t,(l7 (fun k=>(listed.setIfInBounds i true).getD k false) 0 hs E).agree t ((l7 (fun k=>listed.getD k false) 0 hs E).put o.dst c g):=by
      intro t
      by_cases hdt:o.dst=some t
      ·have hat:=a8A (L:=fun k=>(listed.setIfInBounds i true).getD k false) hs 0 i E o c g hc hdt (by simp only [Nat.zero_add,hgd,if_true]) (fun k x hk hne=>by
        obtain ⟨hkn,hko⟩:=hback k x hk
        have:=hok.uniq i o t hin ho hdt k hkn hne
        rw [hko] at this
        exact this)
       unfold Env.agree
       rw [hat.1,hat.2.1,hat.2.2,hdt,Env.put_f,Env.put_ok,Env.put_un]
       simp
      ·refine (C4 hdt ?_).symm
       refine x9 hs 0 E E ⟨rfl,rfl,rfl⟩ fun k x hk hkd=>?_
       rw [Nat.zero_add,hgd]
       split
       ·rename_i hki
        subst hki
        rw [hc] at hk
        injection hk with hk
        subst hk
        exact absurd hkd hdt
       ·rfl
     refine ⟨hput.defers,hput.size,fun t ht=>?_,fun t ht=>hput.un t (by rw [← (hag' t).2.2]; exact ht)⟩
     rw [(hag' t).1]
     exact hput.rv t (by rw [← (hag' t).2.1]; exact ht)
   unfold wpOp
   simp only [ho]
   have hopr:∀ x∈o.op.operands,(l7 (fun k=>decide (k < i)) 0 hs E).valid x→RV M w ((l7 (fun k=>decide (k < i)) 0 hs E).val C x) (a.eval x):=fun x hx hv=>by
    cases x with
    | tmp t =>
     have h2:=hag t (M8 hx)
     simp only [Env.val,Env.valid] at hv ⊢
     rw [h2.1]
     exact hf.rv t (by rw [← h2.2.1]; exact hv)
    | const v=>exact hf.eval (x:=.const v) hr hv
    | global v=>exact hf.eval (x:=.global v) hr hv
    | func v=>exact hf.eval (x:=.func v) hr hv
   rcases hop with ⟨hg,hgp,hy⟩ | ⟨j,t,want,b,hg,ht,hok',hb,hgb,hy⟩
   ·rw [if_pos (by simp [Region.wanted,hg])]
    refine .inl (D7 (hy M w a.eval hr hopr) (fun v w' ha=>?_) (fun ch w' ha=>?_))
    ·obtain ⟨c',σ',M',h1,h2,h3,h4,rfl⟩:=ha
     injection h4 with h4
     subst h4
     exact next v w' M' h1 h2 (fun _=>h3) fun hh=>absurd hgp hh
    ·obtain ⟨c',v,σ',M',_,_,_,_,h4,_⟩:=ha
     cases h4
   ·have h2:=hag t (F6 hg ht)
    by_cases hokt:(l7 (fun k=>decide (k < i)) 0 hs E).ok t
    ·have h3:RV M w ((l7 (fun k=>listed.getD k false) 0 hs E).f t) (a.tmps.getD t undef):=hf.rv t (by rw [← h2.2.1]; exact hokt)
     rw [← h2.1,hb] at h3
     have h4:=n8 h3
     have hszt:t < a.tmps.size:=by
      rcases Nat.lt_or_ge t a.tmps.size with h' | h'
      ·exact h'
      ·simp [Array.getElem?_eq_none h',undef] at h4
     have h5:a.tmps[t]? = some (.bool b):=by
      rw [Array.getD_eq_getD_getElem?,Array.getElem?_eq_getElem hszt] at h4
      rw [Array.getElem?_eq_getElem hszt,← h4]; rfl
     have h6:yielded ops a.tmps j=some b:=by unfold yielded; rw [ht,Option.bind_some,h5]
     have hw:Region.wanted o (yielded ops a.tmps)=(b == want):=by
      simp only [Region.wanted,hg,h6]
      cases b <;> cases want <;> rfl
     by_cases hbw:b=want
     ·rw [if_pos (by rw [hw]; simpa using hbw)]
      refine .inl (D7 (hy hokt hbw M w a.eval hr hopr) (fun v w' ha=>?_) (fun ch w' ha=>?_))
      ·obtain ⟨c',σ',M',h1,h2,h3,h4,rfl⟩:=ha
       injection h4 with h4
       subst h4
       exact next v w' M' h1 h2 (fun _=>h3) fun hh=>absurd (hgb.2 ⟨hokt,hbw⟩) hh
      ·obtain ⟨c',v,σ',M',_,_,_,_,h4,_⟩:=ha
       cases h4
     ·rw [if_neg (by rw [hw]; simpa using hbw)]
      exact next undef w M (Ext.refl M w) hr (fun hgg=>absurd (hgb.1 hgg).2 hbw) fun _=>rfl
    ·have h3:=hf.un t (by rw [← h2.2.2]; exact hok' hokt)
     have h6:yielded ops a.tmps j=none:=by
      unfold yielded
      rw [ht,Option.bind_some]
      rcases Nat.lt_or_ge t a.tmps.size with h' | h'
      ·rw [Array.getD_eq_getD_getElem?,Array.getElem?_eq_getElem h'] at h3
       rw [Array.getElem?_eq_getElem h']
       simp only [Option.getD_some] at h3
       rw [h3]
       rfl
      ·rw [Array.getElem?_eq_none h']
     have hw:Region.wanted o (yielded ops a.tmps)=false:=by
      simp only [Region.wanted,hg,h6]
      cases want <;> rfl
     rw [if_neg (by rw [hw]; simp)]
     exact next undef w M (Ext.refl M w) hr (fun hgg=>absurd (hgb.1 hgg).1 hokt) fun _=>rfl
theorem Rel.drew {M:l3} {w:World} (hr:Rel C M σ w):Rel C M σ { w with drawn:=w.drawn+1}∧Ext M w M { w with drawn:=w.drawn+1}:=by
 have hx:Ext M w M { w with drawn:=w.drawn+1}:=⟨⟨[],by simp⟩,fun _ h=>h,fun _ _ h=>.inr h,fun _ _=>rfl,fun _ _ _=>rfl,Nat.le_refl _,G5,rfl,rfl,rfl,fun _ h=>⟨h,rfl,id,fun _=>id⟩⟩
 refine ⟨⟨hr.len,hr.blk,fun k p ob hk hs=>⟨(hr.obj k p ob hk hs).1.mono hx rfl (fun _ _ _ _ h=>h),(hr.obj k p ob hk hs).2⟩,hr.inj,fun g cells hg=>(hr.glob g cells hg).mono hx,hr.kep,hr.nk⟩,hx⟩
theorem r5 {id:Nat} {Q:s8→Env→List c5→Prop} {E:Env} (nh:Nat) (ms:List Nat) (hm:C.P.follows .mixedOrders=true) (hB:b5W ops nh ms=true) (hd:(ops.toList.all fun o=>match o.dst with | some d=>Nat.blt d n | none=>true)=true)
 (h:a0S C σ ops (fun E'=>O2 C n ops Q (ops.toList.drop nh) E' σ) (ops.toList.take nh) E):CWp C n (.region id ops true) Q E σ:=fun M w a hr hf=>by
 have hok:=b8W hB
 obtain ⟨hs,h1,h2,h3⟩:=a4D _ _ h
 obtain ⟨hr',hx⟩:=hr.drew
 refine wp_region_any hm (b5i hok h1 (fun o ho d hod=>?_) h3 h2 M w ops.size (Array.replicate ops.size false) (List.range ops.size) a _ M (by simp) (by simp) (fun i hi _=>by simpa using hi) (fun i hi=>?_) List.nodup_range (fun k o hk hkl=>?_) (fun i _ hi=>?_) hx hr' ?_)
 ·rw [List.all_eq_true] at hd
  have:=hd o (by simpa using ho)
  rw [hod] at this
  simpa [Nat.blt_eq] using this
 ·have:i < ops.size:=by simpa using hi
  exact ⟨this,by simp [this]⟩
 ·have hks:k < ops.size:=(Array.getElem?_eq_some_iff.1 hk).1
  simp [hks] at hkl
 ·simp [hi]
 ·have hff:(fun k=>(Array.replicate ops.size false).getD k false)=fun _=>false:=by
   funext k
   simp only [Array.getD_eq_getD_getElem?,Array.getElem?_replicate]
   split <;> rfl
  rw [hff]
  have hall:∀ (l:List (Oper × CV × Prop)) (k:Nat) (E:Env),l7 (fun _=>false) k l E=E:=by
   intro l
   induction l with
   | nil=>intros; rfl
   | cons x l ih=>intro k E; obtain ⟨a,b,c⟩:=x; simp only [l7]; exact ih _ _
  rw [hall]
  exact hf.mono hx
end
end Go.Cl
namespace Go.Cl
def Env.valids (E:Env):List Operand→Prop
 | []=>True
 | x::l=>E.valid x∧E.valids l
def Env.vals (C:Ctx) (E:Env):List Operand→List CV
 | []=>[]
 | x::l=>E.val C x::E.vals C l
theorem Env.valids_mem {E:Env}:∀ {l:List Operand},E.valids l→∀ x∈l,E.valid x
 | [],_,x,h=>by simp at h
 | y::l,⟨h1,h2⟩,x,h=>by
  rcases List.mem_cons.1 h with rfl | h
  ·exact h1
  ·exact Env.valids_mem h2 x h
theorem Env.vals_map {C:Ctx} {E:Env}:∀ (l:List Operand),l.map (E.val C)=E.vals C l
 | []=>rfl
 | x::l=>by simp [Env.vals,Env.vals_map l]
section
variable {C:Ctx} {σ:List c5} {E:Env} {o:Oper}
theorem b8R {f:FuncId} {xs:Array Operand} {ts:Array TypeId} {cargs:List CV} {c:CV} (ho:o.op = .call { callee:=.value (.func f),args:=xs,argTypes:=ts}) (hcall:∀ args w,(callFunc f args).run C.P w = .ok (.enter f args) w)
 (hv:E.valids xs.toList) (ea:E.vals C xs.toList=cargs) (h:b8 C f cargs σ fun r σ'=>r = .ret c∧σ'=σ):m6 C σ E o c :=
 a68 ho hcall (Env.valids_mem hv) ((Env.vals_map _).trans ea) h
def b71 (C:Ctx) (E:Env) (σ:List c5):ResultVar→CV→Prop
 | .tmp t,c=>E.ok t∧E.f t=c
 | .cell a t,c=>E.ok a∧∃ k off cells,E.f a = .ptr k off∧σ[k]? = some (.box cells) ∧
  (((∀ w,(isAgg t).run C.P w = .ok false w)∧cells[off]? = some c)∨(∃ s,(∀ w,(isAgg t).run C.P w = .ok true w)∧(∀ w,(sizeOf t).run C.P w = .ok s w)∧off+s≤cells.length∧c = .agg ((cells.drop off).take s)))
def b0P (C:Ctx) (E:Env) (σ:List c5):List ResultVar→List CV→Prop
 | [],[]=>True
 | r::rs,c::cs=>b71 C E σ r c∧b0P C E σ rs cs
 | _,_=>False
theorem a7L {M:l3} {w:World} (hr:Rel C M σ w) {t:TypeId} {k off:Nat} {cells:List CV} {c:CV} {u:Value} (hu:RV M w (.ptr k off) u) (hk:σ[k]? = some (.box cells))
 (h:((∀ w,(isAgg t).run C.P w = .ok false w)∧cells[off]? = some c)∨(∃ s,(∀ w,(isAgg t).run C.P w = .ok true w)∧(∀ w,(sizeOf t).run C.P w = .ok s w)∧off+s≤cells.length∧c = .agg ((cells.drop off).take s))) :
 ∃ a v,u = .pointer (some a)∧(loadVar t a).run C.P w = .ok v w∧RV M w c v:=by
 cases hu with
 | ptr hp =>
  rename_i p
  rcases h with ⟨ha,hc⟩ | ⟨s,ha,hs,hl,rfl⟩
  ·obtain ⟨v,hv,hrv,_⟩:=a8r hr hp hk hc
   exact ⟨_,v,rfl,by simp [loadVar,ha,hv],hrv⟩
  ·obtain ⟨arr,ty,h1,h2,h3,h4⟩:=(hr.obj k p _ hp hk).1
   have hcell:∀ j,j < s→w.cell? ⟨p.block,off+j,none⟩=some (arr.getD (off+j) undef):=fun j hj=>by
    have:off+j < arr.size:=by omega
    simp [World.cell?,h1,this]
   refine ⟨_,.agg ((List.range s).map fun j=>arr.getD (off+j) undef).toArray,rfl,by simp [loadVar,ha,hs,G8 (P:=C.P) (w:=w) _ s hcell],.agg (by simp; omega) (fun c hc=>h3 c (List.mem_of_mem_drop (List.mem_of_mem_take hc))) (fun i c hi=>?_)⟩
   have hi':i < s:=by
    have:=(List.getElem?_eq_some_iff.1 hi).1
    simp at this; omega
   rw [List.getElem?_take,if_pos hi',List.getElem?_drop] at hi
   have:=h4 (off+i) c hi
   simpa [hi'] using this
def a1e (tmps:Array Value):ResultVar→Sem Value:=fun
 | .tmp t=>pure (tmps.getD t undef)
 | .cell a t=>do loadVar t (← asAddr (tmps.getD a undef))
theorem a7m {M:l3} {w:World} (hr:Rel C M σ w) {tmps:Array Value} (h:∀ t,E.ok t→RV M w (E.f t) (tmps.getD t undef)):∀ (rs:List ResultVar) (cs:List CV),b0P C E σ rs cs →
 ∃ vs:List Value,(rs.mapM (a1e tmps)).run C.P w = .ok vs w∧vs.length=cs.length∧∀ (i:Nat) (c:CV),cs[i]? = some c→RV M w c (vs.getD i undef)
 | [],[],_=>⟨[],by simp,rfl,by simp⟩
 | r::rs,c::cs,⟨h1,h2⟩=>by
  obtain ⟨vs,hv,hl,hrv⟩:=a7m hr h rs cs h2
  have:∃ v,(a1e tmps r).run C.P w = .ok v w∧RV M w c v:=by
   cases r with
   | tmp t =>
    obtain ⟨ho,hc⟩:=h1
    exact ⟨_,by simp [a1e],hc ▸ h t ho⟩
   | cell a t =>
    obtain ⟨ho,k,off,cells,he,hk,hc⟩:=h1
    have hu:=h a ho
    rw [he] at hu
    obtain ⟨ad,v,e1,e2,e3⟩:=a7L hr hu hk hc
    exact ⟨v,by simp only [a1e,e1,asAddr,Sem.run_bind,Sem.run_pure,Result.andThen_ok,e2],e3⟩
  obtain ⟨v,hv1,hv2⟩:=this
  refine ⟨v::vs,by simp [List.mapM_cons,hv1,hv],by simp [hl],fun i c' hi=>?_⟩
  rcases i with _ | i
  ·simp at hi; subst hi; exact hv2
  ·exact hrv i c' (by simpa using hi)
 | [],_::_,h=>h.elim
 | _::_,[],h=>h.elim
theorem o4 {fn:Func} {rs:List ResultVar} {cs:List CV} (hrs:fn.results=rs.toArray) (h:b0P C E σ rs cs) (hn:cs.length≠1):V4 C E σ fn (.tup cs):=fun M w a hr hh=>by
 obtain ⟨vs,h1,h2,h3⟩:=a7m (C:=C) hr hh rs cs h
 refine ⟨.tuple vs.toArray,?_,.tup (by simp [h2]) (fun i c hi=>by simpa using h3 i c hi)⟩
 have:(results fn a.tmps).run C.P w=((rs.toArray.mapM (a1e a.tmps)).run C.P w).andThen fun vs w=>.ok (if h:vs.size=1 then vs[0] else .tuple vs) w:=by
  unfold results
  rw [hrs,Sem.run_bind]
  rfl
 rw [this,List.mapM_toArray,Sem.run_map,h1]
 simp only [Result.andThen_ok]
 rw [dif_neg (by simp; omega)]
theorem B8 {fn:Func} {r:ResultVar} {c:CV} (hrs:fn.results = #[r]) (h:b71 C E σ r c):V4 C E σ fn c:=fun M w a hr hh=>by
 obtain ⟨vs,h1,h2,h3⟩:=a7m (C:=C) hr hh [r] [c] ⟨h,tt⟩
 obtain ⟨v,rfl⟩:∃ v,vs=[v]:=by
  match vs,h2 with
  | [v],_=>exact ⟨v,rfl⟩
 refine ⟨v,?_,by simpa using h3 0 c rfl⟩
 have:(results fn a.tmps).run C.P w=((#[r].mapM (a1e a.tmps)).run C.P w).andThen fun vs w=>.ok (if h:vs.size=1 then vs[0] else .tuple vs) w:=by
  unfold results
  rw [hrs,Sem.run_bind]
  rfl
 have e:(#[r].mapM (a1e a.tmps))=([r].toArray.mapM (a1e a.tmps)):=rfl
 rw [this,e,List.mapM_toArray,Sem.run_map,h1]
 simp
def l3.settle (M:l3) (b:Nat):l3:={ M with full:=fun x=>M.full x∨x=b}
theorem Rel.allocFull {M:l3} {w:World} (hr:Rel C M σ w) (ob:Obj):Ext M w (M.settle w.heap.size) (w.alloc ob)∧Rel C (M.settle w.heap.size) σ (w.alloc ob):=by
 have hx:Ext M w (M.settle w.heap.size) (w.alloc ob):=⟨⟨[],by simp [l3.settle]⟩,fun _ h=>.inl h,fun _ _ h=>.inr h,fun b h=>w8 w ob (hr.blk b 0 (.inl h)),fun b o' h=>B5 (w8 w ob (hr.blk b o' (.inr h))),by rw [World.size_alloc]; omega,G5,rfl,rfl,rfl,fun b h=>⟨h,w8 w ob (hr.kep b h),fun f=>(by
  rcases f with f | f
  ·exact f
  ·have:=hr.kep b h; omega),fun _ f=>f⟩⟩
 refine ⟨hx,hr.len,fun b o' ha=>?_,fun k p x hk hs=>?_,hr.inj,fun g cells hg=>(hr.glob g cells hg).mono hx,fun b h=>(by rw [World.size_alloc]; have:=hr.kep b h; omega),hr.nk⟩
 ·rw [World.size_alloc]
  rcases ha with (ha | ha) | ha
  ·have:=hr.blk b o' (.inl ha); omega
  ·omega
  ·have:=hr.blk b o' (.inr ha); omega
 ·obtain ⟨h1,h2⟩:=hr.obj k p x hk hs
  by_cases hl:x.live=true
  ·have hlt:=h1.lt hl
   refine ⟨h1.mono hx (w8 w ob hlt) (fun _ _ _ _ h=>h),?_⟩
   have hf:¬ M.full p.block→¬ (M.settle w.heap.size).full p.block:=fun h h'=>by
    rcases h' with h' | h'
    ·exact h h'
    ·omega
   cases x <;> first | trivial|exact hf h2|exact ⟨hf h2.1,h2.2⟩
  ·cases x <;> first|exact ⟨tt,tt⟩ | simp [c5.live] at hl
def a26 (place:Nat→Option (Nat × Nat)) (cells:List CV):List (Nat × CV)→Option (List CV)
 | []=>some cells
 | (i,c)::rest =>
  match place i with
  | none=>none
  | some (off,size)=>if c.cells.length=size∧off+size≤cells.length then a26 place (F5 cells off c.cells) rest else none
theorem a6M {M:l3} {w:World} {place:Nat→Option (Nat × Nat)}:∀ (ps:List (Nat × CV)) (qs:List (Nat × Value)) (cells:List CV) (arr:Array Value) (out:List CV),
 a26 place cells ps=some out→ps.map (·.1)=qs.map (·.1)→(∀ (i:Nat) (x:Nat × CV) (y:Nat × Value),ps[i]? = some x→qs[i]? = some y→RV M w x.2 y.2∧(x.2.one=true∨∃ cs,x.2 = .agg cs)) →
 arr.size=cells.length→(∀ c∈cells,c.one=true)→(∀ (i:Nat) (c:CV),cells[i]? = some c→RV M w c (arr.getD i undef)) →
 ∃ r,Instr.fill place arr qs=some r∧RV M w (.agg out) (.agg r)
 | [],[],cells,arr,out,h,_,_,h2,h3,h4=>by
  simp only [a26,Option.some.injEq] at h
  subst h
  exact ⟨arr,rfl,.agg h2 h3 h4⟩
 | [],q::qs,_,_,_,_,h,_,_,_,_=>by simp at h
 | p::ps,[],_,_,_,_,h,_,_,_,_=>by simp at h
 | (i,c)::ps,(i',v)::qs,cells,arr,out,h,hm,hrv,h2,h3,h4=>by
  simp only [List.map_cons,List.cons.injEq] at hm
  obtain ⟨rfl,hm⟩:=hm
  simp only [a26] at h
  cases hp:place i with
  | none=>rw [hp] at h; cases h
  | some x =>
   obtain ⟨off,size⟩:=x
   rw [hp] at h
   simp only at h
   split at h
   ·rename_i hc
    obtain ⟨hc1,hc2⟩:=hc
    obtain ⟨hv,hone⟩:=hrv 0 (i,c) (i,v) rfl rfl
    obtain ⟨g1,g2,g3⟩:=hv.cells hone
    have g1:v.cells.size=c.cells.length:=g1
    have hsz:off+c.cells.length≤cells.length:=by omega
    have hfold:(v.cells.zipIdx.foldl (fun cs (x:Value × Nat)=>cs.setIfInBounds (off+x.2) x.1) arr)=v8 arr off v.cells.toList:=by
     rw [← Array.foldl_toList,Array.toList_zipIdx,a05]; rfl
    have ih:=a6M ps qs (F5 cells off c.cells) (v8 arr off v.cells.toList) out h hm (fun j x y hx hy=>hrv (j+1) x y (by simpa using hx) (by simpa using hy)) (by rw [A3,O1 hsz,h2])
     (fun c' hc'=>by
      rcases X6 hc' with h' | h'
      ·exact g2 _ h'
      ·exact h3 _ h')
     (fun j c' hj=>by
      rw [C9 _ _ _ _ (by simp; omega)]
      rw [X9 hsz] at hj
      simp only [Array.length_toList,g1]
      split at hj
      ·rename_i hin
       rw [if_pos hin]
       have:=g3 _ _ hj
       simpa using this
      ·rename_i hin
       rw [if_neg hin]
       exact h4 _ _ hj)
    obtain ⟨r,hr1,hr2⟩:=ih
    refine ⟨r,?_,hr2⟩
    simp only [Instr.fill,hp]
    rw [if_neg (by simp; omega)]
    exact (congrArg (fun z=>Instr.fill place z qs) hfold).trans hr1
   ·cases h
theorem a5d {α:Type} {s:Nat}:∀ (rows:List (List α)),(∀ r∈rows,r.length=s)→∀ (i j:Nat) (r:List α) (c:α),rows[i]? = some r→r[j]? = some c→rows.flatten[i*s+j]? = some c
 | [],_,i,j,r,c,h,_=>by simp at h
 | r0::rows,hs,i,j,r,c,hi,hj=>by
  have h0:=hs r0 (by simp)
  rw [List.flatten_cons,List.getElem?_append]
  rcases i with _ | i
  ·simp at hi; subst hi
   have:=(List.getElem?_eq_some_iff.1 hj).1
   rw [if_pos (by omega)]
   simpa using hj
  ·simp at hi
   have hr:=hs r (by simp [List.mem_of_getElem? hi])
   have hlt:=(List.getElem?_eq_some_iff.1 hj).1
   rw [if_neg (by rw [h0,Nat.add_mul]; omega)]
   have:=a5d rows (fun r hr=>hs r (by simp [hr])) i j r c hi hj
   rw [h0,show (i+1)*s+j - s=i*s+j from by rw [Nat.add_mul]; omega]
   exact this
theorem flat_len {α:Type} {s:Nat}:∀ (rows:List (List α)),(∀ r∈rows,r.length=s)→rows.flatten.length=rows.length*s
 | [],_=>by simp
 | r0::rows,hs=>by
  have h0:=hs r0 (by simp)
  rw [List.flatten_cons,List.length_append,flat_len rows (fun r hr=>hs r (by simp [hr])),h0,List.length_cons,Nat.add_mul]
  omega
theorem a7y {t e:TypeId} {len s:Nat} {parts:Array (Nat × Operand)} {z:Value} {ps:List (Nat × CV)} {rows:List (List CV)} (ho:o.op = .buildSlice t len parts) (hv:E.valids (parts.toList.map (·.2)))
 (hu:∀ w,(underlying t).run C.P w = .ok (.slice e) w) (hs:∀ w,(sizeOf e).run C.P w = .ok s w) (hz:∀ w,(zeroValue e).run C.P w = .ok z w) (hz1:E3 z=true) (hz2:(C3 z).one=true∨∃ cs,C3 z = .agg cs) (hzl:(C3 z).cells.length=s) (hs0:0 < s)
 (hlen:len*s≤2^24) (ep:parts.toList.map (fun x=>(x.1,E.val C x.2))=ps) (hone:∀ x∈ps,x.2.one=true∨∃ cs,x.2 = .agg cs)
 (hout:a26 (fun i=>some (i*s,s)) ((List.range (len*s)).map fun i=>(C3 z).cells.getD (i%s) default) ps=some rows.flatten) (hrl:rows.length=len) (hrs:∀ r∈rows,r.length=s):m6 C σ E o (.list rows true none):=fun M w ρ hr h=>by
 have hz0:RV M w (C3 z) z:=O8 hz1
 obtain ⟨g1,g2,g3⟩:=hz0.cells hz2
 have hmem:∀ x∈parts.toList,x.2∈o.op.operands:=fun x hx=>by
  rw [ho]
  simp only [Op.operands,List.mem_toArray,List.mem_map]
  exact ⟨x,hx,rfl⟩
 have hval:=Env.valids_mem hv
 obtain ⟨r,hr1,hr2⟩:=a6M (M:=M) (w:=w) ps (parts.toList.map fun x=>(x.1,ρ x.2)) ((List.range (len*s)).map fun i=>(C3 z).cells.getD (i%s) default) ((Array.range (len*s)).map (z.cells[·%z.cells.size]!)) rows.flatten hout (by simp [← ep]) (fun i x y hx hy=>by
  refine ⟨?_,hone x (List.mem_of_getElem? hx)⟩
  subst ep
  simp only [List.getElem?_map,Option.map_eq_some_iff] at hx hy
  obtain ⟨a,ha,rfl⟩:=hx
  obtain ⟨a',ha',rfl⟩:=hy
  have:a=a':=by rw [ha] at ha'; injection ha'
  subst this
  have hm:=List.mem_of_getElem? ha
  exact h _ (hmem _ hm) (hval _ (List.mem_map.2 ⟨_,hm,rfl⟩))) (by simp) (fun c hc=>by
   obtain ⟨i,_,rfl⟩:=List.mem_map.1 hc
   have hlt:i%s < (C3 z).cells.length:=by rw [hzl]; exact Nat.mod_lt _ hs0
   rw [List.getD_eq_getElem?_getD,List.getElem?_eq_getElem hlt]
   exact g2 _ (List.getElem_mem hlt)) (fun i c hi=>by
   rw [List.getElem?_map,Option.map_eq_some_iff] at hi
   obtain ⟨i',hi',rfl⟩:=hi
   have hlt':=(List.getElem?_eq_some_iff.1 hi').1
   simp at hlt'
   rw [List.getElem?_range hlt'] at hi'
   injection hi' with hi'
   subst hi'
   have hlt:i%s < (C3 z).cells.length:=by rw [hzl]; exact Nat.mod_lt _ hs0
   have hlt2:i%s < z.cells.size:=by rw [g1]; exact hlt
   have:=g3 (i%s) _ (List.getElem?_eq_getElem hlt)
   have e1:(C3 z).cells.getD (i%s) default=(C3 z).cells[i%s]:=by
    rw [List.getD_eq_getElem?_getD,List.getElem?_eq_getElem hlt]; rfl
   rw [e1]
   have e2:((Array.range (len*s)).map (z.cells[·%z.cells.size]!)).getD i undef=z.cells.getD (i%s) undef:=by
    have hzs:z.cells.size=s:=by rw [g1,hzl]
    have hms:i%s < s:=Nat.mod_lt _ hs0
    simp [hlt',hzs,hms]
   rw [e2]
   exact this)
 cases hr2 with
 | agg q1 q2 q3 =>
  obtain ⟨hx,hrel⟩:=hr.allocFull (.cells r e)
  have hrun:(execOp ρ o).run C.P w = .ok (.value (.slice (some ⟨w.heap.size,0,none⟩) len len)) (w.alloc (.cells r e)):=by
   have hl:(parts.map fun x=>(x.1,ρ x.2)).toList=parts.toList.map fun x=>(x.1,ρ x.2):=by simp
   simp only [execOp,ho,Instr.buildSlice,Sem.run_bind,hu,Result.andThen_ok,hs]
   rw [if_neg (by omega)]
   simp only [hl]
   by_cases h00:len*s=0
   ·have er:Array.range 0 = #[]:=rfl
    rw [h00,er] at hr1
    simp only [List.map_toArray,List.map_nil] at hr1
    simp [h00,er,hr1,newRow]
   ·simp [h00,hz,hr1,newRow]
  rw [hrun]
  have hcap:rows.length≤maxLen:=by
   have:len≤len*s:=Nat.le_mul_of_pos_right _ hs0
   unfold maxLen
   omega
  refine ⟨.list rows true none,σ,_,hx,hrel,?_,rfl,rfl⟩
  rw [← hrl]
  have hflen:=flat_len rows hrs
  refine .list (b:=w.heap.size) (off:=0) (s:=s) (fun i j=>r.getD (i*s+j) undef) (Nat.le_refl _) hcap rfl (fun h=>by cases h) (fun _=>rfl) hrs (fun r0 hr0 c hc=>q2 c (List.mem_flatten.2 ⟨r0,hr0,hc⟩)) (fun i j r0 c hi hj=>?_) (fun i j r0 c hi hj=>?_) (fun k hk=>by cases hk)
  ·have hf:=a5d rows hrs i j r0 c hi hj
   have hlt:=(List.getElem?_eq_some_iff.1 hf).1
   have hlt':i*s+j < r.size:=by omega
   refine ⟨.inl (.inr rfl),?_⟩
   rw [Nat.zero_add,World.cell?_alloc_new]
   simp [hlt']
  ·exact (q3 _ _ (a5d rows hrs i j r0 c hi hj)).mono hx
def V6 (C:Ctx) (E:Env) (x:Option Operand) (d:Nat) (n:Nat):Prop :=
 match x with
 | none=>d=n
 | some x=>E.valid x∧∃ k i,E.val C x = .val (.int k i)∧0≤i∧i.toNat=n
theorem a35 {t e:TypeId} {x:Operand} {lo hi:Option Operand} {rows:List (List CV)} {nn:Bool} {tok:Option Nat} {l h s:Nat} (ho:o.op = .slice t x lo hi none) (hx:E.valid x) (ex:E.val C x = .list rows nn tok)
 (hu:∀ w,(underlying t).run C.P w = .ok (.slice e) w) (hs:∀ w,(sizeOf e).run C.P w = .ok s w) (hrs:∀ r∈rows,r.length=s) (hlo:V6 C E lo 0 l) (hhi:V6 C E hi rows.length h) (h1:l≤h) (h2:h≤rows.length):m6 C σ E o (.list ((rows.take h).drop l) nn none) :=
 j7 fun M w ρ hr hh=>by
  have hx':=hh x (by simp [ho,Op.operands]) hx
  rw [ex] at hx'
  obtain ⟨a,cap,b,off,s',vals,hv,hcap,hmax,hnn,hn0,ha,hrl,hone,hc,hrv,_⟩:=hx'.list_inv
  have hlo':∀ v,lo=some v→∃ k i,ρ v = .int k i∧0≤i∧i.toNat=l:=fun v hv=>by
   subst hv
   obtain ⟨hval,k,i,he,h0,hi⟩:=hlo
   have:=hh v (by simp [ho,Op.operands]) hval
   rw [he] at this
   exact ⟨k,i,n8 this,h0,hi⟩
  have hhi':∀ v,hi=some v→∃ k i,ρ v = .int k i∧0≤i∧i.toNat=h:=fun v hv=>by
   subst hv
   obtain ⟨hval,k,i,he,h0,hi⟩:=hhi
   have:=hh v (by simp [ho,Op.operands]) hval
   rw [he] at this
   exact ⟨k,i,n8 this,h0,hi⟩
  have hb:(Instr.sliceBounds true rows.length cap (lo.map ρ) (hi.map ρ) none).run C.P w = .ok (l,h,cap) w:=by
   have hl2:(l:Int)≤h:=by omega
   have hh2:(h:Int)≤cap:=by omega
   cases lo with
   | none =>
    have:l=0:=by simpa [V6] using hlo.symm
    subst this
    cases hi with
    | none =>
     have:h=rows.length:=by simpa [V6] using hhi.symm
     subst this
     simp [Instr.sliceBounds]
    | some v =>
     obtain ⟨k,i,he,h0,hi⟩:=hhi' v rfl
     have:i≤(cap:Int):=by omega
     simp [Instr.sliceBounds,Instr.sliceBound,he,asIntOf,h0,this,hi]
   | some u =>
    obtain ⟨k',i',he',h0',hi'⟩:=hlo' u rfl
    have hle:i'≤(h:Int):=by omega
    cases hi with
    | none =>
     have:h=rows.length:=by simpa [V6] using hhi.symm
     subst this
     simp [Instr.sliceBounds,Instr.sliceBound,he',asIntOf,h0',hle,hi']
    | some v =>
     obtain ⟨k,i,he,h0,hi⟩:=hhi' v rfl
     have hc':i≤(cap:Int):=by omega
     simp [Instr.sliceBounds,Instr.sliceBound,he,he',asIntOf,h0,h0',hc',hi,hle,hi']
  have hrun:(execOp ρ o).run C.P w = .ok (.value (.slice (if cap=l then a else a.map (·.add (l*s))) (h - l) (cap - l))) w:=by
   simp [execOp,ho,Instr.sliceAt,Instr.slice,hu,hv,hb,hs]
  have hlen:((rows.take h).drop l).length=h - l:=by simp; omega
  refine ⟨_,hrun,?_⟩
  rw [← hlen]
  have hget:∀ i r,((rows.take h).drop l)[i]? = some r→rows[l+i]? = some r:=fun i r hi=>by
   rw [List.getElem?_drop,List.getElem?_take] at hi
   split at hi
   ·exact hi
   ·cases hi
  refine .list (b:=b) (off:=off+l*s) (s:=s) (fun i j=>vals (l+i) j) (by rw [hlen]; omega) (by omega) ?_ (fun h0=>by have:=hn0 h0; omega) (fun hne=>?_) (fun r hr=>hrs r (List.mem_of_mem_take (List.mem_of_mem_drop hr))) (fun r hr c hc=>hone r (List.mem_of_mem_take (List.mem_of_mem_drop hr)) c hc) (fun i j r c hi hj=>?_) (fun i j r c hi hj=>hrv _ _ _ _ (hget i r hi) hj) (fun k hk=>by cases hk)
  ·split
   ·exact hnn
   ·rw [Option.isSome_map]; exact hnn
  ·have hne':rows≠[]:=by rintro rfl; simp at hne
   have hlt:l < h:=by
    rcases Nat.lt_or_ge l h with h' | h'
    ·exact h'
    ·exact absurd (List.eq_nil_of_length_eq_zero (by rw [hlen]; omega)) hne
   rw [if_neg (by omega),ha hne']
   simp [J8]
  ·have hi':=hget i r hi
   have hss:s'=s:=by
    have hm:=List.mem_of_getElem? hi'
    rw [← hrl r hm,hrs r hm]
   subst hss
   have:=hc _ _ _ _ hi' hj
   rw [show off+l*s'+i*s'+j=off+(l+i)*s'+j from by rw [Nat.add_mul]; omega]
   exact this
end
end Go.Cl
namespace Go.Cl
def Src (C:Ctx) (M:l3) (w:World) (rows:List (List CV)) (s:Nat) (v:Value):Prop :=
 ∃ a c,v = .slice a rows.length c∧rows.length≤c∧(∀ r∈rows,r.length=s) ∧
  ∃ arr:Array Value,(Builtin.firstCells s rows.length v).run C.P w = .ok arr w∧arr.size=rows.length*s ∧
   ∀ (i j:Nat) (r:List CV) (c:CV),rows[i]? = some r→r[j]? = some c→RV M w c (arr.getD (i*s+j) undef)∧c.one=true
theorem b0m {s i j:Nat} (hj:j < s):(i*s+j) / s=i∧(i*s+j)%s=j:=by
 have hs:0 < s:=by omega
 refine ⟨?_,?_⟩
 ·rw [Nat.add_comm,Nat.add_mul_div_right _ _ hs,Nat.div_eq_of_lt hj,Nat.zero_add]
 ·rw [Nat.add_comm,Nat.add_mul_mod_self_right,Nat.mod_eq_of_lt hj]
theorem Src.one {M:l3} {w:World} {rows:List (List CV)} {s:Nat} {arr:Array Value} (hrs:∀ r∈rows,r.length=s) (hsz:arr.size=rows.length*s)
 (h:∀ (i j:Nat) (r:List CV) (c:CV),rows[i]? = some r→r[j]? = some c→RV M w c (arr.getD (i*s+j) undef)∧c.one=true):∀ u∈arr.toList,u.oneCell'=true:=by
 intro u hu
 obtain ⟨q,hq,rfl⟩:=List.mem_iff_getElem.1 hu
 have hq':q < rows.length*s:=by simpa [hsz] using hq
 have hs:0 < s:=by
  rcases Nat.eq_zero_or_pos s with h0 | h0
  ·subst h0; simp at hq'
  ·exact h0
 have hi:q / s < rows.length:=Nat.div_lt_of_lt_mul (by rwa [Nat.mul_comm] at hq')
 have hj:q%s < s:=Nat.mod_lt _ hs
 have hr:rows[q / s]? = some rows[q / s]:=by simp [hi]
 have hjl:q%s < (rows[q / s]).length:=by rw [hrs _ (List.getElem_mem hi)]; exact hj
 obtain ⟨h1,h2⟩:=h (q / s) (q%s) _ _ hr (List.getElem?_eq_getElem hjl)
 have hqq:q / s*s+q%s=q:=by rw [Nat.mul_comm]; exact Nat.div_add_mod q s
 rw [hqq] at h1
 have:=h1.one h2
 have hqs:q < arr.size:=by omega
 simpa [hqs] using this
section
variable {C:Ctx} {σ:List c5} {E:Env} {o:Oper}
theorem a2U {w:World} {b off n s:Nat} (f:Nat→Nat→Value) (h:∀ i j,i < n→j < s→w.cell? ⟨b,off+i*s+j,none⟩=some (f i j)) :
 (loadCells ⟨b,off,none⟩ (n*s)).run C.P w = .ok ((List.range (n*s)).map fun q=>f (q / s) (q%s)).toArray w :=
 G8 (fun q=>f (q / s) (q%s)) (n*s) fun q hq=>by
  have hs:0 < s:=by
   rcases Nat.eq_zero_or_pos s with h0 | h0
   ·subst h0; simp at hq
   ·exact h0
  have:=h (q / s) (q%s) (Nat.div_lt_of_lt_mul (by rwa [Nat.mul_comm] at hq)) (Nat.mod_lt _ hs)
  rwa [Nat.add_assoc,show q / s*s+q%s=q from by rw [Nat.mul_comm]; exact Nat.div_add_mod q s] at this
theorem R5 {M:l3} {w:World} {rows:List (List CV)} {nn:Bool} {tok:Option Nat} {v:Value} {s:Nat} (h:RV M w (.list rows nn tok) v) (hrs:∀ r∈rows,r.length=s):Src C M w rows s v:=by
 obtain ⟨a,cap,b,off,s',vals,rfl,hcap,hmax,hnn,hn0,ha,hrl,hone,hc,hrv,_⟩:=h.list_inv
 refine ⟨a,cap,rfl,hcap,hrs,?_⟩
 rcases rows with _ | ⟨r0,rows⟩
 ·refine ⟨#[],?_,by simp,by simp⟩
  cases a with
  | none=>simp [Builtin.firstCells]
  | some a=>simp [Builtin.firstCells,loadCells,loadCellsFrom]
 ·have hss:s'=s:=by rw [← hrl r0 (by simp),hrs r0 (by simp)]
  subst hss
  rw [ha (by simp)]
  generalize hrows:r0::rows=rs at *
  have hcell:∀ i j,i < rs.length→j < s'→w.cell? ⟨b,off+i*s'+j,none⟩=some (vals i j):=fun i j hi hj=>by
   have hr:rs[i]? = some rs[i]:=by simp [hi]
   have hl:j < rs[i].length:=by rw [hrs _ (List.getElem_mem hi)]; exact hj
   exact (hc i j _ _ hr (List.getElem?_eq_getElem hl)).2
  refine ⟨_,by simp only [Builtin.firstCells]; exact a2U vals hcell,by simp,fun i j r c hi hj=>⟨?_,hone r (List.mem_of_getElem? hi) c (List.mem_of_getElem? hj)⟩⟩
  have hil:=(List.getElem?_eq_some_iff.1 hi).1
  have hjl:j < s':=by have:=(List.getElem?_eq_some_iff.1 hj).1; rwa [hrs r (List.mem_of_getElem? hi)] at this
  have hq:i*s'+j < rs.length*s':=by
   have:(i+1)*s'≤rs.length*s':=Nat.mul_le_mul_right _ hil
   rw [Nat.add_mul] at this; omega
  obtain ⟨e1,e2⟩:=b0m (i:=i) hjl
  have:((List.range (rs.length*s')).map fun q=>vals (q / s') (q%s')).toArray.getD (i*s'+j) undef=vals i j:=by simp [hq,e1,e2]
  rw [this]
  exact hrv i j r c hi hj
theorem a2g {M:l3} {w:World} {k off len:Nat} {v:Value} {s:Nat} {rows:List (List CV)} (hr:Rel C M σ w) (h:RV M w (.vec k off len) v) (hk:σ[k]? = some (.vec s rows)) (hl:off+len≤rows.length):Src C M w ((rows.drop off).take len) s v:=by
 cases h with
 | vec hp h1 h2 h3 =>
  rename_i p a
  obtain ⟨⟨rfl,q1,q2,q3,q4,arr,ty,q5,q6,q7⟩,_⟩:=hr.obj k p _ hp hk
  have hlen:((rows.drop off).take len).length=len:=by simp; omega
  refine ⟨some a,p.cap - off,by rw [hlen],by rw [hlen]; omega,fun r hr=>q3 r (List.mem_of_mem_drop (List.mem_of_mem_take hr)),?_⟩
  rw [hlen]
  have hget:∀ i r,((rows.drop off).take len)[i]? = some r→i < len∧rows[off+i]? = some r:=fun i r hi=>by
   rw [List.getElem?_take] at hi
   split at hi
   ·rw [List.getElem?_drop] at hi; exact ⟨‹_›,hi⟩
   ·cases hi
  rcases Nat.eq_zero_or_pos len with h0 | h0
  ·subst h0
   exact ⟨#[],by simp [Builtin.firstCells,loadCells,loadCellsFrom],by simp,fun i j r c hi _=>by have:=(hget i r hi).1; omega⟩
  ·rw [h3 (by omega)]
   have hcell:∀ i j,i < len→j < p.size→w.cell? ⟨p.block,off*p.size+i*p.size+j,none⟩=some (arr.getD ((off+i)*p.size+j) undef):=fun i j hi hj=>by
    have hq:(off+i)*p.size+j < arr.size:=by
     rw [q6]
     have:(off+i+1)*p.size≤p.cap*p.size:=Nat.mul_le_mul_right _ (by omega)
     rw [Nat.add_mul (off+i)] at this; omega
    rw [show off*p.size+i*p.size+j=(off+i)*p.size+j from by rw [Nat.add_mul off]]
    simp [World.cell?,q5,hq]
   refine ⟨_,by simp only [Builtin.firstCells]; exact a2U _ hcell,by simp,fun i j r c hi hj=>?_⟩
   obtain ⟨hil,hi'⟩:=hget i r hi
   have hmem:=List.mem_of_getElem? hi'
   refine ⟨?_,q4 r hmem c (List.mem_of_getElem? hj)⟩
   have hjl:j < p.size:=by have:=(List.getElem?_eq_some_iff.1 hj).1; rwa [q3 r hmem] at this
   have hq:i*p.size+j < len*p.size:=by
    have:(i+1)*p.size≤len*p.size:=Nat.mul_le_mul_right _ hil
    rw [Nat.add_mul] at this; omega
   obtain ⟨e1,e2⟩:=b0m (i:=i) hjl
   have:((List.range (len*p.size)).map fun q=>arr.getD ((off+q / p.size)*p.size+q%p.size) undef).toArray.getD (i*p.size+j) undef=arr.getD ((off+i)*p.size+j) undef:=by simp [hq,e1,e2]
   rw [this]
   exact q7 _ _ _ _ hi' hj
def C0 (rows:List (List CV)) (p:Nat) (new:List (List CV)):List (List CV):=rows.take p++(new++rows.drop (p+new.length))
theorem a8a {rows new:List (List CV)} {p:Nat} (hp:p≤rows.length) (i:Nat) :
 (C0 rows p new)[i]? = if p≤i∧i < p+new.length then new[i - p]? else rows[i]?:=by
 unfold C0
 rw [List.getElem?_append]
 simp only [List.length_take,Nat.min_eq_left hp]
 split
 ·rename_i h1
  rw [if_neg (by omega),List.getElem?_take,if_pos h1]
 ·rename_i h1
  rw [List.getElem?_append]
  split
  ·rename_i h2
   rw [if_pos (by omega)]
  ·rename_i h2
   rw [if_neg (by omega),List.getElem?_drop]
   congr 1; omega
theorem a3r {rows new:List (List CV)} {p:Nat} {r:List CV} (h:r∈C0 rows p new):r∈new∨r∈rows:=by
 simp only [C0,List.mem_append] at h
 rcases h with h | h | h
 ·exact .inr (List.mem_of_mem_take h)
 ·exact .inl h
 ·exact .inr (List.mem_of_mem_drop h)
theorem a4x {rows new:List (List CV)} {p:Nat} (hp:p≤rows.length):(C0 rows p new).length=max rows.length (p+new.length):=by
 simp [C0]; omega
theorem a2b {M:l3} {w:World} (hr:Rel C M σ w) {k s p:Nat} {q:Pl} {rows new:List (List CV)} (hq:M.pl[k]? = some q) (hk:σ[k]? = some (.vec s rows)) (hp:p≤rows.length) (hpc:p+new.length≤q.cap) (hns:∀ r∈new,r.length=s) {arr:Array Value} (hsz:arr.size=new.length*s)
 (hrv:∀ (i j:Nat) (r:List CV) (c:CV),new[i]? = some r→r[j]? = some c→RV M w c (arr.getD (i*s+j) undef)∧c.one=true) :
 ∃ w',(storeCells ⟨q.block,p*s,none⟩ arr.toList).run C.P w = .ok () w'∧Ext M w M w'∧Rel C M (σ.set k (.vec s (C0 rows p new))) w':=by
 obtain ⟨⟨rfl,q1,q2,q3,q4,cur,ty,q5,q6,q7⟩,hf,hc⟩:=hr.obj k q _ hq hk
 have hend:p*q.size+arr.toList.length≤cur.size:=by
  rw [Array.length_toList,hsz,q6,← Nat.add_mul]
  exact Nat.mul_le_mul_right _ hpc
 have hrun:=E8 (P:=C.P) (b:=q.block) (off:=p*q.size) (t:=ty) arr.toList 0 cur w q5 (by omega) (Src.one hns hsz hrv)
 rw [Nat.add_zero] at hrun
 have hx:=Ext.putObj (w:=w) (.cells (v8 cur (p*q.size) arr.toList) ty (0,0)) (hr.nk k q _ hq hk rfl) hf hc
 have hb:q.block < w.heap.size:=(Array.getElem?_eq_some_iff.1 q5).1
 refine ⟨_,hrun,hx,hr.putObj (ob:=.vec q.size (C0 rows p new)) hq hk rfl hf hc _ ⟨rfl,by rw [a4x hp]; omega,q2,fun r hr=>?_,fun r hr c hc=>?_,_,ty,World.putObj_same w _ hb,by rw [A3,q6],fun i j r c hi hj=>?_⟩⟩
 ·rcases a3r hr with h | h
  ·exact hns r h
  ·exact q3 r h
 ·rcases a3r hr with h | h
  ·obtain ⟨i,hi⟩:=List.mem_iff_getElem?.1 h
   obtain ⟨j,hj⟩:=List.mem_iff_getElem?.1 hc
   exact (hrv i j r c hi hj).2
  ·exact q4 r h c hc
 ·rw [C9 _ _ _ _ hend]
  rw [a8a hp] at hi
  have hrl:r.length=q.size:=by
   split at hi
   ·exact hns r (List.mem_of_getElem? hi)
   ·exact q3 r (List.mem_of_getElem? hi)
  have hjl:j < q.size:=by have:=(List.getElem?_eq_some_iff.1 hj).1; omega
  simp only [Array.length_toList,hsz]
  split at hi
  ·rename_i hin
   have hi2:i - p < new.length:=by omega
   have e1:p*q.size≤i*q.size:=Nat.mul_le_mul_right _ hin.1
   have e2:(i - p)*q.size=i*q.size - p*q.size:=Nat.sub_mul _ _ _
   have e3:(i - p+1)*q.size≤new.length*q.size:=Nat.mul_le_mul_right _ hi2
   rw [Nat.add_mul] at e3
   rw [if_pos (by omega)]
   have:=(hrv (i - p) j r c hi hj).1.mono hx
   rw [show i*q.size+j - p*q.size=(i - p)*q.size+j from by omega]
   simpa using this
  ·rename_i hin
   rw [if_neg ?_]
   ·exact (q7 _ _ _ _ hi hj).mono hx
   ·rintro ⟨h1,h2⟩
    apply hin
    refine ⟨?_,?_⟩
    ·rcases Nat.lt_or_ge i p with h | h
     ·have:(i+1)*q.size≤p*q.size:=Nat.mul_le_mul_right _ h
      rw [Nat.add_mul] at this; omega
     ·exact h
    ·rcases Nat.lt_or_ge i (p+new.length) with h | h
     ·exact h
     ·have:(p+new.length)*q.size≤i*q.size:=Nat.mul_le_mul_right _ h
      rw [Nat.add_mul] at this; omega
theorem N3 {t e:TypeId} {x ix:Operand} {k off len s:Nat} {rows:List (List CV)} {i:Int} (ho:o.op = .indexAddr t x ix) (hx:E.valid x) (hi:E.valid ix) (ex:E.val C x = .vec k off len) (ei:E.val C ix = .val (.int .i64 i))
 (hu:∀ w,(underlying t).run C.P w = .ok (.slice e) w) (hs:∀ w,(sizeOf e).run C.P w = .ok s w) (hk:σ[k]? = some (.vec s rows)) (h0:0≤i) (hl:i.toNat < len):m6 C σ E o (.eptr k (off+i.toNat) 0) :=
 j7 fun M w ρ hr h=>by
  have h1:=h x (by simp [ho,Op.operands]) hx
  have h2:=h ix (by simp [ho,Op.operands]) hi
  rw [ex] at h1
  rw [ei] at h2
  generalize hv:ρ x=v at h1
  cases h1 with
  | vec hp g1 g2 g3 =>
   rename_i p a
   obtain ⟨⟨rfl,_⟩,_⟩:=hr.obj k p _ hp hk
   have hlt:i < (len:Int):=by omega
   refine ⟨.pointer (some ⟨p.block,(off+i.toNat)*p.size+0,none⟩),?_,.eptr hp⟩
   simp [execOp,ho,hv,n8 h2,Instr.indexAt,asIntOf,hu,hs,g3 (by omega),h0,hlt,J8,Nat.add_mul]
theorem a86 {M:l3} {w:World} {k s i off:Nat} {p:Pl} {rows:List (List CV)} {r:List CV} {c:CV} (hr:Rel C M σ w) (hp:M.pl[k]? = some p) (hk:σ[k]? = some (.vec s rows)) (hi:rows[i]? = some r) (hc:r[off]? = some c) :
 ∃ v,w.cell? ⟨p.block,i*p.size+off,none⟩=some v∧RV M w c v:=by
 obtain ⟨⟨rfl,q1,q2,q3,q4,arr,ty,q5,q6,q7⟩,_⟩:=hr.obj k p _ hp hk
 have hil:=(List.getElem?_eq_some_iff.1 hi).1
 have hjl:off < p.size:=by have:=(List.getElem?_eq_some_iff.1 hc).1; rwa [q3 r (List.mem_of_getElem? hi)] at this
 have hq:i*p.size+off < arr.size:=by
  rw [q6]
  have:(i+1)*p.size≤p.cap*p.size:=Nat.mul_le_mul_right _ (by omega)
  rw [Nat.add_mul] at this; omega
 exact ⟨_,by simp [World.cell?,q5,hq]; rfl,by simpa [hq] using q7 i off r c hi hc⟩
theorem P7 {t:TypeId} {x:Operand} {k i off s:Nat} {rows:List (List CV)} {r:List CV} {c:CV} (ho:o.op = .load t x) (hx:E.valid x) (ex:E.val C x = .eptr k i off) (ha:∀ w,(isAgg t).run C.P w = .ok false w) (hk:σ[k]? = some (.vec s rows)) (hi:rows[i]? = some r) (hc:r[off]? = some c):m6 C σ E o c :=
 j7 fun M w ρ hr h=>by
  have h1:=h x (by simp [ho,Op.operands]) hx
  rw [ex] at h1
  generalize hu':ρ x=u at h1
  cases h1 with
  | eptr hp =>
   obtain ⟨v,hv,hrv⟩:=a86 hr hp hk hi hc
   exact ⟨v,by simp [execOp,ho,hu',Instr.loadAt,Instr.sureAddr,loadVar,ha,hv],hrv⟩
theorem a0l {t:TypeId} {x:Operand} {k i off s n:Nat} {rows:List (List CV)} {r:List CV} (ho:o.op = .load t x) (hx:E.valid x) (ex:E.val C x = .eptr k i off) (ha:∀ w,(isAgg t).run C.P w = .ok true w) (hs:∀ w,(sizeOf t).run C.P w = .ok n w) (hk:σ[k]? = some (.vec s rows)) (hi:rows[i]? = some r) (hl:off+n≤r.length):m6 C σ E o (.agg ((r.drop off).take n)) :=
 j7 fun M w ρ hr h=>by
  have h1:=h x (by simp [ho,Op.operands]) hx
  rw [ex] at h1
  generalize hu':ρ x=u at h1
  cases h1 with
  | eptr hp =>
   rename_i p
   have hone:=(hr.obj k p _ hp hk).1.2.2.2.2.1
   have hall:∀ j,j < n→∃ v,w.cell? ⟨p.block,i*p.size+off+j,none⟩=some v∧∀ c,r[off+j]? = some c→RV M w c v:=fun j hj=>by
    obtain ⟨v,hv,hrv⟩:=a86 hr hp hk hi (List.getElem?_eq_getElem (show off+j < r.length by omega))
    exact ⟨v,by rw [Nat.add_assoc]; exact hv,fun c hc=>by rw [List.getElem?_eq_getElem (show off+j < r.length by omega)] at hc; injection hc with hc; exact hc ▸ hrv⟩
   let f:Nat→Value:=fun j=>if hj:j < n then (hall j hj).choose else undef
   have hf:∀ j,j < n→w.cell? ⟨p.block,i*p.size+off+j,none⟩=some (f j)∧∀ c,r[off+j]? = some c→RV M w c (f j):=fun j hj=>by
    simp only [f,dif_pos hj]
    exact (hall j hj).choose_spec
   refine ⟨.agg ((List.range n).map f).toArray,?_,.agg (by simp; omega) (fun c hc=>hone r (List.mem_of_getElem? hi) c (List.mem_of_mem_drop (List.mem_of_mem_take hc))) (fun j c hj=>?_)⟩
   ·simp [execOp,ho,hu',Instr.loadAt,Instr.sureAddr,loadVar,ha,hs,G8 (P:=C.P) (w:=w) f n (fun j hj=>(hf j hj).1)]
   ·have hj':j < n:=by
     have:=(List.getElem?_eq_some_iff.1 hj).1
     simp at this; omega
    rw [List.getElem?_take,if_pos hj',List.getElem?_drop] at hj
    have:=(hf j hj').2 c hj
    simpa [hj'] using this
theorem b2c {t:TypeId} {x y:Operand} {k i off s n:Nat} {c:CV} {rows:List (List CV)} {r:List CV} {K:v7→List c5→Prop} (ho:o.op = .store t x y) (hx:E.valid x) (hy:E.valid y) (ex:E.val C x = .eptr k i off) (ey:E.val C y=c) (hs:∀ w,(sizeOf t).run C.P w = .ok n w)
 (hc:c.one=true∨∃ cs,c = .agg cs) (hk:σ[k]? = some (.vec s rows)) (hi:rows[i]? = some r) (hl:c.cells.length=n) (hlt:off+n≤r.length) (h:K (.ret (.val undef)) (σ.set k (.vec s (rows.set i (F5 r off c.cells))))):C2 C σ E o K:=fun M w ρ hr hh=>by
 have h1:=hh x (by simp [ho,Op.operands]) hx
 have h2:=hh y (by simp [ho,Op.operands]) hy
 rw [ex] at h1
 rw [ey] at h2
 generalize hu:ρ x=u at h1
 cases h1 with
 | eptr hp =>
  rename_i p
  obtain ⟨⟨rfl,q1,q2,q3,q4,arr,ty,q5,q6,q7⟩,hf,hcl⟩:=hr.obj k p _ hp hk
  obtain ⟨g1,g2,g3⟩:=h2.cells hc
  have hone:=a0s h2 hc
  have hil:=(List.getElem?_eq_some_iff.1 hi).1
  have hrm:=List.mem_of_getElem? hi
  have hrl:r.length=p.size:=q3 r hrm
  have hsz:off+c.cells.length≤r.length:=by omega
  have hend:i*p.size+off+(ρ y).cells.toList.length≤arr.size:=by
   rw [Array.length_toList,g1,q6]
   have:(i+1)*p.size≤p.cap*p.size:=Nat.mul_le_mul_right _ (by omega)
   rw [Nat.add_mul] at this; omega
  have hrun:(execOp ρ o).run C.P w = .ok .skip (World.putObj w p.block (.cells (v8 arr (i*p.size+off) (ρ y).cells.toList) ty (0,0))):=by
   have:=E8 (P:=C.P) (b:=p.block) (off:=i*p.size+off) (t:=ty) (ρ y).cells.toList 0 arr w q5 (by omega) hone
   simp only [Nat.add_zero] at this
   simp [execOp,ho,hu,Instr.storeAt,Instr.sureAddr,storeVar,hs,g1,hl,this]
  rw [hrun]
  have hx:=Ext.putObj (w:=w) (.cells (v8 arr (i*p.size+off) (ρ y).cells.toList) ty (0,0)) (hr.nk k p _ hp hk rfl) hf hcl
  have hb:p.block < w.heap.size:=(Array.getElem?_eq_some_iff.1 q5).1
  have hmem:∀ r',r'∈rows.set i (F5 r off c.cells)→r'=F5 r off c.cells∨r'∈rows:=fun r' hr'=>by
   rcases List.mem_or_eq_of_mem_set hr' with h | h
   ·exact .inr h
   ·exact .inl h
  refine ⟨.val undef,_,M,hx,hr.putObj (ob:=.vec p.size (rows.set i (F5 r off c.cells))) hp hk rfl hf hcl _ ⟨rfl,by simpa using q1,q2,fun r' hr'=>?_,fun r' hr' c' hc'=>?_,_,ty,World.putObj_same w _ hb,by rw [A3,q6],fun i' j r' c' hi' hj=>?_⟩,.val _,h⟩
  ·rcases hmem r' hr' with rfl | h
   ·rw [O1 hsz,hrl]
   ·exact q3 r' h
  ·rcases hmem r' hr' with rfl | h
   ·rcases X6 hc' with h' | h'
    ·exact g2 _ h'
    ·exact q4 r hrm _ h'
   ·exact q4 r' h _ hc'
  ·rw [C9 _ _ _ _ hend]
   simp only [Array.length_toList,g1]
   rw [List.getElem?_set] at hi'
   split at hi'
   ·rename_i hii
    subst hii
    injection hi' with hi'
    subst hi'
    rw [X9 hsz] at hj
    split at hj
    ·rename_i hin
     rw [if_pos (by omega)]
     have:=(g3 _ _ hj).mono hx
     rw [show i*p.size+j - (i*p.size+off)=j - off from by omega]
     simpa using this
    ·rename_i hin
     rw [if_neg (by omega)]
     exact (q7 _ _ _ _ hi hj).mono hx
   ·rename_i hii
    have hjl:j < p.size:=by have:=(List.getElem?_eq_some_iff.1 hj).1; rwa [q3 r' (List.mem_of_getElem? hi')] at this
    rw [if_neg ?_]
    ·exact (q7 _ _ _ _ hi' hj).mono hx
    ·rintro ⟨h1,h2⟩
     rcases Nat.lt_or_ge i' i with h | h
     ·have:(i'+1)*p.size≤i*p.size:=Nat.mul_le_mul_right _ h
      rw [Nat.add_mul] at this; omega
     ·have:(i+1)*p.size≤i'*p.size:=Nat.mul_le_mul_right _ (by omega)
      rw [Nat.add_mul] at this; omega
theorem N7 {t e:TypeId} {x:Operand} {lo hi:Option Operand} {k off len s:Nat} {rows:List (List CV)} {l h:Nat} (ho:o.op = .slice t x lo hi none) (hx:E.valid x) (ex:E.val C x = .vec k off len)
 (hu:∀ w,(underlying t).run C.P w = .ok (.slice e) w) (hs:∀ w,(sizeOf e).run C.P w = .ok s w) (hk:σ[k]? = some (.vec s rows)) (hlo:V6 C E lo 0 l) (hhi:V6 C E hi len h) (h1:l≤h) (h2:off+h≤rows.length):m6 C σ E o (.vec k (off+l) (h - l)) :=
 j7 fun M w ρ hr hh=>by
  have hx':=hh x (by simp [ho,Op.operands]) hx
  rw [ex] at hx'
  generalize hv:ρ x=v at hx'
  cases hx' with
  | vec hp g1 g2 g3 =>
   rename_i p a
   obtain ⟨⟨rfl,q1,q2,_⟩,_⟩:=hr.obj k p _ hp hk
   have hlo':∀ v,lo=some v→∃ k i,ρ v = .int k i∧0≤i∧i.toNat=l:=fun v hv=>by
    subst hv
    obtain ⟨hval,k,i,he,h0,hi⟩:=hlo
    have:=hh v (by simp [ho,Op.operands]) hval
    rw [he] at this
    exact ⟨k,i,n8 this,h0,hi⟩
   have hhi':∀ v,hi=some v→∃ k i,ρ v = .int k i∧0≤i∧i.toNat=h:=fun v hv=>by
    subst hv
    obtain ⟨hval,k,i,he,h0,hi⟩:=hhi
    have:=hh v (by simp [ho,Op.operands]) hval
    rw [he] at this
    exact ⟨k,i,n8 this,h0,hi⟩
   have hcap:h≤p.cap - off:=by omega
   have hb:(Instr.sliceBounds true len (p.cap - off) (lo.map ρ) (hi.map ρ) none).run C.P w = .ok (l,h,p.cap - off) w:=by
    have hl2:(l:Int)≤h:=by omega
    have hh2:(h:Int)≤((p.cap - off:Nat):Int):=by omega
    cases lo with
    | none =>
     have:l=0:=by simpa [V6] using hlo.symm
     subst this
     cases hi with
     | none =>
      have:h=len:=by simpa [V6] using hhi.symm
      subst this
      simp [Instr.sliceBounds]
     | some v =>
      obtain ⟨k,i,he,h0,hi⟩:=hhi' v rfl
      have:i≤((p.cap - off:Nat):Int):=by omega
      simp [Instr.sliceBounds,Instr.sliceBound,he,asIntOf,h0,this,hi]
    | some u =>
     obtain ⟨k',i',he',h0',hi'⟩:=hlo' u rfl
     have hle:i'≤(h:Int):=by omega
     cases hi with
     | none =>
      have:h=len:=by simpa [V6] using hhi.symm
      subst this
      simp [Instr.sliceBounds,Instr.sliceBound,he',asIntOf,h0',hle,hi']
     | some v =>
      obtain ⟨k,i,he,h0,hi⟩:=hhi' v rfl
      have hc':i≤((p.cap - off:Nat):Int):=by omega
      simp [Instr.sliceBounds,Instr.sliceBound,he,he',asIntOf,h0,h0',hc',hi,hle,hi']
   have hrun:(execOp ρ o).run C.P w = .ok (.value (.slice (if p.cap - off=l then some a else some (a.add (l*p.size))) (h - l) (p.cap - off - l))) w:=by
    simp [execOp,ho,Instr.sliceAt,Instr.slice,hu,hv,hb,hs]
   refine ⟨_,hrun,?_⟩
   by_cases he:p.cap - off=l
   ·rw [if_pos he,show p.cap - off - l=p.cap - (off+l) from by omega]
    exact .vec hp (by omega) g2 (fun hlt=>by omega)
   ·rw [if_neg he,show p.cap - off - l=p.cap - (off+l) from by omega]
    exact .vec hp (by omega) g2 (fun hlt=>by rw [g3 (by omega),J8,Nat.add_mul])
end
end Go.Cl
namespace Go.Cl
def kill (σ:List c5) (tok:Option Nat):List c5 :=
 match tok with
 | some k=>σ.set k .dead
 | none=>σ
def b8v (σ:List c5) (rows:List (List CV)) (nn:Bool) (tok:Option Nat):Prop :=
 (rows=[]∧nn=false∧tok=none)∨(rows≠[]∧∃ k,tok=some k∧σ[k]? = some (.tip rows.length))
def b1N (t0:Option TypeId) (σ:List c5) (rows:List (List CV)) (nn:Bool) (tok:Option Nat):Prop :=
 (rows=[]∧nn=false∧tok=none)∨(rows≠[]∧∃ k,tok=some k∧σ[k]? = some (.tipT t0 rows.length))
def l3.settleCells (M:l3) (b n:Nat):l3:={ M with cell:=fun x o=>M.cell x o∨(x=b∧o < n)}
section
variable {C:Ctx} {σ:List c5} {E:Env} {o:Oper}
theorem Rel.dead {M:l3} {w:World} (hr:Rel C M σ w) (k:Nat):Rel C M (σ.set k .dead) w:=by
 have hget:∀ {k':Nat} {x:c5},(σ.set k .dead)[k']? = some x→x = .dead∨σ[k']? = some x:=by
  intro k' x h
  rw [List.getElem?_set] at h
  split at h
  ·split at h
   ·injection h with h; exact .inl h.symm
   ·cases h
  ·exact .inr h
 refine ⟨by simp [hr.len],hr.blk,fun k' p x hp hx=>?_,fun k1 k2 p1 p2 x1 x2 h1 h2 hx1 hx2 hl1 hl2 hb=>?_,hr.glob,hr.kep,fun k' p x hp hx' hlv=>?_⟩
 ·rcases hget hx with rfl | h
  ·exact ⟨tt,tt⟩
  ·exact hr.obj k' p x hp h
 ·rcases hget hx1 with rfl | h1'
  ·cases hl1
  ·rcases hget hx2 with rfl | h2'
   ·cases hl2
   ·exact hr.inj k1 k2 p1 p2 x1 x2 h1 h2 h1' h2' hl1 hl2 hb
 ·rcases hget hx' with rfl | h'
  ·cases hlv
  ·exact hr.nk k' p x hp h' hlv
theorem Rel.kill {M:l3} {w:World} (hr:Rel C M σ w) (tok:Option Nat):Rel C M (kill σ tok) w:=by
 cases tok with
 | none=>exact hr
 | some k=>exact hr.dead k
theorem a9r (σ:List c5) (tok:Option Nat):(kill σ tok).length=σ.length:=by
 cases tok <;> simp [Go.Cl.kill]
theorem Rel.settleCells {M:l3} {w:World} (hr:Rel C M σ w) {k n:Nat} {p:Pl} {t0:Option TypeId} (hp:M.pl[k]? = some p) (hk:σ[k]? = some (.tipT t0 n)):Ext M w (M.settleCells p.block (n*p.size)) w∧Rel C (M.settleCells p.block (n*p.size)) σ w:=by
 have hx:Ext M w (M.settleCells p.block (n*p.size)) w:=⟨⟨[],by simp [l3.settleCells]⟩,fun _ h=>h,fun _ _ h=>.inr (.inl h),fun _ _=>rfl,fun _ _ _=>rfl,Nat.le_refl _,G5,rfl,rfl,rfl,fun b h=>⟨h,rfl,id,fun o f=>(by
  rcases f with f | ⟨rfl,_⟩
  ·exact f
  ·exact absurd h (hr.nk k p _ hp hk rfl))⟩⟩
 have hlt:=(hr.obj k p _ hp hk).1.lt rfl
 refine ⟨hx,hr.len,fun b o' ha=>?_,fun k' p' x hp' hx'=>?_,hr.inj,fun g cells hg=>(hr.glob g cells hg).mono hx,hr.kep,hr.nk⟩
 ·rcases ha with ha | ha | ⟨rfl,_⟩
  ·exact hr.blk b o' (.inl ha)
  ·exact hr.blk b o' (.inr ha)
  ·exact hlt
 ·obtain ⟨h1,h2⟩:=hr.obj k' p' x hp' hx'
  by_cases hl:x.live=true
  ·by_cases hkk:k'=k
   ·subst hkk
    have hp':M.pl[k']? = some p':=hp'
    rw [hp] at hp'
    injection hp' with hp'
    subst hp'
    rw [hk] at hx'
    injection hx' with hx'
    subst hx'
    obtain ⟨q1,q2,q3,q4⟩:=h1
    refine ⟨⟨q1,q2,⟨fun o ho=>?_,q3.2⟩,q4⟩,h2⟩
    rcases ho with ho | ⟨_,ho⟩
    ·exact q3.1 o ho
    ·exact ho
   ·have hne:p'.block≠p.block:=fun e=>hkk (hr.inj k' k p' p x _ hp' hp hx' hk hl rfl e)
    refine ⟨h1.mono hx rfl (fun _ _ _ o ho=>?_),?_⟩
    ·rcases ho with ho | ⟨ho,_⟩
     ·exact ho
     ·exact absurd ho hne
    ·have hc:(∀ o,¬ M.cell p'.block o)→∀ o,¬ (M.settleCells p.block (n*p.size)).cell p'.block o:=fun h o ho=>by
      rcases ho with ho | ⟨ho,_⟩
      ·exact h o ho
      ·exact hne ho
     cases x <;> first | trivial|exact h2|exact ⟨h2.1,hc h2.2⟩
  ·cases x <;> first|exact ⟨tt,tt⟩ | simp [c5.live] at hl
theorem Rel.drewN {M:l3} {w:World} (hr:Rel C M σ w):Rel C M σ w.drew∧Ext M w M w.drew:=hr.drew
theorem S8 {P:Program} {t t2 e ty:TypeId} {s b off n m c:Nat} {x:Value} {arr:Array Value} {w w':World} (hu:∀ w,(underlying t).run P w = .ok (.slice e) w) (hu2:(∀ w,(underlying t2).run P w = .ok (.slice e) w)∨∀ w,(underlying t2).run P w = .ok .string w) (hs:∀ w,(sizeOf e).run P w = .ok s w)
 (hlen:∀ w,(Builtin.lenOf x).run P w = .ok m w) (hfirst:(Builtin.firstCells s m x).run P w = .ok arr w) (hneed:n+m≤c) (hst:(storeCells ⟨b,off+n*s,none⟩ arr.toList).run P w = .ok () w') :
 (Builtin.append_ #[t,t2] ty #[.slice (some ⟨b,off,none⟩) n c,x]).run P w = .ok (.slice (some ⟨b,off,none⟩) (n+m) c) w':=by
 rcases hu2 with hu2 | hu2 <;>
 simp [Builtin.append_,hu,hu2,hs,hlen,hfirst,hneed,J8,hst]
theorem K9 {P:Program} {t t2 e ty:TypeId} {s n m c:Nat} {a:Option Addr} {x:Value} {old arr:Array Value} {w:World} {ti:TypeInfo} {z:Value} (hu:∀ w,(underlying t).run P w = .ok (.slice e) w) (hu2:(∀ w,(underlying t2).run P w = .ok (.slice e) w)∨∀ w,(underlying t2).run P w = .ok .string w) (hs:∀ w,(sizeOf e).run P w = .ok s w) (hti:∀ w,(typeInfo e).run P w = .ok ti w) (hz:∀ w,(zeroValue e).run P w = .ok z w)
 (hlen:∀ w,(Builtin.lenOf x).run P w = .ok m w) (hold:(Builtin.firstCells s n (.slice a n c)).run P w.drew = .ok old w.drew) (hfirst:(Builtin.firstCells s m x).run P w.drew = .ok arr w.drew) (hneed:c < n+m) (hmax:n+m≤9223372036854775807) (hb:(n+m)*ti.bytes≤140737488355328) :
 ∃ c',n+m≤c'∧c'≤9223372036854775807∧(Builtin.append_ #[t,t2] ty #[.slice a n c,x]).run P w = .ok (.slice (some ⟨w.heap.size,0,none⟩) (n+m) c') (w.drew.alloc (.cells (old++arr++Builtin.zeroCells z.cells (c' - (n+m))) e)):=by
 have hg:=growslice_fits hneed hb
 refine ⟨(Question.appendCap (n+m) c e).cut (w.tape w.drawn (.appendCap (n+m) c e)),?_,?_,?_⟩
 ·simp [Question.cut]
 ·simp only [Question.cut]
  have:w.tape w.drawn (.appendCap (n+m) c e)%(2^63 - (n+m)) < 2^63 - (n+m):=Nat.mod_lt _ (by omega)
  omega
 ·have h1:¬ (n+m≤c):=by omega
  have h2:¬ IntKind.i64.max < (n:Int)+(m:Int):=by
   have:IntKind.i64.max=9223372036854775807:=by decide
   omega
  have h3:¬ (281474976710656 < Builtin.nextslicecap (n+m) c*ti.bytes):=by omega
  rcases hu2 with hu2 | hu2
  all_goals
   simp [Builtin.append_,hu,hu2,hs,hti,hz,hlen,h1,h3,Question.forced,hold,hfirst,newRow]
   intro h
   have:IntKind.i64.max=9223372036854775807:=by decide
   omega
theorem a1R {M:l3} {w:World} {c:CV} {v:Value} (h:RV M w c v):RV M w.drew c v:=by
 have hx:Ext M w M w.drew:=⟨⟨[],by simp⟩,fun _ h=>h,fun _ _ h=>.inr h,fun _ _=>rfl,fun _ _ _=>rfl,Nat.le_refl _,G5,rfl,rfl,rfl,fun _ h=>⟨h,rfl,id,fun _=>id⟩⟩
 exact h.mono hx
theorem Rel.tipStore {M:l3} {w:World} (hr:Rel C M σ w) {k n:Nat} {p:Pl} {t0:Option TypeId} {cur cur':Array Value} {ty:TypeId} (hp:M.pl[k]? = some p) (hk:σ[k]? = some (.tipT t0 n)) (hty:t0.getD ty=ty) (hc:w.heap[p.block]? = some (.cells cur ty (0,0))) (hsz:cur'.size=cur.size) (hsame:∀ o,o < n*p.size→cur'[o]? = cur[o]?) :
 Ext M w M (World.putObj w p.block (.cells cur' ty (0,0)))∧Rel C M σ (World.putObj w p.block (.cells cur' ty (0,0))):=by
 obtain ⟨⟨q1,q2,q3,cur0,ty0,q4,q5⟩,hfree⟩:=hr.obj k _ _ hp hk
 have hb:p.block < w.heap.size:=(Array.getElem?_eq_some_iff.1 hc).1
 have hx:Ext M w M (World.putObj w p.block (.cells cur' ty (0,0))):=by
  refine ⟨⟨[],by simp⟩,fun _ h=>h,fun _ _ h=>.inr h,fun b' h=>World.putObj_other w _ (fun e=>hfree (e ▸ h)),fun b' o' h=>?_,by rw [World.putObj_size]; exact Nat.le_refl _,G5,rfl,rfl,rfl,fun b' h=>⟨h,World.putObj_other w _ (fun e=>hr.nk k p _ hp hk rfl (e ▸ h)),id,fun _=>id⟩⟩
  by_cases he:p.block=b'
  ·subst he
   have hlt:=q3.1 o' h
   simp only [World.cell?,World.putObj_same w _ hb,hc,Option.isSome_none,Bool.false_eq_true,if_false]
   exact hsame o' hlt
  ·exact B5 (World.putObj_other w _ he)
 refine ⟨hx,hr.len,fun b o' ha=>by rw [World.putObj_size]; exact hr.blk b o' ha,fun k' p' x hp' hx'=>?_,hr.inj,fun g cells hg=>(hr.glob g cells hg).mono hx,fun b h=>(by rw [World.putObj_size]; exact hr.kep b h),hr.nk⟩
 obtain ⟨h1,h2⟩:=hr.obj k' p' x hp' hx'
 refine ⟨?_,h2⟩
 by_cases hl:x.live=true
 ·by_cases hkk:k'=k
  ·subst hkk
   rw [hp] at hp'
   injection hp' with hp'
   subst hp'
   rw [hk] at hx'
   injection hx' with hx'
   subst hx'
   rw [q4] at hc
   injection hc with hc
   injection hc with hc _ _
   exact ⟨q1,q2,q3,cur',ty,by rw [hty]; exact World.putObj_same w _ hb,by rw [hsz,← hc,q5]⟩
  ·have hne:p.block≠p'.block:=fun e=>hkk (hr.inj k' k p' p x _ hp' hp hx' hk hl rfl e.symm)
   exact h1.mono hx (World.putObj_other w _ hne) (fun _ _ _ _ h=>h)
 ·cases x <;> first | trivial | simp [c5.live] at hl
theorem Rel.tipNew {M:l3} {w:World} (hr:Rel C M σ w) {k n m:Nat} {p:Pl} {t0:Option TypeId} (hp:M.pl[k]? = some p) (hk:σ[k]? = some (.tipT t0 n)) (hn:n≤m) (hm:m≤p.cap):Ext M w (M.add p) w∧Rel C (M.add p) (σ.set k .dead++[.tipT t0 m]) w:=by
 obtain ⟨⟨q1,q2,q3,cur0,ty0,q4,q5⟩,hfree⟩:=hr.obj k _ _ hp hk
 have hx:Ext M w (M.add p) w:=⟨⟨[p],rfl⟩,fun _ h=>h,fun _ _ h=>.inr h,fun _ _=>rfl,fun _ _ _=>rfl,Nat.le_refl _,G5,rfl,rfl,rfl,fun _ h=>⟨h,rfl,id,fun _=>id⟩⟩
 have hd:=hr.dead k
 have hlen:(σ.set k c5.dead).length=σ.length:=by simp
 have hget:∀ {j:Nat} {q:Pl},(M.add p).pl[j]? = some q→(j < σ.length∧M.pl[j]? = some q)∨(j=σ.length∧q=p):=by
  intro j q hj
  simp only [l3.add,List.getElem?_append,hr.len] at hj
  split at hj
  ·exact .inl ⟨‹_›,hj⟩
  ·rename_i hlt
   have:j - σ.length=0:=by
    have:=(List.getElem?_eq_some_iff.1 hj).1
    simp at this; omega
   rw [this] at hj
   simp at hj
   exact .inr ⟨by omega,hj.symm⟩
 have hgo:∀ {j:Nat} {x:c5},(σ.set k c5.dead++[c5.tipT t0 m])[j]? = some x→(j < σ.length∧(σ.set k c5.dead)[j]? = some x)∨(j=σ.length∧x = .tipT t0 m):=by
  intro j x hj
  rw [List.getElem?_append] at hj
  split at hj
  ·exact .inl ⟨by omega,hj⟩
  ·have:j - (σ.set k c5.dead).length=0:=by
    have:=(List.getElem?_eq_some_iff.1 hj).1
    simp at this ⊢; omega
   rw [this] at hj
   simp at hj
   exact .inr ⟨by omega,hj.symm⟩
 have hks:k < σ.length:=(List.getElem?_eq_some_iff.1 hk).1
 have hother:∀ {j:Nat} {q:Pl} {x:c5},M.pl[j]? = some q→(σ.set k c5.dead)[j]? = some x→x.live=true→q.block≠p.block:=by
  intro j q x hj hxj hl e
  have hjk:j≠k:=by
   rintro rfl
   rw [List.getElem?_set_self (by omega)] at hxj
   injection hxj with hxj
   subst hxj
   cases hl
  have hxj':σ[j]? = some x:=by rwa [List.getElem?_set_ne (Ne.symm hjk)] at hxj
  exact hjk (hr.inj j k q p x _ hj hp hxj' hk hl rfl e)
 refine ⟨hx,by simp [l3.add,hr.len],fun b o' ha=>hr.blk b o' ha,fun j q x hj hxj=>?_,fun j j' q q' x x' hj hj' hxj hxj' hl hl' hb=>?_,fun g cells hg=>(hr.glob g cells hg).mono hx,hr.kep,fun j q x hj hxj hlv=>?_⟩
 ·rcases hgo hxj with ⟨hlt,h⟩ | ⟨rfl,rfl⟩
  ·rcases hget hj with ⟨_,hq⟩ | ⟨rfl,_⟩
   ·obtain ⟨h1,h2⟩:=hd.obj j q x hq h
    refine ⟨?_,h2⟩
    by_cases hl:x.live=true
    ·exact h1.mono hx rfl (fun _ _ _ _ h=>h)
    ·cases x <;> first | trivial | simp [c5.live] at hl
   ·omega
  ·rcases hget hj with ⟨h,_⟩ | ⟨_,rfl⟩
   ·omega
   ·refine ⟨⟨hm,q2,⟨fun o ho=>Nat.lt_of_lt_of_le (q3.1 o ho) (Nat.mul_le_mul_right _ hn),q3.2⟩,cur0,ty0,q4,q5⟩,hfree⟩
 ·rcases hgo hxj with ⟨hlt,h⟩ | ⟨rfl,rfl⟩
  ·rcases hget hj with ⟨_,hq⟩ | ⟨rfl,_⟩
   ·rcases hgo hxj' with ⟨hlt',h'⟩ | ⟨rfl,rfl⟩
    ·rcases hget hj' with ⟨_,hq'⟩ | ⟨rfl,_⟩
     ·exact hd.inj j j' q q' x x' hq hq' h h' hl hl' hb
     ·omega
    ·rcases hget hj' with ⟨h0,_⟩ | ⟨_,rfl⟩
     ·omega
     ·exact absurd hb (hother hq h hl)
   ·omega
  ·rcases hget hj with ⟨h0,_⟩ | ⟨_,rfl⟩
   ·omega
   ·rcases hgo hxj' with ⟨hlt',h'⟩ | ⟨rfl,rfl⟩
    ·rcases hget hj' with ⟨_,hq'⟩ | ⟨rfl,_⟩
     ·exact absurd hb.symm (hother hq' h' hl')
     ·omega
    ·rfl
 ·rcases hgo hxj with ⟨hlt,h⟩ | ⟨rfl,rfl⟩
  ·rcases hget hj with ⟨_,hq⟩ | ⟨rfl,_⟩
   ·exact hd.nk j q x hq h hlv
   ·omega
  ·rcases hget hj with ⟨h0,_⟩ | ⟨_,rfl⟩
   ·omega
   ·exact hr.nk k q _ hp hk rfl
theorem Src.lenOf {M:l3} {w:World} {rows:List (List CV)} {s:Nat} {v:Value} (h:Src C M w rows s v) (w':World):(Builtin.lenOf v).run C.P w' = .ok rows.length w':=by
 obtain ⟨a,c,rfl,_⟩:=h
 simp [Builtin.lenOf]
def b0U (C:Ctx) (w:World) (M:l3) (rows:List (List CV)) (s:Nat) (v:Value):Prop :=
 (∀ w',(Builtin.lenOf v).run C.P w' = .ok rows.length w')∧(∀ r∈rows,r.length=s) ∧
  ∃ arr:Array Value,(Builtin.firstCells s rows.length v).run C.P w = .ok arr w∧arr.size=rows.length*s ∧
   ∀ (i j:Nat) (r:List CV) (c:CV),rows[i]? = some r→r[j]? = some c→RV M w c (arr.getD (i*s+j) undef)∧c.one=true
theorem Src.any {M:l3} {w:World} {rows:List (List CV)} {s:Nat} {v:Value} (h:Src C M w rows s v):b0U C w M rows s v:=by
 have hl:=h.lenOf
 obtain ⟨_,_,_,_,h1,h2⟩:=h
 exact ⟨hl,h1,h2⟩
theorem X0 {M:l3} {w:World} {rows new:List (List CV)} {s:Nat} {old arr rest:Array Value} (h1:old.size=rows.length*s) (h2:arr.size=new.length*s) (hrs:∀ r∈rows,r.length=s) (hns:∀ r∈new,r.length=s)
 (ho:∀ (i j:Nat) (r:List CV) (c:CV),rows[i]? = some r→r[j]? = some c→RV M w c (old.getD (i*s+j) undef))
 (ha:∀ (i j:Nat) (r:List CV) (c:CV),new[i]? = some r→r[j]? = some c→RV M w c (arr.getD (i*s+j) undef)) (i j:Nat) (r:List CV) (c:CV) (hi:(rows++new)[i]? = some r) (hj:r[j]? = some c) :
 i*s+j < (old++arr++rest).size∧RV M w c ((old++arr++rest).getD (i*s+j) undef):=by
 rw [List.getElem?_append] at hi
 split at hi
 ·rename_i hlt
  have hjl:j < s:=by have:=(List.getElem?_eq_some_iff.1 hj).1; rwa [hrs r (List.mem_of_getElem? hi)] at this
  have hq:i*s+j < old.size:=by
   rw [h1]
   have:(i+1)*s≤rows.length*s:=Nat.mul_le_mul_right _ hlt
   rw [Nat.add_mul] at this; omega
  refine ⟨by simp; omega,?_⟩
  have hq2:i*s+j < (old++arr).size:=by simp; omega
  have e:(old++arr++rest).getD (i*s+j) undef=old.getD (i*s+j) undef:=by
   simp only [Array.getD_eq_getD_getElem?]
   rw [Array.getElem?_append_left hq2,Array.getElem?_append_left hq]
  rw [e]
  exact ho i j r c hi hj
 ·rename_i hge
  have hil:=(List.getElem?_eq_some_iff.1 hi).1
  have hjl:j < s:=by have:=(List.getElem?_eq_some_iff.1 hj).1; rwa [hns r (List.mem_of_getElem? hi)] at this
  have e1:(i - rows.length)*s=i*s - rows.length*s:=Nat.sub_mul _ _ _
  have e2:rows.length*s≤i*s:=Nat.mul_le_mul_right _ (by omega)
  have e3:(i - rows.length+1)*s≤new.length*s:=Nat.mul_le_mul_right _ hil
  rw [Nat.add_mul] at e3
  refine ⟨by simp; omega,?_⟩
  have hq2:i*s+j < (old++arr).size:=by simp; omega
  have e:(old++arr++rest).getD (i*s+j) undef=arr.getD ((i - rows.length)*s+j) undef:=by
   simp only [Array.getD_eq_getD_getElem?]
   rw [Array.getElem?_append_left hq2,Array.getElem?_append_right (by omega)]
   congr 2; omega
  rw [e]
  exact ha _ j r c hi hj
theorem K4 (z:Array Value) (n:Nat):(Builtin.zeroCells z n).size=n*z.size:=by simp [Builtin.zeroCells]
theorem RV.list' {M:l3} {w:World} {rows:List (List CV)} {nn:Bool} {tok:Option Nat} {a:Option Addr} {cap b off s L:Nat} (hL:L=rows.length) (vals:Nat→Nat→Value) :
 rows.length≤cap→cap≤maxLen→a.isSome=nn→(nn=false→cap=0)→(rows≠[]→a=some ⟨b,off,none⟩) →
 (∀ r∈rows,r.length=s)→(∀ r∈rows,∀ c∈r,c.one=true) →
 (∀ (i j:Nat) (r:List CV) (c:CV),rows[i]? = some r→r[j]? = some c→M.at b (off+i*s+j)∧w.cell? ⟨b,off+i*s+j,none⟩=some (vals i j)) →
 (∀ (i j:Nat) (r:List CV) (c:CV),rows[i]? = some r→r[j]? = some c→RV M w c (vals i j)) →
 (∀ k,tok=some k→∃ s',M.pl[k]? = some ⟨b,cap,s'⟩∧a=some ⟨b,0,none⟩∧off=0∧(rows≠[]→s'=s)) →
 RV M w (.list rows nn tok) (.slice a L cap):=by
 subst hL
 exact RV.list vals
theorem a4q {t0:Option TypeId} {t t2 e:TypeId} {x y:Operand} {rows new:List (List CV)} {nn:Bool} {tok:Option Nat} {s:Nat} {ti:TypeInfo} {z:Value} {K:v7→List c5→Prop} (ho:o.op = .call { callee:=.builtin .append,args:=#[x,y],argTypes:=#[t,t2]}) (hx:E.valid x) (hy:E.valid y) (ex:E.val C x = .list rows nn tok)
 (hsrc:∀ M w v,Rel C M σ w→RV M w (E.val C y) v→b0U C w M new s v) (hu:∀ w,(underlying t).run C.P w = .ok (.slice e) w) (hs:∀ w,(sizeOf e).run C.P w = .ok s w) (hti:∀ w,(typeInfo e).run C.P w = .ok ti w) (hz:∀ w,(zeroValue e).run C.P w = .ok z w) (hzs:z.cells.size=s)
 (hu2:(∀ w,(underlying t2).run C.P w = .ok (.slice e) w)∨∀ w,(underlying t2).run C.P w = .ok .string w) (ht0:t0=none∨t0=some e) (hts:t0.isSome=true→s=1) (happ:b1N t0 σ rows nn tok∨(rows=[]∧t0=some e∧∃ k,tok=some k∧σ[k]? = some (.tipT t0 0))) (hrs:∀ r∈rows,r.length=s) (hnew:new≠[]) (hb:(rows.length+new.length)*ti.bytes≤140737488355328) (hmax:rows.length+new.length≤9223372036854775807)
 (hk:K (.ret (.list (rows++new) true (some σ.length))) (kill σ tok++[.tipT t0 (rows.length+new.length)])):C2 C σ E o K:=fun M w ρ hr hh=>by
 have h1:=hh x (by simp [ho,Op.operands,Call.operands]) hx
 have h2:=hh y (by simp [ho,Op.operands,Call.operands]) hy
 rw [ex] at h1
 have hso:=R5 (C:=C) h1 hrs
 have hsn:=hsrc M w _ hr h2
 have hlen:=hsn.1
 obtain ⟨a,cap,b,off,s',vals,hv,hcap,hcmax,hnn,hn0,ha,hrl,hone,hc,hrv,htok⟩:=h1.list_inv
 have hnl:0 < new.length:=List.length_pos_iff.2 hnew
 have hexec:(execOp ρ o).run C.P w=((Builtin.append_ #[t,t2] o.type #[ρ x,ρ y]).run C.P w).andThen fun v w=>.ok (.value v) w:=by
  simp [execOp,ho,resolve,invoke,builtin]
 have hrow:∀ r∈rows++new,r.length=s:=fun r hr=>by
  rcases List.mem_append.1 hr with h | h
  ·exact hrs r h
  ·obtain ⟨_,hns,_⟩:=hsn; exact hns r h
 have hlenapp:(rows++new).length=rows.length+new.length:=List.length_append
 by_cases hfit:rows.length+new.length≤cap
 ·
  rcases happ with (⟨rfl,rfl,rfl⟩ | ⟨hrne,k,rfl,hkt⟩) | ⟨rfl,ht0',k,rfl,hkt⟩
  ·have:=hn0 rfl
   simp at hfit; omega
  ·obtain ⟨sz,hp,ha0,rfl,hsz⟩:=htok k rfl
   obtain ⟨⟨q1,q2,q3,cur,ty,q4,q5⟩,hfree⟩:=hr.obj k _ _ hp hkt
   obtain ⟨ty',hty'⟩:∃ ty',ty'=t0.getD ty:=⟨_,rfl⟩
   rw [← hty'] at q4
   have hgd:t0.getD ty'=ty':=by rw [hty']; cases t0 <;> rfl
   simp only at q1 q2 q3 q4 q5
   obtain ⟨_,hns,arr,hfn,hszn,hrvn⟩:=hsn
   obtain ⟨r0,rs,hrr⟩:∃ r0 rs,rows=r0::rs:=by
    cases rows with
    | nil=>exact absurd rfl hrne
    | cons r0 rs=>exact ⟨r0,rs,rfl⟩
   have hs1:s'=s:=by rw [← hrl r0 (by simp [hrr]),hrs r0 (by simp [hrr])]
   have hss:sz=s:=(hsz hrne).trans hs1
   subst hss; subst hs1
   have harr:arr.toList.length=arr.size:=Array.length_toList
   have hend:rows.length*s'+arr.toList.length≤cur.size:=by
    rw [harr,hszn,q5,← Nat.add_mul]
    exact Nat.mul_le_mul_right _ hfit
   have hst:=E8 (P:=C.P) (b:=b) (off:=rows.length*s') (t:=ty') arr.toList 0 cur w q4 (by omega) (Src.one hns hszn hrvn)
   rw [Nat.add_zero] at hst
   have hrun:(execOp ρ o).run C.P w = .ok (.value (.slice (some ⟨b,0,none⟩) (rows.length+new.length) cap)) (World.putObj w b (.cells (v8 cur (rows.length*s') arr.toList) ty' (0,0))):=by
    rw [hexec,hv,ha0,S8 hu hu2 hs hlen hfn hfit (by rw [Nat.zero_add]; exact hst)]
    rfl
   rw [hrun]
   obtain ⟨hx1,hr1⟩:=hr.tipStore (cur':=v8 cur (rows.length*s') arr.toList) hp hkt hgd q4 (A3 _ _ _) (fun o' ho'=>by
    have h0:o' < cur.size:=by
     rw [q5]
     exact Nat.lt_of_lt_of_le ho' (Nat.mul_le_mul_right _ q1)
    have h1:o' < (v8 cur (rows.length*s') arr.toList).size:=by rw [A3]; exact h0
    have:=C9 arr.toList cur (rows.length*s') o' hend
    rw [if_neg (by simp only at ho'; omega)] at this
    simp only [Array.getD_eq_getD_getElem?,Array.getElem?_eq_getElem h0,Array.getElem?_eq_getElem h1,Option.getD_some] at this
    rw [Array.getElem?_eq_getElem h0,Array.getElem?_eq_getElem h1,this])
   obtain ⟨hx2,hr2⟩:=hr1.tipNew (m:=rows.length+new.length) hp hkt (by omega) hfit
   have hp2:(M.add ⟨b,cap,s'⟩).pl[σ.length]? = some ⟨b,cap,s'⟩:=by simp [l3.add,← hr.len]
   have hk2:(σ.set k c5.dead++[c5.tipT t0 (rows.length+new.length)])[σ.length]? = some (.tipT t0 (rows.length+new.length)):=by simp
   obtain ⟨hx3,hr3⟩:=hr2.settleCells hp2 hk2
   have hx:=(hx1.trans hx2).trans hx3
   refine ⟨_,_,_,hx,hr3,?_,hk⟩
   have hbs:b < w.heap.size:=(Array.getElem?_eq_some_iff.1 q4).1
   have hcell:∀ q,q < cur.size→(World.putObj w b (.cells (v8 cur (rows.length*s') arr.toList) ty' (0,0))).cell? ⟨b,q,none⟩=some ((v8 cur (rows.length*s') arr.toList).getD q undef):=fun q hq=>by
    have:q < (v8 cur (rows.length*s') arr.toList).size:=by rw [A3]; exact hq
    simp [World.cell?,World.putObj_same w _ hbs,this]
   have hq:∀ i j r c,(rows++new)[i]? = some r→r[j]? = some c→i*s'+j < (rows.length+new.length)*s':=fun i j r c hi hj=>by
    have hil:=(List.getElem?_eq_some_iff.1 hi).1
    rw [hlenapp] at hil
    have hjl:j < s':=by have:=(List.getElem?_eq_some_iff.1 hj).1; rwa [hrow r (List.mem_of_getElem? hi)] at this
    have:(i+1)*s'≤(rows.length+new.length)*s':=Nat.mul_le_mul_right _ hil
    rw [Nat.add_mul] at this; omega
   have hqc:(rows.length+new.length)*s'≤cur.size:=by rw [q5]; exact Nat.mul_le_mul_right _ hfit
   refine RV.list' (b:=b) (off:=0) (s:=s') hlenapp.symm (fun i j=>(v8 cur (rows.length*s') arr.toList).getD (i*s'+j) undef) (by rw [hlenapp]; exact hfit) q2 rfl (fun h=>by cases h) (fun _=>rfl) hrow (fun r hr c hc=>?_) (fun i j r c hi hj=>⟨.inr (.inr ⟨rfl,by rw [Nat.zero_add]; exact hq i j r c hi hj⟩),by rw [Nat.zero_add]; exact hcell _ (Nat.lt_of_lt_of_le (hq i j r c hi hj) hqc)⟩) (fun i j r c hi hj=>?_) (fun k' hk'=>⟨s',?_,rfl,rfl,fun _=>rfl⟩)
   ·rcases List.mem_append.1 hr with h | h
    ·exact hone r h c hc
    ·obtain ⟨i,hi⟩:=List.mem_iff_getElem?.1 h
     obtain ⟨j,hj⟩:=List.mem_iff_getElem?.1 hc
     exact (hrvn i j r c hi hj).2
   ·rw [C9 _ _ _ _ hend]
    rw [List.getElem?_append] at hi
    split at hi
    ·rename_i hlt
     have hjl:j < s':=by have:=(List.getElem?_eq_some_iff.1 hj).1; rwa [hrs r (List.mem_of_getElem? hi)] at this
     have hql:i*s'+j < rows.length*s':=by
      have:(i+1)*s'≤rows.length*s':=Nat.mul_le_mul_right _ hlt
      rw [Nat.add_mul] at this; omega
     rw [if_neg (by omega)]
     have h3:=(hc i j r c hi hj).2
     rw [Nat.zero_add] at h3
     have h4:w.cell? ⟨b,i*s'+j,none⟩=some (cur.getD (i*s'+j) undef):=by
      have:i*s'+j < cur.size:=by omega
      simp [World.cell?,q4,this]
     rw [h4] at h3
     injection h3 with h3
     rw [h3]
     exact (hrv i j r c hi hj).mono hx
    ·rename_i hge
     have hil:=(List.getElem?_eq_some_iff.1 hi).1
     have hjl:j < s':=by have:=(List.getElem?_eq_some_iff.1 hj).1; rwa [hns r (List.mem_of_getElem? hi)] at this
     have e1:(i - rows.length)*s'=i*s' - rows.length*s':=Nat.sub_mul _ _ _
     have e2:rows.length*s'≤i*s':=Nat.mul_le_mul_right _ (by omega)
     have e3:(i - rows.length+1)*s'≤new.length*s':=Nat.mul_le_mul_right _ hil
     rw [Nat.add_mul] at e3
     rw [if_pos (by rw [harr,hszn]; omega)]
     have:=(hrvn _ j r c hi hj).1.mono hx
     rw [show i*s'+j - rows.length*s'=(i - rows.length)*s'+j from by omega]
     simpa using this
   ·injection hk' with hk'
    subst hk'
    exact hp2
  ·
   obtain ⟨sz,hp,ha0,rfl,_⟩:=htok k rfl
   obtain ⟨⟨q1,q2,q3,cur,ty,q4,q5⟩,hfree⟩:=hr.obj k _ _ hp hkt
   have hsz:sz=s:=(q3.2 (by rw [ht0']; rfl)).trans (hts (by rw [ht0']; rfl)).symm
   obtain ⟨ty',hty'⟩:∃ ty',ty'=t0.getD ty:=⟨_,rfl⟩
   rw [← hty'] at q4
   have hgd:t0.getD ty'=ty':=by rw [hty']; cases t0 <;> rfl
   simp only at q1 q2 q3 q4 q5
   subst hsz
   obtain ⟨_,hns,arr,hfn,hszn,hrvn⟩:=hsn
   have harr:arr.toList.length=arr.size:=Array.length_toList
   have hl0:([]:List (List CV)).length=0:=rfl
   rw [hl0] at hfit hcap hv hlenapp hb hmax hk
   rw [Nat.zero_add] at hfit hk
   have hend:0+arr.toList.length≤cur.size:=by
    rw [harr,hszn,q5,Nat.zero_add]
    exact Nat.mul_le_mul_right _ hfit
   have hst:=E8 (P:=C.P) (b:=b) (off:=0) (t:=ty') arr.toList 0 cur w q4 (by omega) (Src.one hns hszn hrvn)
   rw [Nat.add_zero] at hst
   have hrun:(execOp ρ o).run C.P w = .ok (.value (.slice (some ⟨b,0,none⟩) new.length cap)) (World.putObj w b (.cells (v8 cur 0 arr.toList) ty' (0,0))):=by
    have:=S8 (P:=C.P) (ty:=o.type) (b:=b) (off:=0) (n:=0) (m:=new.length) (c:=cap) hu hu2 hs hlen hfn (by omega) (by rw [Nat.zero_mul]; exact hst)
    rw [Nat.zero_add] at this
    rw [hexec,hv,ha0,this]
    rfl
   rw [hrun]
   obtain ⟨hx1,hr1⟩:=hr.tipStore (cur':=v8 cur 0 arr.toList) hp hkt hgd q4 (A3 _ _ _) (fun o' ho'=>by simp at ho')
   obtain ⟨hx2,hr2⟩:=hr1.tipNew (m:=new.length) hp hkt (Nat.zero_le _) hfit
   have hp2:(M.add ⟨b,cap,sz⟩).pl[σ.length]? = some ⟨b,cap,sz⟩:=by simp [l3.add,← hr.len]
   have hk2:(σ.set k c5.dead++[c5.tipT t0 new.length])[σ.length]? = some (.tipT t0 new.length):=by simp
   obtain ⟨hx3,hr3⟩:=hr2.settleCells hp2 hk2
   have hx:=(hx1.trans hx2).trans hx3
   refine ⟨_,_,_,hx,hr3,?_,hk⟩
   have hbs:b < w.heap.size:=(Array.getElem?_eq_some_iff.1 q4).1
   have hcell:∀ q,q < cur.size→(World.putObj w b (.cells (v8 cur 0 arr.toList) ty' (0,0))).cell? ⟨b,q,none⟩=some ((v8 cur 0 arr.toList).getD q undef):=fun q hq=>by
    have:q < (v8 cur 0 arr.toList).size:=by rw [A3]; exact hq
    simp [World.cell?,World.putObj_same w _ hbs,this]
   have hq:∀ i j r c,new[i]? = some r→r[j]? = some c→i*sz+j < new.length*sz:=fun i j r c hi hj=>by
    have hil:=(List.getElem?_eq_some_iff.1 hi).1
    have hjl:j < sz:=by have:=(List.getElem?_eq_some_iff.1 hj).1; rwa [hns r (List.mem_of_getElem? hi)] at this
    have:(i+1)*sz≤new.length*sz:=Nat.mul_le_mul_right _ hil
    rw [Nat.add_mul] at this; omega
   have hqc:new.length*sz≤cur.size:=by rw [q5]; exact Nat.mul_le_mul_right _ hfit
   refine RV.list' (b:=b) (off:=0) (s:=sz) rfl (fun i j=>(v8 cur 0 arr.toList).getD (i*sz+j) undef) hfit q2 rfl (fun h=>by cases h) (fun _=>rfl) hns (fun r hr c hc=>?_) (fun i j r c hi hj=>⟨.inr (.inr ⟨rfl,by rw [Nat.zero_add]; exact hq i j r c hi hj⟩),by rw [Nat.zero_add]; exact hcell _ (Nat.lt_of_lt_of_le (hq i j r c hi hj) hqc)⟩) (fun i j r c hi hj=>?_) (fun k' hk'=>⟨sz,?_,rfl,rfl,fun _=>rfl⟩)
   ·obtain ⟨i,hi⟩:=List.mem_iff_getElem?.1 hr
    obtain ⟨j,hj⟩:=List.mem_iff_getElem?.1 hc
    exact (hrvn i j r c hi hj).2
   ·rw [C9 _ _ _ _ hend]
    rw [if_pos (by rw [harr,hszn]; have:=hq i j r c hi hj; omega)]
    have:=(hrvn i j r c hi hj).1.mono hx
    simpa using this
   ·injection hk' with hk'
    subst hk'
    exact hp2
 ·
  obtain ⟨hrd,hxd⟩:=hr.drewN
  have hso':=R5 (C:=C) (a1R h1) hrs
  have hsn':=hsrc M w.drew _ hrd (a1R h2)
  rw [hv] at hso'
  obtain ⟨a1,c1,hv1,_,_,old,hfo,hszo,hrvo⟩:=hso'
  obtain ⟨_,hns,arr,hfn,hszn,hrvn⟩:=hsn'
  obtain ⟨c',hc1,hc2,hrun⟩:=K9 (P:=C.P) (ty:=o.type) (a:=a) (c:=cap) (w:=w) hu hu2 hs hti hz hlen hfo hfn (by omega) hmax hb
  rw [hexec,hv,hrun]
  simp only [Result.andThen_ok]
  have hwsz:w.drew.heap.size=w.heap.size:=rfl
  rw [← hwsz]
  have hrk:=hrd.kill tok
  have hkl:=a9r σ tok
  have hasz:(old++arr++Builtin.zeroCells z.cells (c' - (rows.length+new.length))).size=c'*s:=by
   simp only [Array.size_append,K4,hszo,hszn,hzs]
   rw [← Nat.add_mul,← Nat.add_mul]
   congr 1; omega
  have hr2:=hrk.alloc ⟨w.drew.heap.size,c',s⟩ (.cells (old++arr++Builtin.zeroCells z.cells (c' - (rows.length+new.length))) e) (.tipT t0 (rows.length+new.length)) rfl
   ⟨hc1,by unfold maxLen; simp only; omega,⟨fun o' ho'=>by have:=hrd.blk _ _ (.inr ho'); simp only at this; omega,hts⟩,_,e,by rw [show t0.getD e=e from by rcases ht0 with h | h <;> rw [h] <;> rfl]; exact s9 _ _,hasz⟩
  have hx2:=Ext.alloc hrk ⟨w.drew.heap.size,c',s⟩ (.cells (old++arr++Builtin.zeroCells z.cells (c' - (rows.length+new.length))) e)
  have hp2:(M.add ⟨w.drew.heap.size,c',s⟩).pl[σ.length]? = some ⟨w.drew.heap.size,c',s⟩:=by simp [l3.add,← hr.len]
  have hk2:(kill σ tok++[c5.tipT t0 (rows.length+new.length)])[σ.length]? = some (.tipT t0 (rows.length+new.length)):=by rw [← hkl]; simp
  obtain ⟨hx3,hr3⟩:=hr2.settleCells hp2 hk2
  have hx:=(hxd.trans hx2).trans hx3
  refine ⟨_,_,_,hx,hr3,?_,hk⟩
  have hget:=X0 (rest:=Builtin.zeroCells z.cells (c' - (rows.length+new.length))) hszo hszn hrs hns (fun i j r c hi hj=>(hrvo i j r c hi hj).1) (fun i j r c hi hj=>(hrvn i j r c hi hj).1)
  have hq:∀ i j r c,(rows++new)[i]? = some r→r[j]? = some c→i*s+j < (rows.length+new.length)*s:=fun i j r c hi hj=>by
   have hil:=(List.getElem?_eq_some_iff.1 hi).1
   rw [hlenapp] at hil
   have hjl:j < s:=by have:=(List.getElem?_eq_some_iff.1 hj).1; rwa [hrow r (List.mem_of_getElem? hi)] at this
   have:(i+1)*s≤(rows.length+new.length)*s:=Nat.mul_le_mul_right _ hil
   rw [Nat.add_mul] at this; omega
  refine RV.list' (b:=w.drew.heap.size) (off:=0) (s:=s) hlenapp.symm (fun i j=>(old++arr++Builtin.zeroCells z.cells (c' - (rows.length+new.length))).getD (i*s+j) undef) (by rw [hlenapp]; exact hc1) (by unfold maxLen; omega) rfl (fun h=>by cases h) (fun _=>rfl) hrow (fun r hr c hc=>?_) (fun i j r c hi hj=>⟨.inr (.inr ⟨rfl,by rw [Nat.zero_add]; exact hq i j r c hi hj⟩),?_⟩) (fun i j r c hi hj=>?_) (fun k' hk'=>⟨s,?_,rfl,rfl,fun _=>rfl⟩)
  ·rcases List.mem_append.1 hr with h | h
   ·obtain ⟨i,hi⟩:=List.mem_iff_getElem?.1 h
    obtain ⟨j,hj⟩:=List.mem_iff_getElem?.1 hc
    exact (hrvo i j r c hi hj).2
   ·obtain ⟨i,hi⟩:=List.mem_iff_getElem?.1 h
    obtain ⟨j,hj⟩:=List.mem_iff_getElem?.1 hc
    exact (hrvn i j r c hi hj).2
  ·rw [Nat.zero_add,World.cell?_alloc_new]
   have:=(hget i j r c hi hj).1
   rw [Array.getElem?_eq_getElem this,Array.getD_eq_getD_getElem?,Array.getElem?_eq_getElem this]
   rfl
  ·exact (hget i j r c hi hj).2.mono (hx2.trans hx3)
  ·injection hk' with hk'
   subst hk'
   exact hp2
theorem a3b {t0:Option TypeId} {t t2 e:TypeId} {x y:Operand} {rows new:List (List CV)} {nn:Bool} {tok:Option Nat} {s:Nat} {ti:TypeInfo} {z:Value} {K:v7→List c5→Prop} (ho:o.op = .call { callee:=.builtin .append,args:=#[x,y],argTypes:=#[t,t2]}) (hx:E.valid x) (hy:E.valid y) (ex:E.val C x = .list rows nn tok)
 (hsrc:∀ M w v,Rel C M σ w→RV M w (E.val C y) v→b0U C w M new s v) (hu:∀ w,(underlying t).run C.P w = .ok (.slice e) w) (hs:∀ w,(sizeOf e).run C.P w = .ok s w) (hti:∀ w,(typeInfo e).run C.P w = .ok ti w) (hz:∀ w,(zeroValue e).run C.P w = .ok z w) (hzs:z.cells.size=s)
 (hu2:(∀ w,(underlying t2).run C.P w = .ok (.slice e) w)∨∀ w,(underlying t2).run C.P w = .ok .string w) (ht0:t0=none∨t0=some e) (hts:t0.isSome=true→s=1) (happ:b1N t0 σ rows nn tok) (hrs:∀ r∈rows,r.length=s) (hnew:new≠[]) (hb:(rows.length+new.length)*ti.bytes≤140737488355328) (hmax:rows.length+new.length≤9223372036854775807)
 (hk:K (.ret (.list (rows++new) true (some σ.length))) (kill σ tok++[.tipT t0 (rows.length+new.length)])):C2 C σ E o K :=
 a4q ho hx hy ex hsrc hu hs hti hz hzs hu2 ht0 hts (.inl happ) hrs hnew hb hmax hk
theorem a9X {t e:TypeId} {x y:Operand} {rows new:List (List CV)} {nn:Bool} {tok:Option Nat} {s:Nat} {ti:TypeInfo} {z:Value} {K:v7→List c5→Prop} (ho:o.op = .call { callee:=.builtin .append,args:=#[x,y],argTypes:=#[t,t]}) (hx:E.valid x) (hy:E.valid y) (ex:E.val C x = .list rows nn tok)
 (hsrc:∀ M w v,Rel C M σ w→RV M w (E.val C y) v→Src C M w new s v) (hu:∀ w,(underlying t).run C.P w = .ok (.slice e) w) (hs:∀ w,(sizeOf e).run C.P w = .ok s w) (hti:∀ w,(typeInfo e).run C.P w = .ok ti w) (hz:∀ w,(zeroValue e).run C.P w = .ok z w) (hzs:z.cells.size=s)
 (happ:b8v σ rows nn tok) (hrs:∀ r∈rows,r.length=s) (hnew:new≠[]) (hb:(rows.length+new.length)*ti.bytes≤140737488355328) (hmax:rows.length+new.length≤9223372036854775807)
 (hk:K (.ret (.list (rows++new) true (some σ.length))) (kill σ tok++[.tip (rows.length+new.length)])):C2 C σ E o K :=
 a3b ho hx hy ex (fun M w v hr h=>(hsrc M w v hr h).any) hu hs hti hz hzs (.inl hu) (.inl rfl) (fun h=>by cases h) happ hrs hnew hb hmax hk
end
end Go.Cl
namespace Go.Cl
section
variable {C:Ctx} {σ:List c5} {E:Env} {o:Oper}
def b0F (z:Value):List CV:=(C3 z).cells
theorem b7X {M:l3} {w:World} {z:Value} {s n:Nat} (hz1:E3 z=true) (hz2:(C3 z).one=true∨∃ cs,C3 z = .agg cs) (hzs:z.cells.size=s) {arr:Array Value} (harr:∀ q,q < n*s→arr.getD q undef=z.cells.getD (q%s) undef) (i j:Nat) (r:List CV) (c:CV) (hi:(List.replicate n (b0F z))[i]? = some r) (hj:r[j]? = some c) :
 RV M w c (arr.getD (i*s+j) undef)∧c.one=true:=by
 have hz0:RV M w (C3 z) z:=O8 hz1
 obtain ⟨g1,g2,g3⟩:=hz0.cells hz2
 rw [List.getElem?_replicate] at hi
 split at hi
 ·rename_i hin
  injection hi with hi
  subst hi
  have hjl:=(List.getElem?_eq_some_iff.1 hj).1
  have hjs:j < s:=by rw [← hzs,g1]; exact hjl
  have hq:i*s+j < n*s:=by
   have:(i+1)*s≤n*s:=Nat.mul_le_mul_right _ hin
   rw [Nat.add_mul] at this; omega
  rw [harr _ hq,(b0m hjs).2]
  exact ⟨g3 j c hj,g2 c (List.mem_of_getElem? hj)⟩
 ·cases hi
theorem a8W {z:Value} {s:Nat} (hz1:E3 z=true) (hz2:(C3 z).one=true∨∃ cs,C3 z = .agg cs) (hzs:z.cells.size=s):(b0F z).length=s:=by
 have hz0:RV ⟨[],fun _=>False,fun _ _=>False,fun _=>False⟩ default (C3 z) z:=O8 hz1
 have:=(hz0.cells hz2).1
 rw [hzs] at this
 exact this.symm
theorem a6y {z:Array Value} {s n q:Nat} (hs:z.size=s) (hq:q < n*s):((Array.range (n*s)).map (z[·%z.size]!)).getD q undef=z.getD (q%s) undef:=by
 have h0:0 < s:=by
  rcases Nat.eq_zero_or_pos s with h | h
  ·subst h; simp at hq
  ·exact h
 have hms:q%s < s:=Nat.mod_lt _ h0
 simp [hq,hs,hms]
theorem a9Z {t e:TypeId} {x y:Operand} {n c s:Nat} {kx ky:IntKind} {a b:Int} {ti:TypeInfo} {z:Value} {K:v7→List c5→Prop} (ho:o.op = .makeSlice t x y) (hx:E.valid x) (hy:E.valid y) (ex:E.val C x = .val (.int kx a)) (ey:E.val C y = .val (.int ky b)) (ha:a=n) (hb:b=c)
 (hu:∀ w,(underlying t).run C.P w = .ok (.slice e) w) (hs:∀ w,(sizeOf e).run C.P w = .ok s w) (hti:∀ w,(typeInfo e).run C.P w = .ok ti w) (hz:∀ w,(zeroValue e).run C.P w = .ok z w) (hz1:E3 z=true) (hz2:(C3 z).one=true∨∃ cs,C3 z = .agg cs) (hzs:z.cells.size=s)
 (hnc:n≤c) (hmax:c≤9223372036854775807) (hby:ti.bytes*c≤281474976710656) (hk:K (.ret (.vec σ.length 0 n)) (σ++[.vec s (List.replicate n (b0F z))])):C2 C σ E o K:=fun M w ρ hr hh=>by
 subst ha hb
 have h1:=hh x (by simp [ho,Op.operands]) hx
 have h2:=hh y (by simp [ho,Op.operands]) hy
 rw [ex] at h1
 rw [ey] at h2
 have e1:IntKind.i64.wrap (n:Int)=n:=a8x (by omega) (by omega)
 have e2:IntKind.i64.wrap (c:Int)=c:=a8x (by omega) (by omega)
 have e3:((ti.bytes:Int)*(c:Int) > 2^48)=False:=by
  have h:((ti.bytes*c:Nat):Int)≤281474976710656:=by omega
  rw [Int.natCast_mul] at h
  simp; omega
 have hcell:(if c*s=0 then (#[]:Array Value) else z.cells)=(if c*s=0 then #[] else z.cells):=rfl
 have hnlt:¬ ((c:Int) < n):=by omega
 have hrun:(execOp ρ o).run C.P w = .ok (.value (.slice (some ⟨w.heap.size,0,none⟩) n c)) (w.alloc (.cells ((Array.range (c*s)).map (z.cells[·%z.cells.size]!)) e)):=by
  have e4:¬ (2^48 < (ti.bytes:Int)*(c:Int)):=by simpa using e3
  by_cases h0:c*s=0
  ·have er:Array.range 0 = #[]:=rfl
   simp [execOp,ho,Instr.makeSlice,hu,n8 h1,n8 h2,asInt,asIntOf,hti,e1,e2,hs,h0,newRow,er,hnlt] at e4 ⊢
   intro h
   exfalso
   rcases h with (h | h) | h <;> omega
  ·simp [execOp,ho,Instr.makeSlice,hu,n8 h1,n8 h2,asInt,asIntOf,hti,e1,e2,hs,h0,hz,newRow,hnlt] at e4 ⊢
   intro h
   exfalso
   rcases h with (h | h) | h <;> omega
 rw [hrun]
 have hx:=Ext.alloc hr ⟨w.heap.size,c,s⟩ (.cells ((Array.range (c*s)).map (z.cells[·%z.cells.size]!)) e)
 have hzl:=a8W hz1 hz2 hzs
 refine ⟨.vec σ.length 0 n,_,_,hx,hr.alloc ⟨w.heap.size,c,s⟩ _ (.vec s (List.replicate n (b0F z))) rfl ⟨rfl,by simpa using hnc,by unfold maxLen; simp only; omega,fun r hr=>by rw [(List.mem_replicate.1 hr).2,hzl],fun r hr c hc=>?_,_,e,s9 _ _,by simp,fun i j r c' hi hj=>?_⟩,?_,hk⟩
 ·rw [(List.mem_replicate.1 hr).2] at hc
  have hz0:RV M w (C3 z) z:=O8 hz1
  exact (hz0.cells hz2).2.1 c hc
 ·exact (b7X (n:=n) hz1 hz2 hzs (fun q hq=>a6y hzs (Nat.lt_of_lt_of_le hq (Nat.mul_le_mul_right _ hnc))) i j r c' hi hj).1
 ·have:=RV.vec (M:=M.add ⟨w.heap.size,c,s⟩) (w:=w.alloc (.cells ((Array.range (c*s)).map (z.cells[·%z.cells.size]!)) e)) (k:=σ.length) (off:=0) (len:=n) (p:=⟨w.heap.size,c,s⟩) (a:=⟨w.heap.size,0,none⟩) (by simp [l3.add,← hr.len]) (by simpa using hnc) (by unfold maxLen; simp only; omega) (fun _=>by simp)
  exact this
theorem b7B {t e:TypeId} {x:Operand} {k off len s:Nat} {rows:List (List CV)} {z:Value} {K:v7→List c5→Prop} (ho:o.op = .call { callee:=.builtin .clear,args:=#[x],argTypes:=#[t]}) (hx:E.valid x) (ex:E.val C x = .vec k off len)
 (hu:∀ w,(underlying t).run C.P w = .ok (.slice e) w) (hz:∀ w,(zeroValue e).run C.P w = .ok z w) (hz1:E3 z=true) (hz2:(C3 z).one=true∨∃ cs,C3 z = .agg cs) (hzs:z.cells.size=s) (hk':σ[k]? = some (.vec s rows)) (hl:off+len≤rows.length)
 (hk:K (.ret (.val (.tuple #[]))) (σ.set k (.vec s (C0 rows off (List.replicate len (b0F z)))))):C2 C σ E o K:=fun M w ρ hr hh=>by
 have h1:=hh x (by simp [ho,Op.operands,Call.operands]) hx
 rw [ex] at h1
 generalize hv:ρ x=v at h1
 cases h1 with
 | vec hp g1 g2 g3 =>
  rename_i p a
  have hobj:=(hr.obj k p _ hp hk').1
  have hcap:rows.length≤p.cap:=hobj.2.1
  have hps:p.size=s:=hobj.1
  have hzl:=a8W hz1 hz2 hzs
  have hzc:(Builtin.zeroCells z.cells len)=(Array.range (len*s)).map (z.cells[·%z.cells.size]!):=by simp [Builtin.zeroCells,hzs]
  obtain ⟨w',hst,hx',hr'⟩:=a2b hr hp hk' (p:=off) (new:=List.replicate len (b0F z)) (arr:=Builtin.zeroCells z.cells len) (by omega) (by simp; omega) (fun r hr=>by rw [(List.mem_replicate.1 hr).2,hzl]) (by simp [K4,hzs])
   (fun i j r c hi hj=>b7X (n:=len) hz1 hz2 hzs (fun q hq=>by rw [hzc]; exact a6y hzs hq) i j r c hi hj)
  have hrun:(execOp ρ o).run C.P w = .ok (.value (.tuple #[])) w':=by
   rcases len with _ | len
   ·have h00:(Builtin.zeroCells z.cells 0).toList=[]:=by simp [Builtin.zeroCells]
    rw [h00] at hst
    have:w'=w:=by
     have h2:(storeCells ⟨p.block,off*s,none⟩ []).run C.P w = .ok () w:=by simp [storeCells]
     rw [h2] at hst
     injection hst with _ h3
     exact h3.symm
    subst this
    simp [execOp,ho,resolve,invoke,builtin,Builtin.clear_,hu,hv]
   ·have hst':(storeCells a (Builtin.zeroCells z.cells (len+1)).toList).run C.P w = .ok () w':=by
     rw [g3 (by omega),hps]; exact hst
    simp [execOp,ho,resolve,invoke,builtin,Builtin.clear_,hu,hv,hz,hst']
  rw [hrun]
  exact ⟨_,_,M,hx',hr',.val _,hk⟩
theorem a98 {t e:TypeId} {x y:Operand} {k s:Nat} {rows new:List (List CV)} {ti:TypeInfo} {z:Value} {K:v7→List c5→Prop} (ho:o.op = .call { callee:=.builtin .append,args:=#[x,y],argTypes:=#[t,t]}) (hx:E.valid x) (hy:E.valid y) (ex:E.val C x = .vec k 0 rows.length)
 (hsrc:∀ M w v,Rel C M σ w→RV M w (E.val C y) v→Src C M w new s v) (hu:∀ w,(underlying t).run C.P w = .ok (.slice e) w) (hs:∀ w,(sizeOf e).run C.P w = .ok s w) (hti:∀ w,(typeInfo e).run C.P w = .ok ti w) (hz:∀ w,(zeroValue e).run C.P w = .ok z w) (hzs:z.cells.size=s)
 (hk':σ[k]? = some (.vec s rows)) (hnew:new≠[]) (hb:(rows.length+new.length)*ti.bytes≤140737488355328) (hmax:rows.length+new.length≤9223372036854775807)
 (hk:K (.ret (.vec σ.length 0 (rows.length+new.length))) (σ.set k .dead++[.vec s (rows++new)])):C2 C σ E o K:=fun M w ρ hr hh=>by
 have h1:=hh x (by simp [ho,Op.operands,Call.operands]) hx
 have h2:=hh y (by simp [ho,Op.operands,Call.operands]) hy
 rw [ex] at h1
 have hnl:0 < new.length:=List.length_pos_iff.2 hnew
 have hsx:=a2g hr h1 hk' (Nat.le_of_eq (Nat.zero_add _))
 rw [List.drop_zero,List.take_length] at hsx
 have hlen:=(hsrc M w _ hr h2).lenOf
 have hexec:(execOp ρ o).run C.P w=((Builtin.append_ #[t,t] o.type #[ρ x,ρ y]).run C.P w).andThen fun v w=>.ok (.value v) w:=by
  simp [execOp,ho,resolve,invoke,builtin]
 generalize hv:ρ x=v at h1 hsx
 cases h1 with
 | vec hp g1 g2 g3 =>
  rename_i p a
  have hobj:=(hr.obj k p _ hp hk').1
  have hcap:rows.length≤p.cap:=hobj.2.1
  have hps:p.size=s:=hobj.1
  subst hps
  by_cases hfit:rows.length+new.length≤p.cap
  ·obtain ⟨an,cn,hvn,_,hns,arr,hfn,hszn,hrvn⟩:=hsrc M w _ hr h2
   obtain ⟨w',hst,hx',hr'⟩:=a2b hr hp hk' (p:=rows.length) (new:=new) (Nat.le_refl _) hfit hns hszn hrvn
   have ha:=g3 (by omega)
   rw [Nat.zero_mul] at ha
   have happ:=S8 (P:=C.P) (ty:=o.type) (b:=p.block) (off:=0) (n:=rows.length) (m:=new.length) (c:=p.cap - 0) hu (.inl hu) hs hlen hfn (by omega) (by rw [Nat.zero_add]; exact hst)
   rw [hexec,hv,ha,happ]
   simp only [Result.andThen_ok]
   have hsp:C0 rows rows.length new=rows++new:=by simp [C0]
   rw [hsp] at hr'
   have hks:k < σ.length:=(List.getElem?_eq_some_iff.1 hk').1
   have hk2:(σ.set k (.vec p.size (rows++new)))[k]? = some (.vec p.size (rows++new)):=by rw [List.getElem?_set_self hks]
   have hx2:Ext M w' (M.add p) w':=⟨⟨[p],rfl⟩,fun _ h=>h,fun _ _ h=>.inr h,fun _ _=>rfl,fun _ _ _=>rfl,Nat.le_refl _,G5,rfl,rfl,rfl,fun _ h=>⟨h,rfl,id,fun _=>id⟩⟩
   have hd:=hr'.dead k
   rw [List.set_set] at hd
   have hobj':=hr'.obj k p _ hp hk2
   have hget:∀ {j:Nat} {q:Pl},(M.add p).pl[j]? = some q→(j < σ.length∧M.pl[j]? = some q)∨(j=σ.length∧q=p):=by
    intro j q hj
    simp only [l3.add,List.getElem?_append,hr.len] at hj
    split at hj
    ·exact .inl ⟨‹_›,hj⟩
    ·have:j - σ.length=0:=by
      have:=(List.getElem?_eq_some_iff.1 hj).1
      simp at this; omega
     rw [this] at hj
     simp at hj
     exact .inr ⟨by omega,hj.symm⟩
   have hgo:∀ {j:Nat} {x:c5},(σ.set k c5.dead++[c5.vec p.size (rows++new)])[j]? = some x→(j < σ.length∧(σ.set k c5.dead)[j]? = some x)∨(j=σ.length∧x = .vec p.size (rows++new)):=by
    intro j x hj
    rw [List.getElem?_append] at hj
    split at hj
    ·exact .inl ⟨by rename_i h; simpa using h,hj⟩
    ·have:j - (σ.set k c5.dead).length=0:=by
      have:=(List.getElem?_eq_some_iff.1 hj).1
      simp at this ⊢; omega
     rw [this] at hj
     simp at hj
     rename_i h2
     have hlen:(σ.set k c5.dead).length=σ.length:=by simp
     exact .inr ⟨by omega,hj.symm⟩
   have hother:∀ {j:Nat} {q:Pl} {x:c5},M.pl[j]? = some q→(σ.set k c5.dead)[j]? = some x→x.live=true→q.block≠p.block:=by
    intro j q x hj hxj hl e
    have hjk:j≠k:=by
     rintro rfl
     rw [List.getElem?_set_self hks] at hxj
     injection hxj with hxj
     subst hxj
     cases hl
    have hxj':σ[j]? = some x:=by rwa [List.getElem?_set_ne (Ne.symm hjk)] at hxj
    exact hjk (hr.inj j k q p x _ hj hp hxj' hk' hl rfl e)
   refine ⟨.vec σ.length 0 (rows.length+new.length),_,M.add p,hx'.trans hx2,⟨by simp [l3.add,hr.len],fun b o' ha=>hr'.blk b o' ha,fun j q x hj hxj=>?_,fun j j' q q' x x' hj hj' hxj hxj' hl hl' hb=>?_,fun g cells hg=>(hr'.glob g cells hg).mono hx2,hr'.kep,fun j q x hj hxj hlv=>?_⟩,?_,hk⟩
   ·rcases hgo hxj with ⟨hlt,h⟩ | ⟨rfl,rfl⟩
    ·rcases hget hj with ⟨_,hq⟩ | ⟨rfl,_⟩
     ·obtain ⟨h1,h2⟩:=hd.obj j q x hq h
      refine ⟨?_,h2⟩
      by_cases hl:x.live=true
      ·exact h1.mono hx2 rfl (fun _ _ _ _ h=>h)
      ·cases x <;> first | trivial | simp [c5.live] at hl
     ·omega
    ·rcases hget hj with ⟨h,_⟩ | ⟨_,rfl⟩
     ·omega
     ·exact ⟨hobj'.1.mono hx2 rfl (fun _ _ _ _ h=>h),hobj'.2⟩
   ·rcases hgo hxj with ⟨hlt,h⟩ | ⟨rfl,rfl⟩
    ·rcases hget hj with ⟨_,hq⟩ | ⟨rfl,_⟩
     ·rcases hgo hxj' with ⟨hlt',h'⟩ | ⟨rfl,rfl⟩
      ·rcases hget hj' with ⟨_,hq'⟩ | ⟨rfl,_⟩
       ·exact hd.inj j j' q q' x x' hq hq' h h' hl hl' hb
       ·omega
      ·rcases hget hj' with ⟨h0,_⟩ | ⟨_,rfl⟩
       ·omega
       ·exact absurd hb (hother hq h hl)
     ·omega
    ·rcases hget hj with ⟨h0,_⟩ | ⟨_,rfl⟩
     ·omega
     ·rcases hgo hxj' with ⟨hlt',h'⟩ | ⟨rfl,rfl⟩
      ·rcases hget hj' with ⟨_,hq'⟩ | ⟨rfl,_⟩
       ·exact absurd hb.symm (hother hq' h' hl')
       ·omega
      ·rfl
   ·rcases hgo hxj with ⟨hlt,h⟩ | ⟨rfl,rfl⟩
    ·rcases hget hj with ⟨_,hq⟩ | ⟨rfl,_⟩
     ·exact hd.nk j q x hq h hlv
     ·omega
    ·rcases hget hj with ⟨h0,_⟩ | ⟨_,rfl⟩
     ·omega
     ·exact hr.nk k q _ hp hk' rfl
   ·exact RV.vec (M:=M.add p) (w:=w') (k:=σ.length) (off:=0) (len:=rows.length+new.length) (p:=p) (a:=⟨p.block,0,none⟩) (by simp [l3.add,← hr.len]) (by omega) g2 (fun _=>by simp)
  ·obtain ⟨hrd,hxd⟩:=hr.drewN
   have h1':RV M w.drew (.vec k 0 rows.length) (.slice (some a) rows.length (p.cap - 0)):=.vec hp g1 g2 g3
   have hso':=a2g hrd h1' hk' (Nat.le_of_eq (Nat.zero_add _))
   rw [List.drop_zero,List.take_length] at hso'
   obtain ⟨a1,c1,hv1,_,hrs,old,hfo,hszo,hrvo⟩:=hso'
   obtain ⟨an,cn,hvn,_,hns,arr,hfn,hszn,hrvn⟩:=hsrc M w.drew _ hrd (a1R h2)
   obtain ⟨c',hc1,hc2,hrun⟩:=K9 (P:=C.P) (ty:=o.type) (a:=some a) (c:=p.cap - 0) (w:=w) hu (.inl hu) hs hti hz hlen hfo hfn (by omega) hmax hb
   rw [hexec,hv,hrun]
   simp only [Result.andThen_ok]
   have hwsz:w.drew.heap.size=w.heap.size:=rfl
   rw [← hwsz]
   have hrk:=hrd.dead k
   have hasz:(old++arr++Builtin.zeroCells z.cells (c' - (rows.length+new.length))).size=c'*p.size:=by
    simp only [Array.size_append,K4,hszo,hszn,hzs]
    rw [← Nat.add_mul,← Nat.add_mul]
    congr 1; omega
   have hx2:=Ext.alloc hrk ⟨w.drew.heap.size,c',p.size⟩ (.cells (old++arr++Builtin.zeroCells z.cells (c' - (rows.length+new.length))) e)
   have hrow:∀ r∈rows++new,r.length=p.size:=fun r hr=>by
    rcases List.mem_append.1 hr with h | h
    ·exact hrs r h
    ·exact hns r h
   have hget:=X0 (rest:=Builtin.zeroCells z.cells (c' - (rows.length+new.length))) hszo hszn hrs hns (fun i j r c hi hj=>(hrvo i j r c hi hj).1) (fun i j r c hi hj=>(hrvn i j r c hi hj).1)
   have hr2:=hrk.alloc ⟨w.drew.heap.size,c',p.size⟩ (.cells (old++arr++Builtin.zeroCells z.cells (c' - (rows.length+new.length))) e) (.vec p.size (rows++new)) rfl
    ⟨rfl,by simpa using hc1,by unfold maxLen; simp only; omega,hrow,fun r hr c hc=>(by
     rcases List.mem_append.1 hr with h | h
     ·obtain ⟨i,hi⟩:=List.mem_iff_getElem?.1 h
      obtain ⟨j,hj⟩:=List.mem_iff_getElem?.1 hc
      exact (hrvo i j r c hi hj).2
     ·obtain ⟨i,hi⟩:=List.mem_iff_getElem?.1 h
      obtain ⟨j,hj⟩:=List.mem_iff_getElem?.1 hc
      exact (hrvn i j r c hi hj).2),_,e,s9 _ _,hasz,fun i j r c hi hj=>((hget i j r c hi hj).2.mono hx2)⟩
   refine ⟨.vec σ.length 0 (rows.length+new.length),_,_,hxd.trans hx2,hr2,?_,hk⟩
   exact RV.vec (M:=M.add ⟨w.drew.heap.size,c',p.size⟩) (k:=σ.length) (off:=0) (len:=rows.length+new.length) (p:=⟨w.drew.heap.size,c',p.size⟩) (a:=⟨w.drew.heap.size,0,none⟩) (by simp [l3.add,← hr.len]) (by simpa using hc1) (by unfold maxLen; simp only; omega) (fun _=>by simp)
end
end Go.Cl
namespace Go.Cl
def s8.jump (l:Nat) (J:Env→List c5→Prop) (Q:s8→Env→List c5→Prop):s8→Env→List c5→Prop
 | .goto l',E,σ=>l'=l∧J E σ
 | e,E,σ=>Q e E σ
theorem b4o {C:Ctx} {n:Nat} {Q:s8→Env→List c5→Prop} {E:Env} {σ:List c5} {c rest:Code} (l:Nat) (J:Nat→Env→List c5→Prop) (hf:findLabel c l=some rest)
 (first:CWp C n c (s8.jump l (fun E σ=>∃ m,J m E σ) Q) E σ) (pass:∀ m E σ,J m E σ→CWp C n rest (s8.jump l (fun E' σ'=>∃ m',m' < m∧J m' E' σ') Q) E σ):CWp C n (.scope c) Q E σ:=fun M w a hr hfr=>by
 intro b k cs
 have hg:gotoIn l (.inScope c::k)=some (.code rest::.inScope c::k):=by simp [gotoIn,hf]
 have key:∀ m E σ M1 w1 a1,J m E σ→Ext M w M1 w1→Rel C M1 σ w1→G3 M1 w1 n E a1 →
  ∃ e a' w',E6 C n Q M w e a' w'∧Arrives C.P (lone (b.at a1 (.code rest::.inScope c::k)) cs w1) b k cs e a' w':=by
  intro m
  induction m using Nat.strongRecOn with
  | _ m ih =>
   intro E σ M1 w1 a1 hJ hx hr1 hf1
   obtain ⟨e,a2,w2,hq,harr⟩:=pass m E σ hJ M1 w1 a1 hr1 hf1 b (.inScope c::k) cs
   obtain ⟨E',σ',M',h1,h2,h3,h4⟩:=hq
   cases e with
   | normal=>exact ⟨.normal,a2,w2,⟨E',σ',M',hx.trans h1,h2,h3,h4⟩,Steps.trans harr (.one step_inScope)⟩
   | exit id=>exact ⟨.exit id,a2,w2,⟨E',σ',M',hx.trans h1,h2,h3,h4⟩,fun k' hk=>harr k' (by simp [exitTo,hk])⟩
   | goto l' =>
    obtain ⟨rfl,m',hlt,hJ'⟩:=h4
    obtain ⟨e₂,a₂,w₂,hq₂,harr₂⟩:=ih m' hlt E' σ' M' w2 a2 hJ' (hx.trans h1) h2 h3
    exact ⟨e₂,a₂,w₂,hq₂,.of_steps (harr _ hg) harr₂⟩
   | ret=>exact ⟨.ret,a2,w2,⟨E',σ',M',hx.trans h1,h2,h3,h4⟩,harr⟩
   | panic ch=>exact ⟨.panic ch,a2,w2,⟨E',σ',M',hx.trans h1,h2,h3,h4⟩,harr⟩
   | outgrown=>exact h4.elim
 obtain ⟨e,a1,w1,hq,harr⟩:=first M w a hr hfr b (.inScope c::k) cs
 obtain ⟨E',σ',M',h1,h2,h3,h4⟩:=hq
 cases e with
 | normal=>exact ⟨.normal,a1,w1,⟨E',σ',M',h1,h2,h3,h4⟩,.head step_scope (Steps.trans harr (.one step_inScope))⟩
 | exit id=>exact ⟨.exit id,a1,w1,⟨E',σ',M',h1,h2,h3,h4⟩,fun k' hk=>.head step_scope (harr k' (by simp [exitTo,hk]))⟩
 | goto l' =>
  obtain ⟨rfl,m,hJ⟩:=h4
  obtain ⟨e₂,a₂,w₂,hq₂,harr₂⟩:=key m E' σ' M' w1 a1 hJ h1 h2 h3
  exact ⟨e₂,a₂,w₂,hq₂,.of_steps (.head step_scope (harr _ hg)) harr₂⟩
 | ret=>exact ⟨.ret,a1,w1,⟨E',σ',M',h1,h2,h3,h4⟩,.of_steps (.one step_scope) harr⟩
 | panic ch=>exact ⟨.panic ch,a1,w1,⟨E',σ',M',h1,h2,h3,h4⟩,.of_steps (.one step_scope) harr⟩
 | outgrown=>exact h4.elim
inductive Old (n:Nat):CV→Prop where
 | val (v:Value):Old n (.val v)
 | agg {cs:List CV}:(∀ (i:Nat) (c:CV),cs[i]? = some c→Old n c)→Old n (.agg cs)
 | tup {cs:List CV}:(∀ (i:Nat) (c:CV),cs[i]? = some c→Old n c)→Old n (.tup cs)
 | clo {f:FuncId} {cs:List CV}:(∀ (i:Nat) (c:CV),cs[i]? = some c→Old n c)→Old n (.clo f cs)
 | list {rows:List (List CV)} {nn:Bool} {tok:Option Nat}:(∀ (i j:Nat) (r:List CV) (c:CV),rows[i]? = some r→r[j]? = some c→Old n c)→(∀ k,tok=some k→k < n)→Old n (.list rows nn tok)
 | ptr {k off:Nat}:k < n→Old n (.ptr k off)
 | cptr {cells:List CV}:(∀ (j:Nat) (c:CV),cells[j]? = some c→Old n c)→Old n (.cptr cells)
 | eptr {k i off:Nat}:k < n→Old n (.eptr k i off)
 | vec {k off len:Nat}:k < n→Old n (.vec k off len)
 | map {k:Nat}:k < n→Old n (.map k)
theorem RV.old {M:l3} {w:World} {c:CV} {v:Value} (h:RV M w c v):Old M.pl.length c:=by
 induction h with
 | val v=>exact .val v
 | agg _ _ _ ih=>exact .agg ih
 | tup _ _ ih=>exact .tup ih
 | clo _ _ ih=>exact .clo ih
 | list vals _ _ _ _ _ _ _ _ _ htok ih =>
  exact .list ih fun k hk=>(by
   obtain ⟨s',hp,_⟩:=htok k hk
   exact (List.getElem?_eq_some_iff.1 hp).1)
 | ptr hk=>exact .ptr (List.getElem?_eq_some_iff.1 hk).1
 | cptr _ _ _ _ ih=>exact .cptr ih
 | eptr hk=>exact .eptr (List.getElem?_eq_some_iff.1 hk).1
 | vec hk=>exact .vec (List.getElem?_eq_some_iff.1 hk).1
 | map hk=>exact .map (List.getElem?_eq_some_iff.1 hk).1
structure Cut (n:Nat) (M M':l3):Prop where
 pl:M'.pl=M.pl.take n
 full:∀ b,M.full b→M'.full b
 cell:∀ b o,M.cell b o→M'.at b o
theorem Cut.at {n:Nat} {M M':l3} (h:Cut n M M') {b o:Nat} (ha:M.at b o):M'.at b o:=by
 rcases ha with ha | ha
 ·exact .inl (h.full _ ha)
 ·exact h.cell _ _ ha
theorem Cut.get {n:Nat} {M M':l3} (h:Cut n M M') {k:Nat} {p:Pl} (hk:k < n) (hp:M.pl[k]? = some p):M'.pl[k]? = some p:=by
 rw [h.pl,List.getElem?_take,if_pos hk]; exact hp
theorem RV.cut {n:Nat} {M M':l3} (hc:Cut n M M') {w:World} {c:CV} {v:Value} (h:RV M w c v) (ho:Old n c):RV M' w c v:=by
 induction h with
 | val v=>exact .val v
 | agg h1 h2 _ ih=>cases ho with | agg ho=>exact .agg h1 h2 fun i c hi=>ih i c hi (ho i c hi)
 | tup h1 _ ih=>cases ho with | tup ho=>exact .tup h1 fun i c hi=>ih i c hi (ho i c hi)
 | clo h1 _ ih=>cases ho with | clo ho=>exact .clo h1 fun i c hi=>ih i c hi (ho i c hi)
 | list vals h1 h2 h3 h4 h5 h6 h7 h8 _ h10 ih =>
  cases ho with
  | list ho ht =>
   exact .list vals h1 h2 h3 h4 h5 h6 h7 (fun i j r c hi hj=>⟨hc.at (h8 i j r c hi hj).1,(h8 i j r c hi hj).2⟩) (fun i j r c hi hj=>ih i j r c hi hj (ho i j r c hi hj)) fun k hk=>by
    obtain ⟨s',hp,hrest⟩:=h10 k hk
    exact ⟨s',hc.get (ht k hk) hp,hrest⟩
 | ptr hk=>cases ho with | ptr ho=>exact .ptr (hc.get ho hk)
 | cptr vals h1 h2 _ ih=>cases ho with | cptr ho=>exact .cptr vals h1 (fun j c hj=>⟨hc.at (h2 j c hj).1,(h2 j c hj).2⟩) fun j c hj=>ih j c hj (ho j c hj)
 | eptr hk=>cases ho with | eptr ho=>exact .eptr (hc.get ho hk)
 | vec hk h1 h2 h3=>cases ho with | vec ho=>exact .vec (hc.get ho hk) h1 h2 h3
 | map hk=>cases ho with | map ho=>exact .map (hc.get ho hk)
inductive Cls (n:Nat) (σ:List c5):CV→CV→Prop where
 | old {c:CV}:Old n c→Cls n σ c c
 | agg {cs cs':List CV}:cs.length=cs'.length→(∀ (i:Nat) (c c':CV),cs[i]? = some c→cs'[i]? = some c'→Cls n σ c c')→Cls n σ (.agg cs) (.agg cs')
 | tup {cs cs':List CV}:cs.length=cs'.length→(∀ (i:Nat) (c c':CV),cs[i]? = some c→cs'[i]? = some c'→Cls n σ c c')→Cls n σ (.tup cs) (.tup cs')
 | clo {f:FuncId} {cs cs':List CV}:cs.length=cs'.length→(∀ (i:Nat) (c c':CV),cs[i]? = some c→cs'[i]? = some c'→Cls n σ c c')→Cls n σ (.clo f cs) (.clo f cs')
 | list {rows rows':List (List CV)} {nn:Bool} {tok:Option Nat}:rows.length=rows'.length→(∀ (i:Nat) (r r':List CV),rows[i]? = some r→rows'[i]? = some r'→r.length=r'.length) →
  (∀ (i j:Nat) (r r':List CV) (c c':CV),rows[i]? = some r→rows'[i]? = some r'→r[j]? = some c→r'[j]? = some c'→Cls n σ c c')→Cls n σ (.list rows nn tok) (.list rows' nn none)
 | vec {k off len s:Nat} {rows rows':List (List CV)}:n≤k→σ[k]? = some (.vec s rows)→off+len≤rows.length→((rows.drop off).take len).length=rows'.length→(∀ (i:Nat) (r r':List CV),((rows.drop off).take len)[i]? = some r→rows'[i]? = some r'→r.length=r'.length) →
  (∀ (i j:Nat) (r r':List CV) (c c':CV),((rows.drop off).take len)[i]? = some r→rows'[i]? = some r'→r[j]? = some c→r'[j]? = some c'→Cls n σ c c')→Cls n σ (.vec k off len) (.list rows' true none)
theorem Cls.one {n:Nat} {σ:List c5} {c c':CV} (h:Cls n σ c c') (ho:c.one=true):c'.one=true:=by
 cases h <;> first|exact ho|rfl|(simp [CV.one] at ho)
theorem o0 {α β:Type} {l:List α} {l':List β} (h:l.length=l'.length) {i:Nat} {x:β} (hx:l'[i]? = some x):∃ y,l[i]? = some y:=by
 have:=(List.getElem?_eq_some_iff.1 hx).1
 exact ⟨l[i],by simp [h,this]⟩
theorem RV.close {C:Ctx} {n:Nat} {M M':l3} {σ:List c5} {w:World} (hr:Rel C M σ w) (hc:Cut n M M') (hfull:∀ (k:Nat) (p:Pl) (s:Nat) (rows:List (List CV)),n≤k→M.pl[k]? = some p→σ[k]? = some (.vec s rows)→M'.full p.block) {c c':CV} {v:Value} (h:Cls n σ c c') (hv:RV M w c v):RV M' w c' v:=by
 induction h generalizing v with
 | old ho=>exact hv.cut hc ho
 | agg hl hcls ih =>
  cases hv with
  | agg h1 h2 h3 =>
   refine .agg (by omega) (fun c hcm=>?_) (fun i c' hi=>?_)
   ·obtain ⟨i,hi⟩:=List.mem_iff_getElem?.1 hcm
    obtain ⟨y,hy⟩:=o0 hl hi
    exact (hcls i y c hy hi).one (h2 y (List.mem_of_getElem? hy))
   ·obtain ⟨y,hy⟩:=o0 hl hi
    exact ih i y c' hy hi (h3 i y hy)
 | tup hl _ ih =>
  cases hv with
  | tup h1 h3 =>
   refine .tup (by omega) (fun i c' hi=>?_)
   obtain ⟨y,hy⟩:=o0 hl hi
   exact ih i y c' hy hi (h3 i y hy)
 | clo hl _ ih =>
  cases hv with
  | clo h1 h3 =>
   refine .clo (by omega) (fun i c' hi=>?_)
   obtain ⟨y,hy⟩:=o0 hl hi
   exact ih i y c' hy hi (h3 i y hy)
 | list hl hlr hcls ih =>
  obtain ⟨a,cap,b,off,s,vals,rfl,h1,h2,h3,h4,h5,h6,h7,h8,h9,_⟩:=hv.list_inv
  rename_i rows rows' nn tok
  refine RV.list' hl (b:=b) (off:=off) (s:=s) vals (by omega) h2 h3 h4 (fun hne=>h5 fun e=>hne (List.eq_nil_of_length_eq_zero (by rw [← hl,e]; rfl))) (fun r' hr'=>?_) (fun r' hr' c' hc'=>?_) (fun i j r' c' hi hj=>?_) (fun i j r' c' hi hj=>?_) (fun k hk=>by cases hk)
  ·obtain ⟨i,hi⟩:=List.mem_iff_getElem?.1 hr'
   obtain ⟨r,hr0⟩:=o0 hl hi
   rw [← hlr i r r' hr0 hi]
   exact h6 r (List.mem_of_getElem? hr0)
  ·obtain ⟨i,hi⟩:=List.mem_iff_getElem?.1 hr'
   obtain ⟨r,hr0⟩:=o0 hl hi
   obtain ⟨j,hj⟩:=List.mem_iff_getElem?.1 hc'
   obtain ⟨c,hc0⟩:=o0 (hlr i r r' hr0 hi) hj
   exact (hcls i j r r' c c' hr0 hi hc0 hj).one (h7 r (List.mem_of_getElem? hr0) c (List.mem_of_getElem? hc0))
  ·obtain ⟨r,hr0⟩:=o0 hl hi
   obtain ⟨c,hc0⟩:=o0 (hlr i r r' hr0 hi) hj
   exact ⟨hc.at (h8 i j r c hr0 hc0).1,(h8 i j r c hr0 hc0).2⟩
  ·obtain ⟨r,hr0⟩:=o0 hl hi
   obtain ⟨c,hc0⟩:=o0 (hlr i r r' hr0 hi) hj
   exact ih i j r r' c c' hr0 hi hc0 hj (h9 i j r c hr0 hc0)
 | vec hk hσ hle hl hlr hcls ih =>
  cases hv with
  | vec hp g1 g2 g3 =>
   rename_i k off len s rows rows' p a
   have hfp:=hfull k p s rows hk hp hσ
   obtain ⟨⟨hps,q1,q2,q3,q4,arr,ty,q5,q6,q7⟩,_⟩:=hr.obj k p _ hp hσ
   have hlen:((rows.drop off).take len).length=len:=by simp; omega
   have hget:∀ i r,((rows.drop off).take len)[i]? = some r→i < len∧rows[off+i]? = some r:=fun i r hi=>by
    rw [List.getElem?_take] at hi
    split at hi
    ·rw [List.getElem?_drop] at hi; exact ⟨‹_›,hi⟩
    ·cases hi
   have hoff:rows'≠[]→off < p.cap:=fun hne=>by
    have:0 < rows'.length:=List.length_pos_iff.2 hne
    omega
   refine RV.list' (L:=len) (by omega) (b:=p.block) (off:=off*p.size) (s:=p.size) (fun i j=>arr.getD ((off+i)*p.size+j) undef) (by omega) (by omega) rfl (fun h=>by cases h) (fun hne=>by rw [g3 (hoff hne)]) (fun r' hr'=>?_) (fun r' hr' c' hc'=>?_) (fun i j r' c' hi hj=>?_) (fun i j r' c' hi hj=>?_) (fun k hk=>by cases hk)
   ·obtain ⟨i,hi⟩:=List.mem_iff_getElem?.1 hr'
    obtain ⟨r,hr0⟩:=o0 hl hi
    rw [← hlr i r r' hr0 hi]
    exact q3 r (List.mem_of_getElem? (hget i r hr0).2)
   ·obtain ⟨i,hi⟩:=List.mem_iff_getElem?.1 hr'
    obtain ⟨r,hr0⟩:=o0 hl hi
    obtain ⟨j,hj⟩:=List.mem_iff_getElem?.1 hc'
    obtain ⟨c,hc0⟩:=o0 (hlr i r r' hr0 hi) hj
    exact (hcls i j r r' c c' hr0 hi hc0 hj).one (q4 r (List.mem_of_getElem? (hget i r hr0).2) c (List.mem_of_getElem? hc0))
   ·obtain ⟨r,hr0⟩:=o0 hl hi
    obtain ⟨c,hc0⟩:=o0 (hlr i r r' hr0 hi) hj
    obtain ⟨hil,hri⟩:=hget i r hr0
    have hjl:j < p.size:=by have:=(List.getElem?_eq_some_iff.1 hc0).1; rwa [q3 r (List.mem_of_getElem? hri)] at this
    have hq:(off+i)*p.size+j < arr.size:=by
     rw [q6]
     have:(off+i+1)*p.size≤p.cap*p.size:=Nat.mul_le_mul_right _ (by omega)
     rw [Nat.add_mul (off+i)] at this; omega
    refine ⟨.inl hfp,?_⟩
    rw [show off*p.size+i*p.size+j=(off+i)*p.size+j from by rw [Nat.add_mul off]]
    simp [World.cell?,q5,hq]
   ·obtain ⟨r,hr0⟩:=o0 hl hi
    obtain ⟨c,hc0⟩:=o0 (hlr i r r' hr0 hi) hj
    exact ih i j r r' c c' hr0 hi hc0 hj (q7 _ _ _ _ (hget i r hr0).2 hc0)
def l3.cutAt (M:l3) (n:Nat) (σ:List c5):l3 :=
 { pl:=M.pl.take n,full:=fun b=>M.full b∨∃ k p ob,n≤k∧M.pl[k]? = some p∧σ[k]? = some ob∧ob.live=true∧p.block=b,cell:=M.cell,keep:=M.keep}
theorem Rel.cut {C:Ctx} {M0 M:l3} {σ extra:List c5} {w0 w:World} (h0:Rel C M0 σ w0) (hx:Ext M0 w0 M w) (hr:Rel C M (σ++extra) w) :
 Rel C (M.cutAt σ.length (σ++extra)) σ w∧Cut σ.length M (M.cutAt σ.length (σ++extra))∧Ext M0 w0 (M.cutAt σ.length (σ++extra)) w:=by
 have hcut:Cut σ.length M (M.cutAt σ.length (σ++extra)):=⟨rfl,fun _ h=>.inl h,fun _ _ h=>.inr h⟩
 obtain ⟨l,hl⟩:=hx.pl
 have hpl:(M.cutAt σ.length (σ++extra)).pl=M0.pl:=by
  show M.pl.take σ.length=M0.pl
  rw [hl,← h0.len,List.take_left]
 have hx':Ext M0 w0 (M.cutAt σ.length (σ++extra)) w:=⟨⟨[],by rw [hpl]; simp⟩,fun b h=>.inl (hx.full b h),fun b o h=>hcut.at (hx.cell b o h),hx.same,hx.sameC,hx.size,hx.drew,hx.os,hx.tape,hx.output,fun b hb=>(by
  obtain ⟨k1,k2,k3,k4⟩:=hx.kept b hb
  refine ⟨k1,k2,fun f=>?_,k4⟩
  rcases f with f | ⟨k,p,ob,_,hp,hs,hlv,rfl⟩
  ·exact k3 f
  ·exact absurd k1 (hr.nk k p ob hp hs hlv))⟩
 have hget:∀ {k:Nat} {p:Pl},(M.cutAt σ.length (σ++extra)).pl[k]? = some p→k < σ.length∧M.pl[k]? = some p∧M0.pl[k]? = some p:=by
  intro k p hk
  have h1:M0.pl[k]? = some p:=by rw [← hpl]; exact hk
  have hlt:k < σ.length:=by rw [← h0.len]; exact (List.getElem?_eq_some_iff.1 h1).1
  exact ⟨hlt,hx.get h1,h1⟩
 have hσ:∀ {k:Nat} {ob:c5},σ[k]? = some ob→(σ++extra)[k]? = some ob:=by
  intro k ob h
  rw [List.getElem?_append_left (List.getElem?_eq_some_iff.1 h).1]; exact h
 refine ⟨⟨by rw [hpl,h0.len],fun b o ha=>?_,fun k p ob hk hs=>?_,fun k k' p p' ob ob' hk hk' hs hs' hl1 hl2 hb=>hr.inj k k' p p' ob ob' (hget hk).2.1 (hget hk').2.1 (hσ hs) (hσ hs') hl1 hl2 hb,fun g cells hg=>(h0.glob g cells hg).mono hx',hr.kep,fun k p ob hk hs hlv=>hr.nk k p ob (hget hk).2.1 (hσ hs) hlv⟩,hcut,hx'⟩
 ·rcases ha with (ha | ⟨k,p,ob,_,hp,hs,hl,rfl⟩) | ha
  ·exact hr.blk b o (.inl ha)
  ·exact (hr.obj k p ob hp hs).1.lt hl
  ·exact hr.blk b o (.inr ha)
 ·obtain ⟨hlt,hp,hp0⟩:=hget hk
  obtain ⟨h1,h2⟩:=hr.obj k p ob hp (hσ hs)
  have hobj0:=(h0.obj k p ob hp0 hs).1
  have hnf:ob.live=true→¬ M.full p.block→¬ (M.cutAt σ.length (σ++extra)).full p.block:=fun hlv hnf h=>by
   rcases h with h | ⟨k',p',ob',hk',hp',hs',hl',hb⟩
   ·exact hnf h
   ·have:=hr.inj k' k p' p ob' ob hp' hp hs' (hσ hs) hl' hlv hb
    omega
  have old:∀ {c:CV} {v v':Value},RV M0 w0 c v'→RV M w c v→RV (M.cutAt σ.length (σ++extra)) w c v:=fun h h'=>h'.cut hcut (by rw [← h0.len]; exact h.old)
  refine ⟨?_,?_⟩
  ·cases ob with
   | dead=>trivial
   | boxT t0 cells =>
    obtain ⟨arr,ty,e1,e2,e3,e4⟩:=h1
    obtain ⟨arr0,ty0,f1,f2,f3,f4⟩:=hobj0
    exact ⟨arr,ty,e1,e2,e3,fun i c hi=>old (f4 i c hi) (e4 i c hi)⟩
   | tipT t0 m=>exact h1
   | vec s rows =>
    obtain ⟨e0,e1,e2,e3,e4,arr,ty,e5,e6,e7⟩:=h1
    obtain ⟨f0,f1,f2,f3,f4,arr0,ty0,f5,f6,f7⟩:=hobj0
    exact ⟨e0,e1,e2,e3,e4,arr,ty,e5,e6,fun i j r c hi hj=>old (f7 i j r c hi hj) (e7 i j r c hi hj)⟩
   | map es =>
    obtain ⟨ents,clock,e1,e2,e3⟩:=h1
    obtain ⟨ents0,clock0,f1,f2,f3⟩:=hobj0
    refine ⟨ents,clock,e1,e2,fun i x hi=>?_⟩
    obtain ⟨e,g1,g2,g3,g4⟩:=e3 i x hi
    obtain ⟨e',g1',g2',g3',g4'⟩:=f3 i x hi
    exact ⟨e,g1,old g2' g2,old g3' g3,g4⟩
   | iter cur left =>
    obtain ⟨mb,seen,last,ents,clock,e1,e2,e3,e4,e5,e6,e7,e8,e9⟩:=h1
    obtain ⟨mb0,seen0,last0,ents0,clock0,f1,f2,f3,f4,f5,f6,f7,f8,f9⟩:=hobj0
    refine ⟨mb,seen,last,ents,clock,e1,hcut.full _ e2,e3,e4,e5,e6,e7,fun i x hi=>?_,fun i x hi=>?_⟩
    ·obtain ⟨e,g1,g2,g3⟩:=e8 i x hi
     obtain ⟨e',g1',g2',g3'⟩:=f8 i x hi
     exact ⟨e,g1,old g2' g2,old g3' g3⟩
    ·obtain ⟨hl,j,e,g0,g1,g2,g3⟩:=e9 i x hi
     obtain ⟨_,j',e',_,_,g2',g3'⟩:=f9 i x hi
     exact ⟨hl,j,e,g0,g1,old g2' g2,old g3' g3⟩
  ·cases ob with
   | dead=>trivial
   | tipT t0 m=>exact hnf rfl h2
   | _=>exact ⟨hnf rfl h2.1,h2.2⟩
theorem a0C {C:Ctx} {f:FuncId} {args:List CV} {σ:List c5} {K:CV→Prop} (h:b8 C f args σ fun r σ'=>∃ extra c c',σ'=σ++extra∧r = .ret c∧Cls σ.length σ' c c'∧K c'):b8 C f args σ fun r σ'=>(∃ c,r = .ret c∧K c)∧σ'=σ :=
 fun M w vs hr hn hx=>(h M w vs hr hn hx).mono fun e w' he=>by
  cases e with
  | returned v =>
   obtain ⟨c,σ',M',h1,h2,h3,extra,c0,c',rfl,h5,h6,h7⟩:=he
   injection h5 with h5
   subst h5
   obtain ⟨g1,g2,g3⟩:=hr.cut h1 h2
   exact ⟨c',σ,_,g3,g1,RV.close h2 g2 (fun k p s rows hk hp hs=>.inr ⟨k,p,_,hk,hp,hs,rfl,rfl⟩) h6 h3,⟨c',rfl,h7⟩,rfl⟩
  | panicked ch =>
   obtain ⟨c,v,σ',M',h0,h1,h2,h3,extra,c0,c',h4,h5,_⟩:=he
   cases h5
  | outgrown=>exact he
theorem j4 {C:Ctx} {f:FuncId} {args:List CV} {σ:List c5} {c0:CV} (h:b8 C f args σ fun r σ'=>∃ extra c,σ'=σ++extra∧r = .ret c∧Cls σ.length σ' c c0):b8 C f args σ fun r σ'=>r = .ret c0∧σ'=σ :=
 (a0C (K:=fun c=>c=c0) (h.mono fun _ _ ⟨extra,c,h1,h2,h3⟩=>⟨extra,c,c0,h1,h2,h3,rfl⟩)).mono fun _ _ ⟨⟨_,h1,h2⟩,h3⟩=>⟨h2 ▸ h1,h3⟩
inductive p5:CV→Prop where
 | val (v:Value):p5 (.val v)
 | agg {cs:List CV}:(∀ c∈cs,p5 c)→p5 (.agg cs)
 | tup {cs:List CV}:(∀ c∈cs,p5 c)→p5 (.tup cs)
 | clo {f:FuncId} {cs:List CV}:(∀ c∈cs,p5 c)→p5 (.clo f cs)
 | list {rows:List (List CV)} {nn:Bool}:(∀ r∈rows,∀ c∈r,p5 c)→p5 (.list rows nn none)
theorem p5.old {n:Nat} {c:CV} (h:p5 c):Old n c:=by
 induction h with
 | val v=>exact .val v
 | agg _ ih=>exact .agg fun i c hi=>ih c (List.mem_of_getElem? hi)
 | tup _ ih=>exact .tup fun i c hi=>ih c (List.mem_of_getElem? hi)
 | clo _ ih=>exact .clo fun i c hi=>ih c (List.mem_of_getElem? hi)
 | list _ ih=>exact .list (fun i j r c hi hj=>ih r (List.mem_of_getElem? hi) c (List.mem_of_getElem? hj)) (fun k hk=>by cases hk)
theorem Cls.pure {n:Nat} {σ:List c5} {c:CV} (h:p5 c):Cls n σ c c:=.old h.old
theorem Cls.tok {n:Nat} {σ:List c5} {rows:List (List CV)} {nn:Bool} {tok:Option Nat} (h:∀ r∈rows,∀ c∈r,p5 c):Cls n σ (.list rows nn tok) (.list rows nn none) :=
 .list rfl (fun i r r' h1 h2=>by rw [h1] at h2; injection h2 with h2; rw [h2]) fun i j r r' c c' h1 h2 h3 h4=>by
  rw [h1] at h2
  injection h2 with h2
  subst h2
  rw [h3] at h4
  injection h4 with h4
  subst h4
  exact .pure (h r (List.mem_of_getElem? h1) c (List.mem_of_getElem? h3))
theorem Cls.vecs {n k off len s:Nat} {σ:List c5} {rows rows':List (List CV)} (hk:n≤k) (hσ:σ[k]? = some (.vec s rows)) (hl:off+len≤rows.length) (he:(rows.drop off).take len=rows') (h:∀ r∈rows',∀ c∈r,p5 c):Cls n σ (.vec k off len) (.list rows' true none):=by
 subst he
 exact .vec hk hσ hl rfl (fun i r r' h1 h2=>by rw [h1] at h2; injection h2 with h2; rw [h2]) fun i j r r' c c' h1 h2 h3 h4=>by
  rw [h1] at h2
  injection h2 with h2
  subst h2
  rw [h3] at h4
  injection h4 with h4
  subst h4
  exact .pure (h r (List.mem_of_getElem? h1) c (List.mem_of_getElem? h3))
def a3h (n:Nat) (σ:List c5):List CV→List CV→Prop
 | [],[]=>True
 | c::cs,c'::cs'=>Cls n σ c c'∧a3h n σ cs cs'
 | _,_=>False
theorem a3h.get {n:Nat} {σ:List c5}:∀ {cs cs':List CV},a3h n σ cs cs'→cs.length=cs'.length∧∀ (i:Nat) (c c':CV),cs[i]? = some c→cs'[i]? = some c'→Cls n σ c c'
 | [],[],_=>⟨rfl,by simp⟩
 | c::cs,c'::cs',⟨h1,h2⟩=>by
  obtain ⟨h3,h4⟩:=a3h.get h2
  refine ⟨by simp [h3],fun i x x' hx hx'=>?_⟩
  rcases i with _ | i
  ·simp at hx hx'; subst hx hx'; exact h1
  ·exact h4 i x x' (by simpa using hx) (by simpa using hx')
theorem Cls.tups {n:Nat} {σ:List c5} {cs cs':List CV} (h:a3h n σ cs cs'):Cls n σ (.tup cs) (.tup cs'):=.tup h.get.1 h.get.2
section
variable {C:Ctx} {σ:List c5} {E:Env} {o:Oper}
def plain (l:List Value):CV:=.agg (l.map .val)
theorem Z3 {M:l3} {w:World} {l:List Value} {u:Value} (h:RV M w (plain l) u):u = .agg l.toArray:=by
 cases h with
 | agg h1 h2 h3 =>
  rename_i vs
  congr 1
  apply Array.ext_getElem?
  intro i
  rcases Nat.lt_or_ge i l.length with hi | hi
  ·have hl:(l.map CV.val)[i]? = some (.val l[i]):=by simp [hi]
   have:=n8 (h3 i _ hl)
   have hv:i < vs.size:=by rw [h1]; simpa using hi
   simp only [Array.getD_eq_getD_getElem?,Array.getElem?_eq_getElem hv,Option.getD_some] at this
   rw [Array.getElem?_eq_getElem hv,this]
   simp [hi]
  ·have hv:vs.size≤i:=by rw [h1]; simpa using hi
   rw [Array.getElem?_eq_none hv]
   simp [hi]
theorem a9d {t t':TypeId} {x y:Operand} {xs ys:List Value} {r:Bool} (ho:o.op = .binOp .eql t x y t') (hx:E.valid x) (hy:E.valid y) (ex:E.val C x=plain xs) (ey:E.val C y=plain ys)
 (hg:C.P.eqGuardType C.P.depth t=false) (he:∀ w,(Op.equal t (.agg xs.toArray) (.agg ys.toArray)).run C.P w = .ok r w):m6 C σ E o (.val (.bool r)) :=
 j7 fun M w ρ _ h=>by
  have h1:=h x (by simp [ho,Op.operands]) hx
  have h2:=h y (by simp [ho,Op.operands]) hy
  rw [ex] at h1
  rw [ey] at h2
  exact ⟨.bool r,by simp [execOp,ho,Z3 h1,Z3 h2,eqGuard,hg,binOp,he],.val _⟩
theorem b7V {t t':TypeId} {x y:Operand} {xs ys:List Value} {r:Bool} (ho:o.op = .binOp .neq t x y t') (hx:E.valid x) (hy:E.valid y) (ex:E.val C x=plain xs) (ey:E.val C y=plain ys)
 (hg:C.P.eqGuardType C.P.depth t=false) (he:∀ w,(Op.equal t (.agg xs.toArray) (.agg ys.toArray)).run C.P w = .ok r w):m6 C σ E o (.val (.bool (!r))) :=
 j7 fun M w ρ _ h=>by
  have h1:=h x (by simp [ho,Op.operands]) hx
  have h2:=h y (by simp [ho,Op.operands]) hy
  rw [ex] at h1
  rw [ey] at h2
  exact ⟨.bool (!r),by simp [execOp,ho,Z3 h1,Z3 h2,eqGuard,hg,binOp,he],.val _⟩
theorem D9 {P:Program} {w:World} {r:Nat} {ents:Array MapEntry} {clock:Nat} (h:w.heap[r]? = some (.map ents clock)):(getObj r).run P w = .ok (.map ents clock) w:=by
 simp [getObj,Sem.run,h]
theorem N8 {t:TypeId} {K:v7→List c5→Prop} (ho:o.op = .makeMap t none) (hk:K (.ret (.map σ.length)) (σ++[.map []])):C2 C σ E o K:=fun M w ρ hr _=>by
 have hrun:(execOp ρ o).run C.P w = .ok (.value (.map (some w.heap.size))) (w.alloc (.map #[] 0)):=by
  simp [execOp,ho,Instr.makeMap]
 rw [hrun]
 have hx:=Ext.alloc hr ⟨w.heap.size,0,0⟩ (.map #[] 0)
 exact ⟨.map σ.length,_,_,hx,hr.alloc ⟨w.heap.size,0,0⟩ _ (.map []) rfl ⟨#[],0,s9 _ _,⟨rfl,fun i j e e' h=>by simp at h⟩,by simp⟩,RV.map (p:=⟨w.heap.size,0,0⟩) (by simp [l3.add,← hr.len]),hk⟩
theorem Rel.setObj {M:l3} {w:World} (hr:Rel C M σ w) {q:Nat} {p:Pl} {es es':List (CV × CV)} {ents':Array MapEntry} {clock':Nat} (hp:M.pl[q]? = some p) (hσ:σ[q]? = some (.map es)) (hsz:ents'.size=es'.length) (hag:a4l ents') (h:∀ (i:Nat) (x:CV × CV),es'[i]? = some x→∃ e,ents'[i]? = some e∧RV M w x.1 e.key∧RV M w x.2 e.val∧e.born < clock') :
 Ext M w M (World.putObj w p.block (.map ents' clock'))∧Rel C M (σ.set q (.map es')) (World.putObj w p.block (.map ents' clock')):=by
 obtain ⟨h1,hf,hc⟩:=hr.obj q p _ hp hσ
 have hlt:=h1.lt rfl
 have hx:=Ext.putObj (w:=w) (.map ents' clock') (hr.nk q p _ hp hσ rfl) hf hc
 refine ⟨hx,hr.putObj hp hσ rfl hf hc _ ⟨ents',clock',World.putObj_same w _ hlt,⟨hsz,hag⟩,fun i x hi=>?_⟩⟩
 obtain ⟨e,g1,g2,g3,g4⟩:=h i x hi
 exact ⟨e,g1,g2.mono hx,g3.mono hx,g4⟩
theorem a4l.push {ents:Array MapEntry} {clock:Nat} (h:a4l ents) (hb:∀ (i:Nat) (e:MapEntry),ents[i]? = some e→e.born < clock) {e0:MapEntry} (h0:e0.born=clock):a4l (ents.push e0):=fun i j e e' hi hj he=>by
 rw [Array.getElem?_push] at hi hj
 split at hi <;> split at hj
 ·omega
 ·injection hi with hi
  have:=hb j e' hj
  rw [← hi,h0] at he
  omega
 ·injection hj with hj
  have:=hb i e hi
  rw [← hj,h0] at he
  omega
 ·exact h i j e e' hi hj he
theorem a4l.modify {ents:Array MapEntry} (h:a4l ents) {k:Nat} {f:MapEntry→MapEntry} (hf:∀ e,(f e).born=e.born):a4l (ents.modify k f):=fun i j e e' hi hj he=>by
 have key:∀ {i:Nat} {e:MapEntry},(ents.modify k f)[i]? = some e→∃ e1,ents[i]? = some e1∧e1.born=e.born:=fun {i e} hi=>by
  rw [Array.getElem?_modify] at hi
  split at hi
  ·obtain ⟨e1,h1,rfl⟩:=Option.map_eq_some_iff.1 hi
   exact ⟨e1,h1,(hf e1).symm⟩
  ·exact ⟨e,hi,rfl⟩
 obtain ⟨e1,h1,b1⟩:=key hi
 obtain ⟨e2,h2,b2⟩:=key hj
 exact h i j e1 e2 h1 h2 (by rw [b1,b2]; exact he)
theorem a06 {P:Program} {w:World} {r:Nat} {ents:Array MapEntry} {clock:Nat} (o':Obj) (h:w.heap[r]? = some (.map ents clock)):(setObj r o').run P w = .ok () (World.putObj w r o'):=by
 simp [setObj,Sem.run,h,World.putObj]
end
end Go.Cl
namespace Go.Cl
theorem RV.pure {M M':l3} {w w':World} (h:∀ b o,M.at b o→M'.at b o∧w'.cell? ⟨b,o,none⟩=w.cell? ⟨b,o,none⟩) {c:CV} {v:Value} (hr:RV M w c v) (hp:p5 c):RV M' w' c v:=by
 induction hr with
 | val v=>exact .val v
 | agg h1 h2 _ ih=>cases hp with | agg hp=>exact .agg h1 h2 fun i c hi=>ih i c hi (hp c (List.mem_of_getElem? hi))
 | tup h1 _ ih=>cases hp with | tup hp=>exact .tup h1 fun i c hi=>ih i c hi (hp c (List.mem_of_getElem? hi))
 | clo h1 _ ih=>cases hp with | clo hp=>exact .clo h1 fun i c hi=>ih i c hi (hp c (List.mem_of_getElem? hi))
 | list vals h1 h2 h3 h4 h5 h6 h7 h8 _ h10 ih =>
  cases hp with
  | list hp=>exact .list vals h1 h2 h3 h4 h5 h6 h7 (fun i j r c hi hj=>⟨(h _ _ (h8 i j r c hi hj).1).1,(h _ _ (h8 i j r c hi hj).1).2.trans (h8 i j r c hi hj).2⟩) (fun i j r c hi hj=>ih i j r c hi hj (hp r (List.mem_of_getElem? hi) c (List.mem_of_getElem? hj))) fun k hk=>by cases hk
 | ptr _=>cases hp
 | cptr _ _ _ _ _=>cases hp
 | eptr _=>cases hp
 | vec _ _ _ _=>cases hp
 | map _=>cases hp
theorem a5B {C:Ctx} {f:FuncId} {args:List CV} {K:CV→Prop} (hargs:∀ a∈args,p5 a) (hc:∀ c,K c→p5 c) (hglob:∀ g cells,C.glob g=some cells→∀ c∈cells,p5 c) (h:b8 C f args [] fun r σ'=>(∃ c,r = .ret c∧K c)∧σ'=[]) (σ:List c5):b8 C f args σ fun r σ'=>(∃ c,r = .ret c∧K c)∧σ'=σ :=
 fun M w vs hr hn hx=>by
  let LB:Nat→Prop:=fun b=>∃ (k:Nat) (p:Pl) (ob:c5),M.pl[k]? = some p∧σ[k]? = some ob∧ob.live=true∧p.block=b
  let M0:l3:={ pl:=[],full:=M.full,cell:=M.cell,keep:=fun b=>M.keep b∨LB b}
  have hat:∀ b o,M.at b o→M0.at b o∧w.cell? ⟨b,o,none⟩=w.cell? ⟨b,o,none⟩:=fun b o h=>⟨h,rfl⟩
  have hLB:∀ b,LB b→b < w.heap.size:=fun b ⟨k,p,ob,hp,hs,hl,hb⟩=>hb ▸ (hr.obj k p ob hp hs).1.lt hl
  have hr0:Rel C M0 [] w:=⟨rfl,hr.blk,fun k p ob hp=>by simp [M0] at hp,fun k k' p p' ob ob' hp=>by simp [M0] at hp,fun g cells hg=>⟨by
   have:=(hr.glob g cells hg).rv
   cases this with
   | cptr vals h1 h2 h3=>exact .cptr vals h1 h2 fun j c hj=>(h3 j c hj).pure hat (hglob g cells hg c (List.mem_of_getElem? hj)),(hr.glob g cells hg).full,(hr.glob g cells hg).sz⟩,
   fun b hb=>(by
    rcases hb with hb | hb
    ·exact hr.kep b hb
    ·exact hLB b hb),fun k p ob hp=>by simp [M0] at hp⟩
  refine (h M0 w vs hr0 hn fun i a hi=>(hx i a hi).pure hat (hargs a (List.mem_of_getElem? hi))).mono fun e w' he=>?_
  cases e with
  | panicked ch =>
   obtain ⟨c',v,σ',M',_,_,_,_,⟨⟨c0,h5,_⟩,_⟩⟩:=he
   cases h5
  | outgrown=>exact he
  | returned v =>
   obtain ⟨c',σ',M',h1,h2,h3,⟨⟨c0,h4,hK⟩,rfl⟩⟩:=he
   injection h4 with h4
   subst h4
   let M2:l3:={ pl:=M.pl,full:=M'.full,cell:=M'.cell,keep:=M.keep}
   have hx2:Ext M w M2 w':=⟨⟨[],by simp [M2]⟩,h1.full,h1.cell,h1.same,h1.sameC,h1.size,h1.drew,h1.os,h1.tape,h1.output,fun b hb=>by
    obtain ⟨k1,k2,k3,k4⟩:=h1.kept b (.inl hb)
    exact ⟨hb,k2,k3,k4⟩⟩
   refine ⟨c',σ,M2,hx2,⟨hr.len,h2.blk,fun k p ob hp hs=>?_,hr.inj,fun g cells hg=>(hr.glob g cells hg).mono hx2,fun b hb=>Nat.lt_of_lt_of_le (hr.kep b hb) h1.size,hr.nk⟩,h3.pure (M:=M') (M':=M2) (w':=w') (fun b o h=>⟨h,rfl⟩) (hc _ hK),⟨c',rfl,hK⟩,rfl⟩
   by_cases hl:ob.live=true
   ·obtain ⟨k1,k2,k3,k4⟩:=h1.kept p.block (.inr ⟨k,p,ob,hp,hs,hl,rfl⟩)
    obtain ⟨g1,g2⟩:=hr.obj k p ob hp hs
    refine ⟨g1.mono hx2 k2 (fun _ _ _ o ho=>k4 o ho),?_⟩
    cases ob with
    | dead=>trivial
    | tipT t0 n=>exact fun hf=>g2 (k3 hf)
    | _=>exact ⟨fun hf=>g2.1 (k3 hf),fun o ho=>g2.2 o (k4 o ho)⟩
   ·cases ob <;> first|exact ⟨tt,tt⟩ | simp [c5.live] at hl
theorem a7Z {C:Ctx} {f:FuncId} {args:List CV} {c:CV} (hargs:∀ a∈args,p5 a) (hc:p5 c) (hglob:∀ g cells,C.glob g=some cells→∀ c∈cells,p5 c) (h:b8 C f args [] fun r σ'=>r = .ret c∧σ'=[]) (σ:List c5):b8 C f args σ fun r σ'=>r = .ret c∧σ'=σ :=
 (a5B (K:=fun c'=>c'=c) hargs (fun _ h=>h ▸ hc) hglob (h.mono fun _ _ ⟨h1,h2⟩=>⟨⟨c,h1,rfl⟩,h2⟩) σ).mono fun _ _ ⟨⟨_,h1,h2⟩,h3⟩=>⟨h2 ▸ h1,h3⟩
section
variable {C:Ctx} {σ:List c5} {E:Env} {o:Oper}
def b6y:CV→Bool
 | .agg _=>true
 | c=>c.one
theorem a1I {c:CV} (h:b6y c=true):c.one=true∨∃ cs,c = .agg cs:=by
 cases c <;> first|exact .inl h|exact .inr ⟨_,rfl⟩|(simp [b6y,CV.one] at h)
def b4Q (ps:List (Nat × CV)):Bool:=ps.all fun x=>b6y x.2
theorem a6c {ps:List (Nat × CV)} (h:b4Q ps=true):∀ x∈ps,x.2.one=true∨∃ cs,x.2 = .agg cs:=fun x hx=>a1I (List.all_eq_true.1 h x hx)
def a4A (C:Ctx) (E:Env):List (Nat × Operand)→List (Nat × CV)
 | []=>[]
 | (i,x)::l=>(i,E.val C x)::a4A C E l
theorem a3e:∀ (l:List (Nat × Operand)),l.map (fun x=>(x.1,E.val C x.2))=a4A C E l
 | []=>rfl
 | (i,x)::l=>by simp [a4A,a3e l]
def a4f (E:Env):List (Nat × Operand)→Prop
 | []=>True
 | (_,x)::l=>E.valid x∧a4f E l
theorem a09 {E:Env}:∀ {l:List (Nat × Operand)},a4f E l→∀ x∈l,E.valid x.2
 | [],_,x,h=>by simp at h
 | (i,y)::l,⟨h1,h2⟩,x,h=>by
  rcases List.mem_cons.1 h with rfl | h
  ·exact h1
  ·exact a09 h2 x h
theorem v6 {t:TypeId} {parts:Array (Nat × Operand)} {fs:Array Field} (pls:Array (Nat × Nat)) {z:Value} {out:List CV} (ho:o.op = .build t parts) (hv:a4f E parts.toList)
 (hu:∀ w,(underlying t).run C.P w = .ok (.struct fs) w) (hz:∀ w,(zeroValue t).run C.P w = .ok z w) (hz1:E3 z=true) (hz2:∃ cs,C3 z = .agg cs)
 (hpl:∀ w,(fs.mapM fun (f:Field)=>do pure (f.offset,← sizeOf f.type)).run C.P w = .ok pls w)
 (hone:b4Q (a4A C E parts.toList)=true) (hout:a6A pls (C3 z).cells (a4A C E parts.toList)=some out):m6 C σ E o (.agg out) :=
 b6O ho (a09 hv) hu hz hz1 hz2 hpl (a3e _) (a6c hone) hout
theorem y7 {t e:TypeId} {len s:Nat} {parts:Array (Nat × Operand)} {z:Value} (rows:List (List CV)) (ho:o.op = .buildSlice t len parts) (hv:a4f E parts.toList)
 (hu:∀ w,(underlying t).run C.P w = .ok (.slice e) w) (hs:∀ w,(sizeOf e).run C.P w = .ok s w) (hz:∀ w,(zeroValue e).run C.P w = .ok z w) (hz1:E3 z=true) (hz2:b6y (C3 z)=true) (hzl:(C3 z).cells.length=s) (hs0:Nat.blt 0 s=true)
 (hlen:Nat.ble (len*s) 16777216=true) (hone:b4Q (a4A C E parts.toList)=true)
 (hout:a26 (fun i=>some (i*s,s)) ((List.range (len*s)).map fun i=>(C3 z).cells.getD (i%s) default) (a4A C E parts.toList)=some rows.flatten) (hrl:rows.length=len) (hrs:(rows.all fun r=>Nat.beq r.length s)=true):m6 C σ E o (.list rows true none) :=
 a7y ho (by
  have:=a09 hv
  have key:∀ l:List Operand,(∀ x∈l,E.valid x)→E.valids l:=by
   intro l
   induction l with
   | nil=>intro _; trivial
   | cons x l ih=>intro h; exact ⟨h x (by simp),ih fun y hy=>h y (by simp [hy])⟩
  exact key _ fun x hx=>by
   obtain ⟨p,hp,rfl⟩:=List.mem_map.1 hx
   exact this p hp) hu hs hz hz1 (a1I hz2) hzl (by simpa [Nat.blt_eq] using hs0) (by have:=nb hlen; omega) (a3e _) (a6c hone) hout hrl (fun r hr=>Nat.eq_of_beq_eq_true (List.all_eq_true.1 hrs r hr))
theorem a2B {y:Operand} {rows:List (List CV)} {nn:Bool} {tok:Option Nat} {s:Nat} (ey:E.val C y = .list rows nn tok) (hrs:∀ r∈rows,r.length=s):∀ M w v,Rel C M σ w→RV M w (E.val C y) v→Src C M w rows s v:=fun _ _ _ _ h=>by
 rw [ey] at h
 exact R5 h hrs
theorem a1A {α:Type} {f:α→List CV} {s:Nat} (h:∀ a,(f a).length=s) (l:List α):∀ r∈l.map f,r.length=s:=fun r hr=>by
 obtain ⟨a,_,rfl⟩:=List.mem_map.1 hr
 exact h a
theorem A4 {α:Type} {f:α→List CV} (h:∀ a,∀ c∈f a,p5 c) (l:List α):∀ r∈l.map f,∀ c∈r,p5 c:=fun r hr=>by
 obtain ⟨a,_,rfl⟩:=List.mem_map.1 hr
 exact h a
theorem l6 {α:Type} {f:α→List CV} {l:List α} {i:Nat} {a:α} (h:l[i]? = some a):(l.map f)[i]? = some (f a):=by
 rw [List.getElem?_map,h]; rfl
end
end Go.Cl
namespace Go.Cl
def C8 (n:Nat):c5→Prop
 | .dead=>True
 | .boxT _ cells=>∀ c∈cells,Old n c
 | .tipT _ _=>True
 | .vec _ rows=>∀ r∈rows,∀ c∈r,Old n c
 | .map es=>∀ x∈es,Old n x.1∧Old n x.2
 | .iter cur es=>(∀ x∈cur,Old n x.1∧Old n x.2)∧∀ x∈es,Old n x.1∧Old n x.2
def a1w (n:Nat):List c5→Prop
 | []=>True
 | ob::l=>C8 n ob∧a1w n l
theorem a1w.get {n:Nat}:∀ {l:List c5},a1w n l→∀ (k:Nat) (ob:c5),l[k]? = some ob→C8 n ob
 | [],_,_,_,h=>by simp at h
 | o::l,⟨h1,h2⟩,k,ob,h=>by
  rcases k with _ | k
  ·simp at h; subst h; exact h1
  ·exact a1w.get h2 k ob (by simpa using h)
def b4G (n:Nat):List (Nat × CV)→Prop
 | []=>True
 | (_,c)::l=>Old n c∧b4G n l
theorem Rel.cutObj {C:Ctx} {M:l3} {σ extra:List c5} {w:World} (hr:Rel C M (σ++extra) w) (hold:a1w σ.length σ) (hglob:∀ g cells,C.glob g=some cells→∀ c∈cells,p5 c) :
 Rel C (M.cutAt σ.length (σ++extra)) σ w∧Cut σ.length M (M.cutAt σ.length (σ++extra))∧∀ M0 w0,Ext M0 w0 M w→M0.pl.length≤σ.length→Ext M0 w0 (M.cutAt σ.length (σ++extra)) w:=by
 have hcut:Cut σ.length M (M.cutAt σ.length (σ++extra)):=⟨rfl,fun _ h=>.inl h,fun _ _ h=>.inr h⟩
 have hget:∀ {k:Nat} {p:Pl},(M.cutAt σ.length (σ++extra)).pl[k]? = some p→k < σ.length∧M.pl[k]? = some p:=by
  intro k p hk
  have hk:(M.pl.take σ.length)[k]? = some p:=hk
  rw [List.getElem?_take] at hk
  split at hk
  ·exact ⟨‹_›,hk⟩
  ·cases hk
 have hσ:∀ {k:Nat} {ob:c5},σ[k]? = some ob→(σ++extra)[k]? = some ob:=by
  intro k ob h
  rw [List.getElem?_append_left (List.getElem?_eq_some_iff.1 h).1]; exact h
 have hlen:σ.length≤M.pl.length:=by rw [hr.len]; simp
 refine ⟨⟨by show (M.pl.take σ.length).length=_; simp; omega,fun b o ha=>?_,fun k p ob hk hs=>?_,fun k k' p p' ob ob' hk hk' hs hs' hl1 hl2 hb=>hr.inj k k' p p' ob ob' (hget hk).2 (hget hk').2 (hσ hs) (hσ hs') hl1 hl2 hb,fun g cells hg=>?_,hr.kep,fun k p ob hk hs hlv=>hr.nk k p ob (hget hk).2 (hσ hs) hlv⟩,hcut,fun M0 w0 hx hle=>?_⟩
 ·rcases ha with (ha | ⟨k,p,ob,_,hp,hs,hl,rfl⟩) | ha
  ·exact hr.blk b o (.inl ha)
  ·exact (hr.obj k p ob hp hs).1.lt hl
  ·exact hr.blk b o (.inr ha)
 ·obtain ⟨hlt,hp⟩:=hget hk
  obtain ⟨h1,h2⟩:=hr.obj k p ob hp (hσ hs)
  have ho:=hold.get k ob hs
  have hnf:ob.live=true→¬ M.full p.block→¬ (M.cutAt σ.length (σ++extra)).full p.block:=fun hlv hnf h=>by
   rcases h with h | ⟨k',p',ob',hk',hp',hs',hl',hb⟩
   ·exact hnf h
   ·have:=hr.inj k' k p' p ob' ob hp' hp hs' (hσ hs) hl' hlv hb
    omega
  refine ⟨?_,?_⟩
  ·cases ob with
   | dead=>trivial
   | boxT t0 cells =>
    obtain ⟨arr,ty,e1,e2,e3,e4⟩:=h1
    exact ⟨arr,ty,e1,e2,e3,fun i c hi=>(e4 i c hi).cut hcut (ho c (List.mem_of_getElem? hi))⟩
   | tipT t0 m=>exact h1
   | vec s rows =>
    obtain ⟨e0,e1,e2,e3,e4,arr,ty,e5,e6,e7⟩:=h1
    exact ⟨e0,e1,e2,e3,e4,arr,ty,e5,e6,fun i j r c hi hj=>(e7 i j r c hi hj).cut hcut (ho r (List.mem_of_getElem? hi) c (List.mem_of_getElem? hj))⟩
   | map es =>
    obtain ⟨ents,clock,e1,e2,e3⟩:=h1
    refine ⟨ents,clock,e1,e2,fun i x hi=>?_⟩
    obtain ⟨e,g1,g2,g3,g4⟩:=e3 i x hi
    have:=ho x (List.mem_of_getElem? hi)
    exact ⟨e,g1,g2.cut hcut this.1,g3.cut hcut this.2,g4⟩
   | iter cur es =>
    obtain ⟨mb,seen,last,ents,clock,e1,e2,e3,e4,e5,e6,e7,e8,e9⟩:=h1
    refine ⟨mb,seen,last,ents,clock,e1,hcut.full _ e2,e3,e4,e5,e6,e7,fun i x hi=>?_,fun i x hi=>?_⟩
    ·obtain ⟨e,g1,g2,g3⟩:=e8 i x hi
     have:=ho.2 x (List.mem_of_getElem? hi)
     exact ⟨e,g1,g2.cut hcut this.1,g3.cut hcut this.2⟩
    ·obtain ⟨hl,j,e,g0,g1,g2,g3⟩:=e9 i x hi
     have:=ho.1 x (List.mem_of_getElem? hi)
     exact ⟨hl,j,e,g0,g1,g2.cut hcut this.1,g3.cut hcut this.2⟩
  ·cases ob with
   | dead=>trivial
   | tipT t0 m=>exact hnf rfl h2
   | _=>exact ⟨hnf rfl h2.1,h2.2⟩
 ·have:=(hr.glob g cells hg)
  refine ⟨?_,hcut.full _ this.full,this.sz⟩
  exact this.rv.cut hcut (.cptr fun j c hj=>(hglob g cells hg c (List.mem_of_getElem? hj)).old)
 ·obtain ⟨l,hl⟩:=hx.pl
  refine ⟨⟨l.take (σ.length - M0.pl.length),?_⟩,fun b h=>.inl (hx.full b h),fun b o h=>hcut.at (hx.cell b o h),hx.same,hx.sameC,hx.size,hx.drew,hx.os,hx.tape,hx.output,fun b hb=>?_⟩
  ·show M.pl.take σ.length=_
   rw [hl,List.take_append,List.take_of_length_le hle]
  ·obtain ⟨k1,k2,k3,k4⟩:=hx.kept b hb
   refine ⟨k1,k2,fun f=>?_,k4⟩
   rcases f with f | ⟨k,p,ob,_,hp,hs,hlv,rfl⟩
   ·exact k3 f
   ·exact absurd k1 (hr.nk k p ob hp hs hlv)
def Env.none:Env:={ f:=fun _=>.val undef,ok:=fun _=>False,un:=fun _=>False}
def Env.only (l:List (Nat × CV)):Env:=Env.none.puts l
theorem G3.only {M M':l3} {w:World} {n k:Nat} {E:Env} {a:Act} (hc:Cut k M M') (hf:G3 M w n E a):∀ {l:List (Nat × CV)},E.is l→b4G k l→G3 M' w n (Env.only l) a
 | [],_,_=>⟨hf.defers,hf.size,fun _ h=>h.elim,fun _ h=>h.elim⟩
 | (t,c)::l,⟨⟨h1,h2⟩,h⟩,⟨h3,h4⟩=>by
  have ih:=G3.only hc hf h h4
  refine ⟨hf.defers,hf.size,fun x hx=>?_,fun x hx=>?_⟩
  ·show RV M' w (((Env.only l).put (some t) c True).f x) _
   have hx:((Env.only l).put (some t) c True).ok x:=hx
   rw [Env.put_f]
   rw [Env.put_ok] at hx
   split
   ·subst x; exact (h2 ▸ hf.rv t h1:RV M w c _).cut hc h3
   ·rename_i hne
    rw [if_neg hne] at hx
    exact ih.rv x hx
  ·have hx:((Env.only l).put (some t) c True).un x:=hx
   rw [Env.put_un] at hx
   split at hx
   ·exact absurd trivial hx
   ·exact ih.un x hx
section
variable {C:Ctx} {n:Nat} {Q:s8→Env→List c5→Prop} {E:Env} {σ:List c5}
def Ctx.plain (C:Ctx):Prop:=∀ g cells,C.glob g=some cells→∀ c∈cells,p5 c
def b85 {α:Type} (l:α→List (Nat × CV)) (S:α→List c5) (P:α→Prop) (E':Env) (σ':List c5):Prop :=
 ∃ a extra,P a∧E'.is (l a)∧σ'=S a++extra
theorem CWp.upto {c:Code} {α:Type} (hC:C.plain) {l:α→List (Nat × CV)} {S:α→List c5} {P:α→Prop} {E':Env} {σ':List c5} (hE:b85 l S P E' σ') (hold:∀ a,P a→b4G (S a).length (l a)∧a1w (S a).length (S a)) (k:∀ a,P a→CWp C n c Q (Env.only (l a)) (S a)) {M0:l3} {w0:World} (hlen:∀ a,P a→M0.pl.length≤(S a).length) {M:l3} {w:World} {a:Act} (hx:Ext M0 w0 M w) (hr:Rel C M σ' w) (hf:G3 M w n E' a) :
 c.wp C.P (E6 C n Q M0 w0) a w:=by
 obtain ⟨x,extra,hP,hE,rfl⟩:=hE
 obtain ⟨h1,h2⟩:=hold x hP
 obtain ⟨g1,g2,g3⟩:=hr.cutObj h2 hC
 have hx':=g3 M0 w0 hx (hlen x hP)
 exact wp_mono (k x hP _ w a g1 (hf.only g2 hE h1)) fun _ _ _=>E6.later hx'
theorem r6 {α:Type} {c:Code} (hC:C.plain) (l:α→List (Nat × CV)) (S:α→List c5) (I:α→Prop) (m:α→Nat) (a0:α) (h0:I a0) (hE:E.is (l a0)) {extra0:List c5} (hσ:σ=S a0++extra0) (hlen:∀ a,I a→σ.length≤(S a).length) (hold:∀ a,I a→b4G (S a).length (l a)∧a1w (S a).length (S a))
 (round:∀ (a:α),I a→CWp C n c (s8.next (b85 l S fun a'=>m a' < m a∧I a') Q) (Env.only (l a)) (S a)):CWp C n (.loop c) Q E σ:=fun M w a hr hf=>by
 intro b k cs
 have key:∀ d (x:α) M1 w1 a1,m x=d→I x→Ext M w M1 w1→Rel C M1 (S x) w1→G3 M1 w1 n (Env.only (l x)) a1 →
  ∃ e a' w',E6 C n Q M w e a' w'∧Arrives C.P (lone (b.at a1 (.code c::.inLoop c::k)) cs w1) b k cs e a' w':=by
  intro d
  induction d using Nat.strongRecOn with
  | _ d ih =>
   intro x M1 w1 a1 hd hI hx hr1 hf1
   obtain ⟨e,a2,w2,hq,harr⟩:=round x hI M1 w1 a1 hr1 hf1 b (.inLoop c::k) cs
   obtain ⟨E',σ',M',h1,h2,h3,h4⟩:=hq
   cases e with
   | normal =>
    obtain ⟨x',extra,⟨hlt,hI'⟩,hE',rfl⟩:=h4
    obtain ⟨o1,o2⟩:=hold x' hI'
    obtain ⟨g1,g2,g3⟩:=h2.cutObj o2 hC
    have hx':=g3 M w (hx.trans h1) (by rw [hr.len]; exact hlen x' hI')
    obtain ⟨e₂,a₂,w₂,hq₂,harr₂⟩:=ih (m x') (by omega) x' _ w2 a2 rfl hI' hx' g1 (h3.only g2 hE' o1)
    exact ⟨e₂,a₂,w₂,hq₂,.of_steps (Steps.trans harr (.one step_inLoop)) harr₂⟩
   | exit id=>exact ⟨_,a2,w2,⟨E',σ',M',hx.trans h1,h2,h3,h4⟩,.pass (x:=.inLoop c) rfl (fun _ _=>.inl (by simp)) harr⟩
   | goto l=>exact ⟨_,a2,w2,⟨E',σ',M',hx.trans h1,h2,h3,h4⟩,.pass (x:=.inLoop c) rfl (fun _ _=>.inl (by simp)) harr⟩
   | ret=>exact ⟨_,a2,w2,⟨E',σ',M',hx.trans h1,h2,h3,h4⟩,.pass (x:=.inLoop c) rfl (fun _ _=>.inl (by simp)) harr⟩
   | panic ch=>exact ⟨_,a2,w2,⟨E',σ',M',hx.trans h1,h2,h3,h4⟩,.pass (x:=.inLoop c) rfl (fun _ _=>.inl (by simp)) harr⟩
   | outgrown=>exact h4.elim
 have hlen0:=hlen a0 h0
 have hex:extra0=[]:=by
  apply List.eq_nil_of_length_eq_zero
  rw [hσ] at hlen0
  simp at hlen0
  omega
 subst hex
 rw [List.append_nil] at hσ
 subst hσ
 obtain ⟨o1,o2⟩:=hold a0 h0
 have hcut0:Cut (S a0).length M M:=⟨by rw [← hr.len,List.take_length],fun _ h=>h,fun _ _ h=>.inr h⟩
 obtain ⟨e,a',w',hq,harr⟩:=key _ a0 M w a rfl h0 (Ext.refl M w) hr (hf.only hcut0 hE o1)
 exact ⟨e,a',w',hq,.of_steps (.one step_loop) harr⟩
theorem R1 {x y:Code} {α:Type} (hC:C.plain) (l:α→List (Nat × CV)) (S:α→List c5) (P:α→Prop) (hlen:∀ a,P a→σ.length≤(S a).length) (hold:∀ a,P a→b4G (S a).length (l a)∧a1w (S a).length (S a)) (h:CWp C n x (s8.next (b85 l S P) Q) E σ) (k:∀ a,P a→CWp C n y Q (Env.only (l a)) (S a)):CWp C n (.seq x y) Q E σ:=fun M w a hr hf=>by
 refine wp_seq (wp_mono (h M w a hr hf) fun e a' w' hl=>?_)
 obtain ⟨E',σ',M',h1,h2,h3,h4⟩:=hl
 cases e with
 | normal=>exact CWp.upto hC h4 hold k (fun a ha=>by rw [hr.len]; exact hlen a ha) h1 h2 h3
 | _=>exact ⟨E',σ',M',h1,h2,h3,h4⟩
end
def a7u (n:Nat):List CV→Prop
 | []=>True
 | c::l=>Old n c∧a7u n l
theorem l2 {n:Nat}:∀ {cells:List CV},a7u n cells→C8 n (.box cells)
 | [],_=>fun c h=>by simp at h
 | x::l,⟨h1,h2⟩=>fun c h=>by
  rcases List.mem_cons.1 h with rfl | h
  ·exact h1
  ·exact l2 h2 c h
theorem F8 {n:Nat} {σ:List c5} {c c0:CV} (h:c=c0) (hp:p5 c0):Cls n σ c c0:=by
 subst h
 exact .pure hp
theorem j8 {n:Nat} {σ:List c5} {x y:Bool} (h:x=y):Cls n σ (.val (.bool x)) (.val (.bool y)):=h ▸ .old (.val _)
theorem r3 {n:Nat} {σ:List c5} {k:IntKind} {x y:Int} (h:x=y):Cls n σ (.val (.int k x)) (.val (.int k y)):=h ▸ .old (.val _)
theorem M4 {n:Nat} {σ:List c5} {x y:ByteArray} (h:x=y):Cls n σ (.val (.string x)) (.val (.string y)):=h ▸ .old (.val _)
theorem T5 {α β:Type} (f:α→β) (l:List α):((l.map f).length:Int)=(l.length:Int):=by simp
def H6:List CV→Prop
 | []=>True
 | c::l=>p5 c∧H6 l
theorem H6.all:∀ {l:List CV},H6 l→∀ c∈l,p5 c
 | [],_,c,h=>by simp at h
 | x::l,⟨h1,h2⟩,c,h=>by
  rcases List.mem_cons.1 h with rfl | h
  ·exact h1
  ·exact H6.all h2 c h
theorem I2 {α:Type} {f:α→List CV} (h:∀ a,H6 (f a)) (l:List α) (nn:Bool):p5 (.list (l.map f) nn none):=.list (A4 (fun a=>(h a).all) l)
theorem b8.anyw {C:Ctx} {f:FuncId} {args:List CV} {c:CV} (hC:C.plain) (hargs:H6 args) (hc:p5 c) (h:b8 C f args [] fun r σ'=>r = .ret c∧σ'=[]) (σ:List c5):b8 C f args σ fun r σ'=>r = .ret c∧σ'=σ :=
 a7Z hargs.all hc hC h σ
end Go.Cl
namespace Go.Cl
def CV.fgt1:CV→CV
 | .list rows nn _=>.list rows nn none
 | c=>c
def CV.fgt:CV→CV
 | .agg cs=>.agg (cs.map CV.fgt1)
 | c=>c.fgt1
theorem CV.one_fgt1 (c:CV):c.fgt1.one=c.one:=by cases c <;> rfl
theorem RV.fgt1 {M:l3} {w:World} {c:CV} {v:Value} (h:RV M w c v):RV M w c.fgt1 v:=by
 cases h with
 | list vals h1 h2 h3 h4 h5 h6 h7 h8 h9 h10=>exact .list vals h1 h2 h3 h4 h5 h6 h7 h8 h9 fun k hk=>by cases hk
 | val v=>exact .val v
 | agg h1 h2 h3=>exact .agg h1 h2 h3
 | tup h1 h3=>exact .tup h1 h3
 | clo h1 h3=>exact .clo h1 h3
 | ptr hk=>exact .ptr hk
 | cptr vals h1 h2 h3=>exact .cptr vals h1 h2 h3
 | eptr hk=>exact .eptr hk
 | vec hk h1 h2 h3=>exact .vec hk h1 h2 h3
 | map hk=>exact .map hk
theorem RV.fgt {M:l3} {w:World} {c:CV} {v:Value} (h:RV M w c v):RV M w c.fgt v:=by
 cases h with
 | agg h1 h2 h3 =>
  refine .agg (by simpa using h1) (fun c hm=>?_) (fun i c hi=>?_)
  ·obtain ⟨c0,h0,rfl⟩:=List.mem_map.1 hm
   rw [CV.one_fgt1]; exact h2 c0 h0
  ·rw [List.getElem?_map,Option.map_eq_some_iff] at hi
   obtain ⟨c0,h0,rfl⟩:=hi
   exact (h3 i c0 h0).fgt1
 | list vals h1 h2 h3 h4 h5 h6 h7 h8 h9 h10=>exact (RV.list vals h1 h2 h3 h4 h5 h6 h7 h8 h9 h10).fgt1
 | val v=>exact .val v
 | tup h1 h3=>exact .tup h1 h3
 | clo h1 h3=>exact .clo h1 h3
 | ptr hk=>exact .ptr hk
 | cptr vals h1 h2 h3=>exact .cptr vals h1 h2 h3
 | eptr hk=>exact .eptr hk
 | vec hk h1 h2 h3=>exact .vec hk h1 h2 h3
 | map hk=>exact .map hk
section
variable {C:Ctx} {n:Nat} {Q:s8→Env→List c5→Prop} {E:Env} {σ:List c5} {o:Oper}
theorem a0x {f:FuncId} {args:List CV} {K:v7→List c5→Prop} (h:b8 C f (args.map CV.fgt) σ K):b8 C f args σ K:=fun M w vs hr hsz hx =>
 h M w vs hr (by simpa using hsz) fun i c hi=>by
  rw [List.getElem?_map,Option.map_eq_some_iff] at hi
  obtain ⟨c0,h0,rfl⟩:=hi
  exact (hx i c0 h0).fgt
theorem i8 {f:FuncId} {xs:Array Operand} {ts:Array TypeId} {cargs:List CV} {c:CV} (ho:o.op = .call { callee:=.value (.func f),args:=xs,argTypes:=ts}) (hcall:∀ args w,(callFunc f args).run C.P w = .ok (.enter f args) w)
 (hv:E.valids xs.toList) (h:b8 C f cargs σ fun r σ'=>r = .ret c∧σ'=σ) (ea:(E.vals C xs.toList).map CV.fgt=cargs):m6 C σ E o c :=
 b8R ho hcall hv rfl (a0x (ea ▸ h))
theorem c0a {a b:Int} (ha:0≤a) (hb:0 < b) (hr:a≤9223372036854775807):a6U .quo .i64 a b=some (.int .i64 (a / b)):=by
 have h1:a.tdiv b=a / b:=Int.tdiv_eq_ediv_of_nonneg ha
 have h2:0≤a / b:=Int.ediv_nonneg ha (by omega)
 have h3:a / b≤a:=Int.ediv_le_self _ ha
 have h4:b≠0:=by omega
 simp only [a6U,h1,if_neg h4]
 rw [a8x (by omega) (by omega)]
theorem b5G {a b:Int} (hb:b≠0):a6U .rem .i64 a b=some (.int .i64 (a.tmod b)):=by simp [a6U,hb]
theorem b0E {a b:Int} (ha:0≤a) (hb:0 < b):a6U .rem .i64 a b=some (.int .i64 (a%b)):=by
 rw [b5G (by omega),Int.tmod_eq_emod_of_nonneg ha]
theorem d6 {cs:List CV} (h:H6 cs):p5 (.agg cs):=.agg h.all
theorem d7 {cs:List CV} (h:H6 cs):p5 (.tup cs):=.tup h.all
end
end Go.Cl
namespace Go.Cl
inductive z7 (L:Nat) (sel:List Nat):CV→CV→Prop where
 | old {c:CV}:Old L c→z7 L sel c c
 | agg {cs cs':List CV}:cs.length=cs'.length→(∀ (i:Nat) (c c':CV),cs[i]? = some c→cs'[i]? = some c'→z7 L sel c c')→z7 L sel (.agg cs) (.agg cs')
 | list {rows:List (List CV)} {nn:Bool} {tok tok':Option Nat}:(∀ r∈rows,∀ c∈r,Old L c)→(∀ j,tok'=some j→∃ k,tok=some k∧sel[j]? = some k)→z7 L sel (.list rows nn tok) (.list rows nn tok')
 | ptr {k j off:Nat}:sel[j]? = some k→z7 L sel (.ptr k off) (.ptr j off)
 | eptr {k j i off:Nat}:sel[j]? = some k→z7 L sel (.eptr k i off) (.eptr j i off)
 | vec {k j off len:Nat}:sel[j]? = some k→z7 L sel (.vec k off len) (.vec j off len)
 | map {k j:Nat}:sel[j]? = some k→z7 L sel (.map k) (.map j)
theorem z7.same {L:Nat} {sel:List Nat} {c c':CV} (h:c=c') (ho:Old L c'):z7 L sel c c':=h ▸ .old (h ▸ ho)
theorem z7.one {L:Nat} {sel:List Nat} {c c':CV} (h:z7 L sel c c'):c'.one=c.one:=by
 cases h <;> rfl
def l3.ren (M:l3) (sel:List Nat):l3:={ M with pl:=sel.map fun k=>M.pl.getD k ⟨0,0,0⟩}
theorem a0F {M:l3} {sel:List Nat} {j k:Nat} {p:Pl} (hj:sel[j]? = some k) (hk:M.pl[k]? = some p):(M.ren sel).pl[j]? = some p:=by
 show (sel.map fun k=>M.pl.getD k ⟨0,0,0⟩)[j]? = some p
 rw [List.getElem?_map,hj]
 simp [hk]
theorem P2 {M:l3} {w:World} {L:Nat} {sel:List Nat} (hsel:∀ k,k < L→sel[k]? = some k) (hL:L≤M.pl.length) {c:CV} {v:Value} (h:RV M w c v) (ho:Old L c):RV (M.ren sel) w c v:=by
 have hc:Cut L M { M with pl:=M.pl.take L}:=⟨rfl,fun _ h=>h,fun _ _ h=>.inr h⟩
 have h1:=h.cut hc ho
 refine RV.mono (M:={ M with pl:=M.pl.take L}) (M':=M.ren sel) (w:=w) (w':=w) ⟨⟨(M.ren sel).pl.drop L,?_⟩,fun _ h=>h,fun _ _ h=>.inr h,fun _ _=>rfl,fun _ _ _=>rfl,Nat.le_refl _,G5,rfl,rfl,rfl,fun _ h=>⟨h,rfl,id,fun _=>id⟩⟩ h1
 have:(M.ren sel).pl.take L=M.pl.take L:=by
  refine List.ext_getElem? fun i=>?_
  rw [List.getElem?_take,List.getElem?_take]
  split
  ·rename_i hi
   have hp:M.pl[i]? = some (M.pl[i]'(by omega)):=by simp
   rw [a0F (hsel i hi) hp,hp]
  ·rfl
 show (M.ren sel).pl=M.pl.take L++_
 rw [← this,List.take_append_drop]
theorem RV.ren {M:l3} {w:World} {L:Nat} {sel:List Nat} (hsel:∀ k,k < L→sel[k]? = some k) (hL:L≤M.pl.length) {c c':CV} {v:Value} (h:RV M w c v) (hr:z7 L sel c c'):RV (M.ren sel) w c' v:=by
 induction hr generalizing v with
 | old ho=>exact P2 hsel hL h ho
 | agg hl hcls ih =>
  cases h with
  | agg h1 h2 h3 =>
   refine .agg (by omega) (fun c hcm=>?_) (fun i c' hi=>?_)
   ·obtain ⟨i,hi⟩:=List.mem_iff_getElem?.1 hcm
    obtain ⟨y,hy⟩:=o0 hl hi
    rw [(hcls i y c hy hi).one]
    exact h2 y (List.mem_of_getElem? hy)
   ·obtain ⟨y,hy⟩:=o0 hl hi
    exact ih i y c' hy hi (h3 i y hy)
 | list hrows htok =>
  cases h with
  | list vals h1 h2 h3 h4 h5 h6 h7 h8 h9 h10 =>
   refine .list vals h1 h2 h3 h4 h5 h6 h7 h8 (fun i j r c hi hj=>P2 hsel hL (h9 i j r c hi hj) (hrows r (List.mem_of_getElem? hi) c (List.mem_of_getElem? hj))) (fun j hj=>?_)
   obtain ⟨k,hk,hs⟩:=htok j hj
   obtain ⟨s',hp,hrest⟩:=h10 k hk
   exact ⟨s',a0F hs hp,hrest⟩
 | ptr hs=>cases h with | ptr hk=>exact .ptr (a0F hs hk)
 | eptr hs=>cases h with | eptr hk=>exact .eptr (a0F hs hk)
 | vec hs=>cases h with | vec hk h1 h2 h3=>exact .vec (a0F hs hk) h1 h2 h3
 | map hs=>cases h with | map hk=>exact .map (a0F hs hk)
def b0c (L:Nat) (sel:List Nat):List CV→List CV→Prop
 | [],[]=>True
 | c::l,c'::l'=>z7 L sel c c'∧b0c L sel l l'
 | _,_=>False
theorem b0c.len {L:Nat} {sel:List Nat}:∀ {l l':List CV},b0c L sel l l'→l.length=l'.length
 | [],[],_=>rfl
 | _::_,_::_,h=>congrArg (· + 1) h.2.len
theorem b0c.get {L:Nat} {sel:List Nat}:∀ {l l':List CV},b0c L sel l l'→∀ (i:Nat) (c c':CV),l[i]? = some c→l'[i]? = some c'→z7 L sel c c'
 | [],[],_,i,c,c',h,_=>by simp at h
 | _::_,_::_,h,0,c,c',h1,h2=>by
  simp at h1 h2; subst h1; subst h2; exact h.1
 | _::_,_::_,h,i+1,c,c',h1,h2=>h.2.get i c c' (by simpa using h1) (by simpa using h2)
inductive a5p (L:Nat) (sel:List Nat):c5→c5→Prop where
 | dead {ob:c5}:a5p L sel ob .dead
 | same {ob ob':c5}:ob=ob'→C8 L ob'→a5p L sel ob ob'
 | box {t0:Option TypeId} {cells cells':List CV}:b0c L sel cells cells'→a5p L sel (.boxT t0 cells) (.boxT t0 cells')
theorem G0.ren {M:l3} {w:World} {L:Nat} {sel:List Nat} (hsel:∀ k,k < L→sel[k]? = some k) (hL:L≤M.pl.length) {p:Pl} {ob ob':c5} (h:G0 M w p ob∧a1F M p ob) (hr:a5p L sel ob ob'):G0 (M.ren sel) w p ob'∧a1F (M.ren sel) p ob':=by
 obtain ⟨h1,h2⟩:=h
 cases hr with
 | dead=>exact ⟨tt,tt⟩
 | same he ho =>
  subst he
  refine ⟨?_,by cases ob <;> exact h2⟩
  cases ob with
  | dead=>trivial
  | boxT t0 cells =>
   obtain ⟨arr,ty,e1,e2,e3,e4⟩:=h1
   exact ⟨arr,ty,e1,e2,e3,fun i c hi=>P2 hsel hL (e4 i c hi) (ho c (List.mem_of_getElem? hi))⟩
  | tipT t0 m=>exact h1
  | vec s rows =>
   obtain ⟨e0,e1,e2,e3,e4,arr,ty,e5,e6,e7⟩:=h1
   exact ⟨e0,e1,e2,e3,e4,arr,ty,e5,e6,fun i j r c hi hj=>P2 hsel hL (e7 i j r c hi hj) (ho r (List.mem_of_getElem? hi) c (List.mem_of_getElem? hj))⟩
  | map es =>
   obtain ⟨ents,clock,e1,e2,e3⟩:=h1
   refine ⟨ents,clock,e1,e2,fun i x hi=>?_⟩
   obtain ⟨e,g1,g2,g3,g4⟩:=e3 i x hi
   have:=ho x (List.mem_of_getElem? hi)
   exact ⟨e,g1,P2 hsel hL g2 this.1,P2 hsel hL g3 this.2,g4⟩
  | iter cur es =>
   obtain ⟨mb,seen,last,ents,clock,e1,e2,e3,e4,e5,e6,e7,e8,e9⟩:=h1
   refine ⟨mb,seen,last,ents,clock,e1,e2,e3,e4,e5,e6,e7,fun i x hi=>?_,fun i x hi=>?_⟩
   ·obtain ⟨e,g1,g2,g3⟩:=e8 i x hi
    have:=ho.2 x (List.mem_of_getElem? hi)
    exact ⟨e,g1,P2 hsel hL g2 this.1,P2 hsel hL g3 this.2⟩
   ·obtain ⟨hl,j,e,g0,g1,g2,g3⟩:=e9 i x hi
    have:=ho.1 x (List.mem_of_getElem? hi)
    exact ⟨hl,j,e,g0,g1,P2 hsel hL g2 this.1,P2 hsel hL g3 this.2⟩
 | box hc =>
  obtain ⟨arr,ty,e1,e2,e3,e4⟩:=h1
  refine ⟨⟨arr,ty,e1,by rw [e2,hc.len],fun c hm=>?_,fun i c' hi=>?_⟩,h2⟩
  ·obtain ⟨i,hi⟩:=List.mem_iff_getElem?.1 hm
   obtain ⟨y,hy⟩:=o0 hc.len hi
   rw [(hc.get i y c hy hi).one]
   exact e3 y (List.mem_of_getElem? hy)
  ·obtain ⟨y,hy⟩:=o0 hc.len hi
   exact (e4 i y hy).ren hsel hL (hc.get i y c' hy hi)
def a8b (L:Nat) (all:List Nat) (σ:List c5):List Nat→List c5→Prop
 | [],[]=>True
 | k::ks,ob::obs=>(ob = .dead∨∃ ob0,σ[k]? = some ob0∧a5p L all ob0 ob)∧a8b L all σ ks obs
 | _,_=>False
theorem a8b.len {L:Nat} {all:List Nat} {σ:List c5}:∀ {ks:List Nat} {obs:List c5},a8b L all σ ks obs→ks.length=obs.length
 | [],[],_=>rfl
 | _::_,_::_,h=>congrArg (· + 1) h.2.len
theorem a8b.get {L:Nat} {all:List Nat} {σ:List c5}:∀ {ks:List Nat} {obs:List c5},a8b L all σ ks obs→∀ (j k:Nat) (ob:c5),ks[j]? = some k→obs[j]? = some ob→ob = .dead∨∃ ob0,σ[k]? = some ob0∧a5p L all ob0 ob
 | [],[],_,j,k,ob,h,_=>by simp at h
 | _::_,_::_,h,0,k,ob,h1,h2=>by
  simp at h1 h2; subst h1; subst h2; exact h.1
 | _::_,_::_,h,j+1,k,ob,h1,h2=>h.2.get j k ob (by simpa using h1) (by simpa using h2)
def Q7:List Nat→Bool
 | []=>true
 | k::l=>!l.contains k && Q7 l
theorem a0A:∀ {l:List Nat},Q7 l=true→∀ (i j k:Nat),l[i]? = some k→l[j]? = some k→i=j
 | [],_,i,j,k,h,_=>by simp at h
 | x::l,h,i,j,k,h1,h2=>by
  simp only [Q7,Bool.and_eq_true,Bool.not_eq_true',List.contains_eq_mem,decide_eq_false_iff_not] at h
  rcases i with _ | i <;> rcases j with _ | j
  ·rfl
  ·simp at h1 h2; subst h1; exact absurd (List.mem_of_getElem? h2) h.1
  ·simp at h1 h2; subst h2; exact absurd (List.mem_of_getElem? h1) h.1
  ·exact congrArg (· + 1) (a0A h.2 i j k (by simpa using h1) (by simpa using h2))
def a2D (L:Nat) (sel:List Nat):Bool:=Nat.ble L sel.length && (List.range L).all fun k=>Nat.beq (sel.getD k 0) k
theorem a0g {L:Nat} {sel:List Nat} (h:a2D L sel=true) (k:Nat) (hk:k < L):sel[k]? = some k:=by
 simp only [a2D,Bool.and_eq_true,List.all_eq_true,List.mem_range] at h
 have h1:=nb h.1
 have h2:=Nat.eq_of_beq_eq_true (h.2 k hk)
 have hlt:k < sel.length:=by omega
 rw [List.getElem?_eq_getElem hlt]
 simpa [hlt] using h2
theorem Rel.ren {C:Ctx} {M:l3} {σ S:List c5} {w:World} {L:Nat} {sel:List Nat} (hC:C.plain) (hr:Rel C M σ w) (hsel:a2D L sel=true) (hnd:Q7 sel=true) (hL:L≤M.pl.length) (hS:a8b L sel σ sel S):Rel C (M.ren sel) S w:=by
 have hk:=a0g hsel
 have hpl:∀ {j:Nat} {p:Pl} {ob:c5},(M.ren sel).pl[j]? = some p→S[j]? = some ob→∃ k,sel[j]? = some k∧(ob = .dead∨∃ ob0,σ[k]? = some ob0∧M.pl[k]? = some p∧a5p L sel ob0 ob):=by
  intro j p ob hp hs
  have hp':(sel.map fun k=>M.pl.getD k ⟨0,0,0⟩)[j]? = some p:=hp
  rw [List.getElem?_map,Option.map_eq_some_iff] at hp'
  obtain ⟨k,hk,hp'⟩:=hp'
  refine ⟨k,hk,?_⟩
  rcases hS.get j k ob hk hs with rfl | ⟨ob0,h1,h2⟩
  ·exact .inl rfl
  ·have hlt:k < M.pl.length:=by rw [hr.len]; exact (List.getElem?_eq_some_iff.1 h1).1
   refine .inr ⟨ob0,h1,?_,h2⟩
   rw [← hp']; simp [hlt]
 have hlive:∀ {ob0 ob:c5},a5p L sel ob0 ob→ob.live=true→ob0.live=true:=by
  intro ob0 ob h hl
  cases h with
  | dead=>cases hl
  | same he _=>exact he ▸ hl
  | box _=>rfl
 refine ⟨by show (sel.map _).length=_; rw [List.length_map,hS.len],hr.blk,fun j p ob hp hs=>?_,fun j j' p p' ob ob' hp hp' hs hs' hl hl' hb=>?_,fun g cells hg=>?_,hr.kep,fun j p ob hp hs hl=>?_⟩
 ·obtain ⟨k,hk1,h | ⟨ob0,h1,h2,h3⟩⟩:=hpl hp hs
  ·subst h; exact ⟨tt,tt⟩
  ·exact G0.ren hk hL (hr.obj k p ob0 h2 h1) h3
 ·obtain ⟨k,hk1,h | ⟨ob0,h1,h2,h3⟩⟩:=hpl hp hs
  ·subst h; cases hl
  ·obtain ⟨k',hk1',h' | ⟨ob0',h1',h2',h3'⟩⟩:=hpl hp' hs'
   ·subst h'; cases hl'
   ·have e:=hr.inj k k' p p' ob0 ob0' h2 h2' h1 h1' (hlive h3 hl) (hlive h3' hl') hb
    subst e
    exact a0A hnd j j' k hk1 hk1'
 ·refine ⟨?_,(hr.glob g cells hg).full,(hr.glob g cells hg).sz⟩
  exact P2 hk hL (hr.glob g cells hg).rv (.cptr fun j c hj=>(hC g cells hg c (List.mem_of_getElem? hj)).old)
 ·obtain ⟨k,hk1,h | ⟨ob0,h1,h2,h3⟩⟩:=hpl hp hs
  ·subst h; cases hl
  ·exact hr.nk k p ob0 h2 h1 (hlive h3 hl)
theorem Ext.ren {M0 M:l3} {w0 w:World} {L:Nat} {sel:List Nat} (hx:Ext M0 w0 M w) (hsel:a2D L sel=true) (hL0:M0.pl.length=L):Ext M0 w0 (M.ren sel) w:=by
 have hk:=a0g hsel
 obtain ⟨l,hl⟩:=hx.pl
 refine ⟨⟨(M.ren sel).pl.drop L,?_⟩,hx.full,hx.cell,hx.same,hx.sameC,hx.size,hx.drew,hx.os,hx.tape,hx.output,hx.kept⟩
 have:(M.ren sel).pl.take L=M0.pl:=by
  refine List.ext_getElem? fun i=>?_
  rw [List.getElem?_take]
  split
  ·rename_i hi
   have hp0:M0.pl[i]? = some (M0.pl[i]'(by omega)):=by simp
   rw [a0F (hk i hi) (hx.get hp0),hp0]
  ·rw [List.getElem?_eq_none (by omega)]
 rw [← this,List.take_append_drop]
def Env.isR (E:Env) (L:Nat) (sel:List Nat):List (Nat × CV)→Prop
 | []=>True
 | (t,c)::l=>(E.ok t∧z7 L sel (E.f t) c)∧E.isR L sel l
theorem G3.onlyR {M:l3} {w:World} {n L:Nat} {sel:List Nat} {E:Env} {a:Act} (hsel:a2D L sel=true) (hL:L≤M.pl.length) (hf:G3 M w n E a):∀ {l:List (Nat × CV)},E.isR L sel l→G3 (M.ren sel) w n (Env.only l) a
 | [],_=>⟨hf.defers,hf.size,fun _ h=>h.elim,fun _ h=>h.elim⟩
 | (t,c)::l,⟨⟨h1,h2⟩,h⟩=>by
  have ih:=G3.onlyR hsel hL hf h
  refine ⟨hf.defers,hf.size,fun x hx=>?_,fun x hx=>?_⟩
  ·show RV (M.ren sel) w (((Env.only l).put (some t) c True).f x) _
   have hx:((Env.only l).put (some t) c True).ok x:=hx
   rw [Env.put_f]
   rw [Env.put_ok] at hx
   split
   ·subst x; exact (hf.rv t h1).ren (a0g hsel) hL h2
   ·rename_i hne
    rw [if_neg hne] at hx
    exact ih.rv x hx
  ·have hx:((Env.only l).put (some t) c True).un x:=hx
   rw [Env.put_un] at hx
   split at hx
   ·exact absurd trivial hx
   ·exact ih.un x hx
section
variable {C:Ctx} {n:Nat} {Q:s8→Env→List c5→Prop} {E:Env} {σ:List c5}
def a6t {α:Type} (L:Nat) (l:α→List (Nat × CV)) (S:α→List c5) (P:α→Prop) (E':Env) (σ':List c5):Prop :=
 ∃ (a:α) (sel:List Nat),P a∧(a2D L sel=true∧Q7 sel=true)∧E'.isR L sel (l a)∧a8b L sel σ' sel (S a)
theorem a6t.go {c:Code} {α:Type} (hC:C.plain) {L:Nat} {l:α→List (Nat × CV)} {S:α→List c5} {P:α→Prop} {E':Env} {σ':List c5} (hE:a6t L l S P E' σ') (k:∀ a,P a→CWp C n c Q (Env.only (l a)) (S a)) {M0:l3} {w0:World} (hlen:M0.pl.length=L) {M:l3} {w:World} {a:Act} (hx:Ext M0 w0 M w) (hr:Rel C M σ' w) (hf:G3 M w n E' a) :
 c.wp C.P (E6 C n Q M0 w0) a w:=by
 obtain ⟨x,sel,hP,⟨h1,h2⟩,hE,hS⟩:=hE
 have hL:L≤M.pl.length:=by
  obtain ⟨l,hl⟩:=hx.pl
  rw [hl]; simp; omega
 exact wp_mono (k x hP _ w a (hr.ren hC h1 h2 hL hS) (hf.onlyR h1 hL hE)) fun _ _ _=>E6.later (hx.ren h1 hlen)
theorem b11 {x y:Code} {α:Type} (hC:C.plain) (L:Nat) (hL:Nat.beq L σ.length=true) (l:α→List (Nat × CV)) (S:α→List c5) (P:α→Prop) (h:CWp C n x (s8.next (a6t L l S P) Q) E σ) (k:∀ a,P a→CWp C n y Q (Env.only (l a)) (S a)):CWp C n (.seq x y) Q E σ:=fun M w a hr hf=>by
 refine wp_seq (wp_mono (h M w a hr hf) fun e a' w' hl=>?_)
 obtain ⟨E',σ',M',h1,h2,h3,h4⟩:=hl
 cases e with
 | normal=>exact a6t.go hC h4 k (by rw [hr.len]; exact (Nat.eq_of_beq_eq_true hL).symm) h1 h2 h3
 | _=>exact ⟨E',σ',M',h1,h2,h3,h4⟩
theorem A2 {α:Type} {c:Code} (hC:C.plain) (L:Nat) (hL:Nat.beq L σ.length=true) (l:α→List (Nat × CV)) (S:α→List c5) (I:α→Prop) (m:α→Nat) (h0:a6t L l S I E σ)
 (round:∀ (a:α),I a→CWp C n c (s8.next (a6t L l S fun a'=>m a' < m a∧I a') Q) (Env.only (l a)) (S a)):CWp C n (.loop c) Q E σ:=fun M w a hr hf=>by
 intro b k cs
 have hL:=Nat.eq_of_beq_eq_true hL
 have key:∀ d (x:α) M1 w1 a1,m x=d→I x→Ext M w M1 w1→Rel C M1 (S x) w1→G3 M1 w1 n (Env.only (l x)) a1 →
  ∃ e a' w',E6 C n Q M w e a' w'∧Arrives C.P (lone (b.at a1 (.code c::.inLoop c::k)) cs w1) b k cs e a' w':=by
  intro d
  induction d using Nat.strongRecOn with
  | _ d ih =>
   intro x M1 w1 a1 hd hI hx hr1 hf1
   obtain ⟨e,a2,w2,hq,harr⟩:=round x hI M1 w1 a1 hr1 hf1 b (.inLoop c::k) cs
   obtain ⟨E',σ',M',h1,h2,h3,h4⟩:=hq
   cases e with
   | normal =>
    obtain ⟨x',sel,⟨hlt,hI'⟩,⟨g1,g2⟩,hE',hS⟩:=h4
    have hx':=hx.trans h1
    have hLe:L≤M'.pl.length:=by
     obtain ⟨l,hl⟩:=hx'.pl
     rw [hl]; simp; rw [hr.len,hL]; omega
    obtain ⟨e₂,a₂,w₂,hq₂,harr₂⟩:=ih (m x') (by omega) x' _ w2 a2 rfl hI' (hx'.ren g1 (by rw [hr.len,hL])) (h2.ren hC g1 g2 hLe hS) (h3.onlyR g1 hLe hE')
    exact ⟨e₂,a₂,w₂,hq₂,.of_steps (Steps.trans harr (.one step_inLoop)) harr₂⟩
   | exit id=>exact ⟨_,a2,w2,⟨E',σ',M',hx.trans h1,h2,h3,h4⟩,.pass (x:=.inLoop c) rfl (fun _ _=>.inl (by simp)) harr⟩
   | goto l=>exact ⟨_,a2,w2,⟨E',σ',M',hx.trans h1,h2,h3,h4⟩,.pass (x:=.inLoop c) rfl (fun _ _=>.inl (by simp)) harr⟩
   | ret=>exact ⟨_,a2,w2,⟨E',σ',M',hx.trans h1,h2,h3,h4⟩,.pass (x:=.inLoop c) rfl (fun _ _=>.inl (by simp)) harr⟩
   | panic ch=>exact ⟨_,a2,w2,⟨E',σ',M',hx.trans h1,h2,h3,h4⟩,.pass (x:=.inLoop c) rfl (fun _ _=>.inl (by simp)) harr⟩
   | outgrown=>exact h4.elim
 obtain ⟨x,sel,hP,⟨g1,g2⟩,hE,hS⟩:=h0
 have hLe:L≤M.pl.length:=by rw [hr.len,hL]; omega
 obtain ⟨e,a',w',hq,harr⟩:=key _ x _ w a rfl hP ((Ext.refl M w).ren g1 (by rw [hr.len,hL])) (hr.ren hC g1 g2 hLe hS) (hf.onlyR g1 hLe hE)
 exact ⟨e,a',w',hq,.of_steps (.one step_loop) harr⟩
def P6:Nat→Nat→Option Nat
 | 0,_=>none
 | _+1,p=>some p
def r9:Nat→c5
 | 0=>.dead
 | m+1=>.tip (m+1)
def gnn:Nat→Bool
 | 0=>false
 | _+1=>true
theorem a2R (n m:Nat):C8 n (r9 m):=by cases m <;> trivial
end
theorem z7.grow {α:Type} {f:α→List CV} {L:Nat} {sel:List Nat} {m k p:Nat} {l:List α} (h:∀ a,a7u L (f a)) (hs:sel[p]? = some k):z7 L sel (.list (l.map f) (gnn m) (P6 m k)) (.list (l.map f) (gnn m) (P6 m p)):=by
 refine .list (fun r hr c hc=>?_) (fun j hj=>?_)
 ·obtain ⟨a,_,rfl⟩:=List.mem_map.1 hr
  exact l2 (h a) c hc
 ·cases m with
  | zero=>cases hj
  | succ m=>cases hj; exact ⟨k,rfl,hs⟩
end Go.Cl
namespace Go.Cl
section
variable {C:Ctx} {n:Nat} {Q:s8→Env→List c5→Prop} {E:Env} {σ:List c5} {o:Oper}
theorem a3D {t e:TypeId} {x y:Operand} {k len s:Nat} {rows new:List (List CV)} {ti:TypeInfo} {z:Value} {K:v7→List c5→Prop} (rows':List (List CV)) (n':Nat) (ho:o.op = .call { callee:=.builtin .append,args:=#[x,y],argTypes:=#[t,t]}) (hx:E.valid x) (hy:E.valid y) (ex:E.val C x = .vec k 0 len)
 (hsrc:∀ M w v,Rel C M σ w→RV M w (E.val C y) v→Src C M w new s v) (hu:∀ w,(underlying t).run C.P w = .ok (.slice e) w) (hs:∀ w,(sizeOf e).run C.P w = .ok s w) (hti:∀ w,(typeInfo e).run C.P w = .ok ti w) (hz:∀ w,(zeroValue e).run C.P w = .ok z w) (hzs:z.cells.size=s)
 (hk':σ[k]? = some (.vec s rows)) (hlen:len=rows.length) (hnew:new≠[]) (hb:(rows.length+new.length)*ti.bytes≤140737488355328) (hmax:rows.length+new.length≤9223372036854775807) (he:rows++new=rows') (hn:rows.length+new.length=n')
 (hk:K (.ret (.vec σ.length 0 n')) (σ.set k .dead++[.vec s rows'])):C2 C σ E o K:=by
 subst hlen he hn
 exact a98 ho hx hy ex hsrc hu hs hti hz hzs hk' hnew hb hmax hk
theorem b4W {t e:TypeId} {x:Operand} {k off len s:Nat} {rows:List (List CV)} {z:Value} {K:v7→List c5→Prop} (rows':List (List CV)) (ho:o.op = .call { callee:=.builtin .clear,args:=#[x],argTypes:=#[t]}) (hx:E.valid x) (ex:E.val C x = .vec k off len)
 (hu:∀ w,(underlying t).run C.P w = .ok (.slice e) w) (hz:∀ w,(zeroValue e).run C.P w = .ok z w) (hz1:E3 z=true) (hz2:(C3 z).one=true∨∃ cs,C3 z = .agg cs) (hzs:z.cells.size=s) (hk':σ[k]? = some (.vec s rows)) (hl:off+len≤rows.length) (he:C0 rows off (List.replicate len (b0F z))=rows') {σ':List c5} (hσ:σ.set k (.vec s rows')=σ')
 (hk:K (.ret (.val (.tuple #[]))) σ'):C2 C σ E o K :=
 b7B ho hx ex hu hz hz1 hz2 hzs hk' hl (by rw [he,hσ]; exact hk)
theorem F9 {t:TypeId} {x y:Operand} {k i off s m:Nat} {c:CV} {rows:List (List CV)} {r:List CV} {K:v7→List c5→Prop} (rows':List (List CV)) (ho:o.op = .store t x y) (hx:E.valid x) (hy:E.valid y) (ex:E.val C x = .eptr k i off) (ey:E.val C y=c) (hs:∀ w,(sizeOf t).run C.P w = .ok m w)
 (hc:c.one=true∨∃ cs,c = .agg cs) (hk:σ[k]? = some (.vec s rows)) (hi:rows[i]? = some r) (hl:c.cells.length=m) (hlt:off+m≤r.length) (he:rows.set i (F5 r off c.cells)=rows') {σ':List c5} (hσ:σ.set k (.vec s rows')=σ') (h:K (.ret (.val undef)) σ'):C2 C σ E o K :=
 b2c ho hx hy ex ey hs hc hk hi hl hlt (by rw [he,hσ]; exact h)
theorem k8 {f:FuncId} {xs:Array Operand} {ts:Array TypeId} {cargs:List CV} {α:Type} {c:α→CV} {S:α→List c5} {P:α→Prop} {K:v7→List c5→Prop} (ho:o.op = .call { callee:=.value (.func f),args:=xs,argTypes:=ts}) (hcall:∀ args w,(callFunc f args).run C.P w = .ok (.enter f args) w)
 (hv:E.valids xs.toList) (h:b8 C f cargs σ fun r σ'=>∃ a,r = .ret (c a)∧σ'=S a∧P a) (ea:(E.vals C xs.toList).map CV.fgt=cargs) (hk:∀ a,P a→K (.ret (c a)) (S a)):C2 C σ E o K :=
 a68 ho hcall (Env.valids_mem hv) (Env.vals_map _) ((a0x (ea ▸ h)).mono fun r σ' hh=>by
  obtain ⟨a,rfl,rfl,hp⟩:=hh
  exact hk a hp)
end
end Go.Cl
