/- Part 1 of what the claim needs: values without addresses, and what the program's functions do with them. -/
import Derived.WalkKit
import Derived.Test.YtlppbmfecjabeaaGreatDoorV0
set_option maxRecDepth 100000
set_option maxHeartbeats 4000000
namespace Go.Cl
variable {w w':World} {ops:Array Oper} {a:Act} {o:Oper} {v:Value} {n j t id:Nat} {l:List Oper} {b want:Bool} {x y:Code}
inductive CV where
 | val (v:Value)
 | agg (cs:List CV)
 | tup (cs:List CV)
 | list (rows:List (List CV)) (nn:Bool) (tok:Option Nat)
 | ptr (k off:Nat)
 | cptr (cells:List CV)
 | eptr (k i off:Nat)
 | vec (k off len:Nat)
 | map (k:Nat)
 | clo (f:FuncId) (cs:List CV)
variable {c:CV}
instance:Inhabited CV:=⟨.val undef⟩
structure Pl where
 block:Nat
 cap:Nat
 size:Nat
structure Plan where
 pl:List Pl
 full:Nat->Prop
 cell:Nat->Nat->Prop
 keep:Nat->Prop
variable {M M':Plan}
def Plan.at (M:Plan) (b o:Nat):Prop:=M.full b\/M.cell b o
def CV.one:CV->Bool
 | .val v=>v.oneCell'
 | .agg _ | .tup _=>false
 | _=>true
inductive RV (M:Plan) (w:World):CV->Value->Prop where
 | val (v:Value):RV M w (.val v) v
 | agg {cs:List CV} {vs:Array Value}:vs.size=cs.length->(∀ c∈cs,c.one=true)->(∀ (i:Nat) (c:CV),cs[i]? = some c->RV M w c (vs.getD i undef))->RV M w (.agg cs) (.agg vs)
 | tup {cs:List CV} {vs:Array Value}:vs.size=cs.length->(∀ (i:Nat) (c:CV),cs[i]? = some c->RV M w c (vs.getD i undef))->RV M w (.tup cs) (.tuple vs)
 | clo {f:FuncId} {cs:List CV} {vs:Array Value}:vs.size=cs.length->(∀ (i:Nat) (c:CV),cs[i]? = some c->RV M w c (vs.getD i undef))->RV M w (.clo f cs) (.func (.func f) #[] vs)
 | list {rows:List (List CV)} {nn:Bool} {tok:Option Nat} {a:Option Addr} {cap b off s:Nat} (vals:Nat->Nat->Value) :
  rows.length<=cap->cap<=maxLen->a.isSome=nn->(nn=false->cap=0)->(rows≠[]->a=some ⟨b,off,none⟩) ->
  (∀ r∈rows,r.length=s)->(∀ r∈rows,∀ c∈r,c.one=true) ->
  (∀ (i j:Nat) (r:List CV) (c:CV),rows[i]? = some r->r[j]? = some c->M.at b (off+i*s+j)/\w.cell? ⟨b,off+i*s+j,none⟩=some (vals i j)) ->
  (∀ (i j:Nat) (r:List CV) (c:CV),rows[i]? = some r->r[j]? = some c->RV M w c (vals i j)) ->
  (∀ k,tok=some k->∃ s',M.pl[k]? = some ⟨b,cap,s'⟩/\a=some ⟨b,0,none⟩/\off=0/\(rows≠[]->s'=s)) ->
  RV M w (.list rows nn tok) (.slice a rows.length cap)
 | ptr {k off:Nat} {p:Pl}:M.pl[k]? = some p->RV M w (.ptr k off) (.pointer (some ⟨p.block,off,none⟩))
 | cptr {cells:List CV} {b off:Nat} (vals:Nat->Value):(∀ c∈cells,c.one=true) ->
  (∀ (j:Nat) (c:CV),cells[j]? = some c->M.at b (off+j)/\w.cell? ⟨b,off+j,none⟩=some (vals j)) ->
  (∀ (j:Nat) (c:CV),cells[j]? = some c->RV M w c (vals j)) ->
  RV M w (.cptr cells) (.pointer (some ⟨b,off,none⟩))
 | eptr {k i off:Nat} {p:Pl}:M.pl[k]? = some p->RV M w (.eptr k i off) (.pointer (some ⟨p.block,i*p.size+off,none⟩))
 | vec {k off len:Nat} {p:Pl} {a:Addr}:M.pl[k]? = some p->off+len<=p.cap->p.cap<=maxLen->(off < p.cap->a=⟨p.block,off*p.size,none⟩)->RV M w (.vec k off len) (.slice (some a) len (p.cap - off))
 | map {k:Nat} {p:Pl}:M.pl[k]? = some p->RV M w (.map k) (.map (some p.block))
theorem nb_drew {a b:Nat} (h:a<=b:=by first|exact n_5 _|exact Nat.le_add_right _ _):a<=b:=h
structure Ext (M:Plan) (w:World) (M':Plan) (w':World):Prop where
 pl:∃ l,M'.pl=M.pl++l
 full:∀ b,M.full b->M'.full b
 cell:∀ b o,M.cell b o->M'.at b o
 same:∀ b,M.full b->w'.heap[b]? = w.heap[b]?
 sameC:∀ b o,M.cell b o->w'.cell? ⟨b,o,none⟩=w.cell? ⟨b,o,none⟩
 size:w.heap.size<=w'.heap.size
 drew:w.drawn<=w'.drawn
 os:w'.os=w.os
 tape:w'.tape=w.tape
 output:w'.output=w.output
 kept:∀ b,M.keep b->M'.keep b/\w'.heap[b]? = w.heap[b]?/\(M'.full b->M.full b)/\∀ o,M'.cell b o->M.cell b o
theorem Ext.refl (M:Plan) (w:World):Ext M w M w :=
 ⟨⟨[],si_⟩,fun _ h=>h,fun _ _ h=>.inr h,fun _ _=>rfl,fun _ _ _=>rfl,n_5 _,nb_drew,rfl,rfl,rfl,fun _ h=>⟨h,rfl,id,fun _=>id⟩⟩
theorem cell?_of_same {b o:Nat} (h:w'.heap[b]? = w.heap[b]?):w'.cell? ⟨b,o,none⟩=w.cell? ⟨b,o,none⟩:=by
 simp [World.cell?,h]
theorem Ext.at (h:Ext M w M' w') {b o:Nat} (ha:M.at b o):M'.at b o/\w'.cell? ⟨b,o,none⟩=w.cell? ⟨b,o,none⟩:=by
 rcases ha with ha | ha
 ·exact ⟨.inl (h.full _ ha),cell?_of_same (h.same _ ha)⟩
 ·exact ⟨h.cell _ _ ha,h.sameC _ _ ha⟩
theorem Ext.get (h:Ext M w M' w') {k:Nat} {p:Pl} (hk:M.pl[k]? = some p):M'.pl[k]? = some p:=by
 obtain ⟨l,hl⟩:=h.pl;rw [hl,n_15 (n_1.1 hk).1];exact hk
theorem Ext.trans {M'':Plan} {w'':World} (h:Ext M w M' w') (k:Ext M' w' M'' w''):Ext M w M'' w'':=by
 obtain ⟨l,hl⟩:=h.pl;obtain ⟨l',hl'⟩:=k.pl;refine ⟨⟨l++l',by rw [hl',hl,n_8]⟩,fun b hb=>k.full _ (h.full _ hb),fun b o hb=>(k.at (h.cell _ _ hb)).1,fun b hb=>(k.same _ (h.full _ hb)).trans (h.same _ hb),fun b o hb=>?_,n_89 h.size k.size,n_89 h.drew k.drew,k.os.trans h.os,k.tape.trans h.tape,k.output.trans h.output,fun b hb=>?_⟩
 ·exact (k.at (h.cell _ _ hb)).2.trans (h.sameC _ _ hb)
 ·obtain ⟨h1,h2,h3,h4⟩:=h.kept b hb;obtain ⟨k1,k2,k3,k4⟩:=k.kept b h1;exact ⟨k1,k2.trans h2,fun f=>h3 (k3 f),fun o f=>h4 o (k4 o f)⟩
theorem RV.mono (h:Ext M w M' w') (hr:RV M w c v):RV M' w' c v:=by
 induction hr with
 | val v=>exact .val v
 | agg h1 h2 _ ih=>exact .agg h1 h2 ih
 | tup h1 _ ih=>exact .tup h1 ih
 | clo h1 _ ih=>exact .clo h1 ih
 | list vals h1 h2 h3 h4 h5 h6 h7 h8 _ h10 ih =>
  refine .list vals h1 h2 h3 h4 h5 h6 h7 (fun i j r c hi hj=>?_) ih (fun k hk=>?_)
  ·obtain ⟨ha,hc⟩:=h8 i j r c hi hj;exact ⟨(h.at ha).1,(h.at ha).2.trans hc⟩
  ·obtain ⟨s',hp,hrest⟩:=h10 k hk;exact ⟨s',h.get hp,hrest⟩
 | ptr hk=>exact .ptr (h.get hk)
 | cptr vals h1 h2 _ ih =>
  refine .cptr vals h1 (fun j c hj=>?_) ih;obtain ⟨ha,hc⟩:=h2 j c hj;exact ⟨(h.at ha).1,(h.at ha).2.trans hc⟩
 | eptr hk=>exact .eptr (h.get hk)
 | vec hk h1 h2 h3=>exact .vec (h.get hk) h1 h2 h3
 | map hk=>exact .map (h.get hk)
theorem RV.one (hr:RV M w c v) (hc:c.one=true):v.oneCell'=true:=by
 cases hr <;> first|rfl|exact hc|(simp [CV.one] at hc)
inductive CObj where
 | dead
 | boxT (ty:Option TypeId) (cells:List CV)
 | tipT (ty:Option TypeId) (n:Nat)
 | vec (s:Nat) (rows:List (List CV))
 | map (es:List (CV × CV))
 | iter (cur left:List (CV × CV))
variable {σ:List CObj}
abbrev CObj.box (cells:List CV):CObj:=.boxT none cells
abbrev CObj.tip (n:Nat):CObj:=.tipT none n
def CObj.live:CObj->Bool
 | .dead=>false
 | _=>true
def Ages (ents:Array MapEntry):Prop:=∀ (i j:Nat) (e e':MapEntry),ents[i]? = some e->ents[j]? = some e'->e.born=e'.born->i=j
def ObjRel (M:Plan) (w:World) (p:Pl):CObj->Prop
 | .dead=>True
 | .boxT t0 cells=>∃ arr ty,w.heap[p.block]? = some (.cells arr (t0.getD ty) (0,0))/\arr.size=cells.length/\(∀ c∈cells,c.one=true)/\∀ (i:Nat) (c:CV),cells[i]? = some c->RV M w c (arr.getD i undef)
 | .tipT t0 n=>n<=p.cap/\p.cap<=maxLen/\((∀ o,M.cell p.block o->o < n*p.size)/\(t0.isSome=true->p.size=1))/\∃ arr ty,w.heap[p.block]? = some (.cells arr (t0.getD ty) (0,0))/\arr.size=p.cap*p.size
 | .vec s rows=>p.size=s/\rows.length<=p.cap/\p.cap<=maxLen/\(∀ r∈rows,r.length=p.size)/\(∀ r∈rows,∀ c∈r,c.one=true)/\∃ arr ty,w.heap[p.block]? = some (.cells arr ty (0,0))/\arr.size=p.cap*p.size /\
  ∀ (i j:Nat) (r:List CV) (c:CV),rows[i]? = some r->r[j]? = some c->RV M w c (arr.getD (i*p.size+j) undef)
 | .map es=>∃ (ents:Array MapEntry) (clock:Nat),w.heap[p.block]? = some (.map ents clock)/\(ents.size=es.length/\Ages ents)/\(∀ (i:Nat) (x:CV × CV),es[i]? = some x->∃ e,ents[i]? = some e/\RV M w x.1 e.key/\RV M w x.2 e.val/\e.born < clock)
 | .iter cur left=>∃ (mb:Nat) (seen:Array Nat) (last:Nat) (ents:Array MapEntry) (clock:Nat),w.heap[p.block]? = some (.mapIter (some mb) clock seen last)/\M.full mb/\w.heap[mb]? = some (.map ents clock)/\(seen = #[]\/last=clock)/\Ages ents/\(∀ (i:Nat) (e:MapEntry),ents[i]? = some e->e.born < clock)/\(ents.toList.filter fun e=>!seen.contains e.born).length=left.length/\(∀ (i:Nat) (x:CV × CV),left[i]? = some x->∃ e,(ents.toList.filter fun e=>!seen.contains e.born)[i]? = some e/\RV M w x.1 e.key/\RV M w x.2 e.val)/\∀ (i:Nat) (x:CV × CV),cur[i]? = some x->last=clock/\∃ (j:Nat) (e:MapEntry),ents[j]? = some e/\seen.back? = some e.born/\RV M w x.1 e.key/\RV M w x.2 e.val
def ObjFree (M:Plan) (p:Pl):CObj->Prop
 | .dead=>True
 | .tipT _ _=>¬ M.full p.block
 | _=>¬ M.full p.block/\∀ o,¬ M.cell p.block o
structure Ctx where
 P:Program
 glob:Nat->Option (List CV)
variable {C:Ctx}
structure GV (M:Plan) (w:World) (cells:List CV) (g:Nat):Prop where
 rv:RV M w (.cptr cells) (.pointer (some ⟨g,0,none⟩))
 full:M.full g
 sz:∃ arr ty fr,w.heap[g]? = some (.cells arr ty fr)/\arr.size=cells.length
theorem GV.mono (h:Ext M w M' w') {cells:List CV} {g:Nat} (hg:GV M w cells g):GV M' w' cells g :=
 ⟨hg.rv.mono h,h.full _ hg.full,by rw [h.same _ hg.full]; exact hg.sz⟩
structure Rel (C:Ctx) (M:Plan) (σ:List CObj) (w:World):Prop where
 len:M.pl.length=σ.length
 blk:∀ b o,M.at b o->b < w.heap.size
 obj:∀ (k:Nat) (p:Pl) (ob:CObj),M.pl[k]? = some p->σ[k]? = some ob->ObjRel M w p ob/\ObjFree M p ob
 inj:∀ (k k':Nat) (p p':Pl) (ob ob':CObj),M.pl[k]? = some p->M.pl[k']? = some p'->σ[k]? = some ob->σ[k']? = some ob'->ob.live=true->ob'.live=true->p.block=p'.block->k=k'
 glob:∀ g cells,C.glob g=some cells->GV M w cells g
 kep:∀ b,M.keep b->b < w.heap.size
 nk:∀ (k:Nat) (p:Pl) (ob:CObj),M.pl[k]? = some p->σ[k]? = some ob->ob.live=true->¬ M.keep p.block
structure Env where
 f:Nat->CV
 ok:Nat->Prop
 un:Nat->Prop
variable {E:Env}
def Env.put (E:Env) (d:Option Nat) (c:CV) (g:Prop):Env :=
 match d with
 | none=>E
 | some d=>{ f:=fun t=>match Nat.beq t d with | true=>c | false=>E.f t,ok:=fun t=>match Nat.beq t d with | true=>g | false=>E.ok t,un:=fun t=>match Nat.beq t d with | true=>¬ g | false=>E.un t}
theorem Env.put_f (E:Env) (d:Nat) (c:CV) (g:Prop) (t:Nat):(E.put (some d) c g).f t=if t=d then c else E.f t:=by
 show (match Nat.beq t d with | true=>c | false=>E.f t)=_;by_cases h:t=d
 ·subst h; simp
 ·have:Nat.beq t d=false:=n_73.2 fun hb=>h (n_36 hb);rw [this,if_neg h]
theorem Env.put_ok (E:Env) (d:Nat) (c:CV) (g:Prop) (t:Nat):(E.put (some d) c g).ok t=if t=d then g else E.ok t:=by
 show (match Nat.beq t d with | true=>g | false=>E.ok t)=_;by_cases h:t=d
 ·subst h; simp
 ·have:Nat.beq t d=false:=n_73.2 fun hb=>h (n_36 hb);rw [this,if_neg h]
theorem Env.put_un (E:Env) (d:Nat) (c:CV) (g:Prop) (t:Nat):(E.put (some d) c g).un t=if t=d then ¬ g else E.un t:=by
 show (match Nat.beq t d with | true=>¬ g | false=>E.un t)=_;by_cases h:t=d
 ·subst h; simp
 ·have:Nat.beq t d=false:=n_73.2 fun hb=>h (n_36 hb);rw [this,if_neg h]
def cvOf1:Value->CV
 | .slice none _ _=>.list [] false none
 | v=>.val v
def cvOf:Value->CV
 | .agg cs=>.agg (cs.toList.map cvOf1)
 | v=>cvOf1 v
def constOk1:Value->Bool
 | .slice none 0 0=>true
 | .slice _ _ _=>false
 | v=>v.oneCell'
def constOk:Value->Bool
 | .agg cs=>cs.toList.all constOk1
 | .slice none 0 0=>true
 | .slice _ _ _=>false
 | _=>true
def Env.val (C:Ctx) (E:Env):Operand->CV
 | .tmp t=>E.f t
 | .const v=>cvOf v
 | .global g=>match C.glob g with
  | some cells=>.cptr cells
  | none=>.val (.pointer (some ⟨g,0,none⟩))
 | .func f=>.val (.func (.func f) #[] #[])
def Env.valid (E:Env):Operand->Prop
 | .tmp t=>E.ok t
 | .const v=>constOk v=true
 | _=>True
theorem rv_cvOf1 (h:constOk1 v=true):RV M w (cvOf1 v) v:=by
 cases v with
 | slice a n c =>
  cases a with
  | some a=>simp [constOk1] at h
  | none =>
   have:n=0/\c=0:=by
    rcases n with _ | n <;> rcases c with _ | c <;> simp [constOk1] at h ⊢
   obtain ⟨rfl,rfl⟩:=this;exact RV.list (rows:=[]) (b:=0) (off:=0) (s:=0) (fun _ _=>undef) (n_5 _) (by simp [maxLen]) rfl q_291 (fun h=>absurd rfl h) si_ si_ si_ si_ si_
 | _=>exact .val _
theorem cvOf1_one (h:constOk1 v=true):(cvOf1 v).one=true:=by
 cases v with
 | slice a n c=>cases a <;> rfl
 | _=>simpa [cvOf1,CV.one,constOk1] using h
theorem rv_cvOf (h:constOk v=true):RV M w (cvOf v) v:=by
 cases v with
 | agg cs =>
  have hc:∀ v∈cs,constOk1 v=true:=by
   have h':∀ v∈cs.toList,constOk1 v=true:=n_22.1 h;exact fun v hv=>h' v (by simpa using hv)
  refine .agg si_ (fun c hm=>?_) (fun i c hi=>?_)
  ·obtain ⟨v,hv,rfl⟩:=n_9.1 hm;exact cvOf1_one (hc v (by simpa using hv))
  ·simp only [n_14,n_26] at hi;obtain ⟨v,hv,rfl⟩:=hi;have hv':cs[i]? = some v:=by simpa using hv
   rw [n_21,hv'];exact rv_cvOf1 (hc v (n_47 hv'))
 | slice a n c =>
  refine rv_cvOf1 ?_
  rcases a with _ | a
  ·rcases n with _ | n <;> rcases c with _ | c <;> simp [constOk,constOk1] at h ⊢
  ·simp [constOk] at h
 | _=>exact .val _
structure FRel (M:Plan) (w:World) (n:Nat) (E:Env) (a:Act):Prop where
 defers:a.defers=[]
 size:a.tmps.size=n
 rv:∀ t,E.ok t->RV M w (E.f t) (a.tmps.getD t undef)
 un:∀ t,E.un t->a.tmps.getD t undef=undef
theorem FRel.mono (h:Ext M w M' w') (hf:FRel M w n E a):FRel M' w' n E a :=
 ⟨hf.defers,hf.size,fun t ht=>(hf.rv t ht).mono h,hf.un⟩
theorem FRel.put {d:Option Nat} {g:Prop} (hf:FRel M w n E a) (hd:∀ t,d=some t->t < n) (hv:g->RV M w c v) (hu:¬ g->v=undef) :
 FRel M w n (E.put d c g) (a.put d v):=by
 cases d with
 | none=>exact hf
 | some d =>
  have hdn:=hd d rfl;refine ⟨hf.defers,by simp [Act.put,hf.size],fun t ht=>?_,fun t ht=>?_⟩;by_cases htd:t=d
  ·subst htd;simp only [Env.put_f,Env.put_ok,if_true] at ht ⊢;have:(a.put (some t) v).tmps.getD t undef=v:=by simp [Act.put,hf.size,hdn]
   rw [this];exact hv ht
  ·simp only [Env.put_f,Env.put_ok,if_neg htd] at ht ⊢;have:(a.put (some d) v).tmps.getD t undef=a.tmps.getD t undef:=by simp [Act.put,n_64 (Ne.symm htd)]
   rw [this];exact hf.rv t ht
  ·by_cases htd:t=d
   ·subst htd;simp only [Env.put_un,if_true] at ht;have:(a.put (some t) v).tmps.getD t undef=v:=by simp [Act.put,hf.size,hdn]
    rw [this];exact hu ht
   ·simp only [Env.put_un,if_neg htd] at ht;have:(a.put (some d) v).tmps.getD t undef=a.tmps.getD t undef:=by simp [Act.put,n_64 (Ne.symm htd)]
    rw [this];exact hf.un t ht
theorem FRel.eval (hr:Rel C M σ w) (hf:FRel M w n E a) {x:Operand} (hx:E.valid x):RV M w (E.val C x) (a.eval x):=by
 cases x with
 | tmp t=>exact hf.rv t hx
 | const v=>exact rv_cvOf hx
 | global g =>
  simp only [Env.val,Act.eval]
  split
  ·rename_i cells hc;exact (hr.glob g cells hc).rv
  ·exact .val _
 | func f=>exact .val _
inductive CRes where
 | ret (c:CV)
 | pan (c:CV)
variable {K K':CRes->List CObj->Prop}
def Upon (P:Program) (K:Value->World->Prop) (Kp:List PanicEntry->World->Prop):Result Next->Prop
 | .ok (.value v) w'=>K v w'
 | .ok .skip w'=>K undef w'
 | .ok (.enter f args) w'=>Calls P f args w' fun
  | .returned v,w''=>K v w''
  | .panicked ch,w''=>Kp ch w''
  | .outgrown,_=>False
 | .halt (.panic v) w'=>Kp [{ v,recovered:=false}] w'
 | _=>False
theorem Upon.mono {P:Program} {K K':Value->World->Prop} {Kp Kp':List PanicEntry->World->Prop} {r:Result Next} (h:Upon P K Kp r) (hk:∀ v w,K v w->K' v w) (hp:∀ c w,Kp c w->Kp' c w):Upon P K' Kp' r:=by
 cases r with
 | ok x w =>
  cases x <;> simp only [Upon] at h ⊢
  case value v=>exact hk _ _ h
  case skip=>exact hk _ _ h
  case enter f args =>
   refine h.mono fun e w' he=>?_;cases e with
   | returned v=>exact hk _ _ he
   | panicked c=>exact hp _ _ he
   | outgrown=>exact he
 | halt x w =>
  cases x <;> simp only [Upon] at h ⊢
  exact hp _ _ h
theorem wp_of_upon {P:Program} {K:Value->World->Prop} {Kp:List PanicEntry->World->Prop} {next:Act->World->Prop} {Q:Exit->Act->World->Prop}
 (h:Upon P K Kp ((execOp a.eval o).run P w)) (hk:∀ v w',K v w'->next (a.put o.dst v) w') (hp:∀ c w',Kp c w'->Q (.panic c) a w'):o.wp P a w next Q:=by
 unfold Oper.wp;generalize (execOp a.eval o).run P w=r at h;cases r with
 | ok x w =>
  cases x <;> simp only [Upon] at h <;> simp only [Oper.upon]
  case value v=>exact hk _ _ h
  case skip=>exact hk _ _ h
  case enter f args =>
   refine h.mono fun e w' he=>?_;cases e with
   | returned v=>exact hk _ _ he
   | panicked c=>exact hp _ _ he
   | outgrown=>exact he.elim
 | halt x w =>
  cases x <;> simp only [Upon] at h <;> simp only [Oper.upon]
  exact hp _ _ h
def After (C:Ctx) (M:Plan) (w:World) (K:CRes->List CObj->Prop) (v:Value) (w':World):Prop :=
 ∃ c σ' M',Ext M w M' w'/\Rel C M' σ' w'/\RV M' w' c v/\K (.ret c) σ'
def AfterPan (C:Ctx) (M:Plan) (w:World) (K:CRes->List CObj->Prop) (ch:List PanicEntry) (w':World):Prop :=
 ∃ c v σ' M',ch=[{ v,recovered:=false}]/\Ext M w M' w'/\Rel C M' σ' w'/\RV M' w' c v/\K (.pan c) σ'
def Does (C:Ctx) (σ:List CObj) (E:Env) (o:Oper) (K:CRes->List CObj->Prop):Prop :=
 ∀ (M:Plan) (w:World) (ρ:Operand->Value),Rel C M σ w->(∀ x∈o.op.operands,E.valid x->RV M w (E.val C x) (ρ x)) ->
  Upon C.P (After C M w K) (AfterPan C M w K) ((execOp ρ o).run C.P w)
def Yields (C:Ctx) (σ:List CObj) (E:Env) (o:Oper) (c:CV):Prop:=Does C σ E o fun r σ'=>r = .ret c/\σ'=σ
def CCalls (C:Ctx) (f:FuncId) (args:List CV) (σ:List CObj) (K:CRes->List CObj->Prop):Prop :=
 ∀ (M:Plan) (w:World) (vs:Array Value),Rel C M σ w->vs.size=args.length->(∀ (i:Nat) (c:CV),args[i]? = some c->RV M w c (vs.getD i undef)) ->
  Calls C.P f vs w fun
   | .returned v,w'=>After C M w K v w'
   | .panicked ch,w'=>AfterPan C M w K ch w'
   | .outgrown,_=>False
theorem After.mono (h:∀ r σ,K r σ->K' r σ) (ha:After C M w K v w'):After C M w K' v w':=by
 obtain ⟨c,σ',M',h1,h2,h3,h4⟩:=ha;exact ⟨c,σ',M',h1,h2,h3,h _ _ h4⟩
theorem AfterPan.mono (h:∀ r σ,K r σ->K' r σ) {v:List PanicEntry} (ha:AfterPan C M w K v w'):AfterPan C M w K' v w':=by
 obtain ⟨c,u,σ',M',h0,h1,h2,h3,h4⟩:=ha;exact ⟨c,u,σ',M',h0,h1,h2,h3,h _ _ h4⟩
theorem Does.mono (hd:Does C σ E o K) (h:∀ r σ,K r σ->K' r σ):Does C σ E o K' :=
 fun M w ρ hr hx=>(hd M w ρ hr hx).mono (fun _ _=>After.mono h) (fun _ _=>AfterPan.mono h)
theorem CCalls.mono {f:FuncId} {args:List CV} (hd:CCalls C f args σ K) (h:∀ r σ,K r σ->K' r σ):CCalls C f args σ K' :=
 fun M w vs hr hn hx=>(hd M w vs hr hn hx).mono fun e w' he=>by
  cases e with
  | returned v=>exact After.mono h he
  | panicked c=>exact AfterPan.mono h he
  | outgrown=>exact he
inductive CExit where
 | normal
 | exit (id:Nat)
 | goto (l:Nat)
 | ret
 | pan (c:CV)
variable {Q:CExit->Env->List CObj->Prop}
def Lift (C:Ctx) (n:Nat) (Q:CExit->Env->List CObj->Prop) (M:Plan) (w:World) (e:Exit) (a':Act) (w':World):Prop :=
 ∃ E' σ' M',Ext M w M' w'/\Rel C M' σ' w'/\FRel M' w' n E' a' /\
  match e with
  | .normal=>Q .normal E' σ'
  | .exit id=>Q (.exit id) E' σ'
  | .goto l=>Q (.goto l) E' σ'
  | .ret=>Q .ret E' σ'
  | .panic ch=>∃ c v,ch=[{ v,recovered:=false}]/\RV M' w' c v/\Q (.pan c) E' σ'
  | .outgrown=>False
def CWp (C:Ctx) (n:Nat) (c:Code) (Q:CExit->Env->List CObj->Prop) (E:Env) (σ:List CObj):Prop :=
 ∀ (M:Plan) (w:World) (a:Act),Rel C M σ w->FRel M w n E a->c.wp C.P (Lift C n Q M w) a w
def COps (C:Ctx) (n:Nat) (ops:Array Oper) (Q:CExit->Env->List CObj->Prop) (l:List Oper) (E:Env) (σ:List CObj):Prop :=
 ∀ (M:Plan) (w:World) (a:Act),Rel C M σ w->FRel M w n E a->wpList C.P ops (Lift C n Q M w) l a w
theorem Lift.mono {Q':CExit->Env->List CObj->Prop} (h:∀ e E σ,Q e E σ->Q' e E σ) {e:Exit} (hl:Lift C n Q M w e a w'):Lift C n Q' M w e a w':=by
 obtain ⟨E',σ',M',h1,h2,h3,h4⟩:=hl;refine ⟨E',σ',M',h1,h2,h3,?_⟩;cases e <;> first|exact h _ _ _ h4|(obtain ⟨c,v,hc,hv,hq⟩:=h4; exact ⟨c,v,hc,hv,h _ _ _ hq⟩)|exact h4
theorem Lift.later {M1:Plan} {w1:World} (he:Ext M w M1 w1) {e:Exit} (hl:Lift C n Q M1 w1 e a w'):Lift C n Q M w e a w':=by
 obtain ⟨E',σ',M',h1,h2,h3,h4⟩:=hl;exact ⟨E',σ',M',he.trans h1,h2,h3,h4⟩
theorem CWp.mono {c:Code} {Q':CExit->Env->List CObj->Prop} (h:CWp C n c Q E σ) (hq:∀ e E σ,Q e E σ->Q' e E σ):CWp C n c Q' E σ :=
 fun M w a hr hf=>wp_mono (h M w a hr hf) fun _ _ _=>Lift.mono hq
def CExit.next (k:Env->List CObj->Prop) (Q:CExit->Env->List CObj->Prop):CExit->Env->List CObj->Prop
 | .normal=>k
 | e=>Q e
section
theorem cw_skip (h:Q .normal E σ):CWp C n .skip Q E σ:=fun M w _ hr hf=>wp_skip ⟨E,σ,M,Ext.refl M w,hr,hf,h⟩
theorem cw_label {l:Nat} (h:Q .normal E σ):CWp C n (.label l) Q E σ:=fun M w _ hr hf=>wp_label ⟨E,σ,M,Ext.refl M w,hr,hf,h⟩
theorem cw_exit (h:Q (.exit id) E σ):CWp C n (.exit id) Q E σ:=fun M w _ hr hf=>wp_exit ⟨E,σ,M,Ext.refl M w,hr,hf,h⟩
theorem cw_ret (h:Q .ret E σ):CWp C n .ret Q E σ:=fun M w _ hr hf=>wp_ret ⟨E,σ,M,Ext.refl M w,hr,hf,h⟩
theorem cw_seq (h:CWp C n x (CExit.next (CWp C n y Q) Q) E σ):CWp C n (.seq x y) Q E σ:=fun M w a hr hf=>by
 refine wp_seq (wp_mono (h M w a hr hf) fun e a' w' hl=>?_);obtain ⟨E',σ',M',h1,h2,h3,h4⟩:=hl;cases e with
 | normal=>exact wp_mono (h4 M' w' a' h2 h3) fun _ _ _=>Lift.later h1
 | _=>exact ⟨E',σ',M',h1,h2,h3,h4⟩
theorem cw_cond {c:Operand} (hv:E.valid c) (hc:E.val C c = .val (.bool b)) (ht:b=true->CWp C n x Q E σ) (hf':b=false->CWp C n y Q E σ):CWp C n (.cond c x y) Q E σ:=fun M w a hr hf=>by
 have h1:RV M w (E.val C c) (a.eval c):=hf.eval hr hv;rw [hc] at h1;have h2:a.eval c = .bool b:=by generalize a.eval c=u at h1; cases h1; rfl
 exact wp_cond_split h2 (fun h=>ht h M w a hr hf) (fun h=>hf' h M w a hr hf)
def CExit.blk (id:Nat) (Q:CExit->Env->List CObj->Prop):CExit->Env->List CObj->Prop
 | .exit id',E,σ=>if id'=id then Q .normal E σ else Q (.exit id') E σ
 | e,E,σ=>Q e E σ
theorem cw_block {c:Code} (h:CWp C n c (CExit.blk id Q) E σ):CWp C n (.block id c) Q E σ:=fun M w a hr hf=>by
 refine wp_block (wp_mono (h M w a hr hf) fun e a' w' hl=>?_);obtain ⟨E',σ',M',h1,h2,h3,h4⟩:=hl;cases e with
 | exit id' =>
  simp only [Exit.inBlock];simp only [CExit.blk] at h4
  split <;> rename_i hid
  ·rw [if_pos hid] at h4; exact ⟨E',σ',M',h1,h2,h3,h4⟩
  ·rw [if_neg hid] at h4; exact ⟨E',σ',M',h1,h2,h3,h4⟩
 | _=>exact ⟨E',σ',M',h1,h2,h3,h4⟩
theorem cw_loop {c:Code} (I:Nat->Env->List CObj->Prop) (m:Nat) (h0:I m E σ)
 (round:∀ m E σ,I m E σ->CWp C n c (CExit.next (fun E' σ'=>∃ m',m' < m/\I m' E' σ') Q) E σ):CWp C n (.loop c) Q E σ:=fun M w a hr hf=>by
 intro b k cs;have key:∀ m E σ M1 w1 a1,I m E σ->Ext M w M1 w1->Rel C M1 σ w1->FRel M1 w1 n E a1 ->
  ∃ e a' w',Lift C n Q M w e a' w'/\Arrives C.P (lone (b.at a1 (.code c::.inLoop c::k)) cs w1) b k cs e a' w':=by
  intro m
  induction m using Nat.strongRecOn with
  | _ m ih =>
   intro E σ M1 w1 a1 hI hx hr1 hf1;obtain ⟨e,a2,w2,hq,harr⟩:=round m E σ hI M1 w1 a1 hr1 hf1 b (.inLoop c::k) cs;obtain ⟨E',σ',M',h1,h2,h3,h4⟩:=hq;cases e with
   | normal =>
    obtain ⟨m',hlt,hI'⟩:=h4;obtain ⟨e₂,a₂,w₂,hq₂,harr₂⟩:=ih m' hlt E' σ' M' w2 a2 hI' (hx.trans h1) h2 h3;exact ⟨e₂,a₂,w₂,hq₂,.of_steps (Steps.trans harr (.one step_inLoop)) harr₂⟩
   | exit id=>exact ⟨_,a2,w2,⟨E',σ',M',hx.trans h1,h2,h3,h4⟩,.pass (x:=.inLoop c) rfl (fun _ _=>.inl si_) harr⟩
   | goto l=>exact ⟨_,a2,w2,⟨E',σ',M',hx.trans h1,h2,h3,h4⟩,.pass (x:=.inLoop c) rfl (fun _ _=>.inl si_) harr⟩
   | ret=>exact ⟨_,a2,w2,⟨E',σ',M',hx.trans h1,h2,h3,h4⟩,.pass (x:=.inLoop c) rfl (fun _ _=>.inl si_) harr⟩
   | panic ch=>exact ⟨_,a2,w2,⟨E',σ',M',hx.trans h1,h2,h3,h4⟩,.pass (x:=.inLoop c) rfl (fun _ _=>.inl si_) harr⟩
   | outgrown=>exact h4.elim
 obtain ⟨e,a',w',hq,harr⟩:=key m E σ M w a h0 (Ext.refl M w) hr hf;exact ⟨e,a',w',hq,.of_steps (.one step_loop) harr⟩
theorem cw_region (h:COps C n ops Q ops.toList E σ):CWp C n (.region id ops false) Q E σ :=
 fun M w a hr hf=>wp_region_list (h M w a hr hf)
theorem co_nil (h:Q .normal E σ):COps C n ops Q [] E σ:=fun M w _ hr hf=>wpList_nil ⟨E,σ,M,Ext.refl M w,hr,hf,h⟩
theorem COps.later (h:COps C n ops Q l E σ) {M1:Plan} {w1:World} (hx:Ext M w M1 w1) (hr:Rel C M1 σ w1) (hf:FRel M1 w1 n E a):wpList C.P ops (Lift C n Q M w) l a w1:=by
 have:=h M1 w1 a hr hf;have hm:∀ (l:List Oper) (a:Act) (w2:World),wpList C.P ops (Lift C n Q M1 w1) l a w2->wpList C.P ops (Lift C n Q M w) l a w2:=by
  intro l
  induction l with
  | nil=>exact fun a w2 h=>Lift.later hx h
  | cons o l ih =>
   intro a w2 h;unfold wpList at h ⊢
   split
   ·rename_i hw;rw [if_pos hw] at h;refine h.imp (fun h=>?_) (fun ⟨h1,a0,w0,hl⟩=>⟨h1,a0,w0,Lift.later hx hl⟩);unfold Oper.wp at h ⊢;generalize (execOp a.eval o).run C.P w2=r at h;cases r with
    | ok x w3 =>
     cases x <;> simp only [Oper.upon] at h ⊢
     case value v=>exact ih _ _ h
     case skip=>exact ih _ _ h
     case defer d=>exact ih _ _ h
     case enter f args =>
      refine h.mono fun e w4 he=>?_;cases e with
      | returned v=>exact ih _ _ he
      | panicked ch=>exact Lift.later hx he
      | outgrown=>obtain ⟨a0,w0,hl⟩:=he; exact ⟨a0,w0,Lift.later hx hl⟩
     case row r args=>exact Rows.mono h fun _ _ he=>ih _ _ he
    | halt x w3 =>
     cases x <;> simp only [Oper.upon] at h ⊢
     exact Lift.later hx h
   ·rename_i hw;rw [if_neg hw] at h;exact ih _ _ h
 exact hm _ _ _ this
theorem co_cons (hg:o.guard=none) (hd:(match o.dst with | some d=>d < n | none=>True))
 (h:Does C σ E o fun r σ'=>match r with
  | .ret c=>COps C n ops Q l (E.put o.dst c True) σ'
  | .pan c=>Q (.pan c) E σ'):COps C n ops Q (o::l) E σ:=fun M w a hr hf=>by
 unfold wpList;rw [if_pos q_264];refine .inl (wp_of_upon (h M w a.eval hr fun x _ hx=>hf.eval hr hx) (fun v w' ha=>?_) (fun ch w' ha=>?_))
 ·obtain ⟨c,σ',M',h1,h2,h3,h4⟩:=ha;exact h4.later h1 h2 ((hf.mono h1).put (fun t ht=>by rw [ht] at hd; exact hd) (fun _=>h3) fun hh=>absurd trivial hh)
 ·obtain ⟨c,v,σ',M',h0,h1,h2,h3,h4⟩:=ha;exact ⟨E,σ',M',h1,h2,hf.mono h1,c,v,h0,h3,h4⟩
theorem co_guard (hg:o.guard=some (j,want)) (ht:(ops[j]?).bind (·.dst)=some t) (hv:E.ok t) (hb:E.f t = .val (.bool b))
 (hd:(match o.dst with | some d=>d < n | none=>True)) (hy:b=want->Yields C σ E o c) (h:COps C n ops Q l (E.put o.dst c (b=want)) σ):COps C n ops Q (o::l) E σ:=fun M w a hr hf=>by
 have h1:RV M w (E.f t) (a.tmps.getD t undef):=hf.rv t hv;rw [hb] at h1;have h2:a.tmps.getD t undef = .bool b:=by generalize a.tmps.getD t undef=u at h1; cases h1; rfl
 have hsz:t < a.tmps.size:=by
  rcases n_23 t a.tmps.size with h' | h'
  ·exact h'
  ·simp [n_43 h',undef] at h2
 have hw:Region.wanted o (yielded ops a.tmps)=(b == want):=by
  have h3:a.tmps[t]? = some (.bool b):=by
   rw [n_21,n_24 hsz] at h2;rw [n_24 hsz,<- h2]; rfl
  have h4:yielded ops a.tmps j=some b:=by unfold yielded; rw [ht,n_6,h3]
  simp only [Region.wanted,hg,h4];cases b <;> cases want <;> rfl
 have hd':∀ t,o.dst=some t->t < n:=fun t ht=>by rw [ht] at hd; exact hd
 unfold wpList;by_cases hbw:b=want
 ·rw [if_pos q_263];refine .inl (wp_of_upon (hy hbw M w a.eval hr fun x _ hx=>hf.eval hr hx) (fun v w' ha=>?_) (fun ch w' ha=>?_))
  ·obtain ⟨c',σ',M',h1,h2,h3,h4,rfl⟩:=ha;injection h4 with h4
   subst h4;exact h.later h1 h2 ((hf.mono h1).put hd' (fun _=>h3) fun hh=>absurd hbw hh)
  ·obtain ⟨c',v,σ',M',h0,h1,h2,h3,h4,_⟩:=ha;cases h4
 ·rw [if_neg q_263];exact h.later (Ext.refl M w) hr (hf.put hd' (fun hh=>absurd hh hbw) fun _=>rfl)
theorem co_guard2 (hg:o.guard=some (j,want)) (ht:(ops[j]?).bind (·.dst)=some t) (hv:¬ E.ok t->E.un t) (hb:E.f t = .val (.bool b))
 (hd:(match o.dst with | some d=>d < n | none=>True)) (hy:E.ok t->b=want->Yields C σ E o c) (h:COps C n ops Q l (E.put o.dst c (E.ok t/\b=want)) σ):COps C n ops Q (o::l) E σ:=by
 by_cases hok:E.ok t
 ·have e:(E.ok t/\b=want)=(b=want):=propext ⟨fun h=>h.2,fun h=>⟨hok,h⟩⟩;rw [e] at h;exact co_guard hg ht hok hb hd (hy hok) h
 ·intro M w a hr hf;have h2:=hf.un t (hv hok);have hd':∀ t,o.dst=some t->t < n:=fun t ht=>by rw [ht] at hd; exact hd
  have hw:Region.wanted o (yielded ops a.tmps)=false:=by
   have h4:yielded ops a.tmps j=none:=by
    unfold yielded;rw [ht,n_6]
    rcases n_23 t a.tmps.size with h' | h'
    ·rw [n_21,n_24 h'] at h2;rw [n_24 h'];simp only [n_44] at h2;rw [h2];rfl
    ·rw [n_43 h']
   simp only [Region.wanted,hg,h4];cases want <;> rfl
  unfold wpList;rw [if_neg (by rw [hw]; simp)];exact h.later (Ext.refl M w) hr (hf.put hd' (fun hh=>absurd hh.1 hok) fun _=>rfl)
end
section
theorem co_y (hg:o.guard=none) (hd:(match o.dst with | some d=>Nat.blt d n | none=>true)=true) (hy:Yields C σ E o c) (h:COps C n ops Q l (E.put o.dst c True) σ):COps C n ops Q (o::l) E σ :=
 co_cons hg (by
  cases hd':o.dst with
  | none=>trivial
  | some d=>rw [hd'] at hd; simpa [n_30] using hd) (hy.mono fun r σ' hr=>by
  obtain ⟨rfl,rfl⟩:=hr;exact h)
theorem co_d {ops:Array Oper} {o:Oper} {l:List Oper} (hg:o.guard=none) (hd:(match o.dst with | some d=>Nat.blt d n | none=>true)=true) (h:Does C σ E o fun r σ'=>match r with
 | .ret c=>COps C n ops Q l (E.put o.dst c True) σ'
 | .pan c=>Q (.pan c) E σ'):COps C n ops Q (o::l) E σ :=
 co_cons hg (by
  cases hd':o.dst with
  | none=>trivial
  | some d=>rw [hd'] at hd; simpa [n_30] using hd) h
theorem co_g (hg:o.guard=some (j,want)) (ht:(ops[j]?).bind (·.dst)=some t) (hv:E.ok t) (hb:E.f t = .val (.bool b))
 (hd:(match o.dst with | some d=>Nat.blt d n | none=>true)=true) (hy:b=want->Yields C σ E o c) (h:COps C n ops Q l (E.put o.dst c (b=want)) σ):COps C n ops Q (o::l) E σ :=
 co_guard hg ht hv hb (by
  cases hd':o.dst with
  | none=>trivial
  | some d=>rw [hd'] at hd; simpa [n_30] using hd) hy h
theorem co_g2 (hg:o.guard=some (j,want)) (ht:(ops[j]?).bind (·.dst)=some t) (hv:¬ E.ok t->E.un t) (hb:E.f t = .val (.bool b))
 (hd:(match o.dst with | some d=>Nat.blt d n | none=>true)=true) (hy:E.ok t->b=want->Yields C σ E o c) (h:COps C n ops Q l (E.put o.dst c (E.ok t/\b=want)) σ):COps C n ops Q (o::l) E σ :=
 co_guard2 hg ht hv hb (by
  cases hd':o.dst with
  | none=>trivial
  | some d=>rw [hd'] at hd; simpa [n_30] using hd) hy h
def Env.is (E:Env):List (Nat × CV)->Prop
 | []=>True
 | (t,c)::l=>(E.ok t/\E.f t=c)/\E.is l
def Env.puts (E:Env):List (Nat × CV)->Env
 | []=>E
 | (t,c)::l=>(E.puts l).put (some t) c True
theorem FRel.puts (hf:FRel M w n E a):∀ {l:List (Nat × CV)},E.is l->FRel M w n (E.puts l) a
 | [],_=>hf
 | (t,c)::l,⟨⟨h1,h2⟩,h⟩=>by
  have ih:=hf.puts h;refine ⟨hf.defers,hf.size,fun x hx=>?_,fun x hx=>?_⟩
  ·rw [Env.puts,Env.put_f];rw [Env.puts,Env.put_ok] at hx
   split
   ·subst x; exact h2 ▸ hf.rv t h1
   ·rename_i hne;rw [if_neg hne] at hx;exact ih.rv x hx
  ·rw [Env.puts,Env.put_un] at hx;split at hx
   ·exact absurd trivial hx
   ·exact ih.un x hx
theorem CWp.puts {c:Code} {l:List (Nat × CV)} (h:CWp C n c Q (E.puts l) σ) (hE:E.is l):CWp C n c Q E σ:=fun M w a hr hf=>h M w a hr (hf.puts hE)
theorem cw_loop' {α:Type} {c:Code} (l:α->List (Nat × CV)) (S:α->List CObj) (I:α->Prop) (m:α->Nat) (a0:α) (h0:I a0) (hE:E.is (l a0)) (hσ:σ=S a0)
 (round:∀ (a:α) (E0:Env),I a->CWp C n c (CExit.next (fun E' σ'=>∃ a',m a' < m a/\I a'/\E'.is (l a')/\σ'=S a') Q) (E0.puts (l a)) (S a)):CWp C n (.loop c) Q E σ:=by
 refine cw_loop (fun k E σ=>∃ a,k=m a/\I a/\E.is (l a)/\σ=S a) (m a0) ⟨a0,rfl,h0,hE,hσ⟩ fun k E σ hI=>?_;obtain ⟨a,rfl,hI,hE,rfl⟩:=hI;refine ((round a E hI).puts hE).mono fun e E' σ' h=>?_;cases e with
 | normal =>
  obtain ⟨a',h1,h2,h3,h4⟩:=h;exact ⟨m a',h1,a',rfl,h2,h3,h4⟩
 | _=>exact h
theorem cw_cut {α:Type} (l:α->List (Nat × CV)) (S:α->List CObj) (I:α->Prop) (h:CWp C n x (CExit.next (fun E' σ'=>∃ a,I a/\E'.is (l a)/\σ'=S a) Q) E σ) (k:∀ (a:α) (E0:Env),I a->CWp C n y Q (E0.puts (l a)) (S a)):CWp C n (.seq x y) Q E σ:=by
 refine cw_seq (h.mono fun e E' σ' h=>?_);cases e with
 | normal =>
  obtain ⟨a,h1,h2,rfl⟩:=h;exact (k a E' h1).puts h2
 | _=>exact h
end
def CResults (C:Ctx) (E:Env) (σ:List CObj) (fn:Func) (c:CV):Prop :=
 ∀ (M:Plan) (w:World) (a:Act),Rel C M σ w->(∀ t,E.ok t->RV M w (E.f t) (a.tmps.getD t undef))->∃ v,(results fn a.tmps).run C.P w = .ok v w/\RV M w c v
def Env.args (args:List CV):Env:={ f:=fun t=>args.getD t (.val undef),ok:=fun _=>True,un:=fun _=>False}
def Fin (C:Ctx) (fn:Func) (K:CRes->List CObj->Prop):CExit->Env->List CObj->Prop
 | .normal,E,σ | .ret,E,σ=>∃ c,CResults C E σ fn c/\K (.ret c) σ
 | .pan c,_,σ=>K (.pan c) σ
 | _,_,_=>False
theorem ccalls_of {f:FuncId} {fn:Func} {c:Code} {args:List CV} (hf:C.P.funcs[f]? = some fn) (hb:fn.body=some c) (hn':Nat.ble args.length fn.ntmps=true)
 (h:CWp C fn.ntmps c (Fin C fn K) (Env.args args) σ):CCalls C f args σ K:=fun M w vs hr hsz hx=>by
 have hn:=nb hn';refine calls_of_wp hf hb (wp_mono (h M w _ hr ⟨rfl,by simp; omega,fun t _=>?_,fun t ht=>ht.elim⟩) fun e a w' hl=>?_)
 ·simp only [Env.args]
  rcases n_23 t args.length with ht | ht
  ·have:=hx t (args[t]) (by simp [ht]);have h1:(vs++Array.replicate (fn.ntmps - vs.size) undef).getD t undef=vs.getD t undef:=by
    simp [n_100,hsz,ht]
   rw [h1];simpa [ht] using this
  ·have h1:(vs++Array.replicate (fn.ntmps - vs.size) undef).getD t undef=undef:=by
    simp only [n_21,n_100];rw [if_neg om_];rw [n_113]
    split <;> rfl
   rw [h1];simp only [n_37,n_84 ht,Option.getD_none];exact .val _
 ·obtain ⟨E',σ',M',h1,h2,h3,h4⟩:=hl;cases e with
  | normal =>
   obtain ⟨c,hc,hk⟩:=h4;obtain ⟨v,hv,hrv⟩:=hc M' w' a h2 h3.rv;exact ⟨h3.defers,v,hv,c,σ',M',h1,h2,hrv,hk⟩
  | ret =>
   obtain ⟨c,hc,hk⟩:=h4;obtain ⟨v,hv,hrv⟩:=hc M' w' a h2 h3.rv;exact ⟨h3.defers,v,hv,c,σ',M',h1,h2,hrv,hk⟩
  | panic ch =>
   obtain ⟨c,v,h0,hv,hk⟩:=h4;exact ⟨h3.defers,c,v,σ',M',h0,h1,h2,hv,hk⟩
  | exit id=>exact h4.elim
  | goto l=>exact h4.elim
  | outgrown=>exact h4.elim
end Go.Cl
namespace Go.Cl
open Sem
variable {x y:Operand} {t t' e:TypeId} {c:CV} {a b:Int} {s off:Nat} {w:World} {v:Value} {rows:List (List CV)} {nn:Bool} {tok:Option Nat} {cells:List CV}
theorem rv_val {M:Plan} {u:Value} (h:RV M w (.val v) u):u=v:=by cases h; rfl
theorem add_none (b off n:Nat):(⟨b,off,none⟩:Addr).add n=⟨b,off+n,none⟩:=by
 unfold Addr.add
 split
 ·simp [*]
 ·rfl
theorem run_loadCellsFrom' {P:Program} {w:World} {a:Addr} (f:Nat->Value):∀ (n i:Nat) (acc:Array Value),(∀ j,j < n->w.cell? (a.add (i+j))=some (f (i+j))) ->
 (loadCellsFrom a i n acc).run P w = .ok (acc++((List.range' i n).map f).toArray) w
 | 0,i,acc,_=>by simp [loadCellsFrom]
 | n+1,i,acc,h=>by
  have h0:=h 0 om_;rw [n_38] at h0;have ih:=run_loadCellsFrom' (P:=P) (w:=w) (a:=a) f n (i+1) (acc.push (f i)) (fun j hj=>by
   have:=h (j+1) om_;rwa [show i+(j+1)=i+1+j from by omega] at this)
  simp only [loadCellsFrom,Sem.run_bind,run_load,h0,Result.andThen_ok,ih,List.range'_succ,n_65];simp
theorem run_loadCells' {P:Program} {b:Nat} (f:Nat->Value) (n:Nat) (h:∀ j,j < n->w.cell? ⟨b,off+j,none⟩=some (f j)) :
 (loadCells ⟨b,off,none⟩ n).run P w = .ok ((List.range n).map f).toArray w:=by
 unfold loadCells;rw [run_loadCellsFrom' f n 0 #[] (fun j hj=>by rw [add_none]; simpa using h j hj)];simp [List.range_eq_range']
section
variable {C:Ctx} {σ:List CObj} {E:Env} {o:Oper}
theorem yields_same (h:∀ (M:Plan) (w:World) (ρ:Operand->Value),Rel C M σ w->(∀ x∈o.op.operands,E.valid x->RV M w (E.val C x) (ρ x))->∃ v,(execOp ρ o).run C.P w = .ok (.value v) w/\RV M w c v):Yields C σ E o c :=
 fun M w ρ hr hx=>by
  obtain ⟨v,h1,h2⟩:=h M w ρ hr hx;rw [h1];exact ⟨c,σ,M,Ext.refl M w,hr,h2,rfl,rfl⟩
theorem y_move (ho:o.op = .move x) (hx:E.valid x) (ec:E.val C x=c):Yields C σ E o c :=
 yields_same fun M w ρ _ h=>⟨ρ x,by simp [execOp,ho],ec ▸ h x q_265 hx⟩
theorem y_assign (ho:o.op = .assign x) (hx:E.valid x) (ec:E.val C x=c):Yields C σ E o c :=
 yields_same fun M w ρ _ h=>⟨ρ x,by simp [execOp,ho],ec ▸ h x q_265 hx⟩
theorem y_pick_or {b d:Bool} (ho:o.op = .pick x (.const (.bool true)) y) (hx:E.valid x) (ex:E.val C x = .val (.bool b)) (hy:b=false->E.valid y) (ey:b=false->E.val C y = .val (.bool d)):Yields C σ E o (.val (.bool (b || d))) :=
 yields_same fun M w ρ _ h=>by
  have h1:=h x q_265 hx;have h0:=h (.const (.bool true)) q_265 rfl;rw [ex] at h1;have e1:=rv_val h1;have e0:ρ (.const (.bool true)) = .bool true:=rv_val h0;cases b with
  | true=>exact ⟨.bool true,by simp [execOp,ho,e1,e0,asBool],.val _⟩
  | false =>
   have h2:=h y q_265 (hy rfl);rw [ey rfl] at h2;have e2:=rv_val h2;exact ⟨.bool d,by simp [execOp,ho,e1,e2,asBool],.val _⟩
theorem y_pick_and {b d:Bool} (ho:o.op = .pick x y (.const (.bool false))) (hx:E.valid x) (ex:E.val C x = .val (.bool b)) (hy:b=true->E.valid y) (ey:b=true->E.val C y = .val (.bool d)):Yields C σ E o (.val (.bool (b && d))) :=
 yields_same fun M w ρ _ h=>by
  have h1:=h x q_265 hx;have h0:=h (.const (.bool false)) q_265 rfl;rw [ex] at h1;have e1:=rv_val h1;have e0:ρ (.const (.bool false)) = .bool false:=rv_val h0;cases b with
  | false=>exact ⟨.bool false,by simp [execOp,ho,e1,e0,asBool],.val _⟩
  | true =>
   have h2:=h y q_265 (hy rfl);rw [ey rfl] at h2;have e2:=rv_val h2;exact ⟨.bool d,by simp [execOp,ho,e1,e2,asBool],.val _⟩
def cint (op:BinOp) (k:IntKind) (a b:Int):Option Value :=
 match op with
 | .add=>some (.int k (k.wrap (a+b)))
 | .sub=>some (.int k (k.wrap (a - b)))
 | .mul=>some (.int k (k.wrap (a*b)))
 | .quo=>if b=0 then none else some (.int k (k.wrap (a.tdiv b)))
 | .rem=>if b=0 then none else some (.int k (a.tmod b))
 | .eql=>some (.bool (a == b))
 | .neq=>some (.bool (a != b))
 | .lss=>some (.bool (a < b))
 | .leq=>some (.bool (a<=b))
 | .gtr=>some (.bool (a > b))
 | .geq=>some (.bool (a>=b))
 | _=>none
theorem y_int {op:BinOp} {k:IntKind} (ho:o.op = .binOp op t x y t') (hx:E.valid x) (hy:E.valid y) (ex:E.val C x = .val (.int k a)) (ey:E.val C y = .val (.int k b)) (hv:cint op k a b=some v):Yields C σ E o (.val v) :=
 yields_same fun M w ρ _ h=>by
  have h1:=h x q_265 hx;have h2:=h y q_265 hy;rw [ex] at h1;rw [ey] at h2;have e1:=rv_val h1;have e2:=rv_val h2;refine ⟨v,?_,.val _⟩;cases op <;> simp only [cint] at hv
  case quo =>
   by_cases hb:b=0
   ·simp [hb] at hv
   ·rw [if_neg hb] at hv; injection hv with hv
    subst hv;simp [execOp,ho,e1,e2,eqGuard,binOp,Op.intDiv,hb]
  case rem =>
   by_cases hb:b=0
   ·simp [hb] at hv
   ·rw [if_neg hb] at hv; injection hv with hv
    subst hv;simp [execOp,ho,e1,e2,eqGuard,binOp,Op.intDiv,hb]
  all_goals first
   | (cases hv; done)
   | (injection hv with hv; subst hv; simp [execOp,ho,e1,e2,eqGuard,binOp,Op.intArith,Op.intCmp])
theorem wr64 {x:Int} (h1 : -9223372036854775808<=x) (h2:x<=9223372036854775807):IntKind.i64.wrap x=x:=by
 rw [IntKind.wrap_i64]; omega
theorem y_add (ho:o.op = .binOp .add t x y t') (hx:E.valid x) (hy:E.valid y) (ex:E.val C x = .val (.int .i64 a)) (ey:E.val C y = .val (.int .i64 b)) (h1 : -9223372036854775808<=a+b) (h2:a+b<=9223372036854775807):Yields C σ E o (.val (.int .i64 (a+b))):=by
 have:=y_int (σ:=σ) (v:=.int .i64 (IntKind.i64.wrap (a+b))) ho hx hy ex ey rfl;rwa [wr64 h1 h2] at this
theorem y_sub (ho:o.op = .binOp .sub t x y t') (hx:E.valid x) (hy:E.valid y) (ex:E.val C x = .val (.int .i64 a)) (ey:E.val C y = .val (.int .i64 b)) (h1 : -9223372036854775808<=a - b) (h2:a - b<=9223372036854775807):Yields C σ E o (.val (.int .i64 (a - b))):=by
 have:=y_int (σ:=σ) (v:=.int .i64 (IntKind.i64.wrap (a - b))) ho hx hy ex ey rfl;rwa [wr64 h1 h2] at this
theorem y_mul (ho:o.op = .binOp .mul t x y t') (hx:E.valid x) (hy:E.valid y) (ex:E.val C x = .val (.int .i64 a)) (ey:E.val C y = .val (.int .i64 b)) (h1 : -9223372036854775808<=a*b) (h2:a*b<=9223372036854775807):Yields C σ E o (.val (.int .i64 (a*b))):=by
 have:=y_int (σ:=σ) (v:=.int .i64 (IntKind.i64.wrap (a*b))) ho hx hy ex ey rfl;rwa [wr64 h1 h2] at this
def cstr (op:BinOp) (a b:ByteArray):Option Bool :=
 match op with
 | .eql=>some (a.toList == b.toList)
 | .neq=>some (!(a.toList == b.toList))
 | .lss=>some (Op.bytesLess a.toList b.toList)
 | .leq=>some (Op.bytesLess a.toList b.toList || a.toList == b.toList)
 | .gtr=>some (!(Op.bytesLess a.toList b.toList || a.toList == b.toList))
 | .geq=>some (!Op.bytesLess a.toList b.toList)
 | _=>none
theorem y_strcmp {op:BinOp} {a b:ByteArray} {r:Bool} (ho:o.op = .binOp op t x y t') (hx:E.valid x) (hy:E.valid y) (ex:E.val C x = .val (.string a)) (ey:E.val C y = .val (.string b)) (hv:cstr op a b=some r):Yields C σ E o (.val (.bool r)) :=
 yields_same fun M w ρ _ h=>by
  have h1:=h x q_265 hx;have h2:=h y q_265 hy;rw [ex] at h1;rw [ey] at h2;have e1:=rv_val h1;have e2:=rv_val h2;refine ⟨.bool r,?_,.val _⟩;cases op <;> simp only [cstr] at hv <;> first
   | (cases hv; done)
   | (injection hv with hv; subst hv; simp [execOp,ho,e1,e2,eqGuard,binOp,Op.stringOp])
theorem y_not {b:Bool} (ho:o.op = .unOp .not t x) (hx:E.valid x) (ex:E.val C x = .val (.bool b)):Yields C σ E o (.val (.bool (!b))) :=
 yields_same fun M w ρ _ h=>by
  have h1:=h x q_265 hx;rw [ex] at h1;exact ⟨.bool (!b),by simp [execOp,ho,rv_val h1,Op.unary],.val _⟩
theorem y_neg {k:IntKind} (ho:o.op = .unOp .neg t x) (hx:E.valid x) (ex:E.val C x = .val (.int k a)):Yields C σ E o (.val (.int k (k.wrap (0 - a)))) :=
 yields_same fun M w ρ _ h=>by
  have h1:=h x q_265 hx;rw [ex] at h1;exact ⟨.int k (k.wrap (0 - a)),by simp [execOp,ho,rv_val h1,Op.unary,Op.intArith],.val _⟩
theorem y_extract {i:Nat} {cs:List CV} (ho:o.op = .extract x i) (hx:E.valid x) (ex:E.val C x = .tup cs) (hi:cs[i]? = some c):Yields C σ E o c :=
 yields_same fun M w ρ _ h=>by
  have h1:=h x q_265 hx;rw [ex] at h1;generalize hu:ρ x=u at h1;cases h1 with
  | tup hsz hrv =>
   rename_i vs;have hlt:i < vs.size:=by rw [hsz]; exact (n_1.1 hi).1
   refine ⟨vs.getD i undef,?_,hrv i c hi⟩;simp [execOp,ho,hu,Instr.extract,hlt]
theorem RV.list_inv {M:Plan} (h:RV M w (.list rows nn tok) v) :
 ∃ (a:Option Addr) (cap b off s:Nat) (vals:Nat->Nat->Value),v = .slice a rows.length cap/\rows.length<=cap/\cap<=maxLen/\a.isSome=nn/\(nn=false->cap=0)/\(rows≠[]->a=some ⟨b,off,none⟩) /\
  (∀ r∈rows,r.length=s)/\(∀ r∈rows,∀ c∈r,c.one=true) /\
  (∀ (i j:Nat) (r:List CV) (c:CV),rows[i]? = some r->r[j]? = some c->M.at b (off+i*s+j)/\w.cell? ⟨b,off+i*s+j,none⟩=some (vals i j)) /\
  (∀ (i j:Nat) (r:List CV) (c:CV),rows[i]? = some r->r[j]? = some c->RV M w c (vals i j)) /\
  (∀ k,tok=some k->∃ s',M.pl[k]? = some ⟨b,cap,s'⟩/\a=some ⟨b,0,none⟩/\off=0/\(rows≠[]->s'=s)):=by
 cases h with
 | list vals h1 h2 h3 h4 h5 h6 h7 h8 h9 h10=>exact ⟨_,_,_,_,_,vals,rfl,h1,h2,h3,h4,h5,h6,h7,h8,h9,h10⟩
theorem y_len {ty:TypeId} {n:Int} (ho:o.op = .call { callee:=.builtin .len,args:=#[x],argTypes:=#[t]}) (hx:E.valid x) (ex:E.val C x = .list rows nn tok)
 (hu:∀ w,(underlying t).run C.P w = .ok (.slice e) w) (hn:(rows.length:Int)=n) (_:o.type=ty):Yields C σ E o (.val (.int .i64 n)) :=
 yields_same fun M w ρ _ h=>by
  have h1:=h x q_217 hx;rw [ex] at h1;obtain ⟨a,cap,b,off,s,vals,hv,_⟩:=h1.list_inv;subst hn;exact ⟨.int .i64 rows.length,by simp [execOp,ho,resolve,invoke,builtin,Builtin.len_,hu,hv,goInt],.val _⟩
theorem y_len_vec {ty:TypeId} {k len:Nat} {n:Int} (ho:o.op = .call { callee:=.builtin .len,args:=#[x],argTypes:=#[t]}) (hx:E.valid x) (ex:E.val C x = .vec k off len)
 (hu:∀ w,(underlying t).run C.P w = .ok (.slice e) w) (hn:(len:Int)=n) (_:o.type=ty):Yields C σ E o (.val (.int .i64 n)) :=
 yields_same fun M w ρ _ h=>by
  have h1:=h x q_217 hx;rw [ex] at h1;generalize hu':ρ x=u at h1;subst hn;cases h1;exact ⟨.int .i64 len,by simp [execOp,ho,resolve,invoke,builtin,Builtin.len_,hu,hu',goInt],.val _⟩
theorem y_index {ix:Operand} {i:Int} {r:List CV} (ho:o.op = .indexAddr t x ix) (hx:E.valid x) (hi:E.valid ix) (ex:E.val C x = .list rows nn tok) (ei:E.val C ix = .val (.int .i64 i))
 (hu:∀ w,(underlying t).run C.P w = .ok (.slice e) w) (hs:∀ w,(sizeOf e).run C.P w = .ok s w) (h0:0<=i) (hr:rows[i.toNat]? = some r) (hl:r.length=s):Yields C σ E o (.cptr r) :=
 yields_same fun M w ρ _ h=>by
  have h1:=h x q_265 hx;have h2:=h ix q_265 hi;rw [ex] at h1;rw [ei] at h2;obtain ⟨a,cap,b,off,s',vals,hv,hcap,_,_,_,ha,hrl,hone,hc,hrv,_⟩:=h1.list_inv;have hlt:i.toNat < rows.length:=(n_1.1 hr).1;have hne:rows≠[]:=by rintro rfl; simp at hlt
  have hmem:r∈rows:=n_0 hr;have hss:s'=s:=by rw [<- hrl r hmem,hl]
  subst hss;refine ⟨.pointer (some ⟨b,off+i.toNat*s',none⟩),?_,.cptr (vals i.toNat) (hone r hmem) (fun j c hj=>?_) (fun j c hj=>hrv _ _ _ _ hr hj)⟩
  ·have hlt':i < (rows.length:Int):=by omega
   simp [execOp,ho,hv,rv_val h2,Instr.indexAt,asIntOf,hu,hs,ha hne,h0,hlt',add_none]
  ·exact hc _ _ _ _ hr hj
theorem y_field_c {f:Nat} {fs:Array Field} {fd:Field} (ho:o.op = .fieldAddr t x f) (hx:E.valid x) (ex:E.val C x = .cptr cells)
 (hu:∀ w,(underlying t).run C.P w = .ok (.struct fs) w) (hf:fs[f]? = some fd) (hs:∀ w,(sizeOf fd.type).run C.P w = .ok s w) (hs0:s≠0):Yields C σ E o (.cptr (cells.drop fd.offset)) :=
 yields_same fun M w ρ _ h=>by
  have h1:=h x q_265 hx;rw [ex] at h1;generalize hu':ρ x=u at h1;cases h1 with
  | cptr vals h1 h2 h3 =>
   rename_i b off;refine ⟨.pointer (some ⟨b,off+fd.offset,none⟩),?_,.cptr (fun j=>vals (fd.offset+j)) (fun c hc=>h1 c (n_52 hc)) (fun j c hj=>?_) (fun j c hj=>?_)⟩
   ·simp [execOp,ho,hu',Instr.fieldAt,hu,hf,Instr.sureAddr,fieldPlace,hs,hs0,add_none]
   ·rw [n_49] at hj;have:=h2 _ _ hj;rwa [<- n_66] at this
   ·rw [n_49] at hj;exact h3 _ _ hj
theorem y_field {f:Nat} {fs:Array Field} {fd:Field} {k:Nat} (ho:o.op = .fieldAddr t x f) (hx:E.valid x) (ex:E.val C x = .ptr k off)
 (hu:∀ w,(underlying t).run C.P w = .ok (.struct fs) w) (hf:fs[f]? = some fd) (hs:∀ w,(sizeOf fd.type).run C.P w = .ok s w) (hs0:s≠0):Yields C σ E o (.ptr k (off+fd.offset)) :=
 yields_same fun M w ρ _ h=>by
  have h1:=h x q_265 hx;rw [ex] at h1;generalize hu':ρ x=u at h1;cases h1 with
  | ptr hk=>exact ⟨_,by simp [execOp,ho,hu',Instr.fieldAt,hu,hf,Instr.sureAddr,fieldPlace,hs,hs0,add_none],.ptr hk⟩
theorem y_load_c1 (ho:o.op = .load t x) (hx:E.valid x) (ex:E.val C x = .cptr cells) (ha:∀ w,(isAgg t).run C.P w = .ok false w) (hc:cells[0]? = some c):Yields C σ E o c :=
 yields_same fun M w ρ _ h=>by
  have h1:=h x q_265 hx;rw [ex] at h1;generalize hu':ρ x=u at h1;cases h1 with
  | cptr vals h1 h2 h3 =>
   rename_i b off;have:=(h2 0 c hc).2;rw [n_38] at this;exact ⟨vals 0,by simp [execOp,ho,hu',Instr.loadAt,Instr.sureAddr,loadVar,ha,this],h3 0 c hc⟩
theorem y_load_c (ho:o.op = .load t x) (hx:E.valid x) (ex:E.val C x = .cptr cells) (ha:∀ w,(isAgg t).run C.P w = .ok true w) (hs:∀ w,(sizeOf t).run C.P w = .ok s w) (hl:s<=cells.length):Yields C σ E o (.agg (cells.take s)) :=
 yields_same fun M w ρ _ h=>by
  have h1:=h x q_265 hx;rw [ex] at h1;generalize hu':ρ x=u at h1;cases h1 with
  | cptr vals h1 h2 h3 =>
   rename_i b off;refine ⟨.agg ((List.range s).map vals).toArray,?_,.agg (by simp [hl]) (fun c hc=>h1 c (n_60 hc)) (fun i c hi=>?_)⟩
   ·simp [execOp,ho,hu',Instr.loadAt,Instr.sureAddr,loadVar,ha,hs,run_loadCells' (P:=C.P) (w:=w) vals s (fun j hj=>(h2 j cells[j] (by simp [show j < cells.length by omega])).2)]
   ·have hi':i < s:=by
     have:=(n_1.1 hi).1;simp at this; omega
    rw [n_31,if_pos hi'] at hi;have:=h3 i c hi;simpa [hi'] using this
end
end Go.Cl
namespace Go.Cl
variable {w w0 w':World} {M M' M0:Plan} {c c':CV} {s n k off L i b nh j m clock:Nat} {t e t2 ty:TypeId} {rows new:List (List CV)} {σ:List CObj} {E E':Env} {x y:Operand} {K:CRes->List CObj->Prop} {v z:Value} {C:Ctx} {α:Type} {sel ms ix:List Nat} {p:Pl} {f:FuncId} {t0:Option TypeId} {o:Oper} {Q:CExit->Env->List CObj->Prop} {nn want:Bool} {arr:Array Value} {r args cs cargs:List CV} {S:List (List CObj->Prop)} {P:Program} {ob:CObj} {xs:Array Operand} {ts:Array TypeId} {parts:Array (Nat × Operand)} {g:Prop} {a:Int} {ps:List (Nat × CV)} {l:List Oper} {listed:Array Bool}
def Plan.add (M:Plan) (p:Pl):Plan:={ M with pl:=M.pl++[p]}
theorem heap_alloc_lt (w:World) (o:Obj) (h:b < w.heap.size):(w.alloc o).heap[b]? = w.heap[b]?:=by
 show (w.heap.push o)[b]? = _;rw [n_114,if_neg (Nat.ne_of_lt h)]
theorem heap_alloc_new (w:World) (o:Obj):(w.alloc o).heap[w.heap.size]? = some o:=by
 show (w.heap.push o)[w.heap.size]? = _;rw [n_114,if_pos rfl]
theorem ObjRel.lt (h:ObjRel M w p ob) (hl:ob.live=true):p.block < w.heap.size:=by
 have key:∀ {o:Obj},w.heap[p.block]? = some o->p.block < w.heap.size:=fun h=>(n_16.1 h).1;cases ob with
 | dead=>cases hl
 | boxT t0 cells=>obtain ⟨arr,ty,h,_⟩:=h; exact key h
 | tipT t0 n=>obtain ⟨_,_,_,arr,ty,h,_⟩:=h; exact key h
 | vec s rows=>obtain ⟨_,_,_,_,_,arr,ty,h,_⟩:=h; exact key h
 | map es=>obtain ⟨arr,ty,h,_⟩:=h; exact key h
 | iter cur left=>obtain ⟨_,_,_,_,_,h,_⟩:=h; exact key h
theorem ObjRel.mono (hx:Ext M w M' w') (hb:w'.heap[p.block]? = w.heap[p.block]?) (hc:∀ t n,ob = .tipT t n->∀ o,M'.cell p.block o->M.cell p.block o) (h:ObjRel M w p ob):ObjRel M' w' p ob:=by
 cases ob with
 | dead=>trivial
 | boxT t0 cells =>
  obtain ⟨arr,ty,h1,h2,h3,h4⟩:=h;exact ⟨arr,ty,hb.trans h1,h2,h3,fun i c hi=>(h4 i c hi).mono hx⟩
 | tipT t0 n =>
  obtain ⟨h0,h00,h1,arr,ty,h2,h3⟩:=h;exact ⟨h0,h00,⟨fun o ho=>h1.1 o (hc _ n rfl o ho),h1.2⟩,arr,ty,hb.trans h2,h3⟩
 | vec s rows =>
  obtain ⟨h0,h00,h000,h1,h2,arr,ty,h3,h4,h5⟩:=h;exact ⟨h0,h00,h000,h1,h2,arr,ty,hb.trans h3,h4,fun i j r c hi hj=>(h5 i j r c hi hj).mono hx⟩
 | map es =>
  obtain ⟨ents,clock,h1,h2,h3⟩:=h;refine ⟨ents,clock,hb.trans h1,h2,fun i x hi=>?_⟩;obtain ⟨e,he,hk,hv,hc⟩:=h3 i x hi;exact ⟨e,he,hk.mono hx,hv.mono hx,hc⟩
 | iter cur left =>
  obtain ⟨mb,seen,last,ents,clock,h1,h2,h3,h4,h5,h6,h7,h8,h9⟩:=h;refine ⟨mb,seen,last,ents,clock,hb.trans h1,hx.full _ h2,(hx.same _ h2).trans h3,h4,h5,h6,h7,fun i x hi=>?_,fun i x hi=>?_⟩
  ·obtain ⟨e,he,hk,hv⟩:=h8 i x hi;exact ⟨e,he,hk.mono hx,hv.mono hx⟩
  ·obtain ⟨hl,j,e,he,hs,hk,hv⟩:=h9 i x hi;exact ⟨hl,j,e,he,hs,hk.mono hx,hv.mono hx⟩
theorem Ext.alloc (hr:Rel C M σ w) (p:Pl) (o:Obj):Ext M w (M.add p) (w.alloc o) :=
 ⟨⟨[p],rfl⟩,fun _ h=>h,fun _ _ h=>.inr h,fun b h=>heap_alloc_lt w o (hr.blk b 0 (.inl h)),fun b o' h=>cell?_of_same (heap_alloc_lt w o (hr.blk b o' (.inr h))),by rw [World.size_alloc]; omega,nb_drew,rfl,rfl,rfl,fun b h=>⟨h,heap_alloc_lt w o (hr.kep b h),id,fun _=>id⟩⟩
theorem Rel.alloc (hr:Rel C M σ w) (p:Pl) (o:Obj) (ob:CObj) (hb:p.block=w.heap.size) (h:ObjRel (M.add p) (w.alloc o) p ob):Rel C (M.add p) (σ++[ob]) (w.alloc o):=by
 have hx:=Ext.alloc hr p o;have hget:∀ {k:Nat} {q:Pl},(M.add p).pl[k]? = some q->(k < σ.length/\M.pl[k]? = some q)\/(k=σ.length/\q=p):=by
  intro k q hk;simp only [Plan.add,n_45,hr.len] at hk;split at hk
  ·exact .inl ⟨‹_›,hk⟩
  ·rename_i hlt;have:k - σ.length=0:=by
    have:=(n_1.1 hk).1;simp at this; omega
   rw [this] at hk;simp at hk;exact .inr ⟨om_,hk.symm⟩
 have hgo:∀ {k:Nat} {x:CObj},(σ++[ob])[k]? = some x->k < σ.length->σ[k]? = some x:=by
  intro k x hk hlt;rwa [n_15 hlt] at hk
 have hgn:∀ {x:CObj},(σ++[ob])[σ.length]? = some x->x=ob:=by
  intro x hk; simp at hk; exact hk.symm
 refine ⟨by simp [Plan.add,hr.len],fun b o' ha=>?_,fun k q x hk hx'=>?_,fun k k' q q' x x' hk hk' hx1 hx2 hl hl' hbb=>?_,fun g cells hg=>(hr.glob g cells hg).mono hx,fun b h=>(by rw [World.size_alloc]; have:=hr.kep b h; omega),fun k q x hk hx' hlv h=>?_⟩
 ·have:=hr.blk b o' ha;rw [World.size_alloc]; omega
 ·rcases hget hk with ⟨hlt,hq⟩ | ⟨rfl,rfl⟩
  ·have hxo:=hgo hx' hlt;obtain ⟨h1,h2⟩:=hr.obj k q x hq hxo;refine ⟨?_,h2⟩;by_cases hl:x.live=true
   ·exact h1.mono hx (heap_alloc_lt w o (h1.lt hl)) (fun _ _ _ _ h=>h)
   ·cases x <;> first | trivial | simp [CObj.live] at hl
  ·have:=hgn hx';subst this;refine ⟨h,?_⟩;have hf:¬ M.full q.block:=fun hf=>by have:=hr.blk q.block 0 (.inl hf); omega
   have hc:∀ o,¬ M.cell q.block o:=fun o hc=>by have:=hr.blk q.block o (.inr hc); omega
   cases x <;> first | trivial|exact hf|exact ⟨hf,hc⟩
 ·rcases hget hk with ⟨hlt,hq⟩ | ⟨rfl,rfl⟩
  ·rcases hget hk' with ⟨hlt',hq'⟩ | ⟨rfl,rfl⟩
   ·exact hr.inj k k' q q' x x' hq hq' (hgo hx1 hlt) (hgo hx2 hlt') hl hl' hbb
   ·have:=(hr.obj k q x hq (hgo hx1 hlt)).1.lt hl;omega
  ·rcases hget hk' with ⟨hlt',hq'⟩ | ⟨rfl,rfl⟩
   ·have:=(hr.obj k' q' x' hq' (hgo hx2 hlt')).1.lt hl';omega
   ·rfl
 ·rcases hget hk with ⟨hlt,hq⟩ | ⟨rfl,rfl⟩
  ·exact hr.nk k q x hq (hgo hx' hlt) hlv h
  ·have:=hr.kep _ h;omega
def CV.cells:CV->List CV
 | .agg cs=>cs
 | c=>[c]
theorem RV.cells (h:RV M w c v) (ho:c.one=true\/∃ cs,c = .agg cs) :
 v.cells.size=c.cells.length/\(∀ x∈c.cells,x.one=true)/\∀ (i:Nat) (x:CV),c.cells[i]? = some x->RV M w x (v.cells.getD i undef):=by
 rcases ho with ho | ⟨cs,rfl⟩
 ·have hv:=h.one ho;have hv':v.cells = #[v]:=by cases v <;> first|rfl | simp [Value.oneCell'] at hv
  have hc':c.cells=[c]:=by cases c <;> first|rfl | simp [CV.one] at ho
  rw [hv',hc'];refine ⟨rfl,by simpa using ho,fun i x hi=>?_⟩
  rcases i with _ | i
  ·simp at hi; subst hi; exact h
  ·simp at hi
 ·cases h with
  | agg h1 h2 h3=>exact ⟨h1,h2,h3⟩
variable {cells:List CV}
section
theorem run_newVar (t:TypeId) (v:Value) (w:World):(newVar t v).run P w = .ok ⟨w.heap.size,0,none⟩ (w.alloc (.cells v.cells t)):=by
 simp [newVar,newRow]
theorem after_box (hr:Rel C M σ w) (h:RV M w c v) (ho:c.one=true\/∃ cs,c = .agg cs) (hk:K (.ret (.ptr σ.length 0)) (σ++[.box c.cells])) :
 After C M w K (.pointer (some ⟨w.heap.size,0,none⟩)) (w.alloc (.cells v.cells t)):=by
 obtain ⟨h1,h2,h3⟩:=h.cells ho;have hx:=Ext.alloc hr ⟨w.heap.size,0,0⟩ (.cells v.cells t);refine ⟨.ptr σ.length 0,_,_,hx,hr.alloc ⟨w.heap.size,0,0⟩ _ (.box c.cells) rfl ⟨v.cells,t,heap_alloc_new w _,h1,h2,fun i x hi=>(h3 i x hi).mono hx⟩,?_,hk⟩;exact .ptr (p:=⟨w.heap.size,0,0⟩) q_258
theorem d_box (ho:o.op = .box t x) (hx:E.valid x) (ex:E.val C x=c) (hc:c.one=true\/∃ cs,c = .agg cs) (hk:K (.ret (.ptr σ.length 0)) (σ++[.box c.cells])):Does C σ E o K:=fun M w ρ hr h=>by
 have h1:=h x q_265 hx;rw [ex] at h1;have:(execOp ρ o).run C.P w = .ok (.value (.pointer (some ⟨w.heap.size,0,none⟩))) (w.alloc (.cells (ρ x).cells t)):=by
  simp [execOp,ho,Instr.box,run_newVar]
 rw [this];exact after_box hr h1 hc hk
theorem d_alloc (ho:o.op = .alloc t) (hz:∀ w,(zeroValue t).run C.P w = .ok z w) (hz1:constOk z=true) (hz2:(cvOf z).one=true\/∃ cs,cvOf z = .agg cs) (hk:K (.ret (.ptr σ.length 0)) (σ++[.box (cvOf z).cells])):Does C σ E o K:=fun M w ρ hr h=>by
 have:(execOp ρ o).run C.P w = .ok (.value (.pointer (some ⟨w.heap.size,0,none⟩))) (w.alloc (.cells z.cells t)):=by
  simp [execOp,ho,Instr.alloc,hz,run_newVar]
 rw [this];exact after_box hr (rv_cvOf hz1) hz2 hk
theorem box_cell (hr:Rel C M σ w) (hp:M.pl[k]? = some p) (hb:σ[k]? = some (.boxT t0 cells)) (hi:cells[i]? = some c) :
 ∃ v,w.cell? ⟨p.block,i,none⟩=some v/\RV M w c v/\w.frozen? ⟨p.block,i,none⟩=false:=by
 obtain ⟨arr,ty,h1,h2,h3,h4⟩:=(hr.obj k p _ hp hb).1;have hlt:i < arr.size:=by rw [h2]; exact (n_1.1 hi).1
 refine ⟨arr.getD i undef,?_,h4 i c hi,?_⟩
 ·simp [World.cell?,h1,hlt]
 ·simp [World.frozen?,h1]
theorem y_load1 (ho:o.op = .load t x) (hx:E.valid x) (ex:E.val C x = .ptr k off) (ha:∀ w,(isAgg t).run C.P w = .ok false w) (hk:σ[k]? = some (.boxT t0 cells)) (hc:cells[off]? = some c):Yields C σ E o c :=
 yields_same fun M w ρ hr h=>by
  have h1:=h x q_265 hx;rw [ex] at h1;generalize hu':ρ x=u at h1;cases h1 with
  | ptr hp =>
   obtain ⟨v,hv,hrv,_⟩:=box_cell hr hp hk hc;exact ⟨v,by simp [execOp,ho,hu',Instr.loadAt,Instr.sureAddr,loadVar,ha,hv],hrv⟩
theorem y_load (ho:o.op = .load t x) (hx:E.valid x) (ex:E.val C x = .ptr k off) (ha:∀ w,(isAgg t).run C.P w = .ok true w) (hs:∀ w,(sizeOf t).run C.P w = .ok s w) (hk:σ[k]? = some (.boxT t0 cells)) (hl:off+s<=cells.length):Yields C σ E o (.agg ((cells.drop off).take s)) :=
 yields_same fun M w ρ hr h=>by
  have h1:=h x q_265 hx;rw [ex] at h1;generalize hu':ρ x=u at h1;cases h1 with
  | ptr hp =>
   rename_i p;obtain ⟨arr,ty,h1,h2,h3,h4⟩:=(hr.obj k p _ hp hk).1;have hcell:∀ j,j < s->w.cell? ⟨p.block,off+j,none⟩=some (arr.getD (off+j) undef):=fun j hj=>by
    have:off+j < arr.size:=by omega
    simp [World.cell?,h1,this]
   refine ⟨.agg ((List.range s).map fun j=>arr.getD (off+j) undef).toArray,?_,.agg q_287 (fun c hc=>h3 c (n_52 (n_60 hc))) (fun i c hi=>?_)⟩
   ·simp [execOp,ho,hu',Instr.loadAt,Instr.sureAddr,loadVar,ha,hs,run_loadCells' (P:=C.P) (w:=w) _ s hcell]
   ·have hi':i < s:=by
     have:=(n_1.1 hi).1;simp at this; omega
    rw [n_31,if_pos hi',n_49] at hi;have:=h4 (off+i) c hi;simpa [hi'] using this
theorem res1 {fn:Func} {t:Nat} (hr:fn.results = #[.tmp t]) (hv:E.ok t) (ec:E.f t=c):CResults C E σ fn c:=fun M w a _ h=>by
 refine ⟨a.tmps.getD t undef,results_tmp hr _ _ _,ec ▸ h t hv⟩
end
def World.putObj (w:World) (b:Nat) (o:Obj):World:={ w with heap:=w.heap.setIfInBounds b o}
theorem World.putObj_same (w:World) (o:Obj) (hb:b < w.heap.size):(World.putObj w b o).heap[b]? = some o:=by
 simp [World.putObj,hb]
theorem World.putObj_other (w:World) {b':Nat} (o:Obj) (h:b≠b'):(World.putObj w b o).heap[b']? = w.heap[b']?:=by
 simp [World.putObj,n_64 h]
theorem World.putObj_size (w:World) (b:Nat) (o:Obj):(World.putObj w b o).heap.size=w.heap.size:=by
 simp [World.putObj]
theorem World.putObj_put (w:World) (b:Nat) (o o':Obj):World.putObj (World.putObj w b o) b o'=World.putObj w b o':=by
 simp [World.putObj]
theorem World.putObj_self (w:World) {o:Obj} (h:w.heap[b]? = some o):World.putObj w b o=w:=by
 have:w.heap.setIfInBounds b o=w.heap:=by
  apply n_78;intro i;by_cases hi:b=i
  ·subst hi;have hlt:=(n_16.1 h).1;rw [h];simp [hlt]
  ·rw [n_64 hi]
 unfold World.putObj;rw [this]
theorem setCell_putObj (w:World) {cur:Array Value} (v:Value) (h:w.heap[b]? = some (.cells cur t (0,0))) :
 w.setCell ⟨b,off,none⟩ v=World.putObj w b (.cells (cur.setIfInBounds off v) t (0,0)):=by
 have hlt:=(n_16.1 h).1;unfold World.setCell World.putObj
 congr 1
 apply n_78;intro i;rw [n_85];by_cases hi:b=i
 ·subst hi;rw [if_pos rfl,h,Array.getElem?_setIfInBounds_self_of_lt hlt];rfl
 ·rw [if_neg hi,n_64 hi]
def spliceA (cur:Array Value) (o:Nat):List Value->Array Value
 | []=>cur
 | v::vs=>spliceA (cur.setIfInBounds o v) (o+1) vs
theorem spliceA_size:∀ (vs:List Value) (cur:Array Value) (o:Nat),(spliceA cur o vs).size=cur.size
 | [],_,_=>rfl
 | v::vs,cur,o=>by rw [spliceA,spliceA_size vs]; simp
theorem spliceA_getD:∀ (vs:List Value) (cur:Array Value) (o i:Nat),o+vs.length<=cur.size ->
 (spliceA cur o vs).getD i undef=if o<=i/\i < o+vs.length then vs.getD (i - o) undef else cur.getD i undef
 | [],cur,o,i,_=>by
  rw [spliceA,if_neg (by simp only [n_12]; omega)]
 | v::vs,cur,o,i,h=>by
  simp only [n_7] at h;rw [spliceA,spliceA_getD vs _ _ _ q_287];by_cases h1:o+1<=i/\i < o+1+vs.length
  ·rw [if_pos h1,if_pos (by simp only [n_7]; omega)];have:i - o=(i - (o+1))+1:=by omega
   rw [this]; simp
  ·rw [if_neg h1];by_cases h2:i=o
   ·subst h2;rw [if_pos (by simp only [n_7]; omega)];have hlt:i < cur.size:=by omega
    simp [hlt]
   ·rw [if_neg (by simp only [n_7]; omega)];simp [n_64 (Ne.symm h2)]
theorem run_storeCells' {P:Program} {b off:Nat} {t:TypeId}:∀ (vs:List Value) (i:Nat) (cur:Array Value) (w:World),w.heap[b]? = some (.cells cur t (0,0))->off+i+vs.length<=cur.size->(∀ v∈vs,v.oneCell'=true) ->
 (storeCells ⟨b,off,none⟩ vs i).run P w = .ok () (World.putObj w b (.cells (spliceA cur (off+i) vs) t (0,0)))
 | [],i,cur,w,h,_,_=>by
  simp only [storeCells,spliceA,World.putObj_self w h]; rfl
 | v::vs,i,cur,w,h,hl,h1=>by
  simp only [n_7] at hl;have hcell:w.cell? ⟨b,off+i,none⟩=some (cur.getD (off+i) undef):=by
   have:off+i < cur.size:=by omega
   simp [World.cell?,h,this]
  have hfz:w.frozen? ⟨b,off+i,none⟩=false:=by simp [World.frozen?,h]
  have hb:b < w.heap.size:=(n_16.1 h).1;simp only [storeCells,add_none,Sem.run_bind,run_store P w _ v .plain (h1 v si_),hcell,hfz,n_74,if_false,Result.andThen_ok];rw [setCell_putObj w v h];have ih:=run_storeCells' (P:=P) (off:=off) (t:=t) vs (i+1) (cur.setIfInBounds (off+i) v) (World.putObj w b (.cells (cur.setIfInBounds (off+i) v) t (0,0))) (World.putObj_same w _ hb) q_287 (fun u hu=>h1 u (by simp [hu]));rw [ih,World.putObj_put];rfl
def spliceL (cells:List CV) (off:Nat) (new:List CV):List CV:=cells.take off++(new++cells.drop (off+new.length))
theorem spliceL_length {new:List CV} (h:off+new.length<=cells.length):(spliceL cells off new).length=cells.length:=by
 simp [spliceL]; omega
theorem spliceL_get {new:List CV} (h:off+new.length<=cells.length) (i:Nat) :
 (spliceL cells off new)[i]? = if off<=i/\i < off+new.length then new[i - off]? else cells[i]?:=by
 unfold spliceL;rw [n_45];simp only [n_46,Nat.min_eq_left (show off<=cells.length by omega)]
 split
 ·rename_i h1;rw [if_neg om_,n_31,if_pos h1]
 ·rename_i h1;rw [n_45]
  split
  ·rename_i h2;rw [if_pos om_]
  ·rename_i h2;rw [if_neg om_,n_49]
   congr 1; omega
theorem spliceL_mem {new:List CV} (h:c∈spliceL cells off new):c∈new\/c∈cells:=by
 simp only [spliceL,n_18] at h
 rcases h with h | h | h
 ·exact .inr (n_60 h)
 ·exact .inl h
 ·exact .inr (n_52 h)
theorem Ext.putObj (o:Obj) (hkp:¬ M.keep b) (hf:¬ M.full b) (hc:∀ o,¬ M.cell b o):Ext M w M (World.putObj w b o) :=
 ⟨⟨[],si_⟩,fun _ h=>h,fun _ _ h=>.inr h,fun b' h=>World.putObj_other w o (fun e=>hf (e ▸ h)),fun b' o' h=>cell?_of_same (World.putObj_other w o (fun e=>hc o' (e ▸ h))),by rw [World.putObj_size]; exact n_5 _,nb_drew,rfl,rfl,rfl,fun b' h=>⟨h,World.putObj_other w o (fun e=>hkp (e ▸ h)),id,fun _=>id⟩⟩
theorem Rel.putObj (hr:Rel C M σ w) {ob0:CObj} (hk:M.pl[k]? = some p) (hs:σ[k]? = some ob0) (hl0:ob0.live=true) (hf:¬ M.full p.block) (hc:∀ o,¬ M.cell p.block o) (o:Obj)
 (h:ObjRel M (World.putObj w p.block o) p ob):Rel C M (σ.set k ob) (World.putObj w p.block o):=by
 have hx:=Ext.putObj (w:=w) o (hr.nk k p ob0 hk hs hl0) hf hc;have hb:p.block < w.heap.size:=(hr.obj k p ob0 hk hs).1.lt hl0;have hget:∀ {k':Nat} {x:CObj},(σ.set k ob)[k']? = some x->(k'=k/\x=ob)\/(k'≠k/\σ[k']? = some x):=by
  intro k' x hh;rw [n_67] at hh;split at hh
  ·rename_i e;split at hh
   ·injection hh with hh; exact .inl ⟨e.symm,hh.symm⟩
   ·cases hh
  ·rename_i e; exact .inr ⟨fun e'=>e e'.symm,hh⟩
 refine ⟨by simp [hr.len],fun b o' ha=>by rw [World.putObj_size]; exact hr.blk b o' ha,fun k' q x hk' hx'=>?_,fun k1 k2 q1 q2 x1 x2 hk1 hk2 hx1 hx2 hl1 hl2 hbb=>?_,fun g cells hg=>(hr.glob g cells hg).mono hx,fun b h=>(by rw [World.putObj_size]; exact hr.kep b h),fun k' q x hk' hx' hlv=>?_⟩
 ·rcases hget hx' with ⟨rfl,rfl⟩ | ⟨hne,hs'⟩
  ·have:q=p:=by rw [hk] at hk'; injection hk' with hk'; exact hk'.symm
   subst this;refine ⟨h,?_⟩;cases x <;> first | trivial|exact hf|exact ⟨hf,hc⟩
  ·obtain ⟨h1,h2⟩:=hr.obj k' q x hk' hs';refine ⟨?_,h2⟩;by_cases hl:x.live=true
   ·refine h1.mono hx (World.putObj_other w o fun e=>hne ?_) (fun _ _ _ _ h=>h);exact hr.inj k' k q p x ob0 hk' hk hs' hs hl hl0 e.symm
   ·cases x <;> first | trivial | simp [CObj.live] at hl
 ·have back:∀ {k':Nat} {x:CObj},(σ.set k ob)[k']? = some x->x.live=true->∃ x',σ[k']? = some x'/\x'.live=true:=by
   intro k' x hh hl
   rcases hget hh with ⟨rfl,rfl⟩ | ⟨_,hs'⟩
   ·exact ⟨ob0,hs,hl0⟩
   ·exact ⟨x,hs',hl⟩
  obtain ⟨y1,hy1,hl1'⟩:=back hx1 hl1;obtain ⟨y2,hy2,hl2'⟩:=back hx2 hl2;exact hr.inj k1 k2 q1 q2 y1 y2 hk1 hk2 hy1 hy2 hl1' hl2' hbb
 ·rcases hget hx' with ⟨rfl,rfl⟩ | ⟨hne,hs'⟩
  ·rw [hk] at hk';injection hk' with hk'
   subst hk';exact hr.nk _ _ ob0 hk hs hl0
  ·exact hr.nk k' q x hk' hs' hlv
section
theorem cells_toList_one (h:RV M w c v) (ho:c.one=true\/∃ cs,c = .agg cs):∀ u∈v.cells.toList,u.oneCell'=true:=by
 obtain ⟨h1,h2,h3⟩:=h.cells ho;intro u hu;obtain ⟨i,hi,rfl⟩:=List.mem_iff_getElem.1 hu;have hi':i < v.cells.size:=by simpa using hi
 have hi2:i < c.cells.length:=by omega
 have:=(h3 i c.cells[i] (by simp [hi2])).one (h2 _ (n_115 hi2));simpa [hi'] using this
theorem d_store (ho:o.op = .store t x y) (hx:E.valid x) (hy:E.valid y) (ex:E.val C x = .ptr k off) (ey:E.val C y=c) (hs:∀ w,(sizeOf t).run C.P w = .ok s w)
 (hc:c.one=true\/∃ cs,c = .agg cs) (hk:σ[k]? = some (.boxT t0 cells)) (hl:c.cells.length=s) (hlt:off+s<=cells.length) (h:K (.ret (.val undef)) (σ.set k (.boxT t0 (spliceL cells off c.cells)))):Does C σ E o K:=fun M w ρ hr hh=>by
 have h1:=hh x q_265 hx;have h2:=hh y q_265 hy;rw [ex] at h1;rw [ey] at h2;generalize hu:ρ x=u at h1;cases h1 with
 | ptr hp =>
  rename_i p;obtain ⟨⟨arr,ty,e1,e2,e3,e4⟩,hf,hcl⟩:=hr.obj k p _ hp hk;obtain ⟨g1,g2,g3⟩:=h2.cells hc;have hone:=cells_toList_one h2 hc;have hsz:off+c.cells.length<=cells.length:=by omega
  have hrun:(execOp ρ o).run C.P w = .ok .skip (World.putObj w p.block (.cells (spliceA arr off (ρ y).cells.toList) (t0.getD ty) (0,0))):=by
   have:=run_storeCells' (P:=C.P) (b:=p.block) (off:=off) (t:=t0.getD ty) (ρ y).cells.toList 0 arr w e1 q_287 hone;simp only [n_38] at this;simp [execOp,ho,hu,Instr.storeAt,Instr.sureAddr,storeVar,hs,g1,hl,this]
  rw [hrun];have hx:=Ext.putObj (w:=w) (.cells (spliceA arr off (ρ y).cells.toList) (t0.getD ty) (0,0)) (hr.nk k p _ hp hk rfl) hf hcl;have hb:p.block < w.heap.size:=(n_16.1 e1).1;refine ⟨.val undef,_,M,hx,hr.putObj (ob:=.boxT t0 (spliceL cells off c.cells)) hp hk rfl hf hcl _ ⟨_,ty,World.putObj_same w _ hb,by rw [spliceA_size,spliceL_length hsz,e2],fun c' hc'=>?_,fun i c' hi=>?_⟩,.val _,h⟩
  ·rcases spliceL_mem hc' with h' | h'
   ·exact g2 _ h'
   ·exact e3 _ h'
  ·rw [spliceA_getD _ _ _ _ q_287];rw [spliceL_get hsz] at hi;simp only [n_61,g1];split at hi
   ·rename_i hin;rw [if_pos hin];have:=(g3 _ _ hi).mono hx;simpa using this
   ·rename_i hin;rw [if_neg hin];exact (e4 _ _ hi).mono hx
theorem d_call (ho:o.op = .call { callee:=.value (.func f),args:=xs,argTypes:=ts}) (hcall:∀ args w,(callFunc f args).run C.P w = .ok (.enter f args) w)
 (hv:∀ x∈xs.toList,E.valid x) (ea:xs.toList.map (E.val C)=cargs) (h:CCalls C f cargs σ K):Does C σ E o K:=fun M w ρ hr hh=>by
 have hf:RV M w (.val (.func (.func f) #[] #[])) (ρ (.func f)):=hh (.func f) q_217 tt;have ef:=rv_val hf;have hrun:(execOp ρ o).run C.P w = .ok (.enter f (xs.map ρ)) w:=by
  simp [execOp,ho,resolve,ef,Deferred.ofValue,invoke,hcall]
 rw [hrun];refine (h M w (xs.map ρ) hr (by simp [<- ea]) fun i c hi=>?_).mono fun e w' he=>by cases e <;> exact he
 subst ea;simp only [n_14,n_26] at hi;obtain ⟨x,hx,rfl⟩:=hi;have hx':xs[i]? = some x:=by simpa using hx
 have hm:x∈xs:=n_47 hx';have:(xs.map ρ).getD i undef=ρ x:=by
  rw [n_21,n_101,hx']; rfl
 rw [this];exact hh x (by simp [ho,Op.operands,Call.operands,hm]) (hv x (by simpa using hm))
def cfill (pls:Array (Nat × Nat)) (cells:List CV):List (Nat × CV)->Option (List CV)
 | []=>some cells
 | (i,c)::rest =>
  match pls[i]? with
  | none=>none
  | some (off,size)=>if c.cells.length=size/\off+size<=cells.length then cfill pls (spliceL cells off c.cells) rest else none
theorem zipIdx_fold:∀ (vs:List Value) (cs:Array Value) (off j:Nat),(vs.zipIdx j).foldl (fun cs (x:Value × Nat)=>cs.setIfInBounds (off+x.2) x.1) cs=spliceA cs (off+j) vs
 | [],_,_,_=>rfl
 | v::vs,cs,off,j=>by
  rw [List.zipIdx_cons,n_116,zipIdx_fold vs _ off (j+1)];rfl
theorem fill_rel {M:Plan} {w:World} {pls:Array (Nat × Nat)} {place:Nat->Option (Nat × Nat)} (hpl:∀ i,place i=pls[i]?):∀ (ps:List (Nat × CV)) (qs:List (Nat × Value)) (cells:List CV) (arr:Array Value) (out:List CV),
 cfill pls cells ps=some out->ps.map (·.1)=qs.map (·.1)->(∀ (i:Nat) (x:Nat × CV) (y:Nat × Value),ps[i]? = some x->qs[i]? = some y->RV M w x.2 y.2/\(x.2.one=true\/∃ cs,x.2 = .agg cs)) ->
 arr.size=cells.length->(∀ c∈cells,c.one=true)->(∀ (i:Nat) (c:CV),cells[i]? = some c->RV M w c (arr.getD i undef)) ->
 ∃ r,Instr.fill place arr qs=some r/\RV M w (.agg out) (.agg r)
 | [],[],cells,arr,out,h,_,_,h2,h3,h4=>by
  simp only [cfill,Option.some.injEq] at h;subst h;exact ⟨arr,rfl,.agg h2 h3 h4⟩
 | [],q::qs,_,_,_,_,h,_,_,_,_=>by simp at h
 | p::ps,[],_,_,_,_,h,_,_,_,_=>by simp at h
 | (i,c)::ps,(i',v)::qs,cells,arr,out,h,hm,hrv,h2,h3,h4=>by
  simp only [n_65,List.cons.injEq] at hm;obtain ⟨rfl,hm⟩:=hm;simp only [cfill] at h;cases hp:pls[i]? with
  | none=>rw [hp] at h; cases h
  | some x =>
   obtain ⟨off,size⟩:=x;rw [hp] at h;simp only at h;split at h
   ·rename_i hc;obtain ⟨hc1,hc2⟩:=hc;obtain ⟨hv,hone⟩:=hrv 0 (i,c) (i,v) rfl rfl;obtain ⟨g1,g2,g3⟩:=hv.cells hone;have g1:v.cells.size=c.cells.length:=g1;have hsz:off+c.cells.length<=cells.length:=by omega
    have hfold:(v.cells.zipIdx.foldl (fun cs (x:Value × Nat)=>cs.setIfInBounds (off+x.2) x.1) arr)=spliceA arr off v.cells.toList:=by
     rw [<- Array.foldl_toList,Array.toList_zipIdx,zipIdx_fold]; rfl
    have ih:=fill_rel hpl ps qs (spliceL cells off c.cells) (spliceA arr off v.cells.toList) out h hm (fun j x y hx hy=>hrv (j+1) x y (by simpa using hx) (by simpa using hy)) (by rw [spliceA_size,spliceL_length hsz,h2])
     (fun c' hc'=>by
      rcases spliceL_mem hc' with h' | h'
      ·exact g2 _ h'
      ·exact h3 _ h')
     (fun j c' hj=>by
      rw [spliceA_getD _ _ _ _ q_287];rw [spliceL_get hsz] at hj;simp only [n_61,g1];split at hj
      ·rename_i hin;rw [if_pos hin];have:=g3 _ _ hj;simpa using this
      ·rename_i hin;rw [if_neg hin];exact h4 _ _ hj)
    obtain ⟨r,hr1,hr2⟩:=ih;refine ⟨r,?_,hr2⟩;simp only [Instr.fill,hpl,hp];rw [if_neg q_287];exact (congrArg (fun z=>Instr.fill place z qs) hfold).trans hr1
   ·cases h
theorem y_build {fs:Array Field} {pls:Array (Nat × Nat)} {out:List CV} (ho:o.op = .build t parts) (hv:∀ x∈parts.toList,E.valid x.2)
 (hu:∀ w,(underlying t).run C.P w = .ok (.struct fs) w) (hz:∀ w,(zeroValue t).run C.P w = .ok z w) (hz1:constOk z=true) (hz2:∃ cs,cvOf z = .agg cs)
 (hpl:∀ w,(fs.mapM fun (f:Field)=>do pure (f.offset,<- sizeOf f.type)).run C.P w = .ok pls w) (ep:parts.toList.map (fun x=>(x.1,E.val C x.2))=ps)
 (hone:∀ x∈ps,x.2.one=true\/∃ cs,x.2 = .agg cs) (hout:cfill pls (cvOf z).cells ps=some out):Yields C σ E o (.agg out) :=
 yields_same fun M w ρ hr h=>by
  have hz0:RV M w (cvOf z) z:=rv_cvOf hz1;obtain ⟨g1,g2,g3⟩:=hz0.cells (.inr hz2);have hmem:∀ x∈parts.toList,x.2∈o.op.operands:=fun x hx=>by
   rw [ho];simp only [Op.operands,List.mem_toArray,n_9];exact ⟨x,hx,rfl⟩
  obtain ⟨r,hr1,hr2⟩:=fill_rel (M:=M) (w:=w) (place:=fun i=>pls[i]?) q_291 ps (parts.toList.map fun x=>(x.1,ρ x.2)) (cvOf z).cells z.cells out hout (by simp [<- ep]) (fun i x y hx hy=>by
   refine ⟨?_,hone x (n_0 hx)⟩;subst ep;simp only [n_14,n_26] at hx hy;obtain ⟨a,ha,rfl⟩:=hx;obtain ⟨a',ha',rfl⟩:=hy;have:a=a':=by rw [ha] at ha'; injection ha'
   subst this;have hm:=n_0 ha;exact h _ (hmem _ hm) (hv _ hm)) g1 g2 g3
  refine ⟨.agg r,?_,hr2⟩;have hl:(parts.map fun x=>(x.1,ρ x.2)).toList=parts.toList.map fun x=>(x.1,ρ x.2):=by simp
  simp only [execOp,ho,Instr.build,Sem.run_bind,hz,Result.andThen_ok,hu,hpl];simp only [hl,hr1];rfl
end
def binding (e:Edge):Bool:=Region.binds .any e
def headB (ops:Array Oper) (nh:Nat) (ms:List Nat):Bool :=
 Nat.ble nh ops.size &&
 (List.range ops.size).all fun j =>
  match ops[j]? with
  | none=>true
  | some o =>
   (o.after.toList.all fun e=>!binding e || Nat.blt e.on j) &&
   ((List.range ops.size).all fun i=>!(ms.getD j 0).testBit i || o.after.toList.any fun e=>binding e && (Nat.beq e.on i || (ms.getD e.on 0).testBit i)) &&
   (if Nat.ble nh j then (List.range j).all fun i=>(ms.getD j 0).testBit i
    else
     ((o.looksAt ops).all fun t=>(List.range ops.size).all fun i=>Nat.beq i j || !((ops[i]?).bind (·.dst) == some t) || (if Nat.blt i j then (ms.getD j 0).testBit i else (ms.getD i 0).testBit j)) &&
     (o.dst == none || (List.range nh).all fun i=>Nat.beq i j || !((ops[i]?).bind (·.dst) == o.dst)))
structure HeadOk (ops:Array Oper) (nh:Nat) (ms:List Nat):Prop where
 le:nh<=ops.size
 edge:∀ j o,ops[j]? = some o->∀ e∈o.after,binding e=true->e.on < j
 mask:∀ j o,ops[j]? = some o->∀ i,i < ops.size->(ms.getD j 0).testBit i=true->∃ e∈o.after,binding e=true/\(e.on=i\/(ms.getD e.on 0).testBit i=true)
 tail:∀ j,nh<=j->j < ops.size->∀ i,i < j->(ms.getD j 0).testBit i=true
 tmps:∀ j o,j < nh->ops[j]? = some o->∀ t∈o.looksAt ops,∀ i,i < ops.size->i≠j->(ops[i]?).bind (·.dst)=some t->(i < j/\(ms.getD j 0).testBit i=true)\/(j < i/\(ms.getD i 0).testBit j=true)
 uniq:∀ j o d,j < nh->ops[j]? = some o->o.dst=some d->∀ i,i < nh->i≠j->(ops[i]?).bind (·.dst)≠some d
theorem headOk {ops:Array Oper} (h:headB ops nh ms=true):HeadOk ops nh ms:=by
 simp only [headB,n_29,n_22,n_90] at h;obtain ⟨h0,h⟩:=h;have get:∀ j o,ops[j]? = some o->_:=fun j o ho=>by
  have hj:j < ops.size:=(n_16.1 ho).1;have:=h j hj;rw [ho] at this;simp only [n_29] at this;exact this
 refine ⟨nb h0,fun j o ho e he hb=>?_,fun j o ho i hi hm=>?_,fun j hn hj i hi=>?_,fun j o hn ho t ht i hi hne hd=>?_,fun j o d hn ho hd i hi hne=>?_⟩
 ·have:=(get j o ho).1.1;rw [n_22] at this;have:=this e (by simpa using he);simp only [hb,n_68,n_75] at this;simpa [n_30] using this
 ·have:=(get j o ho).1.2;rw [n_22] at this;have:=this i q_274;simp only [hm,n_68,n_75,n_117,n_29,n_39] at this;obtain ⟨e,he,hb,hx⟩:=this;refine ⟨e,by simpa using he,hb,?_⟩
  rcases hx with hx | hx
  ·exact .inl (n_36 hx)
  ·exact .inr hx
 ·have ho:ops[j]? = some ops[j]:=by simp [hj]
  have:=(get j _ ho).2;rw [if_pos (by simpa [Nat.ble_eq] using hn),n_22] at this;exact this i q_274
 ·have:=(get j o ho).2;rw [if_neg (by simp [Nat.ble_eq]; omega)] at this;simp only [n_29] at this;have h1:=this.1;rw [n_22] at h1;have h2:=h1 t ht;rw [n_22] at h2;have h3:=h2 i q_274;have e1:Nat.beq i j=false:=n_73.2 fun hb=>hne (n_36 hb);simp only [e1,hd,n_75,beq_self_eq_true,n_68] at h3;by_cases hlt:i < j
  ·rw [if_pos (by simpa [n_30] using hlt)] at h3;exact .inl ⟨hlt,h3⟩
  ·rw [if_neg (by simp; omega)] at h3;exact .inr ⟨om_,h3⟩
 ·have:=(get j o ho).2;rw [if_neg (by simp [Nat.ble_eq]; omega)] at this;simp only [n_29] at this;have h1:=this.2;simp only [hd,n_39,n_22,n_90] at h1
  rcases h1 with h1 | h1
  ·cases h1
  ·have h3:=h1 i hi;intro hc
   rcases h3 with h3 | h3
   ·exact hne (n_36 h3)
   ·simp [hc] at h3
section
variable {ops:Array Oper}
def HeadOp (C:Ctx) (σ:List CObj) (ops:Array Oper) (o:Oper) (E:Env) (c:CV) (g:Prop):Prop :=
 (o.guard=none/\g/\Yields C σ E o c) \/
 (∃ j t want b,o.guard=some (j,want)/\(ops[j]?).bind (·.dst)=some t/\(¬ E.ok t->E.un t)/\E.f t = .val (.bool b)/\(g↔(E.ok t/\b=want))/\(E.ok t->b=want->Yields C σ E o c))
def CHead (C:Ctx) (σ:List CObj) (ops:Array Oper) (K:Env->Prop):List Oper->Env->Prop
 | [],E=>K E
 | o::l,E=>∃ c g,HeadOp C σ ops o E c g/\CHead C σ ops K l (E.put o.dst c g)
theorem ch_nil {K:Env->Prop} (h:K E):CHead C σ ops K [] E:=h
theorem ch_y {K:Env->Prop} (hg:o.guard=none) (hy:Yields C σ E o c) (h:CHead C σ ops K l (E.put o.dst c True)):CHead C σ ops K (o::l) E :=
 ⟨c,True,.inl ⟨hg,tt,hy⟩,h⟩
theorem ch_g {K:Env->Prop} {t:Nat} {b:Bool} (hg:o.guard=some (j,want)) (ht:(ops[j]?).bind (·.dst)=some t) (hv:E.ok t) (hb:E.f t = .val (.bool b))
 (hy:b=want->Yields C σ E o c) (h:CHead C σ ops K l (E.put o.dst c (b=want))):CHead C σ ops K (o::l) E :=
 ⟨c,b=want,.inr ⟨j,t,want,b,hg,ht,fun h=>absurd hv h,hb,⟨fun h=>⟨hv,h⟩,fun h=>h.2⟩,fun _=>hy⟩,h⟩
theorem ch_g2 {K:Env->Prop} {t:Nat} {b:Bool} (hg:o.guard=some (j,want)) (ht:(ops[j]?).bind (·.dst)=some t) (hv:¬ E.ok t->E.un t) (hb:E.f t = .val (.bool b))
 (hy:E.ok t->b=want->Yields C σ E o c) (h:CHead C σ ops K l (E.put o.dst c (E.ok t/\b=want))):CHead C σ ops K (o::l) E :=
 ⟨c,E.ok t/\b=want,.inr ⟨j,t,want,b,hg,ht,hv,hb,Iff.rfl,hy⟩,h⟩
def envOf (L:Nat->Bool):Nat->List (Oper × CV × Prop)->Env->Env
 | _,[],E=>E
 | k,(o,c,g)::l,E=>envOf L (k+1) l (match L k with | true=>E.put o.dst c g | false=>E)
def Env.agree (t:Nat) (E E':Env):Prop:=E.f t=E'.f t/\E.ok t=E'.ok t/\E.un t=E'.un t
theorem agree_put {t:Nat} {d:Option Nat} (h:d=some t\/E.agree t E'):(E.put d c g).agree t (E'.put d c g):=by
 cases d with
 | none =>
  rcases h with h | h
  ·cases h
  ·exact h
 | some d =>
  unfold Env.agree;simp only [Env.put_f,Env.put_ok,Env.put_un];by_cases ht:t=d
  ·subst ht; simp
  ·simp only [if_neg ht]
   rcases h with h | h
   ·injection h with h; exact absurd h.symm ht
   ·exact h
theorem agree_put_other {t:Nat} {d:Option Nat} (hd:d≠some t) (h:E.agree t E'):(E.put d c g).agree t E':=by
 cases d with
 | none=>exact h
 | some d =>
  have ht:t≠d:=fun e=>hd (by rw [e]);unfold Env.agree;simp only [Env.put_f,Env.put_ok,Env.put_un,if_neg ht];exact h
theorem Env.agree.symm {t:Nat} (h:E.agree t E'):E'.agree t E:=⟨h.1.symm,h.2.1.symm,h.2.2.symm⟩
theorem envOf_agree {t:Nat} {L L':Nat->Bool}:∀ (l:List (Oper × CV × Prop)) (k:Nat) (E E':Env),E.agree t E'->(∀ i x,l[i]? = some x->x.1.dst=some t->L (k+i)=L' (k+i))->(envOf L k l E).agree t (envOf L' k l E')
 | [],_,_,_,h,_=>h
 | (o,c,g)::l,k,E,E',h,hl=>by
  simp only [envOf];refine envOf_agree l (k+1) _ _ ?_ (fun i x hi hx=>by
   have:=hl (i+1) x q_274 hx;rwa [show k+(i+1)=k+1+i from by omega] at this)
  by_cases hd:o.dst=some t
  ·have:=hl 0 _ rfl hd;rw [n_38] at this;rw [this];cases L' k
   ·exact h
   ·exact agree_put (.inl hd)
  ·have h1:(match L k with | true=>E.put o.dst c g | false=>E).agree t E':=by
    cases L k
    ·exact h
    ·exact agree_put_other hd h
   cases L' k
   ·exact h1
   ·exact (agree_put_other hd h1.symm).symm
theorem envOf_at {d:Nat} {L:Nat->Bool}:∀ (l:List (Oper × CV × Prop)) (k j:Nat) (E:Env) (o:Oper) (c:CV) (g:Prop),l[j]? = some (o,c,g)->o.dst=some d->L (k+j)=true->(∀ i x,l[i]? = some x->i≠j->x.1.dst≠some d) ->
 (envOf L k l E).f d=c/\(envOf L k l E).ok d=g/\(envOf L k l E).un d=(¬ g)
 | [],_,_,_,_,_,_,h,_,_,_=>by simp at h
 | (o',c',g')::l,k,0,E,o,c,g,h,hd,hL,hu=>by
  simp only [n_91,Option.some.injEq,Prod.mk.injEq] at h;obtain ⟨rfl,rfl,rfl⟩:=h;rw [n_38] at hL;simp only [envOf,hL];have:(envOf L (k+1) l (E.put o'.dst c' g')).agree d (envOf (fun _=>false) (k+1) l (E.put o'.dst c' g')):=envOf_agree l _ _ _ ⟨rfl,rfl,rfl⟩ fun i x hi hx=>absurd hx (hu (i+1) x q_274 om_);have hall:∀ (l:List (Oper × CV × Prop)) (k:Nat) (E:Env),envOf (fun _=>false) k l E=E:=by
   intro l
   induction l with
   | nil=>intros; rfl
   | cons x l ih=>intro k E; obtain ⟨a,b,c⟩:=x; simp only [envOf]; exact ih _ _
  rw [hall] at this;rw [this.1,this.2.1,this.2.2,hd,Env.put_f,Env.put_ok,Env.put_un];simp
 | (o',c',g')::l,k,j+1,E,o,c,g,h,hd,hL,hu=>by
  simp only [envOf];exact envOf_at l (k+1) j _ o c g q_282 hd (by rwa [show k+1+j=k+(j+1) from by omega]) fun i x hi hne=>hu (i+1) x q_274 om_
theorem chead_vals {K:Env->Prop}:∀ (l:List Oper) (E:Env),CHead C σ ops K l E->∃ hs:List (Oper × CV × Prop),hs.map (·.1)=l/\K (envOf (fun _=>true) 0 hs E) /\
 ∀ i o c g,hs[i]? = some (o,c,g)->HeadOp C σ ops o (envOf (fun k=>decide (k < i)) 0 hs E) c g
 | [],E,h=>⟨[],rfl,h,si_⟩
 | o::l,E,⟨c,g,h1,h2⟩=>by
  obtain ⟨hs,e1,e2,e3⟩:=chead_vals l _ h2;have shift:∀ (L:Nat->Bool) (l:List (Oper × CV × Prop)) (k:Nat) (E:Env),envOf L (k+1) l E=envOf (fun i=>L (i+1)) k l E:=by
   intro L l
   induction l with
   | nil=>intros; rfl
   | cons x l ih=>intro k E; obtain ⟨a,b,c⟩:=x; simp only [envOf]; exact ih _ _
  refine ⟨(o,c,g)::hs,by simp [e1],?_,fun i o' c' g' hi=>?_⟩
  ·simp only [envOf];rw [shift];exact e2
  ·rcases i with _ | i
   ·simp only [n_91,Option.some.injEq,Prod.mk.injEq] at hi;obtain ⟨rfl,rfl,rfl⟩:=hi;have hall:∀ (l:List (Oper × CV × Prop)) (k:Nat) (E:Env),envOf (fun k=>decide (k < 0)) k l E=E:=by
     intro l
     induction l with
     | nil=>intros; rfl
     | cons x l ih =>
      intro k E; obtain ⟨a,b,c⟩:=x; simp only [envOf];have:decide (k < 0)=false:=by simp
      rw [this];exact ih _ _
    rw [hall];exact h1
   ·have:=e3 i o' c' g' q_274;simp only [envOf];have h0:decide (0 < i+1)=true:=by simp
    rw [h0,shift];have e:(fun k=>decide (k+1 < i+1))=fun k=>decide (k < i):=by funext k; simp
    rw [e];exact this
theorem anc_listed (hok:HeadOk ops nh ms) (hcl:∀ k o,ops[k]? = some o->listed.getD k false=true->∀ e∈o.after,binding e=true->listed.getD e.on false=true) :
 ∀ (j:Nat) (o:Oper),ops[j]? = some o->(∀ e∈o.after,binding e=true->listed.getD e.on false=true)->∀ i,i < ops.size->(ms.getD j 0).testBit i=true->listed.getD i false=true:=by
 intro j
 induction j using Nat.strongRecOn with
 | _ j ih =>
  intro o ho he i hi hm;obtain ⟨e,hmem,hb,hx⟩:=hok.mask j o ho i hi hm
  rcases hx with hx | hx
  ·subst hx; exact he e hmem hb
  ·have hlt:=hok.edge j o ho e hmem hb;have hj:j < ops.size:=(n_16.1 ho).1;have ho':ops[e.on]? = some (ops[e.on]'om_):=by simp [show e.on < ops.size by omega]
   exact ih e.on hlt _ ho' (hcl _ _ ho' (he e hmem hb)) i hi hx
theorem getD_false_true (hi:i < listed.size):(listed.getD i true=false)↔(listed.getD i false=false):=by
 simp [hi]
theorem any_tail {nh:Nat} {ms:List Nat} (hok:HeadOk ops nh ms) {Q:Exit->Act->World->Prop}:∀ (l:List Oper) (j:Nat) (listed:Array Bool) (a:Act) (w:World),nh<=j->(∀ i,l[i]? = ops[j+i]?)->listed.size=ops.size ->
 (∀ i,i < ops.size->listed.getD i false=decide (i < j))->wpList C.P ops Q l a w->wpAny C.P .any ops Q l.length listed a w
 | [],j,listed,a,w,_,hl,hsz,hL,h=>by
  refine ⟨?_,h⟩;have hj:ops.size<=j:=by
   rcases n_23 j ops.size with h' | h'
   ·have:=hl 0;simp [h'] at this
   ·exact h'
  apply n_131.2;intro i hi;obtain ⟨h1,o,ho,_⟩:=mem_ready.1 hi;have hi':i < ops.size:=(n_16.1 ho).1;have h2:=hL i hi';rw [(getD_false_true om_).1 h1] at h2;simp at h2; omega
 | o::l,j,listed,a,w,hn,hl,hsz,hL,h=>by
  have hj:ops[j]? = some o:=by have:=hl 0; simpa using this.symm
  have hjs:j < ops.size:=(n_16.1 hj).1;have hrdy:j∈Region.ready .any ops listed:=mem_ready.2 ⟨(getD_false_true om_).2 (by rw [hL j hjs]; simp),o,hj,fun e he hb=>by
   have:=hok.edge j o hj e he hb;rw [hL e.on om_]; simpa using this⟩
  refine ⟨fun h0=>(by rw [h0] at hrdy; cases hrdy),fun i hi=>?_⟩;have hij:i=j:=by
   obtain ⟨h1,o',ho',he⟩:=mem_ready.1 hi;have hi':i < ops.size:=(n_16.1 ho').1;have h2:=hL i hi';rw [(getD_false_true om_).1 h1] at h2;have hge:j<=i:=by simp at h2; omega
   rcases n_23 j i with hlt | hge'
   ·have hm:=hok.tail i om_ hi' j hlt;have:=anc_listed hok (listed:=listed) (fun k ok hk hkl e hek hb=>by
     have hks:k < ops.size:=(n_16.1 hk).1;rw [hL k hks] at hkl;have:=hok.edge k ok hk e hek hb;rw [hL e.on om_];simp at hkl ⊢; omega) i o' ho' (fun e hek hb=>he e hek hb) j hjs hm
    rw [hL j hjs] at this;simp at this
   ·omega
  subst hij;have hK:∀ a w,wpList C.P ops Q l a w->wpAny C.P .any ops Q l.length (listed.setIfInBounds i true) a w:=fun a w h =>
   any_tail hok l (i+1) _ a w om_ (fun k=>by have:=hl (k+1); simpa [n_66,n_102 1 k] using this) (by simp [hsz]) (fun k hk=>by
    by_cases hik:i=k
    ·subst hik;have:i < listed.size:=by omega
     simp [this]
    ·simp only [n_21,n_64 hik];rw [<- n_21,hL k hk];by_cases h1:k < i
     ·have h2:k < i+1:=by omega
      simp [h1,h2]
     ·have h2:¬ k < i+1:=by omega
      simp [h1,h2]) h
  unfold wpList at h;unfold wpOp;simp only [hj]
  split
  ·rename_i hw;rw [if_pos hw] at h;exact h.imp (Oper.wp_mono hK) id
  ·rename_i hw;rw [if_neg hw] at h;exact hK _ _ h
theorem looksAt_op {t:Nat} (h:Operand.tmp t∈o.op.operands):t∈o.looksAt ops :=
 n_86 _ (List.mem_filterMap.2 ⟨.tmp t,by simpa using h,rfl⟩)
theorem looksAt_guard {t:Nat} (hg:o.guard=some (j,want)) (ht:(ops[j]?).bind (·.dst)=some t):t∈o.looksAt ops:=by
 unfold Oper.looksAt;rw [hg];exact n_103 _ (by simp [ht])
theorem any_head (hok:HeadOk ops nh ms) {hs:List (Oper × CV × Prop)} (hhs:hs.map (·.1)=ops.toList.take nh)
 (hd:∀ o∈ops,∀ d,o.dst=some d->d < n)
 (hval:∀ i o c g,hs[i]? = some (o,c,g)->HeadOp C σ ops o (envOf (fun k=>decide (k < i)) 0 hs E) c g)
 (hfin:COps C n ops Q (ops.toList.drop nh) (envOf (fun _=>true) 0 hs E) σ) (M0:Plan) (w0:World) :
 ∀ (fuel:Nat) (listed:Array Bool) (u:List Nat) (a:Act) (w:World) (M:Plan),listed.size=ops.size->u.length=fuel->(∀ i,i < ops.size->listed.getD i false=false->i∈u)->(∀ i,i∈u->i < ops.size/\listed.getD i false=false)->u.Nodup ->
  (∀ k o,ops[k]? = some o->listed.getD k false=true->∀ e∈o.after,binding e=true->listed.getD e.on false=true)->(∀ i,nh<=i->i < ops.size->listed.getD i false=false) ->
  Ext M0 w0 M w->Rel C M σ w->FRel M w n (envOf (fun k=>listed.getD k false) 0 hs E) a->wpAny C.P .any ops (Lift C n Q M0 w0) fuel listed a w:=by
 have hget:∀ i o,i < nh->ops[i]? = some o->∃ c g,hs[i]? = some (o,c,g):=fun i o hi ho=>by
  have h1:(hs.map (·.1))[i]? = some o:=by rw [hhs,n_31,if_pos hi]; simpa using ho
  rw [n_14,n_26] at h1;obtain ⟨⟨o',c,g⟩,h1,rfl⟩:=h1;exact ⟨c,g,h1⟩
 have hback:∀ i x,hs[i]? = some x->i < nh/\ops[i]? = some x.1:=fun i x hi=>by
  have h1:(hs.map (·.1))[i]? = some x.1:=by rw [n_14,hi]; rfl
  rw [hhs,n_31] at h1;split at h1
  ·exact ⟨‹_›,by simpa using h1⟩
  ·cases h1
 have toTail:∀ (fuel:Nat) (listed:Array Bool) (a:Act) (w:World) (M:Plan),listed.size=ops.size->fuel=(ops.toList.drop nh).length->(∀ i,i < nh->listed.getD i false=true)->(∀ i,nh<=i->i < ops.size->listed.getD i false=false) ->
  Ext M0 w0 M w->Rel C M σ w->FRel M w n (envOf (fun k=>listed.getD k false) 0 hs E) a->wpAny C.P .any ops (Lift C n Q M0 w0) fuel listed a w:=by
  intro fuel listed a w M hsz hfu h1 h2 hx hr hf; subst hfu; refine any_tail hok _ nh listed a w (n_5 _) (fun i=>by simp) hsz (fun i hi=>?_) ?_
  ·by_cases h:i < nh
   ·rw [h1 i h]; simp [h]
   ·rw [h2 i om_ hi]; simp [h]
  ·have hag:∀ t,(envOf (fun _=>true) 0 hs E).agree t (envOf (fun k=>listed.getD k false) 0 hs E):=fun t=>envOf_agree hs 0 E E ⟨rfl,rfl,rfl⟩ fun i x hi _=>by
    have:=(hback i x hi).1;simp [h1 i this]
   refine hfin.later hx hr ⟨hf.defers,hf.size,fun t ht=>?_,fun t ht=>hf.un t (by rw [<- (hag t).2.2]; exact ht)⟩;rw [(hag t).1];exact hf.rv t (by rw [<- (hag t).2.1]; exact ht)
 intro fuel
 induction fuel with
 | zero =>
  intro listed u a w M hsz hu hun _ _ hcl htl hx hr hf;have hu0:u=[]:=n_87 hu;subst hu0;have hall:∀ i,i < ops.size->listed.getD i false=true:=fun i hi=>by
   cases h:listed.getD i false with
   | true=>rfl
   | false=>exact absurd (hun i hi h) si_
  have hns:ops.size<=nh:=by
   rcases n_23 nh ops.size with h | h
   ·have h1:=hall nh h;rw [htl nh (n_5 _) h] at h1;cases h1
   ·exact h
  refine toTail 0 listed a w M hsz q_287 (fun i hi=>hall i (by have:=hok.le; omega)) htl hx hr hf
 | succ fuel ih =>
  intro listed u a w M hsz hu hun hun' hnd hcl htl hx hr hf;have hleast:∃ j,j∈Region.ready .any ops listed:=by
   have hex:∃ j,j < ops.size/\listed.getD j false=false:=by
    cases u with
    | nil=>simp at hu
    | cons x u=>exact ⟨x,hun' x si_⟩
   obtain ⟨j,hj,hmin⟩:∃ j,(j < ops.size/\listed.getD j false=false)/\∀ i,i < j->¬ (i < ops.size/\listed.getD i false=false):=by
    obtain ⟨j,hj⟩:=hex
    induction j using Nat.strongRecOn with
    | _ j ihj =>
     by_cases h:∃ i,i < j/\i < ops.size/\listed.getD i false=false
     ·obtain ⟨i,hi,hp⟩:=h;exact ihj i hi hp
     ·exact ⟨j,hj,fun i hi hp=>h ⟨i,hi,hp⟩⟩
   refine ⟨j,mem_ready.2 ⟨(getD_false_true om_).2 hj.2,ops[j]'hj.1,by simp [hj.1],fun e he hb=>?_⟩⟩;have hlt:=hok.edge j _ (by simp [hj.1]) e he hb;cases h:listed.getD e.on false with
   | true=>rfl
   | false=>exact absurd ⟨om_,h⟩ (hmin e.on hlt)
  obtain ⟨j0,hj0⟩:=hleast;by_cases htail:∃ i∈Region.ready .any ops listed,nh<=i
  ·
   obtain ⟨i,hi,hni⟩:=htail;obtain ⟨h1,o,ho,he⟩:=mem_ready.1 hi;have his:i < ops.size:=(n_16.1 ho).1;have hall:∀ k,k < i->listed.getD k false=true:=fun k hk=>anc_listed hok hcl i o ho (fun e hek hb=>he e hek hb) k om_ (hok.tail i hni his k hk);have hin:i=nh:=by
    rcases n_23 nh i with h | h
    ·have:=hall nh h;rw [htl nh (n_5 _) om_] at this;cases this
    ·omega
   subst hin;refine toTail (fuel+1) listed a w M hsz ?_ hall htl hx hr hf;have hperm:u.length=(List.range' i (ops.size - i)).length:=by
    apply List.Perm.length_eq;apply (n_132 hnd (List.nodup_range')).2;intro k;rw [List.mem_range'_1];constructor
    ·intro hk;obtain ⟨h2,h3⟩:=hun' k hk;refine ⟨?_,om_⟩
     rcases n_23 k i with h4 | h4
     ·rw [hall k h4] at h3; cases h3
     ·exact h4
    ·intro ⟨h2,h3⟩;exact hun k om_ (htl k h2 om_)
   rw [hu] at hperm;simp at hperm ⊢;omega
  ·refine ⟨fun h0=>(by rw [h0] at hj0; cases hj0),fun i hi=>?_⟩;have hin:i < nh:=by
    rcases n_23 i nh with h | h
    ·exact h
    ·exact absurd ⟨i,hi,h⟩ htail
   obtain ⟨h1,o,ho,he⟩:=mem_ready.1 hi;have his:i < ops.size:=(n_16.1 ho).1;have hiL:listed.getD i false=false:=(getD_false_true om_).1 h1;obtain ⟨c,g,hc⟩:=hget i o hin ho;have hop:=hval i o c g hc;have hag:∀ t,t∈o.looksAt ops->(envOf (fun k=>decide (k < i)) 0 hs E).agree t (envOf (fun k=>listed.getD k false) 0 hs E):=fun t ht=>envOf_agree hs 0 E E ⟨rfl,rfl,rfl⟩ fun k x hk hkd=>by
    rw [n_10];obtain ⟨hkn,hko⟩:=hback k x hk;have hks:k < ops.size:=(n_16.1 hko).1;by_cases hki:k=i
    ·subst hki; rw [hiL]; simp
    ·rcases hok.tmps i o hin ho t ht k hks hki (by rw [hko]; exact hkd) with ⟨h2,h3⟩ | ⟨h2,h3⟩
     ·have:=anc_listed hok hcl i o ho (fun e hek hb=>he e hek hb) k hks h3;rw [this]; simp [h2]
     ·have:listed.getD k false=false:=by
       cases h:listed.getD k false with
       | false=>rfl
       | true =>
        have:=anc_listed hok hcl k x.1 hko (hcl k x.1 hko h) i his h3;rw [hiL] at this;cases this
      rw [this];have:¬ k < i:=by omega
      simp [this]
   have next:∀ (v:Value) (w':World) (M':Plan),Ext M w M' w'->Rel C M' σ w'->(g->RV M' w' c v)->(¬ g->v=undef)->wpAny C.P .any ops (Lift C n Q M0 w0) fuel (listed.setIfInBounds i true) (a.put o.dst v) w':=by
    intro v w' M' hx' hr' hv hun0;have hiu:i∈u:=hun i his hiL;have hgd:∀ k,(listed.setIfInBounds i true).getD k false=if k=i then true else listed.getD k false:=fun k=>by
     by_cases hki:k=i
     ·subst hki;have:k < listed.size:=by omega
      simp [this]
     ·rw [if_neg hki];simp [n_64 (Ne.symm hki)]
    refine ih (listed.setIfInBounds i true) (u.erase i) _ w' M' (by simp [hsz]) q_215 (fun k hk hkl=>?_) (fun k hk=>?_) (hnd.erase i) (fun k ok hk hkl e hek hb=>?_) (fun k hk hks=>?_) (hx.trans hx') hr' ?_
    ·rw [hgd] at hkl;split at hkl
     ·cases hkl
     ·rename_i hne;exact (List.mem_erase_of_ne hne).2 (hun k hk hkl)
    ·have hne:k≠i:=fun e=>by subst e; exact (hnd.not_mem_erase) hk
     rw [hgd,if_neg hne];exact hun' k (List.mem_of_mem_erase hk)
    ·rw [hgd] at hkl ⊢
     split
     ·rfl
     ·split at hkl
      ·rename_i hki;subst hki;rw [ho] at hk;injection hk with hk
       subst hk;exact he e hek hb
      ·exact hcl k ok hk hkl e hek hb
    ·rw [hgd,if_neg om_];exact htl k hk hks
    ·have hput:=(hf.mono hx').put (d:=o.dst) (c:=c) (v:=v) (g:=g) (fun t ht=>hd o (n_47 ho) t ht) hv hun0;have hag':∀ t,(envOf (fun k=>(listed.setIfInBounds i true).getD k false) 0 hs E).agree t ((envOf (fun k=>listed.getD k false) 0 hs E).put o.dst c g):=by
      intro t;by_cases hdt:o.dst=some t
      ·have hat:=envOf_at (L:=fun k=>(listed.setIfInBounds i true).getD k false) hs 0 i E o c g hc hdt (by simp only [n_10,hgd,if_true]) (fun k x hk hne=>by
        obtain ⟨hkn,hko⟩:=hback k x hk;have:=hok.uniq i o t hin ho hdt k hkn hne;rw [hko] at this;exact this)
       unfold Env.agree;rw [hat.1,hat.2.1,hat.2.2,hdt,Env.put_f,Env.put_ok,Env.put_un];simp
      ·refine (agree_put_other hdt ?_).symm;refine envOf_agree hs 0 E E ⟨rfl,rfl,rfl⟩ fun k x hk hkd=>?_;rw [n_10,hgd]
       split
       ·rename_i hki;subst hki;rw [hc] at hk;injection hk with hk
        subst hk;exact absurd hkd hdt
       ·rfl
     refine ⟨hput.defers,hput.size,fun t ht=>?_,fun t ht=>hput.un t (by rw [<- (hag' t).2.2]; exact ht)⟩;rw [(hag' t).1];exact hput.rv t (by rw [<- (hag' t).2.1]; exact ht)
   unfold wpOp;simp only [ho];have hopr:∀ x∈o.op.operands,(envOf (fun k=>decide (k < i)) 0 hs E).valid x->RV M w ((envOf (fun k=>decide (k < i)) 0 hs E).val C x) (a.eval x):=fun x hx hv=>by
    cases x with
    | tmp t =>
     have h2:=hag t (looksAt_op hx);simp only [Env.val,Env.valid] at hv ⊢;rw [h2.1];exact hf.rv t (by rw [<- h2.2.1]; exact hv)
    | const v=>exact hf.eval (x:=.const v) hr hv
    | global v=>exact hf.eval (x:=.global v) hr hv
    | func v=>exact hf.eval (x:=.func v) hr hv
   rcases hop with ⟨hg,hgp,hy⟩ | ⟨j,t,want,b,hg,ht,hok',hb,hgb,hy⟩
   ·rw [if_pos q_264];refine .inl (wp_of_upon (hy M w a.eval hr hopr) (fun v w' ha=>?_) (fun ch w' ha=>?_))
    ·obtain ⟨c',σ',M',h1,h2,h3,h4,rfl⟩:=ha;injection h4 with h4
     subst h4;exact next v w' M' h1 h2 (fun _=>h3) fun hh=>absurd hgp hh
    ·obtain ⟨c',v,σ',M',_,_,_,_,h4,_⟩:=ha;cases h4
   ·have h2:=hag t (looksAt_guard hg ht);by_cases hokt:(envOf (fun k=>decide (k < i)) 0 hs E).ok t
    ·have h3:RV M w ((envOf (fun k=>listed.getD k false) 0 hs E).f t) (a.tmps.getD t undef):=hf.rv t (by rw [<- h2.2.1]; exact hokt);rw [<- h2.1,hb] at h3;have h4:=rv_val h3;have hszt:t < a.tmps.size:=by
      rcases n_23 t a.tmps.size with h' | h'
      ·exact h'
      ·simp [n_43 h',undef] at h4
     have h5:a.tmps[t]? = some (.bool b):=by
      rw [n_21,n_24 hszt] at h4;rw [n_24 hszt,<- h4]; rfl
     have h6:yielded ops a.tmps j=some b:=by unfold yielded; rw [ht,n_6,h5]
     have hw:Region.wanted o (yielded ops a.tmps)=(b == want):=by
      simp only [Region.wanted,hg,h6];cases b <;> cases want <;> rfl
     by_cases hbw:b=want
     ·rw [if_pos q_263];refine .inl (wp_of_upon (hy hokt hbw M w a.eval hr hopr) (fun v w' ha=>?_) (fun ch w' ha=>?_))
      ·obtain ⟨c',σ',M',h1,h2,h3,h4,rfl⟩:=ha;injection h4 with h4
       subst h4;exact next v w' M' h1 h2 (fun _=>h3) fun hh=>absurd (hgb.2 ⟨hokt,hbw⟩) hh
      ·obtain ⟨c',v,σ',M',_,_,_,_,h4,_⟩:=ha;cases h4
     ·rw [if_neg q_263];exact next undef w M (Ext.refl M w) hr (fun hgg=>absurd (hgb.1 hgg).2 hbw) fun _=>rfl
    ·have h3:=hf.un t (by rw [<- h2.2.2]; exact hok' hokt);have h6:yielded ops a.tmps j=none:=by
      unfold yielded;rw [ht,n_6]
      rcases n_23 t a.tmps.size with h' | h'
      ·rw [n_21,n_24 h'] at h3;rw [n_24 h'];simp only [n_44] at h3;rw [h3];rfl
      ·rw [n_43 h']
     have hw:Region.wanted o (yielded ops a.tmps)=false:=by
      simp only [Region.wanted,hg,h6];cases want <;> rfl
     rw [if_neg (by rw [hw]; simp)];exact next undef w M (Ext.refl M w) hr (fun hgg=>absurd (hgb.1 hgg).1 hokt) fun _=>rfl
theorem Rel.drew (hr:Rel C M σ w):Rel C M σ { w with drawn:=w.drawn+1}/\Ext M w M { w with drawn:=w.drawn+1}:=by
 have hx:Ext M w M { w with drawn:=w.drawn+1}:=⟨⟨[],si_⟩,fun _ h=>h,fun _ _ h=>.inr h,fun _ _=>rfl,fun _ _ _=>rfl,n_5 _,nb_drew,rfl,rfl,rfl,fun _ h=>⟨h,rfl,id,fun _=>id⟩⟩;refine ⟨⟨hr.len,hr.blk,fun k p ob hk hs=>⟨(hr.obj k p ob hk hs).1.mono hx rfl (fun _ _ _ _ h=>h),(hr.obj k p ob hk hs).2⟩,hr.inj,fun g cells hg=>(hr.glob g cells hg).mono hx,hr.kep,hr.nk⟩,hx⟩
theorem cw_draw {id:Nat} (nh:Nat) (ms:List Nat) (hm:C.P.follows .mixedOrders=true) (hB:headB ops nh ms=true) (hd:(ops.toList.all fun o=>match o.dst with | some d=>Nat.blt d n | none=>true)=true)
 (h:CHead C σ ops (fun E'=>COps C n ops Q (ops.toList.drop nh) E' σ) (ops.toList.take nh) E):CWp C n (.region id ops true) Q E σ:=fun M w a hr hf=>by
 have hok:=headOk hB;obtain ⟨hs,h1,h2,h3⟩:=chead_vals _ _ h;obtain ⟨hr',hx⟩:=hr.drew;refine wp_region_any hm (any_head hok h1 (fun o ho d hod=>?_) h3 h2 M w ops.size (Array.replicate ops.size false) (List.range ops.size) a _ M si_ si_ (fun i hi _=>by simpa using hi) (fun i hi=>?_) List.nodup_range (fun k o hk hkl=>?_) (fun i _ hi=>?_) hx hr' ?_)
 ·rw [n_22] at hd;have:=hd o (by simpa using ho);rw [hod] at this;simpa [n_30] using this
 ·have:i < ops.size:=by simpa using hi
  exact ⟨this,by simp [this]⟩
 ·have hks:k < ops.size:=(n_16.1 hk).1;simp [hks] at hkl
 ·simp [hi]
 ·have hff:(fun k=>(Array.replicate ops.size false).getD k false)=fun _=>false:=by
   funext k
   simp only [n_21,n_113]
   split <;> rfl
  rw [hff];have hall:∀ (l:List (Oper × CV × Prop)) (k:Nat) (E:Env),envOf (fun _=>false) k l E=E:=by
   intro l
   induction l with
   | nil=>intros; rfl
   | cons x l ih=>intro k E; obtain ⟨a,b,c⟩:=x; simp only [envOf]; exact ih _ _
  rw [hall];exact hf.mono hx
end
def Env.valids (E:Env):List Operand->Prop
 | []=>True
 | x::l=>E.valid x/\E.valids l
def Env.vals (C:Ctx) (E:Env):List Operand->List CV
 | []=>[]
 | x::l=>E.val C x::E.vals C l
theorem Env.valids_mem:∀ {l:List Operand},E.valids l->∀ x∈l,E.valid x
 | [],_,x,h=>by simp at h
 | y::l,⟨h1,h2⟩,x,h=>by
  rcases n_13.1 h with rfl | h
  ·exact h1
  ·exact Env.valids_mem h2 x h
theorem Env.vals_map:∀ (l:List Operand),l.map (E.val C)=E.vals C l
 | []=>rfl
 | x::l=>by simp [Env.vals,Env.vals_map l]
section
theorem y_call (ho:o.op = .call { callee:=.value (.func f),args:=xs,argTypes:=ts}) (hcall:∀ args w,(callFunc f args).run C.P w = .ok (.enter f args) w)
 (hv:E.valids xs.toList) (ea:E.vals C xs.toList=cargs) (h:CCalls C f cargs σ fun r σ'=>r = .ret c/\σ'=σ):Yields C σ E o c :=
 d_call ho hcall (Env.valids_mem hv) ((Env.vals_map _).trans ea) h
def resOf (C:Ctx) (E:Env) (σ:List CObj):ResultVar->CV->Prop
 | .tmp t,c=>E.ok t/\E.f t=c
 | .cell a t,c=>E.ok a/\∃ k off cells,E.f a = .ptr k off/\σ[k]? = some (.box cells) /\
  (((∀ w,(isAgg t).run C.P w = .ok false w)/\cells[off]? = some c)\/(∃ s,(∀ w,(isAgg t).run C.P w = .ok true w)/\(∀ w,(sizeOf t).run C.P w = .ok s w)/\off+s<=cells.length/\c = .agg ((cells.drop off).take s)))
def resAll (C:Ctx) (E:Env) (σ:List CObj):List ResultVar->List CV->Prop
 | [],[]=>True
 | r::rs,c::cs=>resOf C E σ r c/\resAll C E σ rs cs
 | _,_=>False
theorem run_box_load (hr:Rel C M σ w) {u:Value} (hu:RV M w (.ptr k off) u) (hk:σ[k]? = some (.box cells))
 (h:((∀ w,(isAgg t).run C.P w = .ok false w)/\cells[off]? = some c)\/(∃ s,(∀ w,(isAgg t).run C.P w = .ok true w)/\(∀ w,(sizeOf t).run C.P w = .ok s w)/\off+s<=cells.length/\c = .agg ((cells.drop off).take s))) :
 ∃ a v,u = .pointer (some a)/\(loadVar t a).run C.P w = .ok v w/\RV M w c v:=by
 cases hu with
 | ptr hp =>
  rename_i p
  rcases h with ⟨ha,hc⟩ | ⟨s,ha,hs,hl,rfl⟩
  ·obtain ⟨v,hv,hrv,_⟩:=box_cell hr hp hk hc;exact ⟨_,v,rfl,by simp [loadVar,ha,hv],hrv⟩
  ·obtain ⟨arr,ty,h1,h2,h3,h4⟩:=(hr.obj k p _ hp hk).1;have hcell:∀ j,j < s->w.cell? ⟨p.block,off+j,none⟩=some (arr.getD (off+j) undef):=fun j hj=>by
    have:off+j < arr.size:=by omega
    simp [World.cell?,h1,this]
   refine ⟨_,.agg ((List.range s).map fun j=>arr.getD (off+j) undef).toArray,rfl,by simp [loadVar,ha,hs,run_loadCells' (P:=C.P) (w:=w) _ s hcell],.agg q_287 (fun c hc=>h3 c (n_52 (n_60 hc))) (fun i c hi=>?_)⟩;have hi':i < s:=by
    have:=(n_1.1 hi).1;simp at this; omega
   rw [n_31,if_pos hi',n_49] at hi;have:=h4 (off+i) c hi;simpa [hi'] using this
def resSem (tmps:Array Value):ResultVar->Sem Value:=fun
 | .tmp t=>pure (tmps.getD t undef)
 | .cell a t=>do loadVar t (<- asAddr (tmps.getD a undef))
theorem run_res {M:Plan} {w:World} (hr:Rel C M σ w) {tmps:Array Value} (h:∀ t,E.ok t->RV M w (E.f t) (tmps.getD t undef)):∀ (rs:List ResultVar) (cs:List CV),resAll C E σ rs cs ->
 ∃ vs:List Value,(rs.mapM (resSem tmps)).run C.P w = .ok vs w/\vs.length=cs.length/\∀ (i:Nat) (c:CV),cs[i]? = some c->RV M w c (vs.getD i undef)
 | [],[],_=>⟨[],si_,rfl,si_⟩
 | r::rs,c::cs,⟨h1,h2⟩=>by
  obtain ⟨vs,hv,hl,hrv⟩:=run_res hr h rs cs h2;have:∃ v,(resSem tmps r).run C.P w = .ok v w/\RV M w c v:=by
   cases r with
   | tmp t =>
    obtain ⟨ho,hc⟩:=h1;exact ⟨_,by simp [resSem],hc ▸ h t ho⟩
   | cell a t =>
    obtain ⟨ho,k,off,cells,he,hk,hc⟩:=h1;have hu:=h a ho;rw [he] at hu;obtain ⟨ad,v,e1,e2,e3⟩:=run_box_load hr hu hk hc;exact ⟨v,by simp only [resSem,e1,asAddr,Sem.run_bind,Sem.run_pure,Result.andThen_ok,e2],e3⟩
  obtain ⟨v,hv1,hv2⟩:=this;refine ⟨v::vs,by simp [List.mapM_cons,hv1,hv],by simp [hl],fun i c' hi=>?_⟩
  rcases i with _ | i
  ·simp at hi; subst hi; exact hv2
  ·exact hrv i c' q_274
 | [],_::_,h=>h.elim
 | _::_,[],h=>h.elim
theorem res_all {fn:Func} {rs:List ResultVar} (hrs:fn.results=rs.toArray) (h:resAll C E σ rs cs) (hn:cs.length≠1):CResults C E σ fn (.tup cs):=fun M w a hr hh=>by
 obtain ⟨vs,h1,h2,h3⟩:=run_res (C:=C) hr hh rs cs h;refine ⟨.tuple vs.toArray,?_,.tup (by simp [h2]) (fun i c hi=>by simpa using h3 i c hi)⟩;have:(results fn a.tmps).run C.P w=((rs.toArray.mapM (resSem a.tmps)).run C.P w).andThen fun vs w=>.ok (if h:vs.size=1 then vs[0] else .tuple vs) w:=by
  unfold results;rw [hrs,Sem.run_bind];rfl
 rw [this,List.mapM_toArray,Sem.run_map,h1];simp only [Result.andThen_ok];rw [dif_neg q_287]
theorem res_one {fn:Func} {r:ResultVar} (hrs:fn.results = #[r]) (h:resOf C E σ r c):CResults C E σ fn c:=fun M w a hr hh=>by
 obtain ⟨vs,h1,h2,h3⟩:=run_res (C:=C) hr hh [r] [c] ⟨h,tt⟩;obtain ⟨v,rfl⟩:∃ v,vs=[v]:=by
  match vs,h2 with
  | [v],_=>exact ⟨v,rfl⟩
 refine ⟨v,?_,by simpa using h3 0 c rfl⟩;have:(results fn a.tmps).run C.P w=((#[r].mapM (resSem a.tmps)).run C.P w).andThen fun vs w=>.ok (if h:vs.size=1 then vs[0] else .tuple vs) w:=by
  unfold results;rw [hrs,Sem.run_bind];rfl
 have e:(#[r].mapM (resSem a.tmps))=([r].toArray.mapM (resSem a.tmps)):=rfl;rw [this,e,List.mapM_toArray,Sem.run_map,h1];simp
def Plan.settle (M:Plan) (b:Nat):Plan:={ M with full:=fun x=>M.full x\/x=b}
theorem Rel.allocFull (hr:Rel C M σ w) (ob:Obj):Ext M w (M.settle w.heap.size) (w.alloc ob)/\Rel C (M.settle w.heap.size) σ (w.alloc ob):=by
 have hx:Ext M w (M.settle w.heap.size) (w.alloc ob):=⟨⟨[],by simp [Plan.settle]⟩,fun _ h=>.inl h,fun _ _ h=>.inr h,fun b h=>heap_alloc_lt w ob (hr.blk b 0 (.inl h)),fun b o' h=>cell?_of_same (heap_alloc_lt w ob (hr.blk b o' (.inr h))),by rw [World.size_alloc]; omega,nb_drew,rfl,rfl,rfl,fun b h=>⟨h,heap_alloc_lt w ob (hr.kep b h),fun f=>(by
  rcases f with f | f
  ·exact f
  ·have:=hr.kep b h; omega),fun _ f=>f⟩⟩
 refine ⟨hx,hr.len,fun b o' ha=>?_,fun k p x hk hs=>?_,hr.inj,fun g cells hg=>(hr.glob g cells hg).mono hx,fun b h=>(by rw [World.size_alloc]; have:=hr.kep b h; omega),hr.nk⟩
 ·rw [World.size_alloc]
  rcases ha with (ha | ha) | ha
  ·have:=hr.blk b o' (.inl ha); omega
  ·omega
  ·have:=hr.blk b o' (.inr ha); omega
 ·obtain ⟨h1,h2⟩:=hr.obj k p x hk hs;by_cases hl:x.live=true
  ·have hlt:=h1.lt hl;refine ⟨h1.mono hx (heap_alloc_lt w ob hlt) (fun _ _ _ _ h=>h),?_⟩;have hf:¬ M.full p.block->¬ (M.settle w.heap.size).full p.block:=fun h h'=>by
    rcases h' with h' | h'
    ·exact h h'
    ·omega
   cases x <;> first | trivial|exact hf h2|exact ⟨hf h2.1,h2.2⟩
  ·cases x <;> first|exact ⟨tt,tt⟩ | simp [CObj.live] at hl
def cfillW (place:Nat->Option (Nat × Nat)) (cells:List CV):List (Nat × CV)->Option (List CV)
 | []=>some cells
 | (i,c)::rest =>
  match place i with
  | none=>none
  | some (off,size)=>if c.cells.length=size/\off+size<=cells.length then cfillW place (spliceL cells off c.cells) rest else none
theorem fillW_rel {M:Plan} {w:World} {place:Nat->Option (Nat × Nat)}:∀ (ps:List (Nat × CV)) (qs:List (Nat × Value)) (cells:List CV) (arr:Array Value) (out:List CV),
 cfillW place cells ps=some out->ps.map (·.1)=qs.map (·.1)->(∀ (i:Nat) (x:Nat × CV) (y:Nat × Value),ps[i]? = some x->qs[i]? = some y->RV M w x.2 y.2/\(x.2.one=true\/∃ cs,x.2 = .agg cs)) ->
 arr.size=cells.length->(∀ c∈cells,c.one=true)->(∀ (i:Nat) (c:CV),cells[i]? = some c->RV M w c (arr.getD i undef)) ->
 ∃ r,Instr.fill place arr qs=some r/\RV M w (.agg out) (.agg r)
 | [],[],cells,arr,out,h,_,_,h2,h3,h4=>by
  simp only [cfillW,Option.some.injEq] at h;subst h;exact ⟨arr,rfl,.agg h2 h3 h4⟩
 | [],q::qs,_,_,_,_,h,_,_,_,_=>by simp at h
 | p::ps,[],_,_,_,_,h,_,_,_,_=>by simp at h
 | (i,c)::ps,(i',v)::qs,cells,arr,out,h,hm,hrv,h2,h3,h4=>by
  simp only [n_65,List.cons.injEq] at hm;obtain ⟨rfl,hm⟩:=hm;simp only [cfillW] at h;cases hp:place i with
  | none=>rw [hp] at h; cases h
  | some x =>
   obtain ⟨off,size⟩:=x;rw [hp] at h;simp only at h;split at h
   ·rename_i hc;obtain ⟨hc1,hc2⟩:=hc;obtain ⟨hv,hone⟩:=hrv 0 (i,c) (i,v) rfl rfl;obtain ⟨g1,g2,g3⟩:=hv.cells hone;have g1:v.cells.size=c.cells.length:=g1;have hsz:off+c.cells.length<=cells.length:=by omega
    have hfold:(v.cells.zipIdx.foldl (fun cs (x:Value × Nat)=>cs.setIfInBounds (off+x.2) x.1) arr)=spliceA arr off v.cells.toList:=by
     rw [<- Array.foldl_toList,Array.toList_zipIdx,zipIdx_fold]; rfl
    have ih:=fillW_rel ps qs (spliceL cells off c.cells) (spliceA arr off v.cells.toList) out h hm (fun j x y hx hy=>hrv (j+1) x y (by simpa using hx) (by simpa using hy)) (by rw [spliceA_size,spliceL_length hsz,h2])
     (fun c' hc'=>by
      rcases spliceL_mem hc' with h' | h'
      ·exact g2 _ h'
      ·exact h3 _ h')
     (fun j c' hj=>by
      rw [spliceA_getD _ _ _ _ q_287];rw [spliceL_get hsz] at hj;simp only [n_61,g1];split at hj
      ·rename_i hin;rw [if_pos hin];have:=g3 _ _ hj;simpa using this
      ·rename_i hin;rw [if_neg hin];exact h4 _ _ hj)
    obtain ⟨r,hr1,hr2⟩:=ih;refine ⟨r,?_,hr2⟩;simp only [Instr.fill,hp];rw [if_neg q_287];exact (congrArg (fun z=>Instr.fill place z qs) hfold).trans hr1
   ·cases h
theorem flat_get {α:Type} {s:Nat}:∀ (rows:List (List α)),(∀ r∈rows,r.length=s)->∀ (i j:Nat) (r:List α) (c:α),rows[i]? = some r->r[j]? = some c->rows.flatten[i*s+j]? = some c
 | [],_,i,j,r,c,h,_=>by simp at h
 | r0::rows,hs,i,j,r,c,hi,hj=>by
  have h0:=hs r0 si_;rw [List.flatten_cons,n_45]
  rcases i with _ | i
  ·simp at hi; subst hi;have:=(n_1.1 hj).1;rw [if_pos om_];simpa using hj
  ·simp at hi;have hr:=hs r (by simp [n_0 hi]);have hlt:=(n_1.1 hj).1;rw [if_neg (by rw [h0,n_20]; omega)];have:=flat_get rows (fun r hr=>hs r (by simp [hr])) i j r c hi hj;rw [h0,show (i+1)*s+j - s=i*s+j from by rw [n_20]; omega];exact this
theorem flat_len {α:Type} {s:Nat}:∀ (rows:List (List α)),(∀ r∈rows,r.length=s)->rows.flatten.length=rows.length*s
 | [],_=>by simp
 | r0::rows,hs=>by
  have h0:=hs r0 si_;rw [List.flatten_cons,n_4,flat_len rows (fun r hr=>hs r (by simp [hr])),h0,n_7,n_20];omega
theorem y_buildSlice {len:Nat} (ho:o.op = .buildSlice t len parts) (hv:E.valids (parts.toList.map (·.2)))
 (hu:∀ w,(underlying t).run C.P w = .ok (.slice e) w) (hs:∀ w,(sizeOf e).run C.P w = .ok s w) (hz:∀ w,(zeroValue e).run C.P w = .ok z w) (hz1:constOk z=true) (hz2:(cvOf z).one=true\/∃ cs,cvOf z = .agg cs) (hzl:(cvOf z).cells.length=s) (hs0:0 < s)
 (hlen:len*s<=2^24) (ep:parts.toList.map (fun x=>(x.1,E.val C x.2))=ps) (hone:∀ x∈ps,x.2.one=true\/∃ cs,x.2 = .agg cs)
 (hout:cfillW (fun i=>some (i*s,s)) ((List.range (len*s)).map fun i=>(cvOf z).cells.getD (i%s) default) ps=some rows.flatten) (hrl:rows.length=len) (hrs:∀ r∈rows,r.length=s):Yields C σ E o (.list rows true none):=fun M w ρ hr h=>by
 have hz0:RV M w (cvOf z) z:=rv_cvOf hz1;obtain ⟨g1,g2,g3⟩:=hz0.cells hz2;have hmem:∀ x∈parts.toList,x.2∈o.op.operands:=fun x hx=>by
  rw [ho];simp only [Op.operands,List.mem_toArray,n_9];exact ⟨x,hx,rfl⟩
 have hval:=Env.valids_mem hv;obtain ⟨r,hr1,hr2⟩:=fillW_rel (M:=M) (w:=w) ps (parts.toList.map fun x=>(x.1,ρ x.2)) ((List.range (len*s)).map fun i=>(cvOf z).cells.getD (i%s) default) ((Array.range (len*s)).map (z.cells[·%z.cells.size]!)) rows.flatten hout (by simp [<- ep]) (fun i x y hx hy=>by
  refine ⟨?_,hone x (n_0 hx)⟩;subst ep;simp only [n_14,n_26] at hx hy;obtain ⟨a,ha,rfl⟩:=hx;obtain ⟨a',ha',rfl⟩:=hy;have:a=a':=by rw [ha] at ha'; injection ha'
  subst this;have hm:=n_0 ha;exact h _ (hmem _ hm) (hval _ (n_9.2 ⟨_,hm,rfl⟩))) si_ (fun c hc=>by
   obtain ⟨i,_,rfl⟩:=n_9.1 hc;have hlt:i%s < (cvOf z).cells.length:=by rw [hzl]; exact n_53 _ hs0
   rw [n_37,n_35 hlt];exact g2 _ (n_115 hlt)) (fun i c hi=>by
   rw [n_14,n_26] at hi;obtain ⟨i',hi',rfl⟩:=hi;have hlt':=(n_1.1 hi').1;simp at hlt';rw [List.getElem?_range hlt'] at hi';injection hi' with hi'
   subst hi';have hlt:i%s < (cvOf z).cells.length:=by rw [hzl]; exact n_53 _ hs0
   have hlt2:i%s < z.cells.size:=by rw [g1]; exact hlt
   have:=g3 (i%s) _ (n_35 hlt);have e1:(cvOf z).cells.getD (i%s) default=(cvOf z).cells[i%s]:=by
    rw [n_37,n_35 hlt]; rfl
   rw [e1];have e2:((Array.range (len*s)).map (z.cells[·%z.cells.size]!)).getD i undef=z.cells.getD (i%s) undef:=by
    have hzs:z.cells.size=s:=by rw [g1,hzl]
    have hms:i%s < s:=n_53 _ hs0;simp [hlt',hzs,hms]
   rw [e2];exact this)
 cases hr2 with
 | agg q1 q2 q3 =>
  obtain ⟨hx,hrel⟩:=hr.allocFull (.cells r e);have hrun:(execOp ρ o).run C.P w = .ok (.value (.slice (some ⟨w.heap.size,0,none⟩) len len)) (w.alloc (.cells r e)):=by
   have hl:(parts.map fun x=>(x.1,ρ x.2)).toList=parts.toList.map fun x=>(x.1,ρ x.2):=by simp
   simp only [execOp,ho,Instr.buildSlice,Sem.run_bind,hu,Result.andThen_ok,hs];rw [if_neg om_];simp only [hl];by_cases h00:len*s=0
   ·have er:Array.range 0 = #[]:=rfl;rw [h00,er] at hr1;simp only [List.map_toArray,List.map_nil] at hr1;simp [h00,er,hr1,newRow]
   ·simp [h00,hz,hr1,newRow]
  rw [hrun];have hcap:rows.length<=maxLen:=by
   have:len<=len*s:=Nat.le_mul_of_pos_right _ hs0;unfold maxLen;omega
  refine ⟨.list rows true none,σ,_,hx,hrel,?_,rfl,rfl⟩;rw [<- hrl];have hflen:=flat_len rows hrs;refine .list (b:=w.heap.size) (off:=0) (s:=s) (fun i j=>r.getD (i*s+j) undef) (n_5 _) hcap rfl (fun h=>by cases h) q_291 hrs (fun r0 hr0 c hc=>q2 c (List.mem_flatten.2 ⟨r0,hr0,hc⟩)) (fun i j r0 c hi hj=>?_) (fun i j r0 c hi hj=>?_) (fun k hk=>by cases hk)
  ·have hf:=flat_get rows hrs i j r0 c hi hj;have hlt:=(n_1.1 hf).1;have hlt':i*s+j < r.size:=by omega
   refine ⟨.inl (.inr rfl),?_⟩;rw [n_10,World.cell?_alloc_new];simp [hlt']
  ·exact (q3 _ _ (flat_get rows hrs i j r0 c hi hj)).mono hx
def bound (C:Ctx) (E:Env) (x:Option Operand) (d:Nat) (n:Nat):Prop :=
 match x with
 | none=>d=n
 | some x=>E.valid x/\∃ k i,E.val C x = .val (.int k i)/\0<=i/\i.toNat=n
theorem y_slice {lo hi:Option Operand} {tok:Option Nat} {l h:Nat} (ho:o.op = .slice t x lo hi none) (hx:E.valid x) (ex:E.val C x = .list rows nn tok)
 (hu:∀ w,(underlying t).run C.P w = .ok (.slice e) w) (hs:∀ w,(sizeOf e).run C.P w = .ok s w) (hrs:∀ r∈rows,r.length=s) (hlo:bound C E lo 0 l) (hhi:bound C E hi rows.length h) (h1:l<=h) (h2:h<=rows.length):Yields C σ E o (.list ((rows.take h).drop l) nn none) :=
 yields_same fun M w ρ hr hh=>by
  have hx':=hh x q_265 hx;rw [ex] at hx';obtain ⟨a,cap,b,off,s',vals,hv,hcap,hmax,hnn,hn0,ha,hrl,hone,hc,hrv,_⟩:=hx'.list_inv;have hlo':∀ v,lo=some v->∃ k i,ρ v = .int k i/\0<=i/\i.toNat=l:=fun v hv=>by
   subst hv;obtain ⟨hval,k,i,he,h0,hi⟩:=hlo;have:=hh v q_265 hval;rw [he] at this;exact ⟨k,i,rv_val this,h0,hi⟩
  have hhi':∀ v,hi=some v->∃ k i,ρ v = .int k i/\0<=i/\i.toNat=h:=fun v hv=>by
   subst hv;obtain ⟨hval,k,i,he,h0,hi⟩:=hhi;have:=hh v q_265 hval;rw [he] at this;exact ⟨k,i,rv_val this,h0,hi⟩
  have hb:(Instr.sliceBounds true rows.length cap (lo.map ρ) (hi.map ρ) none).run C.P w = .ok (l,h,cap) w:=by
   have hl2:(l:Int)<=h:=by omega
   have hh2:(h:Int)<=cap:=by omega
   cases lo with
   | none =>
    have:l=0:=by simpa [bound] using hlo.symm
    subst this;cases hi with
    | none =>
     have:h=rows.length:=by simpa [bound] using hhi.symm
     subst this;simp [Instr.sliceBounds]
    | some v =>
     obtain ⟨k,i,he,h0,hi⟩:=hhi' v rfl;have:i<=(cap:Int):=by omega
     simp [Instr.sliceBounds,Instr.sliceBound,he,asIntOf,h0,this,hi]
   | some u =>
    obtain ⟨k',i',he',h0',hi'⟩:=hlo' u rfl;have hle:i'<=(h:Int):=by omega
    cases hi with
    | none =>
     have:h=rows.length:=by simpa [bound] using hhi.symm
     subst this;simp [Instr.sliceBounds,Instr.sliceBound,he',asIntOf,h0',hle,hi']
    | some v =>
     obtain ⟨k,i,he,h0,hi⟩:=hhi' v rfl;have hc':i<=(cap:Int):=by omega
     simp [Instr.sliceBounds,Instr.sliceBound,he,he',asIntOf,h0,h0',hc',hi,hle,hi']
  have hrun:(execOp ρ o).run C.P w = .ok (.value (.slice (if cap=l then a else a.map (·.add (l*s))) (h - l) (cap - l))) w:=by
   simp [execOp,ho,Instr.sliceAt,Instr.slice,hu,hv,hb,hs]
  have hlen:((rows.take h).drop l).length=h - l:=by simp; omega
  refine ⟨_,hrun,?_⟩;rw [<- hlen];have hget:∀ i r,((rows.take h).drop l)[i]? = some r->rows[l+i]? = some r:=fun i r hi=>by
   rw [n_49,n_31] at hi;split at hi
   ·exact hi
   ·cases hi
  refine .list (b:=b) (off:=off+l*s) (s:=s) (fun i j=>vals (l+i) j) (by rw [hlen]; omega) om_ ?_ (fun h0=>by have:=hn0 h0; omega) (fun hne=>?_) (fun r hr=>hrs r (n_60 (n_52 hr))) (fun r hr c hc=>hone r (n_60 (n_52 hr)) c hc) (fun i j r c hi hj=>?_) (fun i j r c hi hj=>hrv _ _ _ _ (hget i r hi) hj) (fun k hk=>by cases hk)
  ·split
   ·exact hnn
   ·rw [Option.isSome_map]; exact hnn
  ·have hne':rows≠[]:=by rintro rfl; simp at hne
   have hlt:l < h:=by
    rcases n_23 l h with h' | h'
    ·exact h'
    ·exact absurd (n_87 (by rw [hlen]; omega)) hne
   rw [if_neg om_,ha hne'];simp [add_none]
  ·have hi':=hget i r hi;have hss:s'=s:=by
    have hm:=n_0 hi';rw [<- hrl r hm,hrs r hm]
   subst hss;have:=hc _ _ _ _ hi' hj;rw [show off+l*s'+i*s'+j=off+(l+i)*s'+j from by rw [n_20]; omega];exact this
end
def Src (C:Ctx) (M:Plan) (w:World) (rows:List (List CV)) (s:Nat) (v:Value):Prop :=
 ∃ a c,v = .slice a rows.length c/\rows.length<=c/\(∀ r∈rows,r.length=s) /\
  ∃ arr:Array Value,(Builtin.firstCells s rows.length v).run C.P w = .ok arr w/\arr.size=rows.length*s /\
   ∀ (i j:Nat) (r:List CV) (c:CV),rows[i]? = some r->r[j]? = some c->RV M w c (arr.getD (i*s+j) undef)/\c.one=true
theorem divmod (hj:j < s):(i*s+j) / s=i/\(i*s+j)%s=j:=by
 have hs:0 < s:=by omega
 refine ⟨?_,?_⟩
 ·rw [n_102,Nat.add_mul_div_right _ _ hs,Nat.div_eq_of_lt hj,n_10]
 ·rw [n_102,Nat.add_mul_mod_self_right,n_104 hj]
theorem Src.one (hrs:∀ r∈rows,r.length=s) (hsz:arr.size=rows.length*s)
 (h:∀ (i j:Nat) (r:List CV) (c:CV),rows[i]? = some r->r[j]? = some c->RV M w c (arr.getD (i*s+j) undef)/\c.one=true):∀ u∈arr.toList,u.oneCell'=true:=by
 intro u hu;obtain ⟨q,hq,rfl⟩:=List.mem_iff_getElem.1 hu;have hq':q < rows.length*s:=by simpa [hsz] using hq
 have hs:0 < s:=by
  rcases n_92 s with h0 | h0
  ·subst h0; simp at hq'
  ·exact h0
 have hi:q / s < rows.length:=Nat.div_lt_of_lt_mul (by rwa [n_105] at hq');have hj:q%s < s:=n_53 _ hs;have hr:rows[q / s]? = some rows[q / s]:=by simp [hi]
 have hjl:q%s < (rows[q / s]).length:=by rw [hrs _ (n_115 hi)]; exact hj
 obtain ⟨h1,h2⟩:=h (q / s) (q%s) _ _ hr (n_35 hjl);have hqq:q / s*s+q%s=q:=by rw [n_105]; exact Nat.div_add_mod q s
 rw [hqq] at h1;have:=h1.one h2;have hqs:q < arr.size:=by omega
 simpa [hqs] using this
section
theorem run_loadRows (f:Nat->Nat->Value) (h:∀ i j,i < n->j < s->w.cell? ⟨b,off+i*s+j,none⟩=some (f i j)) :
 (loadCells ⟨b,off,none⟩ (n*s)).run C.P w = .ok ((List.range (n*s)).map fun q=>f (q / s) (q%s)).toArray w :=
 run_loadCells' (fun q=>f (q / s) (q%s)) (n*s) fun q hq=>by
  have hs:0 < s:=by
   rcases n_92 s with h0 | h0
   ·subst h0; simp at hq
   ·exact h0
  have:=h (q / s) (q%s) (Nat.div_lt_of_lt_mul (by rwa [n_105] at hq)) (n_53 _ hs);rwa [n_66,show q / s*s+q%s=q from by rw [n_105]; exact Nat.div_add_mod q s] at this
theorem src_of_list {tok:Option Nat} (h:RV M w (.list rows nn tok) v) (hrs:∀ r∈rows,r.length=s):Src C M w rows s v:=by
 obtain ⟨a,cap,b,off,s',vals,rfl,hcap,hmax,hnn,hn0,ha,hrl,hone,hc,hrv,_⟩:=h.list_inv;refine ⟨a,cap,rfl,hcap,hrs,?_⟩
 rcases rows with _ | ⟨r0,rows⟩
 ·refine ⟨#[],?_,si_,si_⟩;cases a with
  | none=>simp [Builtin.firstCells]
  | some a=>simp [Builtin.firstCells,loadCells,loadCellsFrom]
 ·have hss:s'=s:=by rw [<- hrl r0 si_,hrs r0 si_]
  subst hss;rw [ha si_];generalize hrows:r0::rows=rs at *;have hcell:∀ i j,i < rs.length->j < s'->w.cell? ⟨b,off+i*s'+j,none⟩=some (vals i j):=fun i j hi hj=>by
   have hr:rs[i]? = some rs[i]:=by simp [hi]
   have hl:j < rs[i].length:=by rw [hrs _ (n_115 hi)]; exact hj
   exact (hc i j _ _ hr (n_35 hl)).2
  refine ⟨_,by simp only [Builtin.firstCells]; exact run_loadRows vals hcell,si_,fun i j r c hi hj=>⟨?_,hone r (n_0 hi) c (n_0 hj)⟩⟩;have hil:=(n_1.1 hi).1;have hjl:j < s':=by have:=(n_1.1 hj).1; rwa [hrs r (n_0 hi)] at this
  have hq:i*s'+j < rs.length*s':=by
   have:(i+1)*s'<=rs.length*s':=n_19 _ hil;rw [n_20] at this; omega
  obtain ⟨e1,e2⟩:=divmod (i:=i) hjl;have:((List.range (rs.length*s')).map fun q=>vals (q / s') (q%s')).toArray.getD (i*s'+j) undef=vals i j:=by simp [hq,e1,e2]
  rw [this];exact hrv i j r c hi hj
theorem src_of_vec {len:Nat} (hr:Rel C M σ w) (h:RV M w (.vec k off len) v) (hk:σ[k]? = some (.vec s rows)) (hl:off+len<=rows.length):Src C M w ((rows.drop off).take len) s v:=by
 cases h with
 | vec hp h1 h2 h3 =>
  rename_i p a;obtain ⟨⟨rfl,q1,q2,q3,q4,arr,ty,q5,q6,q7⟩,_⟩:=hr.obj k p _ hp hk;have hlen:((rows.drop off).take len).length=len:=by simp; omega
  refine ⟨some a,p.cap - off,by rw [hlen],by rw [hlen]; omega,fun r hr=>q3 r (n_52 (n_60 hr)),?_⟩;rw [hlen];have hget:∀ i r,((rows.drop off).take len)[i]? = some r->i < len/\rows[off+i]? = some r:=fun i r hi=>by
   rw [n_31] at hi;split at hi
   ·rw [n_49] at hi; exact ⟨‹_›,hi⟩
   ·cases hi
  rcases n_92 len with h0 | h0
  ·subst h0;exact ⟨#[],by simp [Builtin.firstCells,loadCells,loadCellsFrom],si_,fun i j r c hi _=>by have:=(hget i r hi).1; omega⟩
  ·rw [h3 om_];have hcell:∀ i j,i < len->j < p.size->w.cell? ⟨p.block,off*p.size+i*p.size+j,none⟩=some (arr.getD ((off+i)*p.size+j) undef):=fun i j hi hj=>by
    have hq:(off+i)*p.size+j < arr.size:=by
     rw [q6];have:(off+i+1)*p.size<=p.cap*p.size:=n_19 _ om_;rw [n_20 (off+i)] at this; omega
    rw [show off*p.size+i*p.size+j=(off+i)*p.size+j from by rw [n_20 off]];simp [World.cell?,q5,hq]
   refine ⟨_,by simp only [Builtin.firstCells]; exact run_loadRows _ hcell,si_,fun i j r c hi hj=>?_⟩;obtain ⟨hil,hi'⟩:=hget i r hi;have hmem:=n_0 hi';refine ⟨?_,q4 r hmem c (n_0 hj)⟩;have hjl:j < p.size:=by have:=(n_1.1 hj).1; rwa [q3 r hmem] at this
   have hq:i*p.size+j < len*p.size:=by
    have:(i+1)*p.size<=len*p.size:=n_19 _ hil;rw [n_20] at this; omega
   obtain ⟨e1,e2⟩:=divmod (i:=i) hjl;have:((List.range (len*p.size)).map fun q=>arr.getD ((off+q / p.size)*p.size+q%p.size) undef).toArray.getD (i*p.size+j) undef=arr.getD ((off+i)*p.size+j) undef:=by simp [hq,e1,e2]
   rw [this];exact q7 _ _ _ _ hi' hj
def spliceR (rows:List (List CV)) (p:Nat) (new:List (List CV)):List (List CV):=rows.take p++(new++rows.drop (p+new.length))
theorem spliceR_get {p:Nat} (hp:p<=rows.length) (i:Nat) :
 (spliceR rows p new)[i]? = if p<=i/\i < p+new.length then new[i - p]? else rows[i]?:=by
 unfold spliceR;rw [n_45];simp only [n_46,Nat.min_eq_left hp]
 split
 ·rename_i h1;rw [if_neg om_,n_31,if_pos h1]
 ·rename_i h1;rw [n_45]
  split
  ·rename_i h2;rw [if_pos om_]
  ·rename_i h2;rw [if_neg om_,n_49]
   congr 1; omega
theorem spliceR_mem {p:Nat} (h:r∈spliceR rows p new):r∈new\/r∈rows:=by
 simp only [spliceR,n_18] at h
 rcases h with h | h | h
 ·exact .inr (n_60 h)
 ·exact .inl h
 ·exact .inr (n_52 h)
theorem spliceR_length {p:Nat} (hp:p<=rows.length):(spliceR rows p new).length=max rows.length (p+new.length):=by
 simp [spliceR]; omega
theorem vec_splice (hr:Rel C M σ w) {p:Nat} {q:Pl} (hq:M.pl[k]? = some q) (hk:σ[k]? = some (.vec s rows)) (hp:p<=rows.length) (hpc:p+new.length<=q.cap) (hns:∀ r∈new,r.length=s) (hsz:arr.size=new.length*s)
 (hrv:∀ (i j:Nat) (r:List CV) (c:CV),new[i]? = some r->r[j]? = some c->RV M w c (arr.getD (i*s+j) undef)/\c.one=true) :
 ∃ w',(storeCells ⟨q.block,p*s,none⟩ arr.toList).run C.P w = .ok () w'/\Ext M w M w'/\Rel C M (σ.set k (.vec s (spliceR rows p new))) w':=by
 obtain ⟨⟨rfl,q1,q2,q3,q4,cur,ty,q5,q6,q7⟩,hf,hc⟩:=hr.obj k q _ hq hk;have hend:p*q.size+arr.toList.length<=cur.size:=by
  rw [n_61,hsz,q6,<- n_20];exact n_19 _ hpc
 have hrun:=run_storeCells' (P:=C.P) (b:=q.block) (off:=p*q.size) (t:=ty) arr.toList 0 cur w q5 om_ (Src.one hns hsz hrv);rw [n_38] at hrun;have hx:=Ext.putObj (w:=w) (.cells (spliceA cur (p*q.size) arr.toList) ty (0,0)) (hr.nk k q _ hq hk rfl) hf hc;have hb:q.block < w.heap.size:=(n_16.1 q5).1;refine ⟨_,hrun,hx,hr.putObj (ob:=.vec q.size (spliceR rows p new)) hq hk rfl hf hc _ ⟨rfl,by rw [spliceR_length hp]; omega,q2,fun r hr=>?_,fun r hr c hc=>?_,_,ty,World.putObj_same w _ hb,by rw [spliceA_size,q6],fun i j r c hi hj=>?_⟩⟩
 ·rcases spliceR_mem hr with h | h
  ·exact hns r h
  ·exact q3 r h
 ·rcases spliceR_mem hr with h | h
  ·obtain ⟨i,hi⟩:=n_11.1 h;obtain ⟨j,hj⟩:=n_11.1 hc;exact (hrv i j r c hi hj).2
  ·exact q4 r h c hc
 ·rw [spliceA_getD _ _ _ _ hend];rw [spliceR_get hp] at hi;have hrl:r.length=q.size:=by
   split at hi
   ·exact hns r (n_0 hi)
   ·exact q3 r (n_0 hi)
  have hjl:j < q.size:=by have:=(n_1.1 hj).1; omega
  simp only [n_61,hsz];split at hi
  ·rename_i hin;have hi2:i - p < new.length:=by omega
   have e1:p*q.size<=i*q.size:=n_19 _ hin.1;have e2:(i - p)*q.size=i*q.size - p*q.size:=Nat.sub_mul _ _ _;have e3:(i - p+1)*q.size<=new.length*q.size:=n_19 _ hi2;rw [n_20] at e3;rw [if_pos om_];have:=(hrv (i - p) j r c hi hj).1.mono hx;rw [show i*q.size+j - p*q.size=(i - p)*q.size+j from by omega];simpa using this
  ·rename_i hin;rw [if_neg ?_]
   ·exact (q7 _ _ _ _ hi hj).mono hx
   ·rintro ⟨h1,h2⟩;apply hin;refine ⟨?_,?_⟩
    ·rcases n_23 i p with h | h
     ·have:(i+1)*q.size<=p*q.size:=n_19 _ h;rw [n_20] at this; omega
     ·exact h
    ·rcases n_23 i (p+new.length) with h | h
     ·exact h
     ·have:(p+new.length)*q.size<=i*q.size:=n_19 _ h;rw [n_20] at this; omega
theorem y_index_v {ix:Operand} {len:Nat} {i:Int} (ho:o.op = .indexAddr t x ix) (hx:E.valid x) (hi:E.valid ix) (ex:E.val C x = .vec k off len) (ei:E.val C ix = .val (.int .i64 i))
 (hu:∀ w,(underlying t).run C.P w = .ok (.slice e) w) (hs:∀ w,(sizeOf e).run C.P w = .ok s w) (hk:σ[k]? = some (.vec s rows)) (h0:0<=i) (hl:i.toNat < len):Yields C σ E o (.eptr k (off+i.toNat) 0) :=
 yields_same fun M w ρ hr h=>by
  have h1:=h x q_265 hx;have h2:=h ix q_265 hi;rw [ex] at h1;rw [ei] at h2;generalize hv:ρ x=v at h1;cases h1 with
  | vec hp g1 g2 g3 =>
   rename_i p a;obtain ⟨⟨rfl,_⟩,_⟩:=hr.obj k p _ hp hk;have hlt:i < (len:Int):=by omega
   refine ⟨.pointer (some ⟨p.block,(off+i.toNat)*p.size+0,none⟩),?_,.eptr hp⟩;simp [execOp,ho,hv,rv_val h2,Instr.indexAt,asIntOf,hu,hs,g3 om_,h0,hlt,add_none,n_20]
theorem vec_cell (hr:Rel C M σ w) (hp:M.pl[k]? = some p) (hk:σ[k]? = some (.vec s rows)) (hi:rows[i]? = some r) (hc:r[off]? = some c) :
 ∃ v,w.cell? ⟨p.block,i*p.size+off,none⟩=some v/\RV M w c v:=by
 obtain ⟨⟨rfl,q1,q2,q3,q4,arr,ty,q5,q6,q7⟩,_⟩:=hr.obj k p _ hp hk;have hil:=(n_1.1 hi).1;have hjl:off < p.size:=by have:=(n_1.1 hc).1; rwa [q3 r (n_0 hi)] at this
 have hq:i*p.size+off < arr.size:=by
  rw [q6];have:(i+1)*p.size<=p.cap*p.size:=n_19 _ om_;rw [n_20] at this; omega
 exact ⟨_,by simp [World.cell?,q5,hq]; rfl,by simpa [hq] using q7 i off r c hi hc⟩
theorem y_load_e1 (ho:o.op = .load t x) (hx:E.valid x) (ex:E.val C x = .eptr k i off) (ha:∀ w,(isAgg t).run C.P w = .ok false w) (hk:σ[k]? = some (.vec s rows)) (hi:rows[i]? = some r) (hc:r[off]? = some c):Yields C σ E o c :=
 yields_same fun M w ρ hr h=>by
  have h1:=h x q_265 hx;rw [ex] at h1;generalize hu':ρ x=u at h1;cases h1 with
  | eptr hp =>
   obtain ⟨v,hv,hrv⟩:=vec_cell hr hp hk hi hc;exact ⟨v,by simp [execOp,ho,hu',Instr.loadAt,Instr.sureAddr,loadVar,ha,hv],hrv⟩
theorem y_load_e (ho:o.op = .load t x) (hx:E.valid x) (ex:E.val C x = .eptr k i off) (ha:∀ w,(isAgg t).run C.P w = .ok true w) (hs:∀ w,(sizeOf t).run C.P w = .ok n w) (hk:σ[k]? = some (.vec s rows)) (hi:rows[i]? = some r) (hl:off+n<=r.length):Yields C σ E o (.agg ((r.drop off).take n)) :=
 yields_same fun M w ρ hr h=>by
  have h1:=h x q_265 hx;rw [ex] at h1;generalize hu':ρ x=u at h1;cases h1 with
  | eptr hp =>
   rename_i p;have hone:=(hr.obj k p _ hp hk).1.2.2.2.2.1;have hall:∀ j,j < n->∃ v,w.cell? ⟨p.block,i*p.size+off+j,none⟩=some v/\∀ c,r[off+j]? = some c->RV M w c v:=fun j hj=>by
    obtain ⟨v,hv,hrv⟩:=vec_cell hr hp hk hi (n_35 (show off+j < r.length by omega));exact ⟨v,by rw [n_66]; exact hv,fun c hc=>by rw [n_35 (show off+j < r.length by omega)] at hc; injection hc with hc; exact hc ▸ hrv⟩
   let f:Nat->Value:=fun j=>if hj:j < n then (hall j hj).choose else undef
   have hf:∀ j,j < n->w.cell? ⟨p.block,i*p.size+off+j,none⟩=some (f j)/\∀ c,r[off+j]? = some c->RV M w c (f j):=fun j hj=>by
    simp only [f,dif_pos hj];exact (hall j hj).choose_spec
   refine ⟨.agg ((List.range n).map f).toArray,?_,.agg q_287 (fun c hc=>hone r (n_0 hi) c (n_52 (n_60 hc))) (fun j c hj=>?_)⟩
   ·simp [execOp,ho,hu',Instr.loadAt,Instr.sureAddr,loadVar,ha,hs,run_loadCells' (P:=C.P) (w:=w) f n (fun j hj=>(hf j hj).1)]
   ·have hj':j < n:=by
     have:=(n_1.1 hj).1;simp at this; omega
    rw [n_31,if_pos hj',n_49] at hj;have:=(hf j hj').2 c hj;simpa [hj'] using this
theorem d_store_e (ho:o.op = .store t x y) (hx:E.valid x) (hy:E.valid y) (ex:E.val C x = .eptr k i off) (ey:E.val C y=c) (hs:∀ w,(sizeOf t).run C.P w = .ok n w)
 (hc:c.one=true\/∃ cs,c = .agg cs) (hk:σ[k]? = some (.vec s rows)) (hi:rows[i]? = some r) (hl:c.cells.length=n) (hlt:off+n<=r.length) (h:K (.ret (.val undef)) (σ.set k (.vec s (rows.set i (spliceL r off c.cells))))):Does C σ E o K:=fun M w ρ hr hh=>by
 have h1:=hh x q_265 hx;have h2:=hh y q_265 hy;rw [ex] at h1;rw [ey] at h2;generalize hu:ρ x=u at h1;cases h1 with
 | eptr hp =>
  rename_i p;obtain ⟨⟨rfl,q1,q2,q3,q4,arr,ty,q5,q6,q7⟩,hf,hcl⟩:=hr.obj k p _ hp hk;obtain ⟨g1,g2,g3⟩:=h2.cells hc;have hone:=cells_toList_one h2 hc;have hil:=(n_1.1 hi).1;have hrm:=n_0 hi;have hrl:r.length=p.size:=q3 r hrm;have hsz:off+c.cells.length<=r.length:=by omega
  have hend:i*p.size+off+(ρ y).cells.toList.length<=arr.size:=by
   rw [n_61,g1,q6];have:(i+1)*p.size<=p.cap*p.size:=n_19 _ om_;rw [n_20] at this; omega
  have hrun:(execOp ρ o).run C.P w = .ok .skip (World.putObj w p.block (.cells (spliceA arr (i*p.size+off) (ρ y).cells.toList) ty (0,0))):=by
   have:=run_storeCells' (P:=C.P) (b:=p.block) (off:=i*p.size+off) (t:=ty) (ρ y).cells.toList 0 arr w q5 om_ hone;simp only [n_38] at this;simp [execOp,ho,hu,Instr.storeAt,Instr.sureAddr,storeVar,hs,g1,hl,this]
  rw [hrun];have hx:=Ext.putObj (w:=w) (.cells (spliceA arr (i*p.size+off) (ρ y).cells.toList) ty (0,0)) (hr.nk k p _ hp hk rfl) hf hcl;have hb:p.block < w.heap.size:=(n_16.1 q5).1;have hmem:∀ r',r'∈rows.set i (spliceL r off c.cells)->r'=spliceL r off c.cells\/r'∈rows:=fun r' hr'=>by
   rcases List.mem_or_eq_of_mem_set hr' with h | h
   ·exact .inr h
   ·exact .inl h
  refine ⟨.val undef,_,M,hx,hr.putObj (ob:=.vec p.size (rows.set i (spliceL r off c.cells))) hp hk rfl hf hcl _ ⟨rfl,by simpa using q1,q2,fun r' hr'=>?_,fun r' hr' c' hc'=>?_,_,ty,World.putObj_same w _ hb,by rw [spliceA_size,q6],fun i' j r' c' hi' hj=>?_⟩,.val _,h⟩
  ·rcases hmem r' hr' with rfl | h
   ·rw [spliceL_length hsz,hrl]
   ·exact q3 r' h
  ·rcases hmem r' hr' with rfl | h
   ·rcases spliceL_mem hc' with h' | h'
    ·exact g2 _ h'
    ·exact q4 r hrm _ h'
   ·exact q4 r' h _ hc'
  ·rw [spliceA_getD _ _ _ _ hend];simp only [n_61,g1];rw [n_67] at hi';split at hi'
   ·rename_i hii;subst hii;injection hi' with hi'
    subst hi';rw [spliceL_get hsz] at hj;split at hj
    ·rename_i hin;rw [if_pos om_];have:=(g3 _ _ hj).mono hx;rw [show i*p.size+j - (i*p.size+off)=j - off from by omega];simpa using this
    ·rename_i hin;rw [if_neg om_];exact (q7 _ _ _ _ hi hj).mono hx
   ·rename_i hii;have hjl:j < p.size:=by have:=(n_1.1 hj).1; rwa [q3 r' (n_0 hi')] at this
    rw [if_neg ?_]
    ·exact (q7 _ _ _ _ hi' hj).mono hx
    ·rintro ⟨h1,h2⟩
     rcases n_23 i' i with h | h
     ·have:(i'+1)*p.size<=i*p.size:=n_19 _ h;rw [n_20] at this; omega
     ·have:(i+1)*p.size<=i'*p.size:=n_19 _ om_;rw [n_20] at this; omega
theorem y_slice_v {lo hi:Option Operand} {len:Nat} {l h:Nat} (ho:o.op = .slice t x lo hi none) (hx:E.valid x) (ex:E.val C x = .vec k off len)
 (hu:∀ w,(underlying t).run C.P w = .ok (.slice e) w) (hs:∀ w,(sizeOf e).run C.P w = .ok s w) (hk:σ[k]? = some (.vec s rows)) (hlo:bound C E lo 0 l) (hhi:bound C E hi len h) (h1:l<=h) (h2:off+h<=rows.length):Yields C σ E o (.vec k (off+l) (h - l)) :=
 yields_same fun M w ρ hr hh=>by
  have hx':=hh x q_265 hx;rw [ex] at hx';generalize hv:ρ x=v at hx';cases hx' with
  | vec hp g1 g2 g3 =>
   rename_i p a;obtain ⟨⟨rfl,q1,q2,_⟩,_⟩:=hr.obj k p _ hp hk;have hlo':∀ v,lo=some v->∃ k i,ρ v = .int k i/\0<=i/\i.toNat=l:=fun v hv=>by
    subst hv;obtain ⟨hval,k,i,he,h0,hi⟩:=hlo;have:=hh v q_265 hval;rw [he] at this;exact ⟨k,i,rv_val this,h0,hi⟩
   have hhi':∀ v,hi=some v->∃ k i,ρ v = .int k i/\0<=i/\i.toNat=h:=fun v hv=>by
    subst hv;obtain ⟨hval,k,i,he,h0,hi⟩:=hhi;have:=hh v q_265 hval;rw [he] at this;exact ⟨k,i,rv_val this,h0,hi⟩
   have hcap:h<=p.cap - off:=by omega
   have hb:(Instr.sliceBounds true len (p.cap - off) (lo.map ρ) (hi.map ρ) none).run C.P w = .ok (l,h,p.cap - off) w:=by
    have hl2:(l:Int)<=h:=by omega
    have hh2:(h:Int)<=((p.cap - off:Nat):Int):=by omega
    cases lo with
    | none =>
     have:l=0:=by simpa [bound] using hlo.symm
     subst this;cases hi with
     | none =>
      have:h=len:=by simpa [bound] using hhi.symm
      subst this;simp [Instr.sliceBounds]
     | some v =>
      obtain ⟨k,i,he,h0,hi⟩:=hhi' v rfl;have:i<=((p.cap - off:Nat):Int):=by omega
      simp [Instr.sliceBounds,Instr.sliceBound,he,asIntOf,h0,this,hi]
    | some u =>
     obtain ⟨k',i',he',h0',hi'⟩:=hlo' u rfl;have hle:i'<=(h:Int):=by omega
     cases hi with
     | none =>
      have:h=len:=by simpa [bound] using hhi.symm
      subst this;simp [Instr.sliceBounds,Instr.sliceBound,he',asIntOf,h0',hle,hi']
     | some v =>
      obtain ⟨k,i,he,h0,hi⟩:=hhi' v rfl;have hc':i<=((p.cap - off:Nat):Int):=by omega
      simp [Instr.sliceBounds,Instr.sliceBound,he,he',asIntOf,h0,h0',hc',hi,hle,hi']
   have hrun:(execOp ρ o).run C.P w = .ok (.value (.slice (if p.cap - off=l then some a else some (a.add (l*p.size))) (h - l) (p.cap - off - l))) w:=by
    simp [execOp,ho,Instr.sliceAt,Instr.slice,hu,hv,hb,hs]
   refine ⟨_,hrun,?_⟩;by_cases he:p.cap - off=l
   ·rw [if_pos he,show p.cap - off - l=p.cap - (off+l) from by omega];exact .vec hp om_ g2 (fun hlt=>by omega)
   ·rw [if_neg he,show p.cap - off - l=p.cap - (off+l) from by omega];exact .vec hp om_ g2 (fun hlt=>by rw [g3 om_,add_none,n_20])
end
def kill (σ:List CObj) (tok:Option Nat):List CObj :=
 match tok with
 | some k=>σ.set k .dead
 | none=>σ
def CanApp (σ:List CObj) (rows:List (List CV)) (nn:Bool) (tok:Option Nat):Prop :=
 (rows=[]/\nn=false/\tok=none)\/(rows≠[]/\∃ k,tok=some k/\σ[k]? = some (.tip rows.length))
def CanAppT (t0:Option TypeId) (σ:List CObj) (rows:List (List CV)) (nn:Bool) (tok:Option Nat):Prop :=
 (rows=[]/\nn=false/\tok=none)\/(rows≠[]/\∃ k,tok=some k/\σ[k]? = some (.tipT t0 rows.length))
def Plan.settleCells (M:Plan) (b n:Nat):Plan:={ M with cell:=fun x o=>M.cell x o\/(x=b/\o < n)}
section
theorem Rel.dead (hr:Rel C M σ w) (k:Nat):Rel C M (σ.set k .dead) w:=by
 have hget:∀ {k':Nat} {x:CObj},(σ.set k .dead)[k']? = some x->x = .dead\/σ[k']? = some x:=by
  intro k' x h;rw [n_67] at h;split at h
  ·split at h
   ·injection h with h; exact .inl h.symm
   ·cases h
  ·exact .inr h
 refine ⟨by simp [hr.len],hr.blk,fun k' p x hp hx=>?_,fun k1 k2 p1 p2 x1 x2 h1 h2 hx1 hx2 hl1 hl2 hb=>?_,hr.glob,hr.kep,fun k' p x hp hx' hlv=>?_⟩
 ·rcases hget hx with rfl | h
  ·exact ⟨tt,tt⟩
  ·exact hr.obj k' p x hp h
 ·rcases hget hx1 with rfl | h1'
  ·cases hl1
  ·rcases hget hx2 with rfl | h2'
   ·cases hl2
   ·exact hr.inj k1 k2 p1 p2 x1 x2 h1 h2 h1' h2' hl1 hl2 hb
 ·rcases hget hx' with rfl | h'
  ·cases hlv
  ·exact hr.nk k' p x hp h' hlv
theorem Rel.kill {M:Plan} {w:World} (hr:Rel C M σ w) (tok:Option Nat):Rel C M (kill σ tok) w:=by
 cases tok with
 | none=>exact hr
 | some k=>exact hr.dead k
theorem kill_length (σ:List CObj) (tok:Option Nat):(kill σ tok).length=σ.length:=by
 cases tok <;> simp [Go.Cl.kill]
theorem Rel.settleCells (hr:Rel C M σ w) (hp:M.pl[k]? = some p) (hk:σ[k]? = some (.tipT t0 n)):Ext M w (M.settleCells p.block (n*p.size)) w/\Rel C (M.settleCells p.block (n*p.size)) σ w:=by
 have hx:Ext M w (M.settleCells p.block (n*p.size)) w:=⟨⟨[],by simp [Plan.settleCells]⟩,fun _ h=>h,fun _ _ h=>.inr (.inl h),fun _ _=>rfl,fun _ _ _=>rfl,n_5 _,nb_drew,rfl,rfl,rfl,fun b h=>⟨h,rfl,id,fun o f=>(by
  rcases f with f | ⟨rfl,_⟩
  ·exact f
  ·exact absurd h (hr.nk k p _ hp hk rfl))⟩⟩
 have hlt:=(hr.obj k p _ hp hk).1.lt rfl;refine ⟨hx,hr.len,fun b o' ha=>?_,fun k' p' x hp' hx'=>?_,hr.inj,fun g cells hg=>(hr.glob g cells hg).mono hx,hr.kep,hr.nk⟩
 ·rcases ha with ha | ha | ⟨rfl,_⟩
  ·exact hr.blk b o' (.inl ha)
  ·exact hr.blk b o' (.inr ha)
  ·exact hlt
 ·obtain ⟨h1,h2⟩:=hr.obj k' p' x hp' hx';by_cases hl:x.live=true
  ·by_cases hkk:k'=k
   ·subst hkk;have hp':M.pl[k']? = some p':=hp';rw [hp] at hp';injection hp' with hp'
    subst hp';rw [hk] at hx';injection hx' with hx'
    subst hx';obtain ⟨q1,q2,q3,q4⟩:=h1;refine ⟨⟨q1,q2,⟨fun o ho=>?_,q3.2⟩,q4⟩,h2⟩
    rcases ho with ho | ⟨_,ho⟩
    ·exact q3.1 o ho
    ·exact ho
   ·have hne:p'.block≠p.block:=fun e=>hkk (hr.inj k' k p' p x _ hp' hp hx' hk hl rfl e);refine ⟨h1.mono hx rfl (fun _ _ _ o ho=>?_),?_⟩
    ·rcases ho with ho | ⟨ho,_⟩
     ·exact ho
     ·exact absurd ho hne
    ·have hc:(∀ o,¬ M.cell p'.block o)->∀ o,¬ (M.settleCells p.block (n*p.size)).cell p'.block o:=fun h o ho=>by
      rcases ho with ho | ⟨ho,_⟩
      ·exact h o ho
      ·exact hne ho
     cases x <;> first | trivial|exact h2|exact ⟨h2.1,hc h2.2⟩
  ·cases x <;> first|exact ⟨tt,tt⟩ | simp [CObj.live] at hl
theorem Rel.drewN (hr:Rel C M σ w):Rel C M σ w.drew/\Ext M w M w.drew:=hr.drew
theorem run_append_fits {c:Nat} {x:Value} (hu:∀ w,(underlying t).run P w = .ok (.slice e) w) (hu2:(∀ w,(underlying t2).run P w = .ok (.slice e) w)\/∀ w,(underlying t2).run P w = .ok .string w) (hs:∀ w,(sizeOf e).run P w = .ok s w)
 (hlen:∀ w,(Builtin.lenOf x).run P w = .ok m w) (hfirst:(Builtin.firstCells s m x).run P w = .ok arr w) (hneed:n+m<=c) (hst:(storeCells ⟨b,off+n*s,none⟩ arr.toList).run P w = .ok () w') :
 (Builtin.append_ #[t,t2] ty #[.slice (some ⟨b,off,none⟩) n c,x]).run P w = .ok (.slice (some ⟨b,off,none⟩) (n+m) c) w':=by
 rcases hu2 with hu2 | hu2 <;>
 simp [Builtin.append_,hu,hu2,hs,hlen,hfirst,hneed,add_none,hst]
theorem run_append_grows {c:Nat} {a:Option Addr} {x:Value} {old:Array Value} {ti:TypeInfo} (hu:∀ w,(underlying t).run P w = .ok (.slice e) w) (hu2:(∀ w,(underlying t2).run P w = .ok (.slice e) w)\/∀ w,(underlying t2).run P w = .ok .string w) (hs:∀ w,(sizeOf e).run P w = .ok s w) (hti:∀ w,(typeInfo e).run P w = .ok ti w) (hz:∀ w,(zeroValue e).run P w = .ok z w)
 (hlen:∀ w,(Builtin.lenOf x).run P w = .ok m w) (hold:(Builtin.firstCells s n (.slice a n c)).run P w.drew = .ok old w.drew) (hfirst:(Builtin.firstCells s m x).run P w.drew = .ok arr w.drew) (hneed:c < n+m) (hmax:n+m<=9223372036854775807) (hb:(n+m)*ti.bytes<=140737488355328) :
 ∃ c',n+m<=c'/\c'<=9223372036854775807/\(Builtin.append_ #[t,t2] ty #[.slice a n c,x]).run P w = .ok (.slice (some ⟨w.heap.size,0,none⟩) (n+m) c') (w.drew.alloc (.cells (old++arr++Builtin.zeroCells z.cells (c' - (n+m))) e)):=by
 have hg:=growslice_fits hneed hb;refine ⟨(Question.appendCap (n+m) c e).cut (w.tape w.drawn (.appendCap (n+m) c e)),?_,?_,?_⟩
 ·simp [Question.cut]
 ·simp only [Question.cut];have:w.tape w.drawn (.appendCap (n+m) c e)%(2^63 - (n+m)) < 2^63 - (n+m):=n_53 _ om_;omega
 ·have h1:¬ (n+m<=c):=by omega
  have h2:¬ IntKind.i64.max < (n:Int)+(m:Int):=by
   have:IntKind.i64.max=9223372036854775807:=by decide
   omega
  have h3:¬ (281474976710656 < Builtin.nextslicecap (n+m) c*ti.bytes):=by omega
  rcases hu2 with hu2 | hu2
  all_goals
   simp [Builtin.append_,hu,hu2,hs,hti,hz,hlen,h1,h3,Question.forced,hold,hfirst,newRow];intro h;have:IntKind.i64.max=9223372036854775807:=by decide
   omega
theorem rv_drew (h:RV M w c v):RV M w.drew c v:=by
 have hx:Ext M w M w.drew:=⟨⟨[],si_⟩,fun _ h=>h,fun _ _ h=>.inr h,fun _ _=>rfl,fun _ _ _=>rfl,n_5 _,nb_drew,rfl,rfl,rfl,fun _ h=>⟨h,rfl,id,fun _=>id⟩⟩;exact h.mono hx
theorem Rel.tipStore (hr:Rel C M σ w) {cur cur':Array Value} (hp:M.pl[k]? = some p) (hk:σ[k]? = some (.tipT t0 n)) (hty:t0.getD ty=ty) (hc:w.heap[p.block]? = some (.cells cur ty (0,0))) (hsz:cur'.size=cur.size) (hsame:∀ o,o < n*p.size->cur'[o]? = cur[o]?) :
 Ext M w M (World.putObj w p.block (.cells cur' ty (0,0)))/\Rel C M σ (World.putObj w p.block (.cells cur' ty (0,0))):=by
 obtain ⟨⟨q1,q2,q3,cur0,ty0,q4,q5⟩,hfree⟩:=hr.obj k _ _ hp hk;have hb:p.block < w.heap.size:=(n_16.1 hc).1;have hx:Ext M w M (World.putObj w p.block (.cells cur' ty (0,0))):=by
  refine ⟨⟨[],si_⟩,fun _ h=>h,fun _ _ h=>.inr h,fun b' h=>World.putObj_other w _ (fun e=>hfree (e ▸ h)),fun b' o' h=>?_,by rw [World.putObj_size]; exact n_5 _,nb_drew,rfl,rfl,rfl,fun b' h=>⟨h,World.putObj_other w _ (fun e=>hr.nk k p _ hp hk rfl (e ▸ h)),id,fun _=>id⟩⟩;by_cases he:p.block=b'
  ·subst he;have hlt:=q3.1 o' h;simp only [World.cell?,World.putObj_same w _ hb,hc,Option.isSome_none,n_74,if_false];exact hsame o' hlt
  ·exact cell?_of_same (World.putObj_other w _ he)
 refine ⟨hx,hr.len,fun b o' ha=>by rw [World.putObj_size]; exact hr.blk b o' ha,fun k' p' x hp' hx'=>?_,hr.inj,fun g cells hg=>(hr.glob g cells hg).mono hx,fun b h=>(by rw [World.putObj_size]; exact hr.kep b h),hr.nk⟩;obtain ⟨h1,h2⟩:=hr.obj k' p' x hp' hx';refine ⟨?_,h2⟩;by_cases hl:x.live=true
 ·by_cases hkk:k'=k
  ·subst hkk;rw [hp] at hp';injection hp' with hp'
   subst hp';rw [hk] at hx';injection hx' with hx'
   subst hx';rw [q4] at hc;injection hc with hc
   injection hc with hc _ _
   exact ⟨q1,q2,q3,cur',ty,by rw [hty]; exact World.putObj_same w _ hb,by rw [hsz,<- hc,q5]⟩
  ·have hne:p.block≠p'.block:=fun e=>hkk (hr.inj k' k p' p x _ hp' hp hx' hk hl rfl e.symm);exact h1.mono hx (World.putObj_other w _ hne) (fun _ _ _ _ h=>h)
 ·cases x <;> first | trivial | simp [CObj.live] at hl
theorem Rel.tipNew (hr:Rel C M σ w) (hp:M.pl[k]? = some p) (hk:σ[k]? = some (.tipT t0 n)) (hn:n<=m) (hm:m<=p.cap):Ext M w (M.add p) w/\Rel C (M.add p) (σ.set k .dead++[.tipT t0 m]) w:=by
 obtain ⟨⟨q1,q2,q3,cur0,ty0,q4,q5⟩,hfree⟩:=hr.obj k _ _ hp hk;have hx:Ext M w (M.add p) w:=⟨⟨[p],rfl⟩,fun _ h=>h,fun _ _ h=>.inr h,fun _ _=>rfl,fun _ _ _=>rfl,n_5 _,nb_drew,rfl,rfl,rfl,fun _ h=>⟨h,rfl,id,fun _=>id⟩⟩;have hd:=hr.dead k;have hlen:(σ.set k CObj.dead).length=σ.length:=by simp
 have hget:∀ {j:Nat} {q:Pl},(M.add p).pl[j]? = some q->(j < σ.length/\M.pl[j]? = some q)\/(j=σ.length/\q=p):=by
  intro j q hj;simp only [Plan.add,n_45,hr.len] at hj;split at hj
  ·exact .inl ⟨‹_›,hj⟩
  ·rename_i hlt;have:j - σ.length=0:=by
    have:=(n_1.1 hj).1;simp at this; omega
   rw [this] at hj;simp at hj;exact .inr ⟨om_,hj.symm⟩
 have hgo:∀ {j:Nat} {x:CObj},(σ.set k CObj.dead++[CObj.tipT t0 m])[j]? = some x->(j < σ.length/\(σ.set k CObj.dead)[j]? = some x)\/(j=σ.length/\x = .tipT t0 m):=by
  intro j x hj;rw [n_45] at hj;split at hj
  ·exact .inl ⟨om_,hj⟩
  ·have:j - (σ.set k CObj.dead).length=0:=by
    have:=(n_1.1 hj).1;simp at this ⊢; omega
   rw [this] at hj;simp at hj;exact .inr ⟨om_,hj.symm⟩
 have hks:k < σ.length:=(n_1.1 hk).1;have hother:∀ {j:Nat} {q:Pl} {x:CObj},M.pl[j]? = some q->(σ.set k CObj.dead)[j]? = some x->x.live=true->q.block≠p.block:=by
  intro j q x hj hxj hl e;have hjk:j≠k:=by
   rintro rfl;rw [n_76 om_] at hxj;injection hxj with hxj
   subst hxj;cases hl
  have hxj':σ[j]? = some x:=by rwa [n_42 (Ne.symm hjk)] at hxj
  exact hjk (hr.inj j k q p x _ hj hp hxj' hk hl rfl e)
 refine ⟨hx,by simp [Plan.add,hr.len],fun b o' ha=>hr.blk b o' ha,fun j q x hj hxj=>?_,fun j j' q q' x x' hj hj' hxj hxj' hl hl' hb=>?_,fun g cells hg=>(hr.glob g cells hg).mono hx,hr.kep,fun j q x hj hxj hlv=>?_⟩
 ·rcases hgo hxj with ⟨hlt,h⟩ | ⟨rfl,rfl⟩
  ·rcases hget hj with ⟨_,hq⟩ | ⟨rfl,_⟩
   ·obtain ⟨h1,h2⟩:=hd.obj j q x hq h;refine ⟨?_,h2⟩;by_cases hl:x.live=true
    ·exact h1.mono hx rfl (fun _ _ _ _ h=>h)
    ·cases x <;> first | trivial | simp [CObj.live] at hl
   ·omega
  ·rcases hget hj with ⟨h,_⟩ | ⟨_,rfl⟩
   ·omega
   ·refine ⟨⟨hm,q2,⟨fun o ho=>n_54 (q3.1 o ho) (n_19 _ hn),q3.2⟩,cur0,ty0,q4,q5⟩,hfree⟩
 ·rcases hgo hxj with ⟨hlt,h⟩ | ⟨rfl,rfl⟩
  ·rcases hget hj with ⟨_,hq⟩ | ⟨rfl,_⟩
   ·rcases hgo hxj' with ⟨hlt',h'⟩ | ⟨rfl,rfl⟩
    ·rcases hget hj' with ⟨_,hq'⟩ | ⟨rfl,_⟩
     ·exact hd.inj j j' q q' x x' hq hq' h h' hl hl' hb
     ·omega
    ·rcases hget hj' with ⟨h0,_⟩ | ⟨_,rfl⟩
     ·omega
     ·exact absurd hb (hother hq h hl)
   ·omega
  ·rcases hget hj with ⟨h0,_⟩ | ⟨_,rfl⟩
   ·omega
   ·rcases hgo hxj' with ⟨hlt',h'⟩ | ⟨rfl,rfl⟩
    ·rcases hget hj' with ⟨_,hq'⟩ | ⟨rfl,_⟩
     ·exact absurd hb.symm (hother hq' h' hl')
     ·omega
    ·rfl
 ·rcases hgo hxj with ⟨hlt,h⟩ | ⟨rfl,rfl⟩
  ·rcases hget hj with ⟨_,hq⟩ | ⟨rfl,_⟩
   ·exact hd.nk j q x hq h hlv
   ·omega
  ·rcases hget hj with ⟨h0,_⟩ | ⟨_,rfl⟩
   ·omega
   ·exact hr.nk k q _ hp hk rfl
theorem Src.lenOf (h:Src C M w rows s v) (w':World):(Builtin.lenOf v).run C.P w' = .ok rows.length w':=by
 obtain ⟨a,c,rfl,_⟩:=h;simp [Builtin.lenOf]
def SrcA (C:Ctx) (w:World) (M:Plan) (rows:List (List CV)) (s:Nat) (v:Value):Prop :=
 (∀ w',(Builtin.lenOf v).run C.P w' = .ok rows.length w')/\(∀ r∈rows,r.length=s) /\
  ∃ arr:Array Value,(Builtin.firstCells s rows.length v).run C.P w = .ok arr w/\arr.size=rows.length*s /\
   ∀ (i j:Nat) (r:List CV) (c:CV),rows[i]? = some r->r[j]? = some c->RV M w c (arr.getD (i*s+j) undef)/\c.one=true
theorem Src.any (h:Src C M w rows s v):SrcA C w M rows s v:=by
 have hl:=h.lenOf;obtain ⟨_,_,_,_,h1,h2⟩:=h;exact ⟨hl,h1,h2⟩
theorem append_rows {old rest:Array Value} (h1:old.size=rows.length*s) (h2:arr.size=new.length*s) (hrs:∀ r∈rows,r.length=s) (hns:∀ r∈new,r.length=s)
 (ho:∀ (i j:Nat) (r:List CV) (c:CV),rows[i]? = some r->r[j]? = some c->RV M w c (old.getD (i*s+j) undef))
 (ha:∀ (i j:Nat) (r:List CV) (c:CV),new[i]? = some r->r[j]? = some c->RV M w c (arr.getD (i*s+j) undef)) (i j:Nat) (r:List CV) (c:CV) (hi:(rows++new)[i]? = some r) (hj:r[j]? = some c) :
 i*s+j < (old++arr++rest).size/\RV M w c ((old++arr++rest).getD (i*s+j) undef):=by
 rw [n_45] at hi;split at hi
 ·rename_i hlt;have hjl:j < s:=by have:=(n_1.1 hj).1; rwa [hrs r (n_0 hi)] at this
  have hq:i*s+j < old.size:=by
   rw [h1];have:(i+1)*s<=rows.length*s:=n_19 _ hlt;rw [n_20] at this; omega
  refine ⟨by simp; omega,?_⟩;have hq2:i*s+j < (old++arr).size:=by simp; omega
  have e:(old++arr++rest).getD (i*s+j) undef=old.getD (i*s+j) undef:=by
   simp only [n_21];rw [n_106 hq2,n_106 hq]
  rw [e];exact ho i j r c hi hj
 ·rename_i hge;have hil:=(n_1.1 hi).1;have hjl:j < s:=by have:=(n_1.1 hj).1; rwa [hns r (n_0 hi)] at this
  have e1:(i - rows.length)*s=i*s - rows.length*s:=Nat.sub_mul _ _ _;have e2:rows.length*s<=i*s:=n_19 _ om_;have e3:(i - rows.length+1)*s<=new.length*s:=n_19 _ hil;rw [n_20] at e3;refine ⟨by simp; omega,?_⟩;have hq2:i*s+j < (old++arr).size:=by simp; omega
  have e:(old++arr++rest).getD (i*s+j) undef=arr.getD ((i - rows.length)*s+j) undef:=by
   simp only [n_21];rw [n_106 hq2,Array.getElem?_append_right om_]
   congr 2; omega
  rw [e];exact ha _ j r c hi hj
theorem zeroCells_size (z:Array Value) (n:Nat):(Builtin.zeroCells z n).size=n*z.size:=by simp [Builtin.zeroCells]
theorem RV.list' {tok:Option Nat} {a:Option Addr} {cap:Nat} (hL:L=rows.length) (vals:Nat->Nat->Value) :
 rows.length<=cap->cap<=maxLen->a.isSome=nn->(nn=false->cap=0)->(rows≠[]->a=some ⟨b,off,none⟩) ->
 (∀ r∈rows,r.length=s)->(∀ r∈rows,∀ c∈r,c.one=true) ->
 (∀ (i j:Nat) (r:List CV) (c:CV),rows[i]? = some r->r[j]? = some c->M.at b (off+i*s+j)/\w.cell? ⟨b,off+i*s+j,none⟩=some (vals i j)) ->
 (∀ (i j:Nat) (r:List CV) (c:CV),rows[i]? = some r->r[j]? = some c->RV M w c (vals i j)) ->
 (∀ k,tok=some k->∃ s',M.pl[k]? = some ⟨b,cap,s'⟩/\a=some ⟨b,0,none⟩/\off=0/\(rows≠[]->s'=s)) ->
 RV M w (.list rows nn tok) (.slice a L cap):=by
 subst hL;exact RV.list vals
theorem d_appendTG {tok:Option Nat} {ti:TypeInfo} (ho:o.op = .call { callee:=.builtin .append,args:=#[x,y],argTypes:=#[t,t2]}) (hx:E.valid x) (hy:E.valid y) (ex:E.val C x = .list rows nn tok)
 (hsrc:∀ M w v,Rel C M σ w->RV M w (E.val C y) v->SrcA C w M new s v) (hu:∀ w,(underlying t).run C.P w = .ok (.slice e) w) (hs:∀ w,(sizeOf e).run C.P w = .ok s w) (hti:∀ w,(typeInfo e).run C.P w = .ok ti w) (hz:∀ w,(zeroValue e).run C.P w = .ok z w) (hzs:z.cells.size=s)
 (hu2:(∀ w,(underlying t2).run C.P w = .ok (.slice e) w)\/∀ w,(underlying t2).run C.P w = .ok .string w) (ht0:t0=none\/t0=some e) (hts:t0.isSome=true->s=1) (happ:CanAppT t0 σ rows nn tok\/(rows=[]/\t0=some e/\∃ k,tok=some k/\σ[k]? = some (.tipT t0 0))) (hrs:∀ r∈rows,r.length=s) (hnew:new≠[]) (hb:(rows.length+new.length)*ti.bytes<=140737488355328) (hmax:rows.length+new.length<=9223372036854775807)
 (hk:K (.ret (.list (rows++new) true (some σ.length))) (kill σ tok++[.tipT t0 (rows.length+new.length)])):Does C σ E o K:=fun M w ρ hr hh=>by
 have h1:=hh x q_217 hx;have h2:=hh y q_217 hy;rw [ex] at h1;have hso:=src_of_list (C:=C) h1 hrs;have hsn:=hsrc M w _ hr h2;have hlen:=hsn.1;obtain ⟨a,cap,b,off,s',vals,hv,hcap,hcmax,hnn,hn0,ha,hrl,hone,hc,hrv,htok⟩:=h1.list_inv;have hnl:0 < new.length:=n_69.2 hnew;have hexec:(execOp ρ o).run C.P w=((Builtin.append_ #[t,t2] o.type #[ρ x,ρ y]).run C.P w).andThen fun v w=>.ok (.value v) w:=by
  simp [execOp,ho,resolve,invoke,builtin]
 have hrow:∀ r∈rows++new,r.length=s:=fun r hr=>by
  rcases n_18.1 hr with h | h
  ·exact hrs r h
  ·obtain ⟨_,hns,_⟩:=hsn; exact hns r h
 have hlenapp:(rows++new).length=rows.length+new.length:=n_4;by_cases hfit:rows.length+new.length<=cap
 ·
  rcases happ with (⟨rfl,rfl,rfl⟩ | ⟨hrne,k,rfl,hkt⟩) | ⟨rfl,ht0',k,rfl,hkt⟩
  ·have:=hn0 rfl;simp at hfit; omega
  ·obtain ⟨sz,hp,ha0,rfl,hsz⟩:=htok k rfl;obtain ⟨⟨q1,q2,q3,cur,ty,q4,q5⟩,hfree⟩:=hr.obj k _ _ hp hkt;obtain ⟨ty',hty'⟩:∃ ty',ty'=t0.getD ty:=⟨_,rfl⟩;rw [<- hty'] at q4;have hgd:t0.getD ty'=ty':=by rw [hty']; cases t0 <;> rfl
   simp only at q1 q2 q3 q4 q5;obtain ⟨_,hns,arr,hfn,hszn,hrvn⟩:=hsn;obtain ⟨r0,rs,hrr⟩:∃ r0 rs,rows=r0::rs:=by
    cases rows with
    | nil=>exact absurd rfl hrne
    | cons r0 rs=>exact ⟨r0,rs,rfl⟩
   have hs1:s'=s:=by rw [<- hrl r0 (by simp [hrr]),hrs r0 (by simp [hrr])]
   have hss:sz=s:=(hsz hrne).trans hs1;subst hss; subst hs1;have harr:arr.toList.length=arr.size:=n_61;have hend:rows.length*s'+arr.toList.length<=cur.size:=by
    rw [harr,hszn,q5,<- n_20];exact n_19 _ hfit
   have hst:=run_storeCells' (P:=C.P) (b:=b) (off:=rows.length*s') (t:=ty') arr.toList 0 cur w q4 om_ (Src.one hns hszn hrvn);rw [n_38] at hst;have hrun:(execOp ρ o).run C.P w = .ok (.value (.slice (some ⟨b,0,none⟩) (rows.length+new.length) cap)) (World.putObj w b (.cells (spliceA cur (rows.length*s') arr.toList) ty' (0,0))):=by
    rw [hexec,hv,ha0,run_append_fits hu hu2 hs hlen hfn hfit (by rw [n_10]; exact hst)];rfl
   rw [hrun];obtain ⟨hx1,hr1⟩:=hr.tipStore (cur':=spliceA cur (rows.length*s') arr.toList) hp hkt hgd q4 (spliceA_size _ _ _) (fun o' ho'=>by
    have h0:o' < cur.size:=by
     rw [q5];exact n_54 ho' (n_19 _ q1)
    have h1:o' < (spliceA cur (rows.length*s') arr.toList).size:=by rw [spliceA_size]; exact h0
    have:=spliceA_getD arr.toList cur (rows.length*s') o' hend;rw [if_neg (by simp only at ho'; omega)] at this;simp only [n_21,n_24 h0,n_24 h1,n_44] at this;rw [n_24 h0,n_24 h1,this])
   obtain ⟨hx2,hr2⟩:=hr1.tipNew (m:=rows.length+new.length) hp hkt om_ hfit;have hp2:(M.add ⟨b,cap,s'⟩).pl[σ.length]? = some ⟨b,cap,s'⟩:=by simp [Plan.add,<- hr.len]
   have hk2:(σ.set k CObj.dead++[CObj.tipT t0 (rows.length+new.length)])[σ.length]? = some (.tipT t0 (rows.length+new.length)):=by simp
   obtain ⟨hx3,hr3⟩:=hr2.settleCells hp2 hk2;have hx:=(hx1.trans hx2).trans hx3;refine ⟨_,_,_,hx,hr3,?_,hk⟩;have hbs:b < w.heap.size:=(n_16.1 q4).1;have hcell:∀ q,q < cur.size->(World.putObj w b (.cells (spliceA cur (rows.length*s') arr.toList) ty' (0,0))).cell? ⟨b,q,none⟩=some ((spliceA cur (rows.length*s') arr.toList).getD q undef):=fun q hq=>by
    have:q < (spliceA cur (rows.length*s') arr.toList).size:=by rw [spliceA_size]; exact hq
    simp [World.cell?,World.putObj_same w _ hbs,this]
   have hq:∀ i j r c,(rows++new)[i]? = some r->r[j]? = some c->i*s'+j < (rows.length+new.length)*s':=fun i j r c hi hj=>by
    have hil:=(n_1.1 hi).1;rw [hlenapp] at hil;have hjl:j < s':=by have:=(n_1.1 hj).1; rwa [hrow r (n_0 hi)] at this
    have:(i+1)*s'<=(rows.length+new.length)*s':=n_19 _ hil;rw [n_20] at this; omega
   have hqc:(rows.length+new.length)*s'<=cur.size:=by rw [q5]; exact n_19 _ hfit
   refine RV.list' (b:=b) (off:=0) (s:=s') hlenapp.symm (fun i j=>(spliceA cur (rows.length*s') arr.toList).getD (i*s'+j) undef) (by rw [hlenapp]; exact hfit) q2 rfl (fun h=>by cases h) q_291 hrow (fun r hr c hc=>?_) (fun i j r c hi hj=>⟨.inr (.inr ⟨rfl,by rw [n_10]; exact hq i j r c hi hj⟩),by rw [n_10]; exact hcell _ (n_54 (hq i j r c hi hj) hqc)⟩) (fun i j r c hi hj=>?_) (fun k' hk'=>⟨s',?_,rfl,rfl,fun _=>rfl⟩)
   ·rcases n_18.1 hr with h | h
    ·exact hone r h c hc
    ·obtain ⟨i,hi⟩:=n_11.1 h;obtain ⟨j,hj⟩:=n_11.1 hc;exact (hrvn i j r c hi hj).2
   ·rw [spliceA_getD _ _ _ _ hend];rw [n_45] at hi;split at hi
    ·rename_i hlt;have hjl:j < s':=by have:=(n_1.1 hj).1; rwa [hrs r (n_0 hi)] at this
     have hql:i*s'+j < rows.length*s':=by
      have:(i+1)*s'<=rows.length*s':=n_19 _ hlt;rw [n_20] at this; omega
     rw [if_neg om_];have h3:=(hc i j r c hi hj).2;rw [n_10] at h3;have h4:w.cell? ⟨b,i*s'+j,none⟩=some (cur.getD (i*s'+j) undef):=by
      have:i*s'+j < cur.size:=by omega
      simp [World.cell?,q4,this]
     rw [h4] at h3;injection h3 with h3
     rw [h3];exact (hrv i j r c hi hj).mono hx
    ·rename_i hge;have hil:=(n_1.1 hi).1;have hjl:j < s':=by have:=(n_1.1 hj).1; rwa [hns r (n_0 hi)] at this
     have e1:(i - rows.length)*s'=i*s' - rows.length*s':=Nat.sub_mul _ _ _;have e2:rows.length*s'<=i*s':=n_19 _ om_;have e3:(i - rows.length+1)*s'<=new.length*s':=n_19 _ hil;rw [n_20] at e3;rw [if_pos (by rw [harr,hszn]; omega)];have:=(hrvn _ j r c hi hj).1.mono hx;rw [show i*s'+j - rows.length*s'=(i - rows.length)*s'+j from by omega];simpa using this
   ·injection hk' with hk'
    subst hk';exact hp2
  ·
   obtain ⟨sz,hp,ha0,rfl,_⟩:=htok k rfl;obtain ⟨⟨q1,q2,q3,cur,ty,q4,q5⟩,hfree⟩:=hr.obj k _ _ hp hkt;have hsz:sz=s:=(q3.2 (by rw [ht0']; rfl)).trans (hts (by rw [ht0']; rfl)).symm;obtain ⟨ty',hty'⟩:∃ ty',ty'=t0.getD ty:=⟨_,rfl⟩;rw [<- hty'] at q4;have hgd:t0.getD ty'=ty':=by rw [hty']; cases t0 <;> rfl
   simp only at q1 q2 q3 q4 q5;subst hsz;obtain ⟨_,hns,arr,hfn,hszn,hrvn⟩:=hsn;have harr:arr.toList.length=arr.size:=n_61;have hl0:([]:List (List CV)).length=0:=rfl;rw [hl0] at hfit hcap hv hlenapp hb hmax hk;rw [n_10] at hfit hk;have hend:0+arr.toList.length<=cur.size:=by
    rw [harr,hszn,q5,n_10];exact n_19 _ hfit
   have hst:=run_storeCells' (P:=C.P) (b:=b) (off:=0) (t:=ty') arr.toList 0 cur w q4 om_ (Src.one hns hszn hrvn);rw [n_38] at hst;have hrun:(execOp ρ o).run C.P w = .ok (.value (.slice (some ⟨b,0,none⟩) new.length cap)) (World.putObj w b (.cells (spliceA cur 0 arr.toList) ty' (0,0))):=by
    have:=run_append_fits (P:=C.P) (ty:=o.type) (b:=b) (off:=0) (n:=0) (m:=new.length) (c:=cap) hu hu2 hs hlen hfn om_ (by rw [Nat.zero_mul]; exact hst);rw [n_10] at this;rw [hexec,hv,ha0,this];rfl
   rw [hrun];obtain ⟨hx1,hr1⟩:=hr.tipStore (cur':=spliceA cur 0 arr.toList) hp hkt hgd q4 (spliceA_size _ _ _) (fun o' ho'=>by simp at ho');obtain ⟨hx2,hr2⟩:=hr1.tipNew (m:=new.length) hp hkt (n_3 _) hfit;have hp2:(M.add ⟨b,cap,sz⟩).pl[σ.length]? = some ⟨b,cap,sz⟩:=by simp [Plan.add,<- hr.len]
   have hk2:(σ.set k CObj.dead++[CObj.tipT t0 new.length])[σ.length]? = some (.tipT t0 new.length):=by simp
   obtain ⟨hx3,hr3⟩:=hr2.settleCells hp2 hk2;have hx:=(hx1.trans hx2).trans hx3;refine ⟨_,_,_,hx,hr3,?_,hk⟩;have hbs:b < w.heap.size:=(n_16.1 q4).1;have hcell:∀ q,q < cur.size->(World.putObj w b (.cells (spliceA cur 0 arr.toList) ty' (0,0))).cell? ⟨b,q,none⟩=some ((spliceA cur 0 arr.toList).getD q undef):=fun q hq=>by
    have:q < (spliceA cur 0 arr.toList).size:=by rw [spliceA_size]; exact hq
    simp [World.cell?,World.putObj_same w _ hbs,this]
   have hq:∀ i j r c,new[i]? = some r->r[j]? = some c->i*sz+j < new.length*sz:=fun i j r c hi hj=>by
    have hil:=(n_1.1 hi).1;have hjl:j < sz:=by have:=(n_1.1 hj).1; rwa [hns r (n_0 hi)] at this
    have:(i+1)*sz<=new.length*sz:=n_19 _ hil;rw [n_20] at this; omega
   have hqc:new.length*sz<=cur.size:=by rw [q5]; exact n_19 _ hfit
   refine RV.list' (b:=b) (off:=0) (s:=sz) rfl (fun i j=>(spliceA cur 0 arr.toList).getD (i*sz+j) undef) hfit q2 rfl (fun h=>by cases h) q_291 hns (fun r hr c hc=>?_) (fun i j r c hi hj=>⟨.inr (.inr ⟨rfl,by rw [n_10]; exact hq i j r c hi hj⟩),by rw [n_10]; exact hcell _ (n_54 (hq i j r c hi hj) hqc)⟩) (fun i j r c hi hj=>?_) (fun k' hk'=>⟨sz,?_,rfl,rfl,fun _=>rfl⟩)
   ·obtain ⟨i,hi⟩:=n_11.1 hr;obtain ⟨j,hj⟩:=n_11.1 hc;exact (hrvn i j r c hi hj).2
   ·rw [spliceA_getD _ _ _ _ hend];rw [if_pos (by rw [harr,hszn]; have:=hq i j r c hi hj; omega)];have:=(hrvn i j r c hi hj).1.mono hx;simpa using this
   ·injection hk' with hk'
    subst hk';exact hp2
 ·
  obtain ⟨hrd,hxd⟩:=hr.drewN;have hso':=src_of_list (C:=C) (rv_drew h1) hrs;have hsn':=hsrc M w.drew _ hrd (rv_drew h2);rw [hv] at hso';obtain ⟨a1,c1,hv1,_,_,old,hfo,hszo,hrvo⟩:=hso';obtain ⟨_,hns,arr,hfn,hszn,hrvn⟩:=hsn';obtain ⟨c',hc1,hc2,hrun⟩:=run_append_grows (P:=C.P) (ty:=o.type) (a:=a) (c:=cap) (w:=w) hu hu2 hs hti hz hlen hfo hfn om_ hmax hb;rw [hexec,hv,hrun];simp only [Result.andThen_ok];have hwsz:w.drew.heap.size=w.heap.size:=rfl;rw [<- hwsz];have hrk:=hrd.kill tok;have hkl:=kill_length σ tok;have hasz:(old++arr++Builtin.zeroCells z.cells (c' - (rows.length+new.length))).size=c'*s:=by
   simp only [n_126,zeroCells_size,hszo,hszn,hzs];rw [<- n_20,<- n_20]
   congr 1; omega
  have hr2:=hrk.alloc ⟨w.drew.heap.size,c',s⟩ (.cells (old++arr++Builtin.zeroCells z.cells (c' - (rows.length+new.length))) e) (.tipT t0 (rows.length+new.length)) rfl
   ⟨hc1,by unfold maxLen; simp only; omega,⟨fun o' ho'=>by have:=hrd.blk _ _ (.inr ho'); simp only at this; omega,hts⟩,_,e,by rw [show t0.getD e=e from by rcases ht0 with h | h <;> rw [h] <;> rfl]; exact heap_alloc_new _ _,hasz⟩
  have hx2:=Ext.alloc hrk ⟨w.drew.heap.size,c',s⟩ (.cells (old++arr++Builtin.zeroCells z.cells (c' - (rows.length+new.length))) e);have hp2:(M.add ⟨w.drew.heap.size,c',s⟩).pl[σ.length]? = some ⟨w.drew.heap.size,c',s⟩:=by simp [Plan.add,<- hr.len]
  have hk2:(kill σ tok++[CObj.tipT t0 (rows.length+new.length)])[σ.length]? = some (.tipT t0 (rows.length+new.length)):=by rw [<- hkl]; simp
  obtain ⟨hx3,hr3⟩:=hr2.settleCells hp2 hk2;have hx:=(hxd.trans hx2).trans hx3;refine ⟨_,_,_,hx,hr3,?_,hk⟩;have hget:=append_rows (rest:=Builtin.zeroCells z.cells (c' - (rows.length+new.length))) hszo hszn hrs hns (fun i j r c hi hj=>(hrvo i j r c hi hj).1) (fun i j r c hi hj=>(hrvn i j r c hi hj).1);have hq:∀ i j r c,(rows++new)[i]? = some r->r[j]? = some c->i*s+j < (rows.length+new.length)*s:=fun i j r c hi hj=>by
   have hil:=(n_1.1 hi).1;rw [hlenapp] at hil;have hjl:j < s:=by have:=(n_1.1 hj).1; rwa [hrow r (n_0 hi)] at this
   have:(i+1)*s<=(rows.length+new.length)*s:=n_19 _ hil;rw [n_20] at this; omega
  refine RV.list' (b:=w.drew.heap.size) (off:=0) (s:=s) hlenapp.symm (fun i j=>(old++arr++Builtin.zeroCells z.cells (c' - (rows.length+new.length))).getD (i*s+j) undef) (by rw [hlenapp]; exact hc1) (by unfold maxLen; omega) rfl (fun h=>by cases h) q_291 hrow (fun r hr c hc=>?_) (fun i j r c hi hj=>⟨.inr (.inr ⟨rfl,by rw [n_10]; exact hq i j r c hi hj⟩),?_⟩) (fun i j r c hi hj=>?_) (fun k' hk'=>⟨s,?_,rfl,rfl,fun _=>rfl⟩)
  ·rcases n_18.1 hr with h | h
   ·obtain ⟨i,hi⟩:=n_11.1 h;obtain ⟨j,hj⟩:=n_11.1 hc;exact (hrvo i j r c hi hj).2
   ·obtain ⟨i,hi⟩:=n_11.1 h;obtain ⟨j,hj⟩:=n_11.1 hc;exact (hrvn i j r c hi hj).2
  ·rw [n_10,World.cell?_alloc_new];have:=(hget i j r c hi hj).1;rw [n_24 this,n_21,n_24 this];rfl
  ·exact (hget i j r c hi hj).2.mono (hx2.trans hx3)
  ·injection hk' with hk'
   subst hk';exact hp2
theorem d_appendT {tok:Option Nat} {ti:TypeInfo} (ho:o.op = .call { callee:=.builtin .append,args:=#[x,y],argTypes:=#[t,t2]}) (hx:E.valid x) (hy:E.valid y) (ex:E.val C x = .list rows nn tok)
 (hsrc:∀ M w v,Rel C M σ w->RV M w (E.val C y) v->SrcA C w M new s v) (hu:∀ w,(underlying t).run C.P w = .ok (.slice e) w) (hs:∀ w,(sizeOf e).run C.P w = .ok s w) (hti:∀ w,(typeInfo e).run C.P w = .ok ti w) (hz:∀ w,(zeroValue e).run C.P w = .ok z w) (hzs:z.cells.size=s)
 (hu2:(∀ w,(underlying t2).run C.P w = .ok (.slice e) w)\/∀ w,(underlying t2).run C.P w = .ok .string w) (ht0:t0=none\/t0=some e) (hts:t0.isSome=true->s=1) (happ:CanAppT t0 σ rows nn tok) (hrs:∀ r∈rows,r.length=s) (hnew:new≠[]) (hb:(rows.length+new.length)*ti.bytes<=140737488355328) (hmax:rows.length+new.length<=9223372036854775807)
 (hk:K (.ret (.list (rows++new) true (some σ.length))) (kill σ tok++[.tipT t0 (rows.length+new.length)])):Does C σ E o K :=
 d_appendTG ho hx hy ex hsrc hu hs hti hz hzs hu2 ht0 hts (.inl happ) hrs hnew hb hmax hk
theorem d_append {tok:Option Nat} {ti:TypeInfo} (ho:o.op = .call { callee:=.builtin .append,args:=#[x,y],argTypes:=#[t,t]}) (hx:E.valid x) (hy:E.valid y) (ex:E.val C x = .list rows nn tok)
 (hsrc:∀ M w v,Rel C M σ w->RV M w (E.val C y) v->Src C M w new s v) (hu:∀ w,(underlying t).run C.P w = .ok (.slice e) w) (hs:∀ w,(sizeOf e).run C.P w = .ok s w) (hti:∀ w,(typeInfo e).run C.P w = .ok ti w) (hz:∀ w,(zeroValue e).run C.P w = .ok z w) (hzs:z.cells.size=s)
 (happ:CanApp σ rows nn tok) (hrs:∀ r∈rows,r.length=s) (hnew:new≠[]) (hb:(rows.length+new.length)*ti.bytes<=140737488355328) (hmax:rows.length+new.length<=9223372036854775807)
 (hk:K (.ret (.list (rows++new) true (some σ.length))) (kill σ tok++[.tip (rows.length+new.length)])):Does C σ E o K :=
 d_appendT ho hx hy ex (fun M w v hr h=>(hsrc M w v hr h).any) hu hs hti hz hzs (.inl hu) (.inl rfl) (fun h=>by cases h) happ hrs hnew hb hmax hk
end
section
def zrow (z:Value):List CV:=(cvOf z).cells
theorem zcell (hz1:constOk z=true) (hz2:(cvOf z).one=true\/∃ cs,cvOf z = .agg cs) (hzs:z.cells.size=s) (harr:∀ q,q < n*s->arr.getD q undef=z.cells.getD (q%s) undef) (i j:Nat) (r:List CV) (c:CV) (hi:(List.replicate n (zrow z))[i]? = some r) (hj:r[j]? = some c) :
 RV M w c (arr.getD (i*s+j) undef)/\c.one=true:=by
 have hz0:RV M w (cvOf z) z:=rv_cvOf hz1;obtain ⟨g1,g2,g3⟩:=hz0.cells hz2;rw [n_133] at hi;split at hi
 ·rename_i hin;injection hi with hi
  subst hi;have hjl:=(n_1.1 hj).1;have hjs:j < s:=by rw [<- hzs,g1]; exact hjl
  have hq:i*s+j < n*s:=by
   have:(i+1)*s<=n*s:=n_19 _ hin;rw [n_20] at this; omega
  rw [harr _ hq,(divmod hjs).2];exact ⟨g3 j c hj,g2 c (n_0 hj)⟩
 ·cases hi
theorem zrow_len (hz1:constOk z=true) (hz2:(cvOf z).one=true\/∃ cs,cvOf z = .agg cs) (hzs:z.cells.size=s):(zrow z).length=s:=by
 have hz0:RV ⟨[],fun _=>False,fun _ _=>False,fun _=>False⟩ default (cvOf z) z:=rv_cvOf hz1;have:=(hz0.cells hz2).1;rw [hzs] at this;exact this.symm
theorem zeros_get {z:Array Value} {q:Nat} (hs:z.size=s) (hq:q < n*s):((Array.range (n*s)).map (z[·%z.size]!)).getD q undef=z.getD (q%s) undef:=by
 have h0:0 < s:=by
  rcases n_92 s with h | h
  ·subst h; simp at hq
  ·exact h
 have hms:q%s < s:=n_53 _ h0;simp [hq,hs,hms]
theorem d_make {c:Nat} {kx ky:IntKind} {b:Int} {ti:TypeInfo} (ho:o.op = .makeSlice t x y) (hx:E.valid x) (hy:E.valid y) (ex:E.val C x = .val (.int kx a)) (ey:E.val C y = .val (.int ky b)) (ha:a=n) (hb:b=c)
 (hu:∀ w,(underlying t).run C.P w = .ok (.slice e) w) (hs:∀ w,(sizeOf e).run C.P w = .ok s w) (hti:∀ w,(typeInfo e).run C.P w = .ok ti w) (hz:∀ w,(zeroValue e).run C.P w = .ok z w) (hz1:constOk z=true) (hz2:(cvOf z).one=true\/∃ cs,cvOf z = .agg cs) (hzs:z.cells.size=s)
 (hnc:n<=c) (hmax:c<=9223372036854775807) (hby:ti.bytes*c<=281474976710656) (hk:K (.ret (.vec σ.length 0 n)) (σ++[.vec s (List.replicate n (zrow z))])):Does C σ E o K:=fun M w ρ hr hh=>by
 subst ha hb;have h1:=hh x q_265 hx;have h2:=hh y q_265 hy;rw [ex] at h1;rw [ey] at h2;have e1:IntKind.i64.wrap (n:Int)=n:=wr64 om_ om_;have e2:IntKind.i64.wrap (c:Int)=c:=wr64 om_ om_;have e3:((ti.bytes:Int)*(c:Int) > 2^48)=False:=by
  have h:((ti.bytes*c:Nat):Int)<=281474976710656:=by omega
  rw [Int.natCast_mul] at h;simp; omega
 have hcell:(if c*s=0 then (#[]:Array Value) else z.cells)=(if c*s=0 then #[] else z.cells):=rfl;have hnlt:¬ ((c:Int) < n):=by omega
 have hrun:(execOp ρ o).run C.P w = .ok (.value (.slice (some ⟨w.heap.size,0,none⟩) n c)) (w.alloc (.cells ((Array.range (c*s)).map (z.cells[·%z.cells.size]!)) e)):=by
  have e4:¬ (2^48 < (ti.bytes:Int)*(c:Int)):=by simpa using e3
  by_cases h0:c*s=0
  ·have er:Array.range 0 = #[]:=rfl;simp [execOp,ho,Instr.makeSlice,hu,rv_val h1,rv_val h2,asInt,asIntOf,hti,e1,e2,hs,h0,newRow,er,hnlt] at e4 ⊢;intro h;exfalso
   rcases h with (h | h) | h <;> omega
  ·simp [execOp,ho,Instr.makeSlice,hu,rv_val h1,rv_val h2,asInt,asIntOf,hti,e1,e2,hs,h0,hz,newRow,hnlt] at e4 ⊢;intro h;exfalso
   rcases h with (h | h) | h <;> omega
 rw [hrun];have hx:=Ext.alloc hr ⟨w.heap.size,c,s⟩ (.cells ((Array.range (c*s)).map (z.cells[·%z.cells.size]!)) e);have hzl:=zrow_len hz1 hz2 hzs;refine ⟨.vec σ.length 0 n,_,_,hx,hr.alloc ⟨w.heap.size,c,s⟩ _ (.vec s (List.replicate n (zrow z))) rfl ⟨rfl,by simpa using hnc,by unfold maxLen; simp only; omega,fun r hr=>by rw [(List.mem_replicate.1 hr).2,hzl],fun r hr c hc=>?_,_,e,heap_alloc_new _ _,si_,fun i j r c' hi hj=>?_⟩,?_,hk⟩
 ·rw [(List.mem_replicate.1 hr).2] at hc;have hz0:RV M w (cvOf z) z:=rv_cvOf hz1;exact (hz0.cells hz2).2.1 c hc
 ·exact (zcell (n:=n) hz1 hz2 hzs (fun q hq=>zeros_get hzs (n_54 hq (n_19 _ hnc))) i j r c' hi hj).1
 ·have:=RV.vec (M:=M.add ⟨w.heap.size,c,s⟩) (w:=w.alloc (.cells ((Array.range (c*s)).map (z.cells[·%z.cells.size]!)) e)) (k:=σ.length) (off:=0) (len:=n) (p:=⟨w.heap.size,c,s⟩) (a:=⟨w.heap.size,0,none⟩) q_258 (by simpa using hnc) (by unfold maxLen; simp only; omega) (fun _=>by simp);exact this
theorem d_clear {len:Nat} (ho:o.op = .call { callee:=.builtin .clear,args:=#[x],argTypes:=#[t]}) (hx:E.valid x) (ex:E.val C x = .vec k off len)
 (hu:∀ w,(underlying t).run C.P w = .ok (.slice e) w) (hz:∀ w,(zeroValue e).run C.P w = .ok z w) (hz1:constOk z=true) (hz2:(cvOf z).one=true\/∃ cs,cvOf z = .agg cs) (hzs:z.cells.size=s) (hk':σ[k]? = some (.vec s rows)) (hl:off+len<=rows.length)
 (hk:K (.ret (.val (.tuple #[]))) (σ.set k (.vec s (spliceR rows off (List.replicate len (zrow z)))))):Does C σ E o K:=fun M w ρ hr hh=>by
 have h1:=hh x q_217 hx;rw [ex] at h1;generalize hv:ρ x=v at h1;cases h1 with
 | vec hp g1 g2 g3 =>
  rename_i p a;have hobj:=(hr.obj k p _ hp hk').1;have hcap:rows.length<=p.cap:=hobj.2.1;have hps:p.size=s:=hobj.1;have hzl:=zrow_len hz1 hz2 hzs;have hzc:(Builtin.zeroCells z.cells len)=(Array.range (len*s)).map (z.cells[·%z.cells.size]!):=by simp [Builtin.zeroCells,hzs]
  obtain ⟨w',hst,hx',hr'⟩:=vec_splice hr hp hk' (p:=off) (new:=List.replicate len (zrow z)) (arr:=Builtin.zeroCells z.cells len) om_ q_287 (fun r hr=>by rw [(List.mem_replicate.1 hr).2,hzl]) (by simp [zeroCells_size,hzs])
   (fun i j r c hi hj=>zcell (n:=len) hz1 hz2 hzs (fun q hq=>by rw [hzc]; exact zeros_get hzs hq) i j r c hi hj)
  have hrun:(execOp ρ o).run C.P w = .ok (.value (.tuple #[])) w':=by
   rcases len with _ | len
   ·have h00:(Builtin.zeroCells z.cells 0).toList=[]:=by simp [Builtin.zeroCells]
    rw [h00] at hst;have:w'=w:=by
     have h2:(storeCells ⟨p.block,off*s,none⟩ []).run C.P w = .ok () w:=by simp [storeCells]
     rw [h2] at hst;injection hst with _ h3
     exact h3.symm
    subst this;simp [execOp,ho,resolve,invoke,builtin,Builtin.clear_,hu,hv]
   ·have hst':(storeCells a (Builtin.zeroCells z.cells (len+1)).toList).run C.P w = .ok () w':=by
     rw [g3 om_,hps]; exact hst
    simp [execOp,ho,resolve,invoke,builtin,Builtin.clear_,hu,hv,hz,hst']
  rw [hrun];exact ⟨_,_,M,hx',hr',.val _,hk⟩
theorem d_append_v {ti:TypeInfo} (ho:o.op = .call { callee:=.builtin .append,args:=#[x,y],argTypes:=#[t,t]}) (hx:E.valid x) (hy:E.valid y) (ex:E.val C x = .vec k 0 rows.length)
 (hsrc:∀ M w v,Rel C M σ w->RV M w (E.val C y) v->Src C M w new s v) (hu:∀ w,(underlying t).run C.P w = .ok (.slice e) w) (hs:∀ w,(sizeOf e).run C.P w = .ok s w) (hti:∀ w,(typeInfo e).run C.P w = .ok ti w) (hz:∀ w,(zeroValue e).run C.P w = .ok z w) (hzs:z.cells.size=s)
 (hk':σ[k]? = some (.vec s rows)) (hnew:new≠[]) (hb:(rows.length+new.length)*ti.bytes<=140737488355328) (hmax:rows.length+new.length<=9223372036854775807)
 (hk:K (.ret (.vec σ.length 0 (rows.length+new.length))) (σ.set k .dead++[.vec s (rows++new)])):Does C σ E o K:=fun M w ρ hr hh=>by
 have h1:=hh x q_217 hx;have h2:=hh y q_217 hy;rw [ex] at h1;have hnl:0 < new.length:=n_69.2 hnew;have hsx:=src_of_vec hr h1 hk' (Nat.le_of_eq (n_10 _));rw [n_70,n_55] at hsx;have hlen:=(hsrc M w _ hr h2).lenOf;have hexec:(execOp ρ o).run C.P w=((Builtin.append_ #[t,t] o.type #[ρ x,ρ y]).run C.P w).andThen fun v w=>.ok (.value v) w:=by
  simp [execOp,ho,resolve,invoke,builtin]
 generalize hv:ρ x=v at h1 hsx;cases h1 with
 | vec hp g1 g2 g3 =>
  rename_i p a;have hobj:=(hr.obj k p _ hp hk').1;have hcap:rows.length<=p.cap:=hobj.2.1;have hps:p.size=s:=hobj.1;subst hps;by_cases hfit:rows.length+new.length<=p.cap
  ·obtain ⟨an,cn,hvn,_,hns,arr,hfn,hszn,hrvn⟩:=hsrc M w _ hr h2;obtain ⟨w',hst,hx',hr'⟩:=vec_splice hr hp hk' (p:=rows.length) (new:=new) (n_5 _) hfit hns hszn hrvn;have ha:=g3 om_;rw [Nat.zero_mul] at ha;have happ:=run_append_fits (P:=C.P) (ty:=o.type) (b:=p.block) (off:=0) (n:=rows.length) (m:=new.length) (c:=p.cap - 0) hu (.inl hu) hs hlen hfn om_ (by rw [n_10]; exact hst);rw [hexec,hv,ha,happ];simp only [Result.andThen_ok];have hsp:spliceR rows rows.length new=rows++new:=by simp [spliceR]
   rw [hsp] at hr';have hks:k < σ.length:=(n_1.1 hk').1;have hk2:(σ.set k (.vec p.size (rows++new)))[k]? = some (.vec p.size (rows++new)):=by rw [n_76 hks]
   have hx2:Ext M w' (M.add p) w':=⟨⟨[p],rfl⟩,fun _ h=>h,fun _ _ h=>.inr h,fun _ _=>rfl,fun _ _ _=>rfl,n_5 _,nb_drew,rfl,rfl,rfl,fun _ h=>⟨h,rfl,id,fun _=>id⟩⟩;have hd:=hr'.dead k;rw [List.set_set] at hd;have hobj':=hr'.obj k p _ hp hk2;have hget:∀ {j:Nat} {q:Pl},(M.add p).pl[j]? = some q->(j < σ.length/\M.pl[j]? = some q)\/(j=σ.length/\q=p):=by
    intro j q hj;simp only [Plan.add,n_45,hr.len] at hj;split at hj
    ·exact .inl ⟨‹_›,hj⟩
    ·have:j - σ.length=0:=by
      have:=(n_1.1 hj).1;simp at this; omega
     rw [this] at hj;simp at hj;exact .inr ⟨om_,hj.symm⟩
   have hgo:∀ {j:Nat} {x:CObj},(σ.set k CObj.dead++[CObj.vec p.size (rows++new)])[j]? = some x->(j < σ.length/\(σ.set k CObj.dead)[j]? = some x)\/(j=σ.length/\x = .vec p.size (rows++new)):=by
    intro j x hj;rw [n_45] at hj;split at hj
    ·exact .inl ⟨by rename_i h; simpa using h,hj⟩
    ·have:j - (σ.set k CObj.dead).length=0:=by
      have:=(n_1.1 hj).1;simp at this ⊢; omega
     rw [this] at hj;simp at hj;rename_i h2;have hlen:(σ.set k CObj.dead).length=σ.length:=by simp
     exact .inr ⟨om_,hj.symm⟩
   have hother:∀ {j:Nat} {q:Pl} {x:CObj},M.pl[j]? = some q->(σ.set k CObj.dead)[j]? = some x->x.live=true->q.block≠p.block:=by
    intro j q x hj hxj hl e;have hjk:j≠k:=by
     rintro rfl;rw [n_76 hks] at hxj;injection hxj with hxj
     subst hxj;cases hl
    have hxj':σ[j]? = some x:=by rwa [n_42 (Ne.symm hjk)] at hxj
    exact hjk (hr.inj j k q p x _ hj hp hxj' hk' hl rfl e)
   refine ⟨.vec σ.length 0 (rows.length+new.length),_,M.add p,hx'.trans hx2,⟨by simp [Plan.add,hr.len],fun b o' ha=>hr'.blk b o' ha,fun j q x hj hxj=>?_,fun j j' q q' x x' hj hj' hxj hxj' hl hl' hb=>?_,fun g cells hg=>(hr'.glob g cells hg).mono hx2,hr'.kep,fun j q x hj hxj hlv=>?_⟩,?_,hk⟩
   ·rcases hgo hxj with ⟨hlt,h⟩ | ⟨rfl,rfl⟩
    ·rcases hget hj with ⟨_,hq⟩ | ⟨rfl,_⟩
     ·obtain ⟨h1,h2⟩:=hd.obj j q x hq h;refine ⟨?_,h2⟩;by_cases hl:x.live=true
      ·exact h1.mono hx2 rfl (fun _ _ _ _ h=>h)
      ·cases x <;> first | trivial | simp [CObj.live] at hl
     ·omega
    ·rcases hget hj with ⟨h,_⟩ | ⟨_,rfl⟩
     ·omega
     ·exact ⟨hobj'.1.mono hx2 rfl (fun _ _ _ _ h=>h),hobj'.2⟩
   ·rcases hgo hxj with ⟨hlt,h⟩ | ⟨rfl,rfl⟩
    ·rcases hget hj with ⟨_,hq⟩ | ⟨rfl,_⟩
     ·rcases hgo hxj' with ⟨hlt',h'⟩ | ⟨rfl,rfl⟩
      ·rcases hget hj' with ⟨_,hq'⟩ | ⟨rfl,_⟩
       ·exact hd.inj j j' q q' x x' hq hq' h h' hl hl' hb
       ·omega
      ·rcases hget hj' with ⟨h0,_⟩ | ⟨_,rfl⟩
       ·omega
       ·exact absurd hb (hother hq h hl)
     ·omega
    ·rcases hget hj with ⟨h0,_⟩ | ⟨_,rfl⟩
     ·omega
     ·rcases hgo hxj' with ⟨hlt',h'⟩ | ⟨rfl,rfl⟩
      ·rcases hget hj' with ⟨_,hq'⟩ | ⟨rfl,_⟩
       ·exact absurd hb.symm (hother hq' h' hl')
       ·omega
      ·rfl
   ·rcases hgo hxj with ⟨hlt,h⟩ | ⟨rfl,rfl⟩
    ·rcases hget hj with ⟨_,hq⟩ | ⟨rfl,_⟩
     ·exact hd.nk j q x hq h hlv
     ·omega
    ·rcases hget hj with ⟨h0,_⟩ | ⟨_,rfl⟩
     ·omega
     ·exact hr.nk k q _ hp hk' rfl
   ·exact RV.vec (M:=M.add p) (w:=w') (k:=σ.length) (off:=0) (len:=rows.length+new.length) (p:=p) (a:=⟨p.block,0,none⟩) q_258 om_ g2 (fun _=>by simp)
  ·obtain ⟨hrd,hxd⟩:=hr.drewN;have h1':RV M w.drew (.vec k 0 rows.length) (.slice (some a) rows.length (p.cap - 0)):=.vec hp g1 g2 g3;have hso':=src_of_vec hrd h1' hk' (Nat.le_of_eq (n_10 _));rw [n_70,n_55] at hso';obtain ⟨a1,c1,hv1,_,hrs,old,hfo,hszo,hrvo⟩:=hso';obtain ⟨an,cn,hvn,_,hns,arr,hfn,hszn,hrvn⟩:=hsrc M w.drew _ hrd (rv_drew h2);obtain ⟨c',hc1,hc2,hrun⟩:=run_append_grows (P:=C.P) (ty:=o.type) (a:=some a) (c:=p.cap - 0) (w:=w) hu (.inl hu) hs hti hz hlen hfo hfn om_ hmax hb;rw [hexec,hv,hrun];simp only [Result.andThen_ok];have hwsz:w.drew.heap.size=w.heap.size:=rfl;rw [<- hwsz];have hrk:=hrd.dead k;have hasz:(old++arr++Builtin.zeroCells z.cells (c' - (rows.length+new.length))).size=c'*p.size:=by
    simp only [n_126,zeroCells_size,hszo,hszn,hzs];rw [<- n_20,<- n_20]
    congr 1; omega
   have hx2:=Ext.alloc hrk ⟨w.drew.heap.size,c',p.size⟩ (.cells (old++arr++Builtin.zeroCells z.cells (c' - (rows.length+new.length))) e);have hrow:∀ r∈rows++new,r.length=p.size:=fun r hr=>by
    rcases n_18.1 hr with h | h
    ·exact hrs r h
    ·exact hns r h
   have hget:=append_rows (rest:=Builtin.zeroCells z.cells (c' - (rows.length+new.length))) hszo hszn hrs hns (fun i j r c hi hj=>(hrvo i j r c hi hj).1) (fun i j r c hi hj=>(hrvn i j r c hi hj).1);have hr2:=hrk.alloc ⟨w.drew.heap.size,c',p.size⟩ (.cells (old++arr++Builtin.zeroCells z.cells (c' - (rows.length+new.length))) e) (.vec p.size (rows++new)) rfl
    ⟨rfl,by simpa using hc1,by unfold maxLen; simp only; omega,hrow,fun r hr c hc=>(by
     rcases n_18.1 hr with h | h
     ·obtain ⟨i,hi⟩:=n_11.1 h;obtain ⟨j,hj⟩:=n_11.1 hc;exact (hrvo i j r c hi hj).2
     ·obtain ⟨i,hi⟩:=n_11.1 h;obtain ⟨j,hj⟩:=n_11.1 hc;exact (hrvn i j r c hi hj).2),_,e,heap_alloc_new _ _,hasz,fun i j r c hi hj=>((hget i j r c hi hj).2.mono hx2)⟩
   refine ⟨.vec σ.length 0 (rows.length+new.length),_,_,hxd.trans hx2,hr2,?_,hk⟩;exact RV.vec (M:=M.add ⟨w.drew.heap.size,c',p.size⟩) (k:=σ.length) (off:=0) (len:=rows.length+new.length) (p:=⟨w.drew.heap.size,c',p.size⟩) (a:=⟨w.drew.heap.size,0,none⟩) q_258 (by simpa using hc1) (by unfold maxLen; simp only; omega) (fun _=>by simp)
end
def CExit.jump (l:Nat) (J:Env->List CObj->Prop) (Q:CExit->Env->List CObj->Prop):CExit->Env->List CObj->Prop
 | .goto l',E,σ=>l'=l/\J E σ
 | e,E,σ=>Q e E σ
theorem cw_scope {c rest:Code} (l:Nat) (J:Nat->Env->List CObj->Prop) (hf:findLabel c l=some rest)
 (first:CWp C n c (CExit.jump l (fun E σ=>∃ m,J m E σ) Q) E σ) (pass:∀ m E σ,J m E σ->CWp C n rest (CExit.jump l (fun E' σ'=>∃ m',m' < m/\J m' E' σ') Q) E σ):CWp C n (.scope c) Q E σ:=fun M w a hr hfr=>by
 intro b k cs;have hg:gotoIn l (.inScope c::k)=some (.code rest::.inScope c::k):=by simp [gotoIn,hf]
 have key:∀ m E σ M1 w1 a1,J m E σ->Ext M w M1 w1->Rel C M1 σ w1->FRel M1 w1 n E a1 ->
  ∃ e a' w',Lift C n Q M w e a' w'/\Arrives C.P (lone (b.at a1 (.code rest::.inScope c::k)) cs w1) b k cs e a' w':=by
  intro m
  induction m using Nat.strongRecOn with
  | _ m ih =>
   intro E σ M1 w1 a1 hJ hx hr1 hf1;obtain ⟨e,a2,w2,hq,harr⟩:=pass m E σ hJ M1 w1 a1 hr1 hf1 b (.inScope c::k) cs;obtain ⟨E',σ',M',h1,h2,h3,h4⟩:=hq;cases e with
   | normal=>exact ⟨.normal,a2,w2,⟨E',σ',M',hx.trans h1,h2,h3,h4⟩,Steps.trans harr (.one step_inScope)⟩
   | exit id=>exact ⟨.exit id,a2,w2,⟨E',σ',M',hx.trans h1,h2,h3,h4⟩,fun k' hk=>harr k' (by simp [exitTo,hk])⟩
   | goto l' =>
    obtain ⟨rfl,m',hlt,hJ'⟩:=h4;obtain ⟨e₂,a₂,w₂,hq₂,harr₂⟩:=ih m' hlt E' σ' M' w2 a2 hJ' (hx.trans h1) h2 h3;exact ⟨e₂,a₂,w₂,hq₂,.of_steps (harr _ hg) harr₂⟩
   | ret=>exact ⟨.ret,a2,w2,⟨E',σ',M',hx.trans h1,h2,h3,h4⟩,harr⟩
   | panic ch=>exact ⟨.panic ch,a2,w2,⟨E',σ',M',hx.trans h1,h2,h3,h4⟩,harr⟩
   | outgrown=>exact h4.elim
 obtain ⟨e,a1,w1,hq,harr⟩:=first M w a hr hfr b (.inScope c::k) cs
 obtain ⟨E',σ',M',h1,h2,h3,h4⟩:=hq;cases e with
 | normal=>exact ⟨.normal,a1,w1,⟨E',σ',M',h1,h2,h3,h4⟩,.head step_scope (Steps.trans harr (.one step_inScope))⟩
 | exit id=>exact ⟨.exit id,a1,w1,⟨E',σ',M',h1,h2,h3,h4⟩,fun k' hk=>.head step_scope (harr k' (by simp [exitTo,hk]))⟩
 | goto l' =>
  obtain ⟨rfl,m,hJ⟩:=h4;obtain ⟨e₂,a₂,w₂,hq₂,harr₂⟩:=key m E' σ' M' w1 a1 hJ h1 h2 h3;exact ⟨e₂,a₂,w₂,hq₂,.of_steps (.head step_scope (harr _ hg)) harr₂⟩
 | ret=>exact ⟨.ret,a1,w1,⟨E',σ',M',h1,h2,h3,h4⟩,.of_steps (.one step_scope) harr⟩
 | panic ch=>exact ⟨.panic ch,a1,w1,⟨E',σ',M',h1,h2,h3,h4⟩,.of_steps (.one step_scope) harr⟩
 | outgrown=>exact h4.elim
inductive Old (n:Nat):CV->Prop where
 | val (v:Value):Old n (.val v)
 | agg {cs:List CV}:(∀ (i:Nat) (c:CV),cs[i]? = some c->Old n c)->Old n (.agg cs)
 | tup {cs:List CV}:(∀ (i:Nat) (c:CV),cs[i]? = some c->Old n c)->Old n (.tup cs)
 | clo {f:FuncId} {cs:List CV}:(∀ (i:Nat) (c:CV),cs[i]? = some c->Old n c)->Old n (.clo f cs)
 | list {rows:List (List CV)} {nn:Bool} {tok:Option Nat}:(∀ (i j:Nat) (r:List CV) (c:CV),rows[i]? = some r->r[j]? = some c->Old n c)->(∀ k,tok=some k->k < n)->Old n (.list rows nn tok)
 | ptr {k off:Nat}:k < n->Old n (.ptr k off)
 | cptr {cells:List CV}:(∀ (j:Nat) (c:CV),cells[j]? = some c->Old n c)->Old n (.cptr cells)
 | eptr {k i off:Nat}:k < n->Old n (.eptr k i off)
 | vec {k off len:Nat}:k < n->Old n (.vec k off len)
 | map {k:Nat}:k < n->Old n (.map k)
theorem RV.old (h:RV M w c v):Old M.pl.length c:=by
 induction h with
 | val v=>exact .val v
 | agg _ _ _ ih=>exact .agg ih
 | tup _ _ ih=>exact .tup ih
 | clo _ _ ih=>exact .clo ih
 | list vals _ _ _ _ _ _ _ _ _ htok ih =>
  exact .list ih fun k hk=>(by
   obtain ⟨s',hp,_⟩:=htok k hk;exact (n_1.1 hp).1)
 | ptr hk=>exact .ptr (n_1.1 hk).1
 | cptr _ _ _ _ ih=>exact .cptr ih
 | eptr hk=>exact .eptr (n_1.1 hk).1
 | vec hk=>exact .vec (n_1.1 hk).1
 | map hk=>exact .map (n_1.1 hk).1
structure Cut (n:Nat) (M M':Plan):Prop where
 pl:M'.pl=M.pl.take n
 full:∀ b,M.full b->M'.full b
 cell:∀ b o,M.cell b o->M'.at b o
theorem Cut.at (h:Cut n M M') {o:Nat} (ha:M.at b o):M'.at b o:=by
 rcases ha with ha | ha
 ·exact .inl (h.full _ ha)
 ·exact h.cell _ _ ha
theorem Cut.get (h:Cut n M M') (hk:k < n) (hp:M.pl[k]? = some p):M'.pl[k]? = some p:=by
 rw [h.pl,n_31,if_pos hk]; exact hp
theorem RV.cut (hc:Cut n M M') (h:RV M w c v) (ho:Old n c):RV M' w c v:=by
 induction h with
 | val v=>exact .val v
 | agg h1 h2 _ ih=>cases ho with | agg ho=>exact .agg h1 h2 fun i c hi=>ih i c hi (ho i c hi)
 | tup h1 _ ih=>cases ho with | tup ho=>exact .tup h1 fun i c hi=>ih i c hi (ho i c hi)
 | clo h1 _ ih=>cases ho with | clo ho=>exact .clo h1 fun i c hi=>ih i c hi (ho i c hi)
 | list vals h1 h2 h3 h4 h5 h6 h7 h8 _ h10 ih =>
  cases ho with
  | list ho ht =>
   exact .list vals h1 h2 h3 h4 h5 h6 h7 (fun i j r c hi hj=>⟨hc.at (h8 i j r c hi hj).1,(h8 i j r c hi hj).2⟩) (fun i j r c hi hj=>ih i j r c hi hj (ho i j r c hi hj)) fun k hk=>by
    obtain ⟨s',hp,hrest⟩:=h10 k hk;exact ⟨s',hc.get (ht k hk) hp,hrest⟩
 | ptr hk=>cases ho with | ptr ho=>exact .ptr (hc.get ho hk)
 | cptr vals h1 h2 _ ih=>cases ho with | cptr ho=>exact .cptr vals h1 (fun j c hj=>⟨hc.at (h2 j c hj).1,(h2 j c hj).2⟩) fun j c hj=>ih j c hj (ho j c hj)
 | eptr hk=>cases ho with | eptr ho=>exact .eptr (hc.get ho hk)
 | vec hk h1 h2 h3=>cases ho with | vec ho=>exact .vec (hc.get ho hk) h1 h2 h3
 | map hk=>cases ho with | map ho=>exact .map (hc.get ho hk)
inductive Cls (n:Nat) (σ:List CObj):CV->CV->Prop where
 | old {c:CV}:Old n c->Cls n σ c c
 | agg {cs cs':List CV}:cs.length=cs'.length->(∀ (i:Nat) (c c':CV),cs[i]? = some c->cs'[i]? = some c'->Cls n σ c c')->Cls n σ (.agg cs) (.agg cs')
 | tup {cs cs':List CV}:cs.length=cs'.length->(∀ (i:Nat) (c c':CV),cs[i]? = some c->cs'[i]? = some c'->Cls n σ c c')->Cls n σ (.tup cs) (.tup cs')
 | clo {f:FuncId} {cs cs':List CV}:cs.length=cs'.length->(∀ (i:Nat) (c c':CV),cs[i]? = some c->cs'[i]? = some c'->Cls n σ c c')->Cls n σ (.clo f cs) (.clo f cs')
 | list {rows rows':List (List CV)} {nn:Bool} {tok:Option Nat}:rows.length=rows'.length->(∀ (i:Nat) (r r':List CV),rows[i]? = some r->rows'[i]? = some r'->r.length=r'.length) ->
  (∀ (i j:Nat) (r r':List CV) (c c':CV),rows[i]? = some r->rows'[i]? = some r'->r[j]? = some c->r'[j]? = some c'->Cls n σ c c')->Cls n σ (.list rows nn tok) (.list rows' nn none)
 | vec {k off len s:Nat} {rows rows':List (List CV)}:n<=k->σ[k]? = some (.vec s rows)->off+len<=rows.length->((rows.drop off).take len).length=rows'.length->(∀ (i:Nat) (r r':List CV),((rows.drop off).take len)[i]? = some r->rows'[i]? = some r'->r.length=r'.length) ->
  (∀ (i j:Nat) (r r':List CV) (c c':CV),((rows.drop off).take len)[i]? = some r->rows'[i]? = some r'->r[j]? = some c->r'[j]? = some c'->Cls n σ c c')->Cls n σ (.vec k off len) (.list rows' true none)
theorem Cls.one (h:Cls n σ c c') (ho:c.one=true):c'.one=true:=by
 cases h <;> first|exact ho|rfl|(simp [CV.one] at ho)
theorem get_pair {β:Type} {l:List α} {l':List β} (h:l.length=l'.length) {x:β} (hx:l'[i]? = some x):∃ y,l[i]? = some y:=by
 have:=(n_1.1 hx).1;exact ⟨l[i],by simp [h,this]⟩
theorem RV.close (hr:Rel C M σ w) (hc:Cut n M M') (hfull:∀ (k:Nat) (p:Pl) (s:Nat) (rows:List (List CV)),n<=k->M.pl[k]? = some p->σ[k]? = some (.vec s rows)->M'.full p.block) (h:Cls n σ c c') (hv:RV M w c v):RV M' w c' v:=by
 induction h generalizing v with
 | old ho=>exact hv.cut hc ho
 | agg hl hcls ih =>
  cases hv with
  | agg h1 h2 h3 =>
   refine .agg om_ (fun c hcm=>?_) (fun i c' hi=>?_)
   ·obtain ⟨i,hi⟩:=n_11.1 hcm;obtain ⟨y,hy⟩:=get_pair hl hi;exact (hcls i y c hy hi).one (h2 y (n_0 hy))
   ·obtain ⟨y,hy⟩:=get_pair hl hi;exact ih i y c' hy hi (h3 i y hy)
 | tup hl _ ih =>
  cases hv with
  | tup h1 h3 =>
   refine .tup om_ (fun i c' hi=>?_);obtain ⟨y,hy⟩:=get_pair hl hi;exact ih i y c' hy hi (h3 i y hy)
 | clo hl _ ih =>
  cases hv with
  | clo h1 h3 =>
   refine .clo om_ (fun i c' hi=>?_);obtain ⟨y,hy⟩:=get_pair hl hi;exact ih i y c' hy hi (h3 i y hy)
 | list hl hlr hcls ih =>
  obtain ⟨a,cap,b,off,s,vals,rfl,h1,h2,h3,h4,h5,h6,h7,h8,h9,_⟩:=hv.list_inv;rename_i rows rows' nn tok;refine RV.list' hl (b:=b) (off:=off) (s:=s) vals om_ h2 h3 h4 (fun hne=>h5 fun e=>hne (n_87 (by rw [<- hl,e]; rfl))) (fun r' hr'=>?_) (fun r' hr' c' hc'=>?_) (fun i j r' c' hi hj=>?_) (fun i j r' c' hi hj=>?_) (fun k hk=>by cases hk)
  ·obtain ⟨i,hi⟩:=n_11.1 hr';obtain ⟨r,hr0⟩:=get_pair hl hi;rw [<- hlr i r r' hr0 hi];exact h6 r (n_0 hr0)
  ·obtain ⟨i,hi⟩:=n_11.1 hr';obtain ⟨r,hr0⟩:=get_pair hl hi;obtain ⟨j,hj⟩:=n_11.1 hc';obtain ⟨c,hc0⟩:=get_pair (hlr i r r' hr0 hi) hj;exact (hcls i j r r' c c' hr0 hi hc0 hj).one (h7 r (n_0 hr0) c (n_0 hc0))
  ·obtain ⟨r,hr0⟩:=get_pair hl hi;obtain ⟨c,hc0⟩:=get_pair (hlr i r r' hr0 hi) hj;exact ⟨hc.at (h8 i j r c hr0 hc0).1,(h8 i j r c hr0 hc0).2⟩
  ·obtain ⟨r,hr0⟩:=get_pair hl hi;obtain ⟨c,hc0⟩:=get_pair (hlr i r r' hr0 hi) hj;exact ih i j r r' c c' hr0 hi hc0 hj (h9 i j r c hr0 hc0)
 | vec hk hσ hle hl hlr hcls ih =>
  cases hv with
  | vec hp g1 g2 g3 =>
   rename_i k off len s rows rows' p a;have hfp:=hfull k p s rows hk hp hσ;obtain ⟨⟨hps,q1,q2,q3,q4,arr,ty,q5,q6,q7⟩,_⟩:=hr.obj k p _ hp hσ;have hlen:((rows.drop off).take len).length=len:=by simp; omega
   have hget:∀ i r,((rows.drop off).take len)[i]? = some r->i < len/\rows[off+i]? = some r:=fun i r hi=>by
    rw [n_31] at hi;split at hi
    ·rw [n_49] at hi; exact ⟨‹_›,hi⟩
    ·cases hi
   have hoff:rows'≠[]->off < p.cap:=fun hne=>by
    have:0 < rows'.length:=n_69.2 hne;omega
   refine RV.list' (L:=len) om_ (b:=p.block) (off:=off*p.size) (s:=p.size) (fun i j=>arr.getD ((off+i)*p.size+j) undef) om_ om_ rfl (fun h=>by cases h) (fun hne=>by rw [g3 (hoff hne)]) (fun r' hr'=>?_) (fun r' hr' c' hc'=>?_) (fun i j r' c' hi hj=>?_) (fun i j r' c' hi hj=>?_) (fun k hk=>by cases hk)
   ·obtain ⟨i,hi⟩:=n_11.1 hr';obtain ⟨r,hr0⟩:=get_pair hl hi;rw [<- hlr i r r' hr0 hi];exact q3 r (n_0 (hget i r hr0).2)
   ·obtain ⟨i,hi⟩:=n_11.1 hr';obtain ⟨r,hr0⟩:=get_pair hl hi;obtain ⟨j,hj⟩:=n_11.1 hc';obtain ⟨c,hc0⟩:=get_pair (hlr i r r' hr0 hi) hj;exact (hcls i j r r' c c' hr0 hi hc0 hj).one (q4 r (n_0 (hget i r hr0).2) c (n_0 hc0))
   ·obtain ⟨r,hr0⟩:=get_pair hl hi;obtain ⟨c,hc0⟩:=get_pair (hlr i r r' hr0 hi) hj;obtain ⟨hil,hri⟩:=hget i r hr0;have hjl:j < p.size:=by have:=(n_1.1 hc0).1; rwa [q3 r (n_0 hri)] at this
    have hq:(off+i)*p.size+j < arr.size:=by
     rw [q6];have:(off+i+1)*p.size<=p.cap*p.size:=n_19 _ om_;rw [n_20 (off+i)] at this; omega
    refine ⟨.inl hfp,?_⟩;rw [show off*p.size+i*p.size+j=(off+i)*p.size+j from by rw [n_20 off]];simp [World.cell?,q5,hq]
   ·obtain ⟨r,hr0⟩:=get_pair hl hi;obtain ⟨c,hc0⟩:=get_pair (hlr i r r' hr0 hi) hj;exact ih i j r r' c c' hr0 hi hc0 hj (q7 _ _ _ _ (hget i r hr0).2 hc0)
def Plan.cutAt (M:Plan) (n:Nat) (σ:List CObj):Plan :=
 { pl:=M.pl.take n,full:=fun b=>M.full b\/∃ k p ob,n<=k/\M.pl[k]? = some p/\σ[k]? = some ob/\ob.live=true/\p.block=b,cell:=M.cell,keep:=M.keep}
theorem Rel.cut {extra:List CObj} (h0:Rel C M0 σ w0) (hx:Ext M0 w0 M w) (hr:Rel C M (σ++extra) w) :
 Rel C (M.cutAt σ.length (σ++extra)) σ w/\Cut σ.length M (M.cutAt σ.length (σ++extra))/\Ext M0 w0 (M.cutAt σ.length (σ++extra)) w:=by
 have hcut:Cut σ.length M (M.cutAt σ.length (σ++extra)):=⟨rfl,fun _ h=>.inl h,fun _ _ h=>.inr h⟩;obtain ⟨l,hl⟩:=hx.pl;have hpl:(M.cutAt σ.length (σ++extra)).pl=M0.pl:=by
  show M.pl.take σ.length=M0.pl;rw [hl,<- h0.len,List.take_left]
 have hx':Ext M0 w0 (M.cutAt σ.length (σ++extra)) w:=⟨⟨[],by rw [hpl]; simp⟩,fun b h=>.inl (hx.full b h),fun b o h=>hcut.at (hx.cell b o h),hx.same,hx.sameC,hx.size,hx.drew,hx.os,hx.tape,hx.output,fun b hb=>(by
  obtain ⟨k1,k2,k3,k4⟩:=hx.kept b hb;refine ⟨k1,k2,fun f=>?_,k4⟩
  rcases f with f | ⟨k,p,ob,_,hp,hs,hlv,rfl⟩
  ·exact k3 f
  ·exact absurd k1 (hr.nk k p ob hp hs hlv))⟩
 have hget:∀ {k:Nat} {p:Pl},(M.cutAt σ.length (σ++extra)).pl[k]? = some p->k < σ.length/\M.pl[k]? = some p/\M0.pl[k]? = some p:=by
  intro k p hk;have h1:M0.pl[k]? = some p:=by rw [<- hpl]; exact hk
  have hlt:k < σ.length:=by rw [<- h0.len]; exact (n_1.1 h1).1
  exact ⟨hlt,hx.get h1,h1⟩
 have hσ:∀ {k:Nat} {ob:CObj},σ[k]? = some ob->(σ++extra)[k]? = some ob:=by
  intro k ob h;rw [n_15 (n_1.1 h).1]; exact h
 refine ⟨⟨by rw [hpl,h0.len],fun b o ha=>?_,fun k p ob hk hs=>?_,fun k k' p p' ob ob' hk hk' hs hs' hl1 hl2 hb=>hr.inj k k' p p' ob ob' (hget hk).2.1 (hget hk').2.1 (hσ hs) (hσ hs') hl1 hl2 hb,fun g cells hg=>(h0.glob g cells hg).mono hx',hr.kep,fun k p ob hk hs hlv=>hr.nk k p ob (hget hk).2.1 (hσ hs) hlv⟩,hcut,hx'⟩
 ·rcases ha with (ha | ⟨k,p,ob,_,hp,hs,hl,rfl⟩) | ha
  ·exact hr.blk b o (.inl ha)
  ·exact (hr.obj k p ob hp hs).1.lt hl
  ·exact hr.blk b o (.inr ha)
 ·obtain ⟨hlt,hp,hp0⟩:=hget hk;obtain ⟨h1,h2⟩:=hr.obj k p ob hp (hσ hs);have hobj0:=(h0.obj k p ob hp0 hs).1;have hnf:ob.live=true->¬ M.full p.block->¬ (M.cutAt σ.length (σ++extra)).full p.block:=fun hlv hnf h=>by
   rcases h with h | ⟨k',p',ob',hk',hp',hs',hl',hb⟩
   ·exact hnf h
   ·have:=hr.inj k' k p' p ob' ob hp' hp hs' (hσ hs) hl' hlv hb;omega
  have old:∀ {c:CV} {v v':Value},RV M0 w0 c v'->RV M w c v->RV (M.cutAt σ.length (σ++extra)) w c v:=fun h h'=>h'.cut hcut (by rw [<- h0.len]; exact h.old);refine ⟨?_,?_⟩
  ·cases ob with
   | dead=>trivial
   | boxT t0 cells =>
    obtain ⟨arr,ty,e1,e2,e3,e4⟩:=h1;obtain ⟨arr0,ty0,f1,f2,f3,f4⟩:=hobj0;exact ⟨arr,ty,e1,e2,e3,fun i c hi=>old (f4 i c hi) (e4 i c hi)⟩
   | tipT t0 m=>exact h1
   | vec s rows =>
    obtain ⟨e0,e1,e2,e3,e4,arr,ty,e5,e6,e7⟩:=h1;obtain ⟨f0,f1,f2,f3,f4,arr0,ty0,f5,f6,f7⟩:=hobj0;exact ⟨e0,e1,e2,e3,e4,arr,ty,e5,e6,fun i j r c hi hj=>old (f7 i j r c hi hj) (e7 i j r c hi hj)⟩
   | map es =>
    obtain ⟨ents,clock,e1,e2,e3⟩:=h1;obtain ⟨ents0,clock0,f1,f2,f3⟩:=hobj0;refine ⟨ents,clock,e1,e2,fun i x hi=>?_⟩;obtain ⟨e,g1,g2,g3,g4⟩:=e3 i x hi;obtain ⟨e',g1',g2',g3',g4'⟩:=f3 i x hi;exact ⟨e,g1,old g2' g2,old g3' g3,g4⟩
   | iter cur left =>
    obtain ⟨mb,seen,last,ents,clock,e1,e2,e3,e4,e5,e6,e7,e8,e9⟩:=h1;obtain ⟨mb0,seen0,last0,ents0,clock0,f1,f2,f3,f4,f5,f6,f7,f8,f9⟩:=hobj0;refine ⟨mb,seen,last,ents,clock,e1,hcut.full _ e2,e3,e4,e5,e6,e7,fun i x hi=>?_,fun i x hi=>?_⟩
    ·obtain ⟨e,g1,g2,g3⟩:=e8 i x hi;obtain ⟨e',g1',g2',g3'⟩:=f8 i x hi;exact ⟨e,g1,old g2' g2,old g3' g3⟩
    ·obtain ⟨hl,j,e,g0,g1,g2,g3⟩:=e9 i x hi;obtain ⟨_,j',e',_,_,g2',g3'⟩:=f9 i x hi;exact ⟨hl,j,e,g0,g1,old g2' g2,old g3' g3⟩
  ·cases ob with
   | dead=>trivial
   | tipT t0 m=>exact hnf rfl h2
   | _=>exact ⟨hnf rfl h2.1,h2.2⟩
theorem ccalls_close {K:CV->Prop} (h:CCalls C f args σ fun r σ'=>∃ extra c c',σ'=σ++extra/\r = .ret c/\Cls σ.length σ' c c'/\K c'):CCalls C f args σ fun r σ'=>(∃ c,r = .ret c/\K c)/\σ'=σ :=
 fun M w vs hr hn hx=>(h M w vs hr hn hx).mono fun e w' he=>by
  cases e with
  | returned v =>
   obtain ⟨c,σ',M',h1,h2,h3,extra,c0,c',rfl,h5,h6,h7⟩:=he;injection h5 with h5
   subst h5;obtain ⟨g1,g2,g3⟩:=hr.cut h1 h2;exact ⟨c',σ,_,g3,g1,RV.close h2 g2 (fun k p s rows hk hp hs=>.inr ⟨k,p,_,hk,hp,hs,rfl,rfl⟩) h6 h3,⟨c',rfl,h7⟩,rfl⟩
  | panicked ch =>
   obtain ⟨c,v,σ',M',h0,h1,h2,h3,extra,c0,c',h4,h5,_⟩:=he;cases h5
  | outgrown=>exact he
theorem ccalls_val {c0:CV} (h:CCalls C f args σ fun r σ'=>∃ extra c,σ'=σ++extra/\r = .ret c/\Cls σ.length σ' c c0):CCalls C f args σ fun r σ'=>r = .ret c0/\σ'=σ :=
 (ccalls_close (K:=fun c=>c=c0) (h.mono fun _ _ ⟨extra,c,h1,h2,h3⟩=>⟨extra,c,c0,h1,h2,h3,rfl⟩)).mono fun _ _ ⟨⟨_,h1,h2⟩,h3⟩=>⟨h2 ▸ h1,h3⟩
inductive Pure:CV->Prop where
 | val (v:Value):Pure (.val v)
 | agg {cs:List CV}:(∀ c∈cs,Pure c)->Pure (.agg cs)
 | tup {cs:List CV}:(∀ c∈cs,Pure c)->Pure (.tup cs)
 | clo {f:FuncId} {cs:List CV}:(∀ c∈cs,Pure c)->Pure (.clo f cs)
 | list {rows:List (List CV)} {nn:Bool}:(∀ r∈rows,∀ c∈r,Pure c)->Pure (.list rows nn none)
theorem Pure.old (h:Pure c):Old n c:=by
 induction h with
 | val v=>exact .val v
 | agg _ ih=>exact .agg fun i c hi=>ih c (n_0 hi)
 | tup _ ih=>exact .tup fun i c hi=>ih c (n_0 hi)
 | clo _ ih=>exact .clo fun i c hi=>ih c (n_0 hi)
 | list _ ih=>exact .list (fun i j r c hi hj=>ih r (n_0 hi) c (n_0 hj)) (fun k hk=>by cases hk)
theorem Cls.pure (h:Pure c):Cls n σ c c:=.old h.old
theorem Cls.tok {n:Nat} {σ:List CObj} {rows:List (List CV)} {nn:Bool} {tok:Option Nat} (h:∀ r∈rows,∀ c∈r,Pure c):Cls n σ (.list rows nn tok) (.list rows nn none) :=
 .list rfl (fun i r r' h1 h2=>by rw [h1] at h2; injection h2 with h2; rw [h2]) fun i j r r' c c' h1 h2 h3 h4=>by
  rw [h1] at h2;injection h2 with h2
  subst h2;rw [h3] at h4;injection h4 with h4
  subst h4;exact .pure (h r (n_0 h1) c (n_0 h3))
variable {tok:Option Nat}
theorem Cls.vecs {len:Nat} {rows':List (List CV)} (hk:n<=k) (hσ:σ[k]? = some (.vec s rows)) (hl:off+len<=rows.length) (he:(rows.drop off).take len=rows') (h:∀ r∈rows',∀ c∈r,Pure c):Cls n σ (.vec k off len) (.list rows' true none):=by
 subst he;exact .vec hk hσ hl rfl (fun i r r' h1 h2=>by rw [h1] at h2; injection h2 with h2; rw [h2]) fun i j r r' c c' h1 h2 h3 h4=>by
  rw [h1] at h2;injection h2 with h2
  subst h2;rw [h3] at h4;injection h4 with h4
  subst h4;exact .pure (h r (n_0 h1) c (n_0 h3))
def ClsAll (n:Nat) (σ:List CObj):List CV->List CV->Prop
 | [],[]=>True
 | c::cs,c'::cs'=>Cls n σ c c'/\ClsAll n σ cs cs'
 | _,_=>False
theorem ClsAll.get:∀ {cs cs':List CV},ClsAll n σ cs cs'->cs.length=cs'.length/\∀ (i:Nat) (c c':CV),cs[i]? = some c->cs'[i]? = some c'->Cls n σ c c'
 | [],[],_=>⟨rfl,si_⟩
 | c::cs,c'::cs',⟨h1,h2⟩=>by
  obtain ⟨h3,h4⟩:=ClsAll.get h2;refine ⟨by simp [h3],fun i x x' hx hx'=>?_⟩
  rcases i with _ | i
  ·simp at hx hx'; subst hx hx'; exact h1
  ·exact h4 i x x' (by simpa using hx) (by simpa using hx')
theorem Cls.aggs {cs':List CV} (h:ClsAll n σ cs cs'):Cls n σ (.agg cs) (.agg cs'):=.agg h.get.1 h.get.2
theorem Cls.tups {cs':List CV} (h:ClsAll n σ cs cs'):Cls n σ (.tup cs) (.tup cs'):=.tup h.get.1 h.get.2
section
def plain (l:List Value):CV:=.agg (l.map .val)
theorem rv_plain {l:List Value} {u:Value} (h:RV M w (plain l) u):u = .agg l.toArray:=by
 cases h with
 | agg h1 h2 h3 =>
  rename_i vs
  congr 1
  apply n_78;intro i
  rcases n_23 i l.length with hi | hi
  ·have hl:(l.map CV.val)[i]? = some (.val l[i]):=by simp [hi]
   have:=rv_val (h3 i _ hl);have hv:i < vs.size:=by rw [h1]; simpa using hi
   simp only [n_21,n_24 hv,n_44] at this;rw [n_24 hv,this];simp [hi]
  ·have hv:vs.size<=i:=by rw [h1]; simpa using hi
   rw [n_43 hv];simp [hi]
theorem y_eqs {t':TypeId} {xs ys:List Value} {r:Bool} (ho:o.op = .binOp .eql t x y t') (hx:E.valid x) (hy:E.valid y) (ex:E.val C x=plain xs) (ey:E.val C y=plain ys)
 (hg:C.P.eqGuardType C.P.depth t=false) (he:∀ w,(Op.equal t (.agg xs.toArray) (.agg ys.toArray)).run C.P w = .ok r w):Yields C σ E o (.val (.bool r)) :=
 yields_same fun M w ρ _ h=>by
  have h1:=h x q_265 hx;have h2:=h y q_265 hy;rw [ex] at h1;rw [ey] at h2;exact ⟨.bool r,by simp [execOp,ho,rv_plain h1,rv_plain h2,eqGuard,hg,binOp,he],.val _⟩
theorem y_nes {t':TypeId} {xs ys:List Value} {r:Bool} (ho:o.op = .binOp .neq t x y t') (hx:E.valid x) (hy:E.valid y) (ex:E.val C x=plain xs) (ey:E.val C y=plain ys)
 (hg:C.P.eqGuardType C.P.depth t=false) (he:∀ w,(Op.equal t (.agg xs.toArray) (.agg ys.toArray)).run C.P w = .ok r w):Yields C σ E o (.val (.bool (!r))) :=
 yields_same fun M w ρ _ h=>by
  have h1:=h x q_265 hx;have h2:=h y q_265 hy;rw [ex] at h1;rw [ey] at h2;exact ⟨.bool (!r),by simp [execOp,ho,rv_plain h1,rv_plain h2,eqGuard,hg,binOp,he],.val _⟩
theorem run_getObj_map {r:Nat} {ents:Array MapEntry} (h:w.heap[r]? = some (.map ents clock)):(getObj r).run P w = .ok (.map ents clock) w:=by
 simp [getObj,Sem.run,h]
theorem d_makeMap (ho:o.op = .makeMap t none) (hk:K (.ret (.map σ.length)) (σ++[.map []])):Does C σ E o K:=fun M w ρ hr _=>by
 have hrun:(execOp ρ o).run C.P w = .ok (.value (.map (some w.heap.size))) (w.alloc (.map #[] 0)):=by
  simp [execOp,ho,Instr.makeMap]
 rw [hrun];have hx:=Ext.alloc hr ⟨w.heap.size,0,0⟩ (.map #[] 0);exact ⟨.map σ.length,_,_,hx,hr.alloc ⟨w.heap.size,0,0⟩ _ (.map []) rfl ⟨#[],0,heap_alloc_new _ _,⟨rfl,fun i j e e' h=>by simp at h⟩,si_⟩,RV.map (p:=⟨w.heap.size,0,0⟩) q_258,hk⟩
theorem Rel.setObj (hr:Rel C M σ w) {q:Nat} {es es':List (CV × CV)} {ents':Array MapEntry} {clock':Nat} (hp:M.pl[q]? = some p) (hσ:σ[q]? = some (.map es)) (hsz:ents'.size=es'.length) (hag:Ages ents') (h:∀ (i:Nat) (x:CV × CV),es'[i]? = some x->∃ e,ents'[i]? = some e/\RV M w x.1 e.key/\RV M w x.2 e.val/\e.born < clock') :
 Ext M w M (World.putObj w p.block (.map ents' clock'))/\Rel C M (σ.set q (.map es')) (World.putObj w p.block (.map ents' clock')):=by
 obtain ⟨h1,hf,hc⟩:=hr.obj q p _ hp hσ;have hlt:=h1.lt rfl;have hx:=Ext.putObj (w:=w) (.map ents' clock') (hr.nk q p _ hp hσ rfl) hf hc;refine ⟨hx,hr.putObj hp hσ rfl hf hc _ ⟨ents',clock',World.putObj_same w _ hlt,⟨hsz,hag⟩,fun i x hi=>?_⟩⟩;obtain ⟨e,g1,g2,g3,g4⟩:=h i x hi;exact ⟨e,g1,g2.mono hx,g3.mono hx,g4⟩
theorem Ages.push {ents:Array MapEntry} (h:Ages ents) (hb:∀ (i:Nat) (e:MapEntry),ents[i]? = some e->e.born < clock) {e0:MapEntry} (h0:e0.born=clock):Ages (ents.push e0):=fun i j e e' hi hj he=>by
 rw [n_114] at hi hj;split at hi <;> split at hj
 ·omega
 ·injection hi with hi
  have:=hb j e' hj;rw [<- hi,h0] at he;omega
 ·injection hj with hj
  have:=hb i e hi;rw [<- hj,h0] at he;omega
 ·exact h i j e e' hi hj he
theorem Ages.modify {ents:Array MapEntry} (h:Ages ents) {f:MapEntry->MapEntry} (hf:∀ e,(f e).born=e.born):Ages (ents.modify k f):=fun i j e e' hi hj he=>by
 have key:∀ {i:Nat} {e:MapEntry},(ents.modify k f)[i]? = some e->∃ e1,ents[i]? = some e1/\e1.born=e.born:=fun {i e} hi=>by
  rw [n_85] at hi;split at hi
  ·obtain ⟨e1,h1,rfl⟩:=n_26.1 hi;exact ⟨e1,h1,(hf e1).symm⟩
  ·exact ⟨e,hi,rfl⟩
 obtain ⟨e1,h1,b1⟩:=key hi;obtain ⟨e2,h2,b2⟩:=key hj;exact h i j e1 e2 h1 h2 (by rw [b1,b2]; exact he)
theorem run_setObj_map {r:Nat} {ents:Array MapEntry} (o':Obj) (h:w.heap[r]? = some (.map ents clock)):(setObj r o').run P w = .ok () (World.putObj w r o'):=by
 simp [setObj,Sem.run,h,World.putObj]
end
theorem RV.pure (h:∀ b o,M.at b o->M'.at b o/\w'.cell? ⟨b,o,none⟩=w.cell? ⟨b,o,none⟩) (hr:RV M w c v) (hp:Pure c):RV M' w' c v:=by
 induction hr with
 | val v=>exact .val v
 | agg h1 h2 _ ih=>cases hp with | agg hp=>exact .agg h1 h2 fun i c hi=>ih i c hi (hp c (n_0 hi))
 | tup h1 _ ih=>cases hp with | tup hp=>exact .tup h1 fun i c hi=>ih i c hi (hp c (n_0 hi))
 | clo h1 _ ih=>cases hp with | clo hp=>exact .clo h1 fun i c hi=>ih i c hi (hp c (n_0 hi))
 | list vals h1 h2 h3 h4 h5 h6 h7 h8 _ h10 ih =>
  cases hp with
  | list hp=>exact .list vals h1 h2 h3 h4 h5 h6 h7 (fun i j r c hi hj=>⟨(h _ _ (h8 i j r c hi hj).1).1,(h _ _ (h8 i j r c hi hj).1).2.trans (h8 i j r c hi hj).2⟩) (fun i j r c hi hj=>ih i j r c hi hj (hp r (n_0 hi) c (n_0 hj))) fun k hk=>by cases hk
 | ptr _=>cases hp
 | cptr _ _ _ _ _=>cases hp
 | eptr _=>cases hp
 | vec _ _ _ _=>cases hp
 | map _=>cases hp
theorem ccalls_frame' {K:CV->Prop} (hargs:∀ a∈args,Pure a) (hc:∀ c,K c->Pure c) (hglob:∀ g cells,C.glob g=some cells->∀ c∈cells,Pure c) (h:CCalls C f args [] fun r σ'=>(∃ c,r = .ret c/\K c)/\σ'=[]) (σ:List CObj):CCalls C f args σ fun r σ'=>(∃ c,r = .ret c/\K c)/\σ'=σ :=
 fun M w vs hr hn hx=>by
  let LB:Nat->Prop:=fun b=>∃ (k:Nat) (p:Pl) (ob:CObj),M.pl[k]? = some p/\σ[k]? = some ob/\ob.live=true/\p.block=b
  let M0:Plan:={ pl:=[],full:=M.full,cell:=M.cell,keep:=fun b=>M.keep b\/LB b}
  have hat:∀ b o,M.at b o->M0.at b o/\w.cell? ⟨b,o,none⟩=w.cell? ⟨b,o,none⟩:=fun b o h=>⟨h,rfl⟩;have hLB:∀ b,LB b->b < w.heap.size:=fun b ⟨k,p,ob,hp,hs,hl,hb⟩=>hb ▸ (hr.obj k p ob hp hs).1.lt hl;have hr0:Rel C M0 [] w:=⟨rfl,hr.blk,fun k p ob hp=>by simp [M0] at hp,fun k k' p p' ob ob' hp=>by simp [M0] at hp,fun g cells hg=>⟨by
   have:=(hr.glob g cells hg).rv;cases this with
   | cptr vals h1 h2 h3=>exact .cptr vals h1 h2 fun j c hj=>(h3 j c hj).pure hat (hglob g cells hg c (n_0 hj)),(hr.glob g cells hg).full,(hr.glob g cells hg).sz⟩,
   fun b hb=>(by
    rcases hb with hb | hb
    ·exact hr.kep b hb
    ·exact hLB b hb),fun k p ob hp=>by simp [M0] at hp⟩
  refine (h M0 w vs hr0 hn fun i a hi=>(hx i a hi).pure hat (hargs a (n_0 hi))).mono fun e w' he=>?_;cases e with
  | panicked ch =>
   obtain ⟨c',v,σ',M',_,_,_,_,⟨⟨c0,h5,_⟩,_⟩⟩:=he;cases h5
  | outgrown=>exact he
  | returned v =>
   obtain ⟨c',σ',M',h1,h2,h3,⟨⟨c0,h4,hK⟩,rfl⟩⟩:=he;injection h4 with h4
   subst h4
   let M2:Plan:={ pl:=M.pl,full:=M'.full,cell:=M'.cell,keep:=M.keep}
   have hx2:Ext M w M2 w':=⟨⟨[],by simp [M2]⟩,h1.full,h1.cell,h1.same,h1.sameC,h1.size,h1.drew,h1.os,h1.tape,h1.output,fun b hb=>by
    obtain ⟨k1,k2,k3,k4⟩:=h1.kept b (.inl hb);exact ⟨hb,k2,k3,k4⟩⟩
   refine ⟨c',σ,M2,hx2,⟨hr.len,h2.blk,fun k p ob hp hs=>?_,hr.inj,fun g cells hg=>(hr.glob g cells hg).mono hx2,fun b hb=>n_54 (hr.kep b hb) h1.size,hr.nk⟩,h3.pure (M:=M') (M':=M2) (w':=w') (fun b o h=>⟨h,rfl⟩) (hc _ hK),⟨c',rfl,hK⟩,rfl⟩;by_cases hl:ob.live=true
   ·obtain ⟨k1,k2,k3,k4⟩:=h1.kept p.block (.inr ⟨k,p,ob,hp,hs,hl,rfl⟩);obtain ⟨g1,g2⟩:=hr.obj k p ob hp hs;refine ⟨g1.mono hx2 k2 (fun _ _ _ o ho=>k4 o ho),?_⟩;cases ob with
    | dead=>trivial
    | tipT t0 n=>exact fun hf=>g2 (k3 hf)
    | _=>exact ⟨fun hf=>g2.1 (k3 hf),fun o ho=>g2.2 o (k4 o ho)⟩
   ·cases ob <;> first|exact ⟨tt,tt⟩ | simp [CObj.live] at hl
theorem ccalls_frame (hargs:∀ a∈args,Pure a) (hc:Pure c) (hglob:∀ g cells,C.glob g=some cells->∀ c∈cells,Pure c) (h:CCalls C f args [] fun r σ'=>r = .ret c/\σ'=[]) (σ:List CObj):CCalls C f args σ fun r σ'=>r = .ret c/\σ'=σ :=
 (ccalls_frame' (K:=fun c'=>c'=c) hargs (fun _ h=>h ▸ hc) hglob (h.mono fun _ _ ⟨h1,h2⟩=>⟨⟨c,h1,rfl⟩,h2⟩) σ).mono fun _ _ ⟨⟨_,h1,h2⟩,h3⟩=>⟨h2 ▸ h1,h3⟩
section
def oneB:CV->Bool
 | .agg _=>true
 | c=>c.one
theorem oneB_or (h:oneB c=true):c.one=true\/∃ cs,c = .agg cs:=by
 cases c <;> first|exact .inl h|exact .inr ⟨_,rfl⟩|(simp [oneB,CV.one] at h)
def onesB (ps:List (Nat × CV)):Bool:=ps.all fun x=>oneB x.2
theorem onesB_all (h:onesB ps=true):∀ x∈ps,x.2.one=true\/∃ cs,x.2 = .agg cs:=fun x hx=>oneB_or (n_22.1 h x hx)
def pvals (C:Ctx) (E:Env):List (Nat × Operand)->List (Nat × CV)
 | []=>[]
 | (i,x)::l=>(i,E.val C x)::pvals C E l
theorem pvals_map:∀ (l:List (Nat × Operand)),l.map (fun x=>(x.1,E.val C x.2))=pvals C E l
 | []=>rfl
 | (i,x)::l=>by simp [pvals,pvals_map l]
def pvalids (E:Env):List (Nat × Operand)->Prop
 | []=>True
 | (_,x)::l=>E.valid x/\pvalids E l
theorem pvalids_mem {E:Env}:∀ {l:List (Nat × Operand)},pvalids E l->∀ x∈l,E.valid x.2
 | [],_,x,h=>by simp at h
 | (i,y)::l,⟨h1,h2⟩,x,h=>by
  rcases n_13.1 h with rfl | h
  ·exact h1
  ·exact pvalids_mem h2 x h
theorem y_build' {fs:Array Field} (pls:Array (Nat × Nat)) {out:List CV} (ho:o.op = .build t parts) (hv:pvalids E parts.toList)
 (hu:∀ w,(underlying t).run C.P w = .ok (.struct fs) w) (hz:∀ w,(zeroValue t).run C.P w = .ok z w) (hz1:constOk z=true) (hz2:∃ cs,cvOf z = .agg cs)
 (hpl:∀ w,(fs.mapM fun (f:Field)=>do pure (f.offset,<- sizeOf f.type)).run C.P w = .ok pls w)
 (hone:onesB (pvals C E parts.toList)=true) (hout:cfill pls (cvOf z).cells (pvals C E parts.toList)=some out):Yields C σ E o (.agg out) :=
 y_build ho (pvalids_mem hv) hu hz hz1 hz2 hpl (pvals_map _) (onesB_all hone) hout
theorem y_lit {len:Nat} (rows:List (List CV)) (ho:o.op = .buildSlice t len parts) (hv:pvalids E parts.toList)
 (hu:∀ w,(underlying t).run C.P w = .ok (.slice e) w) (hs:∀ w,(sizeOf e).run C.P w = .ok s w) (hz:∀ w,(zeroValue e).run C.P w = .ok z w) (hz1:constOk z=true) (hz2:oneB (cvOf z)=true) (hzl:(cvOf z).cells.length=s) (hs0:Nat.blt 0 s=true)
 (hlen:Nat.ble (len*s) 16777216=true) (hone:onesB (pvals C E parts.toList)=true)
 (hout:cfillW (fun i=>some (i*s,s)) ((List.range (len*s)).map fun i=>(cvOf z).cells.getD (i%s) default) (pvals C E parts.toList)=some rows.flatten) (hrl:rows.length=len) (hrs:(rows.all fun r=>Nat.beq r.length s)=true):Yields C σ E o (.list rows true none) :=
 y_buildSlice ho (by
  have:=pvalids_mem hv;have key:∀ l:List Operand,(∀ x∈l,E.valid x)->E.valids l:=by
   intro l
   induction l with
   | nil=>intro _; trivial
   | cons x l ih=>intro h; exact ⟨h x si_,ih fun y hy=>h y (by simp [hy])⟩
  exact key _ fun x hx=>by
   obtain ⟨p,hp,rfl⟩:=n_9.1 hx;exact this p hp) hu hs hz hz1 (oneB_or hz2) hzl (by simpa [n_30] using hs0) (by have:=nb hlen; omega) (pvals_map _) (onesB_all hone) hout hrl (fun r hr=>n_36 (n_22.1 hrs r hr))
theorem src_list (ey:E.val C y = .list rows nn tok) (hrs:∀ r∈rows,r.length=s):∀ M w v,Rel C M σ w->RV M w (E.val C y) v->Src C M w rows s v:=fun _ _ _ _ h=>by
 rw [ey] at h;exact src_of_list h hrs
theorem rows_len {f:α->List CV} (h:∀ a,(f a).length=s) (l:List α):∀ r∈l.map f,r.length=s:=fun r hr=>by
 obtain ⟨a,_,rfl⟩:=n_9.1 hr;exact h a
theorem rows_pure {f:α->List CV} (h:∀ a,∀ c∈f a,Pure c) (l:List α):∀ r∈l.map f,∀ c∈r,Pure c:=fun r hr=>by
 obtain ⟨a,_,rfl⟩:=n_9.1 hr;exact h a
theorem rows_get {f:α->List CV} {l:List α} {a:α} (h:l[i]? = some a):(l.map f)[i]? = some (f a):=by
 rw [n_14,h]; rfl
end
def OldObj (n:Nat):CObj->Prop
 | .dead=>True
 | .boxT _ cells=>∀ c∈cells,Old n c
 | .tipT _ _=>True
 | .vec _ rows=>∀ r∈rows,∀ c∈r,Old n c
 | .map es=>∀ x∈es,Old n x.1/\Old n x.2
 | .iter cur es=>(∀ x∈cur,Old n x.1/\Old n x.2)/\∀ x∈es,Old n x.1/\Old n x.2
def OldAll (n:Nat):List CObj->Prop
 | []=>True
 | ob::l=>OldObj n ob/\OldAll n l
theorem OldAll.get:∀ {l:List CObj},OldAll n l->∀ (k:Nat) (ob:CObj),l[k]? = some ob->OldObj n ob
 | [],_,_,_,h=>by simp at h
 | o::l,⟨h1,h2⟩,k,ob,h=>by
  rcases k with _ | k
  ·simp at h; subst h; exact h1
  ·exact OldAll.get h2 k ob q_282
def Olds (n:Nat):List (Nat × CV)->Prop
 | []=>True
 | (_,c)::l=>Old n c/\Olds n l
theorem Rel.cutObj {extra:List CObj} (hr:Rel C M (σ++extra) w) (hold:OldAll σ.length σ) (hglob:∀ g cells,C.glob g=some cells->∀ c∈cells,Pure c) :
 Rel C (M.cutAt σ.length (σ++extra)) σ w/\Cut σ.length M (M.cutAt σ.length (σ++extra))/\∀ M0 w0,Ext M0 w0 M w->M0.pl.length<=σ.length->Ext M0 w0 (M.cutAt σ.length (σ++extra)) w:=by
 have hcut:Cut σ.length M (M.cutAt σ.length (σ++extra)):=⟨rfl,fun _ h=>.inl h,fun _ _ h=>.inr h⟩;have hget:∀ {k:Nat} {p:Pl},(M.cutAt σ.length (σ++extra)).pl[k]? = some p->k < σ.length/\M.pl[k]? = some p:=by
  intro k p hk;have hk:(M.pl.take σ.length)[k]? = some p:=hk;rw [n_31] at hk;split at hk
  ·exact ⟨‹_›,hk⟩
  ·cases hk
 have hσ:∀ {k:Nat} {ob:CObj},σ[k]? = some ob->(σ++extra)[k]? = some ob:=by
  intro k ob h;rw [n_15 (n_1.1 h).1]; exact h
 have hlen:σ.length<=M.pl.length:=by rw [hr.len]; simp
 refine ⟨⟨by show (M.pl.take σ.length).length=_; simp; omega,fun b o ha=>?_,fun k p ob hk hs=>?_,fun k k' p p' ob ob' hk hk' hs hs' hl1 hl2 hb=>hr.inj k k' p p' ob ob' (hget hk).2 (hget hk').2 (hσ hs) (hσ hs') hl1 hl2 hb,fun g cells hg=>?_,hr.kep,fun k p ob hk hs hlv=>hr.nk k p ob (hget hk).2 (hσ hs) hlv⟩,hcut,fun M0 w0 hx hle=>?_⟩
 ·rcases ha with (ha | ⟨k,p,ob,_,hp,hs,hl,rfl⟩) | ha
  ·exact hr.blk b o (.inl ha)
  ·exact (hr.obj k p ob hp hs).1.lt hl
  ·exact hr.blk b o (.inr ha)
 ·obtain ⟨hlt,hp⟩:=hget hk;obtain ⟨h1,h2⟩:=hr.obj k p ob hp (hσ hs);have ho:=hold.get k ob hs;have hnf:ob.live=true->¬ M.full p.block->¬ (M.cutAt σ.length (σ++extra)).full p.block:=fun hlv hnf h=>by
   rcases h with h | ⟨k',p',ob',hk',hp',hs',hl',hb⟩
   ·exact hnf h
   ·have:=hr.inj k' k p' p ob' ob hp' hp hs' (hσ hs) hl' hlv hb;omega
  refine ⟨?_,?_⟩
  ·cases ob with
   | dead=>trivial
   | boxT t0 cells =>
    obtain ⟨arr,ty,e1,e2,e3,e4⟩:=h1;exact ⟨arr,ty,e1,e2,e3,fun i c hi=>(e4 i c hi).cut hcut (ho c (n_0 hi))⟩
   | tipT t0 m=>exact h1
   | vec s rows =>
    obtain ⟨e0,e1,e2,e3,e4,arr,ty,e5,e6,e7⟩:=h1;exact ⟨e0,e1,e2,e3,e4,arr,ty,e5,e6,fun i j r c hi hj=>(e7 i j r c hi hj).cut hcut (ho r (n_0 hi) c (n_0 hj))⟩
   | map es =>
    obtain ⟨ents,clock,e1,e2,e3⟩:=h1;refine ⟨ents,clock,e1,e2,fun i x hi=>?_⟩;obtain ⟨e,g1,g2,g3,g4⟩:=e3 i x hi;have:=ho x (n_0 hi);exact ⟨e,g1,g2.cut hcut this.1,g3.cut hcut this.2,g4⟩
   | iter cur es =>
    obtain ⟨mb,seen,last,ents,clock,e1,e2,e3,e4,e5,e6,e7,e8,e9⟩:=h1;refine ⟨mb,seen,last,ents,clock,e1,hcut.full _ e2,e3,e4,e5,e6,e7,fun i x hi=>?_,fun i x hi=>?_⟩
    ·obtain ⟨e,g1,g2,g3⟩:=e8 i x hi;have:=ho.2 x (n_0 hi);exact ⟨e,g1,g2.cut hcut this.1,g3.cut hcut this.2⟩
    ·obtain ⟨hl,j,e,g0,g1,g2,g3⟩:=e9 i x hi;have:=ho.1 x (n_0 hi);exact ⟨hl,j,e,g0,g1,g2.cut hcut this.1,g3.cut hcut this.2⟩
  ·cases ob with
   | dead=>trivial
   | tipT t0 m=>exact hnf rfl h2
   | _=>exact ⟨hnf rfl h2.1,h2.2⟩
 ·have:=(hr.glob g cells hg);refine ⟨?_,hcut.full _ this.full,this.sz⟩;exact this.rv.cut hcut (.cptr fun j c hj=>(hglob g cells hg c (n_0 hj)).old)
 ·obtain ⟨l,hl⟩:=hx.pl;refine ⟨⟨l.take (σ.length - M0.pl.length),?_⟩,fun b h=>.inl (hx.full b h),fun b o h=>hcut.at (hx.cell b o h),hx.same,hx.sameC,hx.size,hx.drew,hx.os,hx.tape,hx.output,fun b hb=>?_⟩
  ·show M.pl.take σ.length=_;rw [hl,List.take_append,n_28 hle]
  ·obtain ⟨k1,k2,k3,k4⟩:=hx.kept b hb;refine ⟨k1,k2,fun f=>?_,k4⟩
   rcases f with f | ⟨k,p,ob,_,hp,hs,hlv,rfl⟩
   ·exact k3 f
   ·exact absurd k1 (hr.nk k p ob hp hs hlv)
def Env.none:Env:={ f:=fun _=>.val undef,ok:=fun _=>False,un:=fun _=>False}
def Env.only (l:List (Nat × CV)):Env:=Env.none.puts l
theorem FRel.only {a:Act} (hc:Cut k M M') (hf:FRel M w n E a):∀ {l:List (Nat × CV)},E.is l->Olds k l->FRel M' w n (Env.only l) a
 | [],_,_=>⟨hf.defers,hf.size,fun _ h=>h.elim,fun _ h=>h.elim⟩
 | (t,c)::l,⟨⟨h1,h2⟩,h⟩,⟨h3,h4⟩=>by
  have ih:=FRel.only hc hf h h4;refine ⟨hf.defers,hf.size,fun x hx=>?_,fun x hx=>?_⟩
  ·show RV M' w (((Env.only l).put (some t) c True).f x) _;have hx:((Env.only l).put (some t) c True).ok x:=hx;rw [Env.put_f];rw [Env.put_ok] at hx
   split
   ·subst x; exact (h2 ▸ hf.rv t h1:RV M w c _).cut hc h3
   ·rename_i hne;rw [if_neg hne] at hx;exact ih.rv x hx
  ·have hx:((Env.only l).put (some t) c True).un x:=hx;rw [Env.put_un] at hx;split at hx
   ·exact absurd trivial hx
   ·exact ih.un x hx
section
def Ctx.plain (C:Ctx):Prop:=∀ g cells,C.glob g=some cells->∀ c∈cells,Pure c
def Upto {α:Type} (l:α->List (Nat × CV)) (S:α->List CObj) (P:α->Prop) (E':Env) (σ':List CObj):Prop :=
 ∃ a extra,P a/\E'.is (l a)/\σ'=S a++extra
theorem CWp.upto {c:Code} (hC:C.plain) {l:α->List (Nat × CV)} {S:α->List CObj} {P:α->Prop} {σ':List CObj} (hE:Upto l S P E' σ') (hold:∀ a,P a->Olds (S a).length (l a)/\OldAll (S a).length (S a)) (k:∀ a,P a->CWp C n c Q (Env.only (l a)) (S a)) (hlen:∀ a,P a->M0.pl.length<=(S a).length) {a:Act} (hx:Ext M0 w0 M w) (hr:Rel C M σ' w) (hf:FRel M w n E' a) :
 c.wp C.P (Lift C n Q M0 w0) a w:=by
 obtain ⟨x,extra,hP,hE,rfl⟩:=hE;obtain ⟨h1,h2⟩:=hold x hP;obtain ⟨g1,g2,g3⟩:=hr.cutObj h2 hC;have hx':=g3 M0 w0 hx (hlen x hP);exact wp_mono (k x hP _ w a g1 (hf.only g2 hE h1)) fun _ _ _=>Lift.later hx'
theorem cw_loopd {c:Code} (hC:C.plain) (l:α->List (Nat × CV)) (S:α->List CObj) (I:α->Prop) (m:α->Nat) (a0:α) (h0:I a0) (hE:E.is (l a0)) {extra0:List CObj} (hσ:σ=S a0++extra0) (hlen:∀ a,I a->σ.length<=(S a).length) (hold:∀ a,I a->Olds (S a).length (l a)/\OldAll (S a).length (S a))
 (round:∀ (a:α),I a->CWp C n c (CExit.next (Upto l S fun a'=>m a' < m a/\I a') Q) (Env.only (l a)) (S a)):CWp C n (.loop c) Q E σ:=fun M w a hr hf=>by
 intro b k cs;have key:∀ d (x:α) M1 w1 a1,m x=d->I x->Ext M w M1 w1->Rel C M1 (S x) w1->FRel M1 w1 n (Env.only (l x)) a1 ->
  ∃ e a' w',Lift C n Q M w e a' w'/\Arrives C.P (lone (b.at a1 (.code c::.inLoop c::k)) cs w1) b k cs e a' w':=by
  intro d
  induction d using Nat.strongRecOn with
  | _ d ih =>
   intro x M1 w1 a1 hd hI hx hr1 hf1;obtain ⟨e,a2,w2,hq,harr⟩:=round x hI M1 w1 a1 hr1 hf1 b (.inLoop c::k) cs;obtain ⟨E',σ',M',h1,h2,h3,h4⟩:=hq;cases e with
   | normal =>
    obtain ⟨x',extra,⟨hlt,hI'⟩,hE',rfl⟩:=h4;obtain ⟨o1,o2⟩:=hold x' hI';obtain ⟨g1,g2,g3⟩:=h2.cutObj o2 hC;have hx':=g3 M w (hx.trans h1) (by rw [hr.len]; exact hlen x' hI');obtain ⟨e₂,a₂,w₂,hq₂,harr₂⟩:=ih (m x') om_ x' _ w2 a2 rfl hI' hx' g1 (h3.only g2 hE' o1);exact ⟨e₂,a₂,w₂,hq₂,.of_steps (Steps.trans harr (.one step_inLoop)) harr₂⟩
   | exit id=>exact ⟨_,a2,w2,⟨E',σ',M',hx.trans h1,h2,h3,h4⟩,.pass (x:=.inLoop c) rfl (fun _ _=>.inl si_) harr⟩
   | goto l=>exact ⟨_,a2,w2,⟨E',σ',M',hx.trans h1,h2,h3,h4⟩,.pass (x:=.inLoop c) rfl (fun _ _=>.inl si_) harr⟩
   | ret=>exact ⟨_,a2,w2,⟨E',σ',M',hx.trans h1,h2,h3,h4⟩,.pass (x:=.inLoop c) rfl (fun _ _=>.inl si_) harr⟩
   | panic ch=>exact ⟨_,a2,w2,⟨E',σ',M',hx.trans h1,h2,h3,h4⟩,.pass (x:=.inLoop c) rfl (fun _ _=>.inl si_) harr⟩
   | outgrown=>exact h4.elim
 have hlen0:=hlen a0 h0;have hex:extra0=[]:=by
  apply n_87;rw [hσ] at hlen0;simp at hlen0;omega
 subst hex;rw [n_32] at hσ;subst hσ;obtain ⟨o1,o2⟩:=hold a0 h0;have hcut0:Cut (S a0).length M M:=⟨by rw [<- hr.len,n_55],fun _ h=>h,fun _ _ h=>.inr h⟩;obtain ⟨e,a',w',hq,harr⟩:=key _ a0 M w a rfl h0 (Ext.refl M w) hr (hf.only hcut0 hE o1);exact ⟨e,a',w',hq,.of_steps (.one step_loop) harr⟩
theorem cw_cutd {x y:Code} (hC:C.plain) (l:α->List (Nat × CV)) (S:α->List CObj) (P:α->Prop) (hlen:∀ a,P a->σ.length<=(S a).length) (hold:∀ a,P a->Olds (S a).length (l a)/\OldAll (S a).length (S a)) (h:CWp C n x (CExit.next (Upto l S P) Q) E σ) (k:∀ a,P a->CWp C n y Q (Env.only (l a)) (S a)):CWp C n (.seq x y) Q E σ:=fun M w a hr hf=>by
 refine wp_seq (wp_mono (h M w a hr hf) fun e a' w' hl=>?_);obtain ⟨E',σ',M',h1,h2,h3,h4⟩:=hl;cases e with
 | normal=>exact CWp.upto hC h4 hold k (fun a ha=>by rw [hr.len]; exact hlen a ha) h1 h2 h3
 | _=>exact ⟨E',σ',M',h1,h2,h3,h4⟩
end
def OldL (n:Nat):List CV->Prop
 | []=>True
 | c::l=>Old n c/\OldL n l
theorem old_box {n:Nat}:∀ {cells:List CV},OldL n cells->OldObj n (.box cells)
 | [],_=>fun c h=>by simp at h
 | x::l,⟨h1,h2⟩=>fun c h=>by
  rcases n_13.1 h with rfl | h
  ·exact h1
  ·exact old_box h2 c h
theorem cls_eq {c0:CV} (h:c=c0) (hp:Pure c0):Cls n σ c c0:=by
 subst h;exact .pure hp
theorem cls_bool {x y:Bool} (h:x=y):Cls n σ (.val (.bool x)) (.val (.bool y)):=h ▸ .old (.val _)
theorem cls_int {k:IntKind} {x y:Int} (h:x=y):Cls n σ (.val (.int k x)) (.val (.int k y)):=h ▸ .old (.val _)
theorem cls_str {x y:ByteArray} (h:x=y):Cls n σ (.val (.string x)) (.val (.string y)):=h ▸ .old (.val _)
theorem len_map {β:Type} (f:α->β) (l:List α):((l.map f).length:Int)=(l.length:Int):=by simp
def Pures:List CV->Prop
 | []=>True
 | c::l=>Pure c/\Pures l
theorem Pures.all:∀ {l:List CV},Pures l->∀ c∈l,Pure c
 | [],_,c,h=>by simp at h
 | x::l,⟨h1,h2⟩,c,h=>by
  rcases n_13.1 h with rfl | h
  ·exact h1
  ·exact Pures.all h2 c h
theorem pure_rows {f:α->List CV} (h:∀ a,Pures (f a)) (l:List α) (nn:Bool):Pure (.list (l.map f) nn none):=.list (rows_pure (fun a=>(h a).all) l)
theorem CCalls.anyw (hC:C.plain) (hargs:Pures args) (hc:Pure c) (h:CCalls C f args [] fun r σ'=>r = .ret c/\σ'=[]) (σ:List CObj):CCalls C f args σ fun r σ'=>r = .ret c/\σ'=σ :=
 ccalls_frame hargs.all hc hC h σ
def CV.fgt1:CV->CV
 | .list rows nn _=>.list rows nn none
 | c=>c
def CV.fgt:CV->CV
 | .agg cs=>.agg (cs.map CV.fgt1)
 | c=>c.fgt1
theorem CV.one_fgt1 (c:CV):c.fgt1.one=c.one:=by cases c <;> rfl
theorem RV.fgt1 (h:RV M w c v):RV M w c.fgt1 v:=by
 cases h with
 | list vals h1 h2 h3 h4 h5 h6 h7 h8 h9 h10=>exact .list vals h1 h2 h3 h4 h5 h6 h7 h8 h9 fun k hk=>by cases hk
 | val v=>exact .val v
 | agg h1 h2 h3=>exact .agg h1 h2 h3
 | tup h1 h3=>exact .tup h1 h3
 | clo h1 h3=>exact .clo h1 h3
 | ptr hk=>exact .ptr hk
 | cptr vals h1 h2 h3=>exact .cptr vals h1 h2 h3
 | eptr hk=>exact .eptr hk
 | vec hk h1 h2 h3=>exact .vec hk h1 h2 h3
 | map hk=>exact .map hk
theorem RV.fgt (h:RV M w c v):RV M w c.fgt v:=by
 cases h with
 | agg h1 h2 h3 =>
  refine .agg q_276 (fun c hm=>?_) (fun i c hi=>?_)
  ·obtain ⟨c0,h0,rfl⟩:=n_9.1 hm;rw [CV.one_fgt1]; exact h2 c0 h0
  ·rw [n_14,n_26] at hi;obtain ⟨c0,h0,rfl⟩:=hi;exact (h3 i c0 h0).fgt1
 | list vals h1 h2 h3 h4 h5 h6 h7 h8 h9 h10=>exact (RV.list vals h1 h2 h3 h4 h5 h6 h7 h8 h9 h10).fgt1
 | val v=>exact .val v
 | tup h1 h3=>exact .tup h1 h3
 | clo h1 h3=>exact .clo h1 h3
 | ptr hk=>exact .ptr hk
 | cptr vals h1 h2 h3=>exact .cptr vals h1 h2 h3
 | eptr hk=>exact .eptr hk
 | vec hk h1 h2 h3=>exact .vec hk h1 h2 h3
 | map hk=>exact .map hk
section
theorem ccalls_fgt (h:CCalls C f (args.map CV.fgt) σ K):CCalls C f args σ K:=fun M w vs hr hsz hx =>
 h M w vs hr (by simpa using hsz) fun i c hi=>by
  rw [n_14,n_26] at hi;obtain ⟨c0,h0,rfl⟩:=hi;exact (hx i c0 h0).fgt
theorem y_callf (ho:o.op = .call { callee:=.value (.func f),args:=xs,argTypes:=ts}) (hcall:∀ args w,(callFunc f args).run C.P w = .ok (.enter f args) w)
 (hv:E.valids xs.toList) (h:CCalls C f cargs σ fun r σ'=>r = .ret c/\σ'=σ) (ea:(E.vals C xs.toList).map CV.fgt=cargs):Yields C σ E o c :=
 y_call ho hcall hv rfl (ccalls_fgt (ea ▸ h))
theorem cq_pos {b:Int} (ha:0<=a) (hb:0 < b) (hr:a<=9223372036854775807):cint .quo .i64 a b=some (.int .i64 (a / b)):=by
 have h1:a.tdiv b=a / b:=n_134 ha;have h2:0<=a / b:=Int.ediv_nonneg ha om_;have h3:a / b<=a:=Int.ediv_le_self _ ha;have h4:b≠0:=by omega
 simp only [cint,h1,if_neg h4];rw [wr64 om_ om_]
theorem cq_rem {b:Int} (hb:b≠0):cint .rem .i64 a b=some (.int .i64 (a.tmod b)):=by simp [cint,hb]
theorem cq_rem_pos {b:Int} (ha:0<=a) (hb:0 < b):cint .rem .i64 a b=some (.int .i64 (a%b)):=by
 rw [cq_rem om_,Int.tmod_eq_emod_of_nonneg ha]
theorem pure_agg (h:Pures cs):Pure (.agg cs):=.agg h.all
theorem pure_tup (h:Pures cs):Pure (.tup cs):=.tup h.all
end
inductive RenV (L:Nat) (sel:List Nat):CV->CV->Prop where
 | old {c:CV}:Old L c->RenV L sel c c
 | agg {cs cs':List CV}:cs.length=cs'.length->(∀ (i:Nat) (c c':CV),cs[i]? = some c->cs'[i]? = some c'->RenV L sel c c')->RenV L sel (.agg cs) (.agg cs')
 | list {rows:List (List CV)} {nn:Bool} {tok tok':Option Nat}:(∀ r∈rows,∀ c∈r,Old L c)->(∀ j,tok'=some j->∃ k,tok=some k/\sel[j]? = some k)->RenV L sel (.list rows nn tok) (.list rows nn tok')
 | ptr {k j off:Nat}:sel[j]? = some k->RenV L sel (.ptr k off) (.ptr j off)
 | eptr {k j i off:Nat}:sel[j]? = some k->RenV L sel (.eptr k i off) (.eptr j i off)
 | vec {k j off len:Nat}:sel[j]? = some k->RenV L sel (.vec k off len) (.vec j off len)
 | map {k j:Nat}:sel[j]? = some k->RenV L sel (.map k) (.map j)
theorem RenV.same (h:c=c') (ho:Old L c'):RenV L sel c c':=h ▸ .old (h ▸ ho)
theorem RenV.one (h:RenV L sel c c'):c'.one=c.one:=by
 cases h <;> rfl
def Plan.ren (M:Plan) (sel:List Nat):Plan:={ M with pl:=sel.map fun k=>M.pl.getD k ⟨0,0,0⟩}
theorem ren_get (hj:sel[j]? = some k) (hk:M.pl[k]? = some p):(M.ren sel).pl[j]? = some p:=by
 show (sel.map fun k=>M.pl.getD k ⟨0,0,0⟩)[j]? = some p;rw [n_14,hj];simp [hk]
theorem ren_old (hsel:∀ k,k < L->sel[k]? = some k) (hL:L<=M.pl.length) (h:RV M w c v) (ho:Old L c):RV (M.ren sel) w c v:=by
 have hc:Cut L M { M with pl:=M.pl.take L}:=⟨rfl,fun _ h=>h,fun _ _ h=>.inr h⟩;have h1:=h.cut hc ho;refine RV.mono (M:={ M with pl:=M.pl.take L}) (M':=M.ren sel) (w:=w) (w':=w) ⟨⟨(M.ren sel).pl.drop L,?_⟩,fun _ h=>h,fun _ _ h=>.inr h,fun _ _=>rfl,fun _ _ _=>rfl,n_5 _,nb_drew,rfl,rfl,rfl,fun _ h=>⟨h,rfl,id,fun _=>id⟩⟩ h1;have:(M.ren sel).pl.take L=M.pl.take L:=by
  refine n_93 fun i=>?_;rw [n_31,n_31]
  split
  ·rename_i hi;have hp:M.pl[i]? = some (M.pl[i]'om_):=by simp
   rw [ren_get (hsel i hi) hp,hp]
  ·rfl
 show (M.ren sel).pl=M.pl.take L++_;rw [<- this,List.take_append_drop]
theorem RV.ren (hsel:∀ k,k < L->sel[k]? = some k) (hL:L<=M.pl.length) (h:RV M w c v) (hr:RenV L sel c c'):RV (M.ren sel) w c' v:=by
 induction hr generalizing v with
 | old ho=>exact ren_old hsel hL h ho
 | agg hl hcls ih =>
  cases h with
  | agg h1 h2 h3 =>
   refine .agg om_ (fun c hcm=>?_) (fun i c' hi=>?_)
   ·obtain ⟨i,hi⟩:=n_11.1 hcm;obtain ⟨y,hy⟩:=get_pair hl hi;rw [(hcls i y c hy hi).one];exact h2 y (n_0 hy)
   ·obtain ⟨y,hy⟩:=get_pair hl hi;exact ih i y c' hy hi (h3 i y hy)
 | list hrows htok =>
  cases h with
  | list vals h1 h2 h3 h4 h5 h6 h7 h8 h9 h10 =>
   refine .list vals h1 h2 h3 h4 h5 h6 h7 h8 (fun i j r c hi hj=>ren_old hsel hL (h9 i j r c hi hj) (hrows r (n_0 hi) c (n_0 hj))) (fun j hj=>?_);obtain ⟨k,hk,hs⟩:=htok j hj;obtain ⟨s',hp,hrest⟩:=h10 k hk;exact ⟨s',ren_get hs hp,hrest⟩
 | ptr hs=>cases h with | ptr hk=>exact .ptr (ren_get hs hk)
 | eptr hs=>cases h with | eptr hk=>exact .eptr (ren_get hs hk)
 | vec hs=>cases h with | vec hk h1 h2 h3=>exact .vec (ren_get hs hk) h1 h2 h3
 | map hs=>cases h with | map hk=>exact .map (ren_get hs hk)
def RenL (L:Nat) (sel:List Nat):List CV->List CV->Prop
 | [],[]=>True
 | c::l,c'::l'=>RenV L sel c c'/\RenL L sel l l'
 | _,_=>False
theorem RenL.len:∀ {l l':List CV},RenL L sel l l'->l.length=l'.length
 | [],[],_=>rfl
 | _::_,_::_,h=>congrArg (· + 1) h.2.len
theorem RenL.get:∀ {l l':List CV},RenL L sel l l'->∀ (i:Nat) (c c':CV),l[i]? = some c->l'[i]? = some c'->RenV L sel c c'
 | [],[],_,i,c,c',h,_=>by simp at h
 | _::_,_::_,h,0,c,c',h1,h2=>by
  simp at h1 h2; subst h1; subst h2; exact h.1
 | _::_,_::_,h,i+1,c,c',h1,h2=>h.2.get i c c' q_276 q_275
inductive RenO (L:Nat) (sel:List Nat):CObj->CObj->Prop where
 | dead {ob:CObj}:RenO L sel ob .dead
 | same {ob ob':CObj}:ob=ob'->OldObj L ob'->RenO L sel ob ob'
 | box {t0:Option TypeId} {cells cells':List CV}:RenL L sel cells cells'->RenO L sel (.boxT t0 cells) (.boxT t0 cells')
theorem ObjRel.ren (hsel:∀ k,k < L->sel[k]? = some k) (hL:L<=M.pl.length) {ob':CObj} (h:ObjRel M w p ob/\ObjFree M p ob) (hr:RenO L sel ob ob'):ObjRel (M.ren sel) w p ob'/\ObjFree (M.ren sel) p ob':=by
 obtain ⟨h1,h2⟩:=h;cases hr with
 | dead=>exact ⟨tt,tt⟩
 | same he ho =>
  subst he;refine ⟨?_,by cases ob <;> exact h2⟩;cases ob with
  | dead=>trivial
  | boxT t0 cells =>
   obtain ⟨arr,ty,e1,e2,e3,e4⟩:=h1;exact ⟨arr,ty,e1,e2,e3,fun i c hi=>ren_old hsel hL (e4 i c hi) (ho c (n_0 hi))⟩
  | tipT t0 m=>exact h1
  | vec s rows =>
   obtain ⟨e0,e1,e2,e3,e4,arr,ty,e5,e6,e7⟩:=h1;exact ⟨e0,e1,e2,e3,e4,arr,ty,e5,e6,fun i j r c hi hj=>ren_old hsel hL (e7 i j r c hi hj) (ho r (n_0 hi) c (n_0 hj))⟩
  | map es =>
   obtain ⟨ents,clock,e1,e2,e3⟩:=h1;refine ⟨ents,clock,e1,e2,fun i x hi=>?_⟩;obtain ⟨e,g1,g2,g3,g4⟩:=e3 i x hi;have:=ho x (n_0 hi);exact ⟨e,g1,ren_old hsel hL g2 this.1,ren_old hsel hL g3 this.2,g4⟩
  | iter cur es =>
   obtain ⟨mb,seen,last,ents,clock,e1,e2,e3,e4,e5,e6,e7,e8,e9⟩:=h1;refine ⟨mb,seen,last,ents,clock,e1,e2,e3,e4,e5,e6,e7,fun i x hi=>?_,fun i x hi=>?_⟩
   ·obtain ⟨e,g1,g2,g3⟩:=e8 i x hi;have:=ho.2 x (n_0 hi);exact ⟨e,g1,ren_old hsel hL g2 this.1,ren_old hsel hL g3 this.2⟩
   ·obtain ⟨hl,j,e,g0,g1,g2,g3⟩:=e9 i x hi;have:=ho.1 x (n_0 hi);exact ⟨hl,j,e,g0,g1,ren_old hsel hL g2 this.1,ren_old hsel hL g3 this.2⟩
 | box hc =>
  obtain ⟨arr,ty,e1,e2,e3,e4⟩:=h1;refine ⟨⟨arr,ty,e1,by rw [e2,hc.len],fun c hm=>?_,fun i c' hi=>?_⟩,h2⟩
  ·obtain ⟨i,hi⟩:=n_11.1 hm;obtain ⟨y,hy⟩:=get_pair hc.len hi;rw [(hc.get i y c hy hi).one];exact e3 y (n_0 hy)
  ·obtain ⟨y,hy⟩:=get_pair hc.len hi;exact (e4 i y hy).ren hsel hL (hc.get i y c' hy hi)
def RenS (L:Nat) (all:List Nat) (σ:List CObj):List Nat->List CObj->Prop
 | [],[]=>True
 | k::ks,ob::obs=>(ob = .dead\/∃ ob0,σ[k]? = some ob0/\RenO L all ob0 ob)/\RenS L all σ ks obs
 | _,_=>False
theorem RenS.len {all:List Nat}:∀ {ks:List Nat} {obs:List CObj},RenS L all σ ks obs->ks.length=obs.length
 | [],[],_=>rfl
 | _::_,_::_,h=>congrArg (· + 1) h.2.len
theorem RenS.get {all:List Nat}:∀ {ks:List Nat} {obs:List CObj},RenS L all σ ks obs->∀ (j k:Nat) (ob:CObj),ks[j]? = some k->obs[j]? = some ob->ob = .dead\/∃ ob0,σ[k]? = some ob0/\RenO L all ob0 ob
 | [],[],_,j,k,ob,h,_=>by simp at h
 | _::_,_::_,h,0,k,ob,h1,h2=>by
  simp at h1 h2; subst h1; subst h2; exact h.1
 | _::_,_::_,h,j+1,k,ob,h1,h2=>h.2.get j k ob q_276 q_275
def nodupB:List Nat->Bool
 | []=>true
 | k::l=>!l.contains k && nodupB l
theorem nodupB_get:∀ {l:List Nat},nodupB l=true->∀ (i j k:Nat),l[i]? = some k->l[j]? = some k->i=j
 | [],_,i,j,k,h,_=>by simp at h
 | x::l,h,i,j,k,h1,h2=>by
  simp only [nodupB,n_29,Bool.not_eq_true',List.contains_eq_mem,decide_eq_false_iff_not] at h
  rcases i with _ | i <;> rcases j with _ | j
  ·rfl
  ·simp at h1 h2; subst h1; exact absurd (n_0 h2) h.1
  ·simp at h1 h2; subst h2; exact absurd (n_0 h1) h.1
  ·exact congrArg (· + 1) (nodupB_get h.2 i j k q_276 q_275)
def keepB (L:Nat) (sel:List Nat):Bool:=Nat.ble L sel.length && (List.range L).all fun k=>Nat.beq (sel.getD k 0) k
theorem keepB_get (h:keepB L sel=true) (k:Nat) (hk:k < L):sel[k]? = some k:=by
 simp only [keepB,n_29,n_22,n_90] at h;have h1:=nb h.1;have h2:=n_36 (h.2 k hk);have hlt:k < sel.length:=by omega
 rw [n_35 hlt];simpa [hlt] using h2
theorem Rel.ren {S:List CObj} (hC:C.plain) (hr:Rel C M σ w) (hsel:keepB L sel=true) (hnd:nodupB sel=true) (hL:L<=M.pl.length) (hS:RenS L sel σ sel S):Rel C (M.ren sel) S w:=by
 have hk:=keepB_get hsel;have hpl:∀ {j:Nat} {p:Pl} {ob:CObj},(M.ren sel).pl[j]? = some p->S[j]? = some ob->∃ k,sel[j]? = some k/\(ob = .dead\/∃ ob0,σ[k]? = some ob0/\M.pl[k]? = some p/\RenO L sel ob0 ob):=by
  intro j p ob hp hs;have hp':(sel.map fun k=>M.pl.getD k ⟨0,0,0⟩)[j]? = some p:=hp;rw [n_14,n_26] at hp';obtain ⟨k,hk,hp'⟩:=hp';refine ⟨k,hk,?_⟩
  rcases hS.get j k ob hk hs with rfl | ⟨ob0,h1,h2⟩
  ·exact .inl rfl
  ·have hlt:k < M.pl.length:=by rw [hr.len]; exact (n_1.1 h1).1
   refine .inr ⟨ob0,h1,?_,h2⟩;rw [<- hp']; simp [hlt]
 have hlive:∀ {ob0 ob:CObj},RenO L sel ob0 ob->ob.live=true->ob0.live=true:=by
  intro ob0 ob h hl;cases h with
  | dead=>cases hl
  | same he _=>exact he ▸ hl
  | box _=>rfl
 refine ⟨by show (sel.map _).length=_; rw [n_17,hS.len],hr.blk,fun j p ob hp hs=>?_,fun j j' p p' ob ob' hp hp' hs hs' hl hl' hb=>?_,fun g cells hg=>?_,hr.kep,fun j p ob hp hs hl=>?_⟩
 ·obtain ⟨k,hk1,h | ⟨ob0,h1,h2,h3⟩⟩:=hpl hp hs
  ·subst h; exact ⟨tt,tt⟩
  ·exact ObjRel.ren hk hL (hr.obj k p ob0 h2 h1) h3
 ·obtain ⟨k,hk1,h | ⟨ob0,h1,h2,h3⟩⟩:=hpl hp hs
  ·subst h; cases hl
  ·obtain ⟨k',hk1',h' | ⟨ob0',h1',h2',h3'⟩⟩:=hpl hp' hs'
   ·subst h'; cases hl'
   ·have e:=hr.inj k k' p p' ob0 ob0' h2 h2' h1 h1' (hlive h3 hl) (hlive h3' hl') hb;subst e;exact nodupB_get hnd j j' k hk1 hk1'
 ·refine ⟨?_,(hr.glob g cells hg).full,(hr.glob g cells hg).sz⟩;exact ren_old hk hL (hr.glob g cells hg).rv (.cptr fun j c hj=>(hC g cells hg c (n_0 hj)).old)
 ·obtain ⟨k,hk1,h | ⟨ob0,h1,h2,h3⟩⟩:=hpl hp hs
  ·subst h; cases hl
  ·exact hr.nk k p ob0 h2 h1 (hlive h3 hl)
theorem Ext.ren (hx:Ext M0 w0 M w) (hsel:keepB L sel=true) (hL0:M0.pl.length=L):Ext M0 w0 (M.ren sel) w:=by
 have hk:=keepB_get hsel;obtain ⟨l,hl⟩:=hx.pl;refine ⟨⟨(M.ren sel).pl.drop L,?_⟩,hx.full,hx.cell,hx.same,hx.sameC,hx.size,hx.drew,hx.os,hx.tape,hx.output,hx.kept⟩;have:(M.ren sel).pl.take L=M0.pl:=by
  refine n_93 fun i=>?_;rw [n_31]
  split
  ·rename_i hi;have hp0:M0.pl[i]? = some (M0.pl[i]'om_):=by simp
   rw [ren_get (hk i hi) (hx.get hp0),hp0]
  ·rw [n_84 om_]
 rw [<- this,List.take_append_drop]
def Env.isR (E:Env) (L:Nat) (sel:List Nat):List (Nat × CV)->Prop
 | []=>True
 | (t,c)::l=>(E.ok t/\RenV L sel (E.f t) c)/\E.isR L sel l
theorem FRel.onlyR {a:Act} (hsel:keepB L sel=true) (hL:L<=M.pl.length) (hf:FRel M w n E a):∀ {l:List (Nat × CV)},E.isR L sel l->FRel (M.ren sel) w n (Env.only l) a
 | [],_=>⟨hf.defers,hf.size,fun _ h=>h.elim,fun _ h=>h.elim⟩
 | (t,c)::l,⟨⟨h1,h2⟩,h⟩=>by
  have ih:=FRel.onlyR hsel hL hf h;refine ⟨hf.defers,hf.size,fun x hx=>?_,fun x hx=>?_⟩
  ·show RV (M.ren sel) w (((Env.only l).put (some t) c True).f x) _;have hx:((Env.only l).put (some t) c True).ok x:=hx;rw [Env.put_f];rw [Env.put_ok] at hx
   split
   ·subst x; exact (hf.rv t h1).ren (keepB_get hsel) hL h2
   ·rename_i hne;rw [if_neg hne] at hx;exact ih.rv x hx
  ·have hx:((Env.only l).put (some t) c True).un x:=hx;rw [Env.put_un] at hx;split at hx
   ·exact absurd trivial hx
   ·exact ih.un x hx
section
def UptoR {α:Type} (L:Nat) (l:α->List (Nat × CV)) (S:α->List CObj) (P:α->Prop) (E':Env) (σ':List CObj):Prop :=
 ∃ (a:α) (sel:List Nat),P a/\(keepB L sel=true/\nodupB sel=true)/\E'.isR L sel (l a)/\RenS L sel σ' sel (S a)
theorem UptoR.go {c:Code} (hC:C.plain) {l:α->List (Nat × CV)} {S:α->List CObj} {P:α->Prop} {σ':List CObj} (hE:UptoR L l S P E' σ') (k:∀ a,P a->CWp C n c Q (Env.only (l a)) (S a)) (hlen:M0.pl.length=L) {a:Act} (hx:Ext M0 w0 M w) (hr:Rel C M σ' w) (hf:FRel M w n E' a) :
 c.wp C.P (Lift C n Q M0 w0) a w:=by
 obtain ⟨x,sel,hP,⟨h1,h2⟩,hE,hS⟩:=hE;have hL:L<=M.pl.length:=by
  obtain ⟨l,hl⟩:=hx.pl;rw [hl]; simp; omega
 exact wp_mono (k x hP _ w a (hr.ren hC h1 h2 hL hS) (hf.onlyR h1 hL hE)) fun _ _ _=>Lift.later (hx.ren h1 hlen)
theorem cw_cutr {x y:Code} (hC:C.plain) (L:Nat) (hL:Nat.beq L σ.length=true) (l:α->List (Nat × CV)) (S:α->List CObj) (P:α->Prop) (h:CWp C n x (CExit.next (UptoR L l S P) Q) E σ) (k:∀ a,P a->CWp C n y Q (Env.only (l a)) (S a)):CWp C n (.seq x y) Q E σ:=fun M w a hr hf=>by
 refine wp_seq (wp_mono (h M w a hr hf) fun e a' w' hl=>?_);obtain ⟨E',σ',M',h1,h2,h3,h4⟩:=hl;cases e with
 | normal=>exact UptoR.go hC h4 k (by rw [hr.len]; exact (n_36 hL).symm) h1 h2 h3
 | _=>exact ⟨E',σ',M',h1,h2,h3,h4⟩
theorem cw_loopr {c:Code} (hC:C.plain) (L:Nat) (hL:Nat.beq L σ.length=true) (l:α->List (Nat × CV)) (S:α->List CObj) (I:α->Prop) (m:α->Nat) (h0:UptoR L l S I E σ)
 (round:∀ (a:α),I a->CWp C n c (CExit.next (UptoR L l S fun a'=>m a' < m a/\I a') Q) (Env.only (l a)) (S a)):CWp C n (.loop c) Q E σ:=fun M w a hr hf=>by
 intro b k cs;have hL:=n_36 hL;have key:∀ d (x:α) M1 w1 a1,m x=d->I x->Ext M w M1 w1->Rel C M1 (S x) w1->FRel M1 w1 n (Env.only (l x)) a1 ->
  ∃ e a' w',Lift C n Q M w e a' w'/\Arrives C.P (lone (b.at a1 (.code c::.inLoop c::k)) cs w1) b k cs e a' w':=by
  intro d
  induction d using Nat.strongRecOn with
  | _ d ih =>
   intro x M1 w1 a1 hd hI hx hr1 hf1;obtain ⟨e,a2,w2,hq,harr⟩:=round x hI M1 w1 a1 hr1 hf1 b (.inLoop c::k) cs;obtain ⟨E',σ',M',h1,h2,h3,h4⟩:=hq;cases e with
   | normal =>
    obtain ⟨x',sel,⟨hlt,hI'⟩,⟨g1,g2⟩,hE',hS⟩:=h4;have hx':=hx.trans h1;have hLe:L<=M'.pl.length:=by
     obtain ⟨l,hl⟩:=hx'.pl;rw [hl]; simp; rw [hr.len,hL]; omega
    obtain ⟨e₂,a₂,w₂,hq₂,harr₂⟩:=ih (m x') om_ x' _ w2 a2 rfl hI' (hx'.ren g1 (by rw [hr.len,hL])) (h2.ren hC g1 g2 hLe hS) (h3.onlyR g1 hLe hE');exact ⟨e₂,a₂,w₂,hq₂,.of_steps (Steps.trans harr (.one step_inLoop)) harr₂⟩
   | exit id=>exact ⟨_,a2,w2,⟨E',σ',M',hx.trans h1,h2,h3,h4⟩,.pass (x:=.inLoop c) rfl (fun _ _=>.inl si_) harr⟩
   | goto l=>exact ⟨_,a2,w2,⟨E',σ',M',hx.trans h1,h2,h3,h4⟩,.pass (x:=.inLoop c) rfl (fun _ _=>.inl si_) harr⟩
   | ret=>exact ⟨_,a2,w2,⟨E',σ',M',hx.trans h1,h2,h3,h4⟩,.pass (x:=.inLoop c) rfl (fun _ _=>.inl si_) harr⟩
   | panic ch=>exact ⟨_,a2,w2,⟨E',σ',M',hx.trans h1,h2,h3,h4⟩,.pass (x:=.inLoop c) rfl (fun _ _=>.inl si_) harr⟩
   | outgrown=>exact h4.elim
 obtain ⟨x,sel,hP,⟨g1,g2⟩,hE,hS⟩:=h0;have hLe:L<=M.pl.length:=by rw [hr.len,hL]; omega
 obtain ⟨e,a',w',hq,harr⟩:=key _ x _ w a rfl hP ((Ext.refl M w).ren g1 (by rw [hr.len,hL])) (hr.ren hC g1 g2 hLe hS) (hf.onlyR g1 hLe hE);exact ⟨e,a',w',hq,.of_steps (.one step_loop) harr⟩
def gtok:Nat->Nat->Option Nat
 | 0,_=>none
 | _+1,p=>some p
def gobj:Nat->CObj
 | 0=>.dead
 | m+1=>.tip (m+1)
def gnn:Nat->Bool
 | 0=>false
 | _+1=>true
theorem old_gobj (n m:Nat):OldObj n (gobj m):=by cases m <;> trivial
end
theorem RenV.grow {f:α->List CV} {p:Nat} {l:List α} (h:∀ a,OldL L (f a)) (hs:sel[p]? = some k):RenV L sel (.list (l.map f) (gnn m) (gtok m k)) (.list (l.map f) (gnn m) (gtok m p)):=by
 refine .list (fun r hr c hc=>?_) (fun j hj=>?_)
 ·obtain ⟨a,_,rfl⟩:=n_9.1 hr;exact old_box (h a) c hc
 ·cases m with
  | zero=>cases hj
  | succ m=>cases hj; exact ⟨k,rfl,hs⟩
section
theorem d_append_v' {len:Nat} {ti:TypeInfo} (rows':List (List CV)) (n':Nat) (ho:o.op = .call { callee:=.builtin .append,args:=#[x,y],argTypes:=#[t,t]}) (hx:E.valid x) (hy:E.valid y) (ex:E.val C x = .vec k 0 len)
 (hsrc:∀ M w v,Rel C M σ w->RV M w (E.val C y) v->Src C M w new s v) (hu:∀ w,(underlying t).run C.P w = .ok (.slice e) w) (hs:∀ w,(sizeOf e).run C.P w = .ok s w) (hti:∀ w,(typeInfo e).run C.P w = .ok ti w) (hz:∀ w,(zeroValue e).run C.P w = .ok z w) (hzs:z.cells.size=s)
 (hk':σ[k]? = some (.vec s rows)) (hlen:len=rows.length) (hnew:new≠[]) (hb:(rows.length+new.length)*ti.bytes<=140737488355328) (hmax:rows.length+new.length<=9223372036854775807) (he:rows++new=rows') (hn:rows.length+new.length=n')
 (hk:K (.ret (.vec σ.length 0 n')) (σ.set k .dead++[.vec s rows'])):Does C σ E o K:=by
 subst hlen he hn;exact d_append_v ho hx hy ex hsrc hu hs hti hz hzs hk' hnew hb hmax hk
theorem d_clear' {len:Nat} (rows':List (List CV)) (ho:o.op = .call { callee:=.builtin .clear,args:=#[x],argTypes:=#[t]}) (hx:E.valid x) (ex:E.val C x = .vec k off len)
 (hu:∀ w,(underlying t).run C.P w = .ok (.slice e) w) (hz:∀ w,(zeroValue e).run C.P w = .ok z w) (hz1:constOk z=true) (hz2:(cvOf z).one=true\/∃ cs,cvOf z = .agg cs) (hzs:z.cells.size=s) (hk':σ[k]? = some (.vec s rows)) (hl:off+len<=rows.length) (he:spliceR rows off (List.replicate len (zrow z))=rows') {σ':List CObj} (hσ:σ.set k (.vec s rows')=σ')
 (hk:K (.ret (.val (.tuple #[]))) σ'):Does C σ E o K :=
 d_clear ho hx ex hu hz hz1 hz2 hzs hk' hl (by rw [he,hσ]; exact hk)
theorem d_store_e' (rows':List (List CV)) (ho:o.op = .store t x y) (hx:E.valid x) (hy:E.valid y) (ex:E.val C x = .eptr k i off) (ey:E.val C y=c) (hs:∀ w,(sizeOf t).run C.P w = .ok m w)
 (hc:c.one=true\/∃ cs,c = .agg cs) (hk:σ[k]? = some (.vec s rows)) (hi:rows[i]? = some r) (hl:c.cells.length=m) (hlt:off+m<=r.length) (he:rows.set i (spliceL r off c.cells)=rows') {σ':List CObj} (hσ:σ.set k (.vec s rows')=σ') (h:K (.ret (.val undef)) σ'):Does C σ E o K :=
 d_store_e ho hx hy ex ey hs hc hk hi hl hlt (by rw [he,hσ]; exact h)
theorem d_callv {c:α->CV} {S:α->List CObj} {P:α->Prop} (ho:o.op = .call { callee:=.value (.func f),args:=xs,argTypes:=ts}) (hcall:∀ args w,(callFunc f args).run C.P w = .ok (.enter f args) w)
 (hv:E.valids xs.toList) (h:CCalls C f cargs σ fun r σ'=>∃ a,r = .ret (c a)/\σ'=S a/\P a) (ea:(E.vals C xs.toList).map CV.fgt=cargs) (hk:∀ a,P a->K (.ret (c a)) (S a)):Does C σ E o K :=
 d_call ho hcall (Env.valids_mem hv) (Env.vals_map _) ((ccalls_fgt (ea ▸ h)).mono fun r σ' hh=>by
  obtain ⟨a,rfl,rfl,hp⟩:=hh;exact hk a hp)
end
def floatB (ops:Array Oper) (ix:List Nat) (nh:Nat) (ms:List Nat) (fls:List (List Nat)):Bool :=
 Nat.beq ix.length ops.size && nodupB ix && (ix.all fun j=>Nat.blt j ops.size) && ((List.range ops.size).all fun j=>ix.contains j) && Nat.ble nh ops.size && Nat.beq (nh+fls.length) ops.size &&
 ((List.range ops.size).all fun j =>
  match ops[j]? with
  | none=>true
  | some o =>
   (o.after.toList.all fun e=>!binding e || Nat.blt e.on j) &&
   ((List.range ops.size).all fun i=>!(ms.getD j 0).testBit i || o.after.toList.any fun e=>binding e && (Nat.beq e.on i || (ms.getD e.on 0).testBit i))) &&
 ((List.range ops.size).all fun k =>
  match ops[ix.getD k 0]? with
  | none=>true
  | some o =>
   (if Nat.ble nh k then (List.range k).all fun k'=>Nat.blt k' nh || (ms.getD (ix.getD k 0) 0).testBit (ix.getD k' 0) else true) &&
   ((o.looksAt ops).all fun t=>(List.range ops.size).all fun k'=>Nat.beq k' k || !((ops[ix.getD k' 0]?).bind (·.dst) == some t) || (if Nat.blt k' k then (ms.getD (ix.getD k 0) 0).testBit (ix.getD k' 0) else (ms.getD (ix.getD k' 0) 0).testBit (ix.getD k 0))) &&
   (o.dst == none || (List.range k).all fun k'=>!((ops[ix.getD k' 0]?).bind (·.dst) == o.dst) || (ms.getD (ix.getD k 0) 0).testBit (ix.getD k' 0))) &&
 ((List.range fls.length).all fun p=>(List.range nh).all fun k=>(fls.getD p []).contains k || (List.range (p+1)).any fun p'=>(ms.getD (ix.getD (nh+p') 0) 0).testBit (ix.getD k 0))
structure FloatOk (ops:Array Oper) (ix:List Nat) (nh:Nat) (ms:List Nat) (fls:List (List Nat)):Prop where
 len:ix.length=ops.size
 nodup:∀ (i j k:Nat),ix[i]? = some k->ix[j]? = some k->i=j
 lt:∀ (k j:Nat),ix[k]? = some j->j < ops.size
 onto:∀ j,j < ops.size->∃ k:Nat,ix[k]? = some j
 le:nh<=ops.size
 fl:nh+fls.length=ops.size
 edge:∀ j o,ops[j]? = some o->∀ e∈o.after,binding e=true->e.on < j
 mask:∀ j o,ops[j]? = some o->∀ i,i < ops.size->(ms.getD j 0).testBit i=true->∃ e∈o.after,binding e=true/\(e.on=i\/(ms.getD e.on 0).testBit i=true)
 tail:∀ (k k' j j':Nat),nh<=k'->k' < k->ix[k]? = some j->ix[k']? = some j'->(ms.getD j 0).testBit j'=true
 tmps:∀ (k j:Nat) (o:Oper),ix[k]? = some j->ops[j]? = some o->∀ t∈o.looksAt ops,∀ (k' j':Nat) (o':Oper),k'≠k->ix[k']? = some j'->ops[j']? = some o'->o'.dst=some t->(k' < k/\(ms.getD j 0).testBit j'=true)\/(k < k'/\(ms.getD j' 0).testBit j=true)
 dsts:∀ (k k' j j':Nat) (o o':Oper) (d:Nat),k' < k->ix[k]? = some j->ix[k']? = some j'->ops[j]? = some o->ops[j']? = some o'->o.dst=some d->o'.dst=some d->(ms.getD j 0).testBit j'=true
 fls:∀ p k,p < fls.length->k < nh->k∈fls.getD p []\/∃ p',p'<=p/\(ms.getD (ix.getD (nh+p') 0) 0).testBit (ix.getD k 0)=true
variable {len:Nat} {fls:List (List Nat)}
theorem floatOk {ops:Array Oper} (h:floatB ops ix nh ms fls=true):FloatOk ops ix nh ms fls:=by
 unfold floatB at h;simp only [n_29] at h;obtain ⟨⟨⟨⟨⟨⟨⟨⟨h1,h2⟩,h3⟩,h4⟩,h5⟩,h6⟩,h7⟩,h8⟩,h9⟩:=h;have hlen:=n_36 h1;simp only [n_22] at h3 h4 h7 h8 h9;have getD_of:∀ {k j:Nat},ix[k]? = some j->ix.getD k 0=j/\k < ops.size:=fun {k j} hk=>⟨by simp [hk],by rw [<- hlen]; exact (n_1.1 hk).1⟩;have get7:∀ j o,ops[j]? = some o->_:=fun j o ho=>by
  have hj:j < ops.size:=(n_16.1 ho).1;have:=h7 j q_278;rw [ho] at this;simp only [n_29] at this;exact this
 have get8:∀ k j o,ix[k]? = some j->ops[j]? = some o->_:=fun k j o hk ho=>by
  have:=h8 k (by simpa using (getD_of hk).2);rw [(getD_of hk).1,ho] at this;simp only [n_29] at this;exact this
 refine ⟨hlen,nodupB_get h2,fun k j hk=>by have:=h3 j (n_0 hk); simpa [n_30] using this,fun j hj=>?_,nb h5,n_36 h6,fun j o ho e he hb=>?_,fun j o ho i hi hm=>?_,fun k k' j j' hn hlt hk hk'=>?_,fun k j o hk ho t ht k' j' o' hne hk' ho' hd=>?_,fun k k' j j' o o' d hlt hk hk' ho ho' hd hd'=>?_,fun p k hp hk=>?_⟩
 ·have:=h4 j q_278;have hm:j∈ix:=by simpa using this
  exact n_11.1 hm
 ·have:=(get7 j o ho).1;rw [n_22] at this;have:=this e (by simpa using he);simp only [hb,n_68,n_75] at this;simpa [n_30] using this
 ·have:=(get7 j o ho).2;rw [n_22] at this;have:=this i q_274;simp only [hm,n_68,n_75,n_117,n_29,n_39] at this;obtain ⟨e,he,hb,hx⟩:=this;refine ⟨e,by simpa using he,hb,?_⟩
  rcases hx with hx | hx
  ·exact .inl (n_36 hx)
  ·exact .inr hx
 ·have ho:ops[j]? = some (ops[j]'(by have:=h3 j (n_0 hk); simpa [n_30] using this)):=by simp
  have:=(get8 k j _ hk ho).1.1;rw [if_pos (by simp [Nat.ble_eq]; omega),n_22] at this;have:=this k' (by simpa using hlt);rw [(getD_of hk').1] at this;have e1:Nat.blt k' nh=false:=n_73.2 fun hb=>by simp at hb; omega
  simpa [e1] using this
 ·have:=(get8 k j o hk ho).1.2;rw [n_22] at this;have:=this t ht;rw [n_22] at this;have:=this k' (by simpa using (getD_of hk').2);rw [(getD_of hk').1] at this;have e1:Nat.beq k' k=false:=n_73.2 fun hb=>hne (n_36 hb);simp only [e1,ho',n_6,hd,n_75,beq_self_eq_true,n_68] at this;by_cases hlt:k' < k
  ·rw [if_pos (by simpa [n_30] using hlt)] at this;exact .inl ⟨hlt,this⟩
  ·rw [if_neg (by simp; omega)] at this;exact .inr ⟨om_,this⟩
 ·have:=(get8 k j o hk ho).2;simp only [hd,n_39,n_22,n_90] at this
  rcases this with h | h
  ·cases h
  ·have:=h k' hlt;rw [(getD_of hk').1] at this;simp only [ho',n_6,hd',beq_self_eq_true,n_68,n_74,false_or] at this;exact this
 ·have:=h9 p (by simpa using hp) k q_277;simp only [n_39,n_117,n_90] at this
  rcases this with h | ⟨p',hp',h⟩
  ·exact .inl q_282
  ·exact .inr ⟨p',om_,h⟩
section
variable {ops:Array Oper}
def CHeadF (C:Ctx) (σ:List CObj) (ops:Array Oper) (K:Env->List (List CObj->Prop)->Prop):List Nat->Env->List (List CObj->Prop)->Prop
 | [],E,S=>K E S
 | i::l,E,S=>∃ o c g,ops[i]? = some o/\HeadOp C σ ops o E c g/\CHeadF C σ ops K l (E.put o.dst c g) (S++[fun σ'=>HeadOp C σ' ops o E c g])
def TailOp (C:Ctx) (ops:Array Oper) (o:Oper) (E:Env) (σ:List CObj) (K:CV->Prop->List CObj->Prop) (Kp:CV->List CObj->Prop):Prop :=
 (o.guard=none/\Does C σ E o fun r σ'=>match r with | .ret c=>K c True σ' | .pan c=>Kp c σ')\/(∃ c g,HeadOp C σ ops o E c g/\K c g σ)
def Floats (S:List (List CObj->Prop)) (σ:List CObj):List Nat->Prop
 | []=>True
 | k::l=>(S.getD k fun _=>True) σ/\Floats S σ l
theorem Floats.get:∀ {l:List Nat},Floats S σ l->∀ k∈l,(S.getD k fun _=>True) σ
 | [],_,k,h=>by cases h
 | x::l,⟨h1,h2⟩,k,h=>by
  rcases n_13.1 h with rfl | h
  ·exact h1
  ·exact h2.get k h
def CTail (C:Ctx) (ops:Array Oper) (Q:CExit->Env->List CObj->Prop) (S:List (List CObj->Prop)):List (Nat × List Nat)->Env->List CObj->Prop
 | [],E,σ=>Q .normal E σ
 | (i,fl)::l,E,σ=>∃ o,ops[i]? = some o/\TailOp C ops o E σ (fun c g σ'=>Floats S σ' fl/\CTail C ops Q S l (E.put o.dst c g) σ') (fun c σ'=>∀ E',Q (.pan c) E' σ')
theorem envOf_app (L:Nat->Bool):∀ (l r:List (Oper × CV × Prop)) (k:Nat) (E:Env),envOf L k (l++r) E=envOf L (k+l.length) r (envOf L k l E)
 | [],_,_,_=>rfl
 | (o,c,g)::l,r,k,E=>by
  simp only [n_48,envOf,n_7];rw [envOf_app L l r (k+1)]
  congr 1; omega
theorem envOf_off {L:Nat->Bool}:∀ (l:List (Oper × CV × Prop)) (k:Nat) (E:Env),(∀ i,i < l.length->L (k+i)=false)->envOf L k l E=E
 | [],_,_,_=>rfl
 | (o,c,g)::l,k,E,h=>by
  have h0:=h 0 si_;rw [n_38] at h0;simp only [envOf,h0];exact envOf_off l (k+1) E fun i hi=>by
   have:=h (i+1) q_274;rwa [show k+(i+1)=k+1+i by omega] at this
theorem envOf_congr {L L':Nat->Bool}:∀ (l:List (Oper × CV × Prop)) (k:Nat) (E:Env),(∀ i,i < l.length->L (k+i)=L' (k+i))->envOf L k l E=envOf L' k l E
 | [],_,_,_=>rfl
 | (o,c,g)::l,k,E,h=>by
  have h0:=h 0 si_;rw [n_38] at h0;simp only [envOf,h0];exact envOf_congr l (k+1) _ fun i hi=>by
   have:=h (i+1) q_274;rwa [show k+(i+1)=k+1+i by omega] at this
theorem envOf_last {d:Nat} {L:Nat->Bool}:∀ (l:List (Oper × CV × Prop)) (k j:Nat) (E:Env) (o:Oper) (c:CV) (g:Prop),l[j]? = some (o,c,g)->o.dst=some d->L (k+j)=true->(∀ i x,j < i->l[i]? = some x->L (k+i)=true->x.1.dst≠some d) ->
 (envOf L k l E).f d=c/\(envOf L k l E).ok d=g/\(envOf L k l E).un d=(¬ g)
 | [],_,_,_,_,_,_,h,_,_,_=>by simp at h
 | (o',c',g')::l,k,0,E,o,c,g,h,hd,hL,hu=>by
  simp only [n_91,Option.some.injEq,Prod.mk.injEq] at h;obtain ⟨rfl,rfl,rfl⟩:=h;rw [n_38] at hL;simp only [envOf,hL];have:(envOf L (k+1) l (E.put o'.dst c' g')).agree d (envOf (fun _=>false) (k+1) l (E.put o'.dst c' g')):=envOf_agree l _ _ _ ⟨rfl,rfl,rfl⟩ fun i x hi hx=>(by
   cases hLi:L (k+1+i) with
   | false=>rfl
   | true=>exact absurd hx (hu (i+1) x om_ q_274 (by rwa [show k+(i+1)=k+1+i by omega])))
  rw [envOf_off (L:=fun _=>false) l _ _ (fun _ _=>rfl)] at this;rw [this.1,this.2.1,this.2.2,hd,Env.put_f,Env.put_ok,Env.put_un];simp
 | (o',c',g')::l,k,j+1,E,o,c,g,h,hd,hL,hu=>by
  simp only [envOf];exact envOf_last l (k+1) j _ o c g q_282 hd (by rwa [show k+1+j=k+(j+1) from by omega]) fun i x hij hi hLi=>hu (i+1) x om_ q_274 (by rwa [show k+(i+1)=k+1+i by omega])
def Stab (C:Ctx) (ops:Array Oper) (hs:List (Oper × CV × Prop)) (E:Env) (k:Nat) (σ':List CObj):Prop :=
 match hs[k]? with
 | some (o,c,g)=>HeadOp C σ' ops o (envOf (fun j=>decide (j < k)) 0 hs E) c g
 | none=>True
theorem cheadF_vals {K:Env->List (List CObj->Prop)->Prop}:∀ (l:List Nat) (E:Env) (S:List (List CObj->Prop)),CHeadF C σ ops K l E S->∃ hs:List (Oper × CV × Prop),hs.length=l.length/\(∀ (k i:Nat),l[k]? = some i->∃ o c g,hs[k]? = some (o,c,g)/\ops[i]? = some o) /\
 K (envOf (fun _=>true) 0 hs E) (S++(List.range hs.length).map (Stab C ops hs E)) /\
 ∀ (k:Nat) (o:Oper) (c:CV) (g:Prop),hs[k]? = some (o,c,g)->HeadOp C σ ops o (envOf (fun j=>decide (j < k)) 0 hs E) c g
 | [],E,S,h=>⟨[],rfl,si_,by simpa [CHeadF,envOf] using h,si_⟩
 | i::l,E,S,⟨o,c,g,ho,h1,h2⟩=>by
  obtain ⟨hs,e0,e1,e2,e3⟩:=cheadF_vals l _ _ h2;have shift:∀ (L:Nat->Bool) (l:List (Oper × CV × Prop)) (k:Nat) (E:Env),envOf L (k+1) l E=envOf (fun i=>L (i+1)) k l E:=by
   intro L l
   induction l with
   | nil=>intros; rfl
   | cons x l ih=>intro k E; obtain ⟨a,b,c⟩:=x; simp only [envOf]; exact ih _ _
  have h0:envOf (fun j=>decide (j < 0)) 0 ((o,c,g)::hs) E=E:=envOf_off _ _ _ (fun i hi=>by simp);have hS:∀ k,envOf (fun j=>decide (j < k+1)) 0 ((o,c,g)::hs) E=envOf (fun j=>decide (j < k)) 0 hs (E.put o.dst c g):=fun k=>by
   simp only [envOf];have:decide (0 < k+1)=true:=by simp
   rw [this,shift]
   congr 1
   funext j; simp
  refine ⟨(o,c,g)::hs,by simp [e0],fun k j hk=>?_,?_,fun k o' c' g' hk=>?_⟩
  ·rcases k with _ | k
   ·simp at hk; subst hk; exact ⟨o,c,g,rfl,ho⟩
   ·simpa using e1 k j q_277
  ·have hK:envOf (fun _=>true) 0 ((o,c,g)::hs) E=envOf (fun _=>true) 0 hs (E.put o.dst c g):=by
    simp only [envOf];rw [shift]
   rw [hK];have hl:(S++[fun σ'=>HeadOp C σ' ops o E c g])++((List.range hs.length).map (Stab C ops hs (E.put o.dst c g)))=S++(List.range ((o,c,g)::hs).length).map (Stab C ops ((o,c,g)::hs) E):=by
    rw [n_8]
    congr 1
    rw [n_7,List.range_succ_eq_map,n_65,List.map_map];rw [List.singleton_append]
    congr 1
    ·funext σ'
     simp only [Stab,n_91,h0]
    ·refine List.map_congr_left fun k _=>?_
     funext σ'
     simp only [Stab,Function.comp,n_118,Nat.succ_eq_add_one,hS]
   rw [<- hl];exact e2
  ·rcases k with _ | k
   ·simp only [n_91,Option.some.injEq,Prod.mk.injEq] at hk;obtain ⟨rfl,rfl,rfl⟩:=hk;rw [h0]; exact h1
   ·rw [hS];exact e3 k o' c' g' q_277
theorem anc_float (hok:FloatOk ops ix nh ms fls) (hcl:∀ k o,ops[k]? = some o->listed.getD k false=true->∀ e∈o.after,binding e=true->listed.getD e.on false=true) :
 ∀ (j:Nat) (o:Oper),ops[j]? = some o->(∀ e∈o.after,binding e=true->listed.getD e.on false=true)->∀ i,i < ops.size->(ms.getD j 0).testBit i=true->listed.getD i false=true:=by
 intro j
 induction j using Nat.strongRecOn with
 | _ j ih =>
  intro o ho he i hi hm;obtain ⟨e,hmem,hb,hx⟩:=hok.mask j o ho i hi hm
  rcases hx with hx | hx
  ·subst hx; exact he e hmem hb
  ·have hlt:=hok.edge j o ho e hmem hb;have hj:j < ops.size:=(n_16.1 ho).1;have ho':ops[e.on]? = some (ops[e.on]'om_):=by simp [show e.on < ops.size by omega]
   exact ih e.on hlt _ ho' (hcl _ _ ho' (he e hmem hb)) i hi hx
theorem any_float (hok:FloatOk ops ix nh ms fls) {hs:List (Oper × CV × Prop)} (hhl:hs.length=nh) (hhs:∀ (k i:Nat),k < nh->ix[k]? = some i->∃ o c g,hs[k]? = some (o,c,g)/\ops[i]? = some o)
 (hd:∀ o∈ops,∀ d,o.dst=some d->d < n) {S:List (List CObj->Prop)} (hS:∀ (k:Nat) (o:Oper) (c:CV) (g:Prop) σ',hs[k]? = some (o,c,g)->(S.getD k fun _=>True) σ'->HeadOp C σ' ops o (envOf (fun j=>decide (j < k)) 0 hs E) c g) (M0:Plan) (w0:World) :
 ∀ (fuel:Nat) (j:Nat) (ts:List (Oper × CV × Prop)) (listed:Array Bool) (u:List Nat) (σ:List CObj) (a:Act) (w:World) (M:Plan),listed.size=ops.size->u.length=fuel->(∀ i,i < ops.size->listed.getD i false=false->i∈u)->(∀ i,i∈u->i < ops.size/\listed.getD i false=false)->u.Nodup ->
  (∀ k o,ops[k]? = some o->listed.getD k false=true->∀ e∈o.after,binding e=true->listed.getD e.on false=true) ->
  nh+j<=ops.size->ts.length=j->(∀ (k i:Nat),nh<=k->k < nh+j->ix[k]? = some i->listed.getD i false=true/\∃ o c g,ts[k - nh]? = some (o,c,g)/\ops[i]? = some o)->(∀ (k i:Nat),nh+j<=k->ix[k]? = some i->listed.getD i false=false) ->
  (∀ (k i:Nat) (o:Oper) (c:CV) (g:Prop),k < nh->ix[k]? = some i->listed.getD i false=false->hs[k]? = some (o,c,g)->HeadOp C σ ops o (envOf (fun j=>decide (j < k)) 0 hs E) c g) ->
  CTail C ops Q S (((List.range (ops.size - nh)).map fun p=>(ix.getD (nh+p) 0,fls.getD p [])).drop j) (envOf (fun _=>true) 0 (hs++ts) E) σ ->
  Ext M0 w0 M w->Rel C M σ w->FRel M w n (envOf (fun k=>listed.getD (ix.getD k 0) false) 0 (hs++ts) E) a->wpAny C.P .any ops (Lift C n Q M0 w0) fuel listed a w:=by
 have ixD:∀ {k i:Nat},ix[k]? = some i->ix.getD k 0=i:=fun {k i} h=>by simp [h]
 have ixk:∀ k,k < ops.size->∃ i:Nat,ix[k]? = some i:=fun k hk=>⟨ix[k]'(by rw [hok.len]; exact hk),si_⟩;have hclosed:∀ {listed:Array Bool},(∀ k o,ops[k]? = some o->listed.getD k false=true->∀ e∈o.after,binding e=true->listed.getD e.on false=true)->∀ i j:Nat,i < ops.size->j < ops.size->(ms.getD j 0).testBit i=true->listed.getD j false=true->listed.getD i false=true:=fun {listed} hcl i j hi hj hm hl=>by
  have ho:ops[j]? = some ops[j]:=by simp [hj]
  exact anc_float hok hcl j _ ho (hcl j _ ho hl) i hi hm
 intro fuel
 induction fuel with
 | zero =>
  intro j ts listed u σ a w M hsz hu hun _ _ hcl hjs hts htl hut hst hct hx hr hf;have hu0:u=[]:=n_87 hu;subst hu0;have hall:∀ i,i < ops.size->listed.getD i false=true:=fun i hi=>by
   cases h:listed.getD i false with
   | true=>rfl
   | false=>exact absurd (hun i hi h) si_
  have hj:ops.size<=nh+j:=by
   rcases n_23 (nh+j) ops.size with h | h
   ·obtain ⟨i,hi⟩:=ixk _ h;have:=hut _ i (n_5 _) hi;rw [hall i (hok.lt _ _ hi)] at this;cases this
   ·exact h
  rw [n_34 q_287] at hct;refine ⟨n_131.2 fun i hi=>?_,_,σ,M,hx,hr,hf,?_⟩
  ·obtain ⟨h1,o,ho,_⟩:=mem_ready.1 hi;have hi':i < ops.size:=(n_16.1 ho).1;have h2:=(getD_false_true om_).1 h1;rw [hall i hi'] at h2;cases h2
  ·have he:envOf (fun k=>listed.getD (ix.getD k 0) false) 0 (hs++ts) E=envOf (fun _=>true) 0 (hs++ts) E:=envOf_congr _ _ _ fun k hk=>by
    rw [n_10];simp [hhl,hts] at hk;obtain ⟨i,hi⟩:=ixk k om_;rw [ixD hi]; exact hall i (hok.lt _ _ hi)
   rw [he]; exact hct
 | succ fuel ih =>
  intro j ts listed u σ a w M hsz hu hun hun' hnd hcl hjs hts htl hut hst hct hx hr hf;have hleast:∃ j,j∈Region.ready .any ops listed:=by
   have hex:∃ j,j < ops.size/\listed.getD j false=false:=by
    cases u with
    | nil=>simp at hu
    | cons x u=>exact ⟨x,hun' x si_⟩
   obtain ⟨j,hj,hmin⟩:∃ j,(j < ops.size/\listed.getD j false=false)/\∀ i,i < j->¬ (i < ops.size/\listed.getD i false=false):=by
    obtain ⟨j,hj⟩:=hex
    induction j using Nat.strongRecOn with
    | _ j ihj =>
     by_cases h:∃ i,i < j/\i < ops.size/\listed.getD i false=false
     ·obtain ⟨i,hi,hp⟩:=h;exact ihj i hi hp
     ·exact ⟨j,hj,fun i hi hp=>h ⟨i,hi,hp⟩⟩
   refine ⟨j,mem_ready.2 ⟨(getD_false_true om_).2 hj.2,ops[j]'hj.1,by simp [hj.1],fun e he hb=>?_⟩⟩;have hlt:=hok.edge j _ (by simp [hj.1]) e he hb;cases h:listed.getD e.on false with
   | true=>rfl
   | false=>exact absurd ⟨om_,h⟩ (hmin e.on hlt)
  obtain ⟨j0,hj0⟩:=hleast;refine ⟨fun h0=>(by rw [h0] at hj0; cases hj0),fun i hi=>?_⟩;obtain ⟨h1,o,ho,he⟩:=mem_ready.1 hi;have his:i < ops.size:=(n_16.1 ho).1;have hiL:listed.getD i false=false:=(getD_false_true om_).1 h1;obtain ⟨k,hk⟩:=hok.onto i his;have hks:k < ops.size:=by rw [<- hok.len]; exact (n_1.1 hk).1
  have hiu:i∈u:=hun i his hiL;have hgd:∀ x,(listed.setIfInBounds i true).getD x false=if x=i then true else listed.getD x false:=fun x=>by
   by_cases hxi:x=i
   ·subst hxi;have:x < listed.size:=by omega
    simp [this]
   ·rw [if_neg hxi];simp [n_64 (Ne.symm hxi)]
  have hent:∀ (k':Nat) (x:Oper × CV × Prop),(hs++ts)[k']? = some x->∃ i':Nat,ix[k']? = some i'/\ops[i']? = some x.1/\k' < nh+j/\(nh<=k'->listed.getD i' false=true):=fun k' x hx'=>by
   have hlt:k' < nh+j:=by
    have:=(n_1.1 hx').1;simpa [hhl,hts] using this
   obtain ⟨i',hi'⟩:=ixk k' om_;refine ⟨i',hi',?_,hlt,fun h=>(htl k' i' h hlt hi').1⟩
   rcases n_23 k' nh with h | h
   ·rw [n_15 om_] at hx';obtain ⟨o',c',g',g1,g2⟩:=hhs k' i' h hi';rw [g1] at hx'; cases hx'; exact g2
   ·rw [n_27 om_,hhl] at hx';obtain ⟨_,o',c',g',g1,g2⟩:=htl k' i' h hlt hi';rw [g1] at hx'; cases hx'; exact g2
  have hgen:(∀ x,x < ops.size->(listed.setIfInBounds i true).getD x false=false->x∈u.erase i)/\(∀ x,x∈u.erase i->x < ops.size/\(listed.setIfInBounds i true).getD x false=false) /\
   (∀ x ox,ops[x]? = some ox->(listed.setIfInBounds i true).getD x false=true->∀ e∈ox.after,binding e=true->(listed.setIfInBounds i true).getD e.on false=true):=by
   refine ⟨fun x hx' hxl=>?_,fun x hx'=>?_,fun x ox hox hxl e hex hb=>?_⟩
   ·rw [hgd] at hxl;split at hxl
    ·cases hxl
    ·rename_i hne;exact (List.mem_erase_of_ne hne).2 (hun x hx' hxl)
   ·have hne:x≠i:=fun e=>by subst e; exact (hnd.not_mem_erase) hx'
    rw [hgd,if_neg hne];exact hun' x (List.mem_of_mem_erase hx')
   ·rw [hgd] at hxl ⊢
    split
    ·rfl
    ·split at hxl
     ·rename_i hxi;subst hxi;rw [ho] at hox;injection hox with hox
      subst hox;exact he e hex hb
     ·exact hcl x ox hox hxl e hex hb
  have quiet:∀ (E1:Env) (c:CV) (g:Prop),HeadOp C σ ops o E1 c g->(∀ t,t∈o.looksAt ops->E1.agree t (envOf (fun k=>listed.getD (ix.getD k 0) false) 0 (hs++ts) E)) ->
   (∀ (v:Value) (w':World) (M':Plan),Ext M w M' w'->Rel C M' σ w'->(g->RV M' w' c v)->(¬ g->v=undef)->wpAny C.P .any ops (Lift C n Q M0 w0) fuel (listed.setIfInBounds i true) (a.put o.dst v) w') ->
   wpOp C.P ops (Lift C n Q M0 w0) i (wpAny C.P .any ops (Lift C n Q M0 w0) fuel (listed.setIfInBounds i true)) a w:=by
   intro E1 c g hop hag next;unfold wpOp;simp only [ho];have hopr:∀ x∈o.op.operands,E1.valid x->RV M w (E1.val C x) (a.eval x):=fun x hx hv=>by
    cases x with
    | tmp t =>
     have h2:=hag t (looksAt_op hx);simp only [Env.val,Env.valid] at hv ⊢;rw [h2.1];exact hf.rv t (by rw [<- h2.2.1]; exact hv)
    | const v=>exact hf.eval (x:=.const v) hr hv
    | global v=>exact hf.eval (x:=.global v) hr hv
    | func v=>exact hf.eval (x:=.func v) hr hv
   rcases hop with ⟨hg,hgp,hy⟩ | ⟨jj,t,want,b,hg,ht,hok',hb,hgb,hy⟩
   ·rw [if_pos q_264];refine .inl (wp_of_upon (hy M w a.eval hr hopr) (fun v w' ha=>?_) (fun ch w' ha=>?_))
    ·obtain ⟨c',σ',M',h1,h2,h3,h4,rfl⟩:=ha;injection h4 with h4
     subst h4;exact next v w' M' h1 h2 (fun _=>h3) fun hh=>absurd hgp hh
    ·obtain ⟨c',v,σ',M',_,_,_,_,h4,_⟩:=ha;cases h4
   ·have h2:=hag t (looksAt_guard hg ht);by_cases hokt:E1.ok t
    ·have h3:RV M w ((envOf (fun k=>listed.getD (ix.getD k 0) false) 0 (hs++ts) E).f t) (a.tmps.getD t undef):=hf.rv t (by rw [<- h2.2.1]; exact hokt);rw [<- h2.1,hb] at h3;have h4:=rv_val h3;have hszt:t < a.tmps.size:=by
      rcases n_23 t a.tmps.size with h' | h'
      ·exact h'
      ·simp [n_43 h',undef] at h4
     have h5:a.tmps[t]? = some (.bool b):=by
      rw [n_21,n_24 hszt] at h4;rw [n_24 hszt,<- h4]; rfl
     have h6:yielded ops a.tmps jj=some b:=by unfold yielded; rw [ht,n_6,h5]
     have hw:Region.wanted o (yielded ops a.tmps)=(b == want):=by
      simp only [Region.wanted,hg,h6];cases b <;> cases want <;> rfl
     by_cases hbw:b=want
     ·rw [if_pos q_263];refine .inl (wp_of_upon (hy hokt hbw M w a.eval hr hopr) (fun v w' ha=>?_) (fun ch w' ha=>?_))
      ·obtain ⟨c',σ',M',h1,h2,h3,h4,rfl⟩:=ha;injection h4 with h4
       subst h4;exact next v w' M' h1 h2 (fun _=>h3) fun hh=>absurd (hgb.2 ⟨hokt,hbw⟩) hh
      ·obtain ⟨c',v,σ',M',_,_,_,_,h4,_⟩:=ha;cases h4
     ·rw [if_neg q_263];exact next undef w M (Ext.refl M w) hr (fun hgg=>absurd (hgb.1 hgg).2 hbw) fun _=>rfl
    ·have h3:=hf.un t (by rw [<- h2.2.2]; exact hok' hokt);have h6:yielded ops a.tmps jj=none:=by
      unfold yielded;rw [ht,n_6]
      rcases n_23 t a.tmps.size with h' | h'
      ·rw [n_21,n_24 h'] at h3;rw [n_24 h'];simp only [n_44] at h3;rw [h3];rfl
      ·rw [n_43 h']
     have hw:Region.wanted o (yielded ops a.tmps)=false:=by
      simp only [Region.wanted,hg,h6];cases want <;> rfl
     rw [if_neg (by rw [hw]; simp)];exact next undef w M (Ext.refl M w) hr (fun hgg=>absurd (hgb.1 hgg).1 hokt) fun _=>rfl
  have seen:∀ t,t∈o.looksAt ops->∀ (k':Nat) (x:Oper × CV × Prop),(hs++ts)[k']? = some x->x.1.dst=some t->k'≠k->(k' < k->listed.getD (ix.getD k' 0) false=true)/\(k < k'->listed.getD (ix.getD k' 0) false=false):=fun t ht k' x hx' hxd hne=>by
   obtain ⟨i',hi',ho',hlt',_⟩:=hent k' x hx';rw [ixD hi'];have his':=hok.lt _ _ hi'
   rcases hok.tmps k i o hk ho t ht k' i' x.1 hne hi' ho' hxd with ⟨q1,q2⟩ | ⟨q1,q2⟩
   ·exact ⟨fun _=>anc_float hok hcl i o ho (fun e hek hb=>he e hek hb) i' his' q2,fun h=>by omega⟩
   ·refine ⟨fun h=>by omega,fun _=>?_⟩;cases hl:listed.getD i' false with
    | false=>rfl
    | true =>
     have:=hclosed hcl i i' his his' q2 hl;rw [hiL] at this;cases this
  rcases n_23 k nh with hkn | hkn
  ·
   obtain ⟨o',c,g,hc,ho'⟩:=hhs k i hkn hk;rw [ho] at ho';injection ho' with ho'
   subst ho';have hop:=hst k i o c g hkn hk hiL hc;refine quiet _ c g hop (fun t ht=>?_) fun v w' M' hx' hr' hv hun0=>?_
   ·have e1:envOf (fun j=>decide (j < k)) 0 hs E=envOf (fun j=>decide (j < k)) 0 (hs++ts) E:=by
     rw [envOf_app,envOf_off (L:=fun j=>decide (j < k)) ts _ _ (fun i' hi'=>by simp; omega)]
    rw [e1];refine envOf_agree (hs++ts) 0 E E ⟨rfl,rfl,rfl⟩ fun k' x hx' hxd=>?_;rw [n_10];by_cases hkk:k'=k
    ·subst hkk; rw [ixD hk,hiL]; simp
    ·have:=seen t ht k' x hx' hxd hkk
     rcases n_127 hkk with h | h
     ·rw [this.1 h]; simp [h]
     ·rw [this.2 h]; simp; omega
   ·refine ih j ts (listed.setIfInBounds i true) (u.erase i) σ _ w' M' (by simp [hsz]) q_215 hgen.1 hgen.2.1 (hnd.erase i) hgen.2.2 hjs hts (fun k' i' h1 h2 h3=>?_) (fun k' i' h1 h3=>?_) (fun k' i' o' c' g' h1 h2 h3 h4=>?_) hct (hx.trans hx') hr' ?_
    ·obtain ⟨g1,g2⟩:=htl k' i' h1 h2 h3;refine ⟨?_,g2⟩;rw [hgd]; split
     ·rfl
     ·exact g1
    ·have hne:i'≠i:=fun e=>by
      subst e;have:=hok.nodup k k' i' hk h3;omega
     rw [hgd,if_neg hne];exact hut k' i' h1 h3
    ·rw [hgd] at h3;split at h3
     ·cases h3
     ·exact hst k' i' o' c' g' h1 h2 h3 h4
    ·have hput:=(hf.mono hx').put (d:=o.dst) (c:=c) (v:=v) (g:=g) (fun t ht=>hd o (n_47 ho) t ht) hv hun0;have hag':∀ t,(envOf (fun k=>(listed.setIfInBounds i true).getD (ix.getD k 0) false) 0 (hs++ts) E).agree t ((envOf (fun k=>listed.getD (ix.getD k 0) false) 0 (hs++ts) E).put o.dst c g):=by
      intro t;by_cases hdt:o.dst=some t
      ·have hat:=envOf_last (L:=fun k=>(listed.setIfInBounds i true).getD (ix.getD k 0) false) (hs++ts) 0 k E o c g (by rw [n_15 om_]; exact hc) hdt (by simp only [n_10,ixD hk,hgd,if_true]) (fun k' x hlt hx' hLx hxd=>by
        obtain ⟨i',hi',ho',_,_⟩:=hent k' x hx';rw [n_10,ixD hi',hgd] at hLx;have hne:i'≠i:=fun e=>by
         subst e;have:=hok.nodup k k' i' hk hi';omega
        rw [if_neg hne] at hLx;have hm:=hok.dsts k' k i' i x.1 o t hlt hi' hk ho' ho hxd hdt;have:=hclosed hcl i i' his (hok.lt _ _ hi') hm hLx;rw [hiL] at this;cases this)
       unfold Env.agree;rw [hat.1,hat.2.1,hat.2.2,hdt,Env.put_f,Env.put_ok,Env.put_un];simp
      ·refine (agree_put_other hdt ?_).symm;refine envOf_agree (hs++ts) 0 E E ⟨rfl,rfl,rfl⟩ fun k' x hx' hxd=>?_;obtain ⟨i',hi',ho',_,_⟩:=hent k' x hx';rw [n_10,ixD hi',hgd]
       split
       ·rename_i hki;subst hki;rw [ho] at ho';injection ho' with ho'
        rw [<- ho'] at hxd;exact absurd hxd hdt
       ·rfl
     refine ⟨hput.defers,hput.size,fun t ht=>?_,fun t ht=>hput.un t (by rw [<- (hag' t).2.2]; exact ht)⟩;rw [(hag' t).1];exact hput.rv t (by rw [<- (hag' t).2.1]; exact ht)
  ·
   have hkj:k=nh+j:=by
    rcases n_128 k (nh+j) with h | h | h
    ·have:=(htl k i hkn h hk).1;rw [hiL] at this; cases this
    ·exact h
    ·obtain ⟨i',hi'⟩:=ixk (nh+j) om_;have hm:=hok.tail k (nh+j) i i' om_ h hk hi';have:=anc_float hok hcl i o ho (fun e hek hb=>he e hek hb) i' (hok.lt _ _ hi') hm;rw [hut (nh+j) i' (n_5 _) hi'] at this;cases this
   subst hkj;have hdrop:(((List.range (ops.size - nh)).map fun p=>(ix.getD (nh+p) 0,fls.getD p [])).drop j)=(i,fls.getD j [])::(((List.range (ops.size - nh)).map fun p=>(ix.getD (nh+p) 0,fls.getD p [])).drop (j+1)):=by
    rw [n_25 q_287];rw [List.getElem_map,List.getElem_range,ixD hk]
   rw [hdrop] at hct;obtain ⟨o',ho',hct⟩:=hct;rw [ho] at ho';injection ho' with ho'
   subst ho';have hag:∀ t,t∈o.looksAt ops->(envOf (fun _=>true) 0 (hs++ts) E).agree t (envOf (fun k=>listed.getD (ix.getD k 0) false) 0 (hs++ts) E):=fun t ht=>envOf_agree (hs++ts) 0 E E ⟨rfl,rfl,rfl⟩ fun k' x hx' hxd=>by
    obtain ⟨i',hi',ho',hlt',_⟩:=hent k' x hx';rw [n_10,(seen t ht k' x hx' hxd om_).1 hlt']
   have next:∀ (v:Value) (c:CV) (g:Prop) (σ':List CObj) (w':World) (M':Plan),(Floats S σ' (fls.getD j [])/\CTail C ops Q S (((List.range (ops.size - nh)).map fun p=>(ix.getD (nh+p) 0,fls.getD p [])).drop (j+1)) ((envOf (fun _=>true) 0 (hs++ts) E).put o.dst c g) σ') ->
    Ext M w M' w'->Rel C M' σ' w'->(g->RV M' w' c v)->(¬ g->v=undef)->wpAny C.P .any ops (Lift C n Q M0 w0) fuel (listed.setIfInBounds i true) (a.put o.dst v) w':=by
    intro v c g σ' w' M' ⟨hfl,hct'⟩ hx' hr' hv hun0;have hts1:∀ L:Nat->Bool,envOf L 0 (hs++(ts++[(o,c,g)])) E=match L (nh+j) with | true=>(envOf L 0 (hs++ts) E).put o.dst c g | false=>envOf L 0 (hs++ts) E:=fun L=>by
     rw [<- n_8,envOf_app];have:0+(hs++ts).length=nh+j:=by simp [hhl,hts]
     rw [this]; rfl
    have hLc:envOf (fun k=>(listed.setIfInBounds i true).getD (ix.getD k 0) false) 0 (hs++ts) E=envOf (fun k=>listed.getD (ix.getD k 0) false) 0 (hs++ts) E:=envOf_congr _ _ _ fun k' hk'=>by
     rw [n_10];have hlt':k' < nh+j:=by simpa [hhl,hts] using hk'
     obtain ⟨i',hi'⟩:=ixk k' om_;rw [ixD hi',hgd,if_neg];intro e; subst e;have:=hok.nodup k' (nh+j) i' hi' hk;omega
    refine ih (j+1) (ts++[(o,c,g)]) (listed.setIfInBounds i true) (u.erase i) σ' _ w' M' (by simp [hsz]) q_215 hgen.1 hgen.2.1 (hnd.erase i) hgen.2.2 om_ (by simp [hts]) (fun k' i' h1 h2 h3=>?_) (fun k' i' h1 h3=>?_) (fun k' i' o' c' g' h1 h2 h3 h4=>?_) (by rw [hts1]; exact hct') (hx.trans hx') hr' ?_
    ·by_cases hkk:k'=nh+j
     ·subst hkk;rw [hk] at h3;injection h3 with h3
      subst h3;refine ⟨by rw [hgd,if_pos rfl],o,c,g,?_,ho⟩;rw [show nh+j - nh=ts.length by omega];simp
     ·obtain ⟨g1,o',c',g',g2,g3⟩:=htl k' i' h1 om_ h3;refine ⟨?_,o',c',g',?_,g3⟩
      ·rw [hgd]; split
       ·rfl
       ·exact g1
      ·rw [n_15 om_]; exact g2
    ·have hne:i'≠i:=fun e=>by
      subst e;have:=hok.nodup (nh+j) k' i' hk h3;omega
     rw [hgd,if_neg hne];exact hut k' i' om_ h3
    ·rw [hgd] at h3;split at h3
     ·cases h3
     ·rcases hok.fls j k' (by have:=hok.fl; omega) h1 with hin | ⟨p',hp',hm⟩
      ·exact hS k' o' c' g' σ' h4 (hfl.get k' hin)
      ·exfalso;obtain ⟨i'',hi''⟩:=ixk (nh+p') om_;rw [ixD hi'',ixD h2] at hm;have hl:listed.getD i' false=true:=by
        by_cases hpj:p'=j
        ·subst hpj;rw [hk] at hi'';injection hi'' with hi''
         subst hi'';exact anc_float hok hcl i o ho (fun e hek hb=>he e hek hb) i' (hok.lt _ _ h2) hm
        ·exact hclosed hcl i' i'' (hok.lt _ _ h2) (hok.lt _ _ hi'') hm (htl (nh+p') i'' om_ om_ hi'').1
       rw [hl] at h3;cases h3
    ·rw [hts1];have:(listed.setIfInBounds i true).getD (ix.getD (nh+j) 0) false=true:=by rw [ixD hk,hgd,if_pos rfl]
     simp only [this];rw [hLc];exact (hf.mono hx').put (d:=o.dst) (c:=c) (v:=v) (g:=g) (fun t ht=>hd o (n_47 ho) t ht) hv hun0
   rcases hct with ⟨hg,hdo⟩ | ⟨c,g,hop,hkk⟩
   ·unfold wpOp;simp only [ho];rw [if_pos q_264];have hopr:∀ x∈o.op.operands,(envOf (fun _=>true) 0 (hs++ts) E).valid x->RV M w ((envOf (fun _=>true) 0 (hs++ts) E).val C x) (a.eval x):=fun x hx hv=>by
     cases x with
     | tmp t =>
      have h2:=hag t (looksAt_op hx);simp only [Env.val,Env.valid] at hv ⊢;rw [h2.1];exact hf.rv t (by rw [<- h2.2.1]; exact hv)
     | const v=>exact hf.eval (x:=.const v) hr hv
     | global v=>exact hf.eval (x:=.global v) hr hv
     | func v=>exact hf.eval (x:=.func v) hr hv
    refine .inl (wp_of_upon (hdo M w a.eval hr hopr) (fun v w' ha=>?_) (fun ch w' ha=>?_))
    ·obtain ⟨c',σ',M',h1,h2,h3,h4⟩:=ha;exact next v c' True σ' w' M' h4 h1 h2 (fun _=>h3) fun hh=>absurd trivial hh
    ·obtain ⟨c',v,σ',M',h0,h1,h2,h3,h4⟩:=ha;exact ⟨_,σ',M',hx.trans h1,h2,hf.mono h1,c',v,h0,h3,h4 _⟩
   ·exact quiet _ c g hop hag fun v w' M' hx' hr' hv hun0=>next v c g σ w' M' hkk hx' hr' hv hun0
theorem cw_float {id:Nat} (ix:List Nat) (nh:Nat) (ms:List Nat) (fls:List (List Nat)) (hm:C.P.follows .mixedOrders=true) (hB:floatB ops ix nh ms fls=true) (hd:(ops.toList.all fun o=>match o.dst with | some d=>Nat.blt d n | none=>true)=true)
 {hd1l:List Nat} {tll:List (Nat × List Nat)} (hd1:List.take nh ix=hd1l) (hd2:((List.range (ops.size - nh)).map fun p=>(ix.getD (nh+p) 0,fls.getD p []))=tll)
 (h:CHeadF C σ ops (fun E' S=>CTail C ops Q S tll E' σ) hd1l E []):CWp C n (.region id ops true) Q E σ:=fun M w a hr hf=>by
 subst hd1 hd2;have hok:=floatOk hB;obtain ⟨hs,h0,h1,h2,h3⟩:=cheadF_vals _ _ _ h;obtain ⟨hr',hx⟩:=hr.drew;have hl:hs.length=nh:=by rw [h0,n_46,hok.len]; have:=hok.le; omega
 refine wp_region_any hm (any_float hok (S:=_) hl (fun k i hk hi=>?_) (fun o ho d hod=>?_) (fun k o c g σ' hk hS=>?_) M w ops.size 0 [] (Array.replicate ops.size false) (List.range ops.size) σ a _ M si_ si_ (fun i hi _=>by simpa using hi) (fun i hi=>?_) List.nodup_range (fun k o hk hkl=>?_) (by have:=hok.le; omega) rfl (fun k i h1 h2=>by omega) (fun k i _ hi=>?_) (fun k i o c g _ _ _ hk=>h3 k o c g hk) (by rw [n_32,n_70]; exact h2) hx hr' ?_)
 ·exact h1 k i (by rw [n_31,if_pos hk]; exact hi)
 ·rw [n_22] at hd;have:=hd o (by simpa using ho);rw [hod] at this;simpa [n_30] using this
 ·have hlt:=(n_1.1 hk).1;rw [n_33] at hS;have e:(((List.range hs.length).map (Stab C ops hs E)).getD k fun _=>True)=Stab C ops hs E k:=by simp [hlt]
  rw [e] at hS;simpa only [Stab,hk] using hS
 ·have:i < ops.size:=by simpa using hi
  exact ⟨this,by simp [this]⟩
 ·have hks:k < ops.size:=(n_16.1 hk).1;simp [hks] at hkl
 ·simp [hok.lt _ _ hi]
 ·have hff:envOf (fun k=>(Array.replicate ops.size false).getD (ix.getD k 0) false) 0 (hs++[]) E=E:=envOf_off _ _ _ fun i _=>by
   simp only [n_21,n_113]
   split <;> rfl
  rw [hff];exact hf.mono hx
end
section
variable {ops:Array Oper}
theorem hop_y (hg:o.guard=none) (hy:Yields C σ E o c):HeadOp C σ ops o E c True:=.inl ⟨hg,tt,hy⟩
theorem chf_nil {K:Env->List (List CObj->Prop)->Prop} (h:K E S):CHeadF C σ ops K [] E S:=h
theorem chf {K:Env->List (List CObj->Prop)->Prop} {l:List Nat} (ho:ops[i]? = some o) (hop:HeadOp C σ ops o E c g) (h:CHeadF C σ ops K l (E.put o.dst c g) (S++[fun σ'=>HeadOp C σ' ops o E c g])):CHeadF C σ ops K (i::l) E S :=
 ⟨o,c,g,ho,hop,h⟩
theorem ctl_nil (h:Q .normal E σ):CTail C ops Q S [] E σ:=h
theorem ctl_d {fl:List Nat} {l:List (Nat × List Nat)} (ho:ops[i]? = some o) (hg:o.guard=none) (h:Does C σ E o fun r σ'=>match r with | .ret c=>Floats S σ' fl/\CTail C ops Q S l (E.put o.dst c True) σ' | .pan c=>∀ E',Q (.pan c) E' σ'):CTail C ops Q S ((i,fl)::l) E σ :=
 ⟨o,ho,.inl ⟨hg,h⟩⟩
theorem ctl_h {fl:List Nat} {l:List (Nat × List Nat)} (ho:ops[i]? = some o) (hop:HeadOp C σ ops o E c g) (h:Floats S σ fl/\CTail C ops Q S l (E.put o.dst c g) σ):CTail C ops Q S ((i,fl)::l) E σ :=
 ⟨o,ho,.inr ⟨c,g,hop,h⟩⟩
end
end Go.Cl
