/- Part 1: values without addresses. -/
import Derived.WalkKit
import Derived.Below
import Derived.WideKeyArgs
import Derived.ChangeSame
import Derived.ChangeSlices
import Derived.Lib.SmallJoins
import Derived.LaidLaws
import Derived.LaidMore
import Derived.LaidHandle
import Derived.JoinedOf
import Derived.Handed
import Derived.Stop.Joined
import Derived.Lib.MinMax
import Derived.Test.YtlppbmfecjabeaaGreatDoorE0
set_option linter.all false
set_option maxRecDepth 100000
set_option maxHeartbeats 4000000
namespace Go.Cl
variable {w w':World} {a:Act} {aa:Array Oper} {v:Value} {n t j id:Nat} {o:Oper} {l:List Oper} {b aq:Bool} {x y:Code}
inductive CV where
 | val (v:Value)
 | agg (cs:List CV)
 | tup (cs:List CV)
 | list (V:List (List CV)) (nn:Bool) (tok:Option Nat)
 | ptr (k off:Nat)
 | cptr (cells:List CV)
 | eptr (k i off:Nat)
 | vec (k off len:Nat)
 | map (k:Nat)
 | yld (k:Nat)
 | clo (f:FuncId) (cs:List CV)
variable {c:CV}
instance:Inhabited CV:=⟨.val undef⟩
structure Pl where
 block:Nat
 cap:Nat
 size:Nat
structure A9 where
 pl:List Pl
 full:Nat->Prop
 cell:Nat->Nat->Prop
 keep:Nat->Prop
variable {M M':A9}
def A9.at (M:A9) (b o:Nat):Prop:=M.full b\/M.cell b o
def CV.one:CV->Bool
 | .val v=>v.oneCell'
 | .agg _ | .tup _=>false
 | _=>true
inductive RV (M:A9) (w:World):CV->Value->Prop where
 | val (v:Value):RV M w (.val v) v
 | agg {cs:List CV} {vs:Array Value}:vs.size=cs.length->(∀ c∈cs,c.one=true)->(∀ (i:Nat) (c:CV),cs[i]? = some c->RV M w c (vs.getD i undef))->RV M w (.agg cs) (.agg vs)
 | tup {cs:List CV} {vs:Array Value}:vs.size=cs.length->(∀ (i:Nat) (c:CV),cs[i]? = some c->RV M w c (vs.getD i undef))->RV M w (.tup cs) (.tuple vs)
 | clo {f:FuncId} {cs:List CV} {vs:Array Value}:vs.size=cs.length->(∀ (i:Nat) (c:CV),cs[i]? = some c->RV M w c (vs.getD i undef))->RV M w (.clo f cs) (.func (.func f) #[] vs)
 | list {V:List (List CV)} {nn:Bool} {tok:Option Nat} {a:Option Addr} {cap b off s:Nat} (vals:Nat->Nat->Value) :
  V.length<=cap->cap<=maxLen->a.isSome=nn->(nn=false->cap=0)->(V≠[]->a=some ⟨b,off,none⟩) ->
  (∀ r∈V,r.length=s)->(∀ r∈V,∀ c∈r,c.one=true) ->
  (∀ (i j:Nat) (r:List CV) (c:CV),V[i]? = some r->r[j]? = some c->M.at b (off+i*s+j)/\w.cell? ⟨b,off+i*s+j,none⟩=some (vals i j)) ->
  (∀ (i j:Nat) (r:List CV) (c:CV),V[i]? = some r->r[j]? = some c->RV M w c (vals i j)) ->
  (∀ k,tok=some k->∃ s',M.pl[k]? = some ⟨b,cap,s'⟩/\a=some ⟨b,0,none⟩/\off=0/\(V≠[]->s'=s)) ->
  RV M w (.list V nn tok) (.slice a V.length cap)
 | ptr {k off:Nat} {p:Pl}:M.pl[k]? = some p->RV M w (.ptr k off) (.pointer (some ⟨p.block,off,none⟩))
 | cptr {cells:List CV} {b off:Nat} (vals:Nat->Value):(∀ c∈cells,c.one=true) ->
  (∀ (j:Nat) (c:CV),cells[j]? = some c->M.at b (off+j)/\w.cell? ⟨b,off+j,none⟩=some (vals j)) ->
  (∀ (j:Nat) (c:CV),cells[j]? = some c->RV M w c (vals j)) ->
  RV M w (.cptr cells) (.pointer (some ⟨b,off,none⟩))
 | eptr {k i off:Nat} {p:Pl}:M.pl[k]? = some p->RV M w (.eptr k i off) (.pointer (some ⟨p.block,i*p.size+off,none⟩))
 | vec {k off len:Nat} {p:Pl} {a:Addr}:M.pl[k]? = some p->off+len<=p.cap->p.cap<=maxLen->(off < p.cap->a=⟨p.block,off*p.size,none⟩)->RV M w (.vec k off len) (.slice (some a) len (p.cap - off))
 | map {k:Nat} {p:Pl}:M.pl[k]? = some p->RV M w (.map k) (.map (some p.block))
 | yld {k:Nat} {p:Pl}:M.pl[k]? = some p->RV M w (.yld k) (.func (.yield p.block) #[] #[])
theorem T1 {a b:Nat} (h:a<=b:=by first|exact n_7 _|exact Nat.le_add_right _ _):a<=b:=h
structure Ext (M:A9) (w:World) (M':A9) (w':World):Prop where
 pl:∃ l,M'.pl=M.pl++l
 full:∀ b,M.full b->M'.full b
 cell:∀ b o,M.cell b o->M'.at b o
 same:∀ b,M.full b->w'.heap[b]? = w.heap[b]?
 sameC:∀ b o,M.cell b o->w'.cell? ⟨b,o,none⟩=w.cell? ⟨b,o,none⟩
 size:w.heap.size<=w'.heap.size
 drew:w.drawn<=w'.drawn
 os:w'.os=w.os
 tape:w'.tape=w.tape
 output:w'.output=w.output
 kept:∀ b,M.keep b->M'.keep b/\w'.heap[b]? = w.heap[b]?/\(M'.full b->M.full b)/\∀ o,M'.cell b o->M.cell b o
theorem Ext.refl (M:A9) (w:World):Ext M w M w :=
 ⟨⟨[],si_⟩,fun _ h=>h,fun _ _ h=>.inr h,fun _ _=>rfl,fun _ _ _=>rfl,n_7 _,T1,rfl,rfl,rfl,fun _ h=>⟨h,rfl,id,fun _=>id⟩⟩
theorem M8 {b o:Nat} (h:w'.heap[b]? = w.heap[b]?):w'.cell? ⟨b,o,none⟩=w.cell? ⟨b,o,none⟩:=by
 simp [World.cell?,h]
theorem Ext.at (h:Ext M w M' w') {b o:Nat} (ha:M.at b o):M'.at b o/\w'.cell? ⟨b,o,none⟩=w.cell? ⟨b,o,none⟩:=by
 rcases ha with ha | ha
 ·exact ⟨.inl (h.full _ ha),M8 (h.same _ ha)⟩
 ·exact ⟨h.cell _ _ ha,h.sameC _ _ ha⟩
theorem Ext.get (h:Ext M w M' w') {k:Nat} {p:Pl} (hk:M.pl[k]? = some p):M'.pl[k]? = some p:=by
 obtain ⟨l,hl⟩:=h.pl;rw [hl,R3 (n_3.1 hk).1];exact hk
theorem Ext.trans {M'':A9} {w'':World} (h:Ext M w M' w') (k:Ext M' w' M'' w''):Ext M w M'' w'':=by
 obtain ⟨l,hl⟩:=h.pl;obtain ⟨l',bM⟩:=k.pl;refine ⟨⟨l++l',by rw [bM,hl,D7]⟩,fun b hb=>k.full _ (h.full _ hb),fun b o hb=>(k.at (h.cell _ _ hb)).1,fun b hb=>(k.same _ (h.full _ hb)).trans (h.same _ hb),fun b o hb=>?_,b6u h.size k.size,b6u h.drew k.drew,k.os.trans h.os,k.tape.trans h.tape,k.output.trans h.output,fun b hb=>?_⟩
 ·exact (k.at (h.cell _ _ hb)).2.trans (h.sameC _ _ hb)
 ·obtain ⟨h1,h2,h3,h4⟩:=h.kept b hb;obtain ⟨k1,k2,k3,k4⟩:=k.kept b h1;exact ⟨k1,k2.trans h2,fun f=>h3 (k3 f),fun o f=>h4 o (k4 o f)⟩
theorem RV.mono (h:Ext M w M' w') (hr:RV M w c v):RV M' w' c v:=by
 induction hr with
 | val v=>exact .val v
 | agg h1 h2 _ ih=>exact .agg h1 h2 ih
 | tup h1 _ ih=>exact .tup h1 ih
 | clo h1 _ ih=>exact .clo h1 ih
 | list vals h1 h2 h3 h4 h5 h6 h7 h8 _ aY ih =>
  refine .list vals h1 h2 h3 h4 h5 h6 h7 (fun i j r c hi hj=>?_) ih (fun k hk=>?_)
  ·obtain ⟨ha,hc⟩:=h8 i j r c hi hj;exact ⟨(h.at ha).1,(h.at ha).2.trans hc⟩
  ·obtain ⟨s',hp,aL⟩:=aY k hk;exact ⟨s',h.get hp,aL⟩
 | ptr hk=>exact .ptr (h.get hk)
 | cptr vals h1 h2 _ ih =>
  refine .cptr vals h1 (fun j c hj=>?_) ih;obtain ⟨ha,hc⟩:=h2 j c hj;exact ⟨(h.at ha).1,(h.at ha).2.trans hc⟩
 | eptr hk=>exact .eptr (h.get hk)
 | vec hk h1 h2 h3=>exact .vec (h.get hk) h1 h2 h3
 | map hk=>exact .map (h.get hk)
 | yld hk=>exact .yld (h.get hk)
theorem RV.one (hr:RV M w c v) (hc:c.one=true):v.oneCell'=true:=by
 cases hr<;>first|rfl|exact hc|(simp [CV.one] at hc)
inductive b9 where
 | dead
 | boxT (ty:Option TypeId) (cells:List CV)
 | tipT (ty:Option TypeId) (n:Nat)
 | vec (s:Nat) (V:List (List CV))
 | map (es:List (CV × CV))
 | iter (aD left:List (CV × CV))
 | blk (o:Obj)
 | lp (o:Loop) (n:Nat) (cs:List (Nat × CV))
variable {σ:List b9}
abbrev b9.box (cells:List CV):b9:=.boxT none cells
abbrev b9.tip (n:Nat):b9:=.tipT none n
def b9.live:b9->Bool
 | .dead=>false
 | _=>true
def b19 (ae:Array MapEntry):Prop:=∀ (i j:Nat) (e e':MapEntry),ae[i]? = some e->ae[j]? = some e'->e.born=e'.born->i=j
def R5 (M:A9) (w:World) (p:Pl):b9->Prop
 | .dead=>True
 | .boxT t0 cells=>∃ arr ty,w.heap[p.block]? = some (.cells arr (t0.getD ty) (0,0))/\arr.size=cells.length/\(∀ c∈cells,c.one=true)/\∀ (i:Nat) (c:CV),cells[i]? = some c->RV M w c (arr.getD i undef)
 | .tipT t0 n=>n<=p.cap/\p.cap<=maxLen/\((∀ o,M.cell p.block o->o < n*p.size)/\(t0.isSome=true->p.size=1))/\∃ arr ty,w.heap[p.block]? = some (.cells arr (t0.getD ty) (0,0))/\arr.size=p.cap*p.size
 | .vec s V=>p.size=s/\V.length<=p.cap/\p.cap<=maxLen/\(∀ r∈V,r.length=p.size)/\(∀ r∈V,∀ c∈r,c.one=true)/\∃ arr ty,w.heap[p.block]? = some (.cells arr ty (0,0))/\arr.size=p.cap*p.size /\
  ∀ (i j:Nat) (r:List CV) (c:CV),V[i]? = some r->r[j]? = some c->RV M w c (arr.getD (i*p.size+j) undef)
 | .map es=>∃ (ae:Array MapEntry) (ai:Nat),w.heap[p.block]? = some (.map ae ai)/\(ae.size=es.length/\b19 ae)/\(∀ (i:Nat) (x:CV × CV),es[i]? = some x->∃ e,ae[i]? = some e/\RV M w x.1 e.key/\RV M w x.2 e.val/\e.born < ai)
 | .iter aD left=>∃ (mb:Nat) (seen:Array Nat) (bF:Nat) (ae:Array MapEntry) (ai:Nat),w.heap[p.block]? = some (.mapIter (some mb) ai seen bF)/\M.full mb/\w.heap[mb]? = some (.map ae ai)/\(seen = #[]\/bF=ai)/\b19 ae/\(∀ (i:Nat) (e:MapEntry),ae[i]? = some e->e.born < ai)/\(ae.toList.filter fun e=>!seen.contains e.born).length=left.length/\(∀ (i:Nat) (x:CV × CV),left[i]? = some x->∃ e,(ae.toList.filter fun e=>!seen.contains e.born)[i]? = some e/\RV M w x.1 e.key/\RV M w x.2 e.val)/\∀ (i:Nat) (x:CV × CV),aD[i]? = some x->bF=ai/\∃ (j:Nat) (e:MapEntry),ae[j]? = some e/\seen.back? = some e.born/\RV M w x.1 e.key/\RV M w x.2 e.val
 | .blk o=>w.heap[p.block]? = some o
 | .lp o n cs=>∃ tmps,w.heap[p.block]? = some (.loop { o with tmps})/\tmps.size=n/\∀ x∈cs,RV M w x.2 (tmps.getD x.1 undef)
def a7d (M:A9) (p:Pl):b9->Prop
 | .dead=>True
 | .tipT _ _=>¬ M.full p.block
 | _=>¬ M.full p.block/\∀ o,¬ M.cell p.block o
structure TyE where
 agg:Bool
 size:Nat
 offs:List Nat
def TyE.right (P:Program) (t:Nat) (e:TyE):Prop:=(∀ w,(isAgg t).run P w = .ok e.agg w)/\(∀ w,(sizeOf t).run P w = .ok e.size w) /\
 (e.offs=[]\/∃ fs:Array Field,(∀ w,(underlying t).run P w = .ok (.struct fs) w)/\∀ (i d:Nat),e.offs[i]? = some d->∃ (fd:Field) (s:Nat),fs[i]? = some fd/\fd.offset=d/\(∀ w,(sizeOf fd.type).run P w = .ok s w)/\s≠0)
structure Ctx where
 P:Program
 glob:Nat->Option (List CV)
 tab:List (Nat × TyE):=[]
 right:∀ x∈tab,x.2.right P x.1:=by intro x h;cases h
variable {C:Ctx}
structure GV (M:A9) (w:World) (cells:List CV) (g:Nat):Prop where
 rv:RV M w (.cptr cells) (.pointer (some ⟨g,0,none⟩))
 full:M.full g
 sz:∃ arr ty fr,w.heap[g]? = some (.cells arr ty fr)/\arr.size=cells.length
theorem GV.mono (h:Ext M w M' w') {cells:List CV} {g:Nat} (hg:GV M w cells g):GV M' w' cells g :=
 ⟨hg.rv.mono h,h.full _ hg.full,by rw [h.same _ hg.full];exact hg.sz⟩
structure Rel (C:Ctx) (M:A9) (σ:List b9) (w:World):Prop where
 len:M.pl.length=σ.length
 blk:∀ b o,M.at b o->b < w.heap.size
 obj:∀ (k:Nat) (p:Pl) (ob:b9),M.pl[k]? = some p->σ[k]? = some ob->R5 M w p ob/\a7d M p ob
 inj:∀ (k k':Nat) (p p':Pl) (ob aG:b9),M.pl[k]? = some p->M.pl[k']? = some p'->σ[k]? = some ob->σ[k']? = some aG->ob.live=true->aG.live=true->p.block=p'.block->k=k'
 glob:∀ g cells,C.glob g=some cells->GV M w cells g
 kep:∀ b,M.keep b->b < w.heap.size
 nk:∀ (k:Nat) (p:Pl) (ob:b9),M.pl[k]? = some p->σ[k]? = some ob->ob.live=true->¬ M.keep p.block
inductive Ok where
 | yes
 | two (a b:Prop)
def Ok.is:Ok->Prop
 | .yes=>True
 | .two a _=>a
def Ok.un:Ok->Prop
 | .yes=>¬ True
 | .two _ b=>b
structure Env where
 h:Nat->Option CV
 g:Nat->Ok
variable {E:Env}
def Env.f (E:Env) (t:Nat):CV:=(E.h t).getD (.val undef)
def Env.ok (E:Env) (t:Nat):Prop:=(E.g t).is
def Env.un (E:Env) (t:Nat):Prop:=(E.g t).un
def Env.putO (E:Env) (d:Option Nat) (c:CV) (g:Ok):Env :=
 match d with
 | none=>E
 | some d=>{ h:=fun t=>match Nat.beq t d with | true=>some c | false=>E.h t,g:=fun t=>match Nat.beq t d with | true=>g | false=>E.g t}
abbrev Env.put (E:Env) (d:Option Nat) (c:CV) (g:Prop):Env:=E.putO d c (.two g (¬ g))
def Env.hide (E:Env) (d:Option Nat):Env :=
 match d with
 | none=>E
 | some d=>{ h:=E.h,g:=fun t=>match Nat.beq t d with | true=>.two False False | false=>E.g t}
theorem c0j {d:Nat} (h:¬ t=d):Nat.beq t d=false:=c27.2 fun hb=>h (a3U hb)
theorem Env.putO_f (E:Env) (d:Nat) (c:CV) (g:Ok) (t:Nat):(E.putO (some d) c g).f t=if t=d then c else E.f t:=by
 show (match Nat.beq t d with | true=>some c | false=>E.h t).getD _=_;by_cases h:t=d
 ·subst h;simp
 ·rw [c0j h,n_0 h];rfl
theorem Env.putO_g (E:Env) (d:Nat) (c:CV) (g:Ok) (t:Nat):(E.putO (some d) c g).g t=if t=d then g else E.g t:=by
 show (match Nat.beq t d with | true=>g | false=>E.g t)=_;by_cases h:t=d
 ·subst h;simp
 ·rw [c0j h,n_0 h]
theorem Env.putO_ok (E:Env) (d:Nat) (c:CV) (g:Ok) (t:Nat):(E.putO (some d) c g).ok t=if t=d then g.is else E.ok t:=by
 unfold Env.ok;rw [E.putO_g];split<;>rfl
theorem Env.putO_un (E:Env) (d:Nat) (c:CV) (g:Ok) (t:Nat):(E.putO (some d) c g).un t=if t=d then g.un else E.un t:=by
 unfold Env.un;rw [E.putO_g];split<;>rfl
theorem Env.put_f (E:Env) (d:Nat) (c:CV) (g:Prop) (t:Nat):(E.put (some d) c g).f t=if t=d then c else E.f t:=E.putO_f d c _ t
theorem Env.put_ok (E:Env) (d:Nat) (c:CV) (g:Prop) (t:Nat):(E.put (some d) c g).ok t=if t=d then g else E.ok t:=by
 unfold Env.ok;rw [E.putO_g];split<;>rfl
theorem Env.put_un (E:Env) (d:Nat) (c:CV) (g:Prop) (t:Nat):(E.put (some d) c g).un t=if t=d then ¬ g else E.un t:=by
 unfold Env.un;rw [E.putO_g];split<;>rfl
theorem Env.hide_at (E:Env) (d t:Nat):(E.hide (some d)).f t=E.f t/\(E.hide (some d)).ok t=(if t=d then False else E.ok t)/\(E.hide (some d)).un t=(if t=d then False else E.un t):=by
 have hg:(E.hide (some d)).g t=if t=d then .two False False else E.g t:=by
  show (match Nat.beq t d with | true=>Ok.two False False | false=>E.g t)=_;by_cases h:t=d
  ·subst h;simp
  ·rw [c0j h,n_0 h]
 unfold Env.ok Env.un;rw [hg];refine ⟨rfl,?_,?_⟩<;>split<;>rfl
def b8D:Value->CV
 | .slice none _ _=>.list [] false none
 | v=>.val v
def I2:Value->CV
 | .agg cs=>.agg (cs.toList.map b8D)
 | v=>b8D v
def a0D:Value->Bool
 | .slice none 0 0=>true
 | .slice _ _ _=>false
 | v=>v.oneCell'
def K9:Value->Bool
 | .agg cs=>cs.toList.all a0D
 | .slice none 0 0=>true
 | .slice _ _ _=>false
 | _=>true
def Env.val (C:Ctx) (E:Env):Operand->CV
 | .tmp t=>E.f t
 | .const v=>I2 v
 | .global g=>match C.glob g with
  | some cells=>.cptr cells
  | none=>.val (.pointer (some ⟨g,0,none⟩))
 | .func f=>.val (.func (.func f) #[] #[])
def Env.valid (E:Env):Operand->Prop
 | .tmp t=>E.ok t
 | .const v=>K9 v=true
 | _=>True
theorem b7I (h:a0D v=true):RV M w (b8D v) v:=by
 cases v with
 | slice a n c =>
  cases a with
  | some a=>simp [a0D] at h
  | none =>
   have:n=0/\c=0:=by
    rcases n with _ | n<;>rcases c with _ | c<;>simp [a0D] at h ⊢
   obtain ⟨rfl,rfl⟩:=this;exact RV.list (V:=[]) (b:=0) (off:=0) (s:=0) (fun _ _=>undef) (n_7 _) (by simp [maxLen]) rfl a0B (fun h=>absurd rfl h) si_ si_ si_ si_ si_
 | _=>exact .val _
theorem c4s (h:a0D v=true):(b8D v).one=true:=by
 cases v with
 | slice a n c=>cases a<;>rfl
 | _=>simpa [b8D,CV.one,a0D] using h
theorem a0r (h:K9 v=true):RV M w (I2 v) v:=by
 cases v with
 | agg cs =>
  have hc:∀ v∈cs,a0D v=true:=by
   have h':∀ v∈cs.toList,a0D v=true:=a5D.1 h;exact fun v hv=>h' v (sp_ hv)
  refine .agg si_ (fun c hm=>?_) (fun i c hi=>?_)
  ·obtain ⟨v,hv,rfl⟩:=F4.1 hm;exact c4s (hc v (sp_ hv))
  ·simp only [O5,N6] at hi;obtain ⟨v,hv,rfl⟩:=hi;have fu:cs[i]? = some v:=sp_ hv;rw [a0H,fu];exact b7I (hc v (b6t fu))
 | slice a n c =>
  refine b7I ?_
  rcases a with _ | a
  ·rcases n with _ | n<;>rcases c with _ | c<;>simp [K9,a0D] at h ⊢
  ·simp [K9] at h
 | _=>exact .val _
structure K5 (M:A9) (w:World) (n:Nat) (E:Env) (a:Act):Prop where
 defers:a.defers=[]
 size:a.tmps.size=n
 rv:∀ t,E.ok t->RV M w (E.f t) (a.tmps.getD t undef)
 un:∀ t,E.un t->a.tmps.getD t undef=undef
theorem K5.mono (h:Ext M w M' w') (hf:K5 M w n E a):K5 M' w' n E a :=
 ⟨hf.defers,hf.size,fun t ht=>(hf.rv t ht).mono h,hf.un⟩
theorem K5.put {d:Option Nat} {g:Prop} (hf:K5 M w n E a) (hd:∀ t,d=some t->t < n) (hv:g->RV M w c v) (hu:¬ g->v=undef) :
 K5 M w n (E.put d c g) (a.put d v):=by
 cases d with
 | none=>exact hf
 | some d =>
  have hdn:=hd d rfl;refine ⟨hf.defers,by simp [Act.put,hf.size],fun t ht=>?_,fun t ht=>?_⟩;by_cases gQ:t=d
  ·subst gQ;simp only [Env.put_f,Env.put_ok,if_true] at ht ⊢;have:(a.put (some t) v).tmps.getD t undef=v:=by simp [Act.put,hf.size,hdn]
   rw [this];exact hv ht
  ·simp only [Env.put_f,Env.put_ok,n_0 gQ] at ht ⊢;have:(a.put (some d) v).tmps.getD t undef=a.tmps.getD t undef:=by simp [Act.put,b9i (Ne.symm gQ)]
   rw [this];exact hf.rv t ht
  ·by_cases gQ:t=d
   ·subst gQ;simp only [Env.put_un,if_true] at ht;have:(a.put (some t) v).tmps.getD t undef=v:=by simp [Act.put,hf.size,hdn]
    rw [this];exact hu ht
   ·simp only [Env.put_un,n_0 gQ] at ht;have:(a.put (some d) v).tmps.getD t undef=a.tmps.getD t undef:=by simp [Act.put,b9i (Ne.symm gQ)]
    rw [this];exact hf.un t ht
theorem K5.hide {d:Option Nat} (hf:K5 M w n E a):K5 M w n (E.hide d) (a.put d v):=by
 cases d with
 | none=>exact hf
 | some d =>
  refine ⟨hf.defers,by simp [Act.put,hf.size],fun t ht=>?_,fun t ht=>?_⟩
  ·rw [(E.hide_at d t).2.1] at ht;split at ht
   ·exact ht.elim
   ·rename_i gQ;have:(a.put (some d) v).tmps.getD t undef=a.tmps.getD t undef:=by simp [Act.put,b9i (Ne.symm gQ)]
    rw [this];exact hf.rv t ht
  ·rw [(E.hide_at d t).2.2] at ht;split at ht
   ·exact ht.elim
   ·rename_i gQ;have:(a.put (some d) v).tmps.getD t undef=a.tmps.getD t undef:=by simp [Act.put,b9i (Ne.symm gQ)]
    rw [this];exact hf.un t ht
theorem K5.eval (hr:Rel C M σ w) (hf:K5 M w n E a) {x:Operand} (hx:E.valid x):RV M w (E.val C x) (a.eval x):=by
 cases x with
 | tmp t=>exact hf.rv t hx
 | const v=>exact a0r hx
 | global g =>
  simp only [Env.val,Act.eval]
  split
  ·rename_i cells hc;exact (hr.glob g cells hc).rv
  ·exact .val _
 | func f=>exact .val _
inductive W5 where
 | ret (c:CV)
 | pan (c:CV)
variable {K K':W5->List b9->Prop}
def b0u (P:Program) (K:Value->World->Prop) (Kp:List PanicEntry->World->Prop):Result Next->Prop
 | .ok (.value v) w'=>K v w'
 | .ok .skip w'=>K undef w'
 | .ok (.enter f args) w'=>Calls P f args w' fun
  | .returned v,w''=>K v w''
  | .panicked ch,w''=>Kp ch w''
  | .outgrown,_=>False
 | .halt (.panic v) w'=>Kp [{ v,recovered:=false}] w'
 | _=>False
theorem b0u.mono {P:Program} {K K':Value->World->Prop} {Kp Kp':List PanicEntry->World->Prop} {r:Result Next} (h:b0u P K Kp r) (hk:∀ v w,K v w->K' v w) (hp:∀ c w,Kp c w->Kp' c w):b0u P K' Kp' r:=by
 cases r with
 | ok x w =>
  cases x<;>simp only [b0u] at h ⊢
  case value v=>exact hk _ _ h
  case skip=>exact hk _ _ h
  case enter f args =>
   refine h.mono fun e w' he=>?_;cases e with
   | returned v=>exact hk _ _ he
   | panicked c=>exact hp _ _ he
   | outgrown=>exact he
 | halt x w =>
  cases x<;>simp only [b0u] at h ⊢
  exact hp _ _ h
theorem a30 {P:Program} {K:Value->World->Prop} {Kp:List PanicEntry->World->Prop} {next:Act->World->Prop} {Q:Exit->Act->World->Prop}
 (h:b0u P K Kp ((execOp a.eval o).run P w)) (hk:∀ v w',K v w'->next (a.put o.dst v) w') (hp:∀ c w',Kp c w'->Q (.panic c) a w'):o.wp P a w next Q:=by
 unfold Oper.wp;generalize (execOp a.eval o).run P w=r at h;cases r with
 | ok x w =>
  cases x<;>simp only [b0u] at h<;>simp only [Oper.upon]
  case value v=>exact hk _ _ h
  case skip=>exact hk _ _ h
  case enter f args =>
   refine h.mono fun e w' he=>?_;cases e with
   | returned v=>exact hk _ _ he
   | panicked c=>exact hp _ _ he
   | outgrown=>exact he.elim
 | halt x w =>
  cases x<;>simp only [b0u] at h<;>simp only [Oper.upon]
  exact hp _ _ h
def a3v (C:Ctx) (M:A9) (w:World) (K:W5->List b9->Prop) (v:Value) (w':World):Prop :=
 ∃ c Y M',Ext M w M' w'/\Rel C M' Y w'/\RV M' w' c v/\K (.ret c) Y
def a0w (C:Ctx) (M:A9) (w:World) (K:W5->List b9->Prop) (ch:List PanicEntry) (w':World):Prop :=
 ∃ c v Y M',ch=[{ v,recovered:=false}]/\Ext M w M' w'/\Rel C M' Y w'/\RV M' w' c v/\K (.pan c) Y
def G9 (C:Ctx) (σ:List b9) (E:Env) (o:Oper) (K:W5->List b9->Prop):Prop :=
 ∀ (M:A9) (w:World) (ρ:Operand->Value),Rel C M σ w->(∀ x∈o.op.operands,E.valid x->RV M w (E.val C x) (ρ x)) ->
  b0u C.P (a3v C M w K) (a0w C M w K) ((execOp ρ o).run C.P w)
def l8 (C:Ctx) (σ:List b9) (E:Env) (o:Oper) (c:CV):Prop:=G9 C σ E o fun r Y=>r = .ret c/\Y=σ
def b8 (C:Ctx) (f:FuncId) (args:List CV) (σ:List b9) (K:W5->List b9->Prop):Prop :=
 ∀ (M:A9) (w:World) (vs:Array Value),Rel C M σ w->vs.size=args.length->(∀ (i:Nat) (c:CV),args[i]? = some c->RV M w c (vs.getD i undef)) ->
  Calls C.P f vs w fun
   | .returned v,w'=>a3v C M w K v w'
   | .panicked ch,w'=>a0w C M w K ch w'
   | .outgrown,_=>False
theorem a3v.mono (h:∀ r σ,K r σ->K' r σ) (ha:a3v C M w K v w'):a3v C M w K' v w':=by
 obtain ⟨c,Y,M',h1,h2,h3,h4⟩:=ha;exact ⟨c,Y,M',h1,h2,h3,h _ _ h4⟩
theorem a0w.mono (h:∀ r σ,K r σ->K' r σ) {v:List PanicEntry} (ha:a0w C M w K v w'):a0w C M w K' v w':=by
 obtain ⟨c,u,Y,M',h0,h1,h2,h3,h4⟩:=ha;exact ⟨c,u,Y,M',h0,h1,h2,h3,h _ _ h4⟩
theorem G9.mono (hd:G9 C σ E o K) (h:∀ r σ,K r σ->K' r σ):G9 C σ E o K' :=
 fun M w ρ hr hx=>(hd M w ρ hr hx).mono (fun _ _=>a3v.mono h) (fun _ _=>a0w.mono h)
theorem b8.mono {f:FuncId} {args:List CV} (hd:b8 C f args σ K) (h:∀ r σ,K r σ->K' r σ):b8 C f args σ K' :=
 fun M w vs hr hn hx=>(hd M w vs hr hn hx).mono fun e w' he=>by
  cases e with
  | returned v=>exact a3v.mono h he
  | panicked c=>exact a0w.mono h he
  | outgrown=>exact he
inductive D5 where
 | normal
 | exit (id:Nat)
 | goto (l:Nat)
 | ret
 | pan (c:CV)
variable {Q:D5->Env->List b9->Prop}
def W2 (C:Ctx) (n:Nat) (Q:D5->Env->List b9->Prop) (M:A9) (w:World) (e:Exit) (a':Act) (w':World):Prop :=
 ∃ E' Y M',Ext M w M' w'/\Rel C M' Y w'/\K5 M' w' n E' a' /\
  match e with
  | .normal=>Q .normal E' Y
  | .exit id=>Q (.exit id) E' Y
  | .goto l=>Q (.goto l) E' Y
  | .ret=>Q .ret E' Y
  | .panic ch=>∃ c v,ch=[{ v,recovered:=false}]/\RV M' w' c v/\Q (.pan c) E' Y
  | .outgrown=>False
def CWp (C:Ctx) (n:Nat) (c:Code) (Q:D5->Env->List b9->Prop) (E:Env) (σ:List b9):Prop :=
 ∀ (M:A9) (w:World) (a:Act),Rel C M σ w->K5 M w n E a->c.wp C.P (W2 C n Q M w) a w
def J4 (C:Ctx) (n:Nat) (aa:Array Oper) (Q:D5->Env->List b9->Prop) (l:List Oper) (E:Env) (σ:List b9):Prop :=
 ∀ (M:A9) (w:World) (a:Act),Rel C M σ w->K5 M w n E a->wpList C.P aa (W2 C n Q M w) l a w
theorem W2.mono {Q':D5->Env->List b9->Prop} (h:∀ e E σ,Q e E σ->Q' e E σ) {e:Exit} (hl:W2 C n Q M w e a w'):W2 C n Q' M w e a w':=by
 obtain ⟨E',Y,M',h1,h2,h3,h4⟩:=hl;refine ⟨E',Y,M',h1,h2,h3,?_⟩;cases e<;>first|exact h _ _ _ h4|(obtain ⟨c,v,hc,hv,hq⟩:=h4;exact ⟨c,v,hc,hv,h _ _ _ hq⟩)|exact h4
theorem W2.later {M1:A9} {w1:World} (he:Ext M w M1 w1) {e:Exit} (hl:W2 C n Q M1 w1 e a w'):W2 C n Q M w e a w':=by
 obtain ⟨E',Y,M',h1,h2,h3,h4⟩:=hl;exact ⟨E',Y,M',he.trans h1,h2,h3,h4⟩
theorem CWp.mono {c:Code} {Q':D5->Env->List b9->Prop} (h:CWp C n c Q E σ) (hq:∀ e E σ,Q e E σ->Q' e E σ):CWp C n c Q' E σ :=
 fun M w a hr hf=>wp_mono (h M w a hr hf) fun _ _ _=>W2.mono hq
def D5.next (k:Env->List b9->Prop) (Q:D5->Env->List b9->Prop):D5->Env->List b9->Prop
 | .normal=>k
 | e=>Q e
section
theorem C9 (h:Q .normal E σ):CWp C n .skip Q E σ:=fun M w _ hr hf=>wp_skip ⟨E,σ,M,Ext.refl M w,hr,hf,h⟩
theorem d1t {l:Nat} (h:Q .normal E σ):CWp C n (.label l) Q E σ:=fun M w _ hr hf=>wp_label ⟨E,σ,M,Ext.refl M w,hr,hf,h⟩
theorem j4 (h:Q (.exit id) E σ):CWp C n (.exit id) Q E σ:=fun M w _ hr hf=>wp_exit ⟨E,σ,M,Ext.refl M w,hr,hf,h⟩
theorem c6 (h:Q .ret E σ):CWp C n .ret Q E σ:=fun M w _ hr hf=>wp_ret ⟨E,σ,M,Ext.refl M w,hr,hf,h⟩
theorem F9 (h:CWp C n x (D5.next (CWp C n y Q) Q) E σ):CWp C n (.seq x y) Q E σ:=fun M w a hr hf=>by
 refine wp_seq (wp_mono (h M w a hr hf) fun e a' w' hl=>?_);obtain ⟨E',Y,M',h1,h2,h3,h4⟩:=hl;cases e with
 | normal=>exact wp_mono (h4 M' w' a' h2 h3) fun _ _ _=>W2.later h1
 | _=>exact ⟨E',Y,M',h1,h2,h3,h4⟩
theorem c1P {c:Operand} (hv:E.valid c) (hc:E.val C c = .val (.bool b)) (ht:b=true->CWp C n x Q E σ) (hf':b=false->CWp C n y Q E σ):CWp C n (.cond c x y) Q E σ:=fun M w a hr hf=>by
 have h1:RV M w (E.val C c) (a.eval c):=hf.eval hr hv;rw [hc] at h1;have h2:a.eval c = .bool b:=by generalize a.eval c=u at h1;cases h1;rfl
 exact wp_cond_split h2 (fun h=>ht h M w a hr hf) (fun h=>hf' h M w a hr hf)
def D5.blk (id:Nat) (Q:D5->Env->List b9->Prop):D5->Env->List b9->Prop
 | .exit id',E,σ=>if id'=id then Q .normal E σ else Q (.exit id') E σ
 | e,E,σ=>Q e E σ
theorem a12 {c:Code} (h:CWp C n c (D5.blk id Q) E σ):CWp C n (.block id c) Q E σ:=fun M w a hr hf=>by
 refine wp_block (wp_mono (h M w a hr hf) fun e a' w' hl=>?_);obtain ⟨E',Y,M',h1,h2,h3,h4⟩:=hl;cases e with
 | exit id' =>
  simp only [Exit.inBlock];simp only [D5.blk] at h4
  split<;>rename_i hid
  ·rw [n_1 hid] at h4;exact ⟨E',Y,M',h1,h2,h3,h4⟩
  ·rw [n_0 hid] at h4;exact ⟨E',Y,M',h1,h2,h3,h4⟩
 | _=>exact ⟨E',Y,M',h1,h2,h3,h4⟩
theorem d2r {c:Code} (I:Nat->Env->List b9->Prop) (m:Nat) (h0:I m E σ)
 (cL:∀ m E σ,I m E σ->CWp C n c (D5.next (fun E' Y=>∃ m',m' < m/\I m' E' Y) Q) E σ):CWp C n (.loop c) Q E σ:=fun M w a hr hf=>by
 intro b k cs;have key:∀ m E σ M1 w1 a1,I m E σ->Ext M w M1 w1->Rel C M1 σ w1->K5 M1 w1 n E a1 ->
  ∃ e a' w',W2 C n Q M w e a' w'/\Arrives C.P (lone (b.at a1 (.code c::.inLoop c::k)) cs w1) b k cs e a' w':=by
  intro m
  induction m using Nat.strongRecOn with
  | _ m ih =>
   intro E σ M1 w1 a1 hI hx aF dE;obtain ⟨e,a2,w2,hq,ax⟩:=cL m E σ hI M1 w1 a1 aF dE b (.inLoop c::k) cs;obtain ⟨E',Y,M',h1,h2,h3,h4⟩:=hq;cases e with
   | normal =>
    obtain ⟨m',ab,hI'⟩:=h4;obtain ⟨dF,dG,dH,ce,aZ⟩:=ih m' ab E' Y M' w2 a2 hI' (hx.trans h1) h2 h3;exact ⟨dF,dG,dH,ce,.of_steps (Steps.trans ax (.one step_inLoop)) aZ⟩
   | exit id=>exact ⟨_,a2,w2,⟨E',Y,M',hx.trans h1,h2,h3,h4⟩,.pass (x:=.inLoop c) rfl (fun _ _=>.inl si_) ax⟩
   | goto l=>exact ⟨_,a2,w2,⟨E',Y,M',hx.trans h1,h2,h3,h4⟩,.pass (x:=.inLoop c) rfl (fun _ _=>.inl si_) ax⟩
   | ret=>exact ⟨_,a2,w2,⟨E',Y,M',hx.trans h1,h2,h3,h4⟩,.pass (x:=.inLoop c) rfl (fun _ _=>.inl si_) ax⟩
   | panic ch=>exact ⟨_,a2,w2,⟨E',Y,M',hx.trans h1,h2,h3,h4⟩,.pass (x:=.inLoop c) rfl (fun _ _=>.inl si_) ax⟩
   | outgrown=>exact h4.elim
 obtain ⟨e,a',w',hq,ax⟩:=key m E σ M w a h0 (Ext.refl M w) hr hf;exact ⟨e,a',w',hq,.of_steps (.one step_loop) ax⟩
theorem G5 (h:J4 C n aa Q aa.toList E σ):CWp C n (.region id aa false) Q E σ :=
 fun M w a hr hf=>wp_region_list (h M w a hr hf)
theorem x9 (h:Q .normal E σ):J4 C n aa Q [] E σ:=fun M w _ hr hf=>wpList_nil ⟨E,σ,M,Ext.refl M w,hr,hf,h⟩
theorem J4.later (h:J4 C n aa Q l E σ) {M1:A9} {w1:World} (hx:Ext M w M1 w1) (hr:Rel C M1 σ w1) (hf:K5 M1 w1 n E a):wpList C.P aa (W2 C n Q M w) l a w1:=by
 have:=h M1 w1 a hr hf;have hm:∀ (l:List Oper) (a:Act) (w2:World),wpList C.P aa (W2 C n Q M1 w1) l a w2->wpList C.P aa (W2 C n Q M w) l a w2:=by
  intro l
  induction l with
  | nil=>exact fun a w2 h=>W2.later hx h
  | cons o l ih =>
   intro a w2 h;unfold wpList at h ⊢
   split
   ·rename_i hw;rw [n_1 hw] at h;refine h.imp (fun h=>?_) (fun ⟨h1,a0,w0,hl⟩=>⟨h1,a0,w0,W2.later hx hl⟩);unfold Oper.wp at h ⊢;generalize (execOp a.eval o).run C.P w2=r at h;cases r with
    | ok x w3 =>
     cases x<;>simp only [Oper.upon] at h ⊢
     case value v=>exact ih _ _ h
     case skip=>exact ih _ _ h
     case defer d=>exact ih _ _ h
     case enter f args =>
      refine h.mono fun e w4 he=>?_;cases e with
      | returned v=>exact ih _ _ he
      | panicked ch=>exact W2.later hx he
      | outgrown=>obtain ⟨a0,w0,hl⟩:=he;exact ⟨a0,w0,W2.later hx hl⟩
     case row r args=>exact Rows.mono h fun _ _ he=>ih _ _ he
    | halt x w3 =>
     cases x<;>simp only [Oper.upon] at h ⊢
     exact W2.later hx h
   ·rename_i hw;rw [n_0 hw] at h;exact ih _ _ h
 exact hm _ _ _ this
theorem c1W (hg:o.guard=none) (hd:(match o.dst with | some d=>d < n | none=>True))
 (h:G9 C σ E o fun r Y=>match r with
  | .ret c=>J4 C n aa Q l (E.put o.dst c True) Y
  | .pan c=>Q (.pan c) E Y):J4 C n aa Q (o::l) E σ:=fun M w a hr hf=>by
 unfold wpList;rw [n_1 (by simp [Region.wanted,hg])];refine .inl (a30 (h M w a.eval hr fun x _ hx=>hf.eval hr hx) (fun v w' ha=>?_) (fun ch w' ha=>?_))
 ·obtain ⟨c,Y,M',h1,h2,h3,h4⟩:=ha;exact h4.later h1 h2 ((hf.mono h1).put (fun t ht=>by rw [ht] at hd;exact hd) (fun _=>h3) fun hh=>absurd trivial hh)
 ·obtain ⟨c,v,Y,M',h0,h1,h2,h3,h4⟩:=ha;exact ⟨E,Y,M',h1,h2,hf.mono h1,c,v,h0,h3,h4⟩
theorem b7d (hg:o.guard=some (j,aq)) (ht:(aa[j]?).bind (·.dst)=some t) (hv:E.ok t) (hb:E.f t = .val (.bool b))
 (hd:(match o.dst with | some d=>d < n | none=>True)) (hy:b=aq->l8 C σ E o c) (h:J4 C n aa Q l (E.put o.dst c (b=aq)) σ):J4 C n aa Q (o::l) E σ:=fun M w a hr hf=>by
 have h1:RV M w (E.f t) (a.tmps.getD t undef):=hf.rv t hv;rw [hb] at h1;have h2:a.tmps.getD t undef = .bool b:=by generalize a.tmps.getD t undef=u at h1;cases h1;rfl
 have aI:t < a.tmps.size:=by
  rcases a4r t a.tmps.size with h' | h'
  ·exact h'
  ·simp [a9E h',undef] at h2
 have hw:Region.wanted o (yielded aa a.tmps)=(b == aq):=by
  have h3:a.tmps[t]? = some (.bool b):=by
   rw [a0H,a1j aI] at h2;rw [a1j aI,<- h2];rfl
  have h4:yielded aa a.tmps j=some b:=by unfold yielded;rw [ht,n_9,h3]
  simp only [Region.wanted,hg,h4];cases b<;>cases aq<;>rfl
 have fx:∀ t,o.dst=some t->t < n:=fun t ht=>by rw [ht] at hd;exact hd
 unfold wpList;by_cases cM:b=aq
 ·rw [n_1 (by rw [hw];simpa using cM)];refine .inl (a30 (hy cM M w a.eval hr fun x _ hx=>hf.eval hr hx) (fun v w' ha=>?_) (fun ch w' ha=>?_))
  ·obtain ⟨c',Y,M',h1,h2,h3,h4,rfl⟩:=ha;injection h4 with h4
   subst h4;exact h.later h1 h2 ((hf.mono h1).put fx (fun _=>h3) fun hh=>absurd cM hh)
  ·obtain ⟨c',v,Y,M',h0,h1,h2,h3,h4,_⟩:=ha;cases h4
 ·rw [n_0 (by rw [hw];simpa using cM)];exact h.later (Ext.refl M w) hr (hf.put fx (fun hh=>absurd hh cM) fun _=>rfl)
theorem c5Z (hg:o.guard=some (j,aq)) (ht:(aa[j]?).bind (·.dst)=some t) (hv:¬ E.ok t->E.un t) (hb:E.f t = .val (.bool b))
 (hd:(match o.dst with | some d=>d < n | none=>True)) (hy:E.ok t->b=aq->l8 C σ E o c) (h:J4 C n aa Q l (E.put o.dst c (E.ok t/\b=aq)) σ):J4 C n aa Q (o::l) E σ:=by
 by_cases bh:E.ok t
 ·have e:(E.ok t/\b=aq)=(b=aq):=propext ⟨fun h=>h.2,fun h=>⟨bh,h⟩⟩;rw [e] at h;exact b7d hg ht bh hb hd (hy bh) h
 ·intro M w a hr hf;have h2:=hf.un t (hv bh);have fx:∀ t,o.dst=some t->t < n:=fun t ht=>by rw [ht] at hd;exact hd
  have hw:Region.wanted o (yielded aa a.tmps)=false:=by
   have h4:yielded aa a.tmps j=none:=by
    unfold yielded;rw [ht,n_9]
    rcases a4r t a.tmps.size with h' | h'
    ·rw [a0H,a1j h'] at h2;rw [a1j h'];simp only [a8S] at h2;rw [h2];rfl
    ·rw [a9E h']
   simp only [Region.wanted,hg,h4];cases aq<;>rfl
  unfold wpList;rw [n_0 (by rw [hw];simp)];exact h.later (Ext.refl M w) hr (hf.put fx (fun hh=>absurd hh.1 bh) fun _=>rfl)
end
section
theorem d3j (hg:o.guard=none) (hd:(match o.dst with | some d=>Nat.blt d n | none=>true)=true) (hy:l8 C σ E o c) (h:J4 C n aa Q l (E.put o.dst c True) σ):J4 C n aa Q (o::l) E σ :=
 c1W hg (by
  cases fx:o.dst with
  | none=>trivial
  | some d=>rw [fx] at hd;simpa [b2A] using hd) (hy.mono fun r Y hr=>by
  obtain ⟨rfl,rfl⟩:=hr;exact h)
theorem a2N {aa:Array Oper} {o:Oper} {l:List Oper} (hg:o.guard=none) (hd:(match o.dst with | some d=>Nat.blt d n | none=>true)=true) (h:G9 C σ E o fun r Y=>match r with
 | .ret c=>J4 C n aa Q l (E.put o.dst c True) Y
 | .pan c=>Q (.pan c) E Y):J4 C n aa Q (o::l) E σ :=
 c1W hg (by
  cases fx:o.dst with
  | none=>trivial
  | some d=>rw [fx] at hd;simpa [b2A] using hd) h
theorem d9n (hg:o.guard=some (j,aq)) (ht:(aa[j]?).bind (·.dst)=some t) (hv:E.ok t) (hb:E.f t = .val (.bool b))
 (hd:(match o.dst with | some d=>Nat.blt d n | none=>true)=true) (hy:b=aq->l8 C σ E o c) (h:J4 C n aa Q l (E.put o.dst c (b=aq)) σ):J4 C n aa Q (o::l) E σ :=
 b7d hg ht hv hb (by
  cases fx:o.dst with
  | none=>trivial
  | some d=>rw [fx] at hd;simpa [b2A] using hd) hy h
theorem e0K (hg:o.guard=some (j,aq)) (ht:(aa[j]?).bind (·.dst)=some t) (hv:¬ E.ok t->E.un t) (hb:E.f t = .val (.bool b))
 (hd:(match o.dst with | some d=>Nat.blt d n | none=>true)=true) (hy:E.ok t->b=aq->l8 C σ E o c) (h:J4 C n aa Q l (E.put o.dst c (E.ok t/\b=aq)) σ):J4 C n aa Q (o::l) E σ :=
 c5Z hg ht hv hb (by
  cases fx:o.dst with
  | none=>trivial
  | some d=>rw [fx] at hd;simpa [b2A] using hd) hy h
def Env.is (E:Env):List (Nat × CV)->Prop
 | []=>True
 | (t,c)::l=>(E.ok t/\E.f t=c)/\E.is l
def Env.puts (E:Env):List (Nat × CV)->Env
 | []=>E
 | (t,c)::l=>(E.puts l).putO (some t) c .yes
theorem K5.puts (hf:K5 M w n E a):∀ {l:List (Nat × CV)},E.is l->K5 M w n (E.puts l) a
 | [],_=>hf
 | (t,c)::l,⟨⟨h1,h2⟩,h⟩=>by
  have ih:=hf.puts h;refine ⟨hf.defers,hf.size,fun x hx=>?_,fun x hx=>?_⟩
  ·rw [Env.puts,Env.putO_f];rw [Env.puts,Env.putO_ok] at hx
   split
   ·subst x;exact h2 ▸ hf.rv t h1
   ·rename_i az;rw [n_0 az] at hx;exact ih.rv x hx
  ·rw [Env.puts,Env.putO_un] at hx;split at hx
   ·exact absurd trivial hx
   ·exact ih.un x hx
theorem CWp.puts {c:Code} {l:List (Nat × CV)} (h:CWp C n c Q (E.puts l) σ) (hE:E.is l):CWp C n c Q E σ:=fun M w a hr hf=>h M w a hr (hf.puts hE)
theorem H8 {α:Type} {c:Code} (l:α->List (Nat × CV)) (S:α->List b9) (I:α->Prop) (m:α->Nat) (a0:α) (h0:I a0) (hE:E.is (l a0)) (am:σ=S a0)
 (cL:∀ (a:α) (E0:Env),I a->CWp C n c (D5.next (fun E' Y=>∃ a',m a' < m a/\I a'/\E'.is (l a')/\Y=S a') Q) (E0.puts (l a)) (S a)):CWp C n (.loop c) Q E σ:=by
 refine d2r (fun k E σ=>∃ a,k=m a/\I a/\E.is (l a)/\σ=S a) (m a0) ⟨a0,rfl,h0,hE,am⟩ fun k E σ hI=>?_;obtain ⟨a,rfl,hI,hE,rfl⟩:=hI;refine ((cL a E hI).puts hE).mono fun e E' Y h=>?_;cases e with
 | normal =>
  obtain ⟨a',h1,h2,h3,h4⟩:=h;exact ⟨m a',h1,a',rfl,h2,h3,h4⟩
 | _=>exact h
theorem N4 {α:Type} (l:α->List (Nat × CV)) (S:α->List b9) (I:α->Prop) (h:CWp C n x (D5.next (fun E' Y=>∃ a,I a/\E'.is (l a)/\Y=S a) Q) E σ) (k:∀ (a:α) (E0:Env),I a->CWp C n y Q (E0.puts (l a)) (S a)):CWp C n (.seq x y) Q E σ:=by
 refine F9 (h.mono fun e E' Y h=>?_);cases e with
 | normal =>
  obtain ⟨a,h1,h2,rfl⟩:=h;exact (k a E' h1).puts h2
 | _=>exact h
end
def a0y (C:Ctx) (E:Env) (σ:List b9) (fn:Func) (c:CV):Prop :=
 ∀ (M:A9) (w:World) (a:Act),Rel C M σ w->(∀ t,E.ok t->RV M w (E.f t) (a.tmps.getD t undef))->∃ v,(results fn a.tmps).run C.P w = .ok v w/\RV M w c v
def Env.args (args:List CV):Env:={ h:=fun t=>args[t]?,g:=fun _=>.yes}
def Fin (C:Ctx) (fn:Func) (K:W5->List b9->Prop):D5->Env->List b9->Prop
 | .normal,E,σ | .ret,E,σ=>∃ c,a0y C E σ fn c/\K (.ret c) σ
 | .pan c,_,σ=>K (.pan c) σ
 | _,_,_=>False
theorem a8R {f:FuncId} {fn:Func} {c:Code} {args:List CV} (hf:C.P.funcs[f]? = some fn) (hb:fn.body=some c) (hn':Nat.ble args.length fn.ntmps=true)
 (h:CWp C fn.ntmps c (Fin C fn K) (Env.args args) σ):b8 C f args σ K:=fun M w vs hr aI hx=>by
 have hn:=nb hn';refine calls_of_wp hf hb (wp_mono (h M w _ hr ⟨rfl,by simp;omega,fun t _=>?_,fun t ht=>absurd trivial ht⟩) fun e a w' hl=>?_)
 ·simp only [Env.args,Env.f]
  rcases a4r t args.length with ht | ht
  ·have:=hx t (args[t]) (by simp [ht]);have h1:(vs++Array.replicate (fn.ntmps - vs.size) undef).getD t undef=vs.getD t undef:=by
    simp [b3z,aI,ht]
   rw [h1];simpa [ht] using this
  ·have h1:(vs++Array.replicate (fn.ntmps - vs.size) undef).getD t undef=undef:=by
    simp only [a0H,b3z];rw [n_0 om_];rw [Array.getElem?_replicate]
    split<;>rfl
   rw [h1];simp only [b0N ht,Option.getD_none];exact .val _
 ·obtain ⟨E',Y,M',h1,h2,h3,h4⟩:=hl;cases e with
  | normal =>
   obtain ⟨c,hc,hk⟩:=h4;obtain ⟨v,hv,bj⟩:=hc M' w' a h2 h3.rv;exact ⟨h3.defers,v,hv,c,Y,M',h1,h2,bj,hk⟩
  | ret =>
   obtain ⟨c,hc,hk⟩:=h4;obtain ⟨v,hv,bj⟩:=hc M' w' a h2 h3.rv;exact ⟨h3.defers,v,hv,c,Y,M',h1,h2,bj,hk⟩
  | panic ch =>
   obtain ⟨c,v,h0,hv,hk⟩:=h4;exact ⟨h3.defers,c,v,Y,M',h0,h1,h2,hv,hk⟩
  | exit id=>exact h4.elim
  | goto l=>exact h4.elim
  | outgrown=>exact h4.elim
end Go.Cl
namespace Go.Cl
open Sem
variable {x y:Operand} {t t' e:TypeId} {c:CV} {a:Int} {s off k f:Nat} {b nn:Bool} {w:World} {v:Value} {V:List (List CV)} {tok:Option Nat} {cells:List CV}
theorem r3 {M:A9} {u:Value} (h:RV M w (.val v) u):u=v:=by cases h;rfl
theorem T5 (b off n:Nat):(⟨b,off,none⟩:Addr).add n=⟨b,off+n,none⟩:=by
 unfold Addr.add
 split
 ·simp [*]
 ·rfl
theorem a11 {P:Program} {w:World} {a:Addr} (f:Nat->Value):∀ (n i:Nat) (bo:Array Value),(∀ j,j < n->w.cell? (a.add (i+j))=some (f (i+j))) ->
 (loadCellsFrom a i n bo).run P w = .ok (bo++((List.range' i n).map f).toArray) w
 | 0,i,bo,_=>by simp [loadCellsFrom]
 | n+1,i,bo,h=>by
  have h0:=h 0 om_;rw [a8l] at h0;have ih:=a11 (P:=P) (w:=w) (a:=a) f n (i+1) (bo.push (f i)) (fun j hj=>by
   have:=h (j+1) om_;rwa [show i+(j+1)=i+1+j from by omega] at this)
  simp only [loadCellsFrom,Sem.run_bind,run_load,h0,Result.andThen_ok,ih,List.range'_succ,b2C];simp
theorem R8 {P:Program} {b:Nat} (f:Nat->Value) (n:Nat) (h:∀ j,j < n->w.cell? ⟨b,off+j,none⟩=some (f j)) :
 (loadCells ⟨b,off,none⟩ n).run P w = .ok ((List.range n).map f).toArray w:=by
 unfold loadCells;rw [a11 f n 0 #[] (fun j hj=>by rw [T5];simpa using h j hj)];simp [List.range_eq_range']
section
variable {C:Ctx} {σ:List b9} {E:Env} {o:Oper}
theorem i7 (h:∀ (M:A9) (w:World) (ρ:Operand->Value),Rel C M σ w->(∀ x∈o.op.operands,E.valid x->RV M w (E.val C x) (ρ x))->∃ v,(execOp ρ o).run C.P w = .ok (.value v) w/\RV M w c v):l8 C σ E o c :=
 fun M w ρ hr hx=>by
  obtain ⟨v,h1,h2⟩:=h M w ρ hr hx;rw [h1];exact ⟨c,σ,M,Ext.refl M w,hr,h2,rfl,rfl⟩
theorem a2S (ho:o.op = .move x) (hx:E.valid x) (ec:E.val C x=c):l8 C σ E o c :=
 i7 fun M w ρ _ h=>⟨ρ x,by simp [execOp,ho],ec ▸ h x w9 hx⟩
theorem a8k (ho:o.op = .assign x) (hx:E.valid x) (ec:E.val C x=c):l8 C σ E o c :=
 i7 fun M w ρ _ h=>⟨ρ x,by simp [execOp,ho],ec ▸ h x w9 hx⟩
theorem b3i {d:Bool} (ho:o.op = .pick x (.const (.bool true)) y) (hx:E.valid x) (ex:E.val C x = .val (.bool b)) (hy:b=false->E.valid y) (ey:b=false->E.val C y = .val (.bool d)):l8 C σ E o (.val (.bool (b || d))) :=
 i7 fun M w ρ _ h=>by
  have h1:=h x w9 hx;have h0:=h (.const (.bool true)) w9 rfl;rw [ex] at h1;have e1:=r3 h1;have e0:ρ (.const (.bool true)) = .bool true:=r3 h0;cases b with
  | true=>exact ⟨.bool true,by simp [execOp,ho,e1,e0,asBool],.val _⟩
  | false =>
   have h2:=h y w9 (hy rfl);rw [ey rfl] at h2;have e2:=r3 h2;exact ⟨.bool d,by simp [execOp,ho,e1,e2,asBool],.val _⟩
theorem b2f {d:Bool} (ho:o.op = .pick x y (.const (.bool false))) (hx:E.valid x) (ex:E.val C x = .val (.bool b)) (hy:b=true->E.valid y) (ey:b=true->E.val C y = .val (.bool d)):l8 C σ E o (.val (.bool (b && d))) :=
 i7 fun M w ρ _ h=>by
  have h1:=h x w9 hx;have h0:=h (.const (.bool false)) w9 rfl;rw [ex] at h1;have e1:=r3 h1;have e0:ρ (.const (.bool false)) = .bool false:=r3 h0;cases b with
  | false=>exact ⟨.bool false,by simp [execOp,ho,e1,e0,asBool],.val _⟩
  | true =>
   have h2:=h y w9 (hy rfl);rw [ey rfl] at h2;have e2:=r3 h2;exact ⟨.bool d,by simp [execOp,ho,e1,e2,asBool],.val _⟩
def a68 (op:BinOp) (k:IntKind) (a b:Int):Option Value :=
 match op with
 | .add=>some (.int k (k.wrap (a+b)))
 | .sub=>some (.int k (k.wrap (a - b)))
 | .mul=>some (.int k (k.wrap (a*b)))
 | .quo=>if b=0 then none else some (.int k (k.wrap (a.tdiv b)))
 | .rem=>if b=0 then none else some (.int k (a.tmod b))
 | .eql=>some (.bool (a == b))
 | .neq=>some (.bool (a != b))
 | .lss=>some (.bool (a < b))
 | .leq=>some (.bool (a<=b))
 | .gtr=>some (.bool (a > b))
 | .geq=>some (.bool (a>=b))
 | _=>none
theorem a0M {op:BinOp} {k:IntKind} {b:Int} (ho:o.op = .binOp op t x y t') (hx:E.valid x) (hy:E.valid y) (ex:E.val C x = .val (.int k a)) (ey:E.val C y = .val (.int k b)) (hv:a68 op k a b=some v):l8 C σ E o (.val v) :=
 i7 fun M w ρ _ h=>by
  have h1:=h x w9 hx;have h2:=h y w9 hy;rw [ex] at h1;rw [ey] at h2;have e1:=r3 h1;have e2:=r3 h2;refine ⟨v,?_,.val _⟩;cases op<;>simp only [a68] at hv
  case quo =>
   by_cases hb:b=0
   ·simp [hb] at hv
   ·rw [n_0 hb] at hv;injection hv with hv
    subst hv;simp [execOp,ho,e1,e2,eqGuard,binOp,Op.intDiv,hb]
  case rem =>
   by_cases hb:b=0
   ·simp [hb] at hv
   ·rw [n_0 hb] at hv;injection hv with hv
    subst hv;simp [execOp,ho,e1,e2,eqGuard,binOp,Op.intDiv,hb]
  all_goals first
   | (cases hv;done)
   | (injection hv with hv;subst hv;simp [execOp,ho,e1,e2,eqGuard,binOp,Op.intArith,Op.intCmp])
theorem a95 {x:Int} (h1 : -9223372036854775808<=x) (h2:x<=9223372036854775807):IntKind.i64.wrap x=x:=by
 rw [IntKind.wrap_i64];omega
theorem b59 {b:Int} (ho:o.op = .binOp .add t x y t') (hx:E.valid x) (hy:E.valid y) (ex:E.val C x = .val (.int .i64 a)) (ey:E.val C y = .val (.int .i64 b)) (h1 : -9223372036854775808<=a+b) (h2:a+b<=9223372036854775807):l8 C σ E o (.val (.int .i64 (a+b))):=by
 have:=a0M (σ:=σ) (v:=.int .i64 (IntKind.i64.wrap (a+b))) ho hx hy ex ey rfl;rwa [a95 h1 h2] at this
theorem b1T {b:Int} (ho:o.op = .binOp .sub t x y t') (hx:E.valid x) (hy:E.valid y) (ex:E.val C x = .val (.int .i64 a)) (ey:E.val C y = .val (.int .i64 b)) (h1 : -9223372036854775808<=a - b) (h2:a - b<=9223372036854775807):l8 C σ E o (.val (.int .i64 (a - b))):=by
 have:=a0M (σ:=σ) (v:=.int .i64 (IntKind.i64.wrap (a - b))) ho hx hy ex ey rfl;rwa [a95 h1 h2] at this
theorem b7A {b:Int} (ho:o.op = .binOp .mul t x y t') (hx:E.valid x) (hy:E.valid y) (ex:E.val C x = .val (.int .i64 a)) (ey:E.val C y = .val (.int .i64 b)) (h1 : -9223372036854775808<=a*b) (h2:a*b<=9223372036854775807):l8 C σ E o (.val (.int .i64 (a*b))):=by
 have:=a0M (σ:=σ) (v:=.int .i64 (IntKind.i64.wrap (a*b))) ho hx hy ex ey rfl;rwa [a95 h1 h2] at this
def d5N (op:BinOp) (a b:Bool):Option Bool :=
 match op with
 | .eql=>some (a == b)
 | .neq=>some (a != b)
 | _=>none
theorem d0Q {op:BinOp} {a r:Bool} (ho:o.op = .binOp op t x y t') (hu:∀ w,(underlying t).run C.P w = .ok .bool w) (hx:E.valid x) (hy:E.valid y) (ex:E.val C x = .val (.bool a)) (ey:E.val C y = .val (.bool b)) (hv:d5N op a b=some r):l8 C σ E o (.val (.bool r)) :=
 i7 fun M w ρ _ h=>by
  have h1:=h x w9 hx;have h2:=h y w9 hy;rw [ex] at h1;rw [ey] at h2;have e1:=r3 h1;have e2:=r3 h2;refine ⟨.bool r,?_,.val _⟩;have heq:∀ d,(Op.equalIn (d+1) t (.bool a) (.bool b)).run C.P w = .ok (a == b) w:=fun d=>by simp [Op.equalIn,hu]
  cases op<;>simp only [d5N] at hv<;>first
   | (cases hv;done)
   | (injection hv with hv;subst hv;simp [execOp,ho,e1,e2,eqGuard,binOp,Op.equal,Op.maxDepth,heq 9999])
  cases a<;>cases b<;>rfl
def b1l (op:BinOp) (a b:ByteArray):Option Bool :=
 match op with
 | .eql=>some (a.toList == b.toList)
 | .neq=>some (!(a.toList == b.toList))
 | .lss=>some (Op.bytesLess a.toList b.toList)
 | .leq=>some (Op.bytesLess a.toList b.toList || a.toList == b.toList)
 | .gtr=>some (!(Op.bytesLess a.toList b.toList || a.toList == b.toList))
 | .geq=>some (!Op.bytesLess a.toList b.toList)
 | _=>none
theorem d0b {op:BinOp} {a b:ByteArray} {r:Bool} (ho:o.op = .binOp op t x y t') (hx:E.valid x) (hy:E.valid y) (ex:E.val C x = .val (.string a)) (ey:E.val C y = .val (.string b)) (hv:b1l op a b=some r):l8 C σ E o (.val (.bool r)) :=
 i7 fun M w ρ _ h=>by
  have h1:=h x w9 hx;have h2:=h y w9 hy;rw [ex] at h1;rw [ey] at h2;have e1:=r3 h1;have e2:=r3 h2;refine ⟨.bool r,?_,.val _⟩;cases op<;>simp only [b1l] at hv<;>first
   | (cases hv;done)
   | (injection hv with hv;subst hv;simp [execOp,ho,e1,e2,eqGuard,binOp,Op.stringOp])
theorem c3D (ho:o.op = .unOp .not t x) (hx:E.valid x) (ex:E.val C x = .val (.bool b)):l8 C σ E o (.val (.bool (!b))) :=
 i7 fun M w ρ _ h=>by
  have h1:=h x w9 hx;rw [ex] at h1;exact ⟨.bool (!b),by simp [execOp,ho,r3 h1,Op.unary],.val _⟩
theorem c8g {k:IntKind} (ho:o.op = .unOp .neg t x) (hx:E.valid x) (ex:E.val C x = .val (.int k a)):l8 C σ E o (.val (.int k (k.wrap (0 - a)))) :=
 i7 fun M w ρ _ h=>by
  have h1:=h x w9 hx;rw [ex] at h1;exact ⟨.int k (k.wrap (0 - a)),by simp [execOp,ho,r3 h1,Op.unary,Op.intArith],.val _⟩
theorem a5S {i:Nat} {cs:List CV} (ho:o.op = .extract x i) (hx:E.valid x) (ex:E.val C x = .tup cs) (hi:cs[i]? = some c):l8 C σ E o c :=
 i7 fun M w ρ _ h=>by
  have h1:=h x w9 hx;rw [ex] at h1;generalize hu:ρ x=u at h1;cases h1 with
  | tup aI bj =>
   rename_i vs;have ab:i < vs.size:=by rw [aI];exact (n_3.1 hi).1
   refine ⟨vs.getD i undef,?_,bj i c hi⟩;simp [execOp,ho,hu,Instr.extract,ab]
theorem RV.list_inv {M:A9} (h:RV M w (.list V nn tok) v) :
 ∃ (a:Option Addr) (cap b off s:Nat) (vals:Nat->Nat->Value),v = .slice a V.length cap/\V.length<=cap/\cap<=maxLen/\a.isSome=nn/\(nn=false->cap=0)/\(V≠[]->a=some ⟨b,off,none⟩) /\
  (∀ r∈V,r.length=s)/\(∀ r∈V,∀ c∈r,c.one=true) /\
  (∀ (i j:Nat) (r:List CV) (c:CV),V[i]? = some r->r[j]? = some c->M.at b (off+i*s+j)/\w.cell? ⟨b,off+i*s+j,none⟩=some (vals i j)) /\
  (∀ (i j:Nat) (r:List CV) (c:CV),V[i]? = some r->r[j]? = some c->RV M w c (vals i j)) /\
  (∀ k,tok=some k->∃ s',M.pl[k]? = some ⟨b,cap,s'⟩/\a=some ⟨b,0,none⟩/\off=0/\(V≠[]->s'=s)):=by
 cases h with
 | list vals h1 h2 h3 h4 h5 h6 h7 h8 h9 aY=>exact ⟨_,_,_,_,_,vals,rfl,h1,h2,h3,h4,h5,h6,h7,h8,h9,aY⟩
theorem a0f {ty:TypeId} {n:Int} (ho:o.op = .call { callee:=.builtin .len,args:=#[x],argTypes:=#[t]}) (hx:E.valid x) (ex:E.val C x = .list V nn tok)
 (hu:∀ w,(underlying t).run C.P w = .ok (.slice e) w) (hn:(V.length:Int)=n) (_:o.type=ty):l8 C σ E o (.val (.int .i64 n)) :=
 i7 fun M w ρ _ h=>by
  have h1:=h x H9 hx;rw [ex] at h1;obtain ⟨a,cap,b,off,s,vals,hv,_⟩:=h1.list_inv;subst hn;exact ⟨.int .i64 V.length,by simp [execOp,ho,resolve,invoke,builtin,Builtin.len_,hu,hv,goInt],.val _⟩
theorem a0Z {ty:TypeId} {len:Nat} {n:Int} (ho:o.op = .call { callee:=.builtin .len,args:=#[x],argTypes:=#[t]}) (hx:E.valid x) (ex:E.val C x = .vec k off len)
 (hu:∀ w,(underlying t).run C.P w = .ok (.slice e) w) (hn:(len:Int)=n) (_:o.type=ty):l8 C σ E o (.val (.int .i64 n)) :=
 i7 fun M w ρ _ h=>by
  have h1:=h x H9 hx;rw [ex] at h1;generalize dZ:ρ x=u at h1;subst hn;cases h1;exact ⟨.int .i64 len,by simp [execOp,ho,resolve,invoke,builtin,Builtin.len_,hu,dZ,goInt],.val _⟩
theorem p9 {ix:Operand} {i:Int} {r:List CV} (ho:o.op = .indexAddr t x ix) (hx:E.valid x) (hi:E.valid ix) (ex:E.val C x = .list V nn tok) (ei:E.val C ix = .val (.int .i64 i))
 (hu:∀ w,(underlying t).run C.P w = .ok (.slice e) w) (hs:∀ w,(sizeOf e).run C.P w = .ok s w) (h0:0<=i) (hr:V[i.toNat]? = some r) (hl:r.length=s):l8 C σ E o (.cptr r) :=
 i7 fun M w ρ _ h=>by
  have h1:=h x w9 hx;have h2:=h ix w9 hi;rw [ex] at h1;rw [ei] at h2;obtain ⟨a,cap,b,off,s',vals,hv,bm,_,_,_,ha,cN,aM,hc,bj,_⟩:=h1.list_inv;have ab:i.toNat < V.length:=(n_3.1 hr).1;have az:V≠[]:=by rintro rfl;simp at ab
  have bN:r∈V:=n_2 hr;have hss:s'=s:=by rw [<- cN r bN,hl]
  subst hss;refine ⟨.pointer (some ⟨b,off+i.toNat*s',none⟩),?_,.cptr (vals i.toNat) (aM r bN) (fun j c hj=>?_) (fun j c hj=>bj _ _ _ _ hr hj)⟩
  ·have bp:i < (V.length:Int):=by omega
   simp [execOp,ho,hv,r3 h2,Instr.indexAt,asIntOf,hu,hs,ha az,h0,bp,T5]
  ·exact hc _ _ _ _ hr hj
theorem a3j {fs:Array Field} {fd:Field} (ho:o.op = .fieldAddr t x f) (hx:E.valid x) (ex:E.val C x = .cptr cells)
 (hu:∀ w,(underlying t).run C.P w = .ok (.struct fs) w) (hf:fs[f]? = some fd) (hs:∀ w,(sizeOf fd.type).run C.P w = .ok s w) (eR:s≠0):l8 C σ E o (.cptr (cells.drop fd.offset)) :=
 i7 fun M w ρ _ h=>by
  have h1:=h x w9 hx;rw [ex] at h1;generalize dZ:ρ x=u at h1;cases h1 with
  | cptr vals h1 h2 h3 =>
   rename_i b off;refine ⟨.pointer (some ⟨b,off+fd.offset,none⟩),?_,.cptr (fun j=>vals (fd.offset+j)) (fun c hc=>h1 c (b16 hc)) (fun j c hj=>?_) (fun j c hj=>?_)⟩
   ·simp [execOp,ho,dZ,Instr.fieldAt,hu,hf,Instr.sureAddr,fieldPlace,hs,eR,T5]
   ·rw [a5v] at hj;have:=h2 _ _ hj;rwa [<- a8T] at this
   ·rw [a5v] at hj;exact h3 _ _ hj
theorem j5 {fs:Array Field} {fd:Field} (ho:o.op = .fieldAddr t x f) (hx:E.valid x) (ex:E.val C x = .ptr k off)
 (hu:∀ w,(underlying t).run C.P w = .ok (.struct fs) w) (hf:fs[f]? = some fd) (hs:∀ w,(sizeOf fd.type).run C.P w = .ok s w) (eR:s≠0):l8 C σ E o (.ptr k (off+fd.offset)) :=
 i7 fun M w ρ _ h=>by
  have h1:=h x w9 hx;rw [ex] at h1;generalize dZ:ρ x=u at h1;cases h1 with
  | ptr hk=>exact ⟨_,by simp [execOp,ho,dZ,Instr.fieldAt,hu,hf,Instr.sureAddr,fieldPlace,hs,eR,T5],.ptr hk⟩
theorem c4k {fs:Array Field} {fd:Field} {i:Nat} (ho:o.op = .fieldAddr t x f) (hx:E.valid x) (ex:E.val C x = .eptr k i off)
 (hu:∀ w,(underlying t).run C.P w = .ok (.struct fs) w) (hf:fs[f]? = some fd) (hs:∀ w,(sizeOf fd.type).run C.P w = .ok s w) (eR:s≠0):l8 C σ E o (.eptr k i (off+fd.offset)) :=
 i7 fun M w ρ _ h=>by
  have h1:=h x w9 hx;rw [ex] at h1;generalize dZ:ρ x=u at h1;cases h1 with
  | eptr hk =>
   refine ⟨_,by simp [execOp,ho,dZ,Instr.fieldAt,hu,hf,Instr.sureAddr,fieldPlace,hs,eR,T5,a8T],.eptr hk⟩
theorem a0O (ho:o.op = .load t x) (hx:E.valid x) (ex:E.val C x = .cptr cells) (ha:∀ w,(isAgg t).run C.P w = .ok false w) (hc:cells[0]? = some c):l8 C σ E o c :=
 i7 fun M w ρ _ h=>by
  have h1:=h x w9 hx;rw [ex] at h1;generalize dZ:ρ x=u at h1;cases h1 with
  | cptr vals h1 h2 h3 =>
   rename_i b off;have:=(h2 0 c hc).2;rw [a8l] at this;exact ⟨vals 0,by simp [execOp,ho,dZ,Instr.loadAt,Instr.sureAddr,loadVar,ha,this],h3 0 c hc⟩
theorem W6 (ho:o.op = .load t x) (hx:E.valid x) (ex:E.val C x = .cptr cells) (ha:∀ w,(isAgg t).run C.P w = .ok true w) (hs:∀ w,(sizeOf t).run C.P w = .ok s w) (hl:s<=cells.length):l8 C σ E o (.agg (cells.take s)) :=
 i7 fun M w ρ _ h=>by
  have h1:=h x w9 hx;rw [ex] at h1;generalize dZ:ρ x=u at h1;cases h1 with
  | cptr vals h1 h2 h3 =>
   rename_i b off;refine ⟨.agg ((List.range s).map vals).toArray,?_,.agg (by simp [hl]) (fun c hc=>h1 c (a9Q hc)) (fun i c hi=>?_)⟩
   ·simp [execOp,ho,dZ,Instr.loadAt,Instr.sureAddr,loadVar,ha,hs,R8 (P:=C.P) (w:=w) vals s (fun j hj=>(h2 j cells[j] (by simp [show j < cells.length by omega])).2)]
   ·have bd:i < s:=by
     have:=(n_3.1 hi).1;simp at this;omega
    rw [a2d,n_1 bd] at hi;have:=h3 i c hi;simpa [bd] using this
end
end Go.Cl
namespace Go.Cl
variable {w w0 w':World} {M M' M0:A9} {c c':CV} {s k n off L i b j m ai:Nat} {t e t2 ty:TypeId} {V new:List (List CV)} {x y:Operand} {σ:List b9} {K:W5->List b9->Prop} {z v:Value} {C:Ctx} {α:Type} {ak:List Nat} {p:Pl} {E:Env} {f:FuncId} {t0:Option TypeId} {o:Oper} {nn aq:Bool} {arr:Array Value} {P:Program} {g:Prop} {r args cs av:List CV} {ob:b9} {xs:Array Operand} {ts:Array TypeId} {parts:Array (Nat × Operand)} {a:Int} {ps:List (Nat × CV)} {l:List Oper} {S:α->List b9}
def A9.add (M:A9) (p:Pl):A9:={ M with pl:=M.pl++[p]}
theorem K7 (w:World) (o:Obj) (h:b < w.heap.size):(w.alloc o).heap[b]? = w.heap[b]?:=by
 show (w.heap.push o)[b]? = _;rw [b7s,n_0 (Nat.ne_of_lt h)]
theorem B0 (w:World) (o:Obj):(w.alloc o).heap[w.heap.size]? = some o:=by
 show (w.heap.push o)[w.heap.size]? = _;rw [b7s,n_1 rfl]
theorem R5.lt (h:R5 M w p ob) (hl:ob.live=true):p.block < w.heap.size:=by
 have key:∀ {o:Obj},w.heap[p.block]? = some o->p.block < w.heap.size:=fun h=>(a1s.1 h).1;cases ob with
 | dead=>cases hl
 | boxT t0 cells=>obtain ⟨arr,ty,h,_⟩:=h;exact key h
 | tipT t0 n=>obtain ⟨_,_,_,arr,ty,h,_⟩:=h;exact key h
 | vec s V=>obtain ⟨_,_,_,_,_,arr,ty,h,_⟩:=h;exact key h
 | map es=>obtain ⟨arr,ty,h,_⟩:=h;exact key h
 | iter aD left=>obtain ⟨_,_,_,_,_,h,_⟩:=h;exact key h
 | blk o=>exact key h
 | lp o n cs=>obtain ⟨_,h,_⟩:=h;exact key h
theorem R5.mono (hx:Ext M w M' w') (hb:w'.heap[p.block]? = w.heap[p.block]?) (hc:∀ t n,ob = .tipT t n->∀ o,M'.cell p.block o->M.cell p.block o) (h:R5 M w p ob):R5 M' w' p ob:=by
 cases ob with
 | dead=>trivial
 | boxT t0 cells =>
  obtain ⟨arr,ty,h1,h2,h3,h4⟩:=h;exact ⟨arr,ty,hb.trans h1,h2,h3,fun i c hi=>(h4 i c hi).mono hx⟩
 | blk o=>exact hb.trans h
 | lp o n cs =>
  obtain ⟨tm,h1,h2,h3⟩:=h;exact ⟨tm,hb.trans h1,h2,fun x aC=>(h3 x aC).mono hx⟩
 | tipT t0 n =>
  obtain ⟨h0,fL,h1,arr,ty,h2,h3⟩:=h;exact ⟨h0,fL,⟨fun o ho=>h1.1 o (hc _ n rfl o ho),h1.2⟩,arr,ty,hb.trans h2,h3⟩
 | vec s V =>
  obtain ⟨h0,fL,h000,h1,h2,arr,ty,h3,h4,h5⟩:=h;exact ⟨h0,fL,h000,h1,h2,arr,ty,hb.trans h3,h4,fun i j r c hi hj=>(h5 i j r c hi hj).mono hx⟩
 | map es =>
  obtain ⟨ae,ai,h1,h2,h3⟩:=h;refine ⟨ae,ai,hb.trans h1,h2,fun i x hi=>?_⟩;obtain ⟨e,he,hk,hv,hc⟩:=h3 i x hi;exact ⟨e,he,hk.mono hx,hv.mono hx,hc⟩
 | iter aD left =>
  obtain ⟨mb,seen,bF,ae,ai,h1,h2,h3,h4,h5,h6,h7,h8,h9⟩:=h;refine ⟨mb,seen,bF,ae,ai,hb.trans h1,hx.full _ h2,(hx.same _ h2).trans h3,h4,h5,h6,h7,fun i x hi=>?_,fun i x hi=>?_⟩
  ·obtain ⟨e,he,hk,hv⟩:=h8 i x hi;exact ⟨e,he,hk.mono hx,hv.mono hx⟩
  ·obtain ⟨hl,j,e,he,hs,hk,hv⟩:=h9 i x hi;exact ⟨hl,j,e,he,hs,hk.mono hx,hv.mono hx⟩
theorem Ext.alloc (hr:Rel C M σ w) (p:Pl) (o:Obj):Ext M w (M.add p) (w.alloc o) :=
 ⟨⟨[p],rfl⟩,fun _ h=>h,fun _ _ h=>.inr h,fun b h=>K7 w o (hr.blk b 0 (.inl h)),fun b o' h=>M8 (K7 w o (hr.blk b o' (.inr h))),by rw [b4k];omega,T1,rfl,rfl,rfl,fun b h=>⟨h,K7 w o (hr.kep b h),id,fun _=>id⟩⟩
theorem Rel.alloc (hr:Rel C M σ w) (p:Pl) (o:Obj) (ob:b9) (hb:p.block=w.heap.size) (h:R5 (M.add p) (w.alloc o) p ob):Rel C (M.add p) (σ++[ob]) (w.alloc o):=by
 have hx:=Ext.alloc hr p o;have ap:∀ {k:Nat} {q:Pl},(M.add p).pl[k]? = some q->(k < σ.length/\M.pl[k]? = some q)\/(k=σ.length/\q=p):=by
  intro k q hk;simp only [A9.add,a6V,hr.len] at hk;split at hk
  ·exact .inl ⟨‹_›,hk⟩
  ·rename_i ab;have:k - σ.length=0:=by
    have:=(n_3.1 hk).1;simp at this;omega
   rw [this] at hk;simp at hk;exact .inr ⟨om_,hk.symm⟩
 have fj:∀ {k:Nat} {x:b9},(σ++[ob])[k]? = some x->k < σ.length->σ[k]? = some x:=by
  intro k x hk ab;rwa [R3 ab] at hk
 have hgn:∀ {x:b9},(σ++[ob])[σ.length]? = some x->x=ob:=by
  intro x hk;simp at hk;exact hk.symm
 refine ⟨by simp [A9.add,hr.len],fun b o' ha=>?_,fun k q x hk aC=>?_,fun k k' q q' x x' hk aJ bb aK hl bM hbb=>?_,fun g cells hg=>(hr.glob g cells hg).mono hx,fun b h=>(by rw [b4k];have:=hr.kep b h;omega),fun k q x hk aC bY h=>?_⟩
 ·have:=hr.blk b o' ha;rw [b4k];omega
 ·rcases ap hk with ⟨ab,hq⟩ | ⟨rfl,rfl⟩
  ·have hxo:=fj aC ab;obtain ⟨h1,h2⟩:=hr.obj k q x hq hxo;refine ⟨?_,h2⟩;by_cases hl:x.live=true
   ·exact h1.mono hx (K7 w o (h1.lt hl)) (fun _ _ _ _ h=>h)
   ·cases x<;>first | trivial | simp [b9.live] at hl
  ·have:=hgn aC;subst this;refine ⟨h,?_⟩;have hf:¬ M.full q.block:=fun hf=>by have:=hr.blk q.block 0 (.inl hf);omega
   have hc:∀ o,¬ M.cell q.block o:=fun o hc=>by have:=hr.blk q.block o (.inr hc);omega
   cases x<;>first | trivial|exact hf|exact ⟨hf,hc⟩
 ·rcases ap hk with ⟨ab,hq⟩ | ⟨rfl,rfl⟩
  ·rcases ap aJ with ⟨bp,fM⟩ | ⟨rfl,rfl⟩
   ·exact hr.inj k k' q q' x x' hq fM (fj bb ab) (fj aK bp) hl bM hbb
   ·have:=(hr.obj k q x hq (fj bb ab)).1.lt hl;omega
  ·rcases ap aJ with ⟨bp,fM⟩ | ⟨rfl,rfl⟩
   ·have:=(hr.obj k' q' x' fM (fj aK bp)).1.lt bM;omega
   ·rfl
 ·rcases ap hk with ⟨ab,hq⟩ | ⟨rfl,rfl⟩
  ·exact hr.nk k q x hq (fj aC ab) bY h
  ·have:=hr.kep _ h;omega
def CV.cells:CV->List CV
 | .agg cs=>cs
 | c=>[c]
theorem RV.cells (h:RV M w c v) (ho:c.one=true\/∃ cs,c = .agg cs) :
 v.cells.size=c.cells.length/\(∀ x∈c.cells,x.one=true)/\∀ (i:Nat) (x:CV),c.cells[i]? = some x->RV M w x (v.cells.getD i undef):=by
 rcases ho with ho | ⟨cs,rfl⟩
 ·have hv:=h.one ho;have fu:v.cells = #[v]:=by cases v<;>first|rfl | simp [Value.oneCell'] at hv
  have bG:c.cells=[c]:=by cases c<;>first|rfl | simp [CV.one] at ho
  rw [fu,bG];refine ⟨rfl,sp_ ho,fun i x hi=>?_⟩
  rcases i with _ | i
  ·simp at hi;subst hi;exact h
  ·simp at hi
 ·cases h with
  | agg h1 h2 h3=>exact ⟨h1,h2,h3⟩
variable {cells:List CV}
section
theorem a3F (t:TypeId) (v:Value) (w:World):(newVar t v).run P w = .ok ⟨w.heap.size,0,none⟩ (w.alloc (.cells v.cells t)):=by
 simp [newVar,newRow]
theorem b3a (hr:Rel C M σ w) (h:RV M w c v) (ho:c.one=true\/∃ cs,c = .agg cs) (hk:K (.ret (.ptr σ.length 0)) (σ++[.box c.cells])) :
 a3v C M w K (.pointer (some ⟨w.heap.size,0,none⟩)) (w.alloc (.cells v.cells t)):=by
 obtain ⟨h1,h2,h3⟩:=h.cells ho;have hx:=Ext.alloc hr ⟨w.heap.size,0,0⟩ (.cells v.cells t);refine ⟨.ptr σ.length 0,_,_,hx,hr.alloc ⟨w.heap.size,0,0⟩ _ (.box c.cells) rfl ⟨v.cells,t,B0 w _,h1,h2,fun i x hi=>(h3 i x hi).mono hx⟩,?_,hk⟩;exact .ptr (p:=⟨w.heap.size,0,0⟩) a9q
theorem G8 (ho:o.op = .box t x) (hx:E.valid x) (ex:E.val C x=c) (hc:c.one=true\/∃ cs,c = .agg cs) (hk:K (.ret (.ptr σ.length 0)) (σ++[.box c.cells])):G9 C σ E o K:=fun M w ρ hr h=>by
 have h1:=h x w9 hx;rw [ex] at h1;have:(execOp ρ o).run C.P w = .ok (.value (.pointer (some ⟨w.heap.size,0,none⟩))) (w.alloc (.cells (ρ x).cells t)):=by
  simp [execOp,ho,Instr.box,a3F]
 rw [this];exact b3a hr h1 hc hk
theorem p8 (ho:o.op = .alloc t) (hz:∀ w,(zeroValue t).run C.P w = .ok z w) (bO:K9 z=true) (cH:(I2 z).one=true\/∃ cs,I2 z = .agg cs) (hk:K (.ret (.ptr σ.length 0)) (σ++[.box (I2 z).cells])):G9 C σ E o K:=fun M w ρ hr h=>by
 have:(execOp ρ o).run C.P w = .ok (.value (.pointer (some ⟨w.heap.size,0,none⟩))) (w.alloc (.cells z.cells t)):=by
  simp [execOp,ho,Instr.alloc,hz,a3F]
 rw [this];exact b3a hr (a0r bO) cH hk
theorem b8X (hr:Rel C M σ w) (hp:M.pl[k]? = some p) (hb:σ[k]? = some (.boxT t0 cells)) (hi:cells[i]? = some c) :
 ∃ v,w.cell? ⟨p.block,i,none⟩=some v/\RV M w c v/\w.frozen? ⟨p.block,i,none⟩=false:=by
 obtain ⟨arr,ty,h1,h2,h3,h4⟩:=(hr.obj k p _ hp hb).1;have ab:i < arr.size:=by rw [h2];exact (n_3.1 hi).1
 refine ⟨arr.getD i undef,?_,h4 i c hi,?_⟩
 ·simp [World.cell?,h1,ab]
 ·simp [World.frozen?,h1]
theorem o5 (ho:o.op = .load t x) (hx:E.valid x) (ex:E.val C x = .ptr k off) (ha:∀ w,(isAgg t).run C.P w = .ok false w) (hk:σ[k]? = some (.boxT t0 cells)) (hc:cells[off]? = some c):l8 C σ E o c :=
 i7 fun M w ρ hr h=>by
  have h1:=h x w9 hx;rw [ex] at h1;generalize dZ:ρ x=u at h1;cases h1 with
  | ptr hp =>
   obtain ⟨v,hv,bj,_⟩:=b8X hr hp hk hc;exact ⟨v,by simp [execOp,ho,dZ,Instr.loadAt,Instr.sureAddr,loadVar,ha,hv],bj⟩
theorem M3 (ho:o.op = .load t x) (hx:E.valid x) (ex:E.val C x = .ptr k off) (ha:∀ w,(isAgg t).run C.P w = .ok true w) (hs:∀ w,(sizeOf t).run C.P w = .ok s w) (hk:σ[k]? = some (.boxT t0 cells)) (hl:off+s<=cells.length):l8 C σ E o (.agg ((cells.drop off).take s)) :=
 i7 fun M w ρ hr h=>by
  have h1:=h x w9 hx;rw [ex] at h1;generalize dZ:ρ x=u at h1;cases h1 with
  | ptr hp =>
   rename_i p;obtain ⟨arr,ty,h1,h2,h3,h4⟩:=(hr.obj k p _ hp hk).1;have aR:∀ j,j < s->w.cell? ⟨p.block,off+j,none⟩=some (arr.getD (off+j) undef):=fun j hj=>by
    have:off+j < arr.size:=by omega
    simp [World.cell?,h1,this]
   refine ⟨.agg ((List.range s).map fun j=>arr.getD (off+j) undef).toArray,?_,.agg L4 (fun c hc=>h3 c (b16 (a9Q hc))) (fun i c hi=>?_)⟩
   ·simp [execOp,ho,dZ,Instr.loadAt,Instr.sureAddr,loadVar,ha,hs,R8 (P:=C.P) (w:=w) _ s aR]
   ·have bd:i < s:=by
     have:=(n_3.1 hi).1;simp at this;omega
    rw [a2d,n_1 bd,a5v] at hi;have:=h4 (off+i) c hi;simpa [bd] using this
theorem a1R {fn:Func} {t:Nat} (hr:fn.results = #[.tmp t]) (hv:E.ok t) (ec:E.f t=c):a0y C E σ fn c:=fun M w a _ h=>by
 refine ⟨a.tmps.getD t undef,results_tmp hr _ _ _,ec ▸ h t hv⟩
end
def World.putObj (w:World) (b:Nat) (o:Obj):World:={ w with heap:=w.heap.setIfInBounds b o}
theorem World.putObj_same (w:World) (o:Obj) (hb:b < w.heap.size):(World.putObj w b o).heap[b]? = some o:=by
 simp [World.putObj,hb]
theorem World.putObj_other (w:World) {b':Nat} (o:Obj) (h:b≠b'):(World.putObj w b o).heap[b']? = w.heap[b']?:=by
 simp [World.putObj,b9i h]
theorem World.putObj_size (w:World) (b:Nat) (o:Obj):(World.putObj w b o).heap.size=w.heap.size:=by
 simp [World.putObj]
theorem World.putObj_put (w:World) (b:Nat) (o o':Obj):World.putObj (World.putObj w b o) b o'=World.putObj w b o':=by
 simp [World.putObj]
theorem World.putObj_self (w:World) {o:Obj} (h:w.heap[b]? = some o):World.putObj w b o=w:=by
 have:w.heap.setIfInBounds b o=w.heap:=by
  apply b5g;intro i;by_cases hi:b=i
  ·subst hi;have ab:=(a1s.1 h).1;rw [h];simp [ab]
  ·rw [b9i hi]
 unfold World.putObj;rw [this]
theorem b1V (w:World) {aD:Array Value} (v:Value) (h:w.heap[b]? = some (.cells aD t (0,0))) :
 w.setCell ⟨b,off,none⟩ v=World.putObj w b (.cells (aD.setIfInBounds off v) t (0,0)):=by
 have ab:=(a1s.1 h).1;unfold World.setCell World.putObj
 congr 1
 apply b5g;intro i;rw [b83];by_cases hi:b=i
 ·subst hi;rw [n_1 rfl,h,Array.getElem?_setIfInBounds_self_of_lt ab];rfl
 ·rw [n_0 hi,b9i hi]
def E7 (aD:Array Value) (o:Nat):List Value->Array Value
 | []=>aD
 | v::vs=>E7 (aD.setIfInBounds o v) (o+1) vs
theorem I6:∀ (vs:List Value) (aD:Array Value) (o:Nat),(E7 aD o vs).size=aD.size
 | [],_,_=>rfl
 | v::vs,aD,o=>by rw [E7,I6 vs];simp
theorem M5:∀ (vs:List Value) (aD:Array Value) (o i:Nat),o+vs.length<=aD.size ->
 (E7 aD o vs).getD i undef=if o<=i/\i < o+vs.length then vs.getD (i - o) undef else aD.getD i undef
 | [],aD,o,i,_=>by
  rw [E7,n_0 (by simp only [I8];omega)]
 | v::vs,aD,o,i,h=>by
  simp only [C5] at h;rw [E7,M5 vs _ _ _ L4];by_cases h1:o+1<=i/\i < o+1+vs.length
  ·rw [n_1 h1,n_1 (by simp only [C5];omega)];have:i - o=(i - (o+1))+1:=by omega
   rw [this];simp
  ·rw [n_0 h1];by_cases h2:i=o
   ·subst h2;rw [n_1 (by simp only [C5];omega)];have ab:i < aD.size:=by omega
    simp [ab]
   ·rw [n_0 (by simp only [C5];omega)];simp [b9i (Ne.symm h2)]
theorem O9 {P:Program} {b off:Nat} {t:TypeId}:∀ (vs:List Value) (i:Nat) (aD:Array Value) (w:World),w.heap[b]? = some (.cells aD t (0,0))->off+i+vs.length<=aD.size->(∀ v∈vs,v.oneCell'=true) ->
 (storeCells ⟨b,off,none⟩ vs i).run P w = .ok () (World.putObj w b (.cells (E7 aD (off+i) vs) t (0,0)))
 | [],i,aD,w,h,_,_=>by
  simp only [storeCells,E7,World.putObj_self w h];rfl
 | v::vs,i,aD,w,h,hl,h1=>by
  simp only [C5] at hl;have aR:w.cell? ⟨b,off+i,none⟩=some (aD.getD (off+i) undef):=by
   have:off+i < aD.size:=by omega
   simp [World.cell?,h,this]
  have hfz:w.frozen? ⟨b,off+i,none⟩=false:=by simp [World.frozen?,h]
  have hb:b < w.heap.size:=(a1s.1 h).1;simp only [storeCells,T5,Sem.run_bind,run_store P w _ v .plain (h1 v si_),aR,hfz,b9D,if_false,Result.andThen_ok];rw [b1V w v h];have ih:=O9 (P:=P) (off:=off) (t:=t) vs (i+1) (aD.setIfInBounds (off+i) v) (World.putObj w b (.cells (aD.setIfInBounds (off+i) v) t (0,0))) (World.putObj_same w _ hb) L4 (fun u hu=>h1 u (by simp [hu]));rw [ih,World.putObj_put];rfl
def P4 (cells:List CV) (off:Nat) (new:List CV):List CV:=cells.take off++(new++cells.drop (off+new.length))
theorem a0C {new:List CV} (h:off+new.length<=cells.length):(P4 cells off new).length=cells.length:=by
 simp [P4];omega
theorem a2E {new:List CV} (h:off+new.length<=cells.length) (i:Nat) :
 (P4 cells off new)[i]? = if off<=i/\i < off+new.length then new[i - off]? else cells[i]?:=by
 unfold P4;rw [a6V];simp only [a5u,b27 (show off<=cells.length by omega)]
 split
 ·rename_i h1;rw [n_0 om_,a2d,n_1 h1]
 ·rename_i h1;rw [a6V]
  split
  ·rename_i h2;rw [n_1 om_]
  ·rename_i h2;rw [n_0 om_,a5v]
   congr 1;omega
theorem a2v {new:List CV} (h:c∈P4 cells off new):c∈new\/c∈cells:=by
 simp only [P4,L8] at h
 rcases h with h | h | h
 ·exact .inr (a9Q h)
 ·exact .inl h
 ·exact .inr (b16 h)
theorem Ext.putObj (o:Obj) (hkp:¬ M.keep b) (hf:¬ M.full b) (hc:∀ o,¬ M.cell b o):Ext M w M (World.putObj w b o) :=
 ⟨⟨[],si_⟩,fun _ h=>h,fun _ _ h=>.inr h,fun b' h=>World.putObj_other w o (fun e=>hf (e ▸ h)),fun b' o' h=>M8 (World.putObj_other w o (fun e=>hc o' (e ▸ h))),by rw [World.putObj_size];exact n_7 _,T1,rfl,rfl,rfl,fun b' h=>⟨h,World.putObj_other w o (fun e=>hkp (e ▸ h)),id,fun _=>id⟩⟩
theorem Rel.putObj (hr:Rel C M σ w) {db:b9} (hk:M.pl[k]? = some p) (hs:σ[k]? = some db) (dv:db.live=true) (hf:¬ M.full p.block) (hc:∀ o,¬ M.cell p.block o) (o:Obj)
 (h:R5 M (World.putObj w p.block o) p ob):Rel C M (σ.set k ob) (World.putObj w p.block o):=by
 have hx:=Ext.putObj (w:=w) o (hr.nk k p db hk hs dv) hf hc;have hb:p.block < w.heap.size:=(hr.obj k p db hk hs).1.lt dv;have ap:∀ {k':Nat} {x:b9},(σ.set k ob)[k']? = some x->(k'=k/\x=ob)\/(k'≠k/\σ[k']? = some x):=by
  intro k' x hh;rw [b0A] at hh;split at hh
  ·rename_i e;split at hh
   ·injection hh with hh;exact .inl ⟨e.symm,hh.symm⟩
   ·cases hh
  ·rename_i e;exact .inr ⟨fun e'=>e e'.symm,hh⟩
 refine ⟨by simp [hr.len],fun b o' ha=>by rw [World.putObj_size];exact hr.blk b o' ha,fun k' q x aJ aC=>?_,fun k1 k2 q1 q2 x1 x2 bw bS bb aK cP cp hbb=>?_,fun g cells hg=>(hr.glob g cells hg).mono hx,fun b h=>(by rw [World.putObj_size];exact hr.kep b h),fun k' q x aJ aC bY=>?_⟩
 ·rcases ap aC with ⟨rfl,rfl⟩ | ⟨az,aT⟩
  ·have:q=p:=by rw [hk] at aJ;injection aJ with aJ;exact aJ.symm
   subst this;refine ⟨h,?_⟩;cases x<;>first | trivial|exact hf|exact ⟨hf,hc⟩
  ·obtain ⟨h1,h2⟩:=hr.obj k' q x aJ aT;refine ⟨?_,h2⟩;by_cases hl:x.live=true
   ·refine h1.mono hx (World.putObj_other w o fun e=>az ?_) (fun _ _ _ _ h=>h);exact hr.inj k' k q p x db aJ hk aT hs hl dv e.symm
   ·cases x<;>first | trivial | simp [b9.live] at hl
 ·have gR:∀ {k':Nat} {x:b9},(σ.set k ob)[k']? = some x->x.live=true->∃ x',σ[k']? = some x'/\x'.live=true:=by
   intro k' x hh hl
   rcases ap hh with ⟨rfl,rfl⟩ | ⟨_,aT⟩
   ·exact ⟨db,hs,dv⟩
   ·exact ⟨x,aT,hl⟩
  obtain ⟨y1,fk,hl1'⟩:=gR bb cP;obtain ⟨y2,hy2,hl2'⟩:=gR aK cp;exact hr.inj k1 k2 q1 q2 y1 y2 bw bS fk hy2 hl1' hl2' hbb
 ·rcases ap aC with ⟨rfl,rfl⟩ | ⟨az,aT⟩
  ·rw [hk] at aJ;injection aJ with aJ
   subst aJ;exact hr.nk _ _ db hk hs dv
  ·exact hr.nk k' q x aJ aT bY
section
theorem a24 (h:RV M w c v) (ho:c.one=true\/∃ cs,c = .agg cs):∀ u∈v.cells.toList,u.oneCell'=true:=by
 obtain ⟨h1,h2,h3⟩:=h.cells ho;intro u hu;obtain ⟨i,hi,rfl⟩:=List.mem_iff_getElem.1 hu;have bd:i < v.cells.size:=sp_ hi;have cQ:i < c.cells.length:=by omega
 have:=(h3 i c.cells[i] (by simp [cQ])).one (h2 _ (b3O cQ));simpa [bd] using this
theorem j2 (ho:o.op = .store t x y) (hx:E.valid x) (hy:E.valid y) (ex:E.val C x = .ptr k off) (ey:E.val C y=c) (hs:∀ w,(sizeOf t).run C.P w = .ok s w)
 (hc:c.one=true\/∃ cs,c = .agg cs) (hk:σ[k]? = some (.boxT t0 cells)) (hl:c.cells.length=s) (ab:off+s<=cells.length) (h:K (.ret (.val undef)) (σ.set k (.boxT t0 (P4 cells off c.cells)))):G9 C σ E o K:=fun M w ρ hr hh=>by
 have h1:=hh x w9 hx;have h2:=hh y w9 hy;rw [ex] at h1;rw [ey] at h2;generalize hu:ρ x=u at h1;cases h1 with
 | ptr hp =>
  rename_i p;obtain ⟨⟨arr,ty,e1,e2,e3,e4⟩,hf,bZ⟩:=hr.obj k p _ hp hk;obtain ⟨g1,g2,g3⟩:=h2.cells hc;have aM:=a24 h2 hc;have aI:off+c.cells.length<=cells.length:=by omega
  have au:(execOp ρ o).run C.P w = .ok .skip (World.putObj w p.block (.cells (E7 arr off (ρ y).cells.toList) (t0.getD ty) (0,0))):=by
   have:=O9 (P:=C.P) (b:=p.block) (off:=off) (t:=t0.getD ty) (ρ y).cells.toList 0 arr w e1 L4 aM;simp only [a8l] at this;simp [execOp,ho,hu,Instr.storeAt,Instr.sureAddr,storeVar,hs,g1,hl,this]
  rw [au];have hx:=Ext.putObj (w:=w) (.cells (E7 arr off (ρ y).cells.toList) (t0.getD ty) (0,0)) (hr.nk k p _ hp hk rfl) hf bZ;have hb:p.block < w.heap.size:=(a1s.1 e1).1;refine ⟨.val undef,_,M,hx,hr.putObj (ob:=.boxT t0 (P4 cells off c.cells)) hp hk rfl hf bZ _ ⟨_,ty,World.putObj_same w _ hb,by rw [I6,a0C aI,e2],fun c' bG=>?_,fun i c' hi=>?_⟩,.val _,h⟩
  ·rcases a2v bG with h' | h'
   ·exact g2 _ h'
   ·exact e3 _ h'
  ·rw [M5 _ _ _ _ L4];rw [a2E aI] at hi;simp only [a9V,g1];split at hi
   ·rename_i bC;rw [n_1 bC];have:=(g3 _ _ hi).mono hx;simpa using this
   ·rename_i bC;rw [n_0 bC];exact (e4 _ _ hi).mono hx
theorem b4V (ho:o.op = .call { callee:=.value (.func f),args:=xs,argTypes:=ts}) (aA:∀ args w,(callFunc f args).run C.P w = .ok (.enter f args) w)
 (hv:∀ x∈xs.toList,E.valid x) (ea:xs.toList.map (E.val C)=av) (h:b8 C f av σ K):G9 C σ E o K:=fun M w ρ hr hh=>by
 have hf:RV M w (.val (.func (.func f) #[] #[])) (ρ (.func f)):=hh (.func f) H9 tt;have ef:=r3 hf;have au:(execOp ρ o).run C.P w = .ok (.enter f (xs.map ρ)) w:=by
  simp [execOp,ho,resolve,ef,Deferred.ofValue,invoke,aA]
 rw [au];refine (h M w (xs.map ρ) hr (by simp [<- ea]) fun i c hi=>?_).mono fun e w' he=>by cases e<;>exact he
 subst ea;simp only [O5,N6] at hi;obtain ⟨x,hx,rfl⟩:=hi;have aC:xs[i]? = some x:=sp_ hx;have hm:x∈xs:=b6t aC;have:(xs.map ρ).getD i undef=ρ x:=by
  rw [a0H,b3T,aC];rfl
 rw [this];exact hh x (by simp [ho,Op.operands,Call.operands,hm]) (hv x (sp_ hm))
def b3m (cq:Array (Nat × Nat)) (cells:List CV):List (Nat × CV)->Option (List CV)
 | []=>some cells
 | (i,c)::rest =>
  match cq[i]? with
  | none=>none
  | some (off,size)=>if c.cells.length=size/\off+size<=cells.length then b3m cq (P4 cells off c.cells) rest else none
theorem a5s:∀ (vs:List Value) (cs:Array Value) (off j:Nat),(vs.zipIdx j).foldl (fun cs (x:Value × Nat)=>cs.setIfInBounds (off+x.2) x.1) cs=E7 cs (off+j) vs
 | [],_,_,_=>rfl
 | v::vs,cs,off,j=>by
  rw [List.zipIdx_cons,b9l,a5s vs _ off (j+1)];rfl
theorem b8F {M:A9} {w:World} {cq:Array (Nat × Nat)} {place:Nat->Option (Nat × Nat)} (aX:∀ i,place i=cq[i]?):∀ (ps:List (Nat × CV)) (qs:List (Nat × Value)) (cells:List CV) (arr:Array Value) (aw:List CV),
 b3m cq cells ps=some aw->ps.map (·.1)=qs.map (·.1)->(∀ (i:Nat) (x:Nat × CV) (y:Nat × Value),ps[i]? = some x->qs[i]? = some y->RV M w x.2 y.2/\(x.2.one=true\/∃ cs,x.2 = .agg cs)) ->
 arr.size=cells.length->(∀ c∈cells,c.one=true)->(∀ (i:Nat) (c:CV),cells[i]? = some c->RV M w c (arr.getD i undef)) ->
 ∃ r,Instr.fill place arr qs=some r/\RV M w (.agg aw) (.agg r)
 | [],[],cells,arr,aw,h,_,_,h2,h3,h4=>by
  simp only [b3m,Option.some.injEq] at h;subst h;exact ⟨arr,rfl,.agg h2 h3 h4⟩
 | [],q::qs,_,_,_,_,h,_,_,_,_=>by simp at h
 | p::ps,[],_,_,_,_,h,_,_,_,_=>by simp at h
 | (i,c)::ps,(i',v)::qs,cells,arr,aw,h,hm,bj,h2,h3,h4=>by
  simp only [b2C,List.cons.injEq] at hm;obtain ⟨rfl,hm⟩:=hm;simp only [b3m] at h;cases hp:cq[i]? with
  | none=>rw [hp] at h;cases h
  | some x =>
   obtain ⟨off,size⟩:=x;rw [hp] at h;simp only at h;split at h
   ·rename_i hc;obtain ⟨ca,cr⟩:=hc;obtain ⟨hv,aM⟩:=bj 0 (i,c) (i,v) rfl rfl;obtain ⟨g1,g2,g3⟩:=hv.cells aM;have g1:v.cells.size=c.cells.length:=g1;have aI:off+c.cells.length<=cells.length:=by omega
    have gS:(v.cells.zipIdx.foldl (fun cs (x:Value × Nat)=>cs.setIfInBounds (off+x.2) x.1) arr)=E7 arr off v.cells.toList:=by
     rw [<- Array.foldl_toList,Array.toList_zipIdx,a5s];rfl
    have ih:=b8F aX ps qs (P4 cells off c.cells) (E7 arr off v.cells.toList) aw h hm (fun j x y hx hy=>bj (j+1) x y (sp_ hx) (sp_ hy)) (by rw [I6,a0C aI,h2])
     (fun c' bG=>by
      rcases a2v bG with h' | h'
      ·exact g2 _ h'
      ·exact h3 _ h')
     (fun j c' hj=>by
      rw [M5 _ _ _ _ L4];rw [a2E aI] at hj;simp only [a9V,g1];split at hj
      ·rename_i bC;rw [n_1 bC];have:=g3 _ _ hj;simpa using this
      ·rename_i bC;rw [n_0 bC];exact h4 _ _ hj)
    obtain ⟨r,aF,aV⟩:=ih;refine ⟨r,?_,aV⟩;simp only [Instr.fill,aX,hp];rw [n_0 L4];exact (n_8 (fun z=>Instr.fill place z qs) gS).trans aF
   ·cases h
theorem d2E {fs:Array Field} {cq:Array (Nat × Nat)} {aw:List CV} (ho:o.op = .build t parts) (hv:∀ x∈parts.toList,E.valid x.2)
 (hu:∀ w,(underlying t).run C.P w = .ok (.struct fs) w) (hz:∀ w,(zeroValue t).run C.P w = .ok z w) (bO:K9 z=true) (cH:∃ cs,I2 z = .agg cs)
 (aX:∀ w,(fs.mapM fun (f:Field)=>do pure (f.offset,<- sizeOf f.type)).run C.P w = .ok cq w) (ep:parts.toList.map (fun x=>(x.1,E.val C x.2))=ps)
 (aM:∀ x∈ps,x.2.one=true\/∃ cs,x.2 = .agg cs) (cR:b3m cq (I2 z).cells ps=some aw):l8 C σ E o (.agg aw) :=
 i7 fun M w ρ hr h=>by
  have eS:RV M w (I2 z) z:=a0r bO;obtain ⟨g1,g2,g3⟩:=eS.cells (.inr cH);have bN:∀ x∈parts.toList,x.2∈o.op.operands:=fun x hx=>by
   rw [ho];simp only [Op.operands,List.mem_toArray,F4];exact ⟨x,hx,rfl⟩
  obtain ⟨r,aF,aV⟩:=b8F (M:=M) (w:=w) (place:=fun i=>cq[i]?) a0B ps (parts.toList.map fun x=>(x.1,ρ x.2)) (I2 z).cells z.cells aw cR (by simp [<- ep]) (fun i x y hx hy=>by
   refine ⟨?_,aM x (n_2 hx)⟩;subst ep;simp only [O5,N6] at hx hy;obtain ⟨a,ha,rfl⟩:=hx;obtain ⟨a',cI,rfl⟩:=hy;have:a=a':=by rw [ha] at cI;injection cI
   subst this;have hm:=n_2 ha;exact h _ (bN _ hm) (hv _ hm)) g1 g2 g3
  refine ⟨.agg r,?_,aV⟩;have hl:(parts.map fun x=>(x.1,ρ x.2)).toList=parts.toList.map fun x=>(x.1,ρ x.2):=by simp
  simp only [execOp,ho,Instr.build,Sem.run_bind,hz,Result.andThen_ok,hu,aX];simp only [hl,aF];rfl
end
def b49 (e:Edge):Bool:=Region.binds .any e
section
variable {aa:Array Oper} {E':Env} {a:Act} {Q:D5->Env->List b9->Prop}
def L5 (C:Ctx) (σ:List b9) (aa:Array Oper) (o:Oper) (E:Env) (c:CV) (g:Prop):Prop :=
 (o.guard=none/\g/\l8 C σ E o c) \/
 (∃ j t aq b,o.guard=some (j,aq)/\(aa[j]?).bind (·.dst)=some t/\(¬ E.ok t->E.un t)/\E.f t = .val (.bool b)/\(g↔(E.ok t/\b=aq))/\(E.ok t->b=aq->l8 C σ E o c))
def a2p (C:Ctx) (σ:List b9) (aa:Array Oper) (K:Env->Prop):List Oper->Env->Prop
 | [],E=>K E
 | o::l,E=>∃ c g,L5 C σ aa o E c g/\a2p C σ aa K l (E.put o.dst c g)
theorem a6P {K:Env->Prop} (h:K E):a2p C σ aa K [] E:=h
theorem e1d {K:Env->Prop} (hg:o.guard=none) (hy:l8 C σ E o c) (h:a2p C σ aa K l (E.put o.dst c True)):a2p C σ aa K (o::l) E :=
 ⟨c,True,.inl ⟨hg,tt,hy⟩,h⟩
theorem U3 {K:Env->Prop} {t:Nat} {b:Bool} (hg:o.guard=some (j,aq)) (ht:(aa[j]?).bind (·.dst)=some t) (hv:E.ok t) (hb:E.f t = .val (.bool b))
 (hy:b=aq->l8 C σ E o c) (h:a2p C σ aa K l (E.put o.dst c (b=aq))):a2p C σ aa K (o::l) E :=
 ⟨c,b=aq,.inr ⟨j,t,aq,b,hg,ht,fun h=>absurd hv h,hb,⟨fun h=>⟨hv,h⟩,fun h=>h.2⟩,fun _=>hy⟩,h⟩
theorem a4V {K:Env->Prop} {t:Nat} {b:Bool} (hg:o.guard=some (j,aq)) (ht:(aa[j]?).bind (·.dst)=some t) (hv:¬ E.ok t->E.un t) (hb:E.f t = .val (.bool b))
 (hy:E.ok t->b=aq->l8 C σ E o c) (h:a2p C σ aa K l (E.put o.dst c (E.ok t/\b=aq))):a2p C σ aa K (o::l) E :=
 ⟨c,E.ok t/\b=aq,.inr ⟨j,t,aq,b,hg,ht,hv,hb,Iff.rfl,hy⟩,h⟩
def Env.agree (t:Nat) (E E':Env):Prop:=E.f t=E'.f t/\E.ok t=E'.ok t/\E.un t=E'.un t
theorem b4B {t:Nat} {d:Option Nat} (hd:d≠some t):E.agree t (E.put d c g):=by
 cases d with
 | none=>exact ⟨rfl,rfl,rfl⟩
 | some d =>
  have ht:t≠d:=fun e=>hd (by rw [e]);unfold Env.agree;simp only [Env.put_f,Env.put_ok,Env.put_un,n_0 ht,and_self]
theorem Env.agree.symm {t:Nat} (h:E.agree t E'):E'.agree t E:=⟨h.1.symm,h.2.1.symm,h.2.2.symm⟩
theorem d1n {d d':Option Nat} {g':Prop} (h:∀ t,d=some t->d'≠some t):(E.put d c g).put d' c' g'=(E.put d' c' g').put d c g:=by
 cases d with
 | none=>rfl
 | some d =>
  cases d' with
  | none=>rfl
  | some d' =>
   have az:¬ d=d':=fun e=>h d rfl (by rw [e]);simp only [Env.put,Env.putO]
   congr 1<;>funext t<;>cases h1:Nat.beq t d<;>cases h2:Nat.beq t d'<;>first|rfl|exact absurd ((a3U h1).symm.trans (a3U h2)) az
theorem b92 {t:Nat} (h:Operand.tmp t∈o.op.operands):t∈o.looksAt aa :=
 a9O _ (c2u.2 ⟨.tmp t,sp_ h,rfl⟩)
theorem a6i {t:Nat} (hg:o.guard=some (j,aq)) (ht:(aa[j]?).bind (·.dst)=some t):t∈o.looksAt aa:=by
 unfold Oper.looksAt;rw [hg];exact b6E _ (by simp [ht])
theorem a6Q (h:∀ t∈o.looksAt aa,E.agree t E') (hd:G9 C σ E o K):G9 C σ E' o K:=fun M w ρ hr hx=>hd M w ρ hr fun x hm hv=>by
 cases x with
 | tmp t =>
  have h1:=h t (b92 hm);show RV M w (E.f t) _;rw [h1.1];exact hx (.tmp t) hm (cast h1.2.1 hv)
 | const v=>exact hx (.const v) hm hv
 | global v=>exact hx (.global v) hm hv
 | func v=>exact hx (.func v) hm hv
theorem a6I (h:∀ t∈o.looksAt aa,E.agree t E') (hd:L5 C σ aa o E c g):L5 C σ aa o E' c g:=by
 rcases hd with ⟨h1,h2,h3⟩ | ⟨j,t,aq,b,hg,ht,h1,h2,h3,h4⟩
 ·exact .inl ⟨h1,h2,a6Q h h3⟩
 ·obtain ⟨a1,a2,a3⟩:=h t (a6i hg ht);refine .inr ⟨j,t,aq,b,hg,ht,?_,?_,?_,?_⟩
  ·rw [<- a2,<- a3];exact h1
  ·rw [<- a1];exact h2
  ·rw [<- a2];exact h3
  ·rw [<- a2];exact fun k1 k2=>a6Q h (h4 k1 k2)
def c37 (C:Ctx) (aa:Array Oper) (o:Oper) (E:Env) (σ:List b9) (K:CV->Prop->List b9->Prop) (Kp:CV->List b9->Prop):Prop :=
 ∃ j t aq b c0,o.guard=some (j,aq)/\(aa[j]?).bind (·.dst)=some t/\E.ok t/\E.f t = .val (.bool b)/\(b=aq->G9 C σ E o fun r Y=>match r with | .ret c=>K c (b=aq) Y | .pan c=>Kp c Y)/\(¬ b=aq->K c0 (b=aq) σ)
def b9A (C:Ctx) (aa:Array Oper) (o:Oper) (E:Env) (σ:List b9) (K:CV->Prop->List b9->Prop) (Kp:CV->List b9->Prop):Prop :=
 (o.guard=none/\G9 C σ E o fun r Y=>match r with | .ret c=>K c True Y | .pan c=>Kp c Y)\/c37 C aa o E σ K Kp
theorem a3h {K K':CV->Prop->List b9->Prop} {Kp:CV->List b9->Prop} (h:∀ t∈o.looksAt aa,E.agree t E') (hk:∀ c g σ,K c g σ->K' c g σ) (hd:b9A C aa o E σ K Kp):b9A C aa o E' σ K' Kp:=by
 have go:∀ {g:Prop},(G9 C σ E o fun r Y=>match r with | .ret c=>K c g Y | .pan c=>Kp c Y)->G9 C σ E' o fun r Y=>match r with | .ret c=>K' c g Y | .pan c=>Kp c Y:=fun hd=>(a6Q h hd).mono fun r Y hh=>by
  cases r with
  | ret c=>exact hk _ _ _ hh
  | pan c=>exact hh
 rcases hd with ⟨h1,h2⟩ | ⟨j,t,aq,b,c0,hg,ht,h1,h2,h3,h4⟩
 ·exact .inl ⟨h1,go h2⟩
 ·obtain ⟨a1,a2,-⟩:=h t (a6i hg ht);exact .inr ⟨j,t,aq,b,c0,hg,ht,a2 ▸ h1,a1 ▸ h2,fun e=>go (h3 e),fun e=>hk _ _ _ (h4 e)⟩
theorem b5K {t:Nat} {b:Bool} (hf:K5 M w n E a) (ht:(aa[j]?).bind (·.dst)=some t) (hv:E.ok t) (hb:E.f t = .val (.bool b)):yielded aa a.tmps j=some b:=by
 have h1:=hf.rv t hv;rw [hb] at h1;have h2:a.tmps.getD t undef = .bool b:=by generalize a.tmps.getD t undef=u at h1;cases h1;rfl
 have aI:t < a.tmps.size:=by
  rcases a4r t a.tmps.size with h' | h'
  ·exact h'
  ·simp [a9E h',undef] at h2
 rw [a0H,a1j aI] at h2;unfold yielded;rw [ht,n_9,a1j aI,show a.tmps[t] = .bool b from h2]
theorem b42 {t:Nat} (hf:K5 M w n E a) (ht:(aa[j]?).bind (·.dst)=some t) (hu:E.un t):yielded aa a.tmps j=none:=by
 have h3:=hf.un t hu;unfold yielded;rw [ht,n_9]
 rcases a4r t a.tmps.size with h' | h'
 ·rw [a0H,a1j h'] at h3;rw [a1j h',show a.tmps[t]=undef from h3];rfl
 ·rw [a9E h']
theorem d2R {R:W5->List b9->Prop} (h:G9 C σ E o R) (hr:Rel C M σ w) (hf:K5 M w n E a) {K:Act->World->Prop} {Q:Exit->Act->World->Prop} (hk:∀ c v w' M' Y,Ext M w M' w'->Rel C M' Y w'->RV M' w' c v->R (.ret c) Y->K (a.put o.dst v) w')
 (hp:∀ c v w' M' Y,Ext M w M' w'->Rel C M' Y w'->RV M' w' c v->R (.pan c) Y->Q (.panic [{ v,recovered:=false}]) a w'):o.wp C.P a w K Q :=
 a30 (h M w a.eval hr fun _ _ hx=>hf.eval hr hx) (fun v w' ⟨c,Y,M',h1,h2,h3,h4⟩=>hk c v w' M' Y h1 h2 h3 h4) fun _ w' ⟨c,v,Y,M',h0,h1,h2,h3,h4⟩=>h0 ▸ hp c v w' M' Y h1 h2 h3 h4
theorem e0T {K1:CV->Prop->List b9->Prop} {Kp:CV->List b9->Prop} (h:(∃ c g,L5 C σ aa o E c g/\K1 c g σ)\/b9A C aa o E σ K1 Kp) (hr:Rel C M σ w) (hf:K5 M w n E a) (hd:∀ t,o.dst=some t->t < n) {K:Act->World->Prop} {Q:Exit->Act->World->Prop} (hk:∀ c g v w' M' Y,Ext M w M' w'->Rel C M' Y w'->K5 M' w' n (E.put o.dst c g) (a.put o.dst v)->K1 c g Y->K (a.put o.dst v) w')
 (hp:∀ c v w' M' Y,Ext M w M' w'->Rel C M' Y w'->RV M' w' c v->Kp c Y->Q (.panic [{ v,recovered:=false}]) a w'):if Region.wanted o (yielded aa a.tmps)=true then o.wp C.P a w K Q\/(o.asks C.P a w/\LetsOut Q) else K (a.put o.dst undef) w:=by
 have run:∀ {g:Prop},g->(G9 C σ E o fun r Y=>match r with | .ret c=>K1 c g Y | .pan c=>Kp c Y)->o.wp C.P a w K Q:=fun hg hd1=>d2R hd1 hr hf (fun c v w' M' Y h1 h2 h3 h4=>hk c _ v w' M' Y h1 h2 ((hf.mono h1).put hd (fun _=>h3) fun hh=>absurd hg hh) h4) hp;have quiet:∀ {c:CV} {g:Prop},g->l8 C σ E o c->K1 c g σ->o.wp C.P a w K Q:=fun hg hy bw=>run hg (hy.mono fun r Y hh=>by obtain ⟨rfl,rfl⟩:=hh;exact bw);have skip:∀ {c:CV} {g:Prop},¬ g->K1 c g σ->K (a.put o.dst undef) w:=fun hg bw=>hk _ _ _ w M σ (Ext.refl M w) hr (hf.put hd (fun hh=>absurd hh hg) fun _=>rfl) bw;have gw:∀ {j t:Nat} {aq b:Bool},o.guard=some (j,aq)->(aa[j]?).bind (·.dst)=some t->E.ok t->E.f t = .val (.bool b)->Region.wanted o (yielded aa a.tmps)=(b == aq):=fun {j t aq b} hg ht hv hb=>by
  simp only [Region.wanted,hg,b5K hf ht hv hb];cases b<;>cases aq<;>rfl
 rcases h with ⟨c,g,⟨hg,hgp,hy⟩ | ⟨j,t,aq,b,hg,ht,bh,hb,hgb,hy⟩,bw⟩ | ⟨hg,h1⟩ | ⟨j,t,aq,b,c0,hg,ht,hv,hb,h1,h2⟩
 ·rw [n_1 (by simp [Region.wanted,hg])];exact .inl (quiet hgp hy bw)
 ·by_cases gT:E.ok t
  ·rw [gw hg ht gT hb];by_cases cM:b=aq
   ·rw [n_1 (sp_ cM)];exact .inl (quiet (hgb.2 ⟨gT,cM⟩) (hy gT cM) bw)
   ·rw [n_0 (sp_ cM)];exact skip (fun hh=>cM (hgb.1 hh).2) bw
  ·rw [n_0 (by simp [Region.wanted,hg,b42 hf ht (bh gT)])];exact skip (fun hh=>gT (hgb.1 hh).1) bw
 ·rw [n_1 (by simp [Region.wanted,hg])];exact .inl (run trivial h1)
 ·rw [gw hg ht hv hb];by_cases cM:b=aq
  ·rw [n_1 (sp_ cM)];exact .inl (run cM (h1 cM))
  ·rw [n_0 (sp_ cM)];exact skip cM (h2 cM)
def CA (C:Ctx) (aa:Array Oper) (Q:D5->Env->List b9->Prop) (Lf:Array Bool) (B:Env->List b9->Prop) (T:Nat->List b9->Prop):Nat->Array Bool->Env->List b9->Prop
 | 0,L,E,σ=>L=Lf/\B E σ
 | f+1,L,E,σ=>Region.ready .any aa L≠[]/\∀ i∈Region.ready .any aa L,∃ o,aa[i]? = some o /\
  ((∃ c g,L5 C σ aa o E c g/\CA C aa Q Lf B T f (L.setIfInBounds i true) (E.put o.dst c g) σ)\/b9A C aa o E σ (fun c g Y=>T i Y/\CA C aa Q Lf B T f (L.setIfInBounds i true) (E.put o.dst c g) Y) fun c Y=>∀ E',Q (.pan c) E' Y)
variable {Lf:Array Bool} {B:Env->List b9->Prop} {T T':Nat->List b9->Prop}
theorem a5Q (h:∀ j σ,T j σ->T' j σ):∀ {f:Nat} {L:Array Bool} {E:Env} {σ:List b9},CA C aa Q Lf B T f L E σ->CA C aa Q Lf B T' f L E σ
 | 0,_,_,_,hc=>hc
 | f+1,_,_,_,⟨h0,hc⟩=>⟨h0,fun i hi=>by
  obtain ⟨o,ho,hc⟩:=hc i hi;exact ⟨o,ho,hc.imp (fun ⟨c,g,h1,h2⟩=>⟨c,g,h1,a5Q h h2⟩) (a3h (fun _ _=>⟨rfl,rfl,rfl⟩) fun _ _ _ hh=>⟨h _ _ hh.1,a5Q h hh.2⟩)⟩⟩
theorem b5a {M0:A9} {w0:World} {f0:Nat} (hd:∀ (i:Nat) (o:Oper),aa[i]? = some o->∀ t,o.dst=some t->t < n) (hB:∀ E σ M w a,B E σ->Ext M0 w0 M w->Rel C M σ w->K5 M w n E a->wpAny C.P .any aa (W2 C n Q M0 w0) f0 Lf a w):∀ {f:Nat} {L:Array Bool} {E:Env} {σ:List b9} {M:A9} {w:World} {a:Act},CA C aa Q Lf B T f L E σ->Ext M0 w0 M w->Rel C M σ w->K5 M w n E a->wpAny C.P .any aa (W2 C n Q M0 w0) (f0+f) L a w
 | 0,_,E,σ,M,w,a,⟨h1,h2⟩,hx,hr,hf=>by subst h1;exact hB E σ M w a h2 hx hr hf
 | f+1,L,E,σ,M,w,a,⟨h0,hc⟩,hx,hr,hf=>⟨fun h=>absurd h h0,fun i hi=>by
  obtain ⟨o,ho,hc⟩:=hc i hi;unfold wpOp;simp only [ho];refine e0T (K1:=fun c g Y=>CA C aa Q Lf B T f (L.setIfInBounds i true) (E.put o.dst c g) Y) (Kp:=fun c Y=>∀ E',Q (.pan c) E' Y) ?_ hr hf (hd i o ho) (fun c g v w' M' Y h1 h2 h3 h4=>b5a hd hB h4 (hx.trans h1) h2 h3) (fun c v w' M' Y h1 h2 h3 h4=>⟨E,Y,M',hx.trans h1,h2,hf.mono h1,c,v,rfl,h3,h4 E⟩);exact hc.imp id (a3h (fun _ _=>⟨rfl,rfl,rfl⟩) fun _ _ _ hh=>hh.2)⟩
theorem d3F {L:Array Bool} (h:L.getD k false=true):k < L.size/\L.getD k true=true:=by
 rcases a4r k L.size with h' | h'
 ·exact ⟨h',by simpa [h'] using h⟩
 ·simp [a9E h'] at h
theorem c9u {oi:Oper} (D:Nat->Bool) (F:List b9->Prop) (hoi:aa[i]? = some oi) (hD:∀ j o,aa[j]? = some o->D j=true->∃ e∈o.after,b49 e=true/\(e.on=i\/D e.on=true)) (hLf:∀ j o,aa[j]? = some o->j≠i->D j=false->Lf.getD j true=true) :
 ∀ {f:Nat} {L:Array Bool} {E:Env} {σ:List b9},(∀ j,j < L.size->D j=true->L.getD j true=false)->(∀ j o,aa[j]? = some o->j≠i->D j=false->L.getD j true=false->oi.apart aa o=true)->i∈Region.ready .any aa L->(∀ Y,F Y->L5 C Y aa oi E c g)->L5 C σ aa oi E c g ->
  CA C aa Q Lf B (fun j Y=>T j Y/\(D j=false->F Y)) f (L.setIfInBounds i true) (E.put oi.dst c g) σ->CA C aa Q Lf B T (f+1) L E σ:=by
 have noD:∀ {L:Array Bool} {j:Nat},(∀ j,j < L.size->D j=true->L.getD j true=false)->i∈Region.ready .any aa L->j∈Region.ready .any aa L->D j=false:=fun {L j} hDL hi hj=>by
  cases hDj:D j with
  | false=>rfl
  | true =>
   obtain ⟨_,o,ho,bq⟩:=mem_ready.1 hj;obtain ⟨e,he,hb,hh⟩:=hD j o ho hDj;obtain ⟨h1,h2⟩:=d3F (bq e he hb)
   rcases hh with hh | hh
   ·rw [hh,(mem_ready.1 hi).1] at h2;cases h2
   ·rw [hDL _ h1 hh] at h2;cases h2
 have own:∀ {f:Nat} {L:Array Bool} {E:Env} {σ:List b9},L5 C σ aa oi E c g->CA C aa Q Lf B (fun j Y=>T j Y/\(D j=false->F Y)) f (L.setIfInBounds i true) (E.put oi.dst c g) σ->∃ o,aa[i]? = some o /\
  ((∃ c g,L5 C σ aa o E c g/\CA C aa Q Lf B T f (L.setIfInBounds i true) (E.put o.dst c g) σ)\/b9A C aa o E σ (fun c g Y=>T i Y/\CA C aa Q Lf B T f (L.setIfInBounds i true) (E.put o.dst c g) Y) fun c Y=>∀ E',Q (.pan c) E' Y):=fun h1 h2=>⟨oi,hoi,.inl ⟨c,g,h1,a5Q (fun _ _ h=>h.1) h2⟩⟩
 intro f
 induction f with
 | zero =>
  intro L E σ hDL hap hi hF bk hc;refine ⟨fun h=>(by rw [h] at hi;cases hi),fun j hj=>?_⟩;by_cases eD:j=i
  ·subst eD;exact own bk hc
  ·exfalso;obtain ⟨h1,o,ho,_⟩:=mem_ready.1 hj;have h2:=hLf j o ho eD (noD hDL hi hj);rw [<- hc.1,getD_set_ne true (Ne.symm eD),h1] at h2;cases h2
 | succ f ih =>
  intro L E σ hDL hap hi hF bk hc;refine ⟨fun h=>(by rw [h] at hi;cases hi),fun j hj=>?_⟩;by_cases eD:j=i
  ·subst eD;exact own bk hc
  ·have hDj:=noD hDL hi hj;obtain ⟨o,ho,hcj⟩:=hc.2 j (ready_mono hj eD);obtain ⟨a1,a2,a3⟩:=Oper.apart_spec (hap j o ho eD hDj (mem_ready.1 hj).1);have gR:∀ t∈o.looksAt aa,(E.put oi.dst c g).agree t E:=fun t ht=>(b4B fun e=>a1 t e ht).symm;have next:∀ (c':CV) (g':Prop) (Y:List b9),L5 C Y aa oi E c g->CA C aa Q Lf B (fun j Y=>T j Y/\(D j=false->F Y)) f ((L.setIfInBounds i true).setIfInBounds j true) ((E.put oi.dst c g).put o.dst c' g') Y->CA C aa Q Lf B T (f+1) (L.setIfInBounds j true) (E.put o.dst c' g') Y:=fun c' g' Y h1 h2=>by
    have fw:∀ t∈oi.looksAt aa,E.agree t (E.put o.dst c' g'):=fun t ht=>b4B fun e=>a3 t e ht;refine ih (fun k hk hDk=>?_) (fun k ok hk hki hDk hun=>hap k ok hk hki hDk ?_) (ready_mono hi (Ne.symm eD)) (fun Y h=>a6I fw (hF Y h)) (a6I fw h1) ?_
    ·have hjk:j≠k:=fun e=>by rw [e,hDk] at hDj;cases hDj
     rw [getD_set_ne true hjk];exact hDL k (sp_ hk) hDk
    ·by_cases hjk:j=k
     ·subst hjk;exact (mem_ready.1 hj).1
     ·rw [getD_set_ne true hjk] at hun;exact hun
    ·rw [Array.setIfInBounds_comm _ _ eD,<- d1n fun t e=>a2 t e];exact h2
   refine ⟨o,ho,hcj.imp (fun ⟨c',g',h1,h2⟩=>⟨c',g',a6I gR h1,next c' g' σ bk h2⟩) (a3h gR fun c' g' Y hh=>⟨hh.1.1,next c' g' Y (hF Y (hh.1.2 hDj)) hh.2⟩)⟩
def a1i (L:Array Bool) (l:List Nat):Array Bool:=l.foldl (fun L i=>L.setIfInBounds i true) L
def b5Z (aa:Array Oper) (ms:List Nat) (Lf L:Array Bool) (i:Nat):Bool:=(Region.ready .any aa L).contains i && (List.range L.size).all (fun j=>!(ms.getD j 0).testBit i || !(L.getD j true)) && (List.range aa.size).all fun j=>match aa[j]? with
 | none=>true
 | some o=>match (ms.getD j 0).testBit i with
  | true=>o.after.toList.any fun e=>b49 e && (Nat.beq e.on i || (ms.getD e.on 0).testBit i)
  | false=>Nat.beq j i || (Lf.getD j true && (L.getD j true || match aa[i]? with
   | some oi=>oi.apart aa o
   | none=>true))
theorem c9q {ms:List Nat} {L:Array Bool} {f:Nat} {oi:Oper} (F:List b9->Prop) (hB:b5Z aa ms Lf L i=true) (hoi:aa[i]? = some oi) (hF:∀ Y,F Y->L5 C Y aa oi E c g) (bk:L5 C σ aa oi E c g) (h:CA C aa Q Lf B (fun j Y=>T j Y/\((ms.getD j 0).testBit i=false->F Y)) f (L.setIfInBounds i true) (E.put oi.dst c g) σ):CA C aa Q Lf B T (f+1) L E σ:=by
 simp only [b5Z,U6,a5D,List.mem_range] at hB;obtain ⟨⟨h1,h2⟩,h3⟩:=hB;have h4:∀ j o,aa[j]? = some o->_:=fun j o ho=>by
  have:=h3 j (a1s.1 ho).1;rw [ho] at this;exact this
 refine c9u (fun j=>(ms.getD j 0).testBit i) F hoi (fun j o ho (hD:(ms.getD j 0).testBit i=true)=>?_) (fun j o ho eD (hD:(ms.getD j 0).testBit i=false)=>?_) (fun j hj (hD:(ms.getD j 0).testBit i=true)=>?_) (fun j o ho eD (hD:(ms.getD j 0).testBit i=false) hun=>?_) (sp_ h1) hF bk h
 ·have:=h4 j o ho;simp only [hD] at this;obtain ⟨e,he,hh⟩:=List.any_eq_true.1 this;simp only [U6,a8j] at hh;exact ⟨e,sp_ he,hh.1,hh.2.imp a3U id⟩
 ·have:=h4 j o ho;simp only [hD,U6,a8j] at this
  rcases this with h | h
  ·exact absurd (a3U h) eD
  ·exact h.1
 ·have:=h2 j hj;rw [hD] at this;simpa using this
 ·have:=h4 j o ho;simp only [hD,hoi,U6,a8j] at this
  rcases this with h | ⟨_,h | h⟩
  ·exact absurd (a3U h) eD
  ·rw [hun] at h;cases h
  ·exact h
def a2O (C:Ctx) (σ:List b9) (aa:Array Oper) (K:Env->List (List b9->Prop)->Prop):List Nat->Env->List (List b9->Prop)->Prop
 | [],E,S=>K E S
 | i::l,E,S=>∃ o c g,aa[i]? = some o/\L5 C σ aa o E c g/\a2O C σ aa K l (E.put o.dst c g) (S++[fun Y=>L5 C Y aa o E c g])
def a8I (aa:Array Oper) (ms:List Nat) (Lf:Array Bool):List Nat->Array Bool->Bool
 | [],_=>true
 | i::l,L=>b5Z aa ms Lf L i && a8I aa ms Lf l (L.setIfInBounds i true)
def TF (ms:List Nat):List Nat->List (List b9->Prop)->Nat->List b9->Prop
 | i::l,F::S,j,σ=>((ms.getD j 0).testBit i=false->F σ)/\TF ms l S j σ
 | _,_,_,_=>True
theorem a7O {ms:List Nat} {K:Env->List (List b9->Prop)->Prop} {f:Nat}:∀ {l:List Nat} {L:Array Bool} {E:Env} {S:List (List b9->Prop)} {T:Nat->List b9->Prop},a8I aa ms Lf l L=true->a2O C σ aa K l E S->(∀ E' S',K E' (S++S')->CA C aa Q Lf B (fun j Y=>T j Y/\TF ms l S' j Y) f (a1i L l) E' σ)->CA C aa Q Lf B T (f+l.length) L E σ
 | [],L,E,S,T,_,h,k=>a5Q (fun _ _ h=>h.1) (k E [] (by rw [a1k];exact h))
 | i::l,L,E,S,T,hB,⟨o,c,g,ho,bk,h⟩,k=>by
  rw [a8I,U6] at hB;refine c9q (fun Y=>L5 C Y aa o E c g) hB.1 ho (fun _ h=>h) bk (a7O hB.2 h fun E' S' hk=>a5Q (fun j Y hh=>?_) (k E' ((fun Y=>L5 C Y aa o E c g)::S') (by rw [D7] at hk;exact hk)));exact ⟨⟨hh.1,hh.2.1⟩,hh.2.2⟩
theorem c3P {K:Env->Prop}:∀ (l:List Oper) (k:Nat) (E:Env) (S:List (List b9->Prop)),(∀ i,i < l.length->l[i]? = aa[k+i]?)->a2p C σ aa K l E->a2O C σ aa (fun E' _=>K E') (List.range' k l.length) E S
 | [],_,_,_,_,h=>h
 | o::l,k,E,S,hl,⟨c,g,h1,h2⟩=>⟨o,c,g,(hl 0 (Nat.zero_lt_succ _)).symm,h1,c3P l (k+1) _ _ (fun i hi=>by
  have:=hl (i+1) (Nat.succ_lt_succ hi);rw [show k+1+i=k+(i+1) by omega];simpa using this) h2⟩
def d2q (aa:Array Oper):List Nat->Array Bool->Bool
 | [],L=>(Region.ready .any aa L).isEmpty
 | i::l,L=>(match Region.ready .any aa L with
  | [j]=>Nat.beq j i
  | _=>false) && d2q aa l (L.setIfInBounds i true)
theorem a1J {L:Array Bool} {i:Nat} (h:(match Region.ready .any aa L with
 | [j]=>Nat.beq j i
 | _=>false)=true):Region.ready .any aa L=[i]:=by
 split at h
 ·rename_i j hj;rw [hj,a3U h]
 ·cases h
theorem b58 {Q:Exit->Act->World->Prop}:∀ (l:List Oper) (k:Nat) (L:Array Bool) (a:Act) (w:World),(∀ i,i < l.length->l[i]? = aa[k+i]?)->d2q aa (List.range' k l.length) L=true->wpList C.P aa Q l a w->wpAny C.P .any aa Q l.length L a w
 | [],_,L,a,w,_,hB,h=>⟨b55.1 hB,h⟩
 | o::l,k,L,a,w,hl,hB,h=>by
  rw [C5,List.range'_succ,d2q,U6] at hB;have h1:=a1J hB.1;have ho:aa[k]? = some o:=(hl 0 (Nat.zero_lt_succ _)).symm;have hK:∀ a w,wpList C.P aa Q l a w->wpAny C.P .any aa Q l.length (L.setIfInBounds k true) a w:=fun a w h=>b58 l (k+1) _ a w (fun i hi=>by
   have:=hl (i+1) (Nat.succ_lt_succ hi);rw [show k+1+i=k+(i+1) by omega];simpa using this) hB.2 h
  refine ⟨fun h0=>(by rw [h1] at h0;cases h0),fun i hi=>?_⟩;rw [h1,a9H] at hi;subst hi;unfold wpList at h;unfold wpOp;simp only [ho]
  split
  ·rename_i hw;rw [n_1 hw] at h;exact h.imp (Oper.wp_mono hK) id
  ·rename_i hw;rw [n_0 hw] at h;exact hK _ _ h
theorem Rel.drew (hr:Rel C M σ w):Rel C M σ { w with drawn:=w.drawn+1}/\Ext M w M { w with drawn:=w.drawn+1}:=by
 have hx:Ext M w M { w with drawn:=w.drawn+1}:=⟨⟨[],si_⟩,fun _ h=>h,fun _ _ h=>.inr h,fun _ _=>rfl,fun _ _ _=>rfl,n_7 _,T1,rfl,rfl,rfl,fun _ h=>⟨h,rfl,id,fun _=>id⟩⟩;refine ⟨⟨hr.len,hr.blk,fun k p ob hk hs=>⟨(hr.obj k p ob hk hs).1.mono hx rfl (fun _ _ _ _ h=>h),(hr.obj k p ob hk hs).2⟩,hr.inj,fun g cells hg=>(hr.glob g cells hg).mono hx,hr.kep,hr.nk⟩,hx⟩
theorem b4F (hd:(aa.toList.all fun o=>match o.dst with | some d=>Nat.blt d n | none=>true)=true) (i:Nat) (o:Oper) (ho:aa[i]? = some o) (t:Nat) (ht:o.dst=some t):t < n:=by
 rw [a5D] at hd;have:=hd o (by simpa using b6t ho);rw [ht] at this;simpa [b2A] using this
def L0 (aa:Array Oper):Array Bool:=Array.replicate aa.size false
def c3b (aa:Array Oper) (nh:Nat) (ms:List Nat):Bool:=Nat.ble nh aa.size && a8I aa ms (a1i (L0 aa) (List.range' 0 nh)) (List.range' 0 nh) (L0 aa) && d2q aa (List.range' nh (aa.size - nh)) (a1i (L0 aa) (List.range' 0 nh))
theorem c7o (nh:Nat) (ms:List Nat) (hB:c3b aa nh ms=true) (hd:(aa.toList.all fun o=>match o.dst with | some d=>Nat.blt d n | none=>true)=true)
 (h:a2p C σ aa (fun E'=>J4 C n aa Q (aa.toList.drop nh) E' σ) (aa.toList.take nh) E) (hr:Rel C M σ w) (hf:K5 M w n E a):wpAny C.P .any aa (W2 C n Q M w) aa.size (L0 aa) a { w with drawn:=w.drawn+1}:=by
 simp only [c3b,U6] at hB;obtain ⟨⟨h1,h2⟩,h3⟩:=hB;have hnh:=nb h1;obtain ⟨bt,hx⟩:=hr.drew;have ab:(aa.toList.take nh).length=nh:=by simp;omega
 have hld:(aa.toList.drop nh).length=aa.size - nh:=by simp
 have hc:=c3P (S:=[]) _ 0 E (fun i hi=>by rw [a2d,n_1 om_,L7,Array.getElem?_toList]) h;rw [ab] at hc;have:=b5a (f0:=aa.size - nh) (b4F hd) (fun E σ M1 w1 a1 hB bb aF dE=>by
  rw [<- hld] at h3 ⊢;exact b58 _ nh _ a1 w1 (fun i hi=>by rw [a5v,Array.getElem?_toList]) h3 (hB.later bb aF dE)) (a7O (T:=fun _ _=>True) (f:=0) (B:=fun E' Y=>J4 C n aa Q (aa.toList.drop nh) E' Y) h2 hc fun E' S' hk=>⟨rfl,hk⟩) hx bt (hf.mono hx)
 rw [L7,List.length_range',show aa.size - nh+nh=aa.size by omega] at this;exact this
theorem d4v {id:Nat} (nh:Nat) (ms:List Nat) (hm:C.P.follows .mixedOrders=true) (hB:c3b aa nh ms=true) (hd:(aa.toList.all fun o=>match o.dst with | some d=>Nat.blt d n | none=>true)=true)
 (h:a2p C σ aa (fun E'=>J4 C n aa Q (aa.toList.drop nh) E' σ) (aa.toList.take nh) E):CWp C n (.region id aa true) Q E σ:=fun M w a hr hf=>wp_region_any hm (c7o nh ms hB hd h hr hf)
end
def Env.valids (E:Env):List Operand->Prop
 | []=>True
 | x::l=>E.valid x/\E.valids l
def Env.vals (C:Ctx) (E:Env):List Operand->List CV
 | []=>[]
 | x::l=>E.val C x::E.vals C l
theorem Env.valids_mem:∀ {l:List Operand},E.valids l->∀ x∈l,E.valid x
 | [],_,x,h=>by simp at h
 | y::l,⟨h1,h2⟩,x,h=>by
  rcases J5.1 h with rfl | h
  ·exact h1
  ·exact Env.valids_mem h2 x h
theorem Env.vals_map:∀ (l:List Operand),l.map (E.val C)=E.vals C l
 | []=>rfl
 | x::l=>by simp [Env.vals,Env.vals_map l]
section
theorem d7C (ho:o.op = .call { callee:=.value (.func f),args:=xs,argTypes:=ts}) (aA:∀ args w,(callFunc f args).run C.P w = .ok (.enter f args) w)
 (hv:E.valids xs.toList) (ea:E.vals C xs.toList=av) (h:b8 C f av σ fun r Y=>r = .ret c/\Y=σ):l8 C σ E o c :=
 b4V ho aA (Env.valids_mem hv) ((Env.vals_map _).trans ea) h
def d6v (C:Ctx) (E:Env) (σ:List b9):ResultVar->CV->Prop
 | .tmp t,c=>E.ok t/\E.f t=c
 | .cell a t,c=>E.ok a/\∃ k off cells,E.f a = .ptr k off/\σ[k]? = some (.box cells) /\
  (((∀ w,(isAgg t).run C.P w = .ok false w)/\cells[off]? = some c)\/(∃ s,(∀ w,(isAgg t).run C.P w = .ok true w)/\(∀ w,(sizeOf t).run C.P w = .ok s w)/\off+s<=cells.length/\c = .agg ((cells.drop off).take s)))
def c0J (C:Ctx) (E:Env) (σ:List b9):List ResultVar->List CV->Prop
 | [],[]=>True
 | r::rs,c::cs=>d6v C E σ r c/\c0J C E σ rs cs
 | _,_=>False
theorem b5s (hr:Rel C M σ w) {u:Value} (hu:RV M w (.ptr k off) u) (hk:σ[k]? = some (.box cells))
 (h:((∀ w,(isAgg t).run C.P w = .ok false w)/\cells[off]? = some c)\/(∃ s,(∀ w,(isAgg t).run C.P w = .ok true w)/\(∀ w,(sizeOf t).run C.P w = .ok s w)/\off+s<=cells.length/\c = .agg ((cells.drop off).take s))) :
 ∃ a v,u = .pointer (some a)/\(loadVar t a).run C.P w = .ok v w/\RV M w c v:=by
 cases hu with
 | ptr hp =>
  rename_i p
  rcases h with ⟨ha,hc⟩ | ⟨s,ha,hs,hl,rfl⟩
  ·obtain ⟨v,hv,bj,_⟩:=b8X hr hp hk hc;exact ⟨_,v,rfl,by simp [loadVar,ha,hv],bj⟩
  ·obtain ⟨arr,ty,h1,h2,h3,h4⟩:=(hr.obj k p _ hp hk).1;have aR:∀ j,j < s->w.cell? ⟨p.block,off+j,none⟩=some (arr.getD (off+j) undef):=fun j hj=>by
    have:off+j < arr.size:=by omega
    simp [World.cell?,h1,this]
   refine ⟨_,.agg ((List.range s).map fun j=>arr.getD (off+j) undef).toArray,rfl,by simp [loadVar,ha,hs,R8 (P:=C.P) (w:=w) _ s aR],.agg L4 (fun c hc=>h3 c (b16 (a9Q hc))) (fun i c hi=>?_)⟩;have bd:i < s:=by
    have:=(n_3.1 hi).1;simp at this;omega
   rw [a2d,n_1 bd,a5v] at hi;have:=h4 (off+i) c hi;simpa [bd] using this
def a5o (tmps:Array Value):ResultVar->Sem Value:=fun
 | .tmp t=>pure (tmps.getD t undef)
 | .cell a t=>do loadVar t (<- asAddr (tmps.getD a undef))
theorem b4Z {M:A9} {w:World} (hr:Rel C M σ w) {tmps:Array Value} (h:∀ t,E.ok t->RV M w (E.f t) (tmps.getD t undef)):∀ (rs:List ResultVar) (cs:List CV),c0J C E σ rs cs ->
 ∃ vs:List Value,(rs.mapM (a5o tmps)).run C.P w = .ok vs w/\vs.length=cs.length/\∀ (i:Nat) (c:CV),cs[i]? = some c->RV M w c (vs.getD i undef)
 | [],[],_=>⟨[],si_,rfl,si_⟩
 | r::rs,c::cs,⟨h1,h2⟩=>by
  obtain ⟨vs,hv,hl,bj⟩:=b4Z hr h rs cs h2;have:∃ v,(a5o tmps r).run C.P w = .ok v w/\RV M w c v:=by
   cases r with
   | tmp t =>
    obtain ⟨ho,hc⟩:=h1;exact ⟨_,by simp [a5o],hc ▸ h t ho⟩
   | cell a t =>
    obtain ⟨ho,k,off,cells,he,hk,hc⟩:=h1;have hu:=h a ho;rw [he] at hu;obtain ⟨ad,v,e1,e2,e3⟩:=b5s hr hu hk hc;exact ⟨v,by simp only [a5o,e1,asAddr,Sem.run_bind,Sem.run_pure,Result.andThen_ok,e2],e3⟩
  obtain ⟨v,dI,cy⟩:=this;refine ⟨v::vs,by simp [List.mapM_cons,dI,hv],by simp [hl],fun i c' hi=>?_⟩
  rcases i with _ | i
  ·simp at hi;subst hi;exact cy
  ·exact bj i c' (sp_ hi)
 | [],_::_,h=>h.elim
 | _::_,[],h=>h.elim
theorem r9 {fn:Func} {rs:List ResultVar} (bg:fn.results=rs.toArray) (h:c0J C E σ rs cs) (hn:cs.length≠1):a0y C E σ fn (.tup cs):=fun M w a hr hh=>by
 obtain ⟨vs,h1,h2,h3⟩:=b4Z (C:=C) hr hh rs cs h;refine ⟨.tuple vs.toArray,?_,.tup (by simp [h2]) (fun i c hi=>by simpa using h3 i c hi)⟩;have:(results fn a.tmps).run C.P w=((rs.toArray.mapM (a5o a.tmps)).run C.P w).andThen fun vs w=>.ok (if h:vs.size=1 then vs[0] else .tuple vs) w:=by
  unfold results;rw [bg,Sem.run_bind];rfl
 rw [this,List.mapM_toArray,Sem.run_map,h1];simp only [Result.andThen_ok];rw [dif_neg L4]
theorem C6 {fn:Func} {r:ResultVar} (bg:fn.results = #[r]) (h:d6v C E σ r c):a0y C E σ fn c:=fun M w a hr hh=>by
 obtain ⟨vs,h1,h2,h3⟩:=b4Z (C:=C) hr hh [r] [c] ⟨h,tt⟩;obtain ⟨v,rfl⟩:∃ v,vs=[v]:=by
  match vs,h2 with
  | [v],_=>exact ⟨v,rfl⟩
 refine ⟨v,?_,by simpa using h3 0 c rfl⟩;have:(results fn a.tmps).run C.P w=((#[r].mapM (a5o a.tmps)).run C.P w).andThen fun vs w=>.ok (if h:vs.size=1 then vs[0] else .tuple vs) w:=by
  unfold results;rw [bg,Sem.run_bind];rfl
 have e:(#[r].mapM (a5o a.tmps))=([r].toArray.mapM (a5o a.tmps)):=rfl;rw [this,e,List.mapM_toArray,Sem.run_map,h1];simp
def A9.settle (M:A9) (b:Nat):A9:={ M with full:=fun x=>M.full x\/x=b}
theorem Rel.allocFull (hr:Rel C M σ w) (ob:Obj):Ext M w (M.settle w.heap.size) (w.alloc ob)/\Rel C (M.settle w.heap.size) σ (w.alloc ob):=by
 have hx:Ext M w (M.settle w.heap.size) (w.alloc ob):=⟨⟨[],by simp [A9.settle]⟩,fun _ h=>.inl h,fun _ _ h=>.inr h,fun b h=>K7 w ob (hr.blk b 0 (.inl h)),fun b o' h=>M8 (K7 w ob (hr.blk b o' (.inr h))),by rw [b4k];omega,T1,rfl,rfl,rfl,fun b h=>⟨h,K7 w ob (hr.kep b h),fun f=>(by
  rcases f with f | f
  ·exact f
  ·have:=hr.kep b h;omega),fun _ f=>f⟩⟩
 refine ⟨hx,hr.len,fun b o' ha=>?_,fun k p x hk hs=>?_,hr.inj,fun g cells hg=>(hr.glob g cells hg).mono hx,fun b h=>(by rw [b4k];have:=hr.kep b h;omega),hr.nk⟩
 ·rw [b4k]
  rcases ha with (ha | ha) | ha
  ·have:=hr.blk b o' (.inl ha);omega
  ·omega
  ·have:=hr.blk b o' (.inr ha);omega
 ·obtain ⟨h1,h2⟩:=hr.obj k p x hk hs;by_cases hl:x.live=true
  ·have ab:=h1.lt hl;refine ⟨h1.mono hx (K7 w ob ab) (fun _ _ _ _ h=>h),?_⟩;have hf:¬ M.full p.block->¬ (M.settle w.heap.size).full p.block:=fun h h'=>by
    rcases h' with h' | h'
    ·exact h h'
    ·omega
   cases x<;>first | trivial|exact hf h2|exact ⟨hf h2.1,h2.2⟩
  ·cases x<;>first|exact ⟨tt,tt⟩ | simp [b9.live] at hl
def a48 (place:Nat->Option (Nat × Nat)) (cells:List CV):List (Nat × CV)->Option (List CV)
 | []=>some cells
 | (i,c)::rest =>
  match place i with
  | none=>none
  | some (off,size)=>if c.cells.length=size/\off+size<=cells.length then a48 place (P4 cells off c.cells) rest else none
theorem a8u {M:A9} {w:World} {place:Nat->Option (Nat × Nat)}:∀ (ps:List (Nat × CV)) (qs:List (Nat × Value)) (cells:List CV) (arr:Array Value) (aw:List CV),
 a48 place cells ps=some aw->ps.map (·.1)=qs.map (·.1)->(∀ (i:Nat) (x:Nat × CV) (y:Nat × Value),ps[i]? = some x->qs[i]? = some y->RV M w x.2 y.2/\(x.2.one=true\/∃ cs,x.2 = .agg cs)) ->
 arr.size=cells.length->(∀ c∈cells,c.one=true)->(∀ (i:Nat) (c:CV),cells[i]? = some c->RV M w c (arr.getD i undef)) ->
 ∃ r,Instr.fill place arr qs=some r/\RV M w (.agg aw) (.agg r)
 | [],[],cells,arr,aw,h,_,_,h2,h3,h4=>by
  simp only [a48,Option.some.injEq] at h;subst h;exact ⟨arr,rfl,.agg h2 h3 h4⟩
 | [],q::qs,_,_,_,_,h,_,_,_,_=>by simp at h
 | p::ps,[],_,_,_,_,h,_,_,_,_=>by simp at h
 | (i,c)::ps,(i',v)::qs,cells,arr,aw,h,hm,bj,h2,h3,h4=>by
  simp only [b2C,List.cons.injEq] at hm;obtain ⟨rfl,hm⟩:=hm;simp only [a48] at h;cases hp:place i with
  | none=>rw [hp] at h;cases h
  | some x =>
   obtain ⟨off,size⟩:=x;rw [hp] at h;simp only at h;split at h
   ·rename_i hc;obtain ⟨ca,cr⟩:=hc;obtain ⟨hv,aM⟩:=bj 0 (i,c) (i,v) rfl rfl;obtain ⟨g1,g2,g3⟩:=hv.cells aM;have g1:v.cells.size=c.cells.length:=g1;have aI:off+c.cells.length<=cells.length:=by omega
    have gS:(v.cells.zipIdx.foldl (fun cs (x:Value × Nat)=>cs.setIfInBounds (off+x.2) x.1) arr)=E7 arr off v.cells.toList:=by
     rw [<- Array.foldl_toList,Array.toList_zipIdx,a5s];rfl
    have ih:=a8u ps qs (P4 cells off c.cells) (E7 arr off v.cells.toList) aw h hm (fun j x y hx hy=>bj (j+1) x y (sp_ hx) (sp_ hy)) (by rw [I6,a0C aI,h2])
     (fun c' bG=>by
      rcases a2v bG with h' | h'
      ·exact g2 _ h'
      ·exact h3 _ h')
     (fun j c' hj=>by
      rw [M5 _ _ _ _ L4];rw [a2E aI] at hj;simp only [a9V,g1];split at hj
      ·rename_i bC;rw [n_1 bC];have:=g3 _ _ hj;simpa using this
      ·rename_i bC;rw [n_0 bC];exact h4 _ _ hj)
    obtain ⟨r,aF,aV⟩:=ih;refine ⟨r,?_,aV⟩;simp only [Instr.fill,hp];rw [n_0 L4];exact (n_8 (fun z=>Instr.fill place z qs) gS).trans aF
   ·cases h
theorem a4U {α:Type} {s:Nat}:∀ (V:List (List α)),(∀ r∈V,r.length=s)->∀ (i j:Nat) (r:List α) (c:α),V[i]? = some r->r[j]? = some c->V.flatten[i*s+j]? = some c
 | [],_,i,j,r,c,h,_=>by simp at h
 | r0::V,hs,i,j,r,c,hi,hj=>by
  have h0:=hs r0 si_;rw [List.flatten_cons,a6V]
  rcases i with _ | i
  ·simp at hi;subst hi;have:=(n_3.1 hj).1;rw [n_1 om_];simpa using hj
  ·simp at hi;have hr:=hs r (by simp [n_2 hi]);have ab:=(n_3.1 hj).1;rw [n_0 (by rw [h0,Q5];omega)];have:=a4U V (fun r hr=>hs r (by simp [hr])) i j r c hi hj;rw [h0,show (i+1)*s+j - s=i*s+j from by rw [Q5];omega];exact this
theorem flat_len {α:Type} {s:Nat}:∀ (V:List (List α)),(∀ r∈V,r.length=s)->V.flatten.length=V.length*s
 | [],_=>by simp
 | r0::V,hs=>by
  have h0:=hs r0 si_;rw [List.flatten_cons,n_6,flat_len V (fun r hr=>hs r (by simp [hr])),h0,C5,Q5];omega
theorem b4W {len:Nat} (ho:o.op = .buildSlice t len parts) (hv:E.valids (parts.toList.map (·.2)))
 (hu:∀ w,(underlying t).run C.P w = .ok (.slice e) w) (hs:∀ w,(sizeOf e).run C.P w = .ok s w) (hz:∀ w,(zeroValue e).run C.P w = .ok z w) (bO:K9 z=true) (cH:(I2 z).one=true\/∃ cs,I2 z = .agg cs) (fX:(I2 z).cells.length=s) (eR:0 < s)
 (aj:len*s<=2^24) (ep:parts.toList.map (fun x=>(x.1,E.val C x.2))=ps) (aM:∀ x∈ps,x.2.one=true\/∃ cs,x.2 = .agg cs)
 (cR:a48 (fun i=>some (i*s,s)) ((List.range (len*s)).map fun i=>(I2 z).cells.getD (i%s) default) ps=some V.flatten) (cN:V.length=len) (bg:∀ r∈V,r.length=s):l8 C σ E o (.list V true none):=fun M w ρ hr h=>by
 have eS:RV M w (I2 z) z:=a0r bO;obtain ⟨g1,g2,g3⟩:=eS.cells cH;have bN:∀ x∈parts.toList,x.2∈o.op.operands:=fun x hx=>by
  rw [ho];simp only [Op.operands,List.mem_toArray,F4];exact ⟨x,hx,rfl⟩
 have bH:=Env.valids_mem hv;obtain ⟨r,aF,aV⟩:=a8u (M:=M) (w:=w) ps (parts.toList.map fun x=>(x.1,ρ x.2)) ((List.range (len*s)).map fun i=>(I2 z).cells.getD (i%s) default) ((Array.range (len*s)).map (z.cells[·%z.cells.size]!)) V.flatten cR (by simp [<- ep]) (fun i x y hx hy=>by
  refine ⟨?_,aM x (n_2 hx)⟩;subst ep;simp only [O5,N6] at hx hy;obtain ⟨a,ha,rfl⟩:=hx;obtain ⟨a',cI,rfl⟩:=hy;have:a=a':=by rw [ha] at cI;injection cI
  subst this;have hm:=n_2 ha;exact h _ (bN _ hm) (bH _ (F4.2 ⟨_,hm,rfl⟩))) si_ (fun c hc=>by
   obtain ⟨i,_,rfl⟩:=F4.1 hc;have ab:i%s < (I2 z).cells.length:=by rw [fX];exact a5m _ eR
   rw [a58,a09 ab];exact g2 _ (b3O ab)) (fun i c hi=>by
   rw [O5,N6] at hi;obtain ⟨i',bd,rfl⟩:=hi;have bp:=(n_3.1 bd).1;simp at bp;rw [List.getElem?_range bp] at bd;injection bd with bd
   subst bd;have ab:i%s < (I2 z).cells.length:=by rw [fX];exact a5m _ eR
   have hlt2:i%s < z.cells.size:=by rw [g1];exact ab
   have:=g3 (i%s) _ (a09 ab);have e1:(I2 z).cells.getD (i%s) default=(I2 z).cells[i%s]:=by
    rw [a58,a09 ab];rfl
   rw [e1];have e2:((Array.range (len*s)).map (z.cells[·%z.cells.size]!)).getD i undef=z.cells.getD (i%s) undef:=by
    have bI:z.cells.size=s:=by rw [g1,fX]
    have hms:i%s < s:=a5m _ eR;simp [bp,bI,hms]
   rw [e2];exact this)
 cases aV with
 | agg q1 q2 q3 =>
  obtain ⟨hx,eU⟩:=hr.allocFull (.cells r e);have au:(execOp ρ o).run C.P w = .ok (.value (.slice (some ⟨w.heap.size,0,none⟩) len len)) (w.alloc (.cells r e)):=by
   have hl:(parts.map fun x=>(x.1,ρ x.2)).toList=parts.toList.map fun x=>(x.1,ρ x.2):=by simp
   simp only [execOp,ho,Instr.buildSlice,Sem.run_bind,hu,Result.andThen_ok,hs];rw [n_0 om_];simp only [hl];by_cases fL:len*s=0
   ·have er:Array.range 0 = #[]:=rfl;rw [fL,er] at aF;simp only [List.map_toArray,List.map_nil] at aF;simp [fL,er,aF,newRow]
   ·simp [fL,hz,aF,newRow]
  rw [au];have bm:V.length<=maxLen:=by
   have:len<=len*s:=Nat.le_mul_of_pos_right _ eR;unfold maxLen;omega
  refine ⟨.list V true none,σ,_,hx,eU,?_,rfl,rfl⟩;rw [<- cN];have hflen:=flat_len V bg;refine .list (b:=w.heap.size) (off:=0) (s:=s) (fun i j=>r.getD (i*s+j) undef) (n_7 _) bm rfl (fun h=>by cases h) a0B bg (fun r0 bJ c hc=>q2 c (List.mem_flatten.2 ⟨r0,bJ,hc⟩)) (fun i j r0 c hi hj=>?_) (fun i j r0 c hi hj=>?_) (fun k hk=>by cases hk)
  ·have hf:=a4U V bg i j r0 c hi hj;have ab:=(n_3.1 hf).1;have bp:i*s+j < r.size:=by omega
   refine ⟨.inl (.inr rfl),?_⟩;rw [L7,World.cell?_alloc_new];simp [bp]
  ·exact (q3 _ _ (a4U V bg i j r0 c hi hj)).mono hx
def a1X (C:Ctx) (E:Env) (x:Option Operand) (d:Nat) (n:Nat):Prop :=
 match x with
 | none=>d=n
 | some x=>E.valid x/\∃ k i,E.val C x = .val (.int k i)/\0<=i/\i.toNat=n
theorem a2w {lo hi:Option Operand} {tok:Option Nat} {l h:Nat} (ho:o.op = .slice t x lo hi none) (hx:E.valid x) (ex:E.val C x = .list V nn tok)
 (hu:∀ w,(underlying t).run C.P w = .ok (.slice e) w) (hs:∀ w,(sizeOf e).run C.P w = .ok s w) (bg:∀ r∈V,r.length=s) (gG:a1X C E lo 0 l) (gU:a1X C E hi V.length h) (h1:l<=h) (h2:h<=V.length):l8 C σ E o (.list ((V.take h).drop l) nn none) :=
 i7 fun M w ρ hr hh=>by
  have aC:=hh x w9 hx;rw [ex] at aC;obtain ⟨a,cap,b,off,s',vals,hv,bm,bi,eb,dw,ha,cN,aM,hc,bj,_⟩:=aC.list_inv;have gW:∀ v,lo=some v->∃ k i,ρ v = .int k i/\0<=i/\i.toNat=l:=fun v hv=>by
   subst hv;obtain ⟨bH,k,i,he,h0,hi⟩:=gG;have:=hh v w9 bH;rw [he] at this;exact ⟨k,i,r3 this,h0,hi⟩
  have fy:∀ v,hi=some v->∃ k i,ρ v = .int k i/\0<=i/\i.toNat=h:=fun v hv=>by
   subst hv;obtain ⟨bH,k,i,he,h0,hi⟩:=gU;have:=hh v w9 bH;rw [he] at this;exact ⟨k,i,r3 this,h0,hi⟩
  have hb:(Instr.sliceBounds true V.length cap (lo.map ρ) (hi.map ρ) none).run C.P w = .ok (l,h,cap) w:=by
   have cp:(l:Int)<=h:=by omega
   have hh2:(h:Int)<=cap:=by omega
   cases lo with
   | none =>
    have:l=0:=by simpa [a1X] using gG.symm
    subst this;cases hi with
    | none =>
     have:h=V.length:=by simpa [a1X] using gU.symm
     subst this;simp [Instr.sliceBounds]
    | some v =>
     obtain ⟨k,i,he,h0,hi⟩:=fy v rfl;have:i<=(cap:Int):=by omega
     simp [Instr.sliceBounds,Instr.sliceBound,he,asIntOf,h0,this,hi]
   | some u =>
    obtain ⟨k',i',fz,gX,bd⟩:=gW u rfl;have aP:i'<=(h:Int):=by omega
    cases hi with
    | none =>
     have:h=V.length:=by simpa [a1X] using gU.symm
     subst this;simp [Instr.sliceBounds,Instr.sliceBound,fz,asIntOf,gX,aP,bd]
    | some v =>
     obtain ⟨k,i,he,h0,hi⟩:=fy v rfl;have bG:i<=(cap:Int):=by omega
     simp [Instr.sliceBounds,Instr.sliceBound,he,fz,asIntOf,h0,gX,bG,hi,aP,bd]
  have au:(execOp ρ o).run C.P w = .ok (.value (.slice (if cap=l then a else a.map (·.add (l*s))) (h - l) (cap - l))) w:=by
   simp [execOp,ho,Instr.sliceAt,Instr.slice,hu,hv,hb,hs]
  have aj:((V.take h).drop l).length=h - l:=by simp;omega
  refine ⟨_,au,?_⟩;rw [<- aj];have ap:∀ i r,((V.take h).drop l)[i]? = some r->V[l+i]? = some r:=fun i r hi=>by
   rw [a5v,a2d] at hi;split at hi
   ·exact hi
   ·cases hi
  refine .list (b:=b) (off:=off+l*s) (s:=s) (fun i j=>vals (l+i) j) (by rw [aj];omega) om_ ?_ (fun h0=>by have:=dw h0;omega) (fun az=>?_) (fun r hr=>bg r (a9Q (b16 hr))) (fun r hr c hc=>aM r (a9Q (b16 hr)) c hc) (fun i j r c hi hj=>?_) (fun i j r c hi hj=>bj _ _ _ _ (ap i r hi) hj) (fun k hk=>by cases hk)
  ·split
   ·exact eb
   ·rw [Option.isSome_map];exact eb
  ·have gY:V≠[]:=by rintro rfl;simp at az
   have ab:l < h:=by
    rcases a4r l h with h' | h'
    ·exact h'
    ·exact absurd (b3D (by rw [aj];omega)) az
   rw [n_0 om_,ha gY];simp [T5]
  ·have bd:=ap i r hi;have hss:s'=s:=by
    have hm:=n_2 bd;rw [<- cN r hm,bg r hm]
   subst hss;have:=hc _ _ _ _ bd hj;rw [show off+l*s'+i*s'+j=off+(l+i)*s'+j from by rw [Q5];omega];exact this
end
def Src (C:Ctx) (M:A9) (w:World) (V:List (List CV)) (s:Nat) (v:Value):Prop :=
 ∃ a c,v = .slice a V.length c/\V.length<=c/\(∀ r∈V,r.length=s) /\
  ∃ arr:Array Value,(Builtin.firstCells s V.length v).run C.P w = .ok arr w/\arr.size=V.length*s /\
   ∀ (i j:Nat) (r:List CV) (c:CV),V[i]? = some r->r[j]? = some c->RV M w c (arr.getD (i*s+j) undef)/\c.one=true
theorem c0F (hj:j < s):(i*s+j) / s=i/\(i*s+j)%s=j:=by
 have hs:0 < s:=by omega
 refine ⟨?_,?_⟩
 ·rw [b5S,Nat.add_mul_div_right _ _ hs,Nat.div_eq_of_lt hj,L7]
 ·rw [b5S,Nat.add_mul_mod_self_right,b5l hj]
theorem Src.one (bg:∀ r∈V,r.length=s) (aI:arr.size=V.length*s)
 (h:∀ (i j:Nat) (r:List CV) (c:CV),V[i]? = some r->r[j]? = some c->RV M w c (arr.getD (i*s+j) undef)/\c.one=true):∀ u∈arr.toList,u.oneCell'=true:=by
 intro u hu;obtain ⟨q,hq,rfl⟩:=List.mem_iff_getElem.1 hu;have fM:q < V.length*s:=by simpa [aI] using hq
 have hs:0 < s:=by
  rcases b20 s with h0 | h0
  ·subst h0;simp at fM
  ·exact h0
 have hi:q / s < V.length:=Nat.div_lt_of_lt_mul (by rwa [b3Z] at fM);have hj:q%s < s:=a5m _ hs;have hr:V[q / s]? = some V[q / s]:=by simp [hi]
 have cd:q%s < (V[q / s]).length:=by rw [bg _ (b3O hi)];exact hj
 obtain ⟨h1,h2⟩:=h (q / s) (q%s) _ _ hr (a09 cd);have hqq:q / s*s+q%s=q:=by rw [b3Z];exact Nat.div_add_mod q s
 rw [hqq] at h1;have:=h1.one h2;have gZ:q < arr.size:=by omega
 simpa [gZ] using this
section
theorem a7q (f:Nat->Nat->Value) (h:∀ i j,i < n->j < s->w.cell? ⟨b,off+i*s+j,none⟩=some (f i j)) :
 (loadCells ⟨b,off,none⟩ (n*s)).run C.P w = .ok ((List.range (n*s)).map fun q=>f (q / s) (q%s)).toArray w :=
 R8 (fun q=>f (q / s) (q%s)) (n*s) fun q hq=>by
  have hs:0 < s:=by
   rcases b20 s with h0 | h0
   ·subst h0;simp at hq
   ·exact h0
  have:=h (q / s) (q%s) (Nat.div_lt_of_lt_mul (by rwa [b3Z] at hq)) (a5m _ hs);rwa [a8T,show q / s*s+q%s=q from by rw [b3Z];exact Nat.div_add_mod q s] at this
theorem a07 {tok:Option Nat} (h:RV M w (.list V nn tok) v) (bg:∀ r∈V,r.length=s):Src C M w V s v:=by
 obtain ⟨a,cap,b,off,s',vals,rfl,bm,bi,eb,dw,ha,cN,aM,hc,bj,_⟩:=h.list_inv;refine ⟨a,cap,rfl,bm,bg,?_⟩
 rcases V with _ | ⟨r0,V⟩
 ·refine ⟨#[],?_,si_,si_⟩;cases a with
  | none=>simp [Builtin.firstCells]
  | some a=>simp [Builtin.firstCells,loadCells,loadCellsFrom]
 ·have hss:s'=s:=by rw [<- cN r0 si_,bg r0 si_]
  subst hss;rw [ha si_];generalize eE:r0::V=rs at *;have aR:∀ i j,i < rs.length->j < s'->w.cell? ⟨b,off+i*s'+j,none⟩=some (vals i j):=fun i j hi hj=>by
   have hr:rs[i]? = some rs[i]:=by simp [hi]
   have hl:j < rs[i].length:=by rw [bg _ (b3O hi)];exact hj
   exact (hc i j _ _ hr (a09 hl)).2
  refine ⟨_,by simp only [Builtin.firstCells];exact a7q vals aR,si_,fun i j r c hi hj=>⟨?_,aM r (n_2 hi) c (n_2 hj)⟩⟩;have bn:=(n_3.1 hi).1;have cd:j < s':=by have:=(n_3.1 hj).1;rwa [bg r (n_2 hi)] at this
  have hq:i*s'+j < rs.length*s':=by
   have:(i+1)*s'<=rs.length*s':=S4 _ bn;rw [Q5] at this;omega
  obtain ⟨e1,e2⟩:=c0F (i:=i) cd;have:((List.range (rs.length*s')).map fun q=>vals (q / s') (q%s')).toArray.getD (i*s'+j) undef=vals i j:=by simp [hq,e1,e2]
  rw [this];exact bj i j r c hi hj
theorem b17 {len:Nat} (hr:Rel C M σ w) (h:RV M w (.vec k off len) v) (hk:σ[k]? = some (.vec s V)) (hl:off+len<=V.length):Src C M w ((V.drop off).take len) s v:=by
 cases h with
 | vec hp h1 h2 h3 =>
  rename_i p a;obtain ⟨⟨rfl,q1,q2,q3,q4,arr,ty,q5,q6,q7⟩,_⟩:=hr.obj k p _ hp hk;have aj:((V.drop off).take len).length=len:=by simp;omega
  refine ⟨some a,p.cap - off,by rw [aj],by rw [aj];omega,fun r hr=>q3 r (b16 (a9Q hr)),?_⟩;rw [aj];have ap:∀ i r,((V.drop off).take len)[i]? = some r->i < len/\V[off+i]? = some r:=fun i r hi=>by
   rw [a2d] at hi;split at hi
   ·rw [a5v] at hi;exact ⟨‹_›,hi⟩
   ·cases hi
  rcases b20 len with h0 | h0
  ·subst h0;exact ⟨#[],by simp [Builtin.firstCells,loadCells,loadCellsFrom],si_,fun i j r c hi _=>by have:=(ap i r hi).1;omega⟩
  ·rw [h3 om_];have aR:∀ i j,i < len->j < p.size->w.cell? ⟨p.block,off*p.size+i*p.size+j,none⟩=some (arr.getD ((off+i)*p.size+j) undef):=fun i j hi hj=>by
    have hq:(off+i)*p.size+j < arr.size:=by
     rw [q6];have:(off+i+1)*p.size<=p.cap*p.size:=S4 _ om_;rw [Q5 (off+i)] at this;omega
    rw [show off*p.size+i*p.size+j=(off+i)*p.size+j from by rw [Q5 off]];simp [World.cell?,q5,hq]
   refine ⟨_,by simp only [Builtin.firstCells];exact a7q _ aR,si_,fun i j r c hi hj=>?_⟩;obtain ⟨bn,bd⟩:=ap i r hi;have bN:=n_2 bd;refine ⟨?_,q4 r bN c (n_2 hj)⟩;have cd:j < p.size:=by have:=(n_3.1 hj).1;rwa [q3 r bN] at this
   have hq:i*p.size+j < len*p.size:=by
    have:(i+1)*p.size<=len*p.size:=S4 _ bn;rw [Q5] at this;omega
   obtain ⟨e1,e2⟩:=c0F (i:=i) cd;have:((List.range (len*p.size)).map fun q=>arr.getD ((off+q / p.size)*p.size+q%p.size) undef).toArray.getD (i*p.size+j) undef=arr.getD ((off+i)*p.size+j) undef:=by simp [hq,e1,e2]
   rw [this];exact q7 _ _ _ _ bd hj
def Q8 (V:List (List CV)) (p:Nat) (new:List (List CV)):List (List CV):=V.take p++(new++V.drop (p+new.length))
theorem b9q {p:Nat} (hp:p<=V.length) (i:Nat) :
 (Q8 V p new)[i]? = if p<=i/\i < p+new.length then new[i - p]? else V[i]?:=by
 unfold Q8;rw [a6V];simp only [a5u,b27 hp]
 split
 ·rename_i h1;rw [n_0 om_,a2d,n_1 h1]
 ·rename_i h1;rw [a6V]
  split
  ·rename_i h2;rw [n_1 om_]
  ·rename_i h2;rw [n_0 om_,a5v]
   congr 1;omega
theorem a9t {p:Nat} (h:r∈Q8 V p new):r∈new\/r∈V:=by
 simp only [Q8,L8] at h
 rcases h with h | h | h
 ·exact .inr (a9Q h)
 ·exact .inl h
 ·exact .inr (b16 h)
theorem b1z {p:Nat} (hp:p<=V.length):(Q8 V p new).length=max V.length (p+new.length):=by
 simp [Q8];omega
theorem a6X (hr:Rel C M σ w) {p:Nat} {q:Pl} (hq:M.pl[k]? = some q) (hk:σ[k]? = some (.vec s V)) (hp:p<=V.length) (hpc:p+new.length<=q.cap) (ck:∀ r∈new,r.length=s) (aI:arr.size=new.length*s)
 (bj:∀ (i j:Nat) (r:List CV) (c:CV),new[i]? = some r->r[j]? = some c->RV M w c (arr.getD (i*s+j) undef)/\c.one=true) :
 ∃ w',(storeCells ⟨q.block,p*s,none⟩ arr.toList).run C.P w = .ok () w'/\Ext M w M w'/\Rel C M (σ.set k (.vec s (Q8 V p new))) w':=by
 obtain ⟨⟨rfl,q1,q2,q3,q4,aD,ty,q5,q6,q7⟩,hf,hc⟩:=hr.obj k q _ hq hk;have dx:p*q.size+arr.toList.length<=aD.size:=by
  rw [a9V,aI,q6,<- Q5];exact S4 _ hpc
 have au:=O9 (P:=C.P) (b:=q.block) (off:=p*q.size) (t:=ty) arr.toList 0 aD w q5 om_ (Src.one ck aI bj);rw [a8l] at au;have hx:=Ext.putObj (w:=w) (.cells (E7 aD (p*q.size) arr.toList) ty (0,0)) (hr.nk k q _ hq hk rfl) hf hc;have hb:q.block < w.heap.size:=(a1s.1 q5).1;refine ⟨_,au,hx,hr.putObj (ob:=.vec q.size (Q8 V p new)) hq hk rfl hf hc _ ⟨rfl,by rw [b1z hp];omega,q2,fun r hr=>?_,fun r hr c hc=>?_,_,ty,World.putObj_same w _ hb,by rw [I6,q6],fun i j r c hi hj=>?_⟩⟩
 ·rcases a9t hr with h | h
  ·exact ck r h
  ·exact q3 r h
 ·rcases a9t hr with h | h
  ·obtain ⟨i,hi⟩:=M6.1 h;obtain ⟨j,hj⟩:=M6.1 hc;exact (bj i j r c hi hj).2
  ·exact q4 r h c hc
 ·rw [M5 _ _ _ _ dx];rw [b9q hp] at hi;have cN:r.length=q.size:=by
   split at hi
   ·exact ck r (n_2 hi)
   ·exact q3 r (n_2 hi)
  have cd:j < q.size:=by have:=(n_3.1 hj).1;omega
  simp only [a9V,aI];split at hi
  ·rename_i bC;have cQ:i - p < new.length:=by omega
   have e1:p*q.size<=i*q.size:=S4 _ bC.1;have e2:(i - p)*q.size=i*q.size - p*q.size:=Nat.sub_mul _ _ _;have e3:(i - p+1)*q.size<=new.length*q.size:=S4 _ cQ;rw [Q5] at e3;rw [n_1 om_];have:=(bj (i - p) j r c hi hj).1.mono hx;rw [show i*q.size+j - p*q.size=(i - p)*q.size+j from by omega];simpa using this
  ·rename_i bC;rw [n_0 ?_]
   ·exact (q7 _ _ _ _ hi hj).mono hx
   ·rintro ⟨h1,h2⟩;apply bC;refine ⟨?_,?_⟩
    ·rcases a4r i p with h | h
     ·have:(i+1)*q.size<=p*q.size:=S4 _ h;rw [Q5] at this;omega
     ·exact h
    ·rcases a4r i (p+new.length) with h | h
     ·exact h
     ·have:(p+new.length)*q.size<=i*q.size:=S4 _ h;rw [Q5] at this;omega
theorem T8 {ix:Operand} {len:Nat} {i:Int} (ho:o.op = .indexAddr t x ix) (hx:E.valid x) (hi:E.valid ix) (ex:E.val C x = .vec k off len) (ei:E.val C ix = .val (.int .i64 i))
 (hu:∀ w,(underlying t).run C.P w = .ok (.slice e) w) (hs:∀ w,(sizeOf e).run C.P w = .ok s w) (hk:σ[k]? = some (.vec s V)) (h0:0<=i) (hl:i.toNat < len):l8 C σ E o (.eptr k (off+i.toNat) 0) :=
 i7 fun M w ρ hr h=>by
  have h1:=h x w9 hx;have h2:=h ix w9 hi;rw [ex] at h1;rw [ei] at h2;generalize hv:ρ x=v at h1;cases h1 with
  | vec hp g1 g2 g3 =>
   rename_i p a;obtain ⟨⟨rfl,_⟩,_⟩:=hr.obj k p _ hp hk;have ab:i < (len:Int):=by omega
   refine ⟨.pointer (some ⟨p.block,(off+i.toNat)*p.size+0,none⟩),?_,.eptr hp⟩;simp [execOp,ho,hv,r3 h2,Instr.indexAt,asIntOf,hu,hs,g3 om_,h0,ab,T5,Q5]
theorem b7p (hr:Rel C M σ w) (hp:M.pl[k]? = some p) (hk:σ[k]? = some (.vec s V)) (hi:V[i]? = some r) (hc:r[off]? = some c) :
 ∃ v,w.cell? ⟨p.block,i*p.size+off,none⟩=some v/\RV M w c v:=by
 obtain ⟨⟨rfl,q1,q2,q3,q4,arr,ty,q5,q6,q7⟩,_⟩:=hr.obj k p _ hp hk;have bn:=(n_3.1 hi).1;have cd:off < p.size:=by have:=(n_3.1 hc).1;rwa [q3 r (n_2 hi)] at this
 have hq:i*p.size+off < arr.size:=by
  rw [q6];have:(i+1)*p.size<=p.cap*p.size:=S4 _ om_;rw [Q5] at this;omega
 exact ⟨_,by simp [World.cell?,q5,hq];rfl,by simpa [hq] using q7 i off r c hi hc⟩
theorem O8 (ho:o.op = .load t x) (hx:E.valid x) (ex:E.val C x = .eptr k i off) (ha:∀ w,(isAgg t).run C.P w = .ok false w) (hk:σ[k]? = some (.vec s V)) (hi:V[i]? = some r) (hc:r[off]? = some c):l8 C σ E o c :=
 i7 fun M w ρ hr h=>by
  have h1:=h x w9 hx;rw [ex] at h1;generalize dZ:ρ x=u at h1;cases h1 with
  | eptr hp =>
   obtain ⟨v,hv,bj⟩:=b7p hr hp hk hi hc;exact ⟨v,by simp [execOp,ho,dZ,Instr.loadAt,Instr.sureAddr,loadVar,ha,hv],bj⟩
theorem a4P (ho:o.op = .load t x) (hx:E.valid x) (ex:E.val C x = .eptr k i off) (ha:∀ w,(isAgg t).run C.P w = .ok true w) (hs:∀ w,(sizeOf t).run C.P w = .ok n w) (hk:σ[k]? = some (.vec s V)) (hi:V[i]? = some r) (hl:off+n<=r.length):l8 C σ E o (.agg ((r.drop off).take n)) :=
 i7 fun M w ρ hr h=>by
  have h1:=h x w9 hx;rw [ex] at h1;generalize dZ:ρ x=u at h1;cases h1 with
  | eptr hp =>
   rename_i p;have aM:=(hr.obj k p _ hp hk).1.2.2.2.2.1;have bq:∀ j,j < n->∃ v,w.cell? ⟨p.block,i*p.size+off+j,none⟩=some v/\∀ c,r[off+j]? = some c->RV M w c v:=fun j hj=>by
    obtain ⟨v,hv,bj⟩:=b7p hr hp hk hi (a09 (show off+j < r.length by omega));exact ⟨v,by rw [a8T];exact hv,fun c hc=>by rw [a09 (show off+j < r.length by omega)] at hc;injection hc with hc;exact hc ▸ bj⟩
   let f:Nat->Value:=fun j=>if hj:j < n then (bq j hj).choose else undef
   have hf:∀ j,j < n->w.cell? ⟨p.block,i*p.size+off+j,none⟩=some (f j)/\∀ c,r[off+j]? = some c->RV M w c (f j):=fun j hj=>by
    simp only [f,dif_pos hj];exact (bq j hj).choose_spec
   refine ⟨.agg ((List.range n).map f).toArray,?_,.agg L4 (fun c hc=>aM r (n_2 hi) c (b16 (a9Q hc))) (fun j c hj=>?_)⟩
   ·simp [execOp,ho,dZ,Instr.loadAt,Instr.sureAddr,loadVar,ha,hs,R8 (P:=C.P) (w:=w) f n (fun j hj=>(hf j hj).1)]
   ·have dl:j < n:=by
     have:=(n_3.1 hj).1;simp at this;omega
    rw [a2d,n_1 dl,a5v] at hj;have:=(hf j dl).2 c hj;simpa [dl] using this
theorem c5E (ho:o.op = .store t x y) (hx:E.valid x) (hy:E.valid y) (ex:E.val C x = .eptr k i off) (ey:E.val C y=c) (hs:∀ w,(sizeOf t).run C.P w = .ok n w)
 (hc:c.one=true\/∃ cs,c = .agg cs) (hk:σ[k]? = some (.vec s V)) (hi:V[i]? = some r) (hl:c.cells.length=n) (ab:off+n<=r.length) (h:K (.ret (.val undef)) (σ.set k (.vec s (V.set i (P4 r off c.cells))))):G9 C σ E o K:=fun M w ρ hr hh=>by
 have h1:=hh x w9 hx;have h2:=hh y w9 hy;rw [ex] at h1;rw [ey] at h2;generalize hu:ρ x=u at h1;cases h1 with
 | eptr hp =>
  rename_i p;obtain ⟨⟨rfl,q1,q2,q3,q4,arr,ty,q5,q6,q7⟩,hf,bZ⟩:=hr.obj k p _ hp hk;obtain ⟨g1,g2,g3⟩:=h2.cells hc;have aM:=a24 h2 hc;have bn:=(n_3.1 hi).1;have hrm:=n_2 hi;have cN:r.length=p.size:=q3 r hrm;have aI:off+c.cells.length<=r.length:=by omega
  have dx:i*p.size+off+(ρ y).cells.toList.length<=arr.size:=by
   rw [a9V,g1,q6];have:(i+1)*p.size<=p.cap*p.size:=S4 _ om_;rw [Q5] at this;omega
  have au:(execOp ρ o).run C.P w = .ok .skip (World.putObj w p.block (.cells (E7 arr (i*p.size+off) (ρ y).cells.toList) ty (0,0))):=by
   have:=O9 (P:=C.P) (b:=p.block) (off:=i*p.size+off) (t:=ty) (ρ y).cells.toList 0 arr w q5 om_ aM;simp only [a8l] at this;simp [execOp,ho,hu,Instr.storeAt,Instr.sureAddr,storeVar,hs,g1,hl,this]
  rw [au];have hx:=Ext.putObj (w:=w) (.cells (E7 arr (i*p.size+off) (ρ y).cells.toList) ty (0,0)) (hr.nk k p _ hp hk rfl) hf bZ;have hb:p.block < w.heap.size:=(a1s.1 q5).1;have bN:∀ r',r'∈V.set i (P4 r off c.cells)->r'=P4 r off c.cells\/r'∈V:=fun r' bt=>by
   rcases List.mem_or_eq_of_mem_set bt with h | h
   ·exact .inr h
   ·exact .inl h
  refine ⟨.val undef,_,M,hx,hr.putObj (ob:=.vec p.size (V.set i (P4 r off c.cells))) hp hk rfl hf bZ _ ⟨rfl,sp_ q1,q2,fun r' bt=>?_,fun r' bt c' bG=>?_,_,ty,World.putObj_same w _ hb,by rw [I6,q6],fun i' j r' c' bd hj=>?_⟩,.val _,h⟩
  ·rcases bN r' bt with rfl | h
   ·rw [a0C aI,cN]
   ·exact q3 r' h
  ·rcases bN r' bt with rfl | h
   ·rcases a2v bG with h' | h'
    ·exact g2 _ h'
    ·exact q4 r hrm _ h'
   ·exact q4 r' h _ bG
  ·rw [M5 _ _ _ _ dx];simp only [a9V,g1];rw [b0A] at bd;split at bd
   ·rename_i hii;subst hii;injection bd with bd
    subst bd;rw [a2E aI] at hj;split at hj
    ·rename_i bC;rw [n_1 om_];have:=(g3 _ _ hj).mono hx;rw [show i*p.size+j - (i*p.size+off)=j - off from by omega];simpa using this
    ·rename_i bC;rw [n_0 om_];exact (q7 _ _ _ _ hi hj).mono hx
   ·rename_i hii;have cd:j < p.size:=by have:=(n_3.1 hj).1;rwa [q3 r' (n_2 bd)] at this
    rw [n_0 ?_]
    ·exact (q7 _ _ _ _ bd hj).mono hx
    ·rintro ⟨h1,h2⟩
     rcases a4r i' i with h | h
     ·have:(i'+1)*p.size<=i*p.size:=S4 _ h;rw [Q5] at this;omega
     ·have:(i+1)*p.size<=i'*p.size:=S4 _ om_;rw [Q5] at this;omega
theorem a3i {lo hi:Option Operand} {len:Nat} {l h:Nat} (ho:o.op = .slice t x lo hi none) (hx:E.valid x) (ex:E.val C x = .vec k off len)
 (hu:∀ w,(underlying t).run C.P w = .ok (.slice e) w) (hs:∀ w,(sizeOf e).run C.P w = .ok s w) (hk:σ[k]? = some (.vec s V)) (gG:a1X C E lo 0 l) (gU:a1X C E hi len h) (h1:l<=h) (h2:off+h<=V.length):l8 C σ E o (.vec k (off+l) (h - l)) :=
 i7 fun M w ρ hr hh=>by
  have aC:=hh x w9 hx;rw [ex] at aC;generalize hv:ρ x=v at aC;cases aC with
  | vec hp g1 g2 g3 =>
   rename_i p a;obtain ⟨⟨rfl,q1,q2,_⟩,_⟩:=hr.obj k p _ hp hk;have gW:∀ v,lo=some v->∃ k i,ρ v = .int k i/\0<=i/\i.toNat=l:=fun v hv=>by
    subst hv;obtain ⟨bH,k,i,he,h0,hi⟩:=gG;have:=hh v w9 bH;rw [he] at this;exact ⟨k,i,r3 this,h0,hi⟩
   have fy:∀ v,hi=some v->∃ k i,ρ v = .int k i/\0<=i/\i.toNat=h:=fun v hv=>by
    subst hv;obtain ⟨bH,k,i,he,h0,hi⟩:=gU;have:=hh v w9 bH;rw [he] at this;exact ⟨k,i,r3 this,h0,hi⟩
   have bm:h<=p.cap - off:=by omega
   have hb:(Instr.sliceBounds true len (p.cap - off) (lo.map ρ) (hi.map ρ) none).run C.P w = .ok (l,h,p.cap - off) w:=by
    have cp:(l:Int)<=h:=by omega
    have hh2:(h:Int)<=((p.cap - off:Nat):Int):=by omega
    cases lo with
    | none =>
     have:l=0:=by simpa [a1X] using gG.symm
     subst this;cases hi with
     | none =>
      have:h=len:=by simpa [a1X] using gU.symm
      subst this;simp [Instr.sliceBounds]
     | some v =>
      obtain ⟨k,i,he,h0,hi⟩:=fy v rfl;have:i<=((p.cap - off:Nat):Int):=by omega
      simp [Instr.sliceBounds,Instr.sliceBound,he,asIntOf,h0,this,hi]
    | some u =>
     obtain ⟨k',i',fz,gX,bd⟩:=gW u rfl;have aP:i'<=(h:Int):=by omega
     cases hi with
     | none =>
      have:h=len:=by simpa [a1X] using gU.symm
      subst this;simp [Instr.sliceBounds,Instr.sliceBound,fz,asIntOf,gX,aP,bd]
     | some v =>
      obtain ⟨k,i,he,h0,hi⟩:=fy v rfl;have bG:i<=((p.cap - off:Nat):Int):=by omega
      simp [Instr.sliceBounds,Instr.sliceBound,he,fz,asIntOf,h0,gX,bG,hi,aP,bd]
   have au:(execOp ρ o).run C.P w = .ok (.value (.slice (if p.cap - off=l then some a else some (a.add (l*p.size))) (h - l) (p.cap - off - l))) w:=by
    simp [execOp,ho,Instr.sliceAt,Instr.slice,hu,hv,hb,hs]
   refine ⟨_,au,?_⟩;by_cases he:p.cap - off=l
   ·rw [n_1 he,show p.cap - off - l=p.cap - (off+l) from by omega];exact .vec hp om_ g2 (fun ab=>by omega)
   ·rw [n_0 he,show p.cap - off - l=p.cap - (off+l) from by omega];exact .vec hp om_ g2 (fun ab=>by rw [g3 om_,T5,Q5])
end
def kill (σ:List b9) (tok:Option Nat):List b9 :=
 match tok with
 | some k=>σ.set k .dead
 | none=>σ
def d7m (σ:List b9) (V:List (List CV)) (nn:Bool) (tok:Option Nat):Prop :=
 (V=[]/\nn=false/\tok=none)\/(V≠[]/\∃ k,tok=some k/\σ[k]? = some (.tip V.length))
def c2W (t0:Option TypeId) (σ:List b9) (V:List (List CV)) (nn:Bool) (tok:Option Nat):Prop :=
 (V=[]/\nn=false/\tok=none)\/(V≠[]/\∃ k,tok=some k/\σ[k]? = some (.tipT t0 V.length))
def A9.settleCells (M:A9) (b n:Nat):A9:={ M with cell:=fun x o=>M.cell x o\/(x=b/\o < n)}
section
theorem Rel.dead (hr:Rel C M σ w) (k:Nat):Rel C M (σ.set k .dead) w:=by
 have ap:∀ {k':Nat} {x:b9},(σ.set k .dead)[k']? = some x->x = .dead\/σ[k']? = some x:=by
  intro k' x h;rw [b0A] at h;split at h
  ·split at h
   ·injection h with h;exact .inl h.symm
   ·cases h
  ·exact .inr h
 refine ⟨by simp [hr.len],hr.blk,fun k' p x hp hx=>?_,fun k1 k2 p1 p2 x1 x2 h1 h2 bb aK cP cp hb=>?_,hr.glob,hr.kep,fun k' p x hp aC bY=>?_⟩
 ·rcases ap hx with rfl | h
  ·exact ⟨tt,tt⟩
  ·exact hr.obj k' p x hp h
 ·rcases ap bb with rfl | eF
  ·cases cP
  ·rcases ap aK with rfl | dC
   ·cases cp
   ·exact hr.inj k1 k2 p1 p2 x1 x2 h1 h2 eF dC cP cp hb
 ·rcases ap aC with rfl | h'
  ·cases bY
  ·exact hr.nk k' p x hp h' bY
theorem Rel.kill {M:A9} {w:World} (hr:Rel C M σ w) (tok:Option Nat):Rel C M (kill σ tok) w:=by
 cases tok with
 | none=>exact hr
 | some k=>exact hr.dead k
theorem b8O (σ:List b9) (tok:Option Nat):(kill σ tok).length=σ.length:=by
 cases tok<;>simp [Go.Cl.kill]
theorem Rel.settleCells (hr:Rel C M σ w) (hp:M.pl[k]? = some p) (hk:σ[k]? = some (.tipT t0 n)):Ext M w (M.settleCells p.block (n*p.size)) w/\Rel C (M.settleCells p.block (n*p.size)) σ w:=by
 have hx:Ext M w (M.settleCells p.block (n*p.size)) w:=⟨⟨[],by simp [A9.settleCells]⟩,fun _ h=>h,fun _ _ h=>.inr (.inl h),fun _ _=>rfl,fun _ _ _=>rfl,n_7 _,T1,rfl,rfl,rfl,fun b h=>⟨h,rfl,id,fun o f=>(by
  rcases f with f | ⟨rfl,_⟩
  ·exact f
  ·exact absurd h (hr.nk k p _ hp hk rfl))⟩⟩
 have ab:=(hr.obj k p _ hp hk).1.lt rfl;refine ⟨hx,hr.len,fun b o' ha=>?_,fun k' p' x aH aC=>?_,hr.inj,fun g cells hg=>(hr.glob g cells hg).mono hx,hr.kep,hr.nk⟩
 ·rcases ha with ha | ha | ⟨rfl,_⟩
  ·exact hr.blk b o' (.inl ha)
  ·exact hr.blk b o' (.inr ha)
  ·exact ab
 ·obtain ⟨h1,h2⟩:=hr.obj k' p' x aH aC;by_cases hl:x.live=true
  ·by_cases gz:k'=k
   ·subst gz;have aH:M.pl[k']? = some p':=aH;rw [hp] at aH;injection aH with aH
    subst aH;rw [hk] at aC;injection aC with aC
    subst aC;obtain ⟨q1,q2,q3,q4⟩:=h1;refine ⟨⟨q1,q2,⟨fun o ho=>?_,q3.2⟩,q4⟩,h2⟩
    rcases ho with ho | ⟨_,ho⟩
    ·exact q3.1 o ho
    ·exact ho
   ·have az:p'.block≠p.block:=fun e=>gz (hr.inj k' k p' p x _ aH hp aC hk hl rfl e);refine ⟨h1.mono hx rfl (fun _ _ _ o ho=>?_),?_⟩
    ·rcases ho with ho | ⟨ho,_⟩
     ·exact ho
     ·exact absurd ho az
    ·have hc:(∀ o,¬ M.cell p'.block o)->∀ o,¬ (M.settleCells p.block (n*p.size)).cell p'.block o:=fun h o ho=>by
      rcases ho with ho | ⟨ho,_⟩
      ·exact h o ho
      ·exact az ho
     cases x<;>first | trivial|exact h2|exact ⟨h2.1,hc h2.2⟩
  ·cases x<;>first|exact ⟨tt,tt⟩ | simp [b9.live] at hl
theorem Rel.drewN (hr:Rel C M σ w):Rel C M σ w.drew/\Ext M w M w.drew:=hr.drew
theorem Y6 {c:Nat} {x:Value} (hu:∀ w,(underlying t).run P w = .ok (.slice e) w) (dy:(∀ w,(underlying t2).run P w = .ok (.slice e) w)\/∀ w,(underlying t2).run P w = .ok .string w) (hs:∀ w,(sizeOf e).run P w = .ok s w)
 (aj:∀ w,(Builtin.lenOf x).run P w = .ok m w) (dJ:(Builtin.firstCells s m x).run P w = .ok arr w) (fA:n+m<=c) (aW:(storeCells ⟨b,off+n*s,none⟩ arr.toList).run P w = .ok () w') :
 (Builtin.append_ #[t,t2] ty #[.slice (some ⟨b,off,none⟩) n c,x]).run P w = .ok (.slice (some ⟨b,off,none⟩) (n+m) c) w':=by
 rcases dy with dy | dy <;>
 simp [Builtin.append_,hu,dy,hs,aj,dJ,fA,T5,aW]
theorem X1 {c:Nat} {a:Option Addr} {x:Value} {old:Array Value} {ti:TypeInfo} (hu:∀ w,(underlying t).run P w = .ok (.slice e) w) (dy:(∀ w,(underlying t2).run P w = .ok (.slice e) w)\/∀ w,(underlying t2).run P w = .ok .string w) (hs:∀ w,(sizeOf e).run P w = .ok s w) (df:∀ w,(typeInfo e).run P w = .ok ti w) (hz:∀ w,(zeroValue e).run P w = .ok z w)
 (aj:∀ w,(Builtin.lenOf x).run P w = .ok m w) (bP:(Builtin.firstCells s n (.slice a n c)).run P w.drew = .ok old w.drew) (dJ:(Builtin.firstCells s m x).run P w.drew = .ok arr w.drew) (fA:c < n+m) (bi:n+m<=9223372036854775807) (hb:(n+m)*ti.bytes<=140737488355328) :
 ∃ c',n+m<=c'/\c'<=9223372036854775807/\(Builtin.append_ #[t,t2] ty #[.slice a n c,x]).run P w = .ok (.slice (some ⟨w.heap.size,0,none⟩) (n+m) c') (w.drew.alloc (.cells (old++arr++Builtin.zeroCells z.cells (c' - (n+m))) e)):=by
 have hg:=growslice_fits fA hb;refine ⟨(Question.appendCap (n+m) c e).cut (w.tape w.drawn (.appendCap (n+m) c e)),?_,?_,?_⟩
 ·simp [Question.cut]
 ·simp only [Question.cut];have:w.tape w.drawn (.appendCap (n+m) c e)%(2^63 - (n+m)) < 2^63 - (n+m):=a5m _ om_;omega
 ·have h1:¬ (n+m<=c):=by omega
  have h2:¬ IntKind.i64.max < (n:Int)+(m:Int):=by
   have:IntKind.i64.max=9223372036854775807:=by decide
   omega
  have h3:¬ (281474976710656 < Builtin.nextslicecap (n+m) c*ti.bytes):=by omega
  rcases dy with dy | dy
  all_goals
   simp [Builtin.append_,hu,dy,hs,df,hz,aj,h1,h3,Question.forced,bP,dJ,newRow];intro h;have:IntKind.i64.max=9223372036854775807:=by decide
   omega
theorem a5G (h:RV M w c v):RV M w.drew c v:=by
 have hx:Ext M w M w.drew:=⟨⟨[],si_⟩,fun _ h=>h,fun _ _ h=>.inr h,fun _ _=>rfl,fun _ _ _=>rfl,n_7 _,T1,rfl,rfl,rfl,fun _ h=>⟨h,rfl,id,fun _=>id⟩⟩;exact h.mono hx
theorem Rel.tipStore (hr:Rel C M σ w) {aD cur':Array Value} (hp:M.pl[k]? = some p) (hk:σ[k]? = some (.tipT t0 n)) (hty:t0.getD ty=ty) (hc:w.heap[p.block]? = some (.cells aD ty (0,0))) (aI:cur'.size=aD.size) (hsame:∀ o,o < n*p.size->cur'[o]? = aD[o]?) :
 Ext M w M (World.putObj w p.block (.cells cur' ty (0,0)))/\Rel C M σ (World.putObj w p.block (.cells cur' ty (0,0))):=by
 obtain ⟨⟨q1,q2,q3,cur0,ty0,q4,q5⟩,cS⟩:=hr.obj k _ _ hp hk;have hb:p.block < w.heap.size:=(a1s.1 hc).1;have hx:Ext M w M (World.putObj w p.block (.cells cur' ty (0,0))):=by
  refine ⟨⟨[],si_⟩,fun _ h=>h,fun _ _ h=>.inr h,fun b' h=>World.putObj_other w _ (fun e=>cS (e ▸ h)),fun b' o' h=>?_,by rw [World.putObj_size];exact n_7 _,T1,rfl,rfl,rfl,fun b' h=>⟨h,World.putObj_other w _ (fun e=>hr.nk k p _ hp hk rfl (e ▸ h)),id,fun _=>id⟩⟩;by_cases he:p.block=b'
  ·subst he;have ab:=q3.1 o' h;simp only [World.cell?,World.putObj_same w _ hb,hc,Option.isSome_none,b9D,if_false];exact hsame o' ab
  ·exact M8 (World.putObj_other w _ he)
 refine ⟨hx,hr.len,fun b o' ha=>by rw [World.putObj_size];exact hr.blk b o' ha,fun k' p' x aH aC=>?_,hr.inj,fun g cells hg=>(hr.glob g cells hg).mono hx,fun b h=>(by rw [World.putObj_size];exact hr.kep b h),hr.nk⟩;obtain ⟨h1,h2⟩:=hr.obj k' p' x aH aC;refine ⟨?_,h2⟩;by_cases hl:x.live=true
 ·by_cases gz:k'=k
  ·subst gz;rw [hp] at aH;injection aH with aH
   subst aH;rw [hk] at aC;injection aC with aC
   subst aC;rw [q4] at hc;injection hc with hc
   injection hc with hc _ _
   exact ⟨q1,q2,q3,cur',ty,by rw [hty];exact World.putObj_same w _ hb,by rw [aI,<- hc,q5]⟩
  ·have az:p.block≠p'.block:=fun e=>gz (hr.inj k' k p' p x _ aH hp aC hk hl rfl e.symm);exact h1.mono hx (World.putObj_other w _ az) (fun _ _ _ _ h=>h)
 ·cases x<;>first | trivial | simp [b9.live] at hl
theorem Rel.tipNew (hr:Rel C M σ w) (hp:M.pl[k]? = some p) (hk:σ[k]? = some (.tipT t0 n)) (hn:n<=m) (hm:m<=p.cap):Ext M w (M.add p) w/\Rel C (M.add p) (σ.set k .dead++[.tipT t0 m]) w:=by
 obtain ⟨⟨q1,q2,q3,cur0,ty0,q4,q5⟩,cS⟩:=hr.obj k _ _ hp hk;have hx:Ext M w (M.add p) w:=⟨⟨[p],rfl⟩,fun _ h=>h,fun _ _ h=>.inr h,fun _ _=>rfl,fun _ _ _=>rfl,n_7 _,T1,rfl,rfl,rfl,fun _ h=>⟨h,rfl,id,fun _=>id⟩⟩;have hd:=hr.dead k;have aj:(σ.set k b9.dead).length=σ.length:=by simp
 have ap:∀ {j:Nat} {q:Pl},(M.add p).pl[j]? = some q->(j < σ.length/\M.pl[j]? = some q)\/(j=σ.length/\q=p):=by
  intro j q hj;simp only [A9.add,a6V,hr.len] at hj;split at hj
  ·exact .inl ⟨‹_›,hj⟩
  ·rename_i ab;have:j - σ.length=0:=by
    have:=(n_3.1 hj).1;simp at this;omega
   rw [this] at hj;simp at hj;exact .inr ⟨om_,hj.symm⟩
 have fj:∀ {j:Nat} {x:b9},(σ.set k b9.dead++[b9.tipT t0 m])[j]? = some x->(j < σ.length/\(σ.set k b9.dead)[j]? = some x)\/(j=σ.length/\x = .tipT t0 m):=by
  intro j x hj;rw [a6V] at hj;split at hj
  ·exact .inl ⟨om_,hj⟩
  ·have:j - (σ.set k b9.dead).length=0:=by
    have:=(n_3.1 hj).1;simp at this ⊢;omega
   rw [this] at hj;simp at hj;exact .inr ⟨om_,hj.symm⟩
 have bA:k < σ.length:=(n_3.1 hk).1;have dK:∀ {j:Nat} {q:Pl} {x:b9},M.pl[j]? = some q->(σ.set k b9.dead)[j]? = some x->x.live=true->q.block≠p.block:=by
  intro j q x hj dm hl e;have hjk:j≠k:=by
   rintro rfl;rw [b1v om_] at dm;injection dm with dm
   subst dm;cases hl
  have eV:σ[j]? = some x:=by rwa [a2i (Ne.symm hjk)] at dm
  exact hjk (hr.inj j k q p x _ hj hp eV hk hl rfl e)
 refine ⟨hx,by simp [A9.add,hr.len],fun b o' ha=>hr.blk b o' ha,fun j q x hj dm=>?_,fun j j' q q' x x' hj dl dm eV hl bM hb=>?_,fun g cells hg=>(hr.glob g cells hg).mono hx,hr.kep,fun j q x hj dm bY=>?_⟩
 ·rcases fj dm with ⟨ab,h⟩ | ⟨rfl,rfl⟩
  ·rcases ap hj with ⟨_,hq⟩ | ⟨rfl,_⟩
   ·obtain ⟨h1,h2⟩:=hd.obj j q x hq h;refine ⟨?_,h2⟩;by_cases hl:x.live=true
    ·exact h1.mono hx rfl (fun _ _ _ _ h=>h)
    ·cases x<;>first | trivial | simp [b9.live] at hl
   ·omega
  ·rcases ap hj with ⟨h,_⟩ | ⟨_,rfl⟩
   ·omega
   ·refine ⟨⟨hm,q2,⟨fun o ho=>a8L (q3.1 o ho) (S4 _ hn),q3.2⟩,cur0,ty0,q4,q5⟩,cS⟩
 ·rcases fj dm with ⟨ab,h⟩ | ⟨rfl,rfl⟩
  ·rcases ap hj with ⟨_,hq⟩ | ⟨rfl,_⟩
   ·rcases fj eV with ⟨bp,h'⟩ | ⟨rfl,rfl⟩
    ·rcases ap dl with ⟨_,fM⟩ | ⟨rfl,_⟩
     ·exact hd.inj j j' q q' x x' hq fM h h' hl bM hb
     ·omega
    ·rcases ap dl with ⟨h0,_⟩ | ⟨_,rfl⟩
     ·omega
     ·exact absurd hb (dK hq h hl)
   ·omega
  ·rcases ap hj with ⟨h0,_⟩ | ⟨_,rfl⟩
   ·omega
   ·rcases fj eV with ⟨bp,h'⟩ | ⟨rfl,rfl⟩
    ·rcases ap dl with ⟨_,fM⟩ | ⟨rfl,_⟩
     ·exact absurd hb.symm (dK fM h' bM)
     ·omega
    ·rfl
 ·rcases fj dm with ⟨ab,h⟩ | ⟨rfl,rfl⟩
  ·rcases ap hj with ⟨_,hq⟩ | ⟨rfl,_⟩
   ·exact hd.nk j q x hq h bY
   ·omega
  ·rcases ap hj with ⟨h0,_⟩ | ⟨_,rfl⟩
   ·omega
   ·exact hr.nk k q _ hp hk rfl
theorem Src.lenOf (h:Src C M w V s v) (w':World):(Builtin.lenOf v).run C.P w' = .ok V.length w':=by
 obtain ⟨a,c,rfl,_⟩:=h;simp [Builtin.lenOf]
def c1y (C:Ctx) (w:World) (M:A9) (V:List (List CV)) (s:Nat) (v:Value):Prop :=
 (∀ w',(Builtin.lenOf v).run C.P w' = .ok V.length w')/\(∀ r∈V,r.length=s) /\
  ∃ arr:Array Value,(Builtin.firstCells s V.length v).run C.P w = .ok arr w/\arr.size=V.length*s /\
   ∀ (i j:Nat) (r:List CV) (c:CV),V[i]? = some r->r[j]? = some c->RV M w c (arr.getD (i*s+j) undef)/\c.one=true
theorem Src.any (h:Src C M w V s v):c1y C w M V s v:=by
 have hl:=h.lenOf;obtain ⟨_,_,_,_,h1,h2⟩:=h;exact ⟨hl,h1,h2⟩
theorem a2z {old rest:Array Value} (h1:old.size=V.length*s) (h2:arr.size=new.length*s) (bg:∀ r∈V,r.length=s) (ck:∀ r∈new,r.length=s)
 (ho:∀ (i j:Nat) (r:List CV) (c:CV),V[i]? = some r->r[j]? = some c->RV M w c (old.getD (i*s+j) undef))
 (ha:∀ (i j:Nat) (r:List CV) (c:CV),new[i]? = some r->r[j]? = some c->RV M w c (arr.getD (i*s+j) undef)) (i j:Nat) (r:List CV) (c:CV) (hi:(V++new)[i]? = some r) (hj:r[j]? = some c) :
 i*s+j < (old++arr++rest).size/\RV M w c ((old++arr++rest).getD (i*s+j) undef):=by
 rw [a6V] at hi;split at hi
 ·rename_i ab;have cd:j < s:=by have:=(n_3.1 hj).1;rwa [bg r (n_2 hi)] at this
  have hq:i*s+j < old.size:=by
   rw [h1];have:(i+1)*s<=V.length*s:=S4 _ ab;rw [Q5] at this;omega
  refine ⟨by simp;omega,?_⟩;have cJ:i*s+j < (old++arr).size:=by simp;omega
  have e:(old++arr++rest).getD (i*s+j) undef=old.getD (i*s+j) undef:=by
   simp only [a0H];rw [b4j cJ,b4j hq]
  rw [e];exact ho i j r c hi hj
 ·rename_i aE;have bn:=(n_3.1 hi).1;have cd:j < s:=by have:=(n_3.1 hj).1;rwa [ck r (n_2 hi)] at this
  have e1:(i - V.length)*s=i*s - V.length*s:=Nat.sub_mul _ _ _;have e2:V.length*s<=i*s:=S4 _ om_;have e3:(i - V.length+1)*s<=new.length*s:=S4 _ bn;rw [Q5] at e3;refine ⟨by simp;omega,?_⟩;have cJ:i*s+j < (old++arr).size:=by simp;omega
  have e:(old++arr++rest).getD (i*s+j) undef=arr.getD ((i - V.length)*s+j) undef:=by
   simp only [a0H];rw [b4j cJ,Array.getElem?_append_right om_]
   congr 2;omega
  rw [e];exact ha _ j r c hi hj
theorem V9 (z:Array Value) (n:Nat):(Builtin.zeroCells z n).size=n*z.size:=by simp [Builtin.zeroCells]
theorem RV.list' {tok:Option Nat} {a:Option Addr} {cap:Nat} (hL:L=V.length) (vals:Nat->Nat->Value) :
 V.length<=cap->cap<=maxLen->a.isSome=nn->(nn=false->cap=0)->(V≠[]->a=some ⟨b,off,none⟩) ->
 (∀ r∈V,r.length=s)->(∀ r∈V,∀ c∈r,c.one=true) ->
 (∀ (i j:Nat) (r:List CV) (c:CV),V[i]? = some r->r[j]? = some c->M.at b (off+i*s+j)/\w.cell? ⟨b,off+i*s+j,none⟩=some (vals i j)) ->
 (∀ (i j:Nat) (r:List CV) (c:CV),V[i]? = some r->r[j]? = some c->RV M w c (vals i j)) ->
 (∀ k,tok=some k->∃ s',M.pl[k]? = some ⟨b,cap,s'⟩/\a=some ⟨b,0,none⟩/\off=0/\(V≠[]->s'=s)) ->
 RV M w (.list V nn tok) (.slice a L cap):=by
 subst hL;exact RV.list vals
theorem b1I {tok:Option Nat} {ti:TypeInfo} (ho:o.op = .call { callee:=.builtin .append,args:=#[x,y],argTypes:=#[t,t2]}) (hx:E.valid x) (hy:E.valid y) (ex:E.val C x = .list V nn tok)
 (aQ:∀ M w v,Rel C M σ w->RV M w (E.val C y) v->c1y C w M new s v) (hu:∀ w,(underlying t).run C.P w = .ok (.slice e) w) (hs:∀ w,(sizeOf e).run C.P w = .ok s w) (df:∀ w,(typeInfo e).run C.P w = .ok ti w) (hz:∀ w,(zeroValue e).run C.P w = .ok z w) (bI:z.cells.size=s)
 (dy:(∀ w,(underlying t2).run C.P w = .ok (.slice e) w)\/∀ w,(underlying t2).run C.P w = .ok .string w) (ht0:t0=none\/t0=some e) (hts:t0.isSome=true->s=1) (cb:c2W t0 σ V nn tok\/(V=[]/\t0=some e/\∃ k,tok=some k/\σ[k]? = some (.tipT t0 0))) (bg:∀ r∈V,r.length=s) (dg:new≠[]) (hb:(V.length+new.length)*ti.bytes<=140737488355328) (bi:V.length+new.length<=9223372036854775807)
 (hk:K (.ret (.list (V++new) true (some σ.length))) (kill σ tok++[.tipT t0 (V.length+new.length)])):G9 C σ E o K:=fun M w ρ hr hh=>by
 have h1:=hh x H9 hx;have h2:=hh y H9 hy;rw [ex] at h1;have hso:=a07 (C:=C) h1 bg;have fm:=aQ M w _ hr h2;have aj:=fm.1;obtain ⟨a,cap,b,off,s',vals,hv,bm,dL,eb,dw,ha,cN,aM,hc,bj,cz⟩:=h1.list_inv;have gH:0 < new.length:=a94.2 dg;have bD:(execOp ρ o).run C.P w=((Builtin.append_ #[t,t2] o.type #[ρ x,ρ y]).run C.P w).andThen fun v w=>.ok (.value v) w:=by
  simp [execOp,ho,resolve,invoke,builtin]
 have cA:∀ r∈V++new,r.length=s:=fun r hr=>by
  rcases L8.1 hr with h | h
  ·exact bg r h
  ·obtain ⟨_,ck,_⟩:=fm;exact ck r h
 have bQ:(V++new).length=V.length+new.length:=n_6;by_cases cl:V.length+new.length<=cap
 ·
  rcases cb with (⟨rfl,rfl,rfl⟩ | ⟨hrne,k,rfl,hkt⟩) | ⟨rfl,ht0',k,rfl,hkt⟩
  ·have:=dw rfl;simp at cl;omega
  ·obtain ⟨sz,hp,ha0,rfl,aI⟩:=cz k rfl;obtain ⟨⟨q1,q2,q3,aD,ty,q4,q5⟩,cS⟩:=hr.obj k _ _ hp hkt;obtain ⟨fN,hG⟩:∃ fN,fN=t0.getD ty:=⟨_,rfl⟩;rw [<- hG] at q4;have hgd:t0.getD fN=fN:=by rw [hG];cases t0<;>rfl
   simp only at q1 q2 q3 q4 q5;obtain ⟨_,ck,arr,cB,ba,bx⟩:=fm;obtain ⟨r0,rs,hrr⟩:∃ r0 rs,V=r0::rs:=by
    cases V with
    | nil=>exact absurd rfl hrne
    | cons r0 rs=>exact ⟨r0,rs,rfl⟩
   have bv:s'=s:=by rw [<- cN r0 (by simp [hrr]),bg r0 (by simp [hrr])]
   have hss:sz=s:=(aI hrne).trans bv;subst hss;subst bv;have ax:arr.toList.length=arr.size:=a9V;have dx:V.length*s'+arr.toList.length<=aD.size:=by
    rw [ax,ba,q5,<- Q5];exact S4 _ cl
   have aW:=O9 (P:=C.P) (b:=b) (off:=V.length*s') (t:=fN) arr.toList 0 aD w q4 om_ (Src.one ck ba bx);rw [a8l] at aW;have au:(execOp ρ o).run C.P w = .ok (.value (.slice (some ⟨b,0,none⟩) (V.length+new.length) cap)) (World.putObj w b (.cells (E7 aD (V.length*s') arr.toList) fN (0,0))):=by
    rw [bD,hv,ha0,Y6 hu dy hs aj cB cl (by rw [L7];exact aW)];rfl
   rw [au];obtain ⟨bb,aF⟩:=hr.tipStore (cur':=E7 aD (V.length*s') arr.toList) hp hkt hgd q4 (I6 _ _ _) (fun o' ho'=>by
    have h0:o' < aD.size:=by
     rw [q5];exact a8L ho' (S4 _ q1)
    have h1:o' < (E7 aD (V.length*s') arr.toList).size:=by rw [I6];exact h0
    have:=M5 arr.toList aD (V.length*s') o' dx;rw [n_0 (by simp only at ho';omega)] at this;simp only [a0H,a1j h0,a1j h1,a8S] at this;rw [a1j h0,a1j h1,this])
   obtain ⟨aK,aV⟩:=aF.tipNew (m:=V.length+new.length) hp hkt om_ cl;have cu:(M.add ⟨b,cap,s'⟩).pl[σ.length]? = some ⟨b,cap,s'⟩:=by simp [A9.add,<- hr.len]
   have bS:(σ.set k b9.dead++[b9.tipT t0 (V.length+new.length)])[σ.length]? = some (.tipT t0 (V.length+new.length)):=by simp
   obtain ⟨fO,eW⟩:=aV.settleCells cu bS;have hx:=(bb.trans aK).trans fO;refine ⟨_,_,_,hx,eW,?_,hk⟩;have hbs:b < w.heap.size:=(a1s.1 q4).1;have aR:∀ q,q < aD.size->(World.putObj w b (.cells (E7 aD (V.length*s') arr.toList) fN (0,0))).cell? ⟨b,q,none⟩=some ((E7 aD (V.length*s') arr.toList).getD q undef):=fun q hq=>by
    have:q < (E7 aD (V.length*s') arr.toList).size:=by rw [I6];exact hq
    simp [World.cell?,World.putObj_same w _ hbs,this]
   have hq:∀ i j r c,(V++new)[i]? = some r->r[j]? = some c->i*s'+j < (V.length+new.length)*s':=fun i j r c hi hj=>by
    have bn:=(n_3.1 hi).1;rw [bQ] at bn;have cd:j < s':=by have:=(n_3.1 hj).1;rwa [cA r (n_2 hi)] at this
    have:(i+1)*s'<=(V.length+new.length)*s':=S4 _ bn;rw [Q5] at this;omega
   have hqc:(V.length+new.length)*s'<=aD.size:=by rw [q5];exact S4 _ cl
   refine RV.list' (b:=b) (off:=0) (s:=s') bQ.symm (fun i j=>(E7 aD (V.length*s') arr.toList).getD (i*s'+j) undef) (by rw [bQ];exact cl) q2 rfl (fun h=>by cases h) a0B cA (fun r hr c hc=>?_) (fun i j r c hi hj=>⟨.inr (.inr ⟨rfl,by rw [L7];exact hq i j r c hi hj⟩),by rw [L7];exact aR _ (a8L (hq i j r c hi hj) hqc)⟩) (fun i j r c hi hj=>?_) (fun k' aJ=>⟨s',?_,rfl,rfl,fun _=>rfl⟩)
   ·rcases L8.1 hr with h | h
    ·exact aM r h c hc
    ·obtain ⟨i,hi⟩:=M6.1 h;obtain ⟨j,hj⟩:=M6.1 hc;exact (bx i j r c hi hj).2
   ·rw [M5 _ _ _ _ dx];rw [a6V] at hi;split at hi
    ·rename_i ab;have cd:j < s':=by have:=(n_3.1 hj).1;rwa [bg r (n_2 hi)] at this
     have hql:i*s'+j < V.length*s':=by
      have:(i+1)*s'<=V.length*s':=S4 _ ab;rw [Q5] at this;omega
     rw [n_0 om_];have h3:=(hc i j r c hi hj).2;rw [L7] at h3;have h4:w.cell? ⟨b,i*s'+j,none⟩=some (aD.getD (i*s'+j) undef):=by
      have:i*s'+j < aD.size:=by omega
      simp [World.cell?,q4,this]
     rw [h4] at h3;injection h3 with h3
     rw [h3];exact (bj i j r c hi hj).mono hx
    ·rename_i aE;have bn:=(n_3.1 hi).1;have cd:j < s':=by have:=(n_3.1 hj).1;rwa [ck r (n_2 hi)] at this
     have e1:(i - V.length)*s'=i*s' - V.length*s':=Nat.sub_mul _ _ _;have e2:V.length*s'<=i*s':=S4 _ om_;have e3:(i - V.length+1)*s'<=new.length*s':=S4 _ bn;rw [Q5] at e3;rw [n_1 (by rw [ax,ba];omega)];have:=(bx _ j r c hi hj).1.mono hx;rw [show i*s'+j - V.length*s'=(i - V.length)*s'+j from by omega];simpa using this
   ·injection aJ with aJ
    subst aJ;exact cu
  ·
   obtain ⟨sz,hp,ha0,rfl,_⟩:=cz k rfl;obtain ⟨⟨q1,q2,q3,aD,ty,q4,q5⟩,cS⟩:=hr.obj k _ _ hp hkt;have aI:sz=s:=(q3.2 (by rw [ht0'];rfl)).trans (hts (by rw [ht0'];rfl)).symm;obtain ⟨fN,hG⟩:∃ fN,fN=t0.getD ty:=⟨_,rfl⟩;rw [<- hG] at q4;have hgd:t0.getD fN=fN:=by rw [hG];cases t0<;>rfl
   simp only at q1 q2 q3 q4 q5;subst aI;obtain ⟨_,ck,arr,cB,ba,bx⟩:=fm;have ax:arr.toList.length=arr.size:=a9V;have dv:([]:List (List CV)).length=0:=rfl;rw [dv] at cl bm hv bQ hb bi hk;rw [L7] at cl hk;have dx:0+arr.toList.length<=aD.size:=by
    rw [ax,ba,q5,L7];exact S4 _ cl
   have aW:=O9 (P:=C.P) (b:=b) (off:=0) (t:=fN) arr.toList 0 aD w q4 om_ (Src.one ck ba bx);rw [a8l] at aW;have au:(execOp ρ o).run C.P w = .ok (.value (.slice (some ⟨b,0,none⟩) new.length cap)) (World.putObj w b (.cells (E7 aD 0 arr.toList) fN (0,0))):=by
    have:=Y6 (P:=C.P) (ty:=o.type) (b:=b) (off:=0) (n:=0) (m:=new.length) (c:=cap) hu dy hs aj cB om_ (by rw [Nat.zero_mul];exact aW);rw [L7] at this;rw [bD,hv,ha0,this];rfl
   rw [au];obtain ⟨bb,aF⟩:=hr.tipStore (cur':=E7 aD 0 arr.toList) hp hkt hgd q4 (I6 _ _ _) (fun o' ho'=>by simp at ho');obtain ⟨aK,aV⟩:=aF.tipNew (m:=new.length) hp hkt (n_4 _) cl;have cu:(M.add ⟨b,cap,sz⟩).pl[σ.length]? = some ⟨b,cap,sz⟩:=by simp [A9.add,<- hr.len]
   have bS:(σ.set k b9.dead++[b9.tipT t0 new.length])[σ.length]? = some (.tipT t0 new.length):=by simp
   obtain ⟨fO,eW⟩:=aV.settleCells cu bS;have hx:=(bb.trans aK).trans fO;refine ⟨_,_,_,hx,eW,?_,hk⟩;have hbs:b < w.heap.size:=(a1s.1 q4).1;have aR:∀ q,q < aD.size->(World.putObj w b (.cells (E7 aD 0 arr.toList) fN (0,0))).cell? ⟨b,q,none⟩=some ((E7 aD 0 arr.toList).getD q undef):=fun q hq=>by
    have:q < (E7 aD 0 arr.toList).size:=by rw [I6];exact hq
    simp [World.cell?,World.putObj_same w _ hbs,this]
   have hq:∀ i j r c,new[i]? = some r->r[j]? = some c->i*sz+j < new.length*sz:=fun i j r c hi hj=>by
    have bn:=(n_3.1 hi).1;have cd:j < sz:=by have:=(n_3.1 hj).1;rwa [ck r (n_2 hi)] at this
    have:(i+1)*sz<=new.length*sz:=S4 _ bn;rw [Q5] at this;omega
   have hqc:new.length*sz<=aD.size:=by rw [q5];exact S4 _ cl
   refine RV.list' (b:=b) (off:=0) (s:=sz) rfl (fun i j=>(E7 aD 0 arr.toList).getD (i*sz+j) undef) cl q2 rfl (fun h=>by cases h) a0B ck (fun r hr c hc=>?_) (fun i j r c hi hj=>⟨.inr (.inr ⟨rfl,by rw [L7];exact hq i j r c hi hj⟩),by rw [L7];exact aR _ (a8L (hq i j r c hi hj) hqc)⟩) (fun i j r c hi hj=>?_) (fun k' aJ=>⟨sz,?_,rfl,rfl,fun _=>rfl⟩)
   ·obtain ⟨i,hi⟩:=M6.1 hr;obtain ⟨j,hj⟩:=M6.1 hc;exact (bx i j r c hi hj).2
   ·rw [M5 _ _ _ _ dx];rw [n_1 (by rw [ax,ba];have:=hq i j r c hi hj;omega)];have:=(bx i j r c hi hj).1.mono hx;simpa using this
   ·injection aJ with aJ
    subst aJ;exact cu
 ·
  obtain ⟨dT,gI⟩:=hr.drewN;have ee:=a07 (C:=C) (a5G h1) bg;have hsn':=aQ M w.drew _ dT (a5G h2);rw [hv] at ee;obtain ⟨a1,c1,dI,_,_,old,hfo,dM,eX⟩:=ee;obtain ⟨_,ck,arr,cB,ba,bx⟩:=hsn';obtain ⟨c',ca,cr,au⟩:=X1 (P:=C.P) (ty:=o.type) (a:=a) (c:=cap) (w:=w) hu dy hs df hz aj hfo cB om_ bi hb;rw [bD,hv,au];simp only [Result.andThen_ok];have fY:w.drew.heap.size=w.heap.size:=rfl;rw [<- fY];have hrk:=dT.kill tok;have gA:=b8O σ tok;have dN:(old++arr++Builtin.zeroCells z.cells (c' - (V.length+new.length))).size=c'*s:=by
   simp only [b9h,V9,dM,ba,bI];rw [<- Q5,<- Q5]
   congr 1;omega
  have aV:=hrk.alloc ⟨w.drew.heap.size,c',s⟩ (.cells (old++arr++Builtin.zeroCells z.cells (c' - (V.length+new.length))) e) (.tipT t0 (V.length+new.length)) rfl
   ⟨ca,by unfold maxLen;simp only;omega,⟨fun o' ho'=>by have:=dT.blk _ _ (.inr ho');simp only at this;omega,hts⟩,_,e,by rw [show t0.getD e=e from by rcases ht0 with h | h<;>rw [h]<;>rfl];exact B0 _ _,dN⟩
  have aK:=Ext.alloc hrk ⟨w.drew.heap.size,c',s⟩ (.cells (old++arr++Builtin.zeroCells z.cells (c' - (V.length+new.length))) e);have cu:(M.add ⟨w.drew.heap.size,c',s⟩).pl[σ.length]? = some ⟨w.drew.heap.size,c',s⟩:=by simp [A9.add,<- hr.len]
  have bS:(kill σ tok++[b9.tipT t0 (V.length+new.length)])[σ.length]? = some (.tipT t0 (V.length+new.length)):=by rw [<- gA];simp
  obtain ⟨fO,eW⟩:=aV.settleCells cu bS;have hx:=(gI.trans aK).trans fO;refine ⟨_,_,_,hx,eW,?_,hk⟩;have ap:=a2z (rest:=Builtin.zeroCells z.cells (c' - (V.length+new.length))) dM ba bg ck (fun i j r c hi hj=>(eX i j r c hi hj).1) (fun i j r c hi hj=>(bx i j r c hi hj).1);have hq:∀ i j r c,(V++new)[i]? = some r->r[j]? = some c->i*s+j < (V.length+new.length)*s:=fun i j r c hi hj=>by
   have bn:=(n_3.1 hi).1;rw [bQ] at bn;have cd:j < s:=by have:=(n_3.1 hj).1;rwa [cA r (n_2 hi)] at this
   have:(i+1)*s<=(V.length+new.length)*s:=S4 _ bn;rw [Q5] at this;omega
  refine RV.list' (b:=w.drew.heap.size) (off:=0) (s:=s) bQ.symm (fun i j=>(old++arr++Builtin.zeroCells z.cells (c' - (V.length+new.length))).getD (i*s+j) undef) (by rw [bQ];exact ca) (by unfold maxLen;omega) rfl (fun h=>by cases h) a0B cA (fun r hr c hc=>?_) (fun i j r c hi hj=>⟨.inr (.inr ⟨rfl,by rw [L7];exact hq i j r c hi hj⟩),?_⟩) (fun i j r c hi hj=>?_) (fun k' aJ=>⟨s,?_,rfl,rfl,fun _=>rfl⟩)
  ·rcases L8.1 hr with h | h
   ·obtain ⟨i,hi⟩:=M6.1 h;obtain ⟨j,hj⟩:=M6.1 hc;exact (eX i j r c hi hj).2
   ·obtain ⟨i,hi⟩:=M6.1 h;obtain ⟨j,hj⟩:=M6.1 hc;exact (bx i j r c hi hj).2
  ·rw [L7,World.cell?_alloc_new];have:=(ap i j r c hi hj).1;rw [a1j this,a0H,a1j this];rfl
  ·exact (ap i j r c hi hj).2.mono (aK.trans fO)
  ·injection aJ with aJ
   subst aJ;exact cu
theorem a8B {tok:Option Nat} {ti:TypeInfo} (ho:o.op = .call { callee:=.builtin .append,args:=#[x,y],argTypes:=#[t,t2]}) (hx:E.valid x) (hy:E.valid y) (ex:E.val C x = .list V nn tok)
 (aQ:∀ M w v,Rel C M σ w->RV M w (E.val C y) v->c1y C w M new s v) (hu:∀ w,(underlying t).run C.P w = .ok (.slice e) w) (hs:∀ w,(sizeOf e).run C.P w = .ok s w) (df:∀ w,(typeInfo e).run C.P w = .ok ti w) (hz:∀ w,(zeroValue e).run C.P w = .ok z w) (bI:z.cells.size=s)
 (dy:(∀ w,(underlying t2).run C.P w = .ok (.slice e) w)\/∀ w,(underlying t2).run C.P w = .ok .string w) (ht0:t0=none\/t0=some e) (hts:t0.isSome=true->s=1) (cb:c2W t0 σ V nn tok) (bg:∀ r∈V,r.length=s) (dg:new≠[]) (hb:(V.length+new.length)*ti.bytes<=140737488355328) (bi:V.length+new.length<=9223372036854775807)
 (hk:K (.ret (.list (V++new) true (some σ.length))) (kill σ tok++[.tipT t0 (V.length+new.length)])):G9 C σ E o K :=
 b1I ho hx hy ex aQ hu hs df hz bI dy ht0 hts (.inl cb) bg dg hb bi hk
theorem b6C {tok:Option Nat} {ti:TypeInfo} (ho:o.op = .call { callee:=.builtin .append,args:=#[x,y],argTypes:=#[t,t]}) (hx:E.valid x) (hy:E.valid y) (ex:E.val C x = .list V nn tok)
 (aQ:∀ M w v,Rel C M σ w->RV M w (E.val C y) v->Src C M w new s v) (hu:∀ w,(underlying t).run C.P w = .ok (.slice e) w) (hs:∀ w,(sizeOf e).run C.P w = .ok s w) (df:∀ w,(typeInfo e).run C.P w = .ok ti w) (hz:∀ w,(zeroValue e).run C.P w = .ok z w) (bI:z.cells.size=s)
 (cb:d7m σ V nn tok) (bg:∀ r∈V,r.length=s) (dg:new≠[]) (hb:(V.length+new.length)*ti.bytes<=140737488355328) (bi:V.length+new.length<=9223372036854775807)
 (hk:K (.ret (.list (V++new) true (some σ.length))) (kill σ tok++[.tip (V.length+new.length)])):G9 C σ E o K :=
 a8B ho hx hy ex (fun M w v hr h=>(aQ M w v hr h).any) hu hs df hz bI (.inl hu) (.inl rfl) (fun h=>by cases h) cb bg dg hb bi hk
end
section
def c0U (z:Value):List CV:=(I2 z).cells
theorem d7h (bO:K9 z=true) (cH:(I2 z).one=true\/∃ cs,I2 z = .agg cs) (bI:z.cells.size=s) (ax:∀ q,q < n*s->arr.getD q undef=z.cells.getD (q%s) undef) (i j:Nat) (r:List CV) (c:CV) (hi:(List.replicate n (c0U z))[i]? = some r) (hj:r[j]? = some c) :
 RV M w c (arr.getD (i*s+j) undef)/\c.one=true:=by
 have eS:RV M w (I2 z) z:=a0r bO;obtain ⟨g1,g2,g3⟩:=eS.cells cH;rw [c7N] at hi;split at hi
 ·rename_i bC;injection hi with hi
  subst hi;have cd:=(n_3.1 hj).1;have hjs:j < s:=by rw [<- bI,g1];exact cd
  have hq:i*s+j < n*s:=by
   have:(i+1)*s<=n*s:=S4 _ bC;rw [Q5] at this;omega
  rw [ax _ hq,(c0F hjs).2];exact ⟨g3 j c hj,g2 c (n_2 hj)⟩
 ·cases hi
theorem b81 (bO:K9 z=true) (cH:(I2 z).one=true\/∃ cs,I2 z = .agg cs) (bI:z.cells.size=s):(c0U z).length=s:=by
 have eS:RV ⟨[],fun _=>False,fun _ _=>False,fun _=>False⟩ default (I2 z) z:=a0r bO;have:=(eS.cells cH).1;rw [bI] at this;exact this.symm
theorem b34 {z:Array Value} {q:Nat} (hs:z.size=s) (hq:q < n*s):((Array.range (n*s)).map (z[·%z.size]!)).getD q undef=z.getD (q%s) undef:=by
 have h0:0 < s:=by
  rcases b20 s with h | h
  ·subst h;simp at hq
  ·exact h
 have hms:q%s < s:=a5m _ h0;simp [hq,hs,hms]
theorem c0d {c:Nat} {kx ky:IntKind} {b:Int} {ti:TypeInfo} (ho:o.op = .makeSlice t x y) (hx:E.valid x) (hy:E.valid y) (ex:E.val C x = .val (.int kx a)) (ey:E.val C y = .val (.int ky b)) (ha:a=n) (hb:b=c)
 (hu:∀ w,(underlying t).run C.P w = .ok (.slice e) w) (hs:∀ w,(sizeOf e).run C.P w = .ok s w) (df:∀ w,(typeInfo e).run C.P w = .ok ti w) (hz:∀ w,(zeroValue e).run C.P w = .ok z w) (bO:K9 z=true) (cH:(I2 z).one=true\/∃ cs,I2 z = .agg cs) (bI:z.cells.size=s)
 (hnc:n<=c) (bi:c<=9223372036854775807) (hby:ti.bytes*c<=281474976710656) (hk:K (.ret (.vec σ.length 0 n)) (σ++[.vec s (List.replicate n (c0U z))])):G9 C σ E o K:=fun M w ρ hr hh=>by
 subst ha hb;have h1:=hh x w9 hx;have h2:=hh y w9 hy;rw [ex] at h1;rw [ey] at h2;have e1:IntKind.i64.wrap (n:Int)=n:=a95 om_ om_;have e2:IntKind.i64.wrap (c:Int)=c:=a95 om_ om_;have e3:((ti.bytes:Int)*(c:Int) > 2^48)=False:=by
  have h:((ti.bytes*c:Nat):Int)<=281474976710656:=by omega
  rw [Int.natCast_mul] at h;simp;omega
 have aR:(if c*s=0 then (#[]:Array Value) else z.cells)=(if c*s=0 then #[] else z.cells):=rfl;have hnlt:¬ ((c:Int) < n):=by omega
 have au:(execOp ρ o).run C.P w = .ok (.value (.slice (some ⟨w.heap.size,0,none⟩) n c)) (w.alloc (.cells ((Array.range (c*s)).map (z.cells[·%z.cells.size]!)) e)):=by
  have e4:¬ (2^48 < (ti.bytes:Int)*(c:Int)):=sp_ e3;by_cases h0:c*s=0
  ·have er:Array.range 0 = #[]:=rfl;simp [execOp,ho,Instr.makeSlice,hu,r3 h1,r3 h2,asInt,asIntOf,df,e1,e2,hs,h0,newRow,er,hnlt] at e4 ⊢;intro h;exfalso
   rcases h with (h | h) | h<;>omega
  ·simp [execOp,ho,Instr.makeSlice,hu,r3 h1,r3 h2,asInt,asIntOf,df,e1,e2,hs,h0,hz,newRow,hnlt] at e4 ⊢;intro h;exfalso
   rcases h with (h | h) | h<;>omega
 rw [au];have hx:=Ext.alloc hr ⟨w.heap.size,c,s⟩ (.cells ((Array.range (c*s)).map (z.cells[·%z.cells.size]!)) e);have fX:=b81 bO cH bI;refine ⟨.vec σ.length 0 n,_,_,hx,hr.alloc ⟨w.heap.size,c,s⟩ _ (.vec s (List.replicate n (c0U z))) rfl ⟨rfl,sp_ hnc,by unfold maxLen;simp only;omega,fun r hr=>by rw [(List.mem_replicate.1 hr).2,fX],fun r hr c hc=>?_,_,e,B0 _ _,si_,fun i j r c' hi hj=>?_⟩,?_,hk⟩
 ·rw [(List.mem_replicate.1 hr).2] at hc;have eS:RV M w (I2 z) z:=a0r bO;exact (eS.cells cH).2.1 c hc
 ·exact (d7h (n:=n) bO cH bI (fun q hq=>b34 bI (a8L hq (S4 _ hnc))) i j r c' hi hj).1
 ·have:=RV.vec (M:=M.add ⟨w.heap.size,c,s⟩) (w:=w.alloc (.cells ((Array.range (c*s)).map (z.cells[·%z.cells.size]!)) e)) (k:=σ.length) (off:=0) (len:=n) (p:=⟨w.heap.size,c,s⟩) (a:=⟨w.heap.size,0,none⟩) a9q (sp_ hnc) (by unfold maxLen;simp only;omega) (fun _=>by simp);exact this
theorem d3I {len:Nat} (ho:o.op = .call { callee:=.builtin .clear,args:=#[x],argTypes:=#[t]}) (hx:E.valid x) (ex:E.val C x = .vec k off len)
 (hu:∀ w,(underlying t).run C.P w = .ok (.slice e) w) (hz:∀ w,(zeroValue e).run C.P w = .ok z w) (bO:K9 z=true) (cH:(I2 z).one=true\/∃ cs,I2 z = .agg cs) (bI:z.cells.size=s) (aJ:σ[k]? = some (.vec s V)) (hl:off+len<=V.length)
 (hk:K (.ret (.val (.tuple #[]))) (σ.set k (.vec s (Q8 V off (List.replicate len (c0U z)))))):G9 C σ E o K:=fun M w ρ hr hh=>by
 have h1:=hh x H9 hx;rw [ex] at h1;generalize hv:ρ x=v at h1;cases h1 with
 | vec hp g1 g2 g3 =>
  rename_i p a;have fB:=(hr.obj k p _ hp aJ).1;have bm:V.length<=p.cap:=fB.2.1;have cm:p.size=s:=fB.1;have fX:=b81 bO cH bI;have hzc:(Builtin.zeroCells z.cells len)=(Array.range (len*s)).map (z.cells[·%z.cells.size]!):=by simp [Builtin.zeroCells,bI]
  obtain ⟨w',aW,aC,bt⟩:=a6X hr hp aJ (p:=off) (new:=List.replicate len (c0U z)) (arr:=Builtin.zeroCells z.cells len) om_ L4 (fun r hr=>by rw [(List.mem_replicate.1 hr).2,fX]) (by simp [V9,bI])
   (fun i j r c hi hj=>d7h (n:=len) bO cH bI (fun q hq=>by rw [hzc];exact b34 bI hq) i j r c hi hj)
  have au:(execOp ρ o).run C.P w = .ok (.value (.tuple #[])) w':=by
   rcases len with _ | len
   ·have fL:(Builtin.zeroCells z.cells 0).toList=[]:=by simp [Builtin.zeroCells]
    rw [fL] at aW;have:w'=w:=by
     have h2:(storeCells ⟨p.block,off*s,none⟩ []).run C.P w = .ok () w:=by simp [storeCells]
     rw [h2] at aW;injection aW with _ h3
     exact h3.symm
    subst this;simp [execOp,ho,resolve,invoke,builtin,Builtin.clear_,hu,hv]
   ·have hst':(storeCells a (Builtin.zeroCells z.cells (len+1)).toList).run C.P w = .ok () w':=by
     rw [g3 om_,cm];exact aW
    simp [execOp,ho,resolve,invoke,builtin,Builtin.clear_,hu,hv,hz,hst']
  rw [au];exact ⟨_,_,M,aC,bt,.val _,hk⟩
theorem b5F {len:Nat} (ho:o.op = .call { callee:=.builtin .append,args:=#[x,y],argTypes:=#[t,t]}) (hx:E.valid x) (hy:E.valid y) (ex:E.val C x = .vec k off len)
 (aQ:∀ M w v,Rel C M σ w->RV M w (E.val C y) v->Src C M w new s v) (hu:∀ w,(underlying t).run C.P w = .ok (.slice e) w) (hs:∀ w,(sizeOf e).run C.P w = .ok s w) (aJ:σ[k]? = some (.vec s V)) (hl:off+len+new.length<=V.length)
 (hk:K (.ret (.vec k off (len+new.length))) (σ.set k (.vec s (Q8 V (off+len) new)))):G9 C σ E o K:=fun M w ρ hr hh=>by
 have h1:=hh x H9 hx;have h2:=hh y H9 hy;rw [ex] at h1;have fm:=aQ M w _ hr h2;have aj:=fm.lenOf;generalize hv:ρ x=v at h1;cases h1 with
 | vec hp g1 g2 g3 =>
  rename_i p a;obtain ⟨an,cn,hvn,_,ck,arr,cB,ba,bx⟩:=fm;have fB:=(hr.obj k p _ hp aJ).1;have bm:V.length<=p.cap:=fB.2.1;have cm:p.size=s:=fB.1;obtain ⟨w',aW,aC,bt⟩:=a6X hr hp aJ (p:=off+len) (new:=new) om_ om_ ck ba bx;have cl:len+new.length<=p.cap - off:=by omega
  have au:(execOp ρ o).run C.P w = .ok (.value (.slice (some a) (len+new.length) (p.cap - off))) w':=by
   rcases b20 new.length with h0 | h0
   ·have fL:arr.toList=[]:=b3D (by simp [ba,h0]);have ax:arr = #[]:=sp_ fL;rw [fL] at aW;have:w'=w:=by
     have h2:(storeCells ⟨p.block,(off+len)*s,none⟩ []).run C.P w = .ok () w:=by simp [storeCells]
     rw [h2] at aW;injection aW with _ h3
     exact h3.symm
    subst this;have hfit':len<=p.cap - off:=by omega
    rw [h0] at cB aj;simp [execOp,ho,resolve,invoke,builtin,Builtin.append_,hu,hs,hv,aj,h0,hfit',cB,ax,storeCells]
   ·have ha:=g3 om_;have:=Y6 (P:=C.P) (ty:=o.type) (b:=p.block) (off:=off*p.size) (n:=len) (m:=new.length) (c:=p.cap - off) hu (.inl hu) hs aj cB cl (by rw [cm,<- Q5];exact aW);rw [<- ha] at this;simp [execOp,ho,resolve,invoke,builtin,hv,this]
  rw [au];refine ⟨_,_,M,aC,bt,?_,hk⟩;exact .vec hp om_ g2 g3
theorem c1z {ti:TypeInfo} (ho:o.op = .call { callee:=.builtin .append,args:=#[x,y],argTypes:=#[t,t]}) (hx:E.valid x) (hy:E.valid y) (ex:E.val C x = .vec k 0 V.length)
 (aQ:∀ M w v,Rel C M σ w->RV M w (E.val C y) v->Src C M w new s v) (hu:∀ w,(underlying t).run C.P w = .ok (.slice e) w) (hs:∀ w,(sizeOf e).run C.P w = .ok s w) (df:∀ w,(typeInfo e).run C.P w = .ok ti w) (hz:∀ w,(zeroValue e).run C.P w = .ok z w) (bI:z.cells.size=s)
 (aJ:σ[k]? = some (.vec s V)) (dg:new≠[]) (hb:(V.length+new.length)*ti.bytes<=140737488355328) (bi:V.length+new.length<=9223372036854775807)
 (hk:K (.ret (.vec σ.length 0 (V.length+new.length))) (σ.set k .dead++[.vec s (V++new)])):G9 C σ E o K:=fun M w ρ hr hh=>by
 have h1:=hh x H9 hx;have h2:=hh y H9 hy;rw [ex] at h1;have gH:0 < new.length:=a94.2 dg;have hsx:=b17 hr h1 aJ (Nat.le_of_eq (L7 _));rw [a9L,a57] at hsx;have aj:=(aQ M w _ hr h2).lenOf;have bD:(execOp ρ o).run C.P w=((Builtin.append_ #[t,t] o.type #[ρ x,ρ y]).run C.P w).andThen fun v w=>.ok (.value v) w:=by
  simp [execOp,ho,resolve,invoke,builtin]
 generalize hv:ρ x=v at h1 hsx;cases h1 with
 | vec hp g1 g2 g3 =>
  rename_i p a;have fB:=(hr.obj k p _ hp aJ).1;have bm:V.length<=p.cap:=fB.2.1;have cm:p.size=s:=fB.1;subst cm;by_cases cl:V.length+new.length<=p.cap
  ·obtain ⟨an,cn,hvn,_,ck,arr,cB,ba,bx⟩:=aQ M w _ hr h2;obtain ⟨w',aW,aC,bt⟩:=a6X hr hp aJ (p:=V.length) (new:=new) (n_7 _) cl ck ba bx;have ha:=g3 om_;rw [Nat.zero_mul] at ha;have cb:=Y6 (P:=C.P) (ty:=o.type) (b:=p.block) (off:=0) (n:=V.length) (m:=new.length) (c:=p.cap - 0) hu (.inl hu) hs aj cB om_ (by rw [L7];exact aW);rw [bD,hv,ha,cb];simp only [Result.andThen_ok];have af:Q8 V V.length new=V++new:=by simp [Q8]
   rw [af] at bt;have bA:k < σ.length:=(n_3.1 aJ).1;have bS:(σ.set k (.vec p.size (V++new)))[k]? = some (.vec p.size (V++new)):=by rw [b1v bA]
   have aK:Ext M w' (M.add p) w':=⟨⟨[p],rfl⟩,fun _ h=>h,fun _ _ h=>.inr h,fun _ _=>rfl,fun _ _ _=>rfl,n_7 _,T1,rfl,rfl,rfl,fun _ h=>⟨h,rfl,id,fun _=>id⟩⟩;have hd:=bt.dead k;rw [List.set_set] at hd;have hobj':=bt.obj k p _ hp bS;have ap:∀ {j:Nat} {q:Pl},(M.add p).pl[j]? = some q->(j < σ.length/\M.pl[j]? = some q)\/(j=σ.length/\q=p):=by
    intro j q hj;simp only [A9.add,a6V,hr.len] at hj;split at hj
    ·exact .inl ⟨‹_›,hj⟩
    ·have:j - σ.length=0:=by
      have:=(n_3.1 hj).1;simp at this;omega
     rw [this] at hj;simp at hj;exact .inr ⟨om_,hj.symm⟩
   have fj:∀ {j:Nat} {x:b9},(σ.set k b9.dead++[b9.vec p.size (V++new)])[j]? = some x->(j < σ.length/\(σ.set k b9.dead)[j]? = some x)\/(j=σ.length/\x = .vec p.size (V++new)):=by
    intro j x hj;rw [a6V] at hj;split at hj
    ·exact .inl ⟨by rename_i h;simpa using h,hj⟩
    ·have:j - (σ.set k b9.dead).length=0:=by
      have:=(n_3.1 hj).1;simp at this ⊢;omega
     rw [this] at hj;simp at hj;rename_i h2;have aj:(σ.set k b9.dead).length=σ.length:=by simp
     exact .inr ⟨om_,hj.symm⟩
   have dK:∀ {j:Nat} {q:Pl} {x:b9},M.pl[j]? = some q->(σ.set k b9.dead)[j]? = some x->x.live=true->q.block≠p.block:=by
    intro j q x hj dm hl e;have hjk:j≠k:=by
     rintro rfl;rw [b1v bA] at dm;injection dm with dm
     subst dm;cases hl
    have eV:σ[j]? = some x:=by rwa [a2i (Ne.symm hjk)] at dm
    exact hjk (hr.inj j k q p x _ hj hp eV aJ hl rfl e)
   refine ⟨.vec σ.length 0 (V.length+new.length),_,M.add p,aC.trans aK,⟨by simp [A9.add,hr.len],fun b o' ha=>bt.blk b o' ha,fun j q x hj dm=>?_,fun j j' q q' x x' hj dl dm eV hl bM hb=>?_,fun g cells hg=>(bt.glob g cells hg).mono aK,bt.kep,fun j q x hj dm bY=>?_⟩,?_,hk⟩
   ·rcases fj dm with ⟨ab,h⟩ | ⟨rfl,rfl⟩
    ·rcases ap hj with ⟨_,hq⟩ | ⟨rfl,_⟩
     ·obtain ⟨h1,h2⟩:=hd.obj j q x hq h;refine ⟨?_,h2⟩;by_cases hl:x.live=true
      ·exact h1.mono aK rfl (fun _ _ _ _ h=>h)
      ·cases x<;>first | trivial | simp [b9.live] at hl
     ·omega
    ·rcases ap hj with ⟨h,_⟩ | ⟨_,rfl⟩
     ·omega
     ·exact ⟨hobj'.1.mono aK rfl (fun _ _ _ _ h=>h),hobj'.2⟩
   ·rcases fj dm with ⟨ab,h⟩ | ⟨rfl,rfl⟩
    ·rcases ap hj with ⟨_,hq⟩ | ⟨rfl,_⟩
     ·rcases fj eV with ⟨bp,h'⟩ | ⟨rfl,rfl⟩
      ·rcases ap dl with ⟨_,fM⟩ | ⟨rfl,_⟩
       ·exact hd.inj j j' q q' x x' hq fM h h' hl bM hb
       ·omega
      ·rcases ap dl with ⟨h0,_⟩ | ⟨_,rfl⟩
       ·omega
       ·exact absurd hb (dK hq h hl)
     ·omega
    ·rcases ap hj with ⟨h0,_⟩ | ⟨_,rfl⟩
     ·omega
     ·rcases fj eV with ⟨bp,h'⟩ | ⟨rfl,rfl⟩
      ·rcases ap dl with ⟨_,fM⟩ | ⟨rfl,_⟩
       ·exact absurd hb.symm (dK fM h' bM)
       ·omega
      ·rfl
   ·rcases fj dm with ⟨ab,h⟩ | ⟨rfl,rfl⟩
    ·rcases ap hj with ⟨_,hq⟩ | ⟨rfl,_⟩
     ·exact hd.nk j q x hq h bY
     ·omega
    ·rcases ap hj with ⟨h0,_⟩ | ⟨_,rfl⟩
     ·omega
     ·exact hr.nk k q _ hp aJ rfl
   ·exact RV.vec (M:=M.add p) (w:=w') (k:=σ.length) (off:=0) (len:=V.length+new.length) (p:=p) (a:=⟨p.block,0,none⟩) a9q om_ g2 (fun _=>by simp)
  ·obtain ⟨dT,gI⟩:=hr.drewN;have eF:RV M w.drew (.vec k 0 V.length) (.slice (some a) V.length (p.cap - 0)):=.vec hp g1 g2 g3;have ee:=b17 dT eF aJ (Nat.le_of_eq (L7 _));rw [a9L,a57] at ee;obtain ⟨a1,c1,dI,_,bg,old,hfo,dM,eX⟩:=ee;obtain ⟨an,cn,hvn,_,ck,arr,cB,ba,bx⟩:=aQ M w.drew _ dT (a5G h2);obtain ⟨c',ca,cr,au⟩:=X1 (P:=C.P) (ty:=o.type) (a:=some a) (c:=p.cap - 0) (w:=w) hu (.inl hu) hs df hz aj hfo cB om_ bi hb;rw [bD,hv,au];simp only [Result.andThen_ok];have fY:w.drew.heap.size=w.heap.size:=rfl;rw [<- fY];have hrk:=dT.dead k;have dN:(old++arr++Builtin.zeroCells z.cells (c' - (V.length+new.length))).size=c'*p.size:=by
    simp only [b9h,V9,dM,ba,bI];rw [<- Q5,<- Q5]
    congr 1;omega
   have aK:=Ext.alloc hrk ⟨w.drew.heap.size,c',p.size⟩ (.cells (old++arr++Builtin.zeroCells z.cells (c' - (V.length+new.length))) e);have cA:∀ r∈V++new,r.length=p.size:=fun r hr=>by
    rcases L8.1 hr with h | h
    ·exact bg r h
    ·exact ck r h
   have ap:=a2z (rest:=Builtin.zeroCells z.cells (c' - (V.length+new.length))) dM ba bg ck (fun i j r c hi hj=>(eX i j r c hi hj).1) (fun i j r c hi hj=>(bx i j r c hi hj).1);have aV:=hrk.alloc ⟨w.drew.heap.size,c',p.size⟩ (.cells (old++arr++Builtin.zeroCells z.cells (c' - (V.length+new.length))) e) (.vec p.size (V++new)) rfl
    ⟨rfl,sp_ ca,by unfold maxLen;simp only;omega,cA,fun r hr c hc=>(by
     rcases L8.1 hr with h | h
     ·obtain ⟨i,hi⟩:=M6.1 h;obtain ⟨j,hj⟩:=M6.1 hc;exact (eX i j r c hi hj).2
     ·obtain ⟨i,hi⟩:=M6.1 h;obtain ⟨j,hj⟩:=M6.1 hc;exact (bx i j r c hi hj).2),_,e,B0 _ _,dN,fun i j r c hi hj=>((ap i j r c hi hj).2.mono aK)⟩
   refine ⟨.vec σ.length 0 (V.length+new.length),_,_,gI.trans aK,aV,?_,hk⟩;exact RV.vec (M:=M.add ⟨w.drew.heap.size,c',p.size⟩) (k:=σ.length) (off:=0) (len:=V.length+new.length) (p:=⟨w.drew.heap.size,c',p.size⟩) (a:=⟨w.drew.heap.size,0,none⟩) a9q (sp_ ca) (by unfold maxLen;simp only;omega) (fun _=>by simp)
end
def D5.jump (l:Nat) (J:Env->List b9->Prop) (Q:D5->Env->List b9->Prop):D5->Env->List b9->Prop
 | .goto l',E,σ=>l'=l/\J E σ
 | e,E,σ=>Q e E σ
theorem c9H {Q:D5->Env->List b9->Prop} {c rest:Code} (l:Nat) (J:Nat->Env->List b9->Prop) (hf:findLabel c l=some rest)
 (first:CWp C n c (D5.jump l (fun E σ=>∃ m,J m E σ) Q) E σ) (pass:∀ m E σ,J m E σ->CWp C n rest (D5.jump l (fun E' Y=>∃ m',m' < m/\J m' E' Y) Q) E σ):CWp C n (.scope c) Q E σ:=fun M w a hr hfr=>by
 intro b k cs;have hg:gotoIn l (.inScope c::k)=some (.code rest::.inScope c::k):=by simp [gotoIn,hf]
 have key:∀ m E σ M1 w1 a1,J m E σ->Ext M w M1 w1->Rel C M1 σ w1->K5 M1 w1 n E a1 ->
  ∃ e a' w',W2 C n Q M w e a' w'/\Arrives C.P (lone (b.at a1 (.code rest::.inScope c::k)) cs w1) b k cs e a' w':=by
  intro m
  induction m using Nat.strongRecOn with
  | _ m ih =>
   intro E σ M1 w1 a1 hJ hx aF dE;obtain ⟨e,a2,w2,hq,ax⟩:=pass m E σ hJ M1 w1 a1 aF dE b (.inScope c::k) cs;obtain ⟨E',Y,M',h1,h2,h3,h4⟩:=hq;cases e with
   | normal=>exact ⟨.normal,a2,w2,⟨E',Y,M',hx.trans h1,h2,h3,h4⟩,Steps.trans ax (.one step_inScope)⟩
   | exit id=>exact ⟨.exit id,a2,w2,⟨E',Y,M',hx.trans h1,h2,h3,h4⟩,fun k' hk=>ax k' (by simp [exitTo,hk])⟩
   | goto l' =>
    obtain ⟨rfl,m',ab,hJ'⟩:=h4;obtain ⟨dF,dG,dH,ce,aZ⟩:=ih m' ab E' Y M' w2 a2 hJ' (hx.trans h1) h2 h3;exact ⟨dF,dG,dH,ce,.of_steps (ax _ hg) aZ⟩
   | ret=>exact ⟨.ret,a2,w2,⟨E',Y,M',hx.trans h1,h2,h3,h4⟩,ax⟩
   | panic ch=>exact ⟨.panic ch,a2,w2,⟨E',Y,M',hx.trans h1,h2,h3,h4⟩,ax⟩
   | outgrown=>exact h4.elim
 obtain ⟨e,a1,w1,hq,ax⟩:=first M w a hr hfr b (.inScope c::k) cs
 obtain ⟨E',Y,M',h1,h2,h3,h4⟩:=hq;cases e with
 | normal=>exact ⟨.normal,a1,w1,⟨E',Y,M',h1,h2,h3,h4⟩,.head step_scope (Steps.trans ax (.one step_inScope))⟩
 | exit id=>exact ⟨.exit id,a1,w1,⟨E',Y,M',h1,h2,h3,h4⟩,fun k' hk=>.head step_scope (ax k' (by simp [exitTo,hk]))⟩
 | goto l' =>
  obtain ⟨rfl,m,hJ⟩:=h4;obtain ⟨dF,dG,dH,ce,aZ⟩:=key m E' Y M' w1 a1 hJ h1 h2 h3;exact ⟨dF,dG,dH,ce,.of_steps (.head step_scope (ax _ hg)) aZ⟩
 | ret=>exact ⟨.ret,a1,w1,⟨E',Y,M',h1,h2,h3,h4⟩,.of_steps (.one step_scope) ax⟩
 | panic ch=>exact ⟨.panic ch,a1,w1,⟨E',Y,M',h1,h2,h3,h4⟩,.of_steps (.one step_scope) ax⟩
 | outgrown=>exact h4.elim
inductive Old (n:Nat):CV->Prop where
 | val (v:Value):Old n (.val v)
 | agg {cs:List CV}:(∀ (i:Nat) (c:CV),cs[i]? = some c->Old n c)->Old n (.agg cs)
 | tup {cs:List CV}:(∀ (i:Nat) (c:CV),cs[i]? = some c->Old n c)->Old n (.tup cs)
 | clo {f:FuncId} {cs:List CV}:(∀ (i:Nat) (c:CV),cs[i]? = some c->Old n c)->Old n (.clo f cs)
 | list {V:List (List CV)} {nn:Bool} {tok:Option Nat}:(∀ (i j:Nat) (r:List CV) (c:CV),V[i]? = some r->r[j]? = some c->Old n c)->(∀ k,tok=some k->k < n)->Old n (.list V nn tok)
 | ptr {k off:Nat}:k < n->Old n (.ptr k off)
 | cptr {cells:List CV}:(∀ (j:Nat) (c:CV),cells[j]? = some c->Old n c)->Old n (.cptr cells)
 | eptr {k i off:Nat}:k < n->Old n (.eptr k i off)
 | vec {k off len:Nat}:k < n->Old n (.vec k off len)
 | map {k:Nat}:k < n->Old n (.map k)
 | yld {k:Nat}:k < n->Old n (.yld k)
theorem RV.old (h:RV M w c v):Old M.pl.length c:=by
 induction h with
 | val v=>exact .val v
 | agg _ _ _ ih=>exact .agg ih
 | tup _ _ ih=>exact .tup ih
 | clo _ _ ih=>exact .clo ih
 | list vals _ _ _ _ _ _ _ _ _ cz ih =>
  exact .list ih fun k hk=>(by
   obtain ⟨s',hp,_⟩:=cz k hk;exact (n_3.1 hp).1)
 | ptr hk=>exact .ptr (n_3.1 hk).1
 | cptr _ _ _ _ ih=>exact .cptr ih
 | eptr hk=>exact .eptr (n_3.1 hk).1
 | vec hk=>exact .vec (n_3.1 hk).1
 | map hk=>exact .map (n_3.1 hk).1
 | yld hk=>exact .yld (n_3.1 hk).1
structure Cut (n:Nat) (M M':A9):Prop where
 pl:M'.pl=M.pl.take n
 full:∀ b,M.full b->M'.full b
 cell:∀ b o,M.cell b o->M'.at b o
theorem Cut.at (h:Cut n M M') {o:Nat} (ha:M.at b o):M'.at b o:=by
 rcases ha with ha | ha
 ·exact .inl (h.full _ ha)
 ·exact h.cell _ _ ha
theorem Cut.get (h:Cut n M M') (hk:k < n) (hp:M.pl[k]? = some p):M'.pl[k]? = some p:=by
 rw [h.pl,a2d,n_1 hk];exact hp
theorem RV.cut (hc:Cut n M M') (h:RV M w c v) (ho:Old n c):RV M' w c v:=by
 induction h with
 | val v=>exact .val v
 | agg h1 h2 _ ih=>cases ho with | agg ho=>exact .agg h1 h2 fun i c hi=>ih i c hi (ho i c hi)
 | tup h1 _ ih=>cases ho with | tup ho=>exact .tup h1 fun i c hi=>ih i c hi (ho i c hi)
 | clo h1 _ ih=>cases ho with | clo ho=>exact .clo h1 fun i c hi=>ih i c hi (ho i c hi)
 | list vals h1 h2 h3 h4 h5 h6 h7 h8 _ aY ih =>
  cases ho with
  | list ho ht =>
   exact .list vals h1 h2 h3 h4 h5 h6 h7 (fun i j r c hi hj=>⟨hc.at (h8 i j r c hi hj).1,(h8 i j r c hi hj).2⟩) (fun i j r c hi hj=>ih i j r c hi hj (ho i j r c hi hj)) fun k hk=>by
    obtain ⟨s',hp,aL⟩:=aY k hk;exact ⟨s',hc.get (ht k hk) hp,aL⟩
 | ptr hk=>cases ho with | ptr ho=>exact .ptr (hc.get ho hk)
 | cptr vals h1 h2 _ ih=>cases ho with | cptr ho=>exact .cptr vals h1 (fun j c hj=>⟨hc.at (h2 j c hj).1,(h2 j c hj).2⟩) fun j c hj=>ih j c hj (ho j c hj)
 | eptr hk=>cases ho with | eptr ho=>exact .eptr (hc.get ho hk)
 | vec hk h1 h2 h3=>cases ho with | vec ho=>exact .vec (hc.get ho hk) h1 h2 h3
 | map hk=>cases ho with | map ho=>exact .map (hc.get ho hk)
 | yld hk=>cases ho with | yld ho=>exact .yld (hc.get ho hk)
inductive Cls (n:Nat) (σ:List b9):CV->CV->Prop where
 | old {c:CV}:Old n c->Cls n σ c c
 | agg {cs bc:List CV}:cs.length=bc.length->(∀ (i:Nat) (c c':CV),cs[i]? = some c->bc[i]? = some c'->Cls n σ c c')->Cls n σ (.agg cs) (.agg bc)
 | tup {cs bc:List CV}:cs.length=bc.length->(∀ (i:Nat) (c c':CV),cs[i]? = some c->bc[i]? = some c'->Cls n σ c c')->Cls n σ (.tup cs) (.tup bc)
 | clo {f:FuncId} {cs bc:List CV}:cs.length=bc.length->(∀ (i:Nat) (c c':CV),cs[i]? = some c->bc[i]? = some c'->Cls n σ c c')->Cls n σ (.clo f cs) (.clo f bc)
 | list {V rows':List (List CV)} {nn:Bool} {tok:Option Nat}:V.length=rows'.length->(∀ (i:Nat) (r r':List CV),V[i]? = some r->rows'[i]? = some r'->r.length=r'.length) ->
  (∀ (i j:Nat) (r r':List CV) (c c':CV),V[i]? = some r->rows'[i]? = some r'->r[j]? = some c->r'[j]? = some c'->Cls n σ c c')->Cls n σ (.list V nn tok) (.list rows' nn none)
 | vec {k off len s:Nat} {V rows':List (List CV)}:n<=k->σ[k]? = some (.vec s V)->off+len<=V.length->((V.drop off).take len).length=rows'.length->(∀ (i:Nat) (r r':List CV),((V.drop off).take len)[i]? = some r->rows'[i]? = some r'->r.length=r'.length) ->
  (∀ (i j:Nat) (r r':List CV) (c c':CV),((V.drop off).take len)[i]? = some r->rows'[i]? = some r'->r[j]? = some c->r'[j]? = some c'->Cls n σ c c')->Cls n σ (.vec k off len) (.list rows' true none)
theorem Cls.one (h:Cls n σ c c') (ho:c.one=true):c'.one=true:=by
 cases h<;>first|exact ho|rfl|(simp [CV.one] at ho)
theorem r7 {β:Type} {l:List α} {l':List β} (h:l.length=l'.length) {x:β} (hx:l'[i]? = some x):∃ y,l[i]? = some y:=by
 have:=(n_3.1 hx).1;exact ⟨l[i],by simp [h,this]⟩
theorem RV.close (hr:Rel C M σ w) (hc:Cut n M M') (hZ:∀ (k:Nat) (p:Pl) (s:Nat) (V:List (List CV)),n<=k->M.pl[k]? = some p->σ[k]? = some (.vec s V)->M'.full p.block) (h:Cls n σ c c') (hv:RV M w c v):RV M' w c' v:=by
 induction h generalizing v with
 | old ho=>exact hv.cut hc ho
 | agg hl fZ ih =>
  cases hv with
  | agg h1 h2 h3 =>
   refine .agg om_ (fun c hcm=>?_) (fun i c' hi=>?_)
   ·obtain ⟨i,hi⟩:=M6.1 hcm;obtain ⟨y,hy⟩:=r7 hl hi;exact (fZ i y c hy hi).one (h2 y (n_2 hy))
   ·obtain ⟨y,hy⟩:=r7 hl hi;exact ih i y c' hy hi (h3 i y hy)
 | tup hl _ ih =>
  cases hv with
  | tup h1 h3 =>
   refine .tup om_ (fun i c' hi=>?_);obtain ⟨y,hy⟩:=r7 hl hi;exact ih i y c' hy hi (h3 i y hy)
 | clo hl _ ih =>
  cases hv with
  | clo h1 h3 =>
   refine .clo om_ (fun i c' hi=>?_);obtain ⟨y,hy⟩:=r7 hl hi;exact ih i y c' hy hi (h3 i y hy)
 | list hl gl fZ ih =>
  obtain ⟨a,cap,b,off,s,vals,rfl,h1,h2,h3,h4,h5,h6,h7,h8,h9,_⟩:=hv.list_inv;rename_i V rows' nn tok;refine RV.list' hl (b:=b) (off:=off) (s:=s) vals om_ h2 h3 h4 (fun az=>h5 fun e=>az (b3D (by rw [<- hl,e];rfl))) (fun r' bt=>?_) (fun r' bt c' bG=>?_) (fun i j r' c' hi hj=>?_) (fun i j r' c' hi hj=>?_) (fun k hk=>by cases hk)
  ·obtain ⟨i,hi⟩:=M6.1 bt;obtain ⟨r,bJ⟩:=r7 hl hi;rw [<- gl i r r' bJ hi];exact h6 r (n_2 bJ)
  ·obtain ⟨i,hi⟩:=M6.1 bt;obtain ⟨r,bJ⟩:=r7 hl hi;obtain ⟨j,hj⟩:=M6.1 bG;obtain ⟨c,eG⟩:=r7 (gl i r r' bJ hi) hj;exact (fZ i j r r' c c' bJ hi eG hj).one (h7 r (n_2 bJ) c (n_2 eG))
  ·obtain ⟨r,bJ⟩:=r7 hl hi;obtain ⟨c,eG⟩:=r7 (gl i r r' bJ hi) hj;exact ⟨hc.at (h8 i j r c bJ eG).1,(h8 i j r c bJ eG).2⟩
  ·obtain ⟨r,bJ⟩:=r7 hl hi;obtain ⟨c,eG⟩:=r7 (gl i r r' bJ hi) hj;exact ih i j r r' c c' bJ hi eG hj (h9 i j r c bJ eG)
 | vec hk am aP hl gl fZ ih =>
  cases hv with
  | vec hp g1 g2 g3 =>
   rename_i k off len s V rows' p a;have hfp:=hZ k p s V hk hp am;obtain ⟨⟨cm,q1,q2,q3,q4,arr,ty,q5,q6,q7⟩,_⟩:=hr.obj k p _ hp am;have aj:((V.drop off).take len).length=len:=by simp;omega
   have ap:∀ i r,((V.drop off).take len)[i]? = some r->i < len/\V[off+i]? = some r:=fun i r hi=>by
    rw [a2d] at hi;split at hi
    ·rw [a5v] at hi;exact ⟨‹_›,hi⟩
    ·cases hi
   have ga:rows'≠[]->off < p.cap:=fun az=>by
    have:0 < rows'.length:=a94.2 az;omega
   refine RV.list' (L:=len) om_ (b:=p.block) (off:=off*p.size) (s:=p.size) (fun i j=>arr.getD ((off+i)*p.size+j) undef) om_ om_ rfl (fun h=>by cases h) (fun az=>by rw [g3 (ga az)]) (fun r' bt=>?_) (fun r' bt c' bG=>?_) (fun i j r' c' hi hj=>?_) (fun i j r' c' hi hj=>?_) (fun k hk=>by cases hk)
   ·obtain ⟨i,hi⟩:=M6.1 bt;obtain ⟨r,bJ⟩:=r7 hl hi;rw [<- gl i r r' bJ hi];exact q3 r (n_2 (ap i r bJ).2)
   ·obtain ⟨i,hi⟩:=M6.1 bt;obtain ⟨r,bJ⟩:=r7 hl hi;obtain ⟨j,hj⟩:=M6.1 bG;obtain ⟨c,eG⟩:=r7 (gl i r r' bJ hi) hj;exact (fZ i j r r' c c' bJ hi eG hj).one (q4 r (n_2 (ap i r bJ).2) c (n_2 eG))
   ·obtain ⟨r,bJ⟩:=r7 hl hi;obtain ⟨c,eG⟩:=r7 (gl i r r' bJ hi) hj;obtain ⟨bn,hri⟩:=ap i r bJ;have cd:j < p.size:=by have:=(n_3.1 eG).1;rwa [q3 r (n_2 hri)] at this
    have hq:(off+i)*p.size+j < arr.size:=by
     rw [q6];have:(off+i+1)*p.size<=p.cap*p.size:=S4 _ om_;rw [Q5 (off+i)] at this;omega
    refine ⟨.inl hfp,?_⟩;rw [show off*p.size+i*p.size+j=(off+i)*p.size+j from by rw [Q5 off]];simp [World.cell?,q5,hq]
   ·obtain ⟨r,bJ⟩:=r7 hl hi;obtain ⟨c,eG⟩:=r7 (gl i r r' bJ hi) hj;exact ih i j r r' c c' bJ hi eG hj (q7 _ _ _ _ (ap i r bJ).2 eG)
def A9.cutAt (M:A9) (n:Nat) (σ:List b9):A9 :=
 { pl:=M.pl.take n,full:=fun b=>M.full b\/∃ k p ob,n<=k/\M.pl[k]? = some p/\σ[k]? = some ob/\ob.live=true/\p.block=b,cell:=M.cell,keep:=M.keep}
theorem Rel.cut {ay:List b9} (h0:Rel C M0 σ w0) (hx:Ext M0 w0 M w) (hr:Rel C M (σ++ay) w) :
 Rel C (M.cutAt σ.length (σ++ay)) σ w/\Cut σ.length M (M.cutAt σ.length (σ++ay))/\Ext M0 w0 (M.cutAt σ.length (σ++ay)) w:=by
 have aN:Cut σ.length M (M.cutAt σ.length (σ++ay)):=⟨rfl,fun _ h=>.inl h,fun _ _ h=>.inr h⟩;obtain ⟨l,hl⟩:=hx.pl;have aX:(M.cutAt σ.length (σ++ay)).pl=M0.pl:=by
  show M.pl.take σ.length=M0.pl;rw [hl,<- h0.len,List.take_left]
 have aC:Ext M0 w0 (M.cutAt σ.length (σ++ay)) w:=⟨⟨[],by rw [aX];simp⟩,fun b h=>.inl (hx.full b h),fun b o h=>aN.at (hx.cell b o h),hx.same,hx.sameC,hx.size,hx.drew,hx.os,hx.tape,hx.output,fun b hb=>(by
  obtain ⟨k1,k2,k3,k4⟩:=hx.kept b hb;refine ⟨k1,k2,fun f=>?_,k4⟩
  rcases f with f | ⟨k,p,ob,_,hp,hs,bY,rfl⟩
  ·exact k3 f
  ·exact absurd k1 (hr.nk k p ob hp hs bY))⟩
 have ap:∀ {k:Nat} {p:Pl},(M.cutAt σ.length (σ++ay)).pl[k]? = some p->k < σ.length/\M.pl[k]? = some p/\M0.pl[k]? = some p:=by
  intro k p hk;have h1:M0.pl[k]? = some p:=by rw [<- aX];exact hk
  have ab:k < σ.length:=by rw [<- h0.len];exact (n_3.1 h1).1
  exact ⟨ab,hx.get h1,h1⟩
 have am:∀ {k:Nat} {ob:b9},σ[k]? = some ob->(σ++ay)[k]? = some ob:=by
  intro k ob h;rw [R3 (n_3.1 h).1];exact h
 refine ⟨⟨by rw [aX,h0.len],fun b o ha=>?_,fun k p ob hk hs=>?_,fun k k' p p' ob aG hk aJ hs aT cP cp hb=>hr.inj k k' p p' ob aG (ap hk).2.1 (ap aJ).2.1 (am hs) (am aT) cP cp hb,fun g cells hg=>(h0.glob g cells hg).mono aC,hr.kep,fun k p ob hk hs bY=>hr.nk k p ob (ap hk).2.1 (am hs) bY⟩,aN,aC⟩
 ·rcases ha with (ha | ⟨k,p,ob,_,hp,hs,hl,rfl⟩) | ha
  ·exact hr.blk b o (.inl ha)
  ·exact (hr.obj k p ob hp hs).1.lt hl
  ·exact hr.blk b o (.inr ha)
 ·obtain ⟨ab,hp,hp0⟩:=ap hk;obtain ⟨h1,h2⟩:=hr.obj k p ob hp (am hs);have fC:=(h0.obj k p ob hp0 hs).1;have gb:ob.live=true->¬ M.full p.block->¬ (M.cutAt σ.length (σ++ay)).full p.block:=fun bY gb h=>by
   rcases h with h | ⟨k',p',aG,aJ,aH,aT,bM,hb⟩
   ·exact gb h
   ·have:=hr.inj k' k p' p aG ob aH hp aT (am hs) bM bY hb;omega
  have old:∀ {c:CV} {v v':Value},RV M0 w0 c v'->RV M w c v->RV (M.cutAt σ.length (σ++ay)) w c v:=fun h h'=>h'.cut aN (by rw [<- h0.len];exact h.old);refine ⟨?_,?_⟩
  ·cases ob with
   | dead=>trivial
   | boxT t0 cells =>
    obtain ⟨arr,ty,e1,e2,e3,e4⟩:=h1;obtain ⟨arr0,ty0,f1,f2,f3,f4⟩:=fC;exact ⟨arr,ty,e1,e2,e3,fun i c hi=>old (f4 i c hi) (e4 i c hi)⟩
   | tipT t0 m=>exact h1
   | blk o=>exact h1
   | lp o n cs =>
    obtain ⟨tm,e1,e2,e3⟩:=h1;obtain ⟨tm0,f1,f2,f3⟩:=fC;exact ⟨tm,e1,e2,fun x hi=>old (f3 x hi) (e3 x hi)⟩
   | vec s V =>
    obtain ⟨e0,e1,e2,e3,e4,arr,ty,e5,e6,e7⟩:=h1;obtain ⟨f0,f1,f2,f3,f4,arr0,ty0,f5,f6,f7⟩:=fC;exact ⟨e0,e1,e2,e3,e4,arr,ty,e5,e6,fun i j r c hi hj=>old (f7 i j r c hi hj) (e7 i j r c hi hj)⟩
   | map es =>
    obtain ⟨ae,ai,e1,e2,e3⟩:=h1;obtain ⟨ents0,clock0,f1,f2,f3⟩:=fC;refine ⟨ae,ai,e1,e2,fun i x hi=>?_⟩;obtain ⟨e,g1,g2,g3,g4⟩:=e3 i x hi;obtain ⟨e',gJ,ia,g3',g4'⟩:=f3 i x hi;exact ⟨e,g1,old ia g2,old g3' g3,g4⟩
   | iter aD left =>
    obtain ⟨mb,seen,bF,ae,ai,e1,e2,e3,e4,e5,e6,e7,e8,e9⟩:=h1;obtain ⟨mb0,seen0,last0,ents0,clock0,f1,f2,f3,f4,f5,f6,f7,f8,f9⟩:=fC;refine ⟨mb,seen,bF,ae,ai,e1,aN.full _ e2,e3,e4,e5,e6,e7,fun i x hi=>?_,fun i x hi=>?_⟩
    ·obtain ⟨e,g1,g2,g3⟩:=e8 i x hi;obtain ⟨e',gJ,ia,g3'⟩:=f8 i x hi;exact ⟨e,g1,old ia g2,old g3' g3⟩
    ·obtain ⟨hl,j,e,g0,g1,g2,g3⟩:=e9 i x hi;obtain ⟨_,j',e',_,_,ia,g3'⟩:=f9 i x hi;exact ⟨hl,j,e,g0,g1,old ia g2,old g3' g3⟩
  ·cases ob with
   | dead=>trivial
   | tipT t0 m=>exact gb rfl h2
   | _=>exact ⟨gb rfl h2.1,h2.2⟩
theorem a7n {K:CV->Prop} (h:b8 C f args σ fun r Y=>∃ ay c c',Y=σ++ay/\r = .ret c/\Cls σ.length Y c c'/\K c'):b8 C f args σ fun r Y=>(∃ c,r = .ret c/\K c)/\Y=σ :=
 fun M w vs hr hn hx=>(h M w vs hr hn hx).mono fun e w' he=>by
  cases e with
  | returned v =>
   obtain ⟨c,Y,M',h1,h2,h3,ay,c0,c',rfl,h5,h6,h7⟩:=he;injection h5 with h5
   subst h5;obtain ⟨g1,g2,g3⟩:=hr.cut h1 h2;exact ⟨c',σ,_,g3,g1,RV.close h2 g2 (fun k p s V hk hp hs=>.inr ⟨k,p,_,hk,hp,hs,rfl,rfl⟩) h6 h3,⟨c',rfl,h7⟩,rfl⟩
  | panicked ch =>
   obtain ⟨c,v,Y,M',h0,h1,h2,h3,ay,c0,c',h4,h5,_⟩:=he;cases h5
  | outgrown=>exact he
theorem c7 {c0:CV} (h:b8 C f args σ fun r Y=>∃ ay c,Y=σ++ay/\r = .ret c/\Cls σ.length Y c c0):b8 C f args σ fun r Y=>r = .ret c0/\Y=σ :=
 (a7n (K:=fun c=>c=c0) (h.mono fun _ _ ⟨ay,c,h1,h2,h3⟩=>⟨ay,c,c0,h1,h2,h3,rfl⟩)).mono fun _ _ ⟨⟨_,h1,h2⟩,h3⟩=>⟨h2 ▸ h1,h3⟩
inductive r4:CV->Prop where
 | val (v:Value):r4 (.val v)
 | agg {cs:List CV}:(∀ c∈cs,r4 c)->r4 (.agg cs)
 | tup {cs:List CV}:(∀ c∈cs,r4 c)->r4 (.tup cs)
 | clo {f:FuncId} {cs:List CV}:(∀ c∈cs,r4 c)->r4 (.clo f cs)
 | list {V:List (List CV)} {nn:Bool}:(∀ r∈V,∀ c∈r,r4 c)->r4 (.list V nn none)
theorem r4.old (h:r4 c):Old n c:=by
 induction h with
 | val v=>exact .val v
 | agg _ ih=>exact .agg fun i c hi=>ih c (n_2 hi)
 | tup _ ih=>exact .tup fun i c hi=>ih c (n_2 hi)
 | clo _ ih=>exact .clo fun i c hi=>ih c (n_2 hi)
 | list _ ih=>exact .list (fun i j r c hi hj=>ih r (n_2 hi) c (n_2 hj)) (fun k hk=>by cases hk)
theorem Cls.pure (h:r4 c):Cls n σ c c:=.old h.old
theorem Cls.tok {n:Nat} {σ:List b9} {V:List (List CV)} {nn:Bool} {tok:Option Nat} (h:∀ r∈V,∀ c∈r,r4 c):Cls n σ (.list V nn tok) (.list V nn none) :=
 .list rfl (fun i r r' h1 h2=>by rw [h1] at h2;injection h2 with h2;rw [h2]) fun i j r r' c c' h1 h2 h3 h4=>by
  rw [h1] at h2;injection h2 with h2
  subst h2;rw [h3] at h4;injection h4 with h4
  subst h4;exact .pure (h r (n_2 h1) c (n_2 h3))
variable {tok:Option Nat}
theorem Cls.vecs {len:Nat} {rows':List (List CV)} (hk:n<=k) (am:σ[k]? = some (.vec s V)) (hl:off+len<=V.length) (he:(V.drop off).take len=rows') (h:∀ r∈rows',∀ c∈r,r4 c):Cls n σ (.vec k off len) (.list rows' true none):=by
 subst he;exact .vec hk am hl rfl (fun i r r' h1 h2=>by rw [h1] at h2;injection h2 with h2;rw [h2]) fun i j r r' c c' h1 h2 h3 h4=>by
  rw [h1] at h2;injection h2 with h2
  subst h2;rw [h3] at h4;injection h4 with h4
  subst h4;exact .pure (h r (n_2 h1) c (n_2 h3))
def a6U (n:Nat) (σ:List b9):List CV->List CV->Prop
 | [],[]=>True
 | c::cs,c'::bc=>Cls n σ c c'/\a6U n σ cs bc
 | _,_=>False
theorem a6U.get:∀ {cs bc:List CV},a6U n σ cs bc->cs.length=bc.length/\∀ (i:Nat) (c c':CV),cs[i]? = some c->bc[i]? = some c'->Cls n σ c c'
 | [],[],_=>⟨rfl,si_⟩
 | c::cs,c'::bc,⟨h1,h2⟩=>by
  obtain ⟨h3,h4⟩:=a6U.get h2;refine ⟨by simp [h3],fun i x x' hx aC=>?_⟩
  rcases i with _ | i
  ·simp at hx aC;subst hx aC;exact h1
  ·exact h4 i x x' (sp_ hx) (sp_ aC)
theorem Cls.aggs {bc:List CV} (h:a6U n σ cs bc):Cls n σ (.agg cs) (.agg bc):=.agg h.get.1 h.get.2
theorem Cls.tups {bc:List CV} (h:a6U n σ cs bc):Cls n σ (.tup cs) (.tup bc):=.tup h.get.1 h.get.2
section
def plain (l:List Value):CV:=.agg (l.map .val)
theorem a3o {l:List Value} {u:Value} (h:RV M w (plain l) u):u = .agg l.toArray:=by
 cases h with
 | agg h1 h2 h3 =>
  rename_i vs
  congr 1
  apply b5g;intro i
  rcases a4r i l.length with hi | hi
  ·have hl:(l.map CV.val)[i]? = some (.val l[i]):=by simp [hi]
   have:=r3 (h3 i _ hl);have hv:i < vs.size:=by rw [h1];simpa using hi
   simp only [a0H,a1j hv,a8S] at this;rw [a1j hv,this];simp [hi]
  ·have hv:vs.size<=i:=by rw [h1];simpa using hi
   rw [a9E hv];simp [hi]
theorem b6H {t':TypeId} {xs ys:List Value} {r:Bool} (ho:o.op = .binOp .eql t x y t') (hx:E.valid x) (hy:E.valid y) (ex:E.val C x=plain xs) (ey:E.val C y=plain ys)
 (hg:C.P.eqGuardType C.P.depth t=false) (he:∀ w,(Op.equal t (.agg xs.toArray) (.agg ys.toArray)).run C.P w = .ok r w):l8 C σ E o (.val (.bool r)) :=
 i7 fun M w ρ _ h=>by
  have h1:=h x w9 hx;have h2:=h y w9 hy;rw [ex] at h1;rw [ey] at h2;exact ⟨.bool r,by simp [execOp,ho,a3o h1,a3o h2,eqGuard,hg,binOp,he],.val _⟩
theorem e0D {t':TypeId} {xs ys:List Value} {r:Bool} (ho:o.op = .binOp .neq t x y t') (hx:E.valid x) (hy:E.valid y) (ex:E.val C x=plain xs) (ey:E.val C y=plain ys)
 (hg:C.P.eqGuardType C.P.depth t=false) (he:∀ w,(Op.equal t (.agg xs.toArray) (.agg ys.toArray)).run C.P w = .ok r w):l8 C σ E o (.val (.bool (!r))) :=
 i7 fun M w ρ _ h=>by
  have h1:=h x w9 hx;have h2:=h y w9 hy;rw [ex] at h1;rw [ey] at h2;exact ⟨.bool (!r),by simp [execOp,ho,a3o h1,a3o h2,eqGuard,hg,binOp,he],.val _⟩
theorem N3 {r:Nat} {ae:Array MapEntry} (h:w.heap[r]? = some (.map ae ai)):(getObj r).run P w = .ok (.map ae ai) w:=by
 simp [getObj,Sem.run,h]
theorem T9 (ho:o.op = .makeMap t none) (hk:K (.ret (.map σ.length)) (σ++[.map []])):G9 C σ E o K:=fun M w ρ hr _=>by
 have au:(execOp ρ o).run C.P w = .ok (.value (.map (some w.heap.size))) (w.alloc (.map #[] 0)):=by
  simp [execOp,ho,Instr.makeMap]
 rw [au];have hx:=Ext.alloc hr ⟨w.heap.size,0,0⟩ (.map #[] 0);exact ⟨.map σ.length,_,_,hx,hr.alloc ⟨w.heap.size,0,0⟩ _ (.map []) rfl ⟨#[],0,B0 _ _,⟨rfl,fun i j e e' h=>by simp at h⟩,si_⟩,RV.map (p:=⟨w.heap.size,0,0⟩) a9q,hk⟩
theorem Rel.setObj (hr:Rel C M σ w) {q:Nat} {es es':List (CV × CV)} {dO:Array MapEntry} {dP:Nat} (hp:M.pl[q]? = some p) (am:σ[q]? = some (.map es)) (aI:dO.size=es'.length) (gp:b19 dO) (h:∀ (i:Nat) (x:CV × CV),es'[i]? = some x->∃ e,dO[i]? = some e/\RV M w x.1 e.key/\RV M w x.2 e.val/\e.born < dP) :
 Ext M w M (World.putObj w p.block (.map dO dP))/\Rel C M (σ.set q (.map es')) (World.putObj w p.block (.map dO dP)):=by
 obtain ⟨h1,hf,hc⟩:=hr.obj q p _ hp am;have ab:=h1.lt rfl;have hx:=Ext.putObj (w:=w) (.map dO dP) (hr.nk q p _ hp am rfl) hf hc;refine ⟨hx,hr.putObj hp am rfl hf hc _ ⟨dO,dP,World.putObj_same w _ ab,⟨aI,gp⟩,fun i x hi=>?_⟩⟩;obtain ⟨e,g1,g2,g3,g4⟩:=h i x hi;exact ⟨e,g1,g2.mono hx,g3.mono hx,g4⟩
theorem b19.push {ae:Array MapEntry} (h:b19 ae) (hb:∀ (i:Nat) (e:MapEntry),ae[i]? = some e->e.born < ai) {e0:MapEntry} (h0:e0.born=ai):b19 (ae.push e0):=fun i j e e' hi hj he=>by
 rw [b7s] at hi hj;split at hi<;>split at hj
 ·omega
 ·injection hi with hi
  have:=hb j e' hj;rw [<- hi,h0] at he;omega
 ·injection hj with hj
  have:=hb i e hi;rw [<- hj,h0] at he;omega
 ·exact h i j e e' hi hj he
theorem b19.modify {ae:Array MapEntry} (h:b19 ae) {f:MapEntry->MapEntry} (hf:∀ e,(f e).born=e.born):b19 (ae.modify k f):=fun i j e e' hi hj he=>by
 have key:∀ {i:Nat} {e:MapEntry},(ae.modify k f)[i]? = some e->∃ e1,ae[i]? = some e1/\e1.born=e.born:=fun {i e} hi=>by
  rw [b83] at hi;split at hi
  ·obtain ⟨e1,h1,rfl⟩:=N6.1 hi;exact ⟨e1,h1,(hf e1).symm⟩
  ·exact ⟨e,hi,rfl⟩
 obtain ⟨e1,h1,b1⟩:=key hi;obtain ⟨e2,h2,b2⟩:=key hj;exact h i j e1 e2 h1 h2 (by rw [b1,b2];exact he)
theorem a5z {r:Nat} {ae:Array MapEntry} (o':Obj) (h:w.heap[r]? = some (.map ae ai)):(setObj r o').run P w = .ok () (World.putObj w r o'):=by
 simp [setObj,Sem.run,h,World.putObj]
end
theorem RV.pure (h:∀ b o,M.at b o->M'.at b o/\w'.cell? ⟨b,o,none⟩=w.cell? ⟨b,o,none⟩) (hr:RV M w c v) (hp:r4 c):RV M' w' c v:=by
 induction hr with
 | val v=>exact .val v
 | agg h1 h2 _ ih=>cases hp with | agg hp=>exact .agg h1 h2 fun i c hi=>ih i c hi (hp c (n_2 hi))
 | tup h1 _ ih=>cases hp with | tup hp=>exact .tup h1 fun i c hi=>ih i c hi (hp c (n_2 hi))
 | clo h1 _ ih=>cases hp with | clo hp=>exact .clo h1 fun i c hi=>ih i c hi (hp c (n_2 hi))
 | list vals h1 h2 h3 h4 h5 h6 h7 h8 _ aY ih =>
  cases hp with
  | list hp=>exact .list vals h1 h2 h3 h4 h5 h6 h7 (fun i j r c hi hj=>⟨(h _ _ (h8 i j r c hi hj).1).1,(h _ _ (h8 i j r c hi hj).1).2.trans (h8 i j r c hi hj).2⟩) (fun i j r c hi hj=>ih i j r c hi hj (hp r (n_2 hi) c (n_2 hj))) fun k hk=>by cases hk
 | ptr _=>cases hp
 | cptr _ _ _ _ _=>cases hp
 | eptr _=>cases hp
 | vec _ _ _ _=>cases hp
 | map _=>cases hp
 | yld _=>cases hp
theorem b2J {K:CV->Prop} (ao:∀ a∈args,r4 a) (hc:∀ c,K c->r4 c) (fD:∀ g cells,C.glob g=some cells->∀ c∈cells,r4 c) (h:b8 C f args [] fun r Y=>(∃ c,r = .ret c/\K c)/\Y=[]) (σ:List b9):b8 C f args σ fun r Y=>(∃ c,r = .ret c/\K c)/\Y=σ :=
 fun M w vs hr hn hx=>by
  let LB:Nat->Prop:=fun b=>∃ (k:Nat) (p:Pl) (ob:b9),M.pl[k]? = some p/\σ[k]? = some ob/\ob.live=true/\p.block=b
  let M0:A9:={ pl:=[],full:=M.full,cell:=M.cell,keep:=fun b=>M.keep b\/LB b}
  have aS:∀ b o,M.at b o->M0.at b o/\w.cell? ⟨b,o,none⟩=w.cell? ⟨b,o,none⟩:=fun b o h=>⟨h,rfl⟩;have hLB:∀ b,LB b->b < w.heap.size:=fun b ⟨k,p,ob,hp,hs,hl,hb⟩=>hb ▸ (hr.obj k p ob hp hs).1.lt hl;have bJ:Rel C M0 [] w:=⟨rfl,hr.blk,fun k p ob hp=>by simp [M0] at hp,fun k k' p p' ob aG hp=>by simp [M0] at hp,fun g cells hg=>⟨by
   have:=(hr.glob g cells hg).rv;cases this with
   | cptr vals h1 h2 h3=>exact .cptr vals h1 h2 fun j c hj=>(h3 j c hj).pure aS (fD g cells hg c (n_2 hj)),(hr.glob g cells hg).full,(hr.glob g cells hg).sz⟩,
   fun b hb=>(by
    rcases hb with hb | hb
    ·exact hr.kep b hb
    ·exact hLB b hb),fun k p ob hp=>by simp [M0] at hp⟩
  refine (h M0 w vs bJ hn fun i a hi=>(hx i a hi).pure aS (ao a (n_2 hi))).mono fun e w' he=>?_;cases e with
  | panicked ch =>
   obtain ⟨c',v,Y,M',_,_,_,_,⟨⟨c0,h5,_⟩,_⟩⟩:=he;cases h5
  | outgrown=>exact he
  | returned v =>
   obtain ⟨c',Y,M',h1,h2,h3,⟨⟨c0,h4,hK⟩,rfl⟩⟩:=he;injection h4 with h4
   subst h4
   let M2:A9:={ pl:=M.pl,full:=M'.full,cell:=M'.cell,keep:=M.keep}
   have aK:Ext M w M2 w':=⟨⟨[],by simp [M2]⟩,h1.full,h1.cell,h1.same,h1.sameC,h1.size,h1.drew,h1.os,h1.tape,h1.output,fun b hb=>by
    obtain ⟨k1,k2,k3,k4⟩:=h1.kept b (.inl hb);exact ⟨hb,k2,k3,k4⟩⟩
   refine ⟨c',σ,M2,aK,⟨hr.len,h2.blk,fun k p ob hp hs=>?_,hr.inj,fun g cells hg=>(hr.glob g cells hg).mono aK,fun b hb=>a8L (hr.kep b hb) h1.size,hr.nk⟩,h3.pure (M:=M') (M':=M2) (w':=w') (fun b o h=>⟨h,rfl⟩) (hc _ hK),⟨c',rfl,hK⟩,rfl⟩;by_cases hl:ob.live=true
   ·obtain ⟨k1,k2,k3,k4⟩:=h1.kept p.block (.inr ⟨k,p,ob,hp,hs,hl,rfl⟩);obtain ⟨g1,g2⟩:=hr.obj k p ob hp hs;refine ⟨g1.mono aK k2 (fun _ _ _ o ho=>k4 o ho),?_⟩;cases ob with
    | dead=>trivial
    | tipT t0 n=>exact fun hf=>g2 (k3 hf)
    | _=>exact ⟨fun hf=>g2.1 (k3 hf),fun o ho=>g2.2 o (k4 o ho)⟩
   ·cases ob<;>first|exact ⟨tt,tt⟩ | simp [b9.live] at hl
theorem b5G (ao:∀ a∈args,r4 a) (hc:r4 c) (fD:∀ g cells,C.glob g=some cells->∀ c∈cells,r4 c) (h:b8 C f args [] fun r Y=>r = .ret c/\Y=[]) (σ:List b9):b8 C f args σ fun r Y=>r = .ret c/\Y=σ :=
 (b2J (K:=fun c'=>c'=c) ao (fun _ h=>h ▸ hc) fD (h.mono fun _ _ ⟨h1,h2⟩=>⟨⟨c,h1,rfl⟩,h2⟩) σ).mono fun _ _ ⟨⟨_,h1,h2⟩,h3⟩=>⟨h2 ▸ h1,h3⟩
section
def d0M:CV->Bool
 | .agg _=>true
 | c=>c.one
theorem a38 (h:d0M c=true):c.one=true\/∃ cs,c = .agg cs:=by
 cases c<;>first|exact .inl h|exact .inr ⟨_,rfl⟩|(simp [d0M,CV.one] at h)
def c2w (ps:List (Nat × CV)):Bool:=ps.all fun x=>d0M x.2
theorem a8x (h:c2w ps=true):∀ x∈ps,x.2.one=true\/∃ cs,x.2 = .agg cs:=fun x hx=>a38 (a5D.1 h x hx)
def a75 (C:Ctx) (E:Env):List (Nat × Operand)->List (Nat × CV)
 | []=>[]
 | (i,x)::l=>(i,E.val C x)::a75 C E l
theorem a5O:∀ (l:List (Nat × Operand)),l.map (fun x=>(x.1,E.val C x.2))=a75 C E l
 | []=>rfl
 | (i,x)::l=>by simp [a75,a5O l]
def a8d (E:Env):List (Nat × Operand)->Prop
 | []=>True
 | (_,x)::l=>E.valid x/\a8d E l
theorem a2F {E:Env}:∀ {l:List (Nat × Operand)},a8d E l->∀ x∈l,E.valid x.2
 | [],_,x,h=>by simp at h
 | (i,y)::l,⟨h1,h2⟩,x,h=>by
  rcases J5.1 h with rfl | h
  ·exact h1
  ·exact a2F h2 x h
theorem B3 {fs:Array Field} (cq:Array (Nat × Nat)) {aw:List CV} (ho:o.op = .build t parts) (hv:a8d E parts.toList)
 (hu:∀ w,(underlying t).run C.P w = .ok (.struct fs) w) (hz:∀ w,(zeroValue t).run C.P w = .ok z w) (bO:K9 z=true) (cH:∃ cs,I2 z = .agg cs)
 (aX:∀ w,(fs.mapM fun (f:Field)=>do pure (f.offset,<- sizeOf f.type)).run C.P w = .ok cq w)
 (aM:c2w (a75 C E parts.toList)=true) (cR:b3m cq (I2 z).cells (a75 C E parts.toList)=some aw):l8 C σ E o (.agg aw) :=
 d2E ho (a2F hv) hu hz bO cH aX (a5O _) (a8x aM) cR
theorem A8 {len:Nat} (V:List (List CV)) (ho:o.op = .buildSlice t len parts) (hv:a8d E parts.toList)
 (hu:∀ w,(underlying t).run C.P w = .ok (.slice e) w) (hs:∀ w,(sizeOf e).run C.P w = .ok s w) (hz:∀ w,(zeroValue e).run C.P w = .ok z w) (bO:K9 z=true) (cH:d0M (I2 z)=true) (fX:(I2 z).cells.length=s) (eR:Nat.blt 0 s=true)
 (aj:Nat.ble (len*s) 16777216=true) (aM:c2w (a75 C E parts.toList)=true)
 (cR:a48 (fun i=>some (i*s,s)) ((List.range (len*s)).map fun i=>(I2 z).cells.getD (i%s) default) (a75 C E parts.toList)=some V.flatten) (cN:V.length=len) (bg:(V.all fun r=>Nat.beq r.length s)=true):l8 C σ E o (.list V true none) :=
 b4W ho (by
  have:=a2F hv;have key:∀ l:List Operand,(∀ x∈l,E.valid x)->E.valids l:=by
   intro l
   induction l with
   | nil=>intro _;trivial
   | cons x l ih=>intro h;exact ⟨h x si_,ih fun y hy=>h y (by simp [hy])⟩
  exact key _ fun x hx=>by
   obtain ⟨p,hp,rfl⟩:=F4.1 hx;exact this p hp) hu hs hz bO (a38 cH) fX (by simpa [b2A] using eR) (by have:=nb aj;omega) (a5O _) (a8x aM) cR cN (fun r hr=>a3U (a5D.1 bg r hr))
theorem a5y (ey:E.val C y = .list V nn tok) (bg:∀ r∈V,r.length=s):∀ M w v,Rel C M σ w->RV M w (E.val C y) v->Src C M w V s v:=fun _ _ _ _ h=>by
 rw [ey] at h;exact a07 h bg
theorem a43 {f:α->List CV} (h:∀ a,(f a).length=s) (l:List α):∀ r∈l.map f,r.length=s:=fun r hr=>by
 obtain ⟨a,_,rfl⟩:=F4.1 hr;exact h a
theorem C4 {f:α->List CV} (h:∀ a,∀ c∈f a,r4 c) (l:List α):∀ r∈l.map f,∀ c∈r,r4 c:=fun r hr=>by
 obtain ⟨a,_,rfl⟩:=F4.1 hr;exact h a
theorem i8 {f:α->List CV} {l:List α} {a:α} (h:l[i]? = some a):(l.map f)[i]? = some (f a):=by
 rw [O5,h];rfl
end
def I0 (n:Nat):b9->Prop
 | .dead=>True
 | .boxT _ cells=>∀ c∈cells,Old n c
 | .tipT _ _=>True
 | .vec _ V=>∀ r∈V,∀ c∈r,Old n c
 | .map es=>∀ x∈es,Old n x.1/\Old n x.2
 | .iter aD es=>(∀ x∈aD,Old n x.1/\Old n x.2)/\∀ x∈es,Old n x.1/\Old n x.2
 | .blk _=>True
 | .lp _ _ cs=>∀ x∈cs,Old n x.2
def a4G (n:Nat):List b9->Prop
 | []=>True
 | ob::l=>I0 n ob/\a4G n l
theorem a4G.get:∀ {l:List b9},a4G n l->∀ (k:Nat) (ob:b9),l[k]? = some ob->I0 n ob
 | [],_,_,_,h=>by simp at h
 | o::l,⟨h1,h2⟩,k,ob,h=>by
  rcases k with _ | k
  ·simp at h;subst h;exact h1
  ·exact a4G.get h2 k ob (sp_ h)
def c7Z (n:Nat):List (Nat × CV)->Prop
 | []=>True
 | (_,c)::l=>Old n c/\c7Z n l
theorem Rel.cutObj {ay:List b9} (hr:Rel C M (σ++ay) w) (bP:a4G σ.length σ) (fD:∀ g cells,C.glob g=some cells->∀ c∈cells,r4 c) :
 Rel C (M.cutAt σ.length (σ++ay)) σ w/\Cut σ.length M (M.cutAt σ.length (σ++ay))/\∀ M0 w0,Ext M0 w0 M w->M0.pl.length<=σ.length->Ext M0 w0 (M.cutAt σ.length (σ++ay)) w:=by
 have aN:Cut σ.length M (M.cutAt σ.length (σ++ay)):=⟨rfl,fun _ h=>.inl h,fun _ _ h=>.inr h⟩;have ap:∀ {k:Nat} {p:Pl},(M.cutAt σ.length (σ++ay)).pl[k]? = some p->k < σ.length/\M.pl[k]? = some p:=by
  intro k p hk;have hk:(M.pl.take σ.length)[k]? = some p:=hk;rw [a2d] at hk;split at hk
  ·exact ⟨‹_›,hk⟩
  ·cases hk
 have am:∀ {k:Nat} {ob:b9},σ[k]? = some ob->(σ++ay)[k]? = some ob:=by
  intro k ob h;rw [R3 (n_3.1 h).1];exact h
 have aj:σ.length<=M.pl.length:=by rw [hr.len];simp
 refine ⟨⟨by show (M.pl.take σ.length).length=_;simp;omega,fun b o ha=>?_,fun k p ob hk hs=>?_,fun k k' p p' ob aG hk aJ hs aT cP cp hb=>hr.inj k k' p p' ob aG (ap hk).2 (ap aJ).2 (am hs) (am aT) cP cp hb,fun g cells hg=>?_,hr.kep,fun k p ob hk hs bY=>hr.nk k p ob (ap hk).2 (am hs) bY⟩,aN,fun M0 w0 hx aP=>?_⟩
 ·rcases ha with (ha | ⟨k,p,ob,_,hp,hs,hl,rfl⟩) | ha
  ·exact hr.blk b o (.inl ha)
  ·exact (hr.obj k p ob hp hs).1.lt hl
  ·exact hr.blk b o (.inr ha)
 ·obtain ⟨ab,hp⟩:=ap hk;obtain ⟨h1,h2⟩:=hr.obj k p ob hp (am hs);have ho:=bP.get k ob hs;have gb:ob.live=true->¬ M.full p.block->¬ (M.cutAt σ.length (σ++ay)).full p.block:=fun bY gb h=>by
   rcases h with h | ⟨k',p',aG,aJ,aH,aT,bM,hb⟩
   ·exact gb h
   ·have:=hr.inj k' k p' p aG ob aH hp aT (am hs) bM bY hb;omega
  refine ⟨?_,?_⟩
  ·cases ob with
   | dead=>trivial
   | boxT t0 cells =>
    obtain ⟨arr,ty,e1,e2,e3,e4⟩:=h1;exact ⟨arr,ty,e1,e2,e3,fun i c hi=>(e4 i c hi).cut aN (ho c (n_2 hi))⟩
   | tipT t0 m=>exact h1
   | blk o=>exact h1
   | lp o n cs =>
    obtain ⟨tm,e1,e2,e3⟩:=h1;exact ⟨tm,e1,e2,fun x hi=>(e3 x hi).cut aN (ho x hi)⟩
   | vec s V =>
    obtain ⟨e0,e1,e2,e3,e4,arr,ty,e5,e6,e7⟩:=h1;exact ⟨e0,e1,e2,e3,e4,arr,ty,e5,e6,fun i j r c hi hj=>(e7 i j r c hi hj).cut aN (ho r (n_2 hi) c (n_2 hj))⟩
   | map es =>
    obtain ⟨ae,ai,e1,e2,e3⟩:=h1;refine ⟨ae,ai,e1,e2,fun i x hi=>?_⟩;obtain ⟨e,g1,g2,g3,g4⟩:=e3 i x hi;have:=ho x (n_2 hi);exact ⟨e,g1,g2.cut aN this.1,g3.cut aN this.2,g4⟩
   | iter aD es =>
    obtain ⟨mb,seen,bF,ae,ai,e1,e2,e3,e4,e5,e6,e7,e8,e9⟩:=h1;refine ⟨mb,seen,bF,ae,ai,e1,aN.full _ e2,e3,e4,e5,e6,e7,fun i x hi=>?_,fun i x hi=>?_⟩
    ·obtain ⟨e,g1,g2,g3⟩:=e8 i x hi;have:=ho.2 x (n_2 hi);exact ⟨e,g1,g2.cut aN this.1,g3.cut aN this.2⟩
    ·obtain ⟨hl,j,e,g0,g1,g2,g3⟩:=e9 i x hi;have:=ho.1 x (n_2 hi);exact ⟨hl,j,e,g0,g1,g2.cut aN this.1,g3.cut aN this.2⟩
  ·cases ob with
   | dead=>trivial
   | tipT t0 m=>exact gb rfl h2
   | _=>exact ⟨gb rfl h2.1,h2.2⟩
 ·have:=(hr.glob g cells hg);refine ⟨?_,aN.full _ this.full,this.sz⟩;exact this.rv.cut aN (.cptr fun j c hj=>(fD g cells hg c (n_2 hj)).old)
 ·obtain ⟨l,hl⟩:=hx.pl;refine ⟨⟨l.take (σ.length - M0.pl.length),?_⟩,fun b h=>.inl (hx.full b h),fun b o h=>aN.at (hx.cell b o h),hx.same,hx.sameC,hx.size,hx.drew,hx.os,hx.tape,hx.output,fun b hb=>?_⟩
  ·show M.pl.take σ.length=_;rw [hl,List.take_append,U5 aP]
  ·obtain ⟨k1,k2,k3,k4⟩:=hx.kept b hb;refine ⟨k1,k2,fun f=>?_,k4⟩
   rcases f with f | ⟨k,p,ob,_,hp,hs,bY,rfl⟩
   ·exact k3 f
   ·exact absurd k1 (hr.nk k p ob hp hs bY)
def Env.none:Env:={ h:=fun _=>Option.none,g:=fun _=>.two False False}
def Env.only (l:List (Nat × CV)):Env:=Env.none.puts l
theorem K5.only {a:Act} (hc:Cut k M M') (hf:K5 M w n E a):∀ {l:List (Nat × CV)},E.is l->c7Z k l->K5 M' w n (Env.only l) a
 | [],_,_=>⟨hf.defers,hf.size,fun _ h=>h.elim,fun _ h=>h.elim⟩
 | (t,c)::l,⟨⟨h1,h2⟩,h⟩,⟨h3,h4⟩=>by
  have ih:=K5.only hc hf h h4;refine ⟨hf.defers,hf.size,fun x hx=>?_,fun x hx=>?_⟩
  ·show RV M' w (((Env.only l).putO (some t) c .yes).f x) _;have hx:((Env.only l).putO (some t) c .yes).ok x:=hx;rw [Env.putO_f];rw [Env.putO_ok] at hx
   split
   ·subst x;exact (h2 ▸ hf.rv t h1:RV M w c _).cut hc h3
   ·rename_i az;rw [n_0 az] at hx;exact ih.rv x hx
  ·have hx:((Env.only l).putO (some t) c .yes).un x:=hx;rw [Env.putO_un] at hx;split at hx
   ·exact absurd trivial hx
   ·exact ih.un x hx
section
variable {Q:D5->Env->List b9->Prop}
def Ctx.plain (C:Ctx):Prop:=∀ g cells,C.glob g=some cells->∀ c∈cells,r4 c
def d8f {α:Type} (l:α->List (Nat × CV)) (S:α->List b9) (P:α->Prop) (E':Env) (Y:List b9):Prop :=
 ∃ a ay,P a/\E'.is (l a)/\Y=S a++ay
theorem CWp.upto {c:Code} (hC:C.plain) {l:α->List (Nat × CV)} {P:α->Prop} {E':Env} {Y:List b9} (hE:d8f l S P E' Y) (bP:∀ a,P a->c7Z (S a).length (l a)/\a4G (S a).length (S a)) (k:∀ a,P a->CWp C n c Q (Env.only (l a)) (S a)) (aj:∀ a,P a->M0.pl.length<=(S a).length) {a:Act} (hx:Ext M0 w0 M w) (hr:Rel C M Y w) (hf:K5 M w n E' a) :
 c.wp C.P (W2 C n Q M0 w0) a w:=by
 obtain ⟨x,ay,hP,hE,rfl⟩:=hE;obtain ⟨h1,h2⟩:=bP x hP;obtain ⟨g1,g2,g3⟩:=hr.cutObj h2 hC;have aC:=g3 M0 w0 hx (aj x hP);exact wp_mono (k x hP _ w a g1 (hf.only g2 hE h1)) fun _ _ _=>W2.later aC
theorem j7 {c:Code} (hC:C.plain) (l:α->List (Nat × CV)) (S:α->List b9) (I:α->Prop) (m:α->Nat) (a0:α) (h0:I a0) (hE:E.is (l a0)) {ah:List b9} (am:σ=S a0++ah) (aj:∀ a,I a->σ.length<=(S a).length) (bP:∀ a,I a->c7Z (S a).length (l a)/\a4G (S a).length (S a))
 (cL:∀ (a:α),I a->CWp C n c (D5.next (d8f l S fun a'=>m a' < m a/\I a') Q) (Env.only (l a)) (S a)):CWp C n (.loop c) Q E σ:=fun M w a hr hf=>by
 intro b k cs;have key:∀ d (x:α) M1 w1 a1,m x=d->I x->Ext M w M1 w1->Rel C M1 (S x) w1->K5 M1 w1 n (Env.only (l x)) a1 ->
  ∃ e a' w',W2 C n Q M w e a' w'/\Arrives C.P (lone (b.at a1 (.code c::.inLoop c::k)) cs w1) b k cs e a' w':=by
  intro d
  induction d using Nat.strongRecOn with
  | _ d ih =>
   intro x M1 w1 a1 hd hI hx aF dE;obtain ⟨e,a2,w2,hq,ax⟩:=cL x hI M1 w1 a1 aF dE b (.inLoop c::k) cs;obtain ⟨E',Y,M',h1,h2,h3,h4⟩:=hq;cases e with
   | normal =>
    obtain ⟨x',ay,⟨ab,hI'⟩,hE',rfl⟩:=h4;obtain ⟨o1,o2⟩:=bP x' hI';obtain ⟨g1,g2,g3⟩:=h2.cutObj o2 hC;have aC:=g3 M w (hx.trans h1) (by rw [hr.len];exact aj x' hI');obtain ⟨dF,dG,dH,ce,aZ⟩:=ih (m x') om_ x' _ w2 a2 rfl hI' aC g1 (h3.only g2 hE' o1);exact ⟨dF,dG,dH,ce,.of_steps (Steps.trans ax (.one step_inLoop)) aZ⟩
   | exit id=>exact ⟨_,a2,w2,⟨E',Y,M',hx.trans h1,h2,h3,h4⟩,.pass (x:=.inLoop c) rfl (fun _ _=>.inl si_) ax⟩
   | goto l=>exact ⟨_,a2,w2,⟨E',Y,M',hx.trans h1,h2,h3,h4⟩,.pass (x:=.inLoop c) rfl (fun _ _=>.inl si_) ax⟩
   | ret=>exact ⟨_,a2,w2,⟨E',Y,M',hx.trans h1,h2,h3,h4⟩,.pass (x:=.inLoop c) rfl (fun _ _=>.inl si_) ax⟩
   | panic ch=>exact ⟨_,a2,w2,⟨E',Y,M',hx.trans h1,h2,h3,h4⟩,.pass (x:=.inLoop c) rfl (fun _ _=>.inl si_) ax⟩
   | outgrown=>exact h4.elim
 have hlen0:=aj a0 h0;have dD:ah=[]:=by
  apply b3D;rw [am] at hlen0;simp at hlen0;omega
 subst dD;rw [a1k] at am;subst am;obtain ⟨o1,o2⟩:=bP a0 h0;have hcut0:Cut (S a0).length M M:=⟨by rw [<- hr.len,a57],fun _ h=>h,fun _ _ h=>.inr h⟩;obtain ⟨e,a',w',hq,ax⟩:=key _ a0 M w a rfl h0 (Ext.refl M w) hr (hf.only hcut0 hE o1);exact ⟨e,a',w',hq,.of_steps (.one step_loop) ax⟩
theorem N8 {x y:Code} (hC:C.plain) (l:α->List (Nat × CV)) (S:α->List b9) (P:α->Prop) (aj:∀ a,P a->σ.length<=(S a).length) (bP:∀ a,P a->c7Z (S a).length (l a)/\a4G (S a).length (S a)) (h:CWp C n x (D5.next (d8f l S P) Q) E σ) (k:∀ a,P a->CWp C n y Q (Env.only (l a)) (S a)):CWp C n (.seq x y) Q E σ:=fun M w a hr hf=>by
 refine wp_seq (wp_mono (h M w a hr hf) fun e a' w' hl=>?_);obtain ⟨E',Y,M',h1,h2,h3,h4⟩:=hl;cases e with
 | normal=>exact CWp.upto hC h4 bP k (fun a ha=>by rw [hr.len];exact aj a ha) h1 h2 h3
 | _=>exact ⟨E',Y,M',h1,h2,h3,h4⟩
end
def b48 (n:Nat):List CV->Prop
 | []=>True
 | c::l=>Old n c/\b48 n l
theorem u0 {n:Nat}:∀ {cells:List CV},b48 n cells->I0 n (.box cells)
 | [],_=>fun c h=>by simp at h
 | x::l,⟨h1,h2⟩=>fun c h=>by
  rcases J5.1 h with rfl | h
  ·exact h1
  ·exact u0 h2 c h
theorem U2 {c0:CV} (h:c=c0) (hp:r4 c0):Cls n σ c c0:=by
 subst h;exact .pure hp
theorem j8 {x y:Bool} (h:x=y):Cls n σ (.val (.bool x)) (.val (.bool y)):=h ▸ .old (.val _)
theorem D2 {k:IntKind} {x y:Int} (h:x=y):Cls n σ (.val (.int k x)) (.val (.int k y)):=h ▸ .old (.val _)
theorem D8 {x y:ByteArray} (h:x=y):Cls n σ (.val (.string x)) (.val (.string y)):=h ▸ .old (.val _)
theorem Y8 {β:Type} (f:α->β) (l:List α):((l.map f).length:Int)=(l.length:Int):=by simp
def O4:List CV->Prop
 | []=>True
 | c::l=>r4 c/\O4 l
theorem O4.all:∀ {l:List CV},O4 l->∀ c∈l,r4 c
 | [],_,c,h=>by simp at h
 | x::l,⟨h1,h2⟩,c,h=>by
  rcases J5.1 h with rfl | h
  ·exact h1
  ·exact O4.all h2 c h
theorem O6 {f:α->List CV} (h:∀ a,O4 (f a)) (l:List α) (nn:Bool):r4 (.list (l.map f) nn none):=.list (C4 (fun a=>(h a).all) l)
theorem b8.anyw (hC:C.plain) (ao:O4 args) (hc:r4 c) (h:b8 C f args [] fun r Y=>r = .ret c/\Y=[]) (σ:List b9):b8 C f args σ fun r Y=>r = .ret c/\Y=σ :=
 b5G ao.all hc hC h σ
def CV.fgt1:CV->CV
 | .list V nn _=>.list V nn none
 | c=>c
def CV.fgt:CV->CV
 | .agg cs=>.agg (cs.map CV.fgt1)
 | c=>c.fgt1
theorem CV.one_fgt1 (c:CV):c.fgt1.one=c.one:=by cases c<;>rfl
theorem RV.fgt1 (h:RV M w c v):RV M w c.fgt1 v:=by
 cases h with
 | list vals h1 h2 h3 h4 h5 h6 h7 h8 h9 aY=>exact .list vals h1 h2 h3 h4 h5 h6 h7 h8 h9 fun k hk=>by cases hk
 | val v=>exact .val v
 | agg h1 h2 h3=>exact .agg h1 h2 h3
 | tup h1 h3=>exact .tup h1 h3
 | clo h1 h3=>exact .clo h1 h3
 | ptr hk=>exact .ptr hk
 | cptr vals h1 h2 h3=>exact .cptr vals h1 h2 h3
 | eptr hk=>exact .eptr hk
 | vec hk h1 h2 h3=>exact .vec hk h1 h2 h3
 | map hk=>exact .map hk
 | yld hk=>exact .yld hk
theorem RV.fgt (h:RV M w c v):RV M w c.fgt v:=by
 cases h with
 | agg h1 h2 h3 =>
  refine .agg (sp_ h1) (fun c hm=>?_) (fun i c hi=>?_)
  ·obtain ⟨c0,h0,rfl⟩:=F4.1 hm;rw [CV.one_fgt1];exact h2 c0 h0
  ·rw [O5,N6] at hi;obtain ⟨c0,h0,rfl⟩:=hi;exact (h3 i c0 h0).fgt1
 | list vals h1 h2 h3 h4 h5 h6 h7 h8 h9 aY=>exact (RV.list vals h1 h2 h3 h4 h5 h6 h7 h8 h9 aY).fgt1
 | val v=>exact .val v
 | tup h1 h3=>exact .tup h1 h3
 | clo h1 h3=>exact .clo h1 h3
 | ptr hk=>exact .ptr hk
 | cptr vals h1 h2 h3=>exact .cptr vals h1 h2 h3
 | eptr hk=>exact .eptr hk
 | vec hk h1 h2 h3=>exact .vec hk h1 h2 h3
 | map hk=>exact .map hk
 | yld hk=>exact .yld hk
section
variable {Q:D5->Env->List b9->Prop}
theorem a1Z (h:b8 C f (args.map CV.fgt) σ K):b8 C f args σ K:=fun M w vs hr aI hx =>
 h M w vs hr (sp_ aI) fun i c hi=>by
  rw [O5,N6] at hi;obtain ⟨c0,h0,rfl⟩:=hi;exact (hx i c0 h0).fgt
theorem c5 (ho:o.op = .call { callee:=.value (.func f),args:=xs,argTypes:=ts}) (aA:∀ args w,(callFunc f args).run C.P w = .ok (.enter f args) w)
 (hv:E.valids xs.toList) (h:b8 C f av σ fun r Y=>r = .ret c/\Y=σ) (ea:(E.vals C xs.toList).map CV.fgt=av):l8 C σ E o c :=
 d7C ho aA hv rfl (a1Z (ea ▸ h))
theorem e1c {b:Int} (ha:0<=a) (hb:0 < b) (hr:a<=9223372036854775807):a68 .quo .i64 a b=some (.int .i64 (a / b)):=by
 have h1:a.tdiv b=a / b:=c3Z ha;have h2:0<=a / b:=Int.ediv_nonneg ha om_;have h3:a / b<=a:=Int.ediv_le_self _ ha;have h4:b≠0:=by omega
 simp only [a68,h1,n_0 h4];rw [a95 om_ om_]
theorem c82 {b:Int} (hb:b≠0):a68 .rem .i64 a b=some (.int .i64 (a.tmod b)):=by simp [a68,hb]
theorem c1G {b:Int} (ha:0<=a) (hb:0 < b):a68 .rem .i64 a b=some (.int .i64 (a%b)):=by
 rw [c82 om_,c9p ha]
theorem r6 (h:O4 cs):r4 (.agg cs):=.agg h.all
theorem D4 (h:O4 cs):r4 (.tup cs):=.tup h.all
end
inductive C7 (L:Nat) (ak:List Nat):CV->CV->Prop where
 | old {c:CV}:Old L c->C7 L ak c c
 | agg {cs bc:List CV}:cs.length=bc.length->(∀ (i:Nat) (c c':CV),cs[i]? = some c->bc[i]? = some c'->C7 L ak c c')->C7 L ak (.agg cs) (.agg bc)
 | list {V:List (List CV)} {nn:Bool} {tok gc:Option Nat}:(∀ r∈V,∀ c∈r,Old L c)->(∀ j,gc=some j->∃ k,tok=some k/\ak[j]? = some k)->C7 L ak (.list V nn tok) (.list V nn gc)
 | ptr {k j off:Nat}:ak[j]? = some k->C7 L ak (.ptr k off) (.ptr j off)
 | eptr {k j i off:Nat}:ak[j]? = some k->C7 L ak (.eptr k i off) (.eptr j i off)
 | vec {k j off len:Nat}:ak[j]? = some k->C7 L ak (.vec k off len) (.vec j off len)
 | map {k j:Nat}:ak[j]? = some k->C7 L ak (.map k) (.map j)
 | yld {k j:Nat}:ak[j]? = some k->C7 L ak (.yld k) (.yld j)
theorem C7.same (h:c=c') (ho:Old L c'):C7 L ak c c':=h ▸ .old (h ▸ ho)
theorem C7.one (h:C7 L ak c c'):c'.one=c.one:=by
 cases h<;>rfl
def A9.ren (M:A9) (ak:List Nat):A9:={ M with pl:=ak.map fun k=>M.pl.getD k ⟨0,0,0⟩}
theorem a2y (hj:ak[j]? = some k) (hk:M.pl[k]? = some p):(M.ren ak).pl[j]? = some p:=by
 show (ak.map fun k=>M.pl.getD k ⟨0,0,0⟩)[j]? = some p;rw [O5,hj];simp [hk]
theorem Z0 (bB:∀ k,k < L->ak[k]? = some k) (hL:L<=M.pl.length) (h:RV M w c v) (ho:Old L c):RV (M.ren ak) w c v:=by
 have hc:Cut L M { M with pl:=M.pl.take L}:=⟨rfl,fun _ h=>h,fun _ _ h=>.inr h⟩;have h1:=h.cut hc ho;refine RV.mono (M:={ M with pl:=M.pl.take L}) (M':=M.ren ak) (w:=w) (w':=w) ⟨⟨(M.ren ak).pl.drop L,?_⟩,fun _ h=>h,fun _ _ h=>.inr h,fun _ _=>rfl,fun _ _ _=>rfl,n_7 _,T1,rfl,rfl,rfl,fun _ h=>⟨h,rfl,id,fun _=>id⟩⟩ h1;have:(M.ren ak).pl.take L=M.pl.take L:=by
  refine b35 fun i=>?_;rw [a2d,a2d]
  split
  ·rename_i hi;have hp:M.pl[i]? = some (M.pl[i]'om_):=by simp
   rw [a2y (bB i hi) hp,hp]
  ·rfl
 show (M.ren ak).pl=M.pl.take L++_;rw [<- this,b3s]
theorem RV.ren (bB:∀ k,k < L->ak[k]? = some k) (hL:L<=M.pl.length) (h:RV M w c v) (hr:C7 L ak c c'):RV (M.ren ak) w c' v:=by
 induction hr generalizing v with
 | old ho=>exact Z0 bB hL h ho
 | agg hl fZ ih =>
  cases h with
  | agg h1 h2 h3 =>
   refine .agg om_ (fun c hcm=>?_) (fun i c' hi=>?_)
   ·obtain ⟨i,hi⟩:=M6.1 hcm;obtain ⟨y,hy⟩:=r7 hl hi;rw [(fZ i y c hy hi).one];exact h2 y (n_2 hy)
   ·obtain ⟨y,hy⟩:=r7 hl hi;exact ih i y c' hy hi (h3 i y hy)
 | list eE cz =>
  cases h with
  | list vals h1 h2 h3 h4 h5 h6 h7 h8 h9 aY =>
   refine .list vals h1 h2 h3 h4 h5 h6 h7 h8 (fun i j r c hi hj=>Z0 bB hL (h9 i j r c hi hj) (eE r (n_2 hi) c (n_2 hj))) (fun j hj=>?_);obtain ⟨k,hk,hs⟩:=cz j hj;obtain ⟨s',hp,aL⟩:=aY k hk;exact ⟨s',a2y hs hp,aL⟩
 | ptr hs=>cases h with | ptr hk=>exact .ptr (a2y hs hk)
 | eptr hs=>cases h with | eptr hk=>exact .eptr (a2y hs hk)
 | vec hs=>cases h with | vec hk h1 h2 h3=>exact .vec (a2y hs hk) h1 h2 h3
 | map hs=>cases h with | map hk=>exact .map (a2y hs hk)
 | yld hs=>cases h with | yld hk=>exact .yld (a2y hs hk)
def c0B (L:Nat) (ak:List Nat):List CV->List CV->Prop
 | [],[]=>True
 | c::l,c'::l'=>C7 L ak c c'/\c0B L ak l l'
 | _,_=>False
theorem c0B.len:∀ {l l':List CV},c0B L ak l l'->l.length=l'.length
 | [],[],_=>rfl
 | _::_,_::_,h=>n_8 (· + 1) h.2.len
theorem c0B.get:∀ {l l':List CV},c0B L ak l l'->∀ (i:Nat) (c c':CV),l[i]? = some c->l'[i]? = some c'->C7 L ak c c'
 | [],[],_,i,c,c',h,_=>by simp at h
 | _::_,_::_,h,0,c,c',h1,h2=>by
  simp at h1 h2;subst h1;subst h2;exact h.1
 | _::_,_::_,h,i+1,c,c',h1,h2=>h.2.get i c c' (sp_ h1) (sp_ h2)
inductive b1g (L:Nat) (ak:List Nat):b9->b9->Prop where
 | dead {ob:b9}:b1g L ak ob .dead
 | same {ob aG:b9}:ob=aG->I0 L aG->b1g L ak ob aG
 | box {t0:Option TypeId} {cells bR:List CV}:c0B L ak cells bR->b1g L ak (.boxT t0 cells) (.boxT t0 bR)
theorem R5.ren (bB:∀ k,k < L->ak[k]? = some k) (hL:L<=M.pl.length) {aG:b9} (h:R5 M w p ob/\a7d M p ob) (hr:b1g L ak ob aG):R5 (M.ren ak) w p aG/\a7d (M.ren ak) p aG:=by
 obtain ⟨h1,h2⟩:=h;cases hr with
 | dead=>exact ⟨tt,tt⟩
 | same he ho =>
  subst he;refine ⟨?_,by cases ob<;>exact h2⟩;cases ob with
  | dead=>trivial
  | boxT t0 cells =>
   obtain ⟨arr,ty,e1,e2,e3,e4⟩:=h1;exact ⟨arr,ty,e1,e2,e3,fun i c hi=>Z0 bB hL (e4 i c hi) (ho c (n_2 hi))⟩
  | tipT t0 m=>exact h1
  | blk o=>exact h1
  | lp o n cs =>
   obtain ⟨tm,e1,e2,e3⟩:=h1;exact ⟨tm,e1,e2,fun x hi=>Z0 bB hL (e3 x hi) (ho x hi)⟩
  | vec s V =>
   obtain ⟨e0,e1,e2,e3,e4,arr,ty,e5,e6,e7⟩:=h1;exact ⟨e0,e1,e2,e3,e4,arr,ty,e5,e6,fun i j r c hi hj=>Z0 bB hL (e7 i j r c hi hj) (ho r (n_2 hi) c (n_2 hj))⟩
  | map es =>
   obtain ⟨ae,ai,e1,e2,e3⟩:=h1;refine ⟨ae,ai,e1,e2,fun i x hi=>?_⟩;obtain ⟨e,g1,g2,g3,g4⟩:=e3 i x hi;have:=ho x (n_2 hi);exact ⟨e,g1,Z0 bB hL g2 this.1,Z0 bB hL g3 this.2,g4⟩
  | iter aD es =>
   obtain ⟨mb,seen,bF,ae,ai,e1,e2,e3,e4,e5,e6,e7,e8,e9⟩:=h1;refine ⟨mb,seen,bF,ae,ai,e1,e2,e3,e4,e5,e6,e7,fun i x hi=>?_,fun i x hi=>?_⟩
   ·obtain ⟨e,g1,g2,g3⟩:=e8 i x hi;have:=ho.2 x (n_2 hi);exact ⟨e,g1,Z0 bB hL g2 this.1,Z0 bB hL g3 this.2⟩
   ·obtain ⟨hl,j,e,g0,g1,g2,g3⟩:=e9 i x hi;have:=ho.1 x (n_2 hi);exact ⟨hl,j,e,g0,g1,Z0 bB hL g2 this.1,Z0 bB hL g3 this.2⟩
 | box hc =>
  obtain ⟨arr,ty,e1,e2,e3,e4⟩:=h1;refine ⟨⟨arr,ty,e1,by rw [e2,hc.len],fun c hm=>?_,fun i c' hi=>?_⟩,h2⟩
  ·obtain ⟨i,hi⟩:=M6.1 hm;obtain ⟨y,hy⟩:=r7 hc.len hi;rw [(hc.get i y c hy hi).one];exact e3 y (n_2 hy)
  ·obtain ⟨y,hy⟩:=r7 hc.len hi;exact (e4 i y hy).ren bB hL (hc.get i y c' hy hi)
def b8l (L:Nat) (all:List Nat) (σ:List b9):List Nat->List b9->Prop
 | [],[]=>True
 | k::ks,ob::obs=>(ob = .dead\/∃ db,σ[k]? = some db/\b1g L all db ob)/\b8l L all σ ks obs
 | _,_=>False
theorem b8l.len {all:List Nat}:∀ {ks:List Nat} {obs:List b9},b8l L all σ ks obs->ks.length=obs.length
 | [],[],_=>rfl
 | _::_,_::_,h=>n_8 (· + 1) h.2.len
variable {len:Nat}
theorem b8l.get {all:List Nat}:∀ {ks:List Nat} {obs:List b9},b8l L all σ ks obs->∀ (j k:Nat) (ob:b9),ks[j]? = some k->obs[j]? = some ob->ob = .dead\/∃ db,σ[k]? = some db/\b1g L all db ob
 | [],[],_,j,k,ob,h,_=>by simp at h
 | _::_,_::_,h,0,k,ob,h1,h2=>by
  simp at h1 h2;subst h1;subst h2;exact h.1
 | _::_,_::_,h,j+1,k,ob,h1,h2=>h.2.get j k ob (sp_ h1) (sp_ h2)
def a0t:List Nat->Bool
 | []=>true
 | k::l=>!l.contains k && a0t l
theorem b1A:∀ {l:List Nat},a0t l=true->∀ (i j k:Nat),l[i]? = some k->l[j]? = some k->i=j
 | [],_,i,j,k,h,_=>by simp at h
 | x::l,h,i,j,k,h1,h2=>by
  simp only [a0t,U6,b7W,List.contains_eq_mem,b2R] at h
  rcases i with _ | i<;>rcases j with _ | j
  ·rfl
  ·simp at h1 h2;subst h1;exact absurd (n_2 h2) h.1
  ·simp at h1 h2;subst h2;exact absurd (n_2 h1) h.1
  ·exact n_8 (· + 1) (b1A h.2 i j k (sp_ h1) (sp_ h2))
def a6l (L:Nat) (ak:List Nat):Bool:=Nat.ble L ak.length && (List.range L).all fun k=>Nat.beq (ak.getD k 0) k
theorem a3d (h:a6l L ak=true) (k:Nat) (hk:k < L):ak[k]? = some k:=by
 simp only [a6l,U6,a5D,List.mem_range] at h;have h1:=nb h.1;have h2:=a3U (h.2 k hk);have ab:k < ak.length:=by omega
 rw [a09 ab];simpa [ab] using h2
theorem Rel.ren {S:List b9} (hC:C.plain) (hr:Rel C M σ w) (bB:a6l L ak=true) (co:a0t ak=true) (hL:L<=M.pl.length) (hS:b8l L ak σ ak S):Rel C (M.ren ak) S w:=by
 have hk:=a3d bB;have aX:∀ {j:Nat} {p:Pl} {ob:b9},(M.ren ak).pl[j]? = some p->S[j]? = some ob->∃ k,ak[j]? = some k/\(ob = .dead\/∃ db,σ[k]? = some db/\M.pl[k]? = some p/\b1g L ak db ob):=by
  intro j p ob hp hs;have aH:(ak.map fun k=>M.pl.getD k ⟨0,0,0⟩)[j]? = some p:=hp;rw [O5,N6] at aH;obtain ⟨k,hk,aH⟩:=aH;refine ⟨k,hk,?_⟩
  rcases hS.get j k ob hk hs with rfl | ⟨db,h1,h2⟩
  ·exact .inl rfl
  ·have ab:k < M.pl.length:=by rw [hr.len];exact (n_3.1 h1).1
   refine .inr ⟨db,h1,?_,h2⟩;rw [<- aH];simp [ab]
 have cg:∀ {db ob:b9},b1g L ak db ob->ob.live=true->db.live=true:=by
  intro db ob h hl;cases h with
  | dead=>cases hl
  | same he _=>exact he ▸ hl
  | box _=>rfl
 refine ⟨by show (ak.map _).length=_;rw [O3,hS.len],hr.blk,fun j p ob hp hs=>?_,fun j j' p p' ob aG hp aH hs aT hl bM hb=>?_,fun g cells hg=>?_,hr.kep,fun j p ob hp hs hl=>?_⟩
 ·obtain ⟨k,bw,h | ⟨db,h1,h2,h3⟩⟩:=aX hp hs
  ·subst h;exact ⟨tt,tt⟩
  ·exact R5.ren hk hL (hr.obj k p db h2 h1) h3
 ·obtain ⟨k,bw,h | ⟨db,h1,h2,h3⟩⟩:=aX hp hs
  ·subst h;cases hl
  ·obtain ⟨k',hk1',h' | ⟨ob0',eF,dC,h3'⟩⟩:=aX aH aT
   ·subst h';cases bM
   ·have e:=hr.inj k k' p p' db ob0' h2 dC h1 eF (cg h3 hl) (cg h3' bM) hb;subst e;exact b1A co j j' k bw hk1'
 ·refine ⟨?_,(hr.glob g cells hg).full,(hr.glob g cells hg).sz⟩;exact Z0 hk hL (hr.glob g cells hg).rv (.cptr fun j c hj=>(hC g cells hg c (n_2 hj)).old)
 ·obtain ⟨k,bw,h | ⟨db,h1,h2,h3⟩⟩:=aX hp hs
  ·subst h;cases hl
  ·exact hr.nk k p db h2 h1 (cg h3 hl)
theorem Ext.ren (hx:Ext M0 w0 M w) (bB:a6l L ak=true) (hL0:M0.pl.length=L):Ext M0 w0 (M.ren ak) w:=by
 have hk:=a3d bB;obtain ⟨l,hl⟩:=hx.pl;refine ⟨⟨(M.ren ak).pl.drop L,?_⟩,hx.full,hx.cell,hx.same,hx.sameC,hx.size,hx.drew,hx.os,hx.tape,hx.output,hx.kept⟩;have:(M.ren ak).pl.take L=M0.pl:=by
  refine b35 fun i=>?_;rw [a2d]
  split
  ·rename_i hi;have hp0:M0.pl[i]? = some (M0.pl[i]'om_):=by simp
   rw [a2y (hk i hi) (hx.get hp0),hp0]
  ·rw [b0N om_]
 rw [<- this,b3s]
def Env.isR (E:Env) (L:Nat) (ak:List Nat):List (Nat × CV)->Prop
 | []=>True
 | (t,c)::l=>(E.ok t/\C7 L ak (E.f t) c)/\E.isR L ak l
theorem K5.onlyR {a:Act} (bB:a6l L ak=true) (hL:L<=M.pl.length) (hf:K5 M w n E a):∀ {l:List (Nat × CV)},E.isR L ak l->K5 (M.ren ak) w n (Env.only l) a
 | [],_=>⟨hf.defers,hf.size,fun _ h=>h.elim,fun _ h=>h.elim⟩
 | (t,c)::l,⟨⟨h1,h2⟩,h⟩=>by
  have ih:=K5.onlyR bB hL hf h;refine ⟨hf.defers,hf.size,fun x hx=>?_,fun x hx=>?_⟩
  ·show RV (M.ren ak) w (((Env.only l).putO (some t) c .yes).f x) _;have hx:((Env.only l).putO (some t) c .yes).ok x:=hx;rw [Env.putO_f];rw [Env.putO_ok] at hx
   split
   ·subst x;exact (hf.rv t h1).ren (a3d bB) hL h2
   ·rename_i az;rw [n_0 az] at hx;exact ih.rv x hx
  ·have hx:((Env.only l).putO (some t) c .yes).un x:=hx;rw [Env.putO_un] at hx;split at hx
   ·exact absurd trivial hx
   ·exact ih.un x hx
section
variable {Q:D5->Env->List b9->Prop}
def a9a {α:Type} (L:Nat) (l:α->List (Nat × CV)) (S:α->List b9) (P:α->Prop) (E':Env) (Y:List b9):Prop :=
 ∃ (a:α) (ak:List Nat),P a/\(a6l L ak=true/\a0t ak=true)/\E'.isR L ak (l a)/\b8l L ak Y ak (S a)
theorem a9a.go {c:Code} (hC:C.plain) {l:α->List (Nat × CV)} {P:α->Prop} {E':Env} {Y:List b9} (hE:a9a L l S P E' Y) (k:∀ a,P a->CWp C n c Q (Env.only (l a)) (S a)) (aj:M0.pl.length=L) {a:Act} (hx:Ext M0 w0 M w) (hr:Rel C M Y w) (hf:K5 M w n E' a) :
 c.wp C.P (W2 C n Q M0 w0) a w:=by
 obtain ⟨x,ak,hP,⟨h1,h2⟩,hE,hS⟩:=hE;have hL:L<=M.pl.length:=by
  obtain ⟨l,hl⟩:=hx.pl;rw [hl];simp;omega
 exact wp_mono (k x hP _ w a (hr.ren hC h1 h2 hL hS) (hf.onlyR h1 hL hE)) fun _ _ _=>W2.later (hx.ren h1 aj)
theorem a69 {x y:Code} (hC:C.plain) (L:Nat) (hL:Nat.beq L σ.length=true) (l:α->List (Nat × CV)) (S:α->List b9) (P:α->Prop) (h:CWp C n x (D5.next (a9a L l S P) Q) E σ) (k:∀ a,P a->CWp C n y Q (Env.only (l a)) (S a)):CWp C n (.seq x y) Q E σ:=fun M w a hr hf=>by
 refine wp_seq (wp_mono (h M w a hr hf) fun e a' w' hl=>?_);obtain ⟨E',Y,M',h1,h2,h3,h4⟩:=hl;cases e with
 | normal=>exact a9a.go hC h4 k (by rw [hr.len];exact (a3U hL).symm) h1 h2 h3
 | _=>exact ⟨E',Y,M',h1,h2,h3,h4⟩
theorem A6 {c:Code} (hC:C.plain) (L:Nat) (hL:Nat.beq L σ.length=true) (l:α->List (Nat × CV)) (S:α->List b9) (I:α->Prop) (m:α->Nat) (h0:a9a L l S I E σ)
 (cL:∀ (a:α),I a->CWp C n c (D5.next (a9a L l S fun a'=>m a' < m a/\I a') Q) (Env.only (l a)) (S a)):CWp C n (.loop c) Q E σ:=fun M w a hr hf=>by
 intro b k cs;have hL:=a3U hL;have key:∀ d (x:α) M1 w1 a1,m x=d->I x->Ext M w M1 w1->Rel C M1 (S x) w1->K5 M1 w1 n (Env.only (l x)) a1 ->
  ∃ e a' w',W2 C n Q M w e a' w'/\Arrives C.P (lone (b.at a1 (.code c::.inLoop c::k)) cs w1) b k cs e a' w':=by
  intro d
  induction d using Nat.strongRecOn with
  | _ d ih =>
   intro x M1 w1 a1 hd hI hx aF dE;obtain ⟨e,a2,w2,hq,ax⟩:=cL x hI M1 w1 a1 aF dE b (.inLoop c::k) cs;obtain ⟨E',Y,M',h1,h2,h3,h4⟩:=hq;cases e with
   | normal =>
    obtain ⟨x',ak,⟨ab,hI'⟩,⟨g1,g2⟩,hE',hS⟩:=h4;have aC:=hx.trans h1;have gB:L<=M'.pl.length:=by
     obtain ⟨l,hl⟩:=aC.pl;rw [hl];simp;rw [hr.len,hL];omega
    obtain ⟨dF,dG,dH,ce,aZ⟩:=ih (m x') om_ x' _ w2 a2 rfl hI' (aC.ren g1 (by rw [hr.len,hL])) (h2.ren hC g1 g2 gB hS) (h3.onlyR g1 gB hE');exact ⟨dF,dG,dH,ce,.of_steps (Steps.trans ax (.one step_inLoop)) aZ⟩
   | exit id=>exact ⟨_,a2,w2,⟨E',Y,M',hx.trans h1,h2,h3,h4⟩,.pass (x:=.inLoop c) rfl (fun _ _=>.inl si_) ax⟩
   | goto l=>exact ⟨_,a2,w2,⟨E',Y,M',hx.trans h1,h2,h3,h4⟩,.pass (x:=.inLoop c) rfl (fun _ _=>.inl si_) ax⟩
   | ret=>exact ⟨_,a2,w2,⟨E',Y,M',hx.trans h1,h2,h3,h4⟩,.pass (x:=.inLoop c) rfl (fun _ _=>.inl si_) ax⟩
   | panic ch=>exact ⟨_,a2,w2,⟨E',Y,M',hx.trans h1,h2,h3,h4⟩,.pass (x:=.inLoop c) rfl (fun _ _=>.inl si_) ax⟩
   | outgrown=>exact h4.elim
 obtain ⟨x,ak,hP,⟨g1,g2⟩,hE,hS⟩:=h0;have gB:L<=M.pl.length:=by rw [hr.len,hL];omega
 obtain ⟨e,a',w',hq,ax⟩:=key _ x _ w a rfl hP ((Ext.refl M w).ren g1 (by rw [hr.len,hL])) (hr.ren hC g1 g2 gB hS) (hf.onlyR g1 gB hE);exact ⟨e,a',w',hq,.of_steps (.one step_loop) ax⟩
def C2:Nat->Nat->Option Nat
 | 0,_=>none
 | _+1,p=>some p
def o8:Nat->b9
 | 0=>.dead
 | m+1=>.tip (m+1)
def gnn:Nat->Bool
 | 0=>false
 | _+1=>true
theorem a4E (n m:Nat):I0 n (o8 m):=by cases m<;>trivial
end
theorem C7.grow {f:α->List CV} {p:Nat} {l:List α} (h:∀ a,b48 L (f a)) (hs:ak[p]? = some k):C7 L ak (.list (l.map f) (gnn m) (C2 m k)) (.list (l.map f) (gnn m) (C2 m p)):=by
 refine .list (fun r hr c hc=>?_) (fun j hj=>?_)
 ·obtain ⟨a,_,rfl⟩:=F4.1 hr;exact u0 (h a) c hc
 ·cases m with
  | zero=>cases hj
  | succ m=>cases hj;exact ⟨k,rfl,hs⟩
section
variable {Q:D5->Env->List b9->Prop}
theorem a5A {ti:TypeInfo} (rows':List (List CV)) (n':Nat) (ho:o.op = .call { callee:=.builtin .append,args:=#[x,y],argTypes:=#[t,t]}) (hx:E.valid x) (hy:E.valid y) (ex:E.val C x = .vec k 0 len)
 (aQ:∀ M w v,Rel C M σ w->RV M w (E.val C y) v->Src C M w new s v) (hu:∀ w,(underlying t).run C.P w = .ok (.slice e) w) (hs:∀ w,(sizeOf e).run C.P w = .ok s w) (df:∀ w,(typeInfo e).run C.P w = .ok ti w) (hz:∀ w,(zeroValue e).run C.P w = .ok z w) (bI:z.cells.size=s)
 (aJ:σ[k]? = some (.vec s V)) (aj:len=V.length) (dg:new≠[]) (hb:(V.length+new.length)*ti.bytes<=140737488355328) (bi:V.length+new.length<=9223372036854775807) (he:V++new=rows') (hn:V.length+new.length=n')
 (hk:K (.ret (.vec σ.length 0 n')) (σ.set k .dead++[.vec s rows'])):G9 C σ E o K:=by
 subst aj he hn;exact c1z ho hx hy ex aQ hu hs df hz bI aJ dg hb bi hk
theorem b2x (rows':List (List CV)) (n':Nat) (ho:o.op = .call { callee:=.builtin .append,args:=#[x,y],argTypes:=#[t,t]}) (hx:E.valid x) (hy:E.valid y) (ex:E.val C x = .vec k off len)
 (aQ:∀ M w v,Rel C M σ w->RV M w (E.val C y) v->Src C M w new s v) (hu:∀ w,(underlying t).run C.P w = .ok (.slice e) w) (hs:∀ w,(sizeOf e).run C.P w = .ok s w) (aJ:σ[k]? = some (.vec s V)) (hl:off+len+new.length<=V.length) (he:Q8 V (off+len) new=rows') (hn:len+new.length=n') {Y:List b9} (am:σ.set k (.vec s rows')=Y)
 (hk:K (.ret (.vec k off n')) Y):G9 C σ E o K :=
 b5F ho hx hy ex aQ hu hs aJ hl (by rw [he,am,hn];exact hk)
theorem d0r (rows':List (List CV)) (ho:o.op = .call { callee:=.builtin .clear,args:=#[x],argTypes:=#[t]}) (hx:E.valid x) (ex:E.val C x = .vec k off len)
 (hu:∀ w,(underlying t).run C.P w = .ok (.slice e) w) (hz:∀ w,(zeroValue e).run C.P w = .ok z w) (bO:K9 z=true) (cH:(I2 z).one=true\/∃ cs,I2 z = .agg cs) (bI:z.cells.size=s) (aJ:σ[k]? = some (.vec s V)) (hl:off+len<=V.length) (he:Q8 V off (List.replicate len (c0U z))=rows') {Y:List b9} (am:σ.set k (.vec s rows')=Y)
 (hk:K (.ret (.val (.tuple #[]))) Y):G9 C σ E o K :=
 d3I ho hx ex hu hz bO cH bI aJ hl (by rw [he,am];exact hk)
theorem P8 (rows':List (List CV)) (ho:o.op = .store t x y) (hx:E.valid x) (hy:E.valid y) (ex:E.val C x = .eptr k i off) (ey:E.val C y=c) (hs:∀ w,(sizeOf t).run C.P w = .ok m w)
 (hc:c.one=true\/∃ cs,c = .agg cs) (hk:σ[k]? = some (.vec s V)) (hi:V[i]? = some r) (hl:c.cells.length=m) (ab:off+m<=r.length) (he:V.set i (P4 r off c.cells)=rows') {Y:List b9} (am:σ.set k (.vec s rows')=Y) (h:K (.ret (.val undef)) Y):G9 C σ E o K :=
 c5E ho hx hy ex ey hs hc hk hi hl ab (by rw [he,am];exact h)
theorem c4 {c:α->CV} {P:α->Prop} (ho:o.op = .call { callee:=.value (.func f),args:=xs,argTypes:=ts}) (aA:∀ args w,(callFunc f args).run C.P w = .ok (.enter f args) w)
 (hv:E.valids xs.toList) (h:b8 C f av σ fun r Y=>∃ a,r = .ret (c a)/\Y=S a/\P a) (ea:(E.vals C xs.toList).map CV.fgt=av) (hk:∀ a,P a->K (.ret (c a)) (S a)):G9 C σ E o K :=
 b4V ho aA (Env.valids_mem hv) (Env.vals_map _) ((a1Z (ea ▸ h)).mono fun r Y hh=>by
  obtain ⟨a,rfl,rfl,hp⟩:=hh;exact hk a hp)
end
section
variable {aa:Array Oper}
def d8w (C:Ctx) (aa:Array Oper) (o:Oper) (E:Env) (σ:List b9) (K:CV->Prop->List b9->Prop) (Kp:CV->List b9->Prop):Prop :=
 (o.guard=none/\G9 C σ E o fun r Y=>match r with | .ret c=>K c True Y | .pan c=>Kp c Y)\/(∃ c g,L5 C σ aa o E c g/\K c g σ)
def a13 (S:List (List b9->Prop)) (σ:List b9):List Nat->Prop
 | []=>True
 | k::l=>(S.getD k fun _=>True) σ/\a13 S σ l
theorem a13.get {S:List (List b9->Prop)}:∀ {l:List Nat},a13 S σ l->∀ k∈l,(S.getD k fun _=>True) σ
 | [],_,k,h=>by cases h
 | x::l,⟨h1,h2⟩,k,h=>by
  rcases J5.1 h with rfl | h
  ·exact h1
  ·exact h2.get k h
end
section
variable {aa:Array Oper}
theorem c8 (hg:o.guard=none) (hy:l8 C σ E o c):L5 C σ aa o E c True:=.inl ⟨hg,tt,hy⟩
theorem D9 {K:Env->List (List b9->Prop)->Prop} {S:List (List b9->Prop)} (h:K E S):a2O C σ aa K [] E S:=h
theorem chf {K:Env->List (List b9->Prop)->Prop} {l:List Nat} {S:List (List b9->Prop)} (ho:aa[i]? = some o) (bk:L5 C σ aa o E c g) (h:a2O C σ aa K l (E.put o.dst c g) (S++[fun Y=>L5 C Y aa o E c g])):a2O C σ aa K (i::l) E S :=
 ⟨o,c,g,ho,bk,h⟩
end
section
theorem a9Z {c:Nat} {a:Option Addr} {x:Value} (hu:∀ w,(underlying t).run P w = .ok (.slice e) w) (hs:∀ w,(sizeOf e).run P w = .ok s w)
 (aj:∀ w,(Builtin.lenOf x).run P w = .ok 0 w) (dJ:(Builtin.firstCells s 0 x).run P w = .ok arr w) (ax:arr.size=0) (fA:n<=c):(Builtin.append_ #[t,t] ty #[.slice a n c,x]).run P w = .ok (.slice a n c) w:=by
 have:arr = #[]:=Array.eq_empty_of_size_eq_zero ax;subst this;cases a<;>simp [Builtin.append_,hu,hs,aj,dJ,fA,storeCells]
theorem Rel.addDead (hr:Rel C M σ w) (q:Pl):Rel C (M.add q) (σ++[.dead]) w/\Ext M w (M.add q) w:=by
 have hx:Ext M w (M.add q) w:=⟨⟨[q],rfl⟩,fun _ h=>h,fun _ _ h=>.inr h,fun _ _=>rfl,fun _ _ _=>rfl,n_7 _,T1,rfl,rfl,rfl,fun _ h=>⟨h,rfl,id,fun _=>id⟩⟩;have ap:∀ {k:Nat} {p:Pl} {ob:b9},(M.add q).pl[k]? = some p->(σ++[.dead])[k]? = some ob->ob = .dead\/(M.pl[k]? = some p/\σ[k]? = some ob):=by
  intro k p ob h1 h2;rw [a6V] at h2;split at h2
  ·rename_i ab;have h1:(M.pl++[q])[k]? = some p:=h1;rw [R3 (by rw [hr.len];exact ab)] at h1;exact .inr ⟨h1,h2⟩
  ·refine .inl ?_;have:=n_2 h2;simpa using this
 refine ⟨⟨by show (M.pl++[q]).length=_;simp [hr.len],hr.blk,fun k p ob h1 h2=>?_,fun k k' p p' ob aG h1 eF h2 dC hl bM hb=>?_,fun g cells hg=>(hr.glob g cells hg).mono hx,hr.kep,fun k p ob h1 h2 hl=>?_⟩,hx⟩
 ·rcases ap h1 h2 with rfl | ⟨g1,g2⟩
  ·exact ⟨tt,tt⟩
  ·obtain ⟨o1,o2⟩:=hr.obj k p ob g1 g2;exact ⟨o1.mono hx rfl (fun _ _ _ _ h=>h),by cases ob<;>exact o2⟩
 ·rcases ap h1 h2 with rfl | ⟨g1,g2⟩
  ·cases hl
  ·rcases ap eF dC with rfl | ⟨gJ,ia⟩
   ·cases bM
   ·exact hr.inj k k' p p' ob aG g1 gJ g2 ia hl bM hb
 ·rcases ap h1 h2 with rfl | ⟨g1,g2⟩
  ·cases hl
  ·exact hr.nk k p ob g1 g2 hl
theorem A7 {p:Nat} {ti:TypeInfo} (ho:o.op = .call { callee:=.builtin .append,args:=#[x,y],argTypes:=#[t,t]}) (hx:E.valid x) (hy:E.valid y) (ex:E.val C x = .list V (gnn m) (C2 m p)) (hm:m=V.length)
 (aQ:∀ M w v,Rel C M σ w->RV M w (E.val C y) v->Src C M w new s v) (hu:∀ w,(underlying t).run C.P w = .ok (.slice e) w) (hs:∀ w,(sizeOf e).run C.P w = .ok s w) (df:∀ w,(typeInfo e).run C.P w = .ok ti w) (hz:∀ w,(zeroValue e).run C.P w = .ok z w) (bI:z.cells.size=s)
 (cb:(m=0/\σ.set p .dead=σ)\/σ[p]? = some (o8 m)) (bg:∀ r∈V,r.length=s) (hb:(V.length+new.length)*ti.bytes<=140737488355328) (bi:V.length+new.length<=9223372036854775807) (rows':List (List CV)) (m':Nat) (he:V++new=rows') (hm':V.length+new.length=m')
 (hk:K (.ret (.list rows' (gnn m') (C2 m' σ.length))) (σ.set p .dead++[o8 m'])):G9 C σ E o K:=by
 subst hm he hm'
 rcases new with _ | ⟨r1,new⟩
 ·
  intro M w ρ hr hh;have h1:=hh x H9 hx;have h2:=hh y H9 hy;rw [ex] at h1;have fm:=aQ M w _ hr h2;have aj:=fm.lenOf;obtain ⟨a,cap,b,off,s',vals,hv,bm,dL,eb,dw,ha,cN,aM,hc,bj,cz⟩:=h1.list_inv;obtain ⟨_,_,_,_,_,arr,cB,ba,_⟩:=fm;have bD:(execOp ρ o).run C.P w=((Builtin.append_ #[t,t] o.type #[ρ x,ρ y]).run C.P w).andThen fun v w=>.ok (.value v) w:=by
   simp [execOp,ho,resolve,invoke,builtin]
  have au:(execOp ρ o).run C.P w = .ok (.value (.slice a V.length cap)) w:=by
   rw [bD,hv,a9Z hu hs (sp_ aj) (sp_ cB) (sp_ ba) bm];rfl
  rw [au];simp only [a1k,I8,a8l] at hk
  rcases V with _ | ⟨r0,V⟩
  ·obtain ⟨aF,bb⟩:=(hr.dead p).addDead ⟨0,0,0⟩;exact ⟨_,_,_,bb,aF,by simpa [gnn,C2,hv] using h1.mono bb,hk⟩
  ·have ib:σ[p]? = some (.tip (r0::V).length):=by
    rcases cb with h | h
    ·simp at h
    ·exact h
   obtain ⟨sz,hp,ha0,ga,aI⟩:=cz p rfl;obtain ⟨bb,aF⟩:=hr.tipNew (m:=(r0::V).length) hp ib (n_7 _) bm;refine ⟨_,_,_,bb,aF,?_,hk⟩;have hl:=h1.mono bb;rw [hv] at hl;obtain ⟨a',cap',b',off',s'',fE,fu,q1,q2,q3,q4,q5,q6,q7,q8,q9,q10⟩:=hl.list_inv;injection fu with e1 e2 e3
   subst e1 e3;refine RV.list' (L:=(r0::V).length) rfl fE q1 q2 (by rw [q3]) (fun h=>by cases h) q5 q6 q7 q8 q9 (fun k' aJ=>?_);obtain ⟨s3,g1,g2,g3,g4⟩:=q10 p rfl;injection aJ with aJ
   subst aJ;refine ⟨s3,?_,g2,g3,g4⟩;have e4:=bb.get hp;rw [g1] at e4;rw [e4];simp [A9.add,<- hr.len]
 ·rcases V with _ | ⟨r,V⟩
  ·have e:σ.set p .dead=σ:=by
    rcases cb with h | h
    ·exact h.2
    ·refine b35 fun i=>?_;rw [b0A]
     split
     ·rename_i h';subst h';rw [n_1 (n_3.1 h).1,h];rfl
     ·rfl
   rw [e] at hk;exact b6C ho hx hy ex aQ hu hs df hz bI (.inl ⟨rfl,rfl,rfl⟩) bg si_ hb bi (by simpa [kill,gnn,C2,o8] using hk)
  ·have ib:σ[p]? = some (.tip (r::V).length):=by
    rcases cb with h | h
    ·simp at h
    ·exact h
   exact b6C ho hx hy ex aQ hu hs df hz bI (.inr ⟨si_,p,rfl,ib⟩) bg si_ hb bi hk
theorem d3t {ti:TypeInfo} (ho:o.op = .call { callee:=.builtin .append,args:=#[x,y],argTypes:=#[t,t]}) (hx:E.valid x) (hy:E.valid y) (ex:E.val C x = .list [] false none)
 (aQ:∀ M w v,Rel C M σ w->RV M w (E.val C y) v->Src C M w new s v) (hu:∀ w,(underlying t).run C.P w = .ok (.slice e) w) (hs:∀ w,(sizeOf e).run C.P w = .ok s w) (df:∀ w,(typeInfo e).run C.P w = .ok ti w) (hz:∀ w,(zeroValue e).run C.P w = .ok z w) (bI:z.cells.size=s)
 (hb:new.length*ti.bytes<=140737488355328) (bi:new.length<=9223372036854775807) (m':Nat) (hm':new.length=m')
 (hk:K (.ret (.list new (gnn m') (C2 m' σ.length))) (σ++[o8 m'])):G9 C σ E o K :=
 A7 (m:=0) (p:=σ.length) ho hx hy ex rfl aQ hu hs df hz bI (.inl ⟨rfl,by rw [List.set_eq_of_length_le (n_7 _)]⟩) si_ (sp_ hb) (sp_ bi) new m' si_ (sp_ hm') (by rw [List.set_eq_of_length_le (n_7 _)];exact hk)
end
section
theorem b4A (ho:o.op = .nilCheck x) (hx:E.valid x) (ex:E.val C x = .ptr k off):l8 C σ E o (.ptr k off) :=
 i7 fun M w ρ _ h=>by
  have h1:=h x w9 hx;rw [ex] at h1;generalize dZ:ρ x=u at h1;cases h1 with
  | ptr hp=>exact ⟨_,by simp [execOp,ho,dZ],.ptr hp⟩
end
end Go.Cl
namespace Go.Cl
open Go Go.ChangeShapes Go.WideShapes Go.RowKit Go.ChangeAt
variable {w:World} {v:Value} {cs:List Value}
def T4 (w:World):A9:={ pl:=[],full:=fun b=>b < w.heap.size,cell:=fun _ _=>False,keep:=fun b=>b < w.heap.size}
theorem a7f {a:Addr} (h:w.cell? a=some v):a.block < w.heap.size/\a.spot=none:=by
 unfold World.cell? at h;split at h
 ·rename_i hw;refine ⟨(a1s.1 hw).1,?_⟩;cases hs:a.spot with
  | none=>rfl
  | some s=>rw [hs] at h;simp at h
 ·cases h
theorem a86 {a:Addr} {k:Nat} (h:w.cell? (a.add k)=some v):a.add k=⟨a.block,a.off+k,none⟩:=by
 have hs:=(a7f h).2;unfold Addr.add at hs ⊢;by_cases hk:k=0
 ·rw [n_1 hk] at hs ⊢;subst hk;cases a;simp at hs;subst hs;rfl
 ·rw [n_0 hk]
theorem c9n {a:Addr} (h:w.cell? a=some v) (o:Nat):(T4 w).at a.block o:=.inl (a7f h).1
theorem b3W {C:Ctx} (hg:∀ g cells,C.glob g=some cells->GV (T4 w) w cells g):Rel C (T4 w) [] w:=by
 refine ⟨rfl,fun b o h=>?_,fun k p ob h=>?_,fun k k' p p' ob aG h=>?_,hg,fun b h=>h,fun k p ob h=>?_⟩
 ·rcases h with h | h
  ·exact h
  ·exact h.elim
 all_goals simp [T4] at h
theorem b5k {w':World} {M':A9} (h:Ext (T4 w) w M' w'):Below w.heap.size w w' :=
 ⟨h.os,h.tape,h.output,h.size,fun k hk=>h.same k hk⟩
theorem a9S {C:Ctx} {f:FuncId} {gK:List CV} {W:World} {args:Array Value} {u:Value}
 (hg:∀ g cells,C.glob g=some cells->GV (T4 W) W cells g)
 (hn:args.size=gK.length) (ha:∀ (i:Nat) (c:CV),gK[i]? = some c->RV (T4 W) W c (args.getD i undef))
 (h:b8 C f gK [] fun r Y=>r = .ret (.val u)/\Y=[]):Calls C.P f args W fun e W'=>e = .returned u/\Below W.heap.size W W':=by
 refine (h (T4 W) W args (b3W hg) hn ha).mono fun e W' he=>?_;cases e with
 | returned v =>
  obtain ⟨c,Y,M',h1,h2,h3,h4,h5⟩:=he;cases h4;cases h3;exact ⟨rfl,b5k h1⟩
 | panicked ch =>
  obtain ⟨c,v,Y,M',-,-,-,-,h4,-⟩:=he;cases h4
 | outgrown=>exact he.elim
structure RCs (w:World) (row:List CV) (cs:List Value):Prop where
 len:row.length=cs.length
 one:∀ c∈row,c.one=true
 rv:∀ (j:Nat) (c:CV),row[j]? = some c->RV (T4 w) w c (cs.getD j undef)
theorem RCs.nil:RCs w [] []:=⟨rfl,fun c h=>by simp at h,fun j c h=>by simp at h⟩
theorem RCs.cons {c:CV} {row:List CV} (h1:c.one=true) (h2:RV (T4 w) w c v) (h:RCs w row cs):RCs w (c::row) (v::cs):=by
 refine ⟨by simp [h.len],fun x hx=>?_,fun j x hj=>?_⟩
 ·rcases J5.1 hx with rfl | hx
  ·exact h1
  ·exact h.one x hx
 ·rcases j with _ | j
  ·simp at hj;subst hj;simpa using h2
  ·simpa using h.rv j x (sp_ hj)
theorem RCs.val {row:List CV} (h1:v.oneCell'=true) (h:RCs w row cs):RCs w (.val v::row) (v::cs):=h.cons h1 (.val v)
section
variable {H:Type} {enc:TypeId × Value->H} {P:Program} {base:Nat} {spare:Nat->Bool} {held:Bool}
theorem b7r {α:Type} [Inhabited α] (f:α->List CV) (Q:α->Prop) {t e:TypeId} {fF:Nat} {x:DataW H × List MemPlace} (ht:P.underlying t=some (.slice e)) {s:Nat} (hs:P.cellsOf e=s) (h0:0 < s)
 (eH:∀ (n:Nat) (cs:List Value) (y:DataW H × List MemPlace),DataW.trod enc P w base spare held n e cs=some y->∃ a,Q a/\RCs w (f a) cs)
 (h:DataW.trod enc P w base spare held fF t cs=some x) :
 ∃ (l:List α) (nn:Bool) (v:Value),cs=[v]/\RV (T4 w) w (.list (l.map f) nn none) v/\l.length<=maxLen/\(∀ a∈l,Q a)/\(nn=false->l=[]):=by
 rcases DataW.trod_slice ht h with ⟨rfl,-⟩ | ⟨a,len,cap,elems,rest,n,-,rfl,-,hb,hl,hm,aj,hE,-,-⟩
 ·exact ⟨[],false,_,rfl,.list (b:=0) (off:=0) (s:=s) (fun _ _=>undef) (n_7 _) (n_4 _) rfl a0B (fun h=>by simp at h) (fun r hr=>by simp at hr) (fun r hr=>by simp at hr) (fun i j r c hi=>by simp at hi) (fun i j r c hi=>by simp at hi) (fun k hk=>by cases hk),n_4 _,fun a ha=>by simp at ha,fun _=>rfl⟩
 ·have key:∀ i:Nat,i < len->∃ (a':α) (bc:List Value),Q a'/\RCs w (f a') bc/\bc.length=s/\∀ j,j < s->w.cell? (a.add (i*s+j))=some (bc.getD j undef):=by
   intro i hi;have h1:=hE i hi;have h2:elems[i]? = some (elems[i]'om_):=a09 om_;rw [h2,c75] at h1;obtain ⟨bc,hc,hy⟩:=h1;obtain ⟨a',hQ,hR⟩:=eH _ _ _ hy;obtain ⟨-,bZ,aS⟩:=World.cells?_some hc;rw [hs] at bZ aS;refine ⟨a',bc,hQ,hR,bZ,fun j hj=>?_⟩;have:=aS j hj;rw [a09 om_] at this;rw [a58,a09 om_];rw [<- Go.Deep.add_add,this];rfl
  have dz:∃ F:Nat->α,∃ G:Nat->List Value,∀ i,i < len->Q (F i)/\RCs w (f (F i)) (G i)/\(G i).length=s/\∀ j,j < s->w.cell? (a.add (i*s+j))=some ((G i).getD j undef):=by
   classical
   by_cases hlz:len=0
   ·subst hlz;exact ⟨fun _=>default,fun _=>[],fun i hi=>absurd hi (Nat.not_lt_zero _)⟩
   ·obtain ⟨a0,-⟩:=key 0 om_;have:∀ i:Nat,∃ p:α × List Value,i < len->Q p.1/\RCs w (f p.1) p.2/\p.2.length=s/\∀ j,j < s->w.cell? (a.add (i*s+j))=some (p.2.getD j undef):=fun i=>by
     by_cases hi:i < len
     ·obtain ⟨a',bc,h⟩:=key i hi;exact ⟨(a',bc),fun _=>h⟩
     ·exact ⟨(a0,[]),fun h=>absurd h hi⟩
    exact ⟨fun i=>(Classical.choose (this i)).1,fun i=>(Classical.choose (this i)).2,fun i hi=>Classical.choose_spec (this i) hi⟩
  obtain ⟨F,G,hF⟩:=dz;have cA:∀ (i:Nat) (r:List CV),(((List.range len).map F).map f)[i]? = some r->i < len/\r=f (F i):=fun i r hi=>by
   rw [List.map_map,O5] at hi
   rcases a4r i len with h | h
   ·rw [List.getElem?_range h] at hi;exact ⟨h,(Option.some.inj hi).symm⟩
   ·rw [b0N (sp_ h)] at hi;cases hi
  have bN:∀ r∈((List.range len).map F).map f,∃ i,i < len/\r=f (F i):=fun r hr=>by
   obtain ⟨i,hi⟩:=M6.1 hr;exact ⟨i,cA i r hi⟩
  have cT:(((List.range len).map F).map f).length=len:=by simp
  refine ⟨(List.range len).map F,true,_,rfl,?_,by simp;omega,fun x hx=>?_,fun h=>by cases h⟩
  ·have:=RV.list (M:=T4 w) (w:=w) (V:=((List.range len).map F).map f) (nn:=true) (tok:=none) (a:=some a) (cap:=cap) (b:=a.block) (off:=a.off) (s:=s) (fun i j=>(G i).getD j undef)
    (by rw [cT];exact hl) hm rfl (fun h=>by cases h) (fun az=>?_) (fun r hr=>?_) (fun r hr=>?_) (fun i j r c hi hj=>?_) (fun i j r c hi hj=>?_) (fun k hk=>by cases hk)
   ·rw [cT] at this;exact this
   ·rcases b20 len with hz | hz
    ·subst hz;exact absurd rfl az
    ·have:=(hF 0 hz).2.2.2 0 h0;have:=a86 this;simpa [Addr.add] using this
   ·obtain ⟨i,hi,rfl⟩:=bN r hr;rw [(hF i hi).2.1.len,(hF i hi).2.2.1]
   ·obtain ⟨i,hi,rfl⟩:=bN r hr;exact (hF i hi).2.1.one
   ·obtain ⟨bd,rfl⟩:=cA i r hi;have hjs:j < s:=by
     have:=(n_3.1 hj).1;rw [(hF i bd).2.1.len,(hF i bd).2.2.1] at this;exact this
    have hc:=(hF i bd).2.2.2 j hjs;rw [a86 hc,<- a8T] at hc;exact ⟨c9n hc _,hc⟩
   ·obtain ⟨bd,rfl⟩:=cA i r hi;exact (hF i bd).2.1.rv j c hj
  ·obtain ⟨i,hi,rfl⟩:=F4.1 hx;exact (hF i (sp_ hi)).1
end
theorem a6p {H:Type} {enc:TypeId × Value->H} {P:Program} (hl:laidOutB P=true) {W W':World} (hb:Below W.heap.size W W') {sp:Nat->Bool}:∀ {ts:List TypeId} {vs:List Value} {ds:List (DataW H)} {ps:List MemPlace},(∀ t∈ts,P.readableRec t=true/\t < P.types.size)->DataW.TrodAll enc P W 0 (fun _=>true) true ts vs ds ps->(∀ p∈ps,p.block < W.heap.size)->(∀ p∈ps,sp p.block=true)->DataW.TrodAll enc P W' 0 sp true ts vs ds ps
 | [],[],[],_,_,h,_,_=>h
 | t::ts,v::vs,d::ds,ps,hr,h,ab,af=>by
  obtain ⟨p,q,h1,h2,rfl⟩:=h;exact ⟨p,q,WideElems.Trod_stays hl (hr t si_).1 (hr t si_).2 h1 (fun x hx=>hb.same (ab x (by simp [hx]))) (fun x hx=>af x (by simp [hx])),
   a6p hl hb (fun t ht=>hr t (by simp [ht])) h2 (fun x hx=>ab x (by simp [hx])) (fun x hx=>af x (by simp [hx])),rfl⟩
 | [],_::_,_,_,_,h,_,_=>h.elim
 | [],[],_::_,_,_,h,_,_=>h.elim
 | _::_,[],_,_,_,h,_,_=>h.elim
 | _::_,_::_,[],_,_,h,_,_=>h.elim
theorem d0B {P:Program} {ts:List TypeId} (h:(ts.all fun t=>P.readableRec t && decide (t < P.types.size))=true):∀ t∈ts,P.readableRec t=true/\t < P.types.size:=fun t ht=>by
 have:=a5D.1 h t ht;simpa using this
theorem c0V {H:Type} {enc:TypeId × Value->H} {P:Program} {f:Func} {s:ChangeSpec} {apart ic eY ie:Bool} {W W':World} {args:Array Value} {ds gs:List (DataW H)} {bK pa pv:List MemPlace}
 (hW:DataW.Whole enc P f.params.toList s.vars apart W args.toList ds gs bK)
 (eg:∀ (b:Nat) (sp:Nat->Bool) (hd:Bool),DataW.TrodAll enc P W' b sp hd f.resultTypes.toList (v.resultList f.resultTypes.size) (s.fn H (ds++gs)).results [])
 (ao:∀ sp:Nat->Bool,(∀ p∈bK,sp p.block=true)->DataW.TrodAll enc P W' 0 sp true f.params.toList args.toList (s.fn H (ds++gs)).args pa)
 (hvars:∀ sp:Nat->Bool,(∀ p∈bK,sp p.block=true)->DataW.TrodVars enc P W' sp s.vars (s.fn H (ds++gs)).vars pv)
 (cm:bK=pa++pv) (hb:Below W.heap.size W W')
 (bh:∀ (j:Nat) (t:TypeId) (r:Value),f.resultTypes[j]? = some t->(v.resultList f.resultTypes.size)[j]? = some r->Value.okWide P W' .any 0 t r) :
 s.post enc P f apart ic eY ie W args v W':=by
 have ab:∀ p∈bK,p.block < W.heap.size:=fun p hp=>hW.lt p hp;have bP:∀ p∈bK,(fun b=>decide (b < W.heap.size)) p.block=true:=fun p hp=>by simpa using ab p hp
 refine ⟨ds,gs,bK,[],pa,pv,hW,eg _ _ _,ao _ bP,hvars _ bP,World.keptBut_mono (fun p hp=>⟨hp,?_⟩) (hb.frame (·∈bK)),fun _=>?_⟩
 ·rw [cm,L8] at hp;exact Or.inr hp
 ·obtain ⟨_,_,_,_,_,hz,hn⟩:=hW;refine ⟨bh,_,_,([]++pa)++pv,⟨[]++pa,pv,trodAll_append (ao _ (fun _ _=>rfl)) (eg _ _ _),hvars _ (fun _ _=>rfl),rfl,?_,?_⟩,?_⟩
  ·intro b off hp;have bC:MemPlace.cell b off∈bK:=by rw [cm];simpa using hp
   rw [hb.frozen (ab _ bC)];exact hz b off bC
  ·intro ha;have:=hn ha;rw [cm] at this;simpa using this
  ·intro p hp _;rw [cm];simpa using hp
theorem c03 {C:Checked} {os:Os} {f:FuncId} {fn:Func} {s:ChangeSpec} {CX:Ctx} {ig:List (String × DataW Unit)} {H:Type} {enc:TypeId × Value->H} {ic eY ie:Bool} {tb:TypeId} (cU:Array Value) (fF:Nat) (w0:World)
 (hP:CX.P=C.prog) (own:ownKnob C.prog.godebug=none) (cV:os.Started) (noInit:C.prog.inits.idxOf? f=none) (cB:C.prog.funcs[f]? = some fn)
 (hl:laidOutB C.prog=true) (hread:∀ t∈fn.params.toList,C.prog.readableRec t=true/\t < C.prog.types.size) (hv:s.vars=[])
 (hs:∀ ds:List (DataW H),ds.length=fn.params.size->s.fn H ds={ results:=[.lit (.bool true)],args:=ds})
 (hrt:fn.resultTypes = #[tb]) (htb:C.prog.underlying tb=some .bool)
 (hg:∀ W,laidMetH C.prog ig W->∀ g cells,CX.glob g=some cells->GV (T4 W) W cells g)
 (hos:w0.os=os) (hsh:(w0.forCall (fun _ _=>0) ⟨#[],cU,[]⟩).Shaped C.prog)
 (bh:Input.okWideB C.prog (w0.forCall (fun _ _=>0) ⟨#[],cU,[]⟩) f ⟨#[],cU,[]⟩=true)
 (ci:s.preB enc C.prog fn [] false (w0.forCall (fun _ _=>0) ⟨#[],cU,[]⟩).memory cU fF=true)
 (aI:s.sizedB enc C.prog fn false (w0.forCall (fun _ _=>0) ⟨#[],cU,[]⟩).memory cU fF=true)
 (hx:laidMetH C.prog ig (w0.forCall (fun _ _=>0) ⟨#[],cU,[]⟩).memory)
 (walk:∀ (W:World) (base:Nat) (args:Array Value) (ds:List (DataW H)) (ps:List MemPlace),(∀ (j:Nat) t v,fn.params[j]? = some t->args[j]? = some v->Value.okWide C.prog W .any base t v) ->
  DataW.TrodAll enc C.prog W 0 (fun _=>true) true fn.params.toList args.toList ds ps ->
  ∃ gK:List CV,args.size=gK.length/\(∀ (i:Nat) (c:CV),gK[i]? = some c->RV (T4 W) W c (args.getD i undef))/\b8 CX f gK [] fun r Y=>r = .ret (.val (.bool true))/\Y=[]) :
 ReturnsInHanded {} C os f .any (fun w args=>(s.pre enc C.prog fn [] false w args/\laidMetH C.prog ig w)/\sizedMet enc C.prog fn (OpenSpec.ofChange s) false w args) (s.post enc C.prog fn false ic eY ie):=by
 refine returnsInHanded_of_change_and (C:=C) (X:=fun w _=>laidMetH C.prog ig w) (fun _ _ _ hh h=>h.of_heap hh) own cV noInit cB
  (ChangeSpec.witness_shaped (enc:=enc) (C:=C) (os:=os) (X:=fun w _=>laidMetH C.prog ig w) false w0 cU fF hos hsh bh ci aI hx) ?_
 intro W base args ds gs bK bH hW _ _ hL _;have hW':=hW;obtain ⟨p,q,hA,hV,rfl,-,-⟩:=hW;rw [hv] at hV;have hgs:gs=[]/\q=[]:=by
  cases gs with
  | nil=>exact ⟨rfl,hV⟩
  | cons g r=>exact hV.elim
 obtain ⟨rfl,rfl⟩:=hgs;obtain ⟨gK,h1,h2,h3⟩:=walk W base args ds p bH hA;have eI:ds.length=fn.params.size:=by
  have:∀ {ts:List TypeId} {vs:List Value} {ds:List (DataW H)} {ps:List MemPlace},DataW.TrodAll enc C.prog W 0 (fun _=>true) true ts vs ds ps->ds.length=ts.length:=by
   intro ts
   induction ts with
   | nil=>intro vs ds ps h;obtain ⟨-,rfl,-⟩:=trodAll_nil h;rfl
   | cons t ts ih=>intro vs ds ps h;obtain ⟨v,vs1,d,ds1,a,b,-,rfl,-,-,h2⟩:=trodAll_cons h;simp [ih h2]
  simpa using this hA
 have hsd:=hs (ds++[]) (sp_ eI);have hc:=a9S (hg W hL) h1 h2 h3;rw [hP] at hc;refine hc.mono fun e W' ⟨he,hb⟩=>⟨_,he,?_⟩;refine c0V (pa:=p) (pv:=[]) hW' (fun b sp hd=>?_) (fun sp af=>?_) (fun sp _=>?_) rfl hb ?_
 ·rw [hsd,hrt];exact trodAll_mk1 (shut_bool htb _)
 ·rw [hsd];have ab:∀ x∈p,x.block < W.heap.size:=fun x hx=>hW'.lt x (by simp [hx]);simpa using a6p hl hb hread hA ab fun x hx=>af x (by simp [hx])
 ·rw [hsd,hv];rfl
 ·exact ok_one hrt rfl (okWide_bool_mk htb _)
end Go.Cl
namespace Go.Cl
variable {x y:Operand} {ts:Array TypeId} {a b:Int}
section
variable {C:Ctx} {E:Env} {σ:List b9} {o:Oper}
theorem c6T {k:IntKind} (ho:o.op = .call { callee:=.builtin .max,args:=#[x,y],argTypes:=ts}) (hx:E.valid x) (hy:E.valid y) (ex:E.val C x = .val (.int k a)) (ey:E.val C y = .val (.int k b)):l8 C σ E o (.val (.int k (max a b))) :=
 i7 fun M w ρ _ h=>by
  have h1:=h x H9 hx;have h2:=h y H9 hy;rw [ex] at h1;rw [ey] at h2;refine ⟨.int k (max a b),?_,.val _⟩;simp [execOp,ho,resolve,invoke,builtin,r3 h1,r3 h2,Go.Lib.run_max_ints]
end
section
variable {C:Ctx} {E:Env} {σ:List b9} {o:Oper}
theorem d3Z {t e:TypeId} {s:Nat} {new:List (List CV)} {ti:TypeInfo} {z:Value} {K:W5->List b9->Prop} (m':Nat) (ho:o.op = .call { callee:=.builtin .append,args:=#[x,y],argTypes:=#[t,t]}) (hx:E.valid x) (hy:E.valid y) (ex:E.val C x = .list [] false none)
 (aQ:∀ M w v,Rel C M σ w->RV M w (E.val C y) v->Src C M w new s v) (hu:∀ w,(underlying t).run C.P w = .ok (.slice e) w) (hs:∀ w,(sizeOf e).run C.P w = .ok s w) (df:∀ w,(typeInfo e).run C.P w = .ok ti w) (hz:∀ w,(zeroValue e).run C.P w = .ok z w) (bI:z.cells.size=s)
 (dg:0 < new.length) (hb:new.length*ti.bytes<=140737488355328) (bi:new.length<=9223372036854775807) (hm:new.length=m')
 (hk:K (.ret (.vec σ.length 0 m')) (σ++[.vec s new])):G9 C σ E o K:=fun M w ρ hr hh=>by
 subst hm;have h1:=hh x H9 hx;have h2:=hh y H9 hy;rw [ex] at h1;have aj:=(aQ M w _ hr h2).lenOf;have bD:(execOp ρ o).run C.P w=((Builtin.append_ #[t,t] o.type #[ρ x,ρ y]).run C.P w).andThen fun v w=>.ok (.value v) w:=by
  simp [execOp,ho,resolve,invoke,builtin]
 have h1i:=h1;obtain ⟨a,cap,b,off,s',vals,hv,bm,dL,eb,dw,-,-,-,-,-,-⟩:=h1i.list_inv;have eG:=dw rfl;subst eG;obtain ⟨dT,gI⟩:=hr.drewN;have ee:=a07 (C:=C) (s:=s) (a5G h1) (fun r hr=>by simp at hr);rw [hv] at ee;obtain ⟨a1,c1,dI,_,bg,old,hfo,dM,eX⟩:=ee;obtain ⟨an,cn,hvn,_,ck,arr,cB,ba,bx⟩:=aQ M w.drew _ dT (a5G h2);obtain ⟨c',ca,cr,au⟩:=X1 (P:=C.P) (ty:=o.type) (a:=a) (c:=0) (w:=w) (n:=([]:List (List CV)).length) (m:=new.length) hu (.inl hu) hs df hz aj hfo cB L4 (sp_ bi) (sp_ hb);rw [bD,hv,au];simp only [Result.andThen_ok];have fY:w.drew.heap.size=w.heap.size:=rfl;rw [<- fY];have dN:(old++arr++Builtin.zeroCells z.cells (c' - (([]:List (List CV)).length+new.length))).size=c'*s:=by
  simp only [b9h,V9,dM,ba,bI];rw [<- Q5,<- Q5]
  congr 1;omega
 have aK:=Ext.alloc dT ⟨w.drew.heap.size,c',s⟩ (.cells (old++arr++Builtin.zeroCells z.cells (c' - (([]:List (List CV)).length+new.length))) e);have ap:=a2z (rest:=Builtin.zeroCells z.cells (c' - (([]:List (List CV)).length+new.length))) dM ba bg ck (fun i j r c hi hj=>(eX i j r c hi hj).1) (fun i j r c hi hj=>(bx i j r c hi hj).1);have aV:=dT.alloc ⟨w.drew.heap.size,c',s⟩ (.cells (old++arr++Builtin.zeroCells z.cells (c' - (([]:List (List CV)).length+new.length))) e) (.vec s ([]++new)) rfl
  ⟨rfl,sp_ ca,by unfold maxLen;simp only;omega,sp_ ck,fun r hr c hc=>(by
   obtain ⟨i,hi⟩:=M6.1 (by simpa using hr:r∈new);obtain ⟨j,hj⟩:=M6.1 hc;exact (bx i j r c hi hj).2),_,e,B0 _ _,dN,fun i j r c hi hj=>((ap i j r c hi hj).2.mono aK)⟩
 refine ⟨.vec σ.length 0 new.length,_,_,gI.trans aK,aV,?_,hk⟩;have:=RV.vec (M:=M.add ⟨w.drew.heap.size,c',s⟩) (w:=w.drew.alloc (.cells (old++arr++Builtin.zeroCells z.cells (c' - (([]:List (List CV)).length+new.length))) e)) (k:=σ.length) (off:=0) (len:=new.length) (p:=⟨w.drew.heap.size,c',s⟩) (a:=⟨w.drew.heap.size,0,none⟩) a9q (sp_ ca) (by unfold maxLen;simp only;omega) (fun _=>by simp);simpa using this
end
inductive ClO (n:Nat) (σ:List b9):b9->b9->Prop where
 | dead {ob:b9}:ClO n σ ob .dead
 | same {ob:b9}:I0 n ob->ClO n σ ob ob
 | box {t0:Option TypeId} {cells bR:List CV}:a6U n σ cells bR->ClO n σ (.boxT t0 cells) (.boxT t0 bR)
def a9X (n:Nat) (σ:List b9):List b9->List b9->Prop
 | _,[]=>True
 | a::l,b::l'=>ClO n σ a b/\a9X n σ l l'
 | [],_::_=>False
theorem a9X.get {n:Nat} {σ:List b9}:∀ {l l':List b9},a9X n σ l l'->l'.length<=l.length/\∀ (k:Nat) (b:b9),l'[k]? = some b->∃ a,l[k]? = some a/\ClO n σ a b
 | _,[],_=>⟨n_4 _,fun k b h=>by simp at h⟩
 | a::l,b::l',⟨h1,h⟩=>by
  obtain ⟨g1,g2⟩:=h.get;refine ⟨Nat.succ_le_succ g1,fun k b hk=>?_⟩
  rcases k with _ | k
  ·simp at hk;subst hk;exact ⟨a,rfl,h1⟩
  ·exact g2 k b (sp_ hk)
theorem Rel.cutCls {C:Ctx} (hC:C.plain) {M:A9} {σ S:List b9} {w:World} (hr:Rel C M σ w) (hS:a9X S.length σ σ S) :
 Rel C (M.cutAt S.length σ) S w/\Cut S.length M (M.cutAt S.length σ)/\∀ M0 w0,Ext M0 w0 M w->M0.pl.length<=S.length->Ext M0 w0 (M.cutAt S.length σ) w:=by
 obtain ⟨aP,gq⟩:=hS.get;have aN:Cut S.length M (M.cutAt S.length σ):=⟨rfl,fun _ h=>.inl h,fun _ _ h=>.inr h⟩;have hZ:∀ (k:Nat) (p:Pl) (s:Nat) (V:List (List CV)),S.length<=k->M.pl[k]? = some p->σ[k]? = some (.vec s V)->(M.cutAt S.length σ).full p.block:=fun k p s V hk hp am=>.inr ⟨k,p,_,hk,hp,am,rfl,rfl⟩;have ap:∀ {k:Nat} {p:Pl},(M.cutAt S.length σ).pl[k]? = some p->k < S.length/\M.pl[k]? = some p:=by
  intro k p hk;have hk:(M.pl.take S.length)[k]? = some p:=hk;rw [a2d] at hk;split at hk
  ·exact ⟨‹_›,hk⟩
  ·cases hk
 have aj:S.length<=M.pl.length:=by rw [hr.len];exact aP
 have cg:∀ {a b:b9},ClO S.length σ a b->b.live=true->a.live=true:=by
  intro a b h hl;cases h with
  | dead=>cases hl
  | same _=>exact hl
  | box _=>rfl
 refine ⟨⟨by show (M.pl.take S.length).length=_;simp;omega,fun b o ha=>?_,fun k p ob hk hs=>?_,fun k k' p p' ob aG hk aJ hs aT cP cp hb=>?_,fun g cells hg=>?_,hr.kep,fun k p ob hk hs bY=>?_⟩,aN,fun M0 w0 hx aP=>?_⟩
 ·rcases ha with (ha | ⟨k,p,ob,_,hp,hs,hl,rfl⟩) | ha
  ·exact hr.blk b o (.inl ha)
  ·exact (hr.obj k p ob hp hs).1.lt hl
  ·exact hr.blk b o (.inr ha)
 ·obtain ⟨ab,hp⟩:=ap hk;obtain ⟨a,ha,cX⟩:=gq k ob hs;obtain ⟨h1,h2⟩:=hr.obj k p a hp ha;have gb:a.live=true->¬ M.full p.block->¬ (M.cutAt S.length σ).full p.block:=fun bY gb h=>by
   rcases h with h | ⟨k',p',aG,aJ,aH,aT,bM,hb⟩
   ·exact gb h
   ·have:=hr.inj k' k p' p aG a aH hp aT ha bM bY hb;omega
  cases cX with
  | dead=>exact ⟨tt,tt⟩
  | same ho =>
   refine ⟨?_,?_⟩
   ·cases ob with
    | dead=>trivial
    | boxT t0 cells =>
     obtain ⟨arr,ty,e1,e2,e3,e4⟩:=h1;exact ⟨arr,ty,e1,e2,e3,fun i c hi=>(e4 i c hi).cut aN (ho c (n_2 hi))⟩
    | tipT t0 m=>exact h1
    | blk o=>exact h1
    | lp o n cs =>
     obtain ⟨tm,e1,e2,e3⟩:=h1;exact ⟨tm,e1,e2,fun x hi=>(e3 x hi).cut aN (ho x hi)⟩
    | vec s V =>
     obtain ⟨e0,e1,e2,e3,e4,arr,ty,e5,e6,e7⟩:=h1;exact ⟨e0,e1,e2,e3,e4,arr,ty,e5,e6,fun i j r c hi hj=>(e7 i j r c hi hj).cut aN (ho r (n_2 hi) c (n_2 hj))⟩
    | map es =>
     obtain ⟨ae,ai,e1,e2,e3⟩:=h1;refine ⟨ae,ai,e1,e2,fun i x hi=>?_⟩;obtain ⟨e,g1,g2,g3,g4⟩:=e3 i x hi;have:=ho x (n_2 hi);exact ⟨e,g1,g2.cut aN this.1,g3.cut aN this.2,g4⟩
    | iter aD es =>
     obtain ⟨mb,seen,bF,ae,ai,e1,e2,e3,e4,e5,e6,e7,e8,e9⟩:=h1;refine ⟨mb,seen,bF,ae,ai,e1,aN.full _ e2,e3,e4,e5,e6,e7,fun i x hi=>?_,fun i x hi=>?_⟩
     ·obtain ⟨e,g1,g2,g3⟩:=e8 i x hi;have:=ho.2 x (n_2 hi);exact ⟨e,g1,g2.cut aN this.1,g3.cut aN this.2⟩
     ·obtain ⟨hl,j,e,g0,g1,g2,g3⟩:=e9 i x hi;have:=ho.1 x (n_2 hi);exact ⟨hl,j,e,g0,g1,g2.cut aN this.1,g3.cut aN this.2⟩
   ·cases ob with
    | dead=>trivial
    | tipT t0 m=>exact gb rfl h2
    | _=>exact ⟨gb rfl h2.1,h2.2⟩
  | box hc =>
   obtain ⟨bZ,hcg⟩:=hc.get;obtain ⟨arr,ty,e1,e2,e3,e4⟩:=h1;refine ⟨⟨arr,ty,e1,by rw [e2,bZ],fun c hm=>?_,fun i c' hi=>?_⟩,gb rfl h2.1,h2.2⟩
   ·obtain ⟨i,hi⟩:=M6.1 hm;obtain ⟨y,hy⟩:=r7 bZ hi;exact (hcg i y c hy hi).one (e3 y (n_2 hy))
   ·obtain ⟨y,hy⟩:=r7 bZ hi;exact RV.close hr aN hZ (hcg i y c' hy hi) (e4 i y hy)
 ·obtain ⟨a,ha,cX⟩:=gq k ob hs;obtain ⟨a',cI,hab'⟩:=gq k' aG aT;exact hr.inj k k' p p' a a' (ap hk).2 (ap aJ).2 ha cI (cg cX cP) (cg hab' cp) hb
 ·refine ⟨?_,aN.full _ (hr.glob g cells hg).full,(hr.glob g cells hg).sz⟩;exact (hr.glob g cells hg).rv.cut aN (.cptr fun j c hj=>(hC g cells hg c (n_2 hj)).old)
 ·obtain ⟨a,ha,cX⟩:=gq k ob hs;exact hr.nk k p a (ap hk).2 ha (cg cX bY)
 ·obtain ⟨l,hl⟩:=hx.pl;refine ⟨⟨l.take (S.length - M0.pl.length),?_⟩,fun b h=>.inl (hx.full b h),fun b o h=>aN.at (hx.cell b o h),hx.same,hx.sameC,hx.size,hx.drew,hx.os,hx.tape,hx.output,fun b hb=>?_⟩
  ·show M.pl.take S.length=_;rw [hl,List.take_append,U5 aP]
  ·obtain ⟨k1,k2,k3,k4⟩:=hx.kept b hb;refine ⟨k1,k2,fun f=>?_,k4⟩
   rcases f with f | ⟨k,p,ob,_,hp,hs,bY,rfl⟩
   ·exact k3 f
   ·exact absurd k1 (hr.nk k p ob hp hs bY)
section
variable {C:Ctx} {n:Nat} {Q:D5->Env->List b9->Prop} {E:Env} {σ:List b9}
end
section
variable {C:Ctx} {E:Env} {σ:List b9} {o:Oper}
theorem a6K {s d:TypeId} {k k0 k':IntKind} (ho:o.op = .convert s d x) (hx:E.valid x) (ex:E.val C x = .val (.int k a)) (hs:∀ w,(underlying s).run C.P w = .ok (.int k0) w) (hd:∀ w,(underlying d).run C.P w = .ok (.int k') w) (hb:k'.wrap a=b):l8 C σ E o (.val (.int k' b)) :=
 i7 fun M w ρ _ h=>by
  have h1:=h x w9 hx;rw [ex] at h1;refine ⟨.int k' b,?_,.val _⟩;simp [execOp,ho,convert,hs,hd,r3 h1,Conv.intToInt,hb]
theorem c2g {f:FuncId} {cx:Operand} {xs:Array Operand} {av:List CV} {K:W5->List b9->Prop} (ho:o.op = .call { callee:=.value cx,args:=xs,argTypes:=ts}) (hc:E.valid cx) (ec:E.val C cx = .val (.func (.func f) #[] #[])) (aA:∀ args w,(callFunc f args).run C.P w = .ok (.enter f args) w)
 (hv:∀ x∈xs.toList,E.valid x) (ea:xs.toList.map (E.val C)=av) (h:b8 C f av σ K):G9 C σ E o K:=fun M w ρ hr hh=>by
 have hf:=hh cx H9 hc;rw [ec] at hf;have ef:=r3 hf;have au:(execOp ρ o).run C.P w = .ok (.enter f (xs.map ρ)) w:=by
  simp [execOp,ho,resolve,ef,Deferred.ofValue,invoke,aA]
 rw [au];refine (h M w (xs.map ρ) hr (by simp [<- ea]) fun i c hi=>?_).mono fun e w' he=>by cases e<;>exact he
 subst ea;simp only [O5,N6] at hi;obtain ⟨x,hx,rfl⟩:=hi;have aC:xs[i]? = some x:=sp_ hx;have hm:x∈xs:=b6t aC;have:(xs.map ρ).getD i undef=ρ x:=by
  rw [a0H,b3T,aC];rfl
 rw [this];exact hh x (by simp [ho,Op.operands,Call.operands,hm]) (hv x (sp_ hm))
theorem d6g {k:IntKind} (ho:o.op = .call { callee:=.builtin .min,args:=#[x,y],argTypes:=ts}) (hx:E.valid x) (hy:E.valid y) (ex:E.val C x = .val (.int k a)) (ey:E.val C y = .val (.int k b)):l8 C σ E o (.val (.int k (min a b))) :=
 i7 fun M w ρ _ h=>by
  have h1:=h x H9 hx;have h2:=h y H9 hy;rw [ex] at h1;rw [ey] at h2;refine ⟨.int k (min a b),?_,.val _⟩;simp [execOp,ho,resolve,invoke,builtin,r3 h1,r3 h2,Go.Lib.run_min_ints]
end
end Go.Cl
