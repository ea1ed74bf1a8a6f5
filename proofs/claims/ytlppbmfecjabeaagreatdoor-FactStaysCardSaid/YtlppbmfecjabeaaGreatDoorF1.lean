/- Part 1 of what the claim needs: values without addresses, and what the program's functions do with them. -/
import Derived.WalkKit
import Derived.Below
import Derived.WideKeyArgs
import Derived.ChangeSame
import Derived.ChangeSlices
import Derived.Lib.SmallJoins
import Derived.LaidLaws
import Derived.LaidMore
import Derived.LaidHandle
import Derived.JoinedOf
import Derived.Handed
import Derived.Stop.Joined
import Derived.Lib.MinMax
import Derived.Test.YtlppbmfecjabeaaGreatDoorF0
set_option linter.all false
set_option maxRecDepth 100000
set_option maxHeartbeats 4000000
namespace Go.Cl
variable {w w':World} {a:Act} {aa:Array Oper} {v:Value} {n t j id:Nat} {o:Oper} {l:List Oper} {b au:Bool} {x y:Code}
inductive CV where
 | val (v:Value)
 | agg (cs:List CV)
 | tup (cs:List CV)
 | list (V:List (List CV)) (nn:Bool) (tok:Option Nat)
 | ptr (k off:Nat)
 | cptr (cells:List CV)
 | eptr (k i off:Nat)
 | vec (k off len:Nat)
 | map (k:Nat)
 | yld (k:Nat)
 | clo (f:FuncId) (cs:List CV)
variable {c:CV}
instance:Inhabited CV:=⟨.val undef⟩
structure Pl where
 block:Nat
 cap:Nat
 size:Nat
structure A5 where
 pl:List Pl
 full:Nat->Prop
 cell:Nat->Nat->Prop
 keep:Nat->Prop
variable {M M':A5}
def A5.at (M:A5) (b o:Nat):Prop:=M.full b\/M.cell b o
def CV.one:CV->Bool
 | .val v=>v.oneCell'
 | .agg _ | .tup _=>false
 | _=>true
inductive RV (M:A5) (w:World):CV->Value->Prop where
 | val (v:Value):RV M w (.val v) v
 | agg {cs:List CV} {vs:Array Value}:vs.size=cs.length->(∀ c∈cs,c.one=true)->(∀ (i:Nat) (c:CV),cs[i]? = some c->RV M w c (vs.getD i undef))->RV M w (.agg cs) (.agg vs)
 | tup {cs:List CV} {vs:Array Value}:vs.size=cs.length->(∀ (i:Nat) (c:CV),cs[i]? = some c->RV M w c (vs.getD i undef))->RV M w (.tup cs) (.tuple vs)
 | clo {f:FuncId} {cs:List CV} {vs:Array Value}:vs.size=cs.length->(∀ (i:Nat) (c:CV),cs[i]? = some c->RV M w c (vs.getD i undef))->RV M w (.clo f cs) (.func (.func f) #[] vs)
 | list {V:List (List CV)} {nn:Bool} {tok:Option Nat} {a:Option Addr} {cap b off s:Nat} (vals:Nat->Nat->Value) :
  V.length<=cap->cap<=maxLen->a.isSome=nn->(nn=false->cap=0)->(V≠[]->a=some ⟨b,off,none⟩) ->
  (∀ r∈V,r.length=s)->(∀ r∈V,∀ c∈r,c.one=true) ->
  (∀ (i j:Nat) (r:List CV) (c:CV),V[i]? = some r->r[j]? = some c->M.at b (off+i*s+j)/\w.cell? ⟨b,off+i*s+j,none⟩=some (vals i j)) ->
  (∀ (i j:Nat) (r:List CV) (c:CV),V[i]? = some r->r[j]? = some c->RV M w c (vals i j)) ->
  (∀ k,tok=some k->∃ s',M.pl[k]? = some ⟨b,cap,s'⟩/\a=some ⟨b,0,none⟩/\off=0/\(V≠[]->s'=s)) ->
  RV M w (.list V nn tok) (.slice a V.length cap)
 | ptr {k off:Nat} {p:Pl}:M.pl[k]? = some p->RV M w (.ptr k off) (.pointer (some ⟨p.block,off,none⟩))
 | cptr {cells:List CV} {b off:Nat} (vals:Nat->Value):(∀ c∈cells,c.one=true) ->
  (∀ (j:Nat) (c:CV),cells[j]? = some c->M.at b (off+j)/\w.cell? ⟨b,off+j,none⟩=some (vals j)) ->
  (∀ (j:Nat) (c:CV),cells[j]? = some c->RV M w c (vals j)) ->
  RV M w (.cptr cells) (.pointer (some ⟨b,off,none⟩))
 | eptr {k i off:Nat} {p:Pl}:M.pl[k]? = some p->RV M w (.eptr k i off) (.pointer (some ⟨p.block,i*p.size+off,none⟩))
 | vec {k off len:Nat} {p:Pl} {a:Addr}:M.pl[k]? = some p->off+len<=p.cap->p.cap<=maxLen->(off < p.cap->a=⟨p.block,off*p.size,none⟩)->RV M w (.vec k off len) (.slice (some a) len (p.cap - off))
 | map {k:Nat} {p:Pl}:M.pl[k]? = some p->RV M w (.map k) (.map (some p.block))
 | yld {k:Nat} {p:Pl}:M.pl[k]? = some p->RV M w (.yld k) (.func (.yield p.block) #[] #[])
theorem Q8 {a b:Nat} (h:a<=b:=by first|exact n_6 _|exact Nat.le_add_right _ _):a<=b:=h
structure Ext (M:A5) (w:World) (M':A5) (w':World):Prop where
 pl:∃ l,M'.pl=M.pl++l
 full:∀ b,M.full b->M'.full b
 cell:∀ b o,M.cell b o->M'.at b o
 same:∀ b,M.full b->w'.heap[b]? = w.heap[b]?
 sameC:∀ b o,M.cell b o->w'.cell? ⟨b,o,none⟩=w.cell? ⟨b,o,none⟩
 size:w.heap.size<=w'.heap.size
 drew:w.drawn<=w'.drawn
 os:w'.os=w.os
 tape:w'.tape=w.tape
 output:w'.output=w.output
 kept:∀ b,M.keep b->M'.keep b/\w'.heap[b]? = w.heap[b]?/\(M'.full b->M.full b)/\∀ o,M'.cell b o->M.cell b o
theorem Ext.refl (M:A5) (w:World):Ext M w M w :=
 ⟨⟨[],si_⟩,fun _ h=>h,fun _ _ h=>.inr h,fun _ _=>rfl,fun _ _ _=>rfl,n_6 _,Q8,rfl,rfl,rfl,fun _ h=>⟨h,rfl,id,fun _=>id⟩⟩
theorem O6 {b o:Nat} (h:w'.heap[b]? = w.heap[b]?):w'.cell? ⟨b,o,none⟩=w.cell? ⟨b,o,none⟩:=by
 simp [World.cell?,h]
theorem Ext.at (h:Ext M w M' w') {b o:Nat} (ha:M.at b o):M'.at b o/\w'.cell? ⟨b,o,none⟩=w.cell? ⟨b,o,none⟩:=by
 rcases ha with ha | ha
 ·exact ⟨.inl (h.full _ ha),O6 (h.same _ ha)⟩
 ·exact ⟨h.cell _ _ ha,h.sameC _ _ ha⟩
theorem Ext.get (h:Ext M w M' w') {k:Nat} {p:Pl} (hk:M.pl[k]? = some p):M'.pl[k]? = some p:=by
 obtain ⟨l,hl⟩:=h.pl;rw [hl,V3 (n_3.1 hk).1];exact hk
theorem Ext.trans {gF:A5} {w'':World} (h:Ext M w M' w') (k:Ext M' w' gF w''):Ext M w gF w'':=by
 obtain ⟨l,hl⟩:=h.pl;obtain ⟨l',bJ⟩:=k.pl;refine ⟨⟨l++l',by rw [bJ,hl,F7]⟩,fun b hb=>k.full _ (h.full _ hb),fun b o hb=>(k.at (h.cell _ _ hb)).1,fun b hb=>(k.same _ (h.full _ hb)).trans (h.same _ hb),fun b o hb=>?_,b8D h.size k.size,b8D h.drew k.drew,k.os.trans h.os,k.tape.trans h.tape,k.output.trans h.output,fun b hb=>?_⟩
 ·exact (k.at (h.cell _ _ hb)).2.trans (h.sameC _ _ hb)
 ·obtain ⟨h1,h2,h3,h4⟩:=h.kept b hb;obtain ⟨k1,k2,k3,k4⟩:=k.kept b h1;exact ⟨k1,k2.trans h2,fun f=>h3 (k3 f),fun o f=>h4 o (k4 o f)⟩
theorem RV.mono (h:Ext M w M' w') (hr:RV M w c v):RV M' w' c v:=by
 induction hr with
 | val v=>exact .val v
 | agg h1 h2 _ ih=>exact .agg h1 h2 ih
 | tup h1 _ ih=>exact .tup h1 ih
 | clo h1 _ ih=>exact .clo h1 ih
 | list vals h1 h2 h3 h4 h5 h6 h7 h8 _ aU ih =>
  refine .list vals h1 h2 h3 h4 h5 h6 h7 (fun i j r c hi hj=>?_) ih (fun k hk=>?_)
  ·obtain ⟨ha,hc⟩:=h8 i j r c hi hj;exact ⟨(h.at ha).1,(h.at ha).2.trans hc⟩
  ·obtain ⟨s',hp,aL⟩:=aU k hk;exact ⟨s',h.get hp,aL⟩
 | ptr hk=>exact .ptr (h.get hk)
 | cptr vals h1 h2 _ ih =>
  refine .cptr vals h1 (fun j c hj=>?_) ih;obtain ⟨ha,hc⟩:=h2 j c hj;exact ⟨(h.at ha).1,(h.at ha).2.trans hc⟩
 | eptr hk=>exact .eptr (h.get hk)
 | vec hk h1 h2 h3=>exact .vec (h.get hk) h1 h2 h3
 | map hk=>exact .map (h.get hk)
 | yld hk=>exact .yld (h.get hk)
theorem RV.one (hr:RV M w c v) (hc:c.one=true):v.oneCell'=true:=by
 cases hr<;>first|rfl|exact hc|(simp [CV.one] at hc)
inductive b9 where
 | dead
 | boxT (ty:Option TypeId) (cells:List CV)
 | tipT (ty:Option TypeId) (n:Nat)
 | vec (s:Nat) (V:List (List CV))
 | map (es:List (CV × CV))
 | iter (aD left:List (CV × CV))
 | blk (o:Obj)
 | lp (o:Loop) (n:Nat) (cs:List (Nat × CV))
variable {σ:List b9}
abbrev b9.box (cells:List CV):b9:=.boxT none cells
abbrev b9.tip (n:Nat):b9:=.tipT none n
def b9.live:b9->Bool
 | .dead=>false
 | _=>true
def b0H (ab:Array MapEntry):Prop:=∀ (i j:Nat) (e e':MapEntry),ab[i]? = some e->ab[j]? = some e'->e.born=e'.born->i=j
def Q3 (M:A5) (w:World) (p:Pl):b9->Prop
 | .dead=>True
 | .boxT t0 cells=>∃ ak ty,w.heap[p.block]? = some (.cells ak (t0.getD ty) (0,0))/\ak.size=cells.length/\(∀ c∈cells,c.one=true)/\∀ (i:Nat) (c:CV),cells[i]? = some c->RV M w c (ak.getD i undef)
 | .tipT t0 n=>n<=p.cap/\p.cap<=maxLen/\((∀ o,M.cell p.block o->o < n*p.size)/\(t0.isSome=true->p.size=1))/\∃ ak ty,w.heap[p.block]? = some (.cells ak (t0.getD ty) (0,0))/\ak.size=p.cap*p.size
 | .vec s V=>p.size=s/\V.length<=p.cap/\p.cap<=maxLen/\(∀ r∈V,r.length=p.size)/\(∀ r∈V,∀ c∈r,c.one=true)/\∃ ak ty,w.heap[p.block]? = some (.cells ak ty (0,0))/\ak.size=p.cap*p.size /\
  ∀ (i j:Nat) (r:List CV) (c:CV),V[i]? = some r->r[j]? = some c->RV M w c (ak.getD (i*p.size+j) undef)
 | .map es=>∃ (ab:Array MapEntry) (ai:Nat),w.heap[p.block]? = some (.map ab ai)/\(ab.size=es.length/\b0H ab)/\(∀ (i:Nat) (x:CV × CV),es[i]? = some x->∃ e,ab[i]? = some e/\RV M w x.1 e.key/\RV M w x.2 e.val/\e.born < ai)
 | .iter aD left=>∃ (mb:Nat) (seen:Array Nat) (bB:Nat) (ab:Array MapEntry) (ai:Nat),w.heap[p.block]? = some (.mapIter (some mb) ai seen bB)/\M.full mb/\w.heap[mb]? = some (.map ab ai)/\(seen = #[]\/bB=ai)/\b0H ab/\(∀ (i:Nat) (e:MapEntry),ab[i]? = some e->e.born < ai)/\(ab.toList.filter fun e=>!seen.contains e.born).length=left.length/\(∀ (i:Nat) (x:CV × CV),left[i]? = some x->∃ e,(ab.toList.filter fun e=>!seen.contains e.born)[i]? = some e/\RV M w x.1 e.key/\RV M w x.2 e.val)/\∀ (i:Nat) (x:CV × CV),aD[i]? = some x->bB=ai/\∃ (j:Nat) (e:MapEntry),ab[j]? = some e/\seen.back? = some e.born/\RV M w x.1 e.key/\RV M w x.2 e.val
 | .blk o=>w.heap[p.block]? = some o
 | .lp o n cs=>∃ tmps,w.heap[p.block]? = some (.loop { o with tmps})/\tmps.size=n/\∀ x∈cs,RV M w x.2 (tmps.getD x.1 undef)
def a6v (M:A5) (p:Pl):b9->Prop
 | .dead=>True
 | .tipT _ _=>¬ M.full p.block
 | _=>¬ M.full p.block/\∀ o,¬ M.cell p.block o
structure TyE where
 agg:Bool
 size:Nat
 offs:List Nat
def TyE.right (P:Program) (t:Nat) (e:TyE):Prop:=(∀ w,(isAgg t).run P w = .ok e.agg w)/\(∀ w,(sizeOf t).run P w = .ok e.size w) /\
 (e.offs=[]\/∃ fs:Array Field,(∀ w,(underlying t).run P w = .ok (.struct fs) w)/\∀ (i d:Nat),e.offs[i]? = some d->∃ (fd:Field) (s:Nat),fs[i]? = some fd/\fd.offset=d/\(∀ w,(sizeOf fd.type).run P w = .ok s w)/\s≠0)
structure Ctx where
 P:Program
 glob:Nat->Option (List CV)
 tab:List (Nat × TyE):=[]
 right:∀ x∈tab,x.2.right P x.1:=by intro x h;cases h
variable {C:Ctx}
structure GV (M:A5) (w:World) (cells:List CV) (g:Nat):Prop where
 rv:RV M w (.cptr cells) (.pointer (some ⟨g,0,none⟩))
 full:M.full g
 sz:∃ ak ty fr,w.heap[g]? = some (.cells ak ty fr)/\ak.size=cells.length
theorem GV.mono (h:Ext M w M' w') {cells:List CV} {g:Nat} (hg:GV M w cells g):GV M' w' cells g :=
 ⟨hg.rv.mono h,h.full _ hg.full,by rw [h.same _ hg.full];exact hg.sz⟩
structure Rel (C:Ctx) (M:A5) (σ:List b9) (w:World):Prop where
 len:M.pl.length=σ.length
 blk:∀ b o,M.at b o->b < w.heap.size
 obj:∀ (k:Nat) (p:Pl) (ob:b9),M.pl[k]? = some p->σ[k]? = some ob->Q3 M w p ob/\a6v M p ob
 inj:∀ (k k':Nat) (p p':Pl) (ob aN:b9),M.pl[k]? = some p->M.pl[k']? = some p'->σ[k]? = some ob->σ[k']? = some aN->ob.live=true->aN.live=true->p.block=p'.block->k=k'
 glob:∀ g cells,C.glob g=some cells->GV M w cells g
 kep:∀ b,M.keep b->b < w.heap.size
 nk:∀ (k:Nat) (p:Pl) (ob:b9),M.pl[k]? = some p->σ[k]? = some ob->ob.live=true->¬ M.keep p.block
inductive Ok where
 | yes
 | two (a b:Prop)
def Ok.is:Ok->Prop
 | .yes=>True
 | .two a _=>a
def Ok.un:Ok->Prop
 | .yes=>¬ True
 | .two _ b=>b
structure Env where
 h:Nat->Option CV
 g:Nat->Ok
variable {E:Env}
def Env.f (E:Env) (t:Nat):CV:=(E.h t).getD (.val undef)
def Env.ok (E:Env) (t:Nat):Prop:=(E.g t).is
def Env.un (E:Env) (t:Nat):Prop:=(E.g t).un
def Env.putO (E:Env) (d:Option Nat) (c:CV) (g:Ok):Env :=
 match d with
 | none=>E
 | some d=>{ h:=fun t=>match Nat.beq t d with | true=>some c | false=>E.h t,g:=fun t=>match Nat.beq t d with | true=>g | false=>E.g t}
abbrev Env.put (E:Env) (d:Option Nat) (c:CV) (g:Prop):Env:=E.putO d c (.two g (¬ g))
def Env.hide (E:Env) (d:Option Nat):Env :=
 match d with
 | none=>E
 | some d=>{ h:=E.h,g:=fun t=>match Nat.beq t d with | true=>.two False False | false=>E.g t}
theorem b74 {d:Nat} (h:¬ t=d):Nat.beq t d=false:=b9K.2 fun hb=>h (a3R hb)
theorem Env.putO_f (E:Env) (d:Nat) (c:CV) (g:Ok) (t:Nat):(E.putO (some d) c g).f t=if t=d then c else E.f t:=by
 show (match Nat.beq t d with | true=>some c | false=>E.h t).getD _=_;by_cases h:t=d
 ·subst h;simp
 ·rw [b74 h,n_0 h];rfl
theorem Env.putO_g (E:Env) (d:Nat) (c:CV) (g:Ok) (t:Nat):(E.putO (some d) c g).g t=if t=d then g else E.g t:=by
 show (match Nat.beq t d with | true=>g | false=>E.g t)=_;by_cases h:t=d
 ·subst h;simp
 ·rw [b74 h,n_0 h]
theorem Env.putO_ok (E:Env) (d:Nat) (c:CV) (g:Ok) (t:Nat):(E.putO (some d) c g).ok t=if t=d then g.is else E.ok t:=by
 unfold Env.ok;rw [E.putO_g];split<;>rfl
theorem Env.putO_un (E:Env) (d:Nat) (c:CV) (g:Ok) (t:Nat):(E.putO (some d) c g).un t=if t=d then g.un else E.un t:=by
 unfold Env.un;rw [E.putO_g];split<;>rfl
theorem Env.put_f (E:Env) (d:Nat) (c:CV) (g:Prop) (t:Nat):(E.put (some d) c g).f t=if t=d then c else E.f t:=E.putO_f d c _ t
theorem Env.put_ok (E:Env) (d:Nat) (c:CV) (g:Prop) (t:Nat):(E.put (some d) c g).ok t=if t=d then g else E.ok t:=by
 unfold Env.ok;rw [E.putO_g];split<;>rfl
theorem Env.put_un (E:Env) (d:Nat) (c:CV) (g:Prop) (t:Nat):(E.put (some d) c g).un t=if t=d then ¬ g else E.un t:=by
 unfold Env.un;rw [E.putO_g];split<;>rfl
theorem Env.hide_at (E:Env) (d t:Nat):(E.hide (some d)).f t=E.f t/\(E.hide (some d)).ok t=(if t=d then False else E.ok t)/\(E.hide (some d)).un t=(if t=d then False else E.un t):=by
 have hg:(E.hide (some d)).g t=if t=d then .two False False else E.g t:=by
  show (match Nat.beq t d with | true=>Ok.two False False | false=>E.g t)=_;by_cases h:t=d
  ·subst h;simp
  ·rw [b74 h,n_0 h]
 unfold Env.ok Env.un;rw [hg];refine ⟨rfl,?_,?_⟩<;>split<;>rfl
def b4D:Value->CV
 | .slice none _ _=>.list [] false none
 | v=>.val v
def I2:Value->CV
 | .agg cs=>.agg (cs.toList.map b4D)
 | v=>b4D v
def Z5:Value->Bool
 | .slice none 0 0=>true
 | .slice _ _ _=>false
 | v=>v.oneCell'
def M5:Value->Bool
 | .agg cs=>cs.toList.all Z5
 | .slice none 0 0=>true
 | .slice _ _ _=>false
 | _=>true
def Env.val (C:Ctx) (E:Env):Operand->CV
 | .tmp t=>E.f t
 | .const v=>I2 v
 | .global g=>match C.glob g with
  | some cells=>.cptr cells
  | none=>.val (.pointer (some ⟨g,0,none⟩))
 | .func f=>.val (.func (.func f) #[] #[])
def Env.valid (E:Env):Operand->Prop
 | .tmp t=>E.ok t
 | .const v=>M5 v=true
 | _=>True
theorem b7D (h:Z5 v=true):RV M w (b4D v) v:=by
 cases v with
 | slice a n c =>
  cases a with
  | some a=>simp [Z5] at h
  | none =>
   have:n=0/\c=0:=by
    rcases n with _ | n<;>rcases c with _ | c<;>simp [Z5] at h ⊢
   obtain ⟨rfl,rfl⟩:=this;exact RV.list (V:=[]) (b:=0) (off:=0) (s:=0) (fun _ _=>undef) (n_6 _) (by simp [maxLen]) rfl a1N (fun h=>absurd rfl h) si_ si_ si_ si_ si_
 | _=>exact .val _
theorem c3L (h:Z5 v=true):(b4D v).one=true:=by
 cases v with
 | slice a n c=>cases a<;>rfl
 | _=>simpa [b4D,CV.one,Z5] using h
theorem a0c (h:M5 v=true):RV M w (I2 v) v:=by
 cases v with
 | agg cs =>
  have hc:∀ v∈cs,Z5 v=true:=by
   have h':∀ v∈cs.toList,Z5 v=true:=a5p.1 h;exact fun v hv=>h' v (sp_ hv)
  refine .agg si_ (fun c hm=>?_) (fun i c hi=>?_)
  ·obtain ⟨v,hv,rfl⟩:=I9.1 hm;exact c3L (hc v (sp_ hv))
  ·simp only [Q0,N0] at hi;obtain ⟨v,hv,rfl⟩:=hi;have fW:cs[i]? = some v:=sp_ hv;rw [a0k,fW];exact b7D (hc v (b32 fW))
 | slice a n c =>
  refine b7D ?_
  rcases a with _ | a
  ·rcases n with _ | n<;>rcases c with _ | c<;>simp [M5,Z5] at h ⊢
  ·simp [M5] at h
 | _=>exact .val _
structure I8 (M:A5) (w:World) (n:Nat) (E:Env) (a:Act):Prop where
 defers:a.defers=[]
 size:a.tmps.size=n
 rv:∀ t,E.ok t->RV M w (E.f t) (a.tmps.getD t undef)
 un:∀ t,E.un t->a.tmps.getD t undef=undef
theorem I8.mono (h:Ext M w M' w') (hf:I8 M w n E a):I8 M' w' n E a :=
 ⟨hf.defers,hf.size,fun t ht=>(hf.rv t ht).mono h,hf.un⟩
theorem I8.put {d:Option Nat} {g:Prop} (hf:I8 M w n E a) (hd:∀ t,d=some t->t < n) (hv:g->RV M w c v) (hu:¬ g->v=undef) :
 I8 M w n (E.put d c g) (a.put d v):=by
 cases d with
 | none=>exact hf
 | some d =>
  have hdn:=hd d rfl;refine ⟨hf.defers,by simp [Act.put,hf.size],fun t ht=>?_,fun t ht=>?_⟩;by_cases gM:t=d
  ·subst gM;simp only [Env.put_f,Env.put_ok,if_true] at ht ⊢;have:(a.put (some t) v).tmps.getD t undef=v:=by simp [Act.put,hf.size,hdn]
   rw [this];exact hv ht
  ·simp only [Env.put_f,Env.put_ok,n_0 gM] at ht ⊢;have:(a.put (some d) v).tmps.getD t undef=a.tmps.getD t undef:=by simp [Act.put,b5E (Ne.symm gM)]
   rw [this];exact hf.rv t ht
  ·by_cases gM:t=d
   ·subst gM;simp only [Env.put_un,if_true] at ht;have:(a.put (some t) v).tmps.getD t undef=v:=by simp [Act.put,hf.size,hdn]
    rw [this];exact hu ht
   ·simp only [Env.put_un,n_0 gM] at ht;have:(a.put (some d) v).tmps.getD t undef=a.tmps.getD t undef:=by simp [Act.put,b5E (Ne.symm gM)]
    rw [this];exact hf.un t ht
theorem I8.hide {d:Option Nat} (hf:I8 M w n E a):I8 M w n (E.hide d) (a.put d v):=by
 cases d with
 | none=>exact hf
 | some d =>
  refine ⟨hf.defers,by simp [Act.put,hf.size],fun t ht=>?_,fun t ht=>?_⟩
  ·rw [(E.hide_at d t).2.1] at ht;split at ht
   ·exact ht.elim
   ·rename_i gM;have:(a.put (some d) v).tmps.getD t undef=a.tmps.getD t undef:=by simp [Act.put,b5E (Ne.symm gM)]
    rw [this];exact hf.rv t ht
  ·rw [(E.hide_at d t).2.2] at ht;split at ht
   ·exact ht.elim
   ·rename_i gM;have:(a.put (some d) v).tmps.getD t undef=a.tmps.getD t undef:=by simp [Act.put,b5E (Ne.symm gM)]
    rw [this];exact hf.un t ht
theorem I8.eval (hr:Rel C M σ w) (hf:I8 M w n E a) {x:Operand} (hx:E.valid x):RV M w (E.val C x) (a.eval x):=by
 cases x with
 | tmp t=>exact hf.rv t hx
 | const v=>exact a0c hx
 | global g =>
  simp only [Env.val,Act.eval]
  split
  ·rename_i cells hc;exact (hr.glob g cells hc).rv
  ·exact .val _
 | func f=>exact .val _
inductive Q9 where
 | ret (c:CV)
 | pan (c:CV)
variable {K K':Q9->List b9->Prop}
def b1s (P:Program) (K:Value->World->Prop) (Kp:List PanicEntry->World->Prop):Result Next->Prop
 | .ok (.value v) w'=>K v w'
 | .ok .skip w'=>K undef w'
 | .ok (.enter f args) w'=>Calls P f args w' fun
  | .returned v,w''=>K v w''
  | .panicked ch,w''=>Kp ch w''
  | .outgrown,_=>False
 | .halt (.panic v) w'=>Kp [{ v,recovered:=false}] w'
 | _=>False
theorem b1s.mono {P:Program} {K K':Value->World->Prop} {Kp Kp':List PanicEntry->World->Prop} {r:Result Next} (h:b1s P K Kp r) (hk:∀ v w,K v w->K' v w) (hp:∀ c w,Kp c w->Kp' c w):b1s P K' Kp' r:=by
 cases r with
 | ok x w =>
  cases x<;>simp only [b1s] at h ⊢
  case value v=>exact hk _ _ h
  case skip=>exact hk _ _ h
  case enter f args =>
   refine h.mono fun e w' he=>?_;cases e with
   | returned v=>exact hk _ _ he
   | panicked c=>exact hp _ _ he
   | outgrown=>exact he
 | halt x w =>
  cases x<;>simp only [b1s] at h ⊢
  exact hp _ _ h
theorem a3h {P:Program} {K:Value->World->Prop} {Kp:List PanicEntry->World->Prop} {next:Act->World->Prop} {Q:Exit->Act->World->Prop}
 (h:b1s P K Kp ((execOp a.eval o).run P w)) (hk:∀ v w',K v w'->next (a.put o.dst v) w') (hp:∀ c w',Kp c w'->Q (.panic c) a w'):o.wp P a w next Q:=by
 unfold Oper.wp;generalize (execOp a.eval o).run P w=r at h;cases r with
 | ok x w =>
  cases x<;>simp only [b1s] at h<;>simp only [Oper.upon]
  case value v=>exact hk _ _ h
  case skip=>exact hk _ _ h
  case enter f args =>
   refine h.mono fun e w' he=>?_;cases e with
   | returned v=>exact hk _ _ he
   | panicked c=>exact hp _ _ he
   | outgrown=>exact he.elim
 | halt x w =>
  cases x<;>simp only [b1s] at h<;>simp only [Oper.upon]
  exact hp _ _ h
def a03 (C:Ctx) (M:A5) (w:World) (K:Q9->List b9->Prop) (v:Value) (w':World):Prop :=
 ∃ c Y M',Ext M w M' w'/\Rel C M' Y w'/\RV M' w' c v/\K (.ret c) Y
def R8 (C:Ctx) (M:A5) (w:World) (K:Q9->List b9->Prop) (ch:List PanicEntry) (w':World):Prop :=
 ∃ c v Y M',ch=[{ v,recovered:=false}]/\Ext M w M' w'/\Rel C M' Y w'/\RV M' w' c v/\K (.pan c) Y
def H4 (C:Ctx) (σ:List b9) (E:Env) (o:Oper) (K:Q9->List b9->Prop):Prop :=
 ∀ (M:A5) (w:World) (ρ:Operand->Value),Rel C M σ w->(∀ x∈o.op.operands,E.valid x->RV M w (E.val C x) (ρ x)) ->
  b1s C.P (a03 C M w K) (R8 C M w K) ((execOp ρ o).run C.P w)
def l9 (C:Ctx) (σ:List b9) (E:Env) (o:Oper) (c:CV):Prop:=H4 C σ E o fun r Y=>r = .ret c/\Y=σ
def b8 (C:Ctx) (f:FuncId) (args:List CV) (σ:List b9) (K:Q9->List b9->Prop):Prop :=
 ∀ (M:A5) (w:World) (vs:Array Value),Rel C M σ w->vs.size=args.length->(∀ (i:Nat) (c:CV),args[i]? = some c->RV M w c (vs.getD i undef)) ->
  Calls C.P f vs w fun
   | .returned v,w'=>a03 C M w K v w'
   | .panicked ch,w'=>R8 C M w K ch w'
   | .outgrown,_=>False
theorem a03.mono (h:∀ r σ,K r σ->K' r σ) (ha:a03 C M w K v w'):a03 C M w K' v w':=by
 obtain ⟨c,Y,M',h1,h2,h3,h4⟩:=ha;exact ⟨c,Y,M',h1,h2,h3,h _ _ h4⟩
theorem R8.mono (h:∀ r σ,K r σ->K' r σ) {v:List PanicEntry} (ha:R8 C M w K v w'):R8 C M w K' v w':=by
 obtain ⟨c,u,Y,M',h0,h1,h2,h3,h4⟩:=ha;exact ⟨c,u,Y,M',h0,h1,h2,h3,h _ _ h4⟩
theorem H4.mono (hd:H4 C σ E o K) (h:∀ r σ,K r σ->K' r σ):H4 C σ E o K' :=
 fun M w ρ hr hx=>(hd M w ρ hr hx).mono (fun _ _=>a03.mono h) (fun _ _=>R8.mono h)
theorem b8.mono {f:FuncId} {args:List CV} (hd:b8 C f args σ K) (h:∀ r σ,K r σ->K' r σ):b8 C f args σ K' :=
 fun M w vs hr hn hx=>(hd M w vs hr hn hx).mono fun e w' he=>by
  cases e with
  | returned v=>exact a03.mono h he
  | panicked c=>exact R8.mono h he
  | outgrown=>exact he
inductive A8 where
 | normal
 | exit (id:Nat)
 | goto (l:Nat)
 | ret
 | pan (c:CV)
variable {Q:A8->Env->List b9->Prop}
def Q4 (C:Ctx) (n:Nat) (Q:A8->Env->List b9->Prop) (M:A5) (w:World) (e:Exit) (a':Act) (w':World):Prop :=
 ∃ E' Y M',Ext M w M' w'/\Rel C M' Y w'/\I8 M' w' n E' a' /\
  match e with
  | .normal=>Q .normal E' Y
  | .exit id=>Q (.exit id) E' Y
  | .goto l=>Q (.goto l) E' Y
  | .ret=>Q .ret E' Y
  | .panic ch=>∃ c v,ch=[{ v,recovered:=false}]/\RV M' w' c v/\Q (.pan c) E' Y
  | .outgrown=>False
def CWp (C:Ctx) (n:Nat) (c:Code) (Q:A8->Env->List b9->Prop) (E:Env) (σ:List b9):Prop :=
 ∀ (M:A5) (w:World) (a:Act),Rel C M σ w->I8 M w n E a->c.wp C.P (Q4 C n Q M w) a w
def H7 (C:Ctx) (n:Nat) (aa:Array Oper) (Q:A8->Env->List b9->Prop) (l:List Oper) (E:Env) (σ:List b9):Prop :=
 ∀ (M:A5) (w:World) (a:Act),Rel C M σ w->I8 M w n E a->wpList C.P aa (Q4 C n Q M w) l a w
theorem Q4.mono {Q':A8->Env->List b9->Prop} (h:∀ e E σ,Q e E σ->Q' e E σ) {e:Exit} (hl:Q4 C n Q M w e a w'):Q4 C n Q' M w e a w':=by
 obtain ⟨E',Y,M',h1,h2,h3,h4⟩:=hl;refine ⟨E',Y,M',h1,h2,h3,?_⟩;cases e<;>first|exact h _ _ _ h4|(obtain ⟨c,v,hc,hv,hq⟩:=h4;exact ⟨c,v,hc,hv,h _ _ _ hq⟩)|exact h4
theorem Q4.later {M1:A5} {w1:World} (he:Ext M w M1 w1) {e:Exit} (hl:Q4 C n Q M1 w1 e a w'):Q4 C n Q M w e a w':=by
 obtain ⟨E',Y,M',h1,h2,h3,h4⟩:=hl;exact ⟨E',Y,M',he.trans h1,h2,h3,h4⟩
theorem CWp.mono {c:Code} {Q':A8->Env->List b9->Prop} (h:CWp C n c Q E σ) (hq:∀ e E σ,Q e E σ->Q' e E σ):CWp C n c Q' E σ :=
 fun M w a hr hf=>wp_mono (h M w a hr hf) fun _ _ _=>Q4.mono hq
def A8.next (k:Env->List b9->Prop) (Q:A8->Env->List b9->Prop):A8->Env->List b9->Prop
 | .normal=>k
 | e=>Q e
section
theorem C5 (h:Q .normal E σ):CWp C n .skip Q E σ:=fun M w _ hr hf=>wp_skip ⟨E,σ,M,Ext.refl M w,hr,hf,h⟩
theorem b7t {l:Nat} (h:Q .normal E σ):CWp C n (.label l) Q E σ:=fun M w _ hr hf=>wp_label ⟨E,σ,M,Ext.refl M w,hr,hf,h⟩
theorem j6 (h:Q (.exit id) E σ):CWp C n (.exit id) Q E σ:=fun M w _ hr hf=>wp_exit ⟨E,σ,M,Ext.refl M w,hr,hf,h⟩
theorem c6 (h:Q .ret E σ):CWp C n .ret Q E σ:=fun M w _ hr hf=>wp_ret ⟨E,σ,M,Ext.refl M w,hr,hf,h⟩
theorem D4 (h:CWp C n x (A8.next (CWp C n y Q) Q) E σ):CWp C n (.seq x y) Q E σ:=fun M w a hr hf=>by
 refine wp_seq (wp_mono (h M w a hr hf) fun e a' w' hl=>?_);obtain ⟨E',Y,M',h1,h2,h3,h4⟩:=hl;cases e with
 | normal=>exact wp_mono (h4 M' w' a' h2 h3) fun _ _ _=>Q4.later h1
 | _=>exact ⟨E',Y,M',h1,h2,h3,h4⟩
theorem a5g {c:Operand} (hv:E.valid c) (hc:E.val C c = .val (.bool b)) (ht:b=true->CWp C n x Q E σ) (gN:b=false->CWp C n y Q E σ):CWp C n (.cond c x y) Q E σ:=fun M w a hr hf=>by
 have h1:RV M w (E.val C c) (a.eval c):=hf.eval hr hv;rw [hc] at h1;have h2:a.eval c = .bool b:=by generalize a.eval c=u at h1;cases h1;rfl
 exact wp_cond_split h2 (fun h=>ht h M w a hr hf) (fun h=>gN h M w a hr hf)
def A8.blk (id:Nat) (Q:A8->Env->List b9->Prop):A8->Env->List b9->Prop
 | .exit id',E,σ=>if id'=id then Q .normal E σ else Q (.exit id') E σ
 | e,E,σ=>Q e E σ
theorem a1K {c:Code} (h:CWp C n c (A8.blk id Q) E σ):CWp C n (.block id c) Q E σ:=fun M w a hr hf=>by
 refine wp_block (wp_mono (h M w a hr hf) fun e a' w' hl=>?_);obtain ⟨E',Y,M',h1,h2,h3,h4⟩:=hl;cases e with
 | exit id' =>
  simp only [Exit.inBlock];simp only [A8.blk] at h4
  split<;>rename_i gO
  ·rw [n_1 gO] at h4;exact ⟨E',Y,M',h1,h2,h3,h4⟩
  ·rw [n_0 gO] at h4;exact ⟨E',Y,M',h1,h2,h3,h4⟩
 | _=>exact ⟨E',Y,M',h1,h2,h3,h4⟩
theorem c9X {c:Code} (I:Nat->Env->List b9->Prop) (m:Nat) (h0:I m E σ)
 (round:∀ m E σ,I m E σ->CWp C n c (A8.next (fun E' Y=>∃ m',m' < m/\I m' E' Y) Q) E σ):CWp C n (.loop c) Q E σ:=fun M w a hr hf=>by
 intro b k cs;have key:∀ m E σ M1 w1 a1,I m E σ->Ext M w M1 w1->Rel C M1 σ w1->I8 M1 w1 n E a1 ->
  ∃ e a' w',Q4 C n Q M w e a' w'/\Arrives C.P (lone (b.at a1 (.code c::.inLoop c::k)) cs w1) b k cs e a' w':=by
  intro m
  induction m using Nat.strongRecOn with
  | _ m ih =>
   intro E σ M1 w1 a1 hI hx aI dA;obtain ⟨e,a2,w2,hq,az⟩:=round m E σ hI M1 w1 a1 aI dA b (.inLoop c::k) cs;obtain ⟨E',Y,M',h1,h2,h3,h4⟩:=hq;cases e with
   | normal =>
    obtain ⟨m',ae,hI'⟩:=h4;obtain ⟨eA,eB,eC,cA,bi⟩:=ih m' ae E' Y M' w2 a2 hI' (hx.trans h1) h2 h3;exact ⟨eA,eB,eC,cA,.of_steps (Steps.trans az (.one step_inLoop)) bi⟩
   | exit id=>exact ⟨_,a2,w2,⟨E',Y,M',hx.trans h1,h2,h3,h4⟩,.pass (x:=.inLoop c) rfl (fun _ _=>.inl si_) az⟩
   | goto l=>exact ⟨_,a2,w2,⟨E',Y,M',hx.trans h1,h2,h3,h4⟩,.pass (x:=.inLoop c) rfl (fun _ _=>.inl si_) az⟩
   | ret=>exact ⟨_,a2,w2,⟨E',Y,M',hx.trans h1,h2,h3,h4⟩,.pass (x:=.inLoop c) rfl (fun _ _=>.inl si_) az⟩
   | panic ch=>exact ⟨_,a2,w2,⟨E',Y,M',hx.trans h1,h2,h3,h4⟩,.pass (x:=.inLoop c) rfl (fun _ _=>.inl si_) az⟩
   | outgrown=>exact h4.elim
 obtain ⟨e,a',w',hq,az⟩:=key m E σ M w a h0 (Ext.refl M w) hr hf;exact ⟨e,a',w',hq,.of_steps (.one step_loop) az⟩
theorem C8 (h:H7 C n aa Q aa.toList E σ):CWp C n (.region id aa false) Q E σ :=
 fun M w a hr hf=>wp_region_list (h M w a hr hf)
theorem z8 (h:Q .normal E σ):H7 C n aa Q [] E σ:=fun M w _ hr hf=>wpList_nil ⟨E,σ,M,Ext.refl M w,hr,hf,h⟩
theorem H7.later (h:H7 C n aa Q l E σ) {M1:A5} {w1:World} (hx:Ext M w M1 w1) (hr:Rel C M1 σ w1) (hf:I8 M1 w1 n E a):wpList C.P aa (Q4 C n Q M w) l a w1:=by
 have:=h M1 w1 a hr hf;have hm:∀ (l:List Oper) (a:Act) (w2:World),wpList C.P aa (Q4 C n Q M1 w1) l a w2->wpList C.P aa (Q4 C n Q M w) l a w2:=by
  intro l
  induction l with
  | nil=>exact fun a w2 h=>Q4.later hx h
  | cons o l ih =>
   intro a w2 h;unfold wpList at h ⊢
   split
   ·rename_i hw;rw [n_1 hw] at h;refine h.imp (fun h=>?_) (fun ⟨h1,a0,w0,hl⟩=>⟨h1,a0,w0,Q4.later hx hl⟩);unfold Oper.wp at h ⊢;generalize (execOp a.eval o).run C.P w2=r at h;cases r with
    | ok x w3 =>
     cases x<;>simp only [Oper.upon] at h ⊢
     case value v=>exact ih _ _ h
     case skip=>exact ih _ _ h
     case defer d=>exact ih _ _ h
     case enter f args =>
      refine h.mono fun e w4 he=>?_;cases e with
      | returned v=>exact ih _ _ he
      | panicked ch=>exact Q4.later hx he
      | outgrown=>obtain ⟨a0,w0,hl⟩:=he;exact ⟨a0,w0,Q4.later hx hl⟩
     case row r args=>exact Rows.mono h fun _ _ he=>ih _ _ he
    | halt x w3 =>
     cases x<;>simp only [Oper.upon] at h ⊢
     exact Q4.later hx h
   ·rename_i hw;rw [n_0 hw] at h;exact ih _ _ h
 exact hm _ _ _ this
theorem c0l (hg:o.guard=none) (hd:(match o.dst with | some d=>d < n | none=>True))
 (h:H4 C σ E o fun r Y=>match r with
  | .ret c=>H7 C n aa Q l (E.put o.dst c True) Y
  | .pan c=>Q (.pan c) E Y):H7 C n aa Q (o::l) E σ:=fun M w a hr hf=>by
 unfold wpList;rw [n_1 (by simp [Region.wanted,hg])];refine .inl (a3h (h M w a.eval hr fun x _ hx=>hf.eval hr hx) (fun v w' ha=>?_) (fun ch w' ha=>?_))
 ·obtain ⟨c,Y,M',h1,h2,h3,h4⟩:=ha;exact h4.later h1 h2 ((hf.mono h1).put (fun t ht=>by rw [ht] at hd;exact hd) (fun _=>h3) fun hh=>absurd trivial hh)
 ·obtain ⟨c,v,Y,M',h0,h1,h2,h3,h4⟩:=ha;exact ⟨E,Y,M',h1,h2,hf.mono h1,c,v,h0,h3,h4⟩
theorem b7K (hg:o.guard=some (j,au)) (ht:(aa[j]?).bind (·.dst)=some t) (hv:E.ok t) (hb:E.f t = .val (.bool b))
 (hd:(match o.dst with | some d=>d < n | none=>True)) (hy:b=au->l9 C σ E o c) (h:H7 C n aa Q l (E.put o.dst c (b=au)) σ):H7 C n aa Q (o::l) E σ:=fun M w a hr hf=>by
 have h1:RV M w (E.f t) (a.tmps.getD t undef):=hf.rv t hv;rw [hb] at h1;have h2:a.tmps.getD t undef = .bool b:=by generalize a.tmps.getD t undef=u at h1;cases h1;rfl
 have aF:t < a.tmps.size:=by
  rcases a3c t a.tmps.size with h' | h'
  ·exact h'
  ·simp [a9C h',undef] at h2
 have hw:Region.wanted o (yielded aa a.tmps)=(b == au):=by
  have h3:a.tmps[t]? = some (.bool b):=by
   rw [a0k,a1r aF] at h2;rw [a1r aF,<- h2];rfl
  have h4:yielded aa a.tmps j=some b:=by unfold yielded;rw [ht,n_8,h3]
  simp only [Region.wanted,hg,h4];cases b<;>cases au<;>rfl
 have eW:∀ t,o.dst=some t->t < n:=fun t ht=>by rw [ht] at hd;exact hd
 unfold wpList;by_cases cB:b=au
 ·rw [n_1 (by rw [hw];simpa using cB)];refine .inl (a3h (hy cB M w a.eval hr fun x _ hx=>hf.eval hr hx) (fun v w' ha=>?_) (fun ch w' ha=>?_))
  ·obtain ⟨c',Y,M',h1,h2,h3,h4,rfl⟩:=ha;injection h4 with h4
   subst h4;exact h.later h1 h2 ((hf.mono h1).put eW (fun _=>h3) fun hh=>absurd cB hh)
  ·obtain ⟨c',v,Y,M',h0,h1,h2,h3,h4,_⟩:=ha;cases h4
 ·rw [n_0 (by rw [hw];simpa using cB)];exact h.later (Ext.refl M w) hr (hf.put eW (fun hh=>absurd hh cB) fun _=>rfl)
theorem c3R (hg:o.guard=some (j,au)) (ht:(aa[j]?).bind (·.dst)=some t) (hv:¬ E.ok t->E.un t) (hb:E.f t = .val (.bool b))
 (hd:(match o.dst with | some d=>d < n | none=>True)) (hy:E.ok t->b=au->l9 C σ E o c) (h:H7 C n aa Q l (E.put o.dst c (E.ok t/\b=au)) σ):H7 C n aa Q (o::l) E σ:=by
 by_cases bd:E.ok t
 ·have e:(E.ok t/\b=au)=(b=au):=propext ⟨fun h=>h.2,fun h=>⟨bd,h⟩⟩;rw [e] at h;exact b7K hg ht bd hb hd (hy bd) h
 ·intro M w a hr hf;have h2:=hf.un t (hv bd);have eW:∀ t,o.dst=some t->t < n:=fun t ht=>by rw [ht] at hd;exact hd
  have hw:Region.wanted o (yielded aa a.tmps)=false:=by
   have h4:yielded aa a.tmps j=none:=by
    unfold yielded;rw [ht,n_8]
    rcases a3c t a.tmps.size with h' | h'
    ·rw [a0k,a1r h'] at h2;rw [a1r h'];simp only [a8H] at h2;rw [h2];rfl
    ·rw [a9C h']
   simp only [Region.wanted,hg,h4];cases au<;>rfl
  unfold wpList;rw [n_0 (by rw [hw];simp)];exact h.later (Ext.refl M w) hr (hf.put eW (fun hh=>absurd hh.1 bd) fun _=>rfl)
end
section
theorem c9Q (hg:o.guard=none) (hd:(match o.dst with | some d=>Nat.blt d n | none=>true)=true) (hy:l9 C σ E o c) (h:H7 C n aa Q l (E.put o.dst c True) σ):H7 C n aa Q (o::l) E σ :=
 c0l hg (by
  cases eW:o.dst with
  | none=>trivial
  | some d=>rw [eW] at hd;simpa [a9G] using hd) (hy.mono fun r Y hr=>by
  obtain ⟨rfl,rfl⟩:=hr;exact h)
theorem a2d {aa:Array Oper} {o:Oper} {l:List Oper} (hg:o.guard=none) (hd:(match o.dst with | some d=>Nat.blt d n | none=>true)=true) (h:H4 C σ E o fun r Y=>match r with
 | .ret c=>H7 C n aa Q l (E.put o.dst c True) Y
 | .pan c=>Q (.pan c) E Y):H7 C n aa Q (o::l) E σ :=
 c0l hg (by
  cases eW:o.dst with
  | none=>trivial
  | some d=>rw [eW] at hd;simpa [a9G] using hd) h
theorem d6v (hg:o.guard=some (j,au)) (ht:(aa[j]?).bind (·.dst)=some t) (hv:E.ok t) (hb:E.f t = .val (.bool b))
 (hd:(match o.dst with | some d=>Nat.blt d n | none=>true)=true) (hy:b=au->l9 C σ E o c) (h:H7 C n aa Q l (E.put o.dst c (b=au)) σ):H7 C n aa Q (o::l) E σ :=
 b7K hg ht hv hb (by
  cases eW:o.dst with
  | none=>trivial
  | some d=>rw [eW] at hd;simpa [a9G] using hd) hy h
theorem a4l (hg:o.guard=some (j,au)) (ht:(aa[j]?).bind (·.dst)=some t) (hv:¬ E.ok t->E.un t) (hb:E.f t = .val (.bool b))
 (hd:(match o.dst with | some d=>Nat.blt d n | none=>true)=true) (hy:E.ok t->b=au->l9 C σ E o c) (h:H7 C n aa Q l (E.put o.dst c (E.ok t/\b=au)) σ):H7 C n aa Q (o::l) E σ :=
 c3R hg ht hv hb (by
  cases eW:o.dst with
  | none=>trivial
  | some d=>rw [eW] at hd;simpa [a9G] using hd) hy h
def Env.is (E:Env):List (Nat × CV)->Prop
 | []=>True
 | (t,c)::l=>(E.ok t/\E.f t=c)/\E.is l
def Env.puts (E:Env):List (Nat × CV)->Env
 | []=>E
 | (t,c)::l=>(E.puts l).putO (some t) c .yes
theorem I8.puts (hf:I8 M w n E a):∀ {l:List (Nat × CV)},E.is l->I8 M w n (E.puts l) a
 | [],_=>hf
 | (t,c)::l,⟨⟨h1,h2⟩,h⟩=>by
  have ih:=hf.puts h;refine ⟨hf.defers,hf.size,fun x hx=>?_,fun x hx=>?_⟩
  ·rw [Env.puts,Env.putO_f];rw [Env.puts,Env.putO_ok] at hx
   split
   ·subst x;exact h2 ▸ hf.rv t h1
   ·rename_i aC;rw [n_0 aC] at hx;exact ih.rv x hx
  ·rw [Env.puts,Env.putO_un] at hx;split at hx
   ·exact absurd trivial hx
   ·exact ih.un x hx
theorem CWp.puts {c:Code} {l:List (Nat × CV)} (h:CWp C n c Q (E.puts l) σ) (hE:E.is l):CWp C n c Q E σ:=fun M w a hr hf=>h M w a hr (hf.puts hE)
theorem I4 {α:Type} {c:Code} (l:α->List (Nat × CV)) (S:α->List b9) (I:α->Prop) (m:α->Nat) (a0:α) (h0:I a0) (hE:E.is (l a0)) (ao:σ=S a0)
 (round:∀ (a:α) (E0:Env),I a->CWp C n c (A8.next (fun E' Y=>∃ a',m a' < m a/\I a'/\E'.is (l a')/\Y=S a') Q) (E0.puts (l a)) (S a)):CWp C n (.loop c) Q E σ:=by
 refine c9X (fun k E σ=>∃ a,k=m a/\I a/\E.is (l a)/\σ=S a) (m a0) ⟨a0,rfl,h0,hE,ao⟩ fun k E σ hI=>?_;obtain ⟨a,rfl,hI,hE,rfl⟩:=hI;refine ((round a E hI).puts hE).mono fun e E' Y h=>?_;cases e with
 | normal =>
  obtain ⟨a',h1,h2,h3,h4⟩:=h;exact ⟨m a',h1,a',rfl,h2,h3,h4⟩
 | _=>exact h
theorem M9 {α:Type} (l:α->List (Nat × CV)) (S:α->List b9) (I:α->Prop) (h:CWp C n x (A8.next (fun E' Y=>∃ a,I a/\E'.is (l a)/\Y=S a) Q) E σ) (k:∀ (a:α) (E0:Env),I a->CWp C n y Q (E0.puts (l a)) (S a)):CWp C n (.seq x y) Q E σ:=by
 refine D4 (h.mono fun e E' Y h=>?_);cases e with
 | normal =>
  obtain ⟨a,h1,h2,rfl⟩:=h;exact (k a E' h1).puts h2
 | _=>exact h
end
def U4 (C:Ctx) (E:Env) (σ:List b9) (fn:Func) (c:CV):Prop :=
 ∀ (M:A5) (w:World) (a:Act),Rel C M σ w->(∀ t,E.ok t->RV M w (E.f t) (a.tmps.getD t undef))->∃ v,(results fn a.tmps).run C.P w = .ok v w/\RV M w c v
def Env.args (args:List CV):Env:={ h:=fun t=>args[t]?,g:=fun _=>.yes}
def Fin (C:Ctx) (fn:Func) (K:Q9->List b9->Prop):A8->Env->List b9->Prop
 | .normal,E,σ | .ret,E,σ=>∃ c,U4 C E σ fn c/\K (.ret c) σ
 | .pan c,_,σ=>K (.pan c) σ
 | _,_,_=>False
theorem a70 {f:FuncId} {fn:Func} {c:Code} {args:List CV} (hf:C.P.funcs[f]? = some fn) (hb:fn.body=some c) (hn':Nat.ble args.length fn.ntmps=true)
 (h:CWp C fn.ntmps c (Fin C fn K) (Env.args args) σ):b8 C f args σ K:=fun M w vs hr aF hx=>by
 have hn:=nb hn';refine calls_of_wp hf hb (wp_mono (h M w _ hr ⟨rfl,by simp;omega,fun t _=>?_,fun t ht=>absurd trivial ht⟩) fun e a w' hl=>?_)
 ·simp only [Env.args,Env.f]
  rcases a3c t args.length with ht | ht
  ·have:=hx t (args[t]) (by simp [ht]);have h1:(vs++Array.replicate (fn.ntmps - vs.size) undef).getD t undef=vs.getD t undef:=by
    simp [b8M,aF,ht]
   rw [h1];simpa [ht] using this
  ·have h1:(vs++Array.replicate (fn.ntmps - vs.size) undef).getD t undef=undef:=by
    simp only [a0k,b8M];rw [n_0 om_];rw [Array.getElem?_replicate]
    split<;>rfl
   rw [h1];simp only [b7p ht,Option.getD_none];exact .val _
 ·obtain ⟨E',Y,M',h1,h2,h3,h4⟩:=hl;cases e with
  | normal =>
   obtain ⟨c,hc,hk⟩:=h4;obtain ⟨v,hv,bo⟩:=hc M' w' a h2 h3.rv;exact ⟨h3.defers,v,hv,c,Y,M',h1,h2,bo,hk⟩
  | ret =>
   obtain ⟨c,hc,hk⟩:=h4;obtain ⟨v,hv,bo⟩:=hc M' w' a h2 h3.rv;exact ⟨h3.defers,v,hv,c,Y,M',h1,h2,bo,hk⟩
  | panic ch =>
   obtain ⟨c,v,h0,hv,hk⟩:=h4;exact ⟨h3.defers,c,v,Y,M',h0,h1,h2,hv,hk⟩
  | exit id=>exact h4.elim
  | goto l=>exact h4.elim
  | outgrown=>exact h4.elim
end Go.Cl
namespace Go.Cl
open Sem
variable {x y:Operand} {t t' e:TypeId} {c:CV} {a b:Int} {s off k f:Nat} {w:World} {v:Value} {V:List (List CV)} {nn:Bool} {tok:Option Nat} {cells:List CV}
theorem r6 {M:A5} {u:Value} (h:RV M w (.val v) u):u=v:=by cases h;rfl
theorem R7 (b off n:Nat):(⟨b,off,none⟩:Addr).add n=⟨b,off+n,none⟩:=by
 unfold Addr.add
 split
 ·simp [*]
 ·rfl
theorem a1x {P:Program} {w:World} {a:Addr} (f:Nat->Value):∀ (n i:Nat) (bj:Array Value),(∀ j,j < n->w.cell? (a.add (i+j))=some (f (i+j))) ->
 (loadCellsFrom a i n bj).run P w = .ok (bj++((List.range' i n).map f).toArray) w
 | 0,i,bj,_=>by simp [loadCellsFrom]
 | n+1,i,bj,h=>by
  have h0:=h 0 om_;rw [a7l] at h0;have ih:=a1x (P:=P) (w:=w) (a:=a) f n (i+1) (bj.push (f i)) (fun j hj=>by
   have:=h (j+1) om_;rwa [show i+(j+1)=i+1+j from by omega] at this)
  simp only [loadCellsFrom,Sem.run_bind,run_load,h0,Result.andThen_ok,ih,List.range'_succ,b3E];simp
theorem U0 {P:Program} {b:Nat} (f:Nat->Value) (n:Nat) (h:∀ j,j < n->w.cell? ⟨b,off+j,none⟩=some (f j)) :
 (loadCells ⟨b,off,none⟩ n).run P w = .ok ((List.range n).map f).toArray w:=by
 unfold loadCells;rw [a1x f n 0 #[] (fun j hj=>by rw [R7];simpa using h j hj)];simp [List.range_eq_range']
section
variable {C:Ctx} {σ:List b9} {E:Env} {o:Oper}
theorem i7 (h:∀ (M:A5) (w:World) (ρ:Operand->Value),Rel C M σ w->(∀ x∈o.op.operands,E.valid x->RV M w (E.val C x) (ρ x))->∃ v,(execOp ρ o).run C.P w = .ok (.value v) w/\RV M w c v):l9 C σ E o c :=
 fun M w ρ hr hx=>by
  obtain ⟨v,h1,h2⟩:=h M w ρ hr hx;rw [h1];exact ⟨c,σ,M,Ext.refl M w,hr,h2,rfl,rfl⟩
theorem a0Y (ho:o.op = .move x) (hx:E.valid x) (ec:E.val C x=c):l9 C σ E o c :=
 i7 fun M w ρ _ h=>⟨ρ x,by simp [execOp,ho],ec ▸ h x w9 hx⟩
theorem a4z (ho:o.op = .assign x) (hx:E.valid x) (ec:E.val C x=c):l9 C σ E o c :=
 i7 fun M w ρ _ h=>⟨ρ x,by simp [execOp,ho],ec ▸ h x w9 hx⟩
theorem b13 {b d:Bool} (ho:o.op = .pick x (.const (.bool true)) y) (hx:E.valid x) (ex:E.val C x = .val (.bool b)) (hy:b=false->E.valid y) (ey:b=false->E.val C y = .val (.bool d)):l9 C σ E o (.val (.bool (b || d))) :=
 i7 fun M w ρ _ h=>by
  have h1:=h x w9 hx;have h0:=h (.const (.bool true)) w9 rfl;rw [ex] at h1;have e1:=r6 h1;have e0:ρ (.const (.bool true)) = .bool true:=r6 h0;cases b with
  | true=>exact ⟨.bool true,by simp [execOp,ho,e1,e0,asBool],.val _⟩
  | false =>
   have h2:=h y w9 (hy rfl);rw [ey rfl] at h2;have e2:=r6 h2;exact ⟨.bool d,by simp [execOp,ho,e1,e2,asBool],.val _⟩
theorem b0F {b d:Bool} (ho:o.op = .pick x y (.const (.bool false))) (hx:E.valid x) (ex:E.val C x = .val (.bool b)) (hy:b=true->E.valid y) (ey:b=true->E.val C y = .val (.bool d)):l9 C σ E o (.val (.bool (b && d))) :=
 i7 fun M w ρ _ h=>by
  have h1:=h x w9 hx;have h0:=h (.const (.bool false)) w9 rfl;rw [ex] at h1;have e1:=r6 h1;have e0:ρ (.const (.bool false)) = .bool false:=r6 h0;cases b with
  | false=>exact ⟨.bool false,by simp [execOp,ho,e1,e0,asBool],.val _⟩
  | true =>
   have h2:=h y w9 (hy rfl);rw [ey rfl] at h2;have e2:=r6 h2;exact ⟨.bool d,by simp [execOp,ho,e1,e2,asBool],.val _⟩
def a6z (op:BinOp) (k:IntKind) (a b:Int):Option Value :=
 match op with
 | .add=>some (.int k (k.wrap (a+b)))
 | .sub=>some (.int k (k.wrap (a - b)))
 | .mul=>some (.int k (k.wrap (a*b)))
 | .quo=>if b=0 then none else some (.int k (k.wrap (a.tdiv b)))
 | .rem=>if b=0 then none else some (.int k (a.tmod b))
 | .eql=>some (.bool (a == b))
 | .neq=>some (.bool (a != b))
 | .lss=>some (.bool (a < b))
 | .leq=>some (.bool (a<=b))
 | .gtr=>some (.bool (a > b))
 | .geq=>some (.bool (a>=b))
 | _=>none
theorem a0d {op:BinOp} {k:IntKind} (ho:o.op = .binOp op t x y t') (hx:E.valid x) (hy:E.valid y) (ex:E.val C x = .val (.int k a)) (ey:E.val C y = .val (.int k b)) (hv:a6z op k a b=some v):l9 C σ E o (.val v) :=
 i7 fun M w ρ _ h=>by
  have h1:=h x w9 hx;have h2:=h y w9 hy;rw [ex] at h1;rw [ey] at h2;have e1:=r6 h1;have e2:=r6 h2;refine ⟨v,?_,.val _⟩;cases op<;>simp only [a6z] at hv
  case quo =>
   by_cases hb:b=0
   ·simp [hb] at hv
   ·rw [n_0 hb] at hv;injection hv with hv
    subst hv;simp [execOp,ho,e1,e2,eqGuard,binOp,Op.intDiv,hb]
  case rem =>
   by_cases hb:b=0
   ·simp [hb] at hv
   ·rw [n_0 hb] at hv;injection hv with hv
    subst hv;simp [execOp,ho,e1,e2,eqGuard,binOp,Op.intDiv,hb]
  all_goals first
   | (cases hv;done)
   | (injection hv with hv;subst hv;simp [execOp,ho,e1,e2,eqGuard,binOp,Op.intArith,Op.intCmp])
theorem a83 {x:Int} (h1 : -9223372036854775808<=x) (h2:x<=9223372036854775807):IntKind.i64.wrap x=x:=by
 rw [IntKind.wrap_i64];omega
theorem c0h (ho:o.op = .binOp .add t x y t') (hx:E.valid x) (hy:E.valid y) (ex:E.val C x = .val (.int .i64 a)) (ey:E.val C y = .val (.int .i64 b)) (h1 : -9223372036854775808<=a+b) (h2:a+b<=9223372036854775807):l9 C σ E o (.val (.int .i64 (a+b))):=by
 have:=a0d (σ:=σ) (v:=.int .i64 (IntKind.i64.wrap (a+b))) ho hx hy ex ey rfl;rwa [a83 h1 h2] at this
theorem b08 (ho:o.op = .binOp .sub t x y t') (hx:E.valid x) (hy:E.valid y) (ex:E.val C x = .val (.int .i64 a)) (ey:E.val C y = .val (.int .i64 b)) (h1 : -9223372036854775808<=a - b) (h2:a - b<=9223372036854775807):l9 C σ E o (.val (.int .i64 (a - b))):=by
 have:=a0d (σ:=σ) (v:=.int .i64 (IntKind.i64.wrap (a - b))) ho hx hy ex ey rfl;rwa [a83 h1 h2] at this
theorem b5O (ho:o.op = .binOp .mul t x y t') (hx:E.valid x) (hy:E.valid y) (ex:E.val C x = .val (.int .i64 a)) (ey:E.val C y = .val (.int .i64 b)) (h1 : -9223372036854775808<=a*b) (h2:a*b<=9223372036854775807):l9 C σ E o (.val (.int .i64 (a*b))):=by
 have:=a0d (σ:=σ) (v:=.int .i64 (IntKind.i64.wrap (a*b))) ho hx hy ex ey rfl;rwa [a83 h1 h2] at this
def b0y (op:BinOp) (a b:ByteArray):Option Bool :=
 match op with
 | .eql=>some (a.toList == b.toList)
 | .neq=>some (!(a.toList == b.toList))
 | .lss=>some (Op.bytesLess a.toList b.toList)
 | .leq=>some (Op.bytesLess a.toList b.toList || a.toList == b.toList)
 | .gtr=>some (!(Op.bytesLess a.toList b.toList || a.toList == b.toList))
 | .geq=>some (!Op.bytesLess a.toList b.toList)
 | _=>none
theorem c7u {op:BinOp} {a b:ByteArray} {r:Bool} (ho:o.op = .binOp op t x y t') (hx:E.valid x) (hy:E.valid y) (ex:E.val C x = .val (.string a)) (ey:E.val C y = .val (.string b)) (hv:b0y op a b=some r):l9 C σ E o (.val (.bool r)) :=
 i7 fun M w ρ _ h=>by
  have h1:=h x w9 hx;have h2:=h y w9 hy;rw [ex] at h1;rw [ey] at h2;have e1:=r6 h1;have e2:=r6 h2;refine ⟨.bool r,?_,.val _⟩;cases op<;>simp only [b0y] at hv<;>first
   | (cases hv;done)
   | (injection hv with hv;subst hv;simp [execOp,ho,e1,e2,eqGuard,binOp,Op.stringOp])
theorem b5Q {b:Bool} (ho:o.op = .unOp .not t x) (hx:E.valid x) (ex:E.val C x = .val (.bool b)):l9 C σ E o (.val (.bool (!b))) :=
 i7 fun M w ρ _ h=>by
  have h1:=h x w9 hx;rw [ex] at h1;exact ⟨.bool (!b),by simp [execOp,ho,r6 h1,Op.unary],.val _⟩
theorem c6t {k:IntKind} (ho:o.op = .unOp .neg t x) (hx:E.valid x) (ex:E.val C x = .val (.int k a)):l9 C σ E o (.val (.int k (k.wrap (0 - a)))) :=
 i7 fun M w ρ _ h=>by
  have h1:=h x w9 hx;rw [ex] at h1;exact ⟨.int k (k.wrap (0 - a)),by simp [execOp,ho,r6 h1,Op.unary,Op.intArith],.val _⟩
theorem a4Y {i:Nat} {cs:List CV} (ho:o.op = .extract x i) (hx:E.valid x) (ex:E.val C x = .tup cs) (hi:cs[i]? = some c):l9 C σ E o c :=
 i7 fun M w ρ _ h=>by
  have h1:=h x w9 hx;rw [ex] at h1;generalize hu:ρ x=u at h1;cases h1 with
  | tup aF bo =>
   rename_i vs;have ae:i < vs.size:=by rw [aF];exact (n_3.1 hi).1
   refine ⟨vs.getD i undef,?_,bo i c hi⟩;simp [execOp,ho,hu,Instr.extract,ae]
theorem RV.list_inv {M:A5} (h:RV M w (.list V nn tok) v) :
 ∃ (a:Option Addr) (cap b off s:Nat) (vals:Nat->Nat->Value),v = .slice a V.length cap/\V.length<=cap/\cap<=maxLen/\a.isSome=nn/\(nn=false->cap=0)/\(V≠[]->a=some ⟨b,off,none⟩) /\
  (∀ r∈V,r.length=s)/\(∀ r∈V,∀ c∈r,c.one=true) /\
  (∀ (i j:Nat) (r:List CV) (c:CV),V[i]? = some r->r[j]? = some c->M.at b (off+i*s+j)/\w.cell? ⟨b,off+i*s+j,none⟩=some (vals i j)) /\
  (∀ (i j:Nat) (r:List CV) (c:CV),V[i]? = some r->r[j]? = some c->RV M w c (vals i j)) /\
  (∀ k,tok=some k->∃ s',M.pl[k]? = some ⟨b,cap,s'⟩/\a=some ⟨b,0,none⟩/\off=0/\(V≠[]->s'=s)):=by
 cases h with
 | list vals h1 h2 h3 h4 h5 h6 h7 h8 h9 aU=>exact ⟨_,_,_,_,_,vals,rfl,h1,h2,h3,h4,h5,h6,h7,h8,h9,aU⟩
theorem a0s {ty:TypeId} {n:Int} (ho:o.op = .call { callee:=.builtin .len,args:=#[x],argTypes:=#[t]}) (hx:E.valid x) (ex:E.val C x = .list V nn tok)
 (hu:∀ w,(underlying t).run C.P w = .ok (.slice e) w) (hn:(V.length:Int)=n) (_:o.type=ty):l9 C σ E o (.val (.int .i64 n)) :=
 i7 fun M w ρ _ h=>by
  have h1:=h x H9 hx;rw [ex] at h1;obtain ⟨a,cap,b,off,s,vals,hv,_⟩:=h1.list_inv;subst hn;exact ⟨.int .i64 V.length,by simp [execOp,ho,resolve,invoke,builtin,Builtin.len_,hu,hv,goInt],.val _⟩
theorem a43 {ty:TypeId} {len:Nat} {n:Int} (ho:o.op = .call { callee:=.builtin .len,args:=#[x],argTypes:=#[t]}) (hx:E.valid x) (ex:E.val C x = .vec k off len)
 (hu:∀ w,(underlying t).run C.P w = .ok (.slice e) w) (hn:(len:Int)=n) (_:o.type=ty):l9 C σ E o (.val (.int .i64 n)) :=
 i7 fun M w ρ _ h=>by
  have h1:=h x H9 hx;rw [ex] at h1;generalize eD:ρ x=u at h1;subst hn;cases h1;exact ⟨.int .i64 len,by simp [execOp,ho,resolve,invoke,builtin,Builtin.len_,hu,eD,goInt],.val _⟩
theorem o9 {ix:Operand} {i:Int} {r:List CV} (ho:o.op = .indexAddr t x ix) (hx:E.valid x) (hi:E.valid ix) (ex:E.val C x = .list V nn tok) (ei:E.val C ix = .val (.int .i64 i))
 (hu:∀ w,(underlying t).run C.P w = .ok (.slice e) w) (hs:∀ w,(sizeOf e).run C.P w = .ok s w) (h0:0<=i) (hr:V[i.toNat]? = some r) (hl:r.length=s):l9 C σ E o (.cptr r) :=
 i7 fun M w ρ _ h=>by
  have h1:=h x w9 hx;have h2:=h ix w9 hi;rw [ex] at h1;rw [ei] at h2;obtain ⟨a,cap,b,off,s',vals,hv,bk,_,_,_,ha,cE,aP,hc,bo,_⟩:=h1.list_inv;have ae:i.toNat < V.length:=(n_3.1 hr).1;have aC:V≠[]:=by rintro rfl;simp at ae
  have bu:r∈V:=n_2 hr;have hss:s'=s:=by rw [<- cE r bu,hl]
  subst hss;refine ⟨.pointer (some ⟨b,off+i.toNat*s',none⟩),?_,.cptr (vals i.toNat) (aP r bu) (fun j c hj=>?_) (fun j c hj=>bo _ _ _ _ hr hj)⟩
  ·have bl:i < (V.length:Int):=by omega
   simp [execOp,ho,hv,r6 h2,Instr.indexAt,asIntOf,hu,hs,ha aC,h0,bl,R7]
  ·exact hc _ _ _ _ hr hj
theorem a2E {fs:Array Field} {fd:Field} (ho:o.op = .fieldAddr t x f) (hx:E.valid x) (ex:E.val C x = .cptr cells)
 (hu:∀ w,(underlying t).run C.P w = .ok (.struct fs) w) (hf:fs[f]? = some fd) (hs:∀ w,(sizeOf fd.type).run C.P w = .ok s w) (fp:s≠0):l9 C σ E o (.cptr (cells.drop fd.offset)) :=
 i7 fun M w ρ _ h=>by
  have h1:=h x w9 hx;rw [ex] at h1;generalize eD:ρ x=u at h1;cases h1 with
  | cptr vals h1 h2 h3 =>
   rename_i b off;refine ⟨.pointer (some ⟨b,off+fd.offset,none⟩),?_,.cptr (fun j=>vals (fd.offset+j)) (fun c hc=>h1 c (b1I hc)) (fun j c hj=>?_) (fun j c hj=>?_)⟩
   ·simp [execOp,ho,eD,Instr.fieldAt,hu,hf,Instr.sureAddr,fieldPlace,hs,fp,R7]
   ·rw [a5s] at hj;have:=h2 _ _ hj;rwa [<- a8W] at this
   ·rw [a5s] at hj;exact h3 _ _ hj
theorem j5 {fs:Array Field} {fd:Field} (ho:o.op = .fieldAddr t x f) (hx:E.valid x) (ex:E.val C x = .ptr k off)
 (hu:∀ w,(underlying t).run C.P w = .ok (.struct fs) w) (hf:fs[f]? = some fd) (hs:∀ w,(sizeOf fd.type).run C.P w = .ok s w) (fp:s≠0):l9 C σ E o (.ptr k (off+fd.offset)) :=
 i7 fun M w ρ _ h=>by
  have h1:=h x w9 hx;rw [ex] at h1;generalize eD:ρ x=u at h1;cases h1 with
  | ptr hk=>exact ⟨_,by simp [execOp,ho,eD,Instr.fieldAt,hu,hf,Instr.sureAddr,fieldPlace,hs,fp,R7],.ptr hk⟩
theorem c3T {fs:Array Field} {fd:Field} {i:Nat} (ho:o.op = .fieldAddr t x f) (hx:E.valid x) (ex:E.val C x = .eptr k i off)
 (hu:∀ w,(underlying t).run C.P w = .ok (.struct fs) w) (hf:fs[f]? = some fd) (hs:∀ w,(sizeOf fd.type).run C.P w = .ok s w) (fp:s≠0):l9 C σ E o (.eptr k i (off+fd.offset)) :=
 i7 fun M w ρ _ h=>by
  have h1:=h x w9 hx;rw [ex] at h1;generalize eD:ρ x=u at h1;cases h1 with
  | eptr hk =>
   refine ⟨_,by simp [execOp,ho,eD,Instr.fieldAt,hu,hf,Instr.sureAddr,fieldPlace,hs,fp,R7,a8W],.eptr hk⟩
theorem a0v (ho:o.op = .load t x) (hx:E.valid x) (ex:E.val C x = .cptr cells) (ha:∀ w,(isAgg t).run C.P w = .ok false w) (hc:cells[0]? = some c):l9 C σ E o c :=
 i7 fun M w ρ _ h=>by
  have h1:=h x w9 hx;rw [ex] at h1;generalize eD:ρ x=u at h1;cases h1 with
  | cptr vals h1 h2 h3 =>
   rename_i b off;have:=(h2 0 c hc).2;rw [a7l] at this;exact ⟨vals 0,by simp [execOp,ho,eD,Instr.loadAt,Instr.sureAddr,loadVar,ha,this],h3 0 c hc⟩
theorem W7 (ho:o.op = .load t x) (hx:E.valid x) (ex:E.val C x = .cptr cells) (ha:∀ w,(isAgg t).run C.P w = .ok true w) (hs:∀ w,(sizeOf t).run C.P w = .ok s w) (hl:s<=cells.length):l9 C σ E o (.agg (cells.take s)) :=
 i7 fun M w ρ _ h=>by
  have h1:=h x w9 hx;rw [ex] at h1;generalize eD:ρ x=u at h1;cases h1 with
  | cptr vals h1 h2 h3 =>
   rename_i b off;refine ⟨.agg ((List.range s).map vals).toArray,?_,.agg (by simp [hl]) (fun c hc=>h1 c (a8E hc)) (fun i c hi=>?_)⟩
   ·simp [execOp,ho,eD,Instr.loadAt,Instr.sureAddr,loadVar,ha,hs,U0 (P:=C.P) (w:=w) vals s (fun j hj=>(h2 j cells[j] (by simp [show j < cells.length by omega])).2)]
   ·have aY:i < s:=by
     have:=(n_3.1 hi).1;simp at this;omega
    rw [a2I,n_1 aY] at hi;have:=h3 i c hi;simpa [aY] using this
end
end Go.Cl
namespace Go.Cl
variable {w w0 w':World} {M M' M0:A5} {c c':CV} {s n k off L i b j m ai:Nat} {t e t2 ty:TypeId} {V new:List (List CV)} {σ:List b9} {x y:Operand} {K:Q9->List b9->Prop} {v z:Value} {C:Ctx} {α:Type} {am:List Nat} {p:Pl} {E:Env} {f:FuncId} {t0:Option TypeId} {o:Oper} {nn au:Bool} {ak:Array Value} {P:Program} {g:Prop} {args cs r cargs:List CV} {ob:b9} {xs:Array Operand} {ts:Array TypeId} {parts:Array (Nat × Operand)} {a:Int} {ps:List (Nat × CV)} {l:List Oper} {S:α->List b9}
def A5.add (M:A5) (p:Pl):A5:={ M with pl:=M.pl++[p]}
theorem J5 (w:World) (o:Obj) (h:b < w.heap.size):(w.alloc o).heap[b]? = w.heap[b]?:=by
 show (w.heap.push o)[b]? = _;rw [b6l,n_0 (Nat.ne_of_lt h)]
theorem A4 (w:World) (o:Obj):(w.alloc o).heap[w.heap.size]? = some o:=by
 show (w.heap.push o)[w.heap.size]? = _;rw [b6l,n_1 rfl]
theorem Q3.lt (h:Q3 M w p ob) (hl:ob.live=true):p.block < w.heap.size:=by
 have key:∀ {o:Obj},w.heap[p.block]? = some o->p.block < w.heap.size:=fun h=>(a1z.1 h).1;cases ob with
 | dead=>cases hl
 | boxT t0 cells=>obtain ⟨ak,ty,h,_⟩:=h;exact key h
 | tipT t0 n=>obtain ⟨_,_,_,ak,ty,h,_⟩:=h;exact key h
 | vec s V=>obtain ⟨_,_,_,_,_,ak,ty,h,_⟩:=h;exact key h
 | map es=>obtain ⟨ak,ty,h,_⟩:=h;exact key h
 | iter aD left=>obtain ⟨_,_,_,_,_,h,_⟩:=h;exact key h
 | blk o=>exact key h
 | lp o n cs=>obtain ⟨_,h,_⟩:=h;exact key h
theorem Q3.mono (hx:Ext M w M' w') (hb:w'.heap[p.block]? = w.heap[p.block]?) (hc:∀ t n,ob = .tipT t n->∀ o,M'.cell p.block o->M.cell p.block o) (h:Q3 M w p ob):Q3 M' w' p ob:=by
 cases ob with
 | dead=>trivial
 | boxT t0 cells =>
  obtain ⟨ak,ty,h1,h2,h3,h4⟩:=h;exact ⟨ak,ty,hb.trans h1,h2,h3,fun i c hi=>(h4 i c hi).mono hx⟩
 | blk o=>exact hb.trans h
 | lp o n cs =>
  obtain ⟨tm,h1,h2,h3⟩:=h;exact ⟨tm,hb.trans h1,h2,fun x aB=>(h3 x aB).mono hx⟩
 | tipT t0 n =>
  obtain ⟨h0,fX,h1,ak,ty,h2,h3⟩:=h;exact ⟨h0,fX,⟨fun o ho=>h1.1 o (hc _ n rfl o ho),h1.2⟩,ak,ty,hb.trans h2,h3⟩
 | vec s V =>
  obtain ⟨h0,fX,h000,h1,h2,ak,ty,h3,h4,h5⟩:=h;exact ⟨h0,fX,h000,h1,h2,ak,ty,hb.trans h3,h4,fun i j r c hi hj=>(h5 i j r c hi hj).mono hx⟩
 | map es =>
  obtain ⟨ab,ai,h1,h2,h3⟩:=h;refine ⟨ab,ai,hb.trans h1,h2,fun i x hi=>?_⟩;obtain ⟨e,he,hk,hv,hc⟩:=h3 i x hi;exact ⟨e,he,hk.mono hx,hv.mono hx,hc⟩
 | iter aD left =>
  obtain ⟨mb,seen,bB,ab,ai,h1,h2,h3,h4,h5,h6,h7,h8,h9⟩:=h;refine ⟨mb,seen,bB,ab,ai,hb.trans h1,hx.full _ h2,(hx.same _ h2).trans h3,h4,h5,h6,h7,fun i x hi=>?_,fun i x hi=>?_⟩
  ·obtain ⟨e,he,hk,hv⟩:=h8 i x hi;exact ⟨e,he,hk.mono hx,hv.mono hx⟩
  ·obtain ⟨hl,j,e,he,hs,hk,hv⟩:=h9 i x hi;exact ⟨hl,j,e,he,hs,hk.mono hx,hv.mono hx⟩
theorem Ext.alloc (hr:Rel C M σ w) (p:Pl) (o:Obj):Ext M w (M.add p) (w.alloc o) :=
 ⟨⟨[p],rfl⟩,fun _ h=>h,fun _ _ h=>.inr h,fun b h=>J5 w o (hr.blk b 0 (.inl h)),fun b o' h=>O6 (J5 w o (hr.blk b o' (.inr h))),by rw [b7g];omega,Q8,rfl,rfl,rfl,fun b h=>⟨h,J5 w o (hr.kep b h),id,fun _=>id⟩⟩
theorem Rel.alloc (hr:Rel C M σ w) (p:Pl) (o:Obj) (ob:b9) (hb:p.block=w.heap.size) (h:Q3 (M.add p) (w.alloc o) p ob):Rel C (M.add p) (σ++[ob]) (w.alloc o):=by
 have hx:=Ext.alloc hr p o;have aq:∀ {k:Nat} {q:Pl},(M.add p).pl[k]? = some q->(k < σ.length/\M.pl[k]? = some q)\/(k=σ.length/\q=p):=by
  intro k q hk;simp only [A5.add,a5Y,hr.len] at hk;split at hk
  ·exact .inl ⟨‹_›,hk⟩
  ·rename_i ae;have:k - σ.length=0:=by
    have:=(n_3.1 hk).1;simp at this;omega
   rw [this] at hk;simp at hk;exact .inr ⟨om_,hk.symm⟩
 have eP:∀ {k:Nat} {x:b9},(σ++[ob])[k]? = some x->k < σ.length->σ[k]? = some x:=by
  intro k x hk ae;rwa [V3 ae] at hk
 have hgn:∀ {x:b9},(σ++[ob])[σ.length]? = some x->x=ob:=by
  intro x hk;simp at hk;exact hk.symm
 refine ⟨by simp [A5.add,hr.len],fun b o' ha=>?_,fun k q x hk aB=>?_,fun k k' q q' x x' hk aH bc aK hl bJ hbb=>?_,fun g cells hg=>(hr.glob g cells hg).mono hx,fun b h=>(by rw [b7g];have:=hr.kep b h;omega),fun k q x hk aB bS h=>?_⟩
 ·have:=hr.blk b o' ha;rw [b7g];omega
 ·rcases aq hk with ⟨ae,hq⟩ | ⟨rfl,rfl⟩
  ·have hxo:=eP aB ae;obtain ⟨h1,h2⟩:=hr.obj k q x hq hxo;refine ⟨?_,h2⟩;by_cases hl:x.live=true
   ·exact h1.mono hx (J5 w o (h1.lt hl)) (fun _ _ _ _ h=>h)
   ·cases x<;>first | trivial | simp [b9.live] at hl
  ·have:=hgn aB;subst this;refine ⟨h,?_⟩;have hf:¬ M.full q.block:=fun hf=>by have:=hr.blk q.block 0 (.inl hf);omega
   have hc:∀ o,¬ M.cell q.block o:=fun o hc=>by have:=hr.blk q.block o (.inr hc);omega
   cases x<;>first | trivial|exact hf|exact ⟨hf,hc⟩
 ·rcases aq hk with ⟨ae,hq⟩ | ⟨rfl,rfl⟩
  ·rcases aq aH with ⟨bl,fY⟩ | ⟨rfl,rfl⟩
   ·exact hr.inj k k' q q' x x' hq fY (eP bc ae) (eP aK bl) hl bJ hbb
   ·have:=(hr.obj k q x hq (eP bc ae)).1.lt hl;omega
  ·rcases aq aH with ⟨bl,fY⟩ | ⟨rfl,rfl⟩
   ·have:=(hr.obj k' q' x' fY (eP aK bl)).1.lt bJ;omega
   ·rfl
 ·rcases aq hk with ⟨ae,hq⟩ | ⟨rfl,rfl⟩
  ·exact hr.nk k q x hq (eP aB ae) bS h
  ·have:=hr.kep _ h;omega
def CV.cells:CV->List CV
 | .agg cs=>cs
 | c=>[c]
theorem RV.cells (h:RV M w c v) (ho:c.one=true\/∃ cs,c = .agg cs) :
 v.cells.size=c.cells.length/\(∀ x∈c.cells,x.one=true)/\∀ (i:Nat) (x:CV),c.cells[i]? = some x->RV M w x (v.cells.getD i undef):=by
 rcases ho with ho | ⟨cs,rfl⟩
 ·have hv:=h.one ho;have fW:v.cells = #[v]:=by cases v<;>first|rfl | simp [Value.oneCell'] at hv
  have bC:c.cells=[c]:=by cases c<;>first|rfl | simp [CV.one] at ho
  rw [fW,bC];refine ⟨rfl,sp_ ho,fun i x hi=>?_⟩
  rcases i with _ | i
  ·simp at hi;subst hi;exact h
  ·simp at hi
 ·cases h with
  | agg h1 h2 h3=>exact ⟨h1,h2,h3⟩
variable {cells:List CV}
section
theorem a3u (t:TypeId) (v:Value) (w:World):(newVar t v).run P w = .ok ⟨w.heap.size,0,none⟩ (w.alloc (.cells v.cells t)):=by
 simp [newVar,newRow]
theorem b2I (hr:Rel C M σ w) (h:RV M w c v) (ho:c.one=true\/∃ cs,c = .agg cs) (hk:K (.ret (.ptr σ.length 0)) (σ++[.box c.cells])) :
 a03 C M w K (.pointer (some ⟨w.heap.size,0,none⟩)) (w.alloc (.cells v.cells t)):=by
 obtain ⟨h1,h2,h3⟩:=h.cells ho;have hx:=Ext.alloc hr ⟨w.heap.size,0,0⟩ (.cells v.cells t);refine ⟨.ptr σ.length 0,_,_,hx,hr.alloc ⟨w.heap.size,0,0⟩ _ (.box c.cells) rfl ⟨v.cells,t,A4 w _,h1,h2,fun i x hi=>(h3 i x hi).mono hx⟩,?_,hk⟩;exact .ptr (p:=⟨w.heap.size,0,0⟩) b0W
theorem F5 (ho:o.op = .box t x) (hx:E.valid x) (ex:E.val C x=c) (hc:c.one=true\/∃ cs,c = .agg cs) (hk:K (.ret (.ptr σ.length 0)) (σ++[.box c.cells])):H4 C σ E o K:=fun M w ρ hr h=>by
 have h1:=h x w9 hx;rw [ex] at h1;have:(execOp ρ o).run C.P w = .ok (.value (.pointer (some ⟨w.heap.size,0,none⟩))) (w.alloc (.cells (ρ x).cells t)):=by
  simp [execOp,ho,Instr.box,a3u]
 rw [this];exact b2I hr h1 hc hk
theorem p7 (ho:o.op = .alloc t) (hz:∀ w,(zeroValue t).run C.P w = .ok z w) (bY:M5 z=true) (dB:(I2 z).one=true\/∃ cs,I2 z = .agg cs) (hk:K (.ret (.ptr σ.length 0)) (σ++[.box (I2 z).cells])):H4 C σ E o K:=fun M w ρ hr h=>by
 have:(execOp ρ o).run C.P w = .ok (.value (.pointer (some ⟨w.heap.size,0,none⟩))) (w.alloc (.cells z.cells t)):=by
  simp [execOp,ho,Instr.alloc,hz,a3u]
 rw [this];exact b2I hr (a0c bY) dB hk
theorem b7e (hr:Rel C M σ w) (hp:M.pl[k]? = some p) (hb:σ[k]? = some (.boxT t0 cells)) (hi:cells[i]? = some c) :
 ∃ v,w.cell? ⟨p.block,i,none⟩=some v/\RV M w c v/\w.frozen? ⟨p.block,i,none⟩=false:=by
 obtain ⟨ak,ty,h1,h2,h3,h4⟩:=(hr.obj k p _ hp hb).1;have ae:i < ak.size:=by rw [h2];exact (n_3.1 hi).1
 refine ⟨ak.getD i undef,?_,h4 i c hi,?_⟩
 ·simp [World.cell?,h1,ae]
 ·simp [World.frozen?,h1]
theorem m0 (ho:o.op = .load t x) (hx:E.valid x) (ex:E.val C x = .ptr k off) (ha:∀ w,(isAgg t).run C.P w = .ok false w) (hk:σ[k]? = some (.boxT t0 cells)) (hc:cells[off]? = some c):l9 C σ E o c :=
 i7 fun M w ρ hr h=>by
  have h1:=h x w9 hx;rw [ex] at h1;generalize eD:ρ x=u at h1;cases h1 with
  | ptr hp =>
   obtain ⟨v,hv,bo,_⟩:=b7e hr hp hk hc;exact ⟨v,by simp [execOp,ho,eD,Instr.loadAt,Instr.sureAddr,loadVar,ha,hv],bo⟩
theorem L8 (ho:o.op = .load t x) (hx:E.valid x) (ex:E.val C x = .ptr k off) (ha:∀ w,(isAgg t).run C.P w = .ok true w) (hs:∀ w,(sizeOf t).run C.P w = .ok s w) (hk:σ[k]? = some (.boxT t0 cells)) (hl:off+s<=cells.length):l9 C σ E o (.agg ((cells.drop off).take s)) :=
 i7 fun M w ρ hr h=>by
  have h1:=h x w9 hx;rw [ex] at h1;generalize eD:ρ x=u at h1;cases h1 with
  | ptr hp =>
   rename_i p;obtain ⟨ak,ty,h1,h2,h3,h4⟩:=(hr.obj k p _ hp hk).1;have aO:∀ j,j < s->w.cell? ⟨p.block,off+j,none⟩=some (ak.getD (off+j) undef):=fun j hj=>by
    have:off+j < ak.size:=by omega
    simp [World.cell?,h1,this]
   refine ⟨.agg ((List.range s).map fun j=>ak.getD (off+j) undef).toArray,?_,.agg Q7 (fun c hc=>h3 c (b1I (a8E hc))) (fun i c hi=>?_)⟩
   ·simp [execOp,ho,eD,Instr.loadAt,Instr.sureAddr,loadVar,ha,hs,U0 (P:=C.P) (w:=w) _ s aO]
   ·have aY:i < s:=by
     have:=(n_3.1 hi).1;simp at this;omega
    rw [a2I,n_1 aY,a5s] at hi;have:=h4 (off+i) c hi;simpa [aY] using this
theorem a1W {fn:Func} {t:Nat} (hr:fn.results = #[.tmp t]) (hv:E.ok t) (ec:E.f t=c):U4 C E σ fn c:=fun M w a _ h=>by
 refine ⟨a.tmps.getD t undef,results_tmp hr _ _ _,ec ▸ h t hv⟩
end
def World.putObj (w:World) (b:Nat) (o:Obj):World:={ w with heap:=w.heap.setIfInBounds b o}
theorem World.putObj_same (w:World) (o:Obj) (hb:b < w.heap.size):(World.putObj w b o).heap[b]? = some o:=by
 simp [World.putObj,hb]
theorem World.putObj_other (w:World) {b':Nat} (o:Obj) (h:b≠b'):(World.putObj w b o).heap[b']? = w.heap[b']?:=by
 simp [World.putObj,b5E h]
theorem World.putObj_size (w:World) (b:Nat) (o:Obj):(World.putObj w b o).heap.size=w.heap.size:=by
 simp [World.putObj]
theorem World.putObj_put (w:World) (b:Nat) (o o':Obj):World.putObj (World.putObj w b o) b o'=World.putObj w b o':=by
 simp [World.putObj]
theorem World.putObj_self (w:World) {o:Obj} (h:w.heap[b]? = some o):World.putObj w b o=w:=by
 have:w.heap.setIfInBounds b o=w.heap:=by
  apply b79;intro i;by_cases hi:b=i
  ·subst hi;have ae:=(a1z.1 h).1;rw [h];simp [ae]
  ·rw [b5E hi]
 unfold World.putObj;rw [this]
theorem a9k (w:World) {aD:Array Value} (v:Value) (h:w.heap[b]? = some (.cells aD t (0,0))) :
 w.setCell ⟨b,off,none⟩ v=World.putObj w b (.cells (aD.setIfInBounds off v) t (0,0)):=by
 have ae:=(a1z.1 h).1;unfold World.setCell World.putObj
 congr 1
 apply b79;intro i;rw [b2W];by_cases hi:b=i
 ·subst hi;rw [n_1 rfl,h,Array.getElem?_setIfInBounds_self_of_lt ae];rfl
 ·rw [n_0 hi,b5E hi]
def D2 (aD:Array Value) (o:Nat):List Value->Array Value
 | []=>aD
 | v::vs=>D2 (aD.setIfInBounds o v) (o+1) vs
theorem H6:∀ (vs:List Value) (aD:Array Value) (o:Nat),(D2 aD o vs).size=aD.size
 | [],_,_=>rfl
 | v::vs,aD,o=>by rw [D2,H6 vs];simp
theorem K6:∀ (vs:List Value) (aD:Array Value) (o i:Nat),o+vs.length<=aD.size ->
 (D2 aD o vs).getD i undef=if o<=i/\i < o+vs.length then vs.getD (i - o) undef else aD.getD i undef
 | [],aD,o,i,_=>by
  rw [D2,n_0 (by simp only [I3];omega)]
 | v::vs,aD,o,i,h=>by
  simp only [C4] at h;rw [D2,K6 vs _ _ _ Q7];by_cases h1:o+1<=i/\i < o+1+vs.length
  ·rw [n_1 h1,n_1 (by simp only [C4];omega)];have:i - o=(i - (o+1))+1:=by omega
   rw [this];simp
  ·rw [n_0 h1];by_cases h2:i=o
   ·subst h2;rw [n_1 (by simp only [C4];omega)];have ae:i < aD.size:=by omega
    simp [ae]
   ·rw [n_0 (by simp only [C4];omega)];simp [b5E (Ne.symm h2)]
theorem N3 {P:Program} {b off:Nat} {t:TypeId}:∀ (vs:List Value) (i:Nat) (aD:Array Value) (w:World),w.heap[b]? = some (.cells aD t (0,0))->off+i+vs.length<=aD.size->(∀ v∈vs,v.oneCell'=true) ->
 (storeCells ⟨b,off,none⟩ vs i).run P w = .ok () (World.putObj w b (.cells (D2 aD (off+i) vs) t (0,0)))
 | [],i,aD,w,h,_,_=>by
  simp only [storeCells,D2,World.putObj_self w h];rfl
 | v::vs,i,aD,w,h,hl,h1=>by
  simp only [C4] at hl;have aO:w.cell? ⟨b,off+i,none⟩=some (aD.getD (off+i) undef):=by
   have:off+i < aD.size:=by omega
   simp [World.cell?,h,this]
  have hfz:w.frozen? ⟨b,off+i,none⟩=false:=by simp [World.frozen?,h]
  have hb:b < w.heap.size:=(a1z.1 h).1;simp only [storeCells,R7,Sem.run_bind,run_store P w _ v .plain (h1 v si_),aO,hfz,b2c,if_false,Result.andThen_ok];rw [a9k w v h];have ih:=N3 (P:=P) (off:=off) (t:=t) vs (i+1) (aD.setIfInBounds (off+i) v) (World.putObj w b (.cells (aD.setIfInBounds (off+i) v) t (0,0))) (World.putObj_same w _ hb) Q7 (fun u hu=>h1 u (by simp [hu]));rw [ih,World.putObj_put];rfl
def N9 (cells:List CV) (off:Nat) (new:List CV):List CV:=cells.take off++(new++cells.drop (off+new.length))
theorem Z6 {new:List CV} (h:off+new.length<=cells.length):(N9 cells off new).length=cells.length:=by
 simp [N9];omega
theorem a14 {new:List CV} (h:off+new.length<=cells.length) (i:Nat) :
 (N9 cells off new)[i]? = if off<=i/\i < off+new.length then new[i - off]? else cells[i]?:=by
 unfold N9;rw [a5Y];simp only [a5t,b8C (show off<=cells.length by omega)]
 split
 ·rename_i h1;rw [n_0 om_,a2I,n_1 h1]
 ·rename_i h1;rw [a5Y]
  split
  ·rename_i h2;rw [n_1 om_]
  ·rename_i h2;rw [n_0 om_,a5s]
   congr 1;omega
theorem a11 {new:List CV} (h:c∈N9 cells off new):c∈new\/c∈cells:=by
 simp only [N9,Y1] at h
 rcases h with h | h | h
 ·exact .inr (a8E h)
 ·exact .inl h
 ·exact .inr (b1I h)
theorem Ext.putObj (o:Obj) (hkp:¬ M.keep b) (hf:¬ M.full b) (hc:∀ o,¬ M.cell b o):Ext M w M (World.putObj w b o) :=
 ⟨⟨[],si_⟩,fun _ h=>h,fun _ _ h=>.inr h,fun b' h=>World.putObj_other w o (fun e=>hf (e ▸ h)),fun b' o' h=>O6 (World.putObj_other w o (fun e=>hc o' (e ▸ h))),by rw [World.putObj_size];exact n_6 _,Q8,rfl,rfl,rfl,fun b' h=>⟨h,World.putObj_other w o (fun e=>hkp (e ▸ h)),id,fun _=>id⟩⟩
theorem Rel.putObj (hr:Rel C M σ w) {cR:b9} (hk:M.pl[k]? = some p) (hs:σ[k]? = some cR) (dR:cR.live=true) (hf:¬ M.full p.block) (hc:∀ o,¬ M.cell p.block o) (o:Obj)
 (h:Q3 M (World.putObj w p.block o) p ob):Rel C M (σ.set k ob) (World.putObj w p.block o):=by
 have hx:=Ext.putObj (w:=w) o (hr.nk k p cR hk hs dR) hf hc;have hb:p.block < w.heap.size:=(hr.obj k p cR hk hs).1.lt dR;have aq:∀ {k':Nat} {x:b9},(σ.set k ob)[k']? = some x->(k'=k/\x=ob)\/(k'≠k/\σ[k']? = some x):=by
  intro k' x hh;rw [b1k] at hh;split at hh
  ·rename_i e;split at hh
   ·injection hh with hh;exact .inl ⟨e.symm,hh.symm⟩
   ·cases hh
  ·rename_i e;exact .inr ⟨fun e'=>e e'.symm,hh⟩
 refine ⟨by simp [hr.len],fun b o' ha=>by rw [World.putObj_size];exact hr.blk b o' ha,fun k' q x aH aB=>?_,fun k1 k2 q1 q2 x1 x2 bK bZ bc aK da cT hbb=>?_,fun g cells hg=>(hr.glob g cells hg).mono hx,fun b h=>(by rw [World.putObj_size];exact hr.kep b h),fun k' q x aH aB bS=>?_⟩
 ·rcases aq aB with ⟨rfl,rfl⟩ | ⟨aC,aQ⟩
  ·have:q=p:=by rw [hk] at aH;injection aH with aH;exact aH.symm
   subst this;refine ⟨h,?_⟩;cases x<;>first | trivial|exact hf|exact ⟨hf,hc⟩
  ·obtain ⟨h1,h2⟩:=hr.obj k' q x aH aQ;refine ⟨?_,h2⟩;by_cases hl:x.live=true
   ·refine h1.mono hx (World.putObj_other w o fun e=>aC ?_) (fun _ _ _ _ h=>h);exact hr.inj k' k q p x cR aH hk aQ hs hl dR e.symm
   ·cases x<;>first | trivial | simp [b9.live] at hl
 ·have gP:∀ {k':Nat} {x:b9},(σ.set k ob)[k']? = some x->x.live=true->∃ x',σ[k']? = some x'/\x'.live=true:=by
   intro k' x hh hl
   rcases aq hh with ⟨rfl,rfl⟩ | ⟨_,aQ⟩
   ·exact ⟨cR,hs,dR⟩
   ·exact ⟨x,aQ,hl⟩
  obtain ⟨y1,eQ,hl1'⟩:=gP bc da;obtain ⟨y2,hy2,hl2'⟩:=gP aK cT;exact hr.inj k1 k2 q1 q2 y1 y2 bK bZ eQ hy2 hl1' hl2' hbb
 ·rcases aq aB with ⟨rfl,rfl⟩ | ⟨aC,aQ⟩
  ·rw [hk] at aH;injection aH with aH
   subst aH;exact hr.nk _ _ cR hk hs dR
  ·exact hr.nk k' q x aH aQ bS
section
theorem a2U (h:RV M w c v) (ho:c.one=true\/∃ cs,c = .agg cs):∀ u∈v.cells.toList,u.oneCell'=true:=by
 obtain ⟨h1,h2,h3⟩:=h.cells ho;intro u hu;obtain ⟨i,hi,rfl⟩:=List.mem_iff_getElem.1 hu;have aY:i < v.cells.size:=sp_ hi;have cS:i < c.cells.length:=by omega
 have:=(h3 i c.cells[i] (by simp [cS])).one (h2 _ (b2X cS));simpa [aY] using this
theorem j3 (ho:o.op = .store t x y) (hx:E.valid x) (hy:E.valid y) (ex:E.val C x = .ptr k off) (ey:E.val C y=c) (hs:∀ w,(sizeOf t).run C.P w = .ok s w)
 (hc:c.one=true\/∃ cs,c = .agg cs) (hk:σ[k]? = some (.boxT t0 cells)) (hl:c.cells.length=s) (ae:off+s<=cells.length) (h:K (.ret (.val undef)) (σ.set k (.boxT t0 (N9 cells off c.cells)))):H4 C σ E o K:=fun M w ρ hr hh=>by
 have h1:=hh x w9 hx;have h2:=hh y w9 hy;rw [ex] at h1;rw [ey] at h2;generalize hu:ρ x=u at h1;cases h1 with
 | ptr hp =>
  rename_i p;obtain ⟨⟨ak,ty,e1,e2,e3,e4⟩,hf,cr⟩:=hr.obj k p _ hp hk;obtain ⟨g1,g2,g3⟩:=h2.cells hc;have aP:=a2U h2 hc;have aF:off+c.cells.length<=cells.length:=by omega
  have aw:(execOp ρ o).run C.P w = .ok .skip (World.putObj w p.block (.cells (D2 ak off (ρ y).cells.toList) (t0.getD ty) (0,0))):=by
   have:=N3 (P:=C.P) (b:=p.block) (off:=off) (t:=t0.getD ty) (ρ y).cells.toList 0 ak w e1 Q7 aP;simp only [a7l] at this;simp [execOp,ho,hu,Instr.storeAt,Instr.sureAddr,storeVar,hs,g1,hl,this]
  rw [aw];have hx:=Ext.putObj (w:=w) (.cells (D2 ak off (ρ y).cells.toList) (t0.getD ty) (0,0)) (hr.nk k p _ hp hk rfl) hf cr;have hb:p.block < w.heap.size:=(a1z.1 e1).1;refine ⟨.val undef,_,M,hx,hr.putObj (ob:=.boxT t0 (N9 cells off c.cells)) hp hk rfl hf cr _ ⟨_,ty,World.putObj_same w _ hb,by rw [H6,Z6 aF,e2],fun c' bC=>?_,fun i c' hi=>?_⟩,.val _,h⟩
  ·rcases a11 bC with h' | h'
   ·exact g2 _ h'
   ·exact e3 _ h'
  ·rw [K6 _ _ _ _ Q7];rw [a14 aF] at hi;simp only [a8J,g1];split at hi
   ·rename_i bw;rw [n_1 bw];have:=(g3 _ _ hi).mono hx;simpa using this
   ·rename_i bw;rw [n_0 bw];exact (e4 _ _ hi).mono hx
theorem b3Q (ho:o.op = .call { callee:=.value (.func f),args:=xs,argTypes:=ts}) (aA:∀ args w,(callFunc f args).run C.P w = .ok (.enter f args) w)
 (hv:∀ x∈xs.toList,E.valid x) (ea:xs.toList.map (E.val C)=cargs) (h:b8 C f cargs σ K):H4 C σ E o K:=fun M w ρ hr hh=>by
 have hf:RV M w (.val (.func (.func f) #[] #[])) (ρ (.func f)):=hh (.func f) H9 tt;have ef:=r6 hf;have aw:(execOp ρ o).run C.P w = .ok (.enter f (xs.map ρ)) w:=by
  simp [execOp,ho,resolve,ef,Deferred.ofValue,invoke,aA]
 rw [aw];refine (h M w (xs.map ρ) hr (by simp [<- ea]) fun i c hi=>?_).mono fun e w' he=>by cases e<;>exact he
 subst ea;simp only [Q0,N0] at hi;obtain ⟨x,hx,rfl⟩:=hi;have aB:xs[i]? = some x:=sp_ hx;have hm:x∈xs:=b32 aB;have:(xs.map ρ).getD i undef=ρ x:=by
  rw [a0k,b8S,aB];rfl
 rw [this];exact hh x (by simp [ho,Op.operands,Call.operands,hm]) (hv x (sp_ hm))
def b2E (cj:Array (Nat × Nat)) (cells:List CV):List (Nat × CV)->Option (List CV)
 | []=>some cells
 | (i,c)::rest =>
  match cj[i]? with
  | none=>none
  | some (off,size)=>if c.cells.length=size/\off+size<=cells.length then b2E cj (N9 cells off c.cells) rest else none
theorem a33:∀ (vs:List Value) (cs:Array Value) (off j:Nat),(vs.zipIdx j).foldl (fun cs (x:Value × Nat)=>cs.setIfInBounds (off+x.2) x.1) cs=D2 cs (off+j) vs
 | [],_,_,_=>rfl
 | v::vs,cs,off,j=>by
  rw [List.zipIdx_cons,List.foldl_cons,a33 vs _ off (j+1)];rfl
theorem b55 {M:A5} {w:World} {cj:Array (Nat × Nat)} {place:Nat->Option (Nat × Nat)} (aT:∀ i,place i=cj[i]?):∀ (ps:List (Nat × CV)) (qs:List (Nat × Value)) (cells:List CV) (ak:Array Value) (ba:List CV),
 b2E cj cells ps=some ba->ps.map (·.1)=qs.map (·.1)->(∀ (i:Nat) (x:Nat × CV) (y:Nat × Value),ps[i]? = some x->qs[i]? = some y->RV M w x.2 y.2/\(x.2.one=true\/∃ cs,x.2 = .agg cs)) ->
 ak.size=cells.length->(∀ c∈cells,c.one=true)->(∀ (i:Nat) (c:CV),cells[i]? = some c->RV M w c (ak.getD i undef)) ->
 ∃ r,Instr.fill place ak qs=some r/\RV M w (.agg ba) (.agg r)
 | [],[],cells,ak,ba,h,_,_,h2,h3,h4=>by
  simp only [b2E,Option.some.injEq] at h;subst h;exact ⟨ak,rfl,.agg h2 h3 h4⟩
 | [],q::qs,_,_,_,_,h,_,_,_,_=>by simp at h
 | p::ps,[],_,_,_,_,h,_,_,_,_=>by simp at h
 | (i,c)::ps,(i',v)::qs,cells,ak,ba,h,hm,bo,h2,h3,h4=>by
  simp only [b3E,List.cons.injEq] at hm;obtain ⟨rfl,hm⟩:=hm;simp only [b2E] at h;cases hp:cj[i]? with
  | none=>rw [hp] at h;cases h
  | some x =>
   obtain ⟨off,size⟩:=x;rw [hp] at h;simp only at h;split at h
   ·rename_i hc;obtain ⟨cH,db⟩:=hc;obtain ⟨hv,aP⟩:=bo 0 (i,c) (i,v) rfl rfl;obtain ⟨g1,g2,g3⟩:=hv.cells aP;have g1:v.cells.size=c.cells.length:=g1;have aF:off+c.cells.length<=cells.length:=by omega
    have gQ:(v.cells.zipIdx.foldl (fun cs (x:Value × Nat)=>cs.setIfInBounds (off+x.2) x.1) ak)=D2 ak off v.cells.toList:=by
     rw [<- Array.foldl_toList,Array.toList_zipIdx,a33];rfl
    have ih:=b55 aT ps qs (N9 cells off c.cells) (D2 ak off v.cells.toList) ba h hm (fun j x y hx hy=>bo (j+1) x y (sp_ hx) (sp_ hy)) (by rw [H6,Z6 aF,h2])
     (fun c' bC=>by
      rcases a11 bC with h' | h'
      ·exact g2 _ h'
      ·exact h3 _ h')
     (fun j c' hj=>by
      rw [K6 _ _ _ _ Q7];rw [a14 aF] at hj;simp only [a8J,g1];split at hj
      ·rename_i bw;rw [n_1 bw];have:=g3 _ _ hj;simpa using this
      ·rename_i bw;rw [n_0 bw];exact h4 _ _ hj)
    obtain ⟨r,aI,bm⟩:=ih;refine ⟨r,?_,bm⟩;simp only [Instr.fill,aT,hp];rw [n_0 Q7];exact (n_9 (fun z=>Instr.fill place z qs) gQ).trans aI
   ·cases h
theorem d0n {fs:Array Field} {cj:Array (Nat × Nat)} {ba:List CV} (ho:o.op = .build t parts) (hv:∀ x∈parts.toList,E.valid x.2)
 (hu:∀ w,(underlying t).run C.P w = .ok (.struct fs) w) (hz:∀ w,(zeroValue t).run C.P w = .ok z w) (bY:M5 z=true) (dB:∃ cs,I2 z = .agg cs)
 (aT:∀ w,(fs.mapM fun (f:Field)=>do pure (f.offset,<- sizeOf f.type)).run C.P w = .ok cj w) (ep:parts.toList.map (fun x=>(x.1,E.val C x.2))=ps)
 (aP:∀ x∈ps,x.2.one=true\/∃ cs,x.2 = .agg cs) (bD:b2E cj (I2 z).cells ps=some ba):l9 C σ E o (.agg ba) :=
 i7 fun M w ρ hr h=>by
  have eE:RV M w (I2 z) z:=a0c bY;obtain ⟨g1,g2,g3⟩:=eE.cells (.inr dB);have bu:∀ x∈parts.toList,x.2∈o.op.operands:=fun x hx=>by
   rw [ho];simp only [Op.operands,List.mem_toArray,I9];exact ⟨x,hx,rfl⟩
  obtain ⟨r,aI,bm⟩:=b55 (M:=M) (w:=w) (place:=fun i=>cj[i]?) a1N ps (parts.toList.map fun x=>(x.1,ρ x.2)) (I2 z).cells z.cells ba bD (by simp [<- ep]) (fun i x y hx hy=>by
   refine ⟨?_,aP x (n_2 hx)⟩;subst ep;simp only [Q0,N0] at hx hy;obtain ⟨a,ha,rfl⟩:=hx;obtain ⟨a',cu,rfl⟩:=hy;have:a=a':=by rw [ha] at cu;injection cu
   subst this;have hm:=n_2 ha;exact h _ (bu _ hm) (hv _ hm)) g1 g2 g3
  refine ⟨.agg r,?_,bm⟩;have hl:(parts.map fun x=>(x.1,ρ x.2)).toList=parts.toList.map fun x=>(x.1,ρ x.2):=by simp
  simp only [execOp,ho,Instr.build,Sem.run_bind,hz,Result.andThen_ok,hu,aT];simp only [hl,aI];rfl
end
def b3M (e:Edge):Bool:=Region.binds .any e
section
variable {aa:Array Oper} {E':Env} {a:Act} {Q:A8->Env->List b9->Prop}
def K3 (C:Ctx) (σ:List b9) (aa:Array Oper) (o:Oper) (E:Env) (c:CV) (g:Prop):Prop :=
 (o.guard=none/\g/\l9 C σ E o c) \/
 (∃ j t au b,o.guard=some (j,au)/\(aa[j]?).bind (·.dst)=some t/\(¬ E.ok t->E.un t)/\E.f t = .val (.bool b)/\(g↔(E.ok t/\b=au))/\(E.ok t->b=au->l9 C σ E o c))
def a18 (C:Ctx) (σ:List b9) (aa:Array Oper) (K:Env->Prop):List Oper->Env->Prop
 | [],E=>K E
 | o::l,E=>∃ c g,K3 C σ aa o E c g/\a18 C σ aa K l (E.put o.dst c g)
theorem a59 {K:Env->Prop} (h:K E):a18 C σ aa K [] E:=h
theorem d7B {K:Env->Prop} (hg:o.guard=none) (hy:l9 C σ E o c) (h:a18 C σ aa K l (E.put o.dst c True)):a18 C σ aa K (o::l) E :=
 ⟨c,True,.inl ⟨hg,tt,hy⟩,h⟩
theorem S9 {K:Env->Prop} {t:Nat} {b:Bool} (hg:o.guard=some (j,au)) (ht:(aa[j]?).bind (·.dst)=some t) (hv:E.ok t) (hb:E.f t = .val (.bool b))
 (hy:b=au->l9 C σ E o c) (h:a18 C σ aa K l (E.put o.dst c (b=au))):a18 C σ aa K (o::l) E :=
 ⟨c,b=au,.inr ⟨j,t,au,b,hg,ht,fun h=>absurd hv h,hb,⟨fun h=>⟨hv,h⟩,fun h=>h.2⟩,fun _=>hy⟩,h⟩
theorem a4n {K:Env->Prop} {t:Nat} {b:Bool} (hg:o.guard=some (j,au)) (ht:(aa[j]?).bind (·.dst)=some t) (hv:¬ E.ok t->E.un t) (hb:E.f t = .val (.bool b))
 (hy:E.ok t->b=au->l9 C σ E o c) (h:a18 C σ aa K l (E.put o.dst c (E.ok t/\b=au))):a18 C σ aa K (o::l) E :=
 ⟨c,E.ok t/\b=au,.inr ⟨j,t,au,b,hg,ht,hv,hb,Iff.rfl,hy⟩,h⟩
def Env.agree (t:Nat) (E E':Env):Prop:=E.f t=E'.f t/\E.ok t=E'.ok t/\E.un t=E'.un t
theorem b1Y {t:Nat} {d:Option Nat} (hd:d≠some t):E.agree t (E.put d c g):=by
 cases d with
 | none=>exact ⟨rfl,rfl,rfl⟩
 | some d =>
  have ht:t≠d:=fun e=>hd (by rw [e]);unfold Env.agree;simp only [Env.put_f,Env.put_ok,Env.put_un,n_0 ht,and_self]
theorem Env.agree.symm {t:Nat} (h:E.agree t E'):E'.agree t E:=⟨h.1.symm,h.2.1.symm,h.2.2.symm⟩
theorem c5y {d d':Option Nat} {g':Prop} (h:∀ t,d=some t->d'≠some t):(E.put d c g).put d' c' g'=(E.put d' c' g').put d c g:=by
 cases d with
 | none=>rfl
 | some d =>
  cases d' with
  | none=>rfl
  | some d' =>
   have aC:¬ d=d':=fun e=>h d rfl (by rw [e]);simp only [Env.put,Env.putO]
   congr 1<;>funext t<;>cases h1:Nat.beq t d<;>cases h2:Nat.beq t d'<;>first|rfl|exact absurd ((a3R h1).symm.trans (a3R h2)) aC
theorem b81 {t:Nat} (h:Operand.tmp t∈o.op.operands):t∈o.looksAt aa :=
 b4u _ (b9N.2 ⟨.tmp t,sp_ h,rfl⟩)
theorem a5y {t:Nat} (hg:o.guard=some (j,au)) (ht:(aa[j]?).bind (·.dst)=some t):t∈o.looksAt aa:=by
 unfold Oper.looksAt;rw [hg];exact List.mem_append_right _ (by simp [ht])
theorem a5W (h:∀ t∈o.looksAt aa,E.agree t E') (hd:H4 C σ E o K):H4 C σ E' o K:=fun M w ρ hr hx=>hd M w ρ hr fun x hm hv=>by
 cases x with
 | tmp t =>
  have h1:=h t (b81 hm);show RV M w (E.f t) _;rw [h1.1];exact hx (.tmp t) hm (cast h1.2.1 hv)
 | const v=>exact hx (.const v) hm hv
 | global v=>exact hx (.global v) hm hv
 | func v=>exact hx (.func v) hm hv
theorem a5V (h:∀ t∈o.looksAt aa,E.agree t E') (hd:K3 C σ aa o E c g):K3 C σ aa o E' c g:=by
 rcases hd with ⟨h1,h2,h3⟩ | ⟨j,t,au,b,hg,ht,h1,h2,h3,h4⟩
 ·exact .inl ⟨h1,h2,a5W h h3⟩
 ·obtain ⟨a1,a2,a3⟩:=h t (a5y hg ht);refine .inr ⟨j,t,au,b,hg,ht,?_,?_,?_,?_⟩
  ·rw [<- a2,<- a3];exact h1
  ·rw [<- a1];exact h2
  ·rw [<- a2];exact h3
  ·rw [<- a2];exact fun k1 k2=>a5W h (h4 k1 k2)
def b93 (C:Ctx) (aa:Array Oper) (o:Oper) (E:Env) (σ:List b9) (K:CV->Prop->List b9->Prop) (Kp:CV->List b9->Prop):Prop :=
 ∃ j t au b c0,o.guard=some (j,au)/\(aa[j]?).bind (·.dst)=some t/\E.ok t/\E.f t = .val (.bool b)/\(b=au->H4 C σ E o fun r Y=>match r with | .ret c=>K c (b=au) Y | .pan c=>Kp c Y)/\(¬ b=au->K c0 (b=au) σ)
def b44 (C:Ctx) (aa:Array Oper) (o:Oper) (E:Env) (σ:List b9) (K:CV->Prop->List b9->Prop) (Kp:CV->List b9->Prop):Prop :=
 (o.guard=none/\H4 C σ E o fun r Y=>match r with | .ret c=>K c True Y | .pan c=>Kp c Y)\/b93 C aa o E σ K Kp
theorem a2O {K K':CV->Prop->List b9->Prop} {Kp:CV->List b9->Prop} (h:∀ t∈o.looksAt aa,E.agree t E') (hk:∀ c g σ,K c g σ->K' c g σ) (hd:b44 C aa o E σ K Kp):b44 C aa o E' σ K' Kp:=by
 have go:∀ {g:Prop},(H4 C σ E o fun r Y=>match r with | .ret c=>K c g Y | .pan c=>Kp c Y)->H4 C σ E' o fun r Y=>match r with | .ret c=>K' c g Y | .pan c=>Kp c Y:=fun hd=>(a5W h hd).mono fun r Y hh=>by
  cases r with
  | ret c=>exact hk _ _ _ hh
  | pan c=>exact hh
 rcases hd with ⟨h1,h2⟩ | ⟨j,t,au,b,c0,hg,ht,h1,h2,h3,h4⟩
 ·exact .inl ⟨h1,go h2⟩
 ·obtain ⟨a1,a2,-⟩:=h t (a5y hg ht);exact .inr ⟨j,t,au,b,c0,hg,ht,a2 ▸ h1,a1 ▸ h2,fun e=>go (h3 e),fun e=>hk _ _ _ (h4 e)⟩
theorem b4p {t:Nat} {b:Bool} (hf:I8 M w n E a) (ht:(aa[j]?).bind (·.dst)=some t) (hv:E.ok t) (hb:E.f t = .val (.bool b)):yielded aa a.tmps j=some b:=by
 have h1:=hf.rv t hv;rw [hb] at h1;have h2:a.tmps.getD t undef = .bool b:=by generalize a.tmps.getD t undef=u at h1;cases h1;rfl
 have aF:t < a.tmps.size:=by
  rcases a3c t a.tmps.size with h' | h'
  ·exact h'
  ·simp [a9C h',undef] at h2
 rw [a0k,a1r aF] at h2;unfold yielded;rw [ht,n_8,a1r aF,show a.tmps[t] = .bool b from h2]
theorem b3l {t:Nat} (hf:I8 M w n E a) (ht:(aa[j]?).bind (·.dst)=some t) (hu:E.un t):yielded aa a.tmps j=none:=by
 have h3:=hf.un t hu;unfold yielded;rw [ht,n_8]
 rcases a3c t a.tmps.size with h' | h'
 ·rw [a0k,a1r h'] at h3;rw [a1r h',show a.tmps[t]=undef from h3];rfl
 ·rw [a9C h']
theorem c9T {R:Q9->List b9->Prop} (h:H4 C σ E o R) (hr:Rel C M σ w) (hf:I8 M w n E a) {K:Act->World->Prop} {Q:Exit->Act->World->Prop} (hk:∀ c v w' M' Y,Ext M w M' w'->Rel C M' Y w'->RV M' w' c v->R (.ret c) Y->K (a.put o.dst v) w')
 (hp:∀ c v w' M' Y,Ext M w M' w'->Rel C M' Y w'->RV M' w' c v->R (.pan c) Y->Q (.panic [{ v,recovered:=false}]) a w'):o.wp C.P a w K Q :=
 a3h (h M w a.eval hr fun _ _ hx=>hf.eval hr hx) (fun v w' ⟨c,Y,M',h1,h2,h3,h4⟩=>hk c v w' M' Y h1 h2 h3 h4) fun _ w' ⟨c,v,Y,M',h0,h1,h2,h3,h4⟩=>h0 ▸ hp c v w' M' Y h1 h2 h3 h4
theorem d5w {K1:CV->Prop->List b9->Prop} {Kp:CV->List b9->Prop} (h:(∃ c g,K3 C σ aa o E c g/\K1 c g σ)\/b44 C aa o E σ K1 Kp) (hr:Rel C M σ w) (hf:I8 M w n E a) (hd:∀ t,o.dst=some t->t < n) {K:Act->World->Prop} {Q:Exit->Act->World->Prop} (hk:∀ c g v w' M' Y,Ext M w M' w'->Rel C M' Y w'->I8 M' w' n (E.put o.dst c g) (a.put o.dst v)->K1 c g Y->K (a.put o.dst v) w')
 (hp:∀ c v w' M' Y,Ext M w M' w'->Rel C M' Y w'->RV M' w' c v->Kp c Y->Q (.panic [{ v,recovered:=false}]) a w'):if Region.wanted o (yielded aa a.tmps)=true then o.wp C.P a w K Q\/(o.asks C.P a w/\LetsOut Q) else K (a.put o.dst undef) w:=by
 have run:∀ {g:Prop},g->(H4 C σ E o fun r Y=>match r with | .ret c=>K1 c g Y | .pan c=>Kp c Y)->o.wp C.P a w K Q:=fun hg hd1=>c9T hd1 hr hf (fun c v w' M' Y h1 h2 h3 h4=>hk c _ v w' M' Y h1 h2 ((hf.mono h1).put hd (fun _=>h3) fun hh=>absurd hg hh) h4) hp;have quiet:∀ {c:CV} {g:Prop},g->l9 C σ E o c->K1 c g σ->o.wp C.P a w K Q:=fun hg hy bK=>run hg (hy.mono fun r Y hh=>by obtain ⟨rfl,rfl⟩:=hh;exact bK);have skip:∀ {c:CV} {g:Prop},¬ g->K1 c g σ->K (a.put o.dst undef) w:=fun hg bK=>hk _ _ _ w M σ (Ext.refl M w) hr (hf.put hd (fun hh=>absurd hh hg) fun _=>rfl) bK;have gw:∀ {j t:Nat} {au b:Bool},o.guard=some (j,au)->(aa[j]?).bind (·.dst)=some t->E.ok t->E.f t = .val (.bool b)->Region.wanted o (yielded aa a.tmps)=(b == au):=fun {j t au b} hg ht hv hb=>by
  simp only [Region.wanted,hg,b4p hf ht hv hb];cases b<;>cases au<;>rfl
 rcases h with ⟨c,g,⟨hg,hgp,hy⟩ | ⟨j,t,au,b,hg,ht,bd,hb,hgb,hy⟩,bK⟩ | ⟨hg,h1⟩ | ⟨j,t,au,b,c0,hg,ht,hv,hb,h1,h2⟩
 ·rw [n_1 (by simp [Region.wanted,hg])];exact .inl (quiet hgp hy bK)
 ·by_cases gR:E.ok t
  ·rw [gw hg ht gR hb];by_cases cB:b=au
   ·rw [n_1 (sp_ cB)];exact .inl (quiet (hgb.2 ⟨gR,cB⟩) (hy gR cB) bK)
   ·rw [n_0 (sp_ cB)];exact skip (fun hh=>cB (hgb.1 hh).2) bK
  ·rw [n_0 (by simp [Region.wanted,hg,b3l hf ht (bd gR)])];exact skip (fun hh=>gR (hgb.1 hh).1) bK
 ·rw [n_1 (by simp [Region.wanted,hg])];exact .inl (run trivial h1)
 ·rw [gw hg ht hv hb];by_cases cB:b=au
  ·rw [n_1 (sp_ cB)];exact .inl (run cB (h1 cB))
  ·rw [n_0 (sp_ cB)];exact skip cB (h2 cB)
def CA (C:Ctx) (aa:Array Oper) (Q:A8->Env->List b9->Prop) (Lf:Array Bool) (B:Env->List b9->Prop) (T:Nat->List b9->Prop):Nat->Array Bool->Env->List b9->Prop
 | 0,L,E,σ=>L=Lf/\B E σ
 | f+1,L,E,σ=>Region.ready .any aa L≠[]/\∀ i∈Region.ready .any aa L,∃ o,aa[i]? = some o /\
  ((∃ c g,K3 C σ aa o E c g/\CA C aa Q Lf B T f (L.setIfInBounds i true) (E.put o.dst c g) σ)\/b44 C aa o E σ (fun c g Y=>T i Y/\CA C aa Q Lf B T f (L.setIfInBounds i true) (E.put o.dst c g) Y) fun c Y=>∀ E',Q (.pan c) E' Y)
variable {Lf:Array Bool} {B:Env->List b9->Prop} {T T':Nat->List b9->Prop}
theorem a42 (h:∀ j σ,T j σ->T' j σ):∀ {f:Nat} {L:Array Bool} {E:Env} {σ:List b9},CA C aa Q Lf B T f L E σ->CA C aa Q Lf B T' f L E σ
 | 0,_,_,_,hc=>hc
 | f+1,_,_,_,⟨h0,hc⟩=>⟨h0,fun i hi=>by
  obtain ⟨o,ho,hc⟩:=hc i hi;exact ⟨o,ho,hc.imp (fun ⟨c,g,h1,h2⟩=>⟨c,g,h1,a42 h h2⟩) (a2O (fun _ _=>⟨rfl,rfl,rfl⟩) fun _ _ _ hh=>⟨h _ _ hh.1,a42 h hh.2⟩)⟩⟩
theorem b3Y {M0:A5} {w0:World} {f0:Nat} (hd:∀ (i:Nat) (o:Oper),aa[i]? = some o->∀ t,o.dst=some t->t < n) (hB:∀ E σ M w a,B E σ->Ext M0 w0 M w->Rel C M σ w->I8 M w n E a->wpAny C.P .any aa (Q4 C n Q M0 w0) f0 Lf a w):∀ {f:Nat} {L:Array Bool} {E:Env} {σ:List b9} {M:A5} {w:World} {a:Act},CA C aa Q Lf B T f L E σ->Ext M0 w0 M w->Rel C M σ w->I8 M w n E a->wpAny C.P .any aa (Q4 C n Q M0 w0) (f0+f) L a w
 | 0,_,E,σ,M,w,a,⟨h1,h2⟩,hx,hr,hf=>by subst h1;exact hB E σ M w a h2 hx hr hf
 | f+1,L,E,σ,M,w,a,⟨h0,hc⟩,hx,hr,hf=>⟨fun h=>absurd h h0,fun i hi=>by
  obtain ⟨o,ho,hc⟩:=hc i hi;unfold wpOp;simp only [ho];refine d5w (K1:=fun c g Y=>CA C aa Q Lf B T f (L.setIfInBounds i true) (E.put o.dst c g) Y) (Kp:=fun c Y=>∀ E',Q (.pan c) E' Y) ?_ hr hf (hd i o ho) (fun c g v w' M' Y h1 h2 h3 h4=>b3Y hd hB h4 (hx.trans h1) h2 h3) (fun c v w' M' Y h1 h2 h3 h4=>⟨E,Y,M',hx.trans h1,h2,hf.mono h1,c,v,rfl,h3,h4 E⟩);exact hc.imp id (a2O (fun _ _=>⟨rfl,rfl,rfl⟩) fun _ _ _ hh=>hh.2)⟩
theorem d1j {L:Array Bool} (h:L.getD k false=true):k < L.size/\L.getD k true=true:=by
 rcases a3c k L.size with h' | h'
 ·exact ⟨h',by simpa [h'] using h⟩
 ·simp [a9C h'] at h
theorem c62 {oi:Oper} (D:Nat->Bool) (F:List b9->Prop) (hoi:aa[i]? = some oi) (hD:∀ j o,aa[j]? = some o->D j=true->∃ e∈o.after,b3M e=true/\(e.on=i\/D e.on=true)) (hLf:∀ j o,aa[j]? = some o->j≠i->D j=false->Lf.getD j true=true) :
 ∀ {f:Nat} {L:Array Bool} {E:Env} {σ:List b9},(∀ j,j < L.size->D j=true->L.getD j true=false)->(∀ j o,aa[j]? = some o->j≠i->D j=false->L.getD j true=false->oi.apart aa o=true)->i∈Region.ready .any aa L->(∀ Y,F Y->K3 C Y aa oi E c g)->K3 C σ aa oi E c g ->
  CA C aa Q Lf B (fun j Y=>T j Y/\(D j=false->F Y)) f (L.setIfInBounds i true) (E.put oi.dst c g) σ->CA C aa Q Lf B T (f+1) L E σ:=by
 have noD:∀ {L:Array Bool} {j:Nat},(∀ j,j < L.size->D j=true->L.getD j true=false)->i∈Region.ready .any aa L->j∈Region.ready .any aa L->D j=false:=fun {L j} hDL hi hj=>by
  cases hDj:D j with
  | false=>rfl
  | true =>
   obtain ⟨_,o,ho,bE⟩:=mem_ready.1 hj;obtain ⟨e,he,hb,hh⟩:=hD j o ho hDj;obtain ⟨h1,h2⟩:=d1j (bE e he hb)
   rcases hh with hh | hh
   ·rw [hh,(mem_ready.1 hi).1] at h2;cases h2
   ·rw [hDL _ h1 hh] at h2;cases h2
 have own:∀ {f:Nat} {L:Array Bool} {E:Env} {σ:List b9},K3 C σ aa oi E c g->CA C aa Q Lf B (fun j Y=>T j Y/\(D j=false->F Y)) f (L.setIfInBounds i true) (E.put oi.dst c g) σ->∃ o,aa[i]? = some o /\
  ((∃ c g,K3 C σ aa o E c g/\CA C aa Q Lf B T f (L.setIfInBounds i true) (E.put o.dst c g) σ)\/b44 C aa o E σ (fun c g Y=>T i Y/\CA C aa Q Lf B T f (L.setIfInBounds i true) (E.put o.dst c g) Y) fun c Y=>∀ E',Q (.pan c) E' Y):=fun h1 h2=>⟨oi,hoi,.inl ⟨c,g,h1,a42 (fun _ _ h=>h.1) h2⟩⟩
 intro f
 induction f with
 | zero =>
  intro L E σ hDL hap hi hF bf hc;refine ⟨fun h=>(by rw [h] at hi;cases hi),fun j hj=>?_⟩;by_cases dZ:j=i
  ·subst dZ;exact own bf hc
  ·exfalso;obtain ⟨h1,o,ho,_⟩:=mem_ready.1 hj;have h2:=hLf j o ho dZ (noD hDL hi hj);rw [<- hc.1,getD_set_ne true (Ne.symm dZ),h1] at h2;cases h2
 | succ f ih =>
  intro L E σ hDL hap hi hF bf hc;refine ⟨fun h=>(by rw [h] at hi;cases hi),fun j hj=>?_⟩;by_cases dZ:j=i
  ·subst dZ;exact own bf hc
  ·have hDj:=noD hDL hi hj;obtain ⟨o,ho,hcj⟩:=hc.2 j (ready_mono hj dZ);obtain ⟨a1,a2,a3⟩:=Oper.apart_spec (hap j o ho dZ hDj (mem_ready.1 hj).1);have gP:∀ t∈o.looksAt aa,(E.put oi.dst c g).agree t E:=fun t ht=>(b1Y fun e=>a1 t e ht).symm;have next:∀ (c':CV) (g':Prop) (Y:List b9),K3 C Y aa oi E c g->CA C aa Q Lf B (fun j Y=>T j Y/\(D j=false->F Y)) f ((L.setIfInBounds i true).setIfInBounds j true) ((E.put oi.dst c g).put o.dst c' g') Y->CA C aa Q Lf B T (f+1) (L.setIfInBounds j true) (E.put o.dst c' g') Y:=fun c' g' Y h1 h2=>by
    have fw:∀ t∈oi.looksAt aa,E.agree t (E.put o.dst c' g'):=fun t ht=>b1Y fun e=>a3 t e ht;refine ih (fun k hk hDk=>?_) (fun k ok hk hki hDk hun=>hap k ok hk hki hDk ?_) (ready_mono hi (Ne.symm dZ)) (fun Y h=>a5V fw (hF Y h)) (a5V fw h1) ?_
    ·have hjk:j≠k:=fun e=>by rw [e,hDk] at hDj;cases hDj
     rw [getD_set_ne true hjk];exact hDL k (sp_ hk) hDk
    ·by_cases hjk:j=k
     ·subst hjk;exact (mem_ready.1 hj).1
     ·rw [getD_set_ne true hjk] at hun;exact hun
    ·rw [Array.setIfInBounds_comm _ _ dZ,<- c5y fun t e=>a2 t e];exact h2
   refine ⟨o,ho,hcj.imp (fun ⟨c',g',h1,h2⟩=>⟨c',g',a5V gP h1,next c' g' σ bf h2⟩) (a2O gP fun c' g' Y hh=>⟨hh.1.1,next c' g' Y (hF Y (hh.1.2 hDj)) hh.2⟩)⟩
def a0Z (L:Array Bool) (l:List Nat):Array Bool:=l.foldl (fun L i=>L.setIfInBounds i true) L
def b3C (aa:Array Oper) (ms:List Nat) (Lf L:Array Bool) (i:Nat):Bool:=(Region.ready .any aa L).contains i && (List.range L.size).all (fun j=>!(ms.getD j 0).testBit i || !(L.getD j true)) && (List.range aa.size).all fun j=>match aa[j]? with
 | none=>true
 | some o=>match (ms.getD j 0).testBit i with
  | true=>o.after.toList.any fun e=>b3M e && (Nat.beq e.on i || (ms.getD e.on 0).testBit i)
  | false=>Nat.beq j i || (Lf.getD j true && (L.getD j true || match aa[i]? with
   | some oi=>oi.apart aa o
   | none=>true))
theorem c6E {ms:List Nat} {L:Array Bool} {f:Nat} {oi:Oper} (F:List b9->Prop) (hB:b3C aa ms Lf L i=true) (hoi:aa[i]? = some oi) (hF:∀ Y,F Y->K3 C Y aa oi E c g) (bf:K3 C σ aa oi E c g) (h:CA C aa Q Lf B (fun j Y=>T j Y/\((ms.getD j 0).testBit i=false->F Y)) f (L.setIfInBounds i true) (E.put oi.dst c g) σ):CA C aa Q Lf B T (f+1) L E σ:=by
 simp only [b3C,S7,a5p,List.mem_range] at hB;obtain ⟨⟨h1,h2⟩,h3⟩:=hB;have h4:∀ j o,aa[j]? = some o->_:=fun j o ho=>by
  have:=h3 j (a1z.1 ho).1;rw [ho] at this;exact this
 refine c62 (fun j=>(ms.getD j 0).testBit i) F hoi (fun j o ho (hD:(ms.getD j 0).testBit i=true)=>?_) (fun j o ho dZ (hD:(ms.getD j 0).testBit i=false)=>?_) (fun j hj (hD:(ms.getD j 0).testBit i=true)=>?_) (fun j o ho dZ (hD:(ms.getD j 0).testBit i=false) hun=>?_) (sp_ h1) hF bf h
 ·have:=h4 j o ho;simp only [hD] at this;obtain ⟨e,he,hh⟩:=List.any_eq_true.1 this;simp only [S7,a7u] at hh;exact ⟨e,sp_ he,hh.1,hh.2.imp a3R id⟩
 ·have:=h4 j o ho;simp only [hD,S7,a7u] at this
  rcases this with h | h
  ·exact absurd (a3R h) dZ
  ·exact h.1
 ·have:=h2 j hj;rw [hD] at this;simpa using this
 ·have:=h4 j o ho;simp only [hD,hoi,S7,a7u] at this
  rcases this with h | ⟨_,h | h⟩
  ·exact absurd (a3R h) dZ
  ·rw [hun] at h;cases h
  ·exact h
def a1E (C:Ctx) (σ:List b9) (aa:Array Oper) (K:Env->List (List b9->Prop)->Prop):List Nat->Env->List (List b9->Prop)->Prop
 | [],E,S=>K E S
 | i::l,E,S=>∃ o c g,aa[i]? = some o/\K3 C σ aa o E c g/\a1E C σ aa K l (E.put o.dst c g) (S++[fun Y=>K3 C Y aa o E c g])
def a7y (aa:Array Oper) (ms:List Nat) (Lf:Array Bool):List Nat->Array Bool->Bool
 | [],_=>true
 | i::l,L=>b3C aa ms Lf L i && a7y aa ms Lf l (L.setIfInBounds i true)
def TF (ms:List Nat):List Nat->List (List b9->Prop)->Nat->List b9->Prop
 | i::l,F::S,j,σ=>((ms.getD j 0).testBit i=false->F σ)/\TF ms l S j σ
 | _,_,_,_=>True
theorem a6i {ms:List Nat} {K:Env->List (List b9->Prop)->Prop} {f:Nat}:∀ {l:List Nat} {L:Array Bool} {E:Env} {S:List (List b9->Prop)} {T:Nat->List b9->Prop},a7y aa ms Lf l L=true->a1E C σ aa K l E S->(∀ E' S',K E' (S++S')->CA C aa Q Lf B (fun j Y=>T j Y/\TF ms l S' j Y) f (a0Z L l) E' σ)->CA C aa Q Lf B T (f+l.length) L E σ
 | [],L,E,S,T,_,h,k=>a42 (fun _ _ h=>h.1) (k E [] (by rw [a1d];exact h))
 | i::l,L,E,S,T,hB,⟨o,c,g,ho,bf,h⟩,k=>by
  rw [a7y,S7] at hB;refine c6E (fun Y=>K3 C Y aa o E c g) hB.1 ho (fun _ h=>h) bf (a6i hB.2 h fun E' S' hk=>a42 (fun j Y hh=>?_) (k E' ((fun Y=>K3 C Y aa o E c g)::S') (by rw [F7] at hk;exact hk)));exact ⟨⟨hh.1,hh.2.1⟩,hh.2.2⟩
theorem b9T {K:Env->Prop}:∀ (l:List Oper) (k:Nat) (E:Env) (S:List (List b9->Prop)),(∀ i,i < l.length->l[i]? = aa[k+i]?)->a18 C σ aa K l E->a1E C σ aa (fun E' _=>K E') (List.range' k l.length) E S
 | [],_,_,_,_,h=>h
 | o::l,k,E,S,hl,⟨c,g,h1,h2⟩=>⟨o,c,g,(hl 0 (Nat.zero_lt_succ _)).symm,h1,b9T l (k+1) _ _ (fun i hi=>by
  have:=hl (i+1) (Nat.succ_lt_succ hi);rw [show k+1+i=k+(i+1) by omega];simpa using this) h2⟩
def d0g (aa:Array Oper):List Nat->Array Bool->Bool
 | [],L=>(Region.ready .any aa L).isEmpty
 | i::l,L=>(match Region.ready .any aa L with
  | [j]=>Nat.beq j i
  | _=>false) && d0g aa l (L.setIfInBounds i true)
theorem a1n {L:Array Bool} {i:Nat} (h:(match Region.ready .any aa L with
 | [j]=>Nat.beq j i
 | _=>false)=true):Region.ready .any aa L=[i]:=by
 split at h
 ·rename_i j hj;rw [hj,a3R h]
 ·cases h
theorem b60 {Q:Exit->Act->World->Prop}:∀ (l:List Oper) (k:Nat) (L:Array Bool) (a:Act) (w:World),(∀ i,i < l.length->l[i]? = aa[k+i]?)->d0g aa (List.range' k l.length) L=true->wpList C.P aa Q l a w->wpAny C.P .any aa Q l.length L a w
 | [],_,L,a,w,_,hB,h=>⟨b5n.1 hB,h⟩
 | o::l,k,L,a,w,hl,hB,h=>by
  rw [C4,List.range'_succ,d0g,S7] at hB;have h1:=a1n hB.1;have ho:aa[k]? = some o:=(hl 0 (Nat.zero_lt_succ _)).symm;have hK:∀ a w,wpList C.P aa Q l a w->wpAny C.P .any aa Q l.length (L.setIfInBounds k true) a w:=fun a w h=>b60 l (k+1) _ a w (fun i hi=>by
   have:=hl (i+1) (Nat.succ_lt_succ hi);rw [show k+1+i=k+(i+1) by omega];simpa using this) hB.2 h
  refine ⟨fun h0=>(by rw [h1] at h0;cases h0),fun i hi=>?_⟩;rw [h1,b38] at hi;subst hi;unfold wpList at h;unfold wpOp;simp only [ho]
  split
  ·rename_i hw;rw [n_1 hw] at h;exact h.imp (Oper.wp_mono hK) id
  ·rename_i hw;rw [n_0 hw] at h;exact hK _ _ h
theorem Rel.drew (hr:Rel C M σ w):Rel C M σ { w with drawn:=w.drawn+1}/\Ext M w M { w with drawn:=w.drawn+1}:=by
 have hx:Ext M w M { w with drawn:=w.drawn+1}:=⟨⟨[],si_⟩,fun _ h=>h,fun _ _ h=>.inr h,fun _ _=>rfl,fun _ _ _=>rfl,n_6 _,Q8,rfl,rfl,rfl,fun _ h=>⟨h,rfl,id,fun _=>id⟩⟩;refine ⟨⟨hr.len,hr.blk,fun k p ob hk hs=>⟨(hr.obj k p ob hk hs).1.mono hx rfl (fun _ _ _ _ h=>h),(hr.obj k p ob hk hs).2⟩,hr.inj,fun g cells hg=>(hr.glob g cells hg).mono hx,hr.kep,hr.nk⟩,hx⟩
theorem b39 (hd:(aa.toList.all fun o=>match o.dst with | some d=>Nat.blt d n | none=>true)=true) (i:Nat) (o:Oper) (ho:aa[i]? = some o) (t:Nat) (ht:o.dst=some t):t < n:=by
 rw [a5p] at hd;have:=hd o (by simpa using b32 ho);rw [ht] at this;simpa [a9G] using this
def L0 (aa:Array Oper):Array Bool:=Array.replicate aa.size false
def c1w (aa:Array Oper) (nh:Nat) (ms:List Nat):Bool:=Nat.ble nh aa.size && a7y aa ms (a0Z (L0 aa) (List.range' 0 nh)) (List.range' 0 nh) (L0 aa) && d0g aa (List.range' nh (aa.size - nh)) (a0Z (L0 aa) (List.range' 0 nh))
theorem c6R (nh:Nat) (ms:List Nat) (hB:c1w aa nh ms=true) (hd:(aa.toList.all fun o=>match o.dst with | some d=>Nat.blt d n | none=>true)=true)
 (h:a18 C σ aa (fun E'=>H7 C n aa Q (aa.toList.drop nh) E' σ) (aa.toList.take nh) E) (hr:Rel C M σ w) (hf:I8 M w n E a):wpAny C.P .any aa (Q4 C n Q M w) aa.size (L0 aa) a { w with drawn:=w.drawn+1}:=by
 simp only [c1w,S7] at hB;obtain ⟨⟨h1,h2⟩,h3⟩:=hB;have hnh:=nb h1;obtain ⟨bp,hx⟩:=hr.drew;have ae:(aa.toList.take nh).length=nh:=by simp;omega
 have hld:(aa.toList.drop nh).length=aa.size - nh:=by simp
 have hc:=b9T (S:=[]) _ 0 E (fun i hi=>by rw [a2I,n_1 om_,K9,Array.getElem?_toList]) h;rw [ae] at hc;have:=b3Y (f0:=aa.size - nh) (b39 hd) (fun E σ M1 w1 a1 hB bc aI dA=>by
  rw [<- hld] at h3 ⊢;exact b60 _ nh _ a1 w1 (fun i hi=>by rw [a5s,Array.getElem?_toList]) h3 (hB.later bc aI dA)) (a6i (T:=fun _ _=>True) (f:=0) (B:=fun E' Y=>H7 C n aa Q (aa.toList.drop nh) E' Y) h2 hc fun E' S' hk=>⟨rfl,hk⟩) hx bp (hf.mono hx)
 rw [K9,List.length_range',show aa.size - nh+nh=aa.size by omega] at this;exact this
theorem d1g {id:Nat} (nh:Nat) (ms:List Nat) (hm:C.P.follows .mixedOrders=true) (hB:c1w aa nh ms=true) (hd:(aa.toList.all fun o=>match o.dst with | some d=>Nat.blt d n | none=>true)=true)
 (h:a18 C σ aa (fun E'=>H7 C n aa Q (aa.toList.drop nh) E' σ) (aa.toList.take nh) E):CWp C n (.region id aa true) Q E σ:=fun M w a hr hf=>wp_region_any hm (c6R nh ms hB hd h hr hf)
end
def Env.valids (E:Env):List Operand->Prop
 | []=>True
 | x::l=>E.valid x/\E.valids l
def Env.vals (C:Ctx) (E:Env):List Operand->List CV
 | []=>[]
 | x::l=>E.val C x::E.vals C l
theorem Env.valids_mem:∀ {l:List Operand},E.valids l->∀ x∈l,E.valid x
 | [],_,x,h=>by simp at h
 | y::l,⟨h1,h2⟩,x,h=>by
  rcases P0.1 h with rfl | h
  ·exact h1
  ·exact Env.valids_mem h2 x h
theorem Env.vals_map:∀ (l:List Operand),l.map (E.val C)=E.vals C l
 | []=>rfl
 | x::l=>by simp [Env.vals,Env.vals_map l]
section
theorem d4q (ho:o.op = .call { callee:=.value (.func f),args:=xs,argTypes:=ts}) (aA:∀ args w,(callFunc f args).run C.P w = .ok (.enter f args) w)
 (hv:E.valids xs.toList) (ea:E.vals C xs.toList=cargs) (h:b8 C f cargs σ fun r Y=>r = .ret c/\Y=σ):l9 C σ E o c :=
 b3Q ho aA (Env.valids_mem hv) ((Env.vals_map _).trans ea) h
def d1J (C:Ctx) (E:Env) (σ:List b9):ResultVar->CV->Prop
 | .tmp t,c=>E.ok t/\E.f t=c
 | .cell a t,c=>E.ok a/\∃ k off cells,E.f a = .ptr k off/\σ[k]? = some (.box cells) /\
  (((∀ w,(isAgg t).run C.P w = .ok false w)/\cells[off]? = some c)\/(∃ s,(∀ w,(isAgg t).run C.P w = .ok true w)/\(∀ w,(sizeOf t).run C.P w = .ok s w)/\off+s<=cells.length/\c = .agg ((cells.drop off).take s)))
def b9E (C:Ctx) (E:Env) (σ:List b9):List ResultVar->List CV->Prop
 | [],[]=>True
 | r::rs,c::cs=>d1J C E σ r c/\b9E C E σ rs cs
 | _,_=>False
theorem b4i (hr:Rel C M σ w) {u:Value} (hu:RV M w (.ptr k off) u) (hk:σ[k]? = some (.box cells))
 (h:((∀ w,(isAgg t).run C.P w = .ok false w)/\cells[off]? = some c)\/(∃ s,(∀ w,(isAgg t).run C.P w = .ok true w)/\(∀ w,(sizeOf t).run C.P w = .ok s w)/\off+s<=cells.length/\c = .agg ((cells.drop off).take s))) :
 ∃ a v,u = .pointer (some a)/\(loadVar t a).run C.P w = .ok v w/\RV M w c v:=by
 cases hu with
 | ptr hp =>
  rename_i p
  rcases h with ⟨ha,hc⟩ | ⟨s,ha,hs,hl,rfl⟩
  ·obtain ⟨v,hv,bo,_⟩:=b7e hr hp hk hc;exact ⟨_,v,rfl,by simp [loadVar,ha,hv],bo⟩
  ·obtain ⟨ak,ty,h1,h2,h3,h4⟩:=(hr.obj k p _ hp hk).1;have aO:∀ j,j < s->w.cell? ⟨p.block,off+j,none⟩=some (ak.getD (off+j) undef):=fun j hj=>by
    have:off+j < ak.size:=by omega
    simp [World.cell?,h1,this]
   refine ⟨_,.agg ((List.range s).map fun j=>ak.getD (off+j) undef).toArray,rfl,by simp [loadVar,ha,hs,U0 (P:=C.P) (w:=w) _ s aO],.agg Q7 (fun c hc=>h3 c (b1I (a8E hc))) (fun i c hi=>?_)⟩;have aY:i < s:=by
    have:=(n_3.1 hi).1;simp at this;omega
   rw [a2I,n_1 aY,a5s] at hi;have:=h4 (off+i) c hi;simpa [aY] using this
def a4u (tmps:Array Value):ResultVar->Sem Value:=fun
 | .tmp t=>pure (tmps.getD t undef)
 | .cell a t=>do loadVar t (<- asAddr (tmps.getD a undef))
theorem b3Z {M:A5} {w:World} (hr:Rel C M σ w) {tmps:Array Value} (h:∀ t,E.ok t->RV M w (E.f t) (tmps.getD t undef)):∀ (rs:List ResultVar) (cs:List CV),b9E C E σ rs cs ->
 ∃ vs:List Value,(rs.mapM (a4u tmps)).run C.P w = .ok vs w/\vs.length=cs.length/\∀ (i:Nat) (c:CV),cs[i]? = some c->RV M w c (vs.getD i undef)
 | [],[],_=>⟨[],si_,rfl,si_⟩
 | r::rs,c::cs,⟨h1,h2⟩=>by
  obtain ⟨vs,hv,hl,bo⟩:=b3Z hr h rs cs h2;have:∃ v,(a4u tmps r).run C.P w = .ok v w/\RV M w c v:=by
   cases r with
   | tmp t =>
    obtain ⟨ho,hc⟩:=h1;exact ⟨_,by simp [a4u],hc ▸ h t ho⟩
   | cell a t =>
    obtain ⟨ho,k,off,cells,he,hk,hc⟩:=h1;have hu:=h a ho;rw [he] at hu;obtain ⟨ad,v,e1,e2,e3⟩:=b4i hr hu hk hc;exact ⟨v,by simp only [a4u,e1,asAddr,Sem.run_bind,Sem.run_pure,Result.andThen_ok,e2],e3⟩
  obtain ⟨v,dC,ci⟩:=this;refine ⟨v::vs,by simp [List.mapM_cons,dC,hv],by simp [hl],fun i c' hi=>?_⟩
  rcases i with _ | i
  ·simp at hi;subst hi;exact ci
  ·exact bo i c' (sp_ hi)
 | [],_::_,h=>h.elim
 | _::_,[],h=>h.elim
theorem p8 {fn:Func} {rs:List ResultVar} (bb:fn.results=rs.toArray) (h:b9E C E σ rs cs) (hn:cs.length≠1):U4 C E σ fn (.tup cs):=fun M w a hr hh=>by
 obtain ⟨vs,h1,h2,h3⟩:=b3Z (C:=C) hr hh rs cs h;refine ⟨.tuple vs.toArray,?_,.tup (by simp [h2]) (fun i c hi=>by simpa using h3 i c hi)⟩;have:(results fn a.tmps).run C.P w=((rs.toArray.mapM (a4u a.tmps)).run C.P w).andThen fun vs w=>.ok (if h:vs.size=1 then vs[0] else .tuple vs) w:=by
  unfold results;rw [bb,Sem.run_bind];rfl
 rw [this,List.mapM_toArray,Sem.run_map,h1];simp only [Result.andThen_ok];rw [dif_neg Q7]
theorem D5 {fn:Func} {r:ResultVar} (bb:fn.results = #[r]) (h:d1J C E σ r c):U4 C E σ fn c:=fun M w a hr hh=>by
 obtain ⟨vs,h1,h2,h3⟩:=b3Z (C:=C) hr hh [r] [c] ⟨h,tt⟩;obtain ⟨v,rfl⟩:∃ v,vs=[v]:=by
  match vs,h2 with
  | [v],_=>exact ⟨v,rfl⟩
 refine ⟨v,?_,by simpa using h3 0 c rfl⟩;have:(results fn a.tmps).run C.P w=((#[r].mapM (a4u a.tmps)).run C.P w).andThen fun vs w=>.ok (if h:vs.size=1 then vs[0] else .tuple vs) w:=by
  unfold results;rw [bb,Sem.run_bind];rfl
 have e:(#[r].mapM (a4u a.tmps))=([r].toArray.mapM (a4u a.tmps)):=rfl;rw [this,e,List.mapM_toArray,Sem.run_map,h1];simp
def A5.settle (M:A5) (b:Nat):A5:={ M with full:=fun x=>M.full x\/x=b}
theorem Rel.allocFull (hr:Rel C M σ w) (ob:Obj):Ext M w (M.settle w.heap.size) (w.alloc ob)/\Rel C (M.settle w.heap.size) σ (w.alloc ob):=by
 have hx:Ext M w (M.settle w.heap.size) (w.alloc ob):=⟨⟨[],by simp [A5.settle]⟩,fun _ h=>.inl h,fun _ _ h=>.inr h,fun b h=>J5 w ob (hr.blk b 0 (.inl h)),fun b o' h=>O6 (J5 w ob (hr.blk b o' (.inr h))),by rw [b7g];omega,Q8,rfl,rfl,rfl,fun b h=>⟨h,J5 w ob (hr.kep b h),fun f=>(by
  rcases f with f | f
  ·exact f
  ·have:=hr.kep b h;omega),fun _ f=>f⟩⟩
 refine ⟨hx,hr.len,fun b o' ha=>?_,fun k p x hk hs=>?_,hr.inj,fun g cells hg=>(hr.glob g cells hg).mono hx,fun b h=>(by rw [b7g];have:=hr.kep b h;omega),hr.nk⟩
 ·rw [b7g]
  rcases ha with (ha | ha) | ha
  ·have:=hr.blk b o' (.inl ha);omega
  ·omega
  ·have:=hr.blk b o' (.inr ha);omega
 ·obtain ⟨h1,h2⟩:=hr.obj k p x hk hs;by_cases hl:x.live=true
  ·have ae:=h1.lt hl;refine ⟨h1.mono hx (J5 w ob ae) (fun _ _ _ _ h=>h),?_⟩;have hf:¬ M.full p.block->¬ (M.settle w.heap.size).full p.block:=fun h h'=>by
    rcases h' with h' | h'
    ·exact h h'
    ·omega
   cases x<;>first | trivial|exact hf h2|exact ⟨hf h2.1,h2.2⟩
  ·cases x<;>first|exact ⟨tt,tt⟩ | simp [b9.live] at hl
def a4E (place:Nat->Option (Nat × Nat)) (cells:List CV):List (Nat × CV)->Option (List CV)
 | []=>some cells
 | (i,c)::rest =>
  match place i with
  | none=>none
  | some (off,size)=>if c.cells.length=size/\off+size<=cells.length then a4E place (N9 cells off c.cells) rest else none
theorem a7w {M:A5} {w:World} {place:Nat->Option (Nat × Nat)}:∀ (ps:List (Nat × CV)) (qs:List (Nat × Value)) (cells:List CV) (ak:Array Value) (ba:List CV),
 a4E place cells ps=some ba->ps.map (·.1)=qs.map (·.1)->(∀ (i:Nat) (x:Nat × CV) (y:Nat × Value),ps[i]? = some x->qs[i]? = some y->RV M w x.2 y.2/\(x.2.one=true\/∃ cs,x.2 = .agg cs)) ->
 ak.size=cells.length->(∀ c∈cells,c.one=true)->(∀ (i:Nat) (c:CV),cells[i]? = some c->RV M w c (ak.getD i undef)) ->
 ∃ r,Instr.fill place ak qs=some r/\RV M w (.agg ba) (.agg r)
 | [],[],cells,ak,ba,h,_,_,h2,h3,h4=>by
  simp only [a4E,Option.some.injEq] at h;subst h;exact ⟨ak,rfl,.agg h2 h3 h4⟩
 | [],q::qs,_,_,_,_,h,_,_,_,_=>by simp at h
 | p::ps,[],_,_,_,_,h,_,_,_,_=>by simp at h
 | (i,c)::ps,(i',v)::qs,cells,ak,ba,h,hm,bo,h2,h3,h4=>by
  simp only [b3E,List.cons.injEq] at hm;obtain ⟨rfl,hm⟩:=hm;simp only [a4E] at h;cases hp:place i with
  | none=>rw [hp] at h;cases h
  | some x =>
   obtain ⟨off,size⟩:=x;rw [hp] at h;simp only at h;split at h
   ·rename_i hc;obtain ⟨cH,db⟩:=hc;obtain ⟨hv,aP⟩:=bo 0 (i,c) (i,v) rfl rfl;obtain ⟨g1,g2,g3⟩:=hv.cells aP;have g1:v.cells.size=c.cells.length:=g1;have aF:off+c.cells.length<=cells.length:=by omega
    have gQ:(v.cells.zipIdx.foldl (fun cs (x:Value × Nat)=>cs.setIfInBounds (off+x.2) x.1) ak)=D2 ak off v.cells.toList:=by
     rw [<- Array.foldl_toList,Array.toList_zipIdx,a33];rfl
    have ih:=a7w ps qs (N9 cells off c.cells) (D2 ak off v.cells.toList) ba h hm (fun j x y hx hy=>bo (j+1) x y (sp_ hx) (sp_ hy)) (by rw [H6,Z6 aF,h2])
     (fun c' bC=>by
      rcases a11 bC with h' | h'
      ·exact g2 _ h'
      ·exact h3 _ h')
     (fun j c' hj=>by
      rw [K6 _ _ _ _ Q7];rw [a14 aF] at hj;simp only [a8J,g1];split at hj
      ·rename_i bw;rw [n_1 bw];have:=g3 _ _ hj;simpa using this
      ·rename_i bw;rw [n_0 bw];exact h4 _ _ hj)
    obtain ⟨r,aI,bm⟩:=ih;refine ⟨r,?_,bm⟩;simp only [Instr.fill,hp];rw [n_0 Q7];exact (n_9 (fun z=>Instr.fill place z qs) gQ).trans aI
   ·cases h
theorem a4B {α:Type} {s:Nat}:∀ (V:List (List α)),(∀ r∈V,r.length=s)->∀ (i j:Nat) (r:List α) (c:α),V[i]? = some r->r[j]? = some c->V.flatten[i*s+j]? = some c
 | [],_,i,j,r,c,h,_=>by simp at h
 | r0::V,hs,i,j,r,c,hi,hj=>by
  have h0:=hs r0 si_;rw [List.flatten_cons,a5Y]
  rcases i with _ | i
  ·simp at hi;subst hi;have:=(n_3.1 hj).1;rw [n_1 om_];simpa using hj
  ·simp at hi;have hr:=hs r (by simp [n_2 hi]);have ae:=(n_3.1 hj).1;rw [n_0 (by rw [h0,R3];omega)];have:=a4B V (fun r hr=>hs r (by simp [hr])) i j r c hi hj;rw [h0,show (i+1)*s+j - s=i*s+j from by rw [R3];omega];exact this
theorem flat_len {α:Type} {s:Nat}:∀ (V:List (List α)),(∀ r∈V,r.length=s)->V.flatten.length=V.length*s
 | [],_=>by simp
 | r0::V,hs=>by
  have h0:=hs r0 si_;rw [List.flatten_cons,n_7,flat_len V (fun r hr=>hs r (by simp [hr])),h0,C4,R3];omega
theorem b4k {len:Nat} (ho:o.op = .buildSlice t len parts) (hv:E.valids (parts.toList.map (·.2)))
 (hu:∀ w,(underlying t).run C.P w = .ok (.slice e) w) (hs:∀ w,(sizeOf e).run C.P w = .ok s w) (hz:∀ w,(zeroValue e).run C.P w = .ok z w) (bY:M5 z=true) (dB:(I2 z).one=true\/∃ cs,I2 z = .agg cs) (gu:(I2 z).cells.length=s) (fp:0 < s)
 (aj:len*s<=2^24) (ep:parts.toList.map (fun x=>(x.1,E.val C x.2))=ps) (aP:∀ x∈ps,x.2.one=true\/∃ cs,x.2 = .agg cs)
 (bD:a4E (fun i=>some (i*s,s)) ((List.range (len*s)).map fun i=>(I2 z).cells.getD (i%s) default) ps=some V.flatten) (cE:V.length=len) (bb:∀ r∈V,r.length=s):l9 C σ E o (.list V true none):=fun M w ρ hr h=>by
 have eE:RV M w (I2 z) z:=a0c bY;obtain ⟨g1,g2,g3⟩:=eE.cells dB;have bu:∀ x∈parts.toList,x.2∈o.op.operands:=fun x hx=>by
  rw [ho];simp only [Op.operands,List.mem_toArray,I9];exact ⟨x,hx,rfl⟩
 have bL:=Env.valids_mem hv;obtain ⟨r,aI,bm⟩:=a7w (M:=M) (w:=w) ps (parts.toList.map fun x=>(x.1,ρ x.2)) ((List.range (len*s)).map fun i=>(I2 z).cells.getD (i%s) default) ((Array.range (len*s)).map (z.cells[·%z.cells.size]!)) V.flatten bD (by simp [<- ep]) (fun i x y hx hy=>by
  refine ⟨?_,aP x (n_2 hx)⟩;subst ep;simp only [Q0,N0] at hx hy;obtain ⟨a,ha,rfl⟩:=hx;obtain ⟨a',cu,rfl⟩:=hy;have:a=a':=by rw [ha] at cu;injection cu
  subst this;have hm:=n_2 ha;exact h _ (bu _ hm) (bL _ (I9.2 ⟨_,hm,rfl⟩))) si_ (fun c hc=>by
   obtain ⟨i,_,rfl⟩:=I9.1 hc;have ae:i%s < (I2 z).cells.length:=by rw [gu];exact a5j _ fp
   rw [a5m,a1u ae];exact g2 _ (b2X ae)) (fun i c hi=>by
   rw [Q0,N0] at hi;obtain ⟨i',aY,rfl⟩:=hi;have bl:=(n_3.1 aY).1;simp at bl;rw [List.getElem?_range bl] at aY;injection aY with aY
   subst aY;have ae:i%s < (I2 z).cells.length:=by rw [gu];exact a5j _ fp
   have hlt2:i%s < z.cells.size:=by rw [g1];exact ae
   have:=g3 (i%s) _ (a1u ae);have e1:(I2 z).cells.getD (i%s) default=(I2 z).cells[i%s]:=by
    rw [a5m,a1u ae];rfl
   rw [e1];have e2:((Array.range (len*s)).map (z.cells[·%z.cells.size]!)).getD i undef=z.cells.getD (i%s) undef:=by
    have cc:z.cells.size=s:=by rw [g1,gu]
    have hms:i%s < s:=a5j _ fp;simp [bl,cc,hms]
   rw [e2];exact this)
 cases bm with
 | agg q1 q2 q3 =>
  obtain ⟨hx,fF⟩:=hr.allocFull (.cells r e);have aw:(execOp ρ o).run C.P w = .ok (.value (.slice (some ⟨w.heap.size,0,none⟩) len len)) (w.alloc (.cells r e)):=by
   have hl:(parts.map fun x=>(x.1,ρ x.2)).toList=parts.toList.map fun x=>(x.1,ρ x.2):=by simp
   simp only [execOp,ho,Instr.buildSlice,Sem.run_bind,hu,Result.andThen_ok,hs];rw [n_0 om_];simp only [hl];by_cases fX:len*s=0
   ·have er:Array.range 0 = #[]:=rfl;rw [fX,er] at aI;simp only [List.map_toArray,List.map_nil] at aI;simp [fX,er,aI,newRow]
   ·simp [fX,hz,aI,newRow]
  rw [aw];have bk:V.length<=maxLen:=by
   have:len<=len*s:=Nat.le_mul_of_pos_right _ fp;unfold maxLen;omega
  refine ⟨.list V true none,σ,_,hx,fF,?_,rfl,rfl⟩;rw [<- cE];have hflen:=flat_len V bb;refine .list (b:=w.heap.size) (off:=0) (s:=s) (fun i j=>r.getD (i*s+j) undef) (n_6 _) bk rfl (fun h=>by cases h) a1N bb (fun r0 bF c hc=>q2 c (List.mem_flatten.2 ⟨r0,bF,hc⟩)) (fun i j r0 c hi hj=>?_) (fun i j r0 c hi hj=>?_) (fun k hk=>by cases hk)
  ·have hf:=a4B V bb i j r0 c hi hj;have ae:=(n_3.1 hf).1;have bl:i*s+j < r.size:=by omega
   refine ⟨.inl (.inr rfl),?_⟩;rw [K9,World.cell?_alloc_new];simp [bl]
  ·exact (q3 _ _ (a4B V bb i j r0 c hi hj)).mono hx
def a1C (C:Ctx) (E:Env) (x:Option Operand) (d:Nat) (n:Nat):Prop :=
 match x with
 | none=>d=n
 | some x=>E.valid x/\∃ k i,E.val C x = .val (.int k i)/\0<=i/\i.toNat=n
theorem a3b {lo hi:Option Operand} {tok:Option Nat} {l h:Nat} (ho:o.op = .slice t x lo hi none) (hx:E.valid x) (ex:E.val C x = .list V nn tok)
 (hu:∀ w,(underlying t).run C.P w = .ok (.slice e) w) (hs:∀ w,(sizeOf e).run C.P w = .ok s w) (bb:∀ r∈V,r.length=s) (gG:a1C C E lo 0 l) (gS:a1C C E hi V.length h) (h1:l<=h) (h2:h<=V.length):l9 C σ E o (.list ((V.take h).drop l) nn none) :=
 i7 fun M w ρ hr hh=>by
  have aB:=hh x w9 hx;rw [ex] at aB;obtain ⟨a,cap,b,off,s',vals,hv,bk,bn,fq,dM,ha,cE,aP,hc,bo,_⟩:=aB.list_inv;have gT:∀ v,lo=some v->∃ k i,ρ v = .int k i/\0<=i/\i.toNat=l:=fun v hv=>by
   subst hv;obtain ⟨bL,k,i,he,h0,hi⟩:=gG;have:=hh v w9 bL;rw [he] at this;exact ⟨k,i,r6 this,h0,hi⟩
  have eX:∀ v,hi=some v->∃ k i,ρ v = .int k i/\0<=i/\i.toNat=h:=fun v hv=>by
   subst hv;obtain ⟨bL,k,i,he,h0,hi⟩:=gS;have:=hh v w9 bL;rw [he] at this;exact ⟨k,i,r6 this,h0,hi⟩
  have hb:(Instr.sliceBounds true V.length cap (lo.map ρ) (hi.map ρ) none).run C.P w = .ok (l,h,cap) w:=by
   have cT:(l:Int)<=h:=by omega
   have hh2:(h:Int)<=cap:=by omega
   cases lo with
   | none =>
    have:l=0:=by simpa [a1C] using gG.symm
    subst this;cases hi with
    | none =>
     have:h=V.length:=by simpa [a1C] using gS.symm
     subst this;simp [Instr.sliceBounds]
    | some v =>
     obtain ⟨k,i,he,h0,hi⟩:=eX v rfl;have:i<=(cap:Int):=by omega
     simp [Instr.sliceBounds,Instr.sliceBound,he,asIntOf,h0,this,hi]
   | some u =>
    obtain ⟨k',i',eY,ft,aY⟩:=gT u rfl;have aJ:i'<=(h:Int):=by omega
    cases hi with
    | none =>
     have:h=V.length:=by simpa [a1C] using gS.symm
     subst this;simp [Instr.sliceBounds,Instr.sliceBound,eY,asIntOf,ft,aJ,aY]
    | some v =>
     obtain ⟨k,i,he,h0,hi⟩:=eX v rfl;have bC:i<=(cap:Int):=by omega
     simp [Instr.sliceBounds,Instr.sliceBound,he,eY,asIntOf,h0,ft,bC,hi,aJ,aY]
  have aw:(execOp ρ o).run C.P w = .ok (.value (.slice (if cap=l then a else a.map (·.add (l*s))) (h - l) (cap - l))) w:=by
   simp [execOp,ho,Instr.sliceAt,Instr.slice,hu,hv,hb,hs]
  have aj:((V.take h).drop l).length=h - l:=by simp;omega
  refine ⟨_,aw,?_⟩;rw [<- aj];have aq:∀ i r,((V.take h).drop l)[i]? = some r->V[l+i]? = some r:=fun i r hi=>by
   rw [a5s,a2I] at hi;split at hi
   ·exact hi
   ·cases hi
  refine .list (b:=b) (off:=off+l*s) (s:=s) (fun i j=>vals (l+i) j) (by rw [aj];omega) om_ ?_ (fun h0=>by have:=dM h0;omega) (fun aC=>?_) (fun r hr=>bb r (a8E (b1I hr))) (fun r hr c hc=>aP r (a8E (b1I hr)) c hc) (fun i j r c hi hj=>?_) (fun i j r c hi hj=>bo _ _ _ _ (aq i r hi) hj) (fun k hk=>by cases hk)
  ·split
   ·exact fq
   ·rw [Option.isSome_map];exact fq
  ·have gU:V≠[]:=by rintro rfl;simp at aC
   have ae:l < h:=by
    rcases a3c l h with h' | h'
    ·exact h'
    ·exact absurd (b2p (by rw [aj];omega)) aC
   rw [n_0 om_,ha gU];simp [R7]
  ·have aY:=aq i r hi;have hss:s'=s:=by
    have hm:=n_2 aY;rw [<- cE r hm,bb r hm]
   subst hss;have:=hc _ _ _ _ aY hj;rw [show off+l*s'+i*s'+j=off+(l+i)*s'+j from by rw [R3];omega];exact this
end
def Src (C:Ctx) (M:A5) (w:World) (V:List (List CV)) (s:Nat) (v:Value):Prop :=
 ∃ a c,v = .slice a V.length c/\V.length<=c/\(∀ r∈V,r.length=s) /\
  ∃ ak:Array Value,(Builtin.firstCells s V.length v).run C.P w = .ok ak w/\ak.size=V.length*s /\
   ∀ (i j:Nat) (r:List CV) (c:CV),V[i]? = some r->r[j]? = some c->RV M w c (ak.getD (i*s+j) undef)/\c.one=true
theorem b73 (hj:j < s):(i*s+j) / s=i/\(i*s+j)%s=j:=by
 have hs:0 < s:=by omega
 refine ⟨?_,?_⟩
 ·rw [b3N,Nat.add_mul_div_right _ _ hs,Nat.div_eq_of_lt hj,K9]
 ·rw [b3N,Nat.add_mul_mod_self_right,b8z hj]
theorem Src.one (bb:∀ r∈V,r.length=s) (aF:ak.size=V.length*s)
 (h:∀ (i j:Nat) (r:List CV) (c:CV),V[i]? = some r->r[j]? = some c->RV M w c (ak.getD (i*s+j) undef)/\c.one=true):∀ u∈ak.toList,u.oneCell'=true:=by
 intro u hu;obtain ⟨q,hq,rfl⟩:=List.mem_iff_getElem.1 hu;have fY:q < V.length*s:=by simpa [aF] using hq
 have hs:0 < s:=by
  rcases b1h s with h0 | h0
  ·subst h0;simp at fY
  ·exact h0
 have hi:q / s < V.length:=Nat.div_lt_of_lt_mul (by rwa [Nat.mul_comm] at fY);have hj:q%s < s:=a5j _ hs;have hr:V[q / s]? = some V[q / s]:=by simp [hi]
 have bU:q%s < (V[q / s]).length:=by rw [bb _ (b2X hi)];exact hj
 obtain ⟨h1,h2⟩:=h (q / s) (q%s) _ _ hr (a1u bU);have hqq:q / s*s+q%s=q:=by rw [Nat.mul_comm];exact Nat.div_add_mod q s
 rw [hqq] at h1;have:=h1.one h2;have gW:q < ak.size:=by omega
 simpa [gW] using this
section
theorem a6r (f:Nat->Nat->Value) (h:∀ i j,i < n->j < s->w.cell? ⟨b,off+i*s+j,none⟩=some (f i j)) :
 (loadCells ⟨b,off,none⟩ (n*s)).run C.P w = .ok ((List.range (n*s)).map fun q=>f (q / s) (q%s)).toArray w :=
 U0 (fun q=>f (q / s) (q%s)) (n*s) fun q hq=>by
  have hs:0 < s:=by
   rcases b1h s with h0 | h0
   ·subst h0;simp at hq
   ·exact h0
  have:=h (q / s) (q%s) (Nat.div_lt_of_lt_mul (by rwa [Nat.mul_comm] at hq)) (a5j _ hs);rwa [a8W,show q / s*s+q%s=q from by rw [Nat.mul_comm];exact Nat.div_add_mod q s] at this
theorem a13 {tok:Option Nat} (h:RV M w (.list V nn tok) v) (bb:∀ r∈V,r.length=s):Src C M w V s v:=by
 obtain ⟨a,cap,b,off,s',vals,rfl,bk,bn,fq,dM,ha,cE,aP,hc,bo,_⟩:=h.list_inv;refine ⟨a,cap,rfl,bk,bb,?_⟩
 rcases V with _ | ⟨r0,V⟩
 ·refine ⟨#[],?_,si_,si_⟩;cases a with
  | none=>simp [Builtin.firstCells]
  | some a=>simp [Builtin.firstCells,loadCells,loadCellsFrom]
 ·have hss:s'=s:=by rw [<- cE r0 si_,bb r0 si_]
  subst hss;rw [ha si_];generalize eb:r0::V=rs at *;have aO:∀ i j,i < rs.length->j < s'->w.cell? ⟨b,off+i*s'+j,none⟩=some (vals i j):=fun i j hi hj=>by
   have hr:rs[i]? = some rs[i]:=by simp [hi]
   have hl:j < rs[i].length:=by rw [bb _ (b2X hi)];exact hj
   exact (hc i j _ _ hr (a1u hl)).2
  refine ⟨_,by simp only [Builtin.firstCells];exact a6r vals aO,si_,fun i j r c hi hj=>⟨?_,aP r (n_2 hi) c (n_2 hj)⟩⟩;have bh:=(n_3.1 hi).1;have bU:j < s':=by have:=(n_3.1 hj).1;rwa [bb r (n_2 hi)] at this
  have hq:i*s'+j < rs.length*s':=by
   have:(i+1)*s'<=rs.length*s':=R6 _ bh;rw [R3] at this;omega
  obtain ⟨e1,e2⟩:=b73 (i:=i) bU;have:((List.range (rs.length*s')).map fun q=>vals (q / s') (q%s')).toArray.getD (i*s'+j) undef=vals i j:=by simp [hq,e1,e2]
  rw [this];exact bo i j r c hi hj
theorem b0w {len:Nat} (hr:Rel C M σ w) (h:RV M w (.vec k off len) v) (hk:σ[k]? = some (.vec s V)) (hl:off+len<=V.length):Src C M w ((V.drop off).take len) s v:=by
 cases h with
 | vec hp h1 h2 h3 =>
  rename_i p a;obtain ⟨⟨rfl,q1,q2,q3,q4,ak,ty,q5,q6,q7⟩,_⟩:=hr.obj k p _ hp hk;have aj:((V.drop off).take len).length=len:=by simp;omega
  refine ⟨some a,p.cap - off,by rw [aj],by rw [aj];omega,fun r hr=>q3 r (b1I (a8E hr)),?_⟩;rw [aj];have aq:∀ i r,((V.drop off).take len)[i]? = some r->i < len/\V[off+i]? = some r:=fun i r hi=>by
   rw [a2I] at hi;split at hi
   ·rw [a5s] at hi;exact ⟨‹_›,hi⟩
   ·cases hi
  rcases b1h len with h0 | h0
  ·subst h0;exact ⟨#[],by simp [Builtin.firstCells,loadCells,loadCellsFrom],si_,fun i j r c hi _=>by have:=(aq i r hi).1;omega⟩
  ·rw [h3 om_];have aO:∀ i j,i < len->j < p.size->w.cell? ⟨p.block,off*p.size+i*p.size+j,none⟩=some (ak.getD ((off+i)*p.size+j) undef):=fun i j hi hj=>by
    have hq:(off+i)*p.size+j < ak.size:=by
     rw [q6];have:(off+i+1)*p.size<=p.cap*p.size:=R6 _ om_;rw [R3 (off+i)] at this;omega
    rw [show off*p.size+i*p.size+j=(off+i)*p.size+j from by rw [R3 off]];simp [World.cell?,q5,hq]
   refine ⟨_,by simp only [Builtin.firstCells];exact a6r _ aO,si_,fun i j r c hi hj=>?_⟩;obtain ⟨bh,aY⟩:=aq i r hi;have bu:=n_2 aY;refine ⟨?_,q4 r bu c (n_2 hj)⟩;have bU:j < p.size:=by have:=(n_3.1 hj).1;rwa [q3 r bu] at this
   have hq:i*p.size+j < len*p.size:=by
    have:(i+1)*p.size<=len*p.size:=R6 _ bh;rw [R3] at this;omega
   obtain ⟨e1,e2⟩:=b73 (i:=i) bU;have:((List.range (len*p.size)).map fun q=>ak.getD ((off+q / p.size)*p.size+q%p.size) undef).toArray.getD (i*p.size+j) undef=ak.getD ((off+i)*p.size+j) undef:=by simp [hq,e1,e2]
   rw [this];exact q7 _ _ _ _ aY hj
def V2 (V:List (List CV)) (p:Nat) (new:List (List CV)):List (List CV):=V.take p++(new++V.drop (p+new.length))
theorem b57 {p:Nat} (hp:p<=V.length) (i:Nat) :
 (V2 V p new)[i]? = if p<=i/\i < p+new.length then new[i - p]? else V[i]?:=by
 unfold V2;rw [a5Y];simp only [a5t,b8C hp]
 split
 ·rename_i h1;rw [n_0 om_,a2I,n_1 h1]
 ·rename_i h1;rw [a5Y]
  split
  ·rename_i h2;rw [n_1 om_]
  ·rename_i h2;rw [n_0 om_,a5s]
   congr 1;omega
theorem a8b {p:Nat} (h:r∈V2 V p new):r∈new\/r∈V:=by
 simp only [V2,Y1] at h
 rcases h with h | h | h
 ·exact .inr (a8E h)
 ·exact .inl h
 ·exact .inr (b1I h)
theorem b0I {p:Nat} (hp:p<=V.length):(V2 V p new).length=max V.length (p+new.length):=by
 simp [V2];omega
theorem b0s (hr:Rel C M σ w) {p:Nat} {q:Pl} (hq:M.pl[k]? = some q) (hk:σ[k]? = some (.vec s V)) (hp:p<=V.length) (hpc:p+new.length<=q.cap) (cw:∀ r∈new,r.length=s) (aF:ak.size=new.length*s)
 (bo:∀ (i j:Nat) (r:List CV) (c:CV),new[i]? = some r->r[j]? = some c->RV M w c (ak.getD (i*s+j) undef)/\c.one=true) :
 ∃ w',(storeCells ⟨q.block,p*s,none⟩ ak.toList).run C.P w = .ok () w'/\Ext M w M w'/\Rel C M (σ.set k (.vec s (V2 V p new))) w':=by
 obtain ⟨⟨rfl,q1,q2,q3,q4,aD,ty,q5,q6,q7⟩,hf,hc⟩:=hr.obj k q _ hq hk;have dm:p*q.size+ak.toList.length<=aD.size:=by
  rw [a8J,aF,q6,<- R3];exact R6 _ hpc
 have aw:=N3 (P:=C.P) (b:=q.block) (off:=p*q.size) (t:=ty) ak.toList 0 aD w q5 om_ (Src.one cw aF bo);rw [a7l] at aw;have hx:=Ext.putObj (w:=w) (.cells (D2 aD (p*q.size) ak.toList) ty (0,0)) (hr.nk k q _ hq hk rfl) hf hc;have hb:q.block < w.heap.size:=(a1z.1 q5).1;refine ⟨_,aw,hx,hr.putObj (ob:=.vec q.size (V2 V p new)) hq hk rfl hf hc _ ⟨rfl,by rw [b0I hp];omega,q2,fun r hr=>?_,fun r hr c hc=>?_,_,ty,World.putObj_same w _ hb,by rw [H6,q6],fun i j r c hi hj=>?_⟩⟩
 ·rcases a8b hr with h | h
  ·exact cw r h
  ·exact q3 r h
 ·rcases a8b hr with h | h
  ·obtain ⟨i,hi⟩:=L7.1 h;obtain ⟨j,hj⟩:=L7.1 hc;exact (bo i j r c hi hj).2
  ·exact q4 r h c hc
 ·rw [K6 _ _ _ _ dm];rw [b57 hp] at hi;have cE:r.length=q.size:=by
   split at hi
   ·exact cw r (n_2 hi)
   ·exact q3 r (n_2 hi)
  have bU:j < q.size:=by have:=(n_3.1 hj).1;omega
  simp only [a8J,aF];split at hi
  ·rename_i bw;have cS:i - p < new.length:=by omega
   have e1:p*q.size<=i*q.size:=R6 _ bw.1;have e2:(i - p)*q.size=i*q.size - p*q.size:=Nat.sub_mul _ _ _;have e3:(i - p+1)*q.size<=new.length*q.size:=R6 _ cS;rw [R3] at e3;rw [n_1 om_];have:=(bo (i - p) j r c hi hj).1.mono hx;rw [show i*q.size+j - p*q.size=(i - p)*q.size+j from by omega];simpa using this
  ·rename_i bw;rw [n_0 ?_]
   ·exact (q7 _ _ _ _ hi hj).mono hx
   ·rintro ⟨h1,h2⟩;apply bw;refine ⟨?_,?_⟩
    ·rcases a3c i p with h | h
     ·have:(i+1)*q.size<=p*q.size:=R6 _ h;rw [R3] at this;omega
     ·exact h
    ·rcases a3c i (p+new.length) with h | h
     ·exact h
     ·have:(p+new.length)*q.size<=i*q.size:=R6 _ h;rw [R3] at this;omega
theorem V1 {ix:Operand} {len:Nat} {i:Int} (ho:o.op = .indexAddr t x ix) (hx:E.valid x) (hi:E.valid ix) (ex:E.val C x = .vec k off len) (ei:E.val C ix = .val (.int .i64 i))
 (hu:∀ w,(underlying t).run C.P w = .ok (.slice e) w) (hs:∀ w,(sizeOf e).run C.P w = .ok s w) (hk:σ[k]? = some (.vec s V)) (h0:0<=i) (hl:i.toNat < len):l9 C σ E o (.eptr k (off+i.toNat) 0) :=
 i7 fun M w ρ hr h=>by
  have h1:=h x w9 hx;have h2:=h ix w9 hi;rw [ex] at h1;rw [ei] at h2;generalize hv:ρ x=v at h1;cases h1 with
  | vec hp g1 g2 g3 =>
   rename_i p a;obtain ⟨⟨rfl,_⟩,_⟩:=hr.obj k p _ hp hk;have ae:i < (len:Int):=by omega
   refine ⟨.pointer (some ⟨p.block,(off+i.toNat)*p.size+0,none⟩),?_,.eptr hp⟩;simp [execOp,ho,hv,r6 h2,Instr.indexAt,asIntOf,hu,hs,g3 om_,h0,ae,R7,R3]
theorem c4s (hr:Rel C M σ w) (hp:M.pl[k]? = some p) (hk:σ[k]? = some (.vec s V)) (hi:V[i]? = some r) (hc:r[off]? = some c) :
 ∃ v,w.cell? ⟨p.block,i*p.size+off,none⟩=some v/\RV M w c v:=by
 obtain ⟨⟨rfl,q1,q2,q3,q4,ak,ty,q5,q6,q7⟩,_⟩:=hr.obj k p _ hp hk;have bh:=(n_3.1 hi).1;have bU:off < p.size:=by have:=(n_3.1 hc).1;rwa [q3 r (n_2 hi)] at this
 have hq:i*p.size+off < ak.size:=by
  rw [q6];have:(i+1)*p.size<=p.cap*p.size:=R6 _ om_;rw [R3] at this;omega
 exact ⟨_,by simp [World.cell?,q5,hq];rfl,by simpa [hq] using q7 i off r c hi hc⟩
theorem N4 (ho:o.op = .load t x) (hx:E.valid x) (ex:E.val C x = .eptr k i off) (ha:∀ w,(isAgg t).run C.P w = .ok false w) (hk:σ[k]? = some (.vec s V)) (hi:V[i]? = some r) (hc:r[off]? = some c):l9 C σ E o c :=
 i7 fun M w ρ hr h=>by
  have h1:=h x w9 hx;rw [ex] at h1;generalize eD:ρ x=u at h1;cases h1 with
  | eptr hp =>
   obtain ⟨v,hv,bo⟩:=c4s hr hp hk hi hc;exact ⟨v,by simp [execOp,ho,eD,Instr.loadAt,Instr.sureAddr,loadVar,ha,hv],bo⟩
theorem c3u (ho:o.op = .store t x y) (hx:E.valid x) (hy:E.valid y) (ex:E.val C x = .eptr k i off) (ey:E.val C y=c) (hs:∀ w,(sizeOf t).run C.P w = .ok n w)
 (hc:c.one=true\/∃ cs,c = .agg cs) (hk:σ[k]? = some (.vec s V)) (hi:V[i]? = some r) (hl:c.cells.length=n) (ae:off+n<=r.length) (h:K (.ret (.val undef)) (σ.set k (.vec s (V.set i (N9 r off c.cells))))):H4 C σ E o K:=fun M w ρ hr hh=>by
 have h1:=hh x w9 hx;have h2:=hh y w9 hy;rw [ex] at h1;rw [ey] at h2;generalize hu:ρ x=u at h1;cases h1 with
 | eptr hp =>
  rename_i p;obtain ⟨⟨rfl,q1,q2,q3,q4,ak,ty,q5,q6,q7⟩,hf,cr⟩:=hr.obj k p _ hp hk;obtain ⟨g1,g2,g3⟩:=h2.cells hc;have aP:=a2U h2 hc;have bh:=(n_3.1 hi).1;have hrm:=n_2 hi;have cE:r.length=p.size:=q3 r hrm;have aF:off+c.cells.length<=r.length:=by omega
  have dm:i*p.size+off+(ρ y).cells.toList.length<=ak.size:=by
   rw [a8J,g1,q6];have:(i+1)*p.size<=p.cap*p.size:=R6 _ om_;rw [R3] at this;omega
  have aw:(execOp ρ o).run C.P w = .ok .skip (World.putObj w p.block (.cells (D2 ak (i*p.size+off) (ρ y).cells.toList) ty (0,0))):=by
   have:=N3 (P:=C.P) (b:=p.block) (off:=i*p.size+off) (t:=ty) (ρ y).cells.toList 0 ak w q5 om_ aP;simp only [a7l] at this;simp [execOp,ho,hu,Instr.storeAt,Instr.sureAddr,storeVar,hs,g1,hl,this]
  rw [aw];have hx:=Ext.putObj (w:=w) (.cells (D2 ak (i*p.size+off) (ρ y).cells.toList) ty (0,0)) (hr.nk k p _ hp hk rfl) hf cr;have hb:p.block < w.heap.size:=(a1z.1 q5).1;have bu:∀ r',r'∈V.set i (N9 r off c.cells)->r'=N9 r off c.cells\/r'∈V:=fun r' bp=>by
   rcases List.mem_or_eq_of_mem_set bp with h | h
   ·exact .inr h
   ·exact .inl h
  refine ⟨.val undef,_,M,hx,hr.putObj (ob:=.vec p.size (V.set i (N9 r off c.cells))) hp hk rfl hf cr _ ⟨rfl,sp_ q1,q2,fun r' bp=>?_,fun r' bp c' bC=>?_,_,ty,World.putObj_same w _ hb,by rw [H6,q6],fun i' j r' c' aY hj=>?_⟩,.val _,h⟩
  ·rcases bu r' bp with rfl | h
   ·rw [Z6 aF,cE]
   ·exact q3 r' h
  ·rcases bu r' bp with rfl | h
   ·rcases a11 bC with h' | h'
    ·exact g2 _ h'
    ·exact q4 r hrm _ h'
   ·exact q4 r' h _ bC
  ·rw [K6 _ _ _ _ dm];simp only [a8J,g1];rw [b1k] at aY;split at aY
   ·rename_i hii;subst hii;injection aY with aY
    subst aY;rw [a14 aF] at hj;split at hj
    ·rename_i bw;rw [n_1 om_];have:=(g3 _ _ hj).mono hx;rw [show i*p.size+j - (i*p.size+off)=j - off from by omega];simpa using this
    ·rename_i bw;rw [n_0 om_];exact (q7 _ _ _ _ hi hj).mono hx
   ·rename_i hii;have bU:j < p.size:=by have:=(n_3.1 hj).1;rwa [q3 r' (n_2 aY)] at this
    rw [n_0 ?_]
    ·exact (q7 _ _ _ _ aY hj).mono hx
    ·rintro ⟨h1,h2⟩
     rcases a3c i' i with h | h
     ·have:(i'+1)*p.size<=i*p.size:=R6 _ h;rw [R3] at this;omega
     ·have:(i+1)*p.size<=i'*p.size:=R6 _ om_;rw [R3] at this;omega
theorem b2A {lo hi:Option Operand} {len:Nat} {l h:Nat} (ho:o.op = .slice t x lo hi none) (hx:E.valid x) (ex:E.val C x = .vec k off len)
 (hu:∀ w,(underlying t).run C.P w = .ok (.slice e) w) (hs:∀ w,(sizeOf e).run C.P w = .ok s w) (hk:σ[k]? = some (.vec s V)) (gG:a1C C E lo 0 l) (gS:a1C C E hi len h) (h1:l<=h) (h2:off+h<=V.length):l9 C σ E o (.vec k (off+l) (h - l)) :=
 i7 fun M w ρ hr hh=>by
  have aB:=hh x w9 hx;rw [ex] at aB;generalize hv:ρ x=v at aB;cases aB with
  | vec hp g1 g2 g3 =>
   rename_i p a;obtain ⟨⟨rfl,q1,q2,_⟩,_⟩:=hr.obj k p _ hp hk;have gT:∀ v,lo=some v->∃ k i,ρ v = .int k i/\0<=i/\i.toNat=l:=fun v hv=>by
    subst hv;obtain ⟨bL,k,i,he,h0,hi⟩:=gG;have:=hh v w9 bL;rw [he] at this;exact ⟨k,i,r6 this,h0,hi⟩
   have eX:∀ v,hi=some v->∃ k i,ρ v = .int k i/\0<=i/\i.toNat=h:=fun v hv=>by
    subst hv;obtain ⟨bL,k,i,he,h0,hi⟩:=gS;have:=hh v w9 bL;rw [he] at this;exact ⟨k,i,r6 this,h0,hi⟩
   have bk:h<=p.cap - off:=by omega
   have hb:(Instr.sliceBounds true len (p.cap - off) (lo.map ρ) (hi.map ρ) none).run C.P w = .ok (l,h,p.cap - off) w:=by
    have cT:(l:Int)<=h:=by omega
    have hh2:(h:Int)<=((p.cap - off:Nat):Int):=by omega
    cases lo with
    | none =>
     have:l=0:=by simpa [a1C] using gG.symm
     subst this;cases hi with
     | none =>
      have:h=len:=by simpa [a1C] using gS.symm
      subst this;simp [Instr.sliceBounds]
     | some v =>
      obtain ⟨k,i,he,h0,hi⟩:=eX v rfl;have:i<=((p.cap - off:Nat):Int):=by omega
      simp [Instr.sliceBounds,Instr.sliceBound,he,asIntOf,h0,this,hi]
    | some u =>
     obtain ⟨k',i',eY,ft,aY⟩:=gT u rfl;have aJ:i'<=(h:Int):=by omega
     cases hi with
     | none =>
      have:h=len:=by simpa [a1C] using gS.symm
      subst this;simp [Instr.sliceBounds,Instr.sliceBound,eY,asIntOf,ft,aJ,aY]
     | some v =>
      obtain ⟨k,i,he,h0,hi⟩:=eX v rfl;have bC:i<=((p.cap - off:Nat):Int):=by omega
      simp [Instr.sliceBounds,Instr.sliceBound,he,eY,asIntOf,h0,ft,bC,hi,aJ,aY]
   have aw:(execOp ρ o).run C.P w = .ok (.value (.slice (if p.cap - off=l then some a else some (a.add (l*p.size))) (h - l) (p.cap - off - l))) w:=by
    simp [execOp,ho,Instr.sliceAt,Instr.slice,hu,hv,hb,hs]
   refine ⟨_,aw,?_⟩;by_cases he:p.cap - off=l
   ·rw [n_1 he,show p.cap - off - l=p.cap - (off+l) from by omega];exact .vec hp om_ g2 (fun ae=>by omega)
   ·rw [n_0 he,show p.cap - off - l=p.cap - (off+l) from by omega];exact .vec hp om_ g2 (fun ae=>by rw [g3 om_,R7,R3])
end
def kill (σ:List b9) (tok:Option Nat):List b9 :=
 match tok with
 | some k=>σ.set k .dead
 | none=>σ
def d4c (σ:List b9) (V:List (List CV)) (nn:Bool) (tok:Option Nat):Prop :=
 (V=[]/\nn=false/\tok=none)\/(V≠[]/\∃ k,tok=some k/\σ[k]? = some (.tip V.length))
def b9J (t0:Option TypeId) (σ:List b9) (V:List (List CV)) (nn:Bool) (tok:Option Nat):Prop :=
 (V=[]/\nn=false/\tok=none)\/(V≠[]/\∃ k,tok=some k/\σ[k]? = some (.tipT t0 V.length))
def A5.settleCells (M:A5) (b n:Nat):A5:={ M with cell:=fun x o=>M.cell x o\/(x=b/\o < n)}
section
theorem Rel.dead (hr:Rel C M σ w) (k:Nat):Rel C M (σ.set k .dead) w:=by
 have aq:∀ {k':Nat} {x:b9},(σ.set k .dead)[k']? = some x->x = .dead\/σ[k']? = some x:=by
  intro k' x h;rw [b1k] at h;split at h
  ·split at h
   ·injection h with h;exact .inl h.symm
   ·cases h
  ·exact .inr h
 refine ⟨by simp [hr.len],hr.blk,fun k' p x hp hx=>?_,fun k1 k2 p1 p2 x1 x2 h1 h2 bc aK da cT hb=>?_,hr.glob,hr.kep,fun k' p x hp aB bS=>?_⟩
 ·rcases aq hx with rfl | h
  ·exact ⟨tt,tt⟩
  ·exact hr.obj k' p x hp h
 ·rcases aq bc with rfl | dD
  ·cases da
  ·rcases aq aK with rfl | dw
   ·cases cT
   ·exact hr.inj k1 k2 p1 p2 x1 x2 h1 h2 dD dw da cT hb
 ·rcases aq aB with rfl | h'
  ·cases bS
  ·exact hr.nk k' p x hp h' bS
theorem Rel.kill {M:A5} {w:World} (hr:Rel C M σ w) (tok:Option Nat):Rel C M (kill σ tok) w:=by
 cases tok with
 | none=>exact hr
 | some k=>exact hr.dead k
theorem b6m (σ:List b9) (tok:Option Nat):(kill σ tok).length=σ.length:=by
 cases tok<;>simp [Go.Cl.kill]
theorem Rel.settleCells (hr:Rel C M σ w) (hp:M.pl[k]? = some p) (hk:σ[k]? = some (.tipT t0 n)):Ext M w (M.settleCells p.block (n*p.size)) w/\Rel C (M.settleCells p.block (n*p.size)) σ w:=by
 have hx:Ext M w (M.settleCells p.block (n*p.size)) w:=⟨⟨[],by simp [A5.settleCells]⟩,fun _ h=>h,fun _ _ h=>.inr (.inl h),fun _ _=>rfl,fun _ _ _=>rfl,n_6 _,Q8,rfl,rfl,rfl,fun b h=>⟨h,rfl,id,fun o f=>(by
  rcases f with f | ⟨rfl,_⟩
  ·exact f
  ·exact absurd h (hr.nk k p _ hp hk rfl))⟩⟩
 have ae:=(hr.obj k p _ hp hk).1.lt rfl;refine ⟨hx,hr.len,fun b o' ha=>?_,fun k' p' x aG aB=>?_,hr.inj,fun g cells hg=>(hr.glob g cells hg).mono hx,hr.kep,hr.nk⟩
 ·rcases ha with ha | ha | ⟨rfl,_⟩
  ·exact hr.blk b o' (.inl ha)
  ·exact hr.blk b o' (.inr ha)
  ·exact ae
 ·obtain ⟨h1,h2⟩:=hr.obj k' p' x aG aB;by_cases hl:x.live=true
  ·by_cases hkk:k'=k
   ·subst hkk;have aG:M.pl[k']? = some p':=aG;rw [hp] at aG;injection aG with aG
    subst aG;rw [hk] at aB;injection aB with aB
    subst aB;obtain ⟨q1,q2,q3,q4⟩:=h1;refine ⟨⟨q1,q2,⟨fun o ho=>?_,q3.2⟩,q4⟩,h2⟩
    rcases ho with ho | ⟨_,ho⟩
    ·exact q3.1 o ho
    ·exact ho
   ·have aC:p'.block≠p.block:=fun e=>hkk (hr.inj k' k p' p x _ aG hp aB hk hl rfl e);refine ⟨h1.mono hx rfl (fun _ _ _ o ho=>?_),?_⟩
    ·rcases ho with ho | ⟨ho,_⟩
     ·exact ho
     ·exact absurd ho aC
    ·have hc:(∀ o,¬ M.cell p'.block o)->∀ o,¬ (M.settleCells p.block (n*p.size)).cell p'.block o:=fun h o ho=>by
      rcases ho with ho | ⟨ho,_⟩
      ·exact h o ho
      ·exact aC ho
     cases x<;>first | trivial|exact h2|exact ⟨h2.1,hc h2.2⟩
  ·cases x<;>first|exact ⟨tt,tt⟩ | simp [b9.live] at hl
theorem Rel.drewN (hr:Rel C M σ w):Rel C M σ w.drew/\Ext M w M w.drew:=hr.drew
theorem X4 {c:Nat} {x:Value} (hu:∀ w,(underlying t).run P w = .ok (.slice e) w) (dq:(∀ w,(underlying t2).run P w = .ok (.slice e) w)\/∀ w,(underlying t2).run P w = .ok .string w) (hs:∀ w,(sizeOf e).run P w = .ok s w)
 (aj:∀ w,(Builtin.lenOf x).run P w = .ok m w) (dE:(Builtin.firstCells s m x).run P w = .ok ak w) (eZ:n+m<=c) (aW:(storeCells ⟨b,off+n*s,none⟩ ak.toList).run P w = .ok () w') :
 (Builtin.append_ #[t,t2] ty #[.slice (some ⟨b,off,none⟩) n c,x]).run P w = .ok (.slice (some ⟨b,off,none⟩) (n+m) c) w':=by
 rcases dq with dq | dq <;>
 simp [Builtin.append_,hu,dq,hs,aj,dE,eZ,R7,aW]
theorem a0t {c:Nat} {a:Option Addr} {x:Value} {old:Array Value} {ti:TypeInfo} (hu:∀ w,(underlying t).run P w = .ok (.slice e) w) (dq:(∀ w,(underlying t2).run P w = .ok (.slice e) w)\/∀ w,(underlying t2).run P w = .ok .string w) (hs:∀ w,(sizeOf e).run P w = .ok s w) (df:∀ w,(typeInfo e).run P w = .ok ti w) (hz:∀ w,(zeroValue e).run P w = .ok z w)
 (aj:∀ w,(Builtin.lenOf x).run P w = .ok m w) (bM:(Builtin.firstCells s n (.slice a n c)).run P w.drew = .ok old w.drew) (dE:(Builtin.firstCells s m x).run P w.drew = .ok ak w.drew) (eZ:c < n+m) (bn:n+m<=9223372036854775807) (hb:(n+m)*ti.bytes<=140737488355328) :
 ∃ c',n+m<=c'/\c'<=9223372036854775807/\(Builtin.append_ #[t,t2] ty #[.slice a n c,x]).run P w = .ok (.slice (some ⟨w.heap.size,0,none⟩) (n+m) c') (w.drew.alloc (.cells (old++ak++Builtin.zeroCells z.cells (c' - (n+m))) e)):=by
 have hg:=growslice_fits eZ hb;refine ⟨(Question.appendCap (n+m) c e).cut (w.tape w.drawn (.appendCap (n+m) c e)),?_,?_,?_⟩
 ·simp [Question.cut]
 ·simp only [Question.cut];have:w.tape w.drawn (.appendCap (n+m) c e)%(2^63 - (n+m)) < 2^63 - (n+m):=a5j _ om_;omega
 ·have h1:¬ (n+m<=c):=by omega
  have h2:¬ IntKind.i64.max < (n:Int)+(m:Int):=by
   have:IntKind.i64.max=9223372036854775807:=by decide
   omega
  have h3:¬ (281474976710656 < Builtin.nextslicecap (n+m) c*ti.bytes):=by omega
  rcases dq with dq | dq
  all_goals
   simp [Builtin.append_,hu,dq,hs,df,hz,aj,h1,h3,Question.forced,bM,dE,newRow];intro h;have:IntKind.i64.max=9223372036854775807:=by decide
   omega
theorem a7d (h:RV M w c v):RV M w.drew c v:=by
 have hx:Ext M w M w.drew:=⟨⟨[],si_⟩,fun _ h=>h,fun _ _ h=>.inr h,fun _ _=>rfl,fun _ _ _=>rfl,n_6 _,Q8,rfl,rfl,rfl,fun _ h=>⟨h,rfl,id,fun _=>id⟩⟩;exact h.mono hx
theorem Rel.tipStore (hr:Rel C M σ w) {aD cur':Array Value} (hp:M.pl[k]? = some p) (hk:σ[k]? = some (.tipT t0 n)) (hty:t0.getD ty=ty) (hc:w.heap[p.block]? = some (.cells aD ty (0,0))) (aF:cur'.size=aD.size) (hsame:∀ o,o < n*p.size->cur'[o]? = aD[o]?) :
 Ext M w M (World.putObj w p.block (.cells cur' ty (0,0)))/\Rel C M σ (World.putObj w p.block (.cells cur' ty (0,0))):=by
 obtain ⟨⟨q1,q2,q3,cur0,ty0,q4,q5⟩,cI⟩:=hr.obj k _ _ hp hk;have hb:p.block < w.heap.size:=(a1z.1 hc).1;have hx:Ext M w M (World.putObj w p.block (.cells cur' ty (0,0))):=by
  refine ⟨⟨[],si_⟩,fun _ h=>h,fun _ _ h=>.inr h,fun b' h=>World.putObj_other w _ (fun e=>cI (e ▸ h)),fun b' o' h=>?_,by rw [World.putObj_size];exact n_6 _,Q8,rfl,rfl,rfl,fun b' h=>⟨h,World.putObj_other w _ (fun e=>hr.nk k p _ hp hk rfl (e ▸ h)),id,fun _=>id⟩⟩;by_cases he:p.block=b'
  ·subst he;have ae:=q3.1 o' h;simp only [World.cell?,World.putObj_same w _ hb,hc,Option.isSome_none,b2c,if_false];exact hsame o' ae
  ·exact O6 (World.putObj_other w _ he)
 refine ⟨hx,hr.len,fun b o' ha=>by rw [World.putObj_size];exact hr.blk b o' ha,fun k' p' x aG aB=>?_,hr.inj,fun g cells hg=>(hr.glob g cells hg).mono hx,fun b h=>(by rw [World.putObj_size];exact hr.kep b h),hr.nk⟩;obtain ⟨h1,h2⟩:=hr.obj k' p' x aG aB;refine ⟨?_,h2⟩;by_cases hl:x.live=true
 ·by_cases hkk:k'=k
  ·subst hkk;rw [hp] at aG;injection aG with aG
   subst aG;rw [hk] at aB;injection aB with aB
   subst aB;rw [q4] at hc;injection hc with hc
   injection hc with hc _ _
   exact ⟨q1,q2,q3,cur',ty,by rw [hty];exact World.putObj_same w _ hb,by rw [aF,<- hc,q5]⟩
  ·have aC:p.block≠p'.block:=fun e=>hkk (hr.inj k' k p' p x _ aG hp aB hk hl rfl e.symm);exact h1.mono hx (World.putObj_other w _ aC) (fun _ _ _ _ h=>h)
 ·cases x<;>first | trivial | simp [b9.live] at hl
theorem Rel.tipNew (hr:Rel C M σ w) (hp:M.pl[k]? = some p) (hk:σ[k]? = some (.tipT t0 n)) (hn:n<=m) (hm:m<=p.cap):Ext M w (M.add p) w/\Rel C (M.add p) (σ.set k .dead++[.tipT t0 m]) w:=by
 obtain ⟨⟨q1,q2,q3,cur0,ty0,q4,q5⟩,cI⟩:=hr.obj k _ _ hp hk;have hx:Ext M w (M.add p) w:=⟨⟨[p],rfl⟩,fun _ h=>h,fun _ _ h=>.inr h,fun _ _=>rfl,fun _ _ _=>rfl,n_6 _,Q8,rfl,rfl,rfl,fun _ h=>⟨h,rfl,id,fun _=>id⟩⟩;have hd:=hr.dead k;have aj:(σ.set k b9.dead).length=σ.length:=by simp
 have aq:∀ {j:Nat} {q:Pl},(M.add p).pl[j]? = some q->(j < σ.length/\M.pl[j]? = some q)\/(j=σ.length/\q=p):=by
  intro j q hj;simp only [A5.add,a5Y,hr.len] at hj;split at hj
  ·exact .inl ⟨‹_›,hj⟩
  ·rename_i ae;have:j - σ.length=0:=by
    have:=(n_3.1 hj).1;simp at this;omega
   rw [this] at hj;simp at hj;exact .inr ⟨om_,hj.symm⟩
 have eP:∀ {j:Nat} {x:b9},(σ.set k b9.dead++[b9.tipT t0 m])[j]? = some x->(j < σ.length/\(σ.set k b9.dead)[j]? = some x)\/(j=σ.length/\x = .tipT t0 m):=by
  intro j x hj;rw [a5Y] at hj;split at hj
  ·exact .inl ⟨om_,hj⟩
  ·have:j - (σ.set k b9.dead).length=0:=by
    have:=(n_3.1 hj).1;simp at this ⊢;omega
   rw [this] at hj;simp at hj;exact .inr ⟨om_,hj.symm⟩
 have bx:k < σ.length:=(n_3.1 hk).1;have dF:∀ {j:Nat} {q:Pl} {x:b9},M.pl[j]? = some q->(σ.set k b9.dead)[j]? = some x->x.live=true->q.block≠p.block:=by
  intro j q x hj dg hl e;have hjk:j≠k:=by
   rintro rfl;rw [b1i om_] at dg;injection dg with dg
   subst dg;cases hl
  have eF:σ[j]? = some x:=by rwa [a2i (Ne.symm hjk)] at dg
  exact hjk (hr.inj j k q p x _ hj hp eF hk hl rfl e)
 refine ⟨hx,by simp [A5.add,hr.len],fun b o' ha=>hr.blk b o' ha,fun j q x hj dg=>?_,fun j j' q q' x x' hj fa dg eF hl bJ hb=>?_,fun g cells hg=>(hr.glob g cells hg).mono hx,hr.kep,fun j q x hj dg bS=>?_⟩
 ·rcases eP dg with ⟨ae,h⟩ | ⟨rfl,rfl⟩
  ·rcases aq hj with ⟨_,hq⟩ | ⟨rfl,_⟩
   ·obtain ⟨h1,h2⟩:=hd.obj j q x hq h;refine ⟨?_,h2⟩;by_cases hl:x.live=true
    ·exact h1.mono hx rfl (fun _ _ _ _ h=>h)
    ·cases x<;>first | trivial | simp [b9.live] at hl
   ·omega
  ·rcases aq hj with ⟨h,_⟩ | ⟨_,rfl⟩
   ·omega
   ·refine ⟨⟨hm,q2,⟨fun o ho=>a97 (q3.1 o ho) (R6 _ hn),q3.2⟩,cur0,ty0,q4,q5⟩,cI⟩
 ·rcases eP dg with ⟨ae,h⟩ | ⟨rfl,rfl⟩
  ·rcases aq hj with ⟨_,hq⟩ | ⟨rfl,_⟩
   ·rcases eP eF with ⟨bl,h'⟩ | ⟨rfl,rfl⟩
    ·rcases aq fa with ⟨_,fY⟩ | ⟨rfl,_⟩
     ·exact hd.inj j j' q q' x x' hq fY h h' hl bJ hb
     ·omega
    ·rcases aq fa with ⟨h0,_⟩ | ⟨_,rfl⟩
     ·omega
     ·exact absurd hb (dF hq h hl)
   ·omega
  ·rcases aq hj with ⟨h0,_⟩ | ⟨_,rfl⟩
   ·omega
   ·rcases eP eF with ⟨bl,h'⟩ | ⟨rfl,rfl⟩
    ·rcases aq fa with ⟨_,fY⟩ | ⟨rfl,_⟩
     ·exact absurd hb.symm (dF fY h' bJ)
     ·omega
    ·rfl
 ·rcases eP dg with ⟨ae,h⟩ | ⟨rfl,rfl⟩
  ·rcases aq hj with ⟨_,hq⟩ | ⟨rfl,_⟩
   ·exact hd.nk j q x hq h bS
   ·omega
  ·rcases aq hj with ⟨h0,_⟩ | ⟨_,rfl⟩
   ·omega
   ·exact hr.nk k q _ hp hk rfl
theorem Src.lenOf (h:Src C M w V s v) (w':World):(Builtin.lenOf v).run C.P w' = .ok V.length w':=by
 obtain ⟨a,c,rfl,_⟩:=h;simp [Builtin.lenOf]
def b8x (C:Ctx) (w:World) (M:A5) (V:List (List CV)) (s:Nat) (v:Value):Prop :=
 (∀ w',(Builtin.lenOf v).run C.P w' = .ok V.length w')/\(∀ r∈V,r.length=s) /\
  ∃ ak:Array Value,(Builtin.firstCells s V.length v).run C.P w = .ok ak w/\ak.size=V.length*s /\
   ∀ (i j:Nat) (r:List CV) (c:CV),V[i]? = some r->r[j]? = some c->RV M w c (ak.getD (i*s+j) undef)/\c.one=true
theorem Src.any (h:Src C M w V s v):b8x C w M V s v:=by
 have hl:=h.lenOf;obtain ⟨_,_,_,_,h1,h2⟩:=h;exact ⟨hl,h1,h2⟩
theorem a4N {old rest:Array Value} (h1:old.size=V.length*s) (h2:ak.size=new.length*s) (bb:∀ r∈V,r.length=s) (cw:∀ r∈new,r.length=s)
 (ho:∀ (i j:Nat) (r:List CV) (c:CV),V[i]? = some r->r[j]? = some c->RV M w c (old.getD (i*s+j) undef))
 (ha:∀ (i j:Nat) (r:List CV) (c:CV),new[i]? = some r->r[j]? = some c->RV M w c (ak.getD (i*s+j) undef)) (i j:Nat) (r:List CV) (c:CV) (hi:(V++new)[i]? = some r) (hj:r[j]? = some c) :
 i*s+j < (old++ak++rest).size/\RV M w c ((old++ak++rest).getD (i*s+j) undef):=by
 rw [a5Y] at hi;split at hi
 ·rename_i ae;have bU:j < s:=by have:=(n_3.1 hj).1;rwa [bb r (n_2 hi)] at this
  have hq:i*s+j < old.size:=by
   rw [h1];have:(i+1)*s<=V.length*s:=R6 _ ae;rw [R3] at this;omega
  refine ⟨by simp;omega,?_⟩;have dh:i*s+j < (old++ak).size:=by simp;omega
  have e:(old++ak++rest).getD (i*s+j) undef=old.getD (i*s+j) undef:=by
   simp only [a0k];rw [b6r dh,b6r hq]
  rw [e];exact ho i j r c hi hj
 ·rename_i aE;have bh:=(n_3.1 hi).1;have bU:j < s:=by have:=(n_3.1 hj).1;rwa [cw r (n_2 hi)] at this
  have e1:(i - V.length)*s=i*s - V.length*s:=Nat.sub_mul _ _ _;have e2:V.length*s<=i*s:=R6 _ om_;have e3:(i - V.length+1)*s<=new.length*s:=R6 _ bh;rw [R3] at e3;refine ⟨by simp;omega,?_⟩;have dh:i*s+j < (old++ak).size:=by simp;omega
  have e:(old++ak++rest).getD (i*s+j) undef=ak.getD ((i - V.length)*s+j) undef:=by
   simp only [a0k];rw [b6r dh,Array.getElem?_append_right om_]
   congr 2;omega
  rw [e];exact ha _ j r c hi hj
theorem a1Q (z:Array Value) (n:Nat):(Builtin.zeroCells z n).size=n*z.size:=by simp [Builtin.zeroCells]
theorem RV.list' {tok:Option Nat} {a:Option Addr} {cap:Nat} (hL:L=V.length) (vals:Nat->Nat->Value) :
 V.length<=cap->cap<=maxLen->a.isSome=nn->(nn=false->cap=0)->(V≠[]->a=some ⟨b,off,none⟩) ->
 (∀ r∈V,r.length=s)->(∀ r∈V,∀ c∈r,c.one=true) ->
 (∀ (i j:Nat) (r:List CV) (c:CV),V[i]? = some r->r[j]? = some c->M.at b (off+i*s+j)/\w.cell? ⟨b,off+i*s+j,none⟩=some (vals i j)) ->
 (∀ (i j:Nat) (r:List CV) (c:CV),V[i]? = some r->r[j]? = some c->RV M w c (vals i j)) ->
 (∀ k,tok=some k->∃ s',M.pl[k]? = some ⟨b,cap,s'⟩/\a=some ⟨b,0,none⟩/\off=0/\(V≠[]->s'=s)) ->
 RV M w (.list V nn tok) (.slice a L cap):=by
 subst hL;exact RV.list vals
theorem a9T {tok:Option Nat} {ti:TypeInfo} (ho:o.op = .call { callee:=.builtin .append,args:=#[x,y],argTypes:=#[t,t2]}) (hx:E.valid x) (hy:E.valid y) (ex:E.val C x = .list V nn tok)
 (aR:∀ M w v,Rel C M σ w->RV M w (E.val C y) v->b8x C w M new s v) (hu:∀ w,(underlying t).run C.P w = .ok (.slice e) w) (hs:∀ w,(sizeOf e).run C.P w = .ok s w) (df:∀ w,(typeInfo e).run C.P w = .ok ti w) (hz:∀ w,(zeroValue e).run C.P w = .ok z w) (cc:z.cells.size=s)
 (dq:(∀ w,(underlying t2).run C.P w = .ok (.slice e) w)\/∀ w,(underlying t2).run C.P w = .ok .string w) (ht0:t0=none\/t0=some e) (hts:t0.isSome=true->s=1) (bT:b9J t0 σ V nn tok\/(V=[]/\t0=some e/\∃ k,tok=some k/\σ[k]? = some (.tipT t0 0))) (bb:∀ r∈V,r.length=s) (dr:new≠[]) (hb:(V.length+new.length)*ti.bytes<=140737488355328) (bn:V.length+new.length<=9223372036854775807)
 (hk:K (.ret (.list (V++new) true (some σ.length))) (kill σ tok++[.tipT t0 (V.length+new.length)])):H4 C σ E o K:=fun M w ρ hr hh=>by
 have h1:=hh x H9 hx;have h2:=hh y H9 hy;rw [ex] at h1;have hso:=a13 (C:=C) h1 bb;have eR:=aR M w _ hr h2;have aj:=eR.1;obtain ⟨a,cap,b,off,s',vals,hv,bk,dG,fq,dM,ha,cE,aP,hc,bo,cl⟩:=h1.list_inv;have gH:0 < new.length:=b1w.2 dr;have bz:(execOp ρ o).run C.P w=((Builtin.append_ #[t,t2] o.type #[ρ x,ρ y]).run C.P w).andThen fun v w=>.ok (.value v) w:=by
  simp [execOp,ho,resolve,invoke,builtin]
 have cm:∀ r∈V++new,r.length=s:=fun r hr=>by
  rcases Y1.1 hr with h | h
  ·exact bb r h
  ·obtain ⟨_,cw,_⟩:=eR;exact cw r h
 have bP:(V++new).length=V.length+new.length:=n_7;by_cases ce:V.length+new.length<=cap
 ·
  rcases bT with (⟨rfl,rfl,rfl⟩ | ⟨hrne,k,rfl,fZ⟩) | ⟨rfl,ht0',k,rfl,fZ⟩
  ·have:=dM rfl;simp at ce;omega
  ·obtain ⟨sz,hp,ha0,rfl,aF⟩:=cl k rfl;obtain ⟨⟨q1,q2,q3,aD,ty,q4,q5⟩,cI⟩:=hr.obj k _ _ hp fZ;obtain ⟨fu,gX⟩:∃ fu,fu=t0.getD ty:=⟨_,rfl⟩;rw [<- gX] at q4;have hgd:t0.getD fu=fu:=by rw [gX];cases t0<;>rfl
   simp only at q1 q2 q3 q4 q5;obtain ⟨_,cw,ak,cy,bg,bN⟩:=eR;obtain ⟨r0,rs,hrr⟩:∃ r0 rs,V=r0::rs:=by
    cases V with
    | nil=>exact absurd rfl hrne
    | cons r0 rs=>exact ⟨r0,rs,rfl⟩
   have bq:s'=s:=by rw [<- cE r0 (by simp [hrr]),bb r0 (by simp [hrr])]
   have hss:sz=s:=(aF hrne).trans bq;subst hss;subst bq;have az:ak.toList.length=ak.size:=a8J;have dm:V.length*s'+ak.toList.length<=aD.size:=by
    rw [az,bg,q5,<- R3];exact R6 _ ce
   have aW:=N3 (P:=C.P) (b:=b) (off:=V.length*s') (t:=fu) ak.toList 0 aD w q4 om_ (Src.one cw bg bN);rw [a7l] at aW;have aw:(execOp ρ o).run C.P w = .ok (.value (.slice (some ⟨b,0,none⟩) (V.length+new.length) cap)) (World.putObj w b (.cells (D2 aD (V.length*s') ak.toList) fu (0,0))):=by
    rw [bz,hv,ha0,X4 hu dq hs aj cy ce (by rw [K9];exact aW)];rfl
   rw [aw];obtain ⟨bc,aI⟩:=hr.tipStore (cur':=D2 aD (V.length*s') ak.toList) hp fZ hgd q4 (H6 _ _ _) (fun o' ho'=>by
    have h0:o' < aD.size:=by
     rw [q5];exact a97 ho' (R6 _ q1)
    have h1:o' < (D2 aD (V.length*s') ak.toList).size:=by rw [H6];exact h0
    have:=K6 ak.toList aD (V.length*s') o' dm;rw [n_0 (by simp only at ho';omega)] at this;simp only [a0k,a1r h0,a1r h1,a8H] at this;rw [a1r h0,a1r h1,this])
   obtain ⟨aK,bm⟩:=aI.tipNew (m:=V.length+new.length) hp fZ om_ ce;have di:(M.add ⟨b,cap,s'⟩).pl[σ.length]? = some ⟨b,cap,s'⟩:=by simp [A5.add,<- hr.len]
   have bZ:(σ.set k b9.dead++[b9.tipT t0 (V.length+new.length)])[σ.length]? = some (.tipT t0 (V.length+new.length)):=by simp
   obtain ⟨gv,fx⟩:=bm.settleCells di bZ;have hx:=(bc.trans aK).trans gv;refine ⟨_,_,_,hx,fx,?_,hk⟩;have hbs:b < w.heap.size:=(a1z.1 q4).1;have aO:∀ q,q < aD.size->(World.putObj w b (.cells (D2 aD (V.length*s') ak.toList) fu (0,0))).cell? ⟨b,q,none⟩=some ((D2 aD (V.length*s') ak.toList).getD q undef):=fun q hq=>by
    have:q < (D2 aD (V.length*s') ak.toList).size:=by rw [H6];exact hq
    simp [World.cell?,World.putObj_same w _ hbs,this]
   have hq:∀ i j r c,(V++new)[i]? = some r->r[j]? = some c->i*s'+j < (V.length+new.length)*s':=fun i j r c hi hj=>by
    have bh:=(n_3.1 hi).1;rw [bP] at bh;have bU:j < s':=by have:=(n_3.1 hj).1;rwa [cm r (n_2 hi)] at this
    have:(i+1)*s'<=(V.length+new.length)*s':=R6 _ bh;rw [R3] at this;omega
   have hqc:(V.length+new.length)*s'<=aD.size:=by rw [q5];exact R6 _ ce
   refine RV.list' (b:=b) (off:=0) (s:=s') bP.symm (fun i j=>(D2 aD (V.length*s') ak.toList).getD (i*s'+j) undef) (by rw [bP];exact ce) q2 rfl (fun h=>by cases h) a1N cm (fun r hr c hc=>?_) (fun i j r c hi hj=>⟨.inr (.inr ⟨rfl,by rw [K9];exact hq i j r c hi hj⟩),by rw [K9];exact aO _ (a97 (hq i j r c hi hj) hqc)⟩) (fun i j r c hi hj=>?_) (fun k' aH=>⟨s',?_,rfl,rfl,fun _=>rfl⟩)
   ·rcases Y1.1 hr with h | h
    ·exact aP r h c hc
    ·obtain ⟨i,hi⟩:=L7.1 h;obtain ⟨j,hj⟩:=L7.1 hc;exact (bN i j r c hi hj).2
   ·rw [K6 _ _ _ _ dm];rw [a5Y] at hi;split at hi
    ·rename_i ae;have bU:j < s':=by have:=(n_3.1 hj).1;rwa [bb r (n_2 hi)] at this
     have hql:i*s'+j < V.length*s':=by
      have:(i+1)*s'<=V.length*s':=R6 _ ae;rw [R3] at this;omega
     rw [n_0 om_];have h3:=(hc i j r c hi hj).2;rw [K9] at h3;have h4:w.cell? ⟨b,i*s'+j,none⟩=some (aD.getD (i*s'+j) undef):=by
      have:i*s'+j < aD.size:=by omega
      simp [World.cell?,q4,this]
     rw [h4] at h3;injection h3 with h3
     rw [h3];exact (bo i j r c hi hj).mono hx
    ·rename_i aE;have bh:=(n_3.1 hi).1;have bU:j < s':=by have:=(n_3.1 hj).1;rwa [cw r (n_2 hi)] at this
     have e1:(i - V.length)*s'=i*s' - V.length*s':=Nat.sub_mul _ _ _;have e2:V.length*s'<=i*s':=R6 _ om_;have e3:(i - V.length+1)*s'<=new.length*s':=R6 _ bh;rw [R3] at e3;rw [n_1 (by rw [az,bg];omega)];have:=(bN _ j r c hi hj).1.mono hx;rw [show i*s'+j - V.length*s'=(i - V.length)*s'+j from by omega];simpa using this
   ·injection aH with aH
    subst aH;exact di
  ·
   obtain ⟨sz,hp,ha0,rfl,_⟩:=cl k rfl;obtain ⟨⟨q1,q2,q3,aD,ty,q4,q5⟩,cI⟩:=hr.obj k _ _ hp fZ;have aF:sz=s:=(q3.2 (by rw [ht0'];rfl)).trans (hts (by rw [ht0'];rfl)).symm;obtain ⟨fu,gX⟩:∃ fu,fu=t0.getD ty:=⟨_,rfl⟩;rw [<- gX] at q4;have hgd:t0.getD fu=fu:=by rw [gX];cases t0<;>rfl
   simp only at q1 q2 q3 q4 q5;subst aF;obtain ⟨_,cw,ak,cy,bg,bN⟩:=eR;have az:ak.toList.length=ak.size:=a8J;have dR:([]:List (List CV)).length=0:=rfl;rw [dR] at ce bk hv bP hb bn hk;rw [K9] at ce hk;have dm:0+ak.toList.length<=aD.size:=by
    rw [az,bg,q5,K9];exact R6 _ ce
   have aW:=N3 (P:=C.P) (b:=b) (off:=0) (t:=fu) ak.toList 0 aD w q4 om_ (Src.one cw bg bN);rw [a7l] at aW;have aw:(execOp ρ o).run C.P w = .ok (.value (.slice (some ⟨b,0,none⟩) new.length cap)) (World.putObj w b (.cells (D2 aD 0 ak.toList) fu (0,0))):=by
    have:=X4 (P:=C.P) (ty:=o.type) (b:=b) (off:=0) (n:=0) (m:=new.length) (c:=cap) hu dq hs aj cy om_ (by rw [Nat.zero_mul];exact aW);rw [K9] at this;rw [bz,hv,ha0,this];rfl
   rw [aw];obtain ⟨bc,aI⟩:=hr.tipStore (cur':=D2 aD 0 ak.toList) hp fZ hgd q4 (H6 _ _ _) (fun o' ho'=>by simp at ho');obtain ⟨aK,bm⟩:=aI.tipNew (m:=new.length) hp fZ (n_5 _) ce;have di:(M.add ⟨b,cap,sz⟩).pl[σ.length]? = some ⟨b,cap,sz⟩:=by simp [A5.add,<- hr.len]
   have bZ:(σ.set k b9.dead++[b9.tipT t0 new.length])[σ.length]? = some (.tipT t0 new.length):=by simp
   obtain ⟨gv,fx⟩:=bm.settleCells di bZ;have hx:=(bc.trans aK).trans gv;refine ⟨_,_,_,hx,fx,?_,hk⟩;have hbs:b < w.heap.size:=(a1z.1 q4).1;have aO:∀ q,q < aD.size->(World.putObj w b (.cells (D2 aD 0 ak.toList) fu (0,0))).cell? ⟨b,q,none⟩=some ((D2 aD 0 ak.toList).getD q undef):=fun q hq=>by
    have:q < (D2 aD 0 ak.toList).size:=by rw [H6];exact hq
    simp [World.cell?,World.putObj_same w _ hbs,this]
   have hq:∀ i j r c,new[i]? = some r->r[j]? = some c->i*sz+j < new.length*sz:=fun i j r c hi hj=>by
    have bh:=(n_3.1 hi).1;have bU:j < sz:=by have:=(n_3.1 hj).1;rwa [cw r (n_2 hi)] at this
    have:(i+1)*sz<=new.length*sz:=R6 _ bh;rw [R3] at this;omega
   have hqc:new.length*sz<=aD.size:=by rw [q5];exact R6 _ ce
   refine RV.list' (b:=b) (off:=0) (s:=sz) rfl (fun i j=>(D2 aD 0 ak.toList).getD (i*sz+j) undef) ce q2 rfl (fun h=>by cases h) a1N cw (fun r hr c hc=>?_) (fun i j r c hi hj=>⟨.inr (.inr ⟨rfl,by rw [K9];exact hq i j r c hi hj⟩),by rw [K9];exact aO _ (a97 (hq i j r c hi hj) hqc)⟩) (fun i j r c hi hj=>?_) (fun k' aH=>⟨sz,?_,rfl,rfl,fun _=>rfl⟩)
   ·obtain ⟨i,hi⟩:=L7.1 hr;obtain ⟨j,hj⟩:=L7.1 hc;exact (bN i j r c hi hj).2
   ·rw [K6 _ _ _ _ dm];rw [n_1 (by rw [az,bg];have:=hq i j r c hi hj;omega)];have:=(bN i j r c hi hj).1.mono hx;simpa using this
   ·injection aH with aH
    subst aH;exact di
 ·
  obtain ⟨eS,hxd⟩:=hr.drewN;have fc:=a13 (C:=C) (a7d h1) bb;have hsn':=aR M w.drew _ eS (a7d h2);rw [hv] at fc;obtain ⟨a1,c1,dC,_,_,old,hfo,fe,fG⟩:=fc;obtain ⟨_,cw,ak,cy,bg,bN⟩:=hsn';obtain ⟨c',cH,db,aw⟩:=a0t (P:=C.P) (ty:=o.type) (a:=a) (c:=cap) (w:=w) hu dq hs df hz aj hfo cy om_ bn hb;rw [bz,hv,aw];simp only [Result.andThen_ok];have gY:w.drew.heap.size=w.heap.size:=rfl;rw [<- gY];have hrk:=eS.kill tok;have gZ:=b6m σ tok;have fH:(old++ak++Builtin.zeroCells z.cells (c' - (V.length+new.length))).size=c'*s:=by
   simp only [c0E,a1Q,fe,bg,cc];rw [<- R3,<- R3]
   congr 1;omega
  have bm:=hrk.alloc ⟨w.drew.heap.size,c',s⟩ (.cells (old++ak++Builtin.zeroCells z.cells (c' - (V.length+new.length))) e) (.tipT t0 (V.length+new.length)) rfl
   ⟨cH,by unfold maxLen;simp only;omega,⟨fun o' ho'=>by have:=eS.blk _ _ (.inr ho');simp only at this;omega,hts⟩,_,e,by rw [show t0.getD e=e from by rcases ht0 with h | h<;>rw [h]<;>rfl];exact A4 _ _,fH⟩
  have aK:=Ext.alloc hrk ⟨w.drew.heap.size,c',s⟩ (.cells (old++ak++Builtin.zeroCells z.cells (c' - (V.length+new.length))) e);have di:(M.add ⟨w.drew.heap.size,c',s⟩).pl[σ.length]? = some ⟨w.drew.heap.size,c',s⟩:=by simp [A5.add,<- hr.len]
  have bZ:(kill σ tok++[b9.tipT t0 (V.length+new.length)])[σ.length]? = some (.tipT t0 (V.length+new.length)):=by rw [<- gZ];simp
  obtain ⟨gv,fx⟩:=bm.settleCells di bZ;have hx:=(hxd.trans aK).trans gv;refine ⟨_,_,_,hx,fx,?_,hk⟩;have aq:=a4N (rest:=Builtin.zeroCells z.cells (c' - (V.length+new.length))) fe bg bb cw (fun i j r c hi hj=>(fG i j r c hi hj).1) (fun i j r c hi hj=>(bN i j r c hi hj).1);have hq:∀ i j r c,(V++new)[i]? = some r->r[j]? = some c->i*s+j < (V.length+new.length)*s:=fun i j r c hi hj=>by
   have bh:=(n_3.1 hi).1;rw [bP] at bh;have bU:j < s:=by have:=(n_3.1 hj).1;rwa [cm r (n_2 hi)] at this
   have:(i+1)*s<=(V.length+new.length)*s:=R6 _ bh;rw [R3] at this;omega
  refine RV.list' (b:=w.drew.heap.size) (off:=0) (s:=s) bP.symm (fun i j=>(old++ak++Builtin.zeroCells z.cells (c' - (V.length+new.length))).getD (i*s+j) undef) (by rw [bP];exact cH) (by unfold maxLen;omega) rfl (fun h=>by cases h) a1N cm (fun r hr c hc=>?_) (fun i j r c hi hj=>⟨.inr (.inr ⟨rfl,by rw [K9];exact hq i j r c hi hj⟩),?_⟩) (fun i j r c hi hj=>?_) (fun k' aH=>⟨s,?_,rfl,rfl,fun _=>rfl⟩)
  ·rcases Y1.1 hr with h | h
   ·obtain ⟨i,hi⟩:=L7.1 h;obtain ⟨j,hj⟩:=L7.1 hc;exact (fG i j r c hi hj).2
   ·obtain ⟨i,hi⟩:=L7.1 h;obtain ⟨j,hj⟩:=L7.1 hc;exact (bN i j r c hi hj).2
  ·rw [K9,World.cell?_alloc_new];have:=(aq i j r c hi hj).1;rw [a1r this,a0k,a1r this];rfl
  ·exact (aq i j r c hi hj).2.mono (aK.trans gv)
  ·injection aH with aH
   subst aH;exact di
theorem a7t {tok:Option Nat} {ti:TypeInfo} (ho:o.op = .call { callee:=.builtin .append,args:=#[x,y],argTypes:=#[t,t2]}) (hx:E.valid x) (hy:E.valid y) (ex:E.val C x = .list V nn tok)
 (aR:∀ M w v,Rel C M σ w->RV M w (E.val C y) v->b8x C w M new s v) (hu:∀ w,(underlying t).run C.P w = .ok (.slice e) w) (hs:∀ w,(sizeOf e).run C.P w = .ok s w) (df:∀ w,(typeInfo e).run C.P w = .ok ti w) (hz:∀ w,(zeroValue e).run C.P w = .ok z w) (cc:z.cells.size=s)
 (dq:(∀ w,(underlying t2).run C.P w = .ok (.slice e) w)\/∀ w,(underlying t2).run C.P w = .ok .string w) (ht0:t0=none\/t0=some e) (hts:t0.isSome=true->s=1) (bT:b9J t0 σ V nn tok) (bb:∀ r∈V,r.length=s) (dr:new≠[]) (hb:(V.length+new.length)*ti.bytes<=140737488355328) (bn:V.length+new.length<=9223372036854775807)
 (hk:K (.ret (.list (V++new) true (some σ.length))) (kill σ tok++[.tipT t0 (V.length+new.length)])):H4 C σ E o K :=
 a9T ho hx hy ex aR hu hs df hz cc dq ht0 hts (.inl bT) bb dr hb bn hk
theorem b6c {tok:Option Nat} {ti:TypeInfo} (ho:o.op = .call { callee:=.builtin .append,args:=#[x,y],argTypes:=#[t,t]}) (hx:E.valid x) (hy:E.valid y) (ex:E.val C x = .list V nn tok)
 (aR:∀ M w v,Rel C M σ w->RV M w (E.val C y) v->Src C M w new s v) (hu:∀ w,(underlying t).run C.P w = .ok (.slice e) w) (hs:∀ w,(sizeOf e).run C.P w = .ok s w) (df:∀ w,(typeInfo e).run C.P w = .ok ti w) (hz:∀ w,(zeroValue e).run C.P w = .ok z w) (cc:z.cells.size=s)
 (bT:d4c σ V nn tok) (bb:∀ r∈V,r.length=s) (dr:new≠[]) (hb:(V.length+new.length)*ti.bytes<=140737488355328) (bn:V.length+new.length<=9223372036854775807)
 (hk:K (.ret (.list (V++new) true (some σ.length))) (kill σ tok++[.tip (V.length+new.length)])):H4 C σ E o K :=
 a7t ho hx hy ex (fun M w v hr h=>(aR M w v hr h).any) hu hs df hz cc (.inl hu) (.inl rfl) (fun h=>by cases h) bT bb dr hb bn hk
end
section
def d0d (z:Value):List CV:=(I2 z).cells
theorem d5J (bY:M5 z=true) (dB:(I2 z).one=true\/∃ cs,I2 z = .agg cs) (cc:z.cells.size=s) (az:∀ q,q < n*s->ak.getD q undef=z.cells.getD (q%s) undef) (i j:Nat) (r:List CV) (c:CV) (hi:(List.replicate n (d0d z))[i]? = some r) (hj:r[j]? = some c) :
 RV M w c (ak.getD (i*s+j) undef)/\c.one=true:=by
 have eE:RV M w (I2 z) z:=a0c bY;obtain ⟨g1,g2,g3⟩:=eE.cells dB;rw [c6u] at hi;split at hi
 ·rename_i bw;injection hi with hi
  subst hi;have bU:=(n_3.1 hj).1;have hjs:j < s:=by rw [<- cc,g1];exact bU
  have hq:i*s+j < n*s:=by
   have:(i+1)*s<=n*s:=R6 _ bw;rw [R3] at this;omega
  rw [az _ hq,(b73 hjs).2];exact ⟨g3 j c hj,g2 c (n_2 hj)⟩
 ·cases hi
theorem c33 (bY:M5 z=true) (dB:(I2 z).one=true\/∃ cs,I2 z = .agg cs) (cc:z.cells.size=s):(d0d z).length=s:=by
 have eE:RV ⟨[],fun _=>False,fun _ _=>False,fun _=>False⟩ default (I2 z) z:=a0c bY;have:=(eE.cells dB).1;rw [cc] at this;exact this.symm
theorem c3p {z:Array Value} {q:Nat} (hs:z.size=s) (hq:q < n*s):((Array.range (n*s)).map (z[·%z.size]!)).getD q undef=z.getD (q%s) undef:=by
 have h0:0 < s:=by
  rcases b1h s with h | h
  ·subst h;simp at hq
  ·exact h
 have hms:q%s < s:=a5j _ h0;simp [hq,hs,hms]
theorem b87 {c:Nat} {kx ky:IntKind} {b:Int} {ti:TypeInfo} (ho:o.op = .makeSlice t x y) (hx:E.valid x) (hy:E.valid y) (ex:E.val C x = .val (.int kx a)) (ey:E.val C y = .val (.int ky b)) (ha:a=n) (hb:b=c)
 (hu:∀ w,(underlying t).run C.P w = .ok (.slice e) w) (hs:∀ w,(sizeOf e).run C.P w = .ok s w) (df:∀ w,(typeInfo e).run C.P w = .ok ti w) (hz:∀ w,(zeroValue e).run C.P w = .ok z w) (bY:M5 z=true) (dB:(I2 z).one=true\/∃ cs,I2 z = .agg cs) (cc:z.cells.size=s)
 (hnc:n<=c) (bn:c<=9223372036854775807) (hby:ti.bytes*c<=281474976710656) (hk:K (.ret (.vec σ.length 0 n)) (σ++[.vec s (List.replicate n (d0d z))])):H4 C σ E o K:=fun M w ρ hr hh=>by
 subst ha hb;have h1:=hh x w9 hx;have h2:=hh y w9 hy;rw [ex] at h1;rw [ey] at h2;have e1:IntKind.i64.wrap (n:Int)=n:=a83 om_ om_;have e2:IntKind.i64.wrap (c:Int)=c:=a83 om_ om_;have e3:((ti.bytes:Int)*(c:Int) > 2^48)=False:=by
  have h:((ti.bytes*c:Nat):Int)<=281474976710656:=by omega
  rw [Int.natCast_mul] at h;simp;omega
 have aO:(if c*s=0 then (#[]:Array Value) else z.cells)=(if c*s=0 then #[] else z.cells):=rfl;have hnlt:¬ ((c:Int) < n):=by omega
 have aw:(execOp ρ o).run C.P w = .ok (.value (.slice (some ⟨w.heap.size,0,none⟩) n c)) (w.alloc (.cells ((Array.range (c*s)).map (z.cells[·%z.cells.size]!)) e)):=by
  have e4:¬ (2^48 < (ti.bytes:Int)*(c:Int)):=sp_ e3;by_cases h0:c*s=0
  ·have er:Array.range 0 = #[]:=rfl;simp [execOp,ho,Instr.makeSlice,hu,r6 h1,r6 h2,asInt,asIntOf,df,e1,e2,hs,h0,newRow,er,hnlt] at e4 ⊢;intro h;exfalso
   rcases h with (h | h) | h<;>omega
  ·simp [execOp,ho,Instr.makeSlice,hu,r6 h1,r6 h2,asInt,asIntOf,df,e1,e2,hs,h0,hz,newRow,hnlt] at e4 ⊢;intro h;exfalso
   rcases h with (h | h) | h<;>omega
 rw [aw];have hx:=Ext.alloc hr ⟨w.heap.size,c,s⟩ (.cells ((Array.range (c*s)).map (z.cells[·%z.cells.size]!)) e);have gu:=c33 bY dB cc;refine ⟨.vec σ.length 0 n,_,_,hx,hr.alloc ⟨w.heap.size,c,s⟩ _ (.vec s (List.replicate n (d0d z))) rfl ⟨rfl,sp_ hnc,by unfold maxLen;simp only;omega,fun r hr=>by rw [(List.mem_replicate.1 hr).2,gu],fun r hr c hc=>?_,_,e,A4 _ _,si_,fun i j r c' hi hj=>?_⟩,?_,hk⟩
 ·rw [(List.mem_replicate.1 hr).2] at hc;have eE:RV M w (I2 z) z:=a0c bY;exact (eE.cells dB).2.1 c hc
 ·exact (d5J (n:=n) bY dB cc (fun q hq=>c3p cc (a97 hq (R6 _ hnc))) i j r c' hi hj).1
 ·have:=RV.vec (M:=M.add ⟨w.heap.size,c,s⟩) (w:=w.alloc (.cells ((Array.range (c*s)).map (z.cells[·%z.cells.size]!)) e)) (k:=σ.length) (off:=0) (len:=n) (p:=⟨w.heap.size,c,s⟩) (a:=⟨w.heap.size,0,none⟩) b0W (sp_ hnc) (by unfold maxLen;simp only;omega) (fun _=>by simp);exact this
theorem b4q {len:Nat} (ho:o.op = .call { callee:=.builtin .append,args:=#[x,y],argTypes:=#[t,t]}) (hx:E.valid x) (hy:E.valid y) (ex:E.val C x = .vec k off len)
 (aR:∀ M w v,Rel C M σ w->RV M w (E.val C y) v->Src C M w new s v) (hu:∀ w,(underlying t).run C.P w = .ok (.slice e) w) (hs:∀ w,(sizeOf e).run C.P w = .ok s w) (aH:σ[k]? = some (.vec s V)) (hl:off+len+new.length<=V.length)
 (hk:K (.ret (.vec k off (len+new.length))) (σ.set k (.vec s (V2 V (off+len) new)))):H4 C σ E o K:=fun M w ρ hr hh=>by
 have h1:=hh x H9 hx;have h2:=hh y H9 hy;rw [ex] at h1;have eR:=aR M w _ hr h2;have aj:=eR.lenOf;generalize hv:ρ x=v at h1;cases h1 with
 | vec hp g1 g2 g3 =>
  rename_i p a;obtain ⟨an,cn,hvn,_,cw,ak,cy,bg,bN⟩:=eR;have hG:=(hr.obj k p _ hp aH).1;have bk:V.length<=p.cap:=hG.2.1;have co:p.size=s:=hG.1;obtain ⟨w',aW,aB,bp⟩:=b0s hr hp aH (p:=off+len) (new:=new) om_ om_ cw bg bN;have ce:len+new.length<=p.cap - off:=by omega
  have aw:(execOp ρ o).run C.P w = .ok (.value (.slice (some a) (len+new.length) (p.cap - off))) w':=by
   rcases b1h new.length with h0 | h0
   ·have fX:ak.toList=[]:=b2p (by simp [bg,h0]);have az:ak = #[]:=sp_ fX;rw [fX] at aW;have:w'=w:=by
     have h2:(storeCells ⟨p.block,(off+len)*s,none⟩ []).run C.P w = .ok () w:=by simp [storeCells]
     rw [h2] at aW;injection aW with _ h3
     exact h3.symm
    subst this;have hfit':len<=p.cap - off:=by omega
    rw [h0] at cy aj;simp [execOp,ho,resolve,invoke,builtin,Builtin.append_,hu,hs,hv,aj,h0,hfit',cy,az,storeCells]
   ·have ha:=g3 om_;have:=X4 (P:=C.P) (ty:=o.type) (b:=p.block) (off:=off*p.size) (n:=len) (m:=new.length) (c:=p.cap - off) hu (.inl hu) hs aj cy ce (by rw [co,<- R3];exact aW);rw [<- ha] at this;simp [execOp,ho,resolve,invoke,builtin,hv,this]
  rw [aw];refine ⟨_,_,M,aB,bp,?_,hk⟩;exact .vec hp om_ g2 g3
theorem b8r {ti:TypeInfo} (ho:o.op = .call { callee:=.builtin .append,args:=#[x,y],argTypes:=#[t,t]}) (hx:E.valid x) (hy:E.valid y) (ex:E.val C x = .vec k 0 V.length)
 (aR:∀ M w v,Rel C M σ w->RV M w (E.val C y) v->Src C M w new s v) (hu:∀ w,(underlying t).run C.P w = .ok (.slice e) w) (hs:∀ w,(sizeOf e).run C.P w = .ok s w) (df:∀ w,(typeInfo e).run C.P w = .ok ti w) (hz:∀ w,(zeroValue e).run C.P w = .ok z w) (cc:z.cells.size=s)
 (aH:σ[k]? = some (.vec s V)) (dr:new≠[]) (hb:(V.length+new.length)*ti.bytes<=140737488355328) (bn:V.length+new.length<=9223372036854775807)
 (hk:K (.ret (.vec σ.length 0 (V.length+new.length))) (σ.set k .dead++[.vec s (V++new)])):H4 C σ E o K:=fun M w ρ hr hh=>by
 have h1:=hh x H9 hx;have h2:=hh y H9 hy;rw [ex] at h1;have gH:0 < new.length:=b1w.2 dr;have hsx:=b0w hr h1 aH (Nat.le_of_eq (K9 _));rw [a9s,a60] at hsx;have aj:=(aR M w _ hr h2).lenOf;have bz:(execOp ρ o).run C.P w=((Builtin.append_ #[t,t] o.type #[ρ x,ρ y]).run C.P w).andThen fun v w=>.ok (.value v) w:=by
  simp [execOp,ho,resolve,invoke,builtin]
 generalize hv:ρ x=v at h1 hsx;cases h1 with
 | vec hp g1 g2 g3 =>
  rename_i p a;have hG:=(hr.obj k p _ hp aH).1;have bk:V.length<=p.cap:=hG.2.1;have co:p.size=s:=hG.1;subst co;by_cases ce:V.length+new.length<=p.cap
  ·obtain ⟨an,cn,hvn,_,cw,ak,cy,bg,bN⟩:=aR M w _ hr h2;obtain ⟨w',aW,aB,bp⟩:=b0s hr hp aH (p:=V.length) (new:=new) (n_6 _) ce cw bg bN;have ha:=g3 om_;rw [Nat.zero_mul] at ha;have bT:=X4 (P:=C.P) (ty:=o.type) (b:=p.block) (off:=0) (n:=V.length) (m:=new.length) (c:=p.cap - 0) hu (.inl hu) hs aj cy om_ (by rw [K9];exact aW);rw [bz,hv,ha,bT];simp only [Result.andThen_ok];have af:V2 V V.length new=V++new:=by simp [V2]
   rw [af] at bp;have bx:k < σ.length:=(n_3.1 aH).1;have bZ:(σ.set k (.vec p.size (V++new)))[k]? = some (.vec p.size (V++new)):=by rw [b1i bx]
   have aK:Ext M w' (M.add p) w':=⟨⟨[p],rfl⟩,fun _ h=>h,fun _ _ h=>.inr h,fun _ _=>rfl,fun _ _ _=>rfl,n_6 _,Q8,rfl,rfl,rfl,fun _ h=>⟨h,rfl,id,fun _=>id⟩⟩;have hd:=bp.dead k;rw [List.set_set] at hd;have hobj':=bp.obj k p _ hp bZ;have aq:∀ {j:Nat} {q:Pl},(M.add p).pl[j]? = some q->(j < σ.length/\M.pl[j]? = some q)\/(j=σ.length/\q=p):=by
    intro j q hj;simp only [A5.add,a5Y,hr.len] at hj;split at hj
    ·exact .inl ⟨‹_›,hj⟩
    ·have:j - σ.length=0:=by
      have:=(n_3.1 hj).1;simp at this;omega
     rw [this] at hj;simp at hj;exact .inr ⟨om_,hj.symm⟩
   have eP:∀ {j:Nat} {x:b9},(σ.set k b9.dead++[b9.vec p.size (V++new)])[j]? = some x->(j < σ.length/\(σ.set k b9.dead)[j]? = some x)\/(j=σ.length/\x = .vec p.size (V++new)):=by
    intro j x hj;rw [a5Y] at hj;split at hj
    ·exact .inl ⟨by rename_i h;simpa using h,hj⟩
    ·have:j - (σ.set k b9.dead).length=0:=by
      have:=(n_3.1 hj).1;simp at this ⊢;omega
     rw [this] at hj;simp at hj;rename_i h2;have aj:(σ.set k b9.dead).length=σ.length:=by simp
     exact .inr ⟨om_,hj.symm⟩
   have dF:∀ {j:Nat} {q:Pl} {x:b9},M.pl[j]? = some q->(σ.set k b9.dead)[j]? = some x->x.live=true->q.block≠p.block:=by
    intro j q x hj dg hl e;have hjk:j≠k:=by
     rintro rfl;rw [b1i bx] at dg;injection dg with dg
     subst dg;cases hl
    have eF:σ[j]? = some x:=by rwa [a2i (Ne.symm hjk)] at dg
    exact hjk (hr.inj j k q p x _ hj hp eF aH hl rfl e)
   refine ⟨.vec σ.length 0 (V.length+new.length),_,M.add p,aB.trans aK,⟨by simp [A5.add,hr.len],fun b o' ha=>bp.blk b o' ha,fun j q x hj dg=>?_,fun j j' q q' x x' hj fa dg eF hl bJ hb=>?_,fun g cells hg=>(bp.glob g cells hg).mono aK,bp.kep,fun j q x hj dg bS=>?_⟩,?_,hk⟩
   ·rcases eP dg with ⟨ae,h⟩ | ⟨rfl,rfl⟩
    ·rcases aq hj with ⟨_,hq⟩ | ⟨rfl,_⟩
     ·obtain ⟨h1,h2⟩:=hd.obj j q x hq h;refine ⟨?_,h2⟩;by_cases hl:x.live=true
      ·exact h1.mono aK rfl (fun _ _ _ _ h=>h)
      ·cases x<;>first | trivial | simp [b9.live] at hl
     ·omega
    ·rcases aq hj with ⟨h,_⟩ | ⟨_,rfl⟩
     ·omega
     ·exact ⟨hobj'.1.mono aK rfl (fun _ _ _ _ h=>h),hobj'.2⟩
   ·rcases eP dg with ⟨ae,h⟩ | ⟨rfl,rfl⟩
    ·rcases aq hj with ⟨_,hq⟩ | ⟨rfl,_⟩
     ·rcases eP eF with ⟨bl,h'⟩ | ⟨rfl,rfl⟩
      ·rcases aq fa with ⟨_,fY⟩ | ⟨rfl,_⟩
       ·exact hd.inj j j' q q' x x' hq fY h h' hl bJ hb
       ·omega
      ·rcases aq fa with ⟨h0,_⟩ | ⟨_,rfl⟩
       ·omega
       ·exact absurd hb (dF hq h hl)
     ·omega
    ·rcases aq hj with ⟨h0,_⟩ | ⟨_,rfl⟩
     ·omega
     ·rcases eP eF with ⟨bl,h'⟩ | ⟨rfl,rfl⟩
      ·rcases aq fa with ⟨_,fY⟩ | ⟨rfl,_⟩
       ·exact absurd hb.symm (dF fY h' bJ)
       ·omega
      ·rfl
   ·rcases eP dg with ⟨ae,h⟩ | ⟨rfl,rfl⟩
    ·rcases aq hj with ⟨_,hq⟩ | ⟨rfl,_⟩
     ·exact hd.nk j q x hq h bS
     ·omega
    ·rcases aq hj with ⟨h0,_⟩ | ⟨_,rfl⟩
     ·omega
     ·exact hr.nk k q _ hp aH rfl
   ·exact RV.vec (M:=M.add p) (w:=w') (k:=σ.length) (off:=0) (len:=V.length+new.length) (p:=p) (a:=⟨p.block,0,none⟩) b0W om_ g2 (fun _=>by simp)
  ·obtain ⟨eS,hxd⟩:=hr.drewN;have dD:RV M w.drew (.vec k 0 V.length) (.slice (some a) V.length (p.cap - 0)):=.vec hp g1 g2 g3;have fc:=b0w eS dD aH (Nat.le_of_eq (K9 _));rw [a9s,a60] at fc;obtain ⟨a1,c1,dC,_,bb,old,hfo,fe,fG⟩:=fc;obtain ⟨an,cn,hvn,_,cw,ak,cy,bg,bN⟩:=aR M w.drew _ eS (a7d h2);obtain ⟨c',cH,db,aw⟩:=a0t (P:=C.P) (ty:=o.type) (a:=some a) (c:=p.cap - 0) (w:=w) hu (.inl hu) hs df hz aj hfo cy om_ bn hb;rw [bz,hv,aw];simp only [Result.andThen_ok];have gY:w.drew.heap.size=w.heap.size:=rfl;rw [<- gY];have hrk:=eS.dead k;have fH:(old++ak++Builtin.zeroCells z.cells (c' - (V.length+new.length))).size=c'*p.size:=by
    simp only [c0E,a1Q,fe,bg,cc];rw [<- R3,<- R3]
    congr 1;omega
   have aK:=Ext.alloc hrk ⟨w.drew.heap.size,c',p.size⟩ (.cells (old++ak++Builtin.zeroCells z.cells (c' - (V.length+new.length))) e);have cm:∀ r∈V++new,r.length=p.size:=fun r hr=>by
    rcases Y1.1 hr with h | h
    ·exact bb r h
    ·exact cw r h
   have aq:=a4N (rest:=Builtin.zeroCells z.cells (c' - (V.length+new.length))) fe bg bb cw (fun i j r c hi hj=>(fG i j r c hi hj).1) (fun i j r c hi hj=>(bN i j r c hi hj).1);have bm:=hrk.alloc ⟨w.drew.heap.size,c',p.size⟩ (.cells (old++ak++Builtin.zeroCells z.cells (c' - (V.length+new.length))) e) (.vec p.size (V++new)) rfl
    ⟨rfl,sp_ cH,by unfold maxLen;simp only;omega,cm,fun r hr c hc=>(by
     rcases Y1.1 hr with h | h
     ·obtain ⟨i,hi⟩:=L7.1 h;obtain ⟨j,hj⟩:=L7.1 hc;exact (fG i j r c hi hj).2
     ·obtain ⟨i,hi⟩:=L7.1 h;obtain ⟨j,hj⟩:=L7.1 hc;exact (bN i j r c hi hj).2),_,e,A4 _ _,fH,fun i j r c hi hj=>((aq i j r c hi hj).2.mono aK)⟩
   refine ⟨.vec σ.length 0 (V.length+new.length),_,_,hxd.trans aK,bm,?_,hk⟩;exact RV.vec (M:=M.add ⟨w.drew.heap.size,c',p.size⟩) (k:=σ.length) (off:=0) (len:=V.length+new.length) (p:=⟨w.drew.heap.size,c',p.size⟩) (a:=⟨w.drew.heap.size,0,none⟩) b0W (sp_ cH) (by unfold maxLen;simp only;omega) (fun _=>by simp)
end
def A8.jump (l:Nat) (J:Env->List b9->Prop) (Q:A8->Env->List b9->Prop):A8->Env->List b9->Prop
 | .goto l',E,σ=>l'=l/\J E σ
 | e,E,σ=>Q e E σ
theorem c8u {Q:A8->Env->List b9->Prop} {c rest:Code} (l:Nat) (J:Nat->Env->List b9->Prop) (hf:findLabel c l=some rest)
 (first:CWp C n c (A8.jump l (fun E σ=>∃ m,J m E σ) Q) E σ) (pass:∀ m E σ,J m E σ->CWp C n rest (A8.jump l (fun E' Y=>∃ m',m' < m/\J m' E' Y) Q) E σ):CWp C n (.scope c) Q E σ:=fun M w a hr hfr=>by
 intro b k cs;have hg:gotoIn l (.inScope c::k)=some (.code rest::.inScope c::k):=by simp [gotoIn,hf]
 have key:∀ m E σ M1 w1 a1,J m E σ->Ext M w M1 w1->Rel C M1 σ w1->I8 M1 w1 n E a1 ->
  ∃ e a' w',Q4 C n Q M w e a' w'/\Arrives C.P (lone (b.at a1 (.code rest::.inScope c::k)) cs w1) b k cs e a' w':=by
  intro m
  induction m using Nat.strongRecOn with
  | _ m ih =>
   intro E σ M1 w1 a1 hJ hx aI dA;obtain ⟨e,a2,w2,hq,az⟩:=pass m E σ hJ M1 w1 a1 aI dA b (.inScope c::k) cs;obtain ⟨E',Y,M',h1,h2,h3,h4⟩:=hq;cases e with
   | normal=>exact ⟨.normal,a2,w2,⟨E',Y,M',hx.trans h1,h2,h3,h4⟩,Steps.trans az (.one step_inScope)⟩
   | exit id=>exact ⟨.exit id,a2,w2,⟨E',Y,M',hx.trans h1,h2,h3,h4⟩,fun k' hk=>az k' (by simp [exitTo,hk])⟩
   | goto l' =>
    obtain ⟨rfl,m',ae,hJ'⟩:=h4;obtain ⟨eA,eB,eC,cA,bi⟩:=ih m' ae E' Y M' w2 a2 hJ' (hx.trans h1) h2 h3;exact ⟨eA,eB,eC,cA,.of_steps (az _ hg) bi⟩
   | ret=>exact ⟨.ret,a2,w2,⟨E',Y,M',hx.trans h1,h2,h3,h4⟩,az⟩
   | panic ch=>exact ⟨.panic ch,a2,w2,⟨E',Y,M',hx.trans h1,h2,h3,h4⟩,az⟩
   | outgrown=>exact h4.elim
 obtain ⟨e,a1,w1,hq,az⟩:=first M w a hr hfr b (.inScope c::k) cs
 obtain ⟨E',Y,M',h1,h2,h3,h4⟩:=hq;cases e with
 | normal=>exact ⟨.normal,a1,w1,⟨E',Y,M',h1,h2,h3,h4⟩,.head step_scope (Steps.trans az (.one step_inScope))⟩
 | exit id=>exact ⟨.exit id,a1,w1,⟨E',Y,M',h1,h2,h3,h4⟩,fun k' hk=>.head step_scope (az k' (by simp [exitTo,hk]))⟩
 | goto l' =>
  obtain ⟨rfl,m,hJ⟩:=h4;obtain ⟨eA,eB,eC,cA,bi⟩:=key m E' Y M' w1 a1 hJ h1 h2 h3;exact ⟨eA,eB,eC,cA,.of_steps (.head step_scope (az _ hg)) bi⟩
 | ret=>exact ⟨.ret,a1,w1,⟨E',Y,M',h1,h2,h3,h4⟩,.of_steps (.one step_scope) az⟩
 | panic ch=>exact ⟨.panic ch,a1,w1,⟨E',Y,M',h1,h2,h3,h4⟩,.of_steps (.one step_scope) az⟩
 | outgrown=>exact h4.elim
inductive Old (n:Nat):CV->Prop where
 | val (v:Value):Old n (.val v)
 | agg {cs:List CV}:(∀ (i:Nat) (c:CV),cs[i]? = some c->Old n c)->Old n (.agg cs)
 | tup {cs:List CV}:(∀ (i:Nat) (c:CV),cs[i]? = some c->Old n c)->Old n (.tup cs)
 | clo {f:FuncId} {cs:List CV}:(∀ (i:Nat) (c:CV),cs[i]? = some c->Old n c)->Old n (.clo f cs)
 | list {V:List (List CV)} {nn:Bool} {tok:Option Nat}:(∀ (i j:Nat) (r:List CV) (c:CV),V[i]? = some r->r[j]? = some c->Old n c)->(∀ k,tok=some k->k < n)->Old n (.list V nn tok)
 | ptr {k off:Nat}:k < n->Old n (.ptr k off)
 | cptr {cells:List CV}:(∀ (j:Nat) (c:CV),cells[j]? = some c->Old n c)->Old n (.cptr cells)
 | eptr {k i off:Nat}:k < n->Old n (.eptr k i off)
 | vec {k off len:Nat}:k < n->Old n (.vec k off len)
 | map {k:Nat}:k < n->Old n (.map k)
 | yld {k:Nat}:k < n->Old n (.yld k)
theorem RV.old (h:RV M w c v):Old M.pl.length c:=by
 induction h with
 | val v=>exact .val v
 | agg _ _ _ ih=>exact .agg ih
 | tup _ _ ih=>exact .tup ih
 | clo _ _ ih=>exact .clo ih
 | list vals _ _ _ _ _ _ _ _ _ cl ih =>
  exact .list ih fun k hk=>(by
   obtain ⟨s',hp,_⟩:=cl k hk;exact (n_3.1 hp).1)
 | ptr hk=>exact .ptr (n_3.1 hk).1
 | cptr _ _ _ _ ih=>exact .cptr ih
 | eptr hk=>exact .eptr (n_3.1 hk).1
 | vec hk=>exact .vec (n_3.1 hk).1
 | map hk=>exact .map (n_3.1 hk).1
 | yld hk=>exact .yld (n_3.1 hk).1
structure Cut (n:Nat) (M M':A5):Prop where
 pl:M'.pl=M.pl.take n
 full:∀ b,M.full b->M'.full b
 cell:∀ b o,M.cell b o->M'.at b o
theorem Cut.at (h:Cut n M M') {o:Nat} (ha:M.at b o):M'.at b o:=by
 rcases ha with ha | ha
 ·exact .inl (h.full _ ha)
 ·exact h.cell _ _ ha
theorem Cut.get (h:Cut n M M') (hk:k < n) (hp:M.pl[k]? = some p):M'.pl[k]? = some p:=by
 rw [h.pl,a2I,n_1 hk];exact hp
theorem RV.cut (hc:Cut n M M') (h:RV M w c v) (ho:Old n c):RV M' w c v:=by
 induction h with
 | val v=>exact .val v
 | agg h1 h2 _ ih=>cases ho with | agg ho=>exact .agg h1 h2 fun i c hi=>ih i c hi (ho i c hi)
 | tup h1 _ ih=>cases ho with | tup ho=>exact .tup h1 fun i c hi=>ih i c hi (ho i c hi)
 | clo h1 _ ih=>cases ho with | clo ho=>exact .clo h1 fun i c hi=>ih i c hi (ho i c hi)
 | list vals h1 h2 h3 h4 h5 h6 h7 h8 _ aU ih =>
  cases ho with
  | list ho ht =>
   exact .list vals h1 h2 h3 h4 h5 h6 h7 (fun i j r c hi hj=>⟨hc.at (h8 i j r c hi hj).1,(h8 i j r c hi hj).2⟩) (fun i j r c hi hj=>ih i j r c hi hj (ho i j r c hi hj)) fun k hk=>by
    obtain ⟨s',hp,aL⟩:=aU k hk;exact ⟨s',hc.get (ht k hk) hp,aL⟩
 | ptr hk=>cases ho with | ptr ho=>exact .ptr (hc.get ho hk)
 | cptr vals h1 h2 _ ih=>cases ho with | cptr ho=>exact .cptr vals h1 (fun j c hj=>⟨hc.at (h2 j c hj).1,(h2 j c hj).2⟩) fun j c hj=>ih j c hj (ho j c hj)
 | eptr hk=>cases ho with | eptr ho=>exact .eptr (hc.get ho hk)
 | vec hk h1 h2 h3=>cases ho with | vec ho=>exact .vec (hc.get ho hk) h1 h2 h3
 | map hk=>cases ho with | map ho=>exact .map (hc.get ho hk)
 | yld hk=>cases ho with | yld ho=>exact .yld (hc.get ho hk)
inductive Cls (n:Nat) (σ:List b9):CV->CV->Prop where
 | old {c:CV}:Old n c->Cls n σ c c
 | agg {cs aX:List CV}:cs.length=aX.length->(∀ (i:Nat) (c c':CV),cs[i]? = some c->aX[i]? = some c'->Cls n σ c c')->Cls n σ (.agg cs) (.agg aX)
 | tup {cs aX:List CV}:cs.length=aX.length->(∀ (i:Nat) (c c':CV),cs[i]? = some c->aX[i]? = some c'->Cls n σ c c')->Cls n σ (.tup cs) (.tup aX)
 | clo {f:FuncId} {cs aX:List CV}:cs.length=aX.length->(∀ (i:Nat) (c c':CV),cs[i]? = some c->aX[i]? = some c'->Cls n σ c c')->Cls n σ (.clo f cs) (.clo f aX)
 | list {V av:List (List CV)} {nn:Bool} {tok:Option Nat}:V.length=av.length->(∀ (i:Nat) (r r':List CV),V[i]? = some r->av[i]? = some r'->r.length=r'.length) ->
  (∀ (i j:Nat) (r r':List CV) (c c':CV),V[i]? = some r->av[i]? = some r'->r[j]? = some c->r'[j]? = some c'->Cls n σ c c')->Cls n σ (.list V nn tok) (.list av nn none)
 | vec {k off len s:Nat} {V av:List (List CV)}:n<=k->σ[k]? = some (.vec s V)->off+len<=V.length->((V.drop off).take len).length=av.length->(∀ (i:Nat) (r r':List CV),((V.drop off).take len)[i]? = some r->av[i]? = some r'->r.length=r'.length) ->
  (∀ (i j:Nat) (r r':List CV) (c c':CV),((V.drop off).take len)[i]? = some r->av[i]? = some r'->r[j]? = some c->r'[j]? = some c'->Cls n σ c c')->Cls n σ (.vec k off len) (.list av true none)
theorem Cls.one (h:Cls n σ c c') (ho:c.one=true):c'.one=true:=by
 cases h<;>first|exact ho|rfl|(simp [CV.one] at ho)
theorem p9 {β:Type} {l:List α} {l':List β} (h:l.length=l'.length) {x:β} (hx:l'[i]? = some x):∃ y,l[i]? = some y:=by
 have:=(n_3.1 hx).1;exact ⟨l[i],by simp [h,this]⟩
theorem RV.close (hr:Rel C M σ w) (hc:Cut n M M') (hZ:∀ (k:Nat) (p:Pl) (s:Nat) (V:List (List CV)),n<=k->M.pl[k]? = some p->σ[k]? = some (.vec s V)->M'.full p.block) (h:Cls n σ c c') (hv:RV M w c v):RV M' w c' v:=by
 induction h generalizing v with
 | old ho=>exact hv.cut hc ho
 | agg hl fI ih =>
  cases hv with
  | agg h1 h2 h3 =>
   refine .agg om_ (fun c hcm=>?_) (fun i c' hi=>?_)
   ·obtain ⟨i,hi⟩:=L7.1 hcm;obtain ⟨y,hy⟩:=p9 hl hi;exact (fI i y c hy hi).one (h2 y (n_2 hy))
   ·obtain ⟨y,hy⟩:=p9 hl hi;exact ih i y c' hy hi (h3 i y hy)
 | tup hl _ ih =>
  cases hv with
  | tup h1 h3 =>
   refine .tup om_ (fun i c' hi=>?_);obtain ⟨y,hy⟩:=p9 hl hi;exact ih i y c' hy hi (h3 i y hy)
 | clo hl _ ih =>
  cases hv with
  | clo h1 h3 =>
   refine .clo om_ (fun i c' hi=>?_);obtain ⟨y,hy⟩:=p9 hl hi;exact ih i y c' hy hi (h3 i y hy)
 | list hl ga fI ih =>
  obtain ⟨a,cap,b,off,s,vals,rfl,h1,h2,h3,h4,h5,h6,h7,h8,h9,_⟩:=hv.list_inv;rename_i V av nn tok;refine RV.list' hl (b:=b) (off:=off) (s:=s) vals om_ h2 h3 h4 (fun aC=>h5 fun e=>aC (b2p (by rw [<- hl,e];rfl))) (fun r' bp=>?_) (fun r' bp c' bC=>?_) (fun i j r' c' hi hj=>?_) (fun i j r' c' hi hj=>?_) (fun k hk=>by cases hk)
  ·obtain ⟨i,hi⟩:=L7.1 bp;obtain ⟨r,bF⟩:=p9 hl hi;rw [<- ga i r r' bF hi];exact h6 r (n_2 bF)
  ·obtain ⟨i,hi⟩:=L7.1 bp;obtain ⟨r,bF⟩:=p9 hl hi;obtain ⟨j,hj⟩:=L7.1 bC;obtain ⟨c,ee⟩:=p9 (ga i r r' bF hi) hj;exact (fI i j r r' c c' bF hi ee hj).one (h7 r (n_2 bF) c (n_2 ee))
  ·obtain ⟨r,bF⟩:=p9 hl hi;obtain ⟨c,ee⟩:=p9 (ga i r r' bF hi) hj;exact ⟨hc.at (h8 i j r c bF ee).1,(h8 i j r c bF ee).2⟩
  ·obtain ⟨r,bF⟩:=p9 hl hi;obtain ⟨c,ee⟩:=p9 (ga i r r' bF hi) hj;exact ih i j r r' c c' bF hi ee hj (h9 i j r c bF ee)
 | vec hk ao aJ hl ga fI ih =>
  cases hv with
  | vec hp g1 g2 g3 =>
   rename_i k off len s V av p a;have hfp:=hZ k p s V hk hp ao;obtain ⟨⟨co,q1,q2,q3,q4,ak,ty,q5,q6,q7⟩,_⟩:=hr.obj k p _ hp ao;have aj:((V.drop off).take len).length=len:=by simp;omega
   have aq:∀ i r,((V.drop off).take len)[i]? = some r->i < len/\V[off+i]? = some r:=fun i r hi=>by
    rw [a2I] at hi;split at hi
    ·rw [a5s] at hi;exact ⟨‹_›,hi⟩
    ·cases hi
   have fJ:av≠[]->off < p.cap:=fun aC=>by
    have:0 < av.length:=b1w.2 aC;omega
   refine RV.list' (L:=len) om_ (b:=p.block) (off:=off*p.size) (s:=p.size) (fun i j=>ak.getD ((off+i)*p.size+j) undef) om_ om_ rfl (fun h=>by cases h) (fun aC=>by rw [g3 (fJ aC)]) (fun r' bp=>?_) (fun r' bp c' bC=>?_) (fun i j r' c' hi hj=>?_) (fun i j r' c' hi hj=>?_) (fun k hk=>by cases hk)
   ·obtain ⟨i,hi⟩:=L7.1 bp;obtain ⟨r,bF⟩:=p9 hl hi;rw [<- ga i r r' bF hi];exact q3 r (n_2 (aq i r bF).2)
   ·obtain ⟨i,hi⟩:=L7.1 bp;obtain ⟨r,bF⟩:=p9 hl hi;obtain ⟨j,hj⟩:=L7.1 bC;obtain ⟨c,ee⟩:=p9 (ga i r r' bF hi) hj;exact (fI i j r r' c c' bF hi ee hj).one (q4 r (n_2 (aq i r bF).2) c (n_2 ee))
   ·obtain ⟨r,bF⟩:=p9 hl hi;obtain ⟨c,ee⟩:=p9 (ga i r r' bF hi) hj;obtain ⟨bh,hri⟩:=aq i r bF;have bU:j < p.size:=by have:=(n_3.1 ee).1;rwa [q3 r (n_2 hri)] at this
    have hq:(off+i)*p.size+j < ak.size:=by
     rw [q6];have:(off+i+1)*p.size<=p.cap*p.size:=R6 _ om_;rw [R3 (off+i)] at this;omega
    refine ⟨.inl hfp,?_⟩;rw [show off*p.size+i*p.size+j=(off+i)*p.size+j from by rw [R3 off]];simp [World.cell?,q5,hq]
   ·obtain ⟨r,bF⟩:=p9 hl hi;obtain ⟨c,ee⟩:=p9 (ga i r r' bF hi) hj;exact ih i j r r' c c' bF hi ee hj (q7 _ _ _ _ (aq i r bF).2 ee)
def A5.cutAt (M:A5) (n:Nat) (σ:List b9):A5 :=
 { pl:=M.pl.take n,full:=fun b=>M.full b\/∃ k p ob,n<=k/\M.pl[k]? = some p/\σ[k]? = some ob/\ob.live=true/\p.block=b,cell:=M.cell,keep:=M.keep}
theorem Rel.cut {ay:List b9} (h0:Rel C M0 σ w0) (hx:Ext M0 w0 M w) (hr:Rel C M (σ++ay) w) :
 Rel C (M.cutAt σ.length (σ++ay)) σ w/\Cut σ.length M (M.cutAt σ.length (σ++ay))/\Ext M0 w0 (M.cutAt σ.length (σ++ay)) w:=by
 have aM:Cut σ.length M (M.cutAt σ.length (σ++ay)):=⟨rfl,fun _ h=>.inl h,fun _ _ h=>.inr h⟩;obtain ⟨l,hl⟩:=hx.pl;have aT:(M.cutAt σ.length (σ++ay)).pl=M0.pl:=by
  show M.pl.take σ.length=M0.pl;rw [hl,<- h0.len,List.take_left]
 have aB:Ext M0 w0 (M.cutAt σ.length (σ++ay)) w:=⟨⟨[],by rw [aT];simp⟩,fun b h=>.inl (hx.full b h),fun b o h=>aM.at (hx.cell b o h),hx.same,hx.sameC,hx.size,hx.drew,hx.os,hx.tape,hx.output,fun b hb=>(by
  obtain ⟨k1,k2,k3,k4⟩:=hx.kept b hb;refine ⟨k1,k2,fun f=>?_,k4⟩
  rcases f with f | ⟨k,p,ob,_,hp,hs,bS,rfl⟩
  ·exact k3 f
  ·exact absurd k1 (hr.nk k p ob hp hs bS))⟩
 have aq:∀ {k:Nat} {p:Pl},(M.cutAt σ.length (σ++ay)).pl[k]? = some p->k < σ.length/\M.pl[k]? = some p/\M0.pl[k]? = some p:=by
  intro k p hk;have h1:M0.pl[k]? = some p:=by rw [<- aT];exact hk
  have ae:k < σ.length:=by rw [<- h0.len];exact (n_3.1 h1).1
  exact ⟨ae,hx.get h1,h1⟩
 have ao:∀ {k:Nat} {ob:b9},σ[k]? = some ob->(σ++ay)[k]? = some ob:=by
  intro k ob h;rw [V3 (n_3.1 h).1];exact h
 refine ⟨⟨by rw [aT,h0.len],fun b o ha=>?_,fun k p ob hk hs=>?_,fun k k' p p' ob aN hk aH hs aQ da cT hb=>hr.inj k k' p p' ob aN (aq hk).2.1 (aq aH).2.1 (ao hs) (ao aQ) da cT hb,fun g cells hg=>(h0.glob g cells hg).mono aB,hr.kep,fun k p ob hk hs bS=>hr.nk k p ob (aq hk).2.1 (ao hs) bS⟩,aM,aB⟩
 ·rcases ha with (ha | ⟨k,p,ob,_,hp,hs,hl,rfl⟩) | ha
  ·exact hr.blk b o (.inl ha)
  ·exact (hr.obj k p ob hp hs).1.lt hl
  ·exact hr.blk b o (.inr ha)
 ·obtain ⟨ae,hp,hp0⟩:=aq hk;obtain ⟨h1,h2⟩:=hr.obj k p ob hp (ao hs);have ff:=(h0.obj k p ob hp0 hs).1;have fK:ob.live=true->¬ M.full p.block->¬ (M.cutAt σ.length (σ++ay)).full p.block:=fun bS fK h=>by
   rcases h with h | ⟨k',p',aN,aH,aG,aQ,bJ,hb⟩
   ·exact fK h
   ·have:=hr.inj k' k p' p aN ob aG hp aQ (ao hs) bJ bS hb;omega
  have old:∀ {c:CV} {v v':Value},RV M0 w0 c v'->RV M w c v->RV (M.cutAt σ.length (σ++ay)) w c v:=fun h h'=>h'.cut aM (by rw [<- h0.len];exact h.old);refine ⟨?_,?_⟩
  ·cases ob with
   | dead=>trivial
   | boxT t0 cells =>
    obtain ⟨ak,ty,e1,e2,e3,e4⟩:=h1;obtain ⟨arr0,ty0,f1,f2,f3,f4⟩:=ff;exact ⟨ak,ty,e1,e2,e3,fun i c hi=>old (f4 i c hi) (e4 i c hi)⟩
   | tipT t0 m=>exact h1
   | blk o=>exact h1
   | lp o n cs =>
    obtain ⟨tm,e1,e2,e3⟩:=h1;obtain ⟨tm0,f1,f2,f3⟩:=ff;exact ⟨tm,e1,e2,fun x hi=>old (f3 x hi) (e3 x hi)⟩
   | vec s V =>
    obtain ⟨e0,e1,e2,e3,e4,ak,ty,e5,e6,e7⟩:=h1;obtain ⟨f0,f1,f2,f3,f4,arr0,ty0,f5,f6,f7⟩:=ff;exact ⟨e0,e1,e2,e3,e4,ak,ty,e5,e6,fun i j r c hi hj=>old (f7 i j r c hi hj) (e7 i j r c hi hj)⟩
   | map es =>
    obtain ⟨ab,ai,e1,e2,e3⟩:=h1;obtain ⟨ents0,clock0,f1,f2,f3⟩:=ff;refine ⟨ab,ai,e1,e2,fun i x hi=>?_⟩;obtain ⟨e,g1,g2,g3,g4⟩:=e3 i x hi;obtain ⟨e',g1',g2',g3',g4'⟩:=f3 i x hi;exact ⟨e,g1,old g2' g2,old g3' g3,g4⟩
   | iter aD left =>
    obtain ⟨mb,seen,bB,ab,ai,e1,e2,e3,e4,e5,e6,e7,e8,e9⟩:=h1;obtain ⟨mb0,seen0,last0,ents0,clock0,f1,f2,f3,f4,f5,f6,f7,f8,f9⟩:=ff;refine ⟨mb,seen,bB,ab,ai,e1,aM.full _ e2,e3,e4,e5,e6,e7,fun i x hi=>?_,fun i x hi=>?_⟩
    ·obtain ⟨e,g1,g2,g3⟩:=e8 i x hi;obtain ⟨e',g1',g2',g3'⟩:=f8 i x hi;exact ⟨e,g1,old g2' g2,old g3' g3⟩
    ·obtain ⟨hl,j,e,g0,g1,g2,g3⟩:=e9 i x hi;obtain ⟨_,j',e',_,_,g2',g3'⟩:=f9 i x hi;exact ⟨hl,j,e,g0,g1,old g2' g2,old g3' g3⟩
  ·cases ob with
   | dead=>trivial
   | tipT t0 m=>exact fK rfl h2
   | _=>exact ⟨fK rfl h2.1,h2.2⟩
theorem b3q {K:CV->Prop} (h:b8 C f args σ fun r Y=>∃ ay c c',Y=σ++ay/\r = .ret c/\Cls σ.length Y c c'/\K c'):b8 C f args σ fun r Y=>(∃ c,r = .ret c/\K c)/\Y=σ :=
 fun M w vs hr hn hx=>(h M w vs hr hn hx).mono fun e w' he=>by
  cases e with
  | returned v =>
   obtain ⟨c,Y,M',h1,h2,h3,ay,c0,c',rfl,h5,h6,h7⟩:=he;injection h5 with h5
   subst h5;obtain ⟨g1,g2,g3⟩:=hr.cut h1 h2;exact ⟨c',σ,_,g3,g1,RV.close h2 g2 (fun k p s V hk hp hs=>.inr ⟨k,p,_,hk,hp,hs,rfl,rfl⟩) h6 h3,⟨c',rfl,h7⟩,rfl⟩
  | panicked ch =>
   obtain ⟨c,v,Y,M',h0,h1,h2,h3,ay,c0,c',h4,h5,_⟩:=he;cases h5
  | outgrown=>exact he
theorem c7 {c0:CV} (h:b8 C f args σ fun r Y=>∃ ay c,Y=σ++ay/\r = .ret c/\Cls σ.length Y c c0):b8 C f args σ fun r Y=>r = .ret c0/\Y=σ :=
 (b3q (K:=fun c=>c=c0) (h.mono fun _ _ ⟨ay,c,h1,h2,h3⟩=>⟨ay,c,c0,h1,h2,h3,rfl⟩)).mono fun _ _ ⟨⟨_,h1,h2⟩,h3⟩=>⟨h2 ▸ h1,h3⟩
inductive u0:CV->Prop where
 | val (v:Value):u0 (.val v)
 | agg {cs:List CV}:(∀ c∈cs,u0 c)->u0 (.agg cs)
 | tup {cs:List CV}:(∀ c∈cs,u0 c)->u0 (.tup cs)
 | clo {f:FuncId} {cs:List CV}:(∀ c∈cs,u0 c)->u0 (.clo f cs)
 | list {V:List (List CV)} {nn:Bool}:(∀ r∈V,∀ c∈r,u0 c)->u0 (.list V nn none)
theorem u0.old (h:u0 c):Old n c:=by
 induction h with
 | val v=>exact .val v
 | agg _ ih=>exact .agg fun i c hi=>ih c (n_2 hi)
 | tup _ ih=>exact .tup fun i c hi=>ih c (n_2 hi)
 | clo _ ih=>exact .clo fun i c hi=>ih c (n_2 hi)
 | list _ ih=>exact .list (fun i j r c hi hj=>ih r (n_2 hi) c (n_2 hj)) (fun k hk=>by cases hk)
theorem Cls.pure (h:u0 c):Cls n σ c c:=.old h.old
theorem Cls.tok {n:Nat} {σ:List b9} {V:List (List CV)} {nn:Bool} {tok:Option Nat} (h:∀ r∈V,∀ c∈r,u0 c):Cls n σ (.list V nn tok) (.list V nn none) :=
 .list rfl (fun i r r' h1 h2=>by rw [h1] at h2;injection h2 with h2;rw [h2]) fun i j r r' c c' h1 h2 h3 h4=>by
  rw [h1] at h2;injection h2 with h2
  subst h2;rw [h3] at h4;injection h4 with h4
  subst h4;exact .pure (h r (n_2 h1) c (n_2 h3))
variable {tok:Option Nat}
theorem Cls.vecs {len:Nat} {av:List (List CV)} (hk:n<=k) (ao:σ[k]? = some (.vec s V)) (hl:off+len<=V.length) (he:(V.drop off).take len=av) (h:∀ r∈av,∀ c∈r,u0 c):Cls n σ (.vec k off len) (.list av true none):=by
 subst he;exact .vec hk ao hl rfl (fun i r r' h1 h2=>by rw [h1] at h2;injection h2 with h2;rw [h2]) fun i j r r' c c' h1 h2 h3 h4=>by
  rw [h1] at h2;injection h2 with h2
  subst h2;rw [h3] at h4;injection h4 with h4
  subst h4;exact .pure (h r (n_2 h1) c (n_2 h3))
def a54 (n:Nat) (σ:List b9):List CV->List CV->Prop
 | [],[]=>True
 | c::cs,c'::aX=>Cls n σ c c'/\a54 n σ cs aX
 | _,_=>False
theorem a54.get:∀ {cs aX:List CV},a54 n σ cs aX->cs.length=aX.length/\∀ (i:Nat) (c c':CV),cs[i]? = some c->aX[i]? = some c'->Cls n σ c c'
 | [],[],_=>⟨rfl,si_⟩
 | c::cs,c'::aX,⟨h1,h2⟩=>by
  obtain ⟨h3,h4⟩:=a54.get h2;refine ⟨by simp [h3],fun i x x' hx aB=>?_⟩
  rcases i with _ | i
  ·simp at hx aB;subst hx aB;exact h1
  ·exact h4 i x x' (sp_ hx) (sp_ aB)
theorem Cls.aggs {aX:List CV} (h:a54 n σ cs aX):Cls n σ (.agg cs) (.agg aX):=.agg h.get.1 h.get.2
theorem Cls.tups {aX:List CV} (h:a54 n σ cs aX):Cls n σ (.tup cs) (.tup aX):=.tup h.get.1 h.get.2
section
def plain (l:List Value):CV:=.agg (l.map .val)
theorem a2q {l:List Value} {u:Value} (h:RV M w (plain l) u):u = .agg l.toArray:=by
 cases h with
 | agg h1 h2 h3 =>
  rename_i vs
  congr 1
  apply b79;intro i
  rcases a3c i l.length with hi | hi
  ·have hl:(l.map CV.val)[i]? = some (.val l[i]):=by simp [hi]
   have:=r6 (h3 i _ hl);have hv:i < vs.size:=by rw [h1];simpa using hi
   simp only [a0k,a1r hv,a8H] at this;rw [a1r hv,this];simp [hi]
  ·have hv:vs.size<=i:=by rw [h1];simpa using hi
   rw [a9C hv];simp [hi]
theorem d7h {t':TypeId} {xs ys:List Value} {r:Bool} (ho:o.op = .binOp .eql t x y t') (hx:E.valid x) (hy:E.valid y) (ex:E.val C x=plain xs) (ey:E.val C y=plain ys)
 (hg:C.P.eqGuardType C.P.depth t=false) (he:∀ w,(Op.equal t (.agg xs.toArray) (.agg ys.toArray)).run C.P w = .ok r w):l9 C σ E o (.val (.bool r)) :=
 i7 fun M w ρ _ h=>by
  have h1:=h x w9 hx;have h2:=h y w9 hy;rw [ex] at h1;rw [ey] at h2;exact ⟨.bool r,by simp [execOp,ho,a2q h1,a2q h2,eqGuard,hg,binOp,he],.val _⟩
theorem d5S {t':TypeId} {xs ys:List Value} {r:Bool} (ho:o.op = .binOp .neq t x y t') (hx:E.valid x) (hy:E.valid y) (ex:E.val C x=plain xs) (ey:E.val C y=plain ys)
 (hg:C.P.eqGuardType C.P.depth t=false) (he:∀ w,(Op.equal t (.agg xs.toArray) (.agg ys.toArray)).run C.P w = .ok r w):l9 C σ E o (.val (.bool (!r))) :=
 i7 fun M w ρ _ h=>by
  have h1:=h x w9 hx;have h2:=h y w9 hy;rw [ex] at h1;rw [ey] at h2;exact ⟨.bool (!r),by simp [execOp,ho,a2q h1,a2q h2,eqGuard,hg,binOp,he],.val _⟩
theorem L4 {r:Nat} {ab:Array MapEntry} (h:w.heap[r]? = some (.map ab ai)):(getObj r).run P w = .ok (.map ab ai) w:=by
 simp [getObj,Sem.run,h]
theorem S4 (ho:o.op = .makeMap t none) (hk:K (.ret (.map σ.length)) (σ++[.map []])):H4 C σ E o K:=fun M w ρ hr _=>by
 have aw:(execOp ρ o).run C.P w = .ok (.value (.map (some w.heap.size))) (w.alloc (.map #[] 0)):=by
  simp [execOp,ho,Instr.makeMap]
 rw [aw];have hx:=Ext.alloc hr ⟨w.heap.size,0,0⟩ (.map #[] 0);exact ⟨.map σ.length,_,_,hx,hr.alloc ⟨w.heap.size,0,0⟩ _ (.map []) rfl ⟨#[],0,A4 _ _,⟨rfl,fun i j e e' h=>by simp at h⟩,si_⟩,RV.map (p:=⟨w.heap.size,0,0⟩) b0W,hk⟩
theorem Rel.setObj (hr:Rel C M σ w) {q:Nat} {es es':List (CV × CV)} {dH:Array MapEntry} {dI:Nat} (hp:M.pl[q]? = some p) (ao:σ[q]? = some (.map es)) (aF:dH.size=es'.length) (gb:b0H dH) (h:∀ (i:Nat) (x:CV × CV),es'[i]? = some x->∃ e,dH[i]? = some e/\RV M w x.1 e.key/\RV M w x.2 e.val/\e.born < dI) :
 Ext M w M (World.putObj w p.block (.map dH dI))/\Rel C M (σ.set q (.map es')) (World.putObj w p.block (.map dH dI)):=by
 obtain ⟨h1,hf,hc⟩:=hr.obj q p _ hp ao;have ae:=h1.lt rfl;have hx:=Ext.putObj (w:=w) (.map dH dI) (hr.nk q p _ hp ao rfl) hf hc;refine ⟨hx,hr.putObj hp ao rfl hf hc _ ⟨dH,dI,World.putObj_same w _ ae,⟨aF,gb⟩,fun i x hi=>?_⟩⟩;obtain ⟨e,g1,g2,g3,g4⟩:=h i x hi;exact ⟨e,g1,g2.mono hx,g3.mono hx,g4⟩
theorem b0H.push {ab:Array MapEntry} (h:b0H ab) (hb:∀ (i:Nat) (e:MapEntry),ab[i]? = some e->e.born < ai) {e0:MapEntry} (h0:e0.born=ai):b0H (ab.push e0):=fun i j e e' hi hj he=>by
 rw [b6l] at hi hj;split at hi<;>split at hj
 ·omega
 ·injection hi with hi
  have:=hb j e' hj;rw [<- hi,h0] at he;omega
 ·injection hj with hj
  have:=hb i e hi;rw [<- hj,h0] at he;omega
 ·exact h i j e e' hi hj he
theorem b0H.modify {ab:Array MapEntry} (h:b0H ab) {f:MapEntry->MapEntry} (hf:∀ e,(f e).born=e.born):b0H (ab.modify k f):=fun i j e e' hi hj he=>by
 have key:∀ {i:Nat} {e:MapEntry},(ab.modify k f)[i]? = some e->∃ e1,ab[i]? = some e1/\e1.born=e.born:=fun {i e} hi=>by
  rw [b2W] at hi;split at hi
  ·obtain ⟨e1,h1,rfl⟩:=N0.1 hi;exact ⟨e1,h1,(hf e1).symm⟩
  ·exact ⟨e,hi,rfl⟩
 obtain ⟨e1,h1,b1⟩:=key hi;obtain ⟨e2,h2,b2⟩:=key hj;exact h i j e1 e2 h1 h2 (by rw [b1,b2];exact he)
theorem a36 {r:Nat} {ab:Array MapEntry} (o':Obj) (h:w.heap[r]? = some (.map ab ai)):(setObj r o').run P w = .ok () (World.putObj w r o'):=by
 simp [setObj,Sem.run,h,World.putObj]
end
theorem RV.pure (h:∀ b o,M.at b o->M'.at b o/\w'.cell? ⟨b,o,none⟩=w.cell? ⟨b,o,none⟩) (hr:RV M w c v) (hp:u0 c):RV M' w' c v:=by
 induction hr with
 | val v=>exact .val v
 | agg h1 h2 _ ih=>cases hp with | agg hp=>exact .agg h1 h2 fun i c hi=>ih i c hi (hp c (n_2 hi))
 | tup h1 _ ih=>cases hp with | tup hp=>exact .tup h1 fun i c hi=>ih i c hi (hp c (n_2 hi))
 | clo h1 _ ih=>cases hp with | clo hp=>exact .clo h1 fun i c hi=>ih i c hi (hp c (n_2 hi))
 | list vals h1 h2 h3 h4 h5 h6 h7 h8 _ aU ih =>
  cases hp with
  | list hp=>exact .list vals h1 h2 h3 h4 h5 h6 h7 (fun i j r c hi hj=>⟨(h _ _ (h8 i j r c hi hj).1).1,(h _ _ (h8 i j r c hi hj).1).2.trans (h8 i j r c hi hj).2⟩) (fun i j r c hi hj=>ih i j r c hi hj (hp r (n_2 hi) c (n_2 hj))) fun k hk=>by cases hk
 | ptr _=>cases hp
 | cptr _ _ _ _ _=>cases hp
 | eptr _=>cases hp
 | vec _ _ _ _=>cases hp
 | map _=>cases hp
 | yld _=>cases hp
theorem b1f {K:CV->Prop} (ap:∀ a∈args,u0 a) (hc:∀ c,K c->u0 c) (fg:∀ g cells,C.glob g=some cells->∀ c∈cells,u0 c) (h:b8 C f args [] fun r Y=>(∃ c,r = .ret c/\K c)/\Y=[]) (σ:List b9):b8 C f args σ fun r Y=>(∃ c,r = .ret c/\K c)/\Y=σ :=
 fun M w vs hr hn hx=>by
  let LB:Nat->Prop:=fun b=>∃ (k:Nat) (p:Pl) (ob:b9),M.pl[k]? = some p/\σ[k]? = some ob/\ob.live=true/\p.block=b
  let M0:A5:={ pl:=[],full:=M.full,cell:=M.cell,keep:=fun b=>M.keep b\/LB b}
  have aV:∀ b o,M.at b o->M0.at b o/\w.cell? ⟨b,o,none⟩=w.cell? ⟨b,o,none⟩:=fun b o h=>⟨h,rfl⟩;have hLB:∀ b,LB b->b < w.heap.size:=fun b ⟨k,p,ob,hp,hs,hl,hb⟩=>hb ▸ (hr.obj k p ob hp hs).1.lt hl;have bF:Rel C M0 [] w:=⟨rfl,hr.blk,fun k p ob hp=>by simp [M0] at hp,fun k k' p p' ob aN hp=>by simp [M0] at hp,fun g cells hg=>⟨by
   have:=(hr.glob g cells hg).rv;cases this with
   | cptr vals h1 h2 h3=>exact .cptr vals h1 h2 fun j c hj=>(h3 j c hj).pure aV (fg g cells hg c (n_2 hj)),(hr.glob g cells hg).full,(hr.glob g cells hg).sz⟩,
   fun b hb=>(by
    rcases hb with hb | hb
    ·exact hr.kep b hb
    ·exact hLB b hb),fun k p ob hp=>by simp [M0] at hp⟩
  refine (h M0 w vs bF hn fun i a hi=>(hx i a hi).pure aV (ap a (n_2 hi))).mono fun e w' he=>?_;cases e with
  | panicked ch =>
   obtain ⟨c',v,Y,M',_,_,_,_,⟨⟨c0,h5,_⟩,_⟩⟩:=he;cases h5
  | outgrown=>exact he
  | returned v =>
   obtain ⟨c',Y,M',h1,h2,h3,⟨⟨c0,h4,hK⟩,rfl⟩⟩:=he;injection h4 with h4
   subst h4
   let M2:A5:={ pl:=M.pl,full:=M'.full,cell:=M'.cell,keep:=M.keep}
   have aK:Ext M w M2 w':=⟨⟨[],by simp [M2]⟩,h1.full,h1.cell,h1.same,h1.sameC,h1.size,h1.drew,h1.os,h1.tape,h1.output,fun b hb=>by
    obtain ⟨k1,k2,k3,k4⟩:=h1.kept b (.inl hb);exact ⟨hb,k2,k3,k4⟩⟩
   refine ⟨c',σ,M2,aK,⟨hr.len,h2.blk,fun k p ob hp hs=>?_,hr.inj,fun g cells hg=>(hr.glob g cells hg).mono aK,fun b hb=>a97 (hr.kep b hb) h1.size,hr.nk⟩,h3.pure (M:=M') (M':=M2) (w':=w') (fun b o h=>⟨h,rfl⟩) (hc _ hK),⟨c',rfl,hK⟩,rfl⟩;by_cases hl:ob.live=true
   ·obtain ⟨k1,k2,k3,k4⟩:=h1.kept p.block (.inr ⟨k,p,ob,hp,hs,hl,rfl⟩);obtain ⟨g1,g2⟩:=hr.obj k p ob hp hs;refine ⟨g1.mono aK k2 (fun _ _ _ o ho=>k4 o ho),?_⟩;cases ob with
    | dead=>trivial
    | tipT t0 n=>exact fun hf=>g2 (k3 hf)
    | _=>exact ⟨fun hf=>g2.1 (k3 hf),fun o ho=>g2.2 o (k4 o ho)⟩
   ·cases ob<;>first|exact ⟨tt,tt⟩ | simp [b9.live] at hl
theorem b3x (ap:∀ a∈args,u0 a) (hc:u0 c) (fg:∀ g cells,C.glob g=some cells->∀ c∈cells,u0 c) (h:b8 C f args [] fun r Y=>r = .ret c/\Y=[]) (σ:List b9):b8 C f args σ fun r Y=>r = .ret c/\Y=σ :=
 (b1f (K:=fun c'=>c'=c) ap (fun _ h=>h ▸ hc) fg (h.mono fun _ _ ⟨h1,h2⟩=>⟨⟨c,h1,rfl⟩,h2⟩) σ).mono fun _ _ ⟨⟨_,h1,h2⟩,h3⟩=>⟨h2 ▸ h1,h3⟩
section
def c5n:CV->Bool
 | .agg _=>true
 | c=>c.one
theorem a4W (h:c5n c=true):c.one=true\/∃ cs,c = .agg cs:=by
 cases c<;>first|exact .inl h|exact .inr ⟨_,rfl⟩|(simp [c5n,CV.one] at h)
def c0u (ps:List (Nat × CV)):Bool:=ps.all fun x=>c5n x.2
theorem a7V (h:c0u ps=true):∀ x∈ps,x.2.one=true\/∃ cs,x.2 = .agg cs:=fun x hx=>a4W (a5p.1 h x hx)
def a6M (C:Ctx) (E:Env):List (Nat × Operand)->List (Nat × CV)
 | []=>[]
 | (i,x)::l=>(i,E.val C x)::a6M C E l
theorem a5d:∀ (l:List (Nat × Operand)),l.map (fun x=>(x.1,E.val C x.2))=a6M C E l
 | []=>rfl
 | (i,x)::l=>by simp [a6M,a5d l]
def a67 (E:Env):List (Nat × Operand)->Prop
 | []=>True
 | (_,x)::l=>E.valid x/\a67 E l
theorem a17 {E:Env}:∀ {l:List (Nat × Operand)},a67 E l->∀ x∈l,E.valid x.2
 | [],_,x,h=>by simp at h
 | (i,y)::l,⟨h1,h2⟩,x,h=>by
  rcases P0.1 h with rfl | h
  ·exact h1
  ·exact a17 h2 x h
theorem A7 {fs:Array Field} (cj:Array (Nat × Nat)) {ba:List CV} (ho:o.op = .build t parts) (hv:a67 E parts.toList)
 (hu:∀ w,(underlying t).run C.P w = .ok (.struct fs) w) (hz:∀ w,(zeroValue t).run C.P w = .ok z w) (bY:M5 z=true) (dB:∃ cs,I2 z = .agg cs)
 (aT:∀ w,(fs.mapM fun (f:Field)=>do pure (f.offset,<- sizeOf f.type)).run C.P w = .ok cj w)
 (aP:c0u (a6M C E parts.toList)=true) (bD:b2E cj (I2 z).cells (a6M C E parts.toList)=some ba):l9 C σ E o (.agg ba) :=
 d0n ho (a17 hv) hu hz bY dB aT (a5d _) (a7V aP) bD
theorem B3 {len:Nat} (V:List (List CV)) (ho:o.op = .buildSlice t len parts) (hv:a67 E parts.toList)
 (hu:∀ w,(underlying t).run C.P w = .ok (.slice e) w) (hs:∀ w,(sizeOf e).run C.P w = .ok s w) (hz:∀ w,(zeroValue e).run C.P w = .ok z w) (bY:M5 z=true) (dB:c5n (I2 z)=true) (gu:(I2 z).cells.length=s) (fp:Nat.blt 0 s=true)
 (aj:Nat.ble (len*s) 16777216=true) (aP:c0u (a6M C E parts.toList)=true)
 (bD:a4E (fun i=>some (i*s,s)) ((List.range (len*s)).map fun i=>(I2 z).cells.getD (i%s) default) (a6M C E parts.toList)=some V.flatten) (cE:V.length=len) (bb:(V.all fun r=>Nat.beq r.length s)=true):l9 C σ E o (.list V true none) :=
 b4k ho (by
  have:=a17 hv;have key:∀ l:List Operand,(∀ x∈l,E.valid x)->E.valids l:=by
   intro l
   induction l with
   | nil=>intro _;trivial
   | cons x l ih=>intro h;exact ⟨h x si_,ih fun y hy=>h y (by simp [hy])⟩
  exact key _ fun x hx=>by
   obtain ⟨p,hp,rfl⟩:=I9.1 hx;exact this p hp) hu hs hz bY (a4W dB) gu (by simpa [a9G] using fp) (by have:=nb aj;omega) (a5d _) (a7V aP) bD cE (fun r hr=>a3R (a5p.1 bb r hr))
theorem a2M (ey:E.val C y = .list V nn tok) (bb:∀ r∈V,r.length=s):∀ M w v,Rel C M σ w->RV M w (E.val C y) v->Src C M w V s v:=fun _ _ _ _ h=>by
 rw [ey] at h;exact a13 h bb
theorem a1J {f:α->List CV} (h:∀ a,(f a).length=s) (l:List α):∀ r∈l.map f,r.length=s:=fun r hr=>by
 obtain ⟨a,_,rfl⟩:=I9.1 hr;exact h a
theorem D8 {f:α->List CV} (h:∀ a,∀ c∈f a,u0 c) (l:List α):∀ r∈l.map f,∀ c∈r,u0 c:=fun r hr=>by
 obtain ⟨a,_,rfl⟩:=I9.1 hr;exact h a
theorem i8 {f:α->List CV} {l:List α} {a:α} (h:l[i]? = some a):(l.map f)[i]? = some (f a):=by
 rw [Q0,h];rfl
end
def J0 (n:Nat):b9->Prop
 | .dead=>True
 | .boxT _ cells=>∀ c∈cells,Old n c
 | .tipT _ _=>True
 | .vec _ V=>∀ r∈V,∀ c∈r,Old n c
 | .map es=>∀ x∈es,Old n x.1/\Old n x.2
 | .iter aD es=>(∀ x∈aD,Old n x.1/\Old n x.2)/\∀ x∈es,Old n x.1/\Old n x.2
 | .blk _=>True
 | .lp _ _ cs=>∀ x∈cs,Old n x.2
def a4m (n:Nat):List b9->Prop
 | []=>True
 | ob::l=>J0 n ob/\a4m n l
theorem a4m.get:∀ {l:List b9},a4m n l->∀ (k:Nat) (ob:b9),l[k]? = some ob->J0 n ob
 | [],_,_,_,h=>by simp at h
 | o::l,⟨h1,h2⟩,k,ob,h=>by
  rcases k with _ | k
  ·simp at h;subst h;exact h1
  ·exact a4m.get h2 k ob (sp_ h)
def c51 (n:Nat):List (Nat × CV)->Prop
 | []=>True
 | (_,c)::l=>Old n c/\c51 n l
theorem Rel.cutObj {ay:List b9} (hr:Rel C M (σ++ay) w) (bM:a4m σ.length σ) (fg:∀ g cells,C.glob g=some cells->∀ c∈cells,u0 c) :
 Rel C (M.cutAt σ.length (σ++ay)) σ w/\Cut σ.length M (M.cutAt σ.length (σ++ay))/\∀ M0 w0,Ext M0 w0 M w->M0.pl.length<=σ.length->Ext M0 w0 (M.cutAt σ.length (σ++ay)) w:=by
 have aM:Cut σ.length M (M.cutAt σ.length (σ++ay)):=⟨rfl,fun _ h=>.inl h,fun _ _ h=>.inr h⟩;have aq:∀ {k:Nat} {p:Pl},(M.cutAt σ.length (σ++ay)).pl[k]? = some p->k < σ.length/\M.pl[k]? = some p:=by
  intro k p hk;have hk:(M.pl.take σ.length)[k]? = some p:=hk;rw [a2I] at hk;split at hk
  ·exact ⟨‹_›,hk⟩
  ·cases hk
 have ao:∀ {k:Nat} {ob:b9},σ[k]? = some ob->(σ++ay)[k]? = some ob:=by
  intro k ob h;rw [V3 (n_3.1 h).1];exact h
 have aj:σ.length<=M.pl.length:=by rw [hr.len];simp
 refine ⟨⟨by show (M.pl.take σ.length).length=_;simp;omega,fun b o ha=>?_,fun k p ob hk hs=>?_,fun k k' p p' ob aN hk aH hs aQ da cT hb=>hr.inj k k' p p' ob aN (aq hk).2 (aq aH).2 (ao hs) (ao aQ) da cT hb,fun g cells hg=>?_,hr.kep,fun k p ob hk hs bS=>hr.nk k p ob (aq hk).2 (ao hs) bS⟩,aM,fun M0 w0 hx aJ=>?_⟩
 ·rcases ha with (ha | ⟨k,p,ob,_,hp,hs,hl,rfl⟩) | ha
  ·exact hr.blk b o (.inl ha)
  ·exact (hr.obj k p ob hp hs).1.lt hl
  ·exact hr.blk b o (.inr ha)
 ·obtain ⟨ae,hp⟩:=aq hk;obtain ⟨h1,h2⟩:=hr.obj k p ob hp (ao hs);have ho:=bM.get k ob hs;have fK:ob.live=true->¬ M.full p.block->¬ (M.cutAt σ.length (σ++ay)).full p.block:=fun bS fK h=>by
   rcases h with h | ⟨k',p',aN,aH,aG,aQ,bJ,hb⟩
   ·exact fK h
   ·have:=hr.inj k' k p' p aN ob aG hp aQ (ao hs) bJ bS hb;omega
  refine ⟨?_,?_⟩
  ·cases ob with
   | dead=>trivial
   | boxT t0 cells =>
    obtain ⟨ak,ty,e1,e2,e3,e4⟩:=h1;exact ⟨ak,ty,e1,e2,e3,fun i c hi=>(e4 i c hi).cut aM (ho c (n_2 hi))⟩
   | tipT t0 m=>exact h1
   | blk o=>exact h1
   | lp o n cs =>
    obtain ⟨tm,e1,e2,e3⟩:=h1;exact ⟨tm,e1,e2,fun x hi=>(e3 x hi).cut aM (ho x hi)⟩
   | vec s V =>
    obtain ⟨e0,e1,e2,e3,e4,ak,ty,e5,e6,e7⟩:=h1;exact ⟨e0,e1,e2,e3,e4,ak,ty,e5,e6,fun i j r c hi hj=>(e7 i j r c hi hj).cut aM (ho r (n_2 hi) c (n_2 hj))⟩
   | map es =>
    obtain ⟨ab,ai,e1,e2,e3⟩:=h1;refine ⟨ab,ai,e1,e2,fun i x hi=>?_⟩;obtain ⟨e,g1,g2,g3,g4⟩:=e3 i x hi;have:=ho x (n_2 hi);exact ⟨e,g1,g2.cut aM this.1,g3.cut aM this.2,g4⟩
   | iter aD es =>
    obtain ⟨mb,seen,bB,ab,ai,e1,e2,e3,e4,e5,e6,e7,e8,e9⟩:=h1;refine ⟨mb,seen,bB,ab,ai,e1,aM.full _ e2,e3,e4,e5,e6,e7,fun i x hi=>?_,fun i x hi=>?_⟩
    ·obtain ⟨e,g1,g2,g3⟩:=e8 i x hi;have:=ho.2 x (n_2 hi);exact ⟨e,g1,g2.cut aM this.1,g3.cut aM this.2⟩
    ·obtain ⟨hl,j,e,g0,g1,g2,g3⟩:=e9 i x hi;have:=ho.1 x (n_2 hi);exact ⟨hl,j,e,g0,g1,g2.cut aM this.1,g3.cut aM this.2⟩
  ·cases ob with
   | dead=>trivial
   | tipT t0 m=>exact fK rfl h2
   | _=>exact ⟨fK rfl h2.1,h2.2⟩
 ·have:=(hr.glob g cells hg);refine ⟨?_,aM.full _ this.full,this.sz⟩;exact this.rv.cut aM (.cptr fun j c hj=>(fg g cells hg c (n_2 hj)).old)
 ·obtain ⟨l,hl⟩:=hx.pl;refine ⟨⟨l.take (σ.length - M0.pl.length),?_⟩,fun b h=>.inl (hx.full b h),fun b o h=>aM.at (hx.cell b o h),hx.same,hx.sameC,hx.size,hx.drew,hx.os,hx.tape,hx.output,fun b hb=>?_⟩
  ·show M.pl.take σ.length=_;rw [hl,List.take_append,W1 aJ]
  ·obtain ⟨k1,k2,k3,k4⟩:=hx.kept b hb;refine ⟨k1,k2,fun f=>?_,k4⟩
   rcases f with f | ⟨k,p,ob,_,hp,hs,bS,rfl⟩
   ·exact k3 f
   ·exact absurd k1 (hr.nk k p ob hp hs bS)
def Env.none:Env:={ h:=fun _=>Option.none,g:=fun _=>.two False False}
def Env.only (l:List (Nat × CV)):Env:=Env.none.puts l
theorem I8.only {a:Act} (hc:Cut k M M') (hf:I8 M w n E a):∀ {l:List (Nat × CV)},E.is l->c51 k l->I8 M' w n (Env.only l) a
 | [],_,_=>⟨hf.defers,hf.size,fun _ h=>h.elim,fun _ h=>h.elim⟩
 | (t,c)::l,⟨⟨h1,h2⟩,h⟩,⟨h3,h4⟩=>by
  have ih:=I8.only hc hf h h4;refine ⟨hf.defers,hf.size,fun x hx=>?_,fun x hx=>?_⟩
  ·show RV M' w (((Env.only l).putO (some t) c .yes).f x) _;have hx:((Env.only l).putO (some t) c .yes).ok x:=hx;rw [Env.putO_f];rw [Env.putO_ok] at hx
   split
   ·subst x;exact (h2 ▸ hf.rv t h1:RV M w c _).cut hc h3
   ·rename_i aC;rw [n_0 aC] at hx;exact ih.rv x hx
  ·have hx:((Env.only l).putO (some t) c .yes).un x:=hx;rw [Env.putO_un] at hx;split at hx
   ·exact absurd trivial hx
   ·exact ih.un x hx
section
variable {Q:A8->Env->List b9->Prop}
def Ctx.plain (C:Ctx):Prop:=∀ g cells,C.glob g=some cells->∀ c∈cells,u0 c
def d3U {α:Type} (l:α->List (Nat × CV)) (S:α->List b9) (P:α->Prop) (E':Env) (Y:List b9):Prop :=
 ∃ a ay,P a/\E'.is (l a)/\Y=S a++ay
theorem CWp.upto {c:Code} (hC:C.plain) {l:α->List (Nat × CV)} {P:α->Prop} {E':Env} {Y:List b9} (hE:d3U l S P E' Y) (bM:∀ a,P a->c51 (S a).length (l a)/\a4m (S a).length (S a)) (k:∀ a,P a->CWp C n c Q (Env.only (l a)) (S a)) (aj:∀ a,P a->M0.pl.length<=(S a).length) {a:Act} (hx:Ext M0 w0 M w) (hr:Rel C M Y w) (hf:I8 M w n E' a) :
 c.wp C.P (Q4 C n Q M0 w0) a w:=by
 obtain ⟨x,ay,hP,hE,rfl⟩:=hE;obtain ⟨h1,h2⟩:=bM x hP;obtain ⟨g1,g2,g3⟩:=hr.cutObj h2 hC;have aB:=g3 M0 w0 hx (aj x hP);exact wp_mono (k x hP _ w a g1 (hf.only g2 hE h1)) fun _ _ _=>Q4.later aB
theorem j7 {c:Code} (hC:C.plain) (l:α->List (Nat × CV)) (S:α->List b9) (I:α->Prop) (m:α->Nat) (a0:α) (h0:I a0) (hE:E.is (l a0)) {ah:List b9} (ao:σ=S a0++ah) (aj:∀ a,I a->σ.length<=(S a).length) (bM:∀ a,I a->c51 (S a).length (l a)/\a4m (S a).length (S a))
 (round:∀ (a:α),I a->CWp C n c (A8.next (d3U l S fun a'=>m a' < m a/\I a') Q) (Env.only (l a)) (S a)):CWp C n (.loop c) Q E σ:=fun M w a hr hf=>by
 intro b k cs;have key:∀ d (x:α) M1 w1 a1,m x=d->I x->Ext M w M1 w1->Rel C M1 (S x) w1->I8 M1 w1 n (Env.only (l x)) a1 ->
  ∃ e a' w',Q4 C n Q M w e a' w'/\Arrives C.P (lone (b.at a1 (.code c::.inLoop c::k)) cs w1) b k cs e a' w':=by
  intro d
  induction d using Nat.strongRecOn with
  | _ d ih =>
   intro x M1 w1 a1 hd hI hx aI dA;obtain ⟨e,a2,w2,hq,az⟩:=round x hI M1 w1 a1 aI dA b (.inLoop c::k) cs;obtain ⟨E',Y,M',h1,h2,h3,h4⟩:=hq;cases e with
   | normal =>
    obtain ⟨x',ay,⟨ae,hI'⟩,hE',rfl⟩:=h4;obtain ⟨o1,o2⟩:=bM x' hI';obtain ⟨g1,g2,g3⟩:=h2.cutObj o2 hC;have aB:=g3 M w (hx.trans h1) (by rw [hr.len];exact aj x' hI');obtain ⟨eA,eB,eC,cA,bi⟩:=ih (m x') om_ x' _ w2 a2 rfl hI' aB g1 (h3.only g2 hE' o1);exact ⟨eA,eB,eC,cA,.of_steps (Steps.trans az (.one step_inLoop)) bi⟩
   | exit id=>exact ⟨_,a2,w2,⟨E',Y,M',hx.trans h1,h2,h3,h4⟩,.pass (x:=.inLoop c) rfl (fun _ _=>.inl si_) az⟩
   | goto l=>exact ⟨_,a2,w2,⟨E',Y,M',hx.trans h1,h2,h3,h4⟩,.pass (x:=.inLoop c) rfl (fun _ _=>.inl si_) az⟩
   | ret=>exact ⟨_,a2,w2,⟨E',Y,M',hx.trans h1,h2,h3,h4⟩,.pass (x:=.inLoop c) rfl (fun _ _=>.inl si_) az⟩
   | panic ch=>exact ⟨_,a2,w2,⟨E',Y,M',hx.trans h1,h2,h3,h4⟩,.pass (x:=.inLoop c) rfl (fun _ _=>.inl si_) az⟩
   | outgrown=>exact h4.elim
 have hlen0:=aj a0 h0;have dx:ah=[]:=by
  apply b2p;rw [ao] at hlen0;simp at hlen0;omega
 subst dx;rw [a1d] at ao;subst ao;obtain ⟨o1,o2⟩:=bM a0 h0;have hcut0:Cut (S a0).length M M:=⟨by rw [<- hr.len,a60],fun _ h=>h,fun _ _ h=>.inr h⟩;obtain ⟨e,a',w',hq,az⟩:=key _ a0 M w a rfl h0 (Ext.refl M w) hr (hf.only hcut0 hE o1);exact ⟨e,a',w',hq,.of_steps (.one step_loop) az⟩
theorem L9 {x y:Code} (hC:C.plain) (l:α->List (Nat × CV)) (S:α->List b9) (P:α->Prop) (aj:∀ a,P a->σ.length<=(S a).length) (bM:∀ a,P a->c51 (S a).length (l a)/\a4m (S a).length (S a)) (h:CWp C n x (A8.next (d3U l S P) Q) E σ) (k:∀ a,P a->CWp C n y Q (Env.only (l a)) (S a)):CWp C n (.seq x y) Q E σ:=fun M w a hr hf=>by
 refine wp_seq (wp_mono (h M w a hr hf) fun e a' w' hl=>?_);obtain ⟨E',Y,M',h1,h2,h3,h4⟩:=hl;cases e with
 | normal=>exact CWp.upto hC h4 bM k (fun a ha=>by rw [hr.len];exact aj a ha) h1 h2 h3
 | _=>exact ⟨E',Y,M',h1,h2,h3,h4⟩
end
def b3o (n:Nat):List CV->Prop
 | []=>True
 | c::l=>Old n c/\b3o n l
theorem B6 {n:Nat}:∀ {cells:List CV},b3o n cells->J0 n (.box cells)
 | [],_=>fun c h=>by simp at h
 | x::l,⟨h1,h2⟩=>fun c h=>by
  rcases P0.1 h with rfl | h
  ·exact h1
  ·exact B6 h2 c h
theorem X9 {c0:CV} (h:c=c0) (hp:u0 c0):Cls n σ c c0:=by
 subst h;exact .pure hp
theorem j8 {x y:Bool} (h:x=y):Cls n σ (.val (.bool x)) (.val (.bool y)):=h ▸ .old (.val _)
theorem F1 {k:IntKind} {x y:Int} (h:x=y):Cls n σ (.val (.int k x)) (.val (.int k y)):=h ▸ .old (.val _)
theorem C9 {x y:ByteArray} (h:x=y):Cls n σ (.val (.string x)) (.val (.string y)):=h ▸ .old (.val _)
theorem X2 {β:Type} (f:α->β) (l:List α):((l.map f).length:Int)=(l.length:Int):=by simp
def T0:List CV->Prop
 | []=>True
 | c::l=>u0 c/\T0 l
theorem T0.all:∀ {l:List CV},T0 l->∀ c∈l,u0 c
 | [],_,c,h=>by simp at h
 | x::l,⟨h1,h2⟩,c,h=>by
  rcases P0.1 h with rfl | h
  ·exact h1
  ·exact T0.all h2 c h
theorem P9 {f:α->List CV} (h:∀ a,T0 (f a)) (l:List α) (nn:Bool):u0 (.list (l.map f) nn none):=.list (D8 (fun a=>(h a).all) l)
theorem b8.anyw (hC:C.plain) (ap:T0 args) (hc:u0 c) (h:b8 C f args [] fun r Y=>r = .ret c/\Y=[]) (σ:List b9):b8 C f args σ fun r Y=>r = .ret c/\Y=σ :=
 b3x ap.all hc hC h σ
def CV.fgt1:CV->CV
 | .list V nn _=>.list V nn none
 | c=>c
def CV.fgt:CV->CV
 | .agg cs=>.agg (cs.map CV.fgt1)
 | c=>c.fgt1
theorem CV.one_fgt1 (c:CV):c.fgt1.one=c.one:=by cases c<;>rfl
theorem RV.fgt1 (h:RV M w c v):RV M w c.fgt1 v:=by
 cases h with
 | list vals h1 h2 h3 h4 h5 h6 h7 h8 h9 aU=>exact .list vals h1 h2 h3 h4 h5 h6 h7 h8 h9 fun k hk=>by cases hk
 | val v=>exact .val v
 | agg h1 h2 h3=>exact .agg h1 h2 h3
 | tup h1 h3=>exact .tup h1 h3
 | clo h1 h3=>exact .clo h1 h3
 | ptr hk=>exact .ptr hk
 | cptr vals h1 h2 h3=>exact .cptr vals h1 h2 h3
 | eptr hk=>exact .eptr hk
 | vec hk h1 h2 h3=>exact .vec hk h1 h2 h3
 | map hk=>exact .map hk
 | yld hk=>exact .yld hk
theorem RV.fgt (h:RV M w c v):RV M w c.fgt v:=by
 cases h with
 | agg h1 h2 h3 =>
  refine .agg (sp_ h1) (fun c hm=>?_) (fun i c hi=>?_)
  ·obtain ⟨c0,h0,rfl⟩:=I9.1 hm;rw [CV.one_fgt1];exact h2 c0 h0
  ·rw [Q0,N0] at hi;obtain ⟨c0,h0,rfl⟩:=hi;exact (h3 i c0 h0).fgt1
 | list vals h1 h2 h3 h4 h5 h6 h7 h8 h9 aU=>exact (RV.list vals h1 h2 h3 h4 h5 h6 h7 h8 h9 aU).fgt1
 | val v=>exact .val v
 | tup h1 h3=>exact .tup h1 h3
 | clo h1 h3=>exact .clo h1 h3
 | ptr hk=>exact .ptr hk
 | cptr vals h1 h2 h3=>exact .cptr vals h1 h2 h3
 | eptr hk=>exact .eptr hk
 | vec hk h1 h2 h3=>exact .vec hk h1 h2 h3
 | map hk=>exact .map hk
 | yld hk=>exact .yld hk
section
variable {Q:A8->Env->List b9->Prop}
theorem a3a (h:b8 C f (args.map CV.fgt) σ K):b8 C f args σ K:=fun M w vs hr aF hx =>
 h M w vs hr (sp_ aF) fun i c hi=>by
  rw [Q0,N0] at hi;obtain ⟨c0,h0,rfl⟩:=hi;exact (hx i c0 h0).fgt
theorem c4 (ho:o.op = .call { callee:=.value (.func f),args:=xs,argTypes:=ts}) (aA:∀ args w,(callFunc f args).run C.P w = .ok (.enter f args) w)
 (hv:E.valids xs.toList) (h:b8 C f cargs σ fun r Y=>r = .ret c/\Y=σ) (ea:(E.vals C xs.toList).map CV.fgt=cargs):l9 C σ E o c :=
 d4q ho aA hv rfl (a3a (ea ▸ h))
theorem d7J {b:Int} (ha:0<=a) (hb:0 < b) (hr:a<=9223372036854775807):a6z .quo .i64 a b=some (.int .i64 (a / b)):=by
 have h1:a.tdiv b=a / b:=c1Q ha;have h2:0<=a / b:=Int.ediv_nonneg ha om_;have h3:a / b<=a:=Int.ediv_le_self _ ha;have h4:b≠0:=by omega
 simp only [a6z,h1,n_0 h4];rw [a83 om_ om_]
theorem c80 {b:Int} (hb:b≠0):a6z .rem .i64 a b=some (.int .i64 (a.tmod b)):=by simp [a6z,hb]
theorem b72 {b:Int} (ha:0<=a) (hb:0 < b):a6z .rem .i64 a b=some (.int .i64 (a%b)):=by
 rw [c80 om_,c5Y ha]
theorem o8 (h:T0 cs):u0 (.agg cs):=.agg h.all
theorem C0 (h:T0 cs):u0 (.tup cs):=.tup h.all
end
inductive E9 (L:Nat) (am:List Nat):CV->CV->Prop where
 | old {c:CV}:Old L c->E9 L am c c
 | agg {cs aX:List CV}:cs.length=aX.length->(∀ (i:Nat) (c c':CV),cs[i]? = some c->aX[i]? = some c'->E9 L am c c')->E9 L am (.agg cs) (.agg aX)
 | list {V:List (List CV)} {nn:Bool} {tok fL:Option Nat}:(∀ r∈V,∀ c∈r,Old L c)->(∀ j,fL=some j->∃ k,tok=some k/\am[j]? = some k)->E9 L am (.list V nn tok) (.list V nn fL)
 | ptr {k j off:Nat}:am[j]? = some k->E9 L am (.ptr k off) (.ptr j off)
 | eptr {k j i off:Nat}:am[j]? = some k->E9 L am (.eptr k i off) (.eptr j i off)
 | vec {k j off len:Nat}:am[j]? = some k->E9 L am (.vec k off len) (.vec j off len)
 | map {k j:Nat}:am[j]? = some k->E9 L am (.map k) (.map j)
 | yld {k j:Nat}:am[j]? = some k->E9 L am (.yld k) (.yld j)
theorem E9.same (h:c=c') (ho:Old L c'):E9 L am c c':=h ▸ .old (h ▸ ho)
theorem E9.one (h:E9 L am c c'):c'.one=c.one:=by
 cases h<;>rfl
def A5.ren (M:A5) (am:List Nat):A5:={ M with pl:=am.map fun k=>M.pl.getD k ⟨0,0,0⟩}
theorem a2a (hj:am[j]? = some k) (hk:M.pl[k]? = some p):(M.ren am).pl[j]? = some p:=by
 show (am.map fun k=>M.pl.getD k ⟨0,0,0⟩)[j]? = some p;rw [Q0,hj];simp [hk]
theorem X6 (bv:∀ k,k < L->am[k]? = some k) (hL:L<=M.pl.length) (h:RV M w c v) (ho:Old L c):RV (M.ren am) w c v:=by
 have hc:Cut L M { M with pl:=M.pl.take L}:=⟨rfl,fun _ h=>h,fun _ _ h=>.inr h⟩;have h1:=h.cut hc ho;refine RV.mono (M:={ M with pl:=M.pl.take L}) (M':=M.ren am) (w:=w) (w':=w) ⟨⟨(M.ren am).pl.drop L,?_⟩,fun _ h=>h,fun _ _ h=>.inr h,fun _ _=>rfl,fun _ _ _=>rfl,n_6 _,Q8,rfl,rfl,rfl,fun _ h=>⟨h,rfl,id,fun _=>id⟩⟩ h1;have:(M.ren am).pl.take L=M.pl.take L:=by
  refine b8A fun i=>?_;rw [a2I,a2I]
  split
  ·rename_i hi;have hp:M.pl[i]? = some (M.pl[i]'om_):=by simp
   rw [a2a (bv i hi) hp,hp]
  ·rfl
 show (M.ren am).pl=M.pl.take L++_;rw [<- this,b29]
theorem RV.ren (bv:∀ k,k < L->am[k]? = some k) (hL:L<=M.pl.length) (h:RV M w c v) (hr:E9 L am c c'):RV (M.ren am) w c' v:=by
 induction hr generalizing v with
 | old ho=>exact X6 bv hL h ho
 | agg hl fI ih =>
  cases h with
  | agg h1 h2 h3 =>
   refine .agg om_ (fun c hcm=>?_) (fun i c' hi=>?_)
   ·obtain ⟨i,hi⟩:=L7.1 hcm;obtain ⟨y,hy⟩:=p9 hl hi;rw [(fI i y c hy hi).one];exact h2 y (n_2 hy)
   ·obtain ⟨y,hy⟩:=p9 hl hi;exact ih i y c' hy hi (h3 i y hy)
 | list eb cl =>
  cases h with
  | list vals h1 h2 h3 h4 h5 h6 h7 h8 h9 aU =>
   refine .list vals h1 h2 h3 h4 h5 h6 h7 h8 (fun i j r c hi hj=>X6 bv hL (h9 i j r c hi hj) (eb r (n_2 hi) c (n_2 hj))) (fun j hj=>?_);obtain ⟨k,hk,hs⟩:=cl j hj;obtain ⟨s',hp,aL⟩:=aU k hk;exact ⟨s',a2a hs hp,aL⟩
 | ptr hs=>cases h with | ptr hk=>exact .ptr (a2a hs hk)
 | eptr hs=>cases h with | eptr hk=>exact .eptr (a2a hs hk)
 | vec hs=>cases h with | vec hk h1 h2 h3=>exact .vec (a2a hs hk) h1 h2 h3
 | map hs=>cases h with | map hk=>exact .map (a2a hs hk)
 | yld hs=>cases h with | yld hk=>exact .yld (a2a hs hk)
def b9e (L:Nat) (am:List Nat):List CV->List CV->Prop
 | [],[]=>True
 | c::l,c'::l'=>E9 L am c c'/\b9e L am l l'
 | _,_=>False
theorem b9e.len:∀ {l l':List CV},b9e L am l l'->l.length=l'.length
 | [],[],_=>rfl
 | _::_,_::_,h=>n_9 (· + 1) h.2.len
theorem b9e.get:∀ {l l':List CV},b9e L am l l'->∀ (i:Nat) (c c':CV),l[i]? = some c->l'[i]? = some c'->E9 L am c c'
 | [],[],_,i,c,c',h,_=>by simp at h
 | _::_,_::_,h,0,c,c',h1,h2=>by
  simp at h1 h2;subst h1;subst h2;exact h.1
 | _::_,_::_,h,i+1,c,c',h1,h2=>h.2.get i c c' (sp_ h1) (sp_ h2)
inductive a9n (L:Nat) (am:List Nat):b9->b9->Prop where
 | dead {ob:b9}:a9n L am ob .dead
 | same {ob aN:b9}:ob=aN->J0 L aN->a9n L am ob aN
 | box {t0:Option TypeId} {cells bQ:List CV}:b9e L am cells bQ->a9n L am (.boxT t0 cells) (.boxT t0 bQ)
theorem Q3.ren (bv:∀ k,k < L->am[k]? = some k) (hL:L<=M.pl.length) {aN:b9} (h:Q3 M w p ob/\a6v M p ob) (hr:a9n L am ob aN):Q3 (M.ren am) w p aN/\a6v (M.ren am) p aN:=by
 obtain ⟨h1,h2⟩:=h;cases hr with
 | dead=>exact ⟨tt,tt⟩
 | same he ho =>
  subst he;refine ⟨?_,by cases ob<;>exact h2⟩;cases ob with
  | dead=>trivial
  | boxT t0 cells =>
   obtain ⟨ak,ty,e1,e2,e3,e4⟩:=h1;exact ⟨ak,ty,e1,e2,e3,fun i c hi=>X6 bv hL (e4 i c hi) (ho c (n_2 hi))⟩
  | tipT t0 m=>exact h1
  | blk o=>exact h1
  | lp o n cs =>
   obtain ⟨tm,e1,e2,e3⟩:=h1;exact ⟨tm,e1,e2,fun x hi=>X6 bv hL (e3 x hi) (ho x hi)⟩
  | vec s V =>
   obtain ⟨e0,e1,e2,e3,e4,ak,ty,e5,e6,e7⟩:=h1;exact ⟨e0,e1,e2,e3,e4,ak,ty,e5,e6,fun i j r c hi hj=>X6 bv hL (e7 i j r c hi hj) (ho r (n_2 hi) c (n_2 hj))⟩
  | map es =>
   obtain ⟨ab,ai,e1,e2,e3⟩:=h1;refine ⟨ab,ai,e1,e2,fun i x hi=>?_⟩;obtain ⟨e,g1,g2,g3,g4⟩:=e3 i x hi;have:=ho x (n_2 hi);exact ⟨e,g1,X6 bv hL g2 this.1,X6 bv hL g3 this.2,g4⟩
  | iter aD es =>
   obtain ⟨mb,seen,bB,ab,ai,e1,e2,e3,e4,e5,e6,e7,e8,e9⟩:=h1;refine ⟨mb,seen,bB,ab,ai,e1,e2,e3,e4,e5,e6,e7,fun i x hi=>?_,fun i x hi=>?_⟩
   ·obtain ⟨e,g1,g2,g3⟩:=e8 i x hi;have:=ho.2 x (n_2 hi);exact ⟨e,g1,X6 bv hL g2 this.1,X6 bv hL g3 this.2⟩
   ·obtain ⟨hl,j,e,g0,g1,g2,g3⟩:=e9 i x hi;have:=ho.1 x (n_2 hi);exact ⟨hl,j,e,g0,g1,X6 bv hL g2 this.1,X6 bv hL g3 this.2⟩
 | box hc =>
  obtain ⟨ak,ty,e1,e2,e3,e4⟩:=h1;refine ⟨⟨ak,ty,e1,by rw [e2,hc.len],fun c hm=>?_,fun i c' hi=>?_⟩,h2⟩
  ·obtain ⟨i,hi⟩:=L7.1 hm;obtain ⟨y,hy⟩:=p9 hc.len hi;rw [(hc.get i y c hy hi).one];exact e3 y (n_2 hy)
  ·obtain ⟨y,hy⟩:=p9 hc.len hi;exact (e4 i y hy).ren bv hL (hc.get i y c' hy hi)
def b6g (L:Nat) (all:List Nat) (σ:List b9):List Nat->List b9->Prop
 | [],[]=>True
 | k::ks,ob::obs=>(ob = .dead\/∃ cR,σ[k]? = some cR/\a9n L all cR ob)/\b6g L all σ ks obs
 | _,_=>False
theorem b6g.len {all:List Nat}:∀ {ks:List Nat} {obs:List b9},b6g L all σ ks obs->ks.length=obs.length
 | [],[],_=>rfl
 | _::_,_::_,h=>n_9 (· + 1) h.2.len
variable {len:Nat}
theorem b6g.get {all:List Nat}:∀ {ks:List Nat} {obs:List b9},b6g L all σ ks obs->∀ (j k:Nat) (ob:b9),ks[j]? = some k->obs[j]? = some ob->ob = .dead\/∃ cR,σ[k]? = some cR/\a9n L all cR ob
 | [],[],_,j,k,ob,h,_=>by simp at h
 | _::_,_::_,h,0,k,ob,h1,h2=>by
  simp at h1 h2;subst h1;subst h2;exact h.1
 | _::_,_::_,h,j+1,k,ob,h1,h2=>h.2.get j k ob (sp_ h1) (sp_ h2)
def a0f:List Nat->Bool
 | []=>true
 | k::l=>!l.contains k && a0f l
theorem b0Y:∀ {l:List Nat},a0f l=true->∀ (i j k:Nat),l[i]? = some k->l[j]? = some k->i=j
 | [],_,i,j,k,h,_=>by simp at h
 | x::l,h,i,j,k,h1,h2=>by
  simp only [a0f,S7,b12,List.contains_eq_mem,b4o] at h
  rcases i with _ | i<;>rcases j with _ | j
  ·rfl
  ·simp at h1 h2;subst h1;exact absurd (n_2 h2) h.1
  ·simp at h1 h2;subst h2;exact absurd (n_2 h1) h.1
  ·exact n_9 (· + 1) (b0Y h.2 i j k (sp_ h1) (sp_ h2))
def a5B (L:Nat) (am:List Nat):Bool:=Nat.ble L am.length && (List.range L).all fun k=>Nat.beq (am.getD k 0) k
theorem a2F (h:a5B L am=true) (k:Nat) (hk:k < L):am[k]? = some k:=by
 simp only [a5B,S7,a5p,List.mem_range] at h;have h1:=nb h.1;have h2:=a3R (h.2 k hk);have ae:k < am.length:=by omega
 rw [a1u ae];simpa [ae] using h2
theorem Rel.ren {S:List b9} (hC:C.plain) (hr:Rel C M σ w) (bv:a5B L am=true) (cf:a0f am=true) (hL:L<=M.pl.length) (hS:b6g L am σ am S):Rel C (M.ren am) S w:=by
 have hk:=a2F bv;have aT:∀ {j:Nat} {p:Pl} {ob:b9},(M.ren am).pl[j]? = some p->S[j]? = some ob->∃ k,am[j]? = some k/\(ob = .dead\/∃ cR,σ[k]? = some cR/\M.pl[k]? = some p/\a9n L am cR ob):=by
  intro j p ob hp hs;have aG:(am.map fun k=>M.pl.getD k ⟨0,0,0⟩)[j]? = some p:=hp;rw [Q0,N0] at aG;obtain ⟨k,hk,aG⟩:=aG;refine ⟨k,hk,?_⟩
  rcases hS.get j k ob hk hs with rfl | ⟨cR,h1,h2⟩
  ·exact .inl rfl
  ·have ae:k < M.pl.length:=by rw [hr.len];exact (n_3.1 h1).1
   refine .inr ⟨cR,h1,?_,h2⟩;rw [<- aG];simp [ae]
 have bV:∀ {cR ob:b9},a9n L am cR ob->ob.live=true->cR.live=true:=by
  intro cR ob h hl;cases h with
  | dead=>cases hl
  | same he _=>exact he ▸ hl
  | box _=>rfl
 refine ⟨by show (am.map _).length=_;rw [a0W,hS.len],hr.blk,fun j p ob hp hs=>?_,fun j j' p p' ob aN hp aG hs aQ hl bJ hb=>?_,fun g cells hg=>?_,hr.kep,fun j p ob hp hs hl=>?_⟩
 ·obtain ⟨k,bK,h | ⟨cR,h1,h2,h3⟩⟩:=aT hp hs
  ·subst h;exact ⟨tt,tt⟩
  ·exact Q3.ren hk hL (hr.obj k p cR h2 h1) h3
 ·obtain ⟨k,bK,h | ⟨cR,h1,h2,h3⟩⟩:=aT hp hs
  ·subst h;cases hl
  ·obtain ⟨k',hk1',h' | ⟨ob0',dD,dw,h3'⟩⟩:=aT aG aQ
   ·subst h';cases bJ
   ·have e:=hr.inj k k' p p' cR ob0' h2 dw h1 dD (bV h3 hl) (bV h3' bJ) hb;subst e;exact b0Y cf j j' k bK hk1'
 ·refine ⟨?_,(hr.glob g cells hg).full,(hr.glob g cells hg).sz⟩;exact X6 hk hL (hr.glob g cells hg).rv (.cptr fun j c hj=>(hC g cells hg c (n_2 hj)).old)
 ·obtain ⟨k,bK,h | ⟨cR,h1,h2,h3⟩⟩:=aT hp hs
  ·subst h;cases hl
  ·exact hr.nk k p cR h2 h1 (bV h3 hl)
theorem Ext.ren (hx:Ext M0 w0 M w) (bv:a5B L am=true) (hL0:M0.pl.length=L):Ext M0 w0 (M.ren am) w:=by
 have hk:=a2F bv;obtain ⟨l,hl⟩:=hx.pl;refine ⟨⟨(M.ren am).pl.drop L,?_⟩,hx.full,hx.cell,hx.same,hx.sameC,hx.size,hx.drew,hx.os,hx.tape,hx.output,hx.kept⟩;have:(M.ren am).pl.take L=M0.pl:=by
  refine b8A fun i=>?_;rw [a2I]
  split
  ·rename_i hi;have hp0:M0.pl[i]? = some (M0.pl[i]'om_):=by simp
   rw [a2a (hk i hi) (hx.get hp0),hp0]
  ·rw [b7p om_]
 rw [<- this,b29]
def Env.isR (E:Env) (L:Nat) (am:List Nat):List (Nat × CV)->Prop
 | []=>True
 | (t,c)::l=>(E.ok t/\E9 L am (E.f t) c)/\E.isR L am l
theorem I8.onlyR {a:Act} (bv:a5B L am=true) (hL:L<=M.pl.length) (hf:I8 M w n E a):∀ {l:List (Nat × CV)},E.isR L am l->I8 (M.ren am) w n (Env.only l) a
 | [],_=>⟨hf.defers,hf.size,fun _ h=>h.elim,fun _ h=>h.elim⟩
 | (t,c)::l,⟨⟨h1,h2⟩,h⟩=>by
  have ih:=I8.onlyR bv hL hf h;refine ⟨hf.defers,hf.size,fun x hx=>?_,fun x hx=>?_⟩
  ·show RV (M.ren am) w (((Env.only l).putO (some t) c .yes).f x) _;have hx:((Env.only l).putO (some t) c .yes).ok x:=hx;rw [Env.putO_f];rw [Env.putO_ok] at hx
   split
   ·subst x;exact (hf.rv t h1).ren (a2F bv) hL h2
   ·rename_i aC;rw [n_0 aC] at hx;exact ih.rv x hx
  ·have hx:((Env.only l).putO (some t) c .yes).un x:=hx;rw [Env.putO_un] at hx;split at hx
   ·exact absurd trivial hx
   ·exact ih.un x hx
section
variable {Q:A8->Env->List b9->Prop}
def b1T {α:Type} (L:Nat) (l:α->List (Nat × CV)) (S:α->List b9) (P:α->Prop) (E':Env) (Y:List b9):Prop :=
 ∃ (a:α) (am:List Nat),P a/\(a5B L am=true/\a0f am=true)/\E'.isR L am (l a)/\b6g L am Y am (S a)
theorem b1T.go {c:Code} (hC:C.plain) {l:α->List (Nat × CV)} {P:α->Prop} {E':Env} {Y:List b9} (hE:b1T L l S P E' Y) (k:∀ a,P a->CWp C n c Q (Env.only (l a)) (S a)) (aj:M0.pl.length=L) {a:Act} (hx:Ext M0 w0 M w) (hr:Rel C M Y w) (hf:I8 M w n E' a) :
 c.wp C.P (Q4 C n Q M0 w0) a w:=by
 obtain ⟨x,am,hP,⟨h1,h2⟩,hE,hS⟩:=hE;have hL:L<=M.pl.length:=by
  obtain ⟨l,hl⟩:=hx.pl;rw [hl];simp;omega
 exact wp_mono (k x hP _ w a (hr.ren hC h1 h2 hL hS) (hf.onlyR h1 hL hE)) fun _ _ _=>Q4.later (hx.ren h1 aj)
theorem a9j {x y:Code} (hC:C.plain) (L:Nat) (hL:Nat.beq L σ.length=true) (l:α->List (Nat × CV)) (S:α->List b9) (P:α->Prop) (h:CWp C n x (A8.next (b1T L l S P) Q) E σ) (k:∀ a,P a->CWp C n y Q (Env.only (l a)) (S a)):CWp C n (.seq x y) Q E σ:=fun M w a hr hf=>by
 refine wp_seq (wp_mono (h M w a hr hf) fun e a' w' hl=>?_);obtain ⟨E',Y,M',h1,h2,h3,h4⟩:=hl;cases e with
 | normal=>exact b1T.go hC h4 k (by rw [hr.len];exact (a3R hL).symm) h1 h2 h3
 | _=>exact ⟨E',Y,M',h1,h2,h3,h4⟩
theorem B9 {c:Code} (hC:C.plain) (L:Nat) (hL:Nat.beq L σ.length=true) (l:α->List (Nat × CV)) (S:α->List b9) (I:α->Prop) (m:α->Nat) (h0:b1T L l S I E σ)
 (round:∀ (a:α),I a->CWp C n c (A8.next (b1T L l S fun a'=>m a' < m a/\I a') Q) (Env.only (l a)) (S a)):CWp C n (.loop c) Q E σ:=fun M w a hr hf=>by
 intro b k cs;have hL:=a3R hL;have key:∀ d (x:α) M1 w1 a1,m x=d->I x->Ext M w M1 w1->Rel C M1 (S x) w1->I8 M1 w1 n (Env.only (l x)) a1 ->
  ∃ e a' w',Q4 C n Q M w e a' w'/\Arrives C.P (lone (b.at a1 (.code c::.inLoop c::k)) cs w1) b k cs e a' w':=by
  intro d
  induction d using Nat.strongRecOn with
  | _ d ih =>
   intro x M1 w1 a1 hd hI hx aI dA;obtain ⟨e,a2,w2,hq,az⟩:=round x hI M1 w1 a1 aI dA b (.inLoop c::k) cs;obtain ⟨E',Y,M',h1,h2,h3,h4⟩:=hq;cases e with
   | normal =>
    obtain ⟨x',am,⟨ae,hI'⟩,⟨g1,g2⟩,hE',hS⟩:=h4;have aB:=hx.trans h1;have hLe:L<=M'.pl.length:=by
     obtain ⟨l,hl⟩:=aB.pl;rw [hl];simp;rw [hr.len,hL];omega
    obtain ⟨eA,eB,eC,cA,bi⟩:=ih (m x') om_ x' _ w2 a2 rfl hI' (aB.ren g1 (by rw [hr.len,hL])) (h2.ren hC g1 g2 hLe hS) (h3.onlyR g1 hLe hE');exact ⟨eA,eB,eC,cA,.of_steps (Steps.trans az (.one step_inLoop)) bi⟩
   | exit id=>exact ⟨_,a2,w2,⟨E',Y,M',hx.trans h1,h2,h3,h4⟩,.pass (x:=.inLoop c) rfl (fun _ _=>.inl si_) az⟩
   | goto l=>exact ⟨_,a2,w2,⟨E',Y,M',hx.trans h1,h2,h3,h4⟩,.pass (x:=.inLoop c) rfl (fun _ _=>.inl si_) az⟩
   | ret=>exact ⟨_,a2,w2,⟨E',Y,M',hx.trans h1,h2,h3,h4⟩,.pass (x:=.inLoop c) rfl (fun _ _=>.inl si_) az⟩
   | panic ch=>exact ⟨_,a2,w2,⟨E',Y,M',hx.trans h1,h2,h3,h4⟩,.pass (x:=.inLoop c) rfl (fun _ _=>.inl si_) az⟩
   | outgrown=>exact h4.elim
 obtain ⟨x,am,hP,⟨g1,g2⟩,hE,hS⟩:=h0;have hLe:L<=M.pl.length:=by rw [hr.len,hL];omega
 obtain ⟨e,a',w',hq,az⟩:=key _ x _ w a rfl hP ((Ext.refl M w).ren g1 (by rw [hr.len,hL])) (hr.ren hC g1 g2 hLe hS) (hf.onlyR g1 hLe hE);exact ⟨e,a',w',hq,.of_steps (.one step_loop) az⟩
def G9:Nat->Nat->Option Nat
 | 0,_=>none
 | _+1,p=>some p
def r7:Nat->b9
 | 0=>.dead
 | m+1=>.tip (m+1)
def gnn:Nat->Bool
 | 0=>false
 | _+1=>true
theorem a4C (n m:Nat):J0 n (r7 m):=by cases m<;>trivial
end
theorem E9.grow {f:α->List CV} {p:Nat} {l:List α} (h:∀ a,b3o L (f a)) (hs:am[p]? = some k):E9 L am (.list (l.map f) (gnn m) (G9 m k)) (.list (l.map f) (gnn m) (G9 m p)):=by
 refine .list (fun r hr c hc=>?_) (fun j hj=>?_)
 ·obtain ⟨a,_,rfl⟩:=I9.1 hr;exact B6 (h a) c hc
 ·cases m with
  | zero=>cases hj
  | succ m=>cases hj;exact ⟨k,rfl,hs⟩
section
variable {Q:A8->Env->List b9->Prop}
theorem a4p {ti:TypeInfo} (av:List (List CV)) (n':Nat) (ho:o.op = .call { callee:=.builtin .append,args:=#[x,y],argTypes:=#[t,t]}) (hx:E.valid x) (hy:E.valid y) (ex:E.val C x = .vec k 0 len)
 (aR:∀ M w v,Rel C M σ w->RV M w (E.val C y) v->Src C M w new s v) (hu:∀ w,(underlying t).run C.P w = .ok (.slice e) w) (hs:∀ w,(sizeOf e).run C.P w = .ok s w) (df:∀ w,(typeInfo e).run C.P w = .ok ti w) (hz:∀ w,(zeroValue e).run C.P w = .ok z w) (cc:z.cells.size=s)
 (aH:σ[k]? = some (.vec s V)) (aj:len=V.length) (dr:new≠[]) (hb:(V.length+new.length)*ti.bytes<=140737488355328) (bn:V.length+new.length<=9223372036854775807) (he:V++new=av) (hn:V.length+new.length=n')
 (hk:K (.ret (.vec σ.length 0 n')) (σ.set k .dead++[.vec s av])):H4 C σ E o K:=by
 subst aj he hn;exact b8r ho hx hy ex aR hu hs df hz cc aH dr hb bn hk
theorem b1F (av:List (List CV)) (n':Nat) (ho:o.op = .call { callee:=.builtin .append,args:=#[x,y],argTypes:=#[t,t]}) (hx:E.valid x) (hy:E.valid y) (ex:E.val C x = .vec k off len)
 (aR:∀ M w v,Rel C M σ w->RV M w (E.val C y) v->Src C M w new s v) (hu:∀ w,(underlying t).run C.P w = .ok (.slice e) w) (hs:∀ w,(sizeOf e).run C.P w = .ok s w) (aH:σ[k]? = some (.vec s V)) (hl:off+len+new.length<=V.length) (he:V2 V (off+len) new=av) (hn:len+new.length=n') {Y:List b9} (ao:σ.set k (.vec s av)=Y)
 (hk:K (.ret (.vec k off n')) Y):H4 C σ E o K :=
 b4q ho hx hy ex aR hu hs aH hl (by rw [he,ao,hn];exact hk)
theorem R2 (av:List (List CV)) (ho:o.op = .store t x y) (hx:E.valid x) (hy:E.valid y) (ex:E.val C x = .eptr k i off) (ey:E.val C y=c) (hs:∀ w,(sizeOf t).run C.P w = .ok m w)
 (hc:c.one=true\/∃ cs,c = .agg cs) (hk:σ[k]? = some (.vec s V)) (hi:V[i]? = some r) (hl:c.cells.length=m) (ae:off+m<=r.length) (he:V.set i (N9 r off c.cells)=av) {Y:List b9} (ao:σ.set k (.vec s av)=Y) (h:K (.ret (.val undef)) Y):H4 C σ E o K :=
 c3u ho hx hy ex ey hs hc hk hi hl ae (by rw [he,ao];exact h)
theorem c5 {c:α->CV} {P:α->Prop} (ho:o.op = .call { callee:=.value (.func f),args:=xs,argTypes:=ts}) (aA:∀ args w,(callFunc f args).run C.P w = .ok (.enter f args) w)
 (hv:E.valids xs.toList) (h:b8 C f cargs σ fun r Y=>∃ a,r = .ret (c a)/\Y=S a/\P a) (ea:(E.vals C xs.toList).map CV.fgt=cargs) (hk:∀ a,P a->K (.ret (c a)) (S a)):H4 C σ E o K :=
 b3Q ho aA (Env.valids_mem hv) (Env.vals_map _) ((a3a (ea ▸ h)).mono fun r Y hh=>by
  obtain ⟨a,rfl,rfl,hp⟩:=hh;exact hk a hp)
end
section
variable {aa:Array Oper}
def d4A (C:Ctx) (aa:Array Oper) (o:Oper) (E:Env) (σ:List b9) (K:CV->Prop->List b9->Prop) (Kp:CV->List b9->Prop):Prop :=
 (o.guard=none/\H4 C σ E o fun r Y=>match r with | .ret c=>K c True Y | .pan c=>Kp c Y)\/(∃ c g,K3 C σ aa o E c g/\K c g σ)
def a1G (S:List (List b9->Prop)) (σ:List b9):List Nat->Prop
 | []=>True
 | k::l=>(S.getD k fun _=>True) σ/\a1G S σ l
theorem a1G.get {S:List (List b9->Prop)}:∀ {l:List Nat},a1G S σ l->∀ k∈l,(S.getD k fun _=>True) σ
 | [],_,k,h=>by cases h
 | x::l,⟨h1,h2⟩,k,h=>by
  rcases P0.1 h with rfl | h
  ·exact h1
  ·exact h2.get k h
end
section
variable {aa:Array Oper}
theorem c9 (hg:o.guard=none) (hy:l9 C σ E o c):K3 C σ aa o E c True:=.inl ⟨hg,tt,hy⟩
theorem D6 {K:Env->List (List b9->Prop)->Prop} {S:List (List b9->Prop)} (h:K E S):a1E C σ aa K [] E S:=h
theorem chf {K:Env->List (List b9->Prop)->Prop} {l:List Nat} {S:List (List b9->Prop)} (ho:aa[i]? = some o) (bf:K3 C σ aa o E c g) (h:a1E C σ aa K l (E.put o.dst c g) (S++[fun Y=>K3 C Y aa o E c g])):a1E C σ aa K (i::l) E S :=
 ⟨o,c,g,ho,bf,h⟩
end
section
theorem a8P {c:Nat} {a:Option Addr} {x:Value} (hu:∀ w,(underlying t).run P w = .ok (.slice e) w) (hs:∀ w,(sizeOf e).run P w = .ok s w)
 (aj:∀ w,(Builtin.lenOf x).run P w = .ok 0 w) (dE:(Builtin.firstCells s 0 x).run P w = .ok ak w) (az:ak.size=0) (eZ:n<=c):(Builtin.append_ #[t,t] ty #[.slice a n c,x]).run P w = .ok (.slice a n c) w:=by
 have:ak = #[]:=Array.eq_empty_of_size_eq_zero az;subst this;cases a<;>simp [Builtin.append_,hu,hs,aj,dE,eZ,storeCells]
theorem Rel.addDead (hr:Rel C M σ w) (q:Pl):Rel C (M.add q) (σ++[.dead]) w/\Ext M w (M.add q) w:=by
 have hx:Ext M w (M.add q) w:=⟨⟨[q],rfl⟩,fun _ h=>h,fun _ _ h=>.inr h,fun _ _=>rfl,fun _ _ _=>rfl,n_6 _,Q8,rfl,rfl,rfl,fun _ h=>⟨h,rfl,id,fun _=>id⟩⟩;have aq:∀ {k:Nat} {p:Pl} {ob:b9},(M.add q).pl[k]? = some p->(σ++[.dead])[k]? = some ob->ob = .dead\/(M.pl[k]? = some p/\σ[k]? = some ob):=by
  intro k p ob h1 h2;rw [a5Y] at h2;split at h2
  ·rename_i ae;have h1:(M.pl++[q])[k]? = some p:=h1;rw [V3 (by rw [hr.len];exact ae)] at h1;exact .inr ⟨h1,h2⟩
  ·refine .inl ?_;have:=n_2 h2;simpa using this
 refine ⟨⟨by show (M.pl++[q]).length=_;simp [hr.len],hr.blk,fun k p ob h1 h2=>?_,fun k k' p p' ob aN h1 dD h2 dw hl bJ hb=>?_,fun g cells hg=>(hr.glob g cells hg).mono hx,hr.kep,fun k p ob h1 h2 hl=>?_⟩,hx⟩
 ·rcases aq h1 h2 with rfl | ⟨g1,g2⟩
  ·exact ⟨tt,tt⟩
  ·obtain ⟨o1,o2⟩:=hr.obj k p ob g1 g2;exact ⟨o1.mono hx rfl (fun _ _ _ _ h=>h),by cases ob<;>exact o2⟩
 ·rcases aq h1 h2 with rfl | ⟨g1,g2⟩
  ·cases hl
  ·rcases aq dD dw with rfl | ⟨g1',g2'⟩
   ·cases bJ
   ·exact hr.inj k k' p p' ob aN g1 g1' g2 g2' hl bJ hb
 ·rcases aq h1 h2 with rfl | ⟨g1,g2⟩
  ·cases hl
  ·exact hr.nk k p ob g1 g2 hl
theorem F4 {p:Nat} {ti:TypeInfo} (ho:o.op = .call { callee:=.builtin .append,args:=#[x,y],argTypes:=#[t,t]}) (hx:E.valid x) (hy:E.valid y) (ex:E.val C x = .list V (gnn m) (G9 m p)) (hm:m=V.length)
 (aR:∀ M w v,Rel C M σ w->RV M w (E.val C y) v->Src C M w new s v) (hu:∀ w,(underlying t).run C.P w = .ok (.slice e) w) (hs:∀ w,(sizeOf e).run C.P w = .ok s w) (df:∀ w,(typeInfo e).run C.P w = .ok ti w) (hz:∀ w,(zeroValue e).run C.P w = .ok z w) (cc:z.cells.size=s)
 (bT:(m=0/\σ.set p .dead=σ)\/σ[p]? = some (r7 m)) (bb:∀ r∈V,r.length=s) (hb:(V.length+new.length)*ti.bytes<=140737488355328) (bn:V.length+new.length<=9223372036854775807) (av:List (List CV)) (m':Nat) (he:V++new=av) (hm':V.length+new.length=m')
 (hk:K (.ret (.list av (gnn m') (G9 m' σ.length))) (σ.set p .dead++[r7 m'])):H4 C σ E o K:=by
 subst hm he hm'
 rcases new with _ | ⟨r1,new⟩
 ·
  intro M w ρ hr hh;have h1:=hh x H9 hx;have h2:=hh y H9 hy;rw [ex] at h1;have eR:=aR M w _ hr h2;have aj:=eR.lenOf;obtain ⟨a,cap,b,off,s',vals,hv,bk,dG,fq,dM,ha,cE,aP,hc,bo,cl⟩:=h1.list_inv;obtain ⟨_,_,_,_,_,ak,cy,bg,_⟩:=eR;have bz:(execOp ρ o).run C.P w=((Builtin.append_ #[t,t] o.type #[ρ x,ρ y]).run C.P w).andThen fun v w=>.ok (.value v) w:=by
   simp [execOp,ho,resolve,invoke,builtin]
  have aw:(execOp ρ o).run C.P w = .ok (.value (.slice a V.length cap)) w:=by
   rw [bz,hv,a8P hu hs (sp_ aj) (sp_ cy) (sp_ bg) bk];rfl
  rw [aw];simp only [a1d,I3,a7l] at hk
  rcases V with _ | ⟨r0,V⟩
  ·obtain ⟨aI,bc⟩:=(hr.dead p).addDead ⟨0,0,0⟩;exact ⟨_,_,_,bc,aI,by simpa [gnn,G9,hv] using h1.mono bc,hk⟩
  ·have ia:σ[p]? = some (.tip (r0::V).length):=by
    rcases bT with h | h
    ·simp at h
    ·exact h
   obtain ⟨sz,hp,ha0,fJ,aF⟩:=cl p rfl;obtain ⟨bc,aI⟩:=hr.tipNew (m:=(r0::V).length) hp ia (n_6 _) bk;refine ⟨_,_,_,bc,aI,?_,hk⟩;have hl:=h1.mono bc;rw [hv] at hl;obtain ⟨a',cap',b',off',s'',fh,fW,q1,q2,q3,q4,q5,q6,q7,q8,q9,q10⟩:=hl.list_inv;injection fW with e1 e2 e3
   subst e1 e3;refine RV.list' (L:=(r0::V).length) rfl fh q1 q2 (by rw [q3]) (fun h=>by cases h) q5 q6 q7 q8 q9 (fun k' aH=>?_);obtain ⟨s3,g1,g2,g3,g4⟩:=q10 p rfl;injection aH with aH
   subst aH;refine ⟨s3,?_,g2,g3,g4⟩;have e4:=bc.get hp;rw [g1] at e4;rw [e4];simp [A5.add,<- hr.len]
 ·rcases V with _ | ⟨r,V⟩
  ·have e:σ.set p .dead=σ:=by
    rcases bT with h | h
    ·exact h.2
    ·refine b8A fun i=>?_;rw [b1k]
     split
     ·rename_i h';subst h';rw [n_1 (n_3.1 h).1,h];rfl
     ·rfl
   rw [e] at hk;exact b6c ho hx hy ex aR hu hs df hz cc (.inl ⟨rfl,rfl,rfl⟩) bb si_ hb bn (by simpa [kill,gnn,G9,r7] using hk)
  ·have ia:σ[p]? = some (.tip (r::V).length):=by
    rcases bT with h | h
    ·simp at h
    ·exact h
   exact b6c ho hx hy ex aR hu hs df hz cc (.inr ⟨si_,p,rfl,ia⟩) bb si_ hb bn hk
end
section
theorem b2y (ho:o.op = .nilCheck x) (hx:E.valid x) (ex:E.val C x = .ptr k off):l9 C σ E o (.ptr k off) :=
 i7 fun M w ρ _ h=>by
  have h1:=h x w9 hx;rw [ex] at h1;generalize eD:ρ x=u at h1;cases h1 with
  | ptr hp=>exact ⟨_,by simp [execOp,ho,eD],.ptr hp⟩
end
end Go.Cl
namespace Go.Cl
open Go Go.ChangeShapes Go.WideShapes Go.RowKit Go.ChangeAt
variable {w:World} {v:Value} {cs:List Value}
def a0r (w:World):A5:={ pl:=[],full:=fun b=>b < w.heap.size,cell:=fun _ _=>False,keep:=fun b=>b < w.heap.size}
theorem a7i {a:Addr} (h:w.cell? a=some v):a.block < w.heap.size/\a.spot=none:=by
 unfold World.cell? at h;split at h
 ·rename_i hw;refine ⟨(a1z.1 hw).1,?_⟩;cases hs:a.spot with
  | none=>rfl
  | some s=>rw [hs] at h;simp at h
 ·cases h
theorem a77 {a:Addr} {k:Nat} (h:w.cell? (a.add k)=some v):a.add k=⟨a.block,a.off+k,none⟩:=by
 have hs:=(a7i h).2;unfold Addr.add at hs ⊢;by_cases hk:k=0
 ·rw [n_1 hk] at hs ⊢;subst hk;cases a;simp at hs;subst hs;rfl
 ·rw [n_0 hk]
theorem c73 {a:Addr} (h:w.cell? a=some v) (o:Nat):(a0r w).at a.block o:=.inl (a7i h).1
theorem c25 {C:Ctx} (hg:∀ g cells,C.glob g=some cells->GV (a0r w) w cells g):Rel C (a0r w) [] w:=by
 refine ⟨rfl,fun b o h=>?_,fun k p ob h=>?_,fun k k' p p' ob aN h=>?_,hg,fun b h=>h,fun k p ob h=>?_⟩
 ·rcases h with h | h
  ·exact h
  ·exact h.elim
 all_goals simp [a0r] at h
theorem b3w {w':World} {M':A5} (h:Ext (a0r w) w M' w'):Below w.heap.size w w' :=
 ⟨h.os,h.tape,h.output,h.size,fun k hk=>h.same k hk⟩
theorem a8T {C:Ctx} {f:FuncId} {cvs:List CV} {W:World} {args:Array Value} {u:Value}
 (hg:∀ g cells,C.glob g=some cells->GV (a0r W) W cells g)
 (hn:args.size=cvs.length) (ha:∀ (i:Nat) (c:CV),cvs[i]? = some c->RV (a0r W) W c (args.getD i undef))
 (h:b8 C f cvs [] fun r Y=>r = .ret (.val u)/\Y=[]):Calls C.P f args W fun e W'=>e = .returned u/\Below W.heap.size W W':=by
 refine (h (a0r W) W args (c25 hg) hn ha).mono fun e W' he=>?_;cases e with
 | returned v =>
  obtain ⟨c,Y,M',h1,h2,h3,h4,h5⟩:=he;cases h4;cases h3;exact ⟨rfl,b3w h1⟩
 | panicked ch =>
  obtain ⟨c,v,Y,M',-,-,-,-,h4,-⟩:=he;cases h4
 | outgrown=>exact he.elim
structure RCs (w:World) (row:List CV) (cs:List Value):Prop where
 len:row.length=cs.length
 one:∀ c∈row,c.one=true
 rv:∀ (j:Nat) (c:CV),row[j]? = some c->RV (a0r w) w c (cs.getD j undef)
theorem RCs.nil:RCs w [] []:=⟨rfl,fun c h=>by simp at h,fun j c h=>by simp at h⟩
theorem RCs.cons {c:CV} {row:List CV} (h1:c.one=true) (h2:RV (a0r w) w c v) (h:RCs w row cs):RCs w (c::row) (v::cs):=by
 refine ⟨by simp [h.len],fun x hx=>?_,fun j x hj=>?_⟩
 ·rcases P0.1 hx with rfl | hx
  ·exact h1
  ·exact h.one x hx
 ·rcases j with _ | j
  ·simp at hj;subst hj;simpa using h2
  ·simpa using h.rv j x (sp_ hj)
theorem RCs.val {row:List CV} (h1:v.oneCell'=true) (h:RCs w row cs):RCs w (.val v::row) (v::cs):=h.cons h1 (.val v)
section
variable {H:Type} {enc:TypeId × Value->H} {P:Program} {base:Nat} {spare:Nat->Bool} {held:Bool}
theorem c8i {α:Type} [Inhabited α] (f:α->List CV) (Q:α->Prop) {t e:TypeId} {fuel:Nat} {x:DataW H × List MemPlace} (ht:P.underlying t=some (.slice e)) {s:Nat} (hs:P.cellsOf e=s) (h0:0 < s)
 (fy:∀ (n:Nat) (cs:List Value) (y:DataW H × List MemPlace),DataW.trod enc P w base spare held n e cs=some y->∃ a,Q a/\RCs w (f a) cs)
 (h:DataW.trod enc P w base spare held fuel t cs=some x) :
 ∃ (l:List α) (nn:Bool) (v:Value),cs=[v]/\RV (a0r w) w (.list (l.map f) nn none) v/\l.length<=maxLen/\(∀ a∈l,Q a)/\(nn=false->l=[]):=by
 rcases DataW.trod_slice ht h with ⟨rfl,-⟩ | ⟨a,len,cap,elems,rest,n,-,rfl,-,hb,hl,hm,aj,hE,-,-⟩
 ·exact ⟨[],false,_,rfl,.list (b:=0) (off:=0) (s:=s) (fun _ _=>undef) (n_6 _) (n_5 _) rfl a1N (fun h=>by simp at h) (fun r hr=>by simp at hr) (fun r hr=>by simp at hr) (fun i j r c hi=>by simp at hi) (fun i j r c hi=>by simp at hi) (fun k hk=>by cases hk),n_5 _,fun a ha=>by simp at ha,fun _=>rfl⟩
 ·have key:∀ i:Nat,i < len->∃ (a':α) (aX:List Value),Q a'/\RCs w (f a') aX/\aX.length=s/\∀ j,j < s->w.cell? (a.add (i*s+j))=some (aX.getD j undef):=by
   intro i hi;have h1:=hE i hi;have h2:elems[i]? = some (elems[i]'om_):=a1u om_;rw [h2,c6Q] at h1;obtain ⟨aX,hc,hy⟩:=h1;obtain ⟨a',hQ,hR⟩:=fy _ _ _ hy;obtain ⟨-,cr,aV⟩:=World.cells?_some hc;rw [hs] at cr aV;refine ⟨a',aX,hQ,hR,cr,fun j hj=>?_⟩;have:=aV j hj;rw [a1u om_] at this;rw [a5m,a1u om_];rw [<- Go.Deep.add_add,this];rfl
  have du:∃ F:Nat->α,∃ G:Nat->List Value,∀ i,i < len->Q (F i)/\RCs w (f (F i)) (G i)/\(G i).length=s/\∀ j,j < s->w.cell? (a.add (i*s+j))=some ((G i).getD j undef):=by
   classical
   by_cases hlz:len=0
   ·subst hlz;exact ⟨fun _=>default,fun _=>[],fun i hi=>absurd hi (Nat.not_lt_zero _)⟩
   ·obtain ⟨a0,-⟩:=key 0 om_;have:∀ i:Nat,∃ p:α × List Value,i < len->Q p.1/\RCs w (f p.1) p.2/\p.2.length=s/\∀ j,j < s->w.cell? (a.add (i*s+j))=some (p.2.getD j undef):=fun i=>by
     by_cases hi:i < len
     ·obtain ⟨a',aX,h⟩:=key i hi;exact ⟨(a',aX),fun _=>h⟩
     ·exact ⟨(a0,[]),fun h=>absurd h hi⟩
    exact ⟨fun i=>(Classical.choose (this i)).1,fun i=>(Classical.choose (this i)).2,fun i hi=>Classical.choose_spec (this i) hi⟩
  obtain ⟨F,G,hF⟩:=du;have cm:∀ (i:Nat) (r:List CV),(((List.range len).map F).map f)[i]? = some r->i < len/\r=f (F i):=fun i r hi=>by
   rw [List.map_map,Q0] at hi
   rcases a3c i len with h | h
   ·rw [List.getElem?_range h] at hi;exact ⟨h,(Option.some.inj hi).symm⟩
   ·rw [b7p (sp_ h)] at hi;cases hi
  have bu:∀ r∈((List.range len).map F).map f,∃ i,i < len/\r=f (F i):=fun r hr=>by
   obtain ⟨i,hi⟩:=L7.1 hr;exact ⟨i,cm i r hi⟩
  have cJ:(((List.range len).map F).map f).length=len:=by simp
  refine ⟨(List.range len).map F,true,_,rfl,?_,by simp;omega,fun x hx=>?_,fun h=>by cases h⟩
  ·have:=RV.list (M:=a0r w) (w:=w) (V:=((List.range len).map F).map f) (nn:=true) (tok:=none) (a:=some a) (cap:=cap) (b:=a.block) (off:=a.off) (s:=s) (fun i j=>(G i).getD j undef)
    (by rw [cJ];exact hl) hm rfl (fun h=>by cases h) (fun aC=>?_) (fun r hr=>?_) (fun r hr=>?_) (fun i j r c hi hj=>?_) (fun i j r c hi hj=>?_) (fun k hk=>by cases hk)
   ·rw [cJ] at this;exact this
   ·rcases b1h len with hz | hz
    ·subst hz;exact absurd rfl aC
    ·have:=(hF 0 hz).2.2.2 0 h0;have:=a77 this;simpa [Addr.add] using this
   ·obtain ⟨i,hi,rfl⟩:=bu r hr;rw [(hF i hi).2.1.len,(hF i hi).2.2.1]
   ·obtain ⟨i,hi,rfl⟩:=bu r hr;exact (hF i hi).2.1.one
   ·obtain ⟨aY,rfl⟩:=cm i r hi;have hjs:j < s:=by
     have:=(n_3.1 hj).1;rw [(hF i aY).2.1.len,(hF i aY).2.2.1] at this;exact this
    have hc:=(hF i aY).2.2.2 j hjs;rw [a77 hc,<- a8W] at hc;exact ⟨c73 hc _,hc⟩
   ·obtain ⟨aY,rfl⟩:=cm i r hi;exact (hF i aY).2.1.rv j c hj
  ·obtain ⟨i,hi,rfl⟩:=I9.1 hx;exact (hF i (sp_ hi)).1
end
theorem a5F {H:Type} {enc:TypeId × Value->H} {P:Program} (hl:laidOutB P=true) {W W':World} (hb:Below W.heap.size W W') {sp:Nat->Bool}:∀ {ts:List TypeId} {vs:List Value} {ds:List (DataW H)} {ps:List MemPlace},(∀ t∈ts,P.readableRec t=true/\t < P.types.size)->DataW.TrodAll enc P W 0 (fun _=>true) true ts vs ds ps->(∀ p∈ps,p.block < W.heap.size)->(∀ p∈ps,sp p.block=true)->DataW.TrodAll enc P W' 0 sp true ts vs ds ps
 | [],[],[],_,_,h,_,_=>h
 | t::ts,v::vs,d::ds,ps,hr,h,ae,af=>by
  obtain ⟨p,q,h1,h2,rfl⟩:=h;exact ⟨p,q,WideElems.Trod_stays hl (hr t si_).1 (hr t si_).2 h1 (fun x hx=>hb.same (ae x (by simp [hx]))) (fun x hx=>af x (by simp [hx])),
   a5F hl hb (fun t ht=>hr t (by simp [ht])) h2 (fun x hx=>ae x (by simp [hx])) (fun x hx=>af x (by simp [hx])),rfl⟩
 | [],_::_,_,_,_,h,_,_=>h.elim
 | [],[],_::_,_,_,h,_,_=>h.elim
 | _::_,[],_,_,_,h,_,_=>h.elim
 | _::_,_::_,[],_,_,h,_,_=>h.elim
theorem c7v {P:Program} {ts:List TypeId} (h:(ts.all fun t=>P.readableRec t && decide (t < P.types.size))=true):∀ t∈ts,P.readableRec t=true/\t < P.types.size:=fun t ht=>by
 have:=a5p.1 h t ht;simpa using this
theorem b9m {H:Type} {enc:TypeId × Value->H} {P:Program} {f:Func} {s:ChangeSpec} {apart ib eG ic:Bool} {W W':World} {args:Array Value} {ds gs:List (DataW H)} {bG pa pv:List MemPlace}
 (hW:DataW.Whole enc P f.params.toList s.vars apart W args.toList ds gs bG)
 (dS:∀ (b:Nat) (sp:Nat->Bool) (hd:Bool),DataW.TrodAll enc P W' b sp hd f.resultTypes.toList (v.resultList f.resultTypes.size) (s.fn H (ds++gs)).results [])
 (ap:∀ sp:Nat->Bool,(∀ p∈bG,sp p.block=true)->DataW.TrodAll enc P W' 0 sp true f.params.toList args.toList (s.fn H (ds++gs)).args pa)
 (hvars:∀ sp:Nat->Bool,(∀ p∈bG,sp p.block=true)->DataW.TrodVars enc P W' sp s.vars (s.fn H (ds++gs)).vars pv)
 (co:bG=pa++pv) (hb:Below W.heap.size W W')
 (bd:∀ (j:Nat) (t:TypeId) (r:Value),f.resultTypes[j]? = some t->(v.resultList f.resultTypes.size)[j]? = some r->Value.okWide P W' .any 0 t r) :
 s.post enc P f apart ib eG ic W args v W':=by
 have ae:∀ p∈bG,p.block < W.heap.size:=fun p hp=>hW.lt p hp;have bM:∀ p∈bG,(fun b=>decide (b < W.heap.size)) p.block=true:=fun p hp=>by simpa using ae p hp
 refine ⟨ds,gs,bG,[],pa,pv,hW,dS _ _ _,ap _ bM,hvars _ bM,World.keptBut_mono (fun p hp=>⟨hp,?_⟩) (hb.frame (·∈bG)),fun _=>?_⟩
 ·rw [co,Y1] at hp;exact Or.inr hp
 ·obtain ⟨_,_,_,_,_,hz,hn⟩:=hW;refine ⟨bd,_,_,([]++pa)++pv,⟨[]++pa,pv,trodAll_append (ap _ (fun _ _=>rfl)) (dS _ _ _),hvars _ (fun _ _=>rfl),rfl,?_,?_⟩,?_⟩
  ·intro b off hp;have bw:MemPlace.cell b off∈bG:=by rw [co];simpa using hp
   rw [hb.frozen (ae _ bw)];exact hz b off bw
  ·intro ha;have:=hn ha;rw [co] at this;simpa using this
  ·intro p hp _;rw [co];simpa using hp
theorem b8j {C:Checked} {os:Os} {f:FuncId} {fn:Func} {s:ChangeSpec} {CX:Ctx} {ie:List (String × DataW Unit)} {H:Type} {enc:TypeId × Value->H} {ib eG ic:Bool} {tb:TypeId} (cK:Array Value) (fuel:Nat) (w0:World)
 (hP:CX.P=C.prog) (own:ownKnob C.prog.godebug=none) (cL:os.Started) (noInit:C.prog.inits.idxOf? f=none) (cy:C.prog.funcs[f]? = some fn)
 (hl:laidOutB C.prog=true) (hread:∀ t∈fn.params.toList,C.prog.readableRec t=true/\t < C.prog.types.size) (hv:s.vars=[])
 (hs:∀ ds:List (DataW H),ds.length=fn.params.size->s.fn H ds={ results:=[.lit (.bool true)],args:=ds})
 (hrt:fn.resultTypes = #[tb]) (htb:C.prog.underlying tb=some .bool)
 (hg:∀ W,laidMetH C.prog ie W->∀ g cells,CX.glob g=some cells->GV (a0r W) W cells g)
 (hos:w0.os=os) (hsh:(w0.forCall (fun _ _=>0) ⟨#[],cK,[]⟩).Shaped C.prog)
 (bd:Input.okWideB C.prog (w0.forCall (fun _ _=>0) ⟨#[],cK,[]⟩) f ⟨#[],cK,[]⟩=true)
 (bW:s.preB enc C.prog fn [] false (w0.forCall (fun _ _=>0) ⟨#[],cK,[]⟩).memory cK fuel=true)
 (aF:s.sizedB enc C.prog fn false (w0.forCall (fun _ _=>0) ⟨#[],cK,[]⟩).memory cK fuel=true)
 (hx:laidMetH C.prog ie (w0.forCall (fun _ _=>0) ⟨#[],cK,[]⟩).memory)
 (walk:∀ (W:World) (base:Nat) (args:Array Value) (ds:List (DataW H)) (ps:List MemPlace),(∀ (j:Nat) t v,fn.params[j]? = some t->args[j]? = some v->Value.okWide C.prog W .any base t v) ->
  DataW.TrodAll enc C.prog W 0 (fun _=>true) true fn.params.toList args.toList ds ps ->
  ∃ cvs:List CV,args.size=cvs.length/\(∀ (i:Nat) (c:CV),cvs[i]? = some c->RV (a0r W) W c (args.getD i undef))/\b8 CX f cvs [] fun r Y=>r = .ret (.val (.bool true))/\Y=[]) :
 ReturnsInHanded {} C os f .any (fun w args=>(s.pre enc C.prog fn [] false w args/\laidMetH C.prog ie w)/\sizedMet enc C.prog fn (OpenSpec.ofChange s) false w args) (s.post enc C.prog fn false ib eG ic):=by
 refine returnsInHanded_of_change_and (C:=C) (X:=fun w _=>laidMetH C.prog ie w) (fun _ _ _ hh h=>h.of_heap hh) own cL noInit cy
  (ChangeSpec.witness_shaped (enc:=enc) (C:=C) (os:=os) (X:=fun w _=>laidMetH C.prog ie w) false w0 cK fuel hos hsh bd bW aF hx) ?_
 intro W base args ds gs bG bL hW _ _ hL _;have hW':=hW;obtain ⟨p,q,hA,hV,rfl,-,-⟩:=hW;rw [hv] at hV;have hgs:gs=[]/\q=[]:=by
  cases gs with
  | nil=>exact ⟨rfl,hV⟩
  | cons g r=>exact hV.elim
 obtain ⟨rfl,rfl⟩:=hgs;obtain ⟨cvs,h1,h2,h3⟩:=walk W base args ds p bL hA;have fi:ds.length=fn.params.size:=by
  have:∀ {ts:List TypeId} {vs:List Value} {ds:List (DataW H)} {ps:List MemPlace},DataW.TrodAll enc C.prog W 0 (fun _=>true) true ts vs ds ps->ds.length=ts.length:=by
   intro ts
   induction ts with
   | nil=>intro vs ds ps h;obtain ⟨-,rfl,-⟩:=trodAll_nil h;rfl
   | cons t ts ih=>intro vs ds ps h;obtain ⟨v,vs1,d,ds1,a,b,-,rfl,-,-,h2⟩:=trodAll_cons h;simp [ih h2]
  simpa using this hA
 have hsd:=hs (ds++[]) (sp_ fi);have hc:=a8T (hg W hL) h1 h2 h3;rw [hP] at hc;refine hc.mono fun e W' ⟨he,hb⟩=>⟨_,he,?_⟩;refine b9m (pa:=p) (pv:=[]) hW' (fun b sp hd=>?_) (fun sp af=>?_) (fun sp _=>?_) rfl hb ?_
 ·rw [hsd,hrt];exact trodAll_mk1 (shut_bool htb _)
 ·rw [hsd];have ae:∀ x∈p,x.block < W.heap.size:=fun x hx=>hW'.lt x (by simp [hx]);simpa using a5F hl hb hread hA ae fun x hx=>af x (by simp [hx])
 ·rw [hsd,hv];rfl
 ·exact ok_one hrt rfl (okWide_bool_mk htb _)
end Go.Cl
namespace Go.Cl
variable {x y:Operand} {ts:Array TypeId} {a b:Int}
section
variable {C:Ctx} {E:Env} {σ:List b9} {o:Oper}
theorem c6N {k:IntKind} (ho:o.op = .call { callee:=.builtin .max,args:=#[x,y],argTypes:=ts}) (hx:E.valid x) (hy:E.valid y) (ex:E.val C x = .val (.int k a)) (ey:E.val C y = .val (.int k b)):l9 C σ E o (.val (.int k (max a b))) :=
 i7 fun M w ρ _ h=>by
  have h1:=h x H9 hx;have h2:=h y H9 hy;rw [ex] at h1;rw [ey] at h2;refine ⟨.int k (max a b),?_,.val _⟩;simp [execOp,ho,resolve,invoke,builtin,r6 h1,r6 h2,Go.Lib.run_max_ints]
end
section
variable {C:Ctx} {E:Env} {σ:List b9} {o:Oper}
theorem c9v {t e:TypeId} {s:Nat} {new:List (List CV)} {ti:TypeInfo} {z:Value} {K:Q9->List b9->Prop} (m':Nat) (ho:o.op = .call { callee:=.builtin .append,args:=#[x,y],argTypes:=#[t,t]}) (hx:E.valid x) (hy:E.valid y) (ex:E.val C x = .list [] false none)
 (aR:∀ M w v,Rel C M σ w->RV M w (E.val C y) v->Src C M w new s v) (hu:∀ w,(underlying t).run C.P w = .ok (.slice e) w) (hs:∀ w,(sizeOf e).run C.P w = .ok s w) (df:∀ w,(typeInfo e).run C.P w = .ok ti w) (hz:∀ w,(zeroValue e).run C.P w = .ok z w) (cc:z.cells.size=s)
 (dr:0 < new.length) (hb:new.length*ti.bytes<=140737488355328) (bn:new.length<=9223372036854775807) (hm:new.length=m')
 (hk:K (.ret (.vec σ.length 0 m')) (σ++[.vec s new])):H4 C σ E o K:=fun M w ρ hr hh=>by
 subst hm;have h1:=hh x H9 hx;have h2:=hh y H9 hy;rw [ex] at h1;have aj:=(aR M w _ hr h2).lenOf;have bz:(execOp ρ o).run C.P w=((Builtin.append_ #[t,t] o.type #[ρ x,ρ y]).run C.P w).andThen fun v w=>.ok (.value v) w:=by
  simp [execOp,ho,resolve,invoke,builtin]
 have h1i:=h1;obtain ⟨a,cap,b,off,s',vals,hv,bk,dG,fq,dM,-,-,-,-,-,-⟩:=h1i.list_inv;have ee:=dM rfl;subst ee;obtain ⟨eS,hxd⟩:=hr.drewN;have fc:=a13 (C:=C) (s:=s) (a7d h1) (fun r hr=>by simp at hr);rw [hv] at fc;obtain ⟨a1,c1,dC,_,bb,old,hfo,fe,fG⟩:=fc;obtain ⟨an,cn,hvn,_,cw,ak,cy,bg,bN⟩:=aR M w.drew _ eS (a7d h2);obtain ⟨c',cH,db,aw⟩:=a0t (P:=C.P) (ty:=o.type) (a:=a) (c:=0) (w:=w) (n:=([]:List (List CV)).length) (m:=new.length) hu (.inl hu) hs df hz aj hfo cy Q7 (sp_ bn) (sp_ hb);rw [bz,hv,aw];simp only [Result.andThen_ok];have gY:w.drew.heap.size=w.heap.size:=rfl;rw [<- gY];have fH:(old++ak++Builtin.zeroCells z.cells (c' - (([]:List (List CV)).length+new.length))).size=c'*s:=by
  simp only [c0E,a1Q,fe,bg,cc];rw [<- R3,<- R3]
  congr 1;omega
 have aK:=Ext.alloc eS ⟨w.drew.heap.size,c',s⟩ (.cells (old++ak++Builtin.zeroCells z.cells (c' - (([]:List (List CV)).length+new.length))) e);have aq:=a4N (rest:=Builtin.zeroCells z.cells (c' - (([]:List (List CV)).length+new.length))) fe bg bb cw (fun i j r c hi hj=>(fG i j r c hi hj).1) (fun i j r c hi hj=>(bN i j r c hi hj).1);have bm:=eS.alloc ⟨w.drew.heap.size,c',s⟩ (.cells (old++ak++Builtin.zeroCells z.cells (c' - (([]:List (List CV)).length+new.length))) e) (.vec s ([]++new)) rfl
  ⟨rfl,sp_ cH,by unfold maxLen;simp only;omega,sp_ cw,fun r hr c hc=>(by
   obtain ⟨i,hi⟩:=L7.1 (by simpa using hr:r∈new);obtain ⟨j,hj⟩:=L7.1 hc;exact (bN i j r c hi hj).2),_,e,A4 _ _,fH,fun i j r c hi hj=>((aq i j r c hi hj).2.mono aK)⟩
 refine ⟨.vec σ.length 0 new.length,_,_,hxd.trans aK,bm,?_,hk⟩;have:=RV.vec (M:=M.add ⟨w.drew.heap.size,c',s⟩) (w:=w.drew.alloc (.cells (old++ak++Builtin.zeroCells z.cells (c' - (([]:List (List CV)).length+new.length))) e)) (k:=σ.length) (off:=0) (len:=new.length) (p:=⟨w.drew.heap.size,c',s⟩) (a:=⟨w.drew.heap.size,0,none⟩) b0W (sp_ cH) (by unfold maxLen;simp only;omega) (fun _=>by simp);simpa using this
end
inductive ClO (n:Nat) (σ:List b9):b9->b9->Prop where
 | dead {ob:b9}:ClO n σ ob .dead
 | same {ob:b9}:J0 n ob->ClO n σ ob ob
 | box {t0:Option TypeId} {cells bQ:List CV}:a54 n σ cells bQ->ClO n σ (.boxT t0 cells) (.boxT t0 bQ)
def a8Q (n:Nat) (σ:List b9):List b9->List b9->Prop
 | _,[]=>True
 | a::l,b::l'=>ClO n σ a b/\a8Q n σ l l'
 | [],_::_=>False
theorem a8Q.get {n:Nat} {σ:List b9}:∀ {l l':List b9},a8Q n σ l l'->l'.length<=l.length/\∀ (k:Nat) (b:b9),l'[k]? = some b->∃ a,l[k]? = some a/\ClO n σ a b
 | _,[],_=>⟨n_5 _,fun k b h=>by simp at h⟩
 | a::l,b::l',⟨h1,h⟩=>by
  obtain ⟨g1,g2⟩:=h.get;refine ⟨Nat.succ_le_succ g1,fun k b hk=>?_⟩
  rcases k with _ | k
  ·simp at hk;subst hk;exact ⟨a,rfl,h1⟩
  ·exact g2 k b (sp_ hk)
theorem Rel.cutCls {C:Ctx} (hC:C.plain) {M:A5} {σ S:List b9} {w:World} (hr:Rel C M σ w) (hS:a8Q S.length σ σ S) :
 Rel C (M.cutAt S.length σ) S w/\Cut S.length M (M.cutAt S.length σ)/\∀ M0 w0,Ext M0 w0 M w->M0.pl.length<=S.length->Ext M0 w0 (M.cutAt S.length σ) w:=by
 obtain ⟨aJ,gc⟩:=hS.get;have aM:Cut S.length M (M.cutAt S.length σ):=⟨rfl,fun _ h=>.inl h,fun _ _ h=>.inr h⟩;have hZ:∀ (k:Nat) (p:Pl) (s:Nat) (V:List (List CV)),S.length<=k->M.pl[k]? = some p->σ[k]? = some (.vec s V)->(M.cutAt S.length σ).full p.block:=fun k p s V hk hp ao=>.inr ⟨k,p,_,hk,hp,ao,rfl,rfl⟩;have aq:∀ {k:Nat} {p:Pl},(M.cutAt S.length σ).pl[k]? = some p->k < S.length/\M.pl[k]? = some p:=by
  intro k p hk;have hk:(M.pl.take S.length)[k]? = some p:=hk;rw [a2I] at hk;split at hk
  ·exact ⟨‹_›,hk⟩
  ·cases hk
 have aj:S.length<=M.pl.length:=by rw [hr.len];exact aJ
 have bV:∀ {a b:b9},ClO S.length σ a b->b.live=true->a.live=true:=by
  intro a b h hl;cases h with
  | dead=>cases hl
  | same _=>exact hl
  | box _=>rfl
 refine ⟨⟨by show (M.pl.take S.length).length=_;simp;omega,fun b o ha=>?_,fun k p ob hk hs=>?_,fun k k' p p' ob aN hk aH hs aQ da cT hb=>?_,fun g cells hg=>?_,hr.kep,fun k p ob hk hs bS=>?_⟩,aM,fun M0 w0 hx aJ=>?_⟩
 ·rcases ha with (ha | ⟨k,p,ob,_,hp,hs,hl,rfl⟩) | ha
  ·exact hr.blk b o (.inl ha)
  ·exact (hr.obj k p ob hp hs).1.lt hl
  ·exact hr.blk b o (.inr ha)
 ·obtain ⟨ae,hp⟩:=aq hk;obtain ⟨a,ha,cM⟩:=gc k ob hs;obtain ⟨h1,h2⟩:=hr.obj k p a hp ha;have fK:a.live=true->¬ M.full p.block->¬ (M.cutAt S.length σ).full p.block:=fun bS fK h=>by
   rcases h with h | ⟨k',p',aN,aH,aG,aQ,bJ,hb⟩
   ·exact fK h
   ·have:=hr.inj k' k p' p aN a aG hp aQ ha bJ bS hb;omega
  cases cM with
  | dead=>exact ⟨tt,tt⟩
  | same ho =>
   refine ⟨?_,?_⟩
   ·cases ob with
    | dead=>trivial
    | boxT t0 cells =>
     obtain ⟨ak,ty,e1,e2,e3,e4⟩:=h1;exact ⟨ak,ty,e1,e2,e3,fun i c hi=>(e4 i c hi).cut aM (ho c (n_2 hi))⟩
    | tipT t0 m=>exact h1
    | blk o=>exact h1
    | lp o n cs =>
     obtain ⟨tm,e1,e2,e3⟩:=h1;exact ⟨tm,e1,e2,fun x hi=>(e3 x hi).cut aM (ho x hi)⟩
    | vec s V =>
     obtain ⟨e0,e1,e2,e3,e4,ak,ty,e5,e6,e7⟩:=h1;exact ⟨e0,e1,e2,e3,e4,ak,ty,e5,e6,fun i j r c hi hj=>(e7 i j r c hi hj).cut aM (ho r (n_2 hi) c (n_2 hj))⟩
    | map es =>
     obtain ⟨ab,ai,e1,e2,e3⟩:=h1;refine ⟨ab,ai,e1,e2,fun i x hi=>?_⟩;obtain ⟨e,g1,g2,g3,g4⟩:=e3 i x hi;have:=ho x (n_2 hi);exact ⟨e,g1,g2.cut aM this.1,g3.cut aM this.2,g4⟩
    | iter aD es =>
     obtain ⟨mb,seen,bB,ab,ai,e1,e2,e3,e4,e5,e6,e7,e8,e9⟩:=h1;refine ⟨mb,seen,bB,ab,ai,e1,aM.full _ e2,e3,e4,e5,e6,e7,fun i x hi=>?_,fun i x hi=>?_⟩
     ·obtain ⟨e,g1,g2,g3⟩:=e8 i x hi;have:=ho.2 x (n_2 hi);exact ⟨e,g1,g2.cut aM this.1,g3.cut aM this.2⟩
     ·obtain ⟨hl,j,e,g0,g1,g2,g3⟩:=e9 i x hi;have:=ho.1 x (n_2 hi);exact ⟨hl,j,e,g0,g1,g2.cut aM this.1,g3.cut aM this.2⟩
   ·cases ob with
    | dead=>trivial
    | tipT t0 m=>exact fK rfl h2
    | _=>exact ⟨fK rfl h2.1,h2.2⟩
  | box hc =>
   obtain ⟨cr,hcg⟩:=hc.get;obtain ⟨ak,ty,e1,e2,e3,e4⟩:=h1;refine ⟨⟨ak,ty,e1,by rw [e2,cr],fun c hm=>?_,fun i c' hi=>?_⟩,fK rfl h2.1,h2.2⟩
   ·obtain ⟨i,hi⟩:=L7.1 hm;obtain ⟨y,hy⟩:=p9 cr hi;exact (hcg i y c hy hi).one (e3 y (n_2 hy))
   ·obtain ⟨y,hy⟩:=p9 cr hi;exact RV.close hr aM hZ (hcg i y c' hy hi) (e4 i y hy)
 ·obtain ⟨a,ha,cM⟩:=gc k ob hs;obtain ⟨a',cu,hab'⟩:=gc k' aN aQ;exact hr.inj k k' p p' a a' (aq hk).2 (aq aH).2 ha cu (bV cM da) (bV hab' cT) hb
 ·refine ⟨?_,aM.full _ (hr.glob g cells hg).full,(hr.glob g cells hg).sz⟩;exact (hr.glob g cells hg).rv.cut aM (.cptr fun j c hj=>(hC g cells hg c (n_2 hj)).old)
 ·obtain ⟨a,ha,cM⟩:=gc k ob hs;exact hr.nk k p a (aq hk).2 ha (bV cM bS)
 ·obtain ⟨l,hl⟩:=hx.pl;refine ⟨⟨l.take (S.length - M0.pl.length),?_⟩,fun b h=>.inl (hx.full b h),fun b o h=>aM.at (hx.cell b o h),hx.same,hx.sameC,hx.size,hx.drew,hx.os,hx.tape,hx.output,fun b hb=>?_⟩
  ·show M.pl.take S.length=_;rw [hl,List.take_append,W1 aJ]
  ·obtain ⟨k1,k2,k3,k4⟩:=hx.kept b hb;refine ⟨k1,k2,fun f=>?_,k4⟩
   rcases f with f | ⟨k,p,ob,_,hp,hs,bS,rfl⟩
   ·exact k3 f
   ·exact absurd k1 (hr.nk k p ob hp hs bS)
section
variable {C:Ctx} {n:Nat} {Q:A8->Env->List b9->Prop} {E:Env} {σ:List b9}
end
section
variable {C:Ctx} {E:Env} {σ:List b9} {o:Oper}
theorem a5N {s d:TypeId} {k k0 k':IntKind} (ho:o.op = .convert s d x) (hx:E.valid x) (ex:E.val C x = .val (.int k a)) (hs:∀ w,(underlying s).run C.P w = .ok (.int k0) w) (hd:∀ w,(underlying d).run C.P w = .ok (.int k') w) (hb:k'.wrap a=b):l9 C σ E o (.val (.int k' b)) :=
 i7 fun M w ρ _ h=>by
  have h1:=h x w9 hx;rw [ex] at h1;refine ⟨.int k' b,?_,.val _⟩;simp [execOp,ho,convert,hs,hd,r6 h1,Conv.intToInt,hb]
theorem c92 {f:FuncId} {cx:Operand} {xs:Array Operand} {cargs:List CV} {K:Q9->List b9->Prop} (ho:o.op = .call { callee:=.value cx,args:=xs,argTypes:=ts}) (hc:E.valid cx) (ec:E.val C cx = .val (.func (.func f) #[] #[])) (aA:∀ args w,(callFunc f args).run C.P w = .ok (.enter f args) w)
 (hv:∀ x∈xs.toList,E.valid x) (ea:xs.toList.map (E.val C)=cargs) (h:b8 C f cargs σ K):H4 C σ E o K:=fun M w ρ hr hh=>by
 have hf:=hh cx H9 hc;rw [ec] at hf;have ef:=r6 hf;have aw:(execOp ρ o).run C.P w = .ok (.enter f (xs.map ρ)) w:=by
  simp [execOp,ho,resolve,ef,Deferred.ofValue,invoke,aA]
 rw [aw];refine (h M w (xs.map ρ) hr (by simp [<- ea]) fun i c hi=>?_).mono fun e w' he=>by cases e<;>exact he
 subst ea;simp only [Q0,N0] at hi;obtain ⟨x,hx,rfl⟩:=hi;have aB:xs[i]? = some x:=sp_ hx;have hm:x∈xs:=b32 aB;have:(xs.map ρ).getD i undef=ρ x:=by
  rw [a0k,b8S,aB];rfl
 rw [this];exact hh x (by simp [ho,Op.operands,Call.operands,hm]) (hv x (sp_ hm))
theorem d2o {k:IntKind} (ho:o.op = .call { callee:=.builtin .min,args:=#[x,y],argTypes:=ts}) (hx:E.valid x) (hy:E.valid y) (ex:E.val C x = .val (.int k a)) (ey:E.val C y = .val (.int k b)):l9 C σ E o (.val (.int k (min a b))) :=
 i7 fun M w ρ _ h=>by
  have h1:=h x H9 hx;have h2:=h y H9 hy;rw [ex] at h1;rw [ey] at h2;refine ⟨.int k (min a b),?_,.val _⟩;simp [execOp,ho,resolve,invoke,builtin,r6 h1,r6 h2,Go.Lib.run_min_ints]
end
def a9O:b9->Prop
 | .dead=>True
 | .boxT _ cells=>∀ c∈cells,u0 c
 | _=>False
theorem a9O.rel {M M':A5} {w:World} {p:Pl} {ob:b9} (aV:∀ b o,M.at b o->M'.at b o) (hf:∀ b,M'.full b->M.full b) (cr:∀ b o,M'.cell b o->M.cell b o) (hp:a9O ob) (h:Q3 M w p ob/\a6v M p ob):Q3 M' w p ob/\a6v M' p ob:=by
 cases ob with
 | dead=>exact ⟨tt,tt⟩
 | boxT t0 cells =>
  obtain ⟨⟨ak,ty,e1,e2,e3,e4⟩,g1,g2⟩:=h;exact ⟨⟨ak,ty,e1,e2,e3,fun i c hi=>(e4 i c hi).pure (fun b o ha=>⟨aV b o ha,rfl⟩) (hp c (n_2 hi))⟩,fun hh=>g1 (hf _ hh),fun o hh=>g2 o (cr _ o hh)⟩
 | _=>exact hp.elim
theorem b1C {α:Type} {C:Ctx} {f:FuncId} {args:List CV} {ob:b9} {c:α->CV} {S:α->b9} {P:α->Prop} (hC:C.plain) (ap:∀ a∈args,u0 a) (hc:∀ a,u0 (c a)) (hS:∀ a,a9O (S a)) (hob:a9O ob) (bV:ob.live=true)
 (h:b8 C f (.ptr 0 0::args) [ob] fun r Y=>∃ a,r = .ret (c a)/\Y=[S a]/\P a) (σ:List b9) (q:Nat) (hq:σ[q]? = some ob):b8 C f (.ptr q 0::args) σ fun r Y=>∃ a,r = .ret (c a)/\Y=σ.set q (S a)/\P a:=fun M w vs hr hn hx=>by
 have gW:q < σ.length:=(n_3.1 hq).1;obtain ⟨pq,hpq⟩:∃ p,M.pl[q]? = some p:=⟨M.pl[q]'(by rw [hr.len];exact gW),si_⟩
 let LB:Nat->Prop:=fun b=>∃ (k:Nat) (p:Pl) (aN:b9),k≠q/\M.pl[k]? = some p/\σ[k]? = some aN/\aN.live=true/\p.block=b
 let M0:A5:={ pl:=[pq],full:=M.full,cell:=M.cell,keep:=fun b=>M.keep b\/LB b}
 have aV:∀ b o,M.at b o->M0.at b o/\w.cell? ⟨b,o,none⟩=w.cell? ⟨b,o,none⟩:=fun b o h=>⟨h,rfl⟩;have hLB:∀ b,LB b->b < w.heap.size:=fun b ⟨k,p,aN,_,hp,hs,hl,hb⟩=>hb ▸ (hr.obj k p aN hp hs).1.lt hl;have h0:∀ {k:Nat} {p:Pl},M0.pl[k]? = some p->k=0/\p=pq:=fun {k p} hp=>by
  rcases k with _ | k
  ·exact ⟨rfl,(Option.some.inj hp).symm⟩
  ·simp [M0] at hp
 have h0o:∀ {k:Nat} {x:b9},[ob][k]? = some x->x=ob:=fun {k x} hx=>by
  rcases k with _ | k
  ·exact (Option.some.inj hx).symm
  ·simp at hx
 have bF:Rel C M0 [ob] w:=⟨rfl,hr.blk,fun k p x hp hs=>by
  obtain ⟨rfl,rfl⟩:=h0 hp;obtain rfl:=h0o hs;exact hob.rel (M:=M) (M':=M0) (fun b o h=>h) (fun b h=>h) (fun b o h=>h) (hr.obj q p x hpq hq),fun k k' p p' x x' hp aG _ _ _ _ _=>by
  rw [(h0 hp).1,(h0 aG).1],fun g cells hg=>⟨by
  have:=(hr.glob g cells hg).rv;cases this with
  | cptr vals h1 h2 h3=>exact .cptr vals h1 h2 fun j c hj=>(h3 j c hj).pure aV (hC g cells hg c (n_2 hj)),(hr.glob g cells hg).full,(hr.glob g cells hg).sz⟩,
  fun b hb=>(by
   rcases hb with hb | hb
   ·exact hr.kep b hb
   ·exact hLB b hb),fun k p x hp hs hl hb=>by
  obtain ⟨rfl,rfl⟩:=h0 hp;obtain rfl:=h0o hs
  rcases hb with hb | ⟨k,p',aN,hk,aG,aQ,bJ,hb⟩
  ·exact hr.nk q p x hpq hq hl hb
  ·exact hk (hr.inj k q p' p aN x aG hpq aQ hq bJ hl hb)⟩
 refine (h M0 w vs bF (sp_ hn) fun i a hi=>?_).mono fun e w' he=>?_
 ·rcases i with _ | i
  ·simp at hi;subst hi;have:=hx 0 (.ptr q 0) si_;generalize vs.getD 0 undef=v0 at this ⊢;cases this with
   | ptr hk =>
    rw [hpq] at hk;injection hk with hk
    subst hk;exact .ptr (M:=M0) (k:=0) rfl
  ·simp at hi;exact (hx (i+1) a (sp_ hi)).pure aV (ap a (n_2 hi))
 cases e with
 | panicked ch =>
  obtain ⟨c',v,Y,M',_,_,_,_,⟨a,h5,_⟩⟩:=he;cases h5
 | outgrown=>exact he
 | returned v =>
  obtain ⟨c',Y,M',h1,h2,h3,a,h4,rfl,hP⟩:=he;injection h4 with h4
  subst h4;have aT:M'.pl[0]? = some pq:=h1.get (M:=M0) rfl
  let M2:A5:={ pl:=M.pl,full:=M'.full,cell:=M'.cell,keep:=M.keep}
  have aK:Ext M w M2 w':=⟨⟨[],by simp [M2]⟩,h1.full,h1.cell,h1.same,h1.sameC,h1.size,h1.drew,h1.os,h1.tape,h1.output,fun b hb=>by
   obtain ⟨k1,k2,k3,k4⟩:=h1.kept b (.inl hb);exact ⟨hb,k2,k3,k4⟩⟩
  have hset:∀ {k:Nat} {x:b9},(σ.set q (S a))[k]? = some x->(k=q/\x=S a)\/(k≠q/\σ[k]? = some x):=fun {k x} hk=>by
   rw [b1k] at hk;split at hk
   ·rename_i e;exact .inl ⟨e.symm,(Option.some.inj hk).symm⟩
   ·rename_i e;exact .inr ⟨fun h=>e h.symm,hk⟩
  have bS:∀ {k:Nat} {x:b9},(σ.set q (S a))[k]? = some x->x.live=true->∃ y,σ[k]? = some y/\y.live=true:=fun {k x} hk hl=>by
   rcases hset hk with ⟨rfl,rfl⟩ | ⟨_,h⟩
   ·exact ⟨ob,hq,bV⟩
   ·exact ⟨x,h,hl⟩
  refine ⟨c a,σ.set q (S a),M2,aK,⟨by simp [M2,hr.len],h2.blk,fun k p x hp hs=>?_,fun k k' p p' x x' hp aG hs aQ hl bJ hb=>?_,fun g cells hg=>(hr.glob g cells hg).mono aK,fun b hb=>a97 (hr.kep b hb) h1.size,fun k p x hp hs hl=>?_⟩,h3.pure (M:=M') (M':=M2) (w':=w') (fun b o h=>⟨h,rfl⟩) (hc a),⟨a,rfl,rfl,hP⟩⟩
  ·rcases hset hs with ⟨rfl,rfl⟩ | ⟨hk,hs⟩
   ·have e:p=pq:=by
     have hp:M.pl[k]? = some p:=hp;rw [hpq] at hp;exact (Option.some.inj hp).symm
    subst e;exact (hS a).rel (M:=M') (M':=M2) (fun b o h=>h) (fun b h=>h) (fun b o h=>h) (h2.obj 0 p (S a) aT rfl)
   ·by_cases hl:x.live=true
    ·obtain ⟨k1,k2,k3,k4⟩:=h1.kept p.block (.inr ⟨k,p,x,hk,hp,hs,hl,rfl⟩);obtain ⟨g1,g2⟩:=hr.obj k p x hp hs;refine ⟨g1.mono aK k2 (fun _ _ _ o ho=>k4 o ho),?_⟩;cases x with
     | dead=>trivial
     | tipT t0 n=>exact fun hf=>g2 (k3 hf)
     | _=>exact ⟨fun hf=>g2.1 (k3 hf),fun o ho=>g2.2 o (k4 o ho)⟩
    ·cases x<;>first|exact ⟨tt,tt⟩ | simp [b9.live] at hl
  ·obtain ⟨y,hy,dT⟩:=bS hs hl;obtain ⟨y',hy',hyl'⟩:=bS aQ bJ;exact hr.inj k k' p p' y y' hp aG hy hy' dT hyl' hb
  ·obtain ⟨y,hy,dT⟩:=bS hs hl;exact hr.nk k p y hp hy dT
end Go.Cl
