/- Part 1 of what the claim needs: values without addresses, and what the program's functions do with them. -/
import Derived.WalkKit
import Derived.Below
import Derived.WideKeyArgs
import Derived.ChangeSame
import Derived.ChangeSlices
import Derived.Lib.SmallJoins
import Derived.LaidLaws
import Derived.LaidMore
import Derived.LaidHandle
import Derived.JoinedOf
import Derived.Handed
import Derived.Stop.Joined
import Derived.Lib.MinMax
import Derived.Test.YtlppbmfecjabeaaGreatDoorD0
set_option linter.all false
set_option maxRecDepth 100000
set_option maxHeartbeats 4000000
namespace Go.Cl
variable{w w':World}{a:Act}{ae:Array Oper}{v:Value}{n t j id:Nat}{o:Oper}{l:List Oper}{b av:Bool}{x y:Code}
inductive CV where
 |val (v:Value)
 |agg (cs:List CV)
 |tup (cs:List CV)
 |list (Y:List (List CV)) (nn:Bool) (tok:Option Nat)
 |ptr (k off:Nat)
 |cptr (cells:List CV)
 |eptr (k i off:Nat)
 |vec (k off len:Nat)
 |map (k:Nat)
 |yld (k:Nat)
 |clo (f:FuncId) (cs:List CV)
variable{c:CV}
instance:Inhabited CV:=⟨.val undef⟩
structure Pl where
 block:Nat
 cap:Nat
 size:Nat
structure A5 where
 pl:List Pl
 full:Nat->Prop
 cell:Nat->Nat->Prop
 keep:Nat->Prop
variable{M M':A5}
def A5.at(M:A5)(b o:Nat):Prop:=M.full b\/M.cell b o
def CV.one:CV->Bool
 | .val v=>v.oneCell'
 | .agg _| .tup _=>false
 |_=>true
inductive RV(M:A5)(w:World):CV->Value->Prop where
 |val (v:Value):RV M w (.val v) v
 |agg {cs:List CV} {vs:Array Value}:vs.size=cs.length->(∀c∈cs,c.one=true)->(∀(i:Nat) (c:CV),cs[i]?=some c->RV M w c (vs.getD i undef))->RV M w (.agg cs) (.agg vs)
 |tup {cs:List CV} {vs:Array Value}:vs.size=cs.length->(∀(i:Nat) (c:CV),cs[i]?=some c->RV M w c (vs.getD i undef))->RV M w (.tup cs) (.tuple vs)
 |clo {f:FuncId} {cs:List CV} {vs:Array Value}:vs.size=cs.length->(∀(i:Nat) (c:CV),cs[i]?=some c->RV M w c (vs.getD i undef))->RV M w (.clo f cs) (.func (.func f) #[] vs)
 |list {Y:List (List CV)} {nn:Bool} {tok:Option Nat} {a:Option Addr} {cap b off s:Nat} (vals:Nat->Nat->Value):
  Y.length<=cap->cap<=maxLen->a.isSome=nn->(nn=false->cap=0)->(Y≠[]->a=some ⟨b,off,none⟩) ->
  (∀r∈Y,r.length=s)->(∀r∈Y,∀c∈r,c.one=true) ->
  (∀(i j:Nat) (r:List CV) (c:CV),Y[i]?=some r->r[j]?=some c->M.at b (off+i*s+j)/\w.cell? ⟨b,off+i*s+j,none⟩=some (vals i j)) ->
  (∀(i j:Nat) (r:List CV) (c:CV),Y[i]?=some r->r[j]?=some c->RV M w c (vals i j)) ->
  (∀k,tok=some k->∃s',M.pl[k]?=some ⟨b,cap,s'⟩/\a=some ⟨b,0,none⟩/\off=0/\(Y≠[]->s'=s)) ->
  RV M w (.list Y nn tok) (.slice a Y.length cap)
 |ptr {k off:Nat} {p:Pl}:M.pl[k]?=some p->RV M w (.ptr k off) (.pointer (some ⟨p.block,off,none⟩))
 |cptr {cells:List CV} {b off:Nat} (vals:Nat->Value):(∀c∈cells,c.one=true) ->
  (∀(j:Nat) (c:CV),cells[j]?=some c->M.at b (off+j)/\w.cell? ⟨b,off+j,none⟩=some (vals j)) ->
  (∀(j:Nat) (c:CV),cells[j]?=some c->RV M w c (vals j)) ->
  RV M w (.cptr cells) (.pointer (some ⟨b,off,none⟩))
 |eptr {k i off:Nat} {p:Pl}:M.pl[k]?=some p->RV M w (.eptr k i off) (.pointer (some ⟨p.block,i*p.size+off,none⟩))
 |vec {k off len:Nat} {p:Pl} {a:Addr}:M.pl[k]?=some p->off+len<=p.cap->p.cap<=maxLen->(off<p.cap->a=⟨p.block,off*p.size,none⟩)->RV M w (.vec k off len) (.slice (some a) len (p.cap -off))
 |map {k:Nat} {p:Pl}:M.pl[k]?=some p->RV M w (.map k) (.map (some p.block))
 |yld {k:Nat} {p:Pl}:M.pl[k]?=some p->RV M w (.yld k) (.func (.yield p.block) #[] #[])
theorem R4{a b:Nat}(h:a<=b:=by first|exact n_6 _|exact Nat.le_add_right _ _):a<=b:=h
structure Ext(M:A5)(w:World)(M':A5)(w':World):Prop where
 pl:∃l,M'.pl=M.pl++l
 full:∀b,M.full b->M'.full b
 cell:∀b o,M.cell b o->M'.at b o
 same:∀b,M.full b->w'.heap[b]?=w.heap[b]?
 sameC:∀b o,M.cell b o->w'.cell? ⟨b,o,none⟩=w.cell? ⟨b,o,none⟩
 size:w.heap.size<=w'.heap.size
 drew:w.drawn<=w'.drawn
 os:w'.os=w.os
 tape:w'.tape=w.tape
 output:w'.output=w.output
 kept:∀b,M.keep b->M'.keep b/\w'.heap[b]?=w.heap[b]?/\(M'.full b->M.full b)/\∀o,M'.cell b o->M.cell b o
theorem Ext.refl(M:A5)(w:World):Ext M w M w:=
 ⟨⟨[],Q⟩,λ_ h=>h,λ_ _ h=>.inr h,λ_ _=>O,λ_ _ _=>O,n_6 _,R4,O,O,O,λ_ h=>⟨h,O,id,λ_=>id⟩⟩
theorem L5{b o:Nat}(h:w'.heap[b]?=w.heap[b]?):w'.cell? ⟨b,o,none⟩=w.cell? ⟨b,o,none⟩:=by
 simp[World.cell?,h]
theorem Ext.at(h:Ext M w M' w'){b o:Nat}(ha:M.at b o):M'.at b o/\w'.cell? ⟨b,o,none⟩=w.cell? ⟨b,o,none⟩:=by
 rcases ha with ha|ha
 .exact ⟨.inl (h.full _ ha),L5 (h.same _ ha)⟩
 .exact ⟨h.cell _ _ ha,h.sameC _ _ ha⟩
theorem Ext.get(h:Ext M w M' w'){k:Nat}{p:Pl}(hk:M.pl[k]?=some p):M'.pl[k]?=some p:=by
 obtain⟨l,hl⟩:=h.pl;rw[hl,X1 (n_3.1 hk).1];exact hk
theorem Ext.trans{gM:A5}{w'':World}(h:Ext M w M' w')(k:Ext M' w' gM w''):Ext M w gM w'':=by
 obtain⟨l,hl⟩:=h.pl;obtain⟨l',bw⟩:=k.pl;refine⟨⟨l++l',by rw[bw,hl,H4]⟩,λb hb=>k.full _ (h.full _ hb),λb o hb=>(k.at (h.cell _ _ hb)).1,λb hb=>(k.same _ (h.full _ hb)).trans (h.same _ hb),λb o hb=>?_,Nat.le_trans h.size k.size,Nat.le_trans h.drew k.drew,k.os.trans h.os,k.tape.trans h.tape,k.output.trans h.output,λb hb=>?_⟩
 .exact (k.at (h.cell _ _ hb)).2.trans (h.sameC _ _ hb)
 .obtain ⟨h1,h2,h3,h4⟩:=h.kept b hb;obtain⟨k1,k2,k3,k4⟩:=k.kept b h1;exact⟨k1,k2.trans h2,λf=>h3 (k3 f),λo f=>h4 o (k4 o f)⟩
theorem RV.mono(h:Ext M w M' w')(hr:RV M w c v):RV M' w' c v:=by
 induction hr with
 |val v=>exact .val v
 |agg h1 h2 _ ih=>exact .agg h1 h2 ih
 |tup h1 _ ih=>exact .tup h1 ih
 |clo h1 _ ih=>exact .clo h1 ih
 |list vals h1 h2 h3 h4 h5 h6 h7 h8 _ bj ih=>
  refine .list vals h1 h2 h3 h4 h5 h6 h7 (λi j r c hi hj=>?_) ih (λk hk=>?_)
  .obtain ⟨ha,hc⟩:=h8 i j r c hi hj;exact⟨(h.at ha).1,(h.at ha).2.trans hc⟩
  .obtain ⟨s',hp,aT⟩:=bj k hk;exact⟨s',h.get hp,aT⟩
 |ptr hk=>exact .ptr (h.get hk)
 |cptr vals h1 h2 _ ih=>
  refine .cptr vals h1 (λj c hj=>?_) ih;obtain⟨ha,hc⟩:=h2 j c hj;exact⟨(h.at ha).1,(h.at ha).2.trans hc⟩
 |eptr hk=>exact .eptr (h.get hk)
 |vec hk h1 h2 h3=>exact .vec (h.get hk) h1 h2 h3
 |map hk=>exact .map (h.get hk)
 |yld hk=>exact .yld (h.get hk)
theorem RV.one(hr:RV M w c v)(hc:c.one=true):v.oneCell'=true:=by
 cases hr<;>first|rfl|exact hc|(simp[CV.one]at hc)
inductive b9 where
 |dead
 |boxT (ty:Option TypeId) (cells:List CV)
 |tipT (ty:Option TypeId) (n:Nat)
 |vec (s:Nat) (Y:List (List CV))
 |map (es:List (CV×CV))
 |iter (aF left:List (CV×CV))
 |blk (o:Obj)
 |lp (o:Loop) (n:Nat) (cs:List (Nat×CV))
variable{σ:List b9}
abbrev b9.box(cells:List CV):b9:=.boxT none cells
abbrev b9.tip(n:Nat):b9:=.tipT none n
def b9.live:b9->Bool
 | .dead=>false
 |_=>true
def b0c(af:Array MapEntry):Prop:=∀(i j:Nat) (e e':MapEntry),af[i]?=some e->af[j]?=some e'->e.born=e'.born->i=j
def R7(M:A5)(w:World)(p:Pl):b9->Prop
 | .dead=>True
 | .boxT t0 cells=>∃ap ty,w.heap[p.block]?=some (.cells ap (t0.getD ty) (0,0))/\ap.size=cells.length/\(∀c∈cells,c.one=true)/\∀(i:Nat) (c:CV),cells[i]?=some c->RV M w c (ap.getD i undef)
 | .tipT t0 n=>n<=p.cap/\p.cap<=maxLen/\((∀o,M.cell p.block o->o<n*p.size)/\(t0.isSome=true->p.size=1))/\∃ap ty,w.heap[p.block]?=some (.cells ap (t0.getD ty) (0,0))/\ap.size=p.cap*p.size
 | .vec s Y=>p.size=s/\Y.length<=p.cap/\p.cap<=maxLen/\(∀r∈Y,r.length=p.size)/\(∀r∈Y,∀c∈r,c.one=true)/\∃ap ty,w.heap[p.block]?=some (.cells ap ty (0,0))/\ap.size=p.cap*p.size /\
  ∀(i j:Nat) (r:List CV) (c:CV),Y[i]?=some r->r[j]?=some c->RV M w c (ap.getD (i*p.size+j) undef)
 | .map es=>∃(af:Array MapEntry) (ak:Nat),w.heap[p.block]?=some (.map af ak)/\(af.size=es.length/\b0c af)/\(∀(i:Nat) (x:CV×CV),es[i]?=some x->∃e,af[i]?=some e/\RV M w x.1 e.key/\RV M w x.2 e.val/\e.born <ak)
 | .iter aF left=>∃(mb:Nat) (seen:Array Nat) (bD:Nat) (af:Array MapEntry) (ak:Nat),w.heap[p.block]?=some (.mapIter (some mb) ak seen bD)/\M.full mb/\w.heap[mb]?=some (.map af ak)/\(seen= #[]\/bD=ak)/\b0c af/\(∀(i:Nat) (e:MapEntry),af[i]?=some e->e.born <ak)/\(af.toList.filter λe=>!seen.contains e.born).length=left.length/\(∀(i:Nat) (x:CV×CV),left[i]?=some x->∃e,(af.toList.filter λe=>!seen.contains e.born)[i]?=some e/\RV M w x.1 e.key/\RV M w x.2 e.val)/\∀(i:Nat) (x:CV×CV),aF[i]?=some x->bD=ak/\∃(j:Nat) (e:MapEntry),af[j]?=some e/\seen.back? =some e.born/\RV M w x.1 e.key/\RV M w x.2 e.val
 | .blk o=>w.heap[p.block]?=some o
 | .lp o n cs=>∃tmps,w.heap[p.block]?=some (.loop {o with tmps})/\tmps.size=n/\∀x∈cs,RV M w x.2 (tmps.getD x.1 undef)
def a7n(M:A5)(p:Pl):b9->Prop
 | .dead=>True
 | .tipT _ _=>¬M.full p.block
 |_=>¬M.full p.block/\∀o,¬M.cell p.block o
structure TyE where
 agg:Bool
 size:Nat
 offs:List Nat
def TyE.right(P:Program)(t:Nat)(e:TyE):Prop:=(∀w,(isAgg t).run P w= .ok e.agg w)/\(∀w,(sizeOf t).run P w= .ok e.size w) /\
 (e.offs=[]\/∃fs:Array Field,(∀w,(underlying t).run P w= .ok (.struct fs) w)/\∀(i d:Nat),e.offs[i]?=some d->∃(fd:Field) (s:Nat),fs[i]?=some fd/\fd.offset=d/\(∀w,(sizeOf fd.type).run P w= .ok s w)/\s≠0)
structure Ctx where
 P:Program
 glob:Nat->Option (List CV)
 tab:List (Nat×TyE):=[]
 right:∀x∈tab,x.2.right P x.1:=by intro x h;cases h
variable{C:Ctx}
structure GV(M:A5)(w:World)(cells:List CV)(g:Nat):Prop where
 rv:RV M w (.cptr cells) (.pointer (some ⟨g,0,none⟩))
 full:M.full g
 sz:∃ap ty fr,w.heap[g]?=some (.cells ap ty fr)/\ap.size=cells.length
theorem GV.mono(h:Ext M w M' w'){cells:List CV}{g:Nat}(hg:GV M w cells g):GV M' w' cells g:=
 ⟨hg.rv.mono h,h.full _ hg.full,by rw[h.same _ hg.full];exact hg.sz⟩
structure Rel(C:Ctx)(M:A5)(σ:List b9)(w:World):Prop where
 len:M.pl.length=σ.length
 blk:∀b o,M.at b o->b<w.heap.size
 obj:∀(k:Nat) (p:Pl) (ob:b9),M.pl[k]?=some p->σ[k]?=some ob->R7 M w p ob/\a7n M p ob
 inj:∀(k k':Nat) (p p':Pl) (ob aG:b9),M.pl[k]?=some p->M.pl[k']?=some p'->σ[k]?=some ob->σ[k']?=some aG->ob.live=true->aG.live=true->p.block=p'.block->k=k'
 glob:∀g cells,C.glob g=some cells->GV M w cells g
 kep:∀b,M.keep b->b<w.heap.size
 nk:∀(k:Nat) (p:Pl) (ob:b9),M.pl[k]?=some p->σ[k]?=some ob->ob.live=true->¬M.keep p.block
inductive Ok where
 |yes
 |two (a b:Prop)
def Ok.is:Ok->Prop
 | .yes=>True
 | .two a _=>a
def Ok.un:Ok->Prop
 | .yes=>¬True
 | .two _ b=>b
structure Env where
 h:Nat->Option CV
 g:Nat->Ok
variable{E:Env}
def Env.f(E:Env)(t:Nat):CV:=(E.h t).getD (.val undef)
def Env.ok(E:Env)(t:Nat):Prop:=(E.g t).is
def Env.un(E:Env)(t:Nat):Prop:=(E.g t).un
def Env.putO(E:Env)(d:Option Nat)(c:CV)(g:Ok):Env:=
 match d with
 |none=>E
 |some d=>{h:=λt=>match Nat.beq t d with|true=>some c|false=>E.h t,g:=λt=>match Nat.beq t d with|true=>g|false=>E.g t}
abbrev Env.put(E:Env)(d:Option Nat)(c:CV)(g:Prop):Env:=E.putO d c (.two g (¬g))
def Env.hide(E:Env)(d:Option Nat):Env:=
 match d with
 |none=>E
 |some d=>{h:=E.h,g:=λt=>match Nat.beq t d with|true=>.two False False|false=>E.g t}
theorem b9l{d:Nat}(h:¬t=d):Nat.beq t d=false:=c1W.2 λhb=>h (a2a hb)
theorem Env.putO_f(E:Env)(d:Nat)(c:CV)(g:Ok)(t:Nat):(E.putO (some d) c g).f t=if t=d then c else E.f t:=by
 show(match Nat.beq t d with|true=>some c|false=>E.h t).getD _=_;by_cases h:t=d
 .subst h;simp
 .rw [b9l h,G h];rfl
theorem Env.putO_g(E:Env)(d:Nat)(c:CV)(g:Ok)(t:Nat):(E.putO (some d) c g).g t=if t=d then g else E.g t:=by
 show(match Nat.beq t d with|true=>g|false=>E.g t)=_;by_cases h:t=d
 .subst h;simp
 .rw [b9l h,G h]
theorem Env.putO_ok(E:Env)(d:Nat)(c:CV)(g:Ok)(t:Nat):(E.putO (some d) c g).ok t=if t=d then g.is else E.ok t:=by
 unfold Env.ok;rw[E.putO_g];split<;>rfl
theorem Env.putO_un(E:Env)(d:Nat)(c:CV)(g:Ok)(t:Nat):(E.putO (some d) c g).un t=if t=d then g.un else E.un t:=by
 unfold Env.un;rw[E.putO_g];split<;>rfl
theorem Env.put_f(E:Env)(d:Nat)(c:CV)(g:Prop)(t:Nat):(E.put (some d) c g).f t=if t=d then c else E.f t:=E.putO_f d c _ t
theorem Env.put_ok(E:Env)(d:Nat)(c:CV)(g:Prop)(t:Nat):(E.put (some d) c g).ok t=if t=d then g else E.ok t:=by
 unfold Env.ok;rw[E.putO_g];split<;>rfl
theorem Env.put_un(E:Env)(d:Nat)(c:CV)(g:Prop)(t:Nat):(E.put (some d) c g).un t=if t=d then ¬g else E.un t:=by
 unfold Env.un;rw[E.putO_g];split<;>rfl
theorem Env.hide_at(E:Env)(d t:Nat):(E.hide (some d)).f t=E.f t/\(E.hide (some d)).ok t=(if t=d then False else E.ok t)/\(E.hide (some d)).un t=(if t=d then False else E.un t):=by
 have hg:(E.hide (some d)).g t=if t=d then .two False False else E.g t:=by
  show(match Nat.beq t d with|true=>Ok.two False False|false=>E.g t)=_;by_cases h:t=d
  .subst h;simp
  .rw [b9l h,G h]
 unfold Env.ok Env.un;rw[hg];refine⟨O,?_,?_⟩<;>split<;>rfl
def b6u:Value->CV
 | .slice none _ _=>.list [] false none
 |v=>.val v
def H8:Value->CV
 | .agg cs=>.agg (cs.toList.map b6u)
 |v=>b6u v
def a0p:Value->Bool
 | .slice none 0 0=>true
 | .slice _ _ _=>false
 |v=>v.oneCell'
def K4:Value->Bool
 | .agg cs=>cs.toList.all a0p
 | .slice none 0 0=>true
 | .slice _ _ _=>false
 |_=>true
def Env.val(C:Ctx)(E:Env):Operand->CV
 | .tmp t=>E.f t
 | .const v=>H8 v
 | .global g=>match C.glob g with
  |some cells=>.cptr cells
  |none=>.val (.pointer (some ⟨g,0,none⟩))
 | .func f=>.val (.func (.func f) #[] #[])
def Env.valid(E:Env):Operand->Prop
 | .tmp t=>E.ok t
 | .const v=>K4 v=true
 |_=>True
theorem b5p(h:a0p v=true):RV M w (b6u v) v:=by
 cases v with
 |slice a n c=>
  cases a with
  |some a=>simp[a0p]at h
  |none=>
   have:n=0/\c=0:=by
    rcases n with _|n<;>rcases c with _|c<;>simp[a0p]at h⊢
   obtain⟨rfl,rfl⟩:=this;exact RV.list (Y:=[]) (b:=0) (off:=0) (s:=0) (λ_ _=>undef) (n_6 _) (by simp[maxLen]) O W9 (λh=>absurd O h) Q Q Q Q Q
 |_=>exact .val _
theorem c5e(h:a0p v=true):(b6u v).one=true:=by
 cases v with
 |slice a n c=>cases a<;>rfl
 |_=>simpa[b6u,CV.one,a0p]using h
theorem a0v(h:K4 v=true):RV M w (H8 v) v:=by
 cases v with
 |agg cs=>
  have hc:∀v∈cs,a0p v=true:=by
   have h':∀v∈cs.toList,a0p v=true:=a2d.1 h;exact λv hv=>h' v (H hv)
  refine .agg Q (λc hm=>?_) (λi c hi=>?_)
  .obtain ⟨v,hv,rfl⟩:=H9.1 hm;exact c5e (hc v (H hv))
  .simp only[P8,M6]at hi;obtain⟨v,hv,rfl⟩:=hi;have gy:cs[i]?=some v:=H hv;rw[a0D,gy];exact b5p (hc v (b4J gy))
 |slice a n c=>
  refine b5p ?_
  rcases a with _|a
  .rcases n with _|n<;>rcases c with _|c<;>simp[K4,a0p]at h⊢
  .simp [K4]at h
 |_=>exact .val _
structure H0(M:A5)(w:World)(n:Nat)(E:Env)(a:Act):Prop where
 defers:a.defers=[]
 size:a.tmps.size=n
 rv:∀t,E.ok t->RV M w (E.f t) (a.tmps.getD t undef)
 un:∀t,E.un t->a.tmps.getD t undef=undef
theorem H0.mono(h:Ext M w M' w')(hf:H0 M w n E a):H0 M' w' n E a:=
 ⟨hf.defers,hf.size,λt ht=>(hf.rv t ht).mono h,hf.un⟩
theorem H0.put{d:Option Nat}{g:Prop}(hf:H0 M w n E a)(hd:∀t,d=some t->t<n)(hv:g->RV M w c v)(hu:¬g->v=undef):
 H0 M w n (E.put d c g) (a.put d v):=by
 cases d with
 |none=>exact hf
 |some d=>
  have hdn:=hd d O;refine⟨hf.defers,by simp[Act.put,hf.size],λt ht=>?_,λt ht=>?_⟩;by_cases gW:t=d
  .subst gW;simp only[Env.put_f,Env.put_ok,if_true]at ht⊢;have:(a.put (some t) v).tmps.getD t undef=v:=by simp[Act.put,hf.size,hdn]
   rw[this];exact hv ht
  .simp only[Env.put_f,Env.put_ok,G gW]at ht⊢;have:(a.put (some d) v).tmps.getD t undef=a.tmps.getD t undef:=by simp[Act.put,b59 (Ne.symm gW)]
   rw[this];exact hf.rv t ht
  .by_cases gW:t=d
   .subst gW;simp only[Env.put_un,if_true]at ht;have:(a.put (some t) v).tmps.getD t undef=v:=by simp[Act.put,hf.size,hdn]
    rw[this];exact hu ht
   .simp only[Env.put_un,G gW]at ht;have:(a.put (some d) v).tmps.getD t undef=a.tmps.getD t undef:=by simp[Act.put,b59 (Ne.symm gW)]
    rw[this];exact hf.un t ht
theorem H0.hide{d:Option Nat}(hf:H0 M w n E a):H0 M w n (E.hide d) (a.put d v):=by
 cases d with
 |none=>exact hf
 |some d=>
  refine⟨hf.defers,by simp[Act.put,hf.size],λt ht=>?_,λt ht=>?_⟩
  .rw [(E.hide_at d t).2.1]at ht;split at ht
   .exact ht.elim
   .rename_i gW;have:(a.put (some d) v).tmps.getD t undef=a.tmps.getD t undef:=by simp[Act.put,b59 (Ne.symm gW)]
    rw[this];exact hf.rv t ht
  .rw [(E.hide_at d t).2.2]at ht;split at ht
   .exact ht.elim
   .rename_i gW;have:(a.put (some d) v).tmps.getD t undef=a.tmps.getD t undef:=by simp[Act.put,b59 (Ne.symm gW)]
    rw[this];exact hf.un t ht
theorem H0.eval(hr:Rel C M σ w)(hf:H0 M w n E a){x:Operand}(hx:E.valid x):RV M w (E.val C x) (a.eval x):=by
 cases x with
 |tmp t=>exact hf.rv t hx
 |const v=>exact a0v hx
 |global g=>
  simp only[Env.val,Act.eval]
  split
  .rename_i cells hc;exact(hr.glob g cells hc).rv
  .exact .val _
 |func f=>exact .val _
inductive N8 where
 |ret (c:CV)
 |pan (c:CV)
variable{K K':N8->List b9->Prop}
def b2d(P:Program)(K:Value->World->Prop)(Kp:List PanicEntry->World->Prop):Result Next->Prop
 | .ok (.value v) w'=>K v w'
 | .ok .skip w'=>K undef w'
 | .ok (.enter f args) w'=>Calls P f args w' λ
  | .returned v,w''=>K v w''
  | .panicked ch,w''=>Kp ch w''
  | .outgrown,_=>False
 | .halt (.panic v) w'=>Kp [{v,recovered:=false}] w'
 |_=>False
theorem b2d.mono{P:Program}{K K':Value->World->Prop}{Kp Kp':List PanicEntry->World->Prop}{r:Result Next}(h:b2d P K Kp r)(hk:∀v w,K v w->K' v w)(hp:∀c w,Kp c w->Kp' c w):b2d P K' Kp' r:=by
 cases r with
 |ok x w=>
  cases x<;>simp only[b2d]at h⊢
  case value v=>exact hk _ _ h
  case skip=>exact hk _ _ h
  case enter f args=>
   refine h.mono λe w' he=>?_;cases e with
   |returned v=>exact hk _ _ he
   |panicked c=>exact hp _ _ he
   |outgrown=>exact he
 |halt x w=>
  cases x<;>simp only[b2d]at h⊢
  exact hp _ _ h
theorem a3R{P:Program}{K:Value->World->Prop}{Kp:List PanicEntry->World->Prop}{next:Act->World->Prop}{Ji:Exit->Act->World->Prop}
 (h:b2d P K Kp ((execOp a.eval o).run P w))(hk:∀v w',K v w'->next (a.put o.dst v) w')(hp:∀c w',Kp c w'->Ji (.panic c) a w'):o.wp P a w next Ji:=by
 unfold Oper.wp;generalize (execOp a.eval o).run P w=r at h;cases r with
 |ok x w=>
  cases x<;>simp only[b2d]at h<;>simp only[Oper.upon]
  case value v=>exact hk _ _ h
  case skip=>exact hk _ _ h
  case enter f args=>
   refine h.mono λe w' he=>?_;cases e with
   |returned v=>exact hk _ _ he
   |panicked c=>exact hp _ _ he
   |outgrown=>exact he.elim
 |halt x w=>
  cases x<;>simp only[b2d]at h<;>simp only[Oper.upon]
  exact hp _ _ h
def a05(C:Ctx)(M:A5)(w:World)(K:N8->List b9->Prop)(v:Value)(w':World):Prop:=
 ∃c aa M',Ext M w M' w'/\Rel C M' aa w'/\RV M' w' c v/\K (.ret c) aa
def S8(C:Ctx)(M:A5)(w:World)(K:N8->List b9->Prop)(ch:List PanicEntry)(w':World):Prop:=
 ∃c v aa M',ch=[{v,recovered:=false}]/\Ext M w M' w'/\Rel C M' aa w'/\RV M' w' c v/\K (.pan c) aa
def D3(C:Ctx)(σ:List b9)(E:Env)(o:Oper)(K:N8->List b9->Prop):Prop:=
 ∀(M:A5) (w:World) (ρ:Operand->Value),Rel C M σ w->(∀x∈o.op.operands,E.valid x->RV M w (E.val C x) (ρ x)) ->
  b2d C.P (a05 C M w K) (S8 C M w K) ((execOp ρ o).run C.P w)
def Yields(C:Ctx)(σ:List b9)(E:Env)(o:Oper)(c:CV):Prop:=D3 C σ E o λr aa=>r= .ret c/\aa=σ
def b8(C:Ctx)(f:FuncId)(args:List CV)(σ:List b9)(K:N8->List b9->Prop):Prop:=
 ∀(M:A5) (w:World) (vs:Array Value),Rel C M σ w->vs.size=args.length->(∀(i:Nat) (c:CV),args[i]?=some c->RV M w c (vs.getD i undef)) ->
  Calls C.P f vs w λ
   | .returned v,w'=>a05 C M w K v w'
   | .panicked ch,w'=>S8 C M w K ch w'
   | .outgrown,_=>False
theorem a05.mono(h:∀r σ,K r σ->K' r σ)(ha:a05 C M w K v w'):a05 C M w K' v w':=by
 obtain⟨c,aa,M',h1,h2,h3,h4⟩:=ha;exact⟨c,aa,M',h1,h2,h3,h _ _ h4⟩
theorem S8.mono(h:∀r σ,K r σ->K' r σ){v:List PanicEntry}(ha:S8 C M w K v w'):S8 C M w K' v w':=by
 obtain⟨c,u,aa,M',h0,h1,h2,h3,h4⟩:=ha;exact⟨c,u,aa,M',h0,h1,h2,h3,h _ _ h4⟩
theorem D3.mono(hd:D3 C σ E o K)(h:∀r σ,K r σ->K' r σ):D3 C σ E o K':=
 λM w ρ hr hx=>(hd M w ρ hr hx).mono (λ_ _=>a05.mono h) (λ_ _=>S8.mono h)
theorem b8.mono{f:FuncId}{args:List CV}(hd:b8 C f args σ K)(h:∀r σ,K r σ->K' r σ):b8 C f args σ K':=
 λM w vs hr hn hx=>(hd M w vs hr hn hx).mono λe w' he=>by
  cases e with
  |returned v=>exact a05.mono h he
  |panicked c=>exact S8.mono h he
  |outgrown=>exact he
inductive A8 where
 |normal
 |exit (id:Nat)
 |goto (l:Nat)
 |ret
 |pan (c:CV)
variable{Ji:A8->Env->List b9->Prop}
def R0(C:Ctx)(n:Nat)(Ji:A8->Env->List b9->Prop)(M:A5)(w:World)(e:Exit)(a':Act)(w':World):Prop:=
 ∃E' aa M',Ext M w M' w'/\Rel C M' aa w'/\H0 M' w' n E' a' /\
  match e with
  | .normal=>Ji .normal E' aa
  | .exit id=>Ji (.exit id) E' aa
  | .goto l=>Ji (.goto l) E' aa
  | .ret=>Ji .ret E' aa
  | .panic ch=>∃c v,ch=[{v,recovered:=false}]/\RV M' w' c v/\Ji (.pan c) E' aa
  | .outgrown=>False
def CWp(C:Ctx)(n:Nat)(c:Code)(Ji:A8->Env->List b9->Prop)(E:Env)(σ:List b9):Prop:=
 ∀(M:A5) (w:World) (a:Act),Rel C M σ w->H0 M w n E a->c.wp C.P (R0 C n Ji M w) a w
def G5(C:Ctx)(n:Nat)(ae:Array Oper)(Ji:A8->Env->List b9->Prop)(l:List Oper)(E:Env)(σ:List b9):Prop:=
 ∀(M:A5) (w:World) (a:Act),Rel C M σ w->H0 M w n E a->wpList C.P ae (R0 C n Ji M w) l a w
theorem R0.mono{Q':A8->Env->List b9->Prop}(h:∀e E σ,Ji e E σ->Q' e E σ){e:Exit}(hl:R0 C n Ji M w e a w'):R0 C n Q' M w e a w':=by
 obtain⟨E',aa,M',h1,h2,h3,h4⟩:=hl;refine⟨E',aa,M',h1,h2,h3,?_⟩;cases e<;>first|exact h _ _ _ h4|(obtain⟨c,v,hc,hv,hq⟩:=h4;exact⟨c,v,hc,hv,h _ _ _ hq⟩)|exact h4
theorem R0.later{M1:A5}{w1:World}(he:Ext M w M1 w1){e:Exit}(hl:R0 C n Ji M1 w1 e a w'):R0 C n Ji M w e a w':=by
 obtain⟨E',aa,M',h1,h2,h3,h4⟩:=hl;exact⟨E',aa,M',he.trans h1,h2,h3,h4⟩
theorem CWp.mono{c:Code}{Q':A8->Env->List b9->Prop}(h:CWp C n c Ji E σ)(hq:∀e E σ,Ji e E σ->Q' e E σ):CWp C n c Q' E σ:=
 λM w a hr hf=>wp_mono (h M w a hr hf) λ_ _ _=>R0.mono hq
def A8.next(k:Env->List b9->Prop)(Ji:A8->Env->List b9->Prop):A8->Env->List b9->Prop
 | .normal=>k
 |e=>Ji e
section
theorem D8(h:Ji .normal E σ):CWp C n .skip Ji E σ:=λM w _ hr hf=>wp_skip ⟨E,σ,M,Ext.refl M w,hr,hf,h⟩
theorem b7f{l:Nat}(h:Ji .normal E σ):CWp C n (.label l) Ji E σ:=λM w _ hr hf=>wp_label ⟨E,σ,M,Ext.refl M w,hr,hf,h⟩
theorem l9(h:Ji (.exit id) E σ):CWp C n (.exit id) Ji E σ:=λM w _ hr hf=>wp_exit ⟨E,σ,M,Ext.refl M w,hr,hf,h⟩
theorem c6(h:Ji .ret E σ):CWp C n .ret Ji E σ:=λM w _ hr hf=>wp_ret ⟨E,σ,M,Ext.refl M w,hr,hf,h⟩
theorem J2(h:CWp C n x (A8.next (CWp C n y Ji) Ji) E σ):CWp C n (.seq x y) Ji E σ:=λM w a hr hf=>by
 refine wp_seq (wp_mono (h M w a hr hf) λe a' w' hl=>?_);obtain⟨E',aa,M',h1,h2,h3,h4⟩:=hl;cases e with
 |normal=>exact wp_mono (h4 M' w' a' h2 h3) λ_ _ _=>R0.later h1
 |_=>exact⟨E',aa,M',h1,h2,h3,h4⟩
theorem a2C{c:Operand}(hv:E.valid c)(hc:E.val C c= .val (.bool b))(ht:b=true->CWp C n x Ji E σ)(gz:b=false->CWp C n y Ji E σ):CWp C n (.cond c x y) Ji E σ:=λM w a hr hf=>by
 have h1:RV M w (E.val C c) (a.eval c):=hf.eval hr hv;rw[hc]at h1;have h2:a.eval c= .bool b:=by generalize a.eval c=u at h1;cases h1;rfl
 exact wp_cond_split h2 (λh=>ht h M w a hr hf) (λh=>gz h M w a hr hf)
def A8.blk(id:Nat)(Ji:A8->Env->List b9->Prop):A8->Env->List b9->Prop
 | .exit id',E,σ=>if id'=id then Ji .normal E σ else Ji (.exit id') E σ
 |e,E,σ=>Ji e E σ
theorem a3p{c:Code}(h:CWp C n c (A8.blk id Ji) E σ):CWp C n (.block id c) Ji E σ:=λM w a hr hf=>by
 refine wp_block (wp_mono (h M w a hr hf) λe a' w' hl=>?_);obtain⟨E',aa,M',h1,h2,h3,h4⟩:=hl;cases e with
 |exit id'=>
  simp only[Exit.inBlock];simp only[A8.blk]at h4
  split<;>rename_i gX
  .rw [W gX]at h4;exact⟨E',aa,M',h1,h2,h3,h4⟩
  .rw [G gX]at h4;exact⟨E',aa,M',h1,h2,h3,h4⟩
 |_=>exact⟨E',aa,M',h1,h2,h3,h4⟩
theorem c1L{c:Code}(Jd:Nat->Env->List b9->Prop)(m:Nat)(h0:Jd m E σ)
 (round:∀m E σ,Jd m E σ->CWp C n c (A8.next (λE' aa=>∃m',m'<m/\Jd m' E' aa) Ji) E σ):CWp C n (.loop c) Ji E σ:=λM w a hr hf=>by
 intro b k cs;have key:∀m E σ M1 w1 a1,Jd m E σ->Ext M w M1 w1->Rel C M1 σ w1->H0 M1 w1 n E a1 ->
  ∃e a' w',R0 C n Ji M w e a' w'/\Arrives C.P (lone (b.at a1 (.code c::.inLoop c::k)) cs w1) b k cs e a' w':=by
  intro m
  induction m using Nat.strongRecOn with
  |_ m ih=>
   intro E σ M1 w1 a1 hI hx aQ dg;obtain⟨e,a2,w2,hq,aA⟩:=round m E σ hI M1 w1 a1 aQ dg b (.inLoop c::k) cs;obtain⟨E',aa,M',h1,h2,h3,h4⟩:=hq;cases e with
   |normal=>
    obtain⟨m',ah,hI'⟩:=h4;obtain⟨dC,dD,dE,bZ,bb⟩:=ih m' ah E' aa M' w2 a2 hI' (hx.trans h1) h2 h3;exact⟨dC,dD,dE,bZ,.of_steps (Steps.trans aA (.one step_inLoop)) bb⟩
   |exit id=>exact⟨_,a2,w2,⟨E',aa,M',hx.trans h1,h2,h3,h4⟩,.pass (x:=.inLoop c) O (λ_ _=>.inl Q) aA⟩
   |goto l=>exact⟨_,a2,w2,⟨E',aa,M',hx.trans h1,h2,h3,h4⟩,.pass (x:=.inLoop c) O (λ_ _=>.inl Q) aA⟩
   |ret=>exact⟨_,a2,w2,⟨E',aa,M',hx.trans h1,h2,h3,h4⟩,.pass (x:=.inLoop c) O (λ_ _=>.inl Q) aA⟩
   |panic ch=>exact⟨_,a2,w2,⟨E',aa,M',hx.trans h1,h2,h3,h4⟩,.pass (x:=.inLoop c) O (λ_ _=>.inl Q) aA⟩
   |outgrown=>exact h4.elim
 obtain⟨e,a',w',hq,aA⟩:=key m E σ M w a h0 (Ext.refl M w) hr hf;exact⟨e,a',w',hq,.of_steps (.one step_loop) aA⟩
theorem C6(h:G5 C n ae Ji ae.toList E σ):CWp C n (.region id ae false) Ji E σ:=
 λM w a hr hf=>wp_region_list (h M w a hr hf)
theorem A6(h:Ji .normal E σ):G5 C n ae Ji [] E σ:=λM w _ hr hf=>wpList_nil ⟨E,σ,M,Ext.refl M w,hr,hf,h⟩
theorem G5.later(h:G5 C n ae Ji l E σ){M1:A5}{w1:World}(hx:Ext M w M1 w1)(hr:Rel C M1 σ w1)(hf:H0 M1 w1 n E a):wpList C.P ae (R0 C n Ji M w) l a w1:=by
 have:=h M1 w1 a hr hf;have hm:∀(l:List Oper) (a:Act) (w2:World),wpList C.P ae (R0 C n Ji M1 w1) l a w2->wpList C.P ae (R0 C n Ji M w) l a w2:=by
  intro l
  induction l with
  |nil=>exact λa w2 h=>R0.later hx h
  |cons o l ih=>
   intro a w2 h;unfold wpList at h⊢
   split
   .rename_i hw;rw[W hw]at h;refine h.imp (λh=>?_) (λ⟨h1,a0,w0,hl⟩=>⟨h1,a0,w0,R0.later hx hl⟩);unfold Oper.wp at h⊢;generalize (execOp a.eval o).run C.P w2=r at h;cases r with
    |ok x w3=>
     cases x<;>simp only[Oper.upon]at h⊢
     case value v=>exact ih _ _ h
     case skip=>exact ih _ _ h
     case defer d=>exact ih _ _ h
     case enter f args=>
      refine h.mono λe w4 he=>?_;cases e with
      |returned v=>exact ih _ _ he
      |panicked ch=>exact R0.later hx he
      |outgrown=>obtain⟨a0,w0,hl⟩:=he;exact⟨a0,w0,R0.later hx hl⟩
     case row r args=>exact Rows.mono h λ_ _ he=>ih _ _ he
    |halt x w3=>
     cases x<;>simp only[Oper.upon]at h⊢
     exact R0.later hx h
   .rename_i hw;rw[G hw]at h;exact ih _ _ h
 exact hm _ _ _ this
theorem c1i(hg:o.guard=none)(hd:(match o.dst with|some d=>d<n|none=>True))
 (h:D3 C σ E o λr aa=>match r with
  | .ret c=>G5 C n ae Ji l (E.put o.dst c True) aa
  | .pan c=>Ji (.pan c) E aa):G5 C n ae Ji (o::l) E σ:=λM w a hr hf=>by
 unfold wpList;rw[W (by simp[Region.wanted,hg])];refine .inl (a3R (h M w a.eval hr λx _ hx=>hf.eval hr hx) (λv w' ha=>?_) (λch w' ha=>?_))
 .obtain ⟨c,aa,M',h1,h2,h3,h4⟩:=ha;exact h4.later h1 h2 ((hf.mono h1).put (λt ht=>by rw[ht]at hd;exact hd) (λ_=>h3) λhh=>absurd trivial hh)
 .obtain ⟨c,v,aa,M',h0,h1,h2,h3,h4⟩:=ha;exact⟨E,aa,M',h1,h2,hf.mono h1,c,v,h0,h3,h4⟩
theorem b6H(hg:o.guard=some (j,av))(ht:(ae[j]?).bind (·.dst)=some t)(hv:E.ok t)(hb:E.f t= .val (.bool b))
 (hd:(match o.dst with|some d=>d<n|none=>True))(hy:b=av->Yields C σ E o c)(h:G5 C n ae Ji l (E.put o.dst c (b=av)) σ):G5 C n ae Ji (o::l) E σ:=λM w a hr hf=>by
 have h1:RV M w (E.f t) (a.tmps.getD t undef):=hf.rv t hv;rw[hb]at h1;have h2:a.tmps.getD t undef= .bool b:=by generalize a.tmps.getD t undef=u at h1;cases h1;rfl
 have aJ:t<a.tmps.size:=by
  rcases a4g t a.tmps.size with h'|h'
  .exact h'
  .simp [b48 h',undef]at h2
 have hw:Region.wanted o (yielded ae a.tmps)=(b == av):=by
  have h3:a.tmps[t]?=some (.bool b):=by
   rw[a0D,a2I aJ]at h2;rw[a2I aJ,<- h2];rfl
  have h4:yielded ae a.tmps j=some b:=by unfold yielded;rw[ht,n_7,h3]
  simp only[Region.wanted,hg,h4];cases b<;>cases av<;>rfl
 have cp:∀t,o.dst=some t->t<n:=λt ht=>by rw[ht]at hd;exact hd
 unfold wpList;by_cases cE:b=av
 .rw [W (by rw[hw];simpa using cE)];refine .inl (a3R (hy cE M w a.eval hr λx _ hx=>hf.eval hr hx) (λv w' ha=>?_) (λch w' ha=>?_))
  .obtain ⟨c',aa,M',h1,h2,h3,h4,rfl⟩:=ha;injection h4 with h4
   subst h4;exact h.later h1 h2 ((hf.mono h1).put cp (λ_=>h3) λhh=>absurd cE hh)
  .obtain ⟨c',v,aa,M',h0,h1,h2,h3,h4,_⟩:=ha;cases h4
 .rw [G (by rw[hw];simpa using cE)];exact h.later (Ext.refl M w) hr (hf.put cp (λhh=>absurd hh cE) λ_=>O)
theorem c5h(hg:o.guard=some (j,av))(ht:(ae[j]?).bind (·.dst)=some t)(hv:¬E.ok t->E.un t)(hb:E.f t= .val (.bool b))
 (hd:(match o.dst with|some d=>d<n|none=>True))(hy:E.ok t->b=av->Yields C σ E o c)(h:G5 C n ae Ji l (E.put o.dst c (E.ok t/\b=av)) σ):G5 C n ae Ji (o::l) E σ:=by
 by_cases cy:E.ok t
 .have e:(E.ok t/\b=av)=(b=av):=propext ⟨λh=>h.2,λh=>⟨cy,h⟩⟩;rw[e]at h;exact b6H hg ht cy hb hd (hy cy) h
 .intro M w a hr hf;have h2:=hf.un t (hv cy);have cp:∀t,o.dst=some t->t<n:=λt ht=>by rw[ht]at hd;exact hd
  have hw:Region.wanted o (yielded ae a.tmps)=false:=by
   have h4:yielded ae a.tmps j=none:=by
    unfold yielded;rw[ht,n_7]
    rcases a4g t a.tmps.size with h'|h'
    .rw [a0D,a2I h']at h2;rw[a2I h'];simp only[b8S]at h2;rw[h2];rfl
    .rw [b48 h']
   simp only[Region.wanted,hg,h4];cases av<;>rfl
  unfold wpList;rw[G (by rw[hw];simp)];exact h.later (Ext.refl M w) hr (hf.put cp (λhh=>absurd hh.1 cy) λ_=>O)
end
section
theorem d3N(hg:o.guard=none)(hd:(match o.dst with|some d=>Nat.blt d n|none=>true)=true)(hy:Yields C σ E o c)(h:G5 C n ae Ji l (E.put o.dst c True) σ):G5 C n ae Ji (o::l) E σ:=
 c1i hg (by
  cases cp:o.dst with
  |none=>trivial
  |some d=>rw[cp]at hd;simpa[a94]using hd) (hy.mono λr aa hr=>by
  obtain⟨rfl,rfl⟩:=hr;exact h)
theorem a1P{ae:Array Oper}{o:Oper}{l:List Oper}(hg:o.guard=none)(hd:(match o.dst with|some d=>Nat.blt d n|none=>true)=true)(h:D3 C σ E o λr aa=>match r with
 | .ret c=>G5 C n ae Ji l (E.put o.dst c True) aa
 | .pan c=>Ji (.pan c) E aa):G5 C n ae Ji (o::l) E σ:=
 c1i hg (by
  cases cp:o.dst with
  |none=>trivial
  |some d=>rw[cp]at hd;simpa[a94]using hd) h
theorem d8A(hg:o.guard=some (j,av))(ht:(ae[j]?).bind (·.dst)=some t)(hv:E.ok t)(hb:E.f t= .val (.bool b))
 (hd:(match o.dst with|some d=>Nat.blt d n|none=>true)=true)(hy:b=av->Yields C σ E o c)(h:G5 C n ae Ji l (E.put o.dst c (b=av)) σ):G5 C n ae Ji (o::l) E σ:=
 b6H hg ht hv hb (by
  cases cp:o.dst with
  |none=>trivial
  |some d=>rw[cp]at hd;simpa[a94]using hd) hy h
theorem d9r(hg:o.guard=some (j,av))(ht:(ae[j]?).bind (·.dst)=some t)(hv:¬E.ok t->E.un t)(hb:E.f t= .val (.bool b))
 (hd:(match o.dst with|some d=>Nat.blt d n|none=>true)=true)(hy:E.ok t->b=av->Yields C σ E o c)(h:G5 C n ae Ji l (E.put o.dst c (E.ok t/\b=av)) σ):G5 C n ae Ji (o::l) E σ:=
 c5h hg ht hv hb (by
  cases cp:o.dst with
  |none=>trivial
  |some d=>rw[cp]at hd;simpa[a94]using hd) hy h
def Env.is(E:Env):List (Nat×CV)->Prop
 | []=>True
 |(t,c)::l=>(E.ok t/\E.f t=c)/\E.is l
def Env.puts(E:Env):List (Nat×CV)->Env
 | []=>E
 |(t,c)::l=>(E.puts l).putO (some t) c .yes
theorem H0.puts(hf:H0 M w n E a):∀{l:List (Nat×CV)},E.is l->H0 M w n (E.puts l) a
 | [],_=>hf
 |(t,c)::l,⟨⟨h1,h2⟩,h⟩=>by
  have ih:=hf.puts h;refine⟨hf.defers,hf.size,λx hx=>?_,λx hx=>?_⟩
  .rw [Env.puts,Env.putO_f];rw[Env.puts,Env.putO_ok]at hx
   split
   .subst x;exact h2▸hf.rv t h1
   .rename_i aB;rw[G aB]at hx;exact ih.rv x hx
  .rw [Env.puts,Env.putO_un]at hx;split at hx
   .exact absurd trivial hx
   .exact ih.un x hx
theorem CWp.puts{c:Code}{l:List (Nat×CV)}(h:CWp C n c Ji (E.puts l) σ)(hE:E.is l):CWp C n c Ji E σ:=λM w a hr hf=>h M w a hr (hf.puts hE)
theorem Q6{α:Type}{c:Code}(l:α->List (Nat×CV))(S:α->List b9)(Jd:α->Prop)(m:α->Nat)(a0:α)(h0:Jd a0)(hE:E.is (l a0))(au:σ=S a0)
 (round:∀(a:α) (E0:Env),Jd a->CWp C n c (A8.next (λE' aa=>∃a',m a'<m a/\Jd a'/\E'.is (l a')/\aa=S a') Ji) (E0.puts (l a)) (S a)):CWp C n (.loop c) Ji E σ:=by
 refine c1L (λk E σ=>∃a,k=m a/\Jd a/\E.is (l a)/\σ=S a) (m a0) ⟨a0,O,h0,hE,au⟩ λk E σ hI=>?_;obtain⟨a,rfl,hI,hE,rfl⟩:=hI;refine((round a E hI).puts hE).mono λe E' aa h=>?_;cases e with
 |normal=>
  obtain⟨a',h1,h2,h3,h4⟩:=h;exact⟨m a',h1,a',O,h2,h3,h4⟩
 |_=>exact h
theorem N9{α:Type}(l:α->List (Nat×CV))(S:α->List b9)(Jd:α->Prop)(h:CWp C n x (A8.next (λE' aa=>∃a,Jd a/\E'.is (l a)/\aa=S a) Ji) E σ)(k:∀(a:α) (E0:Env),Jd a->CWp C n y Ji (E0.puts (l a)) (S a)):CWp C n (.seq x y) Ji E σ:=by
 refine J2 (h.mono λe E' aa h=>?_);cases e with
 |normal=>
  obtain⟨a,h1,h2,rfl⟩:=h;exact(k a E' h1).puts h2
 |_=>exact h
end
def V8(C:Ctx)(E:Env)(σ:List b9)(fn:Func)(c:CV):Prop:=
 ∀(M:A5) (w:World) (a:Act),Rel C M σ w->(∀t,E.ok t->RV M w (E.f t) (a.tmps.getD t undef))->∃v,(results fn a.tmps).run C.P w= .ok v w/\RV M w c v
def Env.args(args:List CV):Env:={h:=λt=>args[t]?,g:=λ_=>.yes}
def Fin(C:Ctx)(fn:Func)(K:N8->List b9->Prop):A8->Env->List b9->Prop
 | .normal,E,σ| .ret,E,σ=>∃c,V8 C E σ fn c/\K (.ret c) σ
 | .pan c,_,σ=>K (.pan c) σ
 |_,_,_=>False
theorem a5g{f:FuncId}{fn:Func}{c:Code}{args:List CV}(hf:C.P.funcs[f]?=some fn)(hb:fn.body=some c)(du:Nat.ble args.length fn.ntmps=true)
 (h:CWp C fn.ntmps c (Fin C fn K) (Env.args args) σ):b8 C f args σ K:=λM w vs hr aJ hx=>by
 have hn:=nb du;refine calls_of_wp hf hb (wp_mono (h M w _ hr ⟨O,by simp;omega,λt _=>?_,λt ht=>absurd trivial ht⟩) λe a w' hl=>?_)
 .simp only[Env.args,Env.f]
  rcases a4g t args.length with ht|ht
  .have:=hx t (args[t]) (by simp[ht]);have h1:(vs++Array.replicate (fn.ntmps -vs.size) undef).getD t undef=vs.getD t undef:=by
    simp[b6Y,aJ,ht]
   rw[h1];simpa[ht]using this
  .have h1:(vs++Array.replicate (fn.ntmps -vs.size) undef).getD t undef=undef:=by
    simp only[a0D,b6Y];rw[G J];rw[Array.getElem?_replicate]
    split<;>rfl
   rw[h1];simp only[b9z ht,Option.getD_none];exact .val _
 .obtain ⟨E',aa,M',h1,h2,h3,h4⟩:=hl;cases e with
  |normal=>
   obtain⟨c,hc,hk⟩:=h4;obtain⟨v,hv,bg⟩:=hc M' w' a h2 h3.rv;exact⟨h3.defers,v,hv,c,aa,M',h1,h2,bg,hk⟩
  |ret=>
   obtain⟨c,hc,hk⟩:=h4;obtain⟨v,hv,bg⟩:=hc M' w' a h2 h3.rv;exact⟨h3.defers,v,hv,c,aa,M',h1,h2,bg,hk⟩
  |panic ch=>
   obtain⟨c,v,h0,hv,hk⟩:=h4;exact⟨h3.defers,c,v,aa,M',h0,h1,h2,hv,hk⟩
  |exit id=>exact h4.elim
  |goto l=>exact h4.elim
  |outgrown=>exact h4.elim
end Go.Cl
namespace Go.Cl
open Sem
variable{x y:Operand}{t t' e:TypeId}{c:CV}{a:Int}{s off k f:Nat}{b nn:Bool}{w:World}{v:Value}{Y:List (List CV)}{tok:Option Nat}{cells:List CV}
theorem p8{M:A5}{u:Value}(h:RV M w (.val v) u):u=v:=by cases h;rfl
theorem V1(b off n:Nat):(⟨b,off,none⟩:Addr).add n=⟨b,off+n,none⟩:=by
 unfold Addr.add
 split
 .simp [*]
 .rfl
theorem a1S{P:Program}{w:World}{a:Addr}(f:Nat->Value):∀(n i:Nat) (acc:Array Value),(∀j,j<n->w.cell? (a.add (i+j))=some (f (i+j))) ->
 (loadCellsFrom a i n acc).run P w= .ok (acc++((List.range' i n).map f).toArray) w
 |0,i,acc,_=>by simp[loadCellsFrom]
 |n+1,i,acc,h=>by
  have h0:=h 0 J;rw[b1q]at h0;have ih:=a1S (P:=P) (w:=w) (a:=a) f n (i+1) (acc.push (f i)) (λj hj=>by
   have:=h (j+1) J;rwa[show i+(j+1)=i+1+j from by omega]at this)
  simp only[loadCellsFrom,Sem.run_bind,run_load,h0,Result.andThen_ok,ih,List.range'_succ,a8w];simp
theorem Q3{P:Program}{b:Nat}(f:Nat->Value)(n:Nat)(h:∀j,j<n->w.cell? ⟨b,off+j,none⟩=some (f j)):
 (loadCells ⟨b,off,none⟩ n).run P w= .ok ((List.range n).map f).toArray w:=by
 unfold loadCells;rw[a1S f n 0 #[] (λj hj=>by rw[V1];simpa using h j hj)];simp[List.range_eq_range']
section
variable{C:Ctx}{σ:List b9}{E:Env}{o:Oper}
theorem i8(h:∀(M:A5) (w:World) (ρ:Operand->Value),Rel C M σ w->(∀x∈o.op.operands,E.valid x->RV M w (E.val C x) (ρ x))->∃v,(execOp ρ o).run C.P w= .ok (.value v) w/\RV M w c v):Yields C σ E o c:=
 λM w ρ hr hx=>by
  obtain⟨v,h1,h2⟩:=h M w ρ hr hx;rw[h1];exact⟨c,σ,M,Ext.refl M w,hr,h2,O,O⟩
theorem a1j(ho:o.op = .move x)(hx:E.valid x)(ec:E.val C x=c):Yields C σ E o c:=
 i8 λM w ρ _ h=>⟨ρ x,by simp[execOp,ho],ec▸h x w8 hx⟩
theorem a1U(ho:o.op = .assign x)(hx:E.valid x)(ec:E.val C x=c):Yields C σ E o c:=
 i8 λM w ρ _ h=>⟨ρ x,by simp[execOp,ho],ec▸h x w8 hx⟩
theorem a8F{d:Bool}(ho:o.op = .pick x (.const (.bool true)) y)(hx:E.valid x)(ex:E.val C x= .val (.bool b))(hy:b=false->E.valid y)(ey:b=false->E.val C y= .val (.bool d)):Yields C σ E o (.val (.bool (b ||d))):=
 i8 λM w ρ _ h=>by
  have h1:=h x w8 hx;have h0:=h (.const (.bool true)) w8 O;rw[ex]at h1;have e1:=p8 h1;have e0:ρ (.const (.bool true))= .bool true:=p8 h0;cases b with
  |true=>exact⟨.bool true,by simp[execOp,ho,e1,e0,asBool],.val _⟩
  |false=>
   have h2:=h y w8 (hy O);rw[ey O]at h2;have e2:=p8 h2;exact⟨.bool d,by simp[execOp,ho,e1,e2,asBool],.val _⟩
theorem a6K{d:Bool}(ho:o.op = .pick x y (.const (.bool false)))(hx:E.valid x)(ex:E.val C x= .val (.bool b))(hy:b=true->E.valid y)(ey:b=true->E.val C y= .val (.bool d)):Yields C σ E o (.val (.bool (b&&d))):=
 i8 λM w ρ _ h=>by
  have h1:=h x w8 hx;have h0:=h (.const (.bool false)) w8 O;rw[ex]at h1;have e1:=p8 h1;have e0:ρ (.const (.bool false))= .bool false:=p8 h0;cases b with
  |false=>exact⟨.bool false,by simp[execOp,ho,e1,e0,asBool],.val _⟩
  |true=>
   have h2:=h y w8 (hy O);rw[ey O]at h2;have e2:=p8 h2;exact⟨.bool d,by simp[execOp,ho,e1,e2,asBool],.val _⟩
def a7C(op:BinOp)(k:IntKind)(a b:Int):Option Value:=
 match op with
 | .add=>some (.int k (k.wrap (a+b)))
 | .sub=>some (.int k (k.wrap (a-b)))
 | .mul=>some (.int k (k.wrap (a*b)))
 | .quo=>if b=0 then none else some (.int k (k.wrap (a.tdiv b)))
 | .rem=>if b=0 then none else some (.int k (a.tmod b))
 | .eql=>some (.bool (a == b))
 | .neq=>some (.bool (a != b))
 | .lss=>some (.bool (a<b))
 | .leq=>some (.bool (a<=b))
 | .gtr=>some (.bool (a > b))
 | .geq=>some (.bool (a>=b))
 |_=>none
theorem T9{op:BinOp}{k:IntKind}{b:Int}(ho:o.op = .binOp op t x y t')(hx:E.valid x)(hy:E.valid y)(ex:E.val C x= .val (.int k a))(ey:E.val C y= .val (.int k b))(hv:a7C op k a b=some v):Yields C σ E o (.val v):=
 i8 λM w ρ _ h=>by
  have h1:=h x w8 hx;have h2:=h y w8 hy;rw[ex]at h1;rw[ey]at h2;have e1:=p8 h1;have e2:=p8 h2;refine⟨v,?_,.val _⟩;cases op<;>simp only[a7C]at hv
  case quo=>
   by_cases hb:b=0
   .simp [hb]at hv
   .rw [G hb]at hv;injection hv with hv
    subst hv;simp[execOp,ho,e1,e2,eqGuard,binOp,Op.intDiv,hb]
  case rem=>
   by_cases hb:b=0
   .simp [hb]at hv
   .rw [G hb]at hv;injection hv with hv
    subst hv;simp[execOp,ho,e1,e2,eqGuard,binOp,Op.intDiv,hb]
  all_goals first
   |(cases hv;done)
   |(injection hv with hv;subst hv;simp[execOp,ho,e1,e2,eqGuard,binOp,Op.intArith,Op.intCmp])
theorem a4v{x:Int}(h1: -9223372036854775808<=x)(h2:x<=9223372036854775807):IntKind.i64.wrap x=x:=by
 rw[IntKind.wrap_i64];omega
theorem c2J{b:Int}(ho:o.op = .binOp .add t x y t')(hx:E.valid x)(hy:E.valid y)(ex:E.val C x= .val (.int .i64 a))(ey:E.val C y= .val (.int .i64 b))(h1: -9223372036854775808<=a+b)(h2:a+b<=9223372036854775807):Yields C σ E o (.val (.int .i64 (a+b))):=by
 have:=T9 (σ:=σ) (v:=.int .i64 (IntKind.i64.wrap (a+b))) ho hx hy ex ey O;rwa[a4v h1 h2]at this
theorem b6d{b:Int}(ho:o.op = .binOp .sub t x y t')(hx:E.valid x)(hy:E.valid y)(ex:E.val C x= .val (.int .i64 a))(ey:E.val C y= .val (.int .i64 b))(h1: -9223372036854775808<=a-b)(h2:a-b<=9223372036854775807):Yields C σ E o (.val (.int .i64 (a-b))):=by
 have:=T9 (σ:=σ) (v:=.int .i64 (IntKind.i64.wrap (a-b))) ho hx hy ex ey O;rwa[a4v h1 h2]at this
theorem c05{b:Int}(ho:o.op = .binOp .mul t x y t')(hx:E.valid x)(hy:E.valid y)(ex:E.val C x= .val (.int .i64 a))(ey:E.val C y= .val (.int .i64 b))(h1: -9223372036854775808<=a*b)(h2:a*b<=9223372036854775807):Yields C σ E o (.val (.int .i64 (a*b))):=by
 have:=T9 (σ:=σ) (v:=.int .i64 (IntKind.i64.wrap (a*b))) ho hx hy ex ey O;rwa[a4v h1 h2]at this
def d5c(op:BinOp)(a b:Bool):Option Bool:=
 match op with
 | .eql=>some (a == b)
 | .neq=>some (a != b)
 |_=>none
theorem b6q{op:BinOp}{a r:Bool}(ho:o.op = .binOp op t x y t')(hu:∀w,(underlying t).run C.P w= .ok .bool w)(hx:E.valid x)(hy:E.valid y)(ex:E.val C x= .val (.bool a))(ey:E.val C y= .val (.bool b))(hv:d5c op a b=some r):Yields C σ E o (.val (.bool r)):=
 i8 λM w ρ _ h=>by
  have h1:=h x w8 hx;have h2:=h y w8 hy;rw[ex]at h1;rw[ey]at h2;have e1:=p8 h1;have e2:=p8 h2;refine⟨.bool r,?_,.val _⟩;have heq:∀d,(Op.equalIn (d+1) t (.bool a) (.bool b)).run C.P w= .ok (a == b) w:=λd=>by simp[Op.equalIn,hu]
  cases op<;>simp only[d5c]at hv<;>first
   |(cases hv;done)
   |(injection hv with hv;subst hv;simp[execOp,ho,e1,e2,eqGuard,binOp,Op.equal,Op.maxDepth,heq 9999])
  cases a<;>cases b<;>rfl
def b0A(op:BinOp)(a b:ByteArray):Option Bool:=
 match op with
 | .eql=>some (a.toList == b.toList)
 | .neq=>some (!(a.toList == b.toList))
 | .lss=>some (Op.bytesLess a.toList b.toList)
 | .leq=>some (Op.bytesLess a.toList b.toList ||a.toList == b.toList)
 | .gtr=>some (!(Op.bytesLess a.toList b.toList ||a.toList == b.toList))
 | .geq=>some (!Op.bytesLess a.toList b.toList)
 |_=>none
theorem c59{op:BinOp}{a b:ByteArray}{r:Bool}(ho:o.op = .binOp op t x y t')(hx:E.valid x)(hy:E.valid y)(ex:E.val C x= .val (.string a))(ey:E.val C y= .val (.string b))(hv:b0A op a b=some r):Yields C σ E o (.val (.bool r)):=
 i8 λM w ρ _ h=>by
  have h1:=h x w8 hx;have h2:=h y w8 hy;rw[ex]at h1;rw[ey]at h2;have e1:=p8 h1;have e2:=p8 h2;refine⟨.bool r,?_,.val _⟩;cases op<;>simp only[b0A]at hv<;>first
   |(cases hv;done)
   |(injection hv with hv;subst hv;simp[execOp,ho,e1,e2,eqGuard,binOp,Op.stringOp])
theorem b6e(ho:o.op = .unOp .not t x)(hx:E.valid x)(ex:E.val C x= .val (.bool b)):Yields C σ E o (.val (.bool (!b))):=
 i8 λM w ρ _ h=>by
  have h1:=h x w8 hx;rw[ex]at h1;exact⟨.bool (!b),by simp[execOp,ho,p8 h1,Op.unary],.val _⟩
theorem b8r{k:IntKind}(ho:o.op = .unOp .neg t x)(hx:E.valid x)(ex:E.val C x= .val (.int k a)):Yields C σ E o (.val (.int k (k.wrap (0-a)))):=
 i8 λM w ρ _ h=>by
  have h1:=h x w8 hx;rw[ex]at h1;exact⟨.int k (k.wrap (0-a)),by simp[execOp,ho,p8 h1,Op.unary,Op.intArith],.val _⟩
theorem a2W{i:Nat}{cs:List CV}(ho:o.op = .extract x i)(hx:E.valid x)(ex:E.val C x= .tup cs)(hi:cs[i]?=some c):Yields C σ E o c:=
 i8 λM w ρ _ h=>by
  have h1:=h x w8 hx;rw[ex]at h1;generalize hu:ρ x=u at h1;cases h1 with
  |tup aJ bg=>
   rename_i vs;have ah:i<vs.size:=by rw[aJ];exact(n_3.1 hi).1
   refine⟨vs.getD i undef,?_,bg i c hi⟩;simp[execOp,ho,hu,Instr.extract,ah]
theorem RV.list_inv{M:A5}(h:RV M w (.list Y nn tok) v):
 ∃(a:Option Addr) (cap b off s:Nat) (vals:Nat->Nat->Value),v= .slice a Y.length cap/\Y.length<=cap/\cap<=maxLen/\a.isSome=nn/\(nn=false->cap=0)/\(Y≠[]->a=some ⟨b,off,none⟩) /\
  (∀r∈Y,r.length=s)/\(∀r∈Y,∀c∈r,c.one=true) /\
  (∀(i j:Nat) (r:List CV) (c:CV),Y[i]?=some r->r[j]?=some c->M.at b (off+i*s+j)/\w.cell? ⟨b,off+i*s+j,none⟩=some (vals i j)) /\
  (∀(i j:Nat) (r:List CV) (c:CV),Y[i]?=some r->r[j]?=some c->RV M w c (vals i j)) /\
  (∀k,tok=some k->∃s',M.pl[k]?=some ⟨b,cap,s'⟩/\a=some ⟨b,0,none⟩/\off=0/\(Y≠[]->s'=s)):=by
 cases h with
 |list vals h1 h2 h3 h4 h5 h6 h7 h8 h9 bj=>exact⟨_,_,_,_,_,vals,O,h1,h2,h3,h4,h5,h6,h7,h8,h9,bj⟩
theorem a0a{ty:TypeId}{n:Int}(ho:o.op = .call {callee:=.builtin .len,args:=#[x],argTypes:=#[t]})(hx:E.valid x)(ex:E.val C x= .list Y nn tok)
 (hu:∀w,(underlying t).run C.P w= .ok (.slice e) w)(hn:(Y.length:Int)=n)(_:o.type=ty):Yields C σ E o (.val (.int .i64 n)):=
 i8 λM w ρ _ h=>by
  have h1:=h x L4 hx;rw[ex]at h1;obtain⟨a,cap,b,off,s,vals,hv,_⟩:=h1.list_inv;subst hn;exact⟨.int .i64 Y.length,by simp[execOp,ho,resolve,invoke,builtin,Builtin.len_,hu,hv,goInt],.val _⟩
theorem a0M{ty:TypeId}{len:Nat}{n:Int}(ho:o.op = .call {callee:=.builtin .len,args:=#[x],argTypes:=#[t]})(hx:E.valid x)(ex:E.val C x= .vec k off len)
 (hu:∀w,(underlying t).run C.P w= .ok (.slice e) w)(hn:(len:Int)=n)(_:o.type=ty):Yields C σ E o (.val (.int .i64 n)):=
 i8 λM w ρ _ h=>by
  have h1:=h x L4 hx;rw[ex]at h1;generalize dR:ρ x=u at h1;subst hn;cases h1;exact⟨.int .i64 len,by simp[execOp,ho,resolve,invoke,builtin,Builtin.len_,hu,dR,goInt],.val _⟩
theorem z8{ix:Operand}{i:Int}{r:List CV}(ho:o.op = .indexAddr t x ix)(hx:E.valid x)(hi:E.valid ix)(ex:E.val C x= .list Y nn tok)(ei:E.val C ix= .val (.int .i64 i))
 (hu:∀w,(underlying t).run C.P w= .ok (.slice e) w)(hs:∀w,(sizeOf e).run C.P w= .ok s w)(h0:0<=i)(hr:Y[i.toNat]?=some r)(hl:r.length=s):Yields C σ E o (.cptr r):=
 i8 λM w ρ _ h=>by
  have h1:=h x w8 hx;have h2:=h ix w8 hi;rw[ex]at h1;rw[ei]at h2;obtain⟨a,cap,b,off,s',vals,hv,bx,_,_,_,ha,cz,aO,hc,bg,_⟩:=h1.list_inv;have ah:i.toNat <Y.length:=(n_3.1 hr).1;have aB:Y≠[]:=by rintro rfl;simp at ah
  have bo:r∈Y:=n_2 hr;have gY:s'=s:=by rw[<- cz r bo,hl]
  subst gY;refine⟨.pointer (some ⟨b,off+i.toNat*s',none⟩),?_,.cptr (vals i.toNat) (aO r bo) (λj c hj=>?_) (λj c hj=>bg _ _ _ _ hr hj)⟩
  .have bt:i< (Y.length:Int):=by omega
   simp[execOp,ho,hv,p8 h2,Instr.indexAt,asIntOf,hu,hs,ha aB,h0,bt,V1]
  .exact hc _ _ _ _ hr hj
theorem a2U{fs:Array Field}{fd:Field}(ho:o.op = .fieldAddr t x f)(hx:E.valid x)(ex:E.val C x= .cptr cells)
 (hu:∀w,(underlying t).run C.P w= .ok (.struct fs) w)(hf:fs[f]?=some fd)(hs:∀w,(sizeOf fd.type).run C.P w= .ok s w)(dS:s≠0):Yields C σ E o (.cptr (cells.drop fd.offset)):=
 i8 λM w ρ _ h=>by
  have h1:=h x w8 hx;rw[ex]at h1;generalize dR:ρ x=u at h1;cases h1 with
  |cptr vals h1 h2 h3=>
   rename_i b off;refine⟨.pointer (some ⟨b,off+fd.offset,none⟩),?_,.cptr (λj=>vals (fd.offset+j)) (λc hc=>h1 c (a8H hc)) (λj c hj=>?_) (λj c hj=>?_)⟩
   .simp [execOp,ho,dR,Instr.fieldAt,hu,hf,Instr.sureAddr,fieldPlace,hs,dS,V1]
   .rw [a5H]at hj;have:=h2 _ _ hj;rwa[<- a9x]at this
   .rw [a5H]at hj;exact h3 _ _ hj
theorem j2{fs:Array Field}{fd:Field}(ho:o.op = .fieldAddr t x f)(hx:E.valid x)(ex:E.val C x= .ptr k off)
 (hu:∀w,(underlying t).run C.P w= .ok (.struct fs) w)(hf:fs[f]?=some fd)(hs:∀w,(sizeOf fd.type).run C.P w= .ok s w)(dS:s≠0):Yields C σ E o (.ptr k (off+fd.offset)):=
 i8 λM w ρ _ h=>by
  have h1:=h x w8 hx;rw[ex]at h1;generalize dR:ρ x=u at h1;cases h1 with
  |ptr hk=>exact⟨_,by simp[execOp,ho,dR,Instr.fieldAt,hu,hf,Instr.sureAddr,fieldPlace,hs,dS,V1],.ptr hk⟩
theorem c4a{fs:Array Field}{fd:Field}{i:Nat}(ho:o.op = .fieldAddr t x f)(hx:E.valid x)(ex:E.val C x= .eptr k i off)
 (hu:∀w,(underlying t).run C.P w= .ok (.struct fs) w)(hf:fs[f]?=some fd)(hs:∀w,(sizeOf fd.type).run C.P w= .ok s w)(dS:s≠0):Yields C σ E o (.eptr k i (off+fd.offset)):=
 i8 λM w ρ _ h=>by
  have h1:=h x w8 hx;rw[ex]at h1;generalize dR:ρ x=u at h1;cases h1 with
  |eptr hk=>
   refine⟨_,by simp[execOp,ho,dR,Instr.fieldAt,hu,hf,Instr.sureAddr,fieldPlace,hs,dS,V1,a9x],.eptr hk⟩
theorem a0L(ho:o.op = .load t x)(hx:E.valid x)(ex:E.val C x= .cptr cells)(ha:∀w,(isAgg t).run C.P w= .ok false w)(hc:cells[0]?=some c):Yields C σ E o c:=
 i8 λM w ρ _ h=>by
  have h1:=h x w8 hx;rw[ex]at h1;generalize dR:ρ x=u at h1;cases h1 with
  |cptr vals h1 h2 h3=>
   rename_i b off;have:=(h2 0 c hc).2;rw[b1q]at this;exact⟨vals 0,by simp[execOp,ho,dR,Instr.loadAt,Instr.sureAddr,loadVar,ha,this],h3 0 c hc⟩
theorem Y7(ho:o.op = .load t x)(hx:E.valid x)(ex:E.val C x= .cptr cells)(ha:∀w,(isAgg t).run C.P w= .ok true w)(hs:∀w,(sizeOf t).run C.P w= .ok s w)(hl:s<=cells.length):Yields C σ E o (.agg (cells.take s)):=
 i8 λM w ρ _ h=>by
  have h1:=h x w8 hx;rw[ex]at h1;generalize dR:ρ x=u at h1;cases h1 with
  |cptr vals h1 h2 h3=>
   rename_i b off;refine⟨.agg ((List.range s).map vals).toArray,?_,.agg (by simp[hl]) (λc hc=>h1 c (a6v hc)) (λi c hi=>?_)⟩
   .simp [execOp,ho,dR,Instr.loadAt,Instr.sureAddr,loadVar,ha,hs,Q3 (P:=C.P) (w:=w) vals s (λj hj=>(h2 j cells[j] (by simp[show j<cells.length by omega])).2)]
   .have bh:i<s:=by
     have:=(n_3.1 hi).1;simp at this;omega
    rw[a2L,W bh]at hi;have:=h3 i c hi;simpa[bh]using this
end
end Go.Cl
namespace Go.Cl
variable{w w0 w':World}{M M' M0:A5}{c c':CV}{s n k off L i b j m ak:Nat}{t e t2 ty:TypeId}{Y new:List (List CV)}{σ:List b9}{x y:Operand}{K:N8->List b9->Prop}{v z:Value}{C:Ctx}{α:Type}{ao:List Nat}{p:Pl}{E:Env}{f:FuncId}{t0:Option TypeId}{o:Oper}{nn av:Bool}{ap:Array Value}{P:Program}{g:Prop}{r args cs cargs:List CV}{ob:b9}{xs:Array Operand}{ts:Array TypeId}{parts:Array (Nat×Operand)}{a:Int}{ps:List (Nat×CV)}{l:List Oper}{S:α->List b9}
def A5.add(M:A5)(p:Pl):A5:={M with pl:=M.pl++[p]}
theorem J4(w:World)(o:Obj)(h:b<w.heap.size):(w.alloc o).heap[b]?=w.heap[b]?:=by
 show(w.heap.push o)[b]?=_;rw[b78,G (Nat.ne_of_lt h)]
theorem A2(w:World)(o:Obj):(w.alloc o).heap[w.heap.size]?=some o:=by
 show(w.heap.push o)[w.heap.size]?=_;rw[b78,W O]
theorem R7.lt(h:R7 M w p ob)(hl:ob.live=true):p.block <w.heap.size:=by
 have key:∀{o:Obj},w.heap[p.block]?=some o->p.block <w.heap.size:=λh=>(a1N.1 h).1;cases ob with
 |dead=>cases hl
 |boxT t0 cells=>obtain⟨ap,ty,h,_⟩:=h;exact key h
 |tipT t0 n=>obtain⟨_,_,_,ap,ty,h,_⟩:=h;exact key h
 |vec s Y=>obtain⟨_,_,_,_,_,ap,ty,h,_⟩:=h;exact key h
 |map es=>obtain⟨ap,ty,h,_⟩:=h;exact key h
 |iter aF left=>obtain⟨_,_,_,_,_,h,_⟩:=h;exact key h
 |blk o=>exact key h
 |lp o n cs=>obtain⟨_,h,_⟩:=h;exact key h
theorem R7.mono(hx:Ext M w M' w')(hb:w'.heap[p.block]?=w.heap[p.block]?)(hc:∀t n,ob= .tipT t n->∀o,M'.cell p.block o->M.cell p.block o)(h:R7 M w p ob):R7 M' w' p ob:=by
 cases ob with
 |dead=>trivial
 |boxT t0 cells=>
  obtain⟨ap,ty,h1,h2,h3,h4⟩:=h;exact⟨ap,ty,hb.trans h1,h2,h3,λi c hi=>(h4 i c hi).mono hx⟩
 |blk o=>exact hb.trans h
 |lp o n cs=>
  obtain⟨tm,h1,h2,h3⟩:=h;exact⟨tm,hb.trans h1,h2,λx aC=>(h3 x aC).mono hx⟩
 |tipT t0 n=>
  obtain⟨h0,fy,h1,ap,ty,h2,h3⟩:=h;exact⟨h0,fy,⟨λo ho=>h1.1 o (hc _ n O o ho),h1.2⟩,ap,ty,hb.trans h2,h3⟩
 |vec s Y=>
  obtain⟨h0,fy,h000,h1,h2,ap,ty,h3,h4,h5⟩:=h;exact⟨h0,fy,h000,h1,h2,ap,ty,hb.trans h3,h4,λi j r c hi hj=>(h5 i j r c hi hj).mono hx⟩
 |map es=>
  obtain⟨af,ak,h1,h2,h3⟩:=h;refine⟨af,ak,hb.trans h1,h2,λi x hi=>?_⟩;obtain⟨e,he,hk,hv,hc⟩:=h3 i x hi;exact⟨e,he,hk.mono hx,hv.mono hx,hc⟩
 |iter aF left=>
  obtain⟨mb,seen,bD,af,ak,h1,h2,h3,h4,h5,h6,h7,h8,h9⟩:=h;refine⟨mb,seen,bD,af,ak,hb.trans h1,hx.full _ h2,(hx.same _ h2).trans h3,h4,h5,h6,h7,λi x hi=>?_,λi x hi=>?_⟩
  .obtain ⟨e,he,hk,hv⟩:=h8 i x hi;exact⟨e,he,hk.mono hx,hv.mono hx⟩
  .obtain ⟨hl,j,e,he,hs,hk,hv⟩:=h9 i x hi;exact⟨hl,j,e,he,hs,hk.mono hx,hv.mono hx⟩
theorem Ext.alloc(hr:Rel C M σ w)(p:Pl)(o:Obj):Ext M w (M.add p) (w.alloc o):=
 ⟨⟨[p],O⟩,λ_ h=>h,λ_ _ h=>.inr h,λb h=>J4 w o (hr.blk b 0 (.inl h)),λb o' h=>L5 (J4 w o (hr.blk b o' (.inr h))),by rw[b8t];omega,R4,O,O,O,λb h=>⟨h,J4 w o (hr.kep b h),id,λ_=>id⟩⟩
theorem Rel.alloc(hr:Rel C M σ w)(p:Pl)(o:Obj)(ob:b9)(hb:p.block=w.heap.size)(h:R7 (M.add p) (w.alloc o) p ob):Rel C (M.add p) (σ++[ob]) (w.alloc o):=by
 have hx:=Ext.alloc hr p o;have aw:∀{k:Nat} {q:Pl},(M.add p).pl[k]?=some q->(k<σ.length/\M.pl[k]?=some q)\/(k=σ.length/\q=p):=by
  intro k q hk;simp only[A5.add,a6j,hr.len]at hk;split at hk
  .exact .inl ⟨‹_›,hk⟩
  .rename_i ah;have:k-σ.length=0:=by
    have:=(n_3.1 hk).1;simp at this;omega
   rw[this]at hk;simp at hk;exact .inr ⟨J,hk.symm⟩
 have eQ:∀{k:Nat} {x:b9},(σ++[ob])[k]?=some x->k<σ.length->σ[k]?=some x:=by
  intro k x hk ah;rwa[X1 ah]at hk
 have hgn:∀{x:b9},(σ++[ob])[σ.length]?=some x->x=ob:=by
  intro x hk;simp at hk;exact hk.symm
 refine⟨by simp[A5.add,hr.len],λb o' ha=>?_,λk q x hk aC=>?_,λk k' q q' x x' hk aL bv aS hl bw hbb=>?_,λg cells hg=>(hr.glob g cells hg).mono hx,λb h=>(by rw[b8t];have:=hr.kep b h;omega),λk q x hk aC bU h=>?_⟩
 .have:=hr.blk b o' ha;rw[b8t];omega
 .rcases aw hk with⟨ah,hq⟩|⟨rfl,rfl⟩
  .have hxo:=eQ aC ah;obtain⟨h1,h2⟩:=hr.obj k q x hq hxo;refine⟨?_,h2⟩;by_cases hl:x.live=true
   .exact h1.mono hx (J4 w o (h1.lt hl)) (λ_ _ _ _ h=>h)
   .cases x<;>first|trivial|simp[b9.live]at hl
  .have:=hgn aC;subst this;refine⟨h,?_⟩;have hf:¬M.full q.block:=λhf=>by have:=hr.blk q.block 0 (.inl hf);omega
   have hc:∀o,¬M.cell q.block o:=λo hc=>by have:=hr.blk q.block o (.inr hc);omega
   cases x<;>first|trivial|exact hf|exact⟨hf,hc⟩
 .rcases aw hk with⟨ah,hq⟩|⟨rfl,rfl⟩
  .rcases aw aL with⟨bt,dZ⟩|⟨rfl,rfl⟩
   .exact hr.inj k k' q q' x x' hq dZ (eQ bv ah) (eQ aS bt) hl bw hbb
   .have:=(hr.obj k q x hq (eQ bv ah)).1.lt hl;omega
  .rcases aw aL with⟨bt,dZ⟩|⟨rfl,rfl⟩
   .have:=(hr.obj k' q' x' dZ (eQ aS bt)).1.lt bw;omega
   .rfl
 .rcases aw hk with⟨ah,hq⟩|⟨rfl,rfl⟩
  .exact hr.nk k q x hq (eQ aC ah) bU h
  .have:=hr.kep _ h;omega
def CV.cells:CV->List CV
 | .agg cs=>cs
 |c=>[c]
theorem RV.cells(h:RV M w c v)(ho:c.one=true\/∃cs,c= .agg cs):
 v.cells.size=c.cells.length/\(∀x∈c.cells,x.one=true)/\∀(i:Nat) (x:CV),c.cells[i]?=some x->RV M w x (v.cells.getD i undef):=by
 rcases ho with ho|⟨cs,rfl⟩
 .have hv:=h.one ho;have gy:v.cells = #[v]:=by cases v<;>first|rfl|simp[Value.oneCell']at hv
  have aM:c.cells=[c]:=by cases c<;>first|rfl|simp[CV.one]at ho
  rw[gy,aM];refine⟨O,H ho,λi x hi=>?_⟩
  rcases i with _|i
  .simp at hi;subst hi;exact h
  .simp at hi
 .cases h with
  |agg h1 h2 h3=>exact⟨h1,h2,h3⟩
variable{cells:List CV}
section
theorem a3B(t:TypeId)(v:Value)(w:World):(newVar t v).run P w= .ok ⟨w.heap.size,0,none⟩ (w.alloc (.cells v.cells t)):=by
 simp[newVar,newRow]
theorem b26(hr:Rel C M σ w)(h:RV M w c v)(ho:c.one=true\/∃cs,c= .agg cs)(hk:K (.ret (.ptr σ.length 0)) (σ++[.box c.cells])):
 a05 C M w K (.pointer (some ⟨w.heap.size,0,none⟩)) (w.alloc (.cells v.cells t)):=by
 obtain⟨h1,h2,h3⟩:=h.cells ho;have hx:=Ext.alloc hr ⟨w.heap.size,0,0⟩ (.cells v.cells t);refine⟨.ptr σ.length 0,_,_,hx,hr.alloc ⟨w.heap.size,0,0⟩ _ (.box c.cells) O ⟨v.cells,t,A2 w _,h1,h2,λi x hi=>(h3 i x hi).mono hx⟩,?_,hk⟩;exact .ptr (p:=⟨w.heap.size,0,0⟩) b1i
theorem F1(ho:o.op = .box t x)(hx:E.valid x)(ex:E.val C x=c)(hc:c.one=true\/∃cs,c= .agg cs)(hk:K (.ret (.ptr σ.length 0)) (σ++[.box c.cells])):D3 C σ E o K:=λM w ρ hr h=>by
 have h1:=h x w8 hx;rw[ex]at h1;have:(execOp ρ o).run C.P w= .ok (.value (.pointer (some ⟨w.heap.size,0,none⟩))) (w.alloc (.cells (ρ x).cells t)):=by
  simp[execOp,ho,Instr.box,a3B]
 rw[this];exact b26 hr h1 hc hk
theorem l8(ho:o.op = .alloc t)(hz:∀w,(zeroValue t).run C.P w= .ok z w)(bV:K4 z=true)(cU:(H8 z).one=true\/∃cs,H8 z= .agg cs)(hk:K (.ret (.ptr σ.length 0)) (σ++[.box (H8 z).cells])):D3 C σ E o K:=λM w ρ hr h=>by
 have:(execOp ρ o).run C.P w= .ok (.value (.pointer (some ⟨w.heap.size,0,none⟩))) (w.alloc (.cells z.cells t)):=by
  simp[execOp,ho,Instr.alloc,hz,a3B]
 rw[this];exact b26 hr (a0v bV) cU hk
theorem b8N(hr:Rel C M σ w)(hp:M.pl[k]?=some p)(hb:σ[k]?=some (.boxT t0 cells))(hi:cells[i]?=some c):
 ∃v,w.cell? ⟨p.block,i,none⟩=some v/\RV M w c v/\w.frozen? ⟨p.block,i,none⟩=false:=by
 obtain⟨ap,ty,h1,h2,h3,h4⟩:=(hr.obj k p _ hp hb).1;have ah:i<ap.size:=by rw[h2];exact(n_3.1 hi).1
 refine⟨ap.getD i undef,?_,h4 i c hi,?_⟩
 .simp [World.cell?,h1,ah]
 .simp [World.frozen?,h1]
theorem o5(ho:o.op = .load t x)(hx:E.valid x)(ex:E.val C x= .ptr k off)(ha:∀w,(isAgg t).run C.P w= .ok false w)(hk:σ[k]?=some (.boxT t0 cells))(hc:cells[off]?=some c):Yields C σ E o c:=
 i8 λM w ρ hr h=>by
  have h1:=h x w8 hx;rw[ex]at h1;generalize dR:ρ x=u at h1;cases h1 with
  |ptr hp=>
   obtain⟨v,hv,bg,_⟩:=b8N hr hp hk hc;exact⟨v,by simp[execOp,ho,dR,Instr.loadAt,Instr.sureAddr,loadVar,ha,hv],bg⟩
theorem J7(ho:o.op = .load t x)(hx:E.valid x)(ex:E.val C x= .ptr k off)(ha:∀w,(isAgg t).run C.P w= .ok true w)(hs:∀w,(sizeOf t).run C.P w= .ok s w)(hk:σ[k]?=some (.boxT t0 cells))(hl:off+s<=cells.length):Yields C σ E o (.agg ((cells.drop off).take s)):=
 i8 λM w ρ hr h=>by
  have h1:=h x w8 hx;rw[ex]at h1;generalize dR:ρ x=u at h1;cases h1 with
  |ptr hp=>
   rename_i p;obtain⟨ap,ty,h1,h2,h3,h4⟩:=(hr.obj k p _ hp hk).1;have aY:∀j,j<s->w.cell? ⟨p.block,off+j,none⟩=some (ap.getD (off+j) undef):=λj hj=>by
    have:off+j<ap.size:=by omega
    simp[World.cell?,h1,this]
   refine⟨.agg ((List.range s).map λj=>ap.getD (off+j) undef).toArray,?_,.agg N4 (λc hc=>h3 c (a8H (a6v hc))) (λi c hi=>?_)⟩
   .simp [execOp,ho,dR,Instr.loadAt,Instr.sureAddr,loadVar,ha,hs,Q3 (P:=C.P) (w:=w) _ s aY]
   .have bh:i<s:=by
     have:=(n_3.1 hi).1;simp at this;omega
    rw[a2L,W bh,a5H]at hi;have:=h4 (off+i) c hi;simpa[bh]using this
theorem a1w{fn:Func}{t:Nat}(hr:fn.results = #[.tmp t])(hv:E.ok t)(ec:E.f t=c):V8 C E σ fn c:=λM w a _ h=>by
 refine⟨a.tmps.getD t undef,results_tmp hr _ _ _,ec▸h t hv⟩
end
def World.putObj(w:World)(b:Nat)(o:Obj):World:={w with heap:=w.heap.setIfInBounds b o}
theorem World.putObj_same(w:World)(o:Obj)(hb:b<w.heap.size):(World.putObj w b o).heap[b]?=some o:=by
 simp[World.putObj,hb]
theorem World.putObj_other(w:World){b':Nat}(o:Obj)(h:b≠b'):(World.putObj w b o).heap[b']?=w.heap[b']?:=by
 simp[World.putObj,b59 h]
theorem World.putObj_size(w:World)(b:Nat)(o:Obj):(World.putObj w b o).heap.size=w.heap.size:=by
 simp[World.putObj]
theorem World.putObj_put(w:World)(b:Nat)(o o':Obj):World.putObj (World.putObj w b o) b o'=World.putObj w b o':=by
 simp[World.putObj]
theorem World.putObj_self(w:World){o:Obj}(h:w.heap[b]?=some o):World.putObj w b o=w:=by
 have:w.heap.setIfInBounds b o=w.heap:=by
  apply b2r;intro i;by_cases hi:b=i
  .subst hi;have ah:=(a1N.1 h).1;rw[h];simp[ah]
  .rw [b59 hi]
 unfold World.putObj;rw[this]
theorem b1H(w:World){aF:Array Value}(v:Value)(h:w.heap[b]?=some (.cells aF t (0,0))):
 w.setCell ⟨b,off,none⟩ v=World.putObj w b (.cells (aF.setIfInBounds off v) t (0,0)):=by
 have ah:=(a1N.1 h).1;unfold World.setCell World.putObj
 congr 1
 apply b2r;intro i;rw[b8Y];by_cases hi:b=i
 .subst hi;rw[W O,h,Array.getElem?_setIfInBounds_self_of_lt ah];rfl
 .rw [G hi,b59 hi]
def D0(aF:Array Value)(o:Nat):List Value->Array Value
 | []=>aF
 |v::vs=>D0 (aF.setIfInBounds o v) (o+1) vs
theorem I1:∀(vs:List Value) (aF:Array Value) (o:Nat),(D0 aF o vs).size=aF.size
 | [],_,_=>rfl
 |v::vs,aF,o=>by rw[D0,I1 vs];simp
theorem L1:∀(vs:List Value) (aF:Array Value) (o i:Nat),o+vs.length<=aF.size ->
 (D0 aF o vs).getD i undef=if o<=i/\i<o+vs.length then vs.getD (i-o) undef else aF.getD i undef
 | [],aF,o,i,_=>by
  rw[D0,G (by simp only[R1];omega)]
 |v::vs,aF,o,i,h=>by
  simp only[n_9]at h;rw[D0,L1 vs _ _ _ N4];by_cases h1:o+1<=i/\i<o+1+vs.length
  .rw [W h1,W (by simp only[n_9];omega)];have:i-o=(i- (o+1))+1:=by omega
   rw[this];simp
  .rw [G h1];by_cases h2:i=o
   .subst h2;rw[W (by simp only[n_9];omega)];have ah:i<aF.size:=by omega
    simp[ah]
   .rw [G (by simp only[n_9];omega)];simp[b59 (Ne.symm h2)]
theorem O0{P:Program}{b off:Nat}{t:TypeId}:∀(vs:List Value) (i:Nat) (aF:Array Value) (w:World),w.heap[b]?=some (.cells aF t (0,0))->off+i+vs.length<=aF.size->(∀v∈vs,v.oneCell'=true) ->
 (storeCells ⟨b,off,none⟩ vs i).run P w= .ok () (World.putObj w b (.cells (D0 aF (off+i) vs) t (0,0)))
 | [],i,aF,w,h,_,_=>by
  simp only[storeCells,D0,World.putObj_self w h];rfl
 |v::vs,i,aF,w,h,hl,h1=>by
  simp only[n_9]at hl;have aY:w.cell? ⟨b,off+i,none⟩=some (aF.getD (off+i) undef):=by
   have:off+i<aF.size:=by omega
   simp[World.cell?,h,this]
  have hfz:w.frozen? ⟨b,off+i,none⟩=false:=by simp[World.frozen?,h]
  have hb:b<w.heap.size:=(a1N.1 h).1;simp only[storeCells,V1,Sem.run_bind,run_store P w _ v .plain (h1 v Q),aY,hfz,b7N,if_false,Result.andThen_ok];rw[b1H w v h];have ih:=O0 (P:=P) (off:=off) (t:=t) vs (i+1) (aF.setIfInBounds (off+i) v) (World.putObj w b (.cells (aF.setIfInBounds (off+i) v) t (0,0))) (World.putObj_same w _ hb) N4 (λu hu=>h1 u (by simp[hu]));rw[ih,World.putObj_put];rfl
def O3(cells:List CV)(off:Nat)(new:List CV):List CV:=cells.take off++(new++cells.drop (off+new.length))
theorem a0q{new:List CV}(h:off+new.length<=cells.length):(O3 cells off new).length=cells.length:=by
 simp[O3];omega
theorem a2x{new:List CV}(h:off+new.length<=cells.length)(i:Nat):
 (O3 cells off new)[i]?=if off<=i/\i<off+new.length then new[i-off]? else cells[i]?:=by
 unfold O3;rw[a6j];simp only[b0N,Nat.min_eq_left (show off<=cells.length by omega)]
 split
 .rename_i h1;rw[G J,a2L,W h1]
 .rename_i h1;rw[a6j]
  split
  .rename_i h2;rw[W J]
  .rename_i h2;rw[G J,a5H]
   congr 1;omega
theorem a2p{new:List CV}(h:c∈O3 cells off new):c∈new\/c∈cells:=by
 simp only[O3,W0]at h
 rcases h with h|h|h
 .exact .inr (a6v h)
 .exact .inl h
 .exact .inr (a8H h)
theorem Ext.putObj(o:Obj)(hkp:¬M.keep b)(hf:¬M.full b)(hc:∀o,¬M.cell b o):Ext M w M (World.putObj w b o):=
 ⟨⟨[],Q⟩,λ_ h=>h,λ_ _ h=>.inr h,λb' h=>World.putObj_other w o (λe=>hf (e▸h)),λb' o' h=>L5 (World.putObj_other w o (λe=>hc o' (e▸h))),by rw[World.putObj_size];exact n_6 _,R4,O,O,O,λb' h=>⟨h,World.putObj_other w o (λe=>hkp (e▸h)),id,λ_=>id⟩⟩
theorem Rel.putObj(hr:Rel C M σ w){cR:b9}(hk:M.pl[k]?=some p)(hs:σ[k]?=some cR)(dF:cR.live=true)(hf:¬M.full p.block)(hc:∀o,¬M.cell p.block o)(o:Obj)
 (h:R7 M (World.putObj w p.block o) p ob):Rel C M (σ.set k ob) (World.putObj w p.block o):=by
 have hx:=Ext.putObj (w:=w) o (hr.nk k p cR hk hs dF) hf hc;have hb:p.block <w.heap.size:=(hr.obj k p cR hk hs).1.lt dF;have aw:∀{k':Nat} {x:b9},(σ.set k ob)[k']?=some x->(k'=k/\x=ob)\/(k'≠k/\σ[k']?=some x):=by
  intro k' x hh;rw[b09]at hh;split at hh
  .rename_i e;split at hh
   .injection hh with hh;exact .inl ⟨e.symm,hh.symm⟩
   .cases hh
  .rename_i e;exact .inr ⟨λe'=>e e'.symm,hh⟩
 refine⟨by simp[hr.len],λb o' ha=>by rw[World.putObj_size];exact hr.blk b o' ha,λk' q x aL aC=>?_,λk1 k2 q1 q2 x1 x2 bN bW bv aS cH dv hbb=>?_,λg cells hg=>(hr.glob g cells hg).mono hx,λb h=>(by rw[World.putObj_size];exact hr.kep b h),λk' q x aL aC bU=>?_⟩
 .rcases aw aC with⟨rfl,rfl⟩|⟨aB,aI⟩
  .have:q=p:=by rw[hk]at aL;injection aL with aL;exact aL.symm
   subst this;refine⟨h,?_⟩;cases x<;>first|trivial|exact hf|exact⟨hf,hc⟩
  .obtain ⟨h1,h2⟩:=hr.obj k' q x aL aI;refine⟨?_,h2⟩;by_cases hl:x.live=true
   .refine h1.mono hx (World.putObj_other w o λe=>aB ?_) (λ_ _ _ _ h=>h);exact hr.inj k' k q p x cR aL hk aI hs hl dF e.symm
   .cases x<;>first|trivial|simp[b9.live]at hl
 .have gZ:∀{k':Nat} {x:b9},(σ.set k ob)[k']?=some x->x.live=true->∃x',σ[k']?=some x'/\x'.live=true:=by
   intro k' x hh hl
   rcases aw hh with⟨rfl,rfl⟩|⟨_,aI⟩
   .exact ⟨cR,hs,dF⟩
   .exact ⟨x,aI,hl⟩
  obtain⟨y1,eR,hl1'⟩:=gZ bv cH;obtain⟨y2,hy2,hl2'⟩:=gZ aS dv;exact hr.inj k1 k2 q1 q2 y1 y2 bN bW eR hy2 hl1' hl2' hbb
 .rcases aw aC with⟨rfl,rfl⟩|⟨aB,aI⟩
  .rw [hk]at aL;injection aL with aL
   subst aL;exact hr.nk _ _ cR hk hs dF
  .exact hr.nk k' q x aL aI bU
section
theorem a3n(h:RV M w c v)(ho:c.one=true\/∃cs,c= .agg cs):∀u∈v.cells.toList,u.oneCell'=true:=by
 obtain⟨h1,h2,h3⟩:=h.cells ho;intro u hu;obtain⟨i,hi,rfl⟩:=List.mem_iff_getElem.1 hu;have bh:i<v.cells.size:=H hi;have dd:i<c.cells.length:=by omega
 have:=(h3 i c.cells[i] (by simp[dd])).one (h2 _ (b9D dd));simpa[bh]using this
theorem i9(ho:o.op = .store t x y)(hx:E.valid x)(hy:E.valid y)(ex:E.val C x= .ptr k off)(ey:E.val C y=c)(hs:∀w,(sizeOf t).run C.P w= .ok s w)
 (hc:c.one=true\/∃cs,c= .agg cs)(hk:σ[k]?=some (.boxT t0 cells))(hl:c.cells.length=s)(ah:off+s<=cells.length)(h:K (.ret (.val undef)) (σ.set k (.boxT t0 (O3 cells off c.cells)))):D3 C σ E o K:=λM w ρ hr hh=>by
 have h1:=hh x w8 hx;have h2:=hh y w8 hy;rw[ex]at h1;rw[ey]at h2;generalize hu:ρ x=u at h1;cases h1 with
 |ptr hp=>
  rename_i p;obtain⟨⟨ap,ty,e1,e2,e3,e4⟩,hf,dw⟩:=hr.obj k p _ hp hk;obtain⟨g1,g2,g3⟩:=h2.cells hc;have aO:=a3n h2 hc;have aJ:off+c.cells.length<=cells.length:=by omega
  have ay:(execOp ρ o).run C.P w= .ok .skip (World.putObj w p.block (.cells (D0 ap off (ρ y).cells.toList) (t0.getD ty) (0,0))):=by
   have:=O0 (P:=C.P) (b:=p.block) (off:=off) (t:=t0.getD ty) (ρ y).cells.toList 0 ap w e1 N4 aO;simp only[b1q]at this;simp[execOp,ho,hu,Instr.storeAt,Instr.sureAddr,storeVar,hs,g1,hl,this]
  rw[ay];have hx:=Ext.putObj (w:=w) (.cells (D0 ap off (ρ y).cells.toList) (t0.getD ty) (0,0)) (hr.nk k p _ hp hk O) hf dw;have hb:p.block <w.heap.size:=(a1N.1 e1).1;refine⟨.val undef,_,M,hx,hr.putObj (ob:=.boxT t0 (O3 cells off c.cells)) hp hk O hf dw _ ⟨_,ty,World.putObj_same w _ hb,by rw[I1,a0q aJ,e2],λc' aM=>?_,λi c' hi=>?_⟩,.val _,h⟩
  .rcases a2p aM with h'|h'
   .exact g2 _ h'
   .exact e3 _ h'
  .rw [L1 _ _ _ _ N4];rw[a2x aJ]at hi;simp only[a9u,g1];split at hi
   .rename_i bL;rw[W bL];have:=(g3 _ _ hi).mono hx;simpa using this
   .rename_i bL;rw[G bL];exact(e4 _ _ hi).mono hx
theorem b0R(ho:o.op = .call {callee:=.value (.func f),args:=xs,argTypes:=ts})(az:∀args w,(callFunc f args).run C.P w= .ok (.enter f args) w)
 (hv:∀x∈xs.toList,E.valid x)(ea:xs.toList.map (E.val C)=cargs)(h:b8 C f cargs σ K):D3 C σ E o K:=λM w ρ hr hh=>by
 have hf:RV M w (.val (.func (.func f) #[] #[])) (ρ (.func f)):=hh (.func f) L4 D;have ef:=p8 hf;have ay:(execOp ρ o).run C.P w= .ok (.enter f (xs.map ρ)) w:=by
  simp[execOp,ho,resolve,ef,Deferred.ofValue,invoke,az]
 rw[ay];refine(h M w (xs.map ρ) hr (by simp[<- ea]) λi c hi=>?_).mono λe w' he=>by cases e<;>exact he
 subst ea;simp only[P8,M6]at hi;obtain⟨x,hx,rfl⟩:=hi;have aC:xs[i]?=some x:=H hx;have hm:x∈xs:=b4J aC;have:(xs.map ρ).getD i undef=ρ x:=by
  rw[a0D,c0q,aC];rfl
 rw[this];exact hh x (by simp[ho,Op.operands,Call.operands,hm]) (hv x (H hm))
def b1T(co:Array (Nat×Nat))(cells:List CV):List (Nat×CV)->Option (List CV)
 | []=>some cells
 |(i,c)::rest=>
  match co[i]? with
  |none=>none
  |some (off,size)=>if c.cells.length=size/\off+size<=cells.length then b1T co (O3 cells off c.cells) rest else none
theorem a4A:∀(vs:List Value) (cs:Array Value) (off j:Nat),(vs.zipIdx j).foldl (λcs (x:Value×Nat)=>cs.setIfInBounds (off+x.2) x.1) cs=D0 cs (off+j) vs
 | [],_,_,_=>rfl
 |v::vs,cs,off,j=>by
  rw[List.zipIdx_cons,List.foldl_cons,a4A vs _ off (j+1)];rfl
theorem b8x{M:A5}{w:World}{co:Array (Nat×Nat)}{place:Nat->Option (Nat×Nat)}(bf:∀i,place i=co[i]?):∀(ps:List (Nat×CV)) (qs:List (Nat×Value)) (cells:List CV) (ap:Array Value) (out:List CV),
 b1T co cells ps=some out->ps.map (·.1)=qs.map (·.1)->(∀(i:Nat) (x:Nat×CV) (y:Nat×Value),ps[i]?=some x->qs[i]?=some y->RV M w x.2 y.2/\(x.2.one=true\/∃cs,x.2 = .agg cs)) ->
 ap.size=cells.length->(∀c∈cells,c.one=true)->(∀(i:Nat) (c:CV),cells[i]?=some c->RV M w c (ap.getD i undef)) ->
 ∃r,Instr.fill place ap qs=some r/\RV M w (.agg out) (.agg r)
 | [],[],cells,ap,out,h,_,_,h2,h3,h4=>by
  simp only[b1T,Option.some.injEq]at h;subst h;exact⟨ap,O,.agg h2 h3 h4⟩
 | [],q::qs,_,_,_,_,h,_,_,_,_=>by simp at h
 |p::ps,[],_,_,_,_,h,_,_,_,_=>by simp at h
 |(i,c)::ps,(i',v)::qs,cells,ap,out,h,hm,bg,h2,h3,h4=>by
  simp only[a8w,List.cons.injEq]at hm;obtain⟨rfl,hm⟩:=hm;simp only[b1T]at h;cases hp:co[i]? with
  |none=>rw[hp]at h;cases h
  |some x=>
   obtain⟨off,size⟩:=x;rw[hp]at h;simp only at h;split at h
   .rename_i hc;obtain⟨di,dT⟩:=hc;obtain⟨hv,aO⟩:=bg 0 (i,c) (i,v) O O;obtain⟨g1,g2,g3⟩:=hv.cells aO;have g1:v.cells.size=c.cells.length:=g1;have aJ:off+c.cells.length<=cells.length:=by omega
    have hZ:(v.cells.zipIdx.foldl (λcs (x:Value×Nat)=>cs.setIfInBounds (off+x.2) x.1) ap)=D0 ap off v.cells.toList:=by
     rw[<- Array.foldl_toList,Array.toList_zipIdx,a4A];rfl
    have ih:=b8x bf ps qs (O3 cells off c.cells) (D0 ap off v.cells.toList) out h hm (λj x y hx hy=>bg (j+1) x y (H hx) (H hy)) (by rw[I1,a0q aJ,h2])
     (λc' aM=>by
      rcases a2p aM with h'|h'
      .exact g2 _ h'
      .exact h3 _ h')
     (λj c' hj=>by
      rw[L1 _ _ _ _ N4];rw[a2x aJ]at hj;simp only[a9u,g1];split at hj
      .rename_i bL;rw[W bL];have:=g3 _ _ hj;simpa using this
      .rename_i bL;rw[G bL];exact h4 _ _ hj)
    obtain⟨r,aQ,bq⟩:=ih;refine⟨r,?_,bq⟩;simp only[Instr.fill,bf,hp];rw[G N4];exact(D9 (λz=>Instr.fill place z qs) hZ).trans aQ
   .cases h
theorem d0N{fs:Array Field}{co:Array (Nat×Nat)}{out:List CV}(ho:o.op = .build t parts)(hv:∀x∈parts.toList,E.valid x.2)
 (hu:∀w,(underlying t).run C.P w= .ok (.struct fs) w)(hz:∀w,(zeroValue t).run C.P w= .ok z w)(bV:K4 z=true)(cU:∃cs,H8 z= .agg cs)
 (bf:∀w,(fs.mapM λ(f:Field)=>do pure (f.offset,<- sizeOf f.type)).run C.P w= .ok co w)(ep:parts.toList.map (λx=>(x.1,E.val C x.2))=ps)
 (aO:∀x∈ps,x.2.one=true\/∃cs,x.2 = .agg cs)(bp:b1T co (H8 z).cells ps=some out):Yields C σ E o (.agg out):=
 i8 λM w ρ hr h=>by
  have eX:RV M w (H8 z) z:=a0v bV;obtain⟨g1,g2,g3⟩:=eX.cells (.inr cU);have bo:∀x∈parts.toList,x.2∈o.op.operands:=λx hx=>by
   rw[ho];simp only[Op.operands,List.mem_toArray,H9];exact⟨x,hx,O⟩
  obtain⟨r,aQ,bq⟩:=b8x (M:=M) (w:=w) (place:=λi=>co[i]?) W9 ps (parts.toList.map λx=>(x.1,ρ x.2)) (H8 z).cells z.cells out bp (by simp[<- ep]) (λi x y hx hy=>by
   refine⟨?_,aO x (n_2 hx)⟩;subst ep;simp only[P8,M6]at hx hy;obtain⟨a,ha,rfl⟩:=hx;obtain⟨a',bR,rfl⟩:=hy;have:a=a':=by rw[ha]at bR;injection bR
   subst this;have hm:=n_2 ha;exact h _ (bo _ hm) (hv _ hm)) g1 g2 g3
  refine⟨.agg r,?_,bq⟩;have hl:(parts.map λx=>(x.1,ρ x.2)).toList=parts.toList.map λx=>(x.1,ρ x.2):=by simp
  simp only[execOp,ho,Instr.build,Sem.run_bind,hz,Result.andThen_ok,hu,bf];simp only[hl,aQ];rfl
end
def b4x(e:Edge):Bool:=Region.binds .any e
section
variable{ae:Array Oper}{E':Env}{a:Act}{Ji:A8->Env->List b9->Prop}
def J9(C:Ctx)(σ:List b9)(ae:Array Oper)(o:Oper)(E:Env)(c:CV)(g:Prop):Prop:=
 (o.guard=none/\g/\Yields C σ E o c) \/
 (∃j t av b,o.guard=some (j,av)/\(ae[j]?).bind (·.dst)=some t/\(¬E.ok t->E.un t)/\E.f t= .val (.bool b)/\(g↔(E.ok t/\b=av))/\(E.ok t->b=av->Yields C σ E o c))
def a0f(C:Ctx)(σ:List b9)(ae:Array Oper)(K:Env->Prop):List Oper->Env->Prop
 | [],E=>K E
 |o::l,E=>∃c g,J9 C σ ae o E c g/\a0f C σ ae K l (E.put o.dst c g)
theorem a1m{K:Env->Prop}(h:K E):a0f C σ ae K [] E:=h
theorem d9H{K:Env->Prop}(hg:o.guard=none)(hy:Yields C σ E o c)(h:a0f C σ ae K l (E.put o.dst c True)):a0f C σ ae K (o::l) E:=
 ⟨c,True,.inl ⟨hg,D,hy⟩,h⟩
theorem L8{K:Env->Prop}{t:Nat}{b:Bool}(hg:o.guard=some (j,av))(ht:(ae[j]?).bind (·.dst)=some t)(hv:E.ok t)(hb:E.f t= .val (.bool b))
 (hy:b=av->Yields C σ E o c)(h:a0f C σ ae K l (E.put o.dst c (b=av))):a0f C σ ae K (o::l) E:=
 ⟨c,b=av,.inr ⟨j,t,av,b,hg,ht,λh=>absurd hv h,hb,⟨λh=>⟨hv,h⟩,λh=>h.2⟩,λ_=>hy⟩,h⟩
theorem a4p{K:Env->Prop}{t:Nat}{b:Bool}(hg:o.guard=some (j,av))(ht:(ae[j]?).bind (·.dst)=some t)(hv:¬E.ok t->E.un t)(hb:E.f t= .val (.bool b))
 (hy:E.ok t->b=av->Yields C σ E o c)(h:a0f C σ ae K l (E.put o.dst c (E.ok t/\b=av))):a0f C σ ae K (o::l) E:=
 ⟨c,E.ok t/\b=av,.inr ⟨j,t,av,b,hg,ht,hv,hb,Iff.rfl,hy⟩,h⟩
def Env.agree(t:Nat)(E E':Env):Prop:=E.f t=E'.f t/\E.ok t=E'.ok t/\E.un t=E'.un t
theorem b2Y{t:Nat}{d:Option Nat}(hd:d≠some t):E.agree t (E.put d c g):=by
 cases d with
 |none=>exact⟨O,O,O⟩
 |some d=>
  have ht:t≠d:=λe=>hd (by rw[e]);unfold Env.agree;simp only[Env.put_f,Env.put_ok,Env.put_un,G ht,and_self]
theorem Env.agree.symm{t:Nat}(h:E.agree t E'):E'.agree t E:=⟨h.1.symm,h.2.1.symm,h.2.2.symm⟩
theorem c6h{d d':Option Nat}{g':Prop}(h:∀t,d=some t->d'≠some t):(E.put d c g).put d' c' g'=(E.put d' c' g').put d c g:=by
 cases d with
 |none=>rfl
 |some d=>
  cases d' with
  |none=>rfl
  |some d'=>
   have aB:¬d=d':=λe=>h d O (by rw[e]);simp only[Env.put,Env.putO]
   congr 1<;>funext t<;>cases h1:Nat.beq t d<;>cases h2:Nat.beq t d'<;>first|rfl|exact absurd ((a2a h1).symm.trans (a2a h2)) aB
theorem c0x{t:Nat}(h:Operand.tmp t∈o.op.operands):t∈o.looksAt ae:=
 b70 _ (c0L.2 ⟨.tmp t,H h,O⟩)
theorem a58{t:Nat}(hg:o.guard=some (j,av))(ht:(ae[j]?).bind (·.dst)=some t):t∈o.looksAt ae:=by
 unfold Oper.looksAt;rw[hg];exact List.mem_append_right _ (by simp[ht])
theorem a6w(h:∀t∈o.looksAt ae,E.agree t E')(hd:D3 C σ E o K):D3 C σ E' o K:=λM w ρ hr hx=>hd M w ρ hr λx hm hv=>by
 cases x with
 |tmp t=>
  have h1:=h t (c0x hm);show RV M w (E.f t) _;rw[h1.1];exact hx (.tmp t) hm (cast h1.2.1 hv)
 |const v=>exact hx (.const v) hm hv
 |global v=>exact hx (.global v) hm hv
 |func v=>exact hx (.func v) hm hv
theorem a6I(h:∀t∈o.looksAt ae,E.agree t E')(hd:J9 C σ ae o E c g):J9 C σ ae o E' c g:=by
 rcases hd with⟨h1,h2,h3⟩|⟨j,t,av,b,hg,ht,h1,h2,h3,h4⟩
 .exact .inl ⟨h1,h2,a6w h h3⟩
 .obtain ⟨a1,a2,a3⟩:=h t (a58 hg ht);refine .inr ⟨j,t,av,b,hg,ht,?_,?_,?_,?_⟩
  .rw [<- a2,<- a3];exact h1
  .rw [<- a1];exact h2
  .rw [<- a2];exact h3
  .rw [<- a2];exact λk1 k2=>a6w h (h4 k1 k2)
def c0Z(C:Ctx)(ae:Array Oper)(o:Oper)(E:Env)(σ:List b9)(K:CV->Prop->List b9->Prop)(Kp:CV->List b9->Prop):Prop:=
 ∃j t av b c0,o.guard=some (j,av)/\(ae[j]?).bind (·.dst)=some t/\E.ok t/\E.f t= .val (.bool b)/\(b=av->D3 C σ E o λr aa=>match r with| .ret c=>K c (b=av) aa| .pan c=>Kp c aa)/\(¬b=av->K c0 (b=av) σ)
def b68(C:Ctx)(ae:Array Oper)(o:Oper)(E:Env)(σ:List b9)(K:CV->Prop->List b9->Prop)(Kp:CV->List b9->Prop):Prop:=
 (o.guard=none/\D3 C σ E o λr aa=>match r with| .ret c=>K c True aa| .pan c=>Kp c aa)\/c0Z C ae o E σ K Kp
theorem a2Q{K K':CV->Prop->List b9->Prop}{Kp:CV->List b9->Prop}(h:∀t∈o.looksAt ae,E.agree t E')(hk:∀c g σ,K c g σ->K' c g σ)(hd:b68 C ae o E σ K Kp):b68 C ae o E' σ K' Kp:=by
 have go:∀{g:Prop},(D3 C σ E o λr aa=>match r with| .ret c=>K c g aa| .pan c=>Kp c aa)->D3 C σ E' o λr aa=>match r with| .ret c=>K' c g aa| .pan c=>Kp c aa:=λhd=>(a6w h hd).mono λr aa hh=>by
  cases r with
  |ret c=>exact hk _ _ _ hh
  |pan c=>exact hh
 rcases hd with⟨h1,h2⟩|⟨j,t,av,b,c0,hg,ht,h1,h2,h3,h4⟩
 .exact .inl ⟨h1,go h2⟩
 .obtain ⟨a1,a2,-⟩:=h t (a58 hg ht);exact .inr ⟨j,t,av,b,c0,hg,ht,a2▸h1,a1▸h2,λe=>go (h3 e),λe=>hk _ _ _ (h4 e)⟩
theorem b32{t:Nat}{b:Bool}(hf:H0 M w n E a)(ht:(ae[j]?).bind (·.dst)=some t)(hv:E.ok t)(hb:E.f t= .val (.bool b)):yielded ae a.tmps j=some b:=by
 have h1:=hf.rv t hv;rw[hb]at h1;have h2:a.tmps.getD t undef= .bool b:=by generalize a.tmps.getD t undef=u at h1;cases h1;rfl
 have aJ:t<a.tmps.size:=by
  rcases a4g t a.tmps.size with h'|h'
  .exact h'
  .simp [b48 h',undef]at h2
 rw[a0D,a2I aJ]at h2;unfold yielded;rw[ht,n_7,a2I aJ,show a.tmps[t]= .bool b from h2]
theorem b35{t:Nat}(hf:H0 M w n E a)(ht:(ae[j]?).bind (·.dst)=some t)(hu:E.un t):yielded ae a.tmps j=none:=by
 have h3:=hf.un t hu;unfold yielded;rw[ht,n_7]
 rcases a4g t a.tmps.size with h'|h'
 .rw [a0D,a2I h']at h3;rw[a2I h',show a.tmps[t]=undef from h3];rfl
 .rw [b48 h']
theorem d2x{R:N8->List b9->Prop}(h:D3 C σ E o R)(hr:Rel C M σ w)(hf:H0 M w n E a){K:Act->World->Prop}{Ji:Exit->Act->World->Prop}(hk:∀c v w' M' aa,Ext M w M' w'->Rel C M' aa w'->RV M' w' c v->R (.ret c) aa->K (a.put o.dst v) w')
 (hp:∀c v w' M' aa,Ext M w M' w'->Rel C M' aa w'->RV M' w' c v->R (.pan c) aa->Ji (.panic [{v,recovered:=false}]) a w'):o.wp C.P a w K Ji:=
 a3R (h M w a.eval hr λ_ _ hx=>hf.eval hr hx) (λv w' ⟨c,aa,M',h1,h2,h3,h4⟩=>hk c v w' M' aa h1 h2 h3 h4) λ_ w' ⟨c,v,aa,M',h0,h1,h2,h3,h4⟩=>h0▸hp c v w' M' aa h1 h2 h3 h4
theorem d8P{K1:CV->Prop->List b9->Prop}{Kp:CV->List b9->Prop}(h:(∃c g,J9 C σ ae o E c g/\K1 c g σ)\/b68 C ae o E σ K1 Kp)(hr:Rel C M σ w)(hf:H0 M w n E a)(hd:∀t,o.dst=some t->t<n){K:Act->World->Prop}{Ji:Exit->Act->World->Prop}(hk:∀c g v w' M' aa,Ext M w M' w'->Rel C M' aa w'->H0 M' w' n (E.put o.dst c g) (a.put o.dst v)->K1 c g aa->K (a.put o.dst v) w')
 (hp:∀c v w' M' aa,Ext M w M' w'->Rel C M' aa w'->RV M' w' c v->Kp c aa->Ji (.panic [{v,recovered:=false}]) a w'):if Region.wanted o (yielded ae a.tmps)=true then o.wp C.P a w K Ji\/(o.asks C.P a w/\LetsOut Ji)else K (a.put o.dst undef) w:=by
 have run:∀{g:Prop},g->(D3 C σ E o λr aa=>match r with| .ret c=>K1 c g aa| .pan c=>Kp c aa)->o.wp C.P a w K Ji:=λhg gL=>d2x gL hr hf (λc v w' M' aa h1 h2 h3 h4=>hk c _ v w' M' aa h1 h2 ((hf.mono h1).put hd (λ_=>h3) λhh=>absurd hg hh) h4) hp;have quiet:∀{c:CV} {g:Prop},g->Yields C σ E o c->K1 c g σ->o.wp C.P a w K Ji:=λhg hy bN=>run hg (hy.mono λr aa hh=>by obtain⟨rfl,rfl⟩:=hh;exact bN);have skip:∀{c:CV} {g:Prop},¬g->K1 c g σ->K (a.put o.dst undef) w:=λhg bN=>hk _ _ _ w M σ (Ext.refl M w) hr (hf.put hd (λhh=>absurd hh hg) λ_=>O) bN;have gw:∀{j t:Nat} {av b:Bool},o.guard=some (j,av)->(ae[j]?).bind (·.dst)=some t->E.ok t->E.f t= .val (.bool b)->Region.wanted o (yielded ae a.tmps)=(b == av):=λ{j t av b} hg ht hv hb=>by
  simp only[Region.wanted,hg,b32 hf ht hv hb];cases b<;>cases av<;>rfl
 rcases h with⟨c,g,⟨hg,hgp,hy⟩|⟨j,t,av,b,hg,ht,cy,hb,hgb,hy⟩,bN⟩|⟨hg,h1⟩|⟨j,t,av,b,c0,hg,ht,hv,hb,h1,h2⟩
 .rw [W (by simp[Region.wanted,hg])];exact .inl (quiet hgp hy bN)
 .by_cases ia:E.ok t
  .rw [gw hg ht ia hb];by_cases cE:b=av
   .rw [W (H cE)];exact .inl (quiet (hgb.2 ⟨ia,cE⟩) (hy ia cE) bN)
   .rw [G (H cE)];exact skip (λhh=>cE (hgb.1 hh).2) bN
  .rw [G (by simp[Region.wanted,hg,b35 hf ht (cy ia)])];exact skip (λhh=>ia (hgb.1 hh).1) bN
 .rw [W (by simp[Region.wanted,hg])];exact .inl (run trivial h1)
 .rw [gw hg ht hv hb];by_cases cE:b=av
  .rw [W (H cE)];exact .inl (run cE (h1 cE))
  .rw [G (H cE)];exact skip cE (h2 cE)
def CA(C:Ctx)(ae:Array Oper)(Ji:A8->Env->List b9->Prop)(Lf:Array Bool)(B:Env->List b9->Prop)(T:Nat->List b9->Prop):Nat->Array Bool->Env->List b9->Prop
 |0,L,E,σ=>L=Lf/\B E σ
 |f+1,L,E,σ=>Region.ready .any ae L≠[]/\∀i∈Region.ready .any ae L,∃o,ae[i]?=some o /\
  ((∃c g,J9 C σ ae o E c g/\CA C ae Ji Lf B T f (L.setIfInBounds i true) (E.put o.dst c g) σ)\/b68 C ae o E σ (λc g aa=>T i aa/\CA C ae Ji Lf B T f (L.setIfInBounds i true) (E.put o.dst c g) aa) λc aa=>∀E',Ji (.pan c) E' aa)
variable{Lf:Array Bool}{B:Env->List b9->Prop}{T T':Nat->List b9->Prop}
theorem a5p(h:∀j σ,T j σ->T' j σ):∀{f:Nat} {L:Array Bool} {E:Env} {σ:List b9},CA C ae Ji Lf B T f L E σ->CA C ae Ji Lf B T' f L E σ
 |0,_,_,_,hc=>hc
 |f+1,_,_,_,⟨h0,hc⟩=>⟨h0,λi hi=>by
  obtain⟨o,ho,hc⟩:=hc i hi;exact⟨o,ho,hc.imp (λ⟨c,g,h1,h2⟩=>⟨c,g,h1,a5p h h2⟩) (a2Q (λ_ _=>⟨O,O,O⟩) λ_ _ _ hh=>⟨h _ _ hh.1,a5p h hh.2⟩)⟩⟩
theorem b4v{M0:A5}{w0:World}{f0:Nat}(hd:∀(i:Nat) (o:Oper),ae[i]?=some o->∀t,o.dst=some t->t<n)(hB:∀E σ M w a,B E σ->Ext M0 w0 M w->Rel C M σ w->H0 M w n E a->wpAny C.P .any ae (R0 C n Ji M0 w0) f0 Lf a w):∀{f:Nat} {L:Array Bool} {E:Env} {σ:List b9} {M:A5} {w:World} {a:Act},CA C ae Ji Lf B T f L E σ->Ext M0 w0 M w->Rel C M σ w->H0 M w n E a->wpAny C.P .any ae (R0 C n Ji M0 w0) (f0+f) L a w
 |0,_,E,σ,M,w,a,⟨h1,h2⟩,hx,hr,hf=>by subst h1;exact hB E σ M w a h2 hx hr hf
 |f+1,L,E,σ,M,w,a,⟨h0,hc⟩,hx,hr,hf=>⟨λh=>absurd h h0,λi hi=>by
  obtain⟨o,ho,hc⟩:=hc i hi;unfold wpOp;simp only[ho];refine d8P (K1:=λc g aa=>CA C ae Ji Lf B T f (L.setIfInBounds i true) (E.put o.dst c g) aa) (Kp:=λc aa=>∀E',Ji (.pan c) E' aa) ?_ hr hf (hd i o ho) (λc g v w' M' aa h1 h2 h3 h4=>b4v hd hB h4 (hx.trans h1) h2 h3) (λc v w' M' aa h1 h2 h3 h4=>⟨E,aa,M',hx.trans h1,h2,hf.mono h1,c,v,O,h3,h4 E⟩);exact hc.imp id (a2Q (λ_ _=>⟨O,O,O⟩) λ_ _ _ hh=>hh.2)⟩
theorem d1r{L:Array Bool}(h:L.getD k false=true):k<L.size/\L.getD k true=true:=by
 rcases a4g k L.size with h'|h'
 .exact ⟨h',by simpa[h']using h⟩
 .simp [b48 h']at h
theorem c94{oi:Oper}(Jb:Nat->Bool)(F:List b9->Prop)(hoi:ae[i]?=some oi)(hD:∀j o,ae[j]?=some o->Jb j=true->∃e∈o.after,b4x e=true/\(e.on=i\/Jb e.on=true))(hLf:∀j o,ae[j]?=some o->j≠i->Jb j=false->Lf.getD j true=true):
 ∀{f:Nat} {L:Array Bool} {E:Env} {σ:List b9},(∀j,j<L.size->Jb j=true->L.getD j true=false)->(∀j o,ae[j]?=some o->j≠i->Jb j=false->L.getD j true=false->oi.apart ae o=true)->i∈Region.ready .any ae L->(∀aa,F aa->J9 C aa ae oi E c g)->J9 C σ ae oi E c g ->
  CA C ae Ji Lf B (λj aa=>T j aa/\(Jb j=false->F aa)) f (L.setIfInBounds i true) (E.put oi.dst c g) σ->CA C ae Ji Lf B T (f+1) L E σ:=by
 have noD:∀{L:Array Bool} {j:Nat},(∀j,j<L.size->Jb j=true->L.getD j true=false)->i∈Region.ready .any ae L->j∈Region.ready .any ae L->Jb j=false:=λ{L j} hDL hi hj=>by
  cases hDj:Jb j with
  |false=>rfl
  |true=>
   obtain⟨_,o,ho,aK⟩:=mem_ready.1 hj;obtain⟨e,he,hb,hh⟩:=hD j o ho hDj;obtain⟨h1,h2⟩:=d1r (aK e he hb)
   rcases hh with hh|hh
   .rw [hh,(mem_ready.1 hi).1]at h2;cases h2
   .rw [hDL _ h1 hh]at h2;cases h2
 have own:∀{f:Nat} {L:Array Bool} {E:Env} {σ:List b9},J9 C σ ae oi E c g->CA C ae Ji Lf B (λj aa=>T j aa/\(Jb j=false->F aa)) f (L.setIfInBounds i true) (E.put oi.dst c g) σ->∃o,ae[i]?=some o /\
  ((∃c g,J9 C σ ae o E c g/\CA C ae Ji Lf B T f (L.setIfInBounds i true) (E.put o.dst c g) σ)\/b68 C ae o E σ (λc g aa=>T i aa/\CA C ae Ji Lf B T f (L.setIfInBounds i true) (E.put o.dst c g) aa) λc aa=>∀E',Ji (.pan c) E' aa):=λh1 h2=>⟨oi,hoi,.inl ⟨c,g,h1,a5p (λ_ _ h=>h.1) h2⟩⟩
 intro f
 induction f with
 |zero=>
  intro L E σ hDL hap hi hF bn hc;refine⟨λh=>(by rw[h]at hi;cases hi),λj hj=>?_⟩;by_cases ee:j=i
  .subst ee;exact own bn hc
  .exfalso;obtain⟨h1,o,ho,_⟩:=mem_ready.1 hj;have h2:=hLf j o ho ee (noD hDL hi hj);rw[<- hc.1,getD_set_ne true (Ne.symm ee),h1]at h2;cases h2
 |succ f ih=>
  intro L E σ hDL hap hi hF bn hc;refine⟨λh=>(by rw[h]at hi;cases hi),λj hj=>?_⟩;by_cases ee:j=i
  .subst ee;exact own bn hc
  .have hDj:=noD hDL hi hj;obtain⟨o,ho,hcj⟩:=hc.2 j (ready_mono hj ee);obtain⟨a1,a2,a3⟩:=Oper.apart_spec (hap j o ho ee hDj (mem_ready.1 hj).1);have gZ:∀t∈o.looksAt ae,(E.put oi.dst c g).agree t E:=λt ht=>(b2Y λe=>a1 t e ht).symm;have next:∀(c':CV) (g':Prop) (aa:List b9),J9 C aa ae oi E c g->CA C ae Ji Lf B (λj aa=>T j aa/\(Jb j=false->F aa)) f ((L.setIfInBounds i true).setIfInBounds j true) ((E.put oi.dst c g).put o.dst c' g') aa->CA C ae Ji Lf B T (f+1) (L.setIfInBounds j true) (E.put o.dst c' g') aa:=λc' g' aa h1 h2=>by
    have fw:∀t∈oi.looksAt ae,E.agree t (E.put o.dst c' g'):=λt ht=>b2Y λe=>a3 t e ht;refine ih (λk hk hDk=>?_) (λk ok hk hki hDk hun=>hap k ok hk hki hDk ?_) (ready_mono hi (Ne.symm ee)) (λaa h=>a6I fw (hF aa h)) (a6I fw h1) ?_
    .have hjk:j≠k:=λe=>by rw[e,hDk]at hDj;cases hDj
     rw[getD_set_ne true hjk];exact hDL k (H hk) hDk
    .by_cases hjk:j=k
     .subst hjk;exact(mem_ready.1 hj).1
     .rw [getD_set_ne true hjk]at hun;exact hun
    .rw [Array.setIfInBounds_comm _ _ ee,<- c6h λt e=>a2 t e];exact h2
   refine⟨o,ho,hcj.imp (λ⟨c',g',h1,h2⟩=>⟨c',g',a6I gZ h1,next c' g' σ bn h2⟩) (a2Q gZ λc' g' aa hh=>⟨hh.1.1,next c' g' aa (hF aa (hh.1.2 hDj)) hh.2⟩)⟩
def a1k(L:Array Bool)(l:List Nat):Array Bool:=l.foldl (λL i=>L.setIfInBounds i true) L
def b4f(ae:Array Oper)(ms:List Nat)(Lf L:Array Bool)(i:Nat):Bool:=(Region.ready .any ae L).contains i&& (List.range L.size).all (λj=>!(ms.getD j 0).testBit i || !(L.getD j true))&& (List.range ae.size).all λj=>match ae[j]? with
 |none=>true
 |some o=>match(ms.getD j 0).testBit i with
  |true=>o.after.toList.any λe=>b4x e&& (Nat.beq e.on i ||(ms.getD e.on 0).testBit i)
  |false=>Nat.beq j i ||(Lf.getD j true&& (L.getD j true ||match ae[i]? with
   |some oi=>oi.apart ae o
   |none=>true))
theorem c6R{ms:List Nat}{L:Array Bool}{f:Nat}{oi:Oper}(F:List b9->Prop)(hB:b4f ae ms Lf L i=true)(hoi:ae[i]?=some oi)(hF:∀aa,F aa->J9 C aa ae oi E c g)(bn:J9 C σ ae oi E c g)(h:CA C ae Ji Lf B (λj aa=>T j aa/\((ms.getD j 0).testBit i=false->F aa)) f (L.setIfInBounds i true) (E.put oi.dst c g) σ):CA C ae Ji Lf B T (f+1) L E σ:=by
 simp only[b4f,O5,a2d,List.mem_range]at hB;obtain⟨⟨h1,h2⟩,h3⟩:=hB;have h4:∀j o,ae[j]?=some o->_:=λj o ho=>by
  have:=h3 j (a1N.1 ho).1;rw[ho]at this;exact this
 refine c94 (λj=>(ms.getD j 0).testBit i) F hoi (λj o ho (hD:(ms.getD j 0).testBit i=true)=>?_) (λj o ho ee (hD:(ms.getD j 0).testBit i=false)=>?_) (λj hj (hD:(ms.getD j 0).testBit i=true)=>?_) (λj o ho ee (hD:(ms.getD j 0).testBit i=false) hun=>?_) (H h1) hF bn h
 .have:=h4 j o ho;simp only[hD]at this;obtain⟨e,he,hh⟩:=List.any_eq_true.1 this;simp only[O5,b2p]at hh;exact⟨e,H he,hh.1,hh.2.imp a2a id⟩
 .have:=h4 j o ho;simp only[hD,O5,b2p]at this
  rcases this with h|h
  .exact absurd (a2a h) ee
  .exact h.1
 .have:=h2 j hj;rw[hD]at this;simpa using this
 .have:=h4 j o ho;simp only[hD,hoi,O5,b2p]at this
  rcases this with h|⟨_,h|h⟩
  .exact absurd (a2a h) ee
  .rw [hun]at h;cases h
  .exact h
def a0T(C:Ctx)(σ:List b9)(ae:Array Oper)(K:Env->List (List b9->Prop)->Prop):List Nat->Env->List (List b9->Prop)->Prop
 | [],E,S=>K E S
 |i::l,E,S=>∃o c g,ae[i]?=some o/\J9 C σ ae o E c g/\a0T C σ ae K l (E.put o.dst c g) (S++[λaa=>J9 C aa ae o E c g])
def a8v(ae:Array Oper)(ms:List Nat)(Lf:Array Bool):List Nat->Array Bool->Bool
 | [],_=>true
 |i::l,L=>b4f ae ms Lf L i&&a8v ae ms Lf l (L.setIfInBounds i true)
def TF(ms:List Nat):List Nat->List (List b9->Prop)->Nat->List b9->Prop
 |i::l,F::S,j,σ=>((ms.getD j 0).testBit i=false->F σ)/\TF ms l S j σ
 |_,_,_,_=>True
theorem a65{ms:List Nat}{K:Env->List (List b9->Prop)->Prop}{f:Nat}:∀{l:List Nat} {L:Array Bool} {E:Env} {S:List (List b9->Prop)} {T:Nat->List b9->Prop},a8v ae ms Lf l L=true->a0T C σ ae K l E S->(∀E' S',K E' (S++S')->CA C ae Ji Lf B (λj aa=>T j aa/\TF ms l S' j aa) f (a1k L l) E' σ)->CA C ae Ji Lf B T (f+l.length) L E σ
 | [],L,E,S,T,_,h,k=>a5p (λ_ _ h=>h.1) (k E [] (by rw[a1f];exact h))
 |i::l,L,E,S,T,hB,⟨o,c,g,ho,bn,h⟩,k=>by
  rw[a8v,O5]at hB;refine c6R (λaa=>J9 C aa ae o E c g) hB.1 ho (λ_ h=>h) bn (a65 hB.2 h λE' S' hk=>a5p (λj aa hh=>?_) (k E' ((λaa=>J9 C aa ae o E c g)::S') (by rw[H4]at hk;exact hk)));exact⟨⟨hh.1,hh.2.1⟩,hh.2.2⟩
theorem c0T{K:Env->Prop}:∀(l:List Oper) (k:Nat) (E:Env) (S:List (List b9->Prop)),(∀i,i<l.length->l[i]?=ae[k+i]?)->a0f C σ ae K l E->a0T C σ ae (λE' _=>K E') (List.range' k l.length) E S
 | [],_,_,_,_,h=>h
 |o::l,k,E,S,hl,⟨c,g,h1,h2⟩=>⟨o,c,g,(hl 0 (Nat.zero_lt_succ _)).symm,h1,c0T l (k+1) _ _ (λi hi=>by
  have:=hl (i+1) (Nat.succ_lt_succ hi);rw[show k+1+i=k+(i+1) by omega];simpa using this) h2⟩
def d2e(ae:Array Oper):List Nat->Array Bool->Bool
 | [],L=>(Region.ready .any ae L).isEmpty
 |i::l,L=>(match Region.ready .any ae L with
  | [j]=>Nat.beq j i
  |_=>false)&&d2e ae l (L.setIfInBounds i true)
theorem a1F{L:Array Bool}{i:Nat}(h:(match Region.ready .any ae L with
 | [j]=>Nat.beq j i
 |_=>false)=true):Region.ready .any ae L=[i]:=by
 split at h
 .rename_i j hj;rw[hj,a2a h]
 .cases h
theorem b54{Ji:Exit->Act->World->Prop}:∀(l:List Oper) (k:Nat) (L:Array Bool) (a:Act) (w:World),(∀i,i<l.length->l[i]?=ae[k+i]?)->d2e ae (List.range' k l.length) L=true->wpList C.P ae Ji l a w->wpAny C.P .any ae Ji l.length L a w
 | [],_,L,a,w,_,hB,h=>⟨b6V.1 hB,h⟩
 |o::l,k,L,a,w,hl,hB,h=>by
  rw[n_9,List.range'_succ,d2e,O5]at hB;have h1:=a1F hB.1;have ho:ae[k]?=some o:=(hl 0 (Nat.zero_lt_succ _)).symm;have hK:∀a w,wpList C.P ae Ji l a w->wpAny C.P .any ae Ji l.length (L.setIfInBounds k true) a w:=λa w h=>b54 l (k+1) _ a w (λi hi=>by
   have:=hl (i+1) (Nat.succ_lt_succ hi);rw[show k+1+i=k+(i+1) by omega];simpa using this) hB.2 h
  refine⟨λh0=>(by rw[h1]at h0;cases h0),λi hi=>?_⟩;rw[h1,a9t]at hi;subst hi;unfold wpList at h;unfold wpOp;simp only[ho]
  split
  .rename_i hw;rw[W hw]at h;exact h.imp (Oper.wp_mono hK) id
  .rename_i hw;rw[G hw]at h;exact hK _ _ h
theorem Rel.drew(hr:Rel C M σ w):Rel C M σ {w with drawn:=w.drawn+1}/\Ext M w M {w with drawn:=w.drawn+1}:=by
 have hx:Ext M w M {w with drawn:=w.drawn+1}:=⟨⟨[],Q⟩,λ_ h=>h,λ_ _ h=>.inr h,λ_ _=>O,λ_ _ _=>O,n_6 _,R4,O,O,O,λ_ h=>⟨h,O,id,λ_=>id⟩⟩;refine⟨⟨hr.len,hr.blk,λk p ob hk hs=>⟨(hr.obj k p ob hk hs).1.mono hx O (λ_ _ _ _ h=>h),(hr.obj k p ob hk hs).2⟩,hr.inj,λg cells hg=>(hr.glob g cells hg).mono hx,hr.kep,hr.nk⟩,hx⟩
theorem b4C(hd:(ae.toList.all λo=>match o.dst with|some d=>Nat.blt d n|none=>true)=true)(i:Nat)(o:Oper)(ho:ae[i]?=some o)(t:Nat)(ht:o.dst=some t):t<n:=by
 rw[a2d]at hd;have:=hd o (by simpa using b4J ho);rw[ht]at this;simpa[a94]using this
def L0(ae:Array Oper):Array Bool:=Array.replicate ae.size false
def b7F(ae:Array Oper)(nh:Nat)(ms:List Nat):Bool:=Nat.ble nh ae.size &&a8v ae ms (a1k (L0 ae) (List.range' 0 nh)) (List.range' 0 nh) (L0 ae)&&d2e ae (List.range' nh (ae.size -nh)) (a1k (L0 ae) (List.range' 0 nh))
theorem c8Z(nh:Nat)(ms:List Nat)(hB:b7F ae nh ms=true)(hd:(ae.toList.all λo=>match o.dst with|some d=>Nat.blt d n|none=>true)=true)
 (h:a0f C σ ae (λE'=>G5 C n ae Ji (ae.toList.drop nh) E' σ) (ae.toList.take nh) E)(hr:Rel C M σ w)(hf:H0 M w n E a):wpAny C.P .any ae (R0 C n Ji M w) ae.size (L0 ae) a {w with drawn:=w.drawn+1}:=by
 simp only[b7F,O5]at hB;obtain⟨⟨h1,h2⟩,h3⟩:=hB;have hnh:=nb h1;obtain⟨bl,hx⟩:=hr.drew;have ah:(ae.toList.take nh).length=nh:=by simp;omega
 have hld:(ae.toList.drop nh).length=ae.size -nh:=by simp
 have hc:=c0T (S:=[]) _ 0 E (λi hi=>by rw[a2L,W J,P2,Array.getElem?_toList]) h;rw[ah]at hc;have:=b4v (f0:=ae.size -nh) (b4C hd) (λE σ M1 w1 a1 hB bv aQ dg=>by
  rw[<- hld]at h3⊢;exact b54 _ nh _ a1 w1 (λi hi=>by rw[a5H,Array.getElem?_toList]) h3 (hB.later bv aQ dg)) (a65 (T:=λ_ _=>True) (f:=0) (B:=λE' aa=>G5 C n ae Ji (ae.toList.drop nh) E' aa) h2 hc λE' S' hk=>⟨O,hk⟩) hx bl (hf.mono hx)
 rw[P2,List.length_range',show ae.size -nh+nh=ae.size by omega]at this;exact this
theorem c1B{id:Nat}(nh:Nat)(ms:List Nat)(hm:C.P.follows .mixedOrders=true)(hB:b7F ae nh ms=true)(hd:(ae.toList.all λo=>match o.dst with|some d=>Nat.blt d n|none=>true)=true)
 (h:a0f C σ ae (λE'=>G5 C n ae Ji (ae.toList.drop nh) E' σ) (ae.toList.take nh) E):CWp C n (.region id ae true) Ji E σ:=λM w a hr hf=>wp_region_any hm (c8Z nh ms hB hd h hr hf)
end
def Env.valids(E:Env):List Operand->Prop
 | []=>True
 |x::l=>E.valid x/\E.valids l
def Env.vals(C:Ctx)(E:Env):List Operand->List CV
 | []=>[]
 |x::l=>E.val C x::E.vals C l
theorem Env.valids_mem:∀{l:List Operand},E.valids l->∀x∈l,E.valid x
 | [],_,x,h=>by simp at h
 |y::l,⟨h1,h2⟩,x,h=>by
  rcases J6.1 h with rfl|h
  .exact h1
  .exact Env.valids_mem h2 x h
theorem Env.vals_map:∀(l:List Operand),l.map (E.val C)=E.vals C l
 | []=>rfl
 |x::l=>by simp[Env.vals,Env.vals_map l]
section
theorem d8f(ho:o.op = .call {callee:=.value (.func f),args:=xs,argTypes:=ts})(az:∀args w,(callFunc f args).run C.P w= .ok (.enter f args) w)
 (hv:E.valids xs.toList)(ea:E.vals C xs.toList=cargs)(h:b8 C f cargs σ λr aa=>r= .ret c/\aa=σ):Yields C σ E o c:=
 b0R ho az (Env.valids_mem hv) ((Env.vals_map _).trans ea) h
def d5B(C:Ctx)(E:Env)(σ:List b9):ResultVar->CV->Prop
 | .tmp t,c=>E.ok t/\E.f t=c
 | .cell a t,c=>E.ok a/\∃k off cells,E.f a= .ptr k off/\σ[k]?=some (.box cells) /\
  (((∀w,(isAgg t).run C.P w= .ok false w)/\cells[off]?=some c)\/(∃s,(∀w,(isAgg t).run C.P w= .ok true w)/\(∀w,(sizeOf t).run C.P w= .ok s w)/\off+s<=cells.length/\c= .agg ((cells.drop off).take s)))
def b9o(C:Ctx)(E:Env)(σ:List b9):List ResultVar->List CV->Prop
 | [],[]=>True
 |r::rs,c::cs=>d5B C E σ r c/\b9o C E σ rs cs
 |_,_=>False
theorem b5m(hr:Rel C M σ w){u:Value}(hu:RV M w (.ptr k off) u)(hk:σ[k]?=some (.box cells))
 (h:((∀w,(isAgg t).run C.P w= .ok false w)/\cells[off]?=some c)\/(∃s,(∀w,(isAgg t).run C.P w= .ok true w)/\(∀w,(sizeOf t).run C.P w= .ok s w)/\off+s<=cells.length/\c= .agg ((cells.drop off).take s))):
 ∃a v,u= .pointer (some a)/\(loadVar t a).run C.P w= .ok v w/\RV M w c v:=by
 cases hu with
 |ptr hp=>
  rename_i p
  rcases h with⟨ha,hc⟩|⟨s,ha,hs,hl,rfl⟩
  .obtain ⟨v,hv,bg,_⟩:=b8N hr hp hk hc;exact⟨_,v,O,by simp[loadVar,ha,hv],bg⟩
  .obtain ⟨ap,ty,h1,h2,h3,h4⟩:=(hr.obj k p _ hp hk).1;have aY:∀j,j<s->w.cell? ⟨p.block,off+j,none⟩=some (ap.getD (off+j) undef):=λj hj=>by
    have:off+j<ap.size:=by omega
    simp[World.cell?,h1,this]
   refine⟨_,.agg ((List.range s).map λj=>ap.getD (off+j) undef).toArray,O,by simp[loadVar,ha,hs,Q3 (P:=C.P) (w:=w) _ s aY],.agg N4 (λc hc=>h3 c (a8H (a6v hc))) (λi c hi=>?_)⟩;have bh:i<s:=by
    have:=(n_3.1 hi).1;simp at this;omega
   rw[a2L,W bh,a5H]at hi;have:=h4 (off+i) c hi;simpa[bh]using this
def a4B(tmps:Array Value):ResultVar->Sem Value:=λ
 | .tmp t=>pure (tmps.getD t undef)
 | .cell a t=>do loadVar t (<- asAddr (tmps.getD a undef))
theorem b4t{M:A5}{w:World}(hr:Rel C M σ w){tmps:Array Value}(h:∀t,E.ok t->RV M w (E.f t) (tmps.getD t undef)):∀(rs:List ResultVar) (cs:List CV),b9o C E σ rs cs ->
 ∃vs:List Value,(rs.mapM (a4B tmps)).run C.P w= .ok vs w/\vs.length=cs.length/\∀(i:Nat) (c:CV),cs[i]?=some c->RV M w c (vs.getD i undef)
 | [],[],_=>⟨[],Q,O,Q⟩
 |r::rs,c::cs,⟨h1,h2⟩=>by
  obtain⟨vs,hv,hl,bg⟩:=b4t hr h rs cs h2;have:∃v,(a4B tmps r).run C.P w= .ok v w/\RV M w c v:=by
   cases r with
   |tmp t=>
    obtain⟨ho,hc⟩:=h1;exact⟨_,by simp[a4B],hc▸h t ho⟩
   |cell a t=>
    obtain⟨ho,k,off,cells,he,hk,hc⟩:=h1;have hu:=h a ho;rw[he]at hu;obtain⟨ad,v,e1,e2,e3⟩:=b5m hr hu hk hc;exact⟨v,by simp only[a4B,e1,asAddr,Sem.run_bind,Sem.run_pure,Result.andThen_ok,e2],e3⟩
  obtain⟨v,eY,cB⟩:=this;refine⟨v::vs,by simp[List.mapM_cons,eY,hv],by simp[hl],λi c' hi=>?_⟩
  rcases i with _|i
  .simp at hi;subst hi;exact cB
  .exact bg i c' (H hi)
 | [],_::_,h=>h.elim
 |_::_,[],h=>h.elim
theorem r8{fn:Func}{rs:List ResultVar}(aZ:fn.results=rs.toArray)(h:b9o C E σ rs cs)(hn:cs.length≠1):V8 C E σ fn (.tup cs):=λM w a hr hh=>by
 obtain⟨vs,h1,h2,h3⟩:=b4t (C:=C) hr hh rs cs h;refine⟨.tuple vs.toArray,?_,.tup (by simp[h2]) (λi c hi=>by simpa using h3 i c hi)⟩;have:(results fn a.tmps).run C.P w=((rs.toArray.mapM (a4B a.tmps)).run C.P w).andThen λvs w=>.ok (if h:vs.size=1 then vs[0]else .tuple vs) w:=by
  unfold results;rw[aZ,Sem.run_bind];rfl
 rw[this,List.mapM_toArray,Sem.run_map,h1];simp only[Result.andThen_ok];rw[dif_neg N4]
theorem C4{fn:Func}{r:ResultVar}(aZ:fn.results = #[r])(h:d5B C E σ r c):V8 C E σ fn c:=λM w a hr hh=>by
 obtain⟨vs,h1,h2,h3⟩:=b4t (C:=C) hr hh [r] [c] ⟨h,D⟩;obtain⟨v,rfl⟩:∃v,vs=[v]:=by
  match vs,h2 with
  | [v],_=>exact⟨v,O⟩
 refine⟨v,?_,by simpa using h3 0 c O⟩;have:(results fn a.tmps).run C.P w=((#[r].mapM (a4B a.tmps)).run C.P w).andThen λvs w=>.ok (if h:vs.size=1 then vs[0]else .tuple vs) w:=by
  unfold results;rw[aZ,Sem.run_bind];rfl
 have e:(#[r].mapM (a4B a.tmps))=([r].toArray.mapM (a4B a.tmps)):=O;rw[this,e,List.mapM_toArray,Sem.run_map,h1];simp
def A5.settle(M:A5)(b:Nat):A5:={M with full:=λx=>M.full x\/x=b}
theorem Rel.allocFull(hr:Rel C M σ w)(ob:Obj):Ext M w (M.settle w.heap.size) (w.alloc ob)/\Rel C (M.settle w.heap.size) σ (w.alloc ob):=by
 have hx:Ext M w (M.settle w.heap.size) (w.alloc ob):=⟨⟨[],by simp[A5.settle]⟩,λ_ h=>.inl h,λ_ _ h=>.inr h,λb h=>J4 w ob (hr.blk b 0 (.inl h)),λb o' h=>L5 (J4 w ob (hr.blk b o' (.inr h))),by rw[b8t];omega,R4,O,O,O,λb h=>⟨h,J4 w ob (hr.kep b h),λf=>(by
  rcases f with f|f
  .exact f
  .have:=hr.kep b h;omega),λ_ f=>f⟩⟩
 refine⟨hx,hr.len,λb o' ha=>?_,λk p x hk hs=>?_,hr.inj,λg cells hg=>(hr.glob g cells hg).mono hx,λb h=>(by rw[b8t];have:=hr.kep b h;omega),hr.nk⟩
 .rw [b8t]
  rcases ha with(ha|ha)|ha
  .have:=hr.blk b o' (.inl ha);omega
  .omega
  .have:=hr.blk b o' (.inr ha);omega
 .obtain ⟨h1,h2⟩:=hr.obj k p x hk hs;by_cases hl:x.live=true
  .have ah:=h1.lt hl;refine⟨h1.mono hx (J4 w ob ah) (λ_ _ _ _ h=>h),?_⟩;have hf:¬M.full p.block->¬(M.settle w.heap.size).full p.block:=λh h'=>by
    rcases h' with h'|h'
    .exact h h'
    .omega
   cases x<;>first|trivial|exact hf h2|exact⟨hf h2.1,h2.2⟩
  .cases x<;>first|exact⟨D,D⟩|simp[b9.live]at hl
def a3L(place:Nat->Option (Nat×Nat))(cells:List CV):List (Nat×CV)->Option (List CV)
 | []=>some cells
 |(i,c)::rest=>
  match place i with
  |none=>none
  |some (off,size)=>if c.cells.length=size/\off+size<=cells.length then a3L place (O3 cells off c.cells) rest else none
theorem a8m{M:A5}{w:World}{place:Nat->Option (Nat×Nat)}:∀(ps:List (Nat×CV)) (qs:List (Nat×Value)) (cells:List CV) (ap:Array Value) (out:List CV),
 a3L place cells ps=some out->ps.map (·.1)=qs.map (·.1)->(∀(i:Nat) (x:Nat×CV) (y:Nat×Value),ps[i]?=some x->qs[i]?=some y->RV M w x.2 y.2/\(x.2.one=true\/∃cs,x.2 = .agg cs)) ->
 ap.size=cells.length->(∀c∈cells,c.one=true)->(∀(i:Nat) (c:CV),cells[i]?=some c->RV M w c (ap.getD i undef)) ->
 ∃r,Instr.fill place ap qs=some r/\RV M w (.agg out) (.agg r)
 | [],[],cells,ap,out,h,_,_,h2,h3,h4=>by
  simp only[a3L,Option.some.injEq]at h;subst h;exact⟨ap,O,.agg h2 h3 h4⟩
 | [],q::qs,_,_,_,_,h,_,_,_,_=>by simp at h
 |p::ps,[],_,_,_,_,h,_,_,_,_=>by simp at h
 |(i,c)::ps,(i',v)::qs,cells,ap,out,h,hm,bg,h2,h3,h4=>by
  simp only[a8w,List.cons.injEq]at hm;obtain⟨rfl,hm⟩:=hm;simp only[a3L]at h;cases hp:place i with
  |none=>rw[hp]at h;cases h
  |some x=>
   obtain⟨off,size⟩:=x;rw[hp]at h;simp only at h;split at h
   .rename_i hc;obtain⟨di,dT⟩:=hc;obtain⟨hv,aO⟩:=bg 0 (i,c) (i,v) O O;obtain⟨g1,g2,g3⟩:=hv.cells aO;have g1:v.cells.size=c.cells.length:=g1;have aJ:off+c.cells.length<=cells.length:=by omega
    have hZ:(v.cells.zipIdx.foldl (λcs (x:Value×Nat)=>cs.setIfInBounds (off+x.2) x.1) ap)=D0 ap off v.cells.toList:=by
     rw[<- Array.foldl_toList,Array.toList_zipIdx,a4A];rfl
    have ih:=a8m ps qs (O3 cells off c.cells) (D0 ap off v.cells.toList) out h hm (λj x y hx hy=>bg (j+1) x y (H hx) (H hy)) (by rw[I1,a0q aJ,h2])
     (λc' aM=>by
      rcases a2p aM with h'|h'
      .exact g2 _ h'
      .exact h3 _ h')
     (λj c' hj=>by
      rw[L1 _ _ _ _ N4];rw[a2x aJ]at hj;simp only[a9u,g1];split at hj
      .rename_i bL;rw[W bL];have:=g3 _ _ hj;simpa using this
      .rename_i bL;rw[G bL];exact h4 _ _ hj)
    obtain⟨r,aQ,bq⟩:=ih;refine⟨r,?_,bq⟩;simp only[Instr.fill,hp];rw[G N4];exact(D9 (λz=>Instr.fill place z qs) hZ).trans aQ
   .cases h
theorem a4J{α:Type}{s:Nat}:∀(Y:List (List α)),(∀r∈Y,r.length=s)->∀(i j:Nat) (r:List α) (c:α),Y[i]?=some r->r[j]?=some c->Y.flatten[i*s+j]?=some c
 | [],_,i,j,r,c,h,_=>by simp at h
 |r0::Y,hs,i,j,r,c,hi,hj=>by
  have h0:=hs r0 Q;rw[c1o,a6j]
  rcases i with _|i
  .simp at hi;subst hi;have:=(n_3.1 hj).1;rw[W J];simpa using hj
  .simp at hi;have hr:=hs r (by simp[n_2 hi]);have ah:=(n_3.1 hj).1;rw[G (by rw[h0,R6];omega)];have:=a4J Y (λr hr=>hs r (by simp[hr])) i j r c hi hj;rw[h0,show(i+1)*s+j-s=i*s+j from by rw[R6];omega];exact this
theorem flat_len{α:Type}{s:Nat}:∀(Y:List (List α)),(∀r∈Y,r.length=s)->Y.flatten.length=Y.length*s
 | [],_=>by simp
 |r0::Y,hs=>by
  have h0:=hs r0 Q;rw[c1o,n_8,flat_len Y (λr hr=>hs r (by simp[hr])),h0,n_9,R6];omega
theorem b5d{len:Nat}(ho:o.op = .buildSlice t len parts)(hv:E.valids (parts.toList.map (·.2)))
 (hu:∀w,(underlying t).run C.P w= .ok (.slice e) w)(hs:∀w,(sizeOf e).run C.P w= .ok s w)(hz:∀w,(zeroValue e).run C.P w= .ok z w)(bV:K4 z=true)(cU:(H8 z).one=true\/∃cs,H8 z= .agg cs)(fH:(H8 z).cells.length=s)(dS:0<s)
 (am:len*s<=2^24)(ep:parts.toList.map (λx=>(x.1,E.val C x.2))=ps)(aO:∀x∈ps,x.2.one=true\/∃cs,x.2 = .agg cs)
 (bp:a3L (λi=>some (i*s,s)) ((List.range (len*s)).map λi=>(H8 z).cells.getD (i%s) default) ps=some Y.flatten)(cz:Y.length=len)(aZ:∀r∈Y,r.length=s):Yields C σ E o (.list Y true none):=λM w ρ hr h=>by
 have eX:RV M w (H8 z) z:=a0v bV;obtain⟨g1,g2,g3⟩:=eX.cells cU;have bo:∀x∈parts.toList,x.2∈o.op.operands:=λx hx=>by
  rw[ho];simp only[Op.operands,List.mem_toArray,H9];exact⟨x,hx,O⟩
 have bI:=Env.valids_mem hv;obtain⟨r,aQ,bq⟩:=a8m (M:=M) (w:=w) ps (parts.toList.map λx=>(x.1,ρ x.2)) ((List.range (len*s)).map λi=>(H8 z).cells.getD (i%s) default) ((Array.range (len*s)).map (z.cells[·%z.cells.size]!)) Y.flatten bp (by simp[<- ep]) (λi x y hx hy=>by
  refine⟨?_,aO x (n_2 hx)⟩;subst ep;simp only[P8,M6]at hx hy;obtain⟨a,ha,rfl⟩:=hx;obtain⟨a',bR,rfl⟩:=hy;have:a=a':=by rw[ha]at bR;injection bR
  subst this;have hm:=n_2 ha;exact h _ (bo _ hm) (bI _ (H9.2 ⟨_,hm,O⟩))) Q (λc hc=>by
   obtain⟨i,_,rfl⟩:=H9.1 hc;have ah:i%s< (H8 z).cells.length:=by rw[fH];exact a4L _ dS
   rw[a9A,a1C ah];exact g2 _ (b9D ah)) (λi c hi=>by
   rw[P8,M6]at hi;obtain⟨i',bh,rfl⟩:=hi;have bt:=(n_3.1 bh).1;simp at bt;rw[List.getElem?_range bt]at bh;injection bh with bh
   subst bh;have ah:i%s< (H8 z).cells.length:=by rw[fH];exact a4L _ dS
   have hlt2:i%s<z.cells.size:=by rw[g1];exact ah
   have:=g3 (i%s) _ (a1C ah);have e1:(H8 z).cells.getD (i%s) default=(H8 z).cells[i%s]:=by
    rw[a9A,a1C ah];rfl
   rw[e1];have e2:((Array.range (len*s)).map (z.cells[·%z.cells.size]!)).getD i undef=z.cells.getD (i%s) undef:=by
    have ca:z.cells.size=s:=by rw[g1,fH]
    have hms:i%s<s:=a4L _ dS;simp[bt,ca,hms]
   rw[e2];exact this)
 cases bq with
 |agg q1 q2 q3=>
  obtain⟨hx,fI⟩:=hr.allocFull (.cells r e);have ay:(execOp ρ o).run C.P w= .ok (.value (.slice (some ⟨w.heap.size,0,none⟩) len len)) (w.alloc (.cells r e)):=by
   have hl:(parts.map λx=>(x.1,ρ x.2)).toList=parts.toList.map λx=>(x.1,ρ x.2):=by simp
   simp only[execOp,ho,Instr.buildSlice,Sem.run_bind,hu,Result.andThen_ok,hs];rw[G J];simp only[hl];by_cases fy:len*s=0
   .have er:Array.range 0= #[]:=O;rw[fy,er]at aQ;simp only[List.map_toArray,List.map_nil]at aQ;simp[fy,er,aQ,newRow]
   .simp [fy,hz,aQ,newRow]
  rw[ay];have bx:Y.length<=maxLen:=by
   have:len<=len*s:=Nat.le_mul_of_pos_right _ dS;unfold maxLen;omega
  refine⟨.list Y true none,σ,_,hx,fI,?_,O,O⟩;rw[<- cz];have hflen:=flat_len Y aZ;refine .list (b:=w.heap.size) (off:=0) (s:=s) (λi j=>r.getD (i*s+j) undef) (n_6 _) bx O (λh=>by cases h) W9 aZ (λr0 bE c hc=>q2 c (List.mem_flatten.2 ⟨r0,bE,hc⟩)) (λi j r0 c hi hj=>?_) (λi j r0 c hi hj=>?_) (λk hk=>by cases hk)
  .have hf:=a4J Y aZ i j r0 c hi hj;have ah:=(n_3.1 hf).1;have bt:i*s+j<r.size:=by omega
   refine⟨.inl (.inr O),?_⟩;rw[P2,World.cell?_alloc_new];simp[bt]
  .exact (q3 _ _ (a4J Y aZ i j r0 c hi hj)).mono hx
def a0I(C:Ctx)(E:Env)(x:Option Operand)(d:Nat)(n:Nat):Prop:=
 match x with
 |none=>d=n
 |some x=>E.valid x/\∃k i,E.val C x= .val (.int k i)/\0<=i/\i.toNat=n
theorem a6S{lo hi:Option Operand}{tok:Option Nat}{l h:Nat}(ho:o.op = .slice t x lo hi none)(hx:E.valid x)(ex:E.val C x= .list Y nn tok)
 (hu:∀w,(underlying t).run C.P w= .ok (.slice e) w)(hs:∀w,(sizeOf e).run C.P w= .ok s w)(aZ:∀r∈Y,r.length=s)(gc:a0I C E lo 0 l)(gA:a0I C E hi Y.length h)(h1:l<=h)(h2:h<=Y.length):Yields C σ E o (.list ((Y.take h).drop l) nn none):=
 i8 λM w ρ hr hh=>by
  have aC:=hh x w8 hx;rw[ex]at aC;obtain⟨a,cap,b,off,s',vals,hv,bx,bm,gN,eS,ha,cz,aO,hc,bg,_⟩:=aC.list_inv;have ib:∀v,lo=some v->∃k i,ρ v= .int k i/\0<=i/\i.toNat=l:=λv hv=>by
   subst hv;obtain⟨bI,k,i,he,h0,hi⟩:=gc;have:=hh v w8 bI;rw[he]at this;exact⟨k,i,p8 this,h0,hi⟩
  have eZ:∀v,hi=some v->∃k i,ρ v= .int k i/\0<=i/\i.toNat=h:=λv hv=>by
   subst hv;obtain⟨bI,k,i,he,h0,hi⟩:=gA;have:=hh v w8 bI;rw[he]at this;exact⟨k,i,p8 this,h0,hi⟩
  have hb:(Instr.sliceBounds true Y.length cap (lo.map ρ) (hi.map ρ) none).run C.P w= .ok (l,h,cap) w:=by
   have dv:(l:Int)<=h:=by omega
   have hh2:(h:Int)<=cap:=by omega
   cases lo with
   |none=>
    have:l=0:=by simpa[a0I]using gc.symm
    subst this;cases hi with
    |none=>
     have:h=Y.length:=by simpa[a0I]using gA.symm
     subst this;simp[Instr.sliceBounds]
    |some v=>
     obtain⟨k,i,he,h0,hi⟩:=eZ v O;have:i<=(cap:Int):=by omega
     simp[Instr.sliceBounds,Instr.sliceBound,he,asIntOf,h0,this,hi]
   |some u=>
    obtain⟨k',i',fa,ic,bh⟩:=ib u O;have aR:i'<=(h:Int):=by omega
    cases hi with
    |none=>
     have:h=Y.length:=by simpa[a0I]using gA.symm
     subst this;simp[Instr.sliceBounds,Instr.sliceBound,fa,asIntOf,ic,aR,bh]
    |some v=>
     obtain⟨k,i,he,h0,hi⟩:=eZ v O;have aM:i<=(cap:Int):=by omega
     simp[Instr.sliceBounds,Instr.sliceBound,he,fa,asIntOf,h0,ic,aM,hi,aR,bh]
  have ay:(execOp ρ o).run C.P w= .ok (.value (.slice (if cap=l then a else a.map (·.add (l*s))) (h-l) (cap-l))) w:=by
   simp[execOp,ho,Instr.sliceAt,Instr.slice,hu,hv,hb,hs]
  have am:((Y.take h).drop l).length=h-l:=by simp;omega
  refine⟨_,ay,?_⟩;rw[<- am];have aw:∀i r,((Y.take h).drop l)[i]?=some r->Y[l+i]?=some r:=λi r hi=>by
   rw[a5H,a2L]at hi;split at hi
   .exact hi
   .cases hi
  refine .list (b:=b) (off:=off+l*s) (s:=s) (λi j=>vals (l+i) j) (by rw[am];omega) J ?_ (λh0=>by have:=eS h0;omega) (λaB=>?_) (λr hr=>aZ r (a6v (a8H hr))) (λr hr c hc=>aO r (a6v (a8H hr)) c hc) (λi j r c hi hj=>?_) (λi j r c hi hj=>bg _ _ _ _ (aw i r hi) hj) (λk hk=>by cases hk)
  .split
   .exact gN
   .rw [Option.isSome_map];exact gN
  .have hne':Y≠[]:=by rintro rfl;simp at aB
   have ah:l<h:=by
    rcases a4g l h with h'|h'
    .exact h'
    .exact absurd (b9E (by rw[am];omega)) aB
   rw[G J,ha hne'];simp[V1]
  .have bh:=aw i r hi;have gY:s'=s:=by
    have hm:=n_2 bh;rw[<- cz r hm,aZ r hm]
   subst gY;have:=hc _ _ _ _ bh hj;rw[show off+l*s'+i*s'+j=off+(l+i)*s'+j from by rw[R6];omega];exact this
end
def Src(C:Ctx)(M:A5)(w:World)(Y:List (List CV))(s:Nat)(v:Value):Prop:=
 ∃a c,v= .slice a Y.length c/\Y.length<=c/\(∀r∈Y,r.length=s) /\
  ∃ap:Array Value,(Builtin.firstCells s Y.length v).run C.P w= .ok ap w/\ap.size=Y.length*s /\
   ∀(i j:Nat) (r:List CV) (c:CV),Y[i]?=some r->r[j]?=some c->RV M w c (ap.getD (i*s+j) undef)/\c.one=true
theorem c0k(hj:j<s):(i*s+j) / s=i/\(i*s+j)%s=j:=by
 have hs:0<s:=by omega
 refine⟨?_,?_⟩
 .rw [b5w,Nat.add_mul_div_right _ _ hs,Nat.div_eq_of_lt hj,P2]
 .rw [b5w,Nat.add_mul_mod_self_right,b9c hj]
theorem Src.one(aZ:∀r∈Y,r.length=s)(aJ:ap.size=Y.length*s)
 (h:∀(i j:Nat) (r:List CV) (c:CV),Y[i]?=some r->r[j]?=some c->RV M w c (ap.getD (i*s+j) undef)/\c.one=true):∀u∈ap.toList,u.oneCell'=true:=by
 intro u hu;obtain⟨q,hq,rfl⟩:=List.mem_iff_getElem.1 hu;have dZ:q<Y.length*s:=by simpa[aJ]using hq
 have hs:0<s:=by
  rcases b1C s with h0|h0
  .subst h0;simp at dZ
  .exact h0
 have hi:q / s<Y.length:=Nat.div_lt_of_lt_mul (by rwa[b2K]at dZ);have hj:q%s<s:=a4L _ hs;have hr:Y[q / s]?=some Y[q / s]:=by simp[hi]
 have cg:q%s< (Y[q / s]).length:=by rw[aZ _ (b9D hi)];exact hj
 obtain⟨h1,h2⟩:=h (q / s) (q%s) _ _ hr (a1C cg);have hqq:q / s*s+q%s=q:=by rw[b2K];exact Nat.div_add_mod q s
 rw[hqq]at h1;have:=h1.one h2;have gB:q<ap.size:=by omega
 simpa[gB]using this
section
theorem a6W(f:Nat->Nat->Value)(h:∀i j,i<n->j<s->w.cell? ⟨b,off+i*s+j,none⟩=some (f i j)):
 (loadCells ⟨b,off,none⟩ (n*s)).run C.P w= .ok ((List.range (n*s)).map λq=>f (q / s) (q%s)).toArray w:=
 Q3 (λq=>f (q / s) (q%s)) (n*s) λq hq=>by
  have hs:0<s:=by
   rcases b1C s with h0|h0
   .subst h0;simp at hq
   .exact h0
  have:=h (q / s) (q%s) (Nat.div_lt_of_lt_mul (by rwa[b2K]at hq)) (a4L _ hs);rwa[a9x,show q / s*s+q%s=q from by rw[b2K];exact Nat.div_add_mod q s]at this
theorem a2i{tok:Option Nat}(h:RV M w (.list Y nn tok) v)(aZ:∀r∈Y,r.length=s):Src C M w Y s v:=by
 obtain⟨a,cap,b,off,s',vals,rfl,bx,bm,gN,eS,ha,cz,aO,hc,bg,_⟩:=h.list_inv;refine⟨a,cap,O,bx,aZ,?_⟩
 rcases Y with _|⟨r0,Y⟩
 .refine ⟨#[],?_,Q,Q⟩;cases a with
  |none=>simp[Builtin.firstCells]
  |some a=>simp[Builtin.firstCells,loadCells,loadCellsFrom]
 .have gY:s'=s:=by rw[<- cz r0 Q,aZ r0 Q]
  subst gY;rw[ha Q];generalize eh:r0::Y=rs at*;have aY:∀i j,i<rs.length->j<s'->w.cell? ⟨b,off+i*s'+j,none⟩=some (vals i j):=λi j hi hj=>by
   have hr:rs[i]?=some rs[i]:=by simp[hi]
   have hl:j<rs[i].length:=by rw[aZ _ (b9D hi)];exact hj
   exact(hc i j _ _ hr (a1C hl)).2
  refine⟨_,by simp only[Builtin.firstCells];exact a6W vals aY,Q,λi j r c hi hj=>⟨?_,aO r (n_2 hi) c (n_2 hj)⟩⟩;have bM:=(n_3.1 hi).1;have cg:j<s':=by have:=(n_3.1 hj).1;rwa[aZ r (n_2 hi)]at this
  have hq:i*s'+j<rs.length*s':=by
   have:(i+1)*s'<=rs.length*s':=X3 _ bM;rw[R6]at this;omega
  obtain⟨e1,e2⟩:=c0k (i:=i) cg;have:((List.range (rs.length*s')).map λq=>vals (q / s') (q%s')).toArray.getD (i*s'+j) undef=vals i j:=by simp[hq,e1,e2]
  rw[this];exact bg i j r c hi hj
theorem a6E{len:Nat}(hr:Rel C M σ w)(h:RV M w (.vec k off len) v)(hk:σ[k]?=some (.vec s Y))(hl:off+len<=Y.length):Src C M w ((Y.drop off).take len) s v:=by
 cases h with
 |vec hp h1 h2 h3=>
  rename_i p a;obtain⟨⟨rfl,q1,q2,q3,q4,ap,ty,q5,q6,q7⟩,_⟩:=hr.obj k p _ hp hk;have am:((Y.drop off).take len).length=len:=by simp;omega
  refine⟨some a,p.cap -off,by rw[am],by rw[am];omega,λr hr=>q3 r (a8H (a6v hr)),?_⟩;rw[am];have aw:∀i r,((Y.drop off).take len)[i]?=some r->i<len/\Y[off+i]?=some r:=λi r hi=>by
   rw[a2L]at hi;split at hi
   .rw [a5H]at hi;exact⟨‹_›,hi⟩
   .cases hi
  rcases b1C len with h0|h0
  .subst h0;exact⟨#[],by simp[Builtin.firstCells,loadCells,loadCellsFrom],Q,λi j r c hi _=>by have:=(aw i r hi).1;omega⟩
  .rw [h3 J];have aY:∀i j,i<len->j<p.size->w.cell? ⟨p.block,off*p.size+i*p.size+j,none⟩=some (ap.getD ((off+i)*p.size+j) undef):=λi j hi hj=>by
    have hq:(off+i)*p.size+j<ap.size:=by
     rw[q6];have:(off+i+1)*p.size<=p.cap*p.size:=X3 _ J;rw[R6 (off+i)]at this;omega
    rw[show off*p.size+i*p.size+j=(off+i)*p.size+j from by rw[R6 off]];simp[World.cell?,q5,hq]
   refine⟨_,by simp only[Builtin.firstCells];exact a6W _ aY,Q,λi j r c hi hj=>?_⟩;obtain⟨bM,bh⟩:=aw i r hi;have bo:=n_2 bh;refine⟨?_,q4 r bo c (n_2 hj)⟩;have cg:j<p.size:=by have:=(n_3.1 hj).1;rwa[q3 r bo]at this
   have hq:i*p.size+j<len*p.size:=by
    have:(i+1)*p.size<=len*p.size:=X3 _ bM;rw[R6]at this;omega
   obtain⟨e1,e2⟩:=c0k (i:=i) cg;have:((List.range (len*p.size)).map λq=>ap.getD ((off+q / p.size)*p.size+q%p.size) undef).toArray.getD (i*p.size+j) undef=ap.getD ((off+i)*p.size+j) undef:=by simp[hq,e1,e2]
   rw[this];exact q7 _ _ _ _ bh hj
def K3(Y:List (List CV))(p:Nat)(new:List (List CV)):List (List CV):=Y.take p++(new++Y.drop (p+new.length))
theorem b57{p:Nat}(hp:p<=Y.length)(i:Nat):
 (K3 Y p new)[i]?=if p<=i/\i<p+new.length then new[i-p]? else Y[i]?:=by
 unfold K3;rw[a6j];simp only[b0N,Nat.min_eq_left hp]
 split
 .rename_i h1;rw[G J,a2L,W h1]
 .rename_i h1;rw[a6j]
  split
  .rename_i h2;rw[W J]
  .rename_i h2;rw[G J,a5H]
   congr 1;omega
theorem a8R{p:Nat}(h:r∈K3 Y p new):r∈new\/r∈Y:=by
 simp only[K3,W0]at h
 rcases h with h|h|h
 .exact .inr (a6v h)
 .exact .inl h
 .exact .inr (a8H h)
theorem b01{p:Nat}(hp:p<=Y.length):(K3 Y p new).length=max Y.length (p+new.length):=by
 simp[K3];omega
theorem a6y(hr:Rel C M σ w){p:Nat}{q:Pl}(hq:M.pl[k]?=some q)(hk:σ[k]?=some (.vec s Y))(hp:p<=Y.length)(hpc:p+new.length<=q.cap)(cc:∀r∈new,r.length=s)(aJ:ap.size=new.length*s)
 (bg:∀(i j:Nat) (r:List CV) (c:CV),new[i]?=some r->r[j]?=some c->RV M w c (ap.getD (i*s+j) undef)/\c.one=true):
 ∃w',(storeCells ⟨q.block,p*s,none⟩ ap.toList).run C.P w= .ok () w'/\Ext M w M w'/\Rel C M (σ.set k (.vec s (K3 Y p new))) w':=by
 obtain⟨⟨rfl,q1,q2,q3,q4,aF,ty,q5,q6,q7⟩,hf,hc⟩:=hr.obj k q _ hq hk;have dj:p*q.size+ap.toList.length<=aF.size:=by
  rw[a9u,aJ,q6,<- R6];exact X3 _ hpc
 have ay:=O0 (P:=C.P) (b:=q.block) (off:=p*q.size) (t:=ty) ap.toList 0 aF w q5 J (Src.one cc aJ bg);rw[b1q]at ay;have hx:=Ext.putObj (w:=w) (.cells (D0 aF (p*q.size) ap.toList) ty (0,0)) (hr.nk k q _ hq hk O) hf hc;have hb:q.block <w.heap.size:=(a1N.1 q5).1;refine⟨_,ay,hx,hr.putObj (ob:=.vec q.size (K3 Y p new)) hq hk O hf hc _ ⟨O,by rw[b01 hp];omega,q2,λr hr=>?_,λr hr c hc=>?_,_,ty,World.putObj_same w _ hb,by rw[I1,q6],λi j r c hi hj=>?_⟩⟩
 .rcases a8R hr with h|h
  .exact cc r h
  .exact q3 r h
 .rcases a8R hr with h|h
  .obtain ⟨i,hi⟩:=M5.1 h;obtain⟨j,hj⟩:=M5.1 hc;exact(bg i j r c hi hj).2
  .exact q4 r h c hc
 .rw [L1 _ _ _ _ dj];rw[b57 hp]at hi;have cz:r.length=q.size:=by
   split at hi
   .exact cc r (n_2 hi)
   .exact q3 r (n_2 hi)
  have cg:j<q.size:=by have:=(n_3.1 hj).1;omega
  simp only[a9u,aJ];split at hi
  .rename_i bL;have dd:i-p<new.length:=by omega
   have e1:p*q.size<=i*q.size:=X3 _ bL.1;have e2:(i-p)*q.size=i*q.size -p*q.size:=Nat.sub_mul _ _ _;have e3:(i-p+1)*q.size<=new.length*q.size:=X3 _ dd;rw[R6]at e3;rw[W J];have:=(bg (i-p) j r c hi hj).1.mono hx;rw[show i*q.size+j-p*q.size=(i-p)*q.size+j from by omega];simpa using this
  .rename_i bL;rw[G ?_]
   .exact (q7 _ _ _ _ hi hj).mono hx
   .rintro ⟨h1,h2⟩;apply bL;refine⟨?_,?_⟩
    .rcases a4g i p with h|h
     .have:(i+1)*q.size<=p*q.size:=X3 _ h;rw[R6]at this;omega
     .exact h
    .rcases a4g i (p+new.length)with h|h
     .exact h
     .have:(p+new.length)*q.size<=i*q.size:=X3 _ h;rw[R6]at this;omega
theorem T3{ix:Operand}{len:Nat}{i:Int}(ho:o.op = .indexAddr t x ix)(hx:E.valid x)(hi:E.valid ix)(ex:E.val C x= .vec k off len)(ei:E.val C ix= .val (.int .i64 i))
 (hu:∀w,(underlying t).run C.P w= .ok (.slice e) w)(hs:∀w,(sizeOf e).run C.P w= .ok s w)(hk:σ[k]?=some (.vec s Y))(h0:0<=i)(hl:i.toNat <len):Yields C σ E o (.eptr k (off+i.toNat) 0):=
 i8 λM w ρ hr h=>by
  have h1:=h x w8 hx;have h2:=h ix w8 hi;rw[ex]at h1;rw[ei]at h2;generalize hv:ρ x=v at h1;cases h1 with
  |vec hp g1 g2 g3=>
   rename_i p a;obtain⟨⟨rfl,_⟩,_⟩:=hr.obj k p _ hp hk;have ah:i< (len:Int):=by omega
   refine⟨.pointer (some ⟨p.block,(off+i.toNat)*p.size+0,none⟩),?_,.eptr hp⟩;simp[execOp,ho,hv,p8 h2,Instr.indexAt,asIntOf,hu,hs,g3 J,h0,ah,V1,R6]
theorem b7V(hr:Rel C M σ w)(hp:M.pl[k]?=some p)(hk:σ[k]?=some (.vec s Y))(hi:Y[i]?=some r)(hc:r[off]?=some c):
 ∃v,w.cell? ⟨p.block,i*p.size+off,none⟩=some v/\RV M w c v:=by
 obtain⟨⟨rfl,q1,q2,q3,q4,ap,ty,q5,q6,q7⟩,_⟩:=hr.obj k p _ hp hk;have bM:=(n_3.1 hi).1;have cg:off<p.size:=by have:=(n_3.1 hc).1;rwa[q3 r (n_2 hi)]at this
 have hq:i*p.size+off<ap.size:=by
  rw[q6];have:(i+1)*p.size<=p.cap*p.size:=X3 _ J;rw[R6]at this;omega
 exact⟨_,by simp[World.cell?,q5,hq];rfl,by simpa[hq]using q7 i off r c hi hc⟩
theorem a1K(ho:o.op = .load t x)(hx:E.valid x)(ex:E.val C x= .eptr k i off)(ha:∀w,(isAgg t).run C.P w= .ok false w)(hk:σ[k]?=some (.vec s Y))(hi:Y[i]?=some r)(hc:r[off]?=some c):Yields C σ E o c:=
 i8 λM w ρ hr h=>by
  have h1:=h x w8 hx;rw[ex]at h1;generalize dR:ρ x=u at h1;cases h1 with
  |eptr hp=>
   obtain⟨v,hv,bg⟩:=b7V hr hp hk hi hc;exact⟨v,by simp[execOp,ho,dR,Instr.loadAt,Instr.sureAddr,loadVar,ha,hv],bg⟩
theorem c7E(ho:o.op = .load t x)(hx:E.valid x)(ex:E.val C x= .eptr k i off)(ha:∀w,(isAgg t).run C.P w= .ok true w)(hs:∀w,(sizeOf t).run C.P w= .ok n w)(hk:σ[k]?=some (.vec s Y))(hi:Y[i]?=some r)(hl:off+n<=r.length):Yields C σ E o (.agg ((r.drop off).take n)):=
 i8 λM w ρ hr h=>by
  have h1:=h x w8 hx;rw[ex]at h1;generalize dR:ρ x=u at h1;cases h1 with
  |eptr hp=>
   rename_i p;have aO:=(hr.obj k p _ hp hk).1.2.2.2.2.1;have aK:∀j,j<n->∃v,w.cell? ⟨p.block,i*p.size+off+j,none⟩=some v/\∀c,r[off+j]?=some c->RV M w c v:=λj hj=>by
    obtain⟨v,hv,bg⟩:=b7V hr hp hk hi (a1C (show off+j<r.length by omega));exact⟨v,by rw[a9x];exact hv,λc hc=>by rw[a1C (show off+j<r.length by omega)]at hc;injection hc with hc;exact hc▸bg⟩
   let f:Nat->Value:=λj=>if hj:j<n then(aK j hj).choose else undef
   have hf:∀j,j<n->w.cell? ⟨p.block,i*p.size+off+j,none⟩=some (f j)/\∀c,r[off+j]?=some c->RV M w c (f j):=λj hj=>by
    simp only[f,dif_pos hj];exact(aK j hj).choose_spec
   refine⟨.agg ((List.range n).map f).toArray,?_,.agg N4 (λc hc=>aO r (n_2 hi) c (a8H (a6v hc))) (λj c hj=>?_)⟩
   .simp [execOp,ho,dR,Instr.loadAt,Instr.sureAddr,loadVar,ha,hs,Q3 (P:=C.P) (w:=w) f n (λj hj=>(hf j hj).1)]
   .have dG:j<n:=by
     have:=(n_3.1 hj).1;simp at this;omega
    rw[a2L,W dG,a5H]at hj;have:=(hf j dG).2 c hj;simpa[dG]using this
theorem b2S(ho:o.op = .store t x y)(hx:E.valid x)(hy:E.valid y)(ex:E.val C x= .eptr k i off)(ey:E.val C y=c)(hs:∀w,(sizeOf t).run C.P w= .ok n w)
 (hc:c.one=true\/∃cs,c= .agg cs)(hk:σ[k]?=some (.vec s Y))(hi:Y[i]?=some r)(hl:c.cells.length=n)(ah:off+n<=r.length)(h:K (.ret (.val undef)) (σ.set k (.vec s (Y.set i (O3 r off c.cells))))):D3 C σ E o K:=λM w ρ hr hh=>by
 have h1:=hh x w8 hx;have h2:=hh y w8 hy;rw[ex]at h1;rw[ey]at h2;generalize hu:ρ x=u at h1;cases h1 with
 |eptr hp=>
  rename_i p;obtain⟨⟨rfl,q1,q2,q3,q4,ap,ty,q5,q6,q7⟩,hf,dw⟩:=hr.obj k p _ hp hk;obtain⟨g1,g2,g3⟩:=h2.cells hc;have aO:=a3n h2 hc;have bM:=(n_3.1 hi).1;have hrm:=n_2 hi;have cz:r.length=p.size:=q3 r hrm;have aJ:off+c.cells.length<=r.length:=by omega
  have dj:i*p.size+off+(ρ y).cells.toList.length<=ap.size:=by
   rw[a9u,g1,q6];have:(i+1)*p.size<=p.cap*p.size:=X3 _ J;rw[R6]at this;omega
  have ay:(execOp ρ o).run C.P w= .ok .skip (World.putObj w p.block (.cells (D0 ap (i*p.size+off) (ρ y).cells.toList) ty (0,0))):=by
   have:=O0 (P:=C.P) (b:=p.block) (off:=i*p.size+off) (t:=ty) (ρ y).cells.toList 0 ap w q5 J aO;simp only[b1q]at this;simp[execOp,ho,hu,Instr.storeAt,Instr.sureAddr,storeVar,hs,g1,hl,this]
  rw[ay];have hx:=Ext.putObj (w:=w) (.cells (D0 ap (i*p.size+off) (ρ y).cells.toList) ty (0,0)) (hr.nk k p _ hp hk O) hf dw;have hb:p.block <w.heap.size:=(a1N.1 q5).1;have bo:∀r',r'∈Y.set i (O3 r off c.cells)->r'=O3 r off c.cells\/r'∈Y:=λr' bl=>by
   rcases List.mem_or_eq_of_mem_set bl with h|h
   .exact .inr h
   .exact .inl h
  refine⟨.val undef,_,M,hx,hr.putObj (ob:=.vec p.size (Y.set i (O3 r off c.cells))) hp hk O hf dw _ ⟨O,H q1,q2,λr' bl=>?_,λr' bl c' aM=>?_,_,ty,World.putObj_same w _ hb,by rw[I1,q6],λi' j r' c' bh hj=>?_⟩,.val _,h⟩
  .rcases bo r' bl with rfl|h
   .rw [a0q aJ,cz]
   .exact q3 r' h
  .rcases bo r' bl with rfl|h
   .rcases a2p aM with h'|h'
    .exact g2 _ h'
    .exact q4 r hrm _ h'
   .exact q4 r' h _ aM
  .rw [L1 _ _ _ _ dj];simp only[a9u,g1];rw[b09]at bh;split at bh
   .rename_i hii;subst hii;injection bh with bh
    subst bh;rw[a2x aJ]at hj;split at hj
    .rename_i bL;rw[W J];have:=(g3 _ _ hj).mono hx;rw[show i*p.size+j- (i*p.size+off)=j-off from by omega];simpa using this
    .rename_i bL;rw[G J];exact(q7 _ _ _ _ hi hj).mono hx
   .rename_i hii;have cg:j<p.size:=by have:=(n_3.1 hj).1;rwa[q3 r' (n_2 bh)]at this
    rw[G ?_]
    .exact (q7 _ _ _ _ bh hj).mono hx
    .rintro ⟨h1,h2⟩
     rcases a4g i' i with h|h
     .have:(i'+1)*p.size<=i*p.size:=X3 _ h;rw[R6]at this;omega
     .have:(i+1)*p.size<=i'*p.size:=X3 _ J;rw[R6]at this;omega
theorem a1J{lo hi:Option Operand}{len:Nat}{l h:Nat}(ho:o.op = .slice t x lo hi none)(hx:E.valid x)(ex:E.val C x= .vec k off len)
 (hu:∀w,(underlying t).run C.P w= .ok (.slice e) w)(hs:∀w,(sizeOf e).run C.P w= .ok s w)(hk:σ[k]?=some (.vec s Y))(gc:a0I C E lo 0 l)(gA:a0I C E hi len h)(h1:l<=h)(h2:off+h<=Y.length):Yields C σ E o (.vec k (off+l) (h-l)):=
 i8 λM w ρ hr hh=>by
  have aC:=hh x w8 hx;rw[ex]at aC;generalize hv:ρ x=v at aC;cases aC with
  |vec hp g1 g2 g3=>
   rename_i p a;obtain⟨⟨rfl,q1,q2,_⟩,_⟩:=hr.obj k p _ hp hk;have ib:∀v,lo=some v->∃k i,ρ v= .int k i/\0<=i/\i.toNat=l:=λv hv=>by
    subst hv;obtain⟨bI,k,i,he,h0,hi⟩:=gc;have:=hh v w8 bI;rw[he]at this;exact⟨k,i,p8 this,h0,hi⟩
   have eZ:∀v,hi=some v->∃k i,ρ v= .int k i/\0<=i/\i.toNat=h:=λv hv=>by
    subst hv;obtain⟨bI,k,i,he,h0,hi⟩:=gA;have:=hh v w8 bI;rw[he]at this;exact⟨k,i,p8 this,h0,hi⟩
   have bx:h<=p.cap -off:=by omega
   have hb:(Instr.sliceBounds true len (p.cap -off) (lo.map ρ) (hi.map ρ) none).run C.P w= .ok (l,h,p.cap -off) w:=by
    have dv:(l:Int)<=h:=by omega
    have hh2:(h:Int)<=((p.cap -off:Nat):Int):=by omega
    cases lo with
    |none=>
     have:l=0:=by simpa[a0I]using gc.symm
     subst this;cases hi with
     |none=>
      have:h=len:=by simpa[a0I]using gA.symm
      subst this;simp[Instr.sliceBounds]
     |some v=>
      obtain⟨k,i,he,h0,hi⟩:=eZ v O;have:i<=((p.cap -off:Nat):Int):=by omega
      simp[Instr.sliceBounds,Instr.sliceBound,he,asIntOf,h0,this,hi]
    |some u=>
     obtain⟨k',i',fa,ic,bh⟩:=ib u O;have aR:i'<=(h:Int):=by omega
     cases hi with
     |none=>
      have:h=len:=by simpa[a0I]using gA.symm
      subst this;simp[Instr.sliceBounds,Instr.sliceBound,fa,asIntOf,ic,aR,bh]
     |some v=>
      obtain⟨k,i,he,h0,hi⟩:=eZ v O;have aM:i<=((p.cap -off:Nat):Int):=by omega
      simp[Instr.sliceBounds,Instr.sliceBound,he,fa,asIntOf,h0,ic,aM,hi,aR,bh]
   have ay:(execOp ρ o).run C.P w= .ok (.value (.slice (if p.cap -off=l then some a else some (a.add (l*p.size))) (h-l) (p.cap -off-l))) w:=by
    simp[execOp,ho,Instr.sliceAt,Instr.slice,hu,hv,hb,hs]
   refine⟨_,ay,?_⟩;by_cases he:p.cap -off=l
   .rw [W he,show p.cap -off-l=p.cap - (off+l)from by omega];exact .vec hp J g2 (λah=>by omega)
   .rw [G he,show p.cap -off-l=p.cap - (off+l)from by omega];exact .vec hp J g2 (λah=>by rw[g3 J,V1,R6])
end
def kill(σ:List b9)(tok:Option Nat):List b9:=
 match tok with
 |some k=>σ.set k .dead
 |none=>σ
def d0h(σ:List b9)(Y:List (List CV))(nn:Bool)(tok:Option Nat):Prop:=
 (Y=[]/\nn=false/\tok=none)\/(Y≠[]/\∃k,tok=some k/\σ[k]?=some (.tip Y.length))
def b3U(t0:Option TypeId)(σ:List b9)(Y:List (List CV))(nn:Bool)(tok:Option Nat):Prop:=
 (Y=[]/\nn=false/\tok=none)\/(Y≠[]/\∃k,tok=some k/\σ[k]?=some (.tipT t0 Y.length))
def A5.settleCells(M:A5)(b n:Nat):A5:={M with cell:=λx o=>M.cell x o\/(x=b/\o<n)}
section
theorem Rel.dead(hr:Rel C M σ w)(k:Nat):Rel C M (σ.set k .dead) w:=by
 have aw:∀{k':Nat} {x:b9},(σ.set k .dead)[k']?=some x->x= .dead\/σ[k']?=some x:=by
  intro k' x h;rw[b09]at h;split at h
  .split at h
   .injection h with h;exact .inl h.symm
   .cases h
  .exact .inr h
 refine⟨by simp[hr.len],hr.blk,λk' p x hp hx=>?_,λk1 k2 p1 p2 x1 x2 h1 h2 bv aS cH dv hb=>?_,hr.glob,hr.kep,λk' p x hp aC bU=>?_⟩
 .rcases aw hx with rfl|h
  .exact ⟨D,D⟩
  .exact hr.obj k' p x hp h
 .rcases aw bv with rfl|dy
  .cases cH
  .rcases aw aS with rfl|cI
   .cases dv
   .exact hr.inj k1 k2 p1 p2 x1 x2 h1 h2 dy cI cH dv hb
 .rcases aw aC with rfl|h'
  .cases bU
  .exact hr.nk k' p x hp h' bU
theorem Rel.kill{M:A5}{w:World}(hr:Rel C M σ w)(tok:Option Nat):Rel C M (kill σ tok) w:=by
 cases tok with
 |none=>exact hr
 |some k=>exact hr.dead k
theorem b76(σ:List b9)(tok:Option Nat):(kill σ tok).length=σ.length:=by
 cases tok<;>simp[Go.Cl.kill]
theorem Rel.settleCells(hr:Rel C M σ w)(hp:M.pl[k]?=some p)(hk:σ[k]?=some (.tipT t0 n)):Ext M w (M.settleCells p.block (n*p.size)) w/\Rel C (M.settleCells p.block (n*p.size)) σ w:=by
 have hx:Ext M w (M.settleCells p.block (n*p.size)) w:=⟨⟨[],by simp[A5.settleCells]⟩,λ_ h=>h,λ_ _ h=>.inr (.inl h),λ_ _=>O,λ_ _ _=>O,n_6 _,R4,O,O,O,λb h=>⟨h,O,id,λo f=>(by
  rcases f with f|⟨rfl,_⟩
  .exact f
  .exact absurd h (hr.nk k p _ hp hk O))⟩⟩
 have ah:=(hr.obj k p _ hp hk).1.lt O;refine⟨hx,hr.len,λb o' ha=>?_,λk' p' x aN aC=>?_,hr.inj,λg cells hg=>(hr.glob g cells hg).mono hx,hr.kep,hr.nk⟩
 .rcases ha with ha|ha|⟨rfl,_⟩
  .exact hr.blk b o' (.inl ha)
  .exact hr.blk b o' (.inr ha)
  .exact ah
 .obtain ⟨h1,h2⟩:=hr.obj k' p' x aN aC;by_cases hl:x.live=true
  .by_cases gd:k'=k
   .subst gd;have aN:M.pl[k']?=some p':=aN;rw[hp]at aN;injection aN with aN
    subst aN;rw[hk]at aC;injection aC with aC
    subst aC;obtain⟨q1,q2,q3,q4⟩:=h1;refine⟨⟨q1,q2,⟨λo ho=>?_,q3.2⟩,q4⟩,h2⟩
    rcases ho with ho|⟨_,ho⟩
    .exact q3.1 o ho
    .exact ho
   .have aB:p'.block≠p.block:=λe=>gd (hr.inj k' k p' p x _ aN hp aC hk hl O e);refine⟨h1.mono hx O (λ_ _ _ o ho=>?_),?_⟩
    .rcases ho with ho|⟨ho,_⟩
     .exact ho
     .exact absurd ho aB
    .have hc:(∀o,¬M.cell p'.block o)->∀o,¬(M.settleCells p.block (n*p.size)).cell p'.block o:=λh o ho=>by
      rcases ho with ho|⟨ho,_⟩
      .exact h o ho
      .exact aB ho
     cases x<;>first|trivial|exact h2|exact⟨h2.1,hc h2.2⟩
  .cases x<;>first|exact⟨D,D⟩|simp[b9.live]at hl
theorem Rel.drewN(hr:Rel C M σ w):Rel C M σ w.drew/\Ext M w M w.drew:=hr.drew
theorem Y8{c:Nat}{x:Value}(hu:∀w,(underlying t).run P w= .ok (.slice e) w)(dl:(∀w,(underlying t2).run P w= .ok (.slice e) w)\/∀w,(underlying t2).run P w= .ok .string w)(hs:∀w,(sizeOf e).run P w= .ok s w)
 (am:∀w,(Builtin.lenOf x).run P w= .ok m w)(dH:(Builtin.firstCells s m x).run P w= .ok ap w)(fc:n+m<=c)(aP:(storeCells ⟨b,off+n*s,none⟩ ap.toList).run P w= .ok () w'):
 (Builtin.append_ #[t,t2] ty #[.slice (some ⟨b,off,none⟩) n c,x]).run P w= .ok (.slice (some ⟨b,off,none⟩) (n+m) c) w':=by
 rcases dl with dl|dl <;>
 simp[Builtin.append_,hu,dl,hs,am,dH,fc,V1,aP]
theorem a0N{c:Nat}{a:Option Addr}{x:Value}{old:Array Value}{ti:TypeInfo}(hu:∀w,(underlying t).run P w= .ok (.slice e) w)(dl:(∀w,(underlying t2).run P w= .ok (.slice e) w)\/∀w,(underlying t2).run P w= .ok .string w)(hs:∀w,(sizeOf e).run P w= .ok s w)(dm:∀w,(typeInfo e).run P w= .ok ti w)(hz:∀w,(zeroValue e).run P w= .ok z w)
 (am:∀w,(Builtin.lenOf x).run P w= .ok m w)(bJ:(Builtin.firstCells s n (.slice a n c)).run P w.drew = .ok old w.drew)(dH:(Builtin.firstCells s m x).run P w.drew = .ok ap w.drew)(fc:c<n+m)(bm:n+m<=9223372036854775807)(hb:(n+m)*ti.bytes<=140737488355328):
 ∃c',n+m<=c'/\c'<=9223372036854775807/\(Builtin.append_ #[t,t2] ty #[.slice a n c,x]).run P w= .ok (.slice (some ⟨w.heap.size,0,none⟩) (n+m) c') (w.drew.alloc (.cells (old++ap++Builtin.zeroCells z.cells (c'- (n+m))) e)):=by
 have hg:=growslice_fits fc hb;refine⟨(Question.appendCap (n+m) c e).cut (w.tape w.drawn (.appendCap (n+m) c e)),?_,?_,?_⟩
 .simp [Question.cut]
 .simp only[Question.cut];have:w.tape w.drawn (.appendCap (n+m) c e)%(2^63- (n+m))<2^63- (n+m):=a4L _ J;omega
 .have h1:¬(n+m<=c):=by omega
  have h2:¬IntKind.i64.max < (n:Int)+(m:Int):=by
   have:IntKind.i64.max=9223372036854775807:=by decide
   omega
  have h3:¬(281474976710656<Builtin.nextslicecap (n+m) c*ti.bytes):=by omega
  rcases dl with dl|dl
  all_goals
   simp[Builtin.append_,hu,dl,hs,dm,hz,am,h1,h3,Question.forced,bJ,dH,newRow];intro h;have:IntKind.i64.max=9223372036854775807:=by decide
   omega
theorem a7N(h:RV M w c v):RV M w.drew c v:=by
 have hx:Ext M w M w.drew:=⟨⟨[],Q⟩,λ_ h=>h,λ_ _ h=>.inr h,λ_ _=>O,λ_ _ _=>O,n_6 _,R4,O,O,O,λ_ h=>⟨h,O,id,λ_=>id⟩⟩;exact h.mono hx
theorem Rel.tipStore(hr:Rel C M σ w){aF cur':Array Value}(hp:M.pl[k]?=some p)(hk:σ[k]?=some (.tipT t0 n))(hty:t0.getD ty=ty)(hc:w.heap[p.block]?=some (.cells aF ty (0,0)))(aJ:cur'.size=aF.size)(ie:∀o,o<n*p.size->cur'[o]?=aF[o]?):
 Ext M w M (World.putObj w p.block (.cells cur' ty (0,0)))/\Rel C M σ (World.putObj w p.block (.cells cur' ty (0,0))):=by
 obtain⟨⟨q1,q2,q3,cur0,ty0,q4,q5⟩,cJ⟩:=hr.obj k _ _ hp hk;have hb:p.block <w.heap.size:=(a1N.1 hc).1;have hx:Ext M w M (World.putObj w p.block (.cells cur' ty (0,0))):=by
  refine⟨⟨[],Q⟩,λ_ h=>h,λ_ _ h=>.inr h,λb' h=>World.putObj_other w _ (λe=>cJ (e▸h)),λb' o' h=>?_,by rw[World.putObj_size];exact n_6 _,R4,O,O,O,λb' h=>⟨h,World.putObj_other w _ (λe=>hr.nk k p _ hp hk O (e▸h)),id,λ_=>id⟩⟩;by_cases he:p.block=b'
  .subst he;have ah:=q3.1 o' h;simp only[World.cell?,World.putObj_same w _ hb,hc,Option.isSome_none,b7N,if_false];exact ie o' ah
  .exact L5 (World.putObj_other w _ he)
 refine⟨hx,hr.len,λb o' ha=>by rw[World.putObj_size];exact hr.blk b o' ha,λk' p' x aN aC=>?_,hr.inj,λg cells hg=>(hr.glob g cells hg).mono hx,λb h=>(by rw[World.putObj_size];exact hr.kep b h),hr.nk⟩;obtain⟨h1,h2⟩:=hr.obj k' p' x aN aC;refine⟨?_,h2⟩;by_cases hl:x.live=true
 .by_cases gd:k'=k
  .subst gd;rw[hp]at aN;injection aN with aN
   subst aN;rw[hk]at aC;injection aC with aC
   subst aC;rw[q4]at hc;injection hc with hc
   injection hc with hc _ _
   exact⟨q1,q2,q3,cur',ty,by rw[hty];exact World.putObj_same w _ hb,by rw[aJ,<- hc,q5]⟩
  .have aB:p.block≠p'.block:=λe=>gd (hr.inj k' k p' p x _ aN hp aC hk hl O e.symm);exact h1.mono hx (World.putObj_other w _ aB) (λ_ _ _ _ h=>h)
 .cases x<;>first|trivial|simp[b9.live]at hl
theorem Rel.tipNew(hr:Rel C M σ w)(hp:M.pl[k]?=some p)(hk:σ[k]?=some (.tipT t0 n))(hn:n<=m)(hm:m<=p.cap):Ext M w (M.add p) w/\Rel C (M.add p) (σ.set k .dead++[.tipT t0 m]) w:=by
 obtain⟨⟨q1,q2,q3,cur0,ty0,q4,q5⟩,cJ⟩:=hr.obj k _ _ hp hk;have hx:Ext M w (M.add p) w:=⟨⟨[p],O⟩,λ_ h=>h,λ_ _ h=>.inr h,λ_ _=>O,λ_ _ _=>O,n_6 _,R4,O,O,O,λ_ h=>⟨h,O,id,λ_=>id⟩⟩;have hd:=hr.dead k;have am:(σ.set k b9.dead).length=σ.length:=by simp
 have aw:∀{j:Nat} {q:Pl},(M.add p).pl[j]?=some q->(j<σ.length/\M.pl[j]?=some q)\/(j=σ.length/\q=p):=by
  intro j q hj;simp only[A5.add,a6j,hr.len]at hj;split at hj
  .exact .inl ⟨‹_›,hj⟩
  .rename_i ah;have:j-σ.length=0:=by
    have:=(n_3.1 hj).1;simp at this;omega
   rw[this]at hj;simp at hj;exact .inr ⟨J,hj.symm⟩
 have eQ:∀{j:Nat} {x:b9},(σ.set k b9.dead++[b9.tipT t0 m])[j]?=some x->(j<σ.length/\(σ.set k b9.dead)[j]?=some x)\/(j=σ.length/\x= .tipT t0 m):=by
  intro j x hj;rw[a6j]at hj;split at hj
  .exact .inl ⟨J,hj⟩
  .have:j- (σ.set k b9.dead).length=0:=by
    have:=(n_3.1 hj).1;simp at this⊢;omega
   rw[this]at hj;simp at hj;exact .inr ⟨J,hj.symm⟩
 have bS:k<σ.length:=(n_3.1 hk).1;have dI:∀{j:Nat} {q:Pl} {x:b9},M.pl[j]?=some q->(σ.set k b9.dead)[j]?=some x->x.live=true->q.block≠p.block:=by
  intro j q x hj df hl e;have hjk:j≠k:=by
   rintro rfl;rw[b8U J]at df;injection df with df
   subst df;cases hl
  have eD:σ[j]?=some x:=by rwa[a5I (Ne.symm hjk)]at df
  exact hjk (hr.inj j k q p x _ hj hp eD hk hl O e)
 refine⟨hx,by simp[A5.add,hr.len],λb o' ha=>hr.blk b o' ha,λj q x hj df=>?_,λj j' q q' x x' hj dG df eD hl bw hb=>?_,λg cells hg=>(hr.glob g cells hg).mono hx,hr.kep,λj q x hj df bU=>?_⟩
 .rcases eQ df with⟨ah,h⟩|⟨rfl,rfl⟩
  .rcases aw hj with⟨_,hq⟩|⟨rfl,_⟩
   .obtain ⟨h1,h2⟩:=hd.obj j q x hq h;refine⟨?_,h2⟩;by_cases hl:x.live=true
    .exact h1.mono hx O (λ_ _ _ _ h=>h)
    .cases x<;>first|trivial|simp[b9.live]at hl
   .omega
  .rcases aw hj with⟨h,_⟩|⟨_,rfl⟩
   .omega
   .refine ⟨⟨hm,q2,⟨λo ho=>a8M (q3.1 o ho) (X3 _ hn),q3.2⟩,cur0,ty0,q4,q5⟩,cJ⟩
 .rcases eQ df with⟨ah,h⟩|⟨rfl,rfl⟩
  .rcases aw hj with⟨_,hq⟩|⟨rfl,_⟩
   .rcases eQ eD with⟨bt,h'⟩|⟨rfl,rfl⟩
    .rcases aw dG with⟨_,dZ⟩|⟨rfl,_⟩
     .exact hd.inj j j' q q' x x' hq dZ h h' hl bw hb
     .omega
    .rcases aw dG with⟨h0,_⟩|⟨_,rfl⟩
     .omega
     .exact absurd hb (dI hq h hl)
   .omega
  .rcases aw hj with⟨h0,_⟩|⟨_,rfl⟩
   .omega
   .rcases eQ eD with⟨bt,h'⟩|⟨rfl,rfl⟩
    .rcases aw dG with⟨_,dZ⟩|⟨rfl,_⟩
     .exact absurd hb.symm (dI dZ h' bw)
     .omega
    .rfl
 .rcases eQ df with⟨ah,h⟩|⟨rfl,rfl⟩
  .rcases aw hj with⟨_,hq⟩|⟨rfl,_⟩
   .exact hd.nk j q x hq h bU
   .omega
  .rcases aw hj with⟨h0,_⟩|⟨_,rfl⟩
   .omega
   .exact hr.nk k q _ hp hk O
theorem Src.lenOf(h:Src C M w Y s v)(w':World):(Builtin.lenOf v).run C.P w'= .ok Y.length w':=by
 obtain⟨a,c,rfl,_⟩:=h;simp[Builtin.lenOf]
def b9S(C:Ctx)(w:World)(M:A5)(Y:List (List CV))(s:Nat)(v:Value):Prop:=
 (∀w',(Builtin.lenOf v).run C.P w'= .ok Y.length w')/\(∀r∈Y,r.length=s) /\
  ∃ap:Array Value,(Builtin.firstCells s Y.length v).run C.P w= .ok ap w/\ap.size=Y.length*s /\
   ∀(i j:Nat) (r:List CV) (c:CV),Y[i]?=some r->r[j]?=some c->RV M w c (ap.getD (i*s+j) undef)/\c.one=true
theorem Src.any(h:Src C M w Y s v):b9S C w M Y s v:=by
 have hl:=h.lenOf;obtain⟨_,_,_,_,h1,h2⟩:=h;exact⟨hl,h1,h2⟩
theorem a4x{old rest:Array Value}(h1:old.size=Y.length*s)(h2:ap.size=new.length*s)(aZ:∀r∈Y,r.length=s)(cc:∀r∈new,r.length=s)
 (ho:∀(i j:Nat) (r:List CV) (c:CV),Y[i]?=some r->r[j]?=some c->RV M w c (old.getD (i*s+j) undef))
 (ha:∀(i j:Nat) (r:List CV) (c:CV),new[i]?=some r->r[j]?=some c->RV M w c (ap.getD (i*s+j) undef))(i j:Nat)(r:List CV)(c:CV)(hi:(Y++new)[i]?=some r)(hj:r[j]?=some c):
 i*s+j< (old++ap++rest).size/\RV M w c ((old++ap++rest).getD (i*s+j) undef):=by
 rw[a6j]at hi;split at hi
 .rename_i ah;have cg:j<s:=by have:=(n_3.1 hj).1;rwa[aZ r (n_2 hi)]at this
  have hq:i*s+j<old.size:=by
   rw[h1];have:(i+1)*s<=Y.length*s:=X3 _ ah;rw[R6]at this;omega
  refine⟨by simp;omega,?_⟩;have cS:i*s+j< (old++ap).size:=by simp;omega
  have e:(old++ap++rest).getD (i*s+j) undef=old.getD (i*s+j) undef:=by
   simp only[a0D];rw[b28 cS,b28 hq]
  rw[e];exact ho i j r c hi hj
 .rename_i aH;have bM:=(n_3.1 hi).1;have cg:j<s:=by have:=(n_3.1 hj).1;rwa[cc r (n_2 hi)]at this
  have e1:(i-Y.length)*s=i*s-Y.length*s:=Nat.sub_mul _ _ _;have e2:Y.length*s<=i*s:=X3 _ J;have e3:(i-Y.length+1)*s<=new.length*s:=X3 _ bM;rw[R6]at e3;refine⟨by simp;omega,?_⟩;have cS:i*s+j< (old++ap).size:=by simp;omega
  have e:(old++ap++rest).getD (i*s+j) undef=ap.getD ((i-Y.length)*s+j) undef:=by
   simp only[a0D];rw[b28 cS,Array.getElem?_append_right J]
   congr 2;omega
  rw[e];exact ha _ j r c hi hj
theorem a1Y(z:Array Value)(n:Nat):(Builtin.zeroCells z n).size=n*z.size:=by simp[Builtin.zeroCells]
theorem RV.list'{tok:Option Nat}{a:Option Addr}{cap:Nat}(hL:L=Y.length)(vals:Nat->Nat->Value):
 Y.length<=cap->cap<=maxLen->a.isSome=nn->(nn=false->cap=0)->(Y≠[]->a=some ⟨b,off,none⟩) ->
 (∀r∈Y,r.length=s)->(∀r∈Y,∀c∈r,c.one=true) ->
 (∀(i j:Nat) (r:List CV) (c:CV),Y[i]?=some r->r[j]?=some c->M.at b (off+i*s+j)/\w.cell? ⟨b,off+i*s+j,none⟩=some (vals i j)) ->
 (∀(i j:Nat) (r:List CV) (c:CV),Y[i]?=some r->r[j]?=some c->RV M w c (vals i j)) ->
 (∀k,tok=some k->∃s',M.pl[k]?=some ⟨b,cap,s'⟩/\a=some ⟨b,0,none⟩/\off=0/\(Y≠[]->s'=s)) ->
 RV M w (.list Y nn tok) (.slice a L cap):=by
 subst hL;exact RV.list vals
theorem b92{tok:Option Nat}{ti:TypeInfo}(ho:o.op = .call {callee:=.builtin .append,args:=#[x,y],argTypes:=#[t,t2]})(hx:E.valid x)(hy:E.valid y)(ex:E.val C x= .list Y nn tok)
 (aW:∀M w v,Rel C M σ w->RV M w (E.val C y) v->b9S C w M new s v)(hu:∀w,(underlying t).run C.P w= .ok (.slice e) w)(hs:∀w,(sizeOf e).run C.P w= .ok s w)(dm:∀w,(typeInfo e).run C.P w= .ok ti w)(hz:∀w,(zeroValue e).run C.P w= .ok z w)(ca:z.cells.size=s)
 (dl:(∀w,(underlying t2).run C.P w= .ok (.slice e) w)\/∀w,(underlying t2).run C.P w= .ok .string w)(ht0:t0=none\/t0=some e)(hts:t0.isSome=true->s=1)(bK:b3U t0 σ Y nn tok\/(Y=[]/\t0=some e/\∃k,tok=some k/\σ[k]?=some (.tipT t0 0)))(aZ:∀r∈Y,r.length=s)(ci:new≠[])(hb:(Y.length+new.length)*ti.bytes<=140737488355328)(bm:Y.length+new.length<=9223372036854775807)
 (hk:K (.ret (.list (Y++new) true (some σ.length))) (kill σ tok++[.tipT t0 (Y.length+new.length)])):D3 C σ E o K:=λM w ρ hr hh=>by
 have h1:=hh x L4 hx;have h2:=hh y L4 hy;rw[ex]at h1;have hso:=a2i (C:=C) h1 aZ;have fe:=aW M w _ hr h2;have am:=fe.1;obtain⟨a,cap,b,off,s',vals,hv,bx,ej,gN,eS,ha,cz,aO,hc,bg,cK⟩:=h1.list_inv;have fJ:0<new.length:=b2h.2 ci;have bB:(execOp ρ o).run C.P w=((Builtin.append_ #[t,t2] o.type #[ρ x,ρ y]).run C.P w).andThen λv w=>.ok (.value v) w:=by
  simp[execOp,ho,resolve,invoke,builtin]
 have cq:∀r∈Y++new,r.length=s:=λr hr=>by
  rcases W0.1 hr with h|h
  .exact aZ r h
  .obtain ⟨_,cc,_⟩:=fe;exact cc r h
 have bO:(Y++new).length=Y.length+new.length:=n_8;by_cases cj:Y.length+new.length<=cap
 .
  rcases bK with(⟨rfl,rfl,rfl⟩|⟨hrne,k,rfl,ge⟩)|⟨rfl,ht0',k,rfl,ge⟩
  .have:=eS O;simp at cj;omega
  .obtain ⟨sz,hp,ha0,rfl,aJ⟩:=cK k O;obtain⟨⟨q1,q2,q3,aF,ty,q4,q5⟩,cJ⟩:=hr.obj k _ _ hp ge;obtain⟨fz,ig⟩:∃fz,fz=t0.getD ty:=⟨_,O⟩;rw[<- ig]at q4;have hgd:t0.getD fz=fz:=by rw[ig];cases t0<;>rfl
   simp only at q1 q2 q3 q4 q5;obtain⟨_,cc,ap,cr,bc,bz⟩:=fe;obtain⟨r0,rs,hrr⟩:∃r0 rs,Y=r0::rs:=by
    cases Y with
    |nil=>exact absurd O hrne
    |cons r0 rs=>exact⟨r0,rs,O⟩
   have bu:s'=s:=by rw[<- cz r0 (by simp[hrr]),aZ r0 (by simp[hrr])]
   have gY:sz=s:=(aJ hrne).trans bu;subst gY;subst bu;have aA:ap.toList.length=ap.size:=a9u;have dj:Y.length*s'+ap.toList.length<=aF.size:=by
    rw[aA,bc,q5,<- R6];exact X3 _ cj
   have aP:=O0 (P:=C.P) (b:=b) (off:=Y.length*s') (t:=fz) ap.toList 0 aF w q4 J (Src.one cc bc bz);rw[b1q]at aP;have ay:(execOp ρ o).run C.P w= .ok (.value (.slice (some ⟨b,0,none⟩) (Y.length+new.length) cap)) (World.putObj w b (.cells (D0 aF (Y.length*s') ap.toList) fz (0,0))):=by
    rw[bB,hv,ha0,Y8 hu dl hs am cr cj (by rw[P2];exact aP)];rfl
   rw[ay];obtain⟨bv,aQ⟩:=hr.tipStore (cur':=D0 aF (Y.length*s') ap.toList) hp ge hgd q4 (I1 _ _ _) (λo' ho'=>by
    have h0:o'<aF.size:=by
     rw[q5];exact a8M ho' (X3 _ q1)
    have h1:o'< (D0 aF (Y.length*s') ap.toList).size:=by rw[I1];exact h0
    have:=L1 ap.toList aF (Y.length*s') o' dj;rw[G (by simp only at ho';omega)]at this;simp only[a0D,a2I h0,a2I h1,b8S]at this;rw[a2I h0,a2I h1,this])
   obtain⟨aS,bq⟩:=aQ.tipNew (m:=Y.length+new.length) hp ge J cj;have cu:(M.add ⟨b,cap,s'⟩).pl[σ.length]?=some ⟨b,cap,s'⟩:=by simp[A5.add,<- hr.len]
   have bW:(σ.set k b9.dead++[b9.tipT t0 (Y.length+new.length)])[σ.length]?=some (.tipT t0 (Y.length+new.length)):=by simp
   obtain⟨gC,gg⟩:=bq.settleCells cu bW;have hx:=(bv.trans aS).trans gC;refine⟨_,_,_,hx,gg,?_,hk⟩;have gD:b<w.heap.size:=(a1N.1 q4).1;have aY:∀q,q<aF.size->(World.putObj w b (.cells (D0 aF (Y.length*s') ap.toList) fz (0,0))).cell? ⟨b,q,none⟩=some ((D0 aF (Y.length*s') ap.toList).getD q undef):=λq hq=>by
    have:q< (D0 aF (Y.length*s') ap.toList).size:=by rw[I1];exact hq
    simp[World.cell?,World.putObj_same w _ gD,this]
   have hq:∀i j r c,(Y++new)[i]?=some r->r[j]?=some c->i*s'+j< (Y.length+new.length)*s':=λi j r c hi hj=>by
    have bM:=(n_3.1 hi).1;rw[bO]at bM;have cg:j<s':=by have:=(n_3.1 hj).1;rwa[cq r (n_2 hi)]at this
    have:(i+1)*s'<=(Y.length+new.length)*s':=X3 _ bM;rw[R6]at this;omega
   have hqc:(Y.length+new.length)*s'<=aF.size:=by rw[q5];exact X3 _ cj
   refine RV.list' (b:=b) (off:=0) (s:=s') bO.symm (λi j=>(D0 aF (Y.length*s') ap.toList).getD (i*s'+j) undef) (by rw[bO];exact cj) q2 O (λh=>by cases h) W9 cq (λr hr c hc=>?_) (λi j r c hi hj=>⟨.inr (.inr ⟨O,by rw[P2];exact hq i j r c hi hj⟩),by rw[P2];exact aY _ (a8M (hq i j r c hi hj) hqc)⟩) (λi j r c hi hj=>?_) (λk' aL=>⟨s',?_,O,O,λ_=>O⟩)
   .rcases W0.1 hr with h|h
    .exact aO r h c hc
    .obtain ⟨i,hi⟩:=M5.1 h;obtain⟨j,hj⟩:=M5.1 hc;exact(bz i j r c hi hj).2
   .rw [L1 _ _ _ _ dj];rw[a6j]at hi;split at hi
    .rename_i ah;have cg:j<s':=by have:=(n_3.1 hj).1;rwa[aZ r (n_2 hi)]at this
     have hql:i*s'+j<Y.length*s':=by
      have:(i+1)*s'<=Y.length*s':=X3 _ ah;rw[R6]at this;omega
     rw[G J];have h3:=(hc i j r c hi hj).2;rw[P2]at h3;have h4:w.cell? ⟨b,i*s'+j,none⟩=some (aF.getD (i*s'+j) undef):=by
      have:i*s'+j<aF.size:=by omega
      simp[World.cell?,q4,this]
     rw[h4]at h3;injection h3 with h3
     rw[h3];exact(bg i j r c hi hj).mono hx
    .rename_i aH;have bM:=(n_3.1 hi).1;have cg:j<s':=by have:=(n_3.1 hj).1;rwa[cc r (n_2 hi)]at this
     have e1:(i-Y.length)*s'=i*s'-Y.length*s':=Nat.sub_mul _ _ _;have e2:Y.length*s'<=i*s':=X3 _ J;have e3:(i-Y.length+1)*s'<=new.length*s':=X3 _ bM;rw[R6]at e3;rw[W (by rw[aA,bc];omega)];have:=(bz _ j r c hi hj).1.mono hx;rw[show i*s'+j-Y.length*s'=(i-Y.length)*s'+j from by omega];simpa using this
   .injection aL with aL
    subst aL;exact cu
  .
   obtain⟨sz,hp,ha0,rfl,_⟩:=cK k O;obtain⟨⟨q1,q2,q3,aF,ty,q4,q5⟩,cJ⟩:=hr.obj k _ _ hp ge;have aJ:sz=s:=(q3.2 (by rw[ht0'];rfl)).trans (hts (by rw[ht0'];rfl)).symm;obtain⟨fz,ig⟩:∃fz,fz=t0.getD ty:=⟨_,O⟩;rw[<- ig]at q4;have hgd:t0.getD fz=fz:=by rw[ig];cases t0<;>rfl
   simp only at q1 q2 q3 q4 q5;subst aJ;obtain⟨_,cc,ap,cr,bc,bz⟩:=fe;have aA:ap.toList.length=ap.size:=a9u;have dF:([]:List (List CV)).length=0:=O;rw[dF]at cj bx hv bO hb bm hk;rw[P2]at cj hk;have dj:0+ap.toList.length<=aF.size:=by
    rw[aA,bc,q5,P2];exact X3 _ cj
   have aP:=O0 (P:=C.P) (b:=b) (off:=0) (t:=fz) ap.toList 0 aF w q4 J (Src.one cc bc bz);rw[b1q]at aP;have ay:(execOp ρ o).run C.P w= .ok (.value (.slice (some ⟨b,0,none⟩) new.length cap)) (World.putObj w b (.cells (D0 aF 0 ap.toList) fz (0,0))):=by
    have:=Y8 (P:=C.P) (ty:=o.type) (b:=b) (off:=0) (n:=0) (m:=new.length) (c:=cap) hu dl hs am cr J (by rw[Nat.zero_mul];exact aP);rw[P2]at this;rw[bB,hv,ha0,this];rfl
   rw[ay];obtain⟨bv,aQ⟩:=hr.tipStore (cur':=D0 aF 0 ap.toList) hp ge hgd q4 (I1 _ _ _) (λo' ho'=>by simp at ho');obtain⟨aS,bq⟩:=aQ.tipNew (m:=new.length) hp ge (n_4 _) cj;have cu:(M.add ⟨b,cap,sz⟩).pl[σ.length]?=some ⟨b,cap,sz⟩:=by simp[A5.add,<- hr.len]
   have bW:(σ.set k b9.dead++[b9.tipT t0 new.length])[σ.length]?=some (.tipT t0 new.length):=by simp
   obtain⟨gC,gg⟩:=bq.settleCells cu bW;have hx:=(bv.trans aS).trans gC;refine⟨_,_,_,hx,gg,?_,hk⟩;have gD:b<w.heap.size:=(a1N.1 q4).1;have aY:∀q,q<aF.size->(World.putObj w b (.cells (D0 aF 0 ap.toList) fz (0,0))).cell? ⟨b,q,none⟩=some ((D0 aF 0 ap.toList).getD q undef):=λq hq=>by
    have:q< (D0 aF 0 ap.toList).size:=by rw[I1];exact hq
    simp[World.cell?,World.putObj_same w _ gD,this]
   have hq:∀i j r c,new[i]?=some r->r[j]?=some c->i*sz+j<new.length*sz:=λi j r c hi hj=>by
    have bM:=(n_3.1 hi).1;have cg:j<sz:=by have:=(n_3.1 hj).1;rwa[cc r (n_2 hi)]at this
    have:(i+1)*sz<=new.length*sz:=X3 _ bM;rw[R6]at this;omega
   have hqc:new.length*sz<=aF.size:=by rw[q5];exact X3 _ cj
   refine RV.list' (b:=b) (off:=0) (s:=sz) O (λi j=>(D0 aF 0 ap.toList).getD (i*sz+j) undef) cj q2 O (λh=>by cases h) W9 cc (λr hr c hc=>?_) (λi j r c hi hj=>⟨.inr (.inr ⟨O,by rw[P2];exact hq i j r c hi hj⟩),by rw[P2];exact aY _ (a8M (hq i j r c hi hj) hqc)⟩) (λi j r c hi hj=>?_) (λk' aL=>⟨sz,?_,O,O,λ_=>O⟩)
   .obtain ⟨i,hi⟩:=M5.1 hr;obtain⟨j,hj⟩:=M5.1 hc;exact(bz i j r c hi hj).2
   .rw [L1 _ _ _ _ dj];rw[W (by rw[aA,bc];have:=hq i j r c hi hj;omega)];have:=(bz i j r c hi hj).1.mono hx;simpa using this
   .injection aL with aL
    subst aL;exact cu
 .
  obtain⟨eT,ii⟩:=hr.drewN;have ff:=a2i (C:=C) (a7N h1) aZ;have hsn':=aW M w.drew _ eT (a7N h2);rw[hv]at ff;obtain⟨a1,c1,eY,_,_,old,hfo,fg,fK⟩:=ff;obtain⟨_,cc,ap,cr,bc,bz⟩:=hsn';obtain⟨c',di,dT,ay⟩:=a0N (P:=C.P) (ty:=o.type) (a:=a) (c:=cap) (w:=w) hu dl hs dm hz am hfo cr J bm hb;rw[bB,hv,ay];simp only[Result.andThen_ok];have ij:w.drew.heap.size=w.heap.size:=O;rw[<- ij];have hrk:=eT.kill tok;have fL:=b76 σ tok;have fM:(old++ap++Builtin.zeroCells z.cells (c'- (Y.length+new.length))).size=c'*s:=by
   simp only[c0W,a1Y,fg,bc,ca];rw[<- R6,<- R6]
   congr 1;omega
  have bq:=hrk.alloc ⟨w.drew.heap.size,c',s⟩ (.cells (old++ap++Builtin.zeroCells z.cells (c'- (Y.length+new.length))) e) (.tipT t0 (Y.length+new.length)) O
   ⟨di,by unfold maxLen;simp only;omega,⟨λo' ho'=>by have:=eT.blk _ _ (.inr ho');simp only at this;omega,hts⟩,_,e,by rw[show t0.getD e=e from by rcases ht0 with h|h<;>rw[h]<;>rfl];exact A2 _ _,fM⟩
  have aS:=Ext.alloc hrk ⟨w.drew.heap.size,c',s⟩ (.cells (old++ap++Builtin.zeroCells z.cells (c'- (Y.length+new.length))) e);have cu:(M.add ⟨w.drew.heap.size,c',s⟩).pl[σ.length]?=some ⟨w.drew.heap.size,c',s⟩:=by simp[A5.add,<- hr.len]
  have bW:(kill σ tok++[b9.tipT t0 (Y.length+new.length)])[σ.length]?=some (.tipT t0 (Y.length+new.length)):=by rw[<- fL];simp
  obtain⟨gC,gg⟩:=bq.settleCells cu bW;have hx:=(ii.trans aS).trans gC;refine⟨_,_,_,hx,gg,?_,hk⟩;have aw:=a4x (rest:=Builtin.zeroCells z.cells (c'- (Y.length+new.length))) fg bc aZ cc (λi j r c hi hj=>(fK i j r c hi hj).1) (λi j r c hi hj=>(bz i j r c hi hj).1);have hq:∀i j r c,(Y++new)[i]?=some r->r[j]?=some c->i*s+j< (Y.length+new.length)*s:=λi j r c hi hj=>by
   have bM:=(n_3.1 hi).1;rw[bO]at bM;have cg:j<s:=by have:=(n_3.1 hj).1;rwa[cq r (n_2 hi)]at this
   have:(i+1)*s<=(Y.length+new.length)*s:=X3 _ bM;rw[R6]at this;omega
  refine RV.list' (b:=w.drew.heap.size) (off:=0) (s:=s) bO.symm (λi j=>(old++ap++Builtin.zeroCells z.cells (c'- (Y.length+new.length))).getD (i*s+j) undef) (by rw[bO];exact di) (by unfold maxLen;omega) O (λh=>by cases h) W9 cq (λr hr c hc=>?_) (λi j r c hi hj=>⟨.inr (.inr ⟨O,by rw[P2];exact hq i j r c hi hj⟩),?_⟩) (λi j r c hi hj=>?_) (λk' aL=>⟨s,?_,O,O,λ_=>O⟩)
  .rcases W0.1 hr with h|h
   .obtain ⟨i,hi⟩:=M5.1 h;obtain⟨j,hj⟩:=M5.1 hc;exact(fK i j r c hi hj).2
   .obtain ⟨i,hi⟩:=M5.1 h;obtain⟨j,hj⟩:=M5.1 hc;exact(bz i j r c hi hj).2
  .rw [P2,World.cell?_alloc_new];have:=(aw i j r c hi hj).1;rw[a2I this,a0D,a2I this];rfl
  .exact (aw i j r c hi hj).2.mono (aS.trans gC)
  .injection aL with aL
   subst aL;exact cu
theorem a5z{tok:Option Nat}{ti:TypeInfo}(ho:o.op = .call {callee:=.builtin .append,args:=#[x,y],argTypes:=#[t,t2]})(hx:E.valid x)(hy:E.valid y)(ex:E.val C x= .list Y nn tok)
 (aW:∀M w v,Rel C M σ w->RV M w (E.val C y) v->b9S C w M new s v)(hu:∀w,(underlying t).run C.P w= .ok (.slice e) w)(hs:∀w,(sizeOf e).run C.P w= .ok s w)(dm:∀w,(typeInfo e).run C.P w= .ok ti w)(hz:∀w,(zeroValue e).run C.P w= .ok z w)(ca:z.cells.size=s)
 (dl:(∀w,(underlying t2).run C.P w= .ok (.slice e) w)\/∀w,(underlying t2).run C.P w= .ok .string w)(ht0:t0=none\/t0=some e)(hts:t0.isSome=true->s=1)(bK:b3U t0 σ Y nn tok)(aZ:∀r∈Y,r.length=s)(ci:new≠[])(hb:(Y.length+new.length)*ti.bytes<=140737488355328)(bm:Y.length+new.length<=9223372036854775807)
 (hk:K (.ret (.list (Y++new) true (some σ.length))) (kill σ tok++[.tipT t0 (Y.length+new.length)])):D3 C σ E o K:=
 b92 ho hx hy ex aW hu hs dm hz ca dl ht0 hts (.inl bK) aZ ci hb bm hk
theorem b0f{tok:Option Nat}{ti:TypeInfo}(ho:o.op = .call {callee:=.builtin .append,args:=#[x,y],argTypes:=#[t,t]})(hx:E.valid x)(hy:E.valid y)(ex:E.val C x= .list Y nn tok)
 (aW:∀M w v,Rel C M σ w->RV M w (E.val C y) v->Src C M w new s v)(hu:∀w,(underlying t).run C.P w= .ok (.slice e) w)(hs:∀w,(sizeOf e).run C.P w= .ok s w)(dm:∀w,(typeInfo e).run C.P w= .ok ti w)(hz:∀w,(zeroValue e).run C.P w= .ok z w)(ca:z.cells.size=s)
 (bK:d0h σ Y nn tok)(aZ:∀r∈Y,r.length=s)(ci:new≠[])(hb:(Y.length+new.length)*ti.bytes<=140737488355328)(bm:Y.length+new.length<=9223372036854775807)
 (hk:K (.ret (.list (Y++new) true (some σ.length))) (kill σ tok++[.tip (Y.length+new.length)])):D3 C σ E o K:=
 a5z ho hx hy ex (λM w v hr h=>(aW M w v hr h).any) hu hs dm hz ca (.inl hu) (.inl O) (λh=>by cases h) bK aZ ci hb bm hk
end
section
def d2r(z:Value):List CV:=(H8 z).cells
theorem d8z(bV:K4 z=true)(cU:(H8 z).one=true\/∃cs,H8 z= .agg cs)(ca:z.cells.size=s)(aA:∀q,q<n*s->ap.getD q undef=z.cells.getD (q%s) undef)(i j:Nat)(r:List CV)(c:CV)(hi:(List.replicate n (d2r z))[i]?=some r)(hj:r[j]?=some c):
 RV M w c (ap.getD (i*s+j) undef)/\c.one=true:=by
 have eX:RV M w (H8 z) z:=a0v bV;obtain⟨g1,g2,g3⟩:=eX.cells cU;rw[List.getElem?_replicate]at hi;split at hi
 .rename_i bL;injection hi with hi
  subst hi;have cg:=(n_3.1 hj).1;have hjs:j<s:=by rw[<- ca,g1];exact cg
  have hq:i*s+j<n*s:=by
   have:(i+1)*s<=n*s:=X3 _ bL;rw[R6]at this;omega
  rw[aA _ hq,(c0k hjs).2];exact⟨g3 j c hj,g2 c (n_2 hj)⟩
 .cases hi
theorem c6m(bV:K4 z=true)(cU:(H8 z).one=true\/∃cs,H8 z= .agg cs)(ca:z.cells.size=s):(d2r z).length=s:=by
 have eX:RV ⟨[],λ_=>False,λ_ _=>False,λ_=>False⟩ default (H8 z) z:=a0v bV;have:=(eX.cells cU).1;rw[ca]at this;exact this.symm
theorem c36{z:Array Value}{q:Nat}(hs:z.size=s)(hq:q<n*s):((Array.range (n*s)).map (z[·%z.size]!)).getD q undef=z.getD (q%s) undef:=by
 have h0:0<s:=by
  rcases b1C s with h|h
  .subst h;simp at hq
  .exact h
 have hms:q%s<s:=a4L _ h0;simp[hq,hs,hms]
theorem c6L{c:Nat}{kx ky:IntKind}{b:Int}{ti:TypeInfo}(ho:o.op = .makeSlice t x y)(hx:E.valid x)(hy:E.valid y)(ex:E.val C x= .val (.int kx a))(ey:E.val C y= .val (.int ky b))(ha:a=n)(hb:b=c)
 (hu:∀w,(underlying t).run C.P w= .ok (.slice e) w)(hs:∀w,(sizeOf e).run C.P w= .ok s w)(dm:∀w,(typeInfo e).run C.P w= .ok ti w)(hz:∀w,(zeroValue e).run C.P w= .ok z w)(bV:K4 z=true)(cU:(H8 z).one=true\/∃cs,H8 z= .agg cs)(ca:z.cells.size=s)
 (hnc:n<=c)(bm:c<=9223372036854775807)(hby:ti.bytes*c<=281474976710656)(hk:K (.ret (.vec σ.length 0 n)) (σ++[.vec s (List.replicate n (d2r z))])):D3 C σ E o K:=λM w ρ hr hh=>by
 subst ha hb;have h1:=hh x w8 hx;have h2:=hh y w8 hy;rw[ex]at h1;rw[ey]at h2;have e1:IntKind.i64.wrap (n:Int)=n:=a4v J J;have e2:IntKind.i64.wrap (c:Int)=c:=a4v J J;have e3:((ti.bytes:Int)*(c:Int) > 2^48)=False:=by
  have h:((ti.bytes*c:Nat):Int)<=281474976710656:=by omega
  rw[Int.natCast_mul]at h;simp;omega
 have aY:(if c*s=0 then(#[]:Array Value)else z.cells)=(if c*s=0 then #[]else z.cells):=O;have hnlt:¬((c:Int)<n):=by omega
 have ay:(execOp ρ o).run C.P w= .ok (.value (.slice (some ⟨w.heap.size,0,none⟩) n c)) (w.alloc (.cells ((Array.range (c*s)).map (z.cells[·%z.cells.size]!)) e)):=by
  have e4:¬(2^48< (ti.bytes:Int)*(c:Int)):=H e3;by_cases h0:c*s=0
  .have er:Array.range 0= #[]:=O;simp[execOp,ho,Instr.makeSlice,hu,p8 h1,p8 h2,asInt,asIntOf,dm,e1,e2,hs,h0,newRow,er,hnlt]at e4⊢;intro h;exfalso
   rcases h with(h|h)|h<;>omega
  .simp [execOp,ho,Instr.makeSlice,hu,p8 h1,p8 h2,asInt,asIntOf,dm,e1,e2,hs,h0,hz,newRow,hnlt]at e4⊢;intro h;exfalso
   rcases h with(h|h)|h<;>omega
 rw[ay];have hx:=Ext.alloc hr ⟨w.heap.size,c,s⟩ (.cells ((Array.range (c*s)).map (z.cells[·%z.cells.size]!)) e);have fH:=c6m bV cU ca;refine⟨.vec σ.length 0 n,_,_,hx,hr.alloc ⟨w.heap.size,c,s⟩ _ (.vec s (List.replicate n (d2r z))) O ⟨O,H hnc,by unfold maxLen;simp only;omega,λr hr=>by rw[(List.mem_replicate.1 hr).2,fH],λr hr c hc=>?_,_,e,A2 _ _,Q,λi j r c' hi hj=>?_⟩,?_,hk⟩
 .rw [(List.mem_replicate.1 hr).2]at hc;have eX:RV M w (H8 z) z:=a0v bV;exact(eX.cells cU).2.1 c hc
 .exact (d8z (n:=n) bV cU ca (λq hq=>c36 ca (a8M hq (X3 _ hnc))) i j r c' hi hj).1
 .have:=RV.vec (M:=M.add ⟨w.heap.size,c,s⟩) (w:=w.alloc (.cells ((Array.range (c*s)).map (z.cells[·%z.cells.size]!)) e)) (k:=σ.length) (off:=0) (len:=n) (p:=⟨w.heap.size,c,s⟩) (a:=⟨w.heap.size,0,none⟩) b1i (H hnc) (by unfold maxLen;simp only;omega) (λ_=>by simp);exact this
theorem b45{len:Nat}(ho:o.op = .call {callee:=.builtin .append,args:=#[x,y],argTypes:=#[t,t]})(hx:E.valid x)(hy:E.valid y)(ex:E.val C x= .vec k off len)
 (aW:∀M w v,Rel C M σ w->RV M w (E.val C y) v->Src C M w new s v)(hu:∀w,(underlying t).run C.P w= .ok (.slice e) w)(hs:∀w,(sizeOf e).run C.P w= .ok s w)(aL:σ[k]?=some (.vec s Y))(hl:off+len+new.length<=Y.length)
 (hk:K (.ret (.vec k off (len+new.length))) (σ.set k (.vec s (K3 Y (off+len) new)))):D3 C σ E o K:=λM w ρ hr hh=>by
 have h1:=hh x L4 hx;have h2:=hh y L4 hy;rw[ex]at h1;have fe:=aW M w _ hr h2;have am:=fe.lenOf;generalize hv:ρ x=v at h1;cases h1 with
 |vec hp g1 g2 g3=>
  rename_i p a;obtain⟨an,cn,hvn,_,cc,ap,cr,bc,bz⟩:=fe;have fh:=(hr.obj k p _ hp aL).1;have bx:Y.length<=p.cap:=fh.2.1;have ba:p.size=s:=fh.1;obtain⟨w',aP,aC,bl⟩:=a6y hr hp aL (p:=off+len) (new:=new) J J cc bc bz;have cj:len+new.length<=p.cap -off:=by omega
  have ay:(execOp ρ o).run C.P w= .ok (.value (.slice (some a) (len+new.length) (p.cap -off))) w':=by
   rcases b1C new.length with h0|h0
   .have fy:ap.toList=[]:=b9E (by simp[bc,h0]);have aA:ap= #[]:=H fy;rw[fy]at aP;have:w'=w:=by
     have h2:(storeCells ⟨p.block,(off+len)*s,none⟩ []).run C.P w= .ok () w:=by simp[storeCells]
     rw[h2]at aP;injection aP with _ h3
     exact h3.symm
    subst this;have hfit':len<=p.cap -off:=by omega
    rw[h0]at cr am;simp[execOp,ho,resolve,invoke,builtin,Builtin.append_,hu,hs,hv,am,h0,hfit',cr,aA,storeCells]
   .have ha:=g3 J;have:=Y8 (P:=C.P) (ty:=o.type) (b:=p.block) (off:=off*p.size) (n:=len) (m:=new.length) (c:=p.cap -off) hu (.inl hu) hs am cr cj (by rw[ba,<- R6];exact aP);rw[<- ha]at this;simp[execOp,ho,resolve,invoke,builtin,hv,this]
  rw[ay];refine⟨_,_,M,aC,bl,?_,hk⟩;exact .vec hp J g2 g3
theorem b9n{ti:TypeInfo}(ho:o.op = .call {callee:=.builtin .append,args:=#[x,y],argTypes:=#[t,t]})(hx:E.valid x)(hy:E.valid y)(ex:E.val C x= .vec k 0 Y.length)
 (aW:∀M w v,Rel C M σ w->RV M w (E.val C y) v->Src C M w new s v)(hu:∀w,(underlying t).run C.P w= .ok (.slice e) w)(hs:∀w,(sizeOf e).run C.P w= .ok s w)(dm:∀w,(typeInfo e).run C.P w= .ok ti w)(hz:∀w,(zeroValue e).run C.P w= .ok z w)(ca:z.cells.size=s)
 (aL:σ[k]?=some (.vec s Y))(ci:new≠[])(hb:(Y.length+new.length)*ti.bytes<=140737488355328)(bm:Y.length+new.length<=9223372036854775807)
 (hk:K (.ret (.vec σ.length 0 (Y.length+new.length))) (σ.set k .dead++[.vec s (Y++new)])):D3 C σ E o K:=λM w ρ hr hh=>by
 have h1:=hh x L4 hx;have h2:=hh y L4 hy;rw[ex]at h1;have fJ:0<new.length:=b2h.2 ci;have hsx:=a6E hr h1 aL (Nat.le_of_eq (P2 _));rw[b3S,a9q]at hsx;have am:=(aW M w _ hr h2).lenOf;have bB:(execOp ρ o).run C.P w=((Builtin.append_ #[t,t] o.type #[ρ x,ρ y]).run C.P w).andThen λv w=>.ok (.value v) w:=by
  simp[execOp,ho,resolve,invoke,builtin]
 generalize hv:ρ x=v at h1 hsx;cases h1 with
 |vec hp g1 g2 g3=>
  rename_i p a;have fh:=(hr.obj k p _ hp aL).1;have bx:Y.length<=p.cap:=fh.2.1;have ba:p.size=s:=fh.1;subst ba;by_cases cj:Y.length+new.length<=p.cap
  .obtain ⟨an,cn,hvn,_,cc,ap,cr,bc,bz⟩:=aW M w _ hr h2;obtain⟨w',aP,aC,bl⟩:=a6y hr hp aL (p:=Y.length) (new:=new) (n_6 _) cj cc bc bz;have ha:=g3 J;rw[Nat.zero_mul]at ha;have bK:=Y8 (P:=C.P) (ty:=o.type) (b:=p.block) (off:=0) (n:=Y.length) (m:=new.length) (c:=p.cap -0) hu (.inl hu) hs am cr J (by rw[P2];exact aP);rw[bB,hv,ha,bK];simp only[Result.andThen_ok];have ai:K3 Y Y.length new=Y++new:=by simp[K3]
   rw[ai]at bl;have bS:k<σ.length:=(n_3.1 aL).1;have bW:(σ.set k (.vec p.size (Y++new)))[k]?=some (.vec p.size (Y++new)):=by rw[b8U bS]
   have aS:Ext M w' (M.add p) w':=⟨⟨[p],O⟩,λ_ h=>h,λ_ _ h=>.inr h,λ_ _=>O,λ_ _ _=>O,n_6 _,R4,O,O,O,λ_ h=>⟨h,O,id,λ_=>id⟩⟩;have hd:=bl.dead k;rw[List.set_set]at hd;have hobj':=bl.obj k p _ hp bW;have aw:∀{j:Nat} {q:Pl},(M.add p).pl[j]?=some q->(j<σ.length/\M.pl[j]?=some q)\/(j=σ.length/\q=p):=by
    intro j q hj;simp only[A5.add,a6j,hr.len]at hj;split at hj
    .exact .inl ⟨‹_›,hj⟩
    .have:j-σ.length=0:=by
      have:=(n_3.1 hj).1;simp at this;omega
     rw[this]at hj;simp at hj;exact .inr ⟨J,hj.symm⟩
   have eQ:∀{j:Nat} {x:b9},(σ.set k b9.dead++[b9.vec p.size (Y++new)])[j]?=some x->(j<σ.length/\(σ.set k b9.dead)[j]?=some x)\/(j=σ.length/\x= .vec p.size (Y++new)):=by
    intro j x hj;rw[a6j]at hj;split at hj
    .exact .inl ⟨by rename_i h;simpa using h,hj⟩
    .have:j- (σ.set k b9.dead).length=0:=by
      have:=(n_3.1 hj).1;simp at this⊢;omega
     rw[this]at hj;simp at hj;rename_i h2;have am:(σ.set k b9.dead).length=σ.length:=by simp
     exact .inr ⟨J,hj.symm⟩
   have dI:∀{j:Nat} {q:Pl} {x:b9},M.pl[j]?=some q->(σ.set k b9.dead)[j]?=some x->x.live=true->q.block≠p.block:=by
    intro j q x hj df hl e;have hjk:j≠k:=by
     rintro rfl;rw[b8U bS]at df;injection df with df
     subst df;cases hl
    have eD:σ[j]?=some x:=by rwa[a5I (Ne.symm hjk)]at df
    exact hjk (hr.inj j k q p x _ hj hp eD aL hl O e)
   refine⟨.vec σ.length 0 (Y.length+new.length),_,M.add p,aC.trans aS,⟨by simp[A5.add,hr.len],λb o' ha=>bl.blk b o' ha,λj q x hj df=>?_,λj j' q q' x x' hj dG df eD hl bw hb=>?_,λg cells hg=>(bl.glob g cells hg).mono aS,bl.kep,λj q x hj df bU=>?_⟩,?_,hk⟩
   .rcases eQ df with⟨ah,h⟩|⟨rfl,rfl⟩
    .rcases aw hj with⟨_,hq⟩|⟨rfl,_⟩
     .obtain ⟨h1,h2⟩:=hd.obj j q x hq h;refine⟨?_,h2⟩;by_cases hl:x.live=true
      .exact h1.mono aS O (λ_ _ _ _ h=>h)
      .cases x<;>first|trivial|simp[b9.live]at hl
     .omega
    .rcases aw hj with⟨h,_⟩|⟨_,rfl⟩
     .omega
     .exact ⟨hobj'.1.mono aS O (λ_ _ _ _ h=>h),hobj'.2⟩
   .rcases eQ df with⟨ah,h⟩|⟨rfl,rfl⟩
    .rcases aw hj with⟨_,hq⟩|⟨rfl,_⟩
     .rcases eQ eD with⟨bt,h'⟩|⟨rfl,rfl⟩
      .rcases aw dG with⟨_,dZ⟩|⟨rfl,_⟩
       .exact hd.inj j j' q q' x x' hq dZ h h' hl bw hb
       .omega
      .rcases aw dG with⟨h0,_⟩|⟨_,rfl⟩
       .omega
       .exact absurd hb (dI hq h hl)
     .omega
    .rcases aw hj with⟨h0,_⟩|⟨_,rfl⟩
     .omega
     .rcases eQ eD with⟨bt,h'⟩|⟨rfl,rfl⟩
      .rcases aw dG with⟨_,dZ⟩|⟨rfl,_⟩
       .exact absurd hb.symm (dI dZ h' bw)
       .omega
      .rfl
   .rcases eQ df with⟨ah,h⟩|⟨rfl,rfl⟩
    .rcases aw hj with⟨_,hq⟩|⟨rfl,_⟩
     .exact hd.nk j q x hq h bU
     .omega
    .rcases aw hj with⟨h0,_⟩|⟨_,rfl⟩
     .omega
     .exact hr.nk k q _ hp aL O
   .exact RV.vec (M:=M.add p) (w:=w') (k:=σ.length) (off:=0) (len:=Y.length+new.length) (p:=p) (a:=⟨p.block,0,none⟩) b1i J g2 (λ_=>by simp)
  .obtain ⟨eT,ii⟩:=hr.drewN;have dy:RV M w.drew (.vec k 0 Y.length) (.slice (some a) Y.length (p.cap -0)):=.vec hp g1 g2 g3;have ff:=a6E eT dy aL (Nat.le_of_eq (P2 _));rw[b3S,a9q]at ff;obtain⟨a1,c1,eY,_,aZ,old,hfo,fg,fK⟩:=ff;obtain⟨an,cn,hvn,_,cc,ap,cr,bc,bz⟩:=aW M w.drew _ eT (a7N h2);obtain⟨c',di,dT,ay⟩:=a0N (P:=C.P) (ty:=o.type) (a:=some a) (c:=p.cap -0) (w:=w) hu (.inl hu) hs dm hz am hfo cr J bm hb;rw[bB,hv,ay];simp only[Result.andThen_ok];have ij:w.drew.heap.size=w.heap.size:=O;rw[<- ij];have hrk:=eT.dead k;have fM:(old++ap++Builtin.zeroCells z.cells (c'- (Y.length+new.length))).size=c'*p.size:=by
    simp only[c0W,a1Y,fg,bc,ca];rw[<- R6,<- R6]
    congr 1;omega
   have aS:=Ext.alloc hrk ⟨w.drew.heap.size,c',p.size⟩ (.cells (old++ap++Builtin.zeroCells z.cells (c'- (Y.length+new.length))) e);have cq:∀r∈Y++new,r.length=p.size:=λr hr=>by
    rcases W0.1 hr with h|h
    .exact aZ r h
    .exact cc r h
   have aw:=a4x (rest:=Builtin.zeroCells z.cells (c'- (Y.length+new.length))) fg bc aZ cc (λi j r c hi hj=>(fK i j r c hi hj).1) (λi j r c hi hj=>(bz i j r c hi hj).1);have bq:=hrk.alloc ⟨w.drew.heap.size,c',p.size⟩ (.cells (old++ap++Builtin.zeroCells z.cells (c'- (Y.length+new.length))) e) (.vec p.size (Y++new)) O
    ⟨O,H di,by unfold maxLen;simp only;omega,cq,λr hr c hc=>(by
     rcases W0.1 hr with h|h
     .obtain ⟨i,hi⟩:=M5.1 h;obtain⟨j,hj⟩:=M5.1 hc;exact(fK i j r c hi hj).2
     .obtain ⟨i,hi⟩:=M5.1 h;obtain⟨j,hj⟩:=M5.1 hc;exact(bz i j r c hi hj).2),_,e,A2 _ _,fM,λi j r c hi hj=>((aw i j r c hi hj).2.mono aS)⟩
   refine⟨.vec σ.length 0 (Y.length+new.length),_,_,ii.trans aS,bq,?_,hk⟩;exact RV.vec (M:=M.add ⟨w.drew.heap.size,c',p.size⟩) (k:=σ.length) (off:=0) (len:=Y.length+new.length) (p:=⟨w.drew.heap.size,c',p.size⟩) (a:=⟨w.drew.heap.size,0,none⟩) b1i (H di) (by unfold maxLen;simp only;omega) (λ_=>by simp)
end
def A8.jump(l:Nat)(Jc:Env->List b9->Prop)(Ji:A8->Env->List b9->Prop):A8->Env->List b9->Prop
 | .goto l',E,σ=>l'=l/\Jc E σ
 |e,E,σ=>Ji e E σ
theorem c8N{Ji:A8->Env->List b9->Prop}{c rest:Code}(l:Nat)(Jc:Nat->Env->List b9->Prop)(hf:findLabel c l=some rest)
 (first:CWp C n c (A8.jump l (λE σ=>∃m,Jc m E σ) Ji) E σ)(pass:∀m E σ,Jc m E σ->CWp C n rest (A8.jump l (λE' aa=>∃m',m'<m/\Jc m' E' aa) Ji) E σ):CWp C n (.scope c) Ji E σ:=λM w a hr hfr=>by
 intro b k cs;have hg:gotoIn l (.inScope c::k)=some (.code rest::.inScope c::k):=by simp[gotoIn,hf]
 have key:∀m E σ M1 w1 a1,Jc m E σ->Ext M w M1 w1->Rel C M1 σ w1->H0 M1 w1 n E a1 ->
  ∃e a' w',R0 C n Ji M w e a' w'/\Arrives C.P (lone (b.at a1 (.code rest::.inScope c::k)) cs w1) b k cs e a' w':=by
  intro m
  induction m using Nat.strongRecOn with
  |_ m ih=>
   intro E σ M1 w1 a1 hJ hx aQ dg;obtain⟨e,a2,w2,hq,aA⟩:=pass m E σ hJ M1 w1 a1 aQ dg b (.inScope c::k) cs;obtain⟨E',aa,M',h1,h2,h3,h4⟩:=hq;cases e with
   |normal=>exact⟨.normal,a2,w2,⟨E',aa,M',hx.trans h1,h2,h3,h4⟩,Steps.trans aA (.one step_inScope)⟩
   |exit id=>exact⟨.exit id,a2,w2,⟨E',aa,M',hx.trans h1,h2,h3,h4⟩,λk' hk=>aA k' (by simp[exitTo,hk])⟩
   |goto l'=>
    obtain⟨rfl,m',ah,hJ'⟩:=h4;obtain⟨dC,dD,dE,bZ,bb⟩:=ih m' ah E' aa M' w2 a2 hJ' (hx.trans h1) h2 h3;exact⟨dC,dD,dE,bZ,.of_steps (aA _ hg) bb⟩
   |ret=>exact⟨.ret,a2,w2,⟨E',aa,M',hx.trans h1,h2,h3,h4⟩,aA⟩
   |panic ch=>exact⟨.panic ch,a2,w2,⟨E',aa,M',hx.trans h1,h2,h3,h4⟩,aA⟩
   |outgrown=>exact h4.elim
 obtain⟨e,a1,w1,hq,aA⟩:=first M w a hr hfr b (.inScope c::k) cs
 obtain⟨E',aa,M',h1,h2,h3,h4⟩:=hq;cases e with
 |normal=>exact⟨.normal,a1,w1,⟨E',aa,M',h1,h2,h3,h4⟩,.head step_scope (Steps.trans aA (.one step_inScope))⟩
 |exit id=>exact⟨.exit id,a1,w1,⟨E',aa,M',h1,h2,h3,h4⟩,λk' hk=>.head step_scope (aA k' (by simp[exitTo,hk]))⟩
 |goto l'=>
  obtain⟨rfl,m,hJ⟩:=h4;obtain⟨dC,dD,dE,bZ,bb⟩:=key m E' aa M' w1 a1 hJ h1 h2 h3;exact⟨dC,dD,dE,bZ,.of_steps (.head step_scope (aA _ hg)) bb⟩
 |ret=>exact⟨.ret,a1,w1,⟨E',aa,M',h1,h2,h3,h4⟩,.of_steps (.one step_scope) aA⟩
 |panic ch=>exact⟨.panic ch,a1,w1,⟨E',aa,M',h1,h2,h3,h4⟩,.of_steps (.one step_scope) aA⟩
 |outgrown=>exact h4.elim
inductive Old(n:Nat):CV->Prop where
 |val (v:Value):Old n (.val v)
 |agg {cs:List CV}:(∀(i:Nat) (c:CV),cs[i]?=some c->Old n c)->Old n (.agg cs)
 |tup {cs:List CV}:(∀(i:Nat) (c:CV),cs[i]?=some c->Old n c)->Old n (.tup cs)
 |clo {f:FuncId} {cs:List CV}:(∀(i:Nat) (c:CV),cs[i]?=some c->Old n c)->Old n (.clo f cs)
 |list {Y:List (List CV)} {nn:Bool} {tok:Option Nat}:(∀(i j:Nat) (r:List CV) (c:CV),Y[i]?=some r->r[j]?=some c->Old n c)->(∀k,tok=some k->k<n)->Old n (.list Y nn tok)
 |ptr {k off:Nat}:k<n->Old n (.ptr k off)
 |cptr {cells:List CV}:(∀(j:Nat) (c:CV),cells[j]?=some c->Old n c)->Old n (.cptr cells)
 |eptr {k i off:Nat}:k<n->Old n (.eptr k i off)
 |vec {k off len:Nat}:k<n->Old n (.vec k off len)
 |map {k:Nat}:k<n->Old n (.map k)
 |yld {k:Nat}:k<n->Old n (.yld k)
theorem RV.old(h:RV M w c v):Old M.pl.length c:=by
 induction h with
 |val v=>exact .val v
 |agg _ _ _ ih=>exact .agg ih
 |tup _ _ ih=>exact .tup ih
 |clo _ _ ih=>exact .clo ih
 |list vals _ _ _ _ _ _ _ _ _ cK ih=>
  exact .list ih λk hk=>(by
   obtain⟨s',hp,_⟩:=cK k hk;exact(n_3.1 hp).1)
 |ptr hk=>exact .ptr (n_3.1 hk).1
 |cptr _ _ _ _ ih=>exact .cptr ih
 |eptr hk=>exact .eptr (n_3.1 hk).1
 |vec hk=>exact .vec (n_3.1 hk).1
 |map hk=>exact .map (n_3.1 hk).1
 |yld hk=>exact .yld (n_3.1 hk).1
structure Cut(n:Nat)(M M':A5):Prop where
 pl:M'.pl=M.pl.take n
 full:∀b,M.full b->M'.full b
 cell:∀b o,M.cell b o->M'.at b o
theorem Cut.at(h:Cut n M M'){o:Nat}(ha:M.at b o):M'.at b o:=by
 rcases ha with ha|ha
 .exact .inl (h.full _ ha)
 .exact h.cell _ _ ha
theorem Cut.get(h:Cut n M M')(hk:k<n)(hp:M.pl[k]?=some p):M'.pl[k]?=some p:=by
 rw[h.pl,a2L,W hk];exact hp
theorem RV.cut(hc:Cut n M M')(h:RV M w c v)(ho:Old n c):RV M' w c v:=by
 induction h with
 |val v=>exact .val v
 |agg h1 h2 _ ih=>cases ho with|agg ho=>exact .agg h1 h2 λi c hi=>ih i c hi (ho i c hi)
 |tup h1 _ ih=>cases ho with|tup ho=>exact .tup h1 λi c hi=>ih i c hi (ho i c hi)
 |clo h1 _ ih=>cases ho with|clo ho=>exact .clo h1 λi c hi=>ih i c hi (ho i c hi)
 |list vals h1 h2 h3 h4 h5 h6 h7 h8 _ bj ih=>
  cases ho with
  |list ho ht=>
   exact .list vals h1 h2 h3 h4 h5 h6 h7 (λi j r c hi hj=>⟨hc.at (h8 i j r c hi hj).1,(h8 i j r c hi hj).2⟩) (λi j r c hi hj=>ih i j r c hi hj (ho i j r c hi hj)) λk hk=>by
    obtain⟨s',hp,aT⟩:=bj k hk;exact⟨s',hc.get (ht k hk) hp,aT⟩
 |ptr hk=>cases ho with|ptr ho=>exact .ptr (hc.get ho hk)
 |cptr vals h1 h2 _ ih=>cases ho with|cptr ho=>exact .cptr vals h1 (λj c hj=>⟨hc.at (h2 j c hj).1,(h2 j c hj).2⟩) λj c hj=>ih j c hj (ho j c hj)
 |eptr hk=>cases ho with|eptr ho=>exact .eptr (hc.get ho hk)
 |vec hk h1 h2 h3=>cases ho with|vec ho=>exact .vec (hc.get ho hk) h1 h2 h3
 |map hk=>cases ho with|map ho=>exact .map (hc.get ho hk)
 |yld hk=>cases ho with|yld ho=>exact .yld (hc.get ho hk)
inductive Cls(n:Nat)(σ:List b9):CV->CV->Prop where
 |old {c:CV}:Old n c->Cls n σ c c
 |agg {cs bi:List CV}:cs.length=bi.length->(∀(i:Nat) (c c':CV),cs[i]?=some c->bi[i]?=some c'->Cls n σ c c')->Cls n σ (.agg cs) (.agg bi)
 |tup {cs bi:List CV}:cs.length=bi.length->(∀(i:Nat) (c c':CV),cs[i]?=some c->bi[i]?=some c'->Cls n σ c c')->Cls n σ (.tup cs) (.tup bi)
 |clo {f:FuncId} {cs bi:List CV}:cs.length=bi.length->(∀(i:Nat) (c c':CV),cs[i]?=some c->bi[i]?=some c'->Cls n σ c c')->Cls n σ (.clo f cs) (.clo f bi)
 |list {Y ax:List (List CV)} {nn:Bool} {tok:Option Nat}:Y.length=ax.length->(∀(i:Nat) (r r':List CV),Y[i]?=some r->ax[i]?=some r'->r.length=r'.length) ->
  (∀(i j:Nat) (r r':List CV) (c c':CV),Y[i]?=some r->ax[i]?=some r'->r[j]?=some c->r'[j]?=some c'->Cls n σ c c')->Cls n σ (.list Y nn tok) (.list ax nn none)
 |vec {k off len s:Nat} {Y ax:List (List CV)}:n<=k->σ[k]?=some (.vec s Y)->off+len<=Y.length->((Y.drop off).take len).length=ax.length->(∀(i:Nat) (r r':List CV),((Y.drop off).take len)[i]?=some r->ax[i]?=some r'->r.length=r'.length) ->
  (∀(i j:Nat) (r r':List CV) (c c':CV),((Y.drop off).take len)[i]?=some r->ax[i]?=some r'->r[j]?=some c->r'[j]?=some c'->Cls n σ c c')->Cls n σ (.vec k off len) (.list ax true none)
theorem Cls.one(h:Cls n σ c c')(ho:c.one=true):c'.one=true:=by
 cases h<;>first|exact ho|rfl|(simp[CV.one]at ho)
theorem p9{β:Type}{l:List α}{l':List β}(h:l.length=l'.length){x:β}(hx:l'[i]?=some x):∃y,l[i]?=some y:=by
 have:=(n_3.1 hx).1;exact⟨l[i],by simp[h,this]⟩
theorem RV.close(hr:Rel C M σ w)(hc:Cut n M M')(ik:∀(k:Nat) (p:Pl) (s:Nat) (Y:List (List CV)),n<=k->M.pl[k]?=some p->σ[k]?=some (.vec s Y)->M'.full p.block)(h:Cls n σ c c')(hv:RV M w c v):RV M' w c' v:=by
 induction h generalizing v with
 |old ho=>exact hv.cut hc ho
 |agg hl fN ih=>
  cases hv with
  |agg h1 h2 h3=>
   refine .agg J (λc hcm=>?_) (λi c' hi=>?_)
   .obtain ⟨i,hi⟩:=M5.1 hcm;obtain⟨y,hy⟩:=p9 hl hi;exact(fN i y c hy hi).one (h2 y (n_2 hy))
   .obtain ⟨y,hy⟩:=p9 hl hi;exact ih i y c' hy hi (h3 i y hy)
 |tup hl _ ih=>
  cases hv with
  |tup h1 h3=>
   refine .tup J (λi c' hi=>?_);obtain⟨y,hy⟩:=p9 hl hi;exact ih i y c' hy hi (h3 i y hy)
 |clo hl _ ih=>
  cases hv with
  |clo h1 h3=>
   refine .clo J (λi c' hi=>?_);obtain⟨y,hy⟩:=p9 hl hi;exact ih i y c' hy hi (h3 i y hy)
 |list hl gP fN ih=>
  obtain⟨a,cap,b,off,s,vals,rfl,h1,h2,h3,h4,h5,h6,h7,h8,h9,_⟩:=hv.list_inv;rename_i Y ax nn tok;refine RV.list' hl (b:=b) (off:=off) (s:=s) vals J h2 h3 h4 (λaB=>h5 λe=>aB (b9E (by rw[<- hl,e];rfl))) (λr' bl=>?_) (λr' bl c' aM=>?_) (λi j r' c' hi hj=>?_) (λi j r' c' hi hj=>?_) (λk hk=>by cases hk)
  .obtain ⟨i,hi⟩:=M5.1 bl;obtain⟨r,bE⟩:=p9 hl hi;rw[<- gP i r r' bE hi];exact h6 r (n_2 bE)
  .obtain ⟨i,hi⟩:=M5.1 bl;obtain⟨r,bE⟩:=p9 hl hi;obtain⟨j,hj⟩:=M5.1 aM;obtain⟨c,cT⟩:=p9 (gP i r r' bE hi) hj;exact(fN i j r r' c c' bE hi cT hj).one (h7 r (n_2 bE) c (n_2 cT))
  .obtain ⟨r,bE⟩:=p9 hl hi;obtain⟨c,cT⟩:=p9 (gP i r r' bE hi) hj;exact⟨hc.at (h8 i j r c bE cT).1,(h8 i j r c bE cT).2⟩
  .obtain ⟨r,bE⟩:=p9 hl hi;obtain⟨c,cT⟩:=p9 (gP i r r' bE hi) hj;exact ih i j r r' c c' bE hi cT hj (h9 i j r c bE cT)
 |vec hk au aR hl gP fN ih=>
  cases hv with
  |vec hp g1 g2 g3=>
   rename_i k off len s Y ax p a;have hfp:=ik k p s Y hk hp au;obtain⟨⟨ba,q1,q2,q3,q4,ap,ty,q5,q6,q7⟩,_⟩:=hr.obj k p _ hp au;have am:((Y.drop off).take len).length=len:=by simp;omega
   have aw:∀i r,((Y.drop off).take len)[i]?=some r->i<len/\Y[off+i]?=some r:=λi r hi=>by
    rw[a2L]at hi;split at hi
    .rw [a5H]at hi;exact⟨‹_›,hi⟩
    .cases hi
   have fO:ax≠[]->off<p.cap:=λaB=>by
    have:0<ax.length:=b2h.2 aB;omega
   refine RV.list' (L:=len) J (b:=p.block) (off:=off*p.size) (s:=p.size) (λi j=>ap.getD ((off+i)*p.size+j) undef) J J O (λh=>by cases h) (λaB=>by rw[g3 (fO aB)]) (λr' bl=>?_) (λr' bl c' aM=>?_) (λi j r' c' hi hj=>?_) (λi j r' c' hi hj=>?_) (λk hk=>by cases hk)
   .obtain ⟨i,hi⟩:=M5.1 bl;obtain⟨r,bE⟩:=p9 hl hi;rw[<- gP i r r' bE hi];exact q3 r (n_2 (aw i r bE).2)
   .obtain ⟨i,hi⟩:=M5.1 bl;obtain⟨r,bE⟩:=p9 hl hi;obtain⟨j,hj⟩:=M5.1 aM;obtain⟨c,cT⟩:=p9 (gP i r r' bE hi) hj;exact(fN i j r r' c c' bE hi cT hj).one (q4 r (n_2 (aw i r bE).2) c (n_2 cT))
   .obtain ⟨r,bE⟩:=p9 hl hi;obtain⟨c,cT⟩:=p9 (gP i r r' bE hi) hj;obtain⟨bM,hri⟩:=aw i r bE;have cg:j<p.size:=by have:=(n_3.1 cT).1;rwa[q3 r (n_2 hri)]at this
    have hq:(off+i)*p.size+j<ap.size:=by
     rw[q6];have:(off+i+1)*p.size<=p.cap*p.size:=X3 _ J;rw[R6 (off+i)]at this;omega
    refine⟨.inl hfp,?_⟩;rw[show off*p.size+i*p.size+j=(off+i)*p.size+j from by rw[R6 off]];simp[World.cell?,q5,hq]
   .obtain ⟨r,bE⟩:=p9 hl hi;obtain⟨c,cT⟩:=p9 (gP i r r' bE hi) hj;exact ih i j r r' c c' bE hi cT hj (q7 _ _ _ _ (aw i r bE).2 cT)
def A5.cutAt(M:A5)(n:Nat)(σ:List b9):A5:=
 {pl:=M.pl.take n,full:=λb=>M.full b\/∃k p ob,n<=k/\M.pl[k]?=some p/\σ[k]?=some ob/\ob.live=true/\p.block=b,cell:=M.cell,keep:=M.keep}
theorem Rel.cut{aD:List b9}(h0:Rel C M0 σ w0)(hx:Ext M0 w0 M w)(hr:Rel C M (σ++aD) w):
 Rel C (M.cutAt σ.length (σ++aD)) σ w/\Cut σ.length M (M.cutAt σ.length (σ++aD))/\Ext M0 w0 (M.cutAt σ.length (σ++aD)) w:=by
 have aU:Cut σ.length M (M.cutAt σ.length (σ++aD)):=⟨O,λ_ h=>.inl h,λ_ _ h=>.inr h⟩;obtain⟨l,hl⟩:=hx.pl;have bf:(M.cutAt σ.length (σ++aD)).pl=M0.pl:=by
  show M.pl.take σ.length=M0.pl;rw[hl,<- h0.len,List.take_left]
 have aC:Ext M0 w0 (M.cutAt σ.length (σ++aD)) w:=⟨⟨[],by rw[bf];simp⟩,λb h=>.inl (hx.full b h),λb o h=>aU.at (hx.cell b o h),hx.same,hx.sameC,hx.size,hx.drew,hx.os,hx.tape,hx.output,λb hb=>(by
  obtain⟨k1,k2,k3,k4⟩:=hx.kept b hb;refine⟨k1,k2,λf=>?_,k4⟩
  rcases f with f|⟨k,p,ob,_,hp,hs,bU,rfl⟩
  .exact k3 f
  .exact absurd k1 (hr.nk k p ob hp hs bU))⟩
 have aw:∀{k:Nat} {p:Pl},(M.cutAt σ.length (σ++aD)).pl[k]?=some p->k<σ.length/\M.pl[k]?=some p/\M0.pl[k]?=some p:=by
  intro k p hk;have h1:M0.pl[k]?=some p:=by rw[<- bf];exact hk
  have ah:k<σ.length:=by rw[<- h0.len];exact(n_3.1 h1).1
  exact⟨ah,hx.get h1,h1⟩
 have au:∀{k:Nat} {ob:b9},σ[k]?=some ob->(σ++aD)[k]?=some ob:=by
  intro k ob h;rw[X1 (n_3.1 h).1];exact h
 refine⟨⟨by rw[bf,h0.len],λb o ha=>?_,λk p ob hk hs=>?_,λk k' p p' ob aG hk aL hs aI cH dv hb=>hr.inj k k' p p' ob aG (aw hk).2.1 (aw aL).2.1 (au hs) (au aI) cH dv hb,λg cells hg=>(h0.glob g cells hg).mono aC,hr.kep,λk p ob hk hs bU=>hr.nk k p ob (aw hk).2.1 (au hs) bU⟩,aU,aC⟩
 .rcases ha with(ha|⟨k,p,ob,_,hp,hs,hl,rfl⟩)|ha
  .exact hr.blk b o (.inl ha)
  .exact (hr.obj k p ob hp hs).1.lt hl
  .exact hr.blk b o (.inr ha)
 .obtain ⟨ah,hp,hp0⟩:=aw hk;obtain⟨h1,h2⟩:=hr.obj k p ob hp (au hs);have fi:=(h0.obj k p ob hp0 hs).1;have fP:ob.live=true->¬M.full p.block->¬(M.cutAt σ.length (σ++aD)).full p.block:=λbU fP h=>by
   rcases h with h|⟨k',p',aG,aL,aN,aI,bw,hb⟩
   .exact fP h
   .have:=hr.inj k' k p' p aG ob aN hp aI (au hs) bw bU hb;omega
  have old:∀{c:CV} {v v':Value},RV M0 w0 c v'->RV M w c v->RV (M.cutAt σ.length (σ++aD)) w c v:=λh h'=>h'.cut aU (by rw[<- h0.len];exact h.old);refine⟨?_,?_⟩
  .cases ob with
   |dead=>trivial
   |boxT t0 cells=>
    obtain⟨ap,ty,e1,e2,e3,e4⟩:=h1;obtain⟨arr0,ty0,f1,f2,f3,f4⟩:=fi;exact⟨ap,ty,e1,e2,e3,λi c hi=>old (f4 i c hi) (e4 i c hi)⟩
   |tipT t0 m=>exact h1
   |blk o=>exact h1
   |lp o n cs=>
    obtain⟨tm,e1,e2,e3⟩:=h1;obtain⟨tm0,f1,f2,f3⟩:=fi;exact⟨tm,e1,e2,λx hi=>old (f3 x hi) (e3 x hi)⟩
   |vec s Y=>
    obtain⟨e0,e1,e2,e3,e4,ap,ty,e5,e6,e7⟩:=h1;obtain⟨f0,f1,f2,f3,f4,arr0,ty0,f5,f6,f7⟩:=fi;exact⟨e0,e1,e2,e3,e4,ap,ty,e5,e6,λi j r c hi hj=>old (f7 i j r c hi hj) (e7 i j r c hi hj)⟩
   |map es=>
    obtain⟨af,ak,e1,e2,e3⟩:=h1;obtain⟨ents0,clock0,f1,f2,f3⟩:=fi;refine⟨af,ak,e1,e2,λi x hi=>?_⟩;obtain⟨e,g1,g2,g3,g4⟩:=e3 i x hi;obtain⟨e',gQ,il,g3',g4'⟩:=f3 i x hi;exact⟨e,g1,old il g2,old g3' g3,g4⟩
   |iter aF left=>
    obtain⟨mb,seen,bD,af,ak,e1,e2,e3,e4,e5,e6,e7,e8,e9⟩:=h1;obtain⟨mb0,seen0,last0,ents0,clock0,f1,f2,f3,f4,f5,f6,f7,f8,f9⟩:=fi;refine⟨mb,seen,bD,af,ak,e1,aU.full _ e2,e3,e4,e5,e6,e7,λi x hi=>?_,λi x hi=>?_⟩
    .obtain ⟨e,g1,g2,g3⟩:=e8 i x hi;obtain⟨e',gQ,il,g3'⟩:=f8 i x hi;exact⟨e,g1,old il g2,old g3' g3⟩
    .obtain ⟨hl,j,e,g0,g1,g2,g3⟩:=e9 i x hi;obtain⟨_,j',e',_,_,il,g3'⟩:=f9 i x hi;exact⟨hl,j,e,g0,g1,old il g2,old g3' g3⟩
  .cases ob with
   |dead=>trivial
   |tipT t0 m=>exact fP O h2
   |_=>exact⟨fP O h2.1,h2.2⟩
theorem b4P{K:CV->Prop}(h:b8 C f args σ λr aa=>∃aD c c',aa=σ++aD/\r= .ret c/\Cls σ.length aa c c'/\K c'):b8 C f args σ λr aa=>(∃c,r= .ret c/\K c)/\aa=σ:=
 λM w vs hr hn hx=>(h M w vs hr hn hx).mono λe w' he=>by
  cases e with
  |returned v=>
   obtain⟨c,aa,M',h1,h2,h3,aD,c0,c',rfl,h5,h6,h7⟩:=he;injection h5 with h5
   subst h5;obtain⟨g1,g2,g3⟩:=hr.cut h1 h2;exact⟨c',σ,_,g3,g1,RV.close h2 g2 (λk p s Y hk hp hs=>.inr ⟨k,p,_,hk,hp,hs,O,O⟩) h6 h3,⟨c',O,h7⟩,O⟩
  |panicked ch=>
   obtain⟨c,v,aa,M',h0,h1,h2,h3,aD,c0,c',h4,h5,_⟩:=he;cases h5
  |outgrown=>exact he
theorem c9{c0:CV}(h:b8 C f args σ λr aa=>∃aD c,aa=σ++aD/\r= .ret c/\Cls σ.length aa c c0):b8 C f args σ λr aa=>r= .ret c0/\aa=σ:=
 (b4P (K:=λc=>c=c0) (h.mono λ_ _ ⟨aD,c,h1,h2,h3⟩=>⟨aD,c,c0,h1,h2,h3,O⟩)).mono λ_ _ ⟨⟨_,h1,h2⟩,h3⟩=>⟨h2▸h1,h3⟩
inductive r9:CV->Prop where
 |val (v:Value):r9 (.val v)
 |agg {cs:List CV}:(∀c∈cs,r9 c)->r9 (.agg cs)
 |tup {cs:List CV}:(∀c∈cs,r9 c)->r9 (.tup cs)
 |clo {f:FuncId} {cs:List CV}:(∀c∈cs,r9 c)->r9 (.clo f cs)
 |list {Y:List (List CV)} {nn:Bool}:(∀r∈Y,∀c∈r,r9 c)->r9 (.list Y nn none)
theorem r9.old(h:r9 c):Old n c:=by
 induction h with
 |val v=>exact .val v
 |agg _ ih=>exact .agg λi c hi=>ih c (n_2 hi)
 |tup _ ih=>exact .tup λi c hi=>ih c (n_2 hi)
 |clo _ ih=>exact .clo λi c hi=>ih c (n_2 hi)
 |list _ ih=>exact .list (λi j r c hi hj=>ih r (n_2 hi) c (n_2 hj)) (λk hk=>by cases hk)
theorem Cls.pure(h:r9 c):Cls n σ c c:=.old h.old
theorem Cls.tok{n:Nat}{σ:List b9}{Y:List (List CV)}{nn:Bool}{tok:Option Nat}(h:∀r∈Y,∀c∈r,r9 c):Cls n σ (.list Y nn tok) (.list Y nn none):=
 .list O (λi r r' h1 h2=>by rw[h1]at h2;injection h2 with h2;rw[h2]) λi j r r' c c' h1 h2 h3 h4=>by
  rw[h1]at h2;injection h2 with h2
  subst h2;rw[h3]at h4;injection h4 with h4
  subst h4;exact .pure (h r (n_2 h1) c (n_2 h3))
variable{tok:Option Nat}
theorem Cls.vecs{len:Nat}{ax:List (List CV)}(hk:n<=k)(au:σ[k]?=some (.vec s Y))(hl:off+len<=Y.length)(he:(Y.drop off).take len=ax)(h:∀r∈ax,∀c∈r,r9 c):Cls n σ (.vec k off len) (.list ax true none):=by
 subst he;exact .vec hk au hl O (λi r r' h1 h2=>by rw[h1]at h2;injection h2 with h2;rw[h2]) λi j r r' c c' h1 h2 h3 h4=>by
  rw[h1]at h2;injection h2 with h2
  subst h2;rw[h3]at h4;injection h4 with h4
  subst h4;exact .pure (h r (n_2 h1) c (n_2 h3))
def a6C(n:Nat)(σ:List b9):List CV->List CV->Prop
 | [],[]=>True
 |c::cs,c'::bi=>Cls n σ c c'/\a6C n σ cs bi
 |_,_=>False
theorem a6C.get:∀{cs bi:List CV},a6C n σ cs bi->cs.length=bi.length/\∀(i:Nat) (c c':CV),cs[i]?=some c->bi[i]?=some c'->Cls n σ c c'
 | [],[],_=>⟨O,Q⟩
 |c::cs,c'::bi,⟨h1,h2⟩=>by
  obtain⟨h3,h4⟩:=a6C.get h2;refine⟨by simp[h3],λi x x' hx aC=>?_⟩
  rcases i with _|i
  .simp at hx aC;subst hx aC;exact h1
  .exact h4 i x x' (H hx) (H aC)
theorem Cls.aggs{bi:List CV}(h:a6C n σ cs bi):Cls n σ (.agg cs) (.agg bi):=.agg h.get.1 h.get.2
theorem Cls.tups{bi:List CV}(h:a6C n σ cs bi):Cls n σ (.tup cs) (.tup bi):=.tup h.get.1 h.get.2
section
def plain(l:List Value):CV:=.agg (l.map .val)
theorem a06{l:List Value}{u:Value}(h:RV M w (plain l) u):u= .agg l.toArray:=by
 cases h with
 |agg h1 h2 h3=>
  rename_i vs
  congr 1
  apply b2r;intro i
  rcases a4g i l.length with hi|hi
  .have hl:(l.map CV.val)[i]?=some (.val l[i]):=by simp[hi]
   have:=p8 (h3 i _ hl);have hv:i<vs.size:=by rw[h1];simpa using hi
   simp only[a0D,a2I hv,b8S]at this;rw[a2I hv,this];simp[hi]
  .have hv:vs.size<=i:=by rw[h1];simpa using hi
   rw[b48 hv];simp[hi]
theorem d6f{t':TypeId}{xs ys:List Value}{r:Bool}(ho:o.op = .binOp .eql t x y t')(hx:E.valid x)(hy:E.valid y)(ex:E.val C x=plain xs)(ey:E.val C y=plain ys)
 (hg:C.P.eqGuardType C.P.depth t=false)(he:∀w,(Op.equal t (.agg xs.toArray) (.agg ys.toArray)).run C.P w= .ok r w):Yields C σ E o (.val (.bool r)):=
 i8 λM w ρ _ h=>by
  have h1:=h x w8 hx;have h2:=h y w8 hy;rw[ex]at h1;rw[ey]at h2;exact⟨.bool r,by simp[execOp,ho,a06 h1,a06 h2,eqGuard,hg,binOp,he],.val _⟩
theorem d5A{t':TypeId}{xs ys:List Value}{r:Bool}(ho:o.op = .binOp .neq t x y t')(hx:E.valid x)(hy:E.valid y)(ex:E.val C x=plain xs)(ey:E.val C y=plain ys)
 (hg:C.P.eqGuardType C.P.depth t=false)(he:∀w,(Op.equal t (.agg xs.toArray) (.agg ys.toArray)).run C.P w= .ok r w):Yields C σ E o (.val (.bool (!r))):=
 i8 λM w ρ _ h=>by
  have h1:=h x w8 hx;have h2:=h y w8 hy;rw[ex]at h1;rw[ey]at h2;exact⟨.bool (!r),by simp[execOp,ho,a06 h1,a06 h2,eqGuard,hg,binOp,he],.val _⟩
theorem M7{r:Nat}{af:Array MapEntry}(h:w.heap[r]?=some (.map af ak)):(getObj r).run P w= .ok (.map af ak) w:=by
 simp[getObj,Sem.run,h]
theorem Q4(ho:o.op = .makeMap t none)(hk:K (.ret (.map σ.length)) (σ++[.map []])):D3 C σ E o K:=λM w ρ hr _=>by
 have ay:(execOp ρ o).run C.P w= .ok (.value (.map (some w.heap.size))) (w.alloc (.map #[] 0)):=by
  simp[execOp,ho,Instr.makeMap]
 rw[ay];have hx:=Ext.alloc hr ⟨w.heap.size,0,0⟩ (.map #[] 0);exact⟨.map σ.length,_,_,hx,hr.alloc ⟨w.heap.size,0,0⟩ _ (.map []) O ⟨#[],0,A2 _ _,⟨O,λi j e e' h=>by simp at h⟩,Q⟩,RV.map (p:=⟨w.heap.size,0,0⟩) b1i,hk⟩
theorem Rel.setObj(hr:Rel C M σ w){q:Nat}{es es':List (CV×CV)}{dJ:Array MapEntry}{dK:Nat}(hp:M.pl[q]?=some p)(au:σ[q]?=some (.map es))(aJ:dJ.size=es'.length)(gh:b0c dJ)(h:∀(i:Nat) (x:CV×CV),es'[i]?=some x->∃e,dJ[i]?=some e/\RV M w x.1 e.key/\RV M w x.2 e.val/\e.born <dK):
 Ext M w M (World.putObj w p.block (.map dJ dK))/\Rel C M (σ.set q (.map es')) (World.putObj w p.block (.map dJ dK)):=by
 obtain⟨h1,hf,hc⟩:=hr.obj q p _ hp au;have ah:=h1.lt O;have hx:=Ext.putObj (w:=w) (.map dJ dK) (hr.nk q p _ hp au O) hf hc;refine⟨hx,hr.putObj hp au O hf hc _ ⟨dJ,dK,World.putObj_same w _ ah,⟨aJ,gh⟩,λi x hi=>?_⟩⟩;obtain⟨e,g1,g2,g3,g4⟩:=h i x hi;exact⟨e,g1,g2.mono hx,g3.mono hx,g4⟩
theorem b0c.push{af:Array MapEntry}(h:b0c af)(hb:∀(i:Nat) (e:MapEntry),af[i]?=some e->e.born <ak){e0:MapEntry}(h0:e0.born=ak):b0c (af.push e0):=λi j e e' hi hj he=>by
 rw[b78]at hi hj;split at hi<;>split at hj
 .omega
 .injection hi with hi
  have:=hb j e' hj;rw[<- hi,h0]at he;omega
 .injection hj with hj
  have:=hb i e hi;rw[<- hj,h0]at he;omega
 .exact h i j e e' hi hj he
theorem b0c.modify{af:Array MapEntry}(h:b0c af){f:MapEntry->MapEntry}(hf:∀e,(f e).born=e.born):b0c (af.modify k f):=λi j e e' hi hj he=>by
 have key:∀{i:Nat} {e:MapEntry},(af.modify k f)[i]?=some e->∃e1,af[i]?=some e1/\e1.born=e.born:=λ{i e} hi=>by
  rw[b8Y]at hi;split at hi
  .obtain ⟨e1,h1,rfl⟩:=M6.1 hi;exact⟨e1,h1,(hf e1).symm⟩
  .exact ⟨e,hi,O⟩
 obtain⟨e1,h1,b1⟩:=key hi;obtain⟨e2,h2,b2⟩:=key hj;exact h i j e1 e2 h1 h2 (by rw[b1,b2];exact he)
theorem a42{r:Nat}{af:Array MapEntry}(o':Obj)(h:w.heap[r]?=some (.map af ak)):(setObj r o').run P w= .ok () (World.putObj w r o'):=by
 simp[setObj,Sem.run,h,World.putObj]
end
theorem RV.pure(h:∀b o,M.at b o->M'.at b o/\w'.cell? ⟨b,o,none⟩=w.cell? ⟨b,o,none⟩)(hr:RV M w c v)(hp:r9 c):RV M' w' c v:=by
 induction hr with
 |val v=>exact .val v
 |agg h1 h2 _ ih=>cases hp with|agg hp=>exact .agg h1 h2 λi c hi=>ih i c hi (hp c (n_2 hi))
 |tup h1 _ ih=>cases hp with|tup hp=>exact .tup h1 λi c hi=>ih i c hi (hp c (n_2 hi))
 |clo h1 _ ih=>cases hp with|clo hp=>exact .clo h1 λi c hi=>ih i c hi (hp c (n_2 hi))
 |list vals h1 h2 h3 h4 h5 h6 h7 h8 _ bj ih=>
  cases hp with
  |list hp=>exact .list vals h1 h2 h3 h4 h5 h6 h7 (λi j r c hi hj=>⟨(h _ _ (h8 i j r c hi hj).1).1,(h _ _ (h8 i j r c hi hj).1).2.trans (h8 i j r c hi hj).2⟩) (λi j r c hi hj=>ih i j r c hi hj (hp r (n_2 hi) c (n_2 hj))) λk hk=>by cases hk
 |ptr _=>cases hp
 |cptr _ _ _ _ _=>cases hp
 |eptr _=>cases hp
 |vec _ _ _ _=>cases hp
 |map _=>cases hp
 |yld _=>cases hp
theorem b1V{K:CV->Prop}(aq:∀a∈args,r9 a)(hc:∀c,K c->r9 c)(fj:∀g cells,C.glob g=some cells->∀c∈cells,r9 c)(h:b8 C f args [] λr aa=>(∃c,r= .ret c/\K c)/\aa=[])(σ:List b9):b8 C f args σ λr aa=>(∃c,r= .ret c/\K c)/\aa=σ:=
 λM w vs hr hn hx=>by
  let LB:Nat->Prop:=λb=>∃(k:Nat) (p:Pl) (ob:b9),M.pl[k]?=some p/\σ[k]?=some ob/\ob.live=true/\p.block=b
  let M0:A5:={pl:=[],full:=M.full,cell:=M.cell,keep:=λb=>M.keep b\/LB b}
  have aV:∀b o,M.at b o->M0.at b o/\w.cell? ⟨b,o,none⟩=w.cell? ⟨b,o,none⟩:=λb o h=>⟨h,O⟩;have hLB:∀b,LB b->b<w.heap.size:=λb ⟨k,p,ob,hp,hs,hl,hb⟩=>hb▸(hr.obj k p ob hp hs).1.lt hl;have bE:Rel C M0 [] w:=⟨O,hr.blk,λk p ob hp=>by simp[M0]at hp,λk k' p p' ob aG hp=>by simp[M0]at hp,λg cells hg=>⟨by
   have:=(hr.glob g cells hg).rv;cases this with
   |cptr vals h1 h2 h3=>exact .cptr vals h1 h2 λj c hj=>(h3 j c hj).pure aV (fj g cells hg c (n_2 hj)),(hr.glob g cells hg).full,(hr.glob g cells hg).sz⟩,
   λb hb=>(by
    rcases hb with hb|hb
    .exact hr.kep b hb
    .exact hLB b hb),λk p ob hp=>by simp[M0]at hp⟩
  refine(h M0 w vs bE hn λi a hi=>(hx i a hi).pure aV (aq a (n_2 hi))).mono λe w' he=>?_;cases e with
  |panicked ch=>
   obtain⟨c',v,aa,M',_,_,_,_,⟨⟨c0,h5,_⟩,_⟩⟩:=he;cases h5
  |outgrown=>exact he
  |returned v=>
   obtain⟨c',aa,M',h1,h2,h3,⟨⟨c0,h4,hK⟩,rfl⟩⟩:=he;injection h4 with h4
   subst h4
   let M2:A5:={pl:=M.pl,full:=M'.full,cell:=M'.cell,keep:=M.keep}
   have aS:Ext M w M2 w':=⟨⟨[],by simp[M2]⟩,h1.full,h1.cell,h1.same,h1.sameC,h1.size,h1.drew,h1.os,h1.tape,h1.output,λb hb=>by
    obtain⟨k1,k2,k3,k4⟩:=h1.kept b (.inl hb);exact⟨hb,k2,k3,k4⟩⟩
   refine⟨c',σ,M2,aS,⟨hr.len,h2.blk,λk p ob hp hs=>?_,hr.inj,λg cells hg=>(hr.glob g cells hg).mono aS,λb hb=>a8M (hr.kep b hb) h1.size,hr.nk⟩,h3.pure (M:=M') (M':=M2) (w':=w') (λb o h=>⟨h,O⟩) (hc _ hK),⟨c',O,hK⟩,O⟩;by_cases hl:ob.live=true
   .obtain ⟨k1,k2,k3,k4⟩:=h1.kept p.block (.inr ⟨k,p,ob,hp,hs,hl,O⟩);obtain⟨g1,g2⟩:=hr.obj k p ob hp hs;refine⟨g1.mono aS k2 (λ_ _ _ o ho=>k4 o ho),?_⟩;cases ob with
    |dead=>trivial
    |tipT t0 n=>exact λhf=>g2 (k3 hf)
    |_=>exact⟨λhf=>g2.1 (k3 hf),λo ho=>g2.2 o (k4 o ho)⟩
   .cases ob<;>first|exact⟨D,D⟩|simp[b9.live]at hl
theorem b44(aq:∀a∈args,r9 a)(hc:r9 c)(fj:∀g cells,C.glob g=some cells->∀c∈cells,r9 c)(h:b8 C f args [] λr aa=>r= .ret c/\aa=[])(σ:List b9):b8 C f args σ λr aa=>r= .ret c/\aa=σ:=
 (b1V (K:=λc'=>c'=c) aq (λ_ h=>h▸hc) fj (h.mono λ_ _ ⟨h1,h2⟩=>⟨⟨c,h1,O⟩,h2⟩) σ).mono λ_ _ ⟨⟨_,h1,h2⟩,h3⟩=>⟨h2▸h1,h3⟩
section
def c3z:CV->Bool
 | .agg _=>true
 |c=>c.one
theorem a9Z(h:c3z c=true):c.one=true\/∃cs,c= .agg cs:=by
 cases c<;>first|exact .inl h|exact .inr ⟨_,O⟩|(simp[c3z,CV.one]at h)
def b3a(ps:List (Nat×CV)):Bool:=ps.all λx=>c3z x.2
theorem a8f(h:b3a ps=true):∀x∈ps,x.2.one=true\/∃cs,x.2 = .agg cs:=λx hx=>a9Z (a2d.1 h x hx)
def a3o(C:Ctx)(E:Env):List (Nat×Operand)->List (Nat×CV)
 | []=>[]
 |(i,x)::l=>(i,E.val C x)::a3o C E l
theorem a5h:∀(l:List (Nat×Operand)),l.map (λx=>(x.1,E.val C x.2))=a3o C E l
 | []=>rfl
 |(i,x)::l=>by simp[a3o,a5h l]
def a3t(E:Env):List (Nat×Operand)->Prop
 | []=>True
 |(_,x)::l=>E.valid x/\a3t E l
theorem a2m{E:Env}:∀{l:List (Nat×Operand)},a3t E l->∀x∈l,E.valid x.2
 | [],_,x,h=>by simp at h
 |(i,y)::l,⟨h1,h2⟩,x,h=>by
  rcases J6.1 h with rfl|h
  .exact h1
  .exact a2m h2 x h
theorem B2{fs:Array Field}(co:Array (Nat×Nat)){out:List CV}(ho:o.op = .build t parts)(hv:a3t E parts.toList)
 (hu:∀w,(underlying t).run C.P w= .ok (.struct fs) w)(hz:∀w,(zeroValue t).run C.P w= .ok z w)(bV:K4 z=true)(cU:∃cs,H8 z= .agg cs)
 (bf:∀w,(fs.mapM λ(f:Field)=>do pure (f.offset,<- sizeOf f.type)).run C.P w= .ok co w)
 (aO:b3a (a3o C E parts.toList)=true)(bp:b1T co (H8 z).cells (a3o C E parts.toList)=some out):Yields C σ E o (.agg out):=
 d0N ho (a2m hv) hu hz bV cU bf (a5h _) (a8f aO) bp
theorem B4{len:Nat}(Y:List (List CV))(ho:o.op = .buildSlice t len parts)(hv:a3t E parts.toList)
 (hu:∀w,(underlying t).run C.P w= .ok (.slice e) w)(hs:∀w,(sizeOf e).run C.P w= .ok s w)(hz:∀w,(zeroValue e).run C.P w= .ok z w)(bV:K4 z=true)(cU:c3z (H8 z)=true)(fH:(H8 z).cells.length=s)(dS:Nat.blt 0 s=true)
 (am:Nat.ble (len*s) 16777216=true)(aO:b3a (a3o C E parts.toList)=true)
 (bp:a3L (λi=>some (i*s,s)) ((List.range (len*s)).map λi=>(H8 z).cells.getD (i%s) default) (a3o C E parts.toList)=some Y.flatten)(cz:Y.length=len)(aZ:(Y.all λr=>Nat.beq r.length s)=true):Yields C σ E o (.list Y true none):=
 b5d ho (by
  have:=a2m hv;have key:∀l:List Operand,(∀x∈l,E.valid x)->E.valids l:=by
   intro l
   induction l with
   |nil=>intro _;trivial
   |cons x l ih=>intro h;exact⟨h x Q,ih λy hy=>h y (by simp[hy])⟩
  exact key _ λx hx=>by
   obtain⟨p,hp,rfl⟩:=H9.1 hx;exact this p hp) hu hs hz bV (a9Z cU) fH (by simpa[a94]using dS) (by have:=nb am;omega) (a5h _) (a8f aO) bp cz (λr hr=>a2a (a2d.1 aZ r hr))
theorem a20(ey:E.val C y= .list Y nn tok)(aZ:∀r∈Y,r.length=s):∀M w v,Rel C M σ w->RV M w (E.val C y) v->Src C M w Y s v:=λ_ _ _ _ h=>by
 rw[ey]at h;exact a2i h aZ
theorem a1M{f:α->List CV}(h:∀a,(f a).length=s)(l:List α):∀r∈l.map f,r.length=s:=λr hr=>by
 obtain⟨a,_,rfl⟩:=H9.1 hr;exact h a
theorem C7{f:α->List CV}(h:∀a,∀c∈f a,r9 c)(l:List α):∀r∈l.map f,∀c∈r,r9 c:=λr hr=>by
 obtain⟨a,_,rfl⟩:=H9.1 hr;exact h a
theorem o7{f:α->List CV}{l:List α}{a:α}(h:l[i]?=some a):(l.map f)[i]?=some (f a):=by
 rw[P8,h];rfl
end
def G7(n:Nat):b9->Prop
 | .dead=>True
 | .boxT _ cells=>∀c∈cells,Old n c
 | .tipT _ _=>True
 | .vec _ Y=>∀r∈Y,∀c∈r,Old n c
 | .map es=>∀x∈es,Old n x.1/\Old n x.2
 | .iter aF es=>(∀x∈aF,Old n x.1/\Old n x.2)/\∀x∈es,Old n x.1/\Old n x.2
 | .blk _=>True
 | .lp _ _ cs=>∀x∈cs,Old n x.2
def a49(n:Nat):List b9->Prop
 | []=>True
 |ob::l=>G7 n ob/\a49 n l
theorem a49.get:∀{l:List b9},a49 n l->∀(k:Nat) (ob:b9),l[k]?=some ob->G7 n ob
 | [],_,_,_,h=>by simp at h
 |o::l,⟨h1,h2⟩,k,ob,h=>by
  rcases k with _|k
  .simp at h;subst h;exact h1
  .exact a49.get h2 k ob (H h)
def c93(n:Nat):List (Nat×CV)->Prop
 | []=>True
 |(_,c)::l=>Old n c/\c93 n l
theorem Rel.cutObj{aD:List b9}(hr:Rel C M (σ++aD) w)(bJ:a49 σ.length σ)(fj:∀g cells,C.glob g=some cells->∀c∈cells,r9 c):
 Rel C (M.cutAt σ.length (σ++aD)) σ w/\Cut σ.length M (M.cutAt σ.length (σ++aD))/\∀M0 w0,Ext M0 w0 M w->M0.pl.length<=σ.length->Ext M0 w0 (M.cutAt σ.length (σ++aD)) w:=by
 have aU:Cut σ.length M (M.cutAt σ.length (σ++aD)):=⟨O,λ_ h=>.inl h,λ_ _ h=>.inr h⟩;have aw:∀{k:Nat} {p:Pl},(M.cutAt σ.length (σ++aD)).pl[k]?=some p->k<σ.length/\M.pl[k]?=some p:=by
  intro k p hk;have hk:(M.pl.take σ.length)[k]?=some p:=hk;rw[a2L]at hk;split at hk
  .exact ⟨‹_›,hk⟩
  .cases hk
 have au:∀{k:Nat} {ob:b9},σ[k]?=some ob->(σ++aD)[k]?=some ob:=by
  intro k ob h;rw[X1 (n_3.1 h).1];exact h
 have am:σ.length<=M.pl.length:=by rw[hr.len];simp
 refine⟨⟨by show(M.pl.take σ.length).length=_;simp;omega,λb o ha=>?_,λk p ob hk hs=>?_,λk k' p p' ob aG hk aL hs aI cH dv hb=>hr.inj k k' p p' ob aG (aw hk).2 (aw aL).2 (au hs) (au aI) cH dv hb,λg cells hg=>?_,hr.kep,λk p ob hk hs bU=>hr.nk k p ob (aw hk).2 (au hs) bU⟩,aU,λM0 w0 hx aR=>?_⟩
 .rcases ha with(ha|⟨k,p,ob,_,hp,hs,hl,rfl⟩)|ha
  .exact hr.blk b o (.inl ha)
  .exact (hr.obj k p ob hp hs).1.lt hl
  .exact hr.blk b o (.inr ha)
 .obtain ⟨ah,hp⟩:=aw hk;obtain⟨h1,h2⟩:=hr.obj k p ob hp (au hs);have ho:=bJ.get k ob hs;have fP:ob.live=true->¬M.full p.block->¬(M.cutAt σ.length (σ++aD)).full p.block:=λbU fP h=>by
   rcases h with h|⟨k',p',aG,aL,aN,aI,bw,hb⟩
   .exact fP h
   .have:=hr.inj k' k p' p aG ob aN hp aI (au hs) bw bU hb;omega
  refine⟨?_,?_⟩
  .cases ob with
   |dead=>trivial
   |boxT t0 cells=>
    obtain⟨ap,ty,e1,e2,e3,e4⟩:=h1;exact⟨ap,ty,e1,e2,e3,λi c hi=>(e4 i c hi).cut aU (ho c (n_2 hi))⟩
   |tipT t0 m=>exact h1
   |blk o=>exact h1
   |lp o n cs=>
    obtain⟨tm,e1,e2,e3⟩:=h1;exact⟨tm,e1,e2,λx hi=>(e3 x hi).cut aU (ho x hi)⟩
   |vec s Y=>
    obtain⟨e0,e1,e2,e3,e4,ap,ty,e5,e6,e7⟩:=h1;exact⟨e0,e1,e2,e3,e4,ap,ty,e5,e6,λi j r c hi hj=>(e7 i j r c hi hj).cut aU (ho r (n_2 hi) c (n_2 hj))⟩
   |map es=>
    obtain⟨af,ak,e1,e2,e3⟩:=h1;refine⟨af,ak,e1,e2,λi x hi=>?_⟩;obtain⟨e,g1,g2,g3,g4⟩:=e3 i x hi;have:=ho x (n_2 hi);exact⟨e,g1,g2.cut aU this.1,g3.cut aU this.2,g4⟩
   |iter aF es=>
    obtain⟨mb,seen,bD,af,ak,e1,e2,e3,e4,e5,e6,e7,e8,e9⟩:=h1;refine⟨mb,seen,bD,af,ak,e1,aU.full _ e2,e3,e4,e5,e6,e7,λi x hi=>?_,λi x hi=>?_⟩
    .obtain ⟨e,g1,g2,g3⟩:=e8 i x hi;have:=ho.2 x (n_2 hi);exact⟨e,g1,g2.cut aU this.1,g3.cut aU this.2⟩
    .obtain ⟨hl,j,e,g0,g1,g2,g3⟩:=e9 i x hi;have:=ho.1 x (n_2 hi);exact⟨hl,j,e,g0,g1,g2.cut aU this.1,g3.cut aU this.2⟩
  .cases ob with
   |dead=>trivial
   |tipT t0 m=>exact fP O h2
   |_=>exact⟨fP O h2.1,h2.2⟩
 .have:=(hr.glob g cells hg);refine⟨?_,aU.full _ this.full,this.sz⟩;exact this.rv.cut aU (.cptr λj c hj=>(fj g cells hg c (n_2 hj)).old)
 .obtain ⟨l,hl⟩:=hx.pl;refine⟨⟨l.take (σ.length -M0.pl.length),?_⟩,λb h=>.inl (hx.full b h),λb o h=>aU.at (hx.cell b o h),hx.same,hx.sameC,hx.size,hx.drew,hx.os,hx.tape,hx.output,λb hb=>?_⟩
  .show M.pl.take σ.length=_;rw[hl,List.take_append,a1i aR]
  .obtain ⟨k1,k2,k3,k4⟩:=hx.kept b hb;refine⟨k1,k2,λf=>?_,k4⟩
   rcases f with f|⟨k,p,ob,_,hp,hs,bU,rfl⟩
   .exact k3 f
   .exact absurd k1 (hr.nk k p ob hp hs bU)
def Env.none:Env:={h:=λ_=>Option.none,g:=λ_=>.two False False}
def Env.only(l:List (Nat×CV)):Env:=Env.none.puts l
theorem H0.only{a:Act}(hc:Cut k M M')(hf:H0 M w n E a):∀{l:List (Nat×CV)},E.is l->c93 k l->H0 M' w n (Env.only l) a
 | [],_,_=>⟨hf.defers,hf.size,λ_ h=>h.elim,λ_ h=>h.elim⟩
 |(t,c)::l,⟨⟨h1,h2⟩,h⟩,⟨h3,h4⟩=>by
  have ih:=H0.only hc hf h h4;refine⟨hf.defers,hf.size,λx hx=>?_,λx hx=>?_⟩
  .show RV M' w (((Env.only l).putO (some t) c .yes).f x) _;have hx:((Env.only l).putO (some t) c .yes).ok x:=hx;rw[Env.putO_f];rw[Env.putO_ok]at hx
   split
   .subst x;exact(h2▸hf.rv t h1:RV M w c _).cut hc h3
   .rename_i aB;rw[G aB]at hx;exact ih.rv x hx
  .have hx:((Env.only l).putO (some t) c .yes).un x:=hx;rw[Env.putO_un]at hx;split at hx
   .exact absurd trivial hx
   .exact ih.un x hx
section
variable{Ji:A8->Env->List b9->Prop}
def Ctx.plain(C:Ctx):Prop:=∀g cells,C.glob g=some cells->∀c∈cells,r9 c
def d7A{α:Type}(l:α->List (Nat×CV))(S:α->List b9)(P:α->Prop)(E':Env)(aa:List b9):Prop:=
 ∃a aD,P a/\E'.is (l a)/\aa=S a++aD
theorem CWp.upto{c:Code}(hC:C.plain){l:α->List (Nat×CV)}{P:α->Prop}{E':Env}{aa:List b9}(hE:d7A l S P E' aa)(bJ:∀a,P a->c93 (S a).length (l a)/\a49 (S a).length (S a))(k:∀a,P a->CWp C n c Ji (Env.only (l a)) (S a))(am:∀a,P a->M0.pl.length<=(S a).length){a:Act}(hx:Ext M0 w0 M w)(hr:Rel C M aa w)(hf:H0 M w n E' a):
 c.wp C.P (R0 C n Ji M0 w0) a w:=by
 obtain⟨x,aD,hP,hE,rfl⟩:=hE;obtain⟨h1,h2⟩:=bJ x hP;obtain⟨g1,g2,g3⟩:=hr.cutObj h2 hC;have aC:=g3 M0 w0 hx (am x hP);exact wp_mono (k x hP _ w a g1 (hf.only g2 hE h1)) λ_ _ _=>R0.later aC
theorem m0{c:Code}(hC:C.plain)(l:α->List (Nat×CV))(S:α->List b9)(Jd:α->Prop)(m:α->Nat)(a0:α)(h0:Jd a0)(hE:E.is (l a0)){aj:List b9}(au:σ=S a0++aj)(am:∀a,Jd a->σ.length<=(S a).length)(bJ:∀a,Jd a->c93 (S a).length (l a)/\a49 (S a).length (S a))
 (round:∀(a:α),Jd a->CWp C n c (A8.next (d7A l S λa'=>m a'<m a/\Jd a') Ji) (Env.only (l a)) (S a)):CWp C n (.loop c) Ji E σ:=λM w a hr hf=>by
 intro b k cs;have key:∀d (x:α) M1 w1 a1,m x=d->Jd x->Ext M w M1 w1->Rel C M1 (S x) w1->H0 M1 w1 n (Env.only (l x)) a1 ->
  ∃e a' w',R0 C n Ji M w e a' w'/\Arrives C.P (lone (b.at a1 (.code c::.inLoop c::k)) cs w1) b k cs e a' w':=by
  intro d
  induction d using Nat.strongRecOn with
  |_ d ih=>
   intro x M1 w1 a1 hd hI hx aQ dg;obtain⟨e,a2,w2,hq,aA⟩:=round x hI M1 w1 a1 aQ dg b (.inLoop c::k) cs;obtain⟨E',aa,M',h1,h2,h3,h4⟩:=hq;cases e with
   |normal=>
    obtain⟨x',aD,⟨ah,hI'⟩,hE',rfl⟩:=h4;obtain⟨o1,o2⟩:=bJ x' hI';obtain⟨g1,g2,g3⟩:=h2.cutObj o2 hC;have aC:=g3 M w (hx.trans h1) (by rw[hr.len];exact am x' hI');obtain⟨dC,dD,dE,bZ,bb⟩:=ih (m x') J x' _ w2 a2 O hI' aC g1 (h3.only g2 hE' o1);exact⟨dC,dD,dE,bZ,.of_steps (Steps.trans aA (.one step_inLoop)) bb⟩
   |exit id=>exact⟨_,a2,w2,⟨E',aa,M',hx.trans h1,h2,h3,h4⟩,.pass (x:=.inLoop c) O (λ_ _=>.inl Q) aA⟩
   |goto l=>exact⟨_,a2,w2,⟨E',aa,M',hx.trans h1,h2,h3,h4⟩,.pass (x:=.inLoop c) O (λ_ _=>.inl Q) aA⟩
   |ret=>exact⟨_,a2,w2,⟨E',aa,M',hx.trans h1,h2,h3,h4⟩,.pass (x:=.inLoop c) O (λ_ _=>.inl Q) aA⟩
   |panic ch=>exact⟨_,a2,w2,⟨E',aa,M',hx.trans h1,h2,h3,h4⟩,.pass (x:=.inLoop c) O (λ_ _=>.inl Q) aA⟩
   |outgrown=>exact h4.elim
 have hlen0:=am a0 h0;have dM:aj=[]:=by
  apply b9E;rw[au]at hlen0;simp at hlen0;omega
 subst dM;rw[a1f]at au;subst au;obtain⟨o1,o2⟩:=bJ a0 h0;have hcut0:Cut (S a0).length M M:=⟨by rw[<- hr.len,a9q],λ_ h=>h,λ_ _ h=>.inr h⟩;obtain⟨e,a',w',hq,aA⟩:=key _ a0 M w a O h0 (Ext.refl M w) hr (hf.only hcut0 hE o1);exact⟨e,a',w',hq,.of_steps (.one step_loop) aA⟩
theorem W3{x y:Code}(hC:C.plain)(l:α->List (Nat×CV))(S:α->List b9)(P:α->Prop)(am:∀a,P a->σ.length<=(S a).length)(bJ:∀a,P a->c93 (S a).length (l a)/\a49 (S a).length (S a))(h:CWp C n x (A8.next (d7A l S P) Ji) E σ)(k:∀a,P a->CWp C n y Ji (Env.only (l a)) (S a)):CWp C n (.seq x y) Ji E σ:=λM w a hr hf=>by
 refine wp_seq (wp_mono (h M w a hr hf) λe a' w' hl=>?_);obtain⟨E',aa,M',h1,h2,h3,h4⟩:=hl;cases e with
 |normal=>exact CWp.upto hC h4 bJ k (λa ha=>by rw[hr.len];exact am a ha) h1 h2 h3
 |_=>exact⟨E',aa,M',h1,h2,h3,h4⟩
end
def c6t(n:Nat):List CV->Prop
 | []=>True
 |c::l=>Old n c/\c6t n l
theorem A0{n:Nat}:∀{cells:List CV},c6t n cells->G7 n (.box cells)
 | [],_=>λc h=>by simp at h
 |x::l,⟨h1,h2⟩=>λc h=>by
  rcases J6.1 h with rfl|h
  .exact h1
  .exact A0 h2 c h
theorem Z7{c0:CV}(h:c=c0)(hp:r9 c0):Cls n σ c c0:=by
 subst h;exact .pure hp
theorem o3{x y:Bool}(h:x=y):Cls n σ (.val (.bool x)) (.val (.bool y)):=h▸ .old (.val _)
theorem C8{k:IntKind}{x y:Int}(h:x=y):Cls n σ (.val (.int k x)) (.val (.int k y)):=h▸ .old (.val _)
theorem I2{x y:ByteArray}(h:x=y):Cls n σ (.val (.string x)) (.val (.string y)):=h▸ .old (.val _)
theorem W4{β:Type}(f:α->β)(l:List α):((l.map f).length:Int)=(l.length:Int):=by simp
def P5:List CV->Prop
 | []=>True
 |c::l=>r9 c/\P5 l
theorem P5.all:∀{l:List CV},P5 l->∀c∈l,r9 c
 | [],_,c,h=>by simp at h
 |x::l,⟨h1,h2⟩,c,h=>by
  rcases J6.1 h with rfl|h
  .exact h1
  .exact P5.all h2 c h
theorem M4{f:α->List CV}(h:∀a,P5 (f a))(l:List α)(nn:Bool):r9 (.list (l.map f) nn none):=.list (C7 (λa=>(h a).all) l)
theorem b8.anyw(hC:C.plain)(aq:P5 args)(hc:r9 c)(h:b8 C f args [] λr aa=>r= .ret c/\aa=[])(σ:List b9):b8 C f args σ λr aa=>r= .ret c/\aa=σ:=
 b44 aq.all hc hC h σ
def CV.fgt1:CV->CV
 | .list Y nn _=>.list Y nn none
 |c=>c
def CV.fgt:CV->CV
 | .agg cs=>.agg (cs.map CV.fgt1)
 |c=>c.fgt1
theorem CV.one_fgt1(c:CV):c.fgt1.one=c.one:=by cases c<;>rfl
theorem RV.fgt1(h:RV M w c v):RV M w c.fgt1 v:=by
 cases h with
 |list vals h1 h2 h3 h4 h5 h6 h7 h8 h9 bj=>exact .list vals h1 h2 h3 h4 h5 h6 h7 h8 h9 λk hk=>by cases hk
 |val v=>exact .val v
 |agg h1 h2 h3=>exact .agg h1 h2 h3
 |tup h1 h3=>exact .tup h1 h3
 |clo h1 h3=>exact .clo h1 h3
 |ptr hk=>exact .ptr hk
 |cptr vals h1 h2 h3=>exact .cptr vals h1 h2 h3
 |eptr hk=>exact .eptr hk
 |vec hk h1 h2 h3=>exact .vec hk h1 h2 h3
 |map hk=>exact .map hk
 |yld hk=>exact .yld hk
theorem RV.fgt(h:RV M w c v):RV M w c.fgt v:=by
 cases h with
 |agg h1 h2 h3=>
  refine .agg (H h1) (λc hm=>?_) (λi c hi=>?_)
  .obtain ⟨c0,h0,rfl⟩:=H9.1 hm;rw[CV.one_fgt1];exact h2 c0 h0
  .rw [P8,M6]at hi;obtain⟨c0,h0,rfl⟩:=hi;exact(h3 i c0 h0).fgt1
 |list vals h1 h2 h3 h4 h5 h6 h7 h8 h9 bj=>exact(RV.list vals h1 h2 h3 h4 h5 h6 h7 h8 h9 bj).fgt1
 |val v=>exact .val v
 |tup h1 h3=>exact .tup h1 h3
 |clo h1 h3=>exact .clo h1 h3
 |ptr hk=>exact .ptr hk
 |cptr vals h1 h2 h3=>exact .cptr vals h1 h2 h3
 |eptr hk=>exact .eptr hk
 |vec hk h1 h2 h3=>exact .vec hk h1 h2 h3
 |map hk=>exact .map hk
 |yld hk=>exact .yld hk
section
variable{Ji:A8->Env->List b9->Prop}
theorem Z9(h:b8 C f (args.map CV.fgt) σ K):b8 C f args σ K:=λM w vs hr aJ hx=>
 h M w vs hr (H aJ) λi c hi=>by
  rw[P8,M6]at hi;obtain⟨c0,h0,rfl⟩:=hi;exact(hx i c0 h0).fgt
theorem c4(ho:o.op = .call {callee:=.value (.func f),args:=xs,argTypes:=ts})(az:∀args w,(callFunc f args).run C.P w= .ok (.enter f args) w)
 (hv:E.valids xs.toList)(h:b8 C f cargs σ λr aa=>r= .ret c/\aa=σ)(ea:(E.vals C xs.toList).map CV.fgt=cargs):Yields C σ E o c:=
 d8f ho az hv O (Z9 (ea▸h))
theorem d8a{b:Int}(ha:0<=a)(hb:0<b)(hr:a<=9223372036854775807):a7C .quo .i64 a b=some (.int .i64 (a / b)):=by
 have h1:a.tdiv b=a / b:=Int.tdiv_eq_ediv_of_nonneg ha;have h2:0<=a / b:=Int.ediv_nonneg ha J;have h3:a / b<=a:=Int.ediv_le_self _ ha;have h4:b≠0:=by omega
 simp only[a7C,h1,G h4];rw[a4v J J]
theorem b0W{b:Int}(hb:b≠0):a7C .rem .i64 a b=some (.int .i64 (a.tmod b)):=by simp[a7C,hb]
theorem b9v{b:Int}(ha:0<=a)(hb:0<b):a7C .rem .i64 a b=some (.int .i64 (a%b)):=by
 rw[b0W J,b5x ha]
theorem j4(h:P5 cs):r9 (.agg cs):=.agg h.all
theorem B3(h:P5 cs):r9 (.tup cs):=.tup h.all
end
inductive D5(L:Nat)(ao:List Nat):CV->CV->Prop where
 |old {c:CV}:Old L c->D5 L ao c c
 |agg {cs bi:List CV}:cs.length=bi.length->(∀(i:Nat) (c c':CV),cs[i]?=some c->bi[i]?=some c'->D5 L ao c c')->D5 L ao (.agg cs) (.agg bi)
 |list {Y:List (List CV)} {nn:Bool} {tok fQ:Option Nat}:(∀r∈Y,∀c∈r,Old L c)->(∀j,fQ=some j->∃k,tok=some k/\ao[j]?=some k)->D5 L ao (.list Y nn tok) (.list Y nn fQ)
 |ptr {k j off:Nat}:ao[j]?=some k->D5 L ao (.ptr k off) (.ptr j off)
 |eptr {k j i off:Nat}:ao[j]?=some k->D5 L ao (.eptr k i off) (.eptr j i off)
 |vec {k j off len:Nat}:ao[j]?=some k->D5 L ao (.vec k off len) (.vec j off len)
 |map {k j:Nat}:ao[j]?=some k->D5 L ao (.map k) (.map j)
 |yld {k j:Nat}:ao[j]?=some k->D5 L ao (.yld k) (.yld j)
theorem D5.same(h:c=c')(ho:Old L c'):D5 L ao c c':=h▸ .old (h▸ho)
theorem D5.one(h:D5 L ao c c'):c'.one=c.one:=by
 cases h<;>rfl
def A5.ren(M:A5)(ao:List Nat):A5:={M with pl:=ao.map λk=>M.pl.getD k ⟨0,0,0⟩}
theorem a2k(hj:ao[j]?=some k)(hk:M.pl[k]?=some p):(M.ren ao).pl[j]?=some p:=by
 show(ao.map λk=>M.pl.getD k ⟨0,0,0⟩)[j]?=some p;rw[P8,hj];simp[hk]
theorem Z0(bA:∀k,k<L->ao[k]?=some k)(hL:L<=M.pl.length)(h:RV M w c v)(ho:Old L c):RV (M.ren ao) w c v:=by
 have hc:Cut L M {M with pl:=M.pl.take L}:=⟨rfl,λ_ h=>h,λ_ _ h=>.inr h⟩;have h1:=h.cut hc ho;refine RV.mono (M:={M with pl:=M.pl.take L}) (M':=M.ren ao) (w:=w) (w':=w) ⟨⟨(M.ren ao).pl.drop L,?_⟩,λ_ h=>h,λ_ _ h=>.inr h,λ_ _=>O,λ_ _ _=>O,n_6 _,R4,O,O,O,λ_ h=>⟨h,O,id,λ_=>id⟩⟩ h1;have:(M.ren ao).pl.take L=M.pl.take L:=by
  refine b2s λi=>?_;rw[a2L,a2L]
  split
  .rename_i hi;have hp:M.pl[i]?=some (M.pl[i]'J):=by simp
   rw[a2k (bA i hi) hp,hp]
  .rfl
 show(M.ren ao).pl=M.pl.take L++_;rw[<- this,b25]
theorem RV.ren(bA:∀k,k<L->ao[k]?=some k)(hL:L<=M.pl.length)(h:RV M w c v)(hr:D5 L ao c c'):RV (M.ren ao) w c' v:=by
 induction hr generalizing v with
 |old ho=>exact Z0 bA hL h ho
 |agg hl fN ih=>
  cases h with
  |agg h1 h2 h3=>
   refine .agg J (λc hcm=>?_) (λi c' hi=>?_)
   .obtain ⟨i,hi⟩:=M5.1 hcm;obtain⟨y,hy⟩:=p9 hl hi;rw[(fN i y c hy hi).one];exact h2 y (n_2 hy)
   .obtain ⟨y,hy⟩:=p9 hl hi;exact ih i y c' hy hi (h3 i y hy)
 |list eh cK=>
  cases h with
  |list vals h1 h2 h3 h4 h5 h6 h7 h8 h9 bj=>
   refine .list vals h1 h2 h3 h4 h5 h6 h7 h8 (λi j r c hi hj=>Z0 bA hL (h9 i j r c hi hj) (eh r (n_2 hi) c (n_2 hj))) (λj hj=>?_);obtain⟨k,hk,hs⟩:=cK j hj;obtain⟨s',hp,aT⟩:=bj k hk;exact⟨s',a2k hs hp,aT⟩
 |ptr hs=>cases h with|ptr hk=>exact .ptr (a2k hs hk)
 |eptr hs=>cases h with|eptr hk=>exact .eptr (a2k hs hk)
 |vec hs=>cases h with|vec hk h1 h2 h3=>exact .vec (a2k hs hk) h1 h2 h3
 |map hs=>cases h with|map hk=>exact .map (a2k hs hk)
 |yld hs=>cases h with|yld hk=>exact .yld (a2k hs hk)
def c4W(L:Nat)(ao:List Nat):List CV->List CV->Prop
 | [],[]=>True
 |c::l,c'::l'=>D5 L ao c c'/\c4W L ao l l'
 |_,_=>False
theorem c4W.len:∀{l l':List CV},c4W L ao l l'->l.length=l'.length
 | [],[],_=>rfl
 |_::_,_::_,h=>D9 (· +1) h.2.len
theorem c4W.get:∀{l l':List CV},c4W L ao l l'->∀(i:Nat) (c c':CV),l[i]?=some c->l'[i]?=some c'->D5 L ao c c'
 | [],[],_,i,c,c',h,_=>by simp at h
 |_::_,_::_,h,0,c,c',h1,h2=>by
  simp at h1 h2;subst h1;subst h2;exact h.1
 |_::_,_::_,h,i+1,c,c',h1,h2=>h.2.get i c c' (H h1) (H h2)
inductive b40(L:Nat)(ao:List Nat):b9->b9->Prop where
 |dead {ob:b9}:b40 L ao ob .dead
 |same {ob aG:b9}:ob=aG->G7 L aG->b40 L ao ob aG
 |box {t0:Option TypeId} {cells bP:List CV}:c4W L ao cells bP->b40 L ao (.boxT t0 cells) (.boxT t0 bP)
theorem R7.ren(bA:∀k,k<L->ao[k]?=some k)(hL:L<=M.pl.length){aG:b9}(h:R7 M w p ob/\a7n M p ob)(hr:b40 L ao ob aG):R7 (M.ren ao) w p aG/\a7n (M.ren ao) p aG:=by
 obtain⟨h1,h2⟩:=h;cases hr with
 |dead=>exact⟨D,D⟩
 |same he ho=>
  subst he;refine⟨?_,by cases ob<;>exact h2⟩;cases ob with
  |dead=>trivial
  |boxT t0 cells=>
   obtain⟨ap,ty,e1,e2,e3,e4⟩:=h1;exact⟨ap,ty,e1,e2,e3,λi c hi=>Z0 bA hL (e4 i c hi) (ho c (n_2 hi))⟩
  |tipT t0 m=>exact h1
  |blk o=>exact h1
  |lp o n cs=>
   obtain⟨tm,e1,e2,e3⟩:=h1;exact⟨tm,e1,e2,λx hi=>Z0 bA hL (e3 x hi) (ho x hi)⟩
  |vec s Y=>
   obtain⟨e0,e1,e2,e3,e4,ap,ty,e5,e6,e7⟩:=h1;exact⟨e0,e1,e2,e3,e4,ap,ty,e5,e6,λi j r c hi hj=>Z0 bA hL (e7 i j r c hi hj) (ho r (n_2 hi) c (n_2 hj))⟩
  |map es=>
   obtain⟨af,ak,e1,e2,e3⟩:=h1;refine⟨af,ak,e1,e2,λi x hi=>?_⟩;obtain⟨e,g1,g2,g3,g4⟩:=e3 i x hi;have:=ho x (n_2 hi);exact⟨e,g1,Z0 bA hL g2 this.1,Z0 bA hL g3 this.2,g4⟩
  |iter aF es=>
   obtain⟨mb,seen,bD,af,ak,e1,e2,e3,e4,e5,e6,e7,e8,e9⟩:=h1;refine⟨mb,seen,bD,af,ak,e1,e2,e3,e4,e5,e6,e7,λi x hi=>?_,λi x hi=>?_⟩
   .obtain ⟨e,g1,g2,g3⟩:=e8 i x hi;have:=ho.2 x (n_2 hi);exact⟨e,g1,Z0 bA hL g2 this.1,Z0 bA hL g3 this.2⟩
   .obtain ⟨hl,j,e,g0,g1,g2,g3⟩:=e9 i x hi;have:=ho.1 x (n_2 hi);exact⟨hl,j,e,g0,g1,Z0 bA hL g2 this.1,Z0 bA hL g3 this.2⟩
 |box hc=>
  obtain⟨ap,ty,e1,e2,e3,e4⟩:=h1;refine⟨⟨ap,ty,e1,by rw[e2,hc.len],λc hm=>?_,λi c' hi=>?_⟩,h2⟩
  .obtain ⟨i,hi⟩:=M5.1 hm;obtain⟨y,hy⟩:=p9 hc.len hi;rw[(hc.get i y c hy hi).one];exact e3 y (n_2 hy)
  .obtain ⟨y,hy⟩:=p9 hc.len hi;exact(e4 i y hy).ren bA hL (hc.get i y c' hy hi)
def b3Z(L:Nat)(all:List Nat)(σ:List b9):List Nat->List b9->Prop
 | [],[]=>True
 |k::ks,ob::obs=>(ob= .dead\/∃cR,σ[k]?=some cR/\b40 L all cR ob)/\b3Z L all σ ks obs
 |_,_=>False
theorem b3Z.len{all:List Nat}:∀{ks:List Nat} {obs:List b9},b3Z L all σ ks obs->ks.length=obs.length
 | [],[],_=>rfl
 |_::_,_::_,h=>D9 (· +1) h.2.len
variable{len:Nat}
theorem b3Z.get{all:List Nat}:∀{ks:List Nat} {obs:List b9},b3Z L all σ ks obs->∀(j k:Nat) (ob:b9),ks[j]?=some k->obs[j]?=some ob->ob= .dead\/∃cR,σ[k]?=some cR/\b40 L all cR ob
 | [],[],_,j,k,ob,h,_=>by simp at h
 |_::_,_::_,h,0,k,ob,h1,h2=>by
  simp at h1 h2;subst h1;subst h2;exact h.1
 |_::_,_::_,h,j+1,k,ob,h1,h2=>h.2.get j k ob (H h1) (H h2)
def a0r:List Nat->Bool
 | []=>true
 |k::l=>!l.contains k&&a0r l
theorem a3s:∀{l:List Nat},a0r l=true->∀(i j k:Nat),l[i]?=some k->l[j]?=some k->i=j
 | [],_,i,j,k,h,_=>by simp at h
 |x::l,h,i,j,k,h1,h2=>by
  simp only[a0r,O5,b50,List.contains_eq_mem,b17]at h
  rcases i with _|i<;>rcases j with _|j
  .rfl
  .simp at h1 h2;subst h1;exact absurd (n_2 h2) h.1
  .simp at h1 h2;subst h2;exact absurd (n_2 h1) h.1
  .exact D9 (· +1) (a3s h.2 i j k (H h1) (H h2))
def a7I(L:Nat)(ao:List Nat):Bool:=Nat.ble L ao.length && (List.range L).all λk=>Nat.beq (ao.getD k 0) k
theorem a3q(h:a7I L ao=true)(k:Nat)(hk:k<L):ao[k]?=some k:=by
 simp only[a7I,O5,a2d,List.mem_range]at h;have h1:=nb h.1;have h2:=a2a (h.2 k hk);have ah:k<ao.length:=by omega
 rw[a1C ah];simpa[ah]using h2
theorem Rel.ren{S:List b9}(hC:C.plain)(hr:Rel C M σ w)(bA:a7I L ao=true)(eU:a0r ao=true)(hL:L<=M.pl.length)(hS:b3Z L ao σ ao S):Rel C (M.ren ao) S w:=by
 have hk:=a3q bA;have bf:∀{j:Nat} {p:Pl} {ob:b9},(M.ren ao).pl[j]?=some p->S[j]?=some ob->∃k,ao[j]?=some k/\(ob= .dead\/∃cR,σ[k]?=some cR/\M.pl[k]?=some p/\b40 L ao cR ob):=by
  intro j p ob hp hs;have aN:(ao.map λk=>M.pl.getD k ⟨0,0,0⟩)[j]?=some p:=hp;rw[P8,M6]at aN;obtain⟨k,hk,aN⟩:=aN;refine⟨k,hk,?_⟩
  rcases hS.get j k ob hk hs with rfl|⟨cR,h1,h2⟩
  .exact .inl O
  .have ah:k<M.pl.length:=by rw[hr.len];exact(n_3.1 h1).1
   refine .inr ⟨cR,h1,?_,h2⟩;rw[<- aN];simp[ah]
 have cb:∀{cR ob:b9},b40 L ao cR ob->ob.live=true->cR.live=true:=by
  intro cR ob h hl;cases h with
  |dead=>cases hl
  |same he _=>exact he▸hl
  |box _=>rfl
 refine⟨by show(ao.map _).length=_;rw[a02,hS.len],hr.blk,λj p ob hp hs=>?_,λj j' p p' ob aG hp aN hs aI hl bw hb=>?_,λg cells hg=>?_,hr.kep,λj p ob hp hs hl=>?_⟩
 .obtain ⟨k,bN,h|⟨cR,h1,h2,h3⟩⟩:=bf hp hs
  .subst h;exact⟨D,D⟩
  .exact R7.ren hk hL (hr.obj k p cR h2 h1) h3
 .obtain ⟨k,bN,h|⟨cR,h1,h2,h3⟩⟩:=bf hp hs
  .subst h;cases hl
  .obtain ⟨k',hk1',h'|⟨ob0',dy,cI,h3'⟩⟩:=bf aN aI
   .subst h';cases bw
   .have e:=hr.inj k k' p p' cR ob0' h2 cI h1 dy (cb h3 hl) (cb h3' bw) hb;subst e;exact a3s eU j j' k bN hk1'
 .refine ⟨?_,(hr.glob g cells hg).full,(hr.glob g cells hg).sz⟩;exact Z0 hk hL (hr.glob g cells hg).rv (.cptr λj c hj=>(hC g cells hg c (n_2 hj)).old)
 .obtain ⟨k,bN,h|⟨cR,h1,h2,h3⟩⟩:=bf hp hs
  .subst h;cases hl
  .exact hr.nk k p cR h2 h1 (cb h3 hl)
theorem Ext.ren(hx:Ext M0 w0 M w)(bA:a7I L ao=true)(hL0:M0.pl.length=L):Ext M0 w0 (M.ren ao) w:=by
 have hk:=a3q bA;obtain⟨l,hl⟩:=hx.pl;refine⟨⟨(M.ren ao).pl.drop L,?_⟩,hx.full,hx.cell,hx.same,hx.sameC,hx.size,hx.drew,hx.os,hx.tape,hx.output,hx.kept⟩;have:(M.ren ao).pl.take L=M0.pl:=by
  refine b2s λi=>?_;rw[a2L]
  split
  .rename_i hi;have hp0:M0.pl[i]?=some (M0.pl[i]'J):=by simp
   rw[a2k (hk i hi) (hx.get hp0),hp0]
  .rw [b9z J]
 rw[<- this,b25]
def Env.isR(E:Env)(L:Nat)(ao:List Nat):List (Nat×CV)->Prop
 | []=>True
 |(t,c)::l=>(E.ok t/\D5 L ao (E.f t) c)/\E.isR L ao l
theorem H0.onlyR{a:Act}(bA:a7I L ao=true)(hL:L<=M.pl.length)(hf:H0 M w n E a):∀{l:List (Nat×CV)},E.isR L ao l->H0 (M.ren ao) w n (Env.only l) a
 | [],_=>⟨hf.defers,hf.size,λ_ h=>h.elim,λ_ h=>h.elim⟩
 |(t,c)::l,⟨⟨h1,h2⟩,h⟩=>by
  have ih:=H0.onlyR bA hL hf h;refine⟨hf.defers,hf.size,λx hx=>?_,λx hx=>?_⟩
  .show RV (M.ren ao) w (((Env.only l).putO (some t) c .yes).f x) _;have hx:((Env.only l).putO (some t) c .yes).ok x:=hx;rw[Env.putO_f];rw[Env.putO_ok]at hx
   split
   .subst x;exact(hf.rv t h1).ren (a3q bA) hL h2
   .rename_i aB;rw[G aB]at hx;exact ih.rv x hx
  .have hx:((Env.only l).putO (some t) c .yes).un x:=hx;rw[Env.putO_un]at hx;split at hx
   .exact absurd trivial hx
   .exact ih.un x hx
section
variable{Ji:A8->Env->List b9->Prop}
def a8Y{α:Type}(L:Nat)(l:α->List (Nat×CV))(S:α->List b9)(P:α->Prop)(E':Env)(aa:List b9):Prop:=
 ∃(a:α) (ao:List Nat),P a/\(a7I L ao=true/\a0r ao=true)/\E'.isR L ao (l a)/\b3Z L ao aa ao (S a)
theorem a8Y.go{c:Code}(hC:C.plain){l:α->List (Nat×CV)}{P:α->Prop}{E':Env}{aa:List b9}(hE:a8Y L l S P E' aa)(k:∀a,P a->CWp C n c Ji (Env.only (l a)) (S a))(am:M0.pl.length=L){a:Act}(hx:Ext M0 w0 M w)(hr:Rel C M aa w)(hf:H0 M w n E' a):
 c.wp C.P (R0 C n Ji M0 w0) a w:=by
 obtain⟨x,ao,hP,⟨h1,h2⟩,hE,hS⟩:=hE;have hL:L<=M.pl.length:=by
  obtain⟨l,hl⟩:=hx.pl;rw[hl];simp;omega
 exact wp_mono (k x hP _ w a (hr.ren hC h1 h2 hL hS) (hf.onlyR h1 hL hE)) λ_ _ _=>R0.later (hx.ren h1 am)
theorem a7x{x y:Code}(hC:C.plain)(L:Nat)(hL:Nat.beq L σ.length=true)(l:α->List (Nat×CV))(S:α->List b9)(P:α->Prop)(h:CWp C n x (A8.next (a8Y L l S P) Ji) E σ)(k:∀a,P a->CWp C n y Ji (Env.only (l a)) (S a)):CWp C n (.seq x y) Ji E σ:=λM w a hr hf=>by
 refine wp_seq (wp_mono (h M w a hr hf) λe a' w' hl=>?_);obtain⟨E',aa,M',h1,h2,h3,h4⟩:=hl;cases e with
 |normal=>exact a8Y.go hC h4 k (by rw[hr.len];exact(a2a hL).symm) h1 h2 h3
 |_=>exact⟨E',aa,M',h1,h2,h3,h4⟩
theorem C5{c:Code}(hC:C.plain)(L:Nat)(hL:Nat.beq L σ.length=true)(l:α->List (Nat×CV))(S:α->List b9)(Jd:α->Prop)(m:α->Nat)(h0:a8Y L l S Jd E σ)
 (round:∀(a:α),Jd a->CWp C n c (A8.next (a8Y L l S λa'=>m a'<m a/\Jd a') Ji) (Env.only (l a)) (S a)):CWp C n (.loop c) Ji E σ:=λM w a hr hf=>by
 intro b k cs;have hL:=a2a hL;have key:∀d (x:α) M1 w1 a1,m x=d->Jd x->Ext M w M1 w1->Rel C M1 (S x) w1->H0 M1 w1 n (Env.only (l x)) a1 ->
  ∃e a' w',R0 C n Ji M w e a' w'/\Arrives C.P (lone (b.at a1 (.code c::.inLoop c::k)) cs w1) b k cs e a' w':=by
  intro d
  induction d using Nat.strongRecOn with
  |_ d ih=>
   intro x M1 w1 a1 hd hI hx aQ dg;obtain⟨e,a2,w2,hq,aA⟩:=round x hI M1 w1 a1 aQ dg b (.inLoop c::k) cs;obtain⟨E',aa,M',h1,h2,h3,h4⟩:=hq;cases e with
   |normal=>
    obtain⟨x',ao,⟨ah,hI'⟩,⟨g1,g2⟩,hE',hS⟩:=h4;have aC:=hx.trans h1;have fR:L<=M'.pl.length:=by
     obtain⟨l,hl⟩:=aC.pl;rw[hl];simp;rw[hr.len,hL];omega
    obtain⟨dC,dD,dE,bZ,bb⟩:=ih (m x') J x' _ w2 a2 O hI' (aC.ren g1 (by rw[hr.len,hL])) (h2.ren hC g1 g2 fR hS) (h3.onlyR g1 fR hE');exact⟨dC,dD,dE,bZ,.of_steps (Steps.trans aA (.one step_inLoop)) bb⟩
   |exit id=>exact⟨_,a2,w2,⟨E',aa,M',hx.trans h1,h2,h3,h4⟩,.pass (x:=.inLoop c) O (λ_ _=>.inl Q) aA⟩
   |goto l=>exact⟨_,a2,w2,⟨E',aa,M',hx.trans h1,h2,h3,h4⟩,.pass (x:=.inLoop c) O (λ_ _=>.inl Q) aA⟩
   |ret=>exact⟨_,a2,w2,⟨E',aa,M',hx.trans h1,h2,h3,h4⟩,.pass (x:=.inLoop c) O (λ_ _=>.inl Q) aA⟩
   |panic ch=>exact⟨_,a2,w2,⟨E',aa,M',hx.trans h1,h2,h3,h4⟩,.pass (x:=.inLoop c) O (λ_ _=>.inl Q) aA⟩
   |outgrown=>exact h4.elim
 obtain⟨x,ao,hP,⟨g1,g2⟩,hE,hS⟩:=h0;have fR:L<=M.pl.length:=by rw[hr.len,hL];omega
 obtain⟨e,a',w',hq,aA⟩:=key _ x _ w a O hP ((Ext.refl M w).ren g1 (by rw[hr.len,hL])) (hr.ren hC g1 g2 fR hS) (hf.onlyR g1 fR hE);exact⟨e,a',w',hq,.of_steps (.one step_loop) aA⟩
def G9:Nat->Nat->Option Nat
 |0,_=>none
 |_+1,p=>some p
def p7:Nat->b9
 |0=>.dead
 |m+1=>.tip (m+1)
def gnn:Nat->Bool
 |0=>false
 |_+1=>true
theorem a5b(n m:Nat):G7 n (p7 m):=by cases m<;>trivial
end
theorem D5.grow{f:α->List CV}{p:Nat}{l:List α}(h:∀a,c6t L (f a))(hs:ao[p]?=some k):D5 L ao (.list (l.map f) (gnn m) (G9 m k)) (.list (l.map f) (gnn m) (G9 m p)):=by
 refine .list (λr hr c hc=>?_) (λj hj=>?_)
 .obtain ⟨a,_,rfl⟩:=H9.1 hr;exact A0 (h a) c hc
 .cases m with
  |zero=>cases hj
  |succ m=>cases hj;exact⟨k,O,hs⟩
section
variable{Ji:A8->Env->List b9->Prop}
theorem a2z{ti:TypeInfo}(ax:List (List CV))(n':Nat)(ho:o.op = .call {callee:=.builtin .append,args:=#[x,y],argTypes:=#[t,t]})(hx:E.valid x)(hy:E.valid y)(ex:E.val C x= .vec k 0 len)
 (aW:∀M w v,Rel C M σ w->RV M w (E.val C y) v->Src C M w new s v)(hu:∀w,(underlying t).run C.P w= .ok (.slice e) w)(hs:∀w,(sizeOf e).run C.P w= .ok s w)(dm:∀w,(typeInfo e).run C.P w= .ok ti w)(hz:∀w,(zeroValue e).run C.P w= .ok z w)(ca:z.cells.size=s)
 (aL:σ[k]?=some (.vec s Y))(am:len=Y.length)(ci:new≠[])(hb:(Y.length+new.length)*ti.bytes<=140737488355328)(bm:Y.length+new.length<=9223372036854775807)(he:Y++new=ax)(hn:Y.length+new.length=n')
 (hk:K (.ret (.vec σ.length 0 n')) (σ.set k .dead++[.vec s ax])):D3 C σ E o K:=by
 subst am he hn;exact b9n ho hx hy ex aW hu hs dm hz ca aL ci hb bm hk
theorem b1U(ax:List (List CV))(n':Nat)(ho:o.op = .call {callee:=.builtin .append,args:=#[x,y],argTypes:=#[t,t]})(hx:E.valid x)(hy:E.valid y)(ex:E.val C x= .vec k off len)
 (aW:∀M w v,Rel C M σ w->RV M w (E.val C y) v->Src C M w new s v)(hu:∀w,(underlying t).run C.P w= .ok (.slice e) w)(hs:∀w,(sizeOf e).run C.P w= .ok s w)(aL:σ[k]?=some (.vec s Y))(hl:off+len+new.length<=Y.length)(he:K3 Y (off+len) new=ax)(hn:len+new.length=n'){aa:List b9}(au:σ.set k (.vec s ax)=aa)
 (hk:K (.ret (.vec k off n')) aa):D3 C σ E o K:=
 b45 ho hx hy ex aW hu hs aL hl (by rw[he,au,hn];exact hk)
theorem a0J(ax:List (List CV))(ho:o.op = .store t x y)(hx:E.valid x)(hy:E.valid y)(ex:E.val C x= .eptr k i off)(ey:E.val C y=c)(hs:∀w,(sizeOf t).run C.P w= .ok m w)
 (hc:c.one=true\/∃cs,c= .agg cs)(hk:σ[k]?=some (.vec s Y))(hi:Y[i]?=some r)(hl:c.cells.length=m)(ah:off+m<=r.length)(he:Y.set i (O3 r off c.cells)=ax){aa:List b9}(au:σ.set k (.vec s ax)=aa)(h:K (.ret (.val undef)) aa):D3 C σ E o K:=
 b2S ho hx hy ex ey hs hc hk hi hl ah (by rw[he,au];exact h)
theorem c5{c:α->CV}{P:α->Prop}(ho:o.op = .call {callee:=.value (.func f),args:=xs,argTypes:=ts})(az:∀args w,(callFunc f args).run C.P w= .ok (.enter f args) w)
 (hv:E.valids xs.toList)(h:b8 C f cargs σ λr aa=>∃a,r= .ret (c a)/\aa=S a/\P a)(ea:(E.vals C xs.toList).map CV.fgt=cargs)(hk:∀a,P a->K (.ret (c a)) (S a)):D3 C σ E o K:=
 b0R ho az (Env.valids_mem hv) (Env.vals_map _) ((Z9 (ea▸h)).mono λr aa hh=>by
  obtain⟨a,rfl,rfl,hp⟩:=hh;exact hk a hp)
end
section
variable{ae:Array Oper}
def d7P(C:Ctx)(ae:Array Oper)(o:Oper)(E:Env)(σ:List b9)(K:CV->Prop->List b9->Prop)(Kp:CV->List b9->Prop):Prop:=
 (o.guard=none/\D3 C σ E o λr aa=>match r with| .ret c=>K c True aa| .pan c=>Kp c aa)\/(∃c g,J9 C σ ae o E c g/\K c g σ)
def a1h(S:List (List b9->Prop))(σ:List b9):List Nat->Prop
 | []=>True
 |k::l=>(S.getD k λ_=>True) σ/\a1h S σ l
theorem a1h.get{S:List (List b9->Prop)}:∀{l:List Nat},a1h S σ l->∀k∈l,(S.getD k λ_=>True) σ
 | [],_,k,h=>by cases h
 |x::l,⟨h1,h2⟩,k,h=>by
  rcases J6.1 h with rfl|h
  .exact h1
  .exact h2.get k h
end
section
variable{ae:Array Oper}
theorem c7(hg:o.guard=none)(hy:Yields C σ E o c):J9 C σ ae o E c True:=.inl ⟨hg,D,hy⟩
theorem G4{K:Env->List (List b9->Prop)->Prop}{S:List (List b9->Prop)}(h:K E S):a0T C σ ae K [] E S:=h
theorem chf{K:Env->List (List b9->Prop)->Prop}{l:List Nat}{S:List (List b9->Prop)}(ho:ae[i]?=some o)(bn:J9 C σ ae o E c g)(h:a0T C σ ae K l (E.put o.dst c g) (S++[λaa=>J9 C aa ae o E c g])):a0T C σ ae K (i::l) E S:=
 ⟨o,c,g,ho,bn,h⟩
end
section
theorem a9B{c:Nat}{a:Option Addr}{x:Value}(hu:∀w,(underlying t).run P w= .ok (.slice e) w)(hs:∀w,(sizeOf e).run P w= .ok s w)
 (am:∀w,(Builtin.lenOf x).run P w= .ok 0 w)(dH:(Builtin.firstCells s 0 x).run P w= .ok ap w)(aA:ap.size=0)(fc:n<=c):(Builtin.append_ #[t,t] ty #[.slice a n c,x]).run P w= .ok (.slice a n c) w:=by
 have:ap= #[]:=Array.eq_empty_of_size_eq_zero aA;subst this;cases a<;>simp[Builtin.append_,hu,hs,am,dH,fc,storeCells]
theorem Rel.addDead(hr:Rel C M σ w)(q:Pl):Rel C (M.add q) (σ++[.dead]) w/\Ext M w (M.add q) w:=by
 have hx:Ext M w (M.add q) w:=⟨⟨[q],O⟩,λ_ h=>h,λ_ _ h=>.inr h,λ_ _=>O,λ_ _ _=>O,n_6 _,R4,O,O,O,λ_ h=>⟨h,O,id,λ_=>id⟩⟩;have aw:∀{k:Nat} {p:Pl} {ob:b9},(M.add q).pl[k]?=some p->(σ++[.dead])[k]?=some ob->ob= .dead\/(M.pl[k]?=some p/\σ[k]?=some ob):=by
  intro k p ob h1 h2;rw[a6j]at h2;split at h2
  .rename_i ah;have h1:(M.pl++[q])[k]?=some p:=h1;rw[X1 (by rw[hr.len];exact ah)]at h1;exact .inr ⟨h1,h2⟩
  .refine .inl ?_;have:=n_2 h2;simpa using this
 refine⟨⟨by show(M.pl++[q]).length=_;simp[hr.len],hr.blk,λk p ob h1 h2=>?_,λk k' p p' ob aG h1 dy h2 cI hl bw hb=>?_,λg cells hg=>(hr.glob g cells hg).mono hx,hr.kep,λk p ob h1 h2 hl=>?_⟩,hx⟩
 .rcases aw h1 h2 with rfl|⟨g1,g2⟩
  .exact ⟨D,D⟩
  .obtain ⟨o1,o2⟩:=hr.obj k p ob g1 g2;exact⟨o1.mono hx O (λ_ _ _ _ h=>h),by cases ob<;>exact o2⟩
 .rcases aw h1 h2 with rfl|⟨g1,g2⟩
  .cases hl
  .rcases aw dy cI with rfl|⟨gQ,il⟩
   .cases bw
   .exact hr.inj k k' p p' ob aG g1 gQ g2 il hl bw hb
 .rcases aw h1 h2 with rfl|⟨g1,g2⟩
  .cases hl
  .exact hr.nk k p ob g1 g2 hl
theorem D6{p:Nat}{ti:TypeInfo}(ho:o.op = .call {callee:=.builtin .append,args:=#[x,y],argTypes:=#[t,t]})(hx:E.valid x)(hy:E.valid y)(ex:E.val C x= .list Y (gnn m) (G9 m p))(hm:m=Y.length)
 (aW:∀M w v,Rel C M σ w->RV M w (E.val C y) v->Src C M w new s v)(hu:∀w,(underlying t).run C.P w= .ok (.slice e) w)(hs:∀w,(sizeOf e).run C.P w= .ok s w)(dm:∀w,(typeInfo e).run C.P w= .ok ti w)(hz:∀w,(zeroValue e).run C.P w= .ok z w)(ca:z.cells.size=s)
 (bK:(m=0/\σ.set p .dead=σ)\/σ[p]?=some (p7 m))(aZ:∀r∈Y,r.length=s)(hb:(Y.length+new.length)*ti.bytes<=140737488355328)(bm:Y.length+new.length<=9223372036854775807)(ax:List (List CV))(m':Nat)(he:Y++new=ax)(hm':Y.length+new.length=m')
 (hk:K (.ret (.list ax (gnn m') (G9 m' σ.length))) (σ.set p .dead++[p7 m'])):D3 C σ E o K:=by
 subst hm he hm'
 rcases new with _|⟨r1,new⟩
 .
  intro M w ρ hr hh;have h1:=hh x L4 hx;have h2:=hh y L4 hy;rw[ex]at h1;have fe:=aW M w _ hr h2;have am:=fe.lenOf;obtain⟨a,cap,b,off,s',vals,hv,bx,ej,gN,eS,ha,cz,aO,hc,bg,cK⟩:=h1.list_inv;obtain⟨_,_,_,_,_,ap,cr,bc,_⟩:=fe;have bB:(execOp ρ o).run C.P w=((Builtin.append_ #[t,t] o.type #[ρ x,ρ y]).run C.P w).andThen λv w=>.ok (.value v) w:=by
   simp[execOp,ho,resolve,invoke,builtin]
  have ay:(execOp ρ o).run C.P w= .ok (.value (.slice a Y.length cap)) w:=by
   rw[bB,hv,a9B hu hs (H am) (H cr) (H bc) bx];rfl
  rw[ay];simp only[a1f,R1,b1q]at hk
  rcases Y with _|⟨r0,Y⟩
  .obtain ⟨aQ,bv⟩:=(hr.dead p).addDead ⟨0,0,0⟩;exact⟨_,_,_,bv,aQ,by simpa[gnn,G9,hv]using h1.mono bv,hk⟩
  .have io:σ[p]?=some (.tip (r0::Y).length):=by
    rcases bK with h|h
    .simp at h
    .exact h
   obtain⟨sz,hp,ha0,fO,aJ⟩:=cK p O;obtain⟨bv,aQ⟩:=hr.tipNew (m:=(r0::Y).length) hp io (n_6 _) bx;refine⟨_,_,_,bv,aQ,?_,hk⟩;have hl:=h1.mono bv;rw[hv]at hl;obtain⟨a',cap',b',off',s'',ip,gy,q1,q2,q3,q4,q5,q6,q7,q8,q9,q10⟩:=hl.list_inv;injection gy with e1 e2 e3
   subst e1 e3;refine RV.list' (L:=(r0::Y).length) O ip q1 q2 (by rw[q3]) (λh=>by cases h) q5 q6 q7 q8 q9 (λk' aL=>?_);obtain⟨s3,g1,g2,g3,g4⟩:=q10 p O;injection aL with aL
   subst aL;refine⟨s3,?_,g2,g3,g4⟩;have e4:=bv.get hp;rw[g1]at e4;rw[e4];simp[A5.add,<- hr.len]
 .rcases Y with _|⟨r,Y⟩
  .have e:σ.set p .dead=σ:=by
    rcases bK with h|h
    .exact h.2
    .refine b2s λi=>?_;rw[b09]
     split
     .rename_i h';subst h';rw[W (n_3.1 h).1,h];rfl
     .rfl
   rw[e]at hk;exact b0f ho hx hy ex aW hu hs dm hz ca (.inl ⟨O,O,O⟩) aZ Q hb bm (by simpa[kill,gnn,G9,p7]using hk)
  .have io:σ[p]?=some (.tip (r::Y).length):=by
    rcases bK with h|h
    .simp at h
    .exact h
   exact b0f ho hx hy ex aW hu hs dm hz ca (.inr ⟨Q,p,O,io⟩) aZ Q hb bm hk
end
section
theorem b07(ho:o.op = .nilCheck x)(hx:E.valid x)(ex:E.val C x= .ptr k off):Yields C σ E o (.ptr k off):=
 i8 λM w ρ _ h=>by
  have h1:=h x w8 hx;rw[ex]at h1;generalize dR:ρ x=u at h1;cases h1 with
  |ptr hp=>exact⟨_,by simp[execOp,ho,dR],.ptr hp⟩
end
end Go.Cl
namespace Go.Cl
open Go Go.ChangeShapes Go.WideShapes Go.RowKit Go.ChangeAt
variable{w:World}{v:Value}{cs:List Value}
def V4(w:World):A5:={pl:=[],full:=λb=>b<w.heap.size,cell:=λ_ _=>False,keep:=λb=>b<w.heap.size}
theorem a8a{a:Addr}(h:w.cell? a=some v):a.block <w.heap.size/\a.spot=none:=by
 unfold World.cell? at h;split at h
 .rename_i hw;refine⟨(a1N.1 hw).1,?_⟩;cases hs:a.spot with
  |none=>rfl
  |some s=>rw[hs]at h;simp at h
 .cases h
theorem a80{a:Addr}{k:Nat}(h:w.cell? (a.add k)=some v):a.add k=⟨a.block,a.off+k,none⟩:=by
 have hs:=(a8a h).2;unfold Addr.add at hs⊢;by_cases hk:k=0
 .rw [W hk]at hs⊢;subst hk;cases a;simp at hs;subst hs;rfl
 .rw [G hk]
theorem d0m{a:Addr}(h:w.cell? a=some v)(o:Nat):(V4 w).at a.block o:=.inl (a8a h).1
theorem b2C{C:Ctx}(hg:∀g cells,C.glob g=some cells->GV (V4 w) w cells g):Rel C (V4 w) [] w:=by
 refine⟨O,λb o h=>?_,λk p ob h=>?_,λk k' p p' ob aG h=>?_,hg,λb h=>h,λk p ob h=>?_⟩
 .rcases h with h|h
  .exact h
  .exact h.elim
 all_goals simp[V4]at h
theorem b4I{w':World}{M':A5}(h:Ext (V4 w) w M' w'):Below w.heap.size w w':=
 ⟨h.os,h.tape,h.output,h.size,λk hk=>h.same k hk⟩
theorem a9p{C:Ctx}{f:FuncId}{gR:List CV}{Jh:World}{args:Array Value}{u:Value}
 (hg:∀g cells,C.glob g=some cells->GV (V4 Jh) Jh cells g)
 (hn:args.size=gR.length)(ha:∀(i:Nat) (c:CV),gR[i]?=some c->RV (V4 Jh) Jh c (args.getD i undef))
 (h:b8 C f gR [] λr aa=>r= .ret (.val u)/\aa=[]):Calls C.P f args Jh λe W'=>e= .returned u/\Below Jh.heap.size Jh W':=by
 refine(h (V4 Jh) Jh args (b2C hg) hn ha).mono λe W' he=>?_;cases e with
 |returned v=>
  obtain⟨c,aa,M',h1,h2,h3,h4,h5⟩:=he;cases h4;cases h3;exact⟨O,b4I h1⟩
 |panicked ch=>
  obtain⟨c,v,aa,M',-,-,-,-,h4,-⟩:=he;cases h4
 |outgrown=>exact he.elim
structure RCs(w:World)(row:List CV)(cs:List Value):Prop where
 len:row.length=cs.length
 one:∀c∈row,c.one=true
 rv:∀(j:Nat) (c:CV),row[j]?=some c->RV (V4 w) w c (cs.getD j undef)
theorem RCs.nil:RCs w [] []:=⟨O,λc h=>by simp at h,λj c h=>by simp at h⟩
theorem RCs.cons{c:CV}{row:List CV}(h1:c.one=true)(h2:RV (V4 w) w c v)(h:RCs w row cs):RCs w (c::row) (v::cs):=by
 refine⟨by simp[h.len],λx hx=>?_,λj x hj=>?_⟩
 .rcases J6.1 hx with rfl|hx
  .exact h1
  .exact h.one x hx
 .rcases j with _|j
  .simp at hj;subst hj;simpa using h2
  .simpa using h.rv j x (H hj)
theorem RCs.val{row:List CV}(h1:v.oneCell'=true)(h:RCs w row cs):RCs w (.val v::row) (v::cs):=h.cons h1 (.val v)
section
variable{Jg:Type}{enc:TypeId×Value->Jg}{P:Program}{base:Nat}{spare:Nat->Bool}{held:Bool}
theorem c8K{α:Type} [Inhabited α](f:α->List CV)(Ji:α->Prop){t e:TypeId}{fuel:Nat}{x:DataW Jg×List MemPlace}(ht:P.underlying t=some (.slice e)){s:Nat}(hs:P.cellsOf e=s)(h0:0<s)
 (fS:∀(n:Nat) (cs:List Value) (y:DataW Jg×List MemPlace),DataW.trod enc P w base spare held n e cs=some y->∃a,Ji a/\RCs w (f a) cs)
 (h:DataW.trod enc P w base spare held fuel t cs=some x):
 ∃(l:List α) (nn:Bool) (v:Value),cs=[v]/\RV (V4 w) w (.list (l.map f) nn none) v/\l.length<=maxLen/\(∀a∈l,Ji a)/\(nn=false->l=[]):=by
 rcases DataW.trod_slice ht h with⟨rfl,-⟩|⟨a,len,cap,elems,rest,n,-,rfl,-,hb,hl,hm,am,hE,-,-⟩
 .exact ⟨[],false,_,O,.list (b:=0) (off:=0) (s:=s) (λ_ _=>undef) (n_6 _) (n_4 _) O W9 (λh=>by simp at h) (λr hr=>by simp at hr) (λr hr=>by simp at hr) (λi j r c hi=>by simp at hi) (λi j r c hi=>by simp at hi) (λk hk=>by cases hk),n_4 _,λa ha=>by simp at ha,λ_=>O⟩
 .have key:∀i:Nat,i<len->∃(a':α) (bi:List Value),Ji a'/\RCs w (f a') bi/\bi.length=s/\∀j,j<s->w.cell? (a.add (i*s+j))=some (bi.getD j undef):=by
   intro i hi;have h1:=hE i hi;have h2:elems[i]?=some (elems[i]'J):=a1C J;rw[h2,c8t]at h1;obtain⟨bi,hc,hy⟩:=h1;obtain⟨a',hQ,hR⟩:=fS _ _ _ hy;obtain⟨-,dw,aV⟩:=World.cells?_some hc;rw[hs]at dw aV;refine⟨a',bi,hQ,hR,dw,λj hj=>?_⟩;have:=aV j hj;rw[a1C J]at this;rw[a9A,a1C J];rw[<- Go.Deep.add_add,this];rfl
  have fA:∃F:Nat->α,∃Je:Nat->List Value,∀i,i<len->Ji (F i)/\RCs w (f (F i)) (Je i)/\(Je i).length=s/\∀j,j<s->w.cell? (a.add (i*s+j))=some ((Je i).getD j undef):=by
   classical
   by_cases hlz:len=0
   .subst hlz;exact⟨λ_=>default,λ_=>[],λi hi=>absurd hi (Nat.not_lt_zero _)⟩
   .obtain ⟨a0,-⟩:=key 0 J;have:∀i:Nat,∃p:α×List Value,i<len->Ji p.1/\RCs w (f p.1) p.2/\p.2.length=s/\∀j,j<s->w.cell? (a.add (i*s+j))=some (p.2.getD j undef):=λi=>by
     by_cases hi:i<len
     .obtain ⟨a',bi,h⟩:=key i hi;exact⟨(a',bi),λ_=>h⟩
     .exact ⟨(a0,[]),λh=>absurd h hi⟩
    exact⟨λi=>(Classical.choose (this i)).1,λi=>(Classical.choose (this i)).2,λi hi=>Classical.choose_spec (this i) hi⟩
  obtain⟨F,Je,hF⟩:=fA;have cq:∀(i:Nat) (r:List CV),(((List.range len).map F).map f)[i]?=some r->i<len/\r=f (F i):=λi r hi=>by
   rw[List.map_map,P8]at hi
   rcases a4g i len with h|h
   .rw [List.getElem?_range h]at hi;exact⟨h,(Option.some.inj hi).symm⟩
   .rw [b9z (H h)]at hi;cases hi
  have bo:∀r∈((List.range len).map F).map f,∃i,i<len/\r=f (F i):=λr hr=>by
   obtain⟨i,hi⟩:=M5.1 hr;exact⟨i,cq i r hi⟩
  have cL:(((List.range len).map F).map f).length=len:=by simp
  refine⟨(List.range len).map F,true,_,O,?_,by simp;omega,λx hx=>?_,λh=>by cases h⟩
  .have:=RV.list (M:=V4 w) (w:=w) (Y:=((List.range len).map F).map f) (nn:=true) (tok:=none) (a:=some a) (cap:=cap) (b:=a.block) (off:=a.off) (s:=s) (λi j=>(Je i).getD j undef)
    (by rw[cL];exact hl) hm O (λh=>by cases h) (λaB=>?_) (λr hr=>?_) (λr hr=>?_) (λi j r c hi hj=>?_) (λi j r c hi hj=>?_) (λk hk=>by cases hk)
   .rw [cL]at this;exact this
   .rcases b1C len with hz|hz
    .subst hz;exact absurd O aB
    .have:=(hF 0 hz).2.2.2 0 h0;have:=a80 this;simpa[Addr.add]using this
   .obtain ⟨i,hi,rfl⟩:=bo r hr;rw[(hF i hi).2.1.len,(hF i hi).2.2.1]
   .obtain ⟨i,hi,rfl⟩:=bo r hr;exact(hF i hi).2.1.one
   .obtain ⟨bh,rfl⟩:=cq i r hi;have hjs:j<s:=by
     have:=(n_3.1 hj).1;rw[(hF i bh).2.1.len,(hF i bh).2.2.1]at this;exact this
    have hc:=(hF i bh).2.2.2 j hjs;rw[a80 hc,<- a9x]at hc;exact⟨d0m hc _,hc⟩
   .obtain ⟨bh,rfl⟩:=cq i r hi;exact(hF i bh).2.1.rv j c hj
  .obtain ⟨i,hi,rfl⟩:=H9.1 hx;exact(hF i (H hi)).1
end
theorem a6g{Jg:Type}{enc:TypeId×Value->Jg}{P:Program}(hl:laidOutB P=true){Jh W':World}(hb:Below Jh.heap.size Jh W'){sp:Nat->Bool}:∀{ts:List TypeId} {vs:List Value} {ds:List (DataW Jg)} {ps:List MemPlace},(∀t∈ts,P.readableRec t=true/\t<P.types.size)->DataW.TrodAll enc P Jh 0 (λ_=>true) true ts vs ds ps->(∀p∈ps,p.block <Jh.heap.size)->(∀p∈ps,sp p.block=true)->DataW.TrodAll enc P W' 0 sp true ts vs ds ps
 | [],[],[],_,_,h,_,_=>h
 |t::ts,v::vs,d::ds,ps,hr,h,ah,ai=>by
  obtain⟨p,q,h1,h2,rfl⟩:=h;exact⟨p,q,WideElems.Trod_stays hl (hr t Q).1 (hr t Q).2 h1 (λx hx=>hb.same (ah x (by simp[hx]))) (λx hx=>ai x (by simp[hx])),
   a6g hl hb (λt ht=>hr t (by simp[ht])) h2 (λx hx=>ah x (by simp[hx])) (λx hx=>ai x (by simp[hx])),O⟩
 | [],_::_,_,_,_,h,_,_=>h.elim
 | [],[],_::_,_,_,h,_,_=>h.elim
 |_::_,[],_,_,_,h,_,_=>h.elim
 |_::_,_::_,[],_,_,h,_,_=>h.elim
theorem c8p{P:Program}{ts:List TypeId}(h:(ts.all λt=>P.readableRec t&&decide (t<P.types.size))=true):∀t∈ts,P.readableRec t=true/\t<P.types.size:=λt ht=>by
 have:=a2d.1 h t ht;simpa using this
theorem b9U{Jg:Type}{enc:TypeId×Value->Jg}{P:Program}{f:Func}{s:ChangeSpec}{apart iq eE ir:Bool}{Jh W':World}{args:Array Value}{ds gs:List (DataW Jg)}{bF pa pv:List MemPlace}
 (hW:DataW.Whole enc P f.params.toList s.vars apart Jh args.toList ds gs bF)
 (dU:∀(b:Nat) (sp:Nat->Bool) (hd:Bool),DataW.TrodAll enc P W' b sp hd f.resultTypes.toList (v.resultList f.resultTypes.size) (s.fn Jg (ds++gs)).results [])
 (aq:∀sp:Nat->Bool,(∀p∈bF,sp p.block=true)->DataW.TrodAll enc P W' 0 sp true f.params.toList args.toList (s.fn Jg (ds++gs)).args pa)
 (hvars:∀sp:Nat->Bool,(∀p∈bF,sp p.block=true)->DataW.TrodVars enc P W' sp s.vars (s.fn Jg (ds++gs)).vars pv)
 (ba:bF=pa++pv)(hb:Below Jh.heap.size Jh W')
 (cy:∀(j:Nat) (t:TypeId) (r:Value),f.resultTypes[j]?=some t->(v.resultList f.resultTypes.size)[j]?=some r->Value.okWide P W' .any 0 t r):
 s.post enc P f apart iq eE ir Jh args v W':=by
 have ah:∀p∈bF,p.block <Jh.heap.size:=λp hp=>hW.lt p hp;have bJ:∀p∈bF,(λb=>decide (b<Jh.heap.size)) p.block=true:=λp hp=>by simpa using ah p hp
 refine⟨ds,gs,bF,[],pa,pv,hW,dU _ _ _,aq _ bJ,hvars _ bJ,World.keptBut_mono (λp hp=>⟨hp,?_⟩) (hb.frame (·∈bF)),λ_=>?_⟩
 .rw [ba,W0]at hp;exact Or.inr hp
 .obtain ⟨_,_,_,_,_,hz,hn⟩:=hW;refine⟨cy,_,_,([]++pa)++pv,⟨[]++pa,pv,trodAll_append (aq _ (λ_ _=>O)) (dU _ _ _),hvars _ (λ_ _=>O),O,?_,?_⟩,?_⟩
  .intro b off hp;have bL:MemPlace.cell b off∈bF:=by rw[ba];simpa using hp
   rw[hb.frozen (ah _ bL)];exact hz b off bL
  .intro ha;have:=hn ha;rw[ba]at this;simpa using this
  .intro p hp _;rw[ba];simpa using hp
theorem b90{C:Checked}{os:Os}{f:FuncId}{fn:Func}{s:ChangeSpec}{CX:Ctx}{iu:List (String×DataW Unit)}{Jg:Type}{enc:TypeId×Value->Jg}{iq eE ir:Bool}{tb:TypeId}(cM:Array Value)(fuel:Nat)(w0:World)
 (hP:CX.P=C.prog)(own:ownKnob C.prog.godebug=none)(cP:os.Started)(noInit:C.prog.inits.idxOf? f=none)(cr:C.prog.funcs[f]?=some fn)
 (hl:laidOutB C.prog=true)(hread:∀t∈fn.params.toList,C.prog.readableRec t=true/\t<C.prog.types.size)(hv:s.vars=[])
 (hs:∀ds:List (DataW Jg),ds.length=fn.params.size->s.fn Jg ds={results:=[.lit (.bool true)],args:=ds})
 (hrt:fn.resultTypes = #[tb])(htb:C.prog.underlying tb=some .bool)
 (hg:∀Jh,laidMetH C.prog iu Jh->∀g cells,CX.glob g=some cells->GV (V4 Jh) Jh cells g)
 (hos:w0.os=os)(hsh:(w0.forCall (λ_ _=>0) ⟨#[],cM,[]⟩).Shaped C.prog)
 (cy:Input.okWideB C.prog (w0.forCall (λ_ _=>0) ⟨#[],cM,[]⟩) f ⟨#[],cM,[]⟩=true)
 (fk:s.preB enc C.prog fn [] false (w0.forCall (λ_ _=>0) ⟨#[],cM,[]⟩).memory cM fuel=true)
 (aJ:s.sizedB enc C.prog fn false (w0.forCall (λ_ _=>0) ⟨#[],cM,[]⟩).memory cM fuel=true)
 (hx:laidMetH C.prog iu (w0.forCall (λ_ _=>0) ⟨#[],cM,[]⟩).memory)
 (walk:∀(Jh:World) (base:Nat) (args:Array Value) (ds:List (DataW Jg)) (ps:List MemPlace),(∀(j:Nat) t v,fn.params[j]?=some t->args[j]?=some v->Value.okWide C.prog Jh .any base t v) ->
  DataW.TrodAll enc C.prog Jh 0 (λ_=>true) true fn.params.toList args.toList ds ps ->
  ∃gR:List CV,args.size=gR.length/\(∀(i:Nat) (c:CV),gR[i]?=some c->RV (V4 Jh) Jh c (args.getD i undef))/\b8 CX f gR [] λr aa=>r= .ret (.val (.bool true))/\aa=[]):
 ReturnsInHanded {} C os f .any (λw args=>(s.pre enc C.prog fn [] false w args/\laidMetH C.prog iu w)/\sizedMet enc C.prog fn (OpenSpec.ofChange s) false w args) (s.post enc C.prog fn false iq eE ir):=by
 refine returnsInHanded_of_change_and (C:=C) (X:=λw _=>laidMetH C.prog iu w) (λ_ _ _ hh h=>h.of_heap hh) own cP noInit cr
  (ChangeSpec.witness_shaped (enc:=enc) (C:=C) (os:=os) (X:=λw _=>laidMetH C.prog iu w) false w0 cM fuel hos hsh cy fk aJ hx) ?_
 intro Jh base args ds gs bF bI hW _ _ hL _;have hW':=hW;obtain⟨p,q,hA,hV,rfl,-,-⟩:=hW;rw[hv]at hV;have hgs:gs=[]/\q=[]:=by
  cases gs with
  |nil=>exact⟨O,hV⟩
  |cons g r=>exact hV.elim
 obtain⟨rfl,rfl⟩:=hgs;obtain⟨gR,h1,h2,h3⟩:=walk Jh base args ds p bI hA;have gE:ds.length=fn.params.size:=by
  have:∀{ts:List TypeId} {vs:List Value} {ds:List (DataW Jg)} {ps:List MemPlace},DataW.TrodAll enc C.prog Jh 0 (λ_=>true) true ts vs ds ps->ds.length=ts.length:=by
   intro ts
   induction ts with
   |nil=>intro vs ds ps h;obtain⟨-,rfl,-⟩:=trodAll_nil h;rfl
   |cons t ts ih=>intro vs ds ps h;obtain⟨v,vs1,d,ds1,a,b,-,rfl,-,-,h2⟩:=trodAll_cons h;simp[ih h2]
  simpa using this hA
 have hsd:=hs (ds++[]) (H gE);have hc:=a9p (hg Jh hL) h1 h2 h3;rw[hP]at hc;refine hc.mono λe W' ⟨he,hb⟩=>⟨_,he,?_⟩;refine b9U (pa:=p) (pv:=[]) hW' (λb sp hd=>?_) (λsp ai=>?_) (λsp _=>?_) O hb ?_
 .rw [hsd,hrt];exact trodAll_mk1 (shut_bool htb _)
 .rw [hsd];have ah:∀x∈p,x.block <Jh.heap.size:=λx hx=>hW'.lt x (by simp[hx]);simpa using a6g hl hb hread hA ah λx hx=>ai x (by simp[hx])
 .rw [hsd,hv];rfl
 .exact ok_one hrt O (okWide_bool_mk htb _)
end Go.Cl
namespace Go.Cl
variable{x y:Operand}{ts:Array TypeId}{a b:Int}
section
variable{C:Ctx}{E:Env}{σ:List b9}{o:Oper}
theorem b6W{k:IntKind}(ho:o.op = .call {callee:=.builtin .max,args:=#[x,y],argTypes:=ts})(hx:E.valid x)(hy:E.valid y)(ex:E.val C x= .val (.int k a))(ey:E.val C y= .val (.int k b)):Yields C σ E o (.val (.int k (max a b))):=
 i8 λM w ρ _ h=>by
  have h1:=h x L4 hx;have h2:=h y L4 hy;rw[ex]at h1;rw[ey]at h2;refine⟨.int k (max a b),?_,.val _⟩;simp[execOp,ho,resolve,invoke,builtin,p8 h1,p8 h2,Go.Lib.run_max_ints]
end
section
variable{C:Ctx}{E:Env}{σ:List b9}{o:Oper}
theorem b41{t e:TypeId}{s:Nat}{new:List (List CV)}{ti:TypeInfo}{z:Value}{K:N8->List b9->Prop}(m':Nat)(ho:o.op = .call {callee:=.builtin .append,args:=#[x,y],argTypes:=#[t,t]})(hx:E.valid x)(hy:E.valid y)(ex:E.val C x= .list [] false none)
 (aW:∀M w v,Rel C M σ w->RV M w (E.val C y) v->Src C M w new s v)(hu:∀w,(underlying t).run C.P w= .ok (.slice e) w)(hs:∀w,(sizeOf e).run C.P w= .ok s w)(dm:∀w,(typeInfo e).run C.P w= .ok ti w)(hz:∀w,(zeroValue e).run C.P w= .ok z w)(ca:z.cells.size=s)
 (ci:0<new.length)(hb:new.length*ti.bytes<=140737488355328)(bm:new.length<=9223372036854775807)(hm:new.length=m')
 (hk:K (.ret (.vec σ.length 0 m')) (σ++[.vec s new])):D3 C σ E o K:=λM w ρ hr hh=>by
 subst hm;have h1:=hh x L4 hx;have h2:=hh y L4 hy;rw[ex]at h1;have am:=(aW M w _ hr h2).lenOf;have bB:(execOp ρ o).run C.P w=((Builtin.append_ #[t,t] o.type #[ρ x,ρ y]).run C.P w).andThen λv w=>.ok (.value v) w:=by
  simp[execOp,ho,resolve,invoke,builtin]
 have h1i:=h1;obtain⟨a,cap,b,off,s',vals,hv,bx,ej,gN,eS,-,-,-,-,-,-⟩:=h1i.list_inv;have cT:=eS O;subst cT;obtain⟨eT,ii⟩:=hr.drewN;have ff:=a2i (C:=C) (s:=s) (a7N h1) (λr hr=>by simp at hr);rw[hv]at ff;obtain⟨a1,c1,eY,_,aZ,old,hfo,fg,fK⟩:=ff;obtain⟨an,cn,hvn,_,cc,ap,cr,bc,bz⟩:=aW M w.drew _ eT (a7N h2);obtain⟨c',di,dT,ay⟩:=a0N (P:=C.P) (ty:=o.type) (a:=a) (c:=0) (w:=w) (n:=([]:List (List CV)).length) (m:=new.length) hu (.inl hu) hs dm hz am hfo cr N4 (H bm) (H hb);rw[bB,hv,ay];simp only[Result.andThen_ok];have ij:w.drew.heap.size=w.heap.size:=O;rw[<- ij];have fM:(old++ap++Builtin.zeroCells z.cells (c'- (([]:List (List CV)).length+new.length))).size=c'*s:=by
  simp only[c0W,a1Y,fg,bc,ca];rw[<- R6,<- R6]
  congr 1;omega
 have aS:=Ext.alloc eT ⟨w.drew.heap.size,c',s⟩ (.cells (old++ap++Builtin.zeroCells z.cells (c'- (([]:List (List CV)).length+new.length))) e);have aw:=a4x (rest:=Builtin.zeroCells z.cells (c'- (([]:List (List CV)).length+new.length))) fg bc aZ cc (λi j r c hi hj=>(fK i j r c hi hj).1) (λi j r c hi hj=>(bz i j r c hi hj).1);have bq:=eT.alloc ⟨w.drew.heap.size,c',s⟩ (.cells (old++ap++Builtin.zeroCells z.cells (c'- (([]:List (List CV)).length+new.length))) e) (.vec s ([]++new)) O
  ⟨O,H di,by unfold maxLen;simp only;omega,H cc,λr hr c hc=>(by
   obtain⟨i,hi⟩:=M5.1 (by simpa using hr:r∈new);obtain⟨j,hj⟩:=M5.1 hc;exact(bz i j r c hi hj).2),_,e,A2 _ _,fM,λi j r c hi hj=>((aw i j r c hi hj).2.mono aS)⟩
 refine⟨.vec σ.length 0 new.length,_,_,ii.trans aS,bq,?_,hk⟩;have:=RV.vec (M:=M.add ⟨w.drew.heap.size,c',s⟩) (w:=w.drew.alloc (.cells (old++ap++Builtin.zeroCells z.cells (c'- (([]:List (List CV)).length+new.length))) e)) (k:=σ.length) (off:=0) (len:=new.length) (p:=⟨w.drew.heap.size,c',s⟩) (a:=⟨w.drew.heap.size,0,none⟩) b1i (H di) (by unfold maxLen;simp only;omega) (λ_=>by simp);simpa using this
end
inductive ClO(n:Nat)(σ:List b9):b9->b9->Prop where
 |dead {ob:b9}:ClO n σ ob .dead
 |same {ob:b9}:G7 n ob->ClO n σ ob ob
 |box {t0:Option TypeId} {cells bP:List CV}:a6C n σ cells bP->ClO n σ (.boxT t0 cells) (.boxT t0 bP)
def a5T(n:Nat)(σ:List b9):List b9->List b9->Prop
 |_,[]=>True
 |a::l,b::l'=>ClO n σ a b/\a5T n σ l l'
 | [],_::_=>False
theorem a5T.get{n:Nat}{σ:List b9}:∀{l l':List b9},a5T n σ l l'->l'.length<=l.length/\∀(k:Nat) (b:b9),l'[k]?=some b->∃a,l[k]?=some a/\ClO n σ a b
 |_,[],_=>⟨n_4 _,λk b h=>by simp at h⟩
 |a::l,b::l',⟨h1,h⟩=>by
  obtain⟨g1,g2⟩:=h.get;refine⟨Nat.succ_le_succ g1,λk b hk=>?_⟩
  rcases k with _|k
  .simp at hk;subst hk;exact⟨a,O,h1⟩
  .exact g2 k b (H hk)
theorem Rel.cutCls{C:Ctx}(hC:C.plain){M:A5}{σ S:List b9}{w:World}(hr:Rel C M σ w)(hS:a5T S.length σ σ S):
 Rel C (M.cutAt S.length σ) S w/\Cut S.length M (M.cutAt S.length σ)/\∀M0 w0,Ext M0 w0 M w->M0.pl.length<=S.length->Ext M0 w0 (M.cutAt S.length σ) w:=by
 obtain⟨aR,gi⟩:=hS.get;have aU:Cut S.length M (M.cutAt S.length σ):=⟨O,λ_ h=>.inl h,λ_ _ h=>.inr h⟩;have ik:∀(k:Nat) (p:Pl) (s:Nat) (Y:List (List CV)),S.length<=k->M.pl[k]?=some p->σ[k]?=some (.vec s Y)->(M.cutAt S.length σ).full p.block:=λk p s Y hk hp au=>.inr ⟨k,p,_,hk,hp,au,O,O⟩;have aw:∀{k:Nat} {p:Pl},(M.cutAt S.length σ).pl[k]?=some p->k<S.length/\M.pl[k]?=some p:=by
  intro k p hk;have hk:(M.pl.take S.length)[k]?=some p:=hk;rw[a2L]at hk;split at hk
  .exact ⟨‹_›,hk⟩
  .cases hk
 have am:S.length<=M.pl.length:=by rw[hr.len];exact aR
 have cb:∀{a b:b9},ClO S.length σ a b->b.live=true->a.live=true:=by
  intro a b h hl;cases h with
  |dead=>cases hl
  |same _=>exact hl
  |box _=>rfl
 refine⟨⟨by show(M.pl.take S.length).length=_;simp;omega,λb o ha=>?_,λk p ob hk hs=>?_,λk k' p p' ob aG hk aL hs aI cH dv hb=>?_,λg cells hg=>?_,hr.kep,λk p ob hk hs bU=>?_⟩,aU,λM0 w0 hx aR=>?_⟩
 .rcases ha with(ha|⟨k,p,ob,_,hp,hs,hl,rfl⟩)|ha
  .exact hr.blk b o (.inl ha)
  .exact (hr.obj k p ob hp hs).1.lt hl
  .exact hr.blk b o (.inr ha)
 .obtain ⟨ah,hp⟩:=aw hk;obtain⟨a,ha,ck⟩:=gi k ob hs;obtain⟨h1,h2⟩:=hr.obj k p a hp ha;have fP:a.live=true->¬M.full p.block->¬(M.cutAt S.length σ).full p.block:=λbU fP h=>by
   rcases h with h|⟨k',p',aG,aL,aN,aI,bw,hb⟩
   .exact fP h
   .have:=hr.inj k' k p' p aG a aN hp aI ha bw bU hb;omega
  cases ck with
  |dead=>exact⟨D,D⟩
  |same ho=>
   refine⟨?_,?_⟩
   .cases ob with
    |dead=>trivial
    |boxT t0 cells=>
     obtain⟨ap,ty,e1,e2,e3,e4⟩:=h1;exact⟨ap,ty,e1,e2,e3,λi c hi=>(e4 i c hi).cut aU (ho c (n_2 hi))⟩
    |tipT t0 m=>exact h1
    |blk o=>exact h1
    |lp o n cs=>
     obtain⟨tm,e1,e2,e3⟩:=h1;exact⟨tm,e1,e2,λx hi=>(e3 x hi).cut aU (ho x hi)⟩
    |vec s Y=>
     obtain⟨e0,e1,e2,e3,e4,ap,ty,e5,e6,e7⟩:=h1;exact⟨e0,e1,e2,e3,e4,ap,ty,e5,e6,λi j r c hi hj=>(e7 i j r c hi hj).cut aU (ho r (n_2 hi) c (n_2 hj))⟩
    |map es=>
     obtain⟨af,ak,e1,e2,e3⟩:=h1;refine⟨af,ak,e1,e2,λi x hi=>?_⟩;obtain⟨e,g1,g2,g3,g4⟩:=e3 i x hi;have:=ho x (n_2 hi);exact⟨e,g1,g2.cut aU this.1,g3.cut aU this.2,g4⟩
    |iter aF es=>
     obtain⟨mb,seen,bD,af,ak,e1,e2,e3,e4,e5,e6,e7,e8,e9⟩:=h1;refine⟨mb,seen,bD,af,ak,e1,aU.full _ e2,e3,e4,e5,e6,e7,λi x hi=>?_,λi x hi=>?_⟩
     .obtain ⟨e,g1,g2,g3⟩:=e8 i x hi;have:=ho.2 x (n_2 hi);exact⟨e,g1,g2.cut aU this.1,g3.cut aU this.2⟩
     .obtain ⟨hl,j,e,g0,g1,g2,g3⟩:=e9 i x hi;have:=ho.1 x (n_2 hi);exact⟨hl,j,e,g0,g1,g2.cut aU this.1,g3.cut aU this.2⟩
   .cases ob with
    |dead=>trivial
    |tipT t0 m=>exact fP O h2
    |_=>exact⟨fP O h2.1,h2.2⟩
  |box hc=>
   obtain⟨dw,hcg⟩:=hc.get;obtain⟨ap,ty,e1,e2,e3,e4⟩:=h1;refine⟨⟨ap,ty,e1,by rw[e2,dw],λc hm=>?_,λi c' hi=>?_⟩,fP O h2.1,h2.2⟩
   .obtain ⟨i,hi⟩:=M5.1 hm;obtain⟨y,hy⟩:=p9 dw hi;exact(hcg i y c hy hi).one (e3 y (n_2 hy))
   .obtain ⟨y,hy⟩:=p9 dw hi;exact RV.close hr aU ik (hcg i y c' hy hi) (e4 i y hy)
 .obtain ⟨a,ha,ck⟩:=gi k ob hs;obtain⟨a',bR,hab'⟩:=gi k' aG aI;exact hr.inj k k' p p' a a' (aw hk).2 (aw aL).2 ha bR (cb ck cH) (cb hab' dv) hb
 .refine ⟨?_,aU.full _ (hr.glob g cells hg).full,(hr.glob g cells hg).sz⟩;exact(hr.glob g cells hg).rv.cut aU (.cptr λj c hj=>(hC g cells hg c (n_2 hj)).old)
 .obtain ⟨a,ha,ck⟩:=gi k ob hs;exact hr.nk k p a (aw hk).2 ha (cb ck bU)
 .obtain ⟨l,hl⟩:=hx.pl;refine⟨⟨l.take (S.length -M0.pl.length),?_⟩,λb h=>.inl (hx.full b h),λb o h=>aU.at (hx.cell b o h),hx.same,hx.sameC,hx.size,hx.drew,hx.os,hx.tape,hx.output,λb hb=>?_⟩
  .show M.pl.take S.length=_;rw[hl,List.take_append,a1i aR]
  .obtain ⟨k1,k2,k3,k4⟩:=hx.kept b hb;refine⟨k1,k2,λf=>?_,k4⟩
   rcases f with f|⟨k,p,ob,_,hp,hs,bU,rfl⟩
   .exact k3 f
   .exact absurd k1 (hr.nk k p ob hp hs bU)
section
variable{C:Ctx}{n:Nat}{Ji:A8->Env->List b9->Prop}{E:Env}{σ:List b9}
end
section
variable{C:Ctx}{E:Env}{σ:List b9}{o:Oper}
theorem a2K{s d:TypeId}{k k0 k':IntKind}(ho:o.op = .convert s d x)(hx:E.valid x)(ex:E.val C x= .val (.int k a))(hs:∀w,(underlying s).run C.P w= .ok (.int k0) w)(hd:∀w,(underlying d).run C.P w= .ok (.int k') w)(hb:k'.wrap a=b):Yields C σ E o (.val (.int k' b)):=
 i8 λM w ρ _ h=>by
  have h1:=h x w8 hx;rw[ex]at h1;refine⟨.int k' b,?_,.val _⟩;simp[execOp,ho,convert,hs,hd,p8 h1,Conv.intToInt,hb]
theorem c1u{f:FuncId}{cx:Operand}{xs:Array Operand}{cargs:List CV}{K:N8->List b9->Prop}(ho:o.op = .call {callee:=.value cx,args:=xs,argTypes:=ts})(hc:E.valid cx)(ec:E.val C cx= .val (.func (.func f) #[] #[]))(az:∀args w,(callFunc f args).run C.P w= .ok (.enter f args) w)
 (hv:∀x∈xs.toList,E.valid x)(ea:xs.toList.map (E.val C)=cargs)(h:b8 C f cargs σ K):D3 C σ E o K:=λM w ρ hr hh=>by
 have hf:=hh cx L4 hc;rw[ec]at hf;have ef:=p8 hf;have ay:(execOp ρ o).run C.P w= .ok (.enter f (xs.map ρ)) w:=by
  simp[execOp,ho,resolve,ef,Deferred.ofValue,invoke,az]
 rw[ay];refine(h M w (xs.map ρ) hr (by simp[<- ea]) λi c hi=>?_).mono λe w' he=>by cases e<;>exact he
 subst ea;simp only[P8,M6]at hi;obtain⟨x,hx,rfl⟩:=hi;have aC:xs[i]?=some x:=H hx;have hm:x∈xs:=b4J aC;have:(xs.map ρ).getD i undef=ρ x:=by
  rw[a0D,c0q,aC];rfl
 rw[this];exact hh x (by simp[ho,Op.operands,Call.operands,hm]) (hv x (H hm))
theorem d5s{k:IntKind}(ho:o.op = .call {callee:=.builtin .min,args:=#[x,y],argTypes:=ts})(hx:E.valid x)(hy:E.valid y)(ex:E.val C x= .val (.int k a))(ey:E.val C y= .val (.int k b)):Yields C σ E o (.val (.int k (min a b))):=
 i8 λM w ρ _ h=>by
  have h1:=h x L4 hx;have h2:=h y L4 hy;rw[ex]at h1;rw[ey]at h2;refine⟨.int k (min a b),?_,.val _⟩;simp[execOp,ho,resolve,invoke,builtin,p8 h1,p8 h2,Go.Lib.run_min_ints]
end
end Go.Cl
