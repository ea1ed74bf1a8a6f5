/- Part 1 of what the claim needs: values without addresses, and what the program's functions do with them. -/
import Derived.WalkKit
import Derived.Below
import Derived.WideKeyArgs
import Derived.ChangeSame
import Derived.ChangeSlices
import Derived.Lib.SmallJoins
import Derived.LaidLaws
import Derived.LaidMore
import Derived.LaidHandle
import Derived.JoinedOf
import Derived.Handed
import Derived.Stop.Joined
import Derived.Lib.MinMax
import Derived.Test.YtlppbmfecjabeaaGreatDoorG0
set_option linter.all false
set_option maxRecDepth 100000
set_option maxHeartbeats 4000000
namespace Go.Cl
variable{w w':World}{a:Act}{ae:Array Oper}{v:Value}{n t j id:Nat}{o:Oper}{l:List Oper}{b au:Bool}{x y:Code}
inductive CV where
 |val (v:Value)
 |agg (cs:List CV)
 |tup (cs:List CV)
 |list (Y:List (List CV)) (nn:Bool) (tok:Option Nat)
 |ptr (k off:Nat)
 |cptr (cells:List CV)
 |eptr (k i off:Nat)
 |vec (k off len:Nat)
 |map (k:Nat)
 |yld (k:Nat)
 |clo (f:FuncId) (cs:List CV)
variable{c:CV}
instance:Inhabited CV:=⟨.val undef⟩
structure Pl where
 block:Nat
 cap:Nat
 size:Nat
structure B2 where
 pl:List Pl
 full:Nat->Prop
 cell:Nat->Nat->Prop
 keep:Nat->Prop
variable{M M':B2}
def B2.at(M:B2)(b o:Nat):Prop:=M.full b\/M.cell b o
def CV.one:CV->Bool
 | .val v=>v.oneCell'
 | .agg _| .tup _=>false
 |_=>true
inductive RV(M:B2)(w:World):CV->Value->Prop where
 |val (v:Value):RV M w (.val v) v
 |agg {cs:List CV} {vs:Array Value}:vs.size=cs.length->(∀c∈cs,c.one=true)->(∀(i:Nat) (c:CV),cs[i]?=some c->RV M w c (vs.getD i undef))->RV M w (.agg cs) (.agg vs)
 |tup {cs:List CV} {vs:Array Value}:vs.size=cs.length->(∀(i:Nat) (c:CV),cs[i]?=some c->RV M w c (vs.getD i undef))->RV M w (.tup cs) (.tuple vs)
 |clo {f:FuncId} {cs:List CV} {vs:Array Value}:vs.size=cs.length->(∀(i:Nat) (c:CV),cs[i]?=some c->RV M w c (vs.getD i undef))->RV M w (.clo f cs) (.func (.func f) #[] vs)
 |list {Y:List (List CV)} {nn:Bool} {tok:Option Nat} {a:Option Addr} {cap b off s:Nat} (vals:Nat->Nat->Value):
  Y.length<=cap->cap<=maxLen->a.isSome=nn->(nn=false->cap=0)->(Y≠[]->a=some ⟨b,off,none⟩) ->
  (∀r∈Y,r.length=s)->(∀r∈Y,∀c∈r,c.one=true) ->
  (∀(i j:Nat) (r:List CV) (c:CV),Y[i]?=some r->r[j]?=some c->M.at b (off+i*s+j)/\w.cell? ⟨b,off+i*s+j,none⟩=some (vals i j)) ->
  (∀(i j:Nat) (r:List CV) (c:CV),Y[i]?=some r->r[j]?=some c->RV M w c (vals i j)) ->
  (∀k,tok=some k->∃s',M.pl[k]?=some ⟨b,cap,s'⟩/\a=some ⟨b,0,none⟩/\off=0/\(Y≠[]->s'=s)) ->
  RV M w (.list Y nn tok) (.slice a Y.length cap)
 |ptr {k off:Nat} {p:Pl}:M.pl[k]?=some p->RV M w (.ptr k off) (.pointer (some ⟨p.block,off,none⟩))
 |cptr {cells:List CV} {b off:Nat} (vals:Nat->Value):(∀c∈cells,c.one=true) ->
  (∀(j:Nat) (c:CV),cells[j]?=some c->M.at b (off+j)/\w.cell? ⟨b,off+j,none⟩=some (vals j)) ->
  (∀(j:Nat) (c:CV),cells[j]?=some c->RV M w c (vals j)) ->
  RV M w (.cptr cells) (.pointer (some ⟨b,off,none⟩))
 |eptr {k i off:Nat} {p:Pl}:M.pl[k]?=some p->RV M w (.eptr k i off) (.pointer (some ⟨p.block,i*p.size+off,none⟩))
 |vec {k off len:Nat} {p:Pl} {a:Addr}:M.pl[k]?=some p->off+len<=p.cap->p.cap<=maxLen->(off<p.cap->a=⟨p.block,off*p.size,none⟩)->RV M w (.vec k off len) (.slice (some a) len (p.cap -off))
 |map {k:Nat} {p:Pl}:M.pl[k]?=some p->RV M w (.map k) (.map (some p.block))
 |yld {k:Nat} {p:Pl}:M.pl[k]?=some p->RV M w (.yld k) (.func (.yield p.block) #[] #[])
theorem U0{a b:Nat}(h:a<=b:=by first|exact n_7 _|exact Nat.le_add_right _ _):a<=b:=h
structure Ext(M:B2)(w:World)(M':B2)(w':World):Prop where
 pl:∃l,M'.pl=M.pl++l
 full:∀b,M.full b->M'.full b
 cell:∀b o,M.cell b o->M'.at b o
 same:∀b,M.full b->w'.heap[b]?=w.heap[b]?
 sameC:∀b o,M.cell b o->w'.cell? ⟨b,o,none⟩=w.cell? ⟨b,o,none⟩
 size:w.heap.size<=w'.heap.size
 drew:w.drawn<=w'.drawn
 os:w'.os=w.os
 tape:w'.tape=w.tape
 output:w'.output=w.output
 kept:∀b,M.keep b->M'.keep b/\w'.heap[b]?=w.heap[b]?/\(M'.full b->M.full b)/\∀o,M'.cell b o->M.cell b o
theorem Ext.refl(M:B2)(w:World):Ext M w M w:=
 ⟨⟨[],H⟩,λ_ h=>h,λ_ _ h=>.inr h,λ_ _=>J,λ_ _ _=>J,n_7 _,U0,J,J,J,λ_ h=>⟨h,J,id,λ_=>id⟩⟩
theorem O2{b o:Nat}(h:w'.heap[b]?=w.heap[b]?):w'.cell? ⟨b,o,none⟩=w.cell? ⟨b,o,none⟩:=by
 simp[World.cell?,h]
theorem Ext.at(h:Ext M w M' w'){b o:Nat}(ha:M.at b o):M'.at b o/\w'.cell? ⟨b,o,none⟩=w.cell? ⟨b,o,none⟩:=by
 rcases ha with ha|ha
 .exact ⟨.inl (h.full _ ha),O2 (h.same _ ha)⟩
 .exact ⟨h.cell _ _ ha,h.sameC _ _ ha⟩
theorem Ext.get(h:Ext M w M' w'){k:Nat}{p:Pl}(hk:M.pl[k]?=some p):M'.pl[k]?=some p:=by
 obtain⟨l,hl⟩:=h.pl;rw[hl,R8 (n_3.1 hk).1];exact hk
theorem Ext.trans{M'':B2}{w'':World}(h:Ext M w M' w')(k:Ext M' w' M'' w''):Ext M w M'' w'':=by
 obtain⟨l,hl⟩:=h.pl;obtain⟨l',bg⟩:=k.pl;refine⟨⟨l++l',by rw[bg,hl,C7]⟩,λb hb=>k.full _ (h.full _ hb),λb o hb=>(k.at (h.cell _ _ hb)).1,λb hb=>(k.same _ (h.full _ hb)).trans (h.same _ hb),λb o hb=>?_,a82 h.size k.size,a82 h.drew k.drew,k.os.trans h.os,k.tape.trans h.tape,k.output.trans h.output,λb hb=>?_⟩
 .exact (k.at (h.cell _ _ hb)).2.trans (h.sameC _ _ hb)
 .obtain ⟨h1,h2,h3,h4⟩:=h.kept b hb;obtain⟨k1,k2,k3,k4⟩:=k.kept b h1;exact⟨k1,k2.trans h2,λf=>h3 (k3 f),λo f=>h4 o (k4 o f)⟩
theorem RV.mono(h:Ext M w M' w')(hr:RV M w c v):RV M' w' c v:=by
 induction hr with
 |val v=>exact .val v
 |agg h1 h2 _ ih=>exact .agg h1 h2 ih
 |tup h1 _ ih=>exact .tup h1 ih
 |clo h1 _ ih=>exact .clo h1 ih
 |list vals h1 h2 h3 h4 h5 h6 h7 h8 _ bb ih=>
  refine .list vals h1 h2 h3 h4 h5 h6 h7 (λi j r c hi hj=>?_) ih (λk hk=>?_)
  .obtain ⟨ha,hc⟩:=h8 i j r c hi hj;exact⟨(h.at ha).1,(h.at ha).2.trans hc⟩
  .obtain ⟨s',hp,aP⟩:=bb k hk;exact⟨s',h.get hp,aP⟩
 |ptr hk=>exact .ptr (h.get hk)
 |cptr vals h1 h2 _ ih=>
  refine .cptr vals h1 (λj c hj=>?_) ih;obtain⟨ha,hc⟩:=h2 j c hj;exact⟨(h.at ha).1,(h.at ha).2.trans hc⟩
 |eptr hk=>exact .eptr (h.get hk)
 |vec hk h1 h2 h3=>exact .vec (h.get hk) h1 h2 h3
 |map hk=>exact .map (h.get hk)
 |yld hk=>exact .yld (h.get hk)
theorem RV.one(hr:RV M w c v)(hc:c.one=true):v.oneCell'=true:=by
 cases hr<;>first|rfl|exact hc|(simp[CV.one]at hc)
inductive b9 where
 |dead
 |boxT (ty:Option TypeId) (cells:List CV)
 |tipT (ty:Option TypeId) (n:Nat)
 |vec (s:Nat) (Y:List (List CV))
 |map (es:List (CV×CV))
 |iter (aH left:List (CV×CV))
 |blk (o:Obj)
 |lp (o:Loop) (n:Nat) (cs:List (Nat×CV))
variable{σ:List b9}
abbrev b9.box(cells:List CV):b9:=.boxT none cells
abbrev b9.tip(n:Nat):b9:=.tipT none n
def b9.live:b9->Bool
 | .dead=>false
 |_=>true
def b2a(af:Array MapEntry):Prop:=∀(i j:Nat) (e e':MapEntry),af[i]?=some e->af[j]?=some e'->e.born=e'.born->i=j
def S8(M:B2)(w:World)(p:Pl):b9->Prop
 | .dead=>True
 | .boxT t0 cells=>∃arr ty,w.heap[p.block]?=some (.cells arr (t0.getD ty) (0,0))/\arr.size=cells.length/\(∀c∈cells,c.one=true)/\∀(i:Nat) (c:CV),cells[i]?=some c->RV M w c (arr.getD i undef)
 | .tipT t0 n=>n<=p.cap/\p.cap<=maxLen/\((∀o,M.cell p.block o->o<n*p.size)/\(t0.isSome=true->p.size=1))/\∃arr ty,w.heap[p.block]?=some (.cells arr (t0.getD ty) (0,0))/\arr.size=p.cap*p.size
 | .vec s Y=>p.size=s/\Y.length<=p.cap/\p.cap<=maxLen/\(∀r∈Y,r.length=p.size)/\(∀r∈Y,∀c∈r,c.one=true)/\∃arr ty,w.heap[p.block]?=some (.cells arr ty (0,0))/\arr.size=p.cap*p.size /\
  ∀(i j:Nat) (r:List CV) (c:CV),Y[i]?=some r->r[j]?=some c->RV M w c (arr.getD (i*p.size+j) undef)
 | .map es=>∃(af:Array MapEntry) (aj:Nat),w.heap[p.block]?=some (.map af aj)/\(af.size=es.length/\b2a af)/\(∀(i:Nat) (x:CV×CV),es[i]?=some x->∃e,af[i]?=some e/\RV M w x.1 e.key/\RV M w x.2 e.val/\e.born <aj)
 | .iter aH left=>∃(mb:Nat) (seen:Array Nat) (bI:Nat) (af:Array MapEntry) (aj:Nat),w.heap[p.block]?=some (.mapIter (some mb) aj seen bI)/\M.full mb/\w.heap[mb]?=some (.map af aj)/\(seen= #[]\/bI=aj)/\b2a af/\(∀(i:Nat) (e:MapEntry),af[i]?=some e->e.born <aj)/\(af.toList.filter λe=>!seen.contains e.born).length=left.length/\(∀(i:Nat) (x:CV×CV),left[i]?=some x->∃e,(af.toList.filter λe=>!seen.contains e.born)[i]?=some e/\RV M w x.1 e.key/\RV M w x.2 e.val)/\∀(i:Nat) (x:CV×CV),aH[i]?=some x->bI=aj/\∃(j:Nat) (e:MapEntry),af[j]?=some e/\seen.back? =some e.born/\RV M w x.1 e.key/\RV M w x.2 e.val
 | .blk o=>w.heap[p.block]?=some o
 | .lp o n cs=>∃tmps,w.heap[p.block]?=some (.loop {o with tmps})/\tmps.size=n/\∀x∈cs,RV M w x.2 (tmps.getD x.1 undef)
def a8R(M:B2)(p:Pl):b9->Prop
 | .dead=>True
 | .tipT _ _=>¬M.full p.block
 |_=>¬M.full p.block/\∀o,¬M.cell p.block o
structure TyE where
 agg:Bool
 size:Nat
 offs:List Nat
def TyE.right(P:Program)(t:Nat)(e:TyE):Prop:=(∀w,(isAgg t).run P w= .ok e.agg w)/\(∀w,(sizeOf t).run P w= .ok e.size w) /\
 (e.offs=[]\/∃fs:Array Field,(∀w,(underlying t).run P w= .ok (.struct fs) w)/\∀(i d:Nat),e.offs[i]?=some d->∃(fd:Field) (s:Nat),fs[i]?=some fd/\fd.offset=d/\(∀w,(sizeOf fd.type).run P w= .ok s w)/\s≠0)
structure Ctx where
 P:Program
 glob:Nat->Option (List CV)
 tab:List (Nat×TyE):=[]
 right:∀x∈tab,x.2.right P x.1:=by intro x h;cases h
variable{C:Ctx}
structure GV(M:B2)(w:World)(cells:List CV)(g:Nat):Prop where
 rv:RV M w (.cptr cells) (.pointer (some ⟨g,0,none⟩))
 full:M.full g
 sz:∃arr ty fr,w.heap[g]?=some (.cells arr ty fr)/\arr.size=cells.length
theorem GV.mono(h:Ext M w M' w'){cells:List CV}{g:Nat}(hg:GV M w cells g):GV M' w' cells g:=
 ⟨hg.rv.mono h,h.full _ hg.full,by rw[h.same _ hg.full];exact hg.sz⟩
structure Rel(C:Ctx)(M:B2)(σ:List b9)(w:World):Prop where
 len:M.pl.length=σ.length
 blk:∀b o,M.at b o->b<w.heap.size
 obj:∀(k:Nat) (p:Pl) (ob:b9),M.pl[k]?=some p->σ[k]?=some ob->S8 M w p ob/\a8R M p ob
 inj:∀(k k':Nat) (p p':Pl) (ob aL:b9),M.pl[k]?=some p->M.pl[k']?=some p'->σ[k]?=some ob->σ[k']?=some aL->ob.live=true->aL.live=true->p.block=p'.block->k=k'
 glob:∀g cells,C.glob g=some cells->GV M w cells g
 kep:∀b,M.keep b->b<w.heap.size
 nk:∀(k:Nat) (p:Pl) (ob:b9),M.pl[k]?=some p->σ[k]?=some ob->ob.live=true->¬M.keep p.block
inductive Ok where
 |yes
 |two (a b:Prop)
def Ok.is:Ok->Prop
 | .yes=>True
 | .two a _=>a
def Ok.un:Ok->Prop
 | .yes=>¬True
 | .two _ b=>b
structure Env where
 h:Nat->Option CV
 g:Nat->Ok
variable{E:Env}
def Env.f(E:Env)(t:Nat):CV:=(E.h t).getD (.val undef)
def Env.ok(E:Env)(t:Nat):Prop:=(E.g t).is
def Env.un(E:Env)(t:Nat):Prop:=(E.g t).un
def Env.putO(E:Env)(d:Option Nat)(c:CV)(g:Ok):Env:=
 match d with
 |none=>E
 |some d=>{h:=λt=>match Nat.beq t d with|true=>some c|false=>E.h t,g:=λt=>match Nat.beq t d with|true=>g|false=>E.g t}
abbrev Env.put(E:Env)(d:Option Nat)(c:CV)(g:Prop):Env:=E.putO d c (.two g (¬g))
def Env.hide(E:Env)(d:Option Nat):Env:=
 match d with
 |none=>E
 |some d=>{h:=E.h,g:=λt=>match Nat.beq t d with|true=>.two False False|false=>E.g t}
theorem c2e{d:Nat}(h:¬t=d):Nat.beq t d=false:=c5Y.2 λhb=>h (a4A hb)
theorem Env.putO_f(E:Env)(d:Nat)(c:CV)(g:Ok)(t:Nat):(E.putO (some d) c g).f t=if t=d then c else E.f t:=by
 show(match Nat.beq t d with|true=>some c|false=>E.h t).getD _=_;by_cases h:t=d
 .subst h;simp
 .rw [c2e h,D h];rfl
theorem Env.putO_g(E:Env)(d:Nat)(c:CV)(g:Ok)(t:Nat):(E.putO (some d) c g).g t=if t=d then g else E.g t:=by
 show(match Nat.beq t d with|true=>g|false=>E.g t)=_;by_cases h:t=d
 .subst h;simp
 .rw [c2e h,D h]
theorem Env.putO_ok(E:Env)(d:Nat)(c:CV)(g:Ok)(t:Nat):(E.putO (some d) c g).ok t=if t=d then g.is else E.ok t:=by
 unfold Env.ok;rw[E.putO_g];split<;>rfl
theorem Env.putO_un(E:Env)(d:Nat)(c:CV)(g:Ok)(t:Nat):(E.putO (some d) c g).un t=if t=d then g.un else E.un t:=by
 unfold Env.un;rw[E.putO_g];split<;>rfl
theorem Env.put_f(E:Env)(d:Nat)(c:CV)(g:Prop)(t:Nat):(E.put (some d) c g).f t=if t=d then c else E.f t:=E.putO_f d c _ t
theorem Env.put_ok(E:Env)(d:Nat)(c:CV)(g:Prop)(t:Nat):(E.put (some d) c g).ok t=if t=d then g else E.ok t:=by
 unfold Env.ok;rw[E.putO_g];split<;>rfl
theorem Env.put_un(E:Env)(d:Nat)(c:CV)(g:Prop)(t:Nat):(E.put (some d) c g).un t=if t=d then ¬g else E.un t:=by
 unfold Env.un;rw[E.putO_g];split<;>rfl
theorem Env.hide_at(E:Env)(d t:Nat):(E.hide (some d)).f t=E.f t/\(E.hide (some d)).ok t=(if t=d then False else E.ok t)/\(E.hide (some d)).un t=(if t=d then False else E.un t):=by
 have hg:(E.hide (some d)).g t=if t=d then .two False False else E.g t:=by
  show(match Nat.beq t d with|true=>Ok.two False False|false=>E.g t)=_;by_cases h:t=d
  .subst h;simp
  .rw [c2e h,D h]
 unfold Env.ok Env.un;rw[hg];refine⟨J,?_,?_⟩<;>split<;>rfl
def b9P:Value->CV
 | .slice none _ _=>.list [] false none
 |v=>.val v
def I5:Value->CV
 | .agg cs=>.agg (cs.toList.map b9P)
 |v=>b9P v
def a0A:Value->Bool
 | .slice none 0 0=>true
 | .slice _ _ _=>false
 |v=>v.oneCell'
def M6:Value->Bool
 | .agg cs=>cs.toList.all a0A
 | .slice none 0 0=>true
 | .slice _ _ _=>false
 |_=>true
def Env.val(C:Ctx)(E:Env):Operand->CV
 | .tmp t=>E.f t
 | .const v=>I5 v
 | .global g=>match C.glob g with
  |some cells=>.cptr cells
  |none=>.val (.pointer (some ⟨g,0,none⟩))
 | .func f=>.val (.func (.func f) #[] #[])
def Env.valid(E:Env):Operand->Prop
 | .tmp t=>E.ok t
 | .const v=>M6 v=true
 |_=>True
theorem b9c(h:a0A v=true):RV M w (b9P v) v:=by
 cases v with
 |slice a n c=>
  cases a with
  |some a=>simp[a0A]at h
  |none=>
   have:n=0/\c=0:=by
    rcases n with _|n<;>rcases c with _|c<;>simp[a0A]at h⊢
   obtain⟨rfl,rfl⟩:=this;exact RV.list (Y:=[]) (b:=0) (off:=0) (s:=0) (λ_ _=>undef) (n_7 _) (by simp[maxLen]) J a0b (λh=>absurd J h) H H H H H
 |_=>exact .val _
theorem c55(h:a0A v=true):(b9P v).one=true:=by
 cases v with
 |slice a n c=>cases a<;>rfl
 |_=>simpa[b9P,CV.one,a0A]using h
theorem a0D(h:M6 v=true):RV M w (I5 v) v:=by
 cases v with
 |agg cs=>
  have hc:∀v∈cs,a0A v=true:=by
   have h':∀v∈cs.toList,a0A v=true:=a40.1 h;exact λv hv=>h' v (I hv)
  refine .agg H (λc hm=>?_) (λi c hi=>?_)
  .obtain ⟨v,hv,rfl⟩:=D5.1 hm;exact c55 (hc v (I hv))
  .simp only[O5,P2]at hi;obtain⟨v,hv,rfl⟩:=hi;have fy:cs[i]?=some v:=I hv;rw[a0U,fy];exact b9c (hc v (b8o fy))
 |slice a n c=>
  refine b9c ?_
  rcases a with _|a
  .rcases n with _|n<;>rcases c with _|c<;>simp[M6,a0A]at h⊢
  .simp [M6]at h
 |_=>exact .val _
structure L3(M:B2)(w:World)(n:Nat)(E:Env)(a:Act):Prop where
 defers:a.defers=[]
 size:a.tmps.size=n
 rv:∀t,E.ok t->RV M w (E.f t) (a.tmps.getD t undef)
 un:∀t,E.un t->a.tmps.getD t undef=undef
theorem L3.mono(h:Ext M w M' w')(hf:L3 M w n E a):L3 M' w' n E a:=
 ⟨hf.defers,hf.size,λt ht=>(hf.rv t ht).mono h,hf.un⟩
theorem L3.put{d:Option Nat}{g:Prop}(hf:L3 M w n E a)(hd:∀t,d=some t->t<n)(hv:g->RV M w c v)(hu:¬g->v=undef):
 L3 M w n (E.put d c g) (a.put d v):=by
 cases d with
 |none=>exact hf
 |some d=>
  have hdn:=hd d J;refine⟨hf.defers,by simp[Act.put,hf.size],λt ht=>?_,λt ht=>?_⟩;by_cases gY:t=d
  .subst gY;simp only[Env.put_f,Env.put_ok,if_true]at ht⊢;have:(a.put (some t) v).tmps.getD t undef=v:=by simp[Act.put,hf.size,hdn]
   rw[this];exact hv ht
  .simp only[Env.put_f,Env.put_ok,D gY]at ht⊢;have:(a.put (some d) v).tmps.getD t undef=a.tmps.getD t undef:=by simp[Act.put,b7K (Ne.symm gY)]
   rw[this];exact hf.rv t ht
  .by_cases gY:t=d
   .subst gY;simp only[Env.put_un,if_true]at ht;have:(a.put (some t) v).tmps.getD t undef=v:=by simp[Act.put,hf.size,hdn]
    rw[this];exact hu ht
   .simp only[Env.put_un,D gY]at ht;have:(a.put (some d) v).tmps.getD t undef=a.tmps.getD t undef:=by simp[Act.put,b7K (Ne.symm gY)]
    rw[this];exact hf.un t ht
theorem L3.hide{d:Option Nat}(hf:L3 M w n E a):L3 M w n (E.hide d) (a.put d v):=by
 cases d with
 |none=>exact hf
 |some d=>
  refine⟨hf.defers,by simp[Act.put,hf.size],λt ht=>?_,λt ht=>?_⟩
  .rw [(E.hide_at d t).2.1]at ht;split at ht
   .exact ht.elim
   .rename_i gY;have:(a.put (some d) v).tmps.getD t undef=a.tmps.getD t undef:=by simp[Act.put,b7K (Ne.symm gY)]
    rw[this];exact hf.rv t ht
  .rw [(E.hide_at d t).2.2]at ht;split at ht
   .exact ht.elim
   .rename_i gY;have:(a.put (some d) v).tmps.getD t undef=a.tmps.getD t undef:=by simp[Act.put,b7K (Ne.symm gY)]
    rw[this];exact hf.un t ht
theorem L3.eval(hr:Rel C M σ w)(hf:L3 M w n E a){x:Operand}(hx:E.valid x):RV M w (E.val C x) (a.eval x):=by
 cases x with
 |tmp t=>exact hf.rv t hx
 |const v=>exact a0D hx
 |global g=>
  simp only[Env.val,Act.eval]
  split
  .rename_i cells hc;exact(hr.glob g cells hc).rv
  .exact .val _
 |func f=>exact .val _
inductive V7 where
 |ret (c:CV)
 |pan (c:CV)
variable{K K':V7->List b9->Prop}
def b2s(P:Program)(K:Value->World->Prop)(Kp:List PanicEntry->World->Prop):Result Next->Prop
 | .ok (.value v) w'=>K v w'
 | .ok .skip w'=>K undef w'
 | .ok (.enter f args) w'=>Calls P f args w' λ
  | .returned v,w''=>K v w''
  | .panicked ch,w''=>Kp ch w''
  | .outgrown,_=>False
 | .halt (.panic v) w'=>Kp [{v,recovered:=false}] w'
 |_=>False
theorem b2s.mono{P:Program}{K K':Value->World->Prop}{Kp Kp':List PanicEntry->World->Prop}{r:Result Next}(h:b2s P K Kp r)(hk:∀v w,K v w->K' v w)(hp:∀c w,Kp c w->Kp' c w):b2s P K' Kp' r:=by
 cases r with
 |ok x w=>
  cases x<;>simp only[b2s]at h⊢
  case value v=>exact hk _ _ h
  case skip=>exact hk _ _ h
  case enter f args=>
   refine h.mono λe w' he=>?_;cases e with
   |returned v=>exact hk _ _ he
   |panicked c=>exact hp _ _ he
   |outgrown=>exact he
 |halt x w=>
  cases x<;>simp only[b2s]at h⊢
  exact hp _ _ h
theorem a4g{P:Program}{K:Value->World->Prop}{Kp:List PanicEntry->World->Prop}{next:Act->World->Prop}{Jk:Exit->Act->World->Prop}
 (h:b2s P K Kp ((execOp a.eval o).run P w))(hk:∀v w',K v w'->next (a.put o.dst v) w')(hp:∀c w',Kp c w'->Jk (.panic c) a w'):o.wp P a w next Jk:=by
 unfold Oper.wp;generalize (execOp a.eval o).run P w=r at h;cases r with
 |ok x w=>
  cases x<;>simp only[b2s]at h<;>simp only[Oper.upon]
  case value v=>exact hk _ _ h
  case skip=>exact hk _ _ h
  case enter f args=>
   refine h.mono λe w' he=>?_;cases e with
   |returned v=>exact hk _ _ he
   |panicked c=>exact hp _ _ he
   |outgrown=>exact he.elim
 |halt x w=>
  cases x<;>simp only[b2s]at h<;>simp only[Oper.upon]
  exact hp _ _ h
def a3O(C:Ctx)(M:B2)(w:World)(K:V7->List b9->Prop)(v:Value)(w':World):Prop:=
 ∃c aa M',Ext M w M' w'/\Rel C M' aa w'/\RV M' w' c v/\K (.ret c) aa
def a0I(C:Ctx)(M:B2)(w:World)(K:V7->List b9->Prop)(ch:List PanicEntry)(w':World):Prop:=
 ∃c v aa M',ch=[{v,recovered:=false}]/\Ext M w M' w'/\Rel C M' aa w'/\RV M' w' c v/\K (.pan c) aa
def H4(C:Ctx)(σ:List b9)(E:Env)(o:Oper)(K:V7->List b9->Prop):Prop:=
 ∀(M:B2) (w:World) (ρ:Operand->Value),Rel C M σ w->(∀x∈o.op.operands,E.valid x->RV M w (E.val C x) (ρ x)) ->
  b2s C.P (a3O C M w K) (a0I C M w K) ((execOp ρ o).run C.P w)
def m0(C:Ctx)(σ:List b9)(E:Env)(o:Oper)(c:CV):Prop:=H4 C σ E o λr aa=>r= .ret c/\aa=σ
def b8(C:Ctx)(f:FuncId)(args:List CV)(σ:List b9)(K:V7->List b9->Prop):Prop:=
 ∀(M:B2) (w:World) (vs:Array Value),Rel C M σ w->vs.size=args.length->(∀(i:Nat) (c:CV),args[i]?=some c->RV M w c (vs.getD i undef)) ->
  Calls C.P f vs w λ
   | .returned v,w'=>a3O C M w K v w'
   | .panicked ch,w'=>a0I C M w K ch w'
   | .outgrown,_=>False
theorem a3O.mono(h:∀r σ,K r σ->K' r σ)(ha:a3O C M w K v w'):a3O C M w K' v w':=by
 obtain⟨c,aa,M',h1,h2,h3,h4⟩:=ha;exact⟨c,aa,M',h1,h2,h3,h _ _ h4⟩
theorem a0I.mono(h:∀r σ,K r σ->K' r σ){v:List PanicEntry}(ha:a0I C M w K v w'):a0I C M w K' v w':=by
 obtain⟨c,u,aa,M',h0,h1,h2,h3,h4⟩:=ha;exact⟨c,u,aa,M',h0,h1,h2,h3,h _ _ h4⟩
theorem H4.mono(hd:H4 C σ E o K)(h:∀r σ,K r σ->K' r σ):H4 C σ E o K':=
 λM w ρ hr hx=>(hd M w ρ hr hx).mono (λ_ _=>a3O.mono h) (λ_ _=>a0I.mono h)
theorem b8.mono{f:FuncId}{args:List CV}(hd:b8 C f args σ K)(h:∀r σ,K r σ->K' r σ):b8 C f args σ K':=
 λM w vs hr hn hx=>(hd M w vs hr hn hx).mono λe w' he=>by
  cases e with
  |returned v=>exact a3O.mono h he
  |panicked c=>exact a0I.mono h he
  |outgrown=>exact he
inductive D3 where
 |normal
 |exit (id:Nat)
 |goto (l:Nat)
 |ret
 |pan (c:CV)
variable{Jk:D3->Env->List b9->Prop}
def Y1(C:Ctx)(n:Nat)(Jk:D3->Env->List b9->Prop)(M:B2)(w:World)(e:Exit)(a':Act)(w':World):Prop:=
 ∃E' aa M',Ext M w M' w'/\Rel C M' aa w'/\L3 M' w' n E' a' /\
  match e with
  | .normal=>Jk .normal E' aa
  | .exit id=>Jk (.exit id) E' aa
  | .goto l=>Jk (.goto l) E' aa
  | .ret=>Jk .ret E' aa
  | .panic ch=>∃c v,ch=[{v,recovered:=false}]/\RV M' w' c v/\Jk (.pan c) E' aa
  | .outgrown=>False
def CWp(C:Ctx)(n:Nat)(c:Code)(Jk:D3->Env->List b9->Prop)(E:Env)(σ:List b9):Prop:=
 ∀(M:B2) (w:World) (a:Act),Rel C M σ w->L3 M w n E a->c.wp C.P (Y1 C n Jk M w) a w
def K4(C:Ctx)(n:Nat)(ae:Array Oper)(Jk:D3->Env->List b9->Prop)(l:List Oper)(E:Env)(σ:List b9):Prop:=
 ∀(M:B2) (w:World) (a:Act),Rel C M σ w->L3 M w n E a->wpList C.P ae (Y1 C n Jk M w) l a w
theorem Y1.mono{Q':D3->Env->List b9->Prop}(h:∀e E σ,Jk e E σ->Q' e E σ){e:Exit}(hl:Y1 C n Jk M w e a w'):Y1 C n Q' M w e a w':=by
 obtain⟨E',aa,M',h1,h2,h3,h4⟩:=hl;refine⟨E',aa,M',h1,h2,h3,?_⟩;cases e<;>first|exact h _ _ _ h4|(obtain⟨c,v,hc,hv,hq⟩:=h4;exact⟨c,v,hc,hv,h _ _ _ hq⟩)|exact h4
theorem Y1.later{M1:B2}{w1:World}(he:Ext M w M1 w1){e:Exit}(hl:Y1 C n Jk M1 w1 e a w'):Y1 C n Jk M w e a w':=by
 obtain⟨E',aa,M',h1,h2,h3,h4⟩:=hl;exact⟨E',aa,M',he.trans h1,h2,h3,h4⟩
theorem CWp.mono{c:Code}{Q':D3->Env->List b9->Prop}(h:CWp C n c Jk E σ)(hq:∀e E σ,Jk e E σ->Q' e E σ):CWp C n c Q' E σ:=
 λM w a hr hf=>wp_mono (h M w a hr hf) λ_ _ _=>Y1.mono hq
def D3.next(k:Env->List b9->Prop)(Jk:D3->Env->List b9->Prop):D3->Env->List b9->Prop
 | .normal=>k
 |e=>Jk e
section
theorem C2(h:Jk .normal E σ):CWp C n .skip Jk E σ:=λM w _ hr hf=>wp_skip ⟨E,σ,M,Ext.refl M w,hr,hf,h⟩
theorem d2f{l:Nat}(h:Jk .normal E σ):CWp C n (.label l) Jk E σ:=λM w _ hr hf=>wp_label ⟨E,σ,M,Ext.refl M w,hr,hf,h⟩
theorem j6(h:Jk (.exit id) E σ):CWp C n (.exit id) Jk E σ:=λM w _ hr hf=>wp_exit ⟨E,σ,M,Ext.refl M w,hr,hf,h⟩
theorem c6(h:Jk .ret E σ):CWp C n .ret Jk E σ:=λM w _ hr hf=>wp_ret ⟨E,σ,M,Ext.refl M w,hr,hf,h⟩
theorem G4(h:CWp C n x (D3.next (CWp C n y Jk) Jk) E σ):CWp C n (.seq x y) Jk E σ:=λM w a hr hf=>by
 refine wp_seq (wp_mono (h M w a hr hf) λe a' w' hl=>?_);obtain⟨E',aa,M',h1,h2,h3,h4⟩:=hl;cases e with
 |normal=>exact wp_mono (h4 M' w' a' h2 h3) λ_ _ _=>Y1.later h1
 |_=>exact⟨E',aa,M',h1,h2,h3,h4⟩
theorem c5g{c:Operand}(hv:E.valid c)(hc:E.val C c= .val (.bool b))(ht:b=true->CWp C n x Jk E σ)(hf':b=false->CWp C n y Jk E σ):CWp C n (.cond c x y) Jk E σ:=λM w a hr hf=>by
 have h1:RV M w (E.val C c) (a.eval c):=hf.eval hr hv;rw[hc]at h1;have h2:a.eval c= .bool b:=by generalize a.eval c=u at h1;cases h1;rfl
 exact wp_cond_split h2 (λh=>ht h M w a hr hf) (λh=>hf' h M w a hr hf)
def D3.blk(id:Nat)(Jk:D3->Env->List b9->Prop):D3->Env->List b9->Prop
 | .exit id',E,σ=>if id'=id then Jk .normal E σ else Jk (.exit id') E σ
 |e,E,σ=>Jk e E σ
theorem a1A{c:Code}(h:CWp C n c (D3.blk id Jk) E σ):CWp C n (.block id c) Jk E σ:=λM w a hr hf=>by
 refine wp_block (wp_mono (h M w a hr hf) λe a' w' hl=>?_);obtain⟨E',aa,M',h1,h2,h3,h4⟩:=hl;cases e with
 |exit id'=>
  simp only[Exit.inBlock];simp only[D3.blk]at h4
  split<;>rename_i hid
  .rw [F hid]at h4;exact⟨E',aa,M',h1,h2,h3,h4⟩
  .rw [D hid]at h4;exact⟨E',aa,M',h1,h2,h3,h4⟩
 |_=>exact⟨E',aa,M',h1,h2,h3,h4⟩
theorem d4B{c:Code}(Je:Nat->Env->List b9->Prop)(m:Nat)(h0:Je m E σ)
 (cR:∀m E σ,Je m E σ->CWp C n c (D3.next (λE' aa=>∃m',m'<m/\Je m' E' aa) Jk) E σ):CWp C n (.loop c) Jk E σ:=λM w a hr hf=>by
 intro b k cs;have key:∀m E σ M1 w1 a1,Je m E σ->Ext M w M1 w1->Rel C M1 σ w1->L3 M1 w1 n E a1 ->
  ∃e a' w',Y1 C n Jk M w e a' w'/\Arrives C.P (lone (b.at a1 (.code c::.inLoop c::k)) cs w1) b k cs e a' w':=by
  intro m
  induction m using Nat.strongRecOn with
  |_ m ih=>
   intro E σ M1 w1 a1 hI hx aG dF;obtain⟨e,a2,w2,hq,aA⟩:=cR m E σ hI M1 w1 a1 aG dF b (.inLoop c::k) cs;obtain⟨E',aa,M',h1,h2,h3,h4⟩:=hq;cases e with
   |normal=>
    obtain⟨m',ab,hI'⟩:=h4;obtain⟨dG,dH,dI,ci,bc⟩:=ih m' ab E' aa M' w2 a2 hI' (hx.trans h1) h2 h3;exact⟨dG,dH,dI,ci,.of_steps (Steps.trans aA (.one step_inLoop)) bc⟩
   |exit id=>exact⟨_,a2,w2,⟨E',aa,M',hx.trans h1,h2,h3,h4⟩,.pass (x:=.inLoop c) J (λ_ _=>.inl H) aA⟩
   |goto l=>exact⟨_,a2,w2,⟨E',aa,M',hx.trans h1,h2,h3,h4⟩,.pass (x:=.inLoop c) J (λ_ _=>.inl H) aA⟩
   |ret=>exact⟨_,a2,w2,⟨E',aa,M',hx.trans h1,h2,h3,h4⟩,.pass (x:=.inLoop c) J (λ_ _=>.inl H) aA⟩
   |panic ch=>exact⟨_,a2,w2,⟨E',aa,M',hx.trans h1,h2,h3,h4⟩,.pass (x:=.inLoop c) J (λ_ _=>.inl H) aA⟩
   |outgrown=>exact h4.elim
 obtain⟨e,a',w',hq,aA⟩:=key m E σ M w a h0 (Ext.refl M w) hr hf;exact⟨e,a',w',hq,.of_steps (.one step_loop) aA⟩
theorem G8(h:K4 C n ae Jk ae.toList E σ):CWp C n (.region id ae false) Jk E σ:=
 λM w a hr hf=>wp_region_list (h M w a hr hf)
theorem w9(h:Jk .normal E σ):K4 C n ae Jk [] E σ:=λM w _ hr hf=>wpList_nil ⟨E,σ,M,Ext.refl M w,hr,hf,h⟩
theorem K4.later(h:K4 C n ae Jk l E σ){M1:B2}{w1:World}(hx:Ext M w M1 w1)(hr:Rel C M1 σ w1)(hf:L3 M1 w1 n E a):wpList C.P ae (Y1 C n Jk M w) l a w1:=by
 have:=h M1 w1 a hr hf;have hm:∀(l:List Oper) (a:Act) (w2:World),wpList C.P ae (Y1 C n Jk M1 w1) l a w2->wpList C.P ae (Y1 C n Jk M w) l a w2:=by
  intro l
  induction l with
  |nil=>exact λa w2 h=>Y1.later hx h
  |cons o l ih=>
   intro a w2 h;unfold wpList at h⊢
   split
   .rename_i hw;rw[F hw]at h;refine h.imp (λh=>?_) (λ⟨h1,a0,w0,hl⟩=>⟨h1,a0,w0,Y1.later hx hl⟩);unfold Oper.wp at h⊢;generalize (execOp a.eval o).run C.P w2=r at h;cases r with
    |ok x w3=>
     cases x<;>simp only[Oper.upon]at h⊢
     case value v=>exact ih _ _ h
     case skip=>exact ih _ _ h
     case defer d=>exact ih _ _ h
     case enter f args=>
      refine h.mono λe w4 he=>?_;cases e with
      |returned v=>exact ih _ _ he
      |panicked ch=>exact Y1.later hx he
      |outgrown=>obtain⟨a0,w0,hl⟩:=he;exact⟨a0,w0,Y1.later hx hl⟩
     case row r args=>exact Rows.mono h λ_ _ he=>ih _ _ he
    |halt x w3=>
     cases x<;>simp only[Oper.upon]at h⊢
     exact Y1.later hx h
   .rename_i hw;rw[D hw]at h;exact ih _ _ h
 exact hm _ _ _ this
theorem c3n(hg:o.guard=none)(hd:(match o.dst with|some d=>d<n|none=>True))
 (h:H4 C σ E o λr aa=>match r with
  | .ret c=>K4 C n ae Jk l (E.put o.dst c True) aa
  | .pan c=>Jk (.pan c) E aa):K4 C n ae Jk (o::l) E σ:=λM w a hr hf=>by
 unfold wpList;rw[F (by simp[Region.wanted,hg])];refine .inl (a4g (h M w a.eval hr λx _ hx=>hf.eval hr hx) (λv w' ha=>?_) (λch w' ha=>?_))
 .obtain ⟨c,aa,M',h1,h2,h3,h4⟩:=ha;exact h4.later h1 h2 ((hf.mono h1).put (λt ht=>by rw[ht]at hd;exact hd) (λ_=>h3) λhh=>absurd trivial hh)
 .obtain ⟨c,v,aa,M',h0,h1,h2,h3,h4⟩:=ha;exact⟨E,aa,M',h1,h2,hf.mono h1,c,v,h0,h3,h4⟩
theorem b76(hg:o.guard=some (j,au))(ht:(ae[j]?).bind (·.dst)=some t)(hv:E.ok t)(hb:E.f t= .val (.bool b))
 (hd:(match o.dst with|some d=>d<n|none=>True))(hy:b=au->m0 C σ E o c)(h:K4 C n ae Jk l (E.put o.dst c (b=au)) σ):K4 C n ae Jk (o::l) E σ:=λM w a hr hf=>by
 have h1:RV M w (E.f t) (a.tmps.getD t undef):=hf.rv t hv;rw[hb]at h1;have h2:a.tmps.getD t undef= .bool b:=by generalize a.tmps.getD t undef=u at h1;cases h1;rfl
 have aJ:t<a.tmps.size:=by
  rcases a2J t a.tmps.size with h'|h'
  .exact h'
  .simp [b0X h',undef]at h2
 have hw:Region.wanted o (yielded ae a.tmps)=(b == au):=by
  have h3:a.tmps[t]?=some (.bool b):=by
   rw[a0U,a1J aJ]at h2;rw[a1J aJ,<- h2];rfl
  have h4:yielded ae a.tmps j=some b:=by unfold yielded;rw[ht,n_9,h3]
  simp only[Region.wanted,hg,h4];cases b<;>cases au<;>rfl
 have fz:∀t,o.dst=some t->t<n:=λt ht=>by rw[ht]at hd;exact hd
 unfold wpList;by_cases cS:b=au
 .rw [F (by rw[hw];simpa using cS)];refine .inl (a4g (hy cS M w a.eval hr λx _ hx=>hf.eval hr hx) (λv w' ha=>?_) (λch w' ha=>?_))
  .obtain ⟨c',aa,M',h1,h2,h3,h4,rfl⟩:=ha;injection h4 with h4
   subst h4;exact h.later h1 h2 ((hf.mono h1).put fz (λ_=>h3) λhh=>absurd cS hh)
  .obtain ⟨c',v,aa,M',h0,h1,h2,h3,h4,_⟩:=ha;cases h4
 .rw [D (by rw[hw];simpa using cS)];exact h.later (Ext.refl M w) hr (hf.put fz (λhh=>absurd hh cS) λ_=>J)
theorem c6A(hg:o.guard=some (j,au))(ht:(ae[j]?).bind (·.dst)=some t)(hv:¬E.ok t->E.un t)(hb:E.f t= .val (.bool b))
 (hd:(match o.dst with|some d=>d<n|none=>True))(hy:E.ok t->b=au->m0 C σ E o c)(h:K4 C n ae Jk l (E.put o.dst c (E.ok t/\b=au)) σ):K4 C n ae Jk (o::l) E σ:=by
 by_cases bo:E.ok t
 .have e:(E.ok t/\b=au)=(b=au):=propext ⟨λh=>h.2,λh=>⟨bo,h⟩⟩;rw[e]at h;exact b76 hg ht bo hb hd (hy bo) h
 .intro M w a hr hf;have h2:=hf.un t (hv bo);have fz:∀t,o.dst=some t->t<n:=λt ht=>by rw[ht]at hd;exact hd
  have hw:Region.wanted o (yielded ae a.tmps)=false:=by
   have h4:yielded ae a.tmps j=none:=by
    unfold yielded;rw[ht,n_9]
    rcases a2J t a.tmps.size with h'|h'
    .rw [a0U,a1J h']at h2;rw[a1J h'];simp only[a9B]at h2;rw[h2];rfl
    .rw [b0X h']
   simp only[Region.wanted,hg,h4];cases au<;>rfl
  unfold wpList;rw[D (by rw[hw];simp)];exact h.later (Ext.refl M w) hr (hf.put fz (λhh=>absurd hh.1 bo) λ_=>J)
end
section
theorem d5U(hg:o.guard=none)(hd:(match o.dst with|some d=>Nat.blt d n|none=>true)=true)(hy:m0 C σ E o c)(h:K4 C n ae Jk l (E.put o.dst c True) σ):K4 C n ae Jk (o::l) E σ:=
 c3n hg (by
  cases fz:o.dst with
  |none=>trivial
  |some d=>rw[fz]at hd;simpa[b3L]using hd) (hy.mono λr aa hr=>by
  obtain⟨rfl,rfl⟩:=hr;exact h)
theorem a3i{ae:Array Oper}{o:Oper}{l:List Oper}(hg:o.guard=none)(hd:(match o.dst with|some d=>Nat.blt d n|none=>true)=true)(h:H4 C σ E o λr aa=>match r with
 | .ret c=>K4 C n ae Jk l (E.put o.dst c True) aa
 | .pan c=>Jk (.pan c) E aa):K4 C n ae Jk (o::l) E σ:=
 c3n hg (by
  cases fz:o.dst with
  |none=>trivial
  |some d=>rw[fz]at hd;simpa[b3L]using hd) h
theorem e1e(hg:o.guard=some (j,au))(ht:(ae[j]?).bind (·.dst)=some t)(hv:E.ok t)(hb:E.f t= .val (.bool b))
 (hd:(match o.dst with|some d=>Nat.blt d n|none=>true)=true)(hy:b=au->m0 C σ E o c)(h:K4 C n ae Jk l (E.put o.dst c (b=au)) σ):K4 C n ae Jk (o::l) E σ:=
 b76 hg ht hv hb (by
  cases fz:o.dst with
  |none=>trivial
  |some d=>rw[fz]at hd;simpa[b3L]using hd) hy h
theorem e1B(hg:o.guard=some (j,au))(ht:(ae[j]?).bind (·.dst)=some t)(hv:¬E.ok t->E.un t)(hb:E.f t= .val (.bool b))
 (hd:(match o.dst with|some d=>Nat.blt d n|none=>true)=true)(hy:E.ok t->b=au->m0 C σ E o c)(h:K4 C n ae Jk l (E.put o.dst c (E.ok t/\b=au)) σ):K4 C n ae Jk (o::l) E σ:=
 c6A hg ht hv hb (by
  cases fz:o.dst with
  |none=>trivial
  |some d=>rw[fz]at hd;simpa[b3L]using hd) hy h
def Env.is(E:Env):List (Nat×CV)->Prop
 | []=>True
 |(t,c)::l=>(E.ok t/\E.f t=c)/\E.is l
def Env.puts(E:Env):List (Nat×CV)->Env
 | []=>E
 |(t,c)::l=>(E.puts l).putO (some t) c .yes
theorem L3.puts(hf:L3 M w n E a):∀{l:List (Nat×CV)},E.is l->L3 M w n (E.puts l) a
 | [],_=>hf
 |(t,c)::l,⟨⟨h1,h2⟩,h⟩=>by
  have ih:=hf.puts h;refine⟨hf.defers,hf.size,λx hx=>?_,λx hx=>?_⟩
  .rw [Env.puts,Env.putO_f];rw[Env.puts,Env.putO_ok]at hx
   split
   .subst x;exact h2▸hf.rv t h1
   .rename_i ay;rw[D ay]at hx;exact ih.rv x hx
  .rw [Env.puts,Env.putO_un]at hx;split at hx
   .exact absurd trivial hx
   .exact ih.un x hx
theorem CWp.puts{c:Code}{l:List (Nat×CV)}(h:CWp C n c Jk (E.puts l) σ)(hE:E.is l):CWp C n c Jk E σ:=λM w a hr hf=>h M w a hr (hf.puts hE)
theorem H3{α:Type}{c:Code}(l:α->List (Nat×CV))(S:α->List b9)(Je:α->Prop)(m:α->Nat)(a0:α)(h0:Je a0)(hE:E.is (l a0))(ao:σ=S a0)
 (cR:∀(a:α) (E0:Env),Je a->CWp C n c (D3.next (λE' aa=>∃a',m a'<m a/\Je a'/\E'.is (l a')/\aa=S a') Jk) (E0.puts (l a)) (S a)):CWp C n (.loop c) Jk E σ:=by
 refine d4B (λk E σ=>∃a,k=m a/\Je a/\E.is (l a)/\σ=S a) (m a0) ⟨a0,J,h0,hE,ao⟩ λk E σ hI=>?_;obtain⟨a,rfl,hI,hE,rfl⟩:=hI;refine((cR a E hI).puts hE).mono λe E' aa h=>?_;cases e with
 |normal=>
  obtain⟨a',h1,h2,h3,h4⟩:=h;exact⟨m a',h1,a',J,h2,h3,h4⟩
 |_=>exact h
theorem N6{α:Type}(l:α->List (Nat×CV))(S:α->List b9)(Je:α->Prop)(h:CWp C n x (D3.next (λE' aa=>∃a,Je a/\E'.is (l a)/\aa=S a) Jk) E σ)(k:∀(a:α) (E0:Env),Je a->CWp C n y Jk (E0.puts (l a)) (S a)):CWp C n (.seq x y) Jk E σ:=by
 refine G4 (h.mono λe E' aa h=>?_);cases e with
 |normal=>
  obtain⟨a,h1,h2,rfl⟩:=h;exact(k a E' h1).puts h2
 |_=>exact h
end
def a0N(C:Ctx)(E:Env)(σ:List b9)(fn:Func)(c:CV):Prop:=
 ∀(M:B2) (w:World) (a:Act),Rel C M σ w->(∀t,E.ok t->RV M w (E.f t) (a.tmps.getD t undef))->∃v,(results fn a.tmps).run C.P w= .ok v w/\RV M w c v
def Env.args(args:List CV):Env:={h:=λt=>args[t]?,g:=λ_=>.yes}
def Fin(C:Ctx)(fn:Func)(K:V7->List b9->Prop):D3->Env->List b9->Prop
 | .normal,E,σ| .ret,E,σ=>∃c,a0N C E σ fn c/\K (.ret c) σ
 | .pan c,_,σ=>K (.pan c) σ
 |_,_,_=>False
theorem a9j{f:FuncId}{fn:Func}{c:Code}{args:List CV}(hf:C.P.funcs[f]?=some fn)(hb:fn.body=some c)(hn':Nat.ble args.length fn.ntmps=true)
 (h:CWp C fn.ntmps c (Fin C fn K) (Env.args args) σ):b8 C f args σ K:=λM w vs hr aJ hx=>by
 have hn:=nb hn';refine calls_of_wp hf hb (wp_mono (h M w _ hr ⟨J,by simp;omega,λt _=>?_,λt ht=>absurd trivial ht⟩) λe a w' hl=>?_)
 .simp only[Env.args,Env.f]
  rcases a2J t args.length with ht|ht
  .have:=hx t (args[t]) (by simp[ht]);have h1:(vs++Array.replicate (fn.ntmps -vs.size) undef).getD t undef=vs.getD t undef:=by
    simp[b4t,aJ,ht]
   rw[h1];simpa[ht]using this
  .have h1:(vs++Array.replicate (fn.ntmps -vs.size) undef).getD t undef=undef:=by
    simp only[a0U,b4t];rw[D X];rw[Array.getElem?_replicate]
    split<;>rfl
   rw[h1];simp only[b2P ht,Option.getD_none];exact .val _
 .obtain ⟨E',aa,M',h1,h2,h3,h4⟩:=hl;cases e with
  |normal=>
   obtain⟨c,hc,hk⟩:=h4;obtain⟨v,hv,bh⟩:=hc M' w' a h2 h3.rv;exact⟨h3.defers,v,hv,c,aa,M',h1,h2,bh,hk⟩
  |ret=>
   obtain⟨c,hc,hk⟩:=h4;obtain⟨v,hv,bh⟩:=hc M' w' a h2 h3.rv;exact⟨h3.defers,v,hv,c,aa,M',h1,h2,bh,hk⟩
  |panic ch=>
   obtain⟨c,v,h0,hv,hk⟩:=h4;exact⟨h3.defers,c,v,aa,M',h0,h1,h2,hv,hk⟩
  |exit id=>exact h4.elim
  |goto l=>exact h4.elim
  |outgrown=>exact h4.elim
end Go.Cl
namespace Go.Cl
open Sem
variable{x y:Operand}{t t' e:TypeId}{c:CV}{a:Int}{s off k f:Nat}{b nn:Bool}{w:World}{v:Value}{Y:List (List CV)}{tok:Option Nat}{cells:List CV}
theorem r4{M:B2}{u:Value}(h:RV M w (.val v) u):u=v:=by cases h;rfl
theorem U9(b off n:Nat):(⟨b,off,none⟩:Addr).add n=⟨b,off+n,none⟩:=by
 unfold Addr.add
 split
 .simp [*]
 .rfl
theorem a2i{P:Program}{w:World}{a:Addr}(f:Nat->Value):∀(n i:Nat) (bt:Array Value),(∀j,j<n->w.cell? (a.add (i+j))=some (f (i+j))) ->
 (loadCellsFrom a i n bt).run P w= .ok (bt++((List.range' i n).map f).toArray) w
 |0,i,bt,_=>by simp[loadCellsFrom]
 |n+1,i,bt,h=>by
  have h0:=h 0 X;rw[a9r]at h0;have ih:=a2i (P:=P) (w:=w) (a:=a) f n (i+1) (bt.push (f i)) (λj hj=>by
   have:=h (j+1) X;rwa[show i+(j+1)=i+1+j from by omega]at this)
  simp only[loadCellsFrom,Sem.run_bind,run_load,h0,Result.andThen_ok,ih,List.range'_succ,b0t];simp
theorem T5{P:Program}{b:Nat}(f:Nat->Value)(n:Nat)(h:∀j,j<n->w.cell? ⟨b,off+j,none⟩=some (f j)):
 (loadCells ⟨b,off,none⟩ n).run P w= .ok ((List.range n).map f).toArray w:=by
 unfold loadCells;rw[a2i f n 0 #[] (λj hj=>by rw[U9];simpa using h j hj)];simp[List.range_eq_range']
section
variable{C:Ctx}{σ:List b9}{E:Env}{o:Oper}
theorem i8(h:∀(M:B2) (w:World) (ρ:Operand->Value),Rel C M σ w->(∀x∈o.op.operands,E.valid x->RV M w (E.val C x) (ρ x))->∃v,(execOp ρ o).run C.P w= .ok (.value v) w/\RV M w c v):m0 C σ E o c:=
 λM w ρ hr hx=>by
  obtain⟨v,h1,h2⟩:=h M w ρ hr hx;rw[h1];exact⟨c,σ,M,Ext.refl M w,hr,h2,J,J⟩
theorem a2r(ho:o.op = .move x)(hx:E.valid x)(ec:E.val C x=c):m0 C σ E o c:=
 i8 λM w ρ _ h=>⟨ρ x,by simp[execOp,ho],ec▸h x w8 hx⟩
theorem a7z(ho:o.op = .assign x)(hx:E.valid x)(ec:E.val C x=c):m0 C σ E o c:=
 i8 λM w ρ _ h=>⟨ρ x,by simp[execOp,ho],ec▸h x w8 hx⟩
theorem b5L{d:Bool}(ho:o.op = .pick x (.const (.bool true)) y)(hx:E.valid x)(ex:E.val C x= .val (.bool b))(hy:b=false->E.valid y)(ey:b=false->E.val C y= .val (.bool d)):m0 C σ E o (.val (.bool (b ||d))):=
 i8 λM w ρ _ h=>by
  have h1:=h x w8 hx;have h0:=h (.const (.bool true)) w8 J;rw[ex]at h1;have e1:=r4 h1;have e0:ρ (.const (.bool true))= .bool true:=r4 h0;cases b with
  |true=>exact⟨.bool true,by simp[execOp,ho,e1,e0,asBool],.val _⟩
  |false=>
   have h2:=h y w8 (hy J);rw[ey J]at h2;have e2:=r4 h2;exact⟨.bool d,by simp[execOp,ho,e1,e2,asBool],.val _⟩
theorem b1o{d:Bool}(ho:o.op = .pick x y (.const (.bool false)))(hx:E.valid x)(ex:E.val C x= .val (.bool b))(hy:b=true->E.valid y)(ey:b=true->E.val C y= .val (.bool d)):m0 C σ E o (.val (.bool (b&&d))):=
 i8 λM w ρ _ h=>by
  have h1:=h x w8 hx;have h0:=h (.const (.bool false)) w8 J;rw[ex]at h1;have e1:=r4 h1;have e0:ρ (.const (.bool false))= .bool false:=r4 h0;cases b with
  |false=>exact⟨.bool false,by simp[execOp,ho,e1,e0,asBool],.val _⟩
  |true=>
   have h2:=h y w8 (hy J);rw[ey J]at h2;have e2:=r4 h2;exact⟨.bool d,by simp[execOp,ho,e1,e2,asBool],.val _⟩
def a7M(op:BinOp)(k:IntKind)(a b:Int):Option Value:=
 match op with
 | .add=>some (.int k (k.wrap (a+b)))
 | .sub=>some (.int k (k.wrap (a-b)))
 | .mul=>some (.int k (k.wrap (a*b)))
 | .quo=>if b=0 then none else some (.int k (k.wrap (a.tdiv b)))
 | .rem=>if b=0 then none else some (.int k (a.tmod b))
 | .eql=>some (.bool (a == b))
 | .neq=>some (.bool (a != b))
 | .lss=>some (.bool (a<b))
 | .leq=>some (.bool (a<=b))
 | .gtr=>some (.bool (a > b))
 | .geq=>some (.bool (a>=b))
 |_=>none
theorem a0Z{op:BinOp}{k:IntKind}{b:Int}(ho:o.op = .binOp op t x y t')(hx:E.valid x)(hy:E.valid y)(ex:E.val C x= .val (.int k a))(ey:E.val C y= .val (.int k b))(hv:a7M op k a b=some v):m0 C σ E o (.val v):=
 i8 λM w ρ _ h=>by
  have h1:=h x w8 hx;have h2:=h y w8 hy;rw[ex]at h1;rw[ey]at h2;have e1:=r4 h1;have e2:=r4 h2;refine⟨v,?_,.val _⟩;cases op<;>simp only[a7M]at hv
  case quo=>
   by_cases hb:b=0
   .simp [hb]at hv
   .rw [D hb]at hv;injection hv with hv
    subst hv;simp[execOp,ho,e1,e2,eqGuard,binOp,Op.intDiv,hb]
  case rem=>
   by_cases hb:b=0
   .simp [hb]at hv
   .rw [D hb]at hv;injection hv with hv
    subst hv;simp[execOp,ho,e1,e2,eqGuard,binOp,Op.intDiv,hb]
  all_goals first
   |(cases hv;done)
   |(injection hv with hv;subst hv;simp[execOp,ho,e1,e2,eqGuard,binOp,Op.intArith,Op.intCmp])
theorem b0W{x:Int}(h1: -9223372036854775808<=x)(h2:x<=9223372036854775807):IntKind.i64.wrap x=x:=by
 rw[IntKind.wrap_i64];omega
theorem c5D{b:Int}(ho:o.op = .binOp .add t x y t')(hx:E.valid x)(hy:E.valid y)(ex:E.val C x= .val (.int .i64 a))(ey:E.val C y= .val (.int .i64 b))(h1: -9223372036854775808<=a+b)(h2:a+b<=9223372036854775807):m0 C σ E o (.val (.int .i64 (a+b))):=by
 have:=a0Z (σ:=σ) (v:=.int .i64 (IntKind.i64.wrap (a+b))) ho hx hy ex ey J;rwa[b0W h1 h2]at this
theorem b16{b:Int}(ho:o.op = .binOp .sub t x y t')(hx:E.valid x)(hy:E.valid y)(ex:E.val C x= .val (.int .i64 a))(ey:E.val C y= .val (.int .i64 b))(h1: -9223372036854775808<=a-b)(h2:a-b<=9223372036854775807):m0 C σ E o (.val (.int .i64 (a-b))):=by
 have:=a0Z (σ:=σ) (v:=.int .i64 (IntKind.i64.wrap (a-b))) ho hx hy ex ey J;rwa[b0W h1 h2]at this
theorem b9q{b:Int}(ho:o.op = .binOp .mul t x y t')(hx:E.valid x)(hy:E.valid y)(ex:E.val C x= .val (.int .i64 a))(ey:E.val C y= .val (.int .i64 b))(h1: -9223372036854775808<=a*b)(h2:a*b<=9223372036854775807):m0 C σ E o (.val (.int .i64 (a*b))):=by
 have:=a0Z (σ:=σ) (v:=.int .i64 (IntKind.i64.wrap (a*b))) ho hx hy ex ey J;rwa[b0W h1 h2]at this
def d9f(op:BinOp)(a b:Bool):Option Bool:=
 match op with
 | .eql=>some (a == b)
 | .neq=>some (a != b)
 |_=>none
theorem d3H{op:BinOp}{a r:Bool}(ho:o.op = .binOp op t x y t')(hu:∀w,(underlying t).run C.P w= .ok .bool w)(hx:E.valid x)(hy:E.valid y)(ex:E.val C x= .val (.bool a))(ey:E.val C y= .val (.bool b))(hv:d9f op a b=some r):m0 C σ E o (.val (.bool r)):=
 i8 λM w ρ _ h=>by
  have h1:=h x w8 hx;have h2:=h y w8 hy;rw[ex]at h1;rw[ey]at h2;have e1:=r4 h1;have e2:=r4 h2;refine⟨.bool r,?_,.val _⟩;have heq:∀d,(Op.equalIn (d+1) t (.bool a) (.bool b)).run C.P w= .ok (a == b) w:=λd=>by simp[Op.equalIn,hu]
  cases op<;>simp only[d9f]at hv<;>first
   |(cases hv;done)
   |(injection hv with hv;subst hv;simp[execOp,ho,e1,e2,eqGuard,binOp,Op.equal,Op.maxDepth,heq 9999])
  cases a<;>cases b<;>rfl
def b1w(op:BinOp)(a b:ByteArray):Option Bool:=
 match op with
 | .eql=>some (a.toList == b.toList)
 | .neq=>some (!(a.toList == b.toList))
 | .lss=>some (Op.bytesLess a.toList b.toList)
 | .leq=>some (Op.bytesLess a.toList b.toList ||a.toList == b.toList)
 | .gtr=>some (!(Op.bytesLess a.toList b.toList ||a.toList == b.toList))
 | .geq=>some (!Op.bytesLess a.toList b.toList)
 |_=>none
theorem d1f{op:BinOp}{a b:ByteArray}{r:Bool}(ho:o.op = .binOp op t x y t')(hx:E.valid x)(hy:E.valid y)(ex:E.val C x= .val (.string a))(ey:E.val C y= .val (.string b))(hv:b1w op a b=some r):m0 C σ E o (.val (.bool r)):=
 i8 λM w ρ _ h=>by
  have h1:=h x w8 hx;have h2:=h y w8 hy;rw[ex]at h1;rw[ey]at h2;have e1:=r4 h1;have e2:=r4 h2;refine⟨.bool r,?_,.val _⟩;cases op<;>simp only[b1w]at hv<;>first
   |(cases hv;done)
   |(injection hv with hv;subst hv;simp[execOp,ho,e1,e2,eqGuard,binOp,Op.stringOp])
theorem c3c(ho:o.op = .unOp .not t x)(hx:E.valid x)(ex:E.val C x= .val (.bool b)):m0 C σ E o (.val (.bool (!b))):=
 i8 λM w ρ _ h=>by
  have h1:=h x w8 hx;rw[ex]at h1;exact⟨.bool (!b),by simp[execOp,ho,r4 h1,Op.unary],.val _⟩
theorem c8Z{k:IntKind}(ho:o.op = .unOp .neg t x)(hx:E.valid x)(ex:E.val C x= .val (.int k a)):m0 C σ E o (.val (.int k (k.wrap (0-a)))):=
 i8 λM w ρ _ h=>by
  have h1:=h x w8 hx;rw[ex]at h1;exact⟨.int k (k.wrap (0-a)),by simp[execOp,ho,r4 h1,Op.unary,Op.intArith],.val _⟩
theorem a6u{i:Nat}{cs:List CV}(ho:o.op = .extract x i)(hx:E.valid x)(ex:E.val C x= .tup cs)(hi:cs[i]?=some c):m0 C σ E o c:=
 i8 λM w ρ _ h=>by
  have h1:=h x w8 hx;rw[ex]at h1;generalize hu:ρ x=u at h1;cases h1 with
  |tup aJ bh=>
   rename_i vs;have ab:i<vs.size:=by rw[aJ];exact(n_3.1 hi).1
   refine⟨vs.getD i undef,?_,bh i c hi⟩;simp[execOp,ho,hu,Instr.extract,ab]
theorem RV.list_inv{M:B2}(h:RV M w (.list Y nn tok) v):
 ∃(a:Option Addr) (cap b off s:Nat) (vals:Nat->Nat->Value),v= .slice a Y.length cap/\Y.length<=cap/\cap<=maxLen/\a.isSome=nn/\(nn=false->cap=0)/\(Y≠[]->a=some ⟨b,off,none⟩) /\
  (∀r∈Y,r.length=s)/\(∀r∈Y,∀c∈r,c.one=true) /\
  (∀(i j:Nat) (r:List CV) (c:CV),Y[i]?=some r->r[j]?=some c->M.at b (off+i*s+j)/\w.cell? ⟨b,off+i*s+j,none⟩=some (vals i j)) /\
  (∀(i j:Nat) (r:List CV) (c:CV),Y[i]?=some r->r[j]?=some c->RV M w c (vals i j)) /\
  (∀k,tok=some k->∃s',M.pl[k]?=some ⟨b,cap,s'⟩/\a=some ⟨b,0,none⟩/\off=0/\(Y≠[]->s'=s)):=by
 cases h with
 |list vals h1 h2 h3 h4 h5 h6 h7 h8 h9 bb=>exact⟨_,_,_,_,_,vals,J,h1,h2,h3,h4,h5,h6,h7,h8,h9,bb⟩
theorem a0u{ty:TypeId}{n:Int}(ho:o.op = .call {callee:=.builtin .len,args:=#[x],argTypes:=#[t]})(hx:E.valid x)(ex:E.val C x= .list Y nn tok)
 (hu:∀w,(underlying t).run C.P w= .ok (.slice e) w)(hn:(Y.length:Int)=n)(_:o.type=ty):m0 C σ E o (.val (.int .i64 n)):=
 i8 λM w ρ _ h=>by
  have h1:=h x H9 hx;rw[ex]at h1;obtain⟨a,cap,b,off,s,vals,hv,_⟩:=h1.list_inv;subst hn;exact⟨.int .i64 Y.length,by simp[execOp,ho,resolve,invoke,builtin,Builtin.len_,hu,hv,goInt],.val _⟩
theorem a3G{ty:TypeId}{len:Nat}{n:Int}(ho:o.op = .call {callee:=.builtin .len,args:=#[x],argTypes:=#[t]})(hx:E.valid x)(ex:E.val C x= .vec k off len)
 (hu:∀w,(underlying t).run C.P w= .ok (.slice e) w)(hn:(len:Int)=n)(_:o.type=ty):m0 C σ E o (.val (.int .i64 n)):=
 i8 λM w ρ _ h=>by
  have h1:=h x H9 hx;rw[ex]at h1;generalize eo:ρ x=u at h1;subst hn;cases h1;exact⟨.int .i64 len,by simp[execOp,ho,resolve,invoke,builtin,Builtin.len_,hu,eo,goInt],.val _⟩
theorem p9{ix:Operand}{i:Int}{r:List CV}(ho:o.op = .indexAddr t x ix)(hx:E.valid x)(hi:E.valid ix)(ex:E.val C x= .list Y nn tok)(ei:E.val C ix= .val (.int .i64 i))
 (hu:∀w,(underlying t).run C.P w= .ok (.slice e) w)(hs:∀w,(sizeOf e).run C.P w= .ok s w)(h0:0<=i)(hr:Y[i.toNat]?=some r)(hl:r.length=s):m0 C σ E o (.cptr r):=
 i8 λM w ρ _ h=>by
  have h1:=h x w8 hx;have h2:=h ix w8 hi;rw[ex]at h1;rw[ei]at h2;obtain⟨a,cap,b,off,s',vals,hv,bj,_,_,_,ha,cq,aQ,hc,bh,_⟩:=h1.list_inv;have ab:i.toNat <Y.length:=(n_3.1 hr).1;have ay:Y≠[]:=by rintro rfl;simp at ab
  have bx:r∈Y:=n_2 hr;have hss:s'=s:=by rw[<- cq r bx,hl]
  subst hss;refine⟨.pointer (some ⟨b,off+i.toNat*s',none⟩),?_,.cptr (vals i.toNat) (aQ r bx) (λj c hj=>?_) (λj c hj=>bh _ _ _ _ hr hj)⟩
  .have bu:i< (Y.length:Int):=by omega
   simp[execOp,ho,hv,r4 h2,Instr.indexAt,asIntOf,hu,hs,ha ay,h0,bu,U9]
  .exact hc _ _ _ _ hr hj
theorem a3Y{fs:Array Field}{fd:Field}(ho:o.op = .fieldAddr t x f)(hx:E.valid x)(ex:E.val C x= .cptr cells)
 (hu:∀w,(underlying t).run C.P w= .ok (.struct fs) w)(hf:fs[f]?=some fd)(hs:∀w,(sizeOf fd.type).run C.P w= .ok s w)(eV:s≠0):m0 C σ E o (.cptr (cells.drop fd.offset)):=
 i8 λM w ρ _ h=>by
  have h1:=h x w8 hx;rw[ex]at h1;generalize eo:ρ x=u at h1;cases h1 with
  |cptr vals h1 h2 h3=>
   rename_i b off;refine⟨.pointer (some ⟨b,off+fd.offset,none⟩),?_,.cptr (λj=>vals (fd.offset+j)) (λc hc=>h1 c (b2T hc)) (λj c hj=>?_) (λj c hj=>?_)⟩
   .simp [execOp,ho,eo,Instr.fieldAt,hu,hf,Instr.sureAddr,fieldPlace,hs,eV,U9]
   .rw [a5z]at hj;have:=h2 _ _ hj;rwa[<- a8e]at this
   .rw [a5z]at hj;exact h3 _ _ hj
theorem j7{fs:Array Field}{fd:Field}(ho:o.op = .fieldAddr t x f)(hx:E.valid x)(ex:E.val C x= .ptr k off)
 (hu:∀w,(underlying t).run C.P w= .ok (.struct fs) w)(hf:fs[f]?=some fd)(hs:∀w,(sizeOf fd.type).run C.P w= .ok s w)(eV:s≠0):m0 C σ E o (.ptr k (off+fd.offset)):=
 i8 λM w ρ _ h=>by
  have h1:=h x w8 hx;rw[ex]at h1;generalize eo:ρ x=u at h1;cases h1 with
  |ptr hk=>exact⟨_,by simp[execOp,ho,eo,Instr.fieldAt,hu,hf,Instr.sureAddr,fieldPlace,hs,eV,U9],.ptr hk⟩
theorem c7O{fs:Array Field}{fd:Field}{i:Nat}(ho:o.op = .fieldAddr t x f)(hx:E.valid x)(ex:E.val C x= .eptr k i off)
 (hu:∀w,(underlying t).run C.P w= .ok (.struct fs) w)(hf:fs[f]?=some fd)(hs:∀w,(sizeOf fd.type).run C.P w= .ok s w)(eV:s≠0):m0 C σ E o (.eptr k i (off+fd.offset)):=
 i8 λM w ρ _ h=>by
  have h1:=h x w8 hx;rw[ex]at h1;generalize eo:ρ x=u at h1;cases h1 with
  |eptr hk=>
   refine⟨_,by simp[execOp,ho,eo,Instr.fieldAt,hu,hf,Instr.sureAddr,fieldPlace,hs,eV,U9,a8e],.eptr hk⟩
theorem a1f(ho:o.op = .load t x)(hx:E.valid x)(ex:E.val C x= .cptr cells)(ha:∀w,(isAgg t).run C.P w= .ok false w)(hc:cells[0]?=some c):m0 C σ E o c:=
 i8 λM w ρ _ h=>by
  have h1:=h x w8 hx;rw[ex]at h1;generalize eo:ρ x=u at h1;cases h1 with
  |cptr vals h1 h2 h3=>
   rename_i b off;have:=(h2 0 c hc).2;rw[a9r]at this;exact⟨vals 0,by simp[execOp,ho,eo,Instr.loadAt,Instr.sureAddr,loadVar,ha,this],h3 0 c hc⟩
theorem X3(ho:o.op = .load t x)(hx:E.valid x)(ex:E.val C x= .cptr cells)(ha:∀w,(isAgg t).run C.P w= .ok true w)(hs:∀w,(sizeOf t).run C.P w= .ok s w)(hl:s<=cells.length):m0 C σ E o (.agg (cells.take s)):=
 i8 λM w ρ _ h=>by
  have h1:=h x w8 hx;rw[ex]at h1;generalize eo:ρ x=u at h1;cases h1 with
  |cptr vals h1 h2 h3=>
   rename_i b off;refine⟨.agg ((List.range s).map vals).toArray,?_,.agg (by simp[hl]) (λc hc=>h1 c (b0C hc)) (λi c hi=>?_)⟩
   .simp [execOp,ho,eo,Instr.loadAt,Instr.sureAddr,loadVar,ha,hs,T5 (P:=C.P) (w:=w) vals s (λj hj=>(h2 j cells[j] (by simp[show j<cells.length by omega])).2)]
   .have aZ:i<s:=by
     have:=(n_3.1 hi).1;simp at this;omega
    rw[a2y,F aZ]at hi;have:=h3 i c hi;simpa[aZ]using this
end
end Go.Cl
namespace Go.Cl
variable{w w0 w':World}{M M' M0:B2}{c c':CV}{s k n off L i b j m aj:Nat}{t e t2 ty:TypeId}{Y new:List (List CV)}{x y:Operand}{σ:List b9}{K:V7->List b9->Prop}{z v:Value}{C:Ctx}{α:Type}{am:List Nat}{p:Pl}{E:Env}{f:FuncId}{t0:Option TypeId}{o:Oper}{nn au:Bool}{arr:Array Value}{P:Program}{g:Prop}{cs r args ax aS:List CV}{ob:b9}{xs:Array Operand}{ts:Array TypeId}{parts:Array (Nat×Operand)}{a:Int}{ps:List (Nat×CV)}{l:List Oper}{S:α->List b9}
def B2.add(M:B2)(p:Pl):B2:={M with pl:=M.pl++[p]}
theorem L2(w:World)(o:Obj)(h:b<w.heap.size):(w.alloc o).heap[b]?=w.heap[b]?:=by
 show(w.heap.push o)[b]?=_;rw[c0a,D (Nat.ne_of_lt h)]
theorem B3(w:World)(o:Obj):(w.alloc o).heap[w.heap.size]?=some o:=by
 show(w.heap.push o)[w.heap.size]?=_;rw[c0a,F J]
theorem S8.lt(h:S8 M w p ob)(hl:ob.live=true):p.block <w.heap.size:=by
 have key:∀{o:Obj},w.heap[p.block]?=some o->p.block <w.heap.size:=λh=>(a1Z.1 h).1;cases ob with
 |dead=>cases hl
 |boxT t0 cells=>obtain⟨arr,ty,h,_⟩:=h;exact key h
 |tipT t0 n=>obtain⟨_,_,_,arr,ty,h,_⟩:=h;exact key h
 |vec s Y=>obtain⟨_,_,_,_,_,arr,ty,h,_⟩:=h;exact key h
 |map es=>obtain⟨arr,ty,h,_⟩:=h;exact key h
 |iter aH left=>obtain⟨_,_,_,_,_,h,_⟩:=h;exact key h
 |blk o=>exact key h
 |lp o n cs=>obtain⟨_,h,_⟩:=h;exact key h
theorem S8.mono(hx:Ext M w M' w')(hb:w'.heap[p.block]?=w.heap[p.block]?)(hc:∀t n,ob= .tipT t n->∀o,M'.cell p.block o->M.cell p.block o)(h:S8 M w p ob):S8 M' w' p ob:=by
 cases ob with
 |dead=>trivial
 |boxT t0 cells=>
  obtain⟨arr,ty,h1,h2,h3,h4⟩:=h;exact⟨arr,ty,hb.trans h1,h2,h3,λi c hi=>(h4 i c hi).mono hx⟩
 |blk o=>exact hb.trans h
 |lp o n cs=>
  obtain⟨tm,h1,h2,h3⟩:=h;exact⟨tm,hb.trans h1,h2,λx aC=>(h3 x aC).mono hx⟩
 |tipT t0 n=>
  obtain⟨h0,fm,h1,arr,ty,h2,h3⟩:=h;exact⟨h0,fm,⟨λo ho=>h1.1 o (hc _ n J o ho),h1.2⟩,arr,ty,hb.trans h2,h3⟩
 |vec s Y=>
  obtain⟨h0,fm,h000,h1,h2,arr,ty,h3,h4,h5⟩:=h;exact⟨h0,fm,h000,h1,h2,arr,ty,hb.trans h3,h4,λi j r c hi hj=>(h5 i j r c hi hj).mono hx⟩
 |map es=>
  obtain⟨af,aj,h1,h2,h3⟩:=h;refine⟨af,aj,hb.trans h1,h2,λi x hi=>?_⟩;obtain⟨e,he,hk,hv,hc⟩:=h3 i x hi;exact⟨e,he,hk.mono hx,hv.mono hx,hc⟩
 |iter aH left=>
  obtain⟨mb,seen,bI,af,aj,h1,h2,h3,h4,h5,h6,h7,h8,h9⟩:=h;refine⟨mb,seen,bI,af,aj,hb.trans h1,hx.full _ h2,(hx.same _ h2).trans h3,h4,h5,h6,h7,λi x hi=>?_,λi x hi=>?_⟩
  .obtain ⟨e,he,hk,hv⟩:=h8 i x hi;exact⟨e,he,hk.mono hx,hv.mono hx⟩
  .obtain ⟨hl,j,e,he,hs,hk,hv⟩:=h9 i x hi;exact⟨hl,j,e,he,hs,hk.mono hx,hv.mono hx⟩
theorem Ext.alloc(hr:Rel C M σ w)(p:Pl)(o:Obj):Ext M w (M.add p) (w.alloc o):=
 ⟨⟨[p],J⟩,λ_ h=>h,λ_ _ h=>.inr h,λb h=>L2 w o (hr.blk b 0 (.inl h)),λb o' h=>O2 (L2 w o (hr.blk b o' (.inr h))),by rw[b5M];omega,U0,J,J,J,λb h=>⟨h,L2 w o (hr.kep b h),id,λ_=>id⟩⟩
theorem Rel.alloc(hr:Rel C M σ w)(p:Pl)(o:Obj)(ob:b9)(hb:p.block=w.heap.size)(h:S8 (M.add p) (w.alloc o) p ob):Rel C (M.add p) (σ++[ob]) (w.alloc o):=by
 have hx:=Ext.alloc hr p o;have aq:∀{k:Nat} {q:Pl},(M.add p).pl[k]?=some q->(k<σ.length/\M.pl[k]?=some q)\/(k=σ.length/\q=p):=by
  intro k q hk;simp only[B2.add,a7p,hr.len]at hk;split at hk
  .exact .inl ⟨‹_›,hk⟩
  .rename_i ab;have:k-σ.length=0:=by
    have:=(n_3.1 hk).1;simp at this;omega
   rw[this]at hk;simp at hk;exact .inr ⟨X,hk.symm⟩
 have fo:∀{k:Nat} {x:b9},(σ++[ob])[k]?=some x->k<σ.length->σ[k]?=some x:=by
  intro k x hk ab;rwa[R8 ab]at hk
 have hgn:∀{x:b9},(σ++[ob])[σ.length]?=some x->x=ob:=by
  intro x hk;simp at hk;exact hk.symm
 refine⟨by simp[B2.add,hr.len],λb o' ha=>?_,λk q x hk aC=>?_,λk k' q q' x x' hk aK bd aM hl bg hbb=>?_,λg cells hg=>(hr.glob g cells hg).mono hx,λb h=>(by rw[b5M];have:=hr.kep b h;omega),λk q x hk aC ca h=>?_⟩
 .have:=hr.blk b o' ha;rw[b5M];omega
 .rcases aq hk with⟨ab,hq⟩|⟨rfl,rfl⟩
  .have hxo:=fo aC ab;obtain⟨h1,h2⟩:=hr.obj k q x hq hxo;refine⟨?_,h2⟩;by_cases hl:x.live=true
   .exact h1.mono hx (L2 w o (h1.lt hl)) (λ_ _ _ _ h=>h)
   .cases x<;>first|trivial|simp[b9.live]at hl
  .have:=hgn aC;subst this;refine⟨h,?_⟩;have hf:¬M.full q.block:=λhf=>by have:=hr.blk q.block 0 (.inl hf);omega
   have hc:∀o,¬M.cell q.block o:=λo hc=>by have:=hr.blk q.block o (.inr hc);omega
   cases x<;>first|trivial|exact hf|exact⟨hf,hc⟩
 .rcases aq hk with⟨ab,hq⟩|⟨rfl,rfl⟩
  .rcases aq aK with⟨bu,eH⟩|⟨rfl,rfl⟩
   .exact hr.inj k k' q q' x x' hq eH (fo bd ab) (fo aM bu) hl bg hbb
   .have:=(hr.obj k q x hq (fo bd ab)).1.lt hl;omega
  .rcases aq aK with⟨bu,eH⟩|⟨rfl,rfl⟩
   .have:=(hr.obj k' q' x' eH (fo aM bu)).1.lt bg;omega
   .rfl
 .rcases aq hk with⟨ab,hq⟩|⟨rfl,rfl⟩
  .exact hr.nk k q x hq (fo aC ab) ca h
  .have:=hr.kep _ h;omega
def CV.cells:CV->List CV
 | .agg cs=>cs
 |c=>[c]
theorem RV.cells(h:RV M w c v)(ho:c.one=true\/∃cs,c= .agg cs):
 v.cells.size=c.cells.length/\(∀x∈c.cells,x.one=true)/\∀(i:Nat) (x:CV),c.cells[i]?=some x->RV M w x (v.cells.getD i undef):=by
 rcases ho with ho|⟨cs,rfl⟩
 .have hv:=h.one ho;have fy:v.cells = #[v]:=by cases v<;>first|rfl|simp[Value.oneCell']at hv
  have bJ:c.cells=[c]:=by cases c<;>first|rfl|simp[CV.one]at ho
  rw[fy,bJ];refine⟨J,I ho,λi x hi=>?_⟩
  rcases i with _|i
  .simp at hi;subst hi;exact h
  .simp at hi
 .cases h with
  |agg h1 h2 h3=>exact⟨h1,h2,h3⟩
variable{cells:List CV}
section
theorem a4j(t:TypeId)(v:Value)(w:World):(newVar t v).run P w= .ok ⟨w.heap.size,0,none⟩ (w.alloc (.cells v.cells t)):=by
 simp[newVar,newRow]
theorem b5m(hr:Rel C M σ w)(h:RV M w c v)(ho:c.one=true\/∃cs,c= .agg cs)(hk:K (.ret (.ptr σ.length 0)) (σ++[.box c.cells])):
 a3O C M w K (.pointer (some ⟨w.heap.size,0,none⟩)) (w.alloc (.cells v.cells t)):=by
 obtain⟨h1,h2,h3⟩:=h.cells ho;have hx:=Ext.alloc hr ⟨w.heap.size,0,0⟩ (.cells v.cells t);refine⟨.ptr σ.length 0,_,_,hx,hr.alloc ⟨w.heap.size,0,0⟩ _ (.box c.cells) J ⟨v.cells,t,B3 w _,h1,h2,λi x hi=>(h3 i x hi).mono hx⟩,?_,hk⟩;exact .ptr (p:=⟨w.heap.size,0,0⟩) b0n
theorem I0(ho:o.op = .box t x)(hx:E.valid x)(ex:E.val C x=c)(hc:c.one=true\/∃cs,c= .agg cs)(hk:K (.ret (.ptr σ.length 0)) (σ++[.box c.cells])):H4 C σ E o K:=λM w ρ hr h=>by
 have h1:=h x w8 hx;rw[ex]at h1;have:(execOp ρ o).run C.P w= .ok (.value (.pointer (some ⟨w.heap.size,0,none⟩))) (w.alloc (.cells (ρ x).cells t)):=by
  simp[execOp,ho,Instr.box,a4j]
 rw[this];exact b5m hr h1 hc hk
theorem p7(ho:o.op = .alloc t)(hz:∀w,(zeroValue t).run C.P w= .ok z w)(bP:M6 z=true)(cL:(I5 z).one=true\/∃cs,I5 z= .agg cs)(hk:K (.ret (.ptr σ.length 0)) (σ++[.box (I5 z).cells])):H4 C σ E o K:=λM w ρ hr h=>by
 have:(execOp ρ o).run C.P w= .ok (.value (.pointer (some ⟨w.heap.size,0,none⟩))) (w.alloc (.cells z.cells t)):=by
  simp[execOp,ho,Instr.alloc,hz,a4j]
 rw[this];exact b5m hr (a0D bP) cL hk
theorem b87(hr:Rel C M σ w)(hp:M.pl[k]?=some p)(hb:σ[k]?=some (.boxT t0 cells))(hi:cells[i]?=some c):
 ∃v,w.cell? ⟨p.block,i,none⟩=some v/\RV M w c v/\w.frozen? ⟨p.block,i,none⟩=false:=by
 obtain⟨arr,ty,h1,h2,h3,h4⟩:=(hr.obj k p _ hp hb).1;have ab:i<arr.size:=by rw[h2];exact(n_3.1 hi).1
 refine⟨arr.getD i undef,?_,h4 i c hi,?_⟩
 .simp [World.cell?,h1,ab]
 .simp [World.frozen?,h1]
theorem o6(ho:o.op = .load t x)(hx:E.valid x)(ex:E.val C x= .ptr k off)(ha:∀w,(isAgg t).run C.P w= .ok false w)(hk:σ[k]?=some (.boxT t0 cells))(hc:cells[off]?=some c):m0 C σ E o c:=
 i8 λM w ρ hr h=>by
  have h1:=h x w8 hx;rw[ex]at h1;generalize eo:ρ x=u at h1;cases h1 with
  |ptr hp=>
   obtain⟨v,hv,bh,_⟩:=b87 hr hp hk hc;exact⟨v,by simp[execOp,ho,eo,Instr.loadAt,Instr.sureAddr,loadVar,ha,hv],bh⟩
theorem O4(ho:o.op = .load t x)(hx:E.valid x)(ex:E.val C x= .ptr k off)(ha:∀w,(isAgg t).run C.P w= .ok true w)(hs:∀w,(sizeOf t).run C.P w= .ok s w)(hk:σ[k]?=some (.boxT t0 cells))(hl:off+s<=cells.length):m0 C σ E o (.agg ((cells.drop off).take s)):=
 i8 λM w ρ hr h=>by
  have h1:=h x w8 hx;rw[ex]at h1;generalize eo:ρ x=u at h1;cases h1 with
  |ptr hp=>
   rename_i p;obtain⟨arr,ty,h1,h2,h3,h4⟩:=(hr.obj k p _ hp hk).1;have aN:∀j,j<s->w.cell? ⟨p.block,off+j,none⟩=some (arr.getD (off+j) undef):=λj hj=>by
    have:off+j<arr.size:=by omega
    simp[World.cell?,h1,this]
   refine⟨.agg ((List.range s).map λj=>arr.getD (off+j) undef).toArray,?_,.agg K5 (λc hc=>h3 c (b2T (b0C hc))) (λi c hi=>?_)⟩
   .simp [execOp,ho,eo,Instr.loadAt,Instr.sureAddr,loadVar,ha,hs,T5 (P:=C.P) (w:=w) _ s aN]
   .have aZ:i<s:=by
     have:=(n_3.1 hi).1;simp at this;omega
    rw[a2y,F aZ,a5z]at hi;have:=h4 (off+i) c hi;simpa[aZ]using this
theorem a1V{fn:Func}{t:Nat}(hr:fn.results = #[.tmp t])(hv:E.ok t)(ec:E.f t=c):a0N C E σ fn c:=λM w a _ h=>by
 refine⟨a.tmps.getD t undef,results_tmp hr _ _ _,ec▸h t hv⟩
end
def World.putObj(w:World)(b:Nat)(o:Obj):World:={w with heap:=w.heap.setIfInBounds b o}
theorem World.putObj_same(w:World)(o:Obj)(hb:b<w.heap.size):(World.putObj w b o).heap[b]?=some o:=by
 simp[World.putObj,hb]
theorem World.putObj_other(w:World){b':Nat}(o:Obj)(h:b≠b'):(World.putObj w b o).heap[b']?=w.heap[b']?:=by
 simp[World.putObj,b7K h]
theorem World.putObj_size(w:World)(b:Nat)(o:Obj):(World.putObj w b o).heap.size=w.heap.size:=by
 simp[World.putObj]
theorem World.putObj_put(w:World)(b:Nat)(o o':Obj):World.putObj (World.putObj w b o) b o'=World.putObj w b o':=by
 simp[World.putObj]
theorem World.putObj_self(w:World){o:Obj}(h:w.heap[b]?=some o):World.putObj w b o=w:=by
 have:w.heap.setIfInBounds b o=w.heap:=by
  apply b6q;intro i;by_cases hi:b=i
  .subst hi;have ab:=(a1Z.1 h).1;rw[h];simp[ab]
  .rw [b7K hi]
 unfold World.putObj;rw[this]
theorem b1q(w:World){aH:Array Value}(v:Value)(h:w.heap[b]?=some (.cells aH t (0,0))):
 w.setCell ⟨b,off,none⟩ v=World.putObj w b (.cells (aH.setIfInBounds off v) t (0,0)):=by
 have ab:=(a1Z.1 h).1;unfold World.setCell World.putObj
 congr 1
 apply b6q;intro i;rw[b7U];by_cases hi:b=i
 .subst hi;rw[F J,h,Array.getElem?_setIfInBounds_self_of_lt ab];rfl
 .rw [D hi,b7K hi]
def E8(aH:Array Value)(o:Nat):List Value->Array Value
 | []=>aH
 |v::vs=>E8 (aH.setIfInBounds o v) (o+1) vs
theorem J1:∀(vs:List Value) (aH:Array Value) (o:Nat),(E8 aH o vs).size=aH.size
 | [],_,_=>rfl
 |v::vs,aH,o=>by rw[E8,J1 vs];simp
theorem N5:∀(vs:List Value) (aH:Array Value) (o i:Nat),o+vs.length<=aH.size ->
 (E8 aH o vs).getD i undef=if o<=i/\i<o+vs.length then vs.getD (i-o) undef else aH.getD i undef
 | [],aH,o,i,_=>by
  rw[E8,D (by simp only[J6];omega)]
 |v::vs,aH,o,i,h=>by
  simp only[C5]at h;rw[E8,N5 vs _ _ _ K5];by_cases h1:o+1<=i/\i<o+1+vs.length
  .rw [F h1,F (by simp only[C5];omega)];have:i-o=(i- (o+1))+1:=by omega
   rw[this];simp
  .rw [D h1];by_cases h2:i=o
   .subst h2;rw[F (by simp only[C5];omega)];have ab:i<aH.size:=by omega
    simp[ab]
   .rw [D (by simp only[C5];omega)];simp[b7K (Ne.symm h2)]
theorem P4{P:Program}{b off:Nat}{t:TypeId}:∀(vs:List Value) (i:Nat) (aH:Array Value) (w:World),w.heap[b]?=some (.cells aH t (0,0))->off+i+vs.length<=aH.size->(∀v∈vs,v.oneCell'=true) ->
 (storeCells ⟨b,off,none⟩ vs i).run P w= .ok () (World.putObj w b (.cells (E8 aH (off+i) vs) t (0,0)))
 | [],i,aH,w,h,_,_=>by
  simp only[storeCells,E8,World.putObj_self w h];rfl
 |v::vs,i,aH,w,h,hl,h1=>by
  simp only[C5]at hl;have aN:w.cell? ⟨b,off+i,none⟩=some (aH.getD (off+i) undef):=by
   have:off+i<aH.size:=by omega
   simp[World.cell?,h,this]
  have hfz:w.frozen? ⟨b,off+i,none⟩=false:=by simp[World.frozen?,h]
  have hb:b<w.heap.size:=(a1Z.1 h).1;simp only[storeCells,U9,Sem.run_bind,run_store P w _ v .plain (h1 v H),aN,hfz,b8x,if_false,Result.andThen_ok];rw[b1q w v h];have ih:=P4 (P:=P) (off:=off) (t:=t) vs (i+1) (aH.setIfInBounds (off+i) v) (World.putObj w b (.cells (aH.setIfInBounds (off+i) v) t (0,0))) (World.putObj_same w _ hb) K5 (λu hu=>h1 u (by simp[hu]));rw[ih,World.putObj_put];rfl
def Q4(cells:List CV)(off:Nat)(new:List CV):List CV:=cells.take off++(new++cells.drop (off+new.length))
theorem a0P{new:List CV}(h:off+new.length<=cells.length):(Q4 cells off new).length=cells.length:=by
 simp[Q4];omega
theorem a26{new:List CV}(h:off+new.length<=cells.length)(i:Nat):
 (Q4 cells off new)[i]?=if off<=i/\i<off+new.length then new[i-off]? else cells[i]?:=by
 unfold Q4;rw[a7p];simp only[a4Y,b5O (show off<=cells.length by omega)]
 split
 .rename_i h1;rw[D X,a2y,F h1]
 .rename_i h1;rw[a7p]
  split
  .rename_i h2;rw[F X]
  .rename_i h2;rw[D X,a5z]
   congr 1;omega
theorem a23{new:List CV}(h:c∈Q4 cells off new):c∈new\/c∈cells:=by
 simp only[Q4,J5]at h
 rcases h with h|h|h
 .exact .inr (b0C h)
 .exact .inl h
 .exact .inr (b2T h)
theorem Ext.putObj(o:Obj)(hkp:¬M.keep b)(hf:¬M.full b)(hc:∀o,¬M.cell b o):Ext M w M (World.putObj w b o):=
 ⟨⟨[],H⟩,λ_ h=>h,λ_ _ h=>.inr h,λb' h=>World.putObj_other w o (λe=>hf (e▸h)),λb' o' h=>O2 (World.putObj_other w o (λe=>hc o' (e▸h))),by rw[World.putObj_size];exact n_7 _,U0,J,J,J,λb' h=>⟨h,World.putObj_other w o (λe=>hkp (e▸h)),id,λ_=>id⟩⟩
theorem Rel.putObj(hr:Rel C M σ w){da:b9}(hk:M.pl[k]?=some p)(hs:σ[k]?=some da)(dy:da.live=true)(hf:¬M.full p.block)(hc:∀o,¬M.cell p.block o)(o:Obj)
 (h:S8 M (World.putObj w p.block o) p ob):Rel C M (σ.set k ob) (World.putObj w p.block o):=by
 have hx:=Ext.putObj (w:=w) o (hr.nk k p da hk hs dy) hf hc;have hb:p.block <w.heap.size:=(hr.obj k p da hk hs).1.lt dy;have aq:∀{k':Nat} {x:b9},(σ.set k ob)[k']?=some x->(k'=k/\x=ob)\/(k'≠k/\σ[k']?=some x):=by
  intro k' x hh;rw[a9z]at hh;split at hh
  .rename_i e;split at hh
   .injection hh with hh;exact .inl ⟨e.symm,hh.symm⟩
   .cases hh
  .rename_i e;exact .inr ⟨λe'=>e e'.symm,hh⟩
 refine⟨by simp[hr.len],λb o' ha=>by rw[World.putObj_size];exact hr.blk b o' ha,λk' q x aK aC=>?_,λk1 k2 q1 q2 x1 x2 bw bK bd aM cp cb hbb=>?_,λg cells hg=>(hr.glob g cells hg).mono hx,λb h=>(by rw[World.putObj_size];exact hr.kep b h),λk' q x aK aC ca=>?_⟩
 .rcases aq aC with⟨rfl,rfl⟩|⟨ay,aU⟩
  .have:q=p:=by rw[hk]at aK;injection aK with aK;exact aK.symm
   subst this;refine⟨h,?_⟩;cases x<;>first|trivial|exact hf|exact⟨hf,hc⟩
  .obtain ⟨h1,h2⟩:=hr.obj k' q x aK aU;refine⟨?_,h2⟩;by_cases hl:x.live=true
   .refine h1.mono hx (World.putObj_other w o λe=>ay ?_) (λ_ _ _ _ h=>h);exact hr.inj k' k q p x da aK hk aU hs hl dy e.symm
   .cases x<;>first|trivial|simp[b9.live]at hl
 .have gZ:∀{k':Nat} {x:b9},(σ.set k ob)[k']?=some x->x.live=true->∃x',σ[k']?=some x'/\x'.live=true:=by
   intro k' x hh hl
   rcases aq hh with⟨rfl,rfl⟩|⟨_,aU⟩
   .exact ⟨da,hs,dy⟩
   .exact ⟨x,aU,hl⟩
  obtain⟨y1,fp,hl1'⟩:=gZ bd cp;obtain⟨y2,hy2,hl2'⟩:=gZ aM cb;exact hr.inj k1 k2 q1 q2 y1 y2 bw bK fp hy2 hl1' hl2' hbb
 .rcases aq aC with⟨rfl,rfl⟩|⟨ay,aU⟩
  .rw [hk]at aK;injection aK with aK
   subst aK;exact hr.nk _ _ da hk hs dy
  .exact hr.nk k' q x aK aU ca
section
theorem a3S(h:RV M w c v)(ho:c.one=true\/∃cs,c= .agg cs):∀u∈v.cells.toList,u.oneCell'=true:=by
 obtain⟨h1,h2,h3⟩:=h.cells ho;intro u hu;obtain⟨i,hi,rfl⟩:=List.mem_iff_getElem.1 hu;have aZ:i<v.cells.size:=I hi;have db:i<c.cells.length:=by omega
 have:=(h3 i c.cells[i] (by simp[db])).one (h2 _ (b1t db));simpa[aZ]using this
theorem j2(ho:o.op = .store t x y)(hx:E.valid x)(hy:E.valid y)(ex:E.val C x= .ptr k off)(ey:E.val C y=c)(hs:∀w,(sizeOf t).run C.P w= .ok s w)
 (hc:c.one=true\/∃cs,c= .agg cs)(hk:σ[k]?=some (.boxT t0 cells))(hl:c.cells.length=s)(ab:off+s<=cells.length)(h:K (.ret (.val undef)) (σ.set k (.boxT t0 (Q4 cells off c.cells)))):H4 C σ E o K:=λM w ρ hr hh=>by
 have h1:=hh x w8 hx;have h2:=hh y w8 hy;rw[ex]at h1;rw[ey]at h2;generalize hu:ρ x=u at h1;cases h1 with
 |ptr hp=>
  rename_i p;obtain⟨⟨arr,ty,e1,e2,e3,e4⟩,hf,bO⟩:=hr.obj k p _ hp hk;obtain⟨g1,g2,g3⟩:=h2.cells hc;have aQ:=a3S h2 hc;have aJ:off+c.cells.length<=cells.length:=by omega
  have av:(execOp ρ o).run C.P w= .ok .skip (World.putObj w p.block (.cells (E8 arr off (ρ y).cells.toList) (t0.getD ty) (0,0))):=by
   have:=P4 (P:=C.P) (b:=p.block) (off:=off) (t:=t0.getD ty) (ρ y).cells.toList 0 arr w e1 K5 aQ;simp only[a9r]at this;simp[execOp,ho,hu,Instr.storeAt,Instr.sureAddr,storeVar,hs,g1,hl,this]
  rw[av];have hx:=Ext.putObj (w:=w) (.cells (E8 arr off (ρ y).cells.toList) (t0.getD ty) (0,0)) (hr.nk k p _ hp hk J) hf bO;have hb:p.block <w.heap.size:=(a1Z.1 e1).1;refine⟨.val undef,_,M,hx,hr.putObj (ob:=.boxT t0 (Q4 cells off c.cells)) hp hk J hf bO _ ⟨_,ty,World.putObj_same w _ hb,by rw[J1,a0P aJ,e2],λc' bJ=>?_,λi c' hi=>?_⟩,.val _,h⟩
  .rcases a23 bJ with h'|h'
   .exact g2 _ h'
   .exact e3 _ h'
  .rw [N5 _ _ _ _ K5];rw[a26 aJ]at hi;simp only[b0T,g1];split at hi
   .rename_i bF;rw[F bF];have:=(g3 _ _ hi).mono hx;simpa using this
   .rename_i bF;rw[D bF];exact(e4 _ _ hi).mono hx
theorem b7c(ho:o.op = .call {callee:=.value (.func f),args:=xs,argTypes:=ts})(aB:∀args w,(callFunc f args).run C.P w= .ok (.enter f args) w)
 (hv:∀x∈xs.toList,E.valid x)(ea:xs.toList.map (E.val C)=ax)(h:b8 C f ax σ K):H4 C σ E o K:=λM w ρ hr hh=>by
 have hf:RV M w (.val (.func (.func f) #[] #[])) (ρ (.func f)):=hh (.func f) H9 O;have ef:=r4 hf;have av:(execOp ρ o).run C.P w= .ok (.enter f (xs.map ρ)) w:=by
  simp[execOp,ho,resolve,ef,Deferred.ofValue,invoke,aB]
 rw[av];refine(h M w (xs.map ρ) hr (by simp[<- ea]) λi c hi=>?_).mono λe w' he=>by cases e<;>exact he
 subst ea;simp only[O5,P2]at hi;obtain⟨x,hx,rfl⟩:=hi;have aC:xs[i]?=some x:=I hx;have hm:x∈xs:=b8o aC;have:(xs.map ρ).getD i undef=ρ x:=by
  rw[a0U,b4a,aC];rfl
 rw[this];exact hh x (by simp[ho,Op.operands,Call.operands,hm]) (hv x (I hm))
def b4s(cz:Array (Nat×Nat))(cells:List CV):List (Nat×CV)->Option (List CV)
 | []=>some cells
 |(i,c)::rest=>
  match cz[i]? with
  |none=>none
  |some (off,size)=>if c.cells.length=size/\off+size<=cells.length then b4s cz (Q4 cells off c.cells) rest else none
theorem a5c:∀(vs:List Value) (cs:Array Value) (off j:Nat),(vs.zipIdx j).foldl (λcs (x:Value×Nat)=>cs.setIfInBounds (off+x.2) x.1) cs=E8 cs (off+j) vs
 | [],_,_,_=>rfl
 |v::vs,cs,off,j=>by
  rw[List.zipIdx_cons,b3p,a5c vs _ off (j+1)];rfl
theorem b8i{M:B2}{w:World}{cz:Array (Nat×Nat)}{place:Nat->Option (Nat×Nat)}(ba:∀i,place i=cz[i]?):∀(ps:List (Nat×CV)) (qs:List (Nat×Value)) (cells:List CV) (arr:Array Value) (aw:List CV),
 b4s cz cells ps=some aw->ps.map (·.1)=qs.map (·.1)->(∀(i:Nat) (x:Nat×CV) (y:Nat×Value),ps[i]?=some x->qs[i]?=some y->RV M w x.2 y.2/\(x.2.one=true\/∃cs,x.2 = .agg cs)) ->
 arr.size=cells.length->(∀c∈cells,c.one=true)->(∀(i:Nat) (c:CV),cells[i]?=some c->RV M w c (arr.getD i undef)) ->
 ∃r,Instr.fill place arr qs=some r/\RV M w (.agg aw) (.agg r)
 | [],[],cells,arr,aw,h,_,_,h2,h3,h4=>by
  simp only[b4s,Option.some.injEq]at h;subst h;exact⟨arr,J,.agg h2 h3 h4⟩
 | [],q::qs,_,_,_,_,h,_,_,_,_=>by simp at h
 |p::ps,[],_,_,_,_,h,_,_,_,_=>by simp at h
 |(i,c)::ps,(i',v)::qs,cells,arr,aw,h,hm,bh,h2,h3,h4=>by
  simp only[b0t,List.cons.injEq]at hm;obtain⟨rfl,hm⟩:=hm;simp only[b4s]at h;cases hp:cz[i]? with
  |none=>rw[hp]at h;cases h
  |some x=>
   obtain⟨off,size⟩:=x;rw[hp]at h;simp only at h;split at h
   .rename_i hc;obtain⟨bW,cr⟩:=hc;obtain⟨hv,aQ⟩:=bh 0 (i,c) (i,v) J J;obtain⟨g1,g2,g3⟩:=hv.cells aQ;have g1:v.cells.size=c.cells.length:=g1;have aJ:off+c.cells.length<=cells.length:=by omega
    have hG:(v.cells.zipIdx.foldl (λcs (x:Value×Nat)=>cs.setIfInBounds (off+x.2) x.1) arr)=E8 arr off v.cells.toList:=by
     rw[<- Array.foldl_toList,Array.toList_zipIdx,a5c];rfl
    have ih:=b8i ba ps qs (Q4 cells off c.cells) (E8 arr off v.cells.toList) aw h hm (λj x y hx hy=>bh (j+1) x y (I hx) (I hy)) (by rw[J1,a0P aJ,h2])
     (λc' bJ=>by
      rcases a23 bJ with h'|h'
      .exact g2 _ h'
      .exact h3 _ h')
     (λj c' hj=>by
      rw[N5 _ _ _ _ K5];rw[a26 aJ]at hj;simp only[b0T,g1];split at hj
      .rename_i bF;rw[F bF];have:=g3 _ _ hj;simpa using this
      .rename_i bF;rw[D bF];exact h4 _ _ hj)
    obtain⟨r,aG,aX⟩:=ih;refine⟨r,?_,aX⟩;simp only[Instr.fill,ba,hp];rw[D K5];exact(n_8 (λz=>Instr.fill place z qs) hG).trans aG
   .cases h
theorem d5g{fs:Array Field}{cz:Array (Nat×Nat)}{aw:List CV}(ho:o.op = .build t parts)(hv:∀x∈parts.toList,E.valid x.2)
 (hu:∀w,(underlying t).run C.P w= .ok (.struct fs) w)(hz:∀w,(zeroValue t).run C.P w= .ok z w)(bP:M6 z=true)(cL:∃cs,I5 z= .agg cs)
 (ba:∀w,(fs.mapM λ(f:Field)=>do pure (f.offset,<- sizeOf f.type)).run C.P w= .ok cz w)(ep:parts.toList.map (λx=>(x.1,E.val C x.2))=ps)
 (aQ:∀x∈ps,x.2.one=true\/∃cs,x.2 = .agg cs)(cT:b4s cz (I5 z).cells ps=some aw):m0 C σ E o (.agg aw):=
 i8 λM w ρ hr h=>by
  have eW:RV M w (I5 z) z:=a0D bP;obtain⟨g1,g2,g3⟩:=eW.cells (.inr cL);have bx:∀x∈parts.toList,x.2∈o.op.operands:=λx hx=>by
   rw[ho];simp only[Op.operands,List.mem_toArray,D5];exact⟨x,hx,J⟩
  obtain⟨r,aG,aX⟩:=b8i (M:=M) (w:=w) (place:=λi=>cz[i]?) a0b ps (parts.toList.map λx=>(x.1,ρ x.2)) (I5 z).cells z.cells aw cT (by simp[<- ep]) (λi x y hx hy=>by
   refine⟨?_,aQ x (n_2 hx)⟩;subst ep;simp only[O5,P2]at hx hy;obtain⟨a,ha,rfl⟩:=hx;obtain⟨a',cM,rfl⟩:=hy;have:a=a':=by rw[ha]at cM;injection cM
   subst this;have hm:=n_2 ha;exact h _ (bx _ hm) (hv _ hm)) g1 g2 g3
  refine⟨.agg r,?_,aX⟩;have hl:(parts.map λx=>(x.1,ρ x.2)).toList=parts.toList.map λx=>(x.1,ρ x.2):=by simp
  simp only[execOp,ho,Instr.build,Sem.run_bind,hz,Result.andThen_ok,hu,ba];simp only[hl,aG];rfl
end
def b7d(e:Edge):Bool:=Region.binds .any e
section
variable{ae:Array Oper}{E':Env}{a:Act}{Jk:D3->Env->List b9->Prop}
def M9(C:Ctx)(σ:List b9)(ae:Array Oper)(o:Oper)(E:Env)(c:CV)(g:Prop):Prop:=
 (o.guard=none/\g/\m0 C σ E o c) \/
 (∃j t au b,o.guard=some (j,au)/\(ae[j]?).bind (·.dst)=some t/\(¬E.ok t->E.un t)/\E.f t= .val (.bool b)/\(g↔(E.ok t/\b=au))/\(E.ok t->b=au->m0 C σ E o c))
def a2S(C:Ctx)(σ:List b9)(ae:Array Oper)(K:Env->Prop):List Oper->Env->Prop
 | [],E=>K E
 |o::l,E=>∃c g,M9 C σ ae o E c g/\a2S C σ ae K l (E.put o.dst c g)
theorem a7k{K:Env->Prop}(h:K E):a2S C σ ae K [] E:=h
theorem e3g{K:Env->Prop}(hg:o.guard=none)(hy:m0 C σ E o c)(h:a2S C σ ae K l (E.put o.dst c True)):a2S C σ ae K (o::l) E:=
 ⟨c,True,.inl ⟨hg,O,hy⟩,h⟩
theorem L1{K:Env->Prop}{t:Nat}{b:Bool}(hg:o.guard=some (j,au))(ht:(ae[j]?).bind (·.dst)=some t)(hv:E.ok t)(hb:E.f t= .val (.bool b))
 (hy:b=au->m0 C σ E o c)(h:a2S C σ ae K l (E.put o.dst c (b=au))):a2S C σ ae K (o::l) E:=
 ⟨c,b=au,.inr ⟨j,t,au,b,hg,ht,λh=>absurd hv h,hb,⟨λh=>⟨hv,h⟩,λh=>h.2⟩,λ_=>hy⟩,h⟩
theorem a5y{K:Env->Prop}{t:Nat}{b:Bool}(hg:o.guard=some (j,au))(ht:(ae[j]?).bind (·.dst)=some t)(hv:¬E.ok t->E.un t)(hb:E.f t= .val (.bool b))
 (hy:E.ok t->b=au->m0 C σ E o c)(h:a2S C σ ae K l (E.put o.dst c (E.ok t/\b=au))):a2S C σ ae K (o::l) E:=
 ⟨c,E.ok t/\b=au,.inr ⟨j,t,au,b,hg,ht,hv,hb,Iff.rfl,hy⟩,h⟩
def Env.agree(t:Nat)(E E':Env):Prop:=E.f t=E'.f t/\E.ok t=E'.ok t/\E.un t=E'.un t
theorem b41{t:Nat}{d:Option Nat}(hd:d≠some t):E.agree t (E.put d c g):=by
 cases d with
 |none=>exact⟨J,J,J⟩
 |some d=>
  have ht:t≠d:=λe=>hd (by rw[e]);unfold Env.agree;simp only[Env.put_f,Env.put_ok,Env.put_un,D ht,and_self]
theorem Env.agree.symm{t:Nat}(h:E.agree t E'):E'.agree t E:=⟨h.1.symm,h.2.1.symm,h.2.2.symm⟩
theorem d1I{d d':Option Nat}{g':Prop}(h:∀t,d=some t->d'≠some t):(E.put d c g).put d' c' g'=(E.put d' c' g').put d c g:=by
 cases d with
 |none=>rfl
 |some d=>
  cases d' with
  |none=>rfl
  |some d'=>
   have ay:¬d=d':=λe=>h d J (by rw[e]);simp only[Env.put,Env.putO]
   congr 1<;>funext t<;>cases h1:Nat.beq t d<;>cases h2:Nat.beq t d'<;>first|rfl|exact absurd ((a4A h1).symm.trans (a4A h2)) ay
theorem c2M{t:Nat}(h:Operand.tmp t∈o.op.operands):t∈o.looksAt ae:=
 a7c _ (c5T.2 ⟨.tmp t,I h,J⟩)
theorem a6Q{t:Nat}(hg:o.guard=some (j,au))(ht:(ae[j]?).bind (·.dst)=some t):t∈o.looksAt ae:=by
 unfold Oper.looksAt;rw[hg];exact b7e _ (by simp[ht])
theorem a67(h:∀t∈o.looksAt ae,E.agree t E')(hd:H4 C σ E o K):H4 C σ E' o K:=λM w ρ hr hx=>hd M w ρ hr λx hm hv=>by
 cases x with
 |tmp t=>
  have h1:=h t (c2M hm);show RV M w (E.f t) _;rw[h1.1];exact hx (.tmp t) hm (cast h1.2.1 hv)
 |const v=>exact hx (.const v) hm hv
 |global v=>exact hx (.global v) hm hv
 |func v=>exact hx (.func v) hm hv
theorem a7b(h:∀t∈o.looksAt ae,E.agree t E')(hd:M9 C σ ae o E c g):M9 C σ ae o E' c g:=by
 rcases hd with⟨h1,h2,h3⟩|⟨j,t,au,b,hg,ht,h1,h2,h3,h4⟩
 .exact .inl ⟨h1,h2,a67 h h3⟩
 .obtain ⟨a1,a2,a3⟩:=h t (a6Q hg ht);refine .inr ⟨j,t,au,b,hg,ht,?_,?_,?_,?_⟩
  .rw [<- a2,<- a3];exact h1
  .rw [<- a1];exact h2
  .rw [<- a2];exact h3
  .rw [<- a2];exact λk1 k2=>a67 h (h4 k1 k2)
def c4h(C:Ctx)(ae:Array Oper)(o:Oper)(E:Env)(σ:List b9)(K:CV->Prop->List b9->Prop)(Kp:CV->List b9->Prop):Prop:=
 ∃j t au b c0,o.guard=some (j,au)/\(ae[j]?).bind (·.dst)=some t/\E.ok t/\E.f t= .val (.bool b)/\(b=au->H4 C σ E o λr aa=>match r with| .ret c=>K c (b=au) aa| .pan c=>Kp c aa)/\(¬b=au->K c0 (b=au) σ)
def c0Y(C:Ctx)(ae:Array Oper)(o:Oper)(E:Env)(σ:List b9)(K:CV->Prop->List b9->Prop)(Kp:CV->List b9->Prop):Prop:=
 (o.guard=none/\H4 C σ E o λr aa=>match r with| .ret c=>K c True aa| .pan c=>Kp c aa)\/c4h C ae o E σ K Kp
theorem a3D{K K':CV->Prop->List b9->Prop}{Kp:CV->List b9->Prop}(h:∀t∈o.looksAt ae,E.agree t E')(hk:∀c g σ,K c g σ->K' c g σ)(hd:c0Y C ae o E σ K Kp):c0Y C ae o E' σ K' Kp:=by
 have go:∀{g:Prop},(H4 C σ E o λr aa=>match r with| .ret c=>K c g aa| .pan c=>Kp c aa)->H4 C σ E' o λr aa=>match r with| .ret c=>K' c g aa| .pan c=>Kp c aa:=λhd=>(a67 h hd).mono λr aa hh=>by
  cases r with
  |ret c=>exact hk _ _ _ hh
  |pan c=>exact hh
 rcases hd with⟨h1,h2⟩|⟨j,t,au,b,c0,hg,ht,h1,h2,h3,h4⟩
 .exact .inl ⟨h1,go h2⟩
 .obtain ⟨a1,a2,-⟩:=h t (a6Q hg ht);exact .inr ⟨j,t,au,b,c0,hg,ht,a2▸h1,a1▸h2,λe=>go (h3 e),λe=>hk _ _ _ (h4 e)⟩
theorem b65{t:Nat}{b:Bool}(hf:L3 M w n E a)(ht:(ae[j]?).bind (·.dst)=some t)(hv:E.ok t)(hb:E.f t= .val (.bool b)):yielded ae a.tmps j=some b:=by
 have h1:=hf.rv t hv;rw[hb]at h1;have h2:a.tmps.getD t undef= .bool b:=by generalize a.tmps.getD t undef=u at h1;cases h1;rfl
 have aJ:t<a.tmps.size:=by
  rcases a2J t a.tmps.size with h'|h'
  .exact h'
  .simp [b0X h',undef]at h2
 rw[a0U,a1J aJ]at h2;unfold yielded;rw[ht,n_9,a1J aJ,show a.tmps[t]= .bool b from h2]
theorem b6H{t:Nat}(hf:L3 M w n E a)(ht:(ae[j]?).bind (·.dst)=some t)(hu:E.un t):yielded ae a.tmps j=none:=by
 have h3:=hf.un t hu;unfold yielded;rw[ht,n_9]
 rcases a2J t a.tmps.size with h'|h'
 .rw [a0U,a1J h']at h3;rw[a1J h',show a.tmps[t]=undef from h3];rfl
 .rw [b0X h']
theorem d5y{R:V7->List b9->Prop}(h:H4 C σ E o R)(hr:Rel C M σ w)(hf:L3 M w n E a){K:Act->World->Prop}{Jk:Exit->Act->World->Prop}(hk:∀c v w' M' aa,Ext M w M' w'->Rel C M' aa w'->RV M' w' c v->R (.ret c) aa->K (a.put o.dst v) w')
 (hp:∀c v w' M' aa,Ext M w M' w'->Rel C M' aa w'->RV M' w' c v->R (.pan c) aa->Jk (.panic [{v,recovered:=false}]) a w'):o.wp C.P a w K Jk:=
 a4g (h M w a.eval hr λ_ _ hx=>hf.eval hr hx) (λv w' ⟨c,aa,M',h1,h2,h3,h4⟩=>hk c v w' M' aa h1 h2 h3 h4) λ_ w' ⟨c,v,aa,M',h0,h1,h2,h3,h4⟩=>h0▸hp c v w' M' aa h1 h2 h3 h4
theorem e2b{K1:CV->Prop->List b9->Prop}{Kp:CV->List b9->Prop}(h:(∃c g,M9 C σ ae o E c g/\K1 c g σ)\/c0Y C ae o E σ K1 Kp)(hr:Rel C M σ w)(hf:L3 M w n E a)(hd:∀t,o.dst=some t->t<n){K:Act->World->Prop}{Jk:Exit->Act->World->Prop}(hk:∀c g v w' M' aa,Ext M w M' w'->Rel C M' aa w'->L3 M' w' n (E.put o.dst c g) (a.put o.dst v)->K1 c g aa->K (a.put o.dst v) w')
 (hp:∀c v w' M' aa,Ext M w M' w'->Rel C M' aa w'->RV M' w' c v->Kp c aa->Jk (.panic [{v,recovered:=false}]) a w'):if Region.wanted o (yielded ae a.tmps)=true then o.wp C.P a w K Jk\/(o.asks C.P a w/\LetsOut Jk)else K (a.put o.dst undef) w:=by
 have run:∀{g:Prop},g->(H4 C σ E o λr aa=>match r with| .ret c=>K1 c g aa| .pan c=>Kp c aa)->o.wp C.P a w K Jk:=λhg hd1=>d5y hd1 hr hf (λc v w' M' aa h1 h2 h3 h4=>hk c _ v w' M' aa h1 h2 ((hf.mono h1).put hd (λ_=>h3) λhh=>absurd hg hh) h4) hp;have quiet:∀{c:CV} {g:Prop},g->m0 C σ E o c->K1 c g σ->o.wp C.P a w K Jk:=λhg hy bw=>run hg (hy.mono λr aa hh=>by obtain⟨rfl,rfl⟩:=hh;exact bw);have skip:∀{c:CV} {g:Prop},¬g->K1 c g σ->K (a.put o.dst undef) w:=λhg bw=>hk _ _ _ w M σ (Ext.refl M w) hr (hf.put hd (λhh=>absurd hh hg) λ_=>J) bw;have gw:∀{j t:Nat} {au b:Bool},o.guard=some (j,au)->(ae[j]?).bind (·.dst)=some t->E.ok t->E.f t= .val (.bool b)->Region.wanted o (yielded ae a.tmps)=(b == au):=λ{j t au b} hg ht hv hb=>by
  simp only[Region.wanted,hg,b65 hf ht hv hb];cases b<;>cases au<;>rfl
 rcases h with⟨c,g,⟨hg,hgp,hy⟩|⟨j,t,au,b,hg,ht,bo,hb,hgb,hy⟩,bw⟩|⟨hg,h1⟩|⟨j,t,au,b,c0,hg,ht,hv,hb,h1,h2⟩
 .rw [F (by simp[Region.wanted,hg])];exact .inl (quiet hgp hy bw)
 .by_cases hZ:E.ok t
  .rw [gw hg ht hZ hb];by_cases cS:b=au
   .rw [F (I cS)];exact .inl (quiet (hgb.2 ⟨hZ,cS⟩) (hy hZ cS) bw)
   .rw [D (I cS)];exact skip (λhh=>cS (hgb.1 hh).2) bw
  .rw [D (by simp[Region.wanted,hg,b6H hf ht (bo hZ)])];exact skip (λhh=>hZ (hgb.1 hh).1) bw
 .rw [F (by simp[Region.wanted,hg])];exact .inl (run trivial h1)
 .rw [gw hg ht hv hb];by_cases cS:b=au
  .rw [F (I cS)];exact .inl (run cS (h1 cS))
  .rw [D (I cS)];exact skip cS (h2 cS)
def CA(C:Ctx)(ae:Array Oper)(Jk:D3->Env->List b9->Prop)(Lf:Array Bool)(B:Env->List b9->Prop)(T:Nat->List b9->Prop):Nat->Array Bool->Env->List b9->Prop
 |0,L,E,σ=>L=Lf/\B E σ
 |f+1,L,E,σ=>Region.ready .any ae L≠[]/\∀i∈Region.ready .any ae L,∃o,ae[i]?=some o /\
  ((∃c g,M9 C σ ae o E c g/\CA C ae Jk Lf B T f (L.setIfInBounds i true) (E.put o.dst c g) σ)\/c0Y C ae o E σ (λc g aa=>T i aa/\CA C ae Jk Lf B T f (L.setIfInBounds i true) (E.put o.dst c g) aa) λc aa=>∀E',Jk (.pan c) E' aa)
variable{Lf:Array Bool}{B:Env->List b9->Prop}{T T':Nat->List b9->Prop}
theorem a6d(h:∀j σ,T j σ->T' j σ):∀{f:Nat} {L:Array Bool} {E:Env} {σ:List b9},CA C ae Jk Lf B T f L E σ->CA C ae Jk Lf B T' f L E σ
 |0,_,_,_,hc=>hc
 |f+1,_,_,_,⟨h0,hc⟩=>⟨h0,λi hi=>by
  obtain⟨o,ho,hc⟩:=hc i hi;exact⟨o,ho,hc.imp (λ⟨c,g,h1,h2⟩=>⟨c,g,h1,a6d h h2⟩) (a3D (λ_ _=>⟨J,J,J⟩) λ_ _ _ hh=>⟨h _ _ hh.1,a6d h hh.2⟩)⟩⟩
theorem b6I{M0:B2}{w0:World}{f0:Nat}(hd:∀(i:Nat) (o:Oper),ae[i]?=some o->∀t,o.dst=some t->t<n)(hB:∀E σ M w a,B E σ->Ext M0 w0 M w->Rel C M σ w->L3 M w n E a->wpAny C.P .any ae (Y1 C n Jk M0 w0) f0 Lf a w):∀{f:Nat} {L:Array Bool} {E:Env} {σ:List b9} {M:B2} {w:World} {a:Act},CA C ae Jk Lf B T f L E σ->Ext M0 w0 M w->Rel C M σ w->L3 M w n E a->wpAny C.P .any ae (Y1 C n Jk M0 w0) (f0+f) L a w
 |0,_,E,σ,M,w,a,⟨h1,h2⟩,hx,hr,hf=>by subst h1;exact hB E σ M w a h2 hx hr hf
 |f+1,L,E,σ,M,w,a,⟨h0,hc⟩,hx,hr,hf=>⟨λh=>absurd h h0,λi hi=>by
  obtain⟨o,ho,hc⟩:=hc i hi;unfold wpOp;simp only[ho];refine e2b (K1:=λc g aa=>CA C ae Jk Lf B T f (L.setIfInBounds i true) (E.put o.dst c g) aa) (Kp:=λc aa=>∀E',Jk (.pan c) E' aa) ?_ hr hf (hd i o ho) (λc g v w' M' aa h1 h2 h3 h4=>b6I hd hB h4 (hx.trans h1) h2 h3) (λc v w' M' aa h1 h2 h3 h4=>⟨E,aa,M',hx.trans h1,h2,hf.mono h1,c,v,J,h3,h4 E⟩);exact hc.imp id (a3D (λ_ _=>⟨J,J,J⟩) λ_ _ _ hh=>hh.2)⟩
theorem d6c{L:Array Bool}(h:L.getD k false=true):k<L.size/\L.getD k true=true:=by
 rcases a2J k L.size with h'|h'
 .exact ⟨h',by simpa[h']using h⟩
 .simp [b0X h']at h
theorem d1S{oi:Oper}(Jf:Nat->Bool)(Jh:List b9->Prop)(hoi:ae[i]?=some oi)(hD:∀j o,ae[j]?=some o->Jf j=true->∃e∈o.after,b7d e=true/\(e.on=i\/Jf e.on=true))(hLf:∀j o,ae[j]?=some o->j≠i->Jf j=false->Lf.getD j true=true):
 ∀{f:Nat} {L:Array Bool} {E:Env} {σ:List b9},(∀j,j<L.size->Jf j=true->L.getD j true=false)->(∀j o,ae[j]?=some o->j≠i->Jf j=false->L.getD j true=false->oi.apart ae o=true)->i∈Region.ready .any ae L->(∀aa,Jh aa->M9 C aa ae oi E c g)->M9 C σ ae oi E c g ->
  CA C ae Jk Lf B (λj aa=>T j aa/\(Jf j=false->Jh aa)) f (L.setIfInBounds i true) (E.put oi.dst c g) σ->CA C ae Jk Lf B T (f+1) L E σ:=by
 have noD:∀{L:Array Bool} {j:Nat},(∀j,j<L.size->Jf j=true->L.getD j true=false)->i∈Region.ready .any ae L->j∈Region.ready .any ae L->Jf j=false:=λ{L j} hDL hi hj=>by
  cases hDj:Jf j with
  |false=>rfl
  |true=>
   obtain⟨_,o,ho,bv⟩:=mem_ready.1 hj;obtain⟨e,he,hb,hh⟩:=hD j o ho hDj;obtain⟨h1,h2⟩:=d6c (bv e he hb)
   rcases hh with hh|hh
   .rw [hh,(mem_ready.1 hi).1]at h2;cases h2
   .rw [hDL _ h1 hh]at h2;cases h2
 have own:∀{f:Nat} {L:Array Bool} {E:Env} {σ:List b9},M9 C σ ae oi E c g->CA C ae Jk Lf B (λj aa=>T j aa/\(Jf j=false->Jh aa)) f (L.setIfInBounds i true) (E.put oi.dst c g) σ->∃o,ae[i]?=some o /\
  ((∃c g,M9 C σ ae o E c g/\CA C ae Jk Lf B T f (L.setIfInBounds i true) (E.put o.dst c g) σ)\/c0Y C ae o E σ (λc g aa=>T i aa/\CA C ae Jk Lf B T f (L.setIfInBounds i true) (E.put o.dst c g) aa) λc aa=>∀E',Jk (.pan c) E' aa):=λh1 h2=>⟨oi,hoi,.inl ⟨c,g,h1,a6d (λ_ _ h=>h.1) h2⟩⟩
 intro f
 induction f with
 |zero=>
  intro L E σ hDL hap hi hF bn hc;refine⟨λh=>(by rw[h]at hi;cases hi),λj hj=>?_⟩;by_cases eI:j=i
  .subst eI;exact own bn hc
  .exfalso;obtain⟨h1,o,ho,_⟩:=mem_ready.1 hj;have h2:=hLf j o ho eI (noD hDL hi hj);rw[<- hc.1,getD_set_ne true (Ne.symm eI),h1]at h2;cases h2
 |succ f ih=>
  intro L E σ hDL hap hi hF bn hc;refine⟨λh=>(by rw[h]at hi;cases hi),λj hj=>?_⟩;by_cases eI:j=i
  .subst eI;exact own bn hc
  .have hDj:=noD hDL hi hj;obtain⟨o,ho,hcj⟩:=hc.2 j (ready_mono hj eI);obtain⟨a1,a2,a3⟩:=Oper.apart_spec (hap j o ho eI hDj (mem_ready.1 hj).1);have gZ:∀t∈o.looksAt ae,(E.put oi.dst c g).agree t E:=λt ht=>(b41 λe=>a1 t e ht).symm;have next:∀(c':CV) (g':Prop) (aa:List b9),M9 C aa ae oi E c g->CA C ae Jk Lf B (λj aa=>T j aa/\(Jf j=false->Jh aa)) f ((L.setIfInBounds i true).setIfInBounds j true) ((E.put oi.dst c g).put o.dst c' g') aa->CA C ae Jk Lf B T (f+1) (L.setIfInBounds j true) (E.put o.dst c' g') aa:=λc' g' aa h1 h2=>by
    have fw:∀t∈oi.looksAt ae,E.agree t (E.put o.dst c' g'):=λt ht=>b41 λe=>a3 t e ht;refine ih (λk hk hDk=>?_) (λk ok hk hki hDk hun=>hap k ok hk hki hDk ?_) (ready_mono hi (Ne.symm eI)) (λaa h=>a7b fw (hF aa h)) (a7b fw h1) ?_
    .have hjk:j≠k:=λe=>by rw[e,hDk]at hDj;cases hDj
     rw[getD_set_ne true hjk];exact hDL k (I hk) hDk
    .by_cases hjk:j=k
     .subst hjk;exact(mem_ready.1 hj).1
     .rw [getD_set_ne true hjk]at hun;exact hun
    .rw [Array.setIfInBounds_comm _ _ eI,<- d1I λt e=>a2 t e];exact h2
   refine⟨o,ho,hcj.imp (λ⟨c',g',h1,h2⟩=>⟨c',g',a7b gZ h1,next c' g' σ bn h2⟩) (a3D gZ λc' g' aa hh=>⟨hh.1.1,next c' g' aa (hF aa (hh.1.2 hDj)) hh.2⟩)⟩
def a1C(L:Array Bool)(l:List Nat):Array Bool:=l.foldl (λL i=>L.setIfInBounds i true) L
def b5Y(ae:Array Oper)(ms:List Nat)(Lf L:Array Bool)(i:Nat):Bool:=(Region.ready .any ae L).contains i&& (List.range L.size).all (λj=>!(ms.getD j 0).testBit i || !(L.getD j true))&& (List.range ae.size).all λj=>match ae[j]? with
 |none=>true
 |some o=>match(ms.getD j 0).testBit i with
  |true=>o.after.toList.any λe=>b7d e&& (Nat.beq e.on i ||(ms.getD e.on 0).testBit i)
  |false=>Nat.beq j i ||(Lf.getD j true&& (L.getD j true ||match ae[i]? with
   |some oi=>oi.apart ae o
   |none=>true))
theorem d0w{ms:List Nat}{L:Array Bool}{f:Nat}{oi:Oper}(Jh:List b9->Prop)(hB:b5Y ae ms Lf L i=true)(hoi:ae[i]?=some oi)(hF:∀aa,Jh aa->M9 C aa ae oi E c g)(bn:M9 C σ ae oi E c g)(h:CA C ae Jk Lf B (λj aa=>T j aa/\((ms.getD j 0).testBit i=false->Jh aa)) f (L.setIfInBounds i true) (E.put oi.dst c g) σ):CA C ae Jk Lf B T (f+1) L E σ:=by
 simp only[b5Y,T7,a40,List.mem_range]at hB;obtain⟨⟨h1,h2⟩,h3⟩:=hB;have h4:∀j o,ae[j]?=some o->_:=λj o ho=>by
  have:=h3 j (a1Z.1 ho).1;rw[ho]at this;exact this
 refine d1S (λj=>(ms.getD j 0).testBit i) Jh hoi (λj o ho (hD:(ms.getD j 0).testBit i=true)=>?_) (λj o ho eI (hD:(ms.getD j 0).testBit i=false)=>?_) (λj hj (hD:(ms.getD j 0).testBit i=true)=>?_) (λj o ho eI (hD:(ms.getD j 0).testBit i=false) hun=>?_) (I h1) hF bn h
 .have:=h4 j o ho;simp only[hD]at this;obtain⟨e,he,hh⟩:=List.any_eq_true.1 this;simp only[T7,a8Z]at hh;exact⟨e,I he,hh.1,hh.2.imp a4A id⟩
 .have:=h4 j o ho;simp only[hD,T7,a8Z]at this
  rcases this with h|h
  .exact absurd (a4A h) eI
  .exact h.1
 .have:=h2 j hj;rw[hD]at this;simpa using this
 .have:=h4 j o ho;simp only[hD,hoi,T7,a8Z]at this
  rcases this with h|⟨_,h|h⟩
  .exact absurd (a4A h) eI
  .rw [hun]at h;cases h
  .exact h
def a3k(C:Ctx)(σ:List b9)(ae:Array Oper)(K:Env->List (List b9->Prop)->Prop):List Nat->Env->List (List b9->Prop)->Prop
 | [],E,S=>K E S
 |i::l,E,S=>∃o c g,ae[i]?=some o/\M9 C σ ae o E c g/\a3k C σ ae K l (E.put o.dst c g) (S++[λaa=>M9 C aa ae o E c g])
def a9v(ae:Array Oper)(ms:List Nat)(Lf:Array Bool):List Nat->Array Bool->Bool
 | [],_=>true
 |i::l,L=>b5Y ae ms Lf L i&&a9v ae ms Lf l (L.setIfInBounds i true)
def TF(ms:List Nat):List Nat->List (List b9->Prop)->Nat->List b9->Prop
 |i::l,Jh::S,j,σ=>((ms.getD j 0).testBit i=false->Jh σ)/\TF ms l S j σ
 |_,_,_,_=>True
theorem a8H{ms:List Nat}{K:Env->List (List b9->Prop)->Prop}{f:Nat}:∀{l:List Nat} {L:Array Bool} {E:Env} {S:List (List b9->Prop)} {T:Nat->List b9->Prop},a9v ae ms Lf l L=true->a3k C σ ae K l E S->(∀E' S',K E' (S++S')->CA C ae Jk Lf B (λj aa=>T j aa/\TF ms l S' j aa) f (a1C L l) E' σ)->CA C ae Jk Lf B T (f+l.length) L E σ
 | [],L,E,S,T,_,h,k=>a6d (λ_ _ h=>h.1) (k E [] (by rw[a0z];exact h))
 |i::l,L,E,S,T,hB,⟨o,c,g,ho,bn,h⟩,k=>by
  rw[a9v,T7]at hB;refine d0w (λaa=>M9 C aa ae o E c g) hB.1 ho (λ_ h=>h) bn (a8H hB.2 h λE' S' hk=>a6d (λj aa hh=>?_) (k E' ((λaa=>M9 C aa ae o E c g)::S') (by rw[C7]at hk;exact hk)));exact⟨⟨hh.1,hh.2.1⟩,hh.2.2⟩
theorem c4k{K:Env->Prop}:∀(l:List Oper) (k:Nat) (E:Env) (S:List (List b9->Prop)),(∀i,i<l.length->l[i]?=ae[k+i]?)->a2S C σ ae K l E->a3k C σ ae (λE' _=>K E') (List.range' k l.length) E S
 | [],_,_,_,_,h=>h
 |o::l,k,E,S,hl,⟨c,g,h1,h2⟩=>⟨o,c,g,(hl 0 (Nat.zero_lt_succ _)).symm,h1,c4k l (k+1) _ _ (λi hi=>by
  have:=hl (i+1) (Nat.succ_lt_succ hi);rw[show k+1+i=k+(i+1) by omega];simpa using this) h2⟩
def d4w(ae:Array Oper):List Nat->Array Bool->Bool
 | [],L=>(Region.ready .any ae L).isEmpty
 |i::l,L=>(match Region.ready .any ae L with
  | [j]=>Nat.beq j i
  |_=>false)&&d4w ae l (L.setIfInBounds i true)
theorem a11{L:Array Bool}{i:Nat}(h:(match Region.ready .any ae L with
 | [j]=>Nat.beq j i
 |_=>false)=true):Region.ready .any ae L=[i]:=by
 split at h
 .rename_i j hj;rw[hj,a4A h]
 .cases h
theorem b7E{Jk:Exit->Act->World->Prop}:∀(l:List Oper) (k:Nat) (L:Array Bool) (a:Act) (w:World),(∀i,i<l.length->l[i]?=ae[k+i]?)->d4w ae (List.range' k l.length) L=true->wpList C.P ae Jk l a w->wpAny C.P .any ae Jk l.length L a w
 | [],_,L,a,w,_,hB,h=>⟨b7v.1 hB,h⟩
 |o::l,k,L,a,w,hl,hB,h=>by
  rw[C5,List.range'_succ,d4w,T7]at hB;have h1:=a11 hB.1;have ho:ae[k]?=some o:=(hl 0 (Nat.zero_lt_succ _)).symm;have hK:∀a w,wpList C.P ae Jk l a w->wpAny C.P .any ae Jk l.length (L.setIfInBounds k true) a w:=λa w h=>b7E l (k+1) _ a w (λi hi=>by
   have:=hl (i+1) (Nat.succ_lt_succ hi);rw[show k+1+i=k+(i+1) by omega];simpa using this) hB.2 h
  refine⟨λh0=>(by rw[h1]at h0;cases h0),λi hi=>?_⟩;rw[h1,b0s]at hi;subst hi;unfold wpList at h;unfold wpOp;simp only[ho]
  split
  .rename_i hw;rw[F hw]at h;exact h.imp (Oper.wp_mono hK) id
  .rename_i hw;rw[D hw]at h;exact hK _ _ h
theorem Rel.drew(hr:Rel C M σ w):Rel C M σ {w with drawn:=w.drawn+1}/\Ext M w M {w with drawn:=w.drawn+1}:=by
 have hx:Ext M w M {w with drawn:=w.drawn+1}:=⟨⟨[],H⟩,λ_ h=>h,λ_ _ h=>.inr h,λ_ _=>J,λ_ _ _=>J,n_7 _,U0,J,J,J,λ_ h=>⟨h,J,id,λ_=>id⟩⟩;refine⟨⟨hr.len,hr.blk,λk p ob hk hs=>⟨(hr.obj k p ob hk hs).1.mono hx J (λ_ _ _ _ h=>h),(hr.obj k p ob hk hs).2⟩,hr.inj,λg cells hg=>(hr.glob g cells hg).mono hx,hr.kep,hr.nk⟩,hx⟩
theorem b6y(hd:(ae.toList.all λo=>match o.dst with|some d=>Nat.blt d n|none=>true)=true)(i:Nat)(o:Oper)(ho:ae[i]?=some o)(t:Nat)(ht:o.dst=some t):t<n:=by
 rw[a40]at hd;have:=hd o (by simpa using b8o ho);rw[ht]at this;simpa[b3L]using this
def L0(ae:Array Oper):Array Bool:=Array.replicate ae.size false
def c3W(ae:Array Oper)(nh:Nat)(ms:List Nat):Bool:=Nat.ble nh ae.size &&a9v ae ms (a1C (L0 ae) (List.range' 0 nh)) (List.range' 0 nh) (L0 ae)&&d4w ae (List.range' nh (ae.size -nh)) (a1C (L0 ae) (List.range' 0 nh))
theorem c9k(nh:Nat)(ms:List Nat)(hB:c3W ae nh ms=true)(hd:(ae.toList.all λo=>match o.dst with|some d=>Nat.blt d n|none=>true)=true)
 (h:a2S C σ ae (λE'=>K4 C n ae Jk (ae.toList.drop nh) E' σ) (ae.toList.take nh) E)(hr:Rel C M σ w)(hf:L3 M w n E a):wpAny C.P .any ae (Y1 C n Jk M w) ae.size (L0 ae) a {w with drawn:=w.drawn+1}:=by
 simp only[c3W,T7]at hB;obtain⟨⟨h1,h2⟩,h3⟩:=hB;have hnh:=nb h1;obtain⟨bp,hx⟩:=hr.drew;have ab:(ae.toList.take nh).length=nh:=by simp;omega
 have hld:(ae.toList.drop nh).length=ae.size -nh:=by simp
 have hc:=c4k (S:=[]) _ 0 E (λi hi=>by rw[a2y,F X,K0,Array.getElem?_toList]) h;rw[ab]at hc;have:=b6I (f0:=ae.size -nh) (b6y hd) (λE σ M1 w1 a1 hB bd aG dF=>by
  rw[<- hld]at h3⊢;exact b7E _ nh _ a1 w1 (λi hi=>by rw[a5z,Array.getElem?_toList]) h3 (hB.later bd aG dF)) (a8H (T:=λ_ _=>True) (f:=0) (B:=λE' aa=>K4 C n ae Jk (ae.toList.drop nh) E' aa) h2 hc λE' S' hk=>⟨J,hk⟩) hx bp (hf.mono hx)
 rw[K0,List.length_range',show ae.size -nh+nh=ae.size by omega]at this;exact this
theorem d5r{id:Nat}(nh:Nat)(ms:List Nat)(hm:C.P.follows .mixedOrders=true)(hB:c3W ae nh ms=true)(hd:(ae.toList.all λo=>match o.dst with|some d=>Nat.blt d n|none=>true)=true)
 (h:a2S C σ ae (λE'=>K4 C n ae Jk (ae.toList.drop nh) E' σ) (ae.toList.take nh) E):CWp C n (.region id ae true) Jk E σ:=λM w a hr hf=>wp_region_any hm (c9k nh ms hB hd h hr hf)
end
def Env.valids(E:Env):List Operand->Prop
 | []=>True
 |x::l=>E.valid x/\E.valids l
def Env.vals(C:Ctx)(E:Env):List Operand->List CV
 | []=>[]
 |x::l=>E.val C x::E.vals C l
theorem Env.valids_mem:∀{l:List Operand},E.valids l->∀x∈l,E.valid x
 | [],_,x,h=>by simp at h
 |y::l,⟨h1,h2⟩,x,h=>by
  rcases J0.1 h with rfl|h
  .exact h1
  .exact Env.valids_mem h2 x h
theorem Env.vals_map:∀(l:List Operand),l.map (E.val C)=E.vals C l
 | []=>rfl
 |x::l=>by simp[Env.vals,Env.vals_map l]
section
theorem e0x(ho:o.op = .call {callee:=.value (.func f),args:=xs,argTypes:=ts})(aB:∀args w,(callFunc f args).run C.P w= .ok (.enter f args) w)
 (hv:E.valids xs.toList)(ea:E.vals C xs.toList=ax)(h:b8 C f ax σ λr aa=>r= .ret c/\aa=σ):m0 C σ E o c:=
 b7c ho aB (Env.valids_mem hv) ((Env.vals_map _).trans ea) h
def d8K(C:Ctx)(E:Env)(σ:List b9):ResultVar->CV->Prop
 | .tmp t,c=>E.ok t/\E.f t=c
 | .cell a t,c=>E.ok a/\∃k off cells,E.f a= .ptr k off/\σ[k]?=some (.box cells) /\
  (((∀w,(isAgg t).run C.P w= .ok false w)/\cells[off]?=some c)\/(∃s,(∀w,(isAgg t).run C.P w= .ok true w)/\(∀w,(sizeOf t).run C.P w= .ok s w)/\off+s<=cells.length/\c= .agg ((cells.drop off).take s)))
def c1i(C:Ctx)(E:Env)(σ:List b9):List ResultVar->List CV->Prop
 | [],[]=>True
 |r::rs,c::cs=>d8K C E σ r c/\c1i C E σ rs cs
 |_,_=>False
theorem b6R(hr:Rel C M σ w){u:Value}(hu:RV M w (.ptr k off) u)(hk:σ[k]?=some (.box cells))
 (h:((∀w,(isAgg t).run C.P w= .ok false w)/\cells[off]?=some c)\/(∃s,(∀w,(isAgg t).run C.P w= .ok true w)/\(∀w,(sizeOf t).run C.P w= .ok s w)/\off+s<=cells.length/\c= .agg ((cells.drop off).take s))):
 ∃a v,u= .pointer (some a)/\(loadVar t a).run C.P w= .ok v w/\RV M w c v:=by
 cases hu with
 |ptr hp=>
  rename_i p
  rcases h with⟨ha,hc⟩|⟨s,ha,hs,hl,rfl⟩
  .obtain ⟨v,hv,bh,_⟩:=b87 hr hp hk hc;exact⟨_,v,J,by simp[loadVar,ha,hv],bh⟩
  .obtain ⟨arr,ty,h1,h2,h3,h4⟩:=(hr.obj k p _ hp hk).1;have aN:∀j,j<s->w.cell? ⟨p.block,off+j,none⟩=some (arr.getD (off+j) undef):=λj hj=>by
    have:off+j<arr.size:=by omega
    simp[World.cell?,h1,this]
   refine⟨_,.agg ((List.range s).map λj=>arr.getD (off+j) undef).toArray,J,by simp[loadVar,ha,hs,T5 (P:=C.P) (w:=w) _ s aN],.agg K5 (λc hc=>h3 c (b2T (b0C hc))) (λi c hi=>?_)⟩;have aZ:i<s:=by
    have:=(n_3.1 hi).1;simp at this;omega
   rw[a2y,F aZ,a5z]at hi;have:=h4 (off+i) c hi;simpa[aZ]using this
def a5m(tmps:Array Value):ResultVar->Sem Value:=λ
 | .tmp t=>pure (tmps.getD t undef)
 | .cell a t=>do loadVar t (<- asAddr (tmps.getD a undef))
theorem b6v{M:B2}{w:World}(hr:Rel C M σ w){tmps:Array Value}(h:∀t,E.ok t->RV M w (E.f t) (tmps.getD t undef)):∀(rs:List ResultVar) (cs:List CV),c1i C E σ rs cs ->
 ∃vs:List Value,(rs.mapM (a5m tmps)).run C.P w= .ok vs w/\vs.length=cs.length/\∀(i:Nat) (c:CV),cs[i]?=some c->RV M w c (vs.getD i undef)
 | [],[],_=>⟨[],H,J,H⟩
 |r::rs,c::cs,⟨h1,h2⟩=>by
  obtain⟨vs,hv,hl,bh⟩:=b6v hr h rs cs h2;have:∃v,(a5m tmps r).run C.P w= .ok v w/\RV M w c v:=by
   cases r with
   |tmp t=>
    obtain⟨ho,hc⟩:=h1;exact⟨_,by simp[a5m],hc▸h t ho⟩
   |cell a t=>
    obtain⟨ho,k,off,cells,he,hk,hc⟩:=h1;have hu:=h a ho;rw[he]at hu;obtain⟨ad,v,e1,e2,e3⟩:=b6R hr hu hk hc;exact⟨v,by simp only[a5m,e1,asAddr,Sem.run_bind,Sem.run_pure,Result.andThen_ok,e2],e3⟩
  obtain⟨v,eu,cE⟩:=this;refine⟨v::vs,by simp[List.mapM_cons,eu,hv],by simp[hl],λi c' hi=>?_⟩
  rcases i with _|i
  .simp at hi;subst hi;exact cE
  .exact bh i c' (I hi)
 | [],_::_,h=>h.elim
 |_::_,[],h=>h.elim
theorem r3{fn:Func}{rs:List ResultVar}(bi:fn.results=rs.toArray)(h:c1i C E σ rs cs)(hn:cs.length≠1):a0N C E σ fn (.tup cs):=λM w a hr hh=>by
 obtain⟨vs,h1,h2,h3⟩:=b6v (C:=C) hr hh rs cs h;refine⟨.tuple vs.toArray,?_,.tup (by simp[h2]) (λi c hi=>by simpa using h3 i c hi)⟩;have:(results fn a.tmps).run C.P w=((rs.toArray.mapM (a5m a.tmps)).run C.P w).andThen λvs w=>.ok (if h:vs.size=1 then vs[0]else .tuple vs) w:=by
  unfold results;rw[bi,Sem.run_bind];rfl
 rw[this,List.mapM_toArray,Sem.run_map,h1];simp only[Result.andThen_ok];rw[dif_neg K5]
theorem F2{fn:Func}{r:ResultVar}(bi:fn.results = #[r])(h:d8K C E σ r c):a0N C E σ fn c:=λM w a hr hh=>by
 obtain⟨vs,h1,h2,h3⟩:=b6v (C:=C) hr hh [r] [c] ⟨h,O⟩;obtain⟨v,rfl⟩:∃v,vs=[v]:=by
  match vs,h2 with
  | [v],_=>exact⟨v,J⟩
 refine⟨v,?_,by simpa using h3 0 c J⟩;have:(results fn a.tmps).run C.P w=((#[r].mapM (a5m a.tmps)).run C.P w).andThen λvs w=>.ok (if h:vs.size=1 then vs[0]else .tuple vs) w:=by
  unfold results;rw[bi,Sem.run_bind];rfl
 have e:(#[r].mapM (a5m a.tmps))=([r].toArray.mapM (a5m a.tmps)):=J;rw[this,e,List.mapM_toArray,Sem.run_map,h1];simp
def B2.settle(M:B2)(b:Nat):B2:={M with full:=λx=>M.full x\/x=b}
theorem Rel.allocFull(hr:Rel C M σ w)(ob:Obj):Ext M w (M.settle w.heap.size) (w.alloc ob)/\Rel C (M.settle w.heap.size) σ (w.alloc ob):=by
 have hx:Ext M w (M.settle w.heap.size) (w.alloc ob):=⟨⟨[],by simp[B2.settle]⟩,λ_ h=>.inl h,λ_ _ h=>.inr h,λb h=>L2 w ob (hr.blk b 0 (.inl h)),λb o' h=>O2 (L2 w ob (hr.blk b o' (.inr h))),by rw[b5M];omega,U0,J,J,J,λb h=>⟨h,L2 w ob (hr.kep b h),λf=>(by
  rcases f with f|f
  .exact f
  .have:=hr.kep b h;omega),λ_ f=>f⟩⟩
 refine⟨hx,hr.len,λb o' ha=>?_,λk p x hk hs=>?_,hr.inj,λg cells hg=>(hr.glob g cells hg).mono hx,λb h=>(by rw[b5M];have:=hr.kep b h;omega),hr.nk⟩
 .rw [b5M]
  rcases ha with(ha|ha)|ha
  .have:=hr.blk b o' (.inl ha);omega
  .omega
  .have:=hr.blk b o' (.inr ha);omega
 .obtain ⟨h1,h2⟩:=hr.obj k p x hk hs;by_cases hl:x.live=true
  .have ab:=h1.lt hl;refine⟨h1.mono hx (L2 w ob ab) (λ_ _ _ _ h=>h),?_⟩;have hf:¬M.full p.block->¬(M.settle w.heap.size).full p.block:=λh h'=>by
    rcases h' with h'|h'
    .exact h h'
    .omega
   cases x<;>first|trivial|exact hf h2|exact⟨hf h2.1,h2.2⟩
  .cases x<;>first|exact⟨O,O⟩|simp[b9.live]at hl
def a5v(place:Nat->Option (Nat×Nat))(cells:List CV):List (Nat×CV)->Option (List CV)
 | []=>some cells
 |(i,c)::rest=>
  match place i with
  |none=>none
  |some (off,size)=>if c.cells.length=size/\off+size<=cells.length then a5v place (Q4 cells off c.cells) rest else none
theorem a80{M:B2}{w:World}{place:Nat->Option (Nat×Nat)}:∀(ps:List (Nat×CV)) (qs:List (Nat×Value)) (cells:List CV) (arr:Array Value) (aw:List CV),
 a5v place cells ps=some aw->ps.map (·.1)=qs.map (·.1)->(∀(i:Nat) (x:Nat×CV) (y:Nat×Value),ps[i]?=some x->qs[i]?=some y->RV M w x.2 y.2/\(x.2.one=true\/∃cs,x.2 = .agg cs)) ->
 arr.size=cells.length->(∀c∈cells,c.one=true)->(∀(i:Nat) (c:CV),cells[i]?=some c->RV M w c (arr.getD i undef)) ->
 ∃r,Instr.fill place arr qs=some r/\RV M w (.agg aw) (.agg r)
 | [],[],cells,arr,aw,h,_,_,h2,h3,h4=>by
  simp only[a5v,Option.some.injEq]at h;subst h;exact⟨arr,J,.agg h2 h3 h4⟩
 | [],q::qs,_,_,_,_,h,_,_,_,_=>by simp at h
 |p::ps,[],_,_,_,_,h,_,_,_,_=>by simp at h
 |(i,c)::ps,(i',v)::qs,cells,arr,aw,h,hm,bh,h2,h3,h4=>by
  simp only[b0t,List.cons.injEq]at hm;obtain⟨rfl,hm⟩:=hm;simp only[a5v]at h;cases hp:place i with
  |none=>rw[hp]at h;cases h
  |some x=>
   obtain⟨off,size⟩:=x;rw[hp]at h;simp only at h;split at h
   .rename_i hc;obtain⟨bW,cr⟩:=hc;obtain⟨hv,aQ⟩:=bh 0 (i,c) (i,v) J J;obtain⟨g1,g2,g3⟩:=hv.cells aQ;have g1:v.cells.size=c.cells.length:=g1;have aJ:off+c.cells.length<=cells.length:=by omega
    have hG:(v.cells.zipIdx.foldl (λcs (x:Value×Nat)=>cs.setIfInBounds (off+x.2) x.1) arr)=E8 arr off v.cells.toList:=by
     rw[<- Array.foldl_toList,Array.toList_zipIdx,a5c];rfl
    have ih:=a80 ps qs (Q4 cells off c.cells) (E8 arr off v.cells.toList) aw h hm (λj x y hx hy=>bh (j+1) x y (I hx) (I hy)) (by rw[J1,a0P aJ,h2])
     (λc' bJ=>by
      rcases a23 bJ with h'|h'
      .exact g2 _ h'
      .exact h3 _ h')
     (λj c' hj=>by
      rw[N5 _ _ _ _ K5];rw[a26 aJ]at hj;simp only[b0T,g1];split at hj
      .rename_i bF;rw[F bF];have:=g3 _ _ hj;simpa using this
      .rename_i bF;rw[D bF];exact h4 _ _ hj)
    obtain⟨r,aG,aX⟩:=ih;refine⟨r,?_,aX⟩;simp only[Instr.fill,hp];rw[D K5];exact(n_8 (λz=>Instr.fill place z qs) hG).trans aG
   .cases h
theorem a5k{α:Type}{s:Nat}:∀(Y:List (List α)),(∀r∈Y,r.length=s)->∀(i j:Nat) (r:List α) (c:α),Y[i]?=some r->r[j]?=some c->Y.flatten[i*s+j]?=some c
 | [],_,i,j,r,c,h,_=>by simp at h
 |r0::Y,hs,i,j,r,c,hi,hj=>by
  have h0:=hs r0 H;rw[List.flatten_cons,a7p]
  rcases i with _|i
  .simp at hi;subst hi;have:=(n_3.1 hj).1;rw[F X];simpa using hj
  .simp at hi;have hr:=hs r (by simp[n_2 hi]);have ab:=(n_3.1 hj).1;rw[D (by rw[h0,R4];omega)];have:=a5k Y (λr hr=>hs r (by simp[hr])) i j r c hi hj;rw[h0,show(i+1)*s+j-s=i*s+j from by rw[R4];omega];exact this
theorem flat_len{α:Type}{s:Nat}:∀(Y:List (List α)),(∀r∈Y,r.length=s)->Y.flatten.length=Y.length*s
 | [],_=>by simp
 |r0::Y,hs=>by
  have h0:=hs r0 H;rw[List.flatten_cons,n_6,flat_len Y (λr hr=>hs r (by simp[hr])),h0,C5,R4];omega
theorem b6o{len:Nat}(ho:o.op = .buildSlice t len parts)(hv:E.valids (parts.toList.map (·.2)))
 (hu:∀w,(underlying t).run C.P w= .ok (.slice e) w)(hs:∀w,(sizeOf e).run C.P w= .ok s w)(hz:∀w,(zeroValue e).run C.P w= .ok z w)(bP:M6 z=true)(cL:(I5 z).one=true\/∃cs,I5 z= .agg cs)(fY:(I5 z).cells.length=s)(eV:0<s)
 (ak:len*s<=2^24)(ep:parts.toList.map (λx=>(x.1,E.val C x.2))=ps)(aQ:∀x∈ps,x.2.one=true\/∃cs,x.2 = .agg cs)
 (cT:a5v (λi=>some (i*s,s)) ((List.range (len*s)).map λi=>(I5 z).cells.getD (i%s) default) ps=some Y.flatten)(cq:Y.length=len)(bi:∀r∈Y,r.length=s):m0 C σ E o (.list Y true none):=λM w ρ hr h=>by
 have eW:RV M w (I5 z) z:=a0D bP;obtain⟨g1,g2,g3⟩:=eW.cells cL;have bx:∀x∈parts.toList,x.2∈o.op.operands:=λx hx=>by
  rw[ho];simp only[Op.operands,List.mem_toArray,D5];exact⟨x,hx,J⟩
 have bC:=Env.valids_mem hv;obtain⟨r,aG,aX⟩:=a80 (M:=M) (w:=w) ps (parts.toList.map λx=>(x.1,ρ x.2)) ((List.range (len*s)).map λi=>(I5 z).cells.getD (i%s) default) ((Array.range (len*s)).map (z.cells[·%z.cells.size]!)) Y.flatten cT (by simp[<- ep]) (λi x y hx hy=>by
  refine⟨?_,aQ x (n_2 hx)⟩;subst ep;simp only[O5,P2]at hx hy;obtain⟨a,ha,rfl⟩:=hx;obtain⟨a',cM,rfl⟩:=hy;have:a=a':=by rw[ha]at cM;injection cM
  subst this;have hm:=n_2 ha;exact h _ (bx _ hm) (bC _ (D5.2 ⟨_,hm,J⟩))) H (λc hc=>by
   obtain⟨i,_,rfl⟩:=D5.1 hc;have ab:i%s< (I5 z).cells.length:=by rw[fY];exact a4l _ eV
   rw[a49,a0H ab];exact g2 _ (b1t ab)) (λi c hi=>by
   rw[O5,P2]at hi;obtain⟨i',aZ,rfl⟩:=hi;have bu:=(n_3.1 aZ).1;simp at bu;rw[c3i bu]at aZ;injection aZ with aZ
   subst aZ;have ab:i%s< (I5 z).cells.length:=by rw[fY];exact a4l _ eV
   have hlt2:i%s<z.cells.size:=by rw[g1];exact ab
   have:=g3 (i%s) _ (a0H ab);have e1:(I5 z).cells.getD (i%s) default=(I5 z).cells[i%s]:=by
    rw[a49,a0H ab];rfl
   rw[e1];have e2:((Array.range (len*s)).map (z.cells[·%z.cells.size]!)).getD i undef=z.cells.getD (i%s) undef:=by
    have bL:z.cells.size=s:=by rw[g1,fY]
    have hms:i%s<s:=a4l _ eV;simp[bu,bL,hms]
   rw[e2];exact this)
 cases aX with
 |agg q1 q2 q3=>
  obtain⟨hx,eX⟩:=hr.allocFull (.cells r e);have av:(execOp ρ o).run C.P w= .ok (.value (.slice (some ⟨w.heap.size,0,none⟩) len len)) (w.alloc (.cells r e)):=by
   have hl:(parts.map λx=>(x.1,ρ x.2)).toList=parts.toList.map λx=>(x.1,ρ x.2):=by simp
   simp only[execOp,ho,Instr.buildSlice,Sem.run_bind,hu,Result.andThen_ok,hs];rw[D X];simp only[hl];by_cases fm:len*s=0
   .have er:Array.range 0= #[]:=J;rw[fm,er]at aG;simp only[List.map_toArray,b4R]at aG;simp[fm,er,aG,newRow]
   .simp [fm,hz,aG,newRow]
  rw[av];have bj:Y.length<=maxLen:=by
   have:len<=len*s:=Nat.le_mul_of_pos_right _ eV;unfold maxLen;omega
  refine⟨.list Y true none,σ,_,hx,eX,?_,J,J⟩;rw[<- cq];have hflen:=flat_len Y bi;refine .list (b:=w.heap.size) (off:=0) (s:=s) (λi j=>r.getD (i*s+j) undef) (n_7 _) bj J (λh=>by cases h) a0b bi (λr0 bM c hc=>q2 c (List.mem_flatten.2 ⟨r0,bM,hc⟩)) (λi j r0 c hi hj=>?_) (λi j r0 c hi hj=>?_) (λk hk=>by cases hk)
  .have hf:=a5k Y bi i j r0 c hi hj;have ab:=(n_3.1 hf).1;have bu:i*s+j<r.size:=by omega
   refine⟨.inl (.inr J),?_⟩;rw[K0,World.cell?_alloc_new];simp[bu]
  .exact (q3 _ _ (a5k Y bi i j r0 c hi hj)).mono hx
def a2p(C:Ctx)(E:Env)(x:Option Operand)(d:Nat)(n:Nat):Prop:=
 match x with
 |none=>d=n
 |some x=>E.valid x/\∃k i,E.val C x= .val (.int k i)/\0<=i/\i.toNat=n
theorem a4p{lo hi:Option Operand}{tok:Option Nat}{l h:Nat}(ho:o.op = .slice t x lo hi none)(hx:E.valid x)(ex:E.val C x= .list Y nn tok)
 (hu:∀w,(underlying t).run C.P w= .ok (.slice e) w)(hs:∀w,(sizeOf e).run C.P w= .ok s w)(bi:∀r∈Y,r.length=s)(gP:a2p C E lo 0 l)(ia:a2p C E hi Y.length h)(h1:l<=h)(h2:h<=Y.length):m0 C σ E o (.list ((Y.take h).drop l) nn none):=
 i8 λM w ρ hr hh=>by
  have aC:=hh x w8 hx;rw[ex]at aC;obtain⟨a,cap,b,off,s',vals,hv,bj,bk,dV,dz,ha,cq,aQ,hc,bh,_⟩:=aC.list_inv;have ib:∀v,lo=some v->∃k i,ρ v= .int k i/\0<=i/\i.toNat=l:=λv hv=>by
   subst hv;obtain⟨bC,k,i,he,h0,hi⟩:=gP;have:=hh v w8 bC;rw[he]at this;exact⟨k,i,r4 this,h0,hi⟩
  have fA:∀v,hi=some v->∃k i,ρ v= .int k i/\0<=i/\i.toNat=h:=λv hv=>by
   subst hv;obtain⟨bC,k,i,he,h0,hi⟩:=ia;have:=hh v w8 bC;rw[he]at this;exact⟨k,i,r4 this,h0,hi⟩
  have hb:(Instr.sliceBounds true Y.length cap (lo.map ρ) (hi.map ρ) none).run C.P w= .ok (l,h,cap) w:=by
   have cb:(l:Int)<=h:=by omega
   have hh2:(h:Int)<=cap:=by omega
   cases lo with
   |none=>
    have:l=0:=by simpa[a2p]using gP.symm
    subst this;cases hi with
    |none=>
     have:h=Y.length:=by simpa[a2p]using ia.symm
     subst this;simp[Instr.sliceBounds]
    |some v=>
     obtain⟨k,i,he,h0,hi⟩:=fA v J;have:i<=(cap:Int):=by omega
     simp[Instr.sliceBounds,Instr.sliceBound,he,asIntOf,h0,this,hi]
   |some u=>
    obtain⟨k',i',fB,ic,aZ⟩:=ib u J;have aO:i'<=(h:Int):=by omega
    cases hi with
    |none=>
     have:h=Y.length:=by simpa[a2p]using ia.symm
     subst this;simp[Instr.sliceBounds,Instr.sliceBound,fB,asIntOf,ic,aO,aZ]
    |some v=>
     obtain⟨k,i,he,h0,hi⟩:=fA v J;have bJ:i<=(cap:Int):=by omega
     simp[Instr.sliceBounds,Instr.sliceBound,he,fB,asIntOf,h0,ic,bJ,hi,aO,aZ]
  have av:(execOp ρ o).run C.P w= .ok (.value (.slice (if cap=l then a else a.map (·.add (l*s))) (h-l) (cap-l))) w:=by
   simp[execOp,ho,Instr.sliceAt,Instr.slice,hu,hv,hb,hs]
  have ak:((Y.take h).drop l).length=h-l:=by simp;omega
  refine⟨_,av,?_⟩;rw[<- ak];have aq:∀i r,((Y.take h).drop l)[i]?=some r->Y[l+i]?=some r:=λi r hi=>by
   rw[a5z,a2y]at hi;split at hi
   .exact hi
   .cases hi
  refine .list (b:=b) (off:=off+l*s) (s:=s) (λi j=>vals (l+i) j) (by rw[ak];omega) X ?_ (λh0=>by have:=dz h0;omega) (λay=>?_) (λr hr=>bi r (b0C (b2T hr))) (λr hr c hc=>aQ r (b0C (b2T hr)) c hc) (λi j r c hi hj=>?_) (λi j r c hi hj=>bh _ _ _ _ (aq i r hi) hj) (λk hk=>by cases hk)
  .split
   .exact dV
   .rw [Option.isSome_map];exact dV
  .have ie:Y≠[]:=by rintro rfl;simp at ay
   have ab:l<h:=by
    rcases a2J l h with h'|h'
    .exact h'
    .exact absurd (b2K (by rw[ak];omega)) ay
   rw[D X,ha ie];simp[U9]
  .have aZ:=aq i r hi;have hss:s'=s:=by
    have hm:=n_2 aZ;rw[<- cq r hm,bi r hm]
   subst hss;have:=hc _ _ _ _ aZ hj;rw[show off+l*s'+i*s'+j=off+(l+i)*s'+j from by rw[R4];omega];exact this
end
def Src(C:Ctx)(M:B2)(w:World)(Y:List (List CV))(s:Nat)(v:Value):Prop:=
 ∃a c,v= .slice a Y.length c/\Y.length<=c/\(∀r∈Y,r.length=s) /\
  ∃arr:Array Value,(Builtin.firstCells s Y.length v).run C.P w= .ok arr w/\arr.size=Y.length*s /\
   ∀(i j:Nat) (r:List CV) (c:CV),Y[i]?=some r->r[j]?=some c->RV M w c (arr.getD (i*s+j) undef)/\c.one=true
theorem c10(hj:j<s):(i*s+j) / s=i/\(i*s+j)%s=j:=by
 have hs:0<s:=by omega
 refine⟨?_,?_⟩
 .rw [b7a,Nat.add_mul_div_right _ _ hs,Nat.div_eq_of_lt hj,K0]
 .rw [b7a,Nat.add_mul_mod_self_right,b52 hj]
theorem Src.one(bi:∀r∈Y,r.length=s)(aJ:arr.size=Y.length*s)
 (h:∀(i j:Nat) (r:List CV) (c:CV),Y[i]?=some r->r[j]?=some c->RV M w c (arr.getD (i*s+j) undef)/\c.one=true):∀u∈arr.toList,u.oneCell'=true:=by
 intro u hu;obtain⟨q,hq,rfl⟩:=List.mem_iff_getElem.1 hu;have eH:q<Y.length*s:=by simpa[aJ]using hq
 have hs:0<s:=by
  rcases b0J s with h0|h0
  .subst h0;simp at eH
  .exact h0
 have hi:q / s<Y.length:=Nat.div_lt_of_lt_mul (by rwa[b4V]at eH);have hj:q%s<s:=a4l _ hs;have hr:Y[q / s]?=some Y[q / s]:=by simp[hi]
 have cc:q%s< (Y[q / s]).length:=by rw[bi _ (b1t hi)];exact hj
 obtain⟨h1,h2⟩:=h (q / s) (q%s) _ _ hr (a0H cc);have hqq:q / s*s+q%s=q:=by rw[b4V];exact Nat.div_add_mod q s
 rw[hqq]at h1;have:=h1.one h2;have ig:q<arr.size:=by omega
 simpa[ig]using this
section
theorem a7F(f:Nat->Nat->Value)(h:∀i j,i<n->j<s->w.cell? ⟨b,off+i*s+j,none⟩=some (f i j)):
 (loadCells ⟨b,off,none⟩ (n*s)).run C.P w= .ok ((List.range (n*s)).map λq=>f (q / s) (q%s)).toArray w:=
 T5 (λq=>f (q / s) (q%s)) (n*s) λq hq=>by
  have hs:0<s:=by
   rcases b0J s with h0|h0
   .subst h0;simp at hq
   .exact h0
  have:=h (q / s) (q%s) (Nat.div_lt_of_lt_mul (by rwa[b4V]at hq)) (a4l _ hs);rwa[a8e,show q / s*s+q%s=q from by rw[b4V];exact Nat.div_add_mod q s]at this
theorem a1s{tok:Option Nat}(h:RV M w (.list Y nn tok) v)(bi:∀r∈Y,r.length=s):Src C M w Y s v:=by
 obtain⟨a,cap,b,off,s',vals,rfl,bj,bk,dV,dz,ha,cq,aQ,hc,bh,_⟩:=h.list_inv;refine⟨a,cap,J,bj,bi,?_⟩
 rcases Y with _|⟨r0,Y⟩
 .refine ⟨#[],?_,H,H⟩;cases a with
  |none=>simp[Builtin.firstCells]
  |some a=>simp[Builtin.firstCells,loadCells,loadCellsFrom]
 .have hss:s'=s:=by rw[<- cq r0 H,bi r0 H]
  subst hss;rw[ha H];generalize eJ:r0::Y=rs at*;have aN:∀i j,i<rs.length->j<s'->w.cell? ⟨b,off+i*s'+j,none⟩=some (vals i j):=λi j hi hj=>by
   have hr:rs[i]?=some rs[i]:=by simp[hi]
   have hl:j<rs[i].length:=by rw[bi _ (b1t hi)];exact hj
   exact(hc i j _ _ hr (a0H hl)).2
  refine⟨_,by simp only[Builtin.firstCells];exact a7F vals aN,H,λi j r c hi hj=>⟨?_,aQ r (n_2 hi) c (n_2 hj)⟩⟩;have bm:=(n_3.1 hi).1;have cc:j<s':=by have:=(n_3.1 hj).1;rwa[bi r (n_2 hi)]at this
  have hq:i*s'+j<rs.length*s':=by
   have:(i+1)*s'<=rs.length*s':=R9 _ bm;rw[R4]at this;omega
  obtain⟨e1,e2⟩:=c10 (i:=i) cc;have:((List.range (rs.length*s')).map λq=>vals (q / s') (q%s')).toArray.getD (i*s'+j) undef=vals i j:=by simp[hq,e1,e2]
  rw[this];exact bh i j r c hi hj
theorem a7q{len:Nat}(hr:Rel C M σ w)(h:RV M w (.vec k off len) v)(hk:σ[k]?=some (.vec s Y))(hl:off+len<=Y.length):Src C M w ((Y.drop off).take len) s v:=by
 cases h with
 |vec hp h1 h2 h3=>
  rename_i p a;obtain⟨⟨rfl,q1,q2,q3,q4,arr,ty,q5,q6,q7⟩,_⟩:=hr.obj k p _ hp hk;have ak:((Y.drop off).take len).length=len:=by simp;omega
  refine⟨some a,p.cap -off,by rw[ak],by rw[ak];omega,λr hr=>q3 r (b2T (b0C hr)),?_⟩;rw[ak];have aq:∀i r,((Y.drop off).take len)[i]?=some r->i<len/\Y[off+i]?=some r:=λi r hi=>by
   rw[a2y]at hi;split at hi
   .rw [a5z]at hi;exact⟨‹_›,hi⟩
   .cases hi
  rcases b0J len with h0|h0
  .subst h0;exact⟨#[],by simp[Builtin.firstCells,loadCells,loadCellsFrom],H,λi j r c hi _=>by have:=(aq i r hi).1;omega⟩
  .rw [h3 X];have aN:∀i j,i<len->j<p.size->w.cell? ⟨p.block,off*p.size+i*p.size+j,none⟩=some (arr.getD ((off+i)*p.size+j) undef):=λi j hi hj=>by
    have hq:(off+i)*p.size+j<arr.size:=by
     rw[q6];have:(off+i+1)*p.size<=p.cap*p.size:=R9 _ X;rw[R4 (off+i)]at this;omega
    rw[show off*p.size+i*p.size+j=(off+i)*p.size+j from by rw[R4 off]];simp[World.cell?,q5,hq]
   refine⟨_,by simp only[Builtin.firstCells];exact a7F _ aN,H,λi j r c hi hj=>?_⟩;obtain⟨bm,aZ⟩:=aq i r hi;have bx:=n_2 aZ;refine⟨?_,q4 r bx c (n_2 hj)⟩;have cc:j<p.size:=by have:=(n_3.1 hj).1;rwa[q3 r bx]at this
   have hq:i*p.size+j<len*p.size:=by
    have:(i+1)*p.size<=len*p.size:=R9 _ bm;rw[R4]at this;omega
   obtain⟨e1,e2⟩:=c10 (i:=i) cc;have:((List.range (len*p.size)).map λq=>arr.getD ((off+q / p.size)*p.size+q%p.size) undef).toArray.getD (i*p.size+j) undef=arr.getD ((off+i)*p.size+j) undef:=by simp[hq,e1,e2]
   rw[this];exact q7 _ _ _ _ aZ hj
def J3(Y:List (List CV))(p:Nat)(new:List (List CV)):List (List CV):=Y.take p++(new++Y.drop (p+new.length))
theorem b8R{p:Nat}(hp:p<=Y.length)(i:Nat):
 (J3 Y p new)[i]?=if p<=i/\i<p+new.length then new[i-p]? else Y[i]?:=by
 unfold J3;rw[a7p];simp only[a4Y,b5O hp]
 split
 .rename_i h1;rw[D X,a2y,F h1]
 .rename_i h1;rw[a7p]
  split
  .rename_i h2;rw[F X]
  .rename_i h2;rw[D X,a5z]
   congr 1;omega
theorem a9V{p:Nat}(h:r∈J3 Y p new):r∈new\/r∈Y:=by
 simp only[J3,J5]at h
 rcases h with h|h|h
 .exact .inr (b0C h)
 .exact .inl h
 .exact .inr (b2T h)
theorem b2d{p:Nat}(hp:p<=Y.length):(J3 Y p new).length=max Y.length (p+new.length):=by
 simp[J3];omega
theorem a4I(hr:Rel C M σ w){p:Nat}{q:Pl}(hq:M.pl[k]?=some q)(hk:σ[k]?=some (.vec s Y))(hp:p<=Y.length)(hpc:p+new.length<=q.cap)(cj:∀r∈new,r.length=s)(aJ:arr.size=new.length*s)
 (bh:∀(i j:Nat) (r:List CV) (c:CV),new[i]?=some r->r[j]?=some c->RV M w c (arr.getD (i*s+j) undef)/\c.one=true):
 ∃w',(storeCells ⟨q.block,p*s,none⟩ arr.toList).run C.P w= .ok () w'/\Ext M w M w'/\Rel C M (σ.set k (.vec s (J3 Y p new))) w':=by
 obtain⟨⟨rfl,q1,q2,q3,q4,aH,ty,q5,q6,q7⟩,hf,hc⟩:=hr.obj k q _ hq hk;have dA:p*q.size+arr.toList.length<=aH.size:=by
  rw[b0T,aJ,q6,<- R4];exact R9 _ hpc
 have av:=P4 (P:=C.P) (b:=q.block) (off:=p*q.size) (t:=ty) arr.toList 0 aH w q5 X (Src.one cj aJ bh);rw[a9r]at av;have hx:=Ext.putObj (w:=w) (.cells (E8 aH (p*q.size) arr.toList) ty (0,0)) (hr.nk k q _ hq hk J) hf hc;have hb:q.block <w.heap.size:=(a1Z.1 q5).1;refine⟨_,av,hx,hr.putObj (ob:=.vec q.size (J3 Y p new)) hq hk J hf hc _ ⟨J,by rw[b2d hp];omega,q2,λr hr=>?_,λr hr c hc=>?_,_,ty,World.putObj_same w _ hb,by rw[J1,q6],λi j r c hi hj=>?_⟩⟩
 .rcases a9V hr with h|h
  .exact cj r h
  .exact q3 r h
 .rcases a9V hr with h|h
  .obtain ⟨i,hi⟩:=N0.1 h;obtain⟨j,hj⟩:=N0.1 hc;exact(bh i j r c hi hj).2
  .exact q4 r h c hc
 .rw [N5 _ _ _ _ dA];rw[b8R hp]at hi;have cq:r.length=q.size:=by
   split at hi
   .exact cj r (n_2 hi)
   .exact q3 r (n_2 hi)
  have cc:j<q.size:=by have:=(n_3.1 hj).1;omega
  simp only[b0T,aJ];split at hi
  .rename_i bF;have db:i-p<new.length:=by omega
   have e1:p*q.size<=i*q.size:=R9 _ bF.1;have e2:(i-p)*q.size=i*q.size -p*q.size:=Nat.sub_mul _ _ _;have e3:(i-p+1)*q.size<=new.length*q.size:=R9 _ db;rw[R4]at e3;rw[F X];have:=(bh (i-p) j r c hi hj).1.mono hx;rw[show i*q.size+j-p*q.size=(i-p)*q.size+j from by omega];simpa using this
  .rename_i bF;rw[D ?_]
   .exact (q7 _ _ _ _ hi hj).mono hx
   .rintro ⟨h1,h2⟩;apply bF;refine⟨?_,?_⟩
    .rcases a2J i p with h|h
     .have:(i+1)*q.size<=p*q.size:=R9 _ h;rw[R4]at this;omega
     .exact h
    .rcases a2J i (p+new.length)with h|h
     .exact h
     .have:(p+new.length)*q.size<=i*q.size:=R9 _ h;rw[R4]at this;omega
theorem T0{ix:Operand}{len:Nat}{i:Int}(ho:o.op = .indexAddr t x ix)(hx:E.valid x)(hi:E.valid ix)(ex:E.val C x= .vec k off len)(ei:E.val C ix= .val (.int .i64 i))
 (hu:∀w,(underlying t).run C.P w= .ok (.slice e) w)(hs:∀w,(sizeOf e).run C.P w= .ok s w)(hk:σ[k]?=some (.vec s Y))(h0:0<=i)(hl:i.toNat <len):m0 C σ E o (.eptr k (off+i.toNat) 0):=
 i8 λM w ρ hr h=>by
  have h1:=h x w8 hx;have h2:=h ix w8 hi;rw[ex]at h1;rw[ei]at h2;generalize hv:ρ x=v at h1;cases h1 with
  |vec hp g1 g2 g3=>
   rename_i p a;obtain⟨⟨rfl,_⟩,_⟩:=hr.obj k p _ hp hk;have ab:i< (len:Int):=by omega
   refine⟨.pointer (some ⟨p.block,(off+i.toNat)*p.size+0,none⟩),?_,.eptr hp⟩;simp[execOp,ho,hv,r4 h2,Instr.indexAt,asIntOf,hu,hs,g3 X,h0,ab,U9,R4]
theorem b92(hr:Rel C M σ w)(hp:M.pl[k]?=some p)(hk:σ[k]?=some (.vec s Y))(hi:Y[i]?=some r)(hc:r[off]?=some c):
 ∃v,w.cell? ⟨p.block,i*p.size+off,none⟩=some v/\RV M w c v:=by
 obtain⟨⟨rfl,q1,q2,q3,q4,arr,ty,q5,q6,q7⟩,_⟩:=hr.obj k p _ hp hk;have bm:=(n_3.1 hi).1;have cc:off<p.size:=by have:=(n_3.1 hc).1;rwa[q3 r (n_2 hi)]at this
 have hq:i*p.size+off<arr.size:=by
  rw[q6];have:(i+1)*p.size<=p.cap*p.size:=R9 _ X;rw[R4]at this;omega
 exact⟨_,by simp[World.cell?,q5,hq];rfl,by simpa[hq]using q7 i off r c hi hc⟩
theorem P8(ho:o.op = .load t x)(hx:E.valid x)(ex:E.val C x= .eptr k i off)(ha:∀w,(isAgg t).run C.P w= .ok false w)(hk:σ[k]?=some (.vec s Y))(hi:Y[i]?=some r)(hc:r[off]?=some c):m0 C σ E o c:=
 i8 λM w ρ hr h=>by
  have h1:=h x w8 hx;rw[ex]at h1;generalize eo:ρ x=u at h1;cases h1 with
  |eptr hp=>
   obtain⟨v,hv,bh⟩:=b92 hr hp hk hi hc;exact⟨v,by simp[execOp,ho,eo,Instr.loadAt,Instr.sureAddr,loadVar,ha,hv],bh⟩
theorem a3r(ho:o.op = .load t x)(hx:E.valid x)(ex:E.val C x= .eptr k i off)(ha:∀w,(isAgg t).run C.P w= .ok true w)(hs:∀w,(sizeOf t).run C.P w= .ok n w)(hk:σ[k]?=some (.vec s Y))(hi:Y[i]?=some r)(hl:off+n<=r.length):m0 C σ E o (.agg ((r.drop off).take n)):=
 i8 λM w ρ hr h=>by
  have h1:=h x w8 hx;rw[ex]at h1;generalize eo:ρ x=u at h1;cases h1 with
  |eptr hp=>
   rename_i p;have aQ:=(hr.obj k p _ hp hk).1.2.2.2.2.1;have bv:∀j,j<n->∃v,w.cell? ⟨p.block,i*p.size+off+j,none⟩=some v/\∀c,r[off+j]?=some c->RV M w c v:=λj hj=>by
    obtain⟨v,hv,bh⟩:=b92 hr hp hk hi (a0H (show off+j<r.length by omega));exact⟨v,by rw[a8e];exact hv,λc hc=>by rw[a0H (show off+j<r.length by omega)]at hc;injection hc with hc;exact hc▸bh⟩
   let f:Nat->Value:=λj=>if hj:j<n then(bv j hj).choose else undef
   have hf:∀j,j<n->w.cell? ⟨p.block,i*p.size+off+j,none⟩=some (f j)/\∀c,r[off+j]?=some c->RV M w c (f j):=λj hj=>by
    simp only[f,dif_pos hj];exact(bv j hj).choose_spec
   refine⟨.agg ((List.range n).map f).toArray,?_,.agg K5 (λc hc=>aQ r (n_2 hi) c (b2T (b0C hc))) (λj c hj=>?_)⟩
   .simp [execOp,ho,eo,Instr.loadAt,Instr.sureAddr,loadVar,ha,hs,T5 (P:=C.P) (w:=w) f n (λj hj=>(hf j hj).1)]
   .have dq:j<n:=by
     have:=(n_3.1 hj).1;simp at this;omega
    rw[a2y,F dq,a5z]at hj;have:=(hf j dq).2 c hj;simpa[dq]using this
theorem c7N(ho:o.op = .store t x y)(hx:E.valid x)(hy:E.valid y)(ex:E.val C x= .eptr k i off)(ey:E.val C y=c)(hs:∀w,(sizeOf t).run C.P w= .ok n w)
 (hc:c.one=true\/∃cs,c= .agg cs)(hk:σ[k]?=some (.vec s Y))(hi:Y[i]?=some r)(hl:c.cells.length=n)(ab:off+n<=r.length)(h:K (.ret (.val undef)) (σ.set k (.vec s (Y.set i (Q4 r off c.cells))))):H4 C σ E o K:=λM w ρ hr hh=>by
 have h1:=hh x w8 hx;have h2:=hh y w8 hy;rw[ex]at h1;rw[ey]at h2;generalize hu:ρ x=u at h1;cases h1 with
 |eptr hp=>
  rename_i p;obtain⟨⟨rfl,q1,q2,q3,q4,arr,ty,q5,q6,q7⟩,hf,bO⟩:=hr.obj k p _ hp hk;obtain⟨g1,g2,g3⟩:=h2.cells hc;have aQ:=a3S h2 hc;have bm:=(n_3.1 hi).1;have hrm:=n_2 hi;have cq:r.length=p.size:=q3 r hrm;have aJ:off+c.cells.length<=r.length:=by omega
  have dA:i*p.size+off+(ρ y).cells.toList.length<=arr.size:=by
   rw[b0T,g1,q6];have:(i+1)*p.size<=p.cap*p.size:=R9 _ X;rw[R4]at this;omega
  have av:(execOp ρ o).run C.P w= .ok .skip (World.putObj w p.block (.cells (E8 arr (i*p.size+off) (ρ y).cells.toList) ty (0,0))):=by
   have:=P4 (P:=C.P) (b:=p.block) (off:=i*p.size+off) (t:=ty) (ρ y).cells.toList 0 arr w q5 X aQ;simp only[a9r]at this;simp[execOp,ho,hu,Instr.storeAt,Instr.sureAddr,storeVar,hs,g1,hl,this]
  rw[av];have hx:=Ext.putObj (w:=w) (.cells (E8 arr (i*p.size+off) (ρ y).cells.toList) ty (0,0)) (hr.nk k p _ hp hk J) hf bO;have hb:p.block <w.heap.size:=(a1Z.1 q5).1;have bx:∀r',r'∈Y.set i (Q4 r off c.cells)->r'=Q4 r off c.cells\/r'∈Y:=λr' bp=>by
   rcases List.mem_or_eq_of_mem_set bp with h|h
   .exact .inr h
   .exact .inl h
  refine⟨.val undef,_,M,hx,hr.putObj (ob:=.vec p.size (Y.set i (Q4 r off c.cells))) hp hk J hf bO _ ⟨J,I q1,q2,λr' bp=>?_,λr' bp c' bJ=>?_,_,ty,World.putObj_same w _ hb,by rw[J1,q6],λi' j r' c' aZ hj=>?_⟩,.val _,h⟩
  .rcases bx r' bp with rfl|h
   .rw [a0P aJ,cq]
   .exact q3 r' h
  .rcases bx r' bp with rfl|h
   .rcases a23 bJ with h'|h'
    .exact g2 _ h'
    .exact q4 r hrm _ h'
   .exact q4 r' h _ bJ
  .rw [N5 _ _ _ _ dA];simp only[b0T,g1];rw[a9z]at aZ;split at aZ
   .rename_i hii;subst hii;injection aZ with aZ
    subst aZ;rw[a26 aJ]at hj;split at hj
    .rename_i bF;rw[F X];have:=(g3 _ _ hj).mono hx;rw[show i*p.size+j- (i*p.size+off)=j-off from by omega];simpa using this
    .rename_i bF;rw[D X];exact(q7 _ _ _ _ hi hj).mono hx
   .rename_i hii;have cc:j<p.size:=by have:=(n_3.1 hj).1;rwa[q3 r' (n_2 aZ)]at this
    rw[D ?_]
    .exact (q7 _ _ _ _ aZ hj).mono hx
    .rintro ⟨h1,h2⟩
     rcases a2J i' i with h|h
     .have:(i'+1)*p.size<=i*p.size:=R9 _ h;rw[R4]at this;omega
     .have:(i+1)*p.size<=i'*p.size:=R9 _ X;rw[R4]at this;omega
theorem Y6{lo hi:Option Operand}{len:Nat}{l h:Nat}(ho:o.op = .slice t x lo hi none)(hx:E.valid x)(ex:E.val C x= .vec k off len)
 (hu:∀w,(underlying t).run C.P w= .ok (.slice e) w)(hs:∀w,(sizeOf e).run C.P w= .ok s w)(hk:σ[k]?=some (.vec s Y))(gP:a2p C E lo 0 l)(ia:a2p C E hi len h)(h1:l<=h)(h2:off+h<=Y.length):m0 C σ E o (.vec k (off+l) (h-l)):=
 i8 λM w ρ hr hh=>by
  have aC:=hh x w8 hx;rw[ex]at aC;generalize hv:ρ x=v at aC;cases aC with
  |vec hp g1 g2 g3=>
   rename_i p a;obtain⟨⟨rfl,q1,q2,_⟩,_⟩:=hr.obj k p _ hp hk;have ib:∀v,lo=some v->∃k i,ρ v= .int k i/\0<=i/\i.toNat=l:=λv hv=>by
    subst hv;obtain⟨bC,k,i,he,h0,hi⟩:=gP;have:=hh v w8 bC;rw[he]at this;exact⟨k,i,r4 this,h0,hi⟩
   have fA:∀v,hi=some v->∃k i,ρ v= .int k i/\0<=i/\i.toNat=h:=λv hv=>by
    subst hv;obtain⟨bC,k,i,he,h0,hi⟩:=ia;have:=hh v w8 bC;rw[he]at this;exact⟨k,i,r4 this,h0,hi⟩
   have bj:h<=p.cap -off:=by omega
   have hb:(Instr.sliceBounds true len (p.cap -off) (lo.map ρ) (hi.map ρ) none).run C.P w= .ok (l,h,p.cap -off) w:=by
    have cb:(l:Int)<=h:=by omega
    have hh2:(h:Int)<=((p.cap -off:Nat):Int):=by omega
    cases lo with
    |none=>
     have:l=0:=by simpa[a2p]using gP.symm
     subst this;cases hi with
     |none=>
      have:h=len:=by simpa[a2p]using ia.symm
      subst this;simp[Instr.sliceBounds]
     |some v=>
      obtain⟨k,i,he,h0,hi⟩:=fA v J;have:i<=((p.cap -off:Nat):Int):=by omega
      simp[Instr.sliceBounds,Instr.sliceBound,he,asIntOf,h0,this,hi]
    |some u=>
     obtain⟨k',i',fB,ic,aZ⟩:=ib u J;have aO:i'<=(h:Int):=by omega
     cases hi with
     |none=>
      have:h=len:=by simpa[a2p]using ia.symm
      subst this;simp[Instr.sliceBounds,Instr.sliceBound,fB,asIntOf,ic,aO,aZ]
     |some v=>
      obtain⟨k,i,he,h0,hi⟩:=fA v J;have bJ:i<=((p.cap -off:Nat):Int):=by omega
      simp[Instr.sliceBounds,Instr.sliceBound,he,fB,asIntOf,h0,ic,bJ,hi,aO,aZ]
   have av:(execOp ρ o).run C.P w= .ok (.value (.slice (if p.cap -off=l then some a else some (a.add (l*p.size))) (h-l) (p.cap -off-l))) w:=by
    simp[execOp,ho,Instr.sliceAt,Instr.slice,hu,hv,hb,hs]
   refine⟨_,av,?_⟩;by_cases he:p.cap -off=l
   .rw [F he,show p.cap -off-l=p.cap - (off+l)from by omega];exact .vec hp X g2 (λab=>by omega)
   .rw [D he,show p.cap -off-l=p.cap - (off+l)from by omega];exact .vec hp X g2 (λab=>by rw[g3 X,U9,R4])
end
def kill(σ:List b9)(tok:Option Nat):List b9:=
 match tok with
 |some k=>σ.set k .dead
 |none=>σ
def d9K(σ:List b9)(Y:List (List CV))(nn:Bool)(tok:Option Nat):Prop:=
 (Y=[]/\nn=false/\tok=none)\/(Y≠[]/\∃k,tok=some k/\σ[k]?=some (.tip Y.length))
def c4y(t0:Option TypeId)(σ:List b9)(Y:List (List CV))(nn:Bool)(tok:Option Nat):Prop:=
 (Y=[]/\nn=false/\tok=none)\/(Y≠[]/\∃k,tok=some k/\σ[k]?=some (.tipT t0 Y.length))
def B2.settleCells(M:B2)(b n:Nat):B2:={M with cell:=λx o=>M.cell x o\/(x=b/\o<n)}
section
theorem Rel.dead(hr:Rel C M σ w)(k:Nat):Rel C M (σ.set k .dead) w:=by
 have aq:∀{k':Nat} {x:b9},(σ.set k .dead)[k']?=some x->x= .dead\/σ[k']?=some x:=by
  intro k' x h;rw[a9z]at h;split at h
  .split at h
   .injection h with h;exact .inl h.symm
   .cases h
  .exact .inr h
 refine⟨by simp[hr.len],hr.blk,λk' p x hp hx=>?_,λk1 k2 p1 p2 x1 x2 h1 h2 bd aM cp cb hb=>?_,hr.glob,hr.kep,λk' p x hp aC ca=>?_⟩
 .rcases aq hx with rfl|h
  .exact ⟨O,O⟩
  .exact hr.obj k' p x hp h
 .rcases aq bd with rfl|dW
  .cases cp
  .rcases aq aM with rfl|dr
   .cases cb
   .exact hr.inj k1 k2 p1 p2 x1 x2 h1 h2 dW dr cp cb hb
 .rcases aq aC with rfl|h'
  .cases ca
  .exact hr.nk k' p x hp h' ca
theorem Rel.kill{M:B2}{w:World}(hr:Rel C M σ w)(tok:Option Nat):Rel C M (kill σ tok) w:=by
 cases tok with
 |none=>exact hr
 |some k=>exact hr.dead k
theorem b8t(σ:List b9)(tok:Option Nat):(kill σ tok).length=σ.length:=by
 cases tok<;>simp[Go.Cl.kill]
theorem Rel.settleCells(hr:Rel C M σ w)(hp:M.pl[k]?=some p)(hk:σ[k]?=some (.tipT t0 n)):Ext M w (M.settleCells p.block (n*p.size)) w/\Rel C (M.settleCells p.block (n*p.size)) σ w:=by
 have hx:Ext M w (M.settleCells p.block (n*p.size)) w:=⟨⟨[],by simp[B2.settleCells]⟩,λ_ h=>h,λ_ _ h=>.inr (.inl h),λ_ _=>J,λ_ _ _=>J,n_7 _,U0,J,J,J,λb h=>⟨h,J,id,λo f=>(by
  rcases f with f|⟨rfl,_⟩
  .exact f
  .exact absurd h (hr.nk k p _ hp hk J))⟩⟩
 have ab:=(hr.obj k p _ hp hk).1.lt J;refine⟨hx,hr.len,λb o' ha=>?_,λk' p' x aI aC=>?_,hr.inj,λg cells hg=>(hr.glob g cells hg).mono hx,hr.kep,hr.nk⟩
 .rcases ha with ha|ha|⟨rfl,_⟩
  .exact hr.blk b o' (.inl ha)
  .exact hr.blk b o' (.inr ha)
  .exact ab
 .obtain ⟨h1,h2⟩:=hr.obj k' p' x aI aC;by_cases hl:x.live=true
  .by_cases gH:k'=k
   .subst gH;have aI:M.pl[k']?=some p':=aI;rw[hp]at aI;injection aI with aI
    subst aI;rw[hk]at aC;injection aC with aC
    subst aC;obtain⟨q1,q2,q3,q4⟩:=h1;refine⟨⟨q1,q2,⟨λo ho=>?_,q3.2⟩,q4⟩,h2⟩
    rcases ho with ho|⟨_,ho⟩
    .exact q3.1 o ho
    .exact ho
   .have ay:p'.block≠p.block:=λe=>gH (hr.inj k' k p' p x _ aI hp aC hk hl J e);refine⟨h1.mono hx J (λ_ _ _ o ho=>?_),?_⟩
    .rcases ho with ho|⟨ho,_⟩
     .exact ho
     .exact absurd ho ay
    .have hc:(∀o,¬M.cell p'.block o)->∀o,¬(M.settleCells p.block (n*p.size)).cell p'.block o:=λh o ho=>by
      rcases ho with ho|⟨ho,_⟩
      .exact h o ho
      .exact ay ho
     cases x<;>first|trivial|exact h2|exact⟨h2.1,hc h2.2⟩
  .cases x<;>first|exact⟨O,O⟩|simp[b9.live]at hl
theorem Rel.drewN(hr:Rel C M σ w):Rel C M σ w.drew/\Ext M w M w.drew:=hr.drew
theorem a0h{c:Nat}{x:Value}(hu:∀w,(underlying t).run P w= .ok (.slice e) w)(dB:(∀w,(underlying t2).run P w= .ok (.slice e) w)\/∀w,(underlying t2).run P w= .ok .string w)(hs:∀w,(sizeOf e).run P w= .ok s w)
 (ak:∀w,(Builtin.lenOf x).run P w= .ok m w)(dJ:(Builtin.firstCells s m x).run P w= .ok arr w)(fC:n+m<=c)(aE:(storeCells ⟨b,off+n*s,none⟩ arr.toList).run P w= .ok () w'):
 (Builtin.append_ #[t,t2] ty #[.slice (some ⟨b,off,none⟩) n c,x]).run P w= .ok (.slice (some ⟨b,off,none⟩) (n+m) c) w':=by
 rcases dB with dB|dB <;>
 simp[Builtin.append_,hu,dB,hs,ak,dJ,fC,U9,aE]
theorem Y8{c:Nat}{a:Option Addr}{x:Value}{old:Array Value}{ti:TypeInfo}(hu:∀w,(underlying t).run P w= .ok (.slice e) w)(dB:(∀w,(underlying t2).run P w= .ok (.slice e) w)\/∀w,(underlying t2).run P w= .ok .string w)(hs:∀w,(sizeOf e).run P w= .ok s w)(df:∀w,(typeInfo e).run P w= .ok ti w)(hz:∀w,(zeroValue e).run P w= .ok z w)
 (ak:∀w,(Builtin.lenOf x).run P w= .ok m w)(bQ:(Builtin.firstCells s n (.slice a n c)).run P w.drew = .ok old w.drew)(dJ:(Builtin.firstCells s m x).run P w.drew = .ok arr w.drew)(fC:c<n+m)(bk:n+m<=9223372036854775807)(hb:(n+m)*ti.bytes<=140737488355328):
 ∃c',n+m<=c'/\c'<=9223372036854775807/\(Builtin.append_ #[t,t2] ty #[.slice a n c,x]).run P w= .ok (.slice (some ⟨w.heap.size,0,none⟩) (n+m) c') (w.drew.alloc (.cells (old++arr++Builtin.zeroCells z.cells (c'- (n+m))) e)):=by
 have hg:=growslice_fits fC hb;refine⟨(Question.appendCap (n+m) c e).cut (w.tape w.drawn (.appendCap (n+m) c e)),?_,?_,?_⟩
 .simp [Question.cut]
 .simp only[Question.cut];have:w.tape w.drawn (.appendCap (n+m) c e)%(2^63- (n+m))<2^63- (n+m):=a4l _ X;omega
 .have h1:¬(n+m<=c):=by omega
  have h2:¬IntKind.i64.max < (n:Int)+(m:Int):=by
   have:IntKind.i64.max=9223372036854775807:=by decide
   omega
  have h3:¬(281474976710656<Builtin.nextslicecap (n+m) c*ti.bytes):=by omega
  rcases dB with dB|dB
  all_goals
   simp[Builtin.append_,hu,dB,hs,df,hz,ak,h1,h3,Question.forced,bQ,dJ,newRow];intro h;have:IntKind.i64.max=9223372036854775807:=by decide
   omega
theorem a6p(h:RV M w c v):RV M w.drew c v:=by
 have hx:Ext M w M w.drew:=⟨⟨[],H⟩,λ_ h=>h,λ_ _ h=>.inr h,λ_ _=>J,λ_ _ _=>J,n_7 _,U0,J,J,J,λ_ h=>⟨h,J,id,λ_=>id⟩⟩;exact h.mono hx
theorem Rel.tipStore(hr:Rel C M σ w){aH cur':Array Value}(hp:M.pl[k]?=some p)(hk:σ[k]?=some (.tipT t0 n))(hty:t0.getD ty=ty)(hc:w.heap[p.block]?=some (.cells aH ty (0,0)))(aJ:cur'.size=aH.size)(hsame:∀o,o<n*p.size->cur'[o]?=aH[o]?):
 Ext M w M (World.putObj w p.block (.cells cur' ty (0,0)))/\Rel C M σ (World.putObj w p.block (.cells cur' ty (0,0))):=by
 obtain⟨⟨q1,q2,q3,cur0,ty0,q4,q5⟩,cU⟩:=hr.obj k _ _ hp hk;have hb:p.block <w.heap.size:=(a1Z.1 hc).1;have hx:Ext M w M (World.putObj w p.block (.cells cur' ty (0,0))):=by
  refine⟨⟨[],H⟩,λ_ h=>h,λ_ _ h=>.inr h,λb' h=>World.putObj_other w _ (λe=>cU (e▸h)),λb' o' h=>?_,by rw[World.putObj_size];exact n_7 _,U0,J,J,J,λb' h=>⟨h,World.putObj_other w _ (λe=>hr.nk k p _ hp hk J (e▸h)),id,λ_=>id⟩⟩;by_cases he:p.block=b'
  .subst he;have ab:=q3.1 o' h;simp only[World.cell?,World.putObj_same w _ hb,hc,Option.isSome_none,b8x,if_false];exact hsame o' ab
  .exact O2 (World.putObj_other w _ he)
 refine⟨hx,hr.len,λb o' ha=>by rw[World.putObj_size];exact hr.blk b o' ha,λk' p' x aI aC=>?_,hr.inj,λg cells hg=>(hr.glob g cells hg).mono hx,λb h=>(by rw[World.putObj_size];exact hr.kep b h),hr.nk⟩;obtain⟨h1,h2⟩:=hr.obj k' p' x aI aC;refine⟨?_,h2⟩;by_cases hl:x.live=true
 .by_cases gH:k'=k
  .subst gH;rw[hp]at aI;injection aI with aI
   subst aI;rw[hk]at aC;injection aC with aC
   subst aC;rw[q4]at hc;injection hc with hc
   injection hc with hc _ _
   exact⟨q1,q2,q3,cur',ty,by rw[hty];exact World.putObj_same w _ hb,by rw[aJ,<- hc,q5]⟩
  .have ay:p.block≠p'.block:=λe=>gH (hr.inj k' k p' p x _ aI hp aC hk hl J e.symm);exact h1.mono hx (World.putObj_other w _ ay) (λ_ _ _ _ h=>h)
 .cases x<;>first|trivial|simp[b9.live]at hl
theorem Rel.tipNew(hr:Rel C M σ w)(hp:M.pl[k]?=some p)(hk:σ[k]?=some (.tipT t0 n))(hn:n<=m)(hm:m<=p.cap):Ext M w (M.add p) w/\Rel C (M.add p) (σ.set k .dead++[.tipT t0 m]) w:=by
 obtain⟨⟨q1,q2,q3,cur0,ty0,q4,q5⟩,cU⟩:=hr.obj k _ _ hp hk;have hx:Ext M w (M.add p) w:=⟨⟨[p],J⟩,λ_ h=>h,λ_ _ h=>.inr h,λ_ _=>J,λ_ _ _=>J,n_7 _,U0,J,J,J,λ_ h=>⟨h,J,id,λ_=>id⟩⟩;have hd:=hr.dead k;have ak:(σ.set k b9.dead).length=σ.length:=by simp
 have aq:∀{j:Nat} {q:Pl},(M.add p).pl[j]?=some q->(j<σ.length/\M.pl[j]?=some q)\/(j=σ.length/\q=p):=by
  intro j q hj;simp only[B2.add,a7p,hr.len]at hj;split at hj
  .exact .inl ⟨‹_›,hj⟩
  .rename_i ab;have:j-σ.length=0:=by
    have:=(n_3.1 hj).1;simp at this;omega
   rw[this]at hj;simp at hj;exact .inr ⟨X,hj.symm⟩
 have fo:∀{j:Nat} {x:b9},(σ.set k b9.dead++[b9.tipT t0 m])[j]?=some x->(j<σ.length/\(σ.set k b9.dead)[j]?=some x)\/(j=σ.length/\x= .tipT t0 m):=by
  intro j x hj;rw[a7p]at hj;split at hj
  .exact .inl ⟨X,hj⟩
  .have:j- (σ.set k b9.dead).length=0:=by
    have:=(n_3.1 hj).1;simp at this⊢;omega
   rw[this]at hj;simp at hj;exact .inr ⟨X,hj.symm⟩
 have bD:k<σ.length:=(n_3.1 hk).1;have dK:∀{j:Nat} {q:Pl} {x:b9},M.pl[j]?=some q->(σ.set k b9.dead)[j]?=some x->x.live=true->q.block≠p.block:=by
  intro j q x hj du hl e;have hjk:j≠k:=by
   rintro rfl;rw[b0L X]at du;injection du with du
   subst du;cases hl
  have eY:σ[j]?=some x:=by rwa[a2M (Ne.symm hjk)]at du
  exact hjk (hr.inj j k q p x _ hj hp eY hk hl J e)
 refine⟨hx,by simp[B2.add,hr.len],λb o' ha=>hr.blk b o' ha,λj q x hj du=>?_,λj j' q q' x x' hj dq du eY hl bg hb=>?_,λg cells hg=>(hr.glob g cells hg).mono hx,hr.kep,λj q x hj du ca=>?_⟩
 .rcases fo du with⟨ab,h⟩|⟨rfl,rfl⟩
  .rcases aq hj with⟨_,hq⟩|⟨rfl,_⟩
   .obtain ⟨h1,h2⟩:=hd.obj j q x hq h;refine⟨?_,h2⟩;by_cases hl:x.live=true
    .exact h1.mono hx J (λ_ _ _ _ h=>h)
    .cases x<;>first|trivial|simp[b9.live]at hl
   .omega
  .rcases aq hj with⟨h,_⟩|⟨_,rfl⟩
   .omega
   .refine ⟨⟨hm,q2,⟨λo ho=>a9p (q3.1 o ho) (R9 _ hn),q3.2⟩,cur0,ty0,q4,q5⟩,cU⟩
 .rcases fo du with⟨ab,h⟩|⟨rfl,rfl⟩
  .rcases aq hj with⟨_,hq⟩|⟨rfl,_⟩
   .rcases fo eY with⟨bu,h'⟩|⟨rfl,rfl⟩
    .rcases aq dq with⟨_,eH⟩|⟨rfl,_⟩
     .exact hd.inj j j' q q' x x' hq eH h h' hl bg hb
     .omega
    .rcases aq dq with⟨h0,_⟩|⟨_,rfl⟩
     .omega
     .exact absurd hb (dK hq h hl)
   .omega
  .rcases aq hj with⟨h0,_⟩|⟨_,rfl⟩
   .omega
   .rcases fo eY with⟨bu,h'⟩|⟨rfl,rfl⟩
    .rcases aq dq with⟨_,eH⟩|⟨rfl,_⟩
     .exact absurd hb.symm (dK eH h' bg)
     .omega
    .rfl
 .rcases fo du with⟨ab,h⟩|⟨rfl,rfl⟩
  .rcases aq hj with⟨_,hq⟩|⟨rfl,_⟩
   .exact hd.nk j q x hq h ca
   .omega
  .rcases aq hj with⟨h0,_⟩|⟨_,rfl⟩
   .omega
   .exact hr.nk k q _ hp hk J
theorem Src.lenOf(h:Src C M w Y s v)(w':World):(Builtin.lenOf v).run C.P w'= .ok Y.length w':=by
 obtain⟨a,c,rfl,_⟩:=h;simp[Builtin.lenOf]
def c1L(C:Ctx)(w:World)(M:B2)(Y:List (List CV))(s:Nat)(v:Value):Prop:=
 (∀w',(Builtin.lenOf v).run C.P w'= .ok Y.length w')/\(∀r∈Y,r.length=s) /\
  ∃arr:Array Value,(Builtin.firstCells s Y.length v).run C.P w= .ok arr w/\arr.size=Y.length*s /\
   ∀(i j:Nat) (r:List CV) (c:CV),Y[i]?=some r->r[j]?=some c->RV M w c (arr.getD (i*s+j) undef)/\c.one=true
theorem Src.any(h:Src C M w Y s v):c1L C w M Y s v:=by
 have hl:=h.lenOf;obtain⟨_,_,_,_,h1,h2⟩:=h;exact⟨hl,h1,h2⟩
theorem a24{old rest:Array Value}(h1:old.size=Y.length*s)(h2:arr.size=new.length*s)(bi:∀r∈Y,r.length=s)(cj:∀r∈new,r.length=s)
 (ho:∀(i j:Nat) (r:List CV) (c:CV),Y[i]?=some r->r[j]?=some c->RV M w c (old.getD (i*s+j) undef))
 (ha:∀(i j:Nat) (r:List CV) (c:CV),new[i]?=some r->r[j]?=some c->RV M w c (arr.getD (i*s+j) undef))(i j:Nat)(r:List CV)(c:CV)(hi:(Y++new)[i]?=some r)(hj:r[j]?=some c):
 i*s+j< (old++arr++rest).size/\RV M w c ((old++arr++rest).getD (i*s+j) undef):=by
 rw[a7p]at hi;split at hi
 .rename_i ab;have cc:j<s:=by have:=(n_3.1 hj).1;rwa[bi r (n_2 hi)]at this
  have hq:i*s+j<old.size:=by
   rw[h1];have:(i+1)*s<=Y.length*s:=R9 _ ab;rw[R4]at this;omega
  refine⟨by simp;omega,?_⟩;have cN:i*s+j< (old++arr).size:=by simp;omega
  have e:(old++arr++rest).getD (i*s+j) undef=old.getD (i*s+j) undef:=by
   simp only[a0U];rw[b5D cN,b5D hq]
  rw[e];exact ho i j r c hi hj
 .rename_i aF;have bm:=(n_3.1 hi).1;have cc:j<s:=by have:=(n_3.1 hj).1;rwa[cj r (n_2 hi)]at this
  have e1:(i-Y.length)*s=i*s-Y.length*s:=Nat.sub_mul _ _ _;have e2:Y.length*s<=i*s:=R9 _ X;have e3:(i-Y.length+1)*s<=new.length*s:=R9 _ bm;rw[R4]at e3;refine⟨by simp;omega,?_⟩;have cN:i*s+j< (old++arr).size:=by simp;omega
  have e:(old++arr++rest).getD (i*s+j) undef=arr.getD ((i-Y.length)*s+j) undef:=by
   simp only[a0U];rw[b5D cN,Array.getElem?_append_right X]
   congr 2;omega
  rw[e];exact ha _ j r c hi hj
theorem X4(z:Array Value)(n:Nat):(Builtin.zeroCells z n).size=n*z.size:=by simp[Builtin.zeroCells]
theorem RV.list'{tok:Option Nat}{a:Option Addr}{cap:Nat}(hL:L=Y.length)(vals:Nat->Nat->Value):
 Y.length<=cap->cap<=maxLen->a.isSome=nn->(nn=false->cap=0)->(Y≠[]->a=some ⟨b,off,none⟩) ->
 (∀r∈Y,r.length=s)->(∀r∈Y,∀c∈r,c.one=true) ->
 (∀(i j:Nat) (r:List CV) (c:CV),Y[i]?=some r->r[j]?=some c->M.at b (off+i*s+j)/\w.cell? ⟨b,off+i*s+j,none⟩=some (vals i j)) ->
 (∀(i j:Nat) (r:List CV) (c:CV),Y[i]?=some r->r[j]?=some c->RV M w c (vals i j)) ->
 (∀k,tok=some k->∃s',M.pl[k]?=some ⟨b,cap,s'⟩/\a=some ⟨b,0,none⟩/\off=0/\(Y≠[]->s'=s)) ->
 RV M w (.list Y nn tok) (.slice a L cap):=by
 subst hL;exact RV.list vals
theorem b2C{tok:Option Nat}{ti:TypeInfo}(ho:o.op = .call {callee:=.builtin .append,args:=#[x,y],argTypes:=#[t,t2]})(hx:E.valid x)(hy:E.valid y)(ex:E.val C x= .list Y nn tok)
 (aT:∀M w v,Rel C M σ w->RV M w (E.val C y) v->c1L C w M new s v)(hu:∀w,(underlying t).run C.P w= .ok (.slice e) w)(hs:∀w,(sizeOf e).run C.P w= .ok s w)(df:∀w,(typeInfo e).run C.P w= .ok ti w)(hz:∀w,(zeroValue e).run C.P w= .ok z w)(bL:z.cells.size=s)
 (dB:(∀w,(underlying t2).run C.P w= .ok (.slice e) w)\/∀w,(underlying t2).run C.P w= .ok .string w)(ht0:t0=none\/t0=some e)(hts:t0.isSome=true->s=1)(cd:c4y t0 σ Y nn tok\/(Y=[]/\t0=some e/\∃k,tok=some k/\σ[k]?=some (.tipT t0 0)))(bi:∀r∈Y,r.length=s)(dg:new≠[])(hb:(Y.length+new.length)*ti.bytes<=140737488355328)(bk:Y.length+new.length<=9223372036854775807)
 (hk:K (.ret (.list (Y++new) true (some σ.length))) (kill σ tok++[.tipT t0 (Y.length+new.length)])):H4 C σ E o K:=λM w ρ hr hh=>by
 have h1:=hh x H9 hx;have h2:=hh y H9 hy;rw[ex]at h1;have hso:=a1s (C:=C) h1 bi;have eK:=aT M w _ hr h2;have ak:=eK.1;obtain⟨a,cap,b,off,s',vals,hv,bj,dL,dV,dz,ha,cq,aQ,hc,bh,cH⟩:=h1.list_inv;have gI:0<new.length:=a81.2 dg;have bG:(execOp ρ o).run C.P w=((Builtin.append_ #[t,t2] o.type #[ρ x,ρ y]).run C.P w).andThen λv w=>.ok (.value v) w:=by
  simp[execOp,ho,resolve,invoke,builtin]
 have bS:∀r∈Y++new,r.length=s:=λr hr=>by
  rcases J5.1 hr with h|h
  .exact bi r h
  .obtain ⟨_,cj,_⟩:=eK;exact cj r h
 have bT:(Y++new).length=Y.length+new.length:=n_6;by_cases cu:Y.length+new.length<=cap
 .
  rcases cd with(⟨rfl,rfl,rfl⟩|⟨hrne,k,rfl,hkt⟩)|⟨rfl,ht0',k,rfl,hkt⟩
  .have:=dz J;simp at cu;omega
  .obtain ⟨sz,hp,ha0,rfl,aJ⟩:=cH k J;obtain⟨⟨q1,q2,q3,aH,ty,q4,q5⟩,cU⟩:=hr.obj k _ _ hp hkt;obtain⟨fO,ii⟩:∃fO,fO=t0.getD ty:=⟨_,J⟩;rw[<- ii]at q4;have hgd:t0.getD fO=fO:=by rw[ii];cases t0<;>rfl
   simp only at q1 q2 q3 q4 q5;obtain⟨_,cj,arr,ck,aW,bq⟩:=eK;obtain⟨r0,rs,hrr⟩:∃r0 rs,Y=r0::rs:=by
    cases Y with
    |nil=>exact absurd J hrne
    |cons r0 rs=>exact⟨r0,rs,J⟩
   have bz:s'=s:=by rw[<- cq r0 (by simp[hrr]),bi r0 (by simp[hrr])]
   have hss:sz=s:=(aJ hrne).trans bz;subst hss;subst bz;have aA:arr.toList.length=arr.size:=b0T;have dA:Y.length*s'+arr.toList.length<=aH.size:=by
    rw[aA,aW,q5,<- R4];exact R9 _ cu
   have aE:=P4 (P:=C.P) (b:=b) (off:=Y.length*s') (t:=fO) arr.toList 0 aH w q4 X (Src.one cj aW bq);rw[a9r]at aE;have av:(execOp ρ o).run C.P w= .ok (.value (.slice (some ⟨b,0,none⟩) (Y.length+new.length) cap)) (World.putObj w b (.cells (E8 aH (Y.length*s') arr.toList) fO (0,0))):=by
    rw[bG,hv,ha0,a0h hu dB hs ak ck cu (by rw[K0];exact aE)];rfl
   rw[av];obtain⟨bd,aG⟩:=hr.tipStore (cur':=E8 aH (Y.length*s') arr.toList) hp hkt hgd q4 (J1 _ _ _) (λo' ho'=>by
    have h0:o'<aH.size:=by
     rw[q5];exact a9p ho' (R9 _ q1)
    have h1:o'< (E8 aH (Y.length*s') arr.toList).size:=by rw[J1];exact h0
    have:=N5 arr.toList aH (Y.length*s') o' dA;rw[D (by simp only at ho';omega)]at this;simp only[a0U,a1J h0,a1J h1,a9B]at this;rw[a1J h0,a1J h1,this])
   obtain⟨aM,aX⟩:=aG.tipNew (m:=Y.length+new.length) hp hkt X cu;have cl:(M.add ⟨b,cap,s'⟩).pl[σ.length]?=some ⟨b,cap,s'⟩:=by simp[B2.add,<- hr.len]
   have bK:(σ.set k b9.dead++[b9.tipT t0 (Y.length+new.length)])[σ.length]?=some (.tipT t0 (Y.length+new.length)):=by simp
   obtain⟨fP,eZ⟩:=aX.settleCells cl bK;have hx:=(bd.trans aM).trans fP;refine⟨_,_,_,hx,eZ,?_,hk⟩;have hbs:b<w.heap.size:=(a1Z.1 q4).1;have aN:∀q,q<aH.size->(World.putObj w b (.cells (E8 aH (Y.length*s') arr.toList) fO (0,0))).cell? ⟨b,q,none⟩=some ((E8 aH (Y.length*s') arr.toList).getD q undef):=λq hq=>by
    have:q< (E8 aH (Y.length*s') arr.toList).size:=by rw[J1];exact hq
    simp[World.cell?,World.putObj_same w _ hbs,this]
   have hq:∀i j r c,(Y++new)[i]?=some r->r[j]?=some c->i*s'+j< (Y.length+new.length)*s':=λi j r c hi hj=>by
    have bm:=(n_3.1 hi).1;rw[bT]at bm;have cc:j<s':=by have:=(n_3.1 hj).1;rwa[bS r (n_2 hi)]at this
    have:(i+1)*s'<=(Y.length+new.length)*s':=R9 _ bm;rw[R4]at this;omega
   have hqc:(Y.length+new.length)*s'<=aH.size:=by rw[q5];exact R9 _ cu
   refine RV.list' (b:=b) (off:=0) (s:=s') bT.symm (λi j=>(E8 aH (Y.length*s') arr.toList).getD (i*s'+j) undef) (by rw[bT];exact cu) q2 J (λh=>by cases h) a0b bS (λr hr c hc=>?_) (λi j r c hi hj=>⟨.inr (.inr ⟨J,by rw[K0];exact hq i j r c hi hj⟩),by rw[K0];exact aN _ (a9p (hq i j r c hi hj) hqc)⟩) (λi j r c hi hj=>?_) (λk' aK=>⟨s',?_,J,J,λ_=>J⟩)
   .rcases J5.1 hr with h|h
    .exact aQ r h c hc
    .obtain ⟨i,hi⟩:=N0.1 h;obtain⟨j,hj⟩:=N0.1 hc;exact(bq i j r c hi hj).2
   .rw [N5 _ _ _ _ dA];rw[a7p]at hi;split at hi
    .rename_i ab;have cc:j<s':=by have:=(n_3.1 hj).1;rwa[bi r (n_2 hi)]at this
     have hql:i*s'+j<Y.length*s':=by
      have:(i+1)*s'<=Y.length*s':=R9 _ ab;rw[R4]at this;omega
     rw[D X];have h3:=(hc i j r c hi hj).2;rw[K0]at h3;have h4:w.cell? ⟨b,i*s'+j,none⟩=some (aH.getD (i*s'+j) undef):=by
      have:i*s'+j<aH.size:=by omega
      simp[World.cell?,q4,this]
     rw[h4]at h3;injection h3 with h3
     rw[h3];exact(bh i j r c hi hj).mono hx
    .rename_i aF;have bm:=(n_3.1 hi).1;have cc:j<s':=by have:=(n_3.1 hj).1;rwa[cj r (n_2 hi)]at this
     have e1:(i-Y.length)*s'=i*s'-Y.length*s':=Nat.sub_mul _ _ _;have e2:Y.length*s'<=i*s':=R9 _ X;have e3:(i-Y.length+1)*s'<=new.length*s':=R9 _ bm;rw[R4]at e3;rw[F (by rw[aA,aW];omega)];have:=(bq _ j r c hi hj).1.mono hx;rw[show i*s'+j-Y.length*s'=(i-Y.length)*s'+j from by omega];simpa using this
   .injection aK with aK
    subst aK;exact cl
  .
   obtain⟨sz,hp,ha0,rfl,_⟩:=cH k J;obtain⟨⟨q1,q2,q3,aH,ty,q4,q5⟩,cU⟩:=hr.obj k _ _ hp hkt;have aJ:sz=s:=(q3.2 (by rw[ht0'];rfl)).trans (hts (by rw[ht0'];rfl)).symm;obtain⟨fO,ii⟩:∃fO,fO=t0.getD ty:=⟨_,J⟩;rw[<- ii]at q4;have hgd:t0.getD fO=fO:=by rw[ii];cases t0<;>rfl
   simp only at q1 q2 q3 q4 q5;subst aJ;obtain⟨_,cj,arr,ck,aW,bq⟩:=eK;have aA:arr.toList.length=arr.size:=b0T;have dy:([]:List (List CV)).length=0:=J;rw[dy]at cu bj hv bT hb bk hk;rw[K0]at cu hk;have dA:0+arr.toList.length<=aH.size:=by
    rw[aA,aW,q5,K0];exact R9 _ cu
   have aE:=P4 (P:=C.P) (b:=b) (off:=0) (t:=fO) arr.toList 0 aH w q4 X (Src.one cj aW bq);rw[a9r]at aE;have av:(execOp ρ o).run C.P w= .ok (.value (.slice (some ⟨b,0,none⟩) new.length cap)) (World.putObj w b (.cells (E8 aH 0 arr.toList) fO (0,0))):=by
    have:=a0h (P:=C.P) (ty:=o.type) (b:=b) (off:=0) (n:=0) (m:=new.length) (c:=cap) hu dB hs ak ck X (by rw[b5I];exact aE);rw[K0]at this;rw[bG,hv,ha0,this];rfl
   rw[av];obtain⟨bd,aG⟩:=hr.tipStore (cur':=E8 aH 0 arr.toList) hp hkt hgd q4 (J1 _ _ _) (λo' ho'=>by simp at ho');obtain⟨aM,aX⟩:=aG.tipNew (m:=new.length) hp hkt (n_4 _) cu;have cl:(M.add ⟨b,cap,sz⟩).pl[σ.length]?=some ⟨b,cap,sz⟩:=by simp[B2.add,<- hr.len]
   have bK:(σ.set k b9.dead++[b9.tipT t0 new.length])[σ.length]?=some (.tipT t0 new.length):=by simp
   obtain⟨fP,eZ⟩:=aX.settleCells cl bK;have hx:=(bd.trans aM).trans fP;refine⟨_,_,_,hx,eZ,?_,hk⟩;have hbs:b<w.heap.size:=(a1Z.1 q4).1;have aN:∀q,q<aH.size->(World.putObj w b (.cells (E8 aH 0 arr.toList) fO (0,0))).cell? ⟨b,q,none⟩=some ((E8 aH 0 arr.toList).getD q undef):=λq hq=>by
    have:q< (E8 aH 0 arr.toList).size:=by rw[J1];exact hq
    simp[World.cell?,World.putObj_same w _ hbs,this]
   have hq:∀i j r c,new[i]?=some r->r[j]?=some c->i*sz+j<new.length*sz:=λi j r c hi hj=>by
    have bm:=(n_3.1 hi).1;have cc:j<sz:=by have:=(n_3.1 hj).1;rwa[cj r (n_2 hi)]at this
    have:(i+1)*sz<=new.length*sz:=R9 _ bm;rw[R4]at this;omega
   have hqc:new.length*sz<=aH.size:=by rw[q5];exact R9 _ cu
   refine RV.list' (b:=b) (off:=0) (s:=sz) J (λi j=>(E8 aH 0 arr.toList).getD (i*sz+j) undef) cu q2 J (λh=>by cases h) a0b cj (λr hr c hc=>?_) (λi j r c hi hj=>⟨.inr (.inr ⟨J,by rw[K0];exact hq i j r c hi hj⟩),by rw[K0];exact aN _ (a9p (hq i j r c hi hj) hqc)⟩) (λi j r c hi hj=>?_) (λk' aK=>⟨sz,?_,J,J,λ_=>J⟩)
   .obtain ⟨i,hi⟩:=N0.1 hr;obtain⟨j,hj⟩:=N0.1 hc;exact(bq i j r c hi hj).2
   .rw [N5 _ _ _ _ dA];rw[F (by rw[aA,aW];have:=hq i j r c hi hj;omega)];have:=(bq i j r c hi hj).1.mono hx;simpa using this
   .injection aK with aK
    subst aK;exact cl
 .
  obtain⟨dX,gQ⟩:=hr.drewN;have ez:=a1s (C:=C) (a6p h1) bi;have hsn':=aT M w.drew _ dX (a6p h2);rw[hv]at ez;obtain⟨a1,c1,eu,_,_,old,hfo,dM,fa⟩:=ez;obtain⟨_,cj,arr,ck,aW,bq⟩:=hsn';obtain⟨c',bW,cr,av⟩:=Y8 (P:=C.P) (ty:=o.type) (a:=a) (c:=cap) (w:=w) hu dB hs df hz ak hfo ck X bk hb;rw[bG,hv,av];simp only[Result.andThen_ok];have fZ:w.drew.heap.size=w.heap.size:=J;rw[<- fZ];have hrk:=dX.kill tok;have ij:=b8t σ tok;have dN:(old++arr++Builtin.zeroCells z.cells (c'- (Y.length+new.length))).size=c'*s:=by
   simp only[b8u,X4,dM,aW,bL];rw[<- R4,<- R4]
   congr 1;omega
  have aX:=hrk.alloc ⟨w.drew.heap.size,c',s⟩ (.cells (old++arr++Builtin.zeroCells z.cells (c'- (Y.length+new.length))) e) (.tipT t0 (Y.length+new.length)) J
   ⟨bW,by unfold maxLen;simp only;omega,⟨λo' ho'=>by have:=dX.blk _ _ (.inr ho');simp only at this;omega,hts⟩,_,e,by rw[show t0.getD e=e from by rcases ht0 with h|h<;>rw[h]<;>rfl];exact B3 _ _,dN⟩
  have aM:=Ext.alloc hrk ⟨w.drew.heap.size,c',s⟩ (.cells (old++arr++Builtin.zeroCells z.cells (c'- (Y.length+new.length))) e);have cl:(M.add ⟨w.drew.heap.size,c',s⟩).pl[σ.length]?=some ⟨w.drew.heap.size,c',s⟩:=by simp[B2.add,<- hr.len]
  have bK:(kill σ tok++[b9.tipT t0 (Y.length+new.length)])[σ.length]?=some (.tipT t0 (Y.length+new.length)):=by rw[<- ij];simp
  obtain⟨fP,eZ⟩:=aX.settleCells cl bK;have hx:=(gQ.trans aM).trans fP;refine⟨_,_,_,hx,eZ,?_,hk⟩;have aq:=a24 (rest:=Builtin.zeroCells z.cells (c'- (Y.length+new.length))) dM aW bi cj (λi j r c hi hj=>(fa i j r c hi hj).1) (λi j r c hi hj=>(bq i j r c hi hj).1);have hq:∀i j r c,(Y++new)[i]?=some r->r[j]?=some c->i*s+j< (Y.length+new.length)*s:=λi j r c hi hj=>by
   have bm:=(n_3.1 hi).1;rw[bT]at bm;have cc:j<s:=by have:=(n_3.1 hj).1;rwa[bS r (n_2 hi)]at this
   have:(i+1)*s<=(Y.length+new.length)*s:=R9 _ bm;rw[R4]at this;omega
  refine RV.list' (b:=w.drew.heap.size) (off:=0) (s:=s) bT.symm (λi j=>(old++arr++Builtin.zeroCells z.cells (c'- (Y.length+new.length))).getD (i*s+j) undef) (by rw[bT];exact bW) (by unfold maxLen;omega) J (λh=>by cases h) a0b bS (λr hr c hc=>?_) (λi j r c hi hj=>⟨.inr (.inr ⟨J,by rw[K0];exact hq i j r c hi hj⟩),?_⟩) (λi j r c hi hj=>?_) (λk' aK=>⟨s,?_,J,J,λ_=>J⟩)
  .rcases J5.1 hr with h|h
   .obtain ⟨i,hi⟩:=N0.1 h;obtain⟨j,hj⟩:=N0.1 hc;exact(fa i j r c hi hj).2
   .obtain ⟨i,hi⟩:=N0.1 h;obtain⟨j,hj⟩:=N0.1 hc;exact(bq i j r c hi hj).2
  .rw [K0,World.cell?_alloc_new];have:=(aq i j r c hi hj).1;rw[a1J this,a0U,a1J this];rfl
  .exact (aq i j r c hi hj).2.mono (aM.trans fP)
  .injection aK with aK
   subst aK;exact cl
theorem a9y{tok:Option Nat}{ti:TypeInfo}(ho:o.op = .call {callee:=.builtin .append,args:=#[x,y],argTypes:=#[t,t2]})(hx:E.valid x)(hy:E.valid y)(ex:E.val C x= .list Y nn tok)
 (aT:∀M w v,Rel C M σ w->RV M w (E.val C y) v->c1L C w M new s v)(hu:∀w,(underlying t).run C.P w= .ok (.slice e) w)(hs:∀w,(sizeOf e).run C.P w= .ok s w)(df:∀w,(typeInfo e).run C.P w= .ok ti w)(hz:∀w,(zeroValue e).run C.P w= .ok z w)(bL:z.cells.size=s)
 (dB:(∀w,(underlying t2).run C.P w= .ok (.slice e) w)\/∀w,(underlying t2).run C.P w= .ok .string w)(ht0:t0=none\/t0=some e)(hts:t0.isSome=true->s=1)(cd:c4y t0 σ Y nn tok)(bi:∀r∈Y,r.length=s)(dg:new≠[])(hb:(Y.length+new.length)*ti.bytes<=140737488355328)(bk:Y.length+new.length<=9223372036854775807)
 (hk:K (.ret (.list (Y++new) true (some σ.length))) (kill σ tok++[.tipT t0 (Y.length+new.length)])):H4 C σ E o K:=
 b2C ho hx hy ex aT hu hs df hz bL dB ht0 hts (.inl cd) bi dg hb bk hk
theorem b7F{tok:Option Nat}{ti:TypeInfo}(ho:o.op = .call {callee:=.builtin .append,args:=#[x,y],argTypes:=#[t,t]})(hx:E.valid x)(hy:E.valid y)(ex:E.val C x= .list Y nn tok)
 (aT:∀M w v,Rel C M σ w->RV M w (E.val C y) v->Src C M w new s v)(hu:∀w,(underlying t).run C.P w= .ok (.slice e) w)(hs:∀w,(sizeOf e).run C.P w= .ok s w)(df:∀w,(typeInfo e).run C.P w= .ok ti w)(hz:∀w,(zeroValue e).run C.P w= .ok z w)(bL:z.cells.size=s)
 (cd:d9K σ Y nn tok)(bi:∀r∈Y,r.length=s)(dg:new≠[])(hb:(Y.length+new.length)*ti.bytes<=140737488355328)(bk:Y.length+new.length<=9223372036854775807)
 (hk:K (.ret (.list (Y++new) true (some σ.length))) (kill σ tok++[.tip (Y.length+new.length)])):H4 C σ E o K:=
 a9y ho hx hy ex (λM w v hr h=>(aT M w v hr h).any) hu hs df hz bL (.inl hu) (.inl J) (λh=>by cases h) cd bi dg hb bk hk
end
section
def c1T(z:Value):List CV:=(I5 z).cells
theorem d7Q(bP:M6 z=true)(cL:(I5 z).one=true\/∃cs,I5 z= .agg cs)(bL:z.cells.size=s)(aA:∀q,q<n*s->arr.getD q undef=z.cells.getD (q%s) undef)(i j:Nat)(r:List CV)(c:CV)(hi:(List.replicate n (c1T z))[i]?=some r)(hj:r[j]?=some c):
 RV M w c (arr.getD (i*s+j) undef)/\c.one=true:=by
 have eW:RV M w (I5 z) z:=a0D bP;obtain⟨g1,g2,g3⟩:=eW.cells cL;rw[d1M]at hi;split at hi
 .rename_i bF;injection hi with hi
  subst hi;have cc:=(n_3.1 hj).1;have hjs:j<s:=by rw[<- bL,g1];exact cc
  have hq:i*s+j<n*s:=by
   have:(i+1)*s<=n*s:=R9 _ bF;rw[R4]at this;omega
  rw[aA _ hq,(c10 hjs).2];exact⟨g3 j c hj,g2 c (n_2 hj)⟩
 .cases hi
theorem c0K(bP:M6 z=true)(cL:(I5 z).one=true\/∃cs,I5 z= .agg cs)(bL:z.cells.size=s):(c1T z).length=s:=by
 have eW:RV ⟨[],λ_=>False,λ_ _=>False,λ_=>False⟩ default (I5 z) z:=a0D bP;have:=(eW.cells cL).1;rw[bL]at this;exact this.symm
theorem b4z{z:Array Value}{q:Nat}(hs:z.size=s)(hq:q<n*s):((Array.range (n*s)).map (z[·%z.size]!)).getD q undef=z.getD (q%s) undef:=by
 have h0:0<s:=by
  rcases b0J s with h|h
  .subst h;simp at hq
  .exact h
 have hms:q%s<s:=a4l _ h0;simp[hq,hs,hms]
theorem c2R{c:Nat}{kx ky:IntKind}{b:Int}{ti:TypeInfo}(ho:o.op = .makeSlice t x y)(hx:E.valid x)(hy:E.valid y)(ex:E.val C x= .val (.int kx a))(ey:E.val C y= .val (.int ky b))(ha:a=n)(hb:b=c)
 (hu:∀w,(underlying t).run C.P w= .ok (.slice e) w)(hs:∀w,(sizeOf e).run C.P w= .ok s w)(df:∀w,(typeInfo e).run C.P w= .ok ti w)(hz:∀w,(zeroValue e).run C.P w= .ok z w)(bP:M6 z=true)(cL:(I5 z).one=true\/∃cs,I5 z= .agg cs)(bL:z.cells.size=s)
 (hnc:n<=c)(bk:c<=9223372036854775807)(hby:ti.bytes*c<=281474976710656)(hk:K (.ret (.vec σ.length 0 n)) (σ++[.vec s (List.replicate n (c1T z))])):H4 C σ E o K:=λM w ρ hr hh=>by
 subst ha hb;have h1:=hh x w8 hx;have h2:=hh y w8 hy;rw[ex]at h1;rw[ey]at h2;have e1:IntKind.i64.wrap (n:Int)=n:=b0W X X;have e2:IntKind.i64.wrap (c:Int)=c:=b0W X X;have e3:((ti.bytes:Int)*(c:Int) > 2^48)=False:=by
  have h:((ti.bytes*c:Nat):Int)<=281474976710656:=by omega
  rw[Int.natCast_mul]at h;simp;omega
 have aN:(if c*s=0 then(#[]:Array Value)else z.cells)=(if c*s=0 then #[]else z.cells):=J;have hnlt:¬((c:Int)<n):=by omega
 have av:(execOp ρ o).run C.P w= .ok (.value (.slice (some ⟨w.heap.size,0,none⟩) n c)) (w.alloc (.cells ((Array.range (c*s)).map (z.cells[·%z.cells.size]!)) e)):=by
  have e4:¬(2^48< (ti.bytes:Int)*(c:Int)):=I e3;by_cases h0:c*s=0
  .have er:Array.range 0= #[]:=J;simp[execOp,ho,Instr.makeSlice,hu,r4 h1,r4 h2,asInt,asIntOf,df,e1,e2,hs,h0,newRow,er,hnlt]at e4⊢;intro h;exfalso
   rcases h with(h|h)|h<;>omega
  .simp [execOp,ho,Instr.makeSlice,hu,r4 h1,r4 h2,asInt,asIntOf,df,e1,e2,hs,h0,hz,newRow,hnlt]at e4⊢;intro h;exfalso
   rcases h with(h|h)|h<;>omega
 rw[av];have hx:=Ext.alloc hr ⟨w.heap.size,c,s⟩ (.cells ((Array.range (c*s)).map (z.cells[·%z.cells.size]!)) e);have fY:=c0K bP cL bL;refine⟨.vec σ.length 0 n,_,_,hx,hr.alloc ⟨w.heap.size,c,s⟩ _ (.vec s (List.replicate n (c1T z))) J ⟨J,I hnc,by unfold maxLen;simp only;omega,λr hr=>by rw[(List.mem_replicate.1 hr).2,fY],λr hr c hc=>?_,_,e,B3 _ _,H,λi j r c' hi hj=>?_⟩,?_,hk⟩
 .rw [(List.mem_replicate.1 hr).2]at hc;have eW:RV M w (I5 z) z:=a0D bP;exact(eW.cells cL).2.1 c hc
 .exact (d7Q (n:=n) bP cL bL (λq hq=>b4z bL (a9p hq (R9 _ hnc))) i j r c' hi hj).1
 .have:=RV.vec (M:=M.add ⟨w.heap.size,c,s⟩) (w:=w.alloc (.cells ((Array.range (c*s)).map (z.cells[·%z.cells.size]!)) e)) (k:=σ.length) (off:=0) (len:=n) (p:=⟨w.heap.size,c,s⟩) (a:=⟨w.heap.size,0,none⟩) b0n (I hnc) (by unfold maxLen;simp only;omega) (λ_=>by simp);exact this
theorem d4v{len:Nat}(ho:o.op = .call {callee:=.builtin .clear,args:=#[x],argTypes:=#[t]})(hx:E.valid x)(ex:E.val C x= .vec k off len)
 (hu:∀w,(underlying t).run C.P w= .ok (.slice e) w)(hz:∀w,(zeroValue e).run C.P w= .ok z w)(bP:M6 z=true)(cL:(I5 z).one=true\/∃cs,I5 z= .agg cs)(bL:z.cells.size=s)(aK:σ[k]?=some (.vec s Y))(hl:off+len<=Y.length)
 (hk:K (.ret (.val (.tuple #[]))) (σ.set k (.vec s (J3 Y off (List.replicate len (c1T z)))))):H4 C σ E o K:=λM w ρ hr hh=>by
 have h1:=hh x H9 hx;rw[ex]at h1;generalize hv:ρ x=v at h1;cases h1 with
 |vec hp g1 g2 g3=>
  rename_i p a;have dO:=(hr.obj k p _ hp aK).1;have bj:Y.length<=p.cap:=dO.2.1;have cm:p.size=s:=dO.1;have fY:=c0K bP cL bL;have hzc:(Builtin.zeroCells z.cells len)=(Array.range (len*s)).map (z.cells[·%z.cells.size]!):=by simp[Builtin.zeroCells,bL]
  obtain⟨w',aE,aC,bp⟩:=a4I hr hp aK (p:=off) (new:=List.replicate len (c1T z)) (arr:=Builtin.zeroCells z.cells len) X K5 (λr hr=>by rw[(List.mem_replicate.1 hr).2,fY]) (by simp[X4,bL])
   (λi j r c hi hj=>d7Q (n:=len) bP cL bL (λq hq=>by rw[hzc];exact b4z bL hq) i j r c hi hj)
  have av:(execOp ρ o).run C.P w= .ok (.value (.tuple #[])) w':=by
   rcases len with _|len
   .have fm:(Builtin.zeroCells z.cells 0).toList=[]:=by simp[Builtin.zeroCells]
    rw[fm]at aE;have:w'=w:=by
     have h2:(storeCells ⟨p.block,off*s,none⟩ []).run C.P w= .ok () w:=by simp[storeCells]
     rw[h2]at aE;injection aE with _ h3
     exact h3.symm
    subst this;simp[execOp,ho,resolve,invoke,builtin,Builtin.clear_,hu,hv]
   .have hst':(storeCells a (Builtin.zeroCells z.cells (len+1)).toList).run C.P w= .ok () w':=by
     rw[g3 X,cm];exact aE
    simp[execOp,ho,resolve,invoke,builtin,Builtin.clear_,hu,hv,hz,hst']
  rw[av];exact⟨_,_,M,aC,bp,.val _,hk⟩
theorem b6C{len:Nat}(ho:o.op = .call {callee:=.builtin .append,args:=#[x,y],argTypes:=#[t,t]})(hx:E.valid x)(hy:E.valid y)(ex:E.val C x= .vec k off len)
 (aT:∀M w v,Rel C M σ w->RV M w (E.val C y) v->Src C M w new s v)(hu:∀w,(underlying t).run C.P w= .ok (.slice e) w)(hs:∀w,(sizeOf e).run C.P w= .ok s w)(aK:σ[k]?=some (.vec s Y))(hl:off+len+new.length<=Y.length)
 (hk:K (.ret (.vec k off (len+new.length))) (σ.set k (.vec s (J3 Y (off+len) new)))):H4 C σ E o K:=λM w ρ hr hh=>by
 have h1:=hh x H9 hx;have h2:=hh y H9 hy;rw[ex]at h1;have eK:=aT M w _ hr h2;have ak:=eK.lenOf;generalize hv:ρ x=v at h1;cases h1 with
 |vec hp g1 g2 g3=>
  rename_i p a;obtain⟨an,cn,hvn,_,cj,arr,ck,aW,bq⟩:=eK;have dO:=(hr.obj k p _ hp aK).1;have bj:Y.length<=p.cap:=dO.2.1;have cm:p.size=s:=dO.1;obtain⟨w',aE,aC,bp⟩:=a4I hr hp aK (p:=off+len) (new:=new) X X cj aW bq;have cu:len+new.length<=p.cap -off:=by omega
  have av:(execOp ρ o).run C.P w= .ok (.value (.slice (some a) (len+new.length) (p.cap -off))) w':=by
   rcases b0J new.length with h0|h0
   .have fm:arr.toList=[]:=b2K (by simp[aW,h0]);have aA:arr= #[]:=I fm;rw[fm]at aE;have:w'=w:=by
     have h2:(storeCells ⟨p.block,(off+len)*s,none⟩ []).run C.P w= .ok () w:=by simp[storeCells]
     rw[h2]at aE;injection aE with _ h3
     exact h3.symm
    subst this;have hfit':len<=p.cap -off:=by omega
    rw[h0]at ck ak;simp[execOp,ho,resolve,invoke,builtin,Builtin.append_,hu,hs,hv,ak,h0,hfit',ck,aA,storeCells]
   .have ha:=g3 X;have:=a0h (P:=C.P) (ty:=o.type) (b:=p.block) (off:=off*p.size) (n:=len) (m:=new.length) (c:=p.cap -off) hu (.inl hu) hs ak ck cu (by rw[cm,<- R4];exact aE);rw[<- ha]at this;simp[execOp,ho,resolve,invoke,builtin,hv,this]
  rw[av];refine⟨_,_,M,aC,bp,?_,hk⟩;exact .vec hp X g2 g3
theorem c2E{ti:TypeInfo}(ho:o.op = .call {callee:=.builtin .append,args:=#[x,y],argTypes:=#[t,t]})(hx:E.valid x)(hy:E.valid y)(ex:E.val C x= .vec k 0 Y.length)
 (aT:∀M w v,Rel C M σ w->RV M w (E.val C y) v->Src C M w new s v)(hu:∀w,(underlying t).run C.P w= .ok (.slice e) w)(hs:∀w,(sizeOf e).run C.P w= .ok s w)(df:∀w,(typeInfo e).run C.P w= .ok ti w)(hz:∀w,(zeroValue e).run C.P w= .ok z w)(bL:z.cells.size=s)
 (aK:σ[k]?=some (.vec s Y))(dg:new≠[])(hb:(Y.length+new.length)*ti.bytes<=140737488355328)(bk:Y.length+new.length<=9223372036854775807)
 (hk:K (.ret (.vec σ.length 0 (Y.length+new.length))) (σ.set k .dead++[.vec s (Y++new)])):H4 C σ E o K:=λM w ρ hr hh=>by
 have h1:=hh x H9 hx;have h2:=hh y H9 hy;rw[ex]at h1;have gI:0<new.length:=a81.2 dg;have hsx:=a7q hr h1 aK (Nat.le_of_eq (K0 _));rw[b0Q,a6K]at hsx;have ak:=(aT M w _ hr h2).lenOf;have bG:(execOp ρ o).run C.P w=((Builtin.append_ #[t,t] o.type #[ρ x,ρ y]).run C.P w).andThen λv w=>.ok (.value v) w:=by
  simp[execOp,ho,resolve,invoke,builtin]
 generalize hv:ρ x=v at h1 hsx;cases h1 with
 |vec hp g1 g2 g3=>
  rename_i p a;have dO:=(hr.obj k p _ hp aK).1;have bj:Y.length<=p.cap:=dO.2.1;have cm:p.size=s:=dO.1;subst cm;by_cases cu:Y.length+new.length<=p.cap
  .obtain ⟨an,cn,hvn,_,cj,arr,ck,aW,bq⟩:=aT M w _ hr h2;obtain⟨w',aE,aC,bp⟩:=a4I hr hp aK (p:=Y.length) (new:=new) (n_7 _) cu cj aW bq;have ha:=g3 X;rw[b5I]at ha;have cd:=a0h (P:=C.P) (ty:=o.type) (b:=p.block) (off:=0) (n:=Y.length) (m:=new.length) (c:=p.cap -0) hu (.inl hu) hs ak ck X (by rw[K0];exact aE);rw[bG,hv,ha,cd];simp only[Result.andThen_ok];have ah:J3 Y Y.length new=Y++new:=by simp[J3]
   rw[ah]at bp;have bD:k<σ.length:=(n_3.1 aK).1;have bK:(σ.set k (.vec p.size (Y++new)))[k]?=some (.vec p.size (Y++new)):=by rw[b0L bD]
   have aM:Ext M w' (M.add p) w':=⟨⟨[p],J⟩,λ_ h=>h,λ_ _ h=>.inr h,λ_ _=>J,λ_ _ _=>J,n_7 _,U0,J,J,J,λ_ h=>⟨h,J,id,λ_=>id⟩⟩;have hd:=bp.dead k;rw[List.set_set]at hd;have hobj':=bp.obj k p _ hp bK;have aq:∀{j:Nat} {q:Pl},(M.add p).pl[j]?=some q->(j<σ.length/\M.pl[j]?=some q)\/(j=σ.length/\q=p):=by
    intro j q hj;simp only[B2.add,a7p,hr.len]at hj;split at hj
    .exact .inl ⟨‹_›,hj⟩
    .have:j-σ.length=0:=by
      have:=(n_3.1 hj).1;simp at this;omega
     rw[this]at hj;simp at hj;exact .inr ⟨X,hj.symm⟩
   have fo:∀{j:Nat} {x:b9},(σ.set k b9.dead++[b9.vec p.size (Y++new)])[j]?=some x->(j<σ.length/\(σ.set k b9.dead)[j]?=some x)\/(j=σ.length/\x= .vec p.size (Y++new)):=by
    intro j x hj;rw[a7p]at hj;split at hj
    .exact .inl ⟨by rename_i h;simpa using h,hj⟩
    .have:j- (σ.set k b9.dead).length=0:=by
      have:=(n_3.1 hj).1;simp at this⊢;omega
     rw[this]at hj;simp at hj;rename_i h2;have ak:(σ.set k b9.dead).length=σ.length:=by simp
     exact .inr ⟨X,hj.symm⟩
   have dK:∀{j:Nat} {q:Pl} {x:b9},M.pl[j]?=some q->(σ.set k b9.dead)[j]?=some x->x.live=true->q.block≠p.block:=by
    intro j q x hj du hl e;have hjk:j≠k:=by
     rintro rfl;rw[b0L bD]at du;injection du with du
     subst du;cases hl
    have eY:σ[j]?=some x:=by rwa[a2M (Ne.symm hjk)]at du
    exact hjk (hr.inj j k q p x _ hj hp eY aK hl J e)
   refine⟨.vec σ.length 0 (Y.length+new.length),_,M.add p,aC.trans aM,⟨by simp[B2.add,hr.len],λb o' ha=>bp.blk b o' ha,λj q x hj du=>?_,λj j' q q' x x' hj dq du eY hl bg hb=>?_,λg cells hg=>(bp.glob g cells hg).mono aM,bp.kep,λj q x hj du ca=>?_⟩,?_,hk⟩
   .rcases fo du with⟨ab,h⟩|⟨rfl,rfl⟩
    .rcases aq hj with⟨_,hq⟩|⟨rfl,_⟩
     .obtain ⟨h1,h2⟩:=hd.obj j q x hq h;refine⟨?_,h2⟩;by_cases hl:x.live=true
      .exact h1.mono aM J (λ_ _ _ _ h=>h)
      .cases x<;>first|trivial|simp[b9.live]at hl
     .omega
    .rcases aq hj with⟨h,_⟩|⟨_,rfl⟩
     .omega
     .exact ⟨hobj'.1.mono aM J (λ_ _ _ _ h=>h),hobj'.2⟩
   .rcases fo du with⟨ab,h⟩|⟨rfl,rfl⟩
    .rcases aq hj with⟨_,hq⟩|⟨rfl,_⟩
     .rcases fo eY with⟨bu,h'⟩|⟨rfl,rfl⟩
      .rcases aq dq with⟨_,eH⟩|⟨rfl,_⟩
       .exact hd.inj j j' q q' x x' hq eH h h' hl bg hb
       .omega
      .rcases aq dq with⟨h0,_⟩|⟨_,rfl⟩
       .omega
       .exact absurd hb (dK hq h hl)
     .omega
    .rcases aq hj with⟨h0,_⟩|⟨_,rfl⟩
     .omega
     .rcases fo eY with⟨bu,h'⟩|⟨rfl,rfl⟩
      .rcases aq dq with⟨_,eH⟩|⟨rfl,_⟩
       .exact absurd hb.symm (dK eH h' bg)
       .omega
      .rfl
   .rcases fo du with⟨ab,h⟩|⟨rfl,rfl⟩
    .rcases aq hj with⟨_,hq⟩|⟨rfl,_⟩
     .exact hd.nk j q x hq h ca
     .omega
    .rcases aq hj with⟨h0,_⟩|⟨_,rfl⟩
     .omega
     .exact hr.nk k q _ hp aK J
   .exact RV.vec (M:=M.add p) (w:=w') (k:=σ.length) (off:=0) (len:=Y.length+new.length) (p:=p) (a:=⟨p.block,0,none⟩) b0n X g2 (λ_=>by simp)
  .obtain ⟨dX,gQ⟩:=hr.drewN;have dW:RV M w.drew (.vec k 0 Y.length) (.slice (some a) Y.length (p.cap -0)):=.vec hp g1 g2 g3;have ez:=a7q dX dW aK (Nat.le_of_eq (K0 _));rw[b0Q,a6K]at ez;obtain⟨a1,c1,eu,_,bi,old,hfo,dM,fa⟩:=ez;obtain⟨an,cn,hvn,_,cj,arr,ck,aW,bq⟩:=aT M w.drew _ dX (a6p h2);obtain⟨c',bW,cr,av⟩:=Y8 (P:=C.P) (ty:=o.type) (a:=some a) (c:=p.cap -0) (w:=w) hu (.inl hu) hs df hz ak hfo ck X bk hb;rw[bG,hv,av];simp only[Result.andThen_ok];have fZ:w.drew.heap.size=w.heap.size:=J;rw[<- fZ];have hrk:=dX.dead k;have dN:(old++arr++Builtin.zeroCells z.cells (c'- (Y.length+new.length))).size=c'*p.size:=by
    simp only[b8u,X4,dM,aW,bL];rw[<- R4,<- R4]
    congr 1;omega
   have aM:=Ext.alloc hrk ⟨w.drew.heap.size,c',p.size⟩ (.cells (old++arr++Builtin.zeroCells z.cells (c'- (Y.length+new.length))) e);have bS:∀r∈Y++new,r.length=p.size:=λr hr=>by
    rcases J5.1 hr with h|h
    .exact bi r h
    .exact cj r h
   have aq:=a24 (rest:=Builtin.zeroCells z.cells (c'- (Y.length+new.length))) dM aW bi cj (λi j r c hi hj=>(fa i j r c hi hj).1) (λi j r c hi hj=>(bq i j r c hi hj).1);have aX:=hrk.alloc ⟨w.drew.heap.size,c',p.size⟩ (.cells (old++arr++Builtin.zeroCells z.cells (c'- (Y.length+new.length))) e) (.vec p.size (Y++new)) J
    ⟨J,I bW,by unfold maxLen;simp only;omega,bS,λr hr c hc=>(by
     rcases J5.1 hr with h|h
     .obtain ⟨i,hi⟩:=N0.1 h;obtain⟨j,hj⟩:=N0.1 hc;exact(fa i j r c hi hj).2
     .obtain ⟨i,hi⟩:=N0.1 h;obtain⟨j,hj⟩:=N0.1 hc;exact(bq i j r c hi hj).2),_,e,B3 _ _,dN,λi j r c hi hj=>((aq i j r c hi hj).2.mono aM)⟩
   refine⟨.vec σ.length 0 (Y.length+new.length),_,_,gQ.trans aM,aX,?_,hk⟩;exact RV.vec (M:=M.add ⟨w.drew.heap.size,c',p.size⟩) (k:=σ.length) (off:=0) (len:=Y.length+new.length) (p:=⟨w.drew.heap.size,c',p.size⟩) (a:=⟨w.drew.heap.size,0,none⟩) b0n (I bW) (by unfold maxLen;simp only;omega) (λ_=>by simp)
end
def D3.jump(l:Nat)(Ja:Env->List b9->Prop)(Jk:D3->Env->List b9->Prop):D3->Env->List b9->Prop
 | .goto l',E,σ=>l'=l/\Ja E σ
 |e,E,σ=>Jk e E σ
theorem d3U{Jk:D3->Env->List b9->Prop}{c rest:Code}(l:Nat)(Ja:Nat->Env->List b9->Prop)(hf:findLabel c l=some rest)
 (first:CWp C n c (D3.jump l (λE σ=>∃m,Ja m E σ) Jk) E σ)(pass:∀m E σ,Ja m E σ->CWp C n rest (D3.jump l (λE' aa=>∃m',m'<m/\Ja m' E' aa) Jk) E σ):CWp C n (.scope c) Jk E σ:=λM w a hr hfr=>by
 intro b k cs;have hg:gotoIn l (.inScope c::k)=some (.code rest::.inScope c::k):=by simp[gotoIn,hf]
 have key:∀m E σ M1 w1 a1,Ja m E σ->Ext M w M1 w1->Rel C M1 σ w1->L3 M1 w1 n E a1 ->
  ∃e a' w',Y1 C n Jk M w e a' w'/\Arrives C.P (lone (b.at a1 (.code rest::.inScope c::k)) cs w1) b k cs e a' w':=by
  intro m
  induction m using Nat.strongRecOn with
  |_ m ih=>
   intro E σ M1 w1 a1 hJ hx aG dF;obtain⟨e,a2,w2,hq,aA⟩:=pass m E σ hJ M1 w1 a1 aG dF b (.inScope c::k) cs;obtain⟨E',aa,M',h1,h2,h3,h4⟩:=hq;cases e with
   |normal=>exact⟨.normal,a2,w2,⟨E',aa,M',hx.trans h1,h2,h3,h4⟩,Steps.trans aA (.one step_inScope)⟩
   |exit id=>exact⟨.exit id,a2,w2,⟨E',aa,M',hx.trans h1,h2,h3,h4⟩,λk' hk=>aA k' (by simp[exitTo,hk])⟩
   |goto l'=>
    obtain⟨rfl,m',ab,hJ'⟩:=h4;obtain⟨dG,dH,dI,ci,bc⟩:=ih m' ab E' aa M' w2 a2 hJ' (hx.trans h1) h2 h3;exact⟨dG,dH,dI,ci,.of_steps (aA _ hg) bc⟩
   |ret=>exact⟨.ret,a2,w2,⟨E',aa,M',hx.trans h1,h2,h3,h4⟩,aA⟩
   |panic ch=>exact⟨.panic ch,a2,w2,⟨E',aa,M',hx.trans h1,h2,h3,h4⟩,aA⟩
   |outgrown=>exact h4.elim
 obtain⟨e,a1,w1,hq,aA⟩:=first M w a hr hfr b (.inScope c::k) cs
 obtain⟨E',aa,M',h1,h2,h3,h4⟩:=hq;cases e with
 |normal=>exact⟨.normal,a1,w1,⟨E',aa,M',h1,h2,h3,h4⟩,.head step_scope (Steps.trans aA (.one step_inScope))⟩
 |exit id=>exact⟨.exit id,a1,w1,⟨E',aa,M',h1,h2,h3,h4⟩,λk' hk=>.head step_scope (aA k' (by simp[exitTo,hk]))⟩
 |goto l'=>
  obtain⟨rfl,m,hJ⟩:=h4;obtain⟨dG,dH,dI,ci,bc⟩:=key m E' aa M' w1 a1 hJ h1 h2 h3;exact⟨dG,dH,dI,ci,.of_steps (.head step_scope (aA _ hg)) bc⟩
 |ret=>exact⟨.ret,a1,w1,⟨E',aa,M',h1,h2,h3,h4⟩,.of_steps (.one step_scope) aA⟩
 |panic ch=>exact⟨.panic ch,a1,w1,⟨E',aa,M',h1,h2,h3,h4⟩,.of_steps (.one step_scope) aA⟩
 |outgrown=>exact h4.elim
inductive Old(n:Nat):CV->Prop where
 |val (v:Value):Old n (.val v)
 |agg {cs:List CV}:(∀(i:Nat) (c:CV),cs[i]?=some c->Old n c)->Old n (.agg cs)
 |tup {cs:List CV}:(∀(i:Nat) (c:CV),cs[i]?=some c->Old n c)->Old n (.tup cs)
 |clo {f:FuncId} {cs:List CV}:(∀(i:Nat) (c:CV),cs[i]?=some c->Old n c)->Old n (.clo f cs)
 |list {Y:List (List CV)} {nn:Bool} {tok:Option Nat}:(∀(i j:Nat) (r:List CV) (c:CV),Y[i]?=some r->r[j]?=some c->Old n c)->(∀k,tok=some k->k<n)->Old n (.list Y nn tok)
 |ptr {k off:Nat}:k<n->Old n (.ptr k off)
 |cptr {cells:List CV}:(∀(j:Nat) (c:CV),cells[j]?=some c->Old n c)->Old n (.cptr cells)
 |eptr {k i off:Nat}:k<n->Old n (.eptr k i off)
 |vec {k off len:Nat}:k<n->Old n (.vec k off len)
 |map {k:Nat}:k<n->Old n (.map k)
 |yld {k:Nat}:k<n->Old n (.yld k)
theorem RV.old(h:RV M w c v):Old M.pl.length c:=by
 induction h with
 |val v=>exact .val v
 |agg _ _ _ ih=>exact .agg ih
 |tup _ _ ih=>exact .tup ih
 |clo _ _ ih=>exact .clo ih
 |list vals _ _ _ _ _ _ _ _ _ cH ih=>
  exact .list ih λk hk=>(by
   obtain⟨s',hp,_⟩:=cH k hk;exact(n_3.1 hp).1)
 |ptr hk=>exact .ptr (n_3.1 hk).1
 |cptr _ _ _ _ ih=>exact .cptr ih
 |eptr hk=>exact .eptr (n_3.1 hk).1
 |vec hk=>exact .vec (n_3.1 hk).1
 |map hk=>exact .map (n_3.1 hk).1
 |yld hk=>exact .yld (n_3.1 hk).1
structure Cut(n:Nat)(M M':B2):Prop where
 pl:M'.pl=M.pl.take n
 full:∀b,M.full b->M'.full b
 cell:∀b o,M.cell b o->M'.at b o
theorem Cut.at(h:Cut n M M'){o:Nat}(ha:M.at b o):M'.at b o:=by
 rcases ha with ha|ha
 .exact .inl (h.full _ ha)
 .exact h.cell _ _ ha
theorem Cut.get(h:Cut n M M')(hk:k<n)(hp:M.pl[k]?=some p):M'.pl[k]?=some p:=by
 rw[h.pl,a2y,F hk];exact hp
theorem RV.cut(hc:Cut n M M')(h:RV M w c v)(ho:Old n c):RV M' w c v:=by
 induction h with
 |val v=>exact .val v
 |agg h1 h2 _ ih=>cases ho with|agg ho=>exact .agg h1 h2 λi c hi=>ih i c hi (ho i c hi)
 |tup h1 _ ih=>cases ho with|tup ho=>exact .tup h1 λi c hi=>ih i c hi (ho i c hi)
 |clo h1 _ ih=>cases ho with|clo ho=>exact .clo h1 λi c hi=>ih i c hi (ho i c hi)
 |list vals h1 h2 h3 h4 h5 h6 h7 h8 _ bb ih=>
  cases ho with
  |list ho ht=>
   exact .list vals h1 h2 h3 h4 h5 h6 h7 (λi j r c hi hj=>⟨hc.at (h8 i j r c hi hj).1,(h8 i j r c hi hj).2⟩) (λi j r c hi hj=>ih i j r c hi hj (ho i j r c hi hj)) λk hk=>by
    obtain⟨s',hp,aP⟩:=bb k hk;exact⟨s',hc.get (ht k hk) hp,aP⟩
 |ptr hk=>cases ho with|ptr ho=>exact .ptr (hc.get ho hk)
 |cptr vals h1 h2 _ ih=>cases ho with|cptr ho=>exact .cptr vals h1 (λj c hj=>⟨hc.at (h2 j c hj).1,(h2 j c hj).2⟩) λj c hj=>ih j c hj (ho j c hj)
 |eptr hk=>cases ho with|eptr ho=>exact .eptr (hc.get ho hk)
 |vec hk h1 h2 h3=>cases ho with|vec ho=>exact .vec (hc.get ho hk) h1 h2 h3
 |map hk=>cases ho with|map ho=>exact .map (hc.get ho hk)
 |yld hk=>cases ho with|yld ho=>exact .yld (hc.get ho hk)
inductive Cls(n:Nat)(σ:List b9):CV->CV->Prop where
 |old {c:CV}:Old n c->Cls n σ c c
 |agg {cs aS:List CV}:cs.length=aS.length->(∀(i:Nat) (c c':CV),cs[i]?=some c->aS[i]?=some c'->Cls n σ c c')->Cls n σ (.agg cs) (.agg aS)
 |tup {cs aS:List CV}:cs.length=aS.length->(∀(i:Nat) (c c':CV),cs[i]?=some c->aS[i]?=some c'->Cls n σ c c')->Cls n σ (.tup cs) (.tup aS)
 |clo {f:FuncId} {cs aS:List CV}:cs.length=aS.length->(∀(i:Nat) (c c':CV),cs[i]?=some c->aS[i]?=some c'->Cls n σ c c')->Cls n σ (.clo f cs) (.clo f aS)
 |list {Y rows':List (List CV)} {nn:Bool} {tok:Option Nat}:Y.length=rows'.length->(∀(i:Nat) (r r':List CV),Y[i]?=some r->rows'[i]?=some r'->r.length=r'.length) ->
  (∀(i j:Nat) (r r':List CV) (c c':CV),Y[i]?=some r->rows'[i]?=some r'->r[j]?=some c->r'[j]?=some c'->Cls n σ c c')->Cls n σ (.list Y nn tok) (.list rows' nn none)
 |vec {k off len s:Nat} {Y rows':List (List CV)}:n<=k->σ[k]?=some (.vec s Y)->off+len<=Y.length->((Y.drop off).take len).length=rows'.length->(∀(i:Nat) (r r':List CV),((Y.drop off).take len)[i]?=some r->rows'[i]?=some r'->r.length=r'.length) ->
  (∀(i j:Nat) (r r':List CV) (c c':CV),((Y.drop off).take len)[i]?=some r->rows'[i]?=some r'->r[j]?=some c->r'[j]?=some c'->Cls n σ c c')->Cls n σ (.vec k off len) (.list rows' true none)
theorem Cls.one(h:Cls n σ c c')(ho:c.one=true):c'.one=true:=by
 cases h<;>first|exact ho|rfl|(simp[CV.one]at ho)
theorem r7{β:Type}{l:List α}{l':List β}(h:l.length=l'.length){x:β}(hx:l'[i]?=some x):∃y,l[i]?=some y:=by
 have:=(n_3.1 hx).1;exact⟨l[i],by simp[h,this]⟩
theorem RV.close(hr:Rel C M σ w)(hc:Cut n M M')(ik:∀(k:Nat) (p:Pl) (s:Nat) (Y:List (List CV)),n<=k->M.pl[k]?=some p->σ[k]?=some (.vec s Y)->M'.full p.block)(h:Cls n σ c c')(hv:RV M w c v):RV M' w c' v:=by
 induction h generalizing v with
 |old ho=>exact hv.cut hc ho
 |agg hl fD ih=>
  cases hv with
  |agg h1 h2 h3=>
   refine .agg X (λc hcm=>?_) (λi c' hi=>?_)
   .obtain ⟨i,hi⟩:=N0.1 hcm;obtain⟨y,hy⟩:=r7 hl hi;exact(fD i y c hy hi).one (h2 y (n_2 hy))
   .obtain ⟨y,hy⟩:=r7 hl hi;exact ih i y c' hy hi (h3 i y hy)
 |tup hl _ ih=>
  cases hv with
  |tup h1 h3=>
   refine .tup X (λi c' hi=>?_);obtain⟨y,hy⟩:=r7 hl hi;exact ih i y c' hy hi (h3 i y hy)
 |clo hl _ ih=>
  cases hv with
  |clo h1 h3=>
   refine .clo X (λi c' hi=>?_);obtain⟨y,hy⟩:=r7 hl hi;exact ih i y c' hy hi (h3 i y hy)
 |list hl gt fD ih=>
  obtain⟨a,cap,b,off,s,vals,rfl,h1,h2,h3,h4,h5,h6,h7,h8,h9,_⟩:=hv.list_inv;rename_i Y rows' nn tok;refine RV.list' hl (b:=b) (off:=off) (s:=s) vals X h2 h3 h4 (λay=>h5 λe=>ay (b2K (by rw[<- hl,e];rfl))) (λr' bp=>?_) (λr' bp c' bJ=>?_) (λi j r' c' hi hj=>?_) (λi j r' c' hi hj=>?_) (λk hk=>by cases hk)
  .obtain ⟨i,hi⟩:=N0.1 bp;obtain⟨r,bM⟩:=r7 hl hi;rw[<- gt i r r' bM hi];exact h6 r (n_2 bM)
  .obtain ⟨i,hi⟩:=N0.1 bp;obtain⟨r,bM⟩:=r7 hl hi;obtain⟨j,hj⟩:=N0.1 bJ;obtain⟨c,eL⟩:=r7 (gt i r r' bM hi) hj;exact(fD i j r r' c c' bM hi eL hj).one (h7 r (n_2 bM) c (n_2 eL))
  .obtain ⟨r,bM⟩:=r7 hl hi;obtain⟨c,eL⟩:=r7 (gt i r r' bM hi) hj;exact⟨hc.at (h8 i j r c bM eL).1,(h8 i j r c bM eL).2⟩
  .obtain ⟨r,bM⟩:=r7 hl hi;obtain⟨c,eL⟩:=r7 (gt i r r' bM hi) hj;exact ih i j r r' c c' bM hi eL hj (h9 i j r c bM eL)
 |vec hk ao aO hl gt fD ih=>
  cases hv with
  |vec hp g1 g2 g3=>
   rename_i k off len s Y rows' p a;have hfp:=ik k p s Y hk hp ao;obtain⟨⟨cm,q1,q2,q3,q4,arr,ty,q5,q6,q7⟩,_⟩:=hr.obj k p _ hp ao;have ak:((Y.drop off).take len).length=len:=by simp;omega
   have aq:∀i r,((Y.drop off).take len)[i]?=some r->i<len/\Y[off+i]?=some r:=λi r hi=>by
    rw[a2y]at hi;split at hi
    .rw [a5z]at hi;exact⟨‹_›,hi⟩
    .cases hi
   have ga:rows'≠[]->off<p.cap:=λay=>by
    have:0<rows'.length:=a81.2 ay;omega
   refine RV.list' (L:=len) X (b:=p.block) (off:=off*p.size) (s:=p.size) (λi j=>arr.getD ((off+i)*p.size+j) undef) X X J (λh=>by cases h) (λay=>by rw[g3 (ga ay)]) (λr' bp=>?_) (λr' bp c' bJ=>?_) (λi j r' c' hi hj=>?_) (λi j r' c' hi hj=>?_) (λk hk=>by cases hk)
   .obtain ⟨i,hi⟩:=N0.1 bp;obtain⟨r,bM⟩:=r7 hl hi;rw[<- gt i r r' bM hi];exact q3 r (n_2 (aq i r bM).2)
   .obtain ⟨i,hi⟩:=N0.1 bp;obtain⟨r,bM⟩:=r7 hl hi;obtain⟨j,hj⟩:=N0.1 bJ;obtain⟨c,eL⟩:=r7 (gt i r r' bM hi) hj;exact(fD i j r r' c c' bM hi eL hj).one (q4 r (n_2 (aq i r bM).2) c (n_2 eL))
   .obtain ⟨r,bM⟩:=r7 hl hi;obtain⟨c,eL⟩:=r7 (gt i r r' bM hi) hj;obtain⟨bm,hri⟩:=aq i r bM;have cc:j<p.size:=by have:=(n_3.1 eL).1;rwa[q3 r (n_2 hri)]at this
    have hq:(off+i)*p.size+j<arr.size:=by
     rw[q6];have:(off+i+1)*p.size<=p.cap*p.size:=R9 _ X;rw[R4 (off+i)]at this;omega
    refine⟨.inl hfp,?_⟩;rw[show off*p.size+i*p.size+j=(off+i)*p.size+j from by rw[R4 off]];simp[World.cell?,q5,hq]
   .obtain ⟨r,bM⟩:=r7 hl hi;obtain⟨c,eL⟩:=r7 (gt i r r' bM hi) hj;exact ih i j r r' c c' bM hi eL hj (q7 _ _ _ _ (aq i r bM).2 eL)
def B2.cutAt(M:B2)(n:Nat)(σ:List b9):B2:=
 {pl:=M.pl.take n,full:=λb=>M.full b\/∃k p ob,n<=k/\M.pl[k]?=some p/\σ[k]?=some ob/\ob.live=true/\p.block=b,cell:=M.cell,keep:=M.keep}
theorem Rel.cut{az:List b9}(h0:Rel C M0 σ w0)(hx:Ext M0 w0 M w)(hr:Rel C M (σ++az) w):
 Rel C (M.cutAt σ.length (σ++az)) σ w/\Cut σ.length M (M.cutAt σ.length (σ++az))/\Ext M0 w0 (M.cutAt σ.length (σ++az)) w:=by
 have aR:Cut σ.length M (M.cutAt σ.length (σ++az)):=⟨J,λ_ h=>.inl h,λ_ _ h=>.inr h⟩;obtain⟨l,hl⟩:=hx.pl;have ba:(M.cutAt σ.length (σ++az)).pl=M0.pl:=by
  show M.pl.take σ.length=M0.pl;rw[hl,<- h0.len,List.take_left]
 have aC:Ext M0 w0 (M.cutAt σ.length (σ++az)) w:=⟨⟨[],by rw[ba];simp⟩,λb h=>.inl (hx.full b h),λb o h=>aR.at (hx.cell b o h),hx.same,hx.sameC,hx.size,hx.drew,hx.os,hx.tape,hx.output,λb hb=>(by
  obtain⟨k1,k2,k3,k4⟩:=hx.kept b hb;refine⟨k1,k2,λf=>?_,k4⟩
  rcases f with f|⟨k,p,ob,_,hp,hs,ca,rfl⟩
  .exact k3 f
  .exact absurd k1 (hr.nk k p ob hp hs ca))⟩
 have aq:∀{k:Nat} {p:Pl},(M.cutAt σ.length (σ++az)).pl[k]?=some p->k<σ.length/\M.pl[k]?=some p/\M0.pl[k]?=some p:=by
  intro k p hk;have h1:M0.pl[k]?=some p:=by rw[<- ba];exact hk
  have ab:k<σ.length:=by rw[<- h0.len];exact(n_3.1 h1).1
  exact⟨ab,hx.get h1,h1⟩
 have ao:∀{k:Nat} {ob:b9},σ[k]?=some ob->(σ++az)[k]?=some ob:=by
  intro k ob h;rw[R8 (n_3.1 h).1];exact h
 refine⟨⟨by rw[ba,h0.len],λb o ha=>?_,λk p ob hk hs=>?_,λk k' p p' ob aL hk aK hs aU cp cb hb=>hr.inj k k' p p' ob aL (aq hk).2.1 (aq aK).2.1 (ao hs) (ao aU) cp cb hb,λg cells hg=>(h0.glob g cells hg).mono aC,hr.kep,λk p ob hk hs ca=>hr.nk k p ob (aq hk).2.1 (ao hs) ca⟩,aR,aC⟩
 .rcases ha with(ha|⟨k,p,ob,_,hp,hs,hl,rfl⟩)|ha
  .exact hr.blk b o (.inl ha)
  .exact (hr.obj k p ob hp hs).1.lt hl
  .exact hr.blk b o (.inr ha)
 .obtain ⟨ab,hp,hp0⟩:=aq hk;obtain⟨h1,h2⟩:=hr.obj k p ob hp (ao hs);have fE:=(h0.obj k p ob hp0 hs).1;have gb:ob.live=true->¬M.full p.block->¬(M.cutAt σ.length (σ++az)).full p.block:=λca gb h=>by
   rcases h with h|⟨k',p',aL,aK,aI,aU,bg,hb⟩
   .exact gb h
   .have:=hr.inj k' k p' p aL ob aI hp aU (ao hs) bg ca hb;omega
  have old:∀{c:CV} {v v':Value},RV M0 w0 c v'->RV M w c v->RV (M.cutAt σ.length (σ++az)) w c v:=λh h'=>h'.cut aR (by rw[<- h0.len];exact h.old);refine⟨?_,?_⟩
  .cases ob with
   |dead=>trivial
   |boxT t0 cells=>
    obtain⟨arr,ty,e1,e2,e3,e4⟩:=h1;obtain⟨arr0,ty0,f1,f2,f3,f4⟩:=fE;exact⟨arr,ty,e1,e2,e3,λi c hi=>old (f4 i c hi) (e4 i c hi)⟩
   |tipT t0 m=>exact h1
   |blk o=>exact h1
   |lp o n cs=>
    obtain⟨tm,e1,e2,e3⟩:=h1;obtain⟨tm0,f1,f2,f3⟩:=fE;exact⟨tm,e1,e2,λx hi=>old (f3 x hi) (e3 x hi)⟩
   |vec s Y=>
    obtain⟨e0,e1,e2,e3,e4,arr,ty,e5,e6,e7⟩:=h1;obtain⟨f0,f1,f2,f3,f4,arr0,ty0,f5,f6,f7⟩:=fE;exact⟨e0,e1,e2,e3,e4,arr,ty,e5,e6,λi j r c hi hj=>old (f7 i j r c hi hj) (e7 i j r c hi hj)⟩
   |map es=>
    obtain⟨af,aj,e1,e2,e3⟩:=h1;obtain⟨ents0,clock0,f1,f2,f3⟩:=fE;refine⟨af,aj,e1,e2,λi x hi=>?_⟩;obtain⟨e,g1,g2,g3,g4⟩:=e3 i x hi;obtain⟨e',gu,gJ,g3',g4'⟩:=f3 i x hi;exact⟨e,g1,old gJ g2,old g3' g3,g4⟩
   |iter aH left=>
    obtain⟨mb,seen,bI,af,aj,e1,e2,e3,e4,e5,e6,e7,e8,e9⟩:=h1;obtain⟨mb0,seen0,last0,ents0,clock0,f1,f2,f3,f4,f5,f6,f7,f8,f9⟩:=fE;refine⟨mb,seen,bI,af,aj,e1,aR.full _ e2,e3,e4,e5,e6,e7,λi x hi=>?_,λi x hi=>?_⟩
    .obtain ⟨e,g1,g2,g3⟩:=e8 i x hi;obtain⟨e',gu,gJ,g3'⟩:=f8 i x hi;exact⟨e,g1,old gJ g2,old g3' g3⟩
    .obtain ⟨hl,j,e,g0,g1,g2,g3⟩:=e9 i x hi;obtain⟨_,j',e',_,_,gJ,g3'⟩:=f9 i x hi;exact⟨hl,j,e,g0,g1,old gJ g2,old g3' g3⟩
  .cases ob with
   |dead=>trivial
   |tipT t0 m=>exact gb J h2
   |_=>exact⟨gb J h2.1,h2.2⟩
theorem a4s{K:CV->Prop}(h:b8 C f args σ λr aa=>∃az c c',aa=σ++az/\r= .ret c/\Cls σ.length aa c c'/\K c'):b8 C f args σ λr aa=>(∃c,r= .ret c/\K c)/\aa=σ:=
 λM w vs hr hn hx=>(h M w vs hr hn hx).mono λe w' he=>by
  cases e with
  |returned v=>
   obtain⟨c,aa,M',h1,h2,h3,az,c0,c',rfl,h5,h6,h7⟩:=he;injection h5 with h5
   subst h5;obtain⟨g1,g2,g3⟩:=hr.cut h1 h2;exact⟨c',σ,_,g3,g1,RV.close h2 g2 (λk p s Y hk hp hs=>.inr ⟨k,p,_,hk,hp,hs,J,J⟩) h6 h3,⟨c',J,h7⟩,J⟩
  |panicked ch=>
   obtain⟨c,v,aa,M',h0,h1,h2,h3,az,c0,c',h4,h5,_⟩:=he;cases h5
  |outgrown=>exact he
theorem c7{c0:CV}(h:b8 C f args σ λr aa=>∃az c,aa=σ++az/\r= .ret c/\Cls σ.length aa c c0):b8 C f args σ λr aa=>r= .ret c0/\aa=σ:=
 (a4s (K:=λc=>c=c0) (h.mono λ_ _ ⟨az,c,h1,h2,h3⟩=>⟨az,c,c0,h1,h2,h3,J⟩)).mono λ_ _ ⟨⟨_,h1,h2⟩,h3⟩=>⟨h2▸h1,h3⟩
inductive r5:CV->Prop where
 |val (v:Value):r5 (.val v)
 |agg {cs:List CV}:(∀c∈cs,r5 c)->r5 (.agg cs)
 |tup {cs:List CV}:(∀c∈cs,r5 c)->r5 (.tup cs)
 |clo {f:FuncId} {cs:List CV}:(∀c∈cs,r5 c)->r5 (.clo f cs)
 |list {Y:List (List CV)} {nn:Bool}:(∀r∈Y,∀c∈r,r5 c)->r5 (.list Y nn none)
theorem r5.old(h:r5 c):Old n c:=by
 induction h with
 |val v=>exact .val v
 |agg _ ih=>exact .agg λi c hi=>ih c (n_2 hi)
 |tup _ ih=>exact .tup λi c hi=>ih c (n_2 hi)
 |clo _ ih=>exact .clo λi c hi=>ih c (n_2 hi)
 |list _ ih=>exact .list (λi j r c hi hj=>ih r (n_2 hi) c (n_2 hj)) (λk hk=>by cases hk)
theorem Cls.pure(h:r5 c):Cls n σ c c:=.old h.old
theorem Cls.tok{n:Nat}{σ:List b9}{Y:List (List CV)}{nn:Bool}{tok:Option Nat}(h:∀r∈Y,∀c∈r,r5 c):Cls n σ (.list Y nn tok) (.list Y nn none):=
 .list J (λi r r' h1 h2=>by rw[h1]at h2;injection h2 with h2;rw[h2]) λi j r r' c c' h1 h2 h3 h4=>by
  rw[h1]at h2;injection h2 with h2
  subst h2;rw[h3]at h4;injection h4 with h4
  subst h4;exact .pure (h r (n_2 h1) c (n_2 h3))
variable{tok:Option Nat}
theorem Cls.vecs{len:Nat}{rows':List (List CV)}(hk:n<=k)(ao:σ[k]?=some (.vec s Y))(hl:off+len<=Y.length)(he:(Y.drop off).take len=rows')(h:∀r∈rows',∀c∈r,r5 c):Cls n σ (.vec k off len) (.list rows' true none):=by
 subst he;exact .vec hk ao hl J (λi r r' h1 h2=>by rw[h1]at h2;injection h2 with h2;rw[h2]) λi j r r' c c' h1 h2 h3 h4=>by
  rw[h1]at h2;injection h2 with h2
  subst h2;rw[h3]at h4;injection h4 with h4
  subst h4;exact .pure (h r (n_2 h1) c (n_2 h3))
def a7i(n:Nat)(σ:List b9):List CV->List CV->Prop
 | [],[]=>True
 |c::cs,c'::aS=>Cls n σ c c'/\a7i n σ cs aS
 |_,_=>False
theorem a7i.get:∀{cs aS:List CV},a7i n σ cs aS->cs.length=aS.length/\∀(i:Nat) (c c':CV),cs[i]?=some c->aS[i]?=some c'->Cls n σ c c'
 | [],[],_=>⟨J,H⟩
 |c::cs,c'::aS,⟨h1,h2⟩=>by
  obtain⟨h3,h4⟩:=a7i.get h2;refine⟨by simp[h3],λi x x' hx aC=>?_⟩
  rcases i with _|i
  .simp at hx aC;subst hx aC;exact h1
  .exact h4 i x x' (I hx) (I aC)
theorem Cls.aggs(h:a7i n σ cs aS):Cls n σ (.agg cs) (.agg aS):=.agg h.get.1 h.get.2
theorem Cls.tups(h:a7i n σ cs aS):Cls n σ (.tup cs) (.tup aS):=.tup h.get.1 h.get.2
section
def plain(l:List Value):CV:=.agg (l.map .val)
theorem a3Z{l:List Value}{u:Value}(h:RV M w (plain l) u):u= .agg l.toArray:=by
 cases h with
 |agg h1 h2 h3=>
  rename_i vs
  congr 1
  apply b6q;intro i
  rcases a2J i l.length with hi|hi
  .have hl:(l.map CV.val)[i]?=some (.val l[i]):=by simp[hi]
   have:=r4 (h3 i _ hl);have hv:i<vs.size:=by rw[h1];simpa using hi
   simp only[a0U,a1J hv,a9B]at this;rw[a1J hv,this];simp[hi]
  .have hv:vs.size<=i:=by rw[h1];simpa using hi
   rw[b0X hv];simp[hi]
theorem b5h{t':TypeId}{xs ys:List Value}{r:Bool}(ho:o.op = .binOp .eql t x y t')(hx:E.valid x)(hy:E.valid y)(ex:E.val C x=plain xs)(ey:E.val C y=plain ys)
 (hg:C.P.eqGuardType C.P.depth t=false)(he:∀w,(Op.equal t (.agg xs.toArray) (.agg ys.toArray)).run C.P w= .ok r w):m0 C σ E o (.val (.bool r)):=
 i8 λM w ρ _ h=>by
  have h1:=h x w8 hx;have h2:=h y w8 hy;rw[ex]at h1;rw[ey]at h2;exact⟨.bool r,by simp[execOp,ho,a3Z h1,a3Z h2,eqGuard,hg,binOp,he],.val _⟩
theorem d7b{t':TypeId}{xs ys:List Value}{r:Bool}(ho:o.op = .binOp .neq t x y t')(hx:E.valid x)(hy:E.valid y)(ex:E.val C x=plain xs)(ey:E.val C y=plain ys)
 (hg:C.P.eqGuardType C.P.depth t=false)(he:∀w,(Op.equal t (.agg xs.toArray) (.agg ys.toArray)).run C.P w= .ok r w):m0 C σ E o (.val (.bool (!r))):=
 i8 λM w ρ _ h=>by
  have h1:=h x w8 hx;have h2:=h y w8 hy;rw[ex]at h1;rw[ey]at h2;exact⟨.bool (!r),by simp[execOp,ho,a3Z h1,a3Z h2,eqGuard,hg,binOp,he],.val _⟩
theorem O7{r:Nat}{af:Array MapEntry}(h:w.heap[r]?=some (.map af aj)):(getObj r).run P w= .ok (.map af aj) w:=by
 simp[getObj,Sem.run,h]
theorem V3(ho:o.op = .makeMap t none)(hk:K (.ret (.map σ.length)) (σ++[.map []])):H4 C σ E o K:=λM w ρ hr _=>by
 have av:(execOp ρ o).run C.P w= .ok (.value (.map (some w.heap.size))) (w.alloc (.map #[] 0)):=by
  simp[execOp,ho,Instr.makeMap]
 rw[av];have hx:=Ext.alloc hr ⟨w.heap.size,0,0⟩ (.map #[] 0);exact⟨.map σ.length,_,_,hx,hr.alloc ⟨w.heap.size,0,0⟩ _ (.map []) J ⟨#[],0,B3 _ _,⟨J,λi j e e' h=>by simp at h⟩,H⟩,RV.map (p:=⟨w.heap.size,0,0⟩) b0n,hk⟩
theorem Rel.setObj(hr:Rel C M σ w){q:Nat}{es es':List (CV×CV)}{dP:Array MapEntry}{dQ:Nat}(hp:M.pl[q]?=some p)(ao:σ[q]?=some (.map es))(aJ:dP.size=es'.length)(gv:b2a dP)(h:∀(i:Nat) (x:CV×CV),es'[i]?=some x->∃e,dP[i]?=some e/\RV M w x.1 e.key/\RV M w x.2 e.val/\e.born <dQ):
 Ext M w M (World.putObj w p.block (.map dP dQ))/\Rel C M (σ.set q (.map es')) (World.putObj w p.block (.map dP dQ)):=by
 obtain⟨h1,hf,hc⟩:=hr.obj q p _ hp ao;have ab:=h1.lt J;have hx:=Ext.putObj (w:=w) (.map dP dQ) (hr.nk q p _ hp ao J) hf hc;refine⟨hx,hr.putObj hp ao J hf hc _ ⟨dP,dQ,World.putObj_same w _ ab,⟨aJ,gv⟩,λi x hi=>?_⟩⟩;obtain⟨e,g1,g2,g3,g4⟩:=h i x hi;exact⟨e,g1,g2.mono hx,g3.mono hx,g4⟩
theorem b2a.push{af:Array MapEntry}(h:b2a af)(hb:∀(i:Nat) (e:MapEntry),af[i]?=some e->e.born <aj){e0:MapEntry}(h0:e0.born=aj):b2a (af.push e0):=λi j e e' hi hj he=>by
 rw[c0a]at hi hj;split at hi<;>split at hj
 .omega
 .injection hi with hi
  have:=hb j e' hj;rw[<- hi,h0]at he;omega
 .injection hj with hj
  have:=hb i e hi;rw[<- hj,h0]at he;omega
 .exact h i j e e' hi hj he
theorem b2a.modify{af:Array MapEntry}(h:b2a af){f:MapEntry->MapEntry}(hf:∀e,(f e).born=e.born):b2a (af.modify k f):=λi j e e' hi hj he=>by
 have key:∀{i:Nat} {e:MapEntry},(af.modify k f)[i]?=some e->∃e1,af[i]?=some e1/\e1.born=e.born:=λ{i e} hi=>by
  rw[b7U]at hi;split at hi
  .obtain ⟨e1,h1,rfl⟩:=P2.1 hi;exact⟨e1,h1,(hf e1).symm⟩
  .exact ⟨e,hi,J⟩
 obtain⟨e1,h1,b1⟩:=key hi;obtain⟨e2,h2,b2⟩:=key hj;exact h i j e1 e2 h1 h2 (by rw[b1,b2];exact he)
theorem a56{r:Nat}{af:Array MapEntry}(o':Obj)(h:w.heap[r]?=some (.map af aj)):(setObj r o').run P w= .ok () (World.putObj w r o'):=by
 simp[setObj,Sem.run,h,World.putObj]
end
theorem RV.pure(h:∀b o,M.at b o->M'.at b o/\w'.cell? ⟨b,o,none⟩=w.cell? ⟨b,o,none⟩)(hr:RV M w c v)(hp:r5 c):RV M' w' c v:=by
 induction hr with
 |val v=>exact .val v
 |agg h1 h2 _ ih=>cases hp with|agg hp=>exact .agg h1 h2 λi c hi=>ih i c hi (hp c (n_2 hi))
 |tup h1 _ ih=>cases hp with|tup hp=>exact .tup h1 λi c hi=>ih i c hi (hp c (n_2 hi))
 |clo h1 _ ih=>cases hp with|clo hp=>exact .clo h1 λi c hi=>ih i c hi (hp c (n_2 hi))
 |list vals h1 h2 h3 h4 h5 h6 h7 h8 _ bb ih=>
  cases hp with
  |list hp=>exact .list vals h1 h2 h3 h4 h5 h6 h7 (λi j r c hi hj=>⟨(h _ _ (h8 i j r c hi hj).1).1,(h _ _ (h8 i j r c hi hj).1).2.trans (h8 i j r c hi hj).2⟩) (λi j r c hi hj=>ih i j r c hi hj (hp r (n_2 hi) c (n_2 hj))) λk hk=>by cases hk
 |ptr _=>cases hp
 |cptr _ _ _ _ _=>cases hp
 |eptr _=>cases hp
 |vec _ _ _ _=>cases hp
 |map _=>cases hp
 |yld _=>cases hp
theorem b3Y{K:CV->Prop}(ap:∀a∈args,r5 a)(hc:∀c,K c->r5 c)(fF:∀g cells,C.glob g=some cells->∀c∈cells,r5 c)(h:b8 C f args [] λr aa=>(∃c,r= .ret c/\K c)/\aa=[])(σ:List b9):b8 C f args σ λr aa=>(∃c,r= .ret c/\K c)/\aa=σ:=
 λM w vs hr hn hx=>by
  let LB:Nat->Prop:=λb=>∃(k:Nat) (p:Pl) (ob:b9),M.pl[k]?=some p/\σ[k]?=some ob/\ob.live=true/\p.block=b
  let M0:B2:={pl:=[],full:=M.full,cell:=M.cell,keep:=λb=>M.keep b\/LB b}
  have aV:∀b o,M.at b o->M0.at b o/\w.cell? ⟨b,o,none⟩=w.cell? ⟨b,o,none⟩:=λb o h=>⟨h,J⟩;have hLB:∀b,LB b->b<w.heap.size:=λb ⟨k,p,ob,hp,hs,hl,hb⟩=>hb▸(hr.obj k p ob hp hs).1.lt hl;have bM:Rel C M0 [] w:=⟨J,hr.blk,λk p ob hp=>by simp[M0]at hp,λk k' p p' ob aL hp=>by simp[M0]at hp,λg cells hg=>⟨by
   have:=(hr.glob g cells hg).rv;cases this with
   |cptr vals h1 h2 h3=>exact .cptr vals h1 h2 λj c hj=>(h3 j c hj).pure aV (fF g cells hg c (n_2 hj)),(hr.glob g cells hg).full,(hr.glob g cells hg).sz⟩,
   λb hb=>(by
    rcases hb with hb|hb
    .exact hr.kep b hb
    .exact hLB b hb),λk p ob hp=>by simp[M0]at hp⟩
  refine(h M0 w vs bM hn λi a hi=>(hx i a hi).pure aV (ap a (n_2 hi))).mono λe w' he=>?_;cases e with
  |panicked ch=>
   obtain⟨c',v,aa,M',_,_,_,_,⟨⟨c0,h5,_⟩,_⟩⟩:=he;cases h5
  |outgrown=>exact he
  |returned v=>
   obtain⟨c',aa,M',h1,h2,h3,⟨⟨c0,h4,hK⟩,rfl⟩⟩:=he;injection h4 with h4
   subst h4
   let M2:B2:={pl:=M.pl,full:=M'.full,cell:=M'.cell,keep:=M.keep}
   have aM:Ext M w M2 w':=⟨⟨[],by simp[M2]⟩,h1.full,h1.cell,h1.same,h1.sameC,h1.size,h1.drew,h1.os,h1.tape,h1.output,λb hb=>by
    obtain⟨k1,k2,k3,k4⟩:=h1.kept b (.inl hb);exact⟨hb,k2,k3,k4⟩⟩
   refine⟨c',σ,M2,aM,⟨hr.len,h2.blk,λk p ob hp hs=>?_,hr.inj,λg cells hg=>(hr.glob g cells hg).mono aM,λb hb=>a9p (hr.kep b hb) h1.size,hr.nk⟩,h3.pure (M:=M') (M':=M2) (w':=w') (λb o h=>⟨h,J⟩) (hc _ hK),⟨c',J,hK⟩,J⟩;by_cases hl:ob.live=true
   .obtain ⟨k1,k2,k3,k4⟩:=h1.kept p.block (.inr ⟨k,p,ob,hp,hs,hl,J⟩);obtain⟨g1,g2⟩:=hr.obj k p ob hp hs;refine⟨g1.mono aM k2 (λ_ _ _ o ho=>k4 o ho),?_⟩;cases ob with
    |dead=>trivial
    |tipT t0 n=>exact λhf=>g2 (k3 hf)
    |_=>exact⟨λhf=>g2.1 (k3 hf),λo ho=>g2.2 o (k4 o ho)⟩
   .cases ob<;>first|exact⟨O,O⟩|simp[b9.live]at hl
theorem b5Z(ap:∀a∈args,r5 a)(hc:r5 c)(fF:∀g cells,C.glob g=some cells->∀c∈cells,r5 c)(h:b8 C f args [] λr aa=>r= .ret c/\aa=[])(σ:List b9):b8 C f args σ λr aa=>r= .ret c/\aa=σ:=
 (b3Y (K:=λc'=>c'=c) ap (λ_ h=>h▸hc) fF (h.mono λ_ _ ⟨h1,h2⟩=>⟨⟨c,h1,J⟩,h2⟩) σ).mono λ_ _ ⟨⟨_,h1,h2⟩,h3⟩=>⟨h2▸h1,h3⟩
section
def d1h:CV->Bool
 | .agg _=>true
 |c=>c.one
theorem a4h(h:d1h c=true):c.one=true\/∃cs,c= .agg cs:=by
 cases c<;>first|exact .inl h|exact .inr ⟨_,J⟩|(simp[d1h,CV.one]at h)
def c3N(ps:List (Nat×CV)):Bool:=ps.all λx=>d1h x.2
theorem a9i(h:c3N ps=true):∀x∈ps,x.2.one=true\/∃cs,x.2 = .agg cs:=λx hx=>a4h (a40.1 h x hx)
def a8i(C:Ctx)(E:Env):List (Nat×Operand)->List (Nat×CV)
 | []=>[]
 |(i,x)::l=>(i,E.val C x)::a8i C E l
theorem a6z:∀(l:List (Nat×Operand)),l.map (λx=>(x.1,E.val C x.2))=a8i C E l
 | []=>rfl
 |(i,x)::l=>by simp[a8i,a6z l]
def a8g(E:Env):List (Nat×Operand)->Prop
 | []=>True
 |(_,x)::l=>E.valid x/\a8g E l
theorem a2W{E:Env}:∀{l:List (Nat×Operand)},a8g E l->∀x∈l,E.valid x.2
 | [],_,x,h=>by simp at h
 |(i,y)::l,⟨h1,h2⟩,x,h=>by
  rcases J0.1 h with rfl|h
  .exact h1
  .exact a2W h2 x h
theorem B4{fs:Array Field}(cz:Array (Nat×Nat)){aw:List CV}(ho:o.op = .build t parts)(hv:a8g E parts.toList)
 (hu:∀w,(underlying t).run C.P w= .ok (.struct fs) w)(hz:∀w,(zeroValue t).run C.P w= .ok z w)(bP:M6 z=true)(cL:∃cs,I5 z= .agg cs)
 (ba:∀w,(fs.mapM λ(f:Field)=>do pure (f.offset,<- sizeOf f.type)).run C.P w= .ok cz w)
 (aQ:c3N (a8i C E parts.toList)=true)(cT:b4s cz (I5 z).cells (a8i C E parts.toList)=some aw):m0 C σ E o (.agg aw):=
 d5g ho (a2W hv) hu hz bP cL ba (a6z _) (a9i aQ) cT
theorem B1{len:Nat}(Y:List (List CV))(ho:o.op = .buildSlice t len parts)(hv:a8g E parts.toList)
 (hu:∀w,(underlying t).run C.P w= .ok (.slice e) w)(hs:∀w,(sizeOf e).run C.P w= .ok s w)(hz:∀w,(zeroValue e).run C.P w= .ok z w)(bP:M6 z=true)(cL:d1h (I5 z)=true)(fY:(I5 z).cells.length=s)(eV:Nat.blt 0 s=true)
 (ak:Nat.ble (len*s) 16777216=true)(aQ:c3N (a8i C E parts.toList)=true)
 (cT:a5v (λi=>some (i*s,s)) ((List.range (len*s)).map λi=>(I5 z).cells.getD (i%s) default) (a8i C E parts.toList)=some Y.flatten)(cq:Y.length=len)(bi:(Y.all λr=>Nat.beq r.length s)=true):m0 C σ E o (.list Y true none):=
 b6o ho (by
  have:=a2W hv;have key:∀l:List Operand,(∀x∈l,E.valid x)->E.valids l:=by
   intro l
   induction l with
   |nil=>intro _;trivial
   |cons x l ih=>intro h;exact⟨h x H,ih λy hy=>h y (by simp[hy])⟩
  exact key _ λx hx=>by
   obtain⟨p,hp,rfl⟩:=D5.1 hx;exact this p hp) hu hs hz bP (a4h cL) fY (by simpa[b3L]using eV) (by have:=nb ak;omega) (a6z _) (a9i aQ) cT cq (λr hr=>a4A (a40.1 bi r hr))
theorem a5V(ey:E.val C y= .list Y nn tok)(bi:∀r∈Y,r.length=s):∀M w v,Rel C M σ w->RV M w (E.val C y) v->Src C M w Y s v:=λ_ _ _ _ h=>by
 rw[ey]at h;exact a1s h bi
theorem a5G{f:α->List CV}(h:∀a,(f a).length=s)(l:List α):∀r∈l.map f,r.length=s:=λr hr=>by
 obtain⟨a,_,rfl⟩:=D5.1 hr;exact h a
theorem C0{f:α->List CV}(h:∀a,∀c∈f a,r5 c)(l:List α):∀r∈l.map f,∀c∈r,r5 c:=λr hr=>by
 obtain⟨a,_,rfl⟩:=D5.1 hr;exact h a
theorem j1{f:α->List CV}{l:List α}{a:α}(h:l[i]?=some a):(l.map f)[i]?=some (f a):=by
 rw[O5,h];rfl
end
def I6(n:Nat):b9->Prop
 | .dead=>True
 | .boxT _ cells=>∀c∈cells,Old n c
 | .tipT _ _=>True
 | .vec _ Y=>∀r∈Y,∀c∈r,Old n c
 | .map es=>∀x∈es,Old n x.1/\Old n x.2
 | .iter aH es=>(∀x∈aH,Old n x.1/\Old n x.2)/\∀x∈es,Old n x.1/\Old n x.2
 | .blk _=>True
 | .lp _ _ cs=>∀x∈cs,Old n x.2
def a5l(n:Nat):List b9->Prop
 | []=>True
 |ob::l=>I6 n ob/\a5l n l
theorem a5l.get:∀{l:List b9},a5l n l->∀(k:Nat) (ob:b9),l[k]?=some ob->I6 n ob
 | [],_,_,_,h=>by simp at h
 |o::l,⟨h1,h2⟩,k,ob,h=>by
  rcases k with _|k
  .simp at h;subst h;exact h1
  .exact a5l.get h2 k ob (I h)
def c84(n:Nat):List (Nat×CV)->Prop
 | []=>True
 |(_,c)::l=>Old n c/\c84 n l
theorem Rel.cutObj{az:List b9}(hr:Rel C M (σ++az) w)(bQ:a5l σ.length σ)(fF:∀g cells,C.glob g=some cells->∀c∈cells,r5 c):
 Rel C (M.cutAt σ.length (σ++az)) σ w/\Cut σ.length M (M.cutAt σ.length (σ++az))/\∀M0 w0,Ext M0 w0 M w->M0.pl.length<=σ.length->Ext M0 w0 (M.cutAt σ.length (σ++az)) w:=by
 have aR:Cut σ.length M (M.cutAt σ.length (σ++az)):=⟨J,λ_ h=>.inl h,λ_ _ h=>.inr h⟩;have aq:∀{k:Nat} {p:Pl},(M.cutAt σ.length (σ++az)).pl[k]?=some p->k<σ.length/\M.pl[k]?=some p:=by
  intro k p hk;have hk:(M.pl.take σ.length)[k]?=some p:=hk;rw[a2y]at hk;split at hk
  .exact ⟨‹_›,hk⟩
  .cases hk
 have ao:∀{k:Nat} {ob:b9},σ[k]?=some ob->(σ++az)[k]?=some ob:=by
  intro k ob h;rw[R8 (n_3.1 h).1];exact h
 have ak:σ.length<=M.pl.length:=by rw[hr.len];simp
 refine⟨⟨by show(M.pl.take σ.length).length=_;simp;omega,λb o ha=>?_,λk p ob hk hs=>?_,λk k' p p' ob aL hk aK hs aU cp cb hb=>hr.inj k k' p p' ob aL (aq hk).2 (aq aK).2 (ao hs) (ao aU) cp cb hb,λg cells hg=>?_,hr.kep,λk p ob hk hs ca=>hr.nk k p ob (aq hk).2 (ao hs) ca⟩,aR,λM0 w0 hx aO=>?_⟩
 .rcases ha with(ha|⟨k,p,ob,_,hp,hs,hl,rfl⟩)|ha
  .exact hr.blk b o (.inl ha)
  .exact (hr.obj k p ob hp hs).1.lt hl
  .exact hr.blk b o (.inr ha)
 .obtain ⟨ab,hp⟩:=aq hk;obtain⟨h1,h2⟩:=hr.obj k p ob hp (ao hs);have ho:=bQ.get k ob hs;have gb:ob.live=true->¬M.full p.block->¬(M.cutAt σ.length (σ++az)).full p.block:=λca gb h=>by
   rcases h with h|⟨k',p',aL,aK,aI,aU,bg,hb⟩
   .exact gb h
   .have:=hr.inj k' k p' p aL ob aI hp aU (ao hs) bg ca hb;omega
  refine⟨?_,?_⟩
  .cases ob with
   |dead=>trivial
   |boxT t0 cells=>
    obtain⟨arr,ty,e1,e2,e3,e4⟩:=h1;exact⟨arr,ty,e1,e2,e3,λi c hi=>(e4 i c hi).cut aR (ho c (n_2 hi))⟩
   |tipT t0 m=>exact h1
   |blk o=>exact h1
   |lp o n cs=>
    obtain⟨tm,e1,e2,e3⟩:=h1;exact⟨tm,e1,e2,λx hi=>(e3 x hi).cut aR (ho x hi)⟩
   |vec s Y=>
    obtain⟨e0,e1,e2,e3,e4,arr,ty,e5,e6,e7⟩:=h1;exact⟨e0,e1,e2,e3,e4,arr,ty,e5,e6,λi j r c hi hj=>(e7 i j r c hi hj).cut aR (ho r (n_2 hi) c (n_2 hj))⟩
   |map es=>
    obtain⟨af,aj,e1,e2,e3⟩:=h1;refine⟨af,aj,e1,e2,λi x hi=>?_⟩;obtain⟨e,g1,g2,g3,g4⟩:=e3 i x hi;have:=ho x (n_2 hi);exact⟨e,g1,g2.cut aR this.1,g3.cut aR this.2,g4⟩
   |iter aH es=>
    obtain⟨mb,seen,bI,af,aj,e1,e2,e3,e4,e5,e6,e7,e8,e9⟩:=h1;refine⟨mb,seen,bI,af,aj,e1,aR.full _ e2,e3,e4,e5,e6,e7,λi x hi=>?_,λi x hi=>?_⟩
    .obtain ⟨e,g1,g2,g3⟩:=e8 i x hi;have:=ho.2 x (n_2 hi);exact⟨e,g1,g2.cut aR this.1,g3.cut aR this.2⟩
    .obtain ⟨hl,j,e,g0,g1,g2,g3⟩:=e9 i x hi;have:=ho.1 x (n_2 hi);exact⟨hl,j,e,g0,g1,g2.cut aR this.1,g3.cut aR this.2⟩
  .cases ob with
   |dead=>trivial
   |tipT t0 m=>exact gb J h2
   |_=>exact⟨gb J h2.1,h2.2⟩
 .have:=(hr.glob g cells hg);refine⟨?_,aR.full _ this.full,this.sz⟩;exact this.rv.cut aR (.cptr λj c hj=>(fF g cells hg c (n_2 hj)).old)
 .obtain ⟨l,hl⟩:=hx.pl;refine⟨⟨l.take (σ.length -M0.pl.length),?_⟩,λb h=>.inl (hx.full b h),λb o h=>aR.at (hx.cell b o h),hx.same,hx.sameC,hx.size,hx.drew,hx.os,hx.tape,hx.output,λb hb=>?_⟩
  .show M.pl.take σ.length=_;rw[hl,List.take_append,R3 aO]
  .obtain ⟨k1,k2,k3,k4⟩:=hx.kept b hb;refine⟨k1,k2,λf=>?_,k4⟩
   rcases f with f|⟨k,p,ob,_,hp,hs,ca,rfl⟩
   .exact k3 f
   .exact absurd k1 (hr.nk k p ob hp hs ca)
def Env.none:Env:={h:=λ_=>Option.none,g:=λ_=>.two False False}
def Env.only(l:List (Nat×CV)):Env:=Env.none.puts l
theorem L3.only{a:Act}(hc:Cut k M M')(hf:L3 M w n E a):∀{l:List (Nat×CV)},E.is l->c84 k l->L3 M' w n (Env.only l) a
 | [],_,_=>⟨hf.defers,hf.size,λ_ h=>h.elim,λ_ h=>h.elim⟩
 |(t,c)::l,⟨⟨h1,h2⟩,h⟩,⟨h3,h4⟩=>by
  have ih:=L3.only hc hf h h4;refine⟨hf.defers,hf.size,λx hx=>?_,λx hx=>?_⟩
  .show RV M' w (((Env.only l).putO (some t) c .yes).f x) _;have hx:((Env.only l).putO (some t) c .yes).ok x:=hx;rw[Env.putO_f];rw[Env.putO_ok]at hx
   split
   .subst x;exact(h2▸hf.rv t h1:RV M w c _).cut hc h3
   .rename_i ay;rw[D ay]at hx;exact ih.rv x hx
  .have hx:((Env.only l).putO (some t) c .yes).un x:=hx;rw[Env.putO_un]at hx;split at hx
   .exact absurd trivial hx
   .exact ih.un x hx
section
variable{Jk:D3->Env->List b9->Prop}
def Ctx.plain(C:Ctx):Prop:=∀g cells,C.glob g=some cells->∀c∈cells,r5 c
def e0l{α:Type}(l:α->List (Nat×CV))(S:α->List b9)(P:α->Prop)(E':Env)(aa:List b9):Prop:=
 ∃a az,P a/\E'.is (l a)/\aa=S a++az
theorem CWp.upto{c:Code}(hC:C.plain){l:α->List (Nat×CV)}{P:α->Prop}{E':Env}{aa:List b9}(hE:e0l l S P E' aa)(bQ:∀a,P a->c84 (S a).length (l a)/\a5l (S a).length (S a))(k:∀a,P a->CWp C n c Jk (Env.only (l a)) (S a))(ak:∀a,P a->M0.pl.length<=(S a).length){a:Act}(hx:Ext M0 w0 M w)(hr:Rel C M aa w)(hf:L3 M w n E' a):
 c.wp C.P (Y1 C n Jk M0 w0) a w:=by
 obtain⟨x,az,hP,hE,rfl⟩:=hE;obtain⟨h1,h2⟩:=bQ x hP;obtain⟨g1,g2,g3⟩:=hr.cutObj h2 hC;have aC:=g3 M0 w0 hx (ak x hP);exact wp_mono (k x hP _ w a g1 (hf.only g2 hE h1)) λ_ _ _=>Y1.later aC
theorem j8{c:Code}(hC:C.plain)(l:α->List (Nat×CV))(S:α->List b9)(Je:α->Prop)(m:α->Nat)(a0:α)(h0:Je a0)(hE:E.is (l a0)){ai:List b9}(ao:σ=S a0++ai)(ak:∀a,Je a->σ.length<=(S a).length)(bQ:∀a,Je a->c84 (S a).length (l a)/\a5l (S a).length (S a))
 (cR:∀(a:α),Je a->CWp C n c (D3.next (e0l l S λa'=>m a'<m a/\Je a') Jk) (Env.only (l a)) (S a)):CWp C n (.loop c) Jk E σ:=λM w a hr hf=>by
 intro b k cs;have key:∀d (x:α) M1 w1 a1,m x=d->Je x->Ext M w M1 w1->Rel C M1 (S x) w1->L3 M1 w1 n (Env.only (l x)) a1 ->
  ∃e a' w',Y1 C n Jk M w e a' w'/\Arrives C.P (lone (b.at a1 (.code c::.inLoop c::k)) cs w1) b k cs e a' w':=by
  intro d
  induction d using Nat.strongRecOn with
  |_ d ih=>
   intro x M1 w1 a1 hd hI hx aG dF;obtain⟨e,a2,w2,hq,aA⟩:=cR x hI M1 w1 a1 aG dF b (.inLoop c::k) cs;obtain⟨E',aa,M',h1,h2,h3,h4⟩:=hq;cases e with
   |normal=>
    obtain⟨x',az,⟨ab,hI'⟩,hE',rfl⟩:=h4;obtain⟨o1,o2⟩:=bQ x' hI';obtain⟨g1,g2,g3⟩:=h2.cutObj o2 hC;have aC:=g3 M w (hx.trans h1) (by rw[hr.len];exact ak x' hI');obtain⟨dG,dH,dI,ci,bc⟩:=ih (m x') X x' _ w2 a2 J hI' aC g1 (h3.only g2 hE' o1);exact⟨dG,dH,dI,ci,.of_steps (Steps.trans aA (.one step_inLoop)) bc⟩
   |exit id=>exact⟨_,a2,w2,⟨E',aa,M',hx.trans h1,h2,h3,h4⟩,.pass (x:=.inLoop c) J (λ_ _=>.inl H) aA⟩
   |goto l=>exact⟨_,a2,w2,⟨E',aa,M',hx.trans h1,h2,h3,h4⟩,.pass (x:=.inLoop c) J (λ_ _=>.inl H) aA⟩
   |ret=>exact⟨_,a2,w2,⟨E',aa,M',hx.trans h1,h2,h3,h4⟩,.pass (x:=.inLoop c) J (λ_ _=>.inl H) aA⟩
   |panic ch=>exact⟨_,a2,w2,⟨E',aa,M',hx.trans h1,h2,h3,h4⟩,.pass (x:=.inLoop c) J (λ_ _=>.inl H) aA⟩
   |outgrown=>exact h4.elim
 have hlen0:=ak a0 h0;have dD:ai=[]:=by
  apply b2K;rw[ao]at hlen0;simp at hlen0;omega
 subst dD;rw[a0z]at ao;subst ao;obtain⟨o1,o2⟩:=bQ a0 h0;have hcut0:Cut (S a0).length M M:=⟨by rw[<- hr.len,a6K],λ_ h=>h,λ_ _ h=>.inr h⟩;obtain⟨e,a',w',hq,aA⟩:=key _ a0 M w a J h0 (Ext.refl M w) hr (hf.only hcut0 hE o1);exact⟨e,a',w',hq,.of_steps (.one step_loop) aA⟩
theorem S3{x y:Code}(hC:C.plain)(l:α->List (Nat×CV))(S:α->List b9)(P:α->Prop)(ak:∀a,P a->σ.length<=(S a).length)(bQ:∀a,P a->c84 (S a).length (l a)/\a5l (S a).length (S a))(h:CWp C n x (D3.next (e0l l S P) Jk) E σ)(k:∀a,P a->CWp C n y Jk (Env.only (l a)) (S a)):CWp C n (.seq x y) Jk E σ:=λM w a hr hf=>by
 refine wp_seq (wp_mono (h M w a hr hf) λe a' w' hl=>?_);obtain⟨E',aa,M',h1,h2,h3,h4⟩:=hl;cases e with
 |normal=>exact CWp.upto hC h4 bQ k (λa ha=>by rw[hr.len];exact ak a ha) h1 h2 h3
 |_=>exact⟨E',aa,M',h1,h2,h3,h4⟩
end
def b6w(n:Nat):List CV->Prop
 | []=>True
 |c::l=>Old n c/\b6w n l
theorem z6{n:Nat}:∀{cells:List CV},b6w n cells->I6 n (.box cells)
 | [],_=>λc h=>by simp at h
 |x::l,⟨h1,h2⟩=>λc h=>by
  rcases J0.1 h with rfl|h
  .exact h1
  .exact z6 h2 c h
theorem a1d{c0:CV}(h:c=c0)(hp:r5 c0):Cls n σ c c0:=by
 subst h;exact .pure hp
theorem j4{x y:Bool}(h:x=y):Cls n σ (.val (.bool x)) (.val (.bool y)):=h▸ .old (.val _)
theorem C9{k:IntKind}{x y:Int}(h:x=y):Cls n σ (.val (.int k x)) (.val (.int k y)):=h▸ .old (.val _)
theorem D9{x y:ByteArray}(h:x=y):Cls n σ (.val (.string x)) (.val (.string y)):=h▸ .old (.val _)
theorem a0g{β:Type}(f:α->β)(l:List α):((l.map f).length:Int)=(l.length:Int):=by simp
def O0:List CV->Prop
 | []=>True
 |c::l=>r5 c/\O0 l
theorem O0.all:∀{l:List CV},O0 l->∀c∈l,r5 c
 | [],_,c,h=>by simp at h
 |x::l,⟨h1,h2⟩,c,h=>by
  rcases J0.1 h with rfl|h
  .exact h1
  .exact O0.all h2 c h
theorem P7{f:α->List CV}(h:∀a,O0 (f a))(l:List α)(nn:Bool):r5 (.list (l.map f) nn none):=.list (C0 (λa=>(h a).all) l)
theorem b8.anyw(hC:C.plain)(ap:O0 args)(hc:r5 c)(h:b8 C f args [] λr aa=>r= .ret c/\aa=[])(σ:List b9):b8 C f args σ λr aa=>r= .ret c/\aa=σ:=
 b5Z ap.all hc hC h σ
def CV.fgt1:CV->CV
 | .list Y nn _=>.list Y nn none
 |c=>c
def CV.fgt:CV->CV
 | .agg cs=>.agg (cs.map CV.fgt1)
 |c=>c.fgt1
theorem CV.one_fgt1(c:CV):c.fgt1.one=c.one:=by cases c<;>rfl
theorem RV.fgt1(h:RV M w c v):RV M w c.fgt1 v:=by
 cases h with
 |list vals h1 h2 h3 h4 h5 h6 h7 h8 h9 bb=>exact .list vals h1 h2 h3 h4 h5 h6 h7 h8 h9 λk hk=>by cases hk
 |val v=>exact .val v
 |agg h1 h2 h3=>exact .agg h1 h2 h3
 |tup h1 h3=>exact .tup h1 h3
 |clo h1 h3=>exact .clo h1 h3
 |ptr hk=>exact .ptr hk
 |cptr vals h1 h2 h3=>exact .cptr vals h1 h2 h3
 |eptr hk=>exact .eptr hk
 |vec hk h1 h2 h3=>exact .vec hk h1 h2 h3
 |map hk=>exact .map hk
 |yld hk=>exact .yld hk
theorem RV.fgt(h:RV M w c v):RV M w c.fgt v:=by
 cases h with
 |agg h1 h2 h3=>
  refine .agg (I h1) (λc hm=>?_) (λi c hi=>?_)
  .obtain ⟨c0,h0,rfl⟩:=D5.1 hm;rw[CV.one_fgt1];exact h2 c0 h0
  .rw [O5,P2]at hi;obtain⟨c0,h0,rfl⟩:=hi;exact(h3 i c0 h0).fgt1
 |list vals h1 h2 h3 h4 h5 h6 h7 h8 h9 bb=>exact(RV.list vals h1 h2 h3 h4 h5 h6 h7 h8 h9 bb).fgt1
 |val v=>exact .val v
 |tup h1 h3=>exact .tup h1 h3
 |clo h1 h3=>exact .clo h1 h3
 |ptr hk=>exact .ptr hk
 |cptr vals h1 h2 h3=>exact .cptr vals h1 h2 h3
 |eptr hk=>exact .eptr hk
 |vec hk h1 h2 h3=>exact .vec hk h1 h2 h3
 |map hk=>exact .map hk
 |yld hk=>exact .yld hk
section
variable{Jk:D3->Env->List b9->Prop}
theorem a2D(h:b8 C f (args.map CV.fgt) σ K):b8 C f args σ K:=λM w vs hr aJ hx=>
 h M w vs hr (I aJ) λi c hi=>by
  rw[O5,P2]at hi;obtain⟨c0,h0,rfl⟩:=hi;exact(hx i c0 h0).fgt
theorem c4(ho:o.op = .call {callee:=.value (.func f),args:=xs,argTypes:=ts})(aB:∀args w,(callFunc f args).run C.P w= .ok (.enter f args) w)
 (hv:E.valids xs.toList)(h:b8 C f ax σ λr aa=>r= .ret c/\aa=σ)(ea:(E.vals C xs.toList).map CV.fgt=ax):m0 C σ E o c:=
 e0x ho aB hv J (a2D (ea▸h))
theorem e3i{b:Int}(ha:0<=a)(hb:0<b)(hr:a<=9223372036854775807):a7M .quo .i64 a b=some (.int .i64 (a / b)):=by
 have h1:a.tdiv b=a / b:=c5S ha;have h2:0<=a / b:=Int.ediv_nonneg ha X;have h3:a / b<=a:=Int.ediv_le_self _ ha;have h4:b≠0:=by omega
 simp only[a7M,h1,D h4];rw[b0W X X]
theorem d0O{b:Int}(hb:b≠0):a7M .rem .i64 a b=some (.int .i64 (a.tmod b)):=by simp[a7M,hb]
theorem c1K{b:Int}(ha:0<=a)(hb:0<b):a7M .rem .i64 a b=some (.int .i64 (a%b)):=by
 rw[d0O X,c8y ha]
theorem r6(h:O0 cs):r5 (.agg cs):=.agg h.all
theorem D7(h:O0 cs):r5 (.tup cs):=.tup h.all
end
inductive C6(L:Nat)(am:List Nat):CV->CV->Prop where
 |old {c:CV}:Old L c->C6 L am c c
 |agg {cs aS:List CV}:cs.length=aS.length->(∀(i:Nat) (c c':CV),cs[i]?=some c->aS[i]?=some c'->C6 L am c c')->C6 L am (.agg cs) (.agg aS)
 |tup {cs aS:List CV}:cs.length=aS.length->(∀(i:Nat) (c c':CV),cs[i]?=some c->aS[i]?=some c'->C6 L am c c')->C6 L am (.tup cs) (.tup aS)
 |list {Y:List (List CV)} {nn:Bool} {tok gc:Option Nat}:(∀r∈Y,∀c∈r,Old L c)->(∀j,gc=some j->∃k,tok=some k/\am[j]?=some k)->C6 L am (.list Y nn tok) (.list Y nn gc)
 |ptr {k j off:Nat}:am[j]?=some k->C6 L am (.ptr k off) (.ptr j off)
 |eptr {k j i off:Nat}:am[j]?=some k->C6 L am (.eptr k i off) (.eptr j i off)
 |vec {k j off len:Nat}:am[j]?=some k->C6 L am (.vec k off len) (.vec j off len)
 |map {k j:Nat}:am[j]?=some k->C6 L am (.map k) (.map j)
 |yld {k j:Nat}:am[j]?=some k->C6 L am (.yld k) (.yld j)
theorem C6.same(h:c=c')(ho:Old L c'):C6 L am c c':=h▸ .old (h▸ho)
theorem C6.one(h:C6 L am c c'):c'.one=c.one:=by
 cases h<;>rfl
def B2.ren(M:B2)(am:List Nat):B2:={M with pl:=am.map λk=>M.pl.getD k ⟨0,0,0⟩}
theorem a3a(hj:am[j]?=some k)(hk:M.pl[k]?=some p):(M.ren am).pl[j]?=some p:=by
 show(am.map λk=>M.pl.getD k ⟨0,0,0⟩)[j]?=some p;rw[O5,hj];simp[hk]
theorem a0f(bE:∀k,k<L->am[k]?=some k)(hL:L<=M.pl.length)(h:RV M w c v)(ho:Old L c):RV (M.ren am) w c v:=by
 have hc:Cut L M {M with pl:=M.pl.take L}:=⟨rfl,λ_ h=>h,λ_ _ h=>.inr h⟩;have h1:=h.cut hc ho;refine RV.mono (M:={M with pl:=M.pl.take L}) (M':=M.ren am) (w:=w) (w':=w) ⟨⟨(M.ren am).pl.drop L,?_⟩,λ_ h=>h,λ_ _ h=>.inr h,λ_ _=>J,λ_ _ _=>J,n_7 _,U0,J,J,J,λ_ h=>⟨h,J,id,λ_=>id⟩⟩ h1;have:(M.ren am).pl.take L=M.pl.take L:=by
  refine b9b λi=>?_;rw[a2y,a2y]
  split
  .rename_i hi;have hp:M.pl[i]?=some (M.pl[i]'X):=by simp
   rw[a3a (bE i hi) hp,hp]
  .rfl
 show(M.ren am).pl=M.pl.take L++_;rw[<- this,b4W]
theorem RV.ren(bE:∀k,k<L->am[k]?=some k)(hL:L<=M.pl.length)(h:RV M w c v)(hr:C6 L am c c'):RV (M.ren am) w c' v:=by
 induction hr generalizing v with
 |old ho=>exact a0f bE hL h ho
 |agg hl fD ih=>
  cases h with
  |agg h1 h2 h3=>
   refine .agg X (λc hcm=>?_) (λi c' hi=>?_)
   .obtain ⟨i,hi⟩:=N0.1 hcm;obtain⟨y,hy⟩:=r7 hl hi;rw[(fD i y c hy hi).one];exact h2 y (n_2 hy)
   .obtain ⟨y,hy⟩:=r7 hl hi;exact ih i y c' hy hi (h3 i y hy)
 |tup hl fD ih=>
  cases h with
  |tup h1 h3=>
   refine .tup X (λi c' hi=>?_);obtain⟨y,hy⟩:=r7 hl hi;exact ih i y c' hy hi (h3 i y hy)
 |list eJ cH=>
  cases h with
  |list vals h1 h2 h3 h4 h5 h6 h7 h8 h9 bb=>
   refine .list vals h1 h2 h3 h4 h5 h6 h7 h8 (λi j r c hi hj=>a0f bE hL (h9 i j r c hi hj) (eJ r (n_2 hi) c (n_2 hj))) (λj hj=>?_);obtain⟨k,hk,hs⟩:=cH j hj;obtain⟨s',hp,aP⟩:=bb k hk;exact⟨s',a3a hs hp,aP⟩
 |ptr hs=>cases h with|ptr hk=>exact .ptr (a3a hs hk)
 |eptr hs=>cases h with|eptr hk=>exact .eptr (a3a hs hk)
 |vec hs=>cases h with|vec hk h1 h2 h3=>exact .vec (a3a hs hk) h1 h2 h3
 |map hs=>cases h with|map hk=>exact .map (a3a hs hk)
 |yld hs=>cases h with|yld hk=>exact .yld (a3a hs hk)
def b9I(L:Nat)(am:List Nat):List CV->List CV->Prop
 | [],[]=>True
 |c::l,c'::l'=>C6 L am c c'/\b9I L am l l'
 |_,_=>False
theorem b9I.len:∀{l l':List CV},b9I L am l l'->l.length=l'.length
 | [],[],_=>rfl
 |_::_,_::_,h=>n_8 (· +1) h.2.len
theorem b9I.get:∀{l l':List CV},b9I L am l l'->∀(i:Nat) (c c':CV),l[i]?=some c->l'[i]?=some c'->C6 L am c c'
 | [],[],_,i,c,c',h,_=>by simp at h
 |_::_,_::_,h,0,c,c',h1,h2=>by
  simp at h1 h2;subst h1;subst h2;exact h.1
 |_::_,_::_,h,i+1,c,c',h1,h2=>h.2.get i c c' (I h1) (I h2)
theorem C6.tups(h:b9I L am cs aS):C6 L am (.tup cs) (.tup aS):=.tup h.len h.get
inductive b1N(L:Nat)(am:List Nat):b9->b9->Prop where
 |dead {ob:b9}:b1N L am ob .dead
 |same {ob aL:b9}:ob=aL->I6 L aL->b1N L am ob aL
 |box {t0:Option TypeId} {cells bU:List CV}:b9I L am cells bU->b1N L am (.boxT t0 cells) (.boxT t0 bU)
theorem S8.ren(bE:∀k,k<L->am[k]?=some k)(hL:L<=M.pl.length){aL:b9}(h:S8 M w p ob/\a8R M p ob)(hr:b1N L am ob aL):S8 (M.ren am) w p aL/\a8R (M.ren am) p aL:=by
 obtain⟨h1,h2⟩:=h;cases hr with
 |dead=>exact⟨O,O⟩
 |same he ho=>
  subst he;refine⟨?_,by cases ob<;>exact h2⟩;cases ob with
  |dead=>trivial
  |boxT t0 cells=>
   obtain⟨arr,ty,e1,e2,e3,e4⟩:=h1;exact⟨arr,ty,e1,e2,e3,λi c hi=>a0f bE hL (e4 i c hi) (ho c (n_2 hi))⟩
  |tipT t0 m=>exact h1
  |blk o=>exact h1
  |lp o n cs=>
   obtain⟨tm,e1,e2,e3⟩:=h1;exact⟨tm,e1,e2,λx hi=>a0f bE hL (e3 x hi) (ho x hi)⟩
  |vec s Y=>
   obtain⟨e0,e1,e2,e3,e4,arr,ty,e5,e6,e7⟩:=h1;exact⟨e0,e1,e2,e3,e4,arr,ty,e5,e6,λi j r c hi hj=>a0f bE hL (e7 i j r c hi hj) (ho r (n_2 hi) c (n_2 hj))⟩
  |map es=>
   obtain⟨af,aj,e1,e2,e3⟩:=h1;refine⟨af,aj,e1,e2,λi x hi=>?_⟩;obtain⟨e,g1,g2,g3,g4⟩:=e3 i x hi;have:=ho x (n_2 hi);exact⟨e,g1,a0f bE hL g2 this.1,a0f bE hL g3 this.2,g4⟩
  |iter aH es=>
   obtain⟨mb,seen,bI,af,aj,e1,e2,e3,e4,e5,e6,e7,e8,e9⟩:=h1;refine⟨mb,seen,bI,af,aj,e1,e2,e3,e4,e5,e6,e7,λi x hi=>?_,λi x hi=>?_⟩
   .obtain ⟨e,g1,g2,g3⟩:=e8 i x hi;have:=ho.2 x (n_2 hi);exact⟨e,g1,a0f bE hL g2 this.1,a0f bE hL g3 this.2⟩
   .obtain ⟨hl,j,e,g0,g1,g2,g3⟩:=e9 i x hi;have:=ho.1 x (n_2 hi);exact⟨hl,j,e,g0,g1,a0f bE hL g2 this.1,a0f bE hL g3 this.2⟩
 |box hc=>
  obtain⟨arr,ty,e1,e2,e3,e4⟩:=h1;refine⟨⟨arr,ty,e1,by rw[e2,hc.len],λc hm=>?_,λi c' hi=>?_⟩,h2⟩
  .obtain ⟨i,hi⟩:=N0.1 hm;obtain⟨y,hy⟩:=r7 hc.len hi;rw[(hc.get i y c hy hi).one];exact e3 y (n_2 hy)
  .obtain ⟨y,hy⟩:=r7 hc.len hi;exact(e4 i y hy).ren bE hL (hc.get i y c' hy hi)
def b9u(L:Nat)(all:List Nat)(σ:List b9):List Nat->List b9->Prop
 | [],[]=>True
 |k::ks,ob::obs=>(ob= .dead\/∃da,σ[k]?=some da/\b1N L all da ob)/\b9u L all σ ks obs
 |_,_=>False
theorem b9u.len{all:List Nat}:∀{ks:List Nat} {obs:List b9},b9u L all σ ks obs->ks.length=obs.length
 | [],[],_=>rfl
 |_::_,_::_,h=>n_8 (· +1) h.2.len
variable{len:Nat}
theorem b9u.get{all:List Nat}:∀{ks:List Nat} {obs:List b9},b9u L all σ ks obs->∀(j k:Nat) (ob:b9),ks[j]?=some k->obs[j]?=some ob->ob= .dead\/∃da,σ[k]?=some da/\b1N L all da ob
 | [],[],_,j,k,ob,h,_=>by simp at h
 |_::_,_::_,h,0,k,ob,h1,h2=>by
  simp at h1 h2;subst h1;subst h2;exact h.1
 |_::_,_::_,h,j+1,k,ob,h1,h2=>h.2.get j k ob (I h1) (I h2)
def a0J:List Nat->Bool
 | []=>true
 |k::l=>!l.contains k&&a0J l
theorem b1n:∀{l:List Nat},a0J l=true->∀(i j k:Nat),l[i]?=some k->l[j]?=some k->i=j
 | [],_,i,j,k,h,_=>by simp at h
 |x::l,h,i,j,k,h1,h2=>by
  simp only[a0J,T7,c02,List.contains_eq_mem,b3R]at h
  rcases i with _|i<;>rcases j with _|j
  .rfl
  .simp at h1 h2;subst h1;exact absurd (n_2 h2) h.1
  .simp at h1 h2;subst h2;exact absurd (n_2 h1) h.1
  .exact n_8 (· +1) (b1n h.2 i j k (I h1) (I h2))
def a6Z(L:Nat)(am:List Nat):Bool:=Nat.ble L am.length && (List.range L).all λk=>Nat.beq (am.getD k 0) k
theorem a3u(h:a6Z L am=true)(k:Nat)(hk:k<L):am[k]?=some k:=by
 simp only[a6Z,T7,a40,List.mem_range]at h;have h1:=nb h.1;have h2:=a4A (h.2 k hk);have ab:k<am.length:=by omega
 rw[a0H ab];simpa[ab]using h2
theorem Rel.ren{S:List b9}(hC:C.plain)(hr:Rel C M σ w)(bE:a6Z L am=true)(cw:a0J am=true)(hL:L<=M.pl.length)(hS:b9u L am σ am S):Rel C (M.ren am) S w:=by
 have hk:=a3u bE;have ba:∀{j:Nat} {p:Pl} {ob:b9},(M.ren am).pl[j]?=some p->S[j]?=some ob->∃k,am[j]?=some k/\(ob= .dead\/∃da,σ[k]?=some da/\M.pl[k]?=some p/\b1N L am da ob):=by
  intro j p ob hp hs;have aI:(am.map λk=>M.pl.getD k ⟨0,0,0⟩)[j]?=some p:=hp;rw[O5,P2]at aI;obtain⟨k,hk,aI⟩:=aI;refine⟨k,hk,?_⟩
  rcases hS.get j k ob hk hs with rfl|⟨da,h1,h2⟩
  .exact .inl J
  .have ab:k<M.pl.length:=by rw[hr.len];exact(n_3.1 h1).1
   refine .inr ⟨da,h1,?_,h2⟩;rw[<- aI];simp[ab]
 have co:∀{da ob:b9},b1N L am da ob->ob.live=true->da.live=true:=by
  intro da ob h hl;cases h with
  |dead=>cases hl
  |same he _=>exact he▸hl
  |box _=>rfl
 refine⟨by show(am.map _).length=_;rw[L7,hS.len],hr.blk,λj p ob hp hs=>?_,λj j' p p' ob aL hp aI hs aU hl bg hb=>?_,λg cells hg=>?_,hr.kep,λj p ob hp hs hl=>?_⟩
 .obtain ⟨k,bw,h|⟨da,h1,h2,h3⟩⟩:=ba hp hs
  .subst h;exact⟨O,O⟩
  .exact S8.ren hk hL (hr.obj k p da h2 h1) h3
 .obtain ⟨k,bw,h|⟨da,h1,h2,h3⟩⟩:=ba hp hs
  .subst h;cases hl
  .obtain ⟨k',hk1',h'|⟨ob0',dW,dr,h3'⟩⟩:=ba aI aU
   .subst h';cases bg
   .have e:=hr.inj k k' p p' da ob0' h2 dr h1 dW (co h3 hl) (co h3' bg) hb;subst e;exact b1n cw j j' k bw hk1'
 .refine ⟨?_,(hr.glob g cells hg).full,(hr.glob g cells hg).sz⟩;exact a0f hk hL (hr.glob g cells hg).rv (.cptr λj c hj=>(hC g cells hg c (n_2 hj)).old)
 .obtain ⟨k,bw,h|⟨da,h1,h2,h3⟩⟩:=ba hp hs
  .subst h;cases hl
  .exact hr.nk k p da h2 h1 (co h3 hl)
theorem Ext.ren(hx:Ext M0 w0 M w)(bE:a6Z L am=true)(hL0:M0.pl.length=L):Ext M0 w0 (M.ren am) w:=by
 have hk:=a3u bE;obtain⟨l,hl⟩:=hx.pl;refine⟨⟨(M.ren am).pl.drop L,?_⟩,hx.full,hx.cell,hx.same,hx.sameC,hx.size,hx.drew,hx.os,hx.tape,hx.output,hx.kept⟩;have:(M.ren am).pl.take L=M0.pl:=by
  refine b9b λi=>?_;rw[a2y]
  split
  .rename_i hi;have hp0:M0.pl[i]?=some (M0.pl[i]'X):=by simp
   rw[a3a (hk i hi) (hx.get hp0),hp0]
  .rw [b2P X]
 rw[<- this,b4W]
def Env.isR(E:Env)(L:Nat)(am:List Nat):List (Nat×CV)->Prop
 | []=>True
 |(t,c)::l=>(E.ok t/\C6 L am (E.f t) c)/\E.isR L am l
theorem L3.onlyR{a:Act}(bE:a6Z L am=true)(hL:L<=M.pl.length)(hf:L3 M w n E a):∀{l:List (Nat×CV)},E.isR L am l->L3 (M.ren am) w n (Env.only l) a
 | [],_=>⟨hf.defers,hf.size,λ_ h=>h.elim,λ_ h=>h.elim⟩
 |(t,c)::l,⟨⟨h1,h2⟩,h⟩=>by
  have ih:=L3.onlyR bE hL hf h;refine⟨hf.defers,hf.size,λx hx=>?_,λx hx=>?_⟩
  .show RV (M.ren am) w (((Env.only l).putO (some t) c .yes).f x) _;have hx:((Env.only l).putO (some t) c .yes).ok x:=hx;rw[Env.putO_f];rw[Env.putO_ok]at hx
   split
   .subst x;exact(hf.rv t h1).ren (a3u bE) hL h2
   .rename_i ay;rw[D ay]at hx;exact ih.rv x hx
  .have hx:((Env.only l).putO (some t) c .yes).un x:=hx;rw[Env.putO_un]at hx;split at hx
   .exact absurd trivial hx
   .exact ih.un x hx
section
variable{Jk:D3->Env->List b9->Prop}
def a91{α:Type}(L:Nat)(l:α->List (Nat×CV))(S:α->List b9)(P:α->Prop)(E':Env)(aa:List b9):Prop:=
 ∃(a:α) (am:List Nat),P a/\(a6Z L am=true/\a0J am=true)/\E'.isR L am (l a)/\b9u L am aa am (S a)
theorem a91.go{c:Code}(hC:C.plain){l:α->List (Nat×CV)}{P:α->Prop}{E':Env}{aa:List b9}(hE:a91 L l S P E' aa)(k:∀a,P a->CWp C n c Jk (Env.only (l a)) (S a))(ak:M0.pl.length=L){a:Act}(hx:Ext M0 w0 M w)(hr:Rel C M aa w)(hf:L3 M w n E' a):
 c.wp C.P (Y1 C n Jk M0 w0) a w:=by
 obtain⟨x,am,hP,⟨h1,h2⟩,hE,hS⟩:=hE;have hL:L<=M.pl.length:=by
  obtain⟨l,hl⟩:=hx.pl;rw[hl];simp;omega
 exact wp_mono (k x hP _ w a (hr.ren hC h1 h2 hL hS) (hf.onlyR h1 hL hE)) λ_ _ _=>Y1.later (hx.ren h1 ak)
theorem a6m{x y:Code}(hC:C.plain)(L:Nat)(hL:Nat.beq L σ.length=true)(l:α->List (Nat×CV))(S:α->List b9)(P:α->Prop)(h:CWp C n x (D3.next (a91 L l S P) Jk) E σ)(k:∀a,P a->CWp C n y Jk (Env.only (l a)) (S a)):CWp C n (.seq x y) Jk E σ:=λM w a hr hf=>by
 refine wp_seq (wp_mono (h M w a hr hf) λe a' w' hl=>?_);obtain⟨E',aa,M',h1,h2,h3,h4⟩:=hl;cases e with
 |normal=>exact a91.go hC h4 k (by rw[hr.len];exact(a4A hL).symm) h1 h2 h3
 |_=>exact⟨E',aa,M',h1,h2,h3,h4⟩
theorem A2{c:Code}(hC:C.plain)(L:Nat)(hL:Nat.beq L σ.length=true)(l:α->List (Nat×CV))(S:α->List b9)(Je:α->Prop)(m:α->Nat)(h0:a91 L l S Je E σ)
 (cR:∀(a:α),Je a->CWp C n c (D3.next (a91 L l S λa'=>m a'<m a/\Je a') Jk) (Env.only (l a)) (S a)):CWp C n (.loop c) Jk E σ:=λM w a hr hf=>by
 intro b k cs;have hL:=a4A hL;have key:∀d (x:α) M1 w1 a1,m x=d->Je x->Ext M w M1 w1->Rel C M1 (S x) w1->L3 M1 w1 n (Env.only (l x)) a1 ->
  ∃e a' w',Y1 C n Jk M w e a' w'/\Arrives C.P (lone (b.at a1 (.code c::.inLoop c::k)) cs w1) b k cs e a' w':=by
  intro d
  induction d using Nat.strongRecOn with
  |_ d ih=>
   intro x M1 w1 a1 hd hI hx aG dF;obtain⟨e,a2,w2,hq,aA⟩:=cR x hI M1 w1 a1 aG dF b (.inLoop c::k) cs;obtain⟨E',aa,M',h1,h2,h3,h4⟩:=hq;cases e with
   |normal=>
    obtain⟨x',am,⟨ab,hI'⟩,⟨g1,g2⟩,hE',hS⟩:=h4;have aC:=hx.trans h1;have gK:L<=M'.pl.length:=by
     obtain⟨l,hl⟩:=aC.pl;rw[hl];simp;rw[hr.len,hL];omega
    obtain⟨dG,dH,dI,ci,bc⟩:=ih (m x') X x' _ w2 a2 J hI' (aC.ren g1 (by rw[hr.len,hL])) (h2.ren hC g1 g2 gK hS) (h3.onlyR g1 gK hE');exact⟨dG,dH,dI,ci,.of_steps (Steps.trans aA (.one step_inLoop)) bc⟩
   |exit id=>exact⟨_,a2,w2,⟨E',aa,M',hx.trans h1,h2,h3,h4⟩,.pass (x:=.inLoop c) J (λ_ _=>.inl H) aA⟩
   |goto l=>exact⟨_,a2,w2,⟨E',aa,M',hx.trans h1,h2,h3,h4⟩,.pass (x:=.inLoop c) J (λ_ _=>.inl H) aA⟩
   |ret=>exact⟨_,a2,w2,⟨E',aa,M',hx.trans h1,h2,h3,h4⟩,.pass (x:=.inLoop c) J (λ_ _=>.inl H) aA⟩
   |panic ch=>exact⟨_,a2,w2,⟨E',aa,M',hx.trans h1,h2,h3,h4⟩,.pass (x:=.inLoop c) J (λ_ _=>.inl H) aA⟩
   |outgrown=>exact h4.elim
 obtain⟨x,am,hP,⟨g1,g2⟩,hE,hS⟩:=h0;have gK:L<=M.pl.length:=by rw[hr.len,hL];omega
 obtain⟨e,a',w',hq,aA⟩:=key _ x _ w a J hP ((Ext.refl M w).ren g1 (by rw[hr.len,hL])) (hr.ren hC g1 g2 gK hS) (hf.onlyR g1 gK hE);exact⟨e,a',w',hq,.of_steps (.one step_loop) aA⟩
def C3:Nat->Nat->Option Nat
 |0,_=>none
 |_+1,p=>some p
def o5:Nat->b9
 |0=>.dead
 |m+1=>.tip (m+1)
def gnn:Nat->Bool
 |0=>false
 |_+1=>true
theorem a59(n m:Nat):I6 n (o5 m):=by cases m<;>trivial
end
theorem C6.grow{f:α->List CV}{p:Nat}{l:List α}(h:∀a,b6w L (f a))(hs:am[p]?=some k):C6 L am (.list (l.map f) (gnn m) (C3 m k)) (.list (l.map f) (gnn m) (C3 m p)):=by
 refine .list (λr hr c hc=>?_) (λj hj=>?_)
 .obtain ⟨a,_,rfl⟩:=D5.1 hr;exact z6 (h a) c hc
 .cases m with
  |zero=>cases hj
  |succ m=>cases hj;exact⟨k,J,hs⟩
section
variable{Jk:D3->Env->List b9->Prop}
theorem a2R{ti:TypeInfo}(rows':List (List CV))(n':Nat)(ho:o.op = .call {callee:=.builtin .append,args:=#[x,y],argTypes:=#[t,t]})(hx:E.valid x)(hy:E.valid y)(ex:E.val C x= .vec k 0 len)
 (aT:∀M w v,Rel C M σ w->RV M w (E.val C y) v->Src C M w new s v)(hu:∀w,(underlying t).run C.P w= .ok (.slice e) w)(hs:∀w,(sizeOf e).run C.P w= .ok s w)(df:∀w,(typeInfo e).run C.P w= .ok ti w)(hz:∀w,(zeroValue e).run C.P w= .ok z w)(bL:z.cells.size=s)
 (aK:σ[k]?=some (.vec s Y))(ak:len=Y.length)(dg:new≠[])(hb:(Y.length+new.length)*ti.bytes<=140737488355328)(bk:Y.length+new.length<=9223372036854775807)(he:Y++new=rows')(hn:Y.length+new.length=n')
 (hk:K (.ret (.vec σ.length 0 n')) (σ.set k .dead++[.vec s rows'])):H4 C σ E o K:=by
 subst ak he hn;exact c2E ho hx hy ex aT hu hs df hz bL aK dg hb bk hk
theorem b3J(rows':List (List CV))(n':Nat)(ho:o.op = .call {callee:=.builtin .append,args:=#[x,y],argTypes:=#[t,t]})(hx:E.valid x)(hy:E.valid y)(ex:E.val C x= .vec k off len)
 (aT:∀M w v,Rel C M σ w->RV M w (E.val C y) v->Src C M w new s v)(hu:∀w,(underlying t).run C.P w= .ok (.slice e) w)(hs:∀w,(sizeOf e).run C.P w= .ok s w)(aK:σ[k]?=some (.vec s Y))(hl:off+len+new.length<=Y.length)(he:J3 Y (off+len) new=rows')(hn:len+new.length=n'){aa:List b9}(ao:σ.set k (.vec s rows')=aa)
 (hk:K (.ret (.vec k off n')) aa):H4 C σ E o K:=
 b6C ho hx hy ex aT hu hs aK hl (by rw[he,ao,hn];exact hk)
theorem c8C(rows':List (List CV))(ho:o.op = .call {callee:=.builtin .clear,args:=#[x],argTypes:=#[t]})(hx:E.valid x)(ex:E.val C x= .vec k off len)
 (hu:∀w,(underlying t).run C.P w= .ok (.slice e) w)(hz:∀w,(zeroValue e).run C.P w= .ok z w)(bP:M6 z=true)(cL:(I5 z).one=true\/∃cs,I5 z= .agg cs)(bL:z.cells.size=s)(aK:σ[k]?=some (.vec s Y))(hl:off+len<=Y.length)(he:J3 Y off (List.replicate len (c1T z))=rows'){aa:List b9}(ao:σ.set k (.vec s rows')=aa)
 (hk:K (.ret (.val (.tuple #[]))) aa):H4 C σ E o K:=
 d4v ho hx ex hu hz bP cL bL aK hl (by rw[he,ao];exact hk)
theorem M8(rows':List (List CV))(ho:o.op = .store t x y)(hx:E.valid x)(hy:E.valid y)(ex:E.val C x= .eptr k i off)(ey:E.val C y=c)(hs:∀w,(sizeOf t).run C.P w= .ok m w)
 (hc:c.one=true\/∃cs,c= .agg cs)(hk:σ[k]?=some (.vec s Y))(hi:Y[i]?=some r)(hl:c.cells.length=m)(ab:off+m<=r.length)(he:Y.set i (Q4 r off c.cells)=rows'){aa:List b9}(ao:σ.set k (.vec s rows')=aa)(h:K (.ret (.val undef)) aa):H4 C σ E o K:=
 c7N ho hx hy ex ey hs hc hk hi hl ab (by rw[he,ao];exact h)
theorem c5{c:α->CV}{P:α->Prop}(ho:o.op = .call {callee:=.value (.func f),args:=xs,argTypes:=ts})(aB:∀args w,(callFunc f args).run C.P w= .ok (.enter f args) w)
 (hv:E.valids xs.toList)(h:b8 C f ax σ λr aa=>∃a,r= .ret (c a)/\aa=S a/\P a)(ea:(E.vals C xs.toList).map CV.fgt=ax)(hk:∀a,P a->K (.ret (c a)) (S a)):H4 C σ E o K:=
 b7c ho aB (Env.valids_mem hv) (Env.vals_map _) ((a2D (ea▸h)).mono λr aa hh=>by
  obtain⟨a,rfl,rfl,hp⟩:=hh;exact hk a hp)
end
section
variable{ae:Array Oper}
def d9v(C:Ctx)(ae:Array Oper)(o:Oper)(E:Env)(σ:List b9)(K:CV->Prop->List b9->Prop)(Kp:CV->List b9->Prop):Prop:=
 (o.guard=none/\H4 C σ E o λr aa=>match r with| .ret c=>K c True aa| .pan c=>Kp c aa)\/(∃c g,M9 C σ ae o E c g/\K c g σ)
def a2F(S:List (List b9->Prop))(σ:List b9):List Nat->Prop
 | []=>True
 |k::l=>(S.getD k λ_=>True) σ/\a2F S σ l
theorem a2F.get{S:List (List b9->Prop)}:∀{l:List Nat},a2F S σ l->∀k∈l,(S.getD k λ_=>True) σ
 | [],_,k,h=>by cases h
 |x::l,⟨h1,h2⟩,k,h=>by
  rcases J0.1 h with rfl|h
  .exact h1
  .exact h2.get k h
end
section
variable{ae:Array Oper}
theorem c8(hg:o.guard=none)(hy:m0 C σ E o c):M9 C σ ae o E c True:=.inl ⟨hg,O,hy⟩
theorem C8{K:Env->List (List b9->Prop)->Prop}{S:List (List b9->Prop)}(h:K E S):a3k C σ ae K [] E S:=h
theorem chf{K:Env->List (List b9->Prop)->Prop}{l:List Nat}{S:List (List b9->Prop)}(ho:ae[i]?=some o)(bn:M9 C σ ae o E c g)(h:a3k C σ ae K l (E.put o.dst c g) (S++[λaa=>M9 C aa ae o E c g])):a3k C σ ae K (i::l) E S:=
 ⟨o,c,g,ho,bn,h⟩
end
section
theorem b0B{c:Nat}{a:Option Addr}{x:Value}(hu:∀w,(underlying t).run P w= .ok (.slice e) w)(hs:∀w,(sizeOf e).run P w= .ok s w)
 (ak:∀w,(Builtin.lenOf x).run P w= .ok 0 w)(dJ:(Builtin.firstCells s 0 x).run P w= .ok arr w)(aA:arr.size=0)(fC:n<=c):(Builtin.append_ #[t,t] ty #[.slice a n c,x]).run P w= .ok (.slice a n c) w:=by
 have:arr= #[]:=Array.eq_empty_of_size_eq_zero aA;subst this;cases a<;>simp[Builtin.append_,hu,hs,ak,dJ,fC,storeCells]
theorem Rel.addDead(hr:Rel C M σ w)(q:Pl):Rel C (M.add q) (σ++[.dead]) w/\Ext M w (M.add q) w:=by
 have hx:Ext M w (M.add q) w:=⟨⟨[q],J⟩,λ_ h=>h,λ_ _ h=>.inr h,λ_ _=>J,λ_ _ _=>J,n_7 _,U0,J,J,J,λ_ h=>⟨h,J,id,λ_=>id⟩⟩;have aq:∀{k:Nat} {p:Pl} {ob:b9},(M.add q).pl[k]?=some p->(σ++[.dead])[k]?=some ob->ob= .dead\/(M.pl[k]?=some p/\σ[k]?=some ob):=by
  intro k p ob h1 h2;rw[a7p]at h2;split at h2
  .rename_i ab;have h1:(M.pl++[q])[k]?=some p:=h1;rw[R8 (by rw[hr.len];exact ab)]at h1;exact .inr ⟨h1,h2⟩
  .refine .inl ?_;have:=n_2 h2;simpa using this
 refine⟨⟨by show(M.pl++[q]).length=_;simp[hr.len],hr.blk,λk p ob h1 h2=>?_,λk k' p p' ob aL h1 dW h2 dr hl bg hb=>?_,λg cells hg=>(hr.glob g cells hg).mono hx,hr.kep,λk p ob h1 h2 hl=>?_⟩,hx⟩
 .rcases aq h1 h2 with rfl|⟨g1,g2⟩
  .exact ⟨O,O⟩
  .obtain ⟨o1,o2⟩:=hr.obj k p ob g1 g2;exact⟨o1.mono hx J (λ_ _ _ _ h=>h),by cases ob<;>exact o2⟩
 .rcases aq h1 h2 with rfl|⟨g1,g2⟩
  .cases hl
  .rcases aq dW dr with rfl|⟨gu,gJ⟩
   .cases bg
   .exact hr.inj k k' p p' ob aL g1 gu g2 gJ hl bg hb
 .rcases aq h1 h2 with rfl|⟨g1,g2⟩
  .cases hl
  .exact hr.nk k p ob g1 g2 hl
theorem A4{p:Nat}{ti:TypeInfo}(ho:o.op = .call {callee:=.builtin .append,args:=#[x,y],argTypes:=#[t,t]})(hx:E.valid x)(hy:E.valid y)(ex:E.val C x= .list Y (gnn m) (C3 m p))(hm:m=Y.length)
 (aT:∀M w v,Rel C M σ w->RV M w (E.val C y) v->Src C M w new s v)(hu:∀w,(underlying t).run C.P w= .ok (.slice e) w)(hs:∀w,(sizeOf e).run C.P w= .ok s w)(df:∀w,(typeInfo e).run C.P w= .ok ti w)(hz:∀w,(zeroValue e).run C.P w= .ok z w)(bL:z.cells.size=s)
 (cd:(m=0/\σ.set p .dead=σ)\/σ[p]?=some (o5 m))(bi:∀r∈Y,r.length=s)(hb:(Y.length+new.length)*ti.bytes<=140737488355328)(bk:Y.length+new.length<=9223372036854775807)(rows':List (List CV))(m':Nat)(he:Y++new=rows')(hm':Y.length+new.length=m')
 (hk:K (.ret (.list rows' (gnn m') (C3 m' σ.length))) (σ.set p .dead++[o5 m'])):H4 C σ E o K:=by
 subst hm he hm'
 rcases new with _|⟨r1,new⟩
 .
  intro M w ρ hr hh;have h1:=hh x H9 hx;have h2:=hh y H9 hy;rw[ex]at h1;have eK:=aT M w _ hr h2;have ak:=eK.lenOf;obtain⟨a,cap,b,off,s',vals,hv,bj,dL,dV,dz,ha,cq,aQ,hc,bh,cH⟩:=h1.list_inv;obtain⟨_,_,_,_,_,arr,ck,aW,_⟩:=eK;have bG:(execOp ρ o).run C.P w=((Builtin.append_ #[t,t] o.type #[ρ x,ρ y]).run C.P w).andThen λv w=>.ok (.value v) w:=by
   simp[execOp,ho,resolve,invoke,builtin]
  have av:(execOp ρ o).run C.P w= .ok (.value (.slice a Y.length cap)) w:=by
   rw[bG,hv,b0B hu hs (I ak) (I ck) (I aW) bj];rfl
  rw[av];simp only[a0z,J6,a9r]at hk
  rcases Y with _|⟨r0,Y⟩
  .obtain ⟨aG,bd⟩:=(hr.dead p).addDead ⟨0,0,0⟩;exact⟨_,_,_,bd,aG,by simpa[gnn,C3,hv]using h1.mono bd,hk⟩
  .have il:σ[p]?=some (.tip (r0::Y).length):=by
    rcases cd with h|h
    .simp at h
    .exact h
   obtain⟨sz,hp,ha0,ga,aJ⟩:=cH p J;obtain⟨bd,aG⟩:=hr.tipNew (m:=(r0::Y).length) hp il (n_7 _) bj;refine⟨_,_,_,bd,aG,?_,hk⟩;have hl:=h1.mono bd;rw[hv]at hl;obtain⟨a',cap',b',off',s'',fG,fy,q1,q2,q3,q4,q5,q6,q7,q8,q9,q10⟩:=hl.list_inv;injection fy with e1 e2 e3
   subst e1 e3;refine RV.list' (L:=(r0::Y).length) J fG q1 q2 (by rw[q3]) (λh=>by cases h) q5 q6 q7 q8 q9 (λk' aK=>?_);obtain⟨s3,g1,g2,g3,g4⟩:=q10 p J;injection aK with aK
   subst aK;refine⟨s3,?_,g2,g3,g4⟩;have e4:=bd.get hp;rw[g1]at e4;rw[e4];simp[B2.add,<- hr.len]
 .rcases Y with _|⟨r,Y⟩
  .have e:σ.set p .dead=σ:=by
    rcases cd with h|h
    .exact h.2
    .refine b9b λi=>?_;rw[a9z]
     split
     .rename_i h';subst h';rw[F (n_3.1 h).1,h];rfl
     .rfl
   rw[e]at hk;exact b7F ho hx hy ex aT hu hs df hz bL (.inl ⟨J,J,J⟩) bi H hb bk (by simpa[kill,gnn,C3,o5]using hk)
  .have il:σ[p]?=some (.tip (r::Y).length):=by
    rcases cd with h|h
    .simp at h
    .exact h
   exact b7F ho hx hy ex aT hu hs df hz bL (.inr ⟨H,p,J,il⟩) bi H hb bk hk
theorem d4I{ti:TypeInfo}(ho:o.op = .call {callee:=.builtin .append,args:=#[x,y],argTypes:=#[t,t]})(hx:E.valid x)(hy:E.valid y)(ex:E.val C x= .list [] false none)
 (aT:∀M w v,Rel C M σ w->RV M w (E.val C y) v->Src C M w new s v)(hu:∀w,(underlying t).run C.P w= .ok (.slice e) w)(hs:∀w,(sizeOf e).run C.P w= .ok s w)(df:∀w,(typeInfo e).run C.P w= .ok ti w)(hz:∀w,(zeroValue e).run C.P w= .ok z w)(bL:z.cells.size=s)
 (hb:new.length*ti.bytes<=140737488355328)(bk:new.length<=9223372036854775807)(m':Nat)(hm':new.length=m')
 (hk:K (.ret (.list new (gnn m') (C3 m' σ.length))) (σ++[o5 m'])):H4 C σ E o K:=
 A4 (m:=0) (p:=σ.length) ho hx hy ex J aT hu hs df hz bL (.inl ⟨J,by rw[List.set_eq_of_length_le (n_7 _)]⟩) H (I hb) (I bk) new m' H (I hm') (by rw[List.set_eq_of_length_le (n_7 _)];exact hk)
end
section
theorem b4J(ho:o.op = .nilCheck x)(hx:E.valid x)(ex:E.val C x= .ptr k off):m0 C σ E o (.ptr k off):=
 i8 λM w ρ _ h=>by
  have h1:=h x w8 hx;rw[ex]at h1;generalize eo:ρ x=u at h1;cases h1 with
  |ptr hp=>exact⟨_,by simp[execOp,ho,eo],.ptr hp⟩
end
end Go.Cl
namespace Go.Cl
open Go Go.ChangeShapes Go.WideShapes Go.RowKit Go.ChangeAt
variable{w:World}{v:Value}{cs:List Value}{row:List CV}
def whole(w:World):B2:={pl:=[],full:=λb=>b<w.heap.size,cell:=λ_ _=>False,keep:=λb=>b<w.heap.size}
theorem a7V{a:Addr}(h:w.cell? a=some v):a.block <w.heap.size/\a.spot=none:=by
 unfold World.cell? at h;split at h
 .rename_i hw;refine⟨(a1Z.1 hw).1,?_⟩;cases hs:a.spot with
  |none=>rfl
  |some s=>rw[hs]at h;simp at h
 .cases h
theorem a2Z{a:Addr}{k:Nat}(h:w.cell? (a.add k)=some v):a.add k=⟨a.block,a.off+k,none⟩:=by
 have hs:=(a7V h).2;unfold Addr.add at hs⊢;by_cases hk:k=0
 .rw [F hk]at hs⊢;subst hk;cases a;simp at hs;subst hs;rfl
 .rw [D hk]
theorem c0v{a:Addr}(h:w.cell? a=some v)(o:Nat):(whole w).at a.block o:=.inl (a7V h).1
theorem b5c{C:Ctx}(hg:∀g cells,C.glob g=some cells->GV (whole w) w cells g):Rel C (whole w) [] w:=by
 refine⟨J,λb o h=>?_,λk p ob h=>?_,λk k' p p' ob aL h=>?_,hg,λb h=>h,λk p ob h=>?_⟩
 .rcases h with h|h
  .exact h
  .exact h.elim
 all_goals simp[whole]at h
theorem b6p{w':World}{M':B2}(h:Ext (whole w) w M' w'):Below w.heap.size w w':=
 ⟨h.os,h.tape,h.output,h.size,λk hk=>h.same k hk⟩
theorem b0z{C:Ctx}{f:FuncId}{gR:List CV}{Ji:World}{args:Array Value}{u:Value}
 (hg:∀g cells,C.glob g=some cells->GV (whole Ji) Ji cells g)
 (hn:args.size=gR.length)(ha:∀(i:Nat) (c:CV),gR[i]?=some c->RV (whole Ji) Ji c (args.getD i undef))
 (h:b8 C f gR [] λr aa=>r= .ret (.val u)/\aa=[]):Calls C.P f args Ji λe W'=>e= .returned u/\Below Ji.heap.size Ji W':=by
 refine(h (whole Ji) Ji args (b5c hg) hn ha).mono λe W' he=>?_;cases e with
 |returned v=>
  obtain⟨c,aa,M',h1,h2,h3,h4,h5⟩:=he;cases h4;cases h3;exact⟨J,b6p h1⟩
 |panicked ch=>
  obtain⟨c,v,aa,M',-,-,-,-,h4,-⟩:=he;cases h4
 |outgrown=>exact he.elim
structure RCs(w:World)(row:List CV)(cs:List Value):Prop where
 len:row.length=cs.length
 one:∀c∈row,c.one=true
 rv:∀(j:Nat) (c:CV),row[j]?=some c->RV (whole w) w c (cs.getD j undef)
theorem RCs.nil:RCs w [] []:=⟨J,λc h=>by simp at h,λj c h=>by simp at h⟩
theorem RCs.cons{c:CV}(h1:c.one=true)(h2:RV (whole w) w c v)(h:RCs w row cs):RCs w (c::row) (v::cs):=by
 refine⟨by simp[h.len],λx hx=>?_,λj x hj=>?_⟩
 .rcases J0.1 hx with rfl|hx
  .exact h1
  .exact h.one x hx
 .rcases j with _|j
  .simp at hj;subst hj;simpa using h2
  .simpa using h.rv j x (I hj)
theorem RCs.val(h1:v.oneCell'=true)(h:RCs w row cs):RCs w (.val v::row) (v::cs):=h.cons h1 (.val v)
theorem RCs.agg(h:RCs w row cs):RV (whole w) w (.agg row) (.agg cs.toArray):=by
 refine .agg (by simp[h.len]) h.one λi c hi=>?_;have:=h.rv i c hi;rw[a49]at this;rw[a0U];simpa using this
section
variable{Jj:Type}{enc:TypeId×Value->Jj}{P:Program}{base:Nat}{fH:Nat->Bool}{io:Bool}
theorem b7X{α:Type} [Inhabited α](f:α->List CV)(Jk:α->Prop){t e:TypeId}{gd:Nat}{x:DataW Jj×List MemPlace}(ht:P.underlying t=some (.slice e)){s:Nat}(hs:P.cellsOf e=s)(h0:0<s)
 (dR:∀(n:Nat) (cs:List Value) (y:DataW Jj×List MemPlace),DataW.trod enc P w base fH io n e cs=some y->∃a,Jk a/\RCs w (f a) cs)
 (h:DataW.trod enc P w base fH io gd t cs=some x):
 ∃(l:List α) (nn:Bool) (v:Value),cs=[v]/\RV (whole w) w (.list (l.map f) nn none) v/\l.length<=maxLen/\(∀a∈l,Jk a)/\(nn=false->l=[]):=by
 rcases DataW.trod_slice ht h with⟨rfl,-⟩|⟨a,len,cap,fI,rest,n,-,rfl,-,hb,hl,hm,ak,hE,-,-⟩
 .exact ⟨[],false,_,J,.list (b:=0) (off:=0) (s:=s) (λ_ _=>undef) (n_7 _) (n_4 _) J a0b (λh=>by simp at h) (λr hr=>by simp at hr) (λr hr=>by simp at hr) (λi j r c hi=>by simp at hi) (λi j r c hi=>by simp at hi) (λk hk=>by cases hk),n_4 _,λa ha=>by simp at ha,λ_=>J⟩
 .have key:∀i:Nat,i<len->∃(a':α) (aS:List Value),Jk a'/\RCs w (f a') aS/\aS.length=s/\∀j,j<s->w.cell? (a.add (i*s+j))=some (aS.getD j undef):=by
   intro i hi;have h1:=hE i hi;have h2:fI[i]?=some (fI[i]'X):=a0H X;rw[h2,c45]at h1;obtain⟨aS,hc,hy⟩:=h1;obtain⟨a',hQ,hR⟩:=dR _ _ _ hy;obtain⟨-,bO,aV⟩:=World.cells?_some hc;rw[hs]at bO aV;refine⟨a',aS,hQ,hR,bO,λj hj=>?_⟩;have:=aV j hj;rw[a0H X]at this;rw[a49,a0H X];rw[<- Go.Deep.add_add,this];rfl
  have dh:∃Jh:Nat->α,∃Jg:Nat->List Value,∀i,i<len->Jk (Jh i)/\RCs w (f (Jh i)) (Jg i)/\(Jg i).length=s/\∀j,j<s->w.cell? (a.add (i*s+j))=some ((Jg i).getD j undef):=by
   classical
   by_cases hlz:len=0
   .subst hlz;exact⟨λ_=>default,λ_=>[],λi hi=>absurd hi (Nat.not_lt_zero _)⟩
   .obtain ⟨a0,-⟩:=key 0 X;have:∀i:Nat,∃p:α×List Value,i<len->Jk p.1/\RCs w (f p.1) p.2/\p.2.length=s/\∀j,j<s->w.cell? (a.add (i*s+j))=some (p.2.getD j undef):=λi=>by
     by_cases hi:i<len
     .obtain ⟨a',aS,h⟩:=key i hi;exact⟨(a',aS),λ_=>h⟩
     .exact ⟨(a0,[]),λh=>absurd h hi⟩
    exact⟨λi=>(Classical.choose (this i)).1,λi=>(Classical.choose (this i)).2,λi hi=>Classical.choose_spec (this i) hi⟩
  obtain⟨Jh,Jg,hF⟩:=dh;have bS:∀(i:Nat) (r:List CV),(((List.range len).map Jh).map f)[i]?=some r->i<len/\r=f (Jh i):=λi r hi=>by
   rw[List.map_map,O5]at hi
   rcases a2J i len with h|h
   .rw [c3i h]at hi;exact⟨h,(Option.some.inj hi).symm⟩
   .rw [b2P (I h)]at hi;cases hi
  have bx:∀r∈((List.range len).map Jh).map f,∃i,i<len/\r=f (Jh i):=λr hr=>by
   obtain⟨i,hi⟩:=N0.1 hr;exact⟨i,bS i r hi⟩
  have bX:(((List.range len).map Jh).map f).length=len:=by simp
  refine⟨(List.range len).map Jh,true,_,J,?_,by simp;omega,λx hx=>?_,λh=>by cases h⟩
  .have:=RV.list (M:=whole w) (w:=w) (Y:=((List.range len).map Jh).map f) (nn:=true) (tok:=none) (a:=some a) (cap:=cap) (b:=a.block) (off:=a.off) (s:=s) (λi j=>(Jg i).getD j undef)
    (by rw[bX];exact hl) hm J (λh=>by cases h) (λay=>?_) (λr hr=>?_) (λr hr=>?_) (λi j r c hi hj=>?_) (λi j r c hi hj=>?_) (λk hk=>by cases hk)
   .rw [bX]at this;exact this
   .rcases b0J len with hz|hz
    .subst hz;exact absurd J ay
    .have:=(hF 0 hz).2.2.2 0 h0;have:=a2Z this;simpa[Addr.add]using this
   .obtain ⟨i,hi,rfl⟩:=bx r hr;rw[(hF i hi).2.1.len,(hF i hi).2.2.1]
   .obtain ⟨i,hi,rfl⟩:=bx r hr;exact(hF i hi).2.1.one
   .obtain ⟨aZ,rfl⟩:=bS i r hi;have hjs:j<s:=by
     have:=(n_3.1 hj).1;rw[(hF i aZ).2.1.len,(hF i aZ).2.2.1]at this;exact this
    have hc:=(hF i aZ).2.2.2 j hjs;rw[a2Z hc,<- a8e]at hc;exact⟨c0v hc _,hc⟩
   .obtain ⟨aZ,rfl⟩:=bS i r hi;exact(hF i aZ).2.1.rv j c hj
  .obtain ⟨i,hi,rfl⟩:=D5.1 hx;exact(hF i (I hi)).1
end
theorem a6Y{Jj:Type}{enc:TypeId×Value->Jj}{P:Program}(hl:laidOutB P=true){Ji W':World}(hb:Below Ji.heap.size Ji W'){sp:Nat->Bool}:∀{ts:List TypeId} {vs:List Value} {ds:List (DataW Jj)} {ps:List MemPlace},(∀t∈ts,P.readableRec t=true/\t<P.types.size)->DataW.TrodAll enc P Ji 0 (λ_=>true) true ts vs ds ps->(∀p∈ps,p.block <Ji.heap.size)->(∀p∈ps,sp p.block=true)->DataW.TrodAll enc P W' 0 sp true ts vs ds ps
 | [],[],[],_,_,h,_,_=>h
 |t::ts,v::vs,d::ds,ps,hr,h,ab,ah=>by
  obtain⟨p,q,h1,h2,rfl⟩:=h;exact⟨p,q,WideElems.Trod_stays hl (hr t H).1 (hr t H).2 h1 (λx hx=>hb.same (ab x (by simp[hx]))) (λx hx=>ah x (by simp[hx])),
   a6Y hl hb (λt ht=>hr t (by simp[ht])) h2 (λx hx=>ab x (by simp[hx])) (λx hx=>ah x (by simp[hx])),J⟩
 | [],_::_,_,_,_,h,_,_=>h.elim
 | [],[],_::_,_,_,h,_,_=>h.elim
 |_::_,[],_,_,_,h,_,_=>h.elim
 |_::_,_::_,[],_,_,h,_,_=>h.elim
theorem d0n{P:Program}{ts:List TypeId}(h:(ts.all λt=>P.readableRec t&&decide (t<P.types.size))=true):∀t∈ts,P.readableRec t=true/\t<P.types.size:=λt ht=>by
 have:=a40.1 h t ht;simpa using this
theorem c2z{Jj:Type}{enc:TypeId×Value->Jj}{P:Program}{f:Func}{s:ChangeSpec}{apart gx dE gy:Bool}{Ji W':World}{args:Array Value}{ds gs:List (DataW Jj)}{bA pa pv:List MemPlace}
 (hW:DataW.Whole enc P f.params.toList s.vars apart Ji args.toList ds gs bA)
 (eA:∀(b:Nat) (sp:Nat->Bool) (hd:Bool),DataW.TrodAll enc P W' b sp hd f.resultTypes.toList (v.resultList f.resultTypes.size) (s.fn Jj (ds++gs)).results [])
 (ap:∀sp:Nat->Bool,(∀p∈bA,sp p.block=true)->DataW.TrodAll enc P W' 0 sp true f.params.toList args.toList (s.fn Jj (ds++gs)).args pa)
 (hvars:∀sp:Nat->Bool,(∀p∈bA,sp p.block=true)->DataW.TrodVars enc P W' sp s.vars (s.fn Jj (ds++gs)).vars pv)
 (cm:bA=pa++pv)(hb:Below Ji.heap.size Ji W')
 (bo:∀(j:Nat) (t:TypeId) (r:Value),f.resultTypes[j]?=some t->(v.resultList f.resultTypes.size)[j]?=some r->Value.okWide P W' .any 0 t r):
 s.post enc P f apart gx dE gy Ji args v W':=by
 have ab:∀p∈bA,p.block <Ji.heap.size:=λp hp=>hW.lt p hp;have bQ:∀p∈bA,(λb=>decide (b<Ji.heap.size)) p.block=true:=λp hp=>by simpa using ab p hp
 refine⟨ds,gs,bA,[],pa,pv,hW,eA _ _ _,ap _ bQ,hvars _ bQ,World.keptBut_mono (λp hp=>⟨hp,?_⟩) (hb.frame (·∈bA)),λ_=>?_⟩
 .rw [cm,J5]at hp;exact Or.inr hp
 .obtain ⟨_,_,_,_,_,hz,hn⟩:=hW;refine⟨bo,_,_,([]++pa)++pv,⟨[]++pa,pv,trodAll_append (ap _ (λ_ _=>J)) (eA _ _ _),hvars _ (λ_ _=>J),J,?_,?_⟩,?_⟩
  .intro b off hp;have bF:MemPlace.cell b off∈bA:=by rw[cm];simpa using hp
   rw[hb.frozen (ab _ bF)];exact hz b off bF
  .intro ha;have:=hn ha;rw[cm]at this;simpa using this
  .intro p hp _;rw[cm];simpa using hp
end Go.Cl
namespace Go.Cl
variable{x y:Operand}{ts:Array TypeId}{a b:Int}
section
variable{C:Ctx}{E:Env}{σ:List b9}{o:Oper}
theorem c8t{k:IntKind}(ho:o.op = .call {callee:=.builtin .max,args:=#[x,y],argTypes:=ts})(hx:E.valid x)(hy:E.valid y)(ex:E.val C x= .val (.int k a))(ey:E.val C y= .val (.int k b)):m0 C σ E o (.val (.int k (max a b))):=
 i8 λM w ρ _ h=>by
  have h1:=h x H9 hx;have h2:=h y H9 hy;rw[ex]at h1;rw[ey]at h2;refine⟨.int k (max a b),?_,.val _⟩;simp[execOp,ho,resolve,invoke,builtin,r4 h1,r4 h2,Go.Lib.run_max_ints]
end
section
variable{C:Ctx}{E:Env}{σ:List b9}{o:Oper}
theorem c29{t e:TypeId}{s:Nat}{new:List (List CV)}{ti:TypeInfo}{z:Value}{K:V7->List b9->Prop}(m':Nat)(ho:o.op = .call {callee:=.builtin .append,args:=#[x,y],argTypes:=#[t,t]})(hx:E.valid x)(hy:E.valid y)(ex:E.val C x= .list [] false none)
 (aT:∀M w v,Rel C M σ w->RV M w (E.val C y) v->Src C M w new s v)(hu:∀w,(underlying t).run C.P w= .ok (.slice e) w)(hs:∀w,(sizeOf e).run C.P w= .ok s w)(df:∀w,(typeInfo e).run C.P w= .ok ti w)(hz:∀w,(zeroValue e).run C.P w= .ok z w)(bL:z.cells.size=s)
 (dg:0<new.length)(hb:new.length*ti.bytes<=140737488355328)(bk:new.length<=9223372036854775807)(hm:new.length=m')
 (hk:K (.ret (.vec σ.length 0 m')) (σ++[.vec s new])):H4 C σ E o K:=λM w ρ hr hh=>by
 subst hm;have h1:=hh x H9 hx;have h2:=hh y H9 hy;rw[ex]at h1;have ak:=(aT M w _ hr h2).lenOf;have bG:(execOp ρ o).run C.P w=((Builtin.append_ #[t,t] o.type #[ρ x,ρ y]).run C.P w).andThen λv w=>.ok (.value v) w:=by
  simp[execOp,ho,resolve,invoke,builtin]
 have h1i:=h1;obtain⟨a,cap,b,off,s',vals,hv,bj,dL,dV,dz,-,-,-,-,-,-⟩:=h1i.list_inv;have eL:=dz J;subst eL;obtain⟨dX,gQ⟩:=hr.drewN;have ez:=a1s (C:=C) (s:=s) (a6p h1) (λr hr=>by simp at hr);rw[hv]at ez;obtain⟨a1,c1,eu,_,bi,old,hfo,dM,fa⟩:=ez;obtain⟨an,cn,hvn,_,cj,arr,ck,aW,bq⟩:=aT M w.drew _ dX (a6p h2);obtain⟨c',bW,cr,av⟩:=Y8 (P:=C.P) (ty:=o.type) (a:=a) (c:=0) (w:=w) (n:=([]:List (List CV)).length) (m:=new.length) hu (.inl hu) hs df hz ak hfo ck K5 (I bk) (I hb);rw[bG,hv,av];simp only[Result.andThen_ok];have fZ:w.drew.heap.size=w.heap.size:=J;rw[<- fZ];have dN:(old++arr++Builtin.zeroCells z.cells (c'- (([]:List (List CV)).length+new.length))).size=c'*s:=by
  simp only[b8u,X4,dM,aW,bL];rw[<- R4,<- R4]
  congr 1;omega
 have aM:=Ext.alloc dX ⟨w.drew.heap.size,c',s⟩ (.cells (old++arr++Builtin.zeroCells z.cells (c'- (([]:List (List CV)).length+new.length))) e);have aq:=a24 (rest:=Builtin.zeroCells z.cells (c'- (([]:List (List CV)).length+new.length))) dM aW bi cj (λi j r c hi hj=>(fa i j r c hi hj).1) (λi j r c hi hj=>(bq i j r c hi hj).1);have aX:=dX.alloc ⟨w.drew.heap.size,c',s⟩ (.cells (old++arr++Builtin.zeroCells z.cells (c'- (([]:List (List CV)).length+new.length))) e) (.vec s ([]++new)) J
  ⟨J,I bW,by unfold maxLen;simp only;omega,I cj,λr hr c hc=>(by
   obtain⟨i,hi⟩:=N0.1 (by simpa using hr:r∈new);obtain⟨j,hj⟩:=N0.1 hc;exact(bq i j r c hi hj).2),_,e,B3 _ _,dN,λi j r c hi hj=>((aq i j r c hi hj).2.mono aM)⟩
 refine⟨.vec σ.length 0 new.length,_,_,gQ.trans aM,aX,?_,hk⟩;have:=RV.vec (M:=M.add ⟨w.drew.heap.size,c',s⟩) (w:=w.drew.alloc (.cells (old++arr++Builtin.zeroCells z.cells (c'- (([]:List (List CV)).length+new.length))) e)) (k:=σ.length) (off:=0) (len:=new.length) (p:=⟨w.drew.heap.size,c',s⟩) (a:=⟨w.drew.heap.size,0,none⟩) b0n (I bW) (by unfold maxLen;simp only;omega) (λ_=>by simp);simpa using this
end
inductive ClO(n:Nat)(σ:List b9):b9->b9->Prop where
 |dead {ob:b9}:ClO n σ ob .dead
 |same {ob:b9}:I6 n ob->ClO n σ ob ob
 |box {t0:Option TypeId} {cells bU:List CV}:a7i n σ cells bU->ClO n σ (.boxT t0 cells) (.boxT t0 bU)
def b30(n:Nat)(σ:List b9):List b9->List b9->Prop
 |_,[]=>True
 |a::l,b::l'=>ClO n σ a b/\b30 n σ l l'
 | [],_::_=>False
theorem b30.get{n:Nat}{σ:List b9}:∀{l l':List b9},b30 n σ l l'->l'.length<=l.length/\∀(k:Nat) (b:b9),l'[k]?=some b->∃a,l[k]?=some a/\ClO n σ a b
 |_,[],_=>⟨n_4 _,λk b h=>by simp at h⟩
 |a::l,b::l',⟨h1,h⟩=>by
  obtain⟨g1,g2⟩:=h.get;refine⟨Nat.succ_le_succ g1,λk b hk=>?_⟩
  rcases k with _|k
  .simp at hk;subst hk;exact⟨a,J,h1⟩
  .exact g2 k b (I hk)
theorem Rel.cutCls{C:Ctx}(hC:C.plain){M:B2}{σ S:List b9}{w:World}(hr:Rel C M σ w)(hS:b30 S.length σ σ S):
 Rel C (M.cutAt S.length σ) S w/\Cut S.length M (M.cutAt S.length σ)/\∀M0 w0,Ext M0 w0 M w->M0.pl.length<=S.length->Ext M0 w0 (M.cutAt S.length σ) w:=by
 obtain⟨aO,gz⟩:=hS.get;have aR:Cut S.length M (M.cutAt S.length σ):=⟨J,λ_ h=>.inl h,λ_ _ h=>.inr h⟩;have ik:∀(k:Nat) (p:Pl) (s:Nat) (Y:List (List CV)),S.length<=k->M.pl[k]?=some p->σ[k]?=some (.vec s Y)->(M.cutAt S.length σ).full p.block:=λk p s Y hk hp ao=>.inr ⟨k,p,_,hk,hp,ao,J,J⟩;have aq:∀{k:Nat} {p:Pl},(M.cutAt S.length σ).pl[k]?=some p->k<S.length/\M.pl[k]?=some p:=by
  intro k p hk;have hk:(M.pl.take S.length)[k]?=some p:=hk;rw[a2y]at hk;split at hk
  .exact ⟨‹_›,hk⟩
  .cases hk
 have ak:S.length<=M.pl.length:=by rw[hr.len];exact aO
 have co:∀{a b:b9},ClO S.length σ a b->b.live=true->a.live=true:=by
  intro a b h hl;cases h with
  |dead=>cases hl
  |same _=>exact hl
  |box _=>rfl
 refine⟨⟨by show(M.pl.take S.length).length=_;simp;omega,λb o ha=>?_,λk p ob hk hs=>?_,λk k' p p' ob aL hk aK hs aU cp cb hb=>?_,λg cells hg=>?_,hr.kep,λk p ob hk hs ca=>?_⟩,aR,λM0 w0 hx aO=>?_⟩
 .rcases ha with(ha|⟨k,p,ob,_,hp,hs,hl,rfl⟩)|ha
  .exact hr.blk b o (.inl ha)
  .exact (hr.obj k p ob hp hs).1.lt hl
  .exact hr.blk b o (.inr ha)
 .obtain ⟨ab,hp⟩:=aq hk;obtain⟨a,ha,cI⟩:=gz k ob hs;obtain⟨h1,h2⟩:=hr.obj k p a hp ha;have gb:a.live=true->¬M.full p.block->¬(M.cutAt S.length σ).full p.block:=λca gb h=>by
   rcases h with h|⟨k',p',aL,aK,aI,aU,bg,hb⟩
   .exact gb h
   .have:=hr.inj k' k p' p aL a aI hp aU ha bg ca hb;omega
  cases cI with
  |dead=>exact⟨O,O⟩
  |same ho=>
   refine⟨?_,?_⟩
   .cases ob with
    |dead=>trivial
    |boxT t0 cells=>
     obtain⟨arr,ty,e1,e2,e3,e4⟩:=h1;exact⟨arr,ty,e1,e2,e3,λi c hi=>(e4 i c hi).cut aR (ho c (n_2 hi))⟩
    |tipT t0 m=>exact h1
    |blk o=>exact h1
    |lp o n cs=>
     obtain⟨tm,e1,e2,e3⟩:=h1;exact⟨tm,e1,e2,λx hi=>(e3 x hi).cut aR (ho x hi)⟩
    |vec s Y=>
     obtain⟨e0,e1,e2,e3,e4,arr,ty,e5,e6,e7⟩:=h1;exact⟨e0,e1,e2,e3,e4,arr,ty,e5,e6,λi j r c hi hj=>(e7 i j r c hi hj).cut aR (ho r (n_2 hi) c (n_2 hj))⟩
    |map es=>
     obtain⟨af,aj,e1,e2,e3⟩:=h1;refine⟨af,aj,e1,e2,λi x hi=>?_⟩;obtain⟨e,g1,g2,g3,g4⟩:=e3 i x hi;have:=ho x (n_2 hi);exact⟨e,g1,g2.cut aR this.1,g3.cut aR this.2,g4⟩
    |iter aH es=>
     obtain⟨mb,seen,bI,af,aj,e1,e2,e3,e4,e5,e6,e7,e8,e9⟩:=h1;refine⟨mb,seen,bI,af,aj,e1,aR.full _ e2,e3,e4,e5,e6,e7,λi x hi=>?_,λi x hi=>?_⟩
     .obtain ⟨e,g1,g2,g3⟩:=e8 i x hi;have:=ho.2 x (n_2 hi);exact⟨e,g1,g2.cut aR this.1,g3.cut aR this.2⟩
     .obtain ⟨hl,j,e,g0,g1,g2,g3⟩:=e9 i x hi;have:=ho.1 x (n_2 hi);exact⟨hl,j,e,g0,g1,g2.cut aR this.1,g3.cut aR this.2⟩
   .cases ob with
    |dead=>trivial
    |tipT t0 m=>exact gb J h2
    |_=>exact⟨gb J h2.1,h2.2⟩
  |box hc=>
   obtain⟨bO,hcg⟩:=hc.get;obtain⟨arr,ty,e1,e2,e3,e4⟩:=h1;refine⟨⟨arr,ty,e1,by rw[e2,bO],λc hm=>?_,λi c' hi=>?_⟩,gb J h2.1,h2.2⟩
   .obtain ⟨i,hi⟩:=N0.1 hm;obtain⟨y,hy⟩:=r7 bO hi;exact(hcg i y c hy hi).one (e3 y (n_2 hy))
   .obtain ⟨y,hy⟩:=r7 bO hi;exact RV.close hr aR ik (hcg i y c' hy hi) (e4 i y hy)
 .obtain ⟨a,ha,cI⟩:=gz k ob hs;obtain⟨a',cM,hab'⟩:=gz k' aL aU;exact hr.inj k k' p p' a a' (aq hk).2 (aq aK).2 ha cM (co cI cp) (co hab' cb) hb
 .refine ⟨?_,aR.full _ (hr.glob g cells hg).full,(hr.glob g cells hg).sz⟩;exact(hr.glob g cells hg).rv.cut aR (.cptr λj c hj=>(hC g cells hg c (n_2 hj)).old)
 .obtain ⟨a,ha,cI⟩:=gz k ob hs;exact hr.nk k p a (aq hk).2 ha (co cI ca)
 .obtain ⟨l,hl⟩:=hx.pl;refine⟨⟨l.take (S.length -M0.pl.length),?_⟩,λb h=>.inl (hx.full b h),λb o h=>aR.at (hx.cell b o h),hx.same,hx.sameC,hx.size,hx.drew,hx.os,hx.tape,hx.output,λb hb=>?_⟩
  .show M.pl.take S.length=_;rw[hl,List.take_append,R3 aO]
  .obtain ⟨k1,k2,k3,k4⟩:=hx.kept b hb;refine⟨k1,k2,λf=>?_,k4⟩
   rcases f with f|⟨k,p,ob,_,hp,hs,ca,rfl⟩
   .exact k3 f
   .exact absurd k1 (hr.nk k p ob hp hs ca)
section
variable{C:Ctx}{n:Nat}{Jk:D3->Env->List b9->Prop}{E:Env}{σ:List b9}
end
section
variable{C:Ctx}{E:Env}{σ:List b9}{o:Oper}
theorem a7a{s d:TypeId}{k k0 k':IntKind}(ho:o.op = .convert s d x)(hx:E.valid x)(ex:E.val C x= .val (.int k a))(hs:∀w,(underlying s).run C.P w= .ok (.int k0) w)(hd:∀w,(underlying d).run C.P w= .ok (.int k') w)(hb:k'.wrap a=b):m0 C σ E o (.val (.int k' b)):=
 i8 λM w ρ _ h=>by
  have h1:=h x w8 hx;rw[ex]at h1;refine⟨.int k' b,?_,.val _⟩;simp[execOp,ho,convert,hs,hd,r4 h1,Conv.intToInt,hb]
theorem c3v{f:FuncId}{cx:Operand}{xs:Array Operand}{ax:List CV}{K:V7->List b9->Prop}(ho:o.op = .call {callee:=.value cx,args:=xs,argTypes:=ts})(hc:E.valid cx)(ec:E.val C cx= .val (.func (.func f) #[] #[]))(aB:∀args w,(callFunc f args).run C.P w= .ok (.enter f args) w)
 (hv:∀x∈xs.toList,E.valid x)(ea:xs.toList.map (E.val C)=ax)(h:b8 C f ax σ K):H4 C σ E o K:=λM w ρ hr hh=>by
 have hf:=hh cx H9 hc;rw[ec]at hf;have ef:=r4 hf;have av:(execOp ρ o).run C.P w= .ok (.enter f (xs.map ρ)) w:=by
  simp[execOp,ho,resolve,ef,Deferred.ofValue,invoke,aB]
 rw[av];refine(h M w (xs.map ρ) hr (by simp[<- ea]) λi c hi=>?_).mono λe w' he=>by cases e<;>exact he
 subst ea;simp only[O5,P2]at hi;obtain⟨x,hx,rfl⟩:=hi;have aC:xs[i]?=some x:=I hx;have hm:x∈xs:=b8o aC;have:(xs.map ρ).getD i undef=ρ x:=by
  rw[a0U,b4a,aC];rfl
 rw[this];exact hh x (by simp[ho,Op.operands,Call.operands,hm]) (hv x (I hm))
theorem d9i{k:IntKind}(ho:o.op = .call {callee:=.builtin .min,args:=#[x,y],argTypes:=ts})(hx:E.valid x)(hy:E.valid y)(ex:E.val C x= .val (.int k a))(ey:E.val C y= .val (.int k b)):m0 C σ E o (.val (.int k (min a b))):=
 i8 λM w ρ _ h=>by
  have h1:=h x H9 hx;have h2:=h y H9 hy;rw[ex]at h1;rw[ey]at h2;refine⟨.int k (min a b),?_,.val _⟩;simp[execOp,ho,resolve,invoke,builtin,r4 h1,r4 h2,Go.Lib.run_min_ints]
end
end Go.Cl
