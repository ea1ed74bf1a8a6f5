/- Part 1 of what the claim needs: values without addresses, and what the program's functions do with them. -/
import Derived.WalkKit
import Derived.Below
import Derived.WideKeyArgs
import Derived.ChangeSame
import Derived.ChangeSlices
import Derived.Lib.SmallJoins
import Derived.LaidLaws
import Derived.LaidMore
import Derived.LaidHandle
import Derived.JoinedOf
import Derived.Handed
import Derived.Stop.Joined
import Derived.Lib.MinMax
import Derived.Test.YtncmhkpnclafkaaGreatDoorY0
set_option linter.all false
set_option maxRecDepth 100000
set_option maxHeartbeats 4000000
namespace Go.Cl
variable{w w':World}{a:Act}{ab:Array Oper}{v:Value}{n t j id:Nat}{o:Oper}{l:List Oper}{b av:Bool}{x y:Code}
inductive CV where
 |val (v:Value)
 |agg (cs:List CV)
 |tup (cs:List CV)
 |list (Y:List (List CV)) (nn:Bool) (tok:Option Nat)
 |ptr (k off:Nat)
 |cptr (cells:List CV)
 |eptr (k i off:Nat)
 |vec (k off len:Nat)
 |map (k:Nat)
 |yld (k:Nat)
 |clo (f:FuncId) (cs:List CV)
variable{c:CV}
instance:Inhabited CV:=⟨.val undef⟩
structure Pl where
 block:Nat
 cap:Nat
 size:Nat
structure z8 where
 pl:List Pl
 full:Nat->Prop
 cell:Nat->Nat->Prop
 keep:Nat->Prop
variable{M M':z8}
def z8.at(M:z8)(b o:Nat):Prop:=M.full b\/M.cell b o
def CV.one:CV->Bool
 | .val v=>v.oneCell'
 | .agg _| .tup _=>false
 |_=>true
inductive RV(M:z8)(w:World):CV->Value->Prop where
 |val (v:Value):RV M w (.val v) v
 |agg {cs:List CV} {vs:Array Value}:vs.size=cs.length->(∀c∈cs,c.one=true)->(∀(i:Nat) (c:CV),cs[i]?=some c->RV M w c (vs.getD i undef))->RV M w (.agg cs) (.agg vs)
 |tup {cs:List CV} {vs:Array Value}:vs.size=cs.length->(∀(i:Nat) (c:CV),cs[i]?=some c->RV M w c (vs.getD i undef))->RV M w (.tup cs) (.tuple vs)
 |clo {f:FuncId} {cs:List CV} {vs:Array Value}:vs.size=cs.length->(∀(i:Nat) (c:CV),cs[i]?=some c->RV M w c (vs.getD i undef))->RV M w (.clo f cs) (.func (.func f) #[] vs)
 |list {Y:List (List CV)} {nn:Bool} {tok:Option Nat} {a:Option Addr} {cap b off s:Nat} (vals:Nat->Nat->Value):
  Y.length<=cap->cap<=maxLen->a.isSome=nn->(nn=false->cap=0)->(Y≠[]->a=some ⟨b,off,none⟩) ->
  (∀r∈Y,r.length=s)->(∀r∈Y,∀c∈r,c.one=true) ->
  (∀(i j:Nat) (r:List CV) (c:CV),Y[i]?=some r->r[j]?=some c->M.at b (off+i*s+j)/\w.cell? ⟨b,off+i*s+j,none⟩=some (vals i j)) ->
  (∀(i j:Nat) (r:List CV) (c:CV),Y[i]?=some r->r[j]?=some c->RV M w c (vals i j)) ->
  (∀k,tok=some k->∃s',M.pl[k]?=some ⟨b,cap,s'⟩/\a=some ⟨b,0,none⟩/\off=0/\(Y≠[]->s'=s)) ->
  RV M w (.list Y nn tok) (.slice a Y.length cap)
 |ptr {k off:Nat} {p:Pl}:M.pl[k]?=some p->RV M w (.ptr k off) (.pointer (some ⟨p.block,off,none⟩))
 |cptr {cells:List CV} {b off:Nat} (vals:Nat->Value):(∀c∈cells,c.one=true) ->
  (∀(j:Nat) (c:CV),cells[j]?=some c->M.at b (off+j)/\w.cell? ⟨b,off+j,none⟩=some (vals j)) ->
  (∀(j:Nat) (c:CV),cells[j]?=some c->RV M w c (vals j)) ->
  RV M w (.cptr cells) (.pointer (some ⟨b,off,none⟩))
 |eptr {k i off:Nat} {p:Pl}:M.pl[k]?=some p->RV M w (.eptr k i off) (.pointer (some ⟨p.block,i*p.size+off,none⟩))
 |vec {k off len:Nat} {p:Pl} {a:Addr}:M.pl[k]?=some p->off+len<=p.cap->p.cap<=maxLen->(off<p.cap->a=⟨p.block,off*p.size,none⟩)->RV M w (.vec k off len) (.slice (some a) len (p.cap -off))
 |map {k:Nat} {p:Pl}:M.pl[k]?=some p->RV M w (.map k) (.map (some p.block))
 |yld {k:Nat} {p:Pl}:M.pl[k]?=some p->RV M w (.yld k) (.func (.yield p.block) #[] #[])
theorem T4{a b:Nat}(h:a<=b:=by first|exact n_6 _|exact Nat.le_add_right _ _):a<=b:=h
structure Ext(M:z8)(w:World)(M':z8)(w':World):Prop where
 pl:∃l,M'.pl=M.pl++l
 full:∀b,M.full b->M'.full b
 cell:∀b o,M.cell b o->M'.at b o
 same:∀b,M.full b->w'.heap[b]?=w.heap[b]?
 sameC:∀b o,M.cell b o->w'.cell? ⟨b,o,none⟩=w.cell? ⟨b,o,none⟩
 size:w.heap.size<=w'.heap.size
 drew:w.drawn<=w'.drawn
 os:w'.os=w.os
 tape:w'.tape=w.tape
 output:w'.output=w.output
 kept:∀b,M.keep b->M'.keep b/\w'.heap[b]?=w.heap[b]?/\(M'.full b->M.full b)/\∀o,M'.cell b o->M.cell b o
theorem Ext.refl(M:z8)(w:World):Ext M w M w:=
 ⟨⟨[],U⟩,λ_ h=>h,λ_ _ h=>.inr h,λ_ _=>O,λ_ _ _=>O,n_6 _,T4,O,O,O,λ_ h=>⟨h,O,id,λ_=>id⟩⟩
theorem M5{b o:Nat}(h:w'.heap[b]?=w.heap[b]?):w'.cell? ⟨b,o,none⟩=w.cell? ⟨b,o,none⟩:=by
 simp[World.cell?,h]
theorem Ext.at(h:Ext M w M' w'){b o:Nat}(ha:M.at b o):M'.at b o/\w'.cell? ⟨b,o,none⟩=w.cell? ⟨b,o,none⟩:=by
 rcases ha with ha|ha
 .exact ⟨.inl (h.full _ ha),M5 (h.same _ ha)⟩
 .exact ⟨h.cell _ _ ha,h.sameC _ _ ha⟩
theorem Ext.get(h:Ext M w M' w'){k:Nat}{p:Pl}(hk:M.pl[k]?=some p):M'.pl[k]?=some p:=by
 obtain⟨l,hl⟩:=h.pl;rw[hl,T7 (n_2.1 hk).1];exact hk
theorem Ext.trans{gZ:z8}{w'':World}(h:Ext M w M' w')(k:Ext M' w' gZ w''):Ext M w gZ w'':=by
 obtain⟨l,hl⟩:=h.pl;obtain⟨l',bL⟩:=k.pl;refine⟨⟨l++l',by rw[bL,hl,H5]⟩,λb hb=>k.full _ (h.full _ hb),λb o hb=>(k.at (h.cell _ _ hb)).1,λb hb=>(k.same _ (h.full _ hb)).trans (h.same _ hb),λb o hb=>?_,a1u h.size k.size,a1u h.drew k.drew,k.os.trans h.os,k.tape.trans h.tape,k.output.trans h.output,λb hb=>?_⟩
 .exact (k.at (h.cell _ _ hb)).2.trans (h.sameC _ _ hb)
 .obtain ⟨h1,h2,h3,h4⟩:=h.kept b hb;obtain⟨k1,k2,k3,k4⟩:=k.kept b h1;exact⟨k1,k2.trans h2,λf=>h3 (k3 f),λo f=>h4 o (k4 o f)⟩
theorem RV.mono(h:Ext M w M' w')(hr:RV M w c v):RV M' w' c v:=by
 induction hr with
 |val v=>exact .val v
 |agg h1 h2 _ ih=>exact .agg h1 h2 ih
 |tup h1 _ ih=>exact .tup h1 ih
 |clo h1 _ ih=>exact .clo h1 ih
 |list vals h1 h2 h3 h4 h5 h6 h7 h8 _ bp ih=>
  refine .list vals h1 h2 h3 h4 h5 h6 h7 (λi j r c hi hj=>?_) ih (λk hk=>?_)
  .obtain ⟨ha,hc⟩:=h8 i j r c hi hj;exact⟨(h.at ha).1,(h.at ha).2.trans hc⟩
  .obtain ⟨s',hp,aY⟩:=bp k hk;exact⟨s',h.get hp,aY⟩
 |ptr hk=>exact .ptr (h.get hk)
 |cptr vals h1 h2 _ ih=>
  refine .cptr vals h1 (λj c hj=>?_) ih;obtain⟨ha,hc⟩:=h2 j c hj;exact⟨(h.at ha).1,(h.at ha).2.trans hc⟩
 |eptr hk=>exact .eptr (h.get hk)
 |vec hk h1 h2 h3=>exact .vec (h.get hk) h1 h2 h3
 |map hk=>exact .map (h.get hk)
 |yld hk=>exact .yld (h.get hk)
theorem RV.one(hr:RV M w c v)(hc:c.one=true):v.oneCell'=true:=by
 cases hr<;>first|rfl|exact hc|(simp[CV.one]at hc)
inductive b9 where
 |dead
 |boxT (ty:Option TypeId) (cells:List CV)
 |tipT (ty:Option TypeId) (n:Nat)
 |vec (s:Nat) (Y:List (List CV))
 |map (es:List (CV×CV))
 |iter (aD left:List (CV×CV))
 |blk (o:Obj)
 |lp (o:Loop) (n:Nat) (cs:List (Nat×CV))
variable{σ:List b9}
abbrev b9.box(cells:List CV):b9:=.boxT none cells
abbrev b9.tip(n:Nat):b9:=.tipT none n
def b9.live:b9->Bool
 | .dead=>false
 |_=>true
def b1b(ae:Array MapEntry):Prop:=∀(i j:Nat) (e e':MapEntry),ae[i]?=some e->ae[j]?=some e'->e.born=e'.born->i=j
def R2(M:z8)(w:World)(p:Pl):b9->Prop
 | .dead=>True
 | .boxT t0 cells=>∃arr ty,w.heap[p.block]?=some (.cells arr (t0.getD ty) (0,0))/\arr.size=cells.length/\(∀c∈cells,c.one=true)/\∀(i:Nat) (c:CV),cells[i]?=some c->RV M w c (arr.getD i undef)
 | .tipT t0 n=>n<=p.cap/\p.cap<=maxLen/\((∀o,M.cell p.block o->o<n*p.size)/\(t0.isSome=true->p.size=1))/\∃arr ty,w.heap[p.block]?=some (.cells arr (t0.getD ty) (0,0))/\arr.size=p.cap*p.size
 | .vec s Y=>p.size=s/\Y.length<=p.cap/\p.cap<=maxLen/\(∀r∈Y,r.length=p.size)/\(∀r∈Y,∀c∈r,c.one=true)/\∃arr ty,w.heap[p.block]?=some (.cells arr ty (0,0))/\arr.size=p.cap*p.size /\
  ∀(i j:Nat) (r:List CV) (c:CV),Y[i]?=some r->r[j]?=some c->RV M w c (arr.getD (i*p.size+j) undef)
 | .map es=>∃(ae:Array MapEntry) (ai:Nat),w.heap[p.block]?=some (.map ae ai)/\(ae.size=es.length/\b1b ae)/\(∀(i:Nat) (x:CV×CV),es[i]?=some x->∃e,ae[i]?=some e/\RV M w x.1 e.key/\RV M w x.2 e.val/\e.born <ai)
 | .iter aD left=>∃(mb:Nat) (seen:Array Nat) (bF:Nat) (ae:Array MapEntry) (ai:Nat),w.heap[p.block]?=some (.mapIter (some mb) ai seen bF)/\M.full mb/\w.heap[mb]?=some (.map ae ai)/\(seen= #[]\/bF=ai)/\b1b ae/\(∀(i:Nat) (e:MapEntry),ae[i]?=some e->e.born <ai)/\(ae.toList.filter λe=>!seen.contains e.born).length=left.length/\(∀(i:Nat) (x:CV×CV),left[i]?=some x->∃e,(ae.toList.filter λe=>!seen.contains e.born)[i]?=some e/\RV M w x.1 e.key/\RV M w x.2 e.val)/\∀(i:Nat) (x:CV×CV),aD[i]?=some x->bF=ai/\∃(j:Nat) (e:MapEntry),ae[j]?=some e/\seen.back? =some e.born/\RV M w x.1 e.key/\RV M w x.2 e.val
 | .blk o=>w.heap[p.block]?=some o
 | .lp o n cs=>∃tmps,w.heap[p.block]?=some (.loop {o with tmps})/\tmps.size=n/\∀x∈cs,RV M w x.2 (tmps.getD x.1 undef)
def a8d(M:z8)(p:Pl):b9->Prop
 | .dead=>True
 | .tipT _ _=>¬M.full p.block
 |_=>¬M.full p.block/\∀o,¬M.cell p.block o
structure TyE where
 agg:Bool
 size:Nat
 offs:List Nat
def TyE.right(P:Program)(t:Nat)(e:TyE):Prop:=(∀w,(isAgg t).run P w= .ok e.agg w)/\(∀w,(sizeOf t).run P w= .ok e.size w) /\
 (e.offs=[]\/∃fs:Array Field,(∀w,(underlying t).run P w= .ok (.struct fs) w)/\∀(i d:Nat),e.offs[i]?=some d->∃(fd:Field) (s:Nat),fs[i]?=some fd/\fd.offset=d/\(∀w,(sizeOf fd.type).run P w= .ok s w)/\s≠0)
structure Ctx where
 P:Program
 glob:Nat->Option (List CV)
 tab:List (Nat×TyE):=[]
 right:∀x∈tab,x.2.right P x.1:=by intro x h;cases h
variable{C:Ctx}
structure GV(M:z8)(w:World)(cells:List CV)(g:Nat):Prop where
 rv:RV M w (.cptr cells) (.pointer (some ⟨g,0,none⟩))
 full:M.full g
 sz:∃arr ty fr,w.heap[g]?=some (.cells arr ty fr)/\arr.size=cells.length
theorem GV.mono(h:Ext M w M' w'){cells:List CV}{g:Nat}(hg:GV M w cells g):GV M' w' cells g:=
 ⟨hg.rv.mono h,h.full _ hg.full,by rw[h.same _ hg.full];exact hg.sz⟩
structure Rel(C:Ctx)(M:z8)(σ:List b9)(w:World):Prop where
 len:M.pl.length=σ.length
 blk:∀b o,M.at b o->b<w.heap.size
 obj:∀(k:Nat) (p:Pl) (ob:b9),M.pl[k]?=some p->σ[k]?=some ob->R2 M w p ob/\a8d M p ob
 inj:∀(k k':Nat) (p p':Pl) (ob aL:b9),M.pl[k]?=some p->M.pl[k']?=some p'->σ[k]?=some ob->σ[k']?=some aL->ob.live=true->aL.live=true->p.block=p'.block->k=k'
 glob:∀g cells,C.glob g=some cells->GV M w cells g
 kep:∀b,M.keep b->b<w.heap.size
 nk:∀(k:Nat) (p:Pl) (ob:b9),M.pl[k]?=some p->σ[k]?=some ob->ob.live=true->¬M.keep p.block
inductive Ok where
 |yes
 |two (a b:Prop)
def Ok.is:Ok->Prop
 | .yes=>True
 | .two a _=>a
def Ok.un:Ok->Prop
 | .yes=>¬True
 | .two _ b=>b
structure Env where
 h:Nat->Option CV
 g:Nat->Ok
variable{E:Env}
def Env.f(E:Env)(t:Nat):CV:=(E.h t).getD (.val undef)
def Env.ok(E:Env)(t:Nat):Prop:=(E.g t).is
def Env.un(E:Env)(t:Nat):Prop:=(E.g t).un
def Env.putO(E:Env)(d:Option Nat)(c:CV)(g:Ok):Env:=
 match d with
 |none=>E
 |some d=>{h:=λt=>match Nat.beq t d with|true=>some c|false=>E.h t,g:=λt=>match Nat.beq t d with|true=>g|false=>E.g t}
abbrev Env.put(E:Env)(d:Option Nat)(c:CV)(g:Prop):Env:=E.putO d c (.two g (¬g))
def Env.hide(E:Env)(d:Option Nat):Env:=
 match d with
 |none=>E
 |some d=>{h:=E.h,g:=λt=>match Nat.beq t d with|true=>.two False False|false=>E.g t}
theorem c02{d:Nat}(h:¬t=d):Nat.beq t d=false:=c3r.2 λhb=>h (a3H hb)
theorem Env.putO_f(E:Env)(d:Nat)(c:CV)(g:Ok)(t:Nat):(E.putO (some d) c g).f t=if t=d then c else E.f t:=by
 show(match Nat.beq t d with|true=>some c|false=>E.h t).getD _=_;by_cases h:t=d
 .subst h;simp
 .rw [c02 h,W h];rfl
theorem Env.putO_g(E:Env)(d:Nat)(c:CV)(g:Ok)(t:Nat):(E.putO (some d) c g).g t=if t=d then g else E.g t:=by
 show(match Nat.beq t d with|true=>g|false=>E.g t)=_;by_cases h:t=d
 .subst h;simp
 .rw [c02 h,W h]
theorem Env.putO_ok(E:Env)(d:Nat)(c:CV)(g:Ok)(t:Nat):(E.putO (some d) c g).ok t=if t=d then g.is else E.ok t:=by
 unfold Env.ok;rw[E.putO_g];split<;>rfl
theorem Env.putO_un(E:Env)(d:Nat)(c:CV)(g:Ok)(t:Nat):(E.putO (some d) c g).un t=if t=d then g.un else E.un t:=by
 unfold Env.un;rw[E.putO_g];split<;>rfl
theorem Env.put_f(E:Env)(d:Nat)(c:CV)(g:Prop)(t:Nat):(E.put (some d) c g).f t=if t=d then c else E.f t:=E.putO_f d c _ t
theorem Env.put_ok(E:Env)(d:Nat)(c:CV)(g:Prop)(t:Nat):(E.put (some d) c g).ok t=if t=d then g else E.ok t:=by
 unfold Env.ok;rw[E.putO_g];split<;>rfl
theorem Env.put_un(E:Env)(d:Nat)(c:CV)(g:Prop)(t:Nat):(E.put (some d) c g).un t=if t=d then ¬g else E.un t:=by
 unfold Env.un;rw[E.putO_g];split<;>rfl
theorem Env.hide_at(E:Env)(d t:Nat):(E.hide (some d)).f t=E.f t/\(E.hide (some d)).ok t=(if t=d then False else E.ok t)/\(E.hide (some d)).un t=(if t=d then False else E.un t):=by
 have hg:(E.hide (some d)).g t=if t=d then .two False False else E.g t:=by
  show(match Nat.beq t d with|true=>Ok.two False False|false=>E.g t)=_;by_cases h:t=d
  .subst h;simp
  .rw [c02 h,W h]
 unfold Env.ok Env.un;rw[hg];refine⟨O,?_,?_⟩<;>split<;>rfl
def b7T:Value->CV
 | .slice none _ _=>.list [] false none
 |v=>.val v
def I0:Value->CV
 | .agg cs=>.agg (cs.toList.map b7T)
 |v=>b7T v
def a0t:Value->Bool
 | .slice none 0 0=>true
 | .slice _ _ _=>false
 |v=>v.oneCell'
def L2:Value->Bool
 | .agg cs=>cs.toList.all a0t
 | .slice none 0 0=>true
 | .slice _ _ _=>false
 |_=>true
def Env.val(C:Ctx)(E:Env):Operand->CV
 | .tmp t=>E.f t
 | .const v=>I0 v
 | .global g=>match C.glob g with
  |some cells=>.cptr cells
  |none=>.val (.pointer (some ⟨g,0,none⟩))
 | .func f=>.val (.func (.func f) #[] #[])
def Env.valid(E:Env):Operand->Prop
 | .tmp t=>E.ok t
 | .const v=>L2 v=true
 |_=>True
theorem b9U(h:a0t v=true):RV M w (b7T v) v:=by
 cases v with
 |slice a n c=>
  cases a with
  |some a=>simp[a0t]at h
  |none=>
   have:n=0/\c=0:=by
    rcases n with _|n<;>rcases c with _|c<;>simp[a0t]at h⊢
   obtain⟨rfl,rfl⟩:=this;exact RV.list (Y:=[]) (b:=0) (off:=0) (s:=0) (λ_ _=>undef) (n_6 _) (by simp[maxLen]) O Y1 (λh=>absurd O h) U U U U U
 |_=>exact .val _
theorem c7f(h:a0t v=true):(b7T v).one=true:=by
 cases v with
 |slice a n c=>cases a<;>rfl
 |_=>simpa[b7T,CV.one,a0t]using h
theorem a0y(h:L2 v=true):RV M w (I0 v) v:=by
 cases v with
 |agg cs=>
  have hc:∀v∈cs,a0t v=true:=by
   have h':∀v∈cs.toList,a0t v=true:=a6b.1 h;exact λv hv=>h' v (D hv)
  refine .agg U (λc hm=>?_) (λi c hi=>?_)
  .obtain ⟨v,hv,rfl⟩:=D6.1 hm;exact c7f (hc v (D hv))
  .simp only[O2,Q3]at hi;obtain⟨v,hv,rfl⟩:=hi;have eY:cs[i]?=some v:=D hv;rw[Z6,eY];exact b9U (hc v (b5x eY))
 |slice a n c=>
  refine b9U ?_
  rcases a with _|a
  .rcases n with _|n<;>rcases c with _|c<;>simp[L2,a0t]at h⊢
  .simp [L2]at h
 |_=>exact .val _
structure I3(M:z8)(w:World)(n:Nat)(E:Env)(a:Act):Prop where
 defers:a.defers=[]
 size:a.tmps.size=n
 rv:∀t,E.ok t->RV M w (E.f t) (a.tmps.getD t undef)
 un:∀t,E.un t->a.tmps.getD t undef=undef
theorem I3.mono(h:Ext M w M' w')(hf:I3 M w n E a):I3 M' w' n E a:=
 ⟨hf.defers,hf.size,λt ht=>(hf.rv t ht).mono h,hf.un⟩
theorem I3.put{d:Option Nat}{g:Prop}(hf:I3 M w n E a)(hd:∀t,d=some t->t<n)(hv:g->RV M w c v)(hu:¬g->v=undef):
 I3 M w n (E.put d c g) (a.put d v):=by
 cases d with
 |none=>exact hf
 |some d=>
  have hdn:=hd d O;refine⟨hf.defers,by simp[Act.put,hf.size],λt ht=>?_,λt ht=>?_⟩;by_cases ig:t=d
  .subst ig;simp only[Env.put_f,Env.put_ok,if_true]at ht⊢;have:(a.put (some t) v).tmps.getD t undef=v:=by simp[Act.put,hf.size,hdn]
   rw[this];exact hv ht
  .simp only[Env.put_f,Env.put_ok,W ig]at ht⊢;have:(a.put (some d) v).tmps.getD t undef=a.tmps.getD t undef:=by simp[Act.put,b6P (Ne.symm ig)]
   rw[this];exact hf.rv t ht
  .by_cases ig:t=d
   .subst ig;simp only[Env.put_un,if_true]at ht;have:(a.put (some t) v).tmps.getD t undef=v:=by simp[Act.put,hf.size,hdn]
    rw[this];exact hu ht
   .simp only[Env.put_un,W ig]at ht;have:(a.put (some d) v).tmps.getD t undef=a.tmps.getD t undef:=by simp[Act.put,b6P (Ne.symm ig)]
    rw[this];exact hf.un t ht
theorem I3.hide{d:Option Nat}(hf:I3 M w n E a):I3 M w n (E.hide d) (a.put d v):=by
 cases d with
 |none=>exact hf
 |some d=>
  refine⟨hf.defers,by simp[Act.put,hf.size],λt ht=>?_,λt ht=>?_⟩
  .rw [(E.hide_at d t).2.1]at ht;split at ht
   .exact ht.elim
   .rename_i ig;have:(a.put (some d) v).tmps.getD t undef=a.tmps.getD t undef:=by simp[Act.put,b6P (Ne.symm ig)]
    rw[this];exact hf.rv t ht
  .rw [(E.hide_at d t).2.2]at ht;split at ht
   .exact ht.elim
   .rename_i ig;have:(a.put (some d) v).tmps.getD t undef=a.tmps.getD t undef:=by simp[Act.put,b6P (Ne.symm ig)]
    rw[this];exact hf.un t ht
theorem I3.eval(hr:Rel C M σ w)(hf:I3 M w n E a){x:Operand}(hx:E.valid x):RV M w (E.val C x) (a.eval x):=by
 cases x with
 |tmp t=>exact hf.rv t hx
 |const v=>exact a0y hx
 |global g=>
  simp only[Env.val,Act.eval]
  split
  .rename_i cells hc;exact(hr.glob g cells hc).rv
  .exact .val _
 |func f=>exact .val _
inductive R8 where
 |ret (c:CV)
 |pan (c:CV)
variable{K K':R8->List b9->Prop}
def b0Y(P:Program)(K:Value->World->Prop)(Kp:List PanicEntry->World->Prop):Result Next->Prop
 | .ok (.value v) w'=>K v w'
 | .ok .skip w'=>K undef w'
 | .ok (.enter f args) w'=>Calls P f args w' λ
  | .returned v,w''=>K v w''
  | .panicked ch,w''=>Kp ch w''
  | .outgrown,_=>False
 | .halt (.panic v) w'=>Kp [{v,recovered:=false}] w'
 |_=>False
theorem b0Y.mono{P:Program}{K K':Value->World->Prop}{Kp Kp':List PanicEntry->World->Prop}{r:Result Next}(h:b0Y P K Kp r)(hk:∀v w,K v w->K' v w)(hp:∀c w,Kp c w->Kp' c w):b0Y P K' Kp' r:=by
 cases r with
 |ok x w=>
  cases x<;>simp only[b0Y]at h⊢
  case value v=>exact hk _ _ h
  case skip=>exact hk _ _ h
  case enter f args=>
   refine h.mono λe w' he=>?_;cases e with
   |returned v=>exact hk _ _ he
   |panicked c=>exact hp _ _ he
   |outgrown=>exact he
 |halt x w=>
  cases x<;>simp only[b0Y]at h⊢
  exact hp _ _ h
theorem a3L{P:Program}{K:Value->World->Prop}{Kp:List PanicEntry->World->Prop}{next:Act->World->Prop}{Jh:Exit->Act->World->Prop}
 (h:b0Y P K Kp ((execOp a.eval o).run P w))(hk:∀v w',K v w'->next (a.put o.dst v) w')(hp:∀c w',Kp c w'->Jh (.panic c) a w'):o.wp P a w next Jh:=by
 unfold Oper.wp;generalize (execOp a.eval o).run P w=r at h;cases r with
 |ok x w=>
  cases x<;>simp only[b0Y]at h<;>simp only[Oper.upon]
  case value v=>exact hk _ _ h
  case skip=>exact hk _ _ h
  case enter f args=>
   refine h.mono λe w' he=>?_;cases e with
   |returned v=>exact hk _ _ he
   |panicked c=>exact hp _ _ he
   |outgrown=>exact he.elim
 |halt x w=>
  cases x<;>simp only[b0Y]at h<;>simp only[Oper.upon]
  exact hp _ _ h
def a1i(C:Ctx)(M:z8)(w:World)(K:R8->List b9->Prop)(v:Value)(w':World):Prop:=
 ∃c aa M',Ext M w M' w'/\Rel C M' aa w'/\RV M' w' c v/\K (.ret c) aa
def U1(C:Ctx)(M:z8)(w:World)(K:R8->List b9->Prop)(ch:List PanicEntry)(w':World):Prop:=
 ∃c v aa M',ch=[{v,recovered:=false}]/\Ext M w M' w'/\Rel C M' aa w'/\RV M' w' c v/\K (.pan c) aa
def G5(C:Ctx)(σ:List b9)(E:Env)(o:Oper)(K:R8->List b9->Prop):Prop:=
 ∀(M:z8) (w:World) (ρ:Operand->Value),Rel C M σ w->(∀x∈o.op.operands,E.valid x->RV M w (E.val C x) (ρ x)) ->
  b0Y C.P (a1i C M w K) (U1 C M w K) ((execOp ρ o).run C.P w)
def l8(C:Ctx)(σ:List b9)(E:Env)(o:Oper)(c:CV):Prop:=G5 C σ E o λr aa=>r= .ret c/\aa=σ
def b8(C:Ctx)(f:FuncId)(args:List CV)(σ:List b9)(K:R8->List b9->Prop):Prop:=
 ∀(M:z8) (w:World) (vs:Array Value),Rel C M σ w->vs.size=args.length->(∀(i:Nat) (c:CV),args[i]?=some c->RV M w c (vs.getD i undef)) ->
  Calls C.P f vs w λ
   | .returned v,w'=>a1i C M w K v w'
   | .panicked ch,w'=>U1 C M w K ch w'
   | .outgrown,_=>False
theorem a1i.mono(h:∀r σ,K r σ->K' r σ)(ha:a1i C M w K v w'):a1i C M w K' v w':=by
 obtain⟨c,aa,M',h1,h2,h3,h4⟩:=ha;exact⟨c,aa,M',h1,h2,h3,h _ _ h4⟩
theorem U1.mono(h:∀r σ,K r σ->K' r σ){v:List PanicEntry}(ha:U1 C M w K v w'):U1 C M w K' v w':=by
 obtain⟨c,u,aa,M',h0,h1,h2,h3,h4⟩:=ha;exact⟨c,u,aa,M',h0,h1,h2,h3,h _ _ h4⟩
theorem G5.mono(hd:G5 C σ E o K)(h:∀r σ,K r σ->K' r σ):G5 C σ E o K':=
 λM w ρ hr hx=>(hd M w ρ hr hx).mono (λ_ _=>a1i.mono h) (λ_ _=>U1.mono h)
theorem b8.mono{f:FuncId}{args:List CV}(hd:b8 C f args σ K)(h:∀r σ,K r σ->K' r σ):b8 C f args σ K':=
 λM w vs hr hn hx=>(hd M w vs hr hn hx).mono λe w' he=>by
  cases e with
  |returned v=>exact a1i.mono h he
  |panicked c=>exact U1.mono h he
  |outgrown=>exact he
inductive A7 where
 |normal
 |exit (id:Nat)
 |goto (l:Nat)
 |ret
 |pan (c:CV)
variable{Jh:A7->Env->List b9->Prop}
def Q8(C:Ctx)(n:Nat)(Jh:A7->Env->List b9->Prop)(M:z8)(w:World)(e:Exit)(a':Act)(w':World):Prop:=
 ∃E' aa M',Ext M w M' w'/\Rel C M' aa w'/\I3 M' w' n E' a' /\
  match e with
  | .normal=>Jh .normal E' aa
  | .exit id=>Jh (.exit id) E' aa
  | .goto l=>Jh (.goto l) E' aa
  | .ret=>Jh .ret E' aa
  | .panic ch=>∃c v,ch=[{v,recovered:=false}]/\RV M' w' c v/\Jh (.pan c) E' aa
  | .outgrown=>False
def CWp(C:Ctx)(n:Nat)(c:Code)(Jh:A7->Env->List b9->Prop)(E:Env)(σ:List b9):Prop:=
 ∀(M:z8) (w:World) (a:Act),Rel C M σ w->I3 M w n E a->c.wp C.P (Q8 C n Jh M w) a w
def I6(C:Ctx)(n:Nat)(ab:Array Oper)(Jh:A7->Env->List b9->Prop)(l:List Oper)(E:Env)(σ:List b9):Prop:=
 ∀(M:z8) (w:World) (a:Act),Rel C M σ w->I3 M w n E a->wpList C.P ab (Q8 C n Jh M w) l a w
theorem Q8.mono{Q':A7->Env->List b9->Prop}(h:∀e E σ,Jh e E σ->Q' e E σ){e:Exit}(hl:Q8 C n Jh M w e a w'):Q8 C n Q' M w e a w':=by
 obtain⟨E',aa,M',h1,h2,h3,h4⟩:=hl;refine⟨E',aa,M',h1,h2,h3,?_⟩;cases e<;>first|exact h _ _ _ h4|(obtain⟨c,v,hc,hv,hq⟩:=h4;exact⟨c,v,hc,hv,h _ _ _ hq⟩)|exact h4
theorem Q8.later{M1:z8}{w1:World}(he:Ext M w M1 w1){e:Exit}(hl:Q8 C n Jh M1 w1 e a w'):Q8 C n Jh M w e a w':=by
 obtain⟨E',aa,M',h1,h2,h3,h4⟩:=hl;exact⟨E',aa,M',he.trans h1,h2,h3,h4⟩
theorem CWp.mono{c:Code}{Q':A7->Env->List b9->Prop}(h:CWp C n c Jh E σ)(hq:∀e E σ,Jh e E σ->Q' e E σ):CWp C n c Q' E σ:=
 λM w a hr hf=>wp_mono (h M w a hr hf) λ_ _ _=>Q8.mono hq
def A7.next(k:Env->List b9->Prop)(Jh:A7->Env->List b9->Prop):A7->Env->List b9->Prop
 | .normal=>k
 |e=>Jh e
section
theorem w9(h:Jh .normal E σ):CWp C n .skip Jh E σ:=λM w _ hr hf=>wp_skip ⟨E,σ,M,Ext.refl M w,hr,hf,h⟩
theorem b7P{l:Nat}(h:Jh .normal E σ):CWp C n (.label l) Jh E σ:=λM w _ hr hf=>wp_label ⟨E,σ,M,Ext.refl M w,hr,hf,h⟩
theorem j8(h:Jh (.exit id) E σ):CWp C n (.exit id) Jh E σ:=λM w _ hr hf=>wp_exit ⟨E,σ,M,Ext.refl M w,hr,hf,h⟩
theorem c6(h:Jh .ret E σ):CWp C n .ret Jh E σ:=λM w _ hr hf=>wp_ret ⟨E,σ,M,Ext.refl M w,hr,hf,h⟩
theorem F6(h:CWp C n x (A7.next (CWp C n y Jh) Jh) E σ):CWp C n (.seq x y) Jh E σ:=λM w a hr hf=>by
 refine wp_seq (wp_mono (h M w a hr hf) λe a' w' hl=>?_);obtain⟨E',aa,M',h1,h2,h3,h4⟩:=hl;cases e with
 |normal=>exact wp_mono (h4 M' w' a' h2 h3) λ_ _ _=>Q8.later h1
 |_=>exact⟨E',aa,M',h1,h2,h3,h4⟩
theorem a5C{c:Operand}(hv:E.valid c)(hc:E.val C c= .val (.bool b))(ht:b=true->CWp C n x Jh E σ)(gR:b=false->CWp C n y Jh E σ):CWp C n (.cond c x y) Jh E σ:=λM w a hr hf=>by
 have h1:RV M w (E.val C c) (a.eval c):=hf.eval hr hv;rw[hc]at h1;have h2:a.eval c= .bool b:=by generalize a.eval c=u at h1;cases h1;rfl
 exact wp_cond_split h2 (λh=>ht h M w a hr hf) (λh=>gR h M w a hr hf)
def A7.blk(id:Nat)(Jh:A7->Env->List b9->Prop):A7->Env->List b9->Prop
 | .exit id',E,σ=>if id'=id then Jh .normal E σ else Jh (.exit id') E σ
 |e,E,σ=>Jh e E σ
theorem J9{c:Code}(h:CWp C n c (A7.blk id Jh) E σ):CWp C n (.block id c) Jh E σ:=λM w a hr hf=>by
 refine wp_block (wp_mono (h M w a hr hf) λe a' w' hl=>?_);obtain⟨E',aa,M',h1,h2,h3,h4⟩:=hl;cases e with
 |exit id'=>
  simp only[Exit.inBlock];simp only[A7.blk]at h4
  split<;>rename_i ii
  .rw [Q ii]at h4;exact⟨E',aa,M',h1,h2,h3,h4⟩
  .rw [W ii]at h4;exact⟨E',aa,M',h1,h2,h3,h4⟩
 |_=>exact⟨E',aa,M',h1,h2,h3,h4⟩
theorem d6K{c:Code}(Jd:Nat->Env->List b9->Prop)(m:Nat)(h0:Jd m E σ)
 (round:∀m E σ,Jd m E σ->CWp C n c (A7.next (λE' aa=>∃m',m'<m/\Jd m' E' aa) Jh) E σ):CWp C n (.loop c) Jh E σ:=λM w a hr hf=>by
 intro b k cs;have key:∀m E σ M1 w1 a1,Jd m E σ->Ext M w M1 w1->Rel C M1 σ w1->I3 M1 w1 n E a1 ->
  ∃e a' w',Q8 C n Jh M w e a' w'/\Arrives C.P (lone (b.at a1 (.code c::.inLoop c::k)) cs w1) b k cs e a' w':=by
  intro m
  induction m using Nat.strongRecOn with
  |_ m ih=>
   intro E σ M1 w1 a1 hI hx aI di;obtain⟨e,a2,w2,hq,aw⟩:=round m E σ hI M1 w1 a1 aI di b (.inLoop c::k) cs;obtain⟨E',aa,M',h1,h2,h3,h4⟩:=hq;cases e with
   |normal=>
    obtain⟨m',af,ij⟩:=h4;obtain⟨dj,dl,dm,bM,aP⟩:=ih m' af E' aa M' w2 a2 ij (hx.trans h1) h2 h3;exact⟨dj,dl,dm,bM,.of_steps (Steps.trans aw (.one step_inLoop)) aP⟩
   |exit id=>exact⟨_,a2,w2,⟨E',aa,M',hx.trans h1,h2,h3,h4⟩,.pass (x:=.inLoop c) O (λ_ _=>.inl U) aw⟩
   |goto l=>exact⟨_,a2,w2,⟨E',aa,M',hx.trans h1,h2,h3,h4⟩,.pass (x:=.inLoop c) O (λ_ _=>.inl U) aw⟩
   |ret=>exact⟨_,a2,w2,⟨E',aa,M',hx.trans h1,h2,h3,h4⟩,.pass (x:=.inLoop c) O (λ_ _=>.inl U) aw⟩
   |panic ch=>exact⟨_,a2,w2,⟨E',aa,M',hx.trans h1,h2,h3,h4⟩,.pass (x:=.inLoop c) O (λ_ _=>.inl U) aw⟩
   |outgrown=>exact h4.elim
 obtain⟨e,a',w',hq,aw⟩:=key m E σ M w a h0 (Ext.refl M w) hr hf;exact⟨e,a',w',hq,.of_steps (.one step_loop) aw⟩
theorem C2(h:I6 C n ab Jh ab.toList E σ):CWp C n (.region id ab false) Jh E σ:=
 λM w a hr hf=>wp_region_list (h M w a hr hf)
theorem p7(h:Jh .normal E σ):I6 C n ab Jh [] E σ:=λM w _ hr hf=>wpList_nil ⟨E,σ,M,Ext.refl M w,hr,hf,h⟩
theorem I6.later(h:I6 C n ab Jh l E σ){M1:z8}{w1:World}(hx:Ext M w M1 w1)(hr:Rel C M1 σ w1)(hf:I3 M1 w1 n E a):wpList C.P ab (Q8 C n Jh M w) l a w1:=by
 have:=h M1 w1 a hr hf;have hm:∀(l:List Oper) (a:Act) (w2:World),wpList C.P ab (Q8 C n Jh M1 w1) l a w2->wpList C.P ab (Q8 C n Jh M w) l a w2:=by
  intro l
  induction l with
  |nil=>exact λa w2 h=>Q8.later hx h
  |cons o l ih=>
   intro a w2 h;unfold wpList at h⊢
   split
   .rename_i hw;rw[Q hw]at h;refine h.imp (λh=>?_) (λ⟨h1,a0,w0,hl⟩=>⟨h1,a0,w0,Q8.later hx hl⟩);unfold Oper.wp at h⊢;generalize (execOp a.eval o).run C.P w2=r at h;cases r with
    |ok x w3=>
     cases x<;>simp only[Oper.upon]at h⊢
     case value v=>exact ih _ _ h
     case skip=>exact ih _ _ h
     case defer d=>exact ih _ _ h
     case enter f args=>
      refine h.mono λe w4 he=>?_;cases e with
      |returned v=>exact ih _ _ he
      |panicked ch=>exact Q8.later hx he
      |outgrown=>obtain⟨a0,w0,hl⟩:=he;exact⟨a0,w0,Q8.later hx hl⟩
     case row r args=>exact Rows.mono h λ_ _ he=>ih _ _ he
    |halt x w3=>
     cases x<;>simp only[Oper.upon]at h⊢
     exact Q8.later hx h
   .rename_i hw;rw[W hw]at h;exact ih _ _ h
 exact hm _ _ _ this
theorem c4L(hg:o.guard=none)(hd:(match o.dst with|some d=>d<n|none=>True))
 (h:G5 C σ E o λr aa=>match r with
  | .ret c=>I6 C n ab Jh l (E.put o.dst c True) aa
  | .pan c=>Jh (.pan c) E aa):I6 C n ab Jh (o::l) E σ:=λM w a hr hf=>by
 unfold wpList;rw[Q (by simp[Region.wanted,hg])];refine .inl (a3L (h M w a.eval hr λx _ hx=>hf.eval hr hx) (λv w' ha=>?_) (λch w' ha=>?_))
 .obtain ⟨c,aa,M',h1,h2,h3,h4⟩:=ha;exact h4.later h1 h2 ((hf.mono h1).put (λt ht=>by rw[ht]at hd;exact hd) (λ_=>h3) λhh=>absurd trivial hh)
 .obtain ⟨c,v,aa,M',h0,h1,h2,h3,h4⟩:=ha;exact⟨E,aa,M',h1,h2,hf.mono h1,c,v,h0,h3,h4⟩
theorem b8p(hg:o.guard=some (j,av))(ht:(ab[j]?).bind (·.dst)=some t)(hv:E.ok t)(hb:E.f t= .val (.bool b))
 (hd:(match o.dst with|some d=>d<n|none=>True))(hy:b=av->l8 C σ E o c)(h:I6 C n ab Jh l (E.put o.dst c (b=av)) σ):I6 C n ab Jh (o::l) E σ:=λM w a hr hf=>by
 have h1:RV M w (E.f t) (a.tmps.getD t undef):=hf.rv t hv;rw[hb]at h1;have h2:a.tmps.getD t undef= .bool b:=by generalize a.tmps.getD t undef=u at h1;cases h1;rfl
 have aK:t<a.tmps.size:=by
  rcases a4x t a.tmps.size with h'|h'
  .exact h'
  .simp [b0q h',undef]at h2
 have hw:Region.wanted o (yielded ab a.tmps)=(b == av):=by
  have h3:a.tmps[t]?=some (.bool b):=by
   rw[Z6,a1t aK]at h2;rw[a1t aK,<- h2];rfl
  have h4:yielded ab a.tmps j=some b:=by unfold yielded;rw[ht,n_9,h3]
  simp only[Region.wanted,hg,h4];cases b<;>cases av<;>rfl
 have fH:∀t,o.dst=some t->t<n:=λt ht=>by rw[ht]at hd;exact hd
 unfold wpList;by_cases cP:b=av
 .rw [Q (by rw[hw];simpa using cP)];refine .inl (a3L (hy cP M w a.eval hr λx _ hx=>hf.eval hr hx) (λv w' ha=>?_) (λch w' ha=>?_))
  .obtain ⟨c',aa,M',h1,h2,h3,h4,rfl⟩:=ha;injection h4 with h4
   subst h4;exact h.later h1 h2 ((hf.mono h1).put fH (λ_=>h3) λhh=>absurd cP hh)
  .obtain ⟨c',v,aa,M',h0,h1,h2,h3,h4,_⟩:=ha;cases h4
 .rw [W (by rw[hw];simpa using cP)];exact h.later (Ext.refl M w) hr (hf.put fH (λhh=>absurd hh cP) λ_=>O)
theorem c5L(hg:o.guard=some (j,av))(ht:(ab[j]?).bind (·.dst)=some t)(hv:¬E.ok t->E.un t)(hb:E.f t= .val (.bool b))
 (hd:(match o.dst with|some d=>d<n|none=>True))(hy:E.ok t->b=av->l8 C σ E o c)(h:I6 C n ab Jh l (E.put o.dst c (E.ok t/\b=av)) σ):I6 C n ab Jh (o::l) E σ:=by
 by_cases bz:E.ok t
 .have e:(E.ok t/\b=av)=(b=av):=propext ⟨λh=>h.2,λh=>⟨bz,h⟩⟩;rw[e]at h;exact b8p hg ht bz hb hd (hy bz) h
 .intro M w a hr hf;have h2:=hf.un t (hv bz);have fH:∀t,o.dst=some t->t<n:=λt ht=>by rw[ht]at hd;exact hd
  have hw:Region.wanted o (yielded ab a.tmps)=false:=by
   have h4:yielded ab a.tmps j=none:=by
    unfold yielded;rw[ht,n_9]
    rcases a4x t a.tmps.size with h'|h'
    .rw [Z6,a1t h']at h2;rw[a1t h'];simp only[a84]at h2;rw[h2];rfl
    .rw [b0q h']
   simp only[Region.wanted,hg,h4];cases av<;>rfl
  unfold wpList;rw[W (by rw[hw];simp)];exact h.later (Ext.refl M w) hr (hf.put fH (λhh=>absurd hh.1 bz) λ_=>O)
end
section
theorem d6l(hg:o.guard=none)(hd:(match o.dst with|some d=>Nat.blt d n|none=>true)=true)(hy:l8 C σ E o c)(h:I6 C n ab Jh l (E.put o.dst c True) σ):I6 C n ab Jh (o::l) E σ:=
 c4L hg (by
  cases fH:o.dst with
  |none=>trivial
  |some d=>rw[fH]at hd;simpa[b2q]using hd) (hy.mono λr aa hr=>by
  obtain⟨rfl,rfl⟩:=hr;exact h)
theorem a27{ab:Array Oper}{o:Oper}{l:List Oper}(hg:o.guard=none)(hd:(match o.dst with|some d=>Nat.blt d n|none=>true)=true)(h:G5 C σ E o λr aa=>match r with
 | .ret c=>I6 C n ab Jh l (E.put o.dst c True) aa
 | .pan c=>Jh (.pan c) E aa):I6 C n ab Jh (o::l) E σ:=
 c4L hg (by
  cases fH:o.dst with
  |none=>trivial
  |some d=>rw[fH]at hd;simpa[b2q]using hd) h
theorem e2E(hg:o.guard=some (j,av))(ht:(ab[j]?).bind (·.dst)=some t)(hv:E.ok t)(hb:E.f t= .val (.bool b))
 (hd:(match o.dst with|some d=>Nat.blt d n|none=>true)=true)(hy:b=av->l8 C σ E o c)(h:I6 C n ab Jh l (E.put o.dst c (b=av)) σ):I6 C n ab Jh (o::l) E σ:=
 b8p hg ht hv hb (by
  cases fH:o.dst with
  |none=>trivial
  |some d=>rw[fH]at hd;simpa[b2q]using hd) hy h
theorem e2M(hg:o.guard=some (j,av))(ht:(ab[j]?).bind (·.dst)=some t)(hv:¬E.ok t->E.un t)(hb:E.f t= .val (.bool b))
 (hd:(match o.dst with|some d=>Nat.blt d n|none=>true)=true)(hy:E.ok t->b=av->l8 C σ E o c)(h:I6 C n ab Jh l (E.put o.dst c (E.ok t/\b=av)) σ):I6 C n ab Jh (o::l) E σ:=
 c5L hg ht hv hb (by
  cases fH:o.dst with
  |none=>trivial
  |some d=>rw[fH]at hd;simpa[b2q]using hd) hy h
def Env.is(E:Env):List (Nat×CV)->Prop
 | []=>True
 |(t,c)::l=>(E.ok t/\E.f t=c)/\E.is l
def Env.puts(E:Env):List (Nat×CV)->Env
 | []=>E
 |(t,c)::l=>(E.puts l).putO (some t) c .yes
theorem I3.puts(hf:I3 M w n E a):∀{l:List (Nat×CV)},E.is l->I3 M w n (E.puts l) a
 | [],_=>hf
 |(t,c)::l,⟨⟨h1,h2⟩,h⟩=>by
  have ih:=hf.puts h;refine⟨hf.defers,hf.size,λx hx=>?_,λx hx=>?_⟩
  .rw [Env.puts,Env.putO_f];rw[Env.puts,Env.putO_ok]at hx
   split
   .subst x;exact h2▸hf.rv t h1
   .rename_i ax;rw[W ax]at hx;exact ih.rv x hx
  .rw [Env.puts,Env.putO_un]at hx;split at hx
   .exact absurd trivial hx
   .exact ih.un x hx
theorem CWp.puts{c:Code}{l:List (Nat×CV)}(h:CWp C n c Jh (E.puts l) σ)(hE:E.is l):CWp C n c Jh E σ:=λM w a hr hf=>h M w a hr (hf.puts hE)
theorem J8{α:Type}{c:Code}(l:α->List (Nat×CV))(S:α->List b9)(Jd:α->Prop)(m:α->Nat)(a0:α)(h0:Jd a0)(hE:E.is (l a0))(ao:σ=S a0)
 (round:∀(a:α) (E0:Env),Jd a->CWp C n c (A7.next (λE' aa=>∃a',m a'<m a/\Jd a'/\E'.is (l a')/\aa=S a') Jh) (E0.puts (l a)) (S a)):CWp C n (.loop c) Jh E σ:=by
 refine d6K (λk E σ=>∃a,k=m a/\Jd a/\E.is (l a)/\σ=S a) (m a0) ⟨a0,O,h0,hE,ao⟩ λk E σ hI=>?_;obtain⟨a,rfl,hI,hE,rfl⟩:=hI;refine((round a E hI).puts hE).mono λe E' aa h=>?_;cases e with
 |normal=>
  obtain⟨a',h1,h2,h3,h4⟩:=h;exact⟨m a',h1,a',O,h2,h3,h4⟩
 |_=>exact h
theorem O6{α:Type}(l:α->List (Nat×CV))(S:α->List b9)(Jd:α->Prop)(h:CWp C n x (A7.next (λE' aa=>∃a,Jd a/\E'.is (l a)/\aa=S a) Jh) E σ)(k:∀(a:α) (E0:Env),Jd a->CWp C n y Jh (E0.puts (l a)) (S a)):CWp C n (.seq x y) Jh E σ:=by
 refine F6 (h.mono λe E' aa h=>?_);cases e with
 |normal=>
  obtain⟨a,h1,h2,rfl⟩:=h;exact(k a E' h1).puts h2
 |_=>exact h
end
def W6(C:Ctx)(E:Env)(σ:List b9)(fn:Func)(c:CV):Prop:=
 ∀(M:z8) (w:World) (a:Act),Rel C M σ w->(∀t,E.ok t->RV M w (E.f t) (a.tmps.getD t undef))->∃v,(results fn a.tmps).run C.P w= .ok v w/\RV M w c v
def Env.args(args:List CV):Env:={h:=λt=>args[t]?,g:=λ_=>.yes}
def Fin(C:Ctx)(fn:Func)(K:R8->List b9->Prop):A7->Env->List b9->Prop
 | .normal,E,σ| .ret,E,σ=>∃c,W6 C E σ fn c/\K (.ret c) σ
 | .pan c,_,σ=>K (.pan c) σ
 |_,_,_=>False
theorem a88{f:FuncId}{fn:Func}{c:Code}{args:List CV}(hf:C.P.funcs[f]?=some fn)(hb:fn.body=some c)(hn':Nat.ble args.length fn.ntmps=true)
 (h:CWp C fn.ntmps c (Fin C fn K) (Env.args args) σ):b8 C f args σ K:=λM w vs hr aK hx=>by
 have hn:=nb hn';refine calls_of_wp hf hb (wp_mono (h M w _ hr ⟨O,by simp;omega,λt _=>?_,λt ht=>absurd trivial ht⟩) λe a w' hl=>?_)
 .simp only[Env.args,Env.f]
  rcases a4x t args.length with ht|ht
  .have:=hx t (args[t]) (by simp[ht]);have h1:(vs++Array.replicate (fn.ntmps -vs.size) undef).getD t undef=vs.getD t undef:=by
    simp[b7d,aK,ht]
   rw[h1];simpa[ht]using this
  .have h1:(vs++Array.replicate (fn.ntmps -vs.size) undef).getD t undef=undef:=by
    simp only[Z6,b7d];rw[W G];rw[Array.getElem?_replicate]
    split<;>rfl
   rw[h1];simp only[c0X ht,Option.getD_none];exact .val _
 .obtain ⟨E',aa,M',h1,h2,h3,h4⟩:=hl;cases e with
  |normal=>
   obtain⟨c,hc,hk⟩:=h4;obtain⟨v,hv,aZ⟩:=hc M' w' a h2 h3.rv;exact⟨h3.defers,v,hv,c,aa,M',h1,h2,aZ,hk⟩
  |ret=>
   obtain⟨c,hc,hk⟩:=h4;obtain⟨v,hv,aZ⟩:=hc M' w' a h2 h3.rv;exact⟨h3.defers,v,hv,c,aa,M',h1,h2,aZ,hk⟩
  |panic ch=>
   obtain⟨c,v,h0,hv,hk⟩:=h4;exact⟨h3.defers,c,v,aa,M',h0,h1,h2,hv,hk⟩
  |exit id=>exact h4.elim
  |goto l=>exact h4.elim
  |outgrown=>exact h4.elim
end Go.Cl
namespace Go.Cl
open Sem
variable{x y:Operand}{t t' e:TypeId}{c:CV}{a:Int}{s off k f:Nat}{b nn:Bool}{w:World}{v:Value}{Y:List (List CV)}{tok:Option Nat}{cells:List CV}
theorem p8{M:z8}{u:Value}(h:RV M w (.val v) u):u=v:=by cases h;rfl
theorem U0(b off n:Nat):(⟨b,off,none⟩:Addr).add n=⟨b,off+n,none⟩:=by
 unfold Addr.add
 split
 .simp [*]
 .rfl
theorem a2o{P:Program}{w:World}{a:Addr}(f:Nat->Value):∀(n i:Nat) (bq:Array Value),(∀j,j<n->w.cell? (a.add (i+j))=some (f (i+j))) ->
 (loadCellsFrom a i n bq).run P w= .ok (bq++((List.range' i n).map f).toArray) w
 |0,i,bq,_=>by simp[loadCellsFrom]
 |n+1,i,bq,h=>by
  have h0:=h 0 G;rw[a85]at h0;have ih:=a2o (P:=P) (w:=w) (a:=a) f n (i+1) (bq.push (f i)) (λj hj=>by
   have:=h (j+1) G;rwa[show i+(j+1)=i+1+j from by omega]at this)
  simp only[loadCellsFrom,Sem.run_bind,run_load,h0,Result.andThen_ok,ih,List.range'_succ,a8C];simp
theorem R6{P:Program}{b:Nat}(f:Nat->Value)(n:Nat)(h:∀j,j<n->w.cell? ⟨b,off+j,none⟩=some (f j)):
 (loadCells ⟨b,off,none⟩ n).run P w= .ok ((List.range n).map f).toArray w:=by
 unfold loadCells;rw[a2o f n 0 #[] (λj hj=>by rw[U0];simpa using h j hj)];simp[List.range_eq_range']
section
variable{C:Ctx}{σ:List b9}{E:Env}{o:Oper}
theorem i8(h:∀(M:z8) (w:World) (ρ:Operand->Value),Rel C M σ w->(∀x∈o.op.operands,E.valid x->RV M w (E.val C x) (ρ x))->∃v,(execOp ρ o).run C.P w= .ok (.value v) w/\RV M w c v):l8 C σ E o c:=
 λM w ρ hr hx=>by
  obtain⟨v,h1,h2⟩:=h M w ρ hr hx;rw[h1];exact⟨c,σ,M,Ext.refl M w,hr,h2,O,O⟩
theorem a2Y(ho:o.op = .move x)(hx:E.valid x)(ec:E.val C x=c):l8 C σ E o c:=
 i8 λM w ρ _ h=>⟨ρ x,by simp[execOp,ho],ec▸h x u0 hx⟩
theorem a5k(ho:o.op = .assign x)(hx:E.valid x)(ec:E.val C x=c):l8 C σ E o c:=
 i8 λM w ρ _ h=>⟨ρ x,by simp[execOp,ho],ec▸h x u0 hx⟩
theorem b4W{d:Bool}(ho:o.op = .pick x (.const (.bool true)) y)(hx:E.valid x)(ex:E.val C x= .val (.bool b))(hy:b=false->E.valid y)(ey:b=false->E.val C y= .val (.bool d)):l8 C σ E o (.val (.bool (b ||d))):=
 i8 λM w ρ _ h=>by
  have h1:=h x u0 hx;have h0:=h (.const (.bool true)) u0 O;rw[ex]at h1;have e1:=p8 h1;have e0:ρ (.const (.bool true))= .bool true:=p8 h0;cases b with
  |true=>exact⟨.bool true,by simp[execOp,ho,e1,e0,asBool],.val _⟩
  |false=>
   have h2:=h y u0 (hy O);rw[ey O]at h2;have e2:=p8 h2;exact⟨.bool d,by simp[execOp,ho,e1,e2,asBool],.val _⟩
theorem b1y{d:Bool}(ho:o.op = .pick x y (.const (.bool false)))(hx:E.valid x)(ex:E.val C x= .val (.bool b))(hy:b=true->E.valid y)(ey:b=true->E.val C y= .val (.bool d)):l8 C σ E o (.val (.bool (b&&d))):=
 i8 λM w ρ _ h=>by
  have h1:=h x u0 hx;have h0:=h (.const (.bool false)) u0 O;rw[ex]at h1;have e1:=p8 h1;have e0:ρ (.const (.bool false))= .bool false:=p8 h0;cases b with
  |false=>exact⟨.bool false,by simp[execOp,ho,e1,e0,asBool],.val _⟩
  |true=>
   have h2:=h y u0 (hy O);rw[ey O]at h2;have e2:=p8 h2;exact⟨.bool d,by simp[execOp,ho,e1,e2,asBool],.val _⟩
def b3f(op:BinOp)(k:IntKind)(a b:Int):Option Value:=
 match op with
 | .add=>some (.int k (k.wrap (a+b)))
 | .sub=>some (.int k (k.wrap (a-b)))
 | .mul=>some (.int k (k.wrap (a*b)))
 | .quo=>if b=0 then none else some (.int k (k.wrap (a.tdiv b)))
 | .rem=>if b=0 then none else some (.int k (a.tmod b))
 | .eql=>some (.bool (a == b))
 | .neq=>some (.bool (a != b))
 | .lss=>some (.bool (a<b))
 | .leq=>some (.bool (a<=b))
 | .gtr=>some (.bool (a > b))
 | .geq=>some (.bool (a>=b))
 |_=>none
theorem a2I{op:BinOp}{k:IntKind}{b:Int}(ho:o.op = .binOp op t x y t')(hx:E.valid x)(hy:E.valid y)(ex:E.val C x= .val (.int k a))(ey:E.val C y= .val (.int k b))(hv:b3f op k a b=some v):l8 C σ E o (.val v):=
 i8 λM w ρ _ h=>by
  have h1:=h x u0 hx;have h2:=h y u0 hy;rw[ex]at h1;rw[ey]at h2;have e1:=p8 h1;have e2:=p8 h2;refine⟨v,?_,.val _⟩;cases op<;>simp only[b3f]at hv
  case quo=>
   by_cases hb:b=0
   .simp [hb]at hv
   .rw [W hb]at hv;injection hv with hv
    subst hv;simp[execOp,ho,e1,e2,eqGuard,binOp,Op.intDiv,hb]
  case rem=>
   by_cases hb:b=0
   .simp [hb]at hv
   .rw [W hb]at hv;injection hv with hv
    subst hv;simp[execOp,ho,e1,e2,eqGuard,binOp,Op.intDiv,hb]
  all_goals first
   |(cases hv;done)
   |(injection hv with hv;subst hv;simp[execOp,ho,e1,e2,eqGuard,binOp,Op.intArith,Op.intCmp])
theorem b0O{x:Int}(h1: -9223372036854775808<=x)(h2:x<=9223372036854775807):IntKind.i64.wrap x=x:=by
 rw[IntKind.wrap_i64];omega
theorem b8T{b:Int}(ho:o.op = .binOp .add t x y t')(hx:E.valid x)(hy:E.valid y)(ex:E.val C x= .val (.int .i64 a))(ey:E.val C y= .val (.int .i64 b))(h1: -9223372036854775808<=a+b)(h2:a+b<=9223372036854775807):l8 C σ E o (.val (.int .i64 (a+b))):=by
 have:=a2I (σ:=σ) (v:=.int .i64 (IntKind.i64.wrap (a+b))) ho hx hy ex ey O;rwa[b0O h1 h2]at this
theorem a8s{b:Int}(ho:o.op = .binOp .sub t x y t')(hx:E.valid x)(hy:E.valid y)(ex:E.val C x= .val (.int .i64 a))(ey:E.val C y= .val (.int .i64 b))(h1: -9223372036854775808<=a-b)(h2:a-b<=9223372036854775807):l8 C σ E o (.val (.int .i64 (a-b))):=by
 have:=a2I (σ:=σ) (v:=.int .i64 (IntKind.i64.wrap (a-b))) ho hx hy ex ey O;rwa[b0O h1 h2]at this
theorem b7I{b:Int}(ho:o.op = .binOp .mul t x y t')(hx:E.valid x)(hy:E.valid y)(ex:E.val C x= .val (.int .i64 a))(ey:E.val C y= .val (.int .i64 b))(h1: -9223372036854775808<=a*b)(h2:a*b<=9223372036854775807):l8 C σ E o (.val (.int .i64 (a*b))):=by
 have:=a2I (σ:=σ) (v:=.int .i64 (IntKind.i64.wrap (a*b))) ho hx hy ex ey O;rwa[b0O h1 h2]at this
def d7Q(op:BinOp)(a b:Bool):Option Bool:=
 match op with
 | .eql=>some (a == b)
 | .neq=>some (a != b)
 |_=>none
theorem b7B{op:BinOp}{a r:Bool}(ho:o.op = .binOp op t x y t')(hu:∀w,(underlying t).run C.P w= .ok .bool w)(hx:E.valid x)(hy:E.valid y)(ex:E.val C x= .val (.bool a))(ey:E.val C y= .val (.bool b))(hv:d7Q op a b=some r):l8 C σ E o (.val (.bool r)):=
 i8 λM w ρ _ h=>by
  have h1:=h x u0 hx;have h2:=h y u0 hy;rw[ex]at h1;rw[ey]at h2;have e1:=p8 h1;have e2:=p8 h2;refine⟨.bool r,?_,.val _⟩;have heq:∀d,(Op.equalIn (d+1) t (.bool a) (.bool b)).run C.P w= .ok (a == b) w:=λd=>by simp[Op.equalIn,hu]
  cases op<;>simp only[d7Q]at hv<;>first
   |(cases hv;done)
   |(injection hv with hv;subst hv;simp[execOp,ho,e1,e2,eqGuard,binOp,Op.equal,Op.maxDepth,heq 9999])
  cases a<;>cases b<;>rfl
def b2L(op:BinOp)(a b:ByteArray):Option Bool:=
 match op with
 | .eql=>some (a.toList == b.toList)
 | .neq=>some (!(a.toList == b.toList))
 | .lss=>some (Op.bytesLess a.toList b.toList)
 | .leq=>some (Op.bytesLess a.toList b.toList ||a.toList == b.toList)
 | .gtr=>some (!(Op.bytesLess a.toList b.toList ||a.toList == b.toList))
 | .geq=>some (!Op.bytesLess a.toList b.toList)
 |_=>none
theorem d1b{op:BinOp}{a b:ByteArray}{r:Bool}(ho:o.op = .binOp op t x y t')(hx:E.valid x)(hy:E.valid y)(ex:E.val C x= .val (.string a))(ey:E.val C y= .val (.string b))(hv:b2L op a b=some r):l8 C σ E o (.val (.bool r)):=
 i8 λM w ρ _ h=>by
  have h1:=h x u0 hx;have h2:=h y u0 hy;rw[ex]at h1;rw[ey]at h2;have e1:=p8 h1;have e2:=p8 h2;refine⟨.bool r,?_,.val _⟩;cases op<;>simp only[b2L]at hv<;>first
   |(cases hv;done)
   |(injection hv with hv;subst hv;simp[execOp,ho,e1,e2,eqGuard,binOp,Op.stringOp])
theorem c0t(ho:o.op = .unOp .not t x)(hx:E.valid x)(ex:E.val C x= .val (.bool b)):l8 C σ E o (.val (.bool (!b))):=
 i8 λM w ρ _ h=>by
  have h1:=h x u0 hx;rw[ex]at h1;exact⟨.bool (!b),by simp[execOp,ho,p8 h1,Op.unary],.val _⟩
theorem d8Z{k:IntKind}(ho:o.op = .unOp .neg t x)(hx:E.valid x)(ex:E.val C x= .val (.int k a)):l8 C σ E o (.val (.int k (k.wrap (0-a)))):=
 i8 λM w ρ _ h=>by
  have h1:=h x u0 hx;rw[ex]at h1;exact⟨.int k (k.wrap (0-a)),by simp[execOp,ho,p8 h1,Op.unary,Op.intArith],.val _⟩
theorem a5N{i:Nat}{cs:List CV}(ho:o.op = .extract x i)(hx:E.valid x)(ex:E.val C x= .tup cs)(hi:cs[i]?=some c):l8 C σ E o c:=
 i8 λM w ρ _ h=>by
  have h1:=h x u0 hx;rw[ex]at h1;generalize hu:ρ x=u at h1;cases h1 with
  |tup aK aZ=>
   rename_i vs;have af:i<vs.size:=by rw[aK];exact(n_2.1 hi).1
   refine⟨vs.getD i undef,?_,aZ i c hi⟩;simp[execOp,ho,hu,Instr.extract,af]
theorem RV.list_inv{M:z8}(h:RV M w (.list Y nn tok) v):
 ∃(a:Option Addr) (cap b off s:Nat) (vals:Nat->Nat->Value),v= .slice a Y.length cap/\Y.length<=cap/\cap<=maxLen/\a.isSome=nn/\(nn=false->cap=0)/\(Y≠[]->a=some ⟨b,off,none⟩) /\
  (∀r∈Y,r.length=s)/\(∀r∈Y,∀c∈r,c.one=true) /\
  (∀(i j:Nat) (r:List CV) (c:CV),Y[i]?=some r->r[j]?=some c->M.at b (off+i*s+j)/\w.cell? ⟨b,off+i*s+j,none⟩=some (vals i j)) /\
  (∀(i j:Nat) (r:List CV) (c:CV),Y[i]?=some r->r[j]?=some c->RV M w c (vals i j)) /\
  (∀k,tok=some k->∃s',M.pl[k]?=some ⟨b,cap,s'⟩/\a=some ⟨b,0,none⟩/\off=0/\(Y≠[]->s'=s)):=by
 cases h with
 |list vals h1 h2 h3 h4 h5 h6 h7 h8 h9 bp=>exact⟨_,_,_,_,_,vals,O,h1,h2,h3,h4,h5,h6,h7,h8,h9,bp⟩
theorem X5{ty:TypeId}{n:Int}(ho:o.op = .call {callee:=.builtin .len,args:=#[x],argTypes:=#[t]})(hx:E.valid x)(ex:E.val C x= .list Y nn tok)
 (hu:∀w,(underlying t).run C.P w= .ok (.slice e) w)(hn:(Y.length:Int)=n)(_:o.type=ty):l8 C σ E o (.val (.int .i64 n)):=
 i8 λM w ρ _ h=>by
  have h1:=h x H0 hx;rw[ex]at h1;obtain⟨a,cap,b,off,s,vals,hv,_⟩:=h1.list_inv;subst hn;exact⟨.int .i64 Y.length,by simp[execOp,ho,resolve,invoke,builtin,Builtin.len_,hu,hv,goInt],.val _⟩
theorem a0W{ty:TypeId}{len:Nat}{n:Int}(ho:o.op = .call {callee:=.builtin .len,args:=#[x],argTypes:=#[t]})(hx:E.valid x)(ex:E.val C x= .vec k off len)
 (hu:∀w,(underlying t).run C.P w= .ok (.slice e) w)(hn:(len:Int)=n)(_:o.type=ty):l8 C σ E o (.val (.int .i64 n)):=
 i8 λM w ρ _ h=>by
  have h1:=h x H0 hx;rw[ex]at h1;generalize eu:ρ x=u at h1;subst hn;cases h1;exact⟨.int .i64 len,by simp[execOp,ho,resolve,invoke,builtin,Builtin.len_,hu,eu,goInt],.val _⟩
theorem r6{ix:Operand}{i:Int}{r:List CV}(ho:o.op = .indexAddr t x ix)(hx:E.valid x)(hi:E.valid ix)(ex:E.val C x= .list Y nn tok)(ei:E.val C ix= .val (.int .i64 i))
 (hu:∀w,(underlying t).run C.P w= .ok (.slice e) w)(hs:∀w,(sizeOf e).run C.P w= .ok s w)(h0:0<=i)(hr:Y[i.toNat]?=some r)(hl:r.length=s):l8 C σ E o (.cptr r):=
 i8 λM w ρ _ h=>by
  have h1:=h x u0 hx;have h2:=h ix u0 hi;rw[ex]at h1;rw[ei]at h2;obtain⟨a,cap,b,off,s',vals,hv,bj,_,_,_,ha,cQ,aN,hc,aZ,_⟩:=h1.list_inv;have af:i.toNat <Y.length:=(n_2.1 hr).1;have ax:Y≠[]:=by rintro rfl;simp at af
  have bN:r∈Y:=n_3 hr;have hss:s'=s:=by rw[<- cQ r bN,hl]
  subst hss;refine⟨.pointer (some ⟨b,off+i.toNat*s',none⟩),?_,.cptr (vals i.toNat) (aN r bN) (λj c hj=>?_) (λj c hj=>aZ _ _ _ _ hr hj)⟩
  .have bt:i< (Y.length:Int):=by omega
   simp[execOp,ho,hv,p8 h2,Instr.indexAt,asIntOf,hu,hs,ha ax,h0,bt,U0]
  .exact hc _ _ _ _ hr hj
theorem a3I{fs:Array Field}{fd:Field}(ho:o.op = .fieldAddr t x f)(hx:E.valid x)(ex:E.val C x= .cptr cells)
 (hu:∀w,(underlying t).run C.P w= .ok (.struct fs) w)(hf:fs[f]?=some fd)(hs:∀w,(sizeOf fd.type).run C.P w= .ok s w)(eZ:s≠0):l8 C σ E o (.cptr (cells.drop fd.offset)):=
 i8 λM w ρ _ h=>by
  have h1:=h x u0 hx;rw[ex]at h1;generalize eu:ρ x=u at h1;cases h1 with
  |cptr vals h1 h2 h3=>
   rename_i b off;refine⟨.pointer (some ⟨b,off+fd.offset,none⟩),?_,.cptr (λj=>vals (fd.offset+j)) (λc hc=>h1 c (b14 hc)) (λj c hj=>?_) (λj c hj=>?_)⟩
   .simp [execOp,ho,eu,Instr.fieldAt,hu,hf,Instr.sureAddr,fieldPlace,hs,eZ,U0]
   .rw [a6d]at hj;have:=h2 _ _ hj;rwa[<- b2z]at this
   .rw [a6d]at hj;exact h3 _ _ hj
theorem j3{fs:Array Field}{fd:Field}(ho:o.op = .fieldAddr t x f)(hx:E.valid x)(ex:E.val C x= .ptr k off)
 (hu:∀w,(underlying t).run C.P w= .ok (.struct fs) w)(hf:fs[f]?=some fd)(hs:∀w,(sizeOf fd.type).run C.P w= .ok s w)(eZ:s≠0):l8 C σ E o (.ptr k (off+fd.offset)):=
 i8 λM w ρ _ h=>by
  have h1:=h x u0 hx;rw[ex]at h1;generalize eu:ρ x=u at h1;cases h1 with
  |ptr hk=>exact⟨_,by simp[execOp,ho,eu,Instr.fieldAt,hu,hf,Instr.sureAddr,fieldPlace,hs,eZ,U0],.ptr hk⟩
theorem c7c{fs:Array Field}{fd:Field}{i:Nat}(ho:o.op = .fieldAddr t x f)(hx:E.valid x)(ex:E.val C x= .eptr k i off)
 (hu:∀w,(underlying t).run C.P w= .ok (.struct fs) w)(hf:fs[f]?=some fd)(hs:∀w,(sizeOf fd.type).run C.P w= .ok s w)(eZ:s≠0):l8 C σ E o (.eptr k i (off+fd.offset)):=
 i8 λM w ρ _ h=>by
  have h1:=h x u0 hx;rw[ex]at h1;generalize eu:ρ x=u at h1;cases h1 with
  |eptr hk=>
   refine⟨_,by simp[execOp,ho,eu,Instr.fieldAt,hu,hf,Instr.sureAddr,fieldPlace,hs,eZ,U0,b2z],.eptr hk⟩
theorem a0N(ho:o.op = .load t x)(hx:E.valid x)(ex:E.val C x= .cptr cells)(ha:∀w,(isAgg t).run C.P w= .ok false w)(hc:cells[0]?=some c):l8 C σ E o c:=
 i8 λM w ρ _ h=>by
  have h1:=h x u0 hx;rw[ex]at h1;generalize eu:ρ x=u at h1;cases h1 with
  |cptr vals h1 h2 h3=>
   rename_i b off;have:=(h2 0 c hc).2;rw[a85]at this;exact⟨vals 0,by simp[execOp,ho,eu,Instr.loadAt,Instr.sureAddr,loadVar,ha,this],h3 0 c hc⟩
theorem U5(ho:o.op = .load t x)(hx:E.valid x)(ex:E.val C x= .cptr cells)(ha:∀w,(isAgg t).run C.P w= .ok true w)(hs:∀w,(sizeOf t).run C.P w= .ok s w)(hl:s<=cells.length):l8 C σ E o (.agg (cells.take s)):=
 i8 λM w ρ _ h=>by
  have h1:=h x u0 hx;rw[ex]at h1;generalize eu:ρ x=u at h1;cases h1 with
  |cptr vals h1 h2 h3=>
   rename_i b off;refine⟨.agg ((List.range s).map vals).toArray,?_,.agg (by simp[hl]) (λc hc=>h1 c (a8P hc)) (λi c hi=>?_)⟩
   .simp [execOp,ho,eu,Instr.loadAt,Instr.sureAddr,loadVar,ha,hs,R6 (P:=C.P) (w:=w) vals s (λj hj=>(h2 j cells[j] (by simp[show j<cells.length by omega])).2)]
   .have bf:i<s:=by
     have:=(n_2.1 hi).1;simp at this;omega
    rw[a2q,Q bf]at hi;have:=h3 i c hi;simpa[bf]using this
end
end Go.Cl
namespace Go.Cl
variable{w w0 w':World}{M M' M0:z8}{c c':CV}{s n k off L i b j m ai:Nat}{t e t2 ty:TypeId}{Y new:List (List CV)}{σ:List b9}{x y:Operand}{K:R8->List b9->Prop}{z v:Value}{C:Ctx}{α:Type}{ak:List Nat}{p:Pl}{E:Env}{f:FuncId}{t0:Option TypeId}{o:Oper}{nn av:Bool}{arr:Array Value}{P:Program}{g:Prop}{r args cs cargs:List CV}{ob:b9}{xs:Array Operand}{ts:Array TypeId}{parts:Array (Nat×Operand)}{a:Int}{ps:List (Nat×CV)}{l:List Oper}{S:α->List b9}
def z8.add(M:z8)(p:Pl):z8:={M with pl:=M.pl++[p]}
theorem K4(w:World)(o:Obj)(h:b<w.heap.size):(w.alloc o).heap[b]?=w.heap[b]?:=by
 show(w.heap.push o)[b]?=_;rw[b99,W (Nat.ne_of_lt h)]
theorem r9(w:World)(o:Obj):(w.alloc o).heap[w.heap.size]?=some o:=by
 show(w.heap.push o)[w.heap.size]?=_;rw[b99,Q O]
theorem R2.lt(h:R2 M w p ob)(hl:ob.live=true):p.block <w.heap.size:=by
 have key:∀{o:Obj},w.heap[p.block]?=some o->p.block <w.heap.size:=λh=>(a1a.1 h).1;cases ob with
 |dead=>cases hl
 |boxT t0 cells=>obtain⟨arr,ty,h,_⟩:=h;exact key h
 |tipT t0 n=>obtain⟨_,_,_,arr,ty,h,_⟩:=h;exact key h
 |vec s Y=>obtain⟨_,_,_,_,_,arr,ty,h,_⟩:=h;exact key h
 |map es=>obtain⟨arr,ty,h,_⟩:=h;exact key h
 |iter aD left=>obtain⟨_,_,_,_,_,h,_⟩:=h;exact key h
 |blk o=>exact key h
 |lp o n cs=>obtain⟨_,h,_⟩:=h;exact key h
theorem R2.mono(hx:Ext M w M' w')(hb:w'.heap[p.block]?=w.heap[p.block]?)(hc:∀t n,ob= .tipT t n->∀o,M'.cell p.block o->M.cell p.block o)(h:R2 M w p ob):R2 M' w' p ob:=by
 cases ob with
 |dead=>trivial
 |boxT t0 cells=>
  obtain⟨arr,ty,h1,h2,h3,h4⟩:=h;exact⟨arr,ty,hb.trans h1,h2,h3,λi c hi=>(h4 i c hi).mono hx⟩
 |blk o=>exact hb.trans h
 |lp o n cs=>
  obtain⟨tm,h1,h2,h3⟩:=h;exact⟨tm,hb.trans h1,h2,λx ay=>(h3 x ay).mono hx⟩
 |tipT t0 n=>
  obtain⟨h0,fZ,h1,arr,ty,h2,h3⟩:=h;exact⟨h0,fZ,⟨λo ho=>h1.1 o (hc _ n O o ho),h1.2⟩,arr,ty,hb.trans h2,h3⟩
 |vec s Y=>
  obtain⟨h0,fZ,h000,h1,h2,arr,ty,h3,h4,h5⟩:=h;exact⟨h0,fZ,h000,h1,h2,arr,ty,hb.trans h3,h4,λi j r c hi hj=>(h5 i j r c hi hj).mono hx⟩
 |map es=>
  obtain⟨ae,ai,h1,h2,h3⟩:=h;refine⟨ae,ai,hb.trans h1,h2,λi x hi=>?_⟩;obtain⟨e,he,hk,hv,hc⟩:=h3 i x hi;exact⟨e,he,hk.mono hx,hv.mono hx,hc⟩
 |iter aD left=>
  obtain⟨mb,seen,bF,ae,ai,h1,h2,h3,h4,h5,h6,h7,h8,h9⟩:=h;refine⟨mb,seen,bF,ae,ai,hb.trans h1,hx.full _ h2,(hx.same _ h2).trans h3,h4,h5,h6,h7,λi x hi=>?_,λi x hi=>?_⟩
  .obtain ⟨e,he,hk,hv⟩:=h8 i x hi;exact⟨e,he,hk.mono hx,hv.mono hx⟩
  .obtain ⟨hl,j,e,he,hs,hk,hv⟩:=h9 i x hi;exact⟨hl,j,e,he,hs,hk.mono hx,hv.mono hx⟩
theorem Ext.alloc(hr:Rel C M σ w)(p:Pl)(o:Obj):Ext M w (M.add p) (w.alloc o):=
 ⟨⟨[p],O⟩,λ_ h=>h,λ_ _ h=>.inr h,λb h=>K4 w o (hr.blk b 0 (.inl h)),λb o' h=>M5 (K4 w o (hr.blk b o' (.inr h))),by rw[b9s];omega,T4,O,O,O,λb h=>⟨h,K4 w o (hr.kep b h),id,λ_=>id⟩⟩
theorem Rel.alloc(hr:Rel C M σ w)(p:Pl)(o:Obj)(ob:b9)(hb:p.block=w.heap.size)(h:R2 (M.add p) (w.alloc o) p ob):Rel C (M.add p) (σ++[ob]) (w.alloc o):=by
 have hx:=Ext.alloc hr p o;have aq:∀{k:Nat} {q:Pl},(M.add p).pl[k]?=some q->(k<σ.length/\M.pl[k]?=some q)\/(k=σ.length/\q=p):=by
  intro k q hk;simp only[z8.add,a6O,hr.len]at hk;split at hk
  .exact .inl ⟨‹_›,hk⟩
  .rename_i af;have:k-σ.length=0:=by
    have:=(n_2.1 hk).1;simp at this;omega
   rw[this]at hk;simp at hk;exact .inr ⟨G,hk.symm⟩
 have fA:∀{k:Nat} {x:b9},(σ++[ob])[k]?=some x->k<σ.length->σ[k]?=some x:=by
  intro k x hk af;rwa[T7 af]at hk
 have hgn:∀{x:b9},(σ++[ob])[σ.length]?=some x->x=ob:=by
  intro x hk;simp at hk;exact hk.symm
 refine⟨by simp[z8.add,hr.len],λb o' ha=>?_,λk q x hk ay=>?_,λk k' q q' x x' hk aC bh aE hl bL hbb=>?_,λg cells hg=>(hr.glob g cells hg).mono hx,λb h=>(by rw[b9s];have:=hr.kep b h;omega),λk q x hk ay cp h=>?_⟩
 .have:=hr.blk b o' ha;rw[b9s];omega
 .rcases aq hk with⟨af,hq⟩|⟨rfl,rfl⟩
  .have hxo:=fA ay af;obtain⟨h1,h2⟩:=hr.obj k q x hq hxo;refine⟨?_,h2⟩;by_cases hl:x.live=true
   .exact h1.mono hx (K4 w o (h1.lt hl)) (λ_ _ _ _ h=>h)
   .cases x<;>first|trivial|simp[b9.live]at hl
  .have:=hgn ay;subst this;refine⟨h,?_⟩;have hf:¬M.full q.block:=λhf=>by have:=hr.blk q.block 0 (.inl hf);omega
   have hc:∀o,¬M.cell q.block o:=λo hc=>by have:=hr.blk q.block o (.inr hc);omega
   cases x<;>first|trivial|exact hf|exact⟨hf,hc⟩
 .rcases aq hk with⟨af,hq⟩|⟨rfl,rfl⟩
  .rcases aq aC with⟨bt,eL⟩|⟨rfl,rfl⟩
   .exact hr.inj k k' q q' x x' hq eL (fA bh af) (fA aE bt) hl bL hbb
   .have:=(hr.obj k q x hq (fA bh af)).1.lt hl;omega
  .rcases aq aC with⟨bt,eL⟩|⟨rfl,rfl⟩
   .have:=(hr.obj k' q' x' eL (fA aE bt)).1.lt bL;omega
   .rfl
 .rcases aq hk with⟨af,hq⟩|⟨rfl,rfl⟩
  .exact hr.nk k q x hq (fA ay af) cp h
  .have:=hr.kep _ h;omega
def CV.cells:CV->List CV
 | .agg cs=>cs
 |c=>[c]
theorem RV.cells(h:RV M w c v)(ho:c.one=true\/∃cs,c= .agg cs):
 v.cells.size=c.cells.length/\(∀x∈c.cells,x.one=true)/\∀(i:Nat) (x:CV),c.cells[i]?=some x->RV M w x (v.cells.getD i undef):=by
 rcases ho with ho|⟨cs,rfl⟩
 .have hv:=h.one ho;have eY:v.cells = #[v]:=by cases v<;>first|rfl|simp[Value.oneCell']at hv
  have bx:c.cells=[c]:=by cases c<;>first|rfl|simp[CV.one]at ho
  rw[eY,bx];refine⟨O,D ho,λi x hi=>?_⟩
  rcases i with _|i
  .simp at hi;subst hi;exact h
  .simp at hi
 .cases h with
  |agg h1 h2 h3=>exact⟨h1,h2,h3⟩
variable{cells:List CV}
section
theorem a4d(t:TypeId)(v:Value)(w:World):(newVar t v).run P w= .ok ⟨w.heap.size,0,none⟩ (w.alloc (.cells v.cells t)):=by
 simp[newVar,newRow]
theorem b4v(hr:Rel C M σ w)(h:RV M w c v)(ho:c.one=true\/∃cs,c= .agg cs)(hk:K (.ret (.ptr σ.length 0)) (σ++[.box c.cells])):
 a1i C M w K (.pointer (some ⟨w.heap.size,0,none⟩)) (w.alloc (.cells v.cells t)):=by
 obtain⟨h1,h2,h3⟩:=h.cells ho;have hx:=Ext.alloc hr ⟨w.heap.size,0,0⟩ (.cells v.cells t);refine⟨.ptr σ.length 0,_,_,hx,hr.alloc ⟨w.heap.size,0,0⟩ _ (.box c.cells) O ⟨v.cells,t,r9 w _,h1,h2,λi x hi=>(h3 i x hi).mono hx⟩,?_,hk⟩;exact .ptr (p:=⟨w.heap.size,0,0⟩) a7w
theorem H3(ho:o.op = .box t x)(hx:E.valid x)(ex:E.val C x=c)(hc:c.one=true\/∃cs,c= .agg cs)(hk:K (.ret (.ptr σ.length 0)) (σ++[.box c.cells])):G5 C σ E o K:=λM w ρ hr h=>by
 have h1:=h x u0 hx;rw[ex]at h1;have:(execOp ρ o).run C.P w= .ok (.value (.pointer (some ⟨w.heap.size,0,none⟩))) (w.alloc (.cells (ρ x).cells t)):=by
  simp[execOp,ho,Instr.box,a4d]
 rw[this];exact b4v hr h1 hc hk
theorem o6(ho:o.op = .alloc t)(hz:∀w,(zeroValue t).run C.P w= .ok z w)(bR:L2 z=true)(cX:(I0 z).one=true\/∃cs,I0 z= .agg cs)(hk:K (.ret (.ptr σ.length 0)) (σ++[.box (I0 z).cells])):G5 C σ E o K:=λM w ρ hr h=>by
 have:(execOp ρ o).run C.P w= .ok (.value (.pointer (some ⟨w.heap.size,0,none⟩))) (w.alloc (.cells z.cells t)):=by
  simp[execOp,ho,Instr.alloc,hz,a4d]
 rw[this];exact b4v hr (a0y bR) cX hk
theorem b9Y(hr:Rel C M σ w)(hp:M.pl[k]?=some p)(hb:σ[k]?=some (.boxT t0 cells))(hi:cells[i]?=some c):
 ∃v,w.cell? ⟨p.block,i,none⟩=some v/\RV M w c v/\w.frozen? ⟨p.block,i,none⟩=false:=by
 obtain⟨arr,ty,h1,h2,h3,h4⟩:=(hr.obj k p _ hp hb).1;have af:i<arr.size:=by rw[h2];exact(n_2.1 hi).1
 refine⟨arr.getD i undef,?_,h4 i c hi,?_⟩
 .simp [World.cell?,h1,af]
 .simp [World.frozen?,h1]
theorem j9(ho:o.op = .load t x)(hx:E.valid x)(ex:E.val C x= .ptr k off)(ha:∀w,(isAgg t).run C.P w= .ok false w)(hk:σ[k]?=some (.boxT t0 cells))(hc:cells[off]?=some c):l8 C σ E o c:=
 i8 λM w ρ hr h=>by
  have h1:=h x u0 hx;rw[ex]at h1;generalize eu:ρ x=u at h1;cases h1 with
  |ptr hp=>
   obtain⟨v,hv,aZ,_⟩:=b9Y hr hp hk hc;exact⟨v,by simp[execOp,ho,eu,Instr.loadAt,Instr.sureAddr,loadVar,ha,hv],aZ⟩
theorem I8(ho:o.op = .load t x)(hx:E.valid x)(ex:E.val C x= .ptr k off)(ha:∀w,(isAgg t).run C.P w= .ok true w)(hs:∀w,(sizeOf t).run C.P w= .ok s w)(hk:σ[k]?=some (.boxT t0 cells))(hl:off+s<=cells.length):l8 C σ E o (.agg ((cells.drop off).take s)):=
 i8 λM w ρ hr h=>by
  have h1:=h x u0 hx;rw[ex]at h1;generalize eu:ρ x=u at h1;cases h1 with
  |ptr hp=>
   rename_i p;obtain⟨arr,ty,h1,h2,h3,h4⟩:=(hr.obj k p _ hp hk).1;have aS:∀j,j<s->w.cell? ⟨p.block,off+j,none⟩=some (arr.getD (off+j) undef):=λj hj=>by
    have:off+j<arr.size:=by omega
    simp[World.cell?,h1,this]
   refine⟨.agg ((List.range s).map λj=>arr.getD (off+j) undef).toArray,?_,.agg H6 (λc hc=>h3 c (b14 (a8P hc))) (λi c hi=>?_)⟩
   .simp [execOp,ho,eu,Instr.loadAt,Instr.sureAddr,loadVar,ha,hs,R6 (P:=C.P) (w:=w) _ s aS]
   .have bf:i<s:=by
     have:=(n_2.1 hi).1;simp at this;omega
    rw[a2q,Q bf,a6d]at hi;have:=h4 (off+i) c hi;simpa[bf]using this
theorem b2R{fn:Func}{t:Nat}(hr:fn.results = #[.tmp t])(hv:E.ok t)(ec:E.f t=c):W6 C E σ fn c:=λM w a _ h=>by
 refine⟨a.tmps.getD t undef,results_tmp hr _ _ _,ec▸h t hv⟩
end
def World.putObj(w:World)(b:Nat)(o:Obj):World:={w with heap:=w.heap.setIfInBounds b o}
theorem World.putObj_same(w:World)(o:Obj)(hb:b<w.heap.size):(World.putObj w b o).heap[b]?=some o:=by
 simp[World.putObj,hb]
theorem World.putObj_other(w:World){b':Nat}(o:Obj)(h:b≠b'):(World.putObj w b o).heap[b']?=w.heap[b']?:=by
 simp[World.putObj,b6P h]
theorem World.putObj_size(w:World)(b:Nat)(o:Obj):(World.putObj w b o).heap.size=w.heap.size:=by
 simp[World.putObj]
theorem World.putObj_put(w:World)(b:Nat)(o o':Obj):World.putObj (World.putObj w b o) b o'=World.putObj w b o':=by
 simp[World.putObj]
theorem World.putObj_self(w:World){o:Obj}(h:w.heap[b]?=some o):World.putObj w b o=w:=by
 have:w.heap.setIfInBounds b o=w.heap:=by
  apply b5v;intro i;by_cases hi:b=i
  .subst hi;have af:=(a1a.1 h).1;rw[h];simp[af]
  .rw [b6P hi]
 unfold World.putObj;rw[this]
theorem b1q(w:World){aD:Array Value}(v:Value)(h:w.heap[b]?=some (.cells aD t (0,0))):
 w.setCell ⟨b,off,none⟩ v=World.putObj w b (.cells (aD.setIfInBounds off v) t (0,0)):=by
 have af:=(a1a.1 h).1;unfold World.setCell World.putObj
 congr 1
 apply b5v;intro i;rw[c0q];by_cases hi:b=i
 .subst hi;rw[Q O,h,Array.getElem?_setIfInBounds_self_of_lt af];rfl
 .rw [W hi,b6P hi]
def D4(aD:Array Value)(o:Nat):List Value->Array Value
 | []=>aD
 |v::vs=>D4 (aD.setIfInBounds o v) (o+1) vs
theorem I9:∀(vs:List Value) (aD:Array Value) (o:Nat),(D4 aD o vs).size=aD.size
 | [],_,_=>rfl
 |v::vs,aD,o=>by rw[D4,I9 vs];simp
theorem L7:∀(vs:List Value) (aD:Array Value) (o i:Nat),o+vs.length<=aD.size ->
 (D4 aD o vs).getD i undef=if o<=i/\i<o+vs.length then vs.getD (i-o) undef else aD.getD i undef
 | [],aD,o,i,_=>by
  rw[D4,W (by simp only[K8];omega)]
 |v::vs,aD,o,i,h=>by
  simp only[D3]at h;rw[D4,L7 vs _ _ _ H6];by_cases h1:o+1<=i/\i<o+1+vs.length
  .rw [Q h1,Q (by simp only[D3];omega)];have:i-o=(i- (o+1))+1:=by omega
   rw[this];simp
  .rw [W h1];by_cases h2:i=o
   .subst h2;rw[Q (by simp only[D3];omega)];have af:i<aD.size:=by omega
    simp[af]
   .rw [W (by simp only[D3];omega)];simp[b6P (Ne.symm h2)]
theorem O9{P:Program}{b off:Nat}{t:TypeId}:∀(vs:List Value) (i:Nat) (aD:Array Value) (w:World),w.heap[b]?=some (.cells aD t (0,0))->off+i+vs.length<=aD.size->(∀v∈vs,v.oneCell'=true) ->
 (storeCells ⟨b,off,none⟩ vs i).run P w= .ok () (World.putObj w b (.cells (D4 aD (off+i) vs) t (0,0)))
 | [],i,aD,w,h,_,_=>by
  simp only[storeCells,D4,World.putObj_self w h];rfl
 |v::vs,i,aD,w,h,hl,h1=>by
  simp only[D3]at hl;have aS:w.cell? ⟨b,off+i,none⟩=some (aD.getD (off+i) undef):=by
   have:off+i<aD.size:=by omega
   simp[World.cell?,h,this]
  have hfz:w.frozen? ⟨b,off+i,none⟩=false:=by simp[World.frozen?,h]
  have hb:b<w.heap.size:=(a1a.1 h).1;simp only[storeCells,U0,Sem.run_bind,run_store P w _ v .plain (h1 v U),aS,hfz,b09,if_false,Result.andThen_ok];rw[b1q w v h];have ih:=O9 (P:=P) (off:=off) (t:=t) vs (i+1) (aD.setIfInBounds (off+i) v) (World.putObj w b (.cells (aD.setIfInBounds (off+i) v) t (0,0))) (World.putObj_same w _ hb) H6 (λu hu=>h1 u (by simp[hu]));rw[ih,World.putObj_put];rfl
def P4(cells:List CV)(off:Nat)(new:List CV):List CV:=cells.take off++(new++cells.drop (off+new.length))
theorem a0A{new:List CV}(h:off+new.length<=cells.length):(P4 cells off new).length=cells.length:=by
 simp[P4];omega
theorem a2L{new:List CV}(h:off+new.length<=cells.length)(i:Nat):
 (P4 cells off new)[i]?=if off<=i/\i<off+new.length then new[i-off]? else cells[i]?:=by
 unfold P4;rw[a6O];simp only[a7Y,Nat.min_eq_left (show off<=cells.length by omega)]
 split
 .rename_i h1;rw[W G,a2q,Q h1]
 .rename_i h1;rw[a6O]
  split
  .rename_i h2;rw[Q G]
  .rename_i h2;rw[W G,a6d]
   congr 1;omega
theorem a2w{new:List CV}(h:c∈P4 cells off new):c∈new\/c∈cells:=by
 simp only[P4,T9]at h
 rcases h with h|h|h
 .exact .inr (a8P h)
 .exact .inl h
 .exact .inr (b14 h)
theorem Ext.putObj(o:Obj)(hkp:¬M.keep b)(hf:¬M.full b)(hc:∀o,¬M.cell b o):Ext M w M (World.putObj w b o):=
 ⟨⟨[],U⟩,λ_ h=>h,λ_ _ h=>.inr h,λb' h=>World.putObj_other w o (λe=>hf (e▸h)),λb' o' h=>M5 (World.putObj_other w o (λe=>hc o' (e▸h))),by rw[World.putObj_size];exact n_6 _,T4,O,O,O,λb' h=>⟨h,World.putObj_other w o (λe=>hkp (e▸h)),id,λ_=>id⟩⟩
theorem Rel.putObj(hr:Rel C M σ w){cZ:b9}(hk:M.pl[k]?=some p)(hs:σ[k]?=some cZ)(fc:cZ.live=true)(hf:¬M.full p.block)(hc:∀o,¬M.cell p.block o)(o:Obj)
 (h:R2 M (World.putObj w p.block o) p ob):Rel C M (σ.set k ob) (World.putObj w p.block o):=by
 have hx:=Ext.putObj (w:=w) o (hr.nk k p cZ hk hs fc) hf hc;have hb:p.block <w.heap.size:=(hr.obj k p cZ hk hs).1.lt fc;have aq:∀{k':Nat} {x:b9},(σ.set k ob)[k']?=some x->(k'=k/\x=ob)\/(k'≠k/\σ[k']?=some x):=by
  intro k' x hh;rw[a8X]at hh;split at hh
  .rename_i e;split at hh
   .injection hh with hh;exact .inl ⟨e.symm,hh.symm⟩
   .cases hh
  .rename_i e;exact .inr ⟨λe'=>e e'.symm,hh⟩
 refine⟨by simp[hr.len],λb o' ha=>by rw[World.putObj_size];exact hr.blk b o' ha,λk' q x aC ay=>?_,λk1 k2 q1 q2 x1 x2 bB cc bh aE dL da hbb=>?_,λg cells hg=>(hr.glob g cells hg).mono hx,λb h=>(by rw[World.putObj_size];exact hr.kep b h),λk' q x aC ay cp=>?_⟩
 .rcases aq ay with⟨rfl,rfl⟩|⟨ax,aT⟩
  .have:q=p:=by rw[hk]at aC;injection aC with aC;exact aC.symm
   subst this;refine⟨h,?_⟩;cases x<;>first|trivial|exact hf|exact⟨hf,hc⟩
  .obtain ⟨h1,h2⟩:=hr.obj k' q x aC aT;refine⟨?_,h2⟩;by_cases hl:x.live=true
   .refine h1.mono hx (World.putObj_other w o λe=>ax ?_) (λ_ _ _ _ h=>h);exact hr.inj k' k q p x cZ aC hk aT hs hl fc e.symm
   .cases x<;>first|trivial|simp[b9.live]at hl
 .have ik:∀{k':Nat} {x:b9},(σ.set k ob)[k']?=some x->x.live=true->∃x',σ[k']?=some x'/\x'.live=true:=by
   intro k' x hh hl
   rcases aq hh with⟨rfl,rfl⟩|⟨_,aT⟩
   .exact ⟨cZ,hs,fc⟩
   .exact ⟨x,aT,hl⟩
  obtain⟨y1,fB,hl1'⟩:=ik bh dL;obtain⟨y2,hy2,hl2'⟩:=ik aE da;exact hr.inj k1 k2 q1 q2 y1 y2 bB cc fB hy2 hl1' hl2' hbb
 .rcases aq ay with⟨rfl,rfl⟩|⟨ax,aT⟩
  .rw [hk]at aC;injection aC with aC
   subst aC;exact hr.nk _ _ cZ hk hs fc
  .exact hr.nk k' q x aC aT cp
section
theorem a3u(h:RV M w c v)(ho:c.one=true\/∃cs,c= .agg cs):∀u∈v.cells.toList,u.oneCell'=true:=by
 obtain⟨h1,h2,h3⟩:=h.cells ho;intro u hu;obtain⟨i,hi,rfl⟩:=List.mem_iff_getElem.1 hu;have bf:i<v.cells.size:=D hi;have cK:i<c.cells.length:=by omega
 have:=(h3 i c.cells[i] (by simp[cK])).one (h2 _ (b3z cK));simpa[bf]using this
theorem j1(ho:o.op = .store t x y)(hx:E.valid x)(hy:E.valid y)(ex:E.val C x= .ptr k off)(ey:E.val C y=c)(hs:∀w,(sizeOf t).run C.P w= .ok s w)
 (hc:c.one=true\/∃cs,c= .agg cs)(hk:σ[k]?=some (.boxT t0 cells))(hl:c.cells.length=s)(af:off+s<=cells.length)(h:K (.ret (.val undef)) (σ.set k (.boxT t0 (P4 cells off c.cells)))):G5 C σ E o K:=λM w ρ hr hh=>by
 have h1:=hh x u0 hx;have h2:=hh y u0 hy;rw[ex]at h1;rw[ey]at h2;generalize hu:ρ x=u at h1;cases h1 with
 |ptr hp=>
  rename_i p;obtain⟨⟨arr,ty,e1,e2,e3,e4⟩,hf,cy⟩:=hr.obj k p _ hp hk;obtain⟨g1,g2,g3⟩:=h2.cells hc;have aN:=a3u h2 hc;have aK:off+c.cells.length<=cells.length:=by omega
  have au:(execOp ρ o).run C.P w= .ok .skip (World.putObj w p.block (.cells (D4 arr off (ρ y).cells.toList) (t0.getD ty) (0,0))):=by
   have:=O9 (P:=C.P) (b:=p.block) (off:=off) (t:=t0.getD ty) (ρ y).cells.toList 0 arr w e1 H6 aN;simp only[a85]at this;simp[execOp,ho,hu,Instr.storeAt,Instr.sureAddr,storeVar,hs,g1,hl,this]
  rw[au];have hx:=Ext.putObj (w:=w) (.cells (D4 arr off (ρ y).cells.toList) (t0.getD ty) (0,0)) (hr.nk k p _ hp hk O) hf cy;have hb:p.block <w.heap.size:=(a1a.1 e1).1;refine⟨.val undef,_,M,hx,hr.putObj (ob:=.boxT t0 (P4 cells off c.cells)) hp hk O hf cy _ ⟨_,ty,World.putObj_same w _ hb,by rw[I9,a0A aK,e2],λc' bx=>?_,λi c' hi=>?_⟩,.val _,h⟩
  .rcases a2w bx with h'|h'
   .exact g2 _ h'
   .exact e3 _ h'
  .rw [L7 _ _ _ _ H6];rw[a2L aK]at hi;simp only[b0d,g1];split at hi
   .rename_i bO;rw[Q bO];have:=(g3 _ _ hi).mono hx;simpa using this
   .rename_i bO;rw[W bO];exact(e4 _ _ hi).mono hx
theorem b5A(ho:o.op = .call {callee:=.value (.func f),args:=xs,argTypes:=ts})(aA:∀args w,(callFunc f args).run C.P w= .ok (.enter f args) w)
 (hv:∀x∈xs.toList,E.valid x)(ea:xs.toList.map (E.val C)=cargs)(h:b8 C f cargs σ K):G5 C σ E o K:=λM w ρ hr hh=>by
 have hf:RV M w (.val (.func (.func f) #[] #[])) (ρ (.func f)):=hh (.func f) H0 J;have ef:=p8 hf;have au:(execOp ρ o).run C.P w= .ok (.enter f (xs.map ρ)) w:=by
  simp[execOp,ho,resolve,ef,Deferred.ofValue,invoke,aA]
 rw[au];refine(h M w (xs.map ρ) hr (by simp[<- ea]) λi c hi=>?_).mono λe w' he=>by cases e<;>exact he
 subst ea;simp only[O2,Q3]at hi;obtain⟨x,hx,rfl⟩:=hi;have ay:xs[i]?=some x:=D hx;have hm:x∈xs:=b5x ay;have:(xs.map ρ).getD i undef=ρ x:=by
  rw[Z6,c0G,ay];rfl
 rw[this];exact hh x (by simp[ho,Op.operands,Call.operands,hm]) (hv x (D hm))
def b3K(cu:Array (Nat×Nat))(cells:List CV):List (Nat×CV)->Option (List CV)
 | []=>some cells
 |(i,c)::rest=>
  match cu[i]? with
  |none=>none
  |some (off,size)=>if c.cells.length=size/\off+size<=cells.length then b3K cu (P4 cells off c.cells) rest else none
theorem a5d:∀(vs:List Value) (cs:Array Value) (off j:Nat),(vs.zipIdx j).foldl (λcs (x:Value×Nat)=>cs.setIfInBounds (off+x.2) x.1) cs=D4 cs (off+j) vs
 | [],_,_,_=>rfl
 |v::vs,cs,off,j=>by
  rw[List.zipIdx_cons,b4Z,a5d vs _ off (j+1)];rfl
theorem b97{M:z8}{w:World}{cu:Array (Nat×Nat)}{place:Nat->Option (Nat×Nat)}(bc:∀i,place i=cu[i]?):∀(ps:List (Nat×CV)) (qs:List (Nat×Value)) (cells:List CV) (arr:Array Value) (out:List CV),
 b3K cu cells ps=some out->ps.map (·.1)=qs.map (·.1)->(∀(i:Nat) (x:Nat×CV) (y:Nat×Value),ps[i]?=some x->qs[i]?=some y->RV M w x.2 y.2/\(x.2.one=true\/∃cs,x.2 = .agg cs)) ->
 arr.size=cells.length->(∀c∈cells,c.one=true)->(∀(i:Nat) (c:CV),cells[i]?=some c->RV M w c (arr.getD i undef)) ->
 ∃r,Instr.fill place arr qs=some r/\RV M w (.agg out) (.agg r)
 | [],[],cells,arr,out,h,_,_,h2,h3,h4=>by
  simp only[b3K,Option.some.injEq]at h;subst h;exact⟨arr,O,.agg h2 h3 h4⟩
 | [],q::qs,_,_,_,_,h,_,_,_,_=>by simp at h
 |p::ps,[],_,_,_,_,h,_,_,_,_=>by simp at h
 |(i,c)::ps,(i',v)::qs,cells,arr,out,h,hm,aZ,h2,h3,h4=>by
  simp only[a8C,List.cons.injEq]at hm;obtain⟨rfl,hm⟩:=hm;simp only[b3K]at h;cases hp:cu[i]? with
  |none=>rw[hp]at h;cases h
  |some x=>
   obtain⟨off,size⟩:=x;rw[hp]at h;simp only at h;split at h
   .rename_i hc;obtain⟨cz,dM⟩:=hc;obtain⟨hv,aN⟩:=aZ 0 (i,c) (i,v) O O;obtain⟨g1,g2,g3⟩:=hv.cells aN;have g1:v.cells.size=c.cells.length:=g1;have aK:off+c.cells.length<=cells.length:=by omega
    have il:(v.cells.zipIdx.foldl (λcs (x:Value×Nat)=>cs.setIfInBounds (off+x.2) x.1) arr)=D4 arr off v.cells.toList:=by
     rw[<- Array.foldl_toList,Array.toList_zipIdx,a5d];rfl
    have ih:=b97 bc ps qs (P4 cells off c.cells) (D4 arr off v.cells.toList) out h hm (λj x y hx hy=>aZ (j+1) x y (D hx) (D hy)) (by rw[I9,a0A aK,h2])
     (λc' bx=>by
      rcases a2w bx with h'|h'
      .exact g2 _ h'
      .exact h3 _ h')
     (λj c' hj=>by
      rw[L7 _ _ _ _ H6];rw[a2L aK]at hj;simp only[b0d,g1];split at hj
      .rename_i bO;rw[Q bO];have:=g3 _ _ hj;simpa using this
      .rename_i bO;rw[W bO];exact h4 _ _ hj)
    obtain⟨r,aI,aW⟩:=ih;refine⟨r,?_,aW⟩;simp only[Instr.fill,bc,hp];rw[W H6];exact(n_7 (λz=>Instr.fill place z qs) il).trans aI
   .cases h
theorem d4o{fs:Array Field}{cu:Array (Nat×Nat)}{out:List CV}(ho:o.op = .build t parts)(hv:∀x∈parts.toList,E.valid x.2)
 (hu:∀w,(underlying t).run C.P w= .ok (.struct fs) w)(hz:∀w,(zeroValue t).run C.P w= .ok z w)(bR:L2 z=true)(cX:∃cs,I0 z= .agg cs)
 (bc:∀w,(fs.mapM λ(f:Field)=>do pure (f.offset,<- sizeOf f.type)).run C.P w= .ok cu w)(ep:parts.toList.map (λx=>(x.1,E.val C x.2))=ps)
 (aN:∀x∈ps,x.2.one=true\/∃cs,x.2 = .agg cs)(bG:b3K cu (I0 z).cells ps=some out):l8 C σ E o (.agg out):=
 i8 λM w ρ hr h=>by
  have ga:RV M w (I0 z) z:=a0y bR;obtain⟨g1,g2,g3⟩:=ga.cells (.inr cX);have bN:∀x∈parts.toList,x.2∈o.op.operands:=λx hx=>by
   rw[ho];simp only[Op.operands,List.mem_toArray,D6];exact⟨x,hx,O⟩
  obtain⟨r,aI,aW⟩:=b97 (M:=M) (w:=w) (place:=λi=>cu[i]?) Y1 ps (parts.toList.map λx=>(x.1,ρ x.2)) (I0 z).cells z.cells out bG (by simp[<- ep]) (λi x y hx hy=>by
   refine⟨?_,aN x (n_3 hx)⟩;subst ep;simp only[O2,Q3]at hx hy;obtain⟨a,ha,rfl⟩:=hx;obtain⟨a',cL,rfl⟩:=hy;have:a=a':=by rw[ha]at cL;injection cL
   subst this;have hm:=n_3 ha;exact h _ (bN _ hm) (hv _ hm)) g1 g2 g3
  refine⟨.agg r,?_,aW⟩;have hl:(parts.map λx=>(x.1,ρ x.2)).toList=parts.toList.map λx=>(x.1,ρ x.2):=by simp
  simp only[execOp,ho,Instr.build,Sem.run_bind,hz,Result.andThen_ok,hu,bc];simp only[hl,aI];rfl
end
def b5G(e:Edge):Bool:=Region.binds .any e
section
variable{ab:Array Oper}{E':Env}{a:Act}{Jh:A7->Env->List b9->Prop}
def J1(C:Ctx)(σ:List b9)(ab:Array Oper)(o:Oper)(E:Env)(c:CV)(g:Prop):Prop:=
 (o.guard=none/\g/\l8 C σ E o c) \/
 (∃j t av b,o.guard=some (j,av)/\(ab[j]?).bind (·.dst)=some t/\(¬E.ok t->E.un t)/\E.f t= .val (.bool b)/\(g↔(E.ok t/\b=av))/\(E.ok t->b=av->l8 C σ E o c))
def a2A(C:Ctx)(σ:List b9)(ab:Array Oper)(K:Env->Prop):List Oper->Env->Prop
 | [],E=>K E
 |o::l,E=>∃c g,J1 C σ ab o E c g/\a2A C σ ab K l (E.put o.dst c g)
theorem a29{K:Env->Prop}(h:K E):a2A C σ ab K [] E:=h
theorem e3l{K:Env->Prop}(hg:o.guard=none)(hy:l8 C σ E o c)(h:a2A C σ ab K l (E.put o.dst c True)):a2A C σ ab K (o::l) E:=
 ⟨c,True,.inl ⟨hg,J,hy⟩,h⟩
theorem O1{K:Env->Prop}{t:Nat}{b:Bool}(hg:o.guard=some (j,av))(ht:(ab[j]?).bind (·.dst)=some t)(hv:E.ok t)(hb:E.f t= .val (.bool b))
 (hy:b=av->l8 C σ E o c)(h:a2A C σ ab K l (E.put o.dst c (b=av))):a2A C σ ab K (o::l) E:=
 ⟨c,b=av,.inr ⟨j,t,av,b,hg,ht,λh=>absurd hv h,hb,⟨λh=>⟨hv,h⟩,λh=>h.2⟩,λ_=>hy⟩,h⟩
theorem a6x{K:Env->Prop}{t:Nat}{b:Bool}(hg:o.guard=some (j,av))(ht:(ab[j]?).bind (·.dst)=some t)(hv:¬E.ok t->E.un t)(hb:E.f t= .val (.bool b))
 (hy:E.ok t->b=av->l8 C σ E o c)(h:a2A C σ ab K l (E.put o.dst c (E.ok t/\b=av))):a2A C σ ab K (o::l) E:=
 ⟨c,E.ok t/\b=av,.inr ⟨j,t,av,b,hg,ht,hv,hb,Iff.rfl,hy⟩,h⟩
def Env.agree(t:Nat)(E E':Env):Prop:=E.f t=E'.f t/\E.ok t=E'.ok t/\E.un t=E'.un t
theorem b4y{t:Nat}{d:Option Nat}(hd:d≠some t):E.agree t (E.put d c g):=by
 cases d with
 |none=>exact⟨O,O,O⟩
 |some d=>
  have ht:t≠d:=λe=>hd (by rw[e]);unfold Env.agree;simp only[Env.put_f,Env.put_ok,Env.put_un,W ht,and_self]
theorem Env.agree.symm{t:Nat}(h:E.agree t E'):E'.agree t E:=⟨h.1.symm,h.2.1.symm,h.2.2.symm⟩
theorem d2I{d d':Option Nat}{g':Prop}(h:∀t,d=some t->d'≠some t):(E.put d c g).put d' c' g'=(E.put d' c' g').put d c g:=by
 cases d with
 |none=>rfl
 |some d=>
  cases d' with
  |none=>rfl
  |some d'=>
   have ax:¬d=d':=λe=>h d O (by rw[e]);simp only[Env.put,Env.putO]
   congr 1<;>funext t<;>cases h1:Nat.beq t d<;>cases h2:Nat.beq t d'<;>first|rfl|exact absurd ((a3H h1).symm.trans (a3H h2)) ax
theorem c1P{t:Nat}(h:Operand.tmp t∈o.op.operands):t∈o.looksAt ab:=
 b4F _ (List.mem_filterMap.2 ⟨.tmp t,D h,O⟩)
theorem a6v{t:Nat}(hg:o.guard=some (j,av))(ht:(ab[j]?).bind (·.dst)=some t):t∈o.looksAt ab:=by
 unfold Oper.looksAt;rw[hg];exact List.mem_append_right _ (by simp[ht])
theorem a6X(h:∀t∈o.looksAt ab,E.agree t E')(hd:G5 C σ E o K):G5 C σ E' o K:=λM w ρ hr hx=>hd M w ρ hr λx hm hv=>by
 cases x with
 |tmp t=>
  have h1:=h t (c1P hm);show RV M w (E.f t) _;rw[h1.1];exact hx (.tmp t) hm (cast h1.2.1 hv)
 |const v=>exact hx (.const v) hm hv
 |global v=>exact hx (.global v) hm hv
 |func v=>exact hx (.func v) hm hv
theorem a65(h:∀t∈o.looksAt ab,E.agree t E')(hd:J1 C σ ab o E c g):J1 C σ ab o E' c g:=by
 rcases hd with⟨h1,h2,h3⟩|⟨j,t,av,b,hg,ht,h1,h2,h3,h4⟩
 .exact .inl ⟨h1,h2,a6X h h3⟩
 .obtain ⟨a1,a2,a3⟩:=h t (a6v hg ht);refine .inr ⟨j,t,av,b,hg,ht,?_,?_,?_,?_⟩
  .rw [<- a2,<- a3];exact h1
  .rw [<- a1];exact h2
  .rw [<- a2];exact h3
  .rw [<- a2];exact λk1 k2=>a6X h (h4 k1 k2)
def c3c(C:Ctx)(ab:Array Oper)(o:Oper)(E:Env)(σ:List b9)(K:CV->Prop->List b9->Prop)(Kp:CV->List b9->Prop):Prop:=
 ∃j t av b c0,o.guard=some (j,av)/\(ab[j]?).bind (·.dst)=some t/\E.ok t/\E.f t= .val (.bool b)/\(b=av->G5 C σ E o λr aa=>match r with| .ret c=>K c (b=av) aa| .pan c=>Kp c aa)/\(¬b=av->K c0 (b=av) σ)
def b7o(C:Ctx)(ab:Array Oper)(o:Oper)(E:Env)(σ:List b9)(K:CV->Prop->List b9->Prop)(Kp:CV->List b9->Prop):Prop:=
 (o.guard=none/\G5 C σ E o λr aa=>match r with| .ret c=>K c True aa| .pan c=>Kp c aa)\/c3c C ab o E σ K Kp
theorem a3A{K K':CV->Prop->List b9->Prop}{Kp:CV->List b9->Prop}(h:∀t∈o.looksAt ab,E.agree t E')(hk:∀c g σ,K c g σ->K' c g σ)(hd:b7o C ab o E σ K Kp):b7o C ab o E' σ K' Kp:=by
 have go:∀{g:Prop},(G5 C σ E o λr aa=>match r with| .ret c=>K c g aa| .pan c=>Kp c aa)->G5 C σ E' o λr aa=>match r with| .ret c=>K' c g aa| .pan c=>Kp c aa:=λhd=>(a6X h hd).mono λr aa hh=>by
  cases r with
  |ret c=>exact hk _ _ _ hh
  |pan c=>exact hh
 rcases hd with⟨h1,h2⟩|⟨j,t,av,b,c0,hg,ht,h1,h2,h3,h4⟩
 .exact .inl ⟨h1,go h2⟩
 .obtain ⟨a1,a2,-⟩:=h t (a6v hg ht);exact .inr ⟨j,t,av,b,c0,hg,ht,a2▸h1,a1▸h2,λe=>go (h3 e),λe=>hk _ _ _ (h4 e)⟩
theorem b6t{t:Nat}{b:Bool}(hf:I3 M w n E a)(ht:(ab[j]?).bind (·.dst)=some t)(hv:E.ok t)(hb:E.f t= .val (.bool b)):yielded ab a.tmps j=some b:=by
 have h1:=hf.rv t hv;rw[hb]at h1;have h2:a.tmps.getD t undef= .bool b:=by generalize a.tmps.getD t undef=u at h1;cases h1;rfl
 have aK:t<a.tmps.size:=by
  rcases a4x t a.tmps.size with h'|h'
  .exact h'
  .simp [b0q h',undef]at h2
 rw[Z6,a1t aK]at h2;unfold yielded;rw[ht,n_9,a1t aK,show a.tmps[t]= .bool b from h2]
theorem b6c{t:Nat}(hf:I3 M w n E a)(ht:(ab[j]?).bind (·.dst)=some t)(hu:E.un t):yielded ab a.tmps j=none:=by
 have h3:=hf.un t hu;unfold yielded;rw[ht,n_9]
 rcases a4x t a.tmps.size with h'|h'
 .rw [Z6,a1t h']at h3;rw[a1t h',show a.tmps[t]=undef from h3];rfl
 .rw [b0q h']
theorem d6J{R:R8->List b9->Prop}(h:G5 C σ E o R)(hr:Rel C M σ w)(hf:I3 M w n E a){K:Act->World->Prop}{Jh:Exit->Act->World->Prop}(hk:∀c v w' M' aa,Ext M w M' w'->Rel C M' aa w'->RV M' w' c v->R (.ret c) aa->K (a.put o.dst v) w')
 (hp:∀c v w' M' aa,Ext M w M' w'->Rel C M' aa w'->RV M' w' c v->R (.pan c) aa->Jh (.panic [{v,recovered:=false}]) a w'):o.wp C.P a w K Jh:=
 a3L (h M w a.eval hr λ_ _ hx=>hf.eval hr hx) (λv w' ⟨c,aa,M',h1,h2,h3,h4⟩=>hk c v w' M' aa h1 h2 h3 h4) λ_ w' ⟨c,v,aa,M',h0,h1,h2,h3,h4⟩=>h0▸hp c v w' M' aa h1 h2 h3 h4
theorem e2V{K1:CV->Prop->List b9->Prop}{Kp:CV->List b9->Prop}(h:(∃c g,J1 C σ ab o E c g/\K1 c g σ)\/b7o C ab o E σ K1 Kp)(hr:Rel C M σ w)(hf:I3 M w n E a)(hd:∀t,o.dst=some t->t<n){K:Act->World->Prop}{Jh:Exit->Act->World->Prop}(hk:∀c g v w' M' aa,Ext M w M' w'->Rel C M' aa w'->I3 M' w' n (E.put o.dst c g) (a.put o.dst v)->K1 c g aa->K (a.put o.dst v) w')
 (hp:∀c v w' M' aa,Ext M w M' w'->Rel C M' aa w'->RV M' w' c v->Kp c aa->Jh (.panic [{v,recovered:=false}]) a w'):if Region.wanted o (yielded ab a.tmps)=true then o.wp C.P a w K Jh\/(o.asks C.P a w/\LetsOut Jh)else K (a.put o.dst undef) w:=by
 have run:∀{g:Prop},g->(G5 C σ E o λr aa=>match r with| .ret c=>K1 c g aa| .pan c=>Kp c aa)->o.wp C.P a w K Jh:=λhg hd1=>d6J hd1 hr hf (λc v w' M' aa h1 h2 h3 h4=>hk c _ v w' M' aa h1 h2 ((hf.mono h1).put hd (λ_=>h3) λhh=>absurd hg hh) h4) hp;have quiet:∀{c:CV} {g:Prop},g->l8 C σ E o c->K1 c g σ->o.wp C.P a w K Jh:=λhg hy bB=>run hg (hy.mono λr aa hh=>by obtain⟨rfl,rfl⟩:=hh;exact bB);have skip:∀{c:CV} {g:Prop},¬g->K1 c g σ->K (a.put o.dst undef) w:=λhg bB=>hk _ _ _ w M σ (Ext.refl M w) hr (hf.put hd (λhh=>absurd hh hg) λ_=>O) bB;have gw:∀{j t:Nat} {av b:Bool},o.guard=some (j,av)->(ab[j]?).bind (·.dst)=some t->E.ok t->E.f t= .val (.bool b)->Region.wanted o (yielded ab a.tmps)=(b == av):=λ{j t av b} hg ht hv hb=>by
  simp only[Region.wanted,hg,b6t hf ht hv hb];cases b<;>cases av<;>rfl
 rcases h with⟨c,g,⟨hg,hgp,hy⟩|⟨j,t,av,b,hg,ht,bz,hb,hgb,hy⟩,bB⟩|⟨hg,h1⟩|⟨j,t,av,b,c0,hg,ht,hv,hb,h1,h2⟩
 .rw [Q (by simp[Region.wanted,hg])];exact .inl (quiet hgp hy bB)
 .by_cases io:E.ok t
  .rw [gw hg ht io hb];by_cases cP:b=av
   .rw [Q (D cP)];exact .inl (quiet (hgb.2 ⟨io,cP⟩) (hy io cP) bB)
   .rw [W (D cP)];exact skip (λhh=>cP (hgb.1 hh).2) bB
  .rw [W (by simp[Region.wanted,hg,b6c hf ht (bz io)])];exact skip (λhh=>io (hgb.1 hh).1) bB
 .rw [Q (by simp[Region.wanted,hg])];exact .inl (run trivial h1)
 .rw [gw hg ht hv hb];by_cases cP:b=av
  .rw [Q (D cP)];exact .inl (run cP (h1 cP))
  .rw [W (D cP)];exact skip cP (h2 cP)
def CA(C:Ctx)(ab:Array Oper)(Jh:A7->Env->List b9->Prop)(Lf:Array Bool)(B:Env->List b9->Prop)(T:Nat->List b9->Prop):Nat->Array Bool->Env->List b9->Prop
 |0,L,E,σ=>L=Lf/\B E σ
 |f+1,L,E,σ=>Region.ready .any ab L≠[]/\∀i∈Region.ready .any ab L,∃o,ab[i]?=some o /\
  ((∃c g,J1 C σ ab o E c g/\CA C ab Jh Lf B T f (L.setIfInBounds i true) (E.put o.dst c g) σ)\/b7o C ab o E σ (λc g aa=>T i aa/\CA C ab Jh Lf B T f (L.setIfInBounds i true) (E.put o.dst c g) aa) λc aa=>∀E',Jh (.pan c) E' aa)
variable{Lf:Array Bool}{B:Env->List b9->Prop}{T T':Nat->List b9->Prop}
theorem a5H(h:∀j σ,T j σ->T' j σ):∀{f:Nat} {L:Array Bool} {E:Env} {σ:List b9},CA C ab Jh Lf B T f L E σ->CA C ab Jh Lf B T' f L E σ
 |0,_,_,_,hc=>hc
 |f+1,_,_,_,⟨h0,hc⟩=>⟨h0,λi hi=>by
  obtain⟨o,ho,hc⟩:=hc i hi;exact⟨o,ho,hc.imp (λ⟨c,g,h1,h2⟩=>⟨c,g,h1,a5H h h2⟩) (a3A (λ_ _=>⟨O,O,O⟩) λ_ _ _ hh=>⟨h _ _ hh.1,a5H h hh.2⟩)⟩⟩
theorem b5m{M0:z8}{w0:World}{f0:Nat}(hd:∀(i:Nat) (o:Oper),ab[i]?=some o->∀t,o.dst=some t->t<n)(hB:∀E σ M w a,B E σ->Ext M0 w0 M w->Rel C M σ w->I3 M w n E a->wpAny C.P .any ab (Q8 C n Jh M0 w0) f0 Lf a w):∀{f:Nat} {L:Array Bool} {E:Env} {σ:List b9} {M:z8} {w:World} {a:Act},CA C ab Jh Lf B T f L E σ->Ext M0 w0 M w->Rel C M σ w->I3 M w n E a->wpAny C.P .any ab (Q8 C n Jh M0 w0) (f0+f) L a w
 |0,_,E,σ,M,w,a,⟨h1,h2⟩,hx,hr,hf=>by subst h1;exact hB E σ M w a h2 hx hr hf
 |f+1,L,E,σ,M,w,a,⟨h0,hc⟩,hx,hr,hf=>⟨λh=>absurd h h0,λi hi=>by
  obtain⟨o,ho,hc⟩:=hc i hi;unfold wpOp;simp only[ho];refine e2V (K1:=λc g aa=>CA C ab Jh Lf B T f (L.setIfInBounds i true) (E.put o.dst c g) aa) (Kp:=λc aa=>∀E',Jh (.pan c) E' aa) ?_ hr hf (hd i o ho) (λc g v w' M' aa h1 h2 h3 h4=>b5m hd hB h4 (hx.trans h1) h2 h3) (λc v w' M' aa h1 h2 h3 h4=>⟨E,aa,M',hx.trans h1,h2,hf.mono h1,c,v,O,h3,h4 E⟩);exact hc.imp id (a3A (λ_ _=>⟨O,O,O⟩) λ_ _ _ hh=>hh.2)⟩
theorem d6U{L:Array Bool}(h:L.getD k false=true):k<L.size/\L.getD k true=true:=by
 rcases a4x k L.size with h'|h'
 .exact ⟨h',by simpa[h']using h⟩
 .simp [b0q h']at h
theorem c9W{oi:Oper}(Je:Nat->Bool)(F:List b9->Prop)(hoi:ab[i]?=some oi)(hD:∀j o,ab[j]?=some o->Je j=true->∃e∈o.after,b5G e=true/\(e.on=i\/Je e.on=true))(hLf:∀j o,ab[j]?=some o->j≠i->Je j=false->Lf.getD j true=true):
 ∀{f:Nat} {L:Array Bool} {E:Env} {σ:List b9},(∀j,j<L.size->Je j=true->L.getD j true=false)->(∀j o,ab[j]?=some o->j≠i->Je j=false->L.getD j true=false->oi.apart ab o=true)->i∈Region.ready .any ab L->(∀aa,F aa->J1 C aa ab oi E c g)->J1 C σ ab oi E c g ->
  CA C ab Jh Lf B (λj aa=>T j aa/\(Je j=false->F aa)) f (L.setIfInBounds i true) (E.put oi.dst c g) σ->CA C ab Jh Lf B T (f+1) L E σ:=by
 have noD:∀{L:Array Bool} {j:Nat},(∀j,j<L.size->Je j=true->L.getD j true=false)->i∈Region.ready .any ab L->j∈Region.ready .any ab L->Je j=false:=λ{L j} hDL hi hj=>by
  cases hDj:Je j with
  |false=>rfl
  |true=>
   obtain⟨_,o,ho,bk⟩:=mem_ready.1 hj;obtain⟨e,he,hb,hh⟩:=hD j o ho hDj;obtain⟨h1,h2⟩:=d6U (bk e he hb)
   rcases hh with hh|hh
   .rw [hh,(mem_ready.1 hi).1]at h2;cases h2
   .rw [hDL _ h1 hh]at h2;cases h2
 have own:∀{f:Nat} {L:Array Bool} {E:Env} {σ:List b9},J1 C σ ab oi E c g->CA C ab Jh Lf B (λj aa=>T j aa/\(Je j=false->F aa)) f (L.setIfInBounds i true) (E.put oi.dst c g) σ->∃o,ab[i]?=some o /\
  ((∃c g,J1 C σ ab o E c g/\CA C ab Jh Lf B T f (L.setIfInBounds i true) (E.put o.dst c g) σ)\/b7o C ab o E σ (λc g aa=>T i aa/\CA C ab Jh Lf B T f (L.setIfInBounds i true) (E.put o.dst c g) aa) λc aa=>∀E',Jh (.pan c) E' aa):=λh1 h2=>⟨oi,hoi,.inl ⟨c,g,h1,a5H (λ_ _ h=>h.1) h2⟩⟩
 intro f
 induction f with
 |zero=>
  intro L E σ hDL hap hi hF bi hc;refine⟨λh=>(by rw[h]at hi;cases hi),λj hj=>?_⟩;by_cases eM:j=i
  .subst eM;exact own bi hc
  .exfalso;obtain⟨h1,o,ho,_⟩:=mem_ready.1 hj;have h2:=hLf j o ho eM (noD hDL hi hj);rw[<- hc.1,getD_set_ne true (Ne.symm eM),h1]at h2;cases h2
 |succ f ih=>
  intro L E σ hDL hap hi hF bi hc;refine⟨λh=>(by rw[h]at hi;cases hi),λj hj=>?_⟩;by_cases eM:j=i
  .subst eM;exact own bi hc
  .have hDj:=noD hDL hi hj;obtain⟨o,ho,hcj⟩:=hc.2 j (ready_mono hj eM);obtain⟨a1,a2,a3⟩:=Oper.apart_spec (hap j o ho eM hDj (mem_ready.1 hj).1);have ik:∀t∈o.looksAt ab,(E.put oi.dst c g).agree t E:=λt ht=>(b4y λe=>a1 t e ht).symm;have next:∀(c':CV) (g':Prop) (aa:List b9),J1 C aa ab oi E c g->CA C ab Jh Lf B (λj aa=>T j aa/\(Je j=false->F aa)) f ((L.setIfInBounds i true).setIfInBounds j true) ((E.put oi.dst c g).put o.dst c' g') aa->CA C ab Jh Lf B T (f+1) (L.setIfInBounds j true) (E.put o.dst c' g') aa:=λc' g' aa h1 h2=>by
    have fw:∀t∈oi.looksAt ab,E.agree t (E.put o.dst c' g'):=λt ht=>b4y λe=>a3 t e ht;refine ih (λk hk hDk=>?_) (λk ok hk hki hDk hun=>hap k ok hk hki hDk ?_) (ready_mono hi (Ne.symm eM)) (λaa h=>a65 fw (hF aa h)) (a65 fw h1) ?_
    .have hjk:j≠k:=λe=>by rw[e,hDk]at hDj;cases hDj
     rw[getD_set_ne true hjk];exact hDL k (D hk) hDk
    .by_cases hjk:j=k
     .subst hjk;exact(mem_ready.1 hj).1
     .rw [getD_set_ne true hjk]at hun;exact hun
    .rw [Array.setIfInBounds_comm _ _ eM,<- d2I λt e=>a2 t e];exact h2
   refine⟨o,ho,hcj.imp (λ⟨c',g',h1,h2⟩=>⟨c',g',a65 ik h1,next c' g' σ bi h2⟩) (a3A ik λc' g' aa hh=>⟨hh.1.1,next c' g' aa (hF aa (hh.1.2 hDj)) hh.2⟩)⟩
def a1w(L:Array Bool)(l:List Nat):Array Bool:=l.foldl (λL i=>L.setIfInBounds i true) L
def b5R(ab:Array Oper)(ms:List Nat)(Lf L:Array Bool)(i:Nat):Bool:=(Region.ready .any ab L).contains i&& (List.range L.size).all (λj=>!(ms.getD j 0).testBit i || !(L.getD j true))&& (List.range ab.size).all λj=>match ab[j]? with
 |none=>true
 |some o=>match(ms.getD j 0).testBit i with
  |true=>o.after.toList.any λe=>b5G e&& (Nat.beq e.on i ||(ms.getD e.on 0).testBit i)
  |false=>Nat.beq j i ||(Lf.getD j true&& (L.getD j true ||match ab[i]? with
   |some oi=>oi.apart ab o
   |none=>true))
theorem c9u{ms:List Nat}{L:Array Bool}{f:Nat}{oi:Oper}(F:List b9->Prop)(hB:b5R ab ms Lf L i=true)(hoi:ab[i]?=some oi)(hF:∀aa,F aa->J1 C aa ab oi E c g)(bi:J1 C σ ab oi E c g)(h:CA C ab Jh Lf B (λj aa=>T j aa/\((ms.getD j 0).testBit i=false->F aa)) f (L.setIfInBounds i true) (E.put oi.dst c g) σ):CA C ab Jh Lf B T (f+1) L E σ:=by
 simp only[b5R,T5,a6b,List.mem_range]at hB;obtain⟨⟨h1,h2⟩,h3⟩:=hB;have h4:∀j o,ab[j]?=some o->_:=λj o ho=>by
  have:=h3 j (a1a.1 ho).1;rw[ho]at this;exact this
 refine c9W (λj=>(ms.getD j 0).testBit i) F hoi (λj o ho (hD:(ms.getD j 0).testBit i=true)=>?_) (λj o ho eM (hD:(ms.getD j 0).testBit i=false)=>?_) (λj hj (hD:(ms.getD j 0).testBit i=true)=>?_) (λj o ho eM (hD:(ms.getD j 0).testBit i=false) hun=>?_) (D h1) hF bi h
 .have:=h4 j o ho;simp only[hD]at this;obtain⟨e,he,hh⟩:=c3p.1 this;simp only[T5,a80]at hh;exact⟨e,D he,hh.1,hh.2.imp a3H id⟩
 .have:=h4 j o ho;simp only[hD,T5,a80]at this
  rcases this with h|h
  .exact absurd (a3H h) eM
  .exact h.1
 .have:=h2 j hj;rw[hD]at this;simpa using this
 .have:=h4 j o ho;simp only[hD,hoi,T5,a80]at this
  rcases this with h|⟨_,h|h⟩
  .exact absurd (a3H h) eM
  .rw [hun]at h;cases h
  .exact h
def a0V(C:Ctx)(σ:List b9)(ab:Array Oper)(K:Env->List (List b9->Prop)->Prop):List Nat->Env->List (List b9->Prop)->Prop
 | [],E,S=>K E S
 |i::l,E,S=>∃o c g,ab[i]?=some o/\J1 C σ ab o E c g/\a0V C σ ab K l (E.put o.dst c g) (S++[λaa=>J1 C aa ab o E c g])
def a8B(ab:Array Oper)(ms:List Nat)(Lf:Array Bool):List Nat->Array Bool->Bool
 | [],_=>true
 |i::l,L=>b5R ab ms Lf L i&&a8B ab ms Lf l (L.setIfInBounds i true)
def TF(ms:List Nat):List Nat->List (List b9->Prop)->Nat->List b9->Prop
 |i::l,F::S,j,σ=>((ms.getD j 0).testBit i=false->F σ)/\TF ms l S j σ
 |_,_,_,_=>True
theorem a7S{ms:List Nat}{K:Env->List (List b9->Prop)->Prop}{f:Nat}:∀{l:List Nat} {L:Array Bool} {E:Env} {S:List (List b9->Prop)} {T:Nat->List b9->Prop},a8B ab ms Lf l L=true->a0V C σ ab K l E S->(∀E' S',K E' (S++S')->CA C ab Jh Lf B (λj aa=>T j aa/\TF ms l S' j aa) f (a1w L l) E' σ)->CA C ab Jh Lf B T (f+l.length) L E σ
 | [],L,E,S,T,_,h,k=>a5H (λ_ _ h=>h.1) (k E [] (by rw[Z7];exact h))
 |i::l,L,E,S,T,hB,⟨o,c,g,ho,bi,h⟩,k=>by
  rw[a8B,T5]at hB;refine c9u (λaa=>J1 C aa ab o E c g) hB.1 ho (λ_ h=>h) bi (a7S hB.2 h λE' S' hk=>a5H (λj aa hh=>?_) (k E' ((λaa=>J1 C aa ab o E c g)::S') (by rw[H5]at hk;exact hk)));exact⟨⟨hh.1,hh.2.1⟩,hh.2.2⟩
theorem c3i{K:Env->Prop}:∀(l:List Oper) (k:Nat) (E:Env) (S:List (List b9->Prop)),(∀i,i<l.length->l[i]?=ab[k+i]?)->a2A C σ ab K l E->a0V C σ ab (λE' _=>K E') (List.range' k l.length) E S
 | [],_,_,_,_,h=>h
 |o::l,k,E,S,hl,⟨c,g,h1,h2⟩=>⟨o,c,g,(hl 0 (Nat.zero_lt_succ _)).symm,h1,c3i l (k+1) _ _ (λi hi=>by
  have:=hl (i+1) (Nat.succ_lt_succ hi);rw[show k+1+i=k+(i+1) by omega];simpa using this) h2⟩
def d6W(ab:Array Oper):List Nat->Array Bool->Bool
 | [],L=>(Region.ready .any ab L).isEmpty
 |i::l,L=>(match Region.ready .any ab L with
  | [j]=>Nat.beq j i
  |_=>false)&&d6W ab l (L.setIfInBounds i true)
theorem a1M{L:Array Bool}{i:Nat}(h:(match Region.ready .any ab L with
 | [j]=>Nat.beq j i
 |_=>false)=true):Region.ready .any ab L=[i]:=by
 split at h
 .rename_i j hj;rw[hj,a3H h]
 .cases h
theorem b6X{Jh:Exit->Act->World->Prop}:∀(l:List Oper) (k:Nat) (L:Array Bool) (a:Act) (w:World),(∀i,i<l.length->l[i]?=ab[k+i]?)->d6W ab (List.range' k l.length) L=true->wpList C.P ab Jh l a w->wpAny C.P .any ab Jh l.length L a w
 | [],_,L,a,w,_,hB,h=>⟨b8R.1 hB,h⟩
 |o::l,k,L,a,w,hl,hB,h=>by
  rw[D3,List.range'_succ,d6W,T5]at hB;have h1:=a1M hB.1;have ho:ab[k]?=some o:=(hl 0 (Nat.zero_lt_succ _)).symm;have hK:∀a w,wpList C.P ab Jh l a w->wpAny C.P .any ab Jh l.length (L.setIfInBounds k true) a w:=λa w h=>b6X l (k+1) _ a w (λi hi=>by
   have:=hl (i+1) (Nat.succ_lt_succ hi);rw[show k+1+i=k+(i+1) by omega];simpa using this) hB.2 h
  refine⟨λh0=>(by rw[h1]at h0;cases h0),λi hi=>?_⟩;rw[h1,a2T]at hi;subst hi;unfold wpList at h;unfold wpOp;simp only[ho]
  split
  .rename_i hw;rw[Q hw]at h;exact h.imp (Oper.wp_mono hK) id
  .rename_i hw;rw[W hw]at h;exact hK _ _ h
theorem Rel.drew(hr:Rel C M σ w):Rel C M σ {w with drawn:=w.drawn+1}/\Ext M w M {w with drawn:=w.drawn+1}:=by
 have hx:Ext M w M {w with drawn:=w.drawn+1}:=⟨⟨[],U⟩,λ_ h=>h,λ_ _ h=>.inr h,λ_ _=>O,λ_ _ _=>O,n_6 _,T4,O,O,O,λ_ h=>⟨h,O,id,λ_=>id⟩⟩;refine⟨⟨hr.len,hr.blk,λk p ob hk hs=>⟨(hr.obj k p ob hk hs).1.mono hx O (λ_ _ _ _ h=>h),(hr.obj k p ob hk hs).2⟩,hr.inj,λg cells hg=>(hr.glob g cells hg).mono hx,hr.kep,hr.nk⟩,hx⟩
theorem b6y(hd:(ab.toList.all λo=>match o.dst with|some d=>Nat.blt d n|none=>true)=true)(i:Nat)(o:Oper)(ho:ab[i]?=some o)(t:Nat)(ht:o.dst=some t):t<n:=by
 rw[a6b]at hd;have:=hd o (by simpa using b5x ho);rw[ht]at this;simpa[b2q]using this
def L0(ab:Array Oper):Array Bool:=Array.replicate ab.size false
def c5m(ab:Array Oper)(nh:Nat)(ms:List Nat):Bool:=Nat.ble nh ab.size &&a8B ab ms (a1w (L0 ab) (List.range' 0 nh)) (List.range' 0 nh) (L0 ab)&&d6W ab (List.range' nh (ab.size -nh)) (a1w (L0 ab) (List.range' 0 nh))
theorem c8I(nh:Nat)(ms:List Nat)(hB:c5m ab nh ms=true)(hd:(ab.toList.all λo=>match o.dst with|some d=>Nat.blt d n|none=>true)=true)
 (h:a2A C σ ab (λE'=>I6 C n ab Jh (ab.toList.drop nh) E' σ) (ab.toList.take nh) E)(hr:Rel C M σ w)(hf:I3 M w n E a):wpAny C.P .any ab (Q8 C n Jh M w) ab.size (L0 ab) a {w with drawn:=w.drawn+1}:=by
 simp only[c5m,T5]at hB;obtain⟨⟨h1,h2⟩,h3⟩:=hB;have hnh:=nb h1;obtain⟨bl,hx⟩:=hr.drew;have af:(ab.toList.take nh).length=nh:=by simp;omega
 have hld:(ab.toList.drop nh).length=ab.size -nh:=by simp
 have hc:=c3i (S:=[]) _ 0 E (λi hi=>by rw[a2q,Q G,O7,Array.getElem?_toList]) h;rw[af]at hc;have:=b5m (f0:=ab.size -nh) (b6y hd) (λE σ M1 w1 a1 hB bh aI di=>by
  rw[<- hld]at h3⊢;exact b6X _ nh _ a1 w1 (λi hi=>by rw[a6d,Array.getElem?_toList]) h3 (hB.later bh aI di)) (a7S (T:=λ_ _=>True) (f:=0) (B:=λE' aa=>I6 C n ab Jh (ab.toList.drop nh) E' aa) h2 hc λE' S' hk=>⟨O,hk⟩) hx bl (hf.mono hx)
 rw[O7,List.length_range',show ab.size -nh+nh=ab.size by omega]at this;exact this
theorem d6t{id:Nat}(nh:Nat)(ms:List Nat)(hm:C.P.follows .mixedOrders=true)(hB:c5m ab nh ms=true)(hd:(ab.toList.all λo=>match o.dst with|some d=>Nat.blt d n|none=>true)=true)
 (h:a2A C σ ab (λE'=>I6 C n ab Jh (ab.toList.drop nh) E' σ) (ab.toList.take nh) E):CWp C n (.region id ab true) Jh E σ:=λM w a hr hf=>wp_region_any hm (c8I nh ms hB hd h hr hf)
end
def Env.valids(E:Env):List Operand->Prop
 | []=>True
 |x::l=>E.valid x/\E.valids l
def Env.vals(C:Ctx)(E:Env):List Operand->List CV
 | []=>[]
 |x::l=>E.val C x::E.vals C l
theorem Env.valids_mem:∀{l:List Operand},E.valids l->∀x∈l,E.valid x
 | [],_,x,h=>by simp at h
 |y::l,⟨h1,h2⟩,x,h=>by
  rcases J2.1 h with rfl|h
  .exact h1
  .exact Env.valids_mem h2 x h
theorem Env.vals_map:∀(l:List Operand),l.map (E.val C)=E.vals C l
 | []=>rfl
 |x::l=>by simp[Env.vals,Env.vals_map l]
section
theorem e0z(ho:o.op = .call {callee:=.value (.func f),args:=xs,argTypes:=ts})(aA:∀args w,(callFunc f args).run C.P w= .ok (.enter f args) w)
 (hv:E.valids xs.toList)(ea:E.vals C xs.toList=cargs)(h:b8 C f cargs σ λr aa=>r= .ret c/\aa=σ):l8 C σ E o c:=
 b5A ho aA (Env.valids_mem hv) ((Env.vals_map _).trans ea) h
def d8W(C:Ctx)(E:Env)(σ:List b9):ResultVar->CV->Prop
 | .tmp t,c=>E.ok t/\E.f t=c
 | .cell a t,c=>E.ok a/\∃k off cells,E.f a= .ptr k off/\σ[k]?=some (.box cells) /\
  (((∀w,(isAgg t).run C.P w= .ok false w)/\cells[off]?=some c)\/(∃s,(∀w,(isAgg t).run C.P w= .ok true w)/\(∀w,(sizeOf t).run C.P w= .ok s w)/\off+s<=cells.length/\c= .agg ((cells.drop off).take s)))
def c2b(C:Ctx)(E:Env)(σ:List b9):List ResultVar->List CV->Prop
 | [],[]=>True
 |r::rs,c::cs=>d8W C E σ r c/\c2b C E σ rs cs
 |_,_=>False
theorem b57(hr:Rel C M σ w){u:Value}(hu:RV M w (.ptr k off) u)(hk:σ[k]?=some (.box cells))
 (h:((∀w,(isAgg t).run C.P w= .ok false w)/\cells[off]?=some c)\/(∃s,(∀w,(isAgg t).run C.P w= .ok true w)/\(∀w,(sizeOf t).run C.P w= .ok s w)/\off+s<=cells.length/\c= .agg ((cells.drop off).take s))):
 ∃a v,u= .pointer (some a)/\(loadVar t a).run C.P w= .ok v w/\RV M w c v:=by
 cases hu with
 |ptr hp=>
  rename_i p
  rcases h with⟨ha,hc⟩|⟨s,ha,hs,hl,rfl⟩
  .obtain ⟨v,hv,aZ,_⟩:=b9Y hr hp hk hc;exact⟨_,v,O,by simp[loadVar,ha,hv],aZ⟩
  .obtain ⟨arr,ty,h1,h2,h3,h4⟩:=(hr.obj k p _ hp hk).1;have aS:∀j,j<s->w.cell? ⟨p.block,off+j,none⟩=some (arr.getD (off+j) undef):=λj hj=>by
    have:off+j<arr.size:=by omega
    simp[World.cell?,h1,this]
   refine⟨_,.agg ((List.range s).map λj=>arr.getD (off+j) undef).toArray,O,by simp[loadVar,ha,hs,R6 (P:=C.P) (w:=w) _ s aS],.agg H6 (λc hc=>h3 c (b14 (a8P hc))) (λi c hi=>?_)⟩;have bf:i<s:=by
    have:=(n_2.1 hi).1;simp at this;omega
   rw[a2q,Q bf,a6d]at hi;have:=h4 (off+i) c hi;simpa[bf]using this
def a5c(tmps:Array Value):ResultVar->Sem Value:=λ
 | .tmp t=>pure (tmps.getD t undef)
 | .cell a t=>do loadVar t (<- asAddr (tmps.getD a undef))
theorem b5h{M:z8}{w:World}(hr:Rel C M σ w){tmps:Array Value}(h:∀t,E.ok t->RV M w (E.f t) (tmps.getD t undef)):∀(rs:List ResultVar) (cs:List CV),c2b C E σ rs cs ->
 ∃vs:List Value,(rs.mapM (a5c tmps)).run C.P w= .ok vs w/\vs.length=cs.length/\∀(i:Nat) (c:CV),cs[i]?=some c->RV M w c (vs.getD i undef)
 | [],[],_=>⟨[],U,O,U⟩
 |r::rs,c::cs,⟨h1,h2⟩=>by
  obtain⟨vs,hv,hl,aZ⟩:=b5h hr h rs cs h2;have:∃v,(a5c tmps r).run C.P w= .ok v w/\RV M w c v:=by
   cases r with
   |tmp t=>
    obtain⟨ho,hc⟩:=h1;exact⟨_,by simp[a5c],hc▸h t ho⟩
   |cell a t=>
    obtain⟨ho,k,off,cells,he,hk,hc⟩:=h1;have hu:=h a ho;rw[he]at hu;obtain⟨ad,v,e1,e2,e3⟩:=b57 hr hu hk hc;exact⟨v,by simp only[a5c,e1,asAddr,Sem.run_bind,Sem.run_pure,Result.andThen_ok,e2],e3⟩
  obtain⟨v,dX,db⟩:=this;refine⟨v::vs,by simp[List.mapM_cons,dX,hv],by simp[hl],λi c' hi=>?_⟩
  rcases i with _|i
  .simp at hi;subst hi;exact db
  .exact aZ i c' (D hi)
 | [],_::_,h=>h.elim
 |_::_,[],h=>h.elim
theorem r8{fn:Func}{rs:List ResultVar}(ba:fn.results=rs.toArray)(h:c2b C E σ rs cs)(hn:cs.length≠1):W6 C E σ fn (.tup cs):=λM w a hr hh=>by
 obtain⟨vs,h1,h2,h3⟩:=b5h (C:=C) hr hh rs cs h;refine⟨.tuple vs.toArray,?_,.tup (by simp[h2]) (λi c hi=>by simpa using h3 i c hi)⟩;have:(results fn a.tmps).run C.P w=((rs.toArray.mapM (a5c a.tmps)).run C.P w).andThen λvs w=>.ok (if h:vs.size=1 then vs[0]else .tuple vs) w:=by
  unfold results;rw[ba,Sem.run_bind];rfl
 rw[this,List.mapM_toArray,Sem.run_map,h1];simp only[Result.andThen_ok];rw[dif_neg H6]
theorem B1{fn:Func}{r:ResultVar}(ba:fn.results = #[r])(h:d8W C E σ r c):W6 C E σ fn c:=λM w a hr hh=>by
 obtain⟨vs,h1,h2,h3⟩:=b5h (C:=C) hr hh [r] [c] ⟨h,J⟩;obtain⟨v,rfl⟩:∃v,vs=[v]:=by
  match vs,h2 with
  | [v],_=>exact⟨v,O⟩
 refine⟨v,?_,by simpa using h3 0 c O⟩;have:(results fn a.tmps).run C.P w=((#[r].mapM (a5c a.tmps)).run C.P w).andThen λvs w=>.ok (if h:vs.size=1 then vs[0]else .tuple vs) w:=by
  unfold results;rw[ba,Sem.run_bind];rfl
 have e:(#[r].mapM (a5c a.tmps))=([r].toArray.mapM (a5c a.tmps)):=O;rw[this,e,List.mapM_toArray,Sem.run_map,h1];simp
def z8.settle(M:z8)(b:Nat):z8:={M with full:=λx=>M.full x\/x=b}
theorem Rel.allocFull(hr:Rel C M σ w)(ob:Obj):Ext M w (M.settle w.heap.size) (w.alloc ob)/\Rel C (M.settle w.heap.size) σ (w.alloc ob):=by
 have hx:Ext M w (M.settle w.heap.size) (w.alloc ob):=⟨⟨[],by simp[z8.settle]⟩,λ_ h=>.inl h,λ_ _ h=>.inr h,λb h=>K4 w ob (hr.blk b 0 (.inl h)),λb o' h=>M5 (K4 w ob (hr.blk b o' (.inr h))),by rw[b9s];omega,T4,O,O,O,λb h=>⟨h,K4 w ob (hr.kep b h),λf=>(by
  rcases f with f|f
  .exact f
  .have:=hr.kep b h;omega),λ_ f=>f⟩⟩
 refine⟨hx,hr.len,λb o' ha=>?_,λk p x hk hs=>?_,hr.inj,λg cells hg=>(hr.glob g cells hg).mono hx,λb h=>(by rw[b9s];have:=hr.kep b h;omega),hr.nk⟩
 .rw [b9s]
  rcases ha with(ha|ha)|ha
  .have:=hr.blk b o' (.inl ha);omega
  .omega
  .have:=hr.blk b o' (.inr ha);omega
 .obtain ⟨h1,h2⟩:=hr.obj k p x hk hs;by_cases hl:x.live=true
  .have af:=h1.lt hl;refine⟨h1.mono hx (K4 w ob af) (λ_ _ _ _ h=>h),?_⟩;have hf:¬M.full p.block->¬(M.settle w.heap.size).full p.block:=λh h'=>by
    rcases h' with h'|h'
    .exact h h'
    .omega
   cases x<;>first|trivial|exact hf h2|exact⟨hf h2.1,h2.2⟩
  .cases x<;>first|exact⟨J,J⟩|simp[b9.live]at hl
def a5o(place:Nat->Option (Nat×Nat))(cells:List CV):List (Nat×CV)->Option (List CV)
 | []=>some cells
 |(i,c)::rest=>
  match place i with
  |none=>none
  |some (off,size)=>if c.cells.length=size/\off+size<=cells.length then a5o place (P4 cells off c.cells) rest else none
theorem a8Z{M:z8}{w:World}{place:Nat->Option (Nat×Nat)}:∀(ps:List (Nat×CV)) (qs:List (Nat×Value)) (cells:List CV) (arr:Array Value) (out:List CV),
 a5o place cells ps=some out->ps.map (·.1)=qs.map (·.1)->(∀(i:Nat) (x:Nat×CV) (y:Nat×Value),ps[i]?=some x->qs[i]?=some y->RV M w x.2 y.2/\(x.2.one=true\/∃cs,x.2 = .agg cs)) ->
 arr.size=cells.length->(∀c∈cells,c.one=true)->(∀(i:Nat) (c:CV),cells[i]?=some c->RV M w c (arr.getD i undef)) ->
 ∃r,Instr.fill place arr qs=some r/\RV M w (.agg out) (.agg r)
 | [],[],cells,arr,out,h,_,_,h2,h3,h4=>by
  simp only[a5o,Option.some.injEq]at h;subst h;exact⟨arr,O,.agg h2 h3 h4⟩
 | [],q::qs,_,_,_,_,h,_,_,_,_=>by simp at h
 |p::ps,[],_,_,_,_,h,_,_,_,_=>by simp at h
 |(i,c)::ps,(i',v)::qs,cells,arr,out,h,hm,aZ,h2,h3,h4=>by
  simp only[a8C,List.cons.injEq]at hm;obtain⟨rfl,hm⟩:=hm;simp only[a5o]at h;cases hp:place i with
  |none=>rw[hp]at h;cases h
  |some x=>
   obtain⟨off,size⟩:=x;rw[hp]at h;simp only at h;split at h
   .rename_i hc;obtain⟨cz,dM⟩:=hc;obtain⟨hv,aN⟩:=aZ 0 (i,c) (i,v) O O;obtain⟨g1,g2,g3⟩:=hv.cells aN;have g1:v.cells.size=c.cells.length:=g1;have aK:off+c.cells.length<=cells.length:=by omega
    have il:(v.cells.zipIdx.foldl (λcs (x:Value×Nat)=>cs.setIfInBounds (off+x.2) x.1) arr)=D4 arr off v.cells.toList:=by
     rw[<- Array.foldl_toList,Array.toList_zipIdx,a5d];rfl
    have ih:=a8Z ps qs (P4 cells off c.cells) (D4 arr off v.cells.toList) out h hm (λj x y hx hy=>aZ (j+1) x y (D hx) (D hy)) (by rw[I9,a0A aK,h2])
     (λc' bx=>by
      rcases a2w bx with h'|h'
      .exact g2 _ h'
      .exact h3 _ h')
     (λj c' hj=>by
      rw[L7 _ _ _ _ H6];rw[a2L aK]at hj;simp only[b0d,g1];split at hj
      .rename_i bO;rw[Q bO];have:=g3 _ _ hj;simpa using this
      .rename_i bO;rw[W bO];exact h4 _ _ hj)
    obtain⟨r,aI,aW⟩:=ih;refine⟨r,?_,aW⟩;simp only[Instr.fill,hp];rw[W H6];exact(n_7 (λz=>Instr.fill place z qs) il).trans aI
   .cases h
theorem a4J{α:Type}{s:Nat}:∀(Y:List (List α)),(∀r∈Y,r.length=s)->∀(i j:Nat) (r:List α) (c:α),Y[i]?=some r->r[j]?=some c->Y.flatten[i*s+j]?=some c
 | [],_,i,j,r,c,h,_=>by simp at h
 |r0::Y,hs,i,j,r,c,hi,hj=>by
  have h0:=hs r0 U;rw[List.flatten_cons,a6O]
  rcases i with _|i
  .simp at hi;subst hi;have:=(n_2.1 hj).1;rw[Q G];simpa using hj
  .simp at hi;have hr:=hs r (by simp[n_3 hi]);have af:=(n_2.1 hj).1;rw[W (by rw[h0,Q1];omega)];have:=a4J Y (λr hr=>hs r (by simp[hr])) i j r c hi hj;rw[h0,show(i+1)*s+j-s=i*s+j from by rw[Q1];omega];exact this
theorem flat_len{α:Type}{s:Nat}:∀(Y:List (List α)),(∀r∈Y,r.length=s)->Y.flatten.length=Y.length*s
 | [],_=>by simp
 |r0::Y,hs=>by
  have h0:=hs r0 U;rw[List.flatten_cons,n_8,flat_len Y (λr hr=>hs r (by simp[hr])),h0,D3,Q1];omega
theorem b5K{len:Nat}(ho:o.op = .buildSlice t len parts)(hv:E.valids (parts.toList.map (·.2)))
 (hu:∀w,(underlying t).run C.P w= .ok (.slice e) w)(hs:∀w,(sizeOf e).run C.P w= .ok s w)(hz:∀w,(zeroValue e).run C.P w= .ok z w)(bR:L2 z=true)(cX:(I0 z).one=true\/∃cs,I0 z= .agg cs)(gb:(I0 z).cells.length=s)(eZ:0<s)
 (aj:len*s<=2^24)(ep:parts.toList.map (λx=>(x.1,E.val C x.2))=ps)(aN:∀x∈ps,x.2.one=true\/∃cs,x.2 = .agg cs)
 (bG:a5o (λi=>some (i*s,s)) ((List.range (len*s)).map λi=>(I0 z).cells.getD (i%s) default) ps=some Y.flatten)(cQ:Y.length=len)(ba:∀r∈Y,r.length=s):l8 C σ E o (.list Y true none):=λM w ρ hr h=>by
 have ga:RV M w (I0 z) z:=a0y bR;obtain⟨g1,g2,g3⟩:=ga.cells cX;have bN:∀x∈parts.toList,x.2∈o.op.operands:=λx hx=>by
  rw[ho];simp only[Op.operands,List.mem_toArray,D6];exact⟨x,hx,O⟩
 have bP:=Env.valids_mem hv;obtain⟨r,aI,aW⟩:=a8Z (M:=M) (w:=w) ps (parts.toList.map λx=>(x.1,ρ x.2)) ((List.range (len*s)).map λi=>(I0 z).cells.getD (i%s) default) ((Array.range (len*s)).map (z.cells[·%z.cells.size]!)) Y.flatten bG (by simp[<- ep]) (λi x y hx hy=>by
  refine⟨?_,aN x (n_3 hx)⟩;subst ep;simp only[O2,Q3]at hx hy;obtain⟨a,ha,rfl⟩:=hx;obtain⟨a',cL,rfl⟩:=hy;have:a=a':=by rw[ha]at cL;injection cL
  subst this;have hm:=n_3 ha;exact h _ (bN _ hm) (bP _ (D6.2 ⟨_,hm,O⟩))) U (λc hc=>by
   obtain⟨i,_,rfl⟩:=D6.1 hc;have af:i%s< (I0 z).cells.length:=by rw[gb];exact a6i _ eZ
   rw[a7V,a1r af];exact g2 _ (b3z af)) (λi c hi=>by
   rw[O2,Q3]at hi;obtain⟨i',bf,rfl⟩:=hi;have bt:=(n_2.1 bf).1;simp at bt;rw[List.getElem?_range bt]at bf;injection bf with bf
   subst bf;have af:i%s< (I0 z).cells.length:=by rw[gb];exact a6i _ eZ
   have gS:i%s<z.cells.size:=by rw[g1];exact af
   have:=g3 (i%s) _ (a1r af);have e1:(I0 z).cells.getD (i%s) default=(I0 z).cells[i%s]:=by
    rw[a7V,a1r af];rfl
   rw[e1];have e2:((Array.range (len*s)).map (z.cells[·%z.cells.size]!)).getD i undef=z.cells.getD (i%s) undef:=by
    have bn:z.cells.size=s:=by rw[g1,gb]
    have hms:i%s<s:=a6i _ eZ;simp[bt,bn,hms]
   rw[e2];exact this)
 cases aW with
 |agg q1 q2 q3=>
  obtain⟨hx,fe⟩:=hr.allocFull (.cells r e);have au:(execOp ρ o).run C.P w= .ok (.value (.slice (some ⟨w.heap.size,0,none⟩) len len)) (w.alloc (.cells r e)):=by
   have hl:(parts.map λx=>(x.1,ρ x.2)).toList=parts.toList.map λx=>(x.1,ρ x.2):=by simp
   simp only[execOp,ho,Instr.buildSlice,Sem.run_bind,hu,Result.andThen_ok,hs];rw[W G];simp only[hl];by_cases fZ:len*s=0
   .have er:Array.range 0= #[]:=O;rw[fZ,er]at aI;simp only[List.map_toArray,List.map_nil]at aI;simp[fZ,er,aI,newRow]
   .simp [fZ,hz,aI,newRow]
  rw[au];have bj:Y.length<=maxLen:=by
   have:len<=len*s:=Nat.le_mul_of_pos_right _ eZ;unfold maxLen;omega
  refine⟨.list Y true none,σ,_,hx,fe,?_,O,O⟩;rw[<- cQ];have hflen:=flat_len Y ba;refine .list (b:=w.heap.size) (off:=0) (s:=s) (λi j=>r.getD (i*s+j) undef) (n_6 _) bj O (λh=>by cases h) Y1 ba (λr0 bH c hc=>q2 c (List.mem_flatten.2 ⟨r0,bH,hc⟩)) (λi j r0 c hi hj=>?_) (λi j r0 c hi hj=>?_) (λk hk=>by cases hk)
  .have hf:=a4J Y ba i j r0 c hi hj;have af:=(n_2.1 hf).1;have bt:i*s+j<r.size:=by omega
   refine⟨.inl (.inr O),?_⟩;rw[O7,World.cell?_alloc_new];simp[bt]
  .exact (q3 _ _ (a4J Y ba i j r0 c hi hj)).mono hx
def a16(C:Ctx)(E:Env)(x:Option Operand)(d:Nat)(n:Nat):Prop:=
 match x with
 |none=>d=n
 |some x=>E.valid x/\∃k i,E.val C x= .val (.int k i)/\0<=i/\i.toNat=n
theorem b6A{lo hi:Option Operand}{tok:Option Nat}{l h:Nat}(ho:o.op = .slice t x lo hi none)(hx:E.valid x)(ex:E.val C x= .list Y nn tok)
 (hu:∀w,(underlying t).run C.P w= .ok (.slice e) w)(hs:∀w,(sizeOf e).run C.P w= .ok s w)(ba:∀r∈Y,r.length=s)(hM:a16 C E lo 0 l)(iq:a16 C E hi Y.length h)(h1:l<=h)(h2:h<=Y.length):l8 C σ E o (.list ((Y.take h).drop l) nn none):=
 i8 λM w ρ hr hh=>by
  have ay:=hh x u0 hx;rw[ex]at ay;obtain⟨a,cap,b,off,s',vals,hv,bj,aQ,dY,eN,ha,cQ,aN,hc,aZ,_⟩:=ay.list_inv;have ir:∀v,lo=some v->∃k i,ρ v= .int k i/\0<=i/\i.toNat=l:=λv hv=>by
   subst hv;obtain⟨bP,k,i,he,h0,hi⟩:=hM;have:=hh v u0 bP;rw[he]at this;exact⟨k,i,p8 this,h0,hi⟩
  have fI:∀v,hi=some v->∃k i,ρ v= .int k i/\0<=i/\i.toNat=h:=λv hv=>by
   subst hv;obtain⟨bP,k,i,he,h0,hi⟩:=iq;have:=hh v u0 bP;rw[he]at this;exact⟨k,i,p8 this,h0,hi⟩
  have hb:(Instr.sliceBounds true Y.length cap (lo.map ρ) (hi.map ρ) none).run C.P w= .ok (l,h,cap) w:=by
   have da:(l:Int)<=h:=by omega
   have hh2:(h:Int)<=cap:=by omega
   cases lo with
   |none=>
    have:l=0:=by simpa[a16]using hM.symm
    subst this;cases hi with
    |none=>
     have:h=Y.length:=by simpa[a16]using iq.symm
     subst this;simp[Instr.sliceBounds]
    |some v=>
     obtain⟨k,i,he,h0,hi⟩:=fI v O;have:i<=(cap:Int):=by omega
     simp[Instr.sliceBounds,Instr.sliceBound,he,asIntOf,h0,this,hi]
   |some u=>
    obtain⟨k',i',fJ,iu,bf⟩:=ir u O;have aM:i'<=(h:Int):=by omega
    cases hi with
    |none=>
     have:h=Y.length:=by simpa[a16]using iq.symm
     subst this;simp[Instr.sliceBounds,Instr.sliceBound,fJ,asIntOf,iu,aM,bf]
    |some v=>
     obtain⟨k,i,he,h0,hi⟩:=fI v O;have bx:i<=(cap:Int):=by omega
     simp[Instr.sliceBounds,Instr.sliceBound,he,fJ,asIntOf,h0,iu,bx,hi,aM,bf]
  have au:(execOp ρ o).run C.P w= .ok (.value (.slice (if cap=l then a else a.map (·.add (l*s))) (h-l) (cap-l))) w:=by
   simp[execOp,ho,Instr.sliceAt,Instr.slice,hu,hv,hb,hs]
  have aj:((Y.take h).drop l).length=h-l:=by simp;omega
  refine⟨_,au,?_⟩;rw[<- aj];have aq:∀i r,((Y.take h).drop l)[i]?=some r->Y[l+i]?=some r:=λi r hi=>by
   rw[a6d,a2q]at hi;split at hi
   .exact hi
   .cases hi
  refine .list (b:=b) (off:=off+l*s) (s:=s) (λi j=>vals (l+i) j) (by rw[aj];omega) G ?_ (λh0=>by have:=eN h0;omega) (λax=>?_) (λr hr=>ba r (a8P (b14 hr))) (λr hr c hc=>aN r (a8P (b14 hr)) c hc) (λi j r c hi hj=>?_) (λi j r c hi hj=>aZ _ _ _ _ (aq i r hi) hj) (λk hk=>by cases hk)
  .split
   .exact dY
   .rw [Option.isSome_map];exact dY
  .have iw:Y≠[]:=by rintro rfl;simp at ax
   have af:l<h:=by
    rcases a4x l h with h'|h'
    .exact h'
    .exact absurd (c1p (by rw[aj];omega)) ax
   rw[W G,ha iw];simp[U0]
  .have bf:=aq i r hi;have hss:s'=s:=by
    have hm:=n_3 bf;rw[<- cQ r hm,ba r hm]
   subst hss;have:=hc _ _ _ _ bf hj;rw[show off+l*s'+i*s'+j=off+(l+i)*s'+j from by rw[Q1];omega];exact this
end
def Src(C:Ctx)(M:z8)(w:World)(Y:List (List CV))(s:Nat)(v:Value):Prop:=
 ∃a c,v= .slice a Y.length c/\Y.length<=c/\(∀r∈Y,r.length=s) /\
  ∃arr:Array Value,(Builtin.firstCells s Y.length v).run C.P w= .ok arr w/\arr.size=Y.length*s /\
   ∀(i j:Nat) (r:List CV) (c:CV),Y[i]?=some r->r[j]?=some c->RV M w c (arr.getD (i*s+j) undef)/\c.one=true
theorem c1Z(hj:j<s):(i*s+j) / s=i/\(i*s+j)%s=j:=by
 have hs:0<s:=by omega
 refine⟨?_,?_⟩
 .rw [Nat.add_comm,Nat.add_mul_div_right _ _ hs,Nat.div_eq_of_lt hj,O7]
 .rw [Nat.add_comm,Nat.add_mul_mod_self_right,b3B hj]
theorem Src.one(ba:∀r∈Y,r.length=s)(aK:arr.size=Y.length*s)
 (h:∀(i j:Nat) (r:List CV) (c:CV),Y[i]?=some r->r[j]?=some c->RV M w c (arr.getD (i*s+j) undef)/\c.one=true):∀u∈arr.toList,u.oneCell'=true:=by
 intro u hu;obtain⟨q,hq,rfl⟩:=List.mem_iff_getElem.1 hu;have eL:q<Y.length*s:=by simpa[aK]using hq
 have hs:0<s:=by
  rcases b9a s with h0|h0
  .subst h0;simp at eL
  .exact h0
 have hi:q / s<Y.length:=Nat.div_lt_of_lt_mul (by rwa[b3E]at eL);have hj:q%s<s:=a6i _ hs;have hr:Y[q / s]?=some Y[q / s]:=by simp[hi]
 have bS:q%s< (Y[q / s]).length:=by rw[ba _ (b3z hi)];exact hj
 obtain⟨h1,h2⟩:=h (q / s) (q%s) _ _ hr (a1r bS);have hqq:q / s*s+q%s=q:=by rw[b3E];exact Nat.div_add_mod q s
 rw[hqq]at h1;have:=h1.one h2;have iy:q<arr.size:=by omega
 simpa[iy]using this
section
theorem a8g(f:Nat->Nat->Value)(h:∀i j,i<n->j<s->w.cell? ⟨b,off+i*s+j,none⟩=some (f i j)):
 (loadCells ⟨b,off,none⟩ (n*s)).run C.P w= .ok ((List.range (n*s)).map λq=>f (q / s) (q%s)).toArray w:=
 R6 (λq=>f (q / s) (q%s)) (n*s) λq hq=>by
  have hs:0<s:=by
   rcases b9a s with h0|h0
   .subst h0;simp at hq
   .exact h0
  have:=h (q / s) (q%s) (Nat.div_lt_of_lt_mul (by rwa[b3E]at hq)) (a6i _ hs);rwa[b2z,show q / s*s+q%s=q from by rw[b3E];exact Nat.div_add_mod q s]at this
theorem a1f{tok:Option Nat}(h:RV M w (.list Y nn tok) v)(ba:∀r∈Y,r.length=s):Src C M w Y s v:=by
 obtain⟨a,cap,b,off,s',vals,rfl,bj,aQ,dY,eN,ha,cQ,aN,hc,aZ,_⟩:=h.list_inv;refine⟨a,cap,O,bj,ba,?_⟩
 rcases Y with _|⟨r0,Y⟩
 .refine ⟨#[],?_,U,U⟩;cases a with
  |none=>simp[Builtin.firstCells]
  |some a=>simp[Builtin.firstCells,loadCells,loadCellsFrom]
 .have hss:s'=s:=by rw[<- cQ r0 U,ba r0 U]
  subst hss;rw[ha U];generalize eO:r0::Y=rs at*;have aS:∀i j,i<rs.length->j<s'->w.cell? ⟨b,off+i*s'+j,none⟩=some (vals i j):=λi j hi hj=>by
   have hr:rs[i]?=some rs[i]:=by simp[hi]
   have hl:j<rs[i].length:=by rw[ba _ (b3z hi)];exact hj
   exact(hc i j _ _ hr (a1r hl)).2
  refine⟨_,by simp only[Builtin.firstCells];exact a8g vals aS,U,λi j r c hi hj=>⟨?_,aN r (n_3 hi) c (n_3 hj)⟩⟩;have bo:=(n_2.1 hi).1;have bS:j<s':=by have:=(n_2.1 hj).1;rwa[ba r (n_3 hi)]at this
  have hq:i*s'+j<rs.length*s':=by
   have:(i+1)*s'<=rs.length*s':=S7 _ bo;rw[Q1]at this;omega
  obtain⟨e1,e2⟩:=c1Z (i:=i) bS;have:((List.range (rs.length*s')).map λq=>vals (q / s') (q%s')).toArray.getD (i*s'+j) undef=vals i j:=by simp[hq,e1,e2]
  rw[this];exact aZ i j r c hi hj
theorem a3W{len:Nat}(hr:Rel C M σ w)(h:RV M w (.vec k off len) v)(hk:σ[k]?=some (.vec s Y))(hl:off+len<=Y.length):Src C M w ((Y.drop off).take len) s v:=by
 cases h with
 |vec hp h1 h2 h3=>
  rename_i p a;obtain⟨⟨rfl,q1,q2,q3,q4,arr,ty,q5,q6,q7⟩,_⟩:=hr.obj k p _ hp hk;have aj:((Y.drop off).take len).length=len:=by simp;omega
  refine⟨some a,p.cap -off,by rw[aj],by rw[aj];omega,λr hr=>q3 r (b14 (a8P hr)),?_⟩;rw[aj];have aq:∀i r,((Y.drop off).take len)[i]?=some r->i<len/\Y[off+i]?=some r:=λi r hi=>by
   rw[a2q]at hi;split at hi
   .rw [a6d]at hi;exact⟨‹_›,hi⟩
   .cases hi
  rcases b9a len with h0|h0
  .subst h0;exact⟨#[],by simp[Builtin.firstCells,loadCells,loadCellsFrom],U,λi j r c hi _=>by have:=(aq i r hi).1;omega⟩
  .rw [h3 G];have aS:∀i j,i<len->j<p.size->w.cell? ⟨p.block,off*p.size+i*p.size+j,none⟩=some (arr.getD ((off+i)*p.size+j) undef):=λi j hi hj=>by
    have hq:(off+i)*p.size+j<arr.size:=by
     rw[q6];have:(off+i+1)*p.size<=p.cap*p.size:=S7 _ G;rw[Q1 (off+i)]at this;omega
    rw[show off*p.size+i*p.size+j=(off+i)*p.size+j from by rw[Q1 off]];simp[World.cell?,q5,hq]
   refine⟨_,by simp only[Builtin.firstCells];exact a8g _ aS,U,λi j r c hi hj=>?_⟩;obtain⟨bo,bf⟩:=aq i r hi;have bN:=n_3 bf;refine⟨?_,q4 r bN c (n_3 hj)⟩;have bS:j<p.size:=by have:=(n_2.1 hj).1;rwa[q3 r bN]at this
   have hq:i*p.size+j<len*p.size:=by
    have:(i+1)*p.size<=len*p.size:=S7 _ bo;rw[Q1]at this;omega
   obtain⟨e1,e2⟩:=c1Z (i:=i) bS;have:((List.range (len*p.size)).map λq=>arr.getD ((off+q / p.size)*p.size+q%p.size) undef).toArray.getD (i*p.size+j) undef=arr.getD ((off+i)*p.size+j) undef:=by simp[hq,e1,e2]
   rw[this];exact q7 _ _ _ _ bf hj
def J7(Y:List (List CV))(p:Nat)(new:List (List CV)):List (List CV):=Y.take p++(new++Y.drop (p+new.length))
theorem b7p{p:Nat}(hp:p<=Y.length)(i:Nat):
 (J7 Y p new)[i]?=if p<=i/\i<p+new.length then new[i-p]? else Y[i]?:=by
 unfold J7;rw[a6O];simp only[a7Y,Nat.min_eq_left hp]
 split
 .rename_i h1;rw[W G,a2q,Q h1]
 .rename_i h1;rw[a6O]
  split
  .rename_i h2;rw[Q G]
  .rename_i h2;rw[W G,a6d]
   congr 1;omega
theorem a9O{p:Nat}(h:r∈J7 Y p new):r∈new\/r∈Y:=by
 simp only[J7,T9]at h
 rcases h with h|h|h
 .exact .inr (a8P h)
 .exact .inl h
 .exact .inr (b14 h)
theorem b1W{p:Nat}(hp:p<=Y.length):(J7 Y p new).length=max Y.length (p+new.length):=by
 simp[J7];omega
theorem a3T(hr:Rel C M σ w){p:Nat}{q:Pl}(hq:M.pl[k]?=some q)(hk:σ[k]?=some (.vec s Y))(hp:p<=Y.length)(hpc:p+new.length<=q.cap)(bY:∀r∈new,r.length=s)(aK:arr.size=new.length*s)
 (aZ:∀(i j:Nat) (r:List CV) (c:CV),new[i]?=some r->r[j]?=some c->RV M w c (arr.getD (i*s+j) undef)/\c.one=true):
 ∃w',(storeCells ⟨q.block,p*s,none⟩ arr.toList).run C.P w= .ok () w'/\Ext M w M w'/\Rel C M (σ.set k (.vec s (J7 Y p new))) w':=by
 obtain⟨⟨rfl,q1,q2,q3,q4,aD,ty,q5,q6,q7⟩,hf,hc⟩:=hr.obj k q _ hq hk;have dD:p*q.size+arr.toList.length<=aD.size:=by
  rw[b0d,aK,q6,<- Q1];exact S7 _ hpc
 have au:=O9 (P:=C.P) (b:=q.block) (off:=p*q.size) (t:=ty) arr.toList 0 aD w q5 G (Src.one bY aK aZ);rw[a85]at au;have hx:=Ext.putObj (w:=w) (.cells (D4 aD (p*q.size) arr.toList) ty (0,0)) (hr.nk k q _ hq hk O) hf hc;have hb:q.block <w.heap.size:=(a1a.1 q5).1;refine⟨_,au,hx,hr.putObj (ob:=.vec q.size (J7 Y p new)) hq hk O hf hc _ ⟨O,by rw[b1W hp];omega,q2,λr hr=>?_,λr hr c hc=>?_,_,ty,World.putObj_same w _ hb,by rw[I9,q6],λi j r c hi hj=>?_⟩⟩
 .rcases a9O hr with h|h
  .exact bY r h
  .exact q3 r h
 .rcases a9O hr with h|h
  .obtain ⟨i,hi⟩:=K5.1 h;obtain⟨j,hj⟩:=K5.1 hc;exact(aZ i j r c hi hj).2
  .exact q4 r h c hc
 .rw [L7 _ _ _ _ dD];rw[b7p hp]at hi;have cQ:r.length=q.size:=by
   split at hi
   .exact bY r (n_3 hi)
   .exact q3 r (n_3 hi)
  have bS:j<q.size:=by have:=(n_2.1 hj).1;omega
  simp only[b0d,aK];split at hi
  .rename_i bO;have cK:i-p<new.length:=by omega
   have e1:p*q.size<=i*q.size:=S7 _ bO.1;have e2:(i-p)*q.size=i*q.size -p*q.size:=Nat.sub_mul _ _ _;have e3:(i-p+1)*q.size<=new.length*q.size:=S7 _ cK;rw[Q1]at e3;rw[Q G];have:=(aZ (i-p) j r c hi hj).1.mono hx;rw[show i*q.size+j-p*q.size=(i-p)*q.size+j from by omega];simpa using this
  .rename_i bO;rw[W ?_]
   .exact (q7 _ _ _ _ hi hj).mono hx
   .rintro ⟨h1,h2⟩;apply bO;refine⟨?_,?_⟩
    .rcases a4x i p with h|h
     .have:(i+1)*q.size<=p*q.size:=S7 _ h;rw[Q1]at this;omega
     .exact h
    .rcases a4x i (p+new.length)with h|h
     .exact h
     .have:(p+new.length)*q.size<=i*q.size:=S7 _ h;rw[Q1]at this;omega
theorem X1{ix:Operand}{len:Nat}{i:Int}(ho:o.op = .indexAddr t x ix)(hx:E.valid x)(hi:E.valid ix)(ex:E.val C x= .vec k off len)(ei:E.val C ix= .val (.int .i64 i))
 (hu:∀w,(underlying t).run C.P w= .ok (.slice e) w)(hs:∀w,(sizeOf e).run C.P w= .ok s w)(hk:σ[k]?=some (.vec s Y))(h0:0<=i)(hl:i.toNat <len):l8 C σ E o (.eptr k (off+i.toNat) 0):=
 i8 λM w ρ hr h=>by
  have h1:=h x u0 hx;have h2:=h ix u0 hi;rw[ex]at h1;rw[ei]at h2;generalize hv:ρ x=v at h1;cases h1 with
  |vec hp g1 g2 g3=>
   rename_i p a;obtain⟨⟨rfl,_⟩,_⟩:=hr.obj k p _ hp hk;have af:i< (len:Int):=by omega
   refine⟨.pointer (some ⟨p.block,(off+i.toNat)*p.size+0,none⟩),?_,.eptr hp⟩;simp[execOp,ho,hv,p8 h2,Instr.indexAt,asIntOf,hu,hs,g3 G,h0,af,U0,Q1]
theorem b89(hr:Rel C M σ w)(hp:M.pl[k]?=some p)(hk:σ[k]?=some (.vec s Y))(hi:Y[i]?=some r)(hc:r[off]?=some c):
 ∃v,w.cell? ⟨p.block,i*p.size+off,none⟩=some v/\RV M w c v:=by
 obtain⟨⟨rfl,q1,q2,q3,q4,arr,ty,q5,q6,q7⟩,_⟩:=hr.obj k p _ hp hk;have bo:=(n_2.1 hi).1;have bS:off<p.size:=by have:=(n_2.1 hc).1;rwa[q3 r (n_3 hi)]at this
 have hq:i*p.size+off<arr.size:=by
  rw[q6];have:(i+1)*p.size<=p.cap*p.size:=S7 _ G;rw[Q1]at this;omega
 exact⟨_,by simp[World.cell?,q5,hq];rfl,by simpa[hq]using q7 i off r c hi hc⟩
theorem P0(ho:o.op = .load t x)(hx:E.valid x)(ex:E.val C x= .eptr k i off)(ha:∀w,(isAgg t).run C.P w= .ok false w)(hk:σ[k]?=some (.vec s Y))(hi:Y[i]?=some r)(hc:r[off]?=some c):l8 C σ E o c:=
 i8 λM w ρ hr h=>by
  have h1:=h x u0 hx;rw[ex]at h1;generalize eu:ρ x=u at h1;cases h1 with
  |eptr hp=>
   obtain⟨v,hv,aZ⟩:=b89 hr hp hk hi hc;exact⟨v,by simp[execOp,ho,eu,Instr.loadAt,Instr.sureAddr,loadVar,ha,hv],aZ⟩
theorem a2a(ho:o.op = .load t x)(hx:E.valid x)(ex:E.val C x= .eptr k i off)(ha:∀w,(isAgg t).run C.P w= .ok true w)(hs:∀w,(sizeOf t).run C.P w= .ok n w)(hk:σ[k]?=some (.vec s Y))(hi:Y[i]?=some r)(hl:off+n<=r.length):l8 C σ E o (.agg ((r.drop off).take n)):=
 i8 λM w ρ hr h=>by
  have h1:=h x u0 hx;rw[ex]at h1;generalize eu:ρ x=u at h1;cases h1 with
  |eptr hp=>
   rename_i p;have aN:=(hr.obj k p _ hp hk).1.2.2.2.2.1;have bk:∀j,j<n->∃v,w.cell? ⟨p.block,i*p.size+off+j,none⟩=some v/\∀c,r[off+j]?=some c->RV M w c v:=λj hj=>by
    obtain⟨v,hv,aZ⟩:=b89 hr hp hk hi (a1r (show off+j<r.length by omega));exact⟨v,by rw[b2z];exact hv,λc hc=>by rw[a1r (show off+j<r.length by omega)]at hc;injection hc with hc;exact hc▸aZ⟩
   let f:Nat->Value:=λj=>if hj:j<n then(bk j hj).choose else undef
   have hf:∀j,j<n->w.cell? ⟨p.block,i*p.size+off+j,none⟩=some (f j)/\∀c,r[off+j]?=some c->RV M w c (f j):=λj hj=>by
    simp only[f,dif_pos hj];exact(bk j hj).choose_spec
   refine⟨.agg ((List.range n).map f).toArray,?_,.agg H6 (λc hc=>aN r (n_3 hi) c (b14 (a8P hc))) (λj c hj=>?_)⟩
   .simp [execOp,ho,eu,Instr.loadAt,Instr.sureAddr,loadVar,ha,hs,R6 (P:=C.P) (w:=w) f n (λj hj=>(hf j hj).1)]
   .have dz:j<n:=by
     have:=(n_2.1 hj).1;simp at this;omega
    rw[a2q,Q dz,a6d]at hj;have:=(hf j dz).2 c hj;simpa[dz]using this
theorem c5F(ho:o.op = .store t x y)(hx:E.valid x)(hy:E.valid y)(ex:E.val C x= .eptr k i off)(ey:E.val C y=c)(hs:∀w,(sizeOf t).run C.P w= .ok n w)
 (hc:c.one=true\/∃cs,c= .agg cs)(hk:σ[k]?=some (.vec s Y))(hi:Y[i]?=some r)(hl:c.cells.length=n)(af:off+n<=r.length)(h:K (.ret (.val undef)) (σ.set k (.vec s (Y.set i (P4 r off c.cells))))):G5 C σ E o K:=λM w ρ hr hh=>by
 have h1:=hh x u0 hx;have h2:=hh y u0 hy;rw[ex]at h1;rw[ey]at h2;generalize hu:ρ x=u at h1;cases h1 with
 |eptr hp=>
  rename_i p;obtain⟨⟨rfl,q1,q2,q3,q4,arr,ty,q5,q6,q7⟩,hf,cy⟩:=hr.obj k p _ hp hk;obtain⟨g1,g2,g3⟩:=h2.cells hc;have aN:=a3u h2 hc;have bo:=(n_2.1 hi).1;have hrm:=n_3 hi;have cQ:r.length=p.size:=q3 r hrm;have aK:off+c.cells.length<=r.length:=by omega
  have dD:i*p.size+off+(ρ y).cells.toList.length<=arr.size:=by
   rw[b0d,g1,q6];have:(i+1)*p.size<=p.cap*p.size:=S7 _ G;rw[Q1]at this;omega
  have au:(execOp ρ o).run C.P w= .ok .skip (World.putObj w p.block (.cells (D4 arr (i*p.size+off) (ρ y).cells.toList) ty (0,0))):=by
   have:=O9 (P:=C.P) (b:=p.block) (off:=i*p.size+off) (t:=ty) (ρ y).cells.toList 0 arr w q5 G aN;simp only[a85]at this;simp[execOp,ho,hu,Instr.storeAt,Instr.sureAddr,storeVar,hs,g1,hl,this]
  rw[au];have hx:=Ext.putObj (w:=w) (.cells (D4 arr (i*p.size+off) (ρ y).cells.toList) ty (0,0)) (hr.nk k p _ hp hk O) hf cy;have hb:p.block <w.heap.size:=(a1a.1 q5).1;have bN:∀r',r'∈Y.set i (P4 r off c.cells)->r'=P4 r off c.cells\/r'∈Y:=λr' bl=>by
   rcases List.mem_or_eq_of_mem_set bl with h|h
   .exact .inr h
   .exact .inl h
  refine⟨.val undef,_,M,hx,hr.putObj (ob:=.vec p.size (Y.set i (P4 r off c.cells))) hp hk O hf cy _ ⟨O,D q1,q2,λr' bl=>?_,λr' bl c' bx=>?_,_,ty,World.putObj_same w _ hb,by rw[I9,q6],λi' j r' c' bf hj=>?_⟩,.val _,h⟩
  .rcases bN r' bl with rfl|h
   .rw [a0A aK,cQ]
   .exact q3 r' h
  .rcases bN r' bl with rfl|h
   .rcases a2w bx with h'|h'
    .exact g2 _ h'
    .exact q4 r hrm _ h'
   .exact q4 r' h _ bx
  .rw [L7 _ _ _ _ dD];simp only[b0d,g1];rw[a8X]at bf;split at bf
   .rename_i hii;subst hii;injection bf with bf
    subst bf;rw[a2L aK]at hj;split at hj
    .rename_i bO;rw[Q G];have:=(g3 _ _ hj).mono hx;rw[show i*p.size+j- (i*p.size+off)=j-off from by omega];simpa using this
    .rename_i bO;rw[W G];exact(q7 _ _ _ _ hi hj).mono hx
   .rename_i hii;have bS:j<p.size:=by have:=(n_2.1 hj).1;rwa[q3 r' (n_3 bf)]at this
    rw[W ?_]
    .exact (q7 _ _ _ _ bf hj).mono hx
    .rintro ⟨h1,h2⟩
     rcases a4x i' i with h|h
     .have:(i'+1)*p.size<=i*p.size:=S7 _ h;rw[Q1]at this;omega
     .have:(i+1)*p.size<=i'*p.size:=S7 _ G;rw[Q1]at this;omega
theorem O8{lo hi:Option Operand}{len:Nat}{l h:Nat}(ho:o.op = .slice t x lo hi none)(hx:E.valid x)(ex:E.val C x= .vec k off len)
 (hu:∀w,(underlying t).run C.P w= .ok (.slice e) w)(hs:∀w,(sizeOf e).run C.P w= .ok s w)(hk:σ[k]?=some (.vec s Y))(hM:a16 C E lo 0 l)(iq:a16 C E hi len h)(h1:l<=h)(h2:off+h<=Y.length):l8 C σ E o (.vec k (off+l) (h-l)):=
 i8 λM w ρ hr hh=>by
  have ay:=hh x u0 hx;rw[ex]at ay;generalize hv:ρ x=v at ay;cases ay with
  |vec hp g1 g2 g3=>
   rename_i p a;obtain⟨⟨rfl,q1,q2,_⟩,_⟩:=hr.obj k p _ hp hk;have ir:∀v,lo=some v->∃k i,ρ v= .int k i/\0<=i/\i.toNat=l:=λv hv=>by
    subst hv;obtain⟨bP,k,i,he,h0,hi⟩:=hM;have:=hh v u0 bP;rw[he]at this;exact⟨k,i,p8 this,h0,hi⟩
   have fI:∀v,hi=some v->∃k i,ρ v= .int k i/\0<=i/\i.toNat=h:=λv hv=>by
    subst hv;obtain⟨bP,k,i,he,h0,hi⟩:=iq;have:=hh v u0 bP;rw[he]at this;exact⟨k,i,p8 this,h0,hi⟩
   have bj:h<=p.cap -off:=by omega
   have hb:(Instr.sliceBounds true len (p.cap -off) (lo.map ρ) (hi.map ρ) none).run C.P w= .ok (l,h,p.cap -off) w:=by
    have da:(l:Int)<=h:=by omega
    have hh2:(h:Int)<=((p.cap -off:Nat):Int):=by omega
    cases lo with
    |none=>
     have:l=0:=by simpa[a16]using hM.symm
     subst this;cases hi with
     |none=>
      have:h=len:=by simpa[a16]using iq.symm
      subst this;simp[Instr.sliceBounds]
     |some v=>
      obtain⟨k,i,he,h0,hi⟩:=fI v O;have:i<=((p.cap -off:Nat):Int):=by omega
      simp[Instr.sliceBounds,Instr.sliceBound,he,asIntOf,h0,this,hi]
    |some u=>
     obtain⟨k',i',fJ,iu,bf⟩:=ir u O;have aM:i'<=(h:Int):=by omega
     cases hi with
     |none=>
      have:h=len:=by simpa[a16]using iq.symm
      subst this;simp[Instr.sliceBounds,Instr.sliceBound,fJ,asIntOf,iu,aM,bf]
     |some v=>
      obtain⟨k,i,he,h0,hi⟩:=fI v O;have bx:i<=((p.cap -off:Nat):Int):=by omega
      simp[Instr.sliceBounds,Instr.sliceBound,he,fJ,asIntOf,h0,iu,bx,hi,aM,bf]
   have au:(execOp ρ o).run C.P w= .ok (.value (.slice (if p.cap -off=l then some a else some (a.add (l*p.size))) (h-l) (p.cap -off-l))) w:=by
    simp[execOp,ho,Instr.sliceAt,Instr.slice,hu,hv,hb,hs]
   refine⟨_,au,?_⟩;by_cases he:p.cap -off=l
   .rw [Q he,show p.cap -off-l=p.cap - (off+l)from by omega];exact .vec hp G g2 (λaf=>by omega)
   .rw [W he,show p.cap -off-l=p.cap - (off+l)from by omega];exact .vec hp G g2 (λaf=>by rw[g3 G,U0,Q1])
end
def kill(σ:List b9)(tok:Option Nat):List b9:=
 match tok with
 |some k=>σ.set k .dead
 |none=>σ
def e0o(σ:List b9)(Y:List (List CV))(nn:Bool)(tok:Option Nat):Prop:=
 (Y=[]/\nn=false/\tok=none)\/(Y≠[]/\∃k,tok=some k/\σ[k]?=some (.tip Y.length))
def c2U(t0:Option TypeId)(σ:List b9)(Y:List (List CV))(nn:Bool)(tok:Option Nat):Prop:=
 (Y=[]/\nn=false/\tok=none)\/(Y≠[]/\∃k,tok=some k/\σ[k]?=some (.tipT t0 Y.length))
def z8.settleCells(M:z8)(b n:Nat):z8:={M with cell:=λx o=>M.cell x o\/(x=b/\o<n)}
section
theorem Rel.dead(hr:Rel C M σ w)(k:Nat):Rel C M (σ.set k .dead) w:=by
 have aq:∀{k':Nat} {x:b9},(σ.set k .dead)[k']?=some x->x= .dead\/σ[k']?=some x:=by
  intro k' x h;rw[a8X]at h;split at h
  .split at h
   .injection h with h;exact .inl h.symm
   .cases h
  .exact .inr h
 refine⟨by simp[hr.len],hr.blk,λk' p x hp hx=>?_,λk1 k2 p1 p2 x1 x2 h1 h2 bh aE dL da hb=>?_,hr.glob,hr.kep,λk' p x hp ay cp=>?_⟩
 .rcases aq hx with rfl|h
  .exact ⟨J,J⟩
  .exact hr.obj k' p x hp h
 .rcases aq bh with rfl|ez
  .cases dL
  .rcases aq aE with rfl|dI
   .cases da
   .exact hr.inj k1 k2 p1 p2 x1 x2 h1 h2 ez dI dL da hb
 .rcases aq ay with rfl|h'
  .cases cp
  .exact hr.nk k' p x hp h' cp
theorem Rel.kill{M:z8}{w:World}(hr:Rel C M σ w)(tok:Option Nat):Rel C M (kill σ tok) w:=by
 cases tok with
 |none=>exact hr
 |some k=>exact hr.dead k
theorem c0j(σ:List b9)(tok:Option Nat):(kill σ tok).length=σ.length:=by
 cases tok<;>simp[Go.Cl.kill]
theorem Rel.settleCells(hr:Rel C M σ w)(hp:M.pl[k]?=some p)(hk:σ[k]?=some (.tipT t0 n)):Ext M w (M.settleCells p.block (n*p.size)) w/\Rel C (M.settleCells p.block (n*p.size)) σ w:=by
 have hx:Ext M w (M.settleCells p.block (n*p.size)) w:=⟨⟨[],by simp[z8.settleCells]⟩,λ_ h=>h,λ_ _ h=>.inr (.inl h),λ_ _=>O,λ_ _ _=>O,n_6 _,T4,O,O,O,λb h=>⟨h,O,id,λo f=>(by
  rcases f with f|⟨rfl,_⟩
  .exact f
  .exact absurd h (hr.nk k p _ hp hk O))⟩⟩
 have af:=(hr.obj k p _ hp hk).1.lt O;refine⟨hx,hr.len,λb o' ha=>?_,λk' p' x aG ay=>?_,hr.inj,λg cells hg=>(hr.glob g cells hg).mono hx,hr.kep,hr.nk⟩
 .rcases ha with ha|ha|⟨rfl,_⟩
  .exact hr.blk b o' (.inl ha)
  .exact hr.blk b o' (.inr ha)
  .exact af
 .obtain ⟨h1,h2⟩:=hr.obj k' p' x aG ay;by_cases hl:x.live=true
  .by_cases gT:k'=k
   .subst gT;have aG:M.pl[k']?=some p':=aG;rw[hp]at aG;injection aG with aG
    subst aG;rw[hk]at ay;injection ay with ay
    subst ay;obtain⟨q1,q2,q3,q4⟩:=h1;refine⟨⟨q1,q2,⟨λo ho=>?_,q3.2⟩,q4⟩,h2⟩
    rcases ho with ho|⟨_,ho⟩
    .exact q3.1 o ho
    .exact ho
   .have ax:p'.block≠p.block:=λe=>gT (hr.inj k' k p' p x _ aG hp ay hk hl O e);refine⟨h1.mono hx O (λ_ _ _ o ho=>?_),?_⟩
    .rcases ho with ho|⟨ho,_⟩
     .exact ho
     .exact absurd ho ax
    .have hc:(∀o,¬M.cell p'.block o)->∀o,¬(M.settleCells p.block (n*p.size)).cell p'.block o:=λh o ho=>by
      rcases ho with ho|⟨ho,_⟩
      .exact h o ho
      .exact ax ho
     cases x<;>first|trivial|exact h2|exact⟨h2.1,hc h2.2⟩
  .cases x<;>first|exact⟨J,J⟩|simp[b9.live]at hl
theorem Rel.drewN(hr:Rel C M σ w):Rel C M σ w.drew/\Ext M w M w.drew:=hr.drew
theorem Y9{c:Nat}{x:Value}(hu:∀w,(underlying t).run P w= .ok (.slice e) w)(dE:(∀w,(underlying t2).run P w= .ok (.slice e) w)\/∀w,(underlying t2).run P w= .ok .string w)(hs:∀w,(sizeOf e).run P w= .ok s w)
 (aj:∀w,(Builtin.lenOf x).run P w= .ok m w)(dN:(Builtin.firstCells s m x).run P w= .ok arr w)(fK:n+m<=c)(aF:(storeCells ⟨b,off+n*s,none⟩ arr.toList).run P w= .ok () w'):
 (Builtin.append_ #[t,t2] ty #[.slice (some ⟨b,off,none⟩) n c,x]).run P w= .ok (.slice (some ⟨b,off,none⟩) (n+m) c) w':=by
 rcases dE with dE|dE <;>
 simp[Builtin.append_,hu,dE,hs,aj,dN,fK,U0,aF]
theorem S3{c:Nat}{a:Option Addr}{x:Value}{old:Array Value}{ti:TypeInfo}(hu:∀w,(underlying t).run P w= .ok (.slice e) w)(dE:(∀w,(underlying t2).run P w= .ok (.slice e) w)\/∀w,(underlying t2).run P w= .ok .string w)(hs:∀w,(sizeOf e).run P w= .ok s w)(ca:∀w,(typeInfo e).run P w= .ok ti w)(hz:∀w,(zeroValue e).run P w= .ok z w)
 (aj:∀w,(Builtin.lenOf x).run P w= .ok m w)(bQ:(Builtin.firstCells s n (.slice a n c)).run P w.drew = .ok old w.drew)(dN:(Builtin.firstCells s m x).run P w.drew = .ok arr w.drew)(fK:c<n+m)(aQ:n+m<=9223372036854775807)(hb:(n+m)*ti.bytes<=140737488355328):
 ∃c',n+m<=c'/\c'<=9223372036854775807/\(Builtin.append_ #[t,t2] ty #[.slice a n c,x]).run P w= .ok (.slice (some ⟨w.heap.size,0,none⟩) (n+m) c') (w.drew.alloc (.cells (old++arr++Builtin.zeroCells z.cells (c'- (n+m))) e)):=by
 have hg:=growslice_fits fK hb;refine⟨(Question.appendCap (n+m) c e).cut (w.tape w.drawn (.appendCap (n+m) c e)),?_,?_,?_⟩
 .simp [Question.cut]
 .simp only[Question.cut];have:w.tape w.drawn (.appendCap (n+m) c e)%(2^63- (n+m))<2^63- (n+m):=a6i _ G;omega
 .have h1:¬(n+m<=c):=by omega
  have h2:¬IntKind.i64.max < (n:Int)+(m:Int):=by
   have:IntKind.i64.max=9223372036854775807:=by decide
   omega
  have h3:¬(281474976710656<Builtin.nextslicecap (n+m) c*ti.bytes):=by omega
  rcases dE with dE|dE
  all_goals
   simp[Builtin.append_,hu,dE,hs,ca,hz,aj,h1,h3,Question.forced,bQ,dN,newRow];intro h;have:IntKind.i64.max=9223372036854775807:=by decide
   omega
theorem a4c(h:RV M w c v):RV M w.drew c v:=by
 have hx:Ext M w M w.drew:=⟨⟨[],U⟩,λ_ h=>h,λ_ _ h=>.inr h,λ_ _=>O,λ_ _ _=>O,n_6 _,T4,O,O,O,λ_ h=>⟨h,O,id,λ_=>id⟩⟩;exact h.mono hx
theorem Rel.tipStore(hr:Rel C M σ w){aD cur':Array Value}(hp:M.pl[k]?=some p)(hk:σ[k]?=some (.tipT t0 n))(hty:t0.getD ty=ty)(hc:w.heap[p.block]?=some (.cells aD ty (0,0)))(aK:cur'.size=aD.size)(hsame:∀o,o<n*p.size->cur'[o]?=aD[o]?):
 Ext M w M (World.putObj w p.block (.cells cur' ty (0,0)))/\Rel C M σ (World.putObj w p.block (.cells cur' ty (0,0))):=by
 obtain⟨⟨q1,q2,q3,cur0,ty0,q4,q5⟩,cR⟩:=hr.obj k _ _ hp hk;have hb:p.block <w.heap.size:=(a1a.1 hc).1;have hx:Ext M w M (World.putObj w p.block (.cells cur' ty (0,0))):=by
  refine⟨⟨[],U⟩,λ_ h=>h,λ_ _ h=>.inr h,λb' h=>World.putObj_other w _ (λe=>cR (e▸h)),λb' o' h=>?_,by rw[World.putObj_size];exact n_6 _,T4,O,O,O,λb' h=>⟨h,World.putObj_other w _ (λe=>hr.nk k p _ hp hk O (e▸h)),id,λ_=>id⟩⟩;by_cases he:p.block=b'
  .subst he;have af:=q3.1 o' h;simp only[World.cell?,World.putObj_same w _ hb,hc,Option.isSome_none,b09,if_false];exact hsame o' af
  .exact M5 (World.putObj_other w _ he)
 refine⟨hx,hr.len,λb o' ha=>by rw[World.putObj_size];exact hr.blk b o' ha,λk' p' x aG ay=>?_,hr.inj,λg cells hg=>(hr.glob g cells hg).mono hx,λb h=>(by rw[World.putObj_size];exact hr.kep b h),hr.nk⟩;obtain⟨h1,h2⟩:=hr.obj k' p' x aG ay;refine⟨?_,h2⟩;by_cases hl:x.live=true
 .by_cases gT:k'=k
  .subst gT;rw[hp]at aG;injection aG with aG
   subst aG;rw[hk]at ay;injection ay with ay
   subst ay;rw[q4]at hc;injection hc with hc
   injection hc with hc _ _
   exact⟨q1,q2,q3,cur',ty,by rw[hty];exact World.putObj_same w _ hb,by rw[aK,<- hc,q5]⟩
  .have ax:p.block≠p'.block:=λe=>gT (hr.inj k' k p' p x _ aG hp ay hk hl O e.symm);exact h1.mono hx (World.putObj_other w _ ax) (λ_ _ _ _ h=>h)
 .cases x<;>first|trivial|simp[b9.live]at hl
theorem Rel.tipNew(hr:Rel C M σ w)(hp:M.pl[k]?=some p)(hk:σ[k]?=some (.tipT t0 n))(hn:n<=m)(hm:m<=p.cap):Ext M w (M.add p) w/\Rel C (M.add p) (σ.set k .dead++[.tipT t0 m]) w:=by
 obtain⟨⟨q1,q2,q3,cur0,ty0,q4,q5⟩,cR⟩:=hr.obj k _ _ hp hk;have hx:Ext M w (M.add p) w:=⟨⟨[p],O⟩,λ_ h=>h,λ_ _ h=>.inr h,λ_ _=>O,λ_ _ _=>O,n_6 _,T4,O,O,O,λ_ h=>⟨h,O,id,λ_=>id⟩⟩;have hd:=hr.dead k;have aj:(σ.set k b9.dead).length=σ.length:=by simp
 have aq:∀{j:Nat} {q:Pl},(M.add p).pl[j]?=some q->(j<σ.length/\M.pl[j]?=some q)\/(j=σ.length/\q=p):=by
  intro j q hj;simp only[z8.add,a6O,hr.len]at hj;split at hj
  .exact .inl ⟨‹_›,hj⟩
  .rename_i af;have:j-σ.length=0:=by
    have:=(n_2.1 hj).1;simp at this;omega
   rw[this]at hj;simp at hj;exact .inr ⟨G,hj.symm⟩
 have fA:∀{j:Nat} {x:b9},(σ.set k b9.dead++[b9.tipT t0 m])[j]?=some x->(j<σ.length/\(σ.set k b9.dead)[j]?=some x)\/(j=σ.length/\x= .tipT t0 m):=by
  intro j x hj;rw[a6O]at hj;split at hj
  .exact .inl ⟨G,hj⟩
  .have:j- (σ.set k b9.dead).length=0:=by
    have:=(n_2.1 hj).1;simp at this⊢;omega
   rw[this]at hj;simp at hj;exact .inr ⟨G,hj.symm⟩
 have bm:k<σ.length:=(n_2.1 hk).1;have dO:∀{j:Nat} {q:Pl} {x:b9},M.pl[j]?=some q->(σ.set k b9.dead)[j]?=some x->x.live=true->q.block≠p.block:=by
  intro j q x hj dA hl e;have hjk:j≠k:=by
   rintro rfl;rw[b0e G]at dA;injection dA with dA
   subst dA;cases hl
  have ff:σ[j]?=some x:=by rwa[a0S (Ne.symm hjk)]at dA
  exact hjk (hr.inj j k q p x _ hj hp ff hk hl O e)
 refine⟨hx,by simp[z8.add,hr.len],λb o' ha=>hr.blk b o' ha,λj q x hj dA=>?_,λj j' q q' x x' hj dz dA ff hl bL hb=>?_,λg cells hg=>(hr.glob g cells hg).mono hx,hr.kep,λj q x hj dA cp=>?_⟩
 .rcases fA dA with⟨af,h⟩|⟨rfl,rfl⟩
  .rcases aq hj with⟨_,hq⟩|⟨rfl,_⟩
   .obtain ⟨h1,h2⟩:=hd.obj j q x hq h;refine⟨?_,h2⟩;by_cases hl:x.live=true
    .exact h1.mono hx O (λ_ _ _ _ h=>h)
    .cases x<;>first|trivial|simp[b9.live]at hl
   .omega
  .rcases aq hj with⟨h,_⟩|⟨_,rfl⟩
   .omega
   .refine ⟨⟨hm,q2,⟨λo ho=>a8E (q3.1 o ho) (S7 _ hn),q3.2⟩,cur0,ty0,q4,q5⟩,cR⟩
 .rcases fA dA with⟨af,h⟩|⟨rfl,rfl⟩
  .rcases aq hj with⟨_,hq⟩|⟨rfl,_⟩
   .rcases fA ff with⟨bt,h'⟩|⟨rfl,rfl⟩
    .rcases aq dz with⟨_,eL⟩|⟨rfl,_⟩
     .exact hd.inj j j' q q' x x' hq eL h h' hl bL hb
     .omega
    .rcases aq dz with⟨h0,_⟩|⟨_,rfl⟩
     .omega
     .exact absurd hb (dO hq h hl)
   .omega
  .rcases aq hj with⟨h0,_⟩|⟨_,rfl⟩
   .omega
   .rcases fA ff with⟨bt,h'⟩|⟨rfl,rfl⟩
    .rcases aq dz with⟨_,eL⟩|⟨rfl,_⟩
     .exact absurd hb.symm (dO eL h' bL)
     .omega
    .rfl
 .rcases fA dA with⟨af,h⟩|⟨rfl,rfl⟩
  .rcases aq hj with⟨_,hq⟩|⟨rfl,_⟩
   .exact hd.nk j q x hq h cp
   .omega
  .rcases aq hj with⟨h0,_⟩|⟨_,rfl⟩
   .omega
   .exact hr.nk k q _ hp hk O
theorem Src.lenOf(h:Src C M w Y s v)(w':World):(Builtin.lenOf v).run C.P w'= .ok Y.length w':=by
 obtain⟨a,c,rfl,_⟩:=h;simp[Builtin.lenOf]
def c01(C:Ctx)(w:World)(M:z8)(Y:List (List CV))(s:Nat)(v:Value):Prop:=
 (∀w',(Builtin.lenOf v).run C.P w'= .ok Y.length w')/\(∀r∈Y,r.length=s) /\
  ∃arr:Array Value,(Builtin.firstCells s Y.length v).run C.P w= .ok arr w/\arr.size=Y.length*s /\
   ∀(i j:Nat) (r:List CV) (c:CV),Y[i]?=some r->r[j]?=some c->RV M w c (arr.getD (i*s+j) undef)/\c.one=true
theorem Src.any(h:Src C M w Y s v):c01 C w M Y s v:=by
 have hl:=h.lenOf;obtain⟨_,_,_,_,h1,h2⟩:=h;exact⟨hl,h1,h2⟩
theorem a1m{old rest:Array Value}(h1:old.size=Y.length*s)(h2:arr.size=new.length*s)(ba:∀r∈Y,r.length=s)(bY:∀r∈new,r.length=s)
 (ho:∀(i j:Nat) (r:List CV) (c:CV),Y[i]?=some r->r[j]?=some c->RV M w c (old.getD (i*s+j) undef))
 (ha:∀(i j:Nat) (r:List CV) (c:CV),new[i]?=some r->r[j]?=some c->RV M w c (arr.getD (i*s+j) undef))(i j:Nat)(r:List CV)(c:CV)(hi:(Y++new)[i]?=some r)(hj:r[j]?=some c):
 i*s+j< (old++arr++rest).size/\RV M w c ((old++arr++rest).getD (i*s+j) undef):=by
 rw[a6O]at hi;split at hi
 .rename_i af;have bS:j<s:=by have:=(n_2.1 hj).1;rwa[ba r (n_3 hi)]at this
  have hq:i*s+j<old.size:=by
   rw[h1];have:(i+1)*s<=Y.length*s:=S7 _ af;rw[Q1]at this;omega
  refine⟨by simp;omega,?_⟩;have ce:i*s+j< (old++arr).size:=by simp;omega
  have e:(old++arr++rest).getD (i*s+j) undef=old.getD (i*s+j) undef:=by
   simp only[Z6];rw[b4C ce,b4C hq]
  rw[e];exact ho i j r c hi hj
 .rename_i aH;have bo:=(n_2.1 hi).1;have bS:j<s:=by have:=(n_2.1 hj).1;rwa[bY r (n_3 hi)]at this
  have e1:(i-Y.length)*s=i*s-Y.length*s:=Nat.sub_mul _ _ _;have e2:Y.length*s<=i*s:=S7 _ G;have e3:(i-Y.length+1)*s<=new.length*s:=S7 _ bo;rw[Q1]at e3;refine⟨by simp;omega,?_⟩;have ce:i*s+j< (old++arr).size:=by simp;omega
  have e:(old++arr++rest).getD (i*s+j) undef=arr.getD ((i-Y.length)*s+j) undef:=by
   simp only[Z6];rw[b4C ce,Array.getElem?_append_right G]
   congr 2;omega
  rw[e];exact ha _ j r c hi hj
theorem R5(z:Array Value)(n:Nat):(Builtin.zeroCells z n).size=n*z.size:=by simp[Builtin.zeroCells]
theorem RV.list'{tok:Option Nat}{a:Option Addr}{cap:Nat}(hL:L=Y.length)(vals:Nat->Nat->Value):
 Y.length<=cap->cap<=maxLen->a.isSome=nn->(nn=false->cap=0)->(Y≠[]->a=some ⟨b,off,none⟩) ->
 (∀r∈Y,r.length=s)->(∀r∈Y,∀c∈r,c.one=true) ->
 (∀(i j:Nat) (r:List CV) (c:CV),Y[i]?=some r->r[j]?=some c->M.at b (off+i*s+j)/\w.cell? ⟨b,off+i*s+j,none⟩=some (vals i j)) ->
 (∀(i j:Nat) (r:List CV) (c:CV),Y[i]?=some r->r[j]?=some c->RV M w c (vals i j)) ->
 (∀k,tok=some k->∃s',M.pl[k]?=some ⟨b,cap,s'⟩/\a=some ⟨b,0,none⟩/\off=0/\(Y≠[]->s'=s)) ->
 RV M w (.list Y nn tok) (.slice a L cap):=by
 subst hL;exact RV.list vals
theorem b2m{tok:Option Nat}{ti:TypeInfo}(ho:o.op = .call {callee:=.builtin .append,args:=#[x,y],argTypes:=#[t,t2]})(hx:E.valid x)(hy:E.valid y)(ex:E.val C x= .list Y nn tok)
 (aJ:∀M w v,Rel C M σ w->RV M w (E.val C y) v->c01 C w M new s v)(hu:∀w,(underlying t).run C.P w= .ok (.slice e) w)(hs:∀w,(sizeOf e).run C.P w= .ok s w)(ca:∀w,(typeInfo e).run C.P w= .ok ti w)(hz:∀w,(zeroValue e).run C.P w= .ok z w)(bn:z.cells.size=s)
 (dE:(∀w,(underlying t2).run C.P w= .ok (.slice e) w)\/∀w,(underlying t2).run C.P w= .ok .string w)(ht0:t0=none\/t0=some e)(fL:t0.isSome=true->s=1)(bI:c2U t0 σ Y nn tok\/(Y=[]/\t0=some e/\∃k,tok=some k/\σ[k]?=some (.tipT t0 0)))(ba:∀r∈Y,r.length=s)(bC:new≠[])(hb:(Y.length+new.length)*ti.bytes<=140737488355328)(aQ:Y.length+new.length<=9223372036854775807)
 (hk:K (.ret (.list (Y++new) true (some σ.length))) (kill σ tok++[.tipT t0 (Y.length+new.length)])):G5 C σ E o K:=λM w ρ hr hh=>by
 have h1:=hh x H0 hx;have h2:=hh y H0 hy;rw[ex]at h1;have hso:=a1f (C:=C) h1 ba;have gz:=aJ M w _ hr h2;have aj:=gz.1;obtain⟨a,cap,b,off,s',vals,hv,bj,dP,dY,eN,ha,cQ,aN,hc,aZ,cA⟩:=h1.list_inv;have hnl:0<new.length:=a6M.2 bC;have bb:(execOp ρ o).run C.P w=((Builtin.append_ #[t,t2] o.type #[ρ x,ρ y]).run C.P w).andThen λv w=>.ok (.value v) w:=by
  simp[execOp,ho,resolve,invoke,builtin]
 have bT:∀r∈Y++new,r.length=s:=λr hr=>by
  rcases T9.1 hr with h|h
  .exact ba r h
  .obtain ⟨_,bY,_⟩:=gz;exact bY r h
 have bU:(Y++new).length=Y.length+new.length:=n_8;by_cases cq:Y.length+new.length<=cap
 .
  rcases bI with(⟨rfl,rfl,rfl⟩|⟨hrne,k,rfl,fC⟩)|⟨rfl,ht0',k,rfl,fC⟩
  .have:=eN O;simp at cq;omega
  .obtain ⟨sz,hp,ha0,rfl,aK⟩:=cA k O;obtain⟨⟨q1,q2,q3,aD,ty,q4,q5⟩,cR⟩:=hr.obj k _ _ hp fC;obtain⟨fT,iz⟩:∃fT,fT=t0.getD ty:=⟨_,O⟩;rw[<- iz]at q4;have hgd:t0.getD fT=fT:=by rw[iz];cases t0<;>rfl
   simp only at q1 q2 q3 q4 q5;obtain⟨_,bY,arr,ci,aR,bg⟩:=gz;obtain⟨r0,rs,hrr⟩:∃r0 rs,Y=r0::rs:=by
    cases Y with
    |nil=>exact absurd O hrne
    |cons r0 rs=>exact⟨r0,rs,O⟩
   have bu:s'=s:=by rw[<- cQ r0 (by simp[hrr]),ba r0 (by simp[hrr])]
   have hss:sz=s:=(aK hrne).trans bu;subst hss;subst bu;have aw:arr.toList.length=arr.size:=b0d;have dD:Y.length*s'+arr.toList.length<=aD.size:=by
    rw[aw,aR,q5,<- Q1];exact S7 _ cq
   have aF:=O9 (P:=C.P) (b:=b) (off:=Y.length*s') (t:=fT) arr.toList 0 aD w q4 G (Src.one bY aR bg);rw[a85]at aF;have au:(execOp ρ o).run C.P w= .ok (.value (.slice (some ⟨b,0,none⟩) (Y.length+new.length) cap)) (World.putObj w b (.cells (D4 aD (Y.length*s') arr.toList) fT (0,0))):=by
    rw[bb,hv,ha0,Y9 hu dE hs aj ci cq (by rw[O7];exact aF)];rfl
   rw[au];obtain⟨bh,aI⟩:=hr.tipStore (cur':=D4 aD (Y.length*s') arr.toList) hp fC hgd q4 (I9 _ _ _) (λo' ho'=>by
    have h0:o'<aD.size:=by
     rw[q5];exact a8E ho' (S7 _ q1)
    have h1:o'< (D4 aD (Y.length*s') arr.toList).size:=by rw[I9];exact h0
    have:=L7 arr.toList aD (Y.length*s') o' dD;rw[W (by simp only at ho';omega)]at this;simp only[Z6,a1t h0,a1t h1,a84]at this;rw[a1t h0,a1t h1,this])
   obtain⟨aE,aW⟩:=aI.tipNew (m:=Y.length+new.length) hp fC G cq;have cB:(M.add ⟨b,cap,s'⟩).pl[σ.length]?=some ⟨b,cap,s'⟩:=by simp[z8.add,<- hr.len]
   have cc:(σ.set k b9.dead++[b9.tipT t0 (Y.length+new.length)])[σ.length]?=some (.tipT t0 (Y.length+new.length)):=by simp
   obtain⟨fD,eA⟩:=aW.settleCells cB cc;have hx:=(bh.trans aE).trans fD;refine⟨_,_,_,hx,eA,?_,hk⟩;have hbs:b<w.heap.size:=(a1a.1 q4).1;have aS:∀q,q<aD.size->(World.putObj w b (.cells (D4 aD (Y.length*s') arr.toList) fT (0,0))).cell? ⟨b,q,none⟩=some ((D4 aD (Y.length*s') arr.toList).getD q undef):=λq hq=>by
    have:q< (D4 aD (Y.length*s') arr.toList).size:=by rw[I9];exact hq
    simp[World.cell?,World.putObj_same w _ hbs,this]
   have hq:∀i j r c,(Y++new)[i]?=some r->r[j]?=some c->i*s'+j< (Y.length+new.length)*s':=λi j r c hi hj=>by
    have bo:=(n_2.1 hi).1;rw[bU]at bo;have bS:j<s':=by have:=(n_2.1 hj).1;rwa[bT r (n_3 hi)]at this
    have:(i+1)*s'<=(Y.length+new.length)*s':=S7 _ bo;rw[Q1]at this;omega
   have hqc:(Y.length+new.length)*s'<=aD.size:=by rw[q5];exact S7 _ cq
   refine RV.list' (b:=b) (off:=0) (s:=s') bU.symm (λi j=>(D4 aD (Y.length*s') arr.toList).getD (i*s'+j) undef) (by rw[bU];exact cq) q2 O (λh=>by cases h) Y1 bT (λr hr c hc=>?_) (λi j r c hi hj=>⟨.inr (.inr ⟨O,by rw[O7];exact hq i j r c hi hj⟩),by rw[O7];exact aS _ (a8E (hq i j r c hi hj) hqc)⟩) (λi j r c hi hj=>?_) (λk' aC=>⟨s',?_,O,O,λ_=>O⟩)
   .rcases T9.1 hr with h|h
    .exact aN r h c hc
    .obtain ⟨i,hi⟩:=K5.1 h;obtain⟨j,hj⟩:=K5.1 hc;exact(bg i j r c hi hj).2
   .rw [L7 _ _ _ _ dD];rw[a6O]at hi;split at hi
    .rename_i af;have bS:j<s':=by have:=(n_2.1 hj).1;rwa[ba r (n_3 hi)]at this
     have hql:i*s'+j<Y.length*s':=by
      have:(i+1)*s'<=Y.length*s':=S7 _ af;rw[Q1]at this;omega
     rw[W G];have h3:=(hc i j r c hi hj).2;rw[O7]at h3;have h4:w.cell? ⟨b,i*s'+j,none⟩=some (aD.getD (i*s'+j) undef):=by
      have:i*s'+j<aD.size:=by omega
      simp[World.cell?,q4,this]
     rw[h4]at h3;injection h3 with h3
     rw[h3];exact(aZ i j r c hi hj).mono hx
    .rename_i aH;have bo:=(n_2.1 hi).1;have bS:j<s':=by have:=(n_2.1 hj).1;rwa[bY r (n_3 hi)]at this
     have e1:(i-Y.length)*s'=i*s'-Y.length*s':=Nat.sub_mul _ _ _;have e2:Y.length*s'<=i*s':=S7 _ G;have e3:(i-Y.length+1)*s'<=new.length*s':=S7 _ bo;rw[Q1]at e3;rw[Q (by rw[aw,aR];omega)];have:=(bg _ j r c hi hj).1.mono hx;rw[show i*s'+j-Y.length*s'=(i-Y.length)*s'+j from by omega];simpa using this
   .injection aC with aC
    subst aC;exact cB
  .
   obtain⟨sz,hp,ha0,rfl,_⟩:=cA k O;obtain⟨⟨q1,q2,q3,aD,ty,q4,q5⟩,cR⟩:=hr.obj k _ _ hp fC;have aK:sz=s:=(q3.2 (by rw[ht0'];rfl)).trans (fL (by rw[ht0'];rfl)).symm;obtain⟨fT,iz⟩:∃fT,fT=t0.getD ty:=⟨_,O⟩;rw[<- iz]at q4;have hgd:t0.getD fT=fT:=by rw[iz];cases t0<;>rfl
   simp only at q1 q2 q3 q4 q5;subst aK;obtain⟨_,bY,arr,ci,aR,bg⟩:=gz;have aw:arr.toList.length=arr.size:=b0d;have fc:([]:List (List CV)).length=0:=O;rw[fc]at cq bj hv bU hb aQ hk;rw[O7]at cq hk;have dD:0+arr.toList.length<=aD.size:=by
    rw[aw,aR,q5,O7];exact S7 _ cq
   have aF:=O9 (P:=C.P) (b:=b) (off:=0) (t:=fT) arr.toList 0 aD w q4 G (Src.one bY aR bg);rw[a85]at aF;have au:(execOp ρ o).run C.P w= .ok (.value (.slice (some ⟨b,0,none⟩) new.length cap)) (World.putObj w b (.cells (D4 aD 0 arr.toList) fT (0,0))):=by
    have:=Y9 (P:=C.P) (ty:=o.type) (b:=b) (off:=0) (n:=0) (m:=new.length) (c:=cap) hu dE hs aj ci G (by rw[Nat.zero_mul];exact aF);rw[O7]at this;rw[bb,hv,ha0,this];rfl
   rw[au];obtain⟨bh,aI⟩:=hr.tipStore (cur':=D4 aD 0 arr.toList) hp fC hgd q4 (I9 _ _ _) (λo' ho'=>by simp at ho');obtain⟨aE,aW⟩:=aI.tipNew (m:=new.length) hp fC (n_5 _) cq;have cB:(M.add ⟨b,cap,sz⟩).pl[σ.length]?=some ⟨b,cap,sz⟩:=by simp[z8.add,<- hr.len]
   have cc:(σ.set k b9.dead++[b9.tipT t0 new.length])[σ.length]?=some (.tipT t0 new.length):=by simp
   obtain⟨fD,eA⟩:=aW.settleCells cB cc;have hx:=(bh.trans aE).trans fD;refine⟨_,_,_,hx,eA,?_,hk⟩;have hbs:b<w.heap.size:=(a1a.1 q4).1;have aS:∀q,q<aD.size->(World.putObj w b (.cells (D4 aD 0 arr.toList) fT (0,0))).cell? ⟨b,q,none⟩=some ((D4 aD 0 arr.toList).getD q undef):=λq hq=>by
    have:q< (D4 aD 0 arr.toList).size:=by rw[I9];exact hq
    simp[World.cell?,World.putObj_same w _ hbs,this]
   have hq:∀i j r c,new[i]?=some r->r[j]?=some c->i*sz+j<new.length*sz:=λi j r c hi hj=>by
    have bo:=(n_2.1 hi).1;have bS:j<sz:=by have:=(n_2.1 hj).1;rwa[bY r (n_3 hi)]at this
    have:(i+1)*sz<=new.length*sz:=S7 _ bo;rw[Q1]at this;omega
   have hqc:new.length*sz<=aD.size:=by rw[q5];exact S7 _ cq
   refine RV.list' (b:=b) (off:=0) (s:=sz) O (λi j=>(D4 aD 0 arr.toList).getD (i*sz+j) undef) cq q2 O (λh=>by cases h) Y1 bY (λr hr c hc=>?_) (λi j r c hi hj=>⟨.inr (.inr ⟨O,by rw[O7];exact hq i j r c hi hj⟩),by rw[O7];exact aS _ (a8E (hq i j r c hi hj) hqc)⟩) (λi j r c hi hj=>?_) (λk' aC=>⟨sz,?_,O,O,λ_=>O⟩)
   .obtain ⟨i,hi⟩:=K5.1 hr;obtain⟨j,hj⟩:=K5.1 hc;exact(bg i j r c hi hj).2
   .rw [L7 _ _ _ _ dD];rw[Q (by rw[aw,aR];have:=hq i j r c hi hj;omega)];have:=(bg i j r c hi hj).1.mono hx;simpa using this
   .injection aC with aC
    subst aC;exact cB
 .
  obtain⟨dB,gc⟩:=hr.drewN;have dq:=a1f (C:=C) (a4c h1) ba;have hsn':=aJ M w.drew _ dB (a4c h2);rw[hv]at dq;obtain⟨a1,c1,dX,_,_,old,hfo,cE,dF⟩:=dq;obtain⟨_,bY,arr,ci,aR,bg⟩:=hsn';obtain⟨c',cz,dM,au⟩:=S3 (P:=C.P) (ty:=o.type) (a:=a) (c:=cap) (w:=w) hu dE hs ca hz aj hfo ci G aQ hb;rw[bb,hv,au];simp only[Result.andThen_ok];have fg:w.drew.heap.size=w.heap.size:=O;rw[<- fg];have hrk:=dB.kill tok;have fh:=c0j σ tok;have dr:(old++arr++Builtin.zeroCells z.cells (c'- (Y.length+new.length))).size=c'*s:=by
   simp only[b3L,R5,cE,aR,bn];rw[<- Q1,<- Q1]
   congr 1;omega
  have aW:=hrk.alloc ⟨w.drew.heap.size,c',s⟩ (.cells (old++arr++Builtin.zeroCells z.cells (c'- (Y.length+new.length))) e) (.tipT t0 (Y.length+new.length)) O
   ⟨cz,by unfold maxLen;simp only;omega,⟨λo' ho'=>by have:=dB.blk _ _ (.inr ho');simp only at this;omega,fL⟩,_,e,by rw[show t0.getD e=e from by rcases ht0 with h|h<;>rw[h]<;>rfl];exact r9 _ _,dr⟩
  have aE:=Ext.alloc hrk ⟨w.drew.heap.size,c',s⟩ (.cells (old++arr++Builtin.zeroCells z.cells (c'- (Y.length+new.length))) e);have cB:(M.add ⟨w.drew.heap.size,c',s⟩).pl[σ.length]?=some ⟨w.drew.heap.size,c',s⟩:=by simp[z8.add,<- hr.len]
  have cc:(kill σ tok++[b9.tipT t0 (Y.length+new.length)])[σ.length]?=some (.tipT t0 (Y.length+new.length)):=by rw[<- fh];simp
  obtain⟨fD,eA⟩:=aW.settleCells cB cc;have hx:=(gc.trans aE).trans fD;refine⟨_,_,_,hx,eA,?_,hk⟩;have aq:=a1m (rest:=Builtin.zeroCells z.cells (c'- (Y.length+new.length))) cE aR ba bY (λi j r c hi hj=>(dF i j r c hi hj).1) (λi j r c hi hj=>(bg i j r c hi hj).1);have hq:∀i j r c,(Y++new)[i]?=some r->r[j]?=some c->i*s+j< (Y.length+new.length)*s:=λi j r c hi hj=>by
   have bo:=(n_2.1 hi).1;rw[bU]at bo;have bS:j<s:=by have:=(n_2.1 hj).1;rwa[bT r (n_3 hi)]at this
   have:(i+1)*s<=(Y.length+new.length)*s:=S7 _ bo;rw[Q1]at this;omega
  refine RV.list' (b:=w.drew.heap.size) (off:=0) (s:=s) bU.symm (λi j=>(old++arr++Builtin.zeroCells z.cells (c'- (Y.length+new.length))).getD (i*s+j) undef) (by rw[bU];exact cz) (by unfold maxLen;omega) O (λh=>by cases h) Y1 bT (λr hr c hc=>?_) (λi j r c hi hj=>⟨.inr (.inr ⟨O,by rw[O7];exact hq i j r c hi hj⟩),?_⟩) (λi j r c hi hj=>?_) (λk' aC=>⟨s,?_,O,O,λ_=>O⟩)
  .rcases T9.1 hr with h|h
   .obtain ⟨i,hi⟩:=K5.1 h;obtain⟨j,hj⟩:=K5.1 hc;exact(dF i j r c hi hj).2
   .obtain ⟨i,hi⟩:=K5.1 h;obtain⟨j,hj⟩:=K5.1 hc;exact(bg i j r c hi hj).2
  .rw [O7,World.cell?_alloc_new];have:=(aq i j r c hi hj).1;rw[a1t this,Z6,a1t this];rfl
  .exact (aq i j r c hi hj).2.mono (aE.trans fD)
  .injection aC with aC
   subst aC;exact cB
theorem a8W{tok:Option Nat}{ti:TypeInfo}(ho:o.op = .call {callee:=.builtin .append,args:=#[x,y],argTypes:=#[t,t2]})(hx:E.valid x)(hy:E.valid y)(ex:E.val C x= .list Y nn tok)
 (aJ:∀M w v,Rel C M σ w->RV M w (E.val C y) v->c01 C w M new s v)(hu:∀w,(underlying t).run C.P w= .ok (.slice e) w)(hs:∀w,(sizeOf e).run C.P w= .ok s w)(ca:∀w,(typeInfo e).run C.P w= .ok ti w)(hz:∀w,(zeroValue e).run C.P w= .ok z w)(bn:z.cells.size=s)
 (dE:(∀w,(underlying t2).run C.P w= .ok (.slice e) w)\/∀w,(underlying t2).run C.P w= .ok .string w)(ht0:t0=none\/t0=some e)(fL:t0.isSome=true->s=1)(bI:c2U t0 σ Y nn tok)(ba:∀r∈Y,r.length=s)(bC:new≠[])(hb:(Y.length+new.length)*ti.bytes<=140737488355328)(aQ:Y.length+new.length<=9223372036854775807)
 (hk:K (.ret (.list (Y++new) true (some σ.length))) (kill σ tok++[.tipT t0 (Y.length+new.length)])):G5 C σ E o K:=
 b2m ho hx hy ex aJ hu hs ca hz bn dE ht0 fL (.inl bI) ba bC hb aQ hk
theorem b65{tok:Option Nat}{ti:TypeInfo}(ho:o.op = .call {callee:=.builtin .append,args:=#[x,y],argTypes:=#[t,t]})(hx:E.valid x)(hy:E.valid y)(ex:E.val C x= .list Y nn tok)
 (aJ:∀M w v,Rel C M σ w->RV M w (E.val C y) v->Src C M w new s v)(hu:∀w,(underlying t).run C.P w= .ok (.slice e) w)(hs:∀w,(sizeOf e).run C.P w= .ok s w)(ca:∀w,(typeInfo e).run C.P w= .ok ti w)(hz:∀w,(zeroValue e).run C.P w= .ok z w)(bn:z.cells.size=s)
 (bI:e0o σ Y nn tok)(ba:∀r∈Y,r.length=s)(bC:new≠[])(hb:(Y.length+new.length)*ti.bytes<=140737488355328)(aQ:Y.length+new.length<=9223372036854775807)
 (hk:K (.ret (.list (Y++new) true (some σ.length))) (kill σ tok++[.tip (Y.length+new.length)])):G5 C σ E o K:=
 a8W ho hx hy ex (λM w v hr h=>(aJ M w v hr h).any) hu hs ca hz bn (.inl hu) (.inl O) (λh=>by cases h) bI ba bC hb aQ hk
end
section
def c0E(z:Value):List CV:=(I0 z).cells
theorem d7J(bR:L2 z=true)(cX:(I0 z).one=true\/∃cs,I0 z= .agg cs)(bn:z.cells.size=s)(aw:∀q,q<n*s->arr.getD q undef=z.cells.getD (q%s) undef)(i j:Nat)(r:List CV)(c:CV)(hi:(List.replicate n (c0E z))[i]?=some r)(hj:r[j]?=some c):
 RV M w c (arr.getD (i*s+j) undef)/\c.one=true:=by
 have ga:RV M w (I0 z) z:=a0y bR;obtain⟨g1,g2,g3⟩:=ga.cells cX;rw[d1o]at hi;split at hi
 .rename_i bO;injection hi with hi
  subst hi;have bS:=(n_2.1 hj).1;have hjs:j<s:=by rw[<- bn,g1];exact bS
  have hq:i*s+j<n*s:=by
   have:(i+1)*s<=n*s:=S7 _ bO;rw[Q1]at this;omega
  rw[aw _ hq,(c1Z hjs).2];exact⟨g3 j c hj,g2 c (n_3 hj)⟩
 .cases hi
theorem b9B(bR:L2 z=true)(cX:(I0 z).one=true\/∃cs,I0 z= .agg cs)(bn:z.cells.size=s):(c0E z).length=s:=by
 have ga:RV ⟨[],λ_=>False,λ_ _=>False,λ_=>False⟩ default (I0 z) z:=a0y bR;have:=(ga.cells cX).1;rw[bn]at this;exact this.symm
theorem b4l{z:Array Value}{q:Nat}(hs:z.size=s)(hq:q<n*s):((Array.range (n*s)).map (z[·%z.size]!)).getD q undef=z.getD (q%s) undef:=by
 have h0:0<s:=by
  rcases b9a s with h|h
  .subst h;simp at hq
  .exact h
 have hms:q%s<s:=a6i _ h0;simp[hq,hs,hms]
theorem c1x{c:Nat}{kx ky:IntKind}{b:Int}{ti:TypeInfo}(ho:o.op = .makeSlice t x y)(hx:E.valid x)(hy:E.valid y)(ex:E.val C x= .val (.int kx a))(ey:E.val C y= .val (.int ky b))(ha:a=n)(hb:b=c)
 (hu:∀w,(underlying t).run C.P w= .ok (.slice e) w)(hs:∀w,(sizeOf e).run C.P w= .ok s w)(ca:∀w,(typeInfo e).run C.P w= .ok ti w)(hz:∀w,(zeroValue e).run C.P w= .ok z w)(bR:L2 z=true)(cX:(I0 z).one=true\/∃cs,I0 z= .agg cs)(bn:z.cells.size=s)
 (hnc:n<=c)(aQ:c<=9223372036854775807)(hby:ti.bytes*c<=281474976710656)(hk:K (.ret (.vec σ.length 0 n)) (σ++[.vec s (List.replicate n (c0E z))])):G5 C σ E o K:=λM w ρ hr hh=>by
 subst ha hb;have h1:=hh x u0 hx;have h2:=hh y u0 hy;rw[ex]at h1;rw[ey]at h2;have e1:IntKind.i64.wrap (n:Int)=n:=b0O G G;have e2:IntKind.i64.wrap (c:Int)=c:=b0O G G;have e3:((ti.bytes:Int)*(c:Int) > 2^48)=False:=by
  have h:((ti.bytes*c:Nat):Int)<=281474976710656:=by omega
  rw[Int.natCast_mul]at h;simp;omega
 have aS:(if c*s=0 then(#[]:Array Value)else z.cells)=(if c*s=0 then #[]else z.cells):=O;have hnlt:¬((c:Int)<n):=by omega
 have au:(execOp ρ o).run C.P w= .ok (.value (.slice (some ⟨w.heap.size,0,none⟩) n c)) (w.alloc (.cells ((Array.range (c*s)).map (z.cells[·%z.cells.size]!)) e)):=by
  have e4:¬(2^48< (ti.bytes:Int)*(c:Int)):=D e3;by_cases h0:c*s=0
  .have er:Array.range 0= #[]:=O;simp[execOp,ho,Instr.makeSlice,hu,p8 h1,p8 h2,asInt,asIntOf,ca,e1,e2,hs,h0,newRow,er,hnlt]at e4⊢;intro h;exfalso
   rcases h with(h|h)|h<;>omega
  .simp [execOp,ho,Instr.makeSlice,hu,p8 h1,p8 h2,asInt,asIntOf,ca,e1,e2,hs,h0,hz,newRow,hnlt]at e4⊢;intro h;exfalso
   rcases h with(h|h)|h<;>omega
 rw[au];have hx:=Ext.alloc hr ⟨w.heap.size,c,s⟩ (.cells ((Array.range (c*s)).map (z.cells[·%z.cells.size]!)) e);have gb:=b9B bR cX bn;refine⟨.vec σ.length 0 n,_,_,hx,hr.alloc ⟨w.heap.size,c,s⟩ _ (.vec s (List.replicate n (c0E z))) O ⟨O,D hnc,by unfold maxLen;simp only;omega,λr hr=>by rw[(List.mem_replicate.1 hr).2,gb],λr hr c hc=>?_,_,e,r9 _ _,U,λi j r c' hi hj=>?_⟩,?_,hk⟩
 .rw [(List.mem_replicate.1 hr).2]at hc;have ga:RV M w (I0 z) z:=a0y bR;exact(ga.cells cX).2.1 c hc
 .exact (d7J (n:=n) bR cX bn (λq hq=>b4l bn (a8E hq (S7 _ hnc))) i j r c' hi hj).1
 .have:=RV.vec (M:=M.add ⟨w.heap.size,c,s⟩) (w:=w.alloc (.cells ((Array.range (c*s)).map (z.cells[·%z.cells.size]!)) e)) (k:=σ.length) (off:=0) (len:=n) (p:=⟨w.heap.size,c,s⟩) (a:=⟨w.heap.size,0,none⟩) a7w (D hnc) b9L (λ_=>by simp);exact this
theorem d6B{len:Nat}(ho:o.op = .call {callee:=.builtin .clear,args:=#[x],argTypes:=#[t]})(hx:E.valid x)(ex:E.val C x= .vec k off len)
 (hu:∀w,(underlying t).run C.P w= .ok (.slice e) w)(hz:∀w,(zeroValue e).run C.P w= .ok z w)(bR:L2 z=true)(cX:(I0 z).one=true\/∃cs,I0 z= .agg cs)(bn:z.cells.size=s)(aC:σ[k]?=some (.vec s Y))(hl:off+len<=Y.length)
 (hk:K (.ret (.val (.tuple #[]))) (σ.set k (.vec s (J7 Y off (List.replicate len (c0E z)))))):G5 C σ E o K:=λM w ρ hr hh=>by
 have h1:=hh x H0 hx;rw[ex]at h1;generalize hv:ρ x=v at h1;cases h1 with
 |vec hp g1 g2 g3=>
  rename_i p a;have dQ:=(hr.obj k p _ hp aC).1;have bj:Y.length<=p.cap:=dQ.2.1;have cj:p.size=s:=dQ.1;have gb:=b9B bR cX bn;have hzc:(Builtin.zeroCells z.cells len)=(Array.range (len*s)).map (z.cells[·%z.cells.size]!):=by simp[Builtin.zeroCells,bn]
  obtain⟨w',aF,ay,bl⟩:=a3T hr hp aC (p:=off) (new:=List.replicate len (c0E z)) (arr:=Builtin.zeroCells z.cells len) G H6 (λr hr=>by rw[(List.mem_replicate.1 hr).2,gb]) (by simp[R5,bn])
   (λi j r c hi hj=>d7J (n:=len) bR cX bn (λq hq=>by rw[hzc];exact b4l bn hq) i j r c hi hj)
  have au:(execOp ρ o).run C.P w= .ok (.value (.tuple #[])) w':=by
   rcases len with _|len
   .have fZ:(Builtin.zeroCells z.cells 0).toList=[]:=by simp[Builtin.zeroCells]
    rw[fZ]at aF;have:w'=w:=by
     have h2:(storeCells ⟨p.block,off*s,none⟩ []).run C.P w= .ok () w:=by simp[storeCells]
     rw[h2]at aF;injection aF with _ h3
     exact h3.symm
    subst this;simp[execOp,ho,resolve,invoke,builtin,Builtin.clear_,hu,hv]
   .have hst':(storeCells a (Builtin.zeroCells z.cells (len+1)).toList).run C.P w= .ok () w':=by
     rw[g3 G,cj];exact aF
    simp[execOp,ho,resolve,invoke,builtin,Builtin.clear_,hu,hv,hz,hst']
  rw[au];exact⟨_,_,M,ay,bl,.val _,hk⟩
theorem b1u{ti:TypeInfo}(ho:o.op = .call {callee:=.builtin .append,args:=#[x,y],argTypes:=#[t,t]})(hx:E.valid x)(hy:E.valid y)(ex:E.val C x= .vec k 0 Y.length)
 (aJ:∀M w v,Rel C M σ w->RV M w (E.val C y) v->Src C M w new s v)(hu:∀w,(underlying t).run C.P w= .ok (.slice e) w)(hs:∀w,(sizeOf e).run C.P w= .ok s w)(ca:∀w,(typeInfo e).run C.P w= .ok ti w)(hz:∀w,(zeroValue e).run C.P w= .ok z w)(bn:z.cells.size=s)
 (aC:σ[k]?=some (.vec s Y))(bC:new≠[])(hb:(Y.length+new.length)*ti.bytes<=140737488355328)(aQ:Y.length+new.length<=9223372036854775807)
 (hk:K (.ret (.vec σ.length 0 (Y.length+new.length))) (σ.set k .dead++[.vec s (Y++new)])):G5 C σ E o K:=λM w ρ hr hh=>by
 have h1:=hh x H0 hx;have h2:=hh y H0 hy;rw[ex]at h1;have hnl:0<new.length:=a6M.2 bC;have hsx:=a3W hr h1 aC (b6T (O7 _));rw[b0k,a57]at hsx;have aj:=(aJ M w _ hr h2).lenOf;have bb:(execOp ρ o).run C.P w=((Builtin.append_ #[t,t] o.type #[ρ x,ρ y]).run C.P w).andThen λv w=>.ok (.value v) w:=by
  simp[execOp,ho,resolve,invoke,builtin]
 generalize hv:ρ x=v at h1 hsx;cases h1 with
 |vec hp g1 g2 g3=>
  rename_i p a;have dQ:=(hr.obj k p _ hp aC).1;have bj:Y.length<=p.cap:=dQ.2.1;have cj:p.size=s:=dQ.1;subst cj;by_cases cq:Y.length+new.length<=p.cap
  .obtain ⟨an,cn,hvn,_,bY,arr,ci,aR,bg⟩:=aJ M w _ hr h2;obtain⟨w',aF,ay,bl⟩:=a3T hr hp aC (p:=Y.length) (new:=new) (n_6 _) cq bY aR bg;have ha:=g3 G;rw[Nat.zero_mul]at ha;have bI:=Y9 (P:=C.P) (ty:=o.type) (b:=p.block) (off:=0) (n:=Y.length) (m:=new.length) (c:=p.cap -0) hu (.inl hu) hs aj ci G (by rw[O7];exact aF);rw[bb,hv,ha,bI];simp only[Result.andThen_ok];have ah:J7 Y Y.length new=Y++new:=by simp[J7]
   rw[ah]at bl;have bm:k<σ.length:=(n_2.1 aC).1;have cc:(σ.set k (.vec p.size (Y++new)))[k]?=some (.vec p.size (Y++new)):=by rw[b0e bm]
   have aE:Ext M w' (M.add p) w':=⟨⟨[p],O⟩,λ_ h=>h,λ_ _ h=>.inr h,λ_ _=>O,λ_ _ _=>O,n_6 _,T4,O,O,O,λ_ h=>⟨h,O,id,λ_=>id⟩⟩;have hd:=bl.dead k;rw[List.set_set]at hd;have hobj':=bl.obj k p _ hp cc;have aq:∀{j:Nat} {q:Pl},(M.add p).pl[j]?=some q->(j<σ.length/\M.pl[j]?=some q)\/(j=σ.length/\q=p):=by
    intro j q hj;simp only[z8.add,a6O,hr.len]at hj;split at hj
    .exact .inl ⟨‹_›,hj⟩
    .have:j-σ.length=0:=by
      have:=(n_2.1 hj).1;simp at this;omega
     rw[this]at hj;simp at hj;exact .inr ⟨G,hj.symm⟩
   have fA:∀{j:Nat} {x:b9},(σ.set k b9.dead++[b9.vec p.size (Y++new)])[j]?=some x->(j<σ.length/\(σ.set k b9.dead)[j]?=some x)\/(j=σ.length/\x= .vec p.size (Y++new)):=by
    intro j x hj;rw[a6O]at hj;split at hj
    .exact .inl ⟨by rename_i h;simpa using h,hj⟩
    .have:j- (σ.set k b9.dead).length=0:=by
      have:=(n_2.1 hj).1;simp at this⊢;omega
     rw[this]at hj;simp at hj;rename_i h2;have aj:(σ.set k b9.dead).length=σ.length:=by simp
     exact .inr ⟨G,hj.symm⟩
   have dO:∀{j:Nat} {q:Pl} {x:b9},M.pl[j]?=some q->(σ.set k b9.dead)[j]?=some x->x.live=true->q.block≠p.block:=by
    intro j q x hj dA hl e;have hjk:j≠k:=by
     rintro rfl;rw[b0e bm]at dA;injection dA with dA
     subst dA;cases hl
    have ff:σ[j]?=some x:=by rwa[a0S (Ne.symm hjk)]at dA
    exact hjk (hr.inj j k q p x _ hj hp ff aC hl O e)
   refine⟨.vec σ.length 0 (Y.length+new.length),_,M.add p,ay.trans aE,⟨by simp[z8.add,hr.len],λb o' ha=>bl.blk b o' ha,λj q x hj dA=>?_,λj j' q q' x x' hj dz dA ff hl bL hb=>?_,λg cells hg=>(bl.glob g cells hg).mono aE,bl.kep,λj q x hj dA cp=>?_⟩,?_,hk⟩
   .rcases fA dA with⟨af,h⟩|⟨rfl,rfl⟩
    .rcases aq hj with⟨_,hq⟩|⟨rfl,_⟩
     .obtain ⟨h1,h2⟩:=hd.obj j q x hq h;refine⟨?_,h2⟩;by_cases hl:x.live=true
      .exact h1.mono aE O (λ_ _ _ _ h=>h)
      .cases x<;>first|trivial|simp[b9.live]at hl
     .omega
    .rcases aq hj with⟨h,_⟩|⟨_,rfl⟩
     .omega
     .exact ⟨hobj'.1.mono aE O (λ_ _ _ _ h=>h),hobj'.2⟩
   .rcases fA dA with⟨af,h⟩|⟨rfl,rfl⟩
    .rcases aq hj with⟨_,hq⟩|⟨rfl,_⟩
     .rcases fA ff with⟨bt,h'⟩|⟨rfl,rfl⟩
      .rcases aq dz with⟨_,eL⟩|⟨rfl,_⟩
       .exact hd.inj j j' q q' x x' hq eL h h' hl bL hb
       .omega
      .rcases aq dz with⟨h0,_⟩|⟨_,rfl⟩
       .omega
       .exact absurd hb (dO hq h hl)
     .omega
    .rcases aq hj with⟨h0,_⟩|⟨_,rfl⟩
     .omega
     .rcases fA ff with⟨bt,h'⟩|⟨rfl,rfl⟩
      .rcases aq dz with⟨_,eL⟩|⟨rfl,_⟩
       .exact absurd hb.symm (dO eL h' bL)
       .omega
      .rfl
   .rcases fA dA with⟨af,h⟩|⟨rfl,rfl⟩
    .rcases aq hj with⟨_,hq⟩|⟨rfl,_⟩
     .exact hd.nk j q x hq h cp
     .omega
    .rcases aq hj with⟨h0,_⟩|⟨_,rfl⟩
     .omega
     .exact hr.nk k q _ hp aC O
   .exact RV.vec (M:=M.add p) (w:=w') (k:=σ.length) (off:=0) (len:=Y.length+new.length) (p:=p) (a:=⟨p.block,0,none⟩) a7w G g2 (λ_=>by simp)
  .obtain ⟨dB,gc⟩:=hr.drewN;have ez:RV M w.drew (.vec k 0 Y.length) (.slice (some a) Y.length (p.cap -0)):=.vec hp g1 g2 g3;have dq:=a3W dB ez aC (b6T (O7 _));rw[b0k,a57]at dq;obtain⟨a1,c1,dX,_,ba,old,hfo,cE,dF⟩:=dq;obtain⟨an,cn,hvn,_,bY,arr,ci,aR,bg⟩:=aJ M w.drew _ dB (a4c h2);obtain⟨c',cz,dM,au⟩:=S3 (P:=C.P) (ty:=o.type) (a:=some a) (c:=p.cap -0) (w:=w) hu (.inl hu) hs ca hz aj hfo ci G aQ hb;rw[bb,hv,au];simp only[Result.andThen_ok];have fg:w.drew.heap.size=w.heap.size:=O;rw[<- fg];have hrk:=dB.dead k;have dr:(old++arr++Builtin.zeroCells z.cells (c'- (Y.length+new.length))).size=c'*p.size:=by
    simp only[b3L,R5,cE,aR,bn];rw[<- Q1,<- Q1]
    congr 1;omega
   have aE:=Ext.alloc hrk ⟨w.drew.heap.size,c',p.size⟩ (.cells (old++arr++Builtin.zeroCells z.cells (c'- (Y.length+new.length))) e);have bT:∀r∈Y++new,r.length=p.size:=λr hr=>by
    rcases T9.1 hr with h|h
    .exact ba r h
    .exact bY r h
   have aq:=a1m (rest:=Builtin.zeroCells z.cells (c'- (Y.length+new.length))) cE aR ba bY (λi j r c hi hj=>(dF i j r c hi hj).1) (λi j r c hi hj=>(bg i j r c hi hj).1);have aW:=hrk.alloc ⟨w.drew.heap.size,c',p.size⟩ (.cells (old++arr++Builtin.zeroCells z.cells (c'- (Y.length+new.length))) e) (.vec p.size (Y++new)) O
    ⟨O,D cz,by unfold maxLen;simp only;omega,bT,λr hr c hc=>(by
     rcases T9.1 hr with h|h
     .obtain ⟨i,hi⟩:=K5.1 h;obtain⟨j,hj⟩:=K5.1 hc;exact(dF i j r c hi hj).2
     .obtain ⟨i,hi⟩:=K5.1 h;obtain⟨j,hj⟩:=K5.1 hc;exact(bg i j r c hi hj).2),_,e,r9 _ _,dr,λi j r c hi hj=>((aq i j r c hi hj).2.mono aE)⟩
   refine⟨.vec σ.length 0 (Y.length+new.length),_,_,gc.trans aE,aW,?_,hk⟩;exact RV.vec (M:=M.add ⟨w.drew.heap.size,c',p.size⟩) (k:=σ.length) (off:=0) (len:=Y.length+new.length) (p:=⟨w.drew.heap.size,c',p.size⟩) (a:=⟨w.drew.heap.size,0,none⟩) a7w (D cz) b9L (λ_=>by simp)
end
def A7.jump(l:Nat)(Jb:Env->List b9->Prop)(Jh:A7->Env->List b9->Prop):A7->Env->List b9->Prop
 | .goto l',E,σ=>l'=l/\Jb E σ
 |e,E,σ=>Jh e E σ
theorem c9q{Jh:A7->Env->List b9->Prop}{c rest:Code}(l:Nat)(Jb:Nat->Env->List b9->Prop)(hf:findLabel c l=some rest)
 (first:CWp C n c (A7.jump l (λE σ=>∃m,Jb m E σ) Jh) E σ)(pass:∀m E σ,Jb m E σ->CWp C n rest (A7.jump l (λE' aa=>∃m',m'<m/\Jb m' E' aa) Jh) E σ):CWp C n (.scope c) Jh E σ:=λM w a hr hfr=>by
 intro b k cs;have hg:gotoIn l (.inScope c::k)=some (.code rest::.inScope c::k):=by simp[gotoIn,hf]
 have key:∀m E σ M1 w1 a1,Jb m E σ->Ext M w M1 w1->Rel C M1 σ w1->I3 M1 w1 n E a1 ->
  ∃e a' w',Q8 C n Jh M w e a' w'/\Arrives C.P (lone (b.at a1 (.code rest::.inScope c::k)) cs w1) b k cs e a' w':=by
  intro m
  induction m using Nat.strongRecOn with
  |_ m ih=>
   intro E σ M1 w1 a1 hJ hx aI di;obtain⟨e,a2,w2,hq,aw⟩:=pass m E σ hJ M1 w1 a1 aI di b (.inScope c::k) cs;obtain⟨E',aa,M',h1,h2,h3,h4⟩:=hq;cases e with
   |normal=>exact⟨.normal,a2,w2,⟨E',aa,M',hx.trans h1,h2,h3,h4⟩,Steps.trans aw (.one step_inScope)⟩
   |exit id=>exact⟨.exit id,a2,w2,⟨E',aa,M',hx.trans h1,h2,h3,h4⟩,λk' hk=>aw k' (by simp[exitTo,hk])⟩
   |goto l'=>
    obtain⟨rfl,m',af,hJ'⟩:=h4;obtain⟨dj,dl,dm,bM,aP⟩:=ih m' af E' aa M' w2 a2 hJ' (hx.trans h1) h2 h3;exact⟨dj,dl,dm,bM,.of_steps (aw _ hg) aP⟩
   |ret=>exact⟨.ret,a2,w2,⟨E',aa,M',hx.trans h1,h2,h3,h4⟩,aw⟩
   |panic ch=>exact⟨.panic ch,a2,w2,⟨E',aa,M',hx.trans h1,h2,h3,h4⟩,aw⟩
   |outgrown=>exact h4.elim
 obtain⟨e,a1,w1,hq,aw⟩:=first M w a hr hfr b (.inScope c::k) cs
 obtain⟨E',aa,M',h1,h2,h3,h4⟩:=hq;cases e with
 |normal=>exact⟨.normal,a1,w1,⟨E',aa,M',h1,h2,h3,h4⟩,.head step_scope (Steps.trans aw (.one step_inScope))⟩
 |exit id=>exact⟨.exit id,a1,w1,⟨E',aa,M',h1,h2,h3,h4⟩,λk' hk=>.head step_scope (aw k' (by simp[exitTo,hk]))⟩
 |goto l'=>
  obtain⟨rfl,m,hJ⟩:=h4;obtain⟨dj,dl,dm,bM,aP⟩:=key m E' aa M' w1 a1 hJ h1 h2 h3;exact⟨dj,dl,dm,bM,.of_steps (.head step_scope (aw _ hg)) aP⟩
 |ret=>exact⟨.ret,a1,w1,⟨E',aa,M',h1,h2,h3,h4⟩,.of_steps (.one step_scope) aw⟩
 |panic ch=>exact⟨.panic ch,a1,w1,⟨E',aa,M',h1,h2,h3,h4⟩,.of_steps (.one step_scope) aw⟩
 |outgrown=>exact h4.elim
inductive Old(n:Nat):CV->Prop where
 |val (v:Value):Old n (.val v)
 |agg {cs:List CV}:(∀(i:Nat) (c:CV),cs[i]?=some c->Old n c)->Old n (.agg cs)
 |tup {cs:List CV}:(∀(i:Nat) (c:CV),cs[i]?=some c->Old n c)->Old n (.tup cs)
 |clo {f:FuncId} {cs:List CV}:(∀(i:Nat) (c:CV),cs[i]?=some c->Old n c)->Old n (.clo f cs)
 |list {Y:List (List CV)} {nn:Bool} {tok:Option Nat}:(∀(i j:Nat) (r:List CV) (c:CV),Y[i]?=some r->r[j]?=some c->Old n c)->(∀k,tok=some k->k<n)->Old n (.list Y nn tok)
 |ptr {k off:Nat}:k<n->Old n (.ptr k off)
 |cptr {cells:List CV}:(∀(j:Nat) (c:CV),cells[j]?=some c->Old n c)->Old n (.cptr cells)
 |eptr {k i off:Nat}:k<n->Old n (.eptr k i off)
 |vec {k off len:Nat}:k<n->Old n (.vec k off len)
 |map {k:Nat}:k<n->Old n (.map k)
 |yld {k:Nat}:k<n->Old n (.yld k)
theorem RV.old(h:RV M w c v):Old M.pl.length c:=by
 induction h with
 |val v=>exact .val v
 |agg _ _ _ ih=>exact .agg ih
 |tup _ _ ih=>exact .tup ih
 |clo _ _ ih=>exact .clo ih
 |list vals _ _ _ _ _ _ _ _ _ cA ih=>
  exact .list ih λk hk=>(by
   obtain⟨s',hp,_⟩:=cA k hk;exact(n_2.1 hp).1)
 |ptr hk=>exact .ptr (n_2.1 hk).1
 |cptr _ _ _ _ ih=>exact .cptr ih
 |eptr hk=>exact .eptr (n_2.1 hk).1
 |vec hk=>exact .vec (n_2.1 hk).1
 |map hk=>exact .map (n_2.1 hk).1
 |yld hk=>exact .yld (n_2.1 hk).1
structure Cut(n:Nat)(M M':z8):Prop where
 pl:M'.pl=M.pl.take n
 full:∀b,M.full b->M'.full b
 cell:∀b o,M.cell b o->M'.at b o
theorem Cut.at(h:Cut n M M'){o:Nat}(ha:M.at b o):M'.at b o:=by
 rcases ha with ha|ha
 .exact .inl (h.full _ ha)
 .exact h.cell _ _ ha
theorem Cut.get(h:Cut n M M')(hk:k<n)(hp:M.pl[k]?=some p):M'.pl[k]?=some p:=by
 rw[h.pl,a2q,Q hk];exact hp
theorem RV.cut(hc:Cut n M M')(h:RV M w c v)(ho:Old n c):RV M' w c v:=by
 induction h with
 |val v=>exact .val v
 |agg h1 h2 _ ih=>cases ho with|agg ho=>exact .agg h1 h2 λi c hi=>ih i c hi (ho i c hi)
 |tup h1 _ ih=>cases ho with|tup ho=>exact .tup h1 λi c hi=>ih i c hi (ho i c hi)
 |clo h1 _ ih=>cases ho with|clo ho=>exact .clo h1 λi c hi=>ih i c hi (ho i c hi)
 |list vals h1 h2 h3 h4 h5 h6 h7 h8 _ bp ih=>
  cases ho with
  |list ho ht=>
   exact .list vals h1 h2 h3 h4 h5 h6 h7 (λi j r c hi hj=>⟨hc.at (h8 i j r c hi hj).1,(h8 i j r c hi hj).2⟩) (λi j r c hi hj=>ih i j r c hi hj (ho i j r c hi hj)) λk hk=>by
    obtain⟨s',hp,aY⟩:=bp k hk;exact⟨s',hc.get (ht k hk) hp,aY⟩
 |ptr hk=>cases ho with|ptr ho=>exact .ptr (hc.get ho hk)
 |cptr vals h1 h2 _ ih=>cases ho with|cptr ho=>exact .cptr vals h1 (λj c hj=>⟨hc.at (h2 j c hj).1,(h2 j c hj).2⟩) λj c hj=>ih j c hj (ho j c hj)
 |eptr hk=>cases ho with|eptr ho=>exact .eptr (hc.get ho hk)
 |vec hk h1 h2 h3=>cases ho with|vec ho=>exact .vec (hc.get ho hk) h1 h2 h3
 |map hk=>cases ho with|map ho=>exact .map (hc.get ho hk)
 |yld hk=>cases ho with|yld ho=>exact .yld (hc.get ho hk)
inductive Cls(n:Nat)(σ:List b9):CV->CV->Prop where
 |old {c:CV}:Old n c->Cls n σ c c
 |agg {cs aX:List CV}:cs.length=aX.length->(∀(i:Nat) (c c':CV),cs[i]?=some c->aX[i]?=some c'->Cls n σ c c')->Cls n σ (.agg cs) (.agg aX)
 |tup {cs aX:List CV}:cs.length=aX.length->(∀(i:Nat) (c c':CV),cs[i]?=some c->aX[i]?=some c'->Cls n σ c c')->Cls n σ (.tup cs) (.tup aX)
 |clo {f:FuncId} {cs aX:List CV}:cs.length=aX.length->(∀(i:Nat) (c c':CV),cs[i]?=some c->aX[i]?=some c'->Cls n σ c c')->Cls n σ (.clo f cs) (.clo f aX)
 |list {Y rows':List (List CV)} {nn:Bool} {tok:Option Nat}:Y.length=rows'.length->(∀(i:Nat) (r r':List CV),Y[i]?=some r->rows'[i]?=some r'->r.length=r'.length) ->
  (∀(i j:Nat) (r r':List CV) (c c':CV),Y[i]?=some r->rows'[i]?=some r'->r[j]?=some c->r'[j]?=some c'->Cls n σ c c')->Cls n σ (.list Y nn tok) (.list rows' nn none)
 |vec {k off len s:Nat} {Y rows':List (List CV)}:n<=k->σ[k]?=some (.vec s Y)->off+len<=Y.length->((Y.drop off).take len).length=rows'.length->(∀(i:Nat) (r r':List CV),((Y.drop off).take len)[i]?=some r->rows'[i]?=some r'->r.length=r'.length) ->
  (∀(i j:Nat) (r r':List CV) (c c':CV),((Y.drop off).take len)[i]?=some r->rows'[i]?=some r'->r[j]?=some c->r'[j]?=some c'->Cls n σ c c')->Cls n σ (.vec k off len) (.list rows' true none)
theorem Cls.one(h:Cls n σ c c')(ho:c.one=true):c'.one=true:=by
 cases h<;>first|exact ho|rfl|(simp[CV.one]at ho)
theorem r7{β:Type}{l:List α}{l':List β}(h:l.length=l'.length){x:β}(hx:l'[i]?=some x):∃y,l[i]?=some y:=by
 have:=(n_2.1 hx).1;exact⟨l[i],by simp[h,this]⟩
theorem RV.close(hr:Rel C M σ w)(hc:Cut n M M')(iA:∀(k:Nat) (p:Pl) (s:Nat) (Y:List (List CV)),n<=k->M.pl[k]?=some p->σ[k]?=some (.vec s Y)->M'.full p.block)(h:Cls n σ c c')(hv:RV M w c v):RV M' w c' v:=by
 induction h generalizing v with
 |old ho=>exact hv.cut hc ho
 |agg hl fM ih=>
  cases hv with
  |agg h1 h2 h3=>
   refine .agg G (λc hcm=>?_) (λi c' hi=>?_)
   .obtain ⟨i,hi⟩:=K5.1 hcm;obtain⟨y,hy⟩:=r7 hl hi;exact(fM i y c hy hi).one (h2 y (n_3 hy))
   .obtain ⟨y,hy⟩:=r7 hl hi;exact ih i y c' hy hi (h3 i y hy)
 |tup hl _ ih=>
  cases hv with
  |tup h1 h3=>
   refine .tup G (λi c' hi=>?_);obtain⟨y,hy⟩:=r7 hl hi;exact ih i y c' hy hi (h3 i y hy)
 |clo hl _ ih=>
  cases hv with
  |clo h1 h3=>
   refine .clo G (λi c' hi=>?_);obtain⟨y,hy⟩:=r7 hl hi;exact ih i y c' hy hi (h3 i y hy)
 |list hl iB fM ih=>
  obtain⟨a,cap,b,off,s,vals,rfl,h1,h2,h3,h4,h5,h6,h7,h8,h9,_⟩:=hv.list_inv;rename_i Y rows' nn tok;refine RV.list' hl (b:=b) (off:=off) (s:=s) vals G h2 h3 h4 (λax=>h5 λe=>ax (c1p (by rw[<- hl,e];rfl))) (λr' bl=>?_) (λr' bl c' bx=>?_) (λi j r' c' hi hj=>?_) (λi j r' c' hi hj=>?_) (λk hk=>by cases hk)
  .obtain ⟨i,hi⟩:=K5.1 bl;obtain⟨r,bH⟩:=r7 hl hi;rw[<- iB i r r' bH hi];exact h6 r (n_3 bH)
  .obtain ⟨i,hi⟩:=K5.1 bl;obtain⟨r,bH⟩:=r7 hl hi;obtain⟨j,hj⟩:=K5.1 bx;obtain⟨c,eP⟩:=r7 (iB i r r' bH hi) hj;exact(fM i j r r' c c' bH hi eP hj).one (h7 r (n_3 bH) c (n_3 eP))
  .obtain ⟨r,bH⟩:=r7 hl hi;obtain⟨c,eP⟩:=r7 (iB i r r' bH hi) hj;exact⟨hc.at (h8 i j r c bH eP).1,(h8 i j r c bH eP).2⟩
  .obtain ⟨r,bH⟩:=r7 hl hi;obtain⟨c,eP⟩:=r7 (iB i r r' bH hi) hj;exact ih i j r r' c c' bH hi eP hj (h9 i j r c bH eP)
 |vec hk ao aM hl iB fM ih=>
  cases hv with
  |vec hp g1 g2 g3=>
   rename_i k off len s Y rows' p a;have hfp:=iA k p s Y hk hp ao;obtain⟨⟨cj,q1,q2,q3,q4,arr,ty,q5,q6,q7⟩,_⟩:=hr.obj k p _ hp ao;have aj:((Y.drop off).take len).length=len:=by simp;omega
   have aq:∀i r,((Y.drop off).take len)[i]?=some r->i<len/\Y[off+i]?=some r:=λi r hi=>by
    rw[a2q]at hi;split at hi
    .rw [a6d]at hi;exact⟨‹_›,hi⟩
    .cases hi
   have gd:rows'≠[]->off<p.cap:=λax=>by
    have:0<rows'.length:=a6M.2 ax;omega
   refine RV.list' (L:=len) G (b:=p.block) (off:=off*p.size) (s:=p.size) (λi j=>arr.getD ((off+i)*p.size+j) undef) G G O (λh=>by cases h) (λax=>by rw[g3 (gd ax)]) (λr' bl=>?_) (λr' bl c' bx=>?_) (λi j r' c' hi hj=>?_) (λi j r' c' hi hj=>?_) (λk hk=>by cases hk)
   .obtain ⟨i,hi⟩:=K5.1 bl;obtain⟨r,bH⟩:=r7 hl hi;rw[<- iB i r r' bH hi];exact q3 r (n_3 (aq i r bH).2)
   .obtain ⟨i,hi⟩:=K5.1 bl;obtain⟨r,bH⟩:=r7 hl hi;obtain⟨j,hj⟩:=K5.1 bx;obtain⟨c,eP⟩:=r7 (iB i r r' bH hi) hj;exact(fM i j r r' c c' bH hi eP hj).one (q4 r (n_3 (aq i r bH).2) c (n_3 eP))
   .obtain ⟨r,bH⟩:=r7 hl hi;obtain⟨c,eP⟩:=r7 (iB i r r' bH hi) hj;obtain⟨bo,hri⟩:=aq i r bH;have bS:j<p.size:=by have:=(n_2.1 eP).1;rwa[q3 r (n_3 hri)]at this
    have hq:(off+i)*p.size+j<arr.size:=by
     rw[q6];have:(off+i+1)*p.size<=p.cap*p.size:=S7 _ G;rw[Q1 (off+i)]at this;omega
    refine⟨.inl hfp,?_⟩;rw[show off*p.size+i*p.size+j=(off+i)*p.size+j from by rw[Q1 off]];simp[World.cell?,q5,hq]
   .obtain ⟨r,bH⟩:=r7 hl hi;obtain⟨c,eP⟩:=r7 (iB i r r' bH hi) hj;exact ih i j r r' c c' bH hi eP hj (q7 _ _ _ _ (aq i r bH).2 eP)
def z8.cutAt(M:z8)(n:Nat)(σ:List b9):z8:=
 {pl:=M.pl.take n,full:=λb=>M.full b\/∃k p ob,n<=k/\M.pl[k]?=some p/\σ[k]?=some ob/\ob.live=true/\p.block=b,cell:=M.cell,keep:=M.keep}
theorem Rel.cut{az:List b9}(h0:Rel C M0 σ w0)(hx:Ext M0 w0 M w)(hr:Rel C M (σ++az) w):
 Rel C (M.cutAt σ.length (σ++az)) σ w/\Cut σ.length M (M.cutAt σ.length (σ++az))/\Ext M0 w0 (M.cutAt σ.length (σ++az)) w:=by
 have aO:Cut σ.length M (M.cutAt σ.length (σ++az)):=⟨O,λ_ h=>.inl h,λ_ _ h=>.inr h⟩;obtain⟨l,hl⟩:=hx.pl;have bc:(M.cutAt σ.length (σ++az)).pl=M0.pl:=by
  show M.pl.take σ.length=M0.pl;rw[hl,<- h0.len,List.take_left]
 have ay:Ext M0 w0 (M.cutAt σ.length (σ++az)) w:=⟨⟨[],by rw[bc];simp⟩,λb h=>.inl (hx.full b h),λb o h=>aO.at (hx.cell b o h),hx.same,hx.sameC,hx.size,hx.drew,hx.os,hx.tape,hx.output,λb hb=>(by
  obtain⟨k1,k2,k3,k4⟩:=hx.kept b hb;refine⟨k1,k2,λf=>?_,k4⟩
  rcases f with f|⟨k,p,ob,_,hp,hs,cp,rfl⟩
  .exact k3 f
  .exact absurd k1 (hr.nk k p ob hp hs cp))⟩
 have aq:∀{k:Nat} {p:Pl},(M.cutAt σ.length (σ++az)).pl[k]?=some p->k<σ.length/\M.pl[k]?=some p/\M0.pl[k]?=some p:=by
  intro k p hk;have h1:M0.pl[k]?=some p:=by rw[<- bc];exact hk
  have af:k<σ.length:=by rw[<- h0.len];exact(n_2.1 h1).1
  exact⟨af,hx.get h1,h1⟩
 have ao:∀{k:Nat} {ob:b9},σ[k]?=some ob->(σ++az)[k]?=some ob:=by
  intro k ob h;rw[T7 (n_2.1 h).1];exact h
 refine⟨⟨by rw[bc,h0.len],λb o ha=>?_,λk p ob hk hs=>?_,λk k' p p' ob aL hk aC hs aT dL da hb=>hr.inj k k' p p' ob aL (aq hk).2.1 (aq aC).2.1 (ao hs) (ao aT) dL da hb,λg cells hg=>(h0.glob g cells hg).mono ay,hr.kep,λk p ob hk hs cp=>hr.nk k p ob (aq hk).2.1 (ao hs) cp⟩,aO,ay⟩
 .rcases ha with(ha|⟨k,p,ob,_,hp,hs,hl,rfl⟩)|ha
  .exact hr.blk b o (.inl ha)
  .exact (hr.obj k p ob hp hs).1.lt hl
  .exact hr.blk b o (.inr ha)
 .obtain ⟨af,hp,hp0⟩:=aq hk;obtain⟨h1,h2⟩:=hr.obj k p ob hp (ao hs);have fN:=(h0.obj k p ob hp0 hs).1;have ge:ob.live=true->¬M.full p.block->¬(M.cutAt σ.length (σ++az)).full p.block:=λcp ge h=>by
   rcases h with h|⟨k',p',aL,aC,aG,aT,bL,hb⟩
   .exact ge h
   .have:=hr.inj k' k p' p aL ob aG hp aT (ao hs) bL cp hb;omega
  have old:∀{c:CV} {v v':Value},RV M0 w0 c v'->RV M w c v->RV (M.cutAt σ.length (σ++az)) w c v:=λh h'=>h'.cut aO (by rw[<- h0.len];exact h.old);refine⟨?_,?_⟩
  .cases ob with
   |dead=>trivial
   |boxT t0 cells=>
    obtain⟨arr,ty,e1,e2,e3,e4⟩:=h1;obtain⟨arr0,ty0,f1,f2,f3,f4⟩:=fN;exact⟨arr,ty,e1,e2,e3,λi c hi=>old (f4 i c hi) (e4 i c hi)⟩
   |tipT t0 m=>exact h1
   |blk o=>exact h1
   |lp o n cs=>
    obtain⟨tm,e1,e2,e3⟩:=h1;obtain⟨tm0,f1,f2,f3⟩:=fN;exact⟨tm,e1,e2,λx hi=>old (f3 x hi) (e3 x hi)⟩
   |vec s Y=>
    obtain⟨e0,e1,e2,e3,e4,arr,ty,e5,e6,e7⟩:=h1;obtain⟨f0,f1,f2,f3,f4,arr0,ty0,f5,f6,f7⟩:=fN;exact⟨e0,e1,e2,e3,e4,arr,ty,e5,e6,λi j r c hi hj=>old (f7 i j r c hi hj) (e7 i j r c hi hj)⟩
   |map es=>
    obtain⟨ae,ai,e1,e2,e3⟩:=h1;obtain⟨ents0,clock0,f1,f2,f3⟩:=fN;refine⟨ae,ai,e1,e2,λi x hi=>?_⟩;obtain⟨e,g1,g2,g3,g4⟩:=e3 i x hi;obtain⟨e',gA,gU,g3',g4'⟩:=f3 i x hi;exact⟨e,g1,old gU g2,old g3' g3,g4⟩
   |iter aD left=>
    obtain⟨mb,seen,bF,ae,ai,e1,e2,e3,e4,e5,e6,e7,e8,e9⟩:=h1;obtain⟨mb0,seen0,last0,ents0,clock0,f1,f2,f3,f4,f5,f6,f7,f8,f9⟩:=fN;refine⟨mb,seen,bF,ae,ai,e1,aO.full _ e2,e3,e4,e5,e6,e7,λi x hi=>?_,λi x hi=>?_⟩
    .obtain ⟨e,g1,g2,g3⟩:=e8 i x hi;obtain⟨e',gA,gU,g3'⟩:=f8 i x hi;exact⟨e,g1,old gU g2,old g3' g3⟩
    .obtain ⟨hl,j,e,g0,g1,g2,g3⟩:=e9 i x hi;obtain⟨_,j',e',_,_,gU,g3'⟩:=f9 i x hi;exact⟨hl,j,e,g0,g1,old gU g2,old g3' g3⟩
  .cases ob with
   |dead=>trivial
   |tipT t0 m=>exact ge O h2
   |_=>exact⟨ge O h2.1,h2.2⟩
theorem a7T{K:CV->Prop}(h:b8 C f args σ λr aa=>∃az c c',aa=σ++az/\r= .ret c/\Cls σ.length aa c c'/\K c'):b8 C f args σ λr aa=>(∃c,r= .ret c/\K c)/\aa=σ:=
 λM w vs hr hn hx=>(h M w vs hr hn hx).mono λe w' he=>by
  cases e with
  |returned v=>
   obtain⟨c,aa,M',h1,h2,h3,az,c0,c',rfl,h5,h6,h7⟩:=he;injection h5 with h5
   subst h5;obtain⟨g1,g2,g3⟩:=hr.cut h1 h2;exact⟨c',σ,_,g3,g1,RV.close h2 g2 (λk p s Y hk hp hs=>.inr ⟨k,p,_,hk,hp,hs,O,O⟩) h6 h3,⟨c',O,h7⟩,O⟩
  |panicked ch=>
   obtain⟨c,v,aa,M',h0,h1,h2,h3,az,c0,c',h4,h5,_⟩:=he;cases h5
  |outgrown=>exact he
theorem c7{c0:CV}(h:b8 C f args σ λr aa=>∃az c,aa=σ++az/\r= .ret c/\Cls σ.length aa c c0):b8 C f args σ λr aa=>r= .ret c0/\aa=σ:=
 (a7T (K:=λc=>c=c0) (h.mono λ_ _ ⟨az,c,h1,h2,h3⟩=>⟨az,c,c0,h1,h2,h3,O⟩)).mono λ_ _ ⟨⟨_,h1,h2⟩,h3⟩=>⟨h2▸h1,h3⟩
inductive p9:CV->Prop where
 |val (v:Value):p9 (.val v)
 |agg {cs:List CV}:(∀c∈cs,p9 c)->p9 (.agg cs)
 |tup {cs:List CV}:(∀c∈cs,p9 c)->p9 (.tup cs)
 |clo {f:FuncId} {cs:List CV}:(∀c∈cs,p9 c)->p9 (.clo f cs)
 |list {Y:List (List CV)} {nn:Bool}:(∀r∈Y,∀c∈r,p9 c)->p9 (.list Y nn none)
theorem p9.old(h:p9 c):Old n c:=by
 induction h with
 |val v=>exact .val v
 |agg _ ih=>exact .agg λi c hi=>ih c (n_3 hi)
 |tup _ ih=>exact .tup λi c hi=>ih c (n_3 hi)
 |clo _ ih=>exact .clo λi c hi=>ih c (n_3 hi)
 |list _ ih=>exact .list (λi j r c hi hj=>ih r (n_3 hi) c (n_3 hj)) (λk hk=>by cases hk)
theorem Cls.pure(h:p9 c):Cls n σ c c:=.old h.old
theorem Cls.tok{n:Nat}{σ:List b9}{Y:List (List CV)}{nn:Bool}{tok:Option Nat}(h:∀r∈Y,∀c∈r,p9 c):Cls n σ (.list Y nn tok) (.list Y nn none):=
 .list O (λi r r' h1 h2=>by rw[h1]at h2;injection h2 with h2;rw[h2]) λi j r r' c c' h1 h2 h3 h4=>by
  rw[h1]at h2;injection h2 with h2
  subst h2;rw[h3]at h4;injection h4 with h4
  subst h4;exact .pure (h r (n_3 h1) c (n_3 h3))
variable{tok:Option Nat}
theorem Cls.vecs{len:Nat}{rows':List (List CV)}(hk:n<=k)(ao:σ[k]?=some (.vec s Y))(hl:off+len<=Y.length)(he:(Y.drop off).take len=rows')(h:∀r∈rows',∀c∈r,p9 c):Cls n σ (.vec k off len) (.list rows' true none):=by
 subst he;exact .vec hk ao hl O (λi r r' h1 h2=>by rw[h1]at h2;injection h2 with h2;rw[h2]) λi j r r' c c' h1 h2 h3 h4=>by
  rw[h1]at h2;injection h2 with h2
  subst h2;rw[h3]at h4;injection h4 with h4
  subst h4;exact .pure (h r (n_3 h1) c (n_3 h3))
def a69(n:Nat)(σ:List b9):List CV->List CV->Prop
 | [],[]=>True
 |c::cs,c'::aX=>Cls n σ c c'/\a69 n σ cs aX
 |_,_=>False
theorem a69.get:∀{cs aX:List CV},a69 n σ cs aX->cs.length=aX.length/\∀(i:Nat) (c c':CV),cs[i]?=some c->aX[i]?=some c'->Cls n σ c c'
 | [],[],_=>⟨O,U⟩
 |c::cs,c'::aX,⟨h1,h2⟩=>by
  obtain⟨h3,h4⟩:=a69.get h2;refine⟨by simp[h3],λi x x' hx ay=>?_⟩
  rcases i with _|i
  .simp at hx ay;subst hx ay;exact h1
  .exact h4 i x x' (D hx) (D ay)
theorem Cls.aggs{aX:List CV}(h:a69 n σ cs aX):Cls n σ (.agg cs) (.agg aX):=.agg h.get.1 h.get.2
theorem Cls.tups{aX:List CV}(h:a69 n σ cs aX):Cls n σ (.tup cs) (.tup aX):=.tup h.get.1 h.get.2
section
def plain(l:List Value):CV:=.agg (l.map .val)
theorem a1n{l:List Value}{u:Value}(h:RV M w (plain l) u):u= .agg l.toArray:=by
 cases h with
 |agg h1 h2 h3=>
  rename_i vs
  congr 1
  apply b5v;intro i
  rcases a4x i l.length with hi|hi
  .have hl:(l.map CV.val)[i]?=some (.val l[i]):=by simp[hi]
   have:=p8 (h3 i _ hl);have hv:i<vs.size:=by rw[h1];simpa using hi
   simp only[Z6,a1t hv,a84]at this;rw[a1t hv,this];simp[hi]
  .have hv:vs.size<=i:=by rw[h1];simpa using hi
   rw[b0q hv];simp[hi]
theorem b05{t':TypeId}{xs ys:List Value}{r:Bool}(ho:o.op = .binOp .eql t x y t')(hx:E.valid x)(hy:E.valid y)(ex:E.val C x=plain xs)(ey:E.val C y=plain ys)
 (hg:C.P.eqGuardType C.P.depth t=false)(he:∀w,(Op.equal t (.agg xs.toArray) (.agg ys.toArray)).run C.P w= .ok r w):l8 C σ E o (.val (.bool r)):=
 i8 λM w ρ _ h=>by
  have h1:=h x u0 hx;have h2:=h y u0 hy;rw[ex]at h1;rw[ey]at h2;exact⟨.bool r,by simp[execOp,ho,a1n h1,a1n h2,eqGuard,hg,binOp,he],.val _⟩
theorem d8c{t':TypeId}{xs ys:List Value}{r:Bool}(ho:o.op = .binOp .neq t x y t')(hx:E.valid x)(hy:E.valid y)(ex:E.val C x=plain xs)(ey:E.val C y=plain ys)
 (hg:C.P.eqGuardType C.P.depth t=false)(he:∀w,(Op.equal t (.agg xs.toArray) (.agg ys.toArray)).run C.P w= .ok r w):l8 C σ E o (.val (.bool (!r))):=
 i8 λM w ρ _ h=>by
  have h1:=h x u0 hx;have h2:=h y u0 hy;rw[ex]at h1;rw[ey]at h2;exact⟨.bool (!r),by simp[execOp,ho,a1n h1,a1n h2,eqGuard,hg,binOp,he],.val _⟩
theorem N0{r:Nat}{ae:Array MapEntry}(h:w.heap[r]?=some (.map ae ai)):(getObj r).run P w= .ok (.map ae ai) w:=by
 simp[getObj,Sem.run,h]
theorem R9(ho:o.op = .makeMap t none)(hk:K (.ret (.map σ.length)) (σ++[.map []])):G5 C σ E o K:=λM w ρ hr _=>by
 have au:(execOp ρ o).run C.P w= .ok (.value (.map (some w.heap.size))) (w.alloc (.map #[] 0)):=by
  simp[execOp,ho,Instr.makeMap]
 rw[au];have hx:=Ext.alloc hr ⟨w.heap.size,0,0⟩ (.map #[] 0);exact⟨.map σ.length,_,_,hx,hr.alloc ⟨w.heap.size,0,0⟩ _ (.map []) O ⟨#[],0,r9 _ _,⟨O,λi j e e' h=>by simp at h⟩,U⟩,RV.map (p:=⟨w.heap.size,0,0⟩) a7w,hk⟩
theorem Rel.setObj(hr:Rel C M σ w){q:Nat}{es es':List (CV×CV)}{dR:Array MapEntry}{dS:Nat}(hp:M.pl[q]?=some p)(ao:σ[q]?=some (.map es))(aK:dR.size=es'.length)(gB:b1b dR)(h:∀(i:Nat) (x:CV×CV),es'[i]?=some x->∃e,dR[i]?=some e/\RV M w x.1 e.key/\RV M w x.2 e.val/\e.born <dS):
 Ext M w M (World.putObj w p.block (.map dR dS))/\Rel C M (σ.set q (.map es')) (World.putObj w p.block (.map dR dS)):=by
 obtain⟨h1,hf,hc⟩:=hr.obj q p _ hp ao;have af:=h1.lt O;have hx:=Ext.putObj (w:=w) (.map dR dS) (hr.nk q p _ hp ao O) hf hc;refine⟨hx,hr.putObj hp ao O hf hc _ ⟨dR,dS,World.putObj_same w _ af,⟨aK,gB⟩,λi x hi=>?_⟩⟩;obtain⟨e,g1,g2,g3,g4⟩:=h i x hi;exact⟨e,g1,g2.mono hx,g3.mono hx,g4⟩
theorem b1b.push{ae:Array MapEntry}(h:b1b ae)(hb:∀(i:Nat) (e:MapEntry),ae[i]?=some e->e.born <ai){e0:MapEntry}(h0:e0.born=ai):b1b (ae.push e0):=λi j e e' hi hj he=>by
 rw[b99]at hi hj;split at hi<;>split at hj
 .omega
 .injection hi with hi
  have:=hb j e' hj;rw[<- hi,h0]at he;omega
 .injection hj with hj
  have:=hb i e hi;rw[<- hj,h0]at he;omega
 .exact h i j e e' hi hj he
theorem b1b.modify{ae:Array MapEntry}(h:b1b ae){f:MapEntry->MapEntry}(hf:∀e,(f e).born=e.born):b1b (ae.modify k f):=λi j e e' hi hj he=>by
 have key:∀{i:Nat} {e:MapEntry},(ae.modify k f)[i]?=some e->∃e1,ae[i]?=some e1/\e1.born=e.born:=λ{i e} hi=>by
  rw[c0q]at hi;split at hi
  .obtain ⟨e1,h1,rfl⟩:=Q3.1 hi;exact⟨e1,h1,(hf e1).symm⟩
  .exact ⟨e,hi,O⟩
 obtain⟨e1,h1,b1⟩:=key hi;obtain⟨e2,h2,b2⟩:=key hj;exact h i j e1 e2 h1 h2 (by rw[b1,b2];exact he)
theorem a5t{r:Nat}{ae:Array MapEntry}(o':Obj)(h:w.heap[r]?=some (.map ae ai)):(setObj r o').run P w= .ok () (World.putObj w r o'):=by
 simp[setObj,Sem.run,h,World.putObj]
end
theorem RV.pure(h:∀b o,M.at b o->M'.at b o/\w'.cell? ⟨b,o,none⟩=w.cell? ⟨b,o,none⟩)(hr:RV M w c v)(hp:p9 c):RV M' w' c v:=by
 induction hr with
 |val v=>exact .val v
 |agg h1 h2 _ ih=>cases hp with|agg hp=>exact .agg h1 h2 λi c hi=>ih i c hi (hp c (n_3 hi))
 |tup h1 _ ih=>cases hp with|tup hp=>exact .tup h1 λi c hi=>ih i c hi (hp c (n_3 hi))
 |clo h1 _ ih=>cases hp with|clo hp=>exact .clo h1 λi c hi=>ih i c hi (hp c (n_3 hi))
 |list vals h1 h2 h3 h4 h5 h6 h7 h8 _ bp ih=>
  cases hp with
  |list hp=>exact .list vals h1 h2 h3 h4 h5 h6 h7 (λi j r c hi hj=>⟨(h _ _ (h8 i j r c hi hj).1).1,(h _ _ (h8 i j r c hi hj).1).2.trans (h8 i j r c hi hj).2⟩) (λi j r c hi hj=>ih i j r c hi hj (hp r (n_3 hi) c (n_3 hj))) λk hk=>by cases hk
 |ptr _=>cases hp
 |cptr _ _ _ _ _=>cases hp
 |eptr _=>cases hp
 |vec _ _ _ _=>cases hp
 |map _=>cases hp
 |yld _=>cases hp
theorem b2V{K:CV->Prop}(ap:∀a∈args,p9 a)(hc:∀c,K c->p9 c)(fO:∀g cells,C.glob g=some cells->∀c∈cells,p9 c)(h:b8 C f args [] λr aa=>(∃c,r= .ret c/\K c)/\aa=[])(σ:List b9):b8 C f args σ λr aa=>(∃c,r= .ret c/\K c)/\aa=σ:=
 λM w vs hr hn hx=>by
  let LB:Nat->Prop:=λb=>∃(k:Nat) (p:Pl) (ob:b9),M.pl[k]?=some p/\σ[k]?=some ob/\ob.live=true/\p.block=b
  let M0:z8:={pl:=[],full:=M.full,cell:=M.cell,keep:=λb=>M.keep b\/LB b}
  have aU:∀b o,M.at b o->M0.at b o/\w.cell? ⟨b,o,none⟩=w.cell? ⟨b,o,none⟩:=λb o h=>⟨h,O⟩;have hLB:∀b,LB b->b<w.heap.size:=λb ⟨k,p,ob,hp,hs,hl,hb⟩=>hb▸(hr.obj k p ob hp hs).1.lt hl;have bH:Rel C M0 [] w:=⟨O,hr.blk,λk p ob hp=>by simp[M0]at hp,λk k' p p' ob aL hp=>by simp[M0]at hp,λg cells hg=>⟨by
   have:=(hr.glob g cells hg).rv;cases this with
   |cptr vals h1 h2 h3=>exact .cptr vals h1 h2 λj c hj=>(h3 j c hj).pure aU (fO g cells hg c (n_3 hj)),(hr.glob g cells hg).full,(hr.glob g cells hg).sz⟩,
   λb hb=>(by
    rcases hb with hb|hb
    .exact hr.kep b hb
    .exact hLB b hb),λk p ob hp=>by simp[M0]at hp⟩
  refine(h M0 w vs bH hn λi a hi=>(hx i a hi).pure aU (ap a (n_3 hi))).mono λe w' he=>?_;cases e with
  |panicked ch=>
   obtain⟨c',v,aa,M',_,_,_,_,⟨⟨c0,h5,_⟩,_⟩⟩:=he;cases h5
  |outgrown=>exact he
  |returned v=>
   obtain⟨c',aa,M',h1,h2,h3,⟨⟨c0,h4,hK⟩,rfl⟩⟩:=he;injection h4 with h4
   subst h4
   let M2:z8:={pl:=M.pl,full:=M'.full,cell:=M'.cell,keep:=M.keep}
   have aE:Ext M w M2 w':=⟨⟨[],by simp[M2]⟩,h1.full,h1.cell,h1.same,h1.sameC,h1.size,h1.drew,h1.os,h1.tape,h1.output,λb hb=>by
    obtain⟨k1,k2,k3,k4⟩:=h1.kept b (.inl hb);exact⟨hb,k2,k3,k4⟩⟩
   refine⟨c',σ,M2,aE,⟨hr.len,h2.blk,λk p ob hp hs=>?_,hr.inj,λg cells hg=>(hr.glob g cells hg).mono aE,λb hb=>a8E (hr.kep b hb) h1.size,hr.nk⟩,h3.pure (M:=M') (M':=M2) (w':=w') (λb o h=>⟨h,O⟩) (hc _ hK),⟨c',O,hK⟩,O⟩;by_cases hl:ob.live=true
   .obtain ⟨k1,k2,k3,k4⟩:=h1.kept p.block (.inr ⟨k,p,ob,hp,hs,hl,O⟩);obtain⟨g1,g2⟩:=hr.obj k p ob hp hs;refine⟨g1.mono aE k2 (λ_ _ _ o ho=>k4 o ho),?_⟩;cases ob with
    |dead=>trivial
    |tipT t0 n=>exact λhf=>g2 (k3 hf)
    |_=>exact⟨λhf=>g2.1 (k3 hf),λo ho=>g2.2 o (k4 o ho)⟩
   .cases ob<;>first|exact⟨J,J⟩|simp[b9.live]at hl
theorem b5y(ap:∀a∈args,p9 a)(hc:p9 c)(fO:∀g cells,C.glob g=some cells->∀c∈cells,p9 c)(h:b8 C f args [] λr aa=>r= .ret c/\aa=[])(σ:List b9):b8 C f args σ λr aa=>r= .ret c/\aa=σ:=
 (b2V (K:=λc'=>c'=c) ap (λ_ h=>h▸hc) fO (h.mono λ_ _ ⟨h1,h2⟩=>⟨⟨c,h1,O⟩,h2⟩) σ).mono λ_ _ ⟨⟨_,h1,h2⟩,h3⟩=>⟨h2▸h1,h3⟩
section
def c95:CV->Bool
 | .agg _=>true
 |c=>c.one
theorem a2J(h:c95 c=true):c.one=true\/∃cs,c= .agg cs:=by
 cases c<;>first|exact .inl h|exact .inr ⟨_,O⟩|(simp[c95,CV.one]at h)
def c2v(ps:List (Nat×CV)):Bool:=ps.all λx=>c95 x.2
theorem a8Y(h:c2v ps=true):∀x∈ps,x.2.one=true\/∃cs,x.2 = .agg cs:=λx hx=>a2J (a6b.1 h x hx)
def a73(C:Ctx)(E:Env):List (Nat×Operand)->List (Nat×CV)
 | []=>[]
 |(i,x)::l=>(i,E.val C x)::a73 C E l
theorem a5R:∀(l:List (Nat×Operand)),l.map (λx=>(x.1,E.val C x.2))=a73 C E l
 | []=>rfl
 |(i,x)::l=>by simp[a73,a5R l]
def a7Q(E:Env):List (Nat×Operand)->Prop
 | []=>True
 |(_,x)::l=>E.valid x/\a7Q E l
theorem a2z{E:Env}:∀{l:List (Nat×Operand)},a7Q E l->∀x∈l,E.valid x.2
 | [],_,x,h=>by simp at h
 |(i,y)::l,⟨h1,h2⟩,x,h=>by
  rcases J2.1 h with rfl|h
  .exact h1
  .exact a2z h2 x h
theorem A1{fs:Array Field}(cu:Array (Nat×Nat)){out:List CV}(ho:o.op = .build t parts)(hv:a7Q E parts.toList)
 (hu:∀w,(underlying t).run C.P w= .ok (.struct fs) w)(hz:∀w,(zeroValue t).run C.P w= .ok z w)(bR:L2 z=true)(cX:∃cs,I0 z= .agg cs)
 (bc:∀w,(fs.mapM λ(f:Field)=>do pure (f.offset,<- sizeOf f.type)).run C.P w= .ok cu w)
 (aN:c2v (a73 C E parts.toList)=true)(bG:b3K cu (I0 z).cells (a73 C E parts.toList)=some out):l8 C σ E o (.agg out):=
 d4o ho (a2z hv) hu hz bR cX bc (a5R _) (a8Y aN) bG
theorem A9{len:Nat}(Y:List (List CV))(ho:o.op = .buildSlice t len parts)(hv:a7Q E parts.toList)
 (hu:∀w,(underlying t).run C.P w= .ok (.slice e) w)(hs:∀w,(sizeOf e).run C.P w= .ok s w)(hz:∀w,(zeroValue e).run C.P w= .ok z w)(bR:L2 z=true)(cX:c95 (I0 z)=true)(gb:(I0 z).cells.length=s)(eZ:Nat.blt 0 s=true)
 (aj:Nat.ble (len*s) 16777216=true)(aN:c2v (a73 C E parts.toList)=true)
 (bG:a5o (λi=>some (i*s,s)) ((List.range (len*s)).map λi=>(I0 z).cells.getD (i%s) default) (a73 C E parts.toList)=some Y.flatten)(cQ:Y.length=len)(ba:(Y.all λr=>Nat.beq r.length s)=true):l8 C σ E o (.list Y true none):=
 b5K ho (by
  have:=a2z hv;have key:∀l:List Operand,(∀x∈l,E.valid x)->E.valids l:=by
   intro l
   induction l with
   |nil=>intro _;trivial
   |cons x l ih=>intro h;exact⟨h x U,ih λy hy=>h y (by simp[hy])⟩
  exact key _ λx hx=>by
   obtain⟨p,hp,rfl⟩:=D6.1 hx;exact this p hp) hu hs hz bR (a2J cX) gb (by simpa[b2q]using eZ) (by have:=nb aj;omega) (a5R _) (a8Y aN) bG cQ (λr hr=>a3H (a6b.1 ba r hr))
theorem a43(ey:E.val C y= .list Y nn tok)(ba:∀r∈Y,r.length=s):∀M w v,Rel C M σ w->RV M w (E.val C y) v->Src C M w Y s v:=λ_ _ _ _ h=>by
 rw[ey]at h;exact a1f h ba
theorem a2b{f:α->List CV}(h:∀a,(f a).length=s)(l:List α):∀r∈l.map f,r.length=s:=λr hr=>by
 obtain⟨a,_,rfl⟩:=D6.1 hr;exact h a
theorem C6{f:α->List CV}(h:∀a,∀c∈f a,p9 c)(l:List α):∀r∈l.map f,∀c∈r,p9 c:=λr hr=>by
 obtain⟨a,_,rfl⟩:=D6.1 hr;exact h a
theorem j5{f:α->List CV}{l:List α}{a:α}(h:l[i]?=some a):(l.map f)[i]?=some (f a):=by
 rw[O2,h];rfl
end
def F7(n:Nat):b9->Prop
 | .dead=>True
 | .boxT _ cells=>∀c∈cells,Old n c
 | .tipT _ _=>True
 | .vec _ Y=>∀r∈Y,∀c∈r,Old n c
 | .map es=>∀x∈es,Old n x.1/\Old n x.2
 | .iter aD es=>(∀x∈aD,Old n x.1/\Old n x.2)/\∀x∈es,Old n x.1/\Old n x.2
 | .blk _=>True
 | .lp _ _ cs=>∀x∈cs,Old n x.2
def a4L(n:Nat):List b9->Prop
 | []=>True
 |ob::l=>F7 n ob/\a4L n l
theorem a4L.get:∀{l:List b9},a4L n l->∀(k:Nat) (ob:b9),l[k]?=some ob->F7 n ob
 | [],_,_,_,h=>by simp at h
 |o::l,⟨h1,h2⟩,k,ob,h=>by
  rcases k with _|k
  .simp at h;subst h;exact h1
  .exact a4L.get h2 k ob (D h)
def d1J(n:Nat):List (Nat×CV)->Prop
 | []=>True
 |(_,c)::l=>Old n c/\d1J n l
theorem Rel.cutObj{az:List b9}(hr:Rel C M (σ++az) w)(bQ:a4L σ.length σ)(fO:∀g cells,C.glob g=some cells->∀c∈cells,p9 c):
 Rel C (M.cutAt σ.length (σ++az)) σ w/\Cut σ.length M (M.cutAt σ.length (σ++az))/\∀M0 w0,Ext M0 w0 M w->M0.pl.length<=σ.length->Ext M0 w0 (M.cutAt σ.length (σ++az)) w:=by
 have aO:Cut σ.length M (M.cutAt σ.length (σ++az)):=⟨O,λ_ h=>.inl h,λ_ _ h=>.inr h⟩;have aq:∀{k:Nat} {p:Pl},(M.cutAt σ.length (σ++az)).pl[k]?=some p->k<σ.length/\M.pl[k]?=some p:=by
  intro k p hk;have hk:(M.pl.take σ.length)[k]?=some p:=hk;rw[a2q]at hk;split at hk
  .exact ⟨‹_›,hk⟩
  .cases hk
 have ao:∀{k:Nat} {ob:b9},σ[k]?=some ob->(σ++az)[k]?=some ob:=by
  intro k ob h;rw[T7 (n_2.1 h).1];exact h
 have aj:σ.length<=M.pl.length:=by rw[hr.len];simp
 refine⟨⟨by show(M.pl.take σ.length).length=_;simp;omega,λb o ha=>?_,λk p ob hk hs=>?_,λk k' p p' ob aL hk aC hs aT dL da hb=>hr.inj k k' p p' ob aL (aq hk).2 (aq aC).2 (ao hs) (ao aT) dL da hb,λg cells hg=>?_,hr.kep,λk p ob hk hs cp=>hr.nk k p ob (aq hk).2 (ao hs) cp⟩,aO,λM0 w0 hx aM=>?_⟩
 .rcases ha with(ha|⟨k,p,ob,_,hp,hs,hl,rfl⟩)|ha
  .exact hr.blk b o (.inl ha)
  .exact (hr.obj k p ob hp hs).1.lt hl
  .exact hr.blk b o (.inr ha)
 .obtain ⟨af,hp⟩:=aq hk;obtain⟨h1,h2⟩:=hr.obj k p ob hp (ao hs);have ho:=bQ.get k ob hs;have ge:ob.live=true->¬M.full p.block->¬(M.cutAt σ.length (σ++az)).full p.block:=λcp ge h=>by
   rcases h with h|⟨k',p',aL,aC,aG,aT,bL,hb⟩
   .exact ge h
   .have:=hr.inj k' k p' p aL ob aG hp aT (ao hs) bL cp hb;omega
  refine⟨?_,?_⟩
  .cases ob with
   |dead=>trivial
   |boxT t0 cells=>
    obtain⟨arr,ty,e1,e2,e3,e4⟩:=h1;exact⟨arr,ty,e1,e2,e3,λi c hi=>(e4 i c hi).cut aO (ho c (n_3 hi))⟩
   |tipT t0 m=>exact h1
   |blk o=>exact h1
   |lp o n cs=>
    obtain⟨tm,e1,e2,e3⟩:=h1;exact⟨tm,e1,e2,λx hi=>(e3 x hi).cut aO (ho x hi)⟩
   |vec s Y=>
    obtain⟨e0,e1,e2,e3,e4,arr,ty,e5,e6,e7⟩:=h1;exact⟨e0,e1,e2,e3,e4,arr,ty,e5,e6,λi j r c hi hj=>(e7 i j r c hi hj).cut aO (ho r (n_3 hi) c (n_3 hj))⟩
   |map es=>
    obtain⟨ae,ai,e1,e2,e3⟩:=h1;refine⟨ae,ai,e1,e2,λi x hi=>?_⟩;obtain⟨e,g1,g2,g3,g4⟩:=e3 i x hi;have:=ho x (n_3 hi);exact⟨e,g1,g2.cut aO this.1,g3.cut aO this.2,g4⟩
   |iter aD es=>
    obtain⟨mb,seen,bF,ae,ai,e1,e2,e3,e4,e5,e6,e7,e8,e9⟩:=h1;refine⟨mb,seen,bF,ae,ai,e1,aO.full _ e2,e3,e4,e5,e6,e7,λi x hi=>?_,λi x hi=>?_⟩
    .obtain ⟨e,g1,g2,g3⟩:=e8 i x hi;have:=ho.2 x (n_3 hi);exact⟨e,g1,g2.cut aO this.1,g3.cut aO this.2⟩
    .obtain ⟨hl,j,e,g0,g1,g2,g3⟩:=e9 i x hi;have:=ho.1 x (n_3 hi);exact⟨hl,j,e,g0,g1,g2.cut aO this.1,g3.cut aO this.2⟩
  .cases ob with
   |dead=>trivial
   |tipT t0 m=>exact ge O h2
   |_=>exact⟨ge O h2.1,h2.2⟩
 .have:=(hr.glob g cells hg);refine⟨?_,aO.full _ this.full,this.sz⟩;exact this.rv.cut aO (.cptr λj c hj=>(fO g cells hg c (n_3 hj)).old)
 .obtain ⟨l,hl⟩:=hx.pl;refine⟨⟨l.take (σ.length -M0.pl.length),?_⟩,λb h=>.inl (hx.full b h),λb o h=>aO.at (hx.cell b o h),hx.same,hx.sameC,hx.size,hx.drew,hx.os,hx.tape,hx.output,λb hb=>?_⟩
  .show M.pl.take σ.length=_;rw[hl,List.take_append,U2 aM]
  .obtain ⟨k1,k2,k3,k4⟩:=hx.kept b hb;refine⟨k1,k2,λf=>?_,k4⟩
   rcases f with f|⟨k,p,ob,_,hp,hs,cp,rfl⟩
   .exact k3 f
   .exact absurd k1 (hr.nk k p ob hp hs cp)
def Env.none:Env:={h:=λ_=>Option.none,g:=λ_=>.two False False}
def Env.only(l:List (Nat×CV)):Env:=Env.none.puts l
theorem I3.only{a:Act}(hc:Cut k M M')(hf:I3 M w n E a):∀{l:List (Nat×CV)},E.is l->d1J k l->I3 M' w n (Env.only l) a
 | [],_,_=>⟨hf.defers,hf.size,λ_ h=>h.elim,λ_ h=>h.elim⟩
 |(t,c)::l,⟨⟨h1,h2⟩,h⟩,⟨h3,h4⟩=>by
  have ih:=I3.only hc hf h h4;refine⟨hf.defers,hf.size,λx hx=>?_,λx hx=>?_⟩
  .show RV M' w (((Env.only l).putO (some t) c .yes).f x) _;have hx:((Env.only l).putO (some t) c .yes).ok x:=hx;rw[Env.putO_f];rw[Env.putO_ok]at hx
   split
   .subst x;exact(h2▸hf.rv t h1:RV M w c _).cut hc h3
   .rename_i ax;rw[W ax]at hx;exact ih.rv x hx
  .have hx:((Env.only l).putO (some t) c .yes).un x:=hx;rw[Env.putO_un]at hx;split at hx
   .exact absurd trivial hx
   .exact ih.un x hx
section
variable{Jh:A7->Env->List b9->Prop}
def Ctx.plain(C:Ctx):Prop:=∀g cells,C.glob g=some cells->∀c∈cells,p9 c
def e0H{α:Type}(l:α->List (Nat×CV))(S:α->List b9)(P:α->Prop)(E':Env)(aa:List b9):Prop:=
 ∃a az,P a/\E'.is (l a)/\aa=S a++az
theorem CWp.upto{c:Code}(hC:C.plain){l:α->List (Nat×CV)}{P:α->Prop}{E':Env}{aa:List b9}(hE:e0H l S P E' aa)(bQ:∀a,P a->d1J (S a).length (l a)/\a4L (S a).length (S a))(k:∀a,P a->CWp C n c Jh (Env.only (l a)) (S a))(aj:∀a,P a->M0.pl.length<=(S a).length){a:Act}(hx:Ext M0 w0 M w)(hr:Rel C M aa w)(hf:I3 M w n E' a):
 c.wp C.P (Q8 C n Jh M0 w0) a w:=by
 obtain⟨x,az,hP,hE,rfl⟩:=hE;obtain⟨h1,h2⟩:=bQ x hP;obtain⟨g1,g2,g3⟩:=hr.cutObj h2 hC;have ay:=g3 M0 w0 hx (aj x hP);exact wp_mono (k x hP _ w a g1 (hf.only g2 hE h1)) λ_ _ _=>Q8.later ay
theorem o4{c:Code}(hC:C.plain)(l:α->List (Nat×CV))(S:α->List b9)(Jd:α->Prop)(m:α->Nat)(a0:α)(h0:Jd a0)(hE:E.is (l a0)){am:List b9}(ao:σ=S a0++am)(aj:∀a,Jd a->σ.length<=(S a).length)(bQ:∀a,Jd a->d1J (S a).length (l a)/\a4L (S a).length (S a))
 (round:∀(a:α),Jd a->CWp C n c (A7.next (e0H l S λa'=>m a'<m a/\Jd a') Jh) (Env.only (l a)) (S a)):CWp C n (.loop c) Jh E σ:=λM w a hr hf=>by
 intro b k cs;have key:∀d (x:α) M1 w1 a1,m x=d->Jd x->Ext M w M1 w1->Rel C M1 (S x) w1->I3 M1 w1 n (Env.only (l x)) a1 ->
  ∃e a' w',Q8 C n Jh M w e a' w'/\Arrives C.P (lone (b.at a1 (.code c::.inLoop c::k)) cs w1) b k cs e a' w':=by
  intro d
  induction d using Nat.strongRecOn with
  |_ d ih=>
   intro x M1 w1 a1 hd hI hx aI di;obtain⟨e,a2,w2,hq,aw⟩:=round x hI M1 w1 a1 aI di b (.inLoop c::k) cs;obtain⟨E',aa,M',h1,h2,h3,h4⟩:=hq;cases e with
   |normal=>
    obtain⟨x',az,⟨af,ij⟩,hE',rfl⟩:=h4;obtain⟨o1,o2⟩:=bQ x' ij;obtain⟨g1,g2,g3⟩:=h2.cutObj o2 hC;have ay:=g3 M w (hx.trans h1) (by rw[hr.len];exact aj x' ij);obtain⟨dj,dl,dm,bM,aP⟩:=ih (m x') G x' _ w2 a2 O ij ay g1 (h3.only g2 hE' o1);exact⟨dj,dl,dm,bM,.of_steps (Steps.trans aw (.one step_inLoop)) aP⟩
   |exit id=>exact⟨_,a2,w2,⟨E',aa,M',hx.trans h1,h2,h3,h4⟩,.pass (x:=.inLoop c) O (λ_ _=>.inl U) aw⟩
   |goto l=>exact⟨_,a2,w2,⟨E',aa,M',hx.trans h1,h2,h3,h4⟩,.pass (x:=.inLoop c) O (λ_ _=>.inl U) aw⟩
   |ret=>exact⟨_,a2,w2,⟨E',aa,M',hx.trans h1,h2,h3,h4⟩,.pass (x:=.inLoop c) O (λ_ _=>.inl U) aw⟩
   |panic ch=>exact⟨_,a2,w2,⟨E',aa,M',hx.trans h1,h2,h3,h4⟩,.pass (x:=.inLoop c) O (λ_ _=>.inl U) aw⟩
   |outgrown=>exact h4.elim
 have hlen0:=aj a0 h0;have gg:am=[]:=by
  apply c1p;rw[ao]at hlen0;simp at hlen0;omega
 subst gg;rw[Z7]at ao;subst ao;obtain⟨o1,o2⟩:=bQ a0 h0;have hcut0:Cut (S a0).length M M:=⟨by rw[<- hr.len,a57],λ_ h=>h,λ_ _ h=>.inr h⟩;obtain⟨e,a',w',hq,aw⟩:=key _ a0 M w a O h0 (Ext.refl M w) hr (hf.only hcut0 hE o1);exact⟨e,a',w',hq,.of_steps (.one step_loop) aw⟩
theorem a07{x y:Code}(hC:C.plain)(l:α->List (Nat×CV))(S:α->List b9)(P:α->Prop)(aj:∀a,P a->σ.length<=(S a).length)(bQ:∀a,P a->d1J (S a).length (l a)/\a4L (S a).length (S a))(h:CWp C n x (A7.next (e0H l S P) Jh) E σ)(k:∀a,P a->CWp C n y Jh (Env.only (l a)) (S a)):CWp C n (.seq x y) Jh E σ:=λM w a hr hf=>by
 refine wp_seq (wp_mono (h M w a hr hf) λe a' w' hl=>?_);obtain⟨E',aa,M',h1,h2,h3,h4⟩:=hl;cases e with
 |normal=>exact CWp.upto hC h4 bQ k (λa ha=>by rw[hr.len];exact aj a ha) h1 h2 h3
 |_=>exact⟨E',aa,M',h1,h2,h3,h4⟩
end
def b6z(n:Nat):List CV->Prop
 | []=>True
 |c::l=>Old n c/\b6z n l
theorem A3{n:Nat}:∀{cells:List CV},b6z n cells->F7 n (.box cells)
 | [],_=>λc h=>by simp at h
 |x::l,⟨h1,h2⟩=>λc h=>by
  rcases J2.1 h with rfl|h
  .exact h1
  .exact A3 h2 c h
theorem J5{c0:CV}(h:c=c0)(hp:p9 c0):Cls n σ c c0:=by
 subst h;exact .pure hp
theorem j6{x y:Bool}(h:x=y):Cls n σ (.val (.bool x)) (.val (.bool y)):=h▸ .old (.val _)
theorem B4{k:IntKind}{x y:Int}(h:x=y):Cls n σ (.val (.int k x)) (.val (.int k y)):=h▸ .old (.val _)
theorem a04{x y:ByteArray}(h:x=y):Cls n σ (.val (.string x)) (.val (.string y)):=h▸ .old (.val _)
theorem Z1{β:Type}(f:α->β)(l:List α):((l.map f).length:Int)=(l.length:Int):=by simp
def O4:List CV->Prop
 | []=>True
 |c::l=>p9 c/\O4 l
theorem O4.all:∀{l:List CV},O4 l->∀c∈l,p9 c
 | [],_,c,h=>by simp at h
 |x::l,⟨h1,h2⟩,c,h=>by
  rcases J2.1 h with rfl|h
  .exact h1
  .exact O4.all h2 c h
theorem F3{f:α->List CV}(h:∀a,O4 (f a))(l:List α)(nn:Bool):p9 (.list (l.map f) nn none):=.list (C6 (λa=>(h a).all) l)
theorem b8.anyw(hC:C.plain)(ap:O4 args)(hc:p9 c)(h:b8 C f args [] λr aa=>r= .ret c/\aa=[])(σ:List b9):b8 C f args σ λr aa=>r= .ret c/\aa=σ:=
 b5y ap.all hc hC h σ
def CV.fgt1:CV->CV
 | .list Y nn _=>.list Y nn none
 |c=>c
def CV.fgt:CV->CV
 | .agg cs=>.agg (cs.map CV.fgt1)
 |c=>c.fgt1
theorem CV.one_fgt1(c:CV):c.fgt1.one=c.one:=by cases c<;>rfl
theorem RV.fgt1(h:RV M w c v):RV M w c.fgt1 v:=by
 cases h with
 |list vals h1 h2 h3 h4 h5 h6 h7 h8 h9 bp=>exact .list vals h1 h2 h3 h4 h5 h6 h7 h8 h9 λk hk=>by cases hk
 |val v=>exact .val v
 |agg h1 h2 h3=>exact .agg h1 h2 h3
 |tup h1 h3=>exact .tup h1 h3
 |clo h1 h3=>exact .clo h1 h3
 |ptr hk=>exact .ptr hk
 |cptr vals h1 h2 h3=>exact .cptr vals h1 h2 h3
 |eptr hk=>exact .eptr hk
 |vec hk h1 h2 h3=>exact .vec hk h1 h2 h3
 |map hk=>exact .map hk
 |yld hk=>exact .yld hk
theorem RV.fgt(h:RV M w c v):RV M w c.fgt v:=by
 cases h with
 |agg h1 h2 h3=>
  refine .agg (D h1) (λc hm=>?_) (λi c hi=>?_)
  .obtain ⟨c0,h0,rfl⟩:=D6.1 hm;rw[CV.one_fgt1];exact h2 c0 h0
  .rw [O2,Q3]at hi;obtain⟨c0,h0,rfl⟩:=hi;exact(h3 i c0 h0).fgt1
 |list vals h1 h2 h3 h4 h5 h6 h7 h8 h9 bp=>exact(RV.list vals h1 h2 h3 h4 h5 h6 h7 h8 h9 bp).fgt1
 |val v=>exact .val v
 |tup h1 h3=>exact .tup h1 h3
 |clo h1 h3=>exact .clo h1 h3
 |ptr hk=>exact .ptr hk
 |cptr vals h1 h2 h3=>exact .cptr vals h1 h2 h3
 |eptr hk=>exact .eptr hk
 |vec hk h1 h2 h3=>exact .vec hk h1 h2 h3
 |map hk=>exact .map hk
 |yld hk=>exact .yld hk
section
variable{Jh:A7->Env->List b9->Prop}
theorem a3S(h:b8 C f (args.map CV.fgt) σ K):b8 C f args σ K:=λM w vs hr aK hx=>
 h M w vs hr (D aK) λi c hi=>by
  rw[O2,Q3]at hi;obtain⟨c0,h0,rfl⟩:=hi;exact(hx i c0 h0).fgt
theorem c5(ho:o.op = .call {callee:=.value (.func f),args:=xs,argTypes:=ts})(aA:∀args w,(callFunc f args).run C.P w= .ok (.enter f args) w)
 (hv:E.valids xs.toList)(h:b8 C f cargs σ λr aa=>r= .ret c/\aa=σ)(ea:(E.vals C xs.toList).map CV.fgt=cargs):l8 C σ E o c:=
 e0z ho aA hv O (a3S (ea▸h))
theorem e3s{b:Int}(ha:0<=a)(hb:0<b)(hr:a<=9223372036854775807):b3f .quo .i64 a b=some (.int .i64 (a / b)):=by
 have h1:a.tdiv b=a / b:=c7T ha;have h2:0<=a / b:=Int.ediv_nonneg ha G;have h3:a / b<=a:=Int.ediv_le_self _ ha;have h4:b≠0:=by omega
 simp only[b3f,h1,W h4];rw[b0O G G]
theorem d3Q{b:Int}(hb:b≠0):b3f .rem .i64 a b=some (.int .i64 (a.tmod b)):=by simp[b3f,hb]
theorem c0P{b:Int}(ha:0<=a)(hb:0<b):b3f .rem .i64 a b=some (.int .i64 (a%b)):=by
 rw[d3Q G,Int.tmod_eq_emod_of_nonneg ha]
theorem o0(h:O4 cs):p9 (.agg cs):=.agg h.all
theorem C5(h:O4 cs):p9 (.tup cs):=.tup h.all
end
inductive C3(L:Nat)(ak:List Nat):CV->CV->Prop where
 |old {c:CV}:Old L c->C3 L ak c c
 |agg {cs aX:List CV}:cs.length=aX.length->(∀(i:Nat) (c c':CV),cs[i]?=some c->aX[i]?=some c'->C3 L ak c c')->C3 L ak (.agg cs) (.agg aX)
 |tup {cs aX:List CV}:cs.length=aX.length->(∀(i:Nat) (c c':CV),cs[i]?=some c->aX[i]?=some c'->C3 L ak c c')->C3 L ak (.tup cs) (.tup aX)
 |list {Y:List (List CV)} {nn:Bool} {tok gh:Option Nat}:(∀r∈Y,∀c∈r,Old L c)->(∀j,gh=some j->∃k,tok=some k/\ak[j]?=some k)->C3 L ak (.list Y nn tok) (.list Y nn gh)
 |ptr {k j off:Nat}:ak[j]?=some k->C3 L ak (.ptr k off) (.ptr j off)
 |eptr {k j i off:Nat}:ak[j]?=some k->C3 L ak (.eptr k i off) (.eptr j i off)
 |vec {k j off len:Nat}:ak[j]?=some k->C3 L ak (.vec k off len) (.vec j off len)
 |map {k j:Nat}:ak[j]?=some k->C3 L ak (.map k) (.map j)
 |yld {k j:Nat}:ak[j]?=some k->C3 L ak (.yld k) (.yld j)
theorem C3.same(h:c=c')(ho:Old L c'):C3 L ak c c':=h▸ .old (h▸ho)
theorem C3.one(h:C3 L ak c c'):c'.one=c.one:=by
 cases h<;>rfl
def z8.ren(M:z8)(ak:List Nat):z8:={M with pl:=ak.map λk=>M.pl.getD k ⟨0,0,0⟩}
theorem a2v(hj:ak[j]?=some k)(hk:M.pl[k]?=some p):(M.ren ak).pl[j]?=some p:=by
 show(ak.map λk=>M.pl.getD k ⟨0,0,0⟩)[j]?=some p;rw[O2,hj];simp[hk]
theorem Y6(bD:∀k,k<L->ak[k]?=some k)(hL:L<=M.pl.length)(h:RV M w c v)(ho:Old L c):RV (M.ren ak) w c v:=by
 have hc:Cut L M {M with pl:=M.pl.take L}:=⟨rfl,λ_ h=>h,λ_ _ h=>.inr h⟩;have h1:=h.cut hc ho;refine RV.mono (M:={M with pl:=M.pl.take L}) (M':=M.ren ak) (w:=w) (w':=w) ⟨⟨(M.ren ak).pl.drop L,?_⟩,λ_ h=>h,λ_ _ h=>.inr h,λ_ _=>O,λ_ _ _=>O,n_6 _,T4,O,O,O,λ_ h=>⟨h,O,id,λ_=>id⟩⟩ h1;have:(M.ren ak).pl.take L=M.pl.take L:=by
  refine b02 λi=>?_;rw[a2q,a2q]
  split
  .rename_i hi;have hp:M.pl[i]?=some (M.pl[i]'G):=by simp
   rw[a2v (bD i hi) hp,hp]
  .rfl
 show(M.ren ak).pl=M.pl.take L++_;rw[<- this,b4i]
theorem RV.ren(bD:∀k,k<L->ak[k]?=some k)(hL:L<=M.pl.length)(h:RV M w c v)(hr:C3 L ak c c'):RV (M.ren ak) w c' v:=by
 induction hr generalizing v with
 |old ho=>exact Y6 bD hL h ho
 |agg hl fM ih=>
  cases h with
  |agg h1 h2 h3=>
   refine .agg G (λc hcm=>?_) (λi c' hi=>?_)
   .obtain ⟨i,hi⟩:=K5.1 hcm;obtain⟨y,hy⟩:=r7 hl hi;rw[(fM i y c hy hi).one];exact h2 y (n_3 hy)
   .obtain ⟨y,hy⟩:=r7 hl hi;exact ih i y c' hy hi (h3 i y hy)
 |tup hl fM ih=>
  cases h with
  |tup h1 h3=>
   refine .tup G (λi c' hi=>?_);obtain⟨y,hy⟩:=r7 hl hi;exact ih i y c' hy hi (h3 i y hy)
 |list eO cA=>
  cases h with
  |list vals h1 h2 h3 h4 h5 h6 h7 h8 h9 bp=>
   refine .list vals h1 h2 h3 h4 h5 h6 h7 h8 (λi j r c hi hj=>Y6 bD hL (h9 i j r c hi hj) (eO r (n_3 hi) c (n_3 hj))) (λj hj=>?_);obtain⟨k,hk,hs⟩:=cA j hj;obtain⟨s',hp,aY⟩:=bp k hk;exact⟨s',a2v hs hp,aY⟩
 |ptr hs=>cases h with|ptr hk=>exact .ptr (a2v hs hk)
 |eptr hs=>cases h with|eptr hk=>exact .eptr (a2v hs hk)
 |vec hs=>cases h with|vec hk h1 h2 h3=>exact .vec (a2v hs hk) h1 h2 h3
 |map hs=>cases h with|map hk=>exact .map (a2v hs hk)
 |yld hs=>cases h with|yld hk=>exact .yld (a2v hs hk)
def c1m(L:Nat)(ak:List Nat):List CV->List CV->Prop
 | [],[]=>True
 |c::l,c'::l'=>C3 L ak c c'/\c1m L ak l l'
 |_,_=>False
theorem c1m.len:∀{l l':List CV},c1m L ak l l'->l.length=l'.length
 | [],[],_=>rfl
 |_::_,_::_,h=>n_7 (· +1) h.2.len
theorem c1m.get:∀{l l':List CV},c1m L ak l l'->∀(i:Nat) (c c':CV),l[i]?=some c->l'[i]?=some c'->C3 L ak c c'
 | [],[],_,i,c,c',h,_=>by simp at h
 |_::_,_::_,h,0,c,c',h1,h2=>by
  simp at h1 h2;subst h1;subst h2;exact h.1
 |_::_,_::_,h,i+1,c,c',h1,h2=>h.2.get i c c' (D h1) (D h2)
inductive b11(L:Nat)(ak:List Nat):b9->b9->Prop where
 |dead {ob:b9}:b11 L ak ob .dead
 |same {ob aL:b9}:ob=aL->F7 L aL->b11 L ak ob aL
 |box {t0:Option TypeId} {cells aB:List CV}:c1m L ak cells aB->b11 L ak (.boxT t0 cells) (.boxT t0 aB)
theorem R2.ren(bD:∀k,k<L->ak[k]?=some k)(hL:L<=M.pl.length){aL:b9}(h:R2 M w p ob/\a8d M p ob)(hr:b11 L ak ob aL):R2 (M.ren ak) w p aL/\a8d (M.ren ak) p aL:=by
 obtain⟨h1,h2⟩:=h;cases hr with
 |dead=>exact⟨J,J⟩
 |same he ho=>
  subst he;refine⟨?_,by cases ob<;>exact h2⟩;cases ob with
  |dead=>trivial
  |boxT t0 cells=>
   obtain⟨arr,ty,e1,e2,e3,e4⟩:=h1;exact⟨arr,ty,e1,e2,e3,λi c hi=>Y6 bD hL (e4 i c hi) (ho c (n_3 hi))⟩
  |tipT t0 m=>exact h1
  |blk o=>exact h1
  |lp o n cs=>
   obtain⟨tm,e1,e2,e3⟩:=h1;exact⟨tm,e1,e2,λx hi=>Y6 bD hL (e3 x hi) (ho x hi)⟩
  |vec s Y=>
   obtain⟨e0,e1,e2,e3,e4,arr,ty,e5,e6,e7⟩:=h1;exact⟨e0,e1,e2,e3,e4,arr,ty,e5,e6,λi j r c hi hj=>Y6 bD hL (e7 i j r c hi hj) (ho r (n_3 hi) c (n_3 hj))⟩
  |map es=>
   obtain⟨ae,ai,e1,e2,e3⟩:=h1;refine⟨ae,ai,e1,e2,λi x hi=>?_⟩;obtain⟨e,g1,g2,g3,g4⟩:=e3 i x hi;have:=ho x (n_3 hi);exact⟨e,g1,Y6 bD hL g2 this.1,Y6 bD hL g3 this.2,g4⟩
  |iter aD es=>
   obtain⟨mb,seen,bF,ae,ai,e1,e2,e3,e4,e5,e6,e7,e8,e9⟩:=h1;refine⟨mb,seen,bF,ae,ai,e1,e2,e3,e4,e5,e6,e7,λi x hi=>?_,λi x hi=>?_⟩
   .obtain ⟨e,g1,g2,g3⟩:=e8 i x hi;have:=ho.2 x (n_3 hi);exact⟨e,g1,Y6 bD hL g2 this.1,Y6 bD hL g3 this.2⟩
   .obtain ⟨hl,j,e,g0,g1,g2,g3⟩:=e9 i x hi;have:=ho.1 x (n_3 hi);exact⟨hl,j,e,g0,g1,Y6 bD hL g2 this.1,Y6 bD hL g3 this.2⟩
 |box hc=>
  obtain⟨arr,ty,e1,e2,e3,e4⟩:=h1;refine⟨⟨arr,ty,e1,by rw[e2,hc.len],λc hm=>?_,λi c' hi=>?_⟩,h2⟩
  .obtain ⟨i,hi⟩:=K5.1 hm;obtain⟨y,hy⟩:=r7 hc.len hi;rw[(hc.get i y c hy hi).one];exact e3 y (n_3 hy)
  .obtain ⟨y,hy⟩:=r7 hc.len hi;exact(e4 i y hy).ren bD hL (hc.get i y c' hy hi)
def b7z(L:Nat)(all:List Nat)(σ:List b9):List Nat->List b9->Prop
 | [],[]=>True
 |k::ks,ob::obs=>(ob= .dead\/∃cZ,σ[k]?=some cZ/\b11 L all cZ ob)/\b7z L all σ ks obs
 |_,_=>False
theorem b7z.len{all:List Nat}:∀{ks:List Nat} {obs:List b9},b7z L all σ ks obs->ks.length=obs.length
 | [],[],_=>rfl
 |_::_,_::_,h=>n_7 (· +1) h.2.len
variable{len:Nat}
theorem b7z.get{all:List Nat}:∀{ks:List Nat} {obs:List b9},b7z L all σ ks obs->∀(j k:Nat) (ob:b9),ks[j]?=some k->obs[j]?=some ob->ob= .dead\/∃cZ,σ[k]?=some cZ/\b11 L all cZ ob
 | [],[],_,j,k,ob,h,_=>by simp at h
 |_::_,_::_,h,0,k,ob,h1,h2=>by
  simp at h1 h2;subst h1;subst h2;exact h.1
 |_::_,_::_,h,j+1,k,ob,h1,h2=>h.2.get j k ob (D h1) (D h2)
def a0o:List Nat->Bool
 | []=>true
 |k::l=>!l.contains k&&a0o l
theorem b2w:∀{l:List Nat},a0o l=true->∀(i j k:Nat),l[i]?=some k->l[j]?=some k->i=j
 | [],_,i,j,k,h,_=>by simp at h
 |x::l,h,i,j,k,h1,h2=>by
  simp only[a0o,T5,b9E,List.contains_eq_mem,b1d]at h
  rcases i with _|i<;>rcases j with _|j
  .rfl
  .simp at h1 h2;subst h1;exact absurd (n_3 h2) h.1
  .simp at h1 h2;subst h2;exact absurd (n_3 h1) h.1
  .exact n_7 (· +1) (b2w h.2 i j k (D h1) (D h2))
def a6D(L:Nat)(ak:List Nat):Bool:=Nat.ble L ak.length && (List.range L).all λk=>Nat.beq (ak.getD k 0) k
theorem a3w(h:a6D L ak=true)(k:Nat)(hk:k<L):ak[k]?=some k:=by
 simp only[a6D,T5,a6b,List.mem_range]at h;have h1:=nb h.1;have h2:=a3H (h.2 k hk);have af:k<ak.length:=by omega
 rw[a1r af];simpa[af]using h2
theorem Rel.ren{S:List b9}(hC:C.plain)(hr:Rel C M σ w)(bD:a6D L ak=true)(cb:a0o ak=true)(hL:L<=M.pl.length)(hS:b7z L ak σ ak S):Rel C (M.ren ak) S w:=by
 have hk:=a3w bD;have bc:∀{j:Nat} {p:Pl} {ob:b9},(M.ren ak).pl[j]?=some p->S[j]?=some ob->∃k,ak[j]?=some k/\(ob= .dead\/∃cZ,σ[k]?=some cZ/\M.pl[k]?=some p/\b11 L ak cZ ob):=by
  intro j p ob hp hs;have aG:(ak.map λk=>M.pl.getD k ⟨0,0,0⟩)[j]?=some p:=hp;rw[O2,Q3]at aG;obtain⟨k,hk,aG⟩:=aG;refine⟨k,hk,?_⟩
  rcases hS.get j k ob hk hs with rfl|⟨cZ,h1,h2⟩
  .exact .inl O
  .have af:k<M.pl.length:=by rw[hr.len];exact(n_2.1 h1).1
   refine .inr ⟨cZ,h1,?_,h2⟩;rw[<- aG];simp[af]
 have ck:∀{cZ ob:b9},b11 L ak cZ ob->ob.live=true->cZ.live=true:=by
  intro cZ ob h hl;cases h with
  |dead=>cases hl
  |same he _=>exact he▸hl
  |box _=>rfl
 refine⟨by show(ak.map _).length=_;rw[K6,hS.len],hr.blk,λj p ob hp hs=>?_,λj j' p p' ob aL hp aG hs aT hl bL hb=>?_,λg cells hg=>?_,hr.kep,λj p ob hp hs hl=>?_⟩
 .obtain ⟨k,bB,h|⟨cZ,h1,h2,h3⟩⟩:=bc hp hs
  .subst h;exact⟨J,J⟩
  .exact R2.ren hk hL (hr.obj k p cZ h2 h1) h3
 .obtain ⟨k,bB,h|⟨cZ,h1,h2,h3⟩⟩:=bc hp hs
  .subst h;cases hl
  .obtain ⟨k',hk1',h'|⟨ob0',ez,dI,gW⟩⟩:=bc aG aT
   .subst h';cases bL
   .have e:=hr.inj k k' p p' cZ ob0' h2 dI h1 ez (ck h3 hl) (ck gW bL) hb;subst e;exact b2w cb j j' k bB hk1'
 .refine ⟨?_,(hr.glob g cells hg).full,(hr.glob g cells hg).sz⟩;exact Y6 hk hL (hr.glob g cells hg).rv (.cptr λj c hj=>(hC g cells hg c (n_3 hj)).old)
 .obtain ⟨k,bB,h|⟨cZ,h1,h2,h3⟩⟩:=bc hp hs
  .subst h;cases hl
  .exact hr.nk k p cZ h2 h1 (ck h3 hl)
theorem Ext.ren(hx:Ext M0 w0 M w)(bD:a6D L ak=true)(hL0:M0.pl.length=L):Ext M0 w0 (M.ren ak) w:=by
 have hk:=a3w bD;obtain⟨l,hl⟩:=hx.pl;refine⟨⟨(M.ren ak).pl.drop L,?_⟩,hx.full,hx.cell,hx.same,hx.sameC,hx.size,hx.drew,hx.os,hx.tape,hx.output,hx.kept⟩;have:(M.ren ak).pl.take L=M0.pl:=by
  refine b02 λi=>?_;rw[a2q]
  split
  .rename_i hi;have hp0:M0.pl[i]?=some (M0.pl[i]'G):=by simp
   rw[a2v (hk i hi) (hx.get hp0),hp0]
  .rw [c0X G]
 rw[<- this,b4i]
def Env.isR(E:Env)(L:Nat)(ak:List Nat):List (Nat×CV)->Prop
 | []=>True
 |(t,c)::l=>(E.ok t/\C3 L ak (E.f t) c)/\E.isR L ak l
theorem I3.onlyR{a:Act}(bD:a6D L ak=true)(hL:L<=M.pl.length)(hf:I3 M w n E a):∀{l:List (Nat×CV)},E.isR L ak l->I3 (M.ren ak) w n (Env.only l) a
 | [],_=>⟨hf.defers,hf.size,λ_ h=>h.elim,λ_ h=>h.elim⟩
 |(t,c)::l,⟨⟨h1,h2⟩,h⟩=>by
  have ih:=I3.onlyR bD hL hf h;refine⟨hf.defers,hf.size,λx hx=>?_,λx hx=>?_⟩
  .show RV (M.ren ak) w (((Env.only l).putO (some t) c .yes).f x) _;have hx:((Env.only l).putO (some t) c .yes).ok x:=hx;rw[Env.putO_f];rw[Env.putO_ok]at hx
   split
   .subst x;exact(hf.rv t h1).ren (a3w bD) hL h2
   .rename_i ax;rw[W ax]at hx;exact ih.rv x hx
  .have hx:((Env.only l).putO (some t) c .yes).un x:=hx;rw[Env.putO_un]at hx;split at hx
   .exact absurd trivial hx
   .exact ih.un x hx
section
variable{Jh:A7->Env->List b9->Prop}
def a6B{α:Type}(L:Nat)(l:α->List (Nat×CV))(S:α->List b9)(P:α->Prop)(E':Env)(aa:List b9):Prop:=
 ∃(a:α) (ak:List Nat),P a/\(a6D L ak=true/\a0o ak=true)/\E'.isR L ak (l a)/\b7z L ak aa ak (S a)
theorem a6B.go{c:Code}(hC:C.plain){l:α->List (Nat×CV)}{P:α->Prop}{E':Env}{aa:List b9}(hE:a6B L l S P E' aa)(k:∀a,P a->CWp C n c Jh (Env.only (l a)) (S a))(aj:M0.pl.length=L){a:Act}(hx:Ext M0 w0 M w)(hr:Rel C M aa w)(hf:I3 M w n E' a):
 c.wp C.P (Q8 C n Jh M0 w0) a w:=by
 obtain⟨x,ak,hP,⟨h1,h2⟩,hE,hS⟩:=hE;have hL:L<=M.pl.length:=by
  obtain⟨l,hl⟩:=hx.pl;rw[hl];simp;omega
 exact wp_mono (k x hP _ w a (hr.ren hC h1 h2 hL hS) (hf.onlyR h1 hL hE)) λ_ _ _=>Q8.later (hx.ren h1 aj)
theorem b0t{x y:Code}(hC:C.plain)(L:Nat)(hL:Nat.beq L σ.length=true)(l:α->List (Nat×CV))(S:α->List b9)(P:α->Prop)(h:CWp C n x (A7.next (a6B L l S P) Jh) E σ)(k:∀a,P a->CWp C n y Jh (Env.only (l a)) (S a)):CWp C n (.seq x y) Jh E σ:=λM w a hr hf=>by
 refine wp_seq (wp_mono (h M w a hr hf) λe a' w' hl=>?_);obtain⟨E',aa,M',h1,h2,h3,h4⟩:=hl;cases e with
 |normal=>exact a6B.go hC h4 k (by rw[hr.len];exact(a3H hL).symm) h1 h2 h3
 |_=>exact⟨E',aa,M',h1,h2,h3,h4⟩
theorem A5{c:Code}(hC:C.plain)(L:Nat)(hL:Nat.beq L σ.length=true)(l:α->List (Nat×CV))(S:α->List b9)(Jd:α->Prop)(m:α->Nat)(h0:a6B L l S Jd E σ)
 (round:∀(a:α),Jd a->CWp C n c (A7.next (a6B L l S λa'=>m a'<m a/\Jd a') Jh) (Env.only (l a)) (S a)):CWp C n (.loop c) Jh E σ:=λM w a hr hf=>by
 intro b k cs;have hL:=a3H hL;have key:∀d (x:α) M1 w1 a1,m x=d->Jd x->Ext M w M1 w1->Rel C M1 (S x) w1->I3 M1 w1 n (Env.only (l x)) a1 ->
  ∃e a' w',Q8 C n Jh M w e a' w'/\Arrives C.P (lone (b.at a1 (.code c::.inLoop c::k)) cs w1) b k cs e a' w':=by
  intro d
  induction d using Nat.strongRecOn with
  |_ d ih=>
   intro x M1 w1 a1 hd hI hx aI di;obtain⟨e,a2,w2,hq,aw⟩:=round x hI M1 w1 a1 aI di b (.inLoop c::k) cs;obtain⟨E',aa,M',h1,h2,h3,h4⟩:=hq;cases e with
   |normal=>
    obtain⟨x',ak,⟨af,ij⟩,⟨g1,g2⟩,hE',hS⟩:=h4;have ay:=hx.trans h1;have eB:L<=M'.pl.length:=by
     obtain⟨l,hl⟩:=ay.pl;rw[hl];simp;rw[hr.len,hL];omega
    obtain⟨dj,dl,dm,bM,aP⟩:=ih (m x') G x' _ w2 a2 O ij (ay.ren g1 (by rw[hr.len,hL])) (h2.ren hC g1 g2 eB hS) (h3.onlyR g1 eB hE');exact⟨dj,dl,dm,bM,.of_steps (Steps.trans aw (.one step_inLoop)) aP⟩
   |exit id=>exact⟨_,a2,w2,⟨E',aa,M',hx.trans h1,h2,h3,h4⟩,.pass (x:=.inLoop c) O (λ_ _=>.inl U) aw⟩
   |goto l=>exact⟨_,a2,w2,⟨E',aa,M',hx.trans h1,h2,h3,h4⟩,.pass (x:=.inLoop c) O (λ_ _=>.inl U) aw⟩
   |ret=>exact⟨_,a2,w2,⟨E',aa,M',hx.trans h1,h2,h3,h4⟩,.pass (x:=.inLoop c) O (λ_ _=>.inl U) aw⟩
   |panic ch=>exact⟨_,a2,w2,⟨E',aa,M',hx.trans h1,h2,h3,h4⟩,.pass (x:=.inLoop c) O (λ_ _=>.inl U) aw⟩
   |outgrown=>exact h4.elim
 obtain⟨x,ak,hP,⟨g1,g2⟩,hE,hS⟩:=h0;have eB:L<=M.pl.length:=by rw[hr.len,hL];omega
 obtain⟨e,a',w',hq,aw⟩:=key _ x _ w a O hP ((Ext.refl M w).ren g1 (by rw[hr.len,hL])) (hr.ren hC g1 g2 eB hS) (hf.onlyR g1 eB hE);exact⟨e,a',w',hq,.of_steps (.one step_loop) aw⟩
def F1:Nat->Nat->Option Nat
 |0,_=>none
 |_+1,p=>some p
def m0:Nat->b9
 |0=>.dead
 |m+1=>.tip (m+1)
def gnn:Nat->Bool
 |0=>false
 |_+1=>true
theorem a40(n m:Nat):F7 n (m0 m):=by cases m<;>trivial
end
theorem C3.grow{f:α->List CV}{p:Nat}{l:List α}(h:∀a,b6z L (f a))(hs:ak[p]?=some k):C3 L ak (.list (l.map f) (gnn m) (F1 m k)) (.list (l.map f) (gnn m) (F1 m p)):=by
 refine .list (λr hr c hc=>?_) (λj hj=>?_)
 .obtain ⟨a,_,rfl⟩:=D6.1 hr;exact A3 (h a) c hc
 .cases m with
  |zero=>cases hj
  |succ m=>cases hj;exact⟨k,O,hs⟩
section
variable{Jh:A7->Env->List b9->Prop}
theorem a9X{ti:TypeInfo}(rows':List (List CV))(n':Nat)(ho:o.op = .call {callee:=.builtin .append,args:=#[x,y],argTypes:=#[t,t]})(hx:E.valid x)(hy:E.valid y)(ex:E.val C x= .vec k 0 len)
 (aJ:∀M w v,Rel C M σ w->RV M w (E.val C y) v->Src C M w new s v)(hu:∀w,(underlying t).run C.P w= .ok (.slice e) w)(hs:∀w,(sizeOf e).run C.P w= .ok s w)(ca:∀w,(typeInfo e).run C.P w= .ok ti w)(hz:∀w,(zeroValue e).run C.P w= .ok z w)(bn:z.cells.size=s)
 (aC:σ[k]?=some (.vec s Y))(aj:len=Y.length)(bC:new≠[])(hb:(Y.length+new.length)*ti.bytes<=140737488355328)(aQ:Y.length+new.length<=9223372036854775807)(he:Y++new=rows')(hn:Y.length+new.length=n')
 (hk:K (.ret (.vec σ.length 0 n')) (σ.set k .dead++[.vec s rows'])):G5 C σ E o K:=by
 subst aj he hn;exact b1u ho hx hy ex aJ hu hs ca hz bn aC bC hb aQ hk
theorem b84(rows':List (List CV))(ho:o.op = .call {callee:=.builtin .clear,args:=#[x],argTypes:=#[t]})(hx:E.valid x)(ex:E.val C x= .vec k off len)
 (hu:∀w,(underlying t).run C.P w= .ok (.slice e) w)(hz:∀w,(zeroValue e).run C.P w= .ok z w)(bR:L2 z=true)(cX:(I0 z).one=true\/∃cs,I0 z= .agg cs)(bn:z.cells.size=s)(aC:σ[k]?=some (.vec s Y))(hl:off+len<=Y.length)(he:J7 Y off (List.replicate len (c0E z))=rows'){aa:List b9}(ao:σ.set k (.vec s rows')=aa)
 (hk:K (.ret (.val (.tuple #[]))) aa):G5 C σ E o K:=
 d6B ho hx ex hu hz bR cX bn aC hl (by rw[he,ao];exact hk)
theorem N5(rows':List (List CV))(ho:o.op = .store t x y)(hx:E.valid x)(hy:E.valid y)(ex:E.val C x= .eptr k i off)(ey:E.val C y=c)(hs:∀w,(sizeOf t).run C.P w= .ok m w)
 (hc:c.one=true\/∃cs,c= .agg cs)(hk:σ[k]?=some (.vec s Y))(hi:Y[i]?=some r)(hl:c.cells.length=m)(af:off+m<=r.length)(he:Y.set i (P4 r off c.cells)=rows'){aa:List b9}(ao:σ.set k (.vec s rows')=aa)(h:K (.ret (.val undef)) aa):G5 C σ E o K:=
 c5F ho hx hy ex ey hs hc hk hi hl af (by rw[he,ao];exact h)
theorem c4{c:α->CV}{P:α->Prop}(ho:o.op = .call {callee:=.value (.func f),args:=xs,argTypes:=ts})(aA:∀args w,(callFunc f args).run C.P w= .ok (.enter f args) w)
 (hv:E.valids xs.toList)(h:b8 C f cargs σ λr aa=>∃a,r= .ret (c a)/\aa=S a/\P a)(ea:(E.vals C xs.toList).map CV.fgt=cargs)(hk:∀a,P a->K (.ret (c a)) (S a)):G5 C σ E o K:=
 b5A ho aA (Env.valids_mem hv) (Env.vals_map _) ((a3S (ea▸h)).mono λr aa hh=>by
  obtain⟨a,rfl,rfl,hp⟩:=hh;exact hk a hp)
end
section
variable{ab:Array Oper}
def d9S(C:Ctx)(ab:Array Oper)(o:Oper)(E:Env)(σ:List b9)(K:CV->Prop->List b9->Prop)(Kp:CV->List b9->Prop):Prop:=
 (o.guard=none/\G5 C σ E o λr aa=>match r with| .ret c=>K c True aa| .pan c=>Kp c aa)\/(∃c g,J1 C σ ab o E c g/\K c g σ)
def a2h(S:List (List b9->Prop))(σ:List b9):List Nat->Prop
 | []=>True
 |k::l=>(S.getD k λ_=>True) σ/\a2h S σ l
theorem a2h.get{S:List (List b9->Prop)}:∀{l:List Nat},a2h S σ l->∀k∈l,(S.getD k λ_=>True) σ
 | [],_,k,h=>by cases h
 |x::l,⟨h1,h2⟩,k,h=>by
  rcases J2.1 h with rfl|h
  .exact h1
  .exact h2.get k h
end
section
variable{ab:Array Oper}
theorem c8(hg:o.guard=none)(hy:l8 C σ E o c):J1 C σ ab o E c True:=.inl ⟨hg,J,hy⟩
theorem H4{K:Env->List (List b9->Prop)->Prop}{S:List (List b9->Prop)}(h:K E S):a0V C σ ab K [] E S:=h
theorem chf{K:Env->List (List b9->Prop)->Prop}{l:List Nat}{S:List (List b9->Prop)}(ho:ab[i]?=some o)(bi:J1 C σ ab o E c g)(h:a0V C σ ab K l (E.put o.dst c g) (S++[λaa=>J1 C aa ab o E c g])):a0V C σ ab K (i::l) E S:=
 ⟨o,c,g,ho,bi,h⟩
end
section
theorem a99{c:Nat}{a:Option Addr}{x:Value}(hu:∀w,(underlying t).run P w= .ok (.slice e) w)(hs:∀w,(sizeOf e).run P w= .ok s w)
 (aj:∀w,(Builtin.lenOf x).run P w= .ok 0 w)(dN:(Builtin.firstCells s 0 x).run P w= .ok arr w)(aw:arr.size=0)(fK:n<=c):(Builtin.append_ #[t,t] ty #[.slice a n c,x]).run P w= .ok (.slice a n c) w:=by
 have:arr= #[]:=Array.eq_empty_of_size_eq_zero aw;subst this;cases a<;>simp[Builtin.append_,hu,hs,aj,dN,fK,storeCells]
theorem Rel.addDead(hr:Rel C M σ w)(q:Pl):Rel C (M.add q) (σ++[.dead]) w/\Ext M w (M.add q) w:=by
 have hx:Ext M w (M.add q) w:=⟨⟨[q],O⟩,λ_ h=>h,λ_ _ h=>.inr h,λ_ _=>O,λ_ _ _=>O,n_6 _,T4,O,O,O,λ_ h=>⟨h,O,id,λ_=>id⟩⟩;have aq:∀{k:Nat} {p:Pl} {ob:b9},(M.add q).pl[k]?=some p->(σ++[.dead])[k]?=some ob->ob= .dead\/(M.pl[k]?=some p/\σ[k]?=some ob):=by
  intro k p ob h1 h2;rw[a6O]at h2;split at h2
  .rename_i af;have h1:(M.pl++[q])[k]?=some p:=h1;rw[T7 (by rw[hr.len];exact af)]at h1;exact .inr ⟨h1,h2⟩
  .refine .inl ?_;have:=n_3 h2;simpa using this
 refine⟨⟨by show(M.pl++[q]).length=_;simp[hr.len],hr.blk,λk p ob h1 h2=>?_,λk k' p p' ob aL h1 ez h2 dI hl bL hb=>?_,λg cells hg=>(hr.glob g cells hg).mono hx,hr.kep,λk p ob h1 h2 hl=>?_⟩,hx⟩
 .rcases aq h1 h2 with rfl|⟨g1,g2⟩
  .exact ⟨J,J⟩
  .obtain ⟨o1,o2⟩:=hr.obj k p ob g1 g2;exact⟨o1.mono hx O (λ_ _ _ _ h=>h),by cases ob<;>exact o2⟩
 .rcases aq h1 h2 with rfl|⟨g1,g2⟩
  .cases hl
  .rcases aq ez dI with rfl|⟨gA,gU⟩
   .cases bL
   .exact hr.inj k k' p p' ob aL g1 gA g2 gU hl bL hb
 .rcases aq h1 h2 with rfl|⟨g1,g2⟩
  .cases hl
  .exact hr.nk k p ob g1 g2 hl
theorem C8{p:Nat}{ti:TypeInfo}(ho:o.op = .call {callee:=.builtin .append,args:=#[x,y],argTypes:=#[t,t]})(hx:E.valid x)(hy:E.valid y)(ex:E.val C x= .list Y (gnn m) (F1 m p))(hm:m=Y.length)
 (aJ:∀M w v,Rel C M σ w->RV M w (E.val C y) v->Src C M w new s v)(hu:∀w,(underlying t).run C.P w= .ok (.slice e) w)(hs:∀w,(sizeOf e).run C.P w= .ok s w)(ca:∀w,(typeInfo e).run C.P w= .ok ti w)(hz:∀w,(zeroValue e).run C.P w= .ok z w)(bn:z.cells.size=s)
 (bI:(m=0/\σ.set p .dead=σ)\/σ[p]?=some (m0 m))(ba:∀r∈Y,r.length=s)(hb:(Y.length+new.length)*ti.bytes<=140737488355328)(aQ:Y.length+new.length<=9223372036854775807)(rows':List (List CV))(m':Nat)(he:Y++new=rows')(hm':Y.length+new.length=m')
 (hk:K (.ret (.list rows' (gnn m') (F1 m' σ.length))) (σ.set p .dead++[m0 m'])):G5 C σ E o K:=by
 subst hm he hm'
 rcases new with _|⟨r1,new⟩
 .
  intro M w ρ hr hh;have h1:=hh x H0 hx;have h2:=hh y H0 hy;rw[ex]at h1;have gz:=aJ M w _ hr h2;have aj:=gz.lenOf;obtain⟨a,cap,b,off,s',vals,hv,bj,dP,dY,eN,ha,cQ,aN,hc,aZ,cA⟩:=h1.list_inv;obtain⟨_,_,_,_,_,arr,ci,aR,_⟩:=gz;have bb:(execOp ρ o).run C.P w=((Builtin.append_ #[t,t] o.type #[ρ x,ρ y]).run C.P w).andThen λv w=>.ok (.value v) w:=by
   simp[execOp,ho,resolve,invoke,builtin]
  have au:(execOp ρ o).run C.P w= .ok (.value (.slice a Y.length cap)) w:=by
   rw[bb,hv,a99 hu hs (D aj) (D ci) (D aR) bj];rfl
  rw[au];simp only[Z7,K8,a85]at hk
  rcases Y with _|⟨r0,Y⟩
  .obtain ⟨aI,bh⟩:=(hr.dead p).addDead ⟨0,0,0⟩;exact⟨_,_,_,bh,aI,by simpa[gnn,F1,hv]using h1.mono bh,hk⟩
  .have iC:σ[p]?=some (.tip (r0::Y).length):=by
    rcases bI with h|h
    .simp at h
    .exact h
   obtain⟨sz,hp,ha0,gd,aK⟩:=cA p O;obtain⟨bh,aI⟩:=hr.tipNew (m:=(r0::Y).length) hp iC (n_6 _) bj;refine⟨_,_,_,bh,aI,?_,hk⟩;have hl:=h1.mono bh;rw[hv]at hl;obtain⟨a',cap',b',iD,s'',fP,eY,q1,q2,q3,q4,q5,q6,q7,q8,q9,q10⟩:=hl.list_inv;injection eY with e1 e2 e3
   subst e1 e3;refine RV.list' (L:=(r0::Y).length) O fP q1 q2 (by rw[q3]) (λh=>by cases h) q5 q6 q7 q8 q9 (λk' aC=>?_);obtain⟨s3,g1,g2,g3,g4⟩:=q10 p O;injection aC with aC
   subst aC;refine⟨s3,?_,g2,g3,g4⟩;have e4:=bh.get hp;rw[g1]at e4;rw[e4];simp[z8.add,<- hr.len]
 .rcases Y with _|⟨r,Y⟩
  .have e:σ.set p .dead=σ:=by
    rcases bI with h|h
    .exact h.2
    .refine b02 λi=>?_;rw[a8X]
     split
     .rename_i h';subst h';rw[Q (n_2.1 h).1,h];rfl
     .rfl
   rw[e]at hk;exact b65 ho hx hy ex aJ hu hs ca hz bn (.inl ⟨O,O,O⟩) ba U hb aQ (by simpa[kill,gnn,F1,m0]using hk)
  .have iC:σ[p]?=some (.tip (r::Y).length):=by
    rcases bI with h|h
    .simp at h
    .exact h
   exact b65 ho hx hy ex aJ hu hs ca hz bn (.inr ⟨U,p,O,iC⟩) ba U hb aQ hk
end
section
theorem b4c(ho:o.op = .nilCheck x)(hx:E.valid x)(ex:E.val C x= .ptr k off):l8 C σ E o (.ptr k off):=
 i8 λM w ρ _ h=>by
  have h1:=h x u0 hx;rw[ex]at h1;generalize eu:ρ x=u at h1;cases h1 with
  |ptr hp=>exact⟨_,by simp[execOp,ho,eu],.ptr hp⟩
end
end Go.Cl
namespace Go.Cl
open Go Go.ChangeShapes Go.WideShapes Go.RowKit Go.ChangeAt
variable{w:World}{v:Value}{cs:List Value}
def V8(w:World):z8:={pl:=[],full:=λb=>b<w.heap.size,cell:=λ_ _=>False,keep:=λb=>b<w.heap.size}
theorem a7P{a:Addr}(h:w.cell? a=some v):a.block <w.heap.size/\a.spot=none:=by
 unfold World.cell? at h;split at h
 .rename_i hw;refine⟨(a1a.1 hw).1,?_⟩;cases hs:a.spot with
  |none=>rfl
  |some s=>rw[hs]at h;simp at h
 .cases h
theorem a9K{a:Addr}{k:Nat}(h:w.cell? (a.add k)=some v):a.add k=⟨a.block,a.off+k,none⟩:=by
 have hs:=(a7P h).2;unfold Addr.add at hs⊢;by_cases hk:k=0
 .rw [Q hk]at hs⊢;subst hk;cases a;simp at hs;subst hs;rfl
 .rw [W hk]
theorem d2g{a:Addr}(h:w.cell? a=some v)(o:Nat):(V8 w).at a.block o:=.inl (a7P h).1
theorem b38{C:Ctx}(hg:∀g cells,C.glob g=some cells->GV (V8 w) w cells g):Rel C (V8 w) [] w:=by
 refine⟨O,λb o h=>?_,λk p ob h=>?_,λk k' p p' ob aL h=>?_,hg,λb h=>h,λk p ob h=>?_⟩
 .rcases h with h|h
  .exact h
  .exact h.elim
 all_goals simp[V8]at h
theorem b5c{w':World}{M':z8}(h:Ext (V8 w) w M' w'):Below w.heap.size w w':=
 ⟨h.os,h.tape,h.output,h.size,λk hk=>h.same k hk⟩
theorem b0g{C:Ctx}{f:FuncId}{hZ:List CV}{Jg:World}{args:Array Value}{u:Value}
 (hg:∀g cells,C.glob g=some cells->GV (V8 Jg) Jg cells g)
 (hn:args.size=hZ.length)(ha:∀(i:Nat) (c:CV),hZ[i]?=some c->RV (V8 Jg) Jg c (args.getD i undef))
 (h:b8 C f hZ [] λr aa=>r= .ret (.val u)/\aa=[]):Calls C.P f args Jg λe W'=>e= .returned u/\Below Jg.heap.size Jg W':=by
 refine(h (V8 Jg) Jg args (b38 hg) hn ha).mono λe W' he=>?_;cases e with
 |returned v=>
  obtain⟨c,aa,M',h1,h2,h3,h4,h5⟩:=he;cases h4;cases h3;exact⟨O,b5c h1⟩
 |panicked ch=>
  obtain⟨c,v,aa,M',-,-,-,-,h4,-⟩:=he;cases h4
 |outgrown=>exact he.elim
structure RCs(w:World)(row:List CV)(cs:List Value):Prop where
 len:row.length=cs.length
 one:∀c∈row,c.one=true
 rv:∀(j:Nat) (c:CV),row[j]?=some c->RV (V8 w) w c (cs.getD j undef)
theorem RCs.nil:RCs w [] []:=⟨O,λc h=>by simp at h,λj c h=>by simp at h⟩
theorem RCs.cons{c:CV}{row:List CV}(h1:c.one=true)(h2:RV (V8 w) w c v)(h:RCs w row cs):RCs w (c::row) (v::cs):=by
 refine⟨by simp[h.len],λx hx=>?_,λj x hj=>?_⟩
 .rcases J2.1 hx with rfl|hx
  .exact h1
  .exact h.one x hx
 .rcases j with _|j
  .simp at hj;subst hj;simpa using h2
  .simpa using h.rv j x (D hj)
theorem RCs.val{row:List CV}(h1:v.oneCell'=true)(h:RCs w row cs):RCs w (.val v::row) (v::cs):=h.cons h1 (.val v)
section
variable{Jf:Type}{enc:TypeId×Value->Jf}{P:Program}{base:Nat}{spare:Nat->Bool}{held:Bool}
theorem d3o{α:Type} [Inhabited α](f:α->List CV)(Jh:α->Prop){t e:TypeId}{fuel:Nat}{x:DataW Jf×List MemPlace}(ht:P.underlying t=some (.slice e)){s:Nat}(hs:P.cellsOf e=s)(h0:0<s)
 (gC:∀(n:Nat) (cs:List Value) (y:DataW Jf×List MemPlace),DataW.trod enc P w base spare held n e cs=some y->∃a,Jh a/\RCs w (f a) cs)
 (h:DataW.trod enc P w base spare held fuel t cs=some x):
 ∃(l:List α) (nn:Bool) (v:Value),cs=[v]/\RV (V8 w) w (.list (l.map f) nn none) v/\l.length<=maxLen/\(∀a∈l,Jh a)/\(nn=false->l=[]):=by
 rcases DataW.trod_slice ht h with⟨rfl,-⟩|⟨a,len,cap,elems,rest,n,-,rfl,-,hb,hl,hm,aj,hE,-,-⟩
 .exact ⟨[],false,_,O,.list (b:=0) (off:=0) (s:=s) (λ_ _=>undef) (n_6 _) (n_5 _) O Y1 (λh=>by simp at h) (λr hr=>by simp at hr) (λr hr=>by simp at hr) (λi j r c hi=>by simp at hi) (λi j r c hi=>by simp at hi) (λk hk=>by cases hk),n_5 _,λa ha=>by simp at ha,λ_=>O⟩
 .have key:∀i:Nat,i<len->∃(a':α) (aX:List Value),Jh a'/\RCs w (f a') aX/\aX.length=s/\∀j,j<s->w.cell? (a.add (i*s+j))=some (aX.getD j undef):=by
   intro i hi;have h1:=hE i hi;have h2:elems[i]?=some (elems[i]'G):=a1r G;rw[h2,d3X]at h1;obtain⟨aX,hc,hy⟩:=h1;obtain⟨a',hQ,hR⟩:=gC _ _ _ hy;obtain⟨-,cy,aU⟩:=World.cells?_some hc;rw[hs]at cy aU;refine⟨a',aX,hQ,hR,cy,λj hj=>?_⟩;have:=aU j hj;rw[a1r G]at this;rw[a7V,a1r G];rw[<- Go.Deep.add_add,this];rfl
  have eC:∃F:Nat->α,∃Jc:Nat->List Value,∀i,i<len->Jh (F i)/\RCs w (f (F i)) (Jc i)/\(Jc i).length=s/\∀j,j<s->w.cell? (a.add (i*s+j))=some ((Jc i).getD j undef):=by
   classical
   by_cases hlz:len=0
   .subst hlz;exact⟨λ_=>default,λ_=>[],λi hi=>absurd hi (Nat.not_lt_zero _)⟩
   .obtain ⟨a0,-⟩:=key 0 G;have:∀i:Nat,∃p:α×List Value,i<len->Jh p.1/\RCs w (f p.1) p.2/\p.2.length=s/\∀j,j<s->w.cell? (a.add (i*s+j))=some (p.2.getD j undef):=λi=>by
     by_cases hi:i<len
     .obtain ⟨a',aX,h⟩:=key i hi;exact⟨(a',aX),λ_=>h⟩
     .exact ⟨(a0,[]),λh=>absurd h hi⟩
    exact⟨λi=>(Classical.choose (this i)).1,λi=>(Classical.choose (this i)).2,λi hi=>Classical.choose_spec (this i) hi⟩
  obtain⟨F,Jc,hF⟩:=eC;have bT:∀(i:Nat) (r:List CV),(((List.range len).map F).map f)[i]?=some r->i<len/\r=f (F i):=λi r hi=>by
   rw[List.map_map,O2]at hi
   rcases a4x i len with h|h
   .rw [List.getElem?_range h]at hi;exact⟨h,(Option.some.inj hi).symm⟩
   .rw [c0X (D h)]at hi;cases hi
  have bN:∀r∈((List.range len).map F).map f,∃i,i<len/\r=f (F i):=λr hr=>by
   obtain⟨i,hi⟩:=K5.1 hr;exact⟨i,bT i r hi⟩
  have cS:(((List.range len).map F).map f).length=len:=by simp
  refine⟨(List.range len).map F,true,_,O,?_,by simp;omega,λx hx=>?_,λh=>by cases h⟩
  .have:=RV.list (M:=V8 w) (w:=w) (Y:=((List.range len).map F).map f) (nn:=true) (tok:=none) (a:=some a) (cap:=cap) (b:=a.block) (off:=a.off) (s:=s) (λi j=>(Jc i).getD j undef)
    (by rw[cS];exact hl) hm O (λh=>by cases h) (λax=>?_) (λr hr=>?_) (λr hr=>?_) (λi j r c hi hj=>?_) (λi j r c hi hj=>?_) (λk hk=>by cases hk)
   .rw [cS]at this;exact this
   .rcases b9a len with hz|hz
    .subst hz;exact absurd O ax
    .have:=(hF 0 hz).2.2.2 0 h0;have:=a9K this;simpa[Addr.add]using this
   .obtain ⟨i,hi,rfl⟩:=bN r hr;rw[(hF i hi).2.1.len,(hF i hi).2.2.1]
   .obtain ⟨i,hi,rfl⟩:=bN r hr;exact(hF i hi).2.1.one
   .obtain ⟨bf,rfl⟩:=bT i r hi;have hjs:j<s:=by
     have:=(n_2.1 hj).1;rw[(hF i bf).2.1.len,(hF i bf).2.2.1]at this;exact this
    have hc:=(hF i bf).2.2.2 j hjs;rw[a9K hc,<- b2z]at hc;exact⟨d2g hc _,hc⟩
   .obtain ⟨bf,rfl⟩:=bT i r hi;exact(hF i bf).2.1.rv j c hj
  .obtain ⟨i,hi,rfl⟩:=D6.1 hx;exact(hF i (D hi)).1
end
theorem a6n{Jf:Type}{enc:TypeId×Value->Jf}{P:Program}(hl:laidOutB P=true){Jg W':World}(hb:Below Jg.heap.size Jg W'){sp:Nat->Bool}:∀{ts:List TypeId} {vs:List Value} {ds:List (DataW Jf)} {ps:List MemPlace},(∀t∈ts,P.readableRec t=true/\t<P.types.size)->DataW.TrodAll enc P Jg 0 (λ_=>true) true ts vs ds ps->(∀p∈ps,p.block <Jg.heap.size)->(∀p∈ps,sp p.block=true)->DataW.TrodAll enc P W' 0 sp true ts vs ds ps
 | [],[],[],_,_,h,_,_=>h
 |t::ts,v::vs,d::ds,ps,hr,h,af,ah=>by
  obtain⟨p,q,h1,h2,rfl⟩:=h;exact⟨p,q,WideElems.Trod_stays hl (hr t U).1 (hr t U).2 h1 (λx hx=>hb.same (af x (by simp[hx]))) (λx hx=>ah x (by simp[hx])),
   a6n hl hb (λt ht=>hr t (by simp[ht])) h2 (λx hx=>af x (by simp[hx])) (λx hx=>ah x (by simp[hx])),O⟩
 | [],_::_,_,_,_,h,_,_=>h.elim
 | [],[],_::_,_,_,h,_,_=>h.elim
 |_::_,[],_,_,_,h,_,_=>h.elim
 |_::_,_::_,[],_,_,h,_,_=>h.elim
theorem d1V{P:Program}{ts:List TypeId}(h:(ts.all λt=>P.readableRec t&&decide (t<P.types.size))=true):∀t∈ts,P.readableRec t=true/\t<P.types.size:=λt ht=>by
 have:=a6b.1 h t ht;simpa using this
theorem c2f{Jf:Type}{enc:TypeId×Value->Jf}{P:Program}{f:Func}{s:ChangeSpec}{apart iE fi iF:Bool}{Jg W':World}{args:Array Value}{ds gs:List (DataW Jf)}{bJ pa pv:List MemPlace}
 (hW:DataW.Whole enc P f.params.toList s.vars apart Jg args.toList ds gs bJ)
 (eD:∀(b:Nat) (sp:Nat->Bool) (hd:Bool),DataW.TrodAll enc P W' b sp hd f.resultTypes.toList (v.resultList f.resultTypes.size) (s.fn Jf (ds++gs)).results [])
 (ap:∀sp:Nat->Bool,(∀p∈bJ,sp p.block=true)->DataW.TrodAll enc P W' 0 sp true f.params.toList args.toList (s.fn Jf (ds++gs)).args pa)
 (hvars:∀sp:Nat->Bool,(∀p∈bJ,sp p.block=true)->DataW.TrodVars enc P W' sp s.vars (s.fn Jf (ds++gs)).vars pv)
 (cj:bJ=pa++pv)(hb:Below Jg.heap.size Jg W')
 (bz:∀(j:Nat) (t:TypeId) (r:Value),f.resultTypes[j]?=some t->(v.resultList f.resultTypes.size)[j]?=some r->Value.okWide P W' .any 0 t r):
 s.post enc P f apart iE fi iF Jg args v W':=by
 have af:∀p∈bJ,p.block <Jg.heap.size:=λp hp=>hW.lt p hp;have bQ:∀p∈bJ,(λb=>decide (b<Jg.heap.size)) p.block=true:=λp hp=>by simpa using af p hp
 refine⟨ds,gs,bJ,[],pa,pv,hW,eD _ _ _,ap _ bQ,hvars _ bQ,World.keptBut_mono (λp hp=>⟨hp,?_⟩) (hb.frame (·∈bJ)),λ_=>?_⟩
 .rw [cj,T9]at hp;exact Or.inr hp
 .obtain ⟨_,_,_,_,_,hz,hn⟩:=hW;refine⟨bz,_,_,([]++pa)++pv,⟨[]++pa,pv,trodAll_append (ap _ (λ_ _=>O)) (eD _ _ _),hvars _ (λ_ _=>O),O,?_,?_⟩,?_⟩
  .intro b off hp;have bO:MemPlace.cell b off∈bJ:=by rw[cj];simpa using hp
   rw[hb.frozen (af _ bO)];exact hz b off bO
  .intro ha;have:=hn ha;rw[cj]at this;simpa using this
  .intro p hp _;rw[cj];simpa using hp
theorem c1d{C:Checked}{os:Os}{f:FuncId}{fn:Func}{s:ChangeSpec}{CX:Ctx}{iG:List (String×DataW Unit)}{Jf:Type}{enc:TypeId×Value->Jf}{iE fi iF:Bool}{tb:TypeId}(cT:Array Value)(fuel:Nat)(w0:World)
 (hP:CX.P=C.prog)(own:ownKnob C.prog.godebug=none)(cU:os.Started)(noInit:C.prog.inits.idxOf? f=none)(ci:C.prog.funcs[f]?=some fn)
 (hl:laidOutB C.prog=true)(hread:∀t∈fn.params.toList,C.prog.readableRec t=true/\t<C.prog.types.size)(hv:s.vars=[])
 (hs:∀ds:List (DataW Jf),ds.length=fn.params.size->s.fn Jf ds={results:=[.lit (.bool true)],args:=ds})
 (hrt:fn.resultTypes = #[tb])(htb:C.prog.underlying tb=some .bool)
 (hg:∀Jg,laidMetH C.prog iG Jg->∀g cells,CX.glob g=some cells->GV (V8 Jg) Jg cells g)
 (hos:w0.os=os)(hsh:(w0.forCall (λ_ _=>0) ⟨#[],cT,[]⟩).Shaped C.prog)
 (bz:Input.okWideB C.prog (w0.forCall (λ_ _=>0) ⟨#[],cT,[]⟩) f ⟨#[],cT,[]⟩=true)
 (cH:s.preB enc C.prog fn [] false (w0.forCall (λ_ _=>0) ⟨#[],cT,[]⟩).memory cT fuel=true)
 (aK:s.sizedB enc C.prog fn false (w0.forCall (λ_ _=>0) ⟨#[],cT,[]⟩).memory cT fuel=true)
 (hx:laidMetH C.prog iG (w0.forCall (λ_ _=>0) ⟨#[],cT,[]⟩).memory)
 (walk:∀(Jg:World) (base:Nat) (args:Array Value) (ds:List (DataW Jf)) (ps:List MemPlace),(∀(j:Nat) t v,fn.params[j]?=some t->args[j]?=some v->Value.okWide C.prog Jg .any base t v) ->
  DataW.TrodAll enc C.prog Jg 0 (λ_=>true) true fn.params.toList args.toList ds ps ->
  ∃hZ:List CV,args.size=hZ.length/\(∀(i:Nat) (c:CV),hZ[i]?=some c->RV (V8 Jg) Jg c (args.getD i undef))/\b8 CX f hZ [] λr aa=>r= .ret (.val (.bool true))/\aa=[]):
 ReturnsInHanded {} C os f .any (λw args=>(s.pre enc C.prog fn [] false w args/\laidMetH C.prog iG w)/\sizedMet enc C.prog fn (OpenSpec.ofChange s) false w args) (s.post enc C.prog fn false iE fi iF):=by
 refine returnsInHanded_of_change_and (C:=C) (X:=λw _=>laidMetH C.prog iG w) (λ_ _ _ hh h=>h.of_heap hh) own cU noInit ci
  (ChangeSpec.witness_shaped (enc:=enc) (C:=C) (os:=os) (X:=λw _=>laidMetH C.prog iG w) false w0 cT fuel hos hsh bz cH aK hx) ?_
 intro Jg base args ds gs bJ bP hW _ _ hL _;have hW':=hW;obtain⟨p,q,hA,hV,rfl,-,-⟩:=hW;rw[hv]at hV;have hgs:gs=[]/\q=[]:=by
  cases gs with
  |nil=>exact⟨O,hV⟩
  |cons g r=>exact hV.elim
 obtain⟨rfl,rfl⟩:=hgs;obtain⟨hZ,h1,h2,h3⟩:=walk Jg base args ds p bP hA;have dT:ds.length=fn.params.size:=by
  have:∀{ts:List TypeId} {vs:List Value} {ds:List (DataW Jf)} {ps:List MemPlace},DataW.TrodAll enc C.prog Jg 0 (λ_=>true) true ts vs ds ps->ds.length=ts.length:=by
   intro ts
   induction ts with
   |nil=>intro vs ds ps h;obtain⟨-,rfl,-⟩:=trodAll_nil h;rfl
   |cons t ts ih=>intro vs ds ps h;obtain⟨v,vs1,d,ds1,a,b,-,rfl,-,-,h2⟩:=trodAll_cons h;simp[ih h2]
  simpa using this hA
 have hsd:=hs (ds++[]) (D dT);have hc:=b0g (hg Jg hL) h1 h2 h3;rw[hP]at hc;refine hc.mono λe W' ⟨he,hb⟩=>⟨_,he,?_⟩;refine c2f (pa:=p) (pv:=[]) hW' (λb sp hd=>?_) (λsp ah=>?_) (λsp _=>?_) O hb ?_
 .rw [hsd,hrt];exact trodAll_mk1 (shut_bool htb _)
 .rw [hsd];have af:∀x∈p,x.block <Jg.heap.size:=λx hx=>hW'.lt x (by simp[hx]);simpa using a6n hl hb hread hA af λx hx=>ah x (by simp[hx])
 .rw [hsd,hv];rfl
 .exact ok_one hrt O (okWide_bool_mk htb _)
end Go.Cl
namespace Go.Cl
variable{x y:Operand}{ts:Array TypeId}{a b:Int}
section
variable{C:Ctx}{E:Env}{σ:List b9}{o:Oper}
theorem e2b{k:IntKind}(ho:o.op = .call {callee:=.builtin .max,args:=#[x,y],argTypes:=ts})(hx:E.valid x)(hy:E.valid y)(ex:E.val C x= .val (.int k a))(ey:E.val C y= .val (.int k b)):l8 C σ E o (.val (.int k (max a b))):=
 i8 λM w ρ _ h=>by
  have h1:=h x H0 hx;have h2:=h y H0 hy;rw[ex]at h1;rw[ey]at h2;refine⟨.int k (max a b),?_,.val _⟩;simp[execOp,ho,resolve,invoke,builtin,p8 h1,p8 h2,Go.Lib.run_max_ints]
end
section
variable{C:Ctx}{E:Env}{σ:List b9}{o:Oper}
theorem b5a{t e:TypeId}{s:Nat}{new:List (List CV)}{ti:TypeInfo}{z:Value}{K:R8->List b9->Prop}(m':Nat)(ho:o.op = .call {callee:=.builtin .append,args:=#[x,y],argTypes:=#[t,t]})(hx:E.valid x)(hy:E.valid y)(ex:E.val C x= .list [] false none)
 (aJ:∀M w v,Rel C M σ w->RV M w (E.val C y) v->Src C M w new s v)(hu:∀w,(underlying t).run C.P w= .ok (.slice e) w)(hs:∀w,(sizeOf e).run C.P w= .ok s w)(ca:∀w,(typeInfo e).run C.P w= .ok ti w)(hz:∀w,(zeroValue e).run C.P w= .ok z w)(bn:z.cells.size=s)
 (bC:0<new.length)(hb:new.length*ti.bytes<=140737488355328)(aQ:new.length<=9223372036854775807)(hm:new.length=m')
 (hk:K (.ret (.vec σ.length 0 m')) (σ++[.vec s new])):G5 C σ E o K:=λM w ρ hr hh=>by
 subst hm;have h1:=hh x H0 hx;have h2:=hh y H0 hy;rw[ex]at h1;have aj:=(aJ M w _ hr h2).lenOf;have bb:(execOp ρ o).run C.P w=((Builtin.append_ #[t,t] o.type #[ρ x,ρ y]).run C.P w).andThen λv w=>.ok (.value v) w:=by
  simp[execOp,ho,resolve,invoke,builtin]
 have h1i:=h1;obtain⟨a,cap,b,off,s',vals,hv,bj,dP,dY,eN,-,-,-,-,-,-⟩:=h1i.list_inv;have eP:=eN O;subst eP;obtain⟨dB,gc⟩:=hr.drewN;have dq:=a1f (C:=C) (s:=s) (a4c h1) (λr hr=>by simp at hr);rw[hv]at dq;obtain⟨a1,c1,dX,_,ba,old,hfo,cE,dF⟩:=dq;obtain⟨an,cn,hvn,_,bY,arr,ci,aR,bg⟩:=aJ M w.drew _ dB (a4c h2);obtain⟨c',cz,dM,au⟩:=S3 (P:=C.P) (ty:=o.type) (a:=a) (c:=0) (w:=w) (n:=([]:List (List CV)).length) (m:=new.length) hu (.inl hu) hs ca hz aj hfo ci H6 (D aQ) (D hb);rw[bb,hv,au];simp only[Result.andThen_ok];have fg:w.drew.heap.size=w.heap.size:=O;rw[<- fg];have dr:(old++arr++Builtin.zeroCells z.cells (c'- (([]:List (List CV)).length+new.length))).size=c'*s:=by
  simp only[b3L,R5,cE,aR,bn];rw[<- Q1,<- Q1]
  congr 1;omega
 have aE:=Ext.alloc dB ⟨w.drew.heap.size,c',s⟩ (.cells (old++arr++Builtin.zeroCells z.cells (c'- (([]:List (List CV)).length+new.length))) e);have aq:=a1m (rest:=Builtin.zeroCells z.cells (c'- (([]:List (List CV)).length+new.length))) cE aR ba bY (λi j r c hi hj=>(dF i j r c hi hj).1) (λi j r c hi hj=>(bg i j r c hi hj).1);have aW:=dB.alloc ⟨w.drew.heap.size,c',s⟩ (.cells (old++arr++Builtin.zeroCells z.cells (c'- (([]:List (List CV)).length+new.length))) e) (.vec s ([]++new)) O
  ⟨O,D cz,by unfold maxLen;simp only;omega,D bY,λr hr c hc=>(by
   obtain⟨i,hi⟩:=K5.1 (by simpa using hr:r∈new);obtain⟨j,hj⟩:=K5.1 hc;exact(bg i j r c hi hj).2),_,e,r9 _ _,dr,λi j r c hi hj=>((aq i j r c hi hj).2.mono aE)⟩
 refine⟨.vec σ.length 0 new.length,_,_,gc.trans aE,aW,?_,hk⟩;have:=RV.vec (M:=M.add ⟨w.drew.heap.size,c',s⟩) (w:=w.drew.alloc (.cells (old++arr++Builtin.zeroCells z.cells (c'- (([]:List (List CV)).length+new.length))) e)) (k:=σ.length) (off:=0) (len:=new.length) (p:=⟨w.drew.heap.size,c',s⟩) (a:=⟨w.drew.heap.size,0,none⟩) a7w (D cz) b9L (λ_=>by simp);simpa using this
end
inductive ClO(n:Nat)(σ:List b9):b9->b9->Prop where
 |dead {ob:b9}:ClO n σ ob .dead
 |same {ob:b9}:F7 n ob->ClO n σ ob ob
 |box {t0:Option TypeId} {cells aB:List CV}:a69 n σ cells aB->ClO n σ (.boxT t0 cells) (.boxT t0 aB)
def a3X(n:Nat)(σ:List b9):List b9->List b9->Prop
 |_,[]=>True
 |a::l,b::l'=>ClO n σ a b/\a3X n σ l l'
 | [],_::_=>False
theorem a3X.get{n:Nat}{σ:List b9}:∀{l l':List b9},a3X n σ l l'->l'.length<=l.length/\∀(k:Nat) (b:b9),l'[k]?=some b->∃a,l[k]?=some a/\ClO n σ a b
 |_,[],_=>⟨n_5 _,λk b h=>by simp at h⟩
 |a::l,b::l',⟨h1,h⟩=>by
  obtain⟨g1,g2⟩:=h.get;refine⟨Nat.succ_le_succ g1,λk b hk=>?_⟩
  rcases k with _|k
  .simp at hk;subst hk;exact⟨a,O,h1⟩
  .exact g2 k b (D hk)
theorem Rel.cutCls{C:Ctx}(hC:C.plain){M:z8}{σ S:List b9}{w:World}(hr:Rel C M σ w)(hS:a3X S.length σ σ S):
 Rel C (M.cutAt S.length σ) S w/\Cut S.length M (M.cutAt S.length σ)/\∀M0 w0,Ext M0 w0 M w->M0.pl.length<=S.length->Ext M0 w0 (M.cutAt S.length σ) w:=by
 obtain⟨aM,gD⟩:=hS.get;have aO:Cut S.length M (M.cutAt S.length σ):=⟨O,λ_ h=>.inl h,λ_ _ h=>.inr h⟩;have iA:∀(k:Nat) (p:Pl) (s:Nat) (Y:List (List CV)),S.length<=k->M.pl[k]?=some p->σ[k]?=some (.vec s Y)->(M.cutAt S.length σ).full p.block:=λk p s Y hk hp ao=>.inr ⟨k,p,_,hk,hp,ao,O,O⟩;have aq:∀{k:Nat} {p:Pl},(M.cutAt S.length σ).pl[k]?=some p->k<S.length/\M.pl[k]?=some p:=by
  intro k p hk;have hk:(M.pl.take S.length)[k]?=some p:=hk;rw[a2q]at hk;split at hk
  .exact ⟨‹_›,hk⟩
  .cases hk
 have aj:S.length<=M.pl.length:=by rw[hr.len];exact aM
 have ck:∀{a b:b9},ClO S.length σ a b->b.live=true->a.live=true:=by
  intro a b h hl;cases h with
  |dead=>cases hl
  |same _=>exact hl
  |box _=>rfl
 refine⟨⟨by show(M.pl.take S.length).length=_;simp;omega,λb o ha=>?_,λk p ob hk hs=>?_,λk k' p p' ob aL hk aC hs aT dL da hb=>?_,λg cells hg=>?_,hr.kep,λk p ob hk hs cp=>?_⟩,aO,λM0 w0 hx aM=>?_⟩
 .rcases ha with(ha|⟨k,p,ob,_,hp,hs,hl,rfl⟩)|ha
  .exact hr.blk b o (.inl ha)
  .exact (hr.obj k p ob hp hs).1.lt hl
  .exact hr.blk b o (.inr ha)
 .obtain ⟨af,hp⟩:=aq hk;obtain⟨a,ha,df⟩:=gD k ob hs;obtain⟨h1,h2⟩:=hr.obj k p a hp ha;have ge:a.live=true->¬M.full p.block->¬(M.cutAt S.length σ).full p.block:=λcp ge h=>by
   rcases h with h|⟨k',p',aL,aC,aG,aT,bL,hb⟩
   .exact ge h
   .have:=hr.inj k' k p' p aL a aG hp aT ha bL cp hb;omega
  cases df with
  |dead=>exact⟨J,J⟩
  |same ho=>
   refine⟨?_,?_⟩
   .cases ob with
    |dead=>trivial
    |boxT t0 cells=>
     obtain⟨arr,ty,e1,e2,e3,e4⟩:=h1;exact⟨arr,ty,e1,e2,e3,λi c hi=>(e4 i c hi).cut aO (ho c (n_3 hi))⟩
    |tipT t0 m=>exact h1
    |blk o=>exact h1
    |lp o n cs=>
     obtain⟨tm,e1,e2,e3⟩:=h1;exact⟨tm,e1,e2,λx hi=>(e3 x hi).cut aO (ho x hi)⟩
    |vec s Y=>
     obtain⟨e0,e1,e2,e3,e4,arr,ty,e5,e6,e7⟩:=h1;exact⟨e0,e1,e2,e3,e4,arr,ty,e5,e6,λi j r c hi hj=>(e7 i j r c hi hj).cut aO (ho r (n_3 hi) c (n_3 hj))⟩
    |map es=>
     obtain⟨ae,ai,e1,e2,e3⟩:=h1;refine⟨ae,ai,e1,e2,λi x hi=>?_⟩;obtain⟨e,g1,g2,g3,g4⟩:=e3 i x hi;have:=ho x (n_3 hi);exact⟨e,g1,g2.cut aO this.1,g3.cut aO this.2,g4⟩
    |iter aD es=>
     obtain⟨mb,seen,bF,ae,ai,e1,e2,e3,e4,e5,e6,e7,e8,e9⟩:=h1;refine⟨mb,seen,bF,ae,ai,e1,aO.full _ e2,e3,e4,e5,e6,e7,λi x hi=>?_,λi x hi=>?_⟩
     .obtain ⟨e,g1,g2,g3⟩:=e8 i x hi;have:=ho.2 x (n_3 hi);exact⟨e,g1,g2.cut aO this.1,g3.cut aO this.2⟩
     .obtain ⟨hl,j,e,g0,g1,g2,g3⟩:=e9 i x hi;have:=ho.1 x (n_3 hi);exact⟨hl,j,e,g0,g1,g2.cut aO this.1,g3.cut aO this.2⟩
   .cases ob with
    |dead=>trivial
    |tipT t0 m=>exact ge O h2
    |_=>exact⟨ge O h2.1,h2.2⟩
  |box hc=>
   obtain⟨cy,hcg⟩:=hc.get;obtain⟨arr,ty,e1,e2,e3,e4⟩:=h1;refine⟨⟨arr,ty,e1,by rw[e2,cy],λc hm=>?_,λi c' hi=>?_⟩,ge O h2.1,h2.2⟩
   .obtain ⟨i,hi⟩:=K5.1 hm;obtain⟨y,hy⟩:=r7 cy hi;exact(hcg i y c hy hi).one (e3 y (n_3 hy))
   .obtain ⟨y,hy⟩:=r7 cy hi;exact RV.close hr aO iA (hcg i y c' hy hi) (e4 i y hy)
 .obtain ⟨a,ha,df⟩:=gD k ob hs;obtain⟨a',cL,hab'⟩:=gD k' aL aT;exact hr.inj k k' p p' a a' (aq hk).2 (aq aC).2 ha cL (ck df dL) (ck hab' da) hb
 .refine ⟨?_,aO.full _ (hr.glob g cells hg).full,(hr.glob g cells hg).sz⟩;exact(hr.glob g cells hg).rv.cut aO (.cptr λj c hj=>(hC g cells hg c (n_3 hj)).old)
 .obtain ⟨a,ha,df⟩:=gD k ob hs;exact hr.nk k p a (aq hk).2 ha (ck df cp)
 .obtain ⟨l,hl⟩:=hx.pl;refine⟨⟨l.take (S.length -M0.pl.length),?_⟩,λb h=>.inl (hx.full b h),λb o h=>aO.at (hx.cell b o h),hx.same,hx.sameC,hx.size,hx.drew,hx.os,hx.tape,hx.output,λb hb=>?_⟩
  .show M.pl.take S.length=_;rw[hl,List.take_append,U2 aM]
  .obtain ⟨k1,k2,k3,k4⟩:=hx.kept b hb;refine⟨k1,k2,λf=>?_,k4⟩
   rcases f with f|⟨k,p,ob,_,hp,hs,cp,rfl⟩
   .exact k3 f
   .exact absurd k1 (hr.nk k p ob hp hs cp)
section
variable{C:Ctx}{n:Nat}{Jh:A7->Env->List b9->Prop}{E:Env}{σ:List b9}
end
section
variable{C:Ctx}{E:Env}{σ:List b9}{o:Oper}
theorem b1c{s d:TypeId}{k k0 k':IntKind}(ho:o.op = .convert s d x)(hx:E.valid x)(ex:E.val C x= .val (.int k a))(hs:∀w,(underlying s).run C.P w= .ok (.int k0) w)(hd:∀w,(underlying d).run C.P w= .ok (.int k') w)(hb:k'.wrap a=b):l8 C σ E o (.val (.int k' b)):=
 i8 λM w ρ _ h=>by
  have h1:=h x u0 hx;rw[ex]at h1;refine⟨.int k' b,?_,.val _⟩;simp[execOp,ho,convert,hs,hd,p8 h1,Conv.intToInt,hb]
theorem d6F{f:FuncId}{cx:Operand}{xs:Array Operand}{cargs:List CV}{K:R8->List b9->Prop}(ho:o.op = .call {callee:=.value cx,args:=xs,argTypes:=ts})(hc:E.valid cx)(ec:E.val C cx= .val (.func (.func f) #[] #[]))(aA:∀args w,(callFunc f args).run C.P w= .ok (.enter f args) w)
 (hv:∀x∈xs.toList,E.valid x)(ea:xs.toList.map (E.val C)=cargs)(h:b8 C f cargs σ K):G5 C σ E o K:=λM w ρ hr hh=>by
 have hf:=hh cx H0 hc;rw[ec]at hf;have ef:=p8 hf;have au:(execOp ρ o).run C.P w= .ok (.enter f (xs.map ρ)) w:=by
  simp[execOp,ho,resolve,ef,Deferred.ofValue,invoke,aA]
 rw[au];refine(h M w (xs.map ρ) hr (by simp[<- ea]) λi c hi=>?_).mono λe w' he=>by cases e<;>exact he
 subst ea;simp only[O2,Q3]at hi;obtain⟨x,hx,rfl⟩:=hi;have ay:xs[i]?=some x:=D hx;have hm:x∈xs:=b5x ay;have:(xs.map ρ).getD i undef=ρ x:=by
  rw[Z6,c0G,ay];rfl
 rw[this];exact hh x (by simp[ho,Op.operands,Call.operands,hm]) (hv x (D hm))
theorem d7d{k:IntKind}(ho:o.op = .call {callee:=.builtin .min,args:=#[x,y],argTypes:=ts})(hx:E.valid x)(hy:E.valid y)(ex:E.val C x= .val (.int k a))(ey:E.val C y= .val (.int k b)):l8 C σ E o (.val (.int k (min a b))):=
 i8 λM w ρ _ h=>by
  have h1:=h x H0 hx;have h2:=h y H0 hy;rw[ex]at h1;rw[ey]at h2;refine⟨.int k (min a b),?_,.val _⟩;simp[execOp,ho,resolve,invoke,builtin,p8 h1,p8 h2,Go.Lib.run_min_ints]
end
end Go.Cl
