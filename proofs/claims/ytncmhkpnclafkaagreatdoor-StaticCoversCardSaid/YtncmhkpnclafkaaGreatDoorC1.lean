/- Part 1 of what the claim needs: values without addresses, and what the program's functions do with them. -/
import Derived.WalkKit
import Derived.Below
import Derived.WideKeyArgs
import Derived.ChangeSame
import Derived.ChangeSlices
import Derived.Lib.SmallJoins
import Derived.LaidLaws
import Derived.LaidMore
import Derived.LaidHandle
import Derived.JoinedOf
import Derived.Handed
import Derived.Stop.Joined
import Derived.Lib.MinMax
import Derived.Test.YtncmhkpnclafkaaGreatDoorC0
set_option linter.all false
set_option maxRecDepth 100000
set_option maxHeartbeats 4000000
namespace Go.Cl
variable{w w':World}{a:Act}{af:Array Oper}{v:Value}{n t j id:Nat}{o:Oper}{l:List Oper}{b av:Bool}{x y:Code}
inductive CV where
 |val (v:Value)
 |agg (cs:List CV)
 |tup (cs:List CV)
 |list (aa:List (List CV)) (nn:Bool) (tok:Option Nat)
 |ptr (k off:Nat)
 |cptr (cells:List CV)
 |eptr (k i off:Nat)
 |vec (k off len:Nat)
 |map (k:Nat)
 |yld (k:Nat)
 |clo (f:FuncId) (cs:List CV)
variable{c:CV}
instance:Inhabited CV:=⟨.val undef⟩
structure Pl where
 block:Nat
 cap:Nat
 size:Nat
structure A5 where
 pl:List Pl
 full:Nat->Prop
 cell:Nat->Nat->Prop
 keep:Nat->Prop
variable{M M':A5}
def A5.at(M:A5)(b o:Nat):Prop:=M.full b\/M.cell b o
def CV.one:CV->Bool
 | .val v=>v.oneCell'
 | .agg _| .tup _=>false
 |_=>true
inductive RV(M:A5)(w:World):CV->Value->Prop where
 |val (v:Value):RV M w (.val v) v
 |agg {cs:List CV} {vs:Array Value}:vs.size=cs.length->(∀c∈cs,c.one=true)->(∀(i:Nat) (c:CV),cs[i]?=some c->RV M w c (vs.getD i undef))->RV M w (.agg cs) (.agg vs)
 |tup {cs:List CV} {vs:Array Value}:vs.size=cs.length->(∀(i:Nat) (c:CV),cs[i]?=some c->RV M w c (vs.getD i undef))->RV M w (.tup cs) (.tuple vs)
 |clo {f:FuncId} {cs:List CV} {vs:Array Value}:vs.size=cs.length->(∀(i:Nat) (c:CV),cs[i]?=some c->RV M w c (vs.getD i undef))->RV M w (.clo f cs) (.func (.func f) #[] vs)
 |list {aa:List (List CV)} {nn:Bool} {tok:Option Nat} {a:Option Addr} {cap b off s:Nat} (vals:Nat->Nat->Value):
  aa.length<=cap->cap<=maxLen->a.isSome=nn->(nn=false->cap=0)->(aa≠[]->a=some ⟨b,off,none⟩) ->
  (∀r∈aa,r.length=s)->(∀r∈aa,∀c∈r,c.one=true) ->
  (∀(i j:Nat) (r:List CV) (c:CV),aa[i]?=some r->r[j]?=some c->M.at b (off+i*s+j)/\w.cell? ⟨b,off+i*s+j,none⟩=some (vals i j)) ->
  (∀(i j:Nat) (r:List CV) (c:CV),aa[i]?=some r->r[j]?=some c->RV M w c (vals i j)) ->
  (∀k,tok=some k->∃s',M.pl[k]?=some ⟨b,cap,s'⟩/\a=some ⟨b,0,none⟩/\off=0/\(aa≠[]->s'=s)) ->
  RV M w (.list aa nn tok) (.slice a aa.length cap)
 |ptr {k off:Nat} {p:Pl}:M.pl[k]?=some p->RV M w (.ptr k off) (.pointer (some ⟨p.block,off,none⟩))
 |cptr {cells:List CV} {b off:Nat} (vals:Nat->Value):(∀c∈cells,c.one=true) ->
  (∀(j:Nat) (c:CV),cells[j]?=some c->M.at b (off+j)/\w.cell? ⟨b,off+j,none⟩=some (vals j)) ->
  (∀(j:Nat) (c:CV),cells[j]?=some c->RV M w c (vals j)) ->
  RV M w (.cptr cells) (.pointer (some ⟨b,off,none⟩))
 |eptr {k i off:Nat} {p:Pl}:M.pl[k]?=some p->RV M w (.eptr k i off) (.pointer (some ⟨p.block,i*p.size+off,none⟩))
 |vec {k off len:Nat} {p:Pl} {a:Addr}:M.pl[k]?=some p->off+len<=p.cap->p.cap<=maxLen->(off<p.cap->a=⟨p.block,off*p.size,none⟩)->RV M w (.vec k off len) (.slice (some a) len (p.cap -off))
 |map {k:Nat} {p:Pl}:M.pl[k]?=some p->RV M w (.map k) (.map (some p.block))
 |yld {k:Nat} {p:Pl}:M.pl[k]?=some p->RV M w (.yld k) (.func (.yield p.block) #[] #[])
theorem R4{a b:Nat}(h:a<=b:=by first|exact n_6 _|exact Nat.le_add_right _ _):a<=b:=h
structure Ext(M:A5)(w:World)(M':A5)(w':World):Prop where
 pl:∃l,M'.pl=M.pl++l
 full:∀b,M.full b->M'.full b
 cell:∀b o,M.cell b o->M'.at b o
 same:∀b,M.full b->w'.heap[b]?=w.heap[b]?
 sameC:∀b o,M.cell b o->w'.cell? ⟨b,o,none⟩=w.cell? ⟨b,o,none⟩
 size:w.heap.size<=w'.heap.size
 drew:w.drawn<=w'.drawn
 os:w'.os=w.os
 tape:w'.tape=w.tape
 output:w'.output=w.output
 kept:∀b,M.keep b->M'.keep b/\w'.heap[b]?=w.heap[b]?/\(M'.full b->M.full b)/\∀o,M'.cell b o->M.cell b o
theorem Ext.refl(M:A5)(w:World):Ext M w M w:=
 ⟨⟨[],Q⟩,λ_ h=>h,λ_ _ h=>.inr h,λ_ _=>G,λ_ _ _=>G,n_6 _,R4,G,G,G,λ_ h=>⟨h,G,id,λ_=>id⟩⟩
theorem L1{b o:Nat}(h:w'.heap[b]?=w.heap[b]?):w'.cell? ⟨b,o,none⟩=w.cell? ⟨b,o,none⟩:=by
 simp[World.cell?,h]
theorem Ext.at(h:Ext M w M' w'){b o:Nat}(ha:M.at b o):M'.at b o/\w'.cell? ⟨b,o,none⟩=w.cell? ⟨b,o,none⟩:=by
 rcases ha with ha|ha
 .exact ⟨.inl (h.full _ ha),L1 (h.same _ ha)⟩
 .exact ⟨h.cell _ _ ha,h.sameC _ _ ha⟩
theorem Ext.get(h:Ext M w M' w'){k:Nat}{p:Pl}(hk:M.pl[k]?=some p):M'.pl[k]?=some p:=by
 obtain⟨l,hl⟩:=h.pl;rw[hl,T6 (n_2.1 hk).1];exact hk
theorem Ext.trans{hZ:A5}{w'':World}(h:Ext M w M' w')(k:Ext M' w' hZ w''):Ext M w hZ w'':=by
 obtain⟨l,hl⟩:=h.pl;obtain⟨l',bz⟩:=k.pl;refine⟨⟨l++l',by rw[bz,hl,T5]⟩,λb hb=>k.full _ (h.full _ hb),λb o hb=>(k.at (h.cell _ _ hb)).1,λb hb=>(k.same _ (h.full _ hb)).trans (h.same _ hb),λb o hb=>?_,a1F h.size k.size,a1F h.drew k.drew,k.os.trans h.os,k.tape.trans h.tape,k.output.trans h.output,λb hb=>?_⟩
 .exact (k.at (h.cell _ _ hb)).2.trans (h.sameC _ _ hb)
 .obtain ⟨h1,h2,h3,h4⟩:=h.kept b hb;obtain⟨k1,k2,k3,k4⟩:=k.kept b h1;exact⟨k1,k2.trans h2,λf=>h3 (k3 f),λo f=>h4 o (k4 o f)⟩
theorem RV.mono(h:Ext M w M' w')(hr:RV M w c v):RV M' w' c v:=by
 induction hr with
 |val v=>exact .val v
 |agg h1 h2 _ ih=>exact .agg h1 h2 ih
 |tup h1 _ ih=>exact .tup h1 ih
 |clo h1 _ ih=>exact .clo h1 ih
 |list vals h1 h2 h3 h4 h5 h6 h7 h8 _ bL ih=>
  refine .list vals h1 h2 h3 h4 h5 h6 h7 (λi j r c hi hj=>?_) ih (λk hk=>?_)
  .obtain ⟨ha,hc⟩:=h8 i j r c hi hj;exact⟨(h.at ha).1,(h.at ha).2.trans hc⟩
  .obtain ⟨s',hp,bb⟩:=bL k hk;exact⟨s',h.get hp,bb⟩
 |ptr hk=>exact .ptr (h.get hk)
 |cptr vals h1 h2 _ ih=>
  refine .cptr vals h1 (λj c hj=>?_) ih;obtain⟨ha,hc⟩:=h2 j c hj;exact⟨(h.at ha).1,(h.at ha).2.trans hc⟩
 |eptr hk=>exact .eptr (h.get hk)
 |vec hk h1 h2 h3=>exact .vec (h.get hk) h1 h2 h3
 |map hk=>exact .map (h.get hk)
 |yld hk=>exact .yld (h.get hk)
theorem RV.one(hr:RV M w c v)(hc:c.one=true):v.oneCell'=true:=by
 cases hr<;>first|rfl|exact hc|(simp[CV.one]at hc)
inductive b9 where
 |dead
 |boxT (ty:Option TypeId) (cells:List CV)
 |tipT (ty:Option TypeId) (n:Nat)
 |vec (s:Nat) (aa:List (List CV))
 |map (es:List (CV×CV))
 |iter (aF left:List (CV×CV))
 |blk (o:Obj)
 |lp (o:Loop) (n:Nat) (cs:List (Nat×CV))
variable{σ:List b9}
abbrev b9.box(cells:List CV):b9:=.boxT none cells
abbrev b9.tip(n:Nat):b9:=.tipT none n
def b9.live:b9->Bool
 | .dead=>false
 |_=>true
def b0W(ah:Array MapEntry):Prop:=∀(i j:Nat) (e e':MapEntry),ah[i]?=some e->ah[j]?=some e'->e.born=e'.born->i=j
def R3(M:A5)(w:World)(p:Pl):b9->Prop
 | .dead=>True
 | .boxT t0 cells=>∃arr ty,w.heap[p.block]?=some (.cells arr (t0.getD ty) (0,0))/\arr.size=cells.length/\(∀c∈cells,c.one=true)/\∀(i:Nat) (c:CV),cells[i]?=some c->RV M w c (arr.getD i undef)
 | .tipT t0 n=>n<=p.cap/\p.cap<=maxLen/\((∀o,M.cell p.block o->o<n*p.size)/\(t0.isSome=true->p.size=1))/\∃arr ty,w.heap[p.block]?=some (.cells arr (t0.getD ty) (0,0))/\arr.size=p.cap*p.size
 | .vec s aa=>p.size=s/\aa.length<=p.cap/\p.cap<=maxLen/\(∀r∈aa,r.length=p.size)/\(∀r∈aa,∀c∈r,c.one=true)/\∃arr ty,w.heap[p.block]?=some (.cells arr ty (0,0))/\arr.size=p.cap*p.size /\
  ∀(i j:Nat) (r:List CV) (c:CV),aa[i]?=some r->r[j]?=some c->RV M w c (arr.getD (i*p.size+j) undef)
 | .map es=>∃(ah:Array MapEntry) (ak:Nat),w.heap[p.block]?=some (.map ah ak)/\(ah.size=es.length/\b0W ah)/\(∀(i:Nat) (x:CV×CV),es[i]?=some x->∃e,ah[i]?=some e/\RV M w x.1 e.key/\RV M w x.2 e.val/\e.born <ak)
 | .iter aF left=>∃(mb:Nat) (seen:Array Nat) (bG:Nat) (ah:Array MapEntry) (ak:Nat),w.heap[p.block]?=some (.mapIter (some mb) ak seen bG)/\M.full mb/\w.heap[mb]?=some (.map ah ak)/\(seen= #[]\/bG=ak)/\b0W ah/\(∀(i:Nat) (e:MapEntry),ah[i]?=some e->e.born <ak)/\(ah.toList.filter λe=>!seen.contains e.born).length=left.length/\(∀(i:Nat) (x:CV×CV),left[i]?=some x->∃e,(ah.toList.filter λe=>!seen.contains e.born)[i]?=some e/\RV M w x.1 e.key/\RV M w x.2 e.val)/\∀(i:Nat) (x:CV×CV),aF[i]?=some x->bG=ak/\∃(j:Nat) (e:MapEntry),ah[j]?=some e/\seen.back? =some e.born/\RV M w x.1 e.key/\RV M w x.2 e.val
 | .blk o=>w.heap[p.block]?=some o
 | .lp o n cs=>∃tmps,w.heap[p.block]?=some (.loop {o with tmps})/\tmps.size=n/\∀x∈cs,RV M w x.2 (tmps.getD x.1 undef)
def a6U(M:A5)(p:Pl):b9->Prop
 | .dead=>True
 | .tipT _ _=>¬M.full p.block
 |_=>¬M.full p.block/\∀o,¬M.cell p.block o
structure TyE where
 agg:Bool
 size:Nat
 offs:List Nat
def TyE.right(P:Program)(t:Nat)(e:TyE):Prop:=(∀w,(isAgg t).run P w= .ok e.agg w)/\(∀w,(sizeOf t).run P w= .ok e.size w) /\
 (e.offs=[]\/∃fs:Array Field,(∀w,(underlying t).run P w= .ok (.struct fs) w)/\∀(i d:Nat),e.offs[i]?=some d->∃(fd:Field) (s:Nat),fs[i]?=some fd/\fd.offset=d/\(∀w,(sizeOf fd.type).run P w= .ok s w)/\s≠0)
structure Ctx where
 P:Program
 glob:Nat->Option (List CV)
 tab:List (Nat×TyE):=[]
 right:∀x∈tab,x.2.right P x.1:=by intro x h;cases h
variable{C:Ctx}
structure GV(M:A5)(w:World)(cells:List CV)(g:Nat):Prop where
 rv:RV M w (.cptr cells) (.pointer (some ⟨g,0,none⟩))
 full:M.full g
 sz:∃arr ty fr,w.heap[g]?=some (.cells arr ty fr)/\arr.size=cells.length
theorem GV.mono(h:Ext M w M' w'){cells:List CV}{g:Nat}(hg:GV M w cells g):GV M' w' cells g:=
 ⟨hg.rv.mono h,h.full _ hg.full,by rw[h.same _ hg.full];exact hg.sz⟩
structure Rel(C:Ctx)(M:A5)(σ:List b9)(w:World):Prop where
 len:M.pl.length=σ.length
 blk:∀b o,M.at b o->b<w.heap.size
 obj:∀(k:Nat) (p:Pl) (ob:b9),M.pl[k]?=some p->σ[k]?=some ob->R3 M w p ob/\a6U M p ob
 inj:∀(k k':Nat) (p p':Pl) (ob aH:b9),M.pl[k]?=some p->M.pl[k']?=some p'->σ[k]?=some ob->σ[k']?=some aH->ob.live=true->aH.live=true->p.block=p'.block->k=k'
 glob:∀g cells,C.glob g=some cells->GV M w cells g
 kep:∀b,M.keep b->b<w.heap.size
 nk:∀(k:Nat) (p:Pl) (ob:b9),M.pl[k]?=some p->σ[k]?=some ob->ob.live=true->¬M.keep p.block
inductive Ok where
 |yes
 |two (a b:Prop)
def Ok.is:Ok->Prop
 | .yes=>True
 | .two a _=>a
def Ok.un:Ok->Prop
 | .yes=>¬True
 | .two _ b=>b
structure Env where
 h:Nat->Option CV
 g:Nat->Ok
variable{E:Env}
def Env.f(E:Env)(t:Nat):CV:=(E.h t).getD (.val undef)
def Env.ok(E:Env)(t:Nat):Prop:=(E.g t).is
def Env.un(E:Env)(t:Nat):Prop:=(E.g t).un
def Env.putO(E:Env)(d:Option Nat)(c:CV)(g:Ok):Env:=
 match d with
 |none=>E
 |some d=>{h:=λt=>match Nat.beq t d with|true=>some c|false=>E.h t,g:=λt=>match Nat.beq t d with|true=>g|false=>E.g t}
abbrev Env.put(E:Env)(d:Option Nat)(c:CV)(g:Prop):Env:=E.putO d c (.two g (¬g))
def Env.hide(E:Env)(d:Option Nat):Env:=
 match d with
 |none=>E
 |some d=>{h:=E.h,g:=λt=>match Nat.beq t d with|true=>.two False False|false=>E.g t}
theorem b9t{d:Nat}(h:¬t=d):Nat.beq t d=false:=c1Z.2 λhb=>h (a2l hb)
theorem Env.putO_f(E:Env)(d:Nat)(c:CV)(g:Ok)(t:Nat):(E.putO (some d) c g).f t=if t=d then c else E.f t:=by
 show(match Nat.beq t d with|true=>some c|false=>E.h t).getD _=_;by_cases h:t=d
 .subst h;simp
 .rw [b9t h,H h];rfl
theorem Env.putO_g(E:Env)(d:Nat)(c:CV)(g:Ok)(t:Nat):(E.putO (some d) c g).g t=if t=d then g else E.g t:=by
 show(match Nat.beq t d with|true=>g|false=>E.g t)=_;by_cases h:t=d
 .subst h;simp
 .rw [b9t h,H h]
theorem Env.putO_ok(E:Env)(d:Nat)(c:CV)(g:Ok)(t:Nat):(E.putO (some d) c g).ok t=if t=d then g.is else E.ok t:=by
 unfold Env.ok;rw[E.putO_g];split<;>rfl
theorem Env.putO_un(E:Env)(d:Nat)(c:CV)(g:Ok)(t:Nat):(E.putO (some d) c g).un t=if t=d then g.un else E.un t:=by
 unfold Env.un;rw[E.putO_g];split<;>rfl
theorem Env.put_f(E:Env)(d:Nat)(c:CV)(g:Prop)(t:Nat):(E.put (some d) c g).f t=if t=d then c else E.f t:=E.putO_f d c _ t
theorem Env.put_ok(E:Env)(d:Nat)(c:CV)(g:Prop)(t:Nat):(E.put (some d) c g).ok t=if t=d then g else E.ok t:=by
 unfold Env.ok;rw[E.putO_g];split<;>rfl
theorem Env.put_un(E:Env)(d:Nat)(c:CV)(g:Prop)(t:Nat):(E.put (some d) c g).un t=if t=d then ¬g else E.un t:=by
 unfold Env.un;rw[E.putO_g];split<;>rfl
theorem Env.hide_at(E:Env)(d t:Nat):(E.hide (some d)).f t=E.f t/\(E.hide (some d)).ok t=(if t=d then False else E.ok t)/\(E.hide (some d)).un t=(if t=d then False else E.un t):=by
 have hg:(E.hide (some d)).g t=if t=d then .two False False else E.g t:=by
  show(match Nat.beq t d with|true=>Ok.two False False|false=>E.g t)=_;by_cases h:t=d
  .subst h;simp
  .rw [b9t h,H h]
 unfold Env.ok Env.un;rw[hg];refine⟨G,?_,?_⟩<;>split<;>rfl
def b6x:Value->CV
 | .slice none _ _=>.list [] false none
 |v=>.val v
def G2:Value->CV
 | .agg cs=>.agg (cs.toList.map b6x)
 |v=>b6x v
def a0d:Value->Bool
 | .slice none 0 0=>true
 | .slice _ _ _=>false
 |v=>v.oneCell'
def I2:Value->Bool
 | .agg cs=>cs.toList.all a0d
 | .slice none 0 0=>true
 | .slice _ _ _=>false
 |_=>true
def Env.val(C:Ctx)(E:Env):Operand->CV
 | .tmp t=>E.f t
 | .const v=>G2 v
 | .global g=>match C.glob g with
  |some cells=>.cptr cells
  |none=>.val (.pointer (some ⟨g,0,none⟩))
 | .func f=>.val (.func (.func f) #[] #[])
def Env.valid(E:Env):Operand->Prop
 | .tmp t=>E.ok t
 | .const v=>I2 v=true
 |_=>True
theorem b6y(h:a0d v=true):RV M w (b6x v) v:=by
 cases v with
 |slice a n c=>
  cases a with
  |some a=>simp[a0d]at h
  |none=>
   have:n=0/\c=0:=by
    rcases n with _|n<;>rcases c with _|c<;>simp[a0d]at h⊢
   obtain⟨rfl,rfl⟩:=this;exact RV.list (aa:=[]) (b:=0) (off:=0) (s:=0) (λ_ _=>undef) (n_6 _) (by simp[maxLen]) G V9 (λh=>absurd G h) Q Q Q Q Q
 |_=>exact .val _
theorem c4d(h:a0d v=true):(b6x v).one=true:=by
 cases v with
 |slice a n c=>cases a<;>rfl
 |_=>simpa[b6x,CV.one,a0d]using h
theorem a0m(h:I2 v=true):RV M w (G2 v) v:=by
 cases v with
 |agg cs=>
  have hc:∀v∈cs,a0d v=true:=by
   have h':∀v∈cs.toList,a0d v=true:=a6h.1 h;exact λv hv=>h' v (U hv)
  refine .agg Q (λc hm=>?_) (λi c hi=>?_)
  .obtain ⟨v,hv,rfl⟩:=D8.1 hm;exact c4d (hc v (U hv))
  .simp only[N6,M8]at hi;obtain⟨v,hv,rfl⟩:=hi;have gI:cs[i]?=some v:=U hv;rw[a0b,gI];exact b6y (hc v (b4k gI))
 |slice a n c=>
  refine b6y ?_
  rcases a with _|a
  .rcases n with _|n<;>rcases c with _|c<;>simp[I2,a0d]at h⊢
  .simp [I2]at h
 |_=>exact .val _
structure G4(M:A5)(w:World)(n:Nat)(E:Env)(a:Act):Prop where
 defers:a.defers=[]
 size:a.tmps.size=n
 rv:∀t,E.ok t->RV M w (E.f t) (a.tmps.getD t undef)
 un:∀t,E.un t->a.tmps.getD t undef=undef
theorem G4.mono(h:Ext M w M' w')(hf:G4 M w n E a):G4 M' w' n E a:=
 ⟨hf.defers,hf.size,λt ht=>(hf.rv t ht).mono h,hf.un⟩
theorem G4.put{d:Option Nat}{g:Prop}(hf:G4 M w n E a)(hd:∀t,d=some t->t<n)(hv:g->RV M w c v)(hu:¬g->v=undef):
 G4 M w n (E.put d c g) (a.put d v):=by
 cases d with
 |none=>exact hf
 |some d=>
  have hdn:=hd d G;refine⟨hf.defers,by simp[Act.put,hf.size],λt ht=>?_,λt ht=>?_⟩;by_cases il:t=d
  .subst il;simp only[Env.put_f,Env.put_ok,if_true]at ht⊢;have:(a.put (some t) v).tmps.getD t undef=v:=by simp[Act.put,hf.size,hdn]
   rw[this];exact hv ht
  .simp only[Env.put_f,Env.put_ok,H il]at ht⊢;have:(a.put (some d) v).tmps.getD t undef=a.tmps.getD t undef:=by simp[Act.put,b5M (Ne.symm il)]
   rw[this];exact hf.rv t ht
  .by_cases il:t=d
   .subst il;simp only[Env.put_un,if_true]at ht;have:(a.put (some t) v).tmps.getD t undef=v:=by simp[Act.put,hf.size,hdn]
    rw[this];exact hu ht
   .simp only[Env.put_un,H il]at ht;have:(a.put (some d) v).tmps.getD t undef=a.tmps.getD t undef:=by simp[Act.put,b5M (Ne.symm il)]
    rw[this];exact hf.un t ht
theorem G4.hide{d:Option Nat}(hf:G4 M w n E a):G4 M w n (E.hide d) (a.put d v):=by
 cases d with
 |none=>exact hf
 |some d=>
  refine⟨hf.defers,by simp[Act.put,hf.size],λt ht=>?_,λt ht=>?_⟩
  .rw [(E.hide_at d t).2.1]at ht;split at ht
   .exact ht.elim
   .rename_i il;have:(a.put (some d) v).tmps.getD t undef=a.tmps.getD t undef:=by simp[Act.put,b5M (Ne.symm il)]
    rw[this];exact hf.rv t ht
  .rw [(E.hide_at d t).2.2]at ht;split at ht
   .exact ht.elim
   .rename_i il;have:(a.put (some d) v).tmps.getD t undef=a.tmps.getD t undef:=by simp[Act.put,b5M (Ne.symm il)]
    rw[this];exact hf.un t ht
theorem G4.eval(hr:Rel C M σ w)(hf:G4 M w n E a){x:Operand}(hx:E.valid x):RV M w (E.val C x) (a.eval x):=by
 cases x with
 |tmp t=>exact hf.rv t hx
 |const v=>exact a0m hx
 |global g=>
  simp only[Env.val,Act.eval]
  split
  .rename_i cells hc;exact(hr.glob g cells hc).rv
  .exact .val _
 |func f=>exact .val _
inductive L7 where
 |ret (c:CV)
 |pan (c:CV)
variable{K K':L7->List b9->Prop}
def b1H(P:Program)(K:Value->World->Prop)(Kp:List PanicEntry->World->Prop):Result Next->Prop
 | .ok (.value v) w'=>K v w'
 | .ok .skip w'=>K undef w'
 | .ok (.enter f args) w'=>Calls P f args w' λ
  | .returned v,w''=>K v w''
  | .panicked ch,w''=>Kp ch w''
  | .outgrown,_=>False
 | .halt (.panic v) w'=>Kp [{v,recovered:=false}] w'
 |_=>False
theorem b1H.mono{P:Program}{K K':Value->World->Prop}{Kp Kp':List PanicEntry->World->Prop}{r:Result Next}(h:b1H P K Kp r)(hk:∀v w,K v w->K' v w)(hp:∀c w,Kp c w->Kp' c w):b1H P K' Kp' r:=by
 cases r with
 |ok x w=>
  cases x<;>simp only[b1H]at h⊢
  case value v=>exact hk _ _ h
  case skip=>exact hk _ _ h
  case enter f args=>
   refine h.mono λe w' he=>?_;cases e with
   |returned v=>exact hk _ _ he
   |panicked c=>exact hp _ _ he
   |outgrown=>exact he
 |halt x w=>
  cases x<;>simp only[b1H]at h⊢
  exact hp _ _ h
theorem a3z{P:Program}{K:Value->World->Prop}{Kp:List PanicEntry->World->Prop}{next:Act->World->Prop}{Ji:Exit->Act->World->Prop}
 (h:b1H P K Kp ((execOp a.eval o).run P w))(hk:∀v w',K v w'->next (a.put o.dst v) w')(hp:∀c w',Kp c w'->Ji (.panic c) a w'):o.wp P a w next Ji:=by
 unfold Oper.wp;generalize (execOp a.eval o).run P w=r at h;cases r with
 |ok x w=>
  cases x<;>simp only[b1H]at h<;>simp only[Oper.upon]
  case value v=>exact hk _ _ h
  case skip=>exact hk _ _ h
  case enter f args=>
   refine h.mono λe w' he=>?_;cases e with
   |returned v=>exact hk _ _ he
   |panicked c=>exact hp _ _ he
   |outgrown=>exact he.elim
 |halt x w=>
  cases x<;>simp only[b1H]at h<;>simp only[Oper.upon]
  exact hp _ _ h
def a1h(C:Ctx)(M:A5)(w:World)(K:L7->List b9->Prop)(v:Value)(w':World):Prop:=
 ∃c ae M',Ext M w M' w'/\Rel C M' ae w'/\RV M' w' c v/\K (.ret c) ae
def R5(C:Ctx)(M:A5)(w:World)(K:L7->List b9->Prop)(ch:List PanicEntry)(w':World):Prop:=
 ∃c v ae M',ch=[{v,recovered:=false}]/\Ext M w M' w'/\Rel C M' ae w'/\RV M' w' c v/\K (.pan c) ae
def C5(C:Ctx)(σ:List b9)(E:Env)(o:Oper)(K:L7->List b9->Prop):Prop:=
 ∀(M:A5) (w:World) (ρ:Operand->Value),Rel C M σ w->(∀x∈o.op.operands,E.valid x->RV M w (E.val C x) (ρ x)) ->
  b1H C.P (a1h C M w K) (R5 C M w K) ((execOp ρ o).run C.P w)
def j4(C:Ctx)(σ:List b9)(E:Env)(o:Oper)(c:CV):Prop:=C5 C σ E o λr ae=>r= .ret c/\ae=σ
def b8(C:Ctx)(f:FuncId)(args:List CV)(σ:List b9)(K:L7->List b9->Prop):Prop:=
 ∀(M:A5) (w:World) (vs:Array Value),Rel C M σ w->vs.size=args.length->(∀(i:Nat) (c:CV),args[i]?=some c->RV M w c (vs.getD i undef)) ->
  Calls C.P f vs w λ
   | .returned v,w'=>a1h C M w K v w'
   | .panicked ch,w'=>R5 C M w K ch w'
   | .outgrown,_=>False
theorem a1h.mono(h:∀r σ,K r σ->K' r σ)(ha:a1h C M w K v w'):a1h C M w K' v w':=by
 obtain⟨c,ae,M',h1,h2,h3,h4⟩:=ha;exact⟨c,ae,M',h1,h2,h3,h _ _ h4⟩
theorem R5.mono(h:∀r σ,K r σ->K' r σ){v:List PanicEntry}(ha:R5 C M w K v w'):R5 C M w K' v w':=by
 obtain⟨c,Jj,ae,M',h0,h1,h2,h3,h4⟩:=ha;exact⟨c,Jj,ae,M',h0,h1,h2,h3,h _ _ h4⟩
theorem C5.mono(hd:C5 C σ E o K)(h:∀r σ,K r σ->K' r σ):C5 C σ E o K':=
 λM w ρ hr hx=>(hd M w ρ hr hx).mono (λ_ _=>a1h.mono h) (λ_ _=>R5.mono h)
theorem b8.mono{f:FuncId}{args:List CV}(hd:b8 C f args σ K)(h:∀r σ,K r σ->K' r σ):b8 C f args σ K':=
 λM w vs hr hn hx=>(hd M w vs hr hn hx).mono λe w' he=>by
  cases e with
  |returned v=>exact a1h.mono h he
  |panicked c=>exact R5.mono h he
  |outgrown=>exact he
inductive A7 where
 |normal
 |exit (id:Nat)
 |goto (l:Nat)
 |ret
 |pan (c:CV)
variable{Ji:A7->Env->List b9->Prop}
def O6(C:Ctx)(n:Nat)(Ji:A7->Env->List b9->Prop)(M:A5)(w:World)(e:Exit)(a':Act)(w':World):Prop:=
 ∃E' ae M',Ext M w M' w'/\Rel C M' ae w'/\G4 M' w' n E' a' /\
  match e with
  | .normal=>Ji .normal E' ae
  | .exit id=>Ji (.exit id) E' ae
  | .goto l=>Ji (.goto l) E' ae
  | .ret=>Ji .ret E' ae
  | .panic ch=>∃c v,ch=[{v,recovered:=false}]/\RV M' w' c v/\Ji (.pan c) E' ae
  | .outgrown=>False
def CWp(C:Ctx)(n:Nat)(c:Code)(Ji:A7->Env->List b9->Prop)(E:Env)(σ:List b9):Prop:=
 ∀(M:A5) (w:World) (a:Act),Rel C M σ w->G4 M w n E a->c.wp C.P (O6 C n Ji M w) a w
def F0(C:Ctx)(n:Nat)(af:Array Oper)(Ji:A7->Env->List b9->Prop)(l:List Oper)(E:Env)(σ:List b9):Prop:=
 ∀(M:A5) (w:World) (a:Act),Rel C M σ w->G4 M w n E a->wpList C.P af (O6 C n Ji M w) l a w
theorem O6.mono{Q':A7->Env->List b9->Prop}(h:∀e E σ,Ji e E σ->Q' e E σ){e:Exit}(hl:O6 C n Ji M w e a w'):O6 C n Q' M w e a w':=by
 obtain⟨E',ae,M',h1,h2,h3,h4⟩:=hl;refine⟨E',ae,M',h1,h2,h3,?_⟩;cases e<;>first|exact h _ _ _ h4|(obtain⟨c,v,hc,hv,hq⟩:=h4;exact⟨c,v,hc,hv,h _ _ _ hq⟩)|exact h4
theorem O6.later{M1:A5}{w1:World}(he:Ext M w M1 w1){e:Exit}(hl:O6 C n Ji M1 w1 e a w'):O6 C n Ji M w e a w':=by
 obtain⟨E',ae,M',h1,h2,h3,h4⟩:=hl;exact⟨E',ae,M',he.trans h1,h2,h3,h4⟩
theorem CWp.mono{c:Code}{Q':A7->Env->List b9->Prop}(h:CWp C n c Ji E σ)(hq:∀e E σ,Ji e E σ->Q' e E σ):CWp C n c Q' E σ:=
 λM w a hr hf=>wp_mono (h M w a hr hf) λ_ _ _=>O6.mono hq
def A7.next(k:Env->List b9->Prop)(Ji:A7->Env->List b9->Prop):A7->Env->List b9->Prop
 | .normal=>k
 |e=>Ji e
section
theorem A8(h:Ji .normal E σ):CWp C n .skip Ji E σ:=λM w _ hr hf=>wp_skip ⟨E,σ,M,Ext.refl M w,hr,hf,h⟩
theorem b8P{l:Nat}(h:Ji .normal E σ):CWp C n (.label l) Ji E σ:=λM w _ hr hf=>wp_label ⟨E,σ,M,Ext.refl M w,hr,hf,h⟩
theorem o6(h:Ji (.exit id) E σ):CWp C n (.exit id) Ji E σ:=λM w _ hr hf=>wp_exit ⟨E,σ,M,Ext.refl M w,hr,hf,h⟩
theorem c6(h:Ji .ret E σ):CWp C n .ret Ji E σ:=λM w _ hr hf=>wp_ret ⟨E,σ,M,Ext.refl M w,hr,hf,h⟩
theorem F7(h:CWp C n x (A7.next (CWp C n y Ji) Ji) E σ):CWp C n (.seq x y) Ji E σ:=λM w a hr hf=>by
 refine wp_seq (wp_mono (h M w a hr hf) λe a' w' hl=>?_);obtain⟨E',ae,M',h1,h2,h3,h4⟩:=hl;cases e with
 |normal=>exact wp_mono (h4 M' w' a' h2 h3) λ_ _ _=>O6.later h1
 |_=>exact⟨E',ae,M',h1,h2,h3,h4⟩
theorem a2A{c:Operand}(hv:E.valid c)(hc:E.val C c= .val (.bool b))(ht:b=true->CWp C n x Ji E σ)(gJ:b=false->CWp C n y Ji E σ):CWp C n (.cond c x y) Ji E σ:=λM w a hr hf=>by
 have h1:RV M w (E.val C c) (a.eval c):=hf.eval hr hv;rw[hc]at h1;have h2:a.eval c= .bool b:=by generalize a.eval c=Jj at h1;cases h1;rfl
 exact wp_cond_split h2 (λh=>ht h M w a hr hf) (λh=>gJ h M w a hr hf)
def A7.blk(id:Nat)(Ji:A7->Env->List b9->Prop):A7->Env->List b9->Prop
 | .exit id',E,σ=>if id'=id then Ji .normal E σ else Ji (.exit id') E σ
 |e,E,σ=>Ji e E σ
theorem a1Z{c:Code}(h:CWp C n c (A7.blk id Ji) E σ):CWp C n (.block id c) Ji E σ:=λM w a hr hf=>by
 refine wp_block (wp_mono (h M w a hr hf) λe a' w' hl=>?_);obtain⟨E',ae,M',h1,h2,h3,h4⟩:=hl;cases e with
 |exit id'=>
  simp only[Exit.inBlock];simp only[A7.blk]at h4
  split<;>rename_i io
  .rw [W io]at h4;exact⟨E',ae,M',h1,h2,h3,h4⟩
  .rw [H io]at h4;exact⟨E',ae,M',h1,h2,h3,h4⟩
 |_=>exact⟨E',ae,M',h1,h2,h3,h4⟩
theorem c3a{c:Code}(Je:Nat->Env->List b9->Prop)(m:Nat)(h0:Je m E σ)
 (round:∀m E σ,Je m E σ->CWp C n c (A7.next (λE' ae=>∃m',m'<m/\Je m' E' ae) Ji) E σ):CWp C n (.loop c) Ji E σ:=λM w a hr hf=>by
 intro b k cs;have key:∀m E σ M1 w1 a1,Je m E σ->Ext M w M1 w1->Rel C M1 σ w1->G4 M1 w1 n E a1 ->
  ∃e a' w',O6 C n Ji M w e a' w'/\Arrives C.P (lone (b.at a1 (.code c::.inLoop c::k)) cs w1) b k cs e a' w':=by
  intro m
  induction m using Nat.strongRecOn with
  |_ m ih=>
   intro E σ M1 w1 a1 hI hx aR cI;obtain⟨e,a2,w2,hq,aA⟩:=round m E σ hI M1 w1 a1 aR cI b (.inLoop c::k) cs;obtain⟨E',ae,M',h1,h2,h3,h4⟩:=hq;cases e with
   |normal=>
    obtain⟨m',ai,gK⟩:=h4;obtain⟨co,cp,cq,bv,aM⟩:=ih m' ai E' ae M' w2 a2 gK (hx.trans h1) h2 h3;exact⟨co,cp,cq,bv,.of_steps (Steps.trans aA (.one step_inLoop)) aM⟩
   |exit id=>exact⟨_,a2,w2,⟨E',ae,M',hx.trans h1,h2,h3,h4⟩,.pass (x:=.inLoop c) G (λ_ _=>.inl Q) aA⟩
   |goto l=>exact⟨_,a2,w2,⟨E',ae,M',hx.trans h1,h2,h3,h4⟩,.pass (x:=.inLoop c) G (λ_ _=>.inl Q) aA⟩
   |ret=>exact⟨_,a2,w2,⟨E',ae,M',hx.trans h1,h2,h3,h4⟩,.pass (x:=.inLoop c) G (λ_ _=>.inl Q) aA⟩
   |panic ch=>exact⟨_,a2,w2,⟨E',ae,M',hx.trans h1,h2,h3,h4⟩,.pass (x:=.inLoop c) G (λ_ _=>.inl Q) aA⟩
   |outgrown=>exact h4.elim
 obtain⟨e,a',w',hq,aA⟩:=key m E σ M w a h0 (Ext.refl M w) hr hf;exact⟨e,a',w',hq,.of_steps (.one step_loop) aA⟩
theorem C4(h:F0 C n af Ji af.toList E σ):CWp C n (.region id af false) Ji E σ:=
 λM w a hr hf=>wp_region_list (h M w a hr hf)
theorem o7(h:Ji .normal E σ):F0 C n af Ji [] E σ:=λM w _ hr hf=>wpList_nil ⟨E,σ,M,Ext.refl M w,hr,hf,h⟩
theorem F0.later(h:F0 C n af Ji l E σ){M1:A5}{w1:World}(hx:Ext M w M1 w1)(hr:Rel C M1 σ w1)(hf:G4 M1 w1 n E a):wpList C.P af (O6 C n Ji M w) l a w1:=by
 have:=h M1 w1 a hr hf;have hm:∀(l:List Oper) (a:Act) (w2:World),wpList C.P af (O6 C n Ji M1 w1) l a w2->wpList C.P af (O6 C n Ji M w) l a w2:=by
  intro l
  induction l with
  |nil=>exact λa w2 h=>O6.later hx h
  |cons o l ih=>
   intro a w2 h;unfold wpList at h⊢
   split
   .rename_i hw;rw[W hw]at h;refine h.imp (λh=>?_) (λ⟨h1,a0,w0,hl⟩=>⟨h1,a0,w0,O6.later hx hl⟩);unfold Oper.wp at h⊢;generalize (execOp a.eval o).run C.P w2=r at h;cases r with
    |ok x w3=>
     cases x<;>simp only[Oper.upon]at h⊢
     case value v=>exact ih _ _ h
     case skip=>exact ih _ _ h
     case defer d=>exact ih _ _ h
     case enter f args=>
      refine h.mono λe w4 he=>?_;cases e with
      |returned v=>exact ih _ _ he
      |panicked ch=>exact O6.later hx he
      |outgrown=>obtain⟨a0,w0,hl⟩:=he;exact⟨a0,w0,O6.later hx hl⟩
     case row r args=>exact Rows.mono h λ_ _ he=>ih _ _ he
    |halt x w3=>
     cases x<;>simp only[Oper.upon]at h⊢
     exact O6.later hx h
   .rename_i hw;rw[H hw]at h;exact ih _ _ h
 exact hm _ _ _ this
theorem c2N(hg:o.guard=none)(hd:(match o.dst with|some d=>d<n|none=>True))
 (h:C5 C σ E o λr ae=>match r with
  | .ret c=>F0 C n af Ji l (E.put o.dst c True) ae
  | .pan c=>Ji (.pan c) E ae):F0 C n af Ji (o::l) E σ:=λM w a hr hf=>by
 unfold wpList;rw[W (by simp[Region.wanted,hg])];refine .inl (a3z (h M w a.eval hr λx _ hx=>hf.eval hr hx) (λv w' ha=>?_) (λch w' ha=>?_))
 .obtain ⟨c,ae,M',h1,h2,h3,h4⟩:=ha;exact h4.later h1 h2 ((hf.mono h1).put (λt ht=>by rw[ht]at hd;exact hd) (λ_=>h3) λhh=>absurd trivial hh)
 .obtain ⟨c,v,ae,M',h0,h1,h2,h3,h4⟩:=ha;exact⟨E,ae,M',h1,h2,hf.mono h1,c,v,h0,h3,h4⟩
theorem b7w(hg:o.guard=some (j,av))(ht:(af[j]?).bind (·.dst)=some t)(hv:E.ok t)(hb:E.f t= .val (.bool b))
 (hd:(match o.dst with|some d=>d<n|none=>True))(hy:b=av->j4 C σ E o c)(h:F0 C n af Ji l (E.put o.dst c (b=av)) σ):F0 C n af Ji (o::l) E σ:=λM w a hr hf=>by
 have h1:RV M w (E.f t) (a.tmps.getD t undef):=hf.rv t hv;rw[hb]at h1;have h2:a.tmps.getD t undef= .bool b:=by generalize a.tmps.getD t undef=Jj at h1;cases h1;rfl
 have aP:t<a.tmps.size:=by
  rcases a3d t a.tmps.size with h'|h'
  .exact h'
  .simp [b4H h',undef]at h2
 have hw:Region.wanted o (yielded af a.tmps)=(b == av):=by
  have h3:a.tmps[t]?=some (.bool b):=by
   rw[a0b,a1V aP]at h2;rw[a1V aP,<- h2];rfl
  have h4:yielded af a.tmps j=some b:=by unfold yielded;rw[ht,n_8,h3]
  simp only[Region.wanted,hg,h4];cases b<;>cases av<;>rfl
 have ft:∀t,o.dst=some t->t<n:=λt ht=>by rw[ht]at hd;exact hd
 unfold wpList;by_cases cJ:b=av
 .rw [W (by rw[hw];simpa using cJ)];refine .inl (a3z (hy cJ M w a.eval hr λx _ hx=>hf.eval hr hx) (λv w' ha=>?_) (λch w' ha=>?_))
  .obtain ⟨c',ae,M',h1,h2,h3,h4,rfl⟩:=ha;injection h4 with h4
   subst h4;exact h.later h1 h2 ((hf.mono h1).put ft (λ_=>h3) λhh=>absurd cJ hh)
  .obtain ⟨c',v,ae,M',h0,h1,h2,h3,h4,_⟩:=ha;cases h4
 .rw [H (by rw[hw];simpa using cJ)];exact h.later (Ext.refl M w) hr (hf.put ft (λhh=>absurd hh cJ) λ_=>G)
theorem c5j(hg:o.guard=some (j,av))(ht:(af[j]?).bind (·.dst)=some t)(hv:¬E.ok t->E.un t)(hb:E.f t= .val (.bool b))
 (hd:(match o.dst with|some d=>d<n|none=>True))(hy:E.ok t->b=av->j4 C σ E o c)(h:F0 C n af Ji l (E.put o.dst c (E.ok t/\b=av)) σ):F0 C n af Ji (o::l) E σ:=by
 by_cases dM:E.ok t
 .have e:(E.ok t/\b=av)=(b=av):=propext ⟨λh=>h.2,λh=>⟨dM,h⟩⟩;rw[e]at h;exact b7w hg ht dM hb hd (hy dM) h
 .intro M w a hr hf;have h2:=hf.un t (hv dM);have ft:∀t,o.dst=some t->t<n:=λt ht=>by rw[ht]at hd;exact hd
  have hw:Region.wanted o (yielded af a.tmps)=false:=by
   have h4:yielded af a.tmps j=none:=by
    unfold yielded;rw[ht,n_8]
    rcases a3d t a.tmps.size with h'|h'
    .rw [a0b,a1V h']at h2;rw[a1V h'];simp only[b8K]at h2;rw[h2];rfl
    .rw [b4H h']
   simp only[Region.wanted,hg,h4];cases av<;>rfl
  unfold wpList;rw[H (by rw[hw];simp)];exact h.later (Ext.refl M w) hr (hf.put ft (λhh=>absurd hh.1 dM) λ_=>G)
end
section
theorem d3H(hg:o.guard=none)(hd:(match o.dst with|some d=>Nat.blt d n|none=>true)=true)(hy:j4 C σ E o c)(h:F0 C n af Ji l (E.put o.dst c True) σ):F0 C n af Ji (o::l) E σ:=
 c2N hg (by
  cases ft:o.dst with
  |none=>trivial
  |some d=>rw[ft]at hd;simpa[b12]using hd) (hy.mono λr ae hr=>by
  obtain⟨rfl,rfl⟩:=hr;exact h)
theorem a2J{af:Array Oper}{o:Oper}{l:List Oper}(hg:o.guard=none)(hd:(match o.dst with|some d=>Nat.blt d n|none=>true)=true)(h:C5 C σ E o λr ae=>match r with
 | .ret c=>F0 C n af Ji l (E.put o.dst c True) ae
 | .pan c=>Ji (.pan c) E ae):F0 C n af Ji (o::l) E σ:=
 c2N hg (by
  cases ft:o.dst with
  |none=>trivial
  |some d=>rw[ft]at hd;simpa[b12]using hd) h
theorem e1l(hg:o.guard=some (j,av))(ht:(af[j]?).bind (·.dst)=some t)(hv:E.ok t)(hb:E.f t= .val (.bool b))
 (hd:(match o.dst with|some d=>Nat.blt d n|none=>true)=true)(hy:b=av->j4 C σ E o c)(h:F0 C n af Ji l (E.put o.dst c (b=av)) σ):F0 C n af Ji (o::l) E σ:=
 b7w hg ht hv hb (by
  cases ft:o.dst with
  |none=>trivial
  |some d=>rw[ft]at hd;simpa[b12]using hd) hy h
theorem c8m(hg:o.guard=some (j,av))(ht:(af[j]?).bind (·.dst)=some t)(hv:¬E.ok t->E.un t)(hb:E.f t= .val (.bool b))
 (hd:(match o.dst with|some d=>Nat.blt d n|none=>true)=true)(hy:E.ok t->b=av->j4 C σ E o c)(h:F0 C n af Ji l (E.put o.dst c (E.ok t/\b=av)) σ):F0 C n af Ji (o::l) E σ:=
 c5j hg ht hv hb (by
  cases ft:o.dst with
  |none=>trivial
  |some d=>rw[ft]at hd;simpa[b12]using hd) hy h
def Env.is(E:Env):List (Nat×CV)->Prop
 | []=>True
 |(t,c)::l=>(E.ok t/\E.f t=c)/\E.is l
def Env.puts(E:Env):List (Nat×CV)->Env
 | []=>E
 |(t,c)::l=>(E.puts l).putO (some t) c .yes
theorem G4.puts(hf:G4 M w n E a):∀{l:List (Nat×CV)},E.is l->G4 M w n (E.puts l) a
 | [],_=>hf
 |(t,c)::l,⟨⟨h1,h2⟩,h⟩=>by
  have ih:=hf.puts h;refine⟨hf.defers,hf.size,λx hx=>?_,λx hx=>?_⟩
  .rw [Env.puts,Env.putO_f];rw[Env.puts,Env.putO_ok]at hx
   split
   .subst x;exact h2▸hf.rv t h1
   .rename_i aB;rw[H aB]at hx;exact ih.rv x hx
  .rw [Env.puts,Env.putO_un]at hx;split at hx
   .exact absurd trivial hx
   .exact ih.un x hx
theorem CWp.puts{c:Code}{l:List (Nat×CV)}(h:CWp C n c Ji (E.puts l) σ)(hE:E.is l):CWp C n c Ji E σ:=λM w a hr hf=>h M w a hr (hf.puts hE)
theorem L6{α:Type}{c:Code}(l:α->List (Nat×CV))(S:α->List b9)(Je:α->Prop)(m:α->Nat)(a0:α)(h0:Je a0)(hE:E.is (l a0))(aw:σ=S a0)
 (round:∀(a:α) (E0:Env),Je a->CWp C n c (A7.next (λE' ae=>∃a',m a'<m a/\Je a'/\E'.is (l a')/\ae=S a') Ji) (E0.puts (l a)) (S a)):CWp C n (.loop c) Ji E σ:=by
 refine c3a (λk E σ=>∃a,k=m a/\Je a/\E.is (l a)/\σ=S a) (m a0) ⟨a0,G,h0,hE,aw⟩ λk E σ hI=>?_;obtain⟨a,rfl,hI,hE,rfl⟩:=hI;refine((round a E hI).puts hE).mono λe E' ae h=>?_;cases e with
 |normal=>
  obtain⟨a',h1,h2,h3,h4⟩:=h;exact⟨m a',h1,a',G,h2,h3,h4⟩
 |_=>exact h
theorem K5{α:Type}(l:α->List (Nat×CV))(S:α->List b9)(Je:α->Prop)(h:CWp C n x (A7.next (λE' ae=>∃a,Je a/\E'.is (l a)/\ae=S a) Ji) E σ)(k:∀(a:α) (E0:Env),Je a->CWp C n y Ji (E0.puts (l a)) (S a)):CWp C n (.seq x y) Ji E σ:=by
 refine F7 (h.mono λe E' ae h=>?_);cases e with
 |normal=>
  obtain⟨a,h1,h2,rfl⟩:=h;exact(k a E' h1).puts h2
 |_=>exact h
end
def V1(C:Ctx)(E:Env)(σ:List b9)(fn:Func)(c:CV):Prop:=
 ∀(M:A5) (w:World) (a:Act),Rel C M σ w->(∀t,E.ok t->RV M w (E.f t) (a.tmps.getD t undef))->∃v,(results fn a.tmps).run C.P w= .ok v w/\RV M w c v
def Env.args(args:List CV):Env:={h:=λt=>args[t]?,g:=λ_=>.yes}
def Fin(C:Ctx)(fn:Func)(K:L7->List b9->Prop):A7->Env->List b9->Prop
 | .normal,E,σ| .ret,E,σ=>∃c,V1 C E σ fn c/\K (.ret c) σ
 | .pan c,_,σ=>K (.pan c) σ
 |_,_,_=>False
theorem a8z{f:FuncId}{fn:Func}{c:Code}{args:List CV}(hf:C.P.funcs[f]?=some fn)(hb:fn.body=some c)(hn':Nat.ble args.length fn.ntmps=true)
 (h:CWp C fn.ntmps c (Fin C fn K) (Env.args args) σ):b8 C f args σ K:=λM w vs hr aP hx=>by
 have hn:=nb hn';refine calls_of_wp hf hb (wp_mono (h M w _ hr ⟨G,by simp;omega,λt _=>?_,λt ht=>absurd trivial ht⟩) λe a w' hl=>?_)
 .simp only[Env.args,Env.f]
  rcases a3d t args.length with ht|ht
  .have:=hx t (args[t]) (by simp[ht]);have h1:(vs++Array.replicate (fn.ntmps -vs.size) undef).getD t undef=vs.getD t undef:=by
    simp[b8Q,aP,ht]
   rw[h1];simpa[ht]using this
  .have h1:(vs++Array.replicate (fn.ntmps -vs.size) undef).getD t undef=undef:=by
    simp only[a0b,b8Q];rw[H J];rw[Array.getElem?_replicate]
    split<;>rfl
   rw[h1];simp only[b5V ht,Option.getD_none];exact .val _
 .obtain ⟨E',ae,M',h1,h2,h3,h4⟩:=hl;cases e with
  |normal=>
   obtain⟨c,hc,hk⟩:=h4;obtain⟨v,hv,ba⟩:=hc M' w' a h2 h3.rv;exact⟨h3.defers,v,hv,c,ae,M',h1,h2,ba,hk⟩
  |ret=>
   obtain⟨c,hc,hk⟩:=h4;obtain⟨v,hv,ba⟩:=hc M' w' a h2 h3.rv;exact⟨h3.defers,v,hv,c,ae,M',h1,h2,ba,hk⟩
  |panic ch=>
   obtain⟨c,v,h0,hv,hk⟩:=h4;exact⟨h3.defers,c,v,ae,M',h0,h1,h2,hv,hk⟩
  |exit id=>exact h4.elim
  |goto l=>exact h4.elim
  |outgrown=>exact h4.elim
end Go.Cl
namespace Go.Cl
open Sem
variable{x y:Operand}{t t' e:TypeId}{c:CV}{a:Int}{s off k f:Nat}{b nn:Bool}{w:World}{v:Value}{aa:List (List CV)}{tok:Option Nat}{cells:List CV}
theorem r6{M:A5}{Jj:Value}(h:RV M w (.val v) Jj):Jj=v:=by cases h;rfl
theorem V0(b off n:Nat):(⟨b,off,none⟩:Addr).add n=⟨b,off+n,none⟩:=by
 unfold Addr.add
 split
 .simp [*]
 .rfl
theorem a2b{P:Program}{w:World}{a:Addr}(f:Nat->Value):∀(n i:Nat) (acc:Array Value),(∀j,j<n->w.cell? (a.add (i+j))=some (f (i+j))) ->
 (loadCellsFrom a i n acc).run P w= .ok (acc++((List.range' i n).map f).toArray) w
 |0,i,acc,_=>by simp[loadCellsFrom]
 |n+1,i,acc,h=>by
  have h0:=h 0 J;rw[a8c]at h0;have ih:=a2b (P:=P) (w:=w) (a:=a) f n (i+1) (acc.push (f i)) (λj hj=>by
   have:=h (j+1) J;rwa[show i+(j+1)=i+1+j from by omega]at this)
  simp only[loadCellsFrom,Sem.run_bind,run_load,h0,Result.andThen_ok,ih,List.range'_succ,a8C];simp
theorem Q3{P:Program}{b:Nat}(f:Nat->Value)(n:Nat)(h:∀j,j<n->w.cell? ⟨b,off+j,none⟩=some (f j)):
 (loadCells ⟨b,off,none⟩ n).run P w= .ok ((List.range n).map f).toArray w:=by
 unfold loadCells;rw[a2b f n 0 #[] (λj hj=>by rw[V0];simpa using h j hj)];simp[List.range_eq_range']
section
variable{C:Ctx}{σ:List b9}{E:Env}{o:Oper}
theorem i8(h:∀(M:A5) (w:World) (ρ:Operand->Value),Rel C M σ w->(∀x∈o.op.operands,E.valid x->RV M w (E.val C x) (ρ x))->∃v,(execOp ρ o).run C.P w= .ok (.value v) w/\RV M w c v):j4 C σ E o c:=
 λM w ρ hr hx=>by
  obtain⟨v,h1,h2⟩:=h M w ρ hr hx;rw[h1];exact⟨c,σ,M,Ext.refl M w,hr,h2,G,G⟩
theorem a0Q(ho:o.op = .move x)(hx:E.valid x)(ec:E.val C x=c):j4 C σ E o c:=
 i8 λM w ρ _ h=>⟨ρ x,by simp[execOp,ho],ec▸h x r7 hx⟩
theorem a1T(ho:o.op = .assign x)(hx:E.valid x)(ec:E.val C x=c):j4 C σ E o c:=
 i8 λM w ρ _ h=>⟨ρ x,by simp[execOp,ho],ec▸h x r7 hx⟩
theorem a75{d:Bool}(ho:o.op = .pick x (.const (.bool true)) y)(hx:E.valid x)(ex:E.val C x= .val (.bool b))(hy:b=false->E.valid y)(ey:b=false->E.val C y= .val (.bool d)):j4 C σ E o (.val (.bool (b ||d))):=
 i8 λM w ρ _ h=>by
  have h1:=h x r7 hx;have h0:=h (.const (.bool true)) r7 G;rw[ex]at h1;have e1:=r6 h1;have e0:ρ (.const (.bool true))= .bool true:=r6 h0;cases b with
  |true=>exact⟨.bool true,by simp[execOp,ho,e1,e0,asBool],.val _⟩
  |false=>
   have h2:=h y r7 (hy G);rw[ey G]at h2;have e2:=r6 h2;exact⟨.bool d,by simp[execOp,ho,e1,e2,asBool],.val _⟩
theorem a6z{d:Bool}(ho:o.op = .pick x y (.const (.bool false)))(hx:E.valid x)(ex:E.val C x= .val (.bool b))(hy:b=true->E.valid y)(ey:b=true->E.val C y= .val (.bool d)):j4 C σ E o (.val (.bool (b&&d))):=
 i8 λM w ρ _ h=>by
  have h1:=h x r7 hx;have h0:=h (.const (.bool false)) r7 G;rw[ex]at h1;have e1:=r6 h1;have e0:ρ (.const (.bool false))= .bool false:=r6 h0;cases b with
  |false=>exact⟨.bool false,by simp[execOp,ho,e1,e0,asBool],.val _⟩
  |true=>
   have h2:=h y r7 (hy G);rw[ey G]at h2;have e2:=r6 h2;exact⟨.bool d,by simp[execOp,ho,e1,e2,asBool],.val _⟩
def b2i(op:BinOp)(k:IntKind)(a b:Int):Option Value:=
 match op with
 | .add=>some (.int k (k.wrap (a+b)))
 | .sub=>some (.int k (k.wrap (a-b)))
 | .mul=>some (.int k (k.wrap (a*b)))
 | .quo=>if b=0 then none else some (.int k (k.wrap (a.tdiv b)))
 | .rem=>if b=0 then none else some (.int k (a.tmod b))
 | .eql=>some (.bool (a == b))
 | .neq=>some (.bool (a != b))
 | .lss=>some (.bool (a<b))
 | .leq=>some (.bool (a<=b))
 | .gtr=>some (.bool (a > b))
 | .geq=>some (.bool (a>=b))
 |_=>none
theorem a0e{op:BinOp}{k:IntKind}{b:Int}(ho:o.op = .binOp op t x y t')(hx:E.valid x)(hy:E.valid y)(ex:E.val C x= .val (.int k a))(ey:E.val C y= .val (.int k b))(hv:b2i op k a b=some v):j4 C σ E o (.val v):=
 i8 λM w ρ _ h=>by
  have h1:=h x r7 hx;have h2:=h y r7 hy;rw[ex]at h1;rw[ey]at h2;have e1:=r6 h1;have e2:=r6 h2;refine⟨v,?_,.val _⟩;cases op<;>simp only[b2i]at hv
  case quo=>
   by_cases hb:b=0
   .simp [hb]at hv
   .rw [H hb]at hv;injection hv with hv
    subst hv;simp[execOp,ho,e1,e2,eqGuard,binOp,Op.intDiv,hb]
  case rem=>
   by_cases hb:b=0
   .simp [hb]at hv
   .rw [H hb]at hv;injection hv with hv
    subst hv;simp[execOp,ho,e1,e2,eqGuard,binOp,Op.intDiv,hb]
  all_goals first
   |(cases hv;done)
   |(injection hv with hv;subst hv;simp[execOp,ho,e1,e2,eqGuard,binOp,Op.intArith,Op.intCmp])
theorem a5B{x:Int}(h1: -9223372036854775808<=x)(h2:x<=9223372036854775807):IntKind.i64.wrap x=x:=by
 rw[IntKind.wrap_i64];omega
theorem c3G{b:Int}(ho:o.op = .binOp .add t x y t')(hx:E.valid x)(hy:E.valid y)(ex:E.val C x= .val (.int .i64 a))(ey:E.val C y= .val (.int .i64 b))(h1: -9223372036854775808<=a+b)(h2:a+b<=9223372036854775807):j4 C σ E o (.val (.int .i64 (a+b))):=by
 have:=a0e (σ:=σ) (v:=.int .i64 (IntKind.i64.wrap (a+b))) ho hx hy ex ey G;rwa[a5B h1 h2]at this
theorem a9n{b:Int}(ho:o.op = .binOp .sub t x y t')(hx:E.valid x)(hy:E.valid y)(ex:E.val C x= .val (.int .i64 a))(ey:E.val C y= .val (.int .i64 b))(h1: -9223372036854775808<=a-b)(h2:a-b<=9223372036854775807):j4 C σ E o (.val (.int .i64 (a-b))):=by
 have:=a0e (σ:=σ) (v:=.int .i64 (IntKind.i64.wrap (a-b))) ho hx hy ex ey G;rwa[a5B h1 h2]at this
theorem b7O{b:Int}(ho:o.op = .binOp .mul t x y t')(hx:E.valid x)(hy:E.valid y)(ex:E.val C x= .val (.int .i64 a))(ey:E.val C y= .val (.int .i64 b))(h1: -9223372036854775808<=a*b)(h2:a*b<=9223372036854775807):j4 C σ E o (.val (.int .i64 (a*b))):=by
 have:=a0e (σ:=σ) (v:=.int .i64 (IntKind.i64.wrap (a*b))) ho hx hy ex ey G;rwa[a5B h1 h2]at this
def d5R(op:BinOp)(a b:Bool):Option Bool:=
 match op with
 | .eql=>some (a == b)
 | .neq=>some (a != b)
 |_=>none
theorem b9l{op:BinOp}{a r:Bool}(ho:o.op = .binOp op t x y t')(hu:∀w,(underlying t).run C.P w= .ok .bool w)(hx:E.valid x)(hy:E.valid y)(ex:E.val C x= .val (.bool a))(ey:E.val C y= .val (.bool b))(hv:d5R op a b=some r):j4 C σ E o (.val (.bool r)):=
 i8 λM w ρ _ h=>by
  have h1:=h x r7 hx;have h2:=h y r7 hy;rw[ex]at h1;rw[ey]at h2;have e1:=r6 h1;have e2:=r6 h2;refine⟨.bool r,?_,.val _⟩;have heq:∀d,(Op.equalIn (d+1) t (.bool a) (.bool b)).run C.P w= .ok (a == b) w:=λd=>by simp[Op.equalIn,hu]
  cases op<;>simp only[d5R]at hv<;>first
   |(cases hv;done)
   |(injection hv with hv;subst hv;simp[execOp,ho,e1,e2,eqGuard,binOp,Op.equal,Op.maxDepth,heq 9999])
  cases a<;>cases b<;>rfl
def b0q(op:BinOp)(a b:ByteArray):Option Bool:=
 match op with
 | .eql=>some (a.toList == b.toList)
 | .neq=>some (!(a.toList == b.toList))
 | .lss=>some (Op.bytesLess a.toList b.toList)
 | .leq=>some (Op.bytesLess a.toList b.toList ||a.toList == b.toList)
 | .gtr=>some (!(Op.bytesLess a.toList b.toList ||a.toList == b.toList))
 | .geq=>some (!Op.bytesLess a.toList b.toList)
 |_=>none
theorem c6y{op:BinOp}{a b:ByteArray}{r:Bool}(ho:o.op = .binOp op t x y t')(hx:E.valid x)(hy:E.valid y)(ex:E.val C x= .val (.string a))(ey:E.val C y= .val (.string b))(hv:b0q op a b=some r):j4 C σ E o (.val (.bool r)):=
 i8 λM w ρ _ h=>by
  have h1:=h x r7 hx;have h2:=h y r7 hy;rw[ex]at h1;rw[ey]at h2;have e1:=r6 h1;have e2:=r6 h2;refine⟨.bool r,?_,.val _⟩;cases op<;>simp only[b0q]at hv<;>first
   |(cases hv;done)
   |(injection hv with hv;subst hv;simp[execOp,ho,e1,e2,eqGuard,binOp,Op.stringOp])
theorem b1Z(ho:o.op = .unOp .not t x)(hx:E.valid x)(ex:E.val C x= .val (.bool b)):j4 C σ E o (.val (.bool (!b))):=
 i8 λM w ρ _ h=>by
  have h1:=h x r7 hx;rw[ex]at h1;exact⟨.bool (!b),by simp[execOp,ho,r6 h1,Op.unary],.val _⟩
theorem c3S{k:IntKind}(ho:o.op = .unOp .neg t x)(hx:E.valid x)(ex:E.val C x= .val (.int k a)):j4 C σ E o (.val (.int k (k.wrap (0-a)))):=
 i8 λM w ρ _ h=>by
  have h1:=h x r7 hx;rw[ex]at h1;exact⟨.int k (k.wrap (0-a)),by simp[execOp,ho,r6 h1,Op.unary,Op.intArith],.val _⟩
theorem a28{i:Nat}{cs:List CV}(ho:o.op = .extract x i)(hx:E.valid x)(ex:E.val C x= .tup cs)(hi:cs[i]?=some c):j4 C σ E o c:=
 i8 λM w ρ _ h=>by
  have h1:=h x r7 hx;rw[ex]at h1;generalize hu:ρ x=Jj at h1;cases h1 with
  |tup aP ba=>
   rename_i vs;have ai:i<vs.size:=by rw[aP];exact(n_2.1 hi).1
   refine⟨vs.getD i undef,?_,ba i c hi⟩;simp[execOp,ho,hu,Instr.extract,ai]
theorem RV.list_inv{M:A5}(h:RV M w (.list aa nn tok) v):
 ∃(a:Option Addr) (cap b off s:Nat) (vals:Nat->Nat->Value),v= .slice a aa.length cap/\aa.length<=cap/\cap<=maxLen/\a.isSome=nn/\(nn=false->cap=0)/\(aa≠[]->a=some ⟨b,off,none⟩) /\
  (∀r∈aa,r.length=s)/\(∀r∈aa,∀c∈r,c.one=true) /\
  (∀(i j:Nat) (r:List CV) (c:CV),aa[i]?=some r->r[j]?=some c->M.at b (off+i*s+j)/\w.cell? ⟨b,off+i*s+j,none⟩=some (vals i j)) /\
  (∀(i j:Nat) (r:List CV) (c:CV),aa[i]?=some r->r[j]?=some c->RV M w c (vals i j)) /\
  (∀k,tok=some k->∃s',M.pl[k]?=some ⟨b,cap,s'⟩/\a=some ⟨b,0,none⟩/\off=0/\(aa≠[]->s'=s)):=by
 cases h with
 |list vals h1 h2 h3 h4 h5 h6 h7 h8 h9 bL=>exact⟨_,_,_,_,_,vals,G,h1,h2,h3,h4,h5,h6,h7,h8,h9,bL⟩
theorem Z3{ty:TypeId}{n:Int}(ho:o.op = .call {callee:=.builtin .len,args:=#[x],argTypes:=#[t]})(hx:E.valid x)(ex:E.val C x= .list aa nn tok)
 (hu:∀w,(underlying t).run C.P w= .ok (.slice e) w)(hn:(aa.length:Int)=n)(_:o.type=ty):j4 C σ E o (.val (.int .i64 n)):=
 i8 λM w ρ _ h=>by
  have h1:=h x J9 hx;rw[ex]at h1;obtain⟨a,cap,b,off,s,vals,hv,_⟩:=h1.list_inv;subst hn;exact⟨.int .i64 aa.length,by simp[execOp,ho,resolve,invoke,builtin,Builtin.len_,hu,hv,goInt],.val _⟩
theorem a0R{ty:TypeId}{len:Nat}{n:Int}(ho:o.op = .call {callee:=.builtin .len,args:=#[x],argTypes:=#[t]})(hx:E.valid x)(ex:E.val C x= .vec k off len)
 (hu:∀w,(underlying t).run C.P w= .ok (.slice e) w)(hn:(len:Int)=n)(_:o.type=ty):j4 C σ E o (.val (.int .i64 n)):=
 i8 λM w ρ _ h=>by
  have h1:=h x J9 hx;rw[ex]at h1;generalize dV:ρ x=Jj at h1;subst hn;cases h1;exact⟨.int .i64 len,by simp[execOp,ho,resolve,invoke,builtin,Builtin.len_,hu,dV,goInt],.val _⟩
theorem A4{ix:Operand}{i:Int}{r:List CV}(ho:o.op = .indexAddr t x ix)(hx:E.valid x)(hi:E.valid ix)(ex:E.val C x= .list aa nn tok)(ei:E.val C ix= .val (.int .i64 i))
 (hu:∀w,(underlying t).run C.P w= .ok (.slice e) w)(hs:∀w,(sizeOf e).run C.P w= .ok s w)(h0:0<=i)(hr:aa[i.toNat]?=some r)(hl:r.length=s):j4 C σ E o (.cptr r):=
 i8 λM w ρ _ h=>by
  have h1:=h x r7 hx;have h2:=h ix r7 hi;rw[ex]at h1;rw[ei]at h2;obtain⟨a,cap,b,off,s',vals,hv,bH,_,_,_,ha,cZ,aQ,hc,ba,_⟩:=h1.list_inv;have ai:i.toNat <aa.length:=(n_2.1 hr).1;have aB:aa≠[]:=by rintro rfl;simp at ai
  have bw:r∈aa:=n_3 hr;have iq:s'=s:=by rw[<- cZ r bw,hl]
  subst iq;refine⟨.pointer (some ⟨b,off+i.toNat*s',none⟩),?_,.cptr (vals i.toNat) (aQ r bw) (λj c hj=>?_) (λj c hj=>ba _ _ _ _ hr hj)⟩
  .have bt:i< (aa.length:Int):=by omega
   simp[execOp,ho,hv,r6 h2,Instr.indexAt,asIntOf,hu,hs,ha aB,h0,bt,V0]
  .exact hc _ _ _ _ hr hj
theorem a0U{fs:Array Field}{fd:Field}(ho:o.op = .fieldAddr t x f)(hx:E.valid x)(ex:E.val C x= .cptr cells)
 (hu:∀w,(underlying t).run C.P w= .ok (.struct fs) w)(hf:fs[f]?=some fd)(hs:∀w,(sizeOf fd.type).run C.P w= .ok s w)(dW:s≠0):j4 C σ E o (.cptr (cells.drop fd.offset)):=
 i8 λM w ρ _ h=>by
  have h1:=h x r7 hx;rw[ex]at h1;generalize dV:ρ x=Jj at h1;cases h1 with
  |cptr vals h1 h2 h3=>
   rename_i b off;refine⟨.pointer (some ⟨b,off+fd.offset,none⟩),?_,.cptr (λj=>vals (fd.offset+j)) (λc hc=>h1 c (a8G hc)) (λj c hj=>?_) (λj c hj=>?_)⟩
   .simp [execOp,ho,dV,Instr.fieldAt,hu,hf,Instr.sureAddr,fieldPlace,hs,dW,V0]
   .rw [a7O]at hj;have:=h2 _ _ hj;rwa[<- b2b]at this
   .rw [a7O]at hj;exact h3 _ _ hj
theorem i7{fs:Array Field}{fd:Field}(ho:o.op = .fieldAddr t x f)(hx:E.valid x)(ex:E.val C x= .ptr k off)
 (hu:∀w,(underlying t).run C.P w= .ok (.struct fs) w)(hf:fs[f]?=some fd)(hs:∀w,(sizeOf fd.type).run C.P w= .ok s w)(dW:s≠0):j4 C σ E o (.ptr k (off+fd.offset)):=
 i8 λM w ρ _ h=>by
  have h1:=h x r7 hx;rw[ex]at h1;generalize dV:ρ x=Jj at h1;cases h1 with
  |ptr hk=>exact⟨_,by simp[execOp,ho,dV,Instr.fieldAt,hu,hf,Instr.sureAddr,fieldPlace,hs,dW,V0],.ptr hk⟩
theorem c4O{fs:Array Field}{fd:Field}{i:Nat}(ho:o.op = .fieldAddr t x f)(hx:E.valid x)(ex:E.val C x= .eptr k i off)
 (hu:∀w,(underlying t).run C.P w= .ok (.struct fs) w)(hf:fs[f]?=some fd)(hs:∀w,(sizeOf fd.type).run C.P w= .ok s w)(dW:s≠0):j4 C σ E o (.eptr k i (off+fd.offset)):=
 i8 λM w ρ _ h=>by
  have h1:=h x r7 hx;rw[ex]at h1;generalize dV:ρ x=Jj at h1;cases h1 with
  |eptr hk=>
   refine⟨_,by simp[execOp,ho,dV,Instr.fieldAt,hu,hf,Instr.sureAddr,fieldPlace,hs,dW,V0,b2b],.eptr hk⟩
theorem Z1(ho:o.op = .load t x)(hx:E.valid x)(ex:E.val C x= .cptr cells)(ha:∀w,(isAgg t).run C.P w= .ok false w)(hc:cells[0]?=some c):j4 C σ E o c:=
 i8 λM w ρ _ h=>by
  have h1:=h x r7 hx;rw[ex]at h1;generalize dV:ρ x=Jj at h1;cases h1 with
  |cptr vals h1 h2 h3=>
   rename_i b off;have:=(h2 0 c hc).2;rw[a8c]at this;exact⟨vals 0,by simp[execOp,ho,dV,Instr.loadAt,Instr.sureAddr,loadVar,ha,this],h3 0 c hc⟩
theorem X8(ho:o.op = .load t x)(hx:E.valid x)(ex:E.val C x= .cptr cells)(ha:∀w,(isAgg t).run C.P w= .ok true w)(hs:∀w,(sizeOf t).run C.P w= .ok s w)(hl:s<=cells.length):j4 C σ E o (.agg (cells.take s)):=
 i8 λM w ρ _ h=>by
  have h1:=h x r7 hx;rw[ex]at h1;generalize dV:ρ x=Jj at h1;cases h1 with
  |cptr vals h1 h2 h3=>
   rename_i b off;refine⟨.agg ((List.range s).map vals).toArray,?_,.agg (by simp[hl]) (λc hc=>h1 c (a6B hc)) (λi c hi=>?_)⟩
   .simp [execOp,ho,dV,Instr.loadAt,Instr.sureAddr,loadVar,ha,hs,Q3 (P:=C.P) (w:=w) vals s (λj hj=>(h2 j cells[j] (by simp[show j<cells.length by omega])).2)]
   .have bd:i<s:=by
     have:=(n_2.1 hi).1;simp at this;omega
    rw[a38,W bd]at hi;have:=h3 i c hi;simpa[bd]using this
end
end Go.Cl
namespace Go.Cl
variable{w w0 w':World}{M M':A5}{c c':CV}{s n k off L i b j m ak:Nat}{t e t2 ty:TypeId}{aa new:List (List CV)}{x y:Operand}{σ:List b9}{K:L7->List b9->Prop}{z v:Value}{C:Ctx}{α:Type}{am:List Nat}{p:Pl}{E:Env}{f:FuncId}{t0:Option TypeId}{o:Oper}{nn av:Bool}{arr:Array Value}{P:Program}{g:Prop}{cs r args cargs aW:List CV}{ob:b9}{xs:Array Operand}{ts:Array TypeId}{parts:Array (Nat×Operand)}{a:Int}{ps:List (Nat×CV)}{l:List Oper}{S:α->List b9}
def A5.add(M:A5)(p:Pl):A5:={M with pl:=M.pl++[p]}
theorem J0(w:World)(o:Obj)(h:b<w.heap.size):(w.alloc o).heap[b]?=w.heap[b]?:=by
 show(w.heap.push o)[b]?=_;rw[b7L,H (Nat.ne_of_lt h)]
theorem x8(w:World)(o:Obj):(w.alloc o).heap[w.heap.size]?=some o:=by
 show(w.heap.push o)[w.heap.size]?=_;rw[b7L,W G]
theorem R3.lt(h:R3 M w p ob)(hl:ob.live=true):p.block <w.heap.size:=by
 have key:∀{o:Obj},w.heap[p.block]?=some o->p.block <w.heap.size:=λh=>(a06.1 h).1;cases ob with
 |dead=>cases hl
 |boxT t0 cells=>obtain⟨arr,ty,h,_⟩:=h;exact key h
 |tipT t0 n=>obtain⟨_,_,_,arr,ty,h,_⟩:=h;exact key h
 |vec s aa=>obtain⟨_,_,_,_,_,arr,ty,h,_⟩:=h;exact key h
 |map es=>obtain⟨arr,ty,h,_⟩:=h;exact key h
 |iter aF left=>obtain⟨_,_,_,_,_,h,_⟩:=h;exact key h
 |blk o=>exact key h
 |lp o n cs=>obtain⟨_,h,_⟩:=h;exact key h
theorem R3.mono(hx:Ext M w M' w')(hb:w'.heap[p.block]?=w.heap[p.block]?)(hc:∀t n,ob= .tipT t n->∀o,M'.cell p.block o->M.cell p.block o)(h:R3 M w p ob):R3 M' w' p ob:=by
 cases ob with
 |dead=>trivial
 |boxT t0 cells=>
  obtain⟨arr,ty,h1,h2,h3,h4⟩:=h;exact⟨arr,ty,hb.trans h1,h2,h3,λi c hi=>(h4 i c hi).mono hx⟩
 |blk o=>exact hb.trans h
 |lp o n cs=>
  obtain⟨tm,h1,h2,h3⟩:=h;exact⟨tm,hb.trans h1,h2,λx aD=>(h3 x aD).mono hx⟩
 |tipT t0 n=>
  obtain⟨h0,fY,h1,arr,ty,h2,h3⟩:=h;exact⟨h0,fY,⟨λo ho=>h1.1 o (hc _ n G o ho),h1.2⟩,arr,ty,hb.trans h2,h3⟩
 |vec s aa=>
  obtain⟨h0,fY,h000,h1,h2,arr,ty,h3,h4,h5⟩:=h;exact⟨h0,fY,h000,h1,h2,arr,ty,hb.trans h3,h4,λi j r c hi hj=>(h5 i j r c hi hj).mono hx⟩
 |map es=>
  obtain⟨ah,ak,h1,h2,h3⟩:=h;refine⟨ah,ak,hb.trans h1,h2,λi x hi=>?_⟩;obtain⟨e,he,hk,hv,hc⟩:=h3 i x hi;exact⟨e,he,hk.mono hx,hv.mono hx,hc⟩
 |iter aF left=>
  obtain⟨mb,seen,bG,ah,ak,h1,h2,h3,h4,h5,h6,h7,h8,h9⟩:=h;refine⟨mb,seen,bG,ah,ak,hb.trans h1,hx.full _ h2,(hx.same _ h2).trans h3,h4,h5,h6,h7,λi x hi=>?_,λi x hi=>?_⟩
  .obtain ⟨e,he,hk,hv⟩:=h8 i x hi;exact⟨e,he,hk.mono hx,hv.mono hx⟩
  .obtain ⟨hl,j,e,he,hs,hk,hv⟩:=h9 i x hi;exact⟨hl,j,e,he,hs,hk.mono hx,hv.mono hx⟩
theorem Ext.alloc(hr:Rel C M σ w)(p:Pl)(o:Obj):Ext M w (M.add p) (w.alloc o):=
 ⟨⟨[p],G⟩,λ_ h=>h,λ_ _ h=>.inr h,λb h=>J0 w o (hr.blk b 0 (.inl h)),λb o' h=>L1 (J0 w o (hr.blk b o' (.inr h))),by rw[b8G];omega,R4,G,G,G,λb h=>⟨h,J0 w o (hr.kep b h),id,λ_=>id⟩⟩
theorem Rel.alloc(hr:Rel C M σ w)(p:Pl)(o:Obj)(ob:b9)(hb:p.block=w.heap.size)(h:R3 (M.add p) (w.alloc o) p ob):Rel C (M.add p) (σ++[ob]) (w.alloc o):=by
 have hx:=Ext.alloc hr p o;have ax:∀{k:Nat} {q:Pl},(M.add p).pl[k]?=some q->(k<σ.length/\M.pl[k]?=some q)\/(k=σ.length/\q=p):=by
  intro k q hk;simp only[A5.add,a6m,hr.len]at hk;split at hk
  .exact .inl ⟨‹_›,hk⟩
  .rename_i ai;have:k-σ.length=0:=by
    have:=(n_2.1 hk).1;simp at this;omega
   rw[this]at hk;simp at hk;exact .inr ⟨J,hk.symm⟩
 have fh:∀{k:Nat} {x:b9},(σ++[ob])[k]?=some x->k<σ.length->σ[k]?=some x:=by
  intro k x hk ai;rwa[T6 ai]at hk
 have hgn:∀{x:b9},(σ++[ob])[σ.length]?=some x->x=ob:=by
  intro x hk;simp at hk;exact hk.symm
 refine⟨by simp[A5.add,hr.len],λb o' ha=>?_,λk q x hk aD=>?_,λk k' q q' x x' hk aJ bP aK hl bz hbb=>?_,λg cells hg=>(hr.glob g cells hg).mono hx,λb h=>(by rw[b8G];have:=hr.kep b h;omega),λk q x hk aD cm h=>?_⟩
 .have:=hr.blk b o' ha;rw[b8G];omega
 .rcases ax hk with⟨ai,hq⟩|⟨rfl,rfl⟩
  .have hxo:=fh aD ai;obtain⟨h1,h2⟩:=hr.obj k q x hq hxo;refine⟨?_,h2⟩;by_cases hl:x.live=true
   .exact h1.mono hx (J0 w o (h1.lt hl)) (λ_ _ _ _ h=>h)
   .cases x<;>first|trivial|simp[b9.live]at hl
  .have:=hgn aD;subst this;refine⟨h,?_⟩;have hf:¬M.full q.block:=λhf=>by have:=hr.blk q.block 0 (.inl hf);omega
   have hc:∀o,¬M.cell q.block o:=λo hc=>by have:=hr.blk q.block o (.inr hc);omega
   cases x<;>first|trivial|exact hf|exact⟨hf,hc⟩
 .rcases ax hk with⟨ai,hq⟩|⟨rfl,rfl⟩
  .rcases ax aJ with⟨bt,dN⟩|⟨rfl,rfl⟩
   .exact hr.inj k k' q q' x x' hq dN (fh bP ai) (fh aK bt) hl bz hbb
   .have:=(hr.obj k q x hq (fh bP ai)).1.lt hl;omega
  .rcases ax aJ with⟨bt,dN⟩|⟨rfl,rfl⟩
   .have:=(hr.obj k' q' x' dN (fh aK bt)).1.lt bz;omega
   .rfl
 .rcases ax hk with⟨ai,hq⟩|⟨rfl,rfl⟩
  .exact hr.nk k q x hq (fh aD ai) cm h
  .have:=hr.kep _ h;omega
def CV.cells:CV->List CV
 | .agg cs=>cs
 |c=>[c]
theorem RV.cells(h:RV M w c v)(ho:c.one=true\/∃cs,c= .agg cs):
 v.cells.size=c.cells.length/\(∀x∈c.cells,x.one=true)/\∀(i:Nat) (x:CV),c.cells[i]?=some x->RV M w x (v.cells.getD i undef):=by
 rcases ho with ho|⟨cs,rfl⟩
 .have hv:=h.one ho;have gI:v.cells = #[v]:=by cases v<;>first|rfl|simp[Value.oneCell']at hv
  have bA:c.cells=[c]:=by cases c<;>first|rfl|simp[CV.one]at ho
  rw[gI,bA];refine⟨G,U ho,λi x hi=>?_⟩
  rcases i with _|i
  .simp at hi;subst hi;exact h
  .simp at hi
 .cases h with
  |agg h1 h2 h3=>exact⟨h1,h2,h3⟩
variable{cells:List CV}
section
theorem a3M(t:TypeId)(v:Value)(w:World):(newVar t v).run P w= .ok ⟨w.heap.size,0,none⟩ (w.alloc (.cells v.cells t)):=by
 simp[newVar,newRow]
theorem b2L(hr:Rel C M σ w)(h:RV M w c v)(ho:c.one=true\/∃cs,c= .agg cs)(hk:K (.ret (.ptr σ.length 0)) (σ++[.box c.cells])):
 a1h C M w K (.pointer (some ⟨w.heap.size,0,none⟩)) (w.alloc (.cells v.cells t)):=by
 obtain⟨h1,h2,h3⟩:=h.cells ho;have hx:=Ext.alloc hr ⟨w.heap.size,0,0⟩ (.cells v.cells t);refine⟨.ptr σ.length 0,_,_,hx,hr.alloc ⟨w.heap.size,0,0⟩ _ (.box c.cells) G ⟨v.cells,t,x8 w _,h1,h2,λi x hi=>(h3 i x hi).mono hx⟩,?_,hk⟩;exact .ptr (p:=⟨w.heap.size,0,0⟩) a7i
theorem F4(ho:o.op = .box t x)(hx:E.valid x)(ex:E.val C x=c)(hc:c.one=true\/∃cs,c= .agg cs)(hk:K (.ret (.ptr σ.length 0)) (σ++[.box c.cells])):C5 C σ E o K:=λM w ρ hr h=>by
 have h1:=h x r7 hx;rw[ex]at h1;have:(execOp ρ o).run C.P w= .ok (.value (.pointer (some ⟨w.heap.size,0,none⟩))) (w.alloc (.cells (ρ x).cells t)):=by
  simp[execOp,ho,Instr.box,a3M]
 rw[this];exact b2L hr h1 hc hk
theorem j6(ho:o.op = .alloc t)(hz:∀w,(zeroValue t).run C.P w= .ok z w)(bQ:I2 z=true)(ci:(G2 z).one=true\/∃cs,G2 z= .agg cs)(hk:K (.ret (.ptr σ.length 0)) (σ++[.box (G2 z).cells])):C5 C σ E o K:=λM w ρ hr h=>by
 have:(execOp ρ o).run C.P w= .ok (.value (.pointer (some ⟨w.heap.size,0,none⟩))) (w.alloc (.cells z.cells t)):=by
  simp[execOp,ho,Instr.alloc,hz,a3M]
 rw[this];exact b2L hr (a0m bQ) ci hk
theorem b6u(hr:Rel C M σ w)(hp:M.pl[k]?=some p)(hb:σ[k]?=some (.boxT t0 cells))(hi:cells[i]?=some c):
 ∃v,w.cell? ⟨p.block,i,none⟩=some v/\RV M w c v/\w.frozen? ⟨p.block,i,none⟩=false:=by
 obtain⟨arr,ty,h1,h2,h3,h4⟩:=(hr.obj k p _ hp hb).1;have ai:i<arr.size:=by rw[h2];exact(n_2.1 hi).1
 refine⟨arr.getD i undef,?_,h4 i c hi,?_⟩
 .simp [World.cell?,h1,ai]
 .simp [World.frozen?,h1]
theorem l9(ho:o.op = .load t x)(hx:E.valid x)(ex:E.val C x= .ptr k off)(ha:∀w,(isAgg t).run C.P w= .ok false w)(hk:σ[k]?=some (.boxT t0 cells))(hc:cells[off]?=some c):j4 C σ E o c:=
 i8 λM w ρ hr h=>by
  have h1:=h x r7 hx;rw[ex]at h1;generalize dV:ρ x=Jj at h1;cases h1 with
  |ptr hp=>
   obtain⟨v,hv,ba,_⟩:=b6u hr hp hk hc;exact⟨v,by simp[execOp,ho,dV,Instr.loadAt,Instr.sureAddr,loadVar,ha,hv],ba⟩
theorem I5(ho:o.op = .load t x)(hx:E.valid x)(ex:E.val C x= .ptr k off)(ha:∀w,(isAgg t).run C.P w= .ok true w)(hs:∀w,(sizeOf t).run C.P w= .ok s w)(hk:σ[k]?=some (.boxT t0 cells))(hl:off+s<=cells.length):j4 C σ E o (.agg ((cells.drop off).take s)):=
 i8 λM w ρ hr h=>by
  have h1:=h x r7 hx;rw[ex]at h1;generalize dV:ρ x=Jj at h1;cases h1 with
  |ptr hp=>
   rename_i p;obtain⟨arr,ty,h1,h2,h3,h4⟩:=(hr.obj k p _ hp hk).1;have aZ:∀j,j<s->w.cell? ⟨p.block,off+j,none⟩=some (arr.getD (off+j) undef):=λj hj=>by
    have:off+j<arr.size:=by omega
    simp[World.cell?,h1,this]
   refine⟨.agg ((List.range s).map λj=>arr.getD (off+j) undef).toArray,?_,.agg G5 (λc hc=>h3 c (a8G (a6B hc))) (λi c hi=>?_)⟩
   .simp [execOp,ho,dV,Instr.loadAt,Instr.sureAddr,loadVar,ha,hs,Q3 (P:=C.P) (w:=w) _ s aZ]
   .have bd:i<s:=by
     have:=(n_2.1 hi).1;simp at this;omega
    rw[a38,W bd,a7O]at hi;have:=h4 (off+i) c hi;simpa[bd]using this
theorem I8{fn:Func}{t:Nat}(hr:fn.results = #[.tmp t])(hv:E.ok t)(ec:E.f t=c):V1 C E σ fn c:=λM w a _ h=>by
 refine⟨a.tmps.getD t undef,results_tmp hr _ _ _,ec▸h t hv⟩
end
def World.putObj(w:World)(b:Nat)(o:Obj):World:={w with heap:=w.heap.setIfInBounds b o}
theorem World.putObj_same(w:World)(o:Obj)(hb:b<w.heap.size):(World.putObj w b o).heap[b]?=some o:=by
 simp[World.putObj,hb]
theorem World.putObj_other(w:World){b':Nat}(o:Obj)(h:b≠b'):(World.putObj w b o).heap[b']?=w.heap[b']?:=by
 simp[World.putObj,b5M h]
theorem World.putObj_size(w:World)(b:Nat)(o:Obj):(World.putObj w b o).heap.size=w.heap.size:=by
 simp[World.putObj]
theorem World.putObj_put(w:World)(b:Nat)(o o':Obj):World.putObj (World.putObj w b o) b o'=World.putObj w b o':=by
 simp[World.putObj]
theorem World.putObj_self(w:World){o:Obj}(h:w.heap[b]?=some o):World.putObj w b o=w:=by
 have:w.heap.setIfInBounds b o=w.heap:=by
  apply c1l;intro i;by_cases hi:b=i
  .subst hi;have ai:=(a06.1 h).1;rw[h];simp[ai]
  .rw [b5M hi]
 unfold World.putObj;rw[this]
theorem b0U(w:World){aF:Array Value}(v:Value)(h:w.heap[b]?=some (.cells aF t (0,0))):
 w.setCell ⟨b,off,none⟩ v=World.putObj w b (.cells (aF.setIfInBounds off v) t (0,0)):=by
 have ai:=(a06.1 h).1;unfold World.setCell World.putObj
 congr 1
 apply c1l;intro i;rw[b8j];by_cases hi:b=i
 .subst hi;rw[W G,h,Array.getElem?_setIfInBounds_self_of_lt ai];rfl
 .rw [H hi,b5M hi]
def C6(aF:Array Value)(o:Nat):List Value->Array Value
 | []=>aF
 |v::vs=>C6 (aF.setIfInBounds o v) (o+1) vs
theorem H4:∀(vs:List Value) (aF:Array Value) (o:Nat),(C6 aF o vs).size=aF.size
 | [],_,_=>rfl
 |v::vs,aF,o=>by rw[C6,H4 vs];simp
theorem K3:∀(vs:List Value) (aF:Array Value) (o i:Nat),o+vs.length<=aF.size ->
 (C6 aF o vs).getD i undef=if o<=i/\i<o+vs.length then vs.getD (i-o) undef else aF.getD i undef
 | [],aF,o,i,_=>by
  rw[C6,H (by simp only[a1D];omega)]
 |v::vs,aF,o,i,h=>by
  simp only[J5]at h;rw[C6,K3 vs _ _ _ G5];by_cases h1:o+1<=i/\i<o+1+vs.length
  .rw [W h1,W (by simp only[J5];omega)];have:i-o=(i- (o+1))+1:=by omega
   rw[this];simp
  .rw [H h1];by_cases h2:i=o
   .subst h2;rw[W (by simp only[J5];omega)];have ai:i<aF.size:=by omega
    simp[ai]
   .rw [H (by simp only[J5];omega)];simp[b5M (Ne.symm h2)]
theorem N3{P:Program}{b off:Nat}{t:TypeId}:∀(vs:List Value) (i:Nat) (aF:Array Value) (w:World),w.heap[b]?=some (.cells aF t (0,0))->off+i+vs.length<=aF.size->(∀v∈vs,v.oneCell'=true) ->
 (storeCells ⟨b,off,none⟩ vs i).run P w= .ok () (World.putObj w b (.cells (C6 aF (off+i) vs) t (0,0)))
 | [],i,aF,w,h,_,_=>by
  simp only[storeCells,C6,World.putObj_self w h];rfl
 |v::vs,i,aF,w,h,hl,h1=>by
  simp only[J5]at hl;have aZ:w.cell? ⟨b,off+i,none⟩=some (aF.getD (off+i) undef):=by
   have:off+i<aF.size:=by omega
   simp[World.cell?,h,this]
  have hfz:w.frozen? ⟨b,off+i,none⟩=false:=by simp[World.frozen?,h]
  have hb:b<w.heap.size:=(a06.1 h).1;simp only[storeCells,V0,Sem.run_bind,run_store P w _ v .plain (h1 v Q),aZ,hfz,a8l,if_false,Result.andThen_ok];rw[b0U w v h];have ih:=N3 (P:=P) (off:=off) (t:=t) vs (i+1) (aF.setIfInBounds (off+i) v) (World.putObj w b (.cells (aF.setIfInBounds (off+i) v) t (0,0))) (World.putObj_same w _ hb) G5 (λJj hu=>h1 Jj (by simp[hu]));rw[ih,World.putObj_put];rfl
def M6(cells:List CV)(off:Nat)(new:List CV):List CV:=cells.take off++(new++cells.drop (off+new.length))
theorem a0i{new:List CV}(h:off+new.length<=cells.length):(M6 cells off new).length=cells.length:=by
 simp[M6];omega
theorem a2r{new:List CV}(h:off+new.length<=cells.length)(i:Nat):
 (M6 cells off new)[i]?=if off<=i/\i<off+new.length then new[i-off]? else cells[i]?:=by
 unfold M6;rw[a6m];simp only[b1U,Nat.min_eq_left (show off<=cells.length by omega)]
 split
 .rename_i h1;rw[H J,a38,W h1]
 .rename_i h1;rw[a6m]
  split
  .rename_i h2;rw[W J]
  .rename_i h2;rw[H J,a7O]
   congr 1;omega
theorem a2w{new:List CV}(h:c∈M6 cells off new):c∈new\/c∈cells:=by
 simp only[M6,Q9]at h
 rcases h with h|h|h
 .exact .inr (a6B h)
 .exact .inl h
 .exact .inr (a8G h)
theorem Ext.putObj(o:Obj)(hkp:¬M.keep b)(hf:¬M.full b)(hc:∀o,¬M.cell b o):Ext M w M (World.putObj w b o):=
 ⟨⟨[],Q⟩,λ_ h=>h,λ_ _ h=>.inr h,λb' h=>World.putObj_other w o (λe=>hf (e▸h)),λb' o' h=>L1 (World.putObj_other w o (λe=>hc o' (e▸h))),by rw[World.putObj_size];exact n_6 _,R4,G,G,G,λb' h=>⟨h,World.putObj_other w o (λe=>hkp (e▸h)),id,λ_=>id⟩⟩
theorem Rel.putObj(hr:Rel C M σ w){cT:b9}(hk:M.pl[k]?=some p)(hs:σ[k]?=some cT)(eJ:cT.live=true)(hf:¬M.full p.block)(hc:∀o,¬M.cell p.block o)(o:Obj)
 (h:R3 M (World.putObj w p.block o) p ob):Rel C M (σ.set k ob) (World.putObj w p.block o):=by
 have hx:=Ext.putObj (w:=w) o (hr.nk k p cT hk hs eJ) hf hc;have hb:p.block <w.heap.size:=(hr.obj k p cT hk hs).1.lt eJ;have ax:∀{k':Nat} {x:b9},(σ.set k ob)[k']?=some x->(k'=k/\x=ob)\/(k'≠k/\σ[k']?=some x):=by
  intro k' x hh;rw[a9P]at hh;split at hh
  .rename_i e;split at hh
   .injection hh with hh;exact .inl ⟨e.symm,hh.symm⟩
   .cases hh
  .rename_i e;exact .inr ⟨λe'=>e e'.symm,hh⟩
 refine⟨by simp[hr.len],λb o' ha=>by rw[World.putObj_size];exact hr.blk b o' ha,λk' q x aJ aD=>?_,λk1 k2 q1 q2 x1 x2 bn bK bP aK dD dE hbb=>?_,λg cells hg=>(hr.glob g cells hg).mono hx,λb h=>(by rw[World.putObj_size];exact hr.kep b h),λk' q x aJ aD cm=>?_⟩
 .rcases ax aD with⟨rfl,rfl⟩|⟨aB,aU⟩
  .have:q=p:=by rw[hk]at aJ;injection aJ with aJ;exact aJ.symm
   subst this;refine⟨h,?_⟩;cases x<;>first|trivial|exact hf|exact⟨hf,hc⟩
  .obtain ⟨h1,h2⟩:=hr.obj k' q x aJ aU;refine⟨?_,h2⟩;by_cases hl:x.live=true
   .refine h1.mono hx (World.putObj_other w o λe=>aB ?_) (λ_ _ _ _ h=>h);exact hr.inj k' k q p x cT aJ hk aU hs hl eJ e.symm
   .cases x<;>first|trivial|simp[b9.live]at hl
 .have ir:∀{k':Nat} {x:b9},(σ.set k ob)[k']?=some x->x.live=true->∃x',σ[k']?=some x'/\x'.live=true:=by
   intro k' x hh hl
   rcases ax hh with⟨rfl,rfl⟩|⟨_,aU⟩
   .exact ⟨cT,hs,eJ⟩
   .exact ⟨x,aU,hl⟩
  obtain⟨y1,fi,hl1'⟩:=ir bP dD;obtain⟨y2,hy2,hl2'⟩:=ir aK dE;exact hr.inj k1 k2 q1 q2 y1 y2 bn bK fi hy2 hl1' hl2' hbb
 .rcases ax aD with⟨rfl,rfl⟩|⟨aB,aU⟩
  .rw [hk]at aJ;injection aJ with aJ
   subst aJ;exact hr.nk _ _ cT hk hs eJ
  .exact hr.nk k' q x aJ aU cm
section
theorem a2Y(h:RV M w c v)(ho:c.one=true\/∃cs,c= .agg cs):∀Jj∈v.cells.toList,Jj.oneCell'=true:=by
 obtain⟨h1,h2,h3⟩:=h.cells ho;intro Jj hu;obtain⟨i,hi,rfl⟩:=List.mem_iff_getElem.1 hu;have bd:i<v.cells.size:=U hi;have da:i<c.cells.length:=by omega
 have:=(h3 i c.cells[i] (by simp[da])).one (h2 _ (b26 da));simpa[bd]using this
theorem i0(ho:o.op = .store t x y)(hx:E.valid x)(hy:E.valid y)(ex:E.val C x= .ptr k off)(ey:E.val C y=c)(hs:∀w,(sizeOf t).run C.P w= .ok s w)
 (hc:c.one=true\/∃cs,c= .agg cs)(hk:σ[k]?=some (.boxT t0 cells))(hl:c.cells.length=s)(ai:off+s<=cells.length)(h:K (.ret (.val undef)) (σ.set k (.boxT t0 (M6 cells off c.cells)))):C5 C σ E o K:=λM w ρ hr hh=>by
 have h1:=hh x r7 hx;have h2:=hh y r7 hy;rw[ex]at h1;rw[ey]at h2;generalize hu:ρ x=Jj at h1;cases h1 with
 |ptr hp=>
  rename_i p;obtain⟨⟨arr,ty,e1,e2,e3,e4⟩,hf,cr⟩:=hr.obj k p _ hp hk;obtain⟨g1,g2,g3⟩:=h2.cells hc;have aQ:=a2Y h2 hc;have aP:off+c.cells.length<=cells.length:=by omega
  have az:(execOp ρ o).run C.P w= .ok .skip (World.putObj w p.block (.cells (C6 arr off (ρ y).cells.toList) (t0.getD ty) (0,0))):=by
   have:=N3 (P:=C.P) (b:=p.block) (off:=off) (t:=t0.getD ty) (ρ y).cells.toList 0 arr w e1 G5 aQ;simp only[a8c]at this;simp[execOp,ho,hu,Instr.storeAt,Instr.sureAddr,storeVar,hs,g1,hl,this]
  rw[az];have hx:=Ext.putObj (w:=w) (.cells (C6 arr off (ρ y).cells.toList) (t0.getD ty) (0,0)) (hr.nk k p _ hp hk G) hf cr;have hb:p.block <w.heap.size:=(a06.1 e1).1;refine⟨.val undef,_,M,hx,hr.putObj (ob:=.boxT t0 (M6 cells off c.cells)) hp hk G hf cr _ ⟨_,ty,World.putObj_same w _ hb,by rw[H4,a0i aP,e2],λc' bA=>?_,λi c' hi=>?_⟩,.val _,h⟩
  .rcases a2w bA with h'|h'
   .exact g2 _ h'
   .exact e3 _ h'
  .rw [K3 _ _ _ _ G5];rw[a2r aP]at hi;simp only[a9A,g1];split at hi
   .rename_i bW;rw[W bW];have:=(g3 _ _ hi).mono hx;simpa using this
   .rename_i bW;rw[H bW];exact(e4 _ _ hi).mono hx
theorem b03(ho:o.op = .call {callee:=.value (.func f),args:=xs,argTypes:=ts})(aE:∀args w,(callFunc f args).run C.P w= .ok (.enter f args) w)
 (hv:∀x∈xs.toList,E.valid x)(ea:xs.toList.map (E.val C)=cargs)(h:b8 C f cargs σ K):C5 C σ E o K:=λM w ρ hr hh=>by
 have hf:RV M w (.val (.func (.func f) #[] #[])) (ρ (.func f)):=hh (.func f) J9 O;have ef:=r6 hf;have az:(execOp ρ o).run C.P w= .ok (.enter f (xs.map ρ)) w:=by
  simp[execOp,ho,resolve,ef,Deferred.ofValue,invoke,aE]
 rw[az];refine(h M w (xs.map ρ) hr (by simp[<- ea]) λi c hi=>?_).mono λe w' he=>by cases e<;>exact he
 subst ea;simp only[N6,M8]at hi;obtain⟨x,hx,rfl⟩:=hi;have aD:xs[i]?=some x:=U hx;have hm:x∈xs:=b4k aD;have:(xs.map ρ).getD i undef=ρ x:=by
  rw[a0b,c0M,aD];rfl
 rw[this];exact hh x (by simp[ho,Op.operands,Call.operands,hm]) (hv x (U hm))
def b08(fR:Array (Nat×Nat))(cells:List CV):List (Nat×CV)->Option (List CV)
 | []=>some cells
 |(i,c)::rest=>
  match fR[i]? with
  |none=>none
  |some (off,size)=>if c.cells.length=size/\off+size<=cells.length then b08 fR (M6 cells off c.cells) rest else none
theorem a42:∀(vs:List Value) (cs:Array Value) (off j:Nat),(vs.zipIdx j).foldl (λcs (x:Value×Nat)=>cs.setIfInBounds (off+x.2) x.1) cs=C6 cs (off+j) vs
 | [],_,_,_=>rfl
 |v::vs,cs,off,j=>by
  rw[List.zipIdx_cons,List.foldl_cons,a42 vs _ off (j+1)];rfl
theorem b7H{M:A5}{w:World}{fR:Array (Nat×Nat)}{place:Nat->Option (Nat×Nat)}(bo:∀i,place i=fR[i]?):∀(ps:List (Nat×CV)) (qs:List (Nat×Value)) (cells:List CV) (arr:Array Value) (aq:List CV),
 b08 fR cells ps=some aq->ps.map (·.1)=qs.map (·.1)->(∀(i:Nat) (x:Nat×CV) (y:Nat×Value),ps[i]?=some x->qs[i]?=some y->RV M w x.2 y.2/\(x.2.one=true\/∃cs,x.2 = .agg cs)) ->
 arr.size=cells.length->(∀c∈cells,c.one=true)->(∀(i:Nat) (c:CV),cells[i]?=some c->RV M w c (arr.getD i undef)) ->
 ∃r,Instr.fill place arr qs=some r/\RV M w (.agg aq) (.agg r)
 | [],[],cells,arr,aq,h,_,_,h2,h3,h4=>by
  simp only[b08,Option.some.injEq]at h;subst h;exact⟨arr,G,.agg h2 h3 h4⟩
 | [],q::qs,_,_,_,_,h,_,_,_,_=>by simp at h
 |p::ps,[],_,_,_,_,h,_,_,_,_=>by simp at h
 |(i,c)::ps,(i',v)::qs,cells,arr,aq,h,hm,ba,h2,h3,h4=>by
  simp only[a8C,List.cons.injEq]at hm;obtain⟨rfl,hm⟩:=hm;simp only[b08]at h;cases hp:fR[i]? with
  |none=>rw[hp]at h;cases h
  |some x=>
   obtain⟨off,size⟩:=x;rw[hp]at h;simp only at h;split at h
   .rename_i hc;obtain⟨cK,fj⟩:=hc;obtain⟨hv,aQ⟩:=ba 0 (i,c) (i,v) G G;obtain⟨g1,g2,g3⟩:=hv.cells aQ;have g1:v.cells.size=c.cells.length:=g1;have aP:off+c.cells.length<=cells.length:=by omega
    have iu:(v.cells.zipIdx.foldl (λcs (x:Value×Nat)=>cs.setIfInBounds (off+x.2) x.1) arr)=C6 arr off v.cells.toList:=by
     rw[<- Array.foldl_toList,Array.toList_zipIdx,a42];rfl
    have ih:=b7H bo ps qs (M6 cells off c.cells) (C6 arr off v.cells.toList) aq h hm (λj x y hx hy=>ba (j+1) x y (U hx) (U hy)) (by rw[H4,a0i aP,h2])
     (λc' bA=>by
      rcases a2w bA with h'|h'
      .exact g2 _ h'
      .exact h3 _ h')
     (λj c' hj=>by
      rw[K3 _ _ _ _ G5];rw[a2r aP]at hj;simp only[a9A,g1];split at hj
      .rename_i bW;rw[W bW];have:=g3 _ _ hj;simpa using this
      .rename_i bW;rw[H bW];exact h4 _ _ hj)
    obtain⟨r,aR,bk⟩:=ih;refine⟨r,?_,bk⟩;simp only[Instr.fill,bo,hp];rw[H G5];exact(n_7 (λz=>Instr.fill place z qs) iu).trans aR
   .cases h
theorem d3P{fs:Array Field}{fR:Array (Nat×Nat)}{aq:List CV}(ho:o.op = .build t parts)(hv:∀x∈parts.toList,E.valid x.2)
 (hu:∀w,(underlying t).run C.P w= .ok (.struct fs) w)(hz:∀w,(zeroValue t).run C.P w= .ok z w)(bQ:I2 z=true)(ci:∃cs,G2 z= .agg cs)
 (bo:∀w,(fs.mapM λ(f:Field)=>do pure (f.offset,<- sizeOf f.type)).run C.P w= .ok fR w)(ep:parts.toList.map (λx=>(x.1,E.val C x.2))=ps)
 (aQ:∀x∈ps,x.2.one=true\/∃cs,x.2 = .agg cs)(bq:b08 fR (G2 z).cells ps=some aq):j4 C σ E o (.agg aq):=
 i8 λM w ρ hr h=>by
  have gL:RV M w (G2 z) z:=a0m bQ;obtain⟨g1,g2,g3⟩:=gL.cells (.inr ci);have bw:∀x∈parts.toList,x.2∈o.op.operands:=λx hx=>by
   rw[ho];simp only[Op.operands,List.mem_toArray,D8];exact⟨x,hx,G⟩
  obtain⟨r,aR,bk⟩:=b7H (M:=M) (w:=w) (place:=λi=>fR[i]?) V9 ps (parts.toList.map λx=>(x.1,ρ x.2)) (G2 z).cells z.cells aq bq (by simp[<- ep]) (λi x y hx hy=>by
   refine⟨?_,aQ x (n_3 hx)⟩;subst ep;simp only[N6,M8]at hx hy;obtain⟨a,ha,rfl⟩:=hx;obtain⟨a',cA,rfl⟩:=hy;have:a=a':=by rw[ha]at cA;injection cA
   subst this;have hm:=n_3 ha;exact h _ (bw _ hm) (hv _ hm)) g1 g2 g3
  refine⟨.agg r,?_,bk⟩;have hl:(parts.map λx=>(x.1,ρ x.2)).toList=parts.toList.map λx=>(x.1,ρ x.2):=by simp
  simp only[execOp,ho,Instr.build,Sem.run_bind,hz,Result.andThen_ok,hu,bo];simp only[hl,aR];rfl
end
def b4W(e:Edge):Bool:=Region.binds .any e
section
variable{af:Array Oper}{E':Env}{a:Act}{Ji:A7->Env->List b9->Prop}
def H1(C:Ctx)(σ:List b9)(af:Array Oper)(o:Oper)(E:Env)(c:CV)(g:Prop):Prop:=
 (o.guard=none/\g/\j4 C σ E o c) \/
 (∃j t av b,o.guard=some (j,av)/\(af[j]?).bind (·.dst)=some t/\(¬E.ok t->E.un t)/\E.f t= .val (.bool b)/\(g↔(E.ok t/\b=av))/\(E.ok t->b=av->j4 C σ E o c))
def U7(C:Ctx)(σ:List b9)(af:Array Oper)(K:Env->Prop):List Oper->Env->Prop
 | [],E=>K E
 |o::l,E=>∃c g,H1 C σ af o E c g/\U7 C σ af K l (E.put o.dst c g)
theorem a2K{K:Env->Prop}(h:K E):U7 C σ af K [] E:=h
theorem e1d{K:Env->Prop}(hg:o.guard=none)(hy:j4 C σ E o c)(h:U7 C σ af K l (E.put o.dst c True)):U7 C σ af K (o::l) E:=
 ⟨c,True,.inl ⟨hg,O,hy⟩,h⟩
theorem D4{K:Env->Prop}{t:Nat}{b:Bool}(hg:o.guard=some (j,av))(ht:(af[j]?).bind (·.dst)=some t)(hv:E.ok t)(hb:E.f t= .val (.bool b))
 (hy:b=av->j4 C σ E o c)(h:U7 C σ af K l (E.put o.dst c (b=av))):U7 C σ af K (o::l) E:=
 ⟨c,b=av,.inr ⟨j,t,av,b,hg,ht,λh=>absurd hv h,hb,⟨λh=>⟨hv,h⟩,λh=>h.2⟩,λ_=>hy⟩,h⟩
theorem a41{K:Env->Prop}{t:Nat}{b:Bool}(hg:o.guard=some (j,av))(ht:(af[j]?).bind (·.dst)=some t)(hv:¬E.ok t->E.un t)(hb:E.f t= .val (.bool b))
 (hy:E.ok t->b=av->j4 C σ E o c)(h:U7 C σ af K l (E.put o.dst c (E.ok t/\b=av))):U7 C σ af K (o::l) E:=
 ⟨c,E.ok t/\b=av,.inr ⟨j,t,av,b,hg,ht,hv,hb,Iff.rfl,hy⟩,h⟩
def Env.agree(t:Nat)(E E':Env):Prop:=E.f t=E'.f t/\E.ok t=E'.ok t/\E.un t=E'.un t
theorem b3L{t:Nat}{d:Option Nat}(hd:d≠some t):E.agree t (E.put d c g):=by
 cases d with
 |none=>exact⟨G,G,G⟩
 |some d=>
  have ht:t≠d:=λe=>hd (by rw[e]);unfold Env.agree;simp only[Env.put_f,Env.put_ok,Env.put_un,H ht,and_self]
theorem Env.agree.symm{t:Nat}(h:E.agree t E'):E'.agree t E:=⟨h.1.symm,h.2.1.symm,h.2.2.symm⟩
theorem c9J{d d':Option Nat}{g':Prop}(h:∀t,d=some t->d'≠some t):(E.put d c g).put d' c' g'=(E.put d' c' g').put d c g:=by
 cases d with
 |none=>rfl
 |some d=>
  cases d' with
  |none=>rfl
  |some d'=>
   have aB:¬d=d':=λe=>h d G (by rw[e]);simp only[Env.put,Env.putO]
   congr 1<;>funext t<;>cases h1:Nat.beq t d<;>cases h2:Nat.beq t d'<;>first|rfl|exact absurd ((a2l h1).symm.trans (a2l h2)) aB
theorem b9p{t:Nat}(h:Operand.tmp t∈o.op.operands):t∈o.looksAt af:=
 b3s _ (c2u.2 ⟨.tmp t,U h,G⟩)
theorem a5U{t:Nat}(hg:o.guard=some (j,av))(ht:(af[j]?).bind (·.dst)=some t):t∈o.looksAt af:=by
 unfold Oper.looksAt;rw[hg];exact b8T _ (by simp[ht])
theorem a6d(h:∀t∈o.looksAt af,E.agree t E')(hd:C5 C σ E o K):C5 C σ E' o K:=λM w ρ hr hx=>hd M w ρ hr λx hm hv=>by
 cases x with
 |tmp t=>
  have h1:=h t (b9p hm);show RV M w (E.f t) _;rw[h1.1];exact hx (.tmp t) hm (cast h1.2.1 hv)
 |const v=>exact hx (.const v) hm hv
 |global v=>exact hx (.global v) hm hv
 |func v=>exact hx (.func v) hm hv
theorem a6r(h:∀t∈o.looksAt af,E.agree t E')(hd:H1 C σ af o E c g):H1 C σ af o E' c g:=by
 rcases hd with⟨h1,h2,h3⟩|⟨j,t,av,b,hg,ht,h1,h2,h3,h4⟩
 .exact .inl ⟨h1,h2,a6d h h3⟩
 .obtain ⟨a1,a2,a3⟩:=h t (a5U hg ht);refine .inr ⟨j,t,av,b,hg,ht,?_,?_,?_,?_⟩
  .rw [<- a2,<- a3];exact h1
  .rw [<- a1];exact h2
  .rw [<- a2];exact h3
  .rw [<- a2];exact λk1 k2=>a6d h (h4 k1 k2)
def c2S(C:Ctx)(af:Array Oper)(o:Oper)(E:Env)(σ:List b9)(K:CV->Prop->List b9->Prop)(Kp:CV->List b9->Prop):Prop:=
 ∃j t av b c0,o.guard=some (j,av)/\(af[j]?).bind (·.dst)=some t/\E.ok t/\E.f t= .val (.bool b)/\(b=av->C5 C σ E o λr ae=>match r with| .ret c=>K c (b=av) ae| .pan c=>Kp c ae)/\(¬b=av->K c0 (b=av) σ)
def b8t(C:Ctx)(af:Array Oper)(o:Oper)(E:Env)(σ:List b9)(K:CV->Prop->List b9->Prop)(Kp:CV->List b9->Prop):Prop:=
 (o.guard=none/\C5 C σ E o λr ae=>match r with| .ret c=>K c True ae| .pan c=>Kp c ae)\/c2S C af o E σ K Kp
theorem a2X{K K':CV->Prop->List b9->Prop}{Kp:CV->List b9->Prop}(h:∀t∈o.looksAt af,E.agree t E')(hk:∀c g σ,K c g σ->K' c g σ)(hd:b8t C af o E σ K Kp):b8t C af o E' σ K' Kp:=by
 have go:∀{g:Prop},(C5 C σ E o λr ae=>match r with| .ret c=>K c g ae| .pan c=>Kp c ae)->C5 C σ E' o λr ae=>match r with| .ret c=>K' c g ae| .pan c=>Kp c ae:=λhd=>(a6d h hd).mono λr ae hh=>by
  cases r with
  |ret c=>exact hk _ _ _ hh
  |pan c=>exact hh
 rcases hd with⟨h1,h2⟩|⟨j,t,av,b,c0,hg,ht,h1,h2,h3,h4⟩
 .exact .inl ⟨h1,go h2⟩
 .obtain ⟨a1,a2,-⟩:=h t (a5U hg ht);exact .inr ⟨j,t,av,b,c0,hg,ht,a2▸h1,a1▸h2,λe=>go (h3 e),λe=>hk _ _ _ (h4 e)⟩
theorem b4Q{t:Nat}{b:Bool}(hf:G4 M w n E a)(ht:(af[j]?).bind (·.dst)=some t)(hv:E.ok t)(hb:E.f t= .val (.bool b)):yielded af a.tmps j=some b:=by
 have h1:=hf.rv t hv;rw[hb]at h1;have h2:a.tmps.getD t undef= .bool b:=by generalize a.tmps.getD t undef=Jj at h1;cases h1;rfl
 have aP:t<a.tmps.size:=by
  rcases a3d t a.tmps.size with h'|h'
  .exact h'
  .simp [b4H h',undef]at h2
 rw[a0b,a1V aP]at h2;unfold yielded;rw[ht,n_8,a1V aP,show a.tmps[t]= .bool b from h2]
theorem b4m{t:Nat}(hf:G4 M w n E a)(ht:(af[j]?).bind (·.dst)=some t)(hu:E.un t):yielded af a.tmps j=none:=by
 have h3:=hf.un t hu;unfold yielded;rw[ht,n_8]
 rcases a3d t a.tmps.size with h'|h'
 .rw [a0b,a1V h']at h3;rw[a1V h',show a.tmps[t]=undef from h3];rfl
 .rw [b4H h']
theorem d5i{R:L7->List b9->Prop}(h:C5 C σ E o R)(hr:Rel C M σ w)(hf:G4 M w n E a){K:Act->World->Prop}{Ji:Exit->Act->World->Prop}(hk:∀c v w' M' ae,Ext M w M' w'->Rel C M' ae w'->RV M' w' c v->R (.ret c) ae->K (a.put o.dst v) w')
 (hp:∀c v w' M' ae,Ext M w M' w'->Rel C M' ae w'->RV M' w' c v->R (.pan c) ae->Ji (.panic [{v,recovered:=false}]) a w'):o.wp C.P a w K Ji:=
 a3z (h M w a.eval hr λ_ _ hx=>hf.eval hr hx) (λv w' ⟨c,ae,M',h1,h2,h3,h4⟩=>hk c v w' M' ae h1 h2 h3 h4) λ_ w' ⟨c,v,ae,M',h0,h1,h2,h3,h4⟩=>h0▸hp c v w' M' ae h1 h2 h3 h4
theorem e16{K1:CV->Prop->List b9->Prop}{Kp:CV->List b9->Prop}(h:(∃c g,H1 C σ af o E c g/\K1 c g σ)\/b8t C af o E σ K1 Kp)(hr:Rel C M σ w)(hf:G4 M w n E a)(hd:∀t,o.dst=some t->t<n){K:Act->World->Prop}{Ji:Exit->Act->World->Prop}(hk:∀c g v w' M' ae,Ext M w M' w'->Rel C M' ae w'->G4 M' w' n (E.put o.dst c g) (a.put o.dst v)->K1 c g ae->K (a.put o.dst v) w')
 (hp:∀c v w' M' ae,Ext M w M' w'->Rel C M' ae w'->RV M' w' c v->Kp c ae->Ji (.panic [{v,recovered:=false}]) a w'):if Region.wanted o (yielded af a.tmps)=true then o.wp C.P a w K Ji\/(o.asks C.P a w/\LetsOut Ji)else K (a.put o.dst undef) w:=by
 have run:∀{g:Prop},g->(C5 C σ E o λr ae=>match r with| .ret c=>K1 c g ae| .pan c=>Kp c ae)->o.wp C.P a w K Ji:=λhg ej=>d5i ej hr hf (λc v w' M' ae h1 h2 h3 h4=>hk c _ v w' M' ae h1 h2 ((hf.mono h1).put hd (λ_=>h3) λhh=>absurd hg hh) h4) hp;have quiet:∀{c:CV} {g:Prop},g->j4 C σ E o c->K1 c g σ->o.wp C.P a w K Ji:=λhg hy bn=>run hg (hy.mono λr ae hh=>by obtain⟨rfl,rfl⟩:=hh;exact bn);have skip:∀{c:CV} {g:Prop},¬g->K1 c g σ->K (a.put o.dst undef) w:=λhg bn=>hk _ _ _ w M σ (Ext.refl M w) hr (hf.put hd (λhh=>absurd hh hg) λ_=>G) bn;have gw:∀{j t:Nat} {av b:Bool},o.guard=some (j,av)->(af[j]?).bind (·.dst)=some t->E.ok t->E.f t= .val (.bool b)->Region.wanted o (yielded af a.tmps)=(b == av):=λ{j t av b} hg ht hv hb=>by
  simp only[Region.wanted,hg,b4Q hf ht hv hb];cases b<;>cases av<;>rfl
 rcases h with⟨c,g,⟨hg,hgp,hy⟩|⟨j,t,av,b,hg,ht,dM,hb,hgb,hy⟩,bn⟩|⟨hg,h1⟩|⟨j,t,av,b,c0,hg,ht,hv,hb,h1,h2⟩
 .rw [W (by simp[Region.wanted,hg])];exact .inl (quiet hgp hy bn)
 .by_cases iw:E.ok t
  .rw [gw hg ht iw hb];by_cases cJ:b=av
   .rw [W (U cJ)];exact .inl (quiet (hgb.2 ⟨iw,cJ⟩) (hy iw cJ) bn)
   .rw [H (U cJ)];exact skip (λhh=>cJ (hgb.1 hh).2) bn
  .rw [H (by simp[Region.wanted,hg,b4m hf ht (dM iw)])];exact skip (λhh=>iw (hgb.1 hh).1) bn
 .rw [W (by simp[Region.wanted,hg])];exact .inl (run trivial h1)
 .rw [gw hg ht hv hb];by_cases cJ:b=av
  .rw [W (U cJ)];exact .inl (run cJ (h1 cJ))
  .rw [H (U cJ)];exact skip cJ (h2 cJ)
def CA(C:Ctx)(af:Array Oper)(Ji:A7->Env->List b9->Prop)(Lf:Array Bool)(B:Env->List b9->Prop)(T:Nat->List b9->Prop):Nat->Array Bool->Env->List b9->Prop
 |0,L,E,σ=>L=Lf/\B E σ
 |f+1,L,E,σ=>Region.ready .any af L≠[]/\∀i∈Region.ready .any af L,∃o,af[i]?=some o /\
  ((∃c g,H1 C σ af o E c g/\CA C af Ji Lf B T f (L.setIfInBounds i true) (E.put o.dst c g) σ)\/b8t C af o E σ (λc g ae=>T i ae/\CA C af Ji Lf B T f (L.setIfInBounds i true) (E.put o.dst c g) ae) λc ae=>∀E',Ji (.pan c) E' ae)
variable{Lf:Array Bool}{B:Env->List b9->Prop}{T T':Nat->List b9->Prop}
theorem a43(h:∀j σ,T j σ->T' j σ):∀{f:Nat} {L:Array Bool} {E:Env} {σ:List b9},CA C af Ji Lf B T f L E σ->CA C af Ji Lf B T' f L E σ
 |0,_,_,_,hc=>hc
 |f+1,_,_,_,⟨h0,hc⟩=>⟨h0,λi hi=>by
  obtain⟨o,ho,hc⟩:=hc i hi;exact⟨o,ho,hc.imp (λ⟨c,g,h1,h2⟩=>⟨c,g,h1,a43 h h2⟩) (a2X (λ_ _=>⟨G,G,G⟩) λ_ _ _ hh=>⟨h _ _ hh.1,a43 h hh.2⟩)⟩⟩
theorem b4Y{M0:A5}{w0:World}{f0:Nat}(hd:∀(i:Nat) (o:Oper),af[i]?=some o->∀t,o.dst=some t->t<n)(hB:∀E σ M w a,B E σ->Ext M0 w0 M w->Rel C M σ w->G4 M w n E a->wpAny C.P .any af (O6 C n Ji M0 w0) f0 Lf a w):∀{f:Nat} {L:Array Bool} {E:Env} {σ:List b9} {M:A5} {w:World} {a:Act},CA C af Ji Lf B T f L E σ->Ext M0 w0 M w->Rel C M σ w->G4 M w n E a->wpAny C.P .any af (O6 C n Ji M0 w0) (f0+f) L a w
 |0,_,E,σ,M,w,a,⟨h1,h2⟩,hx,hr,hf=>by subst h1;exact hB E σ M w a h2 hx hr hf
 |f+1,L,E,σ,M,w,a,⟨h0,hc⟩,hx,hr,hf=>⟨λh=>absurd h h0,λi hi=>by
  obtain⟨o,ho,hc⟩:=hc i hi;unfold wpOp;simp only[ho];refine e16 (K1:=λc g ae=>CA C af Ji Lf B T f (L.setIfInBounds i true) (E.put o.dst c g) ae) (Kp:=λc ae=>∀E',Ji (.pan c) E' ae) ?_ hr hf (hd i o ho) (λc g v w' M' ae h1 h2 h3 h4=>b4Y hd hB h4 (hx.trans h1) h2 h3) (λc v w' M' ae h1 h2 h3 h4=>⟨E,ae,M',hx.trans h1,h2,hf.mono h1,c,v,G,h3,h4 E⟩);exact hc.imp id (a2X (λ_ _=>⟨G,G,G⟩) λ_ _ _ hh=>hh.2)⟩
theorem d5I{L:Array Bool}(h:L.getD k false=true):k<L.size/\L.getD k true=true:=by
 rcases a3d k L.size with h'|h'
 .exact ⟨h',by simpa[h']using h⟩
 .simp [b4H h']at h
theorem c9U{oi:Oper}(Jd:Nat->Bool)(F:List b9->Prop)(hoi:af[i]?=some oi)(hD:∀j o,af[j]?=some o->Jd j=true->∃e∈o.after,b4W e=true/\(e.on=i\/Jd e.on=true))(hLf:∀j o,af[j]?=some o->j≠i->Jd j=false->Lf.getD j true=true):
 ∀{f:Nat} {L:Array Bool} {E:Env} {σ:List b9},(∀j,j<L.size->Jd j=true->L.getD j true=false)->(∀j o,af[j]?=some o->j≠i->Jd j=false->L.getD j true=false->oi.apart af o=true)->i∈Region.ready .any af L->(∀ae,F ae->H1 C ae af oi E c g)->H1 C σ af oi E c g ->
  CA C af Ji Lf B (λj ae=>T j ae/\(Jd j=false->F ae)) f (L.setIfInBounds i true) (E.put oi.dst c g) σ->CA C af Ji Lf B T (f+1) L E σ:=by
 have noD:∀{L:Array Bool} {j:Nat},(∀j,j<L.size->Jd j=true->L.getD j true=false)->i∈Region.ready .any af L->j∈Region.ready .any af L->Jd j=false:=λ{L j} hDL hi hj=>by
  cases hDj:Jd j with
  |false=>rfl
  |true=>
   obtain⟨_,o,ho,bx⟩:=mem_ready.1 hj;obtain⟨e,he,hb,hh⟩:=hD j o ho hDj;obtain⟨h1,h2⟩:=d5I (bx e he hb)
   rcases hh with hh|hh
   .rw [hh,(mem_ready.1 hi).1]at h2;cases h2
   .rw [hDL _ h1 hh]at h2;cases h2
 have own:∀{f:Nat} {L:Array Bool} {E:Env} {σ:List b9},H1 C σ af oi E c g->CA C af Ji Lf B (λj ae=>T j ae/\(Jd j=false->F ae)) f (L.setIfInBounds i true) (E.put oi.dst c g) σ->∃o,af[i]?=some o /\
  ((∃c g,H1 C σ af o E c g/\CA C af Ji Lf B T f (L.setIfInBounds i true) (E.put o.dst c g) σ)\/b8t C af o E σ (λc g ae=>T i ae/\CA C af Ji Lf B T f (L.setIfInBounds i true) (E.put o.dst c g) ae) λc ae=>∀E',Ji (.pan c) E' ae):=λh1 h2=>⟨oi,hoi,.inl ⟨c,g,h1,a43 (λ_ _ h=>h.1) h2⟩⟩
 intro f
 induction f with
 |zero=>
  intro L E σ hDL hap hi hF bj hc;refine⟨λh=>(by rw[h]at hi;cases hi),λj hj=>?_⟩;by_cases eu:j=i
  .subst eu;exact own bj hc
  .exfalso;obtain⟨h1,o,ho,_⟩:=mem_ready.1 hj;have h2:=hLf j o ho eu (noD hDL hi hj);rw[<- hc.1,getD_set_ne true (Ne.symm eu),h1]at h2;cases h2
 |succ f ih=>
  intro L E σ hDL hap hi hF bj hc;refine⟨λh=>(by rw[h]at hi;cases hi),λj hj=>?_⟩;by_cases eu:j=i
  .subst eu;exact own bj hc
  .have hDj:=noD hDL hi hj;obtain⟨o,ho,hcj⟩:=hc.2 j (ready_mono hj eu);obtain⟨a1,a2,a3⟩:=Oper.apart_spec (hap j o ho eu hDj (mem_ready.1 hj).1);have ir:∀t∈o.looksAt af,(E.put oi.dst c g).agree t E:=λt ht=>(b3L λe=>a1 t e ht).symm;have next:∀(c':CV) (g':Prop) (ae:List b9),H1 C ae af oi E c g->CA C af Ji Lf B (λj ae=>T j ae/\(Jd j=false->F ae)) f ((L.setIfInBounds i true).setIfInBounds j true) ((E.put oi.dst c g).put o.dst c' g') ae->CA C af Ji Lf B T (f+1) (L.setIfInBounds j true) (E.put o.dst c' g') ae:=λc' g' ae h1 h2=>by
    have fw:∀t∈oi.looksAt af,E.agree t (E.put o.dst c' g'):=λt ht=>b3L λe=>a3 t e ht;refine ih (λk hk hDk=>?_) (λk ok hk hki hDk hun=>hap k ok hk hki hDk ?_) (ready_mono hi (Ne.symm eu)) (λae h=>a6r fw (hF ae h)) (a6r fw h1) ?_
    .have hjk:j≠k:=λe=>by rw[e,hDk]at hDj;cases hDj
     rw[getD_set_ne true hjk];exact hDL k (U hk) hDk
    .by_cases hjk:j=k
     .subst hjk;exact(mem_ready.1 hj).1
     .rw [getD_set_ne true hjk]at hun;exact hun
    .rw [Array.setIfInBounds_comm _ _ eu,<- c9J λt e=>a2 t e];exact h2
   refine⟨o,ho,hcj.imp (λ⟨c',g',h1,h2⟩=>⟨c',g',a6r ir h1,next c' g' σ bj h2⟩) (a2X ir λc' g' ae hh=>⟨hh.1.1,next c' g' ae (hF ae (hh.1.2 hDj)) hh.2⟩)⟩
def a1s(L:Array Bool)(l:List Nat):Array Bool:=l.foldl (λL i=>L.setIfInBounds i true) L
def b4U(af:Array Oper)(ms:List Nat)(Lf L:Array Bool)(i:Nat):Bool:=(Region.ready .any af L).contains i&& (List.range L.size).all (λj=>!(ms.getD j 0).testBit i || !(L.getD j true))&& (List.range af.size).all λj=>match af[j]? with
 |none=>true
 |some o=>match(ms.getD j 0).testBit i with
  |true=>o.after.toList.any λe=>b4W e&& (Nat.beq e.on i ||(ms.getD e.on 0).testBit i)
  |false=>Nat.beq j i ||(Lf.getD j true&& (L.getD j true ||match af[i]? with
   |some oi=>oi.apart af o
   |none=>true))
theorem c9S{ms:List Nat}{L:Array Bool}{f:Nat}{oi:Oper}(F:List b9->Prop)(hB:b4U af ms Lf L i=true)(hoi:af[i]?=some oi)(hF:∀ae,F ae->H1 C ae af oi E c g)(bj:H1 C σ af oi E c g)(h:CA C af Ji Lf B (λj ae=>T j ae/\((ms.getD j 0).testBit i=false->F ae)) f (L.setIfInBounds i true) (E.put oi.dst c g) σ):CA C af Ji Lf B T (f+1) L E σ:=by
 simp only[b4U,R9,a6h,List.mem_range]at hB;obtain⟨⟨h1,h2⟩,h3⟩:=hB;have h4:∀j o,af[j]?=some o->_:=λj o ho=>by
  have:=h3 j (a06.1 ho).1;rw[ho]at this;exact this
 refine c9U (λj=>(ms.getD j 0).testBit i) F hoi (λj o ho (hD:(ms.getD j 0).testBit i=true)=>?_) (λj o ho eu (hD:(ms.getD j 0).testBit i=false)=>?_) (λj hj (hD:(ms.getD j 0).testBit i=true)=>?_) (λj o ho eu (hD:(ms.getD j 0).testBit i=false) hun=>?_) (U h1) hF bj h
 .have:=h4 j o ho;simp only[hD]at this;obtain⟨e,he,hh⟩:=c1K.1 this;simp only[R9,a9J]at hh;exact⟨e,U he,hh.1,hh.2.imp a2l id⟩
 .have:=h4 j o ho;simp only[hD,R9,a9J]at this
  rcases this with h|h
  .exact absurd (a2l h) eu
  .exact h.1
 .have:=h2 j hj;rw[hD]at this;simpa using this
 .have:=h4 j o ho;simp only[hD,hoi,R9,a9J]at this
  rcases this with h|⟨_,h|h⟩
  .exact absurd (a2l h) eu
  .rw [hun]at h;cases h
  .exact h
def Y5(C:Ctx)(σ:List b9)(af:Array Oper)(K:Env->List (List b9->Prop)->Prop):List Nat->Env->List (List b9->Prop)->Prop
 | [],E,S=>K E S
 |i::l,E,S=>∃o c g,af[i]?=some o/\H1 C σ af o E c g/\Y5 C σ af K l (E.put o.dst c g) (S++[λae=>H1 C ae af o E c g])
def a8L(af:Array Oper)(ms:List Nat)(Lf:Array Bool):List Nat->Array Bool->Bool
 | [],_=>true
 |i::l,L=>b4U af ms Lf L i&&a8L af ms Lf l (L.setIfInBounds i true)
def TF(ms:List Nat):List Nat->List (List b9->Prop)->Nat->List b9->Prop
 |i::l,F::S,j,σ=>((ms.getD j 0).testBit i=false->F σ)/\TF ms l S j σ
 |_,_,_,_=>True
theorem a7R{ms:List Nat}{K:Env->List (List b9->Prop)->Prop}{f:Nat}:∀{l:List Nat} {L:Array Bool} {E:Env} {S:List (List b9->Prop)} {T:Nat->List b9->Prop},a8L af ms Lf l L=true->Y5 C σ af K l E S->(∀E' S',K E' (S++S')->CA C af Ji Lf B (λj ae=>T j ae/\TF ms l S' j ae) f (a1s L l) E' σ)->CA C af Ji Lf B T (f+l.length) L E σ
 | [],L,E,S,T,_,h,k=>a43 (λ_ _ h=>h.1) (k E [] (by rw[a0h];exact h))
 |i::l,L,E,S,T,hB,⟨o,c,g,ho,bj,h⟩,k=>by
  rw[a8L,R9]at hB;refine c9S (λae=>H1 C ae af o E c g) hB.1 ho (λ_ h=>h) bj (a7R hB.2 h λE' S' hk=>a43 (λj ae hh=>?_) (k E' ((λae=>H1 C ae af o E c g)::S') (by rw[T5]at hk;exact hk)));exact⟨⟨hh.1,hh.2.1⟩,hh.2.2⟩
theorem c20{K:Env->Prop}:∀(l:List Oper) (k:Nat) (E:Env) (S:List (List b9->Prop)),(∀i,i<l.length->l[i]?=af[k+i]?)->U7 C σ af K l E->Y5 C σ af (λE' _=>K E') (List.range' k l.length) E S
 | [],_,_,_,_,h=>h
 |o::l,k,E,S,hl,⟨c,g,h1,h2⟩=>⟨o,c,g,(hl 0 (Nat.zero_lt_succ _)).symm,h1,c20 l (k+1) _ _ (λi hi=>by
  have:=hl (i+1) (Nat.succ_lt_succ hi);rw[show k+1+i=k+(i+1) by omega];simpa using this) h2⟩
def d4Y(af:Array Oper):List Nat->Array Bool->Bool
 | [],L=>(Region.ready .any af L).isEmpty
 |i::l,L=>(match Region.ready .any af L with
  | [j]=>Nat.beq j i
  |_=>false)&&d4Y af l (L.setIfInBounds i true)
theorem a1L{L:Array Bool}{i:Nat}(h:(match Region.ready .any af L with
 | [j]=>Nat.beq j i
 |_=>false)=true):Region.ready .any af L=[i]:=by
 split at h
 .rename_i j hj;rw[hj,a2l h]
 .cases h
theorem b7G{Ji:Exit->Act->World->Prop}:∀(l:List Oper) (k:Nat) (L:Array Bool) (a:Act) (w:World),(∀i,i<l.length->l[i]?=af[k+i]?)->d4Y af (List.range' k l.length) L=true->wpList C.P af Ji l a w->wpAny C.P .any af Ji l.length L a w
 | [],_,L,a,w,_,hB,h=>⟨b9e.1 hB,h⟩
 |o::l,k,L,a,w,hl,hB,h=>by
  rw[J5,List.range'_succ,d4Y,R9]at hB;have h1:=a1L hB.1;have ho:af[k]?=some o:=(hl 0 (Nat.zero_lt_succ _)).symm;have hK:∀a w,wpList C.P af Ji l a w->wpAny C.P .any af Ji l.length (L.setIfInBounds k true) a w:=λa w h=>b7G l (k+1) _ a w (λi hi=>by
   have:=hl (i+1) (Nat.succ_lt_succ hi);rw[show k+1+i=k+(i+1) by omega];simpa using this) hB.2 h
  refine⟨λh0=>(by rw[h1]at h0;cases h0),λi hi=>?_⟩;rw[h1,a0r]at hi;subst hi;unfold wpList at h;unfold wpOp;simp only[ho]
  split
  .rename_i hw;rw[W hw]at h;exact h.imp (Oper.wp_mono hK) id
  .rename_i hw;rw[H hw]at h;exact hK _ _ h
theorem Rel.drew(hr:Rel C M σ w):Rel C M σ {w with drawn:=w.drawn+1}/\Ext M w M {w with drawn:=w.drawn+1}:=by
 have hx:Ext M w M {w with drawn:=w.drawn+1}:=⟨⟨[],Q⟩,λ_ h=>h,λ_ _ h=>.inr h,λ_ _=>G,λ_ _ _=>G,n_6 _,R4,G,G,G,λ_ h=>⟨h,G,id,λ_=>id⟩⟩;refine⟨⟨hr.len,hr.blk,λk p ob hk hs=>⟨(hr.obj k p ob hk hs).1.mono hx G (λ_ _ _ _ h=>h),(hr.obj k p ob hk hs).2⟩,hr.inj,λg cells hg=>(hr.glob g cells hg).mono hx,hr.kep,hr.nk⟩,hx⟩
theorem b5H(hd:(af.toList.all λo=>match o.dst with|some d=>Nat.blt d n|none=>true)=true)(i:Nat)(o:Oper)(ho:af[i]?=some o)(t:Nat)(ht:o.dst=some t):t<n:=by
 rw[a6h]at hd;have:=hd o (by simpa using b4k ho);rw[ht]at this;simpa[b12]using this
def L0(af:Array Oper):Array Bool:=Array.replicate af.size false
def b6Z(af:Array Oper)(nh:Nat)(ms:List Nat):Bool:=Nat.ble nh af.size &&a8L af ms (a1s (L0 af) (List.range' 0 nh)) (List.range' 0 nh) (L0 af)&&d4Y af (List.range' nh (af.size -nh)) (a1s (L0 af) (List.range' 0 nh))
theorem c7U(nh:Nat)(ms:List Nat)(hB:b6Z af nh ms=true)(hd:(af.toList.all λo=>match o.dst with|some d=>Nat.blt d n|none=>true)=true)
 (h:U7 C σ af (λE'=>F0 C n af Ji (af.toList.drop nh) E' σ) (af.toList.take nh) E)(hr:Rel C M σ w)(hf:G4 M w n E a):wpAny C.P .any af (O6 C n Ji M w) af.size (L0 af) a {w with drawn:=w.drawn+1}:=by
 simp only[b6Z,R9]at hB;obtain⟨⟨h1,h2⟩,h3⟩:=hB;have hnh:=nb h1;obtain⟨bB,hx⟩:=hr.drew;have ai:(af.toList.take nh).length=nh:=by simp;omega
 have hld:(af.toList.drop nh).length=af.size -nh:=by simp
 have hc:=c20 (S:=[]) _ 0 E (λi hi=>by rw[a38,W J,P4,Array.getElem?_toList]) h;rw[ai]at hc;have:=b4Y (f0:=af.size -nh) (b5H hd) (λE σ M1 w1 a1 hB bP aR cI=>by
  rw[<- hld]at h3⊢;exact b7G _ nh _ a1 w1 (λi hi=>by rw[a7O,Array.getElem?_toList]) h3 (hB.later bP aR cI)) (a7R (T:=λ_ _=>True) (f:=0) (B:=λE' ae=>F0 C n af Ji (af.toList.drop nh) E' ae) h2 hc λE' S' hk=>⟨G,hk⟩) hx bB (hf.mono hx)
 rw[P4,List.length_range',show af.size -nh+nh=af.size by omega]at this;exact this
theorem c3Z{id:Nat}(nh:Nat)(ms:List Nat)(hm:C.P.follows .mixedOrders=true)(hB:b6Z af nh ms=true)(hd:(af.toList.all λo=>match o.dst with|some d=>Nat.blt d n|none=>true)=true)
 (h:U7 C σ af (λE'=>F0 C n af Ji (af.toList.drop nh) E' σ) (af.toList.take nh) E):CWp C n (.region id af true) Ji E σ:=λM w a hr hf=>wp_region_any hm (c7U nh ms hB hd h hr hf)
end
def Env.valids(E:Env):List Operand->Prop
 | []=>True
 |x::l=>E.valid x/\E.valids l
def Env.vals(C:Ctx)(E:Env):List Operand->List CV
 | []=>[]
 |x::l=>E.val C x::E.vals C l
theorem Env.valids_mem:∀{l:List Operand},E.valids l->∀x∈l,E.valid x
 | [],_,x,h=>by simp at h
 |y::l,⟨h1,h2⟩,x,h=>by
  rcases I0.1 h with rfl|h
  .exact h1
  .exact Env.valids_mem h2 x h
theorem Env.vals_map:∀(l:List Operand),l.map (E.val C)=E.vals C l
 | []=>rfl
 |x::l=>by simp[Env.vals,Env.vals_map l]
section
theorem d9l(ho:o.op = .call {callee:=.value (.func f),args:=xs,argTypes:=ts})(aE:∀args w,(callFunc f args).run C.P w= .ok (.enter f args) w)
 (hv:E.valids xs.toList)(ea:E.vals C xs.toList=cargs)(h:b8 C f cargs σ λr ae=>r= .ret c/\ae=σ):j4 C σ E o c:=
 b03 ho aE (Env.valids_mem hv) ((Env.vals_map _).trans ea) h
def d6U(C:Ctx)(E:Env)(σ:List b9):ResultVar->CV->Prop
 | .tmp t,c=>E.ok t/\E.f t=c
 | .cell a t,c=>E.ok a/\∃k off cells,E.f a= .ptr k off/\σ[k]?=some (.box cells) /\
  (((∀w,(isAgg t).run C.P w= .ok false w)/\cells[off]?=some c)\/(∃s,(∀w,(isAgg t).run C.P w= .ok true w)/\(∀w,(sizeOf t).run C.P w= .ok s w)/\off+s<=cells.length/\c= .agg ((cells.drop off).take s)))
def b9A(C:Ctx)(E:Env)(σ:List b9):List ResultVar->List CV->Prop
 | [],[]=>True
 |r::rs,c::cs=>d6U C E σ r c/\b9A C E σ rs cs
 |_,_=>False
theorem b4X(hr:Rel C M σ w){Jj:Value}(hu:RV M w (.ptr k off) Jj)(hk:σ[k]?=some (.box cells))
 (h:((∀w,(isAgg t).run C.P w= .ok false w)/\cells[off]?=some c)\/(∃s,(∀w,(isAgg t).run C.P w= .ok true w)/\(∀w,(sizeOf t).run C.P w= .ok s w)/\off+s<=cells.length/\c= .agg ((cells.drop off).take s))):
 ∃a v,Jj= .pointer (some a)/\(loadVar t a).run C.P w= .ok v w/\RV M w c v:=by
 cases hu with
 |ptr hp=>
  rename_i p
  rcases h with⟨ha,hc⟩|⟨s,ha,hs,hl,rfl⟩
  .obtain ⟨v,hv,ba,_⟩:=b6u hr hp hk hc;exact⟨_,v,G,by simp[loadVar,ha,hv],ba⟩
  .obtain ⟨arr,ty,h1,h2,h3,h4⟩:=(hr.obj k p _ hp hk).1;have aZ:∀j,j<s->w.cell? ⟨p.block,off+j,none⟩=some (arr.getD (off+j) undef):=λj hj=>by
    have:off+j<arr.size:=by omega
    simp[World.cell?,h1,this]
   refine⟨_,.agg ((List.range s).map λj=>arr.getD (off+j) undef).toArray,G,by simp[loadVar,ha,hs,Q3 (P:=C.P) (w:=w) _ s aZ],.agg G5 (λc hc=>h3 c (a8G (a6B hc))) (λi c hi=>?_)⟩;have bd:i<s:=by
    have:=(n_2.1 hi).1;simp at this;omega
   rw[a38,W bd,a7O]at hi;have:=h4 (off+i) c hi;simpa[bd]using this
def a4k(tmps:Array Value):ResultVar->Sem Value:=λ
 | .tmp t=>pure (tmps.getD t undef)
 | .cell a t=>do loadVar t (<- asAddr (tmps.getD a undef))
theorem b4p{M:A5}{w:World}(hr:Rel C M σ w){tmps:Array Value}(h:∀t,E.ok t->RV M w (E.f t) (tmps.getD t undef)):∀(rs:List ResultVar) (cs:List CV),b9A C E σ rs cs ->
 ∃vs:List Value,(rs.mapM (a4k tmps)).run C.P w= .ok vs w/\vs.length=cs.length/\∀(i:Nat) (c:CV),cs[i]?=some c->RV M w c (vs.getD i undef)
 | [],[],_=>⟨[],Q,G,Q⟩
 |r::rs,c::cs,⟨h1,h2⟩=>by
  obtain⟨vs,hv,hl,ba⟩:=b4p hr h rs cs h2;have:∃v,(a4k tmps r).run C.P w= .ok v w/\RV M w c v:=by
   cases r with
   |tmp t=>
    obtain⟨ho,hc⟩:=h1;exact⟨_,by simp[a4k],hc▸h t ho⟩
   |cell a t=>
    obtain⟨ho,k,off,cells,he,hk,hc⟩:=h1;have hu:=h a ho;rw[he]at hu;obtain⟨ad,v,e1,e2,e3⟩:=b4X hr hu hk hc;exact⟨v,by simp only[a4k,e1,asAddr,Sem.run_bind,Sem.run_pure,Result.andThen_ok,e2],e3⟩
  obtain⟨v,dO,cL⟩:=this;refine⟨v::vs,by simp[List.mapM_cons,dO,hv],by simp[hl],λi c' hi=>?_⟩
  rcases i with _|i
  .simp at hi;subst hi;exact cL
  .exact ba i c' (U hi)
 | [],_::_,h=>h.elim
 |_::_,[],h=>h.elim
theorem o9{fn:Func}{rs:List ResultVar}(aX:fn.results=rs.toArray)(h:b9A C E σ rs cs)(hn:cs.length≠1):V1 C E σ fn (.tup cs):=λM w a hr hh=>by
 obtain⟨vs,h1,h2,h3⟩:=b4p (C:=C) hr hh rs cs h;refine⟨.tuple vs.toArray,?_,.tup (by simp[h2]) (λi c hi=>by simpa using h3 i c hi)⟩;have:(results fn a.tmps).run C.P w=((rs.toArray.mapM (a4k a.tmps)).run C.P w).andThen λvs w=>.ok (if h:vs.size=1 then vs[0]else .tuple vs) w:=by
  unfold results;rw[aX,Sem.run_bind];rfl
 rw[this,List.mapM_toArray,Sem.run_map,h1];simp only[Result.andThen_ok];rw[dif_neg G5]
theorem B7{fn:Func}{r:ResultVar}(aX:fn.results = #[r])(h:d6U C E σ r c):V1 C E σ fn c:=λM w a hr hh=>by
 obtain⟨vs,h1,h2,h3⟩:=b4p (C:=C) hr hh [r] [c] ⟨h,O⟩;obtain⟨v,rfl⟩:∃v,vs=[v]:=by
  match vs,h2 with
  | [v],_=>exact⟨v,G⟩
 refine⟨v,?_,by simpa using h3 0 c G⟩;have:(results fn a.tmps).run C.P w=((#[r].mapM (a4k a.tmps)).run C.P w).andThen λvs w=>.ok (if h:vs.size=1 then vs[0]else .tuple vs) w:=by
  unfold results;rw[aX,Sem.run_bind];rfl
 have e:(#[r].mapM (a4k a.tmps))=([r].toArray.mapM (a4k a.tmps)):=G;rw[this,e,List.mapM_toArray,Sem.run_map,h1];simp
def A5.settle(M:A5)(b:Nat):A5:={M with full:=λx=>M.full x\/x=b}
theorem Rel.allocFull(hr:Rel C M σ w)(ob:Obj):Ext M w (M.settle w.heap.size) (w.alloc ob)/\Rel C (M.settle w.heap.size) σ (w.alloc ob):=by
 have hx:Ext M w (M.settle w.heap.size) (w.alloc ob):=⟨⟨[],by simp[A5.settle]⟩,λ_ h=>.inl h,λ_ _ h=>.inr h,λb h=>J0 w ob (hr.blk b 0 (.inl h)),λb o' h=>L1 (J0 w ob (hr.blk b o' (.inr h))),by rw[b8G];omega,R4,G,G,G,λb h=>⟨h,J0 w ob (hr.kep b h),λf=>(by
  rcases f with f|f
  .exact f
  .have:=hr.kep b h;omega),λ_ f=>f⟩⟩
 refine⟨hx,hr.len,λb o' ha=>?_,λk p x hk hs=>?_,hr.inj,λg cells hg=>(hr.glob g cells hg).mono hx,λb h=>(by rw[b8G];have:=hr.kep b h;omega),hr.nk⟩
 .rw [b8G]
  rcases ha with(ha|ha)|ha
  .have:=hr.blk b o' (.inl ha);omega
  .omega
  .have:=hr.blk b o' (.inr ha);omega
 .obtain ⟨h1,h2⟩:=hr.obj k p x hk hs;by_cases hl:x.live=true
  .have ai:=h1.lt hl;refine⟨h1.mono hx (J0 w ob ai) (λ_ _ _ _ h=>h),?_⟩;have hf:¬M.full p.block->¬(M.settle w.heap.size).full p.block:=λh h'=>by
    rcases h' with h'|h'
    .exact h h'
    .omega
   cases x<;>first|trivial|exact hf h2|exact⟨hf h2.1,h2.2⟩
  .cases x<;>first|exact⟨O,O⟩|simp[b9.live]at hl
def a3C(place:Nat->Option (Nat×Nat))(cells:List CV):List (Nat×CV)->Option (List CV)
 | []=>some cells
 |(i,c)::rest=>
  match place i with
  |none=>none
  |some (off,size)=>if c.cells.length=size/\off+size<=cells.length then a3C place (M6 cells off c.cells) rest else none
theorem a8g{M:A5}{w:World}{place:Nat->Option (Nat×Nat)}:∀(ps:List (Nat×CV)) (qs:List (Nat×Value)) (cells:List CV) (arr:Array Value) (aq:List CV),
 a3C place cells ps=some aq->ps.map (·.1)=qs.map (·.1)->(∀(i:Nat) (x:Nat×CV) (y:Nat×Value),ps[i]?=some x->qs[i]?=some y->RV M w x.2 y.2/\(x.2.one=true\/∃cs,x.2 = .agg cs)) ->
 arr.size=cells.length->(∀c∈cells,c.one=true)->(∀(i:Nat) (c:CV),cells[i]?=some c->RV M w c (arr.getD i undef)) ->
 ∃r,Instr.fill place arr qs=some r/\RV M w (.agg aq) (.agg r)
 | [],[],cells,arr,aq,h,_,_,h2,h3,h4=>by
  simp only[a3C,Option.some.injEq]at h;subst h;exact⟨arr,G,.agg h2 h3 h4⟩
 | [],q::qs,_,_,_,_,h,_,_,_,_=>by simp at h
 |p::ps,[],_,_,_,_,h,_,_,_,_=>by simp at h
 |(i,c)::ps,(i',v)::qs,cells,arr,aq,h,hm,ba,h2,h3,h4=>by
  simp only[a8C,List.cons.injEq]at hm;obtain⟨rfl,hm⟩:=hm;simp only[a3C]at h;cases hp:place i with
  |none=>rw[hp]at h;cases h
  |some x=>
   obtain⟨off,size⟩:=x;rw[hp]at h;simp only at h;split at h
   .rename_i hc;obtain⟨cK,fj⟩:=hc;obtain⟨hv,aQ⟩:=ba 0 (i,c) (i,v) G G;obtain⟨g1,g2,g3⟩:=hv.cells aQ;have g1:v.cells.size=c.cells.length:=g1;have aP:off+c.cells.length<=cells.length:=by omega
    have iu:(v.cells.zipIdx.foldl (λcs (x:Value×Nat)=>cs.setIfInBounds (off+x.2) x.1) arr)=C6 arr off v.cells.toList:=by
     rw[<- Array.foldl_toList,Array.toList_zipIdx,a42];rfl
    have ih:=a8g ps qs (M6 cells off c.cells) (C6 arr off v.cells.toList) aq h hm (λj x y hx hy=>ba (j+1) x y (U hx) (U hy)) (by rw[H4,a0i aP,h2])
     (λc' bA=>by
      rcases a2w bA with h'|h'
      .exact g2 _ h'
      .exact h3 _ h')
     (λj c' hj=>by
      rw[K3 _ _ _ _ G5];rw[a2r aP]at hj;simp only[a9A,g1];split at hj
      .rename_i bW;rw[W bW];have:=g3 _ _ hj;simpa using this
      .rename_i bW;rw[H bW];exact h4 _ _ hj)
    obtain⟨r,aR,bk⟩:=ih;refine⟨r,?_,bk⟩;simp only[Instr.fill,hp];rw[H G5];exact(n_7 (λz=>Instr.fill place z qs) iu).trans aR
   .cases h
theorem a4q{α:Type}{s:Nat}:∀(aa:List (List α)),(∀r∈aa,r.length=s)->∀(i j:Nat) (r:List α) (c:α),aa[i]?=some r->r[j]?=some c->aa.flatten[i*s+j]?=some c
 | [],_,i,j,r,c,h,_=>by simp at h
 |r0::aa,hs,i,j,r,c,hi,hj=>by
  have h0:=hs r0 Q;rw[List.flatten_cons,a6m]
  rcases i with _|i
  .simp at hi;subst hi;have:=(n_2.1 hj).1;rw[W J];simpa using hj
  .simp at hi;have hr:=hs r (by simp[n_3 hi]);have ai:=(n_2.1 hj).1;rw[H (by rw[h0,P9];omega)];have:=a4q aa (λr hr=>hs r (by simp[hr])) i j r c hi hj;rw[h0,show(i+1)*s+j-s=i*s+j from by rw[P9];omega];exact this
theorem flat_len{α:Type}{s:Nat}:∀(aa:List (List α)),(∀r∈aa,r.length=s)->aa.flatten.length=aa.length*s
 | [],_=>by simp
 |r0::aa,hs=>by
  have h0:=hs r0 Q;rw[List.flatten_cons,n_9,flat_len aa (λr hr=>hs r (by simp[hr])),h0,J5,P9];omega
theorem b5j{len:Nat}(ho:o.op = .buildSlice t len parts)(hv:E.valids (parts.toList.map (·.2)))
 (hu:∀w,(underlying t).run C.P w= .ok (.slice e) w)(hs:∀w,(sizeOf e).run C.P w= .ok s w)(hz:∀w,(zeroValue e).run C.P w= .ok z w)(bQ:I2 z=true)(ci:(G2 z).one=true\/∃cs,G2 z= .agg cs)(fu:(G2 z).cells.length=s)(dW:0<s)
 (ao:len*s<=2^24)(ep:parts.toList.map (λx=>(x.1,E.val C x.2))=ps)(aQ:∀x∈ps,x.2.one=true\/∃cs,x.2 = .agg cs)
 (bq:a3C (λi=>some (i*s,s)) ((List.range (len*s)).map λi=>(G2 z).cells.getD (i%s) default) ps=some aa.flatten)(cZ:aa.length=len)(aX:∀r∈aa,r.length=s):j4 C σ E o (.list aa true none):=λM w ρ hr h=>by
 have gL:RV M w (G2 z) z:=a0m bQ;obtain⟨g1,g2,g3⟩:=gL.cells ci;have bw:∀x∈parts.toList,x.2∈o.op.operands:=λx hx=>by
  rw[ho];simp only[Op.operands,List.mem_toArray,D8];exact⟨x,hx,G⟩
 have bI:=Env.valids_mem hv;obtain⟨r,aR,bk⟩:=a8g (M:=M) (w:=w) ps (parts.toList.map λx=>(x.1,ρ x.2)) ((List.range (len*s)).map λi=>(G2 z).cells.getD (i%s) default) ((Array.range (len*s)).map (z.cells[·%z.cells.size]!)) aa.flatten bq (by simp[<- ep]) (λi x y hx hy=>by
  refine⟨?_,aQ x (n_3 hx)⟩;subst ep;simp only[N6,M8]at hx hy;obtain⟨a,ha,rfl⟩:=hx;obtain⟨a',cA,rfl⟩:=hy;have:a=a':=by rw[ha]at cA;injection cA
  subst this;have hm:=n_3 ha;exact h _ (bw _ hm) (bI _ (D8.2 ⟨_,hm,G⟩))) Q (λc hc=>by
   obtain⟨i,_,rfl⟩:=D8.1 hc;have ai:i%s< (G2 z).cells.length:=by rw[fu];exact a63 _ dW
   rw[b4D,a2o ai];exact g2 _ (b26 ai)) (λi c hi=>by
   rw[N6,M8]at hi;obtain⟨i',bd,rfl⟩:=hi;have bt:=(n_2.1 bd).1;simp at bt;rw[List.getElem?_range bt]at bd;injection bd with bd
   subst bd;have ai:i%s< (G2 z).cells.length:=by rw[fu];exact a63 _ dW
   have hlt2:i%s<z.cells.size:=by rw[g1];exact ai
   have:=g3 (i%s) _ (a2o ai);have e1:(G2 z).cells.getD (i%s) default=(G2 z).cells[i%s]:=by
    rw[b4D,a2o ai];rfl
   rw[e1];have e2:((Array.range (len*s)).map (z.cells[·%z.cells.size]!)).getD i undef=z.cells.getD (i%s) undef:=by
    have bp:z.cells.size=s:=by rw[g1,fu]
    have hms:i%s<s:=a63 _ dW;simp[bt,bp,hms]
   rw[e2];exact this)
 cases bk with
 |agg q1 q2 q3=>
  obtain⟨hx,eL⟩:=hr.allocFull (.cells r e);have az:(execOp ρ o).run C.P w= .ok (.value (.slice (some ⟨w.heap.size,0,none⟩) len len)) (w.alloc (.cells r e)):=by
   have hl:(parts.map λx=>(x.1,ρ x.2)).toList=parts.toList.map λx=>(x.1,ρ x.2):=by simp
   simp only[execOp,ho,Instr.buildSlice,Sem.run_bind,hu,Result.andThen_ok,hs];rw[H J];simp only[hl];by_cases fY:len*s=0
   .have er:Array.range 0= #[]:=G;rw[fY,er]at aR;simp only[List.map_toArray,List.map_nil]at aR;simp[fY,er,aR,newRow]
   .simp [fY,hz,aR,newRow]
  rw[az];have bH:aa.length<=maxLen:=by
   have:len<=len*s:=Nat.le_mul_of_pos_right _ dW;unfold maxLen;omega
  refine⟨.list aa true none,σ,_,hx,eL,?_,G,G⟩;rw[<- cZ];have hflen:=flat_len aa aX;refine .list (b:=w.heap.size) (off:=0) (s:=s) (λi j=>r.getD (i*s+j) undef) (n_6 _) bH G (λh=>by cases h) V9 aX (λr0 bM c hc=>q2 c (List.mem_flatten.2 ⟨r0,bM,hc⟩)) (λi j r0 c hi hj=>?_) (λi j r0 c hi hj=>?_) (λk hk=>by cases hk)
  .have hf:=a4q aa aX i j r0 c hi hj;have ai:=(n_2.1 hf).1;have bt:i*s+j<r.size:=by omega
   refine⟨.inl (.inr G),?_⟩;rw[P4,World.cell?_alloc_new];simp[bt]
  .exact (q3 _ _ (a4q aa aX i j r0 c hi hj)).mono hx
def a0C(C:Ctx)(E:Env)(x:Option Operand)(d:Nat)(n:Nat):Prop:=
 match x with
 |none=>d=n
 |some x=>E.valid x/\∃k i,E.val C x= .val (.int k i)/\0<=i/\i.toNat=n
theorem d5w{lo hi:Option Operand}{tok:Option Nat}{l h:Nat}(ho:o.op = .slice t x lo hi none)(hx:E.valid x)(ex:E.val C x= .list aa nn tok)
 (hu:∀w,(underlying t).run C.P w= .ok (.slice e) w)(hs:∀w,(sizeOf e).run C.P w= .ok s w)(aX:∀r∈aa,r.length=s)(gp:a0C C E lo 0 l)(gM:a0C C E hi aa.length h)(h1:l<=h)(h2:h<=aa.length):j4 C σ E o (.list ((aa.take h).drop l) nn none):=
 i8 λM w ρ hr hh=>by
  have aD:=hh x r7 hx;rw[ex]at aD;obtain⟨a,cap,b,off,s',vals,hv,bH,aN,fx,dX,ha,cZ,aQ,hc,ba,_⟩:=aD.list_inv;have iy:∀v,lo=some v->∃k i,ρ v= .int k i/\0<=i/\i.toNat=l:=λv hv=>by
   subst hv;obtain⟨bI,k,i,he,h0,hi⟩:=gp;have:=hh v r7 bI;rw[he]at this;exact⟨k,i,r6 this,h0,hi⟩
  have fy:∀v,hi=some v->∃k i,ρ v= .int k i/\0<=i/\i.toNat=h:=λv hv=>by
   subst hv;obtain⟨bI,k,i,he,h0,hi⟩:=gM;have:=hh v r7 bI;rw[he]at this;exact⟨k,i,r6 this,h0,hi⟩
  have hb:(Instr.sliceBounds true aa.length cap (lo.map ρ) (hi.map ρ) none).run C.P w= .ok (l,h,cap) w:=by
   have dE:(l:Int)<=h:=by omega
   have hh2:(h:Int)<=cap:=by omega
   cases lo with
   |none=>
    have:l=0:=by simpa[a0C]using gp.symm
    subst this;cases hi with
    |none=>
     have:h=aa.length:=by simpa[a0C]using gM.symm
     subst this;simp[Instr.sliceBounds]
    |some v=>
     obtain⟨k,i,he,h0,hi⟩:=fy v G;have:i<=(cap:Int):=by omega
     simp[Instr.sliceBounds,Instr.sliceBound,he,asIntOf,h0,this,hi]
   |some Jj=>
    obtain⟨k',i',fz,iz,bd⟩:=iy Jj G;have aT:i'<=(h:Int):=by omega
    cases hi with
    |none=>
     have:h=aa.length:=by simpa[a0C]using gM.symm
     subst this;simp[Instr.sliceBounds,Instr.sliceBound,fz,asIntOf,iz,aT,bd]
    |some v=>
     obtain⟨k,i,he,h0,hi⟩:=fy v G;have bA:i<=(cap:Int):=by omega
     simp[Instr.sliceBounds,Instr.sliceBound,he,fz,asIntOf,h0,iz,bA,hi,aT,bd]
  have az:(execOp ρ o).run C.P w= .ok (.value (.slice (if cap=l then a else a.map (·.add (l*s))) (h-l) (cap-l))) w:=by
   simp[execOp,ho,Instr.sliceAt,Instr.slice,hu,hv,hb,hs]
  have ao:((aa.take h).drop l).length=h-l:=by simp;omega
  refine⟨_,az,?_⟩;rw[<- ao];have ax:∀i r,((aa.take h).drop l)[i]?=some r->aa[l+i]?=some r:=λi r hi=>by
   rw[a7O,a38]at hi;split at hi
   .exact hi
   .cases hi
  refine .list (b:=b) (off:=off+l*s) (s:=s) (λi j=>vals (l+i) j) (by rw[ao];omega) J ?_ (λh0=>by have:=dX h0;omega) (λaB=>?_) (λr hr=>aX r (a6B (a8G hr))) (λr hr c hc=>aQ r (a6B (a8G hr)) c hc) (λi j r c hi hj=>?_) (λi j r c hi hj=>ba _ _ _ _ (ax i r hi) hj) (λk hk=>by cases hk)
  .split
   .exact fx
   .rw [Option.isSome_map];exact fx
  .have hne':aa≠[]:=by rintro rfl;simp at aB
   have ai:l<h:=by
    rcases a3d l h with h'|h'
    .exact h'
    .exact absurd (c1t (by rw[ao];omega)) aB
   rw[H J,ha hne'];simp[V0]
  .have bd:=ax i r hi;have iq:s'=s:=by
    have hm:=n_3 bd;rw[<- cZ r hm,aX r hm]
   subst iq;have:=hc _ _ _ _ bd hj;rw[show off+l*s'+i*s'+j=off+(l+i)*s'+j from by rw[P9];omega];exact this
end
def Src(C:Ctx)(M:A5)(w:World)(aa:List (List CV))(s:Nat)(v:Value):Prop:=
 ∃a c,v= .slice a aa.length c/\aa.length<=c/\(∀r∈aa,r.length=s) /\
  ∃arr:Array Value,(Builtin.firstCells s aa.length v).run C.P w= .ok arr w/\arr.size=aa.length*s /\
   ∀(i j:Nat) (r:List CV) (c:CV),aa[i]?=some r->r[j]?=some c->RV M w c (arr.getD (i*s+j) undef)/\c.one=true
theorem b9O(hj:j<s):(i*s+j) / s=i/\(i*s+j)%s=j:=by
 have hs:0<s:=by omega
 refine⟨?_,?_⟩
 .rw [Nat.add_comm,Nat.add_mul_div_right _ _ hs,Nat.div_eq_of_lt hj,P4]
 .rw [Nat.add_comm,Nat.add_mul_mod_self_right,c3U hj]
theorem Src.one(aX:∀r∈aa,r.length=s)(aP:arr.size=aa.length*s)
 (h:∀(i j:Nat) (r:List CV) (c:CV),aa[i]?=some r->r[j]?=some c->RV M w c (arr.getD (i*s+j) undef)/\c.one=true):∀Jj∈arr.toList,Jj.oneCell'=true:=by
 intro Jj hu;obtain⟨q,hq,rfl⟩:=List.mem_iff_getElem.1 hu;have dN:q<aa.length*s:=by simpa[aP]using hq
 have hs:0<s:=by
  rcases b9x s with h0|h0
  .subst h0;simp at dN
  .exact h0
 have hi:q / s<aa.length:=Nat.div_lt_of_lt_mul (by rwa[Nat.mul_comm]at dN);have hj:q%s<s:=a63 _ hs;have hr:aa[q / s]?=some aa[q / s]:=by simp[hi]
 have cB:q%s< (aa[q / s]).length:=by rw[aX _ (b26 hi)];exact hj
 obtain⟨h1,h2⟩:=h (q / s) (q%s) _ _ hr (a2o cB);have hqq:q / s*s+q%s=q:=by rw[Nat.mul_comm];exact Nat.div_add_mod q s
 rw[hqq]at h1;have:=h1.one h2;have gN:q<arr.size:=by omega
 simpa[gN]using this
section
theorem a7n(f:Nat->Nat->Value)(h:∀i j,i<n->j<s->w.cell? ⟨b,off+i*s+j,none⟩=some (f i j)):
 (loadCells ⟨b,off,none⟩ (n*s)).run C.P w= .ok ((List.range (n*s)).map λq=>f (q / s) (q%s)).toArray w:=
 Q3 (λq=>f (q / s) (q%s)) (n*s) λq hq=>by
  have hs:0<s:=by
   rcases b9x s with h0|h0
   .subst h0;simp at hq
   .exact h0
  have:=h (q / s) (q%s) (Nat.div_lt_of_lt_mul (by rwa[Nat.mul_comm]at hq)) (a63 _ hs);rwa[b2b,show q / s*s+q%s=q from by rw[Nat.mul_comm];exact Nat.div_add_mod q s]at this
theorem a1f{tok:Option Nat}(h:RV M w (.list aa nn tok) v)(aX:∀r∈aa,r.length=s):Src C M w aa s v:=by
 obtain⟨a,cap,b,off,s',vals,rfl,bH,aN,fx,dX,ha,cZ,aQ,hc,ba,_⟩:=h.list_inv;refine⟨a,cap,G,bH,aX,?_⟩
 rcases aa with _|⟨r0,aa⟩
 .refine ⟨#[],?_,Q,Q⟩;cases a with
  |none=>simp[Builtin.firstCells]
  |some a=>simp[Builtin.firstCells,loadCells,loadCellsFrom]
 .have iq:s'=s:=by rw[<- cZ r0 Q,aX r0 Q]
  subst iq;rw[ha Q];generalize hrows:r0::aa=rs at*;have aZ:∀i j,i<rs.length->j<s'->w.cell? ⟨b,off+i*s'+j,none⟩=some (vals i j):=λi j hi hj=>by
   have hr:rs[i]?=some rs[i]:=by simp[hi]
   have hl:j<rs[i].length:=by rw[aX _ (b26 hi)];exact hj
   exact(hc i j _ _ hr (a2o hl)).2
  refine⟨_,by simp only[Builtin.firstCells];exact a7n vals aZ,Q,λi j r c hi hj=>⟨?_,aQ r (n_3 hi) c (n_3 hj)⟩⟩;have bX:=(n_2.1 hi).1;have cB:j<s':=by have:=(n_2.1 hj).1;rwa[aX r (n_3 hi)]at this
  have hq:i*s'+j<rs.length*s':=by
   have:(i+1)*s'<=rs.length*s':=X4 _ bX;rw[P9]at this;omega
  obtain⟨e1,e2⟩:=b9O (i:=i) cB;have:((List.range (rs.length*s')).map λq=>vals (q / s') (q%s')).toArray.getD (i*s'+j) undef=vals i j:=by simp[hq,e1,e2]
  rw[this];exact ba i j r c hi hj
theorem a3E{len:Nat}(hr:Rel C M σ w)(h:RV M w (.vec k off len) v)(hk:σ[k]?=some (.vec s aa))(hl:off+len<=aa.length):Src C M w ((aa.drop off).take len) s v:=by
 cases h with
 |vec hp h1 h2 h3=>
  rename_i p a;obtain⟨⟨rfl,q1,q2,q3,q4,arr,ty,q5,q6,q7⟩,_⟩:=hr.obj k p _ hp hk;have ao:((aa.drop off).take len).length=len:=by simp;omega
  refine⟨some a,p.cap -off,by rw[ao],by rw[ao];omega,λr hr=>q3 r (a8G (a6B hr)),?_⟩;rw[ao];have ax:∀i r,((aa.drop off).take len)[i]?=some r->i<len/\aa[off+i]?=some r:=λi r hi=>by
   rw[a38]at hi;split at hi
   .rw [a7O]at hi;exact⟨‹_›,hi⟩
   .cases hi
  rcases b9x len with h0|h0
  .subst h0;exact⟨#[],by simp[Builtin.firstCells,loadCells,loadCellsFrom],Q,λi j r c hi _=>by have:=(ax i r hi).1;omega⟩
  .rw [h3 J];have aZ:∀i j,i<len->j<p.size->w.cell? ⟨p.block,off*p.size+i*p.size+j,none⟩=some (arr.getD ((off+i)*p.size+j) undef):=λi j hi hj=>by
    have hq:(off+i)*p.size+j<arr.size:=by
     rw[q6];have:(off+i+1)*p.size<=p.cap*p.size:=X4 _ J;rw[P9 (off+i)]at this;omega
    rw[show off*p.size+i*p.size+j=(off+i)*p.size+j from by rw[P9 off]];simp[World.cell?,q5,hq]
   refine⟨_,by simp only[Builtin.firstCells];exact a7n _ aZ,Q,λi j r c hi hj=>?_⟩;obtain⟨bX,bd⟩:=ax i r hi;have bw:=n_3 bd;refine⟨?_,q4 r bw c (n_3 hj)⟩;have cB:j<p.size:=by have:=(n_2.1 hj).1;rwa[q3 r bw]at this
   have hq:i*p.size+j<len*p.size:=by
    have:(i+1)*p.size<=len*p.size:=X4 _ bX;rw[P9]at this;omega
   obtain⟨e1,e2⟩:=b9O (i:=i) cB;have:((List.range (len*p.size)).map λq=>arr.getD ((off+q / p.size)*p.size+q%p.size) undef).toArray.getD (i*p.size+j) undef=arr.getD ((off+i)*p.size+j) undef:=by simp[hq,e1,e2]
   rw[this];exact q7 _ _ _ _ bd hj
def G9(aa:List (List CV))(p:Nat)(new:List (List CV)):List (List CV):=aa.take p++(new++aa.drop (p+new.length))
theorem b7F{p:Nat}(hp:p<=aa.length)(i:Nat):
 (G9 aa p new)[i]?=if p<=i/\i<p+new.length then new[i-p]? else aa[i]?:=by
 unfold G9;rw[a6m];simp only[b1U,Nat.min_eq_left hp]
 split
 .rename_i h1;rw[H J,a38,W h1]
 .rename_i h1;rw[a6m]
  split
  .rename_i h2;rw[W J]
  .rename_i h2;rw[H J,a7O]
   congr 1;omega
theorem a8Z{p:Nat}(h:r∈G9 aa p new):r∈new\/r∈aa:=by
 simp only[G9,Q9]at h
 rcases h with h|h|h
 .exact .inr (a6B h)
 .exact .inl h
 .exact .inr (a8G h)
theorem b1p{p:Nat}(hp:p<=aa.length):(G9 aa p new).length=max aa.length (p+new.length):=by
 simp[G9];omega
theorem a3t(hr:Rel C M σ w){p:Nat}{q:Pl}(hq:M.pl[k]?=some q)(hk:σ[k]?=some (.vec s aa))(hp:p<=aa.length)(hpc:p+new.length<=q.cap)(bR:∀r∈new,r.length=s)(aP:arr.size=new.length*s)
 (ba:∀(i j:Nat) (r:List CV) (c:CV),new[i]?=some r->r[j]?=some c->RV M w c (arr.getD (i*s+j) undef)/\c.one=true):
 ∃w',(storeCells ⟨q.block,p*s,none⟩ arr.toList).run C.P w= .ok () w'/\Ext M w M w'/\Rel C M (σ.set k (.vec s (G9 aa p new))) w':=by
 obtain⟨⟨rfl,q1,q2,q3,q4,aF,ty,q5,q6,q7⟩,hf,hc⟩:=hr.obj k q _ hq hk;have du:p*q.size+arr.toList.length<=aF.size:=by
  rw[a9A,aP,q6,<- P9];exact X4 _ hpc
 have az:=N3 (P:=C.P) (b:=q.block) (off:=p*q.size) (t:=ty) arr.toList 0 aF w q5 J (Src.one bR aP ba);rw[a8c]at az;have hx:=Ext.putObj (w:=w) (.cells (C6 aF (p*q.size) arr.toList) ty (0,0)) (hr.nk k q _ hq hk G) hf hc;have hb:q.block <w.heap.size:=(a06.1 q5).1;refine⟨_,az,hx,hr.putObj (ob:=.vec q.size (G9 aa p new)) hq hk G hf hc _ ⟨G,by rw[b1p hp];omega,q2,λr hr=>?_,λr hr c hc=>?_,_,ty,World.putObj_same w _ hb,by rw[H4,q6],λi j r c hi hj=>?_⟩⟩
 .rcases a8Z hr with h|h
  .exact bR r h
  .exact q3 r h
 .rcases a8Z hr with h|h
  .obtain ⟨i,hi⟩:=J6.1 h;obtain⟨j,hj⟩:=J6.1 hc;exact(ba i j r c hi hj).2
  .exact q4 r h c hc
 .rw [K3 _ _ _ _ du];rw[b7F hp]at hi;have cZ:r.length=q.size:=by
   split at hi
   .exact bR r (n_3 hi)
   .exact q3 r (n_3 hi)
  have cB:j<q.size:=by have:=(n_2.1 hj).1;omega
  simp only[a9A,aP];split at hi
  .rename_i bW;have da:i-p<new.length:=by omega
   have e1:p*q.size<=i*q.size:=X4 _ bW.1;have e2:(i-p)*q.size=i*q.size -p*q.size:=Nat.sub_mul _ _ _;have e3:(i-p+1)*q.size<=new.length*q.size:=X4 _ da;rw[P9]at e3;rw[W J];have:=(ba (i-p) j r c hi hj).1.mono hx;rw[show i*q.size+j-p*q.size=(i-p)*q.size+j from by omega];simpa using this
  .rename_i bW;rw[H ?_]
   .exact (q7 _ _ _ _ hi hj).mono hx
   .rintro ⟨h1,h2⟩;apply bW;refine⟨?_,?_⟩
    .rcases a3d i p with h|h
     .have:(i+1)*q.size<=p*q.size:=X4 _ h;rw[P9]at this;omega
     .exact h
    .rcases a3d i (p+new.length)with h|h
     .exact h
     .have:(p+new.length)*q.size<=i*q.size:=X4 _ h;rw[P9]at this;omega
theorem Z0{ix:Operand}{len:Nat}{i:Int}(ho:o.op = .indexAddr t x ix)(hx:E.valid x)(hi:E.valid ix)(ex:E.val C x= .vec k off len)(ei:E.val C ix= .val (.int .i64 i))
 (hu:∀w,(underlying t).run C.P w= .ok (.slice e) w)(hs:∀w,(sizeOf e).run C.P w= .ok s w)(hk:σ[k]?=some (.vec s aa))(h0:0<=i)(hl:i.toNat <len):j4 C σ E o (.eptr k (off+i.toNat) 0):=
 i8 λM w ρ hr h=>by
  have h1:=h x r7 hx;have h2:=h ix r7 hi;rw[ex]at h1;rw[ei]at h2;generalize hv:ρ x=v at h1;cases h1 with
  |vec hp g1 g2 g3=>
   rename_i p a;obtain⟨⟨rfl,_⟩,_⟩:=hr.obj k p _ hp hk;have ai:i< (len:Int):=by omega
   refine⟨.pointer (some ⟨p.block,(off+i.toNat)*p.size+0,none⟩),?_,.eptr hp⟩;simp[execOp,ho,hv,r6 h2,Instr.indexAt,asIntOf,hu,hs,g3 J,h0,ai,V0,P9]
theorem b9h(hr:Rel C M σ w)(hp:M.pl[k]?=some p)(hk:σ[k]?=some (.vec s aa))(hi:aa[i]?=some r)(hc:r[off]?=some c):
 ∃v,w.cell? ⟨p.block,i*p.size+off,none⟩=some v/\RV M w c v:=by
 obtain⟨⟨rfl,q1,q2,q3,q4,arr,ty,q5,q6,q7⟩,_⟩:=hr.obj k p _ hp hk;have bX:=(n_2.1 hi).1;have cB:off<p.size:=by have:=(n_2.1 hc).1;rwa[q3 r (n_3 hi)]at this
 have hq:i*p.size+off<arr.size:=by
  rw[q6];have:(i+1)*p.size<=p.cap*p.size:=X4 _ J;rw[P9]at this;omega
 exact⟨_,by simp[World.cell?,q5,hq];rfl,by simpa[hq]using q7 i off r c hi hc⟩
theorem a1M(ho:o.op = .load t x)(hx:E.valid x)(ex:E.val C x= .eptr k i off)(ha:∀w,(isAgg t).run C.P w= .ok false w)(hk:σ[k]?=some (.vec s aa))(hi:aa[i]?=some r)(hc:r[off]?=some c):j4 C σ E o c:=
 i8 λM w ρ hr h=>by
  have h1:=h x r7 hx;rw[ex]at h1;generalize dV:ρ x=Jj at h1;cases h1 with
  |eptr hp=>
   obtain⟨v,hv,ba⟩:=b9h hr hp hk hi hc;exact⟨v,by simp[execOp,ho,dV,Instr.loadAt,Instr.sureAddr,loadVar,ha,hv],ba⟩
theorem a08(ho:o.op = .load t x)(hx:E.valid x)(ex:E.val C x= .eptr k i off)(ha:∀w,(isAgg t).run C.P w= .ok true w)(hs:∀w,(sizeOf t).run C.P w= .ok n w)(hk:σ[k]?=some (.vec s aa))(hi:aa[i]?=some r)(hl:off+n<=r.length):j4 C σ E o (.agg ((r.drop off).take n)):=
 i8 λM w ρ hr h=>by
  have h1:=h x r7 hx;rw[ex]at h1;generalize dV:ρ x=Jj at h1;cases h1 with
  |eptr hp=>
   rename_i p;have aQ:=(hr.obj k p _ hp hk).1.2.2.2.2.1;have bx:∀j,j<n->∃v,w.cell? ⟨p.block,i*p.size+off+j,none⟩=some v/\∀c,r[off+j]?=some c->RV M w c v:=λj hj=>by
    obtain⟨v,hv,ba⟩:=b9h hr hp hk hi (a2o (show off+j<r.length by omega));exact⟨v,by rw[b2b];exact hv,λc hc=>by rw[a2o (show off+j<r.length by omega)]at hc;injection hc with hc;exact hc▸ba⟩
   let f:Nat->Value:=λj=>if hj:j<n then(bx j hj).choose else undef
   have hf:∀j,j<n->w.cell? ⟨p.block,i*p.size+off+j,none⟩=some (f j)/\∀c,r[off+j]?=some c->RV M w c (f j):=λj hj=>by
    simp only[f,dif_pos hj];exact(bx j hj).choose_spec
   refine⟨.agg ((List.range n).map f).toArray,?_,.agg G5 (λc hc=>aQ r (n_3 hi) c (a8G (a6B hc))) (λj c hj=>?_)⟩
   .simp [execOp,ho,dV,Instr.loadAt,Instr.sureAddr,loadVar,ha,hs,Q3 (P:=C.P) (w:=w) f n (λj hj=>(hf j hj).1)]
   .have dj:j<n:=by
     have:=(n_2.1 hj).1;simp at this;omega
    rw[a38,W dj,a7O]at hj;have:=(hf j dj).2 c hj;simpa[dj]using this
theorem b3E(ho:o.op = .store t x y)(hx:E.valid x)(hy:E.valid y)(ex:E.val C x= .eptr k i off)(ey:E.val C y=c)(hs:∀w,(sizeOf t).run C.P w= .ok n w)
 (hc:c.one=true\/∃cs,c= .agg cs)(hk:σ[k]?=some (.vec s aa))(hi:aa[i]?=some r)(hl:c.cells.length=n)(ai:off+n<=r.length)(h:K (.ret (.val undef)) (σ.set k (.vec s (aa.set i (M6 r off c.cells))))):C5 C σ E o K:=λM w ρ hr hh=>by
 have h1:=hh x r7 hx;have h2:=hh y r7 hy;rw[ex]at h1;rw[ey]at h2;generalize hu:ρ x=Jj at h1;cases h1 with
 |eptr hp=>
  rename_i p;obtain⟨⟨rfl,q1,q2,q3,q4,arr,ty,q5,q6,q7⟩,hf,cr⟩:=hr.obj k p _ hp hk;obtain⟨g1,g2,g3⟩:=h2.cells hc;have aQ:=a2Y h2 hc;have bX:=(n_2.1 hi).1;have hrm:=n_3 hi;have cZ:r.length=p.size:=q3 r hrm;have aP:off+c.cells.length<=r.length:=by omega
  have du:i*p.size+off+(ρ y).cells.toList.length<=arr.size:=by
   rw[a9A,g1,q6];have:(i+1)*p.size<=p.cap*p.size:=X4 _ J;rw[P9]at this;omega
  have az:(execOp ρ o).run C.P w= .ok .skip (World.putObj w p.block (.cells (C6 arr (i*p.size+off) (ρ y).cells.toList) ty (0,0))):=by
   have:=N3 (P:=C.P) (b:=p.block) (off:=i*p.size+off) (t:=ty) (ρ y).cells.toList 0 arr w q5 J aQ;simp only[a8c]at this;simp[execOp,ho,hu,Instr.storeAt,Instr.sureAddr,storeVar,hs,g1,hl,this]
  rw[az];have hx:=Ext.putObj (w:=w) (.cells (C6 arr (i*p.size+off) (ρ y).cells.toList) ty (0,0)) (hr.nk k p _ hp hk G) hf cr;have hb:p.block <w.heap.size:=(a06.1 q5).1;have bw:∀r',r'∈aa.set i (M6 r off c.cells)->r'=M6 r off c.cells\/r'∈aa:=λr' bB=>by
   rcases List.mem_or_eq_of_mem_set bB with h|h
   .exact .inr h
   .exact .inl h
  refine⟨.val undef,_,M,hx,hr.putObj (ob:=.vec p.size (aa.set i (M6 r off c.cells))) hp hk G hf cr _ ⟨G,U q1,q2,λr' bB=>?_,λr' bB c' bA=>?_,_,ty,World.putObj_same w _ hb,by rw[H4,q6],λi' j r' c' bd hj=>?_⟩,.val _,h⟩
  .rcases bw r' bB with rfl|h
   .rw [a0i aP,cZ]
   .exact q3 r' h
  .rcases bw r' bB with rfl|h
   .rcases a2w bA with h'|h'
    .exact g2 _ h'
    .exact q4 r hrm _ h'
   .exact q4 r' h _ bA
  .rw [K3 _ _ _ _ du];simp only[a9A,g1];rw[a9P]at bd;split at bd
   .rename_i hii;subst hii;injection bd with bd
    subst bd;rw[a2r aP]at hj;split at hj
    .rename_i bW;rw[W J];have:=(g3 _ _ hj).mono hx;rw[show i*p.size+j- (i*p.size+off)=j-off from by omega];simpa using this
    .rename_i bW;rw[H J];exact(q7 _ _ _ _ hi hj).mono hx
   .rename_i hii;have cB:j<p.size:=by have:=(n_2.1 hj).1;rwa[q3 r' (n_3 bd)]at this
    rw[H ?_]
    .exact (q7 _ _ _ _ bd hj).mono hx
    .rintro ⟨h1,h2⟩
     rcases a3d i' i with h|h
     .have:(i'+1)*p.size<=i*p.size:=X4 _ h;rw[P9]at this;omega
     .have:(i+1)*p.size<=i'*p.size:=X4 _ J;rw[P9]at this;omega
theorem H6{lo hi:Option Operand}{len:Nat}{l h:Nat}(ho:o.op = .slice t x lo hi none)(hx:E.valid x)(ex:E.val C x= .vec k off len)
 (hu:∀w,(underlying t).run C.P w= .ok (.slice e) w)(hs:∀w,(sizeOf e).run C.P w= .ok s w)(hk:σ[k]?=some (.vec s aa))(gp:a0C C E lo 0 l)(gM:a0C C E hi len h)(h1:l<=h)(h2:off+h<=aa.length):j4 C σ E o (.vec k (off+l) (h-l)):=
 i8 λM w ρ hr hh=>by
  have aD:=hh x r7 hx;rw[ex]at aD;generalize hv:ρ x=v at aD;cases aD with
  |vec hp g1 g2 g3=>
   rename_i p a;obtain⟨⟨rfl,q1,q2,_⟩,_⟩:=hr.obj k p _ hp hk;have iy:∀v,lo=some v->∃k i,ρ v= .int k i/\0<=i/\i.toNat=l:=λv hv=>by
    subst hv;obtain⟨bI,k,i,he,h0,hi⟩:=gp;have:=hh v r7 bI;rw[he]at this;exact⟨k,i,r6 this,h0,hi⟩
   have fy:∀v,hi=some v->∃k i,ρ v= .int k i/\0<=i/\i.toNat=h:=λv hv=>by
    subst hv;obtain⟨bI,k,i,he,h0,hi⟩:=gM;have:=hh v r7 bI;rw[he]at this;exact⟨k,i,r6 this,h0,hi⟩
   have bH:h<=p.cap -off:=by omega
   have hb:(Instr.sliceBounds true len (p.cap -off) (lo.map ρ) (hi.map ρ) none).run C.P w= .ok (l,h,p.cap -off) w:=by
    have dE:(l:Int)<=h:=by omega
    have hh2:(h:Int)<=((p.cap -off:Nat):Int):=by omega
    cases lo with
    |none=>
     have:l=0:=by simpa[a0C]using gp.symm
     subst this;cases hi with
     |none=>
      have:h=len:=by simpa[a0C]using gM.symm
      subst this;simp[Instr.sliceBounds]
     |some v=>
      obtain⟨k,i,he,h0,hi⟩:=fy v G;have:i<=((p.cap -off:Nat):Int):=by omega
      simp[Instr.sliceBounds,Instr.sliceBound,he,asIntOf,h0,this,hi]
    |some Jj=>
     obtain⟨k',i',fz,iz,bd⟩:=iy Jj G;have aT:i'<=(h:Int):=by omega
     cases hi with
     |none=>
      have:h=len:=by simpa[a0C]using gM.symm
      subst this;simp[Instr.sliceBounds,Instr.sliceBound,fz,asIntOf,iz,aT,bd]
     |some v=>
      obtain⟨k,i,he,h0,hi⟩:=fy v G;have bA:i<=((p.cap -off:Nat):Int):=by omega
      simp[Instr.sliceBounds,Instr.sliceBound,he,fz,asIntOf,h0,iz,bA,hi,aT,bd]
   have az:(execOp ρ o).run C.P w= .ok (.value (.slice (if p.cap -off=l then some a else some (a.add (l*p.size))) (h-l) (p.cap -off-l))) w:=by
    simp[execOp,ho,Instr.sliceAt,Instr.slice,hu,hv,hb,hs]
   refine⟨_,az,?_⟩;by_cases he:p.cap -off=l
   .rw [W he,show p.cap -off-l=p.cap - (off+l)from by omega];exact .vec hp J g2 (λai=>by omega)
   .rw [H he,show p.cap -off-l=p.cap - (off+l)from by omega];exact .vec hp J g2 (λai=>by rw[g3 J,V0,P9])
end
def kill(σ:List b9)(tok:Option Nat):List b9:=
 match tok with
 |some k=>σ.set k .dead
 |none=>σ
def c9D(σ:List b9)(aa:List (List CV))(nn:Bool)(tok:Option Nat):Prop:=
 (aa=[]/\nn=false/\tok=none)\/(aa≠[]/\∃k,tok=some k/\σ[k]?=some (.tip aa.length))
def b5y(t0:Option TypeId)(σ:List b9)(aa:List (List CV))(nn:Bool)(tok:Option Nat):Prop:=
 (aa=[]/\nn=false/\tok=none)\/(aa≠[]/\∃k,tok=some k/\σ[k]?=some (.tipT t0 aa.length))
def A5.settleCells(M:A5)(b n:Nat):A5:={M with cell:=λx o=>M.cell x o\/(x=b/\o<n)}
section
theorem Rel.dead(hr:Rel C M σ w)(k:Nat):Rel C M (σ.set k .dead) w:=by
 have ax:∀{k':Nat} {x:b9},(σ.set k .dead)[k']?=some x->x= .dead\/σ[k']?=some x:=by
  intro k' x h;rw[a9P]at h;split at h
  .split at h
   .injection h with h;exact .inl h.symm
   .cases h
  .exact .inr h
 refine⟨by simp[hr.len],hr.blk,λk' p x hp hx=>?_,λk1 k2 p1 p2 x1 x2 h1 h2 bP aK dD dE hb=>?_,hr.glob,hr.kep,λk' p x hp aD cm=>?_⟩
 .rcases ax hx with rfl|h
  .exact ⟨O,O⟩
  .exact hr.obj k' p x hp h
 .rcases ax bP with rfl|dP
  .cases dD
  .rcases ax aK with rfl|dl
   .cases dE
   .exact hr.inj k1 k2 p1 p2 x1 x2 h1 h2 dP dl dD dE hb
 .rcases ax aD with rfl|h'
  .cases cm
  .exact hr.nk k' p x hp h' cm
theorem Rel.kill{M:A5}{w:World}(hr:Rel C M σ w)(tok:Option Nat):Rel C M (kill σ tok) w:=by
 cases tok with
 |none=>exact hr
 |some k=>exact hr.dead k
theorem b6k(σ:List b9)(tok:Option Nat):(kill σ tok).length=σ.length:=by
 cases tok<;>simp[Go.Cl.kill]
theorem Rel.settleCells(hr:Rel C M σ w)(hp:M.pl[k]?=some p)(hk:σ[k]?=some (.tipT t0 n)):Ext M w (M.settleCells p.block (n*p.size)) w/\Rel C (M.settleCells p.block (n*p.size)) σ w:=by
 have hx:Ext M w (M.settleCells p.block (n*p.size)) w:=⟨⟨[],by simp[A5.settleCells]⟩,λ_ h=>h,λ_ _ h=>.inr (.inl h),λ_ _=>G,λ_ _ _=>G,n_6 _,R4,G,G,G,λb h=>⟨h,G,id,λo f=>(by
  rcases f with f|⟨rfl,_⟩
  .exact f
  .exact absurd h (hr.nk k p _ hp hk G))⟩⟩
 have ai:=(hr.obj k p _ hp hk).1.lt G;refine⟨hx,hr.len,λb o' ha=>?_,λk' p' x aI aD=>?_,hr.inj,λg cells hg=>(hr.glob g cells hg).mono hx,hr.kep,hr.nk⟩
 .rcases ha with ha|ha|⟨rfl,_⟩
  .exact hr.blk b o' (.inl ha)
  .exact hr.blk b o' (.inr ha)
  .exact ai
 .obtain ⟨h1,h2⟩:=hr.obj k' p' x aI aD;by_cases hl:x.live=true
  .by_cases ia:k'=k
   .subst ia;have aI:M.pl[k']?=some p':=aI;rw[hp]at aI;injection aI with aI
    subst aI;rw[hk]at aD;injection aD with aD
    subst aD;obtain⟨q1,q2,q3,q4⟩:=h1;refine⟨⟨q1,q2,⟨λo ho=>?_,q3.2⟩,q4⟩,h2⟩
    rcases ho with ho|⟨_,ho⟩
    .exact q3.1 o ho
    .exact ho
   .have aB:p'.block≠p.block:=λe=>ia (hr.inj k' k p' p x _ aI hp aD hk hl G e);refine⟨h1.mono hx G (λ_ _ _ o ho=>?_),?_⟩
    .rcases ho with ho|⟨ho,_⟩
     .exact ho
     .exact absurd ho aB
    .have hc:(∀o,¬M.cell p'.block o)->∀o,¬(M.settleCells p.block (n*p.size)).cell p'.block o:=λh o ho=>by
      rcases ho with ho|⟨ho,_⟩
      .exact h o ho
      .exact aB ho
     cases x<;>first|trivial|exact h2|exact⟨h2.1,hc h2.2⟩
  .cases x<;>first|exact⟨O,O⟩|simp[b9.live]at hl
theorem Rel.drewN(hr:Rel C M σ w):Rel C M σ w.drew/\Ext M w M w.drew:=hr.drew
theorem Y3{c:Nat}{x:Value}(hu:∀w,(underlying t).run P w= .ok (.slice e) w)(fA:(∀w,(underlying t2).run P w= .ok (.slice e) w)\/∀w,(underlying t2).run P w= .ok .string w)(hs:∀w,(sizeOf e).run P w= .ok s w)
 (ao:∀w,(Builtin.lenOf x).run P w= .ok m w)(dF:(Builtin.firstCells s m x).run P w= .ok arr w)(fB:n+m<=c)(aG:(storeCells ⟨b,off+n*s,none⟩ arr.toList).run P w= .ok () w'):
 (Builtin.append_ #[t,t2] ty #[.slice (some ⟨b,off,none⟩) n c,x]).run P w= .ok (.slice (some ⟨b,off,none⟩) (n+m) c) w':=by
 rcases fA with fA|fA <;>
 simp[Builtin.append_,hu,fA,hs,ao,dF,fB,V0,aG]
theorem Q1{c:Nat}{a:Option Addr}{x:Value}{old:Array Value}{ti:TypeInfo}(hu:∀w,(underlying t).run P w= .ok (.slice e) w)(fA:(∀w,(underlying t2).run P w= .ok (.slice e) w)\/∀w,(underlying t2).run P w= .ok .string w)(hs:∀w,(sizeOf e).run P w= .ok s w)(cg:∀w,(typeInfo e).run P w= .ok ti w)(hz:∀w,(zeroValue e).run P w= .ok z w)
 (ao:∀w,(Builtin.lenOf x).run P w= .ok m w)(bN:(Builtin.firstCells s n (.slice a n c)).run P w.drew = .ok old w.drew)(dF:(Builtin.firstCells s m x).run P w.drew = .ok arr w.drew)(fB:c<n+m)(aN:n+m<=9223372036854775807)(hb:(n+m)*ti.bytes<=140737488355328):
 ∃c',n+m<=c'/\c'<=9223372036854775807/\(Builtin.append_ #[t,t2] ty #[.slice a n c,x]).run P w= .ok (.slice (some ⟨w.heap.size,0,none⟩) (n+m) c') (w.drew.alloc (.cells (old++arr++Builtin.zeroCells z.cells (c'- (n+m))) e)):=by
 have hg:=growslice_fits fB hb;refine⟨(Question.appendCap (n+m) c e).cut (w.tape w.drawn (.appendCap (n+m) c e)),?_,?_,?_⟩
 .simp [Question.cut]
 .simp only[Question.cut];have:w.tape w.drawn (.appendCap (n+m) c e)%(2^63- (n+m))<2^63- (n+m):=a63 _ J;omega
 .have h1:¬(n+m<=c):=by omega
  have h2:¬IntKind.i64.max < (n:Int)+(m:Int):=by
   have:IntKind.i64.max=9223372036854775807:=by decide
   omega
  have h3:¬(281474976710656<Builtin.nextslicecap (n+m) c*ti.bytes):=by omega
  rcases fA with fA|fA
  all_goals
   simp[Builtin.append_,hu,fA,hs,cg,hz,ao,h1,h3,Question.forced,bN,dF,newRow];intro h;have:IntKind.i64.max=9223372036854775807:=by decide
   omega
theorem a3v(h:RV M w c v):RV M w.drew c v:=by
 have hx:Ext M w M w.drew:=⟨⟨[],Q⟩,λ_ h=>h,λ_ _ h=>.inr h,λ_ _=>G,λ_ _ _=>G,n_6 _,R4,G,G,G,λ_ h=>⟨h,G,id,λ_=>id⟩⟩;exact h.mono hx
theorem Rel.tipStore(hr:Rel C M σ w){aF cur':Array Value}(hp:M.pl[k]?=some p)(hk:σ[k]?=some (.tipT t0 n))(hty:t0.getD ty=ty)(hc:w.heap[p.block]?=some (.cells aF ty (0,0)))(aP:cur'.size=aF.size)(hsame:∀o,o<n*p.size->cur'[o]?=aF[o]?):
 Ext M w M (World.putObj w p.block (.cells cur' ty (0,0)))/\Rel C M σ (World.putObj w p.block (.cells cur' ty (0,0))):=by
 obtain⟨⟨q1,q2,q3,cur0,ty0,q4,q5⟩,cM⟩:=hr.obj k _ _ hp hk;have hb:p.block <w.heap.size:=(a06.1 hc).1;have hx:Ext M w M (World.putObj w p.block (.cells cur' ty (0,0))):=by
  refine⟨⟨[],Q⟩,λ_ h=>h,λ_ _ h=>.inr h,λb' h=>World.putObj_other w _ (λe=>cM (e▸h)),λb' o' h=>?_,by rw[World.putObj_size];exact n_6 _,R4,G,G,G,λb' h=>⟨h,World.putObj_other w _ (λe=>hr.nk k p _ hp hk G (e▸h)),id,λ_=>id⟩⟩;by_cases he:p.block=b'
  .subst he;have ai:=q3.1 o' h;simp only[World.cell?,World.putObj_same w _ hb,hc,Option.isSome_none,a8l,if_false];exact hsame o' ai
  .exact L1 (World.putObj_other w _ he)
 refine⟨hx,hr.len,λb o' ha=>by rw[World.putObj_size];exact hr.blk b o' ha,λk' p' x aI aD=>?_,hr.inj,λg cells hg=>(hr.glob g cells hg).mono hx,λb h=>(by rw[World.putObj_size];exact hr.kep b h),hr.nk⟩;obtain⟨h1,h2⟩:=hr.obj k' p' x aI aD;refine⟨?_,h2⟩;by_cases hl:x.live=true
 .by_cases ia:k'=k
  .subst ia;rw[hp]at aI;injection aI with aI
   subst aI;rw[hk]at aD;injection aD with aD
   subst aD;rw[q4]at hc;injection hc with hc
   injection hc with hc _ _
   exact⟨q1,q2,q3,cur',ty,by rw[hty];exact World.putObj_same w _ hb,by rw[aP,<- hc,q5]⟩
  .have aB:p.block≠p'.block:=λe=>ia (hr.inj k' k p' p x _ aI hp aD hk hl G e.symm);exact h1.mono hx (World.putObj_other w _ aB) (λ_ _ _ _ h=>h)
 .cases x<;>first|trivial|simp[b9.live]at hl
theorem Rel.tipNew(hr:Rel C M σ w)(hp:M.pl[k]?=some p)(hk:σ[k]?=some (.tipT t0 n))(hn:n<=m)(hm:m<=p.cap):Ext M w (M.add p) w/\Rel C (M.add p) (σ.set k .dead++[.tipT t0 m]) w:=by
 obtain⟨⟨q1,q2,q3,cur0,ty0,q4,q5⟩,cM⟩:=hr.obj k _ _ hp hk;have hx:Ext M w (M.add p) w:=⟨⟨[p],G⟩,λ_ h=>h,λ_ _ h=>.inr h,λ_ _=>G,λ_ _ _=>G,n_6 _,R4,G,G,G,λ_ h=>⟨h,G,id,λ_=>id⟩⟩;have hd:=hr.dead k;have ao:(σ.set k b9.dead).length=σ.length:=by simp
 have ax:∀{j:Nat} {q:Pl},(M.add p).pl[j]?=some q->(j<σ.length/\M.pl[j]?=some q)\/(j=σ.length/\q=p):=by
  intro j q hj;simp only[A5.add,a6m,hr.len]at hj;split at hj
  .exact .inl ⟨‹_›,hj⟩
  .rename_i ai;have:j-σ.length=0:=by
    have:=(n_2.1 hj).1;simp at this;omega
   rw[this]at hj;simp at hj;exact .inr ⟨J,hj.symm⟩
 have fh:∀{j:Nat} {x:b9},(σ.set k b9.dead++[b9.tipT t0 m])[j]?=some x->(j<σ.length/\(σ.set k b9.dead)[j]?=some x)\/(j=σ.length/\x= .tipT t0 m):=by
  intro j x hj;rw[a6m]at hj;split at hj
  .exact .inl ⟨J,hj⟩
  .have:j- (σ.set k b9.dead).length=0:=by
    have:=(n_2.1 hj).1;simp at this⊢;omega
   rw[this]at hj;simp at hj;exact .inr ⟨J,hj.symm⟩
 have bi:k<σ.length:=(n_2.1 hk).1;have dG:∀{j:Nat} {q:Pl} {x:b9},M.pl[j]?=some q->(σ.set k b9.dead)[j]?=some x->x.live=true->q.block≠p.block:=by
  intro j q x hj dm hl e;have hjk:j≠k:=by
   rintro rfl;rw[b2E J]at dm;injection dm with dm
   subst dm;cases hl
  have eM:σ[j]?=some x:=by rwa[a1c (Ne.symm hjk)]at dm
  exact hjk (hr.inj j k q p x _ hj hp eM hk hl G e)
 refine⟨hx,by simp[A5.add,hr.len],λb o' ha=>hr.blk b o' ha,λj q x hj dm=>?_,λj j' q q' x x' hj dj dm eM hl bz hb=>?_,λg cells hg=>(hr.glob g cells hg).mono hx,hr.kep,λj q x hj dm cm=>?_⟩
 .rcases fh dm with⟨ai,h⟩|⟨rfl,rfl⟩
  .rcases ax hj with⟨_,hq⟩|⟨rfl,_⟩
   .obtain ⟨h1,h2⟩:=hd.obj j q x hq h;refine⟨?_,h2⟩;by_cases hl:x.live=true
    .exact h1.mono hx G (λ_ _ _ _ h=>h)
    .cases x<;>first|trivial|simp[b9.live]at hl
   .omega
  .rcases ax hj with⟨h,_⟩|⟨_,rfl⟩
   .omega
   .refine ⟨⟨hm,q2,⟨λo ho=>a9z (q3.1 o ho) (X4 _ hn),q3.2⟩,cur0,ty0,q4,q5⟩,cM⟩
 .rcases fh dm with⟨ai,h⟩|⟨rfl,rfl⟩
  .rcases ax hj with⟨_,hq⟩|⟨rfl,_⟩
   .rcases fh eM with⟨bt,h'⟩|⟨rfl,rfl⟩
    .rcases ax dj with⟨_,dN⟩|⟨rfl,_⟩
     .exact hd.inj j j' q q' x x' hq dN h h' hl bz hb
     .omega
    .rcases ax dj with⟨h0,_⟩|⟨_,rfl⟩
     .omega
     .exact absurd hb (dG hq h hl)
   .omega
  .rcases ax hj with⟨h0,_⟩|⟨_,rfl⟩
   .omega
   .rcases fh eM with⟨bt,h'⟩|⟨rfl,rfl⟩
    .rcases ax dj with⟨_,dN⟩|⟨rfl,_⟩
     .exact absurd hb.symm (dG dN h' bz)
     .omega
    .rfl
 .rcases fh dm with⟨ai,h⟩|⟨rfl,rfl⟩
  .rcases ax hj with⟨_,hq⟩|⟨rfl,_⟩
   .exact hd.nk j q x hq h cm
   .omega
  .rcases ax hj with⟨h0,_⟩|⟨_,rfl⟩
   .omega
   .exact hr.nk k q _ hp hk G
theorem Src.lenOf(h:Src C M w aa s v)(w':World):(Builtin.lenOf v).run C.P w'= .ok aa.length w':=by
 obtain⟨a,c,rfl,_⟩:=h;simp[Builtin.lenOf]
def d1W(C:Ctx)(w:World)(M:A5)(aa:List (List CV))(s:Nat)(v:Value):Prop:=
 (∀w',(Builtin.lenOf v).run C.P w'= .ok aa.length w')/\(∀r∈aa,r.length=s) /\
  ∃arr:Array Value,(Builtin.firstCells s aa.length v).run C.P w= .ok arr w/\arr.size=aa.length*s /\
   ∀(i j:Nat) (r:List CV) (c:CV),aa[i]?=some r->r[j]?=some c->RV M w c (arr.getD (i*s+j) undef)/\c.one=true
theorem Src.any(h:Src C M w aa s v):d1W C w M aa s v:=by
 have hl:=h.lenOf;obtain⟨_,_,_,_,h1,h2⟩:=h;exact⟨hl,h1,h2⟩
theorem a1j{old rest:Array Value}(h1:old.size=aa.length*s)(h2:arr.size=new.length*s)(aX:∀r∈aa,r.length=s)(bR:∀r∈new,r.length=s)
 (ho:∀(i j:Nat) (r:List CV) (c:CV),aa[i]?=some r->r[j]?=some c->RV M w c (old.getD (i*s+j) undef))
 (ha:∀(i j:Nat) (r:List CV) (c:CV),new[i]?=some r->r[j]?=some c->RV M w c (arr.getD (i*s+j) undef))(i j:Nat)(r:List CV)(c:CV)(hi:(aa++new)[i]?=some r)(hj:r[j]?=some c):
 i*s+j< (old++arr++rest).size/\RV M w c ((old++arr++rest).getD (i*s+j) undef):=by
 rw[a6m]at hi;split at hi
 .rename_i ai;have cB:j<s:=by have:=(n_2.1 hj).1;rwa[aX r (n_3 hi)]at this
  have hq:i*s+j<old.size:=by
   rw[h1];have:(i+1)*s<=aa.length*s:=X4 _ ai;rw[P9]at this;omega
  refine⟨by simp;omega,?_⟩;have bS:i*s+j< (old++arr).size:=by simp;omega
  have e:(old++arr++rest).getD (i*s+j) undef=old.getD (i*s+j) undef:=by
   simp only[a0b];rw[b2Y bS,b2Y hq]
  rw[e];exact ho i j r c hi hj
 .rename_i aL;have bX:=(n_2.1 hi).1;have cB:j<s:=by have:=(n_2.1 hj).1;rwa[bR r (n_3 hi)]at this
  have e1:(i-aa.length)*s=i*s-aa.length*s:=Nat.sub_mul _ _ _;have e2:aa.length*s<=i*s:=X4 _ J;have e3:(i-aa.length+1)*s<=new.length*s:=X4 _ bX;rw[P9]at e3;refine⟨by simp;omega,?_⟩;have bS:i*s+j< (old++arr).size:=by simp;omega
  have e:(old++arr++rest).getD (i*s+j) undef=arr.getD ((i-aa.length)*s+j) undef:=by
   simp only[a0b];rw[b2Y bS,Array.getElem?_append_right J]
   congr 2;omega
  rw[e];exact ha _ j r c hi hj
theorem O9(z:Array Value)(n:Nat):(Builtin.zeroCells z n).size=n*z.size:=by simp[Builtin.zeroCells]
theorem RV.list'{tok:Option Nat}{a:Option Addr}{cap:Nat}(hL:L=aa.length)(vals:Nat->Nat->Value):
 aa.length<=cap->cap<=maxLen->a.isSome=nn->(nn=false->cap=0)->(aa≠[]->a=some ⟨b,off,none⟩) ->
 (∀r∈aa,r.length=s)->(∀r∈aa,∀c∈r,c.one=true) ->
 (∀(i j:Nat) (r:List CV) (c:CV),aa[i]?=some r->r[j]?=some c->M.at b (off+i*s+j)/\w.cell? ⟨b,off+i*s+j,none⟩=some (vals i j)) ->
 (∀(i j:Nat) (r:List CV) (c:CV),aa[i]?=some r->r[j]?=some c->RV M w c (vals i j)) ->
 (∀k,tok=some k->∃s',M.pl[k]?=some ⟨b,cap,s'⟩/\a=some ⟨b,0,none⟩/\off=0/\(aa≠[]->s'=s)) ->
 RV M w (.list aa nn tok) (.slice a L cap):=by
 subst hL;exact RV.list vals
theorem c0W{tok:Option Nat}{ti:TypeInfo}(ho:o.op = .call {callee:=.builtin .append,args:=#[x,y],argTypes:=#[t,t2]})(hx:E.valid x)(hy:E.valid y)(ex:E.val C x= .list aa nn tok)
 (aO:∀M w v,Rel C M σ w->RV M w (E.val C y) v->d1W C w M new s v)(hu:∀w,(underlying t).run C.P w= .ok (.slice e) w)(hs:∀w,(sizeOf e).run C.P w= .ok s w)(cg:∀w,(typeInfo e).run C.P w= .ok ti w)(hz:∀w,(zeroValue e).run C.P w= .ok z w)(bp:z.cells.size=s)
 (fA:(∀w,(underlying t2).run C.P w= .ok (.slice e) w)\/∀w,(underlying t2).run C.P w= .ok .string w)(ht0:t0=none\/t0=some e)(hts:t0.isSome=true->s=1)(bY:b5y t0 σ aa nn tok\/(aa=[]/\t0=some e/\∃k,tok=some k/\σ[k]?=some (.tipT t0 0)))(aX:∀r∈aa,r.length=s)(bl:new≠[])(hb:(aa.length+new.length)*ti.bytes<=140737488355328)(aN:aa.length+new.length<=9223372036854775807)
 (hk:K (.ret (.list (aa++new) true (some σ.length))) (kill σ tok++[.tipT t0 (aa.length+new.length)])):C5 C σ E o K:=λM w ρ hr hh=>by
 have h1:=hh x J9 hx;have h2:=hh y J9 hy;rw[ex]at h1;have hso:=a1f (C:=C) h1 aX;have iA:=aO M w _ hr h2;have ao:=iA.1;obtain⟨a,cap,b,off,s',vals,hv,bH,fC,fx,dX,ha,cZ,aQ,hc,ba,dv⟩:=h1.list_inv;have hnl:0<new.length:=a8E.2 bl;have bm:(execOp ρ o).run C.P w=((Builtin.append_ #[t,t2] o.type #[ρ x,ρ y]).run C.P w).andThen λv w=>.ok (.value v) w:=by
  simp[execOp,ho,resolve,invoke,builtin]
 have bT:∀r∈aa++new,r.length=s:=λr hr=>by
  rcases Q9.1 hr with h|h
  .exact aX r h
  .obtain ⟨_,bR,_⟩:=iA;exact bR r h
 have bU:(aa++new).length=aa.length+new.length:=n_9;by_cases cj:aa.length+new.length<=cap
 .
  rcases bY with(⟨rfl,rfl,rfl⟩|⟨hrne,k,rfl,gq⟩)|⟨rfl,ht0',k,rfl,gq⟩
  .have:=dX G;simp at cj;omega
  .obtain ⟨sz,hp,ha0,rfl,aP⟩:=dv k G;obtain⟨⟨q1,q2,q3,aF,ty,q4,q5⟩,cM⟩:=hr.obj k _ _ hp gq;obtain⟨fS,iB⟩:∃fS,fS=t0.getD ty:=⟨_,G⟩;rw[<- iB]at q4;have hgd:t0.getD fS=fS:=by rw[iB];cases t0<;>rfl
   simp only at q1 q2 q3 q4 q5;obtain⟨_,bR,arr,cu,aV,bf⟩:=iA;obtain⟨r0,rs,hrr⟩:∃r0 rs,aa=r0::rs:=by
    cases aa with
    |nil=>exact absurd G hrne
    |cons r0 rs=>exact⟨r0,rs,G⟩
   have bc:s'=s:=by rw[<- cZ r0 (by simp[hrr]),aX r0 (by simp[hrr])]
   have iq:sz=s:=(aP hrne).trans bc;subst iq;subst bc;have aA:arr.toList.length=arr.size:=a9A;have du:aa.length*s'+arr.toList.length<=aF.size:=by
    rw[aA,aV,q5,<- P9];exact X4 _ cj
   have aG:=N3 (P:=C.P) (b:=b) (off:=aa.length*s') (t:=fS) arr.toList 0 aF w q4 J (Src.one bR aV bf);rw[a8c]at aG;have az:(execOp ρ o).run C.P w= .ok (.value (.slice (some ⟨b,0,none⟩) (aa.length+new.length) cap)) (World.putObj w b (.cells (C6 aF (aa.length*s') arr.toList) fS (0,0))):=by
    rw[bm,hv,ha0,Y3 hu fA hs ao cu cj (by rw[P4];exact aG)];rfl
   rw[az];obtain⟨bP,aR⟩:=hr.tipStore (cur':=C6 aF (aa.length*s') arr.toList) hp gq hgd q4 (H4 _ _ _) (λo' ho'=>by
    have h0:o'<aF.size:=by
     rw[q5];exact a9z ho' (X4 _ q1)
    have h1:o'< (C6 aF (aa.length*s') arr.toList).size:=by rw[H4];exact h0
    have:=K3 arr.toList aF (aa.length*s') o' du;rw[H (by simp only at ho';omega)]at this;simp only[a0b,a1V h0,a1V h1,b8K]at this;rw[a1V h0,a1V h1,this])
   obtain⟨aK,bk⟩:=aR.tipNew (m:=aa.length+new.length) hp gq J cj;have cw:(M.add ⟨b,cap,s'⟩).pl[σ.length]?=some ⟨b,cap,s'⟩:=by simp[A5.add,<- hr.len]
   have bK:(σ.set k b9.dead++[b9.tipT t0 (aa.length+new.length)])[σ.length]?=some (.tipT t0 (aa.length+new.length)):=by simp
   obtain⟨fT,fD⟩:=bk.settleCells cw bK;have hx:=(bP.trans aK).trans fT;refine⟨_,_,_,hx,fD,?_,hk⟩;have gP:b<w.heap.size:=(a06.1 q4).1;have aZ:∀q,q<aF.size->(World.putObj w b (.cells (C6 aF (aa.length*s') arr.toList) fS (0,0))).cell? ⟨b,q,none⟩=some ((C6 aF (aa.length*s') arr.toList).getD q undef):=λq hq=>by
    have:q< (C6 aF (aa.length*s') arr.toList).size:=by rw[H4];exact hq
    simp[World.cell?,World.putObj_same w _ gP,this]
   have hq:∀i j r c,(aa++new)[i]?=some r->r[j]?=some c->i*s'+j< (aa.length+new.length)*s':=λi j r c hi hj=>by
    have bX:=(n_2.1 hi).1;rw[bU]at bX;have cB:j<s':=by have:=(n_2.1 hj).1;rwa[bT r (n_3 hi)]at this
    have:(i+1)*s'<=(aa.length+new.length)*s':=X4 _ bX;rw[P9]at this;omega
   have hqc:(aa.length+new.length)*s'<=aF.size:=by rw[q5];exact X4 _ cj
   refine RV.list' (b:=b) (off:=0) (s:=s') bU.symm (λi j=>(C6 aF (aa.length*s') arr.toList).getD (i*s'+j) undef) (by rw[bU];exact cj) q2 G (λh=>by cases h) V9 bT (λr hr c hc=>?_) (λi j r c hi hj=>⟨.inr (.inr ⟨G,by rw[P4];exact hq i j r c hi hj⟩),by rw[P4];exact aZ _ (a9z (hq i j r c hi hj) hqc)⟩) (λi j r c hi hj=>?_) (λk' aJ=>⟨s',?_,G,G,λ_=>G⟩)
   .rcases Q9.1 hr with h|h
    .exact aQ r h c hc
    .obtain ⟨i,hi⟩:=J6.1 h;obtain⟨j,hj⟩:=J6.1 hc;exact(bf i j r c hi hj).2
   .rw [K3 _ _ _ _ du];rw[a6m]at hi;split at hi
    .rename_i ai;have cB:j<s':=by have:=(n_2.1 hj).1;rwa[aX r (n_3 hi)]at this
     have hql:i*s'+j<aa.length*s':=by
      have:(i+1)*s'<=aa.length*s':=X4 _ ai;rw[P9]at this;omega
     rw[H J];have h3:=(hc i j r c hi hj).2;rw[P4]at h3;have h4:w.cell? ⟨b,i*s'+j,none⟩=some (aF.getD (i*s'+j) undef):=by
      have:i*s'+j<aF.size:=by omega
      simp[World.cell?,q4,this]
     rw[h4]at h3;injection h3 with h3
     rw[h3];exact(ba i j r c hi hj).mono hx
    .rename_i aL;have bX:=(n_2.1 hi).1;have cB:j<s':=by have:=(n_2.1 hj).1;rwa[bR r (n_3 hi)]at this
     have e1:(i-aa.length)*s'=i*s'-aa.length*s':=Nat.sub_mul _ _ _;have e2:aa.length*s'<=i*s':=X4 _ J;have e3:(i-aa.length+1)*s'<=new.length*s':=X4 _ bX;rw[P9]at e3;rw[W (by rw[aA,aV];omega)];have:=(bf _ j r c hi hj).1.mono hx;rw[show i*s'+j-aa.length*s'=(i-aa.length)*s'+j from by omega];simpa using this
   .injection aJ with aJ
    subst aJ;exact cw
  .
   obtain⟨sz,hp,ha0,rfl,_⟩:=dv k G;obtain⟨⟨q1,q2,q3,aF,ty,q4,q5⟩,cM⟩:=hr.obj k _ _ hp gq;have aP:sz=s:=(q3.2 (by rw[ht0'];rfl)).trans (hts (by rw[ht0'];rfl)).symm;obtain⟨fS,iB⟩:∃fS,fS=t0.getD ty:=⟨_,G⟩;rw[<- iB]at q4;have hgd:t0.getD fS=fS:=by rw[iB];cases t0<;>rfl
   simp only at q1 q2 q3 q4 q5;subst aP;obtain⟨_,bR,arr,cu,aV,bf⟩:=iA;have aA:arr.toList.length=arr.size:=a9A;have eJ:([]:List (List CV)).length=0:=G;rw[eJ]at cj bH hv bU hb aN hk;rw[P4]at cj hk;have du:0+arr.toList.length<=aF.size:=by
    rw[aA,aV,q5,P4];exact X4 _ cj
   have aG:=N3 (P:=C.P) (b:=b) (off:=0) (t:=fS) arr.toList 0 aF w q4 J (Src.one bR aV bf);rw[a8c]at aG;have az:(execOp ρ o).run C.P w= .ok (.value (.slice (some ⟨b,0,none⟩) new.length cap)) (World.putObj w b (.cells (C6 aF 0 arr.toList) fS (0,0))):=by
    have:=Y3 (P:=C.P) (ty:=o.type) (b:=b) (off:=0) (n:=0) (m:=new.length) (c:=cap) hu fA hs ao cu J (by rw[Nat.zero_mul];exact aG);rw[P4]at this;rw[bm,hv,ha0,this];rfl
   rw[az];obtain⟨bP,aR⟩:=hr.tipStore (cur':=C6 aF 0 arr.toList) hp gq hgd q4 (H4 _ _ _) (λo' ho'=>by simp at ho');obtain⟨aK,bk⟩:=aR.tipNew (m:=new.length) hp gq (n_4 _) cj;have cw:(M.add ⟨b,cap,sz⟩).pl[σ.length]?=some ⟨b,cap,sz⟩:=by simp[A5.add,<- hr.len]
   have bK:(σ.set k b9.dead++[b9.tipT t0 new.length])[σ.length]?=some (.tipT t0 new.length):=by simp
   obtain⟨fT,fD⟩:=bk.settleCells cw bK;have hx:=(bP.trans aK).trans fT;refine⟨_,_,_,hx,fD,?_,hk⟩;have gP:b<w.heap.size:=(a06.1 q4).1;have aZ:∀q,q<aF.size->(World.putObj w b (.cells (C6 aF 0 arr.toList) fS (0,0))).cell? ⟨b,q,none⟩=some ((C6 aF 0 arr.toList).getD q undef):=λq hq=>by
    have:q< (C6 aF 0 arr.toList).size:=by rw[H4];exact hq
    simp[World.cell?,World.putObj_same w _ gP,this]
   have hq:∀i j r c,new[i]?=some r->r[j]?=some c->i*sz+j<new.length*sz:=λi j r c hi hj=>by
    have bX:=(n_2.1 hi).1;have cB:j<sz:=by have:=(n_2.1 hj).1;rwa[bR r (n_3 hi)]at this
    have:(i+1)*sz<=new.length*sz:=X4 _ bX;rw[P9]at this;omega
   have hqc:new.length*sz<=aF.size:=by rw[q5];exact X4 _ cj
   refine RV.list' (b:=b) (off:=0) (s:=sz) G (λi j=>(C6 aF 0 arr.toList).getD (i*sz+j) undef) cj q2 G (λh=>by cases h) V9 bR (λr hr c hc=>?_) (λi j r c hi hj=>⟨.inr (.inr ⟨G,by rw[P4];exact hq i j r c hi hj⟩),by rw[P4];exact aZ _ (a9z (hq i j r c hi hj) hqc)⟩) (λi j r c hi hj=>?_) (λk' aJ=>⟨sz,?_,G,G,λ_=>G⟩)
   .obtain ⟨i,hi⟩:=J6.1 hr;obtain⟨j,hj⟩:=J6.1 hc;exact(bf i j r c hi hj).2
   .rw [K3 _ _ _ _ du];rw[W (by rw[aA,aV];have:=hq i j r c hi hj;omega)];have:=(bf i j r c hi hj).1.mono hx;simpa using this
   .injection aJ with aJ
    subst aJ;exact cw
 .
  obtain⟨dq,fZ⟩:=hr.drewN;have db:=a1f (C:=C) (a3v h1) aX;have hsn':=aO M w.drew _ dq (a3v h2);rw[hv]at db;obtain⟨a1,c1,dO,_,_,old,hfo,cy,dw⟩:=db;obtain⟨_,bR,arr,cu,aV,bf⟩:=hsn';obtain⟨c',cK,fj,az⟩:=Q1 (P:=C.P) (ty:=o.type) (a:=a) (c:=cap) (w:=w) hu fA hs cg hz ao hfo cu J aN hb;rw[bm,hv,az];simp only[Result.andThen_ok];have eO:w.drew.heap.size=w.heap.size:=G;rw[<- eO];have hrk:=dq.kill tok;have dH:=b6k σ tok;have dd:(old++arr++Builtin.zeroCells z.cells (c'- (aa.length+new.length))).size=c'*s:=by
   simp only[b3Z,O9,cy,aV,bp];rw[<- P9,<- P9]
   congr 1;omega
  have bk:=hrk.alloc ⟨w.drew.heap.size,c',s⟩ (.cells (old++arr++Builtin.zeroCells z.cells (c'- (aa.length+new.length))) e) (.tipT t0 (aa.length+new.length)) G
   ⟨cK,by unfold maxLen;simp only;omega,⟨λo' ho'=>by have:=dq.blk _ _ (.inr ho');simp only at this;omega,hts⟩,_,e,by rw[show t0.getD e=e from by rcases ht0 with h|h<;>rw[h]<;>rfl];exact x8 _ _,dd⟩
  have aK:=Ext.alloc hrk ⟨w.drew.heap.size,c',s⟩ (.cells (old++arr++Builtin.zeroCells z.cells (c'- (aa.length+new.length))) e);have cw:(M.add ⟨w.drew.heap.size,c',s⟩).pl[σ.length]?=some ⟨w.drew.heap.size,c',s⟩:=by simp[A5.add,<- hr.len]
  have bK:(kill σ tok++[b9.tipT t0 (aa.length+new.length)])[σ.length]?=some (.tipT t0 (aa.length+new.length)):=by rw[<- dH];simp
  obtain⟨fT,fD⟩:=bk.settleCells cw bK;have hx:=(fZ.trans aK).trans fT;refine⟨_,_,_,hx,fD,?_,hk⟩;have ax:=a1j (rest:=Builtin.zeroCells z.cells (c'- (aa.length+new.length))) cy aV aX bR (λi j r c hi hj=>(dw i j r c hi hj).1) (λi j r c hi hj=>(bf i j r c hi hj).1);have hq:∀i j r c,(aa++new)[i]?=some r->r[j]?=some c->i*s+j< (aa.length+new.length)*s:=λi j r c hi hj=>by
   have bX:=(n_2.1 hi).1;rw[bU]at bX;have cB:j<s:=by have:=(n_2.1 hj).1;rwa[bT r (n_3 hi)]at this
   have:(i+1)*s<=(aa.length+new.length)*s:=X4 _ bX;rw[P9]at this;omega
  refine RV.list' (b:=w.drew.heap.size) (off:=0) (s:=s) bU.symm (λi j=>(old++arr++Builtin.zeroCells z.cells (c'- (aa.length+new.length))).getD (i*s+j) undef) (by rw[bU];exact cK) (by unfold maxLen;omega) G (λh=>by cases h) V9 bT (λr hr c hc=>?_) (λi j r c hi hj=>⟨.inr (.inr ⟨G,by rw[P4];exact hq i j r c hi hj⟩),?_⟩) (λi j r c hi hj=>?_) (λk' aJ=>⟨s,?_,G,G,λ_=>G⟩)
  .rcases Q9.1 hr with h|h
   .obtain ⟨i,hi⟩:=J6.1 h;obtain⟨j,hj⟩:=J6.1 hc;exact(dw i j r c hi hj).2
   .obtain ⟨i,hi⟩:=J6.1 h;obtain⟨j,hj⟩:=J6.1 hc;exact(bf i j r c hi hj).2
  .rw [P4,World.cell?_alloc_new];have:=(ax i j r c hi hj).1;rw[a1V this,a0b,a1V this];rfl
  .exact (ax i j r c hi hj).2.mono (aK.trans fT)
  .injection aJ with aJ
   subst aJ;exact cw
theorem b3Q{tok:Option Nat}{ti:TypeInfo}(ho:o.op = .call {callee:=.builtin .append,args:=#[x,y],argTypes:=#[t,t2]})(hx:E.valid x)(hy:E.valid y)(ex:E.val C x= .list aa nn tok)
 (aO:∀M w v,Rel C M σ w->RV M w (E.val C y) v->d1W C w M new s v)(hu:∀w,(underlying t).run C.P w= .ok (.slice e) w)(hs:∀w,(sizeOf e).run C.P w= .ok s w)(cg:∀w,(typeInfo e).run C.P w= .ok ti w)(hz:∀w,(zeroValue e).run C.P w= .ok z w)(bp:z.cells.size=s)
 (fA:(∀w,(underlying t2).run C.P w= .ok (.slice e) w)\/∀w,(underlying t2).run C.P w= .ok .string w)(ht0:t0=none\/t0=some e)(hts:t0.isSome=true->s=1)(bY:b5y t0 σ aa nn tok)(aX:∀r∈aa,r.length=s)(bl:new≠[])(hb:(aa.length+new.length)*ti.bytes<=140737488355328)(aN:aa.length+new.length<=9223372036854775807)
 (hk:K (.ret (.list (aa++new) true (some σ.length))) (kill σ tok++[.tipT t0 (aa.length+new.length)])):C5 C σ E o K:=
 c0W ho hx hy ex aO hu hs cg hz bp fA ht0 hts (.inl bY) aX bl hb aN hk
theorem b0o{tok:Option Nat}{ti:TypeInfo}(ho:o.op = .call {callee:=.builtin .append,args:=#[x,y],argTypes:=#[t,t]})(hx:E.valid x)(hy:E.valid y)(ex:E.val C x= .list aa nn tok)
 (aO:∀M w v,Rel C M σ w->RV M w (E.val C y) v->Src C M w new s v)(hu:∀w,(underlying t).run C.P w= .ok (.slice e) w)(hs:∀w,(sizeOf e).run C.P w= .ok s w)(cg:∀w,(typeInfo e).run C.P w= .ok ti w)(hz:∀w,(zeroValue e).run C.P w= .ok z w)(bp:z.cells.size=s)
 (bY:c9D σ aa nn tok)(aX:∀r∈aa,r.length=s)(bl:new≠[])(hb:(aa.length+new.length)*ti.bytes<=140737488355328)(aN:aa.length+new.length<=9223372036854775807)
 (hk:K (.ret (.list (aa++new) true (some σ.length))) (kill σ tok++[.tip (aa.length+new.length)])):C5 C σ E o K:=
 b3Q ho hx hy ex (λM w v hr h=>(aO M w v hr h).any) hu hs cg hz bp (.inl hu) (.inl G) (λh=>by cases h) bY aX bl hb aN hk
end
section
def c1z(z:Value):List CV:=(G2 z).cells
theorem d6m(bQ:I2 z=true)(ci:(G2 z).one=true\/∃cs,G2 z= .agg cs)(bp:z.cells.size=s)(aA:∀q,q<n*s->arr.getD q undef=z.cells.getD (q%s) undef)(i j:Nat)(r:List CV)(c:CV)(hi:(List.replicate n (c1z z))[i]?=some r)(hj:r[j]?=some c):
 RV M w c (arr.getD (i*s+j) undef)/\c.one=true:=by
 have gL:RV M w (G2 z) z:=a0m bQ;obtain⟨g1,g2,g3⟩:=gL.cells ci;rw[List.getElem?_replicate]at hi;split at hi
 .rename_i bW;injection hi with hi
  subst hi;have cB:=(n_2.1 hj).1;have hjs:j<s:=by rw[<- bp,g1];exact cB
  have hq:i*s+j<n*s:=by
   have:(i+1)*s<=n*s:=X4 _ bW;rw[P9]at this;omega
  rw[aA _ hq,(b9O hjs).2];exact⟨g3 j c hj,g2 c (n_3 hj)⟩
 .cases hi
theorem b5W(bQ:I2 z=true)(ci:(G2 z).one=true\/∃cs,G2 z= .agg cs)(bp:z.cells.size=s):(c1z z).length=s:=by
 have gL:RV ⟨[],λ_=>False,λ_ _=>False,λ_=>False⟩ default (G2 z) z:=a0m bQ;have:=(gL.cells ci).1;rw[bp]at this;exact this.symm
theorem b3c{z:Array Value}{q:Nat}(hs:z.size=s)(hq:q<n*s):((Array.range (n*s)).map (z[·%z.size]!)).getD q undef=z.getD (q%s) undef:=by
 have h0:0<s:=by
  rcases b9x s with h|h
  .subst h;simp at hq
  .exact h
 have hms:q%s<s:=a63 _ h0;simp[hq,hs,hms]
theorem c9r{c:Nat}{kx ky:IntKind}{b:Int}{ti:TypeInfo}(ho:o.op = .makeSlice t x y)(hx:E.valid x)(hy:E.valid y)(ex:E.val C x= .val (.int kx a))(ey:E.val C y= .val (.int ky b))(ha:a=n)(hb:b=c)
 (hu:∀w,(underlying t).run C.P w= .ok (.slice e) w)(hs:∀w,(sizeOf e).run C.P w= .ok s w)(cg:∀w,(typeInfo e).run C.P w= .ok ti w)(hz:∀w,(zeroValue e).run C.P w= .ok z w)(bQ:I2 z=true)(ci:(G2 z).one=true\/∃cs,G2 z= .agg cs)(bp:z.cells.size=s)
 (hnc:n<=c)(aN:c<=9223372036854775807)(hby:ti.bytes*c<=281474976710656)(hk:K (.ret (.vec σ.length 0 n)) (σ++[.vec s (List.replicate n (c1z z))])):C5 C σ E o K:=λM w ρ hr hh=>by
 subst ha hb;have h1:=hh x r7 hx;have h2:=hh y r7 hy;rw[ex]at h1;rw[ey]at h2;have e1:IntKind.i64.wrap (n:Int)=n:=a5B J J;have e2:IntKind.i64.wrap (c:Int)=c:=a5B J J;have e3:((ti.bytes:Int)*(c:Int) > 2^48)=False:=by
  have h:((ti.bytes*c:Nat):Int)<=281474976710656:=by omega
  rw[Int.natCast_mul]at h;simp;omega
 have aZ:(if c*s=0 then(#[]:Array Value)else z.cells)=(if c*s=0 then #[]else z.cells):=G;have hnlt:¬((c:Int)<n):=by omega
 have az:(execOp ρ o).run C.P w= .ok (.value (.slice (some ⟨w.heap.size,0,none⟩) n c)) (w.alloc (.cells ((Array.range (c*s)).map (z.cells[·%z.cells.size]!)) e)):=by
  have e4:¬(2^48< (ti.bytes:Int)*(c:Int)):=U e3;by_cases h0:c*s=0
  .have er:Array.range 0= #[]:=G;simp[execOp,ho,Instr.makeSlice,hu,r6 h1,r6 h2,asInt,asIntOf,cg,e1,e2,hs,h0,newRow,er,hnlt]at e4⊢;intro h;exfalso
   rcases h with(h|h)|h<;>omega
  .simp [execOp,ho,Instr.makeSlice,hu,r6 h1,r6 h2,asInt,asIntOf,cg,e1,e2,hs,h0,hz,newRow,hnlt]at e4⊢;intro h;exfalso
   rcases h with(h|h)|h<;>omega
 rw[az];have hx:=Ext.alloc hr ⟨w.heap.size,c,s⟩ (.cells ((Array.range (c*s)).map (z.cells[·%z.cells.size]!)) e);have fu:=b5W bQ ci bp;refine⟨.vec σ.length 0 n,_,_,hx,hr.alloc ⟨w.heap.size,c,s⟩ _ (.vec s (List.replicate n (c1z z))) G ⟨G,U hnc,by unfold maxLen;simp only;omega,λr hr=>by rw[(List.mem_replicate.1 hr).2,fu],λr hr c hc=>?_,_,e,x8 _ _,Q,λi j r c' hi hj=>?_⟩,?_,hk⟩
 .rw [(List.mem_replicate.1 hr).2]at hc;have gL:RV M w (G2 z) z:=a0m bQ;exact(gL.cells ci).2.1 c hc
 .exact (d6m (n:=n) bQ ci bp (λq hq=>b3c bp (a9z hq (X4 _ hnc))) i j r c' hi hj).1
 .have:=RV.vec (M:=M.add ⟨w.heap.size,c,s⟩) (w:=w.alloc (.cells ((Array.range (c*s)).map (z.cells[·%z.cells.size]!)) e)) (k:=σ.length) (off:=0) (len:=n) (p:=⟨w.heap.size,c,s⟩) (a:=⟨w.heap.size,0,none⟩) a7i (U hnc) b8k (λ_=>by simp);exact this
theorem d3k{len:Nat}(ho:o.op = .call {callee:=.builtin .clear,args:=#[x],argTypes:=#[t]})(hx:E.valid x)(ex:E.val C x= .vec k off len)
 (hu:∀w,(underlying t).run C.P w= .ok (.slice e) w)(hz:∀w,(zeroValue e).run C.P w= .ok z w)(bQ:I2 z=true)(ci:(G2 z).one=true\/∃cs,G2 z= .agg cs)(bp:z.cells.size=s)(aJ:σ[k]?=some (.vec s aa))(hl:off+len<=aa.length)
 (hk:K (.ret (.val (.tuple #[]))) (σ.set k (.vec s (G9 aa off (List.replicate len (c1z z)))))):C5 C σ E o K:=λM w ρ hr hh=>by
 have h1:=hh x J9 hx;rw[ex]at h1;generalize hv:ρ x=v at h1;cases h1 with
 |vec hp g1 g2 g3=>
  rename_i p a;have dI:=(hr.obj k p _ hp aJ).1;have bH:aa.length<=p.cap:=dI.2.1;have cE:p.size=s:=dI.1;have fu:=b5W bQ ci bp;have hzc:(Builtin.zeroCells z.cells len)=(Array.range (len*s)).map (z.cells[·%z.cells.size]!):=by simp[Builtin.zeroCells,bp]
  obtain⟨w',aG,aD,bB⟩:=a3t hr hp aJ (p:=off) (new:=List.replicate len (c1z z)) (arr:=Builtin.zeroCells z.cells len) J G5 (λr hr=>by rw[(List.mem_replicate.1 hr).2,fu]) (by simp[O9,bp])
   (λi j r c hi hj=>d6m (n:=len) bQ ci bp (λq hq=>by rw[hzc];exact b3c bp hq) i j r c hi hj)
  have az:(execOp ρ o).run C.P w= .ok (.value (.tuple #[])) w':=by
   rcases len with _|len
   .have fY:(Builtin.zeroCells z.cells 0).toList=[]:=by simp[Builtin.zeroCells]
    rw[fY]at aG;have:w'=w:=by
     have h2:(storeCells ⟨p.block,off*s,none⟩ []).run C.P w= .ok () w:=by simp[storeCells]
     rw[h2]at aG;injection aG with _ h3
     exact h3.symm
    subst this;simp[execOp,ho,resolve,invoke,builtin,Builtin.clear_,hu,hv]
   .have hst':(storeCells a (Builtin.zeroCells z.cells (len+1)).toList).run C.P w= .ok () w':=by
     rw[g3 J,cE];exact aG
    simp[execOp,ho,resolve,invoke,builtin,Builtin.clear_,hu,hv,hz,hst']
  rw[az];exact⟨_,_,M,aD,bB,.val _,hk⟩
theorem b0k{ti:TypeInfo}(ho:o.op = .call {callee:=.builtin .append,args:=#[x,y],argTypes:=#[t,t]})(hx:E.valid x)(hy:E.valid y)(ex:E.val C x= .vec k 0 aa.length)
 (aO:∀M w v,Rel C M σ w->RV M w (E.val C y) v->Src C M w new s v)(hu:∀w,(underlying t).run C.P w= .ok (.slice e) w)(hs:∀w,(sizeOf e).run C.P w= .ok s w)(cg:∀w,(typeInfo e).run C.P w= .ok ti w)(hz:∀w,(zeroValue e).run C.P w= .ok z w)(bp:z.cells.size=s)
 (aJ:σ[k]?=some (.vec s aa))(bl:new≠[])(hb:(aa.length+new.length)*ti.bytes<=140737488355328)(aN:aa.length+new.length<=9223372036854775807)
 (hk:K (.ret (.vec σ.length 0 (aa.length+new.length))) (σ.set k .dead++[.vec s (aa++new)])):C5 C σ E o K:=λM w ρ hr hh=>by
 have h1:=hh x J9 hx;have h2:=hh y J9 hy;rw[ex]at h1;have hnl:0<new.length:=a8E.2 bl;have hsx:=a3E hr h1 aJ (b7T (P4 _));rw[b40,a6O]at hsx;have ao:=(aO M w _ hr h2).lenOf;have bm:(execOp ρ o).run C.P w=((Builtin.append_ #[t,t] o.type #[ρ x,ρ y]).run C.P w).andThen λv w=>.ok (.value v) w:=by
  simp[execOp,ho,resolve,invoke,builtin]
 generalize hv:ρ x=v at h1 hsx;cases h1 with
 |vec hp g1 g2 g3=>
  rename_i p a;have dI:=(hr.obj k p _ hp aJ).1;have bH:aa.length<=p.cap:=dI.2.1;have cE:p.size=s:=dI.1;subst cE;by_cases cj:aa.length+new.length<=p.cap
  .obtain ⟨an,cn,hvn,_,bR,arr,cu,aV,bf⟩:=aO M w _ hr h2;obtain⟨w',aG,aD,bB⟩:=a3t hr hp aJ (p:=aa.length) (new:=new) (n_6 _) cj bR aV bf;have ha:=g3 J;rw[Nat.zero_mul]at ha;have bY:=Y3 (P:=C.P) (ty:=o.type) (b:=p.block) (off:=0) (n:=aa.length) (m:=new.length) (c:=p.cap -0) hu (.inl hu) hs ao cu J (by rw[P4];exact aG);rw[bm,hv,ha,bY];simp only[Result.andThen_ok];have aj:G9 aa aa.length new=aa++new:=by simp[G9]
   rw[aj]at bB;have bi:k<σ.length:=(n_2.1 aJ).1;have bK:(σ.set k (.vec p.size (aa++new)))[k]?=some (.vec p.size (aa++new)):=by rw[b2E bi]
   have aK:Ext M w' (M.add p) w':=⟨⟨[p],G⟩,λ_ h=>h,λ_ _ h=>.inr h,λ_ _=>G,λ_ _ _=>G,n_6 _,R4,G,G,G,λ_ h=>⟨h,G,id,λ_=>id⟩⟩;have hd:=bB.dead k;rw[List.set_set]at hd;have hobj':=bB.obj k p _ hp bK;have ax:∀{j:Nat} {q:Pl},(M.add p).pl[j]?=some q->(j<σ.length/\M.pl[j]?=some q)\/(j=σ.length/\q=p):=by
    intro j q hj;simp only[A5.add,a6m,hr.len]at hj;split at hj
    .exact .inl ⟨‹_›,hj⟩
    .have:j-σ.length=0:=by
      have:=(n_2.1 hj).1;simp at this;omega
     rw[this]at hj;simp at hj;exact .inr ⟨J,hj.symm⟩
   have fh:∀{j:Nat} {x:b9},(σ.set k b9.dead++[b9.vec p.size (aa++new)])[j]?=some x->(j<σ.length/\(σ.set k b9.dead)[j]?=some x)\/(j=σ.length/\x= .vec p.size (aa++new)):=by
    intro j x hj;rw[a6m]at hj;split at hj
    .exact .inl ⟨by rename_i h;simpa using h,hj⟩
    .have:j- (σ.set k b9.dead).length=0:=by
      have:=(n_2.1 hj).1;simp at this⊢;omega
     rw[this]at hj;simp at hj;rename_i h2;have ao:(σ.set k b9.dead).length=σ.length:=by simp
     exact .inr ⟨J,hj.symm⟩
   have dG:∀{j:Nat} {q:Pl} {x:b9},M.pl[j]?=some q->(σ.set k b9.dead)[j]?=some x->x.live=true->q.block≠p.block:=by
    intro j q x hj dm hl e;have hjk:j≠k:=by
     rintro rfl;rw[b2E bi]at dm;injection dm with dm
     subst dm;cases hl
    have eM:σ[j]?=some x:=by rwa[a1c (Ne.symm hjk)]at dm
    exact hjk (hr.inj j k q p x _ hj hp eM aJ hl G e)
   refine⟨.vec σ.length 0 (aa.length+new.length),_,M.add p,aD.trans aK,⟨by simp[A5.add,hr.len],λb o' ha=>bB.blk b o' ha,λj q x hj dm=>?_,λj j' q q' x x' hj dj dm eM hl bz hb=>?_,λg cells hg=>(bB.glob g cells hg).mono aK,bB.kep,λj q x hj dm cm=>?_⟩,?_,hk⟩
   .rcases fh dm with⟨ai,h⟩|⟨rfl,rfl⟩
    .rcases ax hj with⟨_,hq⟩|⟨rfl,_⟩
     .obtain ⟨h1,h2⟩:=hd.obj j q x hq h;refine⟨?_,h2⟩;by_cases hl:x.live=true
      .exact h1.mono aK G (λ_ _ _ _ h=>h)
      .cases x<;>first|trivial|simp[b9.live]at hl
     .omega
    .rcases ax hj with⟨h,_⟩|⟨_,rfl⟩
     .omega
     .exact ⟨hobj'.1.mono aK G (λ_ _ _ _ h=>h),hobj'.2⟩
   .rcases fh dm with⟨ai,h⟩|⟨rfl,rfl⟩
    .rcases ax hj with⟨_,hq⟩|⟨rfl,_⟩
     .rcases fh eM with⟨bt,h'⟩|⟨rfl,rfl⟩
      .rcases ax dj with⟨_,dN⟩|⟨rfl,_⟩
       .exact hd.inj j j' q q' x x' hq dN h h' hl bz hb
       .omega
      .rcases ax dj with⟨h0,_⟩|⟨_,rfl⟩
       .omega
       .exact absurd hb (dG hq h hl)
     .omega
    .rcases ax hj with⟨h0,_⟩|⟨_,rfl⟩
     .omega
     .rcases fh eM with⟨bt,h'⟩|⟨rfl,rfl⟩
      .rcases ax dj with⟨_,dN⟩|⟨rfl,_⟩
       .exact absurd hb.symm (dG dN h' bz)
       .omega
      .rfl
   .rcases fh dm with⟨ai,h⟩|⟨rfl,rfl⟩
    .rcases ax hj with⟨_,hq⟩|⟨rfl,_⟩
     .exact hd.nk j q x hq h cm
     .omega
    .rcases ax hj with⟨h0,_⟩|⟨_,rfl⟩
     .omega
     .exact hr.nk k q _ hp aJ G
   .exact RV.vec (M:=M.add p) (w:=w') (k:=σ.length) (off:=0) (len:=aa.length+new.length) (p:=p) (a:=⟨p.block,0,none⟩) a7i J g2 (λ_=>by simp)
  .obtain ⟨dq,fZ⟩:=hr.drewN;have dP:RV M w.drew (.vec k 0 aa.length) (.slice (some a) aa.length (p.cap -0)):=.vec hp g1 g2 g3;have db:=a3E dq dP aJ (b7T (P4 _));rw[b40,a6O]at db;obtain⟨a1,c1,dO,_,aX,old,hfo,cy,dw⟩:=db;obtain⟨an,cn,hvn,_,bR,arr,cu,aV,bf⟩:=aO M w.drew _ dq (a3v h2);obtain⟨c',cK,fj,az⟩:=Q1 (P:=C.P) (ty:=o.type) (a:=some a) (c:=p.cap -0) (w:=w) hu (.inl hu) hs cg hz ao hfo cu J aN hb;rw[bm,hv,az];simp only[Result.andThen_ok];have eO:w.drew.heap.size=w.heap.size:=G;rw[<- eO];have hrk:=dq.dead k;have dd:(old++arr++Builtin.zeroCells z.cells (c'- (aa.length+new.length))).size=c'*p.size:=by
    simp only[b3Z,O9,cy,aV,bp];rw[<- P9,<- P9]
    congr 1;omega
   have aK:=Ext.alloc hrk ⟨w.drew.heap.size,c',p.size⟩ (.cells (old++arr++Builtin.zeroCells z.cells (c'- (aa.length+new.length))) e);have bT:∀r∈aa++new,r.length=p.size:=λr hr=>by
    rcases Q9.1 hr with h|h
    .exact aX r h
    .exact bR r h
   have ax:=a1j (rest:=Builtin.zeroCells z.cells (c'- (aa.length+new.length))) cy aV aX bR (λi j r c hi hj=>(dw i j r c hi hj).1) (λi j r c hi hj=>(bf i j r c hi hj).1);have bk:=hrk.alloc ⟨w.drew.heap.size,c',p.size⟩ (.cells (old++arr++Builtin.zeroCells z.cells (c'- (aa.length+new.length))) e) (.vec p.size (aa++new)) G
    ⟨G,U cK,by unfold maxLen;simp only;omega,bT,λr hr c hc=>(by
     rcases Q9.1 hr with h|h
     .obtain ⟨i,hi⟩:=J6.1 h;obtain⟨j,hj⟩:=J6.1 hc;exact(dw i j r c hi hj).2
     .obtain ⟨i,hi⟩:=J6.1 h;obtain⟨j,hj⟩:=J6.1 hc;exact(bf i j r c hi hj).2),_,e,x8 _ _,dd,λi j r c hi hj=>((ax i j r c hi hj).2.mono aK)⟩
   refine⟨.vec σ.length 0 (aa.length+new.length),_,_,fZ.trans aK,bk,?_,hk⟩;exact RV.vec (M:=M.add ⟨w.drew.heap.size,c',p.size⟩) (k:=σ.length) (off:=0) (len:=aa.length+new.length) (p:=⟨w.drew.heap.size,c',p.size⟩) (a:=⟨w.drew.heap.size,0,none⟩) a7i (U cK) b8k (λ_=>by simp)
end
def A7.jump(l:Nat)(Jc:Env->List b9->Prop)(Ji:A7->Env->List b9->Prop):A7->Env->List b9->Prop
 | .goto l',E,σ=>l'=l/\Jc E σ
 |e,E,σ=>Ji e E σ
theorem c8E{Ji:A7->Env->List b9->Prop}{c rest:Code}(l:Nat)(Jc:Nat->Env->List b9->Prop)(hf:findLabel c l=some rest)
 (first:CWp C n c (A7.jump l (λE σ=>∃m,Jc m E σ) Ji) E σ)(pass:∀m E σ,Jc m E σ->CWp C n rest (A7.jump l (λE' ae=>∃m',m'<m/\Jc m' E' ae) Ji) E σ):CWp C n (.scope c) Ji E σ:=λM w a hr hfr=>by
 intro b k cs;have hg:gotoIn l (.inScope c::k)=some (.code rest::.inScope c::k):=by simp[gotoIn,hf]
 have key:∀m E σ M1 w1 a1,Jc m E σ->Ext M w M1 w1->Rel C M1 σ w1->G4 M1 w1 n E a1 ->
  ∃e a' w',O6 C n Ji M w e a' w'/\Arrives C.P (lone (b.at a1 (.code rest::.inScope c::k)) cs w1) b k cs e a' w':=by
  intro m
  induction m using Nat.strongRecOn with
  |_ m ih=>
   intro E σ M1 w1 a1 hJ hx aR cI;obtain⟨e,a2,w2,hq,aA⟩:=pass m E σ hJ M1 w1 a1 aR cI b (.inScope c::k) cs;obtain⟨E',ae,M',h1,h2,h3,h4⟩:=hq;cases e with
   |normal=>exact⟨.normal,a2,w2,⟨E',ae,M',hx.trans h1,h2,h3,h4⟩,Steps.trans aA (.one step_inScope)⟩
   |exit id=>exact⟨.exit id,a2,w2,⟨E',ae,M',hx.trans h1,h2,h3,h4⟩,λk' hk=>aA k' (by simp[exitTo,hk])⟩
   |goto l'=>
    obtain⟨rfl,m',ai,hJ'⟩:=h4;obtain⟨co,cp,cq,bv,aM⟩:=ih m' ai E' ae M' w2 a2 hJ' (hx.trans h1) h2 h3;exact⟨co,cp,cq,bv,.of_steps (aA _ hg) aM⟩
   |ret=>exact⟨.ret,a2,w2,⟨E',ae,M',hx.trans h1,h2,h3,h4⟩,aA⟩
   |panic ch=>exact⟨.panic ch,a2,w2,⟨E',ae,M',hx.trans h1,h2,h3,h4⟩,aA⟩
   |outgrown=>exact h4.elim
 obtain⟨e,a1,w1,hq,aA⟩:=first M w a hr hfr b (.inScope c::k) cs
 obtain⟨E',ae,M',h1,h2,h3,h4⟩:=hq;cases e with
 |normal=>exact⟨.normal,a1,w1,⟨E',ae,M',h1,h2,h3,h4⟩,.head step_scope (Steps.trans aA (.one step_inScope))⟩
 |exit id=>exact⟨.exit id,a1,w1,⟨E',ae,M',h1,h2,h3,h4⟩,λk' hk=>.head step_scope (aA k' (by simp[exitTo,hk]))⟩
 |goto l'=>
  obtain⟨rfl,m,hJ⟩:=h4;obtain⟨co,cp,cq,bv,aM⟩:=key m E' ae M' w1 a1 hJ h1 h2 h3;exact⟨co,cp,cq,bv,.of_steps (.head step_scope (aA _ hg)) aM⟩
 |ret=>exact⟨.ret,a1,w1,⟨E',ae,M',h1,h2,h3,h4⟩,.of_steps (.one step_scope) aA⟩
 |panic ch=>exact⟨.panic ch,a1,w1,⟨E',ae,M',h1,h2,h3,h4⟩,.of_steps (.one step_scope) aA⟩
 |outgrown=>exact h4.elim
inductive Old(n:Nat):CV->Prop where
 |val (v:Value):Old n (.val v)
 |agg {cs:List CV}:(∀(i:Nat) (c:CV),cs[i]?=some c->Old n c)->Old n (.agg cs)
 |tup {cs:List CV}:(∀(i:Nat) (c:CV),cs[i]?=some c->Old n c)->Old n (.tup cs)
 |clo {f:FuncId} {cs:List CV}:(∀(i:Nat) (c:CV),cs[i]?=some c->Old n c)->Old n (.clo f cs)
 |list {aa:List (List CV)} {nn:Bool} {tok:Option Nat}:(∀(i j:Nat) (r:List CV) (c:CV),aa[i]?=some r->r[j]?=some c->Old n c)->(∀k,tok=some k->k<n)->Old n (.list aa nn tok)
 |ptr {k off:Nat}:k<n->Old n (.ptr k off)
 |cptr {cells:List CV}:(∀(j:Nat) (c:CV),cells[j]?=some c->Old n c)->Old n (.cptr cells)
 |eptr {k i off:Nat}:k<n->Old n (.eptr k i off)
 |vec {k off len:Nat}:k<n->Old n (.vec k off len)
 |map {k:Nat}:k<n->Old n (.map k)
 |yld {k:Nat}:k<n->Old n (.yld k)
theorem RV.old(h:RV M w c v):Old M.pl.length c:=by
 induction h with
 |val v=>exact .val v
 |agg _ _ _ ih=>exact .agg ih
 |tup _ _ ih=>exact .tup ih
 |clo _ _ ih=>exact .clo ih
 |list vals _ _ _ _ _ _ _ _ _ dv ih=>
  exact .list ih λk hk=>(by
   obtain⟨s',hp,_⟩:=dv k hk;exact(n_2.1 hp).1)
 |ptr hk=>exact .ptr (n_2.1 hk).1
 |cptr _ _ _ _ ih=>exact .cptr ih
 |eptr hk=>exact .eptr (n_2.1 hk).1
 |vec hk=>exact .vec (n_2.1 hk).1
 |map hk=>exact .map (n_2.1 hk).1
 |yld hk=>exact .yld (n_2.1 hk).1
structure Cut(n:Nat)(M M':A5):Prop where
 pl:M'.pl=M.pl.take n
 full:∀b,M.full b->M'.full b
 cell:∀b o,M.cell b o->M'.at b o
theorem Cut.at(h:Cut n M M'){o:Nat}(ha:M.at b o):M'.at b o:=by
 rcases ha with ha|ha
 .exact .inl (h.full _ ha)
 .exact h.cell _ _ ha
theorem Cut.get(h:Cut n M M')(hk:k<n)(hp:M.pl[k]?=some p):M'.pl[k]?=some p:=by
 rw[h.pl,a38,W hk];exact hp
theorem RV.cut(hc:Cut n M M')(h:RV M w c v)(ho:Old n c):RV M' w c v:=by
 induction h with
 |val v=>exact .val v
 |agg h1 h2 _ ih=>cases ho with|agg ho=>exact .agg h1 h2 λi c hi=>ih i c hi (ho i c hi)
 |tup h1 _ ih=>cases ho with|tup ho=>exact .tup h1 λi c hi=>ih i c hi (ho i c hi)
 |clo h1 _ ih=>cases ho with|clo ho=>exact .clo h1 λi c hi=>ih i c hi (ho i c hi)
 |list vals h1 h2 h3 h4 h5 h6 h7 h8 _ bL ih=>
  cases ho with
  |list ho ht=>
   exact .list vals h1 h2 h3 h4 h5 h6 h7 (λi j r c hi hj=>⟨hc.at (h8 i j r c hi hj).1,(h8 i j r c hi hj).2⟩) (λi j r c hi hj=>ih i j r c hi hj (ho i j r c hi hj)) λk hk=>by
    obtain⟨s',hp,bb⟩:=bL k hk;exact⟨s',hc.get (ht k hk) hp,bb⟩
 |ptr hk=>cases ho with|ptr ho=>exact .ptr (hc.get ho hk)
 |cptr vals h1 h2 _ ih=>cases ho with|cptr ho=>exact .cptr vals h1 (λj c hj=>⟨hc.at (h2 j c hj).1,(h2 j c hj).2⟩) λj c hj=>ih j c hj (ho j c hj)
 |eptr hk=>cases ho with|eptr ho=>exact .eptr (hc.get ho hk)
 |vec hk h1 h2 h3=>cases ho with|vec ho=>exact .vec (hc.get ho hk) h1 h2 h3
 |map hk=>cases ho with|map ho=>exact .map (hc.get ho hk)
 |yld hk=>cases ho with|yld ho=>exact .yld (hc.get ho hk)
inductive Cls(n:Nat)(σ:List b9):CV->CV->Prop where
 |old {c:CV}:Old n c->Cls n σ c c
 |agg {cs aW:List CV}:cs.length=aW.length->(∀(i:Nat) (c c':CV),cs[i]?=some c->aW[i]?=some c'->Cls n σ c c')->Cls n σ (.agg cs) (.agg aW)
 |tup {cs aW:List CV}:cs.length=aW.length->(∀(i:Nat) (c c':CV),cs[i]?=some c->aW[i]?=some c'->Cls n σ c c')->Cls n σ (.tup cs) (.tup aW)
 |clo {f:FuncId} {cs aW:List CV}:cs.length=aW.length->(∀(i:Nat) (c c':CV),cs[i]?=some c->aW[i]?=some c'->Cls n σ c c')->Cls n σ (.clo f cs) (.clo f aW)
 |list {aa rows':List (List CV)} {nn:Bool} {tok:Option Nat}:aa.length=rows'.length->(∀(i:Nat) (r r':List CV),aa[i]?=some r->rows'[i]?=some r'->r.length=r'.length) ->
  (∀(i j:Nat) (r r':List CV) (c c':CV),aa[i]?=some r->rows'[i]?=some r'->r[j]?=some c->r'[j]?=some c'->Cls n σ c c')->Cls n σ (.list aa nn tok) (.list rows' nn none)
 |vec {k off len s:Nat} {aa rows':List (List CV)}:n<=k->σ[k]?=some (.vec s aa)->off+len<=aa.length->((aa.drop off).take len).length=rows'.length->(∀(i:Nat) (r r':List CV),((aa.drop off).take len)[i]?=some r->rows'[i]?=some r'->r.length=r'.length) ->
  (∀(i j:Nat) (r r':List CV) (c c':CV),((aa.drop off).take len)[i]?=some r->rows'[i]?=some r'->r[j]?=some c->r'[j]?=some c'->Cls n σ c c')->Cls n σ (.vec k off len) (.list rows' true none)
theorem Cls.one(h:Cls n σ c c')(ho:c.one=true):c'.one=true:=by
 cases h<;>first|exact ho|rfl|(simp[CV.one]at ho)
theorem p7{β:Type}{l:List α}{l':List β}(h:l.length=l'.length){x:β}(hx:l'[i]?=some x):∃y,l[i]?=some y:=by
 have:=(n_2.1 hx).1;exact⟨l[i],by simp[h,this]⟩
theorem RV.close(hr:Rel C M σ w)(hc:Cut n M M')(iC:∀(k:Nat) (p:Pl) (s:Nat) (aa:List (List CV)),n<=k->M.pl[k]?=some p->σ[k]?=some (.vec s aa)->M'.full p.block)(h:Cls n σ c c')(hv:RV M w c v):RV M' w c' v:=by
 induction h generalizing v with
 |old ho=>exact hv.cut hc ho
 |agg hl fF ih=>
  cases hv with
  |agg h1 h2 h3=>
   refine .agg J (λc hcm=>?_) (λi c' hi=>?_)
   .obtain ⟨i,hi⟩:=J6.1 hcm;obtain⟨y,hy⟩:=p7 hl hi;exact(fF i y c hy hi).one (h2 y (n_3 hy))
   .obtain ⟨y,hy⟩:=p7 hl hi;exact ih i y c' hy hi (h3 i y hy)
 |tup hl _ ih=>
  cases hv with
  |tup h1 h3=>
   refine .tup J (λi c' hi=>?_);obtain⟨y,hy⟩:=p7 hl hi;exact ih i y c' hy hi (h3 i y hy)
 |clo hl _ ih=>
  cases hv with
  |clo h1 h3=>
   refine .clo J (λi c' hi=>?_);obtain⟨y,hy⟩:=p7 hl hi;exact ih i y c' hy hi (h3 i y hy)
 |list hl hlr fF ih=>
  obtain⟨a,cap,b,off,s,vals,rfl,h1,h2,h3,h4,h5,h6,h7,h8,h9,_⟩:=hv.list_inv;rename_i aa rows' nn tok;refine RV.list' hl (b:=b) (off:=off) (s:=s) vals J h2 h3 h4 (λaB=>h5 λe=>aB (c1t (by rw[<- hl,e];rfl))) (λr' bB=>?_) (λr' bB c' bA=>?_) (λi j r' c' hi hj=>?_) (λi j r' c' hi hj=>?_) (λk hk=>by cases hk)
  .obtain ⟨i,hi⟩:=J6.1 bB;obtain⟨r,bM⟩:=p7 hl hi;rw[<- hlr i r r' bM hi];exact h6 r (n_3 bM)
  .obtain ⟨i,hi⟩:=J6.1 bB;obtain⟨r,bM⟩:=p7 hl hi;obtain⟨j,hj⟩:=J6.1 bA;obtain⟨c,dx⟩:=p7 (hlr i r r' bM hi) hj;exact(fF i j r r' c c' bM hi dx hj).one (h7 r (n_3 bM) c (n_3 dx))
  .obtain ⟨r,bM⟩:=p7 hl hi;obtain⟨c,dx⟩:=p7 (hlr i r r' bM hi) hj;exact⟨hc.at (h8 i j r c bM dx).1,(h8 i j r c bM dx).2⟩
  .obtain ⟨r,bM⟩:=p7 hl hi;obtain⟨c,dx⟩:=p7 (hlr i r r' bM hi) hj;exact ih i j r r' c c' bM hi dx hj (h9 i j r c bM dx)
 |vec hk aw aT hl hlr fF ih=>
  cases hv with
  |vec hp g1 g2 g3=>
   rename_i k off len s aa rows' p a;have hfp:=iC k p s aa hk hp aw;obtain⟨⟨cE,q1,q2,q3,q4,arr,ty,q5,q6,q7⟩,_⟩:=hr.obj k p _ hp aw;have ao:((aa.drop off).take len).length=len:=by simp;omega
   have ax:∀i r,((aa.drop off).take len)[i]?=some r->i<len/\aa[off+i]?=some r:=λi r hi=>by
    rw[a38]at hi;split at hi
    .rw [a7O]at hi;exact⟨‹_›,hi⟩
    .cases hi
   have hoff:rows'≠[]->off<p.cap:=λaB=>by
    have:0<rows'.length:=a8E.2 aB;omega
   refine RV.list' (L:=len) J (b:=p.block) (off:=off*p.size) (s:=p.size) (λi j=>arr.getD ((off+i)*p.size+j) undef) J J G (λh=>by cases h) (λaB=>by rw[g3 (hoff aB)]) (λr' bB=>?_) (λr' bB c' bA=>?_) (λi j r' c' hi hj=>?_) (λi j r' c' hi hj=>?_) (λk hk=>by cases hk)
   .obtain ⟨i,hi⟩:=J6.1 bB;obtain⟨r,bM⟩:=p7 hl hi;rw[<- hlr i r r' bM hi];exact q3 r (n_3 (ax i r bM).2)
   .obtain ⟨i,hi⟩:=J6.1 bB;obtain⟨r,bM⟩:=p7 hl hi;obtain⟨j,hj⟩:=J6.1 bA;obtain⟨c,dx⟩:=p7 (hlr i r r' bM hi) hj;exact(fF i j r r' c c' bM hi dx hj).one (q4 r (n_3 (ax i r bM).2) c (n_3 dx))
   .obtain ⟨r,bM⟩:=p7 hl hi;obtain⟨c,dx⟩:=p7 (hlr i r r' bM hi) hj;obtain⟨bX,hri⟩:=ax i r bM;have cB:j<p.size:=by have:=(n_2.1 dx).1;rwa[q3 r (n_3 hri)]at this
    have hq:(off+i)*p.size+j<arr.size:=by
     rw[q6];have:(off+i+1)*p.size<=p.cap*p.size:=X4 _ J;rw[P9 (off+i)]at this;omega
    refine⟨.inl hfp,?_⟩;rw[show off*p.size+i*p.size+j=(off+i)*p.size+j from by rw[P9 off]];simp[World.cell?,q5,hq]
   .obtain ⟨r,bM⟩:=p7 hl hi;obtain⟨c,dx⟩:=p7 (hlr i r r' bM hi) hj;exact ih i j r r' c c' bM hi dx hj (q7 _ _ _ _ (ax i r bM).2 dx)
def A5.cutAt(M:A5)(n:Nat)(σ:List b9):A5:=
 {pl:=M.pl.take n,full:=λb=>M.full b\/∃k p ob,n<=k/\M.pl[k]?=some p/\σ[k]?=some ob/\ob.live=true/\p.block=b,cell:=M.cell,keep:=M.keep}
theorem Rel.cut{M0:A5}{aC:List b9}(h0:Rel C M0 σ w0)(hx:Ext M0 w0 M w)(hr:Rel C M (σ++aC) w):
 Rel C (M.cutAt σ.length (σ++aC)) σ w/\Cut σ.length M (M.cutAt σ.length (σ++aC))/\Ext M0 w0 (M.cutAt σ.length (σ++aC)) w:=by
 have aS:Cut σ.length M (M.cutAt σ.length (σ++aC)):=⟨G,λ_ h=>.inl h,λ_ _ h=>.inr h⟩;obtain⟨l,hl⟩:=hx.pl;have bo:(M.cutAt σ.length (σ++aC)).pl=M0.pl:=by
  show M.pl.take σ.length=M0.pl;rw[hl,<- h0.len,List.take_left]
 have aD:Ext M0 w0 (M.cutAt σ.length (σ++aC)) w:=⟨⟨[],by rw[bo];simp⟩,λb h=>.inl (hx.full b h),λb o h=>aS.at (hx.cell b o h),hx.same,hx.sameC,hx.size,hx.drew,hx.os,hx.tape,hx.output,λb hb=>(by
  obtain⟨k1,k2,k3,k4⟩:=hx.kept b hb;refine⟨k1,k2,λf=>?_,k4⟩
  rcases f with f|⟨k,p,ob,_,hp,hs,cm,rfl⟩
  .exact k3 f
  .exact absurd k1 (hr.nk k p ob hp hs cm))⟩
 have ax:∀{k:Nat} {p:Pl},(M.cutAt σ.length (σ++aC)).pl[k]?=some p->k<σ.length/\M.pl[k]?=some p/\M0.pl[k]?=some p:=by
  intro k p hk;have h1:M0.pl[k]?=some p:=by rw[<- bo];exact hk
  have ai:k<σ.length:=by rw[<- h0.len];exact(n_2.1 h1).1
  exact⟨ai,hx.get h1,h1⟩
 have aw:∀{k:Nat} {ob:b9},σ[k]?=some ob->(σ++aC)[k]?=some ob:=by
  intro k ob h;rw[T6 (n_2.1 h).1];exact h
 refine⟨⟨by rw[bo,h0.len],λb o ha=>?_,λk p ob hk hs=>?_,λk k' p p' ob aH hk aJ hs aU dD dE hb=>hr.inj k k' p p' ob aH (ax hk).2.1 (ax aJ).2.1 (aw hs) (aw aU) dD dE hb,λg cells hg=>(h0.glob g cells hg).mono aD,hr.kep,λk p ob hk hs cm=>hr.nk k p ob (ax hk).2.1 (aw hs) cm⟩,aS,aD⟩
 .rcases ha with(ha|⟨k,p,ob,_,hp,hs,hl,rfl⟩)|ha
  .exact hr.blk b o (.inl ha)
  .exact (hr.obj k p ob hp hs).1.lt hl
  .exact hr.blk b o (.inr ha)
 .obtain ⟨ai,hp,hp0⟩:=ax hk;obtain⟨h1,h2⟩:=hr.obj k p ob hp (aw hs);have fG:=(h0.obj k p ob hp0 hs).1;have ga:ob.live=true->¬M.full p.block->¬(M.cutAt σ.length (σ++aC)).full p.block:=λcm ga h=>by
   rcases h with h|⟨k',p',aH,aJ,aI,aU,bz,hb⟩
   .exact ga h
   .have:=hr.inj k' k p' p aH ob aI hp aU (aw hs) bz cm hb;omega
  have old:∀{c:CV} {v v':Value},RV M0 w0 c v'->RV M w c v->RV (M.cutAt σ.length (σ++aC)) w c v:=λh h'=>h'.cut aS (by rw[<- h0.len];exact h.old);refine⟨?_,?_⟩
  .cases ob with
   |dead=>trivial
   |boxT t0 cells=>
    obtain⟨arr,ty,e1,e2,e3,e4⟩:=h1;obtain⟨arr0,ty0,f1,f2,f3,f4⟩:=fG;exact⟨arr,ty,e1,e2,e3,λi c hi=>old (f4 i c hi) (e4 i c hi)⟩
   |tipT t0 m=>exact h1
   |blk o=>exact h1
   |lp o n cs=>
    obtain⟨tm,e1,e2,e3⟩:=h1;obtain⟨tm0,f1,f2,f3⟩:=fG;exact⟨tm,e1,e2,λx hi=>old (f3 x hi) (e3 x hi)⟩
   |vec s aa=>
    obtain⟨e0,e1,e2,e3,e4,arr,ty,e5,e6,e7⟩:=h1;obtain⟨f0,f1,f2,f3,f4,arr0,ty0,f5,f6,f7⟩:=fG;exact⟨e0,e1,e2,e3,e4,arr,ty,e5,e6,λi j r c hi hj=>old (f7 i j r c hi hj) (e7 i j r c hi hj)⟩
   |map es=>
    obtain⟨ah,ak,e1,e2,e3⟩:=h1;obtain⟨ents0,clock0,f1,f2,f3⟩:=fG;refine⟨ah,ak,e1,e2,λi x hi=>?_⟩;obtain⟨e,g1,g2,g3,g4⟩:=e3 i x hi;obtain⟨e',gr,gQ,g3',g4'⟩:=f3 i x hi;exact⟨e,g1,old gQ g2,old g3' g3,g4⟩
   |iter aF left=>
    obtain⟨mb,seen,bG,ah,ak,e1,e2,e3,e4,e5,e6,e7,e8,e9⟩:=h1;obtain⟨mb0,seen0,last0,ents0,clock0,f1,f2,f3,f4,f5,f6,f7,f8,f9⟩:=fG;refine⟨mb,seen,bG,ah,ak,e1,aS.full _ e2,e3,e4,e5,e6,e7,λi x hi=>?_,λi x hi=>?_⟩
    .obtain ⟨e,g1,g2,g3⟩:=e8 i x hi;obtain⟨e',gr,gQ,g3'⟩:=f8 i x hi;exact⟨e,g1,old gQ g2,old g3' g3⟩
    .obtain ⟨hl,j,e,g0,g1,g2,g3⟩:=e9 i x hi;obtain⟨_,j',e',_,_,gQ,g3'⟩:=f9 i x hi;exact⟨hl,j,e,g0,g1,old gQ g2,old g3' g3⟩
  .cases ob with
   |dead=>trivial
   |tipT t0 m=>exact ga G h2
   |_=>exact⟨ga G h2.1,h2.2⟩
theorem a3w{K:CV->Prop}(h:b8 C f args σ λr ae=>∃aC c c',ae=σ++aC/\r= .ret c/\Cls σ.length ae c c'/\K c'):b8 C f args σ λr ae=>(∃c,r= .ret c/\K c)/\ae=σ:=
 λM w vs hr hn hx=>(h M w vs hr hn hx).mono λe w' he=>by
  cases e with
  |returned v=>
   obtain⟨c,ae,M',h1,h2,h3,aC,c0,c',rfl,h5,h6,h7⟩:=he;injection h5 with h5
   subst h5;obtain⟨g1,g2,g3⟩:=hr.cut h1 h2;exact⟨c',σ,_,g3,g1,RV.close h2 g2 (λk p s aa hk hp hs=>.inr ⟨k,p,_,hk,hp,hs,G,G⟩) h6 h3,⟨c',G,h7⟩,G⟩
  |panicked ch=>
   obtain⟨c,v,ae,M',h0,h1,h2,h3,aC,c0,c',h4,h5,_⟩:=he;cases h5
  |outgrown=>exact he
theorem c9{c0:CV}(h:b8 C f args σ λr ae=>∃aC c,ae=σ++aC/\r= .ret c/\Cls σ.length ae c c0):b8 C f args σ λr ae=>r= .ret c0/\ae=σ:=
 (a3w (K:=λc=>c=c0) (h.mono λ_ _ ⟨aC,c,h1,h2,h3⟩=>⟨aC,c,c0,h1,h2,h3,G⟩)).mono λ_ _ ⟨⟨_,h1,h2⟩,h3⟩=>⟨h2▸h1,h3⟩
inductive o8:CV->Prop where
 |val (v:Value):o8 (.val v)
 |agg {cs:List CV}:(∀c∈cs,o8 c)->o8 (.agg cs)
 |tup {cs:List CV}:(∀c∈cs,o8 c)->o8 (.tup cs)
 |clo {f:FuncId} {cs:List CV}:(∀c∈cs,o8 c)->o8 (.clo f cs)
 |list {aa:List (List CV)} {nn:Bool}:(∀r∈aa,∀c∈r,o8 c)->o8 (.list aa nn none)
theorem o8.old(h:o8 c):Old n c:=by
 induction h with
 |val v=>exact .val v
 |agg _ ih=>exact .agg λi c hi=>ih c (n_3 hi)
 |tup _ ih=>exact .tup λi c hi=>ih c (n_3 hi)
 |clo _ ih=>exact .clo λi c hi=>ih c (n_3 hi)
 |list _ ih=>exact .list (λi j r c hi hj=>ih r (n_3 hi) c (n_3 hj)) (λk hk=>by cases hk)
theorem Cls.pure(h:o8 c):Cls n σ c c:=.old h.old
theorem Cls.tok{n:Nat}{σ:List b9}{aa:List (List CV)}{nn:Bool}{tok:Option Nat}(h:∀r∈aa,∀c∈r,o8 c):Cls n σ (.list aa nn tok) (.list aa nn none):=
 .list G (λi r r' h1 h2=>by rw[h1]at h2;injection h2 with h2;rw[h2]) λi j r r' c c' h1 h2 h3 h4=>by
  rw[h1]at h2;injection h2 with h2
  subst h2;rw[h3]at h4;injection h4 with h4
  subst h4;exact .pure (h r (n_3 h1) c (n_3 h3))
variable{tok:Option Nat}
theorem Cls.vecs{len:Nat}{rows':List (List CV)}(hk:n<=k)(aw:σ[k]?=some (.vec s aa))(hl:off+len<=aa.length)(he:(aa.drop off).take len=rows')(h:∀r∈rows',∀c∈r,o8 c):Cls n σ (.vec k off len) (.list rows' true none):=by
 subst he;exact .vec hk aw hl G (λi r r' h1 h2=>by rw[h1]at h2;injection h2 with h2;rw[h2]) λi j r r' c c' h1 h2 h3 h4=>by
  rw[h1]at h2;injection h2 with h2
  subst h2;rw[h3]at h4;injection h4 with h4
  subst h4;exact .pure (h r (n_3 h1) c (n_3 h3))
def a6A(n:Nat)(σ:List b9):List CV->List CV->Prop
 | [],[]=>True
 |c::cs,c'::aW=>Cls n σ c c'/\a6A n σ cs aW
 |_,_=>False
theorem a6A.get:∀{cs aW:List CV},a6A n σ cs aW->cs.length=aW.length/\∀(i:Nat) (c c':CV),cs[i]?=some c->aW[i]?=some c'->Cls n σ c c'
 | [],[],_=>⟨G,Q⟩
 |c::cs,c'::aW,⟨h1,h2⟩=>by
  obtain⟨h3,h4⟩:=a6A.get h2;refine⟨by simp[h3],λi x x' hx aD=>?_⟩
  rcases i with _|i
  .simp at hx aD;subst hx aD;exact h1
  .exact h4 i x x' (U hx) (U aD)
theorem Cls.aggs(h:a6A n σ cs aW):Cls n σ (.agg cs) (.agg aW):=.agg h.get.1 h.get.2
theorem Cls.tups(h:a6A n σ cs aW):Cls n σ (.tup cs) (.tup aW):=.tup h.get.1 h.get.2
section
def plain(l:List Value):CV:=.agg (l.map .val)
theorem a09{l:List Value}{Jj:Value}(h:RV M w (plain l) Jj):Jj= .agg l.toArray:=by
 cases h with
 |agg h1 h2 h3=>
  rename_i vs
  congr 1
  apply c1l;intro i
  rcases a3d i l.length with hi|hi
  .have hl:(l.map CV.val)[i]?=some (.val l[i]):=by simp[hi]
   have:=r6 (h3 i _ hl);have hv:i<vs.size:=by rw[h1];simpa using hi
   simp only[a0b,a1V hv,b8K]at this;rw[a1V hv,this];simp[hi]
  .have hv:vs.size<=i:=by rw[h1];simpa using hi
   rw[b4H hv];simp[hi]
theorem a5W{t':TypeId}{xs ys:List Value}{r:Bool}(ho:o.op = .binOp .eql t x y t')(hx:E.valid x)(hy:E.valid y)(ex:E.val C x=plain xs)(ey:E.val C y=plain ys)
 (hg:C.P.eqGuardType C.P.depth t=false)(he:∀w,(Op.equal t (.agg xs.toArray) (.agg ys.toArray)).run C.P w= .ok r w):j4 C σ E o (.val (.bool r)):=
 i8 λM w ρ _ h=>by
  have h1:=h x r7 hx;have h2:=h y r7 hy;rw[ex]at h1;rw[ey]at h2;exact⟨.bool r,by simp[execOp,ho,a09 h1,a09 h2,eqGuard,hg,binOp,he],.val _⟩
theorem e1Z{t':TypeId}{xs ys:List Value}{r:Bool}(ho:o.op = .binOp .neq t x y t')(hx:E.valid x)(hy:E.valid y)(ex:E.val C x=plain xs)(ey:E.val C y=plain ys)
 (hg:C.P.eqGuardType C.P.depth t=false)(he:∀w,(Op.equal t (.agg xs.toArray) (.agg ys.toArray)).run C.P w= .ok r w):j4 C σ E o (.val (.bool (!r))):=
 i8 λM w ρ _ h=>by
  have h1:=h x r7 hx;have h2:=h y r7 hy;rw[ex]at h1;rw[ey]at h2;exact⟨.bool (!r),by simp[execOp,ho,a09 h1,a09 h2,eqGuard,hg,binOp,he],.val _⟩
theorem L4{r:Nat}{ah:Array MapEntry}(h:w.heap[r]?=some (.map ah ak)):(getObj r).run P w= .ok (.map ah ak) w:=by
 simp[getObj,Sem.run,h]
theorem S8(ho:o.op = .makeMap t none)(hk:K (.ret (.map σ.length)) (σ++[.map []])):C5 C σ E o K:=λM w ρ hr _=>by
 have az:(execOp ρ o).run C.P w= .ok (.value (.map (some w.heap.size))) (w.alloc (.map #[] 0)):=by
  simp[execOp,ho,Instr.makeMap]
 rw[az];have hx:=Ext.alloc hr ⟨w.heap.size,0,0⟩ (.map #[] 0);exact⟨.map σ.length,_,_,hx,hr.alloc ⟨w.heap.size,0,0⟩ _ (.map []) G ⟨#[],0,x8 _ _,⟨G,λi j e e' h=>by simp at h⟩,Q⟩,RV.map (p:=⟨w.heap.size,0,0⟩) a7i,hk⟩
theorem Rel.setObj(hr:Rel C M σ w){q:Nat}{es es':List (CV×CV)}{dJ:Array MapEntry}{dK:Nat}(hp:M.pl[q]?=some p)(aw:σ[q]?=some (.map es))(aP:dJ.size=es'.length)(gt:b0W dJ)(h:∀(i:Nat) (x:CV×CV),es'[i]?=some x->∃e,dJ[i]?=some e/\RV M w x.1 e.key/\RV M w x.2 e.val/\e.born <dK):
 Ext M w M (World.putObj w p.block (.map dJ dK))/\Rel C M (σ.set q (.map es')) (World.putObj w p.block (.map dJ dK)):=by
 obtain⟨h1,hf,hc⟩:=hr.obj q p _ hp aw;have ai:=h1.lt G;have hx:=Ext.putObj (w:=w) (.map dJ dK) (hr.nk q p _ hp aw G) hf hc;refine⟨hx,hr.putObj hp aw G hf hc _ ⟨dJ,dK,World.putObj_same w _ ai,⟨aP,gt⟩,λi x hi=>?_⟩⟩;obtain⟨e,g1,g2,g3,g4⟩:=h i x hi;exact⟨e,g1,g2.mono hx,g3.mono hx,g4⟩
theorem b0W.push{ah:Array MapEntry}(h:b0W ah)(hb:∀(i:Nat) (e:MapEntry),ah[i]?=some e->e.born <ak){e0:MapEntry}(h0:e0.born=ak):b0W (ah.push e0):=λi j e e' hi hj he=>by
 rw[b7L]at hi hj;split at hi<;>split at hj
 .omega
 .injection hi with hi
  have:=hb j e' hj;rw[<- hi,h0]at he;omega
 .injection hj with hj
  have:=hb i e hi;rw[<- hj,h0]at he;omega
 .exact h i j e e' hi hj he
theorem b0W.modify{ah:Array MapEntry}(h:b0W ah){f:MapEntry->MapEntry}(hf:∀e,(f e).born=e.born):b0W (ah.modify k f):=λi j e e' hi hj he=>by
 have key:∀{i:Nat} {e:MapEntry},(ah.modify k f)[i]?=some e->∃e1,ah[i]?=some e1/\e1.born=e.born:=λ{i e} hi=>by
  rw[b8j]at hi;split at hi
  .obtain ⟨e1,h1,rfl⟩:=M8.1 hi;exact⟨e1,h1,(hf e1).symm⟩
  .exact ⟨e,hi,G⟩
 obtain⟨e1,h1,b1⟩:=key hi;obtain⟨e2,h2,b2⟩:=key hj;exact h i j e1 e2 h1 h2 (by rw[b1,b2];exact he)
theorem a4p{r:Nat}{ah:Array MapEntry}(o':Obj)(h:w.heap[r]?=some (.map ah ak)):(setObj r o').run P w= .ok () (World.putObj w r o'):=by
 simp[setObj,Sem.run,h,World.putObj]
end
theorem RV.pure(h:∀b o,M.at b o->M'.at b o/\w'.cell? ⟨b,o,none⟩=w.cell? ⟨b,o,none⟩)(hr:RV M w c v)(hp:o8 c):RV M' w' c v:=by
 induction hr with
 |val v=>exact .val v
 |agg h1 h2 _ ih=>cases hp with|agg hp=>exact .agg h1 h2 λi c hi=>ih i c hi (hp c (n_3 hi))
 |tup h1 _ ih=>cases hp with|tup hp=>exact .tup h1 λi c hi=>ih i c hi (hp c (n_3 hi))
 |clo h1 _ ih=>cases hp with|clo hp=>exact .clo h1 λi c hi=>ih i c hi (hp c (n_3 hi))
 |list vals h1 h2 h3 h4 h5 h6 h7 h8 _ bL ih=>
  cases hp with
  |list hp=>exact .list vals h1 h2 h3 h4 h5 h6 h7 (λi j r c hi hj=>⟨(h _ _ (h8 i j r c hi hj).1).1,(h _ _ (h8 i j r c hi hj).1).2.trans (h8 i j r c hi hj).2⟩) (λi j r c hi hj=>ih i j r c hi hj (hp r (n_3 hi) c (n_3 hj))) λk hk=>by cases hk
 |ptr _=>cases hp
 |cptr _ _ _ _ _=>cases hp
 |eptr _=>cases hp
 |vec _ _ _ _=>cases hp
 |map _=>cases hp
 |yld _=>cases hp
theorem b2e{K:CV->Prop}(ap:∀a∈args,o8 a)(hc:∀c,K c->o8 c)(fH:∀g cells,C.glob g=some cells->∀c∈cells,o8 c)(h:b8 C f args [] λr ae=>(∃c,r= .ret c/\K c)/\ae=[])(σ:List b9):b8 C f args σ λr ae=>(∃c,r= .ret c/\K c)/\ae=σ:=
 λM w vs hr hn hx=>by
  let LB:Nat->Prop:=λb=>∃(k:Nat) (p:Pl) (ob:b9),M.pl[k]?=some p/\σ[k]?=some ob/\ob.live=true/\p.block=b
  let M0:A5:={pl:=[],full:=M.full,cell:=M.cell,keep:=λb=>M.keep b\/LB b}
  have bg:∀b o,M.at b o->M0.at b o/\w.cell? ⟨b,o,none⟩=w.cell? ⟨b,o,none⟩:=λb o h=>⟨h,G⟩;have hLB:∀b,LB b->b<w.heap.size:=λb ⟨k,p,ob,hp,hs,hl,hb⟩=>hb▸(hr.obj k p ob hp hs).1.lt hl;have bM:Rel C M0 [] w:=⟨G,hr.blk,λk p ob hp=>by simp[M0]at hp,λk k' p p' ob aH hp=>by simp[M0]at hp,λg cells hg=>⟨by
   have:=(hr.glob g cells hg).rv;cases this with
   |cptr vals h1 h2 h3=>exact .cptr vals h1 h2 λj c hj=>(h3 j c hj).pure bg (fH g cells hg c (n_3 hj)),(hr.glob g cells hg).full,(hr.glob g cells hg).sz⟩,
   λb hb=>(by
    rcases hb with hb|hb
    .exact hr.kep b hb
    .exact hLB b hb),λk p ob hp=>by simp[M0]at hp⟩
  refine(h M0 w vs bM hn λi a hi=>(hx i a hi).pure bg (ap a (n_3 hi))).mono λe w' he=>?_;cases e with
  |panicked ch=>
   obtain⟨c',v,ae,M',_,_,_,_,⟨⟨c0,h5,_⟩,_⟩⟩:=he;cases h5
  |outgrown=>exact he
  |returned v=>
   obtain⟨c',ae,M',h1,h2,h3,⟨⟨c0,h4,hK⟩,rfl⟩⟩:=he;injection h4 with h4
   subst h4
   let M2:A5:={pl:=M.pl,full:=M'.full,cell:=M'.cell,keep:=M.keep}
   have aK:Ext M w M2 w':=⟨⟨[],by simp[M2]⟩,h1.full,h1.cell,h1.same,h1.sameC,h1.size,h1.drew,h1.os,h1.tape,h1.output,λb hb=>by
    obtain⟨k1,k2,k3,k4⟩:=h1.kept b (.inl hb);exact⟨hb,k2,k3,k4⟩⟩
   refine⟨c',σ,M2,aK,⟨hr.len,h2.blk,λk p ob hp hs=>?_,hr.inj,λg cells hg=>(hr.glob g cells hg).mono aK,λb hb=>a9z (hr.kep b hb) h1.size,hr.nk⟩,h3.pure (M:=M') (M':=M2) (w':=w') (λb o h=>⟨h,G⟩) (hc _ hK),⟨c',G,hK⟩,G⟩;by_cases hl:ob.live=true
   .obtain ⟨k1,k2,k3,k4⟩:=h1.kept p.block (.inr ⟨k,p,ob,hp,hs,hl,G⟩);obtain⟨g1,g2⟩:=hr.obj k p ob hp hs;refine⟨g1.mono aK k2 (λ_ _ _ o ho=>k4 o ho),?_⟩;cases ob with
    |dead=>trivial
    |tipT t0 n=>exact λhf=>g2 (k3 hf)
    |_=>exact⟨λhf=>g2.1 (k3 hf),λo ho=>g2.2 o (k4 o ho)⟩
   .cases ob<;>first|exact⟨O,O⟩|simp[b9.live]at hl
theorem b5A(ap:∀a∈args,o8 a)(hc:o8 c)(fH:∀g cells,C.glob g=some cells->∀c∈cells,o8 c)(h:b8 C f args [] λr ae=>r= .ret c/\ae=[])(σ:List b9):b8 C f args σ λr ae=>r= .ret c/\ae=σ:=
 (b2e (K:=λc'=>c'=c) ap (λ_ h=>h▸hc) fH (h.mono λ_ _ ⟨h1,h2⟩=>⟨⟨c,h1,G⟩,h2⟩) σ).mono λ_ _ ⟨⟨_,h1,h2⟩,h3⟩=>⟨h2▸h1,h3⟩
section
def c55:CV->Bool
 | .agg _=>true
 |c=>c.one
theorem a5m(h:c55 c=true):c.one=true\/∃cs,c= .agg cs:=by
 cases c<;>first|exact .inl h|exact .inr ⟨_,G⟩|(simp[c55,CV.one]at h)
def b28(ps:List (Nat×CV)):Bool:=ps.all λx=>c55 x.2
theorem a8e(h:b28 ps=true):∀x∈ps,x.2.one=true\/∃cs,x.2 = .agg cs:=λx hx=>a5m (a6h.1 h x hx)
def a3n(C:Ctx)(E:Env):List (Nat×Operand)->List (Nat×CV)
 | []=>[]
 |(i,x)::l=>(i,E.val C x)::a3n C E l
theorem a5o:∀(l:List (Nat×Operand)),l.map (λx=>(x.1,E.val C x.2))=a3n C E l
 | []=>rfl
 |(i,x)::l=>by simp[a3n,a5o l]
def a3H(E:Env):List (Nat×Operand)->Prop
 | []=>True
 |(_,x)::l=>E.valid x/\a3H E l
theorem a2u{E:Env}:∀{l:List (Nat×Operand)},a3H E l->∀x∈l,E.valid x.2
 | [],_,x,h=>by simp at h
 |(i,y)::l,⟨h1,h2⟩,x,h=>by
  rcases I0.1 h with rfl|h
  .exact h1
  .exact a2u h2 x h
theorem z8{fs:Array Field}(fR:Array (Nat×Nat)){aq:List CV}(ho:o.op = .build t parts)(hv:a3H E parts.toList)
 (hu:∀w,(underlying t).run C.P w= .ok (.struct fs) w)(hz:∀w,(zeroValue t).run C.P w= .ok z w)(bQ:I2 z=true)(ci:∃cs,G2 z= .agg cs)
 (bo:∀w,(fs.mapM λ(f:Field)=>do pure (f.offset,<- sizeOf f.type)).run C.P w= .ok fR w)
 (aQ:b28 (a3n C E parts.toList)=true)(bq:b08 fR (G2 z).cells (a3n C E parts.toList)=some aq):j4 C σ E o (.agg aq):=
 d3P ho (a2u hv) hu hz bQ ci bo (a5o _) (a8e aQ) bq
theorem A6{len:Nat}(aa:List (List CV))(ho:o.op = .buildSlice t len parts)(hv:a3H E parts.toList)
 (hu:∀w,(underlying t).run C.P w= .ok (.slice e) w)(hs:∀w,(sizeOf e).run C.P w= .ok s w)(hz:∀w,(zeroValue e).run C.P w= .ok z w)(bQ:I2 z=true)(ci:c55 (G2 z)=true)(fu:(G2 z).cells.length=s)(dW:Nat.blt 0 s=true)
 (ao:Nat.ble (len*s) 16777216=true)(aQ:b28 (a3n C E parts.toList)=true)
 (bq:a3C (λi=>some (i*s,s)) ((List.range (len*s)).map λi=>(G2 z).cells.getD (i%s) default) (a3n C E parts.toList)=some aa.flatten)(cZ:aa.length=len)(aX:(aa.all λr=>Nat.beq r.length s)=true):j4 C σ E o (.list aa true none):=
 b5j ho (by
  have:=a2u hv;have key:∀l:List Operand,(∀x∈l,E.valid x)->E.valids l:=by
   intro l
   induction l with
   |nil=>intro _;trivial
   |cons x l ih=>intro h;exact⟨h x Q,ih λy hy=>h y (by simp[hy])⟩
  exact key _ λx hx=>by
   obtain⟨p,hp,rfl⟩:=D8.1 hx;exact this p hp) hu hs hz bQ (a5m ci) fu (by simpa[b12]using dW) (by have:=nb ao;omega) (a5o _) (a8e aQ) bq cZ (λr hr=>a2l (a6h.1 aX r hr))
theorem a68(ey:E.val C y= .list aa nn tok)(aX:∀r∈aa,r.length=s):∀M w v,Rel C M σ w->RV M w (E.val C y) v->Src C M w aa s v:=λ_ _ _ _ h=>by
 rw[ey]at h;exact a1f h aX
theorem a2U{f:α->List CV}(h:∀a,(f a).length=s)(l:List α):∀r∈l.map f,r.length=s:=λr hr=>by
 obtain⟨a,_,rfl⟩:=D8.1 hr;exact h a
theorem C2{f:α->List CV}(h:∀a,∀c∈f a,o8 c)(l:List α):∀r∈l.map f,∀c∈r,o8 c:=λr hr=>by
 obtain⟨a,_,rfl⟩:=D8.1 hr;exact h a
theorem j8{f:α->List CV}{l:List α}{a:α}(h:l[i]?=some a):(l.map f)[i]?=some (f a):=by
 rw[N6,h];rfl
end
def G1(n:Nat):b9->Prop
 | .dead=>True
 | .boxT _ cells=>∀c∈cells,Old n c
 | .tipT _ _=>True
 | .vec _ aa=>∀r∈aa,∀c∈r,Old n c
 | .map es=>∀x∈es,Old n x.1/\Old n x.2
 | .iter aF es=>(∀x∈aF,Old n x.1/\Old n x.2)/\∀x∈es,Old n x.1/\Old n x.2
 | .blk _=>True
 | .lp _ _ cs=>∀x∈cs,Old n x.2
def a4n(n:Nat):List b9->Prop
 | []=>True
 |ob::l=>G1 n ob/\a4n n l
theorem a4n.get:∀{l:List b9},a4n n l->∀(k:Nat) (ob:b9),l[k]?=some ob->G1 n ob
 | [],_,_,_,h=>by simp at h
 |o::l,⟨h1,h2⟩,k,ob,h=>by
  rcases k with _|k
  .simp at h;subst h;exact h1
  .exact a4n.get h2 k ob (U h)
def c6M(n:Nat):List (Nat×CV)->Prop
 | []=>True
 |(_,c)::l=>Old n c/\c6M n l
theorem Rel.cutObj{aC:List b9}(hr:Rel C M (σ++aC) w)(bN:a4n σ.length σ)(fH:∀g cells,C.glob g=some cells->∀c∈cells,o8 c):
 Rel C (M.cutAt σ.length (σ++aC)) σ w/\Cut σ.length M (M.cutAt σ.length (σ++aC))/\∀M0 w0,Ext M0 w0 M w->M0.pl.length<=σ.length->Ext M0 w0 (M.cutAt σ.length (σ++aC)) w:=by
 have aS:Cut σ.length M (M.cutAt σ.length (σ++aC)):=⟨G,λ_ h=>.inl h,λ_ _ h=>.inr h⟩;have ax:∀{k:Nat} {p:Pl},(M.cutAt σ.length (σ++aC)).pl[k]?=some p->k<σ.length/\M.pl[k]?=some p:=by
  intro k p hk;have hk:(M.pl.take σ.length)[k]?=some p:=hk;rw[a38]at hk;split at hk
  .exact ⟨‹_›,hk⟩
  .cases hk
 have aw:∀{k:Nat} {ob:b9},σ[k]?=some ob->(σ++aC)[k]?=some ob:=by
  intro k ob h;rw[T6 (n_2.1 h).1];exact h
 have ao:σ.length<=M.pl.length:=by rw[hr.len];simp
 refine⟨⟨by show(M.pl.take σ.length).length=_;simp;omega,λb o ha=>?_,λk p ob hk hs=>?_,λk k' p p' ob aH hk aJ hs aU dD dE hb=>hr.inj k k' p p' ob aH (ax hk).2 (ax aJ).2 (aw hs) (aw aU) dD dE hb,λg cells hg=>?_,hr.kep,λk p ob hk hs cm=>hr.nk k p ob (ax hk).2 (aw hs) cm⟩,aS,λM0 w0 hx aT=>?_⟩
 .rcases ha with(ha|⟨k,p,ob,_,hp,hs,hl,rfl⟩)|ha
  .exact hr.blk b o (.inl ha)
  .exact (hr.obj k p ob hp hs).1.lt hl
  .exact hr.blk b o (.inr ha)
 .obtain ⟨ai,hp⟩:=ax hk;obtain⟨h1,h2⟩:=hr.obj k p ob hp (aw hs);have ho:=bN.get k ob hs;have ga:ob.live=true->¬M.full p.block->¬(M.cutAt σ.length (σ++aC)).full p.block:=λcm ga h=>by
   rcases h with h|⟨k',p',aH,aJ,aI,aU,bz,hb⟩
   .exact ga h
   .have:=hr.inj k' k p' p aH ob aI hp aU (aw hs) bz cm hb;omega
  refine⟨?_,?_⟩
  .cases ob with
   |dead=>trivial
   |boxT t0 cells=>
    obtain⟨arr,ty,e1,e2,e3,e4⟩:=h1;exact⟨arr,ty,e1,e2,e3,λi c hi=>(e4 i c hi).cut aS (ho c (n_3 hi))⟩
   |tipT t0 m=>exact h1
   |blk o=>exact h1
   |lp o n cs=>
    obtain⟨tm,e1,e2,e3⟩:=h1;exact⟨tm,e1,e2,λx hi=>(e3 x hi).cut aS (ho x hi)⟩
   |vec s aa=>
    obtain⟨e0,e1,e2,e3,e4,arr,ty,e5,e6,e7⟩:=h1;exact⟨e0,e1,e2,e3,e4,arr,ty,e5,e6,λi j r c hi hj=>(e7 i j r c hi hj).cut aS (ho r (n_3 hi) c (n_3 hj))⟩
   |map es=>
    obtain⟨ah,ak,e1,e2,e3⟩:=h1;refine⟨ah,ak,e1,e2,λi x hi=>?_⟩;obtain⟨e,g1,g2,g3,g4⟩:=e3 i x hi;have:=ho x (n_3 hi);exact⟨e,g1,g2.cut aS this.1,g3.cut aS this.2,g4⟩
   |iter aF es=>
    obtain⟨mb,seen,bG,ah,ak,e1,e2,e3,e4,e5,e6,e7,e8,e9⟩:=h1;refine⟨mb,seen,bG,ah,ak,e1,aS.full _ e2,e3,e4,e5,e6,e7,λi x hi=>?_,λi x hi=>?_⟩
    .obtain ⟨e,g1,g2,g3⟩:=e8 i x hi;have:=ho.2 x (n_3 hi);exact⟨e,g1,g2.cut aS this.1,g3.cut aS this.2⟩
    .obtain ⟨hl,j,e,g0,g1,g2,g3⟩:=e9 i x hi;have:=ho.1 x (n_3 hi);exact⟨hl,j,e,g0,g1,g2.cut aS this.1,g3.cut aS this.2⟩
  .cases ob with
   |dead=>trivial
   |tipT t0 m=>exact ga G h2
   |_=>exact⟨ga G h2.1,h2.2⟩
 .have:=(hr.glob g cells hg);refine⟨?_,aS.full _ this.full,this.sz⟩;exact this.rv.cut aS (.cptr λj c hj=>(fH g cells hg c (n_3 hj)).old)
 .obtain ⟨l,hl⟩:=hx.pl;refine⟨⟨l.take (σ.length -M0.pl.length),?_⟩,λb h=>.inl (hx.full b h),λb o h=>aS.at (hx.cell b o h),hx.same,hx.sameC,hx.size,hx.drew,hx.os,hx.tape,hx.output,λb hb=>?_⟩
  .show M.pl.take σ.length=_;rw[hl,List.take_append,a2p aT]
  .obtain ⟨k1,k2,k3,k4⟩:=hx.kept b hb;refine⟨k1,k2,λf=>?_,k4⟩
   rcases f with f|⟨k,p,ob,_,hp,hs,cm,rfl⟩
   .exact k3 f
   .exact absurd k1 (hr.nk k p ob hp hs cm)
def Env.none:Env:={h:=λ_=>Option.none,g:=λ_=>.two False False}
def Env.only(l:List (Nat×CV)):Env:=Env.none.puts l
theorem G4.only{a:Act}(hc:Cut k M M')(hf:G4 M w n E a):∀{l:List (Nat×CV)},E.is l->c6M k l->G4 M' w n (Env.only l) a
 | [],_,_=>⟨hf.defers,hf.size,λ_ h=>h.elim,λ_ h=>h.elim⟩
 |(t,c)::l,⟨⟨h1,h2⟩,h⟩,⟨h3,h4⟩=>by
  have ih:=G4.only hc hf h h4;refine⟨hf.defers,hf.size,λx hx=>?_,λx hx=>?_⟩
  .show RV M' w (((Env.only l).putO (some t) c .yes).f x) _;have hx:((Env.only l).putO (some t) c .yes).ok x:=hx;rw[Env.putO_f];rw[Env.putO_ok]at hx
   split
   .subst x;exact(h2▸hf.rv t h1:RV M w c _).cut hc h3
   .rename_i aB;rw[H aB]at hx;exact ih.rv x hx
  .have hx:((Env.only l).putO (some t) c .yes).un x:=hx;rw[Env.putO_un]at hx;split at hx
   .exact absurd trivial hx
   .exact ih.un x hx
section
variable{Ji:A7->Env->List b9->Prop}
def Ctx.plain(C:Ctx):Prop:=∀g cells,C.glob g=some cells->∀c∈cells,o8 c
def d8x{α:Type}(l:α->List (Nat×CV))(S:α->List b9)(P:α->Prop)(E':Env)(ae:List b9):Prop:=
 ∃a aC,P a/\E'.is (l a)/\ae=S a++aC
theorem CWp.upto{c:Code}(hC:C.plain){l:α->List (Nat×CV)}{P:α->Prop}{E':Env}{ae:List b9}(hE:d8x l S P E' ae)(bN:∀a,P a->c6M (S a).length (l a)/\a4n (S a).length (S a))(k:∀a,P a->CWp C n c Ji (Env.only (l a)) (S a)){M0:A5}(ao:∀a,P a->M0.pl.length<=(S a).length){a:Act}(hx:Ext M0 w0 M w)(hr:Rel C M ae w)(hf:G4 M w n E' a):
 c.wp C.P (O6 C n Ji M0 w0) a w:=by
 obtain⟨x,aC,hP,hE,rfl⟩:=hE;obtain⟨h1,h2⟩:=bN x hP;obtain⟨g1,g2,g3⟩:=hr.cutObj h2 hC;have aD:=g3 M0 w0 hx (ao x hP);exact wp_mono (k x hP _ w a g1 (hf.only g2 hE h1)) λ_ _ _=>O6.later aD
theorem u0{c:Code}(hC:C.plain)(l:α->List (Nat×CV))(S:α->List b9)(Je:α->Prop)(m:α->Nat)(a0:α)(h0:Je a0)(hE:E.is (l a0)){au:List b9}(aw:σ=S a0++au)(ao:∀a,Je a->σ.length<=(S a).length)(bN:∀a,Je a->c6M (S a).length (l a)/\a4n (S a).length (S a))
 (round:∀(a:α),Je a->CWp C n c (A7.next (d8x l S λa'=>m a'<m a/\Je a') Ji) (Env.only (l a)) (S a)):CWp C n (.loop c) Ji E σ:=λM w a hr hf=>by
 intro b k cs;have key:∀d (x:α) M1 w1 a1,m x=d->Je x->Ext M w M1 w1->Rel C M1 (S x) w1->G4 M1 w1 n (Env.only (l x)) a1 ->
  ∃e a' w',O6 C n Ji M w e a' w'/\Arrives C.P (lone (b.at a1 (.code c::.inLoop c::k)) cs w1) b k cs e a' w':=by
  intro d
  induction d using Nat.strongRecOn with
  |_ d ih=>
   intro x M1 w1 a1 hd hI hx aR cI;obtain⟨e,a2,w2,hq,aA⟩:=round x hI M1 w1 a1 aR cI b (.inLoop c::k) cs;obtain⟨E',ae,M',h1,h2,h3,h4⟩:=hq;cases e with
   |normal=>
    obtain⟨x',aC,⟨ai,gK⟩,hE',rfl⟩:=h4;obtain⟨o1,o2⟩:=bN x' gK;obtain⟨g1,g2,g3⟩:=h2.cutObj o2 hC;have aD:=g3 M w (hx.trans h1) (by rw[hr.len];exact ao x' gK);obtain⟨co,cp,cq,bv,aM⟩:=ih (m x') J x' _ w2 a2 G gK aD g1 (h3.only g2 hE' o1);exact⟨co,cp,cq,bv,.of_steps (Steps.trans aA (.one step_inLoop)) aM⟩
   |exit id=>exact⟨_,a2,w2,⟨E',ae,M',hx.trans h1,h2,h3,h4⟩,.pass (x:=.inLoop c) G (λ_ _=>.inl Q) aA⟩
   |goto l=>exact⟨_,a2,w2,⟨E',ae,M',hx.trans h1,h2,h3,h4⟩,.pass (x:=.inLoop c) G (λ_ _=>.inl Q) aA⟩
   |ret=>exact⟨_,a2,w2,⟨E',ae,M',hx.trans h1,h2,h3,h4⟩,.pass (x:=.inLoop c) G (λ_ _=>.inl Q) aA⟩
   |panic ch=>exact⟨_,a2,w2,⟨E',ae,M',hx.trans h1,h2,h3,h4⟩,.pass (x:=.inLoop c) G (λ_ _=>.inl Q) aA⟩
   |outgrown=>exact h4.elim
 have hlen0:=ao a0 h0;have hex:au=[]:=by
  apply c1t;rw[aw]at hlen0;simp at hlen0;omega
 subst hex;rw[a0h]at aw;subst aw;obtain⟨o1,o2⟩:=bN a0 h0;have hcut0:Cut (S a0).length M M:=⟨by rw[<- hr.len,a6O],λ_ h=>h,λ_ _ h=>.inr h⟩;obtain⟨e,a',w',hq,aA⟩:=key _ a0 M w a G h0 (Ext.refl M w) hr (hf.only hcut0 hE o1);exact⟨e,a',w',hq,.of_steps (.one step_loop) aA⟩
theorem a5n{x y:Code}(hC:C.plain)(l:α->List (Nat×CV))(S:α->List b9)(P:α->Prop)(ao:∀a,P a->σ.length<=(S a).length)(bN:∀a,P a->c6M (S a).length (l a)/\a4n (S a).length (S a))(h:CWp C n x (A7.next (d8x l S P) Ji) E σ)(k:∀a,P a->CWp C n y Ji (Env.only (l a)) (S a)):CWp C n (.seq x y) Ji E σ:=λM w a hr hf=>by
 refine wp_seq (wp_mono (h M w a hr hf) λe a' w' hl=>?_);obtain⟨E',ae,M',h1,h2,h3,h4⟩:=hl;cases e with
 |normal=>exact CWp.upto hC h4 bN k (λa ha=>by rw[hr.len];exact ao a ha) h1 h2 h3
 |_=>exact⟨E',ae,M',h1,h2,h3,h4⟩
end
def c99(n:Nat):List CV->Prop
 | []=>True
 |c::l=>Old n c/\c99 n l
theorem x9{n:Nat}:∀{cells:List CV},c99 n cells->G1 n (.box cells)
 | [],_=>λc h=>by simp at h
 |x::l,⟨h1,h2⟩=>λc h=>by
  rcases I0.1 h with rfl|h
  .exact h1
  .exact x9 h2 c h
theorem O2{c0:CV}(h:c=c0)(hp:o8 c0):Cls n σ c c0:=by
 subst h;exact .pure hp
theorem j9{x y:Bool}(h:x=y):Cls n σ (.val (.bool x)) (.val (.bool y)):=h▸ .old (.val _)
theorem B8{k:IntKind}{x y:Int}(h:x=y):Cls n σ (.val (.int k x)) (.val (.int k y)):=h▸ .old (.val _)
theorem c2a{x y:ByteArray}(h:x=y):Cls n σ (.val (.string x)) (.val (.string y)):=h▸ .old (.val _)
theorem a0n{β:Type}(f:α->β)(l:List α):((l.map f).length:Int)=(l.length:Int):=by simp
def N8:List CV->Prop
 | []=>True
 |c::l=>o8 c/\N8 l
theorem N8.all:∀{l:List CV},N8 l->∀c∈l,o8 c
 | [],_,c,h=>by simp at h
 |x::l,⟨h1,h2⟩,c,h=>by
  rcases I0.1 h with rfl|h
  .exact h1
  .exact N8.all h2 c h
theorem I6{f:α->List CV}(h:∀a,N8 (f a))(l:List α)(nn:Bool):o8 (.list (l.map f) nn none):=.list (C2 (λa=>(h a).all) l)
theorem b8.anyw(hC:C.plain)(ap:N8 args)(hc:o8 c)(h:b8 C f args [] λr ae=>r= .ret c/\ae=[])(σ:List b9):b8 C f args σ λr ae=>r= .ret c/\ae=σ:=
 b5A ap.all hc hC h σ
def CV.fgt1:CV->CV
 | .list aa nn _=>.list aa nn none
 |c=>c
def CV.fgt:CV->CV
 | .agg cs=>.agg (cs.map CV.fgt1)
 |c=>c.fgt1
theorem CV.one_fgt1(c:CV):c.fgt1.one=c.one:=by cases c<;>rfl
theorem RV.fgt1(h:RV M w c v):RV M w c.fgt1 v:=by
 cases h with
 |list vals h1 h2 h3 h4 h5 h6 h7 h8 h9 bL=>exact .list vals h1 h2 h3 h4 h5 h6 h7 h8 h9 λk hk=>by cases hk
 |val v=>exact .val v
 |agg h1 h2 h3=>exact .agg h1 h2 h3
 |tup h1 h3=>exact .tup h1 h3
 |clo h1 h3=>exact .clo h1 h3
 |ptr hk=>exact .ptr hk
 |cptr vals h1 h2 h3=>exact .cptr vals h1 h2 h3
 |eptr hk=>exact .eptr hk
 |vec hk h1 h2 h3=>exact .vec hk h1 h2 h3
 |map hk=>exact .map hk
 |yld hk=>exact .yld hk
theorem RV.fgt(h:RV M w c v):RV M w c.fgt v:=by
 cases h with
 |agg h1 h2 h3=>
  refine .agg (U h1) (λc hm=>?_) (λi c hi=>?_)
  .obtain ⟨c0,h0,rfl⟩:=D8.1 hm;rw[CV.one_fgt1];exact h2 c0 h0
  .rw [N6,M8]at hi;obtain⟨c0,h0,rfl⟩:=hi;exact(h3 i c0 h0).fgt1
 |list vals h1 h2 h3 h4 h5 h6 h7 h8 h9 bL=>exact(RV.list vals h1 h2 h3 h4 h5 h6 h7 h8 h9 bL).fgt1
 |val v=>exact .val v
 |tup h1 h3=>exact .tup h1 h3
 |clo h1 h3=>exact .clo h1 h3
 |ptr hk=>exact .ptr hk
 |cptr vals h1 h2 h3=>exact .cptr vals h1 h2 h3
 |eptr hk=>exact .eptr hk
 |vec hk h1 h2 h3=>exact .vec hk h1 h2 h3
 |map hk=>exact .map hk
 |yld hk=>exact .yld hk
section
variable{Ji:A7->Env->List b9->Prop}
theorem Y8(h:b8 C f (args.map CV.fgt) σ K):b8 C f args σ K:=λM w vs hr aP hx=>
 h M w vs hr (U aP) λi c hi=>by
  rw[N6,M8]at hi;obtain⟨c0,h0,rfl⟩:=hi;exact(hx i c0 h0).fgt
theorem c5(ho:o.op = .call {callee:=.value (.func f),args:=xs,argTypes:=ts})(aE:∀args w,(callFunc f args).run C.P w= .ok (.enter f args) w)
 (hv:E.valids xs.toList)(h:b8 C f cargs σ λr ae=>r= .ret c/\ae=σ)(ea:(E.vals C xs.toList).map CV.fgt=cargs):j4 C σ E o c:=
 d9l ho aE hv G (Y8 (ea▸h))
theorem c6L{b:Int}(ha:0<=a)(hb:0<b)(hr:a<=9223372036854775807):b2i .quo .i64 a b=some (.int .i64 (a / b)):=by
 have h1:a.tdiv b=a / b:=Int.tdiv_eq_ediv_of_nonneg ha;have h2:0<=a / b:=Int.ediv_nonneg ha J;have h3:a / b<=a:=Int.ediv_le_self _ ha;have h4:b≠0:=by omega
 simp only[b2i,h1,H h4];rw[a5B J J]
theorem b4f{b:Int}(hb:b≠0):b2i .rem .i64 a b=some (.int .i64 (a.tmod b)):=by simp[b2i,hb]
theorem c0g{b:Int}(ha:0<=a)(hb:0<b):b2i .rem .i64 a b=some (.int .i64 (a%b)):=by
 rw[b4f J,b3h ha]
theorem j5(h:N8 cs):o8 (.agg cs):=.agg h.all
theorem D3(h:N8 cs):o8 (.tup cs):=.tup h.all
end
inductive B5(L:Nat)(am:List Nat):CV->CV->Prop where
 |old {c:CV}:Old L c->B5 L am c c
 |agg {cs aW:List CV}:cs.length=aW.length->(∀(i:Nat) (c c':CV),cs[i]?=some c->aW[i]?=some c'->B5 L am c c')->B5 L am (.agg cs) (.agg aW)
 |tup {cs aW:List CV}:cs.length=aW.length->(∀(i:Nat) (c c':CV),cs[i]?=some c->aW[i]?=some c'->B5 L am c c')->B5 L am (.tup cs) (.tup aW)
 |list {aa:List (List CV)} {nn:Bool} {tok gb:Option Nat}:(∀r∈aa,∀c∈r,Old L c)->(∀j,gb=some j->∃k,tok=some k/\am[j]?=some k)->B5 L am (.list aa nn tok) (.list aa nn gb)
 |ptr {k j off:Nat}:am[j]?=some k->B5 L am (.ptr k off) (.ptr j off)
 |eptr {k j i off:Nat}:am[j]?=some k->B5 L am (.eptr k i off) (.eptr j i off)
 |vec {k j off len:Nat}:am[j]?=some k->B5 L am (.vec k off len) (.vec j off len)
 |map {k j:Nat}:am[j]?=some k->B5 L am (.map k) (.map j)
 |yld {k j:Nat}:am[j]?=some k->B5 L am (.yld k) (.yld j)
theorem B5.same(h:c=c')(ho:Old L c'):B5 L am c c':=h▸ .old (h▸ho)
theorem B5.one(h:B5 L am c c'):c'.one=c.one:=by
 cases h<;>rfl
def A5.ren(M:A5)(am:List Nat):A5:={M with pl:=am.map λk=>M.pl.getD k ⟨0,0,0⟩}
theorem a2s(hj:am[j]?=some k)(hk:M.pl[k]?=some p):(M.ren am).pl[j]?=some p:=by
 show(am.map λk=>M.pl.getD k ⟨0,0,0⟩)[j]?=some p;rw[N6,hj];simp[hk]
theorem Y0(bC:∀k,k<L->am[k]?=some k)(hL:L<=M.pl.length)(h:RV M w c v)(ho:Old L c):RV (M.ren am) w c v:=by
 have hc:Cut L M {M with pl:=M.pl.take L}:=⟨rfl,λ_ h=>h,λ_ _ h=>.inr h⟩;have h1:=h.cut hc ho;refine RV.mono (M:={M with pl:=M.pl.take L}) (M':=M.ren am) (w:=w) (w':=w) ⟨⟨(M.ren am).pl.drop L,?_⟩,λ_ h=>h,λ_ _ h=>.inr h,λ_ _=>G,λ_ _ _=>G,n_6 _,R4,G,G,G,λ_ h=>⟨h,G,id,λ_=>id⟩⟩ h1;have:(M.ren am).pl.take L=M.pl.take L:=by
  refine b2J λi=>?_;rw[a38,a38]
  split
  .rename_i hi;have hp:M.pl[i]?=some (M.pl[i]'J):=by simp
   rw[a2s (bC i hi) hp,hp]
  .rfl
 show(M.ren am).pl=M.pl.take L++_;rw[<- this,List.take_append_drop]
theorem RV.ren(bC:∀k,k<L->am[k]?=some k)(hL:L<=M.pl.length)(h:RV M w c v)(hr:B5 L am c c'):RV (M.ren am) w c' v:=by
 induction hr generalizing v with
 |old ho=>exact Y0 bC hL h ho
 |agg hl fF ih=>
  cases h with
  |agg h1 h2 h3=>
   refine .agg J (λc hcm=>?_) (λi c' hi=>?_)
   .obtain ⟨i,hi⟩:=J6.1 hcm;obtain⟨y,hy⟩:=p7 hl hi;rw[(fF i y c hy hi).one];exact h2 y (n_3 hy)
   .obtain ⟨y,hy⟩:=p7 hl hi;exact ih i y c' hy hi (h3 i y hy)
 |tup hl fF ih=>
  cases h with
  |tup h1 h3=>
   refine .tup J (λi c' hi=>?_);obtain⟨y,hy⟩:=p7 hl hi;exact ih i y c' hy hi (h3 i y hy)
 |list hrows dv=>
  cases h with
  |list vals h1 h2 h3 h4 h5 h6 h7 h8 h9 bL=>
   refine .list vals h1 h2 h3 h4 h5 h6 h7 h8 (λi j r c hi hj=>Y0 bC hL (h9 i j r c hi hj) (hrows r (n_3 hi) c (n_3 hj))) (λj hj=>?_);obtain⟨k,hk,hs⟩:=dv j hj;obtain⟨s',hp,bb⟩:=bL k hk;exact⟨s',a2s hs hp,bb⟩
 |ptr hs=>cases h with|ptr hk=>exact .ptr (a2s hs hk)
 |eptr hs=>cases h with|eptr hk=>exact .eptr (a2s hs hk)
 |vec hs=>cases h with|vec hk h1 h2 h3=>exact .vec (a2s hs hk) h1 h2 h3
 |map hs=>cases h with|map hk=>exact .map (a2s hs hk)
 |yld hs=>cases h with|yld hk=>exact .yld (a2s hs hk)
def b6a(L:Nat)(am:List Nat):List CV->List CV->Prop
 | [],[]=>True
 |c::l,c'::l'=>B5 L am c c'/\b6a L am l l'
 |_,_=>False
theorem b6a.len:∀{l l':List CV},b6a L am l l'->l.length=l'.length
 | [],[],_=>rfl
 |_::_,_::_,h=>n_7 (· +1) h.2.len
theorem b6a.get:∀{l l':List CV},b6a L am l l'->∀(i:Nat) (c c':CV),l[i]?=some c->l'[i]?=some c'->B5 L am c c'
 | [],[],_,i,c,c',h,_=>by simp at h
 |_::_,_::_,h,0,c,c',h1,h2=>by
  simp at h1 h2;subst h1;subst h2;exact h.1
 |_::_,_::_,h,i+1,c,c',h1,h2=>h.2.get i c c' (U h1) (U h2)
theorem B5.tups(h:b6a L am cs aW):B5 L am (.tup cs) (.tup aW):=.tup h.len h.get
inductive b7i(L:Nat)(am:List Nat):b9->b9->Prop where
 |dead {ob:b9}:b7i L am ob .dead
 |same {ob aH:b9}:ob=aH->G1 L aH->b7i L am ob aH
 |box {t0:Option TypeId} {cells ay:List CV}:b6a L am cells ay->b7i L am (.boxT t0 cells) (.boxT t0 ay)
theorem R3.ren(bC:∀k,k<L->am[k]?=some k)(hL:L<=M.pl.length){aH:b9}(h:R3 M w p ob/\a6U M p ob)(hr:b7i L am ob aH):R3 (M.ren am) w p aH/\a6U (M.ren am) p aH:=by
 obtain⟨h1,h2⟩:=h;cases hr with
 |dead=>exact⟨O,O⟩
 |same he ho=>
  subst he;refine⟨?_,by cases ob<;>exact h2⟩;cases ob with
  |dead=>trivial
  |boxT t0 cells=>
   obtain⟨arr,ty,e1,e2,e3,e4⟩:=h1;exact⟨arr,ty,e1,e2,e3,λi c hi=>Y0 bC hL (e4 i c hi) (ho c (n_3 hi))⟩
  |tipT t0 m=>exact h1
  |blk o=>exact h1
  |lp o n cs=>
   obtain⟨tm,e1,e2,e3⟩:=h1;exact⟨tm,e1,e2,λx hi=>Y0 bC hL (e3 x hi) (ho x hi)⟩
  |vec s aa=>
   obtain⟨e0,e1,e2,e3,e4,arr,ty,e5,e6,e7⟩:=h1;exact⟨e0,e1,e2,e3,e4,arr,ty,e5,e6,λi j r c hi hj=>Y0 bC hL (e7 i j r c hi hj) (ho r (n_3 hi) c (n_3 hj))⟩
  |map es=>
   obtain⟨ah,ak,e1,e2,e3⟩:=h1;refine⟨ah,ak,e1,e2,λi x hi=>?_⟩;obtain⟨e,g1,g2,g3,g4⟩:=e3 i x hi;have:=ho x (n_3 hi);exact⟨e,g1,Y0 bC hL g2 this.1,Y0 bC hL g3 this.2,g4⟩
  |iter aF es=>
   obtain⟨mb,seen,bG,ah,ak,e1,e2,e3,e4,e5,e6,e7,e8,e9⟩:=h1;refine⟨mb,seen,bG,ah,ak,e1,e2,e3,e4,e5,e6,e7,λi x hi=>?_,λi x hi=>?_⟩
   .obtain ⟨e,g1,g2,g3⟩:=e8 i x hi;have:=ho.2 x (n_3 hi);exact⟨e,g1,Y0 bC hL g2 this.1,Y0 bC hL g3 this.2⟩
   .obtain ⟨hl,j,e,g0,g1,g2,g3⟩:=e9 i x hi;have:=ho.1 x (n_3 hi);exact⟨hl,j,e,g0,g1,Y0 bC hL g2 this.1,Y0 bC hL g3 this.2⟩
 |box hc=>
  obtain⟨arr,ty,e1,e2,e3,e4⟩:=h1;refine⟨⟨arr,ty,e1,by rw[e2,hc.len],λc hm=>?_,λi c' hi=>?_⟩,h2⟩
  .obtain ⟨i,hi⟩:=J6.1 hm;obtain⟨y,hy⟩:=p7 hc.len hi;rw[(hc.get i y c hy hi).one];exact e3 y (n_3 hy)
  .obtain ⟨y,hy⟩:=p7 hc.len hi;exact(e4 i y hy).ren bC hL (hc.get i y c' hy hi)
def b6r(L:Nat)(all:List Nat)(σ:List b9):List Nat->List b9->Prop
 | [],[]=>True
 |k::ks,ob::obs=>(ob= .dead\/∃cT,σ[k]?=some cT/\b7i L all cT ob)/\b6r L all σ ks obs
 |_,_=>False
theorem b6r.len{all:List Nat}:∀{ks:List Nat} {obs:List b9},b6r L all σ ks obs->ks.length=obs.length
 | [],[],_=>rfl
 |_::_,_::_,h=>n_7 (· +1) h.2.len
variable{len:Nat}
theorem b6r.get{all:List Nat}:∀{ks:List Nat} {obs:List b9},b6r L all σ ks obs->∀(j k:Nat) (ob:b9),ks[j]?=some k->obs[j]?=some ob->ob= .dead\/∃cT,σ[k]?=some cT/\b7i L all cT ob
 | [],[],_,j,k,ob,h,_=>by simp at h
 |_::_,_::_,h,0,k,ob,h1,h2=>by
  simp at h1 h2;subst h1;subst h2;exact h.1
 |_::_,_::_,h,j+1,k,ob,h1,h2=>h.2.get j k ob (U h1) (U h2)
def Y9:List Nat->Bool
 | []=>true
 |k::l=>!l.contains k&&Y9 l
theorem a1X:∀{l:List Nat},Y9 l=true->∀(i j k:Nat),l[i]?=some k->l[j]?=some k->i=j
 | [],_,i,j,k,h,_=>by simp at h
 |x::l,h,i,j,k,h1,h2=>by
  simp only[Y9,R9,b69,List.contains_eq_mem,b0C]at h
  rcases i with _|i<;>rcases j with _|j
  .rfl
  .simp at h1 h2;subst h1;exact absurd (n_3 h2) h.1
  .simp at h1 h2;subst h2;exact absurd (n_3 h1) h.1
  .exact n_7 (· +1) (a1X h.2 i j k (U h1) (U h2))
def a7I(L:Nat)(am:List Nat):Bool:=Nat.ble L am.length && (List.range L).all λk=>Nat.beq (am.getD k 0) k
theorem a2R(h:a7I L am=true)(k:Nat)(hk:k<L):am[k]?=some k:=by
 simp only[a7I,R9,a6h,List.mem_range]at h;have h1:=nb h.1;have h2:=a2l (h.2 k hk);have ai:k<am.length:=by omega
 rw[a2o ai];simpa[ai]using h2
theorem Rel.ren{S:List b9}(hC:C.plain)(hr:Rel C M σ w)(bC:a7I L am=true)(ez:Y9 am=true)(hL:L<=M.pl.length)(hS:b6r L am σ am S):Rel C (M.ren am) S w:=by
 have hk:=a2R bC;have bo:∀{j:Nat} {p:Pl} {ob:b9},(M.ren am).pl[j]?=some p->S[j]?=some ob->∃k,am[j]?=some k/\(ob= .dead\/∃cT,σ[k]?=some cT/\M.pl[k]?=some p/\b7i L am cT ob):=by
  intro j p ob hp hs;have aI:(am.map λk=>M.pl.getD k ⟨0,0,0⟩)[j]?=some p:=hp;rw[N6,M8]at aI;obtain⟨k,hk,aI⟩:=aI;refine⟨k,hk,?_⟩
  rcases hS.get j k ob hk hs with rfl|⟨cT,h1,h2⟩
  .exact .inl G
  .have ai:k<M.pl.length:=by rw[hr.len];exact(n_2.1 h1).1
   refine .inr ⟨cT,h1,?_,h2⟩;rw[<- aI];simp[ai]
 have cb:∀{cT ob:b9},b7i L am cT ob->ob.live=true->cT.live=true:=by
  intro cT ob h hl;cases h with
  |dead=>cases hl
  |same he _=>exact he▸hl
  |box _=>rfl
 refine⟨by show(am.map _).length=_;rw[N0,hS.len],hr.blk,λj p ob hp hs=>?_,λj j' p p' ob aH hp aI hs aU hl bz hb=>?_,λg cells hg=>?_,hr.kep,λj p ob hp hs hl=>?_⟩
 .obtain ⟨k,bn,h|⟨cT,h1,h2,h3⟩⟩:=bo hp hs
  .subst h;exact⟨O,O⟩
  .exact R3.ren hk hL (hr.obj k p cT h2 h1) h3
 .obtain ⟨k,bn,h|⟨cT,h1,h2,h3⟩⟩:=bo hp hs
  .subst h;cases hl
  .obtain ⟨k',hk1',h'|⟨ob0',dP,dl,gR⟩⟩:=bo aI aU
   .subst h';cases bz
   .have e:=hr.inj k k' p p' cT ob0' h2 dl h1 dP (cb h3 hl) (cb gR bz) hb;subst e;exact a1X ez j j' k bn hk1'
 .refine ⟨?_,(hr.glob g cells hg).full,(hr.glob g cells hg).sz⟩;exact Y0 hk hL (hr.glob g cells hg).rv (.cptr λj c hj=>(hC g cells hg c (n_3 hj)).old)
 .obtain ⟨k,bn,h|⟨cT,h1,h2,h3⟩⟩:=bo hp hs
  .subst h;cases hl
  .exact hr.nk k p cT h2 h1 (cb h3 hl)
theorem Ext.ren{M0:A5}(hx:Ext M0 w0 M w)(bC:a7I L am=true)(hL0:M0.pl.length=L):Ext M0 w0 (M.ren am) w:=by
 have hk:=a2R bC;obtain⟨l,hl⟩:=hx.pl;refine⟨⟨(M.ren am).pl.drop L,?_⟩,hx.full,hx.cell,hx.same,hx.sameC,hx.size,hx.drew,hx.os,hx.tape,hx.output,hx.kept⟩;have:(M.ren am).pl.take L=M0.pl:=by
  refine b2J λi=>?_;rw[a38]
  split
  .rename_i hi;have hp0:M0.pl[i]?=some (M0.pl[i]'J):=by simp
   rw[a2s (hk i hi) (hx.get hp0),hp0]
  .rw [b5V J]
 rw[<- this,List.take_append_drop]
def Env.isR(E:Env)(L:Nat)(am:List Nat):List (Nat×CV)->Prop
 | []=>True
 |(t,c)::l=>(E.ok t/\B5 L am (E.f t) c)/\E.isR L am l
theorem G4.onlyR{a:Act}(bC:a7I L am=true)(hL:L<=M.pl.length)(hf:G4 M w n E a):∀{l:List (Nat×CV)},E.isR L am l->G4 (M.ren am) w n (Env.only l) a
 | [],_=>⟨hf.defers,hf.size,λ_ h=>h.elim,λ_ h=>h.elim⟩
 |(t,c)::l,⟨⟨h1,h2⟩,h⟩=>by
  have ih:=G4.onlyR bC hL hf h;refine⟨hf.defers,hf.size,λx hx=>?_,λx hx=>?_⟩
  .show RV (M.ren am) w (((Env.only l).putO (some t) c .yes).f x) _;have hx:((Env.only l).putO (some t) c .yes).ok x:=hx;rw[Env.putO_f];rw[Env.putO_ok]at hx
   split
   .subst x;exact(hf.rv t h1).ren (a2R bC) hL h2
   .rename_i aB;rw[H aB]at hx;exact ih.rv x hx
  .have hx:((Env.only l).putO (some t) c .yes).un x:=hx;rw[Env.putO_un]at hx;split at hx
   .exact absurd trivial hx
   .exact ih.un x hx
section
variable{Ji:A7->Env->List b9->Prop}
def a3Z{α:Type}(L:Nat)(l:α->List (Nat×CV))(S:α->List b9)(P:α->Prop)(E':Env)(ae:List b9):Prop:=
 ∃(a:α) (am:List Nat),P a/\(a7I L am=true/\Y9 am=true)/\E'.isR L am (l a)/\b6r L am ae am (S a)
theorem a3Z.go{c:Code}(hC:C.plain){l:α->List (Nat×CV)}{P:α->Prop}{E':Env}{ae:List b9}(hE:a3Z L l S P E' ae)(k:∀a,P a->CWp C n c Ji (Env.only (l a)) (S a)){M0:A5}(ao:M0.pl.length=L){a:Act}(hx:Ext M0 w0 M w)(hr:Rel C M ae w)(hf:G4 M w n E' a):
 c.wp C.P (O6 C n Ji M0 w0) a w:=by
 obtain⟨x,am,hP,⟨h1,h2⟩,hE,hS⟩:=hE;have hL:L<=M.pl.length:=by
  obtain⟨l,hl⟩:=hx.pl;rw[hl];simp;omega
 exact wp_mono (k x hP _ w a (hr.ren hC h1 h2 hL hS) (hf.onlyR h1 hL hE)) λ_ _ _=>O6.later (hx.ren h1 ao)
theorem b0b{x y:Code}(hC:C.plain)(L:Nat)(hL:Nat.beq L σ.length=true)(l:α->List (Nat×CV))(S:α->List b9)(P:α->Prop)(h:CWp C n x (A7.next (a3Z L l S P) Ji) E σ)(k:∀a,P a->CWp C n y Ji (Env.only (l a)) (S a)):CWp C n (.seq x y) Ji E σ:=λM w a hr hf=>by
 refine wp_seq (wp_mono (h M w a hr hf) λe a' w' hl=>?_);obtain⟨E',ae,M',h1,h2,h3,h4⟩:=hl;cases e with
 |normal=>exact a3Z.go hC h4 k (by rw[hr.len];exact(a2l hL).symm) h1 h2 h3
 |_=>exact⟨E',ae,M',h1,h2,h3,h4⟩
theorem B3{c:Code}(hC:C.plain)(L:Nat)(hL:Nat.beq L σ.length=true)(l:α->List (Nat×CV))(S:α->List b9)(Je:α->Prop)(m:α->Nat)(h0:a3Z L l S Je E σ)
 (round:∀(a:α),Je a->CWp C n c (A7.next (a3Z L l S λa'=>m a'<m a/\Je a') Ji) (Env.only (l a)) (S a)):CWp C n (.loop c) Ji E σ:=λM w a hr hf=>by
 intro b k cs;have hL:=a2l hL;have key:∀d (x:α) M1 w1 a1,m x=d->Je x->Ext M w M1 w1->Rel C M1 (S x) w1->G4 M1 w1 n (Env.only (l x)) a1 ->
  ∃e a' w',O6 C n Ji M w e a' w'/\Arrives C.P (lone (b.at a1 (.code c::.inLoop c::k)) cs w1) b k cs e a' w':=by
  intro d
  induction d using Nat.strongRecOn with
  |_ d ih=>
   intro x M1 w1 a1 hd hI hx aR cI;obtain⟨e,a2,w2,hq,aA⟩:=round x hI M1 w1 a1 aR cI b (.inLoop c::k) cs;obtain⟨E',ae,M',h1,h2,h3,h4⟩:=hq;cases e with
   |normal=>
    obtain⟨x',am,⟨ai,gK⟩,⟨g1,g2⟩,hE',hS⟩:=h4;have aD:=hx.trans h1;have df:L<=M'.pl.length:=by
     obtain⟨l,hl⟩:=aD.pl;rw[hl];simp;rw[hr.len,hL];omega
    obtain⟨co,cp,cq,bv,aM⟩:=ih (m x') J x' _ w2 a2 G gK (aD.ren g1 a8T) (h2.ren hC g1 g2 df hS) (h3.onlyR g1 df hE');exact⟨co,cp,cq,bv,.of_steps (Steps.trans aA (.one step_inLoop)) aM⟩
   |exit id=>exact⟨_,a2,w2,⟨E',ae,M',hx.trans h1,h2,h3,h4⟩,.pass (x:=.inLoop c) G (λ_ _=>.inl Q) aA⟩
   |goto l=>exact⟨_,a2,w2,⟨E',ae,M',hx.trans h1,h2,h3,h4⟩,.pass (x:=.inLoop c) G (λ_ _=>.inl Q) aA⟩
   |ret=>exact⟨_,a2,w2,⟨E',ae,M',hx.trans h1,h2,h3,h4⟩,.pass (x:=.inLoop c) G (λ_ _=>.inl Q) aA⟩
   |panic ch=>exact⟨_,a2,w2,⟨E',ae,M',hx.trans h1,h2,h3,h4⟩,.pass (x:=.inLoop c) G (λ_ _=>.inl Q) aA⟩
   |outgrown=>exact h4.elim
 obtain⟨x,am,hP,⟨g1,g2⟩,hE,hS⟩:=h0;have df:L<=M.pl.length:=by rw[hr.len,hL];omega
 obtain⟨e,a',w',hq,aA⟩:=key _ x _ w a G hP ((Ext.refl M w).ren g1 a8T) (hr.ren hC g1 g2 df hS) (hf.onlyR g1 df hE);exact⟨e,a',w',hq,.of_steps (.one step_loop) aA⟩
def D6:Nat->Nat->Option Nat
 |0,_=>none
 |_+1,p=>some p
def l8:Nat->b9
 |0=>.dead
 |m+1=>.tip (m+1)
def gnn:Nat->Bool
 |0=>false
 |_+1=>true
theorem a4L(n m:Nat):G1 n (l8 m):=by cases m<;>trivial
end
theorem B5.grow{f:α->List CV}{p:Nat}{l:List α}(h:∀a,c99 L (f a))(hs:am[p]?=some k):B5 L am (.list (l.map f) (gnn m) (D6 m k)) (.list (l.map f) (gnn m) (D6 m p)):=by
 refine .list (λr hr c hc=>?_) (λj hj=>?_)
 .obtain ⟨a,_,rfl⟩:=D8.1 hr;exact x9 (h a) c hc
 .cases m with
  |zero=>cases hj
  |succ m=>cases hj;exact⟨k,G,hs⟩
section
variable{Ji:A7->Env->List b9->Prop}
theorem a9e{ti:TypeInfo}(rows':List (List CV))(n':Nat)(ho:o.op = .call {callee:=.builtin .append,args:=#[x,y],argTypes:=#[t,t]})(hx:E.valid x)(hy:E.valid y)(ex:E.val C x= .vec k 0 len)
 (aO:∀M w v,Rel C M σ w->RV M w (E.val C y) v->Src C M w new s v)(hu:∀w,(underlying t).run C.P w= .ok (.slice e) w)(hs:∀w,(sizeOf e).run C.P w= .ok s w)(cg:∀w,(typeInfo e).run C.P w= .ok ti w)(hz:∀w,(zeroValue e).run C.P w= .ok z w)(bp:z.cells.size=s)
 (aJ:σ[k]?=some (.vec s aa))(ao:len=aa.length)(bl:new≠[])(hb:(aa.length+new.length)*ti.bytes<=140737488355328)(aN:aa.length+new.length<=9223372036854775807)(he:aa++new=rows')(hn:aa.length+new.length=n')
 (hk:K (.ret (.vec σ.length 0 n')) (σ.set k .dead++[.vec s rows'])):C5 C σ E o K:=by
 subst ao he hn;exact b0k ho hx hy ex aO hu hs cg hz bp aJ bl hb aN hk
theorem b7I(rows':List (List CV))(ho:o.op = .call {callee:=.builtin .clear,args:=#[x],argTypes:=#[t]})(hx:E.valid x)(ex:E.val C x= .vec k off len)
 (hu:∀w,(underlying t).run C.P w= .ok (.slice e) w)(hz:∀w,(zeroValue e).run C.P w= .ok z w)(bQ:I2 z=true)(ci:(G2 z).one=true\/∃cs,G2 z= .agg cs)(bp:z.cells.size=s)(aJ:σ[k]?=some (.vec s aa))(hl:off+len<=aa.length)(he:G9 aa off (List.replicate len (c1z z))=rows'){ae:List b9}(aw:σ.set k (.vec s rows')=ae)
 (hk:K (.ret (.val (.tuple #[]))) ae):C5 C σ E o K:=
 d3k ho hx ex hu hz bQ ci bp aJ hl (by rw[he,aw];exact hk)
theorem U6(rows':List (List CV))(ho:o.op = .store t x y)(hx:E.valid x)(hy:E.valid y)(ex:E.val C x= .eptr k i off)(ey:E.val C y=c)(hs:∀w,(sizeOf t).run C.P w= .ok m w)
 (hc:c.one=true\/∃cs,c= .agg cs)(hk:σ[k]?=some (.vec s aa))(hi:aa[i]?=some r)(hl:c.cells.length=m)(ai:off+m<=r.length)(he:aa.set i (M6 r off c.cells)=rows'){ae:List b9}(aw:σ.set k (.vec s rows')=ae)(h:K (.ret (.val undef)) ae):C5 C σ E o K:=
 b3E ho hx hy ex ey hs hc hk hi hl ai (by rw[he,aw];exact h)
theorem c4{c:α->CV}{P:α->Prop}(ho:o.op = .call {callee:=.value (.func f),args:=xs,argTypes:=ts})(aE:∀args w,(callFunc f args).run C.P w= .ok (.enter f args) w)
 (hv:E.valids xs.toList)(h:b8 C f cargs σ λr ae=>∃a,r= .ret (c a)/\ae=S a/\P a)(ea:(E.vals C xs.toList).map CV.fgt=cargs)(hk:∀a,P a->K (.ret (c a)) (S a)):C5 C σ E o K:=
 b03 ho aE (Env.valids_mem hv) (Env.vals_map _) ((Y8 (ea▸h)).mono λr ae hh=>by
  obtain⟨a,rfl,rfl,hp⟩:=hh;exact hk a hp)
end
section
variable{af:Array Oper}
def e0z(C:Ctx)(af:Array Oper)(o:Oper)(E:Env)(σ:List b9)(K:CV->Prop->List b9->Prop)(Kp:CV->List b9->Prop):Prop:=
 (o.guard=none/\C5 C σ E o λr ae=>match r with| .ret c=>K c True ae| .pan c=>Kp c ae)\/(∃c g,H1 C σ af o E c g/\K c g σ)
def a1t(S:List (List b9->Prop))(σ:List b9):List Nat->Prop
 | []=>True
 |k::l=>(S.getD k λ_=>True) σ/\a1t S σ l
theorem a1t.get{S:List (List b9->Prop)}:∀{l:List Nat},a1t S σ l->∀k∈l,(S.getD k λ_=>True) σ
 | [],_,k,h=>by cases h
 |x::l,⟨h1,h2⟩,k,h=>by
  rcases I0.1 h with rfl|h
  .exact h1
  .exact h2.get k h
end
section
variable{af:Array Oper}
theorem c7(hg:o.guard=none)(hy:j4 C σ E o c):H1 C σ af o E c True:=.inl ⟨hg,O,hy⟩
theorem F2{K:Env->List (List b9->Prop)->Prop}{S:List (List b9->Prop)}(h:K E S):Y5 C σ af K [] E S:=h
theorem chf{K:Env->List (List b9->Prop)->Prop}{l:List Nat}{S:List (List b9->Prop)}(ho:af[i]?=some o)(bj:H1 C σ af o E c g)(h:Y5 C σ af K l (E.put o.dst c g) (S++[λae=>H1 C ae af o E c g])):Y5 C σ af K (i::l) E S:=
 ⟨o,c,g,ho,bj,h⟩
end
section
theorem a9x{c:Nat}{a:Option Addr}{x:Value}(hu:∀w,(underlying t).run P w= .ok (.slice e) w)(hs:∀w,(sizeOf e).run P w= .ok s w)
 (ao:∀w,(Builtin.lenOf x).run P w= .ok 0 w)(dF:(Builtin.firstCells s 0 x).run P w= .ok arr w)(aA:arr.size=0)(fB:n<=c):(Builtin.append_ #[t,t] ty #[.slice a n c,x]).run P w= .ok (.slice a n c) w:=by
 have:arr= #[]:=Array.eq_empty_of_size_eq_zero aA;subst this;cases a<;>simp[Builtin.append_,hu,hs,ao,dF,fB,storeCells]
theorem Rel.addDead(hr:Rel C M σ w)(q:Pl):Rel C (M.add q) (σ++[.dead]) w/\Ext M w (M.add q) w:=by
 have hx:Ext M w (M.add q) w:=⟨⟨[q],G⟩,λ_ h=>h,λ_ _ h=>.inr h,λ_ _=>G,λ_ _ _=>G,n_6 _,R4,G,G,G,λ_ h=>⟨h,G,id,λ_=>id⟩⟩;have ax:∀{k:Nat} {p:Pl} {ob:b9},(M.add q).pl[k]?=some p->(σ++[.dead])[k]?=some ob->ob= .dead\/(M.pl[k]?=some p/\σ[k]?=some ob):=by
  intro k p ob h1 h2;rw[a6m]at h2;split at h2
  .rename_i ai;have h1:(M.pl++[q])[k]?=some p:=h1;rw[T6 (by rw[hr.len];exact ai)]at h1;exact .inr ⟨h1,h2⟩
  .refine .inl ?_;have:=n_3 h2;simpa using this
 refine⟨⟨by show(M.pl++[q]).length=_;simp[hr.len],hr.blk,λk p ob h1 h2=>?_,λk k' p p' ob aH h1 dP h2 dl hl bz hb=>?_,λg cells hg=>(hr.glob g cells hg).mono hx,hr.kep,λk p ob h1 h2 hl=>?_⟩,hx⟩
 .rcases ax h1 h2 with rfl|⟨g1,g2⟩
  .exact ⟨O,O⟩
  .obtain ⟨o1,o2⟩:=hr.obj k p ob g1 g2;exact⟨o1.mono hx G (λ_ _ _ _ h=>h),by cases ob<;>exact o2⟩
 .rcases ax h1 h2 with rfl|⟨g1,g2⟩
  .cases hl
  .rcases ax dP dl with rfl|⟨gr,gQ⟩
   .cases bz
   .exact hr.inj k k' p p' ob aH g1 gr g2 gQ hl bz hb
 .rcases ax h1 h2 with rfl|⟨g1,g2⟩
  .cases hl
  .exact hr.nk k p ob g1 g2 hl
theorem B6{p:Nat}{ti:TypeInfo}(ho:o.op = .call {callee:=.builtin .append,args:=#[x,y],argTypes:=#[t,t]})(hx:E.valid x)(hy:E.valid y)(ex:E.val C x= .list aa (gnn m) (D6 m p))(hm:m=aa.length)
 (aO:∀M w v,Rel C M σ w->RV M w (E.val C y) v->Src C M w new s v)(hu:∀w,(underlying t).run C.P w= .ok (.slice e) w)(hs:∀w,(sizeOf e).run C.P w= .ok s w)(cg:∀w,(typeInfo e).run C.P w= .ok ti w)(hz:∀w,(zeroValue e).run C.P w= .ok z w)(bp:z.cells.size=s)
 (bY:(m=0/\σ.set p .dead=σ)\/σ[p]?=some (l8 m))(aX:∀r∈aa,r.length=s)(hb:(aa.length+new.length)*ti.bytes<=140737488355328)(aN:aa.length+new.length<=9223372036854775807)(rows':List (List CV))(m':Nat)(he:aa++new=rows')(hm':aa.length+new.length=m')
 (hk:K (.ret (.list rows' (gnn m') (D6 m' σ.length))) (σ.set p .dead++[l8 m'])):C5 C σ E o K:=by
 subst hm he hm'
 rcases new with _|⟨r1,new⟩
 .
  intro M w ρ hr hh;have h1:=hh x J9 hx;have h2:=hh y J9 hy;rw[ex]at h1;have iA:=aO M w _ hr h2;have ao:=iA.lenOf;obtain⟨a,cap,b,off,s',vals,hv,bH,fC,fx,dX,ha,cZ,aQ,hc,ba,dv⟩:=h1.list_inv;obtain⟨_,_,_,_,_,arr,cu,aV,_⟩:=iA;have bm:(execOp ρ o).run C.P w=((Builtin.append_ #[t,t] o.type #[ρ x,ρ y]).run C.P w).andThen λv w=>.ok (.value v) w:=by
   simp[execOp,ho,resolve,invoke,builtin]
  have az:(execOp ρ o).run C.P w= .ok (.value (.slice a aa.length cap)) w:=by
   rw[bm,hv,a9x hu hs (U ao) (U cu) (U aV) bH];rfl
  rw[az];simp only[a0h,a1D,a8c]at hk
  rcases aa with _|⟨r0,aa⟩
  .obtain ⟨aR,bP⟩:=(hr.dead p).addDead ⟨0,0,0⟩;exact⟨_,_,_,bP,aR,by simpa[gnn,D6,hv]using h1.mono bP,hk⟩
  .have iD:σ[p]?=some (.tip (r0::aa).length):=by
    rcases bY with h|h
    .simp at h
    .exact h
   obtain⟨sz,hp,ha0,hoff,aP⟩:=dv p G;obtain⟨bP,aR⟩:=hr.tipNew (m:=(r0::aa).length) hp iD (n_6 _) bH;refine⟨_,_,_,bP,aR,?_,hk⟩;have hl:=h1.mono bP;rw[hv]at hl;obtain⟨a',cap',b',off',s'',vals',gI,q1,q2,q3,q4,q5,q6,q7,q8,q9,q10⟩:=hl.list_inv;injection gI with e1 e2 e3
   subst e1 e3;refine RV.list' (L:=(r0::aa).length) G vals' q1 q2 (by rw[q3]) (λh=>by cases h) q5 q6 q7 q8 q9 (λk' aJ=>?_);obtain⟨s3,g1,g2,g3,g4⟩:=q10 p G;injection aJ with aJ
   subst aJ;refine⟨s3,?_,g2,g3,g4⟩;have e4:=bP.get hp;rw[g1]at e4;rw[e4];simp[A5.add,<- hr.len]
 .rcases aa with _|⟨r,aa⟩
  .have e:σ.set p .dead=σ:=by
    rcases bY with h|h
    .exact h.2
    .refine b2J λi=>?_;rw[a9P]
     split
     .rename_i h';subst h';rw[W (n_2.1 h).1,h];rfl
     .rfl
   rw[e]at hk;exact b0o ho hx hy ex aO hu hs cg hz bp (.inl ⟨G,G,G⟩) aX Q hb aN (by simpa[kill,gnn,D6,l8]using hk)
  .have iD:σ[p]?=some (.tip (r::aa).length):=by
    rcases bY with h|h
    .simp at h
    .exact h
   exact b0o ho hx hy ex aO hu hs cg hz bp (.inr ⟨Q,p,G,iD⟩) aX Q hb aN hk
theorem d3Y{ti:TypeInfo}(ho:o.op = .call {callee:=.builtin .append,args:=#[x,y],argTypes:=#[t,t]})(hx:E.valid x)(hy:E.valid y)(ex:E.val C x= .list [] false none)
 (aO:∀M w v,Rel C M σ w->RV M w (E.val C y) v->Src C M w new s v)(hu:∀w,(underlying t).run C.P w= .ok (.slice e) w)(hs:∀w,(sizeOf e).run C.P w= .ok s w)(cg:∀w,(typeInfo e).run C.P w= .ok ti w)(hz:∀w,(zeroValue e).run C.P w= .ok z w)(bp:z.cells.size=s)
 (hb:new.length*ti.bytes<=140737488355328)(aN:new.length<=9223372036854775807)(m':Nat)(hm':new.length=m')
 (hk:K (.ret (.list new (gnn m') (D6 m' σ.length))) (σ++[l8 m'])):C5 C σ E o K:=
 B6 (m:=0) (p:=σ.length) ho hx hy ex G aO hu hs cg hz bp (.inl ⟨G,by rw[List.set_eq_of_length_le (n_6 _)]⟩) Q (U hb) (U aN) new m' Q (U hm') (by rw[List.set_eq_of_length_le (n_6 _)];exact hk)
end
section
theorem b0x(ho:o.op = .nilCheck x)(hx:E.valid x)(ex:E.val C x= .ptr k off):j4 C σ E o (.ptr k off):=
 i8 λM w ρ _ h=>by
  have h1:=h x r7 hx;rw[ex]at h1;generalize dV:ρ x=Jj at h1;cases h1 with
  |ptr hp=>exact⟨_,by simp[execOp,ho,dV],.ptr hp⟩
end
end Go.Cl
namespace Go.Cl
open Go Go.ChangeShapes Go.WideShapes Go.RowKit Go.ChangeAt
variable{w:World}{v:Value}{cs:List Value}
def R7(w:World):A5:={pl:=[],full:=λb=>b<w.heap.size,cell:=λ_ _=>False,keep:=λb=>b<w.heap.size}
theorem a6I{a:Addr}(h:w.cell? a=some v):a.block <w.heap.size/\a.spot=none:=by
 unfold World.cell? at h;split at h
 .rename_i hw;refine⟨(a06.1 hw).1,?_⟩;cases hs:a.spot with
  |none=>rfl
  |some s=>rw[hs]at h;simp at h
 .cases h
theorem a81{a:Addr}{k:Nat}(h:w.cell? (a.add k)=some v):a.add k=⟨a.block,a.off+k,none⟩:=by
 have hs:=(a6I h).2;unfold Addr.add at hs⊢;by_cases hk:k=0
 .rw [W hk]at hs⊢;subst hk;cases a;simp at hs;subst hs;rfl
 .rw [H hk]
theorem c9N{a:Addr}(h:w.cell? a=some v)(o:Nat):(R7 w).at a.block o:=.inl (a6I h).1
theorem b20{C:Ctx}(hg:∀g cells,C.glob g=some cells->GV (R7 w) w cells g):Rel C (R7 w) [] w:=by
 refine⟨G,λb o h=>?_,λk p ob h=>?_,λk k' p p' ob aH h=>?_,hg,λb h=>h,λk p ob h=>?_⟩
 .rcases h with h|h
  .exact h
  .exact h.elim
 all_goals simp[R7]at h
theorem b5e{w':World}{M':A5}(h:Ext (R7 w) w M' w'):Below w.heap.size w w':=
 ⟨h.os,h.tape,h.output,h.size,λk hk=>h.same k hk⟩
theorem a9O{C:Ctx}{f:FuncId}{ib:List CV}{Jh:World}{args:Array Value}{Jj:Value}
 (hg:∀g cells,C.glob g=some cells->GV (R7 Jh) Jh cells g)
 (hn:args.size=ib.length)(ha:∀(i:Nat) (c:CV),ib[i]?=some c->RV (R7 Jh) Jh c (args.getD i undef))
 (h:b8 C f ib [] λr ae=>r= .ret (.val Jj)/\ae=[]):Calls C.P f args Jh λe W'=>e= .returned Jj/\Below Jh.heap.size Jh W':=by
 refine(h (R7 Jh) Jh args (b20 hg) hn ha).mono λe W' he=>?_;cases e with
 |returned v=>
  obtain⟨c,ae,M',h1,h2,h3,h4,h5⟩:=he;cases h4;cases h3;exact⟨G,b5e h1⟩
 |panicked ch=>
  obtain⟨c,v,ae,M',-,-,-,-,h4,-⟩:=he;cases h4
 |outgrown=>exact he.elim
structure RCs(w:World)(row:List CV)(cs:List Value):Prop where
 len:row.length=cs.length
 one:∀c∈row,c.one=true
 rv:∀(j:Nat) (c:CV),row[j]?=some c->RV (R7 w) w c (cs.getD j undef)
theorem RCs.nil:RCs w [] []:=⟨G,λc h=>by simp at h,λj c h=>by simp at h⟩
theorem RCs.cons{c:CV}{row:List CV}(h1:c.one=true)(h2:RV (R7 w) w c v)(h:RCs w row cs):RCs w (c::row) (v::cs):=by
 refine⟨by simp[h.len],λx hx=>?_,λj x hj=>?_⟩
 .rcases I0.1 hx with rfl|hx
  .exact h1
  .exact h.one x hx
 .rcases j with _|j
  .simp at hj;subst hj;simpa using h2
  .simpa using h.rv j x (U hj)
theorem RCs.val{row:List CV}(h1:v.oneCell'=true)(h:RCs w row cs):RCs w (.val v::row) (v::cs):=h.cons h1 (.val v)
section
variable{Jg:Type}{enc:TypeId×Value->Jg}{P:Program}{base:Nat}{spare:Nat->Bool}{held:Bool}
theorem c8r{α:Type} [Inhabited α](f:α->List CV)(Ji:α->Prop){t e:TypeId}{fuel:Nat}{x:DataW Jg×List MemPlace}(ht:P.underlying t=some (.slice e)){s:Nat}(hs:P.cellsOf e=s)(h0:0<s)
 (gS:∀(n:Nat) (cs:List Value) (y:DataW Jg×List MemPlace),DataW.trod enc P w base spare held n e cs=some y->∃a,Ji a/\RCs w (f a) cs)
 (h:DataW.trod enc P w base spare held fuel t cs=some x):
 ∃(l:List α) (nn:Bool) (v:Value),cs=[v]/\RV (R7 w) w (.list (l.map f) nn none) v/\l.length<=maxLen/\(∀a∈l,Ji a)/\(nn=false->l=[]):=by
 rcases DataW.trod_slice ht h with⟨rfl,-⟩|⟨a,len,cap,elems,rest,n,-,rfl,-,hb,hl,hm,ao,hE,-,-⟩
 .exact ⟨[],false,_,G,.list (b:=0) (off:=0) (s:=s) (λ_ _=>undef) (n_6 _) (n_4 _) G V9 (λh=>by simp at h) (λr hr=>by simp at hr) (λr hr=>by simp at hr) (λi j r c hi=>by simp at hi) (λi j r c hi=>by simp at hi) (λk hk=>by cases hk),n_4 _,λa ha=>by simp at ha,λ_=>G⟩
 .have key:∀i:Nat,i<len->∃(a':α) (aW:List Value),Ji a'/\RCs w (f a') aW/\aW.length=s/\∀j,j<s->w.cell? (a.add (i*s+j))=some (aW.getD j undef):=by
   intro i hi;have h1:=hE i hi;have h2:elems[i]?=some (elems[i]'J):=a2o J;rw[h2,c7m]at h1;obtain⟨aW,hc,hy⟩:=h1;obtain⟨a',hQ,hR⟩:=gS _ _ _ hy;obtain⟨-,cr,bg⟩:=World.cells?_some hc;rw[hs]at cr bg;refine⟨a',aW,hQ,hR,cr,λj hj=>?_⟩;have:=bg j hj;rw[a2o J]at this;rw[b4D,a2o J];rw[<- Go.Deep.add_add,this];rfl
  have gu:∃F:Nat->α,∃Ja:Nat->List Value,∀i,i<len->Ji (F i)/\RCs w (f (F i)) (Ja i)/\(Ja i).length=s/\∀j,j<s->w.cell? (a.add (i*s+j))=some ((Ja i).getD j undef):=by
   classical
   by_cases hlz:len=0
   .subst hlz;exact⟨λ_=>default,λ_=>[],λi hi=>absurd hi (Nat.not_lt_zero _)⟩
   .obtain ⟨a0,-⟩:=key 0 J;have:∀i:Nat,∃p:α×List Value,i<len->Ji p.1/\RCs w (f p.1) p.2/\p.2.length=s/\∀j,j<s->w.cell? (a.add (i*s+j))=some (p.2.getD j undef):=λi=>by
     by_cases hi:i<len
     .obtain ⟨a',aW,h⟩:=key i hi;exact⟨(a',aW),λ_=>h⟩
     .exact ⟨(a0,[]),λh=>absurd h hi⟩
    exact⟨λi=>(Classical.choose (this i)).1,λi=>(Classical.choose (this i)).2,λi hi=>Classical.choose_spec (this i) hi⟩
  obtain⟨F,Ja,hF⟩:=gu;have bT:∀(i:Nat) (r:List CV),(((List.range len).map F).map f)[i]?=some r->i<len/\r=f (F i):=λi r hi=>by
   rw[List.map_map,N6]at hi
   rcases a3d i len with h|h
   .rw [List.getElem?_range h]at hi;exact⟨h,(Option.some.inj hi).symm⟩
   .rw [b5V (U h)]at hi;cases hi
  have bw:∀r∈((List.range len).map F).map f,∃i,i<len/\r=f (F i):=λr hr=>by
   obtain⟨i,hi⟩:=J6.1 hr;exact⟨i,bT i r hi⟩
  have eA:(((List.range len).map F).map f).length=len:=by simp
  refine⟨(List.range len).map F,true,_,G,?_,by simp;omega,λx hx=>?_,λh=>by cases h⟩
  .have:=RV.list (M:=R7 w) (w:=w) (aa:=((List.range len).map F).map f) (nn:=true) (tok:=none) (a:=some a) (cap:=cap) (b:=a.block) (off:=a.off) (s:=s) (λi j=>(Ja i).getD j undef)
    (by rw[eA];exact hl) hm G (λh=>by cases h) (λaB=>?_) (λr hr=>?_) (λr hr=>?_) (λi j r c hi hj=>?_) (λi j r c hi hj=>?_) (λk hk=>by cases hk)
   .rw [eA]at this;exact this
   .rcases b9x len with hz|hz
    .subst hz;exact absurd G aB
    .have:=(hF 0 hz).2.2.2 0 h0;have:=a81 this;simpa[Addr.add]using this
   .obtain ⟨i,hi,rfl⟩:=bw r hr;rw[(hF i hi).2.1.len,(hF i hi).2.2.1]
   .obtain ⟨i,hi,rfl⟩:=bw r hr;exact(hF i hi).2.1.one
   .obtain ⟨bd,rfl⟩:=bT i r hi;have hjs:j<s:=by
     have:=(n_2.1 hj).1;rw[(hF i bd).2.1.len,(hF i bd).2.2.1]at this;exact this
    have hc:=(hF i bd).2.2.2 j hjs;rw[a81 hc,<- b2b]at hc;exact⟨c9N hc _,hc⟩
   .obtain ⟨bd,rfl⟩:=bT i r hi;exact(hF i bd).2.1.rv j c hj
  .obtain ⟨i,hi,rfl⟩:=D8.1 hx;exact(hF i (U hi)).1
end
theorem a5T{Jg:Type}{enc:TypeId×Value->Jg}{P:Program}(hl:laidOutB P=true){Jh W':World}(hb:Below Jh.heap.size Jh W'){sp:Nat->Bool}:∀{ts:List TypeId} {vs:List Value} {ds:List (DataW Jg)} {ps:List MemPlace},(∀t∈ts,P.readableRec t=true/\t<P.types.size)->DataW.TrodAll enc P Jh 0 (λ_=>true) true ts vs ds ps->(∀p∈ps,p.block <Jh.heap.size)->(∀p∈ps,sp p.block=true)->DataW.TrodAll enc P W' 0 sp true ts vs ds ps
 | [],[],[],_,_,h,_,_=>h
 |t::ts,v::vs,d::ds,ps,hr,h,ai,aj=>by
  obtain⟨p,q,h1,h2,rfl⟩:=h;exact⟨p,q,WideElems.Trod_stays hl (hr t Q).1 (hr t Q).2 h1 (λx hx=>hb.same (ai x (by simp[hx]))) (λx hx=>aj x (by simp[hx])),
   a5T hl hb (λt ht=>hr t (by simp[ht])) h2 (λx hx=>ai x (by simp[hx])) (λx hx=>aj x (by simp[hx])),G⟩
 | [],_::_,_,_,_,h,_,_=>h.elim
 | [],[],_::_,_,_,h,_,_=>h.elim
 |_::_,[],_,_,_,h,_,_=>h.elim
 |_::_,_::_,[],_,_,h,_,_=>h.elim
theorem c8S{P:Program}{ts:List TypeId}(h:(ts.all λt=>P.readableRec t&&decide (t<P.types.size))=true):∀t∈ts,P.readableRec t=true/\t<P.types.size:=λt ht=>by
 have:=a6h.1 h t ht;simpa using this
theorem c1j{Jg:Type}{enc:TypeId×Value->Jg}{P:Program}{f:Func}{s:ChangeSpec}{apart iE eP iF:Bool}{Jh W':World}{args:Array Value}{ds gs:List (DataW Jg)}{bJ pa pv:List MemPlace}
 (hW:DataW.Whole enc P f.params.toList s.vars apart Jh args.toList ds gs bJ)
 (dy:∀(b:Nat) (sp:Nat->Bool) (hd:Bool),DataW.TrodAll enc P W' b sp hd f.resultTypes.toList (v.resultList f.resultTypes.size) (s.fn Jg (ds++gs)).results [])
 (ap:∀sp:Nat->Bool,(∀p∈bJ,sp p.block=true)->DataW.TrodAll enc P W' 0 sp true f.params.toList args.toList (s.fn Jg (ds++gs)).args pa)
 (hvars:∀sp:Nat->Bool,(∀p∈bJ,sp p.block=true)->DataW.TrodVars enc P W' sp s.vars (s.fn Jg (ds++gs)).vars pv)
 (cE:bJ=pa++pv)(hb:Below Jh.heap.size Jh W')
 (dM:∀(j:Nat) (t:TypeId) (r:Value),f.resultTypes[j]?=some t->(v.resultList f.resultTypes.size)[j]?=some r->Value.okWide P W' .any 0 t r):
 s.post enc P f apart iE eP iF Jh args v W':=by
 have ai:∀p∈bJ,p.block <Jh.heap.size:=λp hp=>hW.lt p hp;have bN:∀p∈bJ,(λb=>decide (b<Jh.heap.size)) p.block=true:=λp hp=>by simpa using ai p hp
 refine⟨ds,gs,bJ,[],pa,pv,hW,dy _ _ _,ap _ bN,hvars _ bN,World.keptBut_mono (λp hp=>⟨hp,?_⟩) (hb.frame (·∈bJ)),λ_=>?_⟩
 .rw [cE,Q9]at hp;exact Or.inr hp
 .obtain ⟨_,_,_,_,_,hz,hn⟩:=hW;refine⟨dM,_,_,([]++pa)++pv,⟨[]++pa,pv,trodAll_append (ap _ (λ_ _=>G)) (dy _ _ _),hvars _ (λ_ _=>G),G,?_,?_⟩,?_⟩
  .intro b off hp;have bW:MemPlace.cell b off∈bJ:=by rw[cE];simpa using hp
   rw[hb.frozen (ai _ bW)];exact hz b off bW
  .intro ha;have:=hn ha;rw[cE]at this;simpa using this
  .intro p hp _;rw[cE];simpa using hp
theorem c1f{C:Checked}{os:Os}{f:FuncId}{fn:Func}{s:ChangeSpec}{CX:Ctx}{iG:List (String×DataW Unit)}{Jg:Type}{enc:TypeId×Value->Jg}{iE eP iF:Bool}{tb:TypeId}(cP:Array Value)(fuel:Nat)(w0:World)
 (hP:CX.P=C.prog)(own:ownKnob C.prog.godebug=none)(cQ:os.Started)(noInit:C.prog.inits.idxOf? f=none)(cu:C.prog.funcs[f]?=some fn)
 (hl:laidOutB C.prog=true)(hread:∀t∈fn.params.toList,C.prog.readableRec t=true/\t<C.prog.types.size)(hv:s.vars=[])
 (hs:∀ds:List (DataW Jg),ds.length=fn.params.size->s.fn Jg ds={results:=[.lit (.bool true)],args:=ds})
 (hrt:fn.resultTypes = #[tb])(htb:C.prog.underlying tb=some .bool)
 (hg:∀Jh,laidMetH C.prog iG Jh->∀g cells,CX.glob g=some cells->GV (R7 Jh) Jh cells g)
 (hos:w0.os=os)(hsh:(w0.forCall (λ_ _=>0) ⟨#[],cP,[]⟩).Shaped C.prog)
 (dM:Input.okWideB C.prog (w0.forCall (λ_ _=>0) ⟨#[],cP,[]⟩) f ⟨#[],cP,[]⟩=true)
 (gT:s.preB enc C.prog fn [] false (w0.forCall (λ_ _=>0) ⟨#[],cP,[]⟩).memory cP fuel=true)
 (aP:s.sizedB enc C.prog fn false (w0.forCall (λ_ _=>0) ⟨#[],cP,[]⟩).memory cP fuel=true)
 (hx:laidMetH C.prog iG (w0.forCall (λ_ _=>0) ⟨#[],cP,[]⟩).memory)
 (walk:∀(Jh:World) (base:Nat) (args:Array Value) (ds:List (DataW Jg)) (ps:List MemPlace),(∀(j:Nat) t v,fn.params[j]?=some t->args[j]?=some v->Value.okWide C.prog Jh .any base t v) ->
  DataW.TrodAll enc C.prog Jh 0 (λ_=>true) true fn.params.toList args.toList ds ps ->
  ∃ib:List CV,args.size=ib.length/\(∀(i:Nat) (c:CV),ib[i]?=some c->RV (R7 Jh) Jh c (args.getD i undef))/\b8 CX f ib [] λr ae=>r= .ret (.val (.bool true))/\ae=[]):
 ReturnsInHanded {} C os f .any (λw args=>(s.pre enc C.prog fn [] false w args/\laidMetH C.prog iG w)/\sizedMet enc C.prog fn (OpenSpec.ofChange s) false w args) (s.post enc C.prog fn false iE eP iF):=by
 refine returnsInHanded_of_change_and (C:=C) (X:=λw _=>laidMetH C.prog iG w) (λ_ _ _ hh h=>h.of_heap hh) own cQ noInit cu
  (ChangeSpec.witness_shaped (enc:=enc) (C:=C) (os:=os) (X:=λw _=>laidMetH C.prog iG w) false w0 cP fuel hos hsh dM gT aP hx) ?_
 intro Jh base args ds gs bJ bI hW _ _ hL _;have hW':=hW;obtain⟨p,q,hA,hV,rfl,-,-⟩:=hW;rw[hv]at hV;have hgs:gs=[]/\q=[]:=by
  cases gs with
  |nil=>exact⟨G,hV⟩
  |cons g r=>exact hV.elim
 obtain⟨rfl,rfl⟩:=hgs;obtain⟨ib,h1,h2,h3⟩:=walk Jh base args ds p bI hA;have fm:ds.length=fn.params.size:=by
  have:∀{ts:List TypeId} {vs:List Value} {ds:List (DataW Jg)} {ps:List MemPlace},DataW.TrodAll enc C.prog Jh 0 (λ_=>true) true ts vs ds ps->ds.length=ts.length:=by
   intro ts
   induction ts with
   |nil=>intro vs ds ps h;obtain⟨-,rfl,-⟩:=trodAll_nil h;rfl
   |cons t ts ih=>intro vs ds ps h;obtain⟨v,vs1,d,ds1,a,b,-,rfl,-,-,h2⟩:=trodAll_cons h;simp[ih h2]
  simpa using this hA
 have hsd:=hs (ds++[]) (U fm);have hc:=a9O (hg Jh hL) h1 h2 h3;rw[hP]at hc;refine hc.mono λe W' ⟨he,hb⟩=>⟨_,he,?_⟩;refine c1j (pa:=p) (pv:=[]) hW' (λb sp hd=>?_) (λsp aj=>?_) (λsp _=>?_) G hb ?_
 .rw [hsd,hrt];exact trodAll_mk1 (shut_bool htb _)
 .rw [hsd];have ai:∀x∈p,x.block <Jh.heap.size:=λx hx=>hW'.lt x (by simp[hx]);simpa using a5T hl hb hread hA ai λx hx=>aj x (by simp[hx])
 .rw [hsd,hv];rfl
 .exact ok_one hrt G (okWide_bool_mk htb _)
end Go.Cl
namespace Go.Cl
variable{x y:Operand}{ts:Array TypeId}{a b:Int}
section
variable{C:Ctx}{E:Env}{σ:List b9}{o:Oper}
theorem e2v{k:IntKind}(ho:o.op = .call {callee:=.builtin .max,args:=#[x,y],argTypes:=ts})(hx:E.valid x)(hy:E.valid y)(ex:E.val C x= .val (.int k a))(ey:E.val C y= .val (.int k b)):j4 C σ E o (.val (.int k (max a b))):=
 i8 λM w ρ _ h=>by
  have h1:=h x J9 hx;have h2:=h y J9 hy;rw[ex]at h1;rw[ey]at h2;refine⟨.int k (max a b),?_,.val _⟩;simp[execOp,ho,resolve,invoke,builtin,r6 h1,r6 h2,Go.Lib.run_max_ints]
end
section
variable{C:Ctx}{E:Env}{σ:List b9}{o:Oper}
theorem b0a{t e:TypeId}{s:Nat}{new:List (List CV)}{ti:TypeInfo}{z:Value}{K:L7->List b9->Prop}(m':Nat)(ho:o.op = .call {callee:=.builtin .append,args:=#[x,y],argTypes:=#[t,t]})(hx:E.valid x)(hy:E.valid y)(ex:E.val C x= .list [] false none)
 (aO:∀M w v,Rel C M σ w->RV M w (E.val C y) v->Src C M w new s v)(hu:∀w,(underlying t).run C.P w= .ok (.slice e) w)(hs:∀w,(sizeOf e).run C.P w= .ok s w)(cg:∀w,(typeInfo e).run C.P w= .ok ti w)(hz:∀w,(zeroValue e).run C.P w= .ok z w)(bp:z.cells.size=s)
 (bl:0<new.length)(hb:new.length*ti.bytes<=140737488355328)(aN:new.length<=9223372036854775807)(hm:new.length=m')
 (hk:K (.ret (.vec σ.length 0 m')) (σ++[.vec s new])):C5 C σ E o K:=λM w ρ hr hh=>by
 subst hm;have h1:=hh x J9 hx;have h2:=hh y J9 hy;rw[ex]at h1;have ao:=(aO M w _ hr h2).lenOf;have bm:(execOp ρ o).run C.P w=((Builtin.append_ #[t,t] o.type #[ρ x,ρ y]).run C.P w).andThen λv w=>.ok (.value v) w:=by
  simp[execOp,ho,resolve,invoke,builtin]
 have h1i:=h1;obtain⟨a,cap,b,off,s',vals,hv,bH,fC,fx,dX,-,-,-,-,-,-⟩:=h1i.list_inv;have dx:=dX G;subst dx;obtain⟨dq,fZ⟩:=hr.drewN;have db:=a1f (C:=C) (s:=s) (a3v h1) (λr hr=>by simp at hr);rw[hv]at db;obtain⟨a1,c1,dO,_,aX,old,hfo,cy,dw⟩:=db;obtain⟨an,cn,hvn,_,bR,arr,cu,aV,bf⟩:=aO M w.drew _ dq (a3v h2);obtain⟨c',cK,fj,az⟩:=Q1 (P:=C.P) (ty:=o.type) (a:=a) (c:=0) (w:=w) (n:=([]:List (List CV)).length) (m:=new.length) hu (.inl hu) hs cg hz ao hfo cu G5 (U aN) (U hb);rw[bm,hv,az];simp only[Result.andThen_ok];have eO:w.drew.heap.size=w.heap.size:=G;rw[<- eO];have dd:(old++arr++Builtin.zeroCells z.cells (c'- (([]:List (List CV)).length+new.length))).size=c'*s:=by
  simp only[b3Z,O9,cy,aV,bp];rw[<- P9,<- P9]
  congr 1;omega
 have aK:=Ext.alloc dq ⟨w.drew.heap.size,c',s⟩ (.cells (old++arr++Builtin.zeroCells z.cells (c'- (([]:List (List CV)).length+new.length))) e);have ax:=a1j (rest:=Builtin.zeroCells z.cells (c'- (([]:List (List CV)).length+new.length))) cy aV aX bR (λi j r c hi hj=>(dw i j r c hi hj).1) (λi j r c hi hj=>(bf i j r c hi hj).1);have bk:=dq.alloc ⟨w.drew.heap.size,c',s⟩ (.cells (old++arr++Builtin.zeroCells z.cells (c'- (([]:List (List CV)).length+new.length))) e) (.vec s ([]++new)) G
  ⟨G,U cK,by unfold maxLen;simp only;omega,U bR,λr hr c hc=>(by
   obtain⟨i,hi⟩:=J6.1 (by simpa using hr:r∈new);obtain⟨j,hj⟩:=J6.1 hc;exact(bf i j r c hi hj).2),_,e,x8 _ _,dd,λi j r c hi hj=>((ax i j r c hi hj).2.mono aK)⟩
 refine⟨.vec σ.length 0 new.length,_,_,fZ.trans aK,bk,?_,hk⟩;have:=RV.vec (M:=M.add ⟨w.drew.heap.size,c',s⟩) (w:=w.drew.alloc (.cells (old++arr++Builtin.zeroCells z.cells (c'- (([]:List (List CV)).length+new.length))) e)) (k:=σ.length) (off:=0) (len:=new.length) (p:=⟨w.drew.heap.size,c',s⟩) (a:=⟨w.drew.heap.size,0,none⟩) a7i (U cK) b8k (λ_=>by simp);simpa using this
end
inductive ClO(n:Nat)(σ:List b9):b9->b9->Prop where
 |dead {ob:b9}:ClO n σ ob .dead
 |same {ob:b9}:G1 n ob->ClO n σ ob ob
 |box {t0:Option TypeId} {cells ay:List CV}:a6A n σ cells ay->ClO n σ (.boxT t0 cells) (.boxT t0 ay)
def a4o(n:Nat)(σ:List b9):List b9->List b9->Prop
 |_,[]=>True
 |a::l,b::l'=>ClO n σ a b/\a4o n σ l l'
 | [],_::_=>False
theorem a4o.get{n:Nat}{σ:List b9}:∀{l l':List b9},a4o n σ l l'->l'.length<=l.length/\∀(k:Nat) (b:b9),l'[k]?=some b->∃a,l[k]?=some a/\ClO n σ a b
 |_,[],_=>⟨n_4 _,λk b h=>by simp at h⟩
 |a::l,b::l',⟨h1,h⟩=>by
  obtain⟨g1,g2⟩:=h.get;refine⟨Nat.succ_le_succ g1,λk b hk=>?_⟩
  rcases k with _|k
  .simp at hk;subst hk;exact⟨a,G,h1⟩
  .exact g2 k b (U hk)
theorem Rel.cutCls{C:Ctx}(hC:C.plain){M:A5}{σ S:List b9}{w:World}(hr:Rel C M σ w)(hS:a4o S.length σ σ S):
 Rel C (M.cutAt S.length σ) S w/\Cut S.length M (M.cutAt S.length σ)/\∀M0 w0,Ext M0 w0 M w->M0.pl.length<=S.length->Ext M0 w0 (M.cutAt S.length σ) w:=by
 obtain⟨aT,gv⟩:=hS.get;have aS:Cut S.length M (M.cutAt S.length σ):=⟨G,λ_ h=>.inl h,λ_ _ h=>.inr h⟩;have iC:∀(k:Nat) (p:Pl) (s:Nat) (aa:List (List CV)),S.length<=k->M.pl[k]?=some p->σ[k]?=some (.vec s aa)->(M.cutAt S.length σ).full p.block:=λk p s aa hk hp aw=>.inr ⟨k,p,_,hk,hp,aw,G,G⟩;have ax:∀{k:Nat} {p:Pl},(M.cutAt S.length σ).pl[k]?=some p->k<S.length/\M.pl[k]?=some p:=by
  intro k p hk;have hk:(M.pl.take S.length)[k]?=some p:=hk;rw[a38]at hk;split at hk
  .exact ⟨‹_›,hk⟩
  .cases hk
 have ao:S.length<=M.pl.length:=by rw[hr.len];exact aT
 have cb:∀{a b:b9},ClO S.length σ a b->b.live=true->a.live=true:=by
  intro a b h hl;cases h with
  |dead=>cases hl
  |same _=>exact hl
  |box _=>rfl
 refine⟨⟨by show(M.pl.take S.length).length=_;simp;omega,λb o ha=>?_,λk p ob hk hs=>?_,λk k' p p' ob aH hk aJ hs aU dD dE hb=>?_,λg cells hg=>?_,hr.kep,λk p ob hk hs cm=>?_⟩,aS,λM0 w0 hx aT=>?_⟩
 .rcases ha with(ha|⟨k,p,ob,_,hp,hs,hl,rfl⟩)|ha
  .exact hr.blk b o (.inl ha)
  .exact (hr.obj k p ob hp hs).1.lt hl
  .exact hr.blk b o (.inr ha)
 .obtain ⟨ai,hp⟩:=ax hk;obtain⟨a,ha,bZ⟩:=gv k ob hs;obtain⟨h1,h2⟩:=hr.obj k p a hp ha;have ga:a.live=true->¬M.full p.block->¬(M.cutAt S.length σ).full p.block:=λcm ga h=>by
   rcases h with h|⟨k',p',aH,aJ,aI,aU,bz,hb⟩
   .exact ga h
   .have:=hr.inj k' k p' p aH a aI hp aU ha bz cm hb;omega
  cases bZ with
  |dead=>exact⟨O,O⟩
  |same ho=>
   refine⟨?_,?_⟩
   .cases ob with
    |dead=>trivial
    |boxT t0 cells=>
     obtain⟨arr,ty,e1,e2,e3,e4⟩:=h1;exact⟨arr,ty,e1,e2,e3,λi c hi=>(e4 i c hi).cut aS (ho c (n_3 hi))⟩
    |tipT t0 m=>exact h1
    |blk o=>exact h1
    |lp o n cs=>
     obtain⟨tm,e1,e2,e3⟩:=h1;exact⟨tm,e1,e2,λx hi=>(e3 x hi).cut aS (ho x hi)⟩
    |vec s aa=>
     obtain⟨e0,e1,e2,e3,e4,arr,ty,e5,e6,e7⟩:=h1;exact⟨e0,e1,e2,e3,e4,arr,ty,e5,e6,λi j r c hi hj=>(e7 i j r c hi hj).cut aS (ho r (n_3 hi) c (n_3 hj))⟩
    |map es=>
     obtain⟨ah,ak,e1,e2,e3⟩:=h1;refine⟨ah,ak,e1,e2,λi x hi=>?_⟩;obtain⟨e,g1,g2,g3,g4⟩:=e3 i x hi;have:=ho x (n_3 hi);exact⟨e,g1,g2.cut aS this.1,g3.cut aS this.2,g4⟩
    |iter aF es=>
     obtain⟨mb,seen,bG,ah,ak,e1,e2,e3,e4,e5,e6,e7,e8,e9⟩:=h1;refine⟨mb,seen,bG,ah,ak,e1,aS.full _ e2,e3,e4,e5,e6,e7,λi x hi=>?_,λi x hi=>?_⟩
     .obtain ⟨e,g1,g2,g3⟩:=e8 i x hi;have:=ho.2 x (n_3 hi);exact⟨e,g1,g2.cut aS this.1,g3.cut aS this.2⟩
     .obtain ⟨hl,j,e,g0,g1,g2,g3⟩:=e9 i x hi;have:=ho.1 x (n_3 hi);exact⟨hl,j,e,g0,g1,g2.cut aS this.1,g3.cut aS this.2⟩
   .cases ob with
    |dead=>trivial
    |tipT t0 m=>exact ga G h2
    |_=>exact⟨ga G h2.1,h2.2⟩
  |box hc=>
   obtain⟨cr,hcg⟩:=hc.get;obtain⟨arr,ty,e1,e2,e3,e4⟩:=h1;refine⟨⟨arr,ty,e1,by rw[e2,cr],λc hm=>?_,λi c' hi=>?_⟩,ga G h2.1,h2.2⟩
   .obtain ⟨i,hi⟩:=J6.1 hm;obtain⟨y,hy⟩:=p7 cr hi;exact(hcg i y c hy hi).one (e3 y (n_3 hy))
   .obtain ⟨y,hy⟩:=p7 cr hi;exact RV.close hr aS iC (hcg i y c' hy hi) (e4 i y hy)
 .obtain ⟨a,ha,bZ⟩:=gv k ob hs;obtain⟨a',cA,hab'⟩:=gv k' aH aU;exact hr.inj k k' p p' a a' (ax hk).2 (ax aJ).2 ha cA (cb bZ dD) (cb hab' dE) hb
 .refine ⟨?_,aS.full _ (hr.glob g cells hg).full,(hr.glob g cells hg).sz⟩;exact(hr.glob g cells hg).rv.cut aS (.cptr λj c hj=>(hC g cells hg c (n_3 hj)).old)
 .obtain ⟨a,ha,bZ⟩:=gv k ob hs;exact hr.nk k p a (ax hk).2 ha (cb bZ cm)
 .obtain ⟨l,hl⟩:=hx.pl;refine⟨⟨l.take (S.length -M0.pl.length),?_⟩,λb h=>.inl (hx.full b h),λb o h=>aS.at (hx.cell b o h),hx.same,hx.sameC,hx.size,hx.drew,hx.os,hx.tape,hx.output,λb hb=>?_⟩
  .show M.pl.take S.length=_;rw[hl,List.take_append,a2p aT]
  .obtain ⟨k1,k2,k3,k4⟩:=hx.kept b hb;refine⟨k1,k2,λf=>?_,k4⟩
   rcases f with f|⟨k,p,ob,_,hp,hs,cm,rfl⟩
   .exact k3 f
   .exact absurd k1 (hr.nk k p ob hp hs cm)
section
variable{C:Ctx}{n:Nat}{Ji:A7->Env->List b9->Prop}{E:Env}{σ:List b9}
end
section
variable{C:Ctx}{E:Env}{σ:List b9}{o:Oper}
theorem b1L{s d:TypeId}{k k0 k':IntKind}(ho:o.op = .convert s d x)(hx:E.valid x)(ex:E.val C x= .val (.int k a))(hs:∀w,(underlying s).run C.P w= .ok (.int k0) w)(hd:∀w,(underlying d).run C.P w= .ok (.int k') w)(hb:k'.wrap a=b):j4 C σ E o (.val (.int k' b)):=
 i8 λM w ρ _ h=>by
  have h1:=h x r7 hx;rw[ex]at h1;refine⟨.int k' b,?_,.val _⟩;simp[execOp,ho,convert,hs,hd,r6 h1,Conv.intToInt,hb]
theorem d3x{f:FuncId}{cx:Operand}{xs:Array Operand}{cargs:List CV}{K:L7->List b9->Prop}(ho:o.op = .call {callee:=.value cx,args:=xs,argTypes:=ts})(hc:E.valid cx)(ec:E.val C cx= .val (.func (.func f) #[] #[]))(aE:∀args w,(callFunc f args).run C.P w= .ok (.enter f args) w)
 (hv:∀x∈xs.toList,E.valid x)(ea:xs.toList.map (E.val C)=cargs)(h:b8 C f cargs σ K):C5 C σ E o K:=λM w ρ hr hh=>by
 have hf:=hh cx J9 hc;rw[ec]at hf;have ef:=r6 hf;have az:(execOp ρ o).run C.P w= .ok (.enter f (xs.map ρ)) w:=by
  simp[execOp,ho,resolve,ef,Deferred.ofValue,invoke,aE]
 rw[az];refine(h M w (xs.map ρ) hr (by simp[<- ea]) λi c hi=>?_).mono λe w' he=>by cases e<;>exact he
 subst ea;simp only[N6,M8]at hi;obtain⟨x,hx,rfl⟩:=hi;have aD:xs[i]?=some x:=U hx;have hm:x∈xs:=b4k aD;have:(xs.map ρ).getD i undef=ρ x:=by
  rw[a0b,c0M,aD];rfl
 rw[this];exact hh x (by simp[ho,Op.operands,Call.operands,hm]) (hv x (U hm))
theorem d5S{k:IntKind}(ho:o.op = .call {callee:=.builtin .min,args:=#[x,y],argTypes:=ts})(hx:E.valid x)(hy:E.valid y)(ex:E.val C x= .val (.int k a))(ey:E.val C y= .val (.int k b)):j4 C σ E o (.val (.int k (min a b))):=
 i8 λM w ρ _ h=>by
  have h1:=h x J9 hx;have h2:=h y J9 hy;rw[ex]at h1;rw[ey]at h2;refine⟨.int k (min a b),?_,.val _⟩;simp[execOp,ho,resolve,invoke,builtin,r6 h1,r6 h2,Go.Lib.run_min_ints]
end
end Go.Cl
