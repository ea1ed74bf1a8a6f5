/- Part 3 of what the claim needs: values without addresses, and what the program's functions do with them. -/
import Derived.Test.YtncmhkpnclafkaaGreatDoorProg
import Derived.Test.YtncmhkpnclafkaaGreatDoorC2
set_option linter.all false
set_option maxRecDepth 100000
set_option maxHeartbeats 4000000
namespace Go.Cl
variable{t e:TypeId}{K:L7->List b9->Prop}{c:CV}{aa:List (List CV)}{x y:Operand}{P:Program}{z:Value}{i:Nat}{nn:Bool}{tok:Option Nat}
section
variable{C:Ctx}{n:Nat}{af:Array Oper}{Ji:A7->Env->List b9->Prop}{E E':Env}{σ:List b9}
def Unr(C:Ctx)(n:Nat)(c:Code)(Ji:A7->Env->List b9->Prop):Nat->Env->List b9->Prop
 |0,_,_=>False
 |k+1,E,σ=>qc C n 999 999 c (A7.next (λE σ=>Unr C n c Ji k E σ) Ji) E σ
theorem e0o(k:Nat){c:Code}(h:Unr C n c Ji k E σ):CWp C n (.loop c) Ji E σ:=c3a (Unr C n c Ji) k h λm E σ hI=>by
 cases m with
 |zero=>exact hI.elim
 |succ m=>
  refine CWp.mono (a4z hI) λe E σ h=>?_;cases e with
  |normal=>exact⟨m,Nat.lt_succ_self m,h⟩
  |_=>exact h
theorem a0l{P:Program}{f:FuncId}{fn:Func}{c:Code}(hf:P.funcs[f]?=some fn)(hb:fn.body =some c)(hn:(fn.name == "runtime.NumGoroutine")=false): ∀args w,(callFunc f args).run P w= .ok (.enter f args) w:=λargs w=>by
 have hn: ¬fn.name = "runtime.NumGoroutine" :=U hn
 simp[callFunc,hf,hb,hn,go_sem]
variable{o:Oper}{l:List Oper}
abbrev DK(C:Ctx)(n:Nat)(af:Array Oper)(Ji:A7->Env->List b9->Prop)(l:List Oper)(E:Env)(o:Oper):L7->List b9->Prop:=λr ae=>match r with| .ret c=>a8H C n af Ji l (E.putO o.dst c .yes) ae| .pan c=>Ji (.pan c) E ae
theorem x_g{j t:Nat}{av:Bool}(hg:o.guard=some (j,av))(ht:(af[j]?).bind (·.dst)=some t)(hv:E.ok t)(hb:E.f t= .val (.bool av))(hd:(match o.dst with|some d=>Nat.blt d n|none=>true)=true)(h:C5 C σ E o (DK C n af Ji l E o)):F0 C n af Ji (o::l) E σ:=
 b2R (b:=av) (.val undef) hg ht hv hb hd (λ_=>h.mono λr ae h=>by
  cases r with
  |ret c=>rw[show(av=av)=True from eq_true G];exact(a1E h).yes
  |pan c=>exact h) λh=>absurd G h
theorem L9:∀{l:List Operand},l.all E.vb=true->E.valids l
 | [],_=>trivial
 |x::l,h=>by
  rw[b3W,R9]at h;exact⟨Env.vb_ok h.1,L9 h.2⟩
theorem d8Y{f:FuncId}{fn:Func}{c:Code}{xs:Array Operand}{ts:Array TypeId}{K:L7 → List b9 → Prop}(ho:o.op = .call {callee:=.value (.func f),args:=xs,argTypes:=ts})(hv:E.valids xs.toList)(hf:C.P.funcs[f]?=some fn)(hb:fn.body =some c)(hn:(fn.name == "runtime.NumGoroutine")=false)(hl:Nat.ble ((E.vals C xs.toList).map CV.fgt).length fn.ntmps =true)
 (h:qc C fn.ntmps 999 999 c (Fin C fn K) (Env.args ((E.vals C xs.toList).map CV.fgt)) σ):C5 C σ E o K:=
 b03 ho (a0l hf hb hn) (Env.valids_mem hv) (Env.vals_map _) (Y8 (qO hf h hb hl))
theorem qCt{c:Operand}{x y:Code}(h:qc C n 999 999 x Ji E σ)(hv:E.valid c)(hc:E.val C c= .val (.bool true)):CWp C n (.cond c x y) Ji E σ:=a2A hv hc (λ_=>a4z h) λh=>by cases h
theorem qCf{c:Operand}{x y:Code}(h:qc C n 999 999 y Ji E σ)(hv:E.valid c)(hc:E.val C c= .val (.bool false)):CWp C n (.cond c x y) Ji E σ:=a2A hv hc (λh=>by cases h) λ_=>a4z h
theorem qX{id:Nat}(h:Ji (.exit id) E σ):CWp C n (.exit id) Ji E σ:=o6 h
theorem e2s{f:FuncId}{fn:Func}{c:Code}{xs:Array Operand}{ts:Array TypeId}{K:L7 → List b9 → Prop}{cargs:List CV}{α:Type}{r:α → CV}{S:α → List b9}{P:α → Prop}(ho:o.op = .call {callee:=.value (.func f),args:=xs,argTypes:=ts})(hf:C.P.funcs[f]?=some fn)(h:b8 C f cargs σ λr' τ=>∃a,r'= .ret (r a) ∧ τ=S a ∧ P a)(hv:E.valids xs.toList)(hb:fn.body =some c)(hn:(fn.name == "runtime.NumGoroutine")=false)
 (ea:(E.vals C xs.toList).map CV.fgt=cargs)(k:∀a,P a->K (.ret (r a)) (S a)):C5 C σ E o K:=c4 ho (a0l hf hb hn) hv h ea k
theorem a11{f:FuncId}{fn:Func}{c:Code}{xs:Array Operand}{ts:Array TypeId}{K:L7 → List b9 → Prop}{cargs:List CV}{r:CV}(ho:o.op = .call {callee:=.value (.func f),args:=xs,argTypes:=ts})(hf:C.P.funcs[f]?=some fn)(h:b8 C f cargs σ λr' τ=>r'= .ret r ∧ τ=σ)(hv:E.valids xs.toList)(hb:fn.body =some c)(hn:(fn.name == "runtime.NumGoroutine")=false)
 (ea:(E.vals C xs.toList).map CV.fgt=cargs)(k:K (.ret r) σ):C5 C σ E o K:=d_y (c5 ho (a0l hf hb hn) hv h ea) k
theorem a1d{i:TypeInfo}{v:Value}(h:P.info? t=some i)(hz:i.zero=some v)(w:World):(zeroValue t).run P w= .ok v w:=by simp[zeroValue,typeInfo,h,hz]
theorem b1d{i:TypeInfo}(h:P.info? t=some i)(w:World):(typeInfo t).run P w= .ok i w:=by simp[typeInfo,h]
theorem c09{fn:Func}{t:Nat}(hr:fn.results = #[.tmp t])(hv:E.ok t)(ec:E.f t=c)(k:K (.ret c) σ):Fin C fn K .ret E σ:=⟨c,I8 hr hv ec,k⟩
theorem d9y{fn:Func}{t Jj:Nat}{d:CV}(hr:fn.results = #[.tmp t,.tmp Jj])(hv:E.ok t)(cL:E.ok Jj)(ec:E.f t=c)(ed:E.f Jj=d)(k:K (.ret (.tup [c,d])) σ):Fin C fn K .ret E σ:=⟨_,o9 (rs:=[.tmp t,.tmp Jj]) (cs:=[c,d]) hr ⟨⟨hv,ec⟩,⟨cL,ed⟩,O⟩ Q,k⟩
theorem d3S{fn:Func}(hr:fn.results = #[])(k:K (.ret (.tup [])) σ):Fin C fn K .normal E σ:=⟨_,o9 (rs:=[]) (cs:=[]) hr trivial Q,k⟩
def YK(C:Ctx)(σ:List b9)(E:Env)(o:Oper)(K:CV->Prop):Prop:=∃c,j4 C σ E o c/\K c
theorem k_y{K:CV->Prop}(h:j4 C σ E o c)(k:K c):YK C σ E o K:=⟨c,h,k⟩
theorem k_e{K:CV->Prop}{c':CV}(h:j4 C σ E o c)(e:c=c')(k:K c'):YK C σ E o K:=⟨c',e▸h,k⟩
theorem k_d(h:YK C σ E o λc=>K (.ret c) σ):C5 C σ E o K:=let⟨_,h1,h2⟩:=h;d_y h1 h2
structure Env.Like(E E':Env):Prop where
 f:∀t,E.f t=E'.f t
 ok:∀t,E.ok t↔E'.ok t
 un:∀t,E.un t↔E'.un t
theorem Env.Like.put(h:E.Like E')(d:Option Nat)(c:CV)(g:Prop):(E.put d c g).Like (E'.put d c g) where
 f t:=by
  cases d with
  |none=>exact h.f t
  |some d=>rw[Env.put_f,Env.put_f,h.f]
 ok t:=by
  cases d with
  |none=>exact h.ok t
  |some d=>rw[Env.put_ok,Env.put_ok,h.ok]
 un t:=by
  cases d with
  |none=>exact h.un t
  |some d=>rw[Env.put_un,Env.put_un,h.un]
theorem Env.like_yes{d:Option Nat}:(E.putO d c .yes).Like (E.put d c True) where
 f t:=by
  cases d with
  |none=>rfl
  |some d=>rw[Env.put_f,Env.putO_f]
 ok t:=by
  cases d with
  |none=>rfl
  |some d=>rw[Env.put_ok,Env.putO_ok];rfl
 un t:=by
  cases d with
  |none=>rfl
  |some d=>rw[Env.put_un,Env.putO_un];rfl
theorem Env.Like.does(h:E.Like E')(hd:C5 C σ E o K):C5 C σ E' o K:=λM w ρ hr hx=>hd M w ρ hr λx hm hv=>by
 cases x with
 |tmp t=>
  show RV M w (E.f t) _;rw[h.f t];exact hx _ hm ((h.ok t).1 hv)
 |_=>exact hx _ hm hv
theorem Env.Like.frel{M:A5}{w:World}{a:Act}(h:E.Like E')(hf:G4 M w n E' a):G4 M w n E a:=⟨hf.defers,hf.size,λt ht=>by rw[h.f t];exact hf.rv t ((h.ok t).1 ht),λt ht=>hf.un t ((h.un t).1 ht)⟩
theorem Env.Like.cops{l:List Oper}(h:E.Like E')(hc:F0 C n af Ji l E σ):F0 C n af Ji l E' σ:=λM w a hr hf=>hc M w a hr (h.frel hf)
theorem Env.Like.head{K:Env->Prop}(hK:∀E E',E.Like E'->K E->K E'):∀{l:List Oper} {E E':Env},E.Like E'->U7 C σ af K l E->U7 C σ af K l E'
 | [],_,_,h,hc=>hK _ _ h hc
 |o::l,E,E',h,⟨c,g,ho,hc⟩=>⟨c,g,by
  rcases ho with⟨h1,h2,h3⟩|⟨j,t,av,b,h1,h2,h3,h4,h5,h6⟩
  .exact .inl ⟨h1,h2,h.does h3⟩
  .refine .inr ⟨j,t,av,b,h1,h2,λJj=>(h.un t).1 (h3 λv=>Jj ((h.ok t).1 v)),by rw[<- h.f t];exact h4,?_,λJj v=>h.does (h6 ((h.ok t).2 Jj) v)⟩;rw[h5,h.ok t],Env.Like.head hK (h.put _ _ _) hc⟩
theorem k_h{l2:List Oper}(h:YK C σ E o λc=>U7 C σ af (λE'=>F0 C n af Ji l2 E' σ) l (E.putO o.dst c .yes))(hg:o.guard=none:=by rfl):U7 C σ af (λE'=>F0 C n af Ji l2 E' σ) (o::l) E:=let⟨_,h1,h2⟩:=h;e1d hg h1 (Env.like_yes.head (λ_ _ h=>h.cops) h2)
theorem e3x{l2:List Oper}{j t:Nat}{av:Bool}(hg:o.guard=some (j,av))(ht:(af[j]?).bind (·.dst)=some t)(hv:E.ok t)(hb:E.f t= .val (.bool av))(h:YK C σ E o λc=>U7 C σ af (λE'=>F0 C n af Ji l2 E' σ) l (E.putO o.dst c .yes)):U7 C σ af (λE'=>F0 C n af Ji l2 E' σ) (o::l) E:=by
 obtain⟨c,h1,h2⟩:=h;exact D4 (b:=av) (c:=c) hg ht hv hb (λ_=>h1) (by rw[show(av=av)=True from eq_true G];exact Env.like_yes.head (λ_ _ h=>h.cops) h2)
def d1f(af:Array Oper):Nat:=(af.toList.takeWhile λo=>match o.op with
 | .call {callee:=.value _,..} | .store .. | .alloc _| .box .. | .panic _| .insert .. | .mapUpdate .. | .makeSlice .. | .makeMap ..=>false
 | .call {callee:=.builtin .append,..} | .call {callee:=.builtin .unsafeString,..}=>false
 |_=>true).length
theorem k_w(k:Nat){id:Nat}(hB:b6Z af (d1f af+k) (c4c af)=true)(h:U7 C σ af (λE'=>F0 C n af Ji (af.toList.drop (d1f af+k)) E' σ) (af.toList.take (d1f af+k)) E)(hm:C.P.follows .mixedOrders=true:=by kernel_rfl)
 (hd:(af.toList.all λo=>match o.dst with|some d=>Nat.blt d n|none=>true)=true:=by rfl):CWp C n (.region id af true) Ji E σ:=c3Z _ (c4c af) hm hB hd h
theorem k_f{K:Env->List (List b9->Prop)->Prop}{S:List (List b9->Prop)}{l:List Nat}(ho:af[i]?=some o)(hg:o.guard=none)(h:YK C σ E o λc=>Y5 C σ af K l (E.put o.dst c True) (S++[λae=>H1 C ae af o E c True])):Y5 C σ af K (i::l) E S:=let⟨_,h1,h2⟩:=h;chf ho (c7 hg h1) h2
theorem k_t{qs:List Nat}{S:List (List b9->Prop)}{fl:List Nat}{l:List (Nat×List Nat)}(gN:qs.contains i=false)(ho:af[i]?=some o)(hg:o.guard=none)(h:YK C σ E o λc=>a1t S σ fl/\P8 C af qs Ji S l (E.put o.dst c True) σ):P8 C af qs Ji S ((i,fl)::l) E σ:=let⟨_,h1,h2⟩:=h;C7 gN ho (c7 hg h1) h2
theorem y_c{c':CV}(h:j4 C σ E o c)(e:c=c'):j4 C σ E o c':=e▸h
theorem a1U{b:Bool}(h:(P.underlying t).map e2R=some b)(w:World):(isAgg t).run P w= .ok b w:=by
 obtain⟨d,hd,rfl⟩:=M8.1 h;exact a99 hd w
theorem a6H{s:Nat}(h:(aa.all λr=>Nat.beq r.length s)=true):∀r∈aa,r.length=s:=λr hr=>a2l (a6h.1 h r hr)
theorem e2F{new:List (List CV)}{nn2:Bool}{tok2:Option Nat}{s:Nat}{ti:TypeInfo}(ho:o.op = .call {callee:=.builtin .append,args:=#[x,y],argTypes:=#[t,t]})(hx:E.valid x)(hy:E.valid y)(ex:E.val C x= .list aa nn tok)(ey:E.val C y= .list new nn2 tok2)
 (hu:C.P.underlying t=some (.slice e))(hs:C.P.info? e=some ti)(hz:ti.zero=some z)(iq:ti.size=s)(bp:z.cells.size=s)
 (bY:c9D σ aa nn tok)(aX:(aa.all λr=>Nat.beq r.length s)=true)(bR:(new.all λr=>Nat.beq r.length s)=true)(bl:new≠[])(hb:Nat.ble ((aa.length+new.length)*ti.bytes) 140737488355328=true)(aN:Nat.ble (aa.length+new.length) 9223372036854775807=true)
 (hk:K (.ret (.list (aa++new) true (some σ.length))) (kill σ tok++[.tip (aa.length+new.length)])):C5 C σ E o K:=by
 subst iq;exact b0o ho hx hy ex (a68 ey (a6H bR)) (F1 hu) (I3 hs) (b1d hs) (a1d hs hz) bp bY (a6H aX) bl (nb hb) (nb aN) hk
theorem d3G{fs:Array Field}{l:List (Nat×Nat)}(h:fs.toList.mapM (λf=>(P.info? f.type).map λi=>(f.offset,i.size))=some l)(w:World):(fs.mapM λ(f:Field)=>do pure (f.offset,<- sizeOf f.type)).run P w= .ok l.toArray w:=by
 obtain⟨fs⟩:=fs;have key:∀(fs:List Field) (l:List (Nat×Nat)),fs.mapM (λf=>(P.info? f.type).map λi=>(f.offset,i.size))=some l->(fs.mapM λ(f:Field)=>do pure (f.offset,<- sizeOf f.type):Sem (List (Nat×Nat))).run P w= .ok l w:=by
  intro fs
  induction fs with
  |nil=>intro l h;cases h;rfl
  |cons f fs ih=>
   intro l h;rw[List.mapM_cons]at h;cases hf:P.info? f.type with
   |none=>rw[hf]at h;cases h
   |some i=>
    rw[hf]at h;cases hr:fs.mapM (λf=>(P.info? f.type).map λi=>(f.offset,i.size))with
    |none=>rw[hr]at h;cases h
    |some r=>
     rw[hr]at h;cases h;have h2:=ih r hr;simp at h2;simp[List.mapM_cons,I3 hf,h2]
 rw[List.mapM_toArray,Sem.run_map,key fs l h];rfl
theorem d3O{parts:Array (Nat×Operand)}{fs:Array Field}{l:List (Nat×Nat)}{ti:TypeInfo}{aq:List CV}(ho:o.op = .build t parts)(hv:a3H E parts.toList)
 (hu:C.P.underlying t=some (.struct fs))(hs:C.P.info? t=some ti)(hz:ti.zero=some z)(bQ:I2 z=true)(ci:∃cs,G2 z= .agg cs)
 (bo:fs.toList.mapM (λf=>(C.P.info? f.type).map λi=>(f.offset,i.size))=some l)
 (aQ:b28 (a3n C E parts.toList)=true)(bq:b08 l.toArray (G2 z).cells (a3n C E parts.toList)=some aq):j4 C σ E o (.agg aq):=
 z8 l.toArray ho hv (F1 hu) (a1d hs hz) bQ ci (d3G bo) aQ bq
def b6K(s:Nat):Nat->List CV->List (List CV)
 |0,_=>[]
 |n+1,l=>l.take s::b6K s n (l.drop s)
theorem e0Q{len:Nat}{parts:Array (Nat×Operand)}{ti:TypeInfo}{aq:List CV}(ho:o.op = .buildSlice t len parts)(hv:a3H E parts.toList)
 (hu:C.P.underlying t=some (.slice e))(hs:C.P.info? e=some ti)(hz:ti.zero=some z)(bQ:I2 z=true)(ci:c55 (G2 z)=true)(fu:(G2 z).cells.length=ti.size)(dW:Nat.blt 0 ti.size=true)
 (ao:Nat.ble (len*ti.size) 16777216=true)(aQ:b28 (a3n C E parts.toList)=true)
 (bq:a3C (λi=>some (i*ti.size,ti.size)) ((List.range (len*ti.size)).map λi=>(G2 z).cells.getD (i%ti.size) default) (a3n C E parts.toList)=some aq)(dr:aq=(b6K ti.size len aq).flatten)(cZ:(b6K ti.size len aq).length=len)(aX:((b6K ti.size len aq).all λr=>Nat.beq r.length ti.size)=true):j4 C σ E o (.list (b6K ti.size len aq) true none):=
 A6 _ ho hv (F1 hu) (I3 hs) (a1d hs hz) bQ ci fu dW ao aQ (bq.trans (n_7 some dr)) cZ aX
theorem d5q{k:IntKind}{d m:Nat}(hv:E.valid x)(he:E.val C x= .val (.int k (Int.ofNat m))):a0C C E (some x) d m:=⟨hv,k,_,he,Int.natCast_nonneg m,G⟩
theorem d4N{lo hi:Option Operand}{l h:Nat}{ti:TypeInfo}(ho:o.op = .slice t x lo hi none)(hx:E.valid x)(ex:E.val C x= .list aa nn tok)
 (hu:C.P.underlying t=some (.slice e))(hs:C.P.info? e=some ti)(aX:(aa.all λr=>Nat.beq r.length ti.size)=true)(gp:a0C C E lo 0 l)(gM:a0C C E hi aa.length h)(h1:Nat.ble l h=true)(h2:Nat.ble h aa.length=true):j4 C σ E o (.list ((aa.take h).drop l) nn none):=
 d5w ho hx ex (F1 hu) (I3 hs) (a6H aX) gp gM (nb h1) (nb h2)
theorem c6t{t2:TypeId}{new:List (List CV)}{ti:TypeInfo}(ho:o.op = .call {callee:=.builtin .append,args:=#[x,y],argTypes:=#[t,t2]})(hx:E.valid x)(hy:E.valid y)(ex:E.val C x= .list aa nn tok)(aO:∀M w v,Rel C M σ w->RV M w (E.val C y) v->d1W C w M new 1 v)
 (hu:C.P.underlying t=some (.slice e))(fA:C.P.underlying t2=some (.slice e)\/C.P.underlying t2=some .string)(hs:C.P.info? e=some ti)(hz:ti.zero=some z)(iq:ti.size=1)(bp:z.cells.size=1)
 (bY:b5y (some e) σ aa nn tok)(aX:(aa.all λr=>Nat.beq r.length 1)=true)(bl:new≠[])(hb:Nat.ble ((aa.length+new.length)*ti.bytes) 140737488355328=true)(aN:Nat.ble (aa.length+new.length) 9223372036854775807=true)
 (hk:K (.ret (.list (aa++new) true (some σ.length))) (kill σ tok++[.tipT (some e) (aa.length+new.length)])):C5 C σ E o K:=
 b3Q ho hx hy ex aO (F1 hu) (λw=>by rw[I3 hs,iq]) (b1d hs) (a1d hs hz) bp (fA.imp F1 F1) (.inr G) V9 bY (a6H aX) bl (nb hb) (nb aN) hk
def unb:List (List CV)->D
 | [.val (.int _ n)]::l=>UInt8.ofNat n.toNat::unb l
 |_=>[]
def d9X(q:Nat):List CV->Nat->Option (Nat×List (List CV))
 | [],_=>none
 | .list aa _ (some p)::l,i=>match Nat.beq p q with
  |true=>some (i,aa)
  |false=>d9X q l (i+1)
 |_::l,i=>d9X q l (i+1)
def d9b(q:Nat):List b9->Nat->Option (Nat×Nat×List (List CV))
 | [],_=>none
 | .boxT _ cells::l,k=>match d9X q cells 0 with
  |some (i,aa)=>some (k,i,aa)
  |none=>d9b q l (k+1)
 |_::l,k=>d9b q l (k+1)
theorem e0j{pt it:TypeId}{q k n:Nat}{cells:List CV}{t0:Option TypeId}(ho:o.op = .call {callee:=.builtin .unsafeString,args:=#[x,y],argTypes:=#[pt,it]})(hx:E.valid x)(hy:E.valid y)(ex:E.val C x= .eptr q 0 0)(ey:E.val C y= .val (.int .i64 (Int.ofNat n)))
 (hf:d9b q σ 0=some (k,i,aa))(hn:n=(unb aa).length)(hq:σ[q]?=some (.tipT (some e) (unb aa).length))(hk:σ[k]?=some (.boxT t0 cells))(hi:cells[i]?=some (.list ((unb aa).map bcv) true (some q)))(aB:unb aa≠[])
 (hp:C.P.underlying pt=some (.pointer e))(hc:C.P.cellsOf e=1)(h:K (.ret (sv (unb aa))) (σ.set q .dead)):C5 C σ E o K:=
 b1f ho hx hy ex (by rw[ey,hn];rfl) hq hk hi aB hp hc h
theorem e0L{f:FuncId}{fn:Func}{c:Code}{cx:Operand}{xs:Array Operand}{ts:Array TypeId}{K:L7 → List b9 → Prop}(ho:o.op = .call {callee:=.value cx,args:=xs,argTypes:=ts})(hc:E.valid cx)(ec:E.val C cx= .val (.func (.func f) #[] #[]))(hv:E.valids xs.toList)(hf:C.P.funcs[f]?=some fn)(hb:fn.body =some c)(hn:(fn.name == "runtime.NumGoroutine")=false)(hl:Nat.ble ((E.vals C xs.toList).map CV.fgt).length fn.ntmps =true)
 (h:qc C fn.ntmps 999 999 c (Fin C fn K) (Env.args ((E.vals C xs.toList).map CV.fgt)) σ):C5 C σ E o K:=
 d3x ho hc ec (a0l hf hb hn) (Env.valids_mem hv) (Env.vals_map _) (Y8 (qO hf h hb hl))
end
end Go.Cl
namespace Go.Proofs.YtncmhkpnclafkaaGreatDoor
open Go Go.Cl
variable{s Jj:D}{i q f m aY parts L j e i1 q1 q2:Nat}{σ τ rest:List b9}{α β:Type}{c c':CV}{ks:List Int}{x y va:Bool}{br d:List D}{vc:β->CV}{P:α->Prop}{R:Nat->Nat->Prop}{N:α->Nat}{bad:Prop}{am:List Nat}{lv:Int}
abbrev iv(x:Int):CV:=.val (.int .i64 x)
def c5v:List CV:=[1,10,100,1000,10000,100000,1000000,10000000,100000000,1000000000,10000000000,100000000000,1000000000000,10000000000000,100000000000000,1000000000000000,10000000000000000,100000000000000000,1000000000000000000,10000000000000000000].map λz:Int=>.val (.int .u64 z)
def tyT:List (Nat×TyE):=[(9,⟨false,1,[]⟩),(3,⟨false,1,[]⟩),(49,⟨true,3,[0,1,2]⟩),(25,⟨true,1,[0]⟩),(146,⟨true,5,[0,1,2,3,4]⟩),(104,⟨true,4,[0,1,2,3]⟩),(99,⟨true,3,[0,1,2]⟩),(83,⟨true,6,[0,1,2,3,4,5]⟩),(73,⟨true,2,[0,1]⟩),(205,⟨true,4,[0,1,2,3]⟩),(28,⟨true,1,[0]⟩),(68,⟨false,1,[]⟩),(225,⟨true,7,[0,1,2,3,4,5,6]⟩),(23,⟨false,1,[]⟩),(22,⟨false,1,[]⟩),(94,⟨true,2,[0,1]⟩),(170,⟨true,4,[0,1,2,3]⟩),(102,⟨false,1,[]⟩),(42,⟨false,1,[]⟩),(97,⟨false,1,[]⟩),(79,⟨true,2,[0,1]⟩),(89,⟨true,5,[0,1,2,3,4]⟩),(322,⟨true,5,[0,2,3,4]⟩),(29,⟨false,1,[]⟩),(59,⟨true,6,[0,3,4,5]⟩),(30,⟨false,1,[]⟩),(264,⟨true,2,[0,1]⟩),(26,⟨false,1,[]⟩),(159,⟨false,1,[]⟩),(4,⟨false,1,[]⟩),(5,⟨false,1,[]⟩),(40,⟨true,2,[0,1]⟩),(32,⟨true,2,[0,1]⟩),(92,⟨false,1,[]⟩),(86,⟨false,1,[]⟩),(282,⟨false,1,[]⟩),(84,⟨false,1,[]⟩),(318,⟨true,2,[]⟩),(87,⟨false,1,[]⟩),(173,⟨true,3,[0,1,2]⟩),(57,⟨true,3,[]⟩),(338,⟨true,2,[0,1]⟩),(55,⟨false,1,[]⟩),(166,⟨true,2,[0,1]⟩),(162,⟨false,1,[]⟩),(262,⟨false,1,[]⟩),(124,⟨true,13,[0,1,3,4,5,11,12]⟩),(142,⟨true,5,[0,1,2,3,4]⟩),(199,⟨true,4,[0,1,2,3]⟩),(80,⟨false,1,[]⟩),(140,⟨false,1,[]⟩)]
theorem d9J:tyT.all (tyB Tryz.prog)=true:=by kernel_rfl
noncomputable def CC:Ctx:={P:=Tryz.prog,glob:=λg=>match g with|1=>some c5v|_=>none,tab:=tyT,right:=d9k d9J}
theorem hCC:CC.plain:=λg cells h=>by
 have:cells=c5v:=by
  simp only[CC]at h;split at h
  .exact (Option.some.inj h).symm
  .cases h
 subst this;intro c hc;obtain⟨z,_,rfl⟩:=D8.1 hc;exact .val _
theorem an_{f:FuncId}{fn:Func}{c:Code}{args:List CV}{res:CV}(hf:CC.P.funcs[f]?=some fn)(h:CWp CC fn.ntmps c (Fin CC fn λr τ=>∃aC c,τ=[]++aC/\r= .ret c/\Cls ([]:List b9).length τ c res) (Env.args args) [])(hb:fn.body=some c:=by rfl)(hn:Nat.ble args.length fn.ntmps=true:=by rfl)(p1:N8 args:=by exact pu_)(p2:o8 res:=by exact pu_):b8 CC f args σ λr τ=>r= .ret res/\τ=σ:=b8.anyw hCC p1 p2 (c9 (a8z hf hb hn h)) σ
def icv(x:Int):List CV:=[iv x]
def scv(x:D):List CV:=[sv x]
theorem N2(l:List Int)(nn:Bool):o8 (.list (l.map icv) nn none):=I6 (f:=icv) (λ_=>⟨.val _,O⟩) l nn
theorem C1(l:List D)(nn:Bool):o8 (.list (l.map scv) nn none):=I6 (f:=scv) (λ_=>⟨.val _,O⟩) l nn
theorem R8(n:Nat)(l:List Int)(nn:Bool):Old n (.list (l.map icv) nn none):=(N2 l nn).old
theorem B9(n:Nat)(l:List D)(nn:Bool):Old n (.list (l.map scv) nn none):=(C1 l nn).old
def d4e:D:=[97,98,99,100,101,102,103,104,105,106,107,108,109,110,111,112,113,114,115,116,117,118,119,120,121,122]
def e3v:D:=[48,49,50,51,52,53,54,55,56,57]
def a36:D:=[59,44,40,41,43,45,42,47,37,60,61]
def M0:List (Int×D):=[(1,d4e),(2,e3v),(3,[95]),(4,[46]),(5,[9,10,13,32]),(6,[35]),(7,[34]),(8,a36)]
def j7(c:Int):Int:=
 if 97<=c/\c<=122 then 1 else if 48<=c/\c<=57 then 2 else if c=95 then 3 else if c=46 then 4 else if c=9\/c=10\/c=13\/c=32 then 5 else if c=35 then 6 else if c=34 then 7
 else if c=59\/c=44\/c=40\/c=41\/c=43\/c=45\/c=42\/c=47\/c=37\/c=60\/c=61 then 8 else 0
abbrev kb(a:Int):CV:=.val (.int .u8 a)
abbrev kv(a:Int):CV:=iv a
theorem d4d:R2 (α:=Int) CC.P 5 kb (λa=>.int .u8 a):=c8P .u8 b74
theorem a4M:R2 (α:=Int) CC.P 3 kv (λa=>.int .i64 a):=c8P .i64 c7H
theorem b9Q:R2 (α:=D) CC.P 9 sv (λa=>.string (str a)):=d8N t_8
def KM(m:List (Int×Int)):Prop:=∀c,(glk m c).getD 0=j7 c
theorem W9(n:Nat)(m:List (Int×Int)):G1 n (.map (gm kb kv m)):=λx hx=>by
 obtain⟨y,_,rfl⟩:=D8.1 hx;exact⟨.val _,.val _⟩
theorem c8d(n:Nat)(a b:List (Int×D)):G1 n (.iter (gm kv sv a) (gm kv sv b)):=⟨λx hx=>by
 obtain⟨y,_,rfl⟩:=D8.1 hx;exact⟨.val _,.val _⟩,λx hx=>by
 obtain⟨y,_,rfl⟩:=D8.1 hx;exact⟨.val _,.val _⟩⟩
theorem c7a(m:List (Int×Int)):a2I (.map (gm kb kv m)):=λx hx=>by
 obtain⟨y,_,rfl⟩:=D8.1 hx;exact⟨.val _,.val _⟩
def InB(s:D)(c:Int):Prop:=∃b∈s,(b.toNat:Int)=c
instance(s:D)(c:Int):Decidable (InB s c):=by unfold InB;exact inferInstance
def KL(m:List (Int×Int))(left:List (Int×D)):Prop:=left.Nodup/\(∀x∈left,x∈M0)/\∀c,(glk m c).getD 0=if ∃x∈left,InB x.2 c then 0 else j7 c
theorem d5n:∀x∈M0,∀b∈x.2,j7 (b.toNat:Int)=x.1:=by decide
theorem c6i:∀x∈M0,∀y∈M0,x≠y->∀b∈x.2,b∉y.2:=by decide
theorem d1j:M0.Nodup:=by decide
theorem d8D:∀c:Fin 256,j7 (c.val:Int)≠0->∃x∈M0,∃b∈x.2,(b.toNat:Int)=(c.val:Int):=by decide
theorem d5M{c:Int}(h:j7 c≠0):∃x∈M0,∃b∈x.2,(b.toNat:Int)=c:=by
 have hr:0<=c/\c<256:=by
  unfold j7 at h;split at h;· omega
  split at h;· omega
  split at h;· omega
  split at h;· omega
  split at h;· omega
  split at h;· omega
  split at h;· omega
  split at h
  .omega
  .exact absurd G h
 obtain⟨n,rfl⟩:∃n:Nat,c=n:=⟨c.toNat,J⟩;exact d8D ⟨n,J⟩ h
theorem KL.start:KL [] M0:=by
 refine⟨d1j,λx h=>h,λc=>?_⟩
 split
 .rfl
 .rename_i cH;have:j7 c=0:=by
   rcases Int.decEq (j7 c) 0 with h|h
   .exact absurd (d5M h) cH
   .exact h
  rw[this];rfl
theorem KL.done{m:List (Int×Int)}(h:KL m []):KM m:=λc=>by
 rw[h.2.2 c,H Q]
theorem KL.step{m m':List (Int×Int)}{left:List (Int×D)}{x:Int×D}(h:KL m left)(hx:left[i]?=some x)(hm:∀c,(glk m' c).getD 0=if InB x.2 c then x.1 else(glk m c).getD 0):KL m' (left.eraseIdx i):=by
 obtain⟨h1,h2,h3⟩:=h;have hxm:=h2 x (n_3 hx);have hsub:∀y,y∈left.eraseIdx i↔y∈left/\y≠x:=λy=>by
  have ai:=(n_2.1 hx).1;have hxe:=(n_2.1 hx).2;constructor
  .intro hy;obtain⟨j,hj,eu⟩:=d0Z.1 hy;refine⟨n_3 eu,λe=>?_⟩;subst e;exact hj ((List.getElem?_inj (n_2.1 eu).1 h1).1 (by rw[eu,hx]))
  .rintro ⟨hy,aB⟩;obtain⟨j,hj⟩:=J6.1 hy;refine d0Z.2 ⟨j,λe=>?_,hj⟩;subst e;rw[hx]at hj;exact aB (Option.some.inj hj).symm
 refine⟨h1.sublist (List.eraseIdx_sublist _ _),λy hy=>h2 y ((hsub y).1 hy).1,λc=>?_⟩;rw[hm c,h3 c];by_cases hc:InB x.2 c
 .rw [W hc,H]
  .obtain ⟨b,hb,rfl⟩:=hc;exact(d5n x hxm b hb).symm
  .rintro ⟨y,hy,b',hb',he⟩;obtain⟨b,hb,hbc⟩:=hc;obtain⟨gW,aB⟩:=(hsub y).1 hy;have:b'=b:=b8d.1 J;subst this;exact c6i y (h2 y gW) x hxm aB b' hb' hb
 .rw [H hc];have fJ:(∃y∈left,InB y.2 c)↔∃y∈left.eraseIdx i,InB y.2 c:=by
   constructor
   .rintro ⟨y,hy,hb⟩;exact⟨y,(hsub y).2 ⟨hy,λe=>hc (e▸hb)⟩,hb⟩
   .rintro ⟨y,hy,hb⟩;exact⟨y,((hsub y).1 hy).1,hb⟩
  by_cases hh:∃y∈left,InB y.2 c
  .rw [W hh,W (fJ.1 hh)]
  .rw [H hh,H (λh=>hh (fJ.2 h))]
theorem b0Z{kc:α->CV}(l:List (α×β))(i:Nat):(gm kc vc l).eraseIdx i=gm kc vc (l.eraseIdx i):=by
 induction l generalizing i with
 |nil=>rfl
 |cons x l ih=>
  cases i with
  |zero=>rfl
  |succ i=>exact n_7 _ (ih i)
theorem b9M{kc:α->CV}{l:List (α×β)}{x:CV×CV}(h:(gm kc vc l)[i]?=some x):∃y,l[i]?=some y/\x=(kc y.1,vc y.2):=by
 unfold gm at h;rw[N6,M8]at h;obtain⟨y,h1,h2⟩:=h;exact⟨y,h1,h2.symm⟩
theorem c1r(l:D)(nn:Bool):o8 (.list (l.map bcv) nn none):=I6 (f:=bcv) (λ_=>⟨.val _,O⟩) l nn
theorem a0O(n:Nat)(l:D)(nn:Bool):Old n (.list (l.map bcv) nn none):=(c1r l nn).old
theorem d8C:∀x∈M0,x.2.length<=26:=by decide
theorem c8Y{m m1:List (Int×Int)}{b:UInt8}{k:Int}(hb:s[j]?=some b)(h:∀c,(glk m1 c).getD 0=if InB (s.take j) c then k else(glk m c).getD 0):
 ∀c,(glk (G6 m1 (b.toNat:Int) k) c).getD 0=if InB (s.take (j+1)) c then k else(glk m c).getD 0:=λc=>by
 have ht:s.take (j+1)=s.take j++[b]:=by
  obtain⟨ai,rfl⟩:=n_2.1 hb;exact(c0a ai).symm
 rw[G3,ht];by_cases hc:c=(b.toNat:Int)
 .rw [W hc,W ⟨b,Q,hc.symm⟩];rfl
 .rw [H hc,h c];have fJ:InB (s.take j) c↔InB (s.take j++[b]) c:=by
   constructor
   .rintro ⟨y,hy,e⟩;exact⟨y,by simp[hy],e⟩
   .rintro ⟨y,hy,e⟩
    rcases Q9.1 hy with hy|hy
    .exact ⟨y,hy,e⟩
    .rw [a0r.1 hy]at e;exact absurd e.symm hc
  by_cases hh:InB (s.take j) c
  .rw [W hh,W (fJ.1 hh)]
  .rw [H hh,H (λh=>hh (fJ.2 h))]
theorem c4L:b8 CC 122 [] [] λr τ=>∃m:List (Int×Int),X0 [b9.map (gm kb kv m)].length τ r (.ret (.map 0))/\a4o [b9.map (gm kb kv m)].length τ τ [.map (gm kb kv m)]/\([]:List b9).length<=[b9.map (gm kb kv m)].length/\KM m:=by
 refine qO Tryz.func122 ?_;refine qD (S8 G ?_);refine qD (S8 G ?_);refine qD (p9 (vc:=sv) (l:=M0.take 0) a4M (.inr G) O G G G G G a4A G ?_);refine qD (p9 (vc:=sv) (l:=M0.take 1) a4M (.inr G) O G G G G G a4A G ?_);refine qD (p9 (vc:=sv) (l:=M0.take 2) a4M (.inr G) O G G G G G a4A G ?_);refine qD (p9 (vc:=sv) (l:=M0.take 3) a4M (.inr G) O G G G G G a4A G ?_);refine qD (p9 (vc:=sv) (l:=M0.take 4) a4M (.inr G) O G G G G G a4A G ?_);refine qD (p9 (vc:=sv) (l:=M0.take 5) a4M (.inr G) O G G G G G a4A G ?_);refine qD (p9 (vc:=sv) (l:=M0.take 6) a4M (.inr G) O G G G G G a4A G ?_);refine qD (p9 (vc:=sv) (l:=M0.take 7) a4M (.inr G) O G G G G G a4A G ?_);refine qD (b47 G O G a4A G ?_);refine u0 hCC (α:=List (Int×Int)×List (Int×D)×List (Int×D)) (λ_=>[(1,.map 0),(9,.ptr 2 0)]) (λx=>[.map (gm kb kv x.1),.dead,.iter (gm kv sv x.2.1) (gm kv sv x.2.2)]) (λx=>KL x.1 x.2.2) (λx=>x.2.2.length) ([],[],M0) KL.start tu_ (au:=[]) G D5 uz_ ?_;intro⟨m,aF,left⟩ dH;dsimp only at dH⊢;refine qk (qD (b9X G O G G (λhz=>?_) (λi x hx=>?_)))
 .
  have eJ:left=[]:=by
   cases left with
   |nil=>rfl
   |cons y l=>cases hz
  subst eJ;refine qC ?_ ?_<;>intro h1
  .cases h1
  .refine V5 ?_;exact⟨_,rE1,⟨m,.ret (.old (.map (Nat.zero_lt_one))),⟨.same (W9 _ _),O⟩,n_4 _,dH.done⟩⟩
 .
  obtain⟨⟨k,s⟩,hy,rfl⟩:=b9M hx;rw[b0Z];have bi:=dH.2.1 _ (n_3 hy);have gC:s.length<=26:=d8C _ bi;refine qC ?_ ?_<;>intro h3
  .refine u (b5g G O G G) ?_;refine u (d7G G O G t_8 b2a b74 do_) ?_;refine u c7Z ?_;refine u0 hCC (α:=List (Int×Int)×Nat) (λx=>[(1,.map 0),(2,iv k),(9,.ptr 2 0),(16,(.list (s.map bcv) true none)),(17,iv s.length),(18,iv x.2)]) (λx=>[.map (gm kb kv x.1),.dead,.iter (gm kv sv [(k,s)]) (gm kv sv (left.eraseIdx i))]) (λx=>x.2<=s.length/\∀c,(glk x.1 c).getD 0=if InB (s.take x.2) c then k else(glk m c).getD 0) (λx=>s.length -x.2) (m,0) ⟨n_4 _,λc=>by rw[H (by simp[InB])]⟩ tu_ (au:=[]) G D5 uz_ ?_;intro⟨m1,j⟩ ⟨hj,cz⟩;dsimp only at hj cz⊢;refine qk (qC ?_ ?_)<;> intro h4
   .have cB:(j:Int)<s.length:=U h4;obtain⟨b,hb⟩:=gx_ s j;refine u (A4 G O O G G b2a b4z J (j8 hb) G) ?_;refine qD (p9 (vc:=kv) (l:=m1) (a:=(b.toNat:Int)) (b:=k) d4d (.inl G) O O trivial G G G c21 G ?_);refine u o3 ?_;exact⟨(G6 m1 (b.toNat:Int) k,j+1),_,⟨do_,do_,c8Y hb cz⟩,tu_,G⟩
   .have cB:s.length<=j:=by
     have:¬(j:Int)<s.length:=U h4;omega
    rw[a2p cB]at cz;refine o6 ?_;exact⟨(m1,[(k,s)],left.eraseIdx i),_,⟨by dsimp only;rw[c9p (n_2.1 hy).1];have:=(n_2.1 hy).1;omega,dH.step hy cz⟩,tu_,G⟩
  .cases h3
theorem b1O(σ:List b9):b8 CC 122 [] σ λr τ=>∃m:List (Int×Int),r= .ret (.map σ.length)/\τ=σ++[.map (gm kb kv m)]/\KM m:=
 a03 (α:=List (Int×Int)) (obs:=[]) (args:=[]) (res:=λ_=>.ret (.map 0)) (res':=λ_=>.ret (.map σ.length)) (S:=λ_=>[]) (N:=λm=>[.map (gm kb kv m)]) (P:=KM) [] hCC G (λi j k h=>by simp at h) (λi k h=>by simp at h) (λob h=>by cases h) ⟨G,λi c c' h=>by simp at h⟩
  (K9 (res:=λ_=>.ret (.map 0)) (S:=λm=>[.map (gm kb kv m)]) (P:=KM) hCC c4L) (λm _=>⟨G,λob h=>by simp at h;subst h;exact c7a m⟩) (λm _=>.ret (.map (.inr ⟨n_4 _,G⟩)))
def inK(ks:List Int)(b:UInt8):Bool:=ks.any λk=>decide (j7 b.toNat=k)
def A3(s:D)(a:Nat)(ks:List Int):Nat:=a+((s.drop a).takeWhile (inK ks)).length
theorem a78{a:Nat}(h:s.length<=a):A3 s a ks=a:=by
 unfold A3;rw[a0V h];rfl
theorem U3{a:Nat}{b:UInt8}(h:s[a]?=some b):A3 s a ks=if inK ks b=true then A3 s (a+1) ks else a:=by
 obtain⟨ai,rfl⟩:=n_2.1 h;unfold A3;rw[a0v ai,b8q]
 split
 .rw [J5];omega
 .rfl
theorem a19{a:Nat}(h:a<=s.length):a<=A3 s a ks/\A3 s a ks<=s.length:=by
 unfold A3;have:=(List.takeWhile_sublist (inK ks) (l:=s.drop a)).length_le;rw[b4a]at this;omega
theorem c8x{k:Int}(h:ks[j]?=some k)(p:Int->Bool):(ks.take (j+1)).any p=((ks.take j).any p ||p k):=by
 obtain⟨ai,rfl⟩:=n_2.1 h;rw[<- c0a ai,List.any_append];simp
theorem d1r(s:D)(at_:Nat)(ks:List Int)(nn:Bool)(m:List (Int×Int))(hm:KM m)(ha:at_<=s.length)(hs:s.length<=1000000000000)(dH:ks.length<=1000000000000):b8 CC 123 [(sv s),iv at_,.map 0,(.list (ks.map icv) nn none)] [b9.map (gm kb kv m)] λr τ=>∃_:Unit,X0 [b9.map (gm kb kv m)].length τ r (.ret (iv (A3 s at_ ks:Int)))/\a4o [b9.map (gm kb kv m)].length τ τ [b9.map (gm kb kv m)]/\[b9.map (gm kb kv m)].length<=[b9.map (gm kb kv m)].length/\True:=by
 refine qO Tryz.func123 ?_;refine u0 hCC (α:=Nat) (λi=>[(0,(sv s)),(1,iv i),(2,.map 0),(3,(.list (ks.map icv) nn none))]) (λ_=>[b9.map (gm kb kv m)]) (λi=>i<=s.length/\A3 s at_ ks=A3 s i ks) (λi=>s.length -i) at_ ⟨ha,G⟩ tu_ (au:=[]) G D5 uz_ ?_;intro i ⟨hi,aj⟩;refine a7q ?_;refine qC ?_ ?_<;>intro h1
 .have bX:(i:Int)<s.length:=U h1;obtain⟨b,hb⟩:=gx_ s i;rw[U3 hb]at aj;refine u a7g ?_;refine u0 hCC (α:=Nat) (λj=>[(0,(sv s)),(1,iv i),(2,.map 0),(3,(.list (ks.map icv) nn none)),(9,(.val (.bool ((ks.take j).any λk=>decide (j7 b.toNat=k))))),(16,(.list (ks.map icv) nn none)),(17,iv ks.length),(18,iv j)]) (λ_=>[b9.map (gm kb kv m)]) (λj=>j<=ks.length) (λj=>ks.length -j) 0 (n_4 _) tu_ (au:=[]) G D5 uz_ ?_;intro j hj;refine qk (qC ?_ ?_)<;> intro h2
  .have cB:(j:Int)<ks.length:=U h2;obtain⟨k,hk⟩:=gx_ ks j;refine u (A4 G O O G G t_7 t_1 J (j8 hk) G) ?_;refine a4g ?_;refine qG F9 ?_;refine qG e08 ?_;refine qG (λhg=>U2 (vc:=kv) (l:=m) (a:=(b.toNat:Int)) d4d G hg hg G G c21 t_9 G G (b4q _ _)) ?_;refine qG F9 ?_;refine qG a8R ?_;refine u S4 ?_;refine u o3 ?_;exact⟨(j+1),_,⟨J,J⟩,⟨M9,M9,M9,M9,⟨O,(by rw[c8x hk,<- hm];rfl)⟩,M9,M9,M9,O⟩,G⟩
  .have cB:ks.length<=j:=by
    have:¬(j:Int)<ks.length:=U h2;omega
   refine o6 ?_;refine qC ?_ ?_<;>intro h3
   .have cH:inK ks b=false:=by
     have:((ks.take j).any λk=>decide (j7 b.toNat=k))=false:=U h3;rwa[a2p cB]at this
    rw[cH]at aj;refine V5 ?_;exact⟨_,rE1,⟨(),.ret (B8 (by rw[aj];rfl)),⟨.same (W9 _ _),O⟩,n_6 _,O⟩⟩
   .have hyes:inK ks b=true:=by
     have:((ks.take j).any λk=>decide (j7 b.toNat=k))=true:=U h3;rwa[a2p cB]at this
    rw[hyes]at aj;refine u o3 ?_;exact⟨(i+1),_,⟨J,J,aj⟩,tu_,G⟩
 .have aL:s.length<=i:=by
   have:¬(i:Int)<s.length:=U h1;omega
  rw[a78 aL]at aj;refine V5 ?_;exact⟨_,rE1,⟨(),.ret (B8 (by rw[aj])),⟨.same (W9 _ _),O⟩,n_6 _,O⟩⟩
theorem a7C{at_:Nat}{nn:Bool}{m:List (Int×Int)}(hm:KM m)(ha:at_<=s.length)(hs:s.length<=1000000000000)(dH:ks.length<=1000000000000)(hq:σ[q]?=some (.map (gm kb kv m))):b8 CC 123 [(sv s),iv at_,.map q,(.list (ks.map icv) nn none)] σ λr τ=>r= .ret (iv (A3 s at_ ks:Int))/\τ=σ:=
 a6C hCC (c7a m) (.val _) hq (.cons (.val _) (.cons (.val _) (.cons (.map G) (.cons (.pure (N2 _ _)) .nil)))) (d1r s at_ ks nn m hm ha hs dH)
def C0(s:D):Bool:=match s with
 | []=>false
 |b::_=>decide (s.length<=24)&&decide (j7 b.toNat=1)&&s.all (inK [1,2,3])
theorem a7t:A3 s 0 ks=s.length↔s.all (inK ks)=true:=by
 unfold A3;rw[b40,P4];generalize inK ks=p
 induction s with
 |nil=>simp
 |cons b s ih=>
  rw[b8q,b3W];cases hp:p b with
  |false=>simp
  |true=>
   simp only[if_true,J5,Nat.add_right_cancel_iff,b6I];exact ih
theorem d0v(h:1<=s.length):s[(0:Int).toNat]?=some (s.headD 0):=by
 cases s with
 |nil=>simp at h
 |cons b s=>rfl
theorem d4s(s:D){m:List (Int×Int)}(hm:KM m){z w:Bool}(h1:x=decide ((s.length:Int)>=1))(h2:y=decide ((s.length:Int)<=24))(h3:z=((glk m ((s.headD 0).toNat:Int)).getD 0 == 1))(h4:w=((A3 s 0 [1,2,3]:Int) ==(s.length:Int))):(((x&&y)&&z)&&w)=C0 s:=by
 subst h1 h2 h3 h4;rw[hm];have h5:((A3 s 0 [1,2,3]:Int) ==(s.length:Int))=s.all (inK [1,2,3]):=by
  cases h:s.all (inK [1,2,3])with
  |true=>exact a2m (by have:=a7t.2 h;omega)
  |false=>
   refine a1R λe=>?_;have:=a7t.1 (show A3 s 0 [1,2,3]=s.length by omega);rw[h]at this;cases this
 rw[h5];cases s with
 |nil=>rfl
 |cons b s=>
  have h6:decide (((b::s).length:Int)>=1)=true:=by simp;omega
  have h7:decide (((b::s).length:Int)<=24)=decide ((b::s).length<=24):=b3u.2 J;rw[h6,h7];rfl
theorem a3p(s:D)(σ:List b9):b8 CC 91 [(sv s)] σ λr ae=>r= .ret (.val (.bool (C0 s)))/\ae=σ:=by
 refine b8.anyw hCC pu_ pu_ (c9 (qO Tryz.func91 ?_)) σ;refine qD (c4 G d0F trivial (b1O _) G ?_);intro m hm;refine u U9 ?_;refine b5h ?_;refine a2P ?_;refine a4g ?_;refine qG e2e ?_;refine qG (λhg=>U2 (vc:=kv) (l:=m) (a:=((s.headD 0).toNat:Int)) d4d G hg hg G G c21 t_9 G G (b4q _ _)) ?_;refine a2P ?_;refine a4g ?_;refine qG (λhg=>A6 ([1,2,3].map icv) G ⟨G,G,G,O⟩ t_7 t_1 t_9 G G G G G G G G G) ?_;refine qG (λhg=>c5 G c9s ⟨hg,G,hg,hg,O⟩ (a7C hm (n_4 _) (sm_ hg) I G) G) ?_;refine b5h ?_;refine qG a8R ?_;refine a84 ?_;exact⟨_,rE1,_,_,G,G,j9 (d4s s hm G G G G)⟩
theorem b1P(s:D)(c:UInt8)(σ:List b9):b8 CC 193 [(sv s),(.val (.int .u8 (c.toNat:Int)))] σ λr ae=>r= .ret (iv (Go.Lib.indexByte s c))/\ae=σ:=by
 refine b8.anyw hCC pu_ pu_ (c9 (qO Tryz.func193 ?_)) σ;refine u (b95 (e:=Extern.BytealgIndexByte.indexByte) G Tryz.func249 G G G G O O G G (λw=>c5D s c w)) ?_;exact c4S
theorem a5z(s:D)(c:UInt8)(σ:List b9):b8 CC 153 [(sv s),(.val (.int .u8 (c.toNat:Int)))] σ λr ae=>r= .ret (iv (Go.Lib.indexByte s c))/\ae=σ:=by
 refine b8.anyw hCC pu_ pu_ (c9 (qO Tryz.func153 ?_)) σ;exact d8t
theorem b7M(s:D)(c:UInt8)(σ:List b9):b8 CC 268 [(sv s),(sv ([c]))] σ λr ae=>r= .ret (iv (Go.Lib.indexByte s c))/\ae=σ:=by
 refine b8.anyw hCC pu_ pu_ (c9 (qO Tryz.func268 ?_)) σ;refine u U9 ?_;refine a4g ?_;refine qG b3M ?_;refine u S4 ?_;refine qC ?_ ?_<;>intro h1
 .have hs:s=[c]:=by simp at h1;exact h1.symm
  subst hs;refine c6 ?_;exact⟨_,rE1,_,_,G,G,B8 (by simp[Go.Lib.indexByte])⟩
 .refine cC ?_ ?_<;>intro h2
  .refine qk (u (J2 G O G G G t_8 J G) ?_);exact d8t
  .simp at h2
theorem a8y(s:D)(c:UInt8)(σ:List b9):b8 CC 229 [(sv s),(sv ([c]))] σ λr ae=>r= .ret (iv (Go.Lib.indexByte s c))/\ae=σ:=by
 refine b8.anyw hCC pu_ pu_ (c9 (qO Tryz.func229 ?_)) σ;refine u (c5 G Tryz.call268 j2 (b7M s c _) G) ?_;exact c4S
theorem a74(s:D)(c:UInt8)(σ:List b9):b8 CC 228 [(sv s),(sv ([c]))] σ λr ae=>r= .ret (iv (s.count c:Nat))/\ae=σ:=by
 refine b8.anyw hCC pu_ pu_ (c9 (qO Tryz.func228 ?_)) σ;refine u U9 ?_;refine cC ?_ ?_<;>intro h1
 .simp at h1
 .refine a7q ?_;refine cC ?_ ?_<;>intro h2
  .refine qk (u (J2 G O G G G t_8 J G) ?_);refine u (b95 (e:=Extern.BytealgCount.count) G Tryz.func267 G G G G O O G G (λw=>c4A s c w)) ?_;exact c4S
  .simp at h2
def B2(c:UInt8):D->List D
 | []=>[[]]
 |b::l=>if b=c then []::B2 c l else match B2 c l with
  |x::xs=>(b::x)::xs
  | []=>[[b]]
theorem a0N(c:UInt8)(s:D):B2 c s≠[]:=by
 cases s with
 |nil=>simp[B2]
 |cons b l=>
  rw[B2]
  split
  .simp
  .split<;>simp
theorem a01(c:UInt8)(s:D):(B2 c s).length=s.count c+1:=by
 induction s with
 |nil=>rfl
 |cons b l ih=>
  rw[B2,List.count_cons];by_cases h:b=c
  .rw [W h,J5,ih,W (U h)]
  .rw [H h,H (U h)];cases hs:B2 c l with
   |nil=>exact absurd hs (a0N c l)
   |cons x xs=>rw[hs]at ih;simpa using ih
theorem a4W{c:UInt8}:∀{s:D},Go.Lib.indexByte s c= -1->B2 c s=[s]
 | [],_=>rfl
 |b::l,h=>by
  rw[Go.Lib.indexByte]at h;by_cases hb:b=c
  .rw [W (U hb)]at h;omega
  .rw [H (U hb)]at h;have hl:Go.Lib.indexByte l c= -1:=by
    have:=Go.Lib.indexByte_ge l c;split at h
    .rename_i e;simpa using e
    .omega
   rw[B2,H hb,a4W hl]
theorem a4D{c:UInt8}:∀{s:D} {m:Nat},Go.Lib.indexByte s c=m->m<s.length/\B2 c s=s.take m::B2 c (s.drop (m+1))
 | [],m,h=>by rw[Go.Lib.indexByte]at h;omega
 |b::l,m,h=>by
  rw[Go.Lib.indexByte]at h;by_cases hb:b=c
  .rw [W (U hb)]at h;have hm:m=0:=by omega
   subst hm;exact⟨Q,by rw[B2,W hb];rfl⟩
  .rw [H (U hb)]at h;have hg:=Go.Lib.indexByte_ge l c;split at h
   .omega
   .rename_i e;have e':Go.Lib.indexByte l c≠-1:=U e;obtain⟨k,hk⟩:∃k:Nat,Go.Lib.indexByte l c=k:=⟨(Go.Lib.indexByte l c).toNat,J⟩;have hmk:m=k+1:=by omega
    subst hmk;obtain⟨h1,h2⟩:=a4D hk;refine⟨by simp;omega,?_⟩;rw[B2,H hb,h2];rfl
theorem d2r(n:Nat){k:Nat}:G1 n (.vec 1 (d.map scv++List.replicate k (scv []))):=λr hr c hc=>by
 rcases Q9.1 hr with hr|hr
 .obtain ⟨x,_,rfl⟩:=D8.1 hr;simp[scv]at hc;subst hc;exact .val _
 .have:=List.eq_of_mem_replicate hr;subst this;simp[scv]at hc;subst hc;exact .val _
theorem d1Q{k:Nat}(hk:0<k):(d.map scv++List.replicate k (scv []))[0+((d.length:Int)).toNat]?=some (scv []):=by
 rw[P4,a8q,a5O Q];simp[hk]
theorem d0u{n:Nat}{x:D}(hk:d.length <n):(d.map scv++List.replicate (n-d.length) (scv [])).set (0+((d.length:Int)).toNat) (scv x)=(d++[x]).map scv++List.replicate (n- (d++[x]).length) (scv []):=by
 rw[P4,a8q,List.set_append,H Q];obtain⟨j,hj⟩:∃j,n-d.length=j+1:=⟨n-d.length -1,J⟩;have h2:n- (d++[x]).length=j:=by simp;omega
 rw[hj,h2];simp[List.replicate_succ]
theorem a5D(s:D)(c:UInt8)(hs:s.length<=1000000000)(σ:List b9):b8 CC 180 [(sv s),(sv ([c])),(iv (0)),(iv (-1))] σ λr ae=>r= .ret (.list ((B2 c s).map scv) true none)/\ae=σ:=by
 refine b8.anyw hCC pu_ pu_ ?_ σ;have cS:=s.count_le_length (a:=c);have cK:([c]:D).length=1:=G;refine c9 (cO Tryz.func180 ?_);refine qs 3 ?_;refine cC ?_ ?_<;>intro h1
 .simp at h1
 .refine qk (u O5 ?_);refine cC ?_ ?_<;>intro h2
  .simp at h2
  .refine qk ?_;refine a5n hCC (α:=Unit) (λ_=>[(0,(sv s)),(1,(sv ([c]))),(2,(iv (0))),(3,(iv (((s.count c:Nat):Int)+1)))]) (λ_=>[]) (λ_=>True) D5 uz_ ?_ ?_
   .
    refine qk ?_;refine cC ?_ ?_<;>intro h3
    .refine qk (u (c5 G Tryz.call228 j2 (a74 s c _) G) ?_);refine u o3 ?_;exact⟨(),_,O,tu_,G⟩
    .simp at h3
   .intro _ _;refine a7q ?_;refine u o3 ?_;refine u (d5S G O O G G) ?_;refine qD (c9r G O O G G (n:=(s.count c+1)) (c:=(s.count c+1)) J J t_2 t_0 a5s t_4 G (a5m G) G J E9 a2h ?_);refine u a0D ?_;refine u0 hCC (α:=List D×D) (λx=>[(0,(sv x.2)),(1,(sv ([c]))),(2,(iv (0))),(3,(iv ((s.count c:Nat):Int))),(9,.vec 0 0 (s.count c+1)),(10,iv x.1.length)]) (λx=>[.vec 1 (x.1.map scv++List.replicate (s.count c+1-x.1.length) (scv []))]) (λx=>x.1.length<=s.count c/\B2 c s=x.1++B2 c x.2/\x.2.length<=s.length) (λx=>s.count c+1-x.1.length) ([],s) ⟨n_4 _,G,n_6 _⟩ ⟨M9,M9,M9,⟨O,n_7 (λz:Int=>(iv z)) J⟩,M9,M9,O⟩ (au:=[]) G D5 uz_ ?_;intro⟨d,Jj⟩ ⟨hd,aj,hul⟩;dsimp only at hd aj hul⊢;have ao:=a01 c s;rw[aj,n_9,a01 c Jj]at ao;refine qk (qC ?_ ?_)<;> intro h4
    .have fm:d.length <s.count c:=sm_ h4;refine u (c5 G Tryz.call229 j2 (a8y Jj c _) G) ?_;refine cC ?_ ?_<;>intro h5
     .exfalso;have hneg:Go.Lib.indexByte Jj c= -1:=by
       have:=Go.Lib.indexByte_ge Jj c;have iL:Go.Lib.indexByte Jj c<0:=U h5;omega
      have h6:=a01 c Jj;rw[a4W hneg]at h6;simp at h6;omega
     .have hm0:¬Go.Lib.indexByte Jj c<0:=U h5;obtain⟨m,hm⟩:∃m:Nat,Go.Lib.indexByte Jj c=m:=⟨(Go.Lib.indexByte Jj c).toNat,J⟩;obtain⟨hml,hsu⟩:=a4D hm;rw[hm];refine qk (u a8O ?_);refine u (I4 (h:=m) G O G t_8 G a1l a3V a3V) ?_;refine u a9f ?_;refine qD (U6 ((d++[Jj.take m]).map scv++List.replicate (s.count c+1- (d++[Jj.take m]).length) (scv [])) G O O G j1 t_0 (.inl G) G (d1Q (d:=d) (k:=s.count c+1-d.length) J) G (nb G) (by exact d0u (d:=d) (x:=Jj.take m) (n:=s.count c+1) J) G ?_);refine u U9 ?_;refine u a8O ?_;refine u (I4 (a:=(m+1)) G O G t_8 a1l G a3V a3V) ?_;refine u o3 ?_;exact⟨(d++[Jj.take m],Jj.drop (m+1)),_,⟨by simp;omega,by simp;omega,by rw[aj,hsu];simp,by simp;omega⟩,⟨⟨O,(n_7 sv (show(Jj.take Jj.length).drop (m+1)=Jj.drop (m+1) by rw[a6O]))⟩,M9,M9,M9,M9,⟨O,n_7 (λz:Int=>(iv z)) Q⟩,O⟩,G⟩
    .have fm:d.length=s.count c:=by
      have:¬(d.length:Int)< ((s.count c:Nat):Int):=U h4;omega
     have hu1:B2 c Jj=[Jj]:=by
      apply a4W;have h6:=a01 c Jj;have hg:=Go.Lib.indexByte_ge Jj c
      rcases Int.lt_or_le (Go.Lib.indexByte Jj c) 0 with h|h
      .omega
      .obtain ⟨m,hm⟩:∃m:Nat,Go.Lib.indexByte Jj c=m:=⟨(Go.Lib.indexByte Jj c).toNat,J⟩;obtain⟨_,h7⟩:=a4D hm;have h8:=n_7 List.length h7;have h9:=a0N c (Jj.drop (m+1));have bL:=a8E.2 h9;simp only[J5]at h8;omega
     rw[hu1]at aj;refine o6 ?_;refine u a9f ?_;refine qD (U6 ((d++[Jj]).map scv++List.replicate (s.count c+1- (d++[Jj]).length) (scv [])) G O O G j1 t_0 (.inl G) G (d1Q (d:=d) (k:=s.count c+1-d.length) J) G (nb G) (by exact d0u (d:=d) (x:=Jj) (n:=s.count c+1) J) G ?_);refine u o3 ?_;refine u (H6 (h:=(d.length+1)) G O G t_2 t_0 G G a1l a1w (by first|(simp;done)|(simp;omega))) ?_;refine c6 ?_;exact⟨_,rE1,_,_,G,G,.vecs (n_4 _) G (by first|(simp;done)|(simp;omega)) (by rw[aj,b40];exact List.take_left' Q) (λr hr c hc=>(C2 (f:=scv) (λ_=>N8.all ⟨.val _,O⟩) _) r hr c hc)⟩
theorem a8t(s:D)(c:UInt8)(hs:s.length<=1000000000)(σ:List b9):b8 CC 121 [(sv s),(sv ([c]))] σ λr ae=>r= .ret (.list ((B2 c s).map scv) true none)/\ae=σ:=by
 refine b8.anyw hCC pu_ pu_ (c9 (qO Tryz.func121 ?_)) σ;refine u (c5 G Tryz.call180 ⟨O,O,G,G,O⟩ (a5D s c hs _) G) ?_;refine c6 ?_;exact⟨_,rE1,_,_,G,G,(O2 G (C1 _ _))⟩
def a3W(p:D):Bool:=decide (1<=p.length)&&decide (p.length<=24)&&p.all (inK [1,2,3,4])
def F6(s:D):Bool:=decide (s.length<=80)&&decide ((B2 47 s).length<=8)&& (B2 47 s).all a3W
theorem c4F{c:UInt8}:∀p∈B2 c s,p.length<=s.length:=by
 induction s with
 |nil=>intro p hp;simp[B2]at hp;subst hp;simp
 |cons b l ih=>
  intro p hp;rw[B2]at hp;by_cases h:b=c
  .rw [W h]at hp
   rcases I0.1 hp with rfl|hp
   .simp
   .have:=ih p hp;simp;omega
  .rw [H h]at hp;cases hs:B2 c l with
   |nil=>exact absurd hs (a0N c l)
   |cons x xs=>
    rw[hs]at hp ih
    rcases I0.1 hp with rfl|hp
    .have:=ih x Q;simp;omega
    .have:=ih p (by simp[hp]);simp;omega
theorem c3v(p:D){z:Bool}(h1:x=decide ((p.length:Int)<1))(h2:y=decide ((p.length:Int) > 24))(h3:z= !((A3 p 0 [1,2,3,4]:Int) ==(p.length:Int))):((x ||y) ||z)= !a3W p:=by
 subst h1 h2 h3;have h5:((A3 p 0 [1,2,3,4]:Int) ==(p.length:Int))=p.all (inK [1,2,3,4]):=by
  cases h:p.all (inK [1,2,3,4])with
  |true=>exact a2m (by have:=a7t.2 h;omega)
  |false=>
   refine a1R λe=>?_;have:=a7t.1 (show A3 p 0 [1,2,3,4]=p.length by omega);rw[h]at this;cases this
 rw[h5,a3W];have h6:decide ((p.length:Int)<1)= !decide (1<=p.length):=by by_cases h:1<=p.length<;>simp[h]<;>omega
 have h7:decide ((p.length:Int) > 24)= !decide (p.length<=24):=by by_cases h:p.length<=24<;>simp[h]<;>omega
 rw[h6,h7];simp[Bool.not_and]
theorem a3b(s:D)(hs:s.length<=1000000000)(σ:List b9):b8 CC 90 [(sv s)] σ λr ae=>r= .ret (.val (.bool (F6 s)))/\ae=σ:=by
 refine b8.anyw hCC pu_ pu_ (c9 (qO Tryz.func90 ?_)) σ;refine u (c5 G Tryz.call121 m0 (a8t s 47 hs _) G) ?_;refine u U9 ?_;refine qG F9 ?_;refine qG (λhg=>Z3 G hg G t_2 a7l G) ?_;refine a5A ?_;refine qC ?_ ?_<;>intro h1
 .have cH:F6 s=false:=by
   unfold F6;have dP:(decide ((s.length:Int) > 80) ||decide (((B2 47 s).length:Int) > 8))=true:=h1;by_cases h:s.length<=80
   .have h2:¬(B2 47 s).length<=8:=by
     intro h2;have e1:decide ((s.length:Int) > 80)=false:=a1R J;have e2:decide (((B2 47 s).length:Int) > 8)=false:=a1R J;rw[e1,e2]at dP;cases dP
    simp[h2]
   .simp [h]
  exact d3B
 .have dM:s.length<=80/\(B2 47 s).length<=8:=by
   have dP:(decide ((s.length:Int) > 80) ||decide (((B2 47 s).length:Int) > 8))=false:=h1;simp only[c3F,b0C]at dP;omega
  refine qD (c4 G d0F trivial (b1O _) G ?_);intro m hm;refine u P0 ?_;refine u0 hCC (α:=Nat) (λi=>[(4,.map 0),(18,(.list ((B2 47 s).map scv) true none)),(19,(iv ((B2 47 s).length:Int))),(20,iv i)]) (λ_=>[.map (gm kb kv m)]) (λi=>i<=(B2 47 s).length/\((B2 47 s).take i).all a3W=true) (λi=>(B2 47 s).length -i) 0 ⟨n_4 _,G⟩ tu_ (au:=[]) G D5 uz_ ?_;intro i ⟨hi,bx⟩;refine qk (qC ?_ ?_)<;> intro h2
  .have bX:(i:Int)< (B2 47 s).length:=U h2;obtain⟨p,hp⟩:∃p,(B2 47 s)[i]?=some p:=⟨(B2 47 s)[i]'J,Q⟩;have bo:=c4F p (n_3 hp);refine u (A4 G O O G G t_2 t_0 J (j8 hp) G) ?_;refine u U9 ?_;refine b5h ?_;refine a5A ?_;refine a4g ?_;refine qG (λhg=>A6 ([1,2,3,4].map icv) G ⟨G,G,G,G,O⟩ t_7 t_1 t_9 G G G G G G G G G) ?_;refine qG (λhg=>c5 G c9s ⟨hg,G,hg,hg,O⟩ (a7C hm (n_4 _) J I G) G) ?_;refine b5h ?_;refine qG a8R ?_;refine u S4 ?_;refine qC ?_ ?_<;>intro h3
   .have hbad:a3W p=false:=by
     have gR:true= !a3W p:=Eq.trans (Eq.symm h3) (c3v p G G G);simpa using gR.symm
    have cH:F6 s=false:=by
     unfold F6;have:(B2 47 s).all a3W=false:=by
      rw[c1Z];intro hh;have:=a6h.1 hh p (n_3 hp);rw[hbad]at this;cases this
     rw[this];simp
    exact d3B
   .have iM:a3W p=true:=by
     have gR:false= !a3W p:=Eq.trans (Eq.symm h3) (c3v p G G G);simpa using gR.symm
    refine u o3 ?_;exact⟨(i+1),_,⟨J,J,by
     obtain⟨ai,he⟩:=n_2.1 hp;rw[<- c0a ai,List.all_append,bx,he];simp[iM]⟩,tu_,G⟩
  .have aL:(B2 47 s).length<=i:=by
    have:¬(i:Int)< (B2 47 s).length:=U h2;omega
   rw[a2p aL]at bx;refine V5 ?_;exact⟨_,rE1,_,_,G,G,j9 (by rw[F6,bx];simp[dM.1,dM.2])⟩
theorem c8v(c:Int):(decide (c>=97)&&decide (c<=122))=decide (j7 c=1):=by
 by_cases h:97<=c/\c<=122
 .have e:j7 c=1:=by unfold j7;rw[W h]
  simp[e,h.1,h.2]
 .have e:j7 c≠1:=by
   unfold j7;rw[H h]
   repeat' split
   all_goals omega
  have e2:¬(c>=97/\c<=122):=h;simp only[a1R e];by_cases h1:c>=97
  .have h2:¬c<=122:=λh2=>h ⟨h1,h2⟩;simp[h2]
  .simp [h1]
theorem d5p(b:UInt8){z:Bool}(hx:x=decide (j7 b.toNat=1))(hy:y=(decide ((b.toNat:Int)>=48)&&decide ((b.toNat:Int)<=57)))(hz:z=((b.toNat:Int) == 95)):((x ||y) ||z)=inK [1,2,3] b:=by
 subst hx hy hz;unfold inK;generalize (b.toNat:Int)=c;have h2:(decide (c>=48)&&decide (c<=57))=decide (j7 c=2):=by
  by_cases h:48<=c/\c<=57
  .have e:j7 c=2:=by unfold j7;rw[H J,W h]
   simp[e,h.1,h.2]
  .have e:j7 c≠2:=by
    unfold j7
    repeat' split
    all_goals omega
   simp only[a1R e];by_cases h1:c>=48
   .have h2:¬c<=57:=λh2=>h ⟨h1,h2⟩;simp[h2]
   .simp [h1]
 have h3:(c == 95)=decide (j7 c=3):=by
  by_cases h:c=95
  .subst h;rfl
  .have e:j7 c≠3:=by
    unfold j7
    repeat' split
    all_goals omega
   rw[a1R e];simp[h]
 rw[h2,h3];simp[Bool.or_assoc]
theorem a4j(b:UInt8)(σ:List b9):b8 CC 137 [(.val (.int .u8 (b.toNat:Int)))] σ λr ae=>r= .ret (.val (.bool (decide (j7 b.toNat=1))))/\ae=σ:=by
 refine b8.anyw hCC pu_ pu_ (c9 (qO Tryz.func137 ?_)) σ;refine qG F9 ?_;refine a2P ?_;refine c6 ?_;exact⟨_,rE1,_,_,G,G,j9 (c8v _)⟩
theorem a6E(b:UInt8)(σ:List b9):b8 CC 117 [(.val (.int .u8 (b.toNat:Int)))] σ λr ae=>r= .ret (.val (.bool (inK [1,2,3] b)))/\ae=σ:=by
 refine b8.anyw hCC pu_ pu_ (c9 (qO Tryz.func117 ?_)) σ;refine u (c5 G d0e ⟨O,O⟩ (a4j b _) G) ?_;refine qG F9 ?_;refine qG a4F ?_;refine qG b1b ?_;refine qH G G (λhk hg=>a0Q G O j1) ?_;refine qH G G (λhk hg=>a0e G ⟨hk,hg⟩ G G G G) ?_;refine qG b7A ?_;refine u S4 ?_;refine qG F9 ?_;refine a5A ?_;refine c6 ?_;exact⟨_,rE1,_,_,G,G,j9 (d5p b G G G)⟩
theorem e0V(h:(((decide ((s.length:Int)<1)) ||decide ((s.length:Int) > 24)) || !decide (j7 ((s.headD 0).toNat:Int)=1))=true):C0 s=false:=by
 cases s with
 |nil=>rfl
 |cons b l=>
  unfold C0;by_cases h1:(b::l).length<=24
  .have e1:decide (((b::l).length:Int) > 24)=false:=a1R J;have e2:decide (((b::l).length:Int)<1)=false:=a1R G5;rw[e1,e2]at h;have h3:j7 (b.toNat:Int)≠1:=U h;simp[h3]
  .simp only[a1R h1,Bool.false_and]
theorem e26(h:(((decide ((s.length:Int)<1)) ||decide ((s.length:Int) > 24)) || !decide (j7 ((s.headD 0).toNat:Int)=1))=false)(ha:s.all (inK [1,2,3])=true):C0 s=true:=by
 cases s with
 |nil=>simp at h
 |cons b l=>
  simp only[c3F,b0C,Bool.not_eq_false']at h;unfold C0;have h1:(b::l).length<=24:=by omega
  have h3:j7 (b.toNat:Int)=1:=U h.2;rw[ha];simp only[a2m h1,a2m h3];rfl
theorem d5C{b:UInt8}(hb:s[i]?=some b)(h:inK [1,2,3] b=false):C0 s=false:=by
 cases s with
 |nil=>rfl
 |cons x l=>
  unfold C0;have:(x::l).all (inK [1,2,3])=false:=by
   rw[c1Z];intro hh;have:=a6h.1 hh b (n_3 hb);rw[h]at this;cases this
  rw[this];show(_&&false)=false;rw[Bool.and_false]
theorem d2c{b:UInt8}{p:UInt8->Bool}(hb:s[i]?=some b)(ha:(s.take i).all p=true)(h:p b=true):(s.take (i+1)).all p=true:=by
 obtain⟨ai,rfl⟩:=n_2.1 hb;rw[<- c0a ai,List.all_append,ha];simp[h]
theorem b3d(s:D)(σ:List b9):b8 CC 94 [(sv s)] σ λr ae=>r= .ret (.val (.bool (C0 s)))/\ae=σ:=by
 refine b8.anyw hCC pu_ pu_ (c9 (qO Tryz.func94 ?_)) σ;refine u U9 ?_;refine b5h ?_;refine a5A ?_;refine qG F9 ?_;refine qG e2e ?_;refine qG (λhg=>c5 G d0e ⟨hg,O⟩ (a4j (s.headD 0) _) G) ?_;refine qG a3Y ?_;refine u S4 ?_;refine qC ?_ ?_<;>intro h1
 .have cH:C0 s=false:=e0V h1;exact d3B
 .have dM:=e26 h1;have hs:s.length<=24:=sm_ h1;refine u0 hCC (α:=Nat) (λi=>[(0,(sv s)),(3,iv i)]) (λ_=>[]) (λi=>i<=s.length/\(s.take i).all (inK [1,2,3])=true) (λi=>s.length -i) 0 ⟨n_4 _,G⟩ tu_ (au:=[]) G D5 uz_ ?_;intro i ⟨hi,bx⟩;refine a7q ?_;refine qC ?_ ?_<;>intro h2
  .have bX:(i:Int)<s.length:=U h2;obtain⟨b,hb⟩:=gx_ s i;refine u b6v ?_;refine u (c5 G c8i ⟨O,O⟩ (a6E b _) G) ?_;refine qC ?_ ?_<;>intro h3
   .have cH:C0 s=false:=d5C hb (U h3);exact d3B
   .refine u o3 ?_;exact⟨(i+1),_,⟨J,J,d2c hb bx (U h3)⟩,tu_,G⟩
  .have aL:s.length<=i:=by
    have:¬(i:Int)<s.length:=U h2;omega
   rw[a2p aL]at bx;refine V5 ?_;exact⟨_,rE1,_,_,G,G,j9 (by rw[dM bx])⟩
theorem d8c(b:UInt8)(hx:x=inK [1,2,3] b)(hy:y=((b.toNat:Int) == 46)):(x ||y)=inK [1,2,3,4] b:=by
 subst hx hy;unfold inK;generalize (b.toNat:Int)=c;have h4:(c == 46)=decide (j7 c=4):=by
  by_cases h:c=46
  .subst h;rfl
  .have e:j7 c≠4:=by
    unfold j7
    repeat' split
    all_goals omega
   rw[a1R e];simp[h]
 rw[h4];simp[Bool.or_assoc]
def a1S(aY parts:Nat)(Jj:D):Bool:=match B2 47 Jj with
 | []=>false
 |p::ps=>decide (1<=aY+p.length)&&decide (aY+p.length<=24)&&p.all (inK [1,2,3,4])&&ps.all a3W&&decide (parts+ps.length<=8)
theorem c0K(h:s.length<=80):F6 s=a1S 0 1 s:=by
 unfold F6 a1S;cases hs:B2 47 s with
 |nil=>exact absurd hs (a0N 47 s)
 |cons p ps=>
  have e1:decide ((p::ps).length<=8)=decide (1+ps.length<=8):=by rw[J5,Nat.add_comm]
  rw[e1,a2m h];simp only[b3W,a3W,P4,b6I];cases decide (1+ps.length<=8)<;>simp
theorem c8F:a1S aY parts []=(decide (1<=aY)&&decide (aY<=24)&&decide (parts<=8)):=by
 simp[a1S,B2]
theorem b9y(h:aY<=24):a1S aY parts (47::Jj)=(decide (1<=aY)&&a1S 0 (parts+1) Jj):=by
 unfold a1S;rw[B2,W G];cases hs:B2 47 Jj with
 |nil=>exact absurd hs (a0N 47 Jj)
 |cons p ps=>
  have e:decide (parts+(p::ps).length<=8)=decide (parts+1+ps.length<=8):=b3u.2 G5;simp only[e,b3W,a3W,P4,a1D,a8c,a2m h,List.all_nil,Bool.and_true,b1k]
theorem d3e{b:UInt8}(hb:b≠47)(hk:inK [1,2,3,4] b=true):a1S aY parts (b::Jj)=a1S (aY+1) parts Jj:=by
 unfold a1S;rw[B2,H hb];cases hs:B2 47 Jj with
 |nil=>exact absurd hs (a0N 47 Jj)
 |cons p ps=>
  have e:aY+(b::p).length=aY+1+p.length:=by simp;omega
  simp only[e,b3W,hk,b6I]
theorem c7I{b:UInt8}(hb:b≠47)(hk:inK [1,2,3,4] b=false):a1S aY parts (b::Jj)=false:=by
 unfold a1S;rw[B2,H hb];cases hs:B2 47 Jj with
 |nil=>exact absurd hs (a0N 47 Jj)
 |cons p ps=>simp[hk]
theorem c6a(h:24<aY):a1S aY parts Jj=false:=by
 unfold a1S
 split
 .rfl
 .rename_i p ps _;have:¬aY+p.length<=24:=by omega
  simp[this]
theorem d2v{b:UInt8}(h:s[i]?=some b):s.drop i=b::s.drop (i+1):=by
 obtain⟨ai,rfl⟩:=n_2.1 h;exact a0v ai
theorem c8K:(decide ((aY:Int) > 0)&&decide ((parts:Int)<=8))=(decide (1<=aY)&&decide (parts<=8)):=by
 have e1:decide ((aY:Int) > 0)=decide (1<=aY):=b3u.2 J;have e2:decide ((parts:Int)<=8)=decide (parts<=8):=b3u.2 J;rw[e1,e2]
theorem a8B(s:D)(σ:List b9):b8 CC 86 [(sv s)] σ λr ae=>r= .ret (.val (.bool (F6 s)))/\ae=σ:=by
 refine b8.anyw hCC pu_ pu_ (c9 (qO Tryz.func86 ?_)) σ;refine u U9 ?_;refine qC ?_ ?_<;>intro h1
 .have h80:¬s.length<=80:=by
   have:(s.length:Int) > 80:=U h1;omega
  refine c6 ?_;exact⟨_,rE1,_,_,G,G,j9 (by simp[F6,h80])⟩
 .have h80:s.length<=80:=by
   have:¬(s.length:Int) > 80:=U h1;omega
  refine u0 hCC (α:=Nat×Nat×Nat) (λx=>[(0,(sv s)),(3,iv x.2.1),(4,iv x.2.2),(5,iv x.1)]) (λ_=>[]) (λx=>x.1<=s.length/\x.2.2<=24/\x.2.1<=x.1+1/\F6 s=a1S x.2.2 x.2.1 (s.drop x.1)) (λx=>s.length -x.1) (0,1,0) ⟨n_4 _,I,I,c0K h80⟩ tu_ (au:=[]) G D5 uz_ ?_;intro⟨i,parts,aY⟩ ⟨hi,gp,hpa,bb⟩;dsimp only at hi gp hpa bb⊢;refine a7q ?_;refine qC ?_ ?_<;>intro h2
  .have bX:(i:Int)<s.length:=U h2;obtain⟨b,hb⟩:=gx_ s i;rw[d2v hb]at bb;refine u b6v ?_;refine qC ?_ ?_<;>intro h3
   .have hb47:b=47:=by
     have h47:(b.toNat:Int)=47:=U h3;have h48:(47:UInt8).toNat=47:=G;exact b8d.1 J
    subst hb47;rw[b9y gp]at bb;refine qC ?_ ?_<;>intro h4
    .have eJ:aY=0:=by
      have:(aY:Int)=0:=U h4;omega
     subst eJ;refine c6 ?_;exact⟨_,rE1,_,_,G,G,j9 (show false=F6 s by rw[bb];rfl)⟩
    .have eJ:1<=aY:=by
      have:¬(aY:Int)=0:=U h4;omega
     rw[a2m eJ,b6I]at bb;refine u o3 ?_;refine cC ?_ ?_<;>intro h5
     .exfalso;simp at h5
     .refine qk (u o3 ?_);exact⟨(i+1,parts+1,0),_,⟨do_,do_,do_,do_,bb⟩,tu_,G⟩
   .have hb47:b≠47:=by
     intro e;subst e;simp at h3
    refine u b6v ?_;refine u (c5 G c8i ⟨O,O⟩ (a6E b _) G) ?_;refine a4g ?_;refine qG e08 ?_;refine a5A ?_;refine qC ?_ ?_<;>intro h6
    .have bW:inK [1,2,3,4] b=true:=Eq.trans (Eq.symm (d8c b G G)) h6;rw[d3e hb47 bW]at bb;refine u o3 ?_;refine qC ?_ ?_<;>intro h7
     .have hbig:24<aY+1:=by
       have:((aY:Int)+1) > 24:=U h7;omega
      refine c6 ?_;exact⟨_,rE1,_,_,G,G,j9 (show false=F6 s by rw[bb,c6a hbig])⟩
     .have hbig:aY+1<=24:=by
       have:¬((aY:Int)+1) > 24:=U h7;omega
      refine u o3 ?_;exact⟨(i+1,parts,aY+1),_,⟨do_,do_,hbig,do_,bb⟩,tu_,G⟩
    .have bW:inK [1,2,3,4] b=false:=Eq.trans (Eq.symm (d8c b G G)) h6;rw[c7I hb47 bW]at bb;refine c6 ?_;exact⟨_,rE1,_,_,G,G,j9 (show false=F6 s from bb.symm)⟩
  .have aL:s.length<=i:=by
    have:¬(i:Int)<s.length:=U h2;omega
   rw[a0V aL,c8F,a2m gp,Bool.and_true]at bb;refine o6 ?_;refine qG F9 ?_;refine a2P ?_;refine c6 ?_;exact⟨_,rE1,_,_,G,G,j9 (Eq.trans c8K bb.symm)⟩
structure Ky where
 k:Int
 a:D
 b:D
deriving DecidableEq
variable{a:Nat}
abbrev Ky.cells(x:Ky):List CV:=[iv x.k,sv x.a,sv x.b]
def Ky.cv(x:Ky):List CV:=x.cells
theorem D1(l:List Ky)(nn:Bool):o8 (.list (l.map Ky.cv) nn none):=I6 (f:=Ky.cv) (λ_=>⟨.val _,.val _,.val _,O⟩) l nn
theorem P3(n:Nat)(l:List Ky)(nn:Bool):Old n (.list (l.map Ky.cv) nn none):=(D1 l nn).old
theorem c1Q(n:Nat)(x:Ky):G1 n (.box x.cells):=x9 ⟨.val _,.val _,.val _,O⟩
def N9(x:Ky):Bool:=
 if(x.k == 1 ||x.k == 2)=true then C0 x.a &&C0 x.b else if(x.k == 3 ||x.k == 4)=true then F6 x.a &&decide (x.b=[])else if(x.k == 5 ||x.k == 6 ||x.k == 7)=true then C0 x.a &&decide (x.b=[])else false
theorem c05(x:Ky)(ha:x.a.length<=1000000000)(ge:x.b.length<=1000000000)(σ:List b9):b8 CC 64 [.agg x.cells] σ λr ae=>r= .ret (.val (.bool (N9 x)))/\ae=σ:=by
 refine an_ Tryz.func64 ?_;refine d1p ?_;refine F7 ?_;refine qs 1 ?_;refine a5n hCC (α:=Bool) (λb=>[(1,.ptr 0 0),(4,iv x.k),(5,(.val (.bool b)))]) (λ_=>[.box x.cells]) (λb=>b=(x.k == 1 ||x.k == 2)) D5 uz_ ?_ ?_
 .
  refine qk (qC ?_ ?_)<;> intro h1
  .exact ⟨(x.k == 1),_,(by simp_all),tu_,G⟩
  .exact ⟨(x.k == 2),_,(by simp_all),tu_,G⟩
 .intro b hb;refine cC ?_ ?_<;>intro h2
  .refine qk (u c3K ?_);refine b6E ?_;refine qG (λhg=>c5 G c3h ⟨hg,O⟩ (a3p x.b _) G) ?_;refine a84 ?_;exact⟨_,rE1,_,_,G,G,j9 (show(C0 x.a &&C0 x.b)=N9 x by simp_all[N9])⟩
  .refine a5n hCC (α:=Bool) (λb=>[(1,.ptr 0 0),(4,iv x.k),(16,(.val (.bool b)))]) (λ_=>[.box x.cells]) (λb=>b=(x.k == 3 ||x.k == 4)) D5 uz_ ?_ ?_
   .
    refine qk (qC ?_ ?_)<;> intro h3
    .exact ⟨(x.k == 3),_,(by simp_all),tu_,G⟩
    .exact ⟨(x.k == 4),_,(by simp_all),tu_,G⟩
   .intro b2 bD;refine qC ?_ ?_<;>intro h4
    .refine u (c5 G c2x ⟨O,O⟩ (a3b x.a J _) G) ?_;refine b6E ?_;refine qG b2W ?_;refine a84 ?_;exact⟨_,rE1,_,_,G,G,j9 (show(F6 x.a &&decide (x.b=[]))=N9 x by simp_all[N9])⟩
    .refine qC ?_ ?_<;>intro h5
     .refine qC ?_ ?_<;>intro h6
      .refine u c3K ?_;refine b6E ?_;refine qG b2W ?_;refine u Q8 ?_;exact d9d
      .refine qk ?_;exact d9S
     .refine qC ?_ ?_<;>intro h7
      .refine qC ?_ ?_<;>intro h8
       .refine u c3K ?_;refine b6E ?_;refine qG b2W ?_;refine u Q8 ?_;exact d9d
       .refine qk ?_;exact d9S
      .refine qC ?_ ?_<;>intro h9
       .refine u c3K ?_;refine b6E ?_;refine qG b2W ?_;refine u Q8 ?_;exact d9d
       .refine qk ?_;exact d9S
theorem b51{P:Program}(a b:D)(w:World):(Extern.BytealgCompare.compare #[.string (str a),.string (str b)]).run P w= .ok (.int .i64 (Go.Lib.compareBytes a b)) w:=by
 have:=Go.Lib.run_compareString (P:=P) (str a) (str b) w;rw[this];simp[str]
def X5(a b:Int):Int:=if a<b then -1 else if b<a then 1 else 0
def T4(x y:Ky):Int:=if X5 x.k y.k≠0 then X5 x.k y.k else if Go.Lib.compareBytes x.a y.a≠0 then Go.Lib.compareBytes x.a y.a else Go.Lib.compareBytes x.b y.b
theorem c2E:∀(a b:D),Op.bytesLess a b=decide (Go.Lib.compareBytes a b= -1)
 | [],[]=>rfl
 | [],_::_=>rfl
 |_::_,[]=>by simp[Op.bytesLess,Go.Lib.compareBytes]
 |x::a,y::b=>by
  rw[Op.bytesLess,Go.Lib.compareBytes,c2E a b];by_cases h:x<y
  .simp [h]
  .by_cases h':y<x
   .have:¬x=y:=λe=>h (by rw[e]at h';exact absurd h' Q);simp[h,h',this]
   .have:x=y:=by
     apply b8d.1;rw[b56]at h h';omega
    subst this;simp
theorem a80:∀(a b:D),Go.Lib.compareBytes a b=0↔a=b
 | [],[]=>by simp[Go.Lib.compareBytes]
 | [],_::_=>by simp[Go.Lib.compareBytes]
 |_::_,[]=>by simp[Go.Lib.compareBytes]
 |x::a,y::b=>by
  rw[Go.Lib.compareBytes];by_cases h:x<y
  .have:¬x=y:=λe=>by rw[e]at h;exact absurd h Q
   simp[h,this]
  .by_cases h':y<x
   .have:¬x=y:=λe=>by rw[e]at h';exact absurd h' Q
    simp[h,h',this]
   .have:x=y:=by
     apply b8d.1;rw[b56]at h h';omega
    subst this;simp[a80 a b]
theorem a97:∀(a b:D),Go.Lib.compareBytes b a= -Go.Lib.compareBytes a b
 | [],[]=>rfl
 | [],_::_=>rfl
 |_::_,[]=>rfl
 |x::a,y::b=>by
  rw[Go.Lib.compareBytes,Go.Lib.compareBytes,a97 a b];by_cases h:x<y
  .have:¬y<x:=λh'=>by
    rw[b56]at h h';omega
   simp[h,this]
  .by_cases h':y<x<;>simp[h,h']
theorem b4L:∀(a b:D),Go.Lib.compareBytes a b= -1\/Go.Lib.compareBytes a b=0\/Go.Lib.compareBytes a b=1
 | [],[]=>.inr (.inl G)
 | [],_::_=>.inl G
 |_::_,[]=>.inr (.inr G)
 |x::a,y::b=>by
  rw[Go.Lib.compareBytes]
  split
  .exact .inl G
  .split
   .exact .inr (.inr G)
   .exact b4L a b
theorem a3K(a b:Int):X5 a b=0↔a=b:=by unfold X5;split<;>(try split)<;>omega
theorem b5k(x y:Ky):T4 x y=0↔x=y:=by
 obtain⟨k,a,b⟩:=x;obtain⟨k',a',b'⟩:=y;unfold T4;simp only[Ky.mk.injEq];have h1:=a3K k k';have h2:=a80 a a';have h3:=a80 b b'
 split
 .rename_i h;exact⟨λe=>absurd e h,λ⟨e,_⟩=>h1.2 e⟩
 .rename_i h;have hk:k=k':=h1.1 (U h)
  split
  .rename_i h;exact⟨λe=>absurd e h,λ⟨_,e,_⟩=>h2.2 e⟩
  .rename_i h;have ha:a=a':=h2.1 (U h);rw[h3];exact⟨λe=>⟨hk,ha,e⟩,λ⟨_,_,e⟩=>e⟩
theorem c5K(x y:Ky):T4 y x= -T4 x y:=by
 unfold T4;have h1:X5 y.k x.k = -X5 x.k y.k:=by unfold X5;split<;>split<;>(try split)<;>omega
 rw[h1,a97 x.a y.a,a97 x.b y.b];by_cases h:X5 x.k y.k=0
 .by_cases h':Go.Lib.compareBytes x.a y.a=0<;>simp[h,h']
 .simp [h]
theorem b1B(x y:Ky):T4 x y= -1\/T4 x y=0\/T4 x y=1:=by
 unfold T4
 split
 .unfold X5
  split
  .exact .inl G
  .split
   .exact .inr (.inr G)
   .exact .inr (.inl G)
 .split
  .exact b4L _ _
  .exact b4L _ _
theorem b3m(x y:Ky):∀w,(Op.equal 49 (.agg [.int .i64 x.k,.string (str x.a),.string (str x.b)].toArray) (.agg [.int .i64 y.k,.string (str y.a),.string (str y.b)].toArray)).run CC.P w= .ok (decide (x=y)) w:=λw=>by
 show(Op.equal _ _ _).run Tryz.prog w=_;simp[Op.equal,Op.maxDepth,go_sem,O4];obtain⟨a,b,c⟩:=x;obtain⟨a',b',c'⟩:=y;by_cases h1:a=a'<;>by_cases h2:b=b'<;>by_cases h3:c=c'<;>simp[h1,h2,h3]
theorem a9h(a:Int)(σ:List b9):b8 CC 218 [iv a] σ λr ae=>r= .ret (.val (.bool false))/\ae=σ:=by
 refine b8.anyw hCC pu_ pu_ (c9 (qO Tryz.func218 ?_)) σ;refine c6 ?_;exact⟨_,rE1,_,_,G,G,j9 Q⟩
theorem a5Z(a b:Int)(σ:List b9):b8 CC 170 [iv a,iv b] σ λr ae=>r= .ret (iv (X5 a b))/\ae=σ:=by
 refine b8.anyw hCC pu_ pu_ (c9 (qO Tryz.func170 ?_)) σ;refine u (c5 G Tryz.call218 ⟨O,O⟩ (a9h a _) G) ?_;refine u (c5 G Tryz.call218 ⟨O,O⟩ (a9h b _) G) ?_;refine qC ?_ ?_<;>intro h1
 .cases h1
 .refine qC ?_ ?_<;>intro h3
  .cases h3
  .refine qC ?_ ?_<;>intro h4
   .have ai:a<b:=U h4;refine c6 ?_;exact⟨_,rE1,_,_,G,G,B8 (show(-1:Int)=X5 a b by rw[X5,W ai])⟩
   .have aL:¬a<b:=U h4;refine qC ?_ ?_<;>intro h5
    .have ai:b<a:=U h5;refine c6 ?_;exact⟨_,rE1,_,_,G,G,B8 (show(1:Int)=X5 a b by rw[X5,H aL,W ai])⟩
    .have eW:¬b<a:=U h5;refine c6 ?_;exact⟨_,rE1,_,_,G,G,B8 (show(0:Int)=X5 a b by rw[X5,H aL,H eW])⟩
theorem d4V{l:List Int}{x:Int}(hx:l[i]?=some x)(hz:∀y∈l.take i,y=0)(h:x≠0):x=(l.find? λx=>decide (x≠0)).getD 0:=by
 obtain⟨ai,rfl⟩:=n_2.1 hx;have:l.find? (λx=>decide (x≠0))=some l[i]:=by
  rw[List.find?_eq_some_iff_getElem];refine⟨U h,i,ai,G,λj hj=>?_⟩;have:=hz l[j] (n_3 (i:=j) (by rw[a38,W hj];simp));simp[this]
 rw[this];rfl
theorem d5K{l:List Int}{x:Int}(hx:l[i]?=some x)(hz:∀y∈l.take i,y=0)(h:x=0):∀y∈l.take (i+1),y=0:=by
 obtain⟨ai,rfl⟩:=n_2.1 hx;rw[<- c0a ai];intro y hy
 rcases Q9.1 hy with hy|hy
 .exact hz y hy
 .rw [a0r.1 hy];exact h
theorem d4F{l:List Int}(hz:∀y∈l,y=0):(0:Int)=(l.find? λx=>decide (x≠0)).getD 0:=by
 have:l.find? (λx=>decide (x≠0))=none:=List.find?_eq_none.2 λx hx=>by simp[hz x hx]
 rw[this];rfl
theorem b8h(l:List Int)(hl:l.length<=1000000)(σ:List b9):b8 CC 169 [(.list (l.map icv) true none)] σ λr ae=>r= .ret (iv ((l.find? λx=>decide (x≠0)).getD 0))/\ae=σ:=by
 refine b8.anyw hCC pu_ pu_ (c9 (qO Tryz.func169 ?_)) σ;refine u a7g ?_;refine u0 hCC (α:=Nat) (λi=>[(3,(iv (0))),(6,(.list (l.map icv) true none)),(7,iv l.length),(8,iv i)]) (λ_=>[]) (λi=>i<=l.length/\∀x∈l.take i,x=0) (λi=>l.length -i) 0 ⟨n_4 _,Q⟩ tu_ (au:=[]) G D5 uz_ ?_;intro i ⟨hi,hz⟩;refine qk (qC ?_ ?_)<;> intro h1
 .have bX:(i:Int)<l.length:=U h1;obtain⟨x,hx⟩:=gx_ l i;refine u (A4 G O O G G t_7 t_1 J (j8 hx) G) ?_;refine qC ?_ ?_<;>intro h2
  .have hx0:x≠0:=U h2;refine c6 ?_;exact⟨_,rE1,_,_,G,G,B8 (d4V hx hz hx0)⟩
  .have hx0:x=0:=U h2;refine u o3 ?_;exact⟨(i+1),_,⟨J,J,d5K hx hz hx0⟩,tu_,G⟩
 .have aL:l.length<=i:=by
   have:¬(i:Int)<l.length:=U h1;omega
  rw[a2p aL]at hz;refine V5 ?_;exact⟨_,rE1,_,_,G,G,B8 (d4F hz)⟩
theorem a6n(a b:D)(σ:List b9):b8 CC 219 [(sv a),(sv b)] σ λr ae=>r= .ret (iv (Go.Lib.compareBytes a b))/\ae=σ:=by
 refine b8.anyw hCC pu_ pu_ (c9 (qO Tryz.func219 ?_)) σ;refine u (b95 (e:=Extern.BytealgCompare.compare) G Tryz.func262 G G G G O O G G (λw=>b51 a b w)) ?_;exact c4S
theorem T7(a b:D)(σ:List b9):b8 CC 171 [(sv a),(sv b)] σ λr ae=>r= .ret (iv (Go.Lib.compareBytes a b))/\ae=σ:=by
 refine b8.anyw hCC pu_ pu_ (c9 (qO Tryz.func171 ?_)) σ;refine u (c5 G Tryz.call219 j2 (a6n a b _) G) ?_;exact c4S
theorem e0f(x y:Ky):(([X5 x.k y.k,Go.Lib.compareBytes x.a y.a,Go.Lib.compareBytes x.b y.b].find? λx=>decide (x≠0)).getD 0)=T4 x y:=by
 unfold T4;by_cases h1:X5 x.k y.k=0
 .by_cases h2:Go.Lib.compareBytes x.a y.a=0
  .by_cases h3:Go.Lib.compareBytes x.b y.b=0<;>simp[h1,h2,h3]
  .simp [h1,h2]
 .simp [h1]
theorem c0q(x y:Ky):b8 CC 115 [.agg x.cells,.agg y.cells] [] λr ae=>r= .ret (iv (T4 x y))/\ae=[]:=by
 refine c9 (qO Tryz.func115 ?_);refine a9N ?_;refine u (a5W G O O (xs:=[.int .i64 x.k,.string (str x.a),.string (str x.b)]) (ys:=[.int .i64 y.k,.string (str y.a),.string (str y.b)]) G G c48 (b3m x y)) ?_;refine qC ?_ ?_<;>intro h1
 .have fU:x=y:=U h1;subst fU;refine c6 ?_;exact⟨_,rE1,_,_,G,G,B8 (show(0:Int)=T4 x x from((b5k x x).2 G).symm)⟩
 .refine cW 18 ?_;refine d8o ?_;refine d8o ?_;refine hY (c5 G Tryz.call170 j2 (a5Z x.k y.k _) G) ?_;refine hY c1L ?_;refine hY W7 ?_;refine hY c1L ?_;refine hY W7 ?_;refine hY (c5 G c35 j2 (T7 x.a y.a _) G) ?_;refine hY c1L ?_;refine hY W7 ?_;refine hY c1L ?_;refine hY W7 ?_;refine hY (c5 G c35 j2 (T7 x.b y.b _) G) ?_;refine hY (A6 ([X5 x.k y.k,Go.Lib.compareBytes x.a y.a,Go.Lib.compareBytes x.b y.b].map icv) G D0 t_7 t_1 t_9 G G G G G G G G G) ?_;refine hY (c5 G Tryz.call169 ⟨O,O⟩ (b8h _ Q _) G) ?_;refine b6j ?_;refine c6 ?_;exact⟨_,rE1,_,_,G,G,B8 (e0f x y)⟩
theorem c4I{x y:Ky}(h:¬x.k=y.k):decide (x.k <y.k)=decide (T4 x y= -1):=by
 rw[T4,W (λe=>h ((a3K _ _).1 e)),X5];by_cases h1:x.k <y.k
 .simp [h1]
 .have:y.k <x.k:=by omega
  simp[h1,this]
theorem d8v{x y:Ky}(h:x.k=y.k)(h2:¬x.a=y.a):Op.bytesLess x.a y.a=decide (T4 x y= -1):=by
 rw[T4,H (by simp[(a3K x.k y.k).2 h]),W (λe=>h2 ((a80 _ _).1 e)),c2E]
theorem d9O{x y:Ky}(h:x.k=y.k)(h2:x.a=y.a):Op.bytesLess x.b y.b=decide (T4 x y= -1):=by
 rw[T4,H (by simp[(a3K x.k y.k).2 h]),H (by simp[(a80 x.a y.a).2 h2]),c2E]
def ltK(x y:Ky):Bool:=decide (T4 x y= -1)
theorem c9n(x y:Ky):ltK y x=decide (T4 x y=1):=by
 rw[ltK,c5K]
 rcases b1B x y with h|h|h<;>simp[h]
theorem b0r(x y:Ky)(σ:List b9):b8 CC 100 [.agg x.cells,.agg y.cells] σ λr ae=>r= .ret (.val (.bool (ltK x y)))/\ae=σ:=by
 refine b8.anyw hCC pu_ pu_ (c9 (qO Tryz.func100 ?_)) σ;refine a9N ?_;refine qC ?_ ?_<;>intro h1
 .have hk:¬x.k=y.k:=U h1;refine c6 ?_;exact⟨_,rE1,_,_,G,G,j9 (c4I hk)⟩
 .have hk:x.k=y.k:=U h1;refine u b0h ?_;refine qC ?_ ?_<;>intro h2
  .have ha:¬x.a=y.a:=U h2;refine b8p ?_;exact⟨_,rE1,_,_,G,G,j9 (d8v hk ha)⟩
  .have ha:x.a=y.a:=U h2;refine b8p ?_;exact⟨_,rE1,_,_,G,G,j9 (d9O hk ha)⟩
def b6p(v n:Int):Int:=if n<=1 then 0 else v%n
theorem a98{v n:Int}(hn:1<=n):0<=b6p v n/\b6p v n<n:=by
 unfold b6p
 split
 .omega
 .exact ⟨Int.emod_nonneg _ J,Int.emod_lt_of_pos _ J⟩
def b2I(l:List Int)(at_:Nat):Int:=(l[at_]?).getD ((at_:Int)*7%11)
def L8(l:List Int)(at_:Nat)(n:Int):Int:=b6p (b2I l at_) n
abbrev r9(l:List Int)(nn:Bool)(at_:Nat):b9:=.box [.list (l.map icv) nn none,iv at_]
theorem G0(l:List Int)(nn:Bool)(k:Nat):b0w (r9 l nn k):=N8.all ⟨N2 _ _,.val _,O⟩
theorem b3z(v n:Int)(hn:n<=4611686018427387904)(σ:List b9):b8 CC 74 [iv v,iv n] σ λr ae=>r= .ret (iv (b6p v n))/\ae=σ:=by
 refine b8.anyw hCC pu_ pu_ (c9 (qO Tryz.func74 ?_)) σ;refine qC ?_ ?_<;>intro h1
 .have bh:n<=1:=U h1;refine c6 ?_;exact⟨_,rE1,_,_,G,G,B8 (by rw[b6p,W bh])⟩
 .have bh:¬n<=1:=U h1;have ht:v.tmod n=v%n\/v.tmod n+n=v%n/\v.tmod n<0:=by
   rcases Int.le_total 0 v with hv|hv
   .exact .inl (b3h hv)
   .rw [Int.tmod_eq_emod];split
    .exact .inl J
    .right;have:=Int.emod_lt_of_pos v (show 0<n by omega);have h5:(n.natAbs:Int)=n:=by omega
     omega
  have cz:=Int.emod_nonneg v (show n≠0 by omega);have cc:=Int.emod_lt_of_pos v (show 0<n by omega);have gg:=Int.tmod_lt_of_pos v (show 0<n by omega);have hm4: -n<=v.tmod n:=by omega
  refine u (a0e G O O G G (b4f J)) ?_;refine qC ?_ ?_<;>intro h2
  .have ai:v.tmod n<0:=U h2;refine u a8O ?_;refine c6 ?_;exact⟨_,rE1,_,_,G,G,B8 (by rw[b6p,H bh];omega)⟩
  .have ai:¬v.tmod n<0:=U h2;refine c6 ?_;exact⟨_,rE1,_,_,G,G,B8 (by rw[b6p,H bh];omega)⟩
theorem J3(l:List Int)(nn:Bool)(k:Nat)(σ:List b9)(q:Nat)(hk:σ[q]?=some (r9 l nn k))(bg:k<=1000000000)(hl:l.length<=maxLen)(n:Int)(hn:n<=4611686018427387904):b8 CC 24 [.ptr q 0,iv n] σ λr ae=>∃_:Unit,r= .ret (iv (L8 l k n))/\ae=σ.set q (r9 l nn (k+1))/\True:=by
 have dD:=hl;unfold maxLen at dD;unfold r9 at hk;have hq:q<σ.length:=(n_2.1 hk).1;refine cO Tryz.func24 ?_;refine b9I ?_;refine a2a ?_;refine cY b3r ?_;refine cY b5L ?_;refine cY (b7O G O G G G J J) ?_;refine cY (a0e G O G G G (c0g J J)) ?_;refine a6u ?_;refine F7 ?_;refine cW 10 ?_;refine a2S ?_;refine hY b3r ?_;refine hY b5L ?_;refine a2S ?_;refine d7j ?_;refine hY a7g ?_;refine hY b16 ?_;refine a8N ?_;refine cC ?_ ?_<;>intro h1
 .have ai:(k:Int)<l.length:=U h1;obtain⟨v,hv⟩:=gx_ l k;refine cW 11 ?_;refine a2S ?_;refine d7j ?_;refine a2S ?_;refine hY b3r ?_;refine hY b5L ?_;refine hY (A4 G O O G G t_7 t_1 J (j8 hv) G) ?_;refine hY b8i ?_;refine hY a07 ?_;refine a8N ?_;refine a2a ?_;refine cY b3r ?_;refine cY b5L ?_;refine b4b ?_;refine d7y ?_;refine o7 ?_;refine a4b ?_;refine yc G Tryz.call74 j2 (b3z v n hn _) ?_;refine a0W ?_;exact⟨_,rE1,⟨(),by rw[L8,b2I,hv];rfl,G,O⟩⟩
 .have aL:¬(k:Int)<l.length:=U h1;have hv:l[k]?=none:=b5V J;refine A8 ?_;refine a2a ?_;refine cY b3r ?_;refine cY b5L ?_;refine b4b ?_;refine d7y ?_;refine o7 ?_;refine a4b ?_;refine yc G Tryz.call74 j2 (b3z _ n hn _) ?_;refine a0W ?_;exact⟨_,rE1,⟨(),by rw[L8,b2I,hv];rfl,G,O⟩⟩
theorem K8(l:List Int)(nn:Bool)(k:Nat)(σ:List b9)(q:Nat)(hk:σ[q]?=some (r9 l nn k))(bg:k<=1000000000)(hl:l.length<=maxLen)(n m:Int)(hn:m<=4611686018427387904):b8 CC 10 [.ptr q 0,iv n,iv m] σ λr ae=>∃_:Unit,r= .ret (.val (.bool (decide (L8 l k m<n))))/\ae=σ.set q (r9 l nn (k+1))/\True:=by
 refine qO Tryz.func10 ?_;refine qD (c4 G a7H j2 (J3 l nn k σ q hk bg hl m hn) G ?_);intro _ _;refine c6 ?_;exact⟨_,rE1,⟨(),G,G,O⟩⟩
theorem a47(l:List Int)(nn:Bool)(k:Nat)(σ:List b9)(q:Nat)(hk:σ[q]?=some (r9 l nn k))(bg:k<=1000000000)(hl:l.length<=maxLen)(ls:List Int)(eX:ls≠[])(hln:ls.length<=1000):b8 CC 36 [.ptr q 0,.list (ls.map icv) true none] σ λr ae=>∃v:Int,r= .ret (iv v)/\ae=σ.set q (r9 l nn (k+1))/\v∈ls:=by
 have hpos:=a8E.2 eX;have hb:=a98 (v:=b2I l k) (n:=(ls.length:Int)) J;obtain⟨v,hv⟩:∃v,ls[(L8 l k (ls.length:Int)).toNat]?=some v:=⟨ls[(L8 l k (ls.length:Int)).toNat]'(by unfold L8;omega),Q⟩;have hb':0<=L8 l k (ls.length:Int):=hb.1;refine qO Tryz.func36 ?_;refine u a7g ?_;refine cC ?_ ?_<;>intro h1
 .exfalso;simp at h1;exact eX h1
 .refine qk (u a7g ?_);refine qD (c4 G a7H j2 (J3 l nn k σ q hk bg hl (ls.length:Int) J) G ?_);intro _ _;refine u (A4 G O O G G t_7 t_1 J (j8 hv) G) ?_;exact d7L
theorem J7(l:List Int)(nn:Bool)(k:Nat)(σ:List b9)(q:Nat)(hk:σ[q]?=some (r9 l nn k))(bg:k<=1000000000)(hl:l.length<=maxLen)(ls:List D)(eX:ls≠[])(hln:ls.length<=1000):b8 CC 27 [.ptr q 0,.list (ls.map scv) true none] σ λr ae=>∃v:D,r= .ret (sv v)/\ae=σ.set q (r9 l nn (k+1))/\v∈ls:=by
 have hpos:=a8E.2 eX;have hb:=a98 (v:=b2I l k) (n:=(ls.length:Int)) J;obtain⟨v,hv⟩:∃v,ls[(L8 l k (ls.length:Int)).toNat]?=some v:=⟨ls[(L8 l k (ls.length:Int)).toNat]'(by unfold L8;omega),Q⟩;have hb':0<=L8 l k (ls.length:Int):=hb.1;refine qO Tryz.func27 ?_;refine u P0 ?_;refine cC ?_ ?_<;>intro h1
 .exfalso;simp at h1;exact eX h1
 .refine qk (u P0 ?_);refine qD (c4 G a7H j2 (J3 l nn k σ q hk bg hl (ls.length:Int) J) G ?_);intro _ _;refine u (A4 G O O G G t_2 t_0 J (j8 hv) G) ?_;exact d7L
def V8:List D:=([[112],[113],[115]]:List D)
theorem a54(σ:List b9):b8 CC 33 [] σ λr ae=>r= .ret (.list (V8.map scv) true none)/\ae=σ:=by
 refine b8.anyw hCC pu_ pu_ (c9 (qO Tryz.func33 ?_)) σ;refine u (A6 (V8.map scv) G ⟨G,G,G,O⟩ t_2 t_0 t_4 G G G G G G G G G) ?_;exact d2y
def X7:List D:=([[102],[103],[104],[107]]:List D)
theorem b10(σ:List b9):b8 CC 59 [] σ λr ae=>r= .ret (.list (X7.map scv) true none)/\ae=σ:=by
 refine b8.anyw hCC pu_ pu_ (c9 (qO Tryz.func59 ?_)) σ;refine u (A6 (X7.map scv) G ⟨G,G,G,G,O⟩ t_2 t_0 t_4 G G G G G G G G G) ?_;exact d2y
def a44:List D:=([[116],[117],[118]]:List D)
theorem c07(σ:List b9):b8 CC 38 [] σ λr ae=>r= .ret (.list (a44.map scv) true none)/\ae=σ:=by
 refine b8.anyw hCC pu_ pu_ (c9 (qO Tryz.func38 ?_)) σ;refine u (A6 (a44.map scv) G ⟨G,G,G,O⟩ t_2 t_0 t_4 G G G G G G G G G) ?_;exact d2y
def a1K:List D:=([[97,46,100,97,116],[100,47,98,46,100,97,116],[99],[97,46,115,114,99],[120,46,115,114,99]]:List D)
theorem c0U(σ:List b9):b8 CC 60 [] σ λr ae=>r= .ret (.list (a1K.map scv) true none)/\ae=σ:=by
 refine b8.anyw hCC pu_ pu_ (c9 (qO Tryz.func60 ?_)) σ;refine u (A6 (a1K.map scv) G ⟨G,G,G,G,G,O⟩ t_2 t_0 t_4 G G G G G G G G G) ?_;exact d2y
def a02:List D:=([[110],[109]]:List D)
theorem b1q(σ:List b9):b8 CC 61 [] σ λr ae=>r= .ret (.list (a02.map scv) true none)/\ae=σ:=by
 refine b8.anyw hCC pu_ pu_ (c9 (qO Tryz.func61 ?_)) σ;refine u (A6 (a02.map scv) G ⟨G,G,O⟩ t_2 t_0 t_4 G G G G G G G G G) ?_;exact d2y
theorem P1{v:D}(h:v∈V8\/v∈X7\/v∈a44\/v∈a1K\/v∈a02):v.length<=8:=by
 rcases h with h|h|h|h|h<;>revert v<;>decide
def sub(s:D)(a e:Nat):D:=(s.take e).drop a
theorem c3H(h:e<=s.length):(sub s a e).length=e-a:=by simp[sub];omega
def preB(p s:D):Bool:=p.isPrefixOf s
def c0f(p s:D):Bool:=decide (p.length<=s.length)&&decide (s.drop (s.length -p.length)=p)
theorem d9Z(s p:D)(hx:x=decide ((s.length:Int)>=p.length))(hy:x=true->y=decide ((s.take p.length).drop 0=p)):(x&&y)=preB p s:=by
 subst hx;by_cases h:(s.length:Int)>=p.length
 .rw [hy (a2m h),a2m h,b6I,b40,preB];by_cases h2:s.take p.length=p
  .have:p.isPrefixOf s=true:=by rw[b8N];exact⟨s.drop p.length,by rw[show p++s.drop p.length=s.take p.length++s.drop p.length by rw[h2]];exact List.take_append_drop _ _⟩
   simp[h2,this]
  .have:p.isPrefixOf s=false:=by
    cases hq:p.isPrefixOf s with
    |false=>rfl
    |true=>
     rw[b8N]at hq;obtain⟨t,rfl⟩:=hq;exact absurd (List.take_left' G) h2
   simp[h2,this]
 .have:p.isPrefixOf s=false:=by
   cases hq:p.isPrefixOf s with
   |false=>rfl
   |true=>
    rw[b8N]at hq;obtain⟨t,rfl⟩:=hq;exfalso;apply h;simp;omega
  rw[preB,this,a1R h];rfl
theorem e0p(s p:D)(hx:x=decide ((s.length:Int)>=p.length))(hy:x=true->y=decide ((s.take s.length).drop (s.length -p.length)=p)):(x&&y)=c0f p s:=by
 subst hx;unfold c0f;by_cases h:(s.length:Int)>=p.length
 .rw [hy (a2m h),a2m h,a6O,a2m (show p.length<=s.length by omega)]
 .rw [a1R h,a1R (show ¬p.length<=s.length by omega)];rfl
theorem b1c(s p:D)(σ:List b9):b8 CC 250 [(sv s),(sv p)] σ λr ae=>r= .ret (.val (.bool (preB p s)))/\ae=σ:=by
 refine b8.anyw hCC pu_ pu_ (c9 (qO Tryz.func250 ?_)) σ;refine u U9 ?_;refine u U9 ?_;refine a4g ?_;refine qG c30 ?_;refine qG (λhg=>I4 (h:=p.length) G hg G t_8 G ⟨hg,_,_,G,by first|omega|(simp at hg;omega),by first|omega|(simp at hg;omega)⟩ J (sm_ hg)) ?_;refine c2B ?_;refine a84 ?_;exact⟨_,rE1,_,_,G,G,j9 (d9Z s p G λ_=>G)⟩
theorem a5t(s p:D)(σ:List b9):b8 CC 194 [(sv s),(sv p)] σ λr ae=>r= .ret (.val (.bool (preB p s)))/\ae=σ:=by
 refine b8.anyw hCC pu_ pu_ (c9 (qO Tryz.func194 ?_)) σ;refine u (c5 G Tryz.call250 j2 (b1c s p _) G) ?_;exact d3r
theorem b1K(s p:D)(hs:s.length<=1000000000000)(hp:p.length<=1000000000000)(σ:List b9):b8 CC 152 [(sv s),(sv p)] σ λr ae=>r= .ret (.val (.bool (c0f p s)))/\ae=σ:=by
 refine b8.anyw hCC pu_ pu_ (c9 (qO Tryz.func152 ?_)) σ;refine u U9 ?_;refine u U9 ?_;refine a4g ?_;refine qG c30 ?_;refine b5h ?_;refine qG (λhg=>a9n G hg hg G G c2W c2W) ?_;refine qG (λhg=>I4 (a:=(s.length -p.length)) G hg G t_8 ⟨hg,_,_,G,by first|omega|(simp at hg;omega),by first|omega|(simp at hg;omega)⟩ G (sm_ hg) (n_6 _)) ?_;refine c2B ?_;refine a84 ?_;exact⟨_,rE1,_,_,G,G,j9 (e0p s p G λ_=>G)⟩
theorem a5w(s p:D)(hs:s.length<=1000000000000)(hp:p.length<=1000000000000)(σ:List b9):b8 CC 102 [(sv s),(sv p)] σ λr ae=>r= .ret (.val (.bool (c0f p s)))/\ae=σ:=by
 refine b8.anyw hCC pu_ pu_ (c9 (qO Tryz.func102 ?_)) σ;refine u (c5 G Tryz.call152 j2 (b1K s p hs hp _) G) ?_;exact d3r
theorem c0D(h:e<s.length):s[e]?=some (s[e]?.getD 0):=by simp[h]
theorem c16{p:D}(h:preB p s=true):p.length<=s.length:=by
 unfold preB at h;rw[b8N]at h;exact h.length_le
structure Tok where
 k:Int
 t:D
 n:Int
 at_:Int
variable{T:List Tok}{t:Tok}
abbrev Tok.cells(x:Tok):List CV:=[iv x.k,sv x.t,iv x.n,iv x.at_]
def Tok.cv(x:Tok):List CV:=x.cells
theorem a2V(l:List Tok)(nn:Bool):o8 (.list (l.map Tok.cv) nn none):=I6 (f:=Tok.cv) (λ_=>⟨.val _,.val _,.val _,.val _,O⟩) l nn
theorem U8(n:Nat)(l:List Tok)(nn:Bool):Old n (.list (l.map Tok.cv) nn none):=(a2V l nn).old
def a4d(l:D):Int:=l.foldl (λn b=>min (10*n+((b.toNat:Int) -48)) 9007199254740993) 0
def a3Q:D->Option Nat
 | []=>none
 |b::l=>if 32<=b.toNat/\b.toNat<=126 then(if b.toNat=34 then some 0 else(a3Q l).map (· +1))else none
def C8(s:D)(a:Nat)(b:UInt8):Tok×Int×Int:=
 if j7 b.toNat=1 then
  (if 24<A3 s a [1,2,3] -a then(⟨0,[],0,0⟩,0,2)else(⟨1,sub s a (A3 s a [1,2,3]),0,0⟩,A3 s a [1,2,3],0))
 else if j7 b.toNat=2 then
  (if 9007199254740992<a4d (sub s a (A3 s a [2]))then(⟨0,[],0,0⟩,0,3)else(⟨2,[],a4d (sub s a (A3 s a [2])),0⟩,A3 s a [2],0))
 else if j7 b.toNat=7 then
  (match a3Q (s.drop (a+1))with
   |none=>(⟨0,[],0,0⟩,0,9)
   |some n=>(⟨3,sub s (a+1) (a+1+n),0,0⟩,a+1+n+1,0))
 else if j7 b.toNat=8 then
  (if preB [61,61] (s.drop a)=true then(⟨4,sub s a (a+2),0,0⟩,a+2,0)else(⟨4,sub s a (a+1),0,0⟩,a+1,0))
 else(⟨0,[],0,0⟩,0,9)
theorem a3j{b:UInt8}(h:s[e]?=some b):a3Q (s.drop e)=if 32<=b.toNat/\b.toNat<=126 then(if b.toNat=34 then some 0 else(a3Q (s.drop (e+1))).map (· +1))else none:=by
 obtain⟨ai,rfl⟩:=n_2.1 h;rw[a0v ai];rfl
theorem b2U(h:s.length<=e):a3Q (s.drop e)=none:=by rw[a0V h];rfl
theorem c5h{l:D}{b:UInt8}(h:l[j]?=some b):a4d (l.take (j+1))=min (10*a4d (l.take j)+((b.toNat:Int) -48)) 9007199254740993:=by
 obtain⟨ai,rfl⟩:=n_2.1 h;rw[<- c0a ai,a4d,b3v];rfl
theorem b3A{l:D}(h:∀b∈l,48<=b.toNat/\b.toNat<=57):0<=a4d l/\a4d l<=9007199254740993:=by
 unfold a4d
 suffices ∀(l:D) (n:Int),0<=n->n<=9007199254740993->(∀b∈l,48<=b.toNat/\b.toNat<=57)->0<=l.foldl (λn b=>min (10*n+((b.toNat:Int) -48)) 9007199254740993) n/\l.foldl (λn b=>min (10*n+((b.toNat:Int) -48)) 9007199254740993) n<=9007199254740993 from this l 0 J J h
 intro l
 induction l with
 |nil=>intro n h0 h1 _;exact⟨h0,h1⟩
 |cons b l ih=>
  intro n h0 h1 h;have hb:=h b Q;exact ih (min (10*n+((b.toNat:Int) -48)) 9007199254740993) J J λc hc=>h c (by simp[hc])
theorem a4S{b:UInt8}:j7 b.toNat=2↔48<=b.toNat/\b.toNat<=57:=by
 unfold j7;constructor
 .intro h;split at h
  .omega
  .split at h
   .omega
   .exfalso;revert h;repeat' split
    all_goals omega
 .intro h;rw[H J,W J]
theorem e1D{c:Nat}(h:48<=c/\c<=57):IntKind.i64.wrap (IntKind.u8.wrap ((c:Int) -48))=(c:Int) -48:=by
 obtain⟨h1,h2⟩:=h;simp[IntKind.wrap,IntKind.bits,IntKind.signed];omega
theorem a13{p:UInt8->Bool}{b:UInt8}:∀{l:D},b∈l.takeWhile p->p b=true
 | [],h=>by simp at h
 |c::l,h=>by
  rw[b8q]at h;split at h
  .rename_i hc
   rcases I0.1 h with rfl|h
   .exact hc
   .exact a13 h
  .simp at h
theorem b2M:∀b∈sub s a (A3 s a [2]),48<=b.toNat/\b.toNat<=57:=by
 intro b hb;have e:sub s a (A3 s a [2])=(s.drop a).takeWhile (inK [2]):=by
  unfold sub A3;rw[List.drop_take,d1w];have h:=List.takeWhile_prefix (inK [2]) (l:=s.drop a);exact(List.prefix_iff_eq_take.1 h).symm
 rw[e]at hb;have:=a13 hb;simp[inK]at this;exact a4S.1 this
theorem c5p(s:D)(a:Nat)(b:UInt8)(hb:s[a]?=some b)(m:List (Int×Int))(hm:KM m)(hs:s.length<=1000000000000):b8 CC 154 [(sv s),iv a,.map 0] [b9.map (gm kb kv m)] λr τ=>∃_:Unit,X0 [b9.map (gm kb kv m)].length τ r (.ret (.tup [.agg (C8 s a b).1.cells,(iv ((C8 s a b).2.1)),(iv ((C8 s a b).2.2))]))/\a4o [b9.map (gm kb kv m)].length τ τ [b9.map (gm kb kv m)]/\[b9.map (gm kb kv m)].length<=[b9.map (gm kb kv m)].length/\True:=by
 have gB:=(n_2.1 hb).1;refine qO Tryz.func154 ?_;refine qD (j6 G a2M G i9 ?_);refine u b6v ?_;refine u e1G ?_;refine qC ?_ ?_<;>intro h1
 .have bn:j7 b.toNat=1:=by rw[<- hm];simpa using h1
  have aj:=a19 (ks:=[1,2,3]) (show a<=s.length by omega);refine u (A6 ([1,2,3].map icv) G ⟨G,G,G,O⟩ t_7 t_1 t_9 G G G G G G G G G) ?_;refine u (c5 G c9s a4s (a7C hm J hs I G) G) ?_;refine u (a9n G O O G G J J) ?_;refine qC ?_ ?_<;>intro h2
  .have hn:24<A3 s a [1,2,3] -a:=sm_ h2;refine u d4P ?_;refine z_4 ?_;exact⟨_,o9 (rs:=[.cell 6 205,.tmp 7,.tmp 8]) (cs:=[_,_,_]) G b1W (n_5 G),⟨(),.ret (O2 (by rw[C8,W bn,W hn];rfl) pu_),⟨.same (W9 _ _),O⟩,n_6 _,O⟩⟩
  .have hn:¬24<A3 s a [1,2,3] -a:=sm_ h2;refine u (I4 (a:=a) (h:=(A3 s a [1,2,3])) G O G t_8 X6 X6 J J) ?_;refine u c0T ?_;refine z_4 ?_;exact⟨_,o9 (rs:=[.cell 6 205,.tmp 7,.tmp 8]) (cs:=[_,_,_]) G b1W (n_5 G),⟨(),.ret (O2 (by rw[C8,W bn,H hn];rfl) pu_),⟨.same (W9 _ _),O⟩,n_6 _,O⟩⟩
 .have bn:¬j7 b.toNat=1:=by rw[<- hm];simpa using h1
  refine qC ?_ ?_<;>intro h3
  .have bK:j7 b.toNat=2:=by rw[<- hm];simpa using h3
   have aj:=a19 (ks:=[2]) (show a<=s.length by omega);have hdg:=b2M (s:=s) (a:=a);have hln:=c3H (a:=a) aj.2;generalize hl:sub s a (A3 s a [2])=ds at hdg hln;refine u (A6 ([2].map icv) G ⟨G,O⟩ t_7 t_1 t_9 G G G G G G G G G) ?_;refine u (c5 G c9s a4s (a7C hm J hs I G) G) ?_;refine u (I4 (a:=a) (h:=(A3 s a [2])) G O G t_8 X6 X6 J J) ?_;refine u (d7G G O G t_8 b2a b74 (by have:=c3H (a:=a) aj.2;unfold sub at this;omega)) ?_;refine u c7Z ?_;refine u0 hCC (α:=Nat) (λj=>[(6,.ptr 1 0),(10,(iv (A3 s a [2]:Int))),(11,(iv (a4d (ds.take j)))),(50,(.list (ds.map bcv) true none)),(51,iv ds.length),(52,iv j)]) (λ_=>[b9.map (gm kb kv m),.box (Tok.cells ⟨0,[],0,0⟩)]) (λj=>j<=ds.length) (λj=>ds.length -j) 0 (n_4 _) ⟨M9,M9,M9,⟨O,(by rw[<- hl];rfl)⟩,⟨O,(by rw[<- hl];rfl)⟩,M9,O⟩ (au:=[]) G D5 uz_ ?_;intro j hj;refine qk (qC ?_ ?_)<;> intro h4
   .have cB:(j:Int)<ds.length:=U h4;obtain⟨c,hc⟩:=gx_ ds j;have hcd:=hdg c (n_3 hc);have hnb:=b3A (l:=ds.take j) λc hc=>hdg c (a6B hc);refine u (A4 G O O G G b2a b4z J (j8 hc) G) ?_;refine u (b7O G G O G G J J) ?_;refine u Z5 ?_;refine u (b1L G O G b74 c7H (show IntKind.i64.wrap (IntKind.u8.wrap ((c.toNat:Int) -48))=(c.toNat:Int) -48 from e1D hcd)) ?_;refine u a8O ?_;refine u (d5S G O G G G) ?_;refine u o3 ?_;exact⟨(j+1),_,⟨J,J⟩,⟨M9,M9,⟨O,(n_7 (λz:Int=>iv z) (c5h hc).symm)⟩,M9,M9,M9,O⟩,G⟩
   .have cB:ds.length<=j:=by
     have:¬(j:Int)<ds.length:=U h4;omega
    rw[a2p cB]at*;refine o6 ?_;refine qC ?_ ?_<;>intro h5
    .have hn:9007199254740992<a4d (sub s a (A3 s a [2])):=by rw[hl];simpa using h5
     refine u d4P ?_;refine z_4 ?_;exact⟨_,o9 (rs:=[.cell 6 205,.tmp 7,.tmp 8]) (cs:=[_,_,_]) G b1W (n_5 G),⟨(),.ret (O2 (by rw[C8,H bn,W bK,W hn];rfl) pu_),⟨.same (W9 _ _),O⟩,n_6 _,O⟩⟩
    .have hn:¬9007199254740992<a4d (sub s a (A3 s a [2])):=by rw[hl];simpa using h5
     refine u c0T ?_;refine z_4 ?_;exact⟨_,o9 (rs:=[.cell 6 205,.tmp 7,.tmp 8]) (cs:=[_,_,_]) G b1W (n_5 G),⟨(),.ret (O2 (by rw[C8,H bn,W bK,H hn,hl];rfl) pu_),⟨.same (W9 _ _),O⟩,n_6 _,O⟩⟩
  .have bK:¬j7 b.toNat=2:=by rw[<- hm];simpa using h3
   refine qC ?_ ?_<;>intro h6
   .have fK:j7 b.toNat=7:=by rw[<- hm];simpa using h6
    refine u o3 ?_;refine u0 hCC (α:=Nat) (λe=>[(0,(sv s)),(1,iv a),(6,.ptr 1 0),(14,iv e)]) (λ_=>[b9.map (gm kb kv m),.box (Tok.cells ⟨0,[],0,0⟩)]) (λe=>a+1<=e/\e<=s.length/\a3Q (s.drop (a+1))=(a3Q (s.drop e)).map (· +(e- (a+1)))) (λe=>s.length -e) (a+1) ⟨n_6 _,J,by cases a3Q (s.drop (a+1))<;>simp⟩ tu_ (au:=[]) G D5 uz_ ?_;intro e ⟨iN,he2,he⟩;refine a7q ?_;refine a4g ?_;refine qG e0Y ?_;refine a2P ?_;refine a4g ?_;refine qG e0Y ?_;refine a2P ?_;refine qC ?_ ?_<;>intro h7
    .have gS:e<s.length/\32<=(s[e]?.getD 0).toNat/\(s[e]?.getD 0).toNat<=126:=sm_ h7;obtain⟨c,hc,hcd⟩:∃c,s[e]?=some c/\s[e]?.getD 0=c:=⟨s[e]?.getD 0,c0D gS.1,G⟩;rw[hcd]at gS;rw[a3j hc,W gS.2]at he;refine u (J2 G O O G G t_8 J hc) ?_;refine qC ?_ ?_<;>intro h8
     .have h34:c.toNat=34:=sm_ h8;rw[W h34]at he;obtain⟨n,rfl⟩:∃n,e=a+1+n:=⟨e- (a+1),J⟩;have fz:a3Q (s.drop (a+1))=some n:=by rw[he];simp
      refine u o3 ?_;refine u (I4 (a:=(a+1)) (h:=(a+1+n)) G O G t_8 X6 X6 J J) ?_;refine u c0T ?_;refine u o3 ?_;refine z_4 ?_;exact⟨_,o9 (rs:=[.cell 6 205,.tmp 7,.tmp 8]) (cs:=[_,_,_]) G b1W (n_5 G),⟨(),.ret (O2 (by rw[C8,H bn,H bK,W fK,fz];rfl) pu_),⟨.same (W9 _ _),O⟩,n_6 _,O⟩⟩
     .have h34:¬c.toNat=34:=sm_ h8;rw[H h34]at he;refine u o3 ?_;exact⟨(e+1),_,⟨J,J,J,by rw[he];cases a3Q (s.drop (e+1))<;>simp;omega⟩,tu_,G⟩
    .have cH:a3Q (s.drop e)=none:=by
      rcases a3d e s.length with h|h
      .rw [a3j (c0D h),H];intro hh;simp at h7;omega
      .exact b2U h
     rw[cH]at he;refine o6 ?_;refine u d4P ?_;refine z_4 ?_;exact⟨_,o9 (rs:=[.cell 6 205,.tmp 7,.tmp 8]) (cs:=[_,_,_]) G b1W (n_5 G),⟨(),.ret (O2 (by rw[C8,H bn,H bK,W fK,he];rfl) pu_),⟨.same (W9 _ _),O⟩,n_6 _,O⟩⟩
   .have fK:¬j7 b.toNat=7:=by rw[<- hm];simpa using h6
    refine qC ?_ ?_<;>intro h9
    .have hk8:j7 b.toNat=8:=by rw[<- hm];simpa using h9
     refine u o3 ?_;refine u (I4 (a:=a) G O G t_8 X6 G J (n_6 _)) ?_;refine u (c5 G Tryz.call194 m0 (a5t ((s.take s.length).drop a) [61,61] _) G) ?_;refine qC ?_ ?_<;>intro bL
     .rw [a6O]at bL;have cw:=c16 bL;rw[b4a]at cw;have cw:2<=s.length -a:=cw;refine u o3 ?_;refine u (I4 (a:=a) (h:=(a+2)) G O G t_8 X6 X6 J J) ?_;refine u c0T ?_;refine z_4 ?_;exact⟨_,o9 (rs:=[.cell 6 205,.tmp 7,.tmp 8]) (cs:=[_,_,_]) G b1W (n_5 G),⟨(),.ret (O2 (by rw[C8,H bn,H bK,H fK,W hk8,W bL];rfl) pu_),⟨.same (W9 _ _),O⟩,n_6 _,O⟩⟩
     .rw [a6O]at bL;have hp0:¬preB [61,61] (s.drop a)=true:=by rw[bL];decide
      refine u (I4 (a:=a) (h:=(a+1)) G O G t_8 X6 X6 J J) ?_;refine u c0T ?_;refine z_4 ?_;exact⟨_,o9 (rs:=[.cell 6 205,.tmp 7,.tmp 8]) (cs:=[_,_,_]) G b1W (n_5 G),⟨(),.ret (O2 (by rw[C8,H bn,H bK,H fK,W hk8,H hp0];rfl) pu_),⟨.same (W9 _ _),O⟩,n_6 _,O⟩⟩
    .have hk8:¬j7 b.toNat=8:=by rw[<- hm];simpa using h9
     refine u d4P ?_;refine z_4 ?_;exact⟨_,o9 (rs:=[.cell 6 205,.tmp 7,.tmp 8]) (cs:=[_,_,_]) G b1W (n_5 G),⟨(),.ret (O2 (by rw[C8,H bn,H bK,H fK,H hk8];rfl) pu_),⟨.same (W9 _ _),O⟩,n_6 _,O⟩⟩
theorem c96{b:UInt8}(hb:s[a]?=some b){m:List (Int×Int)}(hm:KM m)(hs:s.length<=1000000000000)(hq:σ[q]?=some (.map (gm kb kv m))):b8 CC 154 [(sv s),iv a,.map q] σ λr τ=>r= .ret (.tup [.agg (C8 s a b).1.cells,(iv ((C8 s a b).2.1)),(iv ((C8 s a b).2.2))])/\τ=σ:=
 a6C hCC (c7a m) pu_ hq (.cons (.val _) (.cons (.val _) (.cons (.map G) .nil))) (c5p s a b hb m hm hs)
def P2(s:D)(a:Nat):Nat:=a+((s.drop a).takeWhile (· != 10)).length
theorem c2O:∀(l:D),(Go.Lib.indexByte l 10<0->(l.takeWhile (· != 10)).length=l.length)/\(0<=Go.Lib.indexByte l 10->Go.Lib.indexByte l 10=((l.takeWhile (· != 10)).length:Nat))
 | []=>⟨λ_=>G,λh=>by rw[Go.Lib.indexByte]at h;omega⟩
 |b::l=>by
  have ih:=c2O l;rw[Go.Lib.indexByte,b8q];by_cases hb:b=10
  .subst hb;exact⟨λh=>by simp at h,λh=>by simp⟩
  .have h1:(b != 10)=true:=U hb;have h2:(b == 10)=false:=U hb;rw[h1,h2];have hg:=Go.Lib.indexByte_ge l 10;simp only[if_true,if_false,J5,a8l];by_cases h3:Go.Lib.indexByte l 10= -1
   .rw [h3];have:=ih.1 J;exact⟨λ_=>by simp;omega,λh=>by simp at h⟩
   .rw [H (U h3)];have:=ih.2 J;exact⟨λh=>by omega,λ_=>by omega⟩
theorem a7Y(h:a<=s.length):P2 s a<=s.length:=by
 unfold P2;have:=(List.takeWhile_sublist (· != 10) (l:=s.drop a)).length_le;rw[b4a]at this;omega
theorem b0L{b:UInt8}(h:s[a]?=some b)(hb:j7 b.toNat=6):a<P2 s a:=by
 obtain⟨ai,rfl⟩:=n_2.1 h;unfold P2;rw[a0v ai,b8q];have:(s[a] != 10)=true:=by
  cases hq:(s[a] != 10)with
  |true=>rfl
  |false=>
   have:s[a]=10:=U hq;rw[this]at hb;revert hb;decide
 rw[this];simp
def a0y:Nat->D->Nat->Option (List Tok)
 |0,_,_=>none
 |f+1,s,i=>match s[A3 s i [5]]? with
  |none=>some [⟨5,[],0,(A3 s i [5]:Nat)⟩]
  |some b=>if j7 b.toNat=6 then a0y f s (P2 s (A3 s i [5]))
   else if(C8 s (A3 s i [5]) b).2.2≠0 then none
   else(a0y f s (C8 s (A3 s i [5]) b).2.1.toNat).map (({(C8 s (A3 s i [5]) b).1 with at_:=(A3 s i [5]:Nat)}:Tok)::·)
def a3i(s:D):Option (List Tok):=if 16384<s.length then none else a0y (s.length+1) s 0
theorem b6e(h:i1=A3 s i [5])(h2:s.length<=i1):a0y (f+1) s i=some [⟨5,[],0,(i1:Nat)⟩]:=by
 subst h;rw[a0y,b5V h2]
theorem b6f{b:UInt8}(h:i1=A3 s i [5])(h2:s[i1]?=some b)(h3:j7 b.toNat=6):a0y (f+1) s i=a0y f s (P2 s i1):=by
 subst h;rw[a0y,h2];simp only;rw[W h3]
theorem b6c{b:UInt8}(h:i1=A3 s i [5])(h2:s[i1]?=some b)(h3:¬j7 b.toNat=6)(h4:(C8 s i1 b).2.2≠0):a0y (f+1) s i=none:=by
 subst h;rw[a0y,h2];simp only;rw[H h3,W h4]
theorem b8D{b:UInt8}(h:i1=A3 s i [5])(h2:s[i1]?=some b)(h3:¬j7 b.toNat=6)(h4:¬(C8 s i1 b).2.2≠0):a0y (f+1) s i=(a0y f s (C8 s i1 b).2.1.toNat).map (({(C8 s i1 b).1 with at_:=(i1:Nat)}:Tok)::·):=by
 subst h;rw[a0y,h2];simp only;rw[H h3,H h4]
theorem c2V:∀{l:D} {n:Nat},a3Q l=some n->n<l.length
 | [],n,h=>by cases h
 |b::l,n,h=>by
  rw[a3Q]at h;split at h
  .split at h
   .injection h with h;subst h;simp
   .cases hq:a3Q l with
    |none=>rw[hq]at h;cases h
    |some k=>rw[hq]at h;injection h with h;subst h;have:=c2V hq;simp;omega
  .cases h
theorem b5X{b:UInt8}(h:s[a]?=some b)(hk:inK ks b=true):a<A3 s a ks:=by
 rw[U3 h,W hk];have:=(a19 (s:=s) (a:=a+1) (ks:=ks) (n_2.1 h).1).1;omega
theorem a49{b:UInt8}(h:s[a]?=some b)(h4:¬(C8 s a b).2.2≠0):∃e:Nat,(C8 s a b).2.1=e/\a<e/\e<=s.length:=by
 have ai:=(n_2.1 h).1;unfold C8 at h4⊢;split at h4
 .rename_i hk;rw[W hk];split at h4
  .simp at h4
  .rename_i hn;rw[H hn];exact⟨_,G,b5X h (by simp[inK,hk]),(a19 J).2⟩
 .rename_i hk;rw[H hk];split at h4
  .rename_i bK;rw[W bK];split at h4
   .simp at h4
   .rename_i hn;rw[H hn];exact⟨_,G,b5X h (by simp[inK,bK]),(a19 J).2⟩
  .rename_i bK;rw[H bK];split at h4
   .rename_i fK;rw[W fK];cases hq:a3Q (s.drop (a+1))with
    |none=>rw[hq]at h4;simp at h4
    |some n=>
     have:=c2V hq;rw[b4a]at this;exact⟨a+1+n+1,G,J,J⟩
   .rename_i fK;rw[H fK];split at h4
    .rename_i hk8;rw[W hk8]
     split
     .rename_i hp;have:=c16 hp;rw[b4a]at this;have:2<=s.length -a:=this;exact⟨a+2,G,J,J⟩
     .exact ⟨a+1,G,J,J⟩
    .simp at h4
abbrev c5x:=List Tok×Bool×Int×Int
def d5z(s:D)(x:c5x):Prop:=(a3i s=some x.1/\x.2.1=true/\x.2.2.1=0/\x.2.2.2=0)\/(a3i s=none/\x.1=[]/\x.2.1=false/\x.2.2.2≠0)
abbrev c5Y(x:c5x):CV:=.tup [.list (x.1.map Tok.cv) x.2.1 none,iv x.2.2.1,iv x.2.2.2]
theorem b91(s:D)(hs:s.length<=1000000000000):b8 CC 103 [(sv s)] [] λr τ=>∃x:c5x,X0 0 τ r (.ret (c5Y x))/\d5z s x:=by
 refine qO Tryz.func103 ?_;refine c8E 0 (λ_ _ _=>False) G ?_ (λ_ _ _ h=>h.elim);refine a7q ?_;refine qC ?_ ?_<;>intro h1
 .have hl:16384<s.length:=sm_ h1;refine c6 ?_;exact⟨_,o9 (rs:=[.tmp 2,.tmp 3,.tmp 4]) (cs:=[_,_,_]) G b3l (n_5 G),⟨([],false,0,2),by exact .ret (.tups ⟨.old (U8 _ [] false),.old (.val _),.old (.val _),O⟩),.inr ⟨by rw[a3i,W hl],G,G,I⟩⟩⟩
 .have hl:¬16384<s.length:=sm_ h1;refine qD (c4 G d0F trivial (b1O _) G ?_);intro m hm;refine b8P ?_;refine B3 hCC 1 G (α:=List Tok×Nat) (λx=>[(0,(sv s)),(2,(.list (x.1.map Tok.cv) (gnn x.1.length) (D6 x.1.length 1))),(5,.map 0),(6,iv x.2)]) (λx=>[.map (gm kb kv m),l8 x.1.length]) (λx=>x.2<=s.length/\x.1.length<=x.2/\∃f,s.length -x.2 <f/\a3i s=(a0y f s x.2).map (x.1++·)) (λx=>s.length -x.2) ⟨([],0),[0,7],⟨n_4 _,n_6 _,s.length+1,Q,by rw[a3i,H hl];simp⟩,⟨G,G⟩,ut_,(by repeat' (first|exact O|exact .inl G|exact .inr ⟨_,G,.same G B0⟩|exact .inr ⟨_,G,.same (dg _ _ _) B0⟩|exact .inr ⟨_,G,.same G (by repeat' (first|exact O|exact .val _|exact .ptr (nb G)|exact .map (nb G)|exact d5h|refine x9 ?_|refine⟨?_,?_⟩))⟩|exact .inr ⟨_,G,.box (by repeat' (first|exact O|exact .same G uo_|exact .ptr G|exact .map G|exact .vec G|exact B5.grow (f:=Tok.cv) (λ_=>⟨.val _,.val _,.val _,.val _,O⟩) G|refine⟨?_,?_⟩))⟩|refine⟨?_,?_⟩))⟩ ?_;intro⟨acc,i⟩ ⟨hi,ha,f,hf,iO⟩;dsimp only at hi ha hf iO⊢;obtain⟨f,rfl⟩:∃f',f=f'+1:=⟨f-1,J⟩;obtain⟨i1,eE⟩:∃i1,i1=A3 s i [5]:=⟨_,G⟩;have aj:=a19 (ks:=[5]) hi;rw[<- eE]at aj;refine qk (u (A6 ([5].map icv) G ⟨G,O⟩ t_7 t_1 t_9 G G G G G G G G G) ?_);refine u (c5 G c9s a4s ((by have:=a7C (ks:=[5]) (nn:=true) hm hi J I (σ:=[.map (gm kb kv m),l8 acc.length]) (q:=0) G;rw[<- eE]at this;exact this)) G) ?_;refine u U9 ?_;refine qC ?_ ?_<;>intro h2
  .have du:i1=s.length:=sm_ h2;rw[b6e eE J]at iO;refine u c0T ?_;refine u (A6 [Tok.cv ⟨5,[],0,(i1:Nat)⟩] G ⟨O,O⟩ b5a a3F a2M G G G G G G G G G) ?_;refine qD (B6 G O O G Q q_3 b5a a3F c3k a2M G (.inr G) q_8 d3s E9 ((acc++[(⟨5,[],0,(i1:Nat)⟩:Tok)]).map Tok.cv) (acc++[(⟨5,[],0,(i1:Nat)⟩:Tok)]).length Q Q ?_);refine c6 ?_;exact⟨_,o9 (rs:=[.tmp 2,.tmp 3,.tmp 4]) (cs:=[_,_,_]) G b3l (n_5 G),⟨(acc++[(⟨5,[],0,(i1:Nat)⟩:Tok)],gnn (acc++[(⟨5,[],0,(i1:Nat)⟩:Tok)]).length,0,0),by exact .ret (.tups ⟨.tok (λr hr c hc=>(C2 (f:=Tok.cv) (λ_=>N8.all ⟨.val _,.val _,.val _,.val _,O⟩) _) r hr c hc),.old (.val _),.old (.val _),O⟩),.inl ⟨iO,by rw[n_9];rfl,G,G⟩⟩⟩
  .have du:i1<s.length:=by
    have:¬(i1:Int)=s.length:=U h2;omega
   obtain⟨b,hb⟩:=gx_ s i1;refine u b6v ?_;refine u e1G ?_;refine qC ?_ ?_<;>intro h3
   .have hk:j7 b.toNat=6:=by rw[<- hm];simpa using h3
    rw[b6f eE hb hk]at iO;have dD:=b0L hb hk;have dE:=a7Y (s:=s) (a:=i1) J;have hib:=c2O ((s.take s.length).drop i1);have fm:((s.take s.length).drop i1).length=s.length -i1:=by simp
    have aT:P2 s i1=i1+(((s.take s.length).drop i1).takeWhile (· != 10)).length:=by rw[P2,a6O]
    have hig:=Go.Lib.indexByte_ge ((s.take s.length).drop i1) 10;refine u (I4 (a:=i1) G O G t_8 X6 G J (n_6 _)) ?_;refine u (c5 G Tryz.call153 m0 (a5z ((s.take s.length).drop i1) 10 _) G) ?_;refine cC ?_ ?_<;>intro h4
    .have hneg:Go.Lib.indexByte ((s.take s.length).drop i1) 10<0:=U h4;have:=hib.1 hneg;have hle2:P2 s i1=s.length:=by omega
     refine a7q ?_;refine u (a9n G O O G G J J) ?_;refine u a8O ?_;refine o6 ?_;exact⟨(acc,P2 s i1),[0,1],⟨J,J,by show acc.length<=P2 s i1;omega,f,by show s.length -P2 s i1<f;omega,iO⟩,⟨G,G⟩,e1h,(by repeat' (first|exact O|exact .inl G|exact .inr ⟨_,G,.same G B0⟩|exact .inr ⟨_,G,.same (dg _ _ _) B0⟩|exact .inr ⟨_,G,.same G (by repeat' (first|exact O|exact .val _|exact .ptr (nb G)|exact .map (nb G)|exact d5h|refine x9 ?_|refine⟨?_,?_⟩))⟩|exact .inr ⟨_,G,.box (by repeat' (first|exact O|exact .same G uo_|exact .ptr G|exact .map G|exact .vec G|exact B5.grow (f:=Tok.cv) (λ_=>⟨.val _,.val _,.val _,.val _,O⟩) G|refine⟨?_,?_⟩))⟩|refine⟨?_,?_⟩))⟩
    .have hneg:¬Go.Lib.indexByte ((s.take s.length).drop i1) 10<0:=U h4;have:=hib.2 J;rw[this];refine qk (u a8O ?_);refine o6 ?_;exact⟨(acc,P2 s i1),[0,1],⟨J,J,by show acc.length<=P2 s i1;omega,f,by show s.length -P2 s i1<f;omega,iO⟩,⟨G,G⟩,e1h,(by repeat' (first|exact O|exact .inl G|exact .inr ⟨_,G,.same G B0⟩|exact .inr ⟨_,G,.same (dg _ _ _) B0⟩|exact .inr ⟨_,G,.same G (by repeat' (first|exact O|exact .val _|exact .ptr (nb G)|exact .map (nb G)|exact d5h|refine x9 ?_|refine⟨?_,?_⟩))⟩|exact .inr ⟨_,G,.box (by repeat' (first|exact O|exact .same G uo_|exact .ptr G|exact .map G|exact .vec G|exact B5.grow (f:=Tok.cv) (λ_=>⟨.val _,.val _,.val _,.val _,O⟩) G|refine⟨?_,?_⟩))⟩|refine⟨?_,?_⟩))⟩
   .have hk:¬j7 b.toNat=6:=by rw[<- hm];simpa using h3
    refine u (c5 G Tryz.call154 D0 (c96 hb hm J G) G) ?_;refine z_3 ?_;refine qC ?_ ?_<;>intro h5
    .have he:(C8 s i1 b).2.2≠0:=U h5;rw[b6c eE hb hk he]at iO;refine c6 ?_;exact⟨_,o9 (rs:=[.tmp 2,.tmp 3,.tmp 4]) (cs:=[_,_,_]) G b3l (n_5 G),⟨([],false,i1,(C8 s i1 b).2.2),by exact .ret (.tups ⟨.old (U8 _ [] false),.old (.val _),.old (.val _),O⟩),.inr ⟨iO,G,G,he⟩⟩⟩
    .have he:¬(C8 s i1 b).2.2≠0:=U h5;rw[b8D eE hb hk he]at iO;obtain⟨e,iN,he2,he3⟩:=a49 hb he;rw[iN]at iO⊢;refine qD (i0 G O O G j1 t_1 (.inl G) G G (nb G) ?_);refine u (A6 [Tok.cv ({(C8 s i1 b).1 with at_:=(i1:Nat)}:Tok)] rfl ⟨O,O⟩ b5a a3F a2M rfl rfl rfl rfl rfl rfl rfl rfl rfl) ?_;refine qD (B6 G O O G Q q_3 b5a a3F c3k a2M G (.inr G) q_8 d3s E9 ((acc++[({(C8 s i1 b).1 with at_:=(i1:Nat)}:Tok)]).map Tok.cv) (acc++[({(C8 s i1 b).1 with at_:=(i1:Nat)}:Tok)]).length Q Q ?_);exact⟨(acc++[({(C8 s i1 b).1 with at_:=(i1:Nat)}:Tok)],e),[0,3],⟨by show s.length -e<s.length -i;omega,he3,by simp;omega,f,by show s.length -e<f;omega,by rw[iO];simp[Function.comp_def]⟩,⟨G,G⟩,ut_,(by repeat' (first|exact O|exact .inl G|exact .inr ⟨_,G,.same G B0⟩|exact .inr ⟨_,G,.same (dg _ _ _) B0⟩|exact .inr ⟨_,G,.same G (by repeat' (first|exact O|exact .val _|exact .ptr (nb G)|exact .map (nb G)|exact d5h|refine x9 ?_|refine⟨?_,?_⟩))⟩|exact .inr ⟨_,G,.box (by repeat' (first|exact O|exact .same G uo_|exact .ptr G|exact .map G|exact .vec G|exact B5.grow (f:=Tok.cv) (λ_=>⟨.val _,.val _,.val _,.val _,O⟩) G|refine⟨?_,?_⟩))⟩|refine⟨?_,?_⟩))⟩
theorem c57(s:D)(hs:s.length<=1000000000000)(σ:List b9):b8 CC 103 [(sv s)] σ λr τ=>∃x:c5x,r= .ret (c5Y x)/\τ=σ/\d5z s x:=
 F8 (res:=λx=>.ret (c5Y x)) hCC (λc hc=>by simp at hc;subst hc;exact .val _) (b91 s hs) (λ_ _=>pu_) σ
structure Ex where
 k:Int
 num:Int
 op:Int
 name:D
 args:List Int
deriving DecidableEq
variable{args:List CV}{B:α->List Ex}
abbrev Ex.cells(x:Ex):List CV:=[iv x.k,iv x.num,iv x.op,sv x.name,.list (x.args.map icv) (gnn x.args.length) none]
def Ex.cv(x:Ex):List CV:=x.cells
theorem Ex.pure(x:Ex):N8 x.cells:=⟨.val _,.val _,.val _,.val _,N2 _ _,O⟩
theorem a17(l:List Ex)(nn:Bool):o8 (.list (l.map Ex.cv) nn none):=I6 (f:=Ex.cv) Ex.pure l nn
theorem N4(n:Nat)(l:List Ex)(nn:Bool):Old n (.list (l.map Ex.cv) nn none):=(a17 l nn).old
structure De where
 k:Int
 name:D
 params:List D
 body:List Ex
deriving DecidableEq
abbrev De.cells(x:De):List CV:=[iv x.k,sv x.name,.list (x.params.map scv) (gnn x.params.length) none,.list (x.body.map Ex.cv) (gnn x.body.length) none]
def De.cv(x:De):List CV:=x.cells
theorem De.pure(x:De):N8 x.cells:=⟨.val _,.val _,C1 _ _,a17 _ _,O⟩
theorem a4B(l:List De)(nn:Bool):o8 (.list (l.map De.cv) nn none):=I6 (f:=De.cv) De.pure l nn
theorem M4(n:Nat)(l:List De)(nn:Bool):Old n (.list (l.map De.cv) nn none):=(a4B l nn).old
structure Src where
 pkg:D
 imports:List D
 decls:List De
deriving DecidableEq
abbrev Src.cells(x:Src):List CV:=[sv x.pkg,.list (x.imports.map scv) (gnn x.imports.length) none,.list (x.decls.map De.cv) (gnn x.decls.length) none]
def Src.cv(x:Src):List CV:=x.cells
theorem Src.pure(x:Src):N8 x.cells:=⟨.val _,C1 _ _,a4B _ _,O⟩
abbrev pbx(T:List Tok)(n:Nat)(ps:List D)(b:List Ex)(s:Nat):b9:=.box [.list (T.map Tok.cv) true none,iv n,.list (ps.map scv) (gnn ps.length) none,.list (b.map Ex.cv) (gnn b.length) (D6 b.length s)]
abbrev pst(T:List Tok)(n:Nat)(ps:List D)(b:List Ex):List b9:=[pbx T n ps b 1,l8 b.length]
abbrev a6f(T:List Tok)(n:Nat)(ps:List D)(b:List Ex):List b9:=[pbx T n ps b 2,.dead,l8 b.length]
theorem b4v{n:Nat}{ps:List D}{b:List Ex}{s s':Nat}(h:R s s'):H3 R (pbx T n ps b s) (pbx T n ps b s'):=
 .box (.cons (.pure (a2V _ _)) (.cons (.pure (.val _)) (.cons (.pure (C1 _ _)) (.cons (by
  refine .list G (λi r r' h1 h2=>by rw[h1]at h2;injection h2 with h2;rw[h2]) (λi j r r' c c' h1 h2 h3 h4=>?_) ?_
  .rw [h1]at h2;injection h2 with h2;subst h2;rw[h3]at h4;injection h4 with h4;subst h4
   exact .pure (C2 (f:=Ex.cv) (λa=>(Ex.pure a).all) _ r (n_3 h1) c (n_3 h3))
  .cases hb:b.length with
   |zero=>exact .inl ⟨G,G⟩
   |succ m=>exact .inr ⟨s,s',G,G,h⟩) .nil))))
theorem a2e(m:Nat):H3 R (l8 m) (l8 m):=by
 cases m with
 |zero=>exact .dead
 |succ m=>exact .tip _
def PAt(σ:List b9)(q s:Nat)(T:List Tok)(n:Nat)(ps:List D)(b:List Ex):Prop:=σ[q]?=some (pbx T n ps b s)/\σ[s]?=some (l8 b.length)/\q≠s
abbrev a2H(at_ e:Int):CV:=.val (.iface 166 (.agg #[.int .i64 at_,.int .i64 e]))
def a3A{α:Type}(c:α->CV)(S:α->List b9)(P:α->Prop)(bad:Prop)(r:L7)(τ:List b9):Prop:=
 (∃a,C9 2 τ r (.ret (c a)) (S a)/\P a)\/∃x:Int×Int,C9 2 τ r (.pan (a2H x.1 x.2)) [.dead,.dead]/\(bad/\x.2≠0)
def a37{α:Type}(c:α->CV)(S:α->List b9)(P:α->Prop)(σ:List b9)(q s:Nat)(bad:Prop)(r:L7)(τ:List b9):Prop:=
 (∃a,r= .ret (c a)/\τ=S a/\P a)\/∃x:Int×Int,r= .pan (a2H x.1 x.2)/\τ=(σ.set q .dead).set s .dead/\(bad/\x.2≠0)
theorem j3{x y:Int}:C9 2 τ (.pan (a2H x y)) (.pan (a2H x y)) [.dead,.dead]:=⟨[0,1],G,G,.pan (.old (.val _)),.inl G,.inl G,O⟩
theorem a40{f:FuncId}{c:α->CV}{Z:α->List D}{g:α->Bool}{n:Nat}{ps:List D}{b:List Ex}(ap:∀a∈args,o8 a)(hc:∀a,o8 (c a))
 (h:b8 CC f (.ptr 0 0::args) (pst T n ps b) (a3A c (λa=>if g a=true then a6f T (N a) (Z a) (B a)else pst T (N a) (Z a) (B a)) P bad)){σ:List b9}{q s:Nat}(aw:PAt σ q s T n ps b):
 b8 CC f (.ptr q 0::args) σ (a37 c (λa=>if g a=true then(σ.set q (pbx T (N a) (Z a) (B a) σ.length)).set s .dead++[l8 (B a).length]else(σ.set q (pbx T (N a) (Z a) (B a) s)).set s (l8 (B a).length)) P σ q s bad):=by
 obtain⟨h1,h2,h3⟩:=aw;have hq:=(n_2.1 h1).1;have hs:=(n_2.1 h2).1;have h':b8 CC f (.ptr 0 0::args) (pst T n ps b) λr τ=>(∃a,r= .ret (c a)/\τ=(if g a=true then a6f T (N a) (Z a) (B a)else pst T (N a) (Z a) (B a))/\P a)\/∃x:Int×Int,r= .pan (a2H x.1 x.2)/\τ=[.dead,.dead]/\(bad/\x.2≠0):=by
  refine D7 hCC (h.mono λr τ hh=>?_)
  rcases hh with⟨a,k1,k2⟩|⟨x,k1,k2⟩
  .exact ⟨_,_,k1,.inl ⟨a,G,G,k2⟩⟩
  .exact ⟨_,_,k1,.inr ⟨x,G,G,k2⟩⟩
 refine I9 [q,s] hCC G (λi j k g1 g2=>?_) (λi k ob g1 g2=>?_) (.cons (.ptr G) (G7 ap)) h' λr τ hk=>?_
 .rcases i with _|_|i<;>rcases j with _|_|j<;>simp at g1 g2<;>first|rfl|(exfalso;exact h3 (g1.trans g2.symm))|(exfalso;exact h3 (g2.trans g1.symm))
 .rcases i with _|_|i
  .simp at g1 g2;subst g1 g2;exact⟨_,h1,b4v G⟩
  .simp at g1 g2;subst g1 g2;exact⟨_,h2,a2e _⟩
  .simp at g1
 .rcases hk with⟨a,rfl,rfl,hp⟩|⟨x,rfl,rfl,hp⟩
  .refine ⟨by split<;>simp,.ret (c a),(if g a=true then(σ.set q (pbx T (N a) (Z a) (B a) σ.length)).set s .dead++[l8 (B a).length]else(σ.set q (pbx T (N a) (Z a) (B a) s)).set s (l8 (B a).length)),.ret (.pure (hc a)),by split<;>simp,λk hk bi=>?_,λi k x ha hx=>?_,.inl ⟨a,G,G,hp⟩⟩
   .have n1:q≠k:=λe=>bi a2v;have n2:s≠k:=λe=>bi a2v
    split
    .rw [T6 (U hk)];simp[n1,n2]
    .simp [n1,n2]
   .split at hx<;>rename_i hg
    .rcases ha with ha|⟨ha,rfl⟩
     .rcases i with _|_|i
      .simp at ha hx;subst ha hx;refine⟨pbx T (N a) (Z a) (B a) σ.length,?_,b4v (.inr ⟨Q,Q⟩)⟩;rw[W hg,T6 (U hq),a1c h3.symm];simp[hq]
      .simp at ha hx;subst ha hx;refine⟨.dead,?_,.dead⟩;rw[W hg,T6 (U hs)];simp[hs]
      .simp at ha
     .rcases i with _|_|_|i
      .simp at ha
      .simp at ha
      .simp at hx;subst hx;refine⟨l8 (B a).length,?_,a2e _⟩;rw[W hg,a5O Q];simp
      .simp at hx
    .rcases ha with ha|⟨ha,rfl⟩
     .rcases i with _|_|i
      .simp at ha hx;subst ha hx;refine⟨pbx T (N a) (Z a) (B a) s,?_,b4v (.inl G)⟩;rw[H hg,a1c h3.symm];simp[hq]
      .simp at ha hx;subst ha hx;refine⟨l8 (B a).length,?_,a2e _⟩;rw[H hg];simp[hs]
      .simp at ha
     .rcases i with _|_|i
      .simp at ha
      .simp at ha
      .simp at hx
  .refine ⟨n_6 _,.pan (a2H x.1 x.2),(σ.set q .dead).set s .dead,.pan (.pure (.val _)),Q,λk hk bi=>?_,λi k y ha hx=>?_,.inr ⟨x,G,G,hp⟩⟩
   .have n1:q≠k:=λe=>bi a2v;have n2:s≠k:=λe=>bi a2v;simp[n1,n2]
   .rcases ha with ha|⟨ha,rfl⟩
    .rcases i with _|_|i
     .simp at ha hx;subst ha hx;refine⟨.dead,?_,.dead⟩;rw[a1c h3.symm];simp[hq]
     .simp at ha hx;subst ha hx;refine⟨.dead,?_,.dead⟩;simp[hs]
     .simp at ha
    .rcases i with _|_|i
     .simp at ha
     .simp at ha
     .simp at hx
theorem a3I{n:Nat}{ps:List D}{b:List Ex}{s:Nat}(h:s<L):G1 L (pbx T n ps b s):=x9 ⟨U8 _ _ _,.val _,B9 _ _ _,.list (λi j r c h1 h2=>(C2 (f:=Ex.cv) (λa=>(Ex.pure a).all) _ r (n_3 h1) c (n_3 h2)).old) (λk hk=>by
 cases hb:b.length with
 |zero=>rw[hb]at hk;cases hk
 |succ m=>rw[hb]at hk;injection hk with hk;omega),O⟩
theorem a0P{n:Nat}{ps:List D}{b:List Ex}(eT:τ=pbx T n ps b 1::l8 b.length::rest)(hc:Old 2 c):C9 2 τ (.ret c) (.ret c) (pst T n ps b):=by
 subst eT;exact⟨[0,1],G,G,.ret (.old hc),.inr ⟨_,G,.same G (a3I I)⟩,.inr ⟨_,G,.same G B0⟩,O⟩
theorem Y7{n k:Nat}{ps:List D}{b:List Ex}(h0:τ[0]?=some (pbx T n ps b k))(hk:τ[k]?=some (l8 b.length))(h2:2<=k)(hc:Old 2 c):C9 2 τ (.ret c) (.ret c) (a6f T n ps b):=by
 have k1:a7I 2 [0,1,k]=true:=G;have k2:Y9 [0,1,k]=true:=by
  have e0:(k == 0)=false:=by simp;omega
  have e1:(k == 1)=false:=by simp;omega
  have e2:(0 == k)=false:=by simp;omega
  have e3:(1 == k)=false:=by simp;omega
  simp[Y9];omega
 refine⟨[0,1,k],k1,k2,.ret (.old hc),.inr ⟨_,h0,.box ?_⟩,.inl G,.inr ⟨_,hk,.same G B0⟩,O⟩;refine⟨.old a04,.old (.val _),.old H8,.list (λr hr c hc=>(C2 (f:=Ex.cv) (λa=>(Ex.pure a).all) _ r hr c hc).old) ?_,O⟩;intro j hj;cases hb:b.length with
 |zero=>rw[hb]at hj;cases hj
 |succ m=>rw[hb]at hj;injection hj with hj;subst hj;exact⟨k,G,G⟩
theorem a4H{l:List α}{x:α}(h:l[i]?=some x):l.set i x=l:=by
 apply b2J λj=>?_;have hi:=(n_2.1 h).1;by_cases hj:i=j
 .subst hj;rw[b2E hi,h]
 .rw [a1c hj]
theorem c1p{f:FuncId}{n:Nat}{ps:List D}{b:List Ex}(ap:∀a∈args,o8 a)(hc:o8 c)
 (h:b8 CC f (.ptr 0 0::args) (pst T n ps b) λr τ=>C9 2 τ r (.ret c) (pst T n ps b)){σ:List b9}{q s:Nat}(aw:PAt σ q s T n ps b):b8 CC f (.ptr q 0::args) σ λr τ=>r= .ret c/\τ=σ:=by
 refine(a40 (α:=Unit) (c:=λ_=>c) (N:=λ_=>n) (B:=λ_=>b) (Z:=λ_=>ps) (g:=λ_=>false) (P:=λ_=>True) (bad:=False) ap (λ_=>hc) (h.mono λr τ hh=>.inl ⟨(),hh,O⟩) aw).mono λr τ hh=>?_
 rcases hh with⟨_,h1,h2,_⟩|⟨_,_,_,h3,_⟩
 .refine ⟨h1,h2.trans ?_⟩;show(σ.set q _).set s _=σ;rw[a4H aw.1,a4H aw.2.1]
 .exact h3.elim
theorem a0Y{f:FuncId}{c:α->CV}{n:Nat}{ps:List D}{b:List Ex}(ap:∀a∈args,o8 a)(hc:∀a,o8 (c a))
 (h:b8 CC f (.ptr 0 0::args) (pst T n ps b) (a3A c (λa=>pst T (N a) ps b) P bad)){σ:List b9}{q s:Nat}(aw:PAt σ q s T n ps b):
 b8 CC f (.ptr q 0::args) σ (a37 c (λa=>σ.set q (pbx T (N a) ps b s)) P σ q s bad):=by
 refine(a40 (c:=c) (N:=N) (B:=λ_=>b) (Z:=λ_=>ps) (g:=λ_=>false) (P:=P) (bad:=bad) ap hc (h.mono λr τ hh=>?_) aw).mono λr τ hh=>?_
 .rcases hh with⟨a,h1,h2⟩|h
  .exact .inl ⟨a,h1,h2⟩
  .exact .inr h
 .rcases hh with⟨a,h1,h2,h3⟩|h
  .refine .inl ⟨a,h1,h2.trans ?_,h3⟩;refine a4H ?_;rw[a1c aw.2.2];exact aw.2.1
  .exact .inr h
theorem a3c{f:FuncId}{c:α->CV}{n:Nat}{ps:List D}{b:List Ex}(ap:∀a∈args,o8 a)(hc:∀a,o8 (c a))
 (h:b8 CC f (.ptr 0 0::args) (pst T n ps b) (a3A c (λa=>a6f T (N a) ps (B a)) P bad)){σ:List b9}{q s:Nat}(aw:PAt σ q s T n ps b):
 b8 CC f (.ptr q 0::args) σ (a37 c (λa=>(σ.set q (pbx T (N a) ps (B a) σ.length)).set s .dead++[l8 (B a).length]) P σ q s bad):=by
 refine(a40 (c:=c) (N:=N) (B:=B) (Z:=λ_=>ps) (g:=λ_=>true) (P:=P) (bad:=bad) ap hc (h.mono λr τ hh=>?_) aw).mono λr τ hh=>?_
 .rcases hh with⟨a,h1,h2⟩|h
  .exact .inl ⟨a,h1,h2⟩
  .exact .inr h
 .rcases hh with⟨a,h1,h2,h3⟩|h
  .exact .inl ⟨a,h1,h2,h3⟩
  .exact .inr h
theorem a0j(x:Tok):o8 (.agg x.cells):=j5 ⟨.val _,.val _,.val _,.val _,O⟩
theorem a5j(n:Nat)(x:Tok):Old n (.agg x.cells):=(a0j x).old
def tk(T:List Tok)(n:Nat):Tok:=(T[n]?).getD ⟨5,[],0,0⟩
theorem d8J{n:Nat}(h:n<T.length):T[n]?=some (tk T n):=by simp[tk,h]
def a0X(T:List Tok):Prop:=∀n,n<T.length->(tk T n).k≠5->n+1<T.length
def isT(t:Tok)(k:Int)(s:D):Bool:=(t.k == k)&&decide (t.t=s)
theorem a6o{n:Nat}{k:Int}(h:isT (tk T n) k s=true)(hk:k≠5):(tk T n).k≠5:=by
 simp[isT]at h;omega
def E8(T:List Tok)(n:Nat)(k:Int):Option (Tok×Nat):=if(tk T n).k=k then some (tk T n,if k=5 then n else n+1)else none
def pIs(T:List Tok)(n:Nat)(k:Int)(s:D):Option Nat:=if isT (tk T n) k s=true then some (n+1)else none
theorem d0G(t:Tok)(e:Int):b8 CC 159 [.agg t.cells,iv e] [] λr τ=>∃_:Unit,X0 0 τ r (.pan (a2H t.at_ e))/\True:=by
 refine qO Tryz.func159 ?_;refine qD (F4 G O j1 i9 ?_);refine u (z8 #[(0,1),(1,1)] G j2 c4Y Tryz.zeroValue166 G ⟨_,G⟩ (λw=>by kernel_rfl) G G) ?_;refine u (c4m (xs:=[.int .i64 t.at_,.int .i64 e]) G O G (b9W c4Y G)) ?_;exact a2J G G (d3F G O G (λM w v h=>⟨_,_,r6 h⟩) ⟨(),.pan (.old (.val _)),O⟩)
theorem N7(t:Tok)(e:Int)(σ:List b9):b8 CC 159 [.agg t.cells,iv e] σ λr τ=>∃_:Unit,r= .pan (a2H t.at_ e)/\τ=σ/\True:=
 F8 (res:=λ_=>.pan (a2H t.at_ e)) hCC (λc hc=>by
  simp at hc
  rcases hc with rfl|rfl
  .exact a0j _
  .exact .val _) (d0G t e) (λ_ _=>.val _) σ
theorem c5S(T:List Tok)(n:Nat)(ps:List D)(b:List Ex)(_:T.length<=1000000)(hn:n<T.length):b8 CC 160 [.ptr 0 0] (pst T n ps b) (λr τ=>C9 2 τ r (.ret (.agg (tk T n).cells)) (pst T n ps b)):=by
 refine qO Tryz.func160 ?_;refine qD (j6 G a2M G i9 ?_);refine cW 10 ?_;refine a2S ?_;refine hY (i7 G O G c4K G Tryz.sizeOf162 I) ?_;refine hY (l9 G O G Tryz.isAgg162 G G) ?_;refine a2S ?_;refine hY b7u ?_;refine hY a0F ?_;refine d7N ?_;refine a3D ?_;refine z_4 ?_;exact⟨_,B7 G b3S,a0P G (a5j _ _)⟩
theorem a3m{n:Nat}{ps:List D}{b:List Ex}(hT:T.length<=1000000)(hn:n<T.length){s:Nat}(aw:PAt σ q s T n ps b):b8 CC 160 [.ptr q 0] σ λr τ=>r= .ret (.agg (tk T n).cells)/\τ=σ:=c1p (λ_ h=>by cases h) (a0j _) (c5S T n ps b hT hn) aw
theorem d9m(T:List Tok)(n:Nat)(ps:List D)(b:List Ex)(hT:T.length<=1000000)(hn:n<T.length)(k:Int)(Jj:D):b8 CC 158 [.ptr 0 0,iv k,(sv Jj)] (pst T n ps b) (λr τ=>C9 2 τ r (.ret (.val (.bool (isT (tk T n) (k) (Jj))))) (pst T n ps b)):=by
 refine qO Tryz.func158 ?_;refine u b9i ?_;refine z_3 ?_;refine qG b6V ?_;refine qG a29 ?_;refine c2B ?_;refine a84 ?_;exact⟨_,rE1,(by exact a0P G (.val _))⟩
theorem b2F{n:Nat}{ps:List D}{b:List Ex}(hT:T.length<=1000000)(hn:n<T.length)(k:Int)(Jj:D){s:Nat}(aw:PAt σ q s T n ps b):b8 CC 158 [.ptr q 0,iv k,(sv Jj)] σ λr τ=>r= .ret (.val (.bool (isT (tk T n) (k) (Jj))))/\τ=σ:=c1p (λ_ h=>by simp at h;rcases h with rfl|rfl<;>exact .val _) (.val _) (d9m T n ps b hT hn k Jj) aw
theorem c9o(T:List Tok)(n:Nat)(ps:List D)(b:List Ex)(hT:T.length<=1000000)(hn:n<T.length)(hW:a0X T)(Jj:D):b8 CC 157 [.ptr 0 0,(sv Jj)] (pst T n ps b) (a3A (λ_:Nat=>.tup []) (λa=>pst T a ps b) (λa=>pIs T n 4 Jj=some a/\a<T.length) (pIs T n 4 Jj=none)):=by
 refine qO Tryz.func157 ?_;refine u (c5 G c5o ⟨O,G,O,O⟩ (b2F hT hn 4 Jj ⟨G,G,I⟩) G) ?_;refine qC ?_ ?_<;>intro h1
 .have hb:isT (tk T n) 4 Jj=false:=U h1;refine u b9i ?_;exact a2J G G (N5 G a4Z m0 (N7 _ _ _) G (λ_ _=>.inr ⟨(_,_),j3,by rw[pIs,H (by rw[hb];decide)],Q⟩))
 .have hb:isT (tk T n) 4 Jj=true:=U h1;refine z_6 ?_;exact⟨_,rE0,e1c⟩
theorem O7{n:Nat}{ps:List D}{b:List Ex}(hT:T.length<=1000000)(hn:n<T.length)(hW:a0X T)(Jj:D){s:Nat}(aw:PAt σ q s T n ps b):b8 CC 157 [.ptr q 0,(sv Jj)] σ (a37 (λ_:Nat=>.tup []) (λa=>σ.set q (pbx T a ps b s)) (λa=>pIs T n 4 Jj=some a/\a<T.length) σ q s (pIs T n 4 Jj=none)):=
 a0Y (c:=λ_:Nat=>.tup []) (N:=λa=>a) (λ_ h=>by simp at h;subst h;exact .val _) (λ_=>D3 trivial) (c9o T n ps b hT hn hW Jj) aw
theorem c9t(T:List Tok)(n:Nat)(ps:List D)(b:List Ex)(hT:T.length<=1000000)(hn:n<T.length)(hW:a0X T)(Jj:D):b8 CC 155 [.ptr 0 0,(sv Jj)] (pst T n ps b) (a3A (λ_:Nat=>.tup []) (λa=>pst T a ps b) (λa=>pIs T n 1 Jj=some a/\a<T.length) (pIs T n 1 Jj=none)):=by
 refine qO Tryz.func155 ?_;refine u (c5 G c5o ⟨O,G,O,O⟩ (b2F hT hn 1 Jj ⟨G,G,I⟩) G) ?_;refine qC ?_ ?_<;>intro h1
 .have hb:isT (tk T n) 1 Jj=false:=U h1;refine u b9i ?_;exact a2J G G (N5 G a4Z m0 (N7 _ _ _) G (λ_ _=>.inr ⟨(_,_),j3,by rw[pIs,H (by rw[hb];decide)],Q⟩))
 .have hb:isT (tk T n) 1 Jj=true:=U h1;refine z_6 ?_;exact⟨_,rE0,e1c⟩
theorem b5t{n:Nat}{ps:List D}{b:List Ex}(hT:T.length<=1000000)(hn:n<T.length)(hW:a0X T)(Jj:D){s:Nat}(aw:PAt σ q s T n ps b):b8 CC 155 [.ptr q 0,(sv Jj)] σ (a37 (λ_:Nat=>.tup []) (λa=>σ.set q (pbx T a ps b s)) (λa=>pIs T n 1 Jj=some a/\a<T.length) σ q s (pIs T n 1 Jj=none)):=
 a0Y (c:=λ_:Nat=>.tup []) (N:=λa=>a) (λ_ h=>by simp at h;subst h;exact .val _) (λ_=>D3 trivial) (c9t T n ps b hT hn hW Jj) aw
theorem b9K(T:List Tok)(n:Nat)(ps:List D)(b:List Ex)(hT:T.length<=1000000)(hn:n<T.length)(hW:a0X T)(Jj:D):b8 CC 252 [.ptr 0 0,(sv Jj)] (pst T n ps b) (a3A (λa:Bool×Nat=>(.val (.bool a.1))) (λa=>pst T a.2 ps b) (λa=>a.1=isT (tk T n) 4 Jj/\a.2=(if isT (tk T n) 4 Jj=true then n+1 else n)/\a.2 <T.length) False):=by
 refine qO Tryz.func252 ?_;refine u (c5 G c5o ⟨O,G,O,O⟩ (b2F hT hn 4 Jj ⟨G,G,I⟩) G) ?_;refine qC ?_ ?_<;>intro h1
 .have hb:isT (tk T n) 4 Jj=false:=U h1;refine c6 ?_;exact⟨_,rE1,(by exact .inl ⟨(false,n),a0P G (.val _),hb.symm,by rw[H (by rw[hb];decide)],hn⟩)⟩
 .have hb:isT (tk T n) 4 Jj=true:=U h1;refine z_6 ?_;refine c6 ?_;exact⟨_,rE1,(by exact .inl ⟨(true,n+1),a0P G (.val _),hb.symm,by rw[W hb],hW n hn (a6o hb I)⟩)⟩
theorem a1N{n:Nat}{ps:List D}{b:List Ex}(hT:T.length<=1000000)(hn:n<T.length)(hW:a0X T)(Jj:D){s:Nat}(aw:PAt σ q s T n ps b):b8 CC 252 [.ptr q 0,(sv Jj)] σ λr τ=>∃a:Bool×Nat,r= .ret (.val (.bool a.1))/\τ=σ.set q (pbx T a.2 ps b s)/\a.1=isT (tk T n) 4 Jj/\a.2=(if isT (tk T n) 4 Jj=true then n+1 else n)/\a.2 <T.length :=
 (a0Y (c:=λa:Bool×Nat=>(.val (.bool a.1))) (N:=λa:Bool×Nat=>a.2) (λ_ h=>by simp at h;subst h;exact .val _) (λ_=>.val _) (b9K T n ps b hT hn hW Jj) aw).mono λr τ h=>by
  rcases h with h|⟨_,_,_,h,_⟩
  .exact h
  .exact h.elim
theorem c93(T:List Tok)(n:Nat)(ps:List D)(b:List Ex)(hT:T.length<=1000000)(hn:n<T.length)(hW:a0X T)(k:Int):b8 CC 195 [.ptr 0 0,iv k] (pst T n ps b) (a3A (λa:Tok×Nat=>.agg a.1.cells) (λa=>pst T a.2 ps b) (λa=>E8 T n k=some a/\a.2 <T.length) (E8 T n k=none)):=by
 refine qO Tryz.func195 ?_;refine qD (j6 G a2M G i9 ?_);refine u b9i ?_;refine z_3 ?_;refine qC ?_ ?_<;>intro h1
 .have hk:¬(tk T n).k=k:=U h1;exact a2J G G (N5 G a4Z m0 (N7 _ _ _) G (λ_ _=>.inr ⟨(_,_),j3,by rw[E8,H hk],Q⟩))
 .have hk:(tk T n).k=k:=U h1;refine qC ?_ ?_<;>intro h2
  .have h5:¬k=5:=U h2;refine z_6 ?_;refine z_4 ?_;exact⟨_,B7 G b3S,(by exact .inl ⟨(tk T n,n+1),a0P G (a5j _ _),by rw[E8,W hk,H h5],hW n hn (by rw[hk];exact h5)⟩)⟩
  .have h5:k=5:=U h2;refine z_4 ?_;exact⟨_,B7 G b3S,(by exact .inl ⟨(tk T n,n),a0P G (a5j _ _),by rw[E8,W hk,W h5],hn⟩)⟩
theorem a6T{n:Nat}{ps:List D}{b:List Ex}(hT:T.length<=1000000)(hn:n<T.length)(hW:a0X T)(k:Int){s:Nat}(aw:PAt σ q s T n ps b):b8 CC 195 [.ptr q 0,iv k] σ (a37 (λa:Tok×Nat=>.agg a.1.cells) (λa=>σ.set q (pbx T a.2 ps b s)) (λa=>E8 T n k=some a/\a.2 <T.length) σ q s (E8 T n k=none)):=
 a0Y (c:=λa:Tok×Nat=>.agg a.1.cells) (N:=λa=>a.2) (λ_ h=>by simp at h;subst h;exact .val _) (λ_=>a0j _) (c93 T n ps b hT hn hW k) aw
def T0(Jj:D):Bool:=decide (Jj∈([[112,97,99,107,97,103,101],[105,109,112,111,114,116],[102,117,110,99],[116,101,115,116],[103,101,110],[105,102],[116,104,101,110],[101,108,115,101],[114,101,97,100],[115,105,122,101],[104,97,115],[101,110,118],[102,108,105,112]]:List D))
theorem a5S(Jj:D)(σ:List b9):b8 CC 196 [(sv Jj)] σ λr ae=>r= .ret (.val (.bool (T0 Jj)))/\ae=σ:=by
 refine b8.anyw hCC pu_ pu_ (c9 (qO Tryz.func196 ?_)) σ;refine u O5 ?_;refine qC ?_ ?_<;>intro h1
 .have e:Jj=[112,97,99,107,97,103,101]:=U h1;refine qC ?_ ?_<;>intro h2
  .refine c6 ?_;exact⟨_,rE1,_,_,G,G,j9 (show true=T0 Jj by rw[e];decide)⟩
  .exfalso;rw[h1]at h2;cases h2
 .have e1:¬Jj=[112,97,99,107,97,103,101]:=U h1;refine u O5 ?_;refine qC ?_ ?_<;>intro h3
  .have e:Jj=[105,109,112,111,114,116]:=U h3;refine qC ?_ ?_<;>intro h4
   .refine c6 ?_;exact⟨_,rE1,_,_,G,G,j9 (show true=T0 Jj by rw[e];decide)⟩
   .exfalso;rw[h3]at h4;cases h4
  .have e2:¬Jj=[105,109,112,111,114,116]:=U h3;refine u O5 ?_;refine qC ?_ ?_<;>intro h5
   .have e:Jj=[102,117,110,99]:=U h5;refine qC ?_ ?_<;>intro h6
    .refine c6 ?_;exact⟨_,rE1,_,_,G,G,j9 (show true=T0 Jj by rw[e];decide)⟩
    .exfalso;rw[h5]at h6;cases h6
   .have e3:¬Jj=[102,117,110,99]:=U h5;refine u O5 ?_;refine qC ?_ ?_<;>intro h7
    .have e:Jj=[116,101,115,116]:=U h7;refine qC ?_ ?_<;>intro h8
     .refine c6 ?_;exact⟨_,rE1,_,_,G,G,j9 (show true=T0 Jj by rw[e];decide)⟩
     .exfalso;rw[h7]at h8;cases h8
    .have e4:¬Jj=[116,101,115,116]:=U h7;refine u O5 ?_;refine qC ?_ ?_<;>intro h9
     .have e:Jj=[103,101,110]:=U h9;refine qC ?_ ?_<;>intro bL
      .refine c6 ?_;exact⟨_,rE1,_,_,G,G,j9 (show true=T0 Jj by rw[e];decide)⟩
      .exfalso;rw[h9]at bL;cases bL
     .have e5:¬Jj=[103,101,110]:=U h9;refine u O5 ?_;refine qC ?_ ?_<;>intro eY
      .have e:Jj=[105,102]:=U eY;refine qC ?_ ?_<;>intro fo
       .refine c6 ?_;exact⟨_,rE1,_,_,G,G,j9 (show true=T0 Jj by rw[e];decide)⟩
       .exfalso;rw[eY]at fo;cases fo
      .have e6:¬Jj=[105,102]:=U eY;refine u O5 ?_;refine qC ?_ ?_<;>intro dR
       .have e:Jj=[116,104,101,110]:=U dR;refine qC ?_ ?_<;>intro ie
        .refine c6 ?_;exact⟨_,rE1,_,_,G,G,j9 (show true=T0 Jj by rw[e];decide)⟩
        .exfalso;rw[dR]at ie;cases ie
       .have e7:¬Jj=[116,104,101,110]:=U dR;refine u O5 ?_;refine qC ?_ ?_<;>intro h15
        .have e:Jj=[101,108,115,101]:=U h15;refine qC ?_ ?_<;>intro h16
         .refine c6 ?_;exact⟨_,rE1,_,_,G,G,j9 (show true=T0 Jj by rw[e];decide)⟩
         .exfalso;rw[h15]at h16;cases h16
        .have e8:¬Jj=[101,108,115,101]:=U h15;refine u O5 ?_;refine qC ?_ ?_<;>intro h17
         .have e:Jj=[114,101,97,100]:=U h17;refine qC ?_ ?_<;>intro h18
          .refine c6 ?_;exact⟨_,rE1,_,_,G,G,j9 (show true=T0 Jj by rw[e];decide)⟩
          .exfalso;rw[h17]at h18;cases h18
         .have e9:¬Jj=[114,101,97,100]:=U h17;refine u O5 ?_;refine qC ?_ ?_<;>intro h19
          .have e:Jj=[115,105,122,101]:=U h19;refine qC ?_ ?_<;>intro h20
           .refine c6 ?_;exact⟨_,rE1,_,_,G,G,j9 (show true=T0 Jj by rw[e];decide)⟩
           .exfalso;rw[h19]at h20;cases h20
          .have e10:¬Jj=[115,105,122,101]:=U h19;refine u O5 ?_;refine qC ?_ ?_<;>intro h21
           .have e:Jj=[104,97,115]:=U h21;refine qC ?_ ?_<;>intro h22
            .refine c6 ?_;exact⟨_,rE1,_,_,G,G,j9 (show true=T0 Jj by rw[e];decide)⟩
            .exfalso;rw[h21]at h22;cases h22
           .have e11:¬Jj=[104,97,115]:=U h21;refine u O5 ?_;refine qC ?_ ?_<;>intro h23
            .have e:Jj=[101,110,118]:=U h23;refine qC ?_ ?_<;>intro h24
             .refine c6 ?_;exact⟨_,rE1,_,_,G,G,j9 (show true=T0 Jj by rw[e];decide)⟩
             .exfalso;rw[h23]at h24;cases h24
            .have e12:¬Jj=[101,110,118]:=U h23;refine u O5 ?_;refine qC ?_ ?_<;>intro h25
             .have e:Jj=[102,108,105,112]:=U h25;refine c6 ?_;exact⟨_,rE1,_,_,G,G,j9 (show true=T0 Jj by rw[e];decide)⟩
             .have e13:¬Jj=[102,108,105,112]:=U h25;refine c6 ?_;exact⟨_,rE1,_,_,G,G,j9 (show false=T0 Jj by simp[T0,e1,e2,e3,e4,e5,e6,e7,e8,e9,e10,e11,e12,e13])⟩
def ixS:List D->D->Nat->Int
 | [],_,_=>-1
 |y::l,x,i=>if y=x then i else ixS l x (i+1)
theorem b02{l:List D}{y:D}(h:l[i]?=some y)(x:D):ixS (l.drop i) x i=if y=x then(i:Int)else ixS (l.drop (i+1)) x (i+1):=by
 obtain⟨ai,rfl⟩:=n_2.1 h;rw[a0v ai];rfl
theorem a7Z(x:D):∀(l:List D) (i:Nat),(x∉l/\ixS l x i= -1)\/(x∈l/\(i:Int)<=ixS l x i/\ixS l x i<i+l.length)
 | [],_=>.inl ⟨Q,G⟩
 |y::l,i=>by
  rw[ixS];by_cases h:y=x
  .rw [W h];exact .inr ⟨by simp[h],J,by simp;omega⟩
  .rw [H h]
   rcases a7Z x l (i+1)with⟨h1,h2⟩|⟨h1,h2,h3⟩
   .exact .inl ⟨by simp[h1,Ne.symm h],h2⟩
   .exact .inr ⟨by simp[h1],J,by simp;omega⟩
theorem d4z{l:List D}{x:D}:0<=ixS l x 0↔x∈l:=by
 rcases a7Z x l 0 with⟨h1,h2⟩|⟨h1,h2,_⟩
 .rw [h2];simp[h1]
 .simp [h1];omega
theorem a9s(l:List D)(nn:Bool)(x:D)(hl:l.length<=1000000000)(σ:List b9):b8 CC 197 [(.list (l.map scv) nn none),(sv x)] σ λr ae=>r= .ret (iv (ixS l x 0))/\ae=σ:=by
 refine b8.anyw hCC pu_ pu_ (c9 (qO Tryz.func197 ?_)) σ;refine u P0 ?_;refine u0 hCC (α:=Nat) (λi=>[(0,(.list (l.map scv) nn none)),(1,(sv x)),(7,iv l.length),(8,iv i)]) (λ_=>[]) (λi=>i<=l.length/\ixS l x 0=ixS (l.drop i) x i) (λi=>l.length -i) 0 ⟨n_4 _,G⟩ tu_ (au:=[]) G D5 uz_ ?_;intro i ⟨hi,hr⟩;refine qk (qC ?_ ?_)<;> intro h1
 .have ai:(i:Int)<l.length:=U h1;obtain⟨y,hb⟩:=gx_ l i;rw[b02 hb]at hr;refine u a4C ?_;refine u a5Q ?_;refine qC ?_ ?_<;>intro h2
  .have hx:y=x:=(show x=y by simpa using h2).symm;rw[W hx]at hr;refine c6 ?_;exact⟨_,rE1,_,_,G,G,B8 hr.symm⟩
  .have hx:¬y=x:=λe=>by subst e;simp at h2
   rw[H hx]at hr;exact b2d
 .have aL:i=l.length:=by
   have:¬(i:Int)<l.length:=U h1;omega
  refine V5 ?_;exact⟨_,rE1,_,_,G,G,B8 (by rw[hr,aL,b5P];rfl)⟩
theorem a4l(l:List D)(nn:Bool)(x:D)(hl:l.length<=1000000000)(σ:List b9):b8 CC 161 [(.list (l.map scv) nn none),(sv x)] σ λr ae=>r= .ret (.val (.bool (decide (x∈l))))/\ae=σ:=by
 refine b8.anyw hCC pu_ pu_ (c9 (qO Tryz.func161 ?_)) σ;refine u (c5 G Tryz.call197 j2 (a9s l nn x hl _) G) ?_;refine c6 ?_;exact⟨_,rE1,_,_,G,G,j9 (b3u.2 d4z)⟩
theorem a4P{n n1:Nat}{k:Int}(h:E8 T n k=some (t,n1)):t=tk T n:=by
 unfold E8 at h;split at h
 .injection h with h;injection h with h _;exact h.symm
 .cases h
def d2a(T:List Tok):Prop:=∀n,(tk T n).t.length<=1000000
def I7(T:List Tok)(n:Nat):Option (Tok×Nat):=(E8 T n 1).bind λx=>if T0 x.1.t=true then none else some x
def a0E(T:List Tok)(n:Nat):Option (Tok×Nat):=(E8 T n 3).bind λx=>if F6 x.1.t=true then some x else none
theorem d1K(T:List Tok)(n:Nat)(ps:List D)(b:List Ex)(hT:T.length<=1000000)(hn:n<T.length)(hW:a0X T):b8 CC 156 [.ptr 0 0] (pst T n ps b) (a3A (λa:Tok×Nat=>.agg a.1.cells) (λa=>pst T a.2 ps b) (λa=>I7 T n=some a/\a.2 <T.length) (I7 T n=none)):=by
 refine qO Tryz.func156 ?_;refine qD (j6 G a2M G i9 ?_);refine qD (o5 G c81 m0 (a6T hT hn hW 1 ⟨G,G,I⟩) G (λx hx=>.inr ⟨x,j3,by rw[I7,hx.1];rfl,hx.2⟩) ?_);rintro⟨t,n1⟩ ⟨ht,bh⟩;have hte:=a4P ht;subst hte;dsimp only at ht bh⊢;refine z_3 ?_;refine u (c5 G Tryz.call196 ⟨O,O⟩ (a5S (tk T n).t _) G) ?_;refine qC ?_ ?_<;>intro h1
 .have hr:T0 (tk T n).t=true:=U h1;exact a2J G G (N5 G a4Z m0 (N7 _ _ _) G (λ_ _=>.inr ⟨(_,_),j3,by rw[I7,ht,n_8,W hr],Q⟩))
 .have hr:T0 (tk T n).t=false:=U h1;refine z_4 ?_;exact⟨_,B7 G b3S,(by exact .inl ⟨(tk T n,n1),a0P G (a5j _ _),by rw[I7,ht,n_8,H (by rw[hr];decide)],bh⟩)⟩
theorem a9X{n:Nat}{ps:List D}{b:List Ex}(hT:T.length<=1000000)(hn:n<T.length)(hW:a0X T){s:Nat}(aw:PAt σ q s T n ps b):b8 CC 156 [.ptr q 0] σ (a37 (λa:Tok×Nat=>.agg a.1.cells) (λa=>σ.set q (pbx T a.2 ps b s)) (λa=>I7 T n=some a/\a.2 <T.length) σ q s (I7 T n=none)):=
 a0Y (c:=λa:Tok×Nat=>.agg a.1.cells) (N:=λa=>a.2) (λ_ h=>by cases h) (λ_=>a0j _) (d1K T n ps b hT hn hW) aw
theorem c90(T:List Tok)(n:Nat)(ps:List D)(b:List Ex)(hT:T.length<=1000000)(hn:n<T.length)(hW:a0X T)(hL:d2a T):b8 CC 198 [.ptr 0 0] (pst T n ps b) (a3A (λa:Tok×Nat=>.agg a.1.cells) (λa=>pst T a.2 ps b) (λa=>a0E T n=some a/\a.2 <T.length) (a0E T n=none)):=by
 refine qO Tryz.func198 ?_;refine qD (j6 G a2M G i9 ?_);refine qD (o5 G c81 m0 (a6T hT hn hW 3 ⟨G,G,I⟩) G (λx hx=>.inr ⟨x,j3,by rw[a0E,hx.1];rfl,hx.2⟩) ?_);rintro⟨t,n1⟩ ⟨ht,bh⟩;have hte:=a4P ht;subst hte;dsimp only at ht bh⊢;refine z_3 ?_;refine u (c5 G c2x ⟨O,O⟩ (a3b (tk T n).t (by have:=hL n;omega) _) G) ?_;refine qC ?_ ?_<;>intro h1
 .have hr:F6 (tk T n).t=false:=U h1;exact a2J G G (N5 G a4Z m0 (N7 _ _ _) G (λ_ _=>.inr ⟨(_,_),j3,by rw[a0E,ht,n_8,H (by rw[hr];decide)],Q⟩))
 .have hr:F6 (tk T n).t=true:=U h1;refine z_4 ?_;exact⟨_,B7 G b3S,(by exact .inl ⟨(tk T n,n1),a0P G (a5j _ _),by rw[a0E,ht,n_8,W hr],bh⟩)⟩
theorem a90{n:Nat}{ps:List D}{b:List Ex}(hT:T.length<=1000000)(hn:n<T.length)(hW:a0X T)(hL:d2a T){s:Nat}(aw:PAt σ q s T n ps b):b8 CC 198 [.ptr q 0] σ (a37 (λa:Tok×Nat=>.agg a.1.cells) (λa=>σ.set q (pbx T a.2 ps b s)) (λa=>a0E T n=some a/\a.2 <T.length) σ q s (a0E T n=none)):=
 a0Y (c:=λa:Tok×Nat=>.agg a.1.cells) (N:=λa=>a.2) (λ_ h=>by cases h) (λ_=>a0j _) (c90 T n ps b hT hn hW hL) aw
def W0(b:List Ex)(x:Ex):Option (Nat×List Ex):=if b.length=256 then none else some (b.length,b++[x])
theorem c9e(T:List Tok)(n:Nat)(ps:List D)(b:List Ex)(_:T.length<=1000000)(_:n<T.length)(hb:b.length<=256)(t:Tok)(x:Ex):b8 CC 254 [.ptr 0 0,.agg t.cells,.agg x.cells] (pst T n ps b) (a3A (λa:Nat×List Ex=>(iv a.1)) (λa=>a6f T n ps a.2) (λa=>W0 b x=some a/\a.2.length<=256) (W0 b x=none)):=by
 refine qO Tryz.func254 ?_;refine a9N ?_;refine u b0I ?_;refine qC ?_ ?_<;>intro h1
 .have h256:b.length=256:=sm_ h1;exact a2J G G (N5 G a4Z m0 (N7 _ _ _) G (λ_ _=>.inr ⟨(_,_),j3,by rw[W0,W h256],Q⟩))
 .have h256:¬b.length=256:=sm_ h1;have dD:(b++[x]).length=b.length+1:=by simp
  refine c6n ?_;refine chf G a1e ?_;refine chf G (c7 G (i7 G O G c4K G b2D I)) ?_;refine chf G (c7 G b3D) ?_;refine chf G (c7 G c3R) ?_;refine chf G e0Z ?_;refine F2 ?_;refine B1 G G G (B6 G O O G Q q_3 b6d a9Q Tryz.typeInfo146 b4S G (.inr G) q_8 (by have hb:Tryz.t146.bytes=64:=G;rw[hb];first|omega|(simp;done)|(simp;omega)) E9 ((b++[x]).map Ex.cv) (b++[x]).length Q Q ?_);refine d2q ?_;refine C7 G G (c7 G (i7 G O G c4K G b2D I)) ⟨O,?_⟩;refine d7Q ?_;refine u b0I ?_;refine u a0D ?_;refine c6 ?_;exact⟨_,rE1,(by rw[show(((b++[x]).length:Int) -1)=(b.length:Int) by omega];exact .inl ⟨(b.length,b++[x]),Y7 (k:=4) G G I (.val _),by rw[W0,H h256],by show(b++[x]).length<=256;omega⟩)⟩
theorem a0f{n:Nat}{ps:List D}{b:List Ex}(hT:T.length<=1000000)(hn:n<T.length)(hb:b.length<=256)(t:Tok)(x:Ex){s:Nat}(aw:PAt σ q s T n ps b):b8 CC 254 [.ptr q 0,.agg t.cells,.agg x.cells] σ (a37 (λa:Nat×List Ex=>(iv a.1)) (λa=>(σ.set q (pbx T n ps a.2 σ.length)).set s .dead++[l8 a.2.length]) (λa=>W0 b x=some a/\a.2.length<=256) σ q s (W0 b x=none)):=
 a3c (c:=λa:Nat×List Ex=>(iv a.1)) (N:=λ_=>n) (B:=λa=>a.2) (λ_ h=>by simp at h;rcases h with rfl|rfl;exact a0j _;exact j5 x.pure) (λ_=>.val _) (c9e T n ps b hT hn hb t x) aw
theorem d5B{n:Nat}{ps:List D}{b:List Ex}(eT:τ=pbx T n ps b 1::l8 b.length::rest)(hc:B5 2 [0,1] c c'):C9 2 τ (.ret c) (.ret c') (pst T n ps b):=by
 subst eT;exact⟨[0,1],G,G,.ret hc,.inr ⟨_,G,.same G (a3I I)⟩,.inr ⟨_,G,.same G B0⟩,O⟩
theorem V4{f:α->List CV}{nn:Bool}{tok:Option Nat}(h:∀a,N8 (f a))(l:List α):B5 L am (.list (l.map f) nn tok) (.list (l.map f) nn none):=
 .list (λr hr c hc=>(C2 (f:=f) (λa=>(h a).all) _ r hr c hc).old) (λj hj=>by cases hj)
def a2z:Nat->List Tok->Nat->List D->Option (List D×Nat)
 |0,_,_,_=>none
 |f+1,T,n,l=>(I7 T n).bind λx=>if l.length=8 then none else if x.1.t∈l then none else
  if isT (tk T x.2) 4 [44]=true then a2z f T (x.2+1) (l++[x.1.t])else(pIs T x.2 4 [41]).bind λm=>some (l++[x.1.t],m)
def K2(T:List Tok)(n:Nat):Option (List D×Nat):=(pIs T n 4 [40]).bind λm=>if isT (tk T m) 4 [41]=true then some ([],m+1)else a2z 9 T m []
theorem X3(l:List α)(x:α):(l++[x]).length=l.length+1:=by simp
theorem b05(T:List Tok)(n:Nat)(ps:List D)(b:List Ex)(hT:T.length<=1000000)(hn:n<T.length)(hW:a0X T):b8 CC 201 [.ptr 0 0] (pst T n ps b) (a3A (λa:List D×Nat=>.list (a.1.map scv) (gnn a.1.length) none) (λa=>pst T a.2 ps b) (λa=>K2 T n=some a/\a.2 <T.length/\a.1.length<=8) (K2 T n=none)):=by
 refine qO Tryz.func201 ?_;refine qD (o5 G a5C m0 (O7 hT hn hW [40] ⟨G,G,I⟩) G (λx hx=>.inr ⟨x,j3,by rw[K2,hx.1];rfl,hx.2⟩) ?_);rintro n1 ⟨bc,bh⟩;dsimp only at bc bh⊢;refine qD (c4 G c49 m0 (a1N hT bh hW [41] ⟨G,G,I⟩) G ?_);rintro⟨ac,n2⟩ ⟨ha,cV,dZ⟩;dsimp only at ha cV dZ⊢;refine qC ?_ ?_<;>intro h1
 .have hc:isT (tk T n1) 4 [41]=true:=by rw[<- ha];simpa using h1
  rw[W hc]at cV;refine c6 ?_;exact⟨_,rE1,(by exact .inl ⟨([],n2),a0P G (B9 _ [] false),by rw[K2,bc,n_8,W hc,cV],dZ,by show 0<=8;decide⟩)⟩
 .have hc:¬isT (tk T n1) 4 [41]=true:=by rw[<- ha];simpa using h1
  rw[H hc]at cV;refine B3 hCC 2 G (α:=List D×Nat) (λx=>[(0,.ptr 0 0),(3,(.list (x.1.map scv) (gnn x.1.length) (D6 x.1.length 2)))]) (λx=>[pbx T x.2 ps b 1,l8 b.length,l8 x.1.length]) (λx=>x.1.length<=8/\x.2 <T.length/\K2 T n=a2z (9-x.1.length) T x.2 x.1) (λx=>9-x.1.length) ⟨([],n2),[0,1,7],⟨n_4 _,dZ,by rw[K2,bc,n_8,H hc,cV];rfl⟩,⟨G,G⟩,ut_,uq_⟩ ?_;intro⟨l,m⟩ ⟨hl,hm,aj⟩;dsimp only at hl hm aj⊢;obtain⟨f,hf⟩:∃f,9-l.length=f+1:=⟨8-l.length,J⟩;rw[hf,a2z]at aj;refine qk (qD (o5 G c29 ⟨O,O⟩ (a9X hT hm hW ⟨G,G,I⟩) G (λx hx=>.inr ⟨x,j3,by rw[aj,hx.1];rfl,hx.2⟩) ?_));rintro⟨t,m1⟩ ⟨ht,cz⟩;dsimp only at ht cz⊢;rw[ht,n_8]at aj;dsimp only at aj;refine z_3 ?_;refine u P0 ?_;refine qC ?_ ?_<;>intro h2
  .have h8:l.length=8:=sm_ h2;rw[W h8]at aj;exact a2J G G (N5 G a4Z m0 (N7 _ _ _) G (λ_ _=>.inr ⟨(_,_),j3,aj,Q⟩))
  .have h8:¬l.length=8:=sm_ h2;rw[H h8]at aj;refine u (c5 G Tryz.call161 j2 (a4l l (gnn l.length) t.t J _) G) ?_;refine qC ?_ ?_<;>intro h3
   .have hi:t.t∈l:=U h3;rw[W hi]at aj;exact a2J G G (N5 G a4Z m0 (N7 _ _ _) G (λ_ _=>.inr ⟨(_,_),j3,aj,Q⟩))
   .have hi:¬t.t∈l:=U h3;rw[H hi]at aj;have eX:=X3 l t.t;refine u (A6 [scv t.t] G ⟨O,O⟩ t_2 t_0 t_4 G G G G G G G G G) ?_;refine qD (B6 G O O G Q q_3 t_2 t_0 a5s t_4 G (.inr G) q_8 a2h E9 ((l++[t.t]).map scv) (l++[t.t]).length Q Q ?_);refine qD (c4 G c49 m0 (a1N hT cz hW [44] ⟨G,G,I⟩) G ?_);rintro⟨ac2,m2⟩ ⟨ha2,cc,gh⟩;dsimp only at ha2 cc gh⊢;refine qC ?_ ?_<;>intro h4
    .have fj:¬isT (tk T m1) 4 [44]=true:=by rw[<- ha2];simpa using h4
     rw[H fj]at cc aj;subst cc;refine o6 ?_;refine qD (o5 G a5C m0 (O7 hT gh hW [41] ⟨G,G,I⟩) G (λx hx=>.inr ⟨x,j3,by rw[aj,hx.1];rfl,hx.2⟩) ?_);rintro m3 ⟨fV,gg⟩;dsimp only at fV gg⊢;refine c6 ?_;exact⟨_,rE1,(by exact .inl ⟨(l++[t.t],m3),d5B G (V4 (f:=scv) (λ_=>⟨.val _,O⟩) _),by rw[aj,fV];rfl,gg,by show(l++[t.t]).length<=8;omega⟩)⟩
    .have fj:isT (tk T m1) 4 [44]=true:=by rw[<- ha2];simpa using h4
     rw[W fj]at cc aj;subst cc;exact⟨(l++[t.t],m1+1),[0,1,4],⟨do_,do_,gh,by dsimp only;rw[aj,show 9- (l++[t.t]).length=f by omega]⟩,⟨G,G⟩,ut_,uq_⟩
theorem b2o{n:Nat}{ps:List D}{b:List Ex}(hT:T.length<=1000000)(hn:n<T.length)(hW:a0X T){s:Nat}(aw:PAt σ q s T n ps b):b8 CC 201 [.ptr q 0] σ (a37 (λa:List D×Nat=>.list (a.1.map scv) (gnn a.1.length) none) (λa=>σ.set q (pbx T a.2 ps b s)) (λa=>K2 T n=some a/\a.2 <T.length/\a.1.length<=8) σ q s (K2 T n=none)):=
 a0Y (c:=λa:List D×Nat=>.list (a.1.map scv) (gnn a.1.length) none) (N:=λa=>a.2) (λ_ h=>by cases h) (λ_=>C1 _ _) (b05 T n ps b hT hn hW) aw
def a0K(op:Int):Int:=if op=6\/op=7 then 1 else if op=1\/op=2 then 2 else 3
def S0:List (Int×D):=[(1,[43]),(2,[45]),(3,[42]),(4,[47]),(5,[37]),(6,[60]),(7,[61,61])]
theorem b46(op:Int)(σ:List b9):b8 CC 325 [iv op] σ λr ae=>r= .ret (iv (a0K op))/\ae=σ:=by
 refine b8.anyw hCC pu_ pu_ (c9 (qO Tryz.func325 ?_)) σ;refine qC ?_ ?_<;>intro h1
 .have e:op=6:=U h1;refine qC ?_ ?_<;>intro h2
  .refine c6 ?_;exact⟨_,rE1,_,_,G,G,B8 (show(1:Int)=a0K op by rw[a0K,W (.inl e)])⟩
  .rw [h1]at h2;cases h2
 .have e6:¬op=6:=U h1;refine qC ?_ ?_<;>intro h6
  .have e:op=7:=U h6;refine c6 ?_;exact⟨_,rE1,_,_,G,G,B8 (show(1:Int)=a0K op by rw[a0K,W (.inr e)])⟩
  .have e7:¬op=7:=U h6;refine qC ?_ ?_<;>intro h7
   .have e:op=1:=U h7;refine qC ?_ ?_<;>intro h8
    .refine c6 ?_;exact⟨_,rE1,_,_,G,G,B8 (show(2:Int)=a0K op by rw[a0K,H J,W (.inl e)])⟩
    .rw [h7]at h8;cases h8
   .have e1:¬op=1:=U h7;refine qC ?_ ?_<;>intro h9
    .have e:op=2:=U h9;refine c6 ?_;exact⟨_,rE1,_,_,G,G,B8 (show(2:Int)=a0K op by rw[a0K,H J,W (.inr e)])⟩
    .have e2:¬op=2:=U h9;refine c6 ?_;exact⟨_,rE1,_,_,G,G,B8 (show(3:Int)=a0K op by rw[a0K,H J,H J])⟩
theorem d6x(m:List (Int×D)):a2I (.map (gm kv sv m)):=λx hx=>by
 obtain⟨y,_,rfl⟩:=D8.1 hx;exact⟨.val _,.val _⟩
theorem c5y:b8 CC 324 [] [] λr τ=>∃_:Unit,X0 [b9.map (gm kv sv S0)].length τ r (.ret (.map 0))/\a4o [b9.map (gm kv sv S0)].length τ τ [b9.map (gm kv sv S0)]/\([]:List b9).length<=[b9.map (gm kv sv S0)].length/\True:=by
 refine qO Tryz.func324 ?_;refine qD (S8 G ?_);refine qD (p9 (vc:=sv) (l:=S0.take 0) a4M (.inr G) O G G G G G a4A G ?_);refine qD (p9 (vc:=sv) (l:=S0.take 1) a4M (.inr G) O G G G G G a4A G ?_);refine qD (p9 (vc:=sv) (l:=S0.take 2) a4M (.inr G) O G G G G G a4A G ?_);refine qD (p9 (vc:=sv) (l:=S0.take 3) a4M (.inr G) O G G G G G a4A G ?_);refine qD (p9 (vc:=sv) (l:=S0.take 4) a4M (.inr G) O G G G G G a4A G ?_);refine qD (p9 (vc:=sv) (l:=S0.take 5) a4M (.inr G) O G G G G G a4A G ?_);refine qD (p9 (vc:=sv) (l:=S0.take 6) a4M (.inr G) O G G G G G a4A G ?_);refine c6 ?_;exact⟨_,rE1,(by exact⟨(),.ret (.old (.map (Nat.zero_lt_one))),⟨.same (d6x _).old,O⟩,n_4 _,O⟩)⟩
theorem c88(σ:List b9):b8 CC 324 [] σ λr τ=>∃_:Unit,r= .ret (.map σ.length)/\τ=σ++[.map (gm kv sv S0)]/\True:=
 a03 (α:=Unit) (obs:=[]) (args:=[]) (res:=λ_=>.ret (.map 0)) (res':=λ_=>.ret (.map σ.length)) (S:=λ_=>[]) (N:=λ_=>[.map (gm kv sv S0)]) (P:=λ_=>True) [] hCC G (λi j k h=>by simp at h) (λi k h=>by simp at h) (λob h=>by cases h) ⟨G,λi c c' h=>by simp at h⟩
  (K9 (res:=λ_=>.ret (.map 0)) (S:=λ_=>[.map (gm kv sv S0)]) (P:=λ_=>True) hCC c5y) (λm _=>⟨G,λob h=>by simp at h;subst h;exact d6x _⟩) (λm _=>.ret (.map (.inr ⟨n_4 _,G⟩)))
def opM(t:Tok)(lv:Int)(x:Int×D):Bool:=(t.k == 4)&&decide (t.t=x.2)&& (a0K x.1 == lv)
def opS(t:Tok)(lv:Int):Int:=((S0.find? (opM t lv)).map (·.1)).getD 0
theorem e0t:∀x∈S0,∀y∈S0,x.2=y.2->x=y:=by decide
theorem a4i{x:Int×D}(hx:x∈S0)(h:opM t lv x=true):opS t lv=x.1:=by
 unfold opS;cases hf:S0.find? (opM t lv)with
 |none=>exact absurd h (by simpa using List.find?_eq_none.1 hf x hx)
 |some y=>
  have h1:=List.find?_some hf;have h2:=b8b hf;simp[opM]at h h1;have:=e0t x hx y h2 (by rw[<- h.1.2,<- h1.1.2]);rw[this];rfl
theorem b13(h:∀x∈S0,opM t lv x=false):opS t lv=0:=by
 unfold opS;have:S0.find? (opM t lv)=none:=List.find?_eq_none.2 λx hx=>by simp[h x hx]
 rw[this];rfl
theorem b5s{l:List α}{x y:α}(hy:l[i]?=some y)(h:x∈l):x=y\/x∈l.eraseIdx i:=by
 obtain⟨j,hj⟩:=J6.1 h;by_cases eu:j=i
 .subst eu;rw[hy]at hj;injection hj with hj;exact .inl hj.symm
 .exact .inr (d0Z.2 ⟨j,eu,hj⟩)
theorem b4t(T:List Tok)(n:Nat)(ps:List D)(b:List Ex)(hT:T.length<=1000000)(hn:n<T.length)(lv:Int):b8 CC 297 [.ptr 0 0,iv lv] (pst T n ps b) (λr τ=>C9 2 τ r (.ret (iv (opS (tk T n) lv))) (pst T n ps b)):=by
 refine qO Tryz.func297 ?_;refine u b9i ?_;refine z_3 ?_;refine qD (c4 G Tryz.call324 trivial (c88 _) G ?_);intro _ _;refine qD (b47 G O G a4A G ?_);refine u0 hCC (α:=List (Int×D)×List (Int×D)) (λx=>[(1,iv lv),(5,.ptr 2 0),(11,.ptr 4 0)]) (λx=>[pbx T n ps b 1,l8 b.length,.box (tk T n).cells,.dead,.iter (gm kv sv x.1) (gm kv sv x.2)]) (λx=>(∀y∈x.2,y∈S0)/\∀y∈S0,y∉x.2->opM (tk T n) lv y=false) (λx=>x.2.length) ([],S0) ⟨λy h=>h,λy h h2=>absurd h h2⟩ tu_ (au:=[]) G D5 uz_ ?_;intro⟨aF,left⟩ ⟨eX,cH⟩;dsimp only at eX cH⊢;refine qk (qD (b9X G O G G (λhz=>?_) (λi x hx=>?_)))
 .
  have eJ:left=[]:=by
   cases left with
   |nil=>rfl
   |cons y l=>cases hz
  subst eJ;refine qC ?_ ?_<;>intro h1
  .cases h1
  .have gL:=b13 (λy hy=>cH y hy Q);refine V5 ?_;exact⟨_,rE1,(by rw[gL];exact a0P G (.val _))⟩
 .
  obtain⟨⟨k,s⟩,hy,rfl⟩:=b9M hx;rw[b0Z];have bi:=eX _ (n_3 hy);refine qC ?_ ?_<;>intro h3
  .refine u (b5g G O G G) ?_;refine qG b6V ?_;refine qG a29 ?_;refine b7h ?_;refine qG F9 ?_;refine qG (λhg=>c5 G Tryz.call325 ⟨hg,O⟩ (b46 k _) G) ?_;refine qG F9 ?_;refine qG a8R ?_;refine u Q8 ?_;refine qC ?_ ?_<;>intro h4
   .have hm:opM (tk T n) lv (k,s)=true:=h4;have bQ:=a4i bi hm;refine c6 ?_;exact⟨_,rE1,(by rw[bQ];exact a0P G (.val _))⟩
   .have hm:opM (tk T n) lv (k,s)=false:=h4;exact⟨([(k,s)],left.eraseIdx i),_,⟨by dsimp only;rw[c9p (n_2.1 hy).1];have:=(n_2.1 hy).1;omega,λy hy'=>eX y (List.mem_of_mem_eraseIdx hy'),λy fi hy2=>by
     by_cases gW:y∈left
     .rcases b5s hy gW with rfl|h
      .exact hm
      .exact absurd h hy2
     .exact cH y fi gW⟩,tu_,G⟩
  .cases h3
theorem b8l{n:Nat}{ps:List D}{b:List Ex}(hT:T.length<=1000000)(hn:n<T.length)(lv:Int){s:Nat}(aw:PAt σ q s T n ps b):b8 CC 297 [.ptr q 0,iv lv] σ λr τ=>r= .ret (iv (opS (tk T n) lv))/\τ=σ:=c1p (λ_ h=>by simp at h;subst h;exact .val _) (.val _) (b4t T n ps b hT hn lv) aw
abbrev PX:=Nat×Nat×List Ex
structure PF where
 ex:Nat->Nat->List Ex->Option PX
 bin:Nat->Nat->Nat->List Ex->Option PX
 lp:Nat->Nat->Nat->Nat->List Ex->Option PX
 fac:Nat->Nat->List Ex->Option PX
 ag:Nat->Nat->List Ex->List Int->Option (List Int×Nat×List Ex)
def a2x(T:List Tok)(F:PF)(d n:Nat)(b:List Ex):Option (List Int×Nat×List Ex):=
 (pIs T n 4 [40]).bind λn1=>if isT (tk T n1) 4 [41]=true then some ([],n1+1,b)else F.ag d n1 b []
def K4(b:List Ex)(x:Ex)(m:Nat):Option PX:=(W0 b x).bind λw=>some (w.1,m,w.2)
def W8(T:List Tok)(F:PF)(Jj:D)(d n:Nat)(b:List Ex):Option PX:=
 (pIs T n 4 [40]).bind λn1=>
  if Jj=[114,101,97,100]then(a0E T n1).bind λs=>(pIs T s.2 4 [44]).bind λn2=>(F.ex (d+1) n2 b).bind λx=>(pIs T x.2.1 4 [41]).bind λm=>K4 x.2.2 ⟨6,0,0,s.1.t,[(x.1:Int)]⟩ m
  else if Jj=[115,105,122,101]then(a0E T n1).bind λs=>(pIs T s.2 4 [41]).bind λm=>K4 b ⟨7,0,0,s.1.t,[]⟩ m
  else if Jj=[104,97,115]then(a0E T n1).bind λs=>(pIs T s.2 4 [41]).bind λm=>K4 b ⟨8,0,0,s.1.t,[]⟩ m
  else if Jj=[101,110,118]then(E8 T n1 3).bind λs=>if C0 s.1.t=true then(pIs T s.2 4 [41]).bind λm=>K4 b ⟨9,0,0,s.1.t,[]⟩ m else none
  else(E8 T n1 2).bind λs=>if 64<=s.1.n then none else(pIs T s.2 4 [41]).bind λm=>K4 b ⟨10,s.1.n,0,[],[]⟩ m
def F3(T:List Tok)(ps:List D)(F:PF):PF where
 ex d n b:=if 32<d then none else if isT (tk T n) 1 [105,102]=true then
  (F.ex (d+1) (n+1) b).bind λx=>(pIs T x.2.1 1 [116,104,101,110]).bind λn2=>(F.ex (d+1) n2 x.2.2).bind λy=>(pIs T y.2.1 1 [101,108,115,101]).bind λn3=>(F.ex (d+1) n3 y.2.2).bind λz=>
   K4 z.2.2 ⟨5,0,0,[],[(x.1:Int),(y.1:Int),(z.1:Int)]⟩ z.2.1
  else F.bin 1 d n b
 bin lv d n b:=if lv=4 then F.fac d n b else(F.bin (lv+1) d n b).bind λx=>F.lp lv d x.1 x.2.1 x.2.2
 lp lv d x n b:=if opS (tk T n) (lv:Int)=0 then some (x,n,b)else(F.bin (lv+1) d (n+1) b).bind λy=>(W0 y.2.2 ⟨4,0,opS (tk T n) (lv:Int),[],[(x:Int),(y.1:Int)]⟩).bind λw=>
  if lv=1 then some (w.1,y.2.1,w.2)else F.lp lv d w.1 y.2.1 w.2
 fac d n b:=
  if(tk T n).k=2 then K4 b ⟨1,(tk T n).n,0,[],[]⟩ (n+1)
  else if isT (tk T n) 4 [45]=true then(E8 T (n+1) 2).bind λy=>K4 b ⟨1,-y.1.n,0,[],[]⟩ y.2
  else if isT (tk T n) 4 [40]=true then(F.ex (d+1) (n+1) b).bind λx=>(pIs T x.2.1 4 [41]).bind λm=>some (x.1,m,x.2.2)
  else if(tk T n).k≠1 then none
  else if(tk T n).t=[114,101,97,100]\/(tk T n).t=[115,105,122,101]\/(tk T n).t=[104,97,115]\/(tk T n).t=[101,110,118]\/(tk T n).t=[102,108,105,112]then W8 T F (tk T n).t d (n+1) b
  else if T0 (tk T n).t=true then none
  else if isT (tk T (n+1)) 4 [40]=true then(a2x T F d (n+1) b).bind λa=>K4 a.2.2 ⟨3,0,0,(tk T n).t,a.1⟩ a.2.1
  else if ixS ps (tk T n).t 0<0 then none else K4 b ⟨2,ixS ps (tk T n).t 0,0,[],[]⟩ (n+1)
 ag d n b acc:=(F.ex (d+1) n b).bind λx=>if isT (tk T x.2.1) 4 [44]=true then F.ag d (x.2.1+1) x.2.2 (acc++[(x.1:Int)])else(pIs T x.2.1 4 [41]).bind λm=>some (acc++[(x.1:Int)],m,x.2.2)
def z6(T:List Tok)(ps:List D):Nat->PF
 |0=>⟨λ_ _ _=>none,λ_ _ _ _=>none,λ_ _ _ _ _=>none,λ_ _ _=>none,λ_ _ _ _=>none⟩
 |f+1=>F3 T ps (z6 T ps f)
def EC(T:List Tok)(ps:List D)(f:Nat):Prop:=∀(d n:Nat) (b:List Ex),n<T.length->b.length<=256->d<=33->8*(T.length -n)+6<=f->∀(σ:List b9) (q s:Nat),PAt σ q s T n ps b->b8 CC 202 [.ptr q 0,iv d] σ (a37 (λa:PX=>(iv a.1)) (λa:PX=>(σ.set q (pbx T a.2.1 ps a.2.2 σ.length)).set s .dead++[l8 a.2.2.length]) (λa:PX=>(z6 T ps f).ex d n b=some a/\n<a.2.1/\a.2.1 <T.length/\a.2.2.length<=256) σ q s ((z6 T ps f).ex d n b=none))
def BC(T:List Tok)(ps:List D)(f:Nat):Prop:=∀(lv d n:Nat) (b:List Ex),n<T.length->b.length<=256->1<=lv->lv<=4->d<=32->8*(T.length -n)+6<=f+lv->∀(σ:List b9) (q s:Nat),PAt σ q s T n ps b->b8 CC 253 [.ptr q 0,iv lv,iv d] σ (a37 (λa:PX=>(iv a.1)) (λa:PX=>(σ.set q (pbx T a.2.1 ps a.2.2 σ.length)).set s .dead++[l8 a.2.2.length]) (λa:PX=>(z6 T ps f).bin lv d n b=some a/\n<a.2.1/\a.2.1 <T.length/\a.2.2.length<=256) σ q s ((z6 T ps f).bin lv d n b=none))
def FC(T:List Tok)(ps:List D)(f:Nat):Prop:=∀(d n:Nat) (b:List Ex),n<T.length->b.length<=256->d<=32->8*(T.length -n)+1<=f->∀(σ:List b9) (q s:Nat),PAt σ q s T n ps b->b8 CC 296 [.ptr q 0,iv d] σ (a37 (λa:PX=>(iv a.1)) (λa:PX=>(σ.set q (pbx T a.2.1 ps a.2.2 σ.length)).set s .dead++[l8 a.2.2.length]) (λa:PX=>(z6 T ps f).fac d n b=some a/\n<a.2.1/\a.2.1 <T.length/\a.2.2.length<=256) σ q s ((z6 T ps f).fac d n b=none))
structure Z9(T:List Tok)(ps:List D):Prop where
 len:T.length<=1000000
 w:a0X T
 l:d2a T
 ps:ps.length<=1000000
 nn:∀i,0<=(tk T i).n/\(tk T i).n<=9007199254740993
variable{ps:List D}{nn:Bool}{l:List α}
theorem O3{n:Nat}{k:Int}(h:pIs T n k s=some m):m=n+1:=by
 unfold pIs at h;split at h
 .injection h with h;exact h.symm
 .cases h
theorem d0y(hc:Z9 T ps)(hE:EC T ps f)(hB:BC T ps f)(d n:Nat)(b:List Ex)(hn:n<T.length)(hb:b.length<=256)(ca:d<=33)(hf:8*(T.length -n)+6<=f+1):b8 CC 202 [.ptr 0 0,iv d] (pst T n ps b) (a3A (λa:PX=>(iv a.1)) (λa=>a6f T a.2.1 ps a.2.2) (λa:PX=>(z6 T ps (f+1)).ex d n b=some a/\n<a.2.1/\a.2.1 <T.length/\a.2.2.length<=256) ((z6 T ps (f+1)).ex d n b=none)):=by
 have hT:=hc.len;have hW:=hc.w;have aj:(z6 T ps (f+1)).ex d n b=(F3 T ps (z6 T ps f)).ex d n b:=G;simp only[F3]at aj;refine qO Tryz.func202 ?_;refine u d7D ?_;refine z_3 ?_;refine qC ?_ ?_<;>intro h1
 .have hd:32<d:=sm_ h1;rw[W hd]at aj;exact a2J G G (N5 G a4Z m0 (N7 _ _ _) G (λ_ _=>.inr ⟨(_,_),j3,aj,Q⟩))
 .have hd:¬32<d:=sm_ h1;rw[H hd]at aj;refine u (c5 G c5o a3S (b2F hT hn 1 [105,102] ⟨G,G,n_5 G⟩) G) ?_;refine qC ?_ ?_<;>intro h2
  .have hi:isT (tk T n) 1 [105,102]=false:=U h2;rw[H (by rw[hi];decide)]at aj;refine qD (o5 G c7w ⟨O,G,O,O⟩ (hB 1 d n b hn hb J J J J _ 0 1 ⟨G,G,n_5 G⟩) G (λx hx=>.inr ⟨x,j3,by rw[aj];exact hx.1,hx.2⟩) ?_);rintro⟨i,m,b2⟩ ⟨g1,g2,g3,g4⟩;dsimp only at g1 g2 g3 g4⊢;refine qN [pbx T m ps b2 3,.dead,.box (tk T n).cells,l8 b2.length] G ?_;refine c6 ?_;exact⟨_,rE1,(by exact .inl ⟨(i,m,b2),Y7 (k:=3) G G I (.val _),by rw[aj];exact g1,g2,g3,g4⟩)⟩
  .have hi:isT (tk T n) 1 [105,102]=true:=U h2;rw[W hi]at aj;have bh:=hW n hn (a6o hi I);refine z_6 ?_;refine u o3 ?_;refine qD (o5 G c0r j2 (hE (d+1) (n+1) b bh hb J J _ 0 1 ⟨G,G,n_5 G⟩) G (λx hx=>.inr ⟨x,j3,by rw[aj,hx.1];rfl,hx.2⟩) ?_);rintro⟨i1,n1,b1⟩ ⟨x1,y1,z1,w1⟩;dsimp only at x1 y1 z1 w1⊢;rw[x1,n_8]at aj;dsimp only at aj;refine qN [pbx T n1 ps b1 3,.dead,.box (tk T n).cells,l8 b1.length] G (qD (o5 G c68 m0 (b5t hT z1 hW [116,104,101,110] ⟨G,G,n_5 G⟩) G (λx hx=>.inr ⟨x,j3,by rw[aj,hx.1];rfl,hx.2⟩) ?_));rintro n2 ⟨x2,y2⟩;dsimp only at x2 y2⊢;rw[x2,n_8]at aj;have cV:=O3 x2;refine qN [pbx T n2 ps b1 3,.dead,.box (tk T n).cells,l8 b1.length] G (u o3 ?_);refine qD (o5 G c0r j2 (hE (d+1) n2 b1 y2 w1 J J _ 0 _ ⟨G,G,n_5 G⟩) G (λx hx=>.inr ⟨x,j3,by rw[aj,hx.1];rfl,hx.2⟩) ?_);rintro⟨i3,n3,b3⟩ ⟨x3,y3,z3,w3⟩;dsimp only at x3 y3 z3 w3⊢;rw[x3,n_8]at aj;dsimp only at aj;refine qN [pbx T n3 ps b3 4,.dead,.box (tk T n).cells,.dead,l8 b3.length] G (qD (o5 G c68 m0 (b5t hT z3 hW [101,108,115,101] ⟨G,G,n_5 G⟩) G (λx hx=>.inr ⟨x,j3,by rw[aj,hx.1];rfl,hx.2⟩) ?_));rintro n4 ⟨x4,y4⟩;dsimp only at x4 y4⊢;rw[x4,n_8]at aj;have hn4:=O3 x4;refine qN [pbx T n4 ps b3 4,.dead,.box (tk T n).cells,.dead,l8 b3.length] G (u o3 ?_);refine qD (o5 G c0r j2 (hE (d+1) n4 b3 y4 w3 J J _ 0 _ ⟨G,G,n_5 G⟩) G (λx hx=>.inr ⟨x,j3,by rw[aj,hx.1];rfl,hx.2⟩) ?_);rintro⟨i5,n5,b5⟩ ⟨x5,y5,z5,w5⟩;dsimp only at x5 y5 z5 w5⊢;rw[x5,n_8,K4]at aj;dsimp only at aj;refine qN [pbx T n5 ps b5 5,.dead,.box (tk T n).cells,.dead,.dead,l8 b5.length] G (u (A6 ([(i1:Int),(i3:Int),(i5:Int)].map icv) G D0 t_7 t_1 t_9 G G G G G G G G G) ?_);refine u b0l ?_;refine qD (o5 G b0B D0 (a0f hT z5 w5 (tk T n) ⟨5,0,0,[],[(i1:Int),(i3:Int),(i5:Int)]⟩ ⟨G,G,n_5 G⟩) G (λx hx=>.inr ⟨x,j3,by rw[aj,hx.1];rfl,hx.2⟩) ?_);rintro⟨i6,b6⟩ ⟨x6,y6⟩;dsimp only at x6 y6⊢;rw[x6,n_8]at aj;refine qN [pbx T n5 ps b6 6,.dead,.box (tk T n).cells,.dead,.dead,.dead,l8 b6.length] G ?_;refine c6 ?_;exact⟨_,rE1,(by exact .inl ⟨(i6,n5,b6),Y7 (k:=6) G G I (.val _),aj,do_,z5,y6⟩)⟩
theorem d4W(hc:Z9 T ps)(hE:EC T ps f)(hB:BC T ps f):EC T ps (f+1):=λd n b hn hb hd hf σ q s aw=>
 a3c (c:=λa:PX=>(iv a.1)) (N:=λa=>a.2.1) (B:=λa=>a.2.2) (λ_ h=>by simp at h;subst h;exact .val _) (λ_=>.val _) (d0y hc hE hB d n b hn hb hd hf) aw
def kf(ph:Bool):Nat:=if ph=true then 3 else 2
def of1(ph:Bool)(m:Nat):b9:=if ph=true then .dead else l8 m
def of2(ph:Bool)(m:Nat):b9:=if ph=true then l8 m else .dead
theorem e0r(h:¬opS t lv=0):t.k≠5:=λh5=>h (b13 λx _=>by simp[opM,h5])
theorem a60{b:List Ex}{k p:Nat}(h:am[p]?=some k):B5 L am (.list (b.map Ex.cv) (gnn b.length) (D6 b.length k)) (.list (b.map Ex.cv) (gnn b.length) (D6 b.length p)):=
 .list (λr hr c hc=>(C2 (f:=Ex.cv) (λa=>(Ex.pure a).all) _ r hr c hc).old) (λj hj=>by
  cases hb:b.length with
  |zero=>rw[hb]at hj;cases hj
  |succ m=>rw[hb]at hj;injection hj with hj;subst hj;exact⟨k,G,h⟩)
theorem b9o(hc:Z9 T ps)(hB:∀g,g<=f->BC T ps g)(hF:FC T ps f)(lv d n:Nat)(b:List Ex)(hn:n<T.length)(hb:b.length<=256)(dD:1<=lv)(hl4:lv<=4)(ca:d<=32)(hf:8*(T.length -n)+6<=f+1+lv):b8 CC 253 [.ptr 0 0,iv lv,iv d] (pst T n ps b) (a3A (λa:PX=>(iv a.1)) (λa=>a6f T a.2.1 ps a.2.2) (λa:PX=>(z6 T ps (f+1)).bin lv d n b=some a/\n<a.2.1/\a.2.1 <T.length/\a.2.2.length<=256) ((z6 T ps (f+1)).bin lv d n b=none)):=by
 have hT:=hc.len;have hW:=hc.w;have aj:(z6 T ps (f+1)).bin lv d n b=(F3 T ps (z6 T ps f)).bin lv d n b:=G;simp only[F3]at aj;refine qO Tryz.func253 ?_;refine qC ?_ ?_<;>intro h1
 .have h4:lv=4:=sm_ h1;rw[W h4]at aj;refine qD (o5 G Tryz.call296 j2 (hF d n b hn hb ca J _ 0 1 ⟨G,G,n_5 G⟩) G (λx hx=>.inr ⟨x,j3,by rw[aj];exact hx.1,hx.2⟩) ?_);rintro⟨i,m,b2⟩ ⟨g1,g2,g3,g4⟩;dsimp only at g1 g2 g3 g4⊢;refine qN [pbx T m ps b2 2,.dead,l8 b2.length] G ?_;refine c6 ?_;exact⟨_,rE1,(by exact .inl ⟨(i,m,b2),Y7 (k:=2) G G I (.val _),by rw[aj];exact g1,g2,g3,g4⟩)⟩
 .have h4:¬lv=4:=sm_ h1;rw[H h4]at aj;refine u o3 ?_;refine qD (o5 G c7w D0 (hB f (n_6 _) (lv+1) d n b hn hb J J ca J _ 0 1 ⟨G,G,n_5 G⟩) G (λx hx=>.inr ⟨x,j3,by rw[aj,hx.1];rfl,hx.2⟩) ?_);rintro⟨i1,n1,b1⟩ ⟨x1,y1,z1,w1⟩;dsimp only at x1 y1 z1 w1⊢;rw[x1,n_8]at aj;dsimp only at aj;refine qN [pbx T n1 ps b1 2,.dead,l8 b1.length] G ?_;refine B3 hCC 3 G (α:=Nat×Nat×List Ex×Bool×Nat) (λx=>[(0,.ptr 0 0),(1,iv lv),(2,iv d),(7,iv x.1)]) (λx=>[pbx T x.2.1 ps x.2.2.1 (kf x.2.2.2.1),.dead,of1 x.2.2.2.1 x.2.2.1.length,of2 x.2.2.2.1 x.2.2.1.length]) (λx=>(z6 T ps (f+1)).bin lv d n b=(z6 T ps x.2.2.2.2).lp lv d x.1 x.2.1 x.2.2.1/\n<x.2.1/\x.2.1 <T.length/\x.2.2.1.length<=256/\x.2.2.2.2<=f/\8*(T.length -x.2.1)+3<=x.2.2.2.2) (λx=>T.length -x.2.1) ⟨(i1,n1,b1,false,f),[0,1,2,7],⟨aj,y1,z1,w1,n_6 _,do_⟩,⟨G,G⟩,ut_,uq_⟩ ?_;intro⟨x,m,b2,ph,g⟩ ⟨dh,dS,hm,bD,hgf,hg⟩;dsimp only at dh dS hm bD hgf hg⊢;obtain⟨g,rfl⟩:∃g',g=g'+1:=⟨g-1,J⟩;have iP:(z6 T ps (g+1)).lp lv d x m b2=(F3 T ps (z6 T ps g)).lp lv d x m b2:=G;simp only[F3]at iP;rw[iP]at dh;refine qk (u (c5 G Tryz.call297 j2 (b8l hT hm (lv:Int) (q:=0) (s:=kf ph) b7s) G) ?_);refine qC ?_ ?_<;>intro h2
  .have h0:opS (tk T m) (lv:Int)=0:=U h2;rw[W h0]at dh;refine c6 ?_;exact⟨_,rE1,(by exact .inl ⟨(x,m,b2),(by cases ph;exact Y7 (k:=2) G G I (.val _);exact Y7 (k:=3) G G I (.val _)),dh,dS,hm,bD⟩)⟩
  .have h0:¬opS (tk T m) (lv:Int)=0:=U h2;rw[H h0]at dh;have cz:=hW m hm (e0r h0);refine u (c5 G c4D ⟨O,O⟩ (a3m hT hm (q:=0) (s:=kf ph) b7s) G) ?_;refine z_3 ?_;refine z_6 ?_;refine u o3 ?_;refine qD (o5 G c7w D0 (hB g J (lv+1) d (m+1) b2 cz bD J J ca J _ 0 (kf ph) b7s) G (λx hx=>.inr ⟨x,j3,by rw[dh,hx.1];rfl,hx.2⟩) ?_);rintro⟨i3,n3,b3⟩ ⟨x3,y3,z3,w3⟩;dsimp only at x3 y3 z3 w3⊢;rw[x3,n_8]at dh;dsimp only at dh;refine qN [pbx T n3 ps b3 5,.dead,.dead,.dead,.box (tk T m).cells,l8 b3.length] a0c ?_;refine u (A6 ([(x:Int),(i3:Int)].map icv) G j2 t_7 t_1 t_9 G G G G G G G G G) ?_;refine u c5a ?_;refine qD (o5 G b0B D0 (a0f hT z3 w3 (tk T m) ⟨4,0,opS (tk T m) (lv:Int),[],[(x:Int),(i3:Int)]⟩ ⟨G,G,n_5 G⟩) G (λx hx=>.inr ⟨x,j3,by rw[dh,hx.1];rfl,hx.2⟩) ?_);rintro⟨i4,b4⟩ ⟨x4,y4⟩;dsimp only at x4 y4⊢;rw[x4,n_8]at dh;dsimp only at dh;refine qN [pbx T n3 ps b4 6,.dead,.dead,.dead,.box (tk T m).cells,.dead,l8 b4.length] G (qC ?_ ?_)<;> intro h3
   .have dD:lv=1:=sm_ h3;rw[W dD]at dh;refine c6 ?_;exact⟨_,rE1,(by exact .inl ⟨(i4,n3,b4),Y7 (k:=6) G G I (.val _),dh,do_,z3,y4⟩)⟩
   .have dD:¬lv=1:=sm_ h3;rw[H dD]at dh;exact⟨(i4,n3,b4,true,g),[0,1,2,6],⟨do_,dh,do_,z3,y4,do_,do_⟩,⟨G,G⟩,ut_,⟨.inr ⟨_,G,.box ⟨.old a04,.old (.val _),.old H8,a60 G,O⟩⟩,.inl G,.inl G,.inr ⟨_,G,.same G B0⟩,O⟩⟩
theorem c4M(hc:Z9 T ps)(hB:∀g,g<=f->BC T ps g)(hF:FC T ps f):BC T ps (f+1):=λlv d n b hn hb dD hl4 hd hf σ q s aw=>
 a3c (c:=λa:PX=>(iv a.1)) (N:=λa=>a.2.1) (B:=λa=>a.2.2) (λ_ h=>by simp at h;rcases h with rfl|rfl<;>exact .val _) (λ_=>.val _) (b9o hc hB hF lv d n b hn hb dD hl4 hd hf) aw
theorem a4u{n:Nat}{k:Int}(h:E8 T n k=some (t,m))(hk:k≠5):m=n+1:=by
 unfold E8 at h;rw[H hk]at h;split at h
 .injection h with h;injection h with _ h;exact h.symm
 .cases h
theorem a7G{n:Nat}(h:a0E T n=some (t,m)):m=n+1:=by
 unfold a0E at h;cases hq:E8 T n 3 with
 |none=>rw[hq]at h;cases h
 |some x=>
  rw[hq,n_8]at h;split at h
  .injection h with h;subst h;exact a4u hq I
  .cases h
theorem b1y{n:Nat}(h:I7 T n=some (t,m)):m=n+1:=by
 unfold I7 at h;cases hq:E8 T n 1 with
 |none=>rw[hq]at h;cases h
 |some x=>
  rw[hq,n_8]at h;split at h
  .cases h
  .injection h with h;subst h;exact a4u hq I
theorem b7Y(hc:Z9 T ps)(hE:EC T ps f)(t:Tok)(d n:Nat)(b:List Ex)(R:Option PX)(aj:R=W8 T (z6 T ps f) t.t d n b)(hn:n<T.length)(hb:b.length<=256)(ca:d<=32)(hf:8*(T.length -n)+6<=f):b8 CC 322 [.ptr 0 0,.agg t.cells,iv d] (pst T n ps b) (a3A (λa:PX=>(iv a.1)) (λa=>a6f T a.2.1 ps a.2.2) (λa:PX=>R=some a/\n<a.2.1/\a.2.1 <T.length/\a.2.2.length<=256) (R=none)):=by
 have hT:=hc.len;have hW:=hc.w;unfold W8 at aj;refine qO Tryz.func322 ?_;refine qD (F4 G O j1 i9 ?_);refine qD (o5 G a5C m0 (O7 hT hn hW [40] ⟨G,G,n_5 G⟩) G (λx hx=>.inr ⟨x,j3,by rw[aj,hx.1];rfl,hx.2⟩) ?_);rintro n1 ⟨sn1,kn1⟩;dsimp only at sn1 kn1⊢;rw[sn1,n_8]at aj;have en1:=O3 sn1;refine qD (j6 G b4S G i9 ?_);refine u O5 ?_;refine qC ?_ ?_<;>intro h1
 .have u1:t.t=[114,101,97,100]:=U h1;rw[W u1]at aj;refine qD (o5 G c3b ⟨O,O⟩ (a90 hT kn1 hW hc.l ⟨G,G,n_5 G⟩) G (λx hx=>.inr ⟨x,j3,by rw[aj,hx.1];rfl,hx.2⟩) ?_);rintro⟨p,n2⟩ ⟨s2,k2⟩;dsimp only at s2 k2⊢;rw[s2,n_8]at aj;dsimp only at aj;have e2:=a7G s2;refine u c2H ?_;refine c71 ?_;refine qD (o5 G a5C m0 (O7 hT k2 hW [44] ⟨G,G,n_5 G⟩) G (λx hx=>.inr ⟨x,j3,by rw[aj,hx.1];rfl,hx.2⟩) ?_);rintro n3 ⟨sn3,kn3⟩;dsimp only at sn3 kn3⊢;rw[sn3,n_8]at aj;have en3:=O3 sn3;refine u o3 ?_;refine qD (o5 G c0r j2 (hE (d+1) n3 b kn3 hb J J _ 0 1 ⟨G,G,n_5 G⟩) G (λx hx=>.inr ⟨x,j3,by rw[aj,hx.1];rfl,hx.2⟩) ?_);rintro⟨i4,n4,b4⟩ ⟨x4,y4,z4,w4⟩;dsimp only at x4 y4 z4 w4⊢;rw[x4,n_8]at aj;dsimp only at aj;refine u (A6 ([(i4:Int)].map icv) G ⟨O,O⟩ t_7 t_1 t_9 G G G G G G G G G) ?_;refine qD (i0 G O O G j1 c40 (.inl G) G G (nb G) ?_);refine qD (o5 G a5C m0 (O7 hT z4 hW [41] ⟨G,G,n_5 G⟩) G (λx hx=>.inr ⟨x,j3,by rw[aj,hx.1];rfl,hx.2⟩) ?_);rintro n5 ⟨eZ,fX⟩;dsimp only at eZ fX⊢;rw[eZ,n_8]at aj;have en5:=O3 eZ;refine qD (o5 G b0B D0 (a0f hT fX w4 t ⟨6,0,0,p.t,[(i4:Int)]⟩ ⟨G,G,n_5 G⟩) G (λx hx=>.inr ⟨x,j3,by rw[aj,K4,hx.1];rfl,hx.2⟩) ?_);rintro⟨i6,b6⟩ ⟨x6,y6⟩;dsimp only at x6 y6⊢;rw[K4,x6,n_8]at aj;exact b6J
 .have u1:¬t.t=[114,101,97,100]:=U h1;rw[H u1]at aj;refine u O5 ?_;refine qC ?_ ?_<;>intro h2
  .have u2:t.t=[115,105,122,101]:=U h2;rw[W u2]at aj;refine qD (o5 G c3b ⟨O,O⟩ (a90 hT kn1 hW hc.l ⟨G,G,n_5 G⟩) G (λx hx=>.inr ⟨x,j3,by rw[aj,hx.1];rfl,hx.2⟩) ?_);rintro⟨p,n2⟩ ⟨s2,k2⟩;dsimp only at s2 k2⊢;rw[s2,n_8]at aj;dsimp only at aj;have e2:=a7G s2;refine u c2H ?_;refine c71 ?_;refine qD (o5 G a5C m0 (O7 hT k2 hW [41] ⟨G,G,n_5 G⟩) G (λx hx=>.inr ⟨x,j3,by rw[aj,hx.1];rfl,hx.2⟩) ?_);rintro n5 ⟨eZ,fX⟩;dsimp only at eZ fX⊢;rw[eZ,n_8]at aj;have en5:=O3 eZ;refine qD (o5 G b0B D0 (a0f hT fX hb t ⟨7,0,0,p.t,[]⟩ ⟨G,G,n_5 G⟩) G (λx hx=>.inr ⟨x,j3,by rw[aj,K4,hx.1];rfl,hx.2⟩) ?_);rintro⟨i6,b6⟩ ⟨x6,y6⟩;dsimp only at x6 y6⊢;rw[K4,x6,n_8]at aj;exact b6J
  .have u2:¬t.t=[115,105,122,101]:=U h2;rw[H u2]at aj;refine u O5 ?_;refine qC ?_ ?_<;>intro h3
   .have u3:t.t=[104,97,115]:=U h3;rw[W u3]at aj;refine qD (o5 G c3b ⟨O,O⟩ (a90 hT kn1 hW hc.l ⟨G,G,n_5 G⟩) G (λx hx=>.inr ⟨x,j3,by rw[aj,hx.1];rfl,hx.2⟩) ?_);rintro⟨p,n2⟩ ⟨s2,k2⟩;dsimp only at s2 k2⊢;rw[s2,n_8]at aj;dsimp only at aj;have e2:=a7G s2;refine u c2H ?_;refine c71 ?_;refine qD (o5 G a5C m0 (O7 hT k2 hW [41] ⟨G,G,n_5 G⟩) G (λx hx=>.inr ⟨x,j3,by rw[aj,hx.1];rfl,hx.2⟩) ?_);rintro n5 ⟨eZ,fX⟩;dsimp only at eZ fX⊢;rw[eZ,n_8]at aj;have en5:=O3 eZ;refine qD (o5 G b0B D0 (a0f hT fX hb t ⟨8,0,0,p.t,[]⟩ ⟨G,G,n_5 G⟩) G (λx hx=>.inr ⟨x,j3,by rw[aj,K4,hx.1];rfl,hx.2⟩) ?_);rintro⟨i6,b6⟩ ⟨x6,y6⟩;dsimp only at x6 y6⊢;rw[K4,x6,n_8]at aj;exact b6J
   .have u3:¬t.t=[104,97,115]:=U h3;rw[H u3]at aj;refine u O5 ?_;refine qC ?_ ?_<;>intro h4
    .have u4:t.t=[101,110,118]:=U h4;rw[W u4]at aj;refine qD (o5 G c81 m0 (a6T hT kn1 hW 3 ⟨G,G,n_5 G⟩) G (λx hx=>.inr ⟨x,j3,by rw[aj,hx.1];rfl,hx.2⟩) ?_);rintro⟨p,n2⟩ ⟨s2,k2⟩;dsimp only at s2 k2⊢;rw[s2,n_8]at aj;dsimp only at aj;have e2:=a4u s2 I;have hp:=a4P s2;refine z_3 ?_;refine u (c5 G c3h ⟨O,O⟩ (a3p p.t _) G) ?_;refine qC ?_ ?_<;>intro h5
     .have hq:C0 p.t=false:=U h5;rw[H (by rw[hq];decide)]at aj;exact a2J G G (N5 G a4Z m0 (N7 _ _ _) G (λ_ _=>.inr ⟨(_,_),j3,aj,Q⟩))
     .have hq:C0 p.t=true:=U h5;rw[W hq]at aj;refine c71 ?_;refine qD (o5 G a5C m0 (O7 hT k2 hW [41] ⟨G,G,n_5 G⟩) G (λx hx=>.inr ⟨x,j3,by rw[aj,hx.1];rfl,hx.2⟩) ?_);rintro n5 ⟨eZ,fX⟩;dsimp only at eZ fX⊢;rw[eZ,n_8]at aj;have en5:=O3 eZ;refine qD (o5 G b0B D0 (a0f hT fX hb t ⟨9,0,0,p.t,[]⟩ ⟨G,G,n_5 G⟩) G (λx hx=>.inr ⟨x,j3,by rw[aj,K4,hx.1];rfl,hx.2⟩) ?_);rintro⟨i6,b6⟩ ⟨x6,y6⟩;dsimp only at x6 y6⊢;rw[K4,x6,n_8]at aj;exact b6J
    .have u4:¬t.t=[101,110,118]:=U h4;rw[H u4]at aj;refine qD (o5 G c81 m0 (a6T hT kn1 hW 2 ⟨G,G,n_5 G⟩) G (λx hx=>.inr ⟨x,j3,by rw[aj,hx.1];rfl,hx.2⟩) ?_);rintro⟨p,n2⟩ ⟨s2,k2⟩;dsimp only at s2 k2⊢;rw[s2,n_8]at aj;dsimp only at aj;have e2:=a4u s2 I;have hp:=a4P s2;refine z_3 ?_;refine qC ?_ ?_<;>intro h6
     .have hq:64<=p.n:=U h6;rw[W hq]at aj;exact a2J G G (N5 G a4Z m0 (N7 _ _ _) G (λ_ _=>.inr ⟨(_,_),j3,aj,Q⟩))
     .have hq:¬64<=p.n:=U h6;rw[H hq]at aj;refine c71 ?_;refine qD (o5 G a5C m0 (O7 hT k2 hW [41] ⟨G,G,n_5 G⟩) G (λx hx=>.inr ⟨x,j3,by rw[aj,hx.1];rfl,hx.2⟩) ?_);rintro n5 ⟨eZ,fX⟩;dsimp only at eZ fX⊢;rw[eZ,n_8]at aj;have en5:=O3 eZ;refine qD (o5 G b0B D0 (a0f hT fX hb t ⟨10,p.n,0,[],[]⟩ ⟨G,G,n_5 G⟩) G (λx hx=>.inr ⟨x,j3,by rw[aj,K4,hx.1];rfl,hx.2⟩) ?_);rintro⟨i6,b6⟩ ⟨x6,y6⟩;dsimp only at x6 y6⊢;rw[K4,x6,n_8]at aj;exact b6J
def UC(T:List Tok)(ps:List D)(f:Nat):Prop:=∀(t:Tok) (d n:Nat) (b:List Ex),n<T.length->b.length<=256->d<=32->8*(T.length -n)+6<=f->∀(σ:List b9) (q s:Nat),PAt σ q s T n ps b->b8 CC 322 [.ptr q 0,.agg t.cells,iv d] σ (a37 (λa:PX=>(iv a.1)) (λa:PX=>(σ.set q (pbx T a.2.1 ps a.2.2 σ.length)).set s .dead++[l8 a.2.2.length]) (λa:PX=>(W8 T (z6 T ps f) t.t d n b)=some a/\n<a.2.1/\a.2.1 <T.length/\a.2.2.length<=256) σ q s ((W8 T (z6 T ps f) t.t d n b)=none))
theorem b9L(hc:Z9 T ps)(hE:EC T ps f):UC T ps f:=λt d n b hn hb hd hf σ q s aw=>
 a3c (c:=λa:PX=>(iv a.1)) (N:=λa=>a.2.1) (B:=λa=>a.2.2) (λ_ h=>by simp at h;rcases h with rfl|rfl;exact a0j _;exact .val _) (λ_=>.val _) (b7Y hc hE t d n b _ G hn hb hd hf) aw
def ka(ph:Bool):Nat:=if ph=true then 2 else 1
def oa1(ph:Bool)(m:Nat):b9:=if ph=true then .dead else l8 m
def oa2(ph:Bool)(m:Nat):b9:=if ph=true then l8 m else .dead
theorem b49{n k:Nat}{b:List Ex}(h0:τ[0]?=some (pbx T n ps b k))(hk:τ[k]?=some (l8 b.length))(h2:2<=k)(hc:∀am,B5 2 am c c'):C9 2 τ (.ret c) (.ret c') (a6f T n ps b):=by
 obtain⟨am,a1,a2,_,a4⟩:=Y7 h0 hk h2 (Old.val (.int .i64 0));exact⟨am,a1,a2,.ret (hc am),a4⟩
theorem d9U{n k:Nat}{b:List Ex}{l:List Int}{x:Int}(h0:τ[0]?=some (pbx T n ps b k))(hk:τ[k]?=some (l8 b.length))(h2:2<=k)(hc:∀am,B5 2 am c c'):C9 2 τ (.ret c) (.ret c') (if(!(l++[x]).isEmpty)=true then a6f T n ps b else pst T n ps b):=by
 rw[W Q];exact b49 h0 hk h2 hc
def AC(T:List Tok)(ps:List D)(f:Nat):Prop:=∀(d n:Nat) (b:List Ex),n<T.length->b.length<=256->d<=32->8*(T.length -n)+6<=f->∀(σ:List b9) (q s:Nat),PAt σ q s T n ps b->b8 CC 323 [.ptr q 0,iv d] σ (a37 (λa:List Int×Nat×List Ex=>(.list (a.1.map icv) (gnn a.1.length) none))
 (λa=>if(!a.1.isEmpty)=true then(σ.set q (pbx T a.2.1 ps a.2.2 σ.length)).set s .dead++[l8 a.2.2.length]else(σ.set q (pbx T a.2.1 ps a.2.2 s)).set s (l8 a.2.2.length)) (λa:List Int×Nat×List Ex=>a2x T (z6 T ps f) d n b=some a/\n<a.2.1/\a.2.1 <T.length/\a.2.2.length<=256/\a.1.length<=1000000) σ q s (a2x T (z6 T ps f) d n b=none))
theorem b2q(hc:Z9 T ps)(hE:∀g,g<=f->EC T ps g)(d n:Nat)(b:List Ex)(hn:n<T.length)(hb:b.length<=256)(ca:d<=32)(hf:8*(T.length -n)+6<=f):b8 CC 323 [.ptr 0 0,iv d] (pst T n ps b) (a3A (λa:List Int×Nat×List Ex=>(.list (a.1.map icv) (gnn a.1.length) none)) (λa=>if(!a.1.isEmpty)=true then a6f T a.2.1 ps a.2.2 else pst T a.2.1 ps a.2.2) (λa:List Int×Nat×List Ex=>a2x T (z6 T ps f) d n b=some a/\n<a.2.1/\a.2.1 <T.length/\a.2.2.length<=256/\a.1.length<=1000000) (a2x T (z6 T ps f) d n b=none)):=by
 have hT:=hc.len;have hW:=hc.w;have aj:a2x T (z6 T ps f) d n b=a2x T (z6 T ps f) d n b:=G
 conv at aj=>rhs;unfold a2x
 refine qO Tryz.func323 ?_;refine qD (o5 G a5C m0 (O7 hT hn hW [40] ⟨G,G,n_5 G⟩) G (λx hx=>.inr ⟨x,j3,by rw[aj,hx.1];rfl,hx.2⟩) ?_);rintro n1 ⟨bc,bh⟩;dsimp only at bc bh⊢;rw[bc,n_8]at aj;have e1:=O3 bc;refine qD (c4 G c49 m0 (a1N hT bh hW [41] ⟨G,G,n_5 G⟩) G ?_);rintro⟨ac,n2⟩ ⟨ha,cV,dZ⟩;dsimp only at ha cV dZ⊢;refine qC ?_ ?_<;>intro h1
 .have cK:isT (tk T n1) 4 [41]=true:=by rw[<- ha];simpa using h1
  rw[W cK]at cV aj;refine c6 ?_;exact⟨_,rE1,(by exact .inl ⟨([],n2,b),a0P G (R8 _ [] false),by rw[aj,cV],do_,dZ,hb,by show 0<=1000000;decide⟩)⟩
 .have cK:¬isT (tk T n1) 4 [41]=true:=by rw[<- ha];simpa using h1
  rw[H cK]at cV aj;subst cV;refine B3 hCC 2 G (α:=List Int×Nat×List Ex×Bool×Nat) (λx=>[(0,.ptr 0 0),(1,iv d),(5,(.list (x.1.map icv) (gnn x.1.length) (D6 x.1.length 3)))]) (λx=>[pbx T x.2.1 ps x.2.2.1 (ka x.2.2.2.1),oa1 x.2.2.2.1 x.2.2.1.length,oa2 x.2.2.2.1 x.2.2.1.length,l8 x.1.length]) (λx=>a2x T (z6 T ps f) d n b=(z6 T ps x.2.2.2.2).ag d x.2.1 x.2.2.1 x.1/\x.1.length<=x.2.1/\n<x.2.1/\x.2.1 <T.length/\x.2.2.1.length<=256/\x.2.2.2.2<=f/\8*(T.length -x.2.1)+7<=x.2.2.2.2) (λx=>T.length -x.2.1) ⟨([],n2,b,false,f),[0,1,7,8],⟨aj,n_4 _,do_,dZ,hb,n_6 _,do_⟩,⟨G,G⟩,ut_,uq_⟩ ?_;intro⟨l,m,b2,ph,g⟩ ⟨dh,hlm,dS,hm,bD,hgf,hg⟩;dsimp only at dh hlm dS hm bD hgf hg⊢;obtain⟨g,rfl⟩:∃g',g=g'+1:=⟨g-1,J⟩;have iP:(z6 T ps (g+1)).ag d m b2 l=(F3 T ps (z6 T ps g)).ag d m b2 l:=G;simp only[F3]at iP;rw[iP]at dh;refine qk (u o3 ?_);refine qD (o5 G c0r j2 (hE g J (d+1) m b2 hm bD J J _ 0 (ka ph) b7s) G (λx hx=>.inr ⟨x,j3,by rw[dh,hx.1];rfl,hx.2⟩) ?_);rintro⟨i3,n3,b3⟩ ⟨x3,y3,z3,w3⟩;dsimp only at x3 y3 z3 w3⊢;rw[x3,n_8]at dh;dsimp only at dh;refine qN [pbx T n3 ps b3 4,.dead,.dead,l8 l.length,l8 b3.length] a0c ?_;have eX:=X3 l (i3:Int);refine u (A6 [icv (i3:Int)] G ⟨O,O⟩ t_7 t_1 t_9 G G G G G G G G G) ?_;refine qD (B6 G O O G Q q_3 t_7 t_1 c2M t_9 G (.inr G) q_8 c2K E9 ((l++[(i3:Int)]).map icv) (l++[(i3:Int)]).length Q Q ?_);refine qD (c4 G c49 m0 (a1N hT z3 hW [44] ⟨G,G,n_5 G⟩) G ?_);rintro⟨ac2,m2⟩ ⟨ha2,cc,gh⟩;dsimp only at ha2 cc gh⊢;refine qC ?_ ?_<;>intro h2
  .have fj:¬isT (tk T n3) 4 [44]=true:=by rw[<- ha2];simpa using h2
   rw[H fj]at cc dh;subst cc;refine o6 ?_;refine qD (o5 G a5C m0 (O7 hT gh hW [41] ⟨G,G,n_5 G⟩) G (λx hx=>.inr ⟨x,j3,by rw[dh,hx.1];rfl,hx.2⟩) ?_);rintro m3 ⟨fV,gg⟩;dsimp only at fV gg⊢;have e3:=O3 fV;rw[fV,n_8]at dh;refine c6 ?_;exact⟨_,rE1,(by exact .inl ⟨(l++[(i3:Int)],m3,b3),d9U (k:=4) G G I (λ_=>V4 (f:=icv) (λ_=>⟨.val _,O⟩) _),dh,do_,gg,w3,do_⟩)⟩
  .have fj:isT (tk T n3) 4 [44]=true:=by rw[<- ha2];simpa using h2
   rw[W fj]at cc dh;subst cc;exact⟨(l++[(i3:Int)],n3+1,b3,true,g),[0,1,4,5],⟨do_,dh,do_,do_,gh,w3,do_,do_⟩,⟨G,G⟩,ut_,⟨.inr ⟨_,G,.box ⟨.old a04,.old (.val _),.old H8,a60 G,O⟩⟩,.inl G,.inr ⟨_,G,.same G B0⟩,.inr ⟨_,G,.same G B0⟩,O⟩⟩
theorem b5u(hc:Z9 T ps)(hE:∀g,g<=f->EC T ps g):AC T ps f:=λd n b hn hb hd hf σ q s aw=>
 a40 (c:=λa:List Int×Nat×List Ex=>(.list (a.1.map icv) (gnn a.1.length) none)) (N:=λa=>a.2.1) (B:=λa=>a.2.2) (Z:=λ_=>ps) (g:=λa=>!a.1.isEmpty) (λ_ h=>by simp at h;subst h;exact .val _) (λ_=>N2 _ _) (b2q hc hE d n b hn hb hd hf) aw
theorem a6J{C:Ctx}{af:Array Oper}{qs:List Nat}{Ji:A7->Env->List b9->Prop}{S:List (List b9->Prop)}{l:List (Nat×List Nat)}{fl:List Nat}{E:Env}(τ:List b9)(h:σ=τ)(k:a1t S τ fl/\P8 C af qs Ji S l E τ):a1t S σ fl/\P8 C af qs Ji S l E σ:=h▸k
def kc(ph:Bool):Nat:=if ph=true then 3 else 1
def oc1(ph:Bool)(m:Nat):b9:=if ph=true then .dead else l8 m
def oc2(ph:Bool)(m:Nat):List b9:=if ph=true then [l8 m]else []
theorem b9v(hc:Z9 T ps)(hE:EC T ps f)(hA:AC T ps f)(hU:UC T ps f)(d n:Nat)(b:List Ex)(hn:n<T.length)(hb:b.length<=256)(ca:d<=32)(hf:8*(T.length -n)+1<=f+1):b8 CC 296 [.ptr 0 0,iv d] (pst T n ps b) (a3A (λa:PX=>(iv a.1)) (λa=>a6f T a.2.1 ps a.2.2) (λa:PX=>(z6 T ps (f+1)).fac d n b=some a/\n<a.2.1/\a.2.1 <T.length/\a.2.2.length<=256) ((z6 T ps (f+1)).fac d n b=none)):=by
 have hT:=hc.len;have hW:=hc.w;have aj:(z6 T ps (f+1)).fac d n b=(F3 T ps (z6 T ps f)).fac d n b:=G;simp only[F3]at aj;refine cO Tryz.func296 ?_;refine b9I ?_;refine z_1 ?_;refine ye G c4D ⟨O,O⟩ (a3m hT hn ⟨G,G,n_5 G⟩) G ?_;refine cD (j6 G a2M G i9 ?_);refine cD (i0 G O O G j1 a3F i9 G G (nb G) ?_);refine a2n ?_;refine a1Z ?_;refine z_0 ?_;refine cY c6D ?_;refine cY a0F ?_;refine e0u ?_;refine cC ?_ ?_<;>intro h1
 .have u1:(tk T n).k=2:=U h1;rw[W u1]at aj;have bh:=hW n hn (by rw[u1];decide);refine a2a ?_;refine cY b7u ?_;refine cY a0F ?_;refine b4b ?_;refine cY b7u ?_;refine d2C ?_;refine z_1 ?_;refine cY b6D ?_;refine cY c6D ?_;refine cY a0F ?_;refine cY b0l ?_;refine cD (o5 G b0B D0 (a0f hT bh hb (tk T n) ⟨1,(tk T n).n,0,[],[]⟩ ⟨G,G,n_5 G⟩) G (λx hx=>.inr ⟨x,j3,by rw[aj,K4,hx.1];rfl,hx.2⟩) ?_);rintro⟨i6,b6⟩ ⟨x6,y6⟩;dsimp only at x6 y6⊢;rw[K4,x6,n_8]at aj;exact d6J
 .have u1:¬(tk T n).k=2:=U h1;rw[H u1]at aj;refine z_1 ?_;refine de G c49 m0 (a1N hT hn hW [45] ⟨G,G,n_5 G⟩) G ?_;rintro⟨ac,n2⟩ ⟨ha,cV,dZ⟩;dsimp only at ha cV dZ⊢;refine z_2 ?_;refine cC ?_ ?_<;>intro h2
  .have u2:isT (tk T n) 4 [45]=true:=by rw[<- ha];simpa using h2
   rw[W u2]at cV aj;subst cV;refine F7 ?_;refine cF [] [0,1,2] (tl:=[(3,[0,1]),(4,[0,1]),(5,[0,1]),(6,[0,1]),(7,[]),(8,[])]) ?_;refine chf G O0 ?_;refine chf G (c7 G b6D) ?_;refine b3e ?_;refine B1 G G G (o5 G c81 m0 (a6T hT dZ hW 2 ⟨G,G,n_5 G⟩) G (λx hx _=>.inr ⟨x,j3,by rw[aj,hx.1];rfl,hx.2⟩) ?_);rintro⟨p,n3⟩ ⟨s2,k2⟩;dsimp only at s2 k2⊢;rw[s2,n_8]at aj;dsimp only at aj;have e2:=a4u s2 I;have hpn:=hc.nn (n+1);rw[<- a4P s2]at hpn;have ew: -p.n=IntKind.i64.wrap (0-p.n):=by rw[a5B J J];omega
   rw[ew]at aj;refine⟨⟨C3,b3C,O⟩,?_⟩;refine C7 G G (c7 G a34) ⟨⟨C3,b3C,O⟩,?_⟩;refine C7 G G (c7 G (c3S G O G)) ⟨⟨C3,b3C,O⟩,?_⟩;refine C7 G G (c7 G b0l) ⟨⟨C3,b3C,O⟩,?_⟩;refine B1 G G G (o5 G b0B D0 (a0f hT k2 hb (tk T n) ⟨1,IntKind.i64.wrap (0-p.n),0,[],[]⟩ ⟨G,G,n_5 G⟩) G (λx hx _=>.inr ⟨x,j3,by rw[aj,K4,hx.1];rfl,hx.2⟩) ?_);rintro⟨i6,b6⟩ ⟨x6,y6⟩;dsimp only at x6 y6⊢;rw[K4,x6,n_8]at aj;refine⟨O,?_⟩;refine a5x ?_;refine c6 ?_;exact⟨_,rE1,(by exact .inl ⟨(i6,n3,b6),Y7 G G (nb G) (.val _),aj,do_,k2,y6⟩)⟩
  .have u2:¬isT (tk T n) 4 [45]=true:=by rw[<- ha];simpa using h2
   rw[H u2]at cV aj;replace cV:=cV.symm;subst cV;refine z_1 ?_;refine de G c49 m0 (a1N hT hn hW [40] ⟨G,G,n_5 G⟩) G ?_;rintro⟨ac3,n3⟩ ⟨ha3,gZ,hn3l⟩;dsimp only at ha3 gZ hn3l⊢;refine z_2 ?_;refine cC ?_ ?_<;>intro h3
   .have u3:isT (tk T n) 4 [40]=true:=by rw[<- ha3];simpa using h3
    rw[W u3]at gZ aj;subst gZ;refine a4b ?_;refine cY o3 ?_;refine cD (o5 G c0r j2 (hE (d+1) (n+1) b hn3l hb J J _ 0 1 ⟨G,G,n_5 G⟩) G (λx hx=>.inr ⟨x,j3,by rw[aj,hx.1];rfl,hx.2⟩) ?_);rintro⟨i4,n4,b4⟩ ⟨x4,y4,z4,w4⟩;dsimp only at x4 y4 z4 w4⊢;rw[x4,n_8]at aj;dsimp only at aj;refine A1 [pbx T n4 ps b4 3,.dead,.box (tk T n).cells,l8 b4.length] G ?_;refine z_2 ?_;refine z_1 ?_;refine cD (o5 G a5C m0 (O7 hT z4 hW [41] ⟨G,G,n_5 G⟩) G (λx hx=>.inr ⟨x,j3,by rw[aj,hx.1];rfl,hx.2⟩) ?_);rintro n5 ⟨s5,k5⟩;dsimp only at s5 k5⊢;rw[s5,n_8]at aj;have e5:=O3 s5;refine o7 ?_;refine b0O ?_;exact⟨_,rE1,(by exact .inl ⟨(i4,n5,b4),Y7 G G (nb G) (.val _),aj,do_,k5,w4⟩)⟩
   .have u3:¬isT (tk T n) 4 [40]=true:=by rw[<- ha3];simpa using h3
    rw[H u3]at gZ aj;replace gZ:=gZ.symm;subst gZ;refine z_0 ?_;refine cY c6D ?_;refine cY a0F ?_;refine e0u ?_;refine cC ?_ ?_<;>intro h4
    .have u4:(tk T n).k≠1:=U h4;rw[W u4]at aj;refine C4 ?_;exact d9L
    .have u4:(tk T n).k=1:=U h4;rw[H (λh=>h u4)]at aj;have bh:=hW n hn (by rw[u4];decide);refine A8 ?_;refine a2a ?_;refine cY b7u ?_;refine cY a0F ?_;refine b4b ?_;refine cY b7u ?_;refine cD (i0 G O O G j1 t_1 (.inl G) G G (nb G) ?_);refine a2n ?_;refine z_0 ?_;refine cY b8Z ?_;refine cY W7 ?_;refine d2O ?_;refine F7 ?_;refine z_0 ?_;refine cY O5 ?_;refine z_2 ?_;refine cC ?_ ?_<;>intro h5
     .have u5:(tk T n).t=[114,101,97,100]:=U h5;have uu:(tk T n).t=[114,101,97,100]\/(tk T n).t=[115,105,122,101]\/(tk T n).t=[104,97,115]\/(tk T n).t=[101,110,118]\/(tk T n).t=[102,108,105,112]:=.inl u5;rw[W uu]at aj;refine A8 ?_;refine cC ?_ ?_<;>intro h6
      .refine b3R ?_;refine cD (o5 G c6U D0 (hU (tk T n) d (n+1) b bh hb ca J _ 0 1 ⟨G,G,n_5 G⟩) G (λx hx=>.inr ⟨x,j3,by rw[aj];exact hx.1,hx.2⟩) ?_);rintro⟨i,m,b2⟩ ⟨g1,g2,g3,g4⟩;dsimp only at g1 g2 g3 g4⊢;exact b64
      .exact absurd u5 (U h6)
     .have u5:¬(tk T n).t=[114,101,97,100]:=U h5;refine z_0 ?_;refine cY O5 ?_;refine z_2 ?_;refine cC ?_ ?_<;>intro h7
      .have u7:(tk T n).t=[115,105,122,101]:=U h7;have uu:(tk T n).t=[114,101,97,100]\/(tk T n).t=[115,105,122,101]\/(tk T n).t=[104,97,115]\/(tk T n).t=[101,110,118]\/(tk T n).t=[102,108,105,112]:=.inr (.inl u7);rw[W uu]at aj;refine A8 ?_;refine cC ?_ ?_<;>intro h8
       .refine b3R ?_;refine cD (o5 G c6U D0 (hU (tk T n) d (n+1) b bh hb ca J _ 0 1 ⟨G,G,n_5 G⟩) G (λx hx=>.inr ⟨x,j3,by rw[aj];exact hx.1,hx.2⟩) ?_);rintro⟨i,m,b2⟩ ⟨g1,g2,g3,g4⟩;dsimp only at g1 g2 g3 g4⊢;exact b64
       .exact absurd u7 (U h8)
      .have u7:¬(tk T n).t=[115,105,122,101]:=U h7;refine z_0 ?_;refine cY O5 ?_;refine z_2 ?_;refine cC ?_ ?_<;>intro h9
       .have u9:(tk T n).t=[104,97,115]:=U h9;have uu:(tk T n).t=[114,101,97,100]\/(tk T n).t=[115,105,122,101]\/(tk T n).t=[104,97,115]\/(tk T n).t=[101,110,118]\/(tk T n).t=[102,108,105,112]:=.inr (.inr (.inl u9));rw[W uu]at aj;refine A8 ?_;refine cC ?_ ?_<;>intro bL
        .refine b3R ?_;refine cD (o5 G c6U D0 (hU (tk T n) d (n+1) b bh hb ca J _ 0 1 ⟨G,G,n_5 G⟩) G (λx hx=>.inr ⟨x,j3,by rw[aj];exact hx.1,hx.2⟩) ?_);rintro⟨i,m,b2⟩ ⟨g1,g2,g3,g4⟩;dsimp only at g1 g2 g3 g4⊢;exact b64
        .exact absurd u9 (U bL)
       .have u9:¬(tk T n).t=[104,97,115]:=U h9;refine z_0 ?_;refine cY O5 ?_;refine z_2 ?_;refine cC ?_ ?_<;>intro eY
        .have u11:(tk T n).t=[101,110,118]:=U eY;have uu:(tk T n).t=[114,101,97,100]\/(tk T n).t=[115,105,122,101]\/(tk T n).t=[104,97,115]\/(tk T n).t=[101,110,118]\/(tk T n).t=[102,108,105,112]:=.inr (.inr (.inr (.inl u11)));rw[W uu]at aj;refine A8 ?_;refine cC ?_ ?_<;>intro fo
         .refine b3R ?_;refine cD (o5 G c6U D0 (hU (tk T n) d (n+1) b bh hb ca J _ 0 1 ⟨G,G,n_5 G⟩) G (λx hx=>.inr ⟨x,j3,by rw[aj];exact hx.1,hx.2⟩) ?_);rintro⟨i,m,b2⟩ ⟨g1,g2,g3,g4⟩;dsimp only at g1 g2 g3 g4⊢;exact b64
         .exact absurd u11 (U fo)
        .have u11:¬(tk T n).t=[101,110,118]:=U eY;refine C4 ?_;refine cY O5 ?_;refine z_2 ?_;refine cC ?_ ?_<;>intro dR
         .have u13:(tk T n).t=[102,108,105,112]:=U dR;have uu:(tk T n).t=[114,101,97,100]\/(tk T n).t=[115,105,122,101]\/(tk T n).t=[104,97,115]\/(tk T n).t=[101,110,118]\/(tk T n).t=[102,108,105,112]:=.inr (.inr (.inr (.inr (u13))));rw[W uu]at aj;refine b3R ?_;refine cD (o5 G c6U D0 (hU (tk T n) d (n+1) b bh hb ca J _ 0 1 ⟨G,G,n_5 G⟩) G (λx hx=>.inr ⟨x,j3,by rw[aj];exact hx.1,hx.2⟩) ?_);rintro⟨i,m,b2⟩ ⟨g1,g2,g3,g4⟩;dsimp only at g1 g2 g3 g4⊢;exact b64
         .have h13':¬(tk T n).t=[102,108,105,112]:=U dR;have un:¬((tk T n).t=[114,101,97,100]\/(tk T n).t=[115,105,122,101]\/(tk T n).t=[104,97,115]\/(tk T n).t=[101,110,118]\/(tk T n).t=[102,108,105,112]):=λhh=>by rcases hh with h|h|h|h|h;exact u5 h;exact u7 h;exact u9 h;exact u11 h;exact h13' h
          rw[H un]at aj;refine a5M ?_;refine z_0 ?_;refine cY b8Z ?_;refine cY W7 ?_;refine yc G Tryz.call196 ⟨O,O⟩ (a5S (tk T n).t _) ?_;refine o7 ?_;refine cC ?_ ?_<;>intro ie
          .have u14:T0 (tk T n).t=true:=U ie;rw[W u14]at aj;refine C4 ?_;exact d9L
          .have u14:¬T0 (tk T n).t=true:=U ie;rw[H u14]at aj;refine a5M ?_;refine z_1 ?_;refine ye G c5o a3S (b2F hT bh 4 [40] ⟨G,G,n_5 G⟩) G ?_;refine o7 ?_;refine cC ?_ ?_<;>intro h15
           .have u15:isT (tk T (n+1)) 4 [40]=true:=U h15;rw[W u15]at aj;refine F7 ?_;refine cF [] [0,1,2,3,4,5] (tl:=[(6,[0,1,2,3]),(7,[0,1]),(8,[]),(9,[])]) ?_;refine chf G O0 ?_;refine chf G (c7 G b6D) ?_;refine chf G (c7 G b8Z) ?_;refine chf G a88 ?_;refine a9F ?_;refine F2 ?_;refine B1 G G G (o5 G Tryz.call323 j2 (hA d (n+1) b bh hb ca J _ 0 1 ⟨G,G,n_5 G⟩) G (λx hx _=>.inr ⟨x,j3,by rw[aj,hx.1];rfl,hx.2⟩) ?_);rintro⟨l,m,b2⟩ ⟨g1,g2,g3,g4,_⟩;dsimp only at g1 g2 g3 g4⊢;rw[g1,n_8]at aj;dsimp only at aj;generalize (!l.isEmpty)=ph;refine a6J ([pbx T m ps b2 (kc ph),oc1 ph b2.length,.box (tk T n).cells]++oc2 ph b2.length) a0c ?_;refine⟨⟨C3,b3C,(by exact c7 G b8Z),a27,O⟩,?_⟩;refine C7 G G (c7 G c5a) ⟨⟨C3,b3C,O⟩,?_⟩;refine B1 G G G (o5 G b0B D0 (a0f hT g3 g4 (tk T n) ⟨3,0,0,(tk T n).t,l⟩ (q:=0) (s:=kc ph) b7s) G (λx hx _=>.inr ⟨x,j3,by rw[aj,K4,hx.1];rfl,hx.2⟩) ?_);rintro⟨i6,b6⟩ ⟨x6,y6⟩;dsimp only at x6 y6⊢;rw[K4,x6,n_8]at aj;refine⟨O,?_⟩;refine a5x ?_;refine c6 ?_;exact⟨_,rE1,(by exact .inl ⟨(i6,m,b6),(by cases ph;exact Y7 (k:=3) G G I (.val _);exact Y7 (k:=4) G G I (.val _)),aj,do_,g3,y6⟩)⟩
           .have u15:¬isT (tk T (n+1)) 4 [40]=true:=U h15;rw[H u15]at aj;refine a5M ?_;refine cW 8 ?_;refine a2S ?_;refine hY (i7 G O G c4K G a2Q I) ?_;refine hY c12 ?_;refine hY b8Z ?_;refine hY W7 ?_;refine hY (c5 G Tryz.call197 j2 (a9s ps (gnn ps.length) (tk T n).t (by have:=hc.ps;omega) _) G) ?_;refine hY a07 ?_;refine a2K ?_;refine a2n ?_;refine a8D ?_;refine cC ?_ ?_<;>intro h16
            .have u16:ixS ps (tk T n).t 0<0:=U h16;rw[W u16]at aj;refine C4 ?_;exact d9L
            .have u16:¬ixS ps (tk T n).t 0<0:=U h16;rw[H u16]at aj;refine A8 ?_;refine b3R ?_;refine cY b0l ?_;refine cD (o5 G b0B D0 (a0f hT bh hb (tk T n) ⟨2,ixS ps (tk T n).t 0,0,[],[]⟩ ⟨G,G,n_5 G⟩) G (λx hx=>.inr ⟨x,j3,by rw[aj,K4,hx.1];rfl,hx.2⟩) ?_);rintro⟨i6,b6⟩ ⟨x6,y6⟩;dsimp only at x6 y6⊢;rw[K4,x6,n_8]at aj;exact d6J
theorem c44(hc:Z9 T ps)(hE:EC T ps f)(hA:AC T ps f)(hU:UC T ps f):FC T ps (f+1):=λd n b hn hb hd hf σ q s aw=>
 a3c (c:=λa:PX=>(iv a.1)) (N:=λa=>a.2.1) (B:=λa=>a.2.2) (λ_ h=>by simp at h;subst h;exact .val _) (λ_=>.val _) (b9v hc hE hA hU d n b hn hb hd hf) aw
theorem d0t{T:List Tok}{ps:List D}(hc:Z9 T ps):∀f,(∀g,g<=f->EC T ps g)/\(∀g,g<=f->BC T ps g)/\(∀g,g<=f->FC T ps g)
 |0=>by
  refine⟨λg hg d n b hn _ _ hf=>?_,λg hg lv d n b hn _ _ h4 _ hf=>?_,λg hg d n b hn _ _ hf=>?_⟩<;>exfalso<;>omega
 |f+1=>by
  obtain⟨hE,hB,hF⟩:=d0t hc f;have e1:=d4W hc (hE f (n_6 _)) (hB f (n_6 _));have b1:=c4M hc hB (hF f (n_6 _));have f1:=c44 hc (hE f (n_6 _)) (b5u hc hE) (b9L hc (hE f (n_6 _)));have up:∀{P:Nat->Prop},(∀g,g<=f->P g)->P (f+1)->∀g,g<=f+1->P g:=λ{P} h h1 g hg=>by
   rcases a3d f g with ai|aL
   .rw [show g=f+1 by omega];exact h1
   .exact h g aL
  exact⟨up hE e1,up hB b1,up hF f1⟩
def ixP{α:Type}(p:α->Bool):List α->Nat->Int
 | [],_=>-1
 |y::l,i=>if p y=true then i else ixP p l (i+1)
theorem a6G{y:α}(h:l[i]?=some y)(p:α->Bool):ixP p (l.drop i) i=if p y=true then(i:Int)else ixP p (l.drop (i+1)) (i+1):=by
 obtain⟨ai,he⟩:=n_2.1 h;rw[a0v ai,he];rfl
theorem a92{α:Type}(p:α->Bool):∀(l:List α) (i:Nat),decide (0<=ixP p l i)=l.any p
 | [],_=>rfl
 |y::l,i=>by
  rw[ixP,List.any_cons];cases hp:p y with
  |true=>simp
  |false=>simpa using a92 p l (i+1)
theorem b5d{g:FuncId}{caps:List CV}{p:De->Bool}(l:List De)(nn:Bool)(hl:l.length<=1000000)(hg:∀args w,(callFunc g args).run CC.P w= .ok (.enter g args) w)(Jg:∀x∈l,b8 CC g ([.agg x.cells]++caps) σ λr ae=>r= .ret (.val (.bool (p x)))/\ae=σ):b8 CC 251 [(.list (l.map De.cv) nn none),.clo g caps] σ λr ae=>r= .ret (iv (ixP p l 0))/\ae=σ:=by
 refine qO Tryz.func251 ?_;refine u b11 ?_;refine L6 (α:=Nat) (λi=>[(0,(.list (l.map De.cv) nn none)),(1,(.clo g caps)),(7,iv l.length),(8,iv i)]) (λ_=>σ) (λi=>i<=l.length/\ixP p l 0=ixP p (l.drop i) i) (λi=>l.length -i) 0 ⟨n_4 _,G⟩ tu_ G ?_;intro i E0 ⟨hi,hr⟩;refine qk (qC ?_ ?_)<;> intro h1
 .have ai:(i:Int)<l.length:=U h1;obtain⟨y,hb⟩:=gx_ l i;rw[a6G hb]at hr;refine u (A4 G O O G G a8m a4c J (j8 hb) G) ?_;refine u c8p ?_;refine qC ?_ ?_<;>intro h2
  .have hx:p y=true:=U h2;rw[W hx]at hr;exact d8r
  .have hx:¬p y=true:=U h2;rw[H hx]at hr;exact d7O
 .have aL:i=l.length:=by
   have:¬(i:Int)<l.length:=U h1;omega
  refine V5 ?_;exact⟨_,rE1,c6s⟩
theorem a9I{g:FuncId}{caps:List CV}{p:De->Bool}(l:List De)(nn:Bool)(hl:l.length<=1000000)(hg:∀args w,(callFunc g args).run CC.P w= .ok (.enter g args) w)(Jg:∀x∈l,b8 CC g ([.agg x.cells]++caps) σ λr ae=>r= .ret (.val (.bool (p x)))/\ae=σ):b8 CC 199 [(.list (l.map De.cv) nn none),.clo g caps] σ λr ae=>r= .ret (.val (.bool (l.any p)))/\ae=σ:=by
 refine qO Tryz.func199 ?_;refine u (c5 G Tryz.call251 j2 (b5d l nn hl hg Jg) G) ?_;exact d7A
theorem K6{σ:List α}{x:α}(h:σ[q]?=some x)(l:List α):(σ++l)[q]?=some x:=by
 rw[T6 (n_2.1 h).1];exact h
theorem a00(σ:List α)(x:α):(σ++[x])[σ.length]?=some x:=by simp
theorem c9A(x:De)(t:Tok)(kd:Int){s:Nat}(hq:σ[q]?=some (.box [iv kd]))(hs:σ[s]?=some (.box t.cells)):b8 CC 200 ([.agg x.cells]++[.ptr q 0,.ptr s 0]) σ λr ae=>r= .ret (.val (.bool ((x.k == kd)&&decide (x.name=t.t))))/\ae=σ:=by
 refine c9 (cO Tryz.func200 ?_);refine a59 ?_;refine b9H ?_;refine z_0 ?_;refine cY c2g ?_;refine cY e1g ?_;refine cY e1g ?_;refine cY b16 ?_;refine cY A2 ?_;refine cG c22 ?_;refine cG e1v ?_;refine cG b6V ?_;refine cG e1v ?_;refine cG b3M ?_;refine cY Q8 ?_;exact c60
def dkL:List (D×Int):=G6 (G6 (G6 [] [102,117,110,99] 1) [116,101,115,116] 2) [103,101,110] 3
def E7(s:D):Int:=(glk dkL s).getD 0
def c8a(T:List Tok)(ps:List D)(d n:Nat):Option PX:=(z6 T ps (8*T.length+6)).ex d n []
def a3e(T:List Tok)(kd:Int)(n:Nat):Option (Tok×Nat):=if kd=3 then a0E T n else I7 T n
def a20(T:List Tok)(kd:Int)(n:Nat):Option (List D×Nat):=if kd=1 then K2 T n else some ([],n)
def a0J(T:List Tok)(bs:List De)(n:Nat):Option (De×Nat):=
 if(tk T n).k≠1\/E7 (tk T n).t=0 then none else if bs.length=64 then none else
 (a3e T (E7 (tk T n).t) (n+1)).bind λx=>if(bs.any λd=>(d.k == E7 (tk T n).t)&&decide (d.name=x.1.t))=true then none else
 (a20 T (E7 (tk T n).t) x.2).bind λq=>(pIs T q.2 4 [61]).bind λm=>(c8a T q.1 1 m).bind λy=>(pIs T y.2.1 4 [59]).bind λm2=>some (⟨E7 (tk T n).t,x.1.t,q.1,y.2.2⟩,m2)
theorem b2N{f:FuncId}{c:α->CV}{Z:α->List D}{n:Nat}{b:List Ex}(ap:∀a∈args,o8 a)(hc:∀a,o8 (c a))
 (h:b8 CC f (.ptr 0 0::args) (pst T n ps b) (a3A c (λa=>a6f T (N a) (Z a) (B a)) P bad)){σ:List b9}{q s:Nat}(aw:PAt σ q s T n ps b):
 b8 CC f (.ptr q 0::args) σ (a37 c (λa=>(σ.set q (pbx T (N a) (Z a) (B a) σ.length)).set s .dead++[l8 (B a).length]) P σ q s bad):=by
 refine(a40 (c:=c) (N:=N) (B:=B) (Z:=Z) (g:=λ_=>true) (P:=P) (bad:=bad) ap hc (h.mono λr τ hh=>?_) aw).mono λr τ hh=>?_
 .rcases hh with⟨a,h1,h2⟩|h
  .exact .inl ⟨a,h1,h2⟩
  .exact .inr h
 .rcases hh with⟨a,h1,h2,h3⟩|h
  .exact .inl ⟨a,h1,h2,h3⟩
  .exact .inr h
theorem b7K{kd:Int}{n:Nat}(h:a3e T kd n=some (t,m)):m=n+1:=by
 unfold a3e at h;split at h
 .exact a7G h
 .exact b1y h
theorem b80{T:List Tok}:∀(f n:Nat) (l l':List D) (m:Nat),a2z f T n l=some (l',m)->n<m
 |0,n,l,l',m,h=>by cases h
 |f+1,n,l,l',m,h=>by
  rw[a2z]at h;cases hn:I7 T n with
  |none=>rw[hn]at h;cases h
  |some x=>
   rw[hn,n_8]at h;have e:=b1y (t:=x.1) hn;split at h
   .cases h
   .split at h
    .cases h
    .split at h
     .have:=b80 f _ _ _ _ h;omega
     .cases hi:pIs T x.2 4 [41]with
      |none=>rw[hi]at h;cases h
      |some y=>
       rw[hi,n_8]at h;injection h with h
       injection h with _ h
       have:=O3 hi;omega
theorem b92{n:Nat}{l:List D}(h:K2 T n=some (l,m)):n<m:=by
 unfold K2 at h;cases hi:pIs T n 4 [40]with
 |none=>rw[hi]at h;cases h
 |some y=>
  rw[hi,n_8]at h;have:=O3 hi;split at h
  .injection h with h
   injection h with _ h
   omega
  .have:=b80 _ _ _ _ _ h;omega
theorem b68{kd:Int}{n:Nat}{l:List D}(h:a20 T kd n=some (l,m)):n<=m:=by
 unfold a20 at h;split at h
 .exact Nat.le_of_lt (b92 h)
 .injection h with h
  injection h with _ h
  omega
theorem b93(k:Int)(nm:D)(ps:List D)(b:List Ex)(tok:Option Nat):B5 L am (.agg [iv k,sv nm,.list (ps.map scv) (gnn ps.length) none,.list (b.map Ex.cv) (gnn b.length) tok]) (.agg (⟨k,nm,ps,b⟩:De).cells):=
 .agg G λi c c' h h'=>by
  rcases i with _|_|_|_|i
  .injection h with h;injection h' with h';subst h h';exact .old (.val _)
  .injection h with h;injection h' with h';subst h h';exact .old (.val _)
  .injection h with h;injection h' with h';subst h h';exact .old H8
  .injection h with h;injection h' with h';subst h h';exact V4 (f:=Ex.cv) Ex.pure _
  .cases h
theorem a3s(n:Nat):c99 n (⟨0,[],[],[]⟩:De).cells:=⟨.val _,.val _,B9 _ _ _,N4 _ _ _,O⟩
theorem d1t(hc:Z9 T ps)(bs:List De)(gP:bs.length<=64)(n:Nat)(b:List Ex)(hn:n<T.length)(_:b.length<=256):b8 CC 162 [.ptr 0 0,(.list (bs.map De.cv) (gnn bs.length) none)] (pst T n ps b) (a3A (λa:De×Nat=>(.agg a.1.cells)) (λa=>a6f T a.2 a.1.params a.1.body) (λa:De×Nat=>a0J T bs n=some a/\n<a.2/\a.2 <T.length/\a.1.params.length<=8/\a.1.body.length<=256) (a0J T bs n=none)):=by
 have hT:=hc.len;have hW:=hc.w;have aj:a0J T bs n=a0J T bs n:=G
 conv at aj=>rhs;unfold a0J
 refine cO Tryz.func162 ?_;refine a7V ?_;refine a2t [pbx T n ps b 1,l8 b.length,.dead] G ?_;refine qs 7 (qD (j6 G b5J G i9 ?_));refine qD (S8 G ?_);refine qD (p9 (vc:=kv) (l:=[]) (a:=[102,117,110,99]) (b:=1) b9Q (.inr G) O G G G G G c1B G ?_);refine qD (p9 (vc:=kv) (l:=G6 [] [102,117,110,99] 1) (a:=[116,101,115,116]) (b:=2) b9Q (.inr G) O G G G G G c1B G ?_);refine qD (p9 (vc:=kv) (l:=G6 (G6 [] [102,117,110,99] 1) [116,101,115,116] 2) (a:=[103,101,110]) (b:=3) b9Q (.inr G) O G G G G G c1B G ?_);refine u d7D ?_;refine z_3 ?_;refine u (U2 (vc:=kv) (l:=dkL) (a:=(tk T n).t) b9Q G O O G G c1B t_9 G G (b4q _ _)) ?_;refine qD (j6 G t_9 G (.inl G) ?_);refine qD (i0 G O O G j1 t_1 (.inl G) G G (nb G) ?_);refine qG (λhg=>l9 G O G a5v G G) ?_;refine a5A ?_;refine qC ?_ ?_<;>intro h1
 .have u1:(tk T n).k≠1\/(E7 (tk T n).t)=0:=by simpa[E7]using h1
  rw[W u1]at aj;exact a2J G G (N5 G a4Z m0 (N7 _ _ _) G (λ_ _=>.inr ⟨(_,_),j3,aj,Q⟩))
 .have u1:¬((tk T n).k≠1\/(E7 (tk T n).t)=0):=by simpa[E7]using h1
  rw[H u1]at aj;have bh:=hW n hn (λh5=>u1 (.inl (by rw[h5];decide)));refine u b11 ?_;refine qC ?_ ?_<;>intro h2
  .have u2:bs.length=64:=sm_ h2;rw[W u2]at aj;exact a2J G G (N5 G a4Z m0 (N7 _ _ _) G (λ_ _=>.inr ⟨(_,_),j3,aj,Q⟩))
  .have u2:¬bs.length=64:=sm_ h2;rw[H u2]at aj;refine z_6 ?_;refine b0b hCC 7 G (α:=Tok×Nat) (λ_=>[(0,.ptr 0 0),(1,(.list (bs.map De.cv) (gnn bs.length) none)),(4,.ptr 3 0),(6,.ptr 5 0),(7,.ptr 6 0)]) (λx=>[pbx T x.2 ps b 1,l8 b.length,.dead,.box (⟨0,[],[],[]⟩:De).cells,.dead,.box x.1.cells,.box [(iv (E7 (tk T n).t))]]) (λx=>a3e T (E7 (tk T n).t) (n+1)=some x/\x.2 <T.length) ?_ ?_
   .
    refine qk (qC ?_ ?_)<;> intro h3
    .have u3:(E7 (tk T n).t)=3:=by simpa[E7]using h3
     have hh:∀m,a3e T (E7 (tk T n).t) m=a0E T m:=λm=>W u3;rw[hh]at aj;refine qD (o5 G c3b ⟨O,O⟩ (a90 hT bh hW hc.l ⟨G,G,n_5 G⟩) G (λx hx=>.inr ⟨x,j3,by rw[aj,hx.1];rfl,hx.2⟩) ?_);rintro⟨x,n2⟩ ⟨g1,g2⟩;dsimp only at g1 g2⊢;refine qD (i0 G O O G j1 a3F i9 G G (nb G) ?_);exact⟨(x,n2),[0,1,2,3,4,5,6],⟨by rw[hh];exact g1,g2⟩,⟨G,G⟩,ut_,uq_⟩
    .have u3:¬(E7 (tk T n).t)=3:=by simpa[E7]using h3
     have hh:∀m,a3e T (E7 (tk T n).t) m=I7 T m:=λm=>H u3;rw[hh]at aj;refine qD (o5 G c29 ⟨O,O⟩ (a9X hT bh hW ⟨G,G,n_5 G⟩) G (λx hx=>.inr ⟨x,j3,by rw[aj,hx.1];rfl,hx.2⟩) ?_);rintro⟨x,n2⟩ ⟨g1,g2⟩;dsimp only at g1 g2⊢;refine qD (i0 G O O G j1 a3F i9 G G (nb G) ?_);exact⟨(x,n2),[0,1,2,3,4,5,6],⟨by rw[hh];exact g1,g2⟩,⟨G,G⟩,ut_,uq_⟩
   .intro ⟨x,n2⟩ ⟨g1,g2⟩;dsimp only at g1 g2⊢;have e2:=b7K g1;rw[g1,n_8]at aj;dsimp only at aj;refine qs 2 (u (a3f G j2) ?_);refine u (c5 G Tryz.call199 j2 (a9I bs _ J Tryz.call200 (λy _=>c9A y x (E7 (tk T n).t) (q:=6) (s:=5) G G)) G) ?_;refine qC ?_ ?_<;>intro h4
    .have u4:(bs.any λd=>(d.k ==(E7 (tk T n).t))&&decide (d.name=x.t))=true:=h4;rw[W u4]at aj;exact a2J G G (N5 G a4Z m0 (N7 _ _ _) G (λ_ _=>.inr ⟨(_,_),j3,aj,Q⟩))
    .have u4:¬(bs.any λd=>(d.k ==(E7 (tk T n).t))&&decide (d.name=x.t))=true:=by rw[h4];decide
     rw[H u4]at aj;refine u (z8 #[(0,1),(1,1),(2,1),(3,1)] G j2 b2k b5J G ⟨_,G⟩ (λw=>by kernel_rfl) G G) ?_;refine d5F ?_;refine b0b hCC 8 G (α:=List D×Nat) (λ_=>[(0,.ptr 0 0),(4,.ptr 3 0),(8,.ptr 7 0)]) (λq=>[pbx T q.2 ps b 1,l8 b.length,.dead,.box (⟨0,[],[],[]⟩:De).cells,.dead,.dead,.dead,.box (⟨(E7 (tk T n).t),x.t,q.1,[]⟩:De).cells]) (λq=>a20 T (E7 (tk T n).t) n2=some q/\q.2 <T.length/\q.1.length<=8) ?_ ?_
     .
      refine qk (qC ?_ ?_)<;> intro h5
      .have u5:(E7 (tk T n).t)=1:=by simpa[E7]using h5
       have hq:∀m,a20 T (E7 (tk T n).t) m=K2 T m:=λm=>W u5;rw[hq]at aj;refine qD (o5 G Tryz.call201 ⟨O,O⟩ (b2o hT g2 hW ⟨G,G,n_5 G⟩) G (λx hx=>.inr ⟨x,j3,by rw[aj,hx.1];rfl,hx.2⟩) ?_);rintro⟨pl,n3⟩ ⟨k1,k2,k3⟩;dsimp only at k1 k2 k3⊢;refine qD (i0 G O O G j1 a2Q (.inl G) G G (nb G) ?_);exact⟨(pl,n3),[0,1,2,3,4,5,6,7],⟨by rw[hq];exact k1,k2,k3⟩,⟨G,G⟩,ut_,uq_⟩
      .have u5:¬(E7 (tk T n).t)=1:=by simpa[E7]using h5
       have hq:∀m,a20 T (E7 (tk T n).t) m=some ([],m):=λm=>H u5;exact⟨([],n2),[0,1,2,3,4,5,6,7],⟨hq n2,g2,n_4 _⟩,⟨G,G⟩,ut_,uq_⟩
     .intro ⟨pl,n3⟩ ⟨k1,k2,k3⟩;dsimp only at k1 k2 k3⊢;have e3:=b68 k1;rw[k1,n_8]at aj;dsimp only at aj;refine qk (qD (o5 G a5C m0 (O7 hT k2 hW [61] ⟨G,G,n_5 G⟩) G (λx hx=>.inr ⟨x,j3,by rw[aj,hx.1];rfl,hx.2⟩) ?_));rintro n4 ⟨s4,k4⟩;dsimp only at s4 k4⊢;have e4:=O3 s4;rw[s4,n_8]at aj;have bA:Z9 T pl:=⟨hT,hW,hc.l,J,hc.nn⟩;refine qD (i0 G O O G j1 a2Q (.inl G) G G (nb G) ?_);refine qD (i0 G O G G j1 b2D (.inl G) G G (nb G) ?_);refine qD (o5 G c0r m0 ((d0t bA (8*T.length+6)).1 _ (n_6 _) 1 n4 [] k4 (n_4 _) I J _ 0 2 ⟨G,G,n_5 G⟩) G (λx hx=>.inr ⟨x,j3,by rw[aj,c8a,hx.1];rfl,hx.2⟩) ?_);rintro⟨i5,n5,b5⟩ ⟨x5,y5,z5,w5⟩;dsimp only at x5 y5 z5 w5⊢;rw[c8a,x5,n_8]at aj;dsimp only at aj;refine qN [pbx T n5 pl b5 8,l8 b.length,.dead,.box (⟨0,[],[],[]⟩:De).cells,.dead,.dead,.dead,.box (⟨(E7 (tk T n).t),x.t,pl,[]⟩:De).cells,l8 b5.length] G (qD (i0 G O O G j1 b2D (.inl G) G G (nb G) ?_));refine qD (o5 G a5C m0 (O7 hT z5 hW [59] (q:=0) (s:=8) ⟨G,G,n_5 G⟩) G (λx hx=>.inr ⟨x,j3,by rw[aj,hx.1];rfl,hx.2⟩) ?_);rintro n6 ⟨s6,k6⟩;dsimp only at s6 k6⊢;have e6:=O3 s6;rw[s6,n_8]at aj;refine qD (i0 G O O G j1 a4c i9 G G (nb G) ?_);refine c6 ?_;exact⟨_,B7 G c8b,(by exact .inl ⟨(⟨(E7 (tk T n).t),x.t,pl,b5⟩,n6),b49 (k:=8) G G I (λ_=>b93 _ _ _ _ _),aj,do_,k6,k3,w5⟩)⟩
theorem d3y(hc:Z9 T ps)(bs:List De)(gP:bs.length<=64){n:Nat}{b:List Ex}(hn:n<T.length)(hb:b.length<=256){s:Nat}(aw:PAt σ q s T n ps b):b8 CC 162 [.ptr q 0,(.list (bs.map De.cv) (gnn bs.length) none)] σ (a37 (λa:De×Nat=>(.agg a.1.cells)) (λa=>(σ.set q (pbx T a.2 a.1.params a.1.body σ.length)).set s .dead++[l8 a.1.body.length]) (λa:De×Nat=>a0J T bs n=some a/\n<a.2/\a.2 <T.length/\a.1.params.length<=8/\a.1.body.length<=256) σ q s (a0J T bs n=none)):=
 b2N (c:=(λa:De×Nat=>(.agg a.1.cells))) (N:=λa=>a.2) (Z:=λa=>a.1.params) (B:=λa=>a.1.body) (λ_ h=>by simp at h;subst h;exact a4B _ _) (λa=>j5 a.1.pure) (d1t hc bs gP n b hn hb) aw
def a1v:Nat->List Tok->D->Nat->List D->Option (List D×Nat)
 |0,_,_,_,_=>none
 |f+1,T,pkg,n,l=>if isT (tk T n) 1 [105,109,112,111,114,116]=true then(if l.length=8 then none else(I7 T (n+1)).bind λx=>if x.1.t=pkg\/x.1.t∈l then none else(pIs T x.2 4 [59]).bind λm=>a1v f T pkg m (l++[x.1.t]))else some (l,n)
def R0:Nat->List Tok->Nat->List De->Option (List De×Nat)
 |0,_,_,_=>none
 |f+1,T,n,l=>if(tk T n).k=5 then some (l,n)else(a0J T l n).bind λx=>R0 f T x.2 (l++[x.1])
def a05(T:List Tok):Option Src:=(pIs T 0 1 [112,97,99,107,97,103,101]).bind λn1=>(I7 T n1).bind λx=>(pIs T x.2 4 [59]).bind λn2=>(a1v 9 T x.1.t n2 []).bind λy=>(R0 65 T y.2 []).bind λz=>some ⟨x.1.t,y.1,z.1⟩
theorem b4d{bs:List De}{n:Nat}{x:De×Nat}(h:a0J T bs n=some x):bs.length≠64:=λfp=>by
 unfold a0J at h;rw[W fp]at h;split at h<;>cases h
theorem d5D(pkg:D)(i:List D)(d:List De)(t1 t2:Option Nat):B5 L am (.agg [sv pkg,.list (i.map scv) (gnn i.length) t1,.list (d.map De.cv) (gnn d.length) t2]) (.agg (⟨pkg,i,d⟩:Src).cells):=
 .agg G λk c c' h h'=>by
  rcases k with _|_|_|k
  .injection h with h;injection h' with h';subst h h';exact .old (.val _)
  .injection h with h;injection h' with h';subst h h';exact V4 (f:=scv) (λ_=>⟨.val _,O⟩) _
  .injection h with h;injection h' with h';subst h h';exact V4 (f:=De.cv) De.pure _
  .cases h
theorem d1D(hc:Z9 T [])(h0:0<T.length):b8 CC 105 [.ptr 0 0] (pst T 0 [] []) (a3A (λa:Src×Nat×List D×List Ex=>(.agg a.1.cells)) (λa=>a6f T a.2.1 a.2.2.1 a.2.2.2) (λa:Src×Nat×List D×List Ex=>a05 T=some a.1) (a05 T=none)):=by
 have hT:=hc.len;have hW:=hc.w;have aj:a05 T=a05 T:=G
 conv at aj=>rhs;unfold a05
 refine qO Tryz.func105 ?_;refine qD (j6 G a4J G i9 ?_);refine qD (o5 G c68 m0 (b5t hT h0 hW [112,97,99,107,97,103,101] ⟨G,G,n_5 G⟩) G (λx hx=>.inr ⟨x,j3,by rw[aj,hx.1];rfl,hx.2⟩) ?_);rintro n1 ⟨s1,k1⟩;dsimp only at s1 k1⊢;rw[s1,n_8]at aj;have e1:=O3 s1;refine qD (o5 G c29 ⟨O,O⟩ (a9X hT k1 hW ⟨G,G,n_5 G⟩) G (λx hx=>.inr ⟨x,j3,by rw[aj,hx.1];rfl,hx.2⟩) ?_);rintro⟨w,n2⟩ ⟨s2,k2⟩;dsimp only at s2 k2⊢;have e2:=b1y s2;rw[s2,n_8]at aj;dsimp only at aj;refine u c2H ?_;refine u (z8 #[(0,1),(1,1),(2,1)] G ⟨O,O⟩ a8u a4J G ⟨_,G⟩ (λw=>by kernel_rfl) G G) ?_;refine c0k ?_;refine qD (o5 G a5C m0 (O7 hT k2 hW [59] ⟨G,G,n_5 G⟩) G (λx hx=>.inr ⟨x,j3,by rw[aj,hx.1];rfl,hx.2⟩) ?_);rintro n3 ⟨s3,k3⟩;dsimp only at s3 k3⊢;rw[s3,n_8]at aj;refine qN [pbx T n3 [] [] 1,.dead,.box (⟨[],[],[]⟩:Src).cells,.box [sv w.t,.list (([]:List D).map scv) (gnn ([]:List D).length) none,.list (([]:List De).map De.cv) (gnn ([]:List De).length) none]] G ?_;refine B3 hCC 4 G (α:=List D×Nat) (λ_=>[(0,.ptr 0 0),(2,.ptr 2 0),(3,.ptr 3 0)]) (λx=>[pbx T x.2 [] [] 1,.dead,.box (⟨[],[],[]⟩:Src).cells,.box [sv w.t,.list (x.1.map scv) (gnn x.1.length) (D6 x.1.length 4),.list (([]:List De).map De.cv) (gnn ([]:List De).length) none],l8 x.1.length]) (λx=>x.1.length<=8/\x.2 <T.length/\a05 T=(a1v (9-x.1.length) T w.t x.2 x.1).bind λy=>(R0 65 T y.2 []).bind λz=>some ⟨w.t,y.1,z.1⟩) (λx=>9-x.1.length) ⟨([],n3),[0,1,2,3,9],⟨n_4 _,k3,aj⟩,⟨G,G⟩,ut_,⟨.inr ⟨_,G,.same G (a3I (nb G))⟩,.inl G,.inr ⟨_,G,.same G c3z⟩,.inr ⟨_,G,.box ⟨.old (.val _),.old a2C,.old (M4 _ [] _),O⟩⟩,.inl G,O⟩⟩ ?_;intro⟨l,m⟩ ⟨hl,hm,aj⟩;dsimp only at hl hm aj⊢;obtain⟨f,hf⟩:∃f,9-l.length=f+1:=⟨8-l.length,J⟩;rw[hf,a1v]at aj;refine qk (u (c5 G c5o a3S (b2F hT hm 1 [105,109,112,111,114,116] ⟨G,G,n_5 G⟩) G) ?_);refine cC ?_ ?_<;>intro h1
 .have u1:isT (tk T m) 1 [105,109,112,111,114,116]=true:=U h1;rw[W u1]at aj;have cz:=hW m hm (a6o u1 I);refine qk (u P0 ?_);refine qC ?_ ?_<;>intro h2
  .have u2:l.length=8:=sm_ h2;rw[W u2]at aj;refine u (c5 G c4D ⟨O,O⟩ (a3m hT hm ⟨G,G,n_5 G⟩) G) ?_;exact a2J G G (N5 G a4Z m0 (N7 _ _ _) G (λ_ _=>.inr ⟨(_,_),j3,by rw[aj];rfl,Q⟩))
  .have u2:¬l.length=8:=sm_ h2;rw[H u2]at aj;refine z_6 ?_;refine qD (o5 G c29 ⟨O,O⟩ (a9X hT cz hW ⟨G,G,n_5 G⟩) G (λx hx=>.inr ⟨x,j3,by rw[aj,hx.1];rfl,hx.2⟩) ?_);rintro⟨x,m1⟩ ⟨s4,k4⟩;dsimp only at s4 k4⊢;rw[s4,n_8]at aj;dsimp only at aj;refine qN [pbx T m1 [] [] 1,.dead,.box (⟨[],[],[]⟩:Src).cells,.box [sv w.t,.list (l.map scv) (gnn l.length) (D6 l.length 4),.list (([]:List De).map De.cv) (gnn ([]:List De).length) none],l8 l.length] G ?_;refine z_3 ?_;refine u a5Q ?_;refine qG (λhg=>i7 G O G a8u G a2Q I) ?_;refine qG (λhg=>l9 G hg G b9G G G) ?_;refine qG b6V ?_;refine qG a29 ?_;refine qG (λhg=>c5 G Tryz.call161 ⟨hg,hg,O⟩ (a4l l (gnn l.length) x.t J _) G) ?_;refine u S4 ?_;refine qC ?_ ?_<;>intro h3
   .have u3:x.t=w.t\/x.t∈l:=U h3;rw[W u3]at aj;exact a2J G G (N5 G a4Z m0 (N7 _ _ _) G (λ_ _=>.inr ⟨(_,_),j3,by rw[aj];rfl,Q⟩))
   .have u3:¬(x.t=w.t\/x.t∈l):=U h3;rw[H u3]at aj;have eX:=X3 l x.t;refine u (A6 [scv x.t] G ⟨O,O⟩ t_2 t_0 t_4 G G G G G G G G G) ?_;refine qD (B6 G O O G Q q_3 t_2 t_0 a5s t_4 G (.inr G) q_8 a2h E9 ((l++[x.t]).map scv) (l++[x.t]).length Q Q ?_);refine qD (i0 G O O G j1 a2Q (.inl G) G G (nb G) ?_);refine qD (o5 G a5C m0 (O7 hT k4 hW [59] ⟨G,G,n_5 G⟩) G (λx hx=>.inr ⟨x,j3,by rw[aj,hx.1];rfl,hx.2⟩) ?_);rintro m2 ⟨s5,k5⟩;dsimp only at s5 k5⊢;rw[s5,n_8]at aj;exact⟨(l++[x.t],m2),[0,1,2,3,6],⟨do_,do_,k5,by dsimp only;rw[aj,show 9- (l++[x.t]).length=f by omega]⟩,⟨G,G⟩,ut_,⟨.inr ⟨_,G,.same G (a3I (nb G))⟩,.inl G,.inr ⟨_,G,.same G c3z⟩,.inr ⟨_,G,.box ⟨.old (.val _),B5.grow (f:=scv) (λ_=>⟨.val _,O⟩) G,.old (M4 _ [] _),O⟩⟩,.inr ⟨_,G,.same G B0⟩,O⟩⟩
 .have u1:¬isT (tk T m) 1 [105,109,112,111,114,116]=true:=U h1;rw[H u1,n_8]at aj;dsimp only at aj;rename_i im0;obtain⟨im,him⟩:∃im,im=l:=⟨l,G⟩;subst him;refine o6 ?_;refine B3 hCC 5 G (α:=Nat×List De×List D×List Ex) (λ_=>[(0,.ptr 0 0),(2,.ptr 2 0),(3,.ptr 3 0)]) (λx=>[pbx T x.1 x.2.2.1 x.2.2.2 5,.dead,.box (⟨[],[],[]⟩:Src).cells,.box [sv w.t,.list (im.map scv) (gnn im.length) none,.list (x.2.1.map De.cv) (gnn x.2.1.length) (D6 x.2.1.length 6)],.dead,l8 x.2.2.2.length,l8 x.2.1.length]) (λx=>x.2.1.length<=64/\x.1 <T.length/\x.2.2.1.length<=8/\x.2.2.2.length<=256/\a05 T=(R0 (65-x.2.1.length) T x.1 x.2.1).bind λz=>some ⟨w.t,im,z.1⟩) (λx=>T.length -x.1) ⟨(m,[],[],[]),[0,1,2,3,4,9,10],⟨n_4 _,hm,n_4 _,n_4 _,aj⟩,⟨G,G⟩,ut_,⟨.inr ⟨_,G,.box ⟨.old a04,.old (.val _),.old H8,.old (N4 _ [] _),O⟩⟩,.inl G,.inr ⟨_,G,.same G c3z⟩,.inr ⟨_,G,.box ⟨.old (.val _),V4 (f:=scv) (λ_=>⟨.val _,O⟩) _,.old (M4 _ [] _),O⟩⟩,.inl G,.inl G,.inl G,O⟩⟩ ?_;intro⟨m,ds,ps,b⟩ ⟨ck,hm,cE,hb,aj⟩;dsimp only at ck hm cE hb aj⊢;obtain⟨f,hf⟩:∃f,65-ds.length=f+1:=⟨64-ds.length,J⟩;rw[hf,R0]at aj;have bA:Z9 T ps:=⟨hT,hW,hc.l,J,hc.nn⟩;refine qk (u (c5 G c4D ⟨O,O⟩ (a3m hT hm (q:=0) (s:=5) ⟨G,G,n_5 G⟩) G) ?_);refine u a34 ?_;refine qC ?_ ?_<;>intro h4
  .have u4:¬(tk T m).k=5:=U h4;rw[H u4]at aj;refine cF [] [0,1,2,3,4] (tl:=[(5,[0,1]),(6,[0,1]),(7,[]),(8,[]),(9,[])]) ?_;refine chf G c1F ?_;refine chf G c8Z ?_;refine chf G O0 ?_;refine chf G c1F ?_;refine chf G c8Z ?_;refine F2 ?_;refine B1 G G G (o5 G Tryz.call162 j2 (d3y bA ds ck hm hb (q:=0) (s:=5) ⟨G,G,n_5 G⟩) G (λx hx _=>.inr ⟨x,j3,by rw[aj,hx.1];rfl,hx.2⟩) ?_);rintro⟨d,m1⟩ ⟨g1,g2,g3,g4,g5⟩;dsimp only at g1 g2 g3 g4 g5⊢;have ao:=b4d g1;rw[g1,n_8]at aj;dsimp only at aj;have eX:=X3 ds d;refine a6J [pbx T m1 d.params d.body 7,.dead,.box (⟨[],[],[]⟩:Src).cells,.box [sv w.t,.list (im.map scv) (gnn im.length) none,.list (ds.map De.cv) (gnn ds.length) (D6 ds.length 6)],.dead,.dead,l8 ds.length,l8 d.body.length] G ?_;refine d6a ?_;refine B1 G G G (B6 G O O G Q q_3 a8m a4c Tryz.typeInfo104 b5J G (.inr G) q_8 (by have hb:Tryz.t104.bytes=72:=G;rw[hb];first|omega|(simp;done)|(simp;omega)) E9 ((ds++[d]).map De.cv) (ds++[d]).length Q Q ?_);refine⟨O,?_⟩;refine d6V ?_;refine a8h ?_;exact⟨(m1,ds++[d],d.params,d.body),[0,1,2,3,4,7,8],⟨do_,do_,g3,g4,g5,by dsimp only;rw[aj,show 65- (ds++[d]).length=f by omega]⟩,⟨G,G⟩,ut_,⟨.inr ⟨_,G,.box ⟨.old a04,.old (.val _),.old H8,a60 G,O⟩⟩,.inl G,.inr ⟨_,G,.same G c3z⟩,.inr ⟨_,G,.box ⟨.old (.val _),.old H8,B5.grow (f:=De.cv) (λ_=>⟨.val _,.val _,B9 _ _ _,N4 _ _ _,O⟩) G,O⟩⟩,.inl G,.inr ⟨_,G,.same G B0⟩,.inr ⟨_,G,.same G B0⟩,O⟩⟩
  .have u4:(tk T m).k=5:=U h4;rw[W u4,n_8]at aj;refine o6 ?_;refine c4V ?_;exact⟨_,B7 G ⟨O,_,_,_,G,G,.inr ⟨_,b5G,a3L,nb G,G⟩⟩,(by exact .inl ⟨(⟨w.t,im,ds⟩,m,ps,b),b49 (k:=5) G G I (λ_=>d5D _ _ _ _ _),aj⟩)⟩
theorem d5g(hc:Z9 T [])(h0:0<T.length){s:Nat}(aw:PAt σ q s T 0 [] []):b8 CC 105 [.ptr q 0] σ (a37 (λa:Src×Nat×List D×List Ex=>(.agg a.1.cells)) (λa=>(σ.set q (pbx T a.2.1 a.2.2.1 a.2.2.2 σ.length)).set s .dead++[l8 a.2.2.2.length]) (λa:Src×Nat×List D×List Ex=>a05 T=some a.1) σ q s (a05 T=none)):=
 b2N (c:=(λa:Src×Nat×List D×List Ex=>(.agg a.1.cells))) (N:=λa=>a.2.1) (Z:=λa=>a.2.2.1) (B:=λa=>a.2.2.2) (λ_ h=>by cases h) (λa=>j5 a.1.pure) (d1D hc h0) aw
structure e0v(N:Nat)(t:Tok):Prop where
 len:t.t.length<=N
 n0:0<=t.n
 n1:t.n<=9007199254740993
theorem b0e(s:D)(a e:Nat):(sub s a e).length<=s.length:=by unfold sub;rw[b4a,b1U];omega
theorem c5W{b:UInt8}:e0v s.length (C8 s a b).1/\(C8 s a b).1.k≠5:=by
 have z:e0v s.length (⟨0,[],0,0⟩:Tok):=⟨n_4 _,I,I⟩;unfold C8
 split
 .split
  .exact ⟨z,(show(0:Int)≠5 by decide)⟩
  .exact ⟨⟨b0e _ _ _,a5E _,(show(0:Int)<=9007199254740993 by decide)⟩,(show(1:Int)≠5 by decide)⟩
 .split
  .split
   .exact ⟨z,(show(0:Int)≠5 by decide)⟩
   .have:=b3A (b2M (s:=s) (a:=a));exact⟨⟨n_4 _,this.1,this.2⟩,(show(2:Int)≠5 by decide)⟩
  .split
   .split
    .exact ⟨z,(show(0:Int)≠5 by decide)⟩
    .exact ⟨⟨b0e _ _ _,a5E _,(show(0:Int)<=9007199254740993 by decide)⟩,(show(3:Int)≠5 by decide)⟩
   .split
    .split
     .exact ⟨⟨b0e _ _ _,a5E _,(show(0:Int)<=9007199254740993 by decide)⟩,(show(4:Int)≠5 by decide)⟩
     .exact ⟨⟨b0e _ _ _,a5E _,(show(0:Int)<=9007199254740993 by decide)⟩,(show(4:Int)≠5 by decide)⟩
    .exact ⟨z,(show(0:Int)≠5 by decide)⟩
theorem a73(s:D):∀(f i:Nat) (T:List Tok),a0y f s i=some T->T.length<=f/\(∀t∈T,e0v s.length t)/\∃L e,T=L++[e]/\e.k=5/\∀t∈L,t.k≠5
 |0,i,T,h=>by cases h
 |f+1,i,T,h=>by
  rw[a0y]at h;cases hb:s[A3 s i [5]]? with
  |none=>
   rw[hb]at h;injection h with h
   subst h;refine⟨Q,λt ht=>?_,[],_,G,G,λt ht=>by cases ht⟩;simp at ht;subst ht;exact⟨n_4 _,a5E _,(show(0:Int)<=9007199254740993 by decide)⟩
  |some b=>
   rw[hb]at h;simp only at h;split at h
   .obtain ⟨h1,h2⟩:=a73 s f _ T h;exact⟨J,h2⟩
   .split at h
    .cases h
    .cases hq:a0y f s (C8 s (A3 s i [5]) b).2.1.toNat with
     |none=>rw[hq]at h;cases h
     |some T'=>
      rw[hq]at h;simp only[b8V,Option.some.injEq]at h;subst h;obtain⟨h1,h2,L,e,h3,h5,h4⟩:=a73 s f _ T' hq;have hg:=c5W (s:=s) (a:=A3 s i [5]) (b:=b);refine⟨U h1,λt ht=>?_,_::L,e,by rw[h3];rfl,h5,λt ht=>?_⟩
      .rcases I0.1 ht with rfl|ht
       .exact ⟨hg.1.len,hg.1.n0,hg.1.n1⟩
       .exact h2 t ht
      .rcases I0.1 ht with rfl|ht
       .exact hg.2
       .exact h4 t ht
theorem c0u(i:Nat):tk T i∈T\/tk T i=⟨5,[],0,0⟩:=by
 unfold tk;cases h:T[i]? with
 |none=>exact .inr G
 |some t=>exact .inl (n_3 h)
theorem b0R(h:a3i s=some T):Z9 T []/\0<T.length:=by
 unfold a3i at h;split at h
 .cases h
 .rename_i hs;obtain⟨h1,h2,L,e,h3,h5,h4⟩:=a73 s _ _ T h;have h0:0<T.length:=by rw[h3];simp
  refine⟨⟨J,λn hn hk=>?_,λn=>?_,n_4 _,λn=>?_⟩,h0⟩
  .rcases a3d (n+1) T.length with ai|aL
   .exact ai
   .exfalso;have hl:T.length=L.length+1:=by rw[h3];simp
    have:tk T n=e:=by
     unfold tk;rw[h3,show n=L.length by omega];simp
    exact hk (by rw[this];exact h5)
  .rcases c0u (T:=T) n with h|h
   .have:=(h2 _ h).len;omega
   .rw [h];simp
  .rcases c0u (T:=T) n with h|h
   .exact ⟨(h2 _ h).n0,(h2 _ h).n1⟩
   .rw [h];exact⟨I,I⟩
abbrev c5R:=Src×Int×Int
abbrev c4f(x:c5R):CV:=.tup [.agg x.1.cells,iv x.2.1,iv x.2.2]
def N1(s:D):Option Src:=(a3i s).bind a05
def b5I(s:D)(x:c5R):Prop:=(N1 s=some x.1/\x.2.1=0/\x.2.2=0)\/(N1 s=none/\x.1=⟨[],[],[]⟩/\x.2.2≠0)
theorem c1y{c1 c2 c3:CV}{Jj:CV}{K:List b9->Prop}(h:K σ):c58 CC 104 [c1,c2,c3] σ false Jj K:=by
 refine d8n ?_;refine cY (c32 G O G Tryz.runUnderlying20 (.inl G)) ?_;refine o7 ?_;refine cC ?_ ?_<;>intro h1
 .cases h1
 .refine A8 ?_;exact h
theorem c0n(a0 e0 x e:Int){K:List b9->Prop}(h:K [.dead,.box (⟨[],[],[]⟩:Src).cells,.box [iv x],.box [iv e],.dead,.box [iv x,iv e]]):c58 CC 104 [.ptr 1 0,.ptr 2 0,.ptr 3 0] [.dead,.box (⟨[],[],[]⟩:Src).cells,.box [iv a0],.box [iv e0],.dead] true (a2H x e) K:=by
 refine d8n ?_;refine cY (c32 G O G Tryz.runUnderlying20 (.inr ⟨_,_,G⟩)) ?_;refine o7 ?_;refine cC ?_ ?_<;>intro h1
 .refine z_1 ?_;refine cY (c4G (xs:=[.int .i64 x,.int .i64 e]) G O G c4Y G G) ?_;refine b72 ?_;refine cD (j6 G Tryz.zeroValue166 G i9 ?_);refine cD (i0 G O O G j1 Tryz.sizeOf166 i9 G G (nb G) ?_);refine a6u ?_;refine z_1 ?_;refine b0j ?_;refine cC ?_ ?_<;>intro h2
  .cases h2
  .refine A8 ?_;refine cF [] [0,1,2,3,4] (tl:=[(5,[1,2,3,4]),(6,[3,4]),(7,[])]) ?_;refine chf G d9Q ?_;refine chf G (c7 G (i7 G O G c4Y G t_1 I)) ?_;refine chf G b7Z ?_;refine chf G (c7 G d1u) ?_;refine chf G c8n ?_;refine c84 ?_;refine⟨⟨(by exact c7 G (i7 G O G c4Y G t_1 I)),b7V,(by exact c7 G d1u),b3n,O⟩,?_⟩;refine B1 G G G (i0 G O O G j1 t_1 (.inl G) G G (nb G) ?_);refine⟨⟨(by exact c7 G d1u),b3n,O⟩,?_⟩;refine d6r ?_;exact h
 .cases h1
theorem c5U(s:D)(hs:s.length<=1000000000000):b8 CC 80 [(sv s)] [] λr τ=>∃x:c5R,X0 0 τ r (.ret (c4f x))/\b5I s x:=by
 refine a9d (c1c Tryz.func80 G G ?_);show b7g _ _ _ _ _ [.dead];refine b96 ?_;refine C4 ?_;refine cD (j6 G a4J G i9 ?_);refine cD (j6 G t_9 G (.inl G) ?_);refine cD (j6 G Tryz.zeroValue42 G (.inl G) ?_);refine o7 ?_;refine b96 ?_;refine a5K ?_;refine dc G Tryz.call103 ⟨O,O⟩ (c57 s hs _) ?_;rintro⟨T,nn,at_,e⟩ hP;dsimp only at hP⊢;refine b5N ?_;refine cY a07 ?_;refine cD (i0 G O O G j1 t_1 (.inl G) G G (nb G) ?_);refine cD (i0 G O O G j1 b4Z (.inl G) G G (nb G) ?_);refine o7 ?_;refine b96 ?_;refine z_0 ?_;refine d8d ?_;refine cC ?_ ?_<;>intro h1
 .have he:e≠0:=U h1;have hl:a3i s=none:=by
   rcases hP with⟨_,_,_,g⟩|⟨g,_⟩
   .exact absurd g he
   .exact g
  refine F7 ?_;refine cF [] [0,1,2] (tl:=[(3,[1,2]),(4,[2]),(5,[])]) ?_;refine chf G d9Q ?_;refine chf G b7Z ?_;refine chf G c8n ?_;refine c84 ?_;refine⟨⟨b7V,b3n,O⟩,?_⟩;refine B1 G G G (i0 G O O G j1 t_1 (.inl G) G G (nb G) ?_);refine⟨⟨b3n,O⟩,?_⟩;refine d6r ?_;refine c6 ?_;exact⟨_,o9 (rs:=[.cell 2 99,.cell 3 3,.cell 4 42]) (cs:=[_,_,_]) G d9u (n_5 G),⟨((⟨[],[],[]⟩:Src),at_,e),d3Z,.inr ⟨by rw[N1,hl];rfl,G,he⟩⟩⟩
 .have he:e=0:=U h1;obtain⟨hl,rfl,rfl⟩:a3i s=some T/\nn=true/\at_=0:=by
   rcases hP with⟨g1,g2,g3,_⟩|⟨_,_,_,g⟩
   .exact ⟨g1,g2,g3⟩
   .exact absurd he g
  subst he;obtain⟨hc,h0⟩:=b0R hl;have aj:N1 s=a05 T:=by rw[N1,hl];rfl
  refine A8 ?_;refine c9y G G G G G I G G Tryz.call104 D0 (λds=>?_);refine a5d ?_;refine a3G ?_;refine cY A2 ?_;refine cY (z8 #[(0,1),(1,1),(2,1),(3,1)] G ⟨O,O⟩ c4K Tryz.zeroValue170 G ⟨_,G⟩ (λw=>by kernel_rfl) G G) ?_;refine c9z ?_;refine a5d ?_;refine a3G ?_;refine cY A2 ?_;refine cD (o5 G Tryz.call105 ⟨O,O⟩ (d5g hc h0 (q:=4) (s:=0) ⟨G,G,n_5 G⟩) G (λx hx=>c0n _ _ _ _ ⟨_,o9 (rs:=[.cell 2 99,.cell 3 3,.cell 4 42]) (cs:=[_,_,_]) G d9u (n_5 G),⟨((⟨[],[],[]⟩:Src),x.1,x.2),d3Z,.inr ⟨by rw[aj];exact hx.1,G,hx.2⟩⟩⟩) ?_);rintro⟨x,m,ps,b⟩ g1;dsimp only at g1⊢;refine cD (i0 G O O G j1 a3L i9 G G (nb G) ?_);refine cD (i0 G O G G j1 t_1 (.inl G) G G (nb G) ?_);refine cD (i0 G O G G j1 b4Z (.inl G) G G (nb G) ?_);refine o7 ?_;refine b0c ?_;exact c1y ⟨_,o9 (rs:=[.cell 2 99,.cell 3 3,.cell 4 42]) (cs:=[_,_,_]) G d9u (n_5 G),⟨(x,0,0),(by exact .ret (.tups ⟨.old (c:=.agg (x).cells) (j5 (Src.pure _)).old,.old (.val _),.old (.val _),O⟩)),.inl ⟨by rw[aj];exact g1,G,G⟩⟩⟩
theorem c7d(s:D)(hs:s.length<=1000000000000)(σ:List b9):b8 CC 80 [(sv s)] σ λr τ=>∃x:c5R,r= .ret (c4f x)/\τ=σ/\b5I s x:=
 F8 (res:=λx=>.ret (c4f x)) hCC (λc hc=>by simp at hc;subst hc;exact .val _) (c5U s hs) (λx _=>D3 ⟨j5 x.1.pure,.val _,.val _,O⟩) σ
structure Fi where
 p:D
 b:D
deriving DecidableEq
variable{b:List Ex}{fl:List Fi}
abbrev Fi.cells(x:Fi):List CV:=[sv x.p,sv x.b]
def Fi.cv(x:Fi):List CV:=x.cells
theorem Fi.pure(x:Fi):N8 x.cells:=⟨.val _,.val _,O⟩
theorem F5(l:List Fi)(nn:Bool):o8 (.list (l.map Fi.cv) nn none):=I6 (f:=Fi.cv) Fi.pure l nn
theorem a0g(n:Nat)(l:List Fi)(nn:Bool):Old n (.list (l.map Fi.cv) nn none):=(F5 l nn).old
abbrev A0(l:List Fi)(nn:Bool):List CV:=[.list (l.map Fi.cv) nn none]
structure Va where
 n:D
 v:Int
deriving DecidableEq
variable{n:Nat}
abbrev Va.cells(x:Va):List CV:=[sv x.n,iv x.v]
def Va.cv(x:Va):List CV:=x.cells
theorem Va.pure(x:Va):N8 x.cells:=⟨.val _,.val _,O⟩
theorem a26(l:List Va)(nn:Bool):o8 (.list (l.map Va.cv) nn none):=I6 (f:=Va.cv) Va.pure l nn
theorem X9(n:Nat)(l:List Va)(nn:Bool):Old n (.list (l.map Va.cv) nn none):=(a26 l nn).old
abbrev a1o(l:List Va)(nn:Bool):List CV:=[.list (l.map Va.cv) nn none]
def prv{α:Type}(l:List α)(i:Nat):Option α:=if i=0 then none else l[i-1]?
theorem b8o{x:α}(h:l[i]?=some x):prv l (i+1)=some x:=by unfold prv;simp[h]
theorem Y2{p:α}(hp:0<i->l[i-1]?=some p)(q:α->Bool):(prv l i).any q=(decide ((i:Int) > 0)&&q p):=by
 unfold prv;by_cases h:i=0
 .subst h;rfl
 .rw [H h,hp J];have:decide ((i:Int) > 0)=true:=a2m J;rw[this];rfl
theorem b5v(hi:i<l.length):∃p,0<i->l[((i:Int) -1).toNat]?=some p/\l[i-1]?=some p:=by
 refine⟨l[i-1]'J,λh0=>?_⟩;rw[show((i:Int) -1).toNat=i-1 by omega];simp
def I1(pv:Option Fi)(f:Fi):Int:=if F6 f.p=false then 6 else if(pv.any λg=>decide (f.p=g.p))=true then 10 else if(pv.any λg=>Op.bytesLess f.p g.p)=true then 6 else if 16384<f.b.length then 2 else 0
def rvE:Option Fi->List Fi->Int
 |_,[]=>0
 |pv,f::l=>if I1 pv f=0 then rvE (some f) l else I1 pv f
def B4(l:List Fi):Int:=if 64<l.length then 2 else rvE none l
theorem b8R{l:List Fi}{f:Fi}(h:l[i]?=some f):rvE (prv l i) (l.drop i)=if I1 (prv l i) f=0 then rvE (prv l (i+1)) (l.drop (i+1))else I1 (prv l i) f:=by
 obtain⟨ai,rfl⟩:=n_2.1 h;rw[b8o h,a0v ai,rvE]
def a0L(pv:Option Va)(v:Va):Bool:=C0 v.n && (decide (-9007199254740992<=v.v)&&decide (v.v<=9007199254740992))&& !(pv.any λg=>Op.bytesLess v.n g.n ||decide (v.n=g.n))
def evB:Option Va->List Va->Bool
 |_,[]=>true
 |pv,v::l=>a0L pv v&&evB (some v) l
def a7m(l:List Va):Bool:=decide (l.length<=16)&&evB none l
theorem b76{l:List Va}{v:Va}(h:l[i]?=some v):evB (prv l i) (l.drop i)=(a0L (prv l i) v&&evB (prv l (i+1)) (l.drop (i+1))):=by
 obtain⟨ai,rfl⟩:=n_2.1 h;rw[b8o h,a0v ai,evB]
def a35(s:D):Bool:=F6 s&& (decide ((s.length:Int) > 4)&&c0f [46,115,114,99] s)
theorem a6b(l:List Fi)(nn:Bool)(hl:∀f∈l,f.p.length<=1000000000)(σ:List b9):b8 CC 52 [.agg (A0 l nn)] σ λr ae=>r= .ret (iv (B4 l))/\ae=σ:=by
 refine b8.anyw hCC pu_ pu_ (c9 (qO Tryz.func52 ?_)) σ;refine qD (F4 G O j1 i9 ?_);refine u a2E ?_;refine qC ?_ ?_<;>intro h1
 .have ao:64<l.length:=sm_ h1;exact d6I
 .have ao:¬64<l.length:=sm_ h1;refine u a2E ?_;refine u0 hCC (α:=Nat) (λi=>[(1,.ptr 0 0),(10,(.list (l.map Fi.cv) nn none)),(11,iv l.length),(12,iv i)]) (λ_=>[.box (A0 l nn)]) (λi=>i<=l.length/\B4 l=rvE (prv l i) (l.drop i)) (λi=>l.length -i) 0 ⟨n_4 _,by rw[B4,H ao];rfl⟩ tu_ (au:=[]) G D5 uz_ ?_;intro i ⟨hi,hr⟩;refine qk (qC ?_ ?_)<;> intro h2
  .have ai:(i:Int)<l.length:=U h2;obtain⟨y,hb⟩:=gx_ l i;obtain⟨p,hp⟩:=b5v (l:=l) (i:=i) J;have fL:0<i->l[i-1]?=some p:=λh=>(hp h).2;have bo:=hl y (n_3 hb);rw[b8R hb]at hr;refine b9n ?_;refine u (c5 G c2x ⟨O,O⟩ (a3b y.p bo _) G) ?_;refine qC ?_ ?_<;>intro h3
   .have u3:F6 y.p=false:=U h3;have us:I1 (prv l i) y=6:=by rw[I1,W u3]
    rw[us]at hr;exact b6B
   .have u3:¬F6 y.p=false:=U h3;refine cW 15 ?_;refine hY A2 ?_;refine hY Z5 ?_;refine hY A2 ?_;refine c3x ?_;refine c3Y ?_;refine c3B ?_;refine d2x ?_;refine D4 G G O G b3M ?_;refine hY Q8 ?_;refine b6j ?_;refine qC ?_ ?_<;>intro h4
    .have u4:((prv l i).any λg=>decide (y.p=g.p))=true:=by rw[Y2 fL];exact h4
     have us:I1 (prv l i) y=10:=by rw[I1,H u3,W u4]
     rw[us]at hr;exact b6B
    .have u4:¬((prv l i).any λg=>decide (y.p=g.p))=true:=by rw[Y2 fL];simpa using h4
     refine cW 15 ?_;refine hY A2 ?_;refine hY Z5 ?_;refine hY A2 ?_;refine c3x ?_;refine c3Y ?_;refine c3B ?_;refine d7P ?_;refine hY Q8 ?_;refine b6j ?_;refine qC ?_ ?_<;>intro h5
     .have u5:((prv l i).any λg=>Op.bytesLess y.p g.p)=true:=by rw[Y2 fL];exact h5
      have us:I1 (prv l i) y=6:=by rw[I1,H u3,H u4,W u5]
      rw[us]at hr;exact b6B
     .have u5:¬((prv l i).any λg=>Op.bytesLess y.p g.p)=true:=by rw[Y2 fL];simpa using h5
      refine u U9 ?_;refine qC ?_ ?_<;>intro h6
      .have u6:16384<y.b.length:=sm_ h6;have us:I1 (prv l i) y=2:=by rw[I1,H u3,H u4,H u5,W u6]
       rw[us]at hr;exact b6B
      .have u6:¬16384<y.b.length:=sm_ h6;have us:I1 (prv l i) y=0:=by rw[I1,H u3,H u4,H u5,H u6]
       rw[us,W G]at hr;exact b2d
  .exact d5U
theorem c3c(a b c d e:Bool):(a&&b&& !(c&& (d ||e)))= !((!a || !b) ||(c&& (d ||e))):=by cases a<;>cases b<;>cases c<;>cases d<;>cases e<;>rfl
theorem c9O(s:D):((F6 s&&decide ((s.length:Int) > 4))&&c0f [46,115,114,99] s)=a35 s:=by rw[a35,b1k]
theorem b2A(s:D)(hs:s.length<=1000000000)(σ:List b9):b8 CC 79 [(sv s)] σ λr ae=>r= .ret (.val (.bool (a35 s)))/\ae=σ:=by
 refine b8.anyw hCC pu_ pu_ (c9 (qO Tryz.func79 ?_)) σ;refine u (c5 G c2x ⟨O,O⟩ (a3b s hs _) G) ?_;refine b5h ?_;refine a2P ?_;refine qG F9 ?_;refine qG (λhg=>c5 G Tryz.call102 ⟨hg,G,O⟩ (a5w s _ J I _) G) ?_;refine a84 ?_;exact⟨_,rE1,_,_,G,G,j9 (c9O _)⟩
theorem b7P(v:Int)(σ:List b9):b8 CC 92 [iv v] σ λr ae=>r= .ret (.val (.bool (decide (-9007199254740992<=v)&&decide (v<=9007199254740992))))/\ae=σ:=by
 refine b8.anyw hCC pu_ pu_ (c9 (qO Tryz.func92 ?_)) σ;refine qG F9 ?_;refine a2P ?_;exact d3r
theorem a0G(l:List Va)(nn:Bool)(σ:List b9):b8 CC 53 [.agg (a1o l nn)] σ λr ae=>r= .ret (.val (.bool (a7m l)))/\ae=σ:=by
 refine b8.anyw hCC pu_ pu_ (c9 (qO Tryz.func53 ?_)) σ;refine c9d ?_;refine qC ?_ ?_<;>intro h1
 .have ao:¬l.length<=16:=sm_ h1;refine c6 ?_;exact⟨_,rE1,_,_,G,G,j9 (by rw[a7m,a1R ao];rfl)⟩
 .have ao:l.length<=16:=sm_ h1;refine u c9M ?_;refine u0 hCC (α:=Nat) (λi=>[(1,.ptr 0 0),(10,(.list (l.map Va.cv) nn none)),(11,iv l.length),(12,iv i)]) (λ_=>[.box (a1o l nn)]) (λi=>i<=l.length/\a7m l=evB (prv l i) (l.drop i)) (λi=>l.length -i) 0 ⟨n_4 _,by rw[a7m,a2m ao];rfl⟩ tu_ (au:=[]) G D5 uz_ ?_;intro i ⟨hi,hr⟩;refine qk (qC ?_ ?_)<;> intro h2
  .have ai:(i:Int)<l.length:=U h2;obtain⟨y,hb⟩:=gx_ l i;obtain⟨p,hp⟩:=b5v (l:=l) (i:=i) J;have fL:0<i->l[i-1]?=some p:=λh=>(hp h).2;rw[b76 hb]at hr;refine u c6P ?_;refine d9K ?_;refine cW 26 ?_;refine d5Y ?_;refine hY (c5 G c3h ⟨O,O⟩ (a3p y.n _) G) ?_;refine hY b8L ?_;refine hY A2 ?_;refine c64 ?_;refine D4 G G O G (λhg=>c5 G Tryz.call92 ⟨hg,O⟩ (b7P y.v _) G) ?_;refine D4 G G O G a3Y ?_;refine b4c ?_;refine D4 G G O G F9 ?_;refine D4 G G O G a4F ?_;refine D4 G G O G b1b ?_;refine e1I ?_;refine e0M ?_;refine d7I ?_;refine a41 G G (λh=>h) G (λhk hg=>A4 G ⟨hk,hg⟩ ⟨hk,hg⟩ G G c54 c4J d3m (j8 (hp (by change (_:Bool)=_ at hk;simp at hk hg;omega)).1) G) ?_;refine e1L ?_;refine d6v ?_;refine hY S4 ?_;refine a3D ?_;refine qC ?_ ?_<;>intro h3
   .have u3:a0L (prv l i) y=false:=by rw[a0L,Y2 fL,c3c];rw[h3];rfl
    rw[u3,Bool.false_and]at hr;exact d5T
   .have u3:a0L (prv l i) y=true:=by rw[a0L,Y2 fL,c3c];rw[h3];rfl
    rw[u3,b6I]at hr;exact b2d
  .exact d7V
def a6j(l:List Va)(s:D):Option Int:=(l.find? λv=>decide (v.n=s)).map Va.v
theorem c4T{l:List Va}{v:Va}(h:l[i]?=some v)(s:D):a6j (l.drop i) s=if v.n=s then some v.v else a6j (l.drop (i+1)) s:=by
 obtain⟨ai,rfl⟩:=n_2.1 h;rw[a0v ai];unfold a6j;rw[b9m];by_cases hh:l[i].n=s
 .simp [hh]
 .simp [hh]
structure Nm where
 k:Int
 p:D
 o:D
deriving DecidableEq
abbrev Nm.cells(x:Nm):List CV:=[iv x.k,sv x.p,sv x.o]
def Nm.kc(x:Nm):CV:=.agg x.cells
def Nm.kv(x:Nm):Value:=.agg #[.int .i64 x.k,.string (str x.p),.string (str x.o)]
theorem Nm.pure(x:Nm):o8 x.kc:=j5 ⟨.val _,.val _,.val _,O⟩
def A9(k:Int)(p o:D):Nm:=⟨k,if k=3 then []else p,o⟩
theorem e2L(x y:Nm):∀w,(Op.equal 173 x.kv y.kv).run CC.P w= .ok (decide (x=y)) w:=by
 intro w;show(Op.equal _ _ _).run Tryz.prog w=_;simp[Op.equal,Op.maxDepth,go_sem,Nm.kv,O4];obtain⟨a,b,c⟩:=x;obtain⟨a',b',c'⟩:=y;by_cases h1:a=a'<;>by_cases h2:b=b'<;>by_cases h3:c=c'<;>simp[h1,h2,h3]
theorem e1s{M:A5}{w:World}{x:Nm}{v:Value}(h:RV M w x.kc v):v=x.kv:=a09 (l:=[.int .i64 x.k,.string (str x.p),.string (str x.o)]) h
theorem e0w{M:A5}{w:World}(x:Nm):RV M w x.kc x.kv:=by
 refine .agg G (λc hc=>?_) λi c hc=>?_
 .simp at hc
  rcases hc with rfl|rfl|rfl<;>rfl
 .rcases i with _|_|_|i
  .injection hc with hc;subst hc;exact .val _
  .injection hc with hc;subst hc;exact .val _
  .injection hc with hc;subst hc;exact .val _
  .cases hc
theorem c7M:c2F (α:=Nm) CC.P 173 Nm.kc Nm.kv where
 rv _ _ _ _ h:=e1s h
 rv' _ _ a:=e0w a
 check b a w:=by
  have:∀n,(Instr.checkKey b (n+2) 173 a.kv).run Tryz.prog w= .ok () w:=λn=>by simp[Instr.checkKey,Nm.kv,go_sem]
  exact this 9998
 eq a b w:=e2L a b w
 now:=⟨_,d0p,λa b=>G⟩
 bits a:=by
  have:∀n,Instr.sameBits (n+2) a.kv a.kv=true:=λn=>by simp[Instr.sameBits,Nm.kv,a9U]
  exact this 9998
theorem d5x:R2 (α:=Nm) CC.P 173 Nm.kc Nm.kv:=c7M.find
theorem b7Q(k:Int)(p o:D)(σ:List b9):b8 CC 106 [iv k,(sv p),(sv o)] σ λr ae=>r= .ret (.agg (A9 k p o).cells)/\ae=σ:=by
 refine b8.anyw hCC pu_ pu_ (c9 (qO Tryz.func106 ?_)) σ;refine qD (j6 G d1i G i9 ?_);refine qC ?_ ?_<;>intro h1
 .have u1:k=3:=U h1;refine d7o ?_;refine c6 ?_;exact⟨_,B7 G ⟨O,_,_,_,G,G,.inr ⟨_,c6g,c8C,nb G,G⟩⟩,_,_,G,G,(by rw[A9,W u1];exact .old ((Nm.pure ⟨k,[],o⟩).old))⟩
 .have u1:¬k=3:=U h1;refine d7o ?_;refine c6 ?_;exact⟨_,B7 G ⟨O,_,_,_,G,G,.inr ⟨_,c6g,c8C,nb G,G⟩⟩,_,_,G,G,(by rw[A9,H u1];exact .old ((Nm.pure ⟨k,p,o⟩).old))⟩
structure En where
 p:D
 o:D
 k:Int
 pl:D
 ix:Int
 ct:Int
deriving DecidableEq
variable{k:Int}
abbrev En.cells(x:En):List CV:=[sv x.p,sv x.o,iv x.k,sv x.pl,iv x.ix,iv x.ct]
abbrev En.z:En:=⟨[],[],0,[],0,0⟩
theorem En.pure(x:En):o8 (.agg x.cells):=j5 ⟨.val _,.val _,.val _,.val _,.val _,.val _,O⟩
def vcE(x:En):CV:=.agg x.cells
def vcS(x:Src):CV:=.agg x.cells
abbrev Src.z:Src:=⟨[],[],[]⟩
variable{z:Bool}
theorem a7y(x:Src):o8 (vcS x):=j5 x.pure
theorem c36{z:Value}(d:β)(hd:G2 z=vc d)(o:Option β):(o.map vc).getD (G2 z)=vc (o.getD d):=by cases o<;>simp[hd]
theorem c0B{kc:α->CV}(hk:∀a,o8 (kc a))(hv:∀b,o8 (vc b))(n:Nat)(l:List (α×β)):G1 n (.map (gm kc vc l)):=λx hx=>by
 obtain⟨y,_,rfl⟩:=D8.1 hx;exact⟨(hk _).old,(hv _).old⟩
theorem a8f{kc:α->CV}(hk:∀a,o8 (kc a))(hv:∀b,o8 (vc b))(l:List (α×β)):H3 R (.map (gm kc vc l)) (.map (gm kc vc l)):=.map ⟨G,λi x x' h h'=>by
 rw[h]at h';injection h' with h';subst h'
 obtain⟨y,_,rfl⟩:=D8.1 (n_3 h);exact⟨.pure (hk _),.pure (hv _)⟩⟩
abbrev SM:=List (D×Src)
variable{ms:SM}
abbrev EM:=List (Nm×En)
variable{me:EM}
abbrev smO(m:SM):b9:=.map (gm sv vcS m)
abbrev emO(m:EM):b9:=.map (gm Nm.kc vcE m)
theorem b0f(s:D):o8 (sv s):=.val _
abbrev wbx(fl:List Fi)(nn va:Bool)(br:List D)(q1 q2 t:Nat):b9:=.box [.list (fl.map Fi.cv) nn none,.val (.bool va),.map q1,.list (br.map scv) (gnn br.length) (D6 br.length t),.map q2]
abbrev wst(fl:List Fi)(nn va:Bool)(br:List D)(ms:SM)(me:EM):List b9:=[wbx fl nn va br 1 2 3,smO ms,emO me,l8 br.length]
structure WAt(σ:List b9)(w q1 q2 t:Nat)(fl:List Fi)(nn va:Bool)(br:List D)(ms:SM)(me:EM):Prop where
 hw:σ[w]?=some (wbx fl nn va br q1 q2 t)
 hs:σ[q1]?=some (smO ms)
 he:σ[q2]?=some (emO me)
 ht:σ[t]?=some (l8 br.length)
 nd:b4h [w,q1,q2,t]
theorem a2c{b c d:Nat}(h:a≠b/\a≠c/\a≠d/\b≠c/\b≠d/\c≠d):b4h [a,b,c,d]:=λi j k h1 h2=>by
 obtain⟨h3,h4,h5,h6,h7,h8⟩:=h
 rcases i with _|_|_|_|i<;>rcases j with _|_|_|_|j<;>simp at h1 h2<;>omega
theorem b5D{t p1 p2 Jj:Nat}(h1:R q1 p1)(h2:R q2 p2)(h3:R t Jj):H3 R (wbx fl nn va br q1 q2 t) (wbx fl nn va br p1 p2 Jj):=
 .box (.cons (.pure (F5 _ _)) (.cons (.pure (.val _)) (.cons (.map h1) (.cons (by
  refine .list G (λi r r' h1 h2=>by rw[h1]at h2;injection h2 with h2;rw[h2]) (λi j r r' c c' h1 h2 h3 h4=>?_) ?_
  .rw [h1]at h2;injection h2 with h2;subst h2;rw[h3]at h4;injection h4 with h4;subst h4
   obtain⟨y,_,rfl⟩:=D8.1 (n_3 h1);have hm:=n_3 h3;simp[scv]at hm;subst hm;exact .pure (.val _)
  .cases hb:br.length with
   |zero=>exact .inl ⟨G,G⟩
   |succ m=>exact .inr ⟨t,Jj,G,G,h3⟩) (.cons (.map h2) .nil)))))
theorem b5p{t:Nat}(h1:q1<L)(h2:q2<L)(h3:t<L):G1 L (wbx fl nn va br q1 q2 t):=x9 ⟨a0g _ _ _,.val _,.map h1,.list (λi j r c h h'=>by
 obtain⟨y,_,rfl⟩:=D8.1 (n_3 h);have hm:=n_3 h';simp[scv]at hm;subst hm;exact .val _) (λk hk=>by
  cases hb:br.length with
  |zero=>rw[hb]at hk;cases hk
  |succ m=>rw[hb]at hk;injection hk with hk;omega),.map h2,O⟩
theorem b5z(n:Nat)(m:SM):G1 n (smO m):=c0B b0f a7y n m
theorem b5B(n:Nat)(m:EM):G1 n (emO m):=c0B Nm.pure En.pure n m
theorem b17(eT:τ=wbx fl nn va br 1 2 3::smO ms::emO me::l8 br.length::rest)(hc:B5 4 [0,1,2,3] c c'):C9 4 τ (.ret c) (.ret c') (wst fl nn va br ms me):=by
 subst eT;exact⟨[0,1,2,3],G,G,.ret hc,.inr ⟨_,G,.same G a2D⟩,.inr ⟨_,G,.same G W5⟩,.inr ⟨_,G,.same G X2⟩,.inr ⟨_,G,.same G B0⟩,O⟩
theorem b8g{w t:Nat}(h:WAt σ w q1 q2 t fl nn va br ms me):∀(i k:Nat) (ob:b9),[w,q1,q2,t][i]?=some k->(wst fl nn va br ms me)[i]?=some ob->∃aH,[wbx fl nn va br q1 q2 t,smO ms,emO me,l8 br.length][i]?=some aH/\σ[k]?=some aH/\H3 (λi k=>[w,q1,q2,t][i]?=some k) ob aH:=λi k ob h1 h2=>by
 rcases i with _|_|_|_|i
 .injection h1 with h1;injection h2 with h2;subst h1 h2;exact⟨_,G,h.hw,b5D G G G⟩
 .injection h1 with h1;injection h2 with h2;subst h1 h2;exact⟨_,G,h.hs,a8f b0f a7y _⟩
 .injection h1 with h1;injection h2 with h2;subst h1 h2;exact⟨_,G,h.he,a8f Nm.pure En.pure _⟩
 .injection h1 with h1;injection h2 with h2;subst h1 h2;exact⟨_,G,h.ht,a2e _⟩
 .cases h1
theorem e3a{f:FuncId}{c:α->CV}(ap:∀a∈args,o8 a)(hc:∀a,o8 (c a))
 (h:b8 CC f (.ptr 0 0::args) (wst fl nn va br ms me) λr τ=>∃a,C9 4 τ r (.ret (c a)) (wst fl nn va br ms me)/\P a){σ:List b9}{w q1 q2 t:Nat}(aw:WAt σ w q1 q2 t fl nn va br ms me):b8 CC f (.ptr w 0::args) σ λr τ=>∃a,r= .ret (c a)/\τ=σ/\P a:=
 a2f [w,q1,q2,t] hCC G aw.nd (b8g aw) (.cons (.ptr G) (G7 ap)) (λa _=>hc a) (D7 hCC (h.mono λ_ _ ⟨a,h1,h2⟩=>⟨_,_,h1,a,G,G,h2⟩))
theorem d7l{f:FuncId}(ap:∀a∈args,o8 a)(hc:o8 c)
 (h:b8 CC f (.ptr 0 0::args) (wst fl nn va br ms me) λr τ=>C9 4 τ r (.ret c) (wst fl nn va br ms me)){σ:List b9}{w q1 q2 t:Nat}(aw:WAt σ w q1 q2 t fl nn va br ms me):b8 CC f (.ptr w 0::args) σ λr τ=>r= .ret c/\τ=σ:=
 (e3a (α:=Unit) (c:=λ_=>c) (P:=λ_=>True) ap (λ_=>hc) (h.mono λ_ _ hh=>⟨(),hh,O⟩) aw).mono λ_ _ ⟨_,h1,h2,_⟩=>⟨h1,h2⟩
def a0a(me:EM)(x:En):EM:=G6 me (A9 x.k x.p x.o) (match glk me (A9 x.k x.p x.o)with|some f=>{f with ct:=f.ct+1} |none=>x)
def p8(va:Bool)(me:EM)(k:Int)(p o:D):En:=if va=true then(match glk me (A9 k p o)with|some x=>x|none=>⟨(A9 k p o).p,o,k,[],0,0⟩)else En.z
def r8(fl:List Fi)(s:D):Option D:=(fl.find? λf=>decide (f.p=s)).map Fi.b
theorem b07{l:List Fi}{v:Fi}(h:l[i]?=some v)(s:D):r8 (l.drop i) s=if v.p=s then some v.b else r8 (l.drop (i+1)) s:=by
 obtain⟨ai,rfl⟩:=n_2.1 h;rw[a0v ai];unfold r8;rw[b9m];by_cases hh:l[i].p=s
 .simp [hh]
 .simp [hh]
theorem c5c(fl:List Fi)(nn va:Bool)(br:List D)(ms:SM)(me:EM)(x:En)(cX:∀k e,glk me k=some e->0<=e.ct/\e.ct<=1000000):b8 CC 81 [.ptr 0 0,.agg x.cells] (wst fl nn va br ms me) λr τ=>C9 4 τ r (.ret (.tup [])) (wst fl nn va br ms (a0a me x)):=by
 refine cO Tryz.func81 ?_;refine a59 ?_;refine o7 ?_;refine z_0 ?_;refine cY a85 ?_;refine cY a0F ?_;refine cY c31 ?_;refine cY W7 ?_;refine cY c31 ?_;refine cY W7 ?_;refine yc G Tryz.call106 D0 (b7Q x.k x.p x.o _) ?_;refine d6o ?_;refine a2n ?_;refine F7 ?_;refine d9f ?_;refine chf G a1e ?_;refine chf G (c7 G b3a) ?_;refine chf G (c7 G b23) ?_;refine chf G (c7 G b3t) ?_;refine chf G (c7 G e1r) ?_;refine c3I ?_;refine chf G a7d ?_;refine d0U ?_;refine⟨⟨C3,a3q,(by exact c7 G b3a),(by exact c7 G b23),(by exact c7 G b3t),(by exact c7 G e1r),C3,Q7,Q7,O⟩,?_⟩;refine d6c ?_;refine a5x ?_;refine z_1 ?_;refine o7 ?_;refine cC ?_ ?_<;>intro h1
 .obtain ⟨e,he⟩:∃e,glk me (A9 x.k x.p x.o)=some e:=b27.1 h1;have aT:=cX _ _ he;rw[he];have hle2:0<=((some e).getD En.z).ct/\((some e).getD En.z).ct<=1000000:=aT;refine z_0 ?_;refine cY a3h ?_;refine c86 ?_;refine C4 ?_;refine cY a85 ?_;refine cY a0F ?_;refine cY o3 ?_;refine cY a85 ?_;refine d2C ?_;refine cW 6 ?_;refine a2S ?_;refine hY b3a ?_;refine hY b23 ?_;refine hY b3t ?_;refine hY a3h ?_;refine a2K ?_;refine cD (p9 (vc:=vcE) (l:=me) (a:=(A9 x.k x.p x.o)) (b:={e with ct:=e.ct+1}) d5x (.inl rfl) O O trivial rfl rfl rfl d1q rfl ?_);refine o7 ?_;exact⟨_,rE0,(by have ha:a0a me x=G6 me (A9 x.k x.p x.o) {e with ct:=e.ct+1}:=(by rw[a0a,he]);exact b17 (by rw[ha];rfl) (.old (Old.tup (λi c h=>by cases h))))⟩
 .have he:glk me (A9 x.k x.p x.o)=none:=U h1;refine A8 ?_;refine cW 6 ?_;refine a2S ?_;refine hY b3a ?_;refine hY b23 ?_;refine hY b3t ?_;refine hY a3h ?_;refine a2K ?_;refine cD (p9 (vc:=vcE) (l:=me) (a:=(A9 x.k x.p x.o)) (b:=x) d5x (.inl G) O O trivial G G G d1q G ?_);refine o7 ?_;exact⟨_,rE0,(by have ha:a0a me x=G6 me (A9 x.k x.p x.o) x:=(by rw[a0a,he]);exact b17 (by rw[ha];rfl) (.old (Old.tup (λi c h=>by cases h))))⟩
theorem d1o(fl:List Fi)(nn va:Bool)(br:List D)(ms:SM)(me:EM)(k:Int)(p o:D):b8 CC 82 [.ptr 0 0,iv k,(sv p),(sv o)] (wst fl nn va br ms me) λr τ=>C9 4 τ r (.ret (.agg (p8 va me k p o).cells)) (wst fl nn va br ms me):=by
 refine cO Tryz.func82 ?_;refine z_0 ?_;refine cD (j6 G a0z G i9 ?_);refine a2n ?_;refine a2a ?_;refine cY (i7 G O G c5s G b4V I) ?_;refine cY (l9 G O G b9B G G) ?_;refine b0j ?_;refine cC ?_ ?_<;>intro h1
 .have hv:va=false:=U h1;refine z_0 ?_;refine cY e1O ?_;refine c86 ?_;refine c6 ?_;exact⟨_,B7 G b78,(by rw[p8,H (by rw[hv];decide)];exact b17 G (.old (c:=.agg En.z.cells) (En.pure _).old))⟩
 .have hv:va=true:=U h1;refine A8 ?_;refine a4b ?_;refine cY A2 ?_;refine yc G Tryz.call106 D0 (b7Q k p o _) ?_;refine d6o ?_;refine a2n ?_;refine F7 ?_;refine d9f ?_;refine chf G a1e ?_;refine chf G (c7 G b3a) ?_;refine chf G (c7 G b23) ?_;refine chf G (c7 G b3t) ?_;refine chf G (c7 G e1W) ?_;refine c3I ?_;refine chf G a7d ?_;refine d0U ?_;refine⟨⟨C3,a3q,(by exact c7 G b3a),(by exact c7 G b23),(by exact c7 G b3t),(by exact c7 G e1W),C3,Q7,Q7,O⟩,?_⟩;refine d6c ?_;refine a5x ?_;refine z_1 ?_;refine o7 ?_;refine cC ?_ ?_<;>intro h2
  .obtain ⟨e,he⟩:∃e,glk me (A9 k p o)=some e:=b27.1 h2;rw[he];refine z_0 ?_;refine cY a3h ?_;refine c86 ?_;refine c6 ?_;exact⟨_,B7 G b78,(by rw[p8,W hv,he];exact b17 G (.old (c:=.agg e.cells) (En.pure _).old))⟩
  .have he:glk me (A9 k p o)=none:=U h2;refine A8 ?_;refine z_0 ?_;refine cY (i7 G O G d0p G t_0 I) ?_;refine cY W7 ?_;refine cY A2 ?_;refine cY A2 ?_;refine cY e1R ?_;refine c86 ?_;refine c6 ?_;exact⟨_,B7 G b78,(by rw[p8,W hv,he];exact b17 G (.old (c:=.agg (⟨(A9 k p o).p,o,k,[],0,0⟩:En).cells) (En.pure _).old))⟩
theorem c8z(fl:List Fi)(nn va:Bool)(br:List D)(ms:SM)(me:EM)(s:D)(dr:fl.length<=1000000):b8 CC 129 [.ptr 0 0,(sv s)] (wst fl nn va br ms me) λr τ=>C9 4 τ r (.ret (.tup [sv ((r8 fl s).getD []),.val (.bool (r8 fl s).isSome)])) (wst fl nn va br ms me):=by
 refine qO Tryz.func129 ?_;refine u a2E ?_;refine u0 hCC (α:=Nat) (λi=>[(1,(sv s)),(12,(.list (fl.map Fi.cv) nn none)),(13,iv fl.length),(14,iv i)]) (λ_=>(wst fl nn va br ms me)) (λi=>i<=fl.length/\r8 fl s=r8 (fl.drop i) s) (λi=>fl.length -i) 0 ⟨n_4 _,G⟩ tu_ (au:=[]) G D5 uz_ ?_;intro i ⟨hi,hr⟩;refine qk (qC ?_ ?_)<;> intro h1
 .have ai:(i:Int)<fl.length:=U h1;obtain⟨y,hb⟩:=gx_ fl i;rw[b07 hb]at hr;refine b3O ?_;refine qC ?_ ?_<;>intro h2
  .have u2:y.p=s:=U h2;rw[W u2]at hr;refine c6 ?_;exact⟨_,o9 (rs:=[.tmp 4,.tmp 5]) (cs:=[_,_]) G a9o (n_5 G),(by rw[hr];exact b17 G (.old (c:=.tup [sv y.b,.val (.bool true)]) (o8.old (.tup (λc hc=>by simp at hc;rcases hc with rfl|rfl<;>exact .val _)))))⟩
  .have u2:¬y.p=s:=U h2;rw[H u2]at hr;exact b2d
 .have aL:fl.length<=i:=sm_ h1;rw[a0V aL]at hr;refine V5 ?_;exact⟨_,o9 (rs:=[.tmp 4,.tmp 5]) (cs:=[_,_]) G a9o (n_5 G),(by rw[hr];exact b17 G (.old (c:=.tup [sv [],.val (.bool false)]) (o8.old (.tup (λc hc=>by simp at hc;rcases hc with rfl|rfl<;>exact .val _)))))⟩
theorem a6y{aa:List (List CV)}{r:List CV}(h:aa[i]?=some r)(e:j=i):aa[j]?=some r:=e▸h
abbrev zK:Ky:=⟨0,[],[]⟩
def a6e(k:Ky):List Ky->Nat
 | []=>0
 |y::l=>if ltK y k=true then a6e k l+1 else 0
def J8(l:List Ky)(k:Ky):List Ky:=if l[a6e k l]?=some k then l else l.take (a6e k l)++k::l.drop (a6e k l)
theorem c2r(k:Ky):∀l:List Ky,a6e k l<=l.length
 | []=>n_6 _
 |y::l=>by
  have:=c2r k l;unfold a6e
  split<;>simp<;>omega
theorem b3F{k y:Ky}{l:List Ky}(h:l[i]?=some y):a6e k (l.drop i)=if ltK y k=true then a6e k (l.drop (i+1))+1 else 0:=by
 obtain⟨ai,rfl⟩:=n_2.1 h;rw[a0v ai];rfl
theorem b1t{l:List (List CV)}{z y:List CV}(hi:i<=l.length):(G9 (l++[z]) (i+1) (((l++[z]).drop i).take (l.length -i))).set i y=l.take i++y::l.drop i:=by
 obtain⟨A,B,rfl,rfl⟩:∃A B,l=A++B/\A.length=i:=⟨l.take i,l.drop i,Q,by simp;omega⟩;have h1:((A++B++[z]).drop A.length).take ((A++B).length -A.length)=B:=by simp
 rw[h1];obtain⟨h,t,ht⟩:∃h t,B++[z]=h::t:=by cases B<;>simp
 have h2:A++B++[z]=A++h::t:=by rw[T5,ht]
 have h3:t.length=B.length:=by have:=n_7 List.length ht;simp at this;omega
 unfold G9;have h4:(A++h::t).take (A.length+1)=A++[h]:=by rw[List.take_append,a2p J,d1w];rfl
 have h5:(A++h::t).drop (A.length+1+B.length)=[]:=by rw[List.drop_eq_nil_iff];simp;omega
 rw[h2,h4,h5,a0h];simp
theorem b3J{l N:List (List CV)}{z:List CV}(hi:i<=l.length):(G9 (l++[z]) (i+1) N)[i]?=(l++[z])[i]?:=by
 unfold G9;rw[T6 G5,a38,W J]
theorem a0M(n:Nat)(l:List Ky):G1 n (.vec 3 (l.map Ky.cv)):=λr hr c hc=>((C2 (f:=Ky.cv) (λ_=>N8.all ⟨.val _,.val _,.val _,O⟩) _) r hr c hc).old
def e3g(g:Bool)(l l':List Ky):List b9:=if g=true then [.dead,.vec 3 (l'.map Ky.cv)]else [.vec 3 (l.map Ky.cv)]
theorem c5k(l:List Ky)(k:Ky)(hl:l.length<=100000000):b8 CC 73 [.vec 0 0 l.length,.agg k.cells] [(.vec 3 (l.map Ky.cv))] λr τ=>∃g:Bool,C9 1 τ r (.ret (.vec (if g=true then 1 else 0) 0 (J8 l k).length)) (e3g g l (J8 l k))/\(g=false->J8 l k=l):=by
 refine qO Tryz.func73 ?_;refine qD (F4 G O j1 i9 ?_);refine L6 (α:=Nat) (λi=>[(0,(.vec 0 0 l.length)),(3,.ptr 1 0),(5,iv i)]) (λ_=>[(.vec 3 (l.map Ky.cv)),.box k.cells]) (λi=>i<=l.length/\a6e k l=i+a6e k (l.drop i)) (λi=>l.length -i) 0 ⟨n_4 _,(P4 _).symm⟩ tu_ G ?_;intro i E0 ⟨hi,hr⟩;obtain⟨y,hb⟩:∃y,i<l.length->l[i]?=some y:=⟨l.getD i ⟨0,[],[]⟩,λh=>by simp[h]⟩;refine qk ?_;refine a9t ?_;refine hY b8S ?_;refine a9k ?_;refine D4 G G O G e09 ?_;refine D4 G G O G e1Q ?_;refine D4 G G O G c6x ?_;refine D4 G G O G (λhg=>c5 G Tryz.call100 ⟨hg,hg,O⟩ (b0r y k _) G) ?_;refine a57 ?_;refine qC ?_ ?_<;>intro h1
 .have dP:(i:Int)< (l.length:Int)/\ltK y k=true:=U h1;have ai:i<l.length:=by omega
  rw[b3F (hb ai),W dP.2]at hr;refine u o3 ?_;exact⟨i+1,J,⟨J,J⟩,tu_,G⟩
 .have hi0:a6e k l=i:=by
   rcases a3d i l.length with ai|aL
   .rw [b3F (hb ai)]at hr;have hn:¬ltK y k=true:=λe=>by
     have:((i:Int)< (l.length:Int)):=by omega
     simp[e]at h1;omega
    rw[H hn]at hr;exact hr
   .rw [a0V aL]at hr;exact hr
  refine o6 ?_;refine a9t ?_;refine hY b8S ?_;refine a9k ?_;refine D4 G G O G e09 ?_;refine D4 G G O G e1Q ?_;refine D4 G G O G c6x ?_;refine D4 G G O G (λhg=>a5W G hg hg (xs:=[.int .i64 y.k,.string (str y.a),.string (str y.b)]) (ys:=[.int .i64 k.k,.string (str k.a),.string (str k.b)]) G G c48 (b3m y k)) ?_;refine a57 ?_;refine qC ?_ ?_<;>intro h2
  .have dl:(i:Int)< (l.length:Int)/\y=k:=U h2;have hh:J8 l k=l:=by rw[J8,hi0,W (by rw[hb J,dl.2])]
   refine c6 ?_;exact⟨_,rE1,⟨false,by rw[hh];exact⟨[0],G,G,.ret (.vec G),.inr ⟨_,G,.same G (a0M _ _)⟩,O⟩,λ_=>hh⟩⟩
  .have hh:J8 l k=l.take i++k::l.drop i:=by
    rw[J8,hi0,H];intro e
    rcases a3d i l.length with ai|aL
    .rw [hb ai]at e;injection e with e;subst e;simp at h2;omega
    .rw [b5V J]at e;cases e
   have hhl:(J8 l k).length=l.length+1:=by rw[hh];simp;omega
   obtain⟨x,hx⟩:∃x,(l++[zK])[i]?=some x:=⟨(l++[zK])[i]'G5,Q⟩;have hrx:(G9 ((l++[zK]).map Ky.cv) (0+(i+1)) ((((l++[zK]).map Ky.cv).drop (0+i)).take (l.length+1- (i+1))))[0+(i:Int).toNat]?=some (Ky.cv x):=by
    rw[show 0+(i:Int).toNat=i by omega,P4,P4,show l.length+1- (i+1)=l.length -i by omega,a8o,a8C,List.map_nil,b3J (U hi)];have:((l++[zK]).map Ky.cv)[i]?=some (Ky.cv x):=by rw[N6,hx];rfl
    simpa using this
   have aG:(G9 ((l++[zK]).map Ky.cv) (0+(i+1)) ((((l++[zK]).map Ky.cv).drop (0+i)).take (l.length+1- (i+1)))).set (0+(i:Int).toNat) (Ky.cv k)=(J8 l k).map Ky.cv:=by
    rw[hh,show 0+(i:Int).toNat=i by omega,P4,P4,show l.length+1- (i+1)=l.length -i by omega];have:=b1t (l:=l.map Ky.cv) (z:=Ky.cv zK) (y:=Ky.cv k) (i:=i) (U hi);simpa using this
   refine u e1u ?_;refine u e1f ?_;refine qD (a9e ((l++[zK]).map Ky.cv) (l.length+1) G O O G q_3 t_5 t_3 a9G a0A G G Q Q c52 E9 Q Q ?_);refine cW 7 ?_;refine a4x ?_;refine hY o3 ?_;refine hY (H6 (l:=(i+1)) G O G t_5 t_3 G a1l G a1w Q) ?_;refine a4x ?_;refine hY (H6 (l:=i) G O G t_5 t_3 G a1l G a1w Q) ?_;refine a3D ?_;refine qD (a5l G O O G G t_5 t_3 G J G5 G5 ?_);refine u a86 ?_;refine qD (U6 ((J8 l k).map Ky.cv) G O O G j1 t_3 i9 G hrx G (nb G) (by exact aG) G ?_);refine c6 ?_;exact⟨_,rE1,⟨true,by rw[hhl];exact⟨[0,2],G,G,.ret (.vec G),.inl G,.inr ⟨_,G,.same G (a0M _ _)⟩,O⟩,λh=>by cases h⟩⟩
theorem c4k(k:Ky):b8 CC 73 [.list [] false none,.agg k.cells] [] λr τ=>C9 0 τ r (.ret (.vec 0 0 1)) [.vec 3 ([k].map Ky.cv)]:=by
 refine qO Tryz.func73 ?_;refine qD (F4 G O j1 i9 ?_);refine L6 (α:=Nat) (λi=>[(0,(.list [] false none)),(3,.ptr 0 0),(5,iv i)]) (λ_=>[.box k.cells]) (λi=>i=0) (λi=>0) 0 G tu_ G ?_;intro i E0 hi;subst hi;refine qk ?_;refine a9t ?_;refine hY a7K ?_;refine a9k ?_;refine D4 G G O G e0W ?_;refine d6Y ?_;refine D4 G G O G (λhg=>c5 G Tryz.call100 ⟨hg,hg,O⟩ (b0r k k _) G) ?_;refine a57 ?_;refine cC ?_ ?_<;>intro h1
 .exfalso;simp at h1
 .refine o6 ?_;refine a9t ?_;refine hY a7K ?_;refine a9k ?_;refine D4 G G O G e0W ?_;refine d6Y ?_;refine D4 G G O G (λhg=>a5W G hg hg (xs:=[.int .i64 k.k,.string (str k.a),.string (str k.b)]) (ys:=[.int .i64 k.k,.string (str k.a),.string (str k.b)]) G G c48 (b3m k k)) ?_;refine a57 ?_;refine cC ?_ ?_<;>intro h2
  .exfalso;simp at h2
  .refine qk (u e1u ?_);refine u e1f ?_;refine qD (b0a 1 G O O G q_3 t_5 t_3 a9G a0A G Q c52 E9 Q ?_);refine cW 7 ?_;refine a4x ?_;refine hY o3 ?_;refine hY (H6 (l:=(0+1)) G O G t_5 t_3 G a1l G a1w Q) ?_;refine a4x ?_;refine hY (H6 (l:=0) G O G t_5 t_3 G a1l G a1w Q) ?_;refine a3D ?_;refine qD (a5l G O O G G t_5 t_3 G J Q Q ?_);refine u a86 ?_;refine qD (U6 [Ky.cv k] G O O G j1 t_3 i9 G (r:=Ky.cv zK) G G (nb G) (by rfl) G ?_);refine c6 ?_;exact⟨_,rE1,⟨[1],G,G,.ret (.vec (k:=[b9.box k.cells].length) G),.inr ⟨_,G,.same G (a0M 0 [k])⟩,O⟩⟩
end Go.Proofs.YtncmhkpnclafkaaGreatDoor
