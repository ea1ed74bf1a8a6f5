/- Part 3 of what the claim needs: values without addresses, and what the program's functions do with them. -/
import Derived.Test.YtncmhkpnclafkaaGreatDoorProg
import Derived.Test.YtncmhkpnclafkaaGreatDoorY2
set_option linter.all false
set_option maxRecDepth 100000
set_option maxHeartbeats 4000000
namespace Go.Cl
variable{o:Oper}{l:List Oper}{c:CV}{f:FuncId}{xs:Array Operand}{ts:Array TypeId}{cargs:List CV}
section
variable{C:Ctx}{n:Nat}{ab:Array Oper}{Jh:A7->Env->List b9->Prop}{E:Env}{σ:List b9}
theorem cY(hy:l8 C σ E o c)(h:I6 C n ab Jh l (E.put o.dst c True) σ)(hg:o.guard=none:=by rfl)(hd:(match o.dst with|some d=>Nat.blt d n|none=>true)=true:=by rfl):I6 C n ab Jh (o::l) E σ:=d6l hg hd hy h
theorem cD(h:G5 C σ E o λr aa=>match r with| .ret c=>I6 C n ab Jh l (E.put o.dst c True) aa| .pan c=>Jh (.pan c) E aa)(hg:o.guard=none:=by rfl)(hd:(match o.dst with|some d=>Nat.blt d n|none=>true)=true:=by rfl):I6 C n ab Jh (o::l) E σ:=a27 hg hd h
theorem cG{j t:Nat}{av b:Bool}(hy:b=av->l8 C σ E o c)(h:I6 C n ab Jh l (E.put o.dst c (b=av)) σ)(hg:o.guard=some (j,av):=by rfl)(ht:(ab[j]?).bind (·.dst)=some t:=by rfl)(hv:E.ok t:=by exact J)(hb:E.f t= .val (.bool b):=by rfl)
 (hd:(match o.dst with|some d=>Nat.blt d n|none=>true)=true:=by rfl):I6 C n ab Jh (o::l) E σ:=e2E hg ht hv hb hd hy h
theorem cC{c:Operand}{x y:Code}{b:Bool}(ht:b=true->CWp C n x Jh E σ)(gR:b=false->CWp C n y Jh E σ)(hv:E.valid c:=by first|exact J|exact O)(hc:E.val C c= .val (.bool b):=by exact O):CWp C n (.cond c x y) Jh E σ:=a5C hv hc ht gR
theorem hY{K:Env->Prop}(k:l8 C σ E o c)(h:a2A C σ ab K l (E.put o.dst c True))(hg:o.guard=none:=by rfl):a2A C σ ab K (o::l) E:=e3l hg k h
theorem yc(ho:o.op = .call {callee:=.value (.func f),args:=xs,argTypes:=ts})(aA:∀args w,(callFunc f args).run C.P w= .ok (.enter f args) w)
 (hv:E.valids xs.toList)(h:b8 C f cargs σ λr aa=>r= .ret c/\aa=σ)(k:I6 C n ab Jh l (E.put o.dst c True) σ)(ea:(E.vals C xs.toList).map CV.fgt=cargs:=by exact O)(hg:o.guard=none:=by rfl)(hd:(match o.dst with|some d=>Nat.blt d n|none=>true)=true:=by rfl):I6 C n ab Jh (o::l) E σ:=d6l hg hd (c5 ho aA hv h ea) k
theorem dc{α:Type}{c:α->CV}{S:α->List b9}{P:α->Prop}(ho:o.op = .call {callee:=.value (.func f),args:=xs,argTypes:=ts})(aA:∀args w,(callFunc f args).run C.P w= .ok (.enter f args) w)
 (hv:E.valids xs.toList)(h:b8 C f cargs σ λr aa=>∃a,r= .ret (c a)/\aa=S a/\P a)(hk:∀a,P a->I6 C n ab Jh l (E.put o.dst (c a) True) (S a))(ea:(E.vals C xs.toList).map CV.fgt=cargs:=by exact O)(hg:o.guard=none:=by rfl)(hd:(match o.dst with|some d=>Nat.blt d n|none=>true)=true:=by rfl):I6 C n ab Jh (o::l) E σ:=a27 hg hd (c4 ho aA hv h ea hk)
theorem ye(ho:o.op = .call {callee:=.value (.func f),args:=xs,argTypes:=ts})(aA:∀args w,(callFunc f args).run C.P w= .ok (.enter f args) w)
 (hv:E.valids xs.toList)(h:b8 C f cargs σ λr aa=>r= .ret c/\aa=σ)(ea:(E.vals C xs.toList).map CV.fgt=cargs)(k:I6 C n ab Jh l (E.put o.dst c True) σ)(hg:o.guard=none:=by rfl)(hd:(match o.dst with|some d=>Nat.blt d n|none=>true)=true:=by rfl):I6 C n ab Jh (o::l) E σ:=yc ho aA hv h k ea hg hd
theorem de{α:Type}{c:α->CV}{S:α->List b9}{P:α->Prop}(ho:o.op = .call {callee:=.value (.func f),args:=xs,argTypes:=ts})(aA:∀args w,(callFunc f args).run C.P w= .ok (.enter f args) w)
 (hv:E.valids xs.toList)(h:b8 C f cargs σ λr aa=>∃a,r= .ret (c a)/\aa=S a/\P a)(ea:(E.vals C xs.toList).map CV.fgt=cargs)(hk:∀a,P a->I6 C n ab Jh l (E.put o.dst (c a) True) (S a))(hg:o.guard=none:=by rfl)(hd:(match o.dst with|some d=>Nat.blt d n|none=>true)=true:=by rfl):I6 C n ab Jh (o::l) E σ:=dc ho aA hv h hk ea hg hd
def d5L(ab:Array Oper):List Nat:=ab.toList.foldl (λms o=>ms++[o.after.toList.foldl (λm e=>if b5G e then(m |||(1 <<< e.on)) |||ms.getD e.on 0 else m) 0]) []
theorem cW{id:Nat}(nh:Nat)(h:a2A C σ ab (λE'=>I6 C n ab Jh (ab.toList.drop nh) E' σ) (ab.toList.take nh) E)(hm:C.P.follows .mixedOrders=true:=by kernel_rfl)(hB:c5m ab nh (d5L ab)=true:=by kernel_rfl)
 (hd:(ab.toList.all λo=>match o.dst with|some d=>Nat.blt d n|none=>true)=true:=by rfl):CWp C n (.region id ab true) Jh E σ:=d6t nh (d5L ab) hm hB hd h
theorem rE1{fn:Func}{t:Nat}(hr:fn.results = #[.tmp t]:=by exact O)(hv:E.ok t:=by exact J)(ec:E.f t=c:=by conv=>lhs;whnf):W6 C E σ fn c:=b2R hr hv ec
theorem rE0{fn:Func}(hr:fn.results = #[]:=by exact O):W6 C E σ fn (.tup []):=r8 (rs:=[]) (cs:=[]) hr trivial (n_4 O)
theorem cF{id:Nat}(qs hd:List Nat){tl:List (Nat×List Nat)}(h:a0V C σ ab (λE' S=>V0 C ab qs Jh S tl E' σ) hd E [])(hm:C.P.follows .mixedOrders=true:=by kernel_rfl)(hB:b1I ab qs (d5L ab) hd tl=true:=by kernel_rfl)
 (bV:(ab.toList.all λo=>match o.dst with|some d=>Nat.blt d n|none=>true)=true:=by rfl):CWp C n (.region id ab true) Jh E σ:=b2G qs (d5L ab) hd hm hB bV h
theorem cO{fn:Func}{c:Code}{args:List CV}{K:R8->List b9->Prop}(hf:C.P.funcs[f]?=some fn)(h:CWp C fn.ntmps c (Fin C fn K) (Env.args args) σ)(hb:fn.body=some c:=by rfl)(hn:Nat.ble args.length fn.ntmps=true:=by rfl):b8 C f args σ K:=a88 hf hb hn h
end
end Go.Cl
namespace Go.Proofs.YtncmhkpnclafkaaGreatDoor
open Go Go.Cl
variable{s u:I}{α β:Type}{σ τ rest:List b9}{i q f L m aV parts i1 j s' q1 q2:Nat}{e lv:Int}{c c':CV}{ks:List Int}{R:Nat->Nat->Prop}{P:α->Prop}{x y va:Bool}{N:α->Nat}{br d:List I}{vc:β->CV}{bad:Prop}{ak:List Nat}
abbrev iv(x:Int):CV:=.val (.int .i64 x)
def c1M:List CV:=[1,10,100,1000,10000,100000,1000000,10000000,100000000,1000000000,10000000000,100000000000,1000000000000,10000000000000,100000000000000,1000000000000000,10000000000000000,100000000000000000,1000000000000000000,10000000000000000000].map λz:Int=>.val (.int .u64 z)
def tyT:List (Nat×TyE):=[(9,⟨false,1,[]⟩),(3,⟨false,1,[]⟩),(49,⟨true,3,[0,1,2]⟩),(25,⟨true,1,[0]⟩),(146,⟨true,5,[0,1,2,3,4]⟩),(104,⟨true,4,[0,1,2,3]⟩),(99,⟨true,3,[0,1,2]⟩),(83,⟨true,6,[0,1,2,3,4,5]⟩),(73,⟨true,2,[0,1]⟩),(205,⟨true,4,[0,1,2,3]⟩),(28,⟨true,1,[0]⟩),(68,⟨false,1,[]⟩),(225,⟨true,7,[0,1,2,3,4,5,6]⟩),(23,⟨false,1,[]⟩),(22,⟨false,1,[]⟩),(94,⟨true,2,[0,1]⟩),(170,⟨true,4,[0,1,2,3]⟩),(102,⟨false,1,[]⟩),(42,⟨false,1,[]⟩),(97,⟨false,1,[]⟩),(79,⟨true,2,[0,1]⟩),(89,⟨true,5,[0,1,2,3,4]⟩),(322,⟨true,5,[0,2,3,4]⟩),(29,⟨false,1,[]⟩),(59,⟨true,6,[0,3,4,5]⟩),(30,⟨false,1,[]⟩),(264,⟨true,2,[0,1]⟩),(26,⟨false,1,[]⟩),(159,⟨false,1,[]⟩),(4,⟨false,1,[]⟩),(5,⟨false,1,[]⟩),(40,⟨true,2,[0,1]⟩),(32,⟨true,2,[0,1]⟩),(92,⟨false,1,[]⟩),(86,⟨false,1,[]⟩),(282,⟨false,1,[]⟩),(84,⟨false,1,[]⟩),(318,⟨true,2,[]⟩),(87,⟨false,1,[]⟩),(173,⟨true,3,[0,1,2]⟩),(57,⟨true,3,[]⟩),(338,⟨true,2,[0,1]⟩),(55,⟨false,1,[]⟩),(166,⟨true,2,[0,1]⟩),(162,⟨false,1,[]⟩),(262,⟨false,1,[]⟩),(124,⟨true,13,[0,1,3,4,5,11,12]⟩),(142,⟨true,5,[0,1,2,3,4]⟩),(199,⟨true,4,[0,1,2,3]⟩),(80,⟨false,1,[]⟩),(140,⟨false,1,[]⟩)]
theorem e0S:tyT.all (tyB Tryz.prog)=true:=by kernel_rfl
noncomputable def CC:Ctx:={P:=Tryz.prog,glob:=λg=>match g with|1=>some c1M|_=>none,tab:=tyT,right:=e0i e0S}
theorem hCC:CC.plain:=λg cells h=>by
 have:cells=c1M:=by
  simp only[CC]at h;split at h
  .exact (Option.some.inj h).symm
  .cases h
 subst this;intro c hc;obtain⟨z,_,rfl⟩:=D6.1 hc;exact .val _
theorem an_{f:FuncId}{fn:Func}{c:Code}{args:List CV}{res:CV}(hf:CC.P.funcs[f]?=some fn)(h:CWp CC fn.ntmps c (Fin CC fn λr τ=>∃az c,τ=[]++az/\r= .ret c/\Cls ([]:List b9).length τ c res) (Env.args args) [])(hb:fn.body=some c:=by rfl)(hn:Nat.ble args.length fn.ntmps=true:=by rfl)(p1:O4 args:=by exact pu_)(p2:p9 res:=by exact pu_):b8 CC f args σ λr τ=>r= .ret res/\τ=σ:=b8.anyw hCC p1 p2 (c7 (a88 hf hb hn h)) σ
def icv(x:Int):List CV:=[iv x]
def scv(x:I):List CV:=[sv x]
theorem a0X(l:List Int)(nn:Bool):p9 (.list (l.map icv) nn none):=F3 (f:=icv) (λ_=>⟨.val _,J⟩) l nn
theorem F2(l:List I)(nn:Bool):p9 (.list (l.map scv) nn none):=F3 (f:=scv) (λ_=>⟨.val _,J⟩) l nn
theorem P7(n:Nat)(l:List Int)(nn:Bool):Old n (.list (l.map icv) nn none):=(a0X l nn).old
theorem C4(n:Nat)(l:List I)(nn:Bool):Old n (.list (l.map scv) nn none):=(F2 l nn).old
def d6y:I:=[97,98,99,100,101,102,103,104,105,106,107,108,109,110,111,112,113,114,115,116,117,118,119,120,121,122]
def e3m:I:=[48,49,50,51,52,53,54,55,56,57]
def a4s:I:=[59,44,40,41,43,45,42,47,37,60,61]
def M0:List (Int×I):=[(1,d6y),(2,e3m),(3,[95]),(4,[46]),(5,[9,10,13,32]),(6,[35]),(7,[34]),(8,a4s)]
def l9(c:Int):Int:=
 if 97<=c/\c<=122 then 1 else if 48<=c/\c<=57 then 2 else if c=95 then 3 else if c=46 then 4 else if c=9\/c=10\/c=13\/c=32 then 5 else if c=35 then 6 else if c=34 then 7
 else if c=59\/c=44\/c=40\/c=41\/c=43\/c=45\/c=42\/c=47\/c=37\/c=60\/c=61 then 8 else 0
abbrev kb(a:Int):CV:=.val (.int .u8 a)
abbrev kv(a:Int):CV:=iv a
theorem d4H:T6 (α:=Int) CC.P 5 kb (λa=>.int .u8 a):=c9x .u8 b6r
theorem a0D:T6 (α:=Int) CC.P 3 kv (λa=>.int .i64 a):=c9x .i64 c3L
theorem b5Y:T6 (α:=I) CC.P 9 sv (λa=>.string (str a)):=e0N t_5
def KM(m:List (Int×Int)):Prop:=∀c,(glk m c).getD 0=l9 c
theorem X9(n:Nat)(m:List (Int×Int)):F7 n (.map (gm kb kv m)):=λx hx=>by
 obtain⟨y,_,rfl⟩:=D6.1 hx;exact⟨.val _,.val _⟩
theorem d3w(n:Nat)(a b:List (Int×I)):F7 n (.iter (gm kv sv a) (gm kv sv b)):=⟨λx hx=>by
 obtain⟨y,_,rfl⟩:=D6.1 hx;exact⟨.val _,.val _⟩,λx hx=>by
 obtain⟨y,_,rfl⟩:=D6.1 hx;exact⟨.val _,.val _⟩⟩
theorem d1Q(m:List (Int×Int)):a2Z (.map (gm kb kv m)):=λx hx=>by
 obtain⟨y,_,rfl⟩:=D6.1 hx;exact⟨.val _,.val _⟩
def InB(s:I)(c:Int):Prop:=∃b∈s,(b.toNat:Int)=c
instance(s:I)(c:Int):Decidable (InB s c):=by unfold InB;exact inferInstance
def KL(m:List (Int×Int))(left:List (Int×I)):Prop:=left.Nodup/\(∀x∈left,x∈M0)/\∀c,(glk m c).getD 0=if ∃x∈left,InB x.2 c then 0 else l9 c
theorem d5h:∀x∈M0,∀b∈x.2,l9 (b.toNat:Int)=x.1:=by decide
theorem c80:∀x∈M0,∀y∈M0,x≠y->∀b∈x.2,b∉y.2:=by decide
theorem d1i:M0.Nodup:=by decide
theorem d9T:∀c:Fin 256,l9 (c.val:Int)≠0->∃x∈M0,∃b∈x.2,(b.toNat:Int)=(c.val:Int):=by decide
theorem d6M{c:Int}(h:l9 c≠0):∃x∈M0,∃b∈x.2,(b.toNat:Int)=c:=by
 have hr:0<=c/\c<256:=by
  unfold l9 at h;split at h;· omega
  split at h;· omega
  split at h;· omega
  split at h;· omega
  split at h;· omega
  split at h;· omega
  split at h;· omega
  split at h
  .omega
  .exact absurd O h
 obtain⟨n,rfl⟩:∃n:Nat,c=n:=⟨c.toNat,G⟩;exact d9T ⟨n,G⟩ h
theorem KL.start:KL [] M0:=by
 refine⟨d1i,λx h=>h,λc=>?_⟩
 split
 .rfl
 .rename_i cM;have:l9 c=0:=by
   rcases Int.decEq (l9 c) 0 with h|h
   .exact absurd (d6M h) cM
   .exact h
  rw[this];rfl
theorem KL.done{m:List (Int×Int)}(h:KL m []):KM m:=λc=>by
 rw[h.2.2 c,W U]
theorem KL.step{m m':List (Int×Int)}{left:List (Int×I)}{x:Int×I}(h:KL m left)(hx:left[i]?=some x)(hm:∀c,(glk m' c).getD 0=if InB x.2 c then x.1 else(glk m c).getD 0):KL m' (left.eraseIdx i):=by
 obtain⟨h1,h2,h3⟩:=h;have hxm:=h2 x (n_3 hx);have hsub:∀y,y∈left.eraseIdx i↔y∈left/\y≠x:=λy=>by
  have af:=(n_2.1 hx).1;have hxe:=(n_2.1 hx).2;constructor
  .intro hy;obtain⟨j,hj,eM⟩:=c78.1 hy;refine⟨n_3 eM,λe=>?_⟩;subst e;exact hj ((List.getElem?_inj (n_2.1 eM).1 h1).1 (by rw[eM,hx]))
  .rintro ⟨hy,ax⟩;obtain⟨j,hj⟩:=K5.1 hy;refine c78.2 ⟨j,λe=>?_,hj⟩;subst e;rw[hx]at hj;exact ax (Option.some.inj hj).symm
 refine⟨h1.sublist (List.eraseIdx_sublist _ _),λy hy=>h2 y ((hsub y).1 hy).1,λc=>?_⟩;rw[hm c,h3 c];by_cases hc:InB x.2 c
 .rw [Q hc,W]
  .obtain ⟨b,hb,rfl⟩:=hc;exact(d5h x hxm b hb).symm
  .rintro ⟨y,hy,b',hb',he⟩;obtain⟨b,hb,hbc⟩:=hc;obtain⟨fj,ax⟩:=(hsub y).1 hy;have:b'=b:=b8i.1 G;subst this;exact c80 y (h2 y fj) x hxm ax b' hb' hb
 .rw [W hc];have fQ:(∃y∈left,InB y.2 c)↔∃y∈left.eraseIdx i,InB y.2 c:=by
   constructor
   .rintro ⟨y,hy,hb⟩;exact⟨y,(hsub y).2 ⟨hy,λe=>hc (e▸hb)⟩,hb⟩
   .rintro ⟨y,hy,hb⟩;exact⟨y,((hsub y).1 hy).1,hb⟩
  by_cases hh:∃y∈left,InB y.2 c
  .rw [Q hh,Q (fQ.1 hh)]
  .rw [W hh,W (λh=>hh (fQ.2 h))]
theorem b1g{kc:α->CV}(l:List (α×β))(i:Nat):(gm kc vc l).eraseIdx i=gm kc vc (l.eraseIdx i):=by
 induction l generalizing i with
 |nil=>rfl
 |cons x l ih=>
  cases i with
  |zero=>rfl
  |succ i=>exact n_7 _ (ih i)
theorem c1G{kc:α->CV}{l:List (α×β)}{x:CV×CV}(h:(gm kc vc l)[i]?=some x):∃y,l[i]?=some y/\x=(kc y.1,vc y.2):=by
 unfold gm at h;rw[O2,Q3]at h;obtain⟨y,h1,h2⟩:=h;exact⟨y,h1,h2.symm⟩
theorem a7h(l:I)(nn:Bool):p9 (.list (l.map bcv) nn none):=F3 (f:=bcv) (λ_=>⟨.val _,J⟩) l nn
theorem a0O(n:Nat)(l:I)(nn:Bool):Old n (.list (l.map bcv) nn none):=(a7h l nn).old
theorem e0M:∀x∈M0,x.2.length<=26:=by decide
theorem c75{m m1:List (Int×Int)}{b:UInt8}{k:Int}(hb:s[j]?=some b)(h:∀c,(glk m1 c).getD 0=if InB (s.take j) c then k else(glk m c).getD 0):
 ∀c,(glk (L5 m1 (b.toNat:Int) k) c).getD 0=if InB (s.take (j+1)) c then k else(glk m c).getD 0:=λc=>by
 have ht:s.take (j+1)=s.take j++[b]:=by
  obtain⟨af,rfl⟩:=n_2.1 hb;exact(b1s af).symm
 rw[G8,ht];by_cases hc:c=(b.toNat:Int)
 .rw [Q hc,Q ⟨b,U,hc.symm⟩];rfl
 .rw [W hc,h c];have fQ:InB (s.take j) c↔InB (s.take j++[b]) c:=by
   constructor
   .rintro ⟨y,hy,e⟩;exact⟨y,by simp[hy],e⟩
   .rintro ⟨y,hy,e⟩
    rcases T9.1 hy with hy|hy
    .exact ⟨y,hy,e⟩
    .rw [a2T.1 hy]at e;exact absurd e.symm hc
  by_cases hh:InB (s.take j) c
  .rw [Q hh,Q (fQ.1 hh)]
  .rw [W hh,W (λh=>hh (fQ.2 h))]
theorem c7H:b8 CC 122 [] [] λr τ=>∃m:List (Int×Int),X8 [b9.map (gm kb kv m)].length τ r (.ret (.map 0))/\a3X [b9.map (gm kb kv m)].length τ τ [.map (gm kb kv m)]/\([]:List b9).length<=[b9.map (gm kb kv m)].length/\KM m:=by
 refine qO Tryz.func122 ?_;refine qD (R9 O ?_);refine qD (R9 O ?_);refine qD (k8 (vc:=sv) (l:=M0.take 0) a0D (.inr O) J O O O O O a2r O ?_);refine qD (k8 (vc:=sv) (l:=M0.take 1) a0D (.inr O) J O O O O O a2r O ?_);refine qD (k8 (vc:=sv) (l:=M0.take 2) a0D (.inr O) J O O O O O a2r O ?_);refine qD (k8 (vc:=sv) (l:=M0.take 3) a0D (.inr O) J O O O O O a2r O ?_);refine qD (k8 (vc:=sv) (l:=M0.take 4) a0D (.inr O) J O O O O O a2r O ?_);refine qD (k8 (vc:=sv) (l:=M0.take 5) a0D (.inr O) J O O O O O a2r O ?_);refine qD (k8 (vc:=sv) (l:=M0.take 6) a0D (.inr O) J O O O O O a2r O ?_);refine qD (k8 (vc:=sv) (l:=M0.take 7) a0D (.inr O) J O O O O O a2r O ?_);refine qD (b6b O J O a2r O ?_);refine o4 hCC (α:=List (Int×Int)×List (Int×I)×List (Int×I)) (λ_=>[(1,.map 0),(9,.ptr 2 0)]) (λx=>[.map (gm kb kv x.1),.dead,.iter (gm kv sv x.2.1) (gm kv sv x.2.2)]) (λx=>KL x.1 x.2.2) (λx=>x.2.2.length) ([],[],M0) KL.start tu_ (am:=[]) O B5 uz_ ?_;intro⟨m,aD,left⟩ fh;dsimp only at fh⊢;refine qk (qD (c2t O J O O (λhz=>?_) (λi x hx=>?_)))
 .
  have fc:left=[]:=by
   cases left with
   |nil=>rfl
   |cons y l=>cases hz
  subst fc;refine qC ?_ ?_<;>intro h1
  .cases h1
  .refine a0i ?_;exact⟨_,rE1,⟨m,.ret (.old (.map (Nat.zero_lt_one))),⟨.same (X9 _ _),J⟩,n_5 _,fh.done⟩⟩
 .
  obtain⟨⟨k,s⟩,hy,rfl⟩:=c1G hx;rw[b1g];have bm:=fh.2.1 _ (n_3 hy);have dV:s.length<=26:=e0M _ bm;refine qC ?_ ?_<;>intro h3
  .refine qY (b5t O J O O) ?_;refine qY (d8i O J O t_5 a0R b6r do_) ?_;refine qY a9U ?_;refine o4 hCC (α:=List (Int×Int)×Nat) (λx=>[(1,.map 0),(2,iv k),(9,.ptr 2 0),(16,(.list (s.map bcv) true none)),(17,iv s.length),(18,iv x.2)]) (λx=>[.map (gm kb kv x.1),.dead,.iter (gm kv sv [(k,s)]) (gm kv sv (left.eraseIdx i))]) (λx=>x.2<=s.length/\∀c,(glk x.1 c).getD 0=if InB (s.take x.2) c then k else(glk m c).getD 0) (λx=>s.length -x.2) (m,0) ⟨n_5 _,λc=>by rw[W (by simp[InB])]⟩ tu_ (am:=[]) O B5 uz_ ?_;intro⟨m1,j⟩ ⟨hj,dJ⟩;dsimp only at hj dJ⊢;refine qk (qC ?_ ?_)<;> intro h4
   .have bS:(j:Int)<s.length:=D h4;obtain⟨b,hb⟩:=gx_ s j;refine qY (r6 O J J O O a0R a2U G a5z O) ?_;refine qD (k8 (vc:=kv) (l:=m1) (a:=(b.toNat:Int)) (b:=k) d4H (.inl O) J J trivial O O O c3w O ?_);refine qY o7 ?_;exact⟨(L5 m1 (b.toNat:Int) k,j+1),_,⟨do_,do_,c75 hb dJ⟩,tu_,O⟩
   .have bS:s.length<=j:=by
     have:¬(j:Int)<s.length:=D h4;omega
    rw[U2 bS]at dJ;refine j8 ?_;exact⟨(m1,[(k,s)],left.eraseIdx i),_,⟨by dsimp only;rw[c90 (n_2.1 hy).1];have:=(n_2.1 hy).1;omega,fh.step hy dJ⟩,tu_,O⟩
  .cases h3
theorem b1Z(σ:List b9):b8 CC 122 [] σ λr τ=>∃m:List (Int×Int),r= .ret (.map σ.length)/\τ=σ++[.map (gm kb kv m)]/\KM m:=
 a02 (α:=List (Int×Int)) (obs:=[]) (args:=[]) (res:=λ_=>.ret (.map 0)) (res':=λ_=>.ret (.map σ.length)) (S:=λ_=>[]) (N:=λm=>[.map (gm kb kv m)]) (P:=KM) [] hCC O (λi j k h=>by simp at h) (λi k h=>by simp at h) (λob h=>by cases h) ⟨O,λi c c' h=>by simp at h⟩
  (M4 (res:=λ_=>.ret (.map 0)) (S:=λm=>[.map (gm kb kv m)]) (P:=KM) hCC c7H) (λm _=>⟨O,λob h=>by simp at h;subst h;exact d1Q m⟩) (λm _=>.ret (.map (.inr ⟨n_5 _,O⟩)))
def inK(ks:List Int)(b:UInt8):Bool:=ks.any λk=>decide (l9 b.toNat=k)
def A2(s:I)(a:Nat)(ks:List Int):Nat:=a+((s.drop a).takeWhile (inK ks)).length
theorem a86{a:Nat}(h:s.length<=a):A2 s a ks=a:=by
 unfold A2;rw[Y4 h];rfl
theorem W7{a:Nat}{b:UInt8}(h:s[a]?=some b):A2 s a ks=if inK ks b=true then A2 s (a+1) ks else a:=by
 obtain⟨af,rfl⟩:=n_2.1 h;unfold A2;rw[Y0 af,b8U]
 split
 .rw [D3];omega
 .rfl
theorem a12{a:Nat}(h:a<=s.length):a<=A2 s a ks/\A2 s a ks<=s.length:=by
 unfold A2;have:=(List.takeWhile_sublist (inK ks) (l:=s.drop a)).length_le;rw[b4b]at this;omega
theorem d2H{k:Int}(h:ks[j]?=some k)(p:Int->Bool):(ks.take (j+1)).any p=((ks.take j).any p ||p k):=by
 obtain⟨af,rfl⟩:=n_2.1 h;rw[<- b1s af,List.any_append];simp
theorem d0P(s:I)(at_:Nat)(ks:List Int)(nn:Bool)(m:List (Int×Int))(hm:KM m)(ha:at_<=s.length)(hs:s.length<=1000000000000)(fh:ks.length<=1000000000000):b8 CC 123 [(sv s),iv at_,.map 0,(.list (ks.map icv) nn none)] [b9.map (gm kb kv m)] λr τ=>∃_:Unit,X8 [b9.map (gm kb kv m)].length τ r (.ret (iv (A2 s at_ ks:Int)))/\a3X [b9.map (gm kb kv m)].length τ τ [b9.map (gm kb kv m)]/\[b9.map (gm kb kv m)].length<=[b9.map (gm kb kv m)].length/\True:=by
 refine qO Tryz.func123 ?_;refine o4 hCC (α:=Nat) (λi=>[(0,(sv s)),(1,iv i),(2,.map 0),(3,(.list (ks.map icv) nn none))]) (λ_=>[b9.map (gm kb kv m)]) (λi=>i<=s.length/\A2 s at_ ks=A2 s i ks) (λi=>s.length -i) at_ ⟨ha,O⟩ tu_ (am:=[]) O B5 uz_ ?_;intro i ⟨hi,ah⟩;refine a7d ?_;refine qC ?_ ?_<;>intro h1
 .have bo:(i:Int)<s.length:=D h1;obtain⟨b,hb⟩:=gx_ s i;rw[W7 hb]at ah;refine qY a4V ?_;refine o4 hCC (α:=Nat) (λj=>[(0,(sv s)),(1,iv i),(2,.map 0),(3,(.list (ks.map icv) nn none)),(9,(.val (.bool ((ks.take j).any λk=>decide (l9 b.toNat=k))))),(16,(.list (ks.map icv) nn none)),(17,iv ks.length),(18,iv j)]) (λ_=>[b9.map (gm kb kv m)]) (λj=>j<=ks.length) (λj=>ks.length -j) 0 (n_5 _) tu_ (am:=[]) O B5 uz_ ?_;intro j hj;refine qk (qC ?_ ?_)<;> intro h2
  .have bS:(j:Int)<ks.length:=D h2;obtain⟨k,hk⟩:=gx_ ks j;refine qY (r6 O J J O O t_4 t_1 G (j5 hk) O) ?_;refine a4A ?_;refine qG C9 ?_;refine qG e2m ?_;refine qG (λhg=>N3 (vc:=kv) (l:=m) (a:=(b.toNat:Int)) d4H O hg hg O O c3w t_7 O O (b6G _ _)) ?_;refine qG C9 ?_;refine qG a9q ?_;refine qY U4 ?_;refine qY o7 ?_;exact⟨(j+1),_,⟨G,G⟩,⟨B7,B7,B7,B7,⟨J,(by rw[d2H hk,<- hm];rfl)⟩,B7,B7,B7,J⟩,O⟩
  .have bS:ks.length<=j:=by
    have:¬(j:Int)<ks.length:=D h2;omega
   refine j8 ?_;refine qC ?_ ?_<;>intro h3
   .have cM:inK ks b=false:=by
     have:((ks.take j).any λk=>decide (l9 b.toNat=k))=false:=D h3;rwa[U2 bS]at this
    rw[cM]at ah;refine a0i ?_;exact⟨_,rE1,⟨(),.ret (B4 (by rw[ah];rfl)),⟨.same (X9 _ _),J⟩,n_6 _,J⟩⟩
   .have hyes:inK ks b=true:=by
     have:((ks.take j).any λk=>decide (l9 b.toNat=k))=true:=D h3;rwa[U2 bS]at this
    rw[hyes]at ah;refine qY o7 ?_;exact⟨(i+1),_,⟨G,G,ah⟩,tu_,O⟩
 .have aH:s.length<=i:=by
   have:¬(i:Int)<s.length:=D h1;omega
  rw[a86 aH]at ah;refine a0i ?_;exact⟨_,rE1,⟨(),.ret (B4 (by rw[ah])),⟨.same (X9 _ _),J⟩,n_6 _,J⟩⟩
theorem a8h{at_:Nat}{nn:Bool}{m:List (Int×Int)}(hm:KM m)(ha:at_<=s.length)(hs:s.length<=1000000000000)(fh:ks.length<=1000000000000)(hq:σ[q]?=some (.map (gm kb kv m))):b8 CC 123 [(sv s),iv at_,.map q,(.list (ks.map icv) nn none)] σ λr τ=>r= .ret (iv (A2 s at_ ks:Int))/\τ=σ:=
 a62 hCC (d1Q m) (.val _) hq (.cons (.val _) (.cons (.val _) (.cons (.map O) (.cons (.pure (a0X _ _)) .nil)))) (d0P s at_ ks nn m hm ha hs fh)
def B9(s:I):Bool:=match s with
 | []=>false
 |b::_=>decide (s.length<=24)&&decide (l9 b.toNat=1)&&s.all (inK [1,2,3])
theorem a79:A2 s 0 ks=s.length↔s.all (inK ks)=true:=by
 unfold A2;rw[b0k,O7];generalize inK ks=p
 induction s with
 |nil=>simp
 |cons b s ih=>
  rw[b8U,b7l];cases hp:p b with
  |false=>simp
  |true=>
   simp only[if_true,D3,Nat.add_right_cancel_iff,b1k];exact ih
theorem d1F(h:1<=s.length):s[(0:Int).toNat]?=some (s.headD 0):=by
 cases s with
 |nil=>simp at h
 |cons b s=>rfl
theorem d4m(s:I){m:List (Int×Int)}(hm:KM m){z w:Bool}(h1:x=decide ((s.length:Int)>=1))(h2:y=decide ((s.length:Int)<=24))(h3:z=((glk m ((s.headD 0).toNat:Int)).getD 0 == 1))(h4:w=((A2 s 0 [1,2,3]:Int) ==(s.length:Int))):(((x&&y)&&z)&&w)=B9 s:=by
 subst h1 h2 h3 h4;rw[hm];have h5:((A2 s 0 [1,2,3]:Int) ==(s.length:Int))=s.all (inK [1,2,3]):=by
  cases h:s.all (inK [1,2,3])with
  |true=>exact a4a (by have:=a79.2 h;omega)
  |false=>
   refine a3U λe=>?_;have:=a79.1 (show A2 s 0 [1,2,3]=s.length by omega);rw[h]at this;cases this
 rw[h5];cases s with
 |nil=>rfl
 |cons b s=>
  have h6:decide (((b::s).length:Int)>=1)=true:=by simp;omega
  have h7:decide (((b::s).length:Int)<=24)=decide ((b::s).length<=24):=b2P.2 G;rw[h6,h7];rfl
theorem a1Q(s:I)(σ:List b9):b8 CC 91 [(sv s)] σ λr aa=>r= .ret (.val (.bool (B9 s)))/\aa=σ:=by
 refine b8.anyw hCC pu_ pu_ (c7 (qO Tryz.func91 ?_)) σ;refine qD (c4 O c8q trivial (b1Z _) O ?_);intro m hm;refine qY S4 ?_;refine a7C ?_;refine a4w ?_;refine a4A ?_;refine qG e2l ?_;refine qG (λhg=>N3 (vc:=kv) (l:=m) (a:=((s.headD 0).toNat:Int)) d4H O hg hg O O c3w t_7 O O (b6G _ _)) ?_;refine a4w ?_;refine a4A ?_;refine qG (λhg=>A9 ([1,2,3].map icv) O ⟨O,O,O,J⟩ t_4 t_1 t_7 O O O O O O O O O) ?_;refine qG (λhg=>c5 O d1L ⟨hg,O,hg,hg,J⟩ (a8h hm (n_5 _) (sm_ hg) H O) O) ?_;refine a7C ?_;refine qG a9q ?_;refine a9W ?_;exact⟨_,rE1,_,_,O,O,j6 (d4m s hm O O O O)⟩
theorem b1z(s:I)(c:UInt8)(σ:List b9):b8 CC 193 [(sv s),(.val (.int .u8 (c.toNat:Int)))] σ λr aa=>r= .ret (iv (Go.Lib.indexByte s c))/\aa=σ:=by
 refine b8.anyw hCC pu_ pu_ (c7 (qO Tryz.func193 ?_)) σ;refine qY (c1j (e:=Extern.BytealgIndexByte.indexByte) O Tryz.func249 O O O O J J O O (λw=>c56 s c w)) ?_;exact c0K
theorem a52(s:I)(c:UInt8)(σ:List b9):b8 CC 153 [(sv s),(.val (.int .u8 (c.toNat:Int)))] σ λr aa=>r= .ret (iv (Go.Lib.indexByte s c))/\aa=σ:=by
 refine b8.anyw hCC pu_ pu_ (c7 (qO Tryz.func153 ?_)) σ;exact d7T
theorem b8r(s:I)(c:UInt8)(σ:List b9):b8 CC 268 [(sv s),(sv ([c]))] σ λr aa=>r= .ret (iv (Go.Lib.indexByte s c))/\aa=σ:=by
 refine b8.anyw hCC pu_ pu_ (c7 (qO Tryz.func268 ?_)) σ;refine qY S4 ?_;refine a4A ?_;refine qG b2c ?_;refine qY U4 ?_;refine qC ?_ ?_<;>intro h1
 .have hs:s=[c]:=by simp at h1;exact h1.symm
  subst hs;refine c6 ?_;exact⟨_,rE1,_,_,O,O,B4 (by simp[Go.Lib.indexByte])⟩
 .refine cC ?_ ?_<;>intro h2
  .refine qk (qY (M9 O J O O O t_5 G O) ?_);exact d7T
  .simp at h2
theorem a9a(s:I)(c:UInt8)(σ:List b9):b8 CC 229 [(sv s),(sv ([c]))] σ λr aa=>r= .ret (iv (Go.Lib.indexByte s c))/\aa=σ:=by
 refine b8.anyw hCC pu_ pu_ (c7 (qO Tryz.func229 ?_)) σ;refine qY (c5 O Tryz.call268 i7 (b8r s c _) O) ?_;exact c0K
theorem a8D(s:I)(c:UInt8)(σ:List b9):b8 CC 228 [(sv s),(sv ([c]))] σ λr aa=>r= .ret (iv (s.count c:Nat))/\aa=σ:=by
 refine b8.anyw hCC pu_ pu_ (c7 (qO Tryz.func228 ?_)) σ;refine qY S4 ?_;refine cC ?_ ?_<;>intro h1
 .simp at h1
 .refine a7d ?_;refine cC ?_ ?_<;>intro h2
  .refine qk (qY (M9 O J O O O t_5 G O) ?_);refine qY (c1j (e:=Extern.BytealgCount.count) O Tryz.func267 O O O O J J O O (λw=>c6X s c w)) ?_;exact c0K
  .simp at h2
def B2(c:UInt8):I->List I
 | []=>[[]]
 |b::l=>if b=c then []::B2 c l else match B2 c l with
  |x::xs=>(b::x)::xs
  | []=>[[b]]
theorem a0Y(c:UInt8)(s:I):B2 c s≠[]:=by
 cases s with
 |nil=>simp[B2]
 |cons b l=>
  rw[B2]
  split
  .simp
  .split<;>simp
theorem a06(c:UInt8)(s:I):(B2 c s).length=s.count c+1:=by
 induction s with
 |nil=>rfl
 |cons b l ih=>
  rw[B2,List.count_cons];by_cases h:b=c
  .rw [Q h,D3,ih,Q (D h)]
  .rw [W h,W (D h)];cases hs:B2 c l with
   |nil=>exact absurd hs (a0Y c l)
   |cons x xs=>rw[hs]at ih;simpa using ih
theorem a42{c:UInt8}:∀{s:I},Go.Lib.indexByte s c= -1->B2 c s=[s]
 | [],_=>rfl
 |b::l,h=>by
  rw[Go.Lib.indexByte]at h;by_cases hb:b=c
  .rw [Q (D hb)]at h;omega
  .rw [W (D hb)]at h;have hl:Go.Lib.indexByte l c= -1:=by
    have:=Go.Lib.indexByte_ge l c;split at h
    .rename_i e;simpa using e
    .omega
   rw[B2,W hb,a42 hl]
theorem a5w{c:UInt8}:∀{s:I} {m:Nat},Go.Lib.indexByte s c=m->m<s.length/\B2 c s=s.take m::B2 c (s.drop (m+1))
 | [],m,h=>by rw[Go.Lib.indexByte]at h;omega
 |b::l,m,h=>by
  rw[Go.Lib.indexByte]at h;by_cases hb:b=c
  .rw [Q (D hb)]at h;have hm:m=0:=by omega
   subst hm;exact⟨U,by rw[B2,Q hb];rfl⟩
  .rw [W (D hb)]at h;have hg:=Go.Lib.indexByte_ge l c;split at h
   .omega
   .rename_i e;have e':Go.Lib.indexByte l c≠-1:=D e;obtain⟨k,hk⟩:∃k:Nat,Go.Lib.indexByte l c=k:=⟨(Go.Lib.indexByte l c).toNat,G⟩;have hmk:m=k+1:=by omega
    subst hmk;obtain⟨h1,h2⟩:=a5w hk;refine⟨by simp;omega,?_⟩;rw[B2,W hb,h2];rfl
theorem d1B(n:Nat){k:Nat}:F7 n (.vec 1 (d.map scv++List.replicate k (scv []))):=λr hr c hc=>by
 rcases T9.1 hr with hr|hr
 .obtain ⟨x,_,rfl⟩:=D6.1 hr;simp[scv]at hc;subst hc;exact .val _
 .have:=List.eq_of_mem_replicate hr;subst this;simp[scv]at hc;subst hc;exact .val _
theorem d0O{k:Nat}(hk:0<k):(d.map scv++List.replicate k (scv []))[0+((d.length:Int)).toNat]?=some (scv []):=by
 rw[O7,a3N,a1c U];simp[hk]
theorem d2V{n:Nat}{x:I}(hk:d.length <n):(d.map scv++List.replicate (n-d.length) (scv [])).set (0+((d.length:Int)).toNat) (scv x)=(d++[x]).map scv++List.replicate (n- (d++[x]).length) (scv []):=by
 rw[O7,a3N,List.set_append,W U];obtain⟨j,hj⟩:∃j,n-d.length=j+1:=⟨n-d.length -1,G⟩;have h2:n- (d++[x]).length=j:=by simp;omega
 rw[hj,h2];simp[List.replicate_succ]
theorem a58(s:I)(c:UInt8)(hs:s.length<=1000000000)(σ:List b9):b8 CC 180 [(sv s),(sv ([c])),(iv (0)),(iv (-1))] σ λr aa=>r= .ret (.list ((B2 c s).map scv) true none)/\aa=σ:=by
 refine b8.anyw hCC pu_ pu_ ?_ σ;have hcnt:=s.count_le_length (a:=c);have cz:([c]:I).length=1:=O;refine c7 (cO Tryz.func180 ?_);refine qs 3 ?_;refine cC ?_ ?_<;>intro h1
 .simp at h1
 .refine qk (qY Q0 ?_);refine cC ?_ ?_<;>intro h2
  .simp at h2
  .refine qk ?_;refine a07 hCC (α:=Unit) (λ_=>[(0,(sv s)),(1,(sv ([c]))),(2,(iv (0))),(3,(iv (((s.count c:Nat):Int)+1)))]) (λ_=>[]) (λ_=>True) B5 uz_ ?_ ?_
   .
    refine qk ?_;refine cC ?_ ?_<;>intro h3
    .refine qk (qY (c5 O Tryz.call228 i7 (a8D s c _) O) ?_);refine qY o7 ?_;exact⟨(),_,J,tu_,O⟩
    .simp at h3
   .intro _ _;refine a7d ?_;refine qY o7 ?_;refine qY (d7d O J J O O) ?_;refine qD (c1x O J J O O (n:=(s.count c+1)) (c:=(s.count c+1)) G G t_2 t_0 a4M t_3 O (a2J O) O G G6 a6h ?_);refine qY V4 ?_;refine o4 hCC (α:=List I×I) (λx=>[(0,(sv x.2)),(1,(sv ([c]))),(2,(iv (0))),(3,(iv ((s.count c:Nat):Int))),(9,.vec 0 0 (s.count c+1)),(10,iv x.1.length)]) (λx=>[.vec 1 (x.1.map scv++List.replicate (s.count c+1-x.1.length) (scv []))]) (λx=>x.1.length<=s.count c/\B2 c s=x.1++B2 c x.2/\x.2.length<=s.length) (λx=>s.count c+1-x.1.length) ([],s) ⟨n_5 _,O,n_6 _⟩ ⟨B7,B7,B7,⟨J,n_7 (λz:Int=>(iv z)) G⟩,B7,B7,J⟩ (am:=[]) O B5 uz_ ?_;intro⟨d,u⟩ ⟨hd,ah,hul⟩;dsimp only at hd ah hul⊢;have aj:=a06 c s;rw[ah,n_8,a06 c u]at aj;refine qk (qC ?_ ?_)<;> intro h4
    .have dT:d.length <s.count c:=sm_ h4;refine qY (c5 O Tryz.call229 i7 (a9a u c _) O) ?_;refine cC ?_ ?_<;>intro h5
     .exfalso;have hneg:Go.Lib.indexByte u c= -1:=by
       have:=Go.Lib.indexByte_ge u c;have iP:Go.Lib.indexByte u c<0:=D h5;omega
      have h6:=a06 c u;rw[a42 hneg]at h6;simp at h6;omega
     .have hm0:¬Go.Lib.indexByte u c<0:=D h5;obtain⟨m,hm⟩:∃m:Nat,Go.Lib.indexByte u c=m:=⟨(Go.Lib.indexByte u c).toNat,G⟩;obtain⟨hml,hsu⟩:=a5w hm;rw[hm];refine qk (qY a6A ?_);refine qY (K7 (h:=m) O J O t_5 O a18 a4p a4p) ?_;refine qY a9Y ?_;refine qD (N5 ((d++[u.take m]).map scv++List.replicate (s.count c+1- (d++[u.take m]).length) (scv [])) O J J O j2 t_0 (.inl O) O (d0O (d:=d) (k:=s.count c+1-d.length) G) O (nb O) (by exact d2V (d:=d) (x:=u.take m) (n:=s.count c+1) G) O ?_);refine qY S4 ?_;refine qY a6A ?_;refine qY (K7 (a:=(m+1)) O J O t_5 a18 O a4p a4p) ?_;refine qY o7 ?_;exact⟨(d++[u.take m],u.drop (m+1)),_,⟨by simp;omega,by simp;omega,by rw[ah,hsu];simp,by simp;omega⟩,⟨⟨J,(n_7 sv (show(u.take u.length).drop (m+1)=u.drop (m+1) by rw[a57]))⟩,B7,B7,B7,B7,⟨J,n_7 (λz:Int=>(iv z)) U⟩,J⟩,O⟩
    .have dT:d.length=s.count c:=by
      have:¬(d.length:Int)< ((s.count c:Nat):Int):=D h4;omega
     have hu1:B2 c u=[u]:=by
      apply a42;have h6:=a06 c u;have hg:=Go.Lib.indexByte_ge u c
      rcases Int.lt_or_le (Go.Lib.indexByte u c) 0 with h|h
      .omega
      .obtain ⟨m,hm⟩:∃m:Nat,Go.Lib.indexByte u c=m:=⟨(Go.Lib.indexByte u c).toNat,G⟩;obtain⟨_,h7⟩:=a5w hm;have h8:=n_7 List.length h7;have h9:=a0Y c (u.drop (m+1));have bp:=a6M.2 h9;simp only[D3]at h8;omega
     rw[hu1]at ah;refine j8 ?_;refine qY a9Y ?_;refine qD (N5 ((d++[u]).map scv++List.replicate (s.count c+1- (d++[u]).length) (scv [])) O J J O j2 t_0 (.inl O) O (d0O (d:=d) (k:=s.count c+1-d.length) G) O (nb O) (by exact d2V (d:=d) (x:=u) (n:=s.count c+1) G) O ?_);refine qY o7 ?_;refine qY (O8 (h:=(d.length+1)) O J O t_2 t_0 O O a18 a1U (by first|(simp;done)|(simp;omega))) ?_;refine c6 ?_;exact⟨_,rE1,_,_,O,O,.vecs (n_5 _) O (by first|(simp;done)|(simp;omega)) (by rw[ah,b0k];exact List.take_left' U) (λr hr c hc=>(C6 (f:=scv) (λ_=>O4.all ⟨.val _,J⟩) _) r hr c hc)⟩
theorem a8K(s:I)(c:UInt8)(hs:s.length<=1000000000)(σ:List b9):b8 CC 121 [(sv s),(sv ([c]))] σ λr aa=>r= .ret (.list ((B2 c s).map scv) true none)/\aa=σ:=by
 refine b8.anyw hCC pu_ pu_ (c7 (qO Tryz.func121 ?_)) σ;refine qY (c5 O Tryz.call180 ⟨J,J,O,O,J⟩ (a58 s c hs _) O) ?_;refine c6 ?_;exact⟨_,rE1,_,_,O,O,(J5 O (F2 _ _))⟩
def a4o(p:I):Bool:=decide (1<=p.length)&&decide (p.length<=24)&&p.all (inK [1,2,3,4])
def F8(s:I):Bool:=decide (s.length<=80)&&decide ((B2 47 s).length<=8)&& (B2 47 s).all a4o
theorem c7m{c:UInt8}:∀p∈B2 c s,p.length<=s.length:=by
 induction s with
 |nil=>intro p hp;simp[B2]at hp;subst hp;simp
 |cons b l ih=>
  intro p hp;rw[B2]at hp;by_cases h:b=c
  .rw [Q h]at hp
   rcases J2.1 hp with rfl|hp
   .simp
   .have:=ih p hp;simp;omega
  .rw [W h]at hp;cases hs:B2 c l with
   |nil=>exact absurd hs (a0Y c l)
   |cons x xs=>
    rw[hs]at hp ih
    rcases J2.1 hp with rfl|hp
    .have:=ih x U;simp;omega
    .have:=ih p (by simp[hp]);simp;omega
theorem c40(p:I){z:Bool}(h1:x=decide ((p.length:Int)<1))(h2:y=decide ((p.length:Int) > 24))(h3:z= !((A2 p 0 [1,2,3,4]:Int) ==(p.length:Int))):((x ||y) ||z)= !a4o p:=by
 subst h1 h2 h3;have h5:((A2 p 0 [1,2,3,4]:Int) ==(p.length:Int))=p.all (inK [1,2,3,4]):=by
  cases h:p.all (inK [1,2,3,4])with
  |true=>exact a4a (by have:=a79.2 h;omega)
  |false=>
   refine a3U λe=>?_;have:=a79.1 (show A2 p 0 [1,2,3,4]=p.length by omega);rw[h]at this;cases this
 rw[h5,a4o];have h6:decide ((p.length:Int)<1)= !decide (1<=p.length):=by by_cases h:1<=p.length<;>simp[h]<;>omega
 have h7:decide ((p.length:Int) > 24)= !decide (p.length<=24):=by by_cases h:p.length<=24<;>simp[h]<;>omega
 rw[h6,h7];simp[Bool.not_and]
theorem a1R(s:I)(hs:s.length<=1000000000)(σ:List b9):b8 CC 90 [(sv s)] σ λr aa=>r= .ret (.val (.bool (F8 s)))/\aa=σ:=by
 refine b8.anyw hCC pu_ pu_ (c7 (qO Tryz.func90 ?_)) σ;refine qY (c5 O Tryz.call121 o3 (a8K s 47 hs _) O) ?_;refine qY S4 ?_;refine qG C9 ?_;refine qG (λhg=>X5 O hg O t_2 a49 O) ?_;refine a8q ?_;refine qC ?_ ?_<;>intro h1
 .have cM:F8 s=false:=by
   unfold F8;have ez:(decide ((s.length:Int) > 80) ||decide (((B2 47 s).length:Int) > 8))=true:=h1;by_cases h:s.length<=80
   .have h2:¬(B2 47 s).length<=8:=by
     intro h2;have e1:decide ((s.length:Int) > 80)=false:=a3U G;have e2:decide (((B2 47 s).length:Int) > 8)=false:=a3U G;rw[e1,e2]at ez;cases ez
    simp[h2]
   .simp [h]
  exact d5x
 .have bz:s.length<=80/\(B2 47 s).length<=8:=by
   have ez:(decide ((s.length:Int) > 80) ||decide (((B2 47 s).length:Int) > 8))=false:=h1;simp only[c2B,b1d]at ez;omega
  refine qD (c4 O c8q trivial (b1Z _) O ?_);intro m hm;refine qY P5 ?_;refine o4 hCC (α:=Nat) (λi=>[(4,.map 0),(18,(.list ((B2 47 s).map scv) true none)),(19,(iv ((B2 47 s).length:Int))),(20,iv i)]) (λ_=>[.map (gm kb kv m)]) (λi=>i<=(B2 47 s).length/\((B2 47 s).take i).all a4o=true) (λi=>(B2 47 s).length -i) 0 ⟨n_5 _,O⟩ tu_ (am:=[]) O B5 uz_ ?_;intro i ⟨hi,bk⟩;refine qk (qC ?_ ?_)<;> intro h2
  .have bo:(i:Int)< (B2 47 s).length:=D h2;obtain⟨p,hp⟩:∃p,(B2 47 s)[i]?=some p:=⟨(B2 47 s)[i]'G,U⟩;have bc:=c7m p (n_3 hp);refine qY (r6 O J J O O t_2 t_0 G (j5 hp) O) ?_;refine qY S4 ?_;refine a7C ?_;refine a8q ?_;refine a4A ?_;refine qG (λhg=>A9 ([1,2,3,4].map icv) O ⟨O,O,O,O,J⟩ t_4 t_1 t_7 O O O O O O O O O) ?_;refine qG (λhg=>c5 O d1L ⟨hg,O,hg,hg,J⟩ (a8h hm (n_5 _) G H O) O) ?_;refine a7C ?_;refine qG a9q ?_;refine qY U4 ?_;refine qC ?_ ?_<;>intro h3
   .have hbad:a4o p=false:=by
     have gW:true= !a4o p:=Eq.trans (Eq.symm h3) (c40 p O O O);simpa using gW.symm
    have cM:F8 s=false:=by
     unfold F8;have:(B2 47 s).all a4o=false:=by
      rw[c3r];intro hh;have:=a6b.1 hh p (n_3 hp);rw[hbad]at this;cases this
     rw[this];simp
    exact d5x
   .have hgood:a4o p=true:=by
     have gW:false= !a4o p:=Eq.trans (Eq.symm h3) (c40 p O O O);simpa using gW.symm
    refine qY o7 ?_;exact⟨(i+1),_,⟨G,G,by
     obtain⟨af,he⟩:=n_2.1 hp;rw[<- b1s af,List.all_append,bk,he];simp[hgood]⟩,tu_,O⟩
  .have aH:(B2 47 s).length<=i:=by
    have:¬(i:Int)< (B2 47 s).length:=D h2;omega
   rw[U2 aH]at bk;refine a0i ?_;exact⟨_,rE1,_,_,O,O,j6 (by rw[F8,bk];simp[bz.1,bz.2])⟩
theorem d3q(c:Int):(decide (c>=97)&&decide (c<=122))=decide (l9 c=1):=by
 by_cases h:97<=c/\c<=122
 .have e:l9 c=1:=by unfold l9;rw[Q h]
  simp[e,h.1,h.2]
 .have e:l9 c≠1:=by
   unfold l9;rw[W h]
   repeat' split
   all_goals omega
  have e2:¬(c>=97/\c<=122):=h;simp only[a3U e];by_cases h1:c>=97
  .have h2:¬c<=122:=λh2=>h ⟨h1,h2⟩;simp[h2]
  .simp [h1]
theorem d4G(b:UInt8){z:Bool}(hx:x=decide (l9 b.toNat=1))(hy:y=(decide ((b.toNat:Int)>=48)&&decide ((b.toNat:Int)<=57)))(hz:z=((b.toNat:Int) == 95)):((x ||y) ||z)=inK [1,2,3] b:=by
 subst hx hy hz;unfold inK;generalize (b.toNat:Int)=c;have h2:(decide (c>=48)&&decide (c<=57))=decide (l9 c=2):=by
  by_cases h:48<=c/\c<=57
  .have e:l9 c=2:=by unfold l9;rw[W G,Q h]
   simp[e,h.1,h.2]
  .have e:l9 c≠2:=by
    unfold l9
    repeat' split
    all_goals omega
   simp only[a3U e];by_cases h1:c>=48
   .have h2:¬c<=57:=λh2=>h ⟨h1,h2⟩;simp[h2]
   .simp [h1]
 have h3:(c == 95)=decide (l9 c=3):=by
  by_cases h:c=95
  .subst h;rfl
  .have e:l9 c≠3:=by
    unfold l9
    repeat' split
    all_goals omega
   rw[a3U e];simp[h]
 rw[h2,h3];simp[Bool.or_assoc]
theorem a5v(b:UInt8)(σ:List b9):b8 CC 137 [(.val (.int .u8 (b.toNat:Int)))] σ λr aa=>r= .ret (.val (.bool (decide (l9 b.toNat=1))))/\aa=σ:=by
 refine b8.anyw hCC pu_ pu_ (c7 (qO Tryz.func137 ?_)) σ;refine qG C9 ?_;refine a4w ?_;refine c6 ?_;exact⟨_,rE1,_,_,O,O,j6 (d3q _)⟩
theorem a6Z(b:UInt8)(σ:List b9):b8 CC 117 [(.val (.int .u8 (b.toNat:Int)))] σ λr aa=>r= .ret (.val (.bool (inK [1,2,3] b)))/\aa=σ:=by
 refine b8.anyw hCC pu_ pu_ (c7 (qO Tryz.func117 ?_)) σ;refine qY (c5 O d1e ⟨J,J⟩ (a5v b _) O) ?_;refine qG C9 ?_;refine qG a3h ?_;refine qG b8G ?_;refine qH O O (λhk hg=>a2Y O J j2) ?_;refine qH O O (λhk hg=>a2I O ⟨hk,hg⟩ O O O O) ?_;refine qG c4W ?_;refine qY U4 ?_;refine qG C9 ?_;refine a8q ?_;refine c6 ?_;exact⟨_,rE1,_,_,O,O,j6 (d4G b O O O)⟩
theorem e2e(h:(((decide ((s.length:Int)<1)) ||decide ((s.length:Int) > 24)) || !decide (l9 ((s.headD 0).toNat:Int)=1))=true):B9 s=false:=by
 cases s with
 |nil=>rfl
 |cons b l=>
  unfold B9;by_cases h1:(b::l).length<=24
  .have e1:decide (((b::l).length:Int) > 24)=false:=a3U G;have e2:decide (((b::l).length:Int)<1)=false:=a3U H6;rw[e1,e2]at h;have h3:l9 (b.toNat:Int)≠1:=D h;simp[h3]
  .simp only[a3U h1,Bool.false_and]
theorem e1f(h:(((decide ((s.length:Int)<1)) ||decide ((s.length:Int) > 24)) || !decide (l9 ((s.headD 0).toNat:Int)=1))=false)(ha:s.all (inK [1,2,3])=true):B9 s=true:=by
 cases s with
 |nil=>simp at h
 |cons b l=>
  simp only[c2B,b1d,Bool.not_eq_false']at h;unfold B9;have h1:(b::l).length<=24:=by omega
  have h3:l9 (b.toNat:Int)=1:=D h.2;rw[ha];simp only[a4a h1,a4a h3];rfl
theorem d6r{b:UInt8}(hb:s[i]?=some b)(h:inK [1,2,3] b=false):B9 s=false:=by
 cases s with
 |nil=>rfl
 |cons x l=>
  unfold B9;have:(x::l).all (inK [1,2,3])=false:=by
   rw[c3r];intro hh;have:=a6b.1 hh b (n_3 hb);rw[h]at this;cases this
  rw[this];show(_&&false)=false;rw[Bool.and_false]
theorem d3j{b:UInt8}{p:UInt8->Bool}(hb:s[i]?=some b)(ha:(s.take i).all p=true)(h:p b=true):(s.take (i+1)).all p=true:=by
 obtain⟨af,rfl⟩:=n_2.1 hb;rw[<- b1s af,List.all_append,ha];simp[h]
theorem c7C(s:I)(σ:List b9):b8 CC 94 [(sv s)] σ λr aa=>r= .ret (.val (.bool (B9 s)))/\aa=σ:=by
 refine b8.anyw hCC pu_ pu_ (c7 (qO Tryz.func94 ?_)) σ;refine qY S4 ?_;refine a7C ?_;refine a8q ?_;refine qG C9 ?_;refine qG e2l ?_;refine qG (λhg=>c5 O d1e ⟨hg,J⟩ (a5v (s.headD 0) _) O) ?_;refine qG a2D ?_;refine qY U4 ?_;refine qC ?_ ?_<;>intro h1
 .have cM:B9 s=false:=e2e h1;exact d5x
 .have bz:=e1f h1;have hs:s.length<=24:=sm_ h1;refine o4 hCC (α:=Nat) (λi=>[(0,(sv s)),(3,iv i)]) (λ_=>[]) (λi=>i<=s.length/\(s.take i).all (inK [1,2,3])=true) (λi=>s.length -i) 0 ⟨n_5 _,O⟩ tu_ (am:=[]) O B5 uz_ ?_;intro i ⟨hi,bk⟩;refine a7d ?_;refine qC ?_ ?_<;>intro h2
  .have bo:(i:Int)<s.length:=D h2;obtain⟨b,hb⟩:=gx_ s i;refine qY b77 ?_;refine qY (c5 O d1d ⟨J,J⟩ (a6Z b _) O) ?_;refine qC ?_ ?_<;>intro h3
   .have cM:B9 s=false:=d6r hb (D h3);exact d5x
   .refine qY o7 ?_;exact⟨(i+1),_,⟨G,G,d3j hb bk (D h3)⟩,tu_,O⟩
  .have aH:s.length<=i:=by
    have:¬(i:Int)<s.length:=D h2;omega
   rw[U2 aH]at bk;refine a0i ?_;exact⟨_,rE1,_,_,O,O,j6 (by rw[bz bk])⟩
theorem d7x(b:UInt8)(hx:x=inK [1,2,3] b)(hy:y=((b.toNat:Int) == 46)):(x ||y)=inK [1,2,3,4] b:=by
 subst hx hy;unfold inK;generalize (b.toNat:Int)=c;have h4:(c == 46)=decide (l9 c=4):=by
  by_cases h:c=46
  .subst h;rfl
  .have e:l9 c≠4:=by
    unfold l9
    repeat' split
    all_goals omega
   rw[a3U e];simp[h]
 rw[h4];simp[Bool.or_assoc]
def a2l(aV parts:Nat)(u:I):Bool:=match B2 47 u with
 | []=>false
 |p::ps=>decide (1<=aV+p.length)&&decide (aV+p.length<=24)&&p.all (inK [1,2,3,4])&&ps.all a4o&&decide (parts+ps.length<=8)
theorem c1s(h:s.length<=80):F8 s=a2l 0 1 s:=by
 unfold F8 a2l;cases hs:B2 47 s with
 |nil=>exact absurd hs (a0Y 47 s)
 |cons p ps=>
  have e1:decide ((p::ps).length<=8)=decide (1+ps.length<=8):=by rw[D3,Nat.add_comm]
  rw[e1,a4a h];simp only[b7l,a4o,O7,b1k];cases decide (1+ps.length<=8)<;>simp
theorem c98:a2l aV parts []=(decide (1<=aV)&&decide (aV<=24)&&decide (parts<=8)):=by
 simp[a2l,B2]
theorem c1V(h:aV<=24):a2l aV parts (47::u)=(decide (1<=aV)&&a2l 0 (parts+1) u):=by
 unfold a2l;rw[B2,Q O];cases hs:B2 47 u with
 |nil=>exact absurd hs (a0Y 47 u)
 |cons p ps=>
  have e:decide (parts+(p::ps).length<=8)=decide (parts+1+ps.length<=8):=b2P.2 H6;simp only[e,b7l,a4o,O7,K8,a85,a4a h,List.all_nil,Bool.and_true,b12]
theorem d4h{b:UInt8}(hb:b≠47)(hk:inK [1,2,3,4] b=true):a2l aV parts (b::u)=a2l (aV+1) parts u:=by
 unfold a2l;rw[B2,W hb];cases hs:B2 47 u with
 |nil=>exact absurd hs (a0Y 47 u)
 |cons p ps=>
  have e:aV+(b::p).length=aV+1+p.length:=by simp;omega
  simp only[e,b7l,hk,b1k]
theorem c9Z{b:UInt8}(hb:b≠47)(hk:inK [1,2,3,4] b=false):a2l aV parts (b::u)=false:=by
 unfold a2l;rw[B2,W hb];cases hs:B2 47 u with
 |nil=>exact absurd hs (a0Y 47 u)
 |cons p ps=>simp[hk]
theorem c6Y(h:24<aV):a2l aV parts u=false:=by
 unfold a2l
 split
 .rfl
 .rename_i p ps _;have:¬aV+p.length<=24:=by omega
  simp[this]
theorem c7O{b:UInt8}(h:s[i]?=some b):s.drop i=b::s.drop (i+1):=by
 obtain⟨af,rfl⟩:=n_2.1 h;exact Y0 af
theorem c8o:(decide ((aV:Int) > 0)&&decide ((parts:Int)<=8))=(decide (1<=aV)&&decide (parts<=8)):=by
 have e1:decide ((aV:Int) > 0)=decide (1<=aV):=b2P.2 G;have e2:decide ((parts:Int)<=8)=decide (parts<=8):=b2P.2 G;rw[e1,e2]
theorem a8I(s:I)(σ:List b9):b8 CC 86 [(sv s)] σ λr aa=>r= .ret (.val (.bool (F8 s)))/\aa=σ:=by
 refine b8.anyw hCC pu_ pu_ (c7 (qO Tryz.func86 ?_)) σ;refine qY S4 ?_;refine qC ?_ ?_<;>intro h1
 .have h80:¬s.length<=80:=by
   have:(s.length:Int) > 80:=D h1;omega
  refine c6 ?_;exact⟨_,rE1,_,_,O,O,j6 (by simp[F8,h80])⟩
 .have h80:s.length<=80:=by
   have:¬(s.length:Int) > 80:=D h1;omega
  refine o4 hCC (α:=Nat×Nat×Nat) (λx=>[(0,(sv s)),(3,iv x.2.1),(4,iv x.2.2),(5,iv x.1)]) (λ_=>[]) (λx=>x.1<=s.length/\x.2.2<=24/\x.2.1<=x.1+1/\F8 s=a2l x.2.2 x.2.1 (s.drop x.1)) (λx=>s.length -x.1) (0,1,0) ⟨n_5 _,H,H,c1s h80⟩ tu_ (am:=[]) O B5 uz_ ?_;intro⟨i,parts,aV⟩ ⟨hi,hM,hpa,aY⟩;dsimp only at hi hM hpa aY⊢;refine a7d ?_;refine qC ?_ ?_<;>intro h2
  .have bo:(i:Int)<s.length:=D h2;obtain⟨b,hb⟩:=gx_ s i;rw[c7O hb]at aY;refine qY b77 ?_;refine qC ?_ ?_<;>intro h3
   .have hb47:b=47:=by
     have h47:(b.toNat:Int)=47:=D h3;have h48:(47:UInt8).toNat=47:=O;exact b8i.1 G
    subst hb47;rw[c1V hM]at aY;refine qC ?_ ?_<;>intro h4
    .have fc:aV=0:=by
      have:(aV:Int)=0:=D h4;omega
     subst fc;refine c6 ?_;exact⟨_,rE1,_,_,O,O,j6 (show false=F8 s by rw[aY];rfl)⟩
    .have fc:1<=aV:=by
      have:¬(aV:Int)=0:=D h4;omega
     rw[a4a fc,b1k]at aY;refine qY o7 ?_;refine cC ?_ ?_<;>intro h5
     .exfalso;simp at h5
     .refine qk (qY o7 ?_);exact⟨(i+1,parts+1,0),_,⟨do_,do_,do_,do_,aY⟩,tu_,O⟩
   .have hb47:b≠47:=by
     intro e;subst e;simp at h3
    refine qY b77 ?_;refine qY (c5 O d1d ⟨J,J⟩ (a6Z b _) O) ?_;refine a4A ?_;refine qG e2m ?_;refine a8q ?_;refine qC ?_ ?_<;>intro h6
    .have bO:inK [1,2,3,4] b=true:=Eq.trans (Eq.symm (d7x b O O)) h6;rw[d4h hb47 bO]at aY;refine qY o7 ?_;refine qC ?_ ?_<;>intro h7
     .have hbig:24<aV+1:=by
       have:((aV:Int)+1) > 24:=D h7;omega
      refine c6 ?_;exact⟨_,rE1,_,_,O,O,j6 (show false=F8 s by rw[aY,c6Y hbig])⟩
     .have hbig:aV+1<=24:=by
       have:¬((aV:Int)+1) > 24:=D h7;omega
      refine qY o7 ?_;exact⟨(i+1,parts,aV+1),_,⟨do_,do_,hbig,do_,aY⟩,tu_,O⟩
    .have bO:inK [1,2,3,4] b=false:=Eq.trans (Eq.symm (d7x b O O)) h6;rw[c9Z hb47 bO]at aY;refine c6 ?_;exact⟨_,rE1,_,_,O,O,j6 (show false=F8 s from aY.symm)⟩
  .have aH:s.length<=i:=by
    have:¬(i:Int)<s.length:=D h2;omega
   rw[Y4 aH,c98,a4a hM,Bool.and_true]at aY;refine j8 ?_;refine qG C9 ?_;refine a4w ?_;refine c6 ?_;exact⟨_,rE1,_,_,O,O,j6 (Eq.trans c8o aY.symm)⟩
structure Ky where
 k:Int
 a:I
 b:I
deriving DecidableEq
variable{a:Nat}
abbrev Ky.cells(x:Ky):List CV:=[iv x.k,sv x.a,sv x.b]
def Ky.cv(x:Ky):List CV:=x.cells
theorem G7(l:List Ky)(nn:Bool):p9 (.list (l.map Ky.cv) nn none):=F3 (f:=Ky.cv) (λ_=>⟨.val _,.val _,.val _,J⟩) l nn
theorem c76(n:Nat)(l:List Ky)(nn:Bool):Old n (.list (l.map Ky.cv) nn none):=(G7 l nn).old
theorem c2A(n:Nat)(x:Ky):F7 n (.box x.cells):=A3 ⟨.val _,.val _,.val _,J⟩
def I1(x:Ky):Bool:=
 if(x.k == 1 ||x.k == 2)=true then B9 x.a &&B9 x.b else if(x.k == 3 ||x.k == 4)=true then F8 x.a &&decide (x.b=[])else if(x.k == 5 ||x.k == 6 ||x.k == 7)=true then B9 x.a &&decide (x.b=[])else false
theorem b0X(x:Ky)(ha:x.a.length<=1000000000)(hb0:x.b.length<=1000000000)(σ:List b9):b8 CC 64 [.agg x.cells] σ λr aa=>r= .ret (.val (.bool (I1 x)))/\aa=σ:=by
 refine an_ Tryz.func64 ?_;refine b3h ?_;refine F6 ?_;refine qs 1 ?_;refine a07 hCC (α:=Bool) (λb=>[(1,.ptr 0 0),(4,iv x.k),(5,(.val (.bool b)))]) (λ_=>[.box x.cells]) (λb=>b=(x.k == 1 ||x.k == 2)) B5 uz_ ?_ ?_
 .
  refine qk (qC ?_ ?_)<;> intro h1
  .exact ⟨(x.k == 1),_,(by simp_all),tu_,O⟩
  .exact ⟨(x.k == 2),_,(by simp_all),tu_,O⟩
 .intro b hb;refine cC ?_ ?_<;>intro h2
  .refine qk (qY c4m ?_);refine b9n ?_;refine qG (λhg=>c5 O c7q ⟨hg,J⟩ (a1Q x.b _) O) ?_;refine a9W ?_;exact⟨_,rE1,_,_,O,O,j6 (show(B9 x.a &&B9 x.b)=I1 x by simp_all[I1])⟩
  .refine a07 hCC (α:=Bool) (λb=>[(1,.ptr 0 0),(4,iv x.k),(16,(.val (.bool b)))]) (λ_=>[.box x.cells]) (λb=>b=(x.k == 3 ||x.k == 4)) B5 uz_ ?_ ?_
   .
    refine qk (qC ?_ ?_)<;> intro h3
    .exact ⟨(x.k == 3),_,(by simp_all),tu_,O⟩
    .exact ⟨(x.k == 4),_,(by simp_all),tu_,O⟩
   .intro b2 cg;refine qC ?_ ?_<;>intro h4
    .refine qY (c5 O c6J ⟨J,J⟩ (a1R x.a G _) O) ?_;refine b9n ?_;refine qG b4k ?_;refine a9W ?_;exact⟨_,rE1,_,_,O,O,j6 (show(F8 x.a &&decide (x.b=[]))=I1 x by simp_all[I1])⟩
    .refine qC ?_ ?_<;>intro h5
     .refine qC ?_ ?_<;>intro h6
      .refine qY c4m ?_;refine b9n ?_;refine qG b4k ?_;refine qY R4 ?_;exact e0y
      .refine qk ?_;exact e0x
     .refine qC ?_ ?_<;>intro h7
      .refine qC ?_ ?_<;>intro h8
       .refine qY c4m ?_;refine b9n ?_;refine qG b4k ?_;refine qY R4 ?_;exact e0y
       .refine qk ?_;exact e0x
      .refine qC ?_ ?_<;>intro h9
       .refine qY c4m ?_;refine b9n ?_;refine qG b4k ?_;refine qY R4 ?_;exact e0y
       .refine qk ?_;exact e0x
theorem b9x{P:Program}(a b:I)(w:World):(Extern.BytealgCompare.compare #[.string (str a),.string (str b)]).run P w= .ok (.int .i64 (Go.Lib.compareBytes a b)) w:=by
 have:=Go.Lib.run_compareString (P:=P) (str a) (str b) w;rw[this];simp[str]
def V6(a b:Int):Int:=if a<b then -1 else if b<a then 1 else 0
def Z8(x y:Ky):Int:=if V6 x.k y.k≠0 then V6 x.k y.k else if Go.Lib.compareBytes x.a y.a≠0 then Go.Lib.compareBytes x.a y.a else Go.Lib.compareBytes x.b y.b
theorem d2N:∀(a b:I),Op.bytesLess a b=decide (Go.Lib.compareBytes a b= -1)
 | [],[]=>rfl
 | [],_::_=>rfl
 |_::_,[]=>by simp[Op.bytesLess,Go.Lib.compareBytes]
 |x::a,y::b=>by
  rw[Op.bytesLess,Go.Lib.compareBytes,d2N a b];by_cases h:x<y
  .simp [h]
  .by_cases h':y<x
   .have:¬x=y:=λe=>h (by rw[e]at h';exact absurd h' U);simp[h,h',this]
   .have:x=y:=by
     apply b8i.1;rw[b6Y]at h h';omega
    subst this;simp
theorem b31:∀(a b:I),Go.Lib.compareBytes a b=0↔a=b
 | [],[]=>by simp[Go.Lib.compareBytes]
 | [],_::_=>by simp[Go.Lib.compareBytes]
 |_::_,[]=>by simp[Go.Lib.compareBytes]
 |x::a,y::b=>by
  rw[Go.Lib.compareBytes];by_cases h:x<y
  .have:¬x=y:=λe=>by rw[e]at h;exact absurd h U
   simp[h,this]
  .by_cases h':y<x
   .have:¬x=y:=λe=>by rw[e]at h';exact absurd h' U
    simp[h,h',this]
   .have:x=y:=by
     apply b8i.1;rw[b6Y]at h h';omega
    subst this;simp[b31 a b]
theorem b0w:∀(a b:I),Go.Lib.compareBytes b a= -Go.Lib.compareBytes a b
 | [],[]=>rfl
 | [],_::_=>rfl
 |_::_,[]=>rfl
 |x::a,y::b=>by
  rw[Go.Lib.compareBytes,Go.Lib.compareBytes,b0w a b];by_cases h:x<y
  .have:¬y<x:=λh'=>by
    rw[b6Y]at h h';omega
   simp[h,this]
  .by_cases h':y<x<;>simp[h,h']
theorem b6J:∀(a b:I),Go.Lib.compareBytes a b= -1\/Go.Lib.compareBytes a b=0\/Go.Lib.compareBytes a b=1
 | [],[]=>.inr (.inl O)
 | [],_::_=>.inl O
 |_::_,[]=>.inr (.inr O)
 |x::a,y::b=>by
  rw[Go.Lib.compareBytes]
  split
  .exact .inl O
  .split
   .exact .inr (.inr O)
   .exact b6J a b
theorem b0B(a b:Int):V6 a b=0↔a=b:=by unfold V6;split<;>(try split)<;>omega
theorem b6l(x y:Ky):Z8 x y=0↔x=y:=by
 obtain⟨k,a,b⟩:=x;obtain⟨k',a',b'⟩:=y;unfold Z8;simp only[Ky.mk.injEq];have h1:=b0B k k';have h2:=b31 a a';have h3:=b31 b b'
 split
 .rename_i h;exact⟨λe=>absurd e h,λ⟨e,_⟩=>h1.2 e⟩
 .rename_i h;have hk:k=k':=h1.1 (D h)
  split
  .rename_i h;exact⟨λe=>absurd e h,λ⟨_,e,_⟩=>h2.2 e⟩
  .rename_i h;have ha:a=a':=h2.1 (D h);rw[h3];exact⟨λe=>⟨hk,ha,e⟩,λ⟨_,_,e⟩=>e⟩
theorem c6l(x y:Ky):Z8 y x= -Z8 x y:=by
 unfold Z8;have h1:V6 y.k x.k = -V6 x.k y.k:=by unfold V6;split<;>split<;>(try split)<;>omega
 rw[h1,b0w x.a y.a,b0w x.b y.b];by_cases h:V6 x.k y.k=0
 .by_cases h':Go.Lib.compareBytes x.a y.a=0<;>simp[h,h']
 .simp [h]
theorem b0Q(x y:Ky):Z8 x y= -1\/Z8 x y=0\/Z8 x y=1:=by
 unfold Z8
 split
 .unfold V6
  split
  .exact .inl O
  .split
   .exact .inr (.inr O)
   .exact .inr (.inl O)
 .split
  .exact b6J _ _
  .exact b6J _ _
theorem c4K(x y:Ky):∀w,(Op.equal 49 (.agg [.int .i64 x.k,.string (str x.a),.string (str x.b)].toArray) (.agg [.int .i64 y.k,.string (str y.a),.string (str y.b)].toArray)).run CC.P w= .ok (decide (x=y)) w:=λw=>by
 show(Op.equal _ _ _).run Tryz.prog w=_;simp[Op.equal,Op.maxDepth,go_sem,Q4];obtain⟨a,b,c⟩:=x;obtain⟨a',b',c'⟩:=y;by_cases h1:a=a'<;>by_cases h2:b=b'<;>by_cases h3:c=c'<;>simp[h1,h2,h3]
theorem a9s(a:Int)(σ:List b9):b8 CC 218 [iv a] σ λr aa=>r= .ret (.val (.bool false))/\aa=σ:=by
 refine b8.anyw hCC pu_ pu_ (c7 (qO Tryz.func218 ?_)) σ;refine c6 ?_;exact⟨_,rE1,_,_,O,O,j6 U⟩
theorem a6u(a b:Int)(σ:List b9):b8 CC 170 [iv a,iv b] σ λr aa=>r= .ret (iv (V6 a b))/\aa=σ:=by
 refine b8.anyw hCC pu_ pu_ (c7 (qO Tryz.func170 ?_)) σ;refine qY (c5 O Tryz.call218 ⟨J,J⟩ (a9s a _) O) ?_;refine qY (c5 O Tryz.call218 ⟨J,J⟩ (a9s b _) O) ?_;refine qC ?_ ?_<;>intro h1
 .cases h1
 .refine qC ?_ ?_<;>intro h3
  .cases h3
  .refine qC ?_ ?_<;>intro h4
   .have af:a<b:=D h4;refine c6 ?_;exact⟨_,rE1,_,_,O,O,B4 (show(-1:Int)=V6 a b by rw[V6,Q af])⟩
   .have aH:¬a<b:=D h4;refine qC ?_ ?_<;>intro h5
    .have af:b<a:=D h5;refine c6 ?_;exact⟨_,rE1,_,_,O,O,B4 (show(1:Int)=V6 a b by rw[V6,W aH,Q af])⟩
    .have fp:¬b<a:=D h5;refine c6 ?_;exact⟨_,rE1,_,_,O,O,B4 (show(0:Int)=V6 a b by rw[V6,W aH,W fp])⟩
theorem d4t{l:List Int}{x:Int}(hx:l[i]?=some x)(hz:∀y∈l.take i,y=0)(h:x≠0):x=(l.find? λx=>decide (x≠0)).getD 0:=by
 obtain⟨af,rfl⟩:=n_2.1 hx;have:l.find? (λx=>decide (x≠0))=some l[i]:=by
  rw[List.find?_eq_some_iff_getElem];refine⟨D h,i,af,O,λj hj=>?_⟩;have:=hz l[j] (n_3 (i:=j) (by rw[a2q,Q hj];simp));simp[this]
 rw[this];rfl
theorem d5C{l:List Int}{x:Int}(hx:l[i]?=some x)(hz:∀y∈l.take i,y=0)(h:x=0):∀y∈l.take (i+1),y=0:=by
 obtain⟨af,rfl⟩:=n_2.1 hx;rw[<- b1s af];intro y hy
 rcases T9.1 hy with hy|hy
 .exact hz y hy
 .rw [a2T.1 hy];exact h
theorem d5M{l:List Int}(hz:∀y∈l,y=0):(0:Int)=(l.find? λx=>decide (x≠0)).getD 0:=by
 have:l.find? (λx=>decide (x≠0))=none:=List.find?_eq_none.2 λx hx=>by simp[hz x hx]
 rw[this];rfl
theorem b8Y(l:List Int)(hl:l.length<=1000000)(σ:List b9):b8 CC 169 [(.list (l.map icv) true none)] σ λr aa=>r= .ret (iv ((l.find? λx=>decide (x≠0)).getD 0))/\aa=σ:=by
 refine b8.anyw hCC pu_ pu_ (c7 (qO Tryz.func169 ?_)) σ;refine qY a4V ?_;refine o4 hCC (α:=Nat) (λi=>[(3,(iv (0))),(6,(.list (l.map icv) true none)),(7,iv l.length),(8,iv i)]) (λ_=>[]) (λi=>i<=l.length/\∀x∈l.take i,x=0) (λi=>l.length -i) 0 ⟨n_5 _,U⟩ tu_ (am:=[]) O B5 uz_ ?_;intro i ⟨hi,hz⟩;refine qk (qC ?_ ?_)<;> intro h1
 .have bo:(i:Int)<l.length:=D h1;obtain⟨x,hx⟩:=gx_ l i;refine qY (r6 O J J O O t_4 t_1 G (j5 hx) O) ?_;refine qC ?_ ?_<;>intro h2
  .have hx0:x≠0:=D h2;refine c6 ?_;exact⟨_,rE1,_,_,O,O,B4 (d4t hx hz hx0)⟩
  .have hx0:x=0:=D h2;refine qY o7 ?_;exact⟨(i+1),_,⟨G,G,d5C hx hz hx0⟩,tu_,O⟩
 .have aH:l.length<=i:=by
   have:¬(i:Int)<l.length:=D h1;omega
  rw[U2 aH]at hz;refine a0i ?_;exact⟨_,rE1,_,_,O,O,B4 (d5M hz)⟩
theorem a7f(a b:I)(σ:List b9):b8 CC 219 [(sv a),(sv b)] σ λr aa=>r= .ret (iv (Go.Lib.compareBytes a b))/\aa=σ:=by
 refine b8.anyw hCC pu_ pu_ (c7 (qO Tryz.func219 ?_)) σ;refine qY (c1j (e:=Extern.BytealgCompare.compare) O Tryz.func262 O O O O J J O O (λw=>b9x a b w)) ?_;exact c0K
theorem V3(a b:I)(σ:List b9):b8 CC 171 [(sv a),(sv b)] σ λr aa=>r= .ret (iv (Go.Lib.compareBytes a b))/\aa=σ:=by
 refine b8.anyw hCC pu_ pu_ (c7 (qO Tryz.func171 ?_)) σ;refine qY (c5 O Tryz.call219 i7 (a7f a b _) O) ?_;exact c0K
theorem d9o(x y:Ky):(([V6 x.k y.k,Go.Lib.compareBytes x.a y.a,Go.Lib.compareBytes x.b y.b].find? λx=>decide (x≠0)).getD 0)=Z8 x y:=by
 unfold Z8;by_cases h1:V6 x.k y.k=0
 .by_cases h2:Go.Lib.compareBytes x.a y.a=0
  .by_cases h3:Go.Lib.compareBytes x.b y.b=0<;>simp[h1,h2,h3]
  .simp [h1,h2]
 .simp [h1]
theorem c1N(x y:Ky):b8 CC 115 [.agg x.cells,.agg y.cells] [] λr aa=>r= .ret (iv (Z8 x y))/\aa=[]:=by
 refine c7 (qO Tryz.func115 ?_);refine c6R ?_;refine qY (b05 O J J (xs:=[.int .i64 x.k,.string (str x.a),.string (str x.b)]) (ys:=[.int .i64 y.k,.string (str y.a),.string (str y.b)]) O O c47 (c4K x y)) ?_;refine qC ?_ ?_<;>intro h1
 .have fq:x=y:=D h1;subst fq;refine c6 ?_;exact⟨_,rE1,_,_,O,O,B4 (show(0:Int)=Z8 x x from((b6l x x).2 O).symm)⟩
 .refine cW 18 ?_;refine hY c9N ?_;refine hY a1l ?_;refine hY c9N ?_;refine hY a1l ?_;refine hY (c5 O Tryz.call170 i7 (a6u x.k y.k _) O) ?_;refine hY a2F ?_;refine hY M6 ?_;refine hY a2F ?_;refine hY M6 ?_;refine hY (c5 O c3K i7 (V3 x.a y.a _) O) ?_;refine hY a2F ?_;refine hY M6 ?_;refine hY a2F ?_;refine hY M6 ?_;refine hY (c5 O c3K i7 (V3 x.b y.b _) O) ?_;refine hY (A9 ([V6 x.k y.k,Go.Lib.compareBytes x.a y.a,Go.Lib.compareBytes x.b y.b].map icv) O E7 t_4 t_1 t_7 O O O O O O O O O) ?_;refine hY (c5 O Tryz.call169 ⟨J,J⟩ (b8Y _ U _) O) ?_;refine hY a0H ?_;refine a0T ?_;refine c6 ?_;exact⟨_,rE1,_,_,O,O,B4 (d9o x y)⟩
def ltK(x y:Ky):Bool:=decide (Z8 x y= -1)
theorem d2z(x y:Ky):ltK y x=decide (Z8 x y=1):=by
 rw[ltK,c6l]
 rcases b0Q x y with h|h|h<;>simp[h]
def c0w(v n:Int):Int:=if n<=1 then 0 else v%n
theorem a7X{v n:Int}(hn:1<=n):0<=c0w v n/\c0w v n<n:=by
 unfold c0w
 split
 .omega
 .exact ⟨Int.emod_nonneg _ G,Int.emod_lt_of_pos _ G⟩
def b2a(l:List Int)(at_:Nat):Int:=(l[at_]?).getD ((at_:Int)*7%11)
def H7(l:List Int)(at_:Nat)(n:Int):Int:=c0w (b2a l at_) n
abbrev w8(l:List Int)(nn:Bool)(at_:Nat):b9:=.box [.list (l.map icv) nn none,iv at_]
theorem G3(l:List Int)(nn:Bool)(k:Nat):a6C (w8 l nn k):=O4.all ⟨a0X _ _,.val _,J⟩
theorem b32(v n:Int)(hn:n<=4611686018427387904)(σ:List b9):b8 CC 74 [iv v,iv n] σ λr aa=>r= .ret (iv (c0w v n))/\aa=σ:=by
 refine b8.anyw hCC pu_ pu_ (c7 (qO Tryz.func74 ?_)) σ;refine qC ?_ ?_<;>intro h1
 .have bd:n<=1:=D h1;refine c6 ?_;exact⟨_,rE1,_,_,O,O,B4 (by rw[c0w,Q bd])⟩
 .have bd:¬n<=1:=D h1;have ht:v.tmod n=v%n\/v.tmod n+n=v%n/\v.tmod n<0:=by
   rcases Int.le_total 0 v with hv|hv
   .exact .inl (Int.tmod_eq_emod_of_nonneg hv)
   .rw [Int.tmod_eq_emod];split
    .exact .inl G
    .right;have:=Int.emod_lt_of_pos v (show 0<n by omega);have h5:(n.natAbs:Int)=n:=by omega
     omega
  have dJ:=Int.emod_nonneg v (show n≠0 by omega);have cI:=Int.emod_lt_of_pos v (show 0<n by omega);have gr:=Int.tmod_lt_of_pos v (show 0<n by omega);have hm4: -n<=v.tmod n:=by omega
  refine qY (a2I O J J O O (d3Q G)) ?_;refine qC ?_ ?_<;>intro h2
  .have af:v.tmod n<0:=D h2;refine qY a6A ?_;refine c6 ?_;exact⟨_,rE1,_,_,O,O,B4 (by rw[c0w,W bd];omega)⟩
  .have af:¬v.tmod n<0:=D h2;refine c6 ?_;exact⟨_,rE1,_,_,O,O,B4 (by rw[c0w,W bd];omega)⟩
theorem K0(l:List Int)(nn:Bool)(k:Nat)(σ:List b9)(q:Nat)(hk:σ[q]?=some (w8 l nn k))(aU:k<=1000000000)(hl:l.length<=maxLen)(n:Int)(hn:n<=4611686018427387904):b8 CC 24 [.ptr q 0,iv n] σ λr aa=>∃_:Unit,r= .ret (iv (H7 l k n))/\aa=σ.set q (w8 l nn (k+1))/\True:=by
 have dL:=hl;unfold maxLen at dL;unfold w8 at hk;have hq:q<σ.length:=(n_2.1 hk).1;refine cO Tryz.func24 ?_;refine a5n ?_;refine a8t ?_;refine cY b4T ?_;refine cY b9Q ?_;refine cY (b7I O J O O O G G) ?_;refine cY (a2I O J O O O (c0P G G)) ?_;refine z_1 ?_;refine a9t ?_;refine b4I ?_;refine hY b4T ?_;refine hY b9Q ?_;refine a2W ?_;refine d8B ?_;refine hY a4V ?_;refine hY a7v ?_;refine a6g ?_;refine cC ?_ ?_<;>intro h1
 .have af:(k:Int)<l.length:=D h1;obtain⟨v,hv⟩:=gx_ l k;refine cW 11 ?_;refine a2W ?_;refine d8B ?_;refine a2W ?_;refine hY b4T ?_;refine hY b9Q ?_;refine hY (r6 O J J O O t_4 t_1 G (j5 hv) O) ?_;refine hY b3A ?_;refine hY a0H ?_;refine a6g ?_;refine a8t ?_;refine cY b4T ?_;refine cY b9Q ?_;refine cY o7 ?_;refine cY W2 ?_;refine d8d ?_;refine p7 ?_;refine a1Y ?_;refine yc O Tryz.call74 i7 (b32 v n hn _) ?_;refine a4z ?_;exact⟨_,rE1,⟨(),by rw[H7,b2a,hv];rfl,O,J⟩⟩
 .have aH:¬(k:Int)<l.length:=D h1;have hv:l[k]?=none:=c0X G;refine w9 ?_;refine a8t ?_;refine cY b4T ?_;refine cY b9Q ?_;refine cY o7 ?_;refine cY W2 ?_;refine d8d ?_;refine p7 ?_;refine a1Y ?_;refine yc O Tryz.call74 i7 (b32 _ n hn _) ?_;refine a4z ?_;exact⟨_,rE1,⟨(),by rw[H7,b2a,hv];rfl,O,J⟩⟩
theorem P3(l:List Int)(nn:Bool)(k:Nat)(σ:List b9)(q:Nat)(hk:σ[q]?=some (w8 l nn k))(aU:k<=1000000000)(hl:l.length<=maxLen)(n m:Int)(hn:m<=4611686018427387904):b8 CC 10 [.ptr q 0,iv n,iv m] σ λr aa=>∃_:Unit,r= .ret (.val (.bool (decide (H7 l k m<n))))/\aa=σ.set q (w8 l nn (k+1))/\True:=by
 refine qO Tryz.func10 ?_;refine qD (c4 O a6K i7 (K0 l nn k σ q hk aU hl m hn) O ?_);intro _ _;exact c79
theorem a83(l:List Int)(nn:Bool)(k:Nat)(σ:List b9)(q:Nat)(hk:σ[q]?=some (w8 l nn k))(aU:k<=1000000000)(hl:l.length<=maxLen)(ls:List Int)(eU:ls≠[])(hln:ls.length<=1000):b8 CC 36 [.ptr q 0,.list (ls.map icv) true none] σ λr aa=>∃v:Int,r= .ret (iv v)/\aa=σ.set q (w8 l nn (k+1))/\v∈ls:=by
 have dU:=a6M.2 eU;have hb:=a7X (v:=b2a l k) (n:=(ls.length:Int)) G;obtain⟨v,hv⟩:∃v,ls[(H7 l k (ls.length:Int)).toNat]?=some v:=⟨ls[(H7 l k (ls.length:Int)).toNat]'(by unfold H7;omega),U⟩;have hb':0<=H7 l k (ls.length:Int):=hb.1;refine qO Tryz.func36 ?_;refine qY a4V ?_;refine cC ?_ ?_<;>intro h1
 .exfalso;simp at h1;exact eU h1
 .refine qk (qY a4V ?_);refine qD (c4 O a6K i7 (K0 l nn k σ q hk aU hl (ls.length:Int) G) O ?_);intro _ _;refine qY (r6 O J J O O t_4 t_1 G (j5 hv) O) ?_;exact d8C
theorem G9(l:List Int)(nn:Bool)(k:Nat)(σ:List b9)(q:Nat)(hk:σ[q]?=some (w8 l nn k))(aU:k<=1000000000)(hl:l.length<=maxLen)(ls:List I)(eU:ls≠[])(hln:ls.length<=1000):b8 CC 27 [.ptr q 0,.list (ls.map scv) true none] σ λr aa=>∃v:I,r= .ret (sv v)/\aa=σ.set q (w8 l nn (k+1))/\v∈ls:=by
 have dU:=a6M.2 eU;have hb:=a7X (v:=b2a l k) (n:=(ls.length:Int)) G;obtain⟨v,hv⟩:∃v,ls[(H7 l k (ls.length:Int)).toNat]?=some v:=⟨ls[(H7 l k (ls.length:Int)).toNat]'(by unfold H7;omega),U⟩;have hb':0<=H7 l k (ls.length:Int):=hb.1;refine qO Tryz.func27 ?_;refine qY P5 ?_;refine cC ?_ ?_<;>intro h1
 .exfalso;simp at h1;exact eU h1
 .refine b4Y ?_;refine qD (c4 O a6K i7 (K0 l nn k σ q hk aU hl (ls.length:Int) G) O ?_);intro _ _;refine qY (r6 O J J O O t_2 t_0 G (j5 hv) O) ?_;exact d8C
def Q2:List I:=([[112],[113],[115]]:List I)
theorem a2R(σ:List b9):b8 CC 33 [] σ λr aa=>r= .ret (.list (Q2.map scv) true none)/\aa=σ:=by
 refine b8.anyw hCC pu_ pu_ (c7 (qO Tryz.func33 ?_)) σ;refine qY (A9 (Q2.map scv) O ⟨O,O,O,J⟩ t_2 t_0 t_3 O O O O O O O O O) ?_;exact d0y
def Q6:List I:=([[102],[103],[104],[107]]:List I)
theorem a5e(σ:List b9):b8 CC 59 [] σ λr aa=>r= .ret (.list (Q6.map scv) true none)/\aa=σ:=by
 refine b8.anyw hCC pu_ pu_ (c7 (qO Tryz.func59 ?_)) σ;refine qY (A9 (Q6.map scv) O ⟨O,O,O,O,J⟩ t_2 t_0 t_3 O O O O O O O O O) ?_;exact d0y
def a1S:List I:=([[116],[117],[118]]:List I)
theorem b15(σ:List b9):b8 CC 38 [] σ λr aa=>r= .ret (.list (a1S.map scv) true none)/\aa=σ:=by
 refine b8.anyw hCC pu_ pu_ (c7 (qO Tryz.func38 ?_)) σ;refine qY (A9 (a1S.map scv) O ⟨O,O,O,J⟩ t_2 t_0 t_3 O O O O O O O O O) ?_;exact d0y
def Z9:List I:=([[97,46,100,97,116],[100,47,98,46,100,97,116],[99],[97,46,115,114,99],[120,46,115,114,99]]:List I)
theorem b2d(σ:List b9):b8 CC 60 [] σ λr aa=>r= .ret (.list (Z9.map scv) true none)/\aa=σ:=by
 refine b8.anyw hCC pu_ pu_ (c7 (qO Tryz.func60 ?_)) σ;refine qY (A9 (Z9.map scv) O ⟨O,O,O,O,O,J⟩ t_2 t_0 t_3 O O O O O O O O O) ?_;exact d0y
def U6:List I:=([[110],[109]]:List I)
theorem a5l(σ:List b9):b8 CC 61 [] σ λr aa=>r= .ret (.list (U6.map scv) true none)/\aa=σ:=by
 refine b8.anyw hCC pu_ pu_ (c7 (qO Tryz.func61 ?_)) σ;refine qY (A9 (U6.map scv) O ⟨O,O,J⟩ t_2 t_0 t_3 O O O O O O O O O) ?_;exact d0y
theorem a5S{v:I}(h:v∈Q2\/v∈Q6\/v∈a1S\/v∈U6):B9 v=true:=by
 rcases h with h|h|h|h<;>revert v<;>decide
theorem c2N{v:I}(h:v∈Z9):F8 v=true:=by
 revert v;decide
theorem e2P{k:Int}{a b:I}(h:k=1\/k=2)(ha:B9 a=true)(hb:B9 b=true):I1 ⟨k,a,b⟩=true:=by
 rcases h with rfl|rfl<;>simp[I1,ha,hb]
theorem e2Z{k:Int}{a:I}(h:k=3\/k=4)(ha:F8 a=true):I1 ⟨k,a,[]⟩=true:=by
 rcases h with rfl|rfl<;>simp[I1,ha]
theorem e2y{k:Int}{a:I}(h:k=5\/k=6\/k=7)(ha:B9 a=true):I1 ⟨k,a,[]⟩=true:=by
 rcases h with rfl|rfl|rfl<;>simp[I1,ha]
theorem c8n(l:List Int)(nn:Bool)(k:Nat)(aU:k<=900000000)(hl:l.length<=maxLen):b8 CC 18 [.ptr 0 0] [w8 l nn k] λr aa=>∃(a:Ky×Nat) (rest:List b9) (c0:CV),aa=w8 l nn a.2::rest/\r= .ret c0/\Cls 1 aa c0 (.agg a.1.cells)/\I1 a.1=true/\(k<=a.2/\a.2<=k+3):=by
 have hb:=a7X (v:=b2a l k) (n:=7) G;have hb1:0<=H7 l k 7:=hb.1;have cg:H7 l k 7<7:=hb.2;refine cO Tryz.func18 ?_;refine z_0 ?_;refine cD (o6 O a21 O j4 ?_);refine a82 ?_;refine de O a6K o3 (K0 l nn k _ 0 O G hl 7 G) O ?_;intro _ _;refine cY (b8T O O J O O G G) ?_;refine cY D2 ?_;refine yc O d3J trivial (a2R _) ?_;refine de O a3a i7 (G9 l nn (k+1) _ 0 O G hl Q2 H H) O ?_;intro v hv;refine cY (A1 #[(0,1),(1,1),(2,1)] O i7 c0D a21 O ⟨_,O⟩ (λw=>by kernel_rfl) O O) ?_;refine c4h ?_;refine a6r ?_;refine cY c9N ?_;refine cY a1l ?_;refine b9q ?_;refine a4B ?_;refine cC ?_ ?_<;>intro h1
 .refine z_9 ?_;refine yc O Tryz.call59 trivial (a5e _) ?_;refine de O a3a i7 (G9 l nn (k+2) _ 0 O G hl Q6 H H) O ?_;intro u hu;refine b4O ?_;exact⟨_,B1 O a9N,⟨(⟨(1+H7 l k 7),v,u⟩,k+3),_,_,O,O,J5 O pu_,(e2P (sm_ h1) (a5S (.inl hv)) (a5S (.inr (.inl hu)))),do_⟩⟩
 .refine a4B ?_;refine cC ?_ ?_<;>intro h2
  .refine z_9 ?_;refine yc O Tryz.call38 trivial (b15 _) ?_;refine de O a3a i7 (G9 l nn (k+2) _ 0 O G hl a1S H H) O ?_;intro u hu;refine b4O ?_;exact⟨_,B1 O a9N,⟨(⟨(1+H7 l k 7),v,u⟩,k+3),_,_,O,O,J5 O pu_,(e2P (sm_ h2) (a5S (.inl hv)) (a5S (.inr (.inr (.inl hu))))),do_⟩⟩
  .refine F6 ?_;refine a4B ?_;refine cC ?_ ?_<;>intro h3
   .refine w9 ?_;refine cC ?_ ?_<;>intro h4
    .refine z_9 ?_;refine d7E ?_;intro u hu;refine b4O ?_;exact⟨_,B1 O a9N,⟨(⟨(1+H7 l k 7),u,[]⟩,k+3),_,_,O,O,J5 O pu_,(e2Z (sm_ h3) (c2N hu)),do_⟩⟩
    .refine a4B ?_;refine cC ?_ ?_<;>intro h5
     .refine z_9 ?_;refine d7B ?_;intro u hu;refine b4O ?_;exact⟨_,B1 O a9N,⟨(⟨(1+H7 l k 7),u,[]⟩,k+3),_,_,O,O,J5 O pu_,(by simp at h3 h4;omega),do_⟩⟩
     .refine w9 ?_;refine d0h ?_;exact⟨_,B1 O a9N,⟨(⟨(1+H7 l k 7),v,[]⟩,k+2),_,_,O,O,J5 O pu_,(by simp at h3 h4;omega),do_⟩⟩
   .refine C2 ?_;refine c6K ?_;refine cC ?_ ?_<;>intro h6
    .refine z_9 ?_;refine d7E ?_;intro u hu;refine b4O ?_;exact⟨_,B1 O a9N,⟨(⟨(1+H7 l k 7),u,[]⟩,k+3),_,_,O,O,J5 O pu_,(e2Z (sm_ h6) (c2N hu)),do_⟩⟩
    .refine a4B ?_;refine cC ?_ ?_<;>intro h7
     .refine z_9 ?_;refine d7B ?_;intro u hu;refine b4O ?_;exact⟨_,B1 O a9N,⟨(⟨(1+H7 l k 7),u,[]⟩,k+3),_,_,O,O,J5 O pu_,(e2y (sm_ h7) (a5S (.inr (.inr (.inr hu))))),do_⟩⟩
     .refine w9 ?_;refine d0h ?_;exact⟨_,B1 O a9N,⟨(⟨(1+H7 l k 7),v,[]⟩,k+2),_,_,O,O,J5 O pu_,(e2y (by simp at h1 h2 h3 h6 h7;omega) (a5S (.inl hv))),do_⟩⟩
theorem d5F(l:List Int)(nn:Bool)(k:Nat)(aU:k<=900000000)(hl:l.length<=maxLen)(σ:List b9)(q:Nat)(hk:σ[q]?=some (w8 l nn k)):b8 CC 18 [.ptr q 0] σ λr aa=>∃a:Ky×Nat,r= .ret (.agg a.1.cells)/\aa=σ.set q (w8 l nn a.2)/\(I1 a.1=true/\(k<=a.2/\a.2<=k+3)):=
 a6y (ob:=w8 l nn k) (c:=λa:Ky×Nat=>.agg a.1.cells) (S:=λa=>w8 l nn a.2) hCC (λ_ h=>by cases h) (λ_=>pu_) (λ_=>G3 _ _ _) (G3 _ _ _) O
  (b2W (c:=λa:Ky×Nat=>.agg a.1.cells) (S:=λa=>w8 l nn a.2) hCC (λ_=>G3 _ _ _) (c8n l nn k aU hl)) σ q hk
theorem R1{v:I}(h:v∈Q2\/v∈Q6\/v∈a1S\/v∈Z9\/v∈U6):v.length<=8:=by
 rcases h with h|h|h|h|h<;>revert v<;>decide
def sub(s:I)(a e:Nat):I:=(s.take e).drop a
theorem c4R{e:Nat}(h:e<=s.length):(sub s a e).length=e-a:=by simp[sub];omega
def preB(p s:I):Bool:=p.isPrefixOf s
def c1X(p s:I):Bool:=decide (p.length<=s.length)&&decide (s.drop (s.length -p.length)=p)
theorem e0O(s p:I)(hx:x=decide ((s.length:Int)>=p.length))(hy:x=true->y=decide ((s.take p.length).drop 0=p)):(x&&y)=preB p s:=by
 subst hx;by_cases h:(s.length:Int)>=p.length
 .rw [hy (a4a h),a4a h,b1k,b0k,preB];by_cases h2:s.take p.length=p
  .have:p.isPrefixOf s=true:=by rw[b9r];exact⟨s.drop p.length,by rw[show p++s.drop p.length=s.take p.length++s.drop p.length by rw[h2]];exact b4i _ _⟩
   simp[h2,this]
  .have:p.isPrefixOf s=false:=by
    cases hq:p.isPrefixOf s with
    |false=>rfl
    |true=>
     rw[b9r]at hq;obtain⟨t,rfl⟩:=hq;exact absurd (List.take_left' O) h2
   simp[h2,this]
 .have:p.isPrefixOf s=false:=by
   cases hq:p.isPrefixOf s with
   |false=>rfl
   |true=>
    rw[b9r]at hq;obtain⟨t,rfl⟩:=hq;exfalso;apply h;simp;omega
  rw[preB,this,a3U h];rfl
theorem e0l(s p:I)(hx:x=decide ((s.length:Int)>=p.length))(hy:x=true->y=decide ((s.take s.length).drop (s.length -p.length)=p)):(x&&y)=c1X p s:=by
 subst hx;unfold c1X;by_cases h:(s.length:Int)>=p.length
 .rw [hy (a4a h),a4a h,a57,a4a (show p.length<=s.length by omega)]
 .rw [a3U h,a3U (show ¬p.length<=s.length by omega)];rfl
theorem b2f(s p:I)(σ:List b9):b8 CC 250 [(sv s),(sv p)] σ λr aa=>r= .ret (.val (.bool (preB p s)))/\aa=σ:=by
 refine b8.anyw hCC pu_ pu_ (c7 (qO Tryz.func250 ?_)) σ;refine qY S4 ?_;refine qY S4 ?_;refine a4A ?_;refine qG c5g ?_;refine qG (λhg=>K7 (h:=p.length) O hg O t_5 O ⟨hg,_,_,O,by first|omega|(simp at hg;omega),by first|omega|(simp at hg;omega)⟩ G (sm_ hg)) ?_;refine c2O ?_;refine a9W ?_;exact⟨_,rE1,_,_,O,O,j6 (e0O s p O λ_=>O)⟩
theorem a6m(s p:I)(σ:List b9):b8 CC 194 [(sv s),(sv p)] σ λr aa=>r= .ret (.val (.bool (preB p s)))/\aa=σ:=by
 refine b8.anyw hCC pu_ pu_ (c7 (qO Tryz.func194 ?_)) σ;refine qY (c5 O Tryz.call250 i7 (b2f s p _) O) ?_;exact d3Z
theorem b1w(s p:I)(hs:s.length<=1000000000000)(hp:p.length<=1000000000000)(σ:List b9):b8 CC 152 [(sv s),(sv p)] σ λr aa=>r= .ret (.val (.bool (c1X p s)))/\aa=σ:=by
 refine b8.anyw hCC pu_ pu_ (c7 (qO Tryz.func152 ?_)) σ;refine qY S4 ?_;refine qY S4 ?_;refine a4A ?_;refine qG c5g ?_;refine a7C ?_;refine qG (λhg=>a8s O hg hg O O a9M a9M) ?_;refine qG (λhg=>K7 (a:=(s.length -p.length)) O hg O t_5 ⟨hg,_,_,O,by first|omega|(simp at hg;omega),by first|omega|(simp at hg;omega)⟩ O (sm_ hg) (n_6 _)) ?_;refine c2O ?_;refine a9W ?_;exact⟨_,rE1,_,_,O,O,j6 (e0l s p O λ_=>O)⟩
theorem a6a(s p:I)(hs:s.length<=1000000000000)(hp:p.length<=1000000000000)(σ:List b9):b8 CC 102 [(sv s),(sv p)] σ λr aa=>r= .ret (.val (.bool (c1X p s)))/\aa=σ:=by
 refine b8.anyw hCC pu_ pu_ (c7 (qO Tryz.func102 ?_)) σ;refine qY (c5 O Tryz.call152 i7 (b1w s p hs hp _) O) ?_;exact d3Z
theorem c1a{e:Nat}(h:e<s.length):s[e]?=some (s[e]?.getD 0):=by simp[h]
theorem c36{p:I}(h:preB p s=true):p.length<=s.length:=by
 unfold preB at h;rw[b9r]at h;exact h.length_le
structure Tok where
 k:Int
 t:I
 n:Int
 at_:Int
variable{T:List Tok}{at_:Int}{t:Tok}
abbrev Tok.cells(x:Tok):List CV:=[iv x.k,sv x.t,iv x.n,iv x.at_]
def Tok.cv(x:Tok):List CV:=x.cells
theorem a3F(l:List Tok)(nn:Bool):p9 (.list (l.map Tok.cv) nn none):=F3 (f:=Tok.cv) (λ_=>⟨.val _,.val _,.val _,.val _,J⟩) l nn
theorem W8(n:Nat)(l:List Tok)(nn:Bool):Old n (.list (l.map Tok.cv) nn none):=(a3F l nn).old
def a4E(l:I):Int:=l.foldl (λn b=>min (10*n+((b.toNat:Int) -48)) 9007199254740993) 0
def a36:I->Option Nat
 | []=>none
 |b::l=>if 32<=b.toNat/\b.toNat<=126 then(if b.toNat=34 then some 0 else(a36 l).map (· +1))else none
def D5(s:I)(a:Nat)(b:UInt8):Tok×Int×Int:=
 if l9 b.toNat=1 then
  (if 24<A2 s a [1,2,3] -a then(⟨0,[],0,0⟩,0,2)else(⟨1,sub s a (A2 s a [1,2,3]),0,0⟩,A2 s a [1,2,3],0))
 else if l9 b.toNat=2 then
  (if 9007199254740992<a4E (sub s a (A2 s a [2]))then(⟨0,[],0,0⟩,0,3)else(⟨2,[],a4E (sub s a (A2 s a [2])),0⟩,A2 s a [2],0))
 else if l9 b.toNat=7 then
  (match a36 (s.drop (a+1))with
   |none=>(⟨0,[],0,0⟩,0,9)
   |some n=>(⟨3,sub s (a+1) (a+1+n),0,0⟩,a+1+n+1,0))
 else if l9 b.toNat=8 then
  (if preB [61,61] (s.drop a)=true then(⟨4,sub s a (a+2),0,0⟩,a+2,0)else(⟨4,sub s a (a+1),0,0⟩,a+1,0))
 else(⟨0,[],0,0⟩,0,9)
theorem a3l{e:Nat}{b:UInt8}(h:s[e]?=some b):a36 (s.drop e)=if 32<=b.toNat/\b.toNat<=126 then(if b.toNat=34 then some 0 else(a36 (s.drop (e+1))).map (· +1))else none:=by
 obtain⟨af,rfl⟩:=n_2.1 h;rw[Y0 af];rfl
theorem b3X{e:Nat}(h:s.length<=e):a36 (s.drop e)=none:=by rw[Y4 h];rfl
theorem c5z{l:I}{b:UInt8}(h:l[j]?=some b):a4E (l.take (j+1))=min (10*a4E (l.take j)+((b.toNat:Int) -48)) 9007199254740993:=by
 obtain⟨af,rfl⟩:=n_2.1 h;rw[<- b1s af,a4E,c4w];rfl
theorem b4d{l:I}(h:∀b∈l,48<=b.toNat/\b.toNat<=57):0<=a4E l/\a4E l<=9007199254740993:=by
 unfold a4E
 suffices ∀(l:I) (n:Int),0<=n->n<=9007199254740993->(∀b∈l,48<=b.toNat/\b.toNat<=57)->0<=l.foldl (λn b=>min (10*n+((b.toNat:Int) -48)) 9007199254740993) n/\l.foldl (λn b=>min (10*n+((b.toNat:Int) -48)) 9007199254740993) n<=9007199254740993 from this l 0 G G h
 intro l
 induction l with
 |nil=>intro n h0 h1 _;exact⟨h0,h1⟩
 |cons b l ih=>
  intro n h0 h1 h;have hb:=h b U;exact ih (min (10*n+((b.toNat:Int) -48)) 9007199254740993) G G λc hc=>h c (by simp[hc])
theorem a4S{b:UInt8}:l9 b.toNat=2↔48<=b.toNat/\b.toNat<=57:=by
 unfold l9;constructor
 .intro h;split at h
  .omega
  .split at h
   .omega
   .exfalso;revert h;repeat' split
    all_goals omega
 .intro h;rw[W G,Q G]
theorem e1A{c:Nat}(h:48<=c/\c<=57):IntKind.i64.wrap (IntKind.u8.wrap ((c:Int) -48))=(c:Int) -48:=by
 obtain⟨h1,h2⟩:=h;simp[IntKind.wrap,IntKind.bits,IntKind.signed];omega
theorem a2c{p:UInt8->Bool}{b:UInt8}:∀{l:I},b∈l.takeWhile p->p b=true
 | [],h=>by simp at h
 |c::l,h=>by
  rw[b8U]at h;split at h
  .rename_i hc
   rcases J2.1 h with rfl|h
   .exact hc
   .exact a2c h
  .simp at h
theorem b3p:∀b∈sub s a (A2 s a [2]),48<=b.toNat/\b.toNat<=57:=by
 intro b hb;have e:sub s a (A2 s a [2])=(s.drop a).takeWhile (inK [2]):=by
  unfold sub A2;rw[List.drop_take,c9p];have h:=List.takeWhile_prefix (inK [2]) (l:=s.drop a);exact(List.prefix_iff_eq_take.1 h).symm
 rw[e]at hb;have:=a2c hb;simp[inK]at this;exact a4S.1 this
theorem c5u(s:I)(a:Nat)(b:UInt8)(hb:s[a]?=some b)(m:List (Int×Int))(hm:KM m)(hs:s.length<=1000000000000):b8 CC 154 [(sv s),iv a,.map 0] [b9.map (gm kb kv m)] λr τ=>∃_:Unit,X8 [b9.map (gm kb kv m)].length τ r (.ret (.tup [.agg (D5 s a b).1.cells,(iv ((D5 s a b).2.1)),(iv ((D5 s a b).2.2))]))/\a3X [b9.map (gm kb kv m)].length τ τ [b9.map (gm kb kv m)]/\[b9.map (gm kb kv m)].length<=[b9.map (gm kb kv m)].length/\True:=by
 have gI:=(n_2.1 hb).1;refine qO Tryz.func154 ?_;refine qD (o6 O a3b O j4 ?_);refine qY b77 ?_;refine qY e2f ?_;refine qC ?_ ?_<;>intro h1
 .have bB:l9 b.toNat=1:=by rw[<- hm];simpa using h1
  have ah:=a12 (ks:=[1,2,3]) (show a<=s.length by omega);refine qY (A9 ([1,2,3].map icv) O ⟨O,O,O,J⟩ t_4 t_1 t_7 O O O O O O O O O) ?_;refine qY (c5 O d1L a6I (a8h hm G hs H O) O) ?_;refine qY (a8s O J J O O G G) ?_;refine qC ?_ ?_<;>intro h2
  .have hn:24<A2 s a [1,2,3] -a:=sm_ h2;refine qY d6s ?_;refine z_4 ?_;exact⟨_,r8 (rs:=[.cell 6 205,.tmp 7,.tmp 8]) (cs:=[_,_,_]) O b1H (n_4 O),⟨(),.ret (J5 (by rw[D5,Q bB,Q hn];rfl) pu_),⟨.same (X9 _ _),J⟩,n_6 _,J⟩⟩
  .have hn:¬24<A2 s a [1,2,3] -a:=sm_ h2;refine qY (K7 (a:=a) (h:=(A2 s a [1,2,3])) O J O t_5 a24 a24 G G) ?_;refine qY c1v ?_;refine z_4 ?_;exact⟨_,r8 (rs:=[.cell 6 205,.tmp 7,.tmp 8]) (cs:=[_,_,_]) O b1H (n_4 O),⟨(),.ret (J5 (by rw[D5,Q bB,W hn];rfl) pu_),⟨.same (X9 _ _),J⟩,n_6 _,J⟩⟩
 .have bB:¬l9 b.toNat=1:=by rw[<- hm];simpa using h1
  refine qC ?_ ?_<;>intro h3
  .have cc:l9 b.toNat=2:=by rw[<- hm];simpa using h3
   have ah:=a12 (ks:=[2]) (show a<=s.length by omega);have hdg:=b3p (s:=s) (a:=a);have hln:=c4R (a:=a) ah.2;generalize hl:sub s a (A2 s a [2])=ds at hdg hln;refine qY (A9 ([2].map icv) O ⟨O,J⟩ t_4 t_1 t_7 O O O O O O O O O) ?_;refine qY (c5 O d1L a6I (a8h hm G hs H O) O) ?_;refine qY (K7 (a:=a) (h:=(A2 s a [2])) O J O t_5 a24 a24 G G) ?_;refine qY (d8i O J O t_5 a0R b6r (by have:=c4R (a:=a) ah.2;unfold sub at this;omega)) ?_;refine qY a9U ?_;refine o4 hCC (α:=Nat) (λj=>[(6,.ptr 1 0),(10,(iv (A2 s a [2]:Int))),(11,(iv (a4E (ds.take j)))),(50,(.list (ds.map bcv) true none)),(51,iv ds.length),(52,iv j)]) (λ_=>[b9.map (gm kb kv m),.box (Tok.cells ⟨0,[],0,0⟩)]) (λj=>j<=ds.length) (λj=>ds.length -j) 0 (n_5 _) ⟨B7,B7,B7,⟨J,(by rw[<- hl];rfl)⟩,⟨J,(by rw[<- hl];rfl)⟩,B7,J⟩ (am:=[]) O B5 uz_ ?_;intro j hj;refine qk (qC ?_ ?_)<;> intro h4
   .have bS:(j:Int)<ds.length:=D h4;obtain⟨c,hc⟩:=gx_ ds j;have hcd:=hdg c (n_3 hc);have hnb:=b4d (l:=ds.take j) λc hc=>hdg c (a8P hc);refine qY (r6 O J J O O a0R a2U G (j5 hc) O) ?_;refine qY (b7I O O J O O G G) ?_;refine qY a0c ?_;refine qY (b1c O J O b6r c3L (show IntKind.i64.wrap (IntKind.u8.wrap ((c.toNat:Int) -48))=(c.toNat:Int) -48 from e1A hcd)) ?_;refine qY a6A ?_;refine qY (d7d O J O O O) ?_;refine qY o7 ?_;exact⟨(j+1),_,⟨G,G⟩,⟨B7,B7,⟨J,(n_7 (λz:Int=>iv z) (c5z hc).symm)⟩,B7,B7,B7,J⟩,O⟩
   .have bS:ds.length<=j:=by
     have:¬(j:Int)<ds.length:=D h4;omega
    rw[U2 bS]at*;refine j8 ?_;refine qC ?_ ?_<;>intro h5
    .have hn:9007199254740992<a4E (sub s a (A2 s a [2])):=by rw[hl];simpa using h5
     refine qY d6s ?_;refine z_4 ?_;exact⟨_,r8 (rs:=[.cell 6 205,.tmp 7,.tmp 8]) (cs:=[_,_,_]) O b1H (n_4 O),⟨(),.ret (J5 (by rw[D5,W bB,Q cc,Q hn];rfl) pu_),⟨.same (X9 _ _),J⟩,n_6 _,J⟩⟩
    .have hn:¬9007199254740992<a4E (sub s a (A2 s a [2])):=by rw[hl];simpa using h5
     refine qY c1v ?_;refine z_4 ?_;exact⟨_,r8 (rs:=[.cell 6 205,.tmp 7,.tmp 8]) (cs:=[_,_,_]) O b1H (n_4 O),⟨(),.ret (J5 (by rw[D5,W bB,Q cc,W hn,hl];rfl) pu_),⟨.same (X9 _ _),J⟩,n_6 _,J⟩⟩
  .have cc:¬l9 b.toNat=2:=by rw[<- hm];simpa using h3
   refine qC ?_ ?_<;>intro h6
   .have fR:l9 b.toNat=7:=by rw[<- hm];simpa using h6
    refine qY o7 ?_;refine o4 hCC (α:=Nat) (λe=>[(0,(sv s)),(1,iv a),(6,.ptr 1 0),(14,iv e)]) (λ_=>[b9.map (gm kb kv m),.box (Tok.cells ⟨0,[],0,0⟩)]) (λe=>a+1<=e/\e<=s.length/\a36 (s.drop (a+1))=(a36 (s.drop e)).map (· +(e- (a+1)))) (λe=>s.length -e) (a+1) ⟨n_6 _,G,by cases a36 (s.drop (a+1))<;>simp⟩ tu_ (am:=[]) O B5 uz_ ?_;intro e ⟨ia,he2,he⟩;refine a7d ?_;refine a4A ?_;refine qG e1B ?_;refine a4w ?_;refine a4A ?_;refine qG e1B ?_;refine a4w ?_;refine qC ?_ ?_<;>intro h7
    .have gC:e<s.length/\32<=(s[e]?.getD 0).toNat/\(s[e]?.getD 0).toNat<=126:=sm_ h7;obtain⟨c,hc,hcd⟩:∃c,s[e]?=some c/\s[e]?.getD 0=c:=⟨s[e]?.getD 0,c1a gC.1,O⟩;rw[hcd]at gC;rw[a3l hc,Q gC.2]at he;refine qY (M9 O J J O O t_5 G hc) ?_;refine qC ?_ ?_<;>intro h8
     .have h34:c.toNat=34:=sm_ h8;rw[Q h34]at he;obtain⟨n,rfl⟩:∃n,e=a+1+n:=⟨e- (a+1),G⟩;have fJ:a36 (s.drop (a+1))=some n:=by rw[he];simp
      refine qY o7 ?_;refine qY (K7 (a:=(a+1)) (h:=(a+1+n)) O J O t_5 a24 a24 G G) ?_;refine qY c1v ?_;refine qY o7 ?_;refine z_4 ?_;exact⟨_,r8 (rs:=[.cell 6 205,.tmp 7,.tmp 8]) (cs:=[_,_,_]) O b1H (n_4 O),⟨(),.ret (J5 (by rw[D5,W bB,W cc,Q fR,fJ];rfl) pu_),⟨.same (X9 _ _),J⟩,n_6 _,J⟩⟩
     .have h34:¬c.toNat=34:=sm_ h8;rw[W h34]at he;refine qY o7 ?_;exact⟨(e+1),_,⟨G,G,G,by rw[he];cases a36 (s.drop (e+1))<;>simp;omega⟩,tu_,O⟩
    .have cM:a36 (s.drop e)=none:=by
      rcases a4x e s.length with h|h
      .rw [a3l (c1a h),W];intro hh;simp at h7;omega
      .exact b3X h
     rw[cM]at he;refine j8 ?_;refine qY d6s ?_;refine z_4 ?_;exact⟨_,r8 (rs:=[.cell 6 205,.tmp 7,.tmp 8]) (cs:=[_,_,_]) O b1H (n_4 O),⟨(),.ret (J5 (by rw[D5,W bB,W cc,Q fR,he];rfl) pu_),⟨.same (X9 _ _),J⟩,n_6 _,J⟩⟩
   .have fR:¬l9 b.toNat=7:=by rw[<- hm];simpa using h6
    refine qC ?_ ?_<;>intro h9
    .have hk8:l9 b.toNat=8:=by rw[<- hm];simpa using h9
     refine qY o7 ?_;refine qY (K7 (a:=a) O J O t_5 a24 O G (n_6 _)) ?_;refine qY (c5 O Tryz.call194 o3 (a6m ((s.take s.length).drop a) [61,61] _) O) ?_;refine qC ?_ ?_<;>intro bp
     .rw [a57]at bp;have cB:=c36 bp;rw[b4b]at cB;have cB:2<=s.length -a:=cB;refine qY o7 ?_;refine qY (K7 (a:=a) (h:=(a+2)) O J O t_5 a24 a24 G G) ?_;refine qY c1v ?_;refine z_4 ?_;exact⟨_,r8 (rs:=[.cell 6 205,.tmp 7,.tmp 8]) (cs:=[_,_,_]) O b1H (n_4 O),⟨(),.ret (J5 (by rw[D5,W bB,W cc,W fR,Q hk8,Q bp];rfl) pu_),⟨.same (X9 _ _),J⟩,n_6 _,J⟩⟩
     .rw [a57]at bp;have hp0:¬preB [61,61] (s.drop a)=true:=by rw[bp];decide
      refine qY (K7 (a:=a) (h:=(a+1)) O J O t_5 a24 a24 G G) ?_;refine qY c1v ?_;refine z_4 ?_;exact⟨_,r8 (rs:=[.cell 6 205,.tmp 7,.tmp 8]) (cs:=[_,_,_]) O b1H (n_4 O),⟨(),.ret (J5 (by rw[D5,W bB,W cc,W fR,Q hk8,W hp0];rfl) pu_),⟨.same (X9 _ _),J⟩,n_6 _,J⟩⟩
    .have hk8:¬l9 b.toNat=8:=by rw[<- hm];simpa using h9
     refine qY d6s ?_;refine z_4 ?_;exact⟨_,r8 (rs:=[.cell 6 205,.tmp 7,.tmp 8]) (cs:=[_,_,_]) O b1H (n_4 O),⟨(),.ret (J5 (by rw[D5,W bB,W cc,W fR,W hk8];rfl) pu_),⟨.same (X9 _ _),J⟩,n_6 _,J⟩⟩
theorem d2y{b:UInt8}(hb:s[a]?=some b){m:List (Int×Int)}(hm:KM m)(hs:s.length<=1000000000000)(hq:σ[q]?=some (.map (gm kb kv m))):b8 CC 154 [(sv s),iv a,.map q] σ λr τ=>r= .ret (.tup [.agg (D5 s a b).1.cells,(iv ((D5 s a b).2.1)),(iv ((D5 s a b).2.2))])/\τ=σ:=
 a62 hCC (d1Q m) pu_ hq (.cons (.val _) (.cons (.val _) (.cons (.map O) .nil))) (c5u s a b hb m hm hs)
def R3(s:I)(a:Nat):Nat:=a+((s.drop a).takeWhile (· != 10)).length
theorem c20:∀(l:I),(Go.Lib.indexByte l 10<0->(l.takeWhile (· != 10)).length=l.length)/\(0<=Go.Lib.indexByte l 10->Go.Lib.indexByte l 10=((l.takeWhile (· != 10)).length:Nat))
 | []=>⟨λ_=>O,λh=>by rw[Go.Lib.indexByte]at h;omega⟩
 |b::l=>by
  have ih:=c20 l;rw[Go.Lib.indexByte,b8U];by_cases hb:b=10
  .subst hb;exact⟨λh=>by simp at h,λh=>by simp⟩
  .have h1:(b != 10)=true:=D hb;have h2:(b == 10)=false:=D hb;rw[h1,h2];have hg:=Go.Lib.indexByte_ge l 10;simp only[if_true,if_false,D3,b09];by_cases h3:Go.Lib.indexByte l 10= -1
   .rw [h3];have:=ih.1 G;exact⟨λ_=>by simp;omega,λh=>by simp at h⟩
   .rw [W (D h3)];have:=ih.2 G;exact⟨λh=>by omega,λ_=>by omega⟩
theorem a8y(h:a<=s.length):R3 s a<=s.length:=by
 unfold R3;have:=(List.takeWhile_sublist (· != 10) (l:=s.drop a)).length_le;rw[b4b]at this;omega
theorem b2s{b:UInt8}(h:s[a]?=some b)(hb:l9 b.toNat=6):a<R3 s a:=by
 obtain⟨af,rfl⟩:=n_2.1 h;unfold R3;rw[Y0 af,b8U];have:(s[a] != 10)=true:=by
  cases hq:(s[a] != 10)with
  |true=>rfl
  |false=>
   have:s[a]=10:=D hq;rw[this]at hb;revert hb;decide
 rw[this];simp
def a0C:Nat->I->Nat->Option (List Tok)
 |0,_,_=>none
 |f+1,s,i=>match s[A2 s i [5]]? with
  |none=>some [⟨5,[],0,(A2 s i [5]:Nat)⟩]
  |some b=>if l9 b.toNat=6 then a0C f s (R3 s (A2 s i [5]))
   else if(D5 s (A2 s i [5]) b).2.2≠0 then none
   else(a0C f s (D5 s (A2 s i [5]) b).2.1.toNat).map (({(D5 s (A2 s i [5]) b).1 with at_:=(A2 s i [5]:Nat)}:Tok)::·)
def a3p(s:I):Option (List Tok):=if 16384<s.length then none else a0C (s.length+1) s 0
theorem b9S(h:i1=A2 s i [5])(h2:s.length<=i1):a0C (f+1) s i=some [⟨5,[],0,(i1:Nat)⟩]:=by
 subst h;rw[a0C,c0X h2]
theorem b7i{b:UInt8}(h:i1=A2 s i [5])(h2:s[i1]?=some b)(h3:l9 b.toNat=6):a0C (f+1) s i=a0C f s (R3 s i1):=by
 subst h;rw[a0C,h2];simp only;rw[Q h3]
theorem b7X{b:UInt8}(h:i1=A2 s i [5])(h2:s[i1]?=some b)(h3:¬l9 b.toNat=6)(h4:(D5 s i1 b).2.2≠0):a0C (f+1) s i=none:=by
 subst h;rw[a0C,h2];simp only;rw[W h3,Q h4]
theorem b7N{b:UInt8}(h:i1=A2 s i [5])(h2:s[i1]?=some b)(h3:¬l9 b.toNat=6)(h4:¬(D5 s i1 b).2.2≠0):a0C (f+1) s i=(a0C f s (D5 s i1 b).2.1.toNat).map (({(D5 s i1 b).1 with at_:=(i1:Nat)}:Tok)::·):=by
 subst h;rw[a0C,h2];simp only;rw[W h3,W h4]
theorem c4J:∀{l:I} {n:Nat},a36 l=some n->n<l.length
 | [],n,h=>by cases h
 |b::l,n,h=>by
  rw[a36]at h;split at h
  .split at h
   .injection h with h;subst h;simp
   .cases hq:a36 l with
    |none=>rw[hq]at h;cases h
    |some k=>rw[hq]at h;injection h with h;subst h;have:=c4J hq;simp;omega
  .cases h
theorem b8L{b:UInt8}(h:s[a]?=some b)(hk:inK ks b=true):a<A2 s a ks:=by
 rw[W7 h,Q hk];have:=(a12 (s:=s) (a:=a+1) (ks:=ks) (n_2.1 h).1).1;omega
theorem a5Z{b:UInt8}(h:s[a]?=some b)(h4:¬(D5 s a b).2.2≠0):∃e:Nat,(D5 s a b).2.1=e/\a<e/\e<=s.length:=by
 have af:=(n_2.1 h).1;unfold D5 at h4⊢;split at h4
 .rename_i hk;rw[Q hk];split at h4
  .simp at h4
  .rename_i hn;rw[W hn];exact⟨_,O,b8L h (by simp[inK,hk]),(a12 G).2⟩
 .rename_i hk;rw[W hk];split at h4
  .rename_i cc;rw[Q cc];split at h4
   .simp at h4
   .rename_i hn;rw[W hn];exact⟨_,O,b8L h (by simp[inK,cc]),(a12 G).2⟩
  .rename_i cc;rw[W cc];split at h4
   .rename_i fR;rw[Q fR];cases hq:a36 (s.drop (a+1))with
    |none=>rw[hq]at h4;simp at h4
    |some n=>
     have:=c4J hq;rw[b4b]at this;exact⟨a+1+n+1,O,G,G⟩
   .rename_i fR;rw[W fR];split at h4
    .rename_i hk8;rw[Q hk8]
     split
     .rename_i hp;have:=c36 hp;rw[b4b]at this;have:2<=s.length -a:=this;exact⟨a+2,O,G,G⟩
     .exact ⟨a+1,O,G,G⟩
    .simp at h4
abbrev c6h:=List Tok×Bool×Int×Int
def d4k(s:I)(x:c6h):Prop:=(a3p s=some x.1/\x.2.1=true/\x.2.2.1=0/\x.2.2.2=0)\/(a3p s=none/\x.1=[]/\x.2.1=false/\x.2.2.2≠0)
abbrev c6T(x:c6h):CV:=.tup [.list (x.1.map Tok.cv) x.2.1 none,iv x.2.2.1,iv x.2.2.2]
theorem c2h(s:I)(hs:s.length<=1000000000000):b8 CC 103 [(sv s)] [] λr τ=>∃x:c6h,X8 0 τ r (.ret (c6T x))/\d4k s x:=by
 refine qO Tryz.func103 ?_;refine c9q 0 (λ_ _ _=>False) O ?_ (λ_ _ _ h=>h.elim);refine a7d ?_;refine qC ?_ ?_<;>intro h1
 .have hl:16384<s.length:=sm_ h1;refine c6 ?_;exact⟨_,r8 (rs:=[.tmp 2,.tmp 3,.tmp 4]) (cs:=[_,_,_]) O b3P (n_4 O),⟨([],false,0,2),by exact .ret (.tups ⟨.old (W8 _ [] false),.old (.val _),.old (.val _),J⟩),.inr ⟨by rw[a3p,Q hl],O,O,H⟩⟩⟩
 .have hl:¬16384<s.length:=sm_ h1;refine qD (c4 O c8q trivial (b1Z _) O ?_);intro m hm;refine b7P ?_;refine A5 hCC 1 O (α:=List Tok×Nat) (λx=>[(0,(sv s)),(2,(.list (x.1.map Tok.cv) (gnn x.1.length) (F1 x.1.length 1))),(5,.map 0),(6,iv x.2)]) (λx=>[.map (gm kb kv m),m0 x.1.length]) (λx=>x.2<=s.length/\x.1.length<=x.2/\∃f,s.length -x.2 <f/\a3p s=(a0C f s x.2).map (x.1++·)) (λx=>s.length -x.2) ⟨([],0),[0,7],⟨n_5 _,n_6 _,s.length+1,U,by rw[a3p,W hl];simp⟩,⟨O,O⟩,ut_,(by repeat' (first|exact J|exact .inl O|exact .inr ⟨_,O,.same O B0⟩|exact .inr ⟨_,O,.same (co _ _ _) B0⟩|exact .inr ⟨_,O,.same O (by repeat' (first|exact J|exact .val _|exact .ptr (nb O)|exact .map (nb O)|exact d4e|refine A3 ?_|refine⟨?_,?_⟩))⟩|exact .inr ⟨_,O,.box (by repeat' (first|exact J|exact .same O uo_|exact .ptr O|exact .map O|exact .vec O|exact C3.grow (f:=Tok.cv) (λ_=>⟨.val _,.val _,.val _,.val _,J⟩) O|refine⟨?_,?_⟩))⟩|refine⟨?_,?_⟩))⟩ ?_;intro⟨bq,i⟩ ⟨hi,ha,f,hf,iQ⟩;dsimp only at hi ha hf iQ⊢;obtain⟨f,rfl⟩:∃f',f=f'+1:=⟨f-1,G⟩;obtain⟨i1,ft⟩:∃i1,i1=A2 s i [5]:=⟨_,O⟩;have ah:=a12 (ks:=[5]) hi;rw[<- ft]at ah;refine qk (qY (A9 ([5].map icv) O ⟨O,J⟩ t_4 t_1 t_7 O O O O O O O O O) ?_);refine qY (c5 O d1L a6I ((by have:=a8h (ks:=[5]) (nn:=true) hm hi G H (σ:=[.map (gm kb kv m),m0 bq.length]) (q:=0) O;rw[<- ft]at this;exact this)) O) ?_;refine qY S4 ?_;refine qC ?_ ?_<;>intro h2
  .have dD:i1=s.length:=sm_ h2;rw[b9S ft G]at iQ;refine qY c1v ?_;refine qY (A9 [Tok.cv ⟨5,[],0,(i1:Nat)⟩] O ⟨J,J⟩ b6f a3Z a3b O O O O O O O O O) ?_;refine qD (C8 O J J O U q_3 b6f a3Z c2E a3b O (.inr O) q_7 d4R G6 ((bq++[(⟨5,[],0,(i1:Nat)⟩:Tok)]).map Tok.cv) (bq++[(⟨5,[],0,(i1:Nat)⟩:Tok)]).length U U ?_);refine c6 ?_;exact⟨_,r8 (rs:=[.tmp 2,.tmp 3,.tmp 4]) (cs:=[_,_,_]) O b3P (n_4 O),⟨(bq++[(⟨5,[],0,(i1:Nat)⟩:Tok)],gnn (bq++[(⟨5,[],0,(i1:Nat)⟩:Tok)]).length,0,0),by exact .ret (.tups ⟨.tok (λr hr c hc=>(C6 (f:=Tok.cv) (λ_=>O4.all ⟨.val _,.val _,.val _,.val _,J⟩) _) r hr c hc),.old (.val _),.old (.val _),J⟩),.inl ⟨iQ,by rw[n_8];rfl,O,O⟩⟩⟩
  .have dD:i1<s.length:=by
    have:¬(i1:Int)=s.length:=D h2;omega
   obtain⟨b,hb⟩:=gx_ s i1;refine qY b77 ?_;refine qY e2f ?_;refine qC ?_ ?_<;>intro h3
   .have hk:l9 b.toNat=6:=by rw[<- hm];simpa using h3
    rw[b7i ft hb hk]at iQ;have dL:=b2s hb hk;have da:=a8y (s:=s) (a:=i1) G;have hib:=c20 ((s.take s.length).drop i1);have dT:((s.take s.length).drop i1).length=s.length -i1:=by simp
    have aM:R3 s i1=i1+(((s.take s.length).drop i1).takeWhile (· != 10)).length:=by rw[R3,a57]
    have hig:=Go.Lib.indexByte_ge ((s.take s.length).drop i1) 10;refine qY (K7 (a:=i1) O J O t_5 a24 O G (n_6 _)) ?_;refine qY (c5 O Tryz.call153 o3 (a52 ((s.take s.length).drop i1) 10 _) O) ?_;refine cC ?_ ?_<;>intro h4
    .have hneg:Go.Lib.indexByte ((s.take s.length).drop i1) 10<0:=D h4;have:=hib.1 hneg;have hle2:R3 s i1=s.length:=by omega
     refine a7d ?_;refine qY (a8s O J J O O G G) ?_;refine qY a6A ?_;refine j8 ?_;exact⟨(bq,R3 s i1),[0,1],⟨G,G,by show bq.length<=R3 s i1;omega,f,by show s.length -R3 s i1<f;omega,iQ⟩,⟨O,O⟩,e1V,(by repeat' (first|exact J|exact .inl O|exact .inr ⟨_,O,.same O B0⟩|exact .inr ⟨_,O,.same (co _ _ _) B0⟩|exact .inr ⟨_,O,.same O (by repeat' (first|exact J|exact .val _|exact .ptr (nb O)|exact .map (nb O)|exact d4e|refine A3 ?_|refine⟨?_,?_⟩))⟩|exact .inr ⟨_,O,.box (by repeat' (first|exact J|exact .same O uo_|exact .ptr O|exact .map O|exact .vec O|exact C3.grow (f:=Tok.cv) (λ_=>⟨.val _,.val _,.val _,.val _,J⟩) O|refine⟨?_,?_⟩))⟩|refine⟨?_,?_⟩))⟩
    .have hneg:¬Go.Lib.indexByte ((s.take s.length).drop i1) 10<0:=D h4;have:=hib.2 G;rw[this];refine qk (qY a6A ?_);refine j8 ?_;exact⟨(bq,R3 s i1),[0,1],⟨G,G,by show bq.length<=R3 s i1;omega,f,by show s.length -R3 s i1<f;omega,iQ⟩,⟨O,O⟩,e1V,(by repeat' (first|exact J|exact .inl O|exact .inr ⟨_,O,.same O B0⟩|exact .inr ⟨_,O,.same (co _ _ _) B0⟩|exact .inr ⟨_,O,.same O (by repeat' (first|exact J|exact .val _|exact .ptr (nb O)|exact .map (nb O)|exact d4e|refine A3 ?_|refine⟨?_,?_⟩))⟩|exact .inr ⟨_,O,.box (by repeat' (first|exact J|exact .same O uo_|exact .ptr O|exact .map O|exact .vec O|exact C3.grow (f:=Tok.cv) (λ_=>⟨.val _,.val _,.val _,.val _,J⟩) O|refine⟨?_,?_⟩))⟩|refine⟨?_,?_⟩))⟩
   .have hk:¬l9 b.toNat=6:=by rw[<- hm];simpa using h3
    refine qY (c5 O Tryz.call154 E7 (d2y hb hm G O) O) ?_;refine z_3 ?_;refine qC ?_ ?_<;>intro h5
    .have he:(D5 s i1 b).2.2≠0:=D h5;rw[b7X ft hb hk he]at iQ;refine c6 ?_;exact⟨_,r8 (rs:=[.tmp 2,.tmp 3,.tmp 4]) (cs:=[_,_,_]) O b3P (n_4 O),⟨([],false,i1,(D5 s i1 b).2.2),by exact .ret (.tups ⟨.old (W8 _ [] false),.old (.val _),.old (.val _),J⟩),.inr ⟨iQ,O,O,he⟩⟩⟩
    .have he:¬(D5 s i1 b).2.2≠0:=D h5;rw[b7N ft hb hk he]at iQ;obtain⟨e,ia,he2,he3⟩:=a5Z hb he;rw[ia]at iQ⊢;refine qD (j1 O J J O j2 t_1 (.inl O) O O (nb O) ?_);refine qY (A9 [Tok.cv ({(D5 s i1 b).1 with at_:=(i1:Nat)}:Tok)] rfl ⟨J,J⟩ b6f a3Z a3b rfl rfl rfl rfl rfl rfl rfl rfl rfl) ?_;refine qD (C8 O J J O U q_3 b6f a3Z c2E a3b O (.inr O) q_7 d4R G6 ((bq++[({(D5 s i1 b).1 with at_:=(i1:Nat)}:Tok)]).map Tok.cv) (bq++[({(D5 s i1 b).1 with at_:=(i1:Nat)}:Tok)]).length U U ?_);exact⟨(bq++[({(D5 s i1 b).1 with at_:=(i1:Nat)}:Tok)],e),[0,3],⟨by show s.length -e<s.length -i;omega,he3,by simp;omega,f,by show s.length -e<f;omega,by rw[iQ];simp[Function.comp_def]⟩,⟨O,O⟩,ut_,(by repeat' (first|exact J|exact .inl O|exact .inr ⟨_,O,.same O B0⟩|exact .inr ⟨_,O,.same (co _ _ _) B0⟩|exact .inr ⟨_,O,.same O (by repeat' (first|exact J|exact .val _|exact .ptr (nb O)|exact .map (nb O)|exact d4e|refine A3 ?_|refine⟨?_,?_⟩))⟩|exact .inr ⟨_,O,.box (by repeat' (first|exact J|exact .same O uo_|exact .ptr O|exact .map O|exact .vec O|exact C3.grow (f:=Tok.cv) (λ_=>⟨.val _,.val _,.val _,.val _,J⟩) O|refine⟨?_,?_⟩))⟩|refine⟨?_,?_⟩))⟩
theorem c7s(s:I)(hs:s.length<=1000000000000)(σ:List b9):b8 CC 103 [(sv s)] σ λr τ=>∃x:c6h,r= .ret (c6T x)/\τ=σ/\d4k s x:=
 D8 (res:=λx=>.ret (c6T x)) hCC (λc hc=>by simp at hc;subst hc;exact .val _) (c2h s hs) (λ_ _=>pu_) σ
structure Ex where
 k:Int
 num:Int
 op:Int
 name:I
 args:List Int
deriving DecidableEq
variable{args:List CV}{B:α->List Ex}
abbrev Ex.cells(x:Ex):List CV:=[iv x.k,iv x.num,iv x.op,sv x.name,.list (x.args.map icv) (gnn x.args.length) none]
def Ex.cv(x:Ex):List CV:=x.cells
theorem Ex.pure(x:Ex):O4 x.cells:=⟨.val _,.val _,.val _,.val _,a0X _ _,J⟩
theorem a3n(l:List Ex)(nn:Bool):p9 (.list (l.map Ex.cv) nn none):=F3 (f:=Ex.cv) Ex.pure l nn
theorem N9(n:Nat)(l:List Ex)(nn:Bool):Old n (.list (l.map Ex.cv) nn none):=(a3n l nn).old
structure De where
 k:Int
 name:I
 params:List I
 body:List Ex
deriving DecidableEq
abbrev De.cells(x:De):List CV:=[iv x.k,sv x.name,.list (x.params.map scv) (gnn x.params.length) none,.list (x.body.map Ex.cv) (gnn x.body.length) none]
def De.cv(x:De):List CV:=x.cells
theorem De.pure(x:De):O4 x.cells:=⟨.val _,.val _,F2 _ _,a3n _ _,J⟩
theorem a7M(l:List De)(nn:Bool):p9 (.list (l.map De.cv) nn none):=F3 (f:=De.cv) De.pure l nn
theorem P1(n:Nat)(l:List De)(nn:Bool):Old n (.list (l.map De.cv) nn none):=(a7M l nn).old
structure Src where
 pkg:I
 imports:List I
 decls:List De
deriving DecidableEq
abbrev Src.cells(x:Src):List CV:=[sv x.pkg,.list (x.imports.map scv) (gnn x.imports.length) none,.list (x.decls.map De.cv) (gnn x.decls.length) none]
def Src.cv(x:Src):List CV:=x.cells
theorem Src.pure(x:Src):O4 x.cells:=⟨.val _,F2 _ _,a7M _ _,J⟩
abbrev pbx(T:List Tok)(n:Nat)(ps:List I)(b:List Ex)(s:Nat):b9:=.box [.list (T.map Tok.cv) true none,iv n,.list (ps.map scv) (gnn ps.length) none,.list (b.map Ex.cv) (gnn b.length) (F1 b.length s)]
abbrev pst(T:List Tok)(n:Nat)(ps:List I)(b:List Ex):List b9:=[pbx T n ps b 1,m0 b.length]
abbrev a6P(T:List Tok)(n:Nat)(ps:List I)(b:List Ex):List b9:=[pbx T n ps b 2,.dead,m0 b.length]
theorem b5o{n:Nat}{ps:List I}{b:List Ex}{s:Nat}(h:R s s'):I7 R (pbx T n ps b s) (pbx T n ps b s'):=
 .box (.cons (.pure (a3F _ _)) (.cons (.pure (.val _)) (.cons (.pure (F2 _ _)) (.cons (by
  refine .list O (λi r r' h1 h2=>by rw[h1]at h2;injection h2 with h2;rw[h2]) (λi j r r' c c' h1 h2 h3 h4=>?_) ?_
  .rw [h1]at h2;injection h2 with h2;subst h2;rw[h3]at h4;injection h4 with h4;subst h4
   exact .pure (C6 (f:=Ex.cv) (λa=>(Ex.pure a).all) _ r (n_3 h1) c (n_3 h3))
  .cases hb:b.length with
   |zero=>exact .inl ⟨O,O⟩
   |succ m=>exact .inr ⟨s,s',O,O,h⟩) .nil))))
theorem a15(m:Nat):I7 R (m0 m) (m0 m):=by
 cases m with
 |zero=>exact .dead
 |succ m=>exact .tip _
def PAt(σ:List b9)(q s:Nat)(T:List Tok)(n:Nat)(ps:List I)(b:List Ex):Prop:=σ[q]?=some (pbx T n ps b s)/\σ[s]?=some (m0 b.length)/\q≠s
abbrev a3c(at_ e:Int):CV:=.val (.iface 166 (.agg #[.int .i64 at_,.int .i64 e]))
def a3J{α:Type}(c:α->CV)(S:α->List b9)(P:α->Prop)(bad:Prop)(r:R8)(τ:List b9):Prop:=
 (∃a,F0 2 τ r (.ret (c a)) (S a)/\P a)\/∃x:Int×Int,F0 2 τ r (.pan (a3c x.1 x.2)) [.dead,.dead]/\(bad/\x.2≠0)
def a4F{α:Type}(c:α->CV)(S:α->List b9)(P:α->Prop)(σ:List b9)(q s:Nat)(bad:Prop)(r:R8)(τ:List b9):Prop:=
 (∃a,r= .ret (c a)/\τ=S a/\P a)\/∃x:Int×Int,r= .pan (a3c x.1 x.2)/\τ=(σ.set q .dead).set s .dead/\(bad/\x.2≠0)
theorem j7{x y:Int}:F0 2 τ (.pan (a3c x y)) (.pan (a3c x y)) [.dead,.dead]:=⟨[0,1],O,O,.pan (.old (.val _)),.inl O,.inl O,J⟩
theorem a4O{f:FuncId}{c:α->CV}{Z:α->List I}{g:α->Bool}{n:Nat}{ps:List I}{b:List Ex}(ap:∀a∈args,p9 a)(hc:∀a,p9 (c a))
 (h:b8 CC f (.ptr 0 0::args) (pst T n ps b) (a3J c (λa=>if g a=true then a6P T (N a) (Z a) (B a)else pst T (N a) (Z a) (B a)) P bad)){σ:List b9}{q s:Nat}(ao:PAt σ q s T n ps b):
 b8 CC f (.ptr q 0::args) σ (a4F c (λa=>if g a=true then(σ.set q (pbx T (N a) (Z a) (B a) σ.length)).set s .dead++[m0 (B a).length]else(σ.set q (pbx T (N a) (Z a) (B a) s)).set s (m0 (B a).length)) P σ q s bad):=by
 obtain⟨h1,h2,h3⟩:=ao;have hq:=(n_2.1 h1).1;have hs:=(n_2.1 h2).1;have h':b8 CC f (.ptr 0 0::args) (pst T n ps b) λr τ=>(∃a,r= .ret (c a)/\τ=(if g a=true then a6P T (N a) (Z a) (B a)else pst T (N a) (Z a) (B a))/\P a)\/∃x:Int×Int,r= .pan (a3c x.1 x.2)/\τ=[.dead,.dead]/\(bad/\x.2≠0):=by
  refine K2 hCC (h.mono λr τ hh=>?_)
  rcases hh with⟨a,k1,k2⟩|⟨x,k1,k2⟩
  .exact ⟨_,_,k1,.inl ⟨a,O,O,k2⟩⟩
  .exact ⟨_,_,k1,.inr ⟨x,O,O,k2⟩⟩
 refine I5 [q,s] hCC O (λi j k g1 g2=>?_) (λi k ob g1 g2=>?_) (.cons (.ptr O) (H9 ap)) h' λr τ hk=>?_
 .rcases i with _|_|i<;>rcases j with _|_|j<;>simp at g1 g2<;>first|rfl|(exfalso;exact h3 (g1.trans g2.symm))|(exfalso;exact h3 (g2.trans g1.symm))
 .rcases i with _|_|i
  .simp at g1 g2;subst g1 g2;exact⟨_,h1,b5o O⟩
  .simp at g1 g2;subst g1 g2;exact⟨_,h2,a15 _⟩
  .simp at g1
 .rcases hk with⟨a,rfl,rfl,hp⟩|⟨x,rfl,rfl,hp⟩
  .refine ⟨by split<;>simp,.ret (c a),(if g a=true then(σ.set q (pbx T (N a) (Z a) (B a) σ.length)).set s .dead++[m0 (B a).length]else(σ.set q (pbx T (N a) (Z a) (B a) s)).set s (m0 (B a).length)),.ret (.pure (hc a)),by split<;>simp,λk hk bm=>?_,λi k x ha hx=>?_,.inl ⟨a,O,O,hp⟩⟩
   .have n1:q≠k:=λe=>bm a2d;have n2:s≠k:=λe=>bm a2d
    split
    .rw [T7 (D hk)];simp[n1,n2]
    .simp [n1,n2]
   .split at hx<;>rename_i hg
    .rcases ha with ha|⟨ha,rfl⟩
     .rcases i with _|_|i
      .simp at ha hx;subst ha hx;refine⟨pbx T (N a) (Z a) (B a) σ.length,?_,b5o (.inr ⟨U,U⟩)⟩;rw[Q hg,T7 (D hq),a0S h3.symm];simp[hq]
      .simp at ha hx;subst ha hx;refine⟨.dead,?_,.dead⟩;rw[Q hg,T7 (D hs)];simp[hs]
      .simp at ha
     .rcases i with _|_|_|i
      .simp at ha
      .simp at ha
      .simp at hx;subst hx;refine⟨m0 (B a).length,?_,a15 _⟩;rw[Q hg,a1c U];simp
      .simp at hx
    .rcases ha with ha|⟨ha,rfl⟩
     .rcases i with _|_|i
      .simp at ha hx;subst ha hx;refine⟨pbx T (N a) (Z a) (B a) s,?_,b5o (.inl O)⟩;rw[W hg,a0S h3.symm];simp[hq]
      .simp at ha hx;subst ha hx;refine⟨m0 (B a).length,?_,a15 _⟩;rw[W hg];simp[hs]
      .simp at ha
     .rcases i with _|_|i
      .simp at ha
      .simp at ha
      .simp at hx
  .refine ⟨n_6 _,.pan (a3c x.1 x.2),(σ.set q .dead).set s .dead,.pan (.pure (.val _)),U,λk hk bm=>?_,λi k y ha hx=>?_,.inr ⟨x,O,O,hp⟩⟩
   .have n1:q≠k:=λe=>bm a2d;have n2:s≠k:=λe=>bm a2d;simp[n1,n2]
   .rcases ha with ha|⟨ha,rfl⟩
    .rcases i with _|_|i
     .simp at ha hx;subst ha hx;refine⟨.dead,?_,.dead⟩;rw[a0S h3.symm];simp[hq]
     .simp at ha hx;subst ha hx;refine⟨.dead,?_,.dead⟩;simp[hs]
     .simp at ha
    .rcases i with _|_|i
     .simp at ha
     .simp at ha
     .simp at hx
theorem a4e{n:Nat}{ps:List I}{b:List Ex}{s:Nat}(h:s<L):F7 L (pbx T n ps b s):=A3 ⟨W8 _ _ _,.val _,C4 _ _ _,.list (λi j r c h1 h2=>(C6 (f:=Ex.cv) (λa=>(Ex.pure a).all) _ r (n_3 h1) c (n_3 h2)).old) (λk hk=>by
 cases hb:b.length with
 |zero=>rw[hb]at hk;cases hk
 |succ m=>rw[hb]at hk;injection hk with hk;omega),J⟩
theorem a0Q{n:Nat}{ps:List I}{b:List Ex}(gp:τ=pbx T n ps b 1::m0 b.length::rest)(hc:Old 2 c):F0 2 τ (.ret c) (.ret c) (pst T n ps b):=by
 subst gp;exact⟨[0,1],O,O,.ret (.old hc),.inr ⟨_,O,.same O (a4e H)⟩,.inr ⟨_,O,.same O B0⟩,J⟩
theorem a72{L:Nat}{ak:List Nat}:∀{l:List CV},b6z L l->c1m L ak l l
 | [],_=>trivial
 |_::_,⟨h,t⟩=>⟨.old h,a72 t⟩
theorem Z4{n k:Nat}{ps:List I}{b:List Ex}(h0:τ[0]?=some (pbx T n ps b k))(hk:τ[k]?=some (m0 b.length))(h2:2<=k)(hc:Old 2 c):F0 2 τ (.ret c) (.ret c) (a6P T n ps b):=by
 have k1:a6D 2 [0,1,k]=true:=O;have k2:a0o [0,1,k]=true:=by
  have e0:(k == 0)=false:=by simp;omega
  have e1:(k == 1)=false:=by simp;omega
  have e2:(0 == k)=false:=by simp;omega
  have e3:(1 == k)=false:=by simp;omega
  simp[a0o];omega
 refine⟨[0,1,k],k1,k2,.ret (.old hc),.inr ⟨_,h0,.box ?_⟩,.inl O,.inr ⟨_,hk,.same O B0⟩,J⟩;refine⟨.old a1b,.old (.val _),.old N4,.list (λr hr c hc=>(C6 (f:=Ex.cv) (λa=>(Ex.pure a).all) _ r hr c hc).old) ?_,J⟩;intro j hj;cases hb:b.length with
 |zero=>rw[hb]at hj;cases hj
 |succ m=>rw[hb]at hj;injection hj with hj;subst hj;exact⟨k,O,O⟩
theorem a1Z{l:List α}{x:α}(h:l[i]?=some x):l.set i x=l:=by
 apply b02 λj=>?_;have hi:=(n_2.1 h).1;by_cases hj:i=j
 .subst hj;rw[b0e hi,h]
 .rw [a0S hj]
theorem c2s{f:FuncId}{n:Nat}{ps:List I}{b:List Ex}(ap:∀a∈args,p9 a)(hc:p9 c)
 (h:b8 CC f (.ptr 0 0::args) (pst T n ps b) λr τ=>F0 2 τ r (.ret c) (pst T n ps b)){σ:List b9}{q s:Nat}(ao:PAt σ q s T n ps b):b8 CC f (.ptr q 0::args) σ λr τ=>r= .ret c/\τ=σ:=by
 refine(a4O (α:=Unit) (c:=λ_=>c) (N:=λ_=>n) (B:=λ_=>b) (Z:=λ_=>ps) (g:=λ_=>false) (P:=λ_=>True) (bad:=False) ap (λ_=>hc) (h.mono λr τ hh=>.inl ⟨(),hh,J⟩) ao).mono λr τ hh=>?_
 rcases hh with⟨_,h1,h2,_⟩|⟨_,_,_,h3,_⟩
 .refine ⟨h1,h2.trans ?_⟩;show(σ.set q _).set s _=σ;rw[a1Z ao.1,a1Z ao.2.1]
 .exact h3.elim
theorem a0M{f:FuncId}{c:α->CV}{n:Nat}{ps:List I}{b:List Ex}(ap:∀a∈args,p9 a)(hc:∀a,p9 (c a))
 (h:b8 CC f (.ptr 0 0::args) (pst T n ps b) (a3J c (λa=>pst T (N a) ps b) P bad)){σ:List b9}{q s:Nat}(ao:PAt σ q s T n ps b):
 b8 CC f (.ptr q 0::args) σ (a4F c (λa=>σ.set q (pbx T (N a) ps b s)) P σ q s bad):=by
 refine(a4O (c:=c) (N:=N) (B:=λ_=>b) (Z:=λ_=>ps) (g:=λ_=>false) (P:=P) (bad:=bad) ap hc (h.mono λr τ hh=>?_) ao).mono λr τ hh=>?_
 .rcases hh with⟨a,h1,h2⟩|h
  .exact .inl ⟨a,h1,h2⟩
  .exact .inr h
 .rcases hh with⟨a,h1,h2,h3⟩|h
  .refine .inl ⟨a,h1,h2.trans ?_,h3⟩;refine a1Z ?_;rw[a0S ao.2.2];exact ao.2.1
  .exact .inr h
theorem a3k{f:FuncId}{c:α->CV}{n:Nat}{ps:List I}{b:List Ex}(ap:∀a∈args,p9 a)(hc:∀a,p9 (c a))
 (h:b8 CC f (.ptr 0 0::args) (pst T n ps b) (a3J c (λa=>a6P T (N a) ps (B a)) P bad)){σ:List b9}{q s:Nat}(ao:PAt σ q s T n ps b):
 b8 CC f (.ptr q 0::args) σ (a4F c (λa=>(σ.set q (pbx T (N a) ps (B a) σ.length)).set s .dead++[m0 (B a).length]) P σ q s bad):=by
 refine(a4O (c:=c) (N:=N) (B:=B) (Z:=λ_=>ps) (g:=λ_=>true) (P:=P) (bad:=bad) ap hc (h.mono λr τ hh=>?_) ao).mono λr τ hh=>?_
 .rcases hh with⟨a,h1,h2⟩|h
  .exact .inl ⟨a,h1,h2⟩
  .exact .inr h
 .rcases hh with⟨a,h1,h2,h3⟩|h
  .exact .inl ⟨a,h1,h2,h3⟩
  .exact .inr h
theorem a0x(x:Tok):p9 (.agg x.cells):=o0 ⟨.val _,.val _,.val _,.val _,J⟩
theorem a5Y(n:Nat)(x:Tok):Old n (.agg x.cells):=(a0x x).old
def tk(T:List Tok)(n:Nat):Tok:=(T[n]?).getD ⟨5,[],0,0⟩
theorem d9J{n:Nat}(h:n<T.length):T[n]?=some (tk T n):=by simp[tk,h]
def a0Z(T:List Tok):Prop:=∀n,n<T.length->(tk T n).k≠5->n+1<T.length
def isT(t:Tok)(k:Int)(s:I):Bool:=(t.k == k)&&decide (t.t=s)
theorem a67{n:Nat}{k:Int}(h:isT (tk T n) k s=true)(hk:k≠5):(tk T n).k≠5:=by
 simp[isT]at h;omega
def F9(T:List Tok)(n:Nat)(k:Int):Option (Tok×Nat):=if(tk T n).k=k then some (tk T n,if k=5 then n else n+1)else none
def pIs(T:List Tok)(n:Nat)(k:Int)(s:I):Option Nat:=if isT (tk T n) k s=true then some (n+1)else none
theorem d3u(t:Tok)(e:Int):b8 CC 159 [.agg t.cells,iv e] [] λr τ=>∃_:Unit,X8 0 τ r (.pan (a3c t.at_ e))/\True:=by
 refine qO Tryz.func159 ?_;refine qD (H3 O J j2 j4 ?_);refine qY (A1 #[(0,1),(1,1)] O i7 c6o Tryz.zeroValue166 O ⟨_,O⟩ (λw=>by kernel_rfl) O O) ?_;refine qY (c6A (xs:=[.int .i64 t.at_,.int .i64 e]) O J O (c1E c6o O)) ?_;exact a27 O O (d5l O J O (λM w v h=>⟨_,_,p8 h⟩) ⟨(),.pan (.old (.val _)),J⟩)
theorem P2(t:Tok)(e:Int)(σ:List b9):b8 CC 159 [.agg t.cells,iv e] σ λr τ=>∃_:Unit,r= .pan (a3c t.at_ e)/\τ=σ/\True:=
 D8 (res:=λ_=>.pan (a3c t.at_ e)) hCC (λc hc=>by
  simp at hc
  rcases hc with rfl|rfl
  .exact a0x _
  .exact .val _) (d3u t e) (λ_ _=>.val _) σ
theorem c6B(T:List Tok)(n:Nat)(ps:List I)(b:List Ex)(_:T.length<=1000000)(hn:n<T.length):b8 CC 160 [.ptr 0 0] (pst T n ps b) (λr τ=>F0 2 τ r (.ret (.agg (tk T n).cells)) (pst T n ps b)):=by
 refine qO Tryz.func160 ?_;refine qD (o6 O a3b O j4 ?_);refine b4I ?_;refine hY (j3 O J O c6P O Tryz.sizeOf162 H) ?_;refine hY (j9 O J O Tryz.isAgg162 O O) ?_;refine a2W ?_;refine hY c4p ?_;refine hY a1l ?_;refine d8M ?_;refine a0T ?_;refine z_4 ?_;exact⟨_,B1 O b3F,a0Q O (a5Y _ _)⟩
theorem a3t{n:Nat}{ps:List I}{b:List Ex}(hT:T.length<=1000000)(hn:n<T.length){s:Nat}(ao:PAt σ q s T n ps b):b8 CC 160 [.ptr q 0] σ λr τ=>r= .ret (.agg (tk T n).cells)/\τ=σ:=c2s (λ_ h=>by cases h) (a0x _) (c6B T n ps b hT hn) ao
theorem e0G(T:List Tok)(n:Nat)(ps:List I)(b:List Ex)(hT:T.length<=1000000)(hn:n<T.length)(k:Int)(u:I):b8 CC 158 [.ptr 0 0,iv k,(sv u)] (pst T n ps b) (λr τ=>F0 2 τ r (.ret (.val (.bool (isT (tk T n) (k) (u))))) (pst T n ps b)):=by
 refine qO Tryz.func158 ?_;refine qY b7U ?_;refine z_3 ?_;refine qG b70 ?_;refine qG a0J ?_;refine c2O ?_;refine a9W ?_;exact⟨_,rE1,(by exact a0Q O (.val _))⟩
theorem b4e{n:Nat}{ps:List I}{b:List Ex}(hT:T.length<=1000000)(hn:n<T.length)(k:Int)(u:I){s:Nat}(ao:PAt σ q s T n ps b):b8 CC 158 [.ptr q 0,iv k,(sv u)] σ λr τ=>r= .ret (.val (.bool (isT (tk T n) (k) (u))))/\τ=σ:=c2s (λ_ h=>by simp at h;rcases h with rfl|rfl<;>exact .val _) (.val _) (e0G T n ps b hT hn k u) ao
theorem c9a(T:List Tok)(n:Nat)(ps:List I)(b:List Ex)(hT:T.length<=1000000)(hn:n<T.length)(hW:a0Z T)(u:I):b8 CC 157 [.ptr 0 0,(sv u)] (pst T n ps b) (a3J (λ_:Nat=>.tup []) (λa=>pst T a ps b) (λa=>pIs T n 4 u=some a/\a<T.length) (pIs T n 4 u=none)):=by
 refine qO Tryz.func157 ?_;refine qY (c5 O c59 ⟨J,O,J,J⟩ (b4e hT hn 4 u ⟨O,O,H⟩) O) ?_;refine qC ?_ ?_<;>intro h1
 .have hb:isT (tk T n) 4 u=false:=D h1;refine qY b7U ?_;exact a27 O O (P6 O a5y o3 (P2 _ _ _) O (λ_ _=>.inr ⟨(_,_),j7,by rw[pIs,W (by rw[hb];decide)],U⟩))
 .have hb:isT (tk T n) 4 u=true:=D h1;refine z_7 ?_;exact⟨_,rE0,e17⟩
theorem Q9{n:Nat}{ps:List I}{b:List Ex}(hT:T.length<=1000000)(hn:n<T.length)(hW:a0Z T)(u:I){s:Nat}(ao:PAt σ q s T n ps b):b8 CC 157 [.ptr q 0,(sv u)] σ (a4F (λ_:Nat=>.tup []) (λa=>σ.set q (pbx T a ps b s)) (λa=>pIs T n 4 u=some a/\a<T.length) σ q s (pIs T n 4 u=none)):=
 a0M (c:=λ_:Nat=>.tup []) (N:=λa=>a) (λ_ h=>by simp at h;subst h;exact .val _) (λ_=>C5 trivial) (c9a T n ps b hT hn hW u) ao
theorem c8h(T:List Tok)(n:Nat)(ps:List I)(b:List Ex)(hT:T.length<=1000000)(hn:n<T.length)(hW:a0Z T)(u:I):b8 CC 155 [.ptr 0 0,(sv u)] (pst T n ps b) (a3J (λ_:Nat=>.tup []) (λa=>pst T a ps b) (λa=>pIs T n 1 u=some a/\a<T.length) (pIs T n 1 u=none)):=by
 refine qO Tryz.func155 ?_;refine qY (c5 O c59 ⟨J,O,J,J⟩ (b4e hT hn 1 u ⟨O,O,H⟩) O) ?_;refine qC ?_ ?_<;>intro h1
 .have hb:isT (tk T n) 1 u=false:=D h1;refine qY b7U ?_;exact a27 O O (P6 O a5y o3 (P2 _ _ _) O (λ_ _=>.inr ⟨(_,_),j7,by rw[pIs,W (by rw[hb];decide)],U⟩))
 .have hb:isT (tk T n) 1 u=true:=D h1;refine z_7 ?_;exact⟨_,rE0,e17⟩
theorem b5W{n:Nat}{ps:List I}{b:List Ex}(hT:T.length<=1000000)(hn:n<T.length)(hW:a0Z T)(u:I){s:Nat}(ao:PAt σ q s T n ps b):b8 CC 155 [.ptr q 0,(sv u)] σ (a4F (λ_:Nat=>.tup []) (λa=>σ.set q (pbx T a ps b s)) (λa=>pIs T n 1 u=some a/\a<T.length) σ q s (pIs T n 1 u=none)):=
 a0M (c:=λ_:Nat=>.tup []) (N:=λa=>a) (λ_ h=>by simp at h;subst h;exact .val _) (λ_=>C5 trivial) (c8h T n ps b hT hn hW u) ao
theorem c1R(T:List Tok)(n:Nat)(ps:List I)(b:List Ex)(hT:T.length<=1000000)(hn:n<T.length)(hW:a0Z T)(u:I):b8 CC 252 [.ptr 0 0,(sv u)] (pst T n ps b) (a3J (λa:Bool×Nat=>(.val (.bool a.1))) (λa=>pst T a.2 ps b) (λa=>a.1=isT (tk T n) 4 u/\a.2=(if isT (tk T n) 4 u=true then n+1 else n)/\a.2 <T.length) False):=by
 refine qO Tryz.func252 ?_;refine qY (c5 O c59 ⟨J,O,J,J⟩ (b4e hT hn 4 u ⟨O,O,H⟩) O) ?_;refine qC ?_ ?_<;>intro h1
 .have hb:isT (tk T n) 4 u=false:=D h1;refine c6 ?_;exact⟨_,rE1,(by exact .inl ⟨(false,n),a0Q O (.val _),hb.symm,by rw[W (by rw[hb];decide)],hn⟩)⟩
 .have hb:isT (tk T n) 4 u=true:=D h1;refine z_7 ?_;refine c6 ?_;exact⟨_,rE1,(by exact .inl ⟨(true,n+1),a0Q O (.val _),hb.symm,by rw[Q hb],hW n hn (a67 hb H)⟩)⟩
theorem a1N{n:Nat}{ps:List I}{b:List Ex}(hT:T.length<=1000000)(hn:n<T.length)(hW:a0Z T)(u:I){s:Nat}(ao:PAt σ q s T n ps b):b8 CC 252 [.ptr q 0,(sv u)] σ λr τ=>∃a:Bool×Nat,r= .ret (.val (.bool a.1))/\τ=σ.set q (pbx T a.2 ps b s)/\a.1=isT (tk T n) 4 u/\a.2=(if isT (tk T n) 4 u=true then n+1 else n)/\a.2 <T.length :=
 (a0M (c:=λa:Bool×Nat=>(.val (.bool a.1))) (N:=λa:Bool×Nat=>a.2) (λ_ h=>by simp at h;subst h;exact .val _) (λ_=>.val _) (c1R T n ps b hT hn hW u) ao).mono λr τ h=>by
  rcases h with h|⟨_,_,_,h,_⟩
  .exact h
  .exact h.elim
theorem d2j(T:List Tok)(n:Nat)(ps:List I)(b:List Ex)(hT:T.length<=1000000)(hn:n<T.length)(hW:a0Z T)(k:Int):b8 CC 195 [.ptr 0 0,iv k] (pst T n ps b) (a3J (λa:Tok×Nat=>.agg a.1.cells) (λa=>pst T a.2 ps b) (λa=>F9 T n k=some a/\a.2 <T.length) (F9 T n k=none)):=by
 refine qO Tryz.func195 ?_;refine qD (o6 O a3b O j4 ?_);refine qY b7U ?_;refine z_3 ?_;refine qC ?_ ?_<;>intro h1
 .have hk:¬(tk T n).k=k:=D h1;exact a27 O O (P6 O a5y o3 (P2 _ _ _) O (λ_ _=>.inr ⟨(_,_),j7,by rw[F9,W hk],U⟩))
 .have hk:(tk T n).k=k:=D h1;refine qC ?_ ?_<;>intro h2
  .have h5:¬k=5:=D h2;refine z_7 ?_;refine z_4 ?_;exact⟨_,B1 O b3F,(by exact .inl ⟨(tk T n,n+1),a0Q O (a5Y _ _),by rw[F9,Q hk,W h5],hW n hn (by rw[hk];exact h5)⟩)⟩
  .have h5:k=5:=D h2;refine z_4 ?_;exact⟨_,B1 O b3F,(by exact .inl ⟨(tk T n,n),a0Q O (a5Y _ _),by rw[F9,Q hk,Q h5],hn⟩)⟩
theorem a7G{n:Nat}{ps:List I}{b:List Ex}(hT:T.length<=1000000)(hn:n<T.length)(hW:a0Z T)(k:Int){s:Nat}(ao:PAt σ q s T n ps b):b8 CC 195 [.ptr q 0,iv k] σ (a4F (λa:Tok×Nat=>.agg a.1.cells) (λa=>σ.set q (pbx T a.2 ps b s)) (λa=>F9 T n k=some a/\a.2 <T.length) σ q s (F9 T n k=none)):=
 a0M (c:=λa:Tok×Nat=>.agg a.1.cells) (N:=λa=>a.2) (λ_ h=>by simp at h;subst h;exact .val _) (λ_=>a0x _) (d2j T n ps b hT hn hW k) ao
def S6(u:I):Bool:=decide (u∈([[112,97,99,107,97,103,101],[105,109,112,111,114,116],[102,117,110,99],[116,101,115,116],[103,101,110],[105,102],[116,104,101,110],[101,108,115,101],[114,101,97,100],[115,105,122,101],[104,97,115],[101,110,118],[102,108,105,112]]:List I))
theorem a2N(u:I)(σ:List b9):b8 CC 196 [(sv u)] σ λr aa=>r= .ret (.val (.bool (S6 u)))/\aa=σ:=by
 refine b8.anyw hCC pu_ pu_ (c7 (qO Tryz.func196 ?_)) σ;refine qY Q0 ?_;refine qC ?_ ?_<;>intro h1
 .have e:u=[112,97,99,107,97,103,101]:=D h1;refine qC ?_ ?_<;>intro h2
  .refine c6 ?_;exact⟨_,rE1,_,_,O,O,j6 (show true=S6 u by rw[e];decide)⟩
  .exfalso;rw[h1]at h2;cases h2
 .have e1:¬u=[112,97,99,107,97,103,101]:=D h1;refine qY Q0 ?_;refine qC ?_ ?_<;>intro h3
  .have e:u=[105,109,112,111,114,116]:=D h3;refine qC ?_ ?_<;>intro h4
   .refine c6 ?_;exact⟨_,rE1,_,_,O,O,j6 (show true=S6 u by rw[e];decide)⟩
   .exfalso;rw[h3]at h4;cases h4
  .have e2:¬u=[105,109,112,111,114,116]:=D h3;refine qY Q0 ?_;refine qC ?_ ?_<;>intro h5
   .have e:u=[102,117,110,99]:=D h5;refine qC ?_ ?_<;>intro h6
    .refine c6 ?_;exact⟨_,rE1,_,_,O,O,j6 (show true=S6 u by rw[e];decide)⟩
    .exfalso;rw[h5]at h6;cases h6
   .have e3:¬u=[102,117,110,99]:=D h5;refine qY Q0 ?_;refine qC ?_ ?_<;>intro h7
    .have e:u=[116,101,115,116]:=D h7;refine qC ?_ ?_<;>intro h8
     .refine c6 ?_;exact⟨_,rE1,_,_,O,O,j6 (show true=S6 u by rw[e];decide)⟩
     .exfalso;rw[h7]at h8;cases h8
    .have e4:¬u=[116,101,115,116]:=D h7;refine qY Q0 ?_;refine qC ?_ ?_<;>intro h9
     .have e:u=[103,101,110]:=D h9;refine qC ?_ ?_<;>intro bp
      .refine c6 ?_;exact⟨_,rE1,_,_,O,O,j6 (show true=S6 u by rw[e];decide)⟩
      .exfalso;rw[h9]at bp;cases bp
     .have e5:¬u=[103,101,110]:=D h9;refine qY Q0 ?_;refine qC ?_ ?_<;>intro eF
      .have e:u=[105,102]:=D eF;refine qC ?_ ?_<;>intro eG
       .refine c6 ?_;exact⟨_,rE1,_,_,O,O,j6 (show true=S6 u by rw[e];decide)⟩
       .exfalso;rw[eF]at eG;cases eG
      .have e6:¬u=[105,102]:=D eF;refine qY Q0 ?_;refine qC ?_ ?_<;>intro eH
       .have e:u=[116,104,101,110]:=D eH;refine qC ?_ ?_<;>intro h14
        .refine c6 ?_;exact⟨_,rE1,_,_,O,O,j6 (show true=S6 u by rw[e];decide)⟩
        .exfalso;rw[eH]at h14;cases h14
       .have e7:¬u=[116,104,101,110]:=D eH;refine qY Q0 ?_;refine qC ?_ ?_<;>intro h15
        .have e:u=[101,108,115,101]:=D h15;refine qC ?_ ?_<;>intro h16
         .refine c6 ?_;exact⟨_,rE1,_,_,O,O,j6 (show true=S6 u by rw[e];decide)⟩
         .exfalso;rw[h15]at h16;cases h16
        .have e8:¬u=[101,108,115,101]:=D h15;refine qY Q0 ?_;refine qC ?_ ?_<;>intro h17
         .have e:u=[114,101,97,100]:=D h17;refine qC ?_ ?_<;>intro h18
          .refine c6 ?_;exact⟨_,rE1,_,_,O,O,j6 (show true=S6 u by rw[e];decide)⟩
          .exfalso;rw[h17]at h18;cases h18
         .have e9:¬u=[114,101,97,100]:=D h17;refine qY Q0 ?_;refine qC ?_ ?_<;>intro h19
          .have e:u=[115,105,122,101]:=D h19;refine qC ?_ ?_<;>intro h20
           .refine c6 ?_;exact⟨_,rE1,_,_,O,O,j6 (show true=S6 u by rw[e];decide)⟩
           .exfalso;rw[h19]at h20;cases h20
          .have e10:¬u=[115,105,122,101]:=D h19;refine qY Q0 ?_;refine qC ?_ ?_<;>intro h21
           .have e:u=[104,97,115]:=D h21;refine qC ?_ ?_<;>intro h22
            .refine c6 ?_;exact⟨_,rE1,_,_,O,O,j6 (show true=S6 u by rw[e];decide)⟩
            .exfalso;rw[h21]at h22;cases h22
           .have e11:¬u=[104,97,115]:=D h21;refine qY Q0 ?_;refine qC ?_ ?_<;>intro h23
            .have e:u=[101,110,118]:=D h23;refine qC ?_ ?_<;>intro h24
             .refine c6 ?_;exact⟨_,rE1,_,_,O,O,j6 (show true=S6 u by rw[e];decide)⟩
             .exfalso;rw[h23]at h24;cases h24
            .have e12:¬u=[101,110,118]:=D h23;refine qY Q0 ?_;refine qC ?_ ?_<;>intro h25
             .have e:u=[102,108,105,112]:=D h25;refine c6 ?_;exact⟨_,rE1,_,_,O,O,j6 (show true=S6 u by rw[e];decide)⟩
             .have e13:¬u=[102,108,105,112]:=D h25;refine c6 ?_;exact⟨_,rE1,_,_,O,O,j6 (show false=S6 u by simp[S6,e1,e2,e3,e4,e5,e6,e7,e8,e9,e10,e11,e12,e13])⟩
def ixS:List I->I->Nat->Int
 | [],_,_=>-1
 |y::l,x,i=>if y=x then i else ixS l x (i+1)
theorem b0W{l:List I}{y:I}(h:l[i]?=some y)(x:I):ixS (l.drop i) x i=if y=x then(i:Int)else ixS (l.drop (i+1)) x (i+1):=by
 obtain⟨af,rfl⟩:=n_2.1 h;rw[Y0 af];rfl
theorem a9e(x:I):∀(l:List I) (i:Nat),(x∉l/\ixS l x i= -1)\/(x∈l/\(i:Int)<=ixS l x i/\ixS l x i<i+l.length)
 | [],_=>.inl ⟨U,O⟩
 |y::l,i=>by
  rw[ixS];by_cases h:y=x
  .rw [Q h];exact .inr ⟨by simp[h],G,by simp;omega⟩
  .rw [W h]
   rcases a9e x l (i+1)with⟨h1,h2⟩|⟨h1,h2,h3⟩
   .exact .inl ⟨by simp[h1,Ne.symm h],h2⟩
   .exact .inr ⟨by simp[h1],G,by simp;omega⟩
theorem d4Z{l:List I}{x:I}:0<=ixS l x 0↔x∈l:=by
 rcases a9e x l 0 with⟨h1,h2⟩|⟨h1,h2,_⟩
 .rw [h2];simp[h1]
 .simp [h1];omega
theorem a9B(l:List I)(nn:Bool)(x:I)(hl:l.length<=1000000000)(σ:List b9):b8 CC 197 [(.list (l.map scv) nn none),(sv x)] σ λr aa=>r= .ret (iv (ixS l x 0))/\aa=σ:=by
 refine b8.anyw hCC pu_ pu_ (c7 (qO Tryz.func197 ?_)) σ;refine qY P5 ?_;refine o4 hCC (α:=Nat) (λi=>[(0,(.list (l.map scv) nn none)),(1,(sv x)),(7,iv l.length),(8,iv i)]) (λ_=>[]) (λi=>i<=l.length/\ixS l x 0=ixS (l.drop i) x i) (λi=>l.length -i) 0 ⟨n_5 _,O⟩ tu_ (am:=[]) O B5 uz_ ?_;intro i ⟨hi,hr⟩;refine qk (qC ?_ ?_)<;> intro h1
 .have af:(i:Int)<l.length:=D h1;obtain⟨y,hb⟩:=gx_ l i;rw[b0W hb]at hr;refine qY a4u ?_;refine qY a8e ?_;refine qC ?_ ?_<;>intro h2
  .have hx:y=x:=(show x=y by simpa using h2).symm;rw[Q hx]at hr;exact d7H
  .have hx:¬y=x:=λe=>by subst e;simp at h2
   rw[W hx]at hr;exact b5O
 .have aH:i=l.length:=by
   have:¬(i:Int)<l.length:=D h1;omega
  refine a0i ?_;exact⟨_,rE1,_,_,O,O,B4 (by rw[hr,aH,b8V];rfl)⟩
theorem a7l(l:List I)(nn:Bool)(x:I)(hl:l.length<=1000000000):b8 CC 161 [(.list (l.map scv) nn none),(sv x)] [] λr aa=>r= .ret (.val (.bool (decide (x∈l))))/\aa=[]:=by
 refine c7 (qO Tryz.func161 ?_);refine qY (c5 O Tryz.call197 i7 (a9B l nn x hl _) O) ?_;refine c6 ?_;exact⟨_,rE1,_,_,O,O,j6 (b2P.2 d4Z)⟩
theorem a0m(l:List I)(nn:Bool)(x:I)(hl:l.length<=1000000000)(σ:List b9):b8 CC 161 [(.list (l.map scv) nn none),(sv x)] σ λr aa=>r= .ret (.val (.bool (decide (x∈l))))/\aa=σ:=
 b8.anyw hCC pu_ pu_ (a7l l nn x hl) σ
theorem a5q{n n1:Nat}{k:Int}(h:F9 T n k=some (t,n1)):t=tk T n:=by
 unfold F9 at h;split at h
 .injection h with h;injection h with h _;exact h.symm
 .cases h
def d1N(T:List Tok):Prop:=∀n,(tk T n).t.length<=1000000
def K3(T:List Tok)(n:Nat):Option (Tok×Nat):=(F9 T n 1).bind λx=>if S6 x.1.t=true then none else some x
def a0E(T:List Tok)(n:Nat):Option (Tok×Nat):=(F9 T n 3).bind λx=>if F8 x.1.t=true then some x else none
theorem c8C(T:List Tok)(n:Nat)(ps:List I)(b:List Ex)(hT:T.length<=1000000)(hn:n<T.length)(hW:a0Z T):b8 CC 156 [.ptr 0 0] (pst T n ps b) (a3J (λa:Tok×Nat=>.agg a.1.cells) (λa=>pst T a.2 ps b) (λa=>K3 T n=some a/\a.2 <T.length) (K3 T n=none)):=by
 refine qO Tryz.func156 ?_;refine qD (o6 O a3b O j4 ?_);refine qD (o8 O d3r o3 (a7G hT hn hW 1 ⟨O,O,H⟩) O (λx hx=>.inr ⟨x,j7,by rw[K3,hx.1];rfl,hx.2⟩) ?_);rintro⟨t,n1⟩ ⟨ht,bd⟩;have hte:=a5q ht;subst hte;dsimp only at ht bd⊢;refine z_3 ?_;refine qY (c5 O d3G ⟨J,J⟩ (a2N (tk T n).t _) O) ?_;refine qC ?_ ?_<;>intro h1
 .have hr:S6 (tk T n).t=true:=D h1;exact a27 O O (P6 O a5y o3 (P2 _ _ _) O (λ_ _=>.inr ⟨(_,_),j7,by rw[K3,ht,n_9,Q hr],U⟩))
 .have hr:S6 (tk T n).t=false:=D h1;refine z_4 ?_;exact⟨_,B1 O b3F,(by exact .inl ⟨(tk T n,n1),a0Q O (a5Y _ _),by rw[K3,ht,n_9,W (by rw[hr];decide)],bd⟩)⟩
theorem b0A{n:Nat}{ps:List I}{b:List Ex}(hT:T.length<=1000000)(hn:n<T.length)(hW:a0Z T){s:Nat}(ao:PAt σ q s T n ps b):b8 CC 156 [.ptr q 0] σ (a4F (λa:Tok×Nat=>.agg a.1.cells) (λa=>σ.set q (pbx T a.2 ps b s)) (λa=>K3 T n=some a/\a.2 <T.length) σ q s (K3 T n=none)):=
 a0M (c:=λa:Tok×Nat=>.agg a.1.cells) (N:=λa=>a.2) (λ_ h=>by cases h) (λ_=>a0x _) (c8C T n ps b hT hn hW) ao
theorem d1n(T:List Tok)(n:Nat)(ps:List I)(b:List Ex)(hT:T.length<=1000000)(hn:n<T.length)(hW:a0Z T)(hL:d1N T):b8 CC 198 [.ptr 0 0] (pst T n ps b) (a3J (λa:Tok×Nat=>.agg a.1.cells) (λa=>pst T a.2 ps b) (λa=>a0E T n=some a/\a.2 <T.length) (a0E T n=none)):=by
 refine qO Tryz.func198 ?_;refine qD (o6 O a3b O j4 ?_);refine qD (o8 O d3r o3 (a7G hT hn hW 3 ⟨O,O,H⟩) O (λx hx=>.inr ⟨x,j7,by rw[a0E,hx.1];rfl,hx.2⟩) ?_);rintro⟨t,n1⟩ ⟨ht,bd⟩;have hte:=a5q ht;subst hte;dsimp only at ht bd⊢;refine z_3 ?_;refine qY (c5 O c6J ⟨J,J⟩ (a1R (tk T n).t (by have:=hL n;omega) _) O) ?_;refine qC ?_ ?_<;>intro h1
 .have hr:F8 (tk T n).t=false:=D h1;exact a27 O O (P6 O a5y o3 (P2 _ _ _) O (λ_ _=>.inr ⟨(_,_),j7,by rw[a0E,ht,n_9,W (by rw[hr];decide)],U⟩))
 .have hr:F8 (tk T n).t=true:=D h1;refine z_4 ?_;exact⟨_,B1 O b3F,(by exact .inl ⟨(tk T n,n1),a0Q O (a5Y _ _),by rw[a0E,ht,n_9,Q hr],bd⟩)⟩
theorem b0u{n:Nat}{ps:List I}{b:List Ex}(hT:T.length<=1000000)(hn:n<T.length)(hW:a0Z T)(hL:d1N T){s:Nat}(ao:PAt σ q s T n ps b):b8 CC 198 [.ptr q 0] σ (a4F (λa:Tok×Nat=>.agg a.1.cells) (λa=>σ.set q (pbx T a.2 ps b s)) (λa=>a0E T n=some a/\a.2 <T.length) σ q s (a0E T n=none)):=
 a0M (c:=λa:Tok×Nat=>.agg a.1.cells) (N:=λa=>a.2) (λ_ h=>by cases h) (λ_=>a0x _) (d1n T n ps b hT hn hW hL) ao
def X2(b:List Ex)(x:Ex):Option (Nat×List Ex):=if b.length=256 then none else some (b.length,b++[x])
theorem d0Q(T:List Tok)(n:Nat)(ps:List I)(b:List Ex)(_:T.length<=1000000)(_:n<T.length)(hb:b.length<=256)(t:Tok)(x:Ex):b8 CC 254 [.ptr 0 0,.agg t.cells,.agg x.cells] (pst T n ps b) (a3J (λa:Nat×List Ex=>(iv a.1)) (λa=>a6P T n ps a.2) (λa=>X2 b x=some a/\a.2.length<=256) (X2 b x=none)):=by
 refine qO Tryz.func254 ?_;refine c6R ?_;refine qY a4k ?_;refine qC ?_ ?_<;>intro h1
 .have h256:b.length=256:=sm_ h1;exact a27 O O (P6 O a5y o3 (P2 _ _ _) O (λ_ _=>.inr ⟨(_,_),j7,by rw[X2,Q h256],U⟩))
 .have h256:¬b.length=256:=sm_ h1;have dL:(b++[x]).length=b.length+1:=by simp
  refine d0o ?_;refine a7n ?_;refine chf O (c8 O (j3 O J O c6P O b1B H)) ?_;refine chf O (c8 O c4s) ?_;refine chf O (c8 O c3D) ?_;refine chf O e1K ?_;refine H4 ?_;refine B6 O O O (C8 O J J O U q_3 b6o a9d Tryz.typeInfo146 b2Y O (.inr O) q_7 (by have hb:Tryz.t146.bytes=64:=O;rw[hb];first|omega|(simp;done)|(simp;omega)) G6 ((b++[x]).map Ex.cv) (b++[x]).length U U ?_);refine c4x ?_;refine E8 O O (c8 O (j3 O J O c6P O b1B H)) ⟨J,?_⟩;refine d8S ?_;refine qY a4k ?_;refine qY V4 ?_;refine c6 ?_;exact⟨_,rE1,(by rw[show(((b++[x]).length:Int) -1)=(b.length:Int) by omega];exact .inl ⟨(b.length,b++[x]),Z4 (k:=4) O O H (.val _),by rw[X2,W h256],by show(b++[x]).length<=256;omega⟩)⟩
theorem a0q{n:Nat}{ps:List I}{b:List Ex}(hT:T.length<=1000000)(hn:n<T.length)(hb:b.length<=256)(t:Tok)(x:Ex){s:Nat}(ao:PAt σ q s T n ps b):b8 CC 254 [.ptr q 0,.agg t.cells,.agg x.cells] σ (a4F (λa:Nat×List Ex=>(iv a.1)) (λa=>(σ.set q (pbx T n ps a.2 σ.length)).set s .dead++[m0 a.2.length]) (λa=>X2 b x=some a/\a.2.length<=256) σ q s (X2 b x=none)):=
 a3k (c:=λa:Nat×List Ex=>(iv a.1)) (N:=λ_=>n) (B:=λa=>a.2) (λ_ h=>by simp at h;rcases h with rfl|rfl;exact a0x _;exact o0 x.pure) (λ_=>.val _) (d0Q T n ps b hT hn hb t x) ao
theorem d6p{n:Nat}{ps:List I}{b:List Ex}(gp:τ=pbx T n ps b 1::m0 b.length::rest)(hc:C3 2 [0,1] c c'):F0 2 τ (.ret c) (.ret c') (pst T n ps b):=by
 subst gp;exact⟨[0,1],O,O,.ret hc,.inr ⟨_,O,.same O (a4e H)⟩,.inr ⟨_,O,.same O B0⟩,J⟩
theorem a0z{f:α->List CV}{nn:Bool}{tok:Option Nat}(h:∀a,O4 (f a))(l:List α):C3 L ak (.list (l.map f) nn tok) (.list (l.map f) nn none):=
 .list (λr hr c hc=>(C6 (f:=f) (λa=>(h a).all) _ r hr c hc).old) (λj hj=>by cases hj)
def a2H:Nat->List Tok->Nat->List I->Option (List I×Nat)
 |0,_,_,_=>none
 |f+1,T,n,l=>(K3 T n).bind λx=>if l.length=8 then none else if x.1.t∈l then none else
  if isT (tk T x.2) 4 [44]=true then a2H f T (x.2+1) (l++[x.1.t])else(pIs T x.2 4 [41]).bind λm=>some (l++[x.1.t],m)
def L9(T:List Tok)(n:Nat):Option (List I×Nat):=(pIs T n 4 [40]).bind λm=>if isT (tk T m) 4 [41]=true then some ([],m+1)else a2H 9 T m []
theorem V9(l:List α)(x:α):(l++[x]).length=l.length+1:=by simp
theorem b2D(T:List Tok)(n:Nat)(ps:List I)(b:List Ex)(hT:T.length<=1000000)(hn:n<T.length)(hW:a0Z T):b8 CC 201 [.ptr 0 0] (pst T n ps b) (a3J (λa:List I×Nat=>.list (a.1.map scv) (gnn a.1.length) none) (λa=>pst T a.2 ps b) (λa=>L9 T n=some a/\a.2 <T.length/\a.1.length<=8) (L9 T n=none)):=by
 refine qO Tryz.func201 ?_;refine qD (o8 O a6e o3 (Q9 hT hn hW [40] ⟨O,O,H⟩) O (λx hx=>.inr ⟨x,j7,by rw[L9,hx.1];rfl,hx.2⟩) ?_);rintro n1 ⟨bu,bd⟩;dsimp only at bu bd⊢;refine qD (c4 O c66 o3 (a1N hT bd hW [41] ⟨O,O,H⟩) O ?_);rintro⟨ac,n2⟩ ⟨ha,bZ,eJ⟩;dsimp only at ha bZ eJ⊢;refine qC ?_ ?_<;>intro h1
 .have hc:isT (tk T n1) 4 [41]=true:=by rw[<- ha];simpa using h1
  rw[Q hc]at bZ;refine c6 ?_;exact⟨_,rE1,(by exact .inl ⟨([],n2),a0Q O (C4 _ [] false),by rw[L9,bu,n_9,Q hc,bZ],eJ,by show 0<=8;decide⟩)⟩
 .have hc:¬isT (tk T n1) 4 [41]=true:=by rw[<- ha];simpa using h1
  rw[W hc]at bZ;refine A5 hCC 2 O (α:=List I×Nat) (λx=>[(0,.ptr 0 0),(3,(.list (x.1.map scv) (gnn x.1.length) (F1 x.1.length 2)))]) (λx=>[pbx T x.2 ps b 1,m0 b.length,m0 x.1.length]) (λx=>x.1.length<=8/\x.2 <T.length/\L9 T n=a2H (9-x.1.length) T x.2 x.1) (λx=>9-x.1.length) ⟨([],n2),[0,1,7],⟨n_5 _,eJ,by rw[L9,bu,n_9,W hc,bZ];rfl⟩,⟨O,O⟩,ut_,uq_⟩ ?_;intro⟨l,m⟩ ⟨hl,hm,ah⟩;dsimp only at hl hm ah⊢;obtain⟨f,hf⟩:∃f,9-l.length=f+1:=⟨8-l.length,G⟩;rw[hf,a2H]at ah;refine qk (qD (o8 O c3o ⟨J,J⟩ (b0A hT hm hW ⟨O,O,H⟩) O (λx hx=>.inr ⟨x,j7,by rw[ah,hx.1];rfl,hx.2⟩) ?_));rintro⟨t,m1⟩ ⟨ht,dJ⟩;dsimp only at ht dJ⊢;rw[ht,n_9]at ah;dsimp only at ah;refine z_3 ?_;refine qY P5 ?_;refine qC ?_ ?_<;>intro h2
  .have h8:l.length=8:=sm_ h2;rw[Q h8]at ah;exact a27 O O (P6 O a5y o3 (P2 _ _ _) O (λ_ _=>.inr ⟨(_,_),j7,ah,U⟩))
  .have h8:¬l.length=8:=sm_ h2;rw[W h8]at ah;refine qY (c5 O d0D i7 (a0m l (gnn l.length) t.t G _) O) ?_;refine qC ?_ ?_<;>intro h3
   .have hi:t.t∈l:=D h3;rw[Q hi]at ah;exact a27 O O (P6 O a5y o3 (P2 _ _ _) O (λ_ _=>.inr ⟨(_,_),j7,ah,U⟩))
   .have hi:¬t.t∈l:=D h3;rw[W hi]at ah;have eU:=V9 l t.t;refine qY (A9 [scv t.t] O ⟨J,J⟩ t_2 t_0 t_3 O O O O O O O O O) ?_;refine qD (C8 O J J O U q_3 t_2 t_0 a4M t_3 O (.inr O) q_7 a6h G6 ((l++[t.t]).map scv) (l++[t.t]).length U U ?_);refine qD (c4 O c66 o3 (a1N hT dJ hW [44] ⟨O,O,H⟩) O ?_);rintro⟨ac2,m2⟩ ⟨ha2,cI,gt⟩;dsimp only at ha2 cI gt⊢;refine qC ?_ ?_<;>intro h4
    .have dM:¬isT (tk T m1) 4 [44]=true:=by rw[<- ha2];simpa using h4
     rw[W dM]at cI ah;subst cI;refine j8 ?_;refine qD (o8 O a6e o3 (Q9 hT gt hW [41] ⟨O,O,H⟩) O (λx hx=>.inr ⟨x,j7,by rw[ah,hx.1];rfl,hx.2⟩) ?_);rintro m3 ⟨fV,gr⟩;dsimp only at fV gr⊢;refine c6 ?_;exact⟨_,rE1,(by exact .inl ⟨(l++[t.t],m3),d6p O (a0z (f:=scv) (λ_=>⟨.val _,J⟩) _),by rw[ah,fV];rfl,gr,by show(l++[t.t]).length<=8;omega⟩)⟩
    .have dM:isT (tk T m1) 4 [44]=true:=by rw[<- ha2];simpa using h4
     rw[Q dM]at cI ah;subst cI;exact⟨(l++[t.t],m1+1),[0,1,4],⟨do_,do_,gt,by dsimp only;rw[ah,show 9- (l++[t.t]).length=f by omega]⟩,⟨O,O⟩,ut_,uq_⟩
theorem b3k{n:Nat}{ps:List I}{b:List Ex}(hT:T.length<=1000000)(hn:n<T.length)(hW:a0Z T){s:Nat}(ao:PAt σ q s T n ps b):b8 CC 201 [.ptr q 0] σ (a4F (λa:List I×Nat=>.list (a.1.map scv) (gnn a.1.length) none) (λa=>σ.set q (pbx T a.2 ps b s)) (λa=>L9 T n=some a/\a.2 <T.length/\a.1.length<=8) σ q s (L9 T n=none)):=
 a0M (c:=λa:List I×Nat=>.list (a.1.map scv) (gnn a.1.length) none) (N:=λa=>a.2) (λ_ h=>by cases h) (λ_=>F2 _ _) (b2D T n ps b hT hn hW) ao
def J4(op:Int):Int:=if op=6\/op=7 then 1 else if op=1\/op=2 then 2 else 3
def S0:List (Int×I):=[(1,[43]),(2,[45]),(3,[42]),(4,[47]),(5,[37]),(6,[60]),(7,[61,61])]
theorem a7y(op:Int)(σ:List b9):b8 CC 325 [iv op] σ λr aa=>r= .ret (iv (J4 op))/\aa=σ:=by
 refine b8.anyw hCC pu_ pu_ (c7 (qO Tryz.func325 ?_)) σ;refine qC ?_ ?_<;>intro h1
 .have e:op=6:=D h1;refine qC ?_ ?_<;>intro h2
  .refine c6 ?_;exact⟨_,rE1,_,_,O,O,B4 (show(1:Int)=J4 op by rw[J4,Q (.inl e)])⟩
  .rw [h1]at h2;cases h2
 .have e6:¬op=6:=D h1;refine qC ?_ ?_<;>intro h6
  .have e:op=7:=D h6;refine c6 ?_;exact⟨_,rE1,_,_,O,O,B4 (show(1:Int)=J4 op by rw[J4,Q (.inr e)])⟩
  .have e7:¬op=7:=D h6;refine qC ?_ ?_<;>intro h7
   .have e:op=1:=D h7;refine qC ?_ ?_<;>intro h8
    .refine c6 ?_;exact⟨_,rE1,_,_,O,O,B4 (show(2:Int)=J4 op by rw[J4,W G,Q (.inl e)])⟩
    .rw [h7]at h8;cases h8
   .have e1:¬op=1:=D h7;refine qC ?_ ?_<;>intro h9
    .have e:op=2:=D h9;refine c6 ?_;exact⟨_,rE1,_,_,O,O,B4 (show(2:Int)=J4 op by rw[J4,W G,Q (.inr e)])⟩
    .have e2:¬op=2:=D h9;refine c6 ?_;exact⟨_,rE1,_,_,O,O,B4 (show(3:Int)=J4 op by rw[J4,W G,W G])⟩
theorem d8o(m:List (Int×I)):a2Z (.map (gm kv sv m)):=λx hx=>by
 obtain⟨y,_,rfl⟩:=D6.1 hx;exact⟨.val _,.val _⟩
theorem c6a:b8 CC 324 [] [] λr τ=>∃_:Unit,X8 [b9.map (gm kv sv S0)].length τ r (.ret (.map 0))/\a3X [b9.map (gm kv sv S0)].length τ τ [b9.map (gm kv sv S0)]/\([]:List b9).length<=[b9.map (gm kv sv S0)].length/\True:=by
 refine qO Tryz.func324 ?_;refine qD (R9 O ?_);refine qD (k8 (vc:=sv) (l:=S0.take 0) a0D (.inr O) J O O O O O a2r O ?_);refine qD (k8 (vc:=sv) (l:=S0.take 1) a0D (.inr O) J O O O O O a2r O ?_);refine qD (k8 (vc:=sv) (l:=S0.take 2) a0D (.inr O) J O O O O O a2r O ?_);refine qD (k8 (vc:=sv) (l:=S0.take 3) a0D (.inr O) J O O O O O a2r O ?_);refine qD (k8 (vc:=sv) (l:=S0.take 4) a0D (.inr O) J O O O O O a2r O ?_);refine qD (k8 (vc:=sv) (l:=S0.take 5) a0D (.inr O) J O O O O O a2r O ?_);refine qD (k8 (vc:=sv) (l:=S0.take 6) a0D (.inr O) J O O O O O a2r O ?_);refine c6 ?_;exact⟨_,rE1,(by exact⟨(),.ret (.old (.map (Nat.zero_lt_one))),⟨.same (d8o _).old,J⟩,n_5 _,J⟩)⟩
theorem b8y(σ:List b9):b8 CC 324 [] σ λr τ=>∃_:Unit,r= .ret (.map σ.length)/\τ=σ++[.map (gm kv sv S0)]/\True:=
 a02 (α:=Unit) (obs:=[]) (args:=[]) (res:=λ_=>.ret (.map 0)) (res':=λ_=>.ret (.map σ.length)) (S:=λ_=>[]) (N:=λ_=>[.map (gm kv sv S0)]) (P:=λ_=>True) [] hCC O (λi j k h=>by simp at h) (λi k h=>by simp at h) (λob h=>by cases h) ⟨O,λi c c' h=>by simp at h⟩
  (M4 (res:=λ_=>.ret (.map 0)) (S:=λ_=>[.map (gm kv sv S0)]) (P:=λ_=>True) hCC c6a) (λm _=>⟨O,λob h=>by simp at h;subst h;exact d8o _⟩) (λm _=>.ret (.map (.inr ⟨n_5 _,O⟩)))
def opM(t:Tok)(lv:Int)(x:Int×I):Bool:=(t.k == 4)&&decide (t.t=x.2)&& (J4 x.1 == lv)
def opS(t:Tok)(lv:Int):Int:=((S0.find? (opM t lv)).map (·.1)).getD 0
theorem e0c:∀x∈S0,∀y∈S0,x.2=y.2->x=y:=by decide
theorem a4X{x:Int×I}(hx:x∈S0)(h:opM t lv x=true):opS t lv=x.1:=by
 unfold opS;cases hf:S0.find? (opM t lv)with
 |none=>exact absurd h (by simpa using List.find?_eq_none.1 hf x hx)
 |some y=>
  have h1:=List.find?_some hf;have h2:=c49 hf;simp[opM]at h h1;have:=e0c x hx y h2 (by rw[<- h.1.2,<- h1.1.2]);rw[this];rfl
theorem b0R(h:∀x∈S0,opM t lv x=false):opS t lv=0:=by
 unfold opS;have:S0.find? (opM t lv)=none:=List.find?_eq_none.2 λx hx=>by simp[h x hx]
 rw[this];rfl
theorem b5T{l:List α}{x y:α}(hy:l[i]?=some y)(h:x∈l):x=y\/x∈l.eraseIdx i:=by
 obtain⟨j,hj⟩:=K5.1 h;by_cases eM:j=i
 .subst eM;rw[hy]at hj;injection hj with hj;exact .inl hj.symm
 .exact .inr (c78.2 ⟨j,eM,hj⟩)
theorem b6u(T:List Tok)(n:Nat)(ps:List I)(b:List Ex)(hT:T.length<=1000000)(hn:n<T.length)(lv:Int):b8 CC 297 [.ptr 0 0,iv lv] (pst T n ps b) (λr τ=>F0 2 τ r (.ret (iv (opS (tk T n) lv))) (pst T n ps b)):=by
 refine qO Tryz.func297 ?_;refine qY b7U ?_;refine z_3 ?_;refine qD (c4 O Tryz.call324 trivial (b8y _) O ?_);intro _ _;refine qD (b6b O J O a2r O ?_);refine o4 hCC (α:=List (Int×I)×List (Int×I)) (λx=>[(1,iv lv),(5,.ptr 2 0),(11,.ptr 4 0)]) (λx=>[pbx T n ps b 1,m0 b.length,.box (tk T n).cells,.dead,.iter (gm kv sv x.1) (gm kv sv x.2)]) (λx=>(∀y∈x.2,y∈S0)/\∀y∈S0,y∉x.2->opM (tk T n) lv y=false) (λx=>x.2.length) ([],S0) ⟨λy h=>h,λy h h2=>absurd h h2⟩ tu_ (am:=[]) O B5 uz_ ?_;intro⟨aD,left⟩ ⟨eU,cM⟩;dsimp only at eU cM⊢;refine qk (qD (c2t O J O O (λhz=>?_) (λi x hx=>?_)))
 .
  have fc:left=[]:=by
   cases left with
   |nil=>rfl
   |cons y l=>cases hz
  subst fc;refine qC ?_ ?_<;>intro h1
  .cases h1
  .have ga:=b0R (λy hy=>cM y hy U);refine a0i ?_;exact⟨_,rE1,(by rw[ga];exact a0Q O (.val _))⟩
 .
  obtain⟨⟨k,s⟩,hy,rfl⟩:=c1G hx;rw[b1g];have bm:=eU _ (n_3 hy);refine qC ?_ ?_<;>intro h3
  .refine qY (b5t O J O O) ?_;refine qG b70 ?_;refine qG a0J ?_;refine b9t ?_;refine qG C9 ?_;refine qG (λhg=>c5 O Tryz.call325 ⟨hg,J⟩ (a7y k _) O) ?_;refine qG C9 ?_;refine qG a9q ?_;refine qY R4 ?_;refine qC ?_ ?_<;>intro h4
   .have hm:opM (tk T n) lv (k,s)=true:=h4;have bR:=a4X bm hm;refine c6 ?_;exact⟨_,rE1,(by rw[bR];exact a0Q O (.val _))⟩
   .have hm:opM (tk T n) lv (k,s)=false:=h4;exact⟨([(k,s)],left.eraseIdx i),_,⟨by dsimp only;rw[c90 (n_2.1 hy).1];have:=(n_2.1 hy).1;omega,λy iH=>eU y (List.mem_of_mem_eraseIdx iH),λy fB hy2=>by
     by_cases fj:y∈left
     .rcases b5T hy fj with rfl|h
      .exact hm
      .exact absurd h hy2
     .exact cM y fB fj⟩,tu_,O⟩
  .cases h3
theorem b9j{n:Nat}{ps:List I}{b:List Ex}(hT:T.length<=1000000)(hn:n<T.length)(lv:Int){s:Nat}(ao:PAt σ q s T n ps b):b8 CC 297 [.ptr q 0,iv lv] σ λr τ=>r= .ret (iv (opS (tk T n) lv))/\τ=σ:=c2s (λ_ h=>by simp at h;subst h;exact .val _) (.val _) (b6u T n ps b hT hn lv) ao
abbrev PX:=Nat×Nat×List Ex
structure PF where
 ex:Nat->Nat->List Ex->Option PX
 bin:Nat->Nat->Nat->List Ex->Option PX
 lp:Nat->Nat->Nat->Nat->List Ex->Option PX
 fac:Nat->Nat->List Ex->Option PX
 ag:Nat->Nat->List Ex->List Int->Option (List Int×Nat×List Ex)
def a2K(T:List Tok)(F:PF)(d n:Nat)(b:List Ex):Option (List Int×Nat×List Ex):=
 (pIs T n 4 [40]).bind λn1=>if isT (tk T n1) 4 [41]=true then some ([],n1+1,b)else F.ag d n1 b []
def L8(b:List Ex)(x:Ex)(m:Nat):Option PX:=(X2 b x).bind λw=>some (w.1,m,w.2)
def X7(T:List Tok)(F:PF)(u:I)(d n:Nat)(b:List Ex):Option PX:=
 (pIs T n 4 [40]).bind λn1=>
  if u=[114,101,97,100]then(a0E T n1).bind λs=>(pIs T s.2 4 [44]).bind λn2=>(F.ex (d+1) n2 b).bind λx=>(pIs T x.2.1 4 [41]).bind λm=>L8 x.2.2 ⟨6,0,0,s.1.t,[(x.1:Int)]⟩ m
  else if u=[115,105,122,101]then(a0E T n1).bind λs=>(pIs T s.2 4 [41]).bind λm=>L8 b ⟨7,0,0,s.1.t,[]⟩ m
  else if u=[104,97,115]then(a0E T n1).bind λs=>(pIs T s.2 4 [41]).bind λm=>L8 b ⟨8,0,0,s.1.t,[]⟩ m
  else if u=[101,110,118]then(F9 T n1 3).bind λs=>if B9 s.1.t=true then(pIs T s.2 4 [41]).bind λm=>L8 b ⟨9,0,0,s.1.t,[]⟩ m else none
  else(F9 T n1 2).bind λs=>if 64<=s.1.n then none else(pIs T s.2 4 [41]).bind λm=>L8 b ⟨10,s.1.n,0,[],[]⟩ m
def G4(T:List Tok)(ps:List I)(F:PF):PF where
 ex d n b:=if 32<d then none else if isT (tk T n) 1 [105,102]=true then
  (F.ex (d+1) (n+1) b).bind λx=>(pIs T x.2.1 1 [116,104,101,110]).bind λn2=>(F.ex (d+1) n2 x.2.2).bind λy=>(pIs T y.2.1 1 [101,108,115,101]).bind λn3=>(F.ex (d+1) n3 y.2.2).bind λz=>
   L8 z.2.2 ⟨5,0,0,[],[(x.1:Int),(y.1:Int),(z.1:Int)]⟩ z.2.1
  else F.bin 1 d n b
 bin lv d n b:=if lv=4 then F.fac d n b else(F.bin (lv+1) d n b).bind λx=>F.lp lv d x.1 x.2.1 x.2.2
 lp lv d x n b:=if opS (tk T n) (lv:Int)=0 then some (x,n,b)else(F.bin (lv+1) d (n+1) b).bind λy=>(X2 y.2.2 ⟨4,0,opS (tk T n) (lv:Int),[],[(x:Int),(y.1:Int)]⟩).bind λw=>
  if lv=1 then some (w.1,y.2.1,w.2)else F.lp lv d w.1 y.2.1 w.2
 fac d n b:=
  if(tk T n).k=2 then L8 b ⟨1,(tk T n).n,0,[],[]⟩ (n+1)
  else if isT (tk T n) 4 [45]=true then(F9 T (n+1) 2).bind λy=>L8 b ⟨1,-y.1.n,0,[],[]⟩ y.2
  else if isT (tk T n) 4 [40]=true then(F.ex (d+1) (n+1) b).bind λx=>(pIs T x.2.1 4 [41]).bind λm=>some (x.1,m,x.2.2)
  else if(tk T n).k≠1 then none
  else if(tk T n).t=[114,101,97,100]\/(tk T n).t=[115,105,122,101]\/(tk T n).t=[104,97,115]\/(tk T n).t=[101,110,118]\/(tk T n).t=[102,108,105,112]then X7 T F (tk T n).t d (n+1) b
  else if S6 (tk T n).t=true then none
  else if isT (tk T (n+1)) 4 [40]=true then(a2K T F d (n+1) b).bind λa=>L8 a.2.2 ⟨3,0,0,(tk T n).t,a.1⟩ a.2.1
  else if ixS ps (tk T n).t 0<0 then none else L8 b ⟨2,ixS ps (tk T n).t 0,0,[],[]⟩ (n+1)
 ag d n b bq:=(F.ex (d+1) n b).bind λx=>if isT (tk T x.2.1) 4 [44]=true then F.ag d (x.2.1+1) x.2.2 (bq++[(x.1:Int)])else(pIs T x.2.1 4 [41]).bind λm=>some (bq++[(x.1:Int)],m,x.2.2)
def z6(T:List Tok)(ps:List I):Nat->PF
 |0=>⟨λ_ _ _=>none,λ_ _ _ _=>none,λ_ _ _ _ _=>none,λ_ _ _=>none,λ_ _ _ _=>none⟩
 |f+1=>G4 T ps (z6 T ps f)
def EC(T:List Tok)(ps:List I)(f:Nat):Prop:=∀(d n:Nat) (b:List Ex),n<T.length->b.length<=256->d<=33->8*(T.length -n)+6<=f->∀(σ:List b9) (q s:Nat),PAt σ q s T n ps b->b8 CC 202 [.ptr q 0,iv d] σ (a4F (λa:PX=>(iv a.1)) (λa:PX=>(σ.set q (pbx T a.2.1 ps a.2.2 σ.length)).set s .dead++[m0 a.2.2.length]) (λa:PX=>(z6 T ps f).ex d n b=some a/\n<a.2.1/\a.2.1 <T.length/\a.2.2.length<=256) σ q s ((z6 T ps f).ex d n b=none))
def BC(T:List Tok)(ps:List I)(f:Nat):Prop:=∀(lv d n:Nat) (b:List Ex),n<T.length->b.length<=256->1<=lv->lv<=4->d<=32->8*(T.length -n)+6<=f+lv->∀(σ:List b9) (q s:Nat),PAt σ q s T n ps b->b8 CC 253 [.ptr q 0,iv lv,iv d] σ (a4F (λa:PX=>(iv a.1)) (λa:PX=>(σ.set q (pbx T a.2.1 ps a.2.2 σ.length)).set s .dead++[m0 a.2.2.length]) (λa:PX=>(z6 T ps f).bin lv d n b=some a/\n<a.2.1/\a.2.1 <T.length/\a.2.2.length<=256) σ q s ((z6 T ps f).bin lv d n b=none))
def FC(T:List Tok)(ps:List I)(f:Nat):Prop:=∀(d n:Nat) (b:List Ex),n<T.length->b.length<=256->d<=32->8*(T.length -n)+1<=f->∀(σ:List b9) (q s:Nat),PAt σ q s T n ps b->b8 CC 296 [.ptr q 0,iv d] σ (a4F (λa:PX=>(iv a.1)) (λa:PX=>(σ.set q (pbx T a.2.1 ps a.2.2 σ.length)).set s .dead++[m0 a.2.2.length]) (λa:PX=>(z6 T ps f).fac d n b=some a/\n<a.2.1/\a.2.1 <T.length/\a.2.2.length<=256) σ q s ((z6 T ps f).fac d n b=none))
structure a0j(T:List Tok)(ps:List I):Prop where
 len:T.length<=1000000
 w:a0Z T
 l:d1N T
 ps:ps.length<=1000000
 nn:∀i,0<=(tk T i).n/\(tk T i).n<=9007199254740993
variable{ps:List I}{nn:Bool}{l:List α}
theorem Q5{n:Nat}{k:Int}(h:pIs T n k s=some m):m=n+1:=by
 unfold pIs at h;split at h
 .injection h with h;exact h.symm
 .cases h
theorem d1s(hc:a0j T ps)(hE:EC T ps f)(hB:BC T ps f)(d n:Nat)(b:List Ex)(hn:n<T.length)(hb:b.length<=256)(bV:d<=33)(hf:8*(T.length -n)+6<=f+1):b8 CC 202 [.ptr 0 0,iv d] (pst T n ps b) (a3J (λa:PX=>(iv a.1)) (λa=>a6P T a.2.1 ps a.2.2) (λa:PX=>(z6 T ps (f+1)).ex d n b=some a/\n<a.2.1/\a.2.1 <T.length/\a.2.2.length<=256) ((z6 T ps (f+1)).ex d n b=none)):=by
 have hT:=hc.len;have hW:=hc.w;have ah:(z6 T ps (f+1)).ex d n b=(G4 T ps (z6 T ps f)).ex d n b:=O;simp only[G4]at ah;refine qO Tryz.func202 ?_;refine qY e2O ?_;refine z_3 ?_;refine qC ?_ ?_<;>intro h1
 .have hd:32<d:=sm_ h1;rw[Q hd]at ah;exact a27 O O (P6 O a5y o3 (P2 _ _ _) O (λ_ _=>.inr ⟨(_,_),j7,ah,U⟩))
 .have hd:¬32<d:=sm_ h1;rw[W hd]at ah;refine qY (c5 O c59 a4N (b4e hT hn 1 [105,102] ⟨O,O,n_4 O⟩) O) ?_;refine qC ?_ ?_<;>intro h2
  .have hi:isT (tk T n) 1 [105,102]=false:=D h2;rw[W (by rw[hi];decide)]at ah;refine qD (o8 O d0E ⟨J,O,J,J⟩ (hB 1 d n b hn hb G G G G _ 0 1 ⟨O,O,n_4 O⟩) O (λx hx=>.inr ⟨x,j7,by rw[ah];exact hx.1,hx.2⟩) ?_);rintro⟨i,m,b2⟩ ⟨g1,g2,g3,g4⟩;dsimp only at g1 g2 g3 g4⊢;refine qN [pbx T m ps b2 3,.dead,.box (tk T n).cells,m0 b2.length] O ?_;refine c6 ?_;exact⟨_,rE1,(by exact .inl ⟨(i,m,b2),Z4 (k:=3) O O H (.val _),by rw[ah];exact g1,g2,g3,g4⟩)⟩
  .have hi:isT (tk T n) 1 [105,102]=true:=D h2;rw[Q hi]at ah;have bd:=hW n hn (a67 hi H);refine z_7 ?_;refine qY o7 ?_;refine qD (o8 O c1f i7 (hE (d+1) (n+1) b bd hb G G _ 0 1 ⟨O,O,n_4 O⟩) O (λx hx=>.inr ⟨x,j7,by rw[ah,hx.1];rfl,hx.2⟩) ?_);rintro⟨i1,n1,b1⟩ ⟨x1,y1,z1,w1⟩;dsimp only at x1 y1 z1 w1⊢;rw[x1,n_9]at ah;dsimp only at ah;refine qN [pbx T n1 ps b1 3,.dead,.box (tk T n).cells,m0 b1.length] O (qD (o8 O d0Y o3 (b5W hT z1 hW [116,104,101,110] ⟨O,O,n_4 O⟩) O (λx hx=>.inr ⟨x,j7,by rw[ah,hx.1];rfl,hx.2⟩) ?_));rintro n2 ⟨x2,y2⟩;dsimp only at x2 y2⊢;rw[x2,n_9]at ah;have bZ:=Q5 x2;refine qN [pbx T n2 ps b1 3,.dead,.box (tk T n).cells,m0 b1.length] O (qY o7 ?_);refine qD (o8 O c1f i7 (hE (d+1) n2 b1 y2 w1 G G _ 0 _ ⟨O,O,n_4 O⟩) O (λx hx=>.inr ⟨x,j7,by rw[ah,hx.1];rfl,hx.2⟩) ?_);rintro⟨i3,n3,b3⟩ ⟨x3,y3,z3,w3⟩;dsimp only at x3 y3 z3 w3⊢;rw[x3,n_9]at ah;dsimp only at ah;refine qN [pbx T n3 ps b3 4,.dead,.box (tk T n).cells,.dead,m0 b3.length] O (qD (o8 O d0Y o3 (b5W hT z3 hW [101,108,115,101] ⟨O,O,n_4 O⟩) O (λx hx=>.inr ⟨x,j7,by rw[ah,hx.1];rfl,hx.2⟩) ?_));rintro n4 ⟨x4,y4⟩;dsimp only at x4 y4⊢;rw[x4,n_9]at ah;have hn4:=Q5 x4;refine qN [pbx T n4 ps b3 4,.dead,.box (tk T n).cells,.dead,m0 b3.length] O (qY o7 ?_);refine qD (o8 O c1f i7 (hE (d+1) n4 b3 y4 w3 G G _ 0 _ ⟨O,O,n_4 O⟩) O (λx hx=>.inr ⟨x,j7,by rw[ah,hx.1];rfl,hx.2⟩) ?_);rintro⟨i5,n5,b5⟩ ⟨x5,y5,z5,w5⟩;dsimp only at x5 y5 z5 w5⊢;rw[x5,n_9,L8]at ah;dsimp only at ah;refine qN [pbx T n5 ps b5 5,.dead,.box (tk T n).cells,.dead,.dead,m0 b5.length] O (qY (A9 ([(i1:Int),(i3:Int),(i5:Int)].map icv) O E7 t_4 t_1 t_7 O O O O O O O O O) ?_);refine qY b0P ?_;refine qD (o8 O b1J E7 (a0q hT z5 w5 (tk T n) ⟨5,0,0,[],[(i1:Int),(i3:Int),(i5:Int)]⟩ ⟨O,O,n_4 O⟩) O (λx hx=>.inr ⟨x,j7,by rw[ah,hx.1];rfl,hx.2⟩) ?_);rintro⟨i6,b6⟩ ⟨x6,y6⟩;dsimp only at x6 y6⊢;rw[x6,n_9]at ah;refine qN [pbx T n5 ps b6 6,.dead,.box (tk T n).cells,.dead,.dead,.dead,m0 b6.length] O ?_;refine c6 ?_;exact⟨_,rE1,(by exact .inl ⟨(i6,n5,b6),Z4 (k:=6) O O H (.val _),ah,do_,z5,y6⟩)⟩
theorem d6d(hc:a0j T ps)(hE:EC T ps f)(hB:BC T ps f):EC T ps (f+1):=λd n b hn hb hd hf σ q s ao=>
 a3k (c:=λa:PX=>(iv a.1)) (N:=λa=>a.2.1) (B:=λa=>a.2.2) (λ_ h=>by simp at h;subst h;exact .val _) (λ_=>.val _) (d1s hc hE hB d n b hn hb hd hf) ao
def kf(ph:Bool):Nat:=if ph=true then 3 else 2
def of1(ph:Bool)(m:Nat):b9:=if ph=true then .dead else m0 m
def of2(ph:Bool)(m:Nat):b9:=if ph=true then m0 m else .dead
theorem e02(h:¬opS t lv=0):t.k≠5:=λh5=>h (b0R λx _=>by simp[opM,h5])
theorem a7s{b:List Ex}{k p:Nat}(h:ak[p]?=some k):C3 L ak (.list (b.map Ex.cv) (gnn b.length) (F1 b.length k)) (.list (b.map Ex.cv) (gnn b.length) (F1 b.length p)):=
 .list (λr hr c hc=>(C6 (f:=Ex.cv) (λa=>(Ex.pure a).all) _ r hr c hc).old) (λj hj=>by
  cases hb:b.length with
  |zero=>rw[hb]at hj;cases hj
  |succ m=>rw[hb]at hj;injection hj with hj;subst hj;exact⟨k,O,h⟩)
theorem c0z(hc:a0j T ps)(hB:∀g,g<=f->BC T ps g)(hF:FC T ps f)(lv d n:Nat)(b:List Ex)(hn:n<T.length)(hb:b.length<=256)(dL:1<=lv)(hl4:lv<=4)(bV:d<=32)(hf:8*(T.length -n)+6<=f+1+lv):b8 CC 253 [.ptr 0 0,iv lv,iv d] (pst T n ps b) (a3J (λa:PX=>(iv a.1)) (λa=>a6P T a.2.1 ps a.2.2) (λa:PX=>(z6 T ps (f+1)).bin lv d n b=some a/\n<a.2.1/\a.2.1 <T.length/\a.2.2.length<=256) ((z6 T ps (f+1)).bin lv d n b=none)):=by
 have hT:=hc.len;have hW:=hc.w;have ah:(z6 T ps (f+1)).bin lv d n b=(G4 T ps (z6 T ps f)).bin lv d n b:=O;simp only[G4]at ah;refine qO Tryz.func253 ?_;refine qC ?_ ?_<;>intro h1
 .have h4:lv=4:=sm_ h1;rw[Q h4]at ah;refine qD (o8 O Tryz.call296 i7 (hF d n b hn hb bV G _ 0 1 ⟨O,O,n_4 O⟩) O (λx hx=>.inr ⟨x,j7,by rw[ah];exact hx.1,hx.2⟩) ?_);rintro⟨i,m,b2⟩ ⟨g1,g2,g3,g4⟩;dsimp only at g1 g2 g3 g4⊢;refine qN [pbx T m ps b2 2,.dead,m0 b2.length] O ?_;refine c6 ?_;exact⟨_,rE1,(by exact .inl ⟨(i,m,b2),Z4 (k:=2) O O H (.val _),by rw[ah];exact g1,g2,g3,g4⟩)⟩
 .have h4:¬lv=4:=sm_ h1;rw[W h4]at ah;refine qY o7 ?_;refine qD (o8 O d0E E7 (hB f (n_6 _) (lv+1) d n b hn hb G G bV G _ 0 1 ⟨O,O,n_4 O⟩) O (λx hx=>.inr ⟨x,j7,by rw[ah,hx.1];rfl,hx.2⟩) ?_);rintro⟨i1,n1,b1⟩ ⟨x1,y1,z1,w1⟩;dsimp only at x1 y1 z1 w1⊢;rw[x1,n_9]at ah;dsimp only at ah;refine qN [pbx T n1 ps b1 2,.dead,m0 b1.length] O ?_;refine A5 hCC 3 O (α:=Nat×Nat×List Ex×Bool×Nat) (λx=>[(0,.ptr 0 0),(1,iv lv),(2,iv d),(7,iv x.1)]) (λx=>[pbx T x.2.1 ps x.2.2.1 (kf x.2.2.2.1),.dead,of1 x.2.2.2.1 x.2.2.1.length,of2 x.2.2.2.1 x.2.2.1.length]) (λx=>(z6 T ps (f+1)).bin lv d n b=(z6 T ps x.2.2.2.2).lp lv d x.1 x.2.1 x.2.2.1/\n<x.2.1/\x.2.1 <T.length/\x.2.2.1.length<=256/\x.2.2.2.2<=f/\8*(T.length -x.2.1)+3<=x.2.2.2.2) (λx=>T.length -x.2.1) ⟨(i1,n1,b1,false,f),[0,1,2,7],⟨ah,y1,z1,w1,n_6 _,do_⟩,⟨O,O⟩,ut_,uq_⟩ ?_;intro⟨x,m,b2,ph,g⟩ ⟨dv,bX,hm,cg,hgf,hg⟩;dsimp only at dv bX hm cg hgf hg⊢;obtain⟨g,rfl⟩:∃g',g=g'+1:=⟨g-1,G⟩;have iR:(z6 T ps (g+1)).lp lv d x m b2=(G4 T ps (z6 T ps g)).lp lv d x m b2:=O;simp only[G4]at iR;rw[iR]at dv;refine qk (qY (c5 O Tryz.call297 i7 (b9j hT hm (lv:Int) (q:=0) (s:=kf ph) b7L) O) ?_);refine qC ?_ ?_<;>intro h2
  .have h0:opS (tk T m) (lv:Int)=0:=D h2;rw[Q h0]at dv;refine c6 ?_;exact⟨_,rE1,(by exact .inl ⟨(x,m,b2),(by cases ph;exact Z4 (k:=2) O O H (.val _);exact Z4 (k:=3) O O H (.val _)),dv,bX,hm,cg⟩)⟩
  .have h0:¬opS (tk T m) (lv:Int)=0:=D h2;rw[W h0]at dv;have dJ:=hW m hm (e02 h0);refine qY (c5 O c7a ⟨J,J⟩ (a3t hT hm (q:=0) (s:=kf ph) b7L) O) ?_;refine z_3 ?_;refine z_7 ?_;refine qY o7 ?_;refine qD (o8 O d0E E7 (hB g G (lv+1) d (m+1) b2 dJ cg G G bV G _ 0 (kf ph) b7L) O (λx hx=>.inr ⟨x,j7,by rw[dv,hx.1];rfl,hx.2⟩) ?_);rintro⟨i3,n3,b3⟩ ⟨x3,y3,z3,w3⟩;dsimp only at x3 y3 z3 w3⊢;rw[x3,n_9]at dv;dsimp only at dv;refine qN [pbx T n3 ps b3 5,.dead,.dead,.dead,.box (tk T m).cells,m0 b3.length] P9 ?_;refine qY (A9 ([(x:Int),(i3:Int)].map icv) O i7 t_4 t_1 t_7 O O O O O O O O O) ?_;refine qY c6i ?_;refine qD (o8 O b1J E7 (a0q hT z3 w3 (tk T m) ⟨4,0,opS (tk T m) (lv:Int),[],[(x:Int),(i3:Int)]⟩ ⟨O,O,n_4 O⟩) O (λx hx=>.inr ⟨x,j7,by rw[dv,hx.1];rfl,hx.2⟩) ?_);rintro⟨i4,b4⟩ ⟨x4,y4⟩;dsimp only at x4 y4⊢;rw[x4,n_9]at dv;dsimp only at dv;refine qN [pbx T n3 ps b4 6,.dead,.dead,.dead,.box (tk T m).cells,.dead,m0 b4.length] O (qC ?_ ?_)<;> intro h3
   .have dL:lv=1:=sm_ h3;rw[Q dL]at dv;refine c6 ?_;exact⟨_,rE1,(by exact .inl ⟨(i4,n3,b4),Z4 (k:=6) O O H (.val _),dv,do_,z3,y4⟩)⟩
   .have dL:¬lv=1:=sm_ h3;rw[W dL]at dv;exact⟨(i4,n3,b4,true,g),[0,1,2,6],⟨do_,dv,do_,z3,y4,do_,do_⟩,⟨O,O⟩,ut_,⟨.inr ⟨_,O,.box ⟨.old a1b,.old (.val _),.old N4,a7s O,J⟩⟩,.inl O,.inl O,.inr ⟨_,O,.same O B0⟩,J⟩⟩
theorem c6g(hc:a0j T ps)(hB:∀g,g<=f->BC T ps g)(hF:FC T ps f):BC T ps (f+1):=λlv d n b hn hb dL hl4 hd hf σ q s ao=>
 a3k (c:=λa:PX=>(iv a.1)) (N:=λa=>a.2.1) (B:=λa=>a.2.2) (λ_ h=>by simp at h;rcases h with rfl|rfl<;>exact .val _) (λ_=>.val _) (c0z hc hB hF lv d n b hn hb dL hl4 hd hf) ao
theorem a5A{n:Nat}{k:Int}(h:F9 T n k=some (t,m))(hk:k≠5):m=n+1:=by
 unfold F9 at h;rw[W hk]at h;split at h
 .injection h with h;injection h with _ h;exact h.symm
 .cases h
theorem a7R{n:Nat}(h:a0E T n=some (t,m)):m=n+1:=by
 unfold a0E at h;cases hq:F9 T n 3 with
 |none=>rw[hq]at h;cases h
 |some x=>
  rw[hq,n_9]at h;split at h
  .injection h with h;subst h;exact a5A hq H
  .cases h
theorem b2r{n:Nat}(h:K3 T n=some (t,m)):m=n+1:=by
 unfold K3 at h;cases hq:F9 T n 1 with
 |none=>rw[hq]at h;cases h
 |some x=>
  rw[hq,n_9]at h;split at h
  .cases h
  .injection h with h;subst h;exact a5A hq H
theorem b9F(hc:a0j T ps)(hE:EC T ps f)(t:Tok)(d n:Nat)(b:List Ex)(R:Option PX)(ah:R=X7 T (z6 T ps f) t.t d n b)(hn:n<T.length)(hb:b.length<=256)(bV:d<=32)(hf:8*(T.length -n)+6<=f):b8 CC 322 [.ptr 0 0,.agg t.cells,iv d] (pst T n ps b) (a3J (λa:PX=>(iv a.1)) (λa=>a6P T a.2.1 ps a.2.2) (λa:PX=>R=some a/\n<a.2.1/\a.2.1 <T.length/\a.2.2.length<=256) (R=none)):=by
 have hT:=hc.len;have hW:=hc.w;unfold X7 at ah;refine qO Tryz.func322 ?_;refine qD (H3 O J j2 j4 ?_);refine qD (o8 O a6e o3 (Q9 hT hn hW [40] ⟨O,O,n_4 O⟩) O (λx hx=>.inr ⟨x,j7,by rw[ah,hx.1];rfl,hx.2⟩) ?_);rintro n1 ⟨sn1,kn1⟩;dsimp only at sn1 kn1⊢;rw[sn1,n_9]at ah;have en1:=Q5 sn1;refine qD (o6 O b2Y O j4 ?_);refine qY Q0 ?_;refine qC ?_ ?_<;>intro h1
 .have u1:t.t=[114,101,97,100]:=D h1;rw[Q u1]at ah;refine qD (o8 O c26 ⟨J,J⟩ (b0u hT kn1 hW hc.l ⟨O,O,n_4 O⟩) O (λx hx=>.inr ⟨x,j7,by rw[ah,hx.1];rfl,hx.2⟩) ?_);rintro⟨p,n2⟩ ⟨s2,k2⟩;dsimp only at s2 k2⊢;rw[s2,n_9]at ah;dsimp only at ah;have e2:=a7R s2;refine qY c38 ?_;refine c8P ?_;refine qD (o8 O a6e o3 (Q9 hT k2 hW [44] ⟨O,O,n_4 O⟩) O (λx hx=>.inr ⟨x,j7,by rw[ah,hx.1];rfl,hx.2⟩) ?_);rintro n3 ⟨sn3,kn3⟩;dsimp only at sn3 kn3⊢;rw[sn3,n_9]at ah;have en3:=Q5 sn3;refine qY o7 ?_;refine qD (o8 O c1f i7 (hE (d+1) n3 b kn3 hb G G _ 0 1 ⟨O,O,n_4 O⟩) O (λx hx=>.inr ⟨x,j7,by rw[ah,hx.1];rfl,hx.2⟩) ?_);rintro⟨i4,n4,b4⟩ ⟨x4,y4,z4,w4⟩;dsimp only at x4 y4 z4 w4⊢;rw[x4,n_9]at ah;dsimp only at ah;refine qY (A9 ([(i4:Int)].map icv) O ⟨J,J⟩ t_4 t_1 t_7 O O O O O O O O O) ?_;refine qD (j1 O J J O j2 b60 (.inl O) O O (nb O) ?_);refine qD (o8 O a6e o3 (Q9 hT z4 hW [41] ⟨O,O,n_4 O⟩) O (λx hx=>.inr ⟨x,j7,by rw[ah,hx.1];rfl,hx.2⟩) ?_);rintro n5 ⟨fu,fY⟩;dsimp only at fu fY⊢;rw[fu,n_9]at ah;have en5:=Q5 fu;refine qD (o8 O b1J E7 (a0q hT fY w4 t ⟨6,0,0,p.t,[(i4:Int)]⟩ ⟨O,O,n_4 O⟩) O (λx hx=>.inr ⟨x,j7,by rw[ah,L8,hx.1];rfl,hx.2⟩) ?_);rintro⟨i6,b6⟩ ⟨x6,y6⟩;dsimp only at x6 y6⊢;rw[L8,x6,n_9]at ah;exact b7S
 .have u1:¬t.t=[114,101,97,100]:=D h1;rw[W u1]at ah;refine qY Q0 ?_;refine qC ?_ ?_<;>intro h2
  .have u2:t.t=[115,105,122,101]:=D h2;rw[Q u2]at ah;refine qD (o8 O c26 ⟨J,J⟩ (b0u hT kn1 hW hc.l ⟨O,O,n_4 O⟩) O (λx hx=>.inr ⟨x,j7,by rw[ah,hx.1];rfl,hx.2⟩) ?_);rintro⟨p,n2⟩ ⟨s2,k2⟩;dsimp only at s2 k2⊢;rw[s2,n_9]at ah;dsimp only at ah;have e2:=a7R s2;refine qY c38 ?_;refine c8P ?_;refine qD (o8 O a6e o3 (Q9 hT k2 hW [41] ⟨O,O,n_4 O⟩) O (λx hx=>.inr ⟨x,j7,by rw[ah,hx.1];rfl,hx.2⟩) ?_);rintro n5 ⟨fu,fY⟩;dsimp only at fu fY⊢;rw[fu,n_9]at ah;have en5:=Q5 fu;refine qD (o8 O b1J E7 (a0q hT fY hb t ⟨7,0,0,p.t,[]⟩ ⟨O,O,n_4 O⟩) O (λx hx=>.inr ⟨x,j7,by rw[ah,L8,hx.1];rfl,hx.2⟩) ?_);rintro⟨i6,b6⟩ ⟨x6,y6⟩;dsimp only at x6 y6⊢;rw[L8,x6,n_9]at ah;exact b7S
  .have u2:¬t.t=[115,105,122,101]:=D h2;rw[W u2]at ah;refine qY Q0 ?_;refine qC ?_ ?_<;>intro h3
   .have u3:t.t=[104,97,115]:=D h3;rw[Q u3]at ah;refine qD (o8 O c26 ⟨J,J⟩ (b0u hT kn1 hW hc.l ⟨O,O,n_4 O⟩) O (λx hx=>.inr ⟨x,j7,by rw[ah,hx.1];rfl,hx.2⟩) ?_);rintro⟨p,n2⟩ ⟨s2,k2⟩;dsimp only at s2 k2⊢;rw[s2,n_9]at ah;dsimp only at ah;have e2:=a7R s2;refine qY c38 ?_;refine c8P ?_;refine qD (o8 O a6e o3 (Q9 hT k2 hW [41] ⟨O,O,n_4 O⟩) O (λx hx=>.inr ⟨x,j7,by rw[ah,hx.1];rfl,hx.2⟩) ?_);rintro n5 ⟨fu,fY⟩;dsimp only at fu fY⊢;rw[fu,n_9]at ah;have en5:=Q5 fu;refine qD (o8 O b1J E7 (a0q hT fY hb t ⟨8,0,0,p.t,[]⟩ ⟨O,O,n_4 O⟩) O (λx hx=>.inr ⟨x,j7,by rw[ah,L8,hx.1];rfl,hx.2⟩) ?_);rintro⟨i6,b6⟩ ⟨x6,y6⟩;dsimp only at x6 y6⊢;rw[L8,x6,n_9]at ah;exact b7S
   .have u3:¬t.t=[104,97,115]:=D h3;rw[W u3]at ah;refine qY Q0 ?_;refine qC ?_ ?_<;>intro h4
    .have u4:t.t=[101,110,118]:=D h4;rw[Q u4]at ah;refine qD (o8 O d3r o3 (a7G hT kn1 hW 3 ⟨O,O,n_4 O⟩) O (λx hx=>.inr ⟨x,j7,by rw[ah,hx.1];rfl,hx.2⟩) ?_);rintro⟨p,n2⟩ ⟨s2,k2⟩;dsimp only at s2 k2⊢;rw[s2,n_9]at ah;dsimp only at ah;have e2:=a5A s2 H;have hp:=a5q s2;refine z_3 ?_;refine qY (c5 O c7q ⟨J,J⟩ (a1Q p.t _) O) ?_;refine qC ?_ ?_<;>intro h5
     .have hq:B9 p.t=false:=D h5;rw[W (by rw[hq];decide)]at ah;exact a27 O O (P6 O a5y o3 (P2 _ _ _) O (λ_ _=>.inr ⟨(_,_),j7,ah,U⟩))
     .have hq:B9 p.t=true:=D h5;rw[Q hq]at ah;refine c8P ?_;refine qD (o8 O a6e o3 (Q9 hT k2 hW [41] ⟨O,O,n_4 O⟩) O (λx hx=>.inr ⟨x,j7,by rw[ah,hx.1];rfl,hx.2⟩) ?_);rintro n5 ⟨fu,fY⟩;dsimp only at fu fY⊢;rw[fu,n_9]at ah;have en5:=Q5 fu;refine qD (o8 O b1J E7 (a0q hT fY hb t ⟨9,0,0,p.t,[]⟩ ⟨O,O,n_4 O⟩) O (λx hx=>.inr ⟨x,j7,by rw[ah,L8,hx.1];rfl,hx.2⟩) ?_);rintro⟨i6,b6⟩ ⟨x6,y6⟩;dsimp only at x6 y6⊢;rw[L8,x6,n_9]at ah;exact b7S
    .have u4:¬t.t=[101,110,118]:=D h4;rw[W u4]at ah;refine qD (o8 O d3r o3 (a7G hT kn1 hW 2 ⟨O,O,n_4 O⟩) O (λx hx=>.inr ⟨x,j7,by rw[ah,hx.1];rfl,hx.2⟩) ?_);rintro⟨p,n2⟩ ⟨s2,k2⟩;dsimp only at s2 k2⊢;rw[s2,n_9]at ah;dsimp only at ah;have e2:=a5A s2 H;have hp:=a5q s2;refine z_3 ?_;refine qC ?_ ?_<;>intro h6
     .have hq:64<=p.n:=D h6;rw[Q hq]at ah;exact a27 O O (P6 O a5y o3 (P2 _ _ _) O (λ_ _=>.inr ⟨(_,_),j7,ah,U⟩))
     .have hq:¬64<=p.n:=D h6;rw[W hq]at ah;refine c8P ?_;refine qD (o8 O a6e o3 (Q9 hT k2 hW [41] ⟨O,O,n_4 O⟩) O (λx hx=>.inr ⟨x,j7,by rw[ah,hx.1];rfl,hx.2⟩) ?_);rintro n5 ⟨fu,fY⟩;dsimp only at fu fY⊢;rw[fu,n_9]at ah;have en5:=Q5 fu;refine qD (o8 O b1J E7 (a0q hT fY hb t ⟨10,p.n,0,[],[]⟩ ⟨O,O,n_4 O⟩) O (λx hx=>.inr ⟨x,j7,by rw[ah,L8,hx.1];rfl,hx.2⟩) ?_);rintro⟨i6,b6⟩ ⟨x6,y6⟩;dsimp only at x6 y6⊢;rw[L8,x6,n_9]at ah;exact b7S
def UC(T:List Tok)(ps:List I)(f:Nat):Prop:=∀(t:Tok) (d n:Nat) (b:List Ex),n<T.length->b.length<=256->d<=32->8*(T.length -n)+6<=f->∀(σ:List b9) (q s:Nat),PAt σ q s T n ps b->b8 CC 322 [.ptr q 0,.agg t.cells,iv d] σ (a4F (λa:PX=>(iv a.1)) (λa:PX=>(σ.set q (pbx T a.2.1 ps a.2.2 σ.length)).set s .dead++[m0 a.2.2.length]) (λa:PX=>(X7 T (z6 T ps f) t.t d n b)=some a/\n<a.2.1/\a.2.1 <T.length/\a.2.2.length<=256) σ q s ((X7 T (z6 T ps f) t.t d n b)=none))
theorem c1g(hc:a0j T ps)(hE:EC T ps f):UC T ps f:=λt d n b hn hb hd hf σ q s ao=>
 a3k (c:=λa:PX=>(iv a.1)) (N:=λa=>a.2.1) (B:=λa=>a.2.2) (λ_ h=>by simp at h;rcases h with rfl|rfl;exact a0x _;exact .val _) (λ_=>.val _) (b9F hc hE t d n b _ O hn hb hd hf) ao
def ka(ph:Bool):Nat:=if ph=true then 2 else 1
def oa1(ph:Bool)(m:Nat):b9:=if ph=true then .dead else m0 m
def oa2(ph:Bool)(m:Nat):b9:=if ph=true then m0 m else .dead
theorem b5B{n k:Nat}{b:List Ex}(h0:τ[0]?=some (pbx T n ps b k))(hk:τ[k]?=some (m0 b.length))(h2:2<=k)(hc:∀ak,C3 2 ak c c'):F0 2 τ (.ret c) (.ret c') (a6P T n ps b):=by
 obtain⟨ak,a1,a2,_,a4⟩:=Z4 h0 hk h2 (Old.val (.int .i64 0));exact⟨ak,a1,a2,.ret (hc ak),a4⟩
theorem d9U{n k:Nat}{b:List Ex}{l:List Int}{x:Int}(h0:τ[0]?=some (pbx T n ps b k))(hk:τ[k]?=some (m0 b.length))(h2:2<=k)(hc:∀ak,C3 2 ak c c'):F0 2 τ (.ret c) (.ret c') (if(!(l++[x]).isEmpty)=true then a6P T n ps b else pst T n ps b):=by
 rw[Q U];exact b5B h0 hk h2 hc
def AC(T:List Tok)(ps:List I)(f:Nat):Prop:=∀(d n:Nat) (b:List Ex),n<T.length->b.length<=256->d<=32->8*(T.length -n)+6<=f->∀(σ:List b9) (q s:Nat),PAt σ q s T n ps b->b8 CC 323 [.ptr q 0,iv d] σ (a4F (λa:List Int×Nat×List Ex=>(.list (a.1.map icv) (gnn a.1.length) none))
 (λa=>if(!a.1.isEmpty)=true then(σ.set q (pbx T a.2.1 ps a.2.2 σ.length)).set s .dead++[m0 a.2.2.length]else(σ.set q (pbx T a.2.1 ps a.2.2 s)).set s (m0 a.2.2.length)) (λa:List Int×Nat×List Ex=>a2K T (z6 T ps f) d n b=some a/\n<a.2.1/\a.2.1 <T.length/\a.2.2.length<=256/\a.1.length<=1000000) σ q s (a2K T (z6 T ps f) d n b=none))
theorem b22(hc:a0j T ps)(hE:∀g,g<=f->EC T ps g)(d n:Nat)(b:List Ex)(hn:n<T.length)(hb:b.length<=256)(bV:d<=32)(hf:8*(T.length -n)+6<=f):b8 CC 323 [.ptr 0 0,iv d] (pst T n ps b) (a3J (λa:List Int×Nat×List Ex=>(.list (a.1.map icv) (gnn a.1.length) none)) (λa=>if(!a.1.isEmpty)=true then a6P T a.2.1 ps a.2.2 else pst T a.2.1 ps a.2.2) (λa:List Int×Nat×List Ex=>a2K T (z6 T ps f) d n b=some a/\n<a.2.1/\a.2.1 <T.length/\a.2.2.length<=256/\a.1.length<=1000000) (a2K T (z6 T ps f) d n b=none)):=by
 have hT:=hc.len;have hW:=hc.w;have ah:a2K T (z6 T ps f) d n b=a2K T (z6 T ps f) d n b:=O
 conv at ah=>rhs;unfold a2K
 refine qO Tryz.func323 ?_;refine qD (o8 O a6e o3 (Q9 hT hn hW [40] ⟨O,O,n_4 O⟩) O (λx hx=>.inr ⟨x,j7,by rw[ah,hx.1];rfl,hx.2⟩) ?_);rintro n1 ⟨bu,bd⟩;dsimp only at bu bd⊢;rw[bu,n_9]at ah;have e1:=Q5 bu;refine qD (c4 O c66 o3 (a1N hT bd hW [41] ⟨O,O,n_4 O⟩) O ?_);rintro⟨ac,n2⟩ ⟨ha,bZ,eJ⟩;dsimp only at ha bZ eJ⊢;refine qC ?_ ?_<;>intro h1
 .have cz:isT (tk T n1) 4 [41]=true:=by rw[<- ha];simpa using h1
  rw[Q cz]at bZ ah;refine c6 ?_;exact⟨_,rE1,(by exact .inl ⟨([],n2,b),a0Q O (P7 _ [] false),by rw[ah,bZ],do_,eJ,hb,by show 0<=1000000;decide⟩)⟩
 .have cz:¬isT (tk T n1) 4 [41]=true:=by rw[<- ha];simpa using h1
  rw[W cz]at bZ ah;subst bZ;refine A5 hCC 2 O (α:=List Int×Nat×List Ex×Bool×Nat) (λx=>[(0,.ptr 0 0),(1,iv d),(5,(.list (x.1.map icv) (gnn x.1.length) (F1 x.1.length 3)))]) (λx=>[pbx T x.2.1 ps x.2.2.1 (ka x.2.2.2.1),oa1 x.2.2.2.1 x.2.2.1.length,oa2 x.2.2.2.1 x.2.2.1.length,m0 x.1.length]) (λx=>a2K T (z6 T ps f) d n b=(z6 T ps x.2.2.2.2).ag d x.2.1 x.2.2.1 x.1/\x.1.length<=x.2.1/\n<x.2.1/\x.2.1 <T.length/\x.2.2.1.length<=256/\x.2.2.2.2<=f/\8*(T.length -x.2.1)+7<=x.2.2.2.2) (λx=>T.length -x.2.1) ⟨([],n2,b,false,f),[0,1,7,8],⟨ah,n_5 _,do_,eJ,hb,n_6 _,do_⟩,⟨O,O⟩,ut_,uq_⟩ ?_;intro⟨l,m,b2,ph,g⟩ ⟨dv,hlm,bX,hm,cg,hgf,hg⟩;dsimp only at dv hlm bX hm cg hgf hg⊢;obtain⟨g,rfl⟩:∃g',g=g'+1:=⟨g-1,G⟩;have iR:(z6 T ps (g+1)).ag d m b2 l=(G4 T ps (z6 T ps g)).ag d m b2 l:=O;simp only[G4]at iR;rw[iR]at dv;refine qk (qY o7 ?_);refine qD (o8 O c1f i7 (hE g G (d+1) m b2 hm cg G G _ 0 (ka ph) b7L) O (λx hx=>.inr ⟨x,j7,by rw[dv,hx.1];rfl,hx.2⟩) ?_);rintro⟨i3,n3,b3⟩ ⟨x3,y3,z3,w3⟩;dsimp only at x3 y3 z3 w3⊢;rw[x3,n_9]at dv;dsimp only at dv;refine qN [pbx T n3 ps b3 4,.dead,.dead,m0 l.length,m0 b3.length] P9 ?_;have eU:=V9 l (i3:Int);refine qY (A9 [icv (i3:Int)] O ⟨J,J⟩ t_4 t_1 t_7 O O O O O O O O O) ?_;refine qD (C8 O J J O U q_3 t_4 t_1 b8X t_7 O (.inr O) q_7 c8D G6 ((l++[(i3:Int)]).map icv) (l++[(i3:Int)]).length U U ?_);refine qD (c4 O c66 o3 (a1N hT z3 hW [44] ⟨O,O,n_4 O⟩) O ?_);rintro⟨ac2,m2⟩ ⟨ha2,cI,gt⟩;dsimp only at ha2 cI gt⊢;refine qC ?_ ?_<;>intro h2
  .have dM:¬isT (tk T n3) 4 [44]=true:=by rw[<- ha2];simpa using h2
   rw[W dM]at cI dv;subst cI;refine j8 ?_;refine qD (o8 O a6e o3 (Q9 hT gt hW [41] ⟨O,O,n_4 O⟩) O (λx hx=>.inr ⟨x,j7,by rw[dv,hx.1];rfl,hx.2⟩) ?_);rintro m3 ⟨fV,gr⟩;dsimp only at fV gr⊢;have e3:=Q5 fV;rw[fV,n_9]at dv;refine c6 ?_;exact⟨_,rE1,(by exact .inl ⟨(l++[(i3:Int)],m3,b3),d9U (k:=4) O O H (λ_=>a0z (f:=icv) (λ_=>⟨.val _,J⟩) _),dv,do_,gr,w3,do_⟩)⟩
  .have dM:isT (tk T n3) 4 [44]=true:=by rw[<- ha2];simpa using h2
   rw[Q dM]at cI dv;subst cI;exact⟨(l++[(i3:Int)],n3+1,b3,true,g),[0,1,4,5],⟨do_,dv,do_,do_,gt,w3,do_,do_⟩,⟨O,O⟩,ut_,⟨.inr ⟨_,O,.box ⟨.old a1b,.old (.val _),.old N4,a7s O,J⟩⟩,.inl O,.inr ⟨_,O,.same O B0⟩,.inr ⟨_,O,.same O B0⟩,J⟩⟩
theorem b5F(hc:a0j T ps)(hE:∀g,g<=f->EC T ps g):AC T ps f:=λd n b hn hb hd hf σ q s ao=>
 a4O (c:=λa:List Int×Nat×List Ex=>(.list (a.1.map icv) (gnn a.1.length) none)) (N:=λa=>a.2.1) (B:=λa=>a.2.2) (Z:=λ_=>ps) (g:=λa=>!a.1.isEmpty) (λ_ h=>by simp at h;subst h;exact .val _) (λ_=>a0X _ _) (b22 hc hE d n b hn hb hd hf) ao
theorem a1G{C:Ctx}{ab:Array Oper}{qs:List Nat}{Jh:A7->Env->List b9->Prop}{S:List (List b9->Prop)}{l:List (Nat×List Nat)}{fl:List Nat}{E:Env}(τ:List b9)(h:σ=τ)(k:a2h S τ fl/\V0 C ab qs Jh S l E τ):a2h S σ fl/\V0 C ab qs Jh S l E σ:=h▸k
def kc(ph:Bool):Nat:=if ph=true then 3 else 1
def oc1(ph:Bool)(m:Nat):b9:=if ph=true then .dead else m0 m
def oc2(ph:Bool)(m:Nat):List b9:=if ph=true then [m0 m]else []
theorem c2k(hc:a0j T ps)(hE:EC T ps f)(hA:AC T ps f)(hU:UC T ps f)(d n:Nat)(b:List Ex)(hn:n<T.length)(hb:b.length<=256)(bV:d<=32)(hf:8*(T.length -n)+1<=f+1):b8 CC 296 [.ptr 0 0,iv d] (pst T n ps b) (a3J (λa:PX=>(iv a.1)) (λa=>a6P T a.2.1 ps a.2.2) (λa:PX=>(z6 T ps (f+1)).fac d n b=some a/\n<a.2.1/\a.2.1 <T.length/\a.2.2.length<=256) ((z6 T ps (f+1)).fac d n b=none)):=by
 have hT:=hc.len;have hW:=hc.w;have ah:(z6 T ps (f+1)).fac d n b=(G4 T ps (z6 T ps f)).fac d n b:=O;simp only[G4]at ah;refine cO Tryz.func296 ?_;refine a5n ?_;refine z_2 ?_;refine ye O c7a ⟨J,J⟩ (a3t hT hn ⟨O,O,n_4 O⟩) O ?_;refine cD (o6 O a3b O j4 ?_);refine cD (j1 O J J O j2 a3Z j4 O O (nb O) ?_);refine a56 ?_;refine J9 ?_;refine z_0 ?_;refine cY d3e ?_;refine cY a1l ?_;refine c6K ?_;refine cC ?_ ?_<;>intro h1
 .have u1:(tk T n).k=2:=D h1;rw[Q u1]at ah;have bd:=hW n hn (by rw[u1];decide);refine a8t ?_;refine cY c4p ?_;refine cY a1l ?_;refine cY o7 ?_;refine cY W2 ?_;refine d8X ?_;refine a82 ?_;refine cY b81 ?_;refine cY d3e ?_;refine cY a1l ?_;refine cY b0P ?_;refine cD (o8 O b1J E7 (a0q hT bd hb (tk T n) ⟨1,(tk T n).n,0,[],[]⟩ ⟨O,O,n_4 O⟩) O (λx hx=>.inr ⟨x,j7,by rw[ah,L8,hx.1];rfl,hx.2⟩) ?_);rintro⟨i6,b6⟩ ⟨x6,y6⟩;dsimp only at x6 y6⊢;rw[L8,x6,n_9]at ah;exact d8b
 .have u1:¬(tk T n).k=2:=D h1;rw[W u1]at ah;refine z_2 ?_;refine de O c66 o3 (a1N hT hn hW [45] ⟨O,O,n_4 O⟩) O ?_;rintro⟨ac,n2⟩ ⟨ha,bZ,eJ⟩;dsimp only at ha bZ eJ⊢;refine z_1 ?_;refine cC ?_ ?_<;>intro h2
  .have u2:isT (tk T n) 4 [45]=true:=by rw[<- ha];simpa using h2
   rw[Q u2]at bZ ah;subst bZ;refine F6 ?_;refine cF [] [0,1,2] (tl:=[(3,[0,1]),(4,[0,1]),(5,[0,1]),(6,[0,1]),(7,[]),(8,[])]) ?_;refine chf O S8 ?_;refine chf O (c8 O b81) ?_;refine b8h ?_;refine B6 O O O (o8 O d3r o3 (a7G hT eJ hW 2 ⟨O,O,n_4 O⟩) O (λx hx _=>.inr ⟨x,j7,by rw[ah,hx.1];rfl,hx.2⟩) ?_);rintro⟨p,n3⟩ ⟨s2,k2⟩;dsimp only at s2 k2⊢;rw[s2,n_9]at ah;dsimp only at ah;have e2:=a5A s2 H;have hpn:=hc.nn (n+1);rw[<- a5q s2]at hpn;have ew: -p.n=IntKind.i64.wrap (0-p.n):=by rw[b0O G G];omega
   rw[ew]at ah;refine⟨⟨D7,b4o,J⟩,?_⟩;refine E8 O O (c8 O a4n) ⟨⟨D7,b4o,J⟩,?_⟩;refine E8 O O (c8 O (d8Z O J O)) ⟨⟨D7,b4o,J⟩,?_⟩;refine E8 O O (c8 O b0P) ⟨⟨D7,b4o,J⟩,?_⟩;refine B6 O O O (o8 O b1J E7 (a0q hT k2 hb (tk T n) ⟨1,IntKind.i64.wrap (0-p.n),0,[],[]⟩ ⟨O,O,n_4 O⟩) O (λx hx _=>.inr ⟨x,j7,by rw[ah,L8,hx.1];rfl,hx.2⟩) ?_);rintro⟨i6,b6⟩ ⟨x6,y6⟩;dsimp only at x6 y6⊢;rw[L8,x6,n_9]at ah;refine⟨J,?_⟩;refine b0f ?_;refine c6 ?_;exact⟨_,rE1,(by exact .inl ⟨(i6,n3,b6),Z4 O O (nb O) (.val _),ah,do_,k2,y6⟩)⟩
  .have u2:¬isT (tk T n) 4 [45]=true:=by rw[<- ha];simpa using h2
   rw[W u2]at bZ ah;replace bZ:=bZ.symm;subst bZ;refine z_2 ?_;refine de O c66 o3 (a1N hT hn hW [40] ⟨O,O,n_4 O⟩) O ?_;rintro⟨ac3,n3⟩ ⟨ha3,fW,hn3l⟩;dsimp only at ha3 fW hn3l⊢;refine z_1 ?_;refine cC ?_ ?_<;>intro h3
   .have u3:isT (tk T n) 4 [40]=true:=by rw[<- ha3];simpa using h3
    rw[Q u3]at fW ah;subst fW;refine a1Y ?_;refine cY o7 ?_;refine cD (o8 O c1f i7 (hE (d+1) (n+1) b hn3l hb G G _ 0 1 ⟨O,O,n_4 O⟩) O (λx hx=>.inr ⟨x,j7,by rw[ah,hx.1];rfl,hx.2⟩) ?_);rintro⟨i4,n4,b4⟩ ⟨x4,y4,z4,w4⟩;dsimp only at x4 y4 z4 w4⊢;rw[x4,n_9]at ah;dsimp only at ah;refine K9 [pbx T n4 ps b4 3,.dead,.box (tk T n).cells,m0 b4.length] O ?_;refine z_1 ?_;refine z_2 ?_;refine cD (o8 O a6e o3 (Q9 hT z4 hW [41] ⟨O,O,n_4 O⟩) O (λx hx=>.inr ⟨x,j7,by rw[ah,hx.1];rfl,hx.2⟩) ?_);rintro n5 ⟨s5,k5⟩;dsimp only at s5 k5⊢;rw[s5,n_9]at ah;have e5:=Q5 s5;refine a82 ?_;refine a4z ?_;exact⟨_,rE1,(by exact .inl ⟨(i4,n5,b4),Z4 O O (nb O) (.val _),ah,do_,k5,w4⟩)⟩
   .have u3:¬isT (tk T n) 4 [40]=true:=by rw[<- ha3];simpa using h3
    rw[W u3]at fW ah;replace fW:=fW.symm;subst fW;refine z_0 ?_;refine cY d3e ?_;refine cY a1l ?_;refine c6K ?_;refine cC ?_ ?_<;>intro h4
    .have u4:(tk T n).k≠1:=D h4;rw[Q u4]at ah;refine C2 ?_;exact e0E
    .have u4:(tk T n).k=1:=D h4;rw[W (λh=>h u4)]at ah;have bd:=hW n hn (by rw[u4];decide);refine w9 ?_;refine a8t ?_;refine cY c4p ?_;refine cY a1l ?_;refine cY o7 ?_;refine cY W2 ?_;refine d8X ?_;refine a74 ?_;refine cY b6Q ?_;refine cY M6 ?_;refine b9q ?_;refine a6r ?_;refine cY Q0 ?_;refine z_1 ?_;refine cC ?_ ?_<;>intro h5
     .have u5:(tk T n).t=[114,101,97,100]:=D h5;have uu:(tk T n).t=[114,101,97,100]\/(tk T n).t=[115,105,122,101]\/(tk T n).t=[104,97,115]\/(tk T n).t=[101,110,118]\/(tk T n).t=[102,108,105,112]:=.inl u5;rw[Q uu]at ah;refine w9 ?_;refine cC ?_ ?_<;>intro h6
      .refine z_2 ?_;refine b4X ?_;refine cD (o8 O b72 E7 (hU (tk T n) d (n+1) b bd hb bV G _ 0 1 ⟨O,O,n_4 O⟩) O (λx hx=>.inr ⟨x,j7,by rw[ah];exact hx.1,hx.2⟩) ?_);rintro⟨i,m,b2⟩ ⟨g1,g2,g3,g4⟩;dsimp only at g1 g2 g3 g4⊢;exact b7n
      .exact absurd u5 (D h6)
     .have u5:¬(tk T n).t=[114,101,97,100]:=D h5;refine z_0 ?_;refine cY Q0 ?_;refine z_1 ?_;refine cC ?_ ?_<;>intro h7
      .have u7:(tk T n).t=[115,105,122,101]:=D h7;have uu:(tk T n).t=[114,101,97,100]\/(tk T n).t=[115,105,122,101]\/(tk T n).t=[104,97,115]\/(tk T n).t=[101,110,118]\/(tk T n).t=[102,108,105,112]:=.inr (.inl u7);rw[Q uu]at ah;refine w9 ?_;refine cC ?_ ?_<;>intro h8
       .refine z_2 ?_;refine b4X ?_;refine cD (o8 O b72 E7 (hU (tk T n) d (n+1) b bd hb bV G _ 0 1 ⟨O,O,n_4 O⟩) O (λx hx=>.inr ⟨x,j7,by rw[ah];exact hx.1,hx.2⟩) ?_);rintro⟨i,m,b2⟩ ⟨g1,g2,g3,g4⟩;dsimp only at g1 g2 g3 g4⊢;exact b7n
       .exact absurd u7 (D h8)
      .have u7:¬(tk T n).t=[115,105,122,101]:=D h7;refine z_0 ?_;refine cY Q0 ?_;refine z_1 ?_;refine cC ?_ ?_<;>intro h9
       .have u9:(tk T n).t=[104,97,115]:=D h9;have uu:(tk T n).t=[114,101,97,100]\/(tk T n).t=[115,105,122,101]\/(tk T n).t=[104,97,115]\/(tk T n).t=[101,110,118]\/(tk T n).t=[102,108,105,112]:=.inr (.inr (.inl u9));rw[Q uu]at ah;refine w9 ?_;refine cC ?_ ?_<;>intro bp
        .refine z_2 ?_;refine b4X ?_;refine cD (o8 O b72 E7 (hU (tk T n) d (n+1) b bd hb bV G _ 0 1 ⟨O,O,n_4 O⟩) O (λx hx=>.inr ⟨x,j7,by rw[ah];exact hx.1,hx.2⟩) ?_);rintro⟨i,m,b2⟩ ⟨g1,g2,g3,g4⟩;dsimp only at g1 g2 g3 g4⊢;exact b7n
        .exact absurd u9 (D bp)
       .have u9:¬(tk T n).t=[104,97,115]:=D h9;refine z_0 ?_;refine cY Q0 ?_;refine z_1 ?_;refine cC ?_ ?_<;>intro eF
        .have u11:(tk T n).t=[101,110,118]:=D eF;have uu:(tk T n).t=[114,101,97,100]\/(tk T n).t=[115,105,122,101]\/(tk T n).t=[104,97,115]\/(tk T n).t=[101,110,118]\/(tk T n).t=[102,108,105,112]:=.inr (.inr (.inr (.inl u11)));rw[Q uu]at ah;refine w9 ?_;refine cC ?_ ?_<;>intro eG
         .refine z_2 ?_;refine b4X ?_;refine cD (o8 O b72 E7 (hU (tk T n) d (n+1) b bd hb bV G _ 0 1 ⟨O,O,n_4 O⟩) O (λx hx=>.inr ⟨x,j7,by rw[ah];exact hx.1,hx.2⟩) ?_);rintro⟨i,m,b2⟩ ⟨g1,g2,g3,g4⟩;dsimp only at g1 g2 g3 g4⊢;exact b7n
         .exact absurd u11 (D eG)
        .have u11:¬(tk T n).t=[101,110,118]:=D eF;refine C2 ?_;refine cY Q0 ?_;refine z_1 ?_;refine cC ?_ ?_<;>intro eH
         .have u13:(tk T n).t=[102,108,105,112]:=D eH;have uu:(tk T n).t=[114,101,97,100]\/(tk T n).t=[115,105,122,101]\/(tk T n).t=[104,97,115]\/(tk T n).t=[101,110,118]\/(tk T n).t=[102,108,105,112]:=.inr (.inr (.inr (.inr (u13))));rw[Q uu]at ah;refine z_2 ?_;refine b4X ?_;refine cD (o8 O b72 E7 (hU (tk T n) d (n+1) b bd hb bV G _ 0 1 ⟨O,O,n_4 O⟩) O (λx hx=>.inr ⟨x,j7,by rw[ah];exact hx.1,hx.2⟩) ?_);rintro⟨i,m,b2⟩ ⟨g1,g2,g3,g4⟩;dsimp only at g1 g2 g3 g4⊢;exact b7n
         .have h13':¬(tk T n).t=[102,108,105,112]:=D eH;have un:¬((tk T n).t=[114,101,97,100]\/(tk T n).t=[115,105,122,101]\/(tk T n).t=[104,97,115]\/(tk T n).t=[101,110,118]\/(tk T n).t=[102,108,105,112]):=λhh=>by rcases hh with h|h|h|h|h;exact u5 h;exact u7 h;exact u9 h;exact u11 h;exact h13' h
          rw[W un]at ah;refine b9M ?_;refine z_0 ?_;refine cY b6Q ?_;refine cY M6 ?_;refine yc O d3G ⟨J,J⟩ (a2N (tk T n).t _) ?_;refine p7 ?_;refine cC ?_ ?_<;>intro h14
          .have u14:S6 (tk T n).t=true:=D h14;rw[Q u14]at ah;refine C2 ?_;exact e0E
          .have u14:¬S6 (tk T n).t=true:=D h14;rw[W u14]at ah;refine b9M ?_;refine z_2 ?_;refine ye O c59 a4N (b4e hT bd 4 [40] ⟨O,O,n_4 O⟩) O ?_;refine p7 ?_;refine cC ?_ ?_<;>intro h15
           .have u15:isT (tk T (n+1)) 4 [40]=true:=D h15;rw[Q u15]at ah;refine F6 ?_;refine cF [] [0,1,2,3,4,5] (tl:=[(6,[0,1,2,3]),(7,[0,1]),(8,[]),(9,[])]) ?_;refine chf O S8 ?_;refine chf O (c8 O b81) ?_;refine chf O (c8 O b6Q) ?_;refine chf O c3b ?_;refine chf O S8 ?_;refine b8h ?_;refine B6 O O O (o8 O Tryz.call323 i7 (hA d (n+1) b bd hb bV G _ 0 1 ⟨O,O,n_4 O⟩) O (λx hx _=>.inr ⟨x,j7,by rw[ah,hx.1];rfl,hx.2⟩) ?_);rintro⟨l,m,b2⟩ ⟨g1,g2,g3,g4,_⟩;dsimp only at g1 g2 g3 g4⊢;rw[g1,n_9]at ah;dsimp only at ah;generalize (!l.isEmpty)=ph;refine a1G ([pbx T m ps b2 (kc ph),oc1 ph b2.length,.box (tk T n).cells]++oc2 ph b2.length) P9 ?_;refine⟨⟨D7,b4o,(by exact c8 O b6Q),a4q,J⟩,?_⟩;refine E8 O O (c8 O c6i) ⟨⟨D7,b4o,J⟩,?_⟩;refine B6 O O O (o8 O b1J E7 (a0q hT g3 g4 (tk T n) ⟨3,0,0,(tk T n).t,l⟩ (q:=0) (s:=kc ph) b7L) O (λx hx _=>.inr ⟨x,j7,by rw[ah,L8,hx.1];rfl,hx.2⟩) ?_);rintro⟨i6,b6⟩ ⟨x6,y6⟩;dsimp only at x6 y6⊢;rw[L8,x6,n_9]at ah;refine⟨J,?_⟩;refine b0f ?_;refine c6 ?_;exact⟨_,rE1,(by exact .inl ⟨(i6,m,b6),(by cases ph;exact Z4 (k:=3) O O H (.val _);exact Z4 (k:=4) O O H (.val _)),ah,do_,g3,y6⟩)⟩
           .have u15:¬isT (tk T (n+1)) 4 [40]=true:=D h15;rw[W u15]at ah;refine b9M ?_;refine cW 8 ?_;refine a2W ?_;refine hY (j3 O J O c6P O a23 H) ?_;refine hY b36 ?_;refine hY b6Q ?_;refine hY M6 ?_;refine hY (c5 O Tryz.call197 i7 (a9B ps (gnn ps.length) (tk T n).t (by have:=hc.ps;omega) _) O) ?_;refine hY a0H ?_;refine a29 ?_;refine a56 ?_;refine z_2 ?_;refine a5s ?_;refine cC ?_ ?_<;>intro h16
            .have u16:ixS ps (tk T n).t 0<0:=D h16;rw[Q u16]at ah;refine C2 ?_;exact e0E
            .have u16:¬ixS ps (tk T n).t 0<0:=D h16;rw[W u16]at ah;refine b3J ?_;refine b4X ?_;refine cY b0P ?_;refine cD (o8 O b1J E7 (a0q hT bd hb (tk T n) ⟨2,ixS ps (tk T n).t 0,0,[],[]⟩ ⟨O,O,n_4 O⟩) O (λx hx=>.inr ⟨x,j7,by rw[ah,L8,hx.1];rfl,hx.2⟩) ?_);rintro⟨i6,b6⟩ ⟨x6,y6⟩;dsimp only at x6 y6⊢;rw[L8,x6,n_9]at ah;exact d8b
theorem c55(hc:a0j T ps)(hE:EC T ps f)(hA:AC T ps f)(hU:UC T ps f):FC T ps (f+1):=λd n b hn hb hd hf σ q s ao=>
 a3k (c:=λa:PX=>(iv a.1)) (N:=λa=>a.2.1) (B:=λa=>a.2.2) (λ_ h=>by simp at h;subst h;exact .val _) (λ_=>.val _) (c2k hc hE hA hU d n b hn hb hd hf) ao
theorem d1f{T:List Tok}{ps:List I}(hc:a0j T ps):∀f,(∀g,g<=f->EC T ps g)/\(∀g,g<=f->BC T ps g)/\(∀g,g<=f->FC T ps g)
 |0=>by
  refine⟨λg hg d n b hn _ _ hf=>?_,λg hg lv d n b hn _ _ h4 _ hf=>?_,λg hg d n b hn _ _ hf=>?_⟩<;>exfalso<;>omega
 |f+1=>by
  obtain⟨hE,hB,hF⟩:=d1f hc f;have e1:=d6d hc (hE f (n_6 _)) (hB f (n_6 _));have b1:=c6g hc hB (hF f (n_6 _));have f1:=c55 hc (hE f (n_6 _)) (b5F hc hE) (c1g hc (hE f (n_6 _)));have up:∀{P:Nat->Prop},(∀g,g<=f->P g)->P (f+1)->∀g,g<=f+1->P g:=λ{P} h h1 g hg=>by
   rcases a4x f g with af|aH
   .rw [show g=f+1 by omega];exact h1
   .exact h g aH
  exact⟨up hE e1,up hB b1,up hF f1⟩
def ixP{α:Type}(p:α->Bool):List α->Nat->Int
 | [],_=>-1
 |y::l,i=>if p y=true then i else ixP p l (i+1)
theorem a7r{y:α}(h:l[i]?=some y)(p:α->Bool):ixP p (l.drop i) i=if p y=true then(i:Int)else ixP p (l.drop (i+1)) (i+1):=by
 obtain⟨af,he⟩:=n_2.1 h;rw[Y0 af,he];rfl
theorem b0G{α:Type}(p:α->Bool):∀(l:List α) (i:Nat),decide (0<=ixP p l i)=l.any p
 | [],_=>rfl
 |y::l,i=>by
  rw[ixP,List.any_cons];cases hp:p y with
  |true=>simp
  |false=>simpa using b0G p l (i+1)
theorem b6n{g:FuncId}{caps:List CV}{p:De->Bool}(l:List De)(nn:Bool)(hl:l.length<=1000000)(hg:∀args w,(callFunc g args).run CC.P w= .ok (.enter g args) w)(Jf:∀x∈l,b8 CC g ([.agg x.cells]++caps) σ λr aa=>r= .ret (.val (.bool (p x)))/\aa=σ):b8 CC 251 [(.list (l.map De.cv) nn none),.clo g caps] σ λr aa=>r= .ret (iv (ixP p l 0))/\aa=σ:=by
 refine qO Tryz.func251 ?_;refine qY a6w ?_;refine J8 (α:=Nat) (λi=>[(0,(.list (l.map De.cv) nn none)),(1,(.clo g caps)),(7,iv l.length),(8,iv i)]) (λ_=>σ) (λi=>i<=l.length/\ixP p l 0=ixP p (l.drop i) i) (λi=>l.length -i) 0 ⟨n_5 _,O⟩ tu_ O ?_;intro i E0 ⟨hi,hr⟩;refine qk (qC ?_ ?_)<;> intro h1
 .have af:(i:Int)<l.length:=D h1;obtain⟨y,hb⟩:=gx_ l i;rw[a7r hb]at hr;refine qY (r6 O J J O O a7D a30 G a5z O) ?_;refine qY d1g ?_;refine qC ?_ ?_<;>intro h2
  .have hx:p y=true:=D h2;rw[Q hx]at hr;refine c6 ?_;exact⟨_,rE1,(by exact⟨by rw[hr],O⟩)⟩
  .have hx:¬p y=true:=D h2;rw[W hx]at hr;refine qY o7 ?_;exact⟨(i+1),G,⟨G,hr⟩,tu_,O⟩
 .have aH:i=l.length:=by
   have:¬(i:Int)<l.length:=D h1;omega
  refine a0i ?_;exact⟨_,rE1,d2t⟩
theorem a93{g:FuncId}{caps:List CV}{p:De->Bool}(l:List De)(nn:Bool)(hl:l.length<=1000000)(hg:∀args w,(callFunc g args).run CC.P w= .ok (.enter g args) w)(Jf:∀x∈l,b8 CC g ([.agg x.cells]++caps) σ λr aa=>r= .ret (.val (.bool (p x)))/\aa=σ):b8 CC 199 [(.list (l.map De.cv) nn none),.clo g caps] σ λr aa=>r= .ret (.val (.bool (l.any p)))/\aa=σ:=by
 refine qO Tryz.func199 ?_;refine qY (c5 O Tryz.call251 i7 (b6n l nn hl hg Jf) O) ?_;refine c6 ?_;exact⟨_,rE1,(by exact⟨by rw[<- b0G p l 0],O⟩)⟩
theorem I2{σ:List α}{x:α}(h:σ[q]?=some x)(l:List α):(σ++l)[q]?=some x:=by
 rw[T7 (n_2.1 h).1];exact h
theorem a03(σ:List α)(x:α):(σ++[x])[σ.length]?=some x:=by simp
theorem d1X(x:De)(t:Tok)(kd:Int){s:Nat}(hq:σ[q]?=some (.box [iv kd]))(hs:σ[s]?=some (.box t.cells)):b8 CC 200 ([.agg x.cells]++[.ptr q 0,.ptr s 0]) σ λr aa=>r= .ret (.val (.bool ((x.k == kd)&&decide (x.name=t.t))))/\aa=σ:=by
 refine c7 (cO Tryz.func200 ?_);refine a6k ?_;refine z_0 ?_;refine cY d2W ?_;refine cY e2A ?_;refine cY e2A ?_;refine cY a7v ?_;refine cY D2 ?_;refine cG c3N ?_;refine cG e1N ?_;refine cG b70 ?_;refine cG e1N ?_;refine cG b2c ?_;refine c6N ?_;exact⟨_,rE1,_,_,O,O,j6 O⟩
def dkL:List (I×Int):=L5 (L5 (L5 [] [102,117,110,99] 1) [116,101,115,116] 2) [103,101,110] 3
def G0(s:I):Int:=(glk dkL s).getD 0
def c7V(T:List Tok)(ps:List I)(d n:Nat):Option PX:=(z6 T ps (8*T.length+6)).ex d n []
def a3G(T:List Tok)(kd:Int)(n:Nat):Option (Tok×Nat):=if kd=3 then a0E T n else K3 T n
def a3B(T:List Tok)(kd:Int)(n:Nat):Option (List I×Nat):=if kd=1 then L9 T n else some ([],n)
def a0F(T:List Tok)(bs:List De)(n:Nat):Option (De×Nat):=
 if(tk T n).k≠1\/G0 (tk T n).t=0 then none else if bs.length=64 then none else
 (a3G T (G0 (tk T n).t) (n+1)).bind λx=>if(bs.any λd=>(d.k == G0 (tk T n).t)&&decide (d.name=x.1.t))=true then none else
 (a3B T (G0 (tk T n).t) x.2).bind λq=>(pIs T q.2 4 [61]).bind λm=>(c7V T q.1 1 m).bind λy=>(pIs T y.2.1 4 [59]).bind λm2=>some (⟨G0 (tk T n).t,x.1.t,q.1,y.2.2⟩,m2)
theorem b3m{f:FuncId}{c:α->CV}{Z:α->List I}{n:Nat}{b:List Ex}(ap:∀a∈args,p9 a)(hc:∀a,p9 (c a))
 (h:b8 CC f (.ptr 0 0::args) (pst T n ps b) (a3J c (λa=>a6P T (N a) (Z a) (B a)) P bad)){σ:List b9}{q s:Nat}(ao:PAt σ q s T n ps b):
 b8 CC f (.ptr q 0::args) σ (a4F c (λa=>(σ.set q (pbx T (N a) (Z a) (B a) σ.length)).set s .dead++[m0 (B a).length]) P σ q s bad):=by
 refine(a4O (c:=c) (N:=N) (B:=B) (Z:=Z) (g:=λ_=>true) (P:=P) (bad:=bad) ap hc (h.mono λr τ hh=>?_) ao).mono λr τ hh=>?_
 .rcases hh with⟨a,h1,h2⟩|h
  .exact .inl ⟨a,h1,h2⟩
  .exact .inr h
 .rcases hh with⟨a,h1,h2,h3⟩|h
  .exact .inl ⟨a,h1,h2,h3⟩
  .exact .inr h
theorem b7Y{kd:Int}{n:Nat}(h:a3G T kd n=some (t,m)):m=n+1:=by
 unfold a3G at h;split at h
 .exact a7R h
 .exact b2r h
theorem b8d{T:List Tok}:∀(f n:Nat) (l l':List I) (m:Nat),a2H f T n l=some (l',m)->n<m
 |0,n,l,l',m,h=>by cases h
 |f+1,n,l,l',m,h=>by
  rw[a2H]at h;cases hn:K3 T n with
  |none=>rw[hn]at h;cases h
  |some x=>
   rw[hn,n_9]at h;have e:=b2r (t:=x.1) hn;split at h
   .cases h
   .split at h
    .cases h
    .split at h
     .have:=b8d f _ _ _ _ h;omega
     .cases hi:pIs T x.2 4 [41]with
      |none=>rw[hi]at h;cases h
      |some y=>
       rw[hi,n_9]at h;injection h with h
       injection h with _ h
       have:=Q5 hi;omega
theorem c1q{n:Nat}{l:List I}(h:L9 T n=some (l,m)):n<m:=by
 unfold L9 at h;cases hi:pIs T n 4 [40]with
 |none=>rw[hi]at h;cases h
 |some y=>
  rw[hi,n_9]at h;have:=Q5 hi;split at h
  .injection h with h
   injection h with _ h
   omega
  .have:=b8d _ _ _ _ _ h;omega
theorem b8s{kd:Int}{n:Nat}{l:List I}(h:a3B T kd n=some (l,m)):n<=m:=by
 unfold a3B at h;split at h
 .exact Nat.le_of_lt (c1q h)
 .injection h with h
  injection h with _ h
  omega
theorem c1F(k:Int)(nm:I)(ps:List I)(b:List Ex)(tok:Option Nat):C3 L ak (.agg [iv k,sv nm,.list (ps.map scv) (gnn ps.length) none,.list (b.map Ex.cv) (gnn b.length) tok]) (.agg (⟨k,nm,ps,b⟩:De).cells):=
 .agg O λi c c' h h'=>by
  rcases i with _|_|_|_|i
  .injection h with h;injection h' with h';subst h h';exact .old (.val _)
  .injection h with h;injection h' with h';subst h h';exact .old (.val _)
  .injection h with h;injection h' with h';subst h h';exact .old N4
  .injection h with h;injection h' with h';subst h h';exact a0z (f:=Ex.cv) Ex.pure _
  .cases h
theorem a3R(n:Nat):b6z n (⟨0,[],[],[]⟩:De).cells:=⟨.val _,.val _,C4 _ _ _,N9 _ _ _,J⟩
theorem c86(hc:a0j T ps)(bs:List De)(hbs:bs.length<=64)(n:Nat)(b:List Ex)(hn:n<T.length)(_:b.length<=256):b8 CC 162 [.ptr 0 0,(.list (bs.map De.cv) (gnn bs.length) none)] (pst T n ps b) (a3J (λa:De×Nat=>(.agg a.1.cells)) (λa=>a6P T a.2 a.1.params a.1.body) (λa:De×Nat=>a0F T bs n=some a/\n<a.2/\a.2 <T.length/\a.1.params.length<=8/\a.1.body.length<=256) (a0F T bs n=none)):=by
 have hT:=hc.len;have hW:=hc.w;have ah:a0F T bs n=a0F T bs n:=O
 conv at ah=>rhs;unfold a0F
 refine cO Tryz.func162 ?_;refine b0K ?_;refine L6 [pbx T n ps b 1,m0 b.length,.dead] O ?_;refine qs 7 (qD (o6 O b2k O j4 ?_));refine qD (R9 O ?_);refine qD (k8 (vc:=kv) (l:=[]) (a:=[102,117,110,99]) (b:=1) b5Y (.inr O) J O O O O O c3O O ?_);refine qD (k8 (vc:=kv) (l:=L5 [] [102,117,110,99] 1) (a:=[116,101,115,116]) (b:=2) b5Y (.inr O) J O O O O O c3O O ?_);refine qD (k8 (vc:=kv) (l:=L5 (L5 [] [102,117,110,99] 1) [116,101,115,116] 2) (a:=[103,101,110]) (b:=3) b5Y (.inr O) J O O O O O c3O O ?_);refine qY e2O ?_;refine z_3 ?_;refine qY (N3 (vc:=kv) (l:=dkL) (a:=(tk T n).t) b5Y O J J O O c3O t_7 O O (b6G _ _)) ?_;refine qD (o6 O t_7 O (.inl O) ?_);refine qD (j1 O J J O j2 t_1 (.inl O) O O (nb O) ?_);refine qG (λhg=>j9 O J O a2u O O) ?_;refine a8q ?_;refine qC ?_ ?_<;>intro h1
 .have u1:(tk T n).k≠1\/(G0 (tk T n).t)=0:=by simpa[G0]using h1
  rw[Q u1]at ah;exact a27 O O (P6 O a5y o3 (P2 _ _ _) O (λ_ _=>.inr ⟨(_,_),j7,ah,U⟩))
 .have u1:¬((tk T n).k≠1\/(G0 (tk T n).t)=0):=by simpa[G0]using h1
  rw[W u1]at ah;have bd:=hW n hn (λh5=>u1 (.inl (by rw[h5];decide)));refine qY a6w ?_;refine qC ?_ ?_<;>intro h2
  .have u2:bs.length=64:=sm_ h2;rw[Q u2]at ah;exact a27 O O (P6 O a5y o3 (P2 _ _ _) O (λ_ _=>.inr ⟨(_,_),j7,ah,U⟩))
  .have u2:¬bs.length=64:=sm_ h2;rw[W u2]at ah;refine z_7 ?_;refine b0t hCC 7 O (α:=Tok×Nat) (λ_=>[(0,.ptr 0 0),(1,(.list (bs.map De.cv) (gnn bs.length) none)),(4,.ptr 3 0),(6,.ptr 5 0),(7,.ptr 6 0)]) (λx=>[pbx T x.2 ps b 1,m0 b.length,.dead,.box (⟨0,[],[],[]⟩:De).cells,.dead,.box x.1.cells,.box [(iv (G0 (tk T n).t))]]) (λx=>a3G T (G0 (tk T n).t) (n+1)=some x/\x.2 <T.length) ?_ ?_
   .
    refine qk (qC ?_ ?_)<;> intro h3
    .have u3:(G0 (tk T n).t)=3:=by simpa[G0]using h3
     have hh:∀m,a3G T (G0 (tk T n).t) m=a0E T m:=λm=>Q u3;rw[hh]at ah;refine qD (o8 O c26 ⟨J,J⟩ (b0u hT bd hW hc.l ⟨O,O,n_4 O⟩) O (λx hx=>.inr ⟨x,j7,by rw[ah,hx.1];rfl,hx.2⟩) ?_);rintro⟨x,n2⟩ ⟨g1,g2⟩;dsimp only at g1 g2⊢;refine qD (j1 O J J O j2 a3Z j4 O O (nb O) ?_);exact⟨(x,n2),[0,1,2,3,4,5,6],⟨by rw[hh];exact g1,g2⟩,⟨O,O⟩,ut_,uq_⟩
    .have u3:¬(G0 (tk T n).t)=3:=by simpa[G0]using h3
     have hh:∀m,a3G T (G0 (tk T n).t) m=K3 T m:=λm=>W u3;rw[hh]at ah;refine qD (o8 O c3o ⟨J,J⟩ (b0A hT bd hW ⟨O,O,n_4 O⟩) O (λx hx=>.inr ⟨x,j7,by rw[ah,hx.1];rfl,hx.2⟩) ?_);rintro⟨x,n2⟩ ⟨g1,g2⟩;dsimp only at g1 g2⊢;refine qD (j1 O J J O j2 a3Z j4 O O (nb O) ?_);exact⟨(x,n2),[0,1,2,3,4,5,6],⟨by rw[hh];exact g1,g2⟩,⟨O,O⟩,ut_,uq_⟩
   .intro ⟨x,n2⟩ ⟨g1,g2⟩;dsimp only at g1 g2⊢;have e2:=b7Y g1;rw[g1,n_9]at ah;dsimp only at ah;refine qs 2 (qY (a3v O i7) ?_);refine qY (c5 O Tryz.call199 i7 (a93 bs _ G Tryz.call200 (λy _=>d1X y x (G0 (tk T n).t) (q:=6) (s:=5) O O)) O) ?_;refine qC ?_ ?_<;>intro h4
    .have u4:(bs.any λd=>(d.k ==(G0 (tk T n).t))&&decide (d.name=x.t))=true:=h4;rw[Q u4]at ah;exact a27 O O (P6 O a5y o3 (P2 _ _ _) O (λ_ _=>.inr ⟨(_,_),j7,ah,U⟩))
    .have u4:¬(bs.any λd=>(d.k ==(G0 (tk T n).t))&&decide (d.name=x.t))=true:=by rw[h4];decide
     rw[W u4]at ah;refine qY (A1 #[(0,1),(1,1),(2,1),(3,1)] O i7 b5M b2k O ⟨_,O⟩ (λw=>by kernel_rfl) O O) ?_;refine c1n ?_;refine b0t hCC 8 O (α:=List I×Nat) (λ_=>[(0,.ptr 0 0),(4,.ptr 3 0),(8,.ptr 7 0)]) (λq=>[pbx T q.2 ps b 1,m0 b.length,.dead,.box (⟨0,[],[],[]⟩:De).cells,.dead,.dead,.dead,.box (⟨(G0 (tk T n).t),x.t,q.1,[]⟩:De).cells]) (λq=>a3B T (G0 (tk T n).t) n2=some q/\q.2 <T.length/\q.1.length<=8) ?_ ?_
     .
      refine qk (qC ?_ ?_)<;> intro h5
      .have u5:(G0 (tk T n).t)=1:=by simpa[G0]using h5
       have hq:∀m,a3B T (G0 (tk T n).t) m=L9 T m:=λm=>Q u5;rw[hq]at ah;refine qD (o8 O Tryz.call201 ⟨J,J⟩ (b3k hT g2 hW ⟨O,O,n_4 O⟩) O (λx hx=>.inr ⟨x,j7,by rw[ah,hx.1];rfl,hx.2⟩) ?_);rintro⟨pl,n3⟩ ⟨k1,k2,k3⟩;dsimp only at k1 k2 k3⊢;refine qD (j1 O J J O j2 a23 (.inl O) O O (nb O) ?_);exact⟨(pl,n3),[0,1,2,3,4,5,6,7],⟨by rw[hq];exact k1,k2,k3⟩,⟨O,O⟩,ut_,uq_⟩
      .have u5:¬(G0 (tk T n).t)=1:=by simpa[G0]using h5
       have hq:∀m,a3B T (G0 (tk T n).t) m=some ([],m):=λm=>W u5;exact⟨([],n2),[0,1,2,3,4,5,6,7],⟨hq n2,g2,n_5 _⟩,⟨O,O⟩,ut_,uq_⟩
     .intro ⟨pl,n3⟩ ⟨k1,k2,k3⟩;dsimp only at k1 k2 k3⊢;have e3:=b8s k1;rw[k1,n_9]at ah;dsimp only at ah;refine qk (qD (o8 O a6e o3 (Q9 hT k2 hW [61] ⟨O,O,n_4 O⟩) O (λx hx=>.inr ⟨x,j7,by rw[ah,hx.1];rfl,hx.2⟩) ?_));rintro n4 ⟨s4,k4⟩;dsimp only at s4 k4⊢;have e4:=Q5 s4;rw[s4,n_9]at ah;have bx:a0j T pl:=⟨hT,hW,hc.l,G,hc.nn⟩;refine qD (j1 O J J O j2 a23 (.inl O) O O (nb O) ?_);refine qD (j1 O J O O j2 b1B (.inl O) O O (nb O) ?_);refine qD (o8 O c1f o3 ((d1f bx (8*T.length+6)).1 _ (n_6 _) 1 n4 [] k4 (n_5 _) H G _ 0 2 ⟨O,O,n_4 O⟩) O (λx hx=>.inr ⟨x,j7,by rw[ah,c7V,hx.1];rfl,hx.2⟩) ?_);rintro⟨i5,n5,b5⟩ ⟨x5,y5,z5,w5⟩;dsimp only at x5 y5 z5 w5⊢;rw[c7V,x5,n_9]at ah;dsimp only at ah;refine qN [pbx T n5 pl b5 8,m0 b.length,.dead,.box (⟨0,[],[],[]⟩:De).cells,.dead,.dead,.dead,.box (⟨(G0 (tk T n).t),x.t,pl,[]⟩:De).cells,m0 b5.length] O (qD (j1 O J J O j2 b1B (.inl O) O O (nb O) ?_));refine qD (o8 O a6e o3 (Q9 hT z5 hW [59] (q:=0) (s:=8) ⟨O,O,n_4 O⟩) O (λx hx=>.inr ⟨x,j7,by rw[ah,hx.1];rfl,hx.2⟩) ?_);rintro n6 ⟨s6,k6⟩;dsimp only at s6 k6⊢;have e6:=Q5 s6;rw[s6,n_9]at ah;refine qD (j1 O J J O j2 a30 j4 O O (nb O) ?_);refine c6 ?_;exact⟨_,B1 O c8b,(by exact .inl ⟨(⟨(G0 (tk T n).t),x.t,pl,b5⟩,n6),b5B (k:=8) O O H (λ_=>c1F _ _ _ _ _),ah,do_,k6,k3,w5⟩)⟩
theorem d6P(hc:a0j T ps)(bs:List De)(hbs:bs.length<=64){n:Nat}{b:List Ex}(hn:n<T.length)(hb:b.length<=256){s:Nat}(ao:PAt σ q s T n ps b):b8 CC 162 [.ptr q 0,(.list (bs.map De.cv) (gnn bs.length) none)] σ (a4F (λa:De×Nat=>(.agg a.1.cells)) (λa=>(σ.set q (pbx T a.2 a.1.params a.1.body σ.length)).set s .dead++[m0 a.1.body.length]) (λa:De×Nat=>a0F T bs n=some a/\n<a.2/\a.2 <T.length/\a.1.params.length<=8/\a.1.body.length<=256) σ q s (a0F T bs n=none)):=
 b3m (c:=(λa:De×Nat=>(.agg a.1.cells))) (N:=λa=>a.2) (Z:=λa=>a.1.params) (B:=λa=>a.1.body) (λ_ h=>by simp at h;subst h;exact a7M _ _) (λa=>o0 a.1.pure) (c86 hc bs hbs n b hn hb) ao
def a1x:Nat->List Tok->I->Nat->List I->Option (List I×Nat)
 |0,_,_,_,_=>none
 |f+1,T,pkg,n,l=>if isT (tk T n) 1 [105,109,112,111,114,116]=true then(if l.length=8 then none else(K3 T (n+1)).bind λx=>if x.1.t=pkg\/x.1.t∈l then none else(pIs T x.2 4 [59]).bind λm=>a1x f T pkg m (l++[x.1.t]))else some (l,n)
def T0:Nat->List Tok->Nat->List De->Option (List De×Nat)
 |0,_,_,_=>none
 |f+1,T,n,l=>if(tk T n).k=5 then some (l,n)else(a0F T l n).bind λx=>T0 f T x.2 (l++[x.1])
def a1e(T:List Tok):Option Src:=(pIs T 0 1 [112,97,99,107,97,103,101]).bind λn1=>(K3 T n1).bind λx=>(pIs T x.2 4 [59]).bind λn2=>(a1x 9 T x.1.t n2 []).bind λy=>(T0 65 T y.2 []).bind λz=>some ⟨x.1.t,y.1,z.1⟩
theorem b4S{bs:List De}{n:Nat}{x:De×Nat}(h:a0F T bs n=some x):bs.length≠64:=λiS=>by
 unfold a0F at h;rw[Q iS]at h;split at h<;>cases h
theorem d4D(pkg:I)(i:List I)(d:List De)(t1 t2:Option Nat):C3 L ak (.agg [sv pkg,.list (i.map scv) (gnn i.length) t1,.list (d.map De.cv) (gnn d.length) t2]) (.agg (⟨pkg,i,d⟩:Src).cells):=
 .agg O λk c c' h h'=>by
  rcases k with _|_|_|k
  .injection h with h;injection h' with h';subst h h';exact .old (.val _)
  .injection h with h;injection h' with h';subst h h';exact a0z (f:=scv) (λ_=>⟨.val _,J⟩) _
  .injection h with h;injection h' with h';subst h h';exact a0z (f:=De.cv) De.pure _
  .cases h
theorem c9d(hc:a0j T [])(h0:0<T.length):b8 CC 105 [.ptr 0 0] (pst T 0 [] []) (a3J (λa:Src×Nat×List I×List Ex=>(.agg a.1.cells)) (λa=>a6P T a.2.1 a.2.2.1 a.2.2.2) (λa:Src×Nat×List I×List Ex=>a1e T=some a.1) (a1e T=none)):=by
 have hT:=hc.len;have hW:=hc.w;have ah:a1e T=a1e T:=O
 conv at ah=>rhs;unfold a1e
 refine qO Tryz.func105 ?_;refine qD (o6 O a4C O j4 ?_);refine qD (o8 O d0Y o3 (b5W hT h0 hW [112,97,99,107,97,103,101] ⟨O,O,n_4 O⟩) O (λx hx=>.inr ⟨x,j7,by rw[ah,hx.1];rfl,hx.2⟩) ?_);rintro n1 ⟨s1,k1⟩;dsimp only at s1 k1⊢;rw[s1,n_9]at ah;have e1:=Q5 s1;refine qD (o8 O c3o ⟨J,J⟩ (b0A hT k1 hW ⟨O,O,n_4 O⟩) O (λx hx=>.inr ⟨x,j7,by rw[ah,hx.1];rfl,hx.2⟩) ?_);rintro⟨w,n2⟩ ⟨s2,k2⟩;dsimp only at s2 k2⊢;have e2:=b2r s2;rw[s2,n_9]at ah;dsimp only at ah;refine qY c38 ?_;refine qY (A1 #[(0,1),(1,1),(2,1)] O ⟨J,J⟩ a6l a4C O ⟨_,O⟩ (λw=>by kernel_rfl) O O) ?_;refine d2Y ?_;refine qD (o8 O a6e o3 (Q9 hT k2 hW [59] ⟨O,O,n_4 O⟩) O (λx hx=>.inr ⟨x,j7,by rw[ah,hx.1];rfl,hx.2⟩) ?_);rintro n3 ⟨s3,k3⟩;dsimp only at s3 k3⊢;rw[s3,n_9]at ah;refine qN [pbx T n3 [] [] 1,.dead,.box (⟨[],[],[]⟩:Src).cells,.box [sv w.t,.list (([]:List I).map scv) (gnn ([]:List I).length) none,.list (([]:List De).map De.cv) (gnn ([]:List De).length) none]] O ?_;refine A5 hCC 4 O (α:=List I×Nat) (λ_=>[(0,.ptr 0 0),(2,.ptr 2 0),(3,.ptr 3 0)]) (λx=>[pbx T x.2 [] [] 1,.dead,.box (⟨[],[],[]⟩:Src).cells,.box [sv w.t,.list (x.1.map scv) (gnn x.1.length) (F1 x.1.length 4),.list (([]:List De).map De.cv) (gnn ([]:List De).length) none],m0 x.1.length]) (λx=>x.1.length<=8/\x.2 <T.length/\a1e T=(a1x (9-x.1.length) T w.t x.2 x.1).bind λy=>(T0 65 T y.2 []).bind λz=>some ⟨w.t,y.1,z.1⟩) (λx=>9-x.1.length) ⟨([],n3),[0,1,2,3,9],⟨n_5 _,k3,ah⟩,⟨O,O⟩,ut_,⟨.inr ⟨_,O,.same O (a4e (nb O))⟩,.inl O,.inr ⟨_,O,.same O c5n⟩,.inr ⟨_,O,.box ⟨.old (.val _),.old a2y,.old (P1 _ [] _),J⟩⟩,.inl O,J⟩⟩ ?_;intro⟨l,m⟩ ⟨hl,hm,ah⟩;dsimp only at hl hm ah⊢;obtain⟨f,hf⟩:∃f,9-l.length=f+1:=⟨8-l.length,G⟩;rw[hf,a1x]at ah;refine qk (qY (c5 O c59 a4N (b4e hT hm 1 [105,109,112,111,114,116] ⟨O,O,n_4 O⟩) O) ?_);refine cC ?_ ?_<;>intro h1
 .have u1:isT (tk T m) 1 [105,109,112,111,114,116]=true:=D h1;rw[Q u1]at ah;have dJ:=hW m hm (a67 u1 H);refine b4Y ?_;refine qC ?_ ?_<;>intro h2
  .have u2:l.length=8:=sm_ h2;rw[Q u2]at ah;refine qY (c5 O c7a ⟨J,J⟩ (a3t hT hm ⟨O,O,n_4 O⟩) O) ?_;exact a27 O O (P6 O a5y o3 (P2 _ _ _) O (λ_ _=>.inr ⟨(_,_),j7,by rw[ah];rfl,U⟩))
  .have u2:¬l.length=8:=sm_ h2;rw[W u2]at ah;refine z_7 ?_;refine qD (o8 O c3o ⟨J,J⟩ (b0A hT dJ hW ⟨O,O,n_4 O⟩) O (λx hx=>.inr ⟨x,j7,by rw[ah,hx.1];rfl,hx.2⟩) ?_);rintro⟨x,m1⟩ ⟨s4,k4⟩;dsimp only at s4 k4⊢;rw[s4,n_9]at ah;dsimp only at ah;refine qN [pbx T m1 [] [] 1,.dead,.box (⟨[],[],[]⟩:Src).cells,.box [sv w.t,.list (l.map scv) (gnn l.length) (F1 l.length 4),.list (([]:List De).map De.cv) (gnn ([]:List De).length) none],m0 l.length] O ?_;refine z_3 ?_;refine qY a8e ?_;refine d8l ?_;refine qG b70 ?_;refine qG a0J ?_;refine qG (λhg=>c5 O d0D ⟨hg,hg,J⟩ (a0m l (gnn l.length) x.t G _) O) ?_;refine qY U4 ?_;refine qC ?_ ?_<;>intro h3
   .have u3:x.t=w.t\/x.t∈l:=D h3;rw[Q u3]at ah;exact a27 O O (P6 O a5y o3 (P2 _ _ _) O (λ_ _=>.inr ⟨(_,_),j7,by rw[ah];rfl,U⟩))
   .have u3:¬(x.t=w.t\/x.t∈l):=D h3;rw[W u3]at ah;have eU:=V9 l x.t;refine qY (A9 [scv x.t] O ⟨J,J⟩ t_2 t_0 t_3 O O O O O O O O O) ?_;refine qD (C8 O J J O U q_3 t_2 t_0 a4M t_3 O (.inr O) q_7 a6h G6 ((l++[x.t]).map scv) (l++[x.t]).length U U ?_);refine qD (j1 O J J O j2 a23 (.inl O) O O (nb O) ?_);refine qD (o8 O a6e o3 (Q9 hT k4 hW [59] ⟨O,O,n_4 O⟩) O (λx hx=>.inr ⟨x,j7,by rw[ah,hx.1];rfl,hx.2⟩) ?_);rintro m2 ⟨s5,k5⟩;dsimp only at s5 k5⊢;rw[s5,n_9]at ah;exact⟨(l++[x.t],m2),[0,1,2,3,6],⟨do_,do_,k5,by dsimp only;rw[ah,show 9- (l++[x.t]).length=f by omega]⟩,⟨O,O⟩,ut_,⟨.inr ⟨_,O,.same O (a4e (nb O))⟩,.inl O,.inr ⟨_,O,.same O c5n⟩,.inr ⟨_,O,.box ⟨.old (.val _),C3.grow (f:=scv) (λ_=>⟨.val _,J⟩) O,.old (P1 _ [] _),J⟩⟩,.inr ⟨_,O,.same O B0⟩,J⟩⟩
 .have u1:¬isT (tk T m) 1 [105,109,112,111,114,116]=true:=D h1;rw[W u1,n_9]at ah;dsimp only at ah;rename_i im0;obtain⟨im,him⟩:∃im,im=l:=⟨l,O⟩;subst him;refine j8 ?_;refine A5 hCC 5 O (α:=Nat×List De×List I×List Ex) (λ_=>[(0,.ptr 0 0),(2,.ptr 2 0),(3,.ptr 3 0)]) (λx=>[pbx T x.1 x.2.2.1 x.2.2.2 5,.dead,.box (⟨[],[],[]⟩:Src).cells,.box [sv w.t,.list (im.map scv) (gnn im.length) none,.list (x.2.1.map De.cv) (gnn x.2.1.length) (F1 x.2.1.length 6)],.dead,m0 x.2.2.2.length,m0 x.2.1.length]) (λx=>x.2.1.length<=64/\x.1 <T.length/\x.2.2.1.length<=8/\x.2.2.2.length<=256/\a1e T=(T0 (65-x.2.1.length) T x.1 x.2.1).bind λz=>some ⟨w.t,im,z.1⟩) (λx=>T.length -x.1) ⟨(m,[],[],[]),[0,1,2,3,4,9,10],⟨n_5 _,hm,n_5 _,n_5 _,ah⟩,⟨O,O⟩,ut_,⟨.inr ⟨_,O,.box ⟨.old a1b,.old (.val _),.old N4,.old (N9 _ [] _),J⟩⟩,.inl O,.inr ⟨_,O,.same O c5n⟩,.inr ⟨_,O,.box ⟨.old (.val _),a0z (f:=scv) (λ_=>⟨.val _,J⟩) _,.old (P1 _ [] _),J⟩⟩,.inl O,.inl O,.inl O,J⟩⟩ ?_;intro⟨m,ds,ps,b⟩ ⟨cr,hm,cj,hb,ah⟩;dsimp only at cr hm cj hb ah⊢;obtain⟨f,hf⟩:∃f,65-ds.length=f+1:=⟨64-ds.length,G⟩;rw[hf,T0]at ah;have bx:a0j T ps:=⟨hT,hW,hc.l,G,hc.nn⟩;refine qk (qY (c5 O c7a ⟨J,J⟩ (a3t hT hm (q:=0) (s:=5) ⟨O,O,n_4 O⟩) O) ?_);refine qY a4n ?_;refine qC ?_ ?_<;>intro h4
  .have u4:¬(tk T m).k=5:=D h4;rw[W u4]at ah;refine cF [] [0,1,2,3,4] (tl:=[(5,[0,1]),(6,[0,1]),(7,[]),(8,[]),(9,[])]) ?_;refine chf O c3h ?_;refine chf O c8E ?_;refine chf O S8 ?_;refine chf O c3h ?_;refine chf O c8E ?_;refine H4 ?_;refine B6 O O O (o8 O Tryz.call162 i7 (d6P bx ds cr hm hb (q:=0) (s:=5) ⟨O,O,n_4 O⟩) O (λx hx _=>.inr ⟨x,j7,by rw[ah,hx.1];rfl,hx.2⟩) ?_);rintro⟨d,m1⟩ ⟨g1,g2,g3,g4,g5⟩;dsimp only at g1 g2 g3 g4 g5⊢;have aj:=b4S g1;rw[g1,n_9]at ah;dsimp only at ah;have eU:=V9 ds d;refine a1G [pbx T m1 d.params d.body 7,.dead,.box (⟨[],[],[]⟩:Src).cells,.box [sv w.t,.list (im.map scv) (gnn im.length) none,.list (ds.map De.cv) (gnn ds.length) (F1 ds.length 6)],.dead,.dead,m0 ds.length,m0 d.body.length] O ?_;refine d8u ?_;refine B6 O O O (C8 O J J O U q_3 a7D a30 Tryz.typeInfo104 b2k O (.inr O) q_7 (by have hb:Tryz.t104.bytes=72:=O;rw[hb];first|omega|(simp;done)|(simp;omega)) G6 ((ds++[d]).map De.cv) (ds++[d]).length U U ?_);refine⟨J,?_⟩;refine d8y ?_;refine a9k ?_;exact⟨(m1,ds++[d],d.params,d.body),[0,1,2,3,4,7,8],⟨do_,do_,g3,g4,g5,by dsimp only;rw[ah,show 65- (ds++[d]).length=f by omega]⟩,⟨O,O⟩,ut_,⟨.inr ⟨_,O,.box ⟨.old a1b,.old (.val _),.old N4,a7s O,J⟩⟩,.inl O,.inr ⟨_,O,.same O c5n⟩,.inr ⟨_,O,.box ⟨.old (.val _),.old N4,C3.grow (f:=De.cv) (λ_=>⟨.val _,.val _,C4 _ _ _,N9 _ _ _,J⟩) O,J⟩⟩,.inl O,.inr ⟨_,O,.same O B0⟩,.inr ⟨_,O,.same O B0⟩,J⟩⟩
  .have u4:(tk T m).k=5:=D h4;rw[Q u4,n_9]at ah;refine j8 ?_;refine c72 ?_;exact⟨_,B1 O ⟨J,_,_,_,O,O,.inr ⟨_,b9J,a35,nb O,O⟩⟩,(by exact .inl ⟨(⟨w.t,im,ds⟩,m,ps,b),b5B (k:=5) O O H (λ_=>d4D _ _ _ _ _),ah⟩)⟩
theorem d5k(hc:a0j T [])(h0:0<T.length){s:Nat}(ao:PAt σ q s T 0 [] []):b8 CC 105 [.ptr q 0] σ (a4F (λa:Src×Nat×List I×List Ex=>(.agg a.1.cells)) (λa=>(σ.set q (pbx T a.2.1 a.2.2.1 a.2.2.2 σ.length)).set s .dead++[m0 a.2.2.2.length]) (λa:Src×Nat×List I×List Ex=>a1e T=some a.1) σ q s (a1e T=none)):=
 b3m (c:=(λa:Src×Nat×List I×List Ex=>(.agg a.1.cells))) (N:=λa=>a.2.1) (Z:=λa=>a.2.2.1) (B:=λa=>a.2.2.2) (λ_ h=>by cases h) (λa=>o0 a.1.pure) (c9d hc h0) ao
structure e0D(N:Nat)(t:Tok):Prop where
 len:t.t.length<=N
 n0:0<=t.n
 n1:t.n<=9007199254740993
theorem b0H(s:I)(a e:Nat):(sub s a e).length<=s.length:=by unfold sub;rw[b4b,a7Y];omega
theorem c7l{b:UInt8}:e0D s.length (D5 s a b).1/\(D5 s a b).1.k≠5:=by
 have z:e0D s.length (⟨0,[],0,0⟩:Tok):=⟨n_5 _,H,H⟩;unfold D5
 split
 .split
  .exact ⟨z,(show(0:Int)≠5 by decide)⟩
  .exact ⟨⟨b0H _ _ _,b0a _,(show(0:Int)<=9007199254740993 by decide)⟩,(show(1:Int)≠5 by decide)⟩
 .split
  .split
   .exact ⟨z,(show(0:Int)≠5 by decide)⟩
   .have:=b4d (b3p (s:=s) (a:=a));exact⟨⟨n_5 _,this.1,this.2⟩,(show(2:Int)≠5 by decide)⟩
  .split
   .split
    .exact ⟨z,(show(0:Int)≠5 by decide)⟩
    .exact ⟨⟨b0H _ _ _,b0a _,(show(0:Int)<=9007199254740993 by decide)⟩,(show(3:Int)≠5 by decide)⟩
   .split
    .split
     .exact ⟨⟨b0H _ _ _,b0a _,(show(0:Int)<=9007199254740993 by decide)⟩,(show(4:Int)≠5 by decide)⟩
     .exact ⟨⟨b0H _ _ _,b0a _,(show(0:Int)<=9007199254740993 by decide)⟩,(show(4:Int)≠5 by decide)⟩
    .exact ⟨z,(show(0:Int)≠5 by decide)⟩
theorem a9i(s:I):∀(f i:Nat) (T:List Tok),a0C f s i=some T->T.length<=f/\(∀t∈T,e0D s.length t)/\∃L e,T=L++[e]/\e.k=5/\∀t∈L,t.k≠5
 |0,i,T,h=>by cases h
 |f+1,i,T,h=>by
  rw[a0C]at h;cases hb:s[A2 s i [5]]? with
  |none=>
   rw[hb]at h;injection h with h
   subst h;refine⟨U,λt ht=>?_,[],_,O,O,λt ht=>by cases ht⟩;simp at ht;subst ht;exact⟨n_5 _,b0a _,(show(0:Int)<=9007199254740993 by decide)⟩
  |some b=>
   rw[hb]at h;simp only at h;split at h
   .obtain ⟨h1,h2⟩:=a9i s f _ T h;exact⟨G,h2⟩
   .split at h
    .cases h
    .cases hq:a0C f s (D5 s (A2 s i [5]) b).2.1.toNat with
     |none=>rw[hq]at h;cases h
     |some T'=>
      rw[hq]at h;simp only[b95,Option.some.injEq]at h;subst h;obtain⟨h1,h2,L,e,h3,h5,h4⟩:=a9i s f _ T' hq;have hg:=c7l (s:=s) (a:=A2 s i [5]) (b:=b);refine⟨D h1,λt ht=>?_,_::L,e,by rw[h3];rfl,h5,λt ht=>?_⟩
      .rcases J2.1 ht with rfl|ht
       .exact ⟨hg.1.len,hg.1.n0,hg.1.n1⟩
       .exact h2 t ht
      .rcases J2.1 ht with rfl|ht
       .exact hg.2
       .exact h4 t ht
theorem c0H(i:Nat):tk T i∈T\/tk T i=⟨5,[],0,0⟩:=by
 unfold tk;cases h:T[i]? with
 |none=>exact .inr O
 |some t=>exact .inl (n_3 h)
theorem b1G(h:a3p s=some T):a0j T []/\0<T.length:=by
 unfold a3p at h;split at h
 .cases h
 .rename_i hs;obtain⟨h1,h2,L,e,h3,h5,h4⟩:=a9i s _ _ T h;have h0:0<T.length:=by rw[h3];simp
  refine⟨⟨G,λn hn hk=>?_,λn=>?_,n_5 _,λn=>?_⟩,h0⟩
  .rcases a4x (n+1) T.length with af|aH
   .exact af
   .exfalso;have hl:T.length=L.length+1:=by rw[h3];simp
    have:tk T n=e:=by
     unfold tk;rw[h3,show n=L.length by omega];simp
    exact hk (by rw[this];exact h5)
  .rcases c0H (T:=T) n with h|h
   .have:=(h2 _ h).len;omega
   .rw [h];simp
  .rcases c0H (T:=T) n with h|h
   .exact ⟨(h2 _ h).n0,(h2 _ h).n1⟩
   .rw [h];exact⟨H,H⟩
abbrev c5T:=Src×Int×Int
abbrev c5y(x:c5T):CV:=.tup [.agg x.1.cells,iv x.2.1,iv x.2.2]
def O5(s:I):Option Src:=(a3p s).bind a1e
def b5r(s:I)(x:c5T):Prop:=(O5 s=some x.1/\x.2.1=0/\x.2.2=0)\/(O5 s=none/\x.1=⟨[],[],[]⟩/\x.2.2≠0)
theorem c1Y{c1 c2 c3:CV}{u:CV}{K:List b9->Prop}(h:K σ):c7A CC 104 [c1,c2,c3] σ false u K:=by
 refine d7C ?_;refine cY (c5q O J O Tryz.runUnderlying20 (.inl O)) ?_;refine p7 ?_;refine cC ?_ ?_<;>intro h1
 .cases h1
 .refine w9 ?_;exact h
theorem c04(a0 e0 x e:Int){K:List b9->Prop}(h:K [.dead,.box (⟨[],[],[]⟩:Src).cells,.box [iv x],.box [iv e],.dead,.box [iv x,iv e]]):c7A CC 104 [.ptr 1 0,.ptr 2 0,.ptr 3 0] [.dead,.box (⟨[],[],[]⟩:Src).cells,.box [iv a0],.box [iv e0],.dead] true (a3c x e) K:=by
 refine d7C ?_;refine cY (c5q O J O Tryz.runUnderlying20 (.inr ⟨_,_,O⟩)) ?_;refine p7 ?_;refine cC ?_ ?_<;>intro h1
 .refine z_2 ?_;refine cY (c5I (xs:=[.int .i64 x,.int .i64 e]) O J O c6o O O) ?_;refine b7W ?_;refine cD (o6 O Tryz.zeroValue166 O j4 ?_);refine cD (j1 O J J O j2 Tryz.sizeOf166 j4 O O (nb O) ?_);refine z_1 ?_;refine c05 ?_;refine b2y ?_;refine cC ?_ ?_<;>intro h2
  .cases h2
  .refine w9 ?_;refine cF [] [0,1,2,3,4] (tl:=[(5,[1,2,3,4]),(6,[3,4]),(7,[])]) ?_;refine chf O e0k ?_;refine chf O (c8 O (j3 O J O c6o O t_1 H)) ?_;refine chf O b4H ?_;refine chf O (c8 O c9T) ?_;refine chf O c7Q ?_;refine c91 ?_;refine⟨⟨(by exact c8 O (j3 O J O c6o O t_1 H)),b4R,(by exact c8 O c9T),b3H,J⟩,?_⟩;refine B6 O O O (j1 O J J O j2 t_1 (.inl O) O O (nb O) ?_);refine⟨⟨(by exact c8 O c9T),b3H,J⟩,?_⟩;refine d7f ?_;exact h
 .cases h1
theorem c6Z(s:I)(hs:s.length<=1000000000000):b8 CC 80 [(sv s)] [] λr τ=>∃x:c5T,X8 0 τ r (.ret (c5y x))/\b5r s x:=by
 refine a0g (c0C Tryz.func80 O O ?_);show c0k _ _ _ _ _ [.dead];refine c2g ?_;refine C2 ?_;refine cD (o6 O a4C O j4 ?_);refine cD (o6 O t_7 O (.inl O) ?_);refine cD (o6 O Tryz.zeroValue42 O (.inl O) ?_);refine p7 ?_;refine c2g ?_;refine z_9 ?_;refine dc O Tryz.call103 ⟨J,J⟩ (c7s s hs _) ?_;rintro⟨T,nn,at_,e⟩ hP;dsimp only at hP⊢;refine b7W ?_;refine b4p ?_;refine cD (j1 O J J O j2 t_1 (.inl O) O O (nb O) ?_);refine cD (j1 O J J O j2 c1J (.inl O) O O (nb O) ?_);refine p7 ?_;refine c2g ?_;refine z_0 ?_;refine cY (j9 O J O c10 O O) ?_;refine a5s ?_;refine cC ?_ ?_<;>intro h1
 .have he:e≠0:=D h1;have hl:a3p s=none:=by
   rcases hP with⟨_,_,_,g⟩|⟨g,_⟩
   .exact absurd g he
   .exact g
  refine F6 ?_;refine cF [] [0,1,2] (tl:=[(3,[1,2]),(4,[2]),(5,[])]) ?_;refine chf O e0k ?_;refine chf O b4H ?_;refine chf O c7Q ?_;refine c91 ?_;refine⟨⟨b4R,b3H,J⟩,?_⟩;refine B6 O O O (j1 O J J O j2 t_1 (.inl O) O O (nb O) ?_);refine⟨⟨b3H,J⟩,?_⟩;refine d7f ?_;refine c6 ?_;exact⟨_,r8 (rs:=[.cell 2 99,.cell 3 3,.cell 4 42]) (cs:=[_,_,_]) O d9C (n_4 O),⟨((⟨[],[],[]⟩:Src),at_,e),d5d,.inr ⟨by rw[O5,hl];rfl,O,he⟩⟩⟩
 .have he:e=0:=D h1;obtain⟨hl,rfl,rfl⟩:a3p s=some T/\nn=true/\at_=0:=by
   rcases hP with⟨g1,g2,g3,_⟩|⟨_,_,_,g⟩
   .exact ⟨g1,g2,g3⟩
   .exact absurd he g
  subst he;obtain⟨hc,h0⟩:=b1G hl;have ah:O5 s=a1e T:=by rw[O5,hl];rfl
  refine w9 ?_;refine d1l O O O O O H O O Tryz.call104 E7 (λds=>?_);refine a5Q ?_;refine a3Y ?_;refine cY D2 ?_;refine cY (A1 #[(0,1),(1,1),(2,1),(3,1)] O ⟨J,J⟩ c6P Tryz.zeroValue170 O ⟨_,O⟩ (λw=>by kernel_rfl) O O) ?_;refine cD (H3 O J j2 j4 ?_);refine z_1 ?_;refine a5Q ?_;refine a3Y ?_;refine cY D2 ?_;refine cD (o8 O Tryz.call105 ⟨J,J⟩ (d5k hc h0 (q:=4) (s:=0) ⟨O,O,n_4 O⟩) O (λx hx=>c04 _ _ _ _ ⟨_,r8 (rs:=[.cell 2 99,.cell 3 3,.cell 4 42]) (cs:=[_,_,_]) O d9C (n_4 O),⟨((⟨[],[],[]⟩:Src),x.1,x.2),d5d,.inr ⟨by rw[ah];exact hx.1,O,hx.2⟩⟩⟩) ?_);rintro⟨x,m,ps,b⟩ g1;dsimp only at g1⊢;refine cD (j1 O J J O j2 a35 j4 O O (nb O) ?_);refine cD (j1 O J O O j2 t_1 (.inl O) O O (nb O) ?_);refine cD (j1 O J O O j2 c1J (.inl O) O O (nb O) ?_);refine p7 ?_;refine b0s ?_;exact c1Y ⟨_,r8 (rs:=[.cell 2 99,.cell 3 3,.cell 4 42]) (cs:=[_,_,_]) O d9C (n_4 O),⟨(x,0,0),(by exact .ret (.tups ⟨.old (c:=.agg (x).cells) (o0 (Src.pure _)).old,.old (.val _),.old (.val _),J⟩)),.inl ⟨by rw[ah];exact g1,O,O⟩⟩⟩
theorem d3P(s:I)(hs:s.length<=1000000000000)(σ:List b9):b8 CC 80 [(sv s)] σ λr τ=>∃x:c5T,r= .ret (c5y x)/\τ=σ/\b5r s x:=
 D8 (res:=λx=>.ret (c5y x)) hCC (λc hc=>by simp at hc;subst hc;exact .val _) (c6Z s hs) (λx _=>C5 ⟨o0 x.1.pure,.val _,.val _,J⟩) σ
structure Fi where
 p:I
 b:I
deriving DecidableEq
variable{b:List Ex}{fl:List Fi}
abbrev Fi.cells(x:Fi):List CV:=[sv x.p,sv x.b]
def Fi.cv(x:Fi):List CV:=x.cells
theorem Fi.pure(x:Fi):O4 x.cells:=⟨.val _,.val _,J⟩
theorem D9(l:List Fi)(nn:Bool):p9 (.list (l.map Fi.cv) nn none):=F3 (f:=Fi.cv) Fi.pure l nn
theorem Y8(n:Nat)(l:List Fi)(nn:Bool):Old n (.list (l.map Fi.cv) nn none):=(D9 l nn).old
abbrev A0(l:List Fi)(nn:Bool):List CV:=[.list (l.map Fi.cv) nn none]
structure Va where
 n:I
 v:Int
deriving DecidableEq
variable{n:Nat}{v:I}
abbrev Va.cells(x:Va):List CV:=[sv x.n,iv x.v]
def Va.cv(x:Va):List CV:=x.cells
theorem Va.pure(x:Va):O4 x.cells:=⟨.val _,.val _,J⟩
theorem a1j(l:List Va)(nn:Bool):p9 (.list (l.map Va.cv) nn none):=F3 (f:=Va.cv) Va.pure l nn
theorem c3G(n:Nat)(l:List Va)(nn:Bool):Old n (.list (l.map Va.cv) nn none):=(a1j l nn).old
abbrev a0n(l:List Va)(nn:Bool):List CV:=[.list (l.map Va.cv) nn none]
def prv{α:Type}(l:List α)(i:Nat):Option α:=if i=0 then none else l[i-1]?
theorem b9g{x:α}(h:l[i]?=some x):prv l (i+1)=some x:=by unfold prv;simp[h]
theorem a05{p:α}(hp:0<i->l[i-1]?=some p)(q:α->Bool):(prv l i).any q=(decide ((i:Int) > 0)&&q p):=by
 unfold prv;by_cases h:i=0
 .subst h;rfl
 .rw [W h,hp G];have:decide ((i:Int) > 0)=true:=a4a G;rw[this];rfl
theorem c1S(hi:i<l.length):∃p,0<i->l[((i:Int) -1).toNat]?=some p/\l[i-1]?=some p:=by
 refine⟨l[i-1]'G,λh0=>?_⟩;rw[show((i:Int) -1).toNat=i-1 by omega];simp
def J6(pv:Option Fi)(f:Fi):Int:=if F8 f.p=false then 6 else if(pv.any λg=>decide (f.p=g.p))=true then 10 else if(pv.any λg=>Op.bytesLess f.p g.p)=true then 6 else if 16384<f.b.length then 2 else 0
def rvE:Option Fi->List Fi->Int
 |_,[]=>0
 |pv,f::l=>if J6 pv f=0 then rvE (some f) l else J6 pv f
def C7(l:List Fi):Int:=if 64<l.length then 2 else rvE none l
theorem b9R{l:List Fi}{f:Fi}(h:l[i]?=some f):rvE (prv l i) (l.drop i)=if J6 (prv l i) f=0 then rvE (prv l (i+1)) (l.drop (i+1))else J6 (prv l i) f:=by
 obtain⟨af,rfl⟩:=n_2.1 h;rw[b9g h,Y0 af,rvE]
def a9f(pv:Option Va)(v:Va):Bool:=B9 v.n && (decide (-9007199254740992<=v.v)&&decide (v.v<=9007199254740992))&& !(pv.any λg=>Op.bytesLess v.n g.n ||decide (v.n=g.n))
def evB:Option Va->List Va->Bool
 |_,[]=>true
 |pv,v::l=>a9f pv v&&evB (some v) l
def b0n(l:List Va):Bool:=decide (l.length<=16)&&evB none l
theorem c5A{ev:List Va}(h:b0n ev=true):ev.length<=16:=by
 unfold b0n at h;simp only[T5,a2t]at h;exact h.1
theorem c8v{l:List Va}{v:Va}(h:l[i]?=some v):evB (prv l i) (l.drop i)=(a9f (prv l i) v&&evB (prv l (i+1)) (l.drop (i+1))):=by
 obtain⟨af,rfl⟩:=n_2.1 h;rw[b9g h,Y0 af,evB]
def a4v(s:I):Bool:=F8 s&& (decide ((s.length:Int) > 4)&&c1X [46,115,114,99] s)
theorem a7b(l:List Fi)(nn:Bool)(hl:∀f∈l,f.p.length<=1000000000)(σ:List b9):b8 CC 52 [.agg (A0 l nn)] σ λr aa=>r= .ret (iv (C7 l))/\aa=σ:=by
 refine b8.anyw hCC pu_ pu_ (c7 (qO Tryz.func52 ?_)) σ;refine qD (H3 O J j2 j4 ?_);refine qY a08 ?_;refine qC ?_ ?_<;>intro h1
 .have aj:64<l.length:=sm_ h1;exact d7z
 .have aj:¬64<l.length:=sm_ h1;refine qY a08 ?_;refine o4 hCC (α:=Nat) (λi=>[(1,.ptr 0 0),(10,(.list (l.map Fi.cv) nn none)),(11,iv l.length),(12,iv i)]) (λ_=>[.box (A0 l nn)]) (λi=>i<=l.length/\C7 l=rvE (prv l i) (l.drop i)) (λi=>l.length -i) 0 ⟨n_5 _,by rw[C7,W aj];rfl⟩ tu_ (am:=[]) O B5 uz_ ?_;intro i ⟨hi,hr⟩;refine qk (qC ?_ ?_)<;> intro h2
  .have af:(i:Int)<l.length:=D h2;obtain⟨y,hb⟩:=gx_ l i;obtain⟨p,hp⟩:=c1S (l:=l) (i:=i) G;have gL:0<i->l[i-1]?=some p:=λh=>(hp h).2;have bc:=hl y (n_3 hb);rw[b9R hb]at hr;refine b9y ?_;refine qY (c5 O c6J ⟨J,J⟩ (a1R y.p bc _) O) ?_;refine qC ?_ ?_<;>intro h3
   .have u3:F8 y.p=false:=D h3;have us:J6 (prv l i) y=6:=by rw[J6,Q u3]
    rw[us]at hr;exact b66
   .have u3:¬F8 y.p=false:=D h3;refine cW 15 ?_;refine hY D2 ?_;refine hY a0c ?_;refine hY D2 ?_;refine c5p ?_;refine c3q ?_;refine c31 ?_;refine c27 ?_;refine O1 O O J O b2c ?_;refine hY R4 ?_;refine hY a0H ?_;refine a0T ?_;refine qC ?_ ?_<;>intro h4
    .have u4:((prv l i).any λg=>decide (y.p=g.p))=true:=by rw[a05 gL];exact h4
     have us:J6 (prv l i) y=10:=by rw[J6,W u3,Q u4]
     rw[us]at hr;exact b66
    .have u4:¬((prv l i).any λg=>decide (y.p=g.p))=true:=by rw[a05 gL];simpa using h4
     refine cW 15 ?_;refine hY D2 ?_;refine hY a0c ?_;refine hY D2 ?_;refine c5p ?_;refine c3q ?_;refine c31 ?_;refine c27 ?_;refine d8K ?_;refine hY a0H ?_;refine a0T ?_;refine qC ?_ ?_<;>intro h5
     .have u5:((prv l i).any λg=>Op.bytesLess y.p g.p)=true:=by rw[a05 gL];exact h5
      have us:J6 (prv l i) y=6:=by rw[J6,W u3,W u4,Q u5]
      rw[us]at hr;exact b66
     .have u5:¬((prv l i).any λg=>Op.bytesLess y.p g.p)=true:=by rw[a05 gL];simpa using h5
      refine qY S4 ?_;refine qC ?_ ?_<;>intro h6
      .have u6:16384<y.b.length:=sm_ h6;have us:J6 (prv l i) y=2:=by rw[J6,W u3,W u4,W u5,Q u6]
       rw[us]at hr;exact b66
      .have u6:¬16384<y.b.length:=sm_ h6;have us:J6 (prv l i) y=0:=by rw[J6,W u3,W u4,W u5,W u6]
       rw[us,Q O]at hr;exact b5O
  .refine a0i ?_;exact⟨_,rE1,_,_,O,O,B4 (by rw[hr,Y4 (sm_ h2)];rfl)⟩
theorem c46(a b c d e:Bool):(a&&b&& !(c&& (d ||e)))= !((!a || !b) ||(c&& (d ||e))):=by cases a<;>cases b<;>cases c<;>cases d<;>cases e<;>rfl
theorem d0F(s:I):((F8 s&&decide ((s.length:Int) > 4))&&c1X [46,115,114,99] s)=a4v s:=by rw[a4v,b12]
theorem b3d(s:I)(hs:s.length<=1000000000)(σ:List b9):b8 CC 79 [(sv s)] σ λr aa=>r= .ret (.val (.bool (a4v s)))/\aa=σ:=by
 refine b8.anyw hCC pu_ pu_ (c7 (qO Tryz.func79 ?_)) σ;refine qY (c5 O c6J ⟨J,J⟩ (a1R s hs _) O) ?_;refine a7C ?_;refine a4w ?_;refine qG C9 ?_;refine qG (λhg=>c5 O Tryz.call102 ⟨hg,O,J⟩ (a6a s _ G H _) O) ?_;refine a9W ?_;exact⟨_,rE1,_,_,O,O,j6 (d0F _)⟩
theorem b8c(v:Int)(σ:List b9):b8 CC 92 [iv v] σ λr aa=>r= .ret (.val (.bool (decide (-9007199254740992<=v)&&decide (v<=9007199254740992))))/\aa=σ:=by
 refine b8.anyw hCC pu_ pu_ (c7 (qO Tryz.func92 ?_)) σ;refine qG C9 ?_;refine a4w ?_;exact d3Z
theorem V1(l:List Va)(nn:Bool)(σ:List b9):b8 CC 53 [.agg (a0n l nn)] σ λr aa=>r= .ret (.val (.bool (b0n l)))/\aa=σ:=by
 refine b8.anyw hCC pu_ pu_ (c7 (qO Tryz.func53 ?_)) σ;refine qD (H3 O J j2 j4 ?_);refine qY c87 ?_;refine qC ?_ ?_<;>intro h1
 .have aj:¬l.length<=16:=sm_ h1;refine c6 ?_;exact⟨_,rE1,_,_,O,O,j6 (by rw[b0n,a3U aj];rfl)⟩
 .have aj:l.length<=16:=sm_ h1;refine qY c87 ?_;refine o4 hCC (α:=Nat) (λi=>[(1,.ptr 0 0),(10,(.list (l.map Va.cv) nn none)),(11,iv l.length),(12,iv i)]) (λ_=>[.box (a0n l nn)]) (λi=>i<=l.length/\b0n l=evB (prv l i) (l.drop i)) (λi=>l.length -i) 0 ⟨n_5 _,by rw[b0n,a4a aj];rfl⟩ tu_ (am:=[]) O B5 uz_ ?_;intro i ⟨hi,hr⟩;refine qk (qC ?_ ?_)<;> intro h2
  .have af:(i:Int)<l.length:=D h2;obtain⟨y,hb⟩:=gx_ l i;obtain⟨p,hp⟩:=c1S (l:=l) (i:=i) G;have gL:0<i->l[i-1]?=some p:=λh=>(hp h).2;rw[c8v hb]at hr;refine d7G ?_;refine cW 26 ?_;refine hY (j3 O J O c33 O t_0 H) ?_;refine hY M6 ?_;refine hY (c5 O c7q ⟨J,J⟩ (a1Q y.n _) O) ?_;refine hY c0x ?_;refine hY D2 ?_;refine O1 O O J O (λhg=>j3 O J O c33 O t_1 H) ?_;refine O1 O O J O a7t ?_;refine O1 O O J O (λhg=>c5 O Tryz.call92 ⟨hg,J⟩ (b8c y.v _) O) ?_;refine O1 O O J O a2D ?_;refine hY U4 ?_;refine hY D2 ?_;refine O1 O O J O C9 ?_;refine O1 O O J O a3h ?_;refine O1 O O J O b8G ?_;refine a6x O O (λh=>h) O (λhk hg=>j3 O J O c33 O t_0 H) ?_;refine a6x O O (λh=>h) O (λhk hg=>j9 O ⟨hk,hg⟩ O t_8 O O) ?_;refine a6x O O (λh=>h) O (λhk hg=>j3 O J O Tryz.runUnderlying28 O Tryz.sizeOf26 H) ?_;refine a6x O O (λh=>h) O (λhk hg=>j9 O ⟨hk,hg⟩ O Tryz.isAgg26 O O) ?_;refine a6x O O (λh=>h) O (λhk hg=>a2Y O J j2) ?_;refine a6x O O (λh=>h) O (λhk hg=>a8s O ⟨hk,hg⟩ O O O e0X e0X) ?_;refine a6x O O (λh=>h) O (λhk hg=>r6 O ⟨hk,hg⟩ ⟨hk,hg⟩ O O c9C d3i e0X (j5 (hp (by change (_:Bool)=_ at hk;simp at hk hg;omega)).1) O) ?_;refine a6x O O (λh=>h) O (λhk hg=>a3I O ⟨hk,hg⟩ O c33 O t_0 H) ?_;refine a6x O O (λh=>h) O (λhk hg=>a0N O ⟨hk,hg⟩ O t_8 O) ?_;refine a6x O O (λh=>h) O (λhk hg=>a2X O ⟨hk,hg⟩ ⟨hk,hg⟩ O O (b87 _ _)) ?_;refine O1 O O J O c4W ?_;refine hY U4 ?_;refine a0T ?_;refine qC ?_ ?_<;>intro h3
   .have u3:a9f (prv l i) y=false:=by rw[a9f,a05 gL,c46];rw[h3];rfl
    rw[u3,Bool.false_and]at hr;refine c6 ?_;exact⟨_,rE1,_,_,O,O,j6 hr.symm⟩
   .have u3:a9f (prv l i) y=true:=by rw[a9f,a05 gL,c46];rw[h3];rfl
    rw[u3,b1k]at hr;exact b5O
  .refine a0i ?_;exact⟨_,rE1,_,_,O,O,j6 (by rw[hr,Y4 (sm_ h2)];rfl)⟩
def a6L(l:List Va)(s:I):Option Int:=(l.find? λv=>decide (v.n=s)).map Va.v
theorem c50{l:List Va}{v:Va}(h:l[i]?=some v)(s:I):a6L (l.drop i) s=if v.n=s then some v.v else a6L (l.drop (i+1)) s:=by
 obtain⟨af,rfl⟩:=n_2.1 h;rw[Y0 af];unfold a6L;rw[List.find?_cons];by_cases hh:l[i].n=s
 .simp [hh]
 .simp [hh]
theorem b3b(l:List Va)(nn:Bool)(s:I)(hl:l.length<=1000000000)(σ:List b9):b8 CC 131 [.agg (a0n l nn),(sv s)] σ λr aa=>r= .ret (.tup [(iv ((a6L l s).getD 0)),(.val (.bool ((a6L l s).isSome)))])/\aa=σ:=by
 refine b8.anyw hCC pu_ pu_ (c7 (qO Tryz.func131 ?_)) σ;refine qD (H3 O J j2 j4 ?_);refine qY c87 ?_;refine o4 hCC (α:=Nat) (λi=>[(1,(sv s)),(9,(.list (l.map Va.cv) nn none)),(10,iv l.length),(11,iv i)]) (λ_=>[.box (a0n l nn)]) (λi=>i<=l.length/\a6L l s=a6L (l.drop i) s) (λi=>l.length -i) 0 ⟨n_5 _,O⟩ tu_ (am:=[]) O B5 uz_ ?_;intro i ⟨hi,hr⟩;refine qk (qC ?_ ?_)<;> intro h1
 .have af:(i:Int)<l.length:=D h1;obtain⟨y,hb⟩:=gx_ l i;rw[c50 hb]at hr;refine d7G ?_;refine qY a8e ?_;refine qC ?_ ?_<;>intro h2
  .have u2:y.n=s:=D h2;rw[Q u2]at hr;refine c6 ?_;exact⟨_,r8 (rs:=[.tmp 4,.tmp 5]) (cs:=[_,_]) O a0d (n_4 O),_,_,O,O,(by rw[hr];exact .tups ⟨.old (.val _),.old (.val _),J⟩)⟩
  .have u2:¬y.n=s:=D h2;rw[W u2]at hr;exact b5O
 .have aH:l.length<=i:=sm_ h1;rw[Y4 aH]at hr;refine a0i ?_;exact⟨_,r8 (rs:=[.tmp 4,.tmp 5]) (cs:=[_,_]) O a0d (n_4 O),_,_,O,O,(by rw[hr];exact .tups ⟨.old (.val _),.old (.val _),J⟩)⟩
structure Nm where
 k:Int
 p:I
 o:I
deriving DecidableEq
abbrev Nm.cells(x:Nm):List CV:=[iv x.k,sv x.p,sv x.o]
def Nm.kc(x:Nm):CV:=.agg x.cells
variable{kc:α->CV}
def Nm.kv(x:Nm):Value:=.agg #[.int .i64 x.k,.string (str x.p),.string (str x.o)]
theorem Nm.pure(x:Nm):p9 x.kc:=o0 ⟨.val _,.val _,.val _,J⟩
def C0(k:Int)(p o:I):Nm:=⟨k,if k=3 then []else p,o⟩
theorem e2I(x y:Nm):∀w,(Op.equal 173 x.kv y.kv).run CC.P w= .ok (decide (x=y)) w:=by
 intro w;show(Op.equal _ _ _).run Tryz.prog w=_;simp[Op.equal,Op.maxDepth,go_sem,Nm.kv,Q4];obtain⟨a,b,c⟩:=x;obtain⟨a',b',c'⟩:=y;by_cases h1:a=a'<;>by_cases h2:b=b'<;>by_cases h3:c=c'<;>simp[h1,h2,h3]
theorem e2t{M:z8}{w:World}{x:Nm}{v:Value}(h:RV M w x.kc v):v=x.kv:=a1n (l:=[.int .i64 x.k,.string (str x.p),.string (str x.o)]) h
theorem e06{M:z8}{w:World}(x:Nm):RV M w x.kc x.kv:=by
 refine .agg O (λc hc=>?_) λi c hc=>?_
 .simp at hc
  rcases hc with rfl|rfl|rfl<;>rfl
 .rcases i with _|_|_|i
  .injection hc with hc;subst hc;exact .val _
  .injection hc with hc;subst hc;exact .val _
  .injection hc with hc;subst hc;exact .val _
  .cases hc
theorem d3g:c4a (α:=Nm) CC.P 173 Nm.kc Nm.kv where
 rv _ _ _ _ h:=e2t h
 rv' _ _ a:=e06 a
 check b a w:=by
  have:∀n,(Instr.checkKey b (n+2) 173 a.kv).run Tryz.prog w= .ok () w:=λn=>by simp[Instr.checkKey,Nm.kv,go_sem]
  exact this 9998
 eq a b w:=e2I a b w
 now:=⟨_,d2b,λa b=>O⟩
 bits a:=by
  have:∀n,Instr.sameBits (n+2) a.kv a.kv=true:=λn=>by simp[Instr.sameBits,Nm.kv,b0E]
  exact this 9998
theorem d6u:T6 (α:=Nm) CC.P 173 Nm.kc Nm.kv:=d3g.find
theorem b9H(k:Int)(p o:I)(σ:List b9):b8 CC 106 [iv k,(sv p),(sv o)] σ λr aa=>r= .ret (.agg (C0 k p o).cells)/\aa=σ:=by
 refine b8.anyw hCC pu_ pu_ (c7 (qO Tryz.func106 ?_)) σ;refine qD (o6 O d1T O j4 ?_);refine qC ?_ ?_<;>intro h1
 .have u1:k=3:=D h1;refine d7w ?_;refine c6 ?_;exact⟨_,B1 O ⟨J,_,_,_,O,O,.inr ⟨_,c7K,b9K,nb O,O⟩⟩,_,_,O,O,(by rw[C0,Q u1];exact .old ((Nm.pure ⟨k,[],o⟩).old))⟩
 .have u1:¬k=3:=D h1;refine d7w ?_;refine c6 ?_;exact⟨_,B1 O ⟨J,_,_,_,O,O,.inr ⟨_,c7K,b9K,nb O,O⟩⟩,_,_,O,O,(by rw[C0,W u1];exact .old ((Nm.pure ⟨k,p,o⟩).old))⟩
structure En where
 p:I
 o:I
 k:Int
 pl:I
 ix:Int
 ct:Int
deriving DecidableEq
variable{k:Int}
abbrev En.cells(x:En):List CV:=[sv x.p,sv x.o,iv x.k,sv x.pl,iv x.ix,iv x.ct]
abbrev En.z:En:=⟨[],[],0,[],0,0⟩
theorem En.pure(x:En):p9 (.agg x.cells):=o0 ⟨.val _,.val _,.val _,.val _,.val _,.val _,J⟩
def vcE(x:En):CV:=.agg x.cells
def vcS(x:Src):CV:=.agg x.cells
abbrev Src.z:Src:=⟨[],[],[]⟩
variable{z:Bool}
theorem a7B(x:Src):p9 (vcS x):=o0 x.pure
theorem a5J{z:Value}(d:β)(hd:I0 z=vc d)(o:Option β):(o.map vc).getD (I0 z)=vc (o.getD d):=by cases o<;>simp[hd]
theorem c06(hk:∀a,p9 (kc a))(hv:∀b,p9 (vc b))(n:Nat)(l:List (α×β)):F7 n (.map (gm kc vc l)):=λx hx=>by
 obtain⟨y,_,rfl⟩:=D6.1 hx;exact⟨(hk _).old,(hv _).old⟩
theorem a8Q(hk:∀a,p9 (kc a))(hv:∀b,p9 (vc b))(l:List (α×β)):I7 R (.map (gm kc vc l)) (.map (gm kc vc l)):=.map ⟨O,λi x x' h h'=>by
 rw[h]at h';injection h' with h';subst h'
 obtain⟨y,_,rfl⟩:=D6.1 (n_3 h);exact⟨.pure (hk _),.pure (hv _)⟩⟩
abbrev SM:=List (I×Src)
variable{ms:SM}
abbrev EM:=List (Nm×En)
variable{me:EM}
abbrev smO(m:SM):b9:=.map (gm sv vcS m)
abbrev emO(m:EM):b9:=.map (gm Nm.kc vcE m)
theorem b0z(s:I):p9 (sv s):=.val _
abbrev wbx(fl:List Fi)(nn va:Bool)(br:List I)(q1 q2 t:Nat):b9:=.box [.list (fl.map Fi.cv) nn none,.val (.bool va),.map q1,.list (br.map scv) (gnn br.length) (F1 br.length t),.map q2]
abbrev wst(fl:List Fi)(nn va:Bool)(br:List I)(ms:SM)(me:EM):List b9:=[wbx fl nn va br 1 2 3,smO ms,emO me,m0 br.length]
structure WAt(σ:List b9)(w q1 q2 t:Nat)(fl:List Fi)(nn va:Bool)(br:List I)(ms:SM)(me:EM):Prop where
 hw:σ[w]?=some (wbx fl nn va br q1 q2 t)
 hs:σ[q1]?=some (smO ms)
 he:σ[q2]?=some (emO me)
 ht:σ[t]?=some (m0 br.length)
 nd:b51 [w,q1,q2,t]
theorem a1s{b c d:Nat}(h:a≠b/\a≠c/\a≠d/\b≠c/\b≠d/\c≠d):b51 [a,b,c,d]:=λi j k h1 h2=>by
 obtain⟨h3,h4,h5,h6,h7,h8⟩:=h
 rcases i with _|_|_|_|i<;>rcases j with _|_|_|_|j<;>simp at h1 h2<;>omega
theorem b5b{t p1 p2 u:Nat}(h1:R q1 p1)(h2:R q2 p2)(h3:R t u):I7 R (wbx fl nn va br q1 q2 t) (wbx fl nn va br p1 p2 u):=
 .box (.cons (.pure (D9 _ _)) (.cons (.pure (.val _)) (.cons (.map h1) (.cons (by
  refine .list O (λi r r' h1 h2=>by rw[h1]at h2;injection h2 with h2;rw[h2]) (λi j r r' c c' h1 h2 h3 h4=>?_) ?_
  .rw [h1]at h2;injection h2 with h2;subst h2;rw[h3]at h4;injection h4 with h4;subst h4
   obtain⟨y,_,rfl⟩:=D6.1 (n_3 h1);have hm:=n_3 h3;simp[scv]at hm;subst hm;exact .pure (.val _)
  .cases hb:br.length with
   |zero=>exact .inl ⟨O,O⟩
   |succ m=>exact .inr ⟨t,u,O,O,h3⟩) (.cons (.map h2) .nil)))))
theorem b6v{t:Nat}(h1:q1<L)(h2:q2<L)(h3:t<L):F7 L (wbx fl nn va br q1 q2 t):=A3 ⟨Y8 _ _ _,.val _,.map h1,.list (λi j r c h h'=>by
 obtain⟨y,_,rfl⟩:=D6.1 (n_3 h);have hm:=n_3 h';simp[scv]at hm;subst hm;exact .val _) (λk hk=>by
  cases hb:br.length with
  |zero=>rw[hb]at hk;cases hk
  |succ m=>rw[hb]at hk;injection hk with hk;omega),.map h2,J⟩
theorem b6K(n:Nat)(m:SM):F7 n (smO m):=c06 b0z a7B n m
theorem b5Q(n:Nat)(m:EM):F7 n (emO m):=c06 Nm.pure En.pure n m
theorem a3q(gp:τ=wbx fl nn va br 1 2 3::smO ms::emO me::m0 br.length::rest)(hc:C3 4 [0,1,2,3] c c'):F0 4 τ (.ret c) (.ret c') (wst fl nn va br ms me):=by
 subst gp;exact⟨[0,1,2,3],O,O,.ret hc,.inr ⟨_,O,.same O a2E⟩,.inr ⟨_,O,.same O X4⟩,.inr ⟨_,O,.same O Y2⟩,.inr ⟨_,O,.same O B0⟩,J⟩
theorem b9X{w t:Nat}(h:WAt σ w q1 q2 t fl nn va br ms me):∀(i k:Nat) (ob:b9),[w,q1,q2,t][i]?=some k->(wst fl nn va br ms me)[i]?=some ob->∃aL,[wbx fl nn va br q1 q2 t,smO ms,emO me,m0 br.length][i]?=some aL/\σ[k]?=some aL/\I7 (λi k=>[w,q1,q2,t][i]?=some k) ob aL:=λi k ob h1 h2=>by
 rcases i with _|_|_|_|i
 .injection h1 with h1;injection h2 with h2;subst h1 h2;exact⟨_,O,h.hw,b5b O O O⟩
 .injection h1 with h1;injection h2 with h2;subst h1 h2;exact⟨_,O,h.hs,a8Q b0z a7B _⟩
 .injection h1 with h1;injection h2 with h2;subst h1 h2;exact⟨_,O,h.he,a8Q Nm.pure En.pure _⟩
 .injection h1 with h1;injection h2 with h2;subst h1 h2;exact⟨_,O,h.ht,a15 _⟩
 .cases h1
theorem e3e{f:FuncId}{c:α->CV}(ap:∀a∈args,p9 a)(hc:∀a,p9 (c a))
 (h:b8 CC f (.ptr 0 0::args) (wst fl nn va br ms me) λr τ=>∃a,F0 4 τ r (.ret (c a)) (wst fl nn va br ms me)/\P a){σ:List b9}{w q1 q2 t:Nat}(ao:WAt σ w q1 q2 t fl nn va br ms me):b8 CC f (.ptr w 0::args) σ λr τ=>∃a,r= .ret (c a)/\τ=σ/\P a:=
 a2k [w,q1,q2,t] hCC O ao.nd (b9X ao) (.cons (.ptr O) (H9 ap)) (λa _=>hc a) (K2 hCC (h.mono λ_ _ ⟨a,h1,h2⟩=>⟨_,_,h1,a,O,O,h2⟩))
theorem b3y{f:FuncId}(ap:∀a∈args,p9 a)(hc:p9 c)
 (h:b8 CC f (.ptr 0 0::args) (wst fl nn va br ms me) λr τ=>F0 4 τ r (.ret c) (wst fl nn va br ms me)){σ:List b9}{w q1 q2 t:Nat}(ao:WAt σ w q1 q2 t fl nn va br ms me):b8 CC f (.ptr w 0::args) σ λr τ=>r= .ret c/\τ=σ:=
 (e3e (α:=Unit) (c:=λ_=>c) (P:=λ_=>True) ap (λ_=>hc) (h.mono λ_ _ hh=>⟨(),hh,J⟩) ao).mono λ_ _ ⟨_,h1,h2,_⟩=>⟨h1,h2⟩
def a0l(me:EM)(x:En):EM:=L5 me (C0 x.k x.p x.o) (match glk me (C0 x.k x.p x.o)with|some f=>{f with ct:=f.ct+1} |none=>x)
def B3(va:Bool)(me:EM)(k:Int)(p o:I):En:=if va=true then(match glk me (C0 k p o)with|some x=>x|none=>⟨(C0 k p o).p,o,k,[],0,0⟩)else En.z
def E9(fl:List Fi)(s:I):Option I:=(fl.find? λf=>decide (f.p=s)).map Fi.b
theorem b1o{l:List Fi}{v:Fi}(h:l[i]?=some v)(s:I):E9 (l.drop i) s=if v.p=s then some v.b else E9 (l.drop (i+1)) s:=by
 obtain⟨af,rfl⟩:=n_2.1 h;rw[Y0 af];unfold E9;rw[List.find?_cons];by_cases hh:l[i].p=s
 .simp [hh]
 .simp [hh]
theorem c61(fl:List Fi)(nn va:Bool)(br:List I)(ms:SM)(me:EM)(x:En)(cw:∀k e,glk me k=some e->0<=e.ct/\e.ct<=1000000):b8 CC 81 [.ptr 0 0,.agg x.cells] (wst fl nn va br ms me) λr τ=>F0 4 τ r (.ret (.tup [])) (wst fl nn va br ms (a0l me x)):=by
 refine cO Tryz.func81 ?_;refine z_8 ?_;refine a7E ?_;refine a75 ?_;refine a9v ?_;refine a9v ?_;refine yc O Tryz.call106 E7 (b9H x.k x.p x.o _) ?_;refine d8R ?_;refine a56 ?_;refine d7v ?_;refine a7n ?_;refine chf O (c8 O b2v) ?_;refine chf O (c8 O b2C) ?_;refine chf O (c8 O b4j) ?_;refine chf O (c8 O e2S) ?_;refine chf O S8 ?_;refine chf O a8w ?_;refine chf O a8w ?_;refine H4 ?_;refine B6 O O O (o6 O a1q O j4 ?_);refine⟨⟨D7,a0I,(by exact c8 O b2v),(by exact c8 O b2C),(by exact c8 O b4j),(by exact c8 O e2S),D7,a2G,a2G,J⟩,?_⟩;refine d7s ?_;refine b0f ?_;refine z_2 ?_;refine p7 ?_;refine cC ?_ ?_<;>intro h1
 .obtain ⟨e,he⟩:∃e,glk me (C0 x.k x.p x.o)=some e:=b1Y.1 h1;have aM:=cw _ _ he;rw[he];have hle2:0<=((some e).getD En.z).ct/\((some e).getD En.z).ct<=1000000:=aM;refine z_0 ?_;refine cY a1A ?_;refine c8l ?_;refine C2 ?_;refine a75 ?_;refine cY o7 ?_;refine cY c3W ?_;refine cD (j1 O J J O j2 t_1 (.inl O) O O (nb O) ?_);refine p7 ?_;refine cW 6 ?_;refine a2W ?_;refine hY b2v ?_;refine hY b2C ?_;refine hY b4j ?_;refine hY a1A ?_;refine a29 ?_;refine cD (k8 (vc:=vcE) (l:=me) (a:=(C0 x.k x.p x.o)) (b:={e with ct:=e.ct+1}) d6u (.inl rfl) J J trivial rfl rfl rfl b79 rfl ?_);refine p7 ?_;exact⟨_,rE0,(by have ha:a0l me x=L5 me (C0 x.k x.p x.o) {e with ct:=e.ct+1}:=(by rw[a0l,he]);exact a3q (by rw[ha];rfl) (.old (Old.tup (λi c h=>by cases h))))⟩
 .have he:glk me (C0 x.k x.p x.o)=none:=D h1;refine w9 ?_;refine cW 6 ?_;refine a2W ?_;refine hY b2v ?_;refine hY b2C ?_;refine hY b4j ?_;refine hY a1A ?_;refine a29 ?_;refine cD (k8 (vc:=vcE) (l:=me) (a:=(C0 x.k x.p x.o)) (b:=x) d6u (.inl O) J J trivial O O O b79 O ?_);refine p7 ?_;exact⟨_,rE0,(by have ha:a0l me x=L5 me (C0 x.k x.p x.o) x:=(by rw[a0l,he]);exact a3q (by rw[ha];rfl) (.old (Old.tup (λi c h=>by cases h))))⟩
theorem c8u(fl:List Fi)(nn va:Bool)(br:List I)(ms:SM)(me:EM)(k:Int)(p o:I):b8 CC 82 [.ptr 0 0,iv k,(sv p),(sv o)] (wst fl nn va br ms me) λr τ=>F0 4 τ r (.ret (.agg (B3 va me k p o).cells)) (wst fl nn va br ms me):=by
 refine cO Tryz.func82 ?_;refine z_0 ?_;refine cD (o6 O a1q O j4 ?_);refine a56 ?_;refine a8t ?_;refine cY d3B ?_;refine cY a8A ?_;refine b2y ?_;refine cC ?_ ?_<;>intro h1
 .have hv:va=false:=D h1;refine z_0 ?_;refine cY d6Y ?_;refine c8l ?_;refine c6 ?_;exact⟨_,B1 O c3x,(by rw[B3,W (by rw[hv];decide)];exact a3q O (.old (c:=.agg En.z.cells) (En.pure _).old))⟩
 .have hv:va=true:=D h1;refine w9 ?_;refine b1P ?_;refine yc O Tryz.call106 E7 (b9H k p o _) ?_;refine d8R ?_;refine a56 ?_;refine d7v ?_;refine a7n ?_;refine chf O (c8 O b2v) ?_;refine chf O (c8 O b2C) ?_;refine chf O (c8 O b4j) ?_;refine chf O (c8 O e2o) ?_;refine chf O S8 ?_;refine chf O a8w ?_;refine chf O a8w ?_;refine H4 ?_;refine B6 O O O (o6 O a1q O j4 ?_);refine⟨⟨D7,a0I,(by exact c8 O b2v),(by exact c8 O b2C),(by exact c8 O b4j),(by exact c8 O e2o),D7,a2G,a2G,J⟩,?_⟩;refine d7s ?_;refine b0f ?_;refine z_2 ?_;refine p7 ?_;refine cC ?_ ?_<;>intro h2
  .obtain ⟨e,he⟩:∃e,glk me (C0 k p o)=some e:=b1Y.1 h2;rw[he];refine z_0 ?_;refine cY a1A ?_;refine c8l ?_;refine c6 ?_;exact⟨_,B1 O c3x,(by rw[B3,Q hv,he];exact a3q O (.old (c:=.agg e.cells) (En.pure _).old))⟩
  .have he:glk me (C0 k p o)=none:=D h2;refine w9 ?_;refine z_0 ?_;refine cY (j3 O J O d2b O t_0 H) ?_;refine cY M6 ?_;refine cY D2 ?_;refine cY D2 ?_;refine cY e22 ?_;refine c8l ?_;refine c6 ?_;exact⟨_,B1 O c3x,(by rw[B3,Q hv,he];exact a3q O (.old (c:=.agg (⟨(C0 k p o).p,o,k,[],0,0⟩:En).cells) (En.pure _).old))⟩
theorem c8F(fl:List Fi)(nn va:Bool)(br:List I)(ms:SM)(me:EM)(s:I)(bK:fl.length<=1000000):b8 CC 129 [.ptr 0 0,(sv s)] (wst fl nn va br ms me) λr τ=>F0 4 τ r (.ret (.tup [sv ((E9 fl s).getD []),.val (.bool (E9 fl s).isSome)])) (wst fl nn va br ms me):=by
 refine qO Tryz.func129 ?_;refine qY a08 ?_;refine o4 hCC (α:=Nat) (λi=>[(1,(sv s)),(12,(.list (fl.map Fi.cv) nn none)),(13,iv fl.length),(14,iv i)]) (λ_=>(wst fl nn va br ms me)) (λi=>i<=fl.length/\E9 fl s=E9 (fl.drop i) s) (λi=>fl.length -i) 0 ⟨n_5 _,O⟩ tu_ (am:=[]) O B5 uz_ ?_;intro i ⟨hi,hr⟩;refine qk (qC ?_ ?_)<;> intro h1
 .have af:(i:Int)<fl.length:=D h1;obtain⟨y,hb⟩:=gx_ fl i;rw[b1o hb]at hr;refine b3I ?_;refine qC ?_ ?_<;>intro h2
  .have u2:y.p=s:=D h2;rw[Q u2]at hr;refine c6 ?_;exact⟨_,r8 (rs:=[.tmp 4,.tmp 5]) (cs:=[_,_]) O a0d (n_4 O),(by rw[hr];exact a3q O (.old (c:=.tup [sv y.b,.val (.bool true)]) (p9.old (.tup (λc hc=>by simp at hc;rcases hc with rfl|rfl<;>exact .val _)))))⟩
  .have u2:¬y.p=s:=D h2;rw[W u2]at hr;exact b5O
 .have aH:fl.length<=i:=sm_ h1;rw[Y4 aH]at hr;refine a0i ?_;exact⟨_,r8 (rs:=[.tmp 4,.tmp 5]) (cs:=[_,_]) O a0d (n_4 O),(by rw[hr];exact a3q O (.old (c:=.tup [sv [],.val (.bool false)]) (p9.old (.tup (λc hc=>by simp at hc;rcases hc with rfl|rfl<;>exact .val _)))))⟩
theorem a63(l:List Fi)(nn:Bool)(σ:List b9):b8 CC 41 [.agg (A0 l nn)] σ λr aa=>r= .ret (iv (C7 l))/\aa=σ:=by
 refine b8.anyw hCC pu_ pu_ (c7 (qO Tryz.func41 ?_)) σ;refine qD (H3 O J j2 j4 ?_);refine qY a08 ?_;refine qC ?_ ?_<;>intro h1
 .have aj:64<l.length:=sm_ h1;exact d7z
 .have aj:¬64<l.length:=sm_ h1;refine qY a08 ?_;refine o4 hCC (α:=Nat) (λi=>[(1,.ptr 0 0),(10,(.list (l.map Fi.cv) nn none)),(11,iv l.length),(12,iv i)]) (λ_=>[.box (A0 l nn)]) (λi=>i<=l.length/\C7 l=rvE (prv l i) (l.drop i)) (λi=>l.length -i) 0 ⟨n_5 _,by rw[C7,W aj];rfl⟩ tu_ (am:=[]) O B5 uz_ ?_;intro i ⟨hi,hr⟩;refine qk (qC ?_ ?_)<;> intro h2
  .have af:(i:Int)<l.length:=D h2;obtain⟨y,hb⟩:=gx_ l i;obtain⟨p,hp⟩:=c1S (l:=l) (i:=i) G;have gL:0<i->l[i-1]?=some p:=λh=>(hp h).2;rw[b9R hb]at hr;refine b9y ?_;refine qY (c5 O d0p ⟨J,J⟩ (a8I y.p _) O) ?_;refine qC ?_ ?_<;>intro h3
   .have u3:F8 y.p=false:=D h3;have us:J6 (prv l i) y=6:=by rw[J6,Q u3]
    rw[us]at hr;exact b66
   .have u3:¬F8 y.p=false:=D h3;refine cW 14 ?_;refine hY D2 ?_;refine hY a0c ?_;refine hY D2 ?_;refine c5p ?_;refine c3q ?_;refine c31 ?_;refine c27 ?_;refine O1 O O J O b2c ?_;refine hY R4 ?_;refine a0T ?_;refine qC ?_ ?_<;>intro h4
    .have u4:((prv l i).any λg=>decide (y.p=g.p))=true:=by rw[a05 gL];exact h4
     have us:J6 (prv l i) y=10:=by rw[J6,W u3,Q u4]
     rw[us]at hr;exact b66
    .have u4:¬((prv l i).any λg=>decide (y.p=g.p))=true:=by rw[a05 gL];simpa using h4
     refine cW 14 ?_;refine hY D2 ?_;refine hY a0c ?_;refine hY D2 ?_;refine c5p ?_;refine c3q ?_;refine c31 ?_;refine c27 ?_;refine d8K ?_;refine a0T ?_;refine qC ?_ ?_<;>intro h5
     .have u5:((prv l i).any λg=>Op.bytesLess y.p g.p)=true:=by rw[a05 gL];exact h5
      have us:J6 (prv l i) y=6:=by rw[J6,W u3,W u4,Q u5]
      rw[us]at hr;exact b66
     .have u5:¬((prv l i).any λg=>Op.bytesLess y.p g.p)=true:=by rw[a05 gL];simpa using h5
      refine qY S4 ?_;refine qC ?_ ?_<;>intro h6
      .have u6:16384<y.b.length:=sm_ h6;have us:J6 (prv l i) y=2:=by rw[J6,W u3,W u4,W u5,Q u6]
       rw[us]at hr;exact b66
      .have u6:¬16384<y.b.length:=sm_ h6;have us:J6 (prv l i) y=0:=by rw[J6,W u3,W u4,W u5,W u6]
       rw[us,Q O]at hr;exact b5O
  .refine a0i ?_;exact⟨_,rE1,_,_,O,O,B4 (by rw[hr,Y4 (sm_ h2)];rfl)⟩
theorem c6I(s:I):((F8 s&&decide ((s.length:Int) > 4))&&decide (((s.take s.length).drop (s.length -4))=[46,115,114,99]))=a4v s:=by
 rw[a4v,b12,a57];by_cases h:(s.length:Int) > 4
 .have h4:([46,115,114,99]:I).length=4:=O;have h5:decide ((4:Nat)<=s.length)=true:=a4a G;rw[c1X,h4,h5,b1k]
 .rw [a3U h];rfl
theorem b2U(s:I)(hs:s.length<=1000000000)(σ:List b9):b8 CC 118 [(sv s)] σ λr aa=>r= .ret (.val (.bool (a4v s)))/\aa=σ:=by
 refine b8.anyw hCC pu_ pu_ (c7 (qO Tryz.func118 ?_)) σ;refine qY (c5 O d0p ⟨J,J⟩ (a8I s _) O) ?_;refine a7C ?_;refine a4w ?_;refine a4A ?_;refine qG c5g ?_;refine qG e0m ?_;refine qG (λhg=>K7 (a:=(s.length -4)) O hg O t_5 ⟨hg,_,_,O,by first|omega|(simp at hg;omega),by first|omega|(simp at hg;omega)⟩ O (sm_ hg) (sm_ hg)) ?_;refine qG b4k ?_;refine a9W ?_;exact⟨_,rE1,_,_,O,O,j6 (c6I _)⟩
theorem c5B(l:List Fi)(nn:Bool)(p:I)(hl:l.length<=1000000)(σ:List b9):b8 CC 89 [.agg (A0 l nn),(sv p)] σ λr aa=>r= .ret (.tup [sv ((if C7 l=0 then E9 l p else none).getD []),.val (.bool (if C7 l=0 then E9 l p else none).isSome)])/\aa=σ:=by
 refine b8.anyw hCC pu_ pu_ (c7 (qO Tryz.func89 ?_)) σ;refine qD (H3 O J j2 j4 ?_);refine qY (c5 O d0X ⟨J,J⟩ (a63 l nn _) O) ?_;refine qC ?_ ?_<;>intro h1
 .have h0:¬C7 l=0:=D h1;refine c6 ?_;exact⟨_,r8 (rs:=[.tmp 4,.tmp 5]) (cs:=[_,_]) O a0d (n_4 O),_,_,O,O,(by rw[W h0];exact .tups ⟨.old (.val _),.old (.val _),J⟩)⟩
 .have h0:C7 l=0:=D h1;refine qY a08 ?_;refine o4 hCC (α:=Nat) (λi=>[(1,(sv p)),(12,(.list (l.map Fi.cv) nn none)),(13,iv l.length),(14,iv i)]) (λ_=>[.box (A0 l nn)]) (λi=>i<=l.length/\E9 l p=E9 (l.drop i) p) (λi=>l.length -i) 0 ⟨n_5 _,O⟩ tu_ (am:=[]) O B5 uz_ ?_;intro i ⟨hi,hr⟩;refine qk (qC ?_ ?_)<;> intro h2
  .have af:(i:Int)<l.length:=D h2;obtain⟨y,hb⟩:=gx_ l i;rw[b1o hb]at hr;refine b3I ?_;refine qC ?_ ?_<;>intro h3
   .have u2:y.p=p:=D h3;rw[Q u2]at hr;refine c6 ?_;exact⟨_,r8 (rs:=[.tmp 4,.tmp 5]) (cs:=[_,_]) O a0d (n_4 O),_,_,O,O,(by rw[Q h0,hr];exact .tups ⟨.old (.val _),.old (.val _),J⟩)⟩
   .have u2:¬y.p=p:=D h3;rw[W u2]at hr;exact b5O
  .have aH:l.length<=i:=sm_ h2;rw[Y4 aH]at hr;refine a0i ?_;exact⟨_,r8 (rs:=[.tmp 4,.tmp 5]) (cs:=[_,_]) O a0d (n_4 O),_,_,O,O,(by rw[Q h0,hr];exact .tups ⟨.old (.val _),.old (.val _),J⟩)⟩
def tkE(e:Int)(m s:Nat):Option Nat:=if e=0 then F1 m s else none
def o5(e:Int)(m:Nat):b9:=if e=0 then m0 m else .dead
abbrev rbx(T:List Tok)(n:Nat)(at_ e:Int)(ps:List I)(b:List Ex)(s:Nat):b9:=.box [.list (T.map Tok.cv) true none,iv n,iv at_,iv e,.list (ps.map scv) (gnn ps.length) none,.list (b.map Ex.cv) (gnn b.length) (tkE e b.length s),.list [] false none]
abbrev rst(T:List Tok)(n:Nat)(at_ e:Int)(ps:List I)(b:List Ex):List b9:=[rbx T n at_ e ps b 1,o5 e b.length]
abbrev a61(T:List Tok)(n:Nat)(at_ e:Int)(ps:List I)(b:List Ex):List b9:=[rbx T n at_ e ps b 2,.dead,o5 e b.length]
theorem c7k{s:Nat}(h:R s s'):Q7 R (.list (b.map Ex.cv) (gnn b.length) (tkE e b.length s)) (.list (b.map Ex.cv) (gnn b.length) (tkE e b.length s')):=by
 refine .list O (λi r r' h1 h2=>by rw[h1]at h2;injection h2 with h2;rw[h2]) (λi j r r' c c' h1 h2 h3 h4=>?_) ?_
 .rw [h1]at h2;injection h2 with h2;subst h2;rw[h3]at h4;injection h4 with h4;subst h4
  exact .pure (C6 (f:=Ex.cv) (λa=>(Ex.pure a).all) _ r (n_3 h1) c (n_3 h3))
 .unfold tkE
  split
  .cases hb:b.length with
   |zero=>exact .inl ⟨O,O⟩
   |succ m=>exact .inr ⟨s,s',O,O,h⟩
  .exact .inl ⟨O,O⟩
theorem a7F{s:Nat}(h:R s s'):I7 R (rbx T n at_ e ps b s) (rbx T n at_ e ps b s'):=
 .box (.cons (.pure (a3F _ _)) (.cons (.pure (.val _)) (.cons (.pure (.val _)) (.cons (.pure (.val _)) (.cons (.pure (F2 _ _)) (.cons (c7k h) (.cons (.pure (a3n [] false)) .nil)))))))
theorem a4Z(e:Int)(m:Nat):I7 R (o5 e m) (o5 e m):=by
 unfold o5
 split
 .exact a15 m
 .exact .dead
def RAt(σ:List b9)(q s:Nat)(T:List Tok)(n:Nat)(at_ e:Int)(ps:List I)(b:List Ex):Prop:=σ[q]?=some (rbx T n at_ e ps b s)/\σ[s]?=some (o5 e b.length)/\q≠s
theorem a87{f:FuncId}{c:α->CV}{A E:α->Int}{g:α->Bool}(ap:∀a∈args,p9 a)(hc:∀a,p9 (c a))
 (h:b8 CC f (.ptr 0 0::args) (rst T n at_ e ps b) λr τ=>∃a,F0 2 τ r (.ret (c a)) (if g a=true then a61 T (N a) (A a) (E a) ps (B a)else rst T (N a) (A a) (E a) ps (B a))/\P a){σ:List b9}{q s:Nat}(ao:RAt σ q s T n at_ e ps b):
 b8 CC f (.ptr q 0::args) σ λr τ=>∃a,r= .ret (c a)/\τ=(if g a=true then(σ.set q (rbx T (N a) (A a) (E a) ps (B a) σ.length)).set s .dead++[o5 (E a) (B a).length]else(σ.set q (rbx T (N a) (A a) (E a) ps (B a) s)).set s (o5 (E a) (B a).length))/\P a:=by
 obtain⟨h1,h2,h3⟩:=ao;have hq:=(n_2.1 h1).1;have hs:=(n_2.1 h2).1;have h':b8 CC f (.ptr 0 0::args) (rst T n at_ e ps b) λr τ=>∃a,r= .ret (c a)/\τ=(if g a=true then a61 T (N a) (A a) (E a) ps (B a)else rst T (N a) (A a) (E a) ps (B a))/\P a:=
  K2 hCC (h.mono λr τ ⟨a,k1,k2⟩=>⟨_,_,k1,a,O,O,k2⟩)
 refine I5 [q,s] hCC O (λi j k g1 g2=>?_) (λi k ob g1 g2=>?_) (.cons (.ptr O) (H9 ap)) h' λr τ hk=>?_
 .rcases i with _|_|i<;>rcases j with _|_|j<;>simp at g1 g2<;>first|rfl|(exfalso;exact h3 (g1.trans g2.symm))|(exfalso;exact h3 (g2.trans g1.symm))
 .rcases i with _|_|i
  .simp at g1 g2;subst g1 g2;exact⟨_,h1,a7F O⟩
  .simp at g1 g2;subst g1 g2;exact⟨_,h2,a4Z _ _⟩
  .simp at g1
 .obtain ⟨a,rfl,rfl,hp⟩:=hk;refine⟨by split<;>simp,.ret (c a),(if g a=true then(σ.set q (rbx T (N a) (A a) (E a) ps (B a) σ.length)).set s .dead++[o5 (E a) (B a).length]else(σ.set q (rbx T (N a) (A a) (E a) ps (B a) s)).set s (o5 (E a) (B a).length)),.ret (.pure (hc a)),by split<;>simp,λk hk bm=>?_,λi k x ha hx=>?_,a,O,O,hp⟩
  .have n1:q≠k:=λe=>bm a2d;have n2:s≠k:=λe=>bm a2d
   split
   .rw [T7 (D hk)];simp[n1,n2]
   .simp [n1,n2]
  .split at hx<;>rename_i hg
   .rcases ha with ha|⟨ha,rfl⟩
    .rcases i with _|_|i
     .simp at ha hx;subst ha hx;refine⟨rbx T (N a) (A a) (E a) ps (B a) σ.length,?_,a7F (.inr ⟨U,U⟩)⟩;rw[Q hg,T7 (D hq),a0S h3.symm];simp[hq]
     .simp at ha hx;subst ha hx;refine⟨.dead,?_,.dead⟩;rw[Q hg,T7 (D hs)];simp[hs]
     .simp at ha
    .rcases i with _|_|_|i
     .simp at ha
     .simp at ha
     .simp at hx;subst hx;refine⟨o5 (E a) (B a).length,?_,a4Z _ _⟩;rw[Q hg,a1c U];simp
     .simp at hx
   .rcases ha with ha|⟨ha,rfl⟩
    .rcases i with _|_|i
     .simp at ha hx;subst ha hx;refine⟨rbx T (N a) (A a) (E a) ps (B a) s,?_,a7F (.inl O)⟩;rw[W hg,a0S h3.symm];simp[hq]
     .simp at ha hx;subst ha hx;refine⟨o5 (E a) (B a).length,?_,a4Z _ _⟩;rw[W hg];simp[hs]
     .simp at ha
    .rcases i with _|_|i
     .simp at ha
     .simp at ha
     .simp at hx
def Ok{α:Type}(e:Int)(o:Option α)(e':Int)(y:α):Prop:=(e=0->(o=some y/\e'=0)\/(o=none/\e'≠0))/\(e≠0->e'≠0)
theorem Ok.bind{e1 e2:Int}{o:Option α}{y:α}{f:α->Option β}{z:β}(h:Ok e o e1 y)(k:Ok e1 (f y) e2 z):Ok e (o.bind f) e2 z:=by
 refine⟨λh0=>?_,λh0=>k.2 (h.2 h0)⟩
 rcases h.1 h0 with⟨rfl,h1⟩|⟨rfl,h1⟩
 .exact k.1 h1
 .exact .inr ⟨O,k.2 h1⟩
theorem Ok.none{e':Int}{y:α}(h:e'≠0):Ok e (Option.none:Option α) e' y:=⟨λ_=>.inr ⟨O,h⟩,λ_=>h⟩
theorem Ok.some{y:α}:Ok e (Option.some y) e y:=⟨λh=>.inl ⟨O,h⟩,λh=>h⟩
theorem Ok.dead{e':Int}{o:Option α}{y:α}(h:e≠0)(h':e'≠0):Ok e o e' y:=⟨λh0=>absurd h0 h,λ_=>h'⟩
theorem d5b{s:Nat}(h:s<L):Old L (.list (b.map Ex.cv) (gnn b.length) (tkE e b.length s)):=
 .list (λi j r c h1 h2=>(C6 (f:=Ex.cv) (λa=>(Ex.pure a).all) _ r (n_3 h1) c (n_3 h2)).old) (λk hk=>by
  unfold tkE at hk;split at hk
  .cases hb:b.length with
   |zero=>rw[hb]at hk;cases hk
   |succ m=>rw[hb]at hk;injection hk with hk;omega
  .cases hk)
theorem b1M(n:Nat)(e:Int)(m:Nat):F7 n (o5 e m):=by
 unfold o5
 split
 .exact a40 _ _
 .trivial
theorem b6F{s:Nat}(h:s<L):F7 L (rbx T n at_ e ps b s):=A3 ⟨W8 _ _ _,.val _,.val _,.val _,C4 _ _ _,d5b h,N9 _ [] false,J⟩
theorem a2p(gp:τ=rbx T n at_ e ps b 1::o5 e b.length::rest)(hc:Old 2 c):F0 2 τ (.ret c) (.ret c) (rst T n at_ e ps b):=by
 subst gp;exact⟨[0,1],O,O,.ret (.old hc),.inr ⟨_,O,.same O (b6F H)⟩,.inr ⟨_,O,.same O W5⟩,J⟩
theorem d9w{tok:Option Nat}(he:e≠0)(h0:τ[0]?=some (.box [.list (T.map Tok.cv) true none,iv n,iv at_,iv e,.list (ps.map scv) (gnn ps.length) none,.list (b.map Ex.cv) (gnn b.length) tok,.list [] false none]))(hc:Old 2 c):F0 2 τ (.ret c) (.ret c) (rst T n at_ e ps b):=by
 have ht:∀m s,tkE e m s=none:=λm s=>W he;have hp:o5 e b.length = .dead:=W he;refine⟨[0,1],O,O,.ret (.old hc),.inr ⟨_,h0,.box ⟨.old a1b,.old (.val _),.old (.val _),.old (.val _),.old N4,.list (λr hr c hc=>(C6 (f:=Ex.cv) (λa=>(Ex.pure a).all) _ r hr c hc).old) (λj hj=>by rw[ht]at hj;cases hj),.old a3d,J⟩⟩,.inl hp,J⟩
theorem d4I{f:FuncId}(ap:∀a∈args,p9 a)(hc:p9 c)
 (h:b8 CC f (.ptr 0 0::args) (rst T n at_ e ps b) λr τ=>F0 2 τ r (.ret c) (rst T n at_ e ps b)){σ:List b9}{q s:Nat}(ao:RAt σ q s T n at_ e ps b):b8 CC f (.ptr q 0::args) σ λr τ=>r= .ret c/\τ=σ:=by
 refine(a87 (α:=Unit) (c:=λ_=>c) (N:=λ_=>n) (A:=λ_=>at_) (E:=λ_=>e) (B:=λ_=>b) (g:=λ_=>false) (P:=λ_=>True) ap (λ_=>hc) (h.mono λr τ hh=>⟨(),hh,J⟩) ao).mono λr τ hh=>?_;obtain⟨_,h1,h2,_⟩:=hh;refine⟨h1,h2.trans ?_⟩;show(σ.set q _).set s _=σ;rw[a1Z ao.1,a1Z ao.2.1]
abbrev rS0(σ:List b9)(q s:Nat)(T:List Tok)(n:Nat)(at_ e:Int)(ps:List I)(b:List Ex):List b9:=(σ.set q (rbx T n at_ e ps b s)).set s (o5 e b.length)
theorem Z3{f:FuncId}{c:α->CV}{A E:α->Int}(ap:∀a∈args,p9 a)(hc:∀a,p9 (c a))
 (h:b8 CC f (.ptr 0 0::args) (rst T n at_ e ps b) λr τ=>∃a,F0 2 τ r (.ret (c a)) (rst T (N a) (A a) (E a) ps b)/\P a){σ:List b9}{q s:Nat}(ao:RAt σ q s T n at_ e ps b):
 b8 CC f (.ptr q 0::args) σ λr τ=>∃a,r= .ret (c a)/\τ=rS0 σ q s T (N a) (A a) (E a) ps b/\P a:=
 a87 (c:=c) (N:=N) (A:=A) (E:=E) (B:=λ_=>b) (g:=λ_=>false) (P:=P) ap hc (h.mono λ_ _ ⟨a,h1,h2⟩=>⟨a,h1,h2⟩) ao
theorem d5O(T:List Tok)(n:Nat)(at_ e:Int)(ps:List I)(b:List Ex)(_:T.length<=1000000)(hn:n<T.length):b8 CC 175 [.ptr 0 0] (rst T n at_ e ps b) (λr τ=>F0 2 τ r (.ret (.agg (tk T n).cells)) (rst T n at_ e ps b)):=by
 refine qO Tryz.func175 ?_;refine qD (o6 O a3b O j4 ?_);refine b4I ?_;refine hY (j3 O J O b55 O Tryz.sizeOf162 H) ?_;refine hY (j9 O J O Tryz.isAgg162 O O) ?_;refine a2W ?_;refine hY d1t ?_;refine hY a1l ?_;refine d8M ?_;refine a0T ?_;refine z_4 ?_;exact⟨_,B1 O b3F,a2p O (a5Y _ _)⟩
theorem a0v(hT:T.length<=1000000)(hn:n<T.length){s:Nat}(ao:RAt σ q s T n at_ e ps b):b8 CC 175 [.ptr q 0] σ λr τ=>r= .ret (.agg (tk T n).cells)/\τ=σ:=d4I (λ_ h=>by cases h) (a0x _) (d5O T n at_ e ps b hT hn) ao
theorem c8x(T:List Tok)(n:Nat)(at_ e:Int)(ps:List I)(b:List Ex)(x y:Int)(hy:y≠0):b8 CC 174 [.ptr 0 0,iv x,iv y] (rst T n at_ e ps b) (λr τ=>∃a:Int×Int,F0 2 τ r (.ret (.tup [])) (rst T n a.1 a.2 ps b)/\a.2≠0):=by
 refine qO Tryz.func174 ?_;refine qC ?_ ?_<;>intro h1
 .have he:e=0:=D h1;refine qD (j1 O J J O j2 t_1 (.inl O) O O (nb O) ?_);refine qD (j1 O J J O j2 c1J (.inl O) O O (nb O) ?_);exact⟨_,rE0,(by exact⟨(x,y),d9w hy O (.tup λi c h=>by simp at h),hy⟩)⟩
 .have he:e≠0:=D h1;exact⟨_,rE0,(by exact⟨(at_,e),a2p O (.tup λi c h=>by simp at h),he⟩)⟩
theorem Y7(x y:Int)(hy:y≠0){s:Nat}(ao:RAt σ q s T n at_ e ps b):b8 CC 174 [.ptr q 0,iv x,iv y] σ λr τ=>∃a:Int×Int,r= .ret (.tup [])/\τ=rS0 σ q s T n a.1 a.2 ps b/\a.2≠0:=
 Z3 (c:=λ_:Int×Int=>.tup []) (N:=λ_=>n) (A:=λa=>a.1) (E:=λa=>a.2) (λ_ h=>by simp at h;rcases h with rfl|rfl<;>exact .val _) (λ_=>C5 trivial) (c8x T n at_ e ps b x y hy) ao
end Go.Proofs.YtncmhkpnclafkaaGreatDoor
