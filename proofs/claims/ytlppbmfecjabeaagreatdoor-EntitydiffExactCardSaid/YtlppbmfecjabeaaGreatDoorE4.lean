/- Part 4: values without addresses. -/
import Derived.Test.YtlppbmfecjabeaaGreatDoorE3
set_option linter.all false
set_option maxRecDepth 100000
set_option maxHeartbeats 4000000
namespace Go.Proofs.YtlppbmfecjabeaaGreatDoor
open Go Go.Cl
variable {T:List Tok} {i f a np n2 f0 n' B L n3 n1 n7 j:Nat} {e2 e1 e' e3 e5 e4 e6 e7 v:Int} {α:Type} {o:Option α} {y:α} {F:PF} {S ak:List Nat} {u nm:Str} {z:Int × Nat × List Ex} {t:Tok} {fl:List Fi} {b1:List Ex} {nn:Bool}
structure RX where
 x:Int
 n:Nat
 at_:Int
 e:Int
 b:List Ex
abbrev cx (p:PX):Int × Nat × List Ex:=((p.1:Int),p.2.1,p.2.2)
theorem Ok.alive {e:Int} (h:Ok e o e' y) (h0:e'=0):e=0/\o=Option.some y:=by
 by_cases he:e=0
 ·rcases h.1 he with ⟨h1,_⟩ | ⟨_,h1⟩
  ·exact ⟨he,h1⟩
  ·exact absurd h0 h1
 ·exact absurd h0 (h.2 he)
theorem Ok.bindM {γ β:Type} {e:Int} {g:α->γ} {y:γ} {f:α->Option β} {z:β} (h:Ok e (o.map g) e1 y) (k:∀ p,o=Option.some p->g p=y->Ok e1 (f p) e2 z) (kd:e1≠0->e2≠0):Ok e (o.bind f) e2 z:=by
 refine ⟨fun h0=>?_,fun h0=>kd (h.2 h0)⟩
 rcases h.1 h0 with ⟨h1,h2⟩ | ⟨h1,h2⟩
 ·obtain ⟨p,hp,hg⟩:=N6.1 h1;rw [hp];exact (k p hp hg).1 h2
 ·rw [a87.1 h1];exact .inr ⟨rfl,kd h2⟩
def RXP (T:List Tok) (n:Nat) (e:Int) (o:Option PX) (a:RX):Prop:=Ok e (o.map cx) a.e (a.x,a.n,a.b)/\a.n < T.length/\a.b.length<=256/\(a.e=0->n < a.n)/\-1<=a.x/\a.x<=256
def REC (T:List Tok) (ps:List Str) (f:Nat):Prop:=∀ (d n:Nat) (at_ e:Int) (b:List Ex),n < T.length->b.length<=256->d<=33->(e=0->8*(T.length - n)+6<=f)->∀ (σ:List b9) (q s:Nat),RAt σ q s T n at_ e ps b->b8 CC 232 [.ptr q 0,iv d] σ fun r τ=>∃ a:RX,r = .ret (iv a.x)/\τ=rS1 σ q s T a.n a.at_ a.e ps a.b/\RXP T n e ((A1 T ps f).ex d n b) a
def RSC (T:List Tok) (ps:List Str) (f:Nat):Prop:=∀ (d n:Nat) (at_:Int) (b:List Ex),n < T.length->b.length<=256->d<=32->8*(T.length - n)+6<=f+2->∀ (σ:List b9) (q s:Nat),RAt σ q s T n at_ 0 ps b->b8 CC 273 [.ptr q 0,iv d] σ fun r τ=>∃ a:RX,r = .ret (iv a.x)/\τ=rS1 σ q s T a.n a.at_ a.e ps a.b/\RXP T n 0 ((A1 T ps f).bin 2 d n b) a
def RTC (T:List Tok) (ps:List Str) (f:Nat):Prop:=∀ (d n:Nat) (at_:Int) (b:List Ex),n < T.length->b.length<=256->d<=32->8*(T.length - n)+6<=f+3->∀ (σ:List b9) (q s:Nat),RAt σ q s T n at_ 0 ps b->b8 CC 300 [.ptr q 0,iv d] σ fun r τ=>∃ a:RX,r = .ret (iv a.x)/\τ=rS1 σ q s T a.n a.at_ a.e ps a.b/\RXP T n 0 ((A1 T ps f).bin 3 d n b) a
def RFC (T:List Tok) (ps:List Str) (f:Nat):Prop:=∀ (d n:Nat) (at_:Int) (b:List Ex),n < T.length->b.length<=256->d<=32->8*(T.length - n)+1<=f->∀ (σ:List b9) (q s:Nat),RAt σ q s T n at_ 0 ps b->b8 CC 316 [.ptr q 0,iv d] σ fun r τ=>∃ a:RX,r = .ret (iv a.x)/\τ=rS1 σ q s T a.n a.at_ a.e ps a.b/\RXP T n 0 ((A1 T ps f).fac d n b) a
theorem RXP.dead {n m:Nat} {e x at2:Int} {o:Option PX} {b:List Ex} (h:e=0->o=Option.none) (h2:e2≠0) (hm:m < T.length) (hb:b.length<=256) (hx : -1<=x/\x<=256):RXP T n e o ⟨x,m,at2,e2,b⟩:=by
 refine ⟨⟨fun h0=>.inr ⟨by rw [h h0];rfl,h2⟩,fun _=>h2⟩,hm,hb,fun h0=>absurd h0 h2,hx.1,hx.2⟩
theorem a1P {e x:Int} {b b2:List Ex} {y:Ex} {m:Nat} (h:Ok e ((X3 b y).map a9z) e2 (x,b2)):Ok e ((L9 b y m).map cx) e2 (x,m,b2):=by
 have e1:(L9 b y m).map cx=((X3 b y).map a9z).map fun w=>(w.1,m,w.2):=by
  unfold L9;cases X3 b y<;>rfl
 rw [e1];refine ⟨fun h0=>?_,h.2⟩
 rcases h.1 h0 with ⟨h1,h2⟩ | ⟨h1,h2⟩
 ·rw [h1];exact .inl ⟨rfl,h2⟩
 ·rw [h1];exact .inr ⟨rfl,h2⟩
theorem e09 {ps:List Str} {d n:Nat} {b:List Ex}:(A1 T ps (f+1+1)).bin 1 d n b=((A1 T ps (f+1)).bin 2 d n b).bind fun x=>if opS (tk T x.2.1) 1=0 then some x else ((A1 T ps f).bin 2 d (x.2.1+1) x.2.2).bind fun y=>L9 y.2.2 ⟨4,0,opS (tk T x.2.1) 1,[],[(x.1:Int),(y.1:Int)]⟩ y.2.1:=by
 have h:(A1 T ps (f+1+1)).bin 1 d n b=(G7 T ps (A1 T ps (f+1))).bin 1 d n b:=rfl;rw [h];simp only [G7];rw [n_0 de_];rfl
theorem d7K (t:Tok):opS t 1=if isT t 4 [60]=true then 6 else if isT t 4 [61,61]=true then 7 else 0:=by
 by_cases h1:isT t 4 [60]=true
 ·rw [n_1 h1];exact a5b (x:=(6,[60])) de_ (by simpa [opM,isT,F6] using h1)
 ·rw [n_0 h1];by_cases h2:isT t 4 [61,61]=true
  ·rw [n_1 h2];exact a5b (x:=(7,[61,61])) de_ (by simpa [opM,isT,F6] using h2)
  ·rw [n_0 h2];refine b1B fun x hx=>?_;simp only [S0,J5,a7v,or_false] at hx
   rcases hx with rfl | rfl | rfl | rfl | rfl | rfl | rfl<;>simp_all [opM,isT,F6]
theorem U1 {τ:List b9} {n k:Nat} {at_ e:Int} {ps:List Str} {b:List Ex} {c:CV} (h0:τ[0]? = some (rbx T n at_ e ps b k)) (hk:τ[k]? = some (o9 e b.length)) (h2:2<=k) (hc:Old 2 c):E8 2 τ (.ret c) (.ret c) (a6M T n at_ e ps b):=by
 by_cases he:e=0
 ·subst he;exact d1K h0 hk h2 hc
 ·exact a5P he h0 hc
theorem Z8 {b:List Ex} {e:Int} {k p:Nat} (h:ak[p]? = some k):C7 L ak (.list (b.map Ex.cv) (gnn b.length) (tkE e b.length k)) (.list (b.map Ex.cv) (gnn b.length) (tkE e b.length p)):=by
 unfold tkE
 split
 ·exact a7U h
 ·exact .list (fun r hr c hc=>(C4 (f:=Ex.cv) (fun a=>(Ex.pure a).all) _ r hr c hc).old) (fun j hj=>by cases hj)
theorem Ok.bindP {e:Int} {f:α->Option PX} (h:Ok e o e1 y) (k:Ok e1 ((f y).map cx) e2 z):Ok e ((o.bind f).map cx) e2 z:=by
 have h1:(o.bind f).map cx=o.bind fun a=>(f a).map cx:=by cases o<;>rfl
 rw [h1];exact h.bind k
theorem Ok.bindX {e x:Int} {o:Option PX} {f:PX->Option PX} {n:Nat} {b:List Ex} (h:Ok e (o.map cx) e1 (x,n,b)) (k:∀ i:Nat,(i:Int)=x->Ok e1 ((f (i,n,b)).map cx) e2 z) (kd:e1≠0->e2≠0):Ok e ((o.bind f).map cx) e2 z:=by
 have h1:(o.bind f).map cx=o.bind fun a=>(f a).map cx:=by cases o<;>rfl
 rw [h1];refine h.bindM (fun p hp hg=>?_) kd;obtain ⟨i,m,c⟩:=p;obtain ⟨h1,h2,h3⟩:(i:Int)=x/\m=n/\c=b:=by simpa [cx] using hg
 subst h2 h3;exact k i h1
theorem Ok.bindT {e:Int} {o:Option (Tok × Nat)} {f:Tok × Nat->Option PX} {n:Nat} {s:Str} (h:Ok e (o.map fun x=>(x.1.t,x.2)) e1 (s,n)) (k:∀ t:Tok,t.t=s->Ok e1 ((f (t,n)).map cx) e2 z) (kd:e1≠0->e2≠0):Ok e ((o.bind f).map cx) e2 z:=by
 have h1:(o.bind f).map cx=o.bind fun a=>(f a).map cx:=by cases o<;>rfl
 rw [h1];refine h.bindM (fun p hp hg=>?_) kd;obtain ⟨t,m⟩:=p;obtain ⟨h1,h2⟩:t.t=s/\m=n:=sp_ hg;subst h2;exact k t h1
theorem Ok.bindI {e:Int} {o:Option (Tok × Nat)} {f:Tok × Nat->Option PX} {n:Nat} {s:Int} (h:Ok e (o.map fun x=>(x.1.n,x.2)) e1 (s,n)) (k:∀ t:Tok,t.n=s->Ok e1 ((f (t,n)).map cx) e2 z) (kd:e1≠0->e2≠0):Ok e ((o.bind f).map cx) e2 z:=by
 have h1:(o.bind f).map cx=o.bind fun a=>(f a).map cx:=by cases o<;>rfl
 rw [h1];refine h.bindM (fun p hp hg=>?_) kd;obtain ⟨t,m⟩:=p;obtain ⟨h1,h2⟩:t.n=s/\m=n:=sp_ hg;subst h2;exact k t h1
theorem Ok.zero {e:Int} (h:Ok 0 o e y):(e=0/\o=Option.some y)\/(e≠0/\o=Option.none):=by
 rcases h.1 rfl with ⟨h1,h2⟩ | ⟨h1,h2⟩
 ·exact .inl ⟨h2,h1⟩
 ·exact .inr ⟨h2,h1⟩
theorem b47 {o:Option PX} {x:Int} {n:Nat} {b:List Ex} (h:o.map cx=some (x,n,b)):∃ i:Nat,(i:Int)=x/\o=some (i,n,b):=by
 obtain ⟨⟨i,m,c⟩,hp,hg⟩:=N6.1 h;obtain ⟨h1,h2,h3⟩:(i:Int)=x/\m=n/\c=b:=by simpa [cx] using hg
 subst h2 h3;exact ⟨i,h1,hp⟩
theorem b5z {o:Option PX} (h:o.map cx=none):o=none:=a87.1 h
theorem d3z {ps:List Str} {d n:Nat} {b:List Ex} (hd:32 < d):(A1 T ps f).ex d n b=none:=by
 cases f with
 | zero=>rfl
 | succ f=>exact n_1 hd
theorem d9A (h:isT t 4 [60]=false) (h':isT t 4 [61,61]=false):opS t 1=0:=by
 rw [d7K];simp [h,h']
theorem d4j {x1 c:Int} {r:Option PX} (hi:(i:Int)=x1) (h:e1=0->c=0):Ok e1 ((if c=0 then some (i,n1,b1) else r).map cx) e1 (x1,n1,b1):=by
 by_cases he:e1=0
 ·rw [n_1 (h he),<- hi];exact .some
 ·exact .dead he he
theorem S5 {n:Nat} {k:Int} {v:Bool} (h:v=sgB T n 0 k u) (hv:v=false):isT (tk T n) k u=false:=by
 subst hv;simpa [sgB] using h.symm
theorem d1m {ps:List Str} (hc:a0j T ps) (d n:Nat) (at_ e:Int) (b:List Ex) (hn:n < T.length) (hb:b.length<=256) (cc:d<=33) (hx:e=0->∃ f,f0=f+3/\8*(T.length - n)+6<=f+3/\REC T ps (f+2)/\RSC T ps (f+1)/\RSC T ps f):b8 CC 232 [.ptr 0 0,iv d] (rst T n at_ e ps b) (fun r τ=>∃ a:RX,E8 2 τ r (.ret (iv a.x)) (a6M T a.n a.at_ a.e ps a.b)/\RXP T n e ((A1 T ps f0).ex d n b) a):=by
 have hT:=hc.len;have hW:=hc.w;refine qO Tryz.func232 ?_;refine qY b6M ?_;refine qY a4h ?_;refine qC ?_ ?_<;>intro h1
 ·have hd:32 < d:=sm_ h1;refine qD (c4 rfl b0W a2u (a0u _ _ de_ ⟨rfl,rfl,de_⟩) rfl ?_);rintro ⟨x0,y0⟩ bE;dsimp only at bE ⊢;refine qN [rbx T n x0 y0 ps b 1,o9 y0 b.length] rfl (qC ?_ ?_)<;> intro h2
  ·refine c6 ?_;exact ⟨_,rE1,(by exact ⟨⟨0,n,x0,y0,b⟩,a5P bE rfl (.val _),.dead (fun _=>d3z hd) bE hn hb ⟨de_,de_⟩⟩)⟩
  ·exact absurd (show y0=0 by simpa using h2) bE
 ·have hd:¬ 32 < d:=sm_ h1;refine qC ?_ ?_<;>intro h8
  ·have he:e≠0:=sp_ h8;refine c6 ?_;exact ⟨_,rE1,(by exact ⟨⟨0,n,at_,e,b⟩,a5P he rfl (.val _),.dead (fun h0=>absurd h0 he) he hn hb ⟨de_,de_⟩⟩)⟩
  ·obtain rfl:e=0:=sp_ h8;obtain ⟨f,rfl,hf,hE,hS1,hS0⟩:=hx rfl;have af:(A1 T ps (f+3)).ex d n b=(G7 T ps (A1 T ps (f+2))).ex d n b:=rfl;simp only [G7] at af;rw [n_0 hd] at af;refine qD (c4 rfl a91 o6 (Y7 hT hn hW [105,102] ⟨rfl,rfl,de_⟩) rfl ?_);rintro ⟨v8,m8⟩ ⟨dj,hs8,hf8,hm8⟩;dsimp only at dj hs8 hf8 hm8 ⊢;refine qN [rbx T m8 at_ 0 ps b 1,o9 0 b.length] rfl ?_;refine cC ?_ ?_<;>intro h9
   ·have hi:v8=true:=sp_ h9;have hm:=hs8 hi;subst m8;have cQ:=(U8 (dj.symm.trans hi)).2;rw [n_1 cQ] at af;refine qs 1 (qY l9 ?_);refine qD (c4 rfl b8d j1 (hE (d+1) (n+1) at_ 0 b hm8 hb om_ (fun _=>by omega) _ 0 1 ⟨rfl,rfl,de_⟩) rfl ?_);rintro ⟨x1,n1,a1,e1,b1⟩ ⟨k1,y1,w1,z1,l1,u1⟩;dsimp only at k1 y1 w1 z1 l1 u1 ⊢;refine qN [rbx T n1 a1 e1 ps b1 2,.dead,o9 e1 b1.length] rfl ?_;refine N4 (α:=Nat × Int × Int) (fun _=>[(0,.ptr 0 0),(1,iv d),(5,(iv ((tk T n).at_))),(6,iv x1)]) (fun a=>[rbx T a.1 a.2.1 a.2.2 ps b1 2,.dead,o9 a.2.2 b1.length]) (fun a=>Ok e1 (pIs T n1 1 [116,104,101,110]) a.2.2 a.1/\a.1 < T.length) ?_ ?_
    ·
     refine qk (qD (c4 rfl a91 o6 (Y7 hT y1 hW [116,104,101,110] ⟨rfl,rfl,de_⟩) rfl ?_));rintro ⟨v9,m9⟩ ⟨fg,gv,iz,fi⟩;dsimp only at fg gv iz fi ⊢;refine qN [rbx T m9 a1 e1 ps b1 2,.dead,o9 e1 b1.length] rfl (qC ?_ ?_)<;> intro aY
     ·have hw:v9=false:=sp_ aY;refine d6d ?_;rintro ⟨x0,y0⟩ bE;dsimp only at bE ⊢;refine qN [rbx T m9 x0 y0 ps b1 2,.dead,o9 y0 b1.length] rfl ?_;exact ⟨(m9,x0,y0),⟨b0h (fg.symm.trans hw) bE,fi⟩,tu_,rfl⟩
     ·have hw:v9=true:=sp_ aY;exact ⟨(m9,a1,e1),⟨by dsimp only;rw [gv hw];exact b0j (fg.symm.trans hw),fi⟩,tu_,rfl⟩
    ·rintro ⟨n2,a2,e2⟩ E2 ⟨q2,y2⟩;dsimp only at q2 y2 ⊢;have g2:e2=0->n2=n1+1/\e1=0:=fun h0=>⟨P9 (q2.alive h0).2,(q2.alive h0).1⟩;refine qs 1 (qY l9 ?_);refine qD (c4 rfl b8d j1 (hE (d+1) n2 a2 e2 b1 y2 w1 om_ (fun h0=>by have:=g2 h0;have:=z1 this.2;omega) _ 0 2 ⟨rfl,rfl,de_⟩) rfl ?_);rintro ⟨x3,n3,a3,e3,b3⟩ ⟨k3,y3,w3,z3,l3,u3⟩;dsimp only at k3 y3 w3 z3 l3 u3 ⊢;refine qN [rbx T n3 a3 e3 ps b3 3,.dead,.dead,o9 e3 b3.length] rfl ?_;refine N4 (α:=Nat × Int × Int) (fun _=>[(0,.ptr 0 0),(1,iv d),(5,(iv ((tk T n).at_))),(6,iv x1),(7,iv x3)]) (fun a=>[rbx T a.1 a.2.1 a.2.2 ps b3 3,.dead,.dead,o9 a.2.2 b3.length]) (fun a=>Ok e3 (pIs T n3 1 [101,108,115,101]) a.2.2 a.1/\a.1 < T.length) ?_ ?_
     ·
      refine qk (qD (c4 rfl a91 o6 (Y7 hT y3 hW [101,108,115,101] ⟨rfl,rfl,de_⟩) rfl ?_));rintro ⟨v9,m9⟩ ⟨fg,gv,iz,fi⟩;dsimp only at fg gv iz fi ⊢;refine qN [rbx T m9 a3 e3 ps b3 3,.dead,.dead,o9 e3 b3.length] rfl (qC ?_ ?_)<;> intro cw
      ·have hw:v9=false:=sp_ cw;refine d6d ?_;rintro ⟨x0,y0⟩ bE;dsimp only at bE ⊢;refine qN [rbx T m9 x0 y0 ps b3 3,.dead,.dead,o9 y0 b3.length] rfl ?_;exact ⟨(m9,x0,y0),⟨b0h (fg.symm.trans hw) bE,fi⟩,tu_,rfl⟩
      ·have hw:v9=true:=sp_ cw;exact ⟨(m9,a3,e3),⟨by dsimp only;rw [gv hw];exact b0j (fg.symm.trans hw),fi⟩,tu_,rfl⟩
     ·rintro ⟨n4,a4,e4⟩ E4 ⟨q4,y4⟩;dsimp only at q4 y4 ⊢;have g4:e4=0->n4=n3+1/\e3=0:=fun h0=>⟨P9 (q4.alive h0).2,(q4.alive h0).1⟩;refine a4T ?_;refine qD (c4 rfl b8d j1 (hE (d+1) n4 a4 e4 b3 y4 w3 om_ (fun h0=>by have q:=g4 h0;have:=z3 q.2;have q:=g2 (k3.alive q.2).1;have:=z1 q.2;omega) _ 0 3 ⟨rfl,rfl,de_⟩) rfl ?_);rintro ⟨x5,n5,a5,e5,b5⟩ ⟨k5,y5,w5,z5,l5,u5⟩;dsimp only at k5 y5 w5 z5 l5 u5 ⊢;refine qN [rbx T n5 a5 e5 ps b5 4,.dead,.dead,.dead,o9 e5 b5.length] rfl (qY (A8 ([x1,x3,x5].map icv) rfl C8 t_4 t_1 t_8 rfl rfl rfl rfl rfl rfl rfl rfl rfl) ?_);refine qY b2l ?_;refine qD (c4 rfl a4s C8 (O0 w5 ⟨5,0,0,[],[x1,x3,x5]⟩ _ ⟨rfl,rfl,de_⟩) rfl ?_);rintro ⟨x6,a6,e6,b6⟩ ⟨k6,w6,l6,u6⟩;dsimp only at k6 w6 l6 u6 ⊢;refine qN [rbx T n5 a6 e6 ps b6 5,.dead,.dead,.dead,.dead,o9 e6 b6.length] rfl ?_;refine c6 ?_;exact ⟨_,rE1,(by exact ⟨⟨x6,n5,a6,e6,b6⟩,U1 (k:=5) rfl rfl de_ (.val _),⟨by rw [af];exact k1.bindX (fun i hi=>q2.bindP (k3.bindX (fun j hj=>q4.bindP (k5.bindX (fun l hl=>a1P (by rw [hi,hj,hl];exact k6)) k6.2)) fun h=>k6.2 (k5.2 (q4.2 h)))) fun h=>k6.2 (k5.2 (q4.2 (k3.2 (q2.2 h)))),y5,w6,fun h0=>by have h5:=(k6.alive h0).1;have q5:=z5 h5;have q:=g4 (k5.alive h5).1;have:=z3 q.2;have q:=g2 (k3.alive q.2).1;have:=z1 q.2;dsimp only at h0 ⊢;omega,l6,u6⟩⟩)⟩
   ·have hi:v8=false:=sp_ h9;have hm:=hf8 hi;subst m8;rw [n_0 (by rw [S5 dj hi];decide)] at af;replace af:=af.trans e09;refine qk (qD (c4 rfl d0n j1 (hS1 d n at_ b hn hb om_ om_ _ 0 1 ⟨rfl,rfl,de_⟩) rfl ?_));rintro ⟨x1,n1,a1,e1,b1⟩ ⟨k1,y1,w1,z1,l1,u1⟩;dsimp only at k1 y1 w1 z1 l1 u1 ⊢;refine qN [rbx T n1 a1 e1 ps b1 2,.dead,o9 e1 b1.length] rfl ?_;refine d7d ?_;refine qD (c4 rfl a8p o6 (W9 hT y1 hW [60] ⟨rfl,rfl,de_⟩) rfl ?_);rintro ⟨v2,m2⟩ ⟨cy,dA,gM,bT⟩;dsimp only at cy dA gM bT ⊢;refine qN [rbx T m2 a1 e1 ps b1 2,.dead,o9 e1 b1.length] rfl (qC ?_ ?_)<;> intro da
    ·have cQ:v2=true:=sp_ da;obtain ⟨eA,fT⟩:=U8 (cy.symm.trans cQ);subst e1;have hm:=dA cQ;subst m2;have bk:opS (tk T n1) 1=6:=by rw [d7K,n_1 fT]
     refine qD (c4 rfl d0n j1 (hS0 d (n1+1) a1 b1 bT w1 om_ (by have:=z1 rfl;omega) _ 0 2 ⟨rfl,rfl,de_⟩) rfl ?_);rintro ⟨x3,n3,a3,e3,b3⟩ ⟨k3,y3,w3,z3,l3,u3⟩;dsimp only at k3 y3 w3 z3 l3 u3 ⊢;refine qN [rbx T n3 a3 e3 ps b3 3,.dead,.dead,o9 e3 b3.length] rfl (qY e0y ?_);refine qY c6f ?_;refine qD (c4 rfl a4s C8 (O0 w3 ⟨4,0,6,[],[x1,x3]⟩ _ ⟨rfl,rfl,de_⟩) rfl ?_);rintro ⟨x6,a6,e6,b6⟩ ⟨k6,w6,l6,u6⟩;dsimp only at k6 w6 l6 u6 ⊢;refine d5e ?_;exact ⟨_,rE1,q_0⟩
    ·have cQ:v2=false:=sp_ da;have hm:=gM cQ;subst m2;refine qD (c4 rfl a8p o6 (W9 hT y1 hW [61,61] ⟨rfl,rfl,de_⟩) rfl ?_);rintro ⟨v4,m4⟩ ⟨hv4,hs4,hf4,hm4⟩;dsimp only at hv4 hs4 hf4 hm4 ⊢;refine qN [rbx T m4 a1 e1 ps b1 2,.dead,o9 e1 b1.length] rfl (qC ?_ ?_)<;> intro dr
     ·have gN:v4=true:=sp_ dr;obtain ⟨eA,fT⟩:=U8 (hv4.symm.trans gN);subst e1;have hm:=hs4 gN;subst m4;have bk:opS (tk T n1) 1=7:=by rw [d7K,n_0 (by rw [S5 cy cQ];decide),n_1 fT]
      refine qD (c4 rfl d0n j1 (hS0 d (n1+1) a1 b1 hm4 w1 om_ (by have:=z1 rfl;omega) _ 0 2 ⟨rfl,rfl,de_⟩) rfl ?_);rintro ⟨x3,n3,a3,e3,b3⟩ ⟨k3,y3,w3,z3,l3,u3⟩;dsimp only at k3 y3 w3 z3 l3 u3 ⊢;refine qN [rbx T n3 a3 e3 ps b3 3,.dead,.dead,o9 e3 b3.length] rfl (qY e0y ?_);refine qY c6f ?_;refine qD (c4 rfl a4s C8 (O0 w3 ⟨4,0,7,[],[x1,x3]⟩ _ ⟨rfl,rfl,de_⟩) rfl ?_);rintro ⟨x6,a6,e6,b6⟩ ⟨k6,w6,l6,u6⟩;dsimp only at k6 w6 l6 u6 ⊢;refine d5e ?_;exact ⟨_,rE1,q_0⟩
     ·have gN:v4=false:=sp_ dr;have hm:=hf4 gN;subst m4;have dx:e1=0->opS (tk T n1) 1=0:=fun h0=>by subst h0;exact d9A (S5 cy cQ) (S5 hv4 gN)
      refine c6 ?_;exact ⟨_,rE1,(by exact ⟨⟨x1,n1,a1,e1,b1⟩,U1 (k:=2) rfl rfl de_ (.val _),⟨by rw [af];exact k1.bindX (fun i hi=>d4j hi dx) id,y1,w1,z1,l1,u1⟩⟩)⟩
theorem d2J {ps:List Str} (hc:a0j T ps) (H:∀ g,g < f0->REC T ps g/\RSC T ps g):REC T ps f0:=fun d n at_ e b hn hb hd hf σ q s am =>
 a1U (c:=fun a:RX=>(iv a.x)) (N:=fun a=>a.n) (A:=fun a=>a.at_) (E:=fun a=>a.e) (B:=fun a=>a.b) (fun _ h=>by simp at h;subst h;exact .val _) (fun _=>.val _) (d1m hc d n at_ e b hn hb hd (fun h0=>by
  have h1:=hf h0;obtain ⟨f,rfl⟩:∃ f,f0=f+3:=⟨f0 - 3,om_⟩;exact ⟨f,rfl,h1,(H (f+2) om_).1,(H (f+1) om_).2,(H f om_).2⟩)) am
def ot1 (ph:Bool) (e:Int) (m:Nat):b9:=if ph=true then .dead else o9 e m
def ot2 (ph:Bool) (e:Int) (m:Nat):b9:=if ph=true then o9 e m else .dead
structure RL where
 x:Int
 m:Nat
 at_:Int
 e:Int
 b:List Ex
 ph:Bool
 g:Nat
variable {x:Int}
theorem d9h {ps:List Str} {d n lv:Nat} {b:List Ex} (h:lv≠4):(A1 T ps (f+1)).bin lv d n b=((A1 T ps f).bin (lv+1) d n b).bind fun x=>(A1 T ps f).lp lv d x.1 x.2.1 x.2.2:=by
 have h':(A1 T ps (f+1)).bin lv d n b=(G7 T ps (A1 T ps f)).bin lv d n b:=rfl;rw [h'];simp only [G7];rw [n_0 h]
theorem e0E {ps:List Str} {d n:Nat} {b:List Ex}:(A1 T ps (f+1)).bin 4 d n b=(A1 T ps f).fac d n b:=rfl
theorem lpS {ps:List Str} {g d x n lv:Nat} {b:List Ex} (h:lv≠1):(A1 T ps (g+1)).lp lv d x n b=if opS (tk T n) (lv:Int)=0 then some (x,n,b) else ((A1 T ps g).bin (lv+1) d (n+1) b).bind fun y=>(X3 y.2.2 ⟨4,0,opS (tk T n) (lv:Int),[],[(x:Int),(y.1:Int)]⟩).bind fun w=>(A1 T ps g).lp lv d w.1 y.2.1 w.2:=by
 have h':(A1 T ps (g+1)).lp lv d x n b=(G7 T ps (A1 T ps g)).lp lv d x n b:=rfl;rw [h'];simp only [G7,n_0 h]
theorem d7D (t:Tok):opS t 2=if isT t 4 [43]=true then 1 else if isT t 4 [45]=true then 2 else 0:=by
 by_cases h1:isT t 4 [43]=true
 ·rw [n_1 h1];exact a5b (x:=(1,[43])) de_ (by simpa [opM,isT,F6] using h1)
 ·rw [n_0 h1];by_cases h2:isT t 4 [45]=true
  ·rw [n_1 h2];exact a5b (x:=(2,[45])) de_ (by simpa [opM,isT,F6] using h2)
  ·rw [n_0 h2];refine b1B fun x hx=>?_;simp only [S0,J5,a7v,or_false] at hx
   rcases hx with rfl | rfl | rfl | rfl | rfl | rfl | rfl<;>simp_all [opM,isT,F6]
theorem op3 (t:Tok):opS t 3=if isT t 4 [42]=true then 3 else if isT t 4 [47]=true then 4 else if isT t 4 [37]=true then 5 else 0:=by
 by_cases h1:isT t 4 [42]=true
 ·rw [n_1 h1];exact a5b (x:=(3,[42])) de_ (by simpa [opM,isT,F6] using h1)
 ·rw [n_0 h1];by_cases h2:isT t 4 [47]=true
  ·rw [n_1 h2];exact a5b (x:=(4,[47])) de_ (by simpa [opM,isT,F6] using h2)
  ·rw [n_0 h2];by_cases h3:isT t 4 [37]=true
   ·rw [n_1 h3];exact a5b (x:=(5,[37])) de_ (by simpa [opM,isT,F6] using h3)
   ·rw [n_0 h3];refine b1B fun x hx=>?_;simp only [S0,J5,a7v,or_false] at hx
    rcases hx with rfl | rfl | rfl | rfl | rfl | rfl | rfl<;>simp_all [opM,isT,F6]
theorem c1o {o:Option (Nat × List Ex)} {b:List Ex} (h:o.map a9z=some (x,b)):∃ i:Nat,(i:Int)=x/\o=some (i,b):=by
 obtain ⟨⟨i,c⟩,hp,hg⟩:=N6.1 h;obtain ⟨h1,h2⟩:(i:Int)=x/\c=b:=by simpa [a9z] using hg
 subst h2;exact ⟨i,h1,hp⟩
theorem b0z {S o:Option PX} {K:Nat->Nat->List Ex->Option PX} {x1:Int} (hs:S=o.bind fun y=>K y.1 y.2.1 y.2.2) (k:Ok 0 (o.map cx) e1 (x1,n1,b1)):(e1=0->∃ i:Nat,(i:Int)=x1/\S=K i n1 b1)/\(e1≠0->S=none):=by
 rcases k.zero with ⟨h3,ho⟩ | ⟨h3,ho⟩
 ·obtain ⟨j,hj,ho⟩:=b47 ho;exact ⟨fun _=>⟨j,hj,by rw [hs,ho];rfl⟩,fun h=>absurd h3 h⟩
 ·exact ⟨fun h=>absurd h h3,fun _=>by rw [hs,b5z ho];rfl⟩
theorem a3g {S o:Option PX} {N:PX->Option (Nat × List Ex)} {K:Nat->Nat->List Ex->Option PX} {x3 x4:Int} {b3 b4:List Ex} (hs:S=o.bind fun y=>(N y).bind fun w=>K w.1 y.2.1 w.2) (k3:Ok 0 (o.map cx) e3 (x3,n3,b3)) (k4:∀ j:Nat,(j:Int)=x3->Ok e3 ((N (j,n3,b3)).map a9z) e4 (x4,b4)) (k40:e3≠0->e4≠0) :
 (e4=0->e3=0/\∃ w:Nat,(w:Int)=x4/\S=K w n3 b4)/\(e4≠0->S=none):=by
 rcases k3.zero with ⟨h3,ho⟩ | ⟨h3,ho⟩
 ·obtain ⟨j,hj,ho⟩:=b47 ho;subst h3
  rcases (k4 j hj).zero with ⟨h4,hn⟩ | ⟨h4,hn⟩
  ·obtain ⟨w,hw,hn⟩:=c1o hn;exact ⟨fun _=>⟨rfl,w,hw,by rw [hs,ho,n_9,hn];rfl⟩,fun h=>absurd h4 h⟩
  ·exact ⟨fun h=>absurd h h4,fun _=>by rw [hs,ho,n_9,a87.1 hn];rfl⟩
 ·exact ⟨fun h=>absurd h (k40 h3),fun _=>by rw [hs,b5z ho];rfl⟩
theorem b76 {n m:Nat} {at_:Int} {S:Option PX} {b:List Ex} (hS:S=some (i,m,b)) (hi:(i:Int)=x) (hm:m < T.length) (hb:b.length<=256) (hn:n < m) (h1 : -1<=x) (h2:x<=256):RXP T n 0 S ⟨x,m,at_,0,b⟩:=by
 subst hS hi;exact ⟨.some,hm,hb,fun _=>hn,h1,h2⟩
theorem d4N {ps:List Str} (hc:a0j T ps) (hB:∀ g,g<=f->RTC T ps g) (d n:Nat) (at_:Int) (b:List Ex) (hn:n < T.length) (hb:b.length<=256) (cc:d<=32) (hf:8*(T.length - n)+6<=f+1+2):b8 CC 273 [.ptr 0 0,iv d] (rst T n at_ 0 ps b) (fun r τ=>∃ a:RX,E8 2 τ r (.ret (iv a.x)) (a6M T a.n a.at_ a.e ps a.b)/\RXP T n 0 ((A1 T ps (f+1)).bin 2 d n b) a):=by
 have hT:=hc.len;have hW:=hc.w;have af:=d9h (T:=T) (ps:=ps) (f:=f) (d:=d) (n:=n) (lv:=2) (b:=b) de_;refine qO Tryz.func273 ?_;refine qD (c4 rfl d1w j1 (hB f om_ d n at_ b hn hb cc om_ _ 0 1 ⟨rfl,rfl,de_⟩) rfl ?_);rintro ⟨x1,n1,a1,e1,b1⟩ ⟨k1,y1,w1,z1,l1,u1⟩;dsimp only at k1 y1 w1 z1 l1 u1 ⊢;refine qN [rbx T n1 a1 e1 ps b1 2,.dead,o9 e1 b1.length] rfl ?_;have eo:e1=0->8*(T.length - n1)+3<=f:=fun h0=>by have:=z1 h0;omega
 have aW:=b0z (K:=fun i m c=>(A1 T ps f).lp 2 d i m c) af k1;refine A6 hCC 3 rfl (α:=RL) (fun a=>[(0,.ptr 0 0),(1,iv d),(5,iv a.x)]) (fun a=>[rbx T a.m a.at_ a.e ps a.b (kf a.ph),.dead,ot1 a.ph a.e a.b.length,ot2 a.ph a.e a.b.length]) (fun a=>(a.e=0->∃ i:Nat,(i:Int)=a.x/\(A1 T ps (f+1)).bin 2 d n b=(A1 T ps a.g).lp 2 d i a.m a.b/\n < a.m/\8*(T.length - a.m)+3<=a.g)/\(a.e≠0->(A1 T ps (f+1)).bin 2 d n b=none)/\a.m < T.length/\a.b.length<=256/\-1<=a.x/\a.x<=256/\a.g<=f) (fun a=>if a.e=0 then T.length - a.m+1 else 0) ⟨⟨x1,n1,a1,e1,b1,false,f⟩,[0,1,2,7],⟨fun h0=>(aW.1 h0).elim fun i hi=>⟨i,hi.1,hi.2,z1 h0,eo h0⟩,aW.2,y1,w1,l1,u1,n_7 _⟩,⟨rfl,rfl⟩,ut_,uq_⟩ ?_;intro ⟨x,m,a2,e,b2,ph,g⟩ ⟨hI,hN,hm,bW,bb,aK,hgf⟩;dsimp only at hI hN hm bW bb aK hgf ⊢;refine qk (qC ?_ ?_)<;> intro h1
 ·obtain rfl:e=0:=sp_ h1;obtain ⟨i,hi,hS,bL,hg⟩:=hI rfl;clear hI;obtain ⟨g,rfl⟩:∃ g',g=g'+1:=⟨g - 1,om_⟩;rw [lpS de_] at hS;refine qY d9H ?_;refine qY a4h ?_;refine qD (c4 rfl a8p o6 (W9 hT hm hW [43] (q:=0) (s:=kf ph) a1o) rfl ?_);rintro ⟨iA,m10⟩ ⟨gy,iB,iC,iD⟩;dsimp only at gy iB iC iD ⊢;refine qN [rbx T m10 a2 0 ps b2 (kf ph),.dead,ot1 ph 0 b2.length,ot2 ph 0 b2.length] P5 ?_;refine qC ?_ ?_<;>intro h2
  ·have dW:iA=true:=sp_ h2;have hq:=(U8 (gy.symm.trans dW)).2;have bz:=iB dW;subst m10;have bk:opS (tk T m) (2:Nat)=1:=by
    show opS (tk T m) 2=1;rw [d7D,n_1 hq]
   rw [n_0 (by rw [bk];decide),bk] at hS;refine qD (c4 rfl d1w j1 (hB g om_ d (m+1) a2 b2 iD bW cc om_ _ 0 (kf ph) a1o) rfl ?_);rintro ⟨x3,n3,a3,e3,b3⟩ ⟨k3,y3,w3,z3,l3,u3⟩;dsimp only at k3 y3 w3 z3 l3 u3 ⊢;refine qN [rbx T n3 a3 e3 ps b3 4,.dead,.dead,.dead,o9 e3 b3.length] P5 ?_;refine b7y ?_;refine qD (c4 rfl a4s C8 (O0 w3 ⟨4,0,1,[],[x,x3]⟩ _ ⟨rfl,rfl,de_⟩) rfl ?_);rintro ⟨x4,a4,e4,b4⟩ ⟨k4,w4,l4,u4⟩;dsimp only at k4 w4 l4 u4 ⊢;refine qN [rbx T n3 a4 e4 ps b4 5,.dead,.dead,.dead,.dead,o9 e4 b4.length] rfl ?_;have eo:e3=0->n < n3/\8*(T.length - n3)+3<=g:=fun h0=>by have:=z3 h0;omega
   have bU:(if e4=0 then T.length - n3+1 else 0) < (if (0:Int)=0 then T.length - m+1 else 0):=by
    rw [n_1 rfl]
    split
    ·rename_i h0;have:=z3 (k4.alive h0).1;omega
    ·omega
   have aW:=a3g (K:=fun i m c=>(A1 T ps g).lp 2 d i m c) hS k3 (fun j hj=>by rw [hi,hj];exact k4) k4.2;exact ⟨⟨x4,n3,a4,e4,b4,true,g⟩,[0,1,2,5],⟨bU,fun h0=>(aW.1 h0).2.elim fun i hi=>⟨i,hi.1,hi.2,eo (aW.1 h0).1⟩,aW.2,y3,w4,l4,u4,do_⟩,⟨rfl,rfl⟩,ut_,⟨.inr ⟨_,rfl,.box ⟨.old a1c,.old (.val _),.old (.val _),.old (.val _),.old Y2,Z8 rfl,.old a21,tt⟩⟩,.inl rfl,.inl rfl,.inr ⟨_,rfl,.same rfl W4⟩,tt⟩⟩
  ·have dW:iA=false:=sp_ h2;have bz:=iC dW;subst m10;refine qD (c4 rfl a8p o6 (W9 hT hm hW [45] (q:=0) (s:=kf ph) a1o) rfl ?_);rintro ⟨iE,m11⟩ ⟨fI,iF,iG,iH⟩;dsimp only at fI iF iG iH ⊢;refine qN [rbx T m11 a2 0 ps b2 (kf ph),.dead,ot1 ph 0 b2.length,ot2 ph 0 b2.length] P5 ?_;refine qC ?_ ?_<;>intro h3
   ·have dB:iE=true:=sp_ h3;have hq:=(U8 (fI.symm.trans dB)).2;have bz:=iF dB;subst m11;have bk:opS (tk T m) (2:Nat)=2:=by
     show opS (tk T m) 2=2;rw [d7D,n_0 b65,n_1 hq]
    rw [n_0 (by rw [bk];decide),bk] at hS;refine qD (c4 rfl d1w j1 (hB g om_ d (m+1) a2 b2 iH bW cc om_ _ 0 (kf ph) a1o) rfl ?_);rintro ⟨x3,n3,a3,e3,b3⟩ ⟨k3,y3,w3,z3,l3,u3⟩;dsimp only at k3 y3 w3 z3 l3 u3 ⊢;refine qN [rbx T n3 a3 e3 ps b3 4,.dead,.dead,.dead,o9 e3 b3.length] P5 ?_;refine b7y ?_;refine qD (c4 rfl a4s C8 (O0 w3 ⟨4,0,2,[],[x,x3]⟩ _ ⟨rfl,rfl,de_⟩) rfl ?_);rintro ⟨x4,a4,e4,b4⟩ ⟨k4,w4,l4,u4⟩;dsimp only at k4 w4 l4 u4 ⊢;refine qN [rbx T n3 a4 e4 ps b4 5,.dead,.dead,.dead,.dead,o9 e4 b4.length] rfl ?_;have eo:e3=0->n < n3/\8*(T.length - n3)+3<=g:=fun h0=>by have:=z3 h0;omega
    have bU:(if e4=0 then T.length - n3+1 else 0) < (if (0:Int)=0 then T.length - m+1 else 0):=by
     rw [n_1 rfl]
     split
     ·rename_i h0;have:=z3 (k4.alive h0).1;omega
     ·omega
    have aW:=a3g (K:=fun i m c=>(A1 T ps g).lp 2 d i m c) hS k3 (fun j hj=>by rw [hi,hj];exact k4) k4.2;exact ⟨⟨x4,n3,a4,e4,b4,true,g⟩,[0,1,2,5],⟨bU,fun h0=>(aW.1 h0).2.elim fun i hi=>⟨i,hi.1,hi.2,eo (aW.1 h0).1⟩,aW.2,y3,w4,l4,u4,do_⟩,⟨rfl,rfl⟩,ut_,⟨.inr ⟨_,rfl,.box ⟨.old a1c,.old (.val _),.old (.val _),.old (.val _),.old Y2,Z8 rfl,.old a21,tt⟩⟩,.inl rfl,.inl rfl,.inr ⟨_,rfl,.same rfl W4⟩,tt⟩⟩
   ·have dB:iE=false:=sp_ h3;have bz:=iG dB;subst m11;refine z_9 ?_;exact ⟨_,rE1,(by exact ⟨⟨x,m,a2,0,b2⟩,d9c,b76 (hS.trans (n_1 (by show opS (tk T m) 2=0;rw [d7D,n_0 b65,n_0 (by rw [S5 fI dB];decide)]))) hi hm bW bL bb aK⟩)⟩
 ·have he:e≠0:=sp_ h1;refine z_9 ?_;exact ⟨_,rE1,e0H⟩
theorem d7V {ps:List Str} (hc:a0j T ps) (H:∀ g,g < f0->RTC T ps g):RSC T ps f0:=fun d n at_ b hn hb hd hf σ q s am=>by
 obtain ⟨f,rfl⟩:∃ f,f0=f+1:=⟨f0 - 1,om_⟩;exact a1U (c:=fun a:RX=>(iv a.x)) (N:=fun a=>a.n) (A:=fun a=>a.at_) (E:=fun a=>a.e) (B:=fun a=>a.b) (fun _ h=>by simp at h;subst h;exact .val _) (fun _=>.val _) (d4N hc (fun g hg=>H g om_) d n at_ b hn hb hd hf) am
theorem c7M {ps:List Str} (hc:a0j T ps) (hB:∀ g,g<=f->RFC T ps g) (d n:Nat) (at_:Int) (b:List Ex) (hn:n < T.length) (hb:b.length<=256) (cc:d<=32) (hf:8*(T.length - n)+6<=f+2+3):b8 CC 300 [.ptr 0 0,iv d] (rst T n at_ 0 ps b) (fun r τ=>∃ a:RX,E8 2 τ r (.ret (iv a.x)) (a6M T a.n a.at_ a.e ps a.b)/\RXP T n 0 ((A1 T ps (f+2)).bin 3 d n b) a):=by
 have hT:=hc.len;have hW:=hc.w;have af:=d9h (T:=T) (ps:=ps) (f:=f+1) (d:=d) (n:=n) (lv:=3) (b:=b) de_;rw [e0E] at af;refine qO Tryz.func300 ?_;refine qD (c4 rfl c1V j1 (hB f om_ d n at_ b hn hb cc om_ _ 0 1 ⟨rfl,rfl,de_⟩) rfl ?_);rintro ⟨x1,n1,a1,e1,b1⟩ ⟨k1,y1,w1,z1,l1,u1⟩;dsimp only at k1 y1 w1 z1 l1 u1 ⊢;refine qN [rbx T n1 a1 e1 ps b1 2,.dead,o9 e1 b1.length] rfl ?_;have eo:e1=0->8*(T.length - n1)+3<=(f+1):=fun h0=>by have:=z1 h0;omega
 have aW:=b0z (K:=fun i m c=>(A1 T ps (f+1)).lp 3 d i m c) af k1;refine A6 hCC 3 rfl (α:=RL) (fun a=>[(0,.ptr 0 0),(1,iv d),(5,iv a.x)]) (fun a=>[rbx T a.m a.at_ a.e ps a.b (kf a.ph),.dead,ot1 a.ph a.e a.b.length,ot2 a.ph a.e a.b.length]) (fun a=>(a.e=0->∃ i:Nat,(i:Int)=a.x/\(A1 T ps (f+2)).bin 3 d n b=(A1 T ps a.g).lp 3 d i a.m a.b/\n < a.m/\8*(T.length - a.m)+3<=a.g)/\(a.e≠0->(A1 T ps (f+2)).bin 3 d n b=none)/\a.m < T.length/\a.b.length<=256/\-1<=a.x/\a.x<=256/\a.g<=f+1) (fun a=>if a.e=0 then T.length - a.m+1 else 0) ⟨⟨x1,n1,a1,e1,b1,false,(f+1)⟩,[0,1,2,7],⟨fun h0=>(aW.1 h0).elim fun i hi=>⟨i,hi.1,hi.2,z1 h0,eo h0⟩,aW.2,y1,w1,l1,u1,n_7 _⟩,⟨rfl,rfl⟩,ut_,uq_⟩ ?_;intro ⟨x,m,a2,e,b2,ph,g⟩ ⟨hI,hN,hm,bW,bb,aK,hgf⟩;dsimp only at hI hN hm bW bb aK hgf ⊢;refine qk (qC ?_ ?_)<;> intro h1
 ·obtain rfl:e=0:=sp_ h1;obtain ⟨i,hi,hS,bL,hg⟩:=hI rfl;clear hI;obtain ⟨g,rfl⟩:∃ g',g=g'+1:=⟨g - 1,om_⟩;rw [lpS de_] at hS;obtain ⟨g,rfl⟩:∃ g',g=g'+1:=⟨g - 1,om_⟩;rw [e0E] at hS;refine qY d9H ?_;refine qY a4h ?_;refine qD (c4 rfl a8p o6 (W9 hT hm hW [42] (q:=0) (s:=kf ph) a1o) rfl ?_);rintro ⟨iA,m10⟩ ⟨gy,iB,iC,iD⟩;dsimp only at gy iB iC iD ⊢;refine qN [rbx T m10 a2 0 ps b2 (kf ph),.dead,ot1 ph 0 b2.length,ot2 ph 0 b2.length] P5 ?_;refine qC ?_ ?_<;>intro h2
  ·have dW:iA=true:=sp_ h2;have hq:=(U8 (gy.symm.trans dW)).2;have bz:=iB dW;subst m10;have bk:opS (tk T m) (3:Nat)=3:=by
    show opS (tk T m) 3=3;rw [op3,n_1 hq]
   rw [n_0 (by rw [bk];decide),bk] at hS;refine qD (c4 rfl c1V j1 (hB g om_ d (m+1) a2 b2 iD bW cc om_ _ 0 (kf ph) a1o) rfl ?_);rintro ⟨x3,n3,a3,e3,b3⟩ ⟨k3,y3,w3,z3,l3,u3⟩;dsimp only at k3 y3 w3 z3 l3 u3 ⊢;refine qN [rbx T n3 a3 e3 ps b3 4,.dead,.dead,.dead,o9 e3 b3.length] P5 ?_;refine b7y ?_;refine qD (c4 rfl a4s C8 (O0 w3 ⟨4,0,3,[],[x,x3]⟩ _ ⟨rfl,rfl,de_⟩) rfl ?_);rintro ⟨x4,a4,e4,b4⟩ ⟨k4,w4,l4,u4⟩;dsimp only at k4 w4 l4 u4 ⊢;refine qN [rbx T n3 a4 e4 ps b4 5,.dead,.dead,.dead,.dead,o9 e4 b4.length] rfl ?_;have eo:e3=0->n < n3/\8*(T.length - n3)+3<=(g+1):=fun h0=>by have:=z3 h0;omega
   have bU:(if e4=0 then T.length - n3+1 else 0) < (if (0:Int)=0 then T.length - m+1 else 0):=by
    rw [n_1 rfl]
    split
    ·rename_i h0;have:=z3 (k4.alive h0).1;omega
    ·omega
   have aW:=a3g (K:=fun i m c=>(A1 T ps (g+1)).lp 3 d i m c) hS k3 (fun j hj=>by rw [hi,hj];exact k4) k4.2;exact ⟨⟨x4,n3,a4,e4,b4,true,g+1⟩,[0,1,2,5],⟨bU,fun h0=>(aW.1 h0).2.elim fun i hi=>⟨i,hi.1,hi.2,eo (aW.1 h0).1⟩,aW.2,y3,w4,l4,u4,do_⟩,⟨rfl,rfl⟩,ut_,⟨.inr ⟨_,rfl,.box ⟨.old a1c,.old (.val _),.old (.val _),.old (.val _),.old Y2,Z8 rfl,.old a21,tt⟩⟩,.inl rfl,.inl rfl,.inr ⟨_,rfl,.same rfl W4⟩,tt⟩⟩
  ·have dW:iA=false:=sp_ h2;have bz:=iC dW;subst m10;refine qD (c4 rfl a8p o6 (W9 hT hm hW [47] (q:=0) (s:=kf ph) a1o) rfl ?_);rintro ⟨iE,m11⟩ ⟨fI,iF,iG,iH⟩;dsimp only at fI iF iG iH ⊢;refine qN [rbx T m11 a2 0 ps b2 (kf ph),.dead,ot1 ph 0 b2.length,ot2 ph 0 b2.length] P5 ?_;refine qC ?_ ?_<;>intro h3
   ·have dB:iE=true:=sp_ h3;have hq:=(U8 (fI.symm.trans dB)).2;have bz:=iF dB;subst m11;have bk:opS (tk T m) (3:Nat)=4:=by
     show opS (tk T m) 3=4;rw [op3,n_0 b65,n_1 hq]
    rw [n_0 (by rw [bk];decide),bk] at hS;refine qD (c4 rfl c1V j1 (hB g om_ d (m+1) a2 b2 iH bW cc om_ _ 0 (kf ph) a1o) rfl ?_);rintro ⟨x3,n3,a3,e3,b3⟩ ⟨k3,y3,w3,z3,l3,u3⟩;dsimp only at k3 y3 w3 z3 l3 u3 ⊢;refine qN [rbx T n3 a3 e3 ps b3 4,.dead,.dead,.dead,o9 e3 b3.length] P5 ?_;refine b7y ?_;refine qD (c4 rfl a4s C8 (O0 w3 ⟨4,0,4,[],[x,x3]⟩ _ ⟨rfl,rfl,de_⟩) rfl ?_);rintro ⟨x4,a4,e4,b4⟩ ⟨k4,w4,l4,u4⟩;dsimp only at k4 w4 l4 u4 ⊢;refine qN [rbx T n3 a4 e4 ps b4 5,.dead,.dead,.dead,.dead,o9 e4 b4.length] rfl ?_;have eo:e3=0->n < n3/\8*(T.length - n3)+3<=(g+1):=fun h0=>by have:=z3 h0;omega
    have bU:(if e4=0 then T.length - n3+1 else 0) < (if (0:Int)=0 then T.length - m+1 else 0):=by
     rw [n_1 rfl]
     split
     ·rename_i h0;have:=z3 (k4.alive h0).1;omega
     ·omega
    have aW:=a3g (K:=fun i m c=>(A1 T ps (g+1)).lp 3 d i m c) hS k3 (fun j hj=>by rw [hi,hj];exact k4) k4.2;exact ⟨⟨x4,n3,a4,e4,b4,true,g+1⟩,[0,1,2,5],⟨bU,fun h0=>(aW.1 h0).2.elim fun i hi=>⟨i,hi.1,hi.2,eo (aW.1 h0).1⟩,aW.2,y3,w4,l4,u4,do_⟩,⟨rfl,rfl⟩,ut_,⟨.inr ⟨_,rfl,.box ⟨.old a1c,.old (.val _),.old (.val _),.old (.val _),.old Y2,Z8 rfl,.old a21,tt⟩⟩,.inl rfl,.inl rfl,.inr ⟨_,rfl,.same rfl W4⟩,tt⟩⟩
   ·have dB:iE=false:=sp_ h3;have bz:=iG dB;subst m11;refine qD (c4 rfl a8p o6 (W9 hT hm hW [37] (q:=0) (s:=kf ph) a1o) rfl ?_);rintro ⟨v12,m12⟩ ⟨hv12,hs12,hf12,hm12⟩;dsimp only at hv12 hs12 hf12 hm12 ⊢;refine qN [rbx T m12 a2 0 ps b2 (kf ph),.dead,ot1 ph 0 b2.length,ot2 ph 0 b2.length] P5 ?_;refine qC ?_ ?_<;>intro h4
    ·have iI:v12=true:=sp_ h4;have hq:=(U8 (hv12.symm.trans iI)).2;have bz:=hs12 iI;subst m12;have bk:opS (tk T m) (3:Nat)=5:=by
      show opS (tk T m) 3=5;rw [op3,n_0 b65,n_0 (by rw [S5 fI dB];decide),n_1 hq]
     rw [n_0 (by rw [bk];decide),bk] at hS;refine qD (c4 rfl c1V j1 (hB g om_ d (m+1) a2 b2 hm12 bW cc om_ _ 0 (kf ph) a1o) rfl ?_);rintro ⟨x3,n3,a3,e3,b3⟩ ⟨k3,y3,w3,z3,l3,u3⟩;dsimp only at k3 y3 w3 z3 l3 u3 ⊢;refine qN [rbx T n3 a3 e3 ps b3 4,.dead,.dead,.dead,o9 e3 b3.length] P5 ?_;refine b7y ?_;refine qD (c4 rfl a4s C8 (O0 w3 ⟨4,0,5,[],[x,x3]⟩ _ ⟨rfl,rfl,de_⟩) rfl ?_);rintro ⟨x4,a4,e4,b4⟩ ⟨k4,w4,l4,u4⟩;dsimp only at k4 w4 l4 u4 ⊢;refine qN [rbx T n3 a4 e4 ps b4 5,.dead,.dead,.dead,.dead,o9 e4 b4.length] rfl ?_;have eo:e3=0->n < n3/\8*(T.length - n3)+3<=(g+1):=fun h0=>by have:=z3 h0;omega
     have bU:(if e4=0 then T.length - n3+1 else 0) < (if (0:Int)=0 then T.length - m+1 else 0):=by
      rw [n_1 rfl]
      split
      ·rename_i h0;have:=z3 (k4.alive h0).1;omega
      ·omega
     have aW:=a3g (K:=fun i m c=>(A1 T ps (g+1)).lp 3 d i m c) hS k3 (fun j hj=>by rw [hi,hj];exact k4) k4.2;exact ⟨⟨x4,n3,a4,e4,b4,true,g+1⟩,[0,1,2,5],⟨bU,fun h0=>(aW.1 h0).2.elim fun i hi=>⟨i,hi.1,hi.2,eo (aW.1 h0).1⟩,aW.2,y3,w4,l4,u4,do_⟩,⟨rfl,rfl⟩,ut_,⟨.inr ⟨_,rfl,.box ⟨.old a1c,.old (.val _),.old (.val _),.old (.val _),.old Y2,Z8 rfl,.old a21,tt⟩⟩,.inl rfl,.inl rfl,.inr ⟨_,rfl,.same rfl W4⟩,tt⟩⟩
    ·have iI:v12=false:=sp_ h4;have bz:=hf12 iI;subst m12;refine z_9 ?_;exact ⟨_,rE1,(by exact ⟨⟨x,m,a2,0,b2⟩,d9c,b76 (hS.trans (n_1 (by show opS (tk T m) 3=0;rw [op3,n_0 b65,n_0 (by rw [S5 fI dB];decide),n_0 (by rw [S5 hv12 iI];decide)]))) hi hm bW bL bb aK⟩)⟩
 ·have he:e≠0:=sp_ h1;refine z_9 ?_;exact ⟨_,rE1,e0H⟩
theorem d3a {ps:List Str} (hc:a0j T ps) (H:∀ g,g < f0->RFC T ps g):RTC T ps f0:=fun d n at_ b hn hb hd hf σ q s am=>by
 obtain ⟨f,rfl⟩:∃ f,f0=f+2:=⟨f0 - 2,om_⟩;exact a1U (c:=fun a:RX=>(iv a.x)) (N:=fun a=>a.n) (A:=fun a=>a.at_) (E:=fun a=>a.e) (B:=fun a=>a.b) (fun _ h=>by simp at h;subst h;exact .val _) (fun _=>.val _) (c7M hc (fun g hg=>H g om_) d n at_ b hn hb hd hf) am
theorem Q6 {k:Int} {s:Str} (h:isT t k s=true):t.k=k/\t.t=s:=by simpa [isT] using h
theorem b07 {ps:List Str} {d n:Nat} {b:List Ex}:(A1 T ps (f+1)).fac d n b=(G7 T ps (A1 T ps f)).fac d n b:=rfl
theorem d2S {ps:List Str} {d n:Nat} {b:List Ex} (h:(tk T n).k=2):(A1 T ps (f+1)).fac d n b=L9 b ⟨1,(tk T n).n,0,[],[]⟩ (n+1):=by
 rw [b07];simp only [G7];rw [n_1 h]
theorem d4R {ps:List Str} {d n:Nat} {b:List Ex} (h:isT (tk T n) 4 [45]=true):(A1 T ps (f+1)).fac d n b=(G3 T (n+1) 2).bind fun y=>L9 b ⟨1,-y.1.n,0,[],[]⟩ y.2:=by
 rw [b07];simp only [G7];rw [n_0 (by rw [(Q6 h).1];decide),n_1 h]
theorem d2D {ps:List Str} {d n:Nat} {b:List Ex} (h:isT (tk T n) 4 [40]=true):(A1 T ps (f+1)).fac d n b=((A1 T ps f).ex (d+1) (n+1) b).bind fun x=>(pIs T x.2.1 4 [41]).bind fun m=>some (x.1,m,x.2.2):=by
 rw [b07];simp only [G7];rw [n_0 (by rw [(Q6 h).1];decide),n_0 (by simp [isT,(Q6 h).2]),n_1 h]
theorem a5I {ps:List Str} {d n:Nat} {b:List Ex} (h:isT (tk T n) 1 u=true) (hu:u=[114,101,97,100]\/u=[115,105,122,101]\/u=[104,97,115]\/u=[101,110,118]\/u=[102,108,105,112]):(A1 T ps (f+1)).fac d n b=X6 T (A1 T ps f) u d (n+1) b:=by
 obtain ⟨hk,ht⟩:=Q6 h;rw [b07];simp only [G7];rw [n_0 (by rw [hk];decide),n_0 (by simp [isT,hk]),n_0 (by simp [isT,hk]),n_0 (by simp [hk]),ht,n_1 hu]
theorem a4M {k:Int} {s:Str} (h:isT t k s=false) (hk:t.k=k):¬ t.t=s:=by
 intro e;simp [isT,hk,e] at h
theorem c7k {ps:List Str} {d n:Nat} {b:List Ex} (h1:¬ (tk T n).k=2) (h2:isT (tk T n) 4 [45]=false) (h3:isT (tk T n) 4 [40]=false) (h4:isT (tk T n) 1 [114,101,97,100]=false) (h5:isT (tk T n) 1 [115,105,122,101]=false) (h6:isT (tk T n) 1 [104,97,115]=false) (h7:isT (tk T n) 1 [101,110,118]=false) (h8:isT (tk T n) 1 [102,108,105,112]=false) :
 (A1 T ps (f+1)).fac d n b=(K0 T n).bind fun s=>if isT (tk T s.2) 4 [40]=true then (a2x T (A1 T ps f) d s.2 b).bind fun a=>L9 a.2.2 ⟨3,0,0,s.1.t,a.1⟩ a.2.1 else if ixS ps s.1.t 0 < 0 then none else L9 b ⟨2,ixS ps s.1.t 0,0,[],[]⟩ s.2:=by
 rw [b07];simp only [G7];rw [n_0 h1,n_0 (by rw [h2];decide),n_0 (by rw [h3];decide)];by_cases hk:(tk T n).k=1
 ·rw [n_0 (fun h=>h hk),n_0 (by
   rintro (h | h | h | h | h)
   ·exact a4M h4 hk h
   ·exact a4M h5 hk h
   ·exact a4M h6 hk h
   ·exact a4M h7 hk h
   ·exact a4M h8 hk h)]
  by_cases hr:R6 (tk T n).t=true
  ·rw [n_1 hr];simp [K0,G3,hk,hr]
  ·rw [n_0 hr];simp [K0,G3,hk,hr]
 ·rw [n_1 hk];simp [K0,G3,hk]
theorem d4V {d n:Nat} {b:List Ex}:X6 T F [114,101,97,100] d n b=(pIs T n 4 [40]).bind fun n1=>(a1m T true n1).bind fun s=>(pIs T s.2 4 [44]).bind fun n2=>(F.ex (d+1) n2 b).bind fun x=>(pIs T x.2.1 4 [41]).bind fun m=>L9 x.2.2 ⟨6,0,0,s.1.t,[(x.1:Int)]⟩ m:=by
 simp only [a3K];rfl
theorem d3T {d n:Nat} {b:List Ex}:X6 T F [115,105,122,101] d n b=(pIs T n 4 [40]).bind fun n1=>(a1m T true n1).bind fun s=>(pIs T s.2 4 [41]).bind fun m=>L9 b ⟨7,0,0,s.1.t,[]⟩ m:=by
 simp only [a3K];rfl
theorem d8q {d n:Nat} {b:List Ex}:X6 T F [104,97,115] d n b=(pIs T n 4 [40]).bind fun n1=>(a1m T true n1).bind fun s=>(pIs T s.2 4 [41]).bind fun m=>L9 b ⟨8,0,0,s.1.t,[]⟩ m:=by
 simp only [a3K];rfl
theorem d8G {d n:Nat} {b:List Ex}:X6 T F [101,110,118] d n b=(pIs T n 4 [40]).bind fun n1=>(a1m T false n1).bind fun s=>(pIs T s.2 4 [41]).bind fun m=>L9 b ⟨9,0,0,s.1.t,[]⟩ m:=by
 have e:X6 T F [101,110,118] d n b=(pIs T n 4 [40]).bind fun n1=>(G3 T n1 3).bind fun s=>if C3 s.1.t=true then (pIs T s.2 4 [41]).bind fun m=>L9 b ⟨9,0,0,s.1.t,[]⟩ m else none:=rfl
 rw [e];refine n_8 _ (funext fun n1=>?_);unfold a1m;cases G3 T n1 3 with
 | none=>rfl
 | some s =>
  simp only [n_9];by_cases h:C3 s.1.t=true
  ·simp [h]
  ·simp [h]
theorem c2f {d n:Nat} {b:List Ex}:X6 T F [102,108,105,112] d n b=(pIs T n 4 [40]).bind fun n1=>(G3 T n1 2).bind fun s=>if 64<=s.1.n then none else (pIs T s.2 4 [41]).bind fun m=>L9 b ⟨10,s.1.n,0,[],[]⟩ m:=rfl
theorem L2 {n:Nat} {k e:Int} (q:Ok e (pIs T n k u) e' n') (h:e'=0):e=0/\n'=n+1:=⟨(q.alive h).1,P9 (q.alive h).2⟩
theorem b1r {n:Nat} {k:Int} {x:Tok × Nat} (hk:k≠5) (h:G3 T n k=some x):x=(tk T n,n+1)/\(tk T n).k=k:=by
 unfold G3 at h;by_cases h1:(tk T n).k=k
 ·rw [n_1 h1,n_0 hk] at h;injection h with h
  exact ⟨h.symm,h1⟩
 ·rw [n_0 h1] at h;cases h
theorem c9l {n:Nat} {e:Int} (q:Ok e ((G3 T n 2).map fun x=>(x.1.n,x.2)) e' (x,n')) (h:e'=0):e=0/\n'=n+1:=by
 obtain ⟨h1,h2⟩:=q.alive h;obtain ⟨p,hp,hg⟩:=N6.1 h2;obtain ⟨rfl,_⟩:=b1r de_ hp;injection hg with _ hg
 exact ⟨h1,hg.symm⟩
theorem d8j {n:Nat} (q:Ok 0 ((G3 T n 2).map fun x=>(x.1.n,x.2)) e' (x,n')) (hk:(tk T n).k=2):e'=0/\x=(tk T n).n/\n'=n+1:=by
 have hp:G3 T n 2=some (tk T n,n+1):=by
  unfold G3;rw [n_1 hk,n_0 de_]
 rw [hp] at q
 rcases q.zero with ⟨h1,h2⟩ | ⟨_,h2⟩
 ·injection h2 with h2
  injection h2 with h3 h4
  exact ⟨h1,h3.symm,h4.symm⟩
 ·cases h2
theorem a7M {n:Nat} {e:Int} {p:Bool} {x:Str} (q:Ok e ((a1m T p n).map fun x=>(x.1.t,x.2)) e' (x,n')) (h:e'=0):e=0/\n'=n+1:=by
 obtain ⟨h1,h2⟩:=q.alive h;obtain ⟨t,hp,hg⟩:=N6.1 h2;obtain ⟨y,hy,hz⟩:=c75.1 hp;obtain ⟨rfl,_⟩:=b1r de_ hy;by_cases hc:(if p=true then H3 (tk T n).t else C3 (tk T n).t)=true
 ·rw [n_1 hc] at hz;injection hz with hz
  subst hz;injection hg with _ hg
  exact ⟨h1,hg.symm⟩
 ·rw [n_0 hc] at hz;cases hz
theorem b0e {n:Nat} {e:Int} {x:Str} (q:Ok e ((K0 T n).map fun x=>(x.1.t,x.2)) e' (x,n')) (h:e'=0):e=0/\n'=n+1/\x=(tk T n).t/\K0 T n=some (tk T n,n+1):=by
 obtain ⟨h1,h2⟩:=q.alive h;obtain ⟨t,hp,hg⟩:=N6.1 h2;obtain ⟨y,hy,hz⟩:=c75.1 hp;obtain ⟨rfl,_⟩:=b1r de_ hy;by_cases hc:R6 (tk T n).t=true
 ·rw [n_1 hc] at hz;cases hz
 ·rw [n_0 hc] at hz;injection hz with hz
  subst hz;injection hg with eh hg
  exact ⟨h1,hg.symm,eh.symm,hp⟩
def a4C (T:List Tok) (ps:List Str) (d g m:Nat) (b:List Ex) (l:List Int):Option (List Int × Nat × List Ex) :=
 if l=[] then (if isT (tk T m) 4 [41]=true then some ([],m+1,b) else (A1 T ps g).ag d m b [])
 else if isT (tk T m) 4 [44]=true then (A1 T ps g).ag d (m+1) b l else (pIs T m 4 [41]).bind fun m'=>some (l,m',b)
theorem c5u {ps:List Str} {d n:Nat} {b:List Ex} (h:isT (tk T n) 4 [40]=true):a2x T (A1 T ps f) d n b=a4C T ps d f (n+1) b []:=by
 unfold a2x pIs a4C;rw [n_1 h,n_9,n_1 rfl]
theorem c4S {ps:List Str} {d g m:Nat} {b:List Ex} {l:List Int} (h:isT (tk T m) 4 [41]=true):a4C T ps d g m b l=some (l,m+1,b):=by
 unfold a4C;by_cases hl:l=[]
 ·rw [n_1 hl,n_1 h,hl]
 ·rw [n_0 hl,n_0 (by simp [isT,(Q6 h).2]),pIs,n_1 h];rfl
theorem c0W {ps:List Str} {d g m:Nat} {b:List Ex} {l:List Int} (h:isT (tk T m) 4 [41]=false) (hl:l≠[]):a4C T ps d g m b l=(pIs T m 4 [44]).bind fun m'=>(A1 T ps g).ag d m' b l:=by
 unfold a4C;rw [n_0 hl];unfold pIs;by_cases h4:isT (tk T m) 4 [44]=true
 ·rw [n_1 h4,n_1 h4];rfl
 ·rw [n_0 h4,n_0 h4,n_0 (by rw [h];decide)];rfl
theorem b6e {ps:List Str} {d g m:Nat} {b:List Ex} (h:isT (tk T m) 4 [41]=false):a4C T ps d g m b []=(some m).bind fun m'=>(A1 T ps g).ag d m' b []:=by
 unfold a4C;rw [n_1 rfl,n_0 (by rw [h];decide)];rfl
theorem agS {ps:List Str} {g d n:Nat} {b:List Ex} {l:List Int}:(A1 T ps (g+1)).ag d n b l=((A1 T ps g).ex (d+1) n b).bind fun x=>a4C T ps d g x.2.1 x.2.2 (l++[(x.1:Int)]):=by
 show ((A1 T ps g).ex (d+1) n b).bind _=_;refine n_8 _ (funext fun x=>?_);unfold a4C;exact (n_0 si_).symm
theorem b8h {S:Option PX} {o:Option Nat} {X:Nat->Option PX} {R:PX->Option (List Int × Nat × List Ex)} {P:List Int × Nat × List Ex->Option PX} {x3:Int} {b3:List Ex} (hs:S=(o.bind fun m=>(X m).bind R).bind P) (q:Ok 0 o e2 n2) (k:Ok e2 ((X n2).map cx) e3 (x3,n3,b3)) :
 (e3=0->e2=0/\∃ j:Nat,(j:Int)=x3/\S=(R (j,n3,b3)).bind P)/\(e3≠0->S=none):=by
 rcases q.zero with ⟨h2,ho⟩ | ⟨h2,ho⟩
 ·subst h2
  rcases k.zero with ⟨h3,hX⟩ | ⟨h3,hX⟩
  ·obtain ⟨j,hj,hX⟩:=b47 hX;exact ⟨fun _=>⟨rfl,j,hj,by rw [hs,ho,n_9,hX];rfl⟩,fun h=>absurd h3 h⟩
  ·exact ⟨fun h=>absurd h h3,fun _=>by rw [hs,ho,n_9,b5z hX];rfl⟩
 ·exact ⟨fun h=>absurd h (k.2 h2),fun _=>by rw [hs,ho];rfl⟩
structure RG where
 l:List Int
 m:Nat
 at_:Int
 e:Int
 b:List Ex
 ph:Bool
 g:Nat
variable {g:Nat}
def kg5 (ph:Bool):Nat:=if ph=true then 4 else 1
theorem c0l {ps:List Str} (hc:a0j T ps) (hE:∀ g,g<=f->REC T ps g) (d n:Nat) (at_:Int) (b:List Ex) (hn:n < T.length) (hb:b.length<=256) (cc:d<=32) (hf:8*(T.length - n)+1<=f+1):b8 CC 316 [.ptr 0 0,iv d] (rst T n at_ 0 ps b) (fun r τ=>∃ a:RX,E8 2 τ r (.ret (iv a.x)) (a6M T a.n a.at_ a.e ps a.b)/\RXP T n 0 ((A1 T ps (f+1)).fac d n b) a):=by
 have hT:=hc.len;have hW:=hc.w;refine qO Tryz.func316 ?_;refine qY b6M ?_;refine z_1 ?_;refine cC ?_ ?_<;>intro h1
 ·simp at h1
 ·refine qk (qC ?_ ?_)<;> intro h2
  ·have hk:(tk T n).k=2:=sp_ h2;refine qD (c4 rfl c9f ⟨tt,tt⟩ (a8M hT hn hW hc.nn ⟨rfl,rfl,de_⟩) rfl ?_);rintro ⟨x1,n1,a1,e1⟩ ⟨q1,y1,l1,u1⟩;dsimp only at q1 y1 l1 u1 ⊢;refine qN [rbx T n1 a1 e1 ps b 1,o9 e1 b.length,.box (tk T n).cells] rfl ?_;obtain ⟨rfl,rfl,rfl⟩:=d8j q1 hk;refine qY b2l ?_;refine qD (c4 rfl a4s C8 (O0 hb ⟨1,(tk T n).n,0,[],[]⟩ _ ⟨rfl,rfl,de_⟩) rfl ?_);rintro ⟨x6,a6,e6,b6⟩ ⟨k6,w6,l6,u6⟩;dsimp only at k6 w6 l6 u6 ⊢;refine qN [rbx T (n+1) a6 e6 ps b6 3,.dead,.box (tk T n).cells,o9 e6 b6.length] rfl ?_;refine c6 ?_;exact ⟨_,rE1,(by exact ⟨⟨x6,n+1,a6,e6,b6⟩,U1 (k:=3) rfl rfl de_ (.val _),⟨by rw [d2S hk];exact a1P k6,do_,w6,fun h0=>by dsimp only;omega,l6,u6⟩⟩)⟩
  ·have hk:¬ (tk T n).k=2:=sp_ h2;refine qD (c4 rfl a8p o6 (W9 hT hn hW [45] ⟨rfl,rfl,de_⟩) rfl ?_);rintro ⟨v1,m1⟩ ⟨dI,bv,dE,bX⟩;dsimp only at dI bv dE bX ⊢;refine qN [rbx T m1 at_ 0 ps b 1,o9 0 b.length,.box (tk T n).cells] rfl (qC ?_ ?_)<;> intro h3
   ·have eL:v1=true:=sp_ h3;have hq:=(U8 (dI.symm.trans eL)).2;have bz:=bv eL;subst m1;refine qD (c4 rfl c9f ⟨tt,tt⟩ (a8M hT bX hW hc.nn ⟨rfl,rfl,de_⟩) rfl ?_);rintro ⟨x2,n2,a2,e2⟩ ⟨q2,y2,l2,u2⟩;dsimp only at q2 y2 l2 u2 ⊢;refine qN [rbx T n2 a2 e2 ps b 1,o9 e2 b.length,.box (tk T n).cells] rfl ?_;have ew : -x2=IntKind.i64.wrap (0 - x2):=by rw [a95 om_ om_];omega
    refine qY (c8g rfl tt rfl) ?_;refine qY b2l ?_;refine qD (c4 rfl a4s C8 (O0 hb ⟨1,IntKind.i64.wrap (0 - x2),0,[],[]⟩ _ ⟨rfl,rfl,de_⟩) rfl ?_);rintro ⟨x6,a6,e6,b6⟩ ⟨k6,w6,l6,u6⟩;dsimp only at k6 w6 l6 u6 ⊢;refine qN [rbx T n2 a6 e6 ps b6 3,.dead,.box (tk T n).cells,o9 e6 b6.length] rfl ?_;refine c6 ?_;exact ⟨_,rE1,(by exact ⟨⟨x6,n2,a6,e6,b6⟩,U1 (k:=3) rfl rfl de_ (.val _),⟨by rw [d4R hq];exact q2.bindI (fun t ht=>a1P (by rw [ht,ew];exact k6)) k6.2,do_,w6,fun h0=>by have:=(c9l q2 (k6.alive h0).1).2;dsimp only;omega,l6,u6⟩⟩)⟩
   ·have eL:v1=false:=sp_ h3;have eh:=S5 dI eL;have bz:=dE eL;subst m1;refine qD (c4 rfl a8p o6 (W9 hT hn hW [40] ⟨rfl,rfl,de_⟩) rfl ?_);rintro ⟨v2,m2⟩ ⟨cy,dA,gM,bT⟩;dsimp only at cy dA gM bT ⊢;refine qN [rbx T m2 at_ 0 ps b 1,o9 0 b.length,.box (tk T n).cells] rfl (qC ?_ ?_)<;> intro h4
    ·have cQ:v2=true:=sp_ h4;have hq:=(U8 (cy.symm.trans cQ)).2;have bz:=dA cQ;subst m2;refine qY l9 ?_;refine qD (c4 rfl b8d j1 (hE f (n_7 _) (d+1) (n+1) at_ 0 b bT hb om_ (fun _=>by omega) _ 0 1 ⟨rfl,rfl,de_⟩) rfl ?_);rintro ⟨x3,n3,a3,e3,b3⟩ ⟨k3,y3,w3,z3,l3,u3⟩;dsimp only at k3 y3 w3 z3 l3 u3 ⊢;refine qN [rbx T n3 a3 e3 ps b3 3,.dead,.box (tk T n).cells,o9 e3 b3.length] rfl (qD (c4 rfl a4w o6 (N9 hT y3 hW [41] ⟨rfl,rfl,de_⟩) rfl ?_));rintro ⟨n4,a4,e4⟩ ⟨q4,y4⟩;dsimp only at q4 y4 ⊢;refine qN [rbx T n4 a4 e4 ps b3 3,.dead,.box (tk T n).cells,o9 e4 b3.length] rfl ?_;refine c6 ?_;exact ⟨_,rE1,(by exact ⟨⟨x3,n4,a4,e4,b3⟩,U1 (k:=3) rfl rfl de_ (.val _),⟨by rw [d2D hq];exact k3.bindX (fun i hi=>q4.bindP (by rw [<- hi];exact .some)) q4.2,y4,w3,fun h0=>by have g:=L2 q4 h0;have:=z3 g.1;dsimp only;omega,l3,u3⟩⟩)⟩
    ·have cQ:v2=false:=sp_ h4;have dV:=S5 cy cQ;have bz:=gM cQ;subst m2;refine qD (c4 rfl a91 o6 (Y7 hT hn hW [114,101,97,100] ⟨rfl,rfl,de_⟩) rfl ?_);rintro ⟨v3,m3⟩ ⟨hv3,fS,hf3,gf⟩;dsimp only at hv3 fS hf3 gf ⊢;refine qN [rbx T m3 at_ 0 ps b 1,o9 0 b.length,.box (tk T n).cells] rfl (qC ?_ ?_)<;> intro h5
     ·have fT:v3=true:=sp_ h5;have hq:=(U8 (hv3.symm.trans fT)).2;have bz:=fS fT;subst m3;refine qD (c4 rfl a4w o6 (N9 hT gf hW [40] ⟨rfl,rfl,de_⟩) rfl ?_);rintro ⟨n1,a1,e1⟩ ⟨q1,y1⟩;dsimp only at q1 y1 ⊢;refine qN [rbx T n1 a1 e1 ps b 1,o9 e1 b.length,.box (tk T n).cells] rfl (qD (c4 rfl c3F o6 (b0b hT y1 hW true hc.l ⟨rfl,rfl,de_⟩) rfl ?_));rintro ⟨s2,n2,a2,e2⟩ ⟨q2,y2⟩;dsimp only at q2 y2 ⊢;refine qN [rbx T n2 a2 e2 ps b 1,o9 e2 b.length,.box (tk T n).cells] rfl (qD (c4 rfl a4w o6 (N9 hT y2 hW [44] ⟨rfl,rfl,de_⟩) rfl ?_));rintro ⟨n3,a3,e3⟩ ⟨q3,y3⟩;dsimp only at q3 y3 ⊢;refine qN [rbx T n3 a3 e3 ps b 1,o9 e3 b.length,.box (tk T n).cells] rfl (qY l9 ?_);refine qD (c4 rfl b8d j1 (hE f (n_7 _) (d+1) n3 a3 e3 b y3 hb om_ (fun h0=>by have g:=L2 q3 h0;have g':=a7M q2 g.1;have:=L2 q1 g'.1;omega) _ 0 1 ⟨rfl,rfl,de_⟩) rfl ?_);rintro ⟨x4,n4,a4,e4,b4⟩ ⟨k4,y4,w4,z4,l4,u4⟩;dsimp only at k4 y4 w4 z4 l4 u4 ⊢;refine qN [rbx T n4 a4 e4 ps b4 3,.dead,.box (tk T n).cells,o9 e4 b4.length] rfl (qD (c4 rfl a4w o6 (N9 hT y4 hW [41] ⟨rfl,rfl,de_⟩) rfl ?_));rintro ⟨n5,a5,e5⟩ ⟨q5,y5⟩;dsimp only at q5 y5 ⊢;refine qN [rbx T n5 a5 e5 ps b4 3,.dead,.box (tk T n).cells,o9 e5 b4.length] rfl (qY (A8 ([x4].map icv) rfl ⟨tt,tt⟩ t_4 t_1 t_8 rfl rfl rfl rfl rfl rfl rfl rfl rfl) ?_);refine qY c6f ?_;refine qD (c4 rfl a4s C8 (O0 w4 ⟨6,0,0,s2,[x4]⟩ _ ⟨rfl,rfl,de_⟩) rfl ?_);rintro ⟨x6,a6,e6,b6⟩ ⟨k6,w6,l6,u6⟩;dsimp only at k6 w6 l6 u6 ⊢;refine qN [rbx T n5 a6 e6 ps b6 4,.dead,.box (tk T n).cells,.dead,o9 e6 b6.length] rfl ?_;refine c6 ?_;exact ⟨_,rE1,(by exact ⟨⟨x6,n5,a6,e6,b6⟩,U1 (k:=4) rfl rfl de_ (.val _),⟨by rw [a5I hq de_,d4V];exact q1.bindP (q2.bindT (fun t ht=>q3.bindP (k4.bindX (fun i hi=>q5.bindP (a1P (by rw [ht,hi];exact k6))) fun h=>k6.2 (q5.2 h))) fun h=>k6.2 (q5.2 (k4.2 (q3.2 h)))),do_,w6,fun h0=>by have g5:=L2 q5 (k6.alive h0).1;have:=z4 g5.1;have g3:=L2 q3 (k4.alive g5.1).1;have g2:=a7M q2 g3.1;have:=L2 q1 g2.1;dsimp only;omega,l6,u6⟩⟩)⟩
     ·have fT:v3=false:=sp_ h5;have hg3:=S5 hv3 fT;have bz:=hf3 fT;subst m3;refine qD (c4 rfl a91 o6 (Y7 hT hn hW [115,105,122,101] ⟨rfl,rfl,de_⟩) rfl ?_);rintro ⟨v4,m4⟩ ⟨hv4,hs4,hf4,hm4⟩;dsimp only at hv4 hs4 hf4 hm4 ⊢;refine qN [rbx T m4 at_ 0 ps b 1,o9 0 b.length,.box (tk T n).cells] rfl (qC ?_ ?_)<;> intro h6
      ·have gN:v4=true:=sp_ h6;have hq:=(U8 (hv4.symm.trans gN)).2;have bz:=hs4 gN;subst m4;have hw:=(Q6 hq).2;refine qC ?_ ?_<;>intro h7
       ·refine qY P0 ?_;refine qC ?_ ?_<;>intro h8
        ·simp [hw] at h8
        ·refine qY P0 ?_;refine qC ?_ ?_<;>intro h9
         ·simp [hw] at h9
         ·refine qD (c4 rfl a4w o6 (N9 hT hm4 hW [40] ⟨rfl,rfl,de_⟩) rfl ?_);rintro ⟨n1,a1,e1⟩ ⟨q1,y1⟩;dsimp only at q1 y1 ⊢;refine d5c ?_;rintro ⟨s2,n2,a2,e2⟩ ⟨q2,y2⟩;dsimp only at q2 y2 ⊢;refine d7I ?_;rintro ⟨n3,a3,e3⟩ ⟨q3,y3⟩;dsimp only at q3 y3 ⊢;refine d0J ?_;refine qD (c4 rfl a4s C8 (O0 hb ⟨7,0,0,s2,[]⟩ _ ⟨rfl,rfl,de_⟩) rfl ?_);rintro ⟨x6,a6,e6,b6⟩ ⟨k6,w6,l6,u6⟩;dsimp only at k6 w6 l6 u6 ⊢;refine d2s ?_;exact ⟨_,rE1,(by exact ⟨⟨x6,n3,a6,e6,b6⟩,U1 (k:=3) rfl rfl de_ (.val _),⟨by rw [a5I hq de_,d3T];exact q1.bindP (q2.bindT (fun t ht=>q3.bindP (a1P (by rw [ht];exact k6))) fun h=>k6.2 (q3.2 h)),do_,w6,fun h0=>by have g3:=L2 q3 (k6.alive h0).1;have g2:=a7M q2 g3.1;have:=L2 q1 g2.1;dsimp only;omega,l6,u6⟩⟩)⟩
       ·rw [gN] at h7;cases h7
      ·have gN:v4=false:=sp_ h6;have hg4:=S5 hv4 gN;have bz:=hf4 gN;subst m4;refine qD (c4 rfl a91 o6 (Y7 hT hn hW [104,97,115] ⟨rfl,rfl,de_⟩) rfl ?_);rintro ⟨v5,m5⟩ ⟨hv5,hs5,hf5,hm5⟩;dsimp only at hv5 hs5 hf5 hm5 ⊢;refine qN [rbx T m5 at_ 0 ps b 1,o9 0 b.length,.box (tk T n).cells] rfl (qC ?_ ?_)<;> intro h19
       ·have hi5:v5=true:=sp_ h19;have hq:=(U8 (hv5.symm.trans hi5)).2;have bz:=hs5 hi5;subst m5;have hw:=(Q6 hq).2;refine qC ?_ ?_<;>intro h20
        ·refine qY P0 ?_;refine qC ?_ ?_<;>intro h21
         ·refine qD (c4 rfl a4w o6 (N9 hT hm5 hW [40] ⟨rfl,rfl,de_⟩) rfl ?_);rintro ⟨n1,a1,e1⟩ ⟨q1,y1⟩;dsimp only at q1 y1 ⊢;refine d5c ?_;rintro ⟨s2,n2,a2,e2⟩ ⟨q2,y2⟩;dsimp only at q2 y2 ⊢;refine d7I ?_;rintro ⟨n3,a3,e3⟩ ⟨q3,y3⟩;dsimp only at q3 y3 ⊢;refine d0J ?_;refine qD (c4 rfl a4s C8 (O0 hb ⟨8,0,0,s2,[]⟩ _ ⟨rfl,rfl,de_⟩) rfl ?_);rintro ⟨x6,a6,e6,b6⟩ ⟨k6,w6,l6,u6⟩;dsimp only at k6 w6 l6 u6 ⊢;refine d2s ?_;exact ⟨_,rE1,(by exact ⟨⟨x6,n3,a6,e6,b6⟩,U1 (k:=3) rfl rfl de_ (.val _),⟨by rw [a5I hq de_,d8q];exact q1.bindP (q2.bindT (fun t ht=>q3.bindP (a1P (by rw [ht];exact k6))) fun h=>k6.2 (q3.2 h)),do_,w6,fun h0=>by have g3:=L2 q3 (k6.alive h0).1;have g2:=a7M q2 g3.1;have:=L2 q1 g2.1;dsimp only;omega,l6,u6⟩⟩)⟩
         ·simp [hw] at h21
        ·rw [hi5] at h20;cases h20
       ·have hi5:v5=false:=sp_ h19;have hg5:=S5 hv5 hi5;have bz:=hf5 hi5;subst m5;refine qD (c4 rfl a91 o6 (Y7 hT hn hW [101,110,118] ⟨rfl,rfl,de_⟩) rfl ?_);rintro ⟨v6,m6⟩ ⟨hv6,hs6,hf6,hm6⟩;dsimp only at hv6 hs6 hf6 hm6 ⊢;refine qN [rbx T m6 at_ 0 ps b 1,o9 0 b.length,.box (tk T n).cells] rfl (qC ?_ ?_)<;> intro h32
        ·have hi6:v6=true:=sp_ h32;have hq:=(U8 (hv6.symm.trans hi6)).2;have bz:=hs6 hi6;subst m6;have hw:=(Q6 hq).2;refine qY P0 ?_;refine qC ?_ ?_<;>intro h33
         ·simp [hw] at h33
         ·refine qY P0 ?_;refine qC ?_ ?_<;>intro h34
          ·refine qD (c4 rfl a4w o6 (N9 hT hm6 hW [40] ⟨rfl,rfl,de_⟩) rfl ?_);rintro ⟨n1,a1,e1⟩ ⟨q1,y1⟩;dsimp only at q1 y1 ⊢;refine qN [rbx T n1 a1 e1 ps b 1,o9 e1 b.length,.box (tk T n).cells] rfl (qD (c4 rfl c3F j1 (b0b hT y1 hW false hc.l ⟨rfl,rfl,de_⟩) rfl ?_));rintro ⟨s2,n2,a2,e2⟩ ⟨q2,y2⟩;dsimp only at q2 y2 ⊢;refine d7I ?_;rintro ⟨n3,a3,e3⟩ ⟨q3,y3⟩;dsimp only at q3 y3 ⊢;refine d0J ?_;refine qD (c4 rfl a4s C8 (O0 hb ⟨9,0,0,s2,[]⟩ _ ⟨rfl,rfl,de_⟩) rfl ?_);rintro ⟨x6,a6,e6,b6⟩ ⟨k6,w6,l6,u6⟩;dsimp only at k6 w6 l6 u6 ⊢;refine d2s ?_;exact ⟨_,rE1,(by exact ⟨⟨x6,n3,a6,e6,b6⟩,U1 (k:=3) rfl rfl de_ (.val _),⟨by rw [a5I hq de_,d8G];exact q1.bindP (q2.bindT (fun t ht=>q3.bindP (a1P (by rw [ht];exact k6))) fun h=>k6.2 (q3.2 h)),do_,w6,fun h0=>by have g3:=L2 q3 (k6.alive h0).1;have g2:=a7M q2 g3.1;have:=L2 q1 g2.1;dsimp only;omega,l6,u6⟩⟩)⟩
          ·simp [hw] at h34
        ·have hi6:v6=false:=sp_ h32;have hg6:=S5 hv6 hi6;have bz:=hf6 hi6;subst m6;refine qD (c4 rfl a91 o6 (Y7 hT hn hW [102,108,105,112] ⟨rfl,rfl,de_⟩) rfl ?_);rintro ⟨v7,m7⟩ ⟨hv7,hs7,hf7,hm7⟩;dsimp only at hv7 hs7 hf7 hm7 ⊢;refine qN [rbx T m7 at_ 0 ps b 1,o9 0 b.length,.box (tk T n).cells] rfl (qC ?_ ?_)<;> intro h35
         ·have hi7:v7=true:=sp_ h35;have hq:=(U8 (hv7.symm.trans hi7)).2;have bz:=hs7 hi7;subst m7;refine qD (c4 rfl a4w o6 (N9 hT hm7 hW [40] ⟨rfl,rfl,de_⟩) rfl ?_);rintro ⟨n1,a1,e1⟩ ⟨q1,y1⟩;dsimp only at q1 y1 ⊢;refine qN [rbx T n1 a1 e1 ps b 1,o9 e1 b.length,.box (tk T n).cells] rfl ?_;refine d7d ?_;refine qD (c4 rfl c9f ⟨tt,tt⟩ (a8M hT y1 hW hc.nn ⟨rfl,rfl,de_⟩) rfl ?_);rintro ⟨x2,n2,a2,e2⟩ ⟨q2,y2,l2,u2⟩;dsimp only at q2 y2 l2 u2 ⊢;refine qN [rbx T n2 a2 e2 ps b 1,o9 e2 b.length,.box (tk T n).cells] rfl (qC ?_ ?_)<;> intro h36
          ·have aE:64<=x2:=sp_ h36;refine qD (c4 rfl b0W a2u (a0u _ _ de_ ⟨rfl,rfl,de_⟩) rfl ?_);rintro ⟨x0,y0⟩ bE;dsimp only at bE ⊢;refine qN [rbx T n2 x0 y0 ps b 1,o9 y0 b.length,.box (tk T n).cells] rfl (qD (c4 rfl a4w o6 (N9 hT y2 hW [41] ⟨rfl,rfl,de_⟩) rfl ?_));rintro ⟨n3,a3,e3⟩ ⟨q3,y3⟩;dsimp only at q3 y3 ⊢;refine d5J ?_;rintro ⟨x6,a6,e6,b6⟩ ⟨k6,w6,l6,u6⟩;dsimp only at k6 w6 l6 u6 ⊢;refine qN [rbx T n3 a6 e6 ps b6 3,.dead,.box (tk T n).cells,o9 e6 b6.length] rfl ?_;have he6:=k6.2 (q3.2 bE);refine c6 ?_;exact ⟨_,rE1,(by exact ⟨⟨x6,n3,a6,e6,b6⟩,U1 (k:=3) rfl rfl de_ (.val _),⟨by rw [a5I hq de_,c2f];exact q1.bindP (q2.bindI (fun t ht=>by dsimp only;rw [n_1 (by rw [ht];exact aE)];exact .none he6) fun _=>he6),do_,w6,fun h0=>absurd h0 he6,l6,u6⟩⟩)⟩
          ·have aE:¬ 64<=x2:=sp_ h36;refine qD (c4 rfl a4w o6 (N9 hT y2 hW [41] ⟨rfl,rfl,de_⟩) rfl ?_);rintro ⟨n3,a3,e3⟩ ⟨q3,y3⟩;dsimp only at q3 y3 ⊢;refine d5J ?_;rintro ⟨x6,a6,e6,b6⟩ ⟨k6,w6,l6,u6⟩;dsimp only at k6 w6 l6 u6 ⊢;refine d2s ?_;exact ⟨_,rE1,(by exact ⟨⟨x6,n3,a6,e6,b6⟩,U1 (k:=3) rfl rfl de_ (.val _),⟨by rw [a5I hq de_,c2f];exact q1.bindP (q2.bindI (fun t ht=>by dsimp only;rw [n_0 (by rw [ht];exact aE)];exact q3.bindP (a1P (by rw [ht];exact k6))) fun h=>k6.2 (q3.2 h)),do_,w6,fun h0=>by have g3:=L2 q3 (k6.alive h0).1;have g2:=c9l q2 g3.1;have:=L2 q1 g2.1;dsimp only;omega,l6,u6⟩⟩)⟩
         ·have hi7:v7=false:=sp_ h35;have hg7:=S5 hv7 hi7;have bz:=hf7 hi7;subst m7;have af:=c7k (ps:=ps) (f:=f) (d:=d) (b:=b) hk eh dV hg3 hg4 hg5 hg6 hg7;refine qD (c4 rfl b6h ⟨tt,tt⟩ (a65 hT hn hW ⟨rfl,rfl,de_⟩) rfl ?_);rintro ⟨s1,n1,a1,e1⟩ ⟨q1,y1⟩;dsimp only at q1 y1 ⊢;refine qN [rbx T n1 a1 e1 ps b 1,o9 e1 b.length,.box (tk T n).cells] rfl (qD (c4 rfl a8p o6 (W9 hT y1 hW [40] ⟨rfl,rfl,de_⟩) rfl ?_));rintro ⟨v8,m8⟩ ⟨dj,hs8,hf8,hm8⟩;dsimp only at dj hs8 hf8 hm8 ⊢;refine qN [rbx T m8 a1 e1 ps b 1,o9 e1 b.length,.box (tk T n).cells] rfl ?_;refine cC ?_ ?_<;>intro h37
          ·have hi8:v8=false:=sp_ h37;have bz:=hf8 hi8;subst m8;refine b23 ?_;refine H8 (α:=Nat) (fun j=>[(0,.ptr 0 0),(6,(iv ((tk T n).at_))),(14,(sv s1)),(137,(.list (ps.map scv) (gnn ps.length) none)),(138,iv ps.length),(139,iv j)]) (fun _=>[rbx T n1 a1 e1 ps b 1,o9 e1 b.length,.box (tk T n).cells]) (fun j=>j<=ps.length/\(e1=0->ixS ps s1 0=ixS (ps.drop j) s1 j)) (fun j=>ps.length - j) 0 ⟨n_4 _,fun _=>rfl⟩ tu_ rfl ?_;intro j E5 ⟨hj,hjx⟩;have cm:=hc.ps;refine qk (qC ?_ ?_)<;> intro h38
           ·have ab:j < ps.length:=sm_ h38;obtain ⟨w,cM⟩:∃ w,ps[j]? = some w:=⟨ps[j]'ab,si_⟩;refine qY (p9 rfl tt tt rfl rfl t_2 t_0 om_ (i8 cM) rfl) ?_;refine qY a7u ?_;refine qG D6 ?_;refine qG (fun hg=>b4A rfl hg rfl) ?_;refine qG (fun hg=>j5 rfl hg rfl b8U rfl c04 de_) ?_;refine qG (fun hg=>o5 rfl hg rfl c1u rfl rfl) ?_;refine a3G ?_;refine qC ?_ ?_<;>intro h39
            ·obtain ⟨hw,eA⟩:w=s1/\e1=0:=sp_ h39;subst eA;obtain ⟨_,bf,bv,hpn⟩:=b0e q1 rfl;have hix:ixS ps s1 0=j:=by rw [hjx rfl,b1s cM,n_1 hw]
             refine qY b2l ?_;refine qD (c4 rfl a4s C8 (O0 hb ⟨2,(j:Int),0,[],[]⟩ _ ⟨rfl,rfl,de_⟩) rfl ?_);rintro ⟨x6,a6,e6,b6⟩ ⟨k6,w6,l6,u6⟩;dsimp only at k6 w6 l6 u6 ⊢;refine qN [rbx T n1 a6 e6 ps b6 3,.dead,.box (tk T n).cells,o9 e6 b6.length] rfl ?_;refine c6 ?_;exact ⟨_,rE1,(by exact ⟨⟨x6,n1,a6,e6,b6⟩,U1 (k:=3) rfl rfl de_ (.val _),⟨by rw [af,hpn,n_9];dsimp only;rw [<- bf,<- bv,n_0 (by rw [S5 dj hi8];decide),hix,n_0 om_];exact a1P k6,do_,w6,fun h0=>by dsimp only;omega,l6,u6⟩⟩)⟩
            ·have dX:e1=0->¬ w=s1:=fun h0 hw=>by simp [hw,h0] at h39
             refine qY l9 ?_;exact ⟨(j+1),om_,⟨om_,fun h0=>by rw [hjx h0,b1s cM,n_0 (dX h0)]⟩,tu_,rfl⟩
           ·have aE:ps.length<=j:=sm_ h38;refine j4 ?_;refine qD (c4 rfl b0W a2u (a0u _ _ de_ ⟨rfl,rfl,de_⟩) rfl ?_);rintro ⟨x0,y0⟩ bE;dsimp only at bE ⊢;refine qN [rbx T n1 x0 y0 ps b 1,o9 y0 b.length,.box (tk T n).cells] rfl ?_;refine c6 ?_;exact ⟨_,rE1,(by exact ⟨⟨0,n1,x0,y0,b⟩,a5P bE rfl (.val _),.dead (fun _=>by
             rcases q1.zero with ⟨h0,_⟩ | ⟨_,h0⟩
             ·subst h0;obtain ⟨_,bf,bv,hpn⟩:=b0e q1 rfl;rw [af,hpn,n_9];dsimp only;rw [<- bf,<- bv,n_0 (by rw [S5 dj hi8];decide),hjx rfl,V2 aE];rfl
             ·rw [af,a87.1 h0];rfl) bE y1 hb ⟨de_,de_⟩⟩)⟩
          ·have hi8:v8=true:=sp_ h37;obtain ⟨eA,hq8⟩:=U8 (dj.symm.trans hi8);subst e1;have bz:=hs8 hi8;subst m8;obtain ⟨_,bf,bv,hpn⟩:=b0e q1 rfl;rw [hpn,n_9] at af;dsimp only at af;rw [<- bf,<- bv,n_1 hq8,c5u hq8] at af;refine qk (qY b2l ?_);refine c0f ?_;refine A6 hCC 4 rfl (α:=RG) (fun a=>[(0,.ptr 0 0),(1,iv d),(6,(iv ((tk T n).at_))),(17,.ptr 3 0)]) (fun a=>[rbx T a.m a.at_ a.e ps a.b (kg5 a.ph),ot1 a.ph a.e a.b.length,.dead,.box [(iv (3)),(iv (0)),(iv (0)),(sv s1),.list (a.l.map icv) (gnn a.l.length) (C2 a.l.length 5)],ot2 a.ph a.e a.b.length,o8 a.l.length]) (fun a=>(a.e=0->(A1 T ps (f+1)).fac d n b=(a4C T ps d a.g a.m a.b a.l).bind (fun a:List Int × Nat × List Ex=>L9 a.2.2 ⟨3,0,0,s1,a.1⟩ a.2.1)/\n < a.m/\a.l.length<=a.m/\8*(T.length - a.m)+7<=a.g)/\(a.e≠0->(A1 T ps (f+1)).fac d n b=none)/\a.m < T.length/\a.b.length<=256/\a.l.length<=T.length/\a.g<=f) (fun a=>if a.e=0 then T.length - a.m+1 else 0) ⟨⟨[],n1+1,a1,0,b,false,f⟩,[0,1,2,3,7,8],⟨fun _=>⟨af,do_,n_4 _,do_⟩,fun h=>absurd rfl h,hm8,hb,n_4 _,n_7 _⟩,⟨rfl,rfl⟩,ut_,uq_⟩ ?_;intro ⟨l,m,a2,e,b2,ph,g⟩ ⟨hI,hN,hm,bW,hlT,hgf⟩;dsimp only at hI hN hm bW hlT hgf ⊢;refine qk (qG D6 ?_);refine b9y (.val (.bool false)) rfl rfl tt rfl rfl (fun hg=>c4 rfl a8p ⟨hg,rfl,tt⟩ (W9 hT hm hW [41] (q:=0) (s:=kg5 ph) a1o) rfl ?_) (fun hg=>?_)
           ·
            obtain rfl:e=0:=sp_ hg;obtain ⟨hS,bL,fV,hgm⟩:=hI rfl;rintro ⟨v9,m9⟩ ⟨fg,gv,iz,fi⟩;dsimp only at fg gv iz fi ⊢;refine qo ?_;refine qN [rbx T m9 a2 0 ps b2 (kg5 ph),ot1 ph 0 b2.length,.dead,.box [(iv (3)),(iv (0)),(iv (0)),(sv s1),.list (l.map icv) (gnn l.length) (C2 l.length 5)],ot2 ph 0 b2.length,o8 l.length] P5 ?_;refine b70 ?_;refine qC ?_ ?_<;>intro h40
            ·have iJ:v9=false:=sp_ h40;have hg9:=S5 fg iJ;have bz:=iz iJ;subst m9;obtain ⟨g,rfl⟩:∃ g',g=g'+1:=⟨g - 1,om_⟩;refine qY a1g ?_;refine qC ?_ ?_<;>intro h41
             ·have hl:l≠[]:=by intro hl;subst hl;simp at h41
              rw [c0W hg9 hl] at hS;simp only [agS] at hS;refine qD (c4 rfl a4w o6 (N9 hT hm hW [44] (q:=0) (s:=kg5 ph) a1o) rfl ?_);rintro ⟨n2,a4,e2⟩ ⟨q2,y2⟩;dsimp only at q2 y2 ⊢;refine qN [rbx T n2 a4 e2 ps b2 (kg5 ph),ot1 ph e2 b2.length,.dead,.box [(iv (3)),(iv (0)),(iv (0)),(sv s1),.list (l.map icv) (gnn l.length) (C2 l.length 5)],ot2 ph e2 b2.length,o8 l.length] P5 ?_;refine d6H ?_;refine chf rfl (c8 rfl b62) ?_;refine a6Y ?_;refine chf rfl (c8 rfl l9) ?_;refine D9 ?_;refine B1 rfl rfl rfl (c4 rfl b8d j1 (hE g om_ (d+1) n2 a4 e2 b2 y2 bW om_ (fun h0=>by have:=L2 q2 h0;omega) _ 0 (kg5 ph) a1o) rfl ?_);rintro ⟨x3,n3,a3,e3,b3⟩ ⟨k3,y3,w3,z3,l3,u3⟩;dsimp only at k3 y3 w3 z3 l3 u3 ⊢;have eK:=V8 l x3;have eo:e3=0->m < n3/\n < n3/\(l++[x3]).length<=n3/\8*(T.length - n3)+7<=g:=fun h0=>by have:=z3 h0;have hq:=L2 q2 (k3.alive h0).1;omega
              have bU:(if e3=0 then T.length - n3+1 else 0) < (if (0:Int)=0 then T.length - m+1 else 0):=by
               rw [n_1 rfl]
               split
               ·rename_i h0;have:=eo h0;omega
               ·omega
              have cp:(l++[x3]).length<=T.length/\g<=f:=by omega
              have aW:=b8h hS q2 k3;refine a1u [rbx T n3 a3 e3 ps b3 6,.dead,.dead,.box [(iv (3)),(iv (0)),(iv (0)),(sv s1),.list (l.map icv) (gnn l.length) (C2 l.length 5)],.dead,o8 l.length,o9 e3 b3.length] P5 ?_;refine d5I ?_;refine B1 rfl rfl rfl (A7 rfl tt tt rfl si_ q_2 t_4 t_1 b95 t_8 rfl (.inr rfl) q_7 c9m C1 ((l++[x3]).map icv) (l++[x3]).length si_ si_ ?_);refine ⟨tt,?_⟩;refine d5d ?_;refine a8A ?_;exact ⟨⟨l++[x3],n3,a3,e3,b3,true,g⟩,[0,1,2,3,6,7],⟨bU,fun h0=>(aW.1 h0).2.elim fun j hj=>⟨by rw [hj.2,<- hj.1],(eo h0).2⟩,aW.2,y3,w3,cp⟩,⟨rfl,rfl⟩,ut_,⟨.inr ⟨_,rfl,.box ⟨.old a1c,.old (.val _),.old (.val _),.old (.val _),.old Y2,Z8 rfl,.old a21,tt⟩⟩,.inl rfl,.inl rfl,.inr ⟨_,rfl,.box ⟨.old (.val _),.old (.val _),.old (.val _),.old (.val _),C7.grow (f:=icv) (fun _=>⟨.val _,tt⟩) rfl,tt⟩⟩,.inr ⟨_,rfl,.same rfl W4⟩,.inr ⟨_,rfl,.same rfl B8⟩,tt⟩⟩
             ·have hl:l=[]:=by
               cases l with
               | nil=>rfl
               | cons x l=>simp at h41<;>omega
              subst hl;rw [b6e hg9] at hS;simp only [agS] at hS;have q2:Ok 0 (some m) 0 m:=.some;refine d6H ?_;refine chf rfl (c8 rfl b62) ?_;refine a6Y ?_;refine chf rfl (c8 rfl l9) ?_;refine D9 ?_;refine B1 rfl rfl rfl (c4 rfl b8d j1 (hE g om_ (d+1) m a2 0 b2 hm bW om_ (fun _=>by omega) _ 0 (kg5 ph) a1o) rfl ?_);rintro ⟨x3,n3,a3,e3,b3⟩ ⟨k3,y3,w3,z3,l3,u3⟩;dsimp only at k3 y3 w3 z3 l3 u3 ⊢;have eK:=V8 ([]:List Int) x3;have eo:e3=0->m < n3/\n < n3/\(([]:List Int)++[x3]).length<=n3/\8*(T.length - n3)+7<=g:=fun h0=>by have:=z3 h0;omega
              have bU:(if e3=0 then T.length - n3+1 else 0) < (if (0:Int)=0 then T.length - m+1 else 0):=by
               rw [n_1 rfl]
               split
               ·rename_i h0;have:=eo h0;omega
               ·omega
              have cp:(([]:List Int)++[x3]).length<=T.length/\g<=f:=by omega
              have aW:=b8h hS q2 k3;refine a1u [rbx T n3 a3 e3 ps b3 6,.dead,.dead,.box [(iv (3)),(iv (0)),(iv (0)),(sv s1),.list ([].map icv) (gnn ([]:List Int).length) (C2 ([]:List Int).length 5)],.dead,o8 ([]:List Int).length,o9 e3 b3.length] P5 ?_;refine d5I ?_;refine B1 rfl rfl rfl (A7 rfl tt tt rfl si_ q_2 t_4 t_1 b95 t_8 rfl (.inr rfl) q_7 c9m C1 (([]++[x3]).map icv) ([]++[x3]).length si_ si_ ?_);refine ⟨tt,?_⟩;refine d5d ?_;refine a8A ?_;exact ⟨⟨[]++[x3],n3,a3,e3,b3,true,g⟩,[0,1,2,3,6,7],⟨bU,fun h0=>(aW.1 h0).2.elim fun j hj=>⟨by rw [hj.2,<- hj.1],(eo h0).2⟩,aW.2,y3,w3,cp⟩,⟨rfl,rfl⟩,ut_,⟨.inr ⟨_,rfl,.box ⟨.old a1c,.old (.val _),.old (.val _),.old (.val _),.old Y2,Z8 rfl,.old a21,tt⟩⟩,.inl rfl,.inl rfl,.inr ⟨_,rfl,.box ⟨.old (.val _),.old (.val _),.old (.val _),.old (.val _),C7.grow (f:=icv) (fun _=>⟨.val _,tt⟩) rfl,tt⟩⟩,.inr ⟨_,rfl,.same rfl W4⟩,.inr ⟨_,rfl,.same rfl B8⟩,tt⟩⟩
            ·have iJ:v9=true:=sp_ h40;obtain ⟨_,hq9⟩:=U8 (fg.symm.trans iJ);have bz:=gv iJ;subst m9;rw [c4S hq9,n_9] at hS;refine j4 ?_;refine qD (c4 rfl a4s C8 (O0 bW ⟨3,0,0,s1,l⟩ _ (q:=0) (s:=kg5 ph) a1o) rfl ?_);rintro ⟨x6,a6,e6,b6⟩ ⟨k6,w6,l6,u6⟩;dsimp only at k6 w6 l6 u6 ⊢;refine qN [rbx T (m+1) a6 e6 ps b6 6,.dead,.dead,.box [(iv (3)),(iv (0)),(iv (0)),(sv s1),.list (l.map icv) (gnn l.length) (C2 l.length 5)],.dead,o8 l.length,o9 e6 b6.length] P5 ?_;refine c6 ?_;exact ⟨_,rE1,(by exact ⟨⟨x6,m+1,a6,e6,b6⟩,U1 (k:=6) rfl rfl de_ (.val _),⟨by rw [hS];exact a1P k6,do_,w6,fun h0=>by dsimp only;omega,l6,u6⟩⟩)⟩
           ·
            refine qo ?_;refine b70 ?_;refine qC ?_ ?_<;>intro h42
            ·have he:e≠0:=sp_ hg;simp [he] at h42
            ·have he:e≠0:=sp_ hg;refine j4 ?_;refine qD (c4 rfl a4s C8 (O0 bW ⟨3,0,0,s1,l⟩ _ (q:=0) (s:=kg5 ph) a1o) rfl ?_);rintro ⟨x6,a6,e6,b6⟩ ⟨k6,w6,l6,u6⟩;dsimp only at k6 w6 l6 u6 ⊢;refine qN [rbx T m a6 e6 ps b6 6,.dead,.dead,.box [(iv (3)),(iv (0)),(iv (0)),(sv s1),.list (l.map icv) (gnn l.length) (C2 l.length 5)],.dead,o8 l.length,o9 e6 b6.length] P5 ?_;refine c6 ?_;exact ⟨_,rE1,(by exact ⟨⟨x6,m,a6,e6,b6⟩,U1 (k:=6) rfl rfl de_ (.val _),.dead (fun _=>hN he) (k6.2 he) hm w6 ⟨l6,u6⟩⟩)⟩
theorem c40 {ps:List Str} (hc:a0j T ps) (H:∀ g,g < f0->REC T ps g):RFC T ps f0:=fun d n at_ b hn hb hd hf σ q s am=>by
 obtain ⟨f,rfl⟩:∃ f,f0=f+1:=⟨f0 - 1,om_⟩;exact a1U (c:=fun a:RX=>(iv a.x)) (N:=fun a=>a.n) (A:=fun a=>a.at_) (E:=fun a=>a.e) (B:=fun a=>a.b) (fun _ h=>by simp at h;subst h;exact .val _) (fun _=>.val _) (c0l hc (fun g hg=>H g om_) d n at_ b hn hb hd hf) am
theorem d7U {ps:List Str} (hc:a0j T ps):∀ f,REC T ps f/\RSC T ps f/\RTC T ps f/\RFC T ps f:=fun f=>by
 induction f using Nat.strongRecOn with
 | ind f H =>
  exact ⟨d2J hc fun g hg=>⟨(H g hg).1,(H g hg).2.1⟩,d7V hc fun g hg=>(H g hg).2.2.1,d3a hc fun g hg=>(H g hg).2.2.2,c40 hc fun g hg=>(H g hg).1⟩
theorem c5v {l:List De} {p:De->Bool} {y:De} (h:l[i]? = some y) (hd:l.any p=(l.drop i).any p) (hy:p y=false):l.any p=(l.drop (i+1)).any p:=by
 obtain ⟨ab,rfl⟩:=n_3.1 h;rw [hd,R2 ab,List.any_cons,hy,Bool.false_or]
theorem b24 {l:List De} {p:De->Bool} {y:De} (h:l[i]? = some y) (hy:p y=true):l.any p=true:=List.any_eq_true.2 ⟨y,n_2 h,hy⟩
theorem c09 (f:Src) (k:Int) (u:Str) (hl:f.decls.length<=1000000) (σ:List b9):b8 CC 224 [.agg f.cells,iv k,(sv u)] σ fun r Y=>r = .ret (.val (.bool (f.decls.any fun d=>(d.k == k) && decide (d.name=u))))/\Y=σ:=by
 refine b8.anyw hCC pu_ pu_ (c7 (qO Tryz.func224 ?_)) σ;refine d0o ?_;refine j7 hCC (α:=Nat) (fun i=>[(1,iv k),(2,(sv u)),(10,(.list (f.decls.map De.cv) (gnn f.decls.length) none)),(11,iv f.decls.length),(12,iv i)]) (fun _=>[.box f.cells]) (fun i=>i<=f.decls.length/\(f.decls.any fun d=>(d.k == k) && decide (d.name=u))=((f.decls.drop i).any fun d=>(d.k == k) && decide (d.name=u))) (fun i=>f.decls.length - i) 0 ⟨n_4 _,rfl⟩ tu_ (ah:=[]) rfl z6 uz_ ?_;intro i ⟨hi,hd⟩;refine qk (qC ?_ ?_)<;> intro h1
 ·have ab:i < f.decls.length:=sm_ h1;obtain ⟨w,hb⟩:∃ w,f.decls[i]? = some w:=⟨f.decls[i]'ab,si_⟩;refine qY c9J ?_;refine z_7 ?_;refine qG b9k ?_;refine b9N ?_;refine qC ?_ ?_<;>intro h2
  ·have hw:((w.k == k) && decide (w.name=u))=true:=sp_ h2;refine c6 ?_;exact ⟨_,rE1,_,_,rfl,rfl,j8 (show true=(f.decls.any fun d=>(d.k == k) && decide (d.name=u)) from (b24 hb hw).symm)⟩
  ·have hw:((w.k == k) && decide (w.name=u))=false:=sp_ h2;exact d6E
 ·have aE:f.decls.length<=i:=sm_ h1;refine z_9 ?_;exact ⟨_,rE1,_,_,rfl,rfl,j8 (show false=(f.decls.any fun d=>(d.k == k) && decide (d.name=u)) by rw [hd,V2 aE];rfl)⟩
theorem c2i {τ:List b9} {n k:Nat} {at_ e:Int} {ps:List Str} {b:List Ex} {c c':CV} (h0:τ[0]? = some (rbx T n at_ e ps b k)) (hk:τ[k]? = some (o9 e b.length)) (h2:2<=k) (hc:∀ ak,C7 2 ak c c'):E8 2 τ (.ret c) (.ret c') (a6M T n at_ e ps b):=by
 obtain ⟨ak,a1,a2,_,a4⟩:=U1 h0 hk h2 (Old.val (.int .i64 0));exact ⟨ak,a1,a2,.ret (hc ak),a4⟩
theorem c0c {f:FuncId} {args:List CV} {c:α->CV} {N:α->Nat} {A E:α->Int} {Z:α->List Str} {B:α->List Ex} {P:α->Prop} {n:Nat} {at_ e:Int} {ps:List Str} {b:List Ex} (ao:∀ a∈args,r4 a) (hc:∀ a,r4 (c a))
 (h:b8 CC f (.ptr 0 0::args) (rst T n at_ e ps b) fun r τ=>∃ a,E8 2 τ r (.ret (c a)) (a6M T (N a) (A a) (E a) (Z a) (B a))/\P a) {σ:List b9} {q s:Nat} (am:RAt σ q s T n at_ e ps b) :
 b8 CC f (.ptr q 0::args) σ fun r τ=>∃ a,r = .ret (c a)/\τ=rS1 σ q s T (N a) (A a) (E a) (Z a) (B a)/\P a:=by
 obtain ⟨h1,h2,h3⟩:=am;have hq:=(n_3.1 h1).1;have hs:=(n_3.1 h2).1;have h':b8 CC f (.ptr 0 0::args) (rst T n at_ e ps b) fun r τ=>∃ a,r = .ret (c a)/\τ=a6M T (N a) (A a) (E a) (Z a) (B a)/\P a :=
  I5 hCC (h.mono fun r τ ⟨a,k1,k2⟩=>⟨_,_,k1,a,rfl,rfl,k2⟩)
 refine I3 [q,s] hCC rfl (fun i j k g1 g2=>?_) (fun i k ob g1 g2=>?_) (.cons (.ptr rfl) (L3 ao)) h' fun r τ hk=>?_
 ·rcases i with _ | _ | i<;>rcases j with _ | _ | j<;>simp at g1 g2<;>first|rfl|(exfalso;exact h3 (g1.trans g2.symm))|(exfalso;exact h3 (g2.trans g1.symm))
 ·rcases i with _ | _ | i
  ·simp at g1 g2;subst g1 g2;exact ⟨_,h1,a7C rfl⟩
  ·simp at g1 g2;subst g1 g2;exact ⟨_,h2,a4Z _ _⟩
  ·simp at g1
 ·obtain ⟨a,rfl,rfl,hp⟩:=hk;refine ⟨si_,.ret (c a),rS1 σ q s T (N a) (A a) (E a) (Z a) (B a),.ret (.pure (hc a)),si_,fun k hk bA=>?_,fun i k x ha hx=>?_,a,rfl,rfl,hp⟩
  ·have n1:q≠k:=fun e=>bA a1Q;have n2:s≠k:=fun e=>bA a1Q;rw [R3 (sp_ hk)];simp [n1,n2]
  ·rcases ha with ha | ⟨ha,rfl⟩
   ·rcases i with _ | _ | i
    ·simp at ha hx;subst ha hx;refine ⟨rbx T (N a) (A a) (E a) (Z a) (B a) σ.length,?_,a7C (.inr ⟨si_,si_⟩)⟩;rw [R3 (sp_ hq),a2i h3.symm];simp [hq]
    ·simp at ha hx;subst ha hx;refine ⟨.dead,?_,.dead⟩;rw [R3 (sp_ hs)];simp [hs]
    ·simp at ha
   ·rcases i with _ | _ | _ | i
    ·simp at ha
    ·simp at ha
    ·simp at hx;subst hx;refine ⟨o9 (E a) (B a).length,?_,a4Z _ _⟩;rw [a1f si_];simp
    ·simp at hx
theorem d2d:G4 [102,117,110,99]=1:=by decide
theorem d4k:G4 [116,101,115,116]=2:=by decide
theorem d2c:G4 [103,101,110]=3:=by decide
theorem d2G (h1:¬ u=[102,117,110,99]) (h2:¬ u=[116,101,115,116]) (h3:¬ u=[103,101,110]):G4 u=0:=by
 have e:dkL=[([102,117,110,99],1),([116,101,115,116],2),([103,101,110],3)]:=by decide
 rw [G4,e];simp only [glk,n_0 h1,n_0 h2,n_0 h3];rfl
theorem d9M {n:Nat} (h1:isT (tk T n) 1 [102,117,110,99]=false) (h2:isT (tk T n) 1 [116,101,115,116]=false) (h3:isT (tk T n) 1 [103,101,110]=false):(tk T n).k≠1\/G4 (tk T n).t=0:=by
 by_cases hk:(tk T n).k=1
 ·exact .inr (d2G (a4M h1 hk) (a4M h2 hk) (a4M h3 hk))
 ·exact .inl hk
theorem Ok.of {e:Int} (h1:e'=0->e=0/\o=Option.some y) (h2:e'≠0->e=0->o=Option.none):Ok e o e' y :=
 ⟨fun h=>by
  by_cases h':e'=0
  ·exact .inl ⟨(h1 h').2,h'⟩
  ·exact .inr ⟨h2 h' h,h'⟩,fun h h'=>h (h1 h').1⟩
theorem Ok.pre {e:Int} (h:Ok e1 o e' y) (h1:e=0->e1=0) (h2:e≠0->e1≠0):Ok e o e' y:=⟨fun h0=>h.1 (h1 h0),fun h0=>h.2 (h2 h0)⟩
def a6v (T:List Tok) (m:Nat) (l:List Str):Option (List Str × Nat) :=
 if l=[] then (if isT (tk T m) 4 [41]=true then Option.some ([],m+1) else a2s 9 T m [])
 else if isT (tk T m) 4 [44]=true then a2s (9 - l.length) T (m+1) l else (pIs T m 4 [41]).bind fun m'=>Option.some (l,m')
theorem c4Y {n m:Nat} (h:pIs T n 4 [40]=some m):M4 T n=a6v T m []:=by
 rw [M4,h,n_9,a6v,n_1 rfl]
theorem c46 {m:Nat} {l:List Str} (h:isT (tk T m) 4 [41]=true):a6v T m l=some (l,m+1):=by
 unfold a6v;by_cases hl:l=[]
 ·rw [n_1 hl,n_1 h,hl]
 ·rw [n_0 hl,n_0 (by simp [isT,(Q6 h).2]),pIs,n_1 h];rfl
def b5R (T:List Tok) (m:Nat) (l:List Str):Option Nat:=if l=[] then some m else pIs T m 4 [44]
theorem c1a {m:Nat} {l:List Str} (h:isT (tk T m) 4 [41]=false):a6v T m l=(b5R T m l).bind fun m'=>a2s (9 - l.length) T m' l:=by
 unfold a6v b5R;by_cases hl:l=[]
 ·subst hl;rw [n_1 rfl,n_1 rfl,n_0 (by rw [h];decide)];rfl
 ·rw [n_0 hl,n_0 hl];unfold pIs;by_cases h4:isT (tk T m) 4 [44]=true
  ·rw [n_1 h4,n_1 h4];rfl
  ·rw [n_0 h4,n_0 h4,n_0 (by rw [h];decide)];rfl
theorem e0v {m:Nat} {l:List Str} (hl:l.length<=8):a2s (9 - l.length) T m l=(K0 T m).bind fun x=>if l.length=8 then none else if x.1.t∈l then none else a6v T x.2 (l++[x.1.t]):=by
 obtain ⟨f,hf⟩:∃ f,9 - l.length=f+1:=⟨8 - l.length,om_⟩;rw [hf,a2s];refine n_8 _ (funext fun x=>?_);by_cases h8:l.length=8
 ·rw [n_1 h8,n_1 h8]
 ·rw [n_0 h8,n_0 h8];by_cases hm:x.1.t∈l
  ·rw [n_1 hm,n_1 hm]
  ·rw [n_0 hm,n_0 hm];unfold a6v;rw [show 9 - (l++[x.1.t]).length=f by simp;omega];exact (n_0 si_).symm
theorem a40 {m:Nat} {l:List Str} {S:Option (List Str × Nat)} {s3:Str} (hl:l.length<=8) (hS:S=(b5R T m l).bind fun m'=>a2s (9 - l.length) T m' l) (q2:Ok 0 (b5R T m l) e2 n2) (q3:Ok e2 ((K0 T n2).map fun x=>(x.1.t,x.2)) e3 (s3,n3))
 (h1:l.length=8\/s3∈l->e4≠0) (h2:¬ l.length=8->¬ s3∈l->e4=e3) (h3:e3≠0->e4≠0):(e4=0->e3=0/\e2=0/\l.length < 8/\S=a6v T n3 (l++[s3]))/\(e4≠0->S=none):=by
 rcases q2.zero with ⟨g2,ho⟩ | ⟨g2,ho⟩
 ·subst g2;rw [ho,n_9,e0v hl] at hS
  rcases q3.zero with ⟨g3,hn⟩ | ⟨g3,hn⟩
  ·obtain ⟨x,hx,hg⟩:=N6.1 hn;injection hg with eh dV
   rw [hx,n_9,eh,dV] at hS;by_cases h8:l.length=8
   ·rw [n_1 h8] at hS;exact ⟨fun h=>absurd h (h1 (.inl h8)),fun _=>hS⟩
   ·rw [n_0 h8] at hS;by_cases hm:s3∈l
    ·rw [n_1 hm] at hS;exact ⟨fun h=>absurd h (h1 (.inr hm)),fun _=>hS⟩
    ·rw [n_0 hm] at hS;exact ⟨fun _=>⟨g3,rfl,om_,hS⟩,fun h=>absurd (by rw [h2 h8 hm,g3]) h⟩
  ·rw [a87.1 hn] at hS;exact ⟨fun h=>absurd h (h3 g3),fun _=>hS⟩
 ·rw [ho] at hS;exact ⟨fun h=>absurd h (h3 (q3.2 g2)),fun _=>hS⟩
structure RP5 where
 l:List Str
 m:Nat
 at_:Int
 e:Int
structure RD5 where
 d:De
 n:Nat
 at_:Int
 e:Int
 ps:List Str
 b:List Ex
variable {d:Nat}
def RDP (T:List Tok) (bs:List De) (n:Nat) (a:RD5):Prop:=Ok 0 (a0N T bs n) a.e (a.d,a.n)/\a.n < T.length/\a.b.length<=256/\(a.e=0->n < a.n)
theorem d7P {m:Nat} {l:List Str} (q:Ok 0 (b5R T m l) e2 n2) (h:e2=0):m<=n2:=by
 have h1:=(q.alive h).2;unfold b5R at h1;by_cases hl:l=[]
 ·rw [n_1 hl] at h1;injection h1 with h1
  omega
 ·rw [n_0 hl] at h1;have:=P9 h1;omega
theorem d2v {bs:List De} {n m n6 n8:Nat} {kd e8 x7:Int} {s2:Str} {l:List Str} {b7:List Ex} (hu:¬ ((tk T n).k≠1\/G4 (tk T n).t=0)) (hkd:kd=G4 (tk T n).t) (p1:bs.length=64->e1≠0) (p2:bs.length≠64->e1=0) (q2:Ok e1 ((a3a T kd (n+1)).map fun x=>(x.1.t,x.2)) e2 (s2,n2))
 (p3:e2≠0->e3≠0) (p4:e2=0->(bs.any fun d=>(d.k == kd) && decide (d.name=s2))=true->e3≠0) (p5:e2=0->(bs.any fun d=>(d.k == kd) && decide (d.name=s2))=false->e3=0) (q5:Ok e3 (a3u T kd n2) e5 (l,m)) (q6:Ok e5 (pIs T m 4 [61]) e6 n6) (k7:Ok e6 (((A1 T l (8*T.length+6)).ex 1 n6 []).map cx) e7 (x7,n7,b7)) (q8:Ok e7 (pIs T n7 4 [59]) e8 n8) :
 Ok 0 (a0N T bs n) e8 (⟨kd,s2,l,b7⟩,n8):=by
 have d8:e3≠0->e8≠0:=fun h=>q8.2 (k7.2 (q6.2 (q5.2 h)));rw [a0N,n_0 hu,<- hkd];by_cases iy:bs.length=64
 ·rw [n_1 iy];exact .none (d8 (p3 (q2.2 (p1 iy))))
 ·rw [n_0 iy];have eA:=p2 iy;subst eA;refine q2.bindM (fun p hp hg=>?_) fun h=>d8 (p3 h);obtain ⟨t,m2⟩:=p;injection hg with eh dV
  dsimp only at eh dV ⊢;subst eh dV;by_cases bC:(bs.any fun d=>(d.k == kd) && decide (d.name=t.t))=true
  ·rw [n_1 bC];by_cases h2:e2=0
   ·exact .none (d8 (p4 h2 bC))
   ·exact .none (d8 (p3 h2))
  ·rw [n_0 bC];refine Ok.pre ?_ (fun h=>p5 h (sp_ bC)) p3;refine q5.bind (q6.bind ?_);refine k7.bindM (fun p hp hg=>?_) q8.2;obtain ⟨i,n7',b7'⟩:=p;injection hg with eh dV
   injection dV with dV hg3
   dsimp only at dV hg3 ⊢;subst dV hg3;exact q8.bind .some
theorem d4n {bs:List De} {n m n6 n8:Nat} {kd e8 x7:Int} {s2:Str} {l:List Str} {b7:List Ex} (_:kd=G4 (tk T n).t) (_:bs.length=64->e1≠0) (_:bs.length≠64->e1=0) (q2:Ok e1 ((a3a T kd (n+1)).map fun x=>(x.1.t,x.2)) e2 (s2,n2))
 (p3:e2≠0->e3≠0) (_:e2=0->(bs.any fun d=>(d.k == kd) && decide (d.name=s2))=true->e3≠0) (_:e2=0->(bs.any fun d=>(d.k == kd) && decide (d.name=s2))=false->e3=0) (q5:Ok e3 (a3u T kd n2) e5 (l,m)) (q6:Ok e5 (pIs T m 4 [61]) e6 n6) (k7:Ok e6 (((A1 T l (8*T.length+6)).ex 1 n6 []).map cx) e7 (x7,n7,b7)) (z7:e7=0->n6 < n7) (q8:Ok e7 (pIs T n7 4 [59]) e8 n8) (h0:e8=0) :
 n < n8:=by
 have g8:=L2 q8 h0;have g7:=(k7.alive g8.1).1;have g6:=L2 q6 g7;have g5:=q5.alive g6.1;have h2:e2=0:=Classical.byContradiction fun h=>p3 h g5.1;obtain ⟨p,hp,hg⟩:=N6.1 (q2.alive h2).2;obtain ⟨t,m2⟩:=p;injection hg with _ dV
 dsimp only at dV;subst dV;have:=b61 hp;have:=b7t g5.2;have:=z7 g8.1;omega
theorem d0U {ps:List Str} (hc:a0j T []) (pk:Str) (im:List Str) (bs:List De) (hbs:bs.length<=64) (n:Nat) (at_:Int) (b:List Ex) (hn:n < T.length):b8 CC 187 [.ptr 0 0,.agg (⟨pk,im,bs⟩:Src).cells] (rst T n at_ 0 ps b) (fun r τ=>∃ a:RD5,E8 2 τ r (.ret (.agg a.d.cells)) (a6M T a.n a.at_ a.e a.ps a.b)/\RDP T bs n a):=by
 have hT:=hc.len;have hW:=hc.w;refine cO Tryz.func187 ?_;refine b5L ?_;refine J1 [rbx T n at_ 0 ps b 1,o9 0 b.length,.dead] rfl ?_;refine b2H ?_;refine cD (p8 rfl a9K rfl j6 ?_);refine a7y ?_;refine cD (p8 rfl a9K rfl j6 ?_);refine x9 ?_;refine a7x ?_;refine d6k ?_;refine cD (j2 rfl tt rfl rfl j3 a2j (.inl rfl) rfl rfl (nb rfl) ?_);refine cY a6k ?_;refine cY c2Z ?_;refine cD (j2 rfl tt rfl rfl j3 b2b (.inl rfl) rfl rfl (nb rfl) ?_);refine x9 ?_;refine J1 [rbx T n at_ 0 [] [] 2,o9 0 b.length,o9 0 ([]:List Ex).length,.box (⟨pk,im,bs⟩:Src).cells,.box (⟨0,[],[],[]⟩:De).cells,.box (⟨0,[],[],[]⟩:De).cells] rfl ?_;refine z_4 ?_;refine ye rfl a7H ⟨tt,tt⟩ (a0z hT hn (q:=0) (s:=2) ⟨rfl,rfl,de_⟩) rfl ?_;refine cY a4h ?_;refine z_3 ?_;refine N4 (α:=Int) (fun _=>[(0,.ptr 0 0),(3,.ptr 3 0),(4,.ptr 4 0),(5,.ptr 5 0),(6,(iv ((tk T n).at_)))]) (fun kd=>[rbx T (n+1) at_ 0 [] [] 2,o9 0 b.length,o9 0 ([]:List Ex).length,.box (⟨pk,im,bs⟩:Src).cells,.box (⟨0,[],[],[]⟩:De).cells,.box (⟨kd,[],[],[]⟩:De).cells]) (fun kd=>kd=G4 (tk T n).t/\(tk T n).k=1/\(kd=1\/kd=2\/kd=3)/\n+1 < T.length) ?_ ?_
 ·
  refine z_4 ?_;refine de rfl a91 o6 (Y7 hT hn hW [102,117,110,99] (q:=0) (s:=2) ⟨rfl,rfl,de_⟩) rfl ?_;rintro ⟨v1,m1⟩ ⟨dI,bv,dE,bX⟩;dsimp only at dI bv dE bX ⊢;refine K3 [rbx T m1 at_ 0 [] [] 2,o9 0 b.length,o9 0 ([]:List Ex).length,.box (⟨pk,im,bs⟩:Src).cells,.box (⟨0,[],[],[]⟩:De).cells,.box (⟨0,[],[],[]⟩:De).cells] rfl ?_;refine x9 ?_;refine cC ?_ ?_<;>intro h1
  ·have eL:v1=true:=sp_ h1;have hq:=(U8 (dI.symm.trans eL)).2;have bz:=bv eL;subst m1;refine G5 ?_;refine d0c ?_;refine x9 ?_;exact ⟨(1:Int),⟨by rw [(Q6 hq).2,d2d],(Q6 hq).1,de_,bX⟩,tu_,rfl⟩
  ·have eL:v1=false:=sp_ h1;have eh:=S5 dI eL;have bz:=dE eL;subst m1;refine z_4 ?_;refine de rfl a91 o6 (Y7 hT hn hW [116,101,115,116] (q:=0) (s:=2) ⟨rfl,rfl,de_⟩) rfl ?_;rintro ⟨v2,m2⟩ ⟨cy,dA,gM,bT⟩;dsimp only at cy dA gM bT ⊢;refine K3 [rbx T m2 at_ 0 [] [] 2,o9 0 b.length,o9 0 ([]:List Ex).length,.box (⟨pk,im,bs⟩:Src).cells,.box (⟨0,[],[],[]⟩:De).cells,.box (⟨0,[],[],[]⟩:De).cells] rfl ?_;refine x9 ?_;refine cC ?_ ?_<;>intro h2
   ·have cQ:v2=true:=sp_ h2;have hq:=(U8 (cy.symm.trans cQ)).2;have bz:=dA cQ;subst m2;refine G5 ?_;refine d0c ?_;refine x9 ?_;exact ⟨(2:Int),⟨by rw [(Q6 hq).2,d4k],(Q6 hq).1,de_,bT⟩,tu_,rfl⟩
   ·have cQ:v2=false:=sp_ h2;have dV:=S5 cy cQ;have bz:=gM cQ;subst m2;refine z_4 ?_;refine de rfl a91 o6 (Y7 hT hn hW [103,101,110] (q:=0) (s:=2) ⟨rfl,rfl,de_⟩) rfl ?_;rintro ⟨v3,m3⟩ ⟨hv3,fS,hf3,gf⟩;dsimp only at hv3 fS hf3 gf ⊢;refine K3 [rbx T m3 at_ 0 [] [] 2,o9 0 b.length,o9 0 ([]:List Ex).length,.box (⟨pk,im,bs⟩:Src).cells,.box (⟨0,[],[],[]⟩:De).cells,.box (⟨0,[],[],[]⟩:De).cells] rfl ?_;refine x9 ?_;refine cC ?_ ?_<;>intro h3
    ·have fT:v3=true:=sp_ h3;have hq:=(U8 (hv3.symm.trans fT)).2;have bz:=fS fT;subst m3;refine G5 ?_;refine d0c ?_;refine x9 ?_;exact ⟨(3:Int),⟨by rw [(Q6 hq).2,d2c],(Q6 hq).1,de_,gf⟩,tu_,rfl⟩
    ·have fT:v3=false:=sp_ h3;have hg3:=S5 hv3 fT;have bz:=hf3 fT;subst m3;refine z_4 ?_;refine c4z ?_;rintro ⟨x0,y0⟩ bE;dsimp only at bE ⊢;refine K3 [rbx T n x0 y0 [] [] 2,o9 0 b.length,o9 y0 ([]:List Ex).length,.box (⟨pk,im,bs⟩:Src).cells,.box (⟨0,[],[],[]⟩:De).cells,.box (⟨0,[],[],[]⟩:De).cells] rfl ?_;refine a7y ?_;refine cY (M3 rfl tt rfl c12 a4O rfl (nb rfl)) ?_;refine c6U ?_;refine c6 ?_;exact ⟨_,C6 rfl d1e,(by exact ⟨⟨⟨0,[],[],[]⟩,n,x0,y0,[],[]⟩,c2i (k:=2) rfl rfl de_ (fun _=>c1q _ _ _ _ _),⟨by rw [a0N,n_1 (d9M (S5 dI eL) (S5 cy cQ) (S5 hv3 fT))];exact .none bE,hn,n_4 _,fun h0=>absurd h0 bE⟩⟩)⟩
 ·rintro kd E1 ⟨hkd,bw,hk3,bf⟩;have hu1:¬ ((tk T n).k≠1\/G4 (tk T n).t=0):=by rw [<- hkd];omega
  refine N4 (α:=Int × Int) (fun _=>[(0,.ptr 0 0),(3,.ptr 3 0),(4,.ptr 4 0),(5,.ptr 5 0)]) (fun a=>[rbx T (n+1) a.1 a.2 [] [] 2,o9 0 b.length,o9 a.2 ([]:List Ex).length,.box (⟨pk,im,bs⟩:Src).cells,.box (⟨0,[],[],[]⟩:De).cells,.box (⟨kd,[],[],[]⟩:De).cells]) (fun a=>(bs.length=64->a.2≠0)/\(bs.length≠64->a.2=0)) ?_ ?_
  ·
   refine z_0 ?_;refine cY b9I ?_;refine cY b9M ?_;refine cY a4z ?_;refine b2E ?_;refine cC ?_ ?_<;>intro h4
   ·have iy:bs.length=64:=sm_ h4;refine a6R ?_;refine c4z ?_;rintro ⟨x0,y0⟩ bE;dsimp only at bE ⊢;refine K3 [rbx T (n+1) x0 y0 [] [] 2,o9 0 b.length,o9 y0 ([]:List Ex).length,.box (⟨pk,im,bs⟩:Src).cells,.box (⟨0,[],[],[]⟩:De).cells,.box (⟨kd,[],[],[]⟩:De).cells] rfl ?_;refine x9 ?_;exact ⟨(x0,y0),⟨fun _=>bE,fun h=>absurd iy h⟩,tu_,rfl⟩
   ·have iy:¬ bs.length=64:=sm_ h4;refine C9 ?_;exact ⟨(at_,0),⟨fun h=>absurd h iy,fun _=>rfl⟩,tu_,rfl⟩
  ·rintro ⟨a1,e1⟩ E2 ⟨p1,p2⟩;dsimp only at p1 p2 ⊢;refine z_4 ?_;refine ye rfl a7H ⟨tt,tt⟩ (a0z hT bf (q:=0) (s:=2) ⟨rfl,rfl,de_⟩) rfl ?_;refine cY a4h ?_;refine z_3 ?_;refine N4 (α:=Str × Nat × Int × Int) (fun _=>[(0,.ptr 0 0),(3,.ptr 3 0),(4,.ptr 4 0),(5,.ptr 5 0),(6,(iv ((tk T (n+1)).at_)))]) (fun a=>[rbx T a.2.1 a.2.2.1 a.2.2.2 [] [] 2,o9 0 b.length,o9 a.2.2.2 ([]:List Ex).length,.box (⟨pk,im,bs⟩:Src).cells,.box (⟨0,[],[],[]⟩:De).cells,.box (⟨kd,a.1,[],[]⟩:De).cells]) (fun a=>Ok e1 ((a3a T kd (n+1)).map fun x=>(x.1.t,x.2)) a.2.2.2 (a.1,a.2.1)/\a.2.1 < T.length) ?_ ?_
   ·
    refine z_0 ?_;refine b7E ?_;refine b2E ?_;refine cC ?_ ?_<;>intro h5
    ·have hk:kd=3:=sp_ h5;have hh:∀ m,a3a T kd m=a0L T m:=fun m=>n_1 hk;refine a6R ?_;refine de rfl c3F o6 (b0b hT bf hW true hc.l (q:=0) (s:=2) ⟨rfl,rfl,de_⟩) rfl ?_;rintro ⟨s2,n2,a2,e2⟩ ⟨q2,y2⟩;dsimp only at q2 y2 ⊢;rw [a3K] at q2;refine e0l ?_;refine d5Q ?_;exact ⟨(s2,n2,a2,e2),⟨by rw [hh];exact q2,y2⟩,tu_,rfl⟩
    ·have hk:¬ kd=3:=sp_ h5;have hh:∀ m,a3a T kd m=K0 T m:=fun m=>n_0 hk;refine a6R ?_;refine de rfl b6h ⟨tt,tt⟩ (a65 hT bf hW (q:=0) (s:=2) ⟨rfl,rfl,de_⟩) rfl ?_;rintro ⟨s2,n2,a2,e2⟩ ⟨q2,y2⟩;dsimp only at q2 y2 ⊢;refine e0l ?_;refine d5Q ?_;exact ⟨(s2,n2,a2,e2),⟨by rw [hh];exact q2,y2⟩,tu_,rfl⟩
   ·rintro ⟨s2,n2,a2,e2⟩ E3 ⟨q2,y2⟩;dsimp only at q2 y2 ⊢;refine N4 (α:=Int × Int) (fun _=>[(0,.ptr 0 0),(4,.ptr 4 0),(5,.ptr 5 0)]) (fun a=>[rbx T n2 a.1 a.2 [] [] 2,o9 0 b.length,o9 a.2 ([]:List Ex).length,.box (⟨pk,im,bs⟩:Src).cells,.box (⟨0,[],[],[]⟩:De).cells,.box (⟨kd,s2,[],[]⟩:De).cells]) (fun a=>(e2≠0->a.2≠0)/\(e2=0->(bs.any fun d=>(d.k == kd) && decide (d.name=s2))=true->a.2≠0)/\(e2=0->(bs.any fun d=>(d.k == kd) && decide (d.name=s2))=false->a.2=0)) ?_ ?_
    ·
     refine a4N ?_;refine cY b9P ?_;refine cY (o5 rfl tt rfl c1u rfl rfl) ?_;refine cY a0c ?_;refine cY B2 ?_;refine cG (fun hg=>M3 rfl tt rfl b6J a3w rfl (nb rfl)) ?_;refine cG b9v ?_;refine cG a5q ?_;refine cG b9k ?_;refine cG a2C ?_;refine cG (fun hg=>c5 rfl Tryz.call224 ⟨hg,hg,hg,tt⟩ (c09 ⟨pk,im,bs⟩ kd s2 (by show bs.length<=1000000;omega) _) rfl) ?_;refine cY M7 ?_;refine x9 ?_;refine cC ?_ ?_<;>intro h6
     ·have ht:e2=0/\(bs.any fun d=>(d.k == kd) && decide (d.name=s2))=true:=sp_ h6;refine a6R ?_;refine c4z ?_;rintro ⟨x0,y0⟩ bE;dsimp only at bE ⊢;refine K3 [rbx T n2 x0 y0 [] [] 2,o9 0 b.length,o9 y0 ([]:List Ex).length,.box (⟨pk,im,bs⟩:Src).cells,.box (⟨0,[],[],[]⟩:De).cells,.box (⟨kd,s2,[],[]⟩:De).cells] rfl ?_;refine x9 ?_;exact ⟨(x0,y0),⟨fun _=>bE,fun _ _=>bE,fun _ h=>by rw [ht.2] at h;cases h⟩,tu_,rfl⟩
     ·have ht:¬ (e2=0/\(bs.any fun d=>(d.k == kd) && decide (d.name=s2))=true):=fun h=>by simp [h.1,h.2] at h6
      refine C9 ?_;exact ⟨(a2,e2),⟨fun h=>h,fun h0 h=>absurd ⟨h0,h⟩ ht,fun h0 _=>h0⟩,tu_,rfl⟩
    ·rintro ⟨a3,e3⟩ E4 ⟨p3,p4,p5⟩;dsimp only at p3 p4 p5 ⊢;refine a69 hCC 6 rfl (α:=RP5) (fun _=>[(0,.ptr 0 0),(4,.ptr 4 0),(5,.ptr 5 0)]) (fun a=>[rbx T a.m a.at_ a.e [] [] 2,o9 0 b.length,o9 a.e ([]:List Ex).length,.dead,.box (⟨0,[],[],[]⟩:De).cells,.box (⟨kd,s2,a.l,[]⟩:De).cells]) (fun a=>Ok e3 (a3u T kd n2) a.e (a.l,a.m)/\a.m < T.length/\a.l.length<=9) ?_ ?_
     ·
      refine z_0 ?_;refine b7E ?_;refine b2E ?_;refine cC ?_ ?_<;>intro h7
      ·have hk:kd=1:=sp_ h7;have hp:a3u T kd n2=M4 T n2:=n_1 hk;rw [hp];refine z_4 ?_;refine de rfl a4w o6 (N9 hT y2 hW [40] (q:=0) (s:=2) ⟨rfl,rfl,de_⟩) rfl ?_;rintro ⟨n4,a4,e4⟩ ⟨q4,y4⟩;dsimp only at q4 y4 ⊢;refine K3 [rbx T n4 a4 e4 [] [] 2,o9 0 b.length,o9 e4 ([]:List Ex).length,.box (⟨pk,im,bs⟩:Src).cells,.box (⟨0,[],[],[]⟩:De).cells,.box (⟨kd,s2,[],[]⟩:De).cells] rfl ?_;refine c5S ?_;refine A6 hCC 6 rfl (α:=RP5) (fun _=>[(0,.ptr 0 0),(4,.ptr 4 0),(5,.ptr 5 0)]) (fun a=>[rbx T a.m a.at_ a.e [] [] 2,o9 0 b.length,o9 a.e ([]:List Ex).length,.dead,.box (⟨0,[],[],[]⟩:De).cells,.box [iv kd,(sv s2),.list (a.l.map scv) (gnn a.l.length) (C2 a.l.length 6),.list [] false none],o8 a.l.length]) (fun a=>(a.e=0->e3=0/\M4 T n2=a6v T a.m a.l/\n2 < a.m/\a.l.length<=8)/\(a.e≠0->e3=0->M4 T n2=none)/\a.m < T.length/\a.l.length<=9) (fun a=>if a.e=0 then 10 - a.l.length else 0) ⟨⟨[],n4,a4,e4⟩,[0,1,2,3,4,5,10],⟨fun h0=>⟨(L2 q4 h0).1,c4Y (q4.alive h0).2,by have:=(L2 q4 h0).2;dsimp only;omega,n_4 _⟩,fun h0 h3=>by
        subst h3
        rcases q4.zero with ⟨h,_⟩ | ⟨_,h⟩
        ·exact absurd h h0
        ·rw [M4,h];rfl,y4,n_4 _⟩,⟨rfl,rfl⟩,ut_,uq_⟩ ?_
       intro ⟨l,m,a5,e⟩ ⟨hI,hN,hm,hl9⟩;dsimp only at hI hN hm hl9 ⊢;refine F9 ?_;refine a4N ?_;refine cY b9P ?_;refine cY (o5 rfl tt rfl c1u rfl rfl) ?_;refine cY a0c ?_;refine c4I ?_;refine b9y (.val (.bool false)) rfl rfl tt rfl rfl (fun hg=>c4 rfl a8p ⟨hg,rfl,tt⟩ (W9 hT hm hW [41] (q:=0) (s:=2) ⟨rfl,rfl,de_⟩) rfl ?_) (fun hg=>?_)
       ·
        obtain rfl:e=0:=sp_ hg;obtain ⟨he3,hS,bL,hl8⟩:=hI rfl;rintro ⟨v9,m9⟩ ⟨fg,gv,iz,fi⟩;dsimp only at fg gv iz fi ⊢;refine K3 [rbx T m9 a5 0 [] [] 2,o9 0 b.length,o9 0 ([]:List Ex).length,.dead,.box (⟨0,[],[],[]⟩:De).cells,.box [iv kd,(sv s2),.list (l.map scv) (gnn l.length) (C2 l.length 6),.list [] false none],o8 l.length] rfl ?_;refine cG a6u ?_;refine cY M7 ?_;refine x9 ?_;refine cC ?_ ?_<;>intro h8
        ·have iJ:v9=false:=sp_ h8;have hg9:=S5 fg iJ;have bz:=iz iJ;subst m9;rw [c1a hg9] at hS;refine C9 (a12 ?_);refine N4 (α:=Nat × Int × Int) (fun _=>[(0,.ptr 0 0),(4,.ptr 4 0),(5,.ptr 5 0)]) (fun a=>[rbx T a.1 a.2.1 a.2.2 [] [] 2,o9 0 b.length,o9 a.2.2 ([]:List Ex).length,.dead,.box (⟨0,[],[],[]⟩:De).cells,.box [iv kd,(sv s2),.list (l.map scv) (gnn l.length) (C2 l.length 6),.list [] false none],o8 l.length]) (fun a=>Ok 0 (b5R T m l) a.2.2 a.1/\a.1 < T.length) ?_ ?_
         ·
          refine z_0 ?_;refine b7Q ?_;refine b2E ?_;refine cC ?_ ?_<;>intro h9
          ·have hl:l≠[]:=by intro hl;subst hl;simp at h9
           refine a6R ?_;refine de rfl a4w o6 (N9 hT hm hW [44] (q:=0) (s:=2) ⟨rfl,rfl,de_⟩) rfl ?_;rintro ⟨n5,a6,e5⟩ ⟨q5,y5⟩;dsimp only at q5 y5 ⊢;refine K3 [rbx T n5 a6 e5 [] [] 2,o9 0 b.length,o9 e5 ([]:List Ex).length,.dead,.box (⟨0,[],[],[]⟩:De).cells,.box [iv kd,(sv s2),.list (l.map scv) (gnn l.length) (C2 l.length 6),.list [] false none],o8 l.length] rfl ?_;refine x9 ?_;exact ⟨(n5,a6,e5),⟨by rw [b5R,n_0 hl];exact q5,y5⟩,tu_,rfl⟩
          ·have hl:l=[]:=by
            cases l with
            | nil=>rfl
            | cons x l=>simp at h9<;>omega
           refine C9 ?_;exact ⟨(m,a5,0),⟨by rw [b5R,n_1 hl];exact .some,hm⟩,tu_,rfl⟩
         ·rintro ⟨n5,a6,e5⟩ E5 ⟨q5,y5⟩;dsimp only at q5 y5 ⊢;refine z_4 ?_;refine ye rfl a7H ⟨tt,tt⟩ (a0z hT y5 (q:=0) (s:=2) ⟨rfl,rfl,de_⟩) rfl ?_;refine cY a4h ?_;refine z_3 ?_;refine z_4 ?_;refine de rfl b6h ⟨tt,tt⟩ (a65 hT y5 hW (q:=0) (s:=2) ⟨rfl,rfl,de_⟩) rfl ?_;rintro ⟨s6,n6,a7,e6⟩ ⟨q6,y6⟩;dsimp only at q6 y6 ⊢;have eK:=V8 l s6;refine K3 [rbx T n6 a7 e6 [] [] 2,o9 0 b.length,o9 e6 ([]:List Ex).length,.dead,.box (⟨0,[],[],[]⟩:De).cells,.box [iv kd,(sv s2),.list (l.map scv) (gnn l.length) (C2 l.length 6),.list [] false none],o8 l.length] rfl ?_;refine b09 ?_;refine z_0 ?_;refine b7Q ?_;refine b2E ?_;refine cC ?_ ?_<;>intro aY
          ·have h8:l.length=8:=sm_ aY;refine a6R ?_;refine c4z ?_;rintro ⟨x0,y0⟩ bE;dsimp only at bE ⊢;refine K3 [rbx T n6 x0 y0 [] [] 2,o9 0 b.length,o9 y0 ([]:List Ex).length,.dead,.box (⟨0,[],[],[]⟩:De).cells,.box [iv kd,(sv s2),.list (l.map scv) (gnn l.length) (C2 l.length 6),.list [] false none],o8 l.length] rfl ?_;refine a6z ?_;refine b3p ?_;refine ye rfl b7D j1 (a71 l (gnn l.length) s6 om_ _) rfl ?_;refine x9 ?_;refine cC ?_ ?_<;>intro cw
           ·refine a6R ?_;refine c4z ?_;rintro ⟨x1,y1⟩ fk;dsimp only at fk ⊢;refine e0B ?_;refine G5 ?_;refine b3p ?_;refine cY d3Q ?_;refine cD (A7 rfl tt tt rfl si_ q_2 t_2 t_0 a32 t_3 rfl (.inr rfl) q_7 a3Z C1 ((l++[s6]).map scv) (l++[s6]).length si_ si_ ?_);refine cY b4p ?_;refine c8T ?_;exact ⟨⟨l++[s6],n6,x1,y1⟩,[0,1,2,3,4,5,7],⟨by
             dsimp only;rw [n_0 fk,n_1 rfl];omega,fun h=>absurd h fk,fun h _=>(a40 hl8 hS q5 q6 (e4:=y1) (fun _=>fk) (fun h h'=>absurd h8 h) (fun _=>fk)).2 h,y6,do_⟩,⟨rfl,rfl⟩,ut_,⟨.inr ⟨_,rfl,.same rfl a9i⟩,.inr ⟨_,rfl,.same rfl W4⟩,.inr ⟨_,rfl,.same rfl W4⟩,.inl rfl,.inr ⟨_,rfl,.same rfl (u0 (a3M _))⟩,.inr ⟨_,rfl,.box ⟨.old (.val _),.old (.val _),C7.grow (f:=scv) (fun _=>⟨.val _,tt⟩) rfl,.old (P6 _ [] _),tt⟩⟩,.inr ⟨_,rfl,.same rfl B8⟩,tt⟩⟩
           ·refine C9 (G5 ?_);refine b3p ?_;refine cY d3Q ?_;refine cD (A7 rfl tt tt rfl si_ q_2 t_2 t_0 a32 t_3 rfl (.inr rfl) q_7 a3Z C1 ((l++[s6]).map scv) (l++[s6]).length si_ si_ ?_);refine cY b4p ?_;refine c8T ?_;exact ⟨⟨l++[s6],n6,x0,y0⟩,[0,1,2,3,4,5,7],⟨by
             dsimp only;rw [n_0 bE,n_1 rfl];omega,fun h=>absurd h bE,fun h _=>(a40 hl8 hS q5 q6 (e4:=y0) (fun _=>bE) (fun h h'=>absurd h8 h) (fun _=>bE)).2 h,y6,do_⟩,⟨rfl,rfl⟩,ut_,⟨.inr ⟨_,rfl,.same rfl a9i⟩,.inr ⟨_,rfl,.same rfl W4⟩,.inr ⟨_,rfl,.same rfl W4⟩,.inl rfl,.inr ⟨_,rfl,.same rfl (u0 (a3M _))⟩,.inr ⟨_,rfl,.box ⟨.old (.val _),.old (.val _),C7.grow (f:=scv) (fun _=>⟨.val _,tt⟩) rfl,.old (P6 _ [] _),tt⟩⟩,.inr ⟨_,rfl,.same rfl B8⟩,tt⟩⟩
          ·have h8:¬ l.length=8:=sm_ aY;refine b5Q ?_;refine z_0 ?_;refine b3p ?_;refine ye rfl b7D j1 (a71 l (gnn l.length) s6 om_ _) rfl ?_;refine x9 ?_;refine cC ?_ ?_<;>intro da
           ·have bC:s6∈l:=sp_ da;refine a6R ?_;refine c4z ?_;rintro ⟨x1,y1⟩ fk;dsimp only at fk ⊢;refine e0B ?_;refine G5 ?_;refine b3p ?_;refine cY d3Q ?_;refine cD (A7 rfl tt tt rfl si_ q_2 t_2 t_0 a32 t_3 rfl (.inr rfl) q_7 a3Z C1 ((l++[s6]).map scv) (l++[s6]).length si_ si_ ?_);refine cY b4p ?_;refine c8T ?_;exact ⟨⟨l++[s6],n6,x1,y1⟩,[0,1,2,3,4,5,7],⟨by
             dsimp only;rw [n_0 fk,n_1 rfl];omega,fun h=>absurd h fk,fun h _=>(a40 hl8 hS q5 q6 (e4:=y1) (fun _=>fk) (fun _ h'=>absurd bC h') (fun _=>fk)).2 h,y6,do_⟩,⟨rfl,rfl⟩,ut_,⟨.inr ⟨_,rfl,.same rfl a9i⟩,.inr ⟨_,rfl,.same rfl W4⟩,.inr ⟨_,rfl,.same rfl W4⟩,.inl rfl,.inr ⟨_,rfl,.same rfl (u0 (a3M _))⟩,.inr ⟨_,rfl,.box ⟨.old (.val _),.old (.val _),C7.grow (f:=scv) (fun _=>⟨.val _,tt⟩) rfl,.old (P6 _ [] _),tt⟩⟩,.inr ⟨_,rfl,.same rfl B8⟩,tt⟩⟩
           ·have bC:¬ s6∈l:=sp_ da;refine C9 (G5 ?_);refine b3p ?_;refine cY d3Q ?_;refine cD (A7 rfl tt tt rfl si_ q_2 t_2 t_0 a32 t_3 rfl (.inr rfl) q_7 a3Z C1 ((l++[s6]).map scv) (l++[s6]).length si_ si_ ?_);refine cY b4p ?_;refine c8T ?_;exact ⟨⟨l++[s6],n6,a7,e6⟩,[0,1,2,3,4,5,7],⟨by
             dsimp only;rw [n_1 rfl]
             split<;>omega,fun h=>by obtain ⟨_,g5,g8,hS'⟩:=(a40 hl8 hS q5 q6 (e4:=e6) (fun h=>absurd h (by rintro (h | h)<;>contradiction)) (fun _ _=>rfl) id).1 h;have:=(b0e q6 h).2.1;have:=d7P q5 g5;exact ⟨he3,hS',do_,do_⟩,fun h _=>(a40 hl8 hS q5 q6 (e4:=e6) (fun h=>absurd h (by rintro (h | h)<;>contradiction)) (fun _ _=>rfl) id).2 h,y6,do_⟩,⟨rfl,rfl⟩,ut_,⟨.inr ⟨_,rfl,.same rfl a9i⟩,.inr ⟨_,rfl,.same rfl W4⟩,.inr ⟨_,rfl,.same rfl W4⟩,.inl rfl,.inr ⟨_,rfl,.same rfl (u0 (a3M _))⟩,.inr ⟨_,rfl,.box ⟨.old (.val _),.old (.val _),C7.grow (f:=scv) (fun _=>⟨.val _,tt⟩) rfl,.old (P6 _ [] _),tt⟩⟩,.inr ⟨_,rfl,.same rfl B8⟩,tt⟩⟩
        ·have iJ:v9=true:=sp_ h8;obtain ⟨_,hq9⟩:=U8 (fg.symm.trans iJ);have bz:=gv iJ;subst m9;rw [c46 hq9] at hS;refine j4 ?_;exact ⟨⟨l,m+1,a5,0⟩,[0,1,2,3,4,5],⟨Ok.of (fun _=>⟨he3,hS⟩) fun h=>absurd rfl h,fi,hl9⟩,⟨rfl,rfl⟩,ut_,⟨.inr ⟨_,rfl,.same rfl a9i⟩,.inr ⟨_,rfl,.same rfl W4⟩,.inr ⟨_,rfl,.same rfl W4⟩,.inl rfl,.inr ⟨_,rfl,.same rfl (u0 (a3M _))⟩,.inr ⟨_,rfl,.box ⟨.old (.val _),.old (.val _),K4 (f:=scv) (fun _=>⟨.val _,tt⟩) _,.old (P6 _ [] _),tt⟩⟩,tt⟩⟩
       ·
        refine cG a6u ?_;refine cY M7 ?_;refine x9 ?_;refine cC ?_ ?_<;>intro dr
        ·have he:e≠0:=sp_ hg;simp [he] at dr
        ·have he:e≠0:=sp_ hg;refine j4 ?_;exact ⟨⟨l,m,a5,e⟩,[0,1,2,3,4,5],⟨Ok.of (fun h=>absurd h he) (fun h h3=>hN h h3),hm,hl9⟩,⟨rfl,rfl⟩,ut_,⟨.inr ⟨_,rfl,.same rfl a9i⟩,.inr ⟨_,rfl,.same rfl W4⟩,.inr ⟨_,rfl,.same rfl W4⟩,.inl rfl,.inr ⟨_,rfl,.same rfl (u0 (a3M _))⟩,.inr ⟨_,rfl,.box ⟨.old (.val _),.old (.val _),K4 (f:=scv) (fun _=>⟨.val _,tt⟩) _,.old (P6 _ [] _),tt⟩⟩,tt⟩⟩
      ·have hk:¬ kd=1:=sp_ h7;have hp:a3u T kd n2=some ([],n2):=n_0 hk;refine C9 ?_;exact ⟨⟨[],n2,a3,e3⟩,[0,1,2,3,4,5],⟨by rw [hp];exact .some,y2,n_4 _⟩,⟨rfl,rfl⟩,ut_,uq_⟩
     ·rintro ⟨l,m,a5,e5⟩ ⟨q5,y5,hl9⟩;dsimp only at q5 y5 hl9 ⊢;have bG:a0j T l:=⟨hT,hW,hc.l,om_,hc.nn⟩;refine z_4 ?_;refine d7l ?_;refine d6k ?_;refine c8T ?_;refine z_4 ?_;refine de rfl a4w o6 (N9 hT y5 hW [61] (q:=0) (s:=2) ⟨rfl,rfl,de_⟩) rfl ?_;rintro ⟨n6,a6,e6⟩ ⟨q6,y6⟩;dsimp only at q6 y6 ⊢;refine K3 [rbx T n6 a6 e6 l [] 2,o9 0 b.length,o9 e6 ([]:List Ex).length,.dead,.box (⟨0,[],[],[]⟩:De).cells,.box (⟨kd,s2,l,[]⟩:De).cells] rfl ?_;refine x9 ?_;refine z_4 ?_;refine de rfl b8d o6 ((d7U bG (8*T.length+6)).1 1 n6 a6 e6 [] y6 (n_4 _) de_ (fun _=>by omega) _ 0 2 ⟨rfl,rfl,de_⟩) rfl ?_;rintro ⟨x7,n7,a7,e7,b7⟩ ⟨k7,y7,w7,z7,l7,u7⟩;dsimp only at k7 y7 w7 z7 l7 u7 ⊢;refine K3 [rbx T n7 a7 e7 l b7 6,o9 0 b.length,.dead,.dead,.box (⟨0,[],[],[]⟩:De).cells,.box (⟨kd,s2,l,[]⟩:De).cells,o9 e7 b7.length] rfl ?_;refine x9 ?_;refine z_4 ?_;refine de rfl a4w o6 (N9 hT y7 hW [59] (q:=0) (s:=6) ⟨rfl,rfl,de_⟩) rfl ?_;rintro ⟨n8,a8,e8⟩ ⟨q8,y8⟩;dsimp only at q8 y8 ⊢;refine K3 [rbx T n8 a8 e8 l b7 6,o9 0 b.length,.dead,.dead,.box (⟨0,[],[],[]⟩:De).cells,.box (⟨kd,s2,l,[]⟩:De).cells,o9 e8 b7.length] rfl ?_;refine x9 ?_;refine a4N ?_;refine cY c2Z ?_;refine cY c1L ?_;refine cY d4Z ?_;refine cD (j2 rfl tt tt rfl j3 b2b (.inl rfl) rfl rfl (nb rfl) ?_);refine a7y ?_;refine cY (M3 rfl tt rfl c12 a4O rfl (nb rfl)) ?_;refine c6U ?_;refine c6 ?_;exact ⟨_,C6 rfl d1e,(by exact ⟨⟨⟨kd,s2,l,b7⟩,n8,a8,e8,l,b7⟩,c2i (k:=6) rfl rfl de_ (fun _=>c1q _ _ _ _ _),⟨d2v hu1 hkd p1 p2 q2 p3 p4 p5 q5 q6 k7 q8,y8,w7,fun h0=>d4n hkd p1 p2 q2 p3 p4 p5 q5 q6 k7 z7 q8 h0⟩⟩)⟩
theorem d2k {ps:List Str} (hc:a0j T []) (pk:Str) (im:List Str) (bs:List De) (hbs:bs.length<=64) {n:Nat} {at_:Int} {b:List Ex} (hn:n < T.length) {σ:List b9} {q s:Nat} (am:RAt σ q s T n at_ 0 ps b):b8 CC 187 [.ptr q 0,.agg (⟨pk,im,bs⟩:Src).cells] σ fun r τ=>∃ a:RD5,r = .ret (.agg a.d.cells)/\τ=rS1 σ q s T a.n a.at_ a.e a.ps a.b/\RDP T bs n a :=
 c0c (c:=fun a:RD5=>.agg a.d.cells) (N:=fun a=>a.n) (A:=fun a=>a.at_) (E:=fun a=>a.e) (Z:=fun a=>a.ps) (B:=fun a=>a.b) (fun _ h=>by simp at h;subst h;exact r6 (Src.pure _)) (fun a=>r6 a.d.pure) (d0U hc pk im bs hbs n at_ b hn) am
theorem b2o (s:Str):∀ (n f f' i:Nat),s.length - i < n->i<=s.length->s.length < f+i->s.length < f'+i->a0F f s i=a0F f' s i
 | 0,_,_,_,h,_,_,_=>by omega
 | n+1,f,f',i,h,hi,hf,hf'=>by
  obtain ⟨f,rfl⟩:∃ g,f=g+1:=⟨f - 1,om_⟩;obtain ⟨f',rfl⟩:∃ g,f'=g+1:=⟨f' - 1,om_⟩;have h1:=(a1S (s:=s) (a:=i) (ks:=[5]) hi);rw [a0F,a0F];cases hb:s[A4 s i [5]]? with
  | none=>rfl
  | some b =>
   have ab:=(n_3.1 hb).1;simp only;by_cases h6:o0 b.toNat=6
   ·rw [n_1 h6,n_1 h6];have h2:=b1C hb h6;have h3:=a7E (s:=s) (a:=A4 s i [5]) om_;exact b2o s n f f' _ om_ h3 om_ om_
   ·rw [n_0 h6,n_0 h6];by_cases h4:(E9 s (A4 s i [5]) b).2.2≠0
    ·rw [n_1 h4,n_1 h4]
    ·rw [n_0 h4,n_0 h4];obtain ⟨e,he,h5,h7⟩:=a5X hb h4;rw [he,a2c];rw [b2o s n f f' e om_ h7 om_ om_]
def a6e (s:Str) (i:Nat):Option (List Tok):=a0F (s.length+1 - i) s i
theorem a3R {s:Str} (hi:i<=s.length) (hf:s.length < f+i):a0F f s i=a6e s i:=b2o s (s.length+1 - i) f _ i om_ hi hf om_
theorem d1a (s:Str):a2V s=if 16384 < s.length then none else a6e s 0:=by
 unfold a2V
 split
 ·rfl
 ·exact a3R (n_4 _) om_
theorem c7J {s:Str} (h:i=s.length):a6e s i=some [⟨5,[],0,(i:Nat)⟩]:=by
 subst h;unfold a6e;rw [show s.length+1 - s.length=0+1 by omega,b8B (a8Z (n_7 _)).symm (n_7 _)]
theorem c06 {s:Str} {b:UInt8} (h:s[i]? = some b) (hk:o0 b.toNat=5):a6e s i=a6e s (i+1):=by
 have ab:=(n_3.1 h).1;rw [<- a3R (f:=s.length+1) om_ om_,<- a3R (f:=s.length+1) (i:=i+1) om_ om_];have:A4 s i [5]=A4 s (i+1) [5]:=by rw [W1 h,n_1 (by simp [inK,hk])]
 rw [a0F,a0F,this]
theorem c7f {s:Str} {b:UInt8} (h:s[i]? = some b) (hk:o0 b.toNat=6):a6e s i=a6e s (S2 s i):=by
 have ab:=(n_3.1 h).1;have h1:i=A4 s i [5]:=by rw [W1 h,n_0 (by simp [inK,hk])]
 have h3:=a7E (s:=s) (a:=i) om_;rw [<- a3R (f:=s.length+1+1) (i:=i) om_ om_,b6k h1 h hk];exact a3R h3 om_
theorem d0i {s:Str} {b:UInt8} (h:s[i]? = some b) (h5:o0 b.toNat≠5) (h6:o0 b.toNat≠6):a6e s i=if (E9 s i b).2.2≠0 then none else (a6e s (E9 s i b).2.1.toNat).map (({ (E9 s i b).1 with at_:=(i:Nat)}:Tok)::·):=by
 have ab:=(n_3.1 h).1;have h1:i=A4 s i [5]:=by rw [W1 h,n_0 (by simp [inK,h5])]
 rw [<- a3R (f:=s.length+1+1) (i:=i) om_ om_];by_cases h4:(E9 s i b).2.2≠0
 ·rw [b9B h1 h h6 h4,n_1 h4]
 ·obtain ⟨e,he,h7,h8⟩:=a5X h h4;rw [b7g h1 h h6 h4,n_0 h4,he,a2c];rw [a3R h8 om_]
def SkP (s:Str) (i n:Nat):Prop:=i<=n/\n<=s.length/\a6e s i=a6e s n/\∀ b,s[n]? = some b->o0 b.toNat≠5/\o0 b.toNat≠6
theorem c3O (b:UInt8):(((((b.toNat:Int) == 32) || ((b.toNat:Int) == 9)) || ((b.toNat:Int) == 10)) || ((b.toNat:Int) == 13))=decide (o0 b.toNat=5):=by
 generalize (b.toNat:Int)=c;by_cases h:c=9\/c=10\/c=13\/c=32
 ·unfold o0;rw [n_0 om_,n_0 om_,n_0 om_,n_0 om_,n_1 h]
  rcases h with h | h | h | h<;>subst h<;>rfl
 ·have hk:o0 c≠5:=by
   unfold o0
   repeat' split
   all_goals omega
  rw [a2f hk];simp;omega
theorem d0A (b:UInt8):((b.toNat:Int) == 35)=decide (o0 b.toNat=6):=by
 generalize (b.toNat:Int)=c;by_cases h:c=35
 ·subst h;rfl
 ·have hk:o0 c≠6:=by
   unfold o0
   repeat' split
   all_goals omega
  rw [a2f hk];simpa using h
theorem d0X {s:Str} {b:UInt8} (h:s[a]? = some b) (hb:b≠10):S2 s a=S2 s (a+1):=by
 obtain ⟨ab,rfl⟩:=n_3.1 h;unfold S2;rw [R2 ab,b9b,n_1 (sp_ hb),C5];omega
theorem d1Y {s:Str} {b:UInt8} (h:s[a]? = some b) (hb:b=10):S2 s a=a:=by
 obtain ⟨ab,rfl⟩:=n_3.1 h;unfold S2;rw [R2 ab,b9b,n_0 (sp_ hb)];rfl
theorem c4t {s:Str} (h:s.length<=a):S2 s a=a:=by
 unfold S2;rw [V2 h];rfl
theorem d5M {b:UInt8}:((b.toNat:Int)=10)↔b=10:=by
 constructor
 ·intro h;have:b.toNat=(10:UInt8).toNat:=by have e:(10:UInt8).toNat=10:=rfl;omega
  exact b66.1 this
 ·rintro rfl;rfl
theorem c6v (s:Str) (hs:s.length<=1000000000) (i:Nat) (hi:i<=s.length):b8 CC 227 [(sv s),iv i] [] fun r τ=>∃ n:Nat,r = .ret (iv n)/\τ=[]/\SkP s i n:=by
 refine qO Tryz.func227 ?_;refine j7 hCC (fun n:Nat=>[(0,(sv s)),(1,iv n)]) (fun _=>[]) (fun n=>i<=n/\n<=s.length/\a6e s i=a6e s n) (fun n=>s.length - n) i ⟨n_7 _,hi,rfl⟩ tu_ (ah:=[]) rfl z6 uz_ ?_;intro n ⟨bC,hn,hr⟩;refine a6S ?_;refine qC ?_ ?_<;>intro h1
 ·have ab:n < s.length:=sm_ h1;obtain ⟨b,hb⟩:∃ b,s[n]? = some b:=⟨s[n]'ab,si_⟩;refine qY b9e ?_;refine a2Q ?_;refine qG d8g ?_;refine a4c ?_;refine a2Q ?_;refine qG d8g ?_;refine a4c ?_;refine a2Q ?_;refine qG d8g ?_;refine a4c ?_;refine qC ?_ ?_<;>intro h2
  ·have hk:o0 b.toNat=5:=by rw [c3O] at h2;simpa using h2
   refine qY l9 ?_;exact ⟨(n+1),_,⟨om_,om_,om_,by rw [hr,c06 hb hk]⟩,tu_,rfl⟩
  ·have hk5:o0 b.toNat≠5:=by rw [c3O] at h2;simpa using h2
   refine qY b9e ?_;refine qC ?_ ?_<;>intro h3
   ·have hk6:o0 b.toNat=6:=by rw [d0A] at h3;simpa using h3
    have aP:=b1C hb hk6;have cp:=a7E (s:=s) (a:=n) om_;refine j7 hCC (fun m:Nat=>[(0,(sv s)),(1,iv m)]) (fun _=>[]) (fun m=>n<=m/\m<=s.length/\S2 s n=S2 s m) (fun m=>s.length - m) n ⟨n_7 _,hn,rfl⟩ tu_ (ah:=[]) rfl z6 uz_ ?_;intro m ⟨bL,hm,aV⟩;obtain ⟨c,hc⟩:∃ c:UInt8,m < s.length->s[m]? = some c:=by
     by_cases fV:m < s.length
     ·exact ⟨s[m],fun _=>by simp [fV]⟩
     ·exact ⟨0,fun h=>absurd h fV⟩
    refine a6S ?_;refine b33 ?_;refine qC ?_ ?_<;>intro h4
    ·have gF:m < s.length/\¬ (c.toNat:Int)=10:=sp_ h4;have hcm:=hc gF.1;have hc10:c≠10:=fun e=>gF.2 (d5M.2 e);refine qY l9 ?_;exact ⟨(m+1),_,⟨om_,om_,om_,by rw [aV,d0X hcm hc10]⟩,tu_,rfl⟩
    ·have bU:S2 s n=m:=by
      rw [aV];by_cases fV:m < s.length
      ·have gF:(c.toNat:Int)=10:=by
        have:m < s.length->(c.toNat:Int)=10:=sp_ h4;exact this fV
       exact d1Y (hc fV) (d5M.1 gF)
      ·exact c4t om_
     refine j4 ?_;exact ⟨m,_,⟨om_,om_,om_,by rw [hr,c7f hb hk6,bU]⟩,tu_,rfl⟩
   ·have hk6:o0 b.toNat≠6:=by rw [d0A] at h3;simpa using h3
    refine c6 ?_;exact ⟨_,rE1,⟨n,rfl,rfl,bC,hn,hr,fun b' hb'=>by rw [hb] at hb';injection hb' with hb';subst hb';exact ⟨hk5,hk6⟩⟩⟩
 ·have aE:n=s.length:=sm_ h1;refine z_9 ?_;exact ⟨_,rE1,⟨n,rfl,rfl,bC,hn,hr,fun b hb=>by have:=(n_3.1 hb).1;omega⟩⟩
theorem c2c (s:Str) (hs:s.length<=1000000000) (i:Nat) (hi:i<=s.length) (σ:List b9):b8 CC 227 [(sv s),iv i] σ fun r τ=>∃ n:Nat,r = .ret (iv n)/\τ=σ/\SkP s i n :=
 d5x (c:=fun n:Nat=>(iv n)) hCC (fun a h=>by simp at h;rcases h with rfl | rfl<;>exact .val _) (fun _=>.val _) ((c6v s hs i hi).mono fun r τ ⟨n,h1,h2,h3⟩=>⟨n,by rw [h1];exact d4g (.old (.val _)),h3⟩) σ
def leF (f x:Fi):Bool:=Op.bytesLess f.p x.p || decide (f.p=x.p)
def a8V (f:Fi):Bool->List Fi->List Fi
 | d,[]=>if d then [] else [f]
 | d,x::l=>(if !d && leF f x then [f] else [])++((if x.p=f.p then [] else [x])++a8V f (d || leF f x) l)
def a6f (l:List Fi) (f:Fi):List Fi:=a8V f false l
def a5C (l:List Fi) (s:Str):List Fi:=l.filter fun x=>!decide (x.p=s)
theorem c4Z {f:Fi} {l:List Fi} {y:Fi} (h:l[i]? = some y) (d:Bool):a8V f d (l.drop i)=(if !d && leF f y then [f] else [])++((if y.p=f.p then [] else [y])++a8V f (d || leF f y) (l.drop (i+1))):=by
 obtain ⟨ab,rfl⟩:=n_3.1 h;rw [R2 ab];rfl
theorem c6e {s:Str} {l:List Fi} {y:Fi} (h:l[i]? = some y):a5C (l.drop i) s=(if y.p=s then [] else [y])++a5C (l.drop (i+1)) s:=by
 obtain ⟨ab,rfl⟩:=n_3.1 h;rw [R2 ab,a5C,a7V];by_cases h:(l[i]).p=s
 ·simp [h,a5C]
 ·simp [h,a5C]
theorem b5E {l:List Fi} {tok:Option Nat}:C7 L ak (.agg [.list (l.map Fi.cv) nn tok]) (.agg (r8 l nn)) :=
 .agg rfl fun i c c' h h'=>by
  rcases i with _ | i
  ·injection h with h;injection h' with h';subst h h';exact K4 (f:=Fi.cv) Fi.pure _
  ·cases h
theorem c1I (fl:List Fi) (nn:Bool) (f:Fi) (cK:fl.length<=1000000):b8 CC 67 [.agg (r8 fl nn),.agg f.cells] [] fun r τ=>E8 0 τ r (.ret (.agg (r8 (a6f fl f) (gnn (a6f fl f).length)))) []:=by
 refine qO Tryz.func67 ?_;refine a9J ?_;refine d2l ?_;refine qY a0I ?_;refine A6 hCC 4 rfl (α:=List Fi × Bool × Nat) (fun x=>[(3,.ptr 1 0),(4,.ptr 2 0),(5,.ptr 3 0),(6,(.val (.bool x.2.1))),(10,(.list (fl.map Fi.cv) nn none)),(11,iv fl.length),(12,iv x.2.2)]) (fun x=>[.box (r8 fl nn),.box f.cells,.box (r8 [] false),.box [(.list (x.1.map Fi.cv) (gnn x.1.length) (C2 x.1.length 4))],o8 x.1.length]) (fun x=>x.2.2<=fl.length/\x.1.length<=x.2.2+1/\(x.2.1=false->x.1.length<=x.2.2)/\a6f fl f=x.1++a8V f x.2.1 (fl.drop x.2.2)) (fun x=>fl.length - x.2.2) ⟨([],false,0),[0,1,2,3,9],⟨n_4 _,n_4 _,fun _=>n_4 _,rfl⟩,⟨rfl,rfl⟩,ut_,⟨.inr ⟨_,rfl,.same rfl Q4⟩,.inr ⟨_,rfl,.same rfl b00⟩,.inr ⟨_,rfl,.same rfl a80⟩,.inr ⟨_,rfl,.box ⟨.same rfl (T2 _ ([]:List Fi) _),tt⟩⟩,.inl rfl,tt⟩⟩ ?_;intro ⟨aw,d,i⟩ ⟨hi,fJ,hod,hr⟩;dsimp only at hi fJ hod hr ⊢;refine qk (qC ?_ ?_)<;> intro h1
 ·have ab:i < fl.length:=sm_ h1;obtain ⟨y,hb⟩:∃ y,fl[i]? = some y:=⟨fl[i]'ab,si_⟩;rw [c4Z hb] at hr;refine b8L ?_;refine qG d0y ?_;refine qG a2C ?_;refine qG d0y ?_;refine qG a2C ?_;refine qG (fun hg=>a2L rfl hg hg rfl rfl (b7m _ _)) ?_;refine qY M7 ?_;refine qC ?_ ?_<;>intro h2
  ·have dC:d=false/\leF f y=true:=by
    have h2:(!d && leF f y)=true:=h2;simpa using h2
   obtain ⟨hd,aP⟩:=dC;subst hd;rw [aP] at hr;have hol2:=hod rfl;refine qY e00 ?_;refine qD (A7 rfl tt tt rfl si_ q_2 a7m a4a c6m a6h rfl (.inr rfl) q_7 c4R C1 ((aw++[f]).map Fi.cv) (aw++[f]).length si_ si_ ?_);refine qD (j2 rfl tt tt rfl j3 b8o (.inl rfl) rfl rfl (nb rfl) ?_);refine qY b4z ?_;refine qC ?_ ?_<;>intro h3
   ·have fp:¬ y.p=f.p:=sp_ h3;rw [n_0 fp] at hr;refine qY d3c ?_;refine qD (A7 rfl tt tt rfl si_ q_2 a7m a4a c6m a6h rfl (.inr rfl) q_7 c4R C1 ((aw++[f]++[y]).map Fi.cv) (aw++[f]++[y]).length si_ si_ ?_);refine d0I ?_;exact ⟨(aw++[f]++[y],true,i+1),[0,1,2,3,7],⟨do_,do_,by simp only [n_6,C5,I8];omega,(fun h=>by cases h),by rw [hr];simp⟩,⟨rfl,rfl⟩,ut_,⟨.inr ⟨_,rfl,.same rfl Q4⟩,.inr ⟨_,rfl,.same rfl b00⟩,.inr ⟨_,rfl,.same rfl a80⟩,.inr ⟨_,rfl,.box ⟨C7.grow (f:=Fi.cv) (fun a=>⟨.val _,.val _,tt⟩) rfl,tt⟩⟩,.inr ⟨_,rfl,.same rfl B8⟩,tt⟩⟩
   ·have fp:y.p=f.p:=sp_ h3;rw [n_1 fp] at hr;refine qY l9 ?_;exact ⟨(aw++[f],true,i+1),[0,1,2,3,6],⟨do_,do_,by simp only [n_6,C5,I8];omega,(fun h=>by cases h),by rw [hr];simp⟩,⟨rfl,rfl⟩,ut_,⟨.inr ⟨_,rfl,.same rfl Q4⟩,.inr ⟨_,rfl,.same rfl b00⟩,.inr ⟨_,rfl,.same rfl a80⟩,.inr ⟨_,rfl,.box ⟨C7.grow (f:=Fi.cv) (fun a=>⟨.val _,.val _,tt⟩) rfl,tt⟩⟩,.inr ⟨_,rfl,.same rfl B8⟩,tt⟩⟩
  ·have hd:(!d && leF f y)=false:=by
    have h2:(!d && leF f y)=false:=h2;simpa using h2
   have hd2:(d || leF f y)=d:=by cases d<;>simp_all
   rw [hd,hd2] at hr;refine qY b4z ?_;refine qC ?_ ?_<;>intro h4
   ·have fp:¬ y.p=f.p:=sp_ h4;rw [n_0 fp] at hr;refine qY d3c ?_;refine qD (A7 rfl tt tt rfl si_ q_2 a7m a4a c6m a6h rfl (.inr rfl) q_7 c4R C1 ((aw++[y]).map Fi.cv) (aw++[y]).length si_ si_ ?_);refine d0I ?_;exact ⟨(aw++[y],d,i+1),[0,1,2,3,6],⟨do_,do_,by simp only [n_6,C5,I8];omega,(fun h=>by have:=hod h;simp only [n_6,C5,I8];omega),by rw [hr];simp⟩,⟨rfl,rfl⟩,ut_,⟨.inr ⟨_,rfl,.same rfl Q4⟩,.inr ⟨_,rfl,.same rfl b00⟩,.inr ⟨_,rfl,.same rfl a80⟩,.inr ⟨_,rfl,.box ⟨C7.grow (f:=Fi.cv) (fun a=>⟨.val _,.val _,tt⟩) rfl,tt⟩⟩,.inr ⟨_,rfl,.same rfl B8⟩,tt⟩⟩
   ·have fp:y.p=f.p:=sp_ h4;rw [n_1 fp] at hr;refine qY l9 ?_;exact ⟨(aw,d,i+1),[0,1,2,3,4],⟨do_,do_,do_,(fun h=>by have:=hod h;dsimp only;omega),by rw [hr];simp⟩,⟨rfl,rfl⟩,ut_,⟨.inr ⟨_,rfl,.same rfl Q4⟩,.inr ⟨_,rfl,.same rfl b00⟩,.inr ⟨_,rfl,.same rfl a80⟩,.inr ⟨_,rfl,.box ⟨C7.grow (f:=Fi.cv) (fun a=>⟨.val _,.val _,tt⟩) rfl,tt⟩⟩,.inr ⟨_,rfl,.same rfl B8⟩,tt⟩⟩
 ·have aE:fl.length<=i:=sm_ h1;rw [V2 aE] at hr;refine j4 ?_;refine qC ?_ ?_<;>intro h5
  ·have hd:d=false:=sp_ h5;subst hd;replace hr:a6f fl f=aw++[f]:=hr;refine qY e00 ?_;refine qD (A7 rfl tt tt rfl si_ q_2 a7m a4a c6m a6h rfl (.inr rfl) q_7 c4R C1 ((aw++[f]).map Fi.cv) (aw++[f]).length si_ si_ ?_);refine qD (j2 rfl tt tt rfl j3 b8o (.inl rfl) rfl rfl (nb rfl) ?_);refine c69 ?_;exact ⟨_,C6 rfl a3c,(by rw [hr];exact d4g b5E)⟩
  ·have hd:d=true:=sp_ h5;subst hd;replace hr:a6f fl f=aw:=by rw [hr];exact a1k _
   refine c69 ?_;exact ⟨_,C6 rfl a3c,(by rw [hr];exact d4g b5E)⟩
theorem a0T (fl:List Fi) (nn:Bool) (f:Fi) (cK:fl.length<=1000000) (σ:List b9):b8 CC 67 [.agg (r8 fl nn),.agg f.cells] σ fun r τ=>r = .ret (.agg (r8 (a6f fl f) (gnn (a6f fl f).length)))/\τ=σ :=
 c7a hCC (fun a h=>by simp at h;rcases h with rfl | rfl;exact r6 (cs:=r8 _ _) ⟨J2 _ _,tt⟩;exact r6 (Fi.pure _)) (r6 (cs:=r8 _ _) ⟨J2 _ _,tt⟩) (c1I fl nn f cK) σ
theorem c1e (fl:List Fi) (nn:Bool) (s:Str) (cK:fl.length<=1000000):b8 CC 71 [.agg (r8 fl nn),(sv s)] [] fun r τ=>E8 0 τ r (.ret (.agg (r8 (a5C fl s) (gnn (a5C fl s).length)))) []:=by
 refine qO Tryz.func71 ?_;refine qD (G8 rfl tt j3 j6 ?_);refine d2l ?_;refine qY a0I ?_;refine A6 hCC 3 rfl (α:=List Fi × Nat) (fun x=>[(1,(sv s)),(4,.ptr 1 0),(5,.ptr 2 0),(9,(.list (fl.map Fi.cv) nn none)),(10,iv fl.length),(11,iv x.2)]) (fun x=>[.box (r8 fl nn),.box (r8 [] false),.box [(.list (x.1.map Fi.cv) (gnn x.1.length) (C2 x.1.length 3))],o8 x.1.length]) (fun x=>x.2<=fl.length/\x.1.length<=x.2/\a5C fl s=x.1++a5C (fl.drop x.2) s) (fun x=>fl.length - x.2) ⟨([],0),[0,1,2,9],⟨n_4 _,n_4 _,rfl⟩,⟨rfl,rfl⟩,ut_,⟨.inr ⟨_,rfl,.same rfl Q4⟩,.inr ⟨_,rfl,.same rfl a80⟩,.inr ⟨_,rfl,.box ⟨.same rfl (T2 _ ([]:List Fi) _),tt⟩⟩,.inl rfl,tt⟩⟩ ?_;intro ⟨aw,i⟩ ⟨hi,fJ,hr⟩;dsimp only at hi fJ hr ⊢;refine qk (qC ?_ ?_)<;> intro h1
 ·have ab:i < fl.length:=sm_ h1;obtain ⟨y,hb⟩:∃ y,fl[i]? = some y:=⟨fl[i]'ab,si_⟩;rw [c6e hb] at hr;refine b8L ?_;refine qY b4z ?_;refine qC ?_ ?_<;>intro h2
  ·have fp:¬ y.p=s:=sp_ h2;rw [n_0 fp] at hr;refine qY d3c ?_;refine qD (A7 rfl tt tt rfl si_ q_2 a7m a4a c6m a6h rfl (.inr rfl) q_7 c4R C1 ((aw++[y]).map Fi.cv) (aw++[y]).length si_ si_ ?_);refine d0I ?_;exact ⟨(aw++[y],i+1),[0,1,2,5],⟨do_,do_,by simp only [n_6,C5,I8];omega,by rw [hr];simp⟩,⟨rfl,rfl⟩,ut_,⟨.inr ⟨_,rfl,.same rfl Q4⟩,.inr ⟨_,rfl,.same rfl a80⟩,.inr ⟨_,rfl,.box ⟨C7.grow (f:=Fi.cv) (fun a=>⟨.val _,.val _,tt⟩) rfl,tt⟩⟩,.inr ⟨_,rfl,.same rfl B8⟩,tt⟩⟩
  ·have fp:y.p=s:=sp_ h2;rw [n_1 fp] at hr;refine qY l9 ?_;exact ⟨(aw,i+1),[0,1,2,3],⟨do_,do_,do_,by rw [hr];simp⟩,⟨rfl,rfl⟩,ut_,⟨.inr ⟨_,rfl,.same rfl Q4⟩,.inr ⟨_,rfl,.same rfl a80⟩,.inr ⟨_,rfl,.box ⟨C7.grow (f:=Fi.cv) (fun a=>⟨.val _,.val _,tt⟩) rfl,tt⟩⟩,.inr ⟨_,rfl,.same rfl B8⟩,tt⟩⟩
 ·have aE:fl.length<=i:=sm_ h1;rw [V2 aE] at hr;replace hr:a5C fl s=aw:=by rw [hr];exact a1k _
  refine j4 ?_;refine c69 ?_;exact ⟨_,C6 rfl a3c,(by rw [hr];exact d4g b5E)⟩
theorem b3b (fl:List Fi) (nn:Bool) (s:Str) (cK:fl.length<=1000000) (σ:List b9):b8 CC 71 [.agg (r8 fl nn),(sv s)] σ fun r τ=>r = .ret (.agg (r8 (a5C fl s) (gnn (a5C fl s).length)))/\τ=σ :=
 c7a hCC (fun a h=>by simp at h;rcases h with rfl | rfl;exact r6 (cs:=r8 _ _) ⟨J2 _ _,tt⟩;exact .val _) (r6 (cs:=r8 _ _) ⟨J2 _ _,tt⟩) (c1e fl nn s cK) σ
theorem a15 {l:List Int} {k:Nat} {n:Int} (hn:1<=n):0<=K2 l k n/\K2 l k n < n:=b0g hn
theorem Y1 (n:Nat) (l:List Int) (nn:Bool) (k:Nat):I0 n (r5 l nn k):=u0 ⟨T6 _ _ _,.val _,tt⟩
theorem c02 (l:List Int) (nn:Bool) (k:Nat) (aS:k<=900000000) (hl:l.length<=maxLen) (n:Nat) (hn:n<=1000) (al:Str) (ha:1<=al.length) (fQ:al.length<=1000):b8 CC 121 [.ptr 0 0,iv n,(sv al)] [r5 l nn k] fun r τ=>∃ a:Str × Nat,E8 1 τ r (.ret (sv a.1)) [r5 l nn a.2]/\(a.1.length=n/\k<=a.2/\a.2<=k+n):=by
 refine qO Tryz.func121 ?_;refine A6 hCC 1 rfl (α:=Str × Nat) (fun x=>[(0,.ptr 0 0),(1,iv n),(2,(sv al)),(7,(.list (x.1.map bcv) (gnn x.1.length) (C2 x.1.length 1))),(8,iv x.1.length)]) (fun x=>[r5 l nn x.2,o8 x.1.length]) (fun x=>x.1.length<=n/\x.2=k+x.1.length) (fun x=>n - x.1.length) ⟨([],k),[0,9],⟨n_4 _,rfl⟩,⟨rfl,rfl⟩,⟨b6G,b6G,b6G,b6G,b6G,tt⟩,uq_⟩ ?_;intro ⟨aw,p⟩ ⟨fJ,hp⟩;dsimp only at fJ hp ⊢;refine qk (qC ?_ ?_)<;> intro h1
 ·have ab:aw.length < n:=sm_ h1;have hb:=a15 (l:=l) (k:=p) (n:=(al.length:Int)) om_;obtain ⟨c,hc⟩:∃ c,al[(K2 l p (al.length:Int)).toNat]? = some c:=⟨al[(K2 l p (al.length:Int)).toNat]'om_,si_⟩;refine qY Q2 ?_;refine qD (c4 rfl a61 j1 (J6 l nn p _ 0 rfl om_ hl (al.length:Int) om_) rfl ?_);intro _ _;refine qY (N5 rfl tt tt rfl rfl t_7 om_ hc) ?_;refine qY d9r ?_;refine qD (A7 rfl tt tt rfl si_ q_2 X7 a1w b1j a4d rfl (.inr rfl) q_7 (by have hb:Tryz.t5.bytes=1:=rfl;rw [hb];first|omega|(simp;done)|(simp;omega)) C1 ((aw++[c]).map bcv) (aw++[c]).length si_ si_ ?_);refine qY l9 ?_;exact ⟨(aw++[c],p+1),[0,2],⟨by simp only [n_6,C5,I8];omega,by simp only [n_6,C5,I8];omega,by simp only [n_6,C5,I8];omega⟩,⟨rfl,rfl⟩,⟨a0m,a0m,a0m,a0m,⟨tt,(by first|exact ur_|exact .same (n_8 (fun x=>iv x) (by simp:(aw.length:Int)+1=((aw++[c]).length:Int))) uo_)⟩,tt⟩,uq_⟩
 ·have aE:aw.length=n:=sm_ h1;refine j4 ?_;refine qY b9U ?_;refine c6 ?_;exact ⟨_,rE1,⟨(aw,p),a2h rfl T3 (.old (.val _)),aE,do_,do_⟩⟩
theorem c57 (l:List Int) (nn:Bool) (k:Nat) (aS:k<=900000000) (hl:l.length<=maxLen) (n:Nat) (hn:n<=1000) (al:Str) (ha:1<=al.length) (fQ:al.length<=1000) (σ:List b9) (q:Nat) (hq:σ[q]? = some (r5 l nn k)):b8 CC 121 [.ptr q 0,iv n,(sv al)] σ fun r τ=>∃ a:Str × Nat,r = .ret (sv a.1)/\τ=σ.set q (r5 l nn a.2)/\(a.1.length=n/\k<=a.2/\a.2<=k+n) :=
 a7F (c:=fun a:Str × Nat=>sv a.1) (S:=fun a=>r5 l nn a.2) hCC (fun a h=>by simp at h;rcases h with rfl | rfl<;>exact .val _) (fun _=>.val _) (fun _=>F0 _ _ _) (F0 _ _ _) rfl (c02 l nn k aS hl n hn al ha fQ) σ q hq
theorem d0H (l:List Int) (nn:Bool) (k:Nat) (aS:k<=800000000) (hl:l.length<=maxLen):b8 CC 70 [.ptr 0 0] [r5 l nn k] fun r τ=>∃ a:Str × Nat,E8 1 τ r (.ret (sv a.1)) [r5 l nn a.2]/\(a.1.length<=3/\k<=a.2/\a.2<=k+4):=by
 refine qO Tryz.func70 ?_;refine qD (c4 rfl a61 o6 (J6 l nn k _ 0 rfl om_ hl 4 om_) rfl ?_);intro _ _;have hb:=a15 (l:=l) (k:=k) (n:=4) om_;obtain ⟨m,hm⟩:∃ m:Nat,K2 l k 4=(m:Int):=⟨(K2 l k 4).toNat,om_⟩;rw [hm] at hb ⊢;refine qD (c4 rfl Tryz.call121 a2u (c57 l nn (k+1) om_ hl m om_ [97,98,0,255,48] de_ de_ _ 0 rfl) rfl ?_);intro ⟨s,p⟩ ⟨hs,fh,cu⟩;dsimp only at hs fh cu ⊢;refine c6 ?_;exact ⟨_,rE1,⟨(s,p),a2h rfl T3 (.old (.val _)),do_,do_,do_⟩⟩
theorem c3n (l:List Int) (nn:Bool) (k:Nat) (aS:k<=800000000) (hl:l.length<=maxLen) (σ:List b9) (q:Nat) (hq:σ[q]? = some (r5 l nn k)):b8 CC 70 [.ptr q 0] σ fun r τ=>∃ a:Str × Nat,r = .ret (sv a.1)/\τ=σ.set q (r5 l nn a.2)/\(a.1.length<=3/\k<=a.2/\a.2<=k+4) :=
 a7F (c:=fun a:Str × Nat=>sv a.1) (S:=fun a=>r5 l nn a.2) hCC (fun a h=>by simp at h) (fun _=>.val _) (fun _=>F0 _ _ _) (F0 _ _ _) rfl (d0H l nn k aS hl) σ q hq
def a7Q (l:List Int) (nn:Bool) (ps:List Str) (d L K B:Nat):Prop:=∀ (k:Nat),k<=B->∀ (σ:List b9) (q:Nat),σ[q]? = some (r5 l nn k)->b8 CC 122 [.ptr q 0,iv d,.list (ps.map scv) (gnn ps.length) none] σ fun r τ=>∃ a:Str × Nat,r = .ret (sv a.1)/\τ=σ.set q (r5 l nn a.2)/\(a.1.length<=L/\k<=a.2/\a.2<=k+K)
abbrev eob (l:List Int) (nn:Bool) (ps:List Str) (d p:Nat):List b9:=[r5 l nn (p),.box [.ptr 0 0],.box [iv d],.box [(.list (ps.map scv) (gnn ps.length) none)]]
theorem b0P {l:List Int} {ps:List Str} {K:Nat} (hd:d<=10) (ih:a7Q l nn ps d L K B) (p:Nat) (hp:p<=B):b8 CC 163 [.ptr 1 0,.ptr 2 0,.ptr 3 0] (eob l nn ps (d+1) p) fun r τ=>∃ a:Str × Nat,r = .ret (sv a.1)/\τ=eob l nn ps (d+1) a.2/\(a.1.length<=L/\p<=a.2/\a.2<=p+K):=by
 refine qO Tryz.func163 ?_;refine qY V3 ?_;refine qD (c4 rfl b9H C8 (by have h:=ih p hp (eob l nn ps (d+1) p) 0 rfl;rw [show (d:Int)=((d+1:Nat):Int) - 1 by omega] at h;exact h) rfl ?_);intro ⟨s,p1⟩ ⟨h1,h2,h3⟩;dsimp only at h1 h2 h3 ⊢;refine c6 ?_;exact ⟨_,rE1,⟨(s,p1),rfl,rfl,h1,h2,h3⟩⟩
theorem d1J (l:List Int) (nn:Bool) (k:Nat) (hl:l.length<=maxLen) (d:Nat) (hd:d<=10) (ps:List Str) (cm:∀ s∈ps,s.length<=10) (aX:ps.length<=2) (L K B:Nat) (hL:L<=1000000) (hK:K<=1000) (aS:k+3*K+10<=B) (hB:B<=900000000) (dY:1<=d->∀ p,p<=B->b8 CC 163 [.ptr 1 0,.ptr 2 0,.ptr 3 0] (eob l nn ps d p) fun r τ=>∃ a:Str × Nat,r = .ret (sv a.1)/\τ=eob l nn ps d a.2/\(a.1.length<=L/\p<=a.2/\a.2<=p+K)):b8 CC 122 [.ptr 0 0,iv d,.list (ps.map scv) (gnn ps.length) none] [r5 l nn k] fun r τ=>∃ a:Str × Nat,E8 1 τ r (.ret (sv a.1)) [r5 l nn a.2]/\(a.1.length<=3*L+30/\k<=a.2/\a.2<=k+(3*K+5)):=by
 refine cO Tryz.func122 ?_;refine qs 1 (qD (G8 rfl tt j3 (.inl rfl) ?_));refine qD (G8 rfl tt j3 (.inl rfl) ?_);refine qD (G8 rfl tt j3 (.inl rfl) ?_);refine F9 ?_;refine N4 (α:=Bool × Nat) (fun x=>[(3,.ptr 1 0),(4,.ptr 2 0),(5,.ptr 3 0),(15,(.val (.bool x.1)))]) (fun x=>[r5 l nn (x.2),.box [.ptr 0 0],.box [iv d],.box [(.list (ps.map scv) (gnn ps.length) none)]]) (fun x=>k<=x.2/\x.2<=k+1/\(x.1=false->1<=d)) ?_ ?_
 ·
  refine qk (qG (fun hg=>o5 rfl tt rfl c9S rfl rfl) ?_);refine b9y (.val (.bool false)) rfl rfl tt rfl rfl (fun hg=>c4 rfl b2y ⟨hg,rfl,rfl,tt⟩ (M9 l nn k _ 0 rfl om_ hl 1 4 om_) rfl ?_) (fun hg=>?_)
  ·
   intro _ _;refine b6P ?_;exact ⟨(_,k+1),(by exact ⟨do_,do_,fun _=>sm_ hg⟩),⟨⟨tt,rfl⟩,⟨tt,rfl⟩,⟨tt,rfl⟩,⟨tt,rfl⟩,tt⟩,rfl⟩
  ·
   refine b6P ?_;exact ⟨(_,k),(by exact ⟨do_,do_,fun hb=>by exfalso;revert hb hg;cases decide ((d:Int)<=0)<;>simp⟩),⟨⟨tt,rfl⟩,⟨tt,rfl⟩,⟨tt,rfl⟩,⟨tt,rfl⟩,tt⟩,rfl⟩
 ·intro ⟨b,p⟩ E0 ⟨fh,cu,eM⟩;dsimp only at fh cu eM ⊢;refine cC ?_ ?_<;>intro h1
  ·refine N4 (α:=Nat) (fun _=>[(3,.ptr 1 0)]) (fun x=>[r5 l nn (x),.box [.ptr 0 0],.box [iv d],.box [(.list (ps.map scv) (gnn ps.length) none)]]) (fun x=>k<=x/\x<=k+3) ?_ ?_
   ·
    refine qs 1 (qD (c4 rfl a61 o6 (J6 l nn p _ 0 rfl om_ hl 9 om_) rfl ?_));intro _ _;refine N4 (α:=Bool) (fun b=>[(3,.ptr 1 0),(4,.ptr 2 0),(5,.ptr 3 0),(17,(iv (K2 l p 9))),(18,(.val (.bool b)))]) (fun _=>[r5 l nn (p+1),.box [.ptr 0 0],.box [iv d],.box [(.list (ps.map scv) (gnn ps.length) none)]]) (fun _=>True) ?_ ?_
    ·
     refine qk (qC ?_ ?_)<;> intro h2
     ·exact ⟨_,tt,⟨⟨tt,rfl⟩,⟨tt,rfl⟩,⟨tt,rfl⟩,⟨tt,rfl⟩,⟨tt,rfl⟩,tt⟩,rfl⟩
     ·exact ⟨_,tt,⟨⟨tt,rfl⟩,⟨tt,rfl⟩,⟨tt,rfl⟩,⟨tt,rfl⟩,⟨tt,rfl⟩,tt⟩,rfl⟩
    ·intro b2 E2 _;refine qC ?_ ?_<;>intro h3
     ·refine qY J3 ?_;refine qC ?_ ?_<;>intro h4
      ·obtain ⟨x,ps',rfl⟩:∃ x ps',ps=x::ps':=by
        rcases ps with _ | ⟨x,ps'⟩
        ·simp at h4
        ·exact ⟨x,ps',rfl⟩
       refine qD (c4 rfl a3l j1 (H7 l nn (p+1) _ 0 rfl om_ hl (x::ps') si_ om_) rfl ?_);intro v hv;have dj:=cm v hv;refine c6 ?_;exact ⟨_,rE1,⟨(_,p+2),a2h rfl T3 (.old (.val _)),(by show List.length _<=_;simp only;omega),do_,do_⟩⟩
      ·exact ⟨(p+1),⟨om_,om_⟩,tu_,rfl⟩
     ·refine qC ?_ ?_<;>intro h5
      ·refine cW 2 ?_;refine hY c3k ?_;refine hY b71 ?_;refine d5m ?_;intro v hv;have dj:v.length<=8:=H6 (.inr (.inr (.inr (.inl hv))));refine a2G ?_;exact d7H
      ·refine qC ?_ ?_<;>intro h6
       ·refine cW 2 ?_;refine hY c3k ?_;refine hY b71 ?_;refine d5m ?_;intro v hv;have dj:v.length<=8:=H6 (.inr (.inr (.inr (.inl hv))));refine a2G ?_;exact d7H
       ·refine qC ?_ ?_<;>intro h7
        ·refine cW 2 ?_;refine hY c3k ?_;refine hY d5t ?_;refine X2 ?_;refine qD (c4 rfl a3l j1 (H7 l nn (p+1) _ 0 rfl om_ hl Y0 de_ de_) rfl ?_);intro v hv;have dj:v.length<=8:=H6 (.inr (.inr (.inr (.inr hv))));refine a2G ?_;exact d7H
        ·refine qC ?_ ?_<;>intro h8
         ·refine qD (c4 rfl b2y a4p (M9 l nn (p+1) _ 0 rfl om_ hl 1 5 om_) rfl ?_);intro _ _;refine qC ?_ ?_<;>intro h9
          ·refine qY (A8 ([0,1,63].map icv) rfl ⟨rfl,rfl,rfl,tt⟩ t_4 t_1 t_8 rfl rfl rfl rfl rfl rfl rfl rfl rfl) ?_;refine qD (c4 rfl c3L j1 (a5Y l nn (p+2) _ 0 rfl om_ hl [0,1,63] si_ si_) rfl ?_);intro v hv;obtain ⟨m,hm,bT⟩:∃ m:Nat,v=(m:Int)/\m < 10^17:=by
            simp only [J5,a7v,or_false] at hv;exact ⟨v.toNat,om_,om_⟩
           subst hm;have eI:=a17 16 m bT;refine qY c1Y ?_;refine a2G ?_;refine c6 ?_;exact ⟨_,rE1,⟨(_,p+3),a2h rfl T3 (.old (.val _)),b6s,do_,do_⟩⟩
          ·exact ⟨(p+2),⟨om_,om_⟩,tu_,rfl⟩
         ·exact ⟨(p+1),⟨om_,om_⟩,tu_,rfl⟩
   ·intro p3 E3 ⟨hp3,hp4⟩;refine qk (qY (A8 ([0,1,2,3,10,255,9007199254740992,1073741824].map icv) rfl ⟨rfl,rfl,rfl,rfl,rfl,rfl,rfl,rfl,tt⟩ t_4 t_1 t_8 rfl rfl rfl rfl rfl rfl rfl rfl rfl) ?_);refine qD (c4 rfl c3L j1 (a5Y l nn (p3) _ 0 rfl om_ hl [0,1,2,3,10,255,9007199254740992,1073741824] si_ si_) rfl ?_);intro v hv;obtain ⟨m,hm,bT⟩:∃ m:Nat,v=(m:Int)/\m < 10^17:=by
     simp only [J5,a7v,or_false] at hv;exact ⟨v.toNat,om_,om_⟩
    subst hm;have eI:=a17 16 m bT;refine qY c1Y ?_;refine c6 ?_;exact ⟨_,rE1,⟨(_,p3+1),a2h rfl T3 (.old (.val _)),(by show List.length _<=_;simp only;omega),do_,do_⟩⟩
  ·have hd1:1<=d:=eM (sp_ h1);refine qk ?_;refine qs 1 (qY (a7Y rfl C8) ?_);refine F9 ?_;refine qs 1 (qD (c4 rfl a61 o6 (J6 l nn p _ 0 rfl om_ hl 10 om_) rfl ?_));intro _ _;refine N4 (α:=Bool) (fun b=>[(3,.ptr 1 0),(7,(.clo 163 [.ptr 1 0,.ptr 2 0,.ptr 3 0])),(64,(iv (K2 l p 10))),(65,(.val (.bool b)))]) (fun _=>[r5 l nn (p+1),.box [.ptr 0 0],.box [iv d],.box [(.list (ps.map scv) (gnn ps.length) none)]]) (fun _=>True) ?_ ?_
   ·
    refine qk (qC ?_ ?_)<;> intro aY
    ·exact ⟨_,tt,⟨⟨tt,rfl⟩,⟨tt,rfl⟩,⟨tt,rfl⟩,⟨tt,rfl⟩,tt⟩,rfl⟩
    ·refine qC ?_ ?_<;>intro cw
     ·exact ⟨_,tt,⟨⟨tt,rfl⟩,⟨tt,rfl⟩,⟨tt,rfl⟩,⟨tt,rfl⟩,tt⟩,rfl⟩
     ·exact ⟨_,tt,⟨⟨tt,rfl⟩,⟨tt,rfl⟩,⟨tt,rfl⟩,⟨tt,rfl⟩,tt⟩,rfl⟩
   ·intro b4 E4 _;refine qC ?_ ?_<;>intro da
    ·refine cF [3] [0,1,4] (tl:=[(2,[2]),(3,[2]),(5,[]),(6,[]),(7,[])]) ?_;refine chf rfl c7G ?_;refine chf rfl (c8 rfl d7c) ?_;refine b4r ?_;refine B1 rfl rfl rfl (c4 rfl a3l j1 (H7 l nn (p+1) _ 0 rfl om_ hl Y4 de_ de_) rfl ?_);intro v hv;have dj:v.length<=8:=H6 (.inr (.inl hv));refine ⟨⟨F1,tt⟩,?_⟩;refine d6u ?_;intro ⟨s1,p1⟩ ⟨bv,bV,aF⟩;dsimp only at bv bV aF ⊢;refine c6E ?_;refine c0I ?_;refine qY (A8 ([0,0,0,1].map icv) rfl ⟨rfl,rfl,rfl,rfl,tt⟩ t_4 t_1 t_8 rfl rfl rfl rfl rfl rfl rfl rfl rfl) ?_;refine qD (c4 rfl c3L j1 (a5Y l nn (p1) _ 0 rfl om_ hl [0,0,0,1] si_ si_) rfl ?_);intro n hn;have hn01:n=0\/n=1:=by
      simp only [J5,a7v,or_false] at hn;omega
     refine H8 (α:=Str × Nat × Int) (fun x=>[(7,(.clo 163 [.ptr 1 0,.ptr 2 0,.ptr 3 0])),(8,(sv x.1)),(9,iv x.2.2)]) (fun x=>[r5 l nn (x.2.1),.box [.ptr 0 0],.box [iv d],.box [(.list (ps.map scv) (gnn ps.length) none)]]) (fun x=>(x.2.2=0\/x.2.2=1)/\(x.2.2=1->x.1.length<=L+9/\x.2.1<=k+4+K)/\x.1.length<=2*L+11/\k<=x.2.1/\x.2.1<=k+4+2*K) (fun x=>x.2.2.toNat) (_,p1+1,n) ⟨hn01,fun _=>⟨by show List.length _<=_;simp only [n_6,C5,I8];omega,do_⟩,by show List.length _<=_;simp only [n_6,C5,I8];omega,do_,do_⟩ ⟨⟨tt,rfl⟩,⟨tt,rfl⟩,⟨tt,rfl⟩,tt⟩ rfl ?_;intro ⟨s,p5,n5⟩ E5 ⟨hn5,hn6,hs5,hq5,hq6⟩;dsimp only at hn5 hn6 hs5 hq5 hq6 ⊢;refine qk (qC ?_ ?_)<;> intro dr
     ·have h13':n5=1:=sm_ dr;obtain ⟨hs6,hq7⟩:=hn6 h13';refine qD (S6 rfl tt rfl b9z trivial (by exact dY om_ (p5) om_) rfl ?_);intro ⟨s2,p2⟩ ⟨dA,cJ,aV⟩;dsimp only at dA cJ aV ⊢;refine qY a5a ?_;refine qY a1W ?_;refine qY V3 ?_;exact ⟨(_,p2,n5 - 1),do_,(by exact ⟨do_,fun h=>by dsimp only at h;omega,by show List.length _<=_;simp only [n_6,C5,I8];omega,do_,do_⟩),⟨⟨tt,rfl⟩,⟨tt,rfl⟩,⟨tt,rfl⟩,tt⟩,rfl⟩
     ·refine j4 ?_;refine qY X4 ?_;refine c6 ?_;exact ⟨_,rE1,⟨(_,p5),a2h rfl T3 (.old (.val _)),b6s,do_,do_⟩⟩
    ·refine qC ?_ ?_<;>intro gE
     ·refine qD (S6 rfl tt rfl b9z trivial (by exact dY om_ (p+1) om_) rfl ?_);intro ⟨s1,p1⟩ ⟨bv,bV,aF⟩;dsimp only at bv bV aF ⊢;refine a2G ?_;refine qD (S6 rfl tt rfl b9z trivial (by exact dY om_ (p1) om_) rfl ?_);intro ⟨s2,p2⟩ ⟨dA,cJ,aV⟩;dsimp only at dA cJ aV ⊢;refine b05 ?_;refine qD (S6 rfl tt rfl b9z trivial (by exact dY om_ (p2) om_) rfl ?_);intro ⟨s3,p3⟩ ⟨fS,hq3,eW⟩;dsimp only at fS hq3 eW ⊢;refine b05 ?_;refine c6 ?_;exact ⟨_,rE1,⟨(_,p3),a2h rfl T3 (.old (.val _)),b6s,do_,do_⟩⟩
     ·refine qC ?_ ?_<;>intro h15
      ·refine cF [3,4] [0,1,5] (tl:=[(2,[2]),(3,[2]),(4,[2]),(6,[]),(7,[]),(8,[]),(9,[])]) ?_;refine chf rfl c7G ?_;refine chf rfl (c8 rfl b71) ?_;refine b4r ?_;refine B1 rfl rfl rfl (c4 rfl a3l j1 (H7 l nn (p+1) _ 0 rfl om_ hl a0V de_ de_) rfl ?_);intro v hv;have dj:v.length<=8:=H6 (.inr (.inr (.inr (.inl hv))));refine ⟨⟨F1,tt⟩,?_⟩;refine b0G rfl rfl (fun _=>c8 rfl a5a) ?_;refine d6u ?_;intro ⟨s1,p1⟩ ⟨bv,bV,aF⟩;dsimp only at bv bV aF ⊢;refine c6E ?_;refine F2 rfl rfl c2I ⟨tt,?_⟩;refine c0I ?_;exact c5w
      ·refine qC ?_ ?_<;>intro h16
       ·refine qD (S6 rfl tt rfl b9z trivial (by exact dY om_ (p+1) om_) rfl ?_);intro ⟨s1,p1⟩ ⟨bv,bV,aF⟩;dsimp only at bv bV aF ⊢;refine a2G ?_;exact c5w
       ·refine qk ?_;refine cF [2,3,7,8] [0,4,5,9] (tl:=[(1,[1,2,3]),(2,[1,2,3]),(3,[1,2,3]),(6,[3]),(7,[3]),(8,[3]),(10,[]),(11,[]),(12,[]),(13,[])]) ?_;refine chf rfl V4 ?_;refine chf rfl c7G ?_;refine chf rfl (c8 rfl q_9) ?_;refine b4r ?_;refine B1 rfl rfl rfl (S6 rfl tt rfl b9z trivial (by exact dY om_ (p+1) om_) rfl ?_);intro ⟨s1,p1⟩ ⟨bv,bV,aF⟩;dsimp only at bv bV aF ⊢;refine ⟨⟨(by exact c8 rfl c3k),(by exact c8 rfl q_9),F1,tt⟩,?_⟩;refine b0G rfl rfl (fun _=>c8 rfl a5a) ?_;refine b0G rfl rfl (fun _=>c8 rfl X4) ?_;refine B1 rfl rfl rfl (c4 rfl a3l j1 (H7 l nn p1 _ 0 rfl om_ hl ([[43],[45],[42],[47],[37],[60],[61,61]]:List Str) si_ si_) rfl ?_);intro v hv;have dj:v.length<=2:=by revert v;decide
        refine ⟨⟨F1,tt⟩,?_⟩;refine b0G rfl rfl (fun _=>c8 rfl a1W) ?_;refine b0G rfl rfl (fun _=>c8 rfl X4) ?_;refine B1 rfl rfl rfl (S6 rfl tt rfl b9z trivial (by exact dY om_ (p1+1) om_) rfl ?_);intro ⟨s2,p2⟩ ⟨dA,cJ,aV⟩;dsimp only at dA cJ aV ⊢;refine c6E ?_;refine F2 rfl rfl c2I ⟨tt,?_⟩;refine a89 ?_;exact ⟨_,rE1,⟨(_,p2),a2h rfl T3 (.old (.val _)),b6s,do_,do_⟩⟩
theorem a7S {l:List Int} {k:Nat} (hl:l.length<=maxLen) (d:Nat) (hd:d<=10) (ps:List Str) (cm:∀ s∈ps,s.length<=10) (aX:ps.length<=2) (L K B:Nat) (hL:L<=1000000) (hK:K<=1000) (aS:k+3*K+10<=B) (hB:B<=900000000) (dY:1<=d->∀ p,p<=B->b8 CC 163 [.ptr 1 0,.ptr 2 0,.ptr 3 0] (eob l nn ps d p) fun r τ=>∃ a:Str × Nat,r = .ret (sv a.1)/\τ=eob l nn ps d a.2/\(a.1.length<=L/\p<=a.2/\a.2<=p+K)) {σ:List b9} {q:Nat} (hq:σ[q]? = some (r5 l nn k)) :
 b8 CC 122 [.ptr q 0,iv d,.list (ps.map scv) (gnn ps.length) none] σ fun r τ=>∃ a:Str × Nat,r = .ret (sv a.1)/\τ=σ.set q (r5 l nn a.2)/\(a.1.length<=3*L+30/\k<=a.2/\a.2<=k+(3*K+5)) :=
 a7F (c:=fun a:Str × Nat=>sv a.1) (S:=fun a=>r5 l nn a.2) hCC (fun a h=>by simp at h;rcases h with rfl | rfl;exact .val _;exact F5 _ _) (fun _=>.val _) (fun _=>F0 _ _ _) (F0 _ _ _) rfl (d1J l nn k hl d hd ps cm aX L K B hL hK aS hB dY) σ q hq
theorem a78 (l:List Int) (nn:Bool) (hl:l.length<=maxLen) (ps:List Str) (cm:∀ s∈ps,s.length<=10) (aX:ps.length<=2):a7Q l nn ps 0 30 5 800000000/\a7Q l nn ps 1 120 20 799999000/\a7Q l nn ps 2 390 65 799998000/\a7Q l nn ps 3 1200 200 799997000:=by
 have e0:a7Q l nn ps 0 30 5 800000000:=fun k hk σ q hq=>a7S hl 0 om_ ps cm aX 0 0 900000000 om_ om_ om_ om_ (fun h=>by omega) hq;have e1:a7Q l nn ps 1 120 20 799999000:=fun k hk σ q hq=>a7S hl 1 om_ ps cm aX 30 5 800000000 om_ om_ om_ om_ (fun _ p hp=>b0P om_ e0 p hp) hq;have e2:a7Q l nn ps 2 390 65 799998000:=fun k hk σ q hq=>a7S hl 2 om_ ps cm aX 120 20 799999000 om_ om_ om_ om_ (fun _ p hp=>b0P om_ e1 p hp) hq;have e3:a7Q l nn ps 3 1200 200 799997000:=fun k hk σ q hq=>a7S hl 3 om_ ps cm aX 390 65 799998000 om_ om_ om_ om_ (fun _ p hp=>b0P om_ e2 p hp) hq;exact ⟨e0,e1,e2,e3⟩
theorem d1F (l:List Int) (nn:Bool) (k:Nat) (aS:k<=700000000) (hl:l.length<=maxLen):b8 CC 73 [.ptr 0 0] [r5 l nn k] fun r τ=>∃ a:Str × Nat,E8 1 τ r (.ret (sv a.1)) [r5 l nn a.2]/\(a.1.length<=1240/\k<=a.2/\a.2<=k+210):=by
 refine cO Tryz.func73 ?_;refine qs 1 ?_;refine N4 (α:=Nat) (fun _=>[(0,.ptr 0 0)]) (fun x=>[r5 l nn (x)]) (fun x=>x=k+1) ?_ ?_
 ·
  refine qs 1 (qD (c4 rfl a61 o6 (J6 l nn k _ 0 rfl om_ hl 8 om_) rfl ?_));intro _ _;refine N4 (α:=Bool) (fun b=>[(0,.ptr 0 0),(2,(sv ([]))),(6,(iv (K2 l k 8))),(7,(.val (.bool b)))]) (fun _=>[r5 l nn (k+1)]) (fun _=>True) ?_ ?_
  ·
   refine qk (qC ?_ ?_)<;> intro h1
   ·exact ⟨_,tt,⟨⟨tt,rfl⟩,⟨tt,rfl⟩,⟨tt,rfl⟩,⟨tt,rfl⟩,tt⟩,rfl⟩
   ·refine qC ?_ ?_<;>intro h2
    ·exact ⟨_,tt,⟨⟨tt,rfl⟩,⟨tt,rfl⟩,⟨tt,rfl⟩,⟨tt,rfl⟩,tt⟩,rfl⟩
    ·exact ⟨_,tt,⟨⟨tt,rfl⟩,⟨tt,rfl⟩,⟨tt,rfl⟩,⟨tt,rfl⟩,tt⟩,rfl⟩
  ·intro b E0 _;refine qC ?_ ?_<;>intro h3
   ·refine qY (c5 rfl Tryz.call82 trivial (b2p _) rfl) ?_;refine qD (c4 rfl a3l j1 (H7 l nn (k+1) _ 0 rfl om_ hl a2T de_ de_) rfl ?_);intro v hv;have dj:v.length<=8:=H6 (.inr (.inr (.inl hv)));refine a2G ?_;refine qD (c4 rfl b9H a4p (by exact (a78 l nn hl ([]:List Str) de_ de_).2.2.2 (k+2) om_ _ 0 rfl) rfl ?_);intro ⟨s1,p1⟩ ⟨bv,bV,aF⟩;dsimp only at bv bV aF ⊢;refine b05 ?_;exact c5w
   ·refine qC ?_ ?_<;>intro h4
    ·refine qY b71 ?_;refine qD (c4 rfl a3l j1 (H7 l nn (k+1) _ 0 rfl om_ hl a0V de_ de_) rfl ?_);intro v hv;have dj:v.length<=8:=H6 (.inr (.inr (.inr (.inl hv))));refine a2G ?_;refine qD (c4 rfl b9H a4p (by exact (a78 l nn hl ([]:List Str) de_ de_).2.2.1 (k+2) om_ _ 0 rfl) rfl ?_);intro ⟨s1,p1⟩ ⟨bv,bV,aF⟩;dsimp only at bv bV aF ⊢;refine b05 ?_;exact c5w
    ·exact ⟨_,rfl,⟨⟨tt,rfl⟩,tt⟩,rfl⟩
 ·intro p E0 hp;subst hp;refine qk (qD (c3a rfl rfl rfl rfl t_2 t_0 t_3 rfl ?_));refine qD (c4 rfl b2y a4p (M9 l nn (k+1) _ 0 rfl om_ hl 1 5 om_) rfl ?_);intro _ _;refine qC ?_ ?_<;>intro h5
  ·refine qY (A8 [scv [98]] rfl ⟨rfl,tt⟩ t_2 t_0 t_3 rfl rfl rfl rfl rfl rfl rfl rfl rfl) ?_;refine qD (A7 rfl tt tt rfl (show 1=List.length _ from rfl) q_2 t_2 t_0 a32 t_3 rfl (.inr rfl) q_7 a3Z C1 (([[97],[98]]:List Str).map scv) 2 rfl rfl ?_);refine d7t ?_;intro v hv;have dj:v.length<=8:=H6 (.inr (.inl hv));refine a2G ?_;refine qY J3 ?_;refine qC ?_ ?_<;>intro h6
   ·refine qY X4 ?_;refine qY X4 ?_;refine qD (c4 rfl b9H ⟨tt,rfl,tt,tt⟩ (by exact (a78 l nn hl ([[97],[98]]:List Str) de_ de_).2.2.2 (k+3) om_ _ 0 rfl) rfl ?_);intro ⟨s1,p1⟩ ⟨bv,bV,aF⟩;dsimp only at bv bV aF ⊢;refine b05 ?_;exact c5w
   ·exfalso;simp at h6
  ·refine d7t ?_;intro v hv;have dj:v.length<=8:=H6 (.inr (.inl hv));refine a2G ?_;refine qY J3 ?_;refine qC ?_ ?_<;>intro h7
   ·exfalso;simp at h7
   ·refine qY X4 ?_;refine qD (c4 rfl b9H ⟨tt,rfl,tt,tt⟩ (by exact (a78 l nn hl ([[97]]:List Str) de_ de_).2.2.2 (k+3) om_ _ 0 rfl) rfl ?_);intro ⟨s1,p1⟩ ⟨bv,bV,aF⟩;dsimp only at bv bV aF ⊢;refine b05 ?_;exact c5w
theorem c3S (l:List Int) (nn:Bool) (k:Nat) (aS:k<=700000000) (hl:l.length<=maxLen) (σ:List b9) (q:Nat) (hq:σ[q]? = some (r5 l nn k)):b8 CC 73 [.ptr q 0] σ fun r τ=>∃ a:Str × Nat,r = .ret (sv a.1)/\τ=σ.set q (r5 l nn a.2)/\(a.1.length<=1240/\k<=a.2/\a.2<=k+210) :=
 a7F (c:=fun a:Str × Nat=>sv a.1) (S:=fun a=>r5 l nn a.2) hCC (fun a h=>by simp at h) (fun _=>.val _) (fun _=>F0 _ _ _) (F0 _ _ _) rfl (d1F l nn k aS hl) σ q hq
theorem c0G (l:List Int) (nn:Bool) (k:Nat) (aS:k<=600000000) (hl:l.length<=maxLen) (pkg:Str) (eu:pkg.length<=8):b8 CC 68 [.ptr 0 0,(sv pkg)] [r5 l nn k] fun r τ=>∃ a:Str × Nat,E8 1 τ r (.ret (sv a.1)) [r5 l nn a.2]/\(a.1.length<=6300/\k<=a.2/\a.2<=k+1070):=by
 refine cO Tryz.func68 ?_;refine qs 2 ?_;refine a2G ?_;refine N4 (α:=Str × Nat) (fun x=>[(0,.ptr 0 0),(1,(sv pkg)),(5,(sv x.1))]) (fun x=>[r5 l nn (x.2)]) (fun x=>x.1.length<=40/\x.2=k+1) ?_ ?_
 ·
  refine qk (qD (c4 rfl b2y a4p (M9 l nn k _ 0 rfl om_ hl 1 8 om_) rfl ?_));intro _ _;refine qC ?_ ?_<;>intro h1
  ·refine qY a5a ?_;exact ⟨(_,k+1),d9O,⟨⟨tt,rfl⟩,⟨tt,rfl⟩,⟨tt,rfl⟩,tt⟩,rfl⟩
  ·exact ⟨(_,k+1),d9O,⟨⟨tt,rfl⟩,⟨tt,rfl⟩,⟨tt,rfl⟩,tt⟩,rfl⟩
 ·intro ⟨s,p⟩ E0 ⟨hs,hp⟩;dsimp only at hs hp ⊢;subst hp;refine qk (qD (c4 rfl a61 o6 (J6 l nn (k+1) _ 0 rfl om_ hl 3 om_) rfl ?_));intro _ _;have hb1:=a15 (l:=l) (k:=k+1) (n:=3) om_;refine A6 hCC 1 rfl (α:=Str × List Str × Nat × Int) (fun x=>[(0,.ptr 0 0),(1,(sv pkg)),(5,(sv x.1)),(6,(.list (x.2.1.map scv) (gnn x.2.1.length) (C2 x.2.1.length 1))),(7,iv x.2.2.2)]) (fun x=>[r5 l nn x.2.2.1,o8 x.2.1.length]) (fun x=>0<=x.2.2.2/\x.2.2.2<=2/\x.1.length+20*x.2.2.2<=80/\x.2.1.length+x.2.2.2<=2/\k+2<=x.2.2.1/\x.2.2.1+x.2.2.2<=k+4) (fun x=>x.2.2.2.toNat) ⟨(s,[],k+2,K2 l (k+1) 3),[0,9],⟨do_,do_,do_,by dsimp only;simp;omega,do_,do_⟩,⟨rfl,rfl⟩,ut_,uq_⟩ ?_;intro ⟨s,seen,p,n⟩ ⟨bf,cj,dA,fm,fh,cu⟩;dsimp only at bf cj dA fm fh cu ⊢;refine qk (qC ?_ ?_)<;> intro h2
  ·have gh:1<=n:=sm_ h2;refine qY (c5 rfl d0p trivial (a2P _) rfl) ?_;refine qD (c4 rfl a3l j1 (H7 l nn (p) _ 0 rfl om_ hl S8 de_ de_) rfl ?_);intro v hv;have dj:v.length<=8:=H6 (.inl hv);refine qY b4z ?_;refine a2Q ?_;refine qG (fun hg=>c5 rfl c9F ⟨hg,hg,tt⟩ (b1e seen _ v om_ _) rfl) ?_;refine b70 ?_;refine qC ?_ ?_<;>intro h3
   ·refine qY (A8 [scv v] rfl ⟨tt,tt⟩ t_2 t_0 t_3 rfl rfl rfl rfl rfl rfl rfl rfl rfl) ?_;refine qD (A7 rfl tt tt rfl si_ q_2 t_2 t_0 a32 t_3 rfl (.inr rfl) q_7 a3Z C1 ((seen++[v]).map scv) (seen++[v]).length si_ si_ ?_);refine a2G ?_;refine qY a1W ?_;refine qY V3 ?_;exact ⟨(s++((([105,109,112,111,114,116,32]:Str)++v)++[59,10]),seen++[v],p+1,n - 1),[0,2],(by exact ⟨do_,do_,do_,by dsimp only;simp only [n_6,C5,I8];omega,by dsimp only;simp only [n_6,C5,I8];omega,do_,do_⟩),⟨rfl,rfl⟩,ut_,uq_⟩
   ·refine qY V3 ?_;exact ⟨(s,seen,p+1,n - 1),[0,1],⟨do_,do_,do_,do_,do_,do_,do_⟩,⟨rfl,rfl⟩,ut_,uq_⟩
  ·have gh:n=0:=sm_ h2;subst gh;refine j4 ?_;refine qD (c4 rfl a61 o6 (J6 l nn p _ 0 rfl om_ hl 5 om_) rfl ?_);intro _ _;have bW:=a15 (l:=l) (k:=p) (n:=5) om_;refine qY (b59 rfl rfl tt rfl rfl om_ om_) ?_;refine A6 hCC 2 rfl (α:=Str × List Str × Nat × Int) (fun x=>[(0,.ptr 0 0),(5,(sv x.1)),(9,(.list (x.2.1.map scv) (gnn x.2.1.length) (C2 x.2.1.length 2))),(10,iv x.2.2.2)]) (fun x=>[r5 l nn x.2.2.1,o8 seen.length,o8 x.2.1.length]) (fun x=>0<=x.2.2.2/\x.2.2.2<=5/\x.1.length+1240*x.2.2.2<=6280/\x.2.1.length+x.2.2.2<=5/\k+3<=x.2.2.1/\x.2.2.1+211*x.2.2.2<=k+1060) (fun x=>x.2.2.2.toNat) ⟨(s,[],p+1,1+K2 l p 5),[0,1,9],⟨do_,do_,do_,by dsimp only;simp;omega,do_,do_⟩,⟨rfl,rfl⟩,ut_,uq_⟩ ?_;intro ⟨s,cE,p2,n⟩ ⟨bf,cj,fS,hhn,hp3,hp4⟩;dsimp only at bf cj fS hhn hp3 hp4 ⊢;refine qs 1 (qC ?_ ?_)<;> intro h4
   ·have gh:1<=n:=sm_ h4;refine F9 ?_;refine qs 3 (qD (c4 rfl Tryz.call73 ⟨tt,tt⟩ (c3S l nn p2 om_ hl _ 0 rfl) rfl ?_));intro ⟨dt,p5⟩ ⟨hdt,hq5,hr5⟩;dsimp only at hdt hq5 hr5 ⊢;refine H8 (α:=Nat) (fun i=>[(0,.ptr 0 0),(5,(sv s)),(9,(.list (cE.map scv) (gnn cE.length) (C2 cE.length 2))),(10,iv n),(11,(sv dt)),(12,(sv dt)),(13,iv i)]) (fun _=>[r5 l nn p5,o8 seen.length,o8 cE.length]) (fun i=>i<=dt.length) (fun i=>dt.length - i) 0 (n_4 _) tu_ rfl ?_;intro i E3 hi;refine a6S ?_;refine qC ?_ ?_<;>intro h5
    ·have ab:i < dt.length:=sm_ h5;obtain ⟨c,hc⟩:∃ c,dt[i]? = some c:=⟨dt[i]'ab,si_⟩;refine qY (N5 rfl tt tt rfl rfl t_7 om_ (by rw [a2c];exact hc)) ?_;refine a2Q ?_;refine qG (fun hg=>N5 rfl hg hg rfl rfl t_7 a7h (by rw [a2c];exact hc)) ?_;refine a4c ?_;refine qC ?_ ?_<;>intro h6
     ·refine qY (K8 (h:=i) rfl tt rfl t_7 rfl a4b a4k a4k) ?_;refine j4 ?_;refine N4 (α:=Bool × Nat) (fun x=>[(0,.ptr 0 0),(5,(sv s)),(9,(.list (cE.map scv) (gnn cE.length) (C2 cE.length 2))),(10,iv n),(11,(sv dt)),(12,(sv (dt.take i))),(84,(.val (.bool x.1)))]) (fun x=>[r5 l nn x.2,o8 seen.length,o8 cE.length]) (fun x=>p5<=x.2/\x.2<=p5+1) ?_ ?_
      ·
       refine qk (qY (c5 rfl c9F j1 (b1e cE _ _ om_ _) rfl) ?_);refine qG D6 ?_;refine b9y (.val (.bool false)) rfl rfl tt rfl rfl (fun hg=>c4 rfl b2y ⟨hg,rfl,rfl,tt⟩ (M9 l nn p5 _ 0 rfl om_ hl 1 40 om_) rfl ?_) (fun hg=>?_)
       ·
        intro _ _;exact d5E
       ·
        refine b6P ?_;exact ⟨(_,p5),⟨do_,do_⟩,⟨⟨tt,rfl⟩,⟨tt,rfl⟩,⟨tt,rfl⟩,⟨tt,rfl⟩,⟨tt,rfl⟩,⟨tt,rfl⟩,⟨tt,rfl⟩,tt⟩,rfl⟩
      ·intro ⟨b6,p6⟩ E6 ⟨hq6,hr6⟩;dsimp only at hq6 hr6 ⊢;refine qC ?_ ?_<;>intro h7
       ·refine qY (A8 [scv (dt.take i)] rfl ⟨tt,tt⟩ t_2 t_0 t_3 rfl rfl rfl rfl rfl rfl rfl rfl rfl) ?_;refine qD (A7 rfl tt tt rfl si_ q_2 t_2 t_0 a32 t_3 rfl (.inr rfl) q_7 a3Z C1 ((cE++[(dt.take i)]).map scv) (cE++[(dt.take i)]).length si_ si_ ?_);refine qY a1W ?_;refine qk (qY V3 ?_);exact ⟨(s++dt,cE++[(dt.take i)],p6,n - 1),[0,1,3],e0x,⟨rfl,rfl⟩,ut_,uq_⟩
       ·refine qk ?_;exact d6b
     ·refine qY l9 ?_;exact ⟨(i+1),om_,ab,tu_,rfl⟩
    ·refine j4 ?_;refine N4 (α:=Bool × Nat) (fun x=>[(0,.ptr 0 0),(5,(sv s)),(9,(.list (cE.map scv) (gnn cE.length) (C2 cE.length 2))),(10,iv n),(11,(sv dt)),(12,(sv dt)),(84,(.val (.bool x.1)))]) (fun x=>[r5 l nn x.2,o8 seen.length,o8 cE.length]) (fun x=>p5<=x.2/\x.2<=p5+1) ?_ ?_
     ·
      refine qk (qY (c5 rfl c9F j1 (b1e cE _ _ om_ _) rfl) ?_);refine qG D6 ?_;refine b9y (.val (.bool false)) rfl rfl tt rfl rfl (fun hg=>c4 rfl b2y ⟨hg,rfl,rfl,tt⟩ (M9 l nn p5 _ 0 rfl om_ hl 1 40 om_) rfl ?_) (fun hg=>?_)
      ·
       intro _ _;exact d5E
      ·
       refine b6P ?_;exact ⟨(_,p5),⟨do_,do_⟩,⟨⟨tt,rfl⟩,⟨tt,rfl⟩,⟨tt,rfl⟩,⟨tt,rfl⟩,⟨tt,rfl⟩,⟨tt,rfl⟩,⟨tt,rfl⟩,tt⟩,rfl⟩
     ·intro ⟨b6,p6⟩ E6 ⟨hq6,hr6⟩;dsimp only at hq6 hr6 ⊢;refine qC ?_ ?_<;>intro h8
      ·refine qY (A8 [scv dt] rfl ⟨tt,tt⟩ t_2 t_0 t_3 rfl rfl rfl rfl rfl rfl rfl rfl rfl) ?_;refine qD (A7 rfl tt tt rfl si_ q_2 t_2 t_0 a32 t_3 rfl (.inr rfl) q_7 a3Z C1 ((cE++[dt]).map scv) (cE++[dt]).length si_ si_ ?_);refine qY a1W ?_;refine qk (qY V3 ?_);exact ⟨(s++dt,cE++[dt],p6,n - 1),[0,1,3],e0x,⟨rfl,rfl⟩,ut_,uq_⟩
      ·refine qk ?_;exact d6b
   ·have gh:n=0:=sm_ h4;subst gh;refine j4 ?_;refine qD (c4 rfl b2y a4p (M9 l nn p2 _ 0 rfl om_ hl 1 30 om_) rfl ?_);intro _ _;refine qC ?_ ?_<;>intro h9
    ·refine qY (A8 (([[102,117,110,99],[125],[34],[116,101,115,116,32,116,32,61,32,49,59],[120]]:List Str).map scv) rfl ⟨rfl,rfl,rfl,rfl,rfl,tt⟩ t_2 t_0 t_3 rfl rfl rfl rfl rfl rfl rfl rfl rfl) ?_;refine qD (c4 rfl a3l j1 (H7 l nn (p2+1) _ 0 rfl om_ hl ([[102,117,110,99],[125],[34],[116,101,115,116,32,116,32,61,32,49,59],[120]]:List Str) si_ si_) rfl ?_);intro v hv;have dj:v.length<=11:=by revert v;decide
     refine qY a1W ?_;refine c6 ?_;exact ⟨_,rE1,⟨(_,p2+2),a2h rfl T3 (.old (.val _)),(by show List.length _<=_;simp only [n_6];omega),do_,do_⟩⟩
    ·refine c6 ?_;exact ⟨_,rE1,⟨(_,p2+1),a2h rfl T3 (.old (.val _)),(by show List.length _<=_;simp only;omega),do_,do_⟩⟩
theorem b4E (l:List Int) (nn:Bool) (k:Nat) (aS:k<=600000000) (hl:l.length<=maxLen) (pkg:Str) (eu:pkg.length<=8) (σ:List b9) (q:Nat) (hq:σ[q]? = some (r5 l nn k)):b8 CC 68 [.ptr q 0,(sv pkg)] σ fun r τ=>∃ a:Str × Nat,r = .ret (sv a.1)/\τ=σ.set q (r5 l nn a.2)/\(a.1.length<=6300/\k<=a.2/\a.2<=k+1070) :=
 a7F (c:=fun a:Str × Nat=>sv a.1) (S:=fun a=>r5 l nn a.2) hCC (fun a h=>by simp at h;subst h;exact .val _) (fun _=>.val _) (fun _=>F0 _ _ _) (F0 _ _ _) rfl (c0G l nn k aS hl pkg eu) σ q hq
def a1B:List Str:=([[97,46,100,97,116],[100,47,98,46,100,97,116],[99]]:List Str)
def a3H:List Str:=([[97,46,115,114,99],[98,46,115,114,99],[100,47,99,46,115,114,99],[120,46,115,114,99],[97,46,100,97,116],[100,47,98,46,100,97,116],[99],[122,48,46,115,114,99],[122,49,46,115,114,99],[122,50,46,115,114,99]]:List Str)
structure N0 (B:Nat) (fl:List Fi):Prop where
 srt:c5L fl
 pth:∀ f∈fl,f.p∈a3H
 byt:∀ f∈fl,f.b.length<=B
theorem N0.nil (B:Nat):N0 B []:=⟨.nil,fun f h=>by simp at h,fun f h=>by simp at h⟩
theorem N0.mono {C:Nat} (h:N0 B fl) (hc:B<=C):N0 C fl:=⟨h.srt,h.pth,fun f hf=>b6u (h.byt f hf) hc⟩
theorem N0.len (h:N0 B fl):fl.length<=10:=by
 have hn:(fl.map Fi.p).Nodup:=by
  rw [List.nodup_iff_pairwise_ne,List.pairwise_map];exact h.srt.imp fun {a b} cX he=>by rw [he,b5e] at cX;cases cX
 have hs:∀ x∈fl.map Fi.p,x∈a3H:=fun x hx=>by
  obtain ⟨f,hf,rfl⟩:=F4.1 hx;exact h.pth f hf
 have:=List.Nodup.length_le_of_subset hn (fun x hx=>hs x hx);rw [O3] at this;exact this
theorem b3I {f:Fi}:∀ l:List Fi,a8V f true l=l.filter fun x=>!decide (x.p=f.p)
 | []=>rfl
 | x::l=>by
  rw [a8V,Bool.true_or,b3I l,a7V];by_cases h:x.p=f.p<;>simp [h]
theorem a7p {f:Fi} {x:Fi}:∀ {d:Bool} {l:List Fi},x∈a8V f d l->x=f\/x∈l
 | d,[],h=>by
  cases d<;>simp [a8V] at h
  exact .inl h
 | d,y::l,h=>by
  rw [a8V] at h
  rcases L8.1 h with h | h
  ·split at h<;>simp at h
   exact .inl h
  ·rcases L8.1 h with h | h
   ·split at h<;>simp at h
    exact .inr (by rw [h];simp)
   ·rcases a7p h with h | h
    ·exact .inl h
    ·exact .inr (a8g _ h)
theorem b8f {f:Fi}:∀ {l:List Fi},c5L l->c5L (a8V f false l)
 | [],_=>by simp [a8V,c5L]
 | y::l,h=>by
  obtain ⟨h1,h2⟩:=a4x.1 h;rw [a8V];by_cases aP:leF f y=true
  ·simp only [aP,Bool.not_false,Bool.and_self,if_true,Bool.or_true,b3I];have hl:c5L (l.filter fun x=>!decide (x.p=f.p)):=h2.filter _;have cK:∀ g∈l.filter fun x=>!decide (x.p=f.p),Op.bytesLess f.p g.p=true:=fun g hg=>by
    have hy:=h1 g ((b2N.1 hg).1);unfold leF at aP;simp only [a8j,a1v] at aP
    rcases aP with aP | aP
    ·exact a7a aP hy
    ·rw [aP];exact hy
   by_cases fp:y.p=f.p
   ·rw [n_1 fp,a2e];exact a4x.2 ⟨cK,hl⟩
   ·rw [n_0 fp];have hfy:Op.bytesLess f.p y.p=true:=by
     unfold leF at aP;simp only [a8j,a1v] at aP
     rcases aP with aP | aP
     ·exact aP
     ·exact absurd aP.symm fp
    refine a4x.2 ⟨fun g hg=>?_,a4x.2 ⟨fun g hg=>h1 g ((b2N.1 hg).1),hl⟩⟩
    rcases J5.1 hg with rfl | hg
    ·exact hfy
    ·exact cK g hg
  ·have eZ:leF f y=false:=sp_ aP;have fp:¬ y.p=f.p:=fun h=>by rw [leF,h] at eZ;simp at eZ
   simp only [eZ,Bool.and_false,Bool.or_false,n_0 fp];have:Op.bytesLess y.p f.p=true:=by
    unfold leF at eZ;simp only [b6f,b2R] at eZ;exact c8B eZ.1 eZ.2
   refine a4x.2 ⟨fun g hg=>?_,b8f h2⟩
   rcases a7p hg with rfl | hg
   ·exact this
   ·exact h1 g hg
theorem N0.ins (h:N0 B fl) {f:Fi} (hp:f.p∈a3H) (hb:f.b.length<=B):N0 B (a6f fl f) :=
 ⟨b8f h.srt,fun g hg=>by
  rcases a7p hg with rfl | hg
  ·exact hp
  ·exact h.pth g hg,fun g hg=>by
  rcases a7p hg with rfl | hg
  ·exact hb
  ·exact h.byt g hg⟩
theorem N0.rem (h:N0 B fl) (s:Str):N0 B (a5C fl s) :=
 ⟨h.srt.filter _,fun g hg=>h.pth g ((b2N.1 hg).1),fun g hg=>h.byt g ((b2N.1 hg).1)⟩
theorem c2d:∀ s∈I9,s∈a3H:=by decide
theorem c10:∀ s∈a1B,s∈a3H:=by decide
theorem S3 (fl:List Fi) (nn:Bool):r4 (.agg (r8 fl nn)):=r6 (cs:=r8 _ _) ⟨J2 _ _,tt⟩
theorem a5e {l:List α} (h:i < l.length):∃ y,l[i]? = some y/\y∈l:=⟨l[i],by simp [h],b3O h⟩
theorem b5D (l:List Int) (nn:Bool) (k:Nat) (aS:k<=500000000) (hl:l.length<=maxLen):b8 CC 27 [.ptr 0 0] [r5 l nn k] fun r τ=>∃ a:List Fi × Nat,E8 1 τ r (.ret (.agg (r8 a.1 (gnn a.1.length)))) [r5 l nn a.2]/\(N0 6300 a.1/\k<=a.2/\a.2<=k+4400):=by
 refine qO Tryz.func27 ?_;refine d2l ?_;refine qY (c5 rfl Tryz.call66 trivial (a72 _) rfl) ?_;refine qY J3 ?_;refine H8 (α:=List Fi × Nat × Nat) (fun x=>[(0,.ptr 0 0),(2,.ptr 1 0),(3,.ptr 2 0),(8,(.list (I9.map scv) true none)),(9,iv I9.length),(10,iv x.2.2)]) (fun x=>[r5 l nn (x.2.1),.box (r8 [] false),.box (r8 x.1 (gnn x.1.length))]) (fun x=>x.2.2<=I9.length/\N0 6300 x.1/\k+0<=x.2.1/\x.2.1<=k+0+x.2.2*1072) (fun x=>I9.length - x.2.2) ([],k,0) ⟨n_4 _,.nil _,do_,do_⟩ tu_ rfl ?_;intro ⟨fl,p,i⟩ E0 ⟨hi,hm,fh,cu⟩;dsimp only at hi hm fh cu ⊢;have hL:I9.length=4:=rfl;have gP:=hm.len;refine qs 2 (qC ?_ ?_)<;> intro h1
 ·have ab:i < I9.length:=sm_ h1;obtain ⟨y,hb,eN⟩:=a5e ab;refine N4 (α:=List Fi × Nat) (fun x=>[(0,.ptr 0 0),(2,.ptr 1 0),(3,.ptr 2 0),(8,(.list (I9.map scv) true none)),(9,iv I9.length),(10,iv i)]) (fun x=>[r5 l nn (x.2),.box (r8 [] false),.box (r8 x.1 (gnn x.1.length))]) (fun x=>N0 6300 x.1/\p<=x.2/\x.2<=p+1072) ?_ ?_
  ·
   refine qk (qY a6o ?_);refine qD (c4 rfl b2y a4p (M9 l nn p _ 0 rfl om_ hl 3 4 om_) rfl ?_);intro _ _;refine qC ?_ ?_<;>intro h2
   ·refine d8M ?_;refine a6Y ?_;refine chf rfl V4 ?_;refine chf rfl c7p ?_;refine D9 ?_;refine B1 rfl rfl rfl (c4 rfl a3l j1 (H7 l nn (p+1) _ 0 rfl om_ hl S8 de_ de_) rfl ?_);intro v hv;have dj:v.length<=8:=H6 (.inl hv);refine ⟨⟨a08,F1,F1,tt⟩,?_⟩;refine B1 rfl rfl rfl (c4 rfl Tryz.call68 j1 (b4E l nn (p+2) om_ hl v dj _ 0 rfl) rfl ?_);intro ⟨s,p3⟩ ⟨hs,bV,cJ⟩;dsimp only at hs bV cJ ⊢;refine d3h ?_;refine d5B ?_;exact ⟨(a6f fl ⟨y,s⟩,p3),⟨hm.ins (c2d _ eN) hs,do_,do_⟩,tu_,rfl⟩
   ·exact ⟨(fl,p+1),⟨hm,do_,do_⟩,tu_,rfl⟩
  ·intro ⟨fl,p4⟩ E0 ⟨hm,bV,cJ⟩;dsimp only at hm bV cJ ⊢;refine a4T ?_;exact ⟨(fl,p4,i+1),do_,⟨do_,hm,do_,do_⟩,tu_,rfl⟩
 ·refine j4 ?_;refine qY e0X ?_;refine qY J3 ?_;refine H8 (α:=List Fi × Nat × Nat) (fun x=>[(0,.ptr 0 0),(2,.ptr 1 0),(3,.ptr 2 0),(26,(.list (a1B.map scv) true none)),(27,iv a1B.length),(28,iv x.2.2)]) (fun x=>[r5 l nn (x.2.1),.box (r8 [] false),.box (r8 x.1 (gnn x.1.length))]) (fun x=>x.2.2<=a1B.length/\N0 6300 x.1/\k+0<=x.2.1/\x.2.1<=k+4288+x.2.2*5) (fun x=>a1B.length - x.2.2) (fl,p,0) ⟨n_4 _,hm,do_,do_⟩ tu_ rfl ?_;intro ⟨fl,p,i⟩ E0 ⟨hi,hm,fh,cu⟩;dsimp only at hi hm fh cu ⊢;have hL:a1B.length=3:=rfl;have gP:=hm.len;refine qk (qC ?_ ?_)<;> intro h3
  ·have ab:i < a1B.length:=sm_ h3;obtain ⟨y,hb,eN⟩:=a5e ab;refine qY a6o ?_;refine qD (c4 rfl b2y a4p (M9 l nn p _ 0 rfl om_ hl 1 3 om_) rfl ?_);intro _ _;refine qC ?_ ?_<;>intro h4
   ·refine cF [] [0,1,2] (tl:=[(3,[0,1]),(4,[0]),(5,[]),(6,[])]) ?_;refine chf rfl a4W ?_;refine a6Y ?_;refine D9 ?_;refine B1 rfl rfl rfl (c4 rfl Tryz.call70 ⟨tt,tt⟩ (c3n l nn (p+1) om_ hl _ 0 rfl) rfl ?_);intro ⟨s,p3⟩ ⟨hs,bV,cJ⟩;dsimp only at hs bV cJ ⊢;refine d3h ?_;refine d5B ?_;refine qY l9 ?_;exact ⟨(a6f fl ⟨y,s⟩,p3,i+1),do_,⟨do_,hm.ins (c10 _ eN) do_,do_,do_⟩,tu_,rfl⟩
   ·refine qY l9 ?_;exact ⟨(fl,p+1,i+1),do_,⟨do_,hm,do_,do_⟩,tu_,rfl⟩
  ·refine j4 ?_;refine c69 ?_;exact ⟨_,C6 rfl a3c,⟨(fl,p),a2h rfl T3 (.old (S3 _ _).old),hm,do_,do_⟩⟩
theorem b6n (l:List Int) (nn:Bool) (k:Nat) (aS:k<=500000000) (hl:l.length<=maxLen) (σ:List b9) (q:Nat) (hq:σ[q]? = some (r5 l nn k)):b8 CC 27 [.ptr q 0] σ fun r τ=>∃ a:List Fi × Nat,r = .ret (.agg (r8 a.1 (gnn a.1.length)))/\τ=σ.set q (r5 l nn a.2)/\(N0 6300 a.1/\k<=a.2/\a.2<=k+4400) :=
 a7F (c:=fun a:List Fi × Nat=>(.agg (r8 a.1 (gnn a.1.length)))) (S:=fun a=>r5 l nn a.2) hCC (fun a h=>by simp at h) (fun _=>S3 _ _) (fun _=>F0 _ _ _) (F0 _ _ _) rfl (b5D l nn k aS hl) σ q hq
theorem b10 {s:Str} {e:Nat} {c:UInt8} (h:s[e]? = some c) (hae:a<=e):sub s a (e+1)=sub s a e++[c]:=by
 obtain ⟨ab,rfl⟩:=n_3.1 h;unfold sub;rw [<- b1w ab,List.drop_append_of_le_length a4f]
theorem sub_self {s:Str}:sub s a a=[]:=by unfold sub;exact V2 a4f
theorem c8a (l:Str) (c:UInt8):a4y (l++[c])=min (10*a4y l+((c.toNat:Int) - 48)) 9007199254740993:=by
 unfold a4y;rw [List.foldl_append];rfl
theorem b4s {s:Str} {e:Nat} {ks:List Int} (h:∀ c,s[e]? = some c->inK ks c=false):A4 s e ks=e:=by
 cases hc:s[e]? with
 | none=>exact a8Z (sp_ hc)
 | some c=>rw [W1 hc,n_0 (by rw [h c hc];simp)]
theorem d2A:∀ x:Fin 256,(o0 (x.val:Int)=8)=(UInt8.ofNat x.val∈a4o):=by decide
theorem b6V (b:UInt8):o0 b.toNat=8↔b∈a4o:=by
 have h:=d2A ⟨b.toNat,b.toNat_lt⟩;simp only at h;rw [h];simp
theorem c3W {s:Str}:preB [61,61] (s.drop a)=true↔s[a]? = some 61/\s[a+1]? = some 61:=by
 unfold preB;rw [b9C];constructor
 ·rintro ⟨t,ht⟩;have h0:(s.drop a)[0]? = some 61:=by rw [<- ht];rfl
  have h1:(s.drop a)[1]? = some 61:=by rw [<- ht];rfl
  rw [a5v] at h0 h1;exact ⟨h0,h1⟩
 ·rintro ⟨h0,h1⟩;obtain ⟨l0,e0⟩:=n_3.1 h0;obtain ⟨l1,e1⟩:=n_3.1 h1;refine ⟨s.drop (a+2),?_⟩;rw [R2 l0,R2 l1,e0,e1];rfl
theorem d4I {s:Str} (h0:s[a]? = some 61) (h1:s[a+1]? = some 61):sub s a (a+2)=[61,61]:=by
 rw [show a+2=(a+1)+1 from rfl,b10 h1 om_,b10 h0 (n_7 _),sub_self];rfl
def b2k (s:Str) (a:Nat) (b:UInt8):Tok:=if (E9 s a b).2.2=0 then { (E9 s a b).1 with at_:=(a:Nat)} else ⟨0,[],0,0⟩
theorem c9y {b:UInt8} {n:Nat} (hn:n < 256):((b.toNat:Int)=(n:Int))↔b=UInt8.ofNat n:=by
 constructor
 ·intro h;have h2:b.toNat=(UInt8.ofNat n).toNat:=by rw [b7n,b5l (sp_ hn)];omega
  exact b66.1 h2
 ·rintro rfl;rw [b7n,b5l (sp_ hn)]
theorem c6g (s:Str) (hs:s.length<=1000000000) (a:Nat) (b:UInt8) (hb:s[a]? = some b) (ha:a < s.length):b8 CC 228 [(sv s),iv a] [] fun r τ=>∃ _:Unit,a1q 0 τ r (.ret (.tup [.agg (b2k s a b).cells,(iv ((E9 s a b).2.1)),(iv ((E9 s a b).2.2))]))/\True:=by
 refine qO Tryz.func228 ?_;refine qD (p8 rfl a2R rfl j6 ?_);refine qY b9e ?_;refine qY (c5 rfl c8U ⟨tt,tt⟩ (a42 b _) rfl) ?_;refine qC ?_ ?_<;>intro h1
 ·have hk:o0 b.toNat=1:=sp_ h1;refine j7 hCC (fun e:Nat=>[(0,(sv s)),(1,iv a),(4,.ptr 0 0),(5,iv e)]) (fun _=>[.box (Tok.cells ⟨0,[],0,0⟩)]) (fun e=>a<=e/\e<=s.length/\A4 s a [1,2,3]=A4 s e [1,2,3]) (fun e=>s.length - e) a ⟨n_7 _,om_,rfl⟩ tu_ (ah:=[]) rfl z6 uz_ ?_;intro e ⟨hae,eH,hr⟩;obtain ⟨c,hc⟩:∃ c:UInt8,e < s.length->s[e]? = some c:=by
   by_cases aP:e < s.length
   ·exact ⟨s[e],fun _=>by simp [aP]⟩
   ·exact ⟨0,fun h=>absurd h aP⟩
  refine a6S ?_;refine c72 ?_;refine qG (fun hg=>c5 rfl c9B ⟨hg,tt⟩ (a6D c _) rfl) ?_;refine qY M7 ?_;refine qC ?_ ?_<;>intro h2
  ·have dC:e < s.length/\inK [1,2,3] c=true:=sp_ h2;have hce:=hc dC.1;refine qY l9 ?_;exact ⟨(e+1),_,⟨om_,om_,om_,by rw [hr,W1 hce,n_1 dC.2]⟩,tu_,rfl⟩
  ·have hse:A4 s a [1,2,3]=e:=by
    rw [hr];refine b4s fun c' bG=>?_;have aP:=(n_3.1 bG).1;rw [hc aP] at bG;injection bG with bG
    subst bG;have h3:e < s.length->inK [1,2,3] c=false:=sp_ h2;exact h3 aP
   refine j4 ?_;refine qY a9h ?_;refine qC ?_ ?_<;>intro h3
   ·have hx:E9 s a b=(⟨0,[],0,0⟩,0,2):=by
     unfold E9;rw [n_1 hk,hse,n_1 (sm_ h3)]
    exact d3p
   ·have hx:E9 s a b=(⟨1,sub s a e,0,0⟩,(e:Int),0):=by
     unfold E9;rw [n_1 hk,hse,n_0 (sm_ h3)]
    refine qY (K8 (a:=a) (h:=e) rfl tt rfl t_7 a4b a4b a4k a4k) ?_;refine qY d3r ?_;exact c9b
 ·have bw:¬ o0 b.toNat=1:=sp_ h1;refine qG D6 ?_;refine a3G ?_;refine qC ?_ ?_<;>intro h4
  ·have bS:o0 b.toNat=2:=by rw [a5p];simp at h4;omega
   refine j7 hCC (fun x:Nat × Int=>[(0,(sv s)),(1,iv a),(4,.ptr 0 0),(5,iv x.1),(8,iv x.2)]) (fun _=>[.box (Tok.cells ⟨0,[],0,0⟩)]) (fun x=>a<=x.1/\x.1<=s.length/\A4 s a [2]=A4 s x.1 [2]/\0<=x.2/\x.2<=90071992547409930/\min x.2 9007199254740993=a4y (sub s a x.1)) (fun x=>s.length - x.1) (a,0) ⟨n_7 _,do_,rfl,do_,do_,by rw [sub_self];rfl⟩ tu_ (ah:=[]) rfl z6 uz_ ?_;intro ⟨e,n⟩ ⟨hae,eH,hr,dw,bf,bL⟩;dsimp only at hae eH hr dw bf bL ⊢;obtain ⟨c,hc⟩:∃ c:UInt8,e < s.length->s[e]? = some c:=by
    by_cases aP:e < s.length
    ·exact ⟨s[e],fun _=>by simp [aP]⟩
    ·exact ⟨0,fun h=>absurd h aP⟩
   refine qs 1 (qY Q2 ?_);refine b33 ?_;refine b33 ?_;refine qC ?_ ?_<;>intro h5
   ·have h5':e < s.length/\48<=c.toNat/\c.toNat<=57:=by
     simp at h5;omega
    have hce:=hc h5'.1;have hk2c:o0 c.toNat=2:=a5p.2 h5'.2;have ck:=c8a (sub s a e) c;rw [<- b10 hce hae] at ck;refine N4 (α:=Int) (fun n'=>[(0,(sv s)),(1,iv a),(4,.ptr 0 0),(5,iv e),(8,iv n')]) (fun _=>[.box (Tok.cells ⟨0,[],0,0⟩)]) (fun n'=>0<=n'/\n'<=90071992547409930/\min n' 9007199254740993=a4y (sub s a (e+1))) ?_ ?_
    ·
     refine qk (qC ?_ ?_)<;> intro h6
     ·have cj:n<=9007199254740992:=sp_ h6;refine qY (b7A rfl tt rfl rfl rfl om_ om_) ?_;refine qY (N5 rfl tt tt rfl rfl t_7 om_ (by rw [a2c];exact hce)) ?_;refine qY a0c ?_;refine qY (a6K rfl tt rfl b2z c88 (show IntKind.i64.wrap (IntKind.u8.wrap ((c.toNat:Int) - 48))=(c.toNat:Int) - 48 by rw [wr8 om_ om_,a95 om_ om_])) ?_;refine qY a4n ?_;exact ⟨_,(by exact ⟨om_,om_,by rw [ck,<- bL];omega⟩),⟨⟨tt,rfl⟩,⟨tt,rfl⟩,⟨tt,rfl⟩,⟨tt,rfl⟩,⟨tt,rfl⟩,tt⟩,rfl⟩
     ·have cj:9007199254740992 < n:=sp_ h6;exact ⟨n,⟨dw,bf,by rw [ck,<- bL];omega⟩,tu_,rfl⟩
    ·intro n' E' ⟨hn0',hn1',hnm'⟩;refine a4T ?_;exact ⟨(e+1,n'),_,⟨do_,do_,do_,by dsimp only;rw [hr,W1 hce,n_1 (by simp [inK,hk2c])],hn0',hn1',hnm'⟩,tu_,rfl⟩
   ·have hse:A4 s a [2]=e:=by
     rw [hr];refine b4s fun c' bG=>?_;have aP:=(n_3.1 bG).1;rw [hc aP] at bG;injection bG with bG
     subst bG;have hnk:¬ o0 c.toNat=2:=fun hk=>by
      have:=a5p.1 hk;simp at h5;omega
     simp [inK,hnk]
    refine j4 ?_;refine qC ?_ ?_<;>intro h7
    ·have hx:E9 s a b=(⟨0,[],0,0⟩,0,3):=by
      unfold E9;rw [n_0 bw,n_1 bS,hse,n_1 (by rw [<- bL];simp at h7;omega)]
     exact d3p
    ·have hx:E9 s a b=(⟨2,[],n,0⟩,(e:Int),0):=by
      unfold E9;have eb:a4y (sub s a e)=n:=by rw [<- bL];simp at h7;omega
      rw [n_0 bw,n_1 bS,hse,eb,n_0 (sm_ h7)]
     refine qY d3r ?_;exact c9b
  ·have bS:¬ o0 b.toNat=2:=by rw [a5p];simp at h4;omega
   refine qC ?_ ?_<;>intro h8
   ·have hb34:b=34:=by
     have:(b.toNat:Int)=((34:Nat):Int):=sp_ h8;exact (c9y (n:=34) om_).1 this
    have fG:o0 b.toNat=7:=by rw [hb34];rfl
    refine qY l9 ?_;refine j7 hCC (fun e:Nat=>[(0,(sv s)),(1,iv a),(4,.ptr 0 0),(5,iv e)]) (fun _=>[.box (Tok.cells ⟨0,[],0,0⟩)]) (fun e=>a+1<=e/\e<=s.length/\a3D (s.drop (a+1))=(a3D (s.drop e)).map (· + (e - (a+1)))) (fun e=>s.length - e) (a+1) ⟨n_7 _,om_,si_⟩ tu_ (ah:=[]) rfl z6 uz_ ?_;intro e ⟨hae,eH,hr⟩;obtain ⟨c,hc⟩:∃ c:UInt8,e < s.length->s[e]? = some c:=by
     by_cases aP:e < s.length
     ·exact ⟨s[e],fun _=>by simp [aP]⟩
     ·exact ⟨0,fun h=>absurd h aP⟩
    refine a6S ?_;refine b33 ?_;refine b33 ?_;refine b33 ?_;refine qC ?_ ?_<;>intro h9
    ·have h9':e < s.length/\32<=c.toNat/\c.toNat<=126/\¬ c.toNat=34:=by
      simp at h9;omega
     have hce:=hc h9'.1;refine qY l9 ?_;exact ⟨(e+1),_,⟨om_,om_,om_,by
      rw [hr,a28 hce,n_1 ⟨h9'.2.1,h9'.2.2.1⟩,n_0 h9'.2.2.2,Option.map_map]
      congr 1
      funext x
      simp only [Function.comp];omega⟩,tu_,rfl⟩
    ·refine j4 ?_;refine qY Q2 ?_;refine c72 ?_;refine a4c ?_;refine qC ?_ ?_<;>intro aY
     ·have hx:E9 s a b=(⟨0,[],0,0⟩,0,9):=by
       have hq:a3D (s.drop (a+1))=none:=by
        rw [hr];by_cases aP:e < s.length
        ·rw [a28 (hc aP)];have h9':¬ (e < s.length/\32<=c.toNat/\c.toNat<=126/\¬ c.toNat=34):=by
          simp at h9;omega
         have h10':¬ c.toNat=34:=by
          simp at aY;omega
         rw [n_0 om_];rfl
        ·rw [b4y om_];rfl
       unfold E9;rw [n_0 bw,n_0 bS,n_1 fG,hq]
      exact d3p
     ·have h10':e < s.length/\c.toNat=34:=by
       simp at aY;omega
      have hx:E9 s a b=(⟨3,sub s (a+1) e,0,0⟩,(e+1:Int),0):=by
       have hq:a3D (s.drop (a+1))=some (e - (a+1)):=by
        rw [hr,a28 (hc h10'.1),n_1 om_,n_1 h10'.2];simp
       unfold E9;rw [n_0 bw,n_0 bS,n_1 fG,hq];have e1:a+1+(e - (a+1))=e:=by omega
       refine Prod.ext ?_ (Prod.ext ?_ rfl)
       ·simp only [e1]
       ·show ((a:Int)+1+((e - (a+1):Nat):Int)+1)=(e:Int)+1;omega
      refine qY l9 ?_;refine qY (K8 (a:=(a+1)) (h:=e) rfl tt rfl t_7 a4b a4b a4k a4k) ?_;refine qY d3r ?_;refine qY l9 ?_;exact c9b
   ·have fG:¬ o0 b.toNat=7:=by
     intro hk;unfold o0 at hk
     repeat' split at hk
     all_goals first|omega|(simp at h8;omega)
    obtain ⟨c1,ca⟩:∃ c:UInt8,a+1 < s.length->s[a+1]? = some c:=by
     by_cases aP:a+1 < s.length
     ·exact ⟨s[a+1],fun _=>by simp [aP]⟩
     ·exact ⟨0,fun h=>absurd h aP⟩
    refine qY b9e ?_;refine qG D6 ?_;refine qG e0Q ?_;refine a7I ?_;refine qG b39 ?_;refine qY M7 ?_;refine a2Q ?_;refine qG e0Q ?_;refine qG (fun hg=>N5 rfl hg hg rfl rfl t_7 a7h (by rw [show ((a:Int)+1).toNat=a+1 by omega];exact ca (sm_ hg))) ?_;refine a3G ?_;refine qC ?_ ?_<;>intro cw
    ·have h11':b=61/\a+1 < s.length/\c1=61:=by
      simp at cw;exact ⟨(c9y (n:=61) om_).1 om_,om_,(c9y (n:=61) om_).1 om_⟩
     have bW:s[a]? = some 61:=by rw [hb,h11'.1]
     have cr:s[a+1]? = some 61:=by rw [ca h11'.2.1,h11'.2.2]
     have hx:E9 s a b=(⟨4,[61,61],0,0⟩,(a+2:Int),0):=by
      have hk8:o0 b.toNat=8:=by rw [h11'.1];rfl
      unfold E9;rw [n_0 bw,n_0 bS,n_0 fG,n_1 hk8,n_1 (c3W.2 ⟨bW,cr⟩),d4I bW cr]
     refine qY (B3 #[(0,1),(1,1),(2,1),(3,1)] rfl ⟨rfl,rfl,tt,tt⟩ a8q a2R rfl ⟨_,rfl⟩ (fun w=>by kernel_rfl) rfl rfl) ?_;refine qY l9 ?_;exact c9b
    ·have ci:¬ preB [61,61] (s.drop a)=true:=fun hp=>by
      obtain ⟨p1,p2⟩:=c3W.1 hp;have aP:=(n_3.1 p2).1;rw [hb] at p1;rw [ca aP] at p2;injection p1 with p1
      injection p2 with p2
      subst p1 p2;simp at cw;omega
     refine c7E a4o rfl rfl rfl rfl rfl rfl rfl rfl ⟨rfl,rfl,rfl,rfl,rfl,rfl,rfl,rfl,rfl,rfl,rfl,tt⟩ X7 a1w a4d b2z rfl rfl rfl rfl rfl rfl rfl ?_;refine qo (qY a81 ?_);refine j7 hCC (fun i:Nat=>[(0,(sv s)),(1,iv a),(4,.ptr 0 0),(156,(.list (a4o.map bcv) true none)),(157,iv a4o.length),(158,iv i)]) (fun _=>[.box (Tok.cells ⟨0,[],0,0⟩)]) (fun i=>i<=a4o.length/\∀ x∈a4o.take i,x≠b) (fun i=>a4o.length - i) 0 ⟨n_4 _,fun x hx=>by simp at hx⟩ tu_ (ah:=[]) rfl z6 uz_ ?_;intro i ⟨hi,hni⟩;have hSL:a4o.length=11:=rfl;refine qk (qC ?_ ?_)<;> intro da
     ·have hli:i < a4o.length:=sm_ da;obtain ⟨y,hy,eN⟩:=a5e hli;refine qY (p9 rfl tt tt rfl rfl X7 a1w om_ (i8 hy) rfl) ?_;refine qY b9e ?_;refine qC ?_ ?_<;>intro dr
      ·have hby:b=y:=by
        have:(b.toNat:Int)=(y.toNat:Int):=sp_ dr;exact b66.1 om_
       have hx:E9 s a b=(⟨4,sub s a (a+1),0,0⟩,(a+1:Int),0):=by
        unfold E9;rw [n_0 bw,n_0 bS,n_0 fG,n_1 ((b6V b).2 (hby ▸ eN)),n_0 ci]
       refine qY l9 ?_;refine qY (K8 (a:=a) (h:=(a+1)) rfl tt rfl t_7 a4b a4b a4k a4k) ?_;refine qY d3r ?_;refine qY l9 ?_;exact c9b
      ·have hby:¬ b=y:=fun e=>by
        rw [e] at dr;simp at dr
       refine qY l9 ?_;exact ⟨(i+1),_,⟨om_,om_,fun x hx=>by
        rw [a2m,hy] at hx
        rcases L8.1 hx with hx | hx
        ·exact hni x hx
        ·simp at hx;subst hx;exact fun e=>hby e.symm⟩,tu_,rfl⟩
     ·have eO:i=a4o.length:=sm_ da;have hx:E9 s a b=(⟨0,[],0,0⟩,0,9):=by
       have hk8:¬ o0 b.toNat=8:=fun hk=>by
        have hm:=(b6V b).1 hk;rw [eO,U5 (n_7 _)] at hni;exact hni b hm rfl
       unfold E9;rw [n_0 bw,n_0 bS,n_0 fG,n_0 hk8]
      refine j4 ?_;exact d3p
theorem c9G (s:Str) (hs:s.length<=1000000000) (a:Nat) (b:UInt8) (hb:s[a]? = some b) (ha:a < s.length) (σ:List b9):b8 CC 228 [(sv s),iv a] σ fun r τ=>r = .ret (.tup [.agg (b2k s a b).cells,(iv ((E9 s a b).2.1)),(iv ((E9 s a b).2.2))])/\τ=σ :=
 (H5 (res:=fun _:Unit=>.ret (.tup [.agg (b2k s a b).cells,(iv ((E9 s a b).2.1)),(iv ((E9 s a b).2.2))])) (P:=fun _=>True) hCC (fun c h=>by simp at h;rcases h with rfl | rfl<;>exact .val _) (c6g s hs a b hb ha) (fun _ _=>D4 (cs:=[_,_,_]) ⟨r6 (cs:=[_,_,_,_]) ⟨.val _,.val _,.val _,.val _,tt⟩,.val _,.val _,tt⟩) σ).mono fun r τ ⟨_,h1,h2,_⟩=>⟨h1,h2⟩
theorem d2M {s:Str} {b:UInt8} (h:(E9 s a b).2.2=0):b2k s a b={ (E9 s a b).1 with at_:=(a:Nat)}:=by rw [b2k,n_1 h]
theorem c0v (s:Str) (hs:s.length<=1000000000):b8 CC 180 [(sv s)] [] fun r τ=>∃ x:c6d,a1q 0 τ r (.ret (c5f x))/\d4B s x:=by
 refine qO Tryz.func180 ?_;refine qY Q2 ?_;refine qC ?_ ?_<;>intro h1
 ·have aj:16384 < s.length:=sm_ h1;have hS:a2V s=none:=by rw [d1a,n_1 aj]
  refine c6 ?_;exact ⟨_,r9 (rs:=[.tmp 2,.tmp 3,.tmp 4]) (cs:=[_,_,_]) rfl c56 (n_5 rfl),⟨([],false,0,2),by exact .ret (.tups ⟨.old (W8 _ [] false),.old (.val _),.old (.val _),tt⟩),.inr ⟨hS,rfl,rfl,de_⟩⟩⟩
 ·refine qD (c4 rfl Tryz.call227 o6 (c2c s om_ 0 (n_4 _) _) rfl ?_);intro n ⟨_,hn,hnr,hnb⟩;have aj:¬ 16384 < s.length:=sm_ h1;have hS:a2V s=a6e s n:=by rw [d1a,n_0 aj,hnr]
  refine A6 hCC 0 rfl (α:=List Tok × Nat) (fun x=>[(0,(sv s)),(2,(.list (x.1.map Tok.cv) (gnn x.1.length) (C2 x.1.length 0))),(3,iv x.2)]) (fun x=>[o8 x.1.length]) (fun x=>x.2<=s.length/\x.1.length<=x.2/\(∀ b,s[x.2]? = some b->o0 b.toNat≠5/\o0 b.toNat≠6)/\a2V s=(a6e s x.2).map (x.1++·)) (fun x=>s.length - x.2) ⟨([],n),[9],⟨hn,n_4 _,hnb,by rw [hS];simp⟩,⟨rfl,rfl⟩,ut_,uq_⟩ ?_;intro ⟨bo,p⟩ ⟨hp,fQ,hpb,hr⟩;dsimp only at hp fQ hpb hr ⊢;refine a6S ?_;refine qC ?_ ?_<;>intro h2
  ·have ab:p < s.length:=sm_ h2;obtain ⟨b,hb⟩:∃ b,s[p]? = some b:=⟨s[p]'ab,si_⟩;obtain ⟨hb5,hb6⟩:=hpb b hb;rw [d0i hb hb5 hb6] at hr;refine qY (c5 rfl Tryz.call228 j1 (c9G s om_ p b hb ab _) rfl) ?_;refine z_1 ?_;refine qC ?_ ?_<;>intro h3
   ·have he:(E9 s p b).2.2≠0:=sp_ h3;rw [n_1 he] at hr;refine c6 ?_;exact ⟨_,r9 (rs:=[.tmp 2,.tmp 3,.tmp 4]) (cs:=[_,_,_]) rfl c56 (n_5 rfl),⟨([],false,(p:Int),(E9 s p b).2.2),by exact .ret (.tups ⟨.old (W8 _ [] false),.old (.val _),.old (.val _),tt⟩),.inr ⟨hr,rfl,rfl,he⟩⟩⟩
   ·have he:(E9 s p b).2.2=0:=sp_ h3;have fz:¬ (E9 s p b).2.2≠0:=fun h=>h he;rw [n_0 fz] at hr;obtain ⟨q,hq,hpq,gZ⟩:=a5X hb fz;have hta:=d2M he;refine qY (A8 [Tok.cv (b2k s p b)] rfl ⟨tt,tt⟩ b5N a3C a2R rfl rfl rfl rfl rfl rfl rfl rfl rfl) ?_;refine qD (A7 rfl tt tt rfl si_ q_2 b5N a3C c2s a2R rfl (.inr rfl) q_7 d2X C1 ((bo++[b2k s p b]).map Tok.cv) (bo++[b2k s p b]).length si_ si_ ?_);refine qD (c4 rfl Tryz.call227 j1 (by have h:=c2c s om_ q gZ;rw [<- hq] at h;exact h _) rfl ?_);intro m ⟨hqm,hm,hmr,hmb⟩;exact ⟨(bo++[b2k s p b],m),[2],⟨do_,hm,by dsimp only;rw [n_6,b9T];omega,hmb,by
     dsimp only;rw [hr,hq,a2c,hmr,hta,Option.map_map]
     congr 1
     funext t
     simp⟩,⟨rfl,rfl⟩,ut_,uq_⟩
  ·have aE:p=s.length:=sm_ h2;rw [c7J aE] at hr;refine j4 ?_;refine qY Q2 ?_;refine qY c0Z ?_;refine qY (A8 [Tok.cv ⟨5,[],0,(s.length:Int)⟩] rfl ⟨tt,tt⟩ b5N a3C a2R rfl rfl rfl rfl rfl rfl rfl rfl rfl) ?_;refine qD (A7 rfl tt tt rfl si_ q_2 b5N a3C c2s a2R rfl (.inr rfl) q_7 d2X C1 ((bo++[(⟨5,[],0,(s.length:Int)⟩:Tok)]).map Tok.cv) (bo++[(⟨5,[],0,(s.length:Int)⟩:Tok)]).length si_ si_ ?_);refine c6 ?_;exact ⟨_,r9 (rs:=[.tmp 2,.tmp 3,.tmp 4]) (cs:=[_,_,_]) rfl c56 (n_5 rfl),⟨((bo++[(⟨5,[],0,(s.length:Int)⟩:Tok)]),gnn (bo++[(⟨5,[],0,(s.length:Int)⟩:Tok)]).length,0,0),by exact .ret (.tups ⟨.tok (fun r hr c hc=>(C4 (f:=Tok.cv) (fun _=>O4.all ⟨.val _,.val _,.val _,.val _,tt⟩) _) r hr c hc),.old (.val _),.old (.val _),tt⟩),.inl ⟨by rw [hr,aE];rfl,by rw [n_6];rfl,rfl,rfl⟩⟩⟩
theorem c6q (s:Str) (hs:s.length<=1000000000) (σ:List b9):b8 CC 180 [(sv s)] σ fun r τ=>∃ x:c6d,r = .ret (c5f x)/\τ=σ/\d4B s x :=
 H5 (res:=fun x=>.ret (c5f x)) hCC (fun a h=>by simp at h;subst h;exact .val _) (c0v s hs) (fun _ _=>D4 (cs:=[_,_,_]) ⟨a3q _ _,.val _,.val _,tt⟩) σ
theorem d0P (e:Int):o9 e ([]:List Ex).length = .dead:=by
 unfold o9
 split<;>rfl
theorem c4r {e:Int} {k p:Nat}:C7 L ak (.list (([]:List Ex).map Ex.cv) (gnn ([]:List Ex).length) (tkE e ([]:List Ex).length k)) (.list (([]:List Ex).map Ex.cv) (gnn ([]:List Ex).length) (tkE e ([]:List Ex).length p)):=by
 have h:∀ k,tkE e ([]:List Ex).length k=none:=fun k=>by
  unfold tkE
  split<;>rfl
 rw [h,h];exact .old a21
theorem c8L {w s5:Str} {m n5:Nat} {l:List Str} {S:Option (List Str × Nat)} (hl:l.length<=8) (hi:isT (tk T m) 1 [105,109,112,111,114,116]=true) (hS:S=a1p (9 - l.length) T w m l) (p1:l.length=8->e1≠0) (p2:l.length≠8->e1=0) (q5:Ok e1 ((K0 T (m+1)).map fun x=>(x.1.t,x.2)) e5 (s5,n5))
 (p3:e5≠0->e6≠0) (p4:e5=0->s5=w\/s5∈l->e6≠0) (p5:e5=0->¬ (s5=w\/s5∈l)->e6=0) (q7:Ok e6 (pIs T n5 4 [59]) e7 n7):(e7=0->l.length < 8/\S=a1p (9 - (l++[s5]).length) T w n7 (l++[s5]))/\(e7≠0->S=none):=by
 obtain ⟨f,hf⟩:∃ f,9 - l.length=f+1:=⟨8 - l.length,om_⟩;have gM:9 - (l++[s5]).length=f:=by simp;omega
 rw [hf,a1p,n_1 hi] at hS;rw [gM];have d7:e5≠0->e7≠0:=fun h=>q7.2 (p3 h);by_cases h8:l.length=8
 ·rw [n_1 h8] at hS;exact ⟨fun h=>absurd h (d7 (q5.2 (p1 h8))),fun _=>hS⟩
 ·rw [n_0 h8] at hS;have eA:=p2 h8;subst eA
  rcases q5.zero with ⟨g5,hn⟩ | ⟨g5,hn⟩
  ·obtain ⟨x,hx,hg⟩:=N6.1 hn;injection hg with eh dV
   rw [hx,n_9,eh,dV] at hS;by_cases hm:s5=w\/s5∈l
   ·rw [n_1 hm] at hS;exact ⟨fun h=>absurd h (q7.2 (p4 g5 hm)),fun _=>hS⟩
   ·rw [n_0 hm] at hS;have g6:=p5 g5 hm;subst g6
    rcases q7.zero with ⟨g7,hi7⟩ | ⟨g7,hi7⟩
    ·rw [hi7,n_9] at hS;exact ⟨fun _=>⟨om_,hS⟩,fun h=>absurd g7 h⟩
    ·rw [hi7] at hS;exact ⟨fun h=>absurd h g7,fun _=>hS⟩
  ·rw [a87.1 hn] at hS;exact ⟨fun h=>absurd h (d7 g5),fun _=>hS⟩
theorem c5F {m:Nat} {ds:List De} {S:Option (List De × Nat)} {a:RD5} (hl:ds.length<=64) (hk:¬ (tk T m).k=5) (hS:S=S7 (65 - ds.length) T m ds) (q:Ok 0 (a0N T ds m) a.e (a.d,a.n)):(a.e=0->ds.length < 64/\S=S7 (65 - (ds++[a.d]).length) T a.n (ds++[a.d]))/\(a.e≠0->S=none):=by
 obtain ⟨f,hf⟩:∃ f,65 - ds.length=f+1:=⟨64 - ds.length,om_⟩;have gM:65 - (ds++[a.d]).length=f:=by simp;omega
 rw [hf,S7,n_0 hk] at hS;rw [gM]
 rcases q.zero with ⟨g,hd⟩ | ⟨g,hd⟩
 ·rw [hd,n_9] at hS;have:=b3t hd;exact ⟨fun _=>⟨om_,hS⟩,fun h=>absurd g h⟩
 ·rw [hd] at hS;exact ⟨fun h=>absurd h g,fun _=>hS⟩
structure RI5 where
 l:List Str
 m:Nat
 at_:Int
 e:Int
variable {l:List Str}
structure RJ5 where
 ds:List De
 m:Nat
 at_:Int
 e:Int
 ps:List Str
 b:List Ex
variable {b:List Ex} {ps:List Str} {m:Nat} {at_:Int}
theorem d2o {m2:Nat} {w:Str} {ds:List De} (q1:Ok 0 (pIs T 0 1 [112,97,99,107,97,103,101]) e1 n1) (q2:Ok e1 ((K0 T n1).map fun x=>(x.1.t,x.2)) e2 (w,n2)) (q3:Ok e2 (pIs T n2 4 [59]) e3 n3) (q4:Ok e3 (a1p 9 T w n3 []) e4 (l,m)) (q5:Ok e4 (S7 65 T m []) e5 (ds,m2)):Ok 0 (a1e T) e5 ⟨w,l,ds⟩:=by
 refine q1.bind (q2.bindM (fun p hp hg=>?_) fun h=>q5.2 (q4.2 (q3.2 h)));obtain ⟨t,m'⟩:=p;injection hg with eh dV
 dsimp only at eh dV ⊢;subst eh dV;exact q3.bind (q4.bind (q5.bind .some))
theorem c4U (s:Str) (hs:s.length<=1000000000):b8 CC 151 [(sv s)] [] fun r τ=>∃ x:c5T,a1q 0 τ r (.ret (c5Y x))/\b4L s x:=by
 refine cO Tryz.func151 ?_;refine b5L ?_;refine J1 [.dead] rfl ?_;refine qs 4 (qD (p8 rfl a3V rfl j6 ?_));refine qD (c4 rfl Tryz.call180 ⟨tt,tt⟩ (c6q s hs _) rfl ?_);rintro ⟨T,nn,at_,e⟩ hP;dsimp only at hP ⊢;refine qC ?_ ?_<;>intro h1
 ·have he:e≠0:=sp_ h1;have hl:a2V s=none:=by
   rcases hP with ⟨_,_,_,g⟩ | ⟨g,_⟩
   ·exact absurd g he
   ·exact g
  refine c4G ?_;exact ⟨_,r9 (rs:=[.cell 2 67,.tmp 3,.tmp 4]) (cs:=[_,_,_]) rfl d8a (n_5 rfl),⟨((⟨[],[],[]⟩:Src),at_,e),d3x,.inr ⟨by rw [Q0,hl];rfl,rfl,he⟩⟩⟩
 ·have he:e=0:=sp_ h1;obtain ⟨hl,rfl,rfl⟩:a2V s=some T/\nn=true/\at_=0:=by
   rcases hP with ⟨g1,g2,g3,_⟩ | ⟨_,_,_,g⟩
   ·exact ⟨g1,g2,g3⟩
   ·exact absurd he g
  subst he;obtain ⟨hc,h0⟩:=b1i hl;have hT:=hc.len;have hW:=hc.w;have af:Q0 s=a1e T:=by rw [Q0,hl];rfl
  refine qY (B3 #[(0,1),(1,1),(2,1),(3,1),(4,1),(5,1),(6,1)] rfl ⟨tt,tt⟩ b8U Tryz.zeroValue228 rfl ⟨_,rfl⟩ (fun w=>by kernel_rfl) rfl rfl) ?_;refine qD (G8 rfl tt j3 j6 ?_);refine J1 [o9 0 ([]:List Ex).length,.box [(sv ([])),.list (([]:List Str).map scv) (gnn ([]:List Str).length) none,.list (([]:List De).map De.cv) (gnn ([]:List De).length) none],rbx T 0 0 0 [] [] 0] rfl ?_;refine N4 (α:=Nat × Int × Int) (fun _=>[(2,.ptr 1 0),(6,.ptr 2 0)]) (fun a=>[o9 a.2.2 ([]:List Ex).length,.box [(sv ([])),.list (([]:List Str).map scv) (gnn ([]:List Str).length) none,.list (([]:List De).map De.cv) (gnn ([]:List De).length) none],rbx T a.1 a.2.1 a.2.2 [] [] 0]) (fun a=>Ok 0 (pIs T 0 1 [112,97,99,107,97,103,101]) a.2.2 a.1/\a.1 < T.length) ?_ ?_
  ·
   refine qk (qD (c4 rfl a91 o6 (Y7 hT h0 hW [112,97,99,107,97,103,101] (q:=2) (s:=0) ⟨rfl,rfl,de_⟩) rfl ?_));rintro ⟨v9,m9⟩ ⟨fg,gv,iz,fi⟩;dsimp only at fg gv iz fi ⊢;refine qN [o9 0 ([]:List Ex).length,.box [(sv ([])),.list (([]:List Str).map scv) (gnn ([]:List Str).length) none,.list (([]:List De).map De.cv) (gnn ([]:List De).length) none],rbx T m9 0 0 [] [] 0] rfl (qC ?_ ?_)<;> intro h2
   ·have hw:v9=false:=sp_ h2;refine qY (c5 rfl a7H ⟨tt,tt⟩ (a0z hT fi (q:=2) (s:=0) ⟨rfl,rfl,de_⟩) rfl) ?_;refine d7g ?_;rintro ⟨x0,y0⟩ bE;dsimp only at bE ⊢;refine qN [o9 y0 ([]:List Ex).length,.box [(sv ([])),.list (([]:List Str).map scv) (gnn ([]:List Str).length) none,.list (([]:List De).map De.cv) (gnn ([]:List De).length) none],rbx T m9 x0 y0 [] [] 0] rfl ?_;exact ⟨(m9,x0,y0),⟨b0h (fg.symm.trans hw) bE,fi⟩,tu_,rfl⟩
   ·have hw:v9=true:=sp_ h2;exact ⟨(m9,0,0),⟨by dsimp only;rw [gv hw];exact b0j (fg.symm.trans hw),fi⟩,tu_,rfl⟩
  ·rintro ⟨n1,a1,e1⟩ E1 ⟨q1,y1⟩;dsimp only at q1 y1 ⊢;refine qk (qD (c4 rfl b6h ⟨tt,tt⟩ (a65 hT y1 hW (q:=2) (s:=0) ⟨rfl,rfl,de_⟩) rfl ?_));rintro ⟨w,n2,a2,e2⟩ ⟨q2,y2⟩;dsimp only at q2 y2 ⊢;refine qN [o9 e2 ([]:List Ex).length,.box [(sv ([])),.list (([]:List Str).map scv) (gnn ([]:List Str).length) none,.list (([]:List De).map De.cv) (gnn ([]:List De).length) none],rbx T n2 a2 e2 [] [] 0] rfl (qD (j2 rfl tt tt rfl j3 t_0 (.inl rfl) rfl rfl (nb rfl) ?_));refine qD (c4 rfl a4w o6 (N9 hT y2 hW [59] (q:=2) (s:=0) ⟨rfl,rfl,de_⟩) rfl ?_);rintro ⟨n3,a3,e3⟩ ⟨q3,y3⟩;dsimp only at q3 y3 ⊢;refine qN [o9 e3 ([]:List Ex).length,.box [(sv w),.list (([]:List Str).map scv) (gnn ([]:List Str).length) none,.list (([]:List De).map De.cv) (gnn ([]:List De).length) none],rbx T n3 a3 e3 [] [] 0] rfl ?_;refine A6 hCC 3 rfl (α:=RI5) (fun _=>[(2,.ptr 1 0),(6,.ptr 2 0)]) (fun a=>[o9 a.e ([]:List Ex).length,.box [(sv w),.list (a.l.map scv) (gnn a.l.length) (C2 a.l.length 3),.list (([]:List De).map De.cv) (gnn ([]:List De).length) none],rbx T a.m a.at_ a.e [] [] 0,o8 a.l.length]) (fun a=>(a.e=0->e3=0/\a1p 9 T w n3 []=a1p (9 - a.l.length) T w a.m a.l/\a.l.length<=8)/\(a.e≠0->e3=0->a1p 9 T w n3 []=none)/\a.m < T.length/\a.l.length<=9) (fun a=>if a.e=0 then 10 - a.l.length else 0) ⟨⟨[],n3,a3,e3⟩,[0,1,2,9],⟨fun h=>⟨h,rfl,n_4 _⟩,fun h h'=>absurd h' h,y3,n_4 _⟩,⟨rfl,rfl⟩,ut_,⟨.inr ⟨_,rfl,.same rfl W4⟩,.inr ⟨_,rfl,.box ⟨.old (.val _),.old a2o,.old (Q7 _ [] _),tt⟩⟩,.inr ⟨_,rfl,.same rfl a9i⟩,.inl rfl,tt⟩⟩ ?_;intro ⟨l,m,a5,e⟩ ⟨hI,hN,hm,hl9⟩;dsimp only at hI hN hm hl9 ⊢;refine qs 1 (qG D6 ?_);refine qG d9z ?_;refine qG c2r ?_;refine a82 ?_;refine qG d9z ?_;refine qG d1W ?_;refine d2U ?_;refine qC ?_ ?_<;>intro h3
   ·have hc3:e=0/\isT (tk T m) 1 [105,109,112,111,114,116]=true:=by simpa [isT,and_assoc] using h3
    obtain ⟨rfl,hi⟩:=hc3;obtain ⟨he3,hS,hl8⟩:=hI rfl;have bX:=hW m hm (a6F hi de_);refine N4 (α:=Int × Int) (fun _=>[(2,.ptr 1 0),(6,.ptr 2 0)]) (fun a=>[o9 a.2 ([]:List Ex).length,.box [(sv w),.list (l.map scv) (gnn l.length) (C2 l.length 3),.list (([]:List De).map De.cv) (gnn ([]:List De).length) none],rbx T m a.1 a.2 [] [] 0,o8 l.length]) (fun a=>(l.length=8->a.2≠0)/\(l.length≠8->a.2=0)) ?_ ?_
    ·
     refine b23 ?_;refine qC ?_ ?_<;>intro h4
     ·have h8:l.length=8:=sm_ h4;refine qY (c5 rfl a7H ⟨tt,tt⟩ (a0z hT hm (q:=2) (s:=0) ⟨rfl,rfl,de_⟩) rfl) ?_;refine d7g ?_;rintro ⟨x0,y0⟩ bE;dsimp only at bE ⊢;refine qN [o9 y0 ([]:List Ex).length,.box [(sv w),.list (l.map scv) (gnn l.length) (C2 l.length 3),.list (([]:List De).map De.cv) (gnn ([]:List De).length) none],rbx T m x0 y0 [] [] 0,o8 l.length] rfl ?_;exact ⟨(x0,y0),⟨fun _=>bE,fun h=>absurd h8 h⟩,tu_,rfl⟩
     ·have h8:¬ l.length=8:=sm_ h4;exact ⟨(a5,0),⟨fun h=>absurd h h8,fun _=>rfl⟩,tu_,rfl⟩
    ·rintro ⟨a6,e6⟩ E2 ⟨p1,p2⟩;dsimp only at p1 p2 ⊢;refine qs 3 ?_;refine z_6 ?_;refine qY (c5 rfl a7H ⟨tt,tt⟩ (a0z hT bX (q:=2) (s:=0) ⟨rfl,rfl,de_⟩) rfl) ?_;refine qY a4h ?_;refine qD (c4 rfl b6h ⟨tt,tt⟩ (a65 hT bX hW (q:=2) (s:=0) ⟨rfl,rfl,de_⟩) rfl ?_);rintro ⟨s5,n5,a7,e7⟩ ⟨q5,y5⟩;dsimp only at q5 y5 ⊢;have eK:=V8 l s5;refine qN [o9 e7 ([]:List Ex).length,.box [(sv w),.list (l.map scv) (gnn l.length) (C2 l.length 3),.list (([]:List De).map De.cv) (gnn ([]:List De).length) none],rbx T n5 a7 e7 [] [] 0,o8 l.length] rfl ?_;refine N4 (α:=Int × Int) (fun _=>[(2,.ptr 1 0),(6,.ptr 2 0),(8,(sv s5))]) (fun a=>[o9 a.2 ([]:List Ex).length,.box [(sv w),.list (l.map scv) (gnn l.length) (C2 l.length 3),.list (([]:List De).map De.cv) (gnn ([]:List De).length) none],rbx T n5 a.1 a.2 [] [] 0,o8 l.length]) (fun a=>(e7≠0->a.2≠0)/\(e7=0->s5=w\/s5∈l->a.2≠0)/\(e7=0->¬ (s5=w\/s5∈l)->a.2=0)) ?_ ?_
     ·
      refine qk (qG D6 ?_);refine qG d0C ?_;refine qG a2C ?_;refine qG b0D ?_;refine qG a9j ?_;refine qH rfl rfl (fun hk hg=>j5 rfl tt rfl a6A rfl a2j de_) ?_;refine qH rfl rfl (fun hk hg=>o5 rfl ⟨hk,hg⟩ rfl b9f rfl rfl) ?_;refine qH rfl rfl (fun hk hg=>a2S rfl tt j3) ?_;refine qH rfl rfl (fun hk hg=>c5 rfl b7D ⟨⟨hk,hg⟩,⟨hk,hg⟩,tt⟩ (a71 l (gnn l.length) s5 om_ _) rfl) ?_;refine qG (fun hg=>b3i rfl hg rfl (fun hp=>⟨hg,hp⟩) a0B) ?_;refine qY M7 ?_;refine qC ?_ ?_<;>intro h5
      ·have hc5:e7=0/\(s5=w\/s5∈l):=sp_ h5;refine qD (c4 rfl b0W a2u (a0u _ _ de_ (q:=2) (s:=0) ⟨rfl,rfl,de_⟩) rfl ?_);rintro ⟨x0,y0⟩ bE;dsimp only at bE ⊢;refine qN [o9 y0 ([]:List Ex).length,.box [(sv w),.list (l.map scv) (gnn l.length) (C2 l.length 3),.list (([]:List De).map De.cv) (gnn ([]:List De).length) none],rbx T n5 x0 y0 [] [] 0,o8 l.length] rfl ?_;exact ⟨(x0,y0),⟨fun _=>bE,fun _ _=>bE,fun _ h=>absurd hc5.2 h⟩,tu_,rfl⟩
      ·have hc5:¬ (e7=0/\(s5=w\/s5∈l)):=fun h=>by rcases h with ⟨h,h' | h'⟩<;>simp [h,h'] at h5
       exact ⟨(a7,e7),⟨id,fun h h'=>absurd ⟨h,h'⟩ hc5,fun h _=>h⟩,tu_,rfl⟩
     ·rintro ⟨a8,e8⟩ E3 ⟨p3,p4,p5⟩;dsimp only at p3 p4 p5 ⊢;refine qk (qD (c4 rfl a4w o6 (N9 hT y5 hW [59] (q:=2) (s:=0) ⟨rfl,rfl,de_⟩) rfl ?_));rintro ⟨n9,a9,e9⟩ ⟨q9,y9⟩;dsimp only at q9 y9 ⊢;have aW:=c8L hl8 hi hS p1 p2 q5 p3 p4 p5 q9;refine qN [o9 e9 ([]:List Ex).length,.box [(sv w),.list (l.map scv) (gnn l.length) (C2 l.length 3),.list (([]:List De).map De.cv) (gnn ([]:List De).length) none],rbx T n9 a9 e9 [] [] 0,o8 l.length] rfl (qY (A8 [scv s5] rfl ⟨tt,tt⟩ t_2 t_0 t_3 rfl rfl rfl rfl rfl rfl rfl rfl rfl) ?_);refine qD (A7 rfl tt tt rfl si_ q_2 t_2 t_0 a32 t_3 rfl (.inr rfl) q_7 a3Z C1 ((l++[s5]).map scv) (l++[s5]).length si_ si_ ?_);refine qD (j2 rfl tt tt rfl j3 a2j (.inl rfl) rfl rfl (nb rfl) ?_);exact ⟨⟨l++[s5],n9,a9,e9⟩,[0,1,2,4],⟨by
       dsimp only;rw [n_1 rfl]
       split<;>omega,fun h=>⟨he3,(aW.1 h).2,by have:=(aW.1 h).1;dsimp only;omega⟩,fun h _=>aW.2 h,y9,do_⟩,⟨rfl,rfl⟩,ut_,⟨.inr ⟨_,rfl,.same rfl W4⟩,.inr ⟨_,rfl,.box ⟨.old (.val _),C7.grow (f:=scv) (fun _=>⟨.val _,tt⟩) rfl,.old (Q7 _ [] _),tt⟩⟩,.inr ⟨_,rfl,.same rfl a9i⟩,.inr ⟨_,rfl,.same rfl B8⟩,tt⟩⟩
   ·have hc3:e=0->isT (tk T m) 1 [105,109,112,111,114,116]=false:=fun h0=>by
     by_cases hi:isT (tk T m) 1 [105,109,112,111,114,116]=true
     ·have:=Q6 hi;simp [h0,this.1,this.2] at h3
     ·simpa using hi
    have q4:Ok e3 (a1p 9 T w n3 []) e (l,m):=Ok.of (fun h=>by
     obtain ⟨g3,hS,hl8⟩:=hI h;obtain ⟨f,hf⟩:∃ f,9 - l.length=f+1:=⟨8 - l.length,om_⟩;exact ⟨g3,hS.trans (by rw [hf,a1p,n_0 (by rw [hc3 h];decide)])⟩) hN
    refine j4 ?_;refine A6 hCC 4 rfl (α:=RJ5) (fun _=>[(2,.ptr 1 0),(6,.ptr 2 0)]) (fun a=>[.dead,.box [(sv w),.list (l.map scv) (gnn l.length) none,.list (a.ds.map De.cv) (gnn a.ds.length) (C2 a.ds.length 4)],rbx T a.m a.at_ a.e a.ps a.b 5,.dead,o8 a.ds.length,o9 a.e a.b.length]) (fun a=>(a.e=0->e=0/\S7 65 T m []=S7 (65 - a.ds.length) T a.m a.ds/\a.ds.length<=64)/\(a.e≠0->e=0->S7 65 T m []=none)/\a.m < T.length/\a.ds.length<=65) (fun a=>if a.e=0 then T.length - a.m+1 else 0) ⟨⟨[],m,a5,e,[],[]⟩,[0,1,2,3,9,10],⟨fun h=>⟨h,rfl,n_4 _⟩,fun h h'=>absurd h' h,hm,n_4 _⟩,⟨rfl,rfl⟩,ut_,⟨.inl rfl,.inr ⟨_,rfl,.box ⟨.old (.val _),K4 (f:=scv) (fun _=>⟨.val _,tt⟩) _,.old (Q7 _ [] _),tt⟩⟩,.inr ⟨_,rfl,.box ⟨.old a1c,.old (.val _),.old (.val _),.old (.val _),.old Y2,c4r,.old a21,tt⟩⟩,.inl rfl,.inl rfl,.inl (d0P _),tt⟩⟩ ?_;intro ⟨ds,m2,a6,e5,ps,b⟩ ⟨hI2,gx,bT,cE⟩;dsimp only at hI2 gx bT cE ⊢;refine qk (qG D6 ?_);refine qG (fun hg=>c5 rfl a7H ⟨hg,tt⟩ (a0z hT bT (q:=2) (s:=5) ⟨rfl,rfl,de_⟩) rfl) ?_;refine qG c2r ?_;refine a3G ?_;refine qC ?_ ?_<;>intro h6
    ·have hc6:e5=0/\¬ (tk T m2).k=5:=sp_ h6;obtain ⟨rfl,hk⟩:=hc6;obtain ⟨he,hS,hd64⟩:=hI2 rfl;refine cF [] [0,1,2,3] (tl:=[(4,[0,1]),(5,[0,1]),(6,[]),(7,[]),(8,[])]) ?_;refine chf rfl c2F ?_;refine chf rfl c8l ?_;refine chf rfl V4 ?_;refine chf rfl (c8 rfl b80) ?_;refine D9 ?_;refine B1 rfl rfl rfl (c4 rfl Tryz.call187 j1 (d2k hc w l ds hd64 bT (q:=2) (s:=5) ⟨rfl,rfl,de_⟩) rfl ?_);rintro ⟨d,m1,a7,e7,ps7,b7⟩ ⟨k7,y7,w7,z7⟩;dsimp only at k7 y7 w7 z7 ⊢;have eK:=V8 ds d;have bU:(if e7=0 then T.length - m1+1 else 0) < (if (0:Int)=0 then T.length - m2+1 else 0):=by
      rw [n_1 rfl]
      split
      ·rename_i h0;have:=z7 h0;omega
      ·omega
     have aW:=c5F (a:=⟨d,m1,a7,e7,ps7,b7⟩) hd64 hk hS k7;refine a1u [.dead,.box [(sv w),.list (l.map scv) (gnn l.length) none,.list (ds.map De.cv) (gnn ds.length) (C2 ds.length 4)],rbx T m1 a7 e7 ps7 b7 6,.dead,o8 ds.length,.dead,o9 e7 b7.length] rfl ?_;refine d6V ?_;refine B1 rfl rfl rfl (A7 rfl tt tt rfl si_ q_2 b0S a4O Tryz.typeInfo119 a9K rfl (.inr rfl) q_7 (by have hb:Tryz.t119.bytes=72:=rfl;rw [hb];first|omega|(simp;done)|(simp;omega)) C1 ((ds++[d]).map De.cv) (ds++[d]).length si_ si_ ?_);refine ⟨tt,?_⟩;refine d5R ?_;refine a8A ?_;exact ⟨⟨ds++[d],m1,a7,e7,ps7,b7⟩,[0,1,2,3,7,6],⟨bU,fun h=>⟨he,(aW.1 h).2,by have:=(aW.1 h).1;dsimp only;omega⟩,fun h _=>aW.2 h,y7,do_⟩,⟨rfl,rfl⟩,ut_,⟨.inl rfl,.inr ⟨_,rfl,.box ⟨.old (.val _),.old Y2,C7.grow (f:=De.cv) (fun _=>⟨.val _,.val _,A5 _ _ _,P6 _ _ _,tt⟩) rfl,tt⟩⟩,.inr ⟨_,rfl,.box ⟨.old a1c,.old (.val _),.old (.val _),.old (.val _),.old Y2,Z8 rfl,.old a21,tt⟩⟩,.inl rfl,.inr ⟨_,rfl,.same rfl B8⟩,.inr ⟨_,rfl,.same rfl W4⟩,tt⟩⟩
    ·have q5:Ok e (S7 65 T m []) e5 (ds,m2):=Ok.of (fun h=>by
      obtain ⟨g3,hS,hd64⟩:=hI2 h;have hk:(tk T m2).k=5:=by
       by_cases hk:(tk T m2).k=5
       ·exact hk
       ·simp [h,hk] at h6
      obtain ⟨f,hf⟩:∃ f,65 - ds.length=f+1:=⟨64 - ds.length,om_⟩;exact ⟨g3,hS.trans (by rw [hf,S7,n_1 hk])⟩) gx
     have hfile:=(d2o q1 q2 q3 q4 q5).zero;refine j4 ?_;refine qC ?_ ?_<;>intro h7
     ·have he5:e5≠0:=sp_ h7;refine cF [] [0,1,2,3,4,5,6,7,8] (tl:=[(9,[1,2,3,4,5,6,7,8]),(10,[5,6,7,8]),(11,[])]) ?_;refine chf rfl d7F ?_;refine b2L ?_;refine chf rfl (c8 rfl c8s) ?_;refine chf rfl b1o ?_;refine b2L ?_;refine chf rfl (c8 rfl b9P) ?_;refine chf rfl c6A ?_;refine d3v ?_;refine ⟨⟨F1,a18,(by exact c8 rfl c8s),b1f,F1,a18,(by exact c8 rfl b9P),b3C,tt⟩,?_⟩;refine F2 rfl rfl b7U ⟨⟨F1,a18,(by exact c8 rfl b9P),b3C,tt⟩,?_⟩;refine a89 ?_;exact ⟨_,r9 (rs:=[.cell 2 67,.tmp 3,.tmp 4]) (cs:=[_,_,_]) rfl d8a (n_5 rfl),⟨((⟨[],[],[]⟩:Src),a6,e5),d3x,.inr ⟨by rw [af];exact (hfile.resolve_left fun h=>he5 h.1).2,rfl,he5⟩⟩⟩
     ·have he5:e5=0:=sp_ h7;refine c4G ?_;exact ⟨_,r9 (rs:=[.cell 2 67,.tmp 3,.tmp 4]) (cs:=[_,_,_]) rfl d8a (n_5 rfl),⟨(⟨w,l,ds⟩,0,0),(by exact .ret (.tups ⟨.aggs ⟨.old (.val _),.old Y2,.tok (C4 (f:=De.cv) (fun a=>(De.pure a).all) _),tt⟩,.old (.val _),.old (.val _),tt⟩)),.inl ⟨by rw [af];exact (hfile.resolve_right fun h=>h.1 he5).2,rfl,rfl⟩⟩⟩
theorem d1o (s:Str) (hs:s.length<=1000000000) (σ:List b9):b8 CC 151 [(sv s)] σ fun r τ=>∃ x:c5T,r = .ret (c5Y x)/\τ=σ/\b4L s x :=
 H5 (res:=fun x=>.ret (c5Y x)) hCC (fun c hc=>by simp at hc;subst hc;exact .val _) (c4U s hs) (fun x _=>D4 ⟨r6 x.1.pure,.val _,.val _,tt⟩) σ
def a93 (p b:Str):Option Src:=if a4l p=true then Q0 b else none
def a62 (l:List Fi) (p:Str):Option Src:=(if B4 l=0 then C0 l p else none).bind (a93 p)
def D3 (l:List Fi):List (Str × Src):=l.filterMap fun f=>(a93 f.p f.b).map fun s=>(f.p,s)
theorem c0u {l:List Fi} {y:Fi} (h:l[i]? = some y):D3 (l.drop i)=(match a93 y.p y.b with | none=>[] | some s=>[(y.p,s)])++D3 (l.drop (i+1)):=by
 obtain ⟨ab,rfl⟩:=n_3.1 h;rw [R2 ab];unfold D3;rw [List.filterMap_cons];cases a93 l[i].p l[i].b<;>rfl
abbrev a0S (P:List Str) (S:List Src):List CV:=[.list (P.map scv) (gnn P.length) none,.list (S.map Src.cv) (gnn S.length) none]
def b28 (l:List Fi):List Str:=if B4 l=0 then (D3 l).map Prod.fst else []
def b29 (l:List Fi):List Src:=if B4 l=0 then (D3 l).map Prod.snd else []
theorem a5M (l:List Src) (nn:Bool):r4 (.list (l.map Src.cv) nn none):=O6 (f:=Src.cv) (fun a=>(Src.pure a)) l nn
theorem d0x (n:Nat) (l:List Src) (nn:Bool):Old n (.list (l.map Src.cv) nn none):=(a5M l nn).old
theorem b7v (l:List Fi) (nn:Bool) (p:Str) (hl:l.length<=1000000) (hp:p.length<=1000000000) (hb:∀ q b,C0 l q=some b->b.length<=1000000000) (σ:List b9):b8 CC 99 [.agg (r8 l nn),(sv p)] σ fun r Y=>r = .ret (.tup [.agg ((a62 l p).getD Src.z).cells,.val (.bool (a62 l p).isSome)])/\Y=σ:=by
 refine b8.anyw hCC (by repeat' (first|exact .val _|exact J2 _ _|exact Src.pure _|exact tt | refine r6 ?_ | refine D4 ?_ | refine ⟨?_,?_⟩)) (by repeat' (first|exact .val _|exact J2 _ _|exact Src.pure _|exact tt | refine r6 ?_ | refine D4 ?_ | refine ⟨?_,?_⟩)) ?_ σ;refine c7 (qO Tryz.func99 ?_);refine qD (G8 rfl tt j3 j6 ?_);refine qD (p8 rfl a3V rfl j6 ?_);refine qY (c5 rfl c7H j1 (a8J l nn p hl _) rfl) ?_;refine qG D6 ?_;refine qG (fun hg=>c5 rfl Tryz.call24 ⟨hg,tt⟩ (b2V p hp _) rfl) ?_;refine b73 ?_;refine qC ?_ ?_<;>intro h1
 ·have h0:a62 l p=none:=by
   unfold a62 a93;cases hz:(if B4 l=0 then C0 l p else none) with
   | none=>rfl
   | some b =>
    rw [hz] at h1;simp at h1;simp [h1]
  refine qY e0I ?_;refine c4G ?_;exact ⟨_,r9 (rs:=[.cell 4 67,.tmp 5]) (cs:=[_,_]) rfl d3O (n_5 rfl),_,_,rfl,rfl,(by rw [h0];exact .tups ⟨.old (r6 (Src.pure Src.z)).old,.old (.val _),tt⟩)⟩
 ·obtain ⟨b,hz,hs⟩:∃ b,(if B4 l=0 then C0 l p else none)=some b/\a4l p=true:=by
   cases hz:(if B4 l=0 then C0 l p else none) with
   | none=>rw [hz] at h1;simp at h1
   | some b=>rw [hz] at h1;simp at h1;exact ⟨b,rfl,h1⟩
  have h0:a62 l p=Q0 b:=by rw [a62,hz,n_9,a93,n_1 hs]
  refine qD (c4 rfl Tryz.call151 ⟨tt,tt⟩ (d1o _ (by
   cases hd:C0 l p with
   | none=>split<;>simp
   | some b=>have:=hb p b hd;split<;>simp<;>omega) _) rfl ?_)
  rintro ⟨x,at_,e⟩ hP;dsimp only at hP ⊢;rw [hz] at hP;have hx:((a62 l p).getD Src.z)=x/\(a62 l p).isSome=decide (e=0):=by
   rw [h0]
   rcases hP with ⟨g1,_,g3⟩ | ⟨g1,g2,g3⟩
   ·replace g1:Q0 b=some x:=g1;rw [g1];exact ⟨rfl,(a2a g3).symm⟩
   ·replace g1:Q0 b=none:=g1;rw [g1];exact ⟨g2.symm,(a2f g3).symm⟩
  refine c4N ?_;refine c4G ?_;exact ⟨_,r9 (rs:=[.cell 4 67,.tmp 5]) (cs:=[_,_]) rfl d3O (n_5 rfl),_,_,rfl,rfl,(by rw [hx.1,hx.2];exact .tups ⟨.old (r6 (Src.pure x)).old,.old (.val _),tt⟩)⟩
theorem c9Q {l:List Fi} (h:B4 l=0):l.length<=64:=by
 unfold B4 at h;split at h
 ·cases h
 ·omega
theorem c78 (l:List Fi) (nn:Bool) (hl:l.length<=1000000) (hp:∀ f∈l,f.p.length<=1000000000) (hbl:∀ q b,C0 l q=some b->b.length<=1000000000) (hd:B4 l=0->∀ f∈l,C0 l f.p=some f.b):b8 CC 55 [.agg (r8 l nn)] [] fun r τ=>∃ _:Unit,a1q 0 τ r (.ret (.agg (a0S (b28 l) (b29 l))))/\True:=by
 refine qO Tryz.func55 ?_;refine qD (G8 rfl tt j3 j6 ?_);refine qD (p8 rfl Tryz.zeroValue105 rfl j6 ?_);refine qD (p8 rfl Tryz.zeroValue105 rfl j6 ?_);refine qY (c5 rfl c73 ⟨tt,tt⟩ (a6T l nn _) rfl) ?_;refine qC ?_ ?_<;>intro h1
 ·have h0:¬ B4 l=0:=sp_ h1;refine d6z ?_;exact ⟨_,C6 rfl ⟨tt,_,_,_,rfl,rfl,.inr ⟨_,c71,c17,nb rfl,rfl⟩⟩,⟨(),by rw [b28,b29,n_0 h0,n_0 h0];exact .ret (.old (r6 (cs:=[.list [] false none,.list [] false none]) ⟨F5 [] false,F5 [] false,tt⟩).old),tt⟩⟩
 ·have h0:B4 l=0:=sp_ h1;have iy:=c9Q h0;refine qY a0I ?_;refine A6 hCC 3 rfl (α:=Nat × List Str × List Src) (fun a=>[(1,.ptr 0 0),(2,.ptr 1 0),(3,.ptr 2 0),(13,(.list (l.map Fi.cv) nn none)),(14,iv l.length),(15,iv a.1)]) (fun a=>[.box (r8 l nn),.box [.list [] false none,.list [] false none],.box [.list (a.2.1.map scv) (gnn a.2.1.length) (C2 a.2.1.length 3),.list (a.2.2.map Src.cv) (gnn a.2.2.length) (C2 a.2.2.length 4)],o8 a.2.1.length,o8 a.2.2.length]) (fun a=>a.1<=l.length/\a.2.1.length<=a.1/\a.2.2.length<=a.1/\(D3 l).map Prod.fst=a.2.1++(D3 (l.drop a.1)).map Prod.fst/\(D3 l).map Prod.snd=a.2.2++(D3 (l.drop a.1)).map Prod.snd) (fun a=>l.length - a.1) ⟨(0,[],[]),[0,1,2,9,10],⟨n_4 _,n_7 _,n_7 _,rfl,rfl⟩,⟨rfl,rfl⟩,ut_,⟨.inr ⟨_,rfl,.box ⟨.old a3y,tt⟩⟩,.inr ⟨_,rfl,.box ⟨.old a2o,.old a2o,tt⟩⟩,.inr ⟨_,rfl,.box ⟨.old a2o,.old a2o,tt⟩⟩,.inl rfl,.inl rfl,tt⟩⟩ ?_;intro ⟨i,P,Q⟩ ⟨hi,aX,hql,hr,hq⟩;dsimp only at hi aX hql hr hq ⊢;refine qk (qC ?_ ?_)<;> intro h2
  ·have ab:(i:Int) < l.length:=sp_ h2;obtain ⟨y,hb⟩:=gx_ l i;have hyd:=hd h0 y (n_2 hb);have hsy:a62 l y.p=a93 y.p y.b:=by rw [a62,n_1 h0,hyd];rfl
   rw [c0u hb] at hr hq;refine b8L ?_;refine qY (c5 rfl Tryz.call99 j1 (b7v l nn y.p hl (hp y (n_2 hb)) hbl _) rfl) ?_;refine c4N ?_;refine qC ?_ ?_<;>intro h3
   ·obtain ⟨s,hs⟩:∃ s,a93 y.p y.b=some s:=b6z.1 (by rw [<- hsy];exact h3);have hsd:(a62 l y.p).getD Src.z=s:=by rw [hsy,hs];rfl
    rw [hs] at hr hq;replace hr:(D3 l).map Prod.fst=P++(y.p::(D3 (l.drop (i+1))).map Prod.fst):=hr;replace hq:(D3 l).map Prod.snd=Q++(s::(D3 (l.drop (i+1))).map Prod.snd):=hq;rw [<- hsd] at hq;refine cF [11] [0,1,2,3,4,6,7,8,9] (tl:=[(5,[5,6,7,8]),(11,[5,6,7,8]),(10,[]),(12,[]),(13,[]),(14,[])]) ?_;refine chf rfl (c8 rfl b2m) ?_;refine chf rfl d1l ?_;refine b3x ?_;refine chf rfl e0J ?_;refine chf rfl d0j ?_;refine chf rfl (c8 rfl c2k) ?_;refine chf rfl (c8 rfl b80) ?_;refine chf rfl (c8 rfl d9F) ?_;refine D9 ?_;refine B1 rfl rfl rfl (A7 rfl tt tt rfl si_ q_2 t_2 t_0 a32 t_3 rfl (.inr rfl) q_7 a3Z C1 ((P++[y.p]).map scv) (P++[y.p]).length si_ si_ ?_);refine ⟨⟨(by exact c8 rfl (j5 rfl tt rfl c3o rfl c4i de_)),(by exact c8 rfl c2k),(by exact c8 rfl b80),(by exact c8 rfl d9F),tt⟩,?_⟩;refine b0G rfl rfl (fun _=>c8 rfl b2m) ?_;refine B1 rfl rfl rfl (A7 rfl tt tt rfl si_ q_2 b79 a3w Tryz.typeInfo67 a3V rfl (.inr rfl) q_7 (by have hb:Tryz.t67.bytes=64:=rfl;rw [hb];first|omega|(simp;done)|(simp;omega)) C1 ((Q++[(a62 l y.p).getD Src.z]).map Src.cv) (Q++[(a62 l y.p).getD Src.z]).length si_ si_ ?_);refine ⟨tt,?_⟩;refine B1 rfl rfl rfl (j2 rfl tt tt rfl j3 a2j (.inl rfl) rfl rfl (nb rfl) ?_);refine ⟨tt,?_⟩;refine F2 rfl rfl d0j ⟨tt,?_⟩;refine B1 rfl rfl rfl (j2 rfl tt tt rfl j3 c4i (.inl rfl) rfl rfl (nb rfl) ?_);refine a8A ?_;refine qY l9 ?_;exact ⟨(i+1,P++[y.p],Q++[(a62 l y.p).getD Src.z]),[0,1,2,7,8],⟨do_,do_,by dsimp only;simp;omega,by dsimp only;simp;omega,by dsimp only;rw [hr,D7];rfl,by dsimp only;rw [hq,D7];rfl⟩,⟨rfl,rfl⟩,ut_,⟨.inr ⟨_,rfl,.box ⟨.old a3y,tt⟩⟩,.inr ⟨_,rfl,.box ⟨.old a2o,.old a2o,tt⟩⟩,.inr ⟨_,rfl,.box ⟨C7.grow (f:=scv) (fun _=>⟨.val _,tt⟩) rfl,C7.grow (f:=Src.cv) (fun _=>⟨.val _,A5 _ _ _,Q7 _ _ _,tt⟩) rfl,tt⟩⟩,.inr ⟨_,rfl,.same rfl B8⟩,.inr ⟨_,rfl,.same rfl B8⟩,tt⟩⟩
   ·have hs:a93 y.p y.b=none:=by rw [<- hsy];simpa using h3
    rw [hs] at hr hq;rw [a2e] at hr hq;refine qY l9 ?_;exact ⟨(i+1,P,Q),[0,1,2,3,4],⟨do_,do_,do_,do_,hr,hq⟩,⟨rfl,rfl⟩,ut_,⟨.inr ⟨_,rfl,.box ⟨.old a3y,tt⟩⟩,.inr ⟨_,rfl,.box ⟨.old a2o,.old a2o,tt⟩⟩,.inr ⟨_,rfl,.box ⟨C7.grow (f:=scv) (fun _=>⟨.val _,tt⟩) rfl,C7.grow (f:=Src.cv) (fun _=>⟨.val _,A5 _ _ _,Q7 _ _ _,tt⟩) rfl,tt⟩⟩,.inr ⟨_,rfl,.same rfl B8⟩,.inr ⟨_,rfl,.same rfl B8⟩,tt⟩⟩
  ·have aE:l.length<=i:=sm_ h2;rw [V2 aE] at hr hq;replace hr:(D3 l).map Prod.fst=P:=by rw [hr];exact a1k _
   replace hq:(D3 l).map Prod.snd=Q:=by rw [hq];exact a1k _
   refine j4 ?_;refine d6z ?_;exact ⟨_,C6 rfl ⟨tt,_,_,_,rfl,rfl,.inr ⟨_,c71,c17,nb rfl,rfl⟩⟩,⟨(),by rw [b28,b29,n_1 h0,n_1 h0,hr,hq];exact .ret (.aggs ⟨.tok (C4 (f:=scv) (fun _=>O4.all ⟨.val _,tt⟩) _),.tok (C4 (f:=Src.cv) (fun a=>(Src.pure a).all) _),tt⟩),tt⟩⟩
theorem d4Q (l:List Fi) (nn:Bool) (hl:l.length<=1000000) (hp:∀ f∈l,f.p.length<=1000000000) (hbl:∀ q b,C0 l q=some b->b.length<=1000000000) (hd:B4 l=0->∀ f∈l,C0 l f.p=some f.b) (σ:List b9):b8 CC 55 [.agg (r8 l nn)] σ fun r τ=>r = .ret (.agg (a0S (b28 l) (b29 l)))/\τ=σ :=
 (H5 (α:=Unit) (res:=fun _=>.ret (.agg (a0S (b28 l) (b29 l)))) hCC (fun c h=>by simp at h;subst h;exact r6 ⟨J2 _ _,tt⟩) (c78 l nn hl hp hbl hd) (fun _ _=>r6 ⟨F5 _ _,a5M _ _,tt⟩) σ).mono fun _ _ ⟨_,h1,h2,_⟩=>⟨h1,h2⟩
inductive Tr where
 | n (k u o:Int) (nm:Str) (ch:List Tr)
variable {n:Nat}
mutual
def Tr.size:Tr->Nat
 | .n _ _ _ _ ch=>z8 ch+1
def z8:List Tr->Nat
 | []=>0
 | t::l=>t.size+z8 l
end
def o4:List Tr->Nat->List Int
 | [],_=>[]
 | t::l,s=>((s+t.size - 1:Nat):Int)::o4 l (s+t.size)
mutual
def Tr.flat:Tr->Nat->List Ex
 | .n k u o nm ch,s=>J9 ch s++[⟨k,u,o,nm,o4 ch s⟩]
def J9:List Tr->Nat->List Ex
 | [],_=>[]
 | t::l,s=>t.flat s++J9 l (s+t.size)
end
structure V5 (np:Nat) (k u o:Int) (nm:Str) (c:Nat):Prop where
 kind:1<=k/\k<=10
 num:k≠1->k≠2->k≠10->u=0
 op:k≠4->o=0
 name:k=1\/k=2\/k=4\/k=5\/k=10->nm=[]
 cnt:c=if k=4 then 2 else if k=5 then 3 else if k=6 then 1 else if k=3 then c else 0
 k1:k=1->-9007199254740992<=u/\u<=9007199254740992
 k2:k=2->0<=u/\u < np
 k3:k=3->C3 nm=true/\R6 nm=false
 k4:k=4->1<=o/\o<=7
 k678:k=6\/k=7\/k=8->H3 nm=true
 k9:k=9->C3 nm=true
 k10:k=10->0<=u/\u < 64
mutual
def Tr.wf (np:Nat):Nat->Tr->Prop
 | d,.n k u o nm ch=>d<=32/\V5 np k u o nm ch.length/\wfL np (if k=4 then d else d+1) ch
def wfL (np:Nat):Nat->List Tr->Prop
 | _,[]=>True
 | d,t::l=>t.wf np d/\wfL np d l
end
theorem Tr.size_pos (t:Tr):1<=t.size:=by cases t;rw [Tr.size];omega
mutual
theorem Tr.flat_len:∀ (t:Tr) (s:Nat),(t.flat s).length=t.size
 | .n k u o nm ch,s=>by rw [Tr.flat,Tr.size,n_6,R0 ch s];rfl
theorem R0:∀ (l:List Tr) (s:Nat),(J9 l s).length=z8 l
 | [],_=>rfl
 | t::l,s=>by rw [J9,z8,n_6,Tr.flat_len t s,R0 l _]
end
theorem b01:∀ (l:List Tr) (t:Tr) (s:Nat),J9 (l++[t]) s=J9 l s++t.flat (s+z8 l)
 | [],t,s=>by simp [J9,z8]
 | x::l,t,s=>by rw [a9N,J9,J9,b01 l t,z8,D7,a8T]
theorem a9v:∀ (l:List Tr) (t:Tr) (s:Nat),o4 (l++[t]) s=o4 l s++[((s+z8 l+t.size - 1:Nat):Int)]
 | [],t,s=>by simp [o4,z8]
 | x::l,t,s=>by rw [a9N,o4,o4,a9v l t,z8,a9N,a8T s]
theorem b8k {np d:Nat}:∀ {l:List Tr} {t:Tr},wfL np d l->t.wf np d->wfL np d (l++[t])
 | [],t,_,h=>by simp only [a2e,wfL];exact ⟨h,tt⟩
 | x::l,t,h,h2=>by
  rw [wfL] at h;rw [a9N,wfL];exact ⟨h.1,b8k h.2 h2⟩
mutual
theorem Tr.wf_mono {np:Nat}:∀ (t:Tr) {d e:Nat},e<=d->t.wf np d->t.wf np e
 | .n k u o nm ch,d,e,he,h=>by
  rw [Tr.wf] at h ⊢;refine ⟨om_,h.2.1,b6F ch (d:=if k=4 then d else d+1) ?_ h.2.2⟩
  split<;>omega
theorem b6F {np:Nat}:∀ (l:List Tr) {d e:Nat},e<=d->wfL np d l->wfL np e l
 | [],_,_,_,_=>by rw [wfL];trivial
 | t::l,d,e,he,h=>by
  rw [wfL] at h ⊢;exact ⟨Tr.wf_mono t he h.1,b6F l he h.2⟩
end
def Got (np d:Nat) (b:List Ex) (x:PX):Prop:=∃ t:Tr,x.2.2=b++t.flat b.length/\x.1+1=x.2.2.length/\t.wf np d
theorem a4I {ch:List Tr} {k u o:Int} {args:List Int} {b2:List Ex} (h1:b1=b++J9 ch b.length) (h2:args=o4 ch b.length) (h3:X3 b1 ⟨k,u,o,nm,args⟩=some (i,b2)) (hd:d<=32) (hn:V5 np k u o nm ch.length) (hw:wfL np (if k=4 then d else d+1) ch) (m:Nat):Got np d b (i,m,b2):=by
 unfold X3 at h3;split at h3
 ·cases h3
 ·injection h3 with h3
  injection h3 with h3 h4
  subst h1 h2 h3 h4;refine ⟨.n k u o nm ch,by rw [Tr.flat,D7],by simp;omega,?_⟩;rw [Tr.wf];exact ⟨hd,hn,hw⟩
def TG (T:List Tok):Prop:=∀ i,((tk T i).k=1->C3 (tk T i).t=true)/\0<=(tk T i).n/\(tk T i).n<=9007199254740992
theorem d4H {lv:Int} (h:¬ opS t lv=0):1<=opS t lv/\opS t lv<=7:=by
 unfold opS at h ⊢;cases hf:S0.find? (opM t lv) with
 | none=>rw [hf] at h;exact absurd rfl h
 | some y =>
  have h2:=b8M hf;simp only [b6A,a8S];revert h2;revert y;intro y _ hy;have:∀ y∈S0,1<=y.1/\y.1<=7:=by decide
  exact this y hy
theorem a2W {x:Ex} {y:PX} (h:L9 b x m=some y):X3 b x=some (y.1,y.2.2)/\y.2.1=m:=by
 unfold L9 at h;cases hp:X3 b x with
 | none=>rw [hp] at h;cases h
 | some w =>
  rw [hp,n_9] at h;injection h with h
  subst h;exact ⟨rfl,rfl⟩
theorem a19 {k u o:Int} {y:PX} (h:L9 b ⟨k,u,o,nm,[]⟩ m=some y) (hd:d<=32) (hn:V5 np k u o nm 0):Got np d b y:=by
 obtain ⟨h1,h2⟩:=a2W h;have:=a4I (np:=np) (d:=d) (b:=b) (ch:=[]) (args:=[]) (by rw [J9,a1k]) rfl h1 hd hn (by rw [wfL];trivial) y.2.1;exact this
theorem d4A {e:Nat} {x:PX} {k u o:Int} {y:PX} (hx:Got np e b x) (h:L9 x.2.2 ⟨k,u,o,nm,[(x.1:Int)]⟩ m=some y) (hd:d<=32) (hn:V5 np k u o nm 1) (he:e=if k=4 then d else d+1):Got np d b y:=by
 obtain ⟨t,t1,t2,t3⟩:=hx;obtain ⟨h1,h2⟩:=a2W h;have hl:=t.flat_len b.length;rw [t1,n_6,hl] at t2;have:=a4I (np:=np) (d:=d) (b:=b) (ch:=[t]) (args:=[(x.1:Int)]) (by rw [t1,J9,J9,a1k]) (by rw [o4,o4];congr 1;omega) h1 hd hn (by rw [wfL,wfL,<- he];exact ⟨t3,tt⟩) y.2.1;exact this
theorem c9 {β:Type} {f:α->Option β} {y:β} (h:o.bind f=some y):∃ x,o=some x/\f x=some y:=by
 cases o with
 | none=>cases h
 | some x=>exact ⟨x,rfl,h⟩
theorem a7i {x:Tok × Nat} (h:a0L T n=some x):H3 x.1.t=true:=by
 obtain ⟨y,_,h2⟩:=c9 h;split at h2
 ·rename_i hp;injection h2 with h2
  subst h2;exact hp
 ·cases h2
theorem a6L {k:Int} {x:Tok × Nat} (h:G3 T n k=some x):x.1=tk T n/\(tk T n).k=k:=by
 unfold G3 at h;split at h
 ·rename_i hk;injection h with h
  subst h;exact ⟨rfl,hk⟩
 ·cases h
theorem c6r (hF:∀ d n b x,F.ex d n b=some x->Got np d b x) (hT:TG T) {y:PX} (hd:d<=32) (h:X6 T F u d n b=some y):Got np d b y:=by
 unfold X6 at h;obtain ⟨n1,_,h⟩:=c9 h;split at h
 ·obtain ⟨s,h1,h⟩:=c9 h;obtain ⟨n2,_,h⟩:=c9 h;obtain ⟨x,h3,h⟩:=c9 h;obtain ⟨m,_,h⟩:=c9 h;exact d4A (hF _ _ _ _ h3) h hd ⟨de_,fun _ _ _=>rfl,fun _=>rfl,ab_,rfl,ab_,ab_,ab_,ab_,fun _=>a7i h1,ab_,ab_⟩ rfl
 ·split at h
  ·obtain ⟨s,h1,h⟩:=c9 h;obtain ⟨m,_,h⟩:=c9 h;exact a19 h hd ⟨de_,fun _ _ _=>rfl,fun _=>rfl,ab_,rfl,ab_,ab_,ab_,ab_,fun _=>a7i h1,ab_,ab_⟩
  ·split at h
   ·obtain ⟨s,h1,h⟩:=c9 h;obtain ⟨m,_,h⟩:=c9 h;exact a19 h hd ⟨de_,fun _ _ _=>rfl,fun _=>rfl,ab_,rfl,ab_,ab_,ab_,ab_,fun _=>a7i h1,ab_,ab_⟩
   ·split at h
    ·obtain ⟨s,h1,h⟩:=c9 h;split at h
     ·rename_i bL;obtain ⟨m,_,h⟩:=c9 h;exact a19 h hd ⟨de_,fun _ _ _=>rfl,fun _=>rfl,ab_,rfl,ab_,ab_,ab_,ab_,ab_,fun _=>bL,ab_⟩
     ·cases h
    ·obtain ⟨s,h1,h⟩:=c9 h;split at h
     ·cases h
     ·rename_i ab;obtain ⟨m,_,h⟩:=c9 h;have hk:=a6L h1;have hg:=(hT n1).2;rw [<- hk.1] at hg;exact a19 h hd ⟨de_,fun _ _ h=>absurd rfl h,fun _=>rfl,fun _=>rfl,rfl,ab_,ab_,ab_,ab_,ab_,ab_,fun _=>⟨hg.1,om_⟩⟩
theorem c16 {T:List Tok} {ps:List Str} (hT:TG T):∀ f:Nat,
 (∀ d n b x,(A1 T ps f).ex d n b=some x->Got ps.length d b x) /\
 (∀ lv d n b x,d<=32->(A1 T ps f).bin lv d n b=some x->Got ps.length d b x) /\
 (∀ lv d n b x,d<=32->(A1 T ps f).fac d n b=some x->lv=0->Got ps.length d b x) /\
 (∀ lv d n b0 b (tx:Tr) (i:Nat) x,d<=32->b=b0++tx.flat b0.length->i+1=b.length->tx.wf ps.length d->(A1 T ps f).lp lv d i n b=some x->Got ps.length d b0 x) /\
 (∀ d n b0 b (ch:List Tr) bo y,d<=32->b=b0++J9 ch b0.length->bo=o4 ch b0.length->wfL ps.length (d+1) ch->(A1 T ps f).ag d n b bo=some y->∃ ch',y.2.2=b0++J9 ch' b0.length/\y.1=o4 ch' b0.length/\wfL ps.length (d+1) ch')
 | 0=>by
  refine ⟨fun d n b x h=>?_,fun lv d n b x _ h=>?_,fun lv d n b x _ h=>?_,fun lv d n b0 b tx i x _ _ _ _ h=>?_,fun d n b0 b ch bo y _ _ _ _ h=>?_⟩<;>cases h
 | f+1=>by
  obtain ⟨hE,hB,hF,hL,hA⟩:=c16 hT f;refine ⟨fun d n b x h=>?_,fun lv d n b x hd h=>?_,fun lv d n b y hd h _=>?_,fun lv d n b0 b tx i x hd hb hi hw h=>?_,fun d n b0 b ch bo y hd hb ha hw h=>?_⟩
  ·change (G7 T ps (A1 T ps f)).ex d n b=some x at h;simp only [G7] at h;split at h
   ·cases h
   ·rename_i hd;split at h
    ·obtain ⟨x1,h1,h⟩:=c9 h;obtain ⟨n2,_,h⟩:=c9 h;obtain ⟨x2,h2,h⟩:=c9 h;obtain ⟨n3,_,h⟩:=c9 h;obtain ⟨x3,h3,h⟩:=c9 h;obtain ⟨t1,a1,a2,a3⟩:=hE _ _ _ _ h1;obtain ⟨t2,b1,b2,b3⟩:=hE _ _ _ _ h2;obtain ⟨t3,c1,c2,c3⟩:=hE _ _ _ _ h3;have l1:=t1.flat_len b.length;have e1:x1.2.2.length=b.length+t1.size:=by rw [a1,n_6,l1]
     have e2:x2.2.2.length=b.length+t1.size+t2.size:=by rw [b1,n_6,t2.flat_len,e1]
     have e3:x3.2.2.length=b.length+t1.size+t2.size+t3.size:=by rw [c1,n_6,t3.flat_len,e2]
     obtain ⟨g1,g2⟩:=a2W h;have:=a4I (np:=ps.length) (d:=d) (b:=b) (ch:=[t1,t2,t3]) (args:=[(x1.1:Int),(x2.1:Int),(x3.1:Int)]) (by rw [c1,b1,a1];simp only [J9,a1k,D7,n_6,Tr.flat_len,a8T]) (by simp only [o4];congr 1;omega;congr 1;omega;congr 1;omega) g1 om_ ⟨de_,fun _ _ _=>rfl,fun _=>rfl,fun _=>rfl,rfl,ab_,ab_,ab_,ab_,ab_,ab_,ab_⟩ (by simp only [wfL];exact ⟨a3,b3,c3,tt⟩) x.2.1;exact this
    ·exact hB 1 d n b x om_ h
  ·change (G7 T ps (A1 T ps f)).bin lv d n b=some x at h;simp only [G7] at h;split at h
   ·exact hF 0 d n b x hd h rfl
   ·obtain ⟨x1,h1,h⟩:=c9 h;obtain ⟨t,a1,a2,a3⟩:=hB _ _ _ _ _ hd h1;exact hL lv d x1.2.1 b x1.2.2 t x1.1 x hd a1 a2 a3 h
  ·change (G7 T ps (A1 T ps f)).fac d n b=some y at h;simp only [G7] at h;have hg:=hT n;split at h
   ·exact a19 h hd ⟨de_,fun h=>absurd rfl h,fun _=>rfl,fun _=>rfl,rfl,fun _=>⟨om_,hg.2.2⟩,ab_,ab_,ab_,ab_,ab_,ab_⟩
   ·split at h
    ·obtain ⟨s,h1,h⟩:=c9 h;have hk:=a6L h1;have hg:=(hT (n+1)).2;rw [<- hk.1] at hg;exact a19 h hd ⟨de_,fun h=>absurd rfl h,fun _=>rfl,fun _=>rfl,rfl,fun _=>⟨om_,om_⟩,ab_,ab_,ab_,ab_,ab_,ab_⟩
    ·split at h
     ·obtain ⟨x1,h1,h⟩:=c9 h;obtain ⟨m,_,h⟩:=c9 h;injection h with h
      subst h;obtain ⟨t,a1,a2,a3⟩:=hE _ _ _ _ h1;exact ⟨t,a1,a2,t.wf_mono (Nat.le_succ d) a3⟩
     ·split at h
      ·cases h
      ·rename_i bw;split at h
       ·exact c6r hE hT hd h
       ·split at h
        ·cases h
        ·rename_i bg;split at h
         ·obtain ⟨a,h1,h⟩:=c9 h;unfold a2x at h1;obtain ⟨n1,_,h1⟩:=c9 h1;have dz:∃ ch',a.2.2=b++J9 ch' b.length/\a.1=o4 ch' b.length/\wfL ps.length (d+1) ch':=by
           split at h1
           ·injection h1 with h1
            subst h1;exact ⟨[],by simp [J9],rfl,by rw [wfL];trivial⟩
           ·exact hA d n1 b b [] [] a hd (by simp [J9]) rfl (by rw [wfL];trivial) h1
          obtain ⟨ch,c1,c2,c3⟩:=dz;obtain ⟨g1,g2⟩:=a2W h;have bL:C3 (tk T n).t=true:=hg.1 (sp_ bw);have:=a4I (np:=ps.length) (d:=d) (b:=b) (ch:=ch) c1 c2 g1 hd ⟨de_,fun _ _ _=>rfl,fun _=>rfl,ab_,rfl,ab_,ab_,fun _=>⟨bL,sp_ bg⟩,ab_,ab_,ab_,ab_⟩ c3 y.2.1;exact this
         ·split at h
          ·cases h
          ·rename_i hix;refine a19 h hd ⟨de_,fun _ h=>absurd rfl h,fun _=>rfl,fun _=>rfl,rfl,ab_,fun _=>⟨om_,?_⟩,ab_,ab_,ab_,ab_,ab_⟩
           rcases a8z (tk T n).t ps 0 with ⟨_,g⟩ | ⟨_,_,g⟩
           ·omega
           ·simpa using g
  ·change (G7 T ps (A1 T ps f)).lp lv d i n b=some x at h;simp only [G7] at h;split at h
   ·injection h with h
    subst h;exact ⟨tx,hb,hi,hw⟩
   ·rename_i bk;obtain ⟨y,h1,h⟩:=c9 h;obtain ⟨w,h2,h⟩:=c9 h;obtain ⟨ty,a1,a2,a3⟩:=hB _ _ _ _ _ hd h1;have e0:b.length=b0.length+tx.size:=by rw [hb,n_6,tx.flat_len]
    have e1:y.2.2.length=b0.length+tx.size+ty.size:=by rw [a1,n_6,ty.flat_len,e0]
    have hnode:Got ps.length d b0 (w.1,y.2.1,w.2):=a4I (np:=ps.length) (d:=d) (b:=b0) (ch:=[tx,ty]) (args:=[(i:Int),(y.1:Int)]) (by rw [a1,hb];simp only [J9,a1k,D7,n_6,Tr.flat_len]) (by simp only [o4];congr 1;omega;congr 1;omega) h2 hd ⟨de_,fun _ _ _=>rfl,fun h=>absurd rfl h,fun _=>rfl,rfl,ab_,ab_,ab_,fun _=>d4H bk,ab_,ab_,ab_⟩ (by simp only [wfL];exact ⟨hw,a3,tt⟩) y.2.1;split at h
    ·injection h with h
     subst h;exact hnode
    ·obtain ⟨t,c1,c2,c3⟩:=hnode;exact hL lv d y.2.1 b0 w.2 t w.1 x hd c1 c2 c3 h
  ·change (G7 T ps (A1 T ps f)).ag d n b bo=some y at h;simp only [G7] at h;obtain ⟨x1,h1,h⟩:=c9 h;obtain ⟨t,a1,a2,a3⟩:=hE _ _ _ _ h1;have e0:b.length=b0.length+z8 ch:=by rw [hb,n_6,R0]
   have e1:x1.2.2.length=b0.length+z8 ch+t.size:=by rw [a1,n_6,t.flat_len,e0]
   have c1:x1.2.2=b0++J9 (ch++[t]) b0.length:=by rw [a1,hb,b01,D7];simp only [n_6,R0]
   have c2:bo++[(x1.1:Int)]=o4 (ch++[t]) b0.length:=by rw [ha,a9v];congr 2;omega
   have c3:=b8k hw a3;split at h
   ·exact hA d _ b0 _ (ch++[t]) _ y hd c1 c2 c3 h
   ·obtain ⟨m,_,h⟩:=c9 h;injection h with h
    subst h;exact ⟨ch++[t],c1,c2,c3⟩
theorem a02 (s:Str) (hs:s.length<=1000000000000) (σ:List b9):b8 CC 280 [(sv s)] σ fun r Y=>r = .ret (.val (.bool (C3 s && !R6 s)))/\Y=σ:=by
 refine b8.anyw hCC pu_ pu_ (c7 (qO Tryz.func280 ?_)) σ;refine qY (c5 rfl c5j ⟨tt,tt⟩ (a1F s _) rfl) ?_;refine qG D6 ?_;refine qG (fun hg=>c5 rfl c6P ⟨hg,tt⟩ (a2H s _) rfl) ?_;refine b70 ?_;exact d1c
theorem V5.cnt0 {k u o:Int} {c:Nat} (h:V5 np k u o nm c) (h3:k≠3) (h4:k≠4) (h5:k≠5) (h6:k≠6):c=0:=by
 have:=h.cnt;rw [n_0 h4,n_0 h5,n_0 h6,n_0 h3] at this;exact this
theorem b94 (x:Ex) (np:Nat) (h:V5 np x.k x.num x.op x.name x.args.length) (bL:x.name.length<=1000000) (fQ:x.args.length<=1000000) (σ:List b9):b8 CC 303 [.agg x.cells,iv np] σ fun r Y=>r = .ret (.val (.bool true))/\Y=σ:=by
 refine an_ Tryz.func303 ?_;refine b2H ?_;refine cY a2D ?_;refine b2r ?_;refine cW 8 ?_;refine c8e ?_;refine hY a1g ?_;refine b3g ?_;refine hY a0c ?_;refine hY a1b ?_;refine b38 ?_;refine b2r ?_;refine cW 8 ?_;refine b85 ?_;refine hY P0 ?_;refine b3g ?_;refine hY a0c ?_;refine hY a1b ?_;refine b38 ?_;refine a6z ?_;refine cY b74 ?_;refine cY a1n ?_;refine c5S ?_;refine a3p ?_;refine cC ?_ ?_<;>intro h1
 ·have u1:x.k=1:=sp_ h1;have e1:=h.op om_;have e2:=h.name (.inl u1);have e3:=h.cnt0 om_ om_ om_ om_;have e4:=h.k1 u1;refine b1S ?_;refine a9n ?_;refine a9n ?_;refine c6i ?_;refine a1O ?_;exact ⟨_,rE1,_,_,rfl,rfl,j8 (by simp [e1,e2,e3];omega)⟩
 ·have u1:¬ x.k=1:=sp_ h1;refine a3p ?_;refine cC ?_ ?_<;>intro h2
  ·have u2:x.k=2:=sp_ h2;have e1:=h.op om_;have e2:=h.name (.inr (.inl u2));have e3:=h.cnt0 om_ om_ om_ om_;have e4:=h.k2 u2;refine b1S ?_;refine a9n ?_;refine a9n ?_;refine cG D6 ?_;refine cG b39 ?_;refine cY M7 ?_;refine a1O ?_;exact ⟨_,rE1,_,_,rfl,rfl,j8 (by simp [e1,e2,e3];omega)⟩
  ·have u2:¬ x.k=2:=sp_ h2;refine a3p ?_;refine cC ?_ ?_<;>intro h3
   ·have u3:x.k=3:=sp_ h3;have e1:=h.op om_;have e2:=h.num om_ om_ om_;have e4:=h.k3 u3;refine d0O ?_;refine cY B2 ?_;refine cG c3M ?_;refine cG a2C ?_;refine cG (fun hg=>c5 rfl c5V ⟨hg,tt⟩ (a02 x.name om_ _) rfl) ?_;refine cY M7 ?_;refine a1O ?_;exact ⟨_,rE1,_,_,rfl,rfl,j8 (by simp [e1,e2,e4])⟩
   ·have u3:¬ x.k=3:=sp_ h3;refine a3p ?_;refine cC ?_ ?_<;>intro h4
    ·have u4:x.k=4:=sp_ h4;have e1:=h.num om_ om_ om_;have e2:=h.name (.inr (.inr (.inl u4)));have e3:x.args.length=2:=by rw [h.cnt,n_1 u4]
     have e4:=h.k4 u4;refine b1S ?_;refine a9n ?_;refine a9n ?_;refine c6i ?_;refine a1O ?_;exact ⟨_,rE1,_,_,rfl,rfl,j8 (by simp [e1,e2,e3];omega)⟩
    ·have u4:¬ x.k=4:=sp_ h4;refine a3p ?_;refine cC ?_ ?_<;>intro h5
     ·have u5:x.k=5:=sp_ h5;have e1:=h.op om_;have e5:=h.num om_ om_ om_;have e2:=h.name (.inr (.inr (.inr (.inl u5))));have e3:x.args.length=3:=by rw [h.cnt,n_0 om_,n_1 u5]
      refine d0O ?_;refine d6T ?_;refine c4I ?_;refine c6i ?_;refine a1O ?_;exact ⟨_,rE1,_,_,rfl,rfl,j8 (by simp [e1,e2,e3,e5])⟩
     ·have u5:¬ x.k=5:=sp_ h5;refine a3p ?_;refine cC ?_ ?_<;>intro h6
      ·have u6:x.k=6:=sp_ h6;have e1:=h.op om_;have e2:=h.num om_ om_ om_;have e3:x.args.length=1:=by rw [h.cnt,n_0 om_,n_0 om_,n_1 u6]
       have e4:=h.k678 (.inl u6);refine b1S ?_;refine c2h ?_;refine cG c3M ?_;refine d6Z ?_;refine cY M7 ?_;exact c8F
      ·have u6:¬ x.k=6:=sp_ h6;refine N8 hCC (α:=Bool) (fun b=>[(2,.ptr 0 0),(5,iv x.args.length),(6,(.val (.bool (x.num == 0)))),(7,(.val (.bool (decide (x.name=[]))))),(8,(.val (.bool (x.op == 0)))),(22,iv x.k),(123,(.val (.bool b)))]) (fun _=>[.box x.cells]) (fun b=>b=(x.k == 7 || x.k == 8)) z6 uz_ ?_ ?_
       ·
        refine a3p ?_;refine cC ?_ ?_<;>intro h7
        ·refine C9 ?_;exact ⟨(x.k == 7),_,(by simp_all),tu_,rfl⟩
        ·refine G5 ?_;refine d0h ?_;exact ⟨(x.k == 8),_,(by simp_all),tu_,rfl⟩
       ·intro b hb;refine cC ?_ ?_<;>intro h8
        ·have u8:x.k=7\/x.k=8:=by subst hb;simpa using h8
         have e1:=h.op om_;have e2:=h.num om_ om_ om_;have e3:=h.cnt0 om_ om_ om_ om_;have e4:=h.k678 (.inr u8);refine b1S ?_;refine c2h ?_;refine cG c3M ?_;refine d6Z ?_;refine cY M7 ?_;exact c8F
        ·have u8:¬ (x.k=7\/x.k=8):=by subst hb;simpa using h8
         refine a3p ?_;refine cC ?_ ?_<;>intro h9
         ·have u9:x.k=9:=sp_ h9;have e1:=h.op om_;have e2:=h.num om_ om_ om_;have e3:=h.cnt0 om_ om_ om_ om_;have e4:=h.k9 u9;refine b1S ?_;refine c2h ?_;refine cG c3M ?_;refine cG a2C ?_;refine cG (fun hg=>c5 rfl c5j ⟨hg,tt⟩ (a1F x.name _) rfl) ?_;refine cY M7 ?_;exact c8F
         ·have u9:¬ x.k=9:=sp_ h9;refine a3p ?_;refine cC ?_ ?_<;>intro aY
          ·have u10:x.k=10:=sp_ aY;have e1:=h.op om_;have e2:=h.name (.inr (.inr (.inr (.inr u10))));have e3:=h.cnt0 om_ om_ om_ om_;have e4:=h.k10 u10;refine b1S ?_;refine a9n ?_;refine a9n ?_;refine c6i ?_;refine a1O ?_;exact ⟨_,rE1,_,_,rfl,rfl,j8 (by simp [e1,e2,e3];omega)⟩
          ·have u10:¬ x.k=10:=sp_ aY;have:=h.kind;exfalso;omega
mutual
def Tr.sts:Tr->Nat->List Nat
 | .n _ _ _ _ ch,s=>b2K ch s++[s]
def b2K:List Tr->Nat->List Nat
 | [],_=>[]
 | t::l,s=>t.sts s++b2K l (s+t.size)
end
mutual
theorem Tr.sts_len:∀ (t:Tr) (s:Nat),(t.sts s).length=t.size
 | .n k u o nm ch,s=>by rw [Tr.sts,Tr.size,n_6,a3x ch s];rfl
theorem a3x:∀ (l:List Tr) (s:Nat),(b2K l s).length=z8 l
 | [],_=>rfl
 | t::l,s=>by rw [b2K,z8,n_6,Tr.sts_len t s,a3x l _]
end
theorem T0:∀ (l:List Tr) (s:Nat),(o4 l s).length=l.length
 | [],_=>rfl
 | t::l,s=>by rw [o4,C5,C5,T0 l]
theorem Tr.sts_last (t:Tr) (s:Nat):(t.sts s)[t.size - 1]? = some s:=by
 cases t with
 | n k u o nm ch =>
  rw [Tr.sts,Tr.size,c1K,a1f (by rw [a3x];exact n_7 _),a3x];simp
def ChS (S:List Nat):List Tr->Nat->Prop
 | [],_=>True
 | c::l,s=>S[s+c.size - 1]? = some s/\ChS S l (s+c.size)
structure d8u (E:List Ex) (S:List Nat) (np j:Nat) (x:Ex) (z:Nat) (ch:List Tr):Prop where
 e:E[j]? = some x
 s:S[j]? = some z
 args:x.args=o4 ch z
 size:z+z8 ch=j
 chs:ChS S ch z
 ok:V5 np x.k x.num x.op x.name x.args.length
variable {e:Int}
theorem c2L:∀ (l:List Tr) (s:Nat) (S0 S1:List Nat),S0.length=s->ChS (S0++b2K l s++S1) l s
 | [],_,_,_,_=>trivial
 | t::l,s,S0,S1,h=>by
  have hp:=t.size_pos;refine ⟨?_,?_⟩
  ·rw [b2K,D7,D7,a1f om_,h,show s+t.size - 1 - s=t.size - 1 by omega,R3 (by rw [t.sts_len];omega)];exact t.sts_last s
  ·have:=c2L l (s+t.size) (S0++t.sts s) S1 (by rw [n_6,t.sts_len,h]);rw [b2K,<- D7 S0];exact this
mutual
theorem c9o {np:Nat}:∀ (t:Tr) {d:Nat} (s:Nat) (E0 E1:List Ex) (S0 S1:List Nat),E0.length=s->S0.length=s->t.wf np d->∀ j,s<=j->j < s+t.size->∃ x z ch,d8u (E0++t.flat s++E1) (S0++t.sts s++S1) np j x z ch
 | .n k u o nm ch,d,s,E0,E1,S0,S1,hE,hS,hw,j,h1,h2=>by
  rw [Tr.wf] at hw;rw [Tr.size] at h2;rw [Tr.flat,Tr.sts];by_cases hj:j < s+z8 ch
  ·have:=c20 ch s E0 (⟨k,u,o,nm,o4 ch s⟩::E1) S0 (s::S1) hE hS hw.2.2 j h1 hj;simpa [D7] using this
  ·have hj:j=s+z8 ch:=by omega
   refine ⟨⟨k,u,o,nm,o4 ch s⟩,s,ch,?_,?_,rfl,om_,?_,by rw [T0];exact hw.2.1⟩
   ·rw [<- D7,D7,a1f (by rw [n_6,R0];omega),n_6,R0,hE,hj,a85];rfl
   ·rw [<- D7,D7,a1f (by rw [n_6,a3x];omega),n_6,a3x,hS,hj,a85];rfl
   ·have:=c2L ch s S0 (s::S1) hS;simpa [D7] using this
theorem c20 {np:Nat}:∀ (l:List Tr) {d:Nat} (s:Nat) (E0 E1:List Ex) (S0 S1:List Nat),E0.length=s->S0.length=s->wfL np d l->∀ j,s<=j->j < s+z8 l->∃ x z ch,d8u (E0++J9 l s++E1) (S0++b2K l s++S1) np j x z ch
 | [],_,s,_,_,_,_,_,_,_,j,h1,h2=>by rw [z8] at h2;omega
 | t::l,d,s,E0,E1,S0,S1,hE,hS,hw,j,h1,h2=>by
  rw [wfL] at hw;rw [z8] at h2;rw [J9,b2K];by_cases hj:j < s+t.size
  ·have:=c9o t s E0 (J9 l (s+t.size)++E1) S0 (b2K l (s+t.size)++S1) hE hS hw.1 j h1 hj;simpa [D7] using this
  ·have:=c20 l (s+t.size) (E0++t.flat s) E1 (S0++t.sts s) S1 (by rw [n_6,t.flat_len,hE]) (by rw [n_6,t.sts_len,hS]) hw.2 j om_ om_;simpa [D7] using this
end
theorem b5x {t:Tr} (hw:t.wf np d) (h:j < t.size):∃ x z ch,d8u (t.flat 0) (t.sts 0) np j x z ch:=by
 have:=c9o t 0 [] [] [] [] rfl rfl hw j (n_4 _) om_;simpa using this
theorem a3T:∀ {l:List Tr} {m:Nat} {c:Tr},l[m]? = some c->z8 (l.take (m+1))=z8 (l.take m)+c.size
 | [],m,c,h=>by simp at h
 | x::l,0,c,h=>by simp at h;subst h;simp [z8]
 | x::l,m+1,c,h=>by
  have:=a3T (l:=l) (m:=m) (c:=c) (sp_ h);rw [a8P,a8P,z8,z8,this];omega
theorem L6:∀ {l:List Tr} {m s:Nat} {c:Tr},l[m]? = some c->(o4 l s)[m]? = some ((s+z8 (l.take m)+c.size - 1:Nat):Int)
 | [],m,s,c,h=>by simp at h
 | x::l,0,s,c,h=>by simp at h;subst h;simp [o4,z8]
 | x::l,m+1,s,c,h=>by
  rw [o4,c1Z,L6 (l:=l) (m:=m) (c:=c) (sp_ h),a8P,z8,a8T s]
theorem c3y {S:List Nat}:∀ {l:List Tr} {m s:Nat} {c:Tr},ChS S l s->l[m]? = some c->S[s+z8 (l.take m)+c.size - 1]? = some (s+z8 (l.take m))
 | [],m,s,c,_,h=>by simp at h
 | x::l,0,s,c,h,hc=>by simp at hc;subst hc;simpa [z8] using h.1
 | x::l,m+1,s,c,h,hc=>by
  have:=c3y (l:=l) (m:=m) (c:=c) h.2 (sp_ hc);rw [a8P,z8,<- a8T s];exact this
def a33 (S:List Nat) (n i:Nat):List Int:=(S.take i).map (fun z:Nat=>(z:Int))++List.replicate (n - i) 0
theorem c6I (hS:S.length=n) (hi:i<=n):(a33 S n i).length=n:=by
 unfold a33;rw [n_6,O3,a5u,List.length_replicate];omega
theorem d2e {z:Nat} (hj:j < i) (hz:S[j]? = some z):((a33 S n i).set i v)[j]? = some (z:Int):=by
 rw [a2i om_];unfold a33;have hl:=(n_3.1 hz).1;rw [R3 c3H,O5,a2d,n_1 hj,hz];rfl
theorem c2P (hS:S.length=n) (hi:i < n):((a33 S n i).set i v)[i]? = some v:=by
 rw [b1v (by rw [c6I hS om_];exact hi)]
theorem c6n {z:Nat} (hS:S.length=n) (hz:S[i]? = some z):(a33 S n i).set i (z:Int)=a33 S n (i+1):=by
 have hi:i < n:=by rw [<- hS];exact (n_3.1 hz).1
 unfold a33;have e:n - i=(n - (i+1))+1:=by omega
 rw [e,List.replicate_succ,b3Y _ _ c3H,O3,a5u,b27 om_,a85,List.set_cons_zero,a2m,hz];simp
theorem c4H {z:Nat} (hj:i < n) (hz:S[i]? = some z):(a33 S n n)[i]? = some (z:Int):=by
 unfold a33;have hl:=(n_3.1 hz).1;rw [R3 c3H,O5,a2d,n_1 hj,hz];rfl
structure DeG (d:De):Prop where
 kind:d.k=1\/d.k=2\/d.k=3
 name:d.k≠3->C3 d.name=true/\R6 d.name=false
 path:d.k=3->H3 d.name=true
 pars:d.k≠1->d.params=[]
 par:∀ s∈d.params,C3 s=true/\R6 s=false
 parl:d.params.length<=8
 nod:d.params.Nodup
 tree:∃ t:Tr,d.body=t.flat 0/\t.wf d.params.length 1
 blen:d.body.length<=256
theorem B7 {s:Str} (h:C3 s=true):s.length<=24:=by
 unfold C3 at h;cases s with
 | nil=>cases h
 | cons b s =>
  simp only [U6,a1v] at h;exact h.1.1
theorem L1 {s:Str} (h:H3 s=true):s.length<=80:=by
 unfold H3 at h;simp only [U6,a1v] at h;exact h.1.1
theorem V5.len {k u o:Int} {c:Nat} (h:V5 np k u o nm c):nm.length<=80:=by
 have hk:=h.kind;by_cases h3:k=3
 ·have:=B7 (h.k3 h3).1;omega
 ·by_cases h9:k=9
  ·have:=B7 (h.k9 h9);omega
  ·by_cases h6:k=6\/k=7\/k=8
   ·exact L1 (h.k678 h6)
   ·rw [h.name om_];simp
theorem a3e:∀ (l:List Tr),l.length<=z8 l
 | []=>n_7 _
 | t::l=>by have:=t.size_pos;have:=a3e l;rw [z8,C5];omega
theorem a06:∀ (l:List Tr) (m:Nat),z8 (l.take m)<=z8 l
 | [],m=>by simp
 | t::l,0=>by simp [z8]
 | t::l,m+1=>by have:=a06 l m;rw [a8P,z8,z8];omega
theorem d0q (hS:S.length=n) (hi:i < n):(a33 S n i)[i]? = some 0:=by
 unfold a33;rw [a1f c3H,O3,a5u,b27 om_,a85,c7N,n_1 om_]
theorem De.old (x:De) (n:Nat):I0 n (.box x.cells):=u0 ⟨.val _,.val _,A5 _ _ _,P6 _ _ _,tt⟩
theorem Ex.old (x:Ex) (n:Nat):I0 n (.box x.cells):=u0 ⟨.val _,.val _,.val _,.val _,T6 _ _ _,tt⟩
theorem b0C (n:Nat) (l:List Int):I0 n (.vec 1 (l.map icv)):=fun r hr c hc=>by
 obtain ⟨a,_,rfl⟩:=F4.1 hr;simp [icv] at hc;subst hc;exact .val _
theorem a7g (l:List Int) (i:Nat) (v:Int):(l.map icv).set i [iv v]=(l.set i v).map icv:=by rw [List.map_set];rfl
theorem b2Y (d:De) (h:DeG d) (σ:List b9):b8 CC 281 [.agg d.cells] σ fun r Y=>r = .ret (.val (.bool true))/\Y=σ:=by
 refine an_ Tryz.func281 ?_;refine b2H ?_;refine b1x ?_;refine N8 hCC (α:=Unit) (fun _=>[(1,.ptr 0 0)]) (fun _=>[.box d.cells]) (fun _=>True) z6 uz_ ?_ ?_
 ·
  refine z_0 ?_;refine b7E ?_;refine c5S ?_;refine F9 ?_;refine a3p ?_;refine cC ?_ ?_<;>intro h1
  ·have u1:d.k=1:=sp_ h1;have bL:=h.name om_;refine C9 ?_;refine cC ?_ ?_<;>intro h2
   ·refine z_0 ?_;refine cY b0I ?_;refine cY Q3 ?_;refine ye rfl c5V ⟨tt,tt⟩ (a02 d.name b84 _) rfl ?_;refine a9C ?_;refine cC ?_ ?_<;>intro h3
    ·exfalso;simp [bL] at h3
    ·exact c6x
   ·exfalso;simp [u1] at h2
  ·have u1:¬ d.k=1:=sp_ h1;refine G5 ?_;refine d0h ?_;refine cC ?_ ?_<;>intro h4
   ·have u4:d.k=2:=sp_ h4;have bL:=h.name om_;refine z_0 ?_;refine cY b0I ?_;refine cY Q3 ?_;refine ye rfl c5V ⟨tt,tt⟩ (a02 d.name b84 _) rfl ?_;refine a9C ?_;refine cC ?_ ?_<;>intro h5
    ·exfalso;simp [bL] at h5
    ·exact c6x
   ·have u4:¬ d.k=2:=sp_ h4;refine a3p ?_;refine cC ?_ ?_<;>intro h6
    ·have u6:d.k=3:=sp_ h6;have bL:=h.path u6;refine z_0 ?_;refine cY b0I ?_;refine cY Q3 ?_;refine ye rfl c6a ⟨tt,tt⟩ (a1C d.name (by have:=L1 bL;omega) _) rfl ?_;refine a9C ?_;refine cC ?_ ?_<;>intro h7
     ·exfalso;simp [bL] at h7
     ·exact c6x
    ·exfalso;have:=h.kind;simp at h6;omega
 ·intro _ _;refine F9 ?_;refine z_0 ?_;refine b7Q ?_;refine a73 ?_;refine j7 hCC (α:=Nat) (fun i=>[(1,.ptr 0 0),(25,(.list (d.params.map scv) (gnn d.params.length) none)),(26,iv d.params.length),(27,iv i)]) (fun _=>[.box d.cells]) (fun i=>i<=d.params.length) (fun i=>d.params.length - i) 0 (n_4 _) tu_ (ah:=[]) rfl z6 uz_ ?_;intro i hi;have aX:=h.parl;refine a7j ?_;refine cC ?_ ?_<;>intro h8
  ·have ab:(i:Int) < d.params.length:=sp_ h8;obtain ⟨y,hb⟩:=gx_ d.params i;have bL:=h.par y (n_2 hb);have bw:d.k=1:=by
    rcases Classical.em (d.k=1) with e | e
    ·exact e
    ·have:=h.pars e;rw [this] at hb;simp at hb
   refine a4X ?_;refine z_0 ?_;refine cY a6o ?_;refine cY a6w ?_;refine z_3 ?_;refine z_0 ?_;refine b7E ?_;refine cY a0c ?_;refine c4I ?_;refine cG (fun hg=>c5 rfl c5V ⟨hg,tt⟩ (a02 y b84 _) rfl) ?_;refine cG a6u ?_;refine cY R7 ?_;refine x9 ?_;refine cC ?_ ?_<;>intro h9
   ·exfalso;simp [bL,bw] at h9
   ·refine C9 ?_;exact c6V
  ·obtain ⟨t,fq,hwf⟩:=h.tree;have hbl:d.body.length=t.size:=by rw [fq,t.flat_len]
   have dQ:(t.sts 0).length=d.body.length:=by rw [t.sts_len,hbl]
   have hb256:=h.blen;have htp:=t.size_pos;refine j4 ?_;refine z_0 ?_;refine b64 ?_;refine cD (c0d rfl tt tt rfl rfl (n:=d.body.length) (c:=d.body.length) rfl rfl t_4 t_1 b95 t_8 rfl (a38 rfl) rfl om_ om_ (by have hb:Tryz.t3.bytes=8:=rfl;rw [hb];omega) ?_);refine z_3 ?_;refine J1 [.box d.cells,.vec 1 ((a33 (t.sts 0) d.body.length 0).map icv)] (by unfold a33;simp [List.map_replicate];exact .inr rfl) ?_;refine F9 ?_;refine z_0 ?_;refine b64 ?_;refine a73 ?_;refine j7 hCC (α:=Nat) (fun i=>[(1,.ptr 0 0),(5,.vec 1 0 d.body.length),(45,(.list (d.body.map Ex.cv) (gnn d.body.length) none)),(46,iv d.body.length),(47,iv i)]) (fun i=>[.box d.cells,.vec 1 ((a33 (t.sts 0) d.body.length i).map icv)]) (fun i=>i<=d.body.length) (fun i=>d.body.length - i) 0 (n_4 _) tu_ (ah:=[]) rfl z6 uz_ ?_;intro i hi;refine a7j ?_;refine cC ?_ ?_<;>intro aY
   ·have ab:(i:Int) < d.body.length:=sp_ aY;obtain ⟨x,z,ch,co⟩:=b5x hwf (j:=i) om_;have fQ:x.args.length=ch.length:=by rw [co.args,T0]
    have bZ:=a3e ch;have aI:=co.size;have hzi:z+z8 (ch.take ch.length)=i:=by rw [a57];exact aI
    refine a4X ?_;refine z_4 ?_;refine cY (p9 rfl tt tt rfl rfl b21 a8O om_ (i8 (by rw [fq];exact co.e)) rfl) ?_;refine cY (W6 rfl tt rfl Tryz.isAgg212 a8O (nb rfl)) ?_;refine cD (p8 rfl b5b rfl j6 ?_);refine cY a1b ?_;refine cD (j2 rfl tt tt rfl j3 a8O j6 rfl rfl (nb rfl) ?_);refine a6z ?_;refine cY d0G ?_;refine b7Q ?_;refine ye rfl Tryz.call303 j1 (b94 x d.params.length co.ok (by have:=co.ok.len;omega) om_ _) rfl ?_;refine a9C ?_;refine cC ?_ ?_<;>intro cw
    ·exfalso;simp at cw
    ·have hcur:=d0q (S:=t.sts 0) (i:=i) dQ om_;refine C9 ?_;refine a7x ?_;refine cY B2 ?_;refine cY a4i ?_;refine cD (P8 (((a33 (t.sts 0) d.body.length i).set i ((z+z8 (ch.take ch.length):Nat):Int)).map icv) rfl tt tt rfl j3 t_1 (.inl rfl) rfl (by simpa using i8 (f:=icv) hcur) rfl (nb rfl) (by rw [hzi];simp only [L7,a2c];exact a7g _ _ _) rfl ?_);refine a7y ?_;refine cY c7F ?_;refine cY b62 ?_;refine cY a1g ?_;refine cY V3 ?_;refine z_3 ?_;refine a12 ?_;refine j7 hCC (α:=Nat) (fun m=>[(1,.ptr 0 0),(5,.vec 1 0 d.body.length),(6,iv i),(7,.ptr 2 0),(8,(iv ((m:Int) - 1))),(45,(.list (d.body.map Ex.cv) (gnn d.body.length) none)),(46,iv d.body.length),(47,iv i)]) (fun m=>[.box d.cells,.vec 1 (((a33 (t.sts 0) d.body.length i).set i ((z+z8 (ch.take m):Nat):Int)).map icv),.box x.cells]) (fun m=>m<=ch.length) (fun m=>m) ch.length (n_7 _) ⟨k8,k8,k8,k8,⟨tt,(n_8 (fun z:Nat=>(iv ((z:Int) - 1))) fQ)⟩,k8,k8,k8,tt⟩ (ah:=[]) rfl z6 uz_ ?_;intro m hm;refine F9 ?_;refine a9e ?_;refine cC ?_ ?_<;>intro da
     ·have hmp:(0:Int)<=(m:Int) - 1:=sp_ da;obtain ⟨m,rfl⟩:∃ m',m=m'+1:=⟨m - 1,om_⟩;obtain ⟨c,hc⟩:=gx_ ch m;have aW:=a3T hc;have hcp:=c.size_pos;have aP:=a06 ch (m+1);refine a4X ?_;refine F9 (F9 ?_);refine cW 19 ?_;refine c8e ?_;refine hY B2 ?_;refine hY e0r ?_;refine b9s ?_;refine hY a4i ?_;refine hY (O8 rfl tt rfl a2l rfl (by simpa using i8 (f:=icv) (c2P dQ om_)) rfl) ?_;refine hY V3 ?_;refine hY b1t ?_;refine hY B2 ?_;refine U3 rfl rfl tt rfl (fun hg=>j5 rfl tt rfl a6N rfl b8E de_) ?_;refine U3 rfl rfl tt rfl (fun hg=>o5 rfl hg rfl b8I rfl rfl) ?_;refine U3 rfl rfl tt rfl D6 ?_;refine U3 rfl rfl tt rfl (fun hg=>p9 rfl hg hg rfl rfl t_4 t_1 a7h (i8 (by rw [show (((m+1:Nat):Int) - 1).toNat=m by omega,co.args];exact L6 hc)) rfl) ?_;refine U3 rfl rfl tt rfl (fun hg=>a0O rfl hg rfl a2l rfl) ?_;refine c8A ?_;refine a6P (x9 ?_);refine cC ?_ ?_<;>intro dr
      ·exfalso;simp at dr;omega
      ·refine C9 ?_;refine b8A ?_;refine cY B2 ?_;refine cY c7F ?_;refine cY b62 ?_;refine cY B2 ?_;refine cY e0r ?_;refine cY a8b ?_;refine cY a4i ?_;refine cY (O8 rfl tt rfl a2l rfl (by simpa using i8 (f:=icv) (d2e (n:=d.body.length) (i:=i) (v:=((z+z8 (ch.take (m+1)):Nat):Int)) om_ (c3y co.chs hc))) rfl) ?_;refine cY a4i ?_;refine cD (P8 (((a33 (t.sts 0) d.body.length i).set i ((z+z8 (ch.take m):Nat):Int)).map icv) rfl tt tt rfl j3 t_1 (.inl rfl) rfl (by simpa using i8 (f:=icv) (c2P dQ om_)) rfl (nb rfl) (by simp only [L7,a2c];refine (a7g _ _ _).trans ?_;rw [List.set_set,Int.natCast_add]) rfl ?_);refine x9 ?_;refine a6R ?_;refine cY V3 ?_;refine z_3 ?_;exact ⟨m,_,⟨om_,om_⟩,⟨k8,k8,k8,k8,⟨tt,(n_8 (fun z:Int=>(iv z)) om_)⟩,k8,k8,k8,tt⟩,rfl⟩
     ·have hm0:m=0:=sm_ da;subst hm0;refine J1 [.box d.cells,.vec 1 ((a33 (t.sts 0) d.body.length (i+1)).map icv),.box x.cells] (by rw [<- c6n dQ co.s];rfl) ?_;refine j4 ?_;exact c6V
   ·have bC:i=d.body.length:=sm_ aY;have hroot:(t.sts 0)[d.body.length - 1]? = some 0:=by rw [hbl];exact t.sts_last 0
    refine j4 ?_;refine z_0 ?_;refine b64 ?_;refine cY a0c ?_;refine c4I ?_;refine cG b7T ?_;refine cG b4c ?_;refine cG b7b ?_;refine cG d2u ?_;refine cG (fun hg=>T8 rfl hg hg rfl rfl t_4 t_1 rfl a7h a7h) ?_;refine cG (fun hg=>O8 rfl hg rfl a2l rfl (by rw [bC,show 0+((d.body.length:Int) - 1).toNat=d.body.length - 1 by omega];exact i8 (f:=icv) (c4H om_ hroot)) rfl) ?_;refine c6i ?_;refine a1O ?_;exact ⟨_,rE1,_,_,rfl,rfl,j8 L4⟩
structure a2b (x:Src):Prop where
 pkg:C3 x.pkg=true/\R6 x.pkg=false
 imp:∀ s∈x.imports,C3 s=true/\R6 s=false
 impl:x.imports.length<=8
 impn:x.imports.Nodup
 impp:x.pkg∉x.imports
 dec:∀ d∈x.decls,DeG d
 decl:x.decls.length<=64
 decn:(x.decls.map fun d=>(d.k,d.name)).Nodup
structure Sn where
 k:Int
 s:Str
deriving DecidableEq
variable {s:Str} {k:Int}
abbrev Sn.cells (x:Sn):List CV:=[iv x.k,sv x.s]
def Sn.cv (x:Sn):List CV:=x.cells
theorem b8m (l:List Sn) (nn:Bool):r4 (.list (l.map Sn.cv) nn none):=O6 (f:=Sn.cv) (fun _=>⟨.val _,.val _,tt⟩) l nn
theorem c3x (n:Nat) (l:List Sn) (nn:Bool):Old n (.list (l.map Sn.cv) nn none):=(b8m l nn).old
theorem d9E (x y:Sn):∀ w,(Op.equal 305 (.agg [.int .i64 x.k,.string (str x.s)].toArray) (.agg [.int .i64 y.k,.string (str y.s)].toArray)).run CC.P w = .ok (decide (x=y)) w:=fun w=>by
 show (Op.equal _ _ _).run Tryz.prog w=_;simp [Op.equal,Op.maxDepth,go_sem,Z3];obtain ⟨a,b⟩:=x;obtain ⟨a',b'⟩:=y;by_cases h1:a=a'<;>by_cases h2:b=b'<;>simp [h1,h2]
theorem a1V {l:List α} (h:l.Nodup) (hy:l[i]? = some y):y∉l.take i:=fun hm=>by
 obtain ⟨j,hj⟩:=M6.1 hm;rw [a2d] at hj;split at hj
 ·rename_i ab;obtain ⟨h1,e1⟩:=n_3.1 hy;obtain ⟨h2,e2⟩:=n_3.1 hj;exact (List.pairwise_iff_getElem.1 h) j i h2 h1 ab (e2.trans e1.symm)
 ·cases hj
def ixG {α:Type} [DecidableEq α]:List α->α->Nat->Int
 | [],_,_=>-1
 | y::l,x,i=>if x=y then i else ixG l x (i+1)
theorem d1X [DecidableEq α] {l:List α} (h:l[i]? = some y) (x:α):ixG (l.drop i) x i=if x=y then (i:Int) else ixG (l.drop (i+1)) x (i+1):=by
 obtain ⟨ab,he⟩:=n_3.1 h;rw [R2 ab,he];rfl
theorem c3l {α:Type} [DecidableEq α] {x:α}:∀ {l:List α} {i:Nat},0<=ixG l x i↔x∈l
 | [],i=>by simp [ixG]
 | y::l,i=>by
  rw [ixG];by_cases h:x=y
  ·subst h;simp
  ·rw [n_0 h,c3l (l:=l) (i:=i+1)];simp [h]
theorem a7c (l:List Str) (nn:Bool) (i:Nat) (x:Str) (hl:l.length<=1000000000) (σ:List b9):b8 CC 160 [.list (((l.map scv).take i).drop 0) nn none,sv x] σ fun r Y=>r = .ret (.val (.bool (decide (x∈l.take i))))/\Y=σ:=by
 have:=a0l (l.take i) nn x a4f σ;rw [a9L,<- a9d];exact this
theorem a9r (l:List Str) (nn:Bool) (hl:l.length<=1000000) (hn:l.Nodup) (σ:List b9):b8 CC 282 [(.list (l.map scv) nn none)] σ fun r Y=>r = .ret (.val (.bool false))/\Y=σ:=by
 refine b8.anyw hCC pu_ pu_ (c7 (qO Tryz.func282 ?_)) σ;refine qY J3 ?_;refine j7 hCC (α:=Nat) (fun i=>[(0,(.list (l.map scv) nn none)),(5,(.list (l.map scv) nn none)),(6,iv l.length),(7,iv i)]) (fun _=>[]) (fun i=>i<=l.length) (fun i=>l.length - i) 0 (n_4 _) tu_ (ah:=[]) rfl z6 uz_ ?_;intro i hi;refine qk (qC ?_ ?_)<;> intro h1
 ·have ab:(i:Int) < l.length:=sp_ h1;obtain ⟨y,hb⟩:=gx_ l i;refine qY a6o ?_;refine qY (a2w (h:=i) rfl tt rfl t_2 t_0 a9l rfl a5B a4g b8C) ?_;refine qY (c5 rfl c9e j1 (a7c l _ i y om_ _) rfl) ?_;refine cC ?_ ?_<;>intro h2
  ·exfalso;exact a1V hn hb (sp_ h2)
  ·exact b6r
 ·exact c8m
theorem c0K (l:List Sn) (nn:Bool) (x:Sn) (hl:l.length<=1000000) (σ:List b9):b8 CC 320 [(.list (l.map Sn.cv) nn none),.agg x.cells] σ fun r Y=>r = .ret (iv (ixG l x 0))/\Y=σ:=by
 refine b8.anyw hCC pu_ pu_ (c7 (qO Tryz.func320 ?_)) σ;refine qD (G8 rfl tt j3 j6 ?_);refine qY (a0f rfl tt rfl c1p a7N rfl) ?_;refine j7 hCC (α:=Nat) (fun i=>[(0,(.list (l.map Sn.cv) nn none)),(3,.ptr 0 0),(7,iv l.length),(8,iv i)]) (fun _=>[.box x.cells]) (fun i=>i<=l.length/\ixG l x 0=ixG (l.drop i) x i) (fun i=>l.length - i) 0 ⟨n_4 _,rfl⟩ tu_ (ah:=[]) rfl z6 uz_ ?_;intro i ⟨hi,hr⟩;refine qk (qC ?_ ?_)<;> intro h1
 ·have ab:(i:Int) < l.length:=sp_ h1;obtain ⟨y,hb⟩:=gx_ l i;rw [d1X hb] at hr;refine cW 6 ?_;refine hY (M3 rfl tt rfl c81 b5W rfl (nb rfl)) ?_;refine b5U ?_;refine hY (p9 rfl tt tt rfl rfl c1p b5W om_ (i8 hb) rfl) ?_;refine hY (W6 rfl tt rfl c81 b5W (nb rfl)) ?_;refine hY (b6H rfl tt tt (xs:=[.int .i64 x.k,.string (str x.s)]) (ys:=[.int .i64 y.k,.string (str y.s)]) rfl rfl Tryz.eqGuardType305 (d9E x y)) ?_;refine X2 ?_;refine qC ?_ ?_<;>intro h2
  ·have u2:x=y:=sp_ h2;rw [n_1 u2] at hr;exact d5G
  ·have u2:¬ x=y:=sp_ h2;rw [n_0 u2] at hr;exact b1Y
 ·have aE:l.length<=i:=sm_ h1;rw [V2 aE] at hr;refine z_9 ?_;exact ⟨_,rE1,_,_,rfl,rfl,D2 c2S⟩
theorem b2s (l:List Sn) (nn:Bool) (x:Sn) (hl:l.length<=1000000) (σ:List b9):b8 CC 304 [(.list (l.map Sn.cv) nn none),.agg x.cells] σ fun r Y=>r = .ret (.val (.bool (decide (x∈l))))/\Y=σ:=by
 refine b8.anyw hCC pu_ pu_ (c7 (qO Tryz.func304 ?_)) σ;refine qD (G8 rfl tt j3 j6 ?_);refine qY (c5 rfl Tryz.call320 j1 (c0K l nn x hl _) rfl) ?_;refine c6 ?_;exact ⟨_,rE1,_,_,rfl,rfl,j8 (b1q.2 c3l)⟩
theorem a8D (l:List Sn) (nn:Bool) (i:Nat) (x:Sn) (hl:l.length<=1000000) (σ:List b9):b8 CC 304 [.list (((l.map Sn.cv).take i).drop 0) nn none,.agg x.cells] σ fun r Y=>r = .ret (.val (.bool (decide (x∈l.take i))))/\Y=σ:=by
 have:=b2s (l.take i) nn x a4f σ;rw [a9L,<- a9d];exact this
theorem c0x (l:List Sn) (nn:Bool) (hl:l.length<=1000000) (hn:l.Nodup) (σ:List b9):b8 CC 283 [(.list (l.map Sn.cv) nn none)] σ fun r Y=>r = .ret (.val (.bool false))/\Y=σ:=by
 refine b8.anyw hCC pu_ pu_ (c7 (qO Tryz.func283 ?_)) σ;refine qY (a0f rfl tt rfl c1p a7N rfl) ?_;refine j7 hCC (α:=Nat) (fun i=>[(0,(.list (l.map Sn.cv) nn none)),(5,(.list (l.map Sn.cv) nn none)),(6,iv l.length),(7,iv i)]) (fun _=>[]) (fun i=>i<=l.length) (fun i=>l.length - i) 0 (n_4 _) tu_ (ah:=[]) rfl z6 uz_ ?_;intro i hi;refine qk (qC ?_ ?_)<;> intro h1
 ·have ab:(i:Int) < l.length:=sp_ h1;obtain ⟨y,hb⟩:=gx_ l i;refine qY (p9 rfl tt tt rfl rfl c1p b5W om_ (i8 hb) rfl) ?_;refine qD (p8 rfl c2x rfl j6 ?_);refine qD (j2 rfl tt tt rfl j3 b5W j6 rfl rfl (nb rfl) ?_);refine cW 5 ?_;refine b5U ?_;refine hY (a2w (h:=i) rfl tt rfl c1p b5W a9l rfl a5B a4g b8C) ?_;refine hY (M3 rfl tt rfl c81 b5W rfl (nb rfl)) ?_;refine hY (c5 rfl Tryz.call304 j1 (a8D l _ i y om_ _) rfl) ?_;refine X2 ?_;refine cC ?_ ?_<;>intro h2
  ·exfalso;exact a1V hn hb (sp_ h2)
  ·exact b6r
 ·exact c8m
theorem b7z (x:Src) (h:a2b x) (σ:List b9):b8 CC 242 [.agg x.cells] σ fun r Y=>r = .ret (.val (.bool true))/\Y=σ:=by
 refine b8.anyw hCC pu_ pu_ (c7 (qO Tryz.func242 ?_)) σ;refine qD (G8 rfl tt j3 j6 ?_);refine qY (c5 rfl c5V ⟨tt,tt⟩ (a02 x.pkg (by have:=B7 h.pkg.1;omega) _) rfl) ?_;refine qC ?_ ?_<;>intro h1
 ·exfalso;simp [h.pkg] at h1
 ·have bn:=h.impl;have eI:=h.decl;refine qY J3 ?_;refine j7 hCC (α:=Nat) (fun i=>[(1,.ptr 0 0),(12,(.list (x.imports.map scv) (gnn x.imports.length) none)),(13,iv x.imports.length),(14,iv i)]) (fun _=>[.box x.cells]) (fun i=>i<=x.imports.length) (fun i=>x.imports.length - i) 0 (n_4 _) tu_ (ah:=[]) rfl z6 uz_ ?_;intro i hi;refine qk (qC ?_ ?_)<;> intro h2
  ·have ab:(i:Int) < x.imports.length:=sp_ h2;obtain ⟨y,hb⟩:=gx_ x.imports i;have bL:=h.imp y (n_2 hb);refine qY a6o ?_;refine qY (c5 rfl c5V ⟨tt,tt⟩ (a02 y b84 _) rfl) ?_;refine qC ?_ ?_<;>intro h3
   ·exfalso;simp [bL] at h3
   ·exact b4K
  ·refine j4 ?_;refine qY a4z ?_;refine j7 hCC (α:=Nat) (fun i=>[(23,(.list (x.decls.map De.cv) (gnn x.decls.length) none)),(24,iv x.decls.length),(25,iv i)]) (fun _=>[.box x.cells]) (fun i=>i<=x.decls.length) (fun i=>x.decls.length - i) 0 (n_4 _) tu_ (ah:=[]) rfl z6 uz_ ?_;intro i hi;refine qk (qC ?_ ?_)<;> intro h4
   ·have ab:(i:Int) < x.decls.length:=sp_ h4;obtain ⟨d,hd⟩:=gx_ x.decls i;have hg:=h.dec d (n_2 hd);refine qY a9u ?_;refine z_7 ?_;refine qY (c5 rfl Tryz.call281 ⟨tt,tt⟩ (b2Y d hg _) rfl) ?_;refine cC ?_ ?_<;>intro h5
    ·exfalso;simp at h5
    ·exact b6r
   ·exact c8m
mutual
def Tr.deps:Nat->Tr->List Nat
 | d,.n k _ _ _ ch=>a6n (if k=4 then d else d+1) ch++[d]
def a6n:Nat->List Tr->List Nat
 | _,[]=>[]
 | d,t::l=>t.deps d++a6n d l
end
mutual
theorem Tr.deps_len:∀ (t:Tr) (d:Nat),(t.deps d).length=t.size
 | .n k u o nm ch,d=>by rw [Tr.deps,Tr.size,n_6,a1K ch];rfl
theorem a1K:∀ (l:List Tr) (d:Nat),(a6n d l).length=z8 l
 | [],_=>rfl
 | t::l,d=>by rw [a6n,z8,n_6,Tr.deps_len t d,a1K l _]
end
theorem Tr.deps_last (t:Tr) (d:Nat):(t.deps d)[t.size - 1]? = some d:=by
 cases t with
 | n k u o nm ch =>
  rw [Tr.deps,Tr.size,c1K,a1f (by rw [a1K];exact n_7 _),a1K];simp
structure d7G (E:List Ex) (D:List Nat) (d j:Nat) (x:Ex) (e:Nat):Prop where
 he:E[j]? = some x
 hd:D[j]? = some e
 lo:d<=e
 hi:e<=32
 ch:∀ a∈x.args,∃ r:Nat,a=r/\D[r]? = some (if x.k=4 then e else e+1)
theorem b4f {d:Nat}:∀ (l:List Tr) (s:Nat) (D0 D1:List Nat),D0.length=s->∀ a∈o4 l s,∃ r:Nat,a=r/\(D0++a6n d l++D1)[r]? = some d
 | [],_,_,_,_,a,h=>by cases h
 | t::l,s,D0,D1,hD,a,h=>by
  rw [o4] at h;have hp:=t.size_pos
  rcases J5.1 h with rfl | h
  ·refine ⟨s+t.size - 1,rfl,?_⟩;rw [a6n,D7,D7,a1f om_,hD,show s+t.size - 1 - s=t.size - 1 by omega,R3 (by rw [t.deps_len];omega)];exact t.deps_last d
  ·have:=b4f (d:=d) l (s+t.size) (D0++t.deps d) D1 (by rw [n_6,t.deps_len,hD]) a h;rw [a6n,<- D7 D0];exact this
mutual
theorem c8t {np:Nat}:∀ (t:Tr) {d:Nat} (s:Nat) (E0 E1:List Ex) (D0 D1:List Nat),E0.length=s->D0.length=s->t.wf np d->∀ j,s<=j->j < s+t.size->∃ x e,d7G (E0++t.flat s++E1) (D0++t.deps d++D1) d j x e
 | .n k u o nm ch,d,s,E0,E1,D0,D1,hE,hD,hw,j,h1,h2=>by
  rw [Tr.wf] at hw;rw [Tr.size] at h2;rw [Tr.flat,Tr.deps];by_cases hj:j < s+z8 ch
  ·obtain ⟨x,e,g⟩:=c2D ch s E0 (⟨k,u,o,nm,o4 ch s⟩::E1) D0 (d::D1) hE hD hw.2.2 j h1 hj;refine ⟨x,e,⟨by simpa [D7] using g.he,by simpa [D7] using g.hd,?_,g.hi,fun a ha=>by simpa [D7] using g.ch a ha⟩⟩;have:=g.lo;split at this<;>omega
  ·have hj:j=s+z8 ch:=by omega
   refine ⟨⟨k,u,o,nm,o4 ch s⟩,d,?_,?_,n_7 _,hw.1,fun a ha=>?_⟩
   ·rw [<- D7,D7,a1f (by rw [n_6,R0];omega),n_6,R0,hE,hj,a85];rfl
   ·rw [<- D7,D7,a1f (by rw [n_6,a1K];omega),n_6,a1K,hD,hj,a85];rfl
   ·have:=b4f (d:=if k=4 then d else d+1) ch s D0 (d::D1) hD a ha;simpa [D7] using this
theorem c2D {np:Nat}:∀ (l:List Tr) {d:Nat} (s:Nat) (E0 E1:List Ex) (D0 D1:List Nat),E0.length=s->D0.length=s->wfL np d l->∀ j,s<=j->j < s+z8 l->∃ x e,d7G (E0++J9 l s++E1) (D0++a6n d l++D1) d j x e
 | [],_,s,_,_,_,_,_,_,_,j,h1,h2=>by rw [z8] at h2;omega
 | t::l,d,s,E0,E1,D0,D1,hE,hD,hw,j,h1,h2=>by
  rw [wfL] at hw;rw [z8] at h2;rw [J9,a6n];by_cases hj:j < s+t.size
  ·have:=c8t t s E0 (J9 l (s+t.size)++E1) D0 (a6n d l++D1) hE hD hw.1 j h1 hj;simpa [D7] using this
  ·have:=c2D l (s+t.size) (E0++t.flat s) E1 (D0++t.deps d) D1 (by rw [n_6,t.flat_len,hE]) (by rw [n_6,t.deps_len,hD]) hw.2 j om_ om_;simpa [D7] using this
end
theorem d2x {t:Tr} (hw:t.wf np d) (h:j < t.size):∃ x e,d7G (t.flat 0) (t.deps d) d j x e:=by
 have:=c8t t 0 [] [] [] [] rfl rfl hw j (n_4 _) om_;simpa using this
structure Bnd (arr:List Int) (D:List Nat):Prop where
 len:arr.length=D.length
 le:∀ (j e:Nat),D[j]? = some e->∃ v:Int,arr[j]? = some v/\0<=v/\v<=e
theorem Bnd.set {arr:List Int} {D:List Nat} (h:Bnd arr D) {r e:Nat} (hr:D[r]? = some e) (h0:0<=v) (h1:v<=e):Bnd (arr.set r v) D:=by
 refine ⟨by rw [List.length_set];exact h.len,fun j e' hj=>?_⟩;by_cases hjr:r=j
 ·subst hjr;rw [hr] at hj;injection hj with hj
  subst hj;have hl:=(n_3.1 hr).1;exact ⟨v,by rw [b1v (by rw [h.len];exact hl)],h0,h1⟩
 ·obtain ⟨u,g1,g2⟩:=h.le j e' hj;exact ⟨u,by rw [a2i hjr];exact g1,g2⟩
theorem Bnd.zero (D:List Nat):Bnd (List.replicate D.length 0) D:=by
 refine ⟨List.length_replicate,fun j e hj=>⟨0,?_,b2X _,om_⟩⟩;have hl:=(n_3.1 hj).1;rw [c7N,n_1 hl]
theorem Src.old (x:Src) (n:Nat):I0 n (.box x.cells):=u0 ⟨.val _,A5 _ _ _,Q7 _ _ _,tt⟩
def b6L (d:De):Sn:=⟨d.k,d.name⟩
theorem d0v {l:List De} (h:(l.map fun d=>(d.k,d.name)).Nodup):(l.map b6L).Nodup:=by
 have e:l.map b6L=(l.map fun d=>(d.k,d.name)).map fun p=>(⟨p.1,p.2⟩:Sn):=by rw [List.map_map];rfl
 rw [e];refine List.Pairwise.map _ (fun a b cX he=>?_) h;injection he with h1 h2
 exact cX (Prod.ext h1 h2)
theorem c6s (x:Src) (h:a2b x) (σ:List b9):b8 CC 244 [.agg x.cells] σ fun r Y=>r = .ret (.val (.bool false))/\Y=σ:=by
 refine an_ Tryz.func244 ?_;refine b2H ?_;refine cY a2D ?_;refine a6z ?_;refine cY (j5 rfl tt rfl a6A rfl a2j de_) ?_;refine cY a4Y ?_;refine cY J3 ?_;refine cY a0c ?_;refine cY B2 ?_;refine cG c33 ?_;refine cG c3u ?_;refine cG c3A ?_;refine cG a7l ?_;refine cY R7 ?_;refine x9 ?_;refine cC ?_ ?_<;>intro h1
 ·exfalso;have:=h.impl;have:=h.decl;simp at h1;omega
 ·have bn:=h.impl;have eI:=h.decl;refine b5Q ?_;refine z_0 ?_;refine cY b9I ?_;refine cY b9M ?_;refine cY a4z ?_;refine a73 ?_;refine j7 hCC (α:=Nat) (fun i=>[(20,(.list (x.decls.map De.cv) (gnn x.decls.length) none)),(21,iv x.decls.length),(22,iv i)]) (fun _=>[.box x.cells]) (fun i=>i<=x.decls.length) (fun i=>x.decls.length - i) 0 (n_4 _) tu_ (ah:=[]) rfl z6 uz_ ?_;intro i hi;refine a7j ?_;refine cC ?_ ?_<;>intro h2
  ·have ab:(i:Int) < x.decls.length:=sp_ h2;obtain ⟨d,hd⟩:=gx_ x.decls i;have hg:=h.dec d (n_2 hd);have aX:=hg.parl;have hb256:=hg.blen;obtain ⟨t,fq,hwf⟩:=hg.tree;have hbl:d.body.length=t.size:=by rw [fq,t.flat_len]
   have hdp:(t.deps 1).length=d.body.length:=by rw [t.deps_len,hbl]
   have htp:=t.size_pos;refine a4X ?_;refine z_0 ?_;refine cY a9u ?_;refine cY c8E ?_;refine cD (p8 rfl a9K rfl j6 ?_);refine cD (j2 rfl tt tt rfl j3 a4O j6 rfl rfl (nb rfl) ?_);refine a6z ?_;refine b7Q ?_;refine cY a0c ?_;refine cY B2 ?_;refine cG b7T ?_;refine cG b4c ?_;refine cG b7b ?_;refine cG a7l ?_;refine cY R7 ?_;refine x9 ?_;refine cC ?_ ?_<;>intro h3
   ·exfalso;simp at h3;omega
   ·refine b0B ?_;refine b64 ?_;refine cD (c0d rfl tt tt rfl rfl (n:=d.body.length) (c:=d.body.length) rfl rfl t_4 t_1 b95 t_8 rfl (a38 rfl) rfl om_ om_ (by have hb:Tryz.t3.bytes=8:=rfl;rw [hb];omega) ?_);refine z_3 ?_;refine J1 [.box x.cells,.box d.cells,.vec 1 ((List.replicate d.body.length 0).map icv)] (by simp [List.map_replicate];exact ⟨rfl,.inr rfl⟩) ?_;refine z_0 ?_;refine b64 ?_;refine cY V3 ?_;refine z_3 ?_;refine a12 ?_;refine j7 hCC (α:=Nat × List Int) (fun y=>[(4,.ptr 1 0),(5,.vec 2 0 d.body.length),(6,(iv ((y.1:Int) - 1))),(20,(.list (x.decls.map De.cv) (gnn x.decls.length) none)),(21,iv x.decls.length),(22,iv i)]) (fun y=>[.box x.cells,.box d.cells,.vec 1 (y.2.map icv)]) (fun y=>y.1<=d.body.length/\Bnd y.2 (t.deps 1)) (fun y=>y.1) (d.body.length,List.replicate d.body.length 0) ⟨n_7 _,by rw [<- hdp];exact Bnd.zero _⟩ tu_ (ah:=[]) rfl z6 uz_ ?_;intro ⟨m,arr⟩ ⟨hm,eM⟩;dsimp only at hm eM ⊢;refine F9 ?_;refine a9e ?_;refine cC ?_ ?_<;>intro h4
    ·have hmp:(0:Int)<=(m:Int) - 1:=sp_ h4;obtain ⟨m,rfl⟩:∃ m',m=m'+1:=⟨m - 1,om_⟩;have hmi:((m+1:Nat):Int) - 1=(m:Int):=by omega
     obtain ⟨y,e,eQ⟩:=d2x hwf (j:=m) om_;obtain ⟨x',z',ch',co⟩:=b5x hwf (j:=m) om_;have hyx:x'=y:=Option.some.inj (co.e.symm.trans eQ.he);have ao:y.args.length<=256:=by
      rw [<- hyx,co.args,T0];have:=a3e ch';have:=co.size;omega
     have eA:=eQ.lo;have he32:=eQ.hi;obtain ⟨v,hv,hv0,dI⟩:=eM.le _ _ eQ.hd;have fQ:=eM.len;refine a4X ?_;refine N8 hCC (α:=List Int) (fun a=>[(4,.ptr 1 0),(5,.vec 2 0 d.body.length),(6,(iv (((m+1:Nat):Int) - 1))),(20,(.list (x.decls.map De.cv) (gnn x.decls.length) none)),(21,iv x.decls.length),(22,iv i)]) (fun a=>[.box x.cells,.box d.cells,.vec 1 (a.map icv)]) (fun a=>Bnd a (t.deps 1)) z6 uz_ ?_ ?_
     ·
      refine a7x ?_;refine cY a4i ?_;refine cY c8W ?_;refine b2E ?_;refine cC ?_ ?_<;>intro h5
      ·refine b8A ?_;refine cY a4i ?_;refine cD (P8 ((arr.set m 1).map icv) rfl tt rfl rfl j3 t_1 (.inl rfl) rfl (by rw [hmi];simpa using i8 (f:=icv) hv) rfl (nb rfl) (by rw [hmi];simp only [L7,a2c];exact a7g _ _ _) rfl ?_);refine x9 ?_;exact ⟨(arr.set m 1),_,(eM.set eQ.hd de_ om_),tu_,rfl⟩
      ·refine C9 ?_;exact ⟨arr,_,eM,tu_,rfl⟩
     ·intro arr eM;obtain ⟨v,hv,hv0,dI⟩:=eM.le _ _ eQ.hd;have fQ:=eM.len;refine F9 ?_;refine a7x ?_;refine cY a4i ?_;refine cY c8W ?_;refine b2E ?_;refine cC ?_ ?_<;>intro h6
      ·exfalso;simp at h6;omega
      ·refine b0B ?_;refine c6w ?_;refine cY B2 ?_;refine cY d9d ?_;refine cY (a3j rfl tt rfl a6N rfl b8E de_) ?_;refine cY (a0O rfl tt rfl b8I rfl) ?_;refine cY a1g ?_;refine a73 ?_;refine j7 hCC (α:=Nat × List Int) (fun z=>[(4,.ptr 1 0),(5,.vec 2 0 d.body.length),(6,(iv (((m+1:Nat):Int) - 1))),(20,(.list (x.decls.map De.cv) (gnn x.decls.length) none)),(21,iv x.decls.length),(22,iv i),(66,(.list (y.args.map icv) (gnn y.args.length) none)),(67,iv y.args.length),(68,iv z.1)]) (fun z=>[.box x.cells,.box d.cells,.vec 1 (z.2.map icv)]) (fun z=>z.1<=y.args.length/\Bnd z.2 (t.deps 1)) (fun z=>y.args.length - z.1) (0,arr) ⟨n_4 _,eM⟩ tu_ (ah:=[]) rfl z6 uz_ ?_;intro ⟨p,arr⟩ ⟨hp,eM⟩;dsimp only at hp eM ⊢;refine a7j ?_;refine cC ?_ ?_<;>intro h7
       ·have hpt:(p:Int) < y.args.length:=sp_ h7;obtain ⟨a,ha⟩:=gx_ y.args p;obtain ⟨r,rfl,hr⟩:=eQ.ch a (n_2 ha);obtain ⟨v,hv,hv0,dI⟩:=eM.le _ _ eQ.hd;have fQ:=eM.len;have cN:=(n_3.1 hr).1;obtain ⟨v2,cy,_⟩:=eM.le _ _ hr;have hve:v<=((if y.k=4 then e else e+1:Nat):Int):=by split<;>omega
        have hb1:=eM.set hr hv0 hve;have ap:(arr.set r v)[r]? = some v:=by rw [b1v om_]
        refine a4X ?_;refine z_0 ?_;refine cY (p9 rfl tt tt rfl rfl t_4 t_1 om_ (i8 ha) rfl) ?_;refine cY a8b ?_;refine z_3 ?_;refine a7x ?_;refine cY B2 ?_;refine cY B2 ?_;refine cY a4i ?_;refine cY c8W ?_;refine cY a4i ?_;refine cD (P8 ((arr.set r v).map icv) rfl tt tt rfl j3 t_1 (.inl rfl) rfl (by simpa using i8 (f:=icv) cy) rfl (nb rfl) (by simp only [L7,a2c];exact a7g _ _ _) rfl ?_);refine a7y ?_;refine c6w ?_;refine cY B2 ?_;refine cY d9d ?_;refine cY (a3j rfl tt rfl a6N rfl t_1 de_) ?_;refine cY a8b ?_;refine b2E ?_;refine cC ?_ ?_<;>intro h8
        ·have u8:¬ y.k=4:=sp_ h8;rw [n_0 u8] at hr;refine b8A ?_;refine cY a4i ?_;refine cY (O8 rfl tt rfl a2l rfl (by simpa using i8 (f:=icv) ap) rfl) ?_;refine cY l9 ?_;refine cY a4i ?_;refine cD (P8 ((arr.set r (v+1)).map icv) rfl tt tt rfl j3 t_1 (.inl rfl) rfl (by simpa using i8 (f:=icv) ap) rfl (nb rfl) (by simp only [L7,a2c];refine (a7g _ _ _).trans ?_;rw [List.set_set]) rfl ?_);refine x9 ?_;refine a8v ?_;exact ⟨(p+1,arr.set r (v+1)),_,⟨do_,do_,eM.set hr om_ om_⟩,tu_,rfl⟩
        ·refine C9 ?_;refine a8v ?_;exact ⟨(p+1,arr.set r v),_,⟨do_,do_,hb1⟩,tu_,rfl⟩
       ·refine j4 ?_;refine a6R ?_;refine cY V3 ?_;refine z_3 ?_;exact ⟨(m,arr),_,⟨do_,do_,eM⟩,⟨k8,k8,⟨tt,(n_8 (fun z:Int=>(iv z)) do_)⟩,k8,k8,k8,tt⟩,rfl⟩
    ·refine j4 ?_;exact c6V
  ·refine j4 ?_;refine z_0 ?_;refine b1x ?_;exact d1c
theorem c1H (x:Src) (h:a2b x) (σ:List b9):b8 CC 243 [.agg x.cells] σ fun r Y=>r = .ret (.val (.bool false))/\Y=σ:=by
 refine b8.anyw hCC pu_ pu_ (c7 (qO Tryz.func243 ?_)) σ;refine d0o ?_;refine A6 hCC 1 rfl (α:=Nat × List Sn) (fun y=>[(1,.ptr 0 0),(3,(.list (y.2.map Sn.cv) (gnn y.2.length) (C2 y.2.length 1))),(7,(.list (x.decls.map De.cv) (gnn x.decls.length) none)),(8,iv x.decls.length),(9,iv y.1)]) (fun y=>[.box x.cells,o8 y.2.length]) (fun y=>y.1<=x.decls.length/\y.2=(x.decls.take y.1).map b6L) (fun y=>x.decls.length - y.1) ⟨(0,[]),[0,9],⟨n_4 _,rfl⟩,⟨rfl,rfl⟩,ut_,uq_⟩ ?_;intro ⟨i,l⟩ ⟨hi,hl⟩;dsimp only at hi hl ⊢;have eI:=h.decl;have hll:l.length=i:=by rw [hl,O3,a5u];omega
 refine qk (qC ?_ ?_)<;> intro h1
 ·have ab:(i:Int) < x.decls.length:=sp_ h1;obtain ⟨d,hd⟩:=gx_ x.decls i;have hg:=h.dec d (n_2 hd);have eK:=V8 l (b6L d);refine qY a9u ?_;refine z_7 ?_;refine qY (c5 rfl Tryz.call282 ⟨tt,tt⟩ (a9r d.params _ (by have:=hg.parl;omega) hg.nod _) rfl) ?_;refine qC ?_ ?_<;>intro h2
  ·cases h2
  ·refine qY (B3 #[(0,1),(1,1)] rfl j1 Tryz.runUnderlying305 c2x rfl ⟨_,rfl⟩ (fun w=>by kernel_rfl) rfl rfl) ?_;refine qY (A8 [Sn.cv (b6L d)] rfl ⟨tt,tt⟩ c1p b5W c2x rfl rfl rfl rfl rfl rfl rfl rfl rfl) ?_;refine qD (A7 rfl tt tt rfl si_ q_2 c1p b5W Tryz.typeInfo305 c2x rfl (.inr rfl) q_7 (by have hb:Tryz.t305.bytes=24:=rfl;rw [hb];first|omega|(simp;done)|(simp;omega)) C1 ((l++[b6L d]).map Sn.cv) (l++[b6L d]).length si_ si_ ?_);refine qY l9 ?_;exact ⟨(i+1,l++[b6L d]),[0,3],⟨do_,do_,by rw [hl,a2m,hd,a6H];rfl⟩,⟨rfl,rfl⟩,ut_,uq_⟩
 ·have bC:i=x.decls.length:=sm_ h1;rw [bC,a57] at hl;have bn:=h.impl;refine j4 ?_;refine qY (c5 rfl c9e j1 (a0l x.imports _ x.pkg om_ _) rfl) ?_;refine c7D ?_;refine qG (fun hg=>c5 rfl Tryz.call282 ⟨hg,tt⟩ (a9r x.imports _ om_ h.impn _) rfl) ?_;refine qY R7 ?_;refine qG D6 ?_;refine qG (fun hg=>c5 rfl Tryz.call283 ⟨hg,tt⟩ (c0x l _ om_ (by rw [hl];exact d0v h.decn) _) rfl) ?_;refine qY R7 ?_;refine c6 ?_;exact ⟨_,rE1,_,_,rfl,rfl,j8 (by simp [h.impp])⟩
theorem b04 (x:Src) (h:a2b x) (σ:List b9):b8 CC 198 [.agg x.cells] σ fun r Y=>r = .ret (iv (0))/\Y=σ:=by
 refine b8.anyw hCC pu_ pu_ (c7 (qO Tryz.func198 ?_)) σ;refine qD (G8 rfl tt j3 j6 ?_);refine qY (c5 rfl Tryz.call242 ⟨tt,tt⟩ (b7z x h _) rfl) ?_;refine qC ?_ ?_<;>intro h1
 ·cases h1
 ·refine qY (c5 rfl Tryz.call243 ⟨tt,tt⟩ (c1H x h _) rfl) ?_;refine qC ?_ ?_<;>intro h2
  ·cases h2
  ·refine qY (c5 rfl Tryz.call244 ⟨tt,tt⟩ (c6s x h _) rfl) ?_;refine qC ?_ ?_<;>intro h3
   ·cases h3
   ·exact c0Q
end Go.Proofs.YtlppbmfecjabeaaGreatDoor
