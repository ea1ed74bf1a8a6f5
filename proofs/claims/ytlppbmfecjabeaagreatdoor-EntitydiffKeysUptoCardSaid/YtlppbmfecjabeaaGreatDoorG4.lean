/- Part 4 of what the claim needs: values without addresses, and what the program's functions do with them. -/
import Derived.Test.YtlppbmfecjabeaaGreatDoorG3
set_option linter.all false
set_option maxRecDepth 100000
set_option maxHeartbeats 4000000
namespace Go.Proofs.YtlppbmfecjabeaaGreatDoor
open Go Go.Cl
variable{T:List Tok}{i f a np n2 f0 n' B q L n3 n1 n7:Nat}{e2 e1 e' e3 e5 e4 e6 e7:Int}{α:Type}{o:Option α}{y:α}{Jh:PF}{S am:List Nat}{u nm:U}{σ τ:List b9}{c:CV}{z:Int×Nat×List Ex}{t:Tok}{fl:List Fi}{b1:List Ex}{nn:Bool}
theorem b8S{n:Nat}{e:Int}{y:Int×Nat}(h:e≠0\/(tk T n).k≠2)(h2:e2≠0):Ok e ((G6 T n 2).map λx=>(x.1.n,x.2)) e2 y:=by
 by_cases he:e=0
 .have hn:G6 T n 2=none:=by
   unfold G6
   split
   .rename_i hk
    rcases h with h|h
    .exact absurd he h
    .exact absurd hk h
   .rfl
  rw[hn];exact .none h2
 .exact .dead he h2
theorem b9h{n:Nat}{e:Int}(h:(tk T n).k=2):Ok e ((G6 T n 2).map λx=>(x.1.n,x.2)) e ((tk T n).n,n+1):=by
 have hn:G6 T n 2=some (tk T n,n+1):=by
  unfold G6;rw[F h];rfl
 rw[hn];exact .some
theorem c1t(T:List Tok)(n:Nat)(at_ e:Int)(ps:List U)(b:List Ex)(hT:T.length<=1000000)(hn:n<T.length)(hW:a06 T)(hN:∀i,0<=(tk T i).n/\(tk T i).n<=9007199254740993):b8 CC 322 [.ptr 0 0] (rst T n at_ e ps b) (λr τ=>∃a:Int×Nat×Int×Int,D2 2 τ r (.ret (iv a.1)) (rst T a.2.1 a.2.2.1 a.2.2.2 ps b)/\(Ok e ((G6 T n 2).map λx=>(x.1.n,x.2)) a.2.2.2 (a.1,a.2.1)/\a.2.1 <T.length/\-9007199254740993<=a.1/\a.1<=9007199254740993)):=by
 refine qO Tryz.func322 ?_;refine W c0G ?_;refine z_1 ?_;refine qG d2W ?_;refine qG a5n ?_;refine a38 ?_;refine qC ?_ ?_<;>intro h1
 .have hv:e≠0\/(tk T n).k≠2:=I h1;refine qD (c5 J b2u a21 (a0L _ _ G ⟨J,J,G⟩) J ?_);rintro⟨x,y⟩ hy;dsimp only at hy⊢;refine c81 ?_;exact⟨_,rE1,(by exact⟨(0,n,x,y),a2s J (.val _),b8S hv hy,hn,Q,Q⟩)⟩
 .have hv:e=0/\(tk T n).k=2:=I h1;refine z_8 ?_;refine c6 ?_;exact⟨_,rE1,(by exact⟨((tk T n).n,n+1,at_,e),a2s J (.val _),b9h hv.2,hW n hn (by rw[hv.2];decide),by have:=hN n;dsimp only;omega,by have:=hN n;dsimp only;omega⟩)⟩
theorem a83{n:Nat}{at_ e:Int}{ps:List U}{b:List Ex}(hT:T.length<=1000000)(hn:n<T.length)(hW:a06 T)(hN:∀i,0<=(tk T i).n/\(tk T i).n<=9007199254740993){s:Nat}(ao:RAt σ q s T n at_ e ps b):b8 CC 322 [.ptr q 0] σ λr τ=>∃a:Int×Nat×Int×Int,r= .ret (iv a.1)/\τ=rS0 σ q s T a.2.1 a.2.2.1 a.2.2.2 ps b/\(Ok e ((G6 T n 2).map λx=>(x.1.n,x.2)) a.2.2.2 (a.1,a.2.1)/\a.2.1 <T.length/\-9007199254740993<=a.1/\a.1<=9007199254740993):=
 a0n (c:=λa:Int×Nat×Int×Int=>(iv a.1)) (N:=λa=>a.2.1) (A:=λa=>a.2.2.1) (E:=λa=>a.2.2.2) (λ_ h=>by cases h) (λ_=>.val _) (c1t T n at_ e ps b hT hn hW hN) ao
theorem c9E{n k:Nat}{at_:Int}{ps:List U}{b:List Ex}(h0:τ[0]?=some (.box [.list (T.map Tok.cv) true none,iv n,iv at_,iv 0,.list (ps.map scv) (gnn ps.length) none,.list (b.map Ex.cv) (gnn b.length) (C3 b.length k),.list [] false none]))(hk:τ[k]?=some (o5 b.length))(h2:2<=k)(hc:Old 2 c):D2 2 τ (.ret c) (.ret c) (a69 T n at_ 0 ps b):=by
 have k1:a6Z 2 [0,1,k]=true:=J;have k2:a0J [0,1,k]=true:=by
  simp[a0J];omega
 refine⟨[0,1,k],k1,k2,.ret (.old hc),.inr ⟨_,h0,.box ?_⟩,.inl J,.inr ⟨_,hk,.same J D8⟩,O⟩;refine⟨.old a1u,.old (.val _),.old (.val _),.old (.val _),.old Z8,.list (λr hr c hc=>(C0 (f:=Ex.cv) (λa=>(Ex.pure a).all) _ r hr c hc).old) ?_,.old a33,O⟩;intro j hj;have dq:C3 b.length 2=some j:=hj;cases hb:b.length with
 |zero=>rw[hb]at dq;cases dq
 |succ m=>rw[hb]at dq;injection dq with dq;subst dq;exact⟨k,J,J⟩
theorem a6i{n:Nat}{at_ e:Int}{ps:List U}{b:List Ex}{tok:Option Nat}(he:e≠0)(h0:τ[0]?=some (.box [.list (T.map Tok.cv) true none,iv n,iv at_,iv e,.list (ps.map scv) (gnn ps.length) none,.list (b.map Ex.cv) (gnn b.length) tok,.list [] false none]))(hc:Old 2 c):D2 2 τ (.ret c) (.ret c) (a69 T n at_ e ps b):=by
 have ht:∀m s,tkE e m s=none:=λm s=>D he;have hp:o9 e b.length = .dead:=D he;refine⟨[0,1,τ.length+2],J,by simp[a0J],.ret (.old hc),.inr ⟨_,h0,.box ⟨.old a1u,.old (.val _),.old (.val _),.old (.val _),.old Z8,.list (λr hr c hc=>(C0 (f:=Ex.cv) (λa=>(Ex.pure a).all) _ r hr c hc).old) (λj hj=>by rw[ht]at hj;cases hj),.old a33,O⟩⟩,.inl J,.inl hp,O⟩
abbrev rS1(σ:List b9)(q s:Nat)(T:List Tok)(n:Nat)(at_ e:Int)(ps:List U)(b:List Ex):List b9:=(σ.set q (rbx T n at_ e ps b σ.length)).set s .dead++[o9 e b.length]
theorem a2C{f:FuncId}{args:List CV}{c:α->CV}{N:α->Nat}{A E:α->Int}{B:α->List Ex}{P:α->Prop}{n:Nat}{at_ e:Int}{ps:List U}{b:List Ex}(ap:∀a∈args,r5 a)(hc:∀a,r5 (c a))
 (h:b8 CC f (.ptr 0 0::args) (rst T n at_ e ps b) λr τ=>∃a,D2 2 τ r (.ret (c a)) (a69 T (N a) (A a) (E a) ps (B a))/\P a){σ:List b9}{q s:Nat}(ao:RAt σ q s T n at_ e ps b):
 b8 CC f (.ptr q 0::args) σ λr τ=>∃a,r= .ret (c a)/\τ=rS1 σ q s T (N a) (A a) (E a) ps (B a)/\P a:=
 a9f (c:=c) (N:=N) (A:=A) (E:=E) (B:=B) (g:=λ_=>true) (P:=P) ap hc (h.mono λ_ _ ⟨a,h1,h2⟩=>⟨a,h1,h2⟩) ao
abbrev b0f(w:Nat×List Ex):Int×List Ex:=((w.1:Int),w.2)
theorem c5s{e:Int}{b:List Ex}{x:Ex}{y:Int×List Ex}(h:(e=0->(b.length=256/\e2≠0)\/(b.length≠256/\e2=0))/\(e≠0->e2≠0))(hy:e2=0->y=((b.length:Int),b++[x])):Ok e ((Z1 b x).map b0f) e2 y:=by
 refine⟨λh0=>?_,h.2⟩;unfold Z1
 rcases h.1 h0 with⟨h1,h2⟩|⟨h1,h2⟩
 .rw [F h1];exact .inr ⟨J,h2⟩
 .rw [D h1,hy h2];exact .inl ⟨J,h2⟩
theorem d1k(T:List Tok)(n:Nat)(at_ e:Int)(ps:List U)(b:List Ex)(hb:b.length<=256)(x:Ex)(z:Int):b8 CC 272 [.ptr 0 0,.agg x.cells,iv z] (rst T n at_ e ps b) (λr τ=>∃a:Int×Int×Int×List Ex,D2 2 τ r (.ret (iv a.1)) (a69 T n a.2.1 a.2.2.1 ps a.2.2.2)/\(Ok e ((Z1 b x).map b0f) a.2.2.1 (a.1,a.2.2.2)/\a.2.2.2.length<=256/\-1<=a.1/\a.1<=256)):=by
 refine cO Tryz.func272 ?_;refine b3E ?_;refine N6 (α:=Int×Int) (λ_=>[(0,.ptr 0 0),(4,.ptr 2 0)]) (λa=>[rbx T n a.1 a.2 ps b 1,o9 a.2 b.length,.box x.cells]) (λa=>(e=0->(b.length=256/\a.2≠0)\/(b.length≠256/\a.2=0))/\(e≠0->a.2≠0)) ?_ ?_
 .
  refine qk (qG D4 ?_);refine qG (λhg=>b4J J hg J) ?_;refine qG (λhg=>j7 J hg J b84 J b3g G) ?_;refine qG b40 ?_;refine qG b8V ?_;refine a4k ?_;refine qC ?_ ?_<;>intro h1
  .have hv:e=0/\b.length=256:=sm_ h1;refine qD (c5 J b2u a21 (a0L _ _ G ⟨J,J,G⟩) J ?_);rintro⟨x1,y1⟩ hy;dsimp only at hy⊢;refine qN [rbx T n x1 y1 ps b 1,o9 y1 b.length,.box x.cells] J ?_;exact⟨(x1,y1),⟨λ_=>.inl ⟨hv.2,hy⟩,λ_=>hy⟩,tu_,J⟩
  .have hv:¬(e=0/\b.length=256):=λh=>by simp[h.1,h.2]at h1
   exact⟨(at_,e),⟨λh0=>.inr ⟨λh=>hv ⟨h0,h⟩,h0⟩,λh=>h⟩,tu_,J⟩
 .rintro ⟨x1,y1⟩ E1 hp;dsimp only at hp⊢;refine qk ?_;refine cC ?_ ?_<;>intro h2
  .obtain rfl:y1=0:=I h2;have hbl:(b++[x]).length=b.length+1:=by simp
   have hl:b.length≠256:=by
    by_cases h0:e=0
    .rcases hp.1 h0 with⟨_,h⟩|⟨h,_⟩
     .exact absurd J h
     .exact h
    .exact absurd J (hp.2 h0)
   refine L5 [.box [.list (T.map Tok.cv) true none,iv n,iv x1,iv 0,.list (ps.map scv) (gnn ps.length) none,.list (b.map Ex.cv) (gnn b.length) (C3 b.length 1),.list [] false none],o5 b.length,.box x.cells] J ?_;refine d8u ?_;refine chf J b8j ?_;refine chf J (c8 J c3b) ?_;refine chf J (c8 J c4u) ?_;refine chf J (c8 J c9o) ?_;refine chf J e2f ?_;refine C8 ?_;refine B0 J J J (A4 J O O J H q_5 b3G a9w Tryz.typeInfo212 b6g J (.inr J) K2 (by have hb:Tryz.t212.bytes=64:=J;rw[hb];first|omega|(simp;done)|(simp;omega)) B7 ((b++[x]).map Ex.cv) (b++[x]).length H H ?_);refine d3Q ?_;refine E9 J J (c8 J c3b) ⟨O,?_⟩;refine d8W ?_;refine b7L ?_;refine c6 ?_;exact⟨_,rE1,(by exact⟨(((b++[x]).length:Int) -1,x1,0,b++[x]),c9E (k:=3) J J G (.val _),c5s hp (λ_=>by simp),by simp;omega,Q,by simp;omega⟩)⟩
  .have fp:y1≠0:=I h2;refine qk ?_;refine b7L ?_;refine c6 ?_;exact⟨_,rE1,(by exact⟨((b.length:Int) -1,x1,y1,b),a6i fp J (.val _),c5s hp (λh=>absurd h fp),hb,Q,Q⟩)⟩
theorem d5X(x:Ex):r5 (.agg x.cells):=r6 (Ex.pure x)
theorem O9{n:Nat}{at_ e:Int}{ps:List U}{b:List Ex}(hb:b.length<=256)(x:Ex)(z:Int){s:Nat}(ao:RAt σ q s T n at_ e ps b):b8 CC 272 [.ptr q 0,.agg x.cells,iv z] σ λr τ=>∃a:Int×Int×Int×List Ex,r= .ret (iv a.1)/\τ=rS1 σ q s T n a.2.1 a.2.2.1 ps a.2.2.2/\(Ok e ((Z1 b x).map b0f) a.2.2.1 (a.1,a.2.2.2)/\a.2.2.2.length<=256/\-1<=a.1/\a.1<=256):=
 a2C (c:=λa:Int×Int×Int×List Ex=>(iv a.1)) (N:=λ_=>n) (A:=λa=>a.2.1) (E:=λa=>a.2.2.1) (B:=λa=>a.2.2.2) (λ_ h=>by
  simp at h
  rcases h with rfl|rfl
  .exact d5X x
  .exact .val _) (λ_=>.val _) (d1k T n at_ e ps b hb x z) ao
structure RX where
 x:Int
 n:Nat
 at_:Int
 e:Int
 b:List Ex
abbrev cx(p:PX):Int×Nat×List Ex:=((p.1:Int),p.2.1,p.2.2)
theorem Ok.alive{e:Int}(h:Ok e o e' y)(h0:e'=0):e=0/\o=Option.some y:=by
 by_cases he:e=0
 .rcases h.1 he with⟨h1,_⟩|⟨_,h1⟩
  .exact ⟨he,h1⟩
  .exact absurd h0 h1
 .exact absurd h0 (h.2 he)
theorem Ok.bindM{γ β:Type}{e:Int}{g:α->γ}{y:γ}{f:α->Option β}{z:β}(h:Ok e (o.map g) e1 y)(k:∀p,o=Option.some p->g p=y->Ok e1 (f p) e2 z)(kd:e1≠0->e2≠0):Ok e (o.bind f) e2 z:=by
 refine⟨λh0=>?_,λh0=>kd (h.2 h0)⟩
 rcases h.1 h0 with⟨h1,h2⟩|⟨h1,h2⟩
 .obtain ⟨p,hp,hg⟩:=P2.1 h1;rw[hp];exact(k p hp hg).1 h2
 .rw [a9K.1 h1];exact .inr ⟨J,kd h2⟩
def RXP(T:List Tok)(n:Nat)(e:Int)(o:Option PX)(a:RX):Prop:=Ok e (o.map cx) a.e (a.x,a.n,a.b)/\a.n <T.length/\a.b.length<=256/\(a.e=0->n<a.n)/\-1<=a.x/\a.x<=256
def REC(T:List Tok)(ps:List U)(f:Nat):Prop:=∀(d n:Nat) (at_ e:Int) (b:List Ex),n<T.length->b.length<=256->d<=33->(e=0->8*(T.length -n)+6<=f)->∀(σ:List b9) (q s:Nat),RAt σ q s T n at_ e ps b->b8 CC 232 [.ptr q 0,iv d] σ λr τ=>∃a:RX,r= .ret (iv a.x)/\τ=rS1 σ q s T a.n a.at_ a.e ps a.b/\RXP T n e ((A3 T ps f).ex d n b) a
def RSC(T:List Tok)(ps:List U)(f:Nat):Prop:=∀(d n:Nat) (at_:Int) (b:List Ex),n<T.length->b.length<=256->d<=32->8*(T.length -n)+6<=f+2->∀(σ:List b9) (q s:Nat),RAt σ q s T n at_ 0 ps b->b8 CC 273 [.ptr q 0,iv d] σ λr τ=>∃a:RX,r= .ret (iv a.x)/\τ=rS1 σ q s T a.n a.at_ a.e ps a.b/\RXP T n 0 ((A3 T ps f).bin 2 d n b) a
def RTC(T:List Tok)(ps:List U)(f:Nat):Prop:=∀(d n:Nat) (at_:Int) (b:List Ex),n<T.length->b.length<=256->d<=32->8*(T.length -n)+6<=f+3->∀(σ:List b9) (q s:Nat),RAt σ q s T n at_ 0 ps b->b8 CC 300 [.ptr q 0,iv d] σ λr τ=>∃a:RX,r= .ret (iv a.x)/\τ=rS1 σ q s T a.n a.at_ a.e ps a.b/\RXP T n 0 ((A3 T ps f).bin 3 d n b) a
def RFC(T:List Tok)(ps:List U)(f:Nat):Prop:=∀(d n:Nat) (at_:Int) (b:List Ex),n<T.length->b.length<=256->d<=32->8*(T.length -n)+1<=f->∀(σ:List b9) (q s:Nat),RAt σ q s T n at_ 0 ps b->b8 CC 316 [.ptr q 0,iv d] σ λr τ=>∃a:RX,r= .ret (iv a.x)/\τ=rS1 σ q s T a.n a.at_ a.e ps a.b/\RXP T n 0 ((A3 T ps f).fac d n b) a
theorem RXP.dead{n m:Nat}{e x at2:Int}{o:Option PX}{b:List Ex}(h:e=0->o=Option.none)(h2:e2≠0)(hm:m<T.length)(hb:b.length<=256)(hx: -1<=x/\x<=256):RXP T n e o ⟨x,m,at2,e2,b⟩:=by
 refine⟨⟨λh0=>.inr ⟨by rw[h h0];rfl,h2⟩,λ_=>h2⟩,hm,hb,λh0=>absurd h0 h2,hx.1,hx.2⟩
theorem a2u{e x:Int}{b b2:List Ex}{y:Ex}{m:Nat}(h:Ok e ((Z1 b y).map b0f) e2 (x,b2)):Ok e ((N8 b y m).map cx) e2 (x,m,b2):=by
 have e1:(N8 b y m).map cx=((Z1 b y).map b0f).map λw=>(w.1,m,w.2):=by
  unfold N8;cases Z1 b y<;>rfl
 rw[e1];refine⟨λh0=>?_,h.2⟩
 rcases h.1 h0 with⟨h1,h2⟩|⟨h1,h2⟩
 .rw [h1];exact .inl ⟨J,h2⟩
 .rw [h1];exact .inr ⟨J,h2⟩
theorem e2Y{ps:List U}{d n:Nat}{b:List Ex}:(A3 T ps (f+1+1)).bin 1 d n b=((A3 T ps (f+1)).bin 2 d n b).bind λx=>if opS (tk T x.2.1) 1=0 then some x else((A3 T ps f).bin 2 d (x.2.1+1) x.2.2).bind λy=>N8 y.2.2 ⟨4,0,opS (tk T x.2.1) 1,[],[(x.1:Int),(y.1:Int)]⟩ y.2.1:=by
 have h:(A3 T ps (f+1+1)).bin 1 d n b=(G9 T ps (A3 T ps (f+1))).bin 1 d n b:=J;rw[h];simp only[G9];rw[D G];rfl
theorem e0B(t:Tok):opS t 1=if isT t 4 [60]=true then 6 else if isT t 4 [61,61]=true then 7 else 0:=by
 by_cases h1:isT t 4 [60]=true
 .rw [F h1];exact a5U (x:=(6,[60])) G (by simpa[opM,isT,F9]using h1)
 .rw [D h1];by_cases h2:isT t 4 [61,61]=true
  .rw [F h2];exact a5U (x:=(7,[61,61])) G (by simpa[opM,isT,F9]using h2)
  .rw [D h2];refine b3h λx hx=>?_;simp only[S0,J0,a6A,or_false]at hx
   rcases hx with rfl|rfl|rfl|rfl|rfl|rfl|rfl<;>simp_all[opM,isT,F9]
theorem W2{n k:Nat}{at_ e:Int}{ps:List U}{b:List Ex}(h0:τ[0]?=some (rbx T n at_ e ps b k))(hk:τ[k]?=some (o9 e b.length))(h2:2<=k)(hc:Old 2 c):D2 2 τ (.ret c) (.ret c) (a69 T n at_ e ps b):=by
 by_cases he:e=0
 .subst he;exact c9E h0 hk h2 hc
 .exact a6i he h0 hc
theorem a0v{b:List Ex}{e:Int}{k p:Nat}(h:am[p]?=some k):C6 L am (.list (b.map Ex.cv) (gnn b.length) (tkE e b.length k)) (.list (b.map Ex.cv) (gnn b.length) (tkE e b.length p)):=by
 unfold tkE
 split
 .exact a73 h
 .exact .list (λr hr c hc=>(C0 (f:=Ex.cv) (λa=>(Ex.pure a).all) _ r hr c hc).old) (λj hj=>by cases hj)
theorem Ok.bindP{e:Int}{f:α->Option PX}(h:Ok e o e1 y)(k:Ok e1 ((f y).map cx) e2 z):Ok e ((o.bind f).map cx) e2 z:=by
 have h1:(o.bind f).map cx=o.bind λa=>(f a).map cx:=by cases o<;>rfl
 rw[h1];exact h.bind k
theorem Ok.bindX{e x:Int}{o:Option PX}{f:PX->Option PX}{n:Nat}{b:List Ex}(h:Ok e (o.map cx) e1 (x,n,b))(k:∀i:Nat,(i:Int)=x->Ok e1 ((f (i,n,b)).map cx) e2 z)(kd:e1≠0->e2≠0):Ok e ((o.bind f).map cx) e2 z:=by
 have h1:(o.bind f).map cx=o.bind λa=>(f a).map cx:=by cases o<;>rfl
 rw[h1];refine h.bindM (λp hp hg=>?_) kd;obtain⟨i,m,c⟩:=p;obtain⟨h1,h2,h3⟩:(i:Int)=x/\m=n/\c=b:=by simpa[cx]using hg
 subst h2 h3;exact k i h1
theorem Ok.bindT{e:Int}{o:Option (Tok×Nat)}{f:Tok×Nat->Option PX}{n:Nat}{s:U}(h:Ok e (o.map λx=>(x.1.t,x.2)) e1 (s,n))(k:∀t:Tok,t.t=s->Ok e1 ((f (t,n)).map cx) e2 z)(kd:e1≠0->e2≠0):Ok e ((o.bind f).map cx) e2 z:=by
 have h1:(o.bind f).map cx=o.bind λa=>(f a).map cx:=by cases o<;>rfl
 rw[h1];refine h.bindM (λp hp hg=>?_) kd;obtain⟨t,m⟩:=p;obtain⟨h1,h2⟩:t.t=s/\m=n:=I hg;subst h2;exact k t h1
theorem Ok.bindI{e:Int}{o:Option (Tok×Nat)}{f:Tok×Nat->Option PX}{n:Nat}{s:Int}(h:Ok e (o.map λx=>(x.1.n,x.2)) e1 (s,n))(k:∀t:Tok,t.n=s->Ok e1 ((f (t,n)).map cx) e2 z)(kd:e1≠0->e2≠0):Ok e ((o.bind f).map cx) e2 z:=by
 have h1:(o.bind f).map cx=o.bind λa=>(f a).map cx:=by cases o<;>rfl
 rw[h1];refine h.bindM (λp hp hg=>?_) kd;obtain⟨t,m⟩:=p;obtain⟨h1,h2⟩:t.n=s/\m=n:=I hg;subst h2;exact k t h1
theorem Ok.zero{e:Int}(h:Ok 0 o e y):(e=0/\o=Option.some y)\/(e≠0/\o=Option.none):=by
 rcases h.1 J with⟨h1,h2⟩|⟨h1,h2⟩
 .exact .inl ⟨h2,h1⟩
 .exact .inr ⟨h2,h1⟩
theorem b5W{o:Option PX}{x:Int}{n:Nat}{b:List Ex}(h:o.map cx=some (x,n,b)):∃i:Nat,(i:Int)=x/\o=some (i,n,b):=by
 obtain⟨⟨i,m,c⟩,hp,hg⟩:=P2.1 h;obtain⟨h1,h2,h3⟩:(i:Int)=x/\m=n/\c=b:=by simpa[cx]using hg
 subst h2 h3;exact⟨i,h1,hp⟩
theorem b7l{o:Option PX}(h:o.map cx=none):o=none:=a9K.1 h
theorem d6d{ps:List U}{d n:Nat}{b:List Ex}(hd:32<d):(A3 T ps f).ex d n b=none:=by
 cases f with
 |zero=>rfl
 |succ f=>exact F hd
theorem e01(h:isT t 4 [60]=false)(h':isT t 4 [61,61]=false):opS t 1=0:=by
 rw[e0B];simp[h,h']
theorem d4R{x1 c:Int}{r:Option PX}(hi:(i:Int)=x1)(h:e1=0->c=0):Ok e1 ((if c=0 then some (i,n1,b1)else r).map cx) e1 (x1,n1,b1):=by
 by_cases he:e1=0
 .rw [F (h he),<- hi];exact .some
 .exact .dead he he
theorem T9{n:Nat}{k:Int}{v:Bool}(h:v=sgB T n 0 k u)(hv:v=false):isT (tk T n) k u=false:=by
 subst hv;simpa[sgB]using h.symm
theorem d1T{ps:List U}(hc:a0y T ps)(d n:Nat)(at_ e:Int)(b:List Ex)(hn:n<T.length)(hb:b.length<=256)(bV:d<=33)(hx:e=0->∃f,f0=f+3/\8*(T.length -n)+6<=f+3/\REC T ps (f+2)/\RSC T ps (f+1)/\RSC T ps f):b8 CC 232 [.ptr 0 0,iv d] (rst T n at_ e ps b) (λr τ=>∃a:RX,D2 2 τ r (.ret (iv a.x)) (a69 T a.n a.at_ a.e ps a.b)/\RXP T n e ((A3 T ps f0).ex d n b) a):=by
 have hT:=hc.len;have hW:=hc.w;refine qO Tryz.func232 ?_;refine W c0G ?_;refine W a4M ?_;refine qC ?_ ?_<;>intro h1
 .have hd:32<d:=sm_ h1;refine qD (c5 J b2u a21 (a0L _ _ G ⟨J,J,G⟩) J ?_);rintro⟨x0,y0⟩ bH;dsimp only at bH⊢;refine qN [rbx T n x0 y0 ps b 1,o9 y0 b.length] J (qC ?_ ?_)<;> intro h2
  .refine c6 ?_;exact⟨_,rE1,(by exact⟨⟨0,n,x0,y0,b⟩,a6i bH J (.val _),.dead (λ_=>d6d hd) bH hn hb ⟨G,G⟩⟩)⟩
  .exact absurd (show y0=0 by simpa using h2) bH
 .have hd:¬32<d:=sm_ h1;refine qC ?_ ?_<;>intro h8
  .have he:e≠0:=I h8;refine c6 ?_;exact⟨_,rE1,(by exact⟨⟨0,n,at_,e,b⟩,a6i he J (.val _),.dead (λh0=>absurd h0 he) he hn hb ⟨G,G⟩⟩)⟩
  .obtain rfl:e=0:=I h8;obtain⟨f,rfl,hf,hE,hS1,hS0⟩:=hx J;have ah:(A3 T ps (f+3)).ex d n b=(G9 T ps (A3 T ps (f+2))).ex d n b:=J;simp only[G9]at ah;rw[D hd]at ah;refine qD (c5 J b0Y o8 (a0k hT hn hW [105,102] ⟨J,J,G⟩) J ?_);rintro⟨v8,m8⟩ ⟨dm,hs8,hf8,hm8⟩;dsimp only at dm hs8 hf8 hm8⊢;refine qN [rbx T m8 at_ 0 ps b 1,o9 0 b.length] J ?_;refine cC ?_ ?_<;>intro h9
   .have hi:v8=true:=I h9;have hm:=hs8 hi;subst m8;have db:=(W5 (dm.symm.trans hi)).2;rw[F db]at ah;refine qs 1 (W j9 ?_);refine qD (c5 J b7V i7 (hE (d+1) (n+1) at_ 0 b hm8 hb X (λ_=>by omega) _ 0 1 ⟨J,J,G⟩) J ?_);rintro⟨x1,n1,a1,e1,b1⟩ ⟨k1,y1,w1,z1,l1,u1⟩;dsimp only at k1 y1 w1 z1 l1 u1⊢;refine qN [rbx T n1 a1 e1 ps b1 2,.dead,o9 e1 b1.length] J ?_;refine N6 (α:=Nat×Int×Int) (λ_=>[(0,.ptr 0 0),(1,iv d),(5,(iv ((tk T n).at_))),(6,iv x1)]) (λa=>[rbx T a.1 a.2.1 a.2.2 ps b1 2,.dead,o9 a.2.2 b1.length]) (λa=>Ok e1 (pIs T n1 1 [116,104,101,110]) a.2.2 a.1/\a.1 <T.length) ?_ ?_
    .
     refine qk (qD (c5 J b0Y o8 (a0k hT y1 hW [116,104,101,110] ⟨J,J,G⟩) J ?_));rintro⟨v9,m9⟩ ⟨fi,gE,iE,fk⟩;dsimp only at fi gE iE fk⊢;refine qN [rbx T m9 a1 e1 ps b1 2,.dead,o9 e1 b1.length] J (qC ?_ ?_)<;> intro bb
     .have hw:v9=false:=I bb;refine d9a ?_;rintro⟨x0,y0⟩ bH;dsimp only at bH⊢;refine qN [rbx T m9 x0 y0 ps b1 2,.dead,o9 y0 b1.length] J ?_;exact⟨(m9,x0,y0),⟨b1c (fi.symm.trans hw) bH,fk⟩,tu_,J⟩
     .have hw:v9=true:=I bb;exact⟨(m9,a1,e1),⟨by dsimp only;rw[gE hw];exact b00 (fi.symm.trans hw),fk⟩,tu_,J⟩
    .rintro ⟨n2,a2,e2⟩ E2 ⟨q2,y2⟩;dsimp only at q2 y2⊢;have g2:e2=0->n2=n1+1/\e1=0:=λh0=>⟨R2 (q2.alive h0).2,(q2.alive h0).1⟩;refine qs 1 (W j9 ?_);refine qD (c5 J b7V i7 (hE (d+1) n2 a2 e2 b1 y2 w1 X (λh0=>by have:=g2 h0;have:=z1 this.2;omega) _ 0 2 ⟨J,J,G⟩) J ?_);rintro⟨x3,n3,a3,e3,b3⟩ ⟨k3,y3,w3,z3,l3,u3⟩;dsimp only at k3 y3 w3 z3 l3 u3⊢;refine qN [rbx T n3 a3 e3 ps b3 3,.dead,.dead,o9 e3 b3.length] J ?_;refine N6 (α:=Nat×Int×Int) (λ_=>[(0,.ptr 0 0),(1,iv d),(5,(iv ((tk T n).at_))),(6,iv x1),(7,iv x3)]) (λa=>[rbx T a.1 a.2.1 a.2.2 ps b3 3,.dead,.dead,o9 a.2.2 b3.length]) (λa=>Ok e3 (pIs T n3 1 [101,108,115,101]) a.2.2 a.1/\a.1 <T.length) ?_ ?_
     .
      refine qk (qD (c5 J b0Y o8 (a0k hT y3 hW [101,108,115,101] ⟨J,J,G⟩) J ?_));rintro⟨v9,m9⟩ ⟨fi,gE,iE,fk⟩;dsimp only at fi gE iE fk⊢;refine qN [rbx T m9 a3 e3 ps b3 3,.dead,.dead,o9 e3 b3.length] J (qC ?_ ?_)<;> intro cB
      .have hw:v9=false:=I cB;refine d9a ?_;rintro⟨x0,y0⟩ bH;dsimp only at bH⊢;refine qN [rbx T m9 x0 y0 ps b3 3,.dead,.dead,o9 y0 b3.length] J ?_;exact⟨(m9,x0,y0),⟨b1c (fi.symm.trans hw) bH,fk⟩,tu_,J⟩
      .have hw:v9=true:=I cB;exact⟨(m9,a3,e3),⟨by dsimp only;rw[gE hw];exact b00 (fi.symm.trans hw),fk⟩,tu_,J⟩
     .rintro ⟨n4,a4,e4⟩ E4 ⟨q4,y4⟩;dsimp only at q4 y4⊢;have g4:e4=0->n4=n3+1/\e3=0:=λh0=>⟨R2 (q4.alive h0).2,(q4.alive h0).1⟩;refine b0O ?_;refine qD (c5 J b7V i7 (hE (d+1) n4 a4 e4 b3 y4 w3 X (λh0=>by have q:=g4 h0;have:=z3 q.2;have q:=g2 (k3.alive q.2).1;have:=z1 q.2;omega) _ 0 3 ⟨J,J,G⟩) J ?_);rintro⟨x5,n5,a5,e5,b5⟩ ⟨k5,y5,w5,z5,l5,u5⟩;dsimp only at k5 y5 w5 z5 l5 u5⊢;refine qN [rbx T n5 a5 e5 ps b5 4,.dead,.dead,.dead,o9 e5 b5.length] J (W (B1 ([x1,x3,x5].map icv) J D6 t_6 t_1 t_8 J J J J J J J J J) ?_);refine W b1m ?_;refine qD (c5 J a4Z D6 (O9 w5 ⟨5,0,0,[],[x1,x3,x5]⟩ _ ⟨J,J,G⟩) J ?_);rintro⟨x6,a6,e6,b6⟩ ⟨k6,w6,l6,u6⟩;dsimp only at k6 w6 l6 u6⊢;refine qN [rbx T n5 a6 e6 ps b6 5,.dead,.dead,.dead,.dead,o9 e6 b6.length] J ?_;refine c6 ?_;exact⟨_,rE1,(by exact⟨⟨x6,n5,a6,e6,b6⟩,W2 (k:=5) J J G (.val _),⟨by rw[ah];exact k1.bindX (λi hi=>q2.bindP (k3.bindX (λj hj=>q4.bindP (k5.bindX (λl hl=>a2u (by rw[hi,hj,hl];exact k6)) k6.2)) λh=>k6.2 (k5.2 (q4.2 h)))) λh=>k6.2 (k5.2 (q4.2 (k3.2 (q2.2 h)))),y5,w6,λh0=>by have h5:=(k6.alive h0).1;have q5:=z5 h5;have q:=g4 (k5.alive h5).1;have:=z3 q.2;have q:=g2 (k3.alive q.2).1;have:=z1 q.2;dsimp only at h0⊢;omega,l6,u6⟩⟩)⟩
   .have hi:v8=false:=I h9;have hm:=hf8 hi;subst m8;rw[D (by rw[T9 dm hi];decide)]at ah;replace ah:=ah.trans e2Y;refine qk (qD (c5 J c91 i7 (hS1 d n at_ b hn hb X X _ 0 1 ⟨J,J,G⟩) J ?_));rintro⟨x1,n1,a1,e1,b1⟩ ⟨k1,y1,w1,z1,l1,u1⟩;dsimp only at k1 y1 w1 z1 l1 u1⊢;refine qN [rbx T n1 a1 e1 ps b1 2,.dead,o9 e1 b1.length] J ?_;refine d7D ?_;refine qD (c5 J a9u o8 (Y5 hT y1 hW [60] ⟨J,J,G⟩) J ?_);rintro⟨v2,m2⟩ ⟨cE,dT,gT,ce⟩;dsimp only at cE dT gT ce⊢;refine qN [rbx T m2 a1 e1 ps b1 2,.dead,o9 e1 b1.length] J (qC ?_ ?_)<;> intro cX
    .have db:v2=true:=I cX;obtain⟨fK,fU⟩:=W5 (cE.symm.trans db);subst e1;have hm:=dT db;subst m2;have bn:opS (tk T n1) 1=6:=by rw[e0B,F fU]
     refine qD (c5 J c91 i7 (hS0 d (n1+1) a1 b1 ce w1 X (by have:=z1 J;omega) _ 0 2 ⟨J,J,G⟩) J ?_);rintro⟨x3,n3,a3,e3,b3⟩ ⟨k3,y3,w3,z3,l3,u3⟩;dsimp only at k3 y3 w3 z3 l3 u3⊢;refine qN [rbx T n3 a3 e3 ps b3 3,.dead,.dead,o9 e3 b3.length] J (W e1i ?_);refine W c7T ?_;refine qD (c5 J a4Z D6 (O9 w3 ⟨4,0,6,[],[x1,x3]⟩ _ ⟨J,J,G⟩) J ?_);rintro⟨x6,a6,e6,b6⟩ ⟨k6,w6,l6,u6⟩;dsimp only at k6 w6 l6 u6⊢;refine d8b ?_;exact⟨_,rE1,q_3⟩
    .have db:v2=false:=I cX;have hm:=gT db;subst m2;refine qD (c5 J a9u o8 (Y5 hT y1 hW [61,61] ⟨J,J,G⟩) J ?_);rintro⟨v4,m4⟩ ⟨hv4,hs4,hf4,hm4⟩;dsimp only at hv4 hs4 hf4 hm4⊢;refine qN [rbx T m4 a1 e1 ps b1 2,.dead,o9 e1 b1.length] J (qC ?_ ?_)<;> intro dw
     .have gU:v4=true:=I dw;obtain⟨fK,fU⟩:=W5 (hv4.symm.trans gU);subst e1;have hm:=hs4 gU;subst m4;have bn:opS (tk T n1) 1=7:=by rw[e0B,D (by rw[T9 cE db];decide),F fU]
      refine qD (c5 J c91 i7 (hS0 d (n1+1) a1 b1 hm4 w1 X (by have:=z1 J;omega) _ 0 2 ⟨J,J,G⟩) J ?_);rintro⟨x3,n3,a3,e3,b3⟩ ⟨k3,y3,w3,z3,l3,u3⟩;dsimp only at k3 y3 w3 z3 l3 u3⊢;refine qN [rbx T n3 a3 e3 ps b3 3,.dead,.dead,o9 e3 b3.length] J (W e1i ?_);refine W c7T ?_;refine qD (c5 J a4Z D6 (O9 w3 ⟨4,0,7,[],[x1,x3]⟩ _ ⟨J,J,G⟩) J ?_);rintro⟨x6,a6,e6,b6⟩ ⟨k6,w6,l6,u6⟩;dsimp only at k6 w6 l6 u6⊢;refine d8b ?_;exact⟨_,rE1,q_3⟩
     .have gU:v4=false:=I dw;have hm:=hf4 gU;subst m4;have dA:e1=0->opS (tk T n1) 1=0:=λh0=>by subst h0;exact e01 (T9 cE db) (T9 hv4 gU)
      refine c6 ?_;exact⟨_,rE1,(by exact⟨⟨x1,n1,a1,e1,b1⟩,W2 (k:=2) J J G (.val _),⟨by rw[ah];exact k1.bindX (λi hi=>d4R hi dA) id,y1,w1,z1,l1,u1⟩⟩)⟩
theorem d5l{ps:List U}(hc:a0y T ps)(Jj:∀g,g<f0->REC T ps g/\RSC T ps g):REC T ps f0:=λd n at_ e b hn hb hd hf σ q s ao=>
 a2C (c:=λa:RX=>(iv a.x)) (N:=λa=>a.n) (A:=λa=>a.at_) (E:=λa=>a.e) (B:=λa=>a.b) (λ_ h=>by simp at h;subst h;exact .val _) (λ_=>.val _) (d1T hc d n at_ e b hn hb hd (λh0=>by
  have h1:=hf h0;obtain⟨f,rfl⟩:∃f,f0=f+3:=⟨f0-3,X⟩;exact⟨f,J,h1,(Jj (f+2) X).1,(Jj (f+1) X).2,(Jj f X).2⟩)) ao
def ot1(ph:Bool)(e:Int)(m:Nat):b9:=if ph=true then .dead else o9 e m
def ot2(ph:Bool)(e:Int)(m:Nat):b9:=if ph=true then o9 e m else .dead
structure RL where
 x:Int
 m:Nat
 at_:Int
 e:Int
 b:List Ex
 ph:Bool
 g:Nat
variable{x:Int}
theorem e2F{ps:List U}{d n lv:Nat}{b:List Ex}(h:lv≠4):(A3 T ps (f+1)).bin lv d n b=((A3 T ps f).bin (lv+1) d n b).bind λx=>(A3 T ps f).lp lv d x.1 x.2.1 x.2.2:=by
 have h':(A3 T ps (f+1)).bin lv d n b=(G9 T ps (A3 T ps f)).bin lv d n b:=J;rw[h'];simp only[G9];rw[D h]
theorem e2B{ps:List U}{d n:Nat}{b:List Ex}:(A3 T ps (f+1)).bin 4 d n b=(A3 T ps f).fac d n b:=J
theorem lpS{ps:List U}{g d x n lv:Nat}{b:List Ex}(h:lv≠1):(A3 T ps (g+1)).lp lv d x n b=if opS (tk T n) (lv:Int)=0 then some (x,n,b)else((A3 T ps g).bin (lv+1) d (n+1) b).bind λy=>(Z1 y.2.2 ⟨4,0,opS (tk T n) (lv:Int),[],[(x:Int),(y.1:Int)]⟩).bind λw=>(A3 T ps g).lp lv d w.1 y.2.1 w.2:=by
 have h':(A3 T ps (g+1)).lp lv d x n b=(G9 T ps (A3 T ps g)).lp lv d x n b:=J;rw[h'];simp only[G9,D h]
theorem e0K(t:Tok):opS t 2=if isT t 4 [43]=true then 1 else if isT t 4 [45]=true then 2 else 0:=by
 by_cases h1:isT t 4 [43]=true
 .rw [F h1];exact a5U (x:=(1,[43])) G (by simpa[opM,isT,F9]using h1)
 .rw [D h1];by_cases h2:isT t 4 [45]=true
  .rw [F h2];exact a5U (x:=(2,[45])) G (by simpa[opM,isT,F9]using h2)
  .rw [D h2];refine b3h λx hx=>?_;simp only[S0,J0,a6A,or_false]at hx
   rcases hx with rfl|rfl|rfl|rfl|rfl|rfl|rfl<;>simp_all[opM,isT,F9]
theorem op3(t:Tok):opS t 3=if isT t 4 [42]=true then 3 else if isT t 4 [47]=true then 4 else if isT t 4 [37]=true then 5 else 0:=by
 by_cases h1:isT t 4 [42]=true
 .rw [F h1];exact a5U (x:=(3,[42])) G (by simpa[opM,isT,F9]using h1)
 .rw [D h1];by_cases h2:isT t 4 [47]=true
  .rw [F h2];exact a5U (x:=(4,[47])) G (by simpa[opM,isT,F9]using h2)
  .rw [D h2];by_cases h3:isT t 4 [37]=true
   .rw [F h3];exact a5U (x:=(5,[37])) G (by simpa[opM,isT,F9]using h3)
   .rw [D h3];refine b3h λx hx=>?_;simp only[S0,J0,a6A,or_false]at hx
    rcases hx with rfl|rfl|rfl|rfl|rfl|rfl|rfl<;>simp_all[opM,isT,F9]
theorem c2j{o:Option (Nat×List Ex)}{b:List Ex}(h:o.map b0f=some (x,b)):∃i:Nat,(i:Int)=x/\o=some (i,b):=by
 obtain⟨⟨i,c⟩,hp,hg⟩:=P2.1 h;obtain⟨h1,h2⟩:(i:Int)=x/\c=b:=by simpa[b0f]using hg
 subst h2;exact⟨i,h1,hp⟩
theorem b1I{S o:Option PX}{K:Nat->Nat->List Ex->Option PX}{x1:Int}(hs:S=o.bind λy=>K y.1 y.2.1 y.2.2)(k:Ok 0 (o.map cx) e1 (x1,n1,b1)):(e1=0->∃i:Nat,(i:Int)=x1/\S=K i n1 b1)/\(e1≠0->S=none):=by
 rcases k.zero with⟨h3,ho⟩|⟨h3,ho⟩
 .obtain ⟨j,hj,ho⟩:=b5W ho;exact⟨λ_=>⟨j,hj,by rw[hs,ho];rfl⟩,λh=>absurd h3 h⟩
 .exact ⟨λh=>absurd h h3,λ_=>by rw[hs,b7l ho];rfl⟩
theorem a3s{S o:Option PX}{N:PX->Option (Nat×List Ex)}{K:Nat->Nat->List Ex->Option PX}{x3 x4:Int}{b3 b4:List Ex}(hs:S=o.bind λy=>(N y).bind λw=>K w.1 y.2.1 w.2)(k3:Ok 0 (o.map cx) e3 (x3,n3,b3))(k4:∀j:Nat,(j:Int)=x3->Ok e3 ((N (j,n3,b3)).map b0f) e4 (x4,b4))(k40:e3≠0->e4≠0):
 (e4=0->e3=0/\∃w:Nat,(w:Int)=x4/\S=K w n3 b4)/\(e4≠0->S=none):=by
 rcases k3.zero with⟨h3,ho⟩|⟨h3,ho⟩
 .obtain ⟨j,hj,ho⟩:=b5W ho;subst h3
  rcases(k4 j hj).zero with⟨h4,hn⟩|⟨h4,hn⟩
  .obtain ⟨w,hw,hn⟩:=c2j hn;exact⟨λ_=>⟨J,w,hw,by rw[hs,ho,n_9,hn];rfl⟩,λh=>absurd h4 h⟩
  .exact ⟨λh=>absurd h h4,λ_=>by rw[hs,ho,n_9,a9K.1 hn];rfl⟩
 .exact ⟨λh=>absurd h (k40 h3),λ_=>by rw[hs,b7l ho];rfl⟩
theorem b9V{n m:Nat}{at_:Int}{S:Option PX}{b:List Ex}(hS:S=some (i,m,b))(hi:(i:Int)=x)(hm:m<T.length)(hb:b.length<=256)(hn:n<m)(h1: -1<=x)(h2:x<=256):RXP T n 0 S ⟨x,m,at_,0,b⟩:=by
 subst hS hi;exact⟨.some,hm,hb,λ_=>hn,h1,h2⟩
theorem d6b{ps:List U}(hc:a0y T ps)(hB:∀g,g<=f->RTC T ps g)(d n:Nat)(at_:Int)(b:List Ex)(hn:n<T.length)(hb:b.length<=256)(bV:d<=32)(hf:8*(T.length -n)+6<=f+1+2):b8 CC 273 [.ptr 0 0,iv d] (rst T n at_ 0 ps b) (λr τ=>∃a:RX,D2 2 τ r (.ret (iv a.x)) (a69 T a.n a.at_ a.e ps a.b)/\RXP T n 0 ((A3 T ps (f+1)).bin 2 d n b) a):=by
 have hT:=hc.len;have hW:=hc.w;have ah:=e2F (T:=T) (ps:=ps) (f:=f) (d:=d) (n:=n) (lv:=2) (b:=b) G;refine qO Tryz.func273 ?_;refine qD (c5 J d1q i7 (hB f X d n at_ b hn hb bV X _ 0 1 ⟨J,J,G⟩) J ?_);rintro⟨x1,n1,a1,e1,b1⟩ ⟨k1,y1,w1,z1,l1,u1⟩;dsimp only at k1 y1 w1 z1 l1 u1⊢;refine qN [rbx T n1 a1 e1 ps b1 2,.dead,o9 e1 b1.length] J ?_;have eC:e1=0->8*(T.length -n1)+3<=f:=λh0=>by have:=z1 h0;omega
 have aE:=b1I (K:=λi m c=>(A3 T ps f).lp 2 d i m c) ah k1;refine A2 hCC 3 J (α:=RL) (λa=>[(0,.ptr 0 0),(1,iv d),(5,iv a.x)]) (λa=>[rbx T a.m a.at_ a.e ps a.b (kf a.ph),.dead,ot1 a.ph a.e a.b.length,ot2 a.ph a.e a.b.length]) (λa=>(a.e=0->∃i:Nat,(i:Int)=a.x/\(A3 T ps (f+1)).bin 2 d n b=(A3 T ps a.g).lp 2 d i a.m a.b/\n<a.m/\8*(T.length -a.m)+3<=a.g)/\(a.e≠0->(A3 T ps (f+1)).bin 2 d n b=none)/\a.m <T.length/\a.b.length<=256/\-1<=a.x/\a.x<=256/\a.g<=f) (λa=>if a.e=0 then T.length -a.m+1 else 0) ⟨⟨x1,n1,a1,e1,b1,false,f⟩,[0,1,2,7],⟨λh0=>(aE.1 h0).elim λi hi=>⟨i,hi.1,hi.2,z1 h0,eC h0⟩,aE.2,y1,w1,l1,u1,n_7 _⟩,⟨J,J⟩,ut_,uq_⟩ ?_;intro⟨x,m,a2,e,b2,ph,g⟩ ⟨hI,hN,hm,cy,bd,aM,hgf⟩;dsimp only at hI hN hm cy bd aM hgf⊢;refine qk (qC ?_ ?_)<;> intro h1
 .obtain rfl:e=0:=I h1;obtain⟨i,hi,hS,bN,hg⟩:=hI J;clear hI;obtain⟨g,rfl⟩:∃g',g=g'+1:=⟨g-1,X⟩;rw[lpS G]at hS;refine W e19 ?_;refine W a4M ?_;refine qD (c5 J a9u o8 (Y5 hT hm hW [43] (q:=0) (s:=kf ph) a1M) J ?_);rintro⟨iF,m10⟩ ⟨gG,iG,iH,iI⟩;dsimp only at gG iG iH iI⊢;refine qN [rbx T m10 a2 0 ps b2 (kf ph),.dead,ot1 ph 0 b2.length,ot2 ph 0 b2.length] Q5 ?_;refine qC ?_ ?_<;>intro h2
  .have ee:iF=true:=I h2;have hq:=(W5 (gG.symm.trans ee)).2;have bB:=iG ee;subst m10;have bn:opS (tk T m) (2:Nat)=1:=by
    show opS (tk T m) 2=1;rw[e0K,F hq]
   rw[D (by rw[bn];decide),bn]at hS;refine qD (c5 J d1q i7 (hB g X d (m+1) a2 b2 iI cy bV X _ 0 (kf ph) a1M) J ?_);rintro⟨x3,n3,a3,e3,b3⟩ ⟨k3,y3,w3,z3,l3,u3⟩;dsimp only at k3 y3 w3 z3 l3 u3⊢;refine qN [rbx T n3 a3 e3 ps b3 4,.dead,.dead,.dead,o9 e3 b3.length] Q5 ?_;refine b9o ?_;refine qD (c5 J a4Z D6 (O9 w3 ⟨4,0,1,[],[x,x3]⟩ _ ⟨J,J,G⟩) J ?_);rintro⟨x4,a4,e4,b4⟩ ⟨k4,w4,l4,u4⟩;dsimp only at k4 w4 l4 u4⊢;refine qN [rbx T n3 a4 e4 ps b4 5,.dead,.dead,.dead,.dead,o9 e4 b4.length] J ?_;have eC:e3=0->n<n3/\8*(T.length -n3)+3<=g:=λh0=>by have:=z3 h0;omega
   have bR:(if e4=0 then T.length -n3+1 else 0)< (if(0:Int)=0 then T.length -m+1 else 0):=by
    rw[F J]
    split
    .rename_i h0;have:=z3 (k4.alive h0).1;omega
    .omega
   have aE:=a3s (K:=λi m c=>(A3 T ps g).lp 2 d i m c) hS k3 (λj hj=>by rw[hi,hj];exact k4) k4.2;exact⟨⟨x4,n3,a4,e4,b4,true,g⟩,[0,1,2,5],⟨bR,λh0=>(aE.1 h0).2.elim λi hi=>⟨i,hi.1,hi.2,eC (aE.1 h0).1⟩,aE.2,y3,w4,l4,u4,Q⟩,⟨J,J⟩,ut_,⟨.inr ⟨_,J,.box ⟨.old a1u,.old (.val _),.old (.val _),.old (.val _),.old Z8,a0v J,.old a33,O⟩⟩,.inl J,.inl J,.inr ⟨_,J,.same J X0⟩,O⟩⟩
  .have ee:iF=false:=I h2;have bB:=iH ee;subst m10;refine qD (c5 J a9u o8 (Y5 hT hm hW [45] (q:=0) (s:=kf ph) a1M) J ?_);rintro⟨iJ,m11⟩ ⟨fM,iK,iL,iM⟩;dsimp only at fM iK iL iM⊢;refine qN [rbx T m11 a2 0 ps b2 (kf ph),.dead,ot1 ph 0 b2.length,ot2 ph 0 b2.length] Q5 ?_;refine qC ?_ ?_<;>intro h3
   .have dC:iJ=true:=I h3;have hq:=(W5 (fM.symm.trans dC)).2;have bB:=iK dC;subst m11;have bn:opS (tk T m) (2:Nat)=2:=by
     show opS (tk T m) 2=2;rw[e0K,D c0s,F hq]
    rw[D (by rw[bn];decide),bn]at hS;refine qD (c5 J d1q i7 (hB g X d (m+1) a2 b2 iM cy bV X _ 0 (kf ph) a1M) J ?_);rintro⟨x3,n3,a3,e3,b3⟩ ⟨k3,y3,w3,z3,l3,u3⟩;dsimp only at k3 y3 w3 z3 l3 u3⊢;refine qN [rbx T n3 a3 e3 ps b3 4,.dead,.dead,.dead,o9 e3 b3.length] Q5 ?_;refine b9o ?_;refine qD (c5 J a4Z D6 (O9 w3 ⟨4,0,2,[],[x,x3]⟩ _ ⟨J,J,G⟩) J ?_);rintro⟨x4,a4,e4,b4⟩ ⟨k4,w4,l4,u4⟩;dsimp only at k4 w4 l4 u4⊢;refine qN [rbx T n3 a4 e4 ps b4 5,.dead,.dead,.dead,.dead,o9 e4 b4.length] J ?_;have eC:e3=0->n<n3/\8*(T.length -n3)+3<=g:=λh0=>by have:=z3 h0;omega
    have bR:(if e4=0 then T.length -n3+1 else 0)< (if(0:Int)=0 then T.length -m+1 else 0):=by
     rw[F J]
     split
     .rename_i h0;have:=z3 (k4.alive h0).1;omega
     .omega
    have aE:=a3s (K:=λi m c=>(A3 T ps g).lp 2 d i m c) hS k3 (λj hj=>by rw[hi,hj];exact k4) k4.2;exact⟨⟨x4,n3,a4,e4,b4,true,g⟩,[0,1,2,5],⟨bR,λh0=>(aE.1 h0).2.elim λi hi=>⟨i,hi.1,hi.2,eC (aE.1 h0).1⟩,aE.2,y3,w4,l4,u4,Q⟩,⟨J,J⟩,ut_,⟨.inr ⟨_,J,.box ⟨.old a1u,.old (.val _),.old (.val _),.old (.val _),.old Z8,a0v J,.old a33,O⟩⟩,.inl J,.inl J,.inr ⟨_,J,.same J X0⟩,O⟩⟩
   .have dC:iJ=false:=I h3;have bB:=iL dC;subst m11;refine z_9 ?_;exact⟨_,rE1,(by exact⟨⟨x,m,a2,0,b2⟩,e1l,b9V (hS.trans (F (by show opS (tk T m) 2=0;rw[e0K,D c0s,D (by rw[T9 fM dC];decide)]))) hi hm cy bN bd aM⟩)⟩
 .have he:e≠0:=I h1;refine z_9 ?_;exact⟨_,rE1,e2s⟩
theorem d9L{ps:List U}(hc:a0y T ps)(Jj:∀g,g<f0->RTC T ps g):RSC T ps f0:=λd n at_ b hn hb hd hf σ q s ao=>by
 obtain⟨f,rfl⟩:∃f,f0=f+1:=⟨f0-1,X⟩;exact a2C (c:=λa:RX=>(iv a.x)) (N:=λa=>a.n) (A:=λa=>a.at_) (E:=λa=>a.e) (B:=λa=>a.b) (λ_ h=>by simp at h;subst h;exact .val _) (λ_=>.val _) (d6b hc (λg hg=>Jj g X) d n at_ b hn hb hd hf) ao
theorem d0f{ps:List U}(hc:a0y T ps)(hB:∀g,g<=f->RFC T ps g)(d n:Nat)(at_:Int)(b:List Ex)(hn:n<T.length)(hb:b.length<=256)(bV:d<=32)(hf:8*(T.length -n)+6<=f+2+3):b8 CC 300 [.ptr 0 0,iv d] (rst T n at_ 0 ps b) (λr τ=>∃a:RX,D2 2 τ r (.ret (iv a.x)) (a69 T a.n a.at_ a.e ps a.b)/\RXP T n 0 ((A3 T ps (f+2)).bin 3 d n b) a):=by
 have hT:=hc.len;have hW:=hc.w;have ah:=e2F (T:=T) (ps:=ps) (f:=f+1) (d:=d) (n:=n) (lv:=3) (b:=b) G;rw[e2B]at ah;refine qO Tryz.func300 ?_;refine qD (c5 J c4O i7 (hB f X d n at_ b hn hb bV X _ 0 1 ⟨J,J,G⟩) J ?_);rintro⟨x1,n1,a1,e1,b1⟩ ⟨k1,y1,w1,z1,l1,u1⟩;dsimp only at k1 y1 w1 z1 l1 u1⊢;refine qN [rbx T n1 a1 e1 ps b1 2,.dead,o9 e1 b1.length] J ?_;have eC:e1=0->8*(T.length -n1)+3<=(f+1):=λh0=>by have:=z1 h0;omega
 have aE:=b1I (K:=λi m c=>(A3 T ps (f+1)).lp 3 d i m c) ah k1;refine A2 hCC 3 J (α:=RL) (λa=>[(0,.ptr 0 0),(1,iv d),(5,iv a.x)]) (λa=>[rbx T a.m a.at_ a.e ps a.b (kf a.ph),.dead,ot1 a.ph a.e a.b.length,ot2 a.ph a.e a.b.length]) (λa=>(a.e=0->∃i:Nat,(i:Int)=a.x/\(A3 T ps (f+2)).bin 3 d n b=(A3 T ps a.g).lp 3 d i a.m a.b/\n<a.m/\8*(T.length -a.m)+3<=a.g)/\(a.e≠0->(A3 T ps (f+2)).bin 3 d n b=none)/\a.m <T.length/\a.b.length<=256/\-1<=a.x/\a.x<=256/\a.g<=f+1) (λa=>if a.e=0 then T.length -a.m+1 else 0) ⟨⟨x1,n1,a1,e1,b1,false,(f+1)⟩,[0,1,2,7],⟨λh0=>(aE.1 h0).elim λi hi=>⟨i,hi.1,hi.2,z1 h0,eC h0⟩,aE.2,y1,w1,l1,u1,n_7 _⟩,⟨J,J⟩,ut_,uq_⟩ ?_;intro⟨x,m,a2,e,b2,ph,g⟩ ⟨hI,hN,hm,cy,bd,aM,hgf⟩;dsimp only at hI hN hm cy bd aM hgf⊢;refine qk (qC ?_ ?_)<;> intro h1
 .obtain rfl:e=0:=I h1;obtain⟨i,hi,hS,bN,hg⟩:=hI J;clear hI;obtain⟨g,rfl⟩:∃g',g=g'+1:=⟨g-1,X⟩;rw[lpS G]at hS;obtain⟨g,rfl⟩:∃g',g=g'+1:=⟨g-1,X⟩;rw[e2B]at hS;refine W e19 ?_;refine W a4M ?_;refine qD (c5 J a9u o8 (Y5 hT hm hW [42] (q:=0) (s:=kf ph) a1M) J ?_);rintro⟨iF,m10⟩ ⟨gG,iG,iH,iI⟩;dsimp only at gG iG iH iI⊢;refine qN [rbx T m10 a2 0 ps b2 (kf ph),.dead,ot1 ph 0 b2.length,ot2 ph 0 b2.length] Q5 ?_;refine qC ?_ ?_<;>intro h2
  .have ee:iF=true:=I h2;have hq:=(W5 (gG.symm.trans ee)).2;have bB:=iG ee;subst m10;have bn:opS (tk T m) (3:Nat)=3:=by
    show opS (tk T m) 3=3;rw[op3,F hq]
   rw[D (by rw[bn];decide),bn]at hS;refine qD (c5 J c4O i7 (hB g X d (m+1) a2 b2 iI cy bV X _ 0 (kf ph) a1M) J ?_);rintro⟨x3,n3,a3,e3,b3⟩ ⟨k3,y3,w3,z3,l3,u3⟩;dsimp only at k3 y3 w3 z3 l3 u3⊢;refine qN [rbx T n3 a3 e3 ps b3 4,.dead,.dead,.dead,o9 e3 b3.length] Q5 ?_;refine b9o ?_;refine qD (c5 J a4Z D6 (O9 w3 ⟨4,0,3,[],[x,x3]⟩ _ ⟨J,J,G⟩) J ?_);rintro⟨x4,a4,e4,b4⟩ ⟨k4,w4,l4,u4⟩;dsimp only at k4 w4 l4 u4⊢;refine qN [rbx T n3 a4 e4 ps b4 5,.dead,.dead,.dead,.dead,o9 e4 b4.length] J ?_;have eC:e3=0->n<n3/\8*(T.length -n3)+3<=(g+1):=λh0=>by have:=z3 h0;omega
   have bR:(if e4=0 then T.length -n3+1 else 0)< (if(0:Int)=0 then T.length -m+1 else 0):=by
    rw[F J]
    split
    .rename_i h0;have:=z3 (k4.alive h0).1;omega
    .omega
   have aE:=a3s (K:=λi m c=>(A3 T ps (g+1)).lp 3 d i m c) hS k3 (λj hj=>by rw[hi,hj];exact k4) k4.2;exact⟨⟨x4,n3,a4,e4,b4,true,g+1⟩,[0,1,2,5],⟨bR,λh0=>(aE.1 h0).2.elim λi hi=>⟨i,hi.1,hi.2,eC (aE.1 h0).1⟩,aE.2,y3,w4,l4,u4,Q⟩,⟨J,J⟩,ut_,⟨.inr ⟨_,J,.box ⟨.old a1u,.old (.val _),.old (.val _),.old (.val _),.old Z8,a0v J,.old a33,O⟩⟩,.inl J,.inl J,.inr ⟨_,J,.same J X0⟩,O⟩⟩
  .have ee:iF=false:=I h2;have bB:=iH ee;subst m10;refine qD (c5 J a9u o8 (Y5 hT hm hW [47] (q:=0) (s:=kf ph) a1M) J ?_);rintro⟨iJ,m11⟩ ⟨fM,iK,iL,iM⟩;dsimp only at fM iK iL iM⊢;refine qN [rbx T m11 a2 0 ps b2 (kf ph),.dead,ot1 ph 0 b2.length,ot2 ph 0 b2.length] Q5 ?_;refine qC ?_ ?_<;>intro h3
   .have dC:iJ=true:=I h3;have hq:=(W5 (fM.symm.trans dC)).2;have bB:=iK dC;subst m11;have bn:opS (tk T m) (3:Nat)=4:=by
     show opS (tk T m) 3=4;rw[op3,D c0s,F hq]
    rw[D (by rw[bn];decide),bn]at hS;refine qD (c5 J c4O i7 (hB g X d (m+1) a2 b2 iM cy bV X _ 0 (kf ph) a1M) J ?_);rintro⟨x3,n3,a3,e3,b3⟩ ⟨k3,y3,w3,z3,l3,u3⟩;dsimp only at k3 y3 w3 z3 l3 u3⊢;refine qN [rbx T n3 a3 e3 ps b3 4,.dead,.dead,.dead,o9 e3 b3.length] Q5 ?_;refine b9o ?_;refine qD (c5 J a4Z D6 (O9 w3 ⟨4,0,4,[],[x,x3]⟩ _ ⟨J,J,G⟩) J ?_);rintro⟨x4,a4,e4,b4⟩ ⟨k4,w4,l4,u4⟩;dsimp only at k4 w4 l4 u4⊢;refine qN [rbx T n3 a4 e4 ps b4 5,.dead,.dead,.dead,.dead,o9 e4 b4.length] J ?_;have eC:e3=0->n<n3/\8*(T.length -n3)+3<=(g+1):=λh0=>by have:=z3 h0;omega
    have bR:(if e4=0 then T.length -n3+1 else 0)< (if(0:Int)=0 then T.length -m+1 else 0):=by
     rw[F J]
     split
     .rename_i h0;have:=z3 (k4.alive h0).1;omega
     .omega
    have aE:=a3s (K:=λi m c=>(A3 T ps (g+1)).lp 3 d i m c) hS k3 (λj hj=>by rw[hi,hj];exact k4) k4.2;exact⟨⟨x4,n3,a4,e4,b4,true,g+1⟩,[0,1,2,5],⟨bR,λh0=>(aE.1 h0).2.elim λi hi=>⟨i,hi.1,hi.2,eC (aE.1 h0).1⟩,aE.2,y3,w4,l4,u4,Q⟩,⟨J,J⟩,ut_,⟨.inr ⟨_,J,.box ⟨.old a1u,.old (.val _),.old (.val _),.old (.val _),.old Z8,a0v J,.old a33,O⟩⟩,.inl J,.inl J,.inr ⟨_,J,.same J X0⟩,O⟩⟩
   .have dC:iJ=false:=I h3;have bB:=iL dC;subst m11;refine qD (c5 J a9u o8 (Y5 hT hm hW [37] (q:=0) (s:=kf ph) a1M) J ?_);rintro⟨v12,m12⟩ ⟨hv12,hs12,hf12,hm12⟩;dsimp only at hv12 hs12 hf12 hm12⊢;refine qN [rbx T m12 a2 0 ps b2 (kf ph),.dead,ot1 ph 0 b2.length,ot2 ph 0 b2.length] Q5 ?_;refine qC ?_ ?_<;>intro h4
    .have iN:v12=true:=I h4;have hq:=(W5 (hv12.symm.trans iN)).2;have bB:=hs12 iN;subst m12;have bn:opS (tk T m) (3:Nat)=5:=by
      show opS (tk T m) 3=5;rw[op3,D c0s,D (by rw[T9 fM dC];decide),F hq]
     rw[D (by rw[bn];decide),bn]at hS;refine qD (c5 J c4O i7 (hB g X d (m+1) a2 b2 hm12 cy bV X _ 0 (kf ph) a1M) J ?_);rintro⟨x3,n3,a3,e3,b3⟩ ⟨k3,y3,w3,z3,l3,u3⟩;dsimp only at k3 y3 w3 z3 l3 u3⊢;refine qN [rbx T n3 a3 e3 ps b3 4,.dead,.dead,.dead,o9 e3 b3.length] Q5 ?_;refine b9o ?_;refine qD (c5 J a4Z D6 (O9 w3 ⟨4,0,5,[],[x,x3]⟩ _ ⟨J,J,G⟩) J ?_);rintro⟨x4,a4,e4,b4⟩ ⟨k4,w4,l4,u4⟩;dsimp only at k4 w4 l4 u4⊢;refine qN [rbx T n3 a4 e4 ps b4 5,.dead,.dead,.dead,.dead,o9 e4 b4.length] J ?_;have eC:e3=0->n<n3/\8*(T.length -n3)+3<=(g+1):=λh0=>by have:=z3 h0;omega
     have bR:(if e4=0 then T.length -n3+1 else 0)< (if(0:Int)=0 then T.length -m+1 else 0):=by
      rw[F J]
      split
      .rename_i h0;have:=z3 (k4.alive h0).1;omega
      .omega
     have aE:=a3s (K:=λi m c=>(A3 T ps (g+1)).lp 3 d i m c) hS k3 (λj hj=>by rw[hi,hj];exact k4) k4.2;exact⟨⟨x4,n3,a4,e4,b4,true,g+1⟩,[0,1,2,5],⟨bR,λh0=>(aE.1 h0).2.elim λi hi=>⟨i,hi.1,hi.2,eC (aE.1 h0).1⟩,aE.2,y3,w4,l4,u4,Q⟩,⟨J,J⟩,ut_,⟨.inr ⟨_,J,.box ⟨.old a1u,.old (.val _),.old (.val _),.old (.val _),.old Z8,a0v J,.old a33,O⟩⟩,.inl J,.inl J,.inr ⟨_,J,.same J X0⟩,O⟩⟩
    .have iN:v12=false:=I h4;have bB:=hf12 iN;subst m12;refine z_9 ?_;exact⟨_,rE1,(by exact⟨⟨x,m,a2,0,b2⟩,e1l,b9V (hS.trans (F (by show opS (tk T m) 3=0;rw[op3,D c0s,D (by rw[T9 fM dC];decide),D (by rw[T9 hv12 iN];decide)]))) hi hm cy bN bd aM⟩)⟩
 .have he:e≠0:=I h1;refine z_9 ?_;exact⟨_,rE1,e2s⟩
theorem d5Q{ps:List U}(hc:a0y T ps)(Jj:∀g,g<f0->RFC T ps g):RTC T ps f0:=λd n at_ b hn hb hd hf σ q s ao=>by
 obtain⟨f,rfl⟩:∃f,f0=f+2:=⟨f0-2,X⟩;exact a2C (c:=λa:RX=>(iv a.x)) (N:=λa=>a.n) (A:=λa=>a.at_) (E:=λa=>a.e) (B:=λa=>a.b) (λ_ h=>by simp at h;subst h;exact .val _) (λ_=>.val _) (d0f hc (λg hg=>Jj g X) d n at_ b hn hb hd hf) ao
theorem S4{k:Int}{s:U}(h:isT t k s=true):t.k=k/\t.t=s:=by simpa[isT]using h
theorem b1U{ps:List U}{d n:Nat}{b:List Ex}:(A3 T ps (f+1)).fac d n b=(G9 T ps (A3 T ps f)).fac d n b:=J
theorem d4P{ps:List U}{d n:Nat}{b:List Ex}(h:(tk T n).k=2):(A3 T ps (f+1)).fac d n b=N8 b ⟨1,(tk T n).n,0,[],[]⟩ (n+1):=by
 rw[b1U];simp only[G9];rw[F h]
theorem d4Y{ps:List U}{d n:Nat}{b:List Ex}(h:isT (tk T n) 4 [45]=true):(A3 T ps (f+1)).fac d n b=(G6 T (n+1) 2).bind λy=>N8 b ⟨1,-y.1.n,0,[],[]⟩ y.2:=by
 rw[b1U];simp only[G9];rw[D (by rw[(S4 h).1];decide),F h]
theorem d6r{ps:List U}{d n:Nat}{b:List Ex}(h:isT (tk T n) 4 [40]=true):(A3 T ps (f+1)).fac d n b=((A3 T ps f).ex (d+1) (n+1) b).bind λx=>(pIs T x.2.1 4 [41]).bind λm=>some (x.1,m,x.2.2):=by
 rw[b1U];simp only[G9];rw[D (by rw[(S4 h).1];decide),D (by simp[isT,(S4 h).2]),F h]
theorem a6f{ps:List U}{d n:Nat}{b:List Ex}(h:isT (tk T n) 1 u=true)(hu:u=[114,101,97,100]\/u=[115,105,122,101]\/u=[104,97,115]\/u=[101,110,118]\/u=[102,108,105,112]):(A3 T ps (f+1)).fac d n b=Z4 T (A3 T ps f) u d (n+1) b:=by
 obtain⟨hk,ht⟩:=S4 h;rw[b1U];simp only[G9];rw[D (by rw[hk];decide),D (by simp[isT,hk]),D (by simp[isT,hk]),D (by simp[hk]),ht,F hu]
theorem a5B{k:Int}{s:U}(h:isT t k s=false)(hk:t.k=k):¬t.t=s:=by
 intro e;simp[isT,hk,e]at h
theorem c8d{ps:List U}{d n:Nat}{b:List Ex}(h1:¬(tk T n).k=2)(h2:isT (tk T n) 4 [45]=false)(h3:isT (tk T n) 4 [40]=false)(h4:isT (tk T n) 1 [114,101,97,100]=false)(h5:isT (tk T n) 1 [115,105,122,101]=false)(h6:isT (tk T n) 1 [104,97,115]=false)(h7:isT (tk T n) 1 [101,110,118]=false)(h8:isT (tk T n) 1 [102,108,105,112]=false):
 (A3 T ps (f+1)).fac d n b=(K8 T n).bind λs=>if isT (tk T s.2) 4 [40]=true then(a2Y T (A3 T ps f) d s.2 b).bind λa=>N8 a.2.2 ⟨3,0,0,s.1.t,a.1⟩ a.2.1 else if ixS ps s.1.t 0<0 then none else N8 b ⟨2,ixS ps s.1.t 0,0,[],[]⟩ s.2:=by
 rw[b1U];simp only[G9];rw[D h1,D (by rw[h2];decide),D (by rw[h3];decide)];by_cases hk:(tk T n).k=1
 .rw [D (λh=>h hk),D (by
   rintro(h|h|h|h|h)
   .exact a5B h4 hk h
   .exact a5B h5 hk h
   .exact a5B h6 hk h
   .exact a5B h7 hk h
   .exact a5B h8 hk h)]
  by_cases hr:S7 (tk T n).t=true
  .rw [F hr];simp[K8,G6,hk,hr]
  .rw [D hr];simp[K8,G6,hk,hr]
 .rw [F hk];simp[K8,G6,hk]
theorem d4i{d n:Nat}{b:List Ex}:Z4 T Jh [114,101,97,100] d n b=(pIs T n 4 [40]).bind λn1=>(a1N T true n1).bind λs=>(pIs T s.2 4 [44]).bind λn2=>(Jh.ex (d+1) n2 b).bind λx=>(pIs T x.2.1 4 [41]).bind λm=>N8 x.2.2 ⟨6,0,0,s.1.t,[(x.1:Int)]⟩ m:=by
 simp only[a4z];rfl
theorem d6a{d n:Nat}{b:List Ex}:Z4 T Jh [115,105,122,101] d n b=(pIs T n 4 [40]).bind λn1=>(a1N T true n1).bind λs=>(pIs T s.2 4 [41]).bind λm=>N8 b ⟨7,0,0,s.1.t,[]⟩ m:=by
 simp only[a4z];rfl
theorem d9n{d n:Nat}{b:List Ex}:Z4 T Jh [104,97,115] d n b=(pIs T n 4 [40]).bind λn1=>(a1N T true n1).bind λs=>(pIs T s.2 4 [41]).bind λm=>N8 b ⟨8,0,0,s.1.t,[]⟩ m:=by
 simp only[a4z];rfl
theorem e0Q{d n:Nat}{b:List Ex}:Z4 T Jh [101,110,118] d n b=(pIs T n 4 [40]).bind λn1=>(a1N T false n1).bind λs=>(pIs T s.2 4 [41]).bind λm=>N8 b ⟨9,0,0,s.1.t,[]⟩ m:=by
 have e:Z4 T Jh [101,110,118] d n b=(pIs T n 4 [40]).bind λn1=>(G6 T n1 3).bind λs=>if C4 s.1.t=true then(pIs T s.2 4 [41]).bind λm=>N8 b ⟨9,0,0,s.1.t,[]⟩ m else none:=J
 rw[e];refine n_8 _ (funext λn1=>?_);unfold a1N;cases G6 T n1 3 with
 |none=>rfl
 |some s=>
  simp only[n_9];by_cases h:C4 s.1.t=true
  .simp [h]
  .simp [h]
theorem c37{d n:Nat}{b:List Ex}:Z4 T Jh [102,108,105,112] d n b=(pIs T n 4 [40]).bind λn1=>(G6 T n1 2).bind λs=>if 64<=s.1.n then none else(pIs T s.2 4 [41]).bind λm=>N8 b ⟨10,s.1.n,0,[],[]⟩ m:=J
theorem M3{n:Nat}{k e:Int}(q:Ok e (pIs T n k u) e' n')(h:e'=0):e=0/\n'=n+1:=⟨(q.alive h).1,R2 (q.alive h).2⟩
theorem b2y{n:Nat}{k:Int}{x:Tok×Nat}(hk:k≠5)(h:G6 T n k=some x):x=(tk T n,n+1)/\(tk T n).k=k:=by
 unfold G6 at h;by_cases h1:(tk T n).k=k
 .rw [F h1,D hk]at h;injection h with h
  exact⟨h.symm,h1⟩
 .rw [D h1]at h;cases h
theorem d1c{n:Nat}{e:Int}(q:Ok e ((G6 T n 2).map λx=>(x.1.n,x.2)) e' (x,n'))(h:e'=0):e=0/\n'=n+1:=by
 obtain⟨h1,h2⟩:=q.alive h;obtain⟨p,hp,hg⟩:=P2.1 h2;obtain⟨rfl,_⟩:=b2y G hp;injection hg with _ hg
 exact⟨h1,hg.symm⟩
theorem d9l{n:Nat}(q:Ok 0 ((G6 T n 2).map λx=>(x.1.n,x.2)) e' (x,n'))(hk:(tk T n).k=2):e'=0/\x=(tk T n).n/\n'=n+1:=by
 have hp:G6 T n 2=some (tk T n,n+1):=by
  unfold G6;rw[F hk,D G]
 rw[hp]at q
 rcases q.zero with⟨h1,h2⟩|⟨_,h2⟩
 .injection h2 with h2
  injection h2 with h3 h4
  exact⟨h1,h3.symm,h4.symm⟩
 .cases h2
theorem a75{n:Nat}{e:Int}{p:Bool}{x:U}(q:Ok e ((a1N T p n).map λx=>(x.1.t,x.2)) e' (x,n'))(h:e'=0):e=0/\n'=n+1:=by
 obtain⟨h1,h2⟩:=q.alive h;obtain⟨t,hp,hg⟩:=P2.1 h2;obtain⟨y,hy,hz⟩:=c45.1 hp;obtain⟨rfl,_⟩:=b2y G hy;by_cases hc:(if p=true then I1 (tk T n).t else C4 (tk T n).t)=true
 .rw [F hc]at hz;injection hz with hz
  subst hz;injection hg with _ hg
  exact⟨h1,hg.symm⟩
 .rw [D hc]at hz;cases hz
theorem b1k{n:Nat}{e:Int}{x:U}(q:Ok e ((K8 T n).map λx=>(x.1.t,x.2)) e' (x,n'))(h:e'=0):e=0/\n'=n+1/\x=(tk T n).t/\K8 T n=some (tk T n,n+1):=by
 obtain⟨h1,h2⟩:=q.alive h;obtain⟨t,hp,hg⟩:=P2.1 h2;obtain⟨y,hy,hz⟩:=c45.1 hp;obtain⟨rfl,_⟩:=b2y G hy;by_cases hc:S7 (tk T n).t=true
 .rw [F hc]at hz;cases hz
 .rw [D hc]at hz;injection hz with hz
  subst hz;injection hg with eB hg
  exact⟨h1,hg.symm,eB.symm,hp⟩
def a5p(T:List Tok)(ps:List U)(d g m:Nat)(b:List Ex)(l:List Int):Option (List Int×Nat×List Ex):=
 if l=[]then(if isT (tk T m) 4 [41]=true then some ([],m+1,b)else(A3 T ps g).ag d m b [])
 else if isT (tk T m) 4 [44]=true then(A3 T ps g).ag d (m+1) b l else(pIs T m 4 [41]).bind λm'=>some (l,m',b)
theorem c64{ps:List U}{d n:Nat}{b:List Ex}(h:isT (tk T n) 4 [40]=true):a2Y T (A3 T ps f) d n b=a5p T ps d f (n+1) b []:=by
 unfold a2Y pIs a5p;rw[F h,n_9,F J]
theorem c6t{ps:List U}{d g m:Nat}{b:List Ex}{l:List Int}(h:isT (tk T m) 4 [41]=true):a5p T ps d g m b l=some (l,m+1,b):=by
 unfold a5p;by_cases hl:l=[]
 .rw [F hl,F h,hl]
 .rw [D hl,D (by simp[isT,(S4 h).2]),pIs,F h];rfl
theorem c1e{ps:List U}{d g m:Nat}{b:List Ex}{l:List Int}(h:isT (tk T m) 4 [41]=false)(hl:l≠[]):a5p T ps d g m b l=(pIs T m 4 [44]).bind λm'=>(A3 T ps g).ag d m' b l:=by
 unfold a5p;rw[D hl];unfold pIs;by_cases h4:isT (tk T m) 4 [44]=true
 .rw [F h4,F h4];rfl
 .rw [D h4,D h4,D (by rw[h];decide)];rfl
theorem c0A{ps:List U}{d g m:Nat}{b:List Ex}(h:isT (tk T m) 4 [41]=false):a5p T ps d g m b []=(some m).bind λm'=>(A3 T ps g).ag d m' b []:=by
 unfold a5p;rw[F J,D (by rw[h];decide)];rfl
theorem agS{ps:List U}{g d n:Nat}{b:List Ex}{l:List Int}:(A3 T ps (g+1)).ag d n b l=((A3 T ps g).ex (d+1) n b).bind λx=>a5p T ps d g x.2.1 x.2.2 (l++[(x.1:Int)]):=by
 show((A3 T ps g).ex (d+1) n b).bind _=_;refine n_8 _ (funext λx=>?_);unfold a5p;exact(D H).symm
theorem c0t{S:Option PX}{o:Option Nat}{Jc:Nat->Option PX}{R:PX->Option (List Int×Nat×List Ex)}{P:List Int×Nat×List Ex->Option PX}{x3:Int}{b3:List Ex}(hs:S=(o.bind λm=>(Jc m).bind R).bind P)(q:Ok 0 o e2 n2)(k:Ok e2 ((Jc n2).map cx) e3 (x3,n3,b3)):
 (e3=0->e2=0/\∃j:Nat,(j:Int)=x3/\S=(R (j,n3,b3)).bind P)/\(e3≠0->S=none):=by
 rcases q.zero with⟨h2,ho⟩|⟨h2,ho⟩
 .subst h2
  rcases k.zero with⟨h3,hX⟩|⟨h3,hX⟩
  .obtain ⟨j,hj,hX⟩:=b5W hX;exact⟨λ_=>⟨J,j,hj,by rw[hs,ho,n_9,hX];rfl⟩,λh=>absurd h3 h⟩
  .exact ⟨λh=>absurd h h3,λ_=>by rw[hs,ho,n_9,b7l hX];rfl⟩
 .exact ⟨λh=>absurd h (k.2 h2),λ_=>by rw[hs,ho];rfl⟩
structure RG where
 l:List Int
 m:Nat
 at_:Int
 e:Int
 b:List Ex
 ph:Bool
 g:Nat
variable{g:Nat}
def kg5(ph:Bool):Nat:=if ph=true then 4 else 1
theorem c2J{ps:List U}(hc:a0y T ps)(hE:∀g,g<=f->REC T ps g)(d n:Nat)(at_:Int)(b:List Ex)(hn:n<T.length)(hb:b.length<=256)(bV:d<=32)(hf:8*(T.length -n)+1<=f+1):b8 CC 316 [.ptr 0 0,iv d] (rst T n at_ 0 ps b) (λr τ=>∃a:RX,D2 2 τ r (.ret (iv a.x)) (a69 T a.n a.at_ a.e ps a.b)/\RXP T n 0 ((A3 T ps (f+1)).fac d n b) a):=by
 have hT:=hc.len;have hW:=hc.w;refine qO Tryz.func316 ?_;refine W c0G ?_;refine z_1 ?_;refine cC ?_ ?_<;>intro h1
 .simp at h1
 .refine qk (qC ?_ ?_)<;> intro h2
  .have hk:(tk T n).k=2:=I h2;refine qD (c5 J d0r ⟨O,O⟩ (a83 hT hn hW hc.nn ⟨J,J,G⟩) J ?_);rintro⟨x1,n1,a1,e1⟩ ⟨q1,y1,l1,u1⟩;dsimp only at q1 y1 l1 u1⊢;refine qN [rbx T n1 a1 e1 ps b 1,o9 e1 b.length,.box (tk T n).cells] J ?_;obtain⟨rfl,rfl,rfl⟩:=d9l q1 hk;refine W b1m ?_;refine qD (c5 J a4Z D6 (O9 hb ⟨1,(tk T n).n,0,[],[]⟩ _ ⟨J,J,G⟩) J ?_);rintro⟨x6,a6,e6,b6⟩ ⟨k6,w6,l6,u6⟩;dsimp only at k6 w6 l6 u6⊢;refine qN [rbx T (n+1) a6 e6 ps b6 3,.dead,.box (tk T n).cells,o9 e6 b6.length] J ?_;refine c6 ?_;exact⟨_,rE1,(by exact⟨⟨x6,n+1,a6,e6,b6⟩,W2 (k:=3) J J G (.val _),⟨by rw[d4P hk];exact a2u k6,Q,w6,λh0=>by dsimp only;omega,l6,u6⟩⟩)⟩
  .have hk:¬(tk T n).k=2:=I h2;refine qD (c5 J a9u o8 (Y5 hT hn hW [45] ⟨J,J,G⟩) J ?_);rintro⟨v1,m1⟩ ⟨eu,bz,dF,bZ⟩;dsimp only at eu bz dF bZ⊢;refine qN [rbx T m1 at_ 0 ps b 1,o9 0 b.length,.box (tk T n).cells] J (qC ?_ ?_)<;> intro h3
   .have eP:v1=true:=I h3;have hq:=(W5 (eu.symm.trans eP)).2;have bB:=bz eP;subst m1;refine qD (c5 J d0r ⟨O,O⟩ (a83 hT bZ hW hc.nn ⟨J,J,G⟩) J ?_);rintro⟨x2,n2,a2,e2⟩ ⟨q2,y2,l2,u2⟩;dsimp only at q2 y2 l2 u2⊢;refine qN [rbx T n2 a2 e2 ps b 1,o9 e2 b.length,.box (tk T n).cells] J ?_;have ew: -x2=IntKind.i64.wrap (0-x2):=by rw[b0W X X];omega
    refine W (c8Z J O J) ?_;refine W b1m ?_;refine qD (c5 J a4Z D6 (O9 hb ⟨1,IntKind.i64.wrap (0-x2),0,[],[]⟩ _ ⟨J,J,G⟩) J ?_);rintro⟨x6,a6,e6,b6⟩ ⟨k6,w6,l6,u6⟩;dsimp only at k6 w6 l6 u6⊢;refine qN [rbx T n2 a6 e6 ps b6 3,.dead,.box (tk T n).cells,o9 e6 b6.length] J ?_;refine c6 ?_;exact⟨_,rE1,(by exact⟨⟨x6,n2,a6,e6,b6⟩,W2 (k:=3) J J G (.val _),⟨by rw[d4Y hq];exact q2.bindI (λt ht=>a2u (by rw[ht,ew];exact k6)) k6.2,Q,w6,λh0=>by have:=(d1c q2 (k6.alive h0).1).2;dsimp only;omega,l6,u6⟩⟩)⟩
   .have eP:v1=false:=I h3;have eB:=T9 eu eP;have bB:=dF eP;subst m1;refine qD (c5 J a9u o8 (Y5 hT hn hW [40] ⟨J,J,G⟩) J ?_);rintro⟨v2,m2⟩ ⟨cE,dT,gT,ce⟩;dsimp only at cE dT gT ce⊢;refine qN [rbx T m2 at_ 0 ps b 1,o9 0 b.length,.box (tk T n).cells] J (qC ?_ ?_)<;> intro h4
    .have db:v2=true:=I h4;have hq:=(W5 (cE.symm.trans db)).2;have bB:=dT db;subst m2;refine W j9 ?_;refine qD (c5 J b7V i7 (hE f (n_7 _) (d+1) (n+1) at_ 0 b ce hb X (λ_=>by omega) _ 0 1 ⟨J,J,G⟩) J ?_);rintro⟨x3,n3,a3,e3,b3⟩ ⟨k3,y3,w3,z3,l3,u3⟩;dsimp only at k3 y3 w3 z3 l3 u3⊢;refine qN [rbx T n3 a3 e3 ps b3 3,.dead,.box (tk T n).cells,o9 e3 b3.length] J (qD (c5 J a41 o8 (O8 hT y3 hW [41] ⟨J,J,G⟩) J ?_));rintro⟨n4,a4,e4⟩ ⟨q4,y4⟩;dsimp only at q4 y4⊢;refine qN [rbx T n4 a4 e4 ps b3 3,.dead,.box (tk T n).cells,o9 e4 b3.length] J ?_;refine c6 ?_;exact⟨_,rE1,(by exact⟨⟨x3,n4,a4,e4,b3⟩,W2 (k:=3) J J G (.val _),⟨by rw[d6r hq];exact k3.bindX (λi hi=>q4.bindP (by rw[<- hi];exact .some)) q4.2,y4,w3,λh0=>by have g:=M3 q4 h0;have:=z3 g.1;dsimp only;omega,l3,u3⟩⟩)⟩
    .have db:v2=false:=I h4;have dZ:=T9 cE db;have bB:=gT db;subst m2;refine qD (c5 J b0Y o8 (a0k hT hn hW [114,101,97,100] ⟨J,J,G⟩) J ?_);rintro⟨v3,m3⟩ ⟨hv3,fT,hf3,gh⟩;dsimp only at hv3 fT hf3 gh⊢;refine qN [rbx T m3 at_ 0 ps b 1,o9 0 b.length,.box (tk T n).cells] J (qC ?_ ?_)<;> intro h5
     .have fU:v3=true:=I h5;have hq:=(W5 (hv3.symm.trans fU)).2;have bB:=fT fU;subst m3;refine qD (c5 J a41 o8 (O8 hT gh hW [40] ⟨J,J,G⟩) J ?_);rintro⟨n1,a1,e1⟩ ⟨q1,y1⟩;dsimp only at q1 y1⊢;refine qN [rbx T n1 a1 e1 ps b 1,o9 e1 b.length,.box (tk T n).cells] J (qD (c5 J c50 o8 (b1j hT y1 hW true hc.l ⟨J,J,G⟩) J ?_));rintro⟨s2,n2,a2,e2⟩ ⟨q2,y2⟩;dsimp only at q2 y2⊢;refine qN [rbx T n2 a2 e2 ps b 1,o9 e2 b.length,.box (tk T n).cells] J (qD (c5 J a41 o8 (O8 hT y2 hW [44] ⟨J,J,G⟩) J ?_));rintro⟨n3,a3,e3⟩ ⟨q3,y3⟩;dsimp only at q3 y3⊢;refine qN [rbx T n3 a3 e3 ps b 1,o9 e3 b.length,.box (tk T n).cells] J (W j9 ?_);refine qD (c5 J b7V i7 (hE f (n_7 _) (d+1) n3 a3 e3 b y3 hb X (λh0=>by have g:=M3 q3 h0;have g':=a75 q2 g.1;have:=M3 q1 g'.1;omega) _ 0 1 ⟨J,J,G⟩) J ?_);rintro⟨x4,n4,a4,e4,b4⟩ ⟨k4,y4,w4,z4,l4,u4⟩;dsimp only at k4 y4 w4 z4 l4 u4⊢;refine qN [rbx T n4 a4 e4 ps b4 3,.dead,.box (tk T n).cells,o9 e4 b4.length] J (qD (c5 J a41 o8 (O8 hT y4 hW [41] ⟨J,J,G⟩) J ?_));rintro⟨n5,a5,e5⟩ ⟨q5,y5⟩;dsimp only at q5 y5⊢;refine qN [rbx T n5 a5 e5 ps b4 3,.dead,.box (tk T n).cells,o9 e5 b4.length] J (W (B1 ([x4].map icv) J ⟨O,O⟩ t_6 t_1 t_8 J J J J J J J J J) ?_);refine W c7T ?_;refine qD (c5 J a4Z D6 (O9 w4 ⟨6,0,0,s2,[x4]⟩ _ ⟨J,J,G⟩) J ?_);rintro⟨x6,a6,e6,b6⟩ ⟨k6,w6,l6,u6⟩;dsimp only at k6 w6 l6 u6⊢;refine qN [rbx T n5 a6 e6 ps b6 4,.dead,.box (tk T n).cells,.dead,o9 e6 b6.length] J ?_;refine c6 ?_;exact⟨_,rE1,(by exact⟨⟨x6,n5,a6,e6,b6⟩,W2 (k:=4) J J G (.val _),⟨by rw[a6f hq G,d4i];exact q1.bindP (q2.bindT (λt ht=>q3.bindP (k4.bindX (λi hi=>q5.bindP (a2u (by rw[ht,hi];exact k6))) λh=>k6.2 (q5.2 h))) λh=>k6.2 (q5.2 (k4.2 (q3.2 h)))),Q,w6,λh0=>by have g5:=M3 q5 (k6.alive h0).1;have:=z4 g5.1;have g3:=M3 q3 (k4.alive g5.1).1;have g2:=a75 q2 g3.1;have:=M3 q1 g2.1;dsimp only;omega,l6,u6⟩⟩)⟩
     .have fU:v3=false:=I h5;have hg3:=T9 hv3 fU;have bB:=hf3 fU;subst m3;refine qD (c5 J b0Y o8 (a0k hT hn hW [115,105,122,101] ⟨J,J,G⟩) J ?_);rintro⟨v4,m4⟩ ⟨hv4,hs4,hf4,hm4⟩;dsimp only at hv4 hs4 hf4 hm4⊢;refine qN [rbx T m4 at_ 0 ps b 1,o9 0 b.length,.box (tk T n).cells] J (qC ?_ ?_)<;> intro h6
      .have gU:v4=true:=I h6;have hq:=(W5 (hv4.symm.trans gU)).2;have bB:=hs4 gU;subst m4;have hw:=(S4 hq).2;refine qC ?_ ?_<;>intro h7
       .refine W Q7 ?_;refine qC ?_ ?_<;>intro h8
        .simp [hw]at h8
        .refine W Q7 ?_;refine qC ?_ ?_<;>intro h9
         .simp [hw]at h9
         .refine qD (c5 J a41 o8 (O8 hT hm4 hW [40] ⟨J,J,G⟩) J ?_);rintro⟨n1,a1,e1⟩ ⟨q1,y1⟩;dsimp only at q1 y1⊢;refine d8z ?_;rintro⟨s2,n2,a2,e2⟩ ⟨q2,y2⟩;dsimp only at q2 y2⊢;refine e0M ?_;rintro⟨n3,a3,e3⟩ ⟨q3,y3⟩;dsimp only at q3 y3⊢;refine d3b ?_;refine qD (c5 J a4Z D6 (O9 hb ⟨7,0,0,s2,[]⟩ _ ⟨J,J,G⟩) J ?_);rintro⟨x6,a6,e6,b6⟩ ⟨k6,w6,l6,u6⟩;dsimp only at k6 w6 l6 u6⊢;refine d6B ?_;exact⟨_,rE1,(by exact⟨⟨x6,n3,a6,e6,b6⟩,W2 (k:=3) J J G (.val _),⟨by rw[a6f hq G,d6a];exact q1.bindP (q2.bindT (λt ht=>q3.bindP (a2u (by rw[ht];exact k6))) λh=>k6.2 (q3.2 h)),Q,w6,λh0=>by have g3:=M3 q3 (k6.alive h0).1;have g2:=a75 q2 g3.1;have:=M3 q1 g2.1;dsimp only;omega,l6,u6⟩⟩)⟩
       .rw [gU]at h7;cases h7
      .have gU:v4=false:=I h6;have hg4:=T9 hv4 gU;have bB:=hf4 gU;subst m4;refine qD (c5 J b0Y o8 (a0k hT hn hW [104,97,115] ⟨J,J,G⟩) J ?_);rintro⟨v5,m5⟩ ⟨hv5,hs5,hf5,hm5⟩;dsimp only at hv5 hs5 hf5 hm5⊢;refine qN [rbx T m5 at_ 0 ps b 1,o9 0 b.length,.box (tk T n).cells] J (qC ?_ ?_)<;> intro h19
       .have hi5:v5=true:=I h19;have hq:=(W5 (hv5.symm.trans hi5)).2;have bB:=hs5 hi5;subst m5;have hw:=(S4 hq).2;refine qC ?_ ?_<;>intro h20
        .refine W Q7 ?_;refine qC ?_ ?_<;>intro h21
         .refine qD (c5 J a41 o8 (O8 hT hm5 hW [40] ⟨J,J,G⟩) J ?_);rintro⟨n1,a1,e1⟩ ⟨q1,y1⟩;dsimp only at q1 y1⊢;refine d8z ?_;rintro⟨s2,n2,a2,e2⟩ ⟨q2,y2⟩;dsimp only at q2 y2⊢;refine e0M ?_;rintro⟨n3,a3,e3⟩ ⟨q3,y3⟩;dsimp only at q3 y3⊢;refine d3b ?_;refine qD (c5 J a4Z D6 (O9 hb ⟨8,0,0,s2,[]⟩ _ ⟨J,J,G⟩) J ?_);rintro⟨x6,a6,e6,b6⟩ ⟨k6,w6,l6,u6⟩;dsimp only at k6 w6 l6 u6⊢;refine d6B ?_;exact⟨_,rE1,(by exact⟨⟨x6,n3,a6,e6,b6⟩,W2 (k:=3) J J G (.val _),⟨by rw[a6f hq G,d9n];exact q1.bindP (q2.bindT (λt ht=>q3.bindP (a2u (by rw[ht];exact k6))) λh=>k6.2 (q3.2 h)),Q,w6,λh0=>by have g3:=M3 q3 (k6.alive h0).1;have g2:=a75 q2 g3.1;have:=M3 q1 g2.1;dsimp only;omega,l6,u6⟩⟩)⟩
         .simp [hw]at h21
        .rw [hi5]at h20;cases h20
       .have hi5:v5=false:=I h19;have hg5:=T9 hv5 hi5;have bB:=hf5 hi5;subst m5;refine qD (c5 J b0Y o8 (a0k hT hn hW [101,110,118] ⟨J,J,G⟩) J ?_);rintro⟨v6,m6⟩ ⟨hv6,hs6,hf6,hm6⟩;dsimp only at hv6 hs6 hf6 hm6⊢;refine qN [rbx T m6 at_ 0 ps b 1,o9 0 b.length,.box (tk T n).cells] J (qC ?_ ?_)<;> intro h32
        .have hi6:v6=true:=I h32;have hq:=(W5 (hv6.symm.trans hi6)).2;have bB:=hs6 hi6;subst m6;have hw:=(S4 hq).2;refine W Q7 ?_;refine qC ?_ ?_<;>intro h33
         .simp [hw]at h33
         .refine W Q7 ?_;refine qC ?_ ?_<;>intro h34
          .refine qD (c5 J a41 o8 (O8 hT hm6 hW [40] ⟨J,J,G⟩) J ?_);rintro⟨n1,a1,e1⟩ ⟨q1,y1⟩;dsimp only at q1 y1⊢;refine qN [rbx T n1 a1 e1 ps b 1,o9 e1 b.length,.box (tk T n).cells] J (qD (c5 J c50 i7 (b1j hT y1 hW false hc.l ⟨J,J,G⟩) J ?_));rintro⟨s2,n2,a2,e2⟩ ⟨q2,y2⟩;dsimp only at q2 y2⊢;refine e0M ?_;rintro⟨n3,a3,e3⟩ ⟨q3,y3⟩;dsimp only at q3 y3⊢;refine d3b ?_;refine qD (c5 J a4Z D6 (O9 hb ⟨9,0,0,s2,[]⟩ _ ⟨J,J,G⟩) J ?_);rintro⟨x6,a6,e6,b6⟩ ⟨k6,w6,l6,u6⟩;dsimp only at k6 w6 l6 u6⊢;refine d6B ?_;exact⟨_,rE1,(by exact⟨⟨x6,n3,a6,e6,b6⟩,W2 (k:=3) J J G (.val _),⟨by rw[a6f hq G,e0Q];exact q1.bindP (q2.bindT (λt ht=>q3.bindP (a2u (by rw[ht];exact k6))) λh=>k6.2 (q3.2 h)),Q,w6,λh0=>by have g3:=M3 q3 (k6.alive h0).1;have g2:=a75 q2 g3.1;have:=M3 q1 g2.1;dsimp only;omega,l6,u6⟩⟩)⟩
          .simp [hw]at h34
        .have hi6:v6=false:=I h32;have hg6:=T9 hv6 hi6;have bB:=hf6 hi6;subst m6;refine qD (c5 J b0Y o8 (a0k hT hn hW [102,108,105,112] ⟨J,J,G⟩) J ?_);rintro⟨v7,m7⟩ ⟨hv7,hs7,hf7,hm7⟩;dsimp only at hv7 hs7 hf7 hm7⊢;refine qN [rbx T m7 at_ 0 ps b 1,o9 0 b.length,.box (tk T n).cells] J (qC ?_ ?_)<;> intro h35
         .have hi7:v7=true:=I h35;have hq:=(W5 (hv7.symm.trans hi7)).2;have bB:=hs7 hi7;subst m7;refine qD (c5 J a41 o8 (O8 hT hm7 hW [40] ⟨J,J,G⟩) J ?_);rintro⟨n1,a1,e1⟩ ⟨q1,y1⟩;dsimp only at q1 y1⊢;refine qN [rbx T n1 a1 e1 ps b 1,o9 e1 b.length,.box (tk T n).cells] J ?_;refine d7D ?_;refine qD (c5 J d0r ⟨O,O⟩ (a83 hT y1 hW hc.nn ⟨J,J,G⟩) J ?_);rintro⟨x2,n2,a2,e2⟩ ⟨q2,y2,l2,u2⟩;dsimp only at q2 y2 l2 u2⊢;refine qN [rbx T n2 a2 e2 ps b 1,o9 e2 b.length,.box (tk T n).cells] J (qC ?_ ?_)<;> intro h36
          .have aF:64<=x2:=I h36;refine qD (c5 J b2u a21 (a0L _ _ G ⟨J,J,G⟩) J ?_);rintro⟨x0,y0⟩ bH;dsimp only at bH⊢;refine qN [rbx T n2 x0 y0 ps b 1,o9 y0 b.length,.box (tk T n).cells] J (qD (c5 J a41 o8 (O8 hT y2 hW [41] ⟨J,J,G⟩) J ?_));rintro⟨n3,a3,e3⟩ ⟨q3,y3⟩;dsimp only at q3 y3⊢;refine d8m ?_;rintro⟨x6,a6,e6,b6⟩ ⟨k6,w6,l6,u6⟩;dsimp only at k6 w6 l6 u6⊢;refine qN [rbx T n3 a6 e6 ps b6 3,.dead,.box (tk T n).cells,o9 e6 b6.length] J ?_;have he6:=k6.2 (q3.2 bH);refine c6 ?_;exact⟨_,rE1,(by exact⟨⟨x6,n3,a6,e6,b6⟩,W2 (k:=3) J J G (.val _),⟨by rw[a6f hq G,c37];exact q1.bindP (q2.bindI (λt ht=>by dsimp only;rw[F (by rw[ht];exact aF)];exact .none he6) λ_=>he6),Q,w6,λh0=>absurd h0 he6,l6,u6⟩⟩)⟩
          .have aF:¬64<=x2:=I h36;refine qD (c5 J a41 o8 (O8 hT y2 hW [41] ⟨J,J,G⟩) J ?_);rintro⟨n3,a3,e3⟩ ⟨q3,y3⟩;dsimp only at q3 y3⊢;refine d8m ?_;rintro⟨x6,a6,e6,b6⟩ ⟨k6,w6,l6,u6⟩;dsimp only at k6 w6 l6 u6⊢;refine d6B ?_;exact⟨_,rE1,(by exact⟨⟨x6,n3,a6,e6,b6⟩,W2 (k:=3) J J G (.val _),⟨by rw[a6f hq G,c37];exact q1.bindP (q2.bindI (λt ht=>by dsimp only;rw[D (by rw[ht];exact aF)];exact q3.bindP (a2u (by rw[ht];exact k6))) λh=>k6.2 (q3.2 h)),Q,w6,λh0=>by have g3:=M3 q3 (k6.alive h0).1;have g2:=d1c q2 g3.1;have:=M3 q1 g2.1;dsimp only;omega,l6,u6⟩⟩)⟩
         .have hi7:v7=false:=I h35;have hg7:=T9 hv7 hi7;have bB:=hf7 hi7;subst m7;have ah:=c8d (ps:=ps) (f:=f) (d:=d) (b:=b) hk eB dZ hg3 hg4 hg5 hg6 hg7;refine qD (c5 J b7z ⟨O,O⟩ (a8k hT hn hW ⟨J,J,G⟩) J ?_);rintro⟨s1,n1,a1,e1⟩ ⟨q1,y1⟩;dsimp only at q1 y1⊢;refine qN [rbx T n1 a1 e1 ps b 1,o9 e1 b.length,.box (tk T n).cells] J (qD (c5 J a9u o8 (Y5 hT y1 hW [40] ⟨J,J,G⟩) J ?_));rintro⟨v8,m8⟩ ⟨dm,hs8,hf8,hm8⟩;dsimp only at dm hs8 hf8 hm8⊢;refine qN [rbx T m8 a1 e1 ps b 1,o9 e1 b.length,.box (tk T n).cells] J ?_;refine cC ?_ ?_<;>intro h37
          .have hi8:v8=false:=I h37;have bB:=hf8 hi8;subst m8;refine b24 ?_;refine H3 (α:=Nat) (λj=>[(0,.ptr 0 0),(6,(iv ((tk T n).at_))),(14,(sv s1)),(137,(.list (ps.map scv) (gnn ps.length) none)),(138,iv ps.length),(139,iv j)]) (λ_=>[rbx T n1 a1 e1 ps b 1,o9 e1 b.length,.box (tk T n).cells]) (λj=>j<=ps.length/\(e1=0->ixS ps s1 0=ixS (ps.drop j) s1 j)) (λj=>ps.length -j) 0 ⟨n_4 _,λ_=>J⟩ tu_ J ?_;intro j E5 ⟨hj,hjx⟩;have cm:=hc.ps;refine qk (qC ?_ ?_)<;> intro h38
           .have ab:j<ps.length:=sm_ h38;obtain⟨w,cS⟩:∃w,ps[j]?=some w:=⟨ps[j]'ab,H⟩;refine W (p9 J O O J J t_2 t_0 X (j1 cS) J) ?_;refine W a8q ?_;refine qG D4 ?_;refine qG (λhg=>b4J J hg J) ?_;refine qG (λhg=>j7 J hg J b84 J c1p G) ?_;refine qG (λhg=>o6 J hg J c2H J J) ?_;refine a4k ?_;refine qC ?_ ?_<;>intro h39
            .obtain ⟨hw,fK⟩:w=s1/\e1=0:=I h39;subst fK;obtain⟨_,bf,bz,gD⟩:=b1k q1 J;have hix:ixS ps s1 0=j:=by rw[hjx J,b1J cS,F hw]
             refine W b1m ?_;refine qD (c5 J a4Z D6 (O9 hb ⟨2,(j:Int),0,[],[]⟩ _ ⟨J,J,G⟩) J ?_);rintro⟨x6,a6,e6,b6⟩ ⟨k6,w6,l6,u6⟩;dsimp only at k6 w6 l6 u6⊢;refine qN [rbx T n1 a6 e6 ps b6 3,.dead,.box (tk T n).cells,o9 e6 b6.length] J ?_;refine c6 ?_;exact⟨_,rE1,(by exact⟨⟨x6,n1,a6,e6,b6⟩,W2 (k:=3) J J G (.val _),⟨by rw[ah,gD,n_9];dsimp only;rw[<- bf,<- bz,D (by rw[T9 dm hi8];decide),hix,D X];exact a2u k6,Q,w6,λh0=>by dsimp only;omega,l6,u6⟩⟩)⟩
            .have eg:e1=0->¬w=s1:=λh0 hw=>by simp[hw,h0]at h39
             refine W j9 ?_;exact⟨(j+1),X,⟨X,λh0=>by rw[hjx h0,b1J cS,D (eg h0)]⟩,tu_,J⟩
           .have aF:ps.length<=j:=sm_ h38;refine j6 ?_;refine qD (c5 J b2u a21 (a0L _ _ G ⟨J,J,G⟩) J ?_);rintro⟨x0,y0⟩ bH;dsimp only at bH⊢;refine qN [rbx T n1 x0 y0 ps b 1,o9 y0 b.length,.box (tk T n).cells] J ?_;refine c6 ?_;exact⟨_,rE1,(by exact⟨⟨0,n1,x0,y0,b⟩,a6i bH J (.val _),.dead (λ_=>by
             rcases q1.zero with⟨h0,_⟩|⟨_,h0⟩
             .subst h0;obtain⟨_,bf,bz,gD⟩:=b1k q1 J;rw[ah,gD,n_9];dsimp only;rw[<- bf,<- bz,D (by rw[T9 dm hi8];decide),hjx J,T6 aF];rfl
             .rw [ah,a9K.1 h0];rfl) bH y1 hb ⟨G,G⟩⟩)⟩
          .have hi8:v8=true:=I h37;obtain⟨fK,hq8⟩:=W5 (dm.symm.trans hi8);subst e1;have bB:=hs8 hi8;subst m8;obtain⟨_,bf,bz,gD⟩:=b1k q1 J;rw[gD,n_9]at ah;dsimp only at ah;rw[<- bf,<- bz,F hq8,c64 hq8]at ah;refine qk (W b1m ?_);refine c2G ?_;refine A2 hCC 4 J (α:=RG) (λa=>[(0,.ptr 0 0),(1,iv d),(6,(iv ((tk T n).at_))),(17,.ptr 3 0)]) (λa=>[rbx T a.m a.at_ a.e ps a.b (kg5 a.ph),ot1 a.ph a.e a.b.length,.dead,.box [(iv (3)),(iv (0)),(iv (0)),(sv s1),.list (a.l.map icv) (gnn a.l.length) (C3 a.l.length 5)],ot2 a.ph a.e a.b.length,o5 a.l.length]) (λa=>(a.e=0->(A3 T ps (f+1)).fac d n b=(a5p T ps d a.g a.m a.b a.l).bind (λa:List Int×Nat×List Ex=>N8 a.2.2 ⟨3,0,0,s1,a.1⟩ a.2.1)/\n<a.m/\a.l.length<=a.m/\8*(T.length -a.m)+7<=a.g)/\(a.e≠0->(A3 T ps (f+1)).fac d n b=none)/\a.m <T.length/\a.b.length<=256/\a.l.length<=T.length/\a.g<=f) (λa=>if a.e=0 then T.length -a.m+1 else 0) ⟨⟨[],n1+1,a1,0,b,false,f⟩,[0,1,2,3,7,8],⟨λ_=>⟨ah,Q,n_4 _,Q⟩,λh=>absurd J h,hm8,hb,n_4 _,n_7 _⟩,⟨J,J⟩,ut_,uq_⟩ ?_;intro⟨l,m,a2,e,b2,ph,g⟩ ⟨hI,hN,hm,cy,hlT,hgf⟩;dsimp only at hI hN hm cy hlT hgf⊢;refine qk (qG D4 ?_);refine b8b (.val (.bool false)) J J O J J (λhg=>c5 J a9u ⟨hg,J,O⟩ (Y5 hT hm hW [41] (q:=0) (s:=kg5 ph) a1M) J ?_) (λhg=>?_)
           .
            obtain rfl:e=0:=I hg;obtain⟨hS,bN,fW,hgm⟩:=hI J;rintro⟨v9,m9⟩ ⟨fi,gE,iE,fk⟩;dsimp only at fi gE iE fk⊢;refine qo ?_;refine qN [rbx T m9 a2 0 ps b2 (kg5 ph),ot1 ph 0 b2.length,.dead,.box [(iv (3)),(iv (0)),(iv (0)),(sv s1),.list (l.map icv) (gnn l.length) (C3 l.length 5)],ot2 ph 0 b2.length,o5 l.length] Q5 ?_;refine qG a29 ?_;refine W N9 ?_;refine qC ?_ ?_<;>intro h40
            .have iO:v9=false:=I h40;have hg9:=T9 fi iO;have bB:=iE iO;subst m9;obtain⟨g,rfl⟩:∃g',g=g'+1:=⟨g-1,X⟩;refine W a1z ?_;refine qC ?_ ?_<;>intro h41
             .have hl:l≠[]:=by intro hl;subst hl;simp at h41
              rw[c1e hg9 hl]at hS;simp only[agS]at hS;refine qD (c5 J a41 o8 (O8 hT hm hW [44] (q:=0) (s:=kg5 ph) a1M) J ?_);rintro⟨n2,a4,e2⟩ ⟨q2,y2⟩;dsimp only at q2 y2⊢;refine qN [rbx T n2 a4 e2 ps b2 (kg5 ph),ot1 ph e2 b2.length,.dead,.box [(iv (3)),(iv (0)),(iv (0)),(sv s1),.list (l.map icv) (gnn l.length) (C3 l.length 5)],ot2 ph e2 b2.length,o5 l.length] Q5 ?_;refine d9g ?_;refine chf J (c8 J b8N) ?_;refine a7l ?_;refine chf J (c8 J j9) ?_;refine C8 ?_;refine B0 J J J (c5 J b7V i7 (hE g X (d+1) n2 a4 e2 b2 y2 cy X (λh0=>by have:=M3 q2 h0;omega) _ 0 (kg5 ph) a1M) J ?_);rintro⟨x3,n3,a3,e3,b3⟩ ⟨k3,y3,w3,z3,l3,u3⟩;dsimp only at k3 y3 w3 z3 l3 u3⊢;have eO:=X6 l x3;have eC:e3=0->m<n3/\n<n3/\(l++[x3]).length<=n3/\8*(T.length -n3)+7<=g:=λh0=>by have:=z3 h0;have hq:=M3 q2 (k3.alive h0).1;omega
              have bR:(if e3=0 then T.length -n3+1 else 0)< (if(0:Int)=0 then T.length -m+1 else 0):=by
               rw[F J]
               split
               .rename_i h0;have:=eC h0;omega
               .omega
              have cb:(l++[x3]).length<=T.length/\g<=f:=by omega
              have aE:=c0t hS q2 k3;refine a1O [rbx T n3 a3 e3 ps b3 6,.dead,.dead,.box [(iv (3)),(iv (0)),(iv (0)),(sv s1),.list (l.map icv) (gnn l.length) (C3 l.length 5)],.dead,o5 l.length,o9 e3 b3.length] Q5 ?_;refine d8D ?_;refine B0 J J J (A4 J O O J H q_5 t_6 t_1 c1J t_8 J (.inr J) K2 b9f B7 ((l++[x3]).map icv) (l++[x3]).length H H ?_);refine⟨O,?_⟩;refine d7I ?_;refine a84 ?_;exact⟨⟨l++[x3],n3,a3,e3,b3,true,g⟩,[0,1,2,3,6,7],⟨bR,λh0=>(aE.1 h0).2.elim λj hj=>⟨by rw[hj.2,<- hj.1],(eC h0).2⟩,aE.2,y3,w3,cb⟩,⟨J,J⟩,ut_,⟨.inr ⟨_,J,.box ⟨.old a1u,.old (.val _),.old (.val _),.old (.val _),.old Z8,a0v J,.old a33,O⟩⟩,.inl J,.inl J,.inr ⟨_,J,.box ⟨.old (.val _),.old (.val _),.old (.val _),.old (.val _),C6.grow (f:=icv) (λ_=>⟨.val _,O⟩) J,O⟩⟩,.inr ⟨_,J,.same J X0⟩,.inr ⟨_,J,.same J D8⟩,O⟩⟩
             .have hl:l=[]:=by
               cases l with
               |nil=>rfl
               |cons x l=>simp at h41<;>omega
              subst hl;rw[c0A hg9]at hS;simp only[agS]at hS;have q2:Ok 0 (some m) 0 m:=.some;refine d9g ?_;refine chf J (c8 J b8N) ?_;refine a7l ?_;refine chf J (c8 J j9) ?_;refine C8 ?_;refine B0 J J J (c5 J b7V i7 (hE g X (d+1) m a2 0 b2 hm cy X (λ_=>by omega) _ 0 (kg5 ph) a1M) J ?_);rintro⟨x3,n3,a3,e3,b3⟩ ⟨k3,y3,w3,z3,l3,u3⟩;dsimp only at k3 y3 w3 z3 l3 u3⊢;have eO:=X6 ([]:List Int) x3;have eC:e3=0->m<n3/\n<n3/\(([]:List Int)++[x3]).length<=n3/\8*(T.length -n3)+7<=g:=λh0=>by have:=z3 h0;omega
              have bR:(if e3=0 then T.length -n3+1 else 0)< (if(0:Int)=0 then T.length -m+1 else 0):=by
               rw[F J]
               split
               .rename_i h0;have:=eC h0;omega
               .omega
              have cb:(([]:List Int)++[x3]).length<=T.length/\g<=f:=by omega
              have aE:=c0t hS q2 k3;refine a1O [rbx T n3 a3 e3 ps b3 6,.dead,.dead,.box [(iv (3)),(iv (0)),(iv (0)),(sv s1),.list ([].map icv) (gnn ([]:List Int).length) (C3 ([]:List Int).length 5)],.dead,o5 ([]:List Int).length,o9 e3 b3.length] Q5 ?_;refine d8D ?_;refine B0 J J J (A4 J O O J H q_5 t_6 t_1 c1J t_8 J (.inr J) K2 b9f B7 (([]++[x3]).map icv) ([]++[x3]).length H H ?_);refine⟨O,?_⟩;refine d7I ?_;refine a84 ?_;exact⟨⟨[]++[x3],n3,a3,e3,b3,true,g⟩,[0,1,2,3,6,7],⟨bR,λh0=>(aE.1 h0).2.elim λj hj=>⟨by rw[hj.2,<- hj.1],(eC h0).2⟩,aE.2,y3,w3,cb⟩,⟨J,J⟩,ut_,⟨.inr ⟨_,J,.box ⟨.old a1u,.old (.val _),.old (.val _),.old (.val _),.old Z8,a0v J,.old a33,O⟩⟩,.inl J,.inl J,.inr ⟨_,J,.box ⟨.old (.val _),.old (.val _),.old (.val _),.old (.val _),C6.grow (f:=icv) (λ_=>⟨.val _,O⟩) J,O⟩⟩,.inr ⟨_,J,.same J X0⟩,.inr ⟨_,J,.same J D8⟩,O⟩⟩
            .have iO:v9=true:=I h40;obtain⟨_,hq9⟩:=W5 (fi.symm.trans iO);have bB:=gE iO;subst m9;rw[c6t hq9,n_9]at hS;refine j6 ?_;refine qD (c5 J a4Z D6 (O9 cy ⟨3,0,0,s1,l⟩ _ (q:=0) (s:=kg5 ph) a1M) J ?_);rintro⟨x6,a6,e6,b6⟩ ⟨k6,w6,l6,u6⟩;dsimp only at k6 w6 l6 u6⊢;refine qN [rbx T (m+1) a6 e6 ps b6 6,.dead,.dead,.box [(iv (3)),(iv (0)),(iv (0)),(sv s1),.list (l.map icv) (gnn l.length) (C3 l.length 5)],.dead,o5 l.length,o9 e6 b6.length] Q5 ?_;refine c6 ?_;exact⟨_,rE1,(by exact⟨⟨x6,m+1,a6,e6,b6⟩,W2 (k:=6) J J G (.val _),⟨by rw[hS];exact a2u k6,Q,w6,λh0=>by dsimp only;omega,l6,u6⟩⟩)⟩
           .
            refine qo (qG a29 ?_);refine W N9 ?_;refine qC ?_ ?_<;>intro h42
            .have he:e≠0:=I hg;simp[he]at h42
            .have he:e≠0:=I hg;refine j6 ?_;refine qD (c5 J a4Z D6 (O9 cy ⟨3,0,0,s1,l⟩ _ (q:=0) (s:=kg5 ph) a1M) J ?_);rintro⟨x6,a6,e6,b6⟩ ⟨k6,w6,l6,u6⟩;dsimp only at k6 w6 l6 u6⊢;refine qN [rbx T m a6 e6 ps b6 6,.dead,.dead,.box [(iv (3)),(iv (0)),(iv (0)),(sv s1),.list (l.map icv) (gnn l.length) (C3 l.length 5)],.dead,o5 l.length,o9 e6 b6.length] Q5 ?_;refine c6 ?_;exact⟨_,rE1,(by exact⟨⟨x6,m,a6,e6,b6⟩,W2 (k:=6) J J G (.val _),.dead (λ_=>hN he) (k6.2 he) hm w6 ⟨l6,u6⟩⟩)⟩
theorem c6H{ps:List U}(hc:a0y T ps)(Jj:∀g,g<f0->REC T ps g):RFC T ps f0:=λd n at_ b hn hb hd hf σ q s ao=>by
 obtain⟨f,rfl⟩:∃f,f0=f+1:=⟨f0-1,X⟩;exact a2C (c:=λa:RX=>(iv a.x)) (N:=λa=>a.n) (A:=λa=>a.at_) (E:=λa=>a.e) (B:=λa=>a.b) (λ_ h=>by simp at h;subst h;exact .val _) (λ_=>.val _) (c2J hc (λg hg=>Jj g X) d n at_ b hn hb hd hf) ao
theorem e0w{ps:List U}(hc:a0y T ps):∀f,REC T ps f/\RSC T ps f/\RTC T ps f/\RFC T ps f:=λf=>by
 induction f using Nat.strongRecOn with
 |ind f Jj=>
  exact⟨d5l hc λg hg=>⟨(Jj g hg).1,(Jj g hg).2.1⟩,d9L hc λg hg=>(Jj g hg).2.2.1,d5Q hc λg hg=>(Jj g hg).2.2.2,c6H hc λg hg=>(Jj g hg).1⟩
theorem c6b{l:List De}{p:De->Bool}{y:De}(h:l[i]?=some y)(hd:l.any p=(l.drop i).any p)(hy:p y=false):l.any p=(l.drop (i+1)).any p:=by
 obtain⟨ab,rfl⟩:=n_3.1 h;rw[hd,R0 ab,List.any_cons,hy,Bool.false_or]
theorem b4Y{l:List De}{p:De->Bool}{y:De}(h:l[i]?=some y)(hy:p y=true):l.any p=true:=List.any_eq_true.2 ⟨y,n_2 h,hy⟩
theorem c2O(f:Src)(k:Int)(u:U)(hl:f.decls.length<=1000000)(σ:List b9):b8 CC 224 [.agg f.cells,iv k,(sv u)] σ λr aa=>r= .ret (.val (.bool (f.decls.any λd=>(d.k == k)&&decide (d.name=u))))/\aa=σ:=by
 refine b8.anyw hCC pu_ pu_ (c7 (qO Tryz.func224 ?_)) σ;refine d1l ?_;refine j8 hCC (α:=Nat) (λi=>[(1,iv k),(2,(sv u)),(10,(.list (f.decls.map De.cv) (gnn f.decls.length) none)),(11,iv f.decls.length),(12,iv i)]) (λ_=>[.box f.cells]) (λi=>i<=f.decls.length/\(f.decls.any λd=>(d.k == k)&&decide (d.name=u))=((f.decls.drop i).any λd=>(d.k == k)&&decide (d.name=u))) (λi=>f.decls.length -i) 0 ⟨n_4 _,J⟩ tu_ (ai:=[]) J z8 uz_ ?_;intro i ⟨hi,hd⟩;refine qk (qC ?_ ?_)<;> intro h1
 .have ab:i<f.decls.length:=sm_ h1;obtain⟨w,hb⟩:∃w,f.decls[i]?=some w:=⟨f.decls[i]'ab,H⟩;refine W d2j ?_;refine z_6 ?_;refine qG b9p ?_;refine qG a02 ?_;refine b4y ?_;refine qC ?_ ?_<;>intro h2
  .have hw:((w.k == k)&&decide (w.name=u))=true:=I h2;refine c6 ?_;exact⟨_,rE1,_,_,J,J,j4 (show true=(f.decls.any λd=>(d.k == k)&&decide (d.name=u))from(b4Y hb hw).symm)⟩
  .have hw:((w.k == k)&&decide (w.name=u))=false:=I h2;exact d7A
 .have aF:f.decls.length<=i:=sm_ h1;refine z_9 ?_;exact⟨_,rE1,_,_,J,J,j4 (show false=(f.decls.any λd=>(d.k == k)&&decide (d.name=u)) by rw[hd,T6 aF];rfl)⟩
theorem c3f{n k:Nat}{at_ e:Int}{ps:List U}{b:List Ex}{c':CV}(h0:τ[0]?=some (rbx T n at_ e ps b k))(hk:τ[k]?=some (o9 e b.length))(h2:2<=k)(hc:∀am,C6 2 am c c'):D2 2 τ (.ret c) (.ret c') (a69 T n at_ e ps b):=by
 obtain⟨am,a1,a2,_,a4⟩:=W2 h0 hk h2 (Old.val (.int .i64 0));exact⟨am,a1,a2,.ret (hc am),a4⟩
theorem c2f{f:FuncId}{args:List CV}{c:α->CV}{N:α->Nat}{A E:α->Int}{Z:α->List U}{B:α->List Ex}{P:α->Prop}{n:Nat}{at_ e:Int}{ps:List U}{b:List Ex}(ap:∀a∈args,r5 a)(hc:∀a,r5 (c a))
 (h:b8 CC f (.ptr 0 0::args) (rst T n at_ e ps b) λr τ=>∃a,D2 2 τ r (.ret (c a)) (a69 T (N a) (A a) (E a) (Z a) (B a))/\P a){σ:List b9}{q s:Nat}(ao:RAt σ q s T n at_ e ps b):
 b8 CC f (.ptr q 0::args) σ λr τ=>∃a,r= .ret (c a)/\τ=rS1 σ q s T (N a) (A a) (E a) (Z a) (B a)/\P a:=by
 obtain⟨h1,h2,h3⟩:=ao;have hq:=(n_3.1 h1).1;have hs:=(n_3.1 h2).1;have h':b8 CC f (.ptr 0 0::args) (rst T n at_ e ps b) λr τ=>∃a,r= .ret (c a)/\τ=a69 T (N a) (A a) (E a) (Z a) (B a)/\P a:=
  G5 hCC (h.mono λr τ ⟨a,k1,k2⟩=>⟨_,_,k1,a,J,J,k2⟩)
 refine I9 [q,s] hCC J (λi j k g1 g2=>?_) (λi k ob g1 g2=>?_) (.cons (.ptr J) (L9 ap)) h' λr τ hk=>?_
 .rcases i with _|_|i<;>rcases j with _|_|j<;>simp at g1 g2<;>first|rfl|(exfalso;exact h3 (g1.trans g2.symm))|(exfalso;exact h3 (g2.trans g1.symm))
 .rcases i with _|_|i
  .simp at g1 g2;subst g1 g2;exact⟨_,h1,a8A J⟩
  .simp at g1 g2;subst g1 g2;exact⟨_,h2,a5O _ _⟩
  .simp at g1
 .obtain ⟨a,rfl,rfl,hp⟩:=hk;refine⟨H,.ret (c a),rS1 σ q s T (N a) (A a) (E a) (Z a) (B a),.ret (.pure (hc a)),H,λk hk bD=>?_,λi k x ha hx=>?_,a,J,J,hp⟩
  .have n1:q≠k:=λe=>bD a2f;have n2:s≠k:=λe=>bD a2f;rw[R8 (I hk)];simp[n1,n2]
  .rcases ha with ha|⟨ha,rfl⟩
   .rcases i with _|_|i
    .simp at ha hx;subst ha hx;refine⟨rbx T (N a) (A a) (E a) (Z a) (B a) σ.length,?_,a8A (.inr ⟨H,H⟩)⟩;rw[R8 (I hq),a2M h3.symm];simp[hq]
    .simp at ha hx;subst ha hx;refine⟨.dead,?_,.dead⟩;rw[R8 (I hs)];simp[hs]
    .simp at ha
   .rcases i with _|_|_|i
    .simp at ha
    .simp at ha
    .simp at hx;subst hx;refine⟨o9 (E a) (B a).length,?_,a5O _ _⟩;rw[a1v H];simp
    .simp at hx
theorem d5P:G7 [102,117,110,99]=1:=by decide
theorem d6N:G7 [116,101,115,116]=2:=by decide
theorem d4f:G7 [103,101,110]=3:=by decide
theorem d4E(h1:¬u=[102,117,110,99])(h2:¬u=[116,101,115,116])(h3:¬u=[103,101,110]):G7 u=0:=by
 have e:dkL=[([102,117,110,99],1),([116,101,115,116],2),([103,101,110],3)]:=by decide
 rw[G7,e];simp only[glk,D h1,D h2,D h3];rfl
theorem e1G{n:Nat}(h1:isT (tk T n) 1 [102,117,110,99]=false)(h2:isT (tk T n) 1 [116,101,115,116]=false)(h3:isT (tk T n) 1 [103,101,110]=false):(tk T n).k≠1\/G7 (tk T n).t=0:=by
 by_cases hk:(tk T n).k=1
 .exact .inr (d4E (a5B h1 hk) (a5B h2 hk) (a5B h3 hk))
 .exact .inl hk
theorem Ok.of{e:Int}(h1:e'=0->e=0/\o=Option.some y)(h2:e'≠0->e=0->o=Option.none):Ok e o e' y:=
 ⟨λh=>by
  by_cases h':e'=0
  .exact .inl ⟨(h1 h').2,h'⟩
  .exact .inr ⟨h2 h' h,h'⟩,λh h'=>h (h1 h').1⟩
theorem Ok.pre{e:Int}(h:Ok e1 o e' y)(h1:e=0->e1=0)(h2:e≠0->e1≠0):Ok e o e' y:=⟨λh0=>h.1 (h1 h0),λh0=>h.2 (h2 h0)⟩
def a6X(T:List Tok)(m:Nat)(l:List U):Option (List U×Nat):=
 if l=[]then(if isT (tk T m) 4 [41]=true then Option.some ([],m+1)else a2X 9 T m [])
 else if isT (tk T m) 4 [44]=true then a2X (9-l.length) T (m+1) l else(pIs T m 4 [41]).bind λm'=>Option.some (l,m')
theorem c70{n m:Nat}(h:pIs T n 4 [40]=some m):N7 T n=a6X T m []:=by
 rw[N7,h,n_9,a6X,F J]
theorem c6G{m:Nat}{l:List U}(h:isT (tk T m) 4 [41]=true):a6X T m l=some (l,m+1):=by
 unfold a6X;by_cases hl:l=[]
 .rw [F hl,F h,hl]
 .rw [D hl,D (by simp[isT,(S4 h).2]),pIs,F h];rfl
def b6t(T:List Tok)(m:Nat)(l:List U):Option Nat:=if l=[]then some m else pIs T m 4 [44]
theorem c1m{m:Nat}{l:List U}(h:isT (tk T m) 4 [41]=false):a6X T m l=(b6t T m l).bind λm'=>a2X (9-l.length) T m' l:=by
 unfold a6X b6t;by_cases hl:l=[]
 .subst hl;rw[F J,F J,D (by rw[h];decide)];rfl
 .rw [D hl,D hl];unfold pIs;by_cases h4:isT (tk T m) 4 [44]=true
  .rw [F h4,F h4];rfl
  .rw [D h4,D h4,D (by rw[h];decide)];rfl
theorem e1o{m:Nat}{l:List U}(hl:l.length<=8):a2X (9-l.length) T m l=(K8 T m).bind λx=>if l.length=8 then none else if x.1.t∈l then none else a6X T x.2 (l++[x.1.t]):=by
 obtain⟨f,hf⟩:∃f,9-l.length=f+1:=⟨8-l.length,X⟩;rw[hf,a2X];refine n_8 _ (funext λx=>?_);by_cases h8:l.length=8
 .rw [F h8,F h8]
 .rw [D h8,D h8];by_cases hm:x.1.t∈l
  .rw [F hm,F hm]
  .rw [D hm,D hm];unfold a6X;rw[show 9- (l++[x.1.t]).length=f by simp;omega];exact(D H).symm
theorem a5g{m:Nat}{l:List U}{S:Option (List U×Nat)}{s3:U}(hl:l.length<=8)(hS:S=(b6t T m l).bind λm'=>a2X (9-l.length) T m' l)(q2:Ok 0 (b6t T m l) e2 n2)(q3:Ok e2 ((K8 T n2).map λx=>(x.1.t,x.2)) e3 (s3,n3))
 (h1:l.length=8\/s3∈l->e4≠0)(h2:¬l.length=8->¬s3∈l->e4=e3)(h3:e3≠0->e4≠0):(e4=0->e3=0/\e2=0/\l.length <8/\S=a6X T n3 (l++[s3]))/\(e4≠0->S=none):=by
 rcases q2.zero with⟨g2,ho⟩|⟨g2,ho⟩
 .subst g2;rw[ho,n_9,e1o hl]at hS
  rcases q3.zero with⟨g3,hn⟩|⟨g3,hn⟩
  .obtain ⟨x,hx,hg⟩:=P2.1 hn;injection hg with eB dZ
   rw[hx,n_9,eB,dZ]at hS;by_cases h8:l.length=8
   .rw [F h8]at hS;exact⟨λh=>absurd h (h1 (.inl h8)),λ_=>hS⟩
   .rw [D h8]at hS;by_cases hm:s3∈l
    .rw [F hm]at hS;exact⟨λh=>absurd h (h1 (.inr hm)),λ_=>hS⟩
    .rw [D hm]at hS;exact⟨λ_=>⟨g3,J,X,hS⟩,λh=>absurd (by rw[h2 h8 hm,g3]) h⟩
  .rw [a9K.1 hn]at hS;exact⟨λh=>absurd h (h3 g3),λ_=>hS⟩
 .rw [ho]at hS;exact⟨λh=>absurd h (h3 (q3.2 g2)),λ_=>hS⟩
structure RP5 where
 l:List U
 m:Nat
 at_:Int
 e:Int
structure RD5 where
 d:De
 n:Nat
 at_:Int
 e:Int
 ps:List U
 b:List Ex
variable{d:Nat}
def RDP(T:List Tok)(bs:List De)(n:Nat)(a:RD5):Prop:=Ok 0 (a01 T bs n) a.e (a.d,a.n)/\a.n <T.length/\a.b.length<=256/\(a.e=0->n<a.n)
theorem d9B{m:Nat}{l:List U}(q:Ok 0 (b6t T m l) e2 n2)(h:e2=0):m<=n2:=by
 have h1:=(q.alive h).2;unfold b6t at h1;by_cases hl:l=[]
 .rw [F hl]at h1;injection h1 with h1
  omega
 .rw [D hl]at h1;have:=R2 h1;omega
theorem d4o{bs:List De}{n m n6 n8:Nat}{kd e8 x7:Int}{s2:U}{l:List U}{b7:List Ex}(hu:¬((tk T n).k≠1\/G7 (tk T n).t=0))(hkd:kd=G7 (tk T n).t)(p1:bs.length=64->e1≠0)(p2:bs.length≠64->e1=0)(q2:Ok e1 ((a3y T kd (n+1)).map λx=>(x.1.t,x.2)) e2 (s2,n2))
 (p3:e2≠0->e3≠0)(p4:e2=0->(bs.any λd=>(d.k == kd)&&decide (d.name=s2))=true->e3≠0)(p5:e2=0->(bs.any λd=>(d.k == kd)&&decide (d.name=s2))=false->e3=0)(q5:Ok e3 (a3B T kd n2) e5 (l,m))(q6:Ok e5 (pIs T m 4 [61]) e6 n6)(k7:Ok e6 (((A3 T l (8*T.length+6)).ex 1 n6 []).map cx) e7 (x7,n7,b7))(q8:Ok e7 (pIs T n7 4 [59]) e8 n8):
 Ok 0 (a01 T bs n) e8 (⟨kd,s2,l,b7⟩,n8):=by
 have d8:e3≠0->e8≠0:=λh=>q8.2 (k7.2 (q6.2 (q5.2 h)));rw[a01,D hu,<- hkd];by_cases iD:bs.length=64
 .rw [F iD];exact .none (d8 (p3 (q2.2 (p1 iD))))
 .rw [D iD];have fK:=p2 iD;subst fK;refine q2.bindM (λp hp hg=>?_) λh=>d8 (p3 h);obtain⟨t,m2⟩:=p;injection hg with eB dZ
  dsimp only at eB dZ⊢;subst eB dZ;by_cases bF:(bs.any λd=>(d.k == kd)&&decide (d.name=t.t))=true
  .rw [F bF];by_cases h2:e2=0
   .exact .none (d8 (p4 h2 bF))
   .exact .none (d8 (p3 h2))
  .rw [D bF];refine Ok.pre ?_ (λh=>p5 h (I bF)) p3;refine q5.bind (q6.bind ?_);refine k7.bindM (λp hp hg=>?_) q8.2;obtain⟨i,n7',b7'⟩:=p;injection hg with eB dZ
   injection dZ with dZ hg3
   dsimp only at dZ hg3⊢;subst dZ hg3;exact q8.bind .some
theorem d5v{bs:List De}{n m n6 n8:Nat}{kd e8 x7:Int}{s2:U}{l:List U}{b7:List Ex}(_:kd=G7 (tk T n).t)(_:bs.length=64->e1≠0)(_:bs.length≠64->e1=0)(q2:Ok e1 ((a3y T kd (n+1)).map λx=>(x.1.t,x.2)) e2 (s2,n2))
 (p3:e2≠0->e3≠0)(_:e2=0->(bs.any λd=>(d.k == kd)&&decide (d.name=s2))=true->e3≠0)(_:e2=0->(bs.any λd=>(d.k == kd)&&decide (d.name=s2))=false->e3=0)(q5:Ok e3 (a3B T kd n2) e5 (l,m))(q6:Ok e5 (pIs T m 4 [61]) e6 n6)(k7:Ok e6 (((A3 T l (8*T.length+6)).ex 1 n6 []).map cx) e7 (x7,n7,b7))(z7:e7=0->n6<n7)(q8:Ok e7 (pIs T n7 4 [59]) e8 n8)(h0:e8=0):
 n<n8:=by
 have g8:=M3 q8 h0;have g7:=(k7.alive g8.1).1;have g6:=M3 q6 g7;have g5:=q5.alive g6.1;have h2:e2=0:=Classical.byContradiction λh=>p3 h g5.1;obtain⟨p,hp,hg⟩:=P2.1 (q2.alive h2).2;obtain⟨t,m2⟩:=p;injection hg with _ dZ
 dsimp only at dZ;subst dZ;have:=b8D hp;have:=b9i g5.2;have:=z7 g8.1;omega
theorem d0d{ps:List U}(hc:a0y T [])(pk:U)(im:List U)(bs:List De)(hbs:bs.length<=64)(n:Nat)(at_:Int)(b:List Ex)(hn:n<T.length):b8 CC 187 [.ptr 0 0,.agg (⟨pk,im,bs⟩:Src).cells] (rst T n at_ 0 ps b) (λr τ=>∃a:RD5,D2 2 τ r (.ret (.agg a.d.cells)) (a69 T a.n a.at_ a.e a.ps a.b)/\RDP T bs n a):=by
 have hT:=hc.len;have hW:=hc.w;refine cO Tryz.func187 ?_;refine b63 ?_;refine L5 [rbx T n at_ 0 ps b 1,o9 0 b.length,.dead] J ?_;refine b58 ?_;refine cD (p7 J b1V J j5 ?_);refine b2t ?_;refine cD (p7 J b1V J j5 ?_);refine w9 ?_;refine a78 ?_;refine d9e ?_;refine cD (j2 J O J J j3 a2H (.inl J) J J (nb J) ?_);refine cY a6W ?_;refine cY c3b ?_;refine cD (j2 J O J J j3 b3g (.inl J) J J (nb J) ?_);refine w9 ?_;refine L5 [rbx T n at_ 0 [] [] 2,o9 0 b.length,o9 0 ([]:List Ex).length,.box (⟨pk,im,bs⟩:Src).cells,.box (⟨0,[],[],[]⟩:De).cells,.box (⟨0,[],[],[]⟩:De).cells] J ?_;refine z_4 ?_;refine ye J a8U ⟨O,O⟩ (a0G hT hn (q:=0) (s:=2) ⟨J,J,G⟩) J ?_;refine cY a4M ?_;refine z_5 ?_;refine N6 (α:=Int) (λ_=>[(0,.ptr 0 0),(3,.ptr 3 0),(4,.ptr 4 0),(5,.ptr 5 0),(6,(iv ((tk T n).at_)))]) (λkd=>[rbx T (n+1) at_ 0 [] [] 2,o9 0 b.length,o9 0 ([]:List Ex).length,.box (⟨pk,im,bs⟩:Src).cells,.box (⟨0,[],[],[]⟩:De).cells,.box (⟨kd,[],[],[]⟩:De).cells]) (λkd=>kd=G7 (tk T n).t/\(tk T n).k=1/\(kd=1\/kd=2\/kd=3)/\n+1<T.length) ?_ ?_
 .
  refine z_4 ?_;refine de J b0Y o8 (a0k hT hn hW [102,117,110,99] (q:=0) (s:=2) ⟨J,J,G⟩) J ?_;rintro⟨v1,m1⟩ ⟨eu,bz,dF,bZ⟩;dsimp only at eu bz dF bZ⊢;refine P1 [rbx T m1 at_ 0 [] [] 2,o9 0 b.length,o9 0 ([]:List Ex).length,.box (⟨pk,im,bs⟩:Src).cells,.box (⟨0,[],[],[]⟩:De).cells,.box (⟨0,[],[],[]⟩:De).cells] J ?_;refine w9 ?_;refine cC ?_ ?_<;>intro h1
  .have eP:v1=true:=I h1;have hq:=(W5 (eu.symm.trans eP)).2;have bB:=bz eP;subst m1;refine G8 ?_;refine d1g ?_;refine w9 ?_;exact⟨(1:Int),⟨by rw[(S4 hq).2,d5P],(S4 hq).1,G,bZ⟩,tu_,J⟩
  .have eP:v1=false:=I h1;have eB:=T9 eu eP;have bB:=dF eP;subst m1;refine z_4 ?_;refine de J b0Y o8 (a0k hT hn hW [116,101,115,116] (q:=0) (s:=2) ⟨J,J,G⟩) J ?_;rintro⟨v2,m2⟩ ⟨cE,dT,gT,ce⟩;dsimp only at cE dT gT ce⊢;refine P1 [rbx T m2 at_ 0 [] [] 2,o9 0 b.length,o9 0 ([]:List Ex).length,.box (⟨pk,im,bs⟩:Src).cells,.box (⟨0,[],[],[]⟩:De).cells,.box (⟨0,[],[],[]⟩:De).cells] J ?_;refine w9 ?_;refine cC ?_ ?_<;>intro h2
   .have db:v2=true:=I h2;have hq:=(W5 (cE.symm.trans db)).2;have bB:=dT db;subst m2;refine G8 ?_;refine d1g ?_;refine w9 ?_;exact⟨(2:Int),⟨by rw[(S4 hq).2,d6N],(S4 hq).1,G,ce⟩,tu_,J⟩
   .have db:v2=false:=I h2;have dZ:=T9 cE db;have bB:=gT db;subst m2;refine z_4 ?_;refine de J b0Y o8 (a0k hT hn hW [103,101,110] (q:=0) (s:=2) ⟨J,J,G⟩) J ?_;rintro⟨v3,m3⟩ ⟨hv3,fT,hf3,gh⟩;dsimp only at hv3 fT hf3 gh⊢;refine P1 [rbx T m3 at_ 0 [] [] 2,o9 0 b.length,o9 0 ([]:List Ex).length,.box (⟨pk,im,bs⟩:Src).cells,.box (⟨0,[],[],[]⟩:De).cells,.box (⟨0,[],[],[]⟩:De).cells] J ?_;refine w9 ?_;refine cC ?_ ?_<;>intro h3
    .have fU:v3=true:=I h3;have hq:=(W5 (hv3.symm.trans fU)).2;have bB:=fT fU;subst m3;refine G8 ?_;refine d1g ?_;refine w9 ?_;exact⟨(3:Int),⟨by rw[(S4 hq).2,d4f],(S4 hq).1,G,gh⟩,tu_,J⟩
    .have fU:v3=false:=I h3;have hg3:=T9 hv3 fU;have bB:=hf3 fU;subst m3;refine z_4 ?_;refine c6V ?_;rintro⟨x0,y0⟩ bH;dsimp only at bH⊢;refine P1 [rbx T n x0 y0 [] [] 2,o9 0 b.length,o9 y0 ([]:List Ex).length,.box (⟨pk,im,bs⟩:Src).cells,.box (⟨0,[],[],[]⟩:De).cells,.box (⟨0,[],[],[]⟩:De).cells] J ?_;refine b2t ?_;refine d7l ?_;refine w9 (c6 ?_);exact⟨_,F2 J d2s,(by exact⟨⟨⟨0,[],[],[]⟩,n,x0,y0,[],[]⟩,c3f (k:=2) J J G (λ_=>c2X _ _ _ _ _),⟨by rw[a01,F (e1G (T9 eu eP) (T9 cE db) (T9 hv3 fU))];exact .none bH,hn,n_4 _,λh0=>absurd h0 bH⟩⟩)⟩
 .rintro kd E1 ⟨hkd,bw,hk3,bf⟩;have hu1:¬((tk T n).k≠1\/G7 (tk T n).t=0):=by rw[<- hkd];omega
  refine N6 (α:=Int×Int) (λ_=>[(0,.ptr 0 0),(3,.ptr 3 0),(4,.ptr 4 0),(5,.ptr 5 0)]) (λa=>[rbx T (n+1) a.1 a.2 [] [] 2,o9 0 b.length,o9 a.2 ([]:List Ex).length,.box (⟨pk,im,bs⟩:Src).cells,.box (⟨0,[],[],[]⟩:De).cells,.box (⟨kd,[],[],[]⟩:De).cells]) (λa=>(bs.length=64->a.2≠0)/\(bs.length≠64->a.2=0)) ?_ ?_
  .
   refine z_0 ?_;refine cY c3K ?_;refine cY c5k ?_;refine cY a4S ?_;refine b0Z ?_;refine cC ?_ ?_<;>intro h4
   .have iD:bs.length=64:=sm_ h4;refine a42 ?_;refine c6V ?_;rintro⟨x0,y0⟩ bH;dsimp only at bH⊢;refine P1 [rbx T (n+1) x0 y0 [] [] 2,o9 0 b.length,o9 y0 ([]:List Ex).length,.box (⟨pk,im,bs⟩:Src).cells,.box (⟨0,[],[],[]⟩:De).cells,.box (⟨kd,[],[],[]⟩:De).cells] J ?_;refine w9 ?_;exact⟨(x0,y0),⟨λ_=>bH,λh=>absurd iD h⟩,tu_,J⟩
   .have iD:¬bs.length=64:=sm_ h4;refine C2 ?_;exact⟨(at_,0),⟨λh=>absurd h iD,λ_=>J⟩,tu_,J⟩
  .rintro ⟨a1,e1⟩ E2 ⟨p1,p2⟩;dsimp only at p1 p2⊢;refine z_4 ?_;refine ye J a8U ⟨O,O⟩ (a0G hT bf (q:=0) (s:=2) ⟨J,J,G⟩) J ?_;refine cY a4M ?_;refine z_5 ?_;refine N6 (α:=U×Nat×Int×Int) (λ_=>[(0,.ptr 0 0),(3,.ptr 3 0),(4,.ptr 4 0),(5,.ptr 5 0),(6,(iv ((tk T (n+1)).at_)))]) (λa=>[rbx T a.2.1 a.2.2.1 a.2.2.2 [] [] 2,o9 0 b.length,o9 a.2.2.2 ([]:List Ex).length,.box (⟨pk,im,bs⟩:Src).cells,.box (⟨0,[],[],[]⟩:De).cells,.box (⟨kd,a.1,[],[]⟩:De).cells]) (λa=>Ok e1 ((a3y T kd (n+1)).map λx=>(x.1.t,x.2)) a.2.2.2 (a.1,a.2.1)/\a.2.1 <T.length) ?_ ?_
   .
    refine z_0 ?_;refine cY b2R ?_;refine cY a0R ?_;refine b0Z ?_;refine cC ?_ ?_<;>intro h5
    .have hk:kd=3:=I h5;have hh:∀m,a3y T kd m=a00 T m:=λm=>F hk;refine a42 ?_;refine de J c50 o8 (b1j hT bf hW true hc.l (q:=0) (s:=2) ⟨J,J,G⟩) J ?_;rintro⟨s2,n2,a2,e2⟩ ⟨q2,y2⟩;dsimp only at q2 y2⊢;rw[a4z]at q2;refine e1d ?_;refine d8n ?_;exact⟨(s2,n2,a2,e2),⟨by rw[hh];exact q2,y2⟩,tu_,J⟩
    .have hk:¬kd=3:=I h5;have hh:∀m,a3y T kd m=K8 T m:=λm=>D hk;refine a42 ?_;refine de J b7z ⟨O,O⟩ (a8k hT bf hW (q:=0) (s:=2) ⟨J,J,G⟩) J ?_;rintro⟨s2,n2,a2,e2⟩ ⟨q2,y2⟩;dsimp only at q2 y2⊢;refine e1d ?_;refine d8n ?_;exact⟨(s2,n2,a2,e2),⟨by rw[hh];exact q2,y2⟩,tu_,J⟩
   .rintro ⟨s2,n2,a2,e2⟩ E3 ⟨q2,y2⟩;dsimp only at q2 y2⊢;refine N6 (α:=Int×Int) (λ_=>[(0,.ptr 0 0),(4,.ptr 4 0),(5,.ptr 5 0)]) (λa=>[rbx T n2 a.1 a.2 [] [] 2,o9 0 b.length,o9 a.2 ([]:List Ex).length,.box (⟨pk,im,bs⟩:Src).cells,.box (⟨0,[],[],[]⟩:De).cells,.box (⟨kd,s2,[],[]⟩:De).cells]) (λa=>(e2≠0->a.2≠0)/\(e2=0->(bs.any λd=>(d.k == kd)&&decide (d.name=s2))=true->a.2≠0)/\(e2=0->(bs.any λd=>(d.k == kd)&&decide (d.name=s2))=false->a.2=0)) ?_ ?_
    .
     refine a61 ?_;refine cY b9g ?_;refine cY (o6 J O J c2H J J) ?_;refine cY a0d ?_;refine cY A8 ?_;refine cG (λhg=>O4 J O J b8O a4d J (nb J)) ?_;refine cG b8n ?_;refine cG a5n ?_;refine cG b9p ?_;refine cG a02 ?_;refine cG (λhg=>c4 J Tryz.call224 ⟨hg,hg,hg,O⟩ (c2O ⟨pk,im,bs⟩ kd s2 (by show bs.length<=1000000;omega) _) J) ?_;refine cY N9 ?_;refine w9 ?_;refine cC ?_ ?_<;>intro h6
     .have ht:e2=0/\(bs.any λd=>(d.k == kd)&&decide (d.name=s2))=true:=I h6;refine a42 ?_;refine c6V ?_;rintro⟨x0,y0⟩ bH;dsimp only at bH⊢;refine P1 [rbx T n2 x0 y0 [] [] 2,o9 0 b.length,o9 y0 ([]:List Ex).length,.box (⟨pk,im,bs⟩:Src).cells,.box (⟨0,[],[],[]⟩:De).cells,.box (⟨kd,s2,[],[]⟩:De).cells] J ?_;refine w9 ?_;exact⟨(x0,y0),⟨λ_=>bH,λ_ _=>bH,λ_ h=>by rw[ht.2]at h;cases h⟩,tu_,J⟩
     .have ht:¬(e2=0/\(bs.any λd=>(d.k == kd)&&decide (d.name=s2))=true):=λh=>by simp[h.1,h.2]at h6
      refine C2 ?_;exact⟨(a2,e2),⟨λh=>h,λh0 h=>absurd ⟨h0,h⟩ ht,λh0 _=>h0⟩,tu_,J⟩
    .rintro ⟨a3,e3⟩ E4 ⟨p3,p4,p5⟩;dsimp only at p3 p4 p5⊢;refine a6m hCC 6 J (α:=RP5) (λ_=>[(0,.ptr 0 0),(4,.ptr 4 0),(5,.ptr 5 0)]) (λa=>[rbx T a.m a.at_ a.e [] [] 2,o9 0 b.length,o9 a.e ([]:List Ex).length,.dead,.box (⟨0,[],[],[]⟩:De).cells,.box (⟨kd,s2,a.l,[]⟩:De).cells]) (λa=>Ok e3 (a3B T kd n2) a.e (a.l,a.m)/\a.m <T.length/\a.l.length<=9) ?_ ?_
     .
      refine z_0 ?_;refine cY b2R ?_;refine cY a0R ?_;refine b0Z ?_;refine cC ?_ ?_<;>intro h7
      .have hk:kd=1:=I h7;have hp:a3B T kd n2=N7 T n2:=F hk;rw[hp];refine z_4 ?_;refine de J a41 o8 (O8 hT y2 hW [40] (q:=0) (s:=2) ⟨J,J,G⟩) J ?_;rintro⟨n4,a4,e4⟩ ⟨q4,y4⟩;dsimp only at q4 y4⊢;refine P1 [rbx T n4 a4 e4 [] [] 2,o9 0 b.length,o9 e4 ([]:List Ex).length,.box (⟨pk,im,bs⟩:Src).cells,.box (⟨0,[],[],[]⟩:De).cells,.box (⟨kd,s2,[],[]⟩:De).cells] J ?_;refine c7Y ?_;refine A2 hCC 6 J (α:=RP5) (λ_=>[(0,.ptr 0 0),(4,.ptr 4 0),(5,.ptr 5 0)]) (λa=>[rbx T a.m a.at_ a.e [] [] 2,o9 0 b.length,o9 a.e ([]:List Ex).length,.dead,.box (⟨0,[],[],[]⟩:De).cells,.box [iv kd,(sv s2),.list (a.l.map scv) (gnn a.l.length) (C3 a.l.length 6),.list [] false none],o5 a.l.length]) (λa=>(a.e=0->e3=0/\N7 T n2=a6X T a.m a.l/\n2<a.m/\a.l.length<=8)/\(a.e≠0->e3=0->N7 T n2=none)/\a.m <T.length/\a.l.length<=9) (λa=>if a.e=0 then 10-a.l.length else 0) ⟨⟨[],n4,a4,e4⟩,[0,1,2,3,4,5,10],⟨λh0=>⟨(M3 q4 h0).1,c70 (q4.alive h0).2,by have:=(M3 q4 h0).2;dsimp only;omega,n_4 _⟩,λh0 h3=>by
        subst h3
        rcases q4.zero with⟨h,_⟩|⟨_,h⟩
        .exact absurd h h0
        .rw [N7,h];rfl,y4,n_4 _⟩,⟨J,J⟩,ut_,uq_⟩ ?_
       intro⟨l,m,a5,e⟩ ⟨hI,hN,hm,hl9⟩;dsimp only at hI hN hm hl9⊢;refine G4 ?_;refine a61 ?_;refine cY b9g ?_;refine cY (o6 J O J c2H J J) ?_;refine cY a0d ?_;refine c7H ?_;refine b8b (.val (.bool false)) J J O J J (λhg=>c5 J a9u ⟨hg,J,O⟩ (Y5 hT hm hW [41] (q:=0) (s:=2) ⟨J,J,G⟩) J ?_) (λhg=>?_)
       .
        obtain rfl:e=0:=I hg;obtain⟨he3,hS,bN,hl8⟩:=hI J;rintro⟨v9,m9⟩ ⟨fi,gE,iE,fk⟩;dsimp only at fi gE iE fk⊢;refine P1 [rbx T m9 a5 0 [] [] 2,o9 0 b.length,o9 0 ([]:List Ex).length,.dead,.box (⟨0,[],[],[]⟩:De).cells,.box [iv kd,(sv s2),.list (l.map scv) (gnn l.length) (C3 l.length 6),.list [] false none],o5 l.length] J ?_;refine cG a29 ?_;refine cY N9 ?_;refine w9 ?_;refine cC ?_ ?_<;>intro h8
        .have iO:v9=false:=I h8;have hg9:=T9 fi iO;have bB:=iE iO;subst m9;rw[c1m hg9]at hS;refine C2 (a1A ?_);refine N6 (α:=Nat×Int×Int) (λ_=>[(0,.ptr 0 0),(4,.ptr 4 0),(5,.ptr 5 0)]) (λa=>[rbx T a.1 a.2.1 a.2.2 [] [] 2,o9 0 b.length,o9 a.2.2 ([]:List Ex).length,.dead,.box (⟨0,[],[],[]⟩:De).cells,.box [iv kd,(sv s2),.list (l.map scv) (gnn l.length) (C3 l.length 6),.list [] false none],o5 l.length]) (λa=>Ok 0 (b6t T m l) a.2.2 a.1/\a.1 <T.length) ?_ ?_
         .
          refine z_0 ?_;refine b7P ?_;refine b0Z ?_;refine cC ?_ ?_<;>intro h9
          .have hl:l≠[]:=by intro hl;subst hl;simp at h9
           refine a42 ?_;refine de J a41 o8 (O8 hT hm hW [44] (q:=0) (s:=2) ⟨J,J,G⟩) J ?_;rintro⟨n5,a6,e5⟩ ⟨q5,y5⟩;dsimp only at q5 y5⊢;refine P1 [rbx T n5 a6 e5 [] [] 2,o9 0 b.length,o9 e5 ([]:List Ex).length,.dead,.box (⟨0,[],[],[]⟩:De).cells,.box [iv kd,(sv s2),.list (l.map scv) (gnn l.length) (C3 l.length 6),.list [] false none],o5 l.length] J ?_;refine w9 ?_;exact⟨(n5,a6,e5),⟨by rw[b6t,D hl];exact q5,y5⟩,tu_,J⟩
          .have hl:l=[]:=by
            cases l with
            |nil=>rfl
            |cons x l=>simp at h9<;>omega
           refine C2 ?_;exact⟨(m,a5,0),⟨by rw[b6t,F hl];exact .some,hm⟩,tu_,J⟩
         .rintro ⟨n5,a6,e5⟩ E5 ⟨q5,y5⟩;dsimp only at q5 y5⊢;refine z_4 ?_;refine ye J a8U ⟨O,O⟩ (a0G hT y5 (q:=0) (s:=2) ⟨J,J,G⟩) J ?_;refine cY a4M ?_;refine z_5 ?_;refine z_4 ?_;refine de J b7z ⟨O,O⟩ (a8k hT y5 hW (q:=0) (s:=2) ⟨J,J,G⟩) J ?_;rintro⟨s6,n6,a7,e6⟩ ⟨q6,y6⟩;dsimp only at q6 y6⊢;have eO:=X6 l s6;refine P1 [rbx T n6 a7 e6 [] [] 2,o9 0 b.length,o9 e6 ([]:List Ex).length,.dead,.box (⟨0,[],[],[]⟩:De).cells,.box [iv kd,(sv s2),.list (l.map scv) (gnn l.length) (C3 l.length 6),.list [] false none],o5 l.length] J ?_;refine z_5 ?_;refine G4 ?_;refine z_0 ?_;refine b7P ?_;refine b0Z ?_;refine cC ?_ ?_<;>intro bb
          .have h8:l.length=8:=sm_ bb;refine a42 ?_;refine c6V ?_;rintro⟨x0,y0⟩ bH;dsimp only at bH⊢;refine P1 [rbx T n6 x0 y0 [] [] 2,o9 0 b.length,o9 y0 ([]:List Ex).length,.dead,.box (⟨0,[],[],[]⟩:De).cells,.box [iv kd,(sv s2),.list (l.map scv) (gnn l.length) (C3 l.length 6),.list [] false none],o5 l.length] J ?_;refine a7D ?_;refine b5n ?_;refine ye J b9z i7 (a8b l (gnn l.length) s6 X _) J ?_;refine w9 ?_;refine cC ?_ ?_<;>intro cB
           .refine a42 ?_;refine c6V ?_;rintro⟨x1,y1⟩ fp;dsimp only at fp⊢;refine e1p ?_;refine G8 ?_;refine b5n ?_;refine cY d4O ?_;refine cD (A4 J O O J H q_5 t_2 t_0 a3p t_4 J (.inr J) K2 Z6 B7 ((l++[s6]).map scv) (l++[s6]).length H H ?_);refine cY b4P ?_;refine c9U ?_;exact⟨⟨l++[s6],n6,x1,y1⟩,[0,1,2,3,4,5,7],⟨by
             dsimp only;rw[D fp,F J];omega,λh=>absurd h fp,λh _=>(a5g hl8 hS q5 q6 (e4:=y1) (λ_=>fp) (λh h'=>absurd h8 h) (λ_=>fp)).2 h,y6,Q⟩,⟨J,J⟩,ut_,⟨.inr ⟨_,J,.same J a9J⟩,.inr ⟨_,J,.same J X0⟩,.inr ⟨_,J,.same J X0⟩,.inl J,.inr ⟨_,J,.same J (z6 (a4n _))⟩,.inr ⟨_,J,.box ⟨.old (.val _),.old (.val _),C6.grow (f:=scv) (λ_=>⟨.val _,O⟩) J,.old (P9 _ [] _),O⟩⟩,.inr ⟨_,J,.same J D8⟩,O⟩⟩
           .refine C2 (G8 ?_);refine b5n ?_;refine cY d4O ?_;refine cD (A4 J O O J H q_5 t_2 t_0 a3p t_4 J (.inr J) K2 Z6 B7 ((l++[s6]).map scv) (l++[s6]).length H H ?_);refine cY b4P ?_;refine c9U ?_;exact⟨⟨l++[s6],n6,x0,y0⟩,[0,1,2,3,4,5,7],⟨by
             dsimp only;rw[D bH,F J];omega,λh=>absurd h bH,λh _=>(a5g hl8 hS q5 q6 (e4:=y0) (λ_=>bH) (λh h'=>absurd h8 h) (λ_=>bH)).2 h,y6,Q⟩,⟨J,J⟩,ut_,⟨.inr ⟨_,J,.same J a9J⟩,.inr ⟨_,J,.same J X0⟩,.inr ⟨_,J,.same J X0⟩,.inl J,.inr ⟨_,J,.same J (z6 (a4n _))⟩,.inr ⟨_,J,.box ⟨.old (.val _),.old (.val _),C6.grow (f:=scv) (λ_=>⟨.val _,O⟩) J,.old (P9 _ [] _),O⟩⟩,.inr ⟨_,J,.same J D8⟩,O⟩⟩
          .have h8:¬l.length=8:=sm_ bb;refine c7u ?_;refine z_0 ?_;refine b5n ?_;refine ye J b9z i7 (a8b l (gnn l.length) s6 X _) J ?_;refine w9 ?_;refine cC ?_ ?_<;>intro cX
           .have bF:s6∈l:=I cX;refine a42 ?_;refine c6V ?_;rintro⟨x1,y1⟩ fp;dsimp only at fp⊢;refine e1p ?_;refine G8 ?_;refine b5n ?_;refine cY d4O ?_;refine cD (A4 J O O J H q_5 t_2 t_0 a3p t_4 J (.inr J) K2 Z6 B7 ((l++[s6]).map scv) (l++[s6]).length H H ?_);refine cY b4P ?_;refine c9U ?_;exact⟨⟨l++[s6],n6,x1,y1⟩,[0,1,2,3,4,5,7],⟨by
             dsimp only;rw[D fp,F J];omega,λh=>absurd h fp,λh _=>(a5g hl8 hS q5 q6 (e4:=y1) (λ_=>fp) (λ_ h'=>absurd bF h') (λ_=>fp)).2 h,y6,Q⟩,⟨J,J⟩,ut_,⟨.inr ⟨_,J,.same J a9J⟩,.inr ⟨_,J,.same J X0⟩,.inr ⟨_,J,.same J X0⟩,.inl J,.inr ⟨_,J,.same J (z6 (a4n _))⟩,.inr ⟨_,J,.box ⟨.old (.val _),.old (.val _),C6.grow (f:=scv) (λ_=>⟨.val _,O⟩) J,.old (P9 _ [] _),O⟩⟩,.inr ⟨_,J,.same J D8⟩,O⟩⟩
           .have bF:¬s6∈l:=I cX;refine C2 (G8 ?_);refine b5n ?_;refine cY d4O ?_;refine cD (A4 J O O J H q_5 t_2 t_0 a3p t_4 J (.inr J) K2 Z6 B7 ((l++[s6]).map scv) (l++[s6]).length H H ?_);refine cY b4P ?_;refine c9U ?_;exact⟨⟨l++[s6],n6,a7,e6⟩,[0,1,2,3,4,5,7],⟨by
             dsimp only;rw[F J]
             split<;>omega,λh=>by obtain⟨_,g5,g8,hS'⟩:=(a5g hl8 hS q5 q6 (e4:=e6) (λh=>absurd h (by rintro(h|h)<;>contradiction)) (λ_ _=>J) id).1 h;have:=(b1k q6 h).2.1;have:=d9B q5 g5;exact⟨he3,hS',Q,Q⟩,λh _=>(a5g hl8 hS q5 q6 (e4:=e6) (λh=>absurd h (by rintro(h|h)<;>contradiction)) (λ_ _=>J) id).2 h,y6,Q⟩,⟨J,J⟩,ut_,⟨.inr ⟨_,J,.same J a9J⟩,.inr ⟨_,J,.same J X0⟩,.inr ⟨_,J,.same J X0⟩,.inl J,.inr ⟨_,J,.same J (z6 (a4n _))⟩,.inr ⟨_,J,.box ⟨.old (.val _),.old (.val _),C6.grow (f:=scv) (λ_=>⟨.val _,O⟩) J,.old (P9 _ [] _),O⟩⟩,.inr ⟨_,J,.same J D8⟩,O⟩⟩
        .have iO:v9=true:=I h8;obtain⟨_,hq9⟩:=W5 (fi.symm.trans iO);have bB:=gE iO;subst m9;rw[c6G hq9]at hS;refine j6 ?_;exact⟨⟨l,m+1,a5,0⟩,[0,1,2,3,4,5],⟨Ok.of (λ_=>⟨he3,hS⟩) λh=>absurd J h,fk,hl9⟩,⟨J,J⟩,ut_,⟨.inr ⟨_,J,.same J a9J⟩,.inr ⟨_,J,.same J X0⟩,.inr ⟨_,J,.same J X0⟩,.inl J,.inr ⟨_,J,.same J (z6 (a4n _))⟩,.inr ⟨_,J,.box ⟨.old (.val _),.old (.val _),H5 (f:=scv) (λ_=>⟨.val _,O⟩) _,.old (P9 _ [] _),O⟩⟩,O⟩⟩
       .
        refine cG a29 ?_;refine cY N9 ?_;refine w9 ?_;refine cC ?_ ?_<;>intro dw
        .have he:e≠0:=I hg;simp[he]at dw
        .have he:e≠0:=I hg;refine j6 ?_;exact⟨⟨l,m,a5,e⟩,[0,1,2,3,4,5],⟨Ok.of (λh=>absurd h he) (λh h3=>hN h h3),hm,hl9⟩,⟨J,J⟩,ut_,⟨.inr ⟨_,J,.same J a9J⟩,.inr ⟨_,J,.same J X0⟩,.inr ⟨_,J,.same J X0⟩,.inl J,.inr ⟨_,J,.same J (z6 (a4n _))⟩,.inr ⟨_,J,.box ⟨.old (.val _),.old (.val _),H5 (f:=scv) (λ_=>⟨.val _,O⟩) _,.old (P9 _ [] _),O⟩⟩,O⟩⟩
      .have hk:¬kd=1:=I h7;have hp:a3B T kd n2=some ([],n2):=D hk;refine C2 ?_;exact⟨⟨[],n2,a3,e3⟩,[0,1,2,3,4,5],⟨by rw[hp];exact .some,y2,n_4 _⟩,⟨J,J⟩,ut_,uq_⟩
     .rintro ⟨l,m,a5,e5⟩ ⟨q5,y5,hl9⟩;dsimp only at q5 y5 hl9⊢;have bJ:a0y T l:=⟨hT,hW,hc.l,X,hc.nn⟩;refine z_4 ?_;refine e0T ?_;refine d9e ?_;refine c9U ?_;refine z_4 ?_;refine de J a41 o8 (O8 hT y5 hW [61] (q:=0) (s:=2) ⟨J,J,G⟩) J ?_;rintro⟨n6,a6,e6⟩ ⟨q6,y6⟩;dsimp only at q6 y6⊢;refine P1 [rbx T n6 a6 e6 l [] 2,o9 0 b.length,o9 e6 ([]:List Ex).length,.dead,.box (⟨0,[],[],[]⟩:De).cells,.box (⟨kd,s2,l,[]⟩:De).cells] J ?_;refine w9 ?_;refine z_4 ?_;refine de J b7V o8 ((e0w bJ (8*T.length+6)).1 1 n6 a6 e6 [] y6 (n_4 _) G (λ_=>by omega) _ 0 2 ⟨J,J,G⟩) J ?_;rintro⟨x7,n7,a7,e7,b7⟩ ⟨k7,y7,w7,z7,l7,u7⟩;dsimp only at k7 y7 w7 z7 l7 u7⊢;refine P1 [rbx T n7 a7 e7 l b7 6,o9 0 b.length,.dead,.dead,.box (⟨0,[],[],[]⟩:De).cells,.box (⟨kd,s2,l,[]⟩:De).cells,o9 e7 b7.length] J ?_;refine w9 ?_;refine z_4 ?_;refine de J a41 o8 (O8 hT y7 hW [59] (q:=0) (s:=6) ⟨J,J,G⟩) J ?_;rintro⟨n8,a8,e8⟩ ⟨q8,y8⟩;dsimp only at q8 y8⊢;refine P1 [rbx T n8 a8 e8 l b7 6,o9 0 b.length,.dead,.dead,.box (⟨0,[],[],[]⟩:De).cells,.box (⟨kd,s2,l,[]⟩:De).cells,o9 e8 b7.length] J ?_;refine w9 ?_;refine a61 ?_;refine cY c3b ?_;refine cY c4u ?_;refine cY d7a ?_;refine cD (j2 J O O J j3 b3g (.inl J) J J (nb J) ?_);refine b2t ?_;refine d7l ?_;refine w9 (c6 ?_);exact⟨_,F2 J d2s,(by exact⟨⟨⟨kd,s2,l,b7⟩,n8,a8,e8,l,b7⟩,c3f (k:=6) J J G (λ_=>c2X _ _ _ _ _),⟨d4o hu1 hkd p1 p2 q2 p3 p4 p5 q5 q6 k7 q8,y8,w7,λh0=>d5v hkd p1 p2 q2 p3 p4 p5 q5 q6 k7 z7 q8 h0⟩⟩)⟩
theorem d4b{ps:List U}(hc:a0y T [])(pk:U)(im:List U)(bs:List De)(hbs:bs.length<=64){n:Nat}{at_:Int}{b:List Ex}(hn:n<T.length){s:Nat}(ao:RAt σ q s T n at_ 0 ps b):b8 CC 187 [.ptr q 0,.agg (⟨pk,im,bs⟩:Src).cells] σ λr τ=>∃a:RD5,r= .ret (.agg a.d.cells)/\τ=rS1 σ q s T a.n a.at_ a.e a.ps a.b/\RDP T bs n a:=
 c2f (c:=λa:RD5=>.agg a.d.cells) (N:=λa=>a.n) (A:=λa=>a.at_) (E:=λa=>a.e) (Z:=λa=>a.ps) (B:=λa=>a.b) (λ_ h=>by simp at h;subst h;exact r6 (Src.pure _)) (λa=>r6 a.d.pure) (d0d hc pk im bs hbs n at_ b hn) ao
theorem b1l(s:U):∀(n f f' i:Nat),s.length -i<n->i<=s.length->s.length <f+i->s.length <f'+i->a0W f s i=a0W f' s i
 |0,_,_,_,h,_,_,_=>by omega
 |n+1,f,f',i,h,hi,hf,hf'=>by
  obtain⟨f,rfl⟩:∃g,f=g+1:=⟨f-1,X⟩;obtain⟨f',rfl⟩:∃g,f'=g+1:=⟨f'-1,X⟩;have h1:=(a2t (s:=s) (a:=i) (ks:=[5]) hi);rw[a0W,a0W];cases hb:s[A9 s i [5]]? with
  |none=>rfl
  |some b=>
   have ab:=(n_3.1 hb).1;simp only;by_cases h6:l9 b.toNat=6
   .rw [F h6,F h6];have h2:=b17 hb h6;have h3:=a7S (s:=s) (a:=A9 s i [5]) X;exact b1l s n f f' _ X h3 X X
   .rw [D h6,D h6];by_cases h4:(F0 s (A9 s i [5]) b).2.2≠0
    .rw [F h4,F h4]
    .rw [D h4,D h4];obtain⟨e,he,h5,h7⟩:=a6j hb h4;rw[he,a2L];rw[b1l s n f f' e X h7 X X]
def a6I(s:U)(i:Nat):Option (List Tok):=a0W (s.length+1-i) s i
theorem a4J{s:U}(hi:i<=s.length)(hf:s.length <f+i):a0W f s i=a6I s i:=b1l s (s.length+1-i) f _ i X hi hf X
theorem d3h(s:U):a3v s=if 16384<s.length then none else a6I s 0:=by
 unfold a3v
 split
 .rfl
 .exact a4J (n_4 _) X
theorem c9z{s:U}(h:i=s.length):a6I s i=some [⟨5,[],0,(i:Nat)⟩]:=by
 subst h;unfold a6I;rw[show s.length+1-s.length=0+1 by omega,b7N (a9I (n_7 _)).symm (n_7 _)]
theorem c1n{s:U}{b:UInt8}(h:s[i]?=some b)(hk:l9 b.toNat=5):a6I s i=a6I s (i+1):=by
 have ab:=(n_3.1 h).1;rw[<- a4J (f:=s.length+1) X X,<- a4J (f:=s.length+1) (i:=i+1) X X];have:A9 s i [5]=A9 s (i+1) [5]:=by rw[X8 h,F (by simp[inK,hk])]
 rw[a0W,a0W,this]
theorem d3M{s:U}{b:UInt8}(h:s[i]?=some b)(hk:l9 b.toNat=6):a6I s i=a6I s (S9 s i):=by
 have ab:=(n_3.1 h).1;have h1:i=A9 s i [5]:=by rw[X8 h,D (by simp[inK,hk])]
 have h3:=a7S (s:=s) (a:=i) X;rw[<- a4J (f:=s.length+1+1) (i:=i) X X,b9S h1 h hk];exact a4J h3 X
theorem d3k{s:U}{b:UInt8}(h:s[i]?=some b)(h5:l9 b.toNat≠5)(h6:l9 b.toNat≠6):a6I s i=if(F0 s i b).2.2≠0 then none else(a6I s (F0 s i b).2.1.toNat).map (({(F0 s i b).1 with at_:=(i:Nat)}:Tok)::·):=by
 have ab:=(n_3.1 h).1;have h1:i=A9 s i [5]:=by rw[X8 h,D (by simp[inK,h5])]
 rw[<- a4J (f:=s.length+1+1) (i:=i) X X];by_cases h4:(F0 s i b).2.2≠0
 .rw [b8k h1 h h6 h4,F h4]
 .obtain ⟨e,he,h7,h8⟩:=a6j h h4;rw[b77 h1 h h6 h4,D h4,he,a2L];rw[a4J h8 X]
def SkP(s:U)(i n:Nat):Prop:=i<=n/\n<=s.length/\a6I s i=a6I s n/\∀b,s[n]?=some b->l9 b.toNat≠5/\l9 b.toNat≠6
theorem c3F(b:UInt8):(((((b.toNat:Int) == 32) ||((b.toNat:Int) == 9)) ||((b.toNat:Int) == 10)) ||((b.toNat:Int) == 13))=decide (l9 b.toNat=5):=by
 generalize (b.toNat:Int)=c;by_cases h:c=9\/c=10\/c=13\/c=32
 .unfold l9;rw[D X,D X,D X,D X,F h]
  rcases h with h|h|h|h<;>subst h<;>rfl
 .have hk:l9 c≠5:=by
   unfold l9
   repeat' split
   all_goals omega
  rw[a1S hk];simp;omega
theorem d0h(b:UInt8):((b.toNat:Int) == 35)=decide (l9 b.toNat=6):=by
 generalize (b.toNat:Int)=c;by_cases h:c=35
 .subst h;rfl
 .have hk:l9 c≠6:=by
   unfold l9
   repeat' split
   all_goals omega
  rw[a1S hk];simpa using h
theorem d1p{s:U}{b:UInt8}(h:s[a]?=some b)(hb:b≠10):S9 s a=S9 s (a+1):=by
 obtain⟨ab,rfl⟩:=n_3.1 h;unfold S9;rw[R0 ab,b0d,F (I hb),C5];omega
theorem d2d{s:U}{b:UInt8}(h:s[a]?=some b)(hb:b=10):S9 s a=a:=by
 obtain⟨ab,rfl⟩:=n_3.1 h;unfold S9;rw[R0 ab,b0d,D (I hb)];rfl
theorem c7R{s:U}(h:s.length<=a):S9 s a=a:=by
 unfold S9;rw[T6 h];rfl
theorem d8r{b:UInt8}:((b.toNat:Int)=10)↔b=10:=by
 constructor
 .intro h;have:b.toNat=(10:UInt8).toNat:=by have e:(10:UInt8).toNat=10:=J;omega
  exact a95.1 this
 .rintro rfl;rfl
theorem c9y(s:U)(hs:s.length<=1000000000)(i:Nat)(hi:i<=s.length):b8 CC 227 [(sv s),iv i] [] λr τ=>∃n:Nat,r= .ret (iv n)/\τ=[]/\SkP s i n:=by
 refine qO Tryz.func227 ?_;refine j8 hCC (λn:Nat=>[(0,(sv s)),(1,iv n)]) (λ_=>[]) (λn=>i<=n/\n<=s.length/\a6I s i=a6I s n) (λn=>s.length -n) i ⟨n_7 _,hi,J⟩ tu_ (ai:=[]) J z8 uz_ ?_;intro n ⟨bF,hn,hr⟩;refine a7w ?_;refine qC ?_ ?_<;>intro h1
 .have ab:n<s.length:=sm_ h1;obtain⟨b,hb⟩:∃b,s[n]?=some b:=⟨s[n]'ab,H⟩;refine W b7J ?_;refine a1y ?_;refine qG e0z ?_;refine a38 ?_;refine a1y ?_;refine qG e0z ?_;refine a38 ?_;refine a1y ?_;refine qG e0z ?_;refine a38 ?_;refine qC ?_ ?_<;>intro h2
  .have hk:l9 b.toNat=5:=by rw[c3F]at h2;simpa using h2
   refine W j9 ?_;exact⟨(n+1),_,⟨X,X,X,by rw[hr,c1n hb hk]⟩,tu_,J⟩
  .have hk5:l9 b.toNat≠5:=by rw[c3F]at h2;simpa using h2
   refine W b7J ?_;refine qC ?_ ?_<;>intro h3
   .have hk6:l9 b.toNat=6:=by rw[d0h]at h3;simpa using h3
    have aO:=b17 hb hk6;have cb:=a7S (s:=s) (a:=n) X;refine j8 hCC (λm:Nat=>[(0,(sv s)),(1,iv m)]) (λ_=>[]) (λm=>n<=m/\m<=s.length/\S9 s n=S9 s m) (λm=>s.length -m) n ⟨n_7 _,hn,J⟩ tu_ (ai:=[]) J z8 uz_ ?_;intro m ⟨bN,hm,aX⟩;obtain⟨c,hc⟩:∃c:UInt8,m<s.length->s[m]?=some c:=by
     by_cases fW:m<s.length
     .exact ⟨s[m],λ_=>by simp[fW]⟩
     .exact ⟨0,λh=>absurd h fW⟩
    refine a7w ?_;refine b5u ?_;refine qC ?_ ?_<;>intro h4
    .have gO:m<s.length/\¬(c.toNat:Int)=10:=I h4;have hcm:=hc gO.1;have hc10:c≠10:=λe=>gO.2 (d8r.2 e);refine W j9 ?_;exact⟨(m+1),_,⟨X,X,X,by rw[aX,d1p hcm hc10]⟩,tu_,J⟩
    .have bR:S9 s n=m:=by
      rw[aX];by_cases fW:m<s.length
      .have gO:(c.toNat:Int)=10:=by
        have:m<s.length->(c.toNat:Int)=10:=I h4;exact this fW
       exact d2d (hc fW) (d8r.1 gO)
      .exact c7R X
     refine j6 ?_;exact⟨m,_,⟨X,X,X,by rw[hr,d3M hb hk6,bR]⟩,tu_,J⟩
   .have hk6:l9 b.toNat≠6:=by rw[d0h]at h3;simpa using h3
    refine c6 ?_;exact⟨_,rE1,⟨n,J,J,bF,hn,hr,λb' hb'=>by rw[hb]at hb';injection hb' with hb';subst hb';exact⟨hk5,hk6⟩⟩⟩
 .have aF:n=s.length:=sm_ h1;refine z_9 ?_;exact⟨_,rE1,⟨n,J,J,bF,hn,hr,λb hb=>by have:=(n_3.1 hb).1;omega⟩⟩
theorem c5M(s:U)(hs:s.length<=1000000000)(i:Nat)(hi:i<=s.length)(σ:List b9):b8 CC 227 [(sv s),iv i] σ λr τ=>∃n:Nat,r= .ret (iv n)/\τ=σ/\SkP s i n:=
 d8k (c:=λn:Nat=>(iv n)) hCC (λa h=>by simp at h;rcases h with rfl|rfl<;>exact .val _) (λ_=>.val _) ((c9y s hs i hi).mono λr τ ⟨n,h1,h2,h3⟩=>⟨n,by rw[h1];exact d5S (.old (.val _)),h3⟩) σ
theorem d1D:∀a:U,Op.bytesLess a a=false
 | []=>rfl
 |x::a=>by simp[Op.bytesLess,d1D a]
theorem b10:∀{a b c:U},Op.bytesLess a b=true->Op.bytesLess b c=true->Op.bytesLess a c=true
 | [],[],_,h,_=>by cases h
 | [],_::_,[],_,h=>by cases h
 | [],_::_,_::_,_,_=>rfl
 |_::_,[],_,h,_=>by cases h
 |_::_,_::_,[],_,h=>by cases h
 |x::a,y::b,z::c,h1,h2=>by
  simp only[Op.bytesLess,a8Z,a1G,T7,beq_iff_eq]at h1 h2⊢
  rcases h1 with h1|⟨h1,dW⟩<;>rcases h2 with h2|⟨h2,dr⟩
  .exact .inl (UInt8.lt_trans h1 h2)
  .exact .inl (h2▸h1)
  .exact .inl (h1▸h2)
  .exact .inr ⟨h1.trans h2,b10 dW dr⟩
theorem d2u:∀{a b:U},Op.bytesLess a b=false->a≠b->Op.bytesLess b a=true
 | [],[],_,h=>absurd J h
 | [],_::_,h,_=>by cases h
 |_::_,[],_,_=>rfl
 |x::a,y::b,h1,h2=>by
  simp only[Op.bytesLess,c0r,b3R,Bool.and_eq_false_iff,beq_eq_false_iff_ne,a8Z,a1G,T7,beq_iff_eq]at h1⊢;by_cases gg:x=y
  .subst gg;refine .inr ⟨J,d2u (h1.2.resolve_left λh=>h J) λh=>h2 (by rw[h])⟩
  .have:=h1.1;exact .inl (by
    rcases Nat.lt_or_gt_of_ne (λh=>gg (a95.1 h):x.toNat≠y.toNat)with h|h
    .exact absurd (b8d.2 h) this
    .exact b8d.2 h)
def c9W(l:List Fi):Prop:=l.Pairwise λf g=>Op.bytesLess f.p g.p=true
def J8:List U:=([[97,46,115,114,99],[98,46,115,114,99],[100,47,99,46,115,114,99],[120,46,115,114,99]]:List U)
theorem a8W(σ:List b9):b8 CC 66 [] σ λr aa=>r= .ret (.list (J8.map scv) true none)/\aa=σ:=by
 refine b8.anyw hCC pu_ pu_ (c7 (qO Tryz.func66 ?_)) σ;refine W (B1 (J8.map scv) J ⟨J,J,J,J,O⟩ t_2 t_0 t_4 J J J J J J J J J) ?_;refine c6 ?_;exact⟨_,rE1,_,_,J,J,a1d J pu_⟩
theorem b2o(l:List U)(nn:Bool)(s:U)(hl:l.length<=1000000000)(σ:List b9):b8 CC 120 [(.list (l.map scv) nn none),(sv s)] σ λr aa=>r= .ret (.val (.bool (decide (s∈l))))/\aa=σ:=by
 refine b8.anyw hCC pu_ pu_ (c7 (qO Tryz.func120 ?_)) σ;refine j8 hCC (λi:Nat=>[(0,(.list (l.map scv) nn none)),(1,(sv s)),(5,iv i)]) (λ_=>[]) (λi=>i<=l.length/\decide (s∈l)=decide (s∈l.drop i)) (λi=>l.length -i) 0 ⟨n_4 _,J⟩ tu_ (ai:=[]) J z8 uz_ ?_;intro i ⟨hi,hr⟩;refine b24 ?_;refine qC ?_ ?_<;>intro h1
 .have ab:i<l.length:=sm_ h1;obtain⟨y,hb⟩:∃y,l[i]?=some y:=⟨l[i]'ab,H⟩;have hdr:l.drop i=y::l.drop (i+1):=by
   obtain⟨ab,rfl⟩:=n_3.1 hb;exact R0 ab
  rw[hdr]at hr;refine b5t ?_;refine qC ?_ ?_<;>intro h2
  .have hys:y=s:=I h2;refine c6 ?_;exact⟨_,rE1,_,_,J,J,j4 (by rw[hr,hys];simp)⟩
  .have hys:¬y=s:=I h2;refine W j9 ?_;exact⟨(i+1),_,⟨X,X,by
    rw[hr];have:(s=y)=False:=by simpa using λh=>hys h.symm
    simp[this]⟩,tu_,J⟩
 .have aF:l.length<=i:=sm_ h1;rw[T6 aF]at hr;refine z_9 ?_;exact⟨_,rE1,_,_,J,J,j4 c38⟩
def a6b(n:Nat):U:=if h:n<10 then [UInt8.ofNat (48+n)]else a6b (n / 10)++[UInt8.ofNat (48+n%10)]
termination_by n
decreasing_by omega
theorem a74{n:Nat}(h:n<10):a6b n=[UInt8.ofNat (48+n)]:=by rw[a6b,dif_pos h]
theorem d5d{n:Nat}(h:¬n<10):a6b n=a6b (n / 10)++a6b (n%10):=by rw[a6b,dif_neg h,a74 (a4l _ X)]
theorem a2m:∀(m n:Nat),n<10^(m+1)->(a6b n).length<=m+1
 |0,n,h=>by rw[a74 (I h)];simp
 |m+1,n,h=>by
  by_cases hn:n<10
  .rw [a74 hn];simp
  .rw [a6b,dif_neg hn,n_6];have:=a2m m (n / 10) (by rw[Nat.div_lt_iff_lt_mul X];rw[Nat.pow_succ]at h;exact h);simp only[C5,J6];omega
theorem e29:∀n:Nat,n<10->(([48,49,50,51,52,53,54,55,56,57]:U).take (n+1)).drop n=[UInt8.ofNat (48+n)]:=by decide
theorem a8x{n:Nat}(h:b8 CC 72 [iv n] [] λr aa=>r= .ret (sv (a6b n))/\aa=[])(σ:List b9):b8 CC 72 [iv n] σ λr aa=>r= .ret (sv (a6b n))/\aa=σ:=
 b8.anyw hCC pu_ pu_ h σ
theorem b94(n:Nat)(hn:n<=4611686018427387904)(σ:List b9):b8 CC 72 [iv n] σ λr aa=>r= .ret (sv (a6b n))/\aa=σ:=by
 refine b8.anyw hCC pu_ pu_ ?_ σ
 induction n using Nat.strongRecOn
 rename_i n ih;refine c7 (qO Tryz.func72 ?_);refine qC ?_ ?_<;>intro h1
 .have hn9:n<10:=sm_ h1;refine W j9 ?_;refine W q_6 ?_;refine c6 ?_;exact⟨_,rE1,_,_,J,J,D9 (by rw[a74 hn9];exact n_8 str (e29 n hn9))⟩
 .have hn9:¬n<10:=sm_ h1;have hd:Int.tdiv (n:Int) 10=((n / 10:Nat):Int):=by rfl
  have hm:Int.tmod (n:Int) 10=((n%10:Nat):Int):=by rfl
  have g1:=a2m 18 (n / 10) X;have g2:=a2m 18 (n%10) X;have e1:IntKind.i64.wrap ((n:Int).tdiv 10)=((n / 10:Nat):Int):=by rw[hd];exact b0W X X
  have e2:(n:Int).tmod 10=((n%10:Nat):Int):=by exact hm
  refine W (a0Z J O J J J (J)) ?_;refine W (c4 J d2X ⟨O,O⟩ (by have h:=a8x (ih (n / 10) X X) [];rw[<- e1]at h;exact h) J) ?_;refine W (a0Z J O J J J (J)) ?_;refine W (c4 J d2X ⟨O,O⟩ (by have h:=a8x (ih (n%10) X X) [];rw[<- e2]at h;exact h) J) ?_;refine W a2k ?_;refine c6 ?_;exact⟨_,rE1,_,_,J,J,D9 (n_8 str (d5d hn9).symm)⟩
def leF(f x:Fi):Bool:=Op.bytesLess f.p x.p ||decide (f.p=x.p)
def a9G(f:Fi):Bool->List Fi->List Fi
 |d,[]=>if d then []else [f]
 |d,x::l=>(if !d&&leF f x then [f]else [])++((if x.p=f.p then []else [x])++a9G f (d ||leF f x) l)
def a6O(l:List Fi)(f:Fi):List Fi:=a9G f false l
def a5C(l:List Fi)(s:U):List Fi:=l.filter λx=>!decide (x.p=s)
theorem c78{f:Fi}{l:List Fi}{y:Fi}(h:l[i]?=some y)(d:Bool):a9G f d (l.drop i)=(if !d&&leF f y then [f]else [])++((if y.p=f.p then []else [y])++a9G f (d ||leF f y) (l.drop (i+1))):=by
 obtain⟨ab,rfl⟩:=n_3.1 h;rw[R0 ab];rfl
theorem c6U{s:U}{l:List Fi}{y:Fi}(h:l[i]?=some y):a5C (l.drop i) s=(if y.p=s then []else [y])++a5C (l.drop (i+1)) s:=by
 obtain⟨ab,rfl⟩:=n_3.1 h;rw[R0 ab,a5C,a7o];by_cases h:(l[i]).p=s
 .simp [h,a5C]
 .simp [h,a5C]
theorem b6O{l:List Fi}{tok:Option Nat}:C6 L am (.agg [.list (l.map Fi.cv) nn tok]) (.agg (o4 l nn)):=
 .agg J λi c c' h h'=>by
  rcases i with _|i
  .injection h with h;injection h' with h';subst h h';exact H5 (f:=Fi.cv) Fi.pure _
  .cases h
theorem c1I(fl:List Fi)(nn:Bool)(f:Fi)(cP:fl.length<=1000000):b8 CC 67 [.agg (o4 fl nn),.agg f.cells] [] λr τ=>D2 0 τ r (.ret (.agg (o4 (a6O fl f) (gnn (a6O fl f).length)))) []:=by
 refine qO Tryz.func67 ?_;refine z_7 ?_;refine d5L ?_;refine W a0E ?_;refine A2 hCC 4 J (α:=List Fi×Bool×Nat) (λx=>[(3,.ptr 1 0),(4,.ptr 2 0),(5,.ptr 3 0),(6,(.val (.bool x.2.1))),(10,(.list (fl.map Fi.cv) nn none)),(11,iv fl.length),(12,iv x.2.2)]) (λx=>[.box (o4 fl nn),.box f.cells,.box (o4 [] false),.box [(.list (x.1.map Fi.cv) (gnn x.1.length) (C3 x.1.length 4))],o5 x.1.length]) (λx=>x.2.2<=fl.length/\x.1.length<=x.2.2+1/\(x.2.1=false->x.1.length<=x.2.2)/\a6O fl f=x.1++a9G f x.2.1 (fl.drop x.2.2)) (λx=>fl.length -x.2.2) ⟨([],false,0),[0,1,2,3,9],⟨n_4 _,n_4 _,λ_=>n_4 _,J⟩,⟨J,J⟩,ut_,⟨.inr ⟨_,J,.same J K3⟩,.inr ⟨_,J,.same J b15⟩,.inr ⟨_,J,.same J b0l⟩,.inr ⟨_,J,.box ⟨.same J (a1Y _ ([]:List Fi) _),O⟩⟩,.inl J,O⟩⟩ ?_;intro⟨aw,d,i⟩ ⟨hi,eQ,hod,hr⟩;dsimp only at hi eQ hod hr⊢;refine qk (qC ?_ ?_)<;> intro h1
 .have ab:i<fl.length:=sm_ h1;obtain⟨y,hb⟩:∃y,fl[i]?=some y:=⟨fl[i]'ab,H⟩;rw[c78 hb]at hr;refine b3N ?_;refine qG c92 ?_;refine qG a02 ?_;refine qG c92 ?_;refine qG a02 ?_;refine qG (λhg=>a1F J hg hg J J (c04 _ _)) ?_;refine W N9 ?_;refine qC ?_ ?_<;>intro h2
  .have dr:d=false/\leF f y=true:=by
    have h2:(!d&&leF f y)=true:=h2;simpa using h2
   obtain⟨hd,aO⟩:=dr;subst hd;rw[aO]at hr;have hol2:=hod J;refine W e2O ?_;refine qD (A4 J O O J H q_5 a7I a5a c74 a6H J (.inr J) K2 b5v B7 ((aw++[f]).map Fi.cv) (aw++[f]).length H H ?_);refine qD (j2 J O O J j3 c1c (.inl J) J J (nb J) ?_);refine W a90 ?_;refine qC ?_ ?_<;>intro h3
   .have ft:¬y.p=f.p:=I h3;rw[D ft]at hr;refine W d6u ?_;refine qD (A4 J O O J H q_5 a7I a5a c74 a6H J (.inr J) K2 b5v B7 ((aw++[f]++[y]).map Fi.cv) (aw++[f]++[y]).length H H ?_);refine c8u ?_;exact⟨(aw++[f]++[y],true,i+1),[0,1,2,3,7],⟨Q,Q,by simp only[n_6,C5,J6];omega,(λh=>by cases h),by rw[hr];simp⟩,⟨J,J⟩,ut_,⟨.inr ⟨_,J,.same J K3⟩,.inr ⟨_,J,.same J b15⟩,.inr ⟨_,J,.same J b0l⟩,.inr ⟨_,J,.box ⟨C6.grow (f:=Fi.cv) (λa=>⟨.val _,.val _,O⟩) J,O⟩⟩,.inr ⟨_,J,.same J D8⟩,O⟩⟩
   .have ft:y.p=f.p:=I h3;rw[F ft]at hr;refine W j9 ?_;exact⟨(aw++[f],true,i+1),[0,1,2,3,6],⟨Q,Q,by simp only[n_6,C5,J6];omega,(λh=>by cases h),by rw[hr];simp⟩,⟨J,J⟩,ut_,⟨.inr ⟨_,J,.same J K3⟩,.inr ⟨_,J,.same J b15⟩,.inr ⟨_,J,.same J b0l⟩,.inr ⟨_,J,.box ⟨C6.grow (f:=Fi.cv) (λa=>⟨.val _,.val _,O⟩) J,O⟩⟩,.inr ⟨_,J,.same J D8⟩,O⟩⟩
  .have hd:(!d&&leF f y)=false:=by
    have h2:(!d&&leF f y)=false:=h2;simpa using h2
   have hd2:(d ||leF f y)=d:=by cases d<;>simp_all
   rw[hd,hd2]at hr;refine W a90 ?_;refine qC ?_ ?_<;>intro h4
   .have ft:¬y.p=f.p:=I h4;rw[D ft]at hr;refine W d6u ?_;refine qD (A4 J O O J H q_5 a7I a5a c74 a6H J (.inr J) K2 b5v B7 ((aw++[y]).map Fi.cv) (aw++[y]).length H H ?_);refine c8u ?_;exact⟨(aw++[y],d,i+1),[0,1,2,3,6],⟨Q,Q,by simp only[n_6,C5,J6];omega,(λh=>by have:=hod h;simp only[n_6,C5,J6];omega),by rw[hr];simp⟩,⟨J,J⟩,ut_,⟨.inr ⟨_,J,.same J K3⟩,.inr ⟨_,J,.same J b15⟩,.inr ⟨_,J,.same J b0l⟩,.inr ⟨_,J,.box ⟨C6.grow (f:=Fi.cv) (λa=>⟨.val _,.val _,O⟩) J,O⟩⟩,.inr ⟨_,J,.same J D8⟩,O⟩⟩
   .have ft:y.p=f.p:=I h4;rw[F ft]at hr;refine W j9 ?_;exact⟨(aw,d,i+1),[0,1,2,3,4],⟨Q,Q,Q,(λh=>by have:=hod h;dsimp only;omega),by rw[hr];simp⟩,⟨J,J⟩,ut_,⟨.inr ⟨_,J,.same J K3⟩,.inr ⟨_,J,.same J b15⟩,.inr ⟨_,J,.same J b0l⟩,.inr ⟨_,J,.box ⟨C6.grow (f:=Fi.cv) (λa=>⟨.val _,.val _,O⟩) J,O⟩⟩,.inr ⟨_,J,.same J D8⟩,O⟩⟩
 .have aF:fl.length<=i:=sm_ h1;rw[T6 aF]at hr;refine j6 ?_;refine qC ?_ ?_<;>intro h5
  .have hd:d=false:=I h5;subst hd;replace hr:a6O fl f=aw++[f]:=hr;refine W e2O ?_;refine qD (A4 J O O J H q_5 a7I a5a c74 a6H J (.inr J) K2 b5v B7 ((aw++[f]).map Fi.cv) (aw++[f]).length H H ?_);refine qD (j2 J O O J j3 c1c (.inl J) J J (nb J) ?_);refine d3F ?_;exact⟨_,F2 J a3T,(by rw[hr];exact d5S b6O)⟩
  .have hd:d=true:=I h5;subst hd;replace hr:a6O fl f=aw:=by rw[hr];exact a0z _
   refine d3F ?_;exact⟨_,F2 J a3T,(by rw[hr];exact d5S b6O)⟩
theorem a1a(fl:List Fi)(nn:Bool)(f:Fi)(cP:fl.length<=1000000)(σ:List b9):b8 CC 67 [.agg (o4 fl nn),.agg f.cells] σ λr τ=>r= .ret (.agg (o4 (a6O fl f) (gnn (a6O fl f).length)))/\τ=σ:=
 d3c hCC (λa h=>by simp at h;rcases h with rfl|rfl;exact r6 (cs:=o4 _ _) ⟨K6 _ _,O⟩;exact r6 (Fi.pure _)) (r6 (cs:=o4 _ _) ⟨K6 _ _,O⟩) (c1I fl nn f cP) σ
theorem c2s(fl:List Fi)(nn:Bool)(s:U)(cP:fl.length<=1000000):b8 CC 71 [.agg (o4 fl nn),(sv s)] [] λr τ=>D2 0 τ r (.ret (.agg (o4 (a5C fl s) (gnn (a5C fl s).length)))) []:=by
 refine qO Tryz.func71 ?_;refine qD (I0 J O j3 j5 ?_);refine d5L ?_;refine W a0E ?_;refine A2 hCC 3 J (α:=List Fi×Nat) (λx=>[(1,(sv s)),(4,.ptr 1 0),(5,.ptr 2 0),(9,(.list (fl.map Fi.cv) nn none)),(10,iv fl.length),(11,iv x.2)]) (λx=>[.box (o4 fl nn),.box (o4 [] false),.box [(.list (x.1.map Fi.cv) (gnn x.1.length) (C3 x.1.length 3))],o5 x.1.length]) (λx=>x.2<=fl.length/\x.1.length<=x.2/\a5C fl s=x.1++a5C (fl.drop x.2) s) (λx=>fl.length -x.2) ⟨([],0),[0,1,2,9],⟨n_4 _,n_4 _,J⟩,⟨J,J⟩,ut_,⟨.inr ⟨_,J,.same J K3⟩,.inr ⟨_,J,.same J b0l⟩,.inr ⟨_,J,.box ⟨.same J (a1Y _ ([]:List Fi) _),O⟩⟩,.inl J,O⟩⟩ ?_;intro⟨aw,i⟩ ⟨hi,eQ,hr⟩;dsimp only at hi eQ hr⊢;refine qk (qC ?_ ?_)<;> intro h1
 .have ab:i<fl.length:=sm_ h1;obtain⟨y,hb⟩:∃y,fl[i]?=some y:=⟨fl[i]'ab,H⟩;rw[c6U hb]at hr;refine b3N ?_;refine W a90 ?_;refine qC ?_ ?_<;>intro h2
  .have ft:¬y.p=s:=I h2;rw[D ft]at hr;refine W d6u ?_;refine qD (A4 J O O J H q_5 a7I a5a c74 a6H J (.inr J) K2 b5v B7 ((aw++[y]).map Fi.cv) (aw++[y]).length H H ?_);refine c8u ?_;exact⟨(aw++[y],i+1),[0,1,2,5],⟨Q,Q,by simp only[n_6,C5,J6];omega,by rw[hr];simp⟩,⟨J,J⟩,ut_,⟨.inr ⟨_,J,.same J K3⟩,.inr ⟨_,J,.same J b0l⟩,.inr ⟨_,J,.box ⟨C6.grow (f:=Fi.cv) (λa=>⟨.val _,.val _,O⟩) J,O⟩⟩,.inr ⟨_,J,.same J D8⟩,O⟩⟩
  .have ft:y.p=s:=I h2;rw[F ft]at hr;refine W j9 ?_;exact⟨(aw,i+1),[0,1,2,3],⟨Q,Q,Q,by rw[hr];simp⟩,⟨J,J⟩,ut_,⟨.inr ⟨_,J,.same J K3⟩,.inr ⟨_,J,.same J b0l⟩,.inr ⟨_,J,.box ⟨C6.grow (f:=Fi.cv) (λa=>⟨.val _,.val _,O⟩) J,O⟩⟩,.inr ⟨_,J,.same J D8⟩,O⟩⟩
 .have aF:fl.length<=i:=sm_ h1;rw[T6 aF]at hr;replace hr:a5C fl s=aw:=by rw[hr];exact a0z _
  refine j6 ?_;refine d3F ?_;exact⟨_,F2 J a3T,(by rw[hr];exact d5S b6O)⟩
theorem b4D(fl:List Fi)(nn:Bool)(s:U)(cP:fl.length<=1000000)(σ:List b9):b8 CC 71 [.agg (o4 fl nn),(sv s)] σ λr τ=>r= .ret (.agg (o4 (a5C fl s) (gnn (a5C fl s).length)))/\τ=σ:=
 d3c hCC (λa h=>by simp at h;rcases h with rfl|rfl;exact r6 (cs:=o4 _ _) ⟨K6 _ _,O⟩;exact .val _) (r6 (cs:=o4 _ _) ⟨K6 _ _,O⟩) (c2s fl nn s cP) σ
theorem a2h{l:List Int}{k:Nat}{n:Int}(hn:1<=n):0<=Q0 l k n/\Q0 l k n<n:=b5T hn
theorem a7Z(n:Nat)(l:List Int)(nn:Bool)(k:Nat):I6 n (x9 l nn k):=z6 ⟨V0 _ _ _,.val _,O⟩
theorem c2b(l:List Int)(nn:Bool)(k:Nat)(aV:k<=900000000)(hl:l.length<=maxLen)(n:Nat)(hn:n<=1000)(al:U)(ha:1<=al.length)(fR:al.length<=1000):b8 CC 121 [.ptr 0 0,iv n,(sv al)] [x9 l nn k] λr τ=>∃a:U×Nat,D2 1 τ r (.ret (sv a.1)) [x9 l nn a.2]/\(a.1.length=n/\k<=a.2/\a.2<=k+n):=by
 refine qO Tryz.func121 ?_;refine A2 hCC 1 J (α:=U×Nat) (λx=>[(0,.ptr 0 0),(1,iv n),(2,(sv al)),(7,(.list (x.1.map bcv) (gnn x.1.length) (C3 x.1.length 1))),(8,iv x.1.length)]) (λx=>[x9 l nn x.2,o5 x.1.length]) (λx=>x.1.length<=n/\x.2=k+x.1.length) (λx=>n-x.1.length) ⟨([],k),[0,9],⟨n_4 _,J⟩,⟨J,J⟩,⟨b96,b96,b96,b96,b96,O⟩,uq_⟩ ?_;intro⟨aw,p⟩ ⟨eQ,hp⟩;dsimp only at eQ hp⊢;refine qk (qC ?_ ?_)<;> intro h1
 .have ab:aw.length <n:=sm_ h1;have hb:=a2h (l:=l) (k:=p) (n:=(al.length:Int)) X;obtain⟨c,hc⟩:∃c,al[(Q0 l p (al.length:Int)).toNat]?=some c:=⟨al[(Q0 l p (al.length:Int)).toNat]'X,H⟩;refine W R6 ?_;refine qD (c5 J a7G i7 (M4 l nn p _ 0 J X hl (al.length:Int) X) J ?_);intro _ _;refine W (O6 J O O J J t_7 X hc) ?_;refine W e1w ?_;refine qD (A4 J O O J H q_5 Z3 a1P b3l a4D J (.inr J) K2 (by have hb:Tryz.t5.bytes=1:=J;rw[hb];first|omega|(simp;done)|(simp;omega)) B7 ((aw++[c]).map bcv) (aw++[c]).length H H ?_);refine W j9 ?_;exact⟨(aw++[c],p+1),[0,2],⟨by simp only[n_6,C5,J6];omega,by simp only[n_6,C5,J6];omega,by simp only[n_6,C5,J6];omega⟩,⟨J,J⟩,⟨⟨O,ur_⟩,⟨O,ur_⟩,⟨O,ur_⟩,⟨O,ur_⟩,⟨O,(by first|exact ur_|exact .same (n_8 (λx=>iv x) (by simp:(aw.length:Int)+1=((aw++[c]).length:Int))) uo_)⟩,O⟩,uq_⟩
 .have aF:aw.length=n:=sm_ h1;refine j6 ?_;refine W b73 ?_;refine c6 ?_;exact⟨_,rE1,⟨(aw,p),a2G J U8 (.old (.val _)),aF,Q,Q⟩⟩
theorem c54(l:List Int)(nn:Bool)(k:Nat)(aV:k<=900000000)(hl:l.length<=maxLen)(n:Nat)(hn:n<=1000)(al:U)(ha:1<=al.length)(fR:al.length<=1000)(σ:List b9)(q:Nat)(hq:σ[q]?=some (x9 l nn k)):b8 CC 121 [.ptr q 0,iv n,(sv al)] σ λr τ=>∃a:U×Nat,r= .ret (sv a.1)/\τ=σ.set q (x9 l nn a.2)/\(a.1.length=n/\k<=a.2/\a.2<=k+n):=
 a8N (c:=λa:U×Nat=>sv a.1) (S:=λa=>x9 l nn a.2) hCC (λa h=>by simp at h;rcases h with rfl|rfl<;>exact .val _) (λ_=>.val _) (λ_=>H7 _ _ _) (H7 _ _ _) J (c2b l nn k aV hl n hn al ha fR) σ q hq
theorem d3s(l:List Int)(nn:Bool)(k:Nat)(aV:k<=800000000)(hl:l.length<=maxLen):b8 CC 70 [.ptr 0 0] [x9 l nn k] λr τ=>∃a:U×Nat,D2 1 τ r (.ret (sv a.1)) [x9 l nn a.2]/\(a.1.length<=3/\k<=a.2/\a.2<=k+4):=by
 refine qO Tryz.func70 ?_;refine qD (c5 J a7G o8 (M4 l nn k _ 0 J X hl 4 X) J ?_);intro _ _;have hb:=a2h (l:=l) (k:=k) (n:=4) X;obtain⟨m,hm⟩:∃m:Nat,Q0 l k 4=(m:Int):=⟨(Q0 l k 4).toNat,X⟩;rw[hm]at hb⊢;refine qD (c5 J Tryz.call121 a21 (c54 l nn (k+1) X hl m X [97,98,0,255,48] G G _ 0 J) J ?_);intro⟨s,p⟩ ⟨hs,fj,cl⟩;dsimp only at hs fj cl⊢;refine c6 ?_;exact⟨_,rE1,⟨(s,p),a2G J U8 (.old (.val _)),Q,Q,Q⟩⟩
theorem c3e(l:List Int)(nn:Bool)(k:Nat)(aV:k<=800000000)(hl:l.length<=maxLen)(σ:List b9)(q:Nat)(hq:σ[q]?=some (x9 l nn k)):b8 CC 70 [.ptr q 0] σ λr τ=>∃a:U×Nat,r= .ret (sv a.1)/\τ=σ.set q (x9 l nn a.2)/\(a.1.length<=3/\k<=a.2/\a.2<=k+4):=
 a8N (c:=λa:U×Nat=>sv a.1) (S:=λa=>x9 l nn a.2) hCC (λa h=>by simp at h) (λ_=>.val _) (λ_=>H7 _ _ _) (H7 _ _ _) J (d3s l nn k aV hl) σ q hq
def a8F(l:List Int)(nn:Bool)(ps:List U)(d L K B:Nat):Prop:=∀(k:Nat),k<=B->∀(σ:List b9) (q:Nat),σ[q]?=some (x9 l nn k)->b8 CC 122 [.ptr q 0,iv d,.list (ps.map scv) (gnn ps.length) none] σ λr τ=>∃a:U×Nat,r= .ret (sv a.1)/\τ=σ.set q (x9 l nn a.2)/\(a.1.length<=L/\k<=a.2/\a.2<=k+K)
abbrev eob(l:List Int)(nn:Bool)(ps:List U)(d p:Nat):List b9:=[x9 l nn (p),.box [.ptr 0 0],.box [iv d],.box [(.list (ps.map scv) (gnn ps.length) none)]]
theorem b1D{l:List Int}{ps:List U}{K:Nat}(hd:d<=10)(ih:a8F l nn ps d L K B)(p:Nat)(hp:p<=B):b8 CC 163 [.ptr 1 0,.ptr 2 0,.ptr 3 0] (eob l nn ps (d+1) p) λr τ=>∃a:U×Nat,r= .ret (sv a.1)/\τ=eob l nn ps (d+1) a.2/\(a.1.length<=L/\p<=a.2/\a.2<=p+K):=by
 refine qO Tryz.func163 ?_;refine W X7 ?_;refine qD (c5 J b8H D6 (by have h:=ih p hp (eob l nn ps (d+1) p) 0 J;rw[show(d:Int)=((d+1:Nat):Int) -1 by omega]at h;exact h) J ?_);intro⟨s,p1⟩ ⟨h1,h2,h3⟩;dsimp only at h1 h2 h3⊢;refine c6 ?_;exact⟨_,rE1,⟨(s,p1),J,J,h1,h2,h3⟩⟩
theorem c9n(l:List Int)(nn:Bool)(k:Nat)(hl:l.length<=maxLen)(d:Nat)(hd:d<=10)(ps:List U)(cm:∀s∈ps,s.length<=10)(ba:ps.length<=2)(L K B:Nat)(hL:L<=1000000)(hK:K<=1000)(aV:k+3*K+10<=B)(hB:B<=900000000)(eh:1<=d->∀p,p<=B->b8 CC 163 [.ptr 1 0,.ptr 2 0,.ptr 3 0] (eob l nn ps d p) λr τ=>∃a:U×Nat,r= .ret (sv a.1)/\τ=eob l nn ps d a.2/\(a.1.length<=L/\p<=a.2/\a.2<=p+K)):b8 CC 122 [.ptr 0 0,iv d,.list (ps.map scv) (gnn ps.length) none] [x9 l nn k] λr τ=>∃a:U×Nat,D2 1 τ r (.ret (sv a.1)) [x9 l nn a.2]/\(a.1.length<=3*L+30/\k<=a.2/\a.2<=k+(3*K+5)):=by
 refine cO Tryz.func122 ?_;refine qs 1 (qD (I0 J O j3 (.inl J) ?_));refine qD (I0 J O j3 (.inl J) ?_);refine qD (I0 J O j3 (.inl J) ?_);refine G4 ?_;refine N6 (α:=Bool×Nat) (λx=>[(3,.ptr 1 0),(4,.ptr 2 0),(5,.ptr 3 0),(15,(.val (.bool x.1)))]) (λx=>[x9 l nn (x.2),.box [.ptr 0 0],.box [iv d],.box [(.list (ps.map scv) (gnn ps.length) none)]]) (λx=>k<=x.2/\x.2<=k+1/\(x.1=false->1<=d)) ?_ ?_
 .
  refine qk (qG (λhg=>o6 J O J d2J J J) ?_);refine b8b (.val (.bool false)) J J O J J (λhg=>c5 J b0M ⟨hg,J,J,O⟩ (J7 l nn k _ 0 J X hl 1 4 X) J ?_) (λhg=>?_)
  .
   intro _ _;refine c0Q ?_;exact⟨(_,k+1),(by exact⟨Q,Q,λ_=>sm_ hg⟩),⟨⟨O,J⟩,⟨O,J⟩,⟨O,J⟩,⟨O,J⟩,O⟩,J⟩
  .
   refine c0Q ?_;exact⟨(_,k),(by exact⟨Q,Q,λhb=>by exfalso;revert hb hg;cases decide ((d:Int)<=0)<;>simp⟩),⟨⟨O,J⟩,⟨O,J⟩,⟨O,J⟩,⟨O,J⟩,O⟩,J⟩
 .intro ⟨b,p⟩ E0 ⟨fj,cl,eR⟩;dsimp only at fj cl eR⊢;refine cC ?_ ?_<;>intro h1
  .refine N6 (α:=Nat) (λ_=>[(3,.ptr 1 0)]) (λx=>[x9 l nn (x),.box [.ptr 0 0],.box [iv d],.box [(.list (ps.map scv) (gnn ps.length) none)]]) (λx=>k<=x/\x<=k+3) ?_ ?_
   .
    refine qs 1 (qD (c5 J a7G o8 (M4 l nn p _ 0 J X hl 9 X) J ?_));intro _ _;refine N6 (α:=Bool) (λb=>[(3,.ptr 1 0),(4,.ptr 2 0),(5,.ptr 3 0),(17,(iv (Q0 l p 9))),(18,(.val (.bool b)))]) (λ_=>[x9 l nn (p+1),.box [.ptr 0 0],.box [iv d],.box [(.list (ps.map scv) (gnn ps.length) none)]]) (λ_=>True) ?_ ?_
    .
     refine qk (qC ?_ ?_)<;> intro h2
     .exact ⟨_,O,⟨⟨O,J⟩,⟨O,J⟩,⟨O,J⟩,⟨O,J⟩,⟨O,J⟩,O⟩,J⟩
     .exact ⟨_,O,⟨⟨O,J⟩,⟨O,J⟩,⟨O,J⟩,⟨O,J⟩,⟨O,J⟩,O⟩,J⟩
    .intro b2 E2 _;refine qC ?_ ?_<;>intro h3
     .refine W I7 ?_;refine qC ?_ ?_<;>intro h4
      .obtain ⟨x,ps',rfl⟩:∃x ps',ps=x::ps':=by
        rcases ps with _|⟨x,ps'⟩
        .simp at h4
        .exact ⟨x,ps',J⟩
       refine qD (c5 J a6J i7 (N4 l nn (p+1) _ 0 J X hl (x::ps') H X) J ?_);intro v hv;have dm:=cm v hv;refine c6 ?_;exact⟨_,rE1,⟨(_,p+2),a2G J U8 (.old (.val _)),(by show List.length _<=_;simp only;omega),Q,Q⟩⟩
      .exact ⟨(p+1),⟨X,X⟩,tu_,J⟩
     .refine qC ?_ ?_<;>intro h5
      .refine cW 2 ?_;refine hY c4r ?_;refine hY c44 ?_;refine d8Q ?_;intro v hv;have dm:v.length<=8:=T4 (.inr (.inr (.inr (.inl hv))));refine a3l ?_;exact d9u
      .refine qC ?_ ?_<;>intro h6
       .refine cW 2 ?_;refine hY c4r ?_;refine hY c44 ?_;refine d8Q ?_;intro v hv;have dm:v.length<=8:=T4 (.inr (.inr (.inr (.inl hv))));refine a3l ?_;exact d9u
       .refine qC ?_ ?_<;>intro h7
        .refine cW 2 ?_;refine hY c4r ?_;refine hY (c4 J Tryz.call84 trivial (b2r _) J) ?_;refine W1 ?_;refine qD (c5 J a6J i7 (N4 l nn (p+1) _ 0 J X hl a1q G G) J ?_);intro v hv;have dm:v.length<=8:=T4 (.inr (.inr (.inr (.inr hv))));refine a3l ?_;exact d9u
        .refine qC ?_ ?_<;>intro h8
         .refine qD (c5 J b0M a2N (J7 l nn (p+1) _ 0 J X hl 1 5 X) J ?_);intro _ _;refine qC ?_ ?_<;>intro h9
          .refine W (B1 ([0,1,63].map icv) J ⟨J,J,J,O⟩ t_6 t_1 t_8 J J J J J J J J J) ?_;refine qD (c5 J c3O i7 (a6c l nn (p+2) _ 0 J X hl [0,1,63] H H) J ?_);intro v hv;obtain⟨m,hm,ce⟩:∃m:Nat,v=(m:Int)/\m<10^17:=by
            simp only[J0,a6A,or_false]at hv;exact⟨v.toNat,X,X⟩
           subst hm;have eN:=a2m 16 m ce;refine W c5L ?_;refine a3l ?_;refine c6 ?_;exact⟨_,rE1,⟨(_,p+3),a2G J U8 (.old (.val _)),c0g,Q,Q⟩⟩
          .exact ⟨(p+2),⟨X,X⟩,tu_,J⟩
         .exact ⟨(p+1),⟨X,X⟩,tu_,J⟩
   .intro p3 E3 ⟨hp3,hp4⟩;refine qk (W (B1 ([0,1,2,3,10,255,9007199254740992,1073741824].map icv) J ⟨J,J,J,J,J,J,J,J,O⟩ t_6 t_1 t_8 J J J J J J J J J) ?_);refine qD (c5 J c3O i7 (a6c l nn (p3) _ 0 J X hl [0,1,2,3,10,255,9007199254740992,1073741824] H H) J ?_);intro v hv;obtain⟨m,hm,ce⟩:∃m:Nat,v=(m:Int)/\m<10^17:=by
     simp only[J0,a6A,or_false]at hv;exact⟨v.toNat,X,X⟩
    subst hm;have eN:=a2m 16 m ce;refine W c5L ?_;refine c6 ?_;exact⟨_,rE1,⟨(_,p3+1),a2G J U8 (.old (.val _)),(by show List.length _<=_;simp only;omega),Q,Q⟩⟩
  .have hd1:1<=d:=eR (I h1);refine qk ?_;refine qs 1 (W (a8Y J D6) ?_);refine G4 ?_;refine qs 1 (qD (c5 J a7G o8 (M4 l nn p _ 0 J X hl 10 X) J ?_));intro _ _;refine N6 (α:=Bool) (λb=>[(3,.ptr 1 0),(7,(.clo 163 [.ptr 1 0,.ptr 2 0,.ptr 3 0])),(64,(iv (Q0 l p 10))),(65,(.val (.bool b)))]) (λ_=>[x9 l nn (p+1),.box [.ptr 0 0],.box [iv d],.box [(.list (ps.map scv) (gnn ps.length) none)]]) (λ_=>True) ?_ ?_
   .
    refine qk (qC ?_ ?_)<;> intro bb
    .exact ⟨_,O,⟨⟨O,J⟩,⟨O,J⟩,⟨O,J⟩,⟨O,J⟩,O⟩,J⟩
    .refine qC ?_ ?_<;>intro cB
     .exact ⟨_,O,⟨⟨O,J⟩,⟨O,J⟩,⟨O,J⟩,⟨O,J⟩,O⟩,J⟩
     .exact ⟨_,O,⟨⟨O,J⟩,⟨O,J⟩,⟨O,J⟩,⟨O,J⟩,O⟩,J⟩
   .intro b4 E4 _;refine qC ?_ ?_<;>intro cX
    .refine cF [3] [0,1,4] (tl:=[(2,[2]),(3,[2]),(5,[]),(6,[]),(7,[])]) ?_;refine chf J d0M ?_;refine chf J (c8 J d7w) ?_;refine b5P ?_;refine B0 J J J (c5 J a6J i7 (N4 l nn (p+1) _ 0 J X hl a0c G G) J ?_);intro v hv;have dm:v.length<=8:=T4 (.inr (.inl hv));refine⟨⟨F4,O⟩,?_⟩;refine d6Y ?_;intro⟨s1,p1⟩ ⟨bz,bY,aG⟩;dsimp only at bz bY aG⊢;refine c9S ?_;refine c1G ?_;refine W (B1 ([0,0,0,1].map icv) J ⟨J,J,J,J,O⟩ t_6 t_1 t_8 J J J J J J J J J) ?_;refine qD (c5 J c3O i7 (a6c l nn (p1) _ 0 J X hl [0,0,0,1] H H) J ?_);intro n hn;have hn01:n=0\/n=1:=by
      simp only[J0,a6A,or_false]at hn;omega
     refine H3 (α:=U×Nat×Int) (λx=>[(7,(.clo 163 [.ptr 1 0,.ptr 2 0,.ptr 3 0])),(8,(sv x.1)),(9,iv x.2.2)]) (λx=>[x9 l nn (x.2.1),.box [.ptr 0 0],.box [iv d],.box [(.list (ps.map scv) (gnn ps.length) none)]]) (λx=>(x.2.2=0\/x.2.2=1)/\(x.2.2=1->x.1.length<=L+9/\x.2.1<=k+4+K)/\x.1.length<=2*L+11/\k<=x.2.1/\x.2.1<=k+4+2*K) (λx=>x.2.2.toNat) (_,p1+1,n) ⟨hn01,λ_=>⟨by show List.length _<=_;simp only[n_6,C5,J6];omega,Q⟩,by show List.length _<=_;simp only[n_6,C5,J6];omega,Q,Q⟩ ⟨⟨O,J⟩,⟨O,J⟩,⟨O,J⟩,O⟩ J ?_;intro⟨s,p5,n5⟩ E5 ⟨hn5,hn6,hs5,hq5,hq6⟩;dsimp only at hn5 hn6 hs5 hq5 hq6⊢;refine qk (qC ?_ ?_)<;> intro dw
     .have h13':n5=1:=sm_ dw;obtain⟨hs6,hq7⟩:=hn6 h13';refine qD (U7 J O J c0c trivial (by exact eh X (p5) X) J ?_);intro⟨s2,p2⟩ ⟨dT,cN,aX⟩;dsimp only at dT cN aX⊢;refine W a5D ?_;refine W a2k ?_;refine W X7 ?_;exact⟨(_,p2,n5-1),Q,(by exact⟨Q,λh=>by dsimp only at h;omega,by show List.length _<=_;simp only[n_6,C5,J6];omega,Q,Q⟩),⟨⟨O,J⟩,⟨O,J⟩,⟨O,J⟩,O⟩,J⟩
     .refine j6 ?_;refine W Z2 ?_;refine c6 ?_;exact⟨_,rE1,⟨(_,p5),a2G J U8 (.old (.val _)),c0g,Q,Q⟩⟩
    .refine qC ?_ ?_<;>intro gN
     .refine qD (U7 J O J c0c trivial (by exact eh X (p+1) X) J ?_);intro⟨s1,p1⟩ ⟨bz,bY,aG⟩;dsimp only at bz bY aG⊢;refine a3l ?_;refine qD (U7 J O J c0c trivial (by exact eh X (p1) X) J ?_);intro⟨s2,p2⟩ ⟨dT,cN,aX⟩;dsimp only at dT cN aX⊢;refine b1s ?_;refine qD (U7 J O J c0c trivial (by exact eh X (p2) X) J ?_);intro⟨s3,p3⟩ ⟨fT,hq3,eZ⟩;dsimp only at fT hq3 eZ⊢;refine b1s ?_;refine c6 ?_;exact⟨_,rE1,⟨(_,p3),a2G J U8 (.old (.val _)),c0g,Q,Q⟩⟩
     .refine qC ?_ ?_<;>intro h15
      .refine cF [3,4] [0,1,5] (tl:=[(2,[2]),(3,[2]),(4,[2]),(6,[]),(7,[]),(8,[]),(9,[])]) ?_;refine chf J d0M ?_;refine chf J (c8 J c44) ?_;refine b5P ?_;refine B0 J J J (c5 J a6J i7 (N4 l nn (p+1) _ 0 J X hl a18 G G) J ?_);intro v hv;have dm:v.length<=8:=T4 (.inr (.inr (.inr (.inl hv))));refine⟨⟨F4,O⟩,?_⟩;refine b23 J J (λ_=>c8 J a5D) ?_;refine d6Y ?_;intro⟨s1,p1⟩ ⟨bz,bY,aG⟩;dsimp only at bz bY aG⊢;refine c9S ?_;refine E9 J J c3T ⟨O,?_⟩;refine c1G ?_;exact c6j
      .refine qC ?_ ?_<;>intro h16
       .refine qD (U7 J O J c0c trivial (by exact eh X (p+1) X) J ?_);intro⟨s1,p1⟩ ⟨bz,bY,aG⟩;dsimp only at bz bY aG⊢;refine a3l ?_;exact c6j
       .refine qk ?_;refine cF [2,3,7,8] [0,4,5,9] (tl:=[(1,[1,2,3]),(2,[1,2,3]),(3,[1,2,3]),(6,[3]),(7,[3]),(8,[3]),(10,[]),(11,[]),(12,[]),(13,[])]) ?_;refine chf J W7 ?_;refine chf J d0M ?_;refine chf J (c8 J e15) ?_;refine b5P ?_;refine B0 J J J (U7 J O J c0c trivial (by exact eh X (p+1) X) J ?_);intro⟨s1,p1⟩ ⟨bz,bY,aG⟩;dsimp only at bz bY aG⊢;refine⟨⟨(by exact c8 J c4r),(by exact c8 J e15),F4,O⟩,?_⟩;refine b23 J J (λ_=>c8 J a5D) ?_;refine b23 J J (λ_=>c8 J Z2) ?_;refine B0 J J J (c5 J a6J i7 (N4 l nn p1 _ 0 J X hl ([[43],[45],[42],[47],[37],[60],[61,61]]:List U) H H) J ?_);intro v hv;have dm:v.length<=2:=by revert v;decide
        refine⟨⟨F4,O⟩,?_⟩;refine b23 J J (λ_=>c8 J a2k) ?_;refine b23 J J (λ_=>c8 J Z2) ?_;refine B0 J J J (U7 J O J c0c trivial (by exact eh X (p1+1) X) J ?_);intro⟨s2,p2⟩ ⟨dT,cN,aX⟩;dsimp only at dT cN aX⊢;refine c9S ?_;refine E9 J J c3T ⟨O,?_⟩;refine b0m ?_;exact⟨_,rE1,⟨(_,p2),a2G J U8 (.old (.val _)),c0g,Q,Q⟩⟩
theorem a8c{l:List Int}{k:Nat}(hl:l.length<=maxLen)(d:Nat)(hd:d<=10)(ps:List U)(cm:∀s∈ps,s.length<=10)(ba:ps.length<=2)(L K B:Nat)(hL:L<=1000000)(hK:K<=1000)(aV:k+3*K+10<=B)(hB:B<=900000000)(eh:1<=d->∀p,p<=B->b8 CC 163 [.ptr 1 0,.ptr 2 0,.ptr 3 0] (eob l nn ps d p) λr τ=>∃a:U×Nat,r= .ret (sv a.1)/\τ=eob l nn ps d a.2/\(a.1.length<=L/\p<=a.2/\a.2<=p+K))(hq:σ[q]?=some (x9 l nn k)):
 b8 CC 122 [.ptr q 0,iv d,.list (ps.map scv) (gnn ps.length) none] σ λr τ=>∃a:U×Nat,r= .ret (sv a.1)/\τ=σ.set q (x9 l nn a.2)/\(a.1.length<=3*L+30/\k<=a.2/\a.2<=k+(3*K+5)):=
 a8N (c:=λa:U×Nat=>sv a.1) (S:=λa=>x9 l nn a.2) hCC (λa h=>by simp at h;rcases h with rfl|rfl;exact .val _;exact F3 _ _) (λ_=>.val _) (λ_=>H7 _ _ _) (H7 _ _ _) J (c9n l nn k hl d hd ps cm ba L K B hL hK aV hB eh) σ q hq
theorem a7J(l:List Int)(nn:Bool)(hl:l.length<=maxLen)(ps:List U)(cm:∀s∈ps,s.length<=10)(ba:ps.length<=2):a8F l nn ps 0 30 5 800000000/\a8F l nn ps 1 120 20 799999000/\a8F l nn ps 2 390 65 799998000/\a8F l nn ps 3 1200 200 799997000:=by
 have e0:a8F l nn ps 0 30 5 800000000:=λk hk σ q hq=>a8c hl 0 X ps cm ba 0 0 900000000 X X X X (λh=>by omega) hq;have e1:a8F l nn ps 1 120 20 799999000:=λk hk σ q hq=>a8c hl 1 X ps cm ba 30 5 800000000 X X X X (λ_ p hp=>b1D X e0 p hp) hq;have e2:a8F l nn ps 2 390 65 799998000:=λk hk σ q hq=>a8c hl 2 X ps cm ba 120 20 799999000 X X X X (λ_ p hp=>b1D X e1 p hp) hq;have e3:a8F l nn ps 3 1200 200 799997000:=λk hk σ q hq=>a8c hl 3 X ps cm ba 390 65 799998000 X X X X (λ_ p hp=>b1D X e2 p hp) hq;exact⟨e0,e1,e2,e3⟩
theorem c82(l:List Int)(nn:Bool)(k:Nat)(aV:k<=700000000)(hl:l.length<=maxLen):b8 CC 73 [.ptr 0 0] [x9 l nn k] λr τ=>∃a:U×Nat,D2 1 τ r (.ret (sv a.1)) [x9 l nn a.2]/\(a.1.length<=1240/\k<=a.2/\a.2<=k+210):=by
 refine cO Tryz.func73 ?_;refine qs 1 ?_;refine N6 (α:=Nat) (λ_=>[(0,.ptr 0 0)]) (λx=>[x9 l nn (x)]) (λx=>x=k+1) ?_ ?_
 .
  refine qs 1 (qD (c5 J a7G o8 (M4 l nn k _ 0 J X hl 8 X) J ?_));intro _ _;refine N6 (α:=Bool) (λb=>[(0,.ptr 0 0),(2,(sv ([]))),(6,(iv (Q0 l k 8))),(7,(.val (.bool b)))]) (λ_=>[x9 l nn (k+1)]) (λ_=>True) ?_ ?_
  .
   refine qk (qC ?_ ?_)<;> intro h1
   .exact ⟨_,O,⟨⟨O,J⟩,⟨O,J⟩,⟨O,J⟩,⟨O,J⟩,O⟩,J⟩
   .refine qC ?_ ?_<;>intro h2
    .exact ⟨_,O,⟨⟨O,J⟩,⟨O,J⟩,⟨O,J⟩,⟨O,J⟩,O⟩,J⟩
    .exact ⟨_,O,⟨⟨O,J⟩,⟨O,J⟩,⟨O,J⟩,⟨O,J⟩,O⟩,J⟩
  .intro b E0 _;refine qC ?_ ?_<;>intro h3
   .refine W (c4 J Tryz.call82 trivial (c2Z _) J) ?_;refine qD (c5 J a6J i7 (N4 l nn (k+1) _ 0 J X hl a6n G G) J ?_);intro v hv;have dm:v.length<=8:=T4 (.inr (.inr (.inl hv)));refine a3l ?_;refine qD (c5 J b8H a2N (by exact(a7J l nn hl ([]:List U) G G).2.2.2 (k+2) X _ 0 J) J ?_);intro⟨s1,p1⟩ ⟨bz,bY,aG⟩;dsimp only at bz bY aG⊢;refine b1s ?_;exact c6j
   .refine qC ?_ ?_<;>intro h4
    .refine W c44 ?_;refine qD (c5 J a6J i7 (N4 l nn (k+1) _ 0 J X hl a18 G G) J ?_);intro v hv;have dm:v.length<=8:=T4 (.inr (.inr (.inr (.inl hv))));refine a3l ?_;refine qD (c5 J b8H a2N (by exact(a7J l nn hl ([]:List U) G G).2.2.1 (k+2) X _ 0 J) J ?_);intro⟨s1,p1⟩ ⟨bz,bY,aG⟩;dsimp only at bz bY aG⊢;refine b1s ?_;exact c6j
    .exact ⟨_,J,⟨⟨O,J⟩,O⟩,J⟩
 .intro p E0 hp;subst hp;refine qk (qD (c4w J J J J t_2 t_0 t_4 J ?_));refine qD (c5 J b0M a2N (J7 l nn (k+1) _ 0 J X hl 1 5 X) J ?_);intro _ _;refine qC ?_ ?_<;>intro h5
  .refine W (B1 [scv [98]] J ⟨J,O⟩ t_2 t_0 t_4 J J J J J J J J J) ?_;refine qD (A4 J O O J (show 1=List.length _ from J) q_5 t_2 t_0 a3p t_4 J (.inr J) K2 Z6 B7 (([[97],[98]]:List U).map scv) 2 J J ?_);refine d8U ?_;intro v hv;have dm:v.length<=8:=T4 (.inr (.inl hv));refine a3l ?_;refine W I7 ?_;refine qC ?_ ?_<;>intro h6
   .refine W Z2 ?_;refine W Z2 ?_;refine qD (c5 J b8H ⟨O,J,O,O⟩ (by exact(a7J l nn hl ([[97],[98]]:List U) G G).2.2.2 (k+3) X _ 0 J) J ?_);intro⟨s1,p1⟩ ⟨bz,bY,aG⟩;dsimp only at bz bY aG⊢;refine b1s ?_;exact c6j
   .exfalso;simp at h6
  .refine d8U ?_;intro v hv;have dm:v.length<=8:=T4 (.inr (.inl hv));refine a3l ?_;refine W I7 ?_;refine qC ?_ ?_<;>intro h7
   .exfalso;simp at h7
   .refine W Z2 ?_;refine qD (c5 J b8H ⟨O,J,O,O⟩ (by exact(a7J l nn hl ([[97]]:List U) G G).2.2.2 (k+3) X _ 0 J) J ?_);intro⟨s1,p1⟩ ⟨bz,bY,aG⟩;dsimp only at bz bY aG⊢;refine b1s ?_;exact c6j
theorem c4I(l:List Int)(nn:Bool)(k:Nat)(aV:k<=700000000)(hl:l.length<=maxLen)(σ:List b9)(q:Nat)(hq:σ[q]?=some (x9 l nn k)):b8 CC 73 [.ptr q 0] σ λr τ=>∃a:U×Nat,r= .ret (sv a.1)/\τ=σ.set q (x9 l nn a.2)/\(a.1.length<=1240/\k<=a.2/\a.2<=k+210):=
 a8N (c:=λa:U×Nat=>sv a.1) (S:=λa=>x9 l nn a.2) hCC (λa h=>by simp at h) (λ_=>.val _) (λ_=>H7 _ _ _) (H7 _ _ _) J (c82 l nn k aV hl) σ q hq
theorem c2h(l:List Int)(nn:Bool)(k:Nat)(aV:k<=600000000)(hl:l.length<=maxLen)(pkg:U)(eD:pkg.length<=8):b8 CC 68 [.ptr 0 0,(sv pkg)] [x9 l nn k] λr τ=>∃a:U×Nat,D2 1 τ r (.ret (sv a.1)) [x9 l nn a.2]/\(a.1.length<=6300/\k<=a.2/\a.2<=k+1070):=by
 refine cO Tryz.func68 ?_;refine qs 2 ?_;refine a3l ?_;refine N6 (α:=U×Nat) (λx=>[(0,.ptr 0 0),(1,(sv pkg)),(5,(sv x.1))]) (λx=>[x9 l nn (x.2)]) (λx=>x.1.length<=40/\x.2=k+1) ?_ ?_
 .
  refine qk (qD (c5 J b0M a2N (J7 l nn k _ 0 J X hl 1 8 X) J ?_));intro _ _;refine qC ?_ ?_<;>intro h1
  .refine W a5D ?_;exact⟨(_,k+1),e2n,⟨⟨O,J⟩,⟨O,J⟩,⟨O,J⟩,O⟩,J⟩
  .exact ⟨(_,k+1),e2n,⟨⟨O,J⟩,⟨O,J⟩,⟨O,J⟩,O⟩,J⟩
 .intro ⟨s,p⟩ E0 ⟨hs,hp⟩;dsimp only at hs hp⊢;subst hp;refine qk (qD (c5 J a7G o8 (M4 l nn (k+1) _ 0 J X hl 3 X) J ?_));intro _ _;have hb1:=a2h (l:=l) (k:=k+1) (n:=3) X;refine A2 hCC 1 J (α:=U×List U×Nat×Int) (λx=>[(0,.ptr 0 0),(1,(sv pkg)),(5,(sv x.1)),(6,(.list (x.2.1.map scv) (gnn x.2.1.length) (C3 x.2.1.length 1))),(7,iv x.2.2.2)]) (λx=>[x9 l nn x.2.2.1,o5 x.2.1.length]) (λx=>0<=x.2.2.2/\x.2.2.2<=2/\x.1.length+20*x.2.2.2<=80/\x.2.1.length+x.2.2.2<=2/\k+2<=x.2.2.1/\x.2.2.1+x.2.2.2<=k+4) (λx=>x.2.2.2.toNat) ⟨(s,[],k+2,Q0 l (k+1) 3),[0,9],⟨Q,Q,Q,by dsimp only;simp;omega,Q,Q⟩,⟨J,J⟩,ut_,uq_⟩ ?_;intro⟨s,seen,p,n⟩ ⟨bf,cg,dT,eK,fj,cl⟩;dsimp only at bf cg dT eK fj cl⊢;refine qk (qC ?_ ?_)<;> intro h2
  .have gj:1<=n:=sm_ h2;refine W (c4 J Tryz.call69 trivial (a6R _) J) ?_;refine qD (c5 J a6J i7 (N4 l nn (p) _ 0 J X hl Y7 G G) J ?_);intro v hv;have dm:v.length<=8:=T4 (.inl hv);refine W a90 ?_;refine a1y ?_;refine qG (λhg=>c4 J c83 ⟨hg,hg,O⟩ (b2o seen _ v X _) J) ?_;refine qG a29 ?_;refine W N9 ?_;refine qC ?_ ?_<;>intro h3
   .refine W (B1 [scv v] J ⟨O,O⟩ t_2 t_0 t_4 J J J J J J J J J) ?_;refine qD (A4 J O O J H q_5 t_2 t_0 a3p t_4 J (.inr J) K2 Z6 B7 ((seen++[v]).map scv) (seen++[v]).length H H ?_);refine a3l ?_;refine W a2k ?_;refine W X7 ?_;exact⟨(s++((([105,109,112,111,114,116,32]:U)++v)++[59,10]),seen++[v],p+1,n-1),[0,2],(by exact⟨Q,Q,Q,by dsimp only;simp only[n_6,C5,J6];omega,by dsimp only;simp only[n_6,C5,J6];omega,Q,Q⟩),⟨J,J⟩,ut_,uq_⟩
   .refine W X7 ?_;exact⟨(s,seen,p+1,n-1),[0,1],⟨Q,Q,Q,Q,Q,Q,Q⟩,⟨J,J⟩,ut_,uq_⟩
  .have gj:n=0:=sm_ h2;subst gj;refine j6 ?_;refine qD (c5 J a7G o8 (M4 l nn p _ 0 J X hl 5 X) J ?_);intro _ _;have cy:=a2h (l:=l) (k:=p) (n:=5) X;refine W (c5D J J O J J X X) ?_;refine A2 hCC 2 J (α:=U×List U×Nat×Int) (λx=>[(0,.ptr 0 0),(5,(sv x.1)),(9,(.list (x.2.1.map scv) (gnn x.2.1.length) (C3 x.2.1.length 2))),(10,iv x.2.2.2)]) (λx=>[x9 l nn x.2.2.1,o5 seen.length,o5 x.2.1.length]) (λx=>0<=x.2.2.2/\x.2.2.2<=5/\x.1.length+1240*x.2.2.2<=6280/\x.2.1.length+x.2.2.2<=5/\k+3<=x.2.2.1/\x.2.2.1+211*x.2.2.2<=k+1060) (λx=>x.2.2.2.toNat) ⟨(s,[],p+1,1+Q0 l p 5),[0,1,9],⟨Q,Q,Q,by dsimp only;simp;omega,Q,Q⟩,⟨J,J⟩,ut_,uq_⟩ ?_;intro⟨s,cK,p2,n⟩ ⟨bf,cg,fT,hhn,hp3,hp4⟩;dsimp only at bf cg fT hhn hp3 hp4⊢;refine qs 1 (qC ?_ ?_)<;> intro h4
   .have gj:1<=n:=sm_ h4;refine G4 ?_;refine qs 3 (qD (c5 J Tryz.call73 ⟨O,O⟩ (c4I l nn p2 X hl _ 0 J) J ?_));intro⟨dt,p5⟩ ⟨hdt,hq5,hr5⟩;dsimp only at hdt hq5 hr5⊢;refine H3 (α:=Nat) (λi=>[(0,.ptr 0 0),(5,(sv s)),(9,(.list (cK.map scv) (gnn cK.length) (C3 cK.length 2))),(10,iv n),(11,(sv dt)),(12,(sv dt)),(13,iv i)]) (λ_=>[x9 l nn p5,o5 seen.length,o5 cK.length]) (λi=>i<=dt.length) (λi=>dt.length -i) 0 (n_4 _) tu_ J ?_;intro i E3 hi;refine a7w ?_;refine qC ?_ ?_<;>intro h5
    .have ab:i<dt.length:=sm_ h5;obtain⟨c,hc⟩:∃c,dt[i]?=some c:=⟨dt[i]'ab,H⟩;refine W (O6 J O O J J t_7 X (by rw[a2L];exact hc)) ?_;refine a1y ?_;refine qG (λhg=>O6 J hg hg J J t_7 a7y (by rw[a2L];exact hc)) ?_;refine a38 ?_;refine qC ?_ ?_<;>intro h6
     .refine W (L8 (h:=i) J O J t_7 J a0T a4O a4O) ?_;refine j6 ?_;refine N6 (α:=Bool×Nat) (λx=>[(0,.ptr 0 0),(5,(sv s)),(9,(.list (cK.map scv) (gnn cK.length) (C3 cK.length 2))),(10,iv n),(11,(sv dt)),(12,(sv (dt.take i))),(84,(.val (.bool x.1)))]) (λx=>[x9 l nn x.2,o5 seen.length,o5 cK.length]) (λx=>p5<=x.2/\x.2<=p5+1) ?_ ?_
      .
       refine qk (W (c4 J c83 i7 (b2o cK _ _ X _) J) ?_);refine qG D4 ?_;refine b8b (.val (.bool false)) J J O J J (λhg=>c5 J b0M ⟨hg,J,J,O⟩ (J7 l nn p5 _ 0 J X hl 1 40 X) J ?_) (λhg=>?_)
       .
        intro _ _;exact d8F
       .
        refine c0Q ?_;exact⟨(_,p5),⟨Q,Q⟩,⟨⟨O,J⟩,⟨O,J⟩,⟨O,J⟩,⟨O,J⟩,⟨O,J⟩,⟨O,J⟩,⟨O,J⟩,O⟩,J⟩
      .intro ⟨b6,p6⟩ E6 ⟨hq6,hr6⟩;dsimp only at hq6 hr6⊢;refine qC ?_ ?_<;>intro h7
       .refine W (B1 [scv (dt.take i)] J ⟨O,O⟩ t_2 t_0 t_4 J J J J J J J J J) ?_;refine qD (A4 J O O J H q_5 t_2 t_0 a3p t_4 J (.inr J) K2 Z6 B7 ((cK++[(dt.take i)]).map scv) (cK++[(dt.take i)]).length H H ?_);refine W a2k ?_;refine qk (W X7 ?_);exact⟨(s++dt,cK++[(dt.take i)],p6,n-1),[0,1,3],e2l,⟨J,J⟩,ut_,uq_⟩
       .refine qk ?_;exact d7h
     .refine W j9 ?_;exact⟨(i+1),X,ab,tu_,J⟩
    .refine j6 ?_;refine N6 (α:=Bool×Nat) (λx=>[(0,.ptr 0 0),(5,(sv s)),(9,(.list (cK.map scv) (gnn cK.length) (C3 cK.length 2))),(10,iv n),(11,(sv dt)),(12,(sv dt)),(84,(.val (.bool x.1)))]) (λx=>[x9 l nn x.2,o5 seen.length,o5 cK.length]) (λx=>p5<=x.2/\x.2<=p5+1) ?_ ?_
     .
      refine qk (W (c4 J c83 i7 (b2o cK _ _ X _) J) ?_);refine qG D4 ?_;refine b8b (.val (.bool false)) J J O J J (λhg=>c5 J b0M ⟨hg,J,J,O⟩ (J7 l nn p5 _ 0 J X hl 1 40 X) J ?_) (λhg=>?_)
      .
       intro _ _;exact d8F
      .
       refine c0Q ?_;exact⟨(_,p5),⟨Q,Q⟩,⟨⟨O,J⟩,⟨O,J⟩,⟨O,J⟩,⟨O,J⟩,⟨O,J⟩,⟨O,J⟩,⟨O,J⟩,O⟩,J⟩
     .intro ⟨b6,p6⟩ E6 ⟨hq6,hr6⟩;dsimp only at hq6 hr6⊢;refine qC ?_ ?_<;>intro h8
      .refine W (B1 [scv dt] J ⟨O,O⟩ t_2 t_0 t_4 J J J J J J J J J) ?_;refine qD (A4 J O O J H q_5 t_2 t_0 a3p t_4 J (.inr J) K2 Z6 B7 ((cK++[dt]).map scv) (cK++[dt]).length H H ?_);refine W a2k ?_;refine qk (W X7 ?_);exact⟨(s++dt,cK++[dt],p6,n-1),[0,1,3],e2l,⟨J,J⟩,ut_,uq_⟩
      .refine qk ?_;exact d7h
   .have gj:n=0:=sm_ h4;subst gj;refine j6 ?_;refine qD (c5 J b0M a2N (J7 l nn p2 _ 0 J X hl 1 30 X) J ?_);intro _ _;refine qC ?_ ?_<;>intro h9
    .refine W (B1 (([[102,117,110,99],[125],[34],[116,101,115,116,32,116,32,61,32,49,59],[120]]:List U).map scv) J ⟨J,J,J,J,J,O⟩ t_2 t_0 t_4 J J J J J J J J J) ?_;refine qD (c5 J a6J i7 (N4 l nn (p2+1) _ 0 J X hl ([[102,117,110,99],[125],[34],[116,101,115,116,32,116,32,61,32,49,59],[120]]:List U) H H) J ?_);intro v hv;have dm:v.length<=11:=by revert v;decide
     refine W a2k ?_;refine c6 ?_;exact⟨_,rE1,⟨(_,p2+2),a2G J U8 (.old (.val _)),(by show List.length _<=_;simp only[n_6];omega),Q,Q⟩⟩
    .refine c6 ?_;exact⟨_,rE1,⟨(_,p2+1),a2G J U8 (.old (.val _)),(by show List.length _<=_;simp only;omega),Q,Q⟩⟩
theorem b5z(l:List Int)(nn:Bool)(k:Nat)(aV:k<=600000000)(hl:l.length<=maxLen)(pkg:U)(eD:pkg.length<=8)(σ:List b9)(q:Nat)(hq:σ[q]?=some (x9 l nn k)):b8 CC 68 [.ptr q 0,(sv pkg)] σ λr τ=>∃a:U×Nat,r= .ret (sv a.1)/\τ=σ.set q (x9 l nn a.2)/\(a.1.length<=6300/\k<=a.2/\a.2<=k+1070):=
 a8N (c:=λa:U×Nat=>sv a.1) (S:=λa=>x9 l nn a.2) hCC (λa h=>by simp at h;subst h;exact .val _) (λ_=>.val _) (λ_=>H7 _ _ _) (H7 _ _ _) J (c2h l nn k aV hl pkg eD) σ q hq
def a1Q:List U:=([[97,46,100,97,116],[100,47,98,46,100,97,116],[99]]:List U)
def a4i:List U:=([[97,46,115,114,99],[98,46,115,114,99],[100,47,99,46,115,114,99],[120,46,115,114,99],[97,46,100,97,116],[100,47,98,46,100,97,116],[99],[122,48,46,115,114,99],[122,49,46,115,114,99],[122,50,46,115,114,99]]:List U)
structure Q2(B:Nat)(fl:List Fi):Prop where
 srt:c9W fl
 pth:∀f∈fl,f.p∈a4i
 byt:∀f∈fl,f.b.length<=B
theorem Q2.nil(B:Nat):Q2 B []:=⟨.nil,λf h=>by simp at h,λf h=>by simp at h⟩
theorem Q2.mono{C:Nat}(h:Q2 B fl)(hc:B<=C):Q2 C fl:=⟨h.srt,h.pth,λf hf=>a82 (h.byt f hf) hc⟩
theorem Q2.len(h:Q2 B fl):fl.length<=10:=by
 have hn:(fl.map Fi.p).Nodup:=by
  rw[List.nodup_iff_pairwise_ne,List.pairwise_map];exact h.srt.imp λ{a b} cI he=>by rw[he,d1D]at cI;cases cI
 have hs:∀x∈fl.map Fi.p,x∈a4i:=λx hx=>by
  obtain⟨f,hf,rfl⟩:=D5.1 hx;exact h.pth f hf
 have:=List.Nodup.length_le_of_subset hn (λx hx=>hs x hx);rw[L7]at this;exact this
theorem b4v{f:Fi}:∀l:List Fi,a9G f true l=l.filter λx=>!decide (x.p=f.p)
 | []=>rfl
 |x::l=>by
  rw[a9G,Bool.true_or,b4v l,a7o];by_cases h:x.p=f.p<;>simp[h]
theorem a8z{f:Fi}{x:Fi}:∀{d:Bool} {l:List Fi},x∈a9G f d l->x=f\/x∈l
 |d,[],h=>by
  cases d<;>simp[a9G]at h
  exact .inl h
 |d,y::l,h=>by
  rw[a9G]at h
  rcases J5.1 h with h|h
  .split at h<;>simp at h
   exact .inl h
  .rcases J5.1 h with h|h
   .split at h<;>simp at h
    exact .inr (by rw[h];simp)
   .rcases a8z h with h|h
    .exact .inl h
    .exact .inr (a6D _ h)
theorem b7H{f:Fi}:∀{l:List Fi},c9W l->c9W (a9G f false l)
 | [],_=>by simp[a9G,c9W]
 |y::l,h=>by
  obtain⟨h1,h2⟩:=a5N.1 h;rw[a9G];by_cases aO:leF f y=true
  .simp only[aO,Bool.not_false,Bool.and_self,if_true,Bool.or_true,b4v];have hl:c9W (l.filter λx=>!decide (x.p=f.p)):=h2.filter _;have cP:∀g∈l.filter λx=>!decide (x.p=f.p),Op.bytesLess f.p g.p=true:=λg hg=>by
    have hy:=h1 g ((a7K.1 hg).1);unfold leF at aO;simp only[a8Z,a1G]at aO
    rcases aO with aO|aO
    .exact b10 aO hy
    .rw [aO];exact hy
   by_cases ft:y.p=f.p
   .rw [F ft,a1D];exact a5N.2 ⟨cP,hl⟩
   .rw [D ft];have hfy:Op.bytesLess f.p y.p=true:=by
     unfold leF at aO;simp only[a8Z,a1G]at aO
     rcases aO with aO|aO
     .exact aO
     .exact absurd aO.symm ft
    refine a5N.2 ⟨λg hg=>?_,a5N.2 ⟨λg hg=>h1 g ((a7K.1 hg).1),hl⟩⟩
    rcases J0.1 hg with rfl|hg
    .exact hfy
    .exact cP g hg
  .have fc:leF f y=false:=I aO;have ft:¬y.p=f.p:=λh=>by rw[leF,h]at fc;simp at fc
   simp only[fc,Bool.and_false,Bool.or_false,D ft];have:Op.bytesLess y.p f.p=true:=by
    unfold leF at fc;simp only[c0r,b3R]at fc;exact d2u fc.1 fc.2
   refine a5N.2 ⟨λg hg=>?_,b7H h2⟩
   rcases a8z hg with rfl|hg
   .exact this
   .exact h1 g hg
theorem Q2.ins(h:Q2 B fl){f:Fi}(hp:f.p∈a4i)(hb:f.b.length<=B):Q2 B (a6O fl f):=
 ⟨b7H h.srt,λg hg=>by
  rcases a8z hg with rfl|hg
  .exact hp
  .exact h.pth g hg,λg hg=>by
  rcases a8z hg with rfl|hg
  .exact hb
  .exact h.byt g hg⟩
theorem Q2.rem(h:Q2 B fl)(s:U):Q2 B (a5C fl s):=
 ⟨h.srt.filter _,λg hg=>h.pth g ((a7K.1 hg).1),λg hg=>h.byt g ((a7K.1 hg).1)⟩
theorem c5C:∀s∈J8,s∈a4i:=by decide
theorem c5W:∀s∈a1Q,s∈a4i:=by decide
theorem S5(fl:List Fi)(nn:Bool):r5 (.agg (o4 fl nn)):=r6 (cs:=o4 _ _) ⟨K6 _ _,O⟩
theorem a3n{l:List α}(h:i<l.length):∃y,l[i]?=some y/\y∈l:=⟨l[i],by simp[h],b1t h⟩
theorem b6G(l:List Int)(nn:Bool)(k:Nat)(aV:k<=500000000)(hl:l.length<=maxLen):b8 CC 27 [.ptr 0 0] [x9 l nn k] λr τ=>∃a:List Fi×Nat,D2 1 τ r (.ret (.agg (o4 a.1 (gnn a.1.length)))) [x9 l nn a.2]/\(Q2 6300 a.1/\k<=a.2/\a.2<=k+4400):=by
 refine qO Tryz.func27 ?_;refine d5L ?_;refine W (c4 J Tryz.call66 trivial (a8W _) J) ?_;refine W I7 ?_;refine H3 (α:=List Fi×Nat×Nat) (λx=>[(0,.ptr 0 0),(2,.ptr 1 0),(3,.ptr 2 0),(8,(.list (J8.map scv) true none)),(9,iv J8.length),(10,iv x.2.2)]) (λx=>[x9 l nn (x.2.1),.box (o4 [] false),.box (o4 x.1 (gnn x.1.length))]) (λx=>x.2.2<=J8.length/\Q2 6300 x.1/\k+0<=x.2.1/\x.2.1<=k+0+x.2.2*1072) (λx=>J8.length -x.2.2) ([],k,0) ⟨n_4 _,.nil _,Q,Q⟩ tu_ J ?_;intro⟨fl,p,i⟩ E0 ⟨hi,hm,fj,cl⟩;dsimp only at hi hm fj cl⊢;have hL:J8.length=4:=J;have gX:=hm.len;refine qs 2 (qC ?_ ?_)<;> intro h1
 .have ab:i<J8.length:=sm_ h1;obtain⟨y,hb,eS⟩:=a3n ab;refine N6 (α:=List Fi×Nat) (λx=>[(0,.ptr 0 0),(2,.ptr 1 0),(3,.ptr 2 0),(8,(.list (J8.map scv) true none)),(9,iv J8.length),(10,iv i)]) (λx=>[x9 l nn (x.2),.box (o4 [] false),.box (o4 x.1 (gnn x.1.length))]) (λx=>Q2 6300 x.1/\p<=x.2/\x.2<=p+1072) ?_ ?_
  .
   refine qk (W a64 ?_);refine qD (c5 J b0M a2N (J7 l nn p _ 0 J X hl 3 4 X) J ?_);intro _ _;refine qC ?_ ?_<;>intro h2
   .refine d9I ?_;refine a7l ?_;refine chf J W7 ?_;refine chf J d2h ?_;refine C8 ?_;refine B0 J J J (c5 J a6J i7 (N4 l nn (p+1) _ 0 J X hl Y7 G G) J ?_);intro v hv;have dm:v.length<=8:=T4 (.inl hv);refine⟨⟨a05,F4,F4,O⟩,?_⟩;refine B0 J J J (c5 J Tryz.call68 i7 (b5z l nn (p+2) X hl v dm _ 0 J) J ?_);intro⟨s,p3⟩ ⟨hs,bY,cN⟩;dsimp only at hs bY cN⊢;refine d5H ?_;refine d7f ?_;exact⟨(a6O fl ⟨y,s⟩,p3),⟨hm.ins (c5C _ eS) hs,Q,Q⟩,tu_,J⟩
   .exact ⟨(fl,p+1),⟨hm,Q,Q⟩,tu_,J⟩
  .intro ⟨fl,p4⟩ E0 ⟨hm,bY,cN⟩;dsimp only at hm bY cN⊢;refine b0O ?_;exact⟨(fl,p4,i+1),Q,⟨Q,hm,Q,Q⟩,tu_,J⟩
 .refine j6 ?_;refine W e2Q ?_;refine W I7 ?_;refine H3 (α:=List Fi×Nat×Nat) (λx=>[(0,.ptr 0 0),(2,.ptr 1 0),(3,.ptr 2 0),(26,(.list (a1Q.map scv) true none)),(27,iv a1Q.length),(28,iv x.2.2)]) (λx=>[x9 l nn (x.2.1),.box (o4 [] false),.box (o4 x.1 (gnn x.1.length))]) (λx=>x.2.2<=a1Q.length/\Q2 6300 x.1/\k+0<=x.2.1/\x.2.1<=k+4288+x.2.2*5) (λx=>a1Q.length -x.2.2) (fl,p,0) ⟨n_4 _,hm,Q,Q⟩ tu_ J ?_;intro⟨fl,p,i⟩ E0 ⟨hi,hm,fj,cl⟩;dsimp only at hi hm fj cl⊢;have hL:a1Q.length=3:=J;have gX:=hm.len;refine qk (qC ?_ ?_)<;> intro h3
  .have ab:i<a1Q.length:=sm_ h3;obtain⟨y,hb,eS⟩:=a3n ab;refine W a64 ?_;refine qD (c5 J b0M a2N (J7 l nn p _ 0 J X hl 1 3 X) J ?_);intro _ _;refine qC ?_ ?_<;>intro h4
   .refine cF [] [0,1,2] (tl:=[(3,[0,1]),(4,[0]),(5,[]),(6,[])]) ?_;refine chf J a2l ?_;refine a7l ?_;refine C8 ?_;refine B0 J J J (c5 J Tryz.call70 ⟨O,O⟩ (c3e l nn (p+1) X hl _ 0 J) J ?_);intro⟨s,p3⟩ ⟨hs,bY,cN⟩;dsimp only at hs bY cN⊢;refine d5H ?_;refine d7f ?_;refine W j9 ?_;exact⟨(a6O fl ⟨y,s⟩,p3,i+1),Q,⟨Q,hm.ins (c5W _ eS) Q,Q,Q⟩,tu_,J⟩
   .refine W j9 ?_;exact⟨(fl,p+1,i+1),Q,⟨Q,hm,Q,Q⟩,tu_,J⟩
  .refine j6 ?_;refine d3F ?_;exact⟨_,F2 J a3T,⟨(fl,p),a2G J U8 (.old (S5 _ _).old),hm,Q,Q⟩⟩
theorem b75(l:List Int)(nn:Bool)(k:Nat)(aV:k<=500000000)(hl:l.length<=maxLen)(σ:List b9)(q:Nat)(hq:σ[q]?=some (x9 l nn k)):b8 CC 27 [.ptr q 0] σ λr τ=>∃a:List Fi×Nat,r= .ret (.agg (o4 a.1 (gnn a.1.length)))/\τ=σ.set q (x9 l nn a.2)/\(Q2 6300 a.1/\k<=a.2/\a.2<=k+4400):=
 a8N (c:=λa:List Fi×Nat=>(.agg (o4 a.1 (gnn a.1.length)))) (S:=λa=>x9 l nn a.2) hCC (λa h=>by simp at h) (λ_=>S5 _ _) (λ_=>H7 _ _ _) (H7 _ _ _) J (b6G l nn k aV hl) σ q hq
theorem b2I{s:U}{e:Nat}{c:UInt8}(h:s[e]?=some c)(hae:a<=e):sub s a (e+1)=sub s a e++[c]:=by
 obtain⟨ab,rfl⟩:=n_3.1 h;unfold sub;rw[<- b2J ab,List.drop_append_of_le_length a3J]
theorem sub_self{s:U}:sub s a a=[]:=by unfold sub;exact T6 a3J
theorem d1O(l:U)(c:UInt8):a44 (l++[c])=min (10*a44 l+((c.toNat:Int) -48)) 9007199254740993:=by
 unfold a44;rw[b7m];rfl
theorem b4M{s:U}{e:Nat}{ks:List Int}(h:∀c,s[e]?=some c->inK ks c=false):A9 s e ks=e:=by
 cases hc:s[e]? with
 |none=>exact a9I (I hc)
 |some c=>rw[X8 hc,D (by rw[h c hc];simp)]
theorem d5f:∀x:Fin 256,(l9 (x.val:Int)=8)=(UInt8.ofNat x.val∈a4U):=by decide
theorem b8f(b:UInt8):l9 b.toNat=8↔b∈a4U:=by
 have h:=d5f ⟨b.toNat,b.toNat_lt⟩;simp only at h;rw[h];simp
theorem c5X{s:U}:b0F [61,61] (s.drop a)=true↔s[a]?=some 61/\s[a+1]?=some 61:=by
 unfold b0F;rw[b8J];constructor
 .rintro ⟨t,ht⟩;have h0:(s.drop a)[0]?=some 61:=by rw[<- ht];rfl
  have h1:(s.drop a)[1]?=some 61:=by rw[<- ht];rfl
  rw[a5z]at h0 h1;exact⟨h0,h1⟩
 .rintro ⟨h0,h1⟩;obtain⟨l0,e0⟩:=n_3.1 h0;obtain⟨l1,e1⟩:=n_3.1 h1;refine⟨s.drop (a+2),?_⟩;rw[R0 l0,R0 l1,e0,e1];rfl
theorem d6i{s:U}(h0:s[a]?=some 61)(h1:s[a+1]?=some 61):sub s a (a+2)=[61,61]:=by
 rw[show a+2=(a+1)+1 from J,b2I h1 X,b2I h0 (n_7 _),sub_self];rfl
def b1y(s:U)(a:Nat)(b:UInt8):Tok:=if(F0 s a b).2.2=0 then {(F0 s a b).1 with at_:=(a:Nat)}else⟨0,[],0,0⟩
theorem d2e{b:UInt8}{n:Nat}(hn:n<256):((b.toNat:Int)=(n:Int))↔b=UInt8.ofNat n:=by
 constructor
 .intro h;have h2:b.toNat=(UInt8.ofNat n).toNat:=by rw[b7A,b52 (I hn)];omega
  exact a95.1 h2
 .rintro rfl;rw[b7A,b52 (I hn)]
theorem c7l(s:U)(hs:s.length<=1000000000)(a:Nat)(b:UInt8)(hb:s[a]?=some b)(ha:a<s.length):b8 CC 228 [(sv s),iv a] [] λr τ=>∃_:Unit,a1t 0 τ r (.ret (.tup [.agg (b1y s a b).cells,(iv ((F0 s a b).2.1)),(iv ((F0 s a b).2.2))]))/\True:=by
 refine qO Tryz.func228 ?_;refine qD (p7 J a3m J j5 ?_);refine W b7J ?_;refine W (c4 J c9C ⟨O,O⟩ (a5W b _) J) ?_;refine qC ?_ ?_<;>intro h1
 .have hk:l9 b.toNat=1:=I h1;refine j8 hCC (λe:Nat=>[(0,(sv s)),(1,iv a),(4,.ptr 0 0),(5,iv e)]) (λ_=>[.box (Tok.cells ⟨0,[],0,0⟩)]) (λe=>a<=e/\e<=s.length/\A9 s a [1,2,3]=A9 s e [1,2,3]) (λe=>s.length -e) a ⟨n_7 _,X,J⟩ tu_ (ai:=[]) J z8 uz_ ?_;intro e ⟨hae,dR,hr⟩;obtain⟨c,hc⟩:∃c:UInt8,e<s.length->s[e]?=some c:=by
   by_cases aO:e<s.length
   .exact ⟨s[e],λ_=>by simp[aO]⟩
   .exact ⟨0,λh=>absurd h aO⟩
  refine a7w ?_;refine d0e ?_;refine qG (λhg=>c4 J d0A ⟨hg,O⟩ (a7e c _) J) ?_;refine W N9 ?_;refine qC ?_ ?_<;>intro h2
  .have dr:e<s.length/\inK [1,2,3] c=true:=I h2;have hce:=hc dr.1;refine W j9 ?_;exact⟨(e+1),_,⟨X,X,X,by rw[hr,X8 hce,F dr.2]⟩,tu_,J⟩
  .have hse:A9 s a [1,2,3]=e:=by
    rw[hr];refine b4M λc' bJ=>?_;have aO:=(n_3.1 bJ).1;rw[hc aO]at bJ;injection bJ with bJ
    subst bJ;have h3:e<s.length->inK [1,2,3] c=false:=I h2;exact h3 aO
   refine j6 ?_;refine W a92 ?_;refine qC ?_ ?_<;>intro h3
   .have hx:F0 s a b=(⟨0,[],0,0⟩,0,2):=by
     unfold F0;rw[F hk,hse,F (sm_ h3)]
    exact d6F
   .have hx:F0 s a b=(⟨1,sub s a e,0,0⟩,(e:Int),0):=by
     unfold F0;rw[F hk,hse,D (sm_ h3)]
    refine W (L8 (a:=a) (h:=e) J O J t_7 a0T a0T a4O a4O) ?_;refine W d6j ?_;exact c9w
 .have bw:¬l9 b.toNat=1:=I h1;refine qG D4 ?_;refine a4k ?_;refine qC ?_ ?_<;>intro h4
  .have bK:l9 b.toNat=2:=by rw[a5t];simp at h4;omega
   refine j8 hCC (λx:Nat×Int=>[(0,(sv s)),(1,iv a),(4,.ptr 0 0),(5,iv x.1),(8,iv x.2)]) (λ_=>[.box (Tok.cells ⟨0,[],0,0⟩)]) (λx=>a<=x.1/\x.1<=s.length/\A9 s a [2]=A9 s x.1 [2]/\0<=x.2/\x.2<=90071992547409930/\min x.2 9007199254740993=a44 (sub s a x.1)) (λx=>s.length -x.1) (a,0) ⟨n_7 _,Q,J,Q,Q,by rw[sub_self];rfl⟩ tu_ (ai:=[]) J z8 uz_ ?_;intro⟨e,n⟩ ⟨hae,dR,hr,dz,bf,bN⟩;dsimp only at hae dR hr dz bf bN⊢;obtain⟨c,hc⟩:∃c:UInt8,e<s.length->s[e]?=some c:=by
    by_cases aO:e<s.length
    .exact ⟨s[e],λ_=>by simp[aO]⟩
    .exact ⟨0,λh=>absurd h aO⟩
   refine qs 1 (W R6 ?_);refine b5u ?_;refine b5u ?_;refine qC ?_ ?_<;>intro h5
   .have h5':e<s.length/\48<=c.toNat/\c.toNat<=57:=by
     simp at h5;omega
    have hce:=hc h5'.1;have hk2c:l9 c.toNat=2:=a5t.2 h5'.2;have cj:=d1O (sub s a e) c;rw[<- b2I hce hae]at cj;refine N6 (α:=Int) (λn'=>[(0,(sv s)),(1,iv a),(4,.ptr 0 0),(5,iv e),(8,iv n')]) (λ_=>[.box (Tok.cells ⟨0,[],0,0⟩)]) (λn'=>0<=n'/\n'<=90071992547409930/\min n' 9007199254740993=a44 (sub s a (e+1))) ?_ ?_
    .
     refine qk (qC ?_ ?_)<;> intro h6
     .have cg:n<=9007199254740992:=I h6;refine W (b9q J O J J J X X) ?_;refine W (O6 J O O J J t_7 X (by rw[a2L];exact hce)) ?_;refine W a0d ?_;refine W (a7a J O J b3H d0x (show IntKind.i64.wrap (IntKind.u8.wrap ((c.toNat:Int) -48))=(c.toNat:Int) -48 by rw[wr8 X X,b0W X X])) ?_;refine W a4P ?_;exact⟨_,(by exact⟨X,X,by rw[cj,<- bN];omega⟩),⟨⟨O,J⟩,⟨O,J⟩,⟨O,J⟩,⟨O,J⟩,⟨O,J⟩,O⟩,J⟩
     .have cg:9007199254740992<n:=I h6;exact⟨n,⟨dz,bf,by rw[cj,<- bN];omega⟩,tu_,J⟩
    .intro n' E' ⟨hn0',hn1',hnm'⟩;refine b0O ?_;exact⟨(e+1,n'),_,⟨Q,Q,Q,by dsimp only;rw[hr,X8 hce,F (by simp[inK,hk2c])],hn0',hn1',hnm'⟩,tu_,J⟩
   .have hse:A9 s a [2]=e:=by
     rw[hr];refine b4M λc' bJ=>?_;have aO:=(n_3.1 bJ).1;rw[hc aO]at bJ;injection bJ with bJ
     subst bJ;have hnk:¬l9 c.toNat=2:=λhk=>by
      have:=a5t.1 hk;simp at h5;omega
     simp[inK,hnk]
    refine j6 ?_;refine qC ?_ ?_<;>intro h7
    .have hx:F0 s a b=(⟨0,[],0,0⟩,0,3):=by
      unfold F0;rw[D bw,F bK,hse,F (by rw[<- bN];simp at h7;omega)]
     exact d6F
    .have hx:F0 s a b=(⟨2,[],n,0⟩,(e:Int),0):=by
      unfold F0;have dV:a44 (sub s a e)=n:=by rw[<- bN];simp at h7;omega
      rw[D bw,F bK,hse,dV,D (sm_ h7)]
     refine W d6j ?_;exact c9w
  .have bK:¬l9 b.toNat=2:=by rw[a5t];simp at h4;omega
   refine qC ?_ ?_<;>intro h8
   .have hb34:b=34:=by
     have:(b.toNat:Int)=((34:Nat):Int):=I h8;exact(d2e (n:=34) X).1 this
    have fJ:l9 b.toNat=7:=by rw[hb34];rfl
    refine W j9 ?_;refine j8 hCC (λe:Nat=>[(0,(sv s)),(1,iv a),(4,.ptr 0 0),(5,iv e)]) (λ_=>[.box (Tok.cells ⟨0,[],0,0⟩)]) (λe=>a+1<=e/\e<=s.length/\a4u (s.drop (a+1))=(a4u (s.drop e)).map (· +(e- (a+1)))) (λe=>s.length -e) (a+1) ⟨n_7 _,X,H⟩ tu_ (ai:=[]) J z8 uz_ ?_;intro e ⟨hae,dR,hr⟩;obtain⟨c,hc⟩:∃c:UInt8,e<s.length->s[e]?=some c:=by
     by_cases aO:e<s.length
     .exact ⟨s[e],λ_=>by simp[aO]⟩
     .exact ⟨0,λh=>absurd h aO⟩
    refine a7w ?_;refine b5u ?_;refine b5u ?_;refine b5u ?_;refine qC ?_ ?_<;>intro h9
    .have h9':e<s.length/\32<=c.toNat/\c.toNat<=126/\¬c.toNat=34:=by
      simp at h9;omega
     have hce:=hc h9'.1;refine W j9 ?_;exact⟨(e+1),_,⟨X,X,X,by
      rw[hr,a3E hce,F ⟨h9'.2.1,h9'.2.2.1⟩,D h9'.2.2.2,Option.map_map]
      congr 1
      funext x
      simp only[Function.comp];omega⟩,tu_,J⟩
    .refine j6 ?_;refine W R6 ?_;refine d0e ?_;refine a38 ?_;refine qC ?_ ?_<;>intro bb
     .have hx:F0 s a b=(⟨0,[],0,0⟩,0,9):=by
       have hq:a4u (s.drop (a+1))=none:=by
        rw[hr];by_cases aO:e<s.length
        .rw [a3E (hc aO)];have h9':¬(e<s.length/\32<=c.toNat/\c.toNat<=126/\¬c.toNat=34):=by
          simp at h9;omega
         have h10':¬c.toNat=34:=by
          simp at bb;omega
         rw[D X];rfl
        .rw [b5C X];rfl
       unfold F0;rw[D bw,D bK,F fJ,hq]
      exact d6F
     .have h10':e<s.length/\c.toNat=34:=by
       simp at bb;omega
      have hx:F0 s a b=(⟨3,sub s (a+1) e,0,0⟩,(e+1:Int),0):=by
       have hq:a4u (s.drop (a+1))=some (e- (a+1)):=by
        rw[hr,a3E (hc h10'.1),F X,F h10'.2];simp
       unfold F0;rw[D bw,D bK,F fJ,hq];have e1:a+1+(e- (a+1))=e:=by omega
       refine Prod.ext ?_ (Prod.ext ?_ J)
       .simp only[e1]
       .show ((a:Int)+1+((e- (a+1):Nat):Int)+1)=(e:Int)+1;omega
      refine W j9 ?_;refine W (L8 (a:=(a+1)) (h:=e) J O J t_7 a0T a0T a4O a4O) ?_;refine W d6j ?_;refine W j9 ?_;exact c9w
   .have fJ:¬l9 b.toNat=7:=by
     intro hk;unfold l9 at hk
     repeat' split at hk
     all_goals first|omega|(simp at h8;omega)
    obtain⟨c1,bW⟩:∃c:UInt8,a+1<s.length->s[a+1]?=some c:=by
     by_cases aO:a+1<s.length
     .exact ⟨s[a+1],λ_=>by simp[aO]⟩
     .exact ⟨0,λh=>absurd h aO⟩
    refine W b7J ?_;refine qG D4 ?_;refine qG e08 ?_;refine a8a ?_;refine qG b5j ?_;refine W N9 ?_;refine a1y ?_;refine qG e08 ?_;refine qG (λhg=>O6 J hg hg J J t_7 a7y (by rw[show((a:Int)+1).toNat=a+1 by omega];exact bW (sm_ hg))) ?_;refine a4k ?_;refine qC ?_ ?_<;>intro cB
    .have h11':b=61/\a+1<s.length/\c1=61:=by
      simp at cB;exact⟨(d2e (n:=61) X).1 X,X,(d2e (n:=61) X).1 X⟩
     have cy:s[a]?=some 61:=by rw[hb,h11'.1]
     have cr:s[a+1]?=some 61:=by rw[bW h11'.2.1,h11'.2.2]
     have hx:F0 s a b=(⟨4,[61,61],0,0⟩,(a+2:Int),0):=by
      have hk8:l9 b.toNat=8:=by rw[h11'.1];rfl
      unfold F0;rw[D bw,D bK,D fJ,F hk8,F (c5X.2 ⟨cy,cr⟩),d6i cy cr]
     refine W (B4 #[(0,1),(1,1),(2,1),(3,1)] J ⟨J,J,O,O⟩ a9e a3m J ⟨_,J⟩ (λw=>by kernel_rfl) J J) ?_;refine W j9 ?_;exact c9w
    .have cJ:¬b0F [61,61] (s.drop a)=true:=λhp=>by
      obtain⟨p1,p2⟩:=c5X.1 hp;have aO:=(n_3.1 p2).1;rw[hb]at p1;rw[bW aO]at p2;injection p1 with p1
      injection p2 with p2
      subst p1 p2;simp at cB;omega
     refine c8k a4U J J J J J J J J ⟨J,J,J,J,J,J,J,J,J,J,J,O⟩ Z3 a1P a4D b3H J J J J J J J ?_;refine qo (W a9U ?_);refine j8 hCC (λi:Nat=>[(0,(sv s)),(1,iv a),(4,.ptr 0 0),(156,(.list (a4U.map bcv) true none)),(157,iv a4U.length),(158,iv i)]) (λ_=>[.box (Tok.cells ⟨0,[],0,0⟩)]) (λi=>i<=a4U.length/\∀x∈a4U.take i,x≠b) (λi=>a4U.length -i) 0 ⟨n_4 _,λx hx=>by simp at hx⟩ tu_ (ai:=[]) J z8 uz_ ?_;intro i ⟨hi,hni⟩;have hSL:a4U.length=11:=J;refine qk (qC ?_ ?_)<;> intro cX
     .have hli:i<a4U.length:=sm_ cX;obtain⟨y,hy,eS⟩:=a3n hli;refine W (p9 J O O J J Z3 a1P X (j1 hy) J) ?_;refine W b7J ?_;refine qC ?_ ?_<;>intro dw
      .have hby:b=y:=by
        have:(b.toNat:Int)=(y.toNat:Int):=I dw;exact a95.1 X
       have hx:F0 s a b=(⟨4,sub s a (a+1),0,0⟩,(a+1:Int),0):=by
        unfold F0;rw[D bw,D bK,D fJ,F ((b8f b).2 (hby▸eS)),D cJ]
       refine W j9 ?_;refine W (L8 (a:=a) (h:=(a+1)) J O J t_7 a0T a0T a4O a4O) ?_;refine W d6j ?_;refine W j9 ?_;exact c9w
      .have hby:¬b=y:=λe=>by
        rw[e]at dw;simp at dw
       refine W j9 ?_;exact⟨(i+1),_,⟨X,X,λx hx=>by
        rw[a1H,hy]at hx
        rcases J5.1 hx with hx|hx
        .exact hni x hx
        .simp at hx;subst hx;exact λe=>hby e.symm⟩,tu_,J⟩
     .have cQ:i=a4U.length:=sm_ cX;have hx:F0 s a b=(⟨0,[],0,0⟩,0,9):=by
       have hk8:¬l9 b.toNat=8:=λhk=>by
        have hm:=(b8f b).1 hk;rw[cQ,R3 (n_7 _)]at hni;exact hni b hm J
       unfold F0;rw[D bw,D bK,D fJ,D hk8]
      refine j6 ?_;exact d6F
theorem d2t(s:U)(hs:s.length<=1000000000)(a:Nat)(b:UInt8)(hb:s[a]?=some b)(ha:a<s.length)(σ:List b9):b8 CC 228 [(sv s),iv a] σ λr τ=>r= .ret (.tup [.agg (b1y s a b).cells,(iv ((F0 s a b).2.1)),(iv ((F0 s a b).2.2))])/\τ=σ:=
 (F5 (res:=λ_:Unit=>.ret (.tup [.agg (b1y s a b).cells,(iv ((F0 s a b).2.1)),(iv ((F0 s a b).2.2))])) (P:=λ_=>True) hCC (λc h=>by simp at h;rcases h with rfl|rfl<;>exact .val _) (c7l s hs a b hb ha) (λ_ _=>D7 (cs:=[_,_,_]) ⟨r6 (cs:=[_,_,_,_]) ⟨.val _,.val _,.val _,.val _,O⟩,.val _,.val _,O⟩) σ).mono λr τ ⟨_,h1,h2,_⟩=>⟨h1,h2⟩
theorem d4F{s:U}{b:UInt8}(h:(F0 s a b).2.2=0):b1y s a b={(F0 s a b).1 with at_:=(a:Nat)}:=by rw[b1y,F h]
theorem c13(s:U)(hs:s.length<=1000000000):b8 CC 180 [(sv s)] [] λr τ=>∃x:c7i,a1t 0 τ r (.ret (c6p x))/\d4p s x:=by
 refine qO Tryz.func180 ?_;refine W R6 ?_;refine qC ?_ ?_<;>intro h1
 .have ak:16384<s.length:=sm_ h1;have hS:a3v s=none:=by rw[d3h,F ak]
  refine c6 ?_;exact⟨_,r3 (rs:=[.tmp 2,.tmp 3,.tmp 4]) (cs:=[_,_,_]) J b5i (n_5 J),⟨([],false,0,2),by exact .ret (.tups ⟨.old (Y0 _ [] false),.old (.val _),.old (.val _),O⟩),.inr ⟨hS,J,J,G⟩⟩⟩
 .refine qD (c5 J Tryz.call227 o8 (c5M s X 0 (n_4 _) _) J ?_);intro n ⟨_,hn,hnr,hnb⟩;have ak:¬16384<s.length:=sm_ h1;have hS:a3v s=a6I s n:=by rw[d3h,D ak,hnr]
  refine A2 hCC 0 J (α:=List Tok×Nat) (λx=>[(0,(sv s)),(2,(.list (x.1.map Tok.cv) (gnn x.1.length) (C3 x.1.length 0))),(3,iv x.2)]) (λx=>[o5 x.1.length]) (λx=>x.2<=s.length/\x.1.length<=x.2/\(∀b,s[x.2]?=some b->l9 b.toNat≠5/\l9 b.toNat≠6)/\a3v s=(a6I s x.2).map (x.1++·)) (λx=>s.length -x.2) ⟨([],n),[9],⟨hn,n_4 _,hnb,by rw[hS];simp⟩,⟨J,J⟩,ut_,uq_⟩ ?_;intro⟨bt,p⟩ ⟨hp,fR,hpb,hr⟩;dsimp only at hp fR hpb hr⊢;refine a7w ?_;refine qC ?_ ?_<;>intro h2
  .have ab:p<s.length:=sm_ h2;obtain⟨b,hb⟩:∃b,s[p]?=some b:=⟨s[p]'ab,H⟩;obtain⟨hb5,hb6⟩:=hpb b hb;rw[d3k hb hb5 hb6]at hr;refine W (c4 J Tryz.call228 i7 (d2t s X p b hb ab _) J) ?_;refine z_1 ?_;refine qC ?_ ?_<;>intro h3
   .have he:(F0 s p b).2.2≠0:=I h3;rw[F he]at hr;refine c6 ?_;exact⟨_,r3 (rs:=[.tmp 2,.tmp 3,.tmp 4]) (cs:=[_,_,_]) J b5i (n_5 J),⟨([],false,(p:Int),(F0 s p b).2.2),by exact .ret (.tups ⟨.old (Y0 _ [] false),.old (.val _),.old (.val _),O⟩),.inr ⟨hr,J,J,he⟩⟩⟩
   .have he:(F0 s p b).2.2=0:=I h3;have fB:¬(F0 s p b).2.2≠0:=λh=>h he;rw[D fB]at hr;obtain⟨q,hq,hpq,ig⟩:=a6j hb fB;have hta:=d4F he;refine W (B1 [Tok.cv (b1y s p b)] J ⟨O,O⟩ b68 a4x a3m J J J J J J J J J) ?_;refine qD (A4 J O O J H q_5 b68 a4x c5U a3m J (.inr J) K2 c5Z B7 ((bt++[b1y s p b]).map Tok.cv) (bt++[b1y s p b]).length H H ?_);refine qD (c5 J Tryz.call227 i7 (by have h:=c5M s X q ig;rw[<- hq]at h;exact h _) J ?_);intro m ⟨hqm,hm,hmr,hmb⟩;exact⟨(bt++[b1y s p b],m),[2],⟨Q,hm,by dsimp only;rw[n_6,b6x];omega,hmb,by
     dsimp only;rw[hr,hq,a2L,hmr,hta,Option.map_map]
     congr 1
     funext t
     simp⟩,⟨J,J⟩,ut_,uq_⟩
  .have aF:p=s.length:=sm_ h2;rw[c9z aF]at hr;refine j6 ?_;refine W R6 ?_;refine W c2n ?_;refine W (B1 [Tok.cv ⟨5,[],0,(s.length:Int)⟩] J ⟨O,O⟩ b68 a4x a3m J J J J J J J J J) ?_;refine qD (A4 J O O J H q_5 b68 a4x c5U a3m J (.inr J) K2 c5Z B7 ((bt++[(⟨5,[],0,(s.length:Int)⟩:Tok)]).map Tok.cv) (bt++[(⟨5,[],0,(s.length:Int)⟩:Tok)]).length H H ?_);refine c6 ?_;exact⟨_,r3 (rs:=[.tmp 2,.tmp 3,.tmp 4]) (cs:=[_,_,_]) J b5i (n_5 J),⟨((bt++[(⟨5,[],0,(s.length:Int)⟩:Tok)]),gnn (bt++[(⟨5,[],0,(s.length:Int)⟩:Tok)]).length,0,0),by exact .ret (.tups ⟨.tok (λr hr c hc=>(C0 (f:=Tok.cv) (λ_=>O0.all ⟨.val _,.val _,.val _,.val _,O⟩) _) r hr c hc),.old (.val _),.old (.val _),O⟩),.inl ⟨by rw[hr,aF];rfl,by rw[n_6];rfl,J,J⟩⟩⟩
theorem c6n(s:U)(hs:s.length<=1000000000)(σ:List b9):b8 CC 180 [(sv s)] σ λr τ=>∃x:c7i,r= .ret (c6p x)/\τ=σ/\d4p s x:=
 F5 (res:=λx=>.ret (c6p x)) hCC (λa h=>by simp at h;subst h;exact .val _) (c13 s hs) (λ_ _=>D7 (cs:=[_,_,_]) ⟨a3V _ _,.val _,.val _,O⟩) σ
theorem c8o(e:Int):o9 e ([]:List Ex).length = .dead:=by
 unfold o9
 split<;>rfl
theorem c79{e:Int}{k p:Nat}:C6 L am (.list (([]:List Ex).map Ex.cv) (gnn ([]:List Ex).length) (tkE e ([]:List Ex).length k)) (.list (([]:List Ex).map Ex.cv) (gnn ([]:List Ex).length) (tkE e ([]:List Ex).length p)):=by
 have h:∀k,tkE e ([]:List Ex).length k=none:=λk=>by
  unfold tkE
  split<;>rfl
 rw[h,h];exact .old a33
theorem d0L{w s5:U}{m n5:Nat}{l:List U}{S:Option (List U×Nat)}(hl:l.length<=8)(hi:isT (tk T m) 1 [105,109,112,111,114,116]=true)(hS:S=a1K (9-l.length) T w m l)(p1:l.length=8->e1≠0)(p2:l.length≠8->e1=0)(q5:Ok e1 ((K8 T (m+1)).map λx=>(x.1.t,x.2)) e5 (s5,n5))
 (p3:e5≠0->e6≠0)(p4:e5=0->s5=w\/s5∈l->e6≠0)(p5:e5=0->¬(s5=w\/s5∈l)->e6=0)(q7:Ok e6 (pIs T n5 4 [59]) e7 n7):(e7=0->l.length <8/\S=a1K (9- (l++[s5]).length) T w n7 (l++[s5]))/\(e7≠0->S=none):=by
 obtain⟨f,hf⟩:∃f,9-l.length=f+1:=⟨8-l.length,X⟩;have gT:9- (l++[s5]).length=f:=by simp;omega
 rw[hf,a1K,F hi]at hS;rw[gT];have d7:e5≠0->e7≠0:=λh=>q7.2 (p3 h);by_cases h8:l.length=8
 .rw [F h8]at hS;exact⟨λh=>absurd h (d7 (q5.2 (p1 h8))),λ_=>hS⟩
 .rw [D h8]at hS;have fK:=p2 h8;subst fK
  rcases q5.zero with⟨g5,hn⟩|⟨g5,hn⟩
  .obtain ⟨x,hx,hg⟩:=P2.1 hn;injection hg with eB dZ
   rw[hx,n_9,eB,dZ]at hS;by_cases hm:s5=w\/s5∈l
   .rw [F hm]at hS;exact⟨λh=>absurd h (q7.2 (p4 g5 hm)),λ_=>hS⟩
   .rw [D hm]at hS;have g6:=p5 g5 hm;subst g6
    rcases q7.zero with⟨g7,hi7⟩|⟨g7,hi7⟩
    .rw [hi7,n_9]at hS;exact⟨λ_=>⟨X,hS⟩,λh=>absurd g7 h⟩
    .rw [hi7]at hS;exact⟨λh=>absurd h g7,λ_=>hS⟩
  .rw [a9K.1 hn]at hS;exact⟨λh=>absurd h (d7 g5),λ_=>hS⟩
theorem c69{m:Nat}{ds:List De}{S:Option (List De×Nat)}{a:RD5}(hl:ds.length<=64)(hk:¬(tk T m).k=5)(hS:S=U5 (65-ds.length) T m ds)(q:Ok 0 (a01 T ds m) a.e (a.d,a.n)):(a.e=0->ds.length <64/\S=U5 (65- (ds++[a.d]).length) T a.n (ds++[a.d]))/\(a.e≠0->S=none):=by
 obtain⟨f,hf⟩:∃f,65-ds.length=f+1:=⟨64-ds.length,X⟩;have gT:65- (ds++[a.d]).length=f:=by simp;omega
 rw[hf,U5,D hk]at hS;rw[gT]
 rcases q.zero with⟨g,hd⟩|⟨g,hd⟩
 .rw [hd,n_9]at hS;have:=b4x hd;exact⟨λ_=>⟨X,hS⟩,λh=>absurd g h⟩
 .rw [hd]at hS;exact⟨λh=>absurd h g,λ_=>hS⟩
structure RI5 where
 l:List U
 m:Nat
 at_:Int
 e:Int
variable{l:List U}
structure RJ5 where
 ds:List De
 m:Nat
 at_:Int
 e:Int
 ps:List U
 b:List Ex
variable{b:List Ex}{ps:List U}{m:Nat}{at_:Int}
theorem d4x{m2:Nat}{w:U}{ds:List De}(q1:Ok 0 (pIs T 0 1 [112,97,99,107,97,103,101]) e1 n1)(q2:Ok e1 ((K8 T n1).map λx=>(x.1.t,x.2)) e2 (w,n2))(q3:Ok e2 (pIs T n2 4 [59]) e3 n3)(q4:Ok e3 (a1K 9 T w n3 []) e4 (l,m))(q5:Ok e4 (U5 65 T m []) e5 (ds,m2)):Ok 0 (a1r T) e5 ⟨w,l,ds⟩:=by
 refine q1.bind (q2.bindM (λp hp hg=>?_) λh=>q5.2 (q4.2 (q3.2 h)));obtain⟨t,m'⟩:=p;injection hg with eB dZ
 dsimp only at eB dZ⊢;subst eB dZ;exact q3.bind (q4.bind (q5.bind .some))
theorem c7m(s:U)(hs:s.length<=1000000000):b8 CC 151 [(sv s)] [] λr τ=>∃x:c6Q,a1t 0 τ r (.ret (c7g x))/\b6Z s x:=by
 refine cO Tryz.func151 ?_;refine b63 ?_;refine L5 [.dead] J ?_;refine qs 4 (qD (p7 J a48 J j5 ?_));refine qD (c5 J Tryz.call180 ⟨O,O⟩ (c6n s hs _) J ?_);rintro⟨T,nn,at_,e⟩ hP;dsimp only at hP⊢;refine qC ?_ ?_<;>intro h1
 .have he:e≠0:=I h1;have hl:a3v s=none:=by
   rcases hP with⟨_,_,_,g⟩|⟨g,_⟩
   .exact absurd g he
   .exact g
  refine c68 ?_;exact⟨_,r3 (rs:=[.cell 2 67,.tmp 3,.tmp 4]) (cs:=[_,_,_]) J d9m (n_5 J),⟨((⟨[],[],[]⟩:Src),at_,e),d5a,.inr ⟨by rw[Q8,hl];rfl,J,he⟩⟩⟩
 .have he:e=0:=I h1;obtain⟨hl,rfl,rfl⟩:a3v s=some T/\nn=true/\at_=0:=by
   rcases hP with⟨g1,g2,g3,_⟩|⟨_,_,_,g⟩
   .exact ⟨g1,g2,g3⟩
   .exact absurd he g
  subst he;obtain⟨hc,h0⟩:=b3r hl;have hT:=hc.len;have hW:=hc.w;have ah:Q8 s=a1r T:=by rw[Q8,hl];rfl
  refine W (B4 #[(0,1),(1,1),(2,1),(3,1),(4,1),(5,1),(6,1)] J ⟨O,O⟩ b84 Tryz.zeroValue228 J ⟨_,J⟩ (λw=>by kernel_rfl) J J) ?_;refine qD (I0 J O j3 j5 ?_);refine L5 [o9 0 ([]:List Ex).length,.box [(sv ([])),.list (([]:List U).map scv) (gnn ([]:List U).length) none,.list (([]:List De).map De.cv) (gnn ([]:List De).length) none],rbx T 0 0 0 [] [] 0] J ?_;refine N6 (α:=Nat×Int×Int) (λ_=>[(2,.ptr 1 0),(6,.ptr 2 0)]) (λa=>[o9 a.2.2 ([]:List Ex).length,.box [(sv ([])),.list (([]:List U).map scv) (gnn ([]:List U).length) none,.list (([]:List De).map De.cv) (gnn ([]:List De).length) none],rbx T a.1 a.2.1 a.2.2 [] [] 0]) (λa=>Ok 0 (pIs T 0 1 [112,97,99,107,97,103,101]) a.2.2 a.1/\a.1 <T.length) ?_ ?_
  .
   refine qk (qD (c5 J b0Y o8 (a0k hT h0 hW [112,97,99,107,97,103,101] (q:=2) (s:=0) ⟨J,J,G⟩) J ?_));rintro⟨v9,m9⟩ ⟨fi,gE,iE,fk⟩;dsimp only at fi gE iE fk⊢;refine qN [o9 0 ([]:List Ex).length,.box [(sv ([])),.list (([]:List U).map scv) (gnn ([]:List U).length) none,.list (([]:List De).map De.cv) (gnn ([]:List De).length) none],rbx T m9 0 0 [] [] 0] J (qC ?_ ?_)<;> intro h2
   .have hw:v9=false:=I h2;refine W (c4 J a8U ⟨O,O⟩ (a0G hT fk (q:=2) (s:=0) ⟨J,J,G⟩) J) ?_;refine d7s ?_;rintro⟨x0,y0⟩ bH;dsimp only at bH⊢;refine qN [o9 y0 ([]:List Ex).length,.box [(sv ([])),.list (([]:List U).map scv) (gnn ([]:List U).length) none,.list (([]:List De).map De.cv) (gnn ([]:List De).length) none],rbx T m9 x0 y0 [] [] 0] J ?_;exact⟨(m9,x0,y0),⟨b1c (fi.symm.trans hw) bH,fk⟩,tu_,J⟩
   .have hw:v9=true:=I h2;exact⟨(m9,0,0),⟨by dsimp only;rw[gE hw];exact b00 (fi.symm.trans hw),fk⟩,tu_,J⟩
  .rintro ⟨n1,a1,e1⟩ E1 ⟨q1,y1⟩;dsimp only at q1 y1⊢;refine qk (qD (c5 J b7z ⟨O,O⟩ (a8k hT y1 hW (q:=2) (s:=0) ⟨J,J,G⟩) J ?_));rintro⟨w,n2,a2,e2⟩ ⟨q2,y2⟩;dsimp only at q2 y2⊢;refine qN [o9 e2 ([]:List Ex).length,.box [(sv ([])),.list (([]:List U).map scv) (gnn ([]:List U).length) none,.list (([]:List De).map De.cv) (gnn ([]:List De).length) none],rbx T n2 a2 e2 [] [] 0] J (qD (j2 J O O J j3 t_0 (.inl J) J J (nb J) ?_));refine qD (c5 J a41 o8 (O8 hT y2 hW [59] (q:=2) (s:=0) ⟨J,J,G⟩) J ?_);rintro⟨n3,a3,e3⟩ ⟨q3,y3⟩;dsimp only at q3 y3⊢;refine qN [o9 e3 ([]:List Ex).length,.box [(sv w),.list (([]:List U).map scv) (gnn ([]:List U).length) none,.list (([]:List De).map De.cv) (gnn ([]:List De).length) none],rbx T n3 a3 e3 [] [] 0] J ?_;refine A2 hCC 3 J (α:=RI5) (λ_=>[(2,.ptr 1 0),(6,.ptr 2 0)]) (λa=>[o9 a.e ([]:List Ex).length,.box [(sv w),.list (a.l.map scv) (gnn a.l.length) (C3 a.l.length 3),.list (([]:List De).map De.cv) (gnn ([]:List De).length) none],rbx T a.m a.at_ a.e [] [] 0,o5 a.l.length]) (λa=>(a.e=0->e3=0/\a1K 9 T w n3 []=a1K (9-a.l.length) T w a.m a.l/\a.l.length<=8)/\(a.e≠0->e3=0->a1K 9 T w n3 []=none)/\a.m <T.length/\a.l.length<=9) (λa=>if a.e=0 then 10-a.l.length else 0) ⟨⟨[],n3,a3,e3⟩,[0,1,2,9],⟨λh=>⟨h,J,n_4 _⟩,λh h'=>absurd h' h,y3,n_4 _⟩,⟨J,J⟩,ut_,⟨.inr ⟨_,J,.same J X0⟩,.inr ⟨_,J,.box ⟨.old (.val _),.old a2T,.old (U6 _ [] _),O⟩⟩,.inr ⟨_,J,.same J a9J⟩,.inl J,O⟩⟩ ?_;intro⟨l,m,a5,e⟩ ⟨hI,hN,hm,hl9⟩;dsimp only at hI hN hm hl9⊢;refine qs 1 (qG D4 ?_);refine qG d7e ?_;refine qG c4c ?_;refine b0b ?_;refine qG d7e ?_;refine qG c8E ?_;refine qG b3t ?_;refine W N9 ?_;refine qC ?_ ?_<;>intro h3
   .have hc3:e=0/\isT (tk T m) 1 [105,109,112,111,114,116]=true:=by simpa[isT,and_assoc]using h3
    obtain⟨rfl,hi⟩:=hc3;obtain⟨he3,hS,hl8⟩:=hI J;have bZ:=hW m hm (a7f hi G);refine N6 (α:=Int×Int) (λ_=>[(2,.ptr 1 0),(6,.ptr 2 0)]) (λa=>[o9 a.2 ([]:List Ex).length,.box [(sv w),.list (l.map scv) (gnn l.length) (C3 l.length 3),.list (([]:List De).map De.cv) (gnn ([]:List De).length) none],rbx T m a.1 a.2 [] [] 0,o5 l.length]) (λa=>(l.length=8->a.2≠0)/\(l.length≠8->a.2=0)) ?_ ?_
    .
     refine b24 ?_;refine qC ?_ ?_<;>intro h4
     .have h8:l.length=8:=sm_ h4;refine W (c4 J a8U ⟨O,O⟩ (a0G hT hm (q:=2) (s:=0) ⟨J,J,G⟩) J) ?_;refine d7s ?_;rintro⟨x0,y0⟩ bH;dsimp only at bH⊢;refine qN [o9 y0 ([]:List Ex).length,.box [(sv w),.list (l.map scv) (gnn l.length) (C3 l.length 3),.list (([]:List De).map De.cv) (gnn ([]:List De).length) none],rbx T m x0 y0 [] [] 0,o5 l.length] J ?_;exact⟨(x0,y0),⟨λ_=>bH,λh=>absurd h8 h⟩,tu_,J⟩
     .have h8:¬l.length=8:=sm_ h4;exact⟨(a5,0),⟨λh=>absurd h h8,λ_=>J⟩,tu_,J⟩
    .rintro ⟨a6,e6⟩ E2 ⟨p1,p2⟩;dsimp only at p1 p2⊢;refine qs 3 ?_;refine z_8 ?_;refine W (c4 J a8U ⟨O,O⟩ (a0G hT bZ (q:=2) (s:=0) ⟨J,J,G⟩) J) ?_;refine W a4M ?_;refine qD (c5 J b7z ⟨O,O⟩ (a8k hT bZ hW (q:=2) (s:=0) ⟨J,J,G⟩) J ?_);rintro⟨s5,n5,a7,e7⟩ ⟨q5,y5⟩;dsimp only at q5 y5⊢;have eO:=X6 l s5;refine qN [o9 e7 ([]:List Ex).length,.box [(sv w),.list (l.map scv) (gnn l.length) (C3 l.length 3),.list (([]:List De).map De.cv) (gnn ([]:List De).length) none],rbx T n5 a7 e7 [] [] 0,o5 l.length] J ?_;refine N6 (α:=Int×Int) (λ_=>[(2,.ptr 1 0),(6,.ptr 2 0),(8,(sv s5))]) (λa=>[o9 a.2 ([]:List Ex).length,.box [(sv w),.list (l.map scv) (gnn l.length) (C3 l.length 3),.list (([]:List De).map De.cv) (gnn ([]:List De).length) none],rbx T n5 a.1 a.2 [] [] 0,o5 l.length]) (λa=>(e7≠0->a.2≠0)/\(e7=0->s5=w\/s5∈l->a.2≠0)/\(e7=0->¬(s5=w\/s5∈l)->a.2=0)) ?_ ?_
     .
      refine qk (qG D4 ?_);refine qG d0P ?_;refine qG a02 ?_;refine qG b1X ?_;refine qG b0i ?_;refine qH J J (λhk hg=>j7 J O J a7h J a2H G) ?_;refine qH J J (λhk hg=>o6 J ⟨hk,hg⟩ J b74 J J) ?_;refine qH J J (λhk hg=>a2r J O j3) ?_;refine qH J J (λhk hg=>c4 J b9z ⟨⟨hk,hg⟩,⟨hk,hg⟩,O⟩ (a8b l (gnn l.length) s5 X _) J) ?_;refine qG (λhg=>b5L J hg J (λhp=>⟨hg,hp⟩) a0b) ?_;refine W N9 ?_;refine qC ?_ ?_<;>intro h5
      .have hc5:e7=0/\(s5=w\/s5∈l):=I h5;refine qD (c5 J b2u a21 (a0L _ _ G (q:=2) (s:=0) ⟨J,J,G⟩) J ?_);rintro⟨x0,y0⟩ bH;dsimp only at bH⊢;refine qN [o9 y0 ([]:List Ex).length,.box [(sv w),.list (l.map scv) (gnn l.length) (C3 l.length 3),.list (([]:List De).map De.cv) (gnn ([]:List De).length) none],rbx T n5 x0 y0 [] [] 0,o5 l.length] J ?_;exact⟨(x0,y0),⟨λ_=>bH,λ_ _=>bH,λ_ h=>absurd hc5.2 h⟩,tu_,J⟩
      .have hc5:¬(e7=0/\(s5=w\/s5∈l)):=λh=>by rcases h with⟨h,h'|h'⟩<;>simp[h,h']at h5
       exact⟨(a7,e7),⟨id,λh h'=>absurd ⟨h,h'⟩ hc5,λh _=>h⟩,tu_,J⟩
     .rintro ⟨a8,e8⟩ E3 ⟨p3,p4,p5⟩;dsimp only at p3 p4 p5⊢;refine qk (qD (c5 J a41 o8 (O8 hT y5 hW [59] (q:=2) (s:=0) ⟨J,J,G⟩) J ?_));rintro⟨n9,a9,e9⟩ ⟨q9,y9⟩;dsimp only at q9 y9⊢;have aE:=d0L hl8 hi hS p1 p2 q5 p3 p4 p5 q9;refine qN [o9 e9 ([]:List Ex).length,.box [(sv w),.list (l.map scv) (gnn l.length) (C3 l.length 3),.list (([]:List De).map De.cv) (gnn ([]:List De).length) none],rbx T n9 a9 e9 [] [] 0,o5 l.length] J (W (B1 [scv s5] J ⟨O,O⟩ t_2 t_0 t_4 J J J J J J J J J) ?_);refine qD (A4 J O O J H q_5 t_2 t_0 a3p t_4 J (.inr J) K2 Z6 B7 ((l++[s5]).map scv) (l++[s5]).length H H ?_);refine qD (j2 J O O J j3 a2H (.inl J) J J (nb J) ?_);exact⟨⟨l++[s5],n9,a9,e9⟩,[0,1,2,4],⟨by
       dsimp only;rw[F J]
       split<;>omega,λh=>⟨he3,(aE.1 h).2,by have:=(aE.1 h).1;dsimp only;omega⟩,λh _=>aE.2 h,y9,Q⟩,⟨J,J⟩,ut_,⟨.inr ⟨_,J,.same J X0⟩,.inr ⟨_,J,.box ⟨.old (.val _),C6.grow (f:=scv) (λ_=>⟨.val _,O⟩) J,.old (U6 _ [] _),O⟩⟩,.inr ⟨_,J,.same J a9J⟩,.inr ⟨_,J,.same J D8⟩,O⟩⟩
   .have hc3:e=0->isT (tk T m) 1 [105,109,112,111,114,116]=false:=λh0=>by
     by_cases hi:isT (tk T m) 1 [105,109,112,111,114,116]=true
     .have:=S4 hi;simp[h0,this.1,this.2]at h3
     .simpa using hi
    have q4:Ok e3 (a1K 9 T w n3 []) e (l,m):=Ok.of (λh=>by
     obtain⟨g3,hS,hl8⟩:=hI h;obtain⟨f,hf⟩:∃f,9-l.length=f+1:=⟨8-l.length,X⟩;exact⟨g3,hS.trans (by rw[hf,a1K,D (by rw[hc3 h];decide)])⟩) hN
    refine j6 ?_;refine A2 hCC 4 J (α:=RJ5) (λ_=>[(2,.ptr 1 0),(6,.ptr 2 0)]) (λa=>[.dead,.box [(sv w),.list (l.map scv) (gnn l.length) none,.list (a.ds.map De.cv) (gnn a.ds.length) (C3 a.ds.length 4)],rbx T a.m a.at_ a.e a.ps a.b 5,.dead,o5 a.ds.length,o9 a.e a.b.length]) (λa=>(a.e=0->e=0/\U5 65 T m []=U5 (65-a.ds.length) T a.m a.ds/\a.ds.length<=64)/\(a.e≠0->e=0->U5 65 T m []=none)/\a.m <T.length/\a.ds.length<=65) (λa=>if a.e=0 then T.length -a.m+1 else 0) ⟨⟨[],m,a5,e,[],[]⟩,[0,1,2,3,9,10],⟨λh=>⟨h,J,n_4 _⟩,λh h'=>absurd h' h,hm,n_4 _⟩,⟨J,J⟩,ut_,⟨.inl J,.inr ⟨_,J,.box ⟨.old (.val _),H5 (f:=scv) (λ_=>⟨.val _,O⟩) _,.old (U6 _ [] _),O⟩⟩,.inr ⟨_,J,.box ⟨.old a1u,.old (.val _),.old (.val _),.old (.val _),.old Z8,c79,.old a33,O⟩⟩,.inl J,.inl J,.inl (c8o _),O⟩⟩ ?_;intro⟨ds,m2,a6,e5,ps,b⟩ ⟨hI2,gF,ce,cK⟩;dsimp only at hI2 gF ce cK⊢;refine qk (qG D4 ?_);refine qG (λhg=>c4 J a8U ⟨hg,O⟩ (a0G hT ce (q:=2) (s:=5) ⟨J,J,G⟩) J) ?_;refine qG c4c ?_;refine a4k ?_;refine qC ?_ ?_<;>intro h6
    .have hc6:e5=0/\¬(tk T m2).k=5:=I h6;obtain⟨rfl,hk⟩:=hc6;obtain⟨he,hS,hd64⟩:=hI2 J;refine cF [] [0,1,2,3] (tl:=[(4,[0,1]),(5,[0,1]),(6,[]),(7,[]),(8,[])]) ?_;refine chf J c5z ?_;refine chf J c97 ?_;refine chf J W7 ?_;refine chf J (c8 J c0f) ?_;refine C8 ?_;refine B0 J J J (c5 J Tryz.call187 i7 (d4b hc w l ds hd64 ce (q:=2) (s:=5) ⟨J,J,G⟩) J ?_);rintro⟨d,m1,a7,e7,ps7,b7⟩ ⟨k7,y7,w7,z7⟩;dsimp only at k7 y7 w7 z7⊢;have eO:=X6 ds d;have bR:(if e7=0 then T.length -m1+1 else 0)< (if(0:Int)=0 then T.length -m2+1 else 0):=by
      rw[F J]
      split
      .rename_i h0;have:=z7 h0;omega
      .omega
     have aE:=c69 (a:=⟨d,m1,a7,e7,ps7,b7⟩) hd64 hk hS k7;refine a1O [.dead,.box [(sv w),.list (l.map scv) (gnn l.length) none,.list (ds.map De.cv) (gnn ds.length) (C3 ds.length 4)],rbx T m1 a7 e7 ps7 b7 6,.dead,o5 ds.length,.dead,o9 e7 b7.length] J ?_;refine d7L ?_;refine B0 J J J (A4 J O O J H q_5 b20 a54 Tryz.typeInfo119 b1V J (.inr J) K2 (by have hb:Tryz.t119.bytes=72:=J;rw[hb];first|omega|(simp;done)|(simp;omega)) B7 ((ds++[d]).map De.cv) (ds++[d]).length H H ?_);refine⟨O,?_⟩;refine d7i ?_;refine a84 ?_;exact⟨⟨ds++[d],m1,a7,e7,ps7,b7⟩,[0,1,2,3,7,6],⟨bR,λh=>⟨he,(aE.1 h).2,by have:=(aE.1 h).1;dsimp only;omega⟩,λh _=>aE.2 h,y7,Q⟩,⟨J,J⟩,ut_,⟨.inl J,.inr ⟨_,J,.box ⟨.old (.val _),.old Z8,C6.grow (f:=De.cv) (λ_=>⟨.val _,.val _,A6 _ _ _,P9 _ _ _,O⟩) J,O⟩⟩,.inr ⟨_,J,.box ⟨.old a1u,.old (.val _),.old (.val _),.old (.val _),.old Z8,a0v J,.old a33,O⟩⟩,.inl J,.inr ⟨_,J,.same J D8⟩,.inr ⟨_,J,.same J X0⟩,O⟩⟩
    .have q5:Ok e (U5 65 T m []) e5 (ds,m2):=Ok.of (λh=>by
      obtain⟨g3,hS,hd64⟩:=hI2 h;have hk:(tk T m2).k=5:=by
       by_cases hk:(tk T m2).k=5
       .exact hk
       .simp [h,hk]at h6
      obtain⟨f,hf⟩:∃f,65-ds.length=f+1:=⟨64-ds.length,X⟩;exact⟨g3,hS.trans (by rw[hf,U5,F hk])⟩) gF
     have hfile:=(d4x q1 q2 q3 q4 q5).zero;refine j6 ?_;refine qC ?_ ?_<;>intro h7
     .have he5:e5≠0:=I h7;refine cF [] [0,1,2,3,4,5,6,7,8] (tl:=[(9,[1,2,3,4,5,6,7,8]),(10,[5,6,7,8]),(11,[])]) ?_;refine chf J e0P ?_;refine b3A ?_;refine chf J (c8 J c9G) ?_;refine chf J b1M ?_;refine b3A ?_;refine chf J (c8 J b9g) ?_;refine chf J d3g ?_;refine d4r ?_;refine⟨⟨F4,a2a,(by exact c8 J c9G),b3o,F4,a2a,(by exact c8 J b9g),b5N,O⟩,?_⟩;refine E9 J J b97 ⟨⟨F4,a2a,(by exact c8 J b9g),b5N,O⟩,?_⟩;refine b0m ?_;exact⟨_,r3 (rs:=[.cell 2 67,.tmp 3,.tmp 4]) (cs:=[_,_,_]) J d9m (n_5 J),⟨((⟨[],[],[]⟩:Src),a6,e5),d5a,.inr ⟨by rw[ah];exact(hfile.resolve_left λh=>he5 h.1).2,J,he5⟩⟩⟩
     .have he5:e5=0:=I h7;refine c68 ?_;exact⟨_,r3 (rs:=[.cell 2 67,.tmp 3,.tmp 4]) (cs:=[_,_,_]) J d9m (n_5 J),⟨(⟨w,l,ds⟩,0,0),(by exact .ret (.tups ⟨.aggs ⟨.old (.val _),.old Z8,.tok (C0 (f:=De.cv) (λa=>(De.pure a).all) _),O⟩,.old (.val _),.old (.val _),O⟩)),.inl ⟨by rw[ah];exact(hfile.resolve_right λh=>h.1 he5).2,J,J⟩⟩⟩
theorem d0q(s:U)(hs:s.length<=1000000000)(σ:List b9):b8 CC 151 [(sv s)] σ λr τ=>∃x:c6Q,r= .ret (c7g x)/\τ=σ/\b6Z s x:=
 F5 (res:=λx=>.ret (c7g x)) hCC (λc hc=>by simp at hc;subst hc;exact .val _) (c7m s hs) (λx _=>D7 ⟨r6 x.1.pure,.val _,.val _,O⟩) σ
def b0N(p b:U):Option Src:=if a4T p=true then Q8 b else none
def a7s(l:List Fi)(p:U):Option Src:=(if x8 l=0 then C1 l p else none).bind (b0N p)
def r8(l:List Fi):List (U×Src):=l.filterMap λf=>(b0N f.p f.b).map λs=>(f.p,s)
theorem c1X{l:List Fi}{y:Fi}(h:l[i]?=some y):r8 (l.drop i)=(match b0N y.p y.b with|none=>[]|some s=>[(y.p,s)])++r8 (l.drop (i+1)):=by
 obtain⟨ab,rfl⟩:=n_3.1 h;rw[R0 ab];unfold r8;rw[List.filterMap_cons];cases b0N l[i].p l[i].b<;>rfl
abbrev V4(P:List U)(S:List Src):List CV:=[.list (P.map scv) (gnn P.length) none,.list (S.map Src.cv) (gnn S.length) none]
def b5a(l:List Fi):List U:=if x8 l=0 then(r8 l).map Prod.fst else []
def b4C(l:List Fi):List Src:=if x8 l=0 then(r8 l).map Prod.snd else []
theorem a3U(l:List Src)(nn:Bool):r5 (.list (l.map Src.cv) nn none):=P7 (f:=Src.cv) (λa=>(Src.pure a)) l nn
theorem a8y(n:Nat)(l:List Src)(nn:Bool):Old n (.list (l.map Src.cv) nn none):=(a3U l nn).old
theorem c0S(l:List Fi)(nn:Bool)(p:U)(hl:l.length<=1000000)(hp:p.length<=1000000000)(hb:∀q b,C1 l q=some b->b.length<=1000000000)(σ:List b9):b8 CC 99 [.agg (o4 l nn),(sv p)] σ λr aa=>r= .ret (.tup [.agg ((a7s l p).getD Src.z).cells,.val (.bool (a7s l p).isSome)])/\aa=σ:=by
 refine b8.anyw hCC (by repeat' (first|exact .val _|exact K6 _ _|exact Src.pure _|exact O|refine r6 ?_|refine D7 ?_|refine⟨?_,?_⟩)) (by repeat' (first|exact .val _|exact K6 _ _|exact Src.pure _|exact O|refine r6 ?_|refine D7 ?_|refine⟨?_,?_⟩)) ?_ σ;refine c7 (qO Tryz.func99 ?_);refine qD (I0 J O j3 j5 ?_);refine qD (p7 J a48 J j5 ?_);refine W (c4 J d1G i7 (a9n l nn p hl _) J) ?_;refine qG D4 ?_;refine qG (λhg=>c4 J Tryz.call24 ⟨hg,O⟩ (b3B p hp _) J) ?_;refine a9R ?_;refine qC ?_ ?_<;>intro h1
 .have h0:a7s l p=none:=by
   unfold a7s b0N;cases hz:(if x8 l=0 then C1 l p else none)with
   |none=>rfl
   |some b=>
    rw[hz]at h1;simp at h1;simp[h1]
  refine W e1L ?_;refine c68 ?_;exact⟨_,r3 (rs:=[.cell 4 67,.tmp 5]) (cs:=[_,_]) J d6o (n_5 J),_,_,J,J,(by rw[h0];exact .tups ⟨.old (r6 (Src.pure Src.z)).old,.old (.val _),O⟩)⟩
 .obtain ⟨b,hz,hs⟩:∃b,(if x8 l=0 then C1 l p else none)=some b/\a4T p=true:=by
   cases hz:(if x8 l=0 then C1 l p else none)with
   |none=>rw[hz]at h1;simp at h1
   |some b=>rw[hz]at h1;simp at h1;exact⟨b,J,h1⟩
  have h0:a7s l p=Q8 b:=by rw[a7s,hz,n_9,b0N,F hs]
  refine qD (c5 J Tryz.call151 ⟨O,O⟩ (d0q _ (by
   cases hd:C1 l p with
   |none=>split<;>simp
   |some b=>have:=hb p b hd;split<;>simp<;>omega) _) J ?_)
  rintro⟨x,at_,e⟩ hP;dsimp only at hP⊢;rw[hz]at hP;have hx:((a7s l p).getD Src.z)=x/\(a7s l p).isSome=decide (e=0):=by
   rw[h0]
   rcases hP with⟨g1,_,g3⟩|⟨g1,g2,g3⟩
   .replace g1:Q8 b=some x:=g1;rw[g1];exact⟨J,(a1B g3).symm⟩
   .replace g1:Q8 b=none:=g1;rw[g1];exact⟨g2.symm,(a1S g3).symm⟩
  refine c2N ?_;refine c68 ?_;exact⟨_,r3 (rs:=[.cell 4 67,.tmp 5]) (cs:=[_,_]) J d6o (n_5 J),_,_,J,J,(by rw[hx.1,hx.2];exact .tups ⟨.old (r6 (Src.pure x)).old,.old (.val _),O⟩)⟩
theorem c9x{l:List Fi}(h:x8 l=0):l.length<=64:=by
 unfold x8 at h;split at h
 .cases h
 .omega
theorem d3D(l:List Fi)(nn:Bool)(hl:l.length<=1000000)(hp:∀f∈l,f.p.length<=1000000000)(hbl:∀q b,C1 l q=some b->b.length<=1000000000)(hd:x8 l=0->∀f∈l,C1 l f.p=some f.b):b8 CC 55 [.agg (o4 l nn)] [] λr τ=>∃_:Unit,a1t 0 τ r (.ret (.agg (V4 (b5a l) (b4C l))))/\True:=by
 refine qO Tryz.func55 ?_;refine qD (I0 J O j3 j5 ?_);refine qD (p7 J c7q J j5 ?_);refine qD (p7 J c7q J j5 ?_);refine W (c4 J c4W ⟨O,O⟩ (a4B l nn _) J) ?_;refine qC ?_ ?_<;>intro h1
 .have h0:¬x8 l=0:=I h1;refine d7m ?_;exact⟨_,F2 J ⟨O,_,_,_,J,J,.inr ⟨_,d2x,c7x,nb J,J⟩⟩,⟨(),by rw[b5a,b4C,D h0,D h0];exact .ret (.old (r6 (cs:=[.list [] false none,.list [] false none]) ⟨F3 [] false,F3 [] false,O⟩).old),O⟩⟩
 .have h0:x8 l=0:=I h1;have iD:=c9x h0;refine W a0E ?_;refine A2 hCC 3 J (α:=Nat×List U×List Src) (λa=>[(1,.ptr 0 0),(2,.ptr 1 0),(3,.ptr 2 0),(13,(.list (l.map Fi.cv) nn none)),(14,iv l.length),(15,iv a.1)]) (λa=>[.box (o4 l nn),.box [.list [] false none,.list [] false none],.box [.list (a.2.1.map scv) (gnn a.2.1.length) (C3 a.2.1.length 3),.list (a.2.2.map Src.cv) (gnn a.2.2.length) (C3 a.2.2.length 4)],o5 a.2.1.length,o5 a.2.2.length]) (λa=>a.1<=l.length/\a.2.1.length<=a.1/\a.2.2.length<=a.1/\(r8 l).map Prod.fst=a.2.1++(r8 (l.drop a.1)).map Prod.fst/\(r8 l).map Prod.snd=a.2.2++(r8 (l.drop a.1)).map Prod.snd) (λa=>l.length -a.1) ⟨(0,[],[]),[0,1,2,9,10],⟨n_4 _,n_7 _,n_7 _,J,J⟩,⟨J,J⟩,ut_,⟨.inr ⟨_,J,.box ⟨.old a3H,O⟩⟩,.inr ⟨_,J,.box ⟨.old a2T,.old a2T,O⟩⟩,.inr ⟨_,J,.box ⟨.old a2T,.old a2T,O⟩⟩,.inl J,.inl J,O⟩⟩ ?_;intro⟨i,P,Jk⟩ ⟨hi,ba,hql,hr,hq⟩;dsimp only at hi ba hql hr hq⊢;refine qk (qC ?_ ?_)<;> intro h2
  .have ab:(i:Int)<l.length:=I h2;obtain⟨y,hb⟩:=gx_ l i;have hyd:=hd h0 y (n_2 hb);have hsy:a7s l y.p=b0N y.p y.b:=by rw[a7s,F h0,hyd];rfl
   rw[c1X hb]at hr hq;refine b3N ?_;refine W (c4 J Tryz.call99 i7 (c0S l nn y.p hl (hp y (n_2 hb)) hbl _) J) ?_;refine c2N ?_;refine qC ?_ ?_<;>intro h3
   .obtain ⟨s,hs⟩:∃s,b0N y.p y.b=some s:=b8M.1 (by rw[<- hsy];exact h3);have hsd:(a7s l y.p).getD Src.z=s:=by rw[hsy,hs];rfl
    rw[hs]at hr hq;replace hr:(r8 l).map Prod.fst=P++(y.p::(r8 (l.drop (i+1))).map Prod.fst):=hr;replace hq:(r8 l).map Prod.snd=Jk++(s::(r8 (l.drop (i+1))).map Prod.snd):=hq;rw[<- hsd]at hq;refine cF [11] [0,1,2,3,4,6,7,8,9] (tl:=[(5,[5,6,7,8]),(11,[5,6,7,8]),(10,[]),(12,[]),(13,[]),(14,[])]) ?_;refine chf J (c8 J b3a) ?_;refine chf J d3q ?_;refine b5x ?_;refine chf J e1X ?_;refine chf J c9Q ?_;refine chf J (c8 J c4s) ?_;refine chf J (c8 J c0f) ?_;refine chf J (c8 J e2e) ?_;refine C8 ?_;refine B0 J J J (A4 J O O J H q_5 t_2 t_0 a3p t_4 J (.inr J) K2 Z6 B7 ((P++[y.p]).map scv) (P++[y.p]).length H H ?_);refine⟨⟨(by exact c8 J (j7 J O J c3j J c3s G)),(by exact c8 J c4s),(by exact c8 J c0f),(by exact c8 J e2e),O⟩,?_⟩;refine b23 J J (λ_=>c8 J b3a) ?_;refine B0 J J J (A4 J O O J H q_5 b7G a4d Tryz.typeInfo67 a48 J (.inr J) K2 (by have hb:Tryz.t67.bytes=64:=J;rw[hb];first|omega|(simp;done)|(simp;omega)) B7 ((Jk++[(a7s l y.p).getD Src.z]).map Src.cv) (Jk++[(a7s l y.p).getD Src.z]).length H H ?_);refine⟨O,?_⟩;refine B0 J J J (j2 J O O J j3 a2H (.inl J) J J (nb J) ?_);refine⟨O,?_⟩;refine E9 J J c9Q ⟨O,?_⟩;refine B0 J J J (j2 J O O J j3 c3s (.inl J) J J (nb J) ?_);refine a84 ?_;refine W j9 ?_;exact⟨(i+1,P++[y.p],Jk++[(a7s l y.p).getD Src.z]),[0,1,2,7,8],⟨Q,Q,by dsimp only;simp;omega,by dsimp only;simp;omega,by dsimp only;rw[hr,C7];rfl,by dsimp only;rw[hq,C7];rfl⟩,⟨J,J⟩,ut_,⟨.inr ⟨_,J,.box ⟨.old a3H,O⟩⟩,.inr ⟨_,J,.box ⟨.old a2T,.old a2T,O⟩⟩,.inr ⟨_,J,.box ⟨C6.grow (f:=scv) (λ_=>⟨.val _,O⟩) J,C6.grow (f:=Src.cv) (λ_=>⟨.val _,A6 _ _ _,U6 _ _ _,O⟩) J,O⟩⟩,.inr ⟨_,J,.same J D8⟩,.inr ⟨_,J,.same J D8⟩,O⟩⟩
   .have hs:b0N y.p y.b=none:=by rw[<- hsy];simpa using h3
    rw[hs]at hr hq;rw[a1D]at hr hq;refine W j9 ?_;exact⟨(i+1,P,Jk),[0,1,2,3,4],⟨Q,Q,Q,Q,hr,hq⟩,⟨J,J⟩,ut_,⟨.inr ⟨_,J,.box ⟨.old a3H,O⟩⟩,.inr ⟨_,J,.box ⟨.old a2T,.old a2T,O⟩⟩,.inr ⟨_,J,.box ⟨C6.grow (f:=scv) (λ_=>⟨.val _,O⟩) J,C6.grow (f:=Src.cv) (λ_=>⟨.val _,A6 _ _ _,U6 _ _ _,O⟩) J,O⟩⟩,.inr ⟨_,J,.same J D8⟩,.inr ⟨_,J,.same J D8⟩,O⟩⟩
  .have aF:l.length<=i:=sm_ h2;rw[T6 aF]at hr hq;replace hr:(r8 l).map Prod.fst=P:=by rw[hr];exact a0z _
   replace hq:(r8 l).map Prod.snd=Jk:=by rw[hq];exact a0z _
   refine j6 ?_;refine d7m ?_;exact⟨_,F2 J ⟨O,_,_,_,J,J,.inr ⟨_,d2x,c7x,nb J,J⟩⟩,⟨(),by rw[b5a,b4C,F h0,F h0,hr,hq];exact .ret (.aggs ⟨.tok (C0 (f:=scv) (λ_=>O0.all ⟨.val _,O⟩) _),.tok (C0 (f:=Src.cv) (λa=>(Src.pure a).all) _),O⟩),O⟩⟩
theorem d4u(l:List Fi)(nn:Bool)(hl:l.length<=1000000)(hp:∀f∈l,f.p.length<=1000000000)(hbl:∀q b,C1 l q=some b->b.length<=1000000000)(hd:x8 l=0->∀f∈l,C1 l f.p=some f.b)(σ:List b9):b8 CC 55 [.agg (o4 l nn)] σ λr τ=>r= .ret (.agg (V4 (b5a l) (b4C l)))/\τ=σ:=
 (F5 (α:=Unit) (res:=λ_=>.ret (.agg (V4 (b5a l) (b4C l)))) hCC (λc h=>by simp at h;subst h;exact r6 ⟨K6 _ _,O⟩) (d3D l nn hl hp hbl hd) (λ_ _=>r6 ⟨F3 _ _,a3U _ _,O⟩) σ).mono λ_ _ ⟨_,h1,h2,_⟩=>⟨h1,h2⟩
inductive Tr where
 |n (k u o:Int) (nm:U) (ch:List Tr)
variable{n:Nat}
mutual
def Tr.size:Tr->Nat
 | .n _ _ _ _ ch=>A0 ch+1
def A0:List Tr->Nat
 | []=>0
 |t::l=>t.size+A0 l
end
def o7:List Tr->Nat->List Int
 | [],_=>[]
 |t::l,s=>((s+t.size -1:Nat):Int)::o7 l (s+t.size)
mutual
def Tr.flat:Tr->Nat->List Ex
 | .n k u o nm ch,s=>K9 ch s++[⟨k,u,o,nm,o7 ch s⟩]
def K9:List Tr->Nat->List Ex
 | [],_=>[]
 |t::l,s=>t.flat s++K9 l (s+t.size)
end
structure X2(np:Nat)(k u o:Int)(nm:U)(c:Nat):Prop where
 kind:1<=k/\k<=10
 num:k≠1->k≠2->k≠10->u=0
 op:k≠4->o=0
 name:k=1\/k=2\/k=4\/k=5\/k=10->nm=[]
 cnt:c=if k=4 then 2 else if k=5 then 3 else if k=6 then 1 else if k=3 then c else 0
 k1:k=1->-9007199254740992<=u/\u<=9007199254740992
 k2:k=2->0<=u/\u<np
 k3:k=3->C4 nm=true/\S7 nm=false
 k4:k=4->1<=o/\o<=7
 k678:k=6\/k=7\/k=8->I1 nm=true
 k9:k=9->C4 nm=true
 k10:k=10->0<=u/\u<64
mutual
def Tr.wf(np:Nat):Nat->Tr->Prop
 |d,.n k u o nm ch=>d<=32/\X2 np k u o nm ch.length/\wfL np (if k=4 then d else d+1) ch
def wfL(np:Nat):Nat->List Tr->Prop
 |_,[]=>True
 |d,t::l=>t.wf np d/\wfL np d l
end
theorem Tr.size_pos(t:Tr):1<=t.size:=by cases t;rw[Tr.size];omega
mutual
theorem Tr.flat_len:∀(t:Tr) (s:Nat),(t.flat s).length=t.size
 | .n k u o nm ch,s=>by rw[Tr.flat,Tr.size,n_6,T3 ch s];rfl
theorem T3:∀(l:List Tr) (s:Nat),(K9 l s).length=A0 l
 | [],_=>rfl
 |t::l,s=>by rw[K9,A0,n_6,Tr.flat_len t s,T3 l _]
end
theorem b1K:∀(l:List Tr) (t:Tr) (s:Nat),K9 (l++[t]) s=K9 l s++t.flat (s+A0 l)
 | [],t,s=>by simp[K9,A0]
 |x::l,t,s=>by rw[b0G,K9,K9,b1K l t,A0,C7,a8e]
theorem a99:∀(l:List Tr) (t:Tr) (s:Nat),o7 (l++[t]) s=o7 l s++[((s+A0 l+t.size -1:Nat):Int)]
 | [],t,s=>by simp[o7,A0]
 |x::l,t,s=>by rw[b0G,o7,o7,a99 l t,A0,b0G,a8e s]
theorem c0T{np d:Nat}:∀{l:List Tr} {t:Tr},wfL np d l->t.wf np d->wfL np d (l++[t])
 | [],t,_,h=>by simp only[a1D,wfL];exact⟨h,O⟩
 |x::l,t,h,h2=>by
  rw[wfL]at h;rw[b0G,wfL];exact⟨h.1,c0T h.2 h2⟩
mutual
theorem Tr.wf_mono{np:Nat}:∀(t:Tr) {d e:Nat},e<=d->t.wf np d->t.wf np e
 | .n k u o nm ch,d,e,he,h=>by
  rw[Tr.wf]at h⊢;refine⟨X,h.2.1,c05 ch (d:=if k=4 then d else d+1) ?_ h.2.2⟩
  split<;>omega
theorem c05{np:Nat}:∀(l:List Tr) {d e:Nat},e<=d->wfL np d l->wfL np e l
 | [],_,_,_,_=>by rw[wfL];trivial
 |t::l,d,e,he,h=>by
  rw[wfL]at h⊢;exact⟨Tr.wf_mono t he h.1,c05 l he h.2⟩
end
def Got(np d:Nat)(b:List Ex)(x:PX):Prop:=∃t:Tr,x.2.2=b++t.flat b.length/\x.1+1=x.2.2.length/\t.wf np d
theorem a5i{ch:List Tr}{k u o:Int}{args:List Int}{b2:List Ex}(h1:b1=b++K9 ch b.length)(h2:args=o7 ch b.length)(h3:Z1 b1 ⟨k,u,o,nm,args⟩=some (i,b2))(hd:d<=32)(hn:X2 np k u o nm ch.length)(hw:wfL np (if k=4 then d else d+1) ch)(m:Nat):Got np d b (i,m,b2):=by
 unfold Z1 at h3;split at h3
 .cases h3
 .injection h3 with h3
  injection h3 with h3 h4
  subst h1 h2 h3 h4;refine⟨.n k u o nm ch,by rw[Tr.flat,C7],by simp;omega,?_⟩;rw[Tr.wf];exact⟨hd,hn,hw⟩
def TG(T:List Tok):Prop:=∀i,((tk T i).k=1->C4 (tk T i).t=true)/\0<=(tk T i).n/\(tk T i).n<=9007199254740992
theorem d4K{lv:Int}(h:¬opS t lv=0):1<=opS t lv/\opS t lv<=7:=by
 unfold opS at h⊢;cases hf:S0.find? (opM t lv)with
 |none=>rw[hf]at h;exact absurd J h
 |some y=>
  have h2:=c0D hf;simp only[b83,a9B];revert h2;revert y;intro y _ hy;have:∀y∈S0,1<=y.1/\y.1<=7:=by decide
  exact this y hy
theorem a3w{x:Ex}{y:PX}(h:N8 b x m=some y):Z1 b x=some (y.1,y.2.2)/\y.2.1=m:=by
 unfold N8 at h;cases hp:Z1 b x with
 |none=>rw[hp]at h;cases h
 |some w=>
  rw[hp,n_9]at h;injection h with h
  subst h;exact⟨J,J⟩
theorem a2E{k u o:Int}{y:PX}(h:N8 b ⟨k,u,o,nm,[]⟩ m=some y)(hd:d<=32)(hn:X2 np k u o nm 0):Got np d b y:=by
 obtain⟨h1,h2⟩:=a3w h;have:=a5i (np:=np) (d:=d) (b:=b) (ch:=[]) (args:=[]) (by rw[K9,a0z]) J h1 hd hn (by rw[wfL];trivial) y.2.1;exact this
theorem d5u{e:Nat}{x:PX}{k u o:Int}{y:PX}(hx:Got np e b x)(h:N8 x.2.2 ⟨k,u,o,nm,[(x.1:Int)]⟩ m=some y)(hd:d<=32)(hn:X2 np k u o nm 1)(he:e=if k=4 then d else d+1):Got np d b y:=by
 obtain⟨t,t1,t2,t3⟩:=hx;obtain⟨h1,h2⟩:=a3w h;have hl:=t.flat_len b.length;rw[t1,n_6,hl]at t2;have:=a5i (np:=np) (d:=d) (b:=b) (ch:=[t]) (args:=[(x.1:Int)]) (by rw[t1,K9,K9,a0z]) (by rw[o7,o7];congr 1;omega) h1 hd hn (by rw[wfL,wfL,<- he];exact⟨t3,O⟩) y.2.1;exact this
theorem c9{β:Type}{f:α->Option β}{y:β}(h:o.bind f=some y):∃x,o=some x/\f x=some y:=by
 cases o with
 |none=>cases h
 |some x=>exact⟨x,J,h⟩
theorem a79{x:Tok×Nat}(h:a00 T n=some x):I1 x.1.t=true:=by
 obtain⟨y,_,h2⟩:=c9 h;split at h2
 .rename_i hp;injection h2 with h2
  subst h2;exact hp
 .cases h2
theorem a7j{k:Int}{x:Tok×Nat}(h:G6 T n k=some x):x.1=tk T n/\(tk T n).k=k:=by
 unfold G6 at h;split at h
 .rename_i hk;injection h with h
  subst h;exact⟨J,hk⟩
 .cases h
theorem c77(hF:∀d n b x,Jh.ex d n b=some x->Got np d b x)(hT:TG T){y:PX}(hd:d<=32)(h:Z4 T Jh u d n b=some y):Got np d b y:=by
 unfold Z4 at h;obtain⟨n1,_,h⟩:=c9 h;split at h
 .obtain ⟨s,h1,h⟩:=c9 h;obtain⟨n2,_,h⟩:=c9 h;obtain⟨x,h3,h⟩:=c9 h;obtain⟨m,_,h⟩:=c9 h;exact d5u (hF _ _ _ _ h3) h hd ⟨G,λ_ _ _=>J,λ_=>J,λh=>absurd h G,J,λh=>absurd h G,λh=>absurd h G,λh=>absurd h G,λh=>absurd h G,λ_=>a79 h1,λh=>absurd h G,λh=>absurd h G⟩ J
 .split at h
  .obtain ⟨s,h1,h⟩:=c9 h;obtain⟨m,_,h⟩:=c9 h;exact a2E h hd ⟨G,λ_ _ _=>J,λ_=>J,λh=>absurd h G,J,λh=>absurd h G,λh=>absurd h G,λh=>absurd h G,λh=>absurd h G,λ_=>a79 h1,λh=>absurd h G,λh=>absurd h G⟩
  .split at h
   .obtain ⟨s,h1,h⟩:=c9 h;obtain⟨m,_,h⟩:=c9 h;exact a2E h hd ⟨G,λ_ _ _=>J,λ_=>J,λh=>absurd h G,J,λh=>absurd h G,λh=>absurd h G,λh=>absurd h G,λh=>absurd h G,λ_=>a79 h1,λh=>absurd h G,λh=>absurd h G⟩
   .split at h
    .obtain ⟨s,h1,h⟩:=c9 h;split at h
     .rename_i bN;obtain⟨m,_,h⟩:=c9 h;exact a2E h hd ⟨G,λ_ _ _=>J,λ_=>J,λh=>absurd h G,J,λh=>absurd h G,λh=>absurd h G,λh=>absurd h G,λh=>absurd h G,λh=>absurd h G,λ_=>bN,λh=>absurd h G⟩
     .cases h
    .obtain ⟨s,h1,h⟩:=c9 h;split at h
     .cases h
     .rename_i ab;obtain⟨m,_,h⟩:=c9 h;have hk:=a7j h1;have hg:=(hT n1).2;rw[<- hk.1]at hg;exact a2E h hd ⟨G,λ_ _ h=>absurd J h,λ_=>J,λ_=>J,J,λh=>absurd h G,λh=>absurd h G,λh=>absurd h G,λh=>absurd h G,λh=>absurd h G,λh=>absurd h G,λ_=>⟨hg.1,X⟩⟩
theorem c3J{T:List Tok}{ps:List U}(hT:TG T):∀f:Nat,
 (∀d n b x,(A3 T ps f).ex d n b=some x->Got ps.length d b x) /\
 (∀lv d n b x,d<=32->(A3 T ps f).bin lv d n b=some x->Got ps.length d b x) /\
 (∀lv d n b x,d<=32->(A3 T ps f).fac d n b=some x->lv=0->Got ps.length d b x) /\
 (∀lv d n b0 b (tx:Tr) (i:Nat) x,d<=32->b=b0++tx.flat b0.length->i+1=b.length->tx.wf ps.length d->(A3 T ps f).lp lv d i n b=some x->Got ps.length d b0 x) /\
 (∀d n b0 b (ch:List Tr) bt y,d<=32->b=b0++K9 ch b0.length->bt=o7 ch b0.length->wfL ps.length (d+1) ch->(A3 T ps f).ag d n b bt=some y->∃ch',y.2.2=b0++K9 ch' b0.length/\y.1=o7 ch' b0.length/\wfL ps.length (d+1) ch')
 |0=>by
  refine⟨λd n b x h=>?_,λlv d n b x _ h=>?_,λlv d n b x _ h=>?_,λlv d n b0 b tx i x _ _ _ _ h=>?_,λd n b0 b ch bt y _ _ _ _ h=>?_⟩<;>cases h
 |f+1=>by
  obtain⟨hE,hB,hF,hL,hA⟩:=c3J hT f;refine⟨λd n b x h=>?_,λlv d n b x hd h=>?_,λlv d n b y hd h _=>?_,λlv d n b0 b tx i x hd hb hi hw h=>?_,λd n b0 b ch bt y hd hb ha hw h=>?_⟩
  .change (G9 T ps (A3 T ps f)).ex d n b=some x at h;simp only[G9]at h;split at h
   .cases h
   .rename_i hd;split at h
    .obtain ⟨x1,h1,h⟩:=c9 h;obtain⟨n2,_,h⟩:=c9 h;obtain⟨x2,h2,h⟩:=c9 h;obtain⟨n3,_,h⟩:=c9 h;obtain⟨x3,h3,h⟩:=c9 h;obtain⟨t1,a1,a2,a3⟩:=hE _ _ _ _ h1;obtain⟨t2,b1,b2,b3⟩:=hE _ _ _ _ h2;obtain⟨t3,c1,c2,c3⟩:=hE _ _ _ _ h3;have l1:=t1.flat_len b.length;have e1:x1.2.2.length=b.length+t1.size:=by rw[a1,n_6,l1]
     have e2:x2.2.2.length=b.length+t1.size+t2.size:=by rw[b1,n_6,t2.flat_len,e1]
     have e3:x3.2.2.length=b.length+t1.size+t2.size+t3.size:=by rw[c1,n_6,t3.flat_len,e2]
     obtain⟨g1,g2⟩:=a3w h;have:=a5i (np:=ps.length) (d:=d) (b:=b) (ch:=[t1,t2,t3]) (args:=[(x1.1:Int),(x2.1:Int),(x3.1:Int)]) (by rw[c1,b1,a1];simp only[K9,a0z,C7,n_6,Tr.flat_len,a8e]) (by simp only[o7];congr 1;omega;congr 1;omega;congr 1;omega) g1 X ⟨G,λ_ _ _=>J,λ_=>J,λ_=>J,J,λh=>absurd h G,λh=>absurd h G,λh=>absurd h G,λh=>absurd h G,λh=>absurd h G,λh=>absurd h G,λh=>absurd h G⟩ (by simp only[wfL];exact⟨a3,b3,c3,O⟩) x.2.1;exact this
    .exact hB 1 d n b x X h
  .change (G9 T ps (A3 T ps f)).bin lv d n b=some x at h;simp only[G9]at h;split at h
   .exact hF 0 d n b x hd h J
   .obtain ⟨x1,h1,h⟩:=c9 h;obtain⟨t,a1,a2,a3⟩:=hB _ _ _ _ _ hd h1;exact hL lv d x1.2.1 b x1.2.2 t x1.1 x hd a1 a2 a3 h
  .change (G9 T ps (A3 T ps f)).fac d n b=some y at h;simp only[G9]at h;have hg:=hT n;split at h
   .exact a2E h hd ⟨G,λh=>absurd J h,λ_=>J,λ_=>J,J,λ_=>⟨X,hg.2.2⟩,λh=>absurd h G,λh=>absurd h G,λh=>absurd h G,λh=>absurd h G,λh=>absurd h G,λh=>absurd h G⟩
   .split at h
    .obtain ⟨s,h1,h⟩:=c9 h;have hk:=a7j h1;have hg:=(hT (n+1)).2;rw[<- hk.1]at hg;exact a2E h hd ⟨G,λh=>absurd J h,λ_=>J,λ_=>J,J,λ_=>⟨X,X⟩,λh=>absurd h G,λh=>absurd h G,λh=>absurd h G,λh=>absurd h G,λh=>absurd h G,λh=>absurd h G⟩
    .split at h
     .obtain ⟨x1,h1,h⟩:=c9 h;obtain⟨m,_,h⟩:=c9 h;injection h with h
      subst h;obtain⟨t,a1,a2,a3⟩:=hE _ _ _ _ h1;exact⟨t,a1,a2,t.wf_mono (Nat.le_succ d) a3⟩
     .split at h
      .cases h
      .rename_i bw;split at h
       .exact c77 hE hT hd h
       .split at h
        .cases h
        .rename_i bi;split at h
         .obtain ⟨a,h1,h⟩:=c9 h;unfold a2Y at h1;obtain⟨n1,_,h1⟩:=c9 h1;have dh:∃ch',a.2.2=b++K9 ch' b.length/\a.1=o7 ch' b.length/\wfL ps.length (d+1) ch':=by
           split at h1
           .injection h1 with h1
            subst h1;exact⟨[],by simp[K9],J,by rw[wfL];trivial⟩
           .exact hA d n1 b b [] [] a hd (by simp[K9]) J (by rw[wfL];trivial) h1
          obtain⟨ch,c1,c2,c3⟩:=dh;obtain⟨g1,g2⟩:=a3w h;have bN:C4 (tk T n).t=true:=hg.1 (I bw);have:=a5i (np:=ps.length) (d:=d) (b:=b) (ch:=ch) c1 c2 g1 hd ⟨G,λ_ _ _=>J,λ_=>J,λh=>absurd h G,J,λh=>absurd h G,λh=>absurd h G,λ_=>⟨bN,I bi⟩,λh=>absurd h G,λh=>absurd h G,λh=>absurd h G,λh=>absurd h G⟩ c3 y.2.1;exact this
         .split at h
          .cases h
          .rename_i hix;refine a2E h hd ⟨G,λ_ h=>absurd J h,λ_=>J,λ_=>J,J,λh=>absurd h G,λ_=>⟨X,?_⟩,λh=>absurd h G,λh=>absurd h G,λh=>absurd h G,λh=>absurd h G,λh=>absurd h G⟩
           rcases a9l (tk T n).t ps 0 with⟨_,g⟩|⟨_,_,g⟩
           .omega
           .simpa using g
  .change (G9 T ps (A3 T ps f)).lp lv d i n b=some x at h;simp only[G9]at h;split at h
   .injection h with h
    subst h;exact⟨tx,hb,hi,hw⟩
   .rename_i bn;obtain⟨y,h1,h⟩:=c9 h;obtain⟨w,h2,h⟩:=c9 h;obtain⟨ty,a1,a2,a3⟩:=hB _ _ _ _ _ hd h1;have e0:b.length=b0.length+tx.size:=by rw[hb,n_6,tx.flat_len]
    have e1:y.2.2.length=b0.length+tx.size+ty.size:=by rw[a1,n_6,ty.flat_len,e0]
    have hnode:Got ps.length d b0 (w.1,y.2.1,w.2):=a5i (np:=ps.length) (d:=d) (b:=b0) (ch:=[tx,ty]) (args:=[(i:Int),(y.1:Int)]) (by rw[a1,hb];simp only[K9,a0z,C7,n_6,Tr.flat_len]) (by simp only[o7];congr 1;omega;congr 1;omega) h2 hd ⟨G,λ_ _ _=>J,λh=>absurd J h,λ_=>J,J,λh=>absurd h G,λh=>absurd h G,λh=>absurd h G,λ_=>d4K bn,λh=>absurd h G,λh=>absurd h G,λh=>absurd h G⟩ (by simp only[wfL];exact⟨hw,a3,O⟩) y.2.1;split at h
    .injection h with h
     subst h;exact hnode
    .obtain ⟨t,c1,c2,c3⟩:=hnode;exact hL lv d y.2.1 b0 w.2 t w.1 x hd c1 c2 c3 h
  .change (G9 T ps (A3 T ps f)).ag d n b bt=some y at h;simp only[G9]at h;obtain⟨x1,h1,h⟩:=c9 h;obtain⟨t,a1,a2,a3⟩:=hE _ _ _ _ h1;have e0:b.length=b0.length+A0 ch:=by rw[hb,n_6,T3]
   have e1:x1.2.2.length=b0.length+A0 ch+t.size:=by rw[a1,n_6,t.flat_len,e0]
   have c1:x1.2.2=b0++K9 (ch++[t]) b0.length:=by rw[a1,hb,b1K,C7];simp only[n_6,T3]
   have c2:bt++[(x1.1:Int)]=o7 (ch++[t]) b0.length:=by rw[ha,a99];congr 2;omega
   have c3:=c0T hw a3;split at h
   .exact hA d _ b0 _ (ch++[t]) _ y hd c1 c2 c3 h
   .obtain ⟨m,_,h⟩:=c9 h;injection h with h
    subst h;exact⟨ch++[t],c1,c2,c3⟩
theorem a09(s:U)(hs:s.length<=1000000000000)(σ:List b9):b8 CC 280 [(sv s)] σ λr aa=>r= .ret (.val (.bool (C4 s&& !S7 s)))/\aa=σ:=by
 refine b8.anyw hCC pu_ pu_ (c7 (qO Tryz.func280 ?_)) σ;refine W (c4 J c67 ⟨O,O⟩ (a14 s _) J) ?_;refine qG D4 ?_;refine qG (λhg=>c4 J d3l ⟨hg,O⟩ (a3g s _) J) ?_;refine qG a29 ?_;refine b0D ?_;exact⟨_,rE1,_,_,J,J,j4 J⟩
theorem X2.cnt0{k u o:Int}{c:Nat}(h:X2 np k u o nm c)(h3:k≠3)(h4:k≠4)(h5:k≠5)(h6:k≠6):c=0:=by
 have:=h.cnt;rw[D h4,D h5,D h6,D h3]at this;exact this
theorem c2k(x:Ex)(np:Nat)(h:X2 np x.k x.num x.op x.name x.args.length)(bN:x.name.length<=1000000)(fR:x.args.length<=1000000)(σ:List b9):b8 CC 303 [.agg x.cells,iv np] σ λr aa=>r= .ret (.val (.bool true))/\aa=σ:=by
 refine an_ Tryz.func303 ?_;refine b58 ?_;refine cY a5X ?_;refine a85 ?_;refine cW 8 ?_;refine c9A ?_;refine hY a1z ?_;refine b4E ?_;refine hY a0d ?_;refine hY a4R ?_;refine b5d ?_;refine a85 ?_;refine cW 8 ?_;refine c1b ?_;refine hY Q7 ?_;refine b4E ?_;refine hY a0d ?_;refine hY a4R ?_;refine b5d ?_;refine a7D ?_;refine cY b9e ?_;refine cY a0R ?_;refine c7Y ?_;refine a32 ?_;refine cC ?_ ?_<;>intro h1
 .have u1:x.k=1:=I h1;have e1:=h.op X;have e2:=h.name (.inl u1);have e3:=h.cnt0 X X X X;have e4:=h.k1 u1;refine b1B ?_;refine b0h ?_;refine b0h ?_;refine c7P ?_;refine a58 ?_;exact⟨_,rE1,_,_,J,J,j4 (by simp[e1,e2,e3];omega)⟩
 .have u1:¬x.k=1:=I h1;refine a32 ?_;refine cC ?_ ?_<;>intro h2
  .have u2:x.k=2:=I h2;have e1:=h.op X;have e2:=h.name (.inr (.inl u2));have e3:=h.cnt0 X X X X;have e4:=h.k2 u2;refine b1B ?_;refine b0h ?_;refine b0h ?_;refine cG D4 ?_;refine cG b5j ?_;refine cY N9 ?_;refine a58 ?_;exact⟨_,rE1,_,_,J,J,j4 (by simp[e1,e2,e3];omega)⟩
  .have u2:¬x.k=2:=I h2;refine a32 ?_;refine cC ?_ ?_<;>intro h3
   .have u3:x.k=3:=I h3;have e1:=h.op X;have e2:=h.num X X X;have e4:=h.k3 u3;refine d1z ?_;refine cY A8 ?_;refine cG c4e ?_;refine cG a02 ?_;refine cG (λhg=>c4 J c6Y ⟨hg,O⟩ (a09 x.name X _) J) ?_;refine cY N9 ?_;refine a58 ?_;exact⟨_,rE1,_,_,J,J,j4 (by simp[e1,e2,e4])⟩
   .have u3:¬x.k=3:=I h3;refine a32 ?_;refine cC ?_ ?_<;>intro h4
    .have u4:x.k=4:=I h4;have e1:=h.num X X X;have e2:=h.name (.inr (.inr (.inl u4)));have e3:x.args.length=2:=by rw[h.cnt,F u4]
     have e4:=h.k4 u4;refine b1B ?_;refine b0h ?_;refine b0h ?_;refine c7P ?_;refine a58 ?_;exact⟨_,rE1,_,_,J,J,j4 (by simp[e1,e2,e3];omega)⟩
    .have u4:¬x.k=4:=I h4;refine a32 ?_;refine cC ?_ ?_<;>intro h5
     .have u5:x.k=5:=I h5;have e1:=h.op X;have e5:=h.num X X X;have e2:=h.name (.inr (.inr (.inr (.inl u5))));have e3:x.args.length=3:=by rw[h.cnt,D X,F u5]
      refine d1z ?_;refine d8j ?_;refine c7H ?_;refine c7P ?_;refine a58 ?_;exact⟨_,rE1,_,_,J,J,j4 (by simp[e1,e2,e3,e5])⟩
     .have u5:¬x.k=5:=I h5;refine a32 ?_;refine cC ?_ ?_<;>intro h6
      .have u6:x.k=6:=I h6;have e1:=h.op X;have e2:=h.num X X X;have e3:x.args.length=1:=by rw[h.cnt,D X,D X,F u6]
       have e4:=h.k678 (.inl u6);refine b1B ?_;refine d4z ?_;refine cG c4e ?_;refine d7G ?_;refine cY N9 ?_;exact d2v
      .have u6:¬x.k=6:=I h6;refine S3 hCC (α:=Bool) (λb=>[(2,.ptr 0 0),(5,iv x.args.length),(6,(.val (.bool (x.num == 0)))),(7,(.val (.bool (decide (x.name=[]))))),(8,(.val (.bool (x.op == 0)))),(22,iv x.k),(123,(.val (.bool b)))]) (λ_=>[.box x.cells]) (λb=>b=(x.k == 7 ||x.k == 8)) z8 uz_ ?_ ?_
       .
        refine a32 ?_;refine cC ?_ ?_<;>intro h7
        .refine C2 ?_;exact⟨(x.k == 7),_,(by simp_all),tu_,J⟩
        .refine G8 ?_;refine d3L ?_;exact⟨(x.k == 8),_,(by simp_all),tu_,J⟩
       .intro b hb;refine cC ?_ ?_<;>intro h8
        .have u8:x.k=7\/x.k=8:=by subst hb;simpa using h8
         have e1:=h.op X;have e2:=h.num X X X;have e3:=h.cnt0 X X X X;have e4:=h.k678 (.inr u8);refine b1B ?_;refine d4z ?_;refine cG c4e ?_;refine d7G ?_;refine cY N9 ?_;exact d2v
        .have u8:¬(x.k=7\/x.k=8):=by subst hb;simpa using h8
         refine a32 ?_;refine cC ?_ ?_<;>intro h9
         .have u9:x.k=9:=I h9;have e1:=h.op X;have e2:=h.num X X X;have e3:=h.cnt0 X X X X;have e4:=h.k9 u9;refine b1B ?_;refine d4z ?_;refine cG c4e ?_;refine cG a02 ?_;refine cG (λhg=>c4 J c67 ⟨hg,O⟩ (a14 x.name _) J) ?_;refine cY N9 ?_;exact d2v
         .have u9:¬x.k=9:=I h9;refine a32 ?_;refine cC ?_ ?_<;>intro bb
          .have u10:x.k=10:=I bb;have e1:=h.op X;have e2:=h.name (.inr (.inr (.inr (.inr u10))));have e3:=h.cnt0 X X X X;have e4:=h.k10 u10;refine b1B ?_;refine b0h ?_;refine b0h ?_;refine c7P ?_;refine a58 ?_;exact⟨_,rE1,_,_,J,J,j4 (by simp[e1,e2,e3];omega)⟩
          .have u10:¬x.k=10:=I bb;have:=h.kind;exfalso;omega
mutual
def Tr.sts:Tr->Nat->List Nat
 | .n _ _ _ _ ch,s=>b3Q ch s++[s]
def b3Q:List Tr->Nat->List Nat
 | [],_=>[]
 |t::l,s=>t.sts s++b3Q l (s+t.size)
end
mutual
theorem Tr.sts_len:∀(t:Tr) (s:Nat),(t.sts s).length=t.size
 | .n k u o nm ch,s=>by rw[Tr.sts,Tr.size,n_6,a3t ch s];rfl
theorem a3t:∀(l:List Tr) (s:Nat),(b3Q l s).length=A0 l
 | [],_=>rfl
 |t::l,s=>by rw[b3Q,A0,n_6,Tr.sts_len t s,a3t l _]
end
theorem U2:∀(l:List Tr) (s:Nat),(o7 l s).length=l.length
 | [],_=>rfl
 |t::l,s=>by rw[o7,C5,C5,U2 l]
theorem Tr.sts_last(t:Tr)(s:Nat):(t.sts s)[t.size -1]?=some s:=by
 cases t with
 |n k u o nm ch=>
  rw[Tr.sts,Tr.size,c3D,a1v (by rw[a3t];exact n_7 _),a3t];simp
def ChS(S:List Nat):List Tr->Nat->Prop
 | [],_=>True
 |c::l,s=>S[s+c.size -1]?=some s/\ChS S l (s+c.size)
structure d9r(E:List Ex)(S:List Nat)(np j:Nat)(x:Ex)(z:Nat)(ch:List Tr):Prop where
 e:E[j]?=some x
 s:S[j]?=some z
 args:x.args=o7 ch z
 size:z+A0 ch=j
 chs:ChS S ch z
 ok:X2 np x.k x.num x.op x.name x.args.length
variable{e:Int}
theorem c5f:∀(l:List Tr) (s:Nat) (S0 S1:List Nat),S0.length=s->ChS (S0++b3Q l s++S1) l s
 | [],_,_,_,_=>trivial
 |t::l,s,S0,S1,h=>by
  have hp:=t.size_pos;refine⟨?_,?_⟩
  .rw [b3Q,C7,C7,a1v X,h,show s+t.size -1-s=t.size -1 by omega,R8 (by rw[t.sts_len];omega)];exact t.sts_last s
  .have:=c5f l (s+t.size) (S0++t.sts s) S1 (by rw[n_6,t.sts_len,h]);rw[b3Q,<- C7 S0];exact this
mutual
theorem c8r{np:Nat}:∀(t:Tr) {d:Nat} (s:Nat) (E0 E1:List Ex) (S0 S1:List Nat),E0.length=s->S0.length=s->t.wf np d->∀j,s<=j->j<s+t.size->∃x z ch,d9r (E0++t.flat s++E1) (S0++t.sts s++S1) np j x z ch
 | .n k u o nm ch,d,s,E0,E1,S0,S1,hE,hS,hw,j,h1,h2=>by
  rw[Tr.wf]at hw;rw[Tr.size]at h2;rw[Tr.flat,Tr.sts];by_cases hj:j<s+A0 ch
  .have:=c5G ch s E0 (⟨k,u,o,nm,o7 ch s⟩::E1) S0 (s::S1) hE hS hw.2.2 j h1 hj;simpa[C7]using this
  .have hj:j=s+A0 ch:=by omega
   refine⟨⟨k,u,o,nm,o7 ch s⟩,s,ch,?_,?_,J,X,?_,by rw[U2];exact hw.2.1⟩
   .rw [<- C7,C7,a1v (by rw[n_6,T3];omega),n_6,T3,hE,hj,b0o];rfl
   .rw [<- C7,C7,a1v (by rw[n_6,a3t];omega),n_6,a3t,hS,hj,b0o];rfl
   .have:=c5f ch s S0 (s::S1) hS;simpa[C7]using this
theorem c5G{np:Nat}:∀(l:List Tr) {d:Nat} (s:Nat) (E0 E1:List Ex) (S0 S1:List Nat),E0.length=s->S0.length=s->wfL np d l->∀j,s<=j->j<s+A0 l->∃x z ch,d9r (E0++K9 l s++E1) (S0++b3Q l s++S1) np j x z ch
 | [],_,s,_,_,_,_,_,_,_,j,h1,h2=>by rw[A0]at h2;omega
 |t::l,d,s,E0,E1,S0,S1,hE,hS,hw,j,h1,h2=>by
  rw[wfL]at hw;rw[A0]at h2;rw[K9,b3Q];by_cases hj:j<s+t.size
  .have:=c8r t s E0 (K9 l (s+t.size)++E1) S0 (b3Q l (s+t.size)++S1) hE hS hw.1 j h1 hj;simpa[C7]using this
  .have:=c5G l (s+t.size) (E0++t.flat s) E1 (S0++t.sts s) S1 (by rw[n_6,t.flat_len,hE]) (by rw[n_6,t.sts_len,hS]) hw.2 j X X;simpa[C7]using this
end
theorem b7k{t:Tr}(hw:t.wf np d){j:Nat}(h:j<t.size):∃x z ch,d9r (t.flat 0) (t.sts 0) np j x z ch:=by
 have:=c8r t 0 [] [] [] [] J J hw j (n_4 _) X;simpa using this
theorem a4t:∀{l:List Tr} {m:Nat} {c:Tr},l[m]?=some c->A0 (l.take (m+1))=A0 (l.take m)+c.size
 | [],m,c,h=>by simp at h
 |x::l,0,c,h=>by simp at h;subst h;simp[A0]
 |x::l,m+1,c,h=>by
  have:=a4t (l:=l) (m:=m) (c:=c) (I h);rw[a88,a88,A0,A0,this];omega
theorem M7:∀{l:List Tr} {m s:Nat} {c:Tr},l[m]?=some c->(o7 l s)[m]?=some ((s+A0 (l.take m)+c.size -1:Nat):Int)
 | [],m,s,c,h=>by simp at h
 |x::l,0,s,c,h=>by simp at h;subst h;simp[o7,A0]
 |x::l,m+1,s,c,h=>by
  rw[o7,c5J,M7 (l:=l) (m:=m) (c:=c) (I h),a88,A0,a8e s]
theorem c36{S:List Nat}:∀{l:List Tr} {m s:Nat} {c:Tr},ChS S l s->l[m]?=some c->S[s+A0 (l.take m)+c.size -1]?=some (s+A0 (l.take m))
 | [],m,s,c,_,h=>by simp at h
 |x::l,0,s,c,h,hc=>by simp at hc;subst hc;simpa[A0]using h.1
 |x::l,m+1,s,c,h,hc=>by
  have:=c36 (l:=l) (m:=m) (c:=c) h.2 (I hc);rw[a88,A0,<- a8e s];exact this
def a4C(S:List Nat)(n i:Nat):List Int:=(S.take i).map (λz:Nat=>(z:Int))++List.replicate (n-i) 0
theorem c9T(hS:S.length=n)(hi:i<=n):(a4C S n i).length=n:=by
 unfold a4C;rw[n_6,L7,a4Y,List.length_replicate];omega
theorem d5m{j z:Nat}{v:Int}(hj:j<i)(hz:S[j]?=some z):((a4C S n i).set i v)[j]?=some (z:Int):=by
 rw[a2M X];unfold a4C;have hl:=(n_3.1 hz).1;rw[R8 c3C,O5,a2y,F hj,hz];rfl
theorem c5E{v:Int}(hS:S.length=n)(hi:i<n):((a4C S n i).set i v)[i]?=some v:=by
 rw[b0L (by rw[c9T hS X];exact hi)]
theorem c6Z{z:Nat}(hS:S.length=n)(hz:S[i]?=some z):(a4C S n i).set i (z:Int)=a4C S n (i+1):=by
 have hi:i<n:=by rw[<- hS];exact(n_3.1 hz).1
 unfold a4C;have e:n-i=(n- (i+1))+1:=by omega
 rw[e,List.replicate_succ,b4f _ _ c3C,L7,a4Y,b5O X,b0o,List.set_cons_zero,a1H,hz];simp
theorem c7a{z:Nat}(hj:i<n)(hz:S[i]?=some z):(a4C S n n)[i]?=some (z:Int):=by
 unfold a4C;have hl:=(n_3.1 hz).1;rw[R8 c3C,O5,a2y,F hj,hz];rfl
structure DeG(d:De):Prop where
 kind:d.k=1\/d.k=2\/d.k=3
 name:d.k≠3->C4 d.name=true/\S7 d.name=false
 path:d.k=3->I1 d.name=true
 pars:d.k≠1->d.params=[]
 par:∀s∈d.params,C4 s=true/\S7 s=false
 parl:d.params.length<=8
 nod:d.params.Nodup
 tree:∃t:Tr,d.body=t.flat 0/\t.wf d.params.length 1
 blen:d.body.length<=256
theorem B9{s:U}(h:C4 s=true):s.length<=24:=by
 unfold C4 at h;cases s with
 |nil=>cases h
 |cons b s=>
  simp only[T7,a1G]at h;exact h.1.1
theorem M5{s:U}(h:I1 s=true):s.length<=80:=by
 unfold I1 at h;simp only[T7,a1G]at h;exact h.1.1
theorem X2.len{k u o:Int}{c:Nat}(h:X2 np k u o nm c):nm.length<=80:=by
 have hk:=h.kind;by_cases h3:k=3
 .have:=B9 (h.k3 h3).1;omega
 .by_cases h9:k=9
  .have:=B9 (h.k9 h9);omega
  .by_cases h6:k=6\/k=7\/k=8
   .exact M5 (h.k678 h6)
   .rw [h.name X];simp
theorem a3I:∀(l:List Tr),l.length<=A0 l
 | []=>n_7 _
 |t::l=>by have:=t.size_pos;have:=a3I l;rw[A0,C5];omega
theorem a1o:∀(l:List Tr) (m:Nat),A0 (l.take m)<=A0 l
 | [],m=>by simp
 |t::l,0=>by simp[A0]
 |t::l,m+1=>by have:=a1o l m;rw[a88,A0,A0];omega
theorem d1v(hS:S.length=n)(hi:i<n):(a4C S n i)[i]?=some 0:=by
 unfold a4C;rw[a1v c3C,L7,a4Y,b5O X,b0o,d1M,F X]
theorem De.old(x:De)(n:Nat):I6 n (.box x.cells):=z6 ⟨.val _,.val _,A6 _ _ _,P9 _ _ _,O⟩
theorem Ex.old(x:Ex)(n:Nat):I6 n (.box x.cells):=z6 ⟨.val _,.val _,.val _,.val _,V0 _ _ _,O⟩
theorem b3v(n:Nat)(l:List Int):I6 n (.vec 1 (l.map icv)):=λr hr c hc=>by
 obtain⟨a,_,rfl⟩:=D5.1 hr;simp[icv]at hc;subst hc;exact .val _
theorem a7B(l:List Int)(i:Nat)(v:Int):(l.map icv).set i [iv v]=(l.set i v).map icv:=by rw[List.map_set];rfl
theorem b3X(d:De)(h:DeG d)(σ:List b9):b8 CC 281 [.agg d.cells] σ λr aa=>r= .ret (.val (.bool true))/\aa=σ:=by
 refine an_ Tryz.func281 ?_;refine b58 ?_;refine b2H ?_;refine S3 hCC (α:=Unit) (λ_=>[(1,.ptr 0 0)]) (λ_=>[.box d.cells]) (λ_=>True) z8 uz_ ?_ ?_
 .
  refine z_0 ?_;refine cY b2R ?_;refine cY a0R ?_;refine c7Y ?_;refine G4 ?_;refine a32 ?_;refine cC ?_ ?_<;>intro h1
  .have u1:d.k=1:=I h1;have bN:=h.name X;refine C2 ?_;refine cC ?_ ?_<;>intro h2
   .refine z_0 ?_;refine cY b5E ?_;refine cY W9 ?_;refine ye J c6Y ⟨O,O⟩ (a09 d.name b9F _) J ?_;refine b5A ?_;refine cC ?_ ?_<;>intro h3
    .exfalso;simp[bN]at h3
    .exact c94
   .exfalso;simp[u1]at h2
  .have u1:¬d.k=1:=I h1;refine G8 ?_;refine d3L ?_;refine cC ?_ ?_<;>intro h4
   .have u4:d.k=2:=I h4;have bN:=h.name X;refine z_0 ?_;refine cY b5E ?_;refine cY W9 ?_;refine ye J c6Y ⟨O,O⟩ (a09 d.name b9F _) J ?_;refine b5A ?_;refine cC ?_ ?_<;>intro h5
    .exfalso;simp[bN]at h5
    .exact c94
   .have u4:¬d.k=2:=I h4;refine a32 ?_;refine cC ?_ ?_<;>intro h6
    .have u6:d.k=3:=I h6;have bN:=h.path u6;refine z_0 ?_;refine cY b5E ?_;refine cY W9 ?_;refine ye J c76 ⟨O,O⟩ (a19 d.name (by have:=M5 bN;omega) _) J ?_;refine b5A ?_;refine cC ?_ ?_<;>intro h7
     .exfalso;simp[bN]at h7
     .exact c94
    .exfalso;have:=h.kind;simp at h6;omega
 .intro _ _;refine G4 ?_;refine z_0 ?_;refine b7P ?_;refine b4H ?_;refine j8 hCC (α:=Nat) (λi=>[(1,.ptr 0 0),(25,(.list (d.params.map scv) (gnn d.params.length) none)),(26,iv d.params.length),(27,iv i)]) (λ_=>[.box d.cells]) (λi=>i<=d.params.length) (λi=>d.params.length -i) 0 (n_4 _) tu_ (ai:=[]) J z8 uz_ ?_;intro i hi;have ba:=h.parl;refine b13 ?_;refine cC ?_ ?_<;>intro h8
  .have ab:(i:Int)<d.params.length:=I h8;obtain⟨y,hb⟩:=gx_ d.params i;have bN:=h.par y (n_2 hb);have bw:d.k=1:=by
    rcases Classical.em (d.k=1)with e|e
    .exact e
    .have:=h.pars e;rw[this]at hb;simp at hb
   refine a8C ?_;refine z_0 ?_;refine cY a64 ?_;refine cY a5u ?_;refine z_5 ?_;refine z_0 ?_;refine cY b2R ?_;refine cY a0R ?_;refine cY a0d ?_;refine c7H ?_;refine cG (λhg=>c4 J c6Y ⟨hg,O⟩ (a09 y b9F _) J) ?_;refine cG a29 ?_;refine cY S6 ?_;refine w9 ?_;refine cC ?_ ?_<;>intro h9
   .exfalso;simp[bN,bw]at h9
   .refine C2 ?_;exact c9P
  .obtain ⟨t,fu,hwf⟩:=h.tree;have hbl:d.body.length=t.size:=by rw[fu,t.flat_len]
   have dS:(t.sts 0).length=d.body.length:=by rw[t.sts_len,hbl]
   have hb256:=h.blen;have htp:=t.size_pos;refine j6 ?_;refine z_0 ?_;refine b9s ?_;refine cD (c2R J O O J J (n:=d.body.length) (c:=d.body.length) J J t_6 t_1 c1J t_8 J (a4h J) J X X (by have hb:Tryz.t3.bytes=8:=J;rw[hb];omega) ?_);refine z_5 ?_;refine L5 [.box d.cells,.vec 1 ((a4C (t.sts 0) d.body.length 0).map icv)] (by unfold a4C;simp[List.map_replicate];exact .inr J) ?_;refine G4 ?_;refine z_0 ?_;refine b9s ?_;refine b4H ?_;refine j8 hCC (α:=Nat) (λi=>[(1,.ptr 0 0),(5,.vec 1 0 d.body.length),(45,(.list (d.body.map Ex.cv) (gnn d.body.length) none)),(46,iv d.body.length),(47,iv i)]) (λi=>[.box d.cells,.vec 1 ((a4C (t.sts 0) d.body.length i).map icv)]) (λi=>i<=d.body.length) (λi=>d.body.length -i) 0 (n_4 _) tu_ (ai:=[]) J z8 uz_ ?_;intro i hi;refine b13 ?_;refine cC ?_ ?_<;>intro bb
   .have ab:(i:Int)<d.body.length:=I bb;obtain⟨x,z,ch,cw⟩:=b7k hwf (j:=i) X;have fR:x.args.length=ch.length:=by rw[cw.args,U2]
    have bO:=a3I ch;have aJ:=cw.size;have hzi:z+A0 (ch.take ch.length)=i:=by rw[a6K];exact aJ
    refine a8C ?_;refine z_4 ?_;refine cY (p9 J O O J J b3G a9w X (j1 (by rw[fu];exact cw.e)) J) ?_;refine cY (X3 J O J Tryz.isAgg212 a9w (nb J)) ?_;refine cD (p7 J b6g J j5 ?_);refine cY a4R ?_;refine cD (j2 J O O J j3 a9w j5 J J (nb J) ?_);refine a7D ?_;refine cY c9o ?_;refine b7P ?_;refine ye J Tryz.call303 i7 (c2k x d.params.length cw.ok (by have:=cw.ok.len;omega) X _) J ?_;refine b5A ?_;refine cC ?_ ?_<;>intro cB
    .exfalso;simp at cB
    .have hcur:=d1v (S:=t.sts 0) (i:=i) dS X;refine C2 ?_;refine a78 ?_;refine cY A8 ?_;refine cY a4N ?_;refine cD (M8 (((a4C (t.sts 0) d.body.length i).set i ((z+A0 (ch.take ch.length):Nat):Int)).map icv) J O O J j3 t_1 (.inl J) J (by simpa using j1 (f:=icv) hcur) J (nb J) (by rw[hzi];simp only[K0,a2L];exact a7B _ _ _) J ?_);refine b2t ?_;refine cY c9q ?_;refine cY b8N ?_;refine cY a1z ?_;refine cY X7 ?_;refine z_5 ?_;refine a1A ?_;refine j8 hCC (α:=Nat) (λm=>[(1,.ptr 0 0),(5,.vec 1 0 d.body.length),(6,iv i),(7,.ptr 2 0),(8,(iv ((m:Int) -1))),(45,(.list (d.body.map Ex.cv) (gnn d.body.length) none)),(46,iv d.body.length),(47,iv i)]) (λm=>[.box d.cells,.vec 1 (((a4C (t.sts 0) d.body.length i).set i ((z+A0 (ch.take m):Nat):Int)).map icv),.box x.cells]) (λm=>m<=ch.length) (λm=>m) ch.length (n_7 _) ⟨o0,o0,o0,o0,⟨O,(n_8 (λz:Nat=>(iv ((z:Int) -1))) fR)⟩,o0,o0,o0,O⟩ (ai:=[]) J z8 uz_ ?_;intro m hm;refine G4 ?_;refine z_4 ?_;refine b0Z ?_;refine cC ?_ ?_<;>intro cX
     .have hmp:(0:Int)<=(m:Int) -1:=I cX;obtain⟨m,rfl⟩:∃m',m=m'+1:=⟨m-1,X⟩;obtain⟨c,hc⟩:=gx_ ch m;have aE:=a4t hc;have hcp:=c.size_pos;have aO:=a1o ch (m+1);refine a8C ?_;refine G4 (G4 ?_);refine cW 19 ?_;refine c9A ?_;refine hY A8 ?_;refine hY e1k ?_;refine c0C ?_;refine hY a4N ?_;refine hY (P8 J O J a2K J (by simpa using j1 (f:=icv) (c5E dS X)) J) ?_;refine hY X7 ?_;refine hY a5E ?_;refine hY A8 ?_;refine L1 J J O J (λhg=>j7 J O J a68 J b9t G) ?_;refine L1 J J O J (λhg=>o6 J hg J c0E J J) ?_;refine L1 J J O J D4 ?_;refine L1 J J O J (λhg=>p9 J hg hg J J t_6 t_1 a7y (j1 (by rw[show(((m+1:Nat):Int) -1).toNat=m by omega,cw.args];exact M7 hc)) J) ?_;refine L1 J J O J (λhg=>a1f J hg J a2K J) ?_;refine d1P ?_;refine a7k (w9 ?_);refine cC ?_ ?_<;>intro dw
      .exfalso;simp at dw;omega
      .refine C2 ?_;refine a42 ?_;refine cY A8 ?_;refine cY A8 ?_;refine cY c9q ?_;refine cY b8N ?_;refine cY A8 ?_;refine cY e1k ?_;refine cY a7U ?_;refine cY a4N ?_;refine cY (P8 J O J a2K J (by simpa using j1 (f:=icv) (d5m (n:=d.body.length) (i:=i) (v:=((z+A0 (ch.take (m+1)):Nat):Int)) X (c36 cw.chs hc))) J) ?_;refine cY a4N ?_;refine cD (M8 (((a4C (t.sts 0) d.body.length i).set i ((z+A0 (ch.take m):Nat):Int)).map icv) J O O J j3 t_1 (.inl J) J (by simpa using j1 (f:=icv) (c5E dS X)) J (nb J) (by simp only[K0,a2L];refine(a7B _ _ _).trans ?_;rw[List.set_set,Int.natCast_add]) J ?_);refine w9 ?_;refine a42 ?_;refine cY X7 ?_;refine z_5 ?_;exact⟨m,_,⟨X,X⟩,⟨o0,o0,o0,o0,⟨O,(n_8 (λz:Int=>(iv z)) X)⟩,o0,o0,o0,O⟩,J⟩
     .have hm0:m=0:=sm_ cX;subst hm0;refine L5 [.box d.cells,.vec 1 ((a4C (t.sts 0) d.body.length (i+1)).map icv),.box x.cells] (by rw[<- c6Z dS cw.s];rfl) ?_;refine j6 ?_;exact c9P
   .have bF:i=d.body.length:=sm_ bb;have hroot:(t.sts 0)[d.body.length -1]?=some 0:=by rw[hbl];exact t.sts_last 0
    refine j6 ?_;refine z_0 ?_;refine b9s ?_;refine cY a0d ?_;refine c7H ?_;refine cG b8F ?_;refine cG b40 ?_;refine cG b8V ?_;refine cG c8P ?_;refine cG (λhg=>T0 J hg hg J J t_6 t_1 J a7y a7y) ?_;refine cG (λhg=>P8 J hg J a2K J (by rw[bF,show 0+((d.body.length:Int) -1).toNat=d.body.length -1 by omega];exact j1 (f:=icv) (c7a X hroot)) J) ?_;refine c7P ?_;refine a58 ?_;exact⟨_,rE1,_,_,J,J,j4 K5⟩
structure a10(x:Src):Prop where
 pkg:C4 x.pkg=true/\S7 x.pkg=false
 imp:∀s∈x.imports,C4 s=true/\S7 s=false
 impl:x.imports.length<=8
 impn:x.imports.Nodup
 impp:x.pkg∉x.imports
 dec:∀d∈x.decls,DeG d
 decl:x.decls.length<=64
 decn:(x.decls.map λd=>(d.k,d.name)).Nodup
structure Sn where
 k:Int
 s:U
deriving DecidableEq
variable{s:U}{k:Int}
abbrev Sn.cells(x:Sn):List CV:=[iv x.k,sv x.s]
def Sn.cv(x:Sn):List CV:=x.cells
theorem b7O(l:List Sn)(nn:Bool):r5 (.list (l.map Sn.cv) nn none):=P7 (f:=Sn.cv) (λ_=>⟨.val _,.val _,O⟩) l nn
theorem c3y(n:Nat)(l:List Sn)(nn:Bool):Old n (.list (l.map Sn.cv) nn none):=(b7O l nn).old
theorem e1s(x y:Sn):∀w,(Op.equal 305 (.agg [.int .i64 x.k,.string (str x.s)].toArray) (.agg [.int .i64 y.k,.string (str y.s)].toArray)).run CC.P w= .ok (decide (x=y)) w:=λw=>by
 show(Op.equal _ _ _).run Tryz.prog w=_;simp[Op.equal,Op.maxDepth,go_sem,a0m];obtain⟨a,b⟩:=x;obtain⟨a',b'⟩:=y;by_cases h1:a=a'<;>by_cases h2:b=b'<;>simp[h1,h2]
theorem a2B{l:List α}(h:l.Nodup)(hy:l[i]?=some y):y∉l.take i:=λhm=>by
 obtain⟨j,hj⟩:=N0.1 hm;rw[a2y]at hj;split at hj
 .rename_i ab;obtain⟨h1,e1⟩:=n_3.1 hy;obtain⟨h2,e2⟩:=n_3.1 hj;exact(List.pairwise_iff_getElem.1 h) j i h2 h1 ab (e2.trans e1.symm)
 .cases hj
def ixG{α:Type} [DecidableEq α]:List α->α->Nat->Int
 | [],_,_=>-1
 |y::l,x,i=>if x=y then i else ixG l x (i+1)
theorem d0m [DecidableEq α]{l:List α}(h:l[i]?=some y)(x:α):ixG (l.drop i) x i=if x=y then(i:Int)else ixG (l.drop (i+1)) x (i+1):=by
 obtain⟨ab,he⟩:=n_3.1 h;rw[R0 ab,he];rfl
theorem c4R{α:Type} [DecidableEq α]{x:α}:∀{l:List α} {i:Nat},0<=ixG l x i↔x∈l
 | [],i=>by simp[ixG]
 |y::l,i=>by
  rw[ixG];by_cases h:x=y
  .subst h;simp
  .rw [D h,c4R (l:=l) (i:=i+1)];simp[h]
theorem a7X(l:List U)(nn:Bool)(i:Nat)(x:U)(hl:l.length<=1000000000)(σ:List b9):b8 CC 160 [.list (((l.map scv).take i).drop 0) nn none,sv x] σ λr aa=>r= .ret (.val (.bool (decide (x∈l.take i))))/\aa=σ:=by
 have:=a0C (l.take i) nn x a3J σ;rw[b0Q,<- b2n];exact this
theorem a98(l:List U)(nn:Bool)(hl:l.length<=1000000)(hn:l.Nodup)(σ:List b9):b8 CC 282 [(.list (l.map scv) nn none)] σ λr aa=>r= .ret (.val (.bool false))/\aa=σ:=by
 refine b8.anyw hCC pu_ pu_ (c7 (qO Tryz.func282 ?_)) σ;refine W I7 ?_;refine j8 hCC (α:=Nat) (λi=>[(0,(.list (l.map scv) nn none)),(5,(.list (l.map scv) nn none)),(6,iv l.length),(7,iv i)]) (λ_=>[]) (λi=>i<=l.length) (λi=>l.length -i) 0 (n_4 _) tu_ (ai:=[]) J z8 uz_ ?_;intro i hi;refine qk (qC ?_ ?_)<;> intro h1
 .have ab:(i:Int)<l.length:=I h1;obtain⟨y,hb⟩:=gx_ l i;refine W a64 ?_;refine W (a4p (h:=i) J O J t_2 t_0 b22 J a2A a2c c0Z) ?_;refine W (c4 J c0k i7 (a7X l _ i y X _) J) ?_;refine cC ?_ ?_<;>intro h2
  .exfalso;exact a2B hn hb (I h2)
  .exact b8g
 .exact d3P
theorem c2a(l:List Sn)(nn:Bool)(x:Sn)(hl:l.length<=1000000)(σ:List b9):b8 CC 320 [(.list (l.map Sn.cv) nn none),.agg x.cells] σ λr aa=>r= .ret (iv (ixG l x 0))/\aa=σ:=by
 refine b8.anyw hCC pu_ pu_ (c7 (qO Tryz.func320 ?_)) σ;refine qD (I0 J O j3 j5 ?_);refine W (a0u J O J c2U a7W J) ?_;refine j8 hCC (α:=Nat) (λi=>[(0,(.list (l.map Sn.cv) nn none)),(3,.ptr 0 0),(7,iv l.length),(8,iv i)]) (λ_=>[.box x.cells]) (λi=>i<=l.length/\ixG l x 0=ixG (l.drop i) x i) (λi=>l.length -i) 0 ⟨n_4 _,J⟩ tu_ (ai:=[]) J z8 uz_ ?_;intro i ⟨hi,hr⟩;refine qk (qC ?_ ?_)<;> intro h1
 .have ab:(i:Int)<l.length:=I h1;obtain⟨y,hb⟩:=gx_ l i;rw[d0m hb]at hr;refine cW 6 ?_;refine hY (O4 J O J d0G b6s J (nb J)) ?_;refine a3c ?_;refine hY (p9 J O O J J c2U b6s X (j1 hb) J) ?_;refine hY (X3 J O J d0G b6s (nb J)) ?_;refine hY (b5h J O O (xs:=[.int .i64 x.k,.string (str x.s)]) (ys:=[.int .i64 y.k,.string (str y.s)]) J J Tryz.eqGuardType305 (e1s x y)) ?_;refine W1 ?_;refine qC ?_ ?_<;>intro h2
  .have u2:x=y:=I h2;rw[F u2]at hr;exact d7S
  .have u2:¬x=y:=I h2;rw[D u2]at hr;exact b2F
 .have aF:l.length<=i:=sm_ h1;rw[T6 aF]at hr;refine z_9 ?_;exact⟨_,rE1,_,_,J,J,C9 c38⟩
theorem b3z(l:List Sn)(nn:Bool)(x:Sn)(hl:l.length<=1000000)(σ:List b9):b8 CC 304 [(.list (l.map Sn.cv) nn none),.agg x.cells] σ λr aa=>r= .ret (.val (.bool (decide (x∈l))))/\aa=σ:=by
 refine b8.anyw hCC pu_ pu_ (c7 (qO Tryz.func304 ?_)) σ;refine qD (I0 J O j3 j5 ?_);refine W (c4 J Tryz.call320 i7 (c2a l nn x hl _) J) ?_;refine c6 ?_;exact⟨_,rE1,_,_,J,J,j4 (b3n.2 c4R)⟩
theorem a89(l:List Sn)(nn:Bool)(i:Nat)(x:Sn)(hl:l.length<=1000000)(σ:List b9):b8 CC 304 [.list (((l.map Sn.cv).take i).drop 0) nn none,.agg x.cells] σ λr aa=>r= .ret (.val (.bool (decide (x∈l.take i))))/\aa=σ:=by
 have:=b3z (l.take i) nn x a3J σ;rw[b0Q,<- b2n];exact this
theorem c15(l:List Sn)(nn:Bool)(hl:l.length<=1000000)(hn:l.Nodup)(σ:List b9):b8 CC 283 [(.list (l.map Sn.cv) nn none)] σ λr aa=>r= .ret (.val (.bool false))/\aa=σ:=by
 refine b8.anyw hCC pu_ pu_ (c7 (qO Tryz.func283 ?_)) σ;refine W (a0u J O J c2U a7W J) ?_;refine j8 hCC (α:=Nat) (λi=>[(0,(.list (l.map Sn.cv) nn none)),(5,(.list (l.map Sn.cv) nn none)),(6,iv l.length),(7,iv i)]) (λ_=>[]) (λi=>i<=l.length) (λi=>l.length -i) 0 (n_4 _) tu_ (ai:=[]) J z8 uz_ ?_;intro i hi;refine qk (qC ?_ ?_)<;> intro h1
 .have ab:(i:Int)<l.length:=I h1;obtain⟨y,hb⟩:=gx_ l i;refine W (p9 J O O J J c2U b6s X (j1 hb) J) ?_;refine qD (p7 J c4M J j5 ?_);refine qD (j2 J O O J j3 b6s j5 J J (nb J) ?_);refine cW 5 ?_;refine a3c ?_;refine hY (a4p (h:=i) J O J c2U b6s b22 J a2A a2c c0Z) ?_;refine hY (O4 J O J d0G b6s J (nb J)) ?_;refine hY (c4 J Tryz.call304 i7 (a89 l _ i y X _) J) ?_;refine W1 ?_;refine cC ?_ ?_<;>intro h2
  .exfalso;exact a2B hn hb (I h2)
  .exact b8g
 .exact d3P
theorem b8K(x:Src)(h:a10 x)(σ:List b9):b8 CC 242 [.agg x.cells] σ λr aa=>r= .ret (.val (.bool true))/\aa=σ:=by
 refine b8.anyw hCC pu_ pu_ (c7 (qO Tryz.func242 ?_)) σ;refine qD (I0 J O j3 j5 ?_);refine W (c4 J c6Y ⟨O,O⟩ (a09 x.pkg (by have:=B9 h.pkg.1;omega) _) J) ?_;refine qC ?_ ?_<;>intro h1
 .exfalso;simp[h.pkg]at h1
 .have bm:=h.impl;have eN:=h.decl;refine W I7 ?_;refine j8 hCC (α:=Nat) (λi=>[(1,.ptr 0 0),(12,(.list (x.imports.map scv) (gnn x.imports.length) none)),(13,iv x.imports.length),(14,iv i)]) (λ_=>[.box x.cells]) (λi=>i<=x.imports.length) (λi=>x.imports.length -i) 0 (n_4 _) tu_ (ai:=[]) J z8 uz_ ?_;intro i hi;refine qk (qC ?_ ?_)<;> intro h2
  .have ab:(i:Int)<x.imports.length:=I h2;obtain⟨y,hb⟩:=gx_ x.imports i;have bN:=h.imp y (n_2 hb);refine W a64 ?_;refine W (c4 J c6Y ⟨O,O⟩ (a09 y b9F _) J) ?_;refine qC ?_ ?_<;>intro h3
   .exfalso;simp[bN]at h3
   .exact b6u
  .refine j6 ?_;refine W a4S ?_;refine j8 hCC (α:=Nat) (λi=>[(23,(.list (x.decls.map De.cv) (gnn x.decls.length) none)),(24,iv x.decls.length),(25,iv i)]) (λ_=>[.box x.cells]) (λi=>i<=x.decls.length) (λi=>x.decls.length -i) 0 (n_4 _) tu_ (ai:=[]) J z8 uz_ ?_;intro i hi;refine qk (qC ?_ ?_)<;> intro h4
   .have ab:(i:Int)<x.decls.length:=I h4;obtain⟨d,hd⟩:=gx_ x.decls i;have hg:=h.dec d (n_2 hd);refine b1Z ?_;refine W (c4 J Tryz.call281 ⟨O,O⟩ (b3X d hg _) J) ?_;refine cC ?_ ?_<;>intro h5
    .exfalso;simp at h5
    .exact b8g
   .exact d3P
end Go.Proofs.YtlppbmfecjabeaaGreatDoor
