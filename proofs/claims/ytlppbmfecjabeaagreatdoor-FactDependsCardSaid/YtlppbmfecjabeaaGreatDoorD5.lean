/- Part 5 of what the claim needs: values without addresses, and what the program's functions do with them. -/
import Derived.Test.YtlppbmfecjabeaaGreatDoorD4
set_option linter.all false
set_option maxRecDepth 100000
set_option maxHeartbeats 4000000
namespace Go.Proofs.YtlppbmfecjabeaaGreatDoor
open Go Go.Cl
variable{i a n2 B L j n7 q:Nat}{s:I}{T:List Tok}{S S1:MS}{c:MC}{x:Ex}{α:Type}{F:Fr}{rec:Fr->Int->MS->Rs Int}{e1 e2 v e3 e5 o e6 e7:Int}{σ:List b9}{fl:List Fi}{f y:Fi}{ao:List Nat}{nn:Bool}
theorem c3O{l:List De}{p:De->Bool}{y:De}(h:l[i]?=some y)(hd:l.any p=(l.drop i).any p)(hy:p y=false):l.any p=(l.drop (i+1)).any p:=by
 obtain⟨ah,rfl⟩:=n_3.1 h;rw[hd,U5 ah,List.any_cons,hy,Bool.false_or]
theorem b3Q{l:List De}{p:De->Bool}{y:De}(h:l[i]?=some y)(hy:p y=true):l.any p=true:=List.any_eq_true.2 ⟨y,n_2 h,hy⟩
theorem b9k(f:Src)(k:Int)(u:I)(hl:f.decls.length<=1000000)(σ:List b9):b8 CC 224 [.agg f.cells,iv k,(sv u)] σ λr aa=>r= .ret (.val (.bool (f.decls.any λd=>(d.k == k)&&decide (d.name=u))))/\aa=σ:=by
 refine b8.anyw hCC pu_ pu_ (c9 (qO Tryz.func224 ?_)) σ;refine qD (F1 O D j3 j1 ?_);refine V a4k ?_;refine m0 hCC (α:=Nat) (λi=>[(1,iv k),(2,(sv u)),(10,(.list (f.decls.map De.cv) (gnn f.decls.length) none)),(11,iv f.decls.length),(12,iv i)]) (λ_=>[.box f.cells]) (λi=>i<=f.decls.length/\(f.decls.any λd=>(d.k == k)&&decide (d.name=u))=((f.decls.drop i).any λd=>(d.k == k)&&decide (d.name=u))) (λi=>f.decls.length -i) 0 ⟨n_4 _,O⟩ tu_ (aj:=[]) O A7 uz_ ?_;intro i ⟨hi,hd⟩;refine qk (qC ?_ ?_)<;> intro h1
 .have ah:i<f.decls.length:=sm_ h1;obtain⟨w,hb⟩:∃w,f.decls[i]?=some w:=⟨f.decls[i]'ah,Q⟩;refine V d0A ?_;refine c0w ?_;refine qG b8b ?_;refine qG a26 ?_;refine b3z ?_;refine qC ?_ ?_<;>intro h2
  .have hw:((w.k == k)&&decide (w.name=u))=true:=H h2;refine c6 ?_;exact⟨_,rE1,_,_,O,O,o3 (show true=(f.decls.any λd=>(d.k == k)&&decide (d.name=u))from(b3Q hb hw).symm)⟩
  .have hw:((w.k == k)&&decide (w.name=u))=false:=H h2;exact d5v
 .have aH:f.decls.length<=i:=sm_ h1;refine W5 ?_;exact⟨_,rE1,_,_,O,O,o3 (show false=(f.decls.any λd=>(d.k == k)&&decide (d.name=u)) by rw[hd,U4 aH];rfl)⟩
theorem c3b{τ:List b9}{n k:Nat}{at_ e:Int}{ps:List I}{b:List Ex}{c c':CV}(h0:τ[0]?=some (rbx T n at_ e ps b k))(hk:τ[k]?=some (o9 e b.length))(h2:2<=k)(hc:∀ao,D5 2 ao c c'):F7 2 τ (.ret c) (.ret c') (a6n T n at_ e ps b):=by
 obtain⟨ao,a1,a2,_,a4⟩:=T4 h0 hk h2 (Old.val (.int .i64 0));exact⟨ao,a1,a2,.ret (hc ao),a4⟩
theorem b9t{f:FuncId}{args:List CV}{c:α->CV}{N:α->Nat}{A E:α->Int}{Z:α->List I}{B:α->List Ex}{P:α->Prop}{n:Nat}{at_ e:Int}{ps:List I}{b:List Ex}(aq:∀a∈args,r9 a)(hc:∀a,r9 (c a))
 (h:b8 CC f (.ptr 0 0::args) (rst T n at_ e ps b) λr τ=>∃a,F7 2 τ r (.ret (c a)) (a6n T (N a) (A a) (E a) (Z a) (B a))/\P a){σ:List b9}{q s:Nat}(au:RAt σ q s T n at_ e ps b):
 b8 CC f (.ptr q 0::args) σ λr τ=>∃a,r= .ret (c a)/\τ=rS1 σ q s T (N a) (A a) (E a) (Z a) (B a)/\P a:=by
 obtain⟨h1,h2,h3⟩:=au;have hq:=(n_3.1 h1).1;have hs:=(n_3.1 h2).1;have h':b8 CC f (.ptr 0 0::args) (rst T n at_ e ps b) λr τ=>∃a,r= .ret (c a)/\τ=a6n T (N a) (A a) (E a) (Z a) (B a)/\P a:=
  N3 hCC (h.mono λr τ ⟨a,k1,k2⟩=>⟨_,_,k1,a,O,O,k2⟩)
 refine P0 [q,s] hCC O (λi j k g1 g2=>?_) (λi k ob g1 g2=>?_) (.cons (.ptr O) (L9 aq)) h' λr τ hk=>?_
 .rcases i with _|_|i<;>rcases j with _|_|j<;>simp at g1 g2<;>first|rfl|(exfalso;exact h3 (g1.trans g2.symm))|(exfalso;exact h3 (g2.trans g1.symm))
 .rcases i with _|_|i
  .simp at g1 g2;subst g1 g2;exact⟨_,h1,a7b O⟩
  .simp at g1 g2;subst g1 g2;exact⟨_,h2,a4H _ _⟩
  .simp at g1
 .obtain ⟨a,rfl,rfl,hp⟩:=hk;refine⟨Q,.ret (c a),rS1 σ q s T (N a) (A a) (E a) (Z a) (B a),.ret (.pure (hc a)),Q,λk hk bS=>?_,λi k x ha hx=>?_,a,O,O,hp⟩
  .have n1:q≠k:=λe=>bS (by simp[e]);have n2:s≠k:=λe=>bS (by simp[e]);rw[X1 (H hk)];simp[n1,n2]
  .rcases ha with ha|⟨ha,rfl⟩
   .rcases i with _|_|i
    .simp at ha hx;subst ha hx;refine⟨rbx T (N a) (A a) (E a) (Z a) (B a) σ.length,?_,a7b (.inr ⟨Q,Q⟩)⟩;rw[X1 (H hq),a5I h3.symm];simp[hq]
    .simp at ha hx;subst ha hx;refine⟨.dead,?_,.dead⟩;rw[X1 (H hs)];simp[hs]
    .simp at ha
   .rcases i with _|_|_|i
    .simp at ha
    .simp at ha
    .simp at hx;subst hx;refine⟨o9 (E a) (B a).length,?_,a4H _ _⟩;rw[a3i Q];simp
    .simp at hx
theorem d3I:F3 [102,117,110,99]=1:=by decide
theorem d1O:F3 [116,101,115,116]=2:=by decide
theorem d2p:F3 [103,101,110]=3:=by decide
theorem d3F{u:I}(h1:¬u=[102,117,110,99])(h2:¬u=[116,101,115,116])(h3:¬u=[103,101,110]):F3 u=0:=by
 have e:dkL=[([102,117,110,99],1),([116,101,115,116],2),([103,101,110],3)]:=by decide
 rw[F3,e];simp only[glk,G h1,G h2,G h3];rfl
theorem d8J{n:Nat}(h1:isT (tk T n) 1 [102,117,110,99]=false)(h2:isT (tk T n) 1 [116,101,115,116]=false)(h3:isT (tk T n) 1 [103,101,110]=false):(tk T n).k≠1\/F3 (tk T n).t=0:=by
 by_cases hk:(tk T n).k=1
 .exact .inr (d3F (a4F h1 hk) (a4F h2 hk) (a4F h3 hk))
 .exact .inl hk
theorem Ok.of{e e':Int}{o:Option α}{y:α}(h1:e'=0->e=0/\o=Option.some y)(h2:e'≠0->e=0->o=Option.none):Ok e o e' y:=
 ⟨λh=>by
  by_cases h':e'=0
  .exact .inl ⟨(h1 h').2,h'⟩
  .exact .inr ⟨h2 h' h,h'⟩,λh h'=>h (h1 h').1⟩
theorem Ok.pre{e e':Int}{o:Option α}{y:α}(h:Ok e1 o e' y)(h1:e=0->e1=0)(h2:e≠0->e1≠0):Ok e o e' y:=⟨λh0=>h.1 (h1 h0),λh0=>h.2 (h2 h0)⟩
def a6d(T:List Tok)(m:Nat)(l:List I):Option (List I×Nat):=
 if l=[]then(if isT (tk T m) 4 [41]=true then Option.some ([],m+1)else a2v 9 T m [])
 else if isT (tk T m) 4 [44]=true then a2v (9-l.length) T (m+1) l else(pIs T m 4 [41]).bind λm'=>Option.some (l,m')
theorem c3H{n m:Nat}(h:pIs T n 4 [40]=some m):L3 T n=a6d T m []:=by
 rw[L3,h,n_7,a6d,W O]
theorem c5D{m:Nat}{l:List I}(h:isT (tk T m) 4 [41]=true):a6d T m l=some (l,m+1):=by
 unfold a6d;by_cases hl:l=[]
 .rw [W hl,W h,hl]
 .rw [G hl,G (by simp[isT,(P9 h).2]),pIs,W h];rfl
def b4s(T:List Tok)(m:Nat)(l:List I):Option Nat:=if l=[]then some m else pIs T m 4 [44]
theorem c0u{m:Nat}{l:List I}(h:isT (tk T m) 4 [41]=false):a6d T m l=(b4s T m l).bind λm'=>a2v (9-l.length) T m' l:=by
 unfold a6d b4s;by_cases hl:l=[]
 .subst hl;rw[W O,W O,G (by rw[h];decide)];rfl
 .rw [G hl,G hl];unfold pIs;by_cases h4:isT (tk T m) 4 [44]=true
  .rw [W h4,W h4];rfl
  .rw [G h4,G h4,G (by rw[h];decide)];rfl
theorem d9C{m:Nat}{l:List I}(hl:l.length<=8):a2v (9-l.length) T m l=(J3 T m).bind λx=>if l.length=8 then none else if x.1.t∈l then none else a6d T x.2 (l++[x.1.t]):=by
 obtain⟨f,hf⟩:∃f,9-l.length=f+1:=⟨8-l.length,J⟩;rw[hf,a2v];refine D9 _ (funext λx=>?_);by_cases h8:l.length=8
 .rw [W h8,W h8]
 .rw [G h8,G h8];by_cases hm:x.1.t∈l
  .rw [W hm,W hm]
  .rw [G hm,G hm];unfold a6d;rw[show 9- (l++[x.1.t]).length=f by simp;omega];exact(G Q).symm
theorem a4U{m n3:Nat}{l:List I}{S:Option (List I×Nat)}{e4:Int}{s3:I}(hl:l.length<=8)(hS:S=(b4s T m l).bind λm'=>a2v (9-l.length) T m' l)(q2:Ok 0 (b4s T m l) e2 n2)(q3:Ok e2 ((J3 T n2).map λx=>(x.1.t,x.2)) e3 (s3,n3))
 (h1:l.length=8\/s3∈l->e4≠0)(h2:¬l.length=8->¬s3∈l->e4=e3)(h3:e3≠0->e4≠0):(e4=0->e3=0/\e2=0/\l.length <8/\S=a6d T n3 (l++[s3]))/\(e4≠0->S=none):=by
 rcases q2.zero with⟨g2,ho⟩|⟨g2,ho⟩
 .subst g2;rw[ho,n_7,d9C hl]at hS
  rcases q3.zero with⟨g3,hn⟩|⟨g3,hn⟩
  .obtain ⟨x,hx,hg⟩:=M6.1 hn;injection hg with dV dN
   rw[hx,n_7,dV,dN]at hS;by_cases h8:l.length=8
   .rw [W h8]at hS;exact⟨λh=>absurd h (h1 (.inl h8)),λ_=>hS⟩
   .rw [G h8]at hS;by_cases hm:s3∈l
    .rw [W hm]at hS;exact⟨λh=>absurd h (h1 (.inr hm)),λ_=>hS⟩
    .rw [G hm]at hS;exact⟨λ_=>⟨g3,O,J,hS⟩,λh=>absurd (by rw[h2 h8 hm,g3]) h⟩
  .rw [b3M.1 hn]at hS;exact⟨λh=>absurd h (h3 g3),λ_=>hS⟩
 .rw [ho]at hS;exact⟨λh=>absurd h (h3 (q3.2 g2)),λ_=>hS⟩
structure RP5 where
 l:List I
 m:Nat
 at_:Int
 e:Int
structure RD5 where
 d:De
 n:Nat
 at_:Int
 e:Int
 ps:List I
 b:List Ex
variable{n:Nat}{d:De}
def RDP(T:List Tok)(bs:List De)(n:Nat)(a:RD5):Prop:=Ok 0 (a0G T bs n) a.e (a.d,a.n)/\a.n <T.length/\a.b.length<=256/\(a.e=0->n<a.n)
theorem d7x{m:Nat}{l:List I}(q:Ok 0 (b4s T m l) e2 n2)(h:e2=0):m<=n2:=by
 have h1:=(q.alive h).2;unfold b4s at h1;by_cases hl:l=[]
 .rw [W hl]at h1;injection h1 with h1
  omega
 .rw [G hl]at h1;have:=O7 h1;omega
theorem d2P{bs:List De}{m n6 n8:Nat}{kd e8 x7:Int}{s2:I}{l:List I}{b7:List Ex}(hu:¬((tk T n).k≠1\/F3 (tk T n).t=0))(hkd:kd=F3 (tk T n).t)(p1:bs.length=64->e1≠0)(p2:bs.length≠64->e1=0)(q2:Ok e1 ((a2O T kd (n+1)).map λx=>(x.1.t,x.2)) e2 (s2,n2))
 (p3:e2≠0->e3≠0)(p4:e2=0->(bs.any λd=>(d.k == kd)&&decide (d.name=s2))=true->e3≠0)(p5:e2=0->(bs.any λd=>(d.k == kd)&&decide (d.name=s2))=false->e3=0)(q5:Ok e3 (a3k T kd n2) e5 (l,m))(q6:Ok e5 (pIs T m 4 [61]) e6 n6)(k7:Ok e6 (((A1 T l (8*T.length+6)).ex 1 n6 []).map cx) e7 (x7,n7,b7))(q8:Ok e7 (pIs T n7 4 [59]) e8 n8):
 Ok 0 (a0G T bs n) e8 (⟨kd,s2,l,b7⟩,n8):=by
 have d8:e3≠0->e8≠0:=λh=>q8.2 (k7.2 (q6.2 (q5.2 h)));rw[a0G,G hu,<- hkd];by_cases gK:bs.length=64
 .rw [W gK];exact .none (d8 (p3 (q2.2 (p1 gK))))
 .rw [G gK];have iE:=p2 gK;subst iE;refine q2.bindM (λp hp hg=>?_) λh=>d8 (p3 h);obtain⟨t,m2⟩:=p;injection hg with dV dN
  dsimp only at dV dN⊢;subst dV dN;by_cases bL:(bs.any λd=>(d.k == kd)&&decide (d.name=t.t))=true
  .rw [W bL];by_cases h2:e2=0
   .exact .none (d8 (p4 h2 bL))
   .exact .none (d8 (p3 h2))
  .rw [G bL];refine Ok.pre ?_ (λh=>p5 h (H bL)) p3;refine q5.bind (q6.bind ?_);refine k7.bindM (λp hp hg=>?_) q8.2;obtain⟨i,n7',b7'⟩:=p;injection hg with dV dN
   injection dN with dN hg3
   dsimp only at dN hg3⊢;subst dN hg3;exact q8.bind .some
theorem d1z{bs:List De}{m n6 n8:Nat}{kd e8 x7:Int}{s2:I}{l:List I}{b7:List Ex}(_:kd=F3 (tk T n).t)(_:bs.length=64->e1≠0)(_:bs.length≠64->e1=0)(q2:Ok e1 ((a2O T kd (n+1)).map λx=>(x.1.t,x.2)) e2 (s2,n2))
 (p3:e2≠0->e3≠0)(_:e2=0->(bs.any λd=>(d.k == kd)&&decide (d.name=s2))=true->e3≠0)(_:e2=0->(bs.any λd=>(d.k == kd)&&decide (d.name=s2))=false->e3=0)(q5:Ok e3 (a3k T kd n2) e5 (l,m))(q6:Ok e5 (pIs T m 4 [61]) e6 n6)(k7:Ok e6 (((A1 T l (8*T.length+6)).ex 1 n6 []).map cx) e7 (x7,n7,b7))(z7:e7=0->n6<n7)(q8:Ok e7 (pIs T n7 4 [59]) e8 n8)(h0:e8=0):
 n<n8:=by
 have g8:=K0 q8 h0;have g7:=(k7.alive g8.1).1;have g6:=K0 q6 g7;have g5:=q5.alive g6.1;have h2:e2=0:=Classical.byContradiction λh=>p3 h g5.1;obtain⟨p,hp,hg⟩:=M6.1 (q2.alive h2).2;obtain⟨t,m2⟩:=p;injection hg with _ dN
 dsimp only at dN;subst dN;have:=b7M hp;have:=b5T g5.2;have:=z7 g8.1;omega
theorem c76{ps:List I}(hc:a0j T [])(pk:I)(im:List I)(bs:List De)(gD:bs.length<=64)(n:Nat)(at_:Int)(b:List Ex)(hn:n<T.length):b8 CC 187 [.ptr 0 0,.agg (⟨pk,im,bs⟩:Src).cells] (rst T n at_ 0 ps b) (λr τ=>∃a:RD5,F7 2 τ r (.ret (.agg a.d.cells)) (a6n T a.n a.at_ a.e a.ps a.b)/\RDP T bs n a):=by
 have hT:=hc.len;have hW:=hc.w;refine cO Tryz.func187 ?_;refine b4j ?_;refine a5e [rbx T n at_ 0 ps b 1,o9 0 b.length,.dead] O ?_;refine b5k ?_;refine cD (l8 O b2l O j1 ?_);refine a7B ?_;refine cD (l8 O b2l O j1 ?_);refine a4h ?_;refine cY A3 ?_;refine d5V ?_;refine cD (i9 O D O O j3 a2E (.inl O) O O (nb O) ?_);refine cY a57 ?_;refine cY c18 ?_;refine cD (i9 O D O O j3 a9r (.inl O) O O (nb O) ?_);refine A6 ?_;refine a5e [rbx T n at_ 0 [] [] 2,o9 0 b.length,o9 0 ([]:List Ex).length,.box (⟨pk,im,bs⟩:Src).cells,.box (⟨0,[],[],[]⟩:De).cells,.box (⟨0,[],[],[]⟩:De).cells] O ?_;refine z_3 ?_;refine ye O a7Y ⟨D,D⟩ (a0t hT hn (q:=0) (s:=2) ⟨O,O,U⟩) O ?_;refine cY a37 ?_;refine a24 ?_;refine N9 (α:=Int) (λ_=>[(0,.ptr 0 0),(3,.ptr 3 0),(4,.ptr 4 0),(5,.ptr 5 0),(6,(iv ((tk T n).at_)))]) (λkd=>[rbx T (n+1) at_ 0 [] [] 2,o9 0 b.length,o9 0 ([]:List Ex).length,.box (⟨pk,im,bs⟩:Src).cells,.box (⟨0,[],[],[]⟩:De).cells,.box (⟨kd,[],[],[]⟩:De).cells]) (λkd=>kd=F3 (tk T n).t/\(tk T n).k=1/\(kd=1\/kd=2\/kd=3)/\n+1<T.length) ?_ ?_
 .
  refine z_3 ?_;refine de O a9m o4 (Z4 hT hn hW [102,117,110,99] (q:=0) (s:=2) ⟨O,O,U⟩) O ?_;rintro⟨v1,m1⟩ ⟨eY,bu,dg,dz⟩;dsimp only at eY bu dg dz⊢;refine G8 [rbx T m1 at_ 0 [] [] 2,o9 0 b.length,o9 0 ([]:List Ex).length,.box (⟨pk,im,bs⟩:Src).cells,.box (⟨0,[],[],[]⟩:De).cells,.box (⟨0,[],[],[]⟩:De).cells] O ?_;refine A6 ?_;refine cC ?_ ?_<;>intro h1
  .have eK:v1=true:=H h1;have hq:=(T8 (eY.symm.trans eK)).2;have bH:=bu eK;subst m1;refine C6 ?_;refine c7q ?_;refine A6 ?_;exact⟨(1:Int),⟨by rw[(P9 hq).2,d3I],(P9 hq).1,U,dz⟩,tu_,O⟩
  .have eK:v1=false:=H h1;have dV:=R3 eY eK;have bH:=dg eK;subst m1;refine z_3 ?_;refine de O a9m o4 (Z4 hT hn hW [116,101,115,116] (q:=0) (s:=2) ⟨O,O,U⟩) O ?_;rintro⟨v2,m2⟩ ⟨cB,eO,gt,ce⟩;dsimp only at cB eO gt ce⊢;refine G8 [rbx T m2 at_ 0 [] [] 2,o9 0 b.length,o9 0 ([]:List Ex).length,.box (⟨pk,im,bs⟩:Src).cells,.box (⟨0,[],[],[]⟩:De).cells,.box (⟨0,[],[],[]⟩:De).cells] O ?_;refine A6 ?_;refine cC ?_ ?_<;>intro h2
   .have dd:v2=true:=H h2;have hq:=(T8 (cB.symm.trans dd)).2;have bH:=eO dd;subst m2;refine C6 ?_;refine c7q ?_;refine A6 ?_;exact⟨(2:Int),⟨by rw[(P9 hq).2,d1O],(P9 hq).1,U,ce⟩,tu_,O⟩
   .have dd:v2=false:=H h2;have dN:=R3 cB dd;have bH:=gt dd;subst m2;refine z_3 ?_;refine de O a9m o4 (Z4 hT hn hW [103,101,110] (q:=0) (s:=2) ⟨O,O,U⟩) O ?_;rintro⟨v3,m3⟩ ⟨hv3,fB,hf3,fX⟩;dsimp only at hv3 fB hf3 fX⊢;refine G8 [rbx T m3 at_ 0 [] [] 2,o9 0 b.length,o9 0 ([]:List Ex).length,.box (⟨pk,im,bs⟩:Src).cells,.box (⟨0,[],[],[]⟩:De).cells,.box (⟨0,[],[],[]⟩:De).cells] O ?_;refine A6 ?_;refine cC ?_ ?_<;>intro h3
    .have fD:v3=true:=H h3;have hq:=(T8 (hv3.symm.trans fD)).2;have bH:=fB fD;subst m3;refine C6 ?_;refine c7q ?_;refine A6 ?_;exact⟨(3:Int),⟨by rw[(P9 hq).2,d2p],(P9 hq).1,U,fX⟩,tu_,O⟩
    .have fD:v3=false:=H h3;have hg3:=R3 hv3 fD;have bH:=hf3 fD;subst m3;refine z_3 ?_;refine c4P ?_;rintro⟨x0,y0⟩ bC;dsimp only at bC⊢;refine G8 [rbx T n x0 y0 [] [] 2,o9 0 b.length,o9 y0 ([]:List Ex).length,.box (⟨pk,im,bs⟩:Src).cells,.box (⟨0,[],[],[]⟩:De).cells,.box (⟨0,[],[],[]⟩:De).cells] O ?_;refine a7B ?_;refine cY d0y ?_;refine c8D ?_;refine c6 ?_;exact⟨_,C4 O c8J,(by exact⟨⟨⟨0,[],[],[]⟩,n,x0,y0,[],[]⟩,c3b (k:=2) O O U (λ_=>b9R _ _ _ _ _),⟨by rw[a0G,W (d8J (R3 eY eK) (R3 cB dd) (R3 hv3 fD))];exact .none bC,hn,n_4 _,λh0=>absurd h0 bC⟩⟩)⟩
 .rintro kd E1 ⟨hkd,bN,hk3,bk⟩;have hu1:¬((tk T n).k≠1\/F3 (tk T n).t=0):=by rw[<- hkd];omega
  refine N9 (α:=Int×Int) (λ_=>[(0,.ptr 0 0),(3,.ptr 3 0),(4,.ptr 4 0),(5,.ptr 5 0)]) (λa=>[rbx T (n+1) a.1 a.2 [] [] 2,o9 0 b.length,o9 a.2 ([]:List Ex).length,.box (⟨pk,im,bs⟩:Src).cells,.box (⟨0,[],[],[]⟩:De).cells,.box (⟨kd,[],[],[]⟩:De).cells]) (λa=>(bs.length=64->a.2≠0)/\(bs.length≠64->a.2=0)) ?_ ?_
  .
   refine z_0 ?_;refine cY b7b ?_;refine cY b7Q ?_;refine cY a4k ?_;refine a8b ?_;refine cC ?_ ?_<;>intro h4
   .have gK:bs.length=64:=sm_ h4;refine a8t ?_;refine c4P ?_;rintro⟨x0,y0⟩ bC;dsimp only at bC⊢;refine G8 [rbx T (n+1) x0 y0 [] [] 2,o9 0 b.length,o9 y0 ([]:List Ex).length,.box (⟨pk,im,bs⟩:Src).cells,.box (⟨0,[],[],[]⟩:De).cells,.box (⟨kd,[],[],[]⟩:De).cells] O ?_;refine A6 ?_;exact⟨(x0,y0),⟨λ_=>bC,λh=>absurd gK h⟩,tu_,O⟩
   .have gK:¬bs.length=64:=sm_ h4;refine D8 ?_;exact⟨(at_,0),⟨λh=>absurd h gK,λ_=>O⟩,tu_,O⟩
  .rintro ⟨a1,e1⟩ E2 ⟨p1,p2⟩;dsimp only at p1 p2⊢;refine z_3 ?_;refine ye O a7Y ⟨D,D⟩ (a0t hT bk (q:=0) (s:=2) ⟨O,O,U⟩) O ?_;refine cY a37 ?_;refine a24 ?_;refine N9 (α:=I×Nat×Int×Int) (λ_=>[(0,.ptr 0 0),(3,.ptr 3 0),(4,.ptr 4 0),(5,.ptr 5 0),(6,(iv ((tk T (n+1)).at_)))]) (λa=>[rbx T a.2.1 a.2.2.1 a.2.2.2 [] [] 2,o9 0 b.length,o9 a.2.2.2 ([]:List Ex).length,.box (⟨pk,im,bs⟩:Src).cells,.box (⟨0,[],[],[]⟩:De).cells,.box (⟨kd,a.1,[],[]⟩:De).cells]) (λa=>Ok e1 ((a2O T kd (n+1)).map λx=>(x.1.t,x.2)) a.2.2.2 (a.1,a.2.1)/\a.2.1 <T.length) ?_ ?_
   .
    refine z_0 ?_;refine cY b2H ?_;refine cY V3 ?_;refine a8b ?_;refine cC ?_ ?_<;>intro h5
    .have hk:kd=3:=H h5;have hh:∀m,a2O T kd m=a0H T m:=λm=>W hk;refine a8t ?_;refine de O c2z o4 (a9V hT bk hW true hc.l (q:=0) (s:=2) ⟨O,O,U⟩) O ?_;rintro⟨s2,n2,a2,e2⟩ ⟨q2,y2⟩;dsimp only at q2 y2⊢;rw[a3A]at q2;refine d9R ?_;refine d5o ?_;exact⟨(s2,n2,a2,e2),⟨by rw[hh];exact q2,y2⟩,tu_,O⟩
    .have hk:¬kd=3:=H h5;have hh:∀m,a2O T kd m=J3 T m:=λm=>G hk;refine a8t ?_;refine de O d0E ⟨D,D⟩ (a7E hT bk hW (q:=0) (s:=2) ⟨O,O,U⟩) O ?_;rintro⟨s2,n2,a2,e2⟩ ⟨q2,y2⟩;dsimp only at q2 y2⊢;refine d9R ?_;refine d5o ?_;exact⟨(s2,n2,a2,e2),⟨by rw[hh];exact q2,y2⟩,tu_,O⟩
   .rintro ⟨s2,n2,a2,e2⟩ E3 ⟨q2,y2⟩;dsimp only at q2 y2⊢;refine N9 (α:=Int×Int) (λ_=>[(0,.ptr 0 0),(4,.ptr 4 0),(5,.ptr 5 0)]) (λa=>[rbx T n2 a.1 a.2 [] [] 2,o9 0 b.length,o9 a.2 ([]:List Ex).length,.box (⟨pk,im,bs⟩:Src).cells,.box (⟨0,[],[],[]⟩:De).cells,.box (⟨kd,s2,[],[]⟩:De).cells]) (λa=>(e2≠0->a.2≠0)/\(e2=0->(bs.any λd=>(d.k == kd)&&decide (d.name=s2))=true->a.2≠0)/\(e2=0->(bs.any λd=>(d.k == kd)&&decide (d.name=s2))=false->a.2=0)) ?_ ?_
    .
     refine a6O ?_;refine cY b8R ?_;refine cY c00 ?_;refine cY a1s ?_;refine cY A3 ?_;refine cG (λhg=>J7 O D O b4z t_8 O (nb O)) ?_;refine cG b7X ?_;refine cG a32 ?_;refine cG b8b ?_;refine cG a26 ?_;refine cG (λhg=>c4 O Tryz.call224 ⟨hg,hg,hg,D⟩ (b9k ⟨pk,im,bs⟩ kd s2 (by show bs.length<=1000000;omega) _) O) ?_;refine cY S6 ?_;refine A6 ?_;refine cC ?_ ?_<;>intro h6
     .have ht:e2=0/\(bs.any λd=>(d.k == kd)&&decide (d.name=s2))=true:=H h6;refine a8t ?_;refine c4P ?_;rintro⟨x0,y0⟩ bC;dsimp only at bC⊢;refine G8 [rbx T n2 x0 y0 [] [] 2,o9 0 b.length,o9 y0 ([]:List Ex).length,.box (⟨pk,im,bs⟩:Src).cells,.box (⟨0,[],[],[]⟩:De).cells,.box (⟨kd,s2,[],[]⟩:De).cells] O ?_;refine A6 ?_;exact⟨(x0,y0),⟨λ_=>bC,λ_ _=>bC,λ_ h=>by rw[ht.2]at h;cases h⟩,tu_,O⟩
     .have ht:¬(e2=0/\(bs.any λd=>(d.k == kd)&&decide (d.name=s2))=true):=λh=>by simp[h.1,h.2]at h6
      refine D8 ?_;exact⟨(a2,e2),⟨λh=>h,λh0 h=>absurd ⟨h0,h⟩ ht,λh0 _=>h0⟩,tu_,O⟩
    .rintro ⟨a3,e3⟩ E4 ⟨p3,p4,p5⟩;dsimp only at p3 p4 p5⊢;refine a7x hCC 6 O (α:=RP5) (λ_=>[(0,.ptr 0 0),(4,.ptr 4 0),(5,.ptr 5 0)]) (λa=>[rbx T a.m a.at_ a.e [] [] 2,o9 0 b.length,o9 a.e ([]:List Ex).length,.dead,.box (⟨0,[],[],[]⟩:De).cells,.box (⟨kd,s2,a.l,[]⟩:De).cells]) (λa=>Ok e3 (a3k T kd n2) a.e (a.l,a.m)/\a.m <T.length/\a.l.length<=9) ?_ ?_
     .
      refine z_0 ?_;refine cY b2H ?_;refine cY V3 ?_;refine a8b ?_;refine cC ?_ ?_<;>intro h7
      .have hk:kd=1:=H h7;have hp:a3k T kd n2=L3 T n2:=W hk;rw[hp];refine z_3 ?_;refine de O a4c o4 (N7 hT y2 hW [40] (q:=0) (s:=2) ⟨O,O,U⟩) O ?_;rintro⟨n4,a4,e4⟩ ⟨q4,y4⟩;dsimp only at q4 y4⊢;refine G8 [rbx T n4 a4 e4 [] [] 2,o9 0 b.length,o9 e4 ([]:List Ex).length,.box (⟨pk,im,bs⟩:Src).cells,.box (⟨0,[],[],[]⟩:De).cells,.box (⟨kd,s2,[],[]⟩:De).cells] O ?_;refine c1X ?_;refine C5 hCC 6 O (α:=RP5) (λ_=>[(0,.ptr 0 0),(4,.ptr 4 0),(5,.ptr 5 0)]) (λa=>[rbx T a.m a.at_ a.e [] [] 2,o9 0 b.length,o9 a.e ([]:List Ex).length,.dead,.box (⟨0,[],[],[]⟩:De).cells,.box [iv kd,(sv s2),.list (a.l.map scv) (gnn a.l.length) (G9 a.l.length 6),.list [] false none],p7 a.l.length]) (λa=>(a.e=0->e3=0/\L3 T n2=a6d T a.m a.l/\n2<a.m/\a.l.length<=8)/\(a.e≠0->e3=0->L3 T n2=none)/\a.m <T.length/\a.l.length<=9) (λa=>if a.e=0 then 10-a.l.length else 0) ⟨⟨[],n4,a4,e4⟩,[0,1,2,3,4,5,10],⟨λh0=>⟨(K0 q4 h0).1,c3H (q4.alive h0).2,by have:=(K0 q4 h0).2;dsimp only;omega,n_4 _⟩,λh0 h3=>by
        subst h3
        rcases q4.zero with⟨h,_⟩|⟨_,h⟩
        .exact absurd h h0
        .rw [L3,h];rfl,y4,n_4 _⟩,⟨O,O⟩,ut_,uq_⟩ ?_
       intro⟨l,m,a5,e⟩ ⟨hI,hN,hm,hl9⟩;dsimp only at hI hN hm hl9⊢;refine J2 ?_;refine a6O ?_;refine cY b8R ?_;refine cY c00 ?_;refine cY a1s ?_;refine cY A3 ?_;refine cG D2 ?_;refine b3h (.val (.bool false)) O O D O O (λhg=>c5 O a8k ⟨hg,O,D⟩ (W6 hT hm hW [41] (q:=0) (s:=2) ⟨O,O,U⟩) O ?_) (λhg=>?_)
       .
        obtain rfl:e=0:=H hg;obtain⟨he3,hS,cw,hl8⟩:=hI O;rintro⟨v9,m9⟩ ⟨eN,gv,iJ,eP⟩;dsimp only at eN gv iJ eP⊢;refine G8 [rbx T m9 a5 0 [] [] 2,o9 0 b.length,o9 0 ([]:List Ex).length,.dead,.box (⟨0,[],[],[]⟩:De).cells,.box [iv kd,(sv s2),.list (l.map scv) (gnn l.length) (G9 l.length 6),.list [] false none],p7 l.length] O ?_;refine cG a4a ?_;refine cY S6 ?_;refine A6 ?_;refine cC ?_ ?_<;>intro h8
        .have iT:v9=false:=H h8;have hg9:=R3 eN iT;have bH:=iJ iT;subst m9;rw[c0u hg9]at hS;refine D8 (a3p ?_);refine N9 (α:=Nat×Int×Int) (λ_=>[(0,.ptr 0 0),(4,.ptr 4 0),(5,.ptr 5 0)]) (λa=>[rbx T a.1 a.2.1 a.2.2 [] [] 2,o9 0 b.length,o9 a.2.2 ([]:List Ex).length,.dead,.box (⟨0,[],[],[]⟩:De).cells,.box [iv kd,(sv s2),.list (l.map scv) (gnn l.length) (G9 l.length 6),.list [] false none],p7 l.length]) (λa=>Ok 0 (b4s T m l) a.2.2 a.1/\a.1 <T.length) ?_ ?_
         .
          refine z_0 ?_;refine d2q ?_;refine cY K6 ?_;refine a8b ?_;refine cC ?_ ?_<;>intro h9
          .have hl:l≠[]:=by intro hl;subst hl;simp at h9
           refine a8t ?_;refine de O a4c o4 (N7 hT hm hW [44] (q:=0) (s:=2) ⟨O,O,U⟩) O ?_;rintro⟨n5,a6,e5⟩ ⟨q5,y5⟩;dsimp only at q5 y5⊢;refine G8 [rbx T n5 a6 e5 [] [] 2,o9 0 b.length,o9 e5 ([]:List Ex).length,.dead,.box (⟨0,[],[],[]⟩:De).cells,.box [iv kd,(sv s2),.list (l.map scv) (gnn l.length) (G9 l.length 6),.list [] false none],p7 l.length] O ?_;refine A6 ?_;exact⟨(n5,a6,e5),⟨by rw[b4s,G hl];exact q5,y5⟩,tu_,O⟩
          .have hl:l=[]:=by
            cases l with
            |nil=>rfl
            |cons x l=>simp at h9<;>omega
           refine D8 ?_;exact⟨(m,a5,0),⟨by rw[b4s,W hl];exact .some,hm⟩,tu_,O⟩
         .rintro ⟨n5,a6,e5⟩ E5 ⟨q5,y5⟩;dsimp only at q5 y5⊢;refine z_3 ?_;refine ye O a7Y ⟨D,D⟩ (a0t hT y5 (q:=0) (s:=2) ⟨O,O,U⟩) O ?_;refine cY a37 ?_;refine a24 ?_;refine z_3 ?_;refine de O d0E ⟨D,D⟩ (a7E hT y5 hW (q:=0) (s:=2) ⟨O,O,U⟩) O ?_;rintro⟨s6,n6,a7,e6⟩ ⟨q6,y6⟩;dsimp only at q6 y6⊢;have eJ:=X5 l s6;refine G8 [rbx T n6 a7 e6 [] [] 2,o9 0 b.length,o9 e6 ([]:List Ex).length,.dead,.box (⟨0,[],[],[]⟩:De).cells,.box [iv kd,(sv s2),.list (l.map scv) (gnn l.length) (G9 l.length 6),.list [] false none],p7 l.length] O ?_;refine b3r ?_;refine z_0 ?_;refine d2q ?_;refine cY K6 ?_;refine a8b ?_;refine cC ?_ ?_<;>intro bj
          .have h8:l.length=8:=sm_ bj;refine a8t ?_;refine c4P ?_;rintro⟨x0,y0⟩ bC;dsimp only at bC⊢;refine G8 [rbx T n6 x0 y0 [] [] 2,o9 0 b.length,o9 y0 ([]:List Ex).length,.dead,.box (⟨0,[],[],[]⟩:De).cells,.box [iv kd,(sv s2),.list (l.map scv) (gnn l.length) (G9 l.length 6),.list [] false none],p7 l.length] O ?_;refine a4f ?_;refine z_0 ?_;refine b3s ?_;refine ye O b8D j7 (a7k l (gnn l.length) s6 J _) O ?_;refine A6 ?_;refine cC ?_ ?_<;>intro cX
           .refine a8t ?_;refine c4P ?_;rintro⟨x1,y1⟩ eR;dsimp only at eR⊢;refine d9f ?_;refine C6 ?_;refine b3s ?_;refine cY d3Q ?_;refine cD (D6 O D D O Q q_3 t_2 t_0 a5W t_4 O (.inr O) q_8 a5O G0 ((l++[s6]).map scv) (l++[s6]).length Q Q ?_);refine d3J ?_;refine A6 ?_;exact⟨⟨l++[s6],n6,x1,y1⟩,[0,1,2,3,4,5,7],⟨by
             dsimp only;rw[G eR,W O];omega,λh=>absurd h eR,λh _=>(a4U hl8 hS q5 q6 (e4:=y1) (λ_=>eR) (λh h'=>absurd h8 h) (λ_=>eR)).2 h,y6,do_⟩,⟨O,O⟩,ut_,⟨.inr ⟨_,O,.same O a8S⟩,.inr ⟨_,O,.same O V5⟩,.inr ⟨_,O,.same O V5⟩,.inl O,.inr ⟨_,O,.same O (A0 (a3D _))⟩,.inr ⟨_,O,.box ⟨.old (.val _),.old (.val _),D5.grow (f:=scv) (λ_=>⟨.val _,D⟩) O,.old (O4 _ [] _),D⟩⟩,.inr ⟨_,O,.same O F0⟩,D⟩⟩
           .refine D8 (C6 ?_);refine b3s ?_;refine cY d3Q ?_;refine cD (D6 O D D O Q q_3 t_2 t_0 a5W t_4 O (.inr O) q_8 a5O G0 ((l++[s6]).map scv) (l++[s6]).length Q Q ?_);refine d3J ?_;refine A6 ?_;exact⟨⟨l++[s6],n6,x0,y0⟩,[0,1,2,3,4,5,7],⟨by
             dsimp only;rw[G bC,W O];omega,λh=>absurd h bC,λh _=>(a4U hl8 hS q5 q6 (e4:=y0) (λ_=>bC) (λh h'=>absurd h8 h) (λ_=>bC)).2 h,y6,do_⟩,⟨O,O⟩,ut_,⟨.inr ⟨_,O,.same O a8S⟩,.inr ⟨_,O,.same O V5⟩,.inr ⟨_,O,.same O V5⟩,.inl O,.inr ⟨_,O,.same O (A0 (a3D _))⟩,.inr ⟨_,O,.box ⟨.old (.val _),.old (.val _),D5.grow (f:=scv) (λ_=>⟨.val _,D⟩) O,.old (O4 _ [] _),D⟩⟩,.inr ⟨_,O,.same O F0⟩,D⟩⟩
          .have h8:¬l.length=8:=sm_ bj;refine b8W ?_;refine z_0 ?_;refine b3s ?_;refine ye O b8D j7 (a7k l (gnn l.length) s6 J _) O ?_;refine A6 ?_;refine cC ?_ ?_<;>intro dL
           .have bL:s6∈l:=H dL;refine a8t ?_;refine c4P ?_;rintro⟨x1,y1⟩ eR;dsimp only at eR⊢;refine d9f ?_;refine C6 ?_;refine b3s ?_;refine cY d3Q ?_;refine cD (D6 O D D O Q q_3 t_2 t_0 a5W t_4 O (.inr O) q_8 a5O G0 ((l++[s6]).map scv) (l++[s6]).length Q Q ?_);refine d3J ?_;refine A6 ?_;exact⟨⟨l++[s6],n6,x1,y1⟩,[0,1,2,3,4,5,7],⟨by
             dsimp only;rw[G eR,W O];omega,λh=>absurd h eR,λh _=>(a4U hl8 hS q5 q6 (e4:=y1) (λ_=>eR) (λ_ h'=>absurd bL h') (λ_=>eR)).2 h,y6,do_⟩,⟨O,O⟩,ut_,⟨.inr ⟨_,O,.same O a8S⟩,.inr ⟨_,O,.same O V5⟩,.inr ⟨_,O,.same O V5⟩,.inl O,.inr ⟨_,O,.same O (A0 (a3D _))⟩,.inr ⟨_,O,.box ⟨.old (.val _),.old (.val _),D5.grow (f:=scv) (λ_=>⟨.val _,D⟩) O,.old (O4 _ [] _),D⟩⟩,.inr ⟨_,O,.same O F0⟩,D⟩⟩
           .have bL:¬s6∈l:=H dL;refine D8 (C6 ?_);refine b3s ?_;refine cY d3Q ?_;refine cD (D6 O D D O Q q_3 t_2 t_0 a5W t_4 O (.inr O) q_8 a5O G0 ((l++[s6]).map scv) (l++[s6]).length Q Q ?_);refine d3J ?_;refine A6 ?_;exact⟨⟨l++[s6],n6,a7,e6⟩,[0,1,2,3,4,5,7],⟨by
             dsimp only;rw[W O]
             split<;>omega,λh=>by obtain⟨_,g5,g8,hS'⟩:=(a4U hl8 hS q5 q6 (e4:=e6) (λh=>absurd h (by rintro(h|h)<;>contradiction)) (λ_ _=>O) id).1 h;have:=(a9F q6 h).2.1;have:=d7x q5 g5;exact⟨he3,hS',do_,do_⟩,λh _=>(a4U hl8 hS q5 q6 (e4:=e6) (λh=>absurd h (by rintro(h|h)<;>contradiction)) (λ_ _=>O) id).2 h,y6,do_⟩,⟨O,O⟩,ut_,⟨.inr ⟨_,O,.same O a8S⟩,.inr ⟨_,O,.same O V5⟩,.inr ⟨_,O,.same O V5⟩,.inl O,.inr ⟨_,O,.same O (A0 (a3D _))⟩,.inr ⟨_,O,.box ⟨.old (.val _),.old (.val _),D5.grow (f:=scv) (λ_=>⟨.val _,D⟩) O,.old (O4 _ [] _),D⟩⟩,.inr ⟨_,O,.same O F0⟩,D⟩⟩
        .have iT:v9=true:=H h8;obtain⟨_,hq9⟩:=T8 (eN.symm.trans iT);have bH:=gv iT;subst m9;rw[c5D hq9]at hS;refine l9 ?_;exact⟨⟨l,m+1,a5,0⟩,[0,1,2,3,4,5],⟨Ok.of (λ_=>⟨he3,hS⟩) λh=>absurd O h,eP,hl9⟩,⟨O,O⟩,ut_,⟨.inr ⟨_,O,.same O a8S⟩,.inr ⟨_,O,.same O V5⟩,.inr ⟨_,O,.same O V5⟩,.inl O,.inr ⟨_,O,.same O (A0 (a3D _))⟩,.inr ⟨_,O,.box ⟨.old (.val _),.old (.val _),Z3 (f:=scv) (λ_=>⟨.val _,D⟩) _,.old (O4 _ [] _),D⟩⟩,D⟩⟩
       .
        refine cG a4a ?_;refine cY S6 ?_;refine A6 ?_;refine cC ?_ ?_<;>intro dA
        .have he:e≠0:=H hg;simp[he]at dA
        .have he:e≠0:=H hg;refine l9 ?_;exact⟨⟨l,m,a5,e⟩,[0,1,2,3,4,5],⟨Ok.of (λh=>absurd h he) (λh h3=>hN h h3),hm,hl9⟩,⟨O,O⟩,ut_,⟨.inr ⟨_,O,.same O a8S⟩,.inr ⟨_,O,.same O V5⟩,.inr ⟨_,O,.same O V5⟩,.inl O,.inr ⟨_,O,.same O (A0 (a3D _))⟩,.inr ⟨_,O,.box ⟨.old (.val _),.old (.val _),Z3 (f:=scv) (λ_=>⟨.val _,D⟩) _,.old (O4 _ [] _),D⟩⟩,D⟩⟩
      .have hk:¬kd=1:=H h7;have hp:a3k T kd n2=some ([],n2):=G hk;refine D8 ?_;exact⟨⟨[],n2,a3,e3⟩,[0,1,2,3,4,5],⟨by rw[hp];exact .some,y2,n_4 _⟩,⟨O,O⟩,ut_,uq_⟩
     .rintro ⟨l,m,a5,e5⟩ ⟨q5,y5,hl9⟩;dsimp only at q5 y5 hl9⊢;have aM:a0j T l:=⟨hT,hW,hc.l,J,hc.nn⟩;refine z_3 ?_;refine d2q ?_;refine d5V ?_;refine cD (i9 O D D O j3 a2E (.inl O) O O (nb O) ?_);refine a4h ?_;refine de O a4c o4 (N7 hT y5 hW [61] (q:=0) (s:=2) ⟨O,O,U⟩) O ?_;rintro⟨n6,a6,e6⟩ ⟨q6,y6⟩;dsimp only at q6 y6⊢;refine G8 [rbx T n6 a6 e6 l [] 2,o9 0 b.length,o9 e6 ([]:List Ex).length,.dead,.box (⟨0,[],[],[]⟩:De).cells,.box (⟨kd,s2,l,[]⟩:De).cells] O ?_;refine a4h ?_;refine de O b7n o4 ((d7l aM (8*T.length+6)).1 1 n6 a6 e6 [] y6 (n_4 _) U (λ_=>by omega) _ 0 2 ⟨O,O,U⟩) O ?_;rintro⟨x7,n7,a7,e7,b7⟩ ⟨k7,y7,w7,z7,l7,u7⟩;dsimp only at k7 y7 w7 z7 l7 u7⊢;refine G8 [rbx T n7 a7 e7 l b7 6,o9 0 b.length,.dead,.dead,.box (⟨0,[],[],[]⟩:De).cells,.box (⟨kd,s2,l,[]⟩:De).cells,o9 e7 b7.length] O ?_;refine a4h ?_;refine de O a4c o4 (N7 hT y7 hW [59] (q:=0) (s:=6) ⟨O,O,U⟩) O ?_;rintro⟨n8,a8,e8⟩ ⟨q8,y8⟩;dsimp only at q8 y8⊢;refine G8 [rbx T n8 a8 e8 l b7 6,o9 0 b.length,.dead,.dead,.box (⟨0,[],[],[]⟩:De).cells,.box (⟨kd,s2,l,[]⟩:De).cells,o9 e8 b7.length] O ?_;refine b8u ?_;refine cY c18 ?_;refine cY c13 ?_;refine cY (j2 O D O a9y O a9r U) ?_;refine cD (i9 O D D O j3 a9r (.inl O) O O (nb O) ?_);refine a7B ?_;refine cY d0y ?_;refine c8D ?_;refine c6 ?_;exact⟨_,C4 O c8J,(by exact⟨⟨⟨kd,s2,l,b7⟩,n8,a8,e8,l,b7⟩,c3b (k:=6) O O U (λ_=>b9R _ _ _ _ _),⟨d2P hu1 hkd p1 p2 q2 p3 p4 p5 q5 q6 k7 q8,y8,w7,λh0=>d1z hkd p1 p2 q2 p3 p4 p5 q5 q6 k7 z7 q8 h0⟩⟩)⟩
theorem d1u{ps:List I}(hc:a0j T [])(pk:I)(im:List I)(bs:List De)(gD:bs.length<=64){at_:Int}{b:List Ex}(hn:n<T.length){s:Nat}(au:RAt σ q s T n at_ 0 ps b):b8 CC 187 [.ptr q 0,.agg (⟨pk,im,bs⟩:Src).cells] σ λr τ=>∃a:RD5,r= .ret (.agg a.d.cells)/\τ=rS1 σ q s T a.n a.at_ a.e a.ps a.b/\RDP T bs n a:=
 b9t (c:=λa:RD5=>.agg a.d.cells) (N:=λa=>a.n) (A:=λa=>a.at_) (E:=λa=>a.e) (Z:=λa=>a.ps) (B:=λa=>a.b) (λ_ h=>by simp at h;subst h;exact j4 (Src.pure _)) (λa=>j4 a.d.pure) (c76 hc pk im bs gD n at_ b hn) au
theorem b1N(s:I):∀(n f f' i:Nat),s.length -i<n->i<=s.length->s.length <f+i->s.length <f'+i->a0E f s i=a0E f' s i
 |0,_,_,_,h,_,_,_=>by omega
 |n+1,f,f',i,h,hi,hf,gz=>by
  obtain⟨f,rfl⟩:∃g,f=g+1:=⟨f-1,J⟩;obtain⟨f',rfl⟩:∃g,f'=g+1:=⟨f'-1,J⟩;have h1:=(a19 (s:=s) (a:=i) (ks:=[5]) hi);rw[a0E,a0E];cases hb:s[A4 s i [5]]? with
  |none=>rfl
  |some b=>
   have ah:=(n_3.1 hb).1;simp only;by_cases h6:j8 b.toNat=6
   .rw [W h6,W h6];have h2:=b1m hb h6;have h3:=a7H (s:=s) (a:=A4 s i [5]) J;exact b1N s n f f' _ J h3 J J
   .rw [G h6,G h6];by_cases h4:(D1 s (A4 s i [5]) b).2.2≠0
    .rw [W h4,W h4]
    .rw [G h4,G h4];obtain⟨e,he,h5,h7⟩:=a5r hb h4;rw[he,a7d];rw[b1N s n f f' e J h7 J J]
def a5P(s:I)(i:Nat):Option (List Tok):=a0E (s.length+1-i) s i
theorem a3S{f:Nat}(hi:i<=s.length)(hf:s.length <f+i):a0E f s i=a5P s i:=b1N s (s.length+1-i) f _ i J hi hf J
theorem c7n(s:I):a2P s=if 16384<s.length then none else a5P s 0:=by
 unfold a2P
 split
 .rfl
 .exact a3S (n_4 _) J
theorem c5O(h:i=s.length):a5P s i=some [⟨5,[],0,(i:Nat)⟩]:=by
 subst h;unfold a5P;rw[show s.length+1-s.length=0+1 by omega,b6p (a8J (n_6 _)).symm (n_6 _)]
theorem b8Z{b:UInt8}(h:s[i]?=some b)(hk:j8 b.toNat=5):a5P s i=a5P s (i+1):=by
 have ah:=(n_3.1 h).1;rw[<- a3S (f:=s.length+1) J J,<- a3S (f:=s.length+1) (i:=i+1) J J];have:A4 s i [5]=A4 s (i+1) [5]:=by rw[V0 h,W (by simp[inK,hk])]
 rw[a0E,a0E,this]
theorem c9N{b:UInt8}(h:s[i]?=some b)(hk:j8 b.toNat=6):a5P s i=a5P s (Q9 s i):=by
 have ah:=(n_3.1 h).1;have h1:i=A4 s i [5]:=by rw[V0 h,G (by simp[inK,hk])]
 have h3:=a7H (s:=s) (a:=i) J;rw[<- a3S (f:=s.length+1+1) (i:=i) J J,b67 h1 h hk];exact a3S h3 J
theorem c7k{b:UInt8}(h:s[i]?=some b)(h5:j8 b.toNat≠5)(h6:j8 b.toNat≠6):a5P s i=if(D1 s i b).2.2≠0 then none else(a5P s (D1 s i b).2.1.toNat).map (({(D1 s i b).1 with at_:=(i:Nat)}:Tok)::·):=by
 have ah:=(n_3.1 h).1;have h1:i=A4 s i [5]:=by rw[V0 h,G (by simp[inK,h5])]
 rw[<- a3S (f:=s.length+1+1) (i:=i) J J];by_cases h4:(D1 s i b).2.2≠0
 .rw [b6F h1 h h6 h4,W h4]
 .obtain ⟨e,he,h7,h8⟩:=a5r h h4;rw[b6c h1 h h6 h4,G h4,he,a7d];rw[a3S h8 J]
def SkP(s:I)(i n:Nat):Prop:=i<=n/\n<=s.length/\a5P s i=a5P s n/\∀b,s[n]?=some b->j8 b.toNat≠5/\j8 b.toNat≠6
theorem c2Z(b:UInt8):(((((b.toNat:Int) == 32) ||((b.toNat:Int) == 9)) ||((b.toNat:Int) == 10)) ||((b.toNat:Int) == 13))=decide (j8 b.toNat=5):=by
 generalize (b.toNat:Int)=c;by_cases h:c=9\/c=10\/c=13\/c=32
 .unfold j8;rw[G J,G J,G J,G J,W h]
  rcases h with h|h|h|h<;>subst h<;>rfl
 .have hk:j8 c≠5:=by
   unfold j8
   repeat' split
   all_goals omega
  rw[a2c hk];simp;omega
theorem c9L(b:UInt8):((b.toNat:Int) == 35)=decide (j8 b.toNat=6):=by
 generalize (b.toNat:Int)=c;by_cases h:c=35
 .subst h;rfl
 .have hk:j8 c≠6:=by
   unfold j8
   repeat' split
   all_goals omega
  rw[a2c hk];simpa using h
theorem c84{b:UInt8}(h:s[a]?=some b)(hb:b≠10):Q9 s a=Q9 s (a+1):=by
 obtain⟨ah,rfl⟩:=n_3.1 h;unfold Q9;rw[U5 ah,b53,W (H hb),n_9];omega
theorem c8k{b:UInt8}(h:s[a]?=some b)(hb:b=10):Q9 s a=a:=by
 obtain⟨ah,rfl⟩:=n_3.1 h;unfold Q9;rw[U5 ah,b53,G (H hb)];rfl
theorem c5l(h:s.length<=a):Q9 s a=a:=by
 unfold Q9;rw[U4 h];rfl
theorem d5Z{b:UInt8}:((b.toNat:Int)=10)↔b=10:=by
 constructor
 .intro h;have:b.toNat=(10:UInt8).toNat:=by have e:(10:UInt8).toNat=10:=O;omega
  exact b8H.1 this
 .rintro rfl;rfl
theorem c55(s:I)(hs:s.length<=1000000000)(i:Nat)(hi:i<=s.length):b8 CC 227 [(sv s),iv i] [] λr τ=>∃n:Nat,r= .ret (iv n)/\τ=[]/\SkP s i n:=by
 refine qO Tryz.func227 ?_;refine m0 hCC (λn:Nat=>[(0,(sv s)),(1,iv n)]) (λ_=>[]) (λn=>i<=n/\n<=s.length/\a5P s i=a5P s n) (λn=>s.length -n) i ⟨n_6 _,hi,O⟩ tu_ (aj:=[]) O A7 uz_ ?_;intro n ⟨bL,hn,hr⟩;refine a61 ?_;refine qC ?_ ?_<;>intro h1
 .have ah:n<s.length:=sm_ h1;obtain⟨b,hb⟩:∃b,s[n]?=some b:=⟨s[n]'ah,Q⟩;refine V b7x ?_;refine a1u ?_;refine qG d6B ?_;refine a3l ?_;refine a1u ?_;refine qG d6B ?_;refine a3l ?_;refine a1u ?_;refine qG d6B ?_;refine a3l ?_;refine qC ?_ ?_<;>intro h2
  .have hk:j8 b.toNat=5:=by rw[c2Z]at h2;simpa using h2
   refine V r6 ?_;exact⟨(n+1),_,⟨J,J,J,by rw[hr,b8Z hb hk]⟩,tu_,O⟩
  .have hk5:j8 b.toNat≠5:=by rw[c2Z]at h2;simpa using h2
   refine V b7x ?_;refine qC ?_ ?_<;>intro h3
   .have hk6:j8 b.toNat=6:=by rw[c9L]at h3;simpa using h3
    have aR:=b1m hb hk6;have dv:=a7H (s:=s) (a:=n) J;refine m0 hCC (λm:Nat=>[(0,(sv s)),(1,iv m)]) (λ_=>[]) (λm=>n<=m/\m<=s.length/\Q9 s n=Q9 s m) (λm=>s.length -m) n ⟨n_6 _,hn,O⟩ tu_ (aj:=[]) O A7 uz_ ?_;intro m ⟨cw,hm,bq⟩;obtain⟨c,hc⟩:∃c:UInt8,m<s.length->s[m]?=some c:=by
     by_cases fF:m<s.length
     .exact ⟨s[m],λ_=>by simp[fF]⟩
     .exact ⟨0,λh=>absurd h fF⟩
    refine a61 ?_;refine b3O ?_;refine qC ?_ ?_<;>intro h4
    .have fC:m<s.length/\¬(c.toNat:Int)=10:=H h4;have hcm:=hc fC.1;have hc10:c≠10:=λe=>fC.2 (d5Z.2 e);refine V r6 ?_;exact⟨(m+1),_,⟨J,J,J,by rw[bq,c84 hcm hc10]⟩,tu_,O⟩
    .have da:Q9 s n=m:=by
      rw[bq];by_cases fF:m<s.length
      .have fC:(c.toNat:Int)=10:=by
        have:m<s.length->(c.toNat:Int)=10:=H h4;exact this fF
       exact c8k (hc fF) (d5Z.1 fC)
      .exact c5l J
     refine l9 ?_;exact⟨m,_,⟨J,J,J,by rw[hr,c9N hb hk6,da]⟩,tu_,O⟩
   .have hk6:j8 b.toNat≠6:=by rw[c9L]at h3;simpa using h3
    refine c6 ?_;exact⟨_,rE1,⟨n,O,O,bL,hn,hr,λb' gS=>by rw[hb]at gS;injection gS with gS;subst gS;exact⟨hk5,hk6⟩⟩⟩
 .have aH:n=s.length:=sm_ h1;refine W5 ?_;exact⟨_,rE1,⟨n,O,O,bL,hn,hr,λb hb=>by have:=(n_3.1 hb).1;omega⟩⟩
theorem c2s(s:I)(hs:s.length<=1000000000)(i:Nat)(hi:i<=s.length)(σ:List b9):b8 CC 227 [(sv s),iv i] σ λr τ=>∃n:Nat,r= .ret (iv n)/\τ=σ/\SkP s i n:=
 d4C (c:=λn:Nat=>(iv n)) hCC (λa h=>by simp at h;rcases h with rfl|rfl<;>exact .val _) (λ_=>.val _) ((c55 s hs i hi).mono λr τ ⟨n,h1,h2,h3⟩=>⟨n,by rw[h1];exact d2m (.old (.val _)),h3⟩) σ
theorem b38:∀a:I,Op.bytesLess a a=false
 | []=>rfl
 |x::a=>by simp[Op.bytesLess,b38 a]
theorem a7O:∀{a b c:I},Op.bytesLess a b=true->Op.bytesLess b c=true->Op.bytesLess a c=true
 | [],[],_,h,_=>by cases h
 | [],_::_,[],_,h=>by cases h
 | [],_::_,_::_,_,_=>rfl
 |_::_,[],_,h,_=>by cases h
 |_::_,_::_,[],_,h=>by cases h
 |x::a,y::b,z::c,h1,h2=>by
  simp only[Op.bytesLess,b2p,a1z,O5,beq_iff_eq]at h1 h2⊢
  rcases h1 with h1|⟨h1,dy⟩<;>rcases h2 with h2|⟨h2,cI⟩
  .exact .inl (UInt8.lt_trans h1 h2)
  .exact .inl (h2▸h1)
  .exact .inl (h1▸h2)
  .exact .inr ⟨h1.trans h2,a7O dy cI⟩
theorem c5Q:∀{a b:I},Op.bytesLess a b=false->a≠b->Op.bytesLess b a=true
 | [],[],_,h=>absurd O h
 | [],_::_,h,_=>by cases h
 |_::_,[],_,_=>rfl
 |x::a,y::b,h1,h2=>by
  simp only[Op.bytesLess,b8G,b17,Bool.and_eq_false_iff,beq_eq_false_iff_ne,b2p,a1z,O5,beq_iff_eq]at h1⊢;by_cases hxy:x=y
  .subst hxy;refine .inr ⟨O,c5Q (h1.2.resolve_left λh=>h O) λh=>h2 (by rw[h])⟩
  .have:=h1.1;exact .inl (by
    rcases Nat.lt_or_gt_of_ne (λh=>hxy (b8H.1 h):x.toNat≠y.toNat)with h|h
    .exact absurd (b6K.2 h) this
    .exact b6K.2 h)
def c3T(l:List Fi):Prop:=l.Pairwise λf g=>Op.bytesLess f.p g.p=true
def I3:List I:=([[97,46,115,114,99],[98,46,115,114,99],[100,47,99,46,115,114,99],[120,46,115,114,99]]:List I)
theorem a7h(σ:List b9):b8 CC 66 [] σ λr aa=>r= .ret (.list (I3.map scv) true none)/\aa=σ:=by
 refine b8.anyw hCC pu_ pu_ (c9 (qO Tryz.func66 ?_)) σ;refine V (B4 (I3.map scv) O ⟨O,O,O,O,D⟩ t_2 t_0 t_4 O O O O O O O O O) ?_;refine c6 ?_;exact⟨_,rE1,_,_,O,O,Z7 O pu_⟩
theorem a96(l:List I)(nn:Bool)(s:I)(hl:l.length<=1000000000)(σ:List b9):b8 CC 120 [(.list (l.map scv) nn none),(sv s)] σ λr aa=>r= .ret (.val (.bool (decide (s∈l))))/\aa=σ:=by
 refine b8.anyw hCC pu_ pu_ (c9 (qO Tryz.func120 ?_)) σ;refine m0 hCC (λi:Nat=>[(0,(.list (l.map scv) nn none)),(1,(sv s)),(5,iv i)]) (λ_=>[]) (λi=>i<=l.length/\decide (s∈l)=decide (s∈l.drop i)) (λi=>l.length -i) 0 ⟨n_4 _,O⟩ tu_ (aj:=[]) O A7 uz_ ?_;intro i ⟨hi,hr⟩;refine qk (V K6 ?_);refine qC ?_ ?_<;>intro h1
 .have ah:i<l.length:=sm_ h1;obtain⟨y,hb⟩:∃y,l[i]?=some y:=⟨l[i]'ah,Q⟩;have hdr:l.drop i=y::l.drop (i+1):=by
   obtain⟨ah,rfl⟩:=n_3.1 hb;exact U5 ah
  rw[hdr]at hr;refine b3F ?_;refine qC ?_ ?_<;>intro h2
  .have hys:y=s:=H h2;refine c6 ?_;exact⟨_,rE1,_,_,O,O,o3 (by rw[hr,hys];simp)⟩
  .have hys:¬y=s:=H h2;refine V r6 ?_;exact⟨(i+1),_,⟨J,J,by
    rw[hr];have:(s=y)=False:=by simpa using λh=>hys h.symm
    simp[this]⟩,tu_,O⟩
 .have aH:l.length<=i:=sm_ h1;rw[U4 aH]at hr;refine W5 ?_;exact⟨_,rE1,_,_,O,O,o3 c7M⟩
def a4E(n:Nat):I:=if h:n<10 then [UInt8.ofNat (48+n)]else a4E (n / 10)++[UInt8.ofNat (48+n%10)]
termination_by n
decreasing_by omega
theorem a6X(h:n<10):a4E n=[UInt8.ofNat (48+n)]:=by rw[a4E,dif_pos h]
theorem d2o(h:¬n<10):a4E n=a4E (n / 10)++a4E (n%10):=by rw[a4E,dif_neg h,a6X (a4L _ J)]
theorem a11:∀(m n:Nat),n<10^(m+1)->(a4E n).length<=m+1
 |0,n,h=>by rw[a6X (H h)];simp
 |m+1,n,h=>by
  by_cases hn:n<10
  .rw [a6X hn];simp
  .rw [a4E,dif_neg hn,n_8];have:=a11 m (n / 10) (by rw[Nat.div_lt_iff_lt_mul J];rw[Nat.pow_succ]at h;exact h);simp only[n_9,R1];omega
theorem e1a:∀n:Nat,n<10->(([48,49,50,51,52,53,54,55,56,57]:I).take (n+1)).drop n=[UInt8.ofNat (48+n)]:=by decide
theorem a7D(h:b8 CC 72 [iv n] [] λr aa=>r= .ret (sv (a4E n))/\aa=[])(σ:List b9):b8 CC 72 [iv n] σ λr aa=>r= .ret (sv (a4E n))/\aa=σ:=
 b8.anyw hCC pu_ pu_ h σ
theorem b6L(n:Nat)(hn:n<=4611686018427387904)(σ:List b9):b8 CC 72 [iv n] σ λr aa=>r= .ret (sv (a4E n))/\aa=σ:=by
 refine b8.anyw hCC pu_ pu_ ?_ σ
 induction n using Nat.strongRecOn
 rename_i n ih;refine c9 (qO Tryz.func72 ?_);refine qC ?_ ?_<;>intro h1
 .have hn9:n<10:=sm_ h1;refine V r6 ?_;refine V q_4 ?_;refine c6 ?_;exact⟨_,rE1,_,_,O,O,I2 (by rw[a6X hn9];exact D9 str (e1a n hn9))⟩
 .have hn9:¬n<10:=sm_ h1;have hd:Int.tdiv (n:Int) 10=((n / 10:Nat):Int):=by rfl
  have hm:Int.tmod (n:Int) 10=((n%10:Nat):Int):=by rfl
  have g1:=a11 18 (n / 10) J;have g2:=a11 18 (n%10) J;have e1:IntKind.i64.wrap ((n:Int).tdiv 10)=((n / 10:Nat):Int):=by rw[hd];exact a4v J J
  have e2:(n:Int).tmod 10=((n%10:Nat):Int):=by exact hm
  refine V (T9 O D O O O (O)) ?_;refine V (c4 O c7s ⟨D,D⟩ (by have h:=a7D (ih (n / 10) J J) [];rw[<- e1]at h;exact h) O) ?_;refine V (T9 O D O O O (O)) ?_;refine V (c4 O c7s ⟨D,D⟩ (by have h:=a7D (ih (n%10) J J) [];rw[<- e2]at h;exact h) O) ?_;refine V a1V ?_;refine c6 ?_;exact⟨_,rE1,_,_,O,O,I2 (D9 str (d2o hn9).symm)⟩
def leF(f x:Fi):Bool:=Op.bytesLess f.p x.p ||decide (f.p=x.p)
def a8q(f:Fi):Bool->List Fi->List Fi
 |d,[]=>if d then []else [f]
 |d,x::l=>(if !d&&leF f x then [f]else [])++((if x.p=f.p then []else [x])++a8q f (d ||leF f x) l)
def a5G(l:List Fi)(f:Fi):List Fi:=a8q f false l
def a43(l:List Fi)(s:I):List Fi:=l.filter λx=>!decide (x.p=s)
theorem c4Q{l:List Fi}(h:l[i]?=some y)(d:Bool):a8q f d (l.drop i)=(if !d&&leF f y then [f]else [])++((if y.p=f.p then []else [y])++a8q f (d ||leF f y) (l.drop (i+1))):=by
 obtain⟨ah,rfl⟩:=n_3.1 h;rw[U5 ah];rfl
theorem c33{l:List Fi}(h:l[i]?=some y):a43 (l.drop i) s=(if y.p=s then []else [y])++a43 (l.drop (i+1)) s:=by
 obtain⟨ah,rfl⟩:=n_3.1 h;rw[U5 ah,a43,b0I];by_cases h:(l[i]).p=s
 .simp [h,a43]
 .simp [h,a43]
theorem b5e{l:List Fi}{tok:Option Nat}:D5 L ao (.agg [.list (l.map Fi.cv) nn tok]) (.agg (A9 l nn)):=
 .agg O λi c c' h h'=>by
  rcases i with _|i
  .injection h with h;injection h' with h';subst h h';exact Z3 (f:=Fi.cv) Fi.pure _
  .cases h
theorem b9F(fl:List Fi)(nn:Bool)(f:Fi)(cl:fl.length<=1000000):b8 CC 67 [.agg (A9 fl nn),.agg f.cells] [] λr τ=>F7 0 τ r (.ret (.agg (A9 (a5G fl f) (gnn (a5G fl f).length)))) []:=by
 refine qO Tryz.func67 ?_;refine z_6 ?_;refine d6W ?_;refine V a2r ?_;refine C5 hCC 4 O (α:=List Fi×Bool×Nat) (λx=>[(3,.ptr 1 0),(4,.ptr 2 0),(5,.ptr 3 0),(6,(.val (.bool x.2.1))),(10,(.list (fl.map Fi.cv) nn none)),(11,iv fl.length),(12,iv x.2.2)]) (λx=>[.box (A9 fl nn),.box f.cells,.box (A9 [] false),.box [(.list (x.1.map Fi.cv) (gnn x.1.length) (G9 x.1.length 4))],p7 x.1.length]) (λx=>x.2.2<=fl.length/\x.1.length<=x.2.2+1/\(x.2.1=false->x.1.length<=x.2.2)/\a5G fl f=x.1++a8q f x.2.1 (fl.drop x.2.2)) (λx=>fl.length -x.2.2) ⟨([],false,0),[0,1,2,3,9],⟨n_4 _,n_4 _,λ_=>n_4 _,O⟩,⟨O,O⟩,ut_,⟨.inr ⟨_,O,.same O P6⟩,.inr ⟨_,O,.same O b0r⟩,.inr ⟨_,O,.same O a86⟩,.inr ⟨_,O,.box ⟨.same O (a1t _ ([]:List Fi) _),D⟩⟩,.inl O,D⟩⟩ ?_;intro⟨out,d,i⟩ ⟨hi,hol,hod,hr⟩;dsimp only at hi hol hod hr⊢;refine qk (qC ?_ ?_)<;> intro h1
 .have ah:i<fl.length:=sm_ h1;obtain⟨y,hb⟩:∃y,fl[i]?=some y:=⟨fl[i]'ah,Q⟩;rw[c4Q hb]at hr;refine c3D ?_;refine qG c9M ?_;refine qG a26 ?_;refine qG c9M ?_;refine qG a26 ?_;refine qG (λhg=>a1g O hg hg O O (b5D _ _)) ?_;refine V S6 ?_;refine qC ?_ ?_<;>intro h2
  .have cI:d=false/\leF f y=true:=by
    have h2:(!d&&leF f y)=true:=h2;simpa using h2
   obtain⟨hd,aR⟩:=cI;subst hd;rw[aR]at hr;have hol2:=hod O;refine V d9K ?_;refine qD (D6 O D D O Q q_3 b2f a9v b7u b0E O (.inr O) q_8 c7P G0 ((out++[f]).map Fi.cv) (out++[f]).length Q Q ?_);refine qD (i9 O D D O j3 c8i (.inl O) O O (nb O) ?_);refine V b2T ?_;refine qC ?_ ?_<;>intro h3
   .have fu:¬y.p=f.p:=H h3;rw[G fu]at hr;refine V d6I ?_;refine qD (D6 O D D O Q q_3 b2f a9v b7u b0E O (.inr O) q_8 c7P G0 ((out++[f]++[y]).map Fi.cv) (out++[f]++[y]).length Q Q ?_);refine c8r ?_;exact⟨(out++[f]++[y],true,i+1),[0,1,2,3,7],⟨do_,do_,by simp only[n_8,n_9,R1];omega,(λh=>by cases h),by rw[hr];simp⟩,⟨O,O⟩,ut_,⟨.inr ⟨_,O,.same O P6⟩,.inr ⟨_,O,.same O b0r⟩,.inr ⟨_,O,.same O a86⟩,.inr ⟨_,O,.box ⟨D5.grow (f:=Fi.cv) (λa=>⟨.val _,.val _,D⟩) O,D⟩⟩,.inr ⟨_,O,.same O F0⟩,D⟩⟩
   .have fu:y.p=f.p:=H h3;rw[W fu]at hr;refine V r6 ?_;exact⟨(out++[f],true,i+1),[0,1,2,3,6],⟨do_,do_,by simp only[n_8,n_9,R1];omega,(λh=>by cases h),by rw[hr];simp⟩,⟨O,O⟩,ut_,⟨.inr ⟨_,O,.same O P6⟩,.inr ⟨_,O,.same O b0r⟩,.inr ⟨_,O,.same O a86⟩,.inr ⟨_,O,.box ⟨D5.grow (f:=Fi.cv) (λa=>⟨.val _,.val _,D⟩) O,D⟩⟩,.inr ⟨_,O,.same O F0⟩,D⟩⟩
  .have hd:(!d&&leF f y)=false:=by
    have h2:(!d&&leF f y)=false:=h2;simpa using h2
   have hd2:(d ||leF f y)=d:=by cases d<;>simp_all
   rw[hd,hd2]at hr;refine V b2T ?_;refine qC ?_ ?_<;>intro h4
   .have fu:¬y.p=f.p:=H h4;rw[G fu]at hr;refine V d6I ?_;refine qD (D6 O D D O Q q_3 b2f a9v b7u b0E O (.inr O) q_8 c7P G0 ((out++[y]).map Fi.cv) (out++[y]).length Q Q ?_);refine c8r ?_;exact⟨(out++[y],d,i+1),[0,1,2,3,6],⟨do_,do_,by simp only[n_8,n_9,R1];omega,(λh=>by have:=hod h;simp only[n_8,n_9,R1];omega),by rw[hr];simp⟩,⟨O,O⟩,ut_,⟨.inr ⟨_,O,.same O P6⟩,.inr ⟨_,O,.same O b0r⟩,.inr ⟨_,O,.same O a86⟩,.inr ⟨_,O,.box ⟨D5.grow (f:=Fi.cv) (λa=>⟨.val _,.val _,D⟩) O,D⟩⟩,.inr ⟨_,O,.same O F0⟩,D⟩⟩
   .have fu:y.p=f.p:=H h4;rw[W fu]at hr;refine V r6 ?_;exact⟨(out,d,i+1),[0,1,2,3,4],⟨do_,do_,do_,(λh=>by have:=hod h;dsimp only;omega),by rw[hr];simp⟩,⟨O,O⟩,ut_,⟨.inr ⟨_,O,.same O P6⟩,.inr ⟨_,O,.same O b0r⟩,.inr ⟨_,O,.same O a86⟩,.inr ⟨_,O,.box ⟨D5.grow (f:=Fi.cv) (λa=>⟨.val _,.val _,D⟩) O,D⟩⟩,.inr ⟨_,O,.same O F0⟩,D⟩⟩
 .have aH:fl.length<=i:=sm_ h1;rw[U4 aH]at hr;refine l9 ?_;refine qC ?_ ?_<;>intro h5
  .have hd:d=false:=H h5;subst hd;replace hr:a5G fl f=out++[f]:=hr;refine V d9K ?_;refine qD (D6 O D D O Q q_3 b2f a9v b7u b0E O (.inr O) q_8 c7P G0 ((out++[f]).map Fi.cv) (out++[f]).length Q Q ?_);refine qD (i9 O D D O j3 c8i (.inl O) O O (nb O) ?_);refine c83 ?_;exact⟨_,C4 O a4w,(by rw[hr];exact d2m b5e)⟩
  .have hd:d=true:=H h5;subst hd;replace hr:a5G fl f=out:=by rw[hr];exact a1f _
   refine c83 ?_;exact⟨_,C4 O a4w,(by rw[hr];exact d2m b5e)⟩
theorem a0Q(fl:List Fi)(nn:Bool)(f:Fi)(cl:fl.length<=1000000)(σ:List b9):b8 CC 67 [.agg (A9 fl nn),.agg f.cells] σ λr τ=>r= .ret (.agg (A9 (a5G fl f) (gnn (a5G fl f).length)))/\τ=σ:=
 c9U hCC (λa h=>by simp at h;rcases h with rfl|rfl;exact j4 (cs:=A9 _ _) ⟨B6 _ _,D⟩;exact j4 (Fi.pure _)) (j4 (cs:=A9 _ _) ⟨B6 _ _,D⟩) (b9F fl nn f cl) σ
theorem b94(fl:List Fi)(nn:Bool)(s:I)(cl:fl.length<=1000000):b8 CC 71 [.agg (A9 fl nn),(sv s)] [] λr τ=>F7 0 τ r (.ret (.agg (A9 (a43 fl s) (gnn (a43 fl s).length)))) []:=by
 refine qO Tryz.func71 ?_;refine qD (F1 O D j3 j1 ?_);refine d6W ?_;refine V a2r ?_;refine C5 hCC 3 O (α:=List Fi×Nat) (λx=>[(1,(sv s)),(4,.ptr 1 0),(5,.ptr 2 0),(9,(.list (fl.map Fi.cv) nn none)),(10,iv fl.length),(11,iv x.2)]) (λx=>[.box (A9 fl nn),.box (A9 [] false),.box [(.list (x.1.map Fi.cv) (gnn x.1.length) (G9 x.1.length 3))],p7 x.1.length]) (λx=>x.2<=fl.length/\x.1.length<=x.2/\a43 fl s=x.1++a43 (fl.drop x.2) s) (λx=>fl.length -x.2) ⟨([],0),[0,1,2,9],⟨n_4 _,n_4 _,O⟩,⟨O,O⟩,ut_,⟨.inr ⟨_,O,.same O P6⟩,.inr ⟨_,O,.same O a86⟩,.inr ⟨_,O,.box ⟨.same O (a1t _ ([]:List Fi) _),D⟩⟩,.inl O,D⟩⟩ ?_;intro⟨out,i⟩ ⟨hi,hol,hr⟩;dsimp only at hi hol hr⊢;refine qk (qC ?_ ?_)<;> intro h1
 .have ah:i<fl.length:=sm_ h1;obtain⟨y,hb⟩:∃y,fl[i]?=some y:=⟨fl[i]'ah,Q⟩;rw[c33 hb]at hr;refine c3D ?_;refine V b2T ?_;refine qC ?_ ?_<;>intro h2
  .have fu:¬y.p=s:=H h2;rw[G fu]at hr;refine V d6I ?_;refine qD (D6 O D D O Q q_3 b2f a9v b7u b0E O (.inr O) q_8 c7P G0 ((out++[y]).map Fi.cv) (out++[y]).length Q Q ?_);refine c8r ?_;exact⟨(out++[y],i+1),[0,1,2,5],⟨do_,do_,by simp only[n_8,n_9,R1];omega,by rw[hr];simp⟩,⟨O,O⟩,ut_,⟨.inr ⟨_,O,.same O P6⟩,.inr ⟨_,O,.same O a86⟩,.inr ⟨_,O,.box ⟨D5.grow (f:=Fi.cv) (λa=>⟨.val _,.val _,D⟩) O,D⟩⟩,.inr ⟨_,O,.same O F0⟩,D⟩⟩
  .have fu:y.p=s:=H h2;rw[W fu]at hr;refine V r6 ?_;exact⟨(out,i+1),[0,1,2,3],⟨do_,do_,do_,by rw[hr];simp⟩,⟨O,O⟩,ut_,⟨.inr ⟨_,O,.same O P6⟩,.inr ⟨_,O,.same O a86⟩,.inr ⟨_,O,.box ⟨D5.grow (f:=Fi.cv) (λa=>⟨.val _,.val _,D⟩) O,D⟩⟩,.inr ⟨_,O,.same O F0⟩,D⟩⟩
 .have aH:fl.length<=i:=sm_ h1;rw[U4 aH]at hr;replace hr:a43 fl s=out:=by rw[hr];exact a1f _
  refine l9 ?_;refine c83 ?_;exact⟨_,C4 O a4w,(by rw[hr];exact d2m b5e)⟩
theorem b3G(fl:List Fi)(nn:Bool)(s:I)(cl:fl.length<=1000000)(σ:List b9):b8 CC 71 [.agg (A9 fl nn),(sv s)] σ λr τ=>r= .ret (.agg (A9 (a43 fl s) (gnn (a43 fl s).length)))/\τ=σ:=
 c9U hCC (λa h=>by simp at h;rcases h with rfl|rfl;exact j4 (cs:=A9 _ _) ⟨B6 _ _,D⟩;exact .val _) (j4 (cs:=A9 _ _) ⟨B6 _ _,D⟩) (b94 fl nn s cl) σ
theorem a3c{l:List Int}{k:Nat}{n:Int}(hn:1<=n):0<=M9 l k n/\M9 l k n<n:=a9L hn
theorem a7r(n:Nat)(l:List Int)(nn:Bool)(k:Nat):G7 n (x9 l nn k):=A0 ⟨X7 _ _ _,.val _,D⟩
theorem b9C(l:List Int)(nn:Bool)(k:Nat)(aV:k<=900000000)(hl:l.length<=maxLen)(n:Nat)(hn:n<=1000)(al:I)(ha:1<=al.length)(gF:al.length<=1000):b8 CC 121 [.ptr 0 0,iv n,(sv al)] [x9 l nn k] λr τ=>∃a:I×Nat,F7 1 τ r (.ret (sv a.1)) [x9 l nn a.2]/\(a.1.length=n/\k<=a.2/\a.2<=k+n):=by
 refine qO Tryz.func121 ?_;refine C5 hCC 1 O (α:=I×Nat) (λx=>[(0,.ptr 0 0),(1,iv n),(2,(sv al)),(7,(.list (x.1.map bcv) (gnn x.1.length) (G9 x.1.length 1))),(8,iv x.1.length)]) (λx=>[x9 l nn x.2,p7 x.1.length]) (λx=>x.1.length<=n/\x.2=k+x.1.length) (λx=>n-x.1.length) ⟨([],k),[0,9],⟨n_4 _,O⟩,⟨O,O⟩,⟨b73,b73,b73,b73,b73,D⟩,uq_⟩ ?_;intro⟨out,p⟩ ⟨hol,hp⟩;dsimp only at hol hp⊢;refine qk (qC ?_ ?_)<;> intro h1
 .have ah:out.length <n:=sm_ h1;have hb:=a3c (l:=l) (k:=p) (n:=(al.length:Int)) J;obtain⟨c,hc⟩:∃c,al[(M9 l p (al.length:Int)).toNat]?=some c:=⟨al[(M9 l p (al.length:Int)).toNat]'J,Q⟩;refine V T7 ?_;refine qD (c5 O a6p j7 (J1 l nn p _ 0 O J hl (al.length:Int) J) O ?_);intro _ _;refine V (J8 O D D O O t_5 J hc) ?_;refine V (B4 [bcv c] O ⟨D,D⟩ a3C a8B b12 O O O O O O O O O) ?_;refine qD (D6 O D D O Q q_3 a3C a8B b5H b12 O (.inr O) q_8 (by have hb:Tryz.t5.bytes=1:=O;rw[hb];first|omega|(simp;done)|(simp;omega)) G0 ((out++[c]).map bcv) (out++[c]).length Q Q ?_);refine V r6 ?_;exact⟨(out++[c],p+1),[0,2],⟨by simp only[n_8,n_9,R1];omega,by simp only[n_8,n_9,R1];omega,by simp only[n_8,n_9,R1];omega⟩,⟨O,O⟩,⟨⟨D,ur_⟩,⟨D,ur_⟩,⟨D,ur_⟩,⟨D,ur_⟩,⟨D,(by first|exact ur_|exact .same (D9 (λx=>iv x) (by simp:(out.length:Int)+1=((out++[c]).length:Int))) uo_)⟩,D⟩,uq_⟩
 .have aH:out.length=n:=sm_ h1;refine l9 ?_;refine V c6f ?_;refine c6 ?_;exact⟨_,rE1,⟨(out,p),a16 O L6 (.old (.val _)),aH,do_,do_⟩⟩
theorem c3k(l:List Int)(nn:Bool)(k:Nat)(aV:k<=900000000)(hl:l.length<=maxLen)(n:Nat)(hn:n<=1000)(al:I)(ha:1<=al.length)(gF:al.length<=1000)(σ:List b9)(q:Nat)(hq:σ[q]?=some (x9 l nn k)):b8 CC 121 [.ptr q 0,iv n,(sv al)] σ λr τ=>∃a:I×Nat,r= .ret (sv a.1)/\τ=σ.set q (x9 l nn a.2)/\(a.1.length=n/\k<=a.2/\a.2<=k+n):=
 a7v (c:=λa:I×Nat=>sv a.1) (S:=λa=>x9 l nn a.2) hCC (λa h=>by simp at h;rcases h with rfl|rfl<;>exact .val _) (λ_=>.val _) (λ_=>G6 _ _ _) (G6 _ _ _) O (b9C l nn k aV hl n hn al ha gF) σ q hq
theorem d0z(l:List Int)(nn:Bool)(k:Nat)(aV:k<=800000000)(hl:l.length<=maxLen):b8 CC 70 [.ptr 0 0] [x9 l nn k] λr τ=>∃a:I×Nat,F7 1 τ r (.ret (sv a.1)) [x9 l nn a.2]/\(a.1.length<=3/\k<=a.2/\a.2<=k+4):=by
 refine qO Tryz.func70 ?_;refine qD (c5 O a6p o4 (J1 l nn k _ 0 O J hl 4 J) O ?_);intro _ _;have hb:=a3c (l:=l) (k:=k) (n:=4) J;obtain⟨m,hm⟩:∃m:Nat,M9 l k 4=(m:Int):=⟨(M9 l k 4).toNat,J⟩;rw[hm]at hb⊢;refine qD (c5 O Tryz.call121 a2j (c3k l nn (k+1) J hl m J [97,98,0,255,48] U U _ 0 O) O ?_);intro⟨s,p⟩ ⟨hs,ga,cu⟩;dsimp only at hs ga cu⊢;refine c6 ?_;exact⟨_,rE1,⟨(s,p),a16 O L6 (.old (.val _)),do_,do_,do_⟩⟩
theorem c16(l:List Int)(nn:Bool)(k:Nat)(aV:k<=800000000)(hl:l.length<=maxLen)(σ:List b9)(q:Nat)(hq:σ[q]?=some (x9 l nn k)):b8 CC 70 [.ptr q 0] σ λr τ=>∃a:I×Nat,r= .ret (sv a.1)/\τ=σ.set q (x9 l nn a.2)/\(a.1.length<=3/\k<=a.2/\a.2<=k+4):=
 a7v (c:=λa:I×Nat=>sv a.1) (S:=λa=>x9 l nn a.2) hCC (λa h=>by simp at h) (λ_=>.val _) (λ_=>G6 _ _ _) (G6 _ _ _) O (d0z l nn k aV hl) σ q hq
def a7i(l:List Int)(nn:Bool)(ps:List I)(d L K B:Nat):Prop:=∀(k:Nat),k<=B->∀(σ:List b9) (q:Nat),σ[q]?=some (x9 l nn k)->b8 CC 122 [.ptr q 0,iv d,.list (ps.map scv) (gnn ps.length) none] σ λr τ=>∃a:I×Nat,r= .ret (sv a.1)/\τ=σ.set q (x9 l nn a.2)/\(a.1.length<=L/\k<=a.2/\a.2<=k+K)
abbrev eob(l:List Int)(nn:Bool)(ps:List I)(d p:Nat):List b9:=[x9 l nn (p),.box [.ptr 0 0],.box [iv d],.box [(.list (ps.map scv) (gnn ps.length) none)]]
theorem a95{l:List Int}{ps:List I}{d K:Nat}(hd:d<=10)(ih:a7i l nn ps d L K B)(p:Nat)(hp:p<=B):b8 CC 163 [.ptr 1 0,.ptr 2 0,.ptr 3 0] (eob l nn ps (d+1) p) λr τ=>∃a:I×Nat,r= .ret (sv a.1)/\τ=eob l nn ps (d+1) a.2/\(a.1.length<=L/\p<=a.2/\a.2<=p+K):=by
 refine qO Tryz.func163 ?_;refine V a0k ?_;refine qD (c5 O b64 B7 (by have h:=ih p hp (eob l nn ps (d+1) p) 0 O;rw[show(d:Int)=((d+1:Nat):Int) -1 by omega]at h;exact h) O ?_);intro⟨s,p1⟩ ⟨h1,h2,h3⟩;dsimp only at h1 h2 h3⊢;refine c6 ?_;exact⟨_,rE1,⟨(s,p1),O,O,h1,h2,h3⟩⟩
theorem c7p(l:List Int)(nn:Bool)(k:Nat)(hl:l.length<=maxLen)(d:Nat)(hd:d<=10)(ps:List I)(ba:∀s∈ps,s.length<=10)(bf:ps.length<=2)(L K B:Nat)(hL:L<=1000000)(hK:K<=1000)(aV:k+3*K+10<=B)(hB:B<=900000000)(dQ:1<=d->∀p,p<=B->b8 CC 163 [.ptr 1 0,.ptr 2 0,.ptr 3 0] (eob l nn ps d p) λr τ=>∃a:I×Nat,r= .ret (sv a.1)/\τ=eob l nn ps d a.2/\(a.1.length<=L/\p<=a.2/\a.2<=p+K)):b8 CC 122 [.ptr 0 0,iv d,.list (ps.map scv) (gnn ps.length) none] [x9 l nn k] λr τ=>∃a:I×Nat,F7 1 τ r (.ret (sv a.1)) [x9 l nn a.2]/\(a.1.length<=3*L+30/\k<=a.2/\a.2<=k+(3*K+5)):=by
 refine cO Tryz.func122 ?_;refine qs 1 (qD (F1 O D j3 (.inl O) ?_));refine qD (F1 O D j3 (.inl O) ?_);refine qD (F1 O D j3 (.inl O) ?_);refine J2 ?_;refine N9 (α:=Bool×Nat) (λx=>[(3,.ptr 1 0),(4,.ptr 2 0),(5,.ptr 3 0),(15,(.val (.bool x.1)))]) (λx=>[x9 l nn (x.2),.box [.ptr 0 0],.box [iv d],.box [(.list (ps.map scv) (gnn ps.length) none)]]) (λx=>k<=x.2/\x.2<=k+1/\(x.1=false->1<=d)) ?_ ?_
 .
  refine qk (qG (λhg=>o5 O D O c6q O O) ?_);refine b3h (.val (.bool false)) O O D O O (λhg=>c5 O a9C ⟨hg,O,O,D⟩ (I4 l nn k _ 0 O J hl 1 4 J) O ?_) (λhg=>?_)
  .
   intro _ _;refine b58 ?_;exact⟨(_,k+1),(by exact⟨do_,do_,λ_=>sm_ hg⟩),⟨⟨D,O⟩,⟨D,O⟩,⟨D,O⟩,⟨D,O⟩,D⟩,O⟩
  .
   refine b58 ?_;exact⟨(_,k),(by exact⟨do_,do_,λhb=>by exfalso;revert hb hg;cases decide ((d:Int)<=0)<;>simp⟩),⟨⟨D,O⟩,⟨D,O⟩,⟨D,O⟩,⟨D,O⟩,D⟩,O⟩
 .intro ⟨b,p⟩ E0 ⟨ga,cu,hbd⟩;dsimp only at ga cu hbd⊢;refine cC ?_ ?_<;>intro h1
  .refine N9 (α:=Nat) (λ_=>[(3,.ptr 1 0)]) (λx=>[x9 l nn (x),.box [.ptr 0 0],.box [iv d],.box [(.list (ps.map scv) (gnn ps.length) none)]]) (λx=>k<=x/\x<=k+3) ?_ ?_
   .
    refine qs 1 (qD (c5 O a6p o4 (J1 l nn p _ 0 O J hl 9 J) O ?_));intro _ _;refine N9 (α:=Bool) (λb=>[(3,.ptr 1 0),(4,.ptr 2 0),(5,.ptr 3 0),(17,(iv (M9 l p 9))),(18,(.val (.bool b)))]) (λ_=>[x9 l nn (p+1),.box [.ptr 0 0],.box [iv d],.box [(.list (ps.map scv) (gnn ps.length) none)]]) (λ_=>True) ?_ ?_
    .
     refine qk (qC ?_ ?_)<;> intro h2
     .exact ⟨_,D,⟨⟨D,O⟩,⟨D,O⟩,⟨D,O⟩,⟨D,O⟩,⟨D,O⟩,D⟩,O⟩
     .exact ⟨_,D,⟨⟨D,O⟩,⟨D,O⟩,⟨D,O⟩,⟨D,O⟩,⟨D,O⟩,D⟩,O⟩
    .intro b2 E2 _;refine qC ?_ ?_<;>intro h3
     .refine V K6 ?_;refine qC ?_ ?_<;>intro h4
      .obtain ⟨x,ps',rfl⟩:∃x ps',ps=x::ps':=by
        rcases ps with _|⟨x,ps'⟩
        .simp at h4
        .exact ⟨x,ps',O⟩
       refine qD (c5 O a5V j7 (K7 l nn (p+1) _ 0 O J hl (x::ps') Q J) O ?_);intro v hv;have db:=ba v hv;refine c6 ?_;exact⟨_,rE1,⟨(_,p+2),a16 O L6 (.old (.val _)),(by show List.length _<=_;simp only;omega),do_,do_⟩⟩
      .exact ⟨(p+1),⟨J,J⟩,tu_,O⟩
     .refine qC ?_ ?_<;>intro h5
      .refine cW 2 ?_;refine hY c1Q ?_;refine hY c1A ?_;refine d5K ?_;intro v hv;have db:v.length<=8:=Q5 (.inr (.inr (.inr (.inl hv))));refine a2D ?_;exact d6E
      .refine qC ?_ ?_<;>intro h6
       .refine cW 2 ?_;refine hY c1Q ?_;refine hY c1A ?_;refine d5K ?_;intro v hv;have db:v.length<=8:=Q5 (.inr (.inr (.inr (.inl hv))));refine a2D ?_;exact d6E
       .refine qC ?_ ?_<;>intro h7
        .refine cW 2 ?_;refine hY c1Q ?_;refine hY (c4 O Tryz.call84 trivial (b0O _) O) ?_;refine a2b ?_;refine qD (c5 O a5V j7 (K7 l nn (p+1) _ 0 O J hl a0Y U U) O ?_);intro v hv;have db:v.length<=8:=Q5 (.inr (.inr (.inr (.inr hv))));refine a2D ?_;exact d6E
        .refine qC ?_ ?_<;>intro h8
         .refine qD (c5 O a9C a2y (I4 l nn (p+1) _ 0 O J hl 1 5 J) O ?_);intro _ _;refine qC ?_ ?_<;>intro h9
          .refine V (B4 ([0,1,63].map icv) O ⟨O,O,O,D⟩ t_3 t_1 t_6 O O O O O O O O O) ?_;refine qD (c5 O b5z j7 (a23 l nn (p+2) _ 0 O J hl [0,1,63] Q Q) O ?_);intro v hv;obtain⟨m,hm,ce⟩:∃m:Nat,v=(m:Int)/\m<10^17:=by
            simp only[J6,a5J,or_false]at hv;exact⟨v.toNat,J,J⟩
           subst hm;have gE:=a11 16 m ce;refine V c2v ?_;refine a2D ?_;refine c6 ?_;exact⟨_,rE1,⟨(_,p+3),a16 O L6 (.old (.val _)),b8i,do_,do_⟩⟩
          .exact ⟨(p+2),⟨J,J⟩,tu_,O⟩
         .exact ⟨(p+1),⟨J,J⟩,tu_,O⟩
   .intro p3 E3 ⟨hp3,hp4⟩;refine qk (V (B4 ([0,1,2,3,10,255,9007199254740992,1073741824].map icv) O ⟨O,O,O,O,O,O,O,O,D⟩ t_3 t_1 t_6 O O O O O O O O O) ?_);refine qD (c5 O b5z j7 (a23 l nn (p3) _ 0 O J hl [0,1,2,3,10,255,9007199254740992,1073741824] Q Q) O ?_);intro v hv;obtain⟨m,hm,ce⟩:∃m:Nat,v=(m:Int)/\m<10^17:=by
     simp only[J6,a5J,or_false]at hv;exact⟨v.toNat,J,J⟩
    subst hm;have gE:=a11 16 m ce;refine V c2v ?_;refine c6 ?_;exact⟨_,rE1,⟨(_,p3+1),a16 O L6 (.old (.val _)),(by show List.length _<=_;simp only;omega),do_,do_⟩⟩
  .have gL:1<=d:=hbd (H h1);refine qk ?_;refine qs 1 (V (a7c O B7) ?_);refine J2 ?_;refine qs 1 (qD (c5 O a6p o4 (J1 l nn p _ 0 O J hl 10 J) O ?_));intro _ _;refine N9 (α:=Bool) (λb=>[(3,.ptr 1 0),(7,(.clo 163 [.ptr 1 0,.ptr 2 0,.ptr 3 0])),(64,(iv (M9 l p 10))),(65,(.val (.bool b)))]) (λ_=>[x9 l nn (p+1),.box [.ptr 0 0],.box [iv d],.box [(.list (ps.map scv) (gnn ps.length) none)]]) (λ_=>True) ?_ ?_
   .
    refine qk (qC ?_ ?_)<;> intro bj
    .exact ⟨_,D,⟨⟨D,O⟩,⟨D,O⟩,⟨D,O⟩,⟨D,O⟩,D⟩,O⟩
    .refine qC ?_ ?_<;>intro cX
     .exact ⟨_,D,⟨⟨D,O⟩,⟨D,O⟩,⟨D,O⟩,⟨D,O⟩,D⟩,O⟩
     .exact ⟨_,D,⟨⟨D,O⟩,⟨D,O⟩,⟨D,O⟩,⟨D,O⟩,D⟩,O⟩
   .intro b4 E4 _;refine qC ?_ ?_<;>intro dL
    .refine cF [3] [0,1,4] (tl:=[(2,[2]),(3,[2]),(5,[]),(6,[]),(7,[])]) ?_;refine chf O c8C ?_;refine chf O (c7 O d5m) ?_;refine b6D ?_;refine B9 O O O (c5 O a5V j7 (K7 l nn (p+1) _ 0 O J hl X8 U U) O ?_);intro v hv;have db:v.length<=8:=Q5 (.inr (.inl hv));refine⟨⟨G3,D⟩,?_⟩;refine d4n ?_;intro⟨s1,p1⟩ ⟨bu,bQ,aQ⟩;dsimp only at bu bQ aQ⊢;refine c9s ?_;refine c5q ?_;refine V (B4 ([0,0,0,1].map icv) O ⟨O,O,O,O,D⟩ t_3 t_1 t_6 O O O O O O O O O) ?_;refine qD (c5 O b5z j7 (a23 l nn (p1) _ 0 O J hl [0,0,0,1] Q Q) O ?_);intro n hn;have hn01:n=0\/n=1:=by
      simp only[J6,a5J,or_false]at hn;omega
     refine Q6 (α:=I×Nat×Int) (λx=>[(7,(.clo 163 [.ptr 1 0,.ptr 2 0,.ptr 3 0])),(8,(sv x.1)),(9,iv x.2.2)]) (λx=>[x9 l nn (x.2.1),.box [.ptr 0 0],.box [iv d],.box [(.list (ps.map scv) (gnn ps.length) none)]]) (λx=>(x.2.2=0\/x.2.2=1)/\(x.2.2=1->x.1.length<=L+9/\x.2.1<=k+4+K)/\x.1.length<=2*L+11/\k<=x.2.1/\x.2.1<=k+4+2*K) (λx=>x.2.2.toNat) (_,p1+1,n) ⟨hn01,λ_=>⟨by show List.length _<=_;simp only[n_8,n_9,R1];omega,do_⟩,by show List.length _<=_;simp only[n_8,n_9,R1];omega,do_,do_⟩ ⟨⟨D,O⟩,⟨D,O⟩,⟨D,O⟩,D⟩ O ?_;intro⟨s,p5,n5⟩ E5 ⟨hn5,hn6,hs5,hq5,hq6⟩;dsimp only at hn5 hn6 hs5 hq5 hq6⊢;refine qk (qC ?_ ?_)<;> intro dA
     .have h13':n5=1:=sm_ dA;obtain⟨hs6,hq7⟩:=hn6 h13';refine qD (V7 O D O b8J trivial (by exact dQ J (p5) J) O ?_);intro⟨s2,p2⟩ ⟨eO,cS,bq⟩;dsimp only at eO cS bq⊢;refine V a4l ?_;refine V a1V ?_;refine V a0k ?_;exact⟨(_,p2,n5-1),do_,(by exact⟨do_,λh=>by dsimp only at h;omega,by show List.length _<=_;simp only[n_8,n_9,R1];omega,do_,do_⟩),⟨⟨D,O⟩,⟨D,O⟩,⟨D,O⟩,D⟩,O⟩
     .refine l9 ?_;refine V W7 ?_;refine c6 ?_;exact⟨_,rE1,⟨(_,p5),a16 O L6 (.old (.val _)),b8i,do_,do_⟩⟩
    .refine qC ?_ ?_<;>intro gI
     .refine qD (V7 O D O b8J trivial (by exact dQ J (p+1) J) O ?_);intro⟨s1,p1⟩ ⟨bu,bQ,aQ⟩;dsimp only at bu bQ aQ⊢;refine a2D ?_;refine qD (V7 O D O b8J trivial (by exact dQ J (p1) J) O ?_);intro⟨s2,p2⟩ ⟨eO,cS,bq⟩;dsimp only at eO cS bq⊢;refine b0b ?_;refine qD (V7 O D O b8J trivial (by exact dQ J (p2) J) O ?_);intro⟨s3,p3⟩ ⟨fB,eC,gg⟩;dsimp only at fB eC gg⊢;refine b0b ?_;refine c6 ?_;exact⟨_,rE1,⟨(_,p3),a16 O L6 (.old (.val _)),b8i,do_,do_⟩⟩
     .refine qC ?_ ?_<;>intro h15
      .refine cF [3,4] [0,1,5] (tl:=[(2,[2]),(3,[2]),(4,[2]),(6,[]),(7,[]),(8,[]),(9,[])]) ?_;refine chf O c8C ?_;refine chf O (c7 O c1A) ?_;refine b6D ?_;refine B9 O O O (c5 O a5V j7 (K7 l nn (p+1) _ 0 O J hl a1G U U) O ?_);intro v hv;have db:v.length<=8:=Q5 (.inr (.inr (.inr (.inl hv))));refine⟨⟨G3,D⟩,?_⟩;refine b1f O O (λ_=>c7 O a4l) ?_;refine d4n ?_;intro⟨s1,p1⟩ ⟨bu,bQ,aQ⟩;dsimp only at bu bQ aQ⊢;refine c9s ?_;refine E8 O O c0R ⟨D,?_⟩;refine c5q ?_;exact c5f
      .refine qC ?_ ?_<;>intro h16
       .refine qD (V7 O D O b8J trivial (by exact dQ J (p+1) J) O ?_);intro⟨s1,p1⟩ ⟨bu,bQ,aQ⟩;dsimp only at bu bQ aQ⊢;refine a2D ?_;exact c5f
       .refine qk ?_;refine cF [2,3,7,8] [0,4,5,9] (tl:=[(1,[1,2,3]),(2,[1,2,3]),(3,[1,2,3]),(6,[3]),(7,[3]),(8,[3]),(10,[]),(11,[]),(12,[]),(13,[])]) ?_;refine chf O U7 ?_;refine chf O c8C ?_;refine chf O (c7 O e0P) ?_;refine b6D ?_;refine B9 O O O (V7 O D O b8J trivial (by exact dQ J (p+1) J) O ?_);intro⟨s1,p1⟩ ⟨bu,bQ,aQ⟩;dsimp only at bu bQ aQ⊢;refine⟨⟨(by exact c7 O c1Q),(by exact c7 O e0P),G3,D⟩,?_⟩;refine b1f O O (λ_=>c7 O a4l) ?_;refine b1f O O (λ_=>c7 O W7) ?_;refine B9 O O O (c5 O a5V j7 (K7 l nn p1 _ 0 O J hl ([[43],[45],[42],[47],[37],[60],[61,61]]:List I) Q Q) O ?_);intro v hv;have db:v.length<=2:=by revert v;decide
        refine⟨⟨G3,D⟩,?_⟩;refine b1f O O (λ_=>c7 O a1V) ?_;refine b1f O O (λ_=>c7 O W7) ?_;refine B9 O O O (V7 O D O b8J trivial (by exact dQ J (p1+1) J) O ?_);intro⟨s2,p2⟩ ⟨eO,cS,bq⟩;dsimp only at eO cS bq⊢;refine c9s ?_;refine E8 O O c0R ⟨D,?_⟩;refine b3J ?_;exact⟨_,rE1,⟨(_,p2),a16 O L6 (.old (.val _)),b8i,do_,do_⟩⟩
theorem a62{l:List Int}{k:Nat}(hl:l.length<=maxLen)(d:Nat)(hd:d<=10)(ps:List I)(ba:∀s∈ps,s.length<=10)(bf:ps.length<=2)(L K B:Nat)(hL:L<=1000000)(hK:K<=1000)(aV:k+3*K+10<=B)(hB:B<=900000000)(dQ:1<=d->∀p,p<=B->b8 CC 163 [.ptr 1 0,.ptr 2 0,.ptr 3 0] (eob l nn ps d p) λr τ=>∃a:I×Nat,r= .ret (sv a.1)/\τ=eob l nn ps d a.2/\(a.1.length<=L/\p<=a.2/\a.2<=p+K))(hq:σ[q]?=some (x9 l nn k)):
 b8 CC 122 [.ptr q 0,iv d,.list (ps.map scv) (gnn ps.length) none] σ λr τ=>∃a:I×Nat,r= .ret (sv a.1)/\τ=σ.set q (x9 l nn a.2)/\(a.1.length<=3*L+30/\k<=a.2/\a.2<=k+(3*K+5)):=
 a7v (c:=λa:I×Nat=>sv a.1) (S:=λa=>x9 l nn a.2) hCC (λa h=>by simp at h;rcases h with rfl|rfl;exact .val _;exact o6 _ _) (λ_=>.val _) (λ_=>G6 _ _ _) (G6 _ _ _) O (c7p l nn k hl d hd ps ba bf L K B hL hK aV hB dQ) σ q hq
theorem a7g(l:List Int)(nn:Bool)(hl:l.length<=maxLen)(ps:List I)(ba:∀s∈ps,s.length<=10)(bf:ps.length<=2):a7i l nn ps 0 30 5 800000000/\a7i l nn ps 1 120 20 799999000/\a7i l nn ps 2 390 65 799998000/\a7i l nn ps 3 1200 200 799997000:=by
 have e0:a7i l nn ps 0 30 5 800000000:=λk hk σ q hq=>a62 hl 0 J ps ba bf 0 0 900000000 J J J J (λh=>by omega) hq;have e1:a7i l nn ps 1 120 20 799999000:=λk hk σ q hq=>a62 hl 1 J ps ba bf 30 5 800000000 J J J J (λ_ p hp=>a95 J e0 p hp) hq;have e2:a7i l nn ps 2 390 65 799998000:=λk hk σ q hq=>a62 hl 2 J ps ba bf 120 20 799999000 J J J J (λ_ p hp=>a95 J e1 p hp) hq;have e3:a7i l nn ps 3 1200 200 799997000:=λk hk σ q hq=>a62 hl 3 J ps ba bf 390 65 799998000 J J J J (λ_ p hp=>a95 J e2 p hp) hq;exact⟨e0,e1,e2,e3⟩
theorem c9R(l:List Int)(nn:Bool)(k:Nat)(aV:k<=700000000)(hl:l.length<=maxLen):b8 CC 73 [.ptr 0 0] [x9 l nn k] λr τ=>∃a:I×Nat,F7 1 τ r (.ret (sv a.1)) [x9 l nn a.2]/\(a.1.length<=1240/\k<=a.2/\a.2<=k+210):=by
 refine cO Tryz.func73 ?_;refine qs 1 ?_;refine N9 (α:=Nat) (λ_=>[(0,.ptr 0 0)]) (λx=>[x9 l nn (x)]) (λx=>x=k+1) ?_ ?_
 .
  refine qs 1 (qD (c5 O a6p o4 (J1 l nn k _ 0 O J hl 8 J) O ?_));intro _ _;refine N9 (α:=Bool) (λb=>[(0,.ptr 0 0),(2,(sv ([]))),(6,(iv (M9 l k 8))),(7,(.val (.bool b)))]) (λ_=>[x9 l nn (k+1)]) (λ_=>True) ?_ ?_
  .
   refine qk (qC ?_ ?_)<;> intro h1
   .exact ⟨_,D,⟨⟨D,O⟩,⟨D,O⟩,⟨D,O⟩,⟨D,O⟩,D⟩,O⟩
   .refine qC ?_ ?_<;>intro h2
    .exact ⟨_,D,⟨⟨D,O⟩,⟨D,O⟩,⟨D,O⟩,⟨D,O⟩,D⟩,O⟩
    .exact ⟨_,D,⟨⟨D,O⟩,⟨D,O⟩,⟨D,O⟩,⟨D,O⟩,D⟩,O⟩
  .intro b E0 _;refine qC ?_ ?_<;>intro h3
   .refine V (c4 O Tryz.call82 trivial (b9s _) O) ?_;refine qD (c5 O a5V j7 (K7 l nn (k+1) _ 0 O J hl a5v U U) O ?_);intro v hv;have db:v.length<=8:=Q5 (.inr (.inr (.inl hv)));refine a2D ?_;refine qD (c5 O b64 a2y (by exact(a7g l nn hl ([]:List I) U U).2.2.2 (k+2) J _ 0 O) O ?_);intro⟨s1,p1⟩ ⟨bu,bQ,aQ⟩;dsimp only at bu bQ aQ⊢;refine b0b ?_;exact c5f
   .refine qC ?_ ?_<;>intro h4
    .refine V c1A ?_;refine qD (c5 O a5V j7 (K7 l nn (k+1) _ 0 O J hl a1G U U) O ?_);intro v hv;have db:v.length<=8:=Q5 (.inr (.inr (.inr (.inl hv))));refine a2D ?_;refine qD (c5 O b64 a2y (by exact(a7g l nn hl ([]:List I) U U).2.2.1 (k+2) J _ 0 O) O ?_);intro⟨s1,p1⟩ ⟨bu,bQ,aQ⟩;dsimp only at bu bQ aQ⊢;refine b0b ?_;exact c5f
    .exact ⟨_,O,⟨⟨D,O⟩,D⟩,O⟩
 .intro p E0 hp;subst hp;refine qk (qD (d1Y O O O O t_2 t_0 t_4 O ?_));refine qD (c5 O a9C a2y (I4 l nn (k+1) _ 0 O J hl 1 5 J) O ?_);intro _ _;refine qC ?_ ?_<;>intro h5
  .refine V (B4 [scv [98]] O ⟨O,D⟩ t_2 t_0 t_4 O O O O O O O O O) ?_;refine qD (D6 O D D O (show 1=List.length _ from O) q_3 t_2 t_0 a5W t_4 O (.inr O) q_8 a5O G0 (([[97],[98]]:List I).map scv) 2 O O ?_);refine d4g ?_;intro v hv;have db:v.length<=8:=Q5 (.inr (.inl hv));refine a2D ?_;refine V K6 ?_;refine qC ?_ ?_<;>intro h6
   .refine V W7 ?_;refine V W7 ?_;refine qD (c5 O b64 ⟨D,O,D,D⟩ (by exact(a7g l nn hl ([[97],[98]]:List I) U U).2.2.2 (k+3) J _ 0 O) O ?_);intro⟨s1,p1⟩ ⟨bu,bQ,aQ⟩;dsimp only at bu bQ aQ⊢;refine b0b ?_;exact c5f
   .exfalso;simp at h6
  .refine d4g ?_;intro v hv;have db:v.length<=8:=Q5 (.inr (.inl hv));refine a2D ?_;refine V K6 ?_;refine qC ?_ ?_<;>intro h7
   .exfalso;simp at h7
   .refine V W7 ?_;refine qD (c5 O b64 ⟨D,O,D,D⟩ (by exact(a7g l nn hl ([[97]]:List I) U U).2.2.2 (k+3) J _ 0 O) O ?_);intro⟨s1,p1⟩ ⟨bu,bQ,aQ⟩;dsimp only at bu bQ aQ⊢;refine b0b ?_;exact c5f
theorem c2w(l:List Int)(nn:Bool)(k:Nat)(aV:k<=700000000)(hl:l.length<=maxLen)(σ:List b9)(q:Nat)(hq:σ[q]?=some (x9 l nn k)):b8 CC 73 [.ptr q 0] σ λr τ=>∃a:I×Nat,r= .ret (sv a.1)/\τ=σ.set q (x9 l nn a.2)/\(a.1.length<=1240/\k<=a.2/\a.2<=k+210):=
 a7v (c:=λa:I×Nat=>sv a.1) (S:=λa=>x9 l nn a.2) hCC (λa h=>by simp at h) (λ_=>.val _) (λ_=>G6 _ _ _) (G6 _ _ _) O (c9R l nn k aV hl) σ q hq
theorem c0v(l:List Int)(nn:Bool)(k:Nat)(aV:k<=600000000)(hl:l.length<=maxLen)(pkg:I)(eu:pkg.length<=8):b8 CC 68 [.ptr 0 0,(sv pkg)] [x9 l nn k] λr τ=>∃a:I×Nat,F7 1 τ r (.ret (sv a.1)) [x9 l nn a.2]/\(a.1.length<=6300/\k<=a.2/\a.2<=k+1070):=by
 refine cO Tryz.func68 ?_;refine qs 2 ?_;refine a2D ?_;refine N9 (α:=I×Nat) (λx=>[(0,.ptr 0 0),(1,(sv pkg)),(5,(sv x.1))]) (λx=>[x9 l nn (x.2)]) (λx=>x.1.length<=40/\x.2=k+1) ?_ ?_
 .
  refine qk (qD (c5 O a9C a2y (I4 l nn k _ 0 O J hl 1 8 J) O ?_));intro _ _;refine qC ?_ ?_<;>intro h1
  .refine V a4l ?_;exact⟨(_,k+1),d9z,⟨⟨D,O⟩,⟨D,O⟩,⟨D,O⟩,D⟩,O⟩
  .exact ⟨(_,k+1),d9z,⟨⟨D,O⟩,⟨D,O⟩,⟨D,O⟩,D⟩,O⟩
 .intro ⟨s,p⟩ E0 ⟨hs,hp⟩;dsimp only at hs hp⊢;subst hp;refine qk (qD (c5 O a6p o4 (J1 l nn (k+1) _ 0 O J hl 3 J) O ?_));intro _ _;have hb1:=a3c (l:=l) (k:=k+1) (n:=3) J;refine C5 hCC 1 O (α:=I×List I×Nat×Int) (λx=>[(0,.ptr 0 0),(1,(sv pkg)),(5,(sv x.1)),(6,(.list (x.2.1.map scv) (gnn x.2.1.length) (G9 x.2.1.length 1))),(7,iv x.2.2.2)]) (λx=>[x9 l nn x.2.2.1,p7 x.2.1.length]) (λx=>0<=x.2.2.2/\x.2.2.2<=2/\x.1.length+20*x.2.2.2<=80/\x.2.1.length+x.2.2.2<=2/\k+2<=x.2.2.1/\x.2.2.1+x.2.2.2<=k+4) (λx=>x.2.2.2.toNat) ⟨(s,[],k+2,M9 l (k+1) 3),[0,9],⟨do_,do_,do_,by dsimp only;simp;omega,do_,do_⟩,⟨O,O⟩,ut_,uq_⟩ ?_;intro⟨s,seen,p,n⟩ ⟨bk,bT,eO,fe,ga,cu⟩;dsimp only at bk bT eO fe ga cu⊢;refine qk (qC ?_ ?_)<;> intro h2
  .have gJ:1<=n:=sm_ h2;refine V (c4 O Tryz.call69 trivial (a56 _) O) ?_;refine qD (c5 O a5V j7 (K7 l nn (p) _ 0 O J hl W2 U U) O ?_);intro v hv;have db:v.length<=8:=Q5 (.inl hv);refine V b2T ?_;refine a1u ?_;refine qG (λhg=>c4 O c66 ⟨hg,hg,D⟩ (a96 seen _ v J _) O) ?_;refine qG a4a ?_;refine V S6 ?_;refine qC ?_ ?_<;>intro h3
   .refine V (B4 [scv v] O ⟨D,D⟩ t_2 t_0 t_4 O O O O O O O O O) ?_;refine qD (D6 O D D O Q q_3 t_2 t_0 a5W t_4 O (.inr O) q_8 a5O G0 ((seen++[v]).map scv) (seen++[v]).length Q Q ?_);refine a2D ?_;refine V a1V ?_;refine V a0k ?_;exact⟨(s++((([105,109,112,111,114,116,32]:I)++v)++[59,10]),seen++[v],p+1,n-1),[0,2],(by exact⟨do_,do_,do_,by dsimp only;simp only[n_8,n_9,R1];omega,by dsimp only;simp only[n_8,n_9,R1];omega,do_,do_⟩),⟨O,O⟩,ut_,uq_⟩
   .refine V a0k ?_;exact⟨(s,seen,p+1,n-1),[0,1],⟨do_,do_,do_,do_,do_,do_,do_⟩,⟨O,O⟩,ut_,uq_⟩
  .have gJ:n=0:=sm_ h2;subst gJ;refine l9 ?_;refine qD (c5 O a6p o4 (J1 l nn p _ 0 O J hl 5 J) O ?_);intro _ _;have bY:=a3c (l:=l) (k:=p) (n:=5) J;refine V (c2J O O D O O J J) ?_;refine C5 hCC 2 O (α:=I×List I×Nat×Int) (λx=>[(0,.ptr 0 0),(5,(sv x.1)),(9,(.list (x.2.1.map scv) (gnn x.2.1.length) (G9 x.2.1.length 2))),(10,iv x.2.2.2)]) (λx=>[x9 l nn x.2.2.1,p7 seen.length,p7 x.2.1.length]) (λx=>0<=x.2.2.2/\x.2.2.2<=5/\x.1.length+1240*x.2.2.2<=6280/\x.2.1.length+x.2.2.2<=5/\k+3<=x.2.2.1/\x.2.2.1+211*x.2.2.2<=k+1060) (λx=>x.2.2.2.toNat) ⟨(s,[],p+1,1+M9 l p 5),[0,1,9],⟨do_,do_,do_,by dsimp only;simp;omega,do_,do_⟩,⟨O,O⟩,ut_,uq_⟩ ?_;intro⟨s,cm,p2,n⟩ ⟨bk,bT,fB,hhn,hp3,hp4⟩;dsimp only at bk bT fB hhn hp3 hp4⊢;refine qs 1 (qC ?_ ?_)<;> intro h4
   .have gJ:1<=n:=sm_ h4;refine J2 ?_;refine qs 3 (qD (c5 O Tryz.call73 ⟨D,D⟩ (c2w l nn p2 J hl _ 0 O) O ?_));intro⟨dt,p5⟩ ⟨hdt,hq5,hr5⟩;dsimp only at hdt hq5 hr5⊢;refine Q6 (α:=Nat) (λi=>[(0,.ptr 0 0),(5,(sv s)),(9,(.list (cm.map scv) (gnn cm.length) (G9 cm.length 2))),(10,iv n),(11,(sv dt)),(12,(sv dt)),(13,iv i)]) (λ_=>[x9 l nn p5,p7 seen.length,p7 cm.length]) (λi=>i<=dt.length) (λi=>dt.length -i) 0 (n_4 _) tu_ O ?_;intro i E3 hi;refine a61 ?_;refine qC ?_ ?_<;>intro h5
    .have ah:i<dt.length:=sm_ h5;obtain⟨c,hc⟩:∃c,dt[i]?=some c:=⟨dt[i]'ah,Q⟩;refine V (J8 O D D O O t_5 J (by rw[a7d];exact hc)) ?_;refine a1u ?_;refine qG (λhg=>J8 O hg hg O O t_5 c0N (by rw[a7d];exact hc)) ?_;refine a3l ?_;refine qC ?_ ?_<;>intro h6
     .refine V (I9 (h:=i) O D O t_5 O a3x a34 a34) ?_;refine l9 ?_;refine N9 (α:=Bool×Nat) (λx=>[(0,.ptr 0 0),(5,(sv s)),(9,(.list (cm.map scv) (gnn cm.length) (G9 cm.length 2))),(10,iv n),(11,(sv dt)),(12,(sv (dt.take i))),(84,(.val (.bool x.1)))]) (λx=>[x9 l nn x.2,p7 seen.length,p7 cm.length]) (λx=>p5<=x.2/\x.2<=p5+1) ?_ ?_
      .
       refine qk (V (c4 O c66 j7 (a96 cm _ _ J _) O) ?_);refine qG D2 ?_;refine b3h (.val (.bool false)) O O D O O (λhg=>c5 O a9C ⟨hg,O,O,D⟩ (I4 l nn p5 _ 0 O J hl 1 40 J) O ?_) (λhg=>?_)
       .
        intro _ _;exact d6i
       .
        refine b58 ?_;exact⟨(_,p5),⟨do_,do_⟩,⟨⟨D,O⟩,⟨D,O⟩,⟨D,O⟩,⟨D,O⟩,⟨D,O⟩,⟨D,O⟩,⟨D,O⟩,D⟩,O⟩
      .intro ⟨b6,p6⟩ E6 ⟨hq6,hr6⟩;dsimp only at hq6 hr6⊢;refine qC ?_ ?_<;>intro h7
       .refine V (B4 [scv (dt.take i)] O ⟨D,D⟩ t_2 t_0 t_4 O O O O O O O O O) ?_;refine qD (D6 O D D O Q q_3 t_2 t_0 a5W t_4 O (.inr O) q_8 a5O G0 ((cm++[(dt.take i)]).map scv) (cm++[(dt.take i)]).length Q Q ?_);refine V a1V ?_;refine qk (V a0k ?_);exact⟨(s++dt,cm++[(dt.take i)],p6,n-1),[0,1,3],d9u,⟨O,O⟩,ut_,uq_⟩
       .refine qk ?_;exact d5H
     .refine V r6 ?_;exact⟨(i+1),J,ah,tu_,O⟩
    .refine l9 ?_;refine N9 (α:=Bool×Nat) (λx=>[(0,.ptr 0 0),(5,(sv s)),(9,(.list (cm.map scv) (gnn cm.length) (G9 cm.length 2))),(10,iv n),(11,(sv dt)),(12,(sv dt)),(84,(.val (.bool x.1)))]) (λx=>[x9 l nn x.2,p7 seen.length,p7 cm.length]) (λx=>p5<=x.2/\x.2<=p5+1) ?_ ?_
     .
      refine qk (V (c4 O c66 j7 (a96 cm _ _ J _) O) ?_);refine qG D2 ?_;refine b3h (.val (.bool false)) O O D O O (λhg=>c5 O a9C ⟨hg,O,O,D⟩ (I4 l nn p5 _ 0 O J hl 1 40 J) O ?_) (λhg=>?_)
      .
       intro _ _;exact d6i
      .
       refine b58 ?_;exact⟨(_,p5),⟨do_,do_⟩,⟨⟨D,O⟩,⟨D,O⟩,⟨D,O⟩,⟨D,O⟩,⟨D,O⟩,⟨D,O⟩,⟨D,O⟩,D⟩,O⟩
     .intro ⟨b6,p6⟩ E6 ⟨hq6,hr6⟩;dsimp only at hq6 hr6⊢;refine qC ?_ ?_<;>intro h8
      .refine V (B4 [scv dt] O ⟨D,D⟩ t_2 t_0 t_4 O O O O O O O O O) ?_;refine qD (D6 O D D O Q q_3 t_2 t_0 a5W t_4 O (.inr O) q_8 a5O G0 ((cm++[dt]).map scv) (cm++[dt]).length Q Q ?_);refine V a1V ?_;refine qk (V a0k ?_);exact⟨(s++dt,cm++[dt],p6,n-1),[0,1,3],d9u,⟨O,O⟩,ut_,uq_⟩
      .refine qk ?_;exact d5H
   .have gJ:n=0:=sm_ h4;subst gJ;refine l9 ?_;refine qD (c5 O a9C a2y (I4 l nn p2 _ 0 O J hl 1 30 J) O ?_);intro _ _;refine qC ?_ ?_<;>intro h9
    .refine V (B4 (([[102,117,110,99],[125],[34],[116,101,115,116,32,116,32,61,32,49,59],[120]]:List I).map scv) O ⟨O,O,O,O,O,D⟩ t_2 t_0 t_4 O O O O O O O O O) ?_;refine qD (c5 O a5V j7 (K7 l nn (p2+1) _ 0 O J hl ([[102,117,110,99],[125],[34],[116,101,115,116,32,116,32,61,32,49,59],[120]]:List I) Q Q) O ?_);intro v hv;have db:v.length<=11:=by revert v;decide
     refine V a1V ?_;refine c6 ?_;exact⟨_,rE1,⟨(_,p2+2),a16 O L6 (.old (.val _)),(by show List.length _<=_;simp only[n_8];omega),do_,do_⟩⟩
    .refine c6 ?_;exact⟨_,rE1,⟨(_,p2+1),a16 O L6 (.old (.val _)),(by show List.length _<=_;simp only;omega),do_,do_⟩⟩
theorem b2A(l:List Int)(nn:Bool)(k:Nat)(aV:k<=600000000)(hl:l.length<=maxLen)(pkg:I)(eu:pkg.length<=8)(σ:List b9)(q:Nat)(hq:σ[q]?=some (x9 l nn k)):b8 CC 68 [.ptr q 0,(sv pkg)] σ λr τ=>∃a:I×Nat,r= .ret (sv a.1)/\τ=σ.set q (x9 l nn a.2)/\(a.1.length<=6300/\k<=a.2/\a.2<=k+1070):=
 a7v (c:=λa:I×Nat=>sv a.1) (S:=λa=>x9 l nn a.2) hCC (λa h=>by simp at h;subst h;exact .val _) (λ_=>.val _) (λ_=>G6 _ _ _) (G6 _ _ _) O (c0v l nn k aV hl pkg eu) σ q hq
def a1v:List I:=([[97,46,100,97,116],[100,47,98,46,100,97,116],[99]]:List I)
def a3E:List I:=([[97,46,115,114,99],[98,46,115,114,99],[100,47,99,46,115,114,99],[120,46,115,114,99],[97,46,100,97,116],[100,47,98,46,100,97,116],[99],[122,48,46,115,114,99],[122,49,46,115,114,99],[122,50,46,115,114,99]]:List I)
structure K5(B:Nat)(fl:List Fi):Prop where
 srt:c3T fl
 pth:∀f∈fl,f.p∈a3E
 byt:∀f∈fl,f.b.length<=B
theorem K5.nil(B:Nat):K5 B []:=⟨.nil,λf h=>by simp at h,λf h=>by simp at h⟩
theorem K5.mono{C:Nat}(h:K5 B fl)(hc:B<=C):K5 C fl:=⟨h.srt,h.pth,λf hf=>Nat.le_trans (h.byt f hf) hc⟩
theorem K5.len(h:K5 B fl):fl.length<=10:=by
 have hn:(fl.map Fi.p).Nodup:=by
  rw[List.nodup_iff_pairwise_ne,List.pairwise_map];exact h.srt.imp λ{a b} ck he=>by rw[he,b38]at ck;cases ck
 have hs:∀x∈fl.map Fi.p,x∈a3E:=λx hx=>by
  obtain⟨f,hf,rfl⟩:=H9.1 hx;exact h.pth f hf
 have:=List.Nodup.length_le_of_subset hn (λx hx=>hs x hx);rw[a02]at this;exact this
theorem b3A{f:Fi}:∀l:List Fi,a8q f true l=l.filter λx=>!decide (x.p=f.p)
 | []=>rfl
 |x::l=>by
  rw[a8q,Bool.true_or,b3A l,b0I];by_cases h:x.p=f.p<;>simp[h]
theorem a6Q{f:Fi}{x:Fi}:∀{d:Bool} {l:List Fi},x∈a8q f d l->x=f\/x∈l
 |d,[],h=>by
  cases d<;>simp[a8q]at h
  exact .inl h
 |d,y::l,h=>by
  rw[a8q]at h
  rcases W0.1 h with h|h
  .split at h<;>simp at h
   exact .inl h
  .rcases W0.1 h with h|h
   .split at h<;>simp at h
    exact .inr (by rw[h];simp)
   .rcases a6Q h with h|h
    .exact .inl h
    .exact .inr (X6 _ h)
theorem b6E{f:Fi}:∀{l:List Fi},c3T l->c3T (a8q f false l)
 | [],_=>by simp[a8q,c3T]
 |y::l,h=>by
  obtain⟨h1,h2⟩:=a6m.1 h;rw[a8q];by_cases aR:leF f y=true
  .simp only[aR,Bool.not_false,Bool.and_self,if_true,Bool.or_true,b3A];have hl:c3T (l.filter λx=>!decide (x.p=f.p)):=h2.filter _;have cl:∀g∈l.filter λx=>!decide (x.p=f.p),Op.bytesLess f.p g.p=true:=λg hg=>by
    have hy:=h1 g ((b1Y.1 hg).1);unfold leF at aR;simp only[b2p,a1z]at aR
    rcases aR with aR|aR
    .exact a7O aR hy
    .rw [aR];exact hy
   by_cases fu:y.p=f.p
   .rw [W fu,b4Y];exact a6m.2 ⟨cl,hl⟩
   .rw [G fu];have hfy:Op.bytesLess f.p y.p=true:=by
     unfold leF at aR;simp only[b2p,a1z]at aR
     rcases aR with aR|aR
     .exact aR
     .exact absurd aR.symm fu
    refine a6m.2 ⟨λg hg=>?_,a6m.2 ⟨λg hg=>h1 g ((b1Y.1 hg).1),hl⟩⟩
    rcases J6.1 hg with rfl|hg
    .exact hfy
    .exact cl g hg
  .have eF:leF f y=false:=H aR;have fu:¬y.p=f.p:=λh=>by rw[leF,h]at eF;simp at eF
   simp only[eF,Bool.and_false,Bool.or_false,G fu];have:Op.bytesLess y.p f.p=true:=by
    unfold leF at eF;simp only[b8G,b17]at eF;exact c5Q eF.1 eF.2
   refine a6m.2 ⟨λg hg=>?_,b6E h2⟩
   rcases a6Q hg with rfl|hg
   .exact this
   .exact h1 g hg
theorem K5.ins(h:K5 B fl)(hp:f.p∈a3E)(hb:f.b.length<=B):K5 B (a5G fl f):=
 ⟨b6E h.srt,λg hg=>by
  rcases a6Q hg with rfl|hg
  .exact hp
  .exact h.pth g hg,λg hg=>by
  rcases a6Q hg with rfl|hg
  .exact hb
  .exact h.byt g hg⟩
theorem K5.rem(h:K5 B fl)(s:I):K5 B (a43 fl s):=
 ⟨h.srt.filter _,λg hg=>h.pth g ((b1Y.1 hg).1),λg hg=>h.byt g ((b1Y.1 hg).1)⟩
theorem c2T:∀s∈I3,s∈a3E:=by decide
theorem c0M:∀s∈a1v,s∈a3E:=by decide
theorem T0(fl:List Fi)(nn:Bool):r9 (.agg (A9 fl nn)):=j4 (cs:=A9 _ _) ⟨B6 _ _,D⟩
theorem a15{l:List α}(h:i<l.length):∃y,l[i]?=some y/\y∈l:=⟨l[i],by simp[h],b9D h⟩
theorem b5g(l:List Int)(nn:Bool)(k:Nat)(aV:k<=500000000)(hl:l.length<=maxLen):b8 CC 27 [.ptr 0 0] [x9 l nn k] λr τ=>∃a:List Fi×Nat,F7 1 τ r (.ret (.agg (A9 a.1 (gnn a.1.length)))) [x9 l nn a.2]/\(K5 6300 a.1/\k<=a.2/\a.2<=k+4400):=by
 refine qO Tryz.func27 ?_;refine d6W ?_;refine V (c4 O Tryz.call66 trivial (a7h _) O) ?_;refine V K6 ?_;refine Q6 (α:=List Fi×Nat×Nat) (λx=>[(0,.ptr 0 0),(2,.ptr 1 0),(3,.ptr 2 0),(8,(.list (I3.map scv) true none)),(9,iv I3.length),(10,iv x.2.2)]) (λx=>[x9 l nn (x.2.1),.box (A9 [] false),.box (A9 x.1 (gnn x.1.length))]) (λx=>x.2.2<=I3.length/\K5 6300 x.1/\k+0<=x.2.1/\x.2.1<=k+0+x.2.2*1072) (λx=>I3.length -x.2.2) ([],k,0) ⟨n_4 _,.nil _,do_,do_⟩ tu_ O ?_;intro⟨fl,p,i⟩ E0 ⟨hi,hm,ga,cu⟩;dsimp only at hi hm ga cu⊢;have hL:I3.length=4:=O;have hml:=hm.len;refine qs 2 (qC ?_ ?_)<;> intro h1
 .have ah:i<I3.length:=sm_ h1;obtain⟨y,hb,fx⟩:=a15 ah;refine N9 (α:=List Fi×Nat) (λx=>[(0,.ptr 0 0),(2,.ptr 1 0),(3,.ptr 2 0),(8,(.list (I3.map scv) true none)),(9,iv I3.length),(10,iv i)]) (λx=>[x9 l nn (x.2),.box (A9 [] false),.box (A9 x.1 (gnn x.1.length))]) (λx=>K5 6300 x.1/\p<=x.2/\x.2<=p+1072) ?_ ?_
  .
   refine qk (V a9e ?_);refine qD (c5 O a9C a2y (I4 l nn p _ 0 O J hl 3 4 J) O ?_);intro _ _;refine qC ?_ ?_<;>intro h2
   .refine d7Y ?_;refine a5R ?_;refine chf O U7 ?_;refine chf O c9D ?_;refine G4 ?_;refine B9 O O O (c5 O a5V j7 (K7 l nn (p+1) _ 0 O J hl W2 U U) O ?_);intro v hv;have db:v.length<=8:=Q5 (.inl hv);refine⟨⟨a00,G3,G3,D⟩,?_⟩;refine B9 O O O (c5 O Tryz.call68 j7 (b2A l nn (p+2) J hl v db _ 0 O) O ?_);intro⟨s,p3⟩ ⟨hs,bQ,cS⟩;dsimp only at hs bQ cS⊢;refine d2V ?_;refine d4T ?_;exact⟨(a5G fl ⟨y,s⟩,p3),⟨hm.ins (c2T _ fx) hs,do_,do_⟩,tu_,O⟩
   .exact ⟨(fl,p+1),⟨hm,do_,do_⟩,tu_,O⟩
  .intro ⟨fl,p4⟩ E0 ⟨hm,bQ,cS⟩;dsimp only at hm bQ cS⊢;refine b1G ?_;exact⟨(fl,p4,i+1),do_,⟨do_,hm,do_,do_⟩,tu_,O⟩
 .refine l9 ?_;refine V d8E ?_;refine V K6 ?_;refine Q6 (α:=List Fi×Nat×Nat) (λx=>[(0,.ptr 0 0),(2,.ptr 1 0),(3,.ptr 2 0),(26,(.list (a1v.map scv) true none)),(27,iv a1v.length),(28,iv x.2.2)]) (λx=>[x9 l nn (x.2.1),.box (A9 [] false),.box (A9 x.1 (gnn x.1.length))]) (λx=>x.2.2<=a1v.length/\K5 6300 x.1/\k+0<=x.2.1/\x.2.1<=k+4288+x.2.2*5) (λx=>a1v.length -x.2.2) (fl,p,0) ⟨n_4 _,hm,do_,do_⟩ tu_ O ?_;intro⟨fl,p,i⟩ E0 ⟨hi,hm,ga,cu⟩;dsimp only at hi hm ga cu⊢;have hL:a1v.length=3:=O;have hml:=hm.len;refine qk (qC ?_ ?_)<;> intro h3
  .have ah:i<a1v.length:=sm_ h3;obtain⟨y,hb,fx⟩:=a15 ah;refine V a9e ?_;refine qD (c5 O a9C a2y (I4 l nn p _ 0 O J hl 1 3 J) O ?_);intro _ _;refine qC ?_ ?_<;>intro h4
   .refine cF [] [0,1,2] (tl:=[(3,[0,1]),(4,[0]),(5,[]),(6,[])]) ?_;refine chf O a7J ?_;refine a5R ?_;refine G4 ?_;refine B9 O O O (c5 O Tryz.call70 ⟨D,D⟩ (c16 l nn (p+1) J hl _ 0 O) O ?_);intro⟨s,p3⟩ ⟨hs,bQ,cS⟩;dsimp only at hs bQ cS⊢;refine d2V ?_;refine d4T ?_;refine V r6 ?_;exact⟨(a5G fl ⟨y,s⟩,p3,i+1),do_,⟨do_,hm.ins (c0M _ fx) do_,do_,do_⟩,tu_,O⟩
   .refine V r6 ?_;exact⟨(fl,p+1,i+1),do_,⟨do_,hm,do_,do_⟩,tu_,O⟩
  .refine l9 ?_;refine c83 ?_;exact⟨_,C4 O a4w,⟨(fl,p),a16 O L6 (.old (T0 _ _).old),hm,do_,do_⟩⟩
theorem b8s(l:List Int)(nn:Bool)(k:Nat)(aV:k<=500000000)(hl:l.length<=maxLen)(σ:List b9)(q:Nat)(hq:σ[q]?=some (x9 l nn k)):b8 CC 27 [.ptr q 0] σ λr τ=>∃a:List Fi×Nat,r= .ret (.agg (A9 a.1 (gnn a.1.length)))/\τ=σ.set q (x9 l nn a.2)/\(K5 6300 a.1/\k<=a.2/\a.2<=k+4400):=
 a7v (c:=λa:List Fi×Nat=>(.agg (A9 a.1 (gnn a.1.length)))) (S:=λa=>x9 l nn a.2) hCC (λa h=>by simp at h) (λ_=>T0 _ _) (λ_=>G6 _ _ _) (G6 _ _ _) O (b5g l nn k aV hl) σ q hq
theorem b0e{e:Nat}{c:UInt8}(h:s[e]?=some c)(hae:a<=e):sub s a (e+1)=sub s a e++[c]:=by
 obtain⟨ah,rfl⟩:=n_3.1 h;unfold sub;rw[<- c0n ah,List.drop_append_of_le_length a7e]
theorem sub_self:sub s a a=[]:=by unfold sub;exact U4 a7e
theorem c82(l:I)(c:UInt8):a4i (l++[c])=min (10*a4i l+((c.toNat:Int) -48)) 9007199254740993:=by
 unfold a4i;rw[c20];rfl
theorem b23{e:Nat}{ks:List Int}(h:∀c,s[e]?=some c->inK ks c=false):A4 s e ks=e:=by
 cases hc:s[e]? with
 |none=>exact a8J (H hc)
 |some c=>rw[V0 hc,G (by rw[h c hc];simp)]
theorem d3k:∀x:Fin 256,(j8 (x.val:Int)=8)=(UInt8.ofNat x.val∈a30):=by decide
theorem b79(b:UInt8):j8 b.toNat=8↔b∈a30:=by
 have h:=d3k ⟨b.toNat,b.toNat_lt⟩;simp only at h;rw[h];simp
theorem c2n:preB [61,61] (s.drop a)=true↔s[a]?=some 61/\s[a+1]?=some 61:=by
 unfold preB;rw[b7A];constructor
 .rintro ⟨t,ht⟩;have h0:(s.drop a)[0]?=some 61:=by rw[<- ht];rfl
  have h1:(s.drop a)[1]?=some 61:=by rw[<- ht];rfl
  rw[a5H]at h0 h1;exact⟨h0,h1⟩
 .rintro ⟨h0,h1⟩;obtain⟨l0,e0⟩:=n_3.1 h0;obtain⟨l1,e1⟩:=n_3.1 h1;refine⟨s.drop (a+2),?_⟩;rw[U5 l0,U5 l1,e0,e1];rfl
theorem d1Q(h0:s[a]?=some 61)(h1:s[a+1]?=some 61):sub s a (a+2)=[61,61]:=by
 rw[show a+2=(a+1)+1 from O,b0e h1 J,b0e h0 (n_6 _),sub_self];rfl
def b1b(s:I)(a:Nat)(b:UInt8):Tok:=if(D1 s a b).2.2=0 then {(D1 s a b).1 with at_:=(a:Nat)}else⟨0,[],0,0⟩
theorem c9J{b:UInt8}(hn:n<256):((b.toNat:Int)=(n:Int))↔b=UInt8.ofNat n:=by
 constructor
 .intro h;have h2:b.toNat=(UInt8.ofNat n).toNat:=by rw[UInt8.toNat_ofNat',b9c (H hn)];omega
  exact b8H.1 h2
 .rintro rfl;rw[UInt8.toNat_ofNat',b9c (H hn)]
theorem c5w(s:I)(hs:s.length<=1000000000)(a:Nat)(b:UInt8)(hb:s[a]?=some b)(ha:a<s.length):b8 CC 228 [(sv s),iv a] [] λr τ=>∃_:Unit,a03 0 τ r (.ret (.tup [.agg (b1b s a b).cells,(iv ((D1 s a b).2.1)),(iv ((D1 s a b).2.2))]))/\True:=by
 refine qO Tryz.func228 ?_;refine qD (l8 O t_9 O j1 ?_);refine V b7x ?_;refine V (c4 O c7z ⟨D,D⟩ (a4X b _) O) ?_;refine qC ?_ ?_<;>intro h1
 .have hk:j8 b.toNat=1:=H h1;refine m0 hCC (λe:Nat=>[(0,(sv s)),(1,iv a),(4,.ptr 0 0),(5,iv e)]) (λ_=>[.box (Tok.cells ⟨0,[],0,0⟩)]) (λe=>a<=e/\e<=s.length/\A4 s a [1,2,3]=A4 s e [1,2,3]) (λe=>s.length -e) a ⟨n_6 _,J,O⟩ tu_ (aj:=[]) O A7 uz_ ?_;intro e ⟨hae,fS,hr⟩;obtain⟨c,hc⟩:∃c:UInt8,e<s.length->s[e]?=some c:=by
   by_cases aR:e<s.length
   .exact ⟨s[e],λ_=>by simp[aR]⟩
   .exact ⟨0,λh=>absurd h aR⟩
  refine a61 ?_;refine c6P ?_;refine qG (λhg=>c4 O c6S ⟨hg,D⟩ (a6s c _) O) ?_;refine V S6 ?_;refine qC ?_ ?_<;>intro h2
  .have cI:e<s.length/\inK [1,2,3] c=true:=H h2;have hce:=hc cI.1;refine V r6 ?_;exact⟨(e+1),_,⟨J,J,J,by rw[hr,V0 hce,W cI.2]⟩,tu_,O⟩
  .have hse:A4 s a [1,2,3]=e:=by
    rw[hr];refine b23 λc' aM=>?_;have aR:=(n_3.1 aM).1;rw[hc aR]at aM;injection aM with aM
    subst aM;have h3:e<s.length->inK [1,2,3] c=false:=H h2;exact h3 aR
   refine l9 ?_;refine V a8d ?_;refine qC ?_ ?_<;>intro h3
   .have hx:D1 s a b=(⟨0,[],0,0⟩,0,2):=by
     unfold D1;rw[W hk,hse,W (sm_ h3)]
    exact d3g
   .have hx:D1 s a b=(⟨1,sub s a e,0,0⟩,(e:Int),0):=by
     unfold D1;rw[W hk,hse,G (sm_ h3)]
    refine V (I9 (a:=a) (h:=e) O D O t_5 a3x a3x a34 a34) ?_;refine V d0Y ?_;exact c6N
 .have bN:¬j8 b.toNat=1:=H h1;refine qG D2 ?_;refine a2g ?_;refine qC ?_ ?_<;>intro h4
  .have bW:j8 b.toNat=2:=by rw[a41];simp at h4;omega
   refine m0 hCC (λx:Nat×Int=>[(0,(sv s)),(1,iv a),(4,.ptr 0 0),(5,iv x.1),(8,iv x.2)]) (λ_=>[.box (Tok.cells ⟨0,[],0,0⟩)]) (λx=>a<=x.1/\x.1<=s.length/\A4 s a [2]=A4 s x.1 [2]/\0<=x.2/\x.2<=90071992547409930/\min x.2 9007199254740993=a4i (sub s a x.1)) (λx=>s.length -x.1) (a,0) ⟨n_6 _,do_,O,do_,do_,by rw[sub_self];rfl⟩ tu_ (aj:=[]) O A7 uz_ ?_;intro⟨e,n⟩ ⟨hae,fS,hr,eS,bk,cw⟩;dsimp only at hae fS hr eS bk cw⊢;obtain⟨c,hc⟩:∃c:UInt8,e<s.length->s[e]?=some c:=by
    by_cases aR:e<s.length
    .exact ⟨s[e],λ_=>by simp[aR]⟩
    .exact ⟨0,λh=>absurd h aR⟩
   refine qs 1 (V T7 ?_);refine b3O ?_;refine b3O ?_;refine qC ?_ ?_<;>intro h5
   .have h5':e<s.length/\48<=c.toNat/\c.toNat<=57:=by
     simp at h5;omega
    have hce:=hc h5'.1;have hk2c:j8 c.toNat=2:=a41.2 h5'.2;have cc:=c82 (sub s a e) c;rw[<- b0e hce hae]at cc;refine N9 (α:=Int) (λn'=>[(0,(sv s)),(1,iv a),(4,.ptr 0 0),(5,iv e),(8,iv n')]) (λ_=>[.box (Tok.cells ⟨0,[],0,0⟩)]) (λn'=>0<=n'/\n'<=90071992547409930/\min n' 9007199254740993=a4i (sub s a (e+1))) ?_ ?_
    .
     refine qk (qC ?_ ?_)<;> intro h6
     .have bT:n<=9007199254740992:=H h6;refine V (c05 O D O O O J J) ?_;refine V (J8 O D D O O t_5 J (by rw[a7d];exact hce)) ?_;refine V a1s ?_;refine V (a2K O D O b2e b7r (show IntKind.i64.wrap (IntKind.u8.wrap ((c.toNat:Int) -48))=(c.toNat:Int) -48 by rw[wr8 J J,a4v J J])) ?_;refine V a5Z ?_;exact⟨_,(by exact⟨J,J,by rw[cc,<- cw];omega⟩),⟨⟨D,O⟩,⟨D,O⟩,⟨D,O⟩,⟨D,O⟩,⟨D,O⟩,D⟩,O⟩
     .have bT:9007199254740992<n:=H h6;exact⟨n,⟨eS,bk,by rw[cc,<- cw];omega⟩,tu_,O⟩
    .intro n' E' ⟨hn0',hn1',hnm'⟩;refine b1G ?_;exact⟨(e+1,n'),_,⟨do_,do_,do_,by dsimp only;rw[hr,V0 hce,W (by simp[inK,hk2c])],hn0',hn1',hnm'⟩,tu_,O⟩
   .have hse:A4 s a [2]=e:=by
     rw[hr];refine b23 λc' aM=>?_;have aR:=(n_3.1 aM).1;rw[hc aR]at aM;injection aM with aM
     subst aM;have hnk:¬j8 c.toNat=2:=λhk=>by
      have:=a41.1 hk;simp at h5;omega
     simp[inK,hnk]
    refine l9 ?_;refine qC ?_ ?_<;>intro h7
    .have hx:D1 s a b=(⟨0,[],0,0⟩,0,3):=by
      unfold D1;rw[G bN,W bW,hse,W (by rw[<- cw];simp at h7;omega)]
     exact d3g
    .have hx:D1 s a b=(⟨2,[],n,0⟩,(e:Int),0):=by
      unfold D1;have gN:a4i (sub s a e)=n:=by rw[<- cw];simp at h7;omega
      rw[G bN,W bW,hse,gN,G (sm_ h7)]
     refine V d0Y ?_;exact c6N
  .have bW:¬j8 b.toNat=2:=by rw[a41];simp at h4;omega
   refine qC ?_ ?_<;>intro h8
   .have hb34:b=34:=by
     have:(b.toNat:Int)=((34:Nat):Int):=H h8;exact(c9J (n:=34) J).1 this
    have fp:j8 b.toNat=7:=by rw[hb34];rfl
    refine V r6 ?_;refine m0 hCC (λe:Nat=>[(0,(sv s)),(1,iv a),(4,.ptr 0 0),(5,iv e)]) (λ_=>[.box (Tok.cells ⟨0,[],0,0⟩)]) (λe=>a+1<=e/\e<=s.length/\a3H (s.drop (a+1))=(a3H (s.drop e)).map (· +(e- (a+1)))) (λe=>s.length -e) (a+1) ⟨n_6 _,J,Q⟩ tu_ (aj:=[]) O A7 uz_ ?_;intro e ⟨hae,fS,hr⟩;obtain⟨c,hc⟩:∃c:UInt8,e<s.length->s[e]?=some c:=by
     by_cases aR:e<s.length
     .exact ⟨s[e],λ_=>by simp[aR]⟩
     .exact ⟨0,λh=>absurd h aR⟩
    refine a61 ?_;refine b3O ?_;refine b3O ?_;refine b3O ?_;refine qC ?_ ?_<;>intro h9
    .have h9':e<s.length/\32<=c.toNat/\c.toNat<=126/\¬c.toNat=34:=by
      simp at h9;omega
     have hce:=hc h9'.1;refine V r6 ?_;exact⟨(e+1),_,⟨J,J,J,by
      rw[hr,a3m hce,W ⟨h9'.2.1,h9'.2.2.1⟩,G h9'.2.2.2,Option.map_map]
      congr 1
      funext x
      simp only[Function.comp];omega⟩,tu_,O⟩
    .refine l9 ?_;refine V T7 ?_;refine c6P ?_;refine a3l ?_;refine qC ?_ ?_<;>intro bj
     .have hx:D1 s a b=(⟨0,[],0,0⟩,0,9):=by
       have hq:a3H (s.drop (a+1))=none:=by
        rw[hr];by_cases aR:e<s.length
        .rw [a3m (hc aR)];have h9':¬(e<s.length/\32<=c.toNat/\c.toNat<=126/\¬c.toNat=34):=by
          simp at h9;omega
         have h10':¬c.toNat=34:=by
          simp at bj;omega
         rw[G J];rfl
        .rw [b2I J];rfl
       unfold D1;rw[G bN,G bW,W fp,hq]
      exact d3g
     .have h10':e<s.length/\c.toNat=34:=by
       simp at bj;omega
      have hx:D1 s a b=(⟨3,sub s (a+1) e,0,0⟩,(e+1:Int),0):=by
       have hq:a3H (s.drop (a+1))=some (e- (a+1)):=by
        rw[hr,a3m (hc h10'.1),W J,W h10'.2];simp
       unfold D1;rw[G bN,G bW,W fp,hq];have e1:a+1+(e- (a+1))=e:=by omega
       refine Prod.ext ?_ (Prod.ext ?_ O)
       .simp only[e1]
       .show ((a:Int)+1+((e- (a+1):Nat):Int)+1)=(e:Int)+1;omega
      refine V r6 ?_;refine V (I9 (a:=(a+1)) (h:=e) O D O t_5 a3x a3x a34 a34) ?_;refine V d0Y ?_;refine V r6 ?_;exact c6N
   .have fp:¬j8 b.toNat=7:=by
     intro hk;unfold j8 at hk
     repeat' split at hk
     all_goals first|omega|(simp at h8;omega)
    obtain⟨c1,di⟩:∃c:UInt8,a+1<s.length->s[a+1]?=some c:=by
     by_cases aR:a+1<s.length
     .exact ⟨s[a+1],λ_=>by simp[aR]⟩
     .exact ⟨0,λh=>absurd h aR⟩
    refine V b7x ?_;refine qG D2 ?_;refine qG d9L ?_;refine b5o ?_;refine qG b2y ?_;refine V S6 ?_;refine a1u ?_;refine qG d9L ?_;refine qG (λhg=>J8 O hg hg O O t_5 c0N (by rw[show((a:Int)+1).toNat=a+1 by omega];exact di (sm_ hg))) ?_;refine a2g ?_;refine qC ?_ ?_<;>intro cX
    .have h11':b=61/\a+1<s.length/\c1=61:=by
      simp at cX;exact⟨(c9J (n:=61) J).1 J,J,(c9J (n:=61) J).1 J⟩
     have bY:s[a]?=some 61:=by rw[hb,h11'.1]
     have dT:s[a+1]?=some 61:=by rw[di h11'.2.1,h11'.2.2]
     have hx:D1 s a b=(⟨4,[61,61],0,0⟩,(a+2:Int),0):=by
      have hk8:j8 b.toNat=8:=by rw[h11'.1];rfl
      unfold D1;rw[G bN,G bW,G fp,W hk8,W (c2n.2 ⟨bY,dT⟩),d1Q bY dT]
     refine V (B2 #[(0,1),(1,1),(2,1),(3,1)] O ⟨O,O,D,D⟩ a8K t_9 O ⟨_,O⟩ (λw=>by kernel_rfl) O O) ?_;refine V r6 ?_;exact c6N
    .have fk:¬preB [61,61] (s.drop a)=true:=λhp=>by
      obtain⟨p1,p2⟩:=c2n.1 hp;have aR:=(n_3.1 p2).1;rw[hb]at p1;rw[di aR]at p2;injection p1 with p1
      injection p2 with p2
      subst p1 p2;simp at cX;omega
     refine c8n a30 O O O O O O O O ⟨O,O,O,O,O,O,O,O,O,O,O,D⟩ a3C a8B b12 b2e O O O O O O O ?_;refine qo (V c6w ?_);refine m0 hCC (λi:Nat=>[(0,(sv s)),(1,iv a),(4,.ptr 0 0),(156,(.list (a30.map bcv) true none)),(157,iv a30.length),(158,iv i)]) (λ_=>[.box (Tok.cells ⟨0,[],0,0⟩)]) (λi=>i<=a30.length/\∀x∈a30.take i,x≠b) (λi=>a30.length -i) 0 ⟨n_4 _,λx hx=>by simp at hx⟩ tu_ (aj:=[]) O A7 uz_ ?_;intro i ⟨hi,hni⟩;have hSL:a30.length=11:=O;refine qk (qC ?_ ?_)<;> intro dL
     .have hli:i<a30.length:=sm_ dL;obtain⟨y,hy,fx⟩:=a15 hli;refine V (z8 O D D O O a3C a8B J (o7 hy) O) ?_;refine V b7x ?_;refine qC ?_ ?_<;>intro dA
      .have hby:b=y:=by
        have:(b.toNat:Int)=(y.toNat:Int):=H dA;exact b8H.1 J
       have hx:D1 s a b=(⟨4,sub s a (a+1),0,0⟩,(a+1:Int),0):=by
        unfold D1;rw[G bN,G bW,G fp,W ((b79 b).2 (hby▸fx)),G fk]
       refine V r6 ?_;refine V (I9 (a:=a) (h:=(a+1)) O D O t_5 a3x a3x a34 a34) ?_;refine V d0Y ?_;refine V r6 ?_;exact c6N
      .have hby:¬b=y:=λe=>by
        rw[e]at dA;simp at dA
       refine V r6 ?_;exact⟨(i+1),_,⟨J,J,λx hx=>by
        rw[a8n,hy]at hx
        rcases W0.1 hx with hx|hx
        .exact hni x hx
        .simp at hx;subst hx;exact λe=>hby e.symm⟩,tu_,O⟩
     .have hie:i=a30.length:=sm_ dL;have hx:D1 s a b=(⟨0,[],0,0⟩,0,9):=by
       have hk8:¬j8 b.toNat=8:=λhk=>by
        have hm:=(b79 b).1 hk;rw[hie,a1i (n_6 _)]at hni;exact hni b hm O
       unfold D1;rw[G bN,G bW,G fp,G hk8]
      refine l9 ?_;exact d3g
theorem c5K(s:I)(hs:s.length<=1000000000)(a:Nat)(b:UInt8)(hb:s[a]?=some b)(ha:a<s.length)(σ:List b9):b8 CC 228 [(sv s),iv a] σ λr τ=>r= .ret (.tup [.agg (b1b s a b).cells,(iv ((D1 s a b).2.1)),(iv ((D1 s a b).2.2))])/\τ=σ:=
 (I0 (res:=λ_:Unit=>.ret (.tup [.agg (b1b s a b).cells,(iv ((D1 s a b).2.1)),(iv ((D1 s a b).2.2))])) (P:=λ_=>True) hCC (λc h=>by simp at h;rcases h with rfl|rfl<;>exact .val _) (c5w s hs a b hb ha) (λ_ _=>B3 (cs:=[_,_,_]) ⟨j4 (cs:=[_,_,_,_]) ⟨.val _,.val _,.val _,.val _,D⟩,.val _,.val _,D⟩) σ).mono λr τ ⟨_,h1,h2,_⟩=>⟨h1,h2⟩
theorem d2J{b:UInt8}(h:(D1 s a b).2.2=0):b1b s a b={(D1 s a b).1 with at_:=(a:Nat)}:=by rw[b1b,W h]
theorem b9d(s:I)(hs:s.length<=1000000000):b8 CC 180 [(sv s)] [] λr τ=>∃x:c3N,a03 0 τ r (.ret (c5v x))/\d3t s x:=by
 refine qO Tryz.func180 ?_;refine V T7 ?_;refine qC ?_ ?_<;>intro h1
 .have am:16384<s.length:=sm_ h1;have hS:a2P s=none:=by rw[c7n,W am]
  refine c6 ?_;exact⟨_,r8 (rs:=[.tmp 2,.tmp 3,.tmp 4]) (cs:=[_,_,_]) O b2M (n_5 O),⟨([],false,0,2),by exact .ret (.tups ⟨.old (V2 _ [] false),.old (.val _),.old (.val _),D⟩),.inr ⟨hS,O,O,U⟩⟩⟩
 .refine qD (c5 O Tryz.call227 o4 (c2s s J 0 (n_4 _) _) O ?_);intro n ⟨_,hn,hnr,hnb⟩;have am:¬16384<s.length:=sm_ h1;have hS:a2P s=a5P s n:=by rw[c7n,G am,hnr]
  refine C5 hCC 0 O (α:=List Tok×Nat) (λx=>[(0,(sv s)),(2,(.list (x.1.map Tok.cv) (gnn x.1.length) (G9 x.1.length 0))),(3,iv x.2)]) (λx=>[p7 x.1.length]) (λx=>x.2<=s.length/\x.1.length<=x.2/\(∀b,s[x.2]?=some b->j8 b.toNat≠5/\j8 b.toNat≠6)/\a2P s=(a5P s x.2).map (x.1++·)) (λx=>s.length -x.2) ⟨([],n),[9],⟨hn,n_4 _,hnb,by rw[hS];simp⟩,⟨O,O⟩,ut_,uq_⟩ ?_;intro⟨acc,p⟩ ⟨hp,gF,hpb,hr⟩;dsimp only at hp gF hpb hr⊢;refine a61 ?_;refine qC ?_ ?_<;>intro h2
  .have ah:p<s.length:=sm_ h2;obtain⟨b,hb⟩:∃b,s[p]?=some b:=⟨s[p]'ah,Q⟩;obtain⟨hb5,hb6⟩:=hpb b hb;rw[c7k hb hb5 hb6]at hr;refine V (c4 O Tryz.call228 j7 (c5K s J p b hb ah _) O) ?_;refine z_1 ?_;refine qC ?_ ?_<;>intro h3
   .have he:(D1 s p b).2.2≠0:=H h3;rw[W he]at hr;refine c6 ?_;exact⟨_,r8 (rs:=[.tmp 2,.tmp 3,.tmp 4]) (cs:=[_,_,_]) O b2M (n_5 O),⟨([],false,(p:Int),(D1 s p b).2.2),by exact .ret (.tups ⟨.old (V2 _ [] false),.old (.val _),.old (.val _),D⟩),.inr ⟨hr,O,O,he⟩⟩⟩
   .have he:(D1 s p b).2.2=0:=H h3;have fa:¬(D1 s p b).2.2≠0:=λh=>h he;rw[G fa]at hr;obtain⟨q,hq,hpq,gB⟩:=a5r hb fa;have hta:=d2J he;refine V (B4 [Tok.cv (b1b s p b)] O ⟨D,D⟩ b4Z a3V t_9 O O O O O O O O O) ?_;refine qD (D6 O D D O Q q_3 b4Z a3V c2N t_9 O (.inr O) q_8 d0M G0 ((acc++[b1b s p b]).map Tok.cv) (acc++[b1b s p b]).length Q Q ?_);refine qD (c5 O Tryz.call227 j7 (by have h:=c2s s J q gB;rw[<- hq]at h;exact h _) O ?_);intro m ⟨hqm,hm,hmr,hmb⟩;exact⟨(acc++[b1b s p b],m),[2],⟨do_,hm,by dsimp only;rw[n_8,b6I];omega,hmb,by
     dsimp only;rw[hr,hq,a7d,hmr,hta,Option.map_map]
     congr 1
     funext t
     simp⟩,⟨O,O⟩,ut_,uq_⟩
  .have aH:p=s.length:=sm_ h2;rw[c5O aH]at hr;refine l9 ?_;refine V T7 ?_;refine V b9M ?_;refine V (B4 [Tok.cv ⟨5,[],0,(s.length:Int)⟩] O ⟨D,D⟩ b4Z a3V t_9 O O O O O O O O O) ?_;refine qD (D6 O D D O Q q_3 b4Z a3V c2N t_9 O (.inr O) q_8 d0M G0 ((acc++[(⟨5,[],0,(s.length:Int)⟩:Tok)]).map Tok.cv) (acc++[(⟨5,[],0,(s.length:Int)⟩:Tok)]).length Q Q ?_);refine c6 ?_;exact⟨_,r8 (rs:=[.tmp 2,.tmp 3,.tmp 4]) (cs:=[_,_,_]) O b2M (n_5 O),⟨((acc++[(⟨5,[],0,(s.length:Int)⟩:Tok)]),gnn (acc++[(⟨5,[],0,(s.length:Int)⟩:Tok)]).length,0,0),by exact .ret (.tups ⟨.tok (λr hr c hc=>(C7 (f:=Tok.cv) (λ_=>P5.all ⟨.val _,.val _,.val _,.val _,D⟩) _) r hr c hc),.old (.val _),.old (.val _),D⟩),.inl ⟨by rw[hr,aH];rfl,by rw[n_8];rfl,O,O⟩⟩⟩
theorem c4S(s:I)(hs:s.length<=1000000000)(σ:List b9):b8 CC 180 [(sv s)] σ λr τ=>∃x:c3N,r= .ret (c5v x)/\τ=σ/\d3t s x:=
 I0 (res:=λx=>.ret (c5v x)) hCC (λa h=>by simp at h;subst h;exact .val _) (b9d s hs) (λ_ _=>B3 (cs:=[_,_,_]) ⟨a3a _ _,.val _,.val _,D⟩) σ
theorem d0o(e:Int):o9 e ([]:List Ex).length = .dead:=by
 unfold o9
 split<;>rfl
theorem c3Z{e:Int}{k p:Nat}:D5 L ao (.list (([]:List Ex).map Ex.cv) (gnn ([]:List Ex).length) (tkE e ([]:List Ex).length k)) (.list (([]:List Ex).map Ex.cv) (gnn ([]:List Ex).length) (tkE e ([]:List Ex).length p)):=by
 have h:∀k,tkE e ([]:List Ex).length k=none:=λk=>by
  unfold tkE
  split<;>rfl
 rw[h,h];exact .old a21
theorem d0u{w s5:I}{m n5:Nat}{l:List I}{S:Option (List I×Nat)}(hl:l.length<=8)(hi:isT (tk T m) 1 [105,109,112,111,114,116]=true)(hS:S=a1o (9-l.length) T w m l)(p1:l.length=8->e1≠0)(p2:l.length≠8->e1=0)(q5:Ok e1 ((J3 T (m+1)).map λx=>(x.1.t,x.2)) e5 (s5,n5))
 (p3:e5≠0->e6≠0)(p4:e5=0->s5=w\/s5∈l->e6≠0)(p5:e5=0->¬(s5=w\/s5∈l)->e6=0)(q7:Ok e6 (pIs T n5 4 [59]) e7 n7):(e7=0->l.length <8/\S=a1o (9- (l++[s5]).length) T w n7 (l++[s5]))/\(e7≠0->S=none):=by
 obtain⟨f,hf⟩:∃f,9-l.length=f+1:=⟨8-l.length,J⟩;have gt:9- (l++[s5]).length=f:=by simp;omega
 rw[hf,a1o,W hi]at hS;rw[gt];have d7:e5≠0->e7≠0:=λh=>q7.2 (p3 h);by_cases h8:l.length=8
 .rw [W h8]at hS;exact⟨λh=>absurd h (d7 (q5.2 (p1 h8))),λ_=>hS⟩
 .rw [G h8]at hS;have iE:=p2 h8;subst iE
  rcases q5.zero with⟨g5,hn⟩|⟨g5,hn⟩
  .obtain ⟨x,hx,hg⟩:=M6.1 hn;injection hg with dV dN
   rw[hx,n_7,dV,dN]at hS;by_cases hm:s5=w\/s5∈l
   .rw [W hm]at hS;exact⟨λh=>absurd h (q7.2 (p4 g5 hm)),λ_=>hS⟩
   .rw [G hm]at hS;have g6:=p5 g5 hm;subst g6
    rcases q7.zero with⟨g7,hi7⟩|⟨g7,hi7⟩
    .rw [hi7,n_7]at hS;exact⟨λ_=>⟨J,hS⟩,λh=>absurd g7 h⟩
    .rw [hi7]at hS;exact⟨λh=>absurd h g7,λ_=>hS⟩
  .rw [b3M.1 hn]at hS;exact⟨λh=>absurd h (d7 g5),λ_=>hS⟩
theorem c4o{m:Nat}{ds:List De}{S:Option (List De×Nat)}{a:RD5}(hl:ds.length<=64)(hk:¬(tk T m).k=5)(hS:S=R9 (65-ds.length) T m ds)(q:Ok 0 (a0G T ds m) a.e (a.d,a.n)):(a.e=0->ds.length <64/\S=R9 (65- (ds++[a.d]).length) T a.n (ds++[a.d]))/\(a.e≠0->S=none):=by
 obtain⟨f,hf⟩:∃f,65-ds.length=f+1:=⟨64-ds.length,J⟩;have gt:65- (ds++[a.d]).length=f:=by simp;omega
 rw[hf,R9,G hk]at hS;rw[gt]
 rcases q.zero with⟨g,hd⟩|⟨g,hd⟩
 .rw [hd,n_7]at hS;have:=b2W hd;exact⟨λ_=>⟨J,hS⟩,λh=>absurd g h⟩
 .rw [hd]at hS;exact⟨λh=>absurd h g,λ_=>hS⟩
structure RI5 where
 l:List I
 m:Nat
 at_:Int
 e:Int
variable{l:List I}
structure RJ5 where
 ds:List De
 m:Nat
 at_:Int
 e:Int
 ps:List I
 b:List Ex
variable{m:Nat}{b:UInt8}{e at_:Int}{ps:List I}
theorem d1A{n1 n3 m2:Nat}{w:I}{ds:List De}{e4:Int}(q1:Ok 0 (pIs T 0 1 [112,97,99,107,97,103,101]) e1 n1)(q2:Ok e1 ((J3 T n1).map λx=>(x.1.t,x.2)) e2 (w,n2))(q3:Ok e2 (pIs T n2 4 [59]) e3 n3)(q4:Ok e3 (a1o 9 T w n3 []) e4 (l,m))(q5:Ok e4 (R9 65 T m []) e5 (ds,m2)):Ok 0 (a09 T) e5 ⟨w,l,ds⟩:=by
 refine q1.bind (q2.bindM (λp hp hg=>?_) λh=>q5.2 (q4.2 (q3.2 h)));obtain⟨t,m'⟩:=p;injection hg with dV dN
 dsimp only at dV dN⊢;subst dV dN;exact q3.bind (q4.bind (q5.bind .some))
theorem c3M(s:I)(hs:s.length<=1000000000):b8 CC 151 [(sv s)] [] λr τ=>∃x:c3l,a03 0 τ r (.ret (c3v x))/\b4q s x:=by
 refine cO Tryz.func151 ?_;refine b4j ?_;refine a5e [.dead] O ?_;refine qs 4 (qD (l8 O a4S O j1 ?_));refine qD (c5 O Tryz.call180 ⟨D,D⟩ (c4S s hs _) O ?_);rintro⟨T,nn,at_,e⟩ hP;dsimp only at hP⊢;refine qC ?_ ?_<;>intro h1
 .have he:e≠0:=H h1;have hl:a2P s=none:=by
   rcases hP with⟨_,_,_,g⟩|⟨g,_⟩
   .exact absurd g he
   .exact g
  refine c4s ?_;exact⟨_,r8 (rs:=[.cell 2 67,.tmp 3,.tmp 4]) (cs:=[_,_,_]) O d8n (n_5 O),⟨((⟨[],[],[]⟩:Src),at_,e),d3P,.inr ⟨by rw[O9,hl];rfl,O,he⟩⟩⟩
 .have he:e=0:=H h1;obtain⟨hl,rfl,rfl⟩:a2P s=some T/\nn=true/\at_=0:=by
   rcases hP with⟨g1,g2,g3,_⟩|⟨_,_,_,g⟩
   .exact ⟨g1,g2,g3⟩
   .exact absurd he g
  subst he;obtain⟨hc,h0⟩:=b0s hl;have hT:=hc.len;have hW:=hc.w;have ai:O9 s=a09 T:=by rw[O9,hl];rfl
  refine V (B2 #[(0,1),(1,1),(2,1),(3,1),(4,1),(5,1),(6,1)] O ⟨D,D⟩ b7j Tryz.zeroValue228 O ⟨_,O⟩ (λw=>by kernel_rfl) O O) ?_;refine qD (F1 O D j3 j1 ?_);refine a5e [o9 0 ([]:List Ex).length,.box [(sv ([])),.list (([]:List I).map scv) (gnn ([]:List I).length) none,.list (([]:List De).map De.cv) (gnn ([]:List De).length) none],rbx T 0 0 0 [] [] 0] O ?_;refine N9 (α:=Nat×Int×Int) (λ_=>[(2,.ptr 1 0),(6,.ptr 2 0)]) (λa=>[o9 a.2.2 ([]:List Ex).length,.box [(sv ([])),.list (([]:List I).map scv) (gnn ([]:List I).length) none,.list (([]:List De).map De.cv) (gnn ([]:List De).length) none],rbx T a.1 a.2.1 a.2.2 [] [] 0]) (λa=>Ok 0 (pIs T 0 1 [112,97,99,107,97,103,101]) a.2.2 a.1/\a.1 <T.length) ?_ ?_
  .
   refine qk (qD (c5 O a9m o4 (Z4 hT h0 hW [112,97,99,107,97,103,101] (q:=2) (s:=0) ⟨O,O,U⟩) O ?_));rintro⟨v9,m9⟩ ⟨eN,gv,iJ,eP⟩;dsimp only at eN gv iJ eP⊢;refine qN [o9 0 ([]:List Ex).length,.box [(sv ([])),.list (([]:List I).map scv) (gnn ([]:List I).length) none,.list (([]:List De).map De.cv) (gnn ([]:List De).length) none],rbx T m9 0 0 [] [] 0] O (qC ?_ ?_)<;> intro h2
   .have hw:v9=false:=H h2;refine V (c4 O a7Y ⟨D,D⟩ (a0t hT eP (q:=2) (s:=0) ⟨O,O,U⟩) O) ?_;refine d5n ?_;rintro⟨x0,y0⟩ bC;dsimp only at bC⊢;refine qN [o9 y0 ([]:List Ex).length,.box [(sv ([])),.list (([]:List I).map scv) (gnn ([]:List I).length) none,.list (([]:List De).map De.cv) (gnn ([]:List De).length) none],rbx T m9 x0 y0 [] [] 0] O ?_;exact⟨(m9,x0,y0),⟨a9Y (eN.symm.trans hw) bC,eP⟩,tu_,O⟩
   .have hw:v9=true:=H h2;exact⟨(m9,0,0),⟨by dsimp only;rw[gv hw];exact a9I (eN.symm.trans hw),eP⟩,tu_,O⟩
  .rintro ⟨n1,a1,e1⟩ E1 ⟨q1,y1⟩;dsimp only at q1 y1⊢;refine qk (qD (c5 O d0E ⟨D,D⟩ (a7E hT y1 hW (q:=2) (s:=0) ⟨O,O,U⟩) O ?_));rintro⟨w,n2,a2,e2⟩ ⟨q2,y2⟩;dsimp only at q2 y2⊢;refine qN [o9 e2 ([]:List Ex).length,.box [(sv ([])),.list (([]:List I).map scv) (gnn ([]:List I).length) none,.list (([]:List De).map De.cv) (gnn ([]:List De).length) none],rbx T n2 a2 e2 [] [] 0] O (qD (i9 O D D O j3 t_0 (.inl O) O O (nb O) ?_));refine qD (c5 O a4c o4 (N7 hT y2 hW [59] (q:=2) (s:=0) ⟨O,O,U⟩) O ?_);rintro⟨n3,a3,e3⟩ ⟨q3,y3⟩;dsimp only at q3 y3⊢;refine qN [o9 e3 ([]:List Ex).length,.box [(sv w),.list (([]:List I).map scv) (gnn ([]:List I).length) none,.list (([]:List De).map De.cv) (gnn ([]:List De).length) none],rbx T n3 a3 e3 [] [] 0] O ?_;refine C5 hCC 3 O (α:=RI5) (λ_=>[(2,.ptr 1 0),(6,.ptr 2 0)]) (λa=>[o9 a.e ([]:List Ex).length,.box [(sv w),.list (a.l.map scv) (gnn a.l.length) (G9 a.l.length 3),.list (([]:List De).map De.cv) (gnn ([]:List De).length) none],rbx T a.m a.at_ a.e [] [] 0,p7 a.l.length]) (λa=>(a.e=0->e3=0/\a1o 9 T w n3 []=a1o (9-a.l.length) T w a.m a.l/\a.l.length<=8)/\(a.e≠0->e3=0->a1o 9 T w n3 []=none)/\a.m <T.length/\a.l.length<=9) (λa=>if a.e=0 then 10-a.l.length else 0) ⟨⟨[],n3,a3,e3⟩,[0,1,2,9],⟨λh=>⟨h,O,n_4 _⟩,λh h'=>absurd h' h,y3,n_4 _⟩,⟨O,O⟩,ut_,⟨.inr ⟨_,O,.same O V5⟩,.inr ⟨_,O,.box ⟨.old (.val _),.old a2u,.old (K9 _ [] _),D⟩⟩,.inr ⟨_,O,.same O a8S⟩,.inl O,D⟩⟩ ?_;intro⟨l,m,a5,e⟩ ⟨hI,hN,hm,hl9⟩;dsimp only at hI hN hm hl9⊢;refine qs 1 (qG D2 ?_);refine qG e0B ?_;refine qG c23 ?_;refine a2g ?_;refine qG D2 ?_;refine qG e0B ?_;refine qG c7f ?_;refine qG b29 ?_;refine V S6 ?_;refine qC ?_ ?_<;>intro h3
   .have hc3:e=0/\isT (tk T m) 1 [105,109,112,111,114,116]=true:=by simpa[isT,and_assoc]using h3
    obtain⟨rfl,hi⟩:=hc3;obtain⟨he3,hS,hl8⟩:=hI O;have dz:=hW m hm (a6o hi U);refine N9 (α:=Int×Int) (λ_=>[(2,.ptr 1 0),(6,.ptr 2 0)]) (λa=>[o9 a.2 ([]:List Ex).length,.box [(sv w),.list (l.map scv) (gnn l.length) (G9 l.length 3),.list (([]:List De).map De.cv) (gnn ([]:List De).length) none],rbx T m a.1 a.2 [] [] 0,p7 l.length]) (λa=>(l.length=8->a.2≠0)/\(l.length≠8->a.2=0)) ?_ ?_
    .
     refine qk (V K6 ?_);refine qC ?_ ?_<;>intro h4
     .have h8:l.length=8:=sm_ h4;refine V (c4 O a7Y ⟨D,D⟩ (a0t hT hm (q:=2) (s:=0) ⟨O,O,U⟩) O) ?_;refine d5n ?_;rintro⟨x0,y0⟩ bC;dsimp only at bC⊢;refine qN [o9 y0 ([]:List Ex).length,.box [(sv w),.list (l.map scv) (gnn l.length) (G9 l.length 3),.list (([]:List De).map De.cv) (gnn ([]:List De).length) none],rbx T m x0 y0 [] [] 0,p7 l.length] O ?_;exact⟨(x0,y0),⟨λ_=>bC,λh=>absurd h8 h⟩,tu_,O⟩
     .have h8:¬l.length=8:=sm_ h4;exact⟨(a5,0),⟨λh=>absurd h h8,λ_=>O⟩,tu_,O⟩
    .rintro ⟨a6,e6⟩ E2 ⟨p1,p2⟩;dsimp only at p1 p2⊢;refine qs 3 ?_;refine z_4 ?_;refine V (c4 O a7Y ⟨D,D⟩ (a0t hT dz (q:=2) (s:=0) ⟨O,O,U⟩) O) ?_;refine V a37 ?_;refine qD (c5 O d0E ⟨D,D⟩ (a7E hT dz hW (q:=2) (s:=0) ⟨O,O,U⟩) O ?_);rintro⟨s5,n5,a7,e7⟩ ⟨q5,y5⟩;dsimp only at q5 y5⊢;have eJ:=X5 l s5;refine qN [o9 e7 ([]:List Ex).length,.box [(sv w),.list (l.map scv) (gnn l.length) (G9 l.length 3),.list (([]:List De).map De.cv) (gnn ([]:List De).length) none],rbx T n5 a7 e7 [] [] 0,p7 l.length] O ?_;refine N9 (α:=Int×Int) (λ_=>[(2,.ptr 1 0),(6,.ptr 2 0),(8,(sv s5))]) (λa=>[o9 a.2 ([]:List Ex).length,.box [(sv w),.list (l.map scv) (gnn l.length) (G9 l.length 3),.list (([]:List De).map De.cv) (gnn ([]:List De).length) none],rbx T n5 a.1 a.2 [] [] 0,p7 l.length]) (λa=>(e7≠0->a.2≠0)/\(e7=0->s5=w\/s5∈l->a.2≠0)/\(e7=0->¬(s5=w\/s5∈l)->a.2=0)) ?_ ?_
     .
      refine qk (qG D2 ?_);refine d4J ?_;refine qG b2v ?_;refine qG a84 ?_;refine qH O O (λhk hg=>j2 O D O a79 O a2E U) ?_;refine qH O O (λhk hg=>o5 O ⟨hk,hg⟩ O b7J O O) ?_;refine qH O O (λhk hg=>a1j O D j3) ?_;refine qH O O (λhk hg=>c4 O b8D ⟨⟨hk,hg⟩,⟨hk,hg⟩,D⟩ (a7k l (gnn l.length) s5 J _) O) ?_;refine qG (λhg=>a8F O hg O (λhp=>⟨hg,hp⟩) W9) ?_;refine V S6 ?_;refine qC ?_ ?_<;>intro h5
      .have hc5:e7=0/\(s5=w\/s5∈l):=H h5;refine qD (c5 O b1y a2j (a0s _ _ U (q:=2) (s:=0) ⟨O,O,U⟩) O ?_);rintro⟨x0,y0⟩ bC;dsimp only at bC⊢;refine qN [o9 y0 ([]:List Ex).length,.box [(sv w),.list (l.map scv) (gnn l.length) (G9 l.length 3),.list (([]:List De).map De.cv) (gnn ([]:List De).length) none],rbx T n5 x0 y0 [] [] 0,p7 l.length] O ?_;exact⟨(x0,y0),⟨λ_=>bC,λ_ _=>bC,λ_ h=>absurd hc5.2 h⟩,tu_,O⟩
      .have hc5:¬(e7=0/\(s5=w\/s5∈l)):=λh=>by rcases h with⟨h,h'|h'⟩<;>simp[h,h']at h5
       exact⟨(a7,e7),⟨id,λh h'=>absurd ⟨h,h'⟩ hc5,λh _=>h⟩,tu_,O⟩
     .rintro ⟨a8,e8⟩ E3 ⟨p3,p4,p5⟩;dsimp only at p3 p4 p5⊢;refine qk (qD (c5 O a4c o4 (N7 hT y5 hW [59] (q:=2) (s:=0) ⟨O,O,U⟩) O ?_));rintro⟨n9,a9,e9⟩ ⟨q9,y9⟩;dsimp only at q9 y9⊢;have aP:=d0u hl8 hi hS p1 p2 q5 p3 p4 p5 q9;refine qN [o9 e9 ([]:List Ex).length,.box [(sv w),.list (l.map scv) (gnn l.length) (G9 l.length 3),.list (([]:List De).map De.cv) (gnn ([]:List De).length) none],rbx T n9 a9 e9 [] [] 0,p7 l.length] O (V (B4 [scv s5] O ⟨D,D⟩ t_2 t_0 t_4 O O O O O O O O O) ?_);refine qD (D6 O D D O Q q_3 t_2 t_0 a5W t_4 O (.inr O) q_8 a5O G0 ((l++[s5]).map scv) (l++[s5]).length Q Q ?_);refine qD (i9 O D D O j3 a2E (.inl O) O O (nb O) ?_);exact⟨⟨l++[s5],n9,a9,e9⟩,[0,1,2,4],⟨by
       dsimp only;rw[W O]
       split<;>omega,λh=>⟨he3,(aP.1 h).2,by have:=(aP.1 h).1;dsimp only;omega⟩,λh _=>aP.2 h,y9,do_⟩,⟨O,O⟩,ut_,⟨.inr ⟨_,O,.same O V5⟩,.inr ⟨_,O,.box ⟨.old (.val _),D5.grow (f:=scv) (λ_=>⟨.val _,D⟩) O,.old (K9 _ [] _),D⟩⟩,.inr ⟨_,O,.same O a8S⟩,.inr ⟨_,O,.same O F0⟩,D⟩⟩
   .have hc3:e=0->isT (tk T m) 1 [105,109,112,111,114,116]=false:=λh0=>by
     by_cases hi:isT (tk T m) 1 [105,109,112,111,114,116]=true
     .have:=P9 hi;simp[h0,this.1,this.2]at h3
     .simpa using hi
    have q4:Ok e3 (a1o 9 T w n3 []) e (l,m):=Ok.of (λh=>by
     obtain⟨g3,hS,hl8⟩:=hI h;obtain⟨f,hf⟩:∃f,9-l.length=f+1:=⟨8-l.length,J⟩;exact⟨g3,hS.trans (by rw[hf,a1o,G (by rw[hc3 h];decide)])⟩) hN
    refine l9 ?_;refine C5 hCC 4 O (α:=RJ5) (λ_=>[(2,.ptr 1 0),(6,.ptr 2 0)]) (λa=>[.dead,.box [(sv w),.list (l.map scv) (gnn l.length) none,.list (a.ds.map De.cv) (gnn a.ds.length) (G9 a.ds.length 4)],rbx T a.m a.at_ a.e a.ps a.b 5,.dead,p7 a.ds.length,o9 a.e a.b.length]) (λa=>(a.e=0->e=0/\R9 65 T m []=R9 (65-a.ds.length) T a.m a.ds/\a.ds.length<=64)/\(a.e≠0->e=0->R9 65 T m []=none)/\a.m <T.length/\a.ds.length<=65) (λa=>if a.e=0 then T.length -a.m+1 else 0) ⟨⟨[],m,a5,e,[],[]⟩,[0,1,2,3,9,10],⟨λh=>⟨h,O,n_4 _⟩,λh h'=>absurd h' h,hm,n_4 _⟩,⟨O,O⟩,ut_,⟨.inl O,.inr ⟨_,O,.box ⟨.old (.val _),Z3 (f:=scv) (λ_=>⟨.val _,D⟩) _,.old (K9 _ [] _),D⟩⟩,.inr ⟨_,O,.box ⟨.old a1c,.old (.val _),.old (.val _),.old (.val _),.old M8,c3Z,.old a21,D⟩⟩,.inl O,.inl O,.inl (d0o _),D⟩⟩ ?_;intro⟨ds,m2,a6,e5,ps,b⟩ ⟨hI2,hN2,ce,cm⟩;dsimp only at hI2 hN2 ce cm⊢;refine qk (qG D2 ?_);refine qG (λhg=>c4 O a7Y ⟨hg,D⟩ (a0t hT ce (q:=2) (s:=5) ⟨O,O,U⟩) O) ?_;refine qG c23 ?_;refine a2g ?_;refine qC ?_ ?_<;>intro h6
    .have hc6:e5=0/\¬(tk T m2).k=5:=H h6;obtain⟨rfl,hk⟩:=hc6;obtain⟨he,hS,hd64⟩:=hI2 O;refine cF [] [0,1,2,3] (tl:=[(4,[0,1]),(5,[0,1]),(6,[]),(7,[]),(8,[])]) ?_;refine chf O c2g ?_;refine chf O c6y ?_;refine chf O U7 ?_;refine chf O c87 ?_;refine G4 ?_;refine B9 O O O (c5 O Tryz.call187 j7 (d1u hc w l ds hd64 ce (q:=2) (s:=5) ⟨O,O,U⟩) O ?_);rintro⟨d,m1,a7,e7,ps7,b7⟩ ⟨k7,y7,w7,z7⟩;dsimp only at k7 y7 w7 z7⊢;have eJ:=X5 ds d;have da:(if e7=0 then T.length -m1+1 else 0)< (if(0:Int)=0 then T.length -m2+1 else 0):=by
      rw[W O]
      split
      .rename_i h0;have:=z7 h0;omega
      .omega
     have aP:=c4o (a:=⟨d,m1,a7,e7,ps7,b7⟩) hd64 hk hS k7;refine a69 [.dead,.box [(sv w),.list (l.map scv) (gnn l.length) none,.list (ds.map De.cv) (gnn ds.length) (G9 ds.length 4)],rbx T m1 a7 e7 ps7 b7 6,.dead,p7 ds.length,.dead,o9 e7 b7.length] O ?_;refine d6k ?_;refine B9 O O O (D6 O D D O Q q_3 a9h a5M Tryz.typeInfo119 b2l O (.inr O) q_8 (by have hb:Tryz.t119.bytes=72:=O;rw[hb];first|omega|(simp;done)|(simp;omega)) G0 ((ds++[d]).map De.cv) (ds++[d]).length Q Q ?_);refine⟨D,?_⟩;refine d4U ?_;refine a8r ?_;exact⟨⟨ds++[d],m1,a7,e7,ps7,b7⟩,[0,1,2,3,7,6],⟨da,λh=>⟨he,(aP.1 h).2,by have:=(aP.1 h).1;dsimp only;omega⟩,λh _=>aP.2 h,y7,do_⟩,⟨O,O⟩,ut_,⟨.inl O,.inr ⟨_,O,.box ⟨.old (.val _),.old M8,D5.grow (f:=De.cv) (λ_=>⟨.val _,.val _,B8 _ _ _,O4 _ _ _,D⟩) O,D⟩⟩,.inr ⟨_,O,.box ⟨.old a1c,.old (.val _),.old (.val _),.old (.val _),.old M8,a0d O,.old a21,D⟩⟩,.inl O,.inr ⟨_,O,.same O F0⟩,.inr ⟨_,O,.same O V5⟩,D⟩⟩
    .have q5:Ok e (R9 65 T m []) e5 (ds,m2):=Ok.of (λh=>by
      obtain⟨g3,hS,hd64⟩:=hI2 h;have hk:(tk T m2).k=5:=by
       by_cases hk:(tk T m2).k=5
       .exact hk
       .simp [h,hk]at h6
      obtain⟨f,hf⟩:∃f,65-ds.length=f+1:=⟨64-ds.length,J⟩;exact⟨g3,hS.trans (by rw[hf,R9,W hk])⟩) hN2
     have hfile:=(d1A q1 q2 q3 q4 q5).zero;refine l9 ?_;refine qC ?_ ?_<;>intro h7
     .have he5:e5≠0:=H h7;refine cF [] [0,1,2,3,4,5,6,7,8] (tl:=[(9,[1,2,3,4,5,6,7,8]),(10,[5,6,7,8]),(11,[])]) ?_;refine chf O d7F ?_;refine b3u ?_;refine chf O (c7 O c92) ?_;refine chf O c1w ?_;refine b3u ?_;refine chf O (c7 O b8R) ?_;refine chf O c9Z ?_;refine d2K ?_;refine⟨⟨G3,a82,(by exact c7 O c92),c2D,G3,a82,(by exact c7 O b8R),b2D,D⟩,?_⟩;refine E8 O O a9f ⟨⟨G3,a82,(by exact c7 O b8R),b2D,D⟩,?_⟩;refine b3J ?_;exact⟨_,r8 (rs:=[.cell 2 67,.tmp 3,.tmp 4]) (cs:=[_,_,_]) O d8n (n_5 O),⟨((⟨[],[],[]⟩:Src),a6,e5),d3P,.inr ⟨by rw[ai];exact(hfile.resolve_left λh=>he5 h.1).2,O,he5⟩⟩⟩
     .have he5:e5=0:=H h7;refine c4s ?_;exact⟨_,r8 (rs:=[.cell 2 67,.tmp 3,.tmp 4]) (cs:=[_,_,_]) O d8n (n_5 O),⟨(⟨w,l,ds⟩,0,0),(by exact .ret (.tups ⟨.aggs ⟨.old (.val _),.old M8,.tok (C7 (f:=De.cv) (λa=>(De.pure a).all) _),D⟩,.old (.val _),.old (.val _),D⟩)),.inl ⟨by rw[ai];exact(hfile.resolve_right λh=>h.1 he5).2,O,O⟩⟩⟩
theorem c6j(s:I)(hs:s.length<=1000000000)(σ:List b9):b8 CC 151 [(sv s)] σ λr τ=>∃x:c3l,r= .ret (c3v x)/\τ=σ/\b4q s x:=
 I0 (res:=λx=>.ret (c3v x)) hCC (λc hc=>by simp at hc;subst hc;exact .val _) (c3M s hs) (λx _=>B3 ⟨j4 x.1.pure,.val _,.val _,D⟩) σ
def a9i(p b:I):Option Src:=if a38 p=true then O9 b else none
def a6t(l:List Fi)(p:I):Option Src:=(if B1 l=0 then o8 l p else none).bind (a9i p)
def z6(l:List Fi):List (I×Src):=l.filterMap λf=>(a9i f.p f.b).map λs=>(f.p,s)
theorem b8T{l:List Fi}(h:l[i]?=some y):z6 (l.drop i)=(match a9i y.p y.b with|none=>[]|some s=>[(y.p,s)])++z6 (l.drop (i+1)):=by
 obtain⟨ah,rfl⟩:=n_3.1 h;rw[U5 ah];unfold z6;rw[List.filterMap_cons];cases a9i l[i].p l[i].b<;>rfl
abbrev Y4(P:List I)(S:List Src):List CV:=[.list (P.map scv) (gnn P.length) none,.list (S.map Src.cv) (gnn S.length) none]
def b3p(l:List Fi):List I:=if B1 l=0 then(z6 l).map Prod.fst else []
def b3o(l:List Fi):List Src:=if B1 l=0 then(z6 l).map Prod.snd else []
theorem a5t(l:List Src)(nn:Bool):r9 (.list (l.map Src.cv) nn none):=M4 (f:=Src.cv) (λa=>(Src.pure a)) l nn
theorem a0u(n:Nat)(l:List Src)(nn:Bool):Old n (.list (l.map Src.cv) nn none):=(a5t l nn).old
theorem b7Y(l:List Fi)(nn:Bool)(p:I)(hl:l.length<=1000000)(hp:p.length<=1000000000)(hb:∀q b,o8 l q=some b->b.length<=1000000000)(σ:List b9):b8 CC 99 [.agg (A9 l nn),(sv p)] σ λr aa=>r= .ret (.tup [.agg ((a6t l p).getD Src.z).cells,.val (.bool (a6t l p).isSome)])/\aa=σ:=by
 refine b8.anyw hCC (by repeat' (first|exact .val _|exact B6 _ _|exact Src.pure _|exact D|refine j4 ?_|refine B3 ?_|refine⟨?_,?_⟩)) (by repeat' (first|exact .val _|exact B6 _ _|exact Src.pure _|exact D|refine j4 ?_|refine B3 ?_|refine⟨?_,?_⟩)) ?_ σ;refine c9 (qO Tryz.func99 ?_);refine qD (F1 O D j3 j1 ?_);refine qD (l8 O a4S O j1 ?_);refine V (c4 O c6z j7 (a8p l nn p hl _) O) ?_;refine qG D2 ?_;refine qG (λhg=>c4 O Tryz.call24 ⟨hg,D⟩ (b10 p hp _) O) ?_;refine b8F ?_;refine qC ?_ ?_<;>intro h1
 .have h0:a6t l p=none:=by
   unfold a6t a9i;cases hz:(if B1 l=0 then o8 l p else none)with
   |none=>rfl
   |some b=>
    rw[hz]at h1;simp at h1;simp[h1]
  refine V d9Y ?_;refine c4s ?_;exact⟨_,r8 (rs:=[.cell 4 67,.tmp 5]) (cs:=[_,_]) O d3o (n_5 O),_,_,O,O,(by rw[h0];exact .tups ⟨.old (j4 (Src.pure Src.z)).old,.old (.val _),D⟩)⟩
 .obtain ⟨b,hz,hs⟩:∃b,(if B1 l=0 then o8 l p else none)=some b/\a38 p=true:=by
   cases hz:(if B1 l=0 then o8 l p else none)with
   |none=>rw[hz]at h1;simp at h1
   |some b=>rw[hz]at h1;simp at h1;exact⟨b,O,h1⟩
  have h0:a6t l p=O9 b:=by rw[a6t,hz,n_7,a9i,W hs]
  refine qD (c5 O Tryz.call151 ⟨D,D⟩ (c6j _ (by
   cases hd:o8 l p with
   |none=>split<;>simp
   |some b=>have:=hb p b hd;split<;>simp<;>omega) _) O ?_)
  rintro⟨x,at_,e⟩ hP;dsimp only at hP⊢;rw[hz]at hP;have hx:((a6t l p).getD Src.z)=x/\(a6t l p).isSome=decide (e=0):=by
   rw[h0]
   rcases hP with⟨g1,_,g3⟩|⟨g1,g2,g3⟩
   .replace g1:O9 b=some x:=g1;rw[g1];exact⟨O,(a2h g3).symm⟩
   .replace g1:O9 b=none:=g1;rw[g1];exact⟨g2.symm,(a2c g3).symm⟩
  refine c4t ?_;refine c4s ?_;exact⟨_,r8 (rs:=[.cell 4 67,.tmp 5]) (cs:=[_,_]) O d3o (n_5 O),_,_,O,O,(by rw[hx.1,hx.2];exact .tups ⟨.old (j4 (Src.pure x)).old,.old (.val _),D⟩)⟩
theorem c8w{l:List Fi}(h:B1 l=0):l.length<=64:=by
 unfold B1 at h;split at h
 .cases h
 .omega
theorem c7W(l:List Fi)(nn:Bool)(hl:l.length<=1000000)(hp:∀f∈l,f.p.length<=1000000000)(hbl:∀q b,o8 l q=some b->b.length<=1000000000)(hd:B1 l=0->∀f∈l,o8 l f.p=some f.b):b8 CC 55 [.agg (A9 l nn)] [] λr τ=>∃_:Unit,a03 0 τ r (.ret (.agg (Y4 (b3p l) (b3o l))))/\True:=by
 refine qO Tryz.func55 ?_;refine qD (F1 O D j3 j1 ?_);refine qD (l8 O c8A O j1 ?_);refine qD (l8 O c8A O j1 ?_);refine V c98 ?_;refine qC ?_ ?_<;>intro h1
 .have h0:¬B1 l=0:=H h1;refine d4L ?_;exact⟨_,C4 O ⟨D,_,_,_,O,O,.inr ⟨_,c9X,b5u,nb O,O⟩⟩,⟨(),by rw[b3p,b3o,G h0,G h0];exact .ret (.old (j4 (cs:=[.list [] false none,.list [] false none]) ⟨o6 [] false,o6 [] false,D⟩).old),D⟩⟩
 .have h0:B1 l=0:=H h1;have gK:=c8w h0;refine V a2r ?_;refine C5 hCC 3 O (α:=Nat×List I×List Src) (λa=>[(1,.ptr 0 0),(2,.ptr 1 0),(3,.ptr 2 0),(13,(.list (l.map Fi.cv) nn none)),(14,iv l.length),(15,iv a.1)]) (λa=>[.box (A9 l nn),.box [.list [] false none,.list [] false none],.box [.list (a.2.1.map scv) (gnn a.2.1.length) (G9 a.2.1.length 3),.list (a.2.2.map Src.cv) (gnn a.2.2.length) (G9 a.2.2.length 4)],p7 a.2.1.length,p7 a.2.2.length]) (λa=>a.1<=l.length/\a.2.1.length<=a.1/\a.2.2.length<=a.1/\(z6 l).map Prod.fst=a.2.1++(z6 (l.drop a.1)).map Prod.fst/\(z6 l).map Prod.snd=a.2.2++(z6 (l.drop a.1)).map Prod.snd) (λa=>l.length -a.1) ⟨(0,[],[]),[0,1,2,9,10],⟨n_4 _,n_6 _,n_6 _,O,O⟩,⟨O,O⟩,ut_,⟨.inr ⟨_,O,.box ⟨.old a0A,D⟩⟩,.inr ⟨_,O,.box ⟨.old a2u,.old a2u,D⟩⟩,.inr ⟨_,O,.box ⟨.old a2u,.old a2u,D⟩⟩,.inl O,.inl O,D⟩⟩ ?_;intro⟨i,P,Ji⟩ ⟨hi,bf,hql,hr,hq⟩;dsimp only at hi bf hql hr hq⊢;refine qk (qC ?_ ?_)<;> intro h2
  .have ah:(i:Int)<l.length:=H h2;obtain⟨y,hb⟩:=gx_ l i;have hyd:=hd h0 y (n_2 hb);have hsy:a6t l y.p=a9i y.p y.b:=by rw[a6t,W h0,hyd];rfl
   rw[b8T hb]at hr hq;refine c3D ?_;refine V (c4 O Tryz.call99 j7 (b7Y l nn y.p hl (hp y (n_2 hb)) hbl _) O) ?_;refine c4t ?_;refine qC ?_ ?_<;>intro h3
   .obtain ⟨s,hs⟩:∃s,a9i y.p y.b=some s:=c0C.1 (by rw[<- hsy];exact h3);have hsd:(a6t l y.p).getD Src.z=s:=by rw[hsy,hs];rfl
    rw[hs]at hr hq;replace hr:(z6 l).map Prod.fst=P++(y.p::(z6 (l.drop (i+1))).map Prod.fst):=hr;replace hq:(z6 l).map Prod.snd=Ji++(s::(z6 (l.drop (i+1))).map Prod.snd):=hq;rw[<- hsd]at hq;refine cF [11] [0,1,2,3,4,6,7,8,9] (tl:=[(5,[5,6,7,8]),(11,[5,6,7,8]),(10,[]),(12,[]),(13,[]),(14,[])]) ?_;refine chf O (c7 O b0g) ?_;refine chf O c7R ?_;refine b7o ?_;refine chf O d9O ?_;refine chf O c7V ?_;refine chf O (c7 O c2Q) ?_;refine chf O c87 ?_;refine chf O (c7 O d8Q) ?_;refine G4 ?_;refine B9 O O O (D6 O D D O Q q_3 t_2 t_0 a5W t_4 O (.inr O) q_8 a5O G0 ((P++[y.p]).map scv) (P++[y.p]).length Q Q ?_);refine⟨⟨(by exact c7 O (j2 O D O c2b O c26 U)),(by exact c7 O c2Q),(by exact c7 O b7K),(by exact c7 O d8Q),D⟩,?_⟩;refine b1f O O (λ_=>c7 O b0g) ?_;refine B9 O O O (D6 O D D O Q q_3 b7U t_8 Tryz.typeInfo67 a4S O (.inr O) q_8 (by have hb:Tryz.t67.bytes=64:=O;rw[hb];first|omega|(simp;done)|(simp;omega)) G0 ((Ji++[(a6t l y.p).getD Src.z]).map Src.cv) (Ji++[(a6t l y.p).getD Src.z]).length Q Q ?_);refine⟨D,?_⟩;refine B9 O O O (i9 O D D O j3 a2E (.inl O) O O (nb O) ?_);refine⟨D,?_⟩;refine E8 O O c7V ⟨D,?_⟩;refine B9 O O O (i9 O D D O j3 c26 (.inl O) O O (nb O) ?_);refine a8r ?_;refine V r6 ?_;exact⟨(i+1,P++[y.p],Ji++[(a6t l y.p).getD Src.z]),[0,1,2,7,8],⟨do_,do_,by dsimp only;simp;omega,by dsimp only;simp;omega,by dsimp only;rw[hr,H4];rfl,by dsimp only;rw[hq,H4];rfl⟩,⟨O,O⟩,ut_,⟨.inr ⟨_,O,.box ⟨.old a0A,D⟩⟩,.inr ⟨_,O,.box ⟨.old a2u,.old a2u,D⟩⟩,.inr ⟨_,O,.box ⟨D5.grow (f:=scv) (λ_=>⟨.val _,D⟩) O,D5.grow (f:=Src.cv) (λ_=>⟨.val _,B8 _ _ _,K9 _ _ _,D⟩) O,D⟩⟩,.inr ⟨_,O,.same O F0⟩,.inr ⟨_,O,.same O F0⟩,D⟩⟩
   .have hs:a9i y.p y.b=none:=by rw[<- hsy];simpa using h3
    rw[hs]at hr hq;rw[b4Y]at hr hq;refine V r6 ?_;exact⟨(i+1,P,Ji),[0,1,2,3,4],⟨do_,do_,do_,do_,hr,hq⟩,⟨O,O⟩,ut_,⟨.inr ⟨_,O,.box ⟨.old a0A,D⟩⟩,.inr ⟨_,O,.box ⟨.old a2u,.old a2u,D⟩⟩,.inr ⟨_,O,.box ⟨D5.grow (f:=scv) (λ_=>⟨.val _,D⟩) O,D5.grow (f:=Src.cv) (λ_=>⟨.val _,B8 _ _ _,K9 _ _ _,D⟩) O,D⟩⟩,.inr ⟨_,O,.same O F0⟩,.inr ⟨_,O,.same O F0⟩,D⟩⟩
  .have aH:l.length<=i:=sm_ h2;rw[U4 aH]at hr hq;replace hr:(z6 l).map Prod.fst=P:=by rw[hr];exact a1f _
   replace hq:(z6 l).map Prod.snd=Ji:=by rw[hq];exact a1f _
   refine l9 ?_;refine d4L ?_;exact⟨_,C4 O ⟨D,_,_,_,O,O,.inr ⟨_,c9X,b5u,nb O,O⟩⟩,⟨(),by rw[b3p,b3o,W h0,W h0,hr,hq];exact .ret (.aggs ⟨.tok (C7 (f:=scv) (λ_=>P5.all ⟨.val _,D⟩) _),.tok (C7 (f:=Src.cv) (λa=>(Src.pure a).all) _),D⟩),D⟩⟩
theorem d1R(l:List Fi)(nn:Bool)(hl:l.length<=1000000)(hp:∀f∈l,f.p.length<=1000000000)(hbl:∀q b,o8 l q=some b->b.length<=1000000000)(hd:B1 l=0->∀f∈l,o8 l f.p=some f.b)(σ:List b9):b8 CC 55 [.agg (A9 l nn)] σ λr τ=>r= .ret (.agg (Y4 (b3p l) (b3o l)))/\τ=σ:=
 (I0 (α:=Unit) (res:=λ_=>.ret (.agg (Y4 (b3p l) (b3o l)))) hCC (λc h=>by simp at h;subst h;exact j4 ⟨B6 _ _,D⟩) (c7W l nn hl hp hbl hd) (λ_ _=>j4 ⟨o6 _ _,a5t _ _,D⟩) σ).mono λ_ _ ⟨_,h1,h2,_⟩=>⟨h1,h2⟩
theorem b4S(h:n<10):Lib.decDigits n=[UInt8.ofNat (48+n)]:=by rw[Lib.decDigits,dif_pos h]
theorem d6y(h:¬n<10):Lib.decDigits n=Lib.decDigits (n / 10)++Lib.decDigits (n%10):=by rw[Lib.decDigits,dif_neg h,b4S (a4L _ J)]
theorem a47:∀(m n:Nat),n<10^(m+1)->(Lib.decDigits n).length<=m+1
 |0,n,h=>by rw[b4S J];simp
 |m+1,n,h=>by
  by_cases h9:n<10
  .rw [b4S h9];simp
  .have:=a47 m (n / 10) (by rw[Nat.pow_succ]at h;omega);rw[Lib.decDigits,dif_neg h9,n_8];simp;omega
theorem e1c:∀n:Nat,n<10->(([48,49,50,51,52,53,54,55,56,57]:I).take (n+1)).drop n=[UInt8.ofNat (48+n)]:=by decide
theorem a6T(h:b8 CC 148 [(.val (.int .u64 ((n:Int))))] [] λr aa=>r= .ret (sv (Lib.decDigits n))/\aa=[])(σ:List b9):b8 CC 148 [(.val (.int .u64 ((n:Int))))] σ λr aa=>r= .ret (sv (Lib.decDigits n))/\aa=σ:=
 b8.anyw hCC pu_ pu_ h σ
theorem a8T(n:Nat)(hn:n<=9223372036854775807)(σ:List b9):b8 CC 148 [(.val (.int .u64 ((n:Int))))] σ λr aa=>r= .ret (sv (Lib.decDigits n))/\aa=σ:=by
 refine b8.anyw hCC pu_ pu_ ?_ σ
 induction n using Nat.strongRecOn
 rename_i n ih;refine c9 (qO Tryz.func148 ?_);refine qC ?_ ?_<;>intro h1
 .have hn9:n<10:=sm_ h1;have e0:IntKind.u64.wrap ((n:Int)+1)=((n+1:Nat):Int):=b3y (n:=n+1) J;refine V a1s ?_;refine V q_4 ?_;refine c6 ?_;exact⟨_,rE1,_,_,O,O,I2 (by rw[b4S hn9];exact D9 str (e1c n hn9))⟩
 .have hn9:¬n<10:=sm_ h1;have hd:Int.tdiv (n:Int) 10=((n / 10:Nat):Int):=by rfl
  have hm:Int.tmod (n:Int) 10=((n%10:Nat):Int):=by rfl
  have g1:=a47 18 (n / 10) J;have g2:=a47 18 (n%10) J;have e1:IntKind.u64.wrap ((n:Int).tdiv 10)=((n / 10:Nat):Int):=by rw[hd];exact b3y J
  have e2:(n:Int).tmod 10=((n%10:Nat):Int):=by exact hm
  refine V (T9 O D O O O (O)) ?_;refine V (c4 O c2u ⟨D,D⟩ (by have h:=a6T (ih (n / 10) J J) [];rw[<- e1]at h;exact h) O) ?_;refine V (T9 O D O O O (O)) ?_;refine V (c4 O c2u ⟨D,D⟩ (by have h:=a6T (ih (n%10) J J) [];rw[<- e2]at h;exact h) O) ?_;refine V a1V ?_;refine c6 ?_;exact⟨_,rE1,_,_,O,O,I2 (D9 str (d6y hn9).symm)⟩
theorem a4I(u:Int)(h0: -9007199254740992<=u)(dy:u<=9007199254740992)(σ:List b9):b8 CC 95 [iv u] σ λr aa=>r= .ret (sv (Lib.itoa u))/\aa=σ:=by
 refine b8.anyw hCC pu_ pu_ (c9 (qO Tryz.func95 ?_)) σ;refine qC ?_ ?_<;>intro h1
 .have hu:u<0:=H h1;obtain⟨m,rfl⟩:∃m:Nat,u= -(m:Int):=⟨u.natAbs,J⟩;have g1:=a47 18 m J;have w1:IntKind.i64.wrap (0- (-(m:Int)+1))=((m-1:Nat):Int):=by rw[a4v J J];omega
  have w2:IntKind.u64.wrap (IntKind.u64.wrap (IntKind.i64.wrap (0- (-(m:Int)+1)))+1)=(m:Int):=by
   rw[w1,b3y J,show(((m-1:Nat):Int)+1)=(m:Int) by omega,b3y J]
  refine V r6 ?_;refine V (b8r O D O) ?_;refine V d0H ?_;refine V a1s ?_;refine V (c4 O c2u ⟨D,D⟩ (by have h:=a8T m J [];rw[<- w2]at h;exact h) O) ?_;refine V a4l ?_;refine c6 ?_;exact⟨_,a1w O D O,_,_,O,O,I2 (D9 str (Lib.itoa_neg m J).symm)⟩
 .have hu:¬u<0:=H h1;obtain⟨m,rfl⟩:∃m:Nat,u=(m:Int):=⟨u.toNat,J⟩;refine V (a2K O D O b7r c3P (b3y J)) ?_;refine V (c4 O c2u ⟨D,D⟩ (a8T m J _) O) ?_;refine c6 ?_;exact⟨_,a1w O D O,_,_,O,O,I2 (D9 str (Lib.itoa_nonneg m).symm)⟩
theorem x8{a b:Int}(h:(a == b)=true):a=b:=H h
theorem w9{a b:Int}(h:(a == b)=false):¬a=b:=H h
theorem b1K(x:Ex)(σ:List b9):b8 CC 271 [(.agg x.cells)] σ λr aa=>r= .ret (iv (S9 x.k x.op))/\aa=σ:=by
 refine b8.anyw hCC pu_ pu_ (c9 (qO Tryz.func271 ?_)) σ;refine qD (F1 O D j3 j1 ?_);refine qC ?_ ?_<;>intro h1
 .have u1:x.k=5:=H h1;refine c6 ?_;exact⟨_,rE1,_,_,O,O,C8 (by rw[S9,W u1])⟩
 .have u1:¬x.k=5:=H h1;refine qC ?_ ?_<;>intro h2
  .have u2:¬x.k=4:=H h2;refine c6 ?_;exact⟨_,rE1,_,_,O,O,C8 (by rw[S9,G u1,G u2])⟩
  .have u2:x.k=4:=H h2;refine qC ?_ ?_<;>intro h3
   .have v3:=x8 h3;refine qC ?_ ?_<;>intro h4
    .have v4:=x8 h4;exact b11
    .have v4:=w9 h4;refine qC ?_ ?_<;>intro h5
     .have v5:=x8 h5;refine qC ?_ ?_<;>intro h6
      .have v6:=x8 h6;exact b11
      .have v6:=w9 h6;exact b11
     .have v5:=w9 h5;refine qC ?_ ?_<;>intro h7
      .have v7:=x8 h7;exact b11
      .have v7:=w9 h7;exact b11
   .have v3:=w9 h3;refine qC ?_ ?_<;>intro h8
    .have v8:=x8 h8;exact b11
    .have v8:=w9 h8;refine qC ?_ ?_<;>intro h9
     .have v9:=x8 h9;refine qC ?_ ?_<;>intro bj
      .have iK:=x8 bj;exact b11
      .have iK:=w9 bj;exact b11
     .have v9:=w9 h9;refine qC ?_ ?_<;>intro cX
      .have iO:=x8 cX;exact b11
      .have iO:=w9 cX;exact b11
def SG:List I:=[[],[43],[45],[42],[47],[37],[60],[61,61]]
theorem d6K(h:1<=o/\o<=7):SG[o.toNat]?=some (sgn o)/\(sgn o).length<=2:=by
 have:o=1\/o=2\/o=3\/o=4\/o=5\/o=6\/o=7:=by omega
 rcases this with rfl|rfl|rfl|rfl|rfl|rfl|rfl<;>exact⟨O,U⟩
theorem d6C(o:Int):1<=H6 o/\H6 o<=3:=by unfold H6;(repeat(first|split))<;>omega
def RWr(E:List Ex)(ps:List I)(en pn:Bool)(t:Tr)(s:Nat):Prop:=∀(pl:Int) (σ:List b9),b8 CC 226 [.list (E.map Ex.cv) en none,iv ((s+t.size -1:Nat):Int),.list (ps.map scv) pn none,iv pl] σ λr τ=>r= .ret (sv (t.txt ps pl))/\τ=σ
theorem c4C{E:List Ex}{en pn:Bool}{k u:Int}{nm:I}{ch:List Tr}{s:Nat}(hAt:b4O E (.n k u o nm ch) s)(hn:P3 ps.length k u o nm ch.length)(hI:∀(m:Nat) (c:Tr),ch[m]?=some c->RWr E ps en pn c (s+C2 (ch.take m)))(hL:∀(m:Nat) (c:Tr) (pl:Int),ch[m]?=some c->(c.txt ps pl).length<=100000000)(fA:ch.length<=1000)(hTl:(ndT ps k u o nm (P1 ps ch (a1D k o))).length<=1000000000000)(pl:Int):b8 CC 226 [(.list (E.map Ex.cv) en none),iv ((s+(Tr.n k u o nm ch).size -1:Nat):Int),(.list (ps.map scv) pn none),iv pl] [] λr aa=>r= .ret (sv ((Tr.n k u o nm ch).txt ps pl))/\aa=[]:=by
 refine c9 (cO Tryz.func226 ?_);refine qs 3 (V d7Q ?_);refine b86 ?_;refine W3 hCC (α:=I) (λx=>[(3,iv pl),(9,.ptr 0 0),(10,sv x)]) (λ_=>[.box ((⟨k,u,o,nm,C0 ch s⟩:Ex)).cells]) (λx=>x=ndT ps k u o nm (P1 ps ch (a1D k o))) A7 uz_ ?_ ?_
 .
  refine qk (qC ?_ ?_)<;> intro h1
  .have u1:k=1:=x8 h1;have bN:=hn.k1 u1;refine V (c4 O c52 ⟨D,D⟩ (a4I u bN.1 bN.2 _) O) ?_;exact⟨(Lib.itoa u),_,(by rw[ndT,W u1]),tu_,O⟩
  .have u1:¬k=1:=w9 h1;refine qC ?_ ?_<;>intro h2
   .have u2:k=2:=x8 h2;obtain⟨bW,hk3⟩:=hn.k2 u2;obtain⟨p,hpg⟩:=gx_ ps u.toNat;refine V (z8 O D D O O t_2 t_0 J (o7 hpg) O) ?_;exact⟨p,_,(by rw[ndT,G u1,W u2,a9A,hpg];rfl),tu_,O⟩
   .have u2:¬k=2:=w9 h2;refine qC ?_ ?_<;>intro h3
    .have u3:k=3:=x8 h3;have v6:¬k=4:=by omega
     have v8:¬k=5:=by omega
     have fJ:=C9 (hn.k3 u3).1;have hpl0:a1D k o=[]:=G v6;have hCl:(P1 ps ch (a1D k o)).length=ch.length:=a7Q _ _ _;have hJ:=λm=>b2z [44,32] (P1 ps ch (a1D k o)) m;have hjt:(K2 [44,32] (P1 ps ch (a1D k o))).length<=1000000000000:=by
      rw[ndT,G u1,G u2,G v6,G v8,W u3,n_8,n_8]at hTl;omega
     refine V W7 ?_;refine V a1Q ?_;refine m0 hCC (α:=Nat) (λm=>[(0,(.list (E.map Ex.cv) en none)),(2,(.list (ps.map scv) pn none)),(3,iv pl),(9,.ptr 0 0),(10,sv (nm++[40]++a2T [44,32] (P1 ps ch (a1D k o)) m)),(40,(.list ((C0 ch s).map icv) (gnn (C0 ch s).length) none)),(41,(iv ((C0 ch s).length:Int))),(42,iv m)]) (λ_=>[.box ((⟨k,u,o,nm,C0 ch s⟩:Ex)).cells]) (λm=>m<=ch.length) (λm=>ch.length -m) 0 (n_4 _) ⟨r7,r7,r7,r7,⟨D,(by show sv _=sv _;simp[a2T,K2])⟩,r7,r7,r7,D⟩ (aj:=[]) O A7 uz_ ?_;intro m hm;have hJm:=hJ m;refine qk (qC ?_ ?_)<;> intro h4
     .have ah:m<ch.length:=by simp[Z5]at h4;omega
      obtain⟨c,hc⟩:∃c,ch[m]?=some c:=⟨ch[m]'ah,Q⟩;have hg:=a0U (s:=s) hc;have hx:=b56 ps ch (a1D k o) m c hc;rw[show(a1D k o).getD m 0=0 by rw[hpl0];rfl]at hx;have dw:=hL m c 0 hc;refine V (z8 O D D O O t_3 t_1 J (o7 hg) O) ?_;refine qC ?_ ?_<;>intro h5
      .have hm0:¬m=0:=sm_ h5;refine V W7 ?_;refine V (c4 O b5f b0j (hI m c hc 0 _) O) ?_;refine b71 ?_;exact⟨(m+1),_,⟨J,J⟩,⟨r7,r7,r7,r7,⟨D,(by show sv _=sv _;rw[a3K hx,G hm0];simp[H4])⟩,r7,r7,r7,D⟩,O⟩
      .have hm0:m=0:=sm_ h5;refine V (c4 O b5f b0j (hI m c hc 0 _) O) ?_;refine b71 ?_;exact⟨(m+1),_,⟨J,J⟩,⟨r7,r7,r7,r7,⟨D,(by show sv _=sv _;rw[a3K hx,W hm0];simp[H4])⟩,r7,r7,r7,D⟩,O⟩
     .have da:m=ch.length:=by simp[Z5]at h4;omega
      refine l9 ?_;refine V W7 ?_;exact⟨(nm++[40]++a2T [44,32] (P1 ps ch (a1D k o)) m++[41]),_,(by rw[ndT,G u1,G u2,G v6,G v8,W u3,a2T,da,<- hCl,a9q]),tu_,O⟩
    .have u3:¬k=3:=w9 h3;refine cC ?_ ?_<;>intro h6
     .have v6:k=4:=x8 h6;have cy:=hn.k4 v6;have gP:=d6C o;obtain⟨hsg,ez⟩:=d6K cy;refine qs 2 (V (c4 O Tryz.call271 ⟨D,D⟩ ((by have h:=b1K (⟨k,u,o,nm,C0 ch s⟩:Ex);rw[show S9 (⟨k,u,o,nm,C0 ch s⟩:Ex).k (⟨k,u,o,nm,C0 ch s⟩:Ex).op=H6 o by show S9 k o=_;rw[S9,G J,W v6]]at h;exact h _)) O) ?_);refine V r6 ?_;refine W3 hCC (α:=Int) (λx=>[(0,(.list (E.map Ex.cv) en none)),(2,(.list (ps.map scv) pn none)),(3,iv pl),(9,.ptr 0 0),(14,iv x),(15,(iv (H6 o+1)))]) (λ_=>[.box ((⟨k,u,o,nm,C0 ch s⟩:Ex)).cells]) (λx=>x=if H6 o=1 then H6 o+1 else H6 o) A7 uz_ ?_ ?_
      .
       refine qk (qC ?_ ?_)<;> intro h7
       .have w7:H6 o=1:=x8 h7;exact⟨2,_,(by rw[W w7,w7];rfl),tu_,O⟩
       .have w7:¬H6 o=1:=w9 h7;exact⟨(H6 o),_,(by rw[G w7]),tu_,O⟩
      .rintro x hx;obtain⟨c0,c1,rfl⟩:∃a b,ch=[a,b]:=by
        have hc:=hn.cnt;rw[W v6]at hc
        match ch,hc with
        | [a,b],_=>exact⟨a,b,O⟩
       have dF:=hL 0 c0 x O;have cH:=hL 1 c1 (H6 o+1) O;have hoe:(⟨k,u,o,nm,C0 [c0,c1] s⟩:Ex).op=o:=O;refine cW 26 ?_;refine b2B ?_;refine hY d7O ?_;refine hY a3r ?_;refine a5N ?_;refine hY (c4 O b5f a36 (hI 0 c0 O x _) O) ?_;refine hY W7 ?_;refine hY (B4 (SG.map scv) O ⟨O,O,O,O,O,O,O,O,D⟩ t_2 t_0 t_4 O O O O O O O O O) ?_;refine hY c6n ?_;refine hY V3 ?_;refine hY (z8 O D D O O t_2 t_0 J (o7 hsg) O) ?_;refine hY a68 ?_;refine hY a1V ?_;refine hY W7 ?_;refine b2B ?_;refine hY d9Z ?_;refine hY a3r ?_;refine a5N ?_;refine hY (c4 O b5f a36 (hI 1 c1 O (H6 o+1) _) O) ?_;refine hY a1V ?_;refine a85 ?_;exact⟨(c0.txt ps x++[32]++sgn o++[32]++c1.txt ps (H6 o+1)),_,(by rw[ndT,G u1,G u2,W v6,a1D,W v6,hx];simp[P1]),tu_,O⟩
     .have v6:¬k=4:=w9 h6;refine qk (qC ?_ ?_)<;> intro h8
      .have v8:k=5:=x8 h8;obtain⟨c0,c1,c2,rfl⟩:∃a b c,ch=[a,b,c]:=by
        have hc:=hn.cnt;rw[G v6,W v8]at hc
        match ch,hc with
        | [a,b,c],_=>exact⟨a,b,c,O⟩
       have dF:=hL 0 c0 0 O;have cH:=hL 1 c1 0 O;have dv:=hL 2 c2 0 O;refine cW 27 ?_;refine b2B ?_;refine hY d7O ?_;refine hY a3r ?_;refine hY A3 ?_;refine hY (c4 O b5f b0j (hI 0 c0 O 0 _) O) ?_;refine hY a4l ?_;refine hY W7 ?_;refine b2B ?_;refine hY d9Z ?_;refine hY a3r ?_;refine hY A3 ?_;refine hY (c4 O b5f b0j (hI 1 c1 O 0 _) O) ?_;refine hY a1V ?_;refine hY W7 ?_;refine b2B ?_;refine hY (z8 O D O O O t_3 t_1 J (o7 (a0U (m:=2) (s:=s) O)) O) ?_;refine hY a3r ?_;refine hY A3 ?_;refine hY (c4 O b5f b0j (hI 2 c2 O 0 _) O) ?_;refine hY a1V ?_;refine a85 ?_;exact⟨([105,102,32]++c0.txt ps 0++[32,116,104,101,110,32]++c1.txt ps 0++[32,101,108,115,101,32]++c2.txt ps 0),_,(by rw[ndT,G u1,G u2,G v6,W v8,a1D,G v6];simp[P1]),tu_,O⟩
      .have v8:¬k=5:=w9 h8;refine qC ?_ ?_<;>intro h9
       .have v9:k=6:=x8 h9;have fJ:=Q1 (hn.k678 (.inl v9));obtain⟨c0,rfl⟩:∃a,ch=[a]:=by
         have hc:=hn.cnt;rw[G v6,G v8,W v9]at hc
         match ch,hc with
         | [a],_=>exact⟨a,O⟩
        have dF:=hL 0 c0 0 O;refine cW 14 ?_;refine hY b7T ?_;refine hY U0 ?_;refine hY a4l ?_;refine hY W7 ?_;refine b2B ?_;refine hY d7O ?_;refine hY a3r ?_;refine hY A3 ?_;refine hY (c4 O b5f b0j (hI 0 c0 O 0 _) O) ?_;refine hY a1V ?_;refine hY W7 ?_;refine a85 ?_;exact⟨([114,101,97,100,40,34]++nm++[34,44,32]++c0.txt ps 0++[41]),_,(by rw[ndT,G u1,G u2,G v6,G v8,G u3,W v9,a1D,G v6];simp[P1]),tu_,O⟩
       .have v9:¬k=6:=w9 h9;refine qC ?_ ?_<;>intro bj
        .have iK:k=7:=x8 bj;have fJ:=Q1 (hn.k678 (.inr (.inl iK)));refine a2D ?_;exact⟨([115,105,122,101,40,34]++nm++[34,41]),_,(by rw[ndT,G u1,G u2,G v6,G v8,G u3,G v9,G J,a74];rw[iK];simp),tu_,O⟩
        .have iK:¬k=7:=w9 bj;refine qC ?_ ?_<;>intro cX
         .have iO:k=8:=x8 cX;have fJ:=Q1 (hn.k678 (.inr (.inr iO)));refine a2D ?_;exact⟨([104,97,115,40,34]++nm++[34,41]),_,(by rw[ndT,G u1,G u2,G v6,G v8,G u3,G v9,G J,a74];rw[iO];simp),tu_,O⟩
         .have iO:¬k=8:=w9 cX;refine qC ?_ ?_<;>intro dL
          .have v12:k=9:=x8 dL;have fJ:=C9 (hn.k9 v12);refine a2D ?_;exact⟨([101,110,118,40,34]++nm++[34,41]),_,(by rw[ndT,G u1,G u2,G v6,G v8,G u3,G v9,G J,a74];rw[v12];simp),tu_,O⟩
          .have v12:¬k=9:=w9 dL;refine qC ?_ ?_<;>intro dA
           .have v13:k=10:=x8 dA;have hk10:=hn.k10 v13;have bM:(Lib.itoa u).length<=19:=by
             obtain⟨m,rfl⟩:∃m:Nat,u=(m:Int):=⟨u.toNat,J⟩;rw[Lib.itoa_nonneg];exact a47 18 m J
            refine V (c4 O c52 ⟨D,D⟩ (a4I u J J _) O) ?_;refine a2D ?_;exact⟨([102,108,105,112,40]++Lib.itoa u++[41]),_,(by rw[ndT,G u1,G u2,G v6,G v8,G u3,G v9,W v13]),tu_,O⟩
           .exfalso;have v13:¬k=10:=w9 dA;have:=hn.kind;omega
 .rintro x hx;subst hx;have hT:=hTl;refine qk (V (c4 O Tryz.call271 ⟨D,D⟩ (b1K (⟨k,u,o,nm,C0 ch s⟩:Ex) _) O) ?_);refine qC ?_ ?_<;>intro gI
  .have bU:S9 k o<pl:=H gI;refine a2D ?_;refine c6 ?_;exact⟨_,a1w O D O,_,_,O,O,I2 (by rw[Tr.txt,W bU])⟩
  .have bU:¬S9 k o<pl:=H gI;refine c6 ?_;exact⟨_,a1w O D O,_,_,O,O,I2 (by rw[Tr.txt,G bU])⟩
theorem b3j{E:List Ex}{ps:List I}{en pn:Bool}(hE:E.length<=1000)(hp:∀x∈ps,x.length<=80):∀(n:Nat) (t:Tr) (s d:Nat),t.size<=n->b4O E t s->t.wf ps.length d->RWr E ps en pn t s
 |0,t,s,d,hs,_,_=>by have:=t.size_pos;omega
 |n+1,.n k u o nm ch,s,d,hs,hAt,hw=>λpl σ=>by
  have dO:=hw;rw[Tr.wf]at dO;have aJ:(Tr.n k u o nm ch).size<=E.length:=by
   obtain⟨E0,E1,he,_⟩:=hAt;rw[he,n_8,n_8,Tr.flat_len];omega
  rw[Tr.size]at hs aJ;have eI:∀(m:Nat) (c:Tr),ch[m]?=some c->c.size<=C2 ch:=λm c hc=>by
   have h1:=a6B hc;have h2:=a2F ch (m+1);omega
  have hL:∀(m:Nat) (c:Tr) (pl:Int),ch[m]?=some c->(c.txt ps pl).length<=100000000:=λm c pl hc=>by
   have h1:=Tr.txt_len hp c _ pl (a6Z dO.2.2 hc);have h2:=eI m c hc;omega
  have dw:=a8h ch;have hT:=c1M hp dO.2.1 (P1 ps ch (a1D k o));have hT2:=a8G hp ch _ (a1D k o) dO.2.2;rw[a7Q]at hT;exact b8.anyw (args:=[_,_,_,_]) hCC ⟨F8 _ _,.val _,o6 _ _,.val _,D⟩ (.val _) (c4C hAt dO.2.1 (λm c hc=>b3j hE hp n c _ _ (by have:=eI m c hc;omega) (hAt.child hc) (a6Z dO.2.2 hc)) hL J J pl) σ
theorem c2l(h:DeG d):∀x∈d.params,x.length<=80:=λx hx=>by have:=C9 (h.par x hx).1;omega
theorem c3y(h:DeG d)(en pn:Bool)(σ:List b9):b8 CC 226 [.list (d.body.map Ex.cv) en none,iv ((d.body.length:Int) -1),.list (d.params.map scv) pn none,iv 0] σ λr τ=>r= .ret (sv (a6e d))/\τ=σ:=by
 obtain⟨t,h1,h2,h3⟩:=a7p h;have hl:d.body.length=t.size:=by rw[h1,Tr.flat_len]
 have hp:=t.size_pos;have hb:=h.blen;have:=b3j (E:=d.body) (en:=en) (pn:=pn) J (c2l h) t.size t 0 1 (n_6 _) ⟨[],[],by rw[h1];simp,O⟩ h2 0 σ;rw[show((0+t.size -1:Nat):Int)=(d.body.length:Int) -1 by omega,<- h3]at this;exact this
noncomputable def b6J(d:De):I:=X9 d++(a6e d++[59,10])
theorem c4y(d:De)(hd:DeG d)(σ:List b9):b8 CC 179 [(.agg d.cells)] σ λr aa=>r= .ret (sv (b6J d))/\aa=σ:=by
 refine an_ Tryz.func179 ?_;refine c88 ?_;refine W3 hCC (α:=I) (λx=>[(1,.ptr 0 0),(3,sv x)]) (λ_=>[.box d.cells]) (λx=>x++[32,61,32]=X9 d/\x.length<=2000) A7 uz_ ?_ ?_
 .
  refine qk (qC ?_ ?_)<;> intro h1
  .have u1:d.k=1:=x8 h1;have fJ:=C9 (hd.name J).1;refine a2D ?_;refine V K6 ?_;refine m0 hCC (α:=Nat) (λm=>[(1,.ptr 0 0),(3,sv ([102,117,110,99,32]++d.name++[40]++a2T [44,32] d.params m)),(15,(.list (d.params.map scv) (gnn d.params.length) none)),(16,iv d.params.length),(17,iv m)]) (λ_=>[.box d.cells]) (λm=>m<=d.params.length) (λm=>d.params.length -m) 0 (n_4 _) ⟨r7,⟨D,(by show sv _=sv _;simp[a2T,K2])⟩,r7,r7,r7,D⟩ (aj:=[]) O A7 uz_ ?_;intro m hm;have hJ:=b2z [44,32] d.params m;have hJ2:=a5B [44,32] d.params;have hJ3:=c2f (c6Z hd);have bf:=hd.parl;have e2:([44,32]:I).length=2:=O;rw[e2]at hJ2;refine qk (qC ?_ ?_)<;> intro h2
   .have ah:m<d.params.length:=sm_ h2;obtain⟨y,hy⟩:∃y,d.params[m]?=some y:=⟨d.params[m]'ah,Q⟩;have fT:=c2l hd y (n_2 hy);refine V c5G ?_;refine qC ?_ ?_<;>intro h3
    .have hm0:¬m=0:=sm_ h3;refine V W7 ?_;refine b71 ?_;exact⟨(m+1),_,⟨J,J⟩,⟨r7,⟨D,(by show sv _=sv _;rw[a3K hy,G hm0];simp[H4])⟩,r7,r7,r7,D⟩,O⟩
    .have hm0:m=0:=sm_ h3;refine b71 ?_;exact⟨(m+1),_,⟨J,J⟩,⟨r7,⟨D,(by show sv _=sv _;rw[a3K hy,W hm0];simp[H4])⟩,r7,r7,r7,D⟩,O⟩
   .have da:m=d.params.length:=sm_ h2;refine l9 ?_;refine V W7 ?_;exact⟨([102,117,110,99,32]++d.name++[40]++a2T [44,32] d.params m++[41]),_,⟨by rw[X9,W u1,a2T,da,a9q];simp,by simp only[n_8,n_9,R1];omega⟩,tu_,O⟩
  .have u1:¬d.k=1:=w9 h1;refine qC ?_ ?_<;>intro h4
   .have u2:d.k=2:=x8 h4;have fJ:=C9 (hd.name J).1;refine V a4l ?_;exact⟨([116,101,115,116,32]++d.name),_,⟨by rw[X9,G u1,W u2];first|done|simp,by simp only[n_8,n_9,R1];omega⟩,tu_,O⟩
   .have u2:¬d.k=2:=w9 h4;refine qC ?_ ?_<;>intro h5
    .have u3:d.k=3:=x8 h5;have fJ:=Q1 (hd.path u3);refine a2D ?_;exact⟨([103,101,110,32,34]++d.name++[34]),_,⟨by rw[X9,G u1,G u2];first|done|simp,by simp only[n_8,n_9,R1];omega⟩,tu_,O⟩
    .exfalso;have u3:¬d.k=3:=w9 h5;have:=hd.kind;omega
 .rintro x ⟨hx,hxl⟩;have hbl:=b3g hd;have hb:=hd.blen;refine qk (V W7 ?_);refine V a8V ?_;refine V a0k ?_;refine V (c4 O b5f b0j (c3y hd _ _ _) O) ?_;refine b0b ?_;refine c6 ?_;exact⟨_,a1w O D O,_,_,O,O,I2 (by rw[b6J,<- hx];simp[H4])⟩
theorem c4M(x:Src)(h:a0i x)(σ:List b9):b8 CC 178 [(.agg x.cells)] σ λr aa=>r= .ret (sv (([112,97,99,107,97,103,101,32]++x.pkg++[59,10])++a0n x.imports))/\aa=σ:=by
 refine b8.anyw hCC pu_ pu_ ?_ σ;have eu:=C9 h.pkg.1;have him8:∀s∈x.imports,s.length<=80:=λs hs=>by have:=C9 (h.imp s hs).1;omega
 refine c9 (qO Tryz.func178 ?_);refine qD (F1 O D j3 j1 ?_);refine a2D ?_;refine V K6 ?_;refine m0 hCC (α:=Nat) (λm=>[(3,sv (([112,97,99,107,97,103,101,32]++x.pkg++[59,10])++a0n (x.imports.take m))),(11,(.list (x.imports.map scv) (gnn x.imports.length) none)),(12,iv x.imports.length),(13,iv m)]) (λ_=>[.box x.cells]) (λm=>m<=x.imports.length) (λm=>x.imports.length -m) 0 (n_4 _) ⟨⟨D,(by show sv _=sv _;simp[a0n])⟩,r7,r7,r7,D⟩ (aj:=[]) O A7 uz_ ?_;intro m hm;have hI8:=b1j him8 m;have himl:=h.impl;have eu:=C9 h.pkg.1;refine qk (qC ?_ ?_)<;> intro h1
 .have ah:m<x.imports.length:=sm_ h1;obtain⟨y,hy⟩:∃y,x.imports[m]?=some y:=⟨x.imports[m]'ah,Q⟩;have fT:=him8 y (n_2 hy);refine V c5G ?_;refine a2D ?_;refine b71 ?_;exact⟨(m+1),_,⟨J,J⟩,⟨⟨D,(by show sv _=sv _;rw[a8n,hy];simp[a0n,H4])⟩,r7,r7,r7,D⟩,O⟩
 .have da:m=x.imports.length:=sm_ h1;refine W5 ?_;exact⟨_,a1w O D O,_,_,O,O,I2 (by rw[da,a9q])⟩
theorem a29(s:I)(hs:s.length<=1000000000)(σ:List b9):b8 CC 221 [(sv s)] σ λr aa=>r= .ret (.val (.bool (B5 s&& !Q2 s)))/\aa=σ:=by
 refine b8.anyw hCC pu_ pu_ (c9 (qO Tryz.func221 ?_)) σ;refine V (c4 O c3U ⟨D,D⟩ (a1E s _) O) ?_;refine qG D2 ?_;refine qG (λhg=>c4 O Tryz.call229 ⟨hg,D⟩ (a59 s _) O) ?_;refine qG a4a ?_;refine b4T ?_;exact⟨_,a1w O D O,_,_,O,O,o3 O⟩
def arK(k:Int):Int:=if k=3 then -1 else if k=4 then 2 else if k=5 then 3 else if k=6 then 1 else 0
theorem b9m(k:Int)(σ:List b9):b8 CC 270 [iv k] σ λr aa=>r= .ret (iv (arK k))/\aa=σ:=by
 refine b8.anyw hCC pu_ pu_ (c9 (qO Tryz.func270 ?_)) σ;refine qC ?_ ?_<;>intro h1
 .have u1:=x8 h1;exact c5F
 .have u1:=w9 h1;refine qC ?_ ?_<;>intro h2
  .have u2:=x8 h2;exact c5F
  .have u2:=w9 h2;refine qC ?_ ?_<;>intro h3
   .have u3:=x8 h3;exact c5F
   .have u3:=w9 h3;refine qC ?_ ?_<;>intro h4
    .have u4:=x8 h4;exact c5F
    .have u4:=w9 h4;exact c5F
theorem c0h(x:Ex)(np c:Nat)(h:P3 np x.k x.num x.op x.name c)(σ:List b9):b8 CC 222 [(.agg x.cells),iv np] σ λr aa=>r= .ret (.val (.bool true))/\aa=σ:=by
 refine b8.anyw hCC pu_ pu_ (c9 (qO Tryz.func222 ?_)) σ;refine qD (F1 O D j3 j1 ?_);refine b1R ?_;refine b1R ?_;refine b1R ?_;refine b1R ?_;refine b1R ?_;refine b1R ?_;refine b1R ?_;refine qG D2 ?_;refine qG a4a ?_;refine qG a84 ?_;refine qH O O (λhk hg=>j2 O D O b02 O t_0 U) ?_;refine qH O O (λhk hg=>o5 O ⟨hk,hg⟩ O a2J O O) ?_;refine qH O O (λhk hg=>a1g O ⟨hk,hg⟩ O O O (a75 _ _)) ?_;refine qG c0J ?_;refine V U8 ?_;refine qG D2 ?_;refine qG a4a ?_;refine qG a84 ?_;refine d4e ?_;refine d1Z ?_;refine V U8 ?_;refine c5k ?_;refine b7Z ?_;refine d4e ?_;refine d1Z ?_;refine V U8 ?_;refine qC ?_ ?_<;>intro h1
 .exfalso;have hk:=h.kind;have hn:=h.num;have ho:=h.op;have cw:=h.name;simp only[b2p,O5,b50,a1z,b8G,beq_eq_false_iff_ne,bne_iff_ne,ne_eq]at h1
  rcases h1 with(((h1|h1)|⟨h1,h2⟩)|⟨h1,h2⟩)|⟨h1,h2⟩<;>first|omega|exact of_decide_eq_false h2 (cw J)|exact h2 (hn J J J)|exact h2 (ho h1)
 .refine qC ?_ ?_<;>intro h2
  .have u2:=x8 h2;refine c5k ?_;refine a2g ?_;exact a9D
  .have u2:=w9 h2;refine qC ?_ ?_<;>intro h3
   .have u3:=x8 h3;refine c5k ?_;refine qG D2 ?_;refine qG b2y ?_;refine V S6 ?_;exact a9D
   .have u3:=w9 h3;refine qC ?_ ?_<;>intro h4
    .have u4:=x8 h4;refine c5k ?_;refine a2g ?_;exact a9D
    .have u4:=w9 h4;refine qC ?_ ?_<;>intro h5
     .have u5:=x8 h5;refine c5k ?_;refine a2g ?_;exact a9D
     .have u5:=w9 h5;refine qC ?_ ?_<;>intro h6
      .have u6:=x8 h6;refine V (c4 O b8K ⟨D,D⟩ (a29 x.name (by have:=h.len;omega) _) O) ?_;exact a9D
      .have u6:=w9 h6;refine qC ?_ ?_<;>intro h7
       .have u7:=x8 h7;refine V (c4 O c3U ⟨D,D⟩ (a1E x.name _) O) ?_;exact a9D
       .have u7:=w9 h7;refine qC ?_ ?_<;>intro h8
        .have u8:=x8 h8;refine qC ?_ ?_<;>intro h9
         .have u9:=x8 h9;refine V c5M ?_;exact a9D
         .have u9:=w9 h9;exact a9D
        .have u8:=w9 h8;refine qC ?_ ?_<;>intro bj
         .have u10:=x8 bj;refine qC ?_ ?_<;>intro cX
          .have u11:=x8 cX;refine V c5M ?_;exact a9D
          .have u11:=w9 cX;exact a9D
         .have u10:=w9 bj;refine qC ?_ ?_<;>intro dL
          .have u12:=x8 dL;refine V c5M ?_;exact a9D
          .have u12:=w9 dL;exact a9D
mutual
def Tr.dp:Tr->Nat
 | .n k _ _ _ ch=>dpL k ch 1
def dpL(k:Int):List Tr->Nat->Nat
 | [],n=>n
 |c::l,n=>dpL k l (max n (c.dp+if k=4 then 0 else 1))
end
theorem c8c{k:Int}{l:List Tr}{c:Tr}(h:l[m]?=some c)(n:Nat):dpL k (l.drop m) n=dpL k (l.drop (m+1)) (max n (c.dp+if k=4 then 0 else 1)):=by
 obtain⟨ah,rfl⟩:=n_3.1 h;rw[U5 ah,dpL]
mutual
theorem Tr.dp_le{np:Nat}:∀(t:Tr) (d:Nat),t.wf np d->t.dp+d<=33
 | .n k u o nm ch,d,h=>by
  rw[Tr.wf]at h;rw[Tr.dp];exact c9k ch k d 1 J h.2.2
theorem c9k{np:Nat}:∀(l:List Tr) (k:Int) (d n:Nat),n+d<=33->wfL np (if k=4 then d else d+1) l->dpL k l n+d<=33
 | [],k,d,n,hn,_=>by rw[dpL];exact hn
 |c::l,k,d,n,hn,h=>by
  rw[wfL]at h;have h1:=Tr.dp_le c _ h.1;rw[dpL];refine c9k l k d _ ?_ h.2;split at h1<;>rename_i hk<;>simp only[hk,if_true,if_false]at*<;> omega
end
def RDp(E:List Ex)(en:Bool)(t:Tr)(s:Nat):Prop:=∀(σ:List b9),b8 CC 225 [.list (E.map Ex.cv) en none,iv ((s+t.size -1:Nat):Int)] σ λr τ=>r= .ret (iv t.dp)/\τ=σ
theorem d0K{E:List Ex}{en:Bool}{k u:Int}{nm:I}{ch:List Tr}{s:Nat}(hAt:b4O E (.n k u o nm ch) s)(hI:∀(m:Nat) (c:Tr),ch[m]?=some c->RDp E en c (s+C2 (ch.take m)))(hB:∀(m:Nat) (c:Tr),ch[m]?=some c->c.dp<=1000)(fA:ch.length<=1000):b8 CC 225 [(.list (E.map Ex.cv) en none),(iv ((s+(Tr.n k u o nm ch).size -1:Nat):Int))] [] λr aa=>r= .ret (iv ((Tr.n k u o nm ch).dp:Int))/\aa=[]:=by
 refine c9 (qO Tryz.func225 ?_);refine V d7Q ?_;refine V a1Q ?_;refine m0 hCC (α:=Nat×Nat) (λa=>[(0,(.list (E.map Ex.cv) en none)),(1,(iv ((s+(Tr.n k u o nm ch).size -1:Nat):Int))),(5,iv a.2),(13,(.list ((C0 ch s).map icv) (gnn (C0 ch s).length) none)),(14,(iv ((C0 ch s).length:Int))),(15,iv a.1)]) (λ_=>[]) (λa=>a.1<=ch.length/\a.2<=1001/\(Tr.n k u o nm ch).dp=dpL k (ch.drop a.1) a.2) (λa=>ch.length -a.1) (0,1) ⟨n_4 _,U,by rw[Tr.dp];rfl⟩ tu_ (aj:=[]) O A7 uz_ ?_;rintro⟨m,n⟩ ⟨hm,hnb,hr⟩;dsimp only at hm hnb hr⊢;refine qk (qC ?_ ?_)<;> intro h1
 .have ah:m<ch.length:=by simp[Z5]at h1;omega
  obtain⟨c,hc⟩:∃c,ch[m]?=some c:=⟨ch[m]'ah,Q⟩;have hg:=a0U (s:=s) hc;rw[c8c hc]at hr;have hcb:=hB m c hc;refine V (z8 O D D O O t_3 t_1 J (o7 hg) O) ?_;refine V (c4 O Tryz.call225 j7 (hI m c hc _) O) ?_;refine V d7Q ?_;refine qC ?_ ?_<;>intro h2
  .have hk4:¬k=4:=H h2;rw[G hk4]at hr;refine V r6 ?_;refine V (b6W O D D O O) ?_;refine V r6 ?_;exact⟨(m+1,max n (c.dp+1)),_,⟨do_,do_,do_,hr⟩,⟨r7,r7,⟨D,(by show(iv (max (n:Int) ((c.dp:Int)+1)))=iv ((max n (c.dp+1):Nat):Int);congr 2;omega)⟩,r7,r7,r7,D⟩,O⟩
  .have hk4:k=4:=H h2;rw[W hk4]at hr;refine V (b6W O D D O O) ?_;refine V r6 ?_;exact⟨(m+1,max n (c.dp+0)),_,⟨do_,do_,do_,hr⟩,⟨r7,r7,⟨D,(by show(iv (max (n:Int) (c.dp:Int)))=iv ((max n (c.dp+0):Nat):Int);congr 2;omega)⟩,r7,r7,r7,D⟩,O⟩
 .have da:m=ch.length:=by simp[Z5]at h1;omega
  rw[da,c2K,dpL]at hr;refine W5 ?_;exact⟨_,rE1,_,_,O,O,C8 (by rw[hr])⟩
theorem b7l{E:List Ex}{en:Bool}(hE:E.length<=1000){np:Nat}:∀(n:Nat) (t:Tr) (s d:Nat),t.size<=n->b4O E t s->t.wf np d->RDp E en t s
 |0,t,s,d,hs,_,_=>by have:=t.size_pos;omega
 |n+1,.n k u o nm ch,s,d,hs,hAt,hw=>λσ=>by
  have dO:=hw;rw[Tr.wf]at dO;have aJ:(Tr.n k u o nm ch).size<=E.length:=by
   obtain⟨E0,E1,he,_⟩:=hAt;rw[he,n_8,n_8,Tr.flat_len];omega
  rw[Tr.size]at hs aJ;have eI:∀(m:Nat) (c:Tr),ch[m]?=some c->c.size<=C2 ch:=λm c hc=>by
   have h1:=a6B hc;have h2:=a2F ch (m+1);omega
  have dw:=a8h ch;exact b8.anyw (args:=[_,_]) hCC ⟨F8 _ _,.val _,D⟩ (.val _) (d0K hAt (λm c hc=>b7l hE n c _ _ (by have:=eI m c hc;omega) (hAt.child hc) (a6Z dO.2.2 hc)) (λm c hc=>by have:=Tr.dp_le c _ (a6Z dO.2.2 hc);omega) J) σ
theorem c80(h:DeG d)(en:Bool)(σ:List b9):∃n:Nat,n<=32/\b8 CC 225 [.list (d.body.map Ex.cv) en none,iv ((d.body.length:Int) -1)] σ λr τ=>r= .ret (iv n)/\τ=σ:=by
 obtain⟨t,h1,h2⟩:=h.tree;have hl:d.body.length=t.size:=by rw[h1,Tr.flat_len]
 have hp:=t.size_pos;have hb:=h.blen;have hdp:=Tr.dp_le t 1 h2;have:=b7l (E:=d.body) (en:=en) J t.size t 0 1 (n_6 _) ⟨[],[],by rw[h1];simp,O⟩ h2 σ;rw[show((0+t.size -1:Nat):Int)=(d.body.length:Int) -1 by omega]at this;exact⟨t.dp,J,this⟩
def fiD(k:Int)(o pa pk:I):List De->Nat->En->En
 | [],_,e=>e
 |d::l,j,e=>fiD k o pa pk l (j+1) (if(d.k == k&&decide (d.name=o))=true then(if(e.ct+1 == 1)=true then⟨pk,e.o,e.k,pa,j,e.ct+1⟩else⟨e.p,e.o,e.k,e.pl,e.ix,e.ct+1⟩)else e)
def fiL(k:Int)(p o:I):List (I×Src)->En->En
 | [],e=>e
 |x::l,e=>fiL k p o l (if((k != 3)&& !decide (x.2.pkg=p))=true then e else fiD k o x.1 x.2.pkg x.2.decls 0 e)
def fiE(L:List (I×Src))(k:Int)(p o:I):En:=fiL k p o L ⟨if k=3 then []else p,o,k,[],0,0⟩
theorem c8I{k:Int}{o pa pk:I}{l:List De}{e:En}(h:l[j]?=some d):fiD k o pa pk (l.drop j) j e=fiD k o pa pk (l.drop (j+1)) (j+1) (if(d.k == k&&decide (d.name=o))=true then(if(e.ct+1 == 1)=true then⟨pk,e.o,e.k,pa,j,e.ct+1⟩else⟨e.p,e.o,e.k,e.pl,e.ix,e.ct+1⟩)else e):=by
 obtain⟨ah,rfl⟩:=n_3.1 h;rw[U5 ah];rfl
theorem d0r{k:Int}{p o:I}{l:List (I×Src)}{x:I×Src}{e:En}(h:l[i]?=some x):fiL k p o (l.drop i) e=fiL k p o (l.drop (i+1)) (if((k != 3)&& !decide (x.2.pkg=p))=true then e else fiD k o x.1 x.2.pkg x.2.decls 0 e):=by
 obtain⟨ah,rfl⟩:=n_3.1 h;rw[U5 ah];rfl
theorem d1y{L:List (I×Src)}{x:I×Src}(h:L[i]?=some x):(L.map Prod.fst)[i]?=some x.1:=by rw[P8,h];rfl
theorem c2I{L:List (I×Src)}{x:I×Src}(h:L[i]?=some x):(L.map Prod.snd)[i]?=some x.2:=by rw[P8,h];rfl
theorem a8W(L:List (I×Src))(k:Int)(p o:I)(hL:L.length<=1000)(hd:∀x∈L,x.2.decls.length<=100000)(σ:List b9):b8 CC 62 [.agg (Y4 (L.map Prod.fst) (L.map Prod.snd)),iv k,(sv p),(sv o)] σ λr aa=>r= .ret (.agg (fiE L k p o).cells)/\aa=σ:=by
 refine an_ Tryz.func62 ?_;refine c88 ?_;refine qD (l8 O a4r O j1 ?_);refine V d9W ?_;refine z_7 ?_;refine W3 hCC (α:=I) (λ_=>[(1,iv k),(2,(sv p)),(3,(sv o)),(4,.ptr 0 0),(8,.ptr 1 0),(9,.ptr 2 0)]) (λa=>[.box (Y4 (L.map Prod.fst) (L.map Prod.snd)),.box En.z.cells,.box (⟨a,o,k,[],0,0⟩:En).cells]) (λa=>a=if k=3 then []else p) A7 uz_ ?_ ?_
 .
  refine qk (qC ?_ ?_)<;> intro h1
  .have hk:k=3:=H h1;refine qD (i9 O D O O j3 t_0 (.inl O) O O (nb O) ?_);exact⟨([]:I),_,(W hk).symm,tu_,O⟩
  .have hk:¬k=3:=H h1;exact⟨p,_,(G hk).symm,tu_,O⟩
 .intro pp fq;have ez:(L.map Prod.snd).length=L.length:=a02 _;refine qk (V c2S ?_);refine m0 hCC (α:=Nat×En) (λa=>[(1,iv k),(2,(sv p)),(3,(sv o)),(4,.ptr 0 0),(8,.ptr 1 0),(9,.ptr 2 0),(22,(.list ((L.map Prod.snd).map Src.cv) (gnn (L.map Prod.snd).length) none)),(23,(iv ((L.map Prod.snd).length:Int))),(24,iv a.1)]) (λa=>[.box (Y4 (L.map Prod.fst) (L.map Prod.snd)),.box En.z.cells,.box a.2.cells]) (λa=>a.1<=L.length/\fiE L k p o=fiL k p o (L.drop a.1) a.2/\0<=a.2.ct/\a.2.ct<=100000*(a.1:Int)) (λa=>L.length -a.1) (0,(⟨pp,o,k,[],0,0⟩:En)) ⟨n_4 _,by rw[fq];rfl,a7G _,a7G _⟩ tu_ (aj:=[]) O A7 uz_ ?_;intro⟨i,e⟩ ⟨hi,hr,h0,hc⟩;dsimp only at hi hr h0 hc⊢;refine qk (qC ?_ ?_)<;> intro h2
  .have ah:i<L.length:=sm_ h2;obtain⟨x,hb⟩:∃x,L[i]?=some x:=⟨L[i]'ah,Q⟩;have ii:=hd x (n_2 hb);rw[d0r hb]at hr;refine V d2t ?_;refine c4t ?_;refine d4J ?_;refine qG D2 ?_;refine qG (λhg=>a1g O hg hg O O (a75 _ _)) ?_;refine V S6 ?_;refine qC ?_ ?_<;>intro h3
   .rw [W h3]at hr;exact d5b
   .rw [G (by rw[h3];exact b2o)]at hr;refine V a4k ?_;refine m0 hCC (α:=Nat×En) (λa=>[(1,iv k),(2,(sv p)),(3,(sv o)),(4,.ptr 0 0),(8,.ptr 1 0),(9,.ptr 2 0),(10,iv i),(11,.ptr 3 0),(22,(.list ((L.map Prod.snd).map Src.cv) (gnn (L.map Prod.snd).length) none)),(23,(iv ((L.map Prod.snd).length:Int))),(24,iv i),(38,(.list (x.2.decls.map De.cv) (gnn x.2.decls.length) none)),(39,iv x.2.decls.length),(40,iv a.1)]) (λa=>[.box (Y4 (L.map Prod.fst) (L.map Prod.snd)),.box En.z.cells,.box a.2.cells,.box x.2.cells]) (λa=>a.1<=x.2.decls.length/\fiE L k p o=fiL k p o (L.drop (i+1)) (fiD k o x.1 x.2.pkg (x.2.decls.drop a.1) a.1 a.2)/\0<=a.2.ct/\a.2.ct<=100000*(i:Int)+(a.1:Int)) (λa=>x.2.decls.length -a.1) (0,e) ⟨n_4 _,hr,h0,do_⟩ tu_ (aj:=[]) O A7 uz_ ?_;intro⟨j,e⟩ ⟨hj,hr,h0,hc⟩;dsimp only at hj hr h0 hc⊢;refine qk (qC ?_ ?_)<;> intro h4
    .have hjt:j<x.2.decls.length:=sm_ h4;obtain⟨d,hdd⟩:∃d,x.2.decls[j]?=some d:=⟨x.2.decls[j]'hjt,Q⟩;rw[c8I hdd]at hr;refine d5Q ?_;refine qG b8b ?_;refine qG a26 ?_;refine b3z ?_;refine qC ?_ ?_<;>intro h5
     .rw [W h5]at hr;refine z_4 ?_;refine qC ?_ ?_<;>intro h6
      .rw [W h6]at hr;refine cF [] [0,1,2,3,4,5,6,7,8] (tl:=[(9,[2,3,4,5,6,7]),(10,[7]),(11,[7]),(12,[]),(13,[])]) ?_;refine chf O (c7 O b5P) ?_;refine chf O b8c ?_;refine chf O (c7 O b0g) ?_;refine chf O c7R ?_;refine chf O U7 ?_;refine chf O (c7 O b5q) ?_;refine chf O (c7 O a68) ?_;refine chf O U7 ?_;refine chf O c5X ?_;refine G4 ?_;refine B9 O O O (i9 O D D O j3 t_0 (.inl O) O O (nb O) ?_);refine⟨⟨(by exact c7 O b0g),(by exact c7 O b3K),G3,(by exact c7 O b5q),(by exact c7 O a68),G3,D⟩,?_⟩;refine E8 O O c5X ⟨⟨G3,D⟩,?_⟩;refine B9 O O O (i9 O D D O j3 t_0 (.inl O) O O (nb O) ?_);refine⟨⟨G3,D⟩,?_⟩;refine E8 O O (c7 O a9b) ⟨D,?_⟩;refine B9 O O O (i9 O D D O j3 t_1 (.inl O) O O (nb O) ?_);refine a8r ?_;refine V r6 ?_;exact⟨(j+1,(⟨x.2.pkg,e.o,e.k,x.1,(j:Int),e.ct+1⟩:En)),_,⟨do_,do_,hr,do_,do_⟩,tu_,O⟩
      .rw [G (by rw[h6];exact b2o)]at hr;refine V r6 ?_;exact⟨(j+1,(⟨e.p,e.o,e.k,e.pl,e.ix,e.ct+1⟩:En)),_,⟨do_,do_,hr,do_,do_⟩,tu_,O⟩
     .rw [G (by rw[h5];exact b2o)]at hr;refine V r6 ?_;exact⟨(j+1,e),_,⟨do_,do_,hr,h0,do_⟩,tu_,O⟩
    .have aH:x.2.decls.length<=j:=sm_ h4;rw[U4 aH]at hr;exact d5b
  .have aH:L.length<=i:=sm_ h2;rw[U4 aH]at hr;replace hr:fiE L k p o=e:=hr;refine l9 ?_;refine d1d ?_;exact⟨_,C4 O c3d,_,_,O,O,(by rw[hr];exact .old (En.pure _).old)⟩
def c5i(x y:En):Bool:=if((x.k == 3) !=(y.k == 3))=true then y.k == 3 else if(x.k == 3)=true then Op.bytesLess x.o y.o else if(!decide (x.p=y.p))=true then Op.bytesLess x.p y.p else if(x.k != y.k)=true then decide (x.k <y.k)else Op.bytesLess x.o y.o
theorem a83(x y:En)(σ:List b9):b8 CC 63 [.agg x.cells,.agg y.cells] σ λr aa=>r= .ret (.val (.bool (c5i x y)))/\aa=σ:=by
 refine b8.anyw hCC pu_ pu_ (c9 (qO Tryz.func63 ?_)) σ;refine z_6 ?_;refine V (b6q O Tryz.runUnderlying4 trivial trivial O O O) ?_;refine qC ?_ ?_<;>intro h1
 .refine c6 ?_;exact⟨_,rE1,_,_,O,O,o3 (by rw[c5i,W h1])⟩
 .refine qC ?_ ?_<;>intro h2
  .refine c6U ?_;exact⟨_,rE1,_,_,O,O,o3 (by rw[c5i,G c1r,W h2])⟩
  .refine V b2T ?_;refine qC ?_ ?_<;>intro h3
   .refine c6U ?_;exact⟨_,rE1,_,_,O,O,o3 (by rw[c5i,G c1r,G (by rw[h2];exact b2o),W h3])⟩
   .refine qC ?_ ?_<;>intro h4
    .refine c6 ?_;exact⟨_,rE1,_,_,O,O,o3 (by rw[c5i,G c1r,G (by rw[h2];exact b2o),G (by rw[h3];exact b2o),W h4])⟩
    .refine c6U ?_;exact⟨_,rE1,_,_,O,O,o3 (by rw[c5i,G c1r,G (by rw[h2];exact b2o),G (by rw[h3];exact b2o),G (by rw[h4];exact b2o)])⟩
theorem e0u{Y:List (List CV)}{r:List CV}(h:Y[i]?=some r)(e:j=i):Y[j]?=some r:=e▸h
theorem c0t{l:List (List CV)}{z y:List CV}(hi:i<=l.length):(K3 (l++[z]) (i+1) (((l++[z]).drop i).take (l.length -i))).set i y=l.take i++y::l.drop i:=by
 obtain⟨A,B,rfl,rfl⟩:∃A B,l=A++B/\A.length=i:=⟨l.take i,l.drop i,Q,by simp;omega⟩;have h1:((A++B++[z]).drop A.length).take ((A++B).length -A.length)=B:=by simp
 rw[h1];obtain⟨h,t,ht⟩:∃h t,B++[z]=h::t:=by cases B<;>simp
 have h2:A++B++[z]=A++h::t:=by rw[H4,ht]
 have h3:t.length=B.length:=by have:=D9 List.length ht;simp at this;omega
 unfold K3;have h4:(A++h::t).take (A.length+1)=A++[h]:=by rw[List.take_append,a1i J,c9f];rfl
 have h5:(A++h::t).drop (A.length+1+B.length)=[]:=by rw[List.drop_eq_nil_iff];simp;omega
 rw[h2,h4,h5,a1f];simp
theorem c4c{l N:List (List CV)}{z:List CV}(hi:i<=l.length):(K3 (l++[z]) (i+1) N)[i]?=(l++[z])[i]?:=by
 unfold K3;rw[X1 N4,a2L,W J]
theorem c32(n:Nat)(l:List Ky):G7 n (.vec 3 (l.map Ky.cv)):=λr hr c hc=>((C7 (f:=Ky.cv) (λ_=>P5.all ⟨.val _,.val _,.val _,D⟩) _) r hr c hc).old
theorem b9I(l:List Ky):∀r∈l.map Ky.cv,∀c∈r,r9 c:=λr hr c hc=>(C7 (f:=Ky.cv) (λ_=>P5.all ⟨.val _,.val _,.val _,D⟩) _) r hr c hc
theorem b6N{f:α->List CV}{k s:Nat}{l:List α}(hk:n<=k)(hs:σ[k]?=some (.vec s (l.map f)))(hp:∀r∈l.map f,∀c∈r,r9 c):Cls n σ (.vec k 0 l.length) (.list (l.map f) true none):=
 .vec hk hs Q Q (λi r r' h1 h2=>by
  have h3:(l.map f)[i]?=some r:=by simpa[a1i]using h1
  rw[h3]at h2;injection h2 with h2;rw[h2]) (λi j r r' c c' h1 h2 h3 h4=>by
  have h5:(l.map f)[i]?=some r:=by simpa[a1i]using h1
  rw[h5]at h2;injection h2 with h2;subst h2
  rw[h3]at h4;injection h4 with h4;subst h4
  exact .old (hp r (n_2 h5) c (n_2 h3)).old)
theorem c60{l:List α}(h:l≠[]):gnn l.length=true:=by cases l;exact absurd O h;rfl
def gV{α:Type}:List α->Nat->CV
 | [],_=>.list [] false none
 |x::l,q=>.vec q 0 (x::l).length
def gO{α:Type}(s:Nat)(f:α->List CV):List α->b9
 | []=>.dead
 |x::l=>.vec s ((x::l).map f)
theorem a0y{l:List α}(h:l≠[])(q:Nat):gV l q= .vec q 0 l.length:=by cases l;exact absurd O h;rfl
theorem c2U{s:Nat}{f:α->List CV}{l:List α}(h:l≠[]):gO s f l= .vec s (l.map f):=by cases l;exact absurd O h;rfl
theorem b21(l:List En):∀r∈l.map En.cells,∀c∈r,r9 c:=λr hr c hc=>(C7 (f:=En.cells) (λ_=>P5.all ⟨.val _,.val _,.val _,.val _,.val _,.val _,D⟩) _) r hr c hc
theorem Q7(l:List En)(nn:Bool):r9 (.list (l.map En.cells) nn none):=M4 (f:=En.cells) (λ_=>⟨.val _,.val _,.val _,.val _,.val _,.val _,D⟩) l nn
theorem a6Y(n:Nat)(l:List En):G7 n (.vec 6 (l.map En.cells)):=λr hr c hc=>(b21 l r hr c hc).old
theorem b49(n:Nat)(l:List En):G7 n (gO 6 En.cells l):=by
 cases l
 .trivial
 .exact a6Y n _
theorem d6s(l:List En)(hq:n<=q)(h:σ[q]?=some (gO 6 En.cells l)):Cls n σ (gV l q) (.list (l.map En.cells) (gnn l.length) none):=by
 by_cases h0:l=[]
 .subst h0;exact .old (Q7 [] _).old
 .rw [a0y h0,c60 h0];exact b6N hq (by rw[h,c2U h0]) (b21 l)
theorem d8d(l:List En)(k q:Nat):ShV k q (gV l k) (gV l q):=by
 cases l
 .exact .inl O
 .exact .inr (.inl ⟨_,_,O,O⟩)
theorem b3w{k:Nat}(l:List En)(h:ao[j]?=some k):D5 L ao (gV l k) (gV l j):=by
 cases l
 .exact .same O (Q7 [] _).old
 .exact .vec h
theorem d4B(x y:En):∀w,(Op.equal 59 (.agg [.string (str x.p),.string (str x.o),.int .i64 x.k,.string (str x.pl),.int .i64 x.ix,.int .i64 x.ct].toArray) (.agg [.string (str y.p),.string (str y.o),.int .i64 y.k,.string (str y.pl),.int .i64 y.ix,.int .i64 y.ct].toArray)).run CC.P w= .ok (decide (x=y)) w:=λw=>by
 show(Op.equal _ _ _).run Tryz.prog w=_;simp[Op.equal,Op.maxDepth,go_sem,U9];obtain⟨a,b,c,d,e,f⟩:=x;obtain⟨a',b',c',d',e',f'⟩:=y;by_cases h1:a=a'<;>by_cases h2:b=b'<;>by_cases h3:c=c'<;>by_cases h4:d=d'<;>by_cases h5:e=e'<;>by_cases h6:f=f'<;>simp[h1,h2,h3,h4,h5,h6]
def EnP(L:List (I×Src))(e:En):Prop:=∃x∈L,∃d∈x.2.decls,e=fiE L d.k x.2.pkg d.name
theorem c91:Cls n σ (.list [] false none) (.list (([]:List En).map En.cells) (gnn ([]:List En).length) none):=.old (Q7 [] _).old
theorem b2O{l:List Fi}{L:List (I×Src)}(fR:z6 l=L)(nn:Bool)(h0:B1 l=0)(hl:l.length<=1000000)(hp:∀f∈l,f.p.length<=1000000000)(hbl:∀q b,o8 l q=some b->b.length<=1000000000)(hd:B1 l=0->∀f∈l,o8 l f.p=some f.b)(σ:List b9):b8 CC 55 [.agg (A9 l nn)] σ λr τ=>r= .ret (.agg (Y4 (L.map Prod.fst) (L.map Prod.snd)))/\τ=σ:=by
 have h:=d1R l nn hl hp hbl hd σ;rw[b3p,b3o,W h0,W h0,fR]at h;exact h
theorem d3m(l:List Fi)(nn:Bool)(hl:l.length<=1000000)(hp:∀f∈l,f.p.length<=1000000000)(hbl:∀q b,o8 l q=some b->b.length<=1000000000)(hd:B1 l=0->∀f∈l,o8 l f.p=some f.b)(hLD:B1 l=0->(z6 l).length<=1000/\∀x∈z6 l,x.2.decls.length<=100000):b8 CC 25 [.agg (A9 l nn)] [] λr τ=>∃out:List En,a03 0 τ r (.ret (.list (out.map En.cells) (gnn out.length) none))/\(B1 l=0->(∀e∈out,EnP (z6 l) e)/\out.length<=100000000):=by
 refine qO Tryz.func25 ?_;refine qD (F1 O D j3 j1 ?_);refine V c98 ?_;refine qC ?_ ?_<;>intro h1
 .have h0:¬B1 l=0:=H h1;refine c6 ?_;exact⟨_,rE1,⟨[],.ret c91,λh=>absurd h h0⟩⟩
 .have h0:B1 l=0:=H h1;obtain⟨hL,hD⟩:=hLD h0;have ez:((z6 l).map Prod.snd).length=(z6 l).length:=a02 _;generalize fR:z6 l=L at hL hD ez;refine V (c4 O Tryz.call55 ⟨D,D⟩ (b2O fR nn h0 hl hp hbl hd _) O) ?_;refine d4x ?_;refine V c2S ?_;refine C5 hCC 2 O (α:=List En×Nat) (λa=>[(3,gV a.1 2),(4,.ptr 1 0),(17,(.list ((L.map Prod.snd).map Src.cv) (gnn (L.map Prod.snd).length) none)),(18,(iv ((L.map Prod.snd).length:Int))),(19,iv a.2)]) (λa=>[.box (A9 l nn),.box (Y4 (L.map Prod.fst) (L.map Prod.snd)),gO 6 En.cells a.1]) (λa=>a.2<=L.length/\(∀e∈a.1,EnP L e)/\a.1.length<=100000*a.2) (λa=>L.length -a.2) ⟨([],0),[0,1,2],⟨n_4 _,λe he=>by simp at he,n_6 _⟩,⟨O,O⟩,q_0,⟨.inr ⟨_,O,.box ⟨.old a0A,D⟩⟩,.inr ⟨_,O,.box ⟨.old M8,.old (a0u _ _ _),D⟩⟩,.inl O,D⟩⟩ ?_;intro⟨out,i⟩ ⟨hi,hP,hn⟩;dsimp only at hi hP hn⊢;refine qk (qC ?_ ?_)<;> intro h2
  .have ah:i<L.length:=sm_ h2;obtain⟨x,hb⟩:∃x,L[i]?=some x:=⟨L[i]'ah,Q⟩;have hxm:=n_2 hb;have ii:=hD x hxm;refine V d2t ?_;refine c4t ?_;refine V a4k ?_;refine c4j hCC 4 O 2 3 (gV out 4) O D (d8d out 2 4) (α:=List En×Nat) (λa=>[(3,gV a.1 4),(4,.ptr 1 0),(6,.ptr 3 0),(17,(.list ((L.map Prod.snd).map Src.cv) (gnn (L.map Prod.snd).length) none)),(18,(iv ((L.map Prod.snd).length:Int))),(19,iv i),(24,(.list (x.2.decls.map De.cv) (gnn x.2.decls.length) none)),(25,iv x.2.decls.length),(26,iv a.2)]) (λa=>[.box (A9 l nn),.box (Y4 (L.map Prod.fst) (L.map Prod.snd)),.dead,.box x.2.cells,gO 6 En.cells a.1]) (λa=>a.2<=x.2.decls.length/\(∀e∈a.1,EnP L e)/\a.1.length<=100000*i+a.2) (λa=>x.2.decls.length -a.2) ⟨(out,0),[0,1,2,3,4],⟨n_4 _,hP,hn⟩,⟨O,O⟩,⟨U6,U6,U6,U6,U6,U6,U6,U6,U6,D⟩,⟨.inr ⟨_,O,.box ⟨.old a0A,D⟩⟩,.inr ⟨_,O,.box ⟨.old M8,.old (a0u _ _ _),D⟩⟩,.inl O,.inr ⟨_,O,.box ⟨.old (.val _),.old M8,.old (K9 _ _ _),D⟩⟩,.inr ⟨_,O,.same O (b49 _ _)⟩,D⟩⟩ ?_;intro⟨out,j⟩ ⟨hj,hP,hn⟩;dsimp only at hj hP hn⊢;refine qk (qC ?_ ?_)<;> intro h3
   .have hjt:j<x.2.decls.length:=sm_ h3;obtain⟨d,hdd⟩:∃d,x.2.decls[j]?=some d:=⟨x.2.decls[j]'hjt,Q⟩;have hdm:=n_2 hdd;have hEP:EnP L (fiE L d.k x.2.pkg d.name):=⟨x,hxm,d,hdm,O⟩;refine d5Q ?_;refine V (c4 O Tryz.call62 a36 (a8W L d.k x.2.pkg d.name J hD _) O) ?_;by_cases dB:out=[]
    .subst dB;have hnil:([]:List En).length=0:=O;refine z_7 ?_;refine m0 hCC (α:=Nat) (λk=>[(3,(.list [] false none)),(4,.ptr 1 0),(6,.ptr 3 0),(9,.ptr 6 0),(10,iv k),(17,(.list ((L.map Prod.snd).map Src.cv) (gnn (L.map Prod.snd).length) none)),(18,(iv ((L.map Prod.snd).length:Int))),(19,iv i),(24,(.list (x.2.decls.map De.cv) (gnn x.2.decls.length) none)),(25,iv x.2.decls.length),(26,iv j)]) (λ_=>[.box (A9 l nn),.box (Y4 (L.map Prod.fst) (L.map Prod.snd)),.dead,.box x.2.cells,.dead,.box d.cells,.box (fiE L d.k x.2.pkg d.name).cells]) (λk=>k<=([]:List En).length) (λk=>([]:List En).length -k) 0 (n_4 _) tu_ (aj:=[]) O A7 uz_ ?_;intro k hk;have hk0:k=0:=H hk;subst hk0;refine qk ?_;refine cW 12 ?_;refine a5N ?_;refine hY c9K ?_;refine hY a51 ?_;refine b2w ?_;refine L8 O O D O q_9 ?_;refine d6e ?_;refine L8 O O D O (λhg=>c4 O Tryz.call63 ⟨hg,hg,D⟩ (a83 (fiE L d.k x.2.pkg d.name) (fiE L d.k x.2.pkg d.name) _) O) ?_;refine b2L ?_;refine cC ?_ ?_<;>intro h4
     .exfalso;simp at h4
     .refine l9 ?_;refine cW 12 ?_;refine a5N ?_;refine hY c9K ?_;refine hY a51 ?_;refine b2w ?_;refine L8 O O D O q_9 ?_;refine d6e ?_;refine L8 O O D O (λhg=>d6f O hg hg (xs:=[.string (str (fiE L d.k x.2.pkg d.name).p),.string (str (fiE L d.k x.2.pkg d.name).o),.int .i64 (fiE L d.k x.2.pkg d.name).k,.string (str (fiE L d.k x.2.pkg d.name).pl),.int .i64 (fiE L d.k x.2.pkg d.name).ix,.int .i64 (fiE L d.k x.2.pkg d.name).ct]) (ys:=[.string (str (fiE L d.k x.2.pkg d.name).p),.string (str (fiE L d.k x.2.pkg d.name).o),.int .i64 (fiE L d.k x.2.pkg d.name).k,.string (str (fiE L d.k x.2.pkg d.name).pl),.int .i64 (fiE L d.k x.2.pkg d.name).ix,.int .i64 (fiE L d.k x.2.pkg d.name).ct]) O O Tryz.eqGuardType59 (d4B (fiE L d.k x.2.pkg d.name) (fiE L d.k x.2.pkg d.name))) ?_;refine b2L ?_;refine cC ?_ ?_<;>intro h5
      .exfalso;simp at h5
      .have eW:[(fiE L d.k x.2.pkg d.name)]≠[]:=by simp
       have hNn:[(fiE L d.k x.2.pkg d.name)].length=1:=O;have hN:∀e∈[(fiE L d.k x.2.pkg d.name)],EnP L e:=λe he=>by rw[a9t.1 he];exact hEP
       have hNl:[(fiE L d.k x.2.pkg d.name)].length<=100000*i+(j+1):=by rw[hNn];omega
       refine qk (V e0e ?_);refine qD (b41 1 O D D O q_3 a5a t_7 Tryz.typeInfo59 a4r O Q (by have hb:Tryz.t59.bytes=72:=O;rw[hb];first|omega|(simp;done)|(simp;omega)) G0 Q ?_);refine cW 7 ?_;refine a5N ?_;refine hY r6 ?_;refine hY (a1J (l:=(0+1)) O D O a5a t_7 O a52 O a7f Q) ?_;refine a5N ?_;refine hY (a1J (l:=0) O D O a5a t_7 O a52 O a7f Q) ?_;refine a2b ?_;refine qD (b3H O D D O O a5a t_7 O J Q Q ?_);refine V (T3 O D D O O a5a t_7 O J J) ?_;refine qD (a0J [En.cells (fiE L d.k x.2.pkg d.name)] O D D O j3 t_7 j1 O (r:=En.cells (fiE L d.k x.2.pkg d.name)) O O (nb O) (by rfl) O ?_);refine V r6 ?_;exact⟨([(fiE L d.k x.2.pkg d.name)],j+1),[0,1,2,3,7],⟨do_,do_,hN,hNl⟩,⟨O,O⟩,⟨U6,U6,U6,U6,U6,U6,U6,U6,U6,D⟩,⟨.inr ⟨_,O,.box ⟨.old a0A,D⟩⟩,.inr ⟨_,O,.box ⟨.old M8,.old (a0u _ _ _),D⟩⟩,.inl O,.inr ⟨_,O,.box ⟨.old (.val _),.old M8,.old (K9 _ _ _),D⟩⟩,.inr ⟨_,O,.same O (a6Y _ [(fiE L d.k x.2.pkg d.name)])⟩,D⟩⟩
    .rw [a0y dB,c2U dB];refine z_7 ?_;refine m0 hCC (α:=Nat) (λk=>[(3,(.vec 4 0 out.length)),(4,.ptr 1 0),(6,.ptr 3 0),(9,.ptr 6 0),(10,iv k),(17,(.list ((L.map Prod.snd).map Src.cv) (gnn (L.map Prod.snd).length) none)),(18,(iv ((L.map Prod.snd).length:Int))),(19,iv i),(24,(.list (x.2.decls.map De.cv) (gnn x.2.decls.length) none)),(25,iv x.2.decls.length),(26,iv j)]) (λ_=>[.box (A9 l nn),.box (Y4 (L.map Prod.fst) (L.map Prod.snd)),.dead,.box x.2.cells,(.vec 6 (out.map En.cells)),.box d.cells,.box (fiE L d.k x.2.pkg d.name).cells]) (λk=>k<=out.length) (λk=>out.length -k) 0 (n_4 _) tu_ (aj:=[]) O A7 uz_ ?_;intro k hk;obtain⟨y,hy⟩:∃y,k<out.length->out[k]?=some y:=⟨out.getD k En.z,λh=>by simp[h]⟩;refine qk ?_;refine cW 12 ?_;refine a5N ?_;refine hY (a0M O D O a5a O O) ?_;refine hY a51 ?_;refine b2w ?_;refine L8 O O D O d9h ?_;refine L8 O O D O d9B ?_;refine L8 O O D O d0s ?_;refine L8 O O D O (λhg=>c4 O Tryz.call63 ⟨hg,hg,D⟩ (a83 y (fiE L d.k x.2.pkg d.name) _) O) ?_;refine b2L ?_;refine qC ?_ ?_<;>intro h4
     .have hlt4:k<out.length:=sm_ h4;refine V r6 ?_;exact⟨(k+1),_,⟨J,J⟩,tu_,O⟩
     .refine l9 ?_;refine cW 12 ?_;refine a5N ?_;refine hY (a0M O D O a5a O O) ?_;refine hY a51 ?_;refine b2w ?_;refine L8 O O D O d9h ?_;refine L8 O O D O d9B ?_;refine L8 O O D O d0s ?_;refine L8 O O D O (λhg=>d6f O hg hg (xs:=[.string (str y.p),.string (str y.o),.int .i64 y.k,.string (str y.pl),.int .i64 y.ix,.int .i64 y.ct]) (ys:=[.string (str (fiE L d.k x.2.pkg d.name).p),.string (str (fiE L d.k x.2.pkg d.name).o),.int .i64 (fiE L d.k x.2.pkg d.name).k,.string (str (fiE L d.k x.2.pkg d.name).pl),.int .i64 (fiE L d.k x.2.pkg d.name).ix,.int .i64 (fiE L d.k x.2.pkg d.name).ct]) O O Tryz.eqGuardType59 (d4B y (fiE L d.k x.2.pkg d.name))) ?_;refine b2L ?_;refine qC ?_ ?_<;>intro h5
      .have aB:out≠[]:=dB;refine b5Z ?_;exact⟨(out,j+1),[0,1,2,3,4],⟨do_,do_,hP,do_⟩,⟨O,O⟩,⟨U6,U6,U6,U6,U6,U6,U6,U6,U6,D⟩,⟨.inr ⟨_,O,.box ⟨.old a0A,D⟩⟩,.inr ⟨_,O,.box ⟨.old M8,.old (a0u _ _ _),D⟩⟩,.inl O,.inr ⟨_,O,.box ⟨.old (.val _),.old M8,.old (K9 _ _ _),D⟩⟩,.inr ⟨_,O,.same (c2U dB).symm (b49 _ _)⟩,D⟩⟩
      .have hNn:(out.take k++(fiE L d.k x.2.pkg d.name)::out.drop k).length=out.length+1:=by simp;omega
       have eW:(out.take k++(fiE L d.k x.2.pkg d.name)::out.drop k)≠[]:=by simp
       have hN:∀e∈(out.take k++(fiE L d.k x.2.pkg d.name)::out.drop k),EnP L e:=by
        intro e he
        rcases W0.1 he with he|he
        .exact hP e (a6v he)
        .rcases J6.1 he with rfl|he
         .exact hEP
         .exact hP e (a8H he)
       have hNl:(out.take k++(fiE L d.k x.2.pkg d.name)::out.drop k).length<=100000*i+(j+1):=by rw[hNn];omega
       obtain⟨z,hz⟩:∃z,(out++[(fiE L d.k x.2.pkg d.name)])[k]?=some z:=⟨(out++[(fiE L d.k x.2.pkg d.name)])[k]'N4,Q⟩;have hrx:(K3 ((out++[(fiE L d.k x.2.pkg d.name)]).map En.cells) (0+(k+1)) ((((out++[(fiE L d.k x.2.pkg d.name)]).map En.cells).drop (0+k)).take (out.length+1- (k+1))))[0+(k:Int).toNat]?=some (En.cells z):=by
        rw[show 0+(k:Int).toNat=k by omega,P2,P2,show out.length+1- (k+1)=out.length -k by omega,b42,a8w,List.map_nil,c4c (H hk)];have:((out++[(fiE L d.k x.2.pkg d.name)]).map En.cells)[k]?=some (En.cells z):=by rw[P8,hz];rfl
        simpa using this
       have aP:(K3 ((out++[(fiE L d.k x.2.pkg d.name)]).map En.cells) (0+(k+1)) ((((out++[(fiE L d.k x.2.pkg d.name)]).map En.cells).drop (0+k)).take (out.length+1- (k+1)))).set (0+(k:Int).toNat) (En.cells (fiE L d.k x.2.pkg d.name))=(out.take k++(fiE L d.k x.2.pkg d.name)::out.drop k).map En.cells:=by
        rw[show 0+(k:Int).toNat=k by omega,P2,P2,show out.length+1- (k+1)=out.length -k by omega];have:=c0t (l:=out.map En.cells) (z:=En.cells (fiE L d.k x.2.pkg d.name)) (y:=En.cells (fiE L d.k x.2.pkg d.name)) (i:=k) (H hk);simpa using this
       refine V e0e ?_;refine qD (a2z ((out++[(fiE L d.k x.2.pkg d.name)]).map En.cells) (out.length+1) O D D O q_3 a5a t_7 Tryz.typeInfo59 a4r O O Q Q (by have hb:Tryz.t59.bytes=72:=O;rw[hb];first|omega|(simp;done)|(simp;omega)) G0 Q Q ?_);refine cW 7 ?_;refine a5N ?_;refine hY r6 ?_;refine hY (a1J (l:=(k+1)) O D O a5a t_7 O a52 O a7f Q) ?_;refine a5N ?_;refine hY (a1J (l:=k) O D O a5a t_7 O a52 O a7f Q) ?_;refine a2b ?_;refine qD (b3H O D D O O a5a t_7 O J N4 N4 ?_);refine V (T3 O D D O O a5a t_7 O J J) ?_;refine qD (a0J ((out.take k++(fiE L d.k x.2.pkg d.name)::out.drop k).map En.cells) O D D O j3 t_7 j1 O hrx O (nb O) (by exact aP) O ?_);refine V r6 ?_;exact⟨((out.take k++(fiE L d.k x.2.pkg d.name)::out.drop k),j+1),[0,1,2,3,7],⟨do_,do_,hN,hNl⟩,⟨O,O⟩,⟨U6,U6,U6,U6,U6,U6,U6,U6,U6,D⟩,⟨.inr ⟨_,O,.box ⟨.old a0A,D⟩⟩,.inr ⟨_,O,.box ⟨.old M8,.old (a0u _ _ _),D⟩⟩,.inl O,.inr ⟨_,O,.box ⟨.old (.val _),.old M8,.old (K9 _ _ _),D⟩⟩,.inr ⟨_,O,.same (c2U eW).symm (b49 _ _)⟩,D⟩⟩
   .refine b5Z ?_;exact⟨(out,i+1),[0,1,4],⟨do_,do_,hP,do_⟩,⟨O,O⟩,q_0,⟨.inr ⟨_,O,.box ⟨.old a0A,D⟩⟩,.inr ⟨_,O,.box ⟨.old M8,.old (a0u _ _ _),D⟩⟩,.inr ⟨_,O,.same O (b49 _ _)⟩,D⟩⟩
  .refine W5 ?_;exact⟨_,a1w O D O,⟨out,.ret (d6s (q:=2) out (n_4 _) O),λ_=>⟨hP,J⟩⟩⟩
theorem b72(l:List Fi)(nn:Bool)(hl:l.length<=1000000)(hp:∀f∈l,f.p.length<=1000000000)(hbl:∀q b,o8 l q=some b->b.length<=1000000000)(hd:B1 l=0->∀f∈l,o8 l f.p=some f.b)(hLD:B1 l=0->(z6 l).length<=1000/\∀x∈z6 l,x.2.decls.length<=100000)(σ:List b9):b8 CC 25 [.agg (A9 l nn)] σ λr τ=>∃out:List En,r= .ret (.list (out.map En.cells) (gnn out.length) none)/\τ=σ/\(B1 l=0->(∀e∈out,EnP (z6 l) e)/\out.length<=100000000):=
 I0 (α:=List En) (res:=λout=>.ret (.list (out.map En.cells) (gnn out.length) none)) hCC (λc h=>by simp at h;subst h;exact j4 ⟨B6 _ _,D⟩) (d3m l nn hl hp hbl hd hLD) (λ_ _=>Q7 _ _) σ
def okK:List Ex->Nat->List Int->Prop
 | [],_,st=>st.length=1
 |x::l,i,st=>x.args.length<=st.length/\x.args=st.drop (st.length -x.args.length)/\okK l (i+1) (st.take (st.length -x.args.length)++[(i:Int)])
theorem c5N{l:List Ex}(h:l[i]?=some x)(st:List Int):okK (l.drop i) i st↔x.args.length<=st.length/\x.args=st.drop (st.length -x.args.length)/\okK (l.drop (i+1)) (i+1) (st.take (st.length -x.args.length)++[(i:Int)]):=by
 obtain⟨ah,rfl⟩:=n_3.1 h;rw[U5 ah,okK]
def sO:List Int->List Int->b9
 | [],_=>.dead
 |x::l,rest=>.vec 1 ((x::l++rest).map icv)
theorem c7G{l:List Int}(h:l≠[])(rest:List Int):sO l rest= .vec 1 ((l++rest).map icv):=by cases l;exact absurd O h;rfl
theorem b0M(n:Nat)(l r:List Int):G7 n (sO l r):=by
 cases l
 .trivial
 .exact b0d n _
theorem b5L(E:List Ex)(en:Bool)(hE:E.length<=1000)(hA:∀x∈E,¬arK x.k <0->(x.args.length:Int)=arK x.k)(cy:okK E 0 []):b8 CC 223 [(.list (E.map Ex.cv) en none)] [] λr τ=>∃_:Unit,a03 0 τ r (.ret (.val (.bool true)))/\True:=by
 refine qO Tryz.func223 ?_;refine V a8V ?_;refine C5 hCC 0 O (α:=List Int×List Int×Nat) (λa=>[(3,gV a.1 0),(8,(.list (E.map Ex.cv) en none)),(9,iv E.length),(10,iv a.2.2)]) (λa=>[sO a.1 a.2.1]) (λa=>a.2.2<=E.length/\a.1.length+a.2.1.length<=a.2.2/\okK (E.drop a.2.2) a.2.2 a.1) (λa=>E.length -a.2.2) ⟨([],[],0),[99],⟨n_4 _,n_6 _,cy⟩,⟨O,O⟩,ut_,uq_⟩ ?_;rintro⟨st,rest,i⟩ ⟨hi,hsr,hr⟩;dsimp only at hi hsr hr⊢;refine qs 2 (qC ?_ ?_)<;> intro h1
 .have ah:i<E.length:=sm_ h1;obtain⟨x,hb⟩:∃x,E[i]?=some x:=⟨E[i]'ah,Q⟩;rw[c5N hb]at hr;obtain⟨k1,k2,hr⟩:=hr;have iy:=hA x (n_2 hb);by_cases aB:st=[]
  .subst aB;refine J2 ?_;refine qs 2 (V c1p ?_);refine b86 ?_;refine V c6d ?_;refine W3 hCC (α:=Unit) (λ_=>[(3,(.list [] false none)),(4,iv i),(5,.ptr 1 0),(6,iv x.args.length),(8,(.list (E.map Ex.cv) en none)),(9,iv E.length),(10,iv i)]) (λ_=>[.dead,.box x.cells]) (λ_=>True) A7 uz_ ?_ ?_
   .
    refine qk (qC ?_ ?_)<;> intro h2
    .exact c5H
    .have aH:¬arK x.k <0:=H h2;have bT:=iy aH;exact⟨(),_,D,d7H,O⟩
   .intro _ _;refine qk (V a1Q ?_);refine a1u ?_;refine qG (λhg=>a0a O hg O t_3 b1M O) ?_;refine b0C ?_;refine cC ?_ ?_<;>intro h3
    .exfalso;simp at h3;simp at k1;simp[k1]at h3
    .refine qk ?_;refine m0 hCC (α:=Nat) (λk=>[(3,(.list [] false none)),(4,iv i),(5,.ptr 1 0),(6,iv x.args.length),(7,iv k),(8,(.list (E.map Ex.cv) en none)),(9,iv E.length),(10,iv i)]) (λ_=>[.dead,.box x.cells]) (λk=>k<=x.args.length) (λk=>x.args.length -k) 0 (n_4 _) tu_ (aj:=[]) O A7 uz_ ?_;intro k hk;refine qk ?_;refine cC ?_ ?_<;>intro h4
     .exfalso;have:=Nat.le_zero.1 k1;simp at h4;omega
     .have k0:x.args.length=0:=Nat.le_zero.1 k1;have hnil:∀r∈([]:List (List CV)),r.length=1:=λr h=>by cases h
      have dF:([]:List (List CV)).length=0:=O;have cH:([]:List Int).length=0:=O;refine l9 ?_;refine V a1Q ?_;refine V a8d ?_;refine V (a6S (h:=0) O D O t_3 t_1 c06 O a52 a7f G0) ?_;refine V d8j ?_;refine qD (b41 1 O D D O q_3 t_3 t_1 c5r t_6 O Q b3i G0 Q ?_);refine b1G ?_;exact⟨(([]++[(i:Int)]),[],i+1),[2],⟨do_,do_,by dsimp only;simp,H hr⟩,⟨O,O⟩,ut_,uq_⟩
  .rw [a0y aB,c7G aB];by_cases bL:x.args.length=0/\rest=[]
   .obtain ⟨eS,aT⟩:=bL;refine J2 ?_;refine qs 2 (V c1p ?_);refine b86 ?_;refine V c6d ?_;refine W3 hCC (α:=Unit) (λ_=>[(3,(.vec 0 0 st.length)),(4,iv i),(5,.ptr 1 0),(6,iv x.args.length),(8,(.list (E.map Ex.cv) en none)),(9,iv E.length),(10,iv i)]) (λ_=>[(.vec 1 ((st++rest).map icv)),.box x.cells]) (λ_=>True) A7 uz_ ?_ ?_
    .
     refine qk (qC ?_ ?_)<;> intro h2
     .exact c5H
     .have aH:¬arK x.k <0:=H h2;have bT:=iy aH;exact⟨(),_,D,d7H,O⟩
    .intro _ _;refine qk (V a1Q ?_);refine a1u ?_;refine qG (λhg=>a0M O hg O t_3 O O) ?_;refine b0C ?_;refine cC ?_ ?_<;>intro h3
     .exfalso;simp at h3;omega
     .refine e0z ?_;intro k hk;refine qk (qC ?_ ?_)<;> intro h4
      .have fm:k<x.args.length:=sm_ h4;obtain⟨v,hv⟩:∃v,x.args[k]?=some v:=⟨x.args[k]'fm,Q⟩;have cB:(st++rest)[st.length -x.args.length+k]?=some v:=by
        rw[X1 J,<- a5H,<- k2,hv]
       refine cW 15 ?_;refine d0P ?_;refine hY A3 ?_;refine hY c1l ?_;refine hY a3r ?_;refine a5N ?_;refine hY b69 ?_;refine hY A3 ?_;refine hY a8d ?_;refine hY A3 ?_;refine hY a5Z ?_;refine d5O ?_;refine hY a51 ?_;refine a2b ?_;refine cC ?_ ?_<;>intro h5
       .exfalso;simp at h5
       .refine b1G ?_;exact⟨(k+1),_,⟨J,J⟩,tu_,O⟩
      .refine l9 ?_;refine V b69 ?_;refine V a8d ?_;refine V e0I ?_;refine V d8j ?_;refine qD (a2z (((st.take (st.length -x.args.length)++[(i:Int)])++[]).map icv) (st.take (st.length -x.args.length)++[(i:Int)]).length O D D O q_3 t_3 t_1 c5r t_6 O O (by simp[eS,aT]) Q b3i G0 (by simp[eS,aT,icv]) (by simp[eS,aT]) ?_);refine b1G ?_;exact⟨((st.take (st.length -x.args.length)++[(i:Int)]),[],i+1),[2],⟨do_,do_,by dsimp only;simp;omega,hr⟩,⟨O,O⟩,q_2,⟨.inr ⟨_,O,.same (c7G Q _).symm (b0M _ _ _)⟩,D⟩⟩
   .have hin2:st.length -x.args.length+1<=st.length+rest.length:=by
     rcases b1C x.args.length with h|h
     .have:rest≠[]:=λe=>bL ⟨h,e⟩;have:=b2h.2 this;omega
     .omega
    refine J2 ?_;refine qs 2 (V c1p ?_);refine b86 ?_;refine V c6d ?_;refine W3 hCC (α:=Unit) (λ_=>[(3,(.vec 0 0 st.length)),(4,iv i),(5,.ptr 1 0),(6,iv x.args.length),(8,(.list (E.map Ex.cv) en none)),(9,iv E.length),(10,iv i)]) (λ_=>[(.vec 1 ((st++rest).map icv)),.box x.cells]) (λ_=>True) A7 uz_ ?_ ?_
    .
     refine qk (qC ?_ ?_)<;> intro h2
     .exact c5H
     .have aH:¬arK x.k <0:=H h2;have bT:=iy aH;exact⟨(),_,D,d7H,O⟩
    .intro _ _;refine qk (V a1Q ?_);refine a1u ?_;refine qG (λhg=>a0M O hg O t_3 O O) ?_;refine b0C ?_;refine cC ?_ ?_<;>intro h3
     .exfalso;simp at h3;omega
     .refine e0z ?_;intro k hk;refine qk (qC ?_ ?_)<;> intro h4
      .have fm:k<x.args.length:=sm_ h4;obtain⟨v,hv⟩:∃v,x.args[k]?=some v:=⟨x.args[k]'fm,Q⟩;have cB:(st++rest)[st.length -x.args.length+k]?=some v:=by
        rw[X1 J,<- a5H,<- k2,hv]
       refine cW 15 ?_;refine d0P ?_;refine hY A3 ?_;refine hY c1l ?_;refine hY a3r ?_;refine a5N ?_;refine hY b69 ?_;refine hY A3 ?_;refine hY a8d ?_;refine hY A3 ?_;refine hY a5Z ?_;refine d5O ?_;refine hY a51 ?_;refine a2b ?_;refine cC ?_ ?_<;>intro h5
       .exfalso;simp at h5
       .refine b1G ?_;exact⟨(k+1),_,⟨J,J⟩,tu_,O⟩
      .refine l9 ?_;refine V b69 ?_;refine V a8d ?_;refine V e0I ?_;refine V d8j ?_;refine qD (b1U (((st.take (st.length -x.args.length)++[(i:Int)])++((st++rest).drop (st.length -x.args.length+1))).map icv) (st.take (st.length -x.args.length)++[(i:Int)]).length O D D O q_3 t_3 t_1 O N4 (by rw[P2];unfold K3;simp[b42,icv,List.map_take,List.map_drop,d0p];done) Q O ?_);refine b1G ?_;exact⟨((st.take (st.length -x.args.length)++[(i:Int)]),((st++rest).drop (st.length -x.args.length+1)),i+1),[0],⟨do_,do_,by dsimp only;simp;omega,hr⟩,⟨O,O⟩,q_2,⟨.inr ⟨_,O,.same (c7G Q _).symm (b0M _ _ _)⟩,D⟩⟩
 .have hie:i=E.length:=sm_ h1;rw[hie,c2K,okK]at hr;obtain⟨z,rfl⟩:=List.length_eq_one_iff.1 hr;refine l9 ?_;refine V b69 ?_;refine c6 ?_;exact⟨_,a1w O D O,⟨(),.ret (.old (.val _)),D⟩⟩
theorem b91(E:List Ex)(en:Bool)(hE:E.length<=1000)(hA:∀x∈E,¬arK x.k <0->(x.args.length:Int)=arK x.k)(cy:okK E 0 [])(σ:List b9):b8 CC 223 [.list (E.map Ex.cv) en none] σ λr τ=>r= .ret (.val (.bool true))/\τ=σ:=
 (I0 (res:=λ_:Unit=>.ret (.val (.bool true))) (P:=λ_=>True) hCC (λa h=>by simp at h;subst h;exact F8 _ _) (b5L E en hE hA cy) (λ_ _=>.val _) σ).mono λr τ ⟨_,h1,h2,_⟩=>⟨h1,h2⟩
mutual
theorem b8B:∀(t:Tr) (s:Nat) (R:List Ex) (st:List Int),okK (t.flat s++R) s st↔okK R (s+t.size) (st++[((s+t.size -1:Nat):Int)])
 | .n k u o nm ch,s,R,st=>by
  rw[Tr.flat,H4,b3x ch s _ st,List.singleton_append,okK,Tr.size];have hl:(st++C0 ch s).length - (C0 ch s).length=st.length:=by rw[n_8];omega
  dsimp only;rw[hl,List.drop_left,List.take_left,n_8,show s+(C2 ch+1) -1=s+C2 ch by omega,<- a9x];exact⟨λh=>h.2.2,λh=>⟨J,O,h⟩⟩
theorem b3x:∀(l:List Tr) (s:Nat) (R:List Ex) (st:List Int),okK (L7 l s++R) s st↔okK R (s+C2 l) (st++C0 l s)
 | [],s,R,st=>by rw[L7,C2,C0,b4Y,a1f];rfl
 |t::l,s,R,st=>by rw[L7,H4,b8B t s,b3x l,C0,C2,H4,List.singleton_append,a9x]
end
theorem b6v(t:Tr):okK (t.flat 0) 0 []:=by
 have:=(b8B t 0 [] []).2 (by simp[okK]);rwa[a1f]at this
theorem DeG.ar(h:DeG d):∀x∈d.body,P3 d.params.length x.k x.num x.op x.name x.args.length:=λx hx=>by
 obtain⟨t,h1,h2⟩:=h.tree;obtain⟨j,hj⟩:=M5.1 hx;have hl:=(n_3.1 hj).1;rw[h1,Tr.flat_len]at hl;obtain⟨y,z,ch,g⟩:=c1N h2 hl;rw[h1]at hj;obtain rfl:=Option.some.inj (hj.symm.trans g.e);exact g.ok
theorem P3.arK{np c:Nat}{k u o:Int}{nm:I}(h:P3 np k u o nm c)(hn:¬arK k<0):(c:Int)=arK k:=by
 have hc:=h.cnt;unfold Go.Proofs.YtlppbmfecjabeaaGreatDoor.arK at hn⊢;by_cases h3:k=3
 .rw [W h3]at hn;omega
 .rw [G h3]at hn⊢;split at hc
  .rename_i h4;rw[W h4];omega
  .rename_i h4;rw[G h4];split at hc
   .rename_i h5;rw[W h5];omega
   .rename_i h5;rw[G h5];split at hc
    .rename_i h6;rw[W h6];omega
    .rename_i h6;rw[G h6];omega
theorem c42(l:List De)(nn:Bool)(k:Int)(u:I)(hl:l.length<=1000000):b8 CC 224 [.agg [sv [],.list [] false none,.list (l.map De.cv) nn none],iv k,(sv u)] [] λr aa=>r= .ret (.val (.bool (l.any λd=>(d.k == k)&&decide (d.name=u))))/\aa=[]:=by
 refine c9 (qO Tryz.func224 ?_);refine qD (F1 O D j3 j1 ?_);refine V a4k ?_;refine m0 hCC (α:=Nat) (λi=>[(1,iv k),(2,(sv u)),(10,(.list (l.map De.cv) nn none)),(11,iv l.length),(12,iv i)]) (λ_=>[.box [sv [],.list [] false none,.list (l.map De.cv) nn none]]) (λi=>i<=l.length/\(l.any λd=>(d.k == k)&&decide (d.name=u))=((l.drop i).any λd=>(d.k == k)&&decide (d.name=u))) (λi=>l.length -i) 0 ⟨n_4 _,O⟩ tu_ (aj:=[]) O A7 uz_ ?_;intro i ⟨hi,hd⟩;refine qk (qC ?_ ?_)<;> intro h1
 .have ah:i<l.length:=sm_ h1;obtain⟨w,hb⟩:∃w,l[i]?=some w:=⟨l[i]'ah,Q⟩;refine V d0A ?_;refine c0w ?_;refine qG b8b ?_;refine qG a26 ?_;refine b3z ?_;refine qC ?_ ?_<;>intro h2
  .have hw:((w.k == k)&&decide (w.name=u))=true:=H h2;refine c6 ?_;exact⟨_,rE1,_,_,O,O,o3 (show true=(l.any λd=>(d.k == k)&&decide (d.name=u))from(b3Q hb hw).symm)⟩
  .have hw:((w.k == k)&&decide (w.name=u))=false:=H h2;exact d5v
 .have aH:l.length<=i:=sm_ h1;refine W5 ?_;exact⟨_,rE1,_,_,O,O,o3 (show false=(l.any λd=>(d.k == k)&&decide (d.name=u)) by rw[hd,U4 aH];rfl)⟩
theorem c4p(l:List De)(nn:Bool)(i:Nat)(k:Int)(u:I)(hl:l.length<=1000000)(σ:List b9):b8 CC 224 [.agg [sv [],.list [] false none,.list (((l.map De.cv).take i).drop 0) nn none],iv k,sv u] σ λr aa=>r= .ret (.val (.bool ((l.take i).any λd=>(d.k == k)&&decide (d.name=u))))/\aa=σ:=by
 rw[b3S,<- List.map_take];exact b8.anyw hCC (by repeat' (first|exact .val _|exact o6 [] _|exact a1L _ _|exact D|refine j4 ?_|refine⟨?_,?_⟩)) (.val _) (c42 (l.take i) nn k u a7e) σ
theorem c2F(l:List I)(nn:Bool)(i:Nat)(x:I)(hl:l.length<=1000000)(σ:List b9):b8 CC 186 [.list (((l.map scv).take i).drop 0) nn none,sv x] σ λr aa=>r= .ret (.val (.bool (decide (x∈l.take i))))/\aa=σ:=by
 rw[b3S,<- List.map_take];exact a7k (l.take i) nn x a7e σ
theorem d0q{l:List De}(h:(l.map λd=>(d.k,d.name)).Nodup)(hd:l[i]?=some d):((l.take i).any λy=>(y.k == d.k)&&decide (y.name=d.name))=false:=by
 refine List.any_eq_false.2 λy hy he=>?_;simp at he;refine a6z h (i:=i) (y:=(d.k,d.name)) (by rw[P8,hd];rfl) ?_;rw[<- List.map_take];exact H9.2 ⟨y,hy,by rw[he.1,he.2]⟩
theorem DeG.nlen(h:DeG d):d.name.length<=80:=by
 by_cases hk:d.k=3
 .exact Q1 (h.path hk)
 .have:=C9 (h.name hk).1;omega
theorem b9A(x:Src)(h:a0i x)(σ:List b9):b8 CC 177 [.agg x.cells] σ λr aa=>r= .ret (iv (0))/\aa=σ:=by
 refine b8.anyw hCC pu_ pu_ (c9 (qO Tryz.func177 ?_)) σ;refine qD (F1 O D j3 j1 ?_);refine V (c4 O b8K ⟨D,D⟩ (a29 x.pkg (by have:=C9 h.pkg.1;omega) _) O) ?_;refine qC ?_ ?_<;>intro h1
 .exfalso;simp[h.pkg]at h1
 .have bM:=h.impl;have gE:=h.decl;refine V K6 ?_;refine m0 hCC (α:=Nat) (λi=>[(1,.ptr 0 0),(24,(.list (x.imports.map scv) (gnn x.imports.length) none)),(25,iv x.imports.length),(26,iv i)]) (λ_=>[.box x.cells]) (λi=>i<=x.imports.length) (λi=>x.imports.length -i) 0 (n_4 _) tu_ (aj:=[]) O A7 uz_ ?_;intro i hi;refine qk (qC ?_ ?_)<;> intro h2
  .have ah:i<x.imports.length:=sm_ h2;obtain⟨y,hb⟩:∃y,x.imports[i]?=some y:=⟨x.imports[i]'ah,Q⟩;have cw:=h.imp y (n_2 hb);refine V a9e ?_;refine V (c4 O b8K ⟨D,D⟩ (a29 y (by have:=C9 cw.1;omega) _) O) ?_;refine qC ?_ ?_<;>intro h3
   .exfalso;simp[cw]at h3
   .exact b2n
  .refine l9 ?_;refine V a4k ?_;refine m0 hCC (α:=Nat) (λi=>[(1,.ptr 0 0),(35,(.list (x.decls.map De.cv) (gnn x.decls.length) none)),(36,iv x.decls.length),(37,iv i)]) (λ_=>[.box x.cells]) (λi=>i<=x.decls.length) (λi=>x.decls.length -i) 0 (n_4 _) tu_ (aj:=[]) O A7 uz_ ?_;intro i hi;refine qk (qC ?_ ?_)<;> intro h4
   .have ah:i<x.decls.length:=sm_ h4;obtain⟨d,hd⟩:∃d,x.decls[i]?=some d:=⟨x.decls[i]'ah,Q⟩;have hg:=h.dec d (n_2 hd);have bf:=hg.parl;have hbl:=hg.blen;have fJ:=hg.nlen;refine V b5Q ?_;refine c0w ?_;refine qG b7X ?_;refine qG a32 ?_;refine a3l ?_;refine qG b7X ?_;refine qG a32 ?_;refine b7Z ?_;refine qH O O (λhk hg=>j2 O D O a9y O a2E U) ?_;refine qH O O (λhk hg=>o5 O ⟨hk,hg⟩ O b7J O O) ?_;refine qH O O (λhk hg=>a0a O ⟨hk,hg⟩ O t_2 b1M O) ?_;refine d1Z ?_;refine V U8 ?_;refine qG b7X ?_;refine qG a32 ?_;refine b7Z ?_;refine d5w ?_;refine qH O O (λhk hg=>c4 O c3A ⟨⟨hk,hg⟩,D⟩ (a1I d.name _) O) ?_;refine d0R ?_;refine V U8 ?_;refine qG b7X ?_;refine qG a32 ?_;refine b7Z ?_;refine d5w ?_;refine qH O O (λhk hg=>c4 O b8K ⟨⟨hk,hg⟩,D⟩ (a29 d.name J _) O) ?_;refine d0R ?_;refine V U8 ?_;refine qC ?_ ?_<;>intro h5
    .exfalso;have hn:=hg.name;have hp:=hg.path;have hpa:=hg.pars
     rcases hg.kind with hk|hk|hk
     .have a1:=hn J;simp[hk,a1]at h5
     .have a1:=hn J;have a2:=hpa J;simp[hk,a1,a2]at h5
     .have a1:=hp hk;have a2:=hpa J;simp[hk,a1,a2]at h5
    .refine V K6 ?_;refine m0 hCC (α:=Nat) (λj=>[(1,.ptr 0 0),(6,.ptr 1 0),(35,(.list (x.decls.map De.cv) (gnn x.decls.length) none)),(36,iv x.decls.length),(37,iv i),(83,(.list (d.params.map scv) (gnn d.params.length) none)),(84,iv d.params.length),(85,iv j)]) (λ_=>[.box x.cells,.box d.cells]) (λj=>j<=d.params.length) (λj=>d.params.length -j) 0 (n_4 _) tu_ (aj:=[]) O A7 uz_ ?_;intro j hj;refine qk (qC ?_ ?_)<;> intro h6
     .have ah:j<d.params.length:=sm_ h6;obtain⟨y,hb⟩:∃y,d.params[j]?=some y:=⟨d.params[j]'ah,Q⟩;have cw:=hg.par y (n_2 hb);refine V a9e ?_;refine V (c4 O b8K ⟨D,D⟩ (a29 y (by have:=C9 cw.1;omega) _) O) ?_;refine qC ?_ ?_<;>intro h7
      .exfalso;simp[cw]at h7
      .exact c78
     .refine l9 ?_;refine V a8V ?_;refine m0 hCC (α:=Nat) (λj=>[(1,.ptr 0 0),(6,.ptr 1 0),(35,(.list (x.decls.map De.cv) (gnn x.decls.length) none)),(36,iv x.decls.length),(37,iv i),(94,(.list (d.body.map Ex.cv) (gnn d.body.length) none)),(95,iv d.body.length),(96,iv j)]) (λ_=>[.box x.cells,.box d.cells]) (λj=>j<=d.body.length) (λj=>d.body.length -j) 0 (n_4 _) tu_ (aj:=[]) O A7 uz_ ?_;intro j hj;refine qk (qC ?_ ?_)<;> intro h8
      .have ah:j<d.body.length:=sm_ h8;obtain⟨y,hb⟩:∃y,d.body[j]?=some y:=⟨d.body[j]'ah,Q⟩;refine V c1p ?_;refine b86 ?_;refine V K6 ?_;refine V (c4 O Tryz.call222 j7 (c0h y d.params.length _ (hg.ar y (n_2 hb)) _) O) ?_;refine cC ?_ ?_<;>intro h9
       .exfalso;simp at h9
       .refine qk ?_;exact c78
      .refine l9 ?_;refine V (c4 O Tryz.call223 ⟨D,D⟩ (b91 d.body _ J (λy hy=>(hg.ar y hy).arK) (by obtain⟨t,ht,_⟩:=hg.tree;rw[ht];exact b6v t) _) O) ?_;refine cC ?_ ?_<;>intro bj
       .exfalso;simp at bj
       .refine qk ?_;exact b2n
   .refine l9 ?_;refine V K6 ?_;refine m0 hCC (α:=Nat) (λi=>[(1,.ptr 0 0),(113,(.list (x.imports.map scv) (gnn x.imports.length) none)),(114,iv x.imports.length),(115,iv i)]) (λ_=>[.box x.cells]) (λi=>i<=x.imports.length) (λi=>x.imports.length -i) 0 (n_4 _) tu_ (aj:=[]) O A7 uz_ ?_;intro i hi;refine qk (qC ?_ ?_)<;> intro cX
    .have ah:i<x.imports.length:=sm_ cX;obtain⟨y,hb⟩:∃y,x.imports[i]?=some y:=⟨x.imports[i]'ah,Q⟩;refine b3F ?_;refine d5N ?_;refine qG D2 ?_;refine qG (λhg=>a6S (h:=i) O hg O t_2 t_0 c06 O ⟨hg,_,_,O,J,J⟩ a7f (by rw[a02];omega)) ?_;refine qG D2 ?_;refine qG (λhg=>c4 O b8D ⟨hg,hg,D⟩ (c2F x.imports _ i y J _) O) ?_;refine V U8 ?_;refine qC ?_ ?_<;>intro dL
     .exfalso;have a1:=a6z h.impn hb;have a2:y≠x.pkg:=λe=>h.impp (e▸n_2 hb);simp[a1,a2]at dL
     .exact b2n
    .refine l9 ?_;refine V a4k ?_;refine m0 hCC (α:=Nat) (λi=>[(1,.ptr 0 0),(134,(.list (x.decls.map De.cv) (gnn x.decls.length) none)),(135,iv x.decls.length),(136,iv i)]) (λ_=>[.box x.cells]) (λi=>i<=x.decls.length) (λi=>x.decls.length -i) 0 (n_4 _) tu_ (aj:=[]) O A7 uz_ ?_;intro i hi;refine qk (qC ?_ ?_)<;> intro dA
     .have ah:i<x.decls.length:=sm_ dA;obtain⟨d,hd⟩:∃d,x.decls[i]?=some d:=⟨x.decls[i]'ah,Q⟩;have hg:=h.dec d (n_2 hd);have bf:=hg.parl;refine V b5Q ?_;refine c0w ?_;refine cW 10 ?_;refine hY b7b ?_;refine hY b7Q ?_;refine hY A3 ?_;refine hY (a6S (h:=i) O D O a9h a5M c06 O a52 a7f (by rw[a02];omega)) ?_;refine hY d9o ?_;refine hY b2H ?_;refine hY V3 ?_;refine hY c6D ?_;refine hY U0 ?_;refine hY (c4 O Tryz.call224 B7 (c4p x.decls _ i d.k d.name J _) O) ?_;refine a2b ?_;refine qC ?_ ?_<;>intro gI
      .exfalso;rw[d0q h.decn hd]at gI;cases gI
      .refine V K6 ?_;refine m0 hCC (α:=Nat) (λj=>[(1,.ptr 0 0),(14,.ptr 1 0),(134,(.list (x.decls.map De.cv) (gnn x.decls.length) none)),(135,iv x.decls.length),(136,iv i),(152,(.list (d.params.map scv) (gnn d.params.length) none)),(153,iv d.params.length),(154,iv j)]) (λ_=>[.box x.cells,.box d.cells]) (λj=>j<=d.params.length) (λj=>d.params.length -j) 0 (n_4 _) tu_ (aj:=[]) O A7 uz_ ?_;intro j hj;refine qk (qC ?_ ?_)<;> intro h15
       .have ah:j<d.params.length:=sm_ h15;obtain⟨y,hb⟩:∃y,d.params[j]?=some y:=⟨d.params[j]'ah,Q⟩;refine V a9e ?_;refine V (a6S (h:=j) O D O t_2 t_0 c06 O a52 a7f (by rw[a02];omega)) ?_;refine V (c4 O b8D j7 (c2F d.params _ j y J _) O) ?_;refine qC ?_ ?_<;>intro h16
        .exfalso;simp[a6z hg.nod hb]at h16
        .exact c78
       .refine l9 ?_;exact b2n
     .refine l9 ?_;refine V K6 ?_;refine d4w ?_;refine qG (λhg=>a0a O hg O a9h b1M O) ?_;refine a3l ?_;refine cC ?_ ?_<;>intro h17
      .exfalso;simp at h17;omega
      .refine qk (V a4k ?_);refine m0 hCC (α:=Nat) (λi=>[(178,(.list (x.decls.map De.cv) (gnn x.decls.length) none)),(179,iv x.decls.length),(180,iv i)]) (λ_=>[.box x.cells]) (λi=>i<=x.decls.length) (λi=>x.decls.length -i) 0 (n_4 _) tu_ (aj:=[]) O A7 uz_ ?_;intro i hi;refine qk (qC ?_ ?_)<;> intro h18
       .have ah:i<x.decls.length:=sm_ h18;obtain⟨d,hd⟩:∃d,x.decls[i]?=some d:=⟨x.decls[i]'ah,Q⟩;have hg:=h.dec d (n_2 hd);have bf:=hg.parl;have hbl:=hg.blen;obtain⟨n,hn,hdeep⟩:=c80 hg (gnn d.body.length) [.box x.cells,.box d.cells];refine V b5Q ?_;refine c0w ?_;refine V K6 ?_;refine qG c9l ?_;refine qG c1z ?_;refine qG c6p ?_;refine a3l ?_;refine qG c9l ?_;refine qG c1z ?_;refine qG c9l ?_;refine qG c1z ?_;refine qG c6p ?_;refine qG d0O ?_;refine qG (λhg=>c4 O Tryz.call225 ⟨hg,hg,D⟩ (hdeep) O) ?_;refine a3l ?_;refine cC ?_ ?_<;>intro h19
        .exfalso;simp at h19;omega
        .refine qk ?_;exact b2n
       .refine W5 ?_;exact⟨_,rE1,_,_,O,O,C8 O⟩
theorem b5O:∀{l:List Ex} {i:Nat} {st:List Int},okK l i st->(∀a∈st,0<=a/\a< (i:Int))->∀{j:Nat} {x:Ex},l[j]?=some x->∀a∈x.args,0<=a/\a< ((i+j:Nat):Int)
 | [],_,_,_,_,_,_,h,_,_=>by cases h
 |y::l,i,st,hk,hs,0,x,h,a,ha=>by
  injection h with h
  subst h;obtain⟨_,h2,_⟩:=hk;rw[h2]at ha;exact hs a (a8H ha)
 |y::l,i,st,hk,hs,j+1,x,h,a,ha=>by
  obtain⟨_,_,h3⟩:=hk;have:=b5O h3 (λb hb=>by
   rcases W0.1 hb with hb|hb
   .have:=hs b (a6v hb);omega
   .simp at hb;omega) (j:=j) (H h) a ha
  omega
theorem DeG.node(h:DeG d)(hx:d.body[i]?=some x):P3 d.params.length x.k x.num x.op x.name x.args.length/\∀a∈x.args,0<=a/\a< (i:Int):=by
 refine⟨h.ar x (n_2 hx),λa ha=>?_⟩;obtain⟨t,h1,_⟩:=h.tree;have hk:=b6v t;rw[<- h1]at hk;have:=b5O hk (λb hb=>by cases hb) hx a ha;simpa using this
theorem Gd.pan(h:S.st<=20000):Gd S ((.inr e,S):Rs Int):=⟨a7G _,h,λv hv=>by cases hv⟩
theorem Gd.ret(h:SB S S1)(hv:InM v):Gd S ((.inl v,S1):Rs Int):=⟨h.1,h.2.1,λu hu=>by
 have:=Sum.inl.inj hu;subst this;exact⟨hv,h.2.2⟩⟩
theorem Gd.panB(h:SB S S1):Gd S ((.inr e,S1):Rs Int):=⟨h.1,h.2.1,λv hv=>by cases hv⟩
theorem Gd.of{o:Rs Int}(h:SB S S1)(hg:Gd S1 o):Gd S o:=⟨Int.le_trans h.1 hg.1,hg.2.1,λv hv=>⟨(hg.2.2 v hv).1,(hg.2.2 v hv).2.trans h.2.2⟩⟩
theorem Gd.bind{S0:MS}{o:Rs Int}{k:Int->MS->Rs Int}(h:SB S S0)(hg:Gd S0 o)(hk:∀v,o.1 = .inl v->InM v->SB S o.2->Gd S (k v o.2)):Gd S (bindM o k):=by
 cases ho:o.1 with
 |inl v=>rw[N6 ho];exact hk v ho (hg.2.2 v ho).1 (h.next hg ho)
 |inr e=>rw[R8 ho];exact⟨Int.le_trans h.1 hg.1,hg.2.1,λv hv=>by cases hv⟩
theorem SB.look(h:SB S S1)(ks:List Ky):SB S (S1.look ks):=h
theorem c5a{rec:Int->MS->Rs Int}(h3:x.args.length=3)(hs:S.st<=20000)(HR:a6f c F rec S x.args):Gd S (a0W rec x S):=by
 obtain⟨a0,a1,a2,e⟩:=d3W h3;have g0:x.args.getD 0 0=a0:=by rw[e];rfl
 have g1:x.args.getD 1 0=a1:=by rw[e];rfl
 have g2:x.args.getD 2 0=a2:=by rw[e];rfl
 rw[a0W,g0,g1,g2];refine Gd.bind (SB.refl hs) (HR a0 a1b S (SB.refl hs)).2 λv hv _ hb=>?_
 split
 .exact Gd.of hb (HR a1 a1b _ hb).2
 .exact Gd.of hb (HR a2 a1b _ hb).2
theorem d7J{w:Int}(h:a3j w= .inl v):InM v:=by
 unfold a3j at h;split at h
 .rename_i h1;have:=Sum.inl.inj h;subst this;exact h1
 .cases h
theorem d7V{a b:Int}(h:biV o a b= .inl v):InM v:=by
 unfold biV at h
 repeat' split at h
 all_goals first|exact d7J h|(cases h;done)|(have:=Sum.inl.inj h;subst this;exact⟨U,U⟩)
theorem c4L{rec:Int->MS->Rs Int}(h2:x.args.length=2)(hs:S.st<=20000)(HR:a6f c F rec S x.args):Gd S (biS rec x S):=by
 obtain⟨a0,a1,e⟩:=d4m h2;have g0:x.args.getD 0 0=a0:=by rw[e];rfl
 have g1:x.args.getD 1 0=a1:=by rw[e];rfl
 rw[biS,g0,g1];refine Gd.bind (SB.refl hs) (HR a0 a1b S (SB.refl hs)).2 λv hv _ hb=>?_;refine Gd.bind hb (HR a1 a1b _ hb).2 λw hw _ bY=>?_;cases ho:biV x.op v w with
 |inl u=>exact Gd.ret bY (d7V ho)
 |inr u=>exact Gd.panB bY
theorem b5c{c:MC}{F:Fr}{rec:Int->MS->Rs Int}{S:MS}:∀{l acc:List Int} {S1:MS},(∀v∈acc,InM v)->SB S S1->a6f c F rec S l->((a01 rec acc l S1).2.st<=20000/\S.st<=(a01 rec acc l S1).2.st)/\∀vs,(a01 rec acc l S1).1 = .inl vs->(∀v∈vs,InM v)/\SB S (a01 rec acc l S1).2
 | [],acc,S1,ha,hb,_=>⟨⟨hb.2.1,hb.1⟩,λvs hv=>by
  have:=Sum.inl.inj hv;subst this;exact⟨ha,hb⟩⟩
 |a::l,acc,S1,ha,hb,HR=>by
  have h1:=(HR a a1l S1 hb).2;rw[a01];cases ho:(rec a S1).1 with
  |inl v=>
   rw[N6 ho];exact b5c (λu hu=>by
    rcases W0.1 hu with hu|hu
    .exact ha u hu
    .simp at hu;subst hu;exact(h1.2.2 _ ho).1) (hb.next h1 ho) λi hi=>HR i (X6 _ hi)
  |inr e=>rw[R8 ho];exact⟨⟨h1.2.1,Int.le_trans hb.1 h1.1⟩,λvs hv=>by cases hv⟩
theorem c7C{x:En}{args:List Int}{an:Bool}{s:Src}(hs:S.st<=20000)(hd:O8 c x=some (s,d))(HR:Gd {S with ac:=S.ac+1} (rec ⟨s,d,args,an⟩ ((d.body.length:Int) -1) {S with ac:=S.ac+1})):Gd S (J0 rec c x args an S):=by
 rw[J0,hd]
 split
 .exact Gd.pan hs
 .dsimp only;obtain⟨h1,h2,h3⟩:=HR;cases ho:(rec ⟨s,d,args,an⟩ ((d.body.length:Int) -1) {S with ac:=S.ac+1}).1 with
  |inl v=>
   rw[N6 ho];obtain⟨h4,h5⟩:=h3 v ho;exact⟨h1,h2,λu hu=>by
    have:=Sum.inl.inj hu;subst this;refine⟨h4,?_⟩;show(rec ⟨s,d,args,an⟩ ((d.body.length:Int) -1) {S with ac:=S.ac+1}).2.ac -1=S.ac;rw[h5];show S.ac+1-1=S.ac;omega⟩
  |inr e=>rw[R8 ho];exact⟨h1,h2,λv hv=>by cases hv⟩
theorem d1b(hs:S.st<=20000)(HR:a6f c F (rec F) S x.args)(HE:W8 (E7 c F x)=0->∀(l:List Int) (S1:MS),l.length=a9z c (E7 c F x)->(∀v∈l,InM v)->SB S S1->Gd S1 (J0 rec c (E7 c F x) l (gnn l.length) S1)):Gd S (a07 rec c F x S):=by
 rw[a07]
 split
 .exact Gd.panB (SB.look (SB.refl hs) _)
 .rename_i hc;have cT:W8 (E7 c F x)=0:=Decidable.not_not.1 hc;have hA:=b5c (S:=S) (l:=x.args) (acc:=[]) (S1:=S.look (T6 c F x)) (λv hv=>by cases hv) (SB.look (SB.refl hs) _) HR;cases ho:(a01 (rec F) [] x.args (S.look (T6 c F x))).1 with
  |inl vs=>
   rw[N6 ho];obtain⟨h1,h2⟩:=hA.2 vs ho
   split
   .exact Gd.panB h2
   .rename_i hl;exact Gd.of h2 (HE cT vs _ (Decidable.not_not.1 hl) h1 h2)
  |inr e=>rw[R8 ho];exact⟨hA.1.2,hA.1.1,λv hv=>by cases hv⟩
theorem d2L(v:Int):InM ((v.tmod 256+256).tmod 256):=by
 have h1:=c1O (v.tmod 256+256);exact⟨J,J⟩
theorem d1x(h1:x.args.length=1)(hs:S.st<=20000)(HR:a6f c F (rec F) S x.args)(HE:diC c.fl true c.me x.name=0->o8 c.fl x.name=none->∀S1:MS,SB S S1->Gd S1 (J0 rec c (diE c.fl true c.me x.name) [] false S1)):Gd S (a1q rec c F x S):=by
 obtain⟨a0,e⟩:=d6d h1;have g0:x.args.getD 0 0=a0:=by rw[e];rfl
 rw[a1q,g0]
 split
 .exact Gd.panB (SB.look (SB.refl hs) _)
 .rename_i hc;have cT:diC c.fl true c.me x.name=0:=Decidable.not_not.1 hc;refine Gd.bind (SB.look (SB.refl hs) _) (HR a0 a1b _ (SB.look (SB.refl hs) _)).2 λi hi _ hb=>?_;cases hd:o8 c.fl x.name with
  |some b=>
   dsimp only
   split
   .exact Gd.panB hb
   .refine Gd.ret hb ?_;have:=(b.getD i.toNat 0).toNat_lt;exact⟨J,J⟩
  |none=>
   dsimp only
   split
   .exact Gd.panB hb
   .exact Gd.bind hb (HE cT hd _ hb) λv _ _ bY=>Gd.ret bY (d2L v)
theorem d7I(he:∀v∈c.ev,InM v.v)(h:b19 c s= .inl v):InM v:=by
 unfold b19 Y2 at h;cases hf:c.ev.find? λv=>decide (v.n=s)with
 |none=>simp[hf]at h
 |some y=>simp[hf]at h;subst h;exact he y (b22 hf)
theorem d3K(hf:∀f∈c.fl,f.b.length<=100000)(h:a4K c s= .inl v):InM v:=by
 unfold a4K at h;split at h
 .cases h
 .split at h
  .have:=Sum.inl.inj h;subst this;have hl:((o8 c.fl s).getD []).length<=100000:=by
    unfold o8;cases hq:c.fl.find? λf=>decide (f.p=s)with
    |none=>simp
    |some y=>exact hf y (b22 hq)
   exact⟨J,J⟩
  .have:=Sum.inl.inj h;subst this;exact⟨U,U⟩
def EnK(ms:SM)(q:Nm)(e:En):Prop:=q.k=e.k/\q.o=e.o/\1<=e.ct/\(e.ct=1->∃(s:Src) (d:De) (i:Nat),glk ms e.pl=some s/\a0i s/\e.ix=(i:Int)/\s.decls[i]?=some d/\d.k=e.k/\d.name=e.o/\q=D4 d.k s.pkg d.name)
structure WI2(seen:List I)(ms:SM)(me:EM):Prop where
 src:∀p x,glk ms p=some x->a0i x/\p∈seen
 ent:∀k e,glk me k=some e->EnK ms k e
theorem c1U{ms:SM}{path:I}{x:Src}(hg:glk ms path=some x)(hx:a0i x):∀(n k:Nat) (me:EM),x.decls.length -k=n->(∀k e,glk me k=some e->EnK ms k e)->∀q e,glk (addDs me path x.pkg (x.decls.drop k) k) q=some e->EnK ms q e
 |0,k,me,hn,h,q,e,he=>by
  rw[U4 J,addDs]at he;exact h q e he
 |n+1,k,me,hn,h,q,e,he=>by
  obtain⟨d,hd⟩:=gx_ x.decls k;rw[a3G hd]at he;refine c1U hg hx n (k+1) _ J (λq e he=>?_) q e he;rw[a2e,I8]at he;split at he
  .rename_i hq;injection he with he
   subst he
   split
   .rename_i f hf;obtain⟨h1,h2,h3,_⟩:=h _ _ hf;rw[hq];exact⟨h1,h2,by simp only;omega,λhc=>by simp only at hc;omega⟩
   .rw [hq];exact⟨O,O,a7G _,λ_=>⟨x,d,k,hg,hx,O,hd,O,O,O⟩⟩
  .exact h q e he
theorem EnK.put{ms:SM}{q:Nm}{e:En}{path:I}{x:Src}(h:EnK ms q e)(hp:glk ms path=none):EnK (J5 ms path x) q e:=by
 obtain⟨h1,h2,h3,h4⟩:=h;refine⟨h1,h2,h3,λhc=>?_⟩;obtain⟨s,d,i,h5,h6⟩:=h4 hc;refine⟨s,d,i,?_,h6⟩;rw[I8,G]
 .exact h5
 .intro he;rw[he,hp]at h5;cases h5
theorem d0U{seen:List I}{s:WS}(h:WI2 seen s.2.1 s.2.2)(hf:f.p∉seen):WI2 (f.p::seen) (Y6 s f).2.1 (Y6 s f).2.2:=by
 have hw:WI2 (f.p::seen) s.2.1 s.2.2:=⟨λp x hp=>⟨(h.src p x hp).1,X6 _ (h.src p x hp).2⟩,h.ent⟩;unfold Y6
 split
 .split
  .exact hw
  .rename_i x hx;have hn:glk s.2.1 f.p=none:=by
    cases hg:glk s.2.1 f.p with
    |none=>rfl
    |some y=>exact absurd (h.src _ _ hg).2 hf
   have cy:=a5w hx;refine⟨λp y hp=>?_,?_⟩
   .simp only[I8]at hp;split at hp
    .rename_i e;injection hp with hp
     subst hp;exact⟨cy,by rw[e];simp⟩
    .exact ⟨(h.src p y hp).1,X6 _ (h.src p y hp).2⟩
   .have hg:glk (J5 s.2.1 f.p x) f.p=some x:=by rw[I8,W O]
    have:=c1U hg cy _ 0 s.2.2 O (λk e he=>(h.ent k e he).put hn);simpa using this
 .exact hw
theorem c57:∀{l:List Fi} {seen:List I} {s:WS},WI2 seen s.2.1 s.2.2->(∀f∈l,f.p∉seen)->(l.Pairwise λa b=>a.p <b.p)->∃iH,WI2 iH (a60 l s).2.1 (a60 l s).2.2
 | [],seen,s,h,_,_=>⟨seen,h⟩
 |f::l,seen,s,h,hn,hp=>by
  have h1:=d0U h (hn f Q);refine c57 (l:=l) h1 (λg hg hm=>?_) (a6m.1 hp).2
  rcases J6.1 hm with hm|hm
  .have:=(a6m.1 hp).1 g hg;rw[hm]at this;exact absurd this (b8A _)
  .exact hn g (by simp[hg]) hm
theorem d6S(h:B1 fl=0):∀q e,glk (F5 fl).2.2 q=some e->EnK (F5 fl).2.1 q e:=by
 have h0:rvE none fl=0:=by
  unfold B1 at h;split at h
  .cases h
  .exact h
 obtain⟨seen,h3⟩:=c57 (l:=fl) (seen:=[]) (s:=([],[],[])) ⟨λp x hp=>(by cases hp),λk e he=>(by cases he)⟩ (λf _ hm=>(by cases hm)) (b0k h0).2;rw[F5,W h];exact h3.ent
structure McG(c:MC):Prop where
 w:WOk c.fl c.ms c.me
 k:∀q e,glk c.me q=some e->EnK c.ms q e
 ev:c.ev.length<=1000000/\∀v∈c.ev,InM v.v
 wd:0<=c.wd/\c.wd <18446744073709551616
variable{k:Int}
theorem McG.find(h:McG c){p o:I}(h1:(C3 true c.me k p o).ct=1):∃(s:Src) (d:De),0<=(C3 true c.me k p o).ix/\O8 c (C3 true c.me k p o)=some (s,d)/\a0i s/\d∈s.decls/\d.k=k/\d.name=o:=by
 unfold C3 at h1⊢;rw[W O]at h1⊢;cases hg:glk c.me (D4 k p o)with
 |none=>rw[hg]at h1;simp at h1
 |some e=>
  rw[hg]at h1;dsimp only at h1⊢;obtain⟨h2,h3,_,h4⟩:=h.k _ _ hg;obtain⟨s,d,i,h5,h6,h7,h8,h9,bj,_⟩:=h4 h1;refine⟨s,d,by rw[h7];exact Int.natCast_nonneg _,?_,h6,n_2 h8,h9.trans h2.symm,bj.trans h3.symm⟩;unfold O8;rw[h5,h7];simp[h8]
theorem McG.ct(h:McG c)(k:Int)(p o:I):0<=(C3 true c.me k p o).ct:=by
 unfold C3;rw[W O];cases hg:glk c.me (D4 k p o)with
 |none=>exact a7G _
 |some e=>have:=(h.k _ _ hg).2.2.1;dsimp only;omega
structure FrG(F:Fr):Prop where
 src:a0i F.f
 de:DeG F.d
 al:F.args.length=F.d.params.length
 ab:∀v∈F.args,InM v
def d2I(c:MC)(rec:Fr->Int->MS->Rs Int)(S:MS):Prop:=∀F:Fr,FrG F->∀(i:Int) (x:Ex),0<=i->F.d.body[i.toNat]?=some x->∀S1:MS,S.st<=S1.st->S1.st<=20000->0<=S1.ac->S1.ac<=64->MM 171 [.agg F.cells,iv i] ivc c S1 (rec F i S1)/\Gd S1 (rec F i S1)
theorem d2I.ok(h:d2I c rec S)(hF:FrG F)(ha:0<=S.ac/\S.ac<=64)(hx:F.d.body[i]?=some x):a6f c F (rec F) S x.args:=λa hm S1 hb=>by
 obtain⟨h1,h2⟩:=(hF.de.node hx).2 a hm;have hl:=(n_3.1 hx).1;obtain⟨h3,h4,h5⟩:=hb;exact h F hF a (F.d.body[a.toNat]'J) h1 Q S1 h3 h4 J J
theorem De.root(h:DeG d):∃x,1<=d.body.length/\d.body[((d.body.length:Int) -1).toNat]?=some x:=by
 obtain⟨t,h1,_⟩:=h.tree;have h2:=t.size_pos;have h3:d.body.length=t.size:=by rw[h1,Tr.flat_len]
 exact⟨d.body[((d.body.length:Int) -1).toNat]'J,J,Q⟩
theorem b4w(h:d2I c rec S)(hb:SB S S1)(ha:0<=S.ac/\S.ac<=64){x:En}{s:Src}(hix:0<=x.ix)(hd:O8 c x=some (s,d))(hs:a0i s)(hm:d∈s.decls)(args:List Int)(an:Bool)(gF:args.length=d.params.length)(ck:∀v∈args,InM v):
 MM 173 [.agg x.cells,.list (args.map icv) an none] ivc c S1 (J0 rec c x args an S1)/\Gd S1 (J0 rec c x args an S1):=by
 have hde:=hs.dec d hm;obtain⟨y,hl,hy⟩:=De.root hde;have hbl:=hde.blen;obtain⟨h3,h4,h5⟩:=hb;have hR:S1.ac≠64->MM 171 [.agg (⟨s,d,args,an⟩:Fr).cells,iv ((d.body.length:Int) -1)] ivc c {S1 with ac:=S1.ac+1} (rec ⟨s,d,args,an⟩ ((d.body.length:Int) -1) {S1 with ac:=S1.ac+1})/\Gd {S1 with ac:=S1.ac+1} (rec ⟨s,d,args,an⟩ ((d.body.length:Int) -1) {S1 with ac:=S1.ac+1}):=λaB=>
  h ⟨s,d,args,an⟩ ⟨hs,hde,gF,ck⟩ _ y J hy _ h3 h4 (by show 0<=S1.ac+1;omega) (by show S1.ac+1<=64;omega)
 refine⟨c6E x args an rec s d c S1 hix hd J J λaB=>⟨(hR aB).1,λv hv=>((hR aB).2.2.2 v hv).2⟩,?_⟩;by_cases aB:S1.ac=64
 .rw [J0,W aB];exact Gd.pan h4
 .exact c7C h4 hd (hR aB).2
theorem d2S{va:Bool}{me:EM}{name:I}{L:List I}:a6c va me name L n=En.z\/∃p,a6c va me name L n=C3 va me 1 p name:=by
 cases n with
 |zero=>exact .inl O
 |succ i=>
  rw[a6c]
  split
  .rename_i p _;exact .inr ⟨p,O⟩
  .exact .inl O
theorem b0H(hc:McG c)(h:W8 (E7 c F x)=0):U3 (E7 c F x)=E7 c F x/\∃(s:Src) (d:De),0<=(E7 c F x).ix/\O8 c (E7 c F x)=some (s,d)/\a0i s/\d∈s.decls:=by
 unfold W8 at h;by_cases h0:(E7 c F x).ct=0
 .rw [W h0]at h;exact absurd h U
 .rw [G h0]at h;by_cases h1:1< (E7 c F x).ct
  .rw [W h1]at h;exact absurd h U
  .refine ⟨by unfold U3;rw[G h0,G h1],?_⟩
   rcases d2S (va:=true) (me:=c.me) (name:=x.name) (L:=Y3 F) (n:=a1p true c.me x.name (Y3 F))with he|⟨p,he⟩
   .exact absurd (show(E7 c F x).ct=0 by unfold E7 a3d;rw[he]) h0
   .have e:E7 c F x=C3 true c.me 1 p x.name:=he;rw[e]at h0 h1⊢;have:=hc.ct 1 p x.name;obtain⟨s,d,g1,g2,g3,g4,_⟩:=hc.find (k:=1) (p:=p) (o:=x.name) J;exact⟨s,d,g1,g2,g3,g4⟩
theorem b3P:∀l:List Tr,l.length<=C2 l
 | []=>n_6 _
 |t::l=>by
  have:=b3P l;have:=t.size_pos;rw[C2,n_9];omega
theorem De.argl(h:DeG d)(hj:d.body[j]?=some x):x.args.length<=d.body.length:=by
 obtain⟨t,h1,h2⟩:=h.tree;have hl:=(n_3.1 hj).1;have hb:=hl;rw[h1,Tr.flat_len]at hl;obtain⟨y,z,ch,g⟩:=c1N h2 hl;rw[h1]at hj;obtain rfl:=Option.some.inj (hj.symm.trans g.e);have:=g.size;have:=b3P ch;rw[g.args,Z5];omega
theorem b37(hc:McG c)(h:diC c.fl true c.me s=0)(hd:o8 c.fl s=none):diE c.fl true c.me s=diX true c.me s/\∃(y:Src) (d:De),0<=(diX true c.me s).ix/\O8 c (diX true c.me s)=some (y,d)/\a0i y/\d∈y.decls/\d.k=3:=by
 have hi:¬(o8 c.fl s).isSome=true:=by rw[hd];decide
 unfold diC at h;rw[G hi]at h;by_cases h0:(diX true c.me s).ct=0
 .rw [W h0]at h;exact absurd h U
 .rw [G h0]at h;by_cases h1:1< (diX true c.me s).ct
  .rw [W h1]at h;exact absurd h U
  .refine ⟨by unfold diE U3;rw[G hi,G h0,G h1],?_⟩;have h2:0<=(diX true c.me s).ct:=hc.ct 3 [] s;obtain⟨y,d,g1,g2,g3,g4,g5,_⟩:=hc.find (k:=3) (p:=[]) (o:=s) (show(diX true c.me s).ct=1 by omega);exact⟨y,d,g1,g2,g3,g4,g5⟩
theorem d3b(hc:McG c)(hF:FrG F)(hx:F.d.body[i]?=some x)(hs:S.st<=20000)(ha:0<=S.ac/\S.ac<=64)(h:d2I c rec S):
 ∃g:FuncId,glk ndL x.k=some (fv g)/\(∀args w,(callFunc g args).run CC.P w= .ok (.enter g args) w)/\MM g [.agg F.cells,.agg x.cells] ivc c S (N0 rec c F x S)/\Gd S (N0 rec c F x S):=by
 obtain⟨hn,aq⟩:=hF.de.node hx;have hRc:=h.ok hF ha hx;have cl:c.fl.length<=1000000:=by have:=hc.w.len;omega
 have hcnt:=hn.cnt;have gd:=hn.kind;by_cases k1:x.k=1
 .have e:N0 rec c F x S=(.inl x.num,S):=by rw[N0,W k1]
  rw[e];exact⟨_,(by rw[k1];rfl),Tryz.call134,c3u F x c S,Gd.ret (SB.refl hs) (hn.k1 k1)⟩
 by_cases k2:x.k=2
 .obtain ⟨h0,h1⟩:=hn.k2 k2;have ah:x.num.toNat <F.args.length:=by rw[hF.al];omega
  have hv:F.args[x.num.toNat]?=some (F.args.getD x.num.toNat 0):=by simp[ah]
  have e:N0 rec c F x S=(.inl (F.args.getD x.num.toNat 0),S):=by rw[N0,G k1,W k2]
  rw[e];exact⟨_,(by rw[k2];rfl),Tryz.call135,c61 F x x.num.toNat J _ hv c S,Gd.ret (SB.refl hs) (hF.ab _ (n_2 hv))⟩
 by_cases k3:x.k=3
 .have e:N0 rec c F x S=a07 rec c F x S:=by rw[N0,G k1,G k2,W k3]
  have him:=hF.src.impl;have gF:x.args.length<=1000:=by
   have h1:x.args.length<=F.d.body.length:=De.argl hF.de hx;have:=hF.de.blen;omega
  have fL:(T6 c F x).length<=1000000000:=by
   unfold T6 a0S Y3;rw[a02,b0N,n_9];omega
  rw[e];refine⟨_,(by rw[k3];rfl),Tryz.call136,d2D F x rec c S J fL gF (λh0=>?_) hs hRc (λh0 s d hd l an S1 hl hb hr=>?_),d1b hs hRc λh0 l S1 hl ck hb=>?_⟩
  .obtain ⟨g1,s,d,g2,g3,g4,g5⟩:=b0H hc h0;have hde:=g4.dec d g5;have:=hde.blen;have:=hde.parl;exact⟨g1,s,d,g2,g3,J,J⟩
  .obtain ⟨g1,s',d',g2,g3,g4,g5⟩:=b0H hc h0;obtain⟨rfl,rfl⟩:s'=s/\d'=d:=by rw[hd]at g3;injection g3 with g3;injection g3 with g3 g3';exact⟨g3.symm,g3'.symm⟩
   rw[g1];have hA:=(b5c (S:=S) (l:=x.args) (acc:=[]) (S1:=S.look (T6 c F x)) (λv hv=>by cases hv) (SB.look (SB.refl hs) _) hRc).2 l (by rw[hr]);exact(b4w h hb ha g2 g3 g4 g5 l an (hl.trans (by rw[a9z,hd];rfl)) hA.1).1
  .obtain ⟨g1,s,d,g2,g3,g4,g5⟩:=b0H hc h0;exact(b4w h hb ha g2 g3 g4 g5 l _ (hl.trans (by rw[a9z,g3];rfl)) ck).2
 by_cases k4:x.k=4
 .have hl:x.args.length=2:=by rw[hcnt,W k4]
  have e:N0 rec c F x S=biS (rec F) x S:=by rw[N0,G k1,G k2,G k3,W k4]
  rw[e];exact⟨_,(by rw[k4];rfl),Tryz.call137,c49 F x (rec F) hl c S hs hRc,c4L hl hs hRc⟩
 by_cases k5:x.k=5
 .have hl:x.args.length=3:=by rw[hcnt,G k4,W k5]
  have e:N0 rec c F x S=a0W (rec F) x S:=by rw[N0,G k1,G k2,G k3,G k4,W k5]
  rw[e];exact⟨_,(by rw[k5];rfl),Tryz.call138,c4Z F x (rec F) hl c S hs hRc,c5a hl hs hRc⟩
 by_cases k6:x.k=6
 .have hl:x.args.length=1:=by rw[hcnt,G k4,G k5,W k6]
  have e:N0 rec c F x S=a1q rec c F x S:=by rw[N0,G k1,G k2,G k3,G k4,G k5,W k6]
  have hG:diC c.fl true c.me x.name=0->o8 c.fl x.name=none->∀S1:MS,SB S S1->MM 173 [.agg (diE c.fl true c.me x.name).cells,.list (([]:List Int).map icv) false none] ivc c S1 (J0 rec c (diE c.fl true c.me x.name) [] false S1)/\Gd S1 (J0 rec c (diE c.fl true c.me x.name) [] false S1):=λh0 hd S1 hb=>by
   obtain⟨g1,s,d,g2,g3,g4,g5,g6⟩:=b37 hc h0 hd;rw[g1];exact b4w h hb ha g2 g3 g4 g5 [] false (by rw[(g4.dec d g5).pars (by rw[g6];decide)];rfl) λv hv=>by cases hv
  rw[e];exact⟨_,(by rw[k6];rfl),Tryz.call139,d2Z F x rec hl c S cl hs hRc λh0 hd S1 hb=>(hG h0 hd S1 hb).1,d1x hl hs hRc λh0 hd S1 hb=>(hG h0 hd S1 hb).2⟩
 by_cases k7:x.k=7
 .have e:N0 rec c F x S=(a4K c x.name,S.look (K8 c.fl x.name)):=by rw[N0,G k1,G k2,G k3,G k4,G k5,G k6,W k7]
  rw[e];refine⟨_,(by rw[k7];rfl),Tryz.call140,d3p F x c S cl,?_⟩;cases ho:a4K c x.name with
  |inl v=>exact Gd.ret (SB.look (SB.refl hs) _) (d3K (λf hf=>(hc.w.fb f hf).2) ho)
  |inr v=>exact Gd.panB (SB.look (SB.refl hs) _)
 by_cases k8:x.k=8
 .have e:N0 rec c F x S=(.inl (c0a c x.name),S.look (K8 c.fl x.name)):=by rw[N0,G k1,G k2,G k3,G k4,G k5,G k6,G k7,W k8]
  rw[e];refine⟨_,(by rw[k8];rfl),Tryz.call141,d7d F x c S cl,Gd.ret (SB.look (SB.refl hs) _) ?_⟩;unfold c0a
  split<;>exact⟨U,U⟩
 by_cases k9:x.k=9
 .have e:N0 rec c F x S=(b19 c x.name,S.look [⟨5,x.name,[]⟩]):=by rw[N0,G k1,G k2,G k3,G k4,G k5,G k6,G k7,G k8,W k9]
  rw[e];refine⟨_,(by rw[k9];rfl),Tryz.call142,b7c F x c S (by have:=hc.ev.1;omega),?_⟩;cases ho:b19 c x.name with
  |inl v=>exact Gd.ret (SB.look (SB.refl hs) _) (d7I hc.ev.2 ho)
  |inr v=>exact Gd.panB (SB.look (SB.refl hs) _)
 .have k10:x.k=10:=by omega
  obtain⟨h0,h1⟩:=hn.k10 k10;have e:N0 rec c F x S=(.inl (c.wd / 2^x.num.toNat%2),{S with rn:=true}):=by rw[N0,G k1,G k2,G k3,G k4,G k5,G k6,G k7,G k8,G k9]
  rw[e];exact⟨_,(by rw[k10];rfl),Tryz.call143,d2R F x x.num.toNat J J c S hc.wd,Gd.ret (S1:={S with rn:=true}) (SB.refl hs) ⟨J,J⟩⟩
theorem d1U(h:1<=k/\k<=10):∃g:FuncId,glk ndL k=some (fv g)/\∀args w,(callFunc g args).run CC.P w= .ok (.enter g args) w:=by
 have h1:k=1\/k=2\/k=3\/k=4\/k=5\/k=6\/k=7\/k=8\/k=9\/k=10:=by omega
 rcases h1 with rfl|rfl|rfl|rfl|rfl|rfl|rfl|rfl|rfl|rfl
 .exact ⟨_,O,Tryz.call134⟩
 .exact ⟨_,O,Tryz.call135⟩
 .exact ⟨_,O,Tryz.call136⟩
 .exact ⟨_,O,Tryz.call137⟩
 .exact ⟨_,O,Tryz.call138⟩
 .exact ⟨_,O,Tryz.call139⟩
 .exact ⟨_,O,Tryz.call140⟩
 .exact ⟨_,O,Tryz.call141⟩
 .exact ⟨_,O,Tryz.call142⟩
 .exact ⟨_,O,Tryz.call143⟩
theorem c7x{c:MC}(hc:McG c):∀(n:Nat) (F:Fr),FrG F->∀(i:Int) (x:Ex),0<=i->F.d.body[i.toNat]?=some x->∀S:MS,0<=S.st->S.st<=20000->20000-S.st <n->0<=S.ac->S.ac<=64->MM 171 [.agg F.cells,iv i] ivc c S (evN c n F i S)/\Gd S (evN c n F i S)
 |0,_,_,_,_,_,_,_,_,h2,h3,_,_=>by exact absurd h3 N4
 |n+1,F,hF,i,x,hi,hx,S,h1,h2,h3,h4,h5=>by
  have e:evN c (n+1) F i S=if S.st=20000 then(.inr 16,S)else N0 (evN c n) c F x {S with st:=S.st+1}:=by
   rw[evN,b8C,hx]
  rw[e];by_cases he:S.st=20000
  .obtain ⟨g,hg,az⟩:=d1U (hF.de.node hx).1.kind;exact⟨c21 F i x hi hx g hg az c S _ ⟨h1,h2⟩ λaB=>absurd he aB,by rw[W he];exact Gd.pan h2⟩
  .obtain ⟨g,hg,az,hm,hgd⟩:=d3b hc hF hx (S:={S with st:=S.st+1}) (by show S.st+1<=20000;omega) ⟨h4,h5⟩ (rec:=evN c n) (λF' hF' j y hj hy S1 q1 q2 q3 q4=>by
    have q1':S.st+1<=S1.st:=q1;exact c7x hc n F' hF' j y hj hy S1 J q2 J q3 q4)
   refine⟨c21 F i x hi hx g hg az c S _ ⟨h1,h2⟩ λ_=>hm,?_⟩;rw[G he];obtain⟨d1,d2,d3⟩:=hgd;have d1':S.st+1<=(N0 (evN c n) c F x {S with st:=S.st+1}).2.st:=d1;exact⟨J,d2,d3⟩
end Go.Proofs.YtlppbmfecjabeaaGreatDoor
namespace Go.Proofs
open Go.Shelf
def Tryz.sortKey_ren:Go.Shelf.Ren:=⟨λ|6=>127|15=>166|14=>165|28=>216|29=>217|20=>208|21=>209|22=>210|23=>211|24=>212|25=>213|26=>214|27=>215|46=>264|47=>265|48=>266|49=>267|50=>268|57=>299|n=>n,λ|22=>36|24=>39|25=>171|3=>3|39=>141|0=>0|53=>262|55=>86|4=>4|46=>256|45=>255|50=>139|5=>5|9=>9|66=>292|70=>296|76=>320|77=>321|n=>n,λ|n=>n⟩
theorem Tryz.sortKey:Go.Proofs.SlLaysF0.n6 Tryz.prog Tryz.sortKey_ren:={
 mixed:=by kernel_rfl
 f6:=⟨Tryz.f127.name,U,Tryz.func127.trans (D9 some D7)⟩
 f14:=⟨Tryz.f165.name,U,Tryz.func165.trans (D9 some D7)⟩
 f15:=Tryz.func166.trans (D9 some D7)
 f20:=⟨Tryz.f208.name,U,Tryz.func208.trans (D9 some D7)⟩
 f21:=⟨Tryz.f209.name,U,Tryz.func209.trans (D9 some D7)⟩
 f22:=⟨Tryz.f210.name,U,Tryz.func210.trans (D9 some D7)⟩
 f23:=⟨Tryz.f211.name,U,Tryz.func211.trans (D9 some D7)⟩
 f24:=⟨Tryz.f212.name,U,Tryz.func212.trans (D9 some D7)⟩
 f25:=⟨Tryz.f213.name,U,Tryz.func213.trans (D9 some D7)⟩
 f26:=⟨Tryz.f214.name,U,Tryz.func214.trans (D9 some D7)⟩
 f27:=⟨Tryz.f215.name,U,Tryz.func215.trans (D9 some D7)⟩
 f28:=Tryz.func216.trans (D9 some D7)
 f29:=Tryz.func217.trans (D9 some D7)
 f46:=⟨Tryz.f264.name,U,Tryz.func264.trans (D9 some D7)⟩
 f47:=Tryz.func265.trans (D9 some D7)
 f48:=Tryz.func266.trans (D9 some D7)
 f49:=⟨Tryz.f267.name,U,Tryz.func267.trans (D9 some D7)⟩
 f50:=⟨Tryz.f268.name,U,Tryz.func268.trans (D9 some D7)⟩
 f57:=⟨Tryz.f299.name,U,Tryz.func299.trans (D9 some D7)⟩
 t0:=Tryz.underlying0
 a0:=Tryz.isAgg0
 z0:=Tryz.sizeOf0
 v0:=Tryz.zeroValue0
 t3:=Tryz.underlying3
 a3:=a7T
 z3:=t_1
 v3:=t_6
 t4:=Tryz.underlying4
 a4:=c1s
 z4:=c5T
 v4:=Tryz.zeroValue4
 t5:=Tryz.underlying5
 a5:=Tryz.isAgg5
 z5:=a8B
 v5:=b12
 t9:=Tryz.underlying9
 a9:=a2J
 z9:=t_0
 v9:=t_4
 t22:=Tryz.underlying36
 a22:=b8Q
 z22:=c1x
 v22:=Tryz.zeroValue36
 t25:=Tryz.underlying171
 a25:=Tryz.isAgg171
 z25:=Tryz.sizeOf171
 v25:=Tryz.zeroValue171
 t39:=Tryz.underlying141
 a39:=Tryz.isAgg141
 z39:=Tryz.sizeOf141
 v39:=Tryz.zeroValue141
 t45:=Tryz.underlying255
 a45:=Tryz.isAgg255
 z45:=Tryz.sizeOf255
 v45:=Tryz.zeroValue255
 t46:=Tryz.underlying256
 a46:=Tryz.isAgg256
 z46:=Tryz.sizeOf256
 v46:=Tryz.zeroValue256
 t50:=Tryz.underlying139
 a50:=Tryz.isAgg139
 z50:=Tryz.sizeOf139
 v50:=Tryz.zeroValue139
 t53:=Tryz.underlying262
 a53:=Tryz.isAgg262
 z53:=Tryz.sizeOf262
 v53:=Tryz.zeroValue262
 t55:=Tryz.underlying86
 a55:=Tryz.isAgg86
 z55:=Tryz.sizeOf86
 v55:=Tryz.zeroValue86
 t66:=Tryz.underlying292
 a66:=Tryz.isAgg292
 z66:=Tryz.sizeOf292
 v66:=Tryz.zeroValue292
 t70:=Tryz.underlying296
 a70:=Tryz.isAgg296
 z70:=Tryz.sizeOf296
 v70:=Tryz.zeroValue296
 t76:=Tryz.underlying320
 a76:=Tryz.isAgg320
 z76:=Tryz.sizeOf320
 v76:=Tryz.zeroValue320
 t77:=Tryz.underlying321
 a77:=Tryz.isAgg321
 z77:=Tryz.sizeOf321
 v77:=Tryz.zeroValue321}
end Go.Proofs
namespace Go.Proofs.YtlppbmfecjabeaaGreatDoor
open Go Go.Cl
variable{x y:Ky}{σ:List b9}
instance:Inhabited Ky:=⟨⟨0,[],[]⟩⟩
abbrev d2Y(x:Ky):List Value:=[.int .i64 x.k,.string (str x.a),.string (str x.b)]
theorem b4l{a b:I}:Op.bytesLess a b=true↔Go.Lib.compareBytes a b= -1:=by rw[d4A];simp
theorem b5B{a b c:I}(h:Go.Lib.compareBytes a b= -1)(k:Go.Lib.compareBytes b c= -1):Go.Lib.compareBytes a c= -1:=b4l.1 (a7O (b4l.2 h) (b4l.2 k))
theorem d1V{a b:Int}:a2f a b= -1↔a<b:=by unfold a2f;split<;>(try split)<;>omega
theorem d3G:R2 x y= -1↔x.k <y.k\/(x.k=y.k/\(Go.Lib.compareBytes x.a y.a = -1\/(x.a=y.a/\Go.Lib.compareBytes x.b y.b = -1))):=by
 unfold R2;by_cases h1:a2f x.k y.k=0
 .have e1:=(b4B _ _).1 h1;rw[G (by simp[h1])];by_cases h2:Go.Lib.compareBytes x.a y.a=0
  .have e2:=(b62 _ _).1 h2;rw[G (by simp[h2])];constructor
   .intro h;exact .inr ⟨e1,.inr ⟨e2,h⟩⟩
   .rintro (h|⟨-,h|⟨-,h⟩⟩)
    .omega
    .omega
    .exact h
  .rw [W h2];constructor
   .intro h;exact .inr ⟨e1,.inl h⟩
   .rintro (h|⟨-,h|⟨h,-⟩⟩)
    .omega
    .exact h
    .exact absurd ((b62 _ _).2 h) h2
 .rw [W h1,d1V];constructor
  .intro h;exact .inl h
  .rintro (h|⟨h,-⟩)
   .exact h
   .exact absurd ((b4B _ _).2 h) h1
theorem b9T{z:Ky}(h:R2 x y= -1)(k:R2 y z= -1):R2 x z= -1:=by
 rw[d3G]at*
 rcases h with h|⟨h1,h|⟨h2,h⟩⟩<;>rcases k with k|⟨k1,k|⟨k2,k⟩⟩
 .exact .inl J
 .exact .inl J
 .exact .inl J
 .exact .inl J
 .exact .inr ⟨J,.inl (b5B h k)⟩
 .exact .inr ⟨J,.inl (k2▸h)⟩
 .exact .inl J
 .exact .inr ⟨J,.inl (h2▸k)⟩
 .exact .inr ⟨J,.inr ⟨h2.trans k2,b5B h k⟩⟩
theorem a6k(x y:Ky):Go.Proofs.ltOf R2 x y=ltK x y:=by
 unfold Go.Proofs.ltOf ltK
 rcases b0X x y with h|h|h<;>simp[h]
theorem a5n{z:Ky}(h:ltK x y=true)(k:ltK y z=true):ltK x z=true:=by
 simp only[ltK,a1z]at*;exact b9T h k
theorem a9Q(h:ltK x y=false)(k:ltK y x=false):x=y:=by
 rw[c6l]at k;simp only[ltK,b17]at h k
 rcases b0X x y with e|e|e
 .exact absurd e h
 .exact (c29 x y).1 e
 .exact absurd e k
theorem c2M(x:Ky):ltK x x=false:=by simp[ltK,(c29 x x).2 O]
theorem d9i:Go.Sort.SWO (Go.Proofs.ltOf R2) where
 irrefl x:=by rw[a6k];exact c2M x
 trans x y z h k:=by rw[a6k]at*;exact a5n h k
 ntrans x y z h k:=by
  rw[a6k]at*;cases h2:ltK x z
  .rfl
  .cases h3:ltK y x
   .have:=a9Q h h3;subst this;exact h2.symm.trans k
   .exact (a5n h3 h2).symm.trans k
theorem c4v:∀g cells,CC.glob g=some cells->∀c∈cells,∃v,c=CV.val v:=λg cells h c hc=>by
 have:cells=c3V:=by
  simp only[CC]at h;split at h
  .exact (Option.some.inj h).symm
  .cases h
 subst this;obtain⟨z,_,rfl⟩:=H9.1 hc;exact⟨_,O⟩
def c0f(a:Int×Int×Int):CV:=.agg [iv a.1,iv a.2.1,iv a.2.2]
theorem a5f(a:Int×Int×Int):r9 (c0f a):=j4 (cs:=[_,_,_]) ⟨.val _,.val _,.val _,D⟩
def c6a(o:Rs Int):Rs (Int×Int×Int):=match o with
 |(.inl v,S)=>(.inl (if v=0 then(2,0,0)else(1,v,0)),S)
 |(.inr e,S)=>(.inl (3,0,e),S)
def MS0:MS:=⟨[],0,0,false⟩
theorem c0p(x y:Ky):b8 CC 145 [.agg x.cells,.agg y.cells] [] λr aa=>r= .ret (iv (R2 x y))/\aa=[]:=by
 refine c9 (qO Tryz.func145 ?_);refine z_6 ?_;refine cW 18 ?_;refine d3T ?_;refine d3T ?_;refine hY (c4 O Tryz.call168 j7 (b15 x.k y.k _) O) ?_;refine hY c3a ?_;refine hY U0 ?_;refine hY c3a ?_;refine hY U0 ?_;refine hY (c4 O Tryz.call169 j7 (a2n x.a y.a _) O) ?_;refine hY c3a ?_;refine hY U0 ?_;refine hY c3a ?_;refine hY U0 ?_;refine hY (c4 O Tryz.call169 j7 (a2n x.b y.b _) O) ?_;refine hY (B4 ([a2f x.k y.k,Go.Lib.compareBytes x.a y.a,Go.Lib.compareBytes x.b y.b].map icv) O B7 t_3 t_1 t_6 O O O O O O O O O) ?_;refine hY (c4 O Tryz.call167 ⟨D,D⟩ (c7r _ Q _) O) ?_;refine a85 ?_;refine c6 ?_;exact⟨_,rE1,_,_,O,O,C8 (d6w x y)⟩
theorem c8G(c:MC)(a0 a1 a2 a3 a4 a5 a6 a7 a8:b9):b8 CC 91 [.ptr 4 0,.agg [.list (c.ev.map Va.cv) c.en none],.val (.int .u64 c.wd)] [a0,a1,a2,a3,a4,a5,a6,a7,a8] λr τ=>∃_:Unit,r= .ret (.ptr 12 0)/\τ=[a0,a1,a2,a3,a4,a5,a6,a7,a8,.box [.list (c.ev.map Va.cv) c.en none],trO [],ndO,mbx c MS0 4 10 11]/\True:=by
 refine qO Tryz.func91 ?_;refine qD (F1 O D j3 j1 ?_);refine qD (Q4 O ?_);refine qD (Q4 O ?_);refine qD (j9 (kc:=kv) (vc:=λc=>c) (l:=ndL.take 0) (a:=1) (b:=fv 134) a0C (.inr O) D O D O O O b0h O ?_);refine qD (j9 (kc:=kv) (vc:=λc=>c) (l:=ndL.take 1) (a:=2) (b:=fv 135) a0C (.inr O) D O D O O O b0h O ?_);refine qD (j9 (kc:=kv) (vc:=λc=>c) (l:=ndL.take 2) (a:=3) (b:=fv 136) a0C (.inr O) D O D O O O b0h O ?_);refine qD (j9 (kc:=kv) (vc:=λc=>c) (l:=ndL.take 3) (a:=4) (b:=fv 137) a0C (.inr O) D O D O O O b0h O ?_);refine qD (j9 (kc:=kv) (vc:=λc=>c) (l:=ndL.take 4) (a:=5) (b:=fv 138) a0C (.inr O) D O D O O O b0h O ?_);refine qN [a0,a1,a2,a3,a4,a5,a6,a7,a8,.box [.list (c.ev.map Va.cv) c.en none],trO [],.map (gm kv (λc=>c) (ndL.take 5))] O (qD (j9 (kc:=kv) (vc:=λc=>c) (l:=ndL.take 5) (a:=6) (b:=fv 139) a0C (.inr O) D O D O O O b0h O ?_));refine qD (j9 (kc:=kv) (vc:=λc=>c) (l:=ndL.take 6) (a:=7) (b:=fv 140) a0C (.inr O) D O D O O O b0h O ?_);refine qD (j9 (kc:=kv) (vc:=λc=>c) (l:=ndL.take 7) (a:=8) (b:=fv 141) a0C (.inr O) D O D O O O b0h O ?_);refine qD (j9 (kc:=kv) (vc:=λc=>c) (l:=ndL.take 8) (a:=9) (b:=fv 142) a0C (.inr O) D O D O O O b0h O ?_);refine qD (j9 (kc:=kv) (vc:=λc=>c) (l:=ndL.take 9) (a:=10) (b:=fv 143) a0C (.inr O) D O D O O O b0h O ?_);refine qN [a0,a1,a2,a3,a4,a5,a6,a7,a8,.box [.list (c.ev.map Va.cv) c.en none],trO [],ndO] O (V (B2 #[(0,1),(1,1),(2,1),(3,1),(4,1),(5,1),(6,1),(7,1)] O ⟨D,D,D,D,D,D⟩ b31 Tryz.zeroValue183 O ⟨_,O⟩ (λw=>by kernel_rfl) O O) ?_);refine qD (F1 O D j3 j1 ?_);refine c6 ?_;exact⟨_,rE1,(by exact⟨(),O,O,D⟩)⟩
theorem a87{c1:CV}{u:CV}{K:List b9->Prop}(h:K σ):b7P CC 176 [c1] σ false u K:=by
 refine d6g ?_;refine cY (b4X O D O c9C (.inl O)) ?_;refine A6 ?_;refine cC ?_ ?_<;>intro h1
 .cases h1
 .refine D8 ?_;exact h
theorem b5t(c:MC)(S:MS)(x:En)(e:Int){K:List b9->Prop}(h:K [mbx c (S) 1 5 6,wbx c.fl c.nn true c.br 2 3 4,smO c.ms,emO c.me,p7 c.br.length,trO (S).tr,ndO,.box x.cells,.box [iv 3,iv 0,iv e],.box [iv e]]):b7P CC 176 [.ptr 8 0] [mbx c (S) 1 5 6,wbx c.fl c.nn true c.br 2 3 4,smO c.ms,emO c.me,p7 c.br.length,trO (S).tr,ndO,.box x.cells,.box [iv 0,iv 0,iv 0]] true (b5r e) K:=by
 refine d6g ?_;refine d4O ?_;refine cC ?_ ?_<;>intro h1
 .refine z_3 ?_;refine cY (b3D (xs:=[.int .i64 e]) O D O c1j O O) ?_;refine cY A3 ?_;refine cY a08 ?_;refine cY a08 ?_;refine cD (l8 O Tryz.zeroValue221 O j1 ?_);refine cD (i9 O D D O j3 Tryz.sizeOf221 j1 O O (nb O) ?_);refine b3r ?_;refine z_3 ?_;refine a67 ?_;refine cC ?_ ?_<;>intro h2
  .cases h2
  .refine D8 (C6 ?_);refine cY (j2 O D O c1j O b6R U) ?_;refine cY c00 ?_;refine cY e0v ?_;refine d1o ?_;exact h
 .cases h1
theorem c5m(x:En)(c:MC)(S:MS)(o:Rs Int)(HE:MM 173 [.agg x.cells,.list (([]:List Int).map icv) false none] ivc c S o):MM 144 [.agg x.cells,.list (([]:List Int).map icv) false none] c0f c S (c6a o):=by
 unfold MM;refine(b1O Tryz.func144 O O ?_);refine b4i ?_;refine C6 ?_;refine cD (F1 O D j3 j1 ?_);refine cD (l8 O c0K O j1 ?_);refine A6 ?_;refine b75 O O O O O U O O Tryz.call176 ⟨D,D⟩ (λds=>?_);refine b7L ?_;refine cY b05 ?_;refine cY A3 ?_;refine cD (j5 O c73 B7 (a3y HE [.box x.cells,.box [iv 0,iv 0,iv 0]] (λa h=>by simp at h;rcases h with rfl|rfl;exact En.pure x;exact F4 [] _) S7) O (λer he=>b5t c o.2 x er ⟨_,C4 O c7y,(by exact U2 (cv:=c0f) (a:=(3,0,er)) [_,_,_] (by rw[o_r he,c6a]) (a5f _) O)⟩) ?_);intro v hv;refine G8 [mbx c (o.2) 1 5 6,wbx c.fl c.nn true c.br 2 3 4,smO c.ms,emO c.me,p7 c.br.length,trO (o.2).tr,ndO,.box x.cells,.box [iv 0,iv 0,iv 0]] O ?_;refine a24 ?_;refine a9M ?_;refine b7L ?_;refine a8b ?_;refine b1n D O (λh1=>?_) (λh1=>?_)
 .have hv0:v=0:=by simpa[ivc]using h1
  refine c3c ?_;refine cY (B2 #[(0,1),(1,1),(2,1)] O ⟨O,D⟩ Tryz.runUnderlying93 c0K O ⟨_,O⟩ (λw=>by kernel_rfl) O O) ?_;refine d1o ?_;refine a5E ?_;exact a87 ⟨_,C4 O c7y,(by exact U2 (cv:=c0f) (a:=(2,0,0)) [_,_] (by rw[o_l hv,c6a,W hv0]) (a5f _) O)⟩
 .have hv0:¬v=0:=by simpa[ivc]using h1
  refine b7S ?_;refine b7L ?_;refine cY e0v ?_;refine d1o ?_;refine a5E ?_;exact a87 ⟨_,C4 O c7y,(by exact U2 (cv:=c0f) (a:=(1,v,0)) [_,_] (by rw[o_l hv,c6a,G hv0]) (a5f _) O)⟩
structure a6P where
 res:Int×Int×Int
 rn:Bool
 tr:List Ky
 st:Int
abbrev a6P.cells(a:a6P):List CV:=[iv a.res.1,iv a.res.2.1,iv a.res.2.2,.val (.bool a.rn),.list (a.tr.map Ky.cv) (gnn a.tr.length) none,iv a.st]
theorem a6P.pure(a:a6P):r9 (.agg a.cells):=j4 ⟨.val _,.val _,.val _,.val _,C1 _ _,.val _,D⟩
def vO:List Ky->b9
 | []=>.dead
 |x::l=>.vec 3 ((x::l).map Ky.cv)
def vV(k:Nat):List Ky->CV
 | []=>.list [] false none
 |x::l=>.vec k 0 (x::l).length
theorem b6r(n:Nat):Old n (.list [] false none):=.list (λi j r c h h'=>by simp at h) (λk h=>by cases h)
theorem b3c{left:List (Ky×Bool)}{i:Nat}{q:Ky}{e:Bool}{out:List Ky}(h:left[i]?=some (q,e)):(out++[q]++(left.eraseIdx i).map Prod.fst).Perm (out++left.map Prod.fst):=by
 rw[H4];exact((b0S h).map Prod.fst).append_left out
abbrev c0S:List b9:=[.dead,.dead,.dead,.dead,.dead,.dead,.dead]
theorem b47{k:Nat}{l:List Ky}(aB:l≠[])(am:l.length<=1000000)(hk:σ[k]?=some (.vec 3 (l.map Ky.cv))):b8 CC 127 [.vec k 0 l.length,.val (.func (.func 145) #[] #[])] σ λr τ=>∃_:Unit,r= .ret (.tup [])/\τ=σ.set k (.vec 3 ((a3g R2 l).map Ky.cv))/\True:=
 (c4x (C:=CC) (f:=127) (g:=145) (enc:=d2Y) (s:=3) (cf:=R2) J W9 (λx v hv=>by simp[d2Y]at hv;rcases hv with rfl|rfl|rfl<;>rfl)
  (λblk off cap d w h1 h2 h3 h4=>Go.Proofs.AnyQ.slices_SortFunc_total Tryz.sortKey 3 c5J a3Z d2Y W9 (λx v hv=>by simp[d2Y]at hv;rcases hv with rfl|rfl|rfl<;>rfl) R2 d9i 145 #[] blk off cap d w Tryz.call145 h1 h2 h3 h4 (λx y e1 e2=>by rw[a6k]at e1 e2;exact a9Q e1 e2))
  (λx y=>c0p x y) c4v aB J hk).mono λr τ h=>⟨(),h.1,h.2,D⟩
theorem c4n{l m:List Ky}(h:l.Perm m):a3g R2 l=a3g R2 m:=by
 have p:(a3g R2 l).Perm (a3g R2 m):=(b0t _ _).trans (h.trans (b0t _ _).symm);have s:∀l:List Ky,(a3g R2 l).Pairwise λx y=>(!(Go.Proofs.ltOf R2) y x)=true:=λl=>c17 (le:=λx y=>!(Go.Proofs.ltOf R2) y x) (λx y z h1 h2=>by
  simp only[b50,a6k]at h1 h2⊢;cases h3:ltK z x with
  |false=>rfl
  |true=>
   cases h4:ltK y z with
   |true=>exact a5n h4 h3▸h1▸O
   |false=>have:=a9Q h2 h4;subst this;rw[h1]at h3;cases h3) (λx y=>by
  simp only[a6k];cases h3:ltK x y with
  |false=>simp
  |true=>
   cases h4:ltK y x with
   |false=>simp
   |true=>have:=a5n h3 h4;rw[c2M]at this;cases this) l
 exact p.eq_of_pairwise (λa b _ _ h1 h2=>by simp only[b50,a6k]at h1 h2;exact a9Q h2 h1) (s l) (s m)
theorem d6n(x:En)(c:MC)(S S2:MS)(a:Int×Int×Int)(R:Rs (Int×Int×Int))(hR:R=(.inl a,S2))(HR:MM 144 [.agg x.cells,.list (([]:List Int).map icv) false none] c0f c S R)(htr:S2.tr≠[])(htl:S2.tr.length<=1000000):
 b8 CC 93 [.ptr 0 0,.agg x.cells,.list (([]:List Int).map icv) false none] (mst c S) λr τ=>∃_:Unit,r= .ret (.agg (⟨a,S2.rn,a3g R2 (S2.tr.map Prod.fst),S2.st⟩:a6P).cells)/\τ=c0S/\True:=by
 subst hR;refine P4 hCC (a5g Tryz.func93 O O ?_);refine b5k ?_;refine cD (l8 O c11 O j1 ?_);refine a4h ?_;refine cY b05 ?_;refine cY A3 ?_;refine cD (j5 O Tryz.call144 B7 ((a3y HR [.box x.cells,.box [iv 0,iv 0,iv 0,.val (.bool false),.list [] false none,iv 0]] (λa h=>by simp at h;rcases h with rfl|rfl;exact En.pure x;exact F4 [] _) a5f)) O (λer he=>by cases he) ?_);intro a' bR;obtain rfl:a=a':=Sum.inl.inj bR;refine G8 [mbx c S2 1 5 6,wbx c.fl c.nn true c.br 2 3 4,smO c.ms,emO c.me,p7 c.br.length,trO S2.tr,ndO,.box x.cells,.box [iv 0,iv 0,iv 0,.val (.bool false),.list [] false none,iv 0]] O ?_;refine cD (l8 O c0K O j1 ?_);refine d1o ?_;refine z_0 ?_;refine cY a54 ?_;refine a4f ?_;refine a6O ?_;refine cY (j2 O D O b31 O Tryz.sizeOf178 U) ?_;refine cY (o5 O D O Tryz.isAgg178 O O) ?_;refine cD (b4b O D O Tryz.runUnderlying178 O ?_);refine c1X ?_;refine C5 hCC 11 O (α:=List (Ky×Bool)×List (Ky×Bool)×List Ky) (λy=>[(0,.ptr 0 0),(6,.ptr 8 0),(7,.ptr 9 0),(8,vV 11 y.2.2),(18,.ptr 10 0)]) (λy=>[mbx c S2 1 5 6,wbx c.fl c.nn true c.br 2 3 4,smO c.ms,emO c.me,p7 c.br.length,.dead,ndO,.box x.cells,.box [iv 0,iv 0,iv 0,.val (.bool false),.list [] false none,iv 0],.box [iv a.1,iv a.2.1,iv a.2.2],.iter (gm Ky.kc vcB y.1) (gm Ky.kc vcB y.2.1),vO y.2.2]) (λy=>(y.2.2++y.2.1.map Prod.fst).Perm (S2.tr.map Prod.fst)) (λy=>y.2.1.length) ⟨([],S2.tr,[]),[0,1,2,3,4,5,6,7,8,9,10,11],(List.Perm.refl _),⟨O,O⟩,ut_,uq_⟩ ?_;intro⟨aF,left,out⟩ hp;dsimp only at hp⊢;have bf:=hp.length_eq;rw[n_8,a02,a02]at bf;refine z_0 ?_;refine cD (b83 O D O O (λhz=>?_) (λi x hx=>?_))
 .
  have dF:left=[]:=by
   cases left with
   |nil=>rfl
   |cons y l=>cases hz
  subst dF;rw[List.map_nil,a1f]at hp;refine cY a08 ?_;refine a4f ?_;refine cC ?_ ?_<;>intro h1
  .cases h1
  .obtain ⟨y0,l0,rfl⟩:∃y0 l0,out=y0::l0:=by
    cases out with
    |nil=>simp at bf;exact absurd bf.symm (H htr)
    |cons y l=>exact⟨y,l,O⟩
   have ez:(a3g R2 (y0::l0)).length=(y0::l0).length:=c0H _;have hs:=c4n hp;refine l9 ?_;refine z_3 ?_;refine de O Tryz.call127 j7 (b47 (a9j _ _) (by simp at bf⊢;omega) O) O ?_;intro _ _;refine a4f ?_;refine cW 11 ?_;refine hY (J7 O D O Tryz.isAgg93 c81 O (nb O)) ?_;refine a3X ?_;refine hY (j2 O D O b31 O c5T U) ?_;refine hY (o5 O D O c1s O O) ?_;refine hY A3 ?_;refine a3X ?_;refine hY b8E ?_;refine hY V3 ?_;refine hY (B2 #[(0,3),(3,1),(4,1),(5,1)] O a36 b7v c11 O ⟨_,O⟩ (λw=>by kernel_rfl) O O) ?_;refine a1m ?_;refine cD (i9 O D D O j3 b87 j1 O O (nb O) ?_);refine A6 (c6 ?_);exact⟨_,C4 O ⟨D,_,_,_,O,O,.inr ⟨_,c12,b87,nb O,O⟩⟩,(by rw[<- hs];exact⟨(),.ret (.aggs ⟨.old (.val _),.old (.val _),.old (.val _),.old (.val _),(by rw[c60 (λh=>by rw[show a3g R2 (y0::l0)=[]from h]at ez;cases ez)];exact .vecs U O (by simp[ez]) (by rw[b3S,a1i (by simp[ez])]) (b9I _)),.old (.val _),D⟩),⟨.dead,.dead,.dead,.dead,.dead,.dead,.dead,D⟩,n_6 _,D⟩)⟩
 .
  obtain⟨⟨q,e⟩,hy,rfl⟩:=b9w hx;rw[b0V];have ah:=(n_3.1 hy).1;refine cY a08 ?_;refine a4f ?_;refine cC ?_ ?_<;>intro h2
  .refine D8 (a3p ?_);refine z_0 ?_;refine cY (b5l O D O O) ?_;refine cY a08 ?_;refine cD (l8 O a7t O j1 ?_);refine cD (i9 O D D O j3 a3Z j1 O O (nb O) ?_);refine A6 ?_;refine a8t ?_;refine cY (J7 O D O c5J a3Z O (nb O)) ?_;refine cY (B4 [Ky.cv q] O ⟨D,D⟩ a8c a3Z a7t O O O O O O O O O) ?_
   rcases out with _|⟨o1,out⟩
   .refine cD (b41 1 O D D O q_3 a8c a3Z c2x a7t O Q d9T Q O ?_);refine a24 ?_;exact⟨([(q,e)],left.eraseIdx i,[q]),[0,1,2,3,4,5,6,7,8,9,10,13],⟨by dsimp only;rw[c01 ah];omega,(b3c (out:=[]) hy).trans hp⟩,⟨O,O⟩,ut_,uq_⟩
   .refine cD (a2z ((o1::out++[q]).map Ky.cv) ((o1::out++[q]).length) O D D O q_3 a8c a3Z c2x a7t O O Q Q d9T (by simp;simp at bf;omega) Q Q ?_);refine a24 ?_;exact⟨([(q,e)],left.eraseIdx i,o1::out++[q]),[0,1,2,3,4,5,6,7,8,9,10,13],⟨by dsimp only;rw[c01 ah];omega,(b3c hy).trans hp⟩,⟨O,O⟩,ut_,uq_⟩
  .cases h2
noncomputable def mcR(fl:List Fi)(nn:Bool)(ev:List Va)(en:Bool)(wd:Int):MC:=⟨fl,nn,(F5 fl).1,(F5 fl).2.1,(F5 fl).2.2,ev,en,wd⟩
def b18(c:MC)(p o:I):En:=C3 true c.me 2 p o
def kyT(p o:I):Ky:=⟨2,p,o⟩
def a1y(c:MC)(p o:I):Rs Int:=J0 (evN c 20001) c (b18 c p o) [] false (MS0.look [kyT p o])
def a5X(c:MC)(p o:I):a6P:=⟨match(a1y c p o).1 with| .inl v=>if v=0 then(2,0,0)else(1,v,0)| .inr e=>(3,0,e),(a1y c p o).2.rn,a3g R2 ((a1y c p o).2.tr.map Prod.fst),(a1y c p o).2.st⟩
theorem d2w(o:Rs Int):c6a o=(.inl (match o.1 with| .inl v=>if v=0 then(2,0,0)else(1,v,0)| .inr e=>(3,0,e)),o.2):=by
 obtain⟨a|e,S⟩:=o<;>rfl
theorem d2v(x:En)(c:MC)(S S2:MS)(a:Int×Int×Int)(R:Rs (Int×Int×Int))(hR:R=(.inl a,S2))(HR:MM 144 [.agg x.cells,.list (([]:List Int).map icv) false none] c0f c S R)(htr:S2.tr≠[])(htl:S2.tr.length<=1000000){q w q1 q2 t tr nd:Nat}(au:MAt σ q w q1 q2 t tr nd c S):
 b8 CC 93 [.ptr q 0,.agg x.cells,.list (([]:List Int).map icv) false none] σ λr τ=>∃_:Unit,r= .ret (.agg (⟨a,S2.rn,a3g R2 (S2.tr.map Prod.fst),S2.st⟩:a6P).cells)/\τ=a8i σ [q,w,q1,q2,t,tr,nd] c0S/\True:=
 a3W (α:=Unit) (obs:=mst c S) (res:=λ_=>.ret (.agg (⟨a,S2.rn,a3g R2 (S2.tr.map Prod.fst),S2.st⟩:a6P).cells)) (res':=λ_=>.ret (.agg (⟨a,S2.rn,a3g R2 (S2.tr.map Prod.fst),S2.st⟩:a6P).cells)) (S:=λ_=>c0S) (S':=λ_=>c0S) (P:=λ_=>True) [q,w,q1,q2,t,tr,nd] hCC O (a3s au.1) (λi k ob h1 h2=>by
  obtain⟨aG,h3,h4⟩:=b4Q (R:=λi k=>[q,w,q1,q2,t,tr,nd][i]?=some k) (w':=w) (q1':=q1) (q2':=q2) (t':=t) (tr':=tr) (nd':=nd) ⟨O,O,O,O,O,O⟩ i ob h2;exact⟨aG,au.2 i k aG h1 h3,h4.symm λ_ _ h=>h⟩) (.cons (.ptr O) (L9 λb hb=>by simp at hb;rcases hb with rfl|rfl;exact En.pure x;exact F4 [] _)) (d6n x c S S2 a R hR HR htr htl) W9 (λ_ i k y h1 h2=>by
   rcases i with _|_|_|_|_|_|_|i
   all_goals first|(injection h2 with h2;subst h2;exact⟨_,O,.dead⟩)|cases h2) λ_=>.ret (.pure (a6P.pure _))
theorem c69{q w q1 q2 t tr nd:Nat}{c:MC}{S:MS}(h:a0r [q,w,q1,q2,t,tr,nd]=true)(h0:σ[q]?=some (mbx c S w tr nd))(h1:σ[w]?=some (wbx c.fl c.nn true c.br q1 q2 t))(h2:σ[q1]?=some (smO c.ms))(h3:σ[q2]?=some (emO c.me))(h4:σ[t]?=some (p7 c.br.length))(h5:σ[tr]?=some (trO S.tr))(h6:σ[nd]?=some ndO):MAt σ q w q1 q2 t tr nd c S:=⟨h,λi k ob g1 g2=>by
 rcases i with _|_|_|_|_|_|_|i
 all_goals first|(injection g1 with g1;injection g2 with g2;subst g1 g2;assumption)|cases g1⟩
theorem d1F(fl:List Fi)(nn:Bool)(cl:∀f∈fl,f.p.length<=1000000000)(ev:List Va)(en:Bool)(wd:Int)(p o:I)(bg:B1 fl=0)(henv:a2N ev=true)(eM:(b18 (mcR fl nn ev en wd) p o).ct=1)
 (HE:MM 173 [.agg (b18 (mcR fl nn ev en wd) p o).cells,.list (([]:List Int).map icv) false none] ivc (mcR fl nn ev en wd) (MS0.look [kyT p o]) (a1y (mcR fl nn ev en wd) p o))(htr:(a1y (mcR fl nn ev en wd) p o).2.tr≠[])(htl:(a1y (mcR fl nn ev en wd) p o).2.tr.length<=1000000):
 b8 CC 49 [.agg (A9 fl nn),.agg [.list (ev.map Va.cv) en none],.val (.int .u64 wd),.agg [sv p,sv o]] [] λr τ=>∃_:Unit,a03 0 τ r (.ret (.tup [.agg (a5X (mcR fl nn ev en wd) p o).cells,iv 0]))/\True:=by
 refine qO Tryz.func49 ?_;refine z_6 ?_;refine qD (F1 O D j3 j1 ?_);refine qD (l8 O c11 O j1 ?_);refine qD (c5 O Tryz.call56 ⟨D,D⟩ (c7H fl nn cl _) O ?_);intro _ _;refine qN [.box (A9 fl nn),.box [.list (ev.map Va.cv) en none],.box [sv p,sv o],.box [iv 0,iv 0,iv 0,.val (.bool false),.list [] false none,iv 0],wbx fl nn (B1 fl == 0) (F5 fl).1 5 6 7,smO (F5 fl).2.1,emO (F5 fl).2.2,p7 (F5 fl).1.length] O (qG (λhg=>J7 O D O b8m b1D O (nb O)) ?_);refine qG (λhg=>c4 O Tryz.call57 ⟨hg,D⟩ (a0F ev en _) O) ?_;refine b8F ?_;refine cC ?_ ?_<;>intro h1
 .exfalso;simp[bg,henv]at h1
 .have hv:(B1 fl == 0)=true:=by rw[bg];rfl
  rw[hv];refine qk (V (c4 O c9j ⟨D,O,D,D,D⟩ (a9S (w:=4) (q1:=5) (q2:=6) (t:=7) (fl:=fl) (nn:=nn) (va:=true) (br:=(F5 fl).1) (ms:=(F5 fl).2.1) (me:=(F5 fl).2.2) ⟨O,O,O,O,a3v ⟨U,U,U,U,U,U⟩⟩ 2 p o) O) ?_);refine z_7 ?_;refine qC ?_ ?_<;>intro h2
  .exact absurd eM (show ¬(C3 true (F5 fl).2.2 2 p o).ct=1 by simpa using h2)
  .refine qD (c5 O Tryz.call91 B7 (c8G (mcR fl nn ev en wd) _ _ _ _ _ _ _ _ _) O ?_);intro _ _;refine V e0O ?_;refine V (B4 [Ky.cv (kyT p o)] O ⟨D,D⟩ a8c a3Z a7t O O O O O O O O O) ?_;refine qD (c5 O c1F j7 (c04 (cv:=λ_:Unit=>.tup []) (o:=(.inl (),MS0.look [kyT p o])) (λa h=>by simp at h;subst h;exact C1 [_] _) b4p (a9O [kyT p o] true Q (mcR fl nn ev en wd) MS0) (c69 (q:=12) (w:=4) (q1:=5) (q2:=6) (t:=7) (tr:=10) (nd:=11) (c:=(mcR fl nn ev en wd)) (S:=MS0) O O O O O O O O)) O ?_);intro _ _;refine qN [.box (A9 fl nn),.box [.list (ev.map Va.cv) en none],.box [sv p,sv o],.box [iv 0,iv 0,iv 0,.val (.bool false),.list [] false none,iv 0],wbx fl nn true (F5 fl).1 5 6 7,smO (F5 fl).2.1,emO (F5 fl).2.2,p7 (F5 fl).1.length,.box (b18 (mcR fl nn ev en wd) p o).cells,.box [.list (ev.map Va.cv) en none],trO (MS0.look [kyT p o]).tr,ndO,mbx (mcR fl nn ev en wd) (MS0.look [kyT p o]) 4 10 11] O (qD (c5 O Tryz.call93 a2j (d2v (b18 (mcR fl nn ev en wd) p o) (mcR fl nn ev en wd) (MS0.look [kyT p o]) (a1y (mcR fl nn ev en wd) p o).2 _ _ (d2w _) (c5m (b18 (mcR fl nn ev en wd) p o) (mcR fl nn ev en wd) _ _ HE) htr htl (c69 (q:=12) (w:=4) (q1:=5) (q2:=6) (t:=7) (tr:=10) (nd:=11) (c:=(mcR fl nn ev en wd)) (S:=(MS0.look [kyT p o])) O O O O O O O O)) O ?_));intro _ _;refine qD (i9 O D D O j3 b87 j1 O O (nb O) ?_);refine c6 ?_;exact⟨_,r8 (rs:=[.cell 8 95,.tmp 9]) (cs:=[_,_]) O ⟨⟨D,_,_,_,O,O,.inr ⟨_,c12,b87,nb O,O⟩⟩,⟨D,j3⟩,D⟩ (n_5 O),⟨(),.ret (.tups ⟨.old (a6P.pure _).old,.old (.val _),D⟩),D⟩⟩
theorem c3i{fl:List Fi}{ev:List Va}{k:List Ky}{l:List I}(h:a13 fl ev k=some l):l=k.map (a1X fl (F5 fl).2.1 (F5 fl).2.2 ev):=by
 unfold a13 at h;split at h
 .injection h with h;exact h.symm
 .cases h
def a6b:List I->List I->Int->Int
 |x::l,y::m,i=>if x=y then a6b l m (i+1)else i
 |_,_,_=>-1
noncomputable def a72(fl:List Fi)(ev:List Va)(k:List Ky)(ts:List I):Option Int:=match a13 fl ev k with
 |some l=>if k.length=ts.length then some (a6b l ts 0)else none
 |none=>none
def c8Y(o:Option Int):CV:=.tup [iv (o.getD 0),iv (if o.isSome then 0 else 1)]
theorem b82{l m:List I}{i:Nat}{x y:I}(hx:l[i]?=some x)(hy:m[i]?=some y)(j:Int):a6b (l.drop i) (m.drop i) j=if x=y then a6b (l.drop (i+1)) (m.drop (i+1)) (j+1)else j:=by
 obtain⟨h1,rfl⟩:=n_3.1 hx;obtain⟨h2,rfl⟩:=n_3.1 hy;rw[U5 h1,U5 h2,a6b]
def awF:List Fi:=[⟨[97,46,100,97,116],[45]⟩,⟨[97,46,115,114,99],[112,97,99,107,97,103,101,32,112,59,32,116,101,115,116,32,116,61,49,59]⟩]
def awS:Src:=⟨[112],[],[⟨2,[116],[],[⟨1,1,0,[],[]⟩]⟩]⟩
def awD:De:=⟨2,[116],[],[⟨1,1,0,[],[]⟩]⟩
end Go.Proofs.YtlppbmfecjabeaaGreatDoor
