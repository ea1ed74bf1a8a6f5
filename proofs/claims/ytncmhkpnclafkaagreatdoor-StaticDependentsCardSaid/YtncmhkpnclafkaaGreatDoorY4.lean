/- Part 4 of what the claim needs: values without addresses, and what the program's functions do with them. -/
import Derived.Test.YtncmhkpnclafkaaGreatDoorY3
set_option linter.all false
set_option maxRecDepth 100000
set_option maxHeartbeats 4000000
namespace Go.Proofs.YtncmhkpnclafkaaGreatDoor
open Go Go.Cl
variable{T:List Tok}{i f q a n2 L f0 n' B n3 j n1 n7:Nat}{s u w:I}{e2 e1 k e' e3 e5 e4 e6 e7:Int}{α:Type}{σ τ:List b9}{o:Option α}{y:α}{F:PF}{fl:List Fi}{c:CV}{ak:List Nat}{z:Int×Nat×List Ex}{S:Option PX}{me:EM}{nn:Bool}{t:Tok}
def sgB(T:List Tok)(n:Nat)(e:Int)(k:Int)(u:I):Bool:=decide (e=0)&&isT (tk T n) k u
theorem V2{n:Nat}{e:Int}(h:sgB T n e k u=true):e=0/\isT (tk T n) k u=true:=by
 simpa[sgB]using h
theorem b0D{n:Nat}{e:Int}(h:sgB T n e k u=true):Ok e (pIs T n k u) e (n+1):=by
 obtain⟨h1,h2⟩:=V2 h;rw[pIs,Q h2];exact .some
theorem b0y{n:Nat}{e:Int}{y:Nat}(h:sgB T n e k u=false)(h2:e2≠0):Ok e (pIs T n k u) e2 y:=by
 by_cases he:e=0
 .have:isT (tk T n) k u=false:=by simpa[sgB,he]using h
  rw[pIs,W (by rw[this];decide)];exact .none h2
 .exact .dead he h2
theorem d0Z(T:List Tok)(n:Nat)(at_ e:Int)(ps:List I)(b:List Ex)(hT:T.length<=1000000)(hn:n<T.length)(_:a0Z T)(u:I):b8 CC 223 [.ptr 0 0,(sv u)] (rst T n at_ e ps b) (λr τ=>F0 2 τ r (.ret (.val (.bool (sgB T n e 4 u)))) (rst T (if(sgB T n e 4 u)=true then n+1 else n) at_ e ps b)):=by
 refine qO Tryz.func223 ?_;refine qG C9 ?_;refine qG c3m ?_;refine qG c4U ?_;refine a4w ?_;refine qG C9 ?_;refine qG c3m ?_;refine qG d2e ?_;refine b9t ?_;refine cC ?_ ?_<;>intro h1
 .have hv:(sgB T n e 4 u)=true:=by simpa[sgB,isT,b12]using h1
  rw[hv,Q O];refine qk ?_;refine z_7 ?_;exact c5a
 .have hv:(sgB T n e 4 u)=false:=by simpa[sgB,isT,b12]using h1
  rw[hv,W H];refine qk ?_;exact c5a
theorem X0{n:Nat}{at_ e:Int}{ps:List I}{b:List Ex}(hT:T.length<=1000000)(hn:n<T.length)(hW:a0Z T)(u:I){s:Nat}(ao:RAt σ q s T n at_ e ps b):b8 CC 223 [.ptr q 0,(sv u)] σ λr τ=>∃a:Bool×Nat,r= .ret (.val (.bool a.1))/\τ=rS0 σ q s T a.2 at_ e ps b/\(a.1=(sgB T n e 4 u)/\(a.1=true->a.2=n+1)/\(a.1=false->a.2=n)/\a.2 <T.length):=
 Z3 (c:=λa:Bool×Nat=>.val (.bool a.1)) (N:=λa=>a.2) (A:=λ_=>at_) (E:=λ_=>e) (λ_ h=>by simp at h;subst h;exact .val _) (λ_=>.val _) ((d0Z T n at_ e ps b hT hn hW u).mono λr τ h=>⟨((sgB T n e 4 u),if(sgB T n e 4 u)=true then n+1 else n),h,O,λh=>Q h,λh=>W (by dsimp only at h;rw[h];decide),by
  dsimp only
  split
  .rename_i h2;exact hW n hn (a67 (V2 h2).2 H)
  .exact hn⟩) ao
theorem d0r(T:List Tok)(n:Nat)(at_ e:Int)(ps:List I)(b:List Ex)(hT:T.length<=1000000)(hn:n<T.length)(_:a0Z T)(u:I):b8 CC 173 [.ptr 0 0,(sv u)] (rst T n at_ e ps b) (λr τ=>F0 2 τ r (.ret (.val (.bool (sgB T n e 1 u)))) (rst T (if(sgB T n e 1 u)=true then n+1 else n) at_ e ps b)):=by
 refine qO Tryz.func173 ?_;refine qG C9 ?_;refine qG c3m ?_;refine qG c4U ?_;refine a4w ?_;refine qG C9 ?_;refine qG c3m ?_;refine qG d2e ?_;refine b9t ?_;refine cC ?_ ?_<;>intro h1
 .have hv:(sgB T n e 1 u)=true:=by simpa[sgB,isT,b12]using h1
  rw[hv,Q O];refine qk ?_;refine z_7 ?_;exact c5a
 .have hv:(sgB T n e 1 u)=false:=by simpa[sgB,isT,b12]using h1
  rw[hv,W H];refine qk ?_;exact c5a
theorem Z0{n:Nat}{at_ e:Int}{ps:List I}{b:List Ex}(hT:T.length<=1000000)(hn:n<T.length)(hW:a0Z T)(u:I){s:Nat}(ao:RAt σ q s T n at_ e ps b):b8 CC 173 [.ptr q 0,(sv u)] σ λr τ=>∃a:Bool×Nat,r= .ret (.val (.bool a.1))/\τ=rS0 σ q s T a.2 at_ e ps b/\(a.1=(sgB T n e 1 u)/\(a.1=true->a.2=n+1)/\(a.1=false->a.2=n)/\a.2 <T.length):=
 Z3 (c:=λa:Bool×Nat=>.val (.bool a.1)) (N:=λa=>a.2) (A:=λ_=>at_) (E:=λ_=>e) (λ_ h=>by simp at h;subst h;exact .val _) (λ_=>.val _) ((d0r T n at_ e ps b hT hn hW u).mono λr τ h=>⟨((sgB T n e 1 u),if(sgB T n e 1 u)=true then n+1 else n),h,O,λh=>Q h,λh=>W (by dsimp only at h;rw[h];decide),by
  dsimp only
  split
  .rename_i h2;exact hW n hn (a67 (V2 h2).2 H)
  .exact hn⟩) ao
theorem d3E(T:List Tok)(n:Nat)(at_ e:Int)(ps:List I)(b:List Ex)(hT:T.length<=1000000)(hn:n<T.length)(hW:a0Z T)(u:I):b8 CC 177 [.ptr 0 0,(sv u)] (rst T n at_ e ps b) (λr τ=>∃a:Nat×Int×Int,F0 2 τ r (.ret (.tup [])) (rst T a.1 a.2.1 a.2.2 ps b)/\(Ok e (pIs T n 4 u) a.2.2 a.1/\a.1 <T.length)):=by
 refine qO Tryz.func177 ?_;refine qD (c4 O a8M i7 (X0 hT hn hW u ⟨O,O,H⟩) O ?_);rintro⟨v,m⟩ ⟨hv,dJ,cI,hm⟩;dsimp only at hv dJ cI hm⊢;refine qN [rbx T m at_ e ps b 1,o5 e b.length] O (qC ?_ ?_)<;> intro h1
 .have hvf:v=false:=D h1;rw[hvf]at hv;refine qY (c5 O a7K ⟨J,J⟩ (a0v hT hm ⟨O,O,H⟩) O) ?_;refine d7W ?_;rintro⟨x,y⟩ hy;dsimp only at hy⊢;refine qN [rbx T m x y ps b 1,o5 y b.length] O ?_;exact⟨_,rE0,(by exact⟨(m,x,y),a2p O (.tup λi c h=>by simp at h),b0y hv.symm hy,hm⟩)⟩
 .have hvt:v=true:=D h1;rw[hvt]at hv;exact⟨_,rE0,(by exact⟨(m,at_,e),a2p O (.tup λi c h=>by simp at h),by dsimp only;rw[dJ hvt];exact b0D hv.symm,hm⟩)⟩
theorem N8{n:Nat}{at_ e:Int}{ps:List I}{b:List Ex}(hT:T.length<=1000000)(hn:n<T.length)(hW:a0Z T)(u:I){s:Nat}(ao:RAt σ q s T n at_ e ps b):b8 CC 177 [.ptr q 0,(sv u)] σ λr τ=>∃a:Nat×Int×Int,r= .ret (.tup [])/\τ=rS0 σ q s T a.1 a.2.1 a.2.2 ps b/\(Ok e (pIs T n 4 u) a.2.2 a.1/\a.1 <T.length):=
 Z3 (c:=λ_:Nat×Int×Int=>.tup []) (N:=λa=>a.1) (A:=λa=>a.2.1) (E:=λa=>a.2.2) (λ_ h=>by simp at h;subst h;exact .val _) (λ_=>C5 trivial) (d3E T n at_ e ps b hT hn hW u) ao
abbrev a7W:List I:=[[112,97,99,107,97,103,101],[105,109,112,111,114,116],[102,117,110,99],[116,101,115,116],[103,101,110],[105,102],[116,104,101,110],[101,108,115,101],[114,101,97,100],[115,105,122,101],[104,97,115],[101,110,118],[102,108,105,112]]
theorem b6O{l:List I}(h:l[i]?=some w)(hd:decide (u∈l)=decide (u∈l.drop i))(ax:¬w=u):decide (u∈l)=decide (u∈l.drop (i+1)):=by
 obtain⟨af,rfl⟩:=n_2.1 h;rw[hd,Y0 af];have:¬u=l[i]:=λe=>ax e.symm;exact b2P.2 ⟨λh=>(J2.1 h).resolve_left this,a13 _⟩
theorem b1v(l:List I)(nn:Bool)(u:I)(hl:l.length<=1000000)(σ:List b9):b8 CC 178 [(.list (l.map scv) nn none),(sv u)] σ λr aa=>r= .ret (.val (.bool (decide (u∈l))))/\aa=σ:=by
 refine b8.anyw hCC pu_ pu_ (c7 (qO Tryz.func178 ?_)) σ;refine qY P5 ?_;refine o4 hCC (α:=Nat) (λi=>[(1,(sv u)),(7,(.list (l.map scv) nn none)),(8,iv l.length),(9,iv i)]) (λ_=>[]) (λi=>i<=l.length/\decide (u∈l)=decide (u∈l.drop i)) (λi=>l.length -i) 0 ⟨n_5 _,O⟩ tu_ (am:=[]) O B5 uz_ ?_;intro i ⟨hi,hd⟩;refine qk (qC ?_ ?_)<;> intro h1
 .have af:i<l.length:=sm_ h1;obtain⟨w,hb⟩:∃w,l[i]?=some w:=⟨l[i]'af,U⟩;refine qY a4u ?_;refine qY a8e ?_;refine qC ?_ ?_<;>intro h2
  .have hw:w=u:=D h2;refine c6 ?_;exact⟨_,rE1,_,_,O,O,j6 (show true=decide (u∈l)from(a4a (hw▸n_3 hb)).symm)⟩
  .have hw:¬w=u:=D h2;refine qY o7 ?_;exact⟨(i+1),_,⟨G,G,b6O hb hd hw⟩,tu_,O⟩
 .have aH:l.length<=i:=sm_ h1;refine a0i ?_;exact⟨_,rE1,_,_,O,O,j6 (show false=decide (u∈l) by rw[hd,Y4 aH];simp)⟩
theorem b3l(u:I)(σ:List b9):b8 CC 222 [(sv u)] σ λr aa=>r= .ret (.val (.bool (S6 u)))/\aa=σ:=by
 refine b8.anyw hCC pu_ pu_ (c7 (qO Tryz.func222 ?_)) σ;refine qY (A9 (a7W.map scv) O ⟨O,O,O,O,O,O,O,O,O,O,O,O,O,J⟩ t_2 t_0 t_3 O O O O O O O O O) ?_;refine qY P5 ?_;refine o4 hCC (α:=Nat) (λi=>[(0,(sv u)),(5,(.list (a7W.map scv) true none)),(6,iv a7W.length),(7,iv i)]) (λ_=>[]) (λi=>i<=a7W.length/\decide (u∈a7W)=decide (u∈a7W.drop i)) (λi=>a7W.length -i) 0 ⟨n_5 _,O⟩ tu_ (am:=[]) O B5 uz_ ?_;intro i ⟨hi,hd⟩;have hL:a7W.length=13:=O;refine qk (qC ?_ ?_)<;> intro h1
 .have af:i<a7W.length:=sm_ h1;obtain⟨w,hb⟩:∃w,a7W[i]?=some w:=⟨a7W[i]'af,a1r af⟩;refine qY a4u ?_;refine qY a8e ?_;refine qC ?_ ?_<;>intro h2
  .have hw:u=w:=D h2;refine c6 ?_;exact⟨_,rE1,_,_,O,O,j6 (show true=decide (u∈a7W)from(a4a (hw▸n_3 hb)).symm)⟩
  .have hw:¬u=w:=D h2;refine qY o7 ?_;exact⟨(i+1),_,⟨G,G,b6O hb hd (λe=>hw e.symm)⟩,tu_,O⟩
 .have aH:a7W.length<=i:=sm_ h1;refine a0i ?_;exact⟨_,rE1,_,_,O,O,j6 (show false=decide (u∈a7W) by rw[hd,Y4 aH];simp)⟩
def a1z(T:List Tok)(path:Bool)(n:Nat):Option (Tok×Nat):=(F9 T n 3).bind λx=>if(if path=true then F8 x.1.t else B9 x.1.t)=true then some x else none
theorem a33(T:List Tok)(n:Nat):a1z T true n=a0E T n:=by simp[a1z,a0E]
theorem c7r{n:Nat}{e:Int}{y:I×Nat}(h:e≠0\/(tk T n).k≠1\/S6 (tk T n).t=true)(h2:e2≠0):Ok e ((K3 T n).map λx=>(x.1.t,x.2)) e2 y:=by
 by_cases he:e=0
 .have hn:K3 T n=none:=by
   unfold K3 F9
   split
   .rename_i hk
    rcases h with h|h|h
    .exact absurd he h
    .exact absurd hk h
    .simp [h]
   .rfl
  rw[hn];exact .none h2
 .exact .dead he h2
theorem c6u{n:Nat}{e:Int}(h:(tk T n).k=1/\S6 (tk T n).t=false):Ok e ((K3 T n).map λx=>(x.1.t,x.2)) e ((tk T n).t,n+1):=by
 have hn:K3 T n=some (tk T n,n+1):=by
  unfold K3 F9;rw[Q h.1];simp[h.2]
 rw[hn];exact .some
theorem c99(T:List Tok)(n:Nat)(at_ e:Int)(ps:List I)(b:List Ex)(hT:T.length<=1000000)(hn:n<T.length)(hW:a0Z T):b8 CC 176 [.ptr 0 0] (rst T n at_ e ps b) (λr τ=>∃a:I×Nat×Int×Int,F0 2 τ r (.ret (sv a.1)) (rst T a.2.1 a.2.2.1 a.2.2.2 ps b)/\(Ok e ((K3 T n).map λx=>(x.1.t,x.2)) a.2.2.2 (a.1,a.2.1)/\a.2.1 <T.length)):=by
 refine qO Tryz.func176 ?_;refine qY b9z ?_;refine z_3 ?_;refine qG d0B ?_;refine qG a7t ?_;refine a8q ?_;refine qG b70 ?_;refine qG a0J ?_;refine qG (λhg=>c5 O Tryz.call222 ⟨hg,J⟩ (b3l _ _) O) ?_;refine qY U4 ?_;refine qC ?_ ?_<;>intro h1
 .have hv:e≠0\/(tk T n).k≠1\/S6 (tk T n).t=true:=by simpa[or_assoc]using h1
  refine qD (c4 O a92 a3f (Y7 _ _ H ⟨O,O,H⟩) O ?_);rintro⟨x,y⟩ hy;dsimp only at hy⊢;refine d3b ?_;exact⟨_,rE1,(by exact⟨([],n,x,y),a2p O (.val _),c7r hv hy,hn⟩)⟩
 .have hv:e=0/\(tk T n).k=1/\S6 (tk T n).t=false:=by simpa[and_assoc]using h1
  refine z_7 ?_;refine c6 ?_;exact⟨_,rE1,(by exact⟨((tk T n).t,n+1,at_,e),a2p O (.val _),c6u hv.2,hW n hn (by rw[hv.2.1];decide)⟩)⟩
theorem a8u{n:Nat}{at_ e:Int}{ps:List I}{b:List Ex}(hT:T.length<=1000000)(hn:n<T.length)(hW:a0Z T){s:Nat}(ao:RAt σ q s T n at_ e ps b):b8 CC 176 [.ptr q 0] σ λr τ=>∃a:I×Nat×Int×Int,r= .ret (sv a.1)/\τ=rS0 σ q s T a.2.1 a.2.2.1 a.2.2.2 ps b/\(Ok e ((K3 T n).map λx=>(x.1.t,x.2)) a.2.2.2 (a.1,a.2.1)/\a.2.1 <T.length):=
 Z3 (c:=λa:I×Nat×Int×Int=>(sv a.1)) (N:=λa=>a.2.1) (A:=λa=>a.2.2.1) (E:=λa=>a.2.2.2) (λ_ h=>by simp at h;try(subst h;exact .val _)) (λ_=>.val _) (c99 T n at_ e ps b hT hn hW) ao
theorem c5Z{n:Nat}{e:Int}{path:Bool}{y:I×Nat}(h:e≠0\/(tk T n).k≠3\/(if path=true then F8 (tk T n).t else B9 (tk T n).t)=false)(h2:e2≠0):Ok e ((a1z T path n).map λx=>(x.1.t,x.2)) e2 y:=by
 by_cases he:e=0
 .have hn:a1z T path n=none:=by
   unfold a1z F9
   split
   .rename_i hk
    rcases h with h|h|h
    .exact absurd he h
    .exact absurd hk h
    .cases path<;>simp_all
   .rfl
  rw[hn];exact .none h2
 .exact .dead he h2
theorem c6w{n:Nat}{e:Int}{path:Bool}(h:(tk T n).k=3/\(if path=true then F8 (tk T n).t else B9 (tk T n).t)=true):Ok e ((a1z T path n).map λx=>(x.1.t,x.2)) e ((tk T n).t,n+1):=by
 have hn:a1z T path n=some (tk T n,n+1):=by
  unfold a1z F9;rw[Q h.1];have h2:=h.2;cases path<;>simp_all
 rw[hn];exact .some
theorem c9I(T:List Tok)(n:Nat)(at_ e:Int)(ps:List I)(b:List Ex)(hT:T.length<=1000000)(hn:n<T.length)(hW:a0Z T)(path:Bool)(hL:d1N T):b8 CC 224 [.ptr 0 0,(.val (.bool path))] (rst T n at_ e ps b) (λr τ=>∃a:I×Nat×Int×Int,F0 2 τ r (.ret (sv a.1)) (rst T a.2.1 a.2.2.1 a.2.2.2 ps b)/\(Ok e ((a1z T path n).map λx=>(x.1.t,x.2)) a.2.2.2 (a.1,a.2.1)/\a.2.1 <T.length)):=by
 refine qO Tryz.func224 ?_;refine qY b9z ?_;refine z_3 ?_;refine qG d0B ?_;refine qG a7t ?_;refine a8q ?_;refine qG C9 ?_;refine qG b8G ?_;refine d8q ?_;refine qH O O (λhk hg=>c5 O d0p ⟨⟨hk,hg⟩,J⟩ (a8I _ _) O) ?_;refine qH O O (λhk hg=>c0t O ⟨hk,hg⟩ O) ?_;refine qG c4W ?_;refine qY U4 ?_;refine qG C9 ?_;refine qG a2D ?_;refine qG b8G ?_;refine d8q ?_;refine qH O O (λhk hg=>c5 O Tryz.call94 ⟨⟨hk,hg⟩,J⟩ (c7C _ _) O) ?_;refine qH O O (λhk hg=>c0t O ⟨hk,hg⟩ O) ?_;refine qG c4W ?_;refine qY U4 ?_;refine qC ?_ ?_<;>intro h1
 .have hv:e≠0\/(tk T n).k≠3\/(if path=true then F8 (tk T n).t else B9 (tk T n).t)=false:=by
   cases path<;>simpa[or_assoc]using h1
  refine qD (c4 O a92 a3f (Y7 _ _ H ⟨O,O,H⟩) O ?_);rintro⟨x,y⟩ hy;dsimp only at hy⊢;refine d3b ?_;exact⟨_,rE1,(by exact⟨([],n,x,y),a2p O (.val _),c5Z hv hy,hn⟩)⟩
 .have hv:e=0/\(tk T n).k=3/\(if path=true then F8 (tk T n).t else B9 (tk T n).t)=true:=by
   cases path<;>simpa[and_assoc]using h1
  refine z_7 ?_;refine c6 ?_;exact⟨_,rE1,(by exact⟨((tk T n).t,n+1,at_,e),a2p O (.val _),c6w hv.2,hW n hn (by rw[hv.2.1];decide)⟩)⟩
theorem b0x{n:Nat}{at_ e:Int}{ps:List I}{b:List Ex}(hT:T.length<=1000000)(hn:n<T.length)(hW:a0Z T)(path:Bool)(hL:d1N T){s:Nat}(ao:RAt σ q s T n at_ e ps b):b8 CC 224 [.ptr q 0,(.val (.bool path))] σ λr τ=>∃a:I×Nat×Int×Int,r= .ret (sv a.1)/\τ=rS0 σ q s T a.2.1 a.2.2.1 a.2.2.2 ps b/\(Ok e ((a1z T path n).map λx=>(x.1.t,x.2)) a.2.2.2 (a.1,a.2.1)/\a.2.1 <T.length):=
 Z3 (c:=λa:I×Nat×Int×Int=>(sv a.1)) (N:=λa=>a.2.1) (A:=λa=>a.2.2.1) (E:=λa=>a.2.2.2) (λ_ h=>by simp at h;try(subst h;exact .val _)) (λ_=>.val _) (c9I T n at_ e ps b hT hn hW path hL) ao
theorem b98{n:Nat}{e:Int}{y:Int×Nat}(h:e≠0\/(tk T n).k≠2)(h2:e2≠0):Ok e ((F9 T n 2).map λx=>(x.1.n,x.2)) e2 y:=by
 by_cases he:e=0
 .have hn:F9 T n 2=none:=by
   unfold F9
   split
   .rename_i hk
    rcases h with h|h
    .exact absurd he h
    .exact absurd hk h
   .rfl
  rw[hn];exact .none h2
 .exact .dead he h2
theorem b6Z{n:Nat}{e:Int}(h:(tk T n).k=2):Ok e ((F9 T n 2).map λx=>(x.1.n,x.2)) e ((tk T n).n,n+1):=by
 have hn:F9 T n 2=some (tk T n,n+1):=by
  unfold F9;rw[Q h];rfl
 rw[hn];exact .some
theorem c0S(T:List Tok)(n:Nat)(at_ e:Int)(ps:List I)(b:List Ex)(hT:T.length<=1000000)(hn:n<T.length)(hW:a0Z T)(hN:∀i,0<=(tk T i).n/\(tk T i).n<=9007199254740993):b8 CC 336 [.ptr 0 0] (rst T n at_ e ps b) (λr τ=>∃a:Int×Nat×Int×Int,F0 2 τ r (.ret (iv a.1)) (rst T a.2.1 a.2.2.1 a.2.2.2 ps b)/\(Ok e ((F9 T n 2).map λx=>(x.1.n,x.2)) a.2.2.2 (a.1,a.2.1)/\a.2.1 <T.length/\-9007199254740993<=a.1/\a.1<=9007199254740993)):=by
 refine qO Tryz.func336 ?_;refine qY b9z ?_;refine z_3 ?_;refine qG d0B ?_;refine qG a7t ?_;refine a8q ?_;refine qC ?_ ?_<;>intro h1
 .have hv:e≠0\/(tk T n).k≠2:=D h1;refine qD (c4 O a92 a3f (Y7 _ _ H ⟨O,O,H⟩) O ?_);rintro⟨x,y⟩ hy;dsimp only at hy⊢;refine d3b ?_;exact⟨_,rE1,(by exact⟨(0,n,x,y),a2p O (.val _),b98 hv hy,hn,do_,do_⟩)⟩
 .have hv:e=0/\(tk T n).k=2:=D h1;refine z_7 ?_;refine c6 ?_;exact⟨_,rE1,(by exact⟨((tk T n).n,n+1,at_,e),a2p O (.val _),b6Z hv.2,hW n hn (by rw[hv.2];decide),by have:=hN n;dsimp only;omega,by have:=hN n;dsimp only;omega⟩)⟩
theorem a8N{n:Nat}{at_ e:Int}{ps:List I}{b:List Ex}(hT:T.length<=1000000)(hn:n<T.length)(hW:a0Z T)(hN:∀i,0<=(tk T i).n/\(tk T i).n<=9007199254740993){s:Nat}(ao:RAt σ q s T n at_ e ps b):b8 CC 336 [.ptr q 0] σ λr τ=>∃a:Int×Nat×Int×Int,r= .ret (iv a.1)/\τ=rS0 σ q s T a.2.1 a.2.2.1 a.2.2.2 ps b/\(Ok e ((F9 T n 2).map λx=>(x.1.n,x.2)) a.2.2.2 (a.1,a.2.1)/\a.2.1 <T.length/\-9007199254740993<=a.1/\a.1<=9007199254740993):=
 Z3 (c:=λa:Int×Nat×Int×Int=>(iv a.1)) (N:=λa=>a.2.1) (A:=λa=>a.2.2.1) (E:=λa=>a.2.2.2) (λ_ h=>by cases h) (λ_=>.val _) (c0S T n at_ e ps b hT hn hW hN) ao
theorem d1x{n k:Nat}{at_:Int}{ps:List I}{b:List Ex}(h0:τ[0]?=some (.box [.list (T.map Tok.cv) true none,iv n,iv at_,iv 0,.list (ps.map scv) (gnn ps.length) none,.list (b.map Ex.cv) (gnn b.length) (F1 b.length k),.list [] false none]))(hk:τ[k]?=some (m0 b.length))(h2:2<=k)(hc:Old 2 c):F0 2 τ (.ret c) (.ret c) (a61 T n at_ 0 ps b):=by
 have k1:a6D 2 [0,1,k]=true:=O;have k2:a0o [0,1,k]=true:=by
  simp[a0o];omega
 refine⟨[0,1,k],k1,k2,.ret (.old hc),.inr ⟨_,h0,.box ?_⟩,.inl O,.inr ⟨_,hk,.same O B0⟩,J⟩;refine⟨.old a1b,.old (.val _),.old (.val _),.old (.val _),.old N4,.list (λr hr c hc=>(C6 (f:=Ex.cv) (λa=>(Ex.pure a).all) _ r hr c hc).old) ?_,.old a3d,J⟩;intro j hj;have dz:F1 b.length 2=some j:=hj;cases hb:b.length with
 |zero=>rw[hb]at dz;cases dz
 |succ m=>rw[hb]at dz;injection dz with dz;subst dz;exact⟨k,O,O⟩
theorem a5E{n:Nat}{at_ e:Int}{ps:List I}{b:List Ex}{tok:Option Nat}(he:e≠0)(h0:τ[0]?=some (.box [.list (T.map Tok.cv) true none,iv n,iv at_,iv e,.list (ps.map scv) (gnn ps.length) none,.list (b.map Ex.cv) (gnn b.length) tok,.list [] false none]))(hc:Old 2 c):F0 2 τ (.ret c) (.ret c) (a61 T n at_ e ps b):=by
 have ht:∀m s,tkE e m s=none:=λm s=>W he;have hp:o5 e b.length = .dead:=W he;refine⟨[0,1,τ.length+2],O,by simp[a0o],.ret (.old hc),.inr ⟨_,h0,.box ⟨.old a1b,.old (.val _),.old (.val _),.old (.val _),.old N4,.list (λr hr c hc=>(C6 (f:=Ex.cv) (λa=>(Ex.pure a).all) _ r hr c hc).old) (λj hj=>by rw[ht]at hj;cases hj),.old a3d,J⟩⟩,.inl O,.inl hp,J⟩
abbrev rS1(σ:List b9)(q s:Nat)(T:List Tok)(n:Nat)(at_ e:Int)(ps:List I)(b:List Ex):List b9:=(σ.set q (rbx T n at_ e ps b σ.length)).set s .dead++[o5 e b.length]
theorem a1V{f:FuncId}{args:List CV}{c:α->CV}{N:α->Nat}{A E:α->Int}{B:α->List Ex}{P:α->Prop}{n:Nat}{at_ e:Int}{ps:List I}{b:List Ex}(ap:∀a∈args,p9 a)(hc:∀a,p9 (c a))
 (h:b8 CC f (.ptr 0 0::args) (rst T n at_ e ps b) λr τ=>∃a,F0 2 τ r (.ret (c a)) (a61 T (N a) (A a) (E a) ps (B a))/\P a){σ:List b9}{q s:Nat}(ao:RAt σ q s T n at_ e ps b):
 b8 CC f (.ptr q 0::args) σ λr τ=>∃a,r= .ret (c a)/\τ=rS1 σ q s T (N a) (A a) (E a) ps (B a)/\P a:=
 a87 (c:=c) (N:=N) (A:=A) (E:=E) (B:=B) (g:=λ_=>true) (P:=P) ap hc (h.mono λ_ _ ⟨a,h1,h2⟩=>⟨a,h1,h2⟩) ao
abbrev a9E(w:Nat×List Ex):Int×List Ex:=((w.1:Int),w.2)
theorem c4n{e:Int}{b:List Ex}{x:Ex}{y:Int×List Ex}(h:(e=0->(b.length=256/\e2≠0)\/(b.length≠256/\e2=0))/\(e≠0->e2≠0))(hy:e2=0->y=((b.length:Int),b++[x])):Ok e ((X2 b x).map a9E) e2 y:=by
 refine⟨λh0=>?_,h.2⟩;unfold X2
 rcases h.1 h0 with⟨h1,h2⟩|⟨h1,h2⟩
 .rw [Q h1];exact .inr ⟨O,h2⟩
 .rw [W h1,hy h2];exact .inl ⟨O,h2⟩
theorem d3M(T:List Tok)(n:Nat)(at_ e:Int)(ps:List I)(b:List Ex)(hb:b.length<=256)(x:Ex)(z:Int):b8 CC 263 [.ptr 0 0,.agg x.cells,iv z] (rst T n at_ e ps b) (λr τ=>∃a:Int×Int×Int×List Ex,F0 2 τ r (.ret (iv a.1)) (a61 T n a.2.1 a.2.2.1 ps a.2.2.2)/\(Ok e ((X2 b x).map a9E) a.2.2.1 (a.1,a.2.2.2)/\a.2.2.2.length<=256/\-1<=a.1/\a.1<=256)):=by
 refine cO Tryz.func263 ?_;refine b3h ?_;refine O6 (α:=Int×Int) (λ_=>[(0,.ptr 0 0),(4,.ptr 2 0)]) (λa=>[rbx T n a.1 a.2 ps b 1,o5 a.2 b.length,.box x.cells]) (λa=>(e=0->(b.length=256/\a.2≠0)\/(b.length≠256/\a.2=0))/\(e≠0->a.2≠0)) ?_ ?_
 .
  refine qk (qG C9 ?_);refine qG (λhg=>b4c O hg O) ?_;refine qG (λhg=>j3 O hg O b55 O b1B H) ?_;refine qG (λhg=>j9 O hg O c9P O O) ?_;refine qG d2v ?_;refine a4w ?_;refine qC ?_ ?_<;>intro h1
  .have hv:e=0/\b.length=256:=sm_ h1;refine qD (c4 O a92 a3f (Y7 _ _ H ⟨O,O,H⟩) O ?_);rintro⟨x1,y1⟩ hy;dsimp only at hy⊢;refine qN [rbx T n x1 y1 ps b 1,o5 y1 b.length,.box x.cells] O ?_;exact⟨(x1,y1),⟨λ_=>.inl ⟨hv.2,hy⟩,λ_=>hy⟩,tu_,O⟩
  .have hv:¬(e=0/\b.length=256):=λh=>by simp[h.1,h.2]at h1
   exact⟨(at_,e),⟨λh0=>.inr ⟨λh=>hv ⟨h0,h⟩,h0⟩,λh=>h⟩,tu_,O⟩
 .rintro ⟨x1,y1⟩ E1 hp;dsimp only at hp⊢;refine qk ?_;refine cC ?_ ?_<;>intro h2
  .obtain rfl:y1=0:=D h2;have dw:(b++[x]).length=b.length+1:=by simp
   have hl:b.length≠256:=by
    by_cases h0:e=0
    .rcases hp.1 h0 with⟨_,h⟩|⟨h,_⟩
     .exact absurd O h
     .exact h
    .exact absurd O (hp.2 h0)
   refine L6 [.box [.list (T.map Tok.cv) true none,iv n,iv x1,iv 0,.list (ps.map scv) (gnn ps.length) none,.list (b.map Ex.cv) (gnn b.length) (F1 b.length 1),.list [] false none],m0 b.length,.box x.cells] O ?_;refine d0o ?_;refine a7n ?_;refine chf O (c8 O c5i) ?_;refine chf O (c8 O c4s) ?_;refine chf O (c8 O c3D) ?_;refine chf O e1K ?_;refine H4 ?_;refine B6 O O O (C8 O J J O U q_3 b6o a9d Tryz.typeInfo146 b2Y O (.inr O) q_7 (by have hb:Tryz.t146.bytes=64:=O;rw[hb];first|omega|(simp;done)|(simp;omega)) G6 ((b++[x]).map Ex.cv) (b++[x]).length U U ?_);refine c4x ?_;refine E8 O O (c8 O c5i) ⟨J,?_⟩;refine d8S ?_;refine qY a4k ?_;refine qY V4 ?_;refine c6 ?_;exact⟨_,rE1,(by exact⟨(((b++[x]).length:Int) -1,x1,0,b++[x]),d1x (k:=3) O O H (.val _),c4n hp (λ_=>by simp),by simp;omega,do_,by simp;omega⟩)⟩
  .have fB:y1≠0:=D h2;refine qk (qY a4k ?_);refine qY V4 ?_;refine c6 ?_;exact⟨_,rE1,(by exact⟨((b.length:Int) -1,x1,y1,b),a5E fB O (.val _),c4n hp (λh=>absurd h fB),hb,do_,do_⟩)⟩
theorem d6j(x:Ex):p9 (.agg x.cells):=o0 (Ex.pure x)
theorem N7{n:Nat}{at_ e:Int}{ps:List I}{b:List Ex}(hb:b.length<=256)(x:Ex)(z:Int){s:Nat}(ao:RAt σ q s T n at_ e ps b):b8 CC 263 [.ptr q 0,.agg x.cells,iv z] σ λr τ=>∃a:Int×Int×Int×List Ex,r= .ret (iv a.1)/\τ=rS1 σ q s T n a.2.1 a.2.2.1 ps a.2.2.2/\(Ok e ((X2 b x).map a9E) a.2.2.1 (a.1,a.2.2.2)/\a.2.2.2.length<=256/\-1<=a.1/\a.1<=256):=
 a1V (c:=λa:Int×Int×Int×List Ex=>(iv a.1)) (N:=λ_=>n) (A:=λa=>a.2.1) (E:=λa=>a.2.2.1) (B:=λa=>a.2.2.2) (λ_ h=>by
  simp at h
  rcases h with rfl|rfl
  .exact d6j x
  .exact .val _) (λ_=>.val _) (d3M T n at_ e ps b hb x z) ao
structure RX where
 x:Int
 n:Nat
 at_:Int
 e:Int
 b:List Ex
abbrev cx(p:PX):Int×Nat×List Ex:=((p.1:Int),p.2.1,p.2.2)
theorem Ok.alive{e:Int}(h:Ok e o e' y)(h0:e'=0):e=0/\o=Option.some y:=by
 by_cases he:e=0
 .rcases h.1 he with⟨h1,_⟩|⟨_,h1⟩
  .exact ⟨he,h1⟩
  .exact absurd h0 h1
 .exact absurd h0 (h.2 he)
theorem Ok.bindM{γ β:Type}{e:Int}{g:α->γ}{y:γ}{f:α->Option β}{z:β}(h:Ok e (o.map g) e1 y)(k:∀p,o=Option.some p->g p=y->Ok e1 (f p) e2 z)(kd:e1≠0->e2≠0):Ok e (o.bind f) e2 z:=by
 refine⟨λh0=>?_,λh0=>kd (h.2 h0)⟩
 rcases h.1 h0 with⟨h1,h2⟩|⟨h1,h2⟩
 .obtain ⟨p,hp,hg⟩:=Q3.1 h1;rw[hp];exact(k p hp hg).1 h2
 .rw [b3n.1 h1];exact .inr ⟨O,kd h2⟩
def RXP(T:List Tok)(n:Nat)(e:Int)(o:Option PX)(a:RX):Prop:=Ok e (o.map cx) a.e (a.x,a.n,a.b)/\a.n <T.length/\a.b.length<=256/\(a.e=0->n<a.n)/\-1<=a.x/\a.x<=256
def REC(T:List Tok)(ps:List I)(f:Nat):Prop:=∀(d n:Nat) (at_ e:Int) (b:List Ex),n<T.length->b.length<=256->d<=33->(e=0->8*(T.length -n)+6<=f)->∀(σ:List b9) (q s:Nat),RAt σ q s T n at_ e ps b->b8 CC 226 [.ptr q 0,iv d] σ λr τ=>∃a:RX,r= .ret (iv a.x)/\τ=rS1 σ q s T a.n a.at_ a.e ps a.b/\RXP T n e ((z6 T ps f).ex d n b) a
def RSC(T:List Tok)(ps:List I)(f:Nat):Prop:=∀(d n:Nat) (at_:Int) (b:List Ex),n<T.length->b.length<=256->d<=32->8*(T.length -n)+6<=f+2->∀(σ:List b9) (q s:Nat),RAt σ q s T n at_ 0 ps b->b8 CC 264 [.ptr q 0,iv d] σ λr τ=>∃a:RX,r= .ret (iv a.x)/\τ=rS1 σ q s T a.n a.at_ a.e ps a.b/\RXP T n 0 ((z6 T ps f).bin 2 d n b) a
def RTC(T:List Tok)(ps:List I)(f:Nat):Prop:=∀(d n:Nat) (at_:Int) (b:List Ex),n<T.length->b.length<=256->d<=32->8*(T.length -n)+6<=f+3->∀(σ:List b9) (q s:Nat),RAt σ q s T n at_ 0 ps b->b8 CC 299 [.ptr q 0,iv d] σ λr τ=>∃a:RX,r= .ret (iv a.x)/\τ=rS1 σ q s T a.n a.at_ a.e ps a.b/\RXP T n 0 ((z6 T ps f).bin 3 d n b) a
def RFC(T:List Tok)(ps:List I)(f:Nat):Prop:=∀(d n:Nat) (at_:Int) (b:List Ex),n<T.length->b.length<=256->d<=32->8*(T.length -n)+1<=f->∀(σ:List b9) (q s:Nat),RAt σ q s T n at_ 0 ps b->b8 CC 326 [.ptr q 0,iv d] σ λr τ=>∃a:RX,r= .ret (iv a.x)/\τ=rS1 σ q s T a.n a.at_ a.e ps a.b/\RXP T n 0 ((z6 T ps f).fac d n b) a
theorem RXP.dead{n m:Nat}{e x at2:Int}{o:Option PX}{b:List Ex}(h:e=0->o=Option.none)(h2:e2≠0)(hm:m<T.length)(hb:b.length<=256)(hx: -1<=x/\x<=256):RXP T n e o ⟨x,m,at2,e2,b⟩:=by
 refine⟨⟨λh0=>.inr ⟨by rw[h h0];rfl,h2⟩,λ_=>h2⟩,hm,hb,λh0=>absurd h0 h2,hx.1,hx.2⟩
theorem a2m{e x:Int}{b b2:List Ex}{y:Ex}{m:Nat}(h:Ok e ((X2 b y).map a9E) e2 (x,b2)):Ok e ((L8 b y m).map cx) e2 (x,m,b2):=by
 have e1:(L8 b y m).map cx=((X2 b y).map a9E).map λw=>(w.1,m,w.2):=by
  unfold L8;cases X2 b y<;>rfl
 rw[e1];refine⟨λh0=>?_,h.2⟩
 rcases h.1 h0 with⟨h1,h2⟩|⟨h1,h2⟩
 .rw [h1];exact .inl ⟨O,h2⟩
 .rw [h1];exact .inr ⟨O,h2⟩
theorem e3d{ps:List I}{d n:Nat}{b:List Ex}:(z6 T ps (f+1+1)).bin 1 d n b=((z6 T ps (f+1)).bin 2 d n b).bind λx=>if opS (tk T x.2.1) 1=0 then some x else((z6 T ps f).bin 2 d (x.2.1+1) x.2.2).bind λy=>L8 y.2.2 ⟨4,0,opS (tk T x.2.1) 1,[],[(x.1:Int),(y.1:Int)]⟩ y.2.1:=by
 have h:(z6 T ps (f+1+1)).bin 1 d n b=(G4 T ps (z6 T ps (f+1))).bin 1 d n b:=O;rw[h];simp only[G4];rw[W H];rfl
theorem d9X(t:Tok):opS t 1=if isT t 4 [60]=true then 6 else if isT t 4 [61,61]=true then 7 else 0:=by
 by_cases h1:isT t 4 [60]=true
 .rw [Q h1];exact a4X (x:=(6,[60])) H (by simpa[opM,isT,J4]using h1)
 .rw [W h1];by_cases h2:isT t 4 [61,61]=true
  .rw [Q h2];exact a4X (x:=(7,[61,61])) H (by simpa[opM,isT,J4]using h2)
  .rw [W h2];refine b0R λx hx=>?_;simp only[S0,J2,b0l,or_false]at hx
   rcases hx with rfl|rfl|rfl|rfl|rfl|rfl|rfl<;>simp_all[opM,isT,J4]
theorem U9{n k:Nat}{at_ e:Int}{ps:List I}{b:List Ex}(h0:τ[0]?=some (rbx T n at_ e ps b k))(hk:τ[k]?=some (o5 e b.length))(h2:2<=k)(hc:Old 2 c):F0 2 τ (.ret c) (.ret c) (a61 T n at_ e ps b):=by
 by_cases he:e=0
 .subst he;exact d1x h0 hk h2 hc
 .exact a5E he h0 hc
theorem a0f{b:List Ex}{e:Int}{k p:Nat}(h:ak[p]?=some k):C3 L ak (.list (b.map Ex.cv) (gnn b.length) (tkE e b.length k)) (.list (b.map Ex.cv) (gnn b.length) (tkE e b.length p)):=by
 unfold tkE
 split
 .exact a7s h
 .exact .list (λr hr c hc=>(C6 (f:=Ex.cv) (λa=>(Ex.pure a).all) _ r hr c hc).old) (λj hj=>by cases hj)
theorem Ok.bindP{e:Int}{f:α->Option PX}(h:Ok e o e1 y)(k:Ok e1 ((f y).map cx) e2 z):Ok e ((o.bind f).map cx) e2 z:=by
 have h1:(o.bind f).map cx=o.bind λa=>(f a).map cx:=by cases o<;>rfl
 rw[h1];exact h.bind k
theorem Ok.bindX{e x:Int}{o:Option PX}{f:PX->Option PX}{n:Nat}{b:List Ex}(h:Ok e (o.map cx) e1 (x,n,b))(k:∀i:Nat,(i:Int)=x->Ok e1 ((f (i,n,b)).map cx) e2 z)(kd:e1≠0->e2≠0):Ok e ((o.bind f).map cx) e2 z:=by
 have h1:(o.bind f).map cx=o.bind λa=>(f a).map cx:=by cases o<;>rfl
 rw[h1];refine h.bindM (λp hp hg=>?_) kd;obtain⟨i,m,c⟩:=p;obtain⟨h1,h2,h3⟩:(i:Int)=x/\m=n/\c=b:=by simpa[cx]using hg
 subst h2 h3;exact k i h1
theorem Ok.bindT{e:Int}{o:Option (Tok×Nat)}{f:Tok×Nat->Option PX}{n:Nat}(h:Ok e (o.map λx=>(x.1.t,x.2)) e1 (s,n))(k:∀t:Tok,t.t=s->Ok e1 ((f (t,n)).map cx) e2 z)(kd:e1≠0->e2≠0):Ok e ((o.bind f).map cx) e2 z:=by
 have h1:(o.bind f).map cx=o.bind λa=>(f a).map cx:=by cases o<;>rfl
 rw[h1];refine h.bindM (λp hp hg=>?_) kd;obtain⟨t,m⟩:=p;obtain⟨h1,h2⟩:t.t=s/\m=n:=D hg;subst h2;exact k t h1
theorem Ok.bindI{e:Int}{o:Option (Tok×Nat)}{f:Tok×Nat->Option PX}{n:Nat}{s:Int}(h:Ok e (o.map λx=>(x.1.n,x.2)) e1 (s,n))(k:∀t:Tok,t.n=s->Ok e1 ((f (t,n)).map cx) e2 z)(kd:e1≠0->e2≠0):Ok e ((o.bind f).map cx) e2 z:=by
 have h1:(o.bind f).map cx=o.bind λa=>(f a).map cx:=by cases o<;>rfl
 rw[h1];refine h.bindM (λp hp hg=>?_) kd;obtain⟨t,m⟩:=p;obtain⟨h1,h2⟩:t.n=s/\m=n:=D hg;subst h2;exact k t h1
theorem Ok.zero{e:Int}(h:Ok 0 o e y):(e=0/\o=Option.some y)\/(e≠0/\o=Option.none):=by
 rcases h.1 O with⟨h1,h2⟩|⟨h1,h2⟩
 .exact .inl ⟨h2,h1⟩
 .exact .inr ⟨h2,h1⟩
theorem b5D{o:Option PX}{x:Int}{n:Nat}{b:List Ex}(h:o.map cx=some (x,n,b)):∃i:Nat,(i:Int)=x/\o=some (i,n,b):=by
 obtain⟨⟨i,m,c⟩,hp,hg⟩:=Q3.1 h;obtain⟨h1,h2,h3⟩:(i:Int)=x/\m=n/\c=b:=by simpa[cx]using hg
 subst h2 h3;exact⟨i,h1,hp⟩
theorem b5k{o:Option PX}(h:o.map cx=none):o=none:=b3n.1 h
theorem d4L{ps:List I}{d n:Nat}{b:List Ex}(hd:32<d):(z6 T ps f).ex d n b=none:=by
 cases f with
 |zero=>rfl
 |succ f=>exact Q hd
theorem e1q(h:isT t 4 [60]=false)(h':isT t 4 [61,61]=false):opS t 1=0:=by
 rw[d9X];simp[h,h']
theorem d5t{x1 c:Int}{b1:List Ex}{r:Option PX}(hi:(i:Int)=x1)(h:e1=0->c=0):Ok e1 ((if c=0 then some (i,n1,b1)else r).map cx) e1 (x1,n1,b1):=by
 by_cases he:e1=0
 .rw [Q (h he),<- hi];exact .some
 .exact .dead he he
theorem S9{n:Nat}{v:Bool}(h:v=sgB T n 0 k u)(hv:v=false):isT (tk T n) k u=false:=by
 subst hv;simpa[sgB]using h.symm
theorem d1k{ps:List I}(hc:a0j T ps)(d n:Nat)(at_ e:Int)(b:List Ex)(hn:n<T.length)(hb:b.length<=256)(bV:d<=33)(hx:e=0->∃f,f0=f+3/\8*(T.length -n)+6<=f+3/\REC T ps (f+2)/\RSC T ps (f+1)/\RSC T ps f):b8 CC 226 [.ptr 0 0,iv d] (rst T n at_ e ps b) (λr τ=>∃a:RX,F0 2 τ r (.ret (iv a.x)) (a61 T a.n a.at_ a.e ps a.b)/\RXP T n e ((z6 T ps f0).ex d n b) a):=by
 have hT:=hc.len;have hW:=hc.w;refine qO Tryz.func226 ?_;refine qY b9z ?_;refine qY a4n ?_;refine qC ?_ ?_<;>intro h1
 .have hd:32<d:=sm_ h1;refine qD (c4 O a92 a3f (Y7 _ _ H ⟨O,O,H⟩) O ?_);rintro⟨x0,y0⟩ bE;dsimp only at bE⊢;refine qN [rbx T n x0 y0 ps b 1,o5 y0 b.length] O (qC ?_ ?_)<;> intro h2
  .refine c6 ?_;exact⟨_,rE1,(by exact⟨⟨0,n,x0,y0,b⟩,a5E bE O (.val _),.dead (λ_=>d4L hd) bE hn hb ⟨H,H⟩⟩)⟩
  .exact absurd (show y0=0 by simpa using h2) bE
 .have hd:¬32<d:=sm_ h1;refine qC ?_ ?_<;>intro h8
  .have he:e≠0:=D h8;refine c6 ?_;exact⟨_,rE1,(by exact⟨⟨0,n,at_,e,b⟩,a5E he O (.val _),.dead (λh0=>absurd h0 he) he hn hb ⟨H,H⟩⟩)⟩
  .obtain rfl:e=0:=D h8;obtain⟨f,rfl,hf,hE,hS1,hS0⟩:=hx O;have ah:(z6 T ps (f+3)).ex d n b=(G4 T ps (z6 T ps (f+2))).ex d n b:=O;simp only[G4]at ah;rw[W hd]at ah;refine qD (c4 O b0p o3 (Z0 hT hn hW [105,102] ⟨O,O,H⟩) O ?_);rintro⟨v8,m8⟩ ⟨dy,hs8,hf8,hm8⟩;dsimp only at dy hs8 hf8 hm8⊢;refine qN [rbx T m8 at_ 0 ps b 1,o5 0 b.length] O ?_;refine cC ?_ ?_<;>intro h9
   .have hi:v8=true:=D h9;have hm:=hs8 hi;subst m8;have cK:=(V2 (dy.symm.trans hi)).2;rw[Q cK]at ah;refine qs 1 (qY o7 ?_);refine qD (c4 O b9f i7 (hE (d+1) (n+1) at_ 0 b hm8 hb G (λ_=>by omega) _ 0 1 ⟨O,O,H⟩) O ?_);rintro⟨x1,n1,a1,e1,b1⟩ ⟨k1,y1,w1,z1,l1,u1⟩;dsimp only at k1 y1 w1 z1 l1 u1⊢;refine qN [rbx T n1 a1 e1 ps b1 2,.dead,o5 e1 b1.length] O ?_;refine O6 (α:=Nat×Int×Int) (λ_=>[(0,.ptr 0 0),(1,iv d),(5,(iv ((tk T n).at_))),(6,iv x1)]) (λa=>[rbx T a.1 a.2.1 a.2.2 ps b1 2,.dead,o5 a.2.2 b1.length]) (λa=>Ok e1 (pIs T n1 1 [116,104,101,110]) a.2.2 a.1/\a.1 <T.length) ?_ ?_
    .
     refine qk (qD (c4 O b0p o3 (Z0 hT y1 hW [116,104,101,110] ⟨O,O,H⟩) O ?_));rintro⟨v9,m9⟩ ⟨fx,gM,iT,fz⟩;dsimp only at fx gM iT fz⊢;refine qN [rbx T m9 a1 e1 ps b1 2,.dead,o5 e1 b1.length] O (qC ?_ ?_)<;> intro bp
     .have hw:v9=false:=D bp;refine d7y ?_;rintro⟨x0,y0⟩ bE;dsimp only at bE⊢;refine qN [rbx T m9 x0 y0 ps b1 2,.dead,o5 y0 b1.length] O ?_;exact⟨(m9,x0,y0),⟨b0y (fx.symm.trans hw) bE,fz⟩,tu_,O⟩
     .have hw:v9=true:=D bp;exact⟨(m9,a1,e1),⟨by dsimp only;rw[gM hw];exact b0D (fx.symm.trans hw),fz⟩,tu_,O⟩
    .rintro ⟨n2,a2,e2⟩ E2 ⟨q2,y2⟩;dsimp only at q2 y2⊢;have g2:e2=0->n2=n1+1/\e1=0:=λh0=>⟨Q5 (q2.alive h0).2,(q2.alive h0).1⟩;refine qs 1 (qY o7 ?_);refine qD (c4 O b9f i7 (hE (d+1) n2 a2 e2 b1 y2 w1 G (λh0=>by have:=g2 h0;have:=z1 this.2;omega) _ 0 2 ⟨O,O,H⟩) O ?_);rintro⟨x3,n3,a3,e3,b3⟩ ⟨k3,y3,w3,z3,l3,u3⟩;dsimp only at k3 y3 w3 z3 l3 u3⊢;refine qN [rbx T n3 a3 e3 ps b3 3,.dead,.dead,o5 e3 b3.length] O ?_;refine O6 (α:=Nat×Int×Int) (λ_=>[(0,.ptr 0 0),(1,iv d),(5,(iv ((tk T n).at_))),(6,iv x1),(7,iv x3)]) (λa=>[rbx T a.1 a.2.1 a.2.2 ps b3 3,.dead,.dead,o5 a.2.2 b3.length]) (λa=>Ok e3 (pIs T n3 1 [101,108,115,101]) a.2.2 a.1/\a.1 <T.length) ?_ ?_
     .
      refine qk (qD (c4 O b0p o3 (Z0 hT y3 hW [101,108,115,101] ⟨O,O,H⟩) O ?_));rintro⟨v9,m9⟩ ⟨fx,gM,iT,fz⟩;dsimp only at fx gM iT fz⊢;refine qN [rbx T m9 a3 e3 ps b3 3,.dead,.dead,o5 e3 b3.length] O (qC ?_ ?_)<;> intro eF
      .have hw:v9=false:=D eF;refine d7y ?_;rintro⟨x0,y0⟩ bE;dsimp only at bE⊢;refine qN [rbx T m9 x0 y0 ps b3 3,.dead,.dead,o5 y0 b3.length] O ?_;exact⟨(m9,x0,y0),⟨b0y (fx.symm.trans hw) bE,fz⟩,tu_,O⟩
      .have hw:v9=true:=D eF;exact⟨(m9,a3,e3),⟨by dsimp only;rw[gM hw];exact b0D (fx.symm.trans hw),fz⟩,tu_,O⟩
     .rintro ⟨n4,a4,e4⟩ E4 ⟨q4,y4⟩;dsimp only at q4 y4⊢;have g4:e4=0->n4=n3+1/\e3=0:=λh0=>⟨Q5 (q4.alive h0).2,(q4.alive h0).1⟩;refine qk (qY o7 ?_);refine qD (c4 O b9f i7 (hE (d+1) n4 a4 e4 b3 y4 w3 G (λh0=>by have q:=g4 h0;have:=z3 q.2;have q:=g2 (k3.alive q.2).1;have:=z1 q.2;omega) _ 0 3 ⟨O,O,H⟩) O ?_);rintro⟨x5,n5,a5,e5,b5⟩ ⟨k5,y5,w5,z5,l5,u5⟩;dsimp only at k5 y5 w5 z5 l5 u5⊢;refine qN [rbx T n5 a5 e5 ps b5 4,.dead,.dead,.dead,o5 e5 b5.length] O (qY (A9 ([x1,x3,x5].map icv) O E7 t_4 t_1 t_7 O O O O O O O O O) ?_);refine qY b0P ?_;refine qD (c4 O a4D E7 (N7 w5 ⟨5,0,0,[],[x1,x3,x5]⟩ _ ⟨O,O,H⟩) O ?_);rintro⟨x6,a6,e6,b6⟩ ⟨k6,w6,l6,u6⟩;dsimp only at k6 w6 l6 u6⊢;refine qN [rbx T n5 a6 e6 ps b6 5,.dead,.dead,.dead,.dead,o5 e6 b6.length] O ?_;refine c6 ?_;exact⟨_,rE1,(by exact⟨⟨x6,n5,a6,e6,b6⟩,U9 (k:=5) O O H (.val _),⟨by rw[ah];exact k1.bindX (λi hi=>q2.bindP (k3.bindX (λj hj=>q4.bindP (k5.bindX (λl hl=>a2m (by rw[hi,hj,hl];exact k6)) k6.2)) λh=>k6.2 (k5.2 (q4.2 h)))) λh=>k6.2 (k5.2 (q4.2 (k3.2 (q2.2 h)))),y5,w6,λh0=>by have h5:=(k6.alive h0).1;have q5:=z5 h5;have q:=g4 (k5.alive h5).1;have:=z3 q.2;have q:=g2 (k3.alive q.2).1;have:=z1 q.2;dsimp only at h0⊢;omega,l6,u6⟩⟩)⟩
   .have hi:v8=false:=D h9;have hm:=hf8 hi;subst m8;rw[W (by rw[S9 dy hi];decide)]at ah;replace ah:=ah.trans e3d;refine qk (qD (c4 O d1w i7 (hS1 d n at_ b hn hb G G _ 0 1 ⟨O,O,H⟩) O ?_));rintro⟨x1,n1,a1,e1,b1⟩ ⟨k1,y1,w1,z1,l1,u1⟩;dsimp only at k1 y1 w1 z1 l1 u1⊢;refine qN [rbx T n1 a1 e1 ps b1 2,.dead,o5 e1 b1.length] O ?_;refine d7c ?_;refine qD (c4 O a8M o3 (X0 hT y1 hW [60] ⟨O,O,H⟩) O ?_);rintro⟨v2,m2⟩ ⟨db,dh,gK,cI⟩;dsimp only at db dh gK cI⊢;refine qN [rbx T m2 a1 e1 ps b1 2,.dead,o5 e1 b1.length] O (qC ?_ ?_)<;> intro eG
    .have cK:v2=true:=D eG;obtain⟨ia,fX⟩:=V2 (db.symm.trans cK);subst e1;have hm:=dh cK;subst m2;have bi:opS (tk T n1) 1=6:=by rw[d9X,Q fX]
     refine qD (c4 O d1w i7 (hS0 d (n1+1) a1 b1 cI w1 G (by have:=z1 O;omega) _ 0 2 ⟨O,O,H⟩) O ?_);rintro⟨x3,n3,a3,e3,b3⟩ ⟨k3,y3,w3,z3,l3,u3⟩;dsimp only at k3 y3 w3 z3 l3 u3⊢;refine qN [rbx T n3 a3 e3 ps b3 3,.dead,.dead,o5 e3 b3.length] O (qY e1r ?_);refine qY c6i ?_;refine qD (c4 O a4D E7 (N7 w3 ⟨4,0,6,[],[x1,x3]⟩ _ ⟨O,O,H⟩) O ?_);rintro⟨x6,a6,e6,b6⟩ ⟨k6,w6,l6,u6⟩;dsimp only at k6 w6 l6 u6⊢;refine d7Y ?_;exact⟨_,rE1,q_2⟩
    .have cK:v2=false:=D eG;have hm:=gK cK;subst m2;refine qD (c4 O a8M o3 (X0 hT y1 hW [61,61] ⟨O,O,H⟩) O ?_);rintro⟨v4,m4⟩ ⟨hv4,hs4,hf4,hm4⟩;dsimp only at hv4 hs4 hf4 hm4⊢;refine qN [rbx T m4 a1 e1 ps b1 2,.dead,o5 e1 b1.length] O (qC ?_ ?_)<;> intro eH
     .have ib:v4=true:=D eH;obtain⟨ia,fX⟩:=V2 (hv4.symm.trans ib);subst e1;have hm:=hs4 ib;subst m4;have bi:opS (tk T n1) 1=7:=by rw[d9X,W (by rw[S9 db cK];decide),Q fX]
      refine qD (c4 O d1w i7 (hS0 d (n1+1) a1 b1 hm4 w1 G (by have:=z1 O;omega) _ 0 2 ⟨O,O,H⟩) O ?_);rintro⟨x3,n3,a3,e3,b3⟩ ⟨k3,y3,w3,z3,l3,u3⟩;dsimp only at k3 y3 w3 z3 l3 u3⊢;refine qN [rbx T n3 a3 e3 ps b3 3,.dead,.dead,o5 e3 b3.length] O (qY e1r ?_);refine qY c6i ?_;refine qD (c4 O a4D E7 (N7 w3 ⟨4,0,7,[],[x1,x3]⟩ _ ⟨O,O,H⟩) O ?_);rintro⟨x6,a6,e6,b6⟩ ⟨k6,w6,l6,u6⟩;dsimp only at k6 w6 l6 u6⊢;refine d7Y ?_;exact⟨_,rE1,q_2⟩
     .have ib:v4=false:=D eH;have hm:=hf4 ib;subst m4;have dD:e1=0->opS (tk T n1) 1=0:=λh0=>by subst h0;exact e1q (S9 db cK) (S9 hv4 ib)
      refine c6 ?_;exact⟨_,rE1,(by exact⟨⟨x1,n1,a1,e1,b1⟩,U9 (k:=2) O O H (.val _),⟨by rw[ah];exact k1.bindX (λi hi=>d5t hi dD) id,y1,w1,z1,l1,u1⟩⟩)⟩
theorem d4T{ps:List I}(hc:a0j T ps)(Jf:∀g,g<f0->REC T ps g/\RSC T ps g):REC T ps f0:=λd n at_ e b hn hb hd hf σ q s ao=>
 a1V (c:=λa:RX=>(iv a.x)) (N:=λa=>a.n) (A:=λa=>a.at_) (E:=λa=>a.e) (B:=λa=>a.b) (λ_ h=>by simp at h;subst h;exact .val _) (λ_=>.val _) (d1k hc d n at_ e b hn hb hd (λh0=>by
  have h1:=hf h0;obtain⟨f,rfl⟩:∃f,f0=f+3:=⟨f0-3,G⟩;exact⟨f,O,h1,(Jf (f+2) G).1,(Jf (f+1) G).2,(Jf f G).2⟩)) ao
def ot1(ph:Bool)(e:Int)(m:Nat):b9:=if ph=true then .dead else o5 e m
def ot2(ph:Bool)(e:Int)(m:Nat):b9:=if ph=true then o5 e m else .dead
structure RL where
 x:Int
 m:Nat
 at_:Int
 e:Int
 b:List Ex
 ph:Bool
 g:Nat
variable{x:Int}
theorem e1J{ps:List I}{d n lv:Nat}{b:List Ex}(h:lv≠4):(z6 T ps (f+1)).bin lv d n b=((z6 T ps f).bin (lv+1) d n b).bind λx=>(z6 T ps f).lp lv d x.1 x.2.1 x.2.2:=by
 have h':(z6 T ps (f+1)).bin lv d n b=(G4 T ps (z6 T ps f)).bin lv d n b:=O;rw[h'];simp only[G4];rw[W h]
theorem e1j{ps:List I}{d n:Nat}{b:List Ex}:(z6 T ps (f+1)).bin 4 d n b=(z6 T ps f).fac d n b:=O
theorem lpS{ps:List I}{g d x n lv:Nat}{b:List Ex}(h:lv≠1):(z6 T ps (g+1)).lp lv d x n b=if opS (tk T n) (lv:Int)=0 then some (x,n,b)else((z6 T ps g).bin (lv+1) d (n+1) b).bind λy=>(X2 y.2.2 ⟨4,0,opS (tk T n) (lv:Int),[],[(x:Int),(y.1:Int)]⟩).bind λw=>(z6 T ps g).lp lv d w.1 y.2.1 w.2:=by
 have h':(z6 T ps (g+1)).lp lv d x n b=(G4 T ps (z6 T ps g)).lp lv d x n b:=O;rw[h'];simp only[G4,W h]
theorem e0Q(t:Tok):opS t 2=if isT t 4 [43]=true then 1 else if isT t 4 [45]=true then 2 else 0:=by
 by_cases h1:isT t 4 [43]=true
 .rw [Q h1];exact a4X (x:=(1,[43])) H (by simpa[opM,isT,J4]using h1)
 .rw [W h1];by_cases h2:isT t 4 [45]=true
  .rw [Q h2];exact a4X (x:=(2,[45])) H (by simpa[opM,isT,J4]using h2)
  .rw [W h2];refine b0R λx hx=>?_;simp only[S0,J2,b0l,or_false]at hx
   rcases hx with rfl|rfl|rfl|rfl|rfl|rfl|rfl<;>simp_all[opM,isT,J4]
theorem op3(t:Tok):opS t 3=if isT t 4 [42]=true then 3 else if isT t 4 [47]=true then 4 else if isT t 4 [37]=true then 5 else 0:=by
 by_cases h1:isT t 4 [42]=true
 .rw [Q h1];exact a4X (x:=(3,[42])) H (by simpa[opM,isT,J4]using h1)
 .rw [W h1];by_cases h2:isT t 4 [47]=true
  .rw [Q h2];exact a4X (x:=(4,[47])) H (by simpa[opM,isT,J4]using h2)
  .rw [W h2];by_cases h3:isT t 4 [37]=true
   .rw [Q h3];exact a4X (x:=(5,[37])) H (by simpa[opM,isT,J4]using h3)
   .rw [W h3];refine b0R λx hx=>?_;simp only[S0,J2,b0l,or_false]at hx
    rcases hx with rfl|rfl|rfl|rfl|rfl|rfl|rfl<;>simp_all[opM,isT,J4]
theorem c1D{o:Option (Nat×List Ex)}{b:List Ex}(h:o.map a9E=some (x,b)):∃i:Nat,(i:Int)=x/\o=some (i,b):=by
 obtain⟨⟨i,c⟩,hp,hg⟩:=Q3.1 h;obtain⟨h1,h2⟩:(i:Int)=x/\c=b:=by simpa[a9E]using hg
 subst h2;exact⟨i,h1,hp⟩
theorem b01{o:Option PX}{K:Nat->Nat->List Ex->Option PX}{x1:Int}{b1:List Ex}(hs:S=o.bind λy=>K y.1 y.2.1 y.2.2)(k:Ok 0 (o.map cx) e1 (x1,n1,b1)):(e1=0->∃i:Nat,(i:Int)=x1/\S=K i n1 b1)/\(e1≠0->S=none):=by
 rcases k.zero with⟨h3,ho⟩|⟨h3,ho⟩
 .obtain ⟨j,hj,ho⟩:=b5D ho;exact⟨λ_=>⟨j,hj,by rw[hs,ho];rfl⟩,λh=>absurd h3 h⟩
 .exact ⟨λh=>absurd h h3,λ_=>by rw[hs,b5k ho];rfl⟩
theorem a3D{o:Option PX}{N:PX->Option (Nat×List Ex)}{K:Nat->Nat->List Ex->Option PX}{x3 x4:Int}{b3 b4:List Ex}(hs:S=o.bind λy=>(N y).bind λw=>K w.1 y.2.1 w.2)(k3:Ok 0 (o.map cx) e3 (x3,n3,b3))(k4:∀j:Nat,(j:Int)=x3->Ok e3 ((N (j,n3,b3)).map a9E) e4 (x4,b4))(k40:e3≠0->e4≠0):
 (e4=0->e3=0/\∃w:Nat,(w:Int)=x4/\S=K w n3 b4)/\(e4≠0->S=none):=by
 rcases k3.zero with⟨h3,ho⟩|⟨h3,ho⟩
 .obtain ⟨j,hj,ho⟩:=b5D ho;subst h3
  rcases(k4 j hj).zero with⟨h4,hn⟩|⟨h4,hn⟩
  .obtain ⟨w,hw,hn⟩:=c1D hn;exact⟨λ_=>⟨O,w,hw,by rw[hs,ho,n_9,hn];rfl⟩,λh=>absurd h4 h⟩
  .exact ⟨λh=>absurd h h4,λ_=>by rw[hs,ho,n_9,b3n.1 hn];rfl⟩
 .exact ⟨λh=>absurd h (k40 h3),λ_=>by rw[hs,b5k ho];rfl⟩
theorem b68{n m:Nat}{at_:Int}{b:List Ex}(hS:S=some (i,m,b))(hi:(i:Int)=x)(hm:m<T.length)(hb:b.length<=256)(hn:n<m)(h1: -1<=x)(h2:x<=256):RXP T n 0 S ⟨x,m,at_,0,b⟩:=by
 subst hS hi;exact⟨.some,hm,hb,λ_=>hn,h1,h2⟩
theorem d5n{ps:List I}(hc:a0j T ps)(hB:∀g,g<=f->RTC T ps g)(d n:Nat)(at_:Int)(b:List Ex)(hn:n<T.length)(hb:b.length<=256)(bV:d<=32)(hf:8*(T.length -n)+6<=f+1+2):b8 CC 264 [.ptr 0 0,iv d] (rst T n at_ 0 ps b) (λr τ=>∃a:RX,F0 2 τ r (.ret (iv a.x)) (a61 T a.n a.at_ a.e ps a.b)/\RXP T n 0 ((z6 T ps (f+1)).bin 2 d n b) a):=by
 have hT:=hc.len;have hW:=hc.w;have ah:=e1J (T:=T) (ps:=ps) (f:=f) (d:=d) (n:=n) (lv:=2) (b:=b) H;refine qO Tryz.func264 ?_;refine qD (c4 O d3v i7 (hB f G d n at_ b hn hb bV G _ 0 1 ⟨O,O,H⟩) O ?_);rintro⟨x1,n1,a1,e1,b1⟩ ⟨k1,y1,w1,z1,l1,u1⟩;dsimp only at k1 y1 w1 z1 l1 u1⊢;refine qN [rbx T n1 a1 e1 ps b1 2,.dead,o5 e1 b1.length] O ?_;have eE:e1=0->8*(T.length -n1)+3<=f:=λh0=>by have:=z1 h0;omega
 have aF:=b01 (K:=λi m c=>(z6 T ps f).lp 2 d i m c) ah k1;refine A5 hCC 3 O (α:=RL) (λa=>[(0,.ptr 0 0),(1,iv d),(5,iv a.x)]) (λa=>[rbx T a.m a.at_ a.e ps a.b (kf a.ph),.dead,ot1 a.ph a.e a.b.length,ot2 a.ph a.e a.b.length]) (λa=>(a.e=0->∃i:Nat,(i:Int)=a.x/\(z6 T ps (f+1)).bin 2 d n b=(z6 T ps a.g).lp 2 d i a.m a.b/\n<a.m/\8*(T.length -a.m)+3<=a.g)/\(a.e≠0->(z6 T ps (f+1)).bin 2 d n b=none)/\a.m <T.length/\a.b.length<=256/\-1<=a.x/\a.x<=256/\a.g<=f) (λa=>if a.e=0 then T.length -a.m+1 else 0) ⟨⟨x1,n1,a1,e1,b1,false,f⟩,[0,1,2,7],⟨λh0=>(aF.1 h0).elim λi hi=>⟨i,hi.1,hi.2,z1 h0,eE h0⟩,aF.2,y1,w1,l1,u1,n_6 _⟩,⟨O,O⟩,ut_,uq_⟩ ?_;intro⟨x,m,a2,e,b2,ph,g⟩ ⟨hI,hN,hm,cg,bh,aE,hgf⟩;dsimp only at hI hN hm cg bh aE hgf⊢;refine qk (qC ?_ ?_)<;> intro h1
 .obtain rfl:e=0:=D h1;obtain⟨i,hi,hS,bX,hg⟩:=hI O;clear hI;obtain⟨g,rfl⟩:∃g',g=g'+1:=⟨g-1,G⟩;rw[lpS H]at hS;refine qY e1I ?_;refine qY a4n ?_;refine qD (c4 O a8M o3 (X0 hT hm hW [43] (q:=0) (s:=kf ph) a1y) O ?_);rintro⟨v10,m10⟩ ⟨gQ,iU,iV,iW⟩;dsimp only at gQ iU iV iW⊢;refine qN [rbx T m10 a2 0 ps b2 (kf ph),.dead,ot1 ph 0 b2.length,ot2 ph 0 b2.length] P9 ?_;refine qC ?_ ?_<;>intro h2
  .have eh:v10=true:=D h2;have hq:=(V2 (gQ.symm.trans eh)).2;have bA:=iU eh;subst m10;have bi:opS (tk T m) (2:Nat)=1:=by
    show opS (tk T m) 2=1;rw[e0Q,Q hq]
   rw[W (by rw[bi];decide),bi]at hS;refine qD (c4 O d3v i7 (hB g G d (m+1) a2 b2 iW cg bV G _ 0 (kf ph) a1y) O ?_);rintro⟨x3,n3,a3,e3,b3⟩ ⟨k3,y3,w3,z3,l3,u3⟩;dsimp only at k3 y3 w3 z3 l3 u3⊢;refine qN [rbx T n3 a3 e3 ps b3 4,.dead,.dead,.dead,o5 e3 b3.length] P9 ?_;refine b92 ?_;refine qD (c4 O a4D E7 (N7 w3 ⟨4,0,1,[],[x,x3]⟩ _ ⟨O,O,H⟩) O ?_);rintro⟨x4,a4,e4,b4⟩ ⟨k4,w4,l4,u4⟩;dsimp only at k4 w4 l4 u4⊢;refine qN [rbx T n3 a4 e4 ps b4 5,.dead,.dead,.dead,.dead,o5 e4 b4.length] O ?_;have eE:e3=0->n<n3/\8*(T.length -n3)+3<=g:=λh0=>by have:=z3 h0;omega
   have bw:(if e4=0 then T.length -n3+1 else 0)< (if(0:Int)=0 then T.length -m+1 else 0):=by
    rw[Q O]
    split
    .rename_i h0;have:=z3 (k4.alive h0).1;omega
    .omega
   have aF:=a3D (K:=λi m c=>(z6 T ps g).lp 2 d i m c) hS k3 (λj hj=>by rw[hi,hj];exact k4) k4.2;exact⟨⟨x4,n3,a4,e4,b4,true,g⟩,[0,1,2,5],⟨bw,λh0=>(aF.1 h0).2.elim λi hi=>⟨i,hi.1,hi.2,eE (aF.1 h0).1⟩,aF.2,y3,w4,l4,u4,do_⟩,⟨O,O⟩,ut_,⟨.inr ⟨_,O,.box ⟨.old a1b,.old (.val _),.old (.val _),.old (.val _),.old N4,a0f O,.old a3d,J⟩⟩,.inl O,.inl O,.inr ⟨_,O,.same O W5⟩,J⟩⟩
  .have eh:v10=false:=D h2;have bA:=iV eh;subst m10;refine qD (c4 O a8M o3 (X0 hT hm hW [45] (q:=0) (s:=kf ph) a1y) O ?_);rintro⟨v11,m11⟩ ⟨fS,iX,iY,iZ⟩;dsimp only at fS iX iY iZ⊢;refine qN [rbx T m11 a2 0 ps b2 (kf ph),.dead,ot1 ph 0 b2.length,ot2 ph 0 b2.length] P9 ?_;refine qC ?_ ?_<;>intro h3
   .have dH:v11=true:=D h3;have hq:=(V2 (fS.symm.trans dH)).2;have bA:=iX dH;subst m11;have bi:opS (tk T m) (2:Nat)=2:=by
     show opS (tk T m) 2=2;rw[e0Q,W b78,Q hq]
    rw[W (by rw[bi];decide),bi]at hS;refine qD (c4 O d3v i7 (hB g G d (m+1) a2 b2 iZ cg bV G _ 0 (kf ph) a1y) O ?_);rintro⟨x3,n3,a3,e3,b3⟩ ⟨k3,y3,w3,z3,l3,u3⟩;dsimp only at k3 y3 w3 z3 l3 u3⊢;refine qN [rbx T n3 a3 e3 ps b3 4,.dead,.dead,.dead,o5 e3 b3.length] P9 ?_;refine b92 ?_;refine qD (c4 O a4D E7 (N7 w3 ⟨4,0,2,[],[x,x3]⟩ _ ⟨O,O,H⟩) O ?_);rintro⟨x4,a4,e4,b4⟩ ⟨k4,w4,l4,u4⟩;dsimp only at k4 w4 l4 u4⊢;refine qN [rbx T n3 a4 e4 ps b4 5,.dead,.dead,.dead,.dead,o5 e4 b4.length] O ?_;have eE:e3=0->n<n3/\8*(T.length -n3)+3<=g:=λh0=>by have:=z3 h0;omega
    have bw:(if e4=0 then T.length -n3+1 else 0)< (if(0:Int)=0 then T.length -m+1 else 0):=by
     rw[Q O]
     split
     .rename_i h0;have:=z3 (k4.alive h0).1;omega
     .omega
    have aF:=a3D (K:=λi m c=>(z6 T ps g).lp 2 d i m c) hS k3 (λj hj=>by rw[hi,hj];exact k4) k4.2;exact⟨⟨x4,n3,a4,e4,b4,true,g⟩,[0,1,2,5],⟨bw,λh0=>(aF.1 h0).2.elim λi hi=>⟨i,hi.1,hi.2,eE (aF.1 h0).1⟩,aF.2,y3,w4,l4,u4,do_⟩,⟨O,O⟩,ut_,⟨.inr ⟨_,O,.box ⟨.old a1b,.old (.val _),.old (.val _),.old (.val _),.old N4,a0f O,.old a3d,J⟩⟩,.inl O,.inl O,.inr ⟨_,O,.same O W5⟩,J⟩⟩
   .have dH:v11=false:=D h3;have bA:=iY dH;subst m11;refine a0i ?_;exact⟨_,rE1,(by exact⟨⟨x,m,a2,0,b2⟩,e2p,b68 (hS.trans (Q (by show opS (tk T m) 2=0;rw[e0Q,W b78,W (by rw[S9 fS dH];decide)]))) hi hm cg bX bh aE⟩)⟩
 .have he:e≠0:=D h1;refine a0i ?_;exact⟨_,rE1,e1o⟩
theorem d9p{ps:List I}(hc:a0j T ps)(Jf:∀g,g<f0->RTC T ps g):RSC T ps f0:=λd n at_ b hn hb hd hf σ q s ao=>by
 obtain⟨f,rfl⟩:∃f,f0=f+1:=⟨f0-1,G⟩;exact a1V (c:=λa:RX=>(iv a.x)) (N:=λa=>a.n) (A:=λa=>a.at_) (E:=λa=>a.e) (B:=λa=>a.b) (λ_ h=>by simp at h;subst h;exact .val _) (λ_=>.val _) (d5n hc (λg hg=>Jf g G) d n at_ b hn hb hd hf) ao
theorem c7M{ps:List I}(hc:a0j T ps)(hB:∀g,g<=f->RFC T ps g)(d n:Nat)(at_:Int)(b:List Ex)(hn:n<T.length)(hb:b.length<=256)(bV:d<=32)(hf:8*(T.length -n)+6<=f+2+3):b8 CC 299 [.ptr 0 0,iv d] (rst T n at_ 0 ps b) (λr τ=>∃a:RX,F0 2 τ r (.ret (iv a.x)) (a61 T a.n a.at_ a.e ps a.b)/\RXP T n 0 ((z6 T ps (f+2)).bin 3 d n b) a):=by
 have hT:=hc.len;have hW:=hc.w;have ah:=e1J (T:=T) (ps:=ps) (f:=f+1) (d:=d) (n:=n) (lv:=3) (b:=b) H;rw[e1j]at ah;refine qO Tryz.func299 ?_;refine qD (c4 O c4e i7 (hB f G d n at_ b hn hb bV G _ 0 1 ⟨O,O,H⟩) O ?_);rintro⟨x1,n1,a1,e1,b1⟩ ⟨k1,y1,w1,z1,l1,u1⟩;dsimp only at k1 y1 w1 z1 l1 u1⊢;refine qN [rbx T n1 a1 e1 ps b1 2,.dead,o5 e1 b1.length] O ?_;have eE:e1=0->8*(T.length -n1)+3<=(f+1):=λh0=>by have:=z1 h0;omega
 have aF:=b01 (K:=λi m c=>(z6 T ps (f+1)).lp 3 d i m c) ah k1;refine A5 hCC 3 O (α:=RL) (λa=>[(0,.ptr 0 0),(1,iv d),(5,iv a.x)]) (λa=>[rbx T a.m a.at_ a.e ps a.b (kf a.ph),.dead,ot1 a.ph a.e a.b.length,ot2 a.ph a.e a.b.length]) (λa=>(a.e=0->∃i:Nat,(i:Int)=a.x/\(z6 T ps (f+2)).bin 3 d n b=(z6 T ps a.g).lp 3 d i a.m a.b/\n<a.m/\8*(T.length -a.m)+3<=a.g)/\(a.e≠0->(z6 T ps (f+2)).bin 3 d n b=none)/\a.m <T.length/\a.b.length<=256/\-1<=a.x/\a.x<=256/\a.g<=f+1) (λa=>if a.e=0 then T.length -a.m+1 else 0) ⟨⟨x1,n1,a1,e1,b1,false,(f+1)⟩,[0,1,2,7],⟨λh0=>(aF.1 h0).elim λi hi=>⟨i,hi.1,hi.2,z1 h0,eE h0⟩,aF.2,y1,w1,l1,u1,n_6 _⟩,⟨O,O⟩,ut_,uq_⟩ ?_;intro⟨x,m,a2,e,b2,ph,g⟩ ⟨hI,hN,hm,cg,bh,aE,hgf⟩;dsimp only at hI hN hm cg bh aE hgf⊢;refine qk (qC ?_ ?_)<;> intro h1
 .obtain rfl:e=0:=D h1;obtain⟨i,hi,hS,bX,hg⟩:=hI O;clear hI;obtain⟨g,rfl⟩:∃g',g=g'+1:=⟨g-1,G⟩;rw[lpS H]at hS;obtain⟨g,rfl⟩:∃g',g=g'+1:=⟨g-1,G⟩;rw[e1j]at hS;refine qY e1I ?_;refine qY a4n ?_;refine qD (c4 O a8M o3 (X0 hT hm hW [42] (q:=0) (s:=kf ph) a1y) O ?_);rintro⟨v10,m10⟩ ⟨gQ,iU,iV,iW⟩;dsimp only at gQ iU iV iW⊢;refine qN [rbx T m10 a2 0 ps b2 (kf ph),.dead,ot1 ph 0 b2.length,ot2 ph 0 b2.length] P9 ?_;refine qC ?_ ?_<;>intro h2
  .have eh:v10=true:=D h2;have hq:=(V2 (gQ.symm.trans eh)).2;have bA:=iU eh;subst m10;have bi:opS (tk T m) (3:Nat)=3:=by
    show opS (tk T m) 3=3;rw[op3,Q hq]
   rw[W (by rw[bi];decide),bi]at hS;refine qD (c4 O c4e i7 (hB g G d (m+1) a2 b2 iW cg bV G _ 0 (kf ph) a1y) O ?_);rintro⟨x3,n3,a3,e3,b3⟩ ⟨k3,y3,w3,z3,l3,u3⟩;dsimp only at k3 y3 w3 z3 l3 u3⊢;refine qN [rbx T n3 a3 e3 ps b3 4,.dead,.dead,.dead,o5 e3 b3.length] P9 ?_;refine b92 ?_;refine qD (c4 O a4D E7 (N7 w3 ⟨4,0,3,[],[x,x3]⟩ _ ⟨O,O,H⟩) O ?_);rintro⟨x4,a4,e4,b4⟩ ⟨k4,w4,l4,u4⟩;dsimp only at k4 w4 l4 u4⊢;refine qN [rbx T n3 a4 e4 ps b4 5,.dead,.dead,.dead,.dead,o5 e4 b4.length] O ?_;have eE:e3=0->n<n3/\8*(T.length -n3)+3<=(g+1):=λh0=>by have:=z3 h0;omega
   have bw:(if e4=0 then T.length -n3+1 else 0)< (if(0:Int)=0 then T.length -m+1 else 0):=by
    rw[Q O]
    split
    .rename_i h0;have:=z3 (k4.alive h0).1;omega
    .omega
   have aF:=a3D (K:=λi m c=>(z6 T ps (g+1)).lp 3 d i m c) hS k3 (λj hj=>by rw[hi,hj];exact k4) k4.2;exact⟨⟨x4,n3,a4,e4,b4,true,g+1⟩,[0,1,2,5],⟨bw,λh0=>(aF.1 h0).2.elim λi hi=>⟨i,hi.1,hi.2,eE (aF.1 h0).1⟩,aF.2,y3,w4,l4,u4,do_⟩,⟨O,O⟩,ut_,⟨.inr ⟨_,O,.box ⟨.old a1b,.old (.val _),.old (.val _),.old (.val _),.old N4,a0f O,.old a3d,J⟩⟩,.inl O,.inl O,.inr ⟨_,O,.same O W5⟩,J⟩⟩
  .have eh:v10=false:=D h2;have bA:=iV eh;subst m10;refine qD (c4 O a8M o3 (X0 hT hm hW [47] (q:=0) (s:=kf ph) a1y) O ?_);rintro⟨v11,m11⟩ ⟨fS,iX,iY,iZ⟩;dsimp only at fS iX iY iZ⊢;refine qN [rbx T m11 a2 0 ps b2 (kf ph),.dead,ot1 ph 0 b2.length,ot2 ph 0 b2.length] P9 ?_;refine qC ?_ ?_<;>intro h3
   .have dH:v11=true:=D h3;have hq:=(V2 (fS.symm.trans dH)).2;have bA:=iX dH;subst m11;have bi:opS (tk T m) (3:Nat)=4:=by
     show opS (tk T m) 3=4;rw[op3,W b78,Q hq]
    rw[W (by rw[bi];decide),bi]at hS;refine qD (c4 O c4e i7 (hB g G d (m+1) a2 b2 iZ cg bV G _ 0 (kf ph) a1y) O ?_);rintro⟨x3,n3,a3,e3,b3⟩ ⟨k3,y3,w3,z3,l3,u3⟩;dsimp only at k3 y3 w3 z3 l3 u3⊢;refine qN [rbx T n3 a3 e3 ps b3 4,.dead,.dead,.dead,o5 e3 b3.length] P9 ?_;refine b92 ?_;refine qD (c4 O a4D E7 (N7 w3 ⟨4,0,4,[],[x,x3]⟩ _ ⟨O,O,H⟩) O ?_);rintro⟨x4,a4,e4,b4⟩ ⟨k4,w4,l4,u4⟩;dsimp only at k4 w4 l4 u4⊢;refine qN [rbx T n3 a4 e4 ps b4 5,.dead,.dead,.dead,.dead,o5 e4 b4.length] O ?_;have eE:e3=0->n<n3/\8*(T.length -n3)+3<=(g+1):=λh0=>by have:=z3 h0;omega
    have bw:(if e4=0 then T.length -n3+1 else 0)< (if(0:Int)=0 then T.length -m+1 else 0):=by
     rw[Q O]
     split
     .rename_i h0;have:=z3 (k4.alive h0).1;omega
     .omega
    have aF:=a3D (K:=λi m c=>(z6 T ps (g+1)).lp 3 d i m c) hS k3 (λj hj=>by rw[hi,hj];exact k4) k4.2;exact⟨⟨x4,n3,a4,e4,b4,true,g+1⟩,[0,1,2,5],⟨bw,λh0=>(aF.1 h0).2.elim λi hi=>⟨i,hi.1,hi.2,eE (aF.1 h0).1⟩,aF.2,y3,w4,l4,u4,do_⟩,⟨O,O⟩,ut_,⟨.inr ⟨_,O,.box ⟨.old a1b,.old (.val _),.old (.val _),.old (.val _),.old N4,a0f O,.old a3d,J⟩⟩,.inl O,.inl O,.inr ⟨_,O,.same O W5⟩,J⟩⟩
   .have dH:v11=false:=D h3;have bA:=iY dH;subst m11;refine qD (c4 O a8M o3 (X0 hT hm hW [37] (q:=0) (s:=kf ph) a1y) O ?_);rintro⟨v12,m12⟩ ⟨hv12,hs12,hf12,hm12⟩;dsimp only at hv12 hs12 hf12 hm12⊢;refine qN [rbx T m12 a2 0 ps b2 (kf ph),.dead,ot1 ph 0 b2.length,ot2 ph 0 b2.length] P9 ?_;refine qC ?_ ?_<;>intro h4
    .have ja:v12=true:=D h4;have hq:=(V2 (hv12.symm.trans ja)).2;have bA:=hs12 ja;subst m12;have bi:opS (tk T m) (3:Nat)=5:=by
      show opS (tk T m) 3=5;rw[op3,W b78,W (by rw[S9 fS dH];decide),Q hq]
     rw[W (by rw[bi];decide),bi]at hS;refine qD (c4 O c4e i7 (hB g G d (m+1) a2 b2 hm12 cg bV G _ 0 (kf ph) a1y) O ?_);rintro⟨x3,n3,a3,e3,b3⟩ ⟨k3,y3,w3,z3,l3,u3⟩;dsimp only at k3 y3 w3 z3 l3 u3⊢;refine qN [rbx T n3 a3 e3 ps b3 4,.dead,.dead,.dead,o5 e3 b3.length] P9 ?_;refine b92 ?_;refine qD (c4 O a4D E7 (N7 w3 ⟨4,0,5,[],[x,x3]⟩ _ ⟨O,O,H⟩) O ?_);rintro⟨x4,a4,e4,b4⟩ ⟨k4,w4,l4,u4⟩;dsimp only at k4 w4 l4 u4⊢;refine qN [rbx T n3 a4 e4 ps b4 5,.dead,.dead,.dead,.dead,o5 e4 b4.length] O ?_;have eE:e3=0->n<n3/\8*(T.length -n3)+3<=(g+1):=λh0=>by have:=z3 h0;omega
     have bw:(if e4=0 then T.length -n3+1 else 0)< (if(0:Int)=0 then T.length -m+1 else 0):=by
      rw[Q O]
      split
      .rename_i h0;have:=z3 (k4.alive h0).1;omega
      .omega
     have aF:=a3D (K:=λi m c=>(z6 T ps (g+1)).lp 3 d i m c) hS k3 (λj hj=>by rw[hi,hj];exact k4) k4.2;exact⟨⟨x4,n3,a4,e4,b4,true,g+1⟩,[0,1,2,5],⟨bw,λh0=>(aF.1 h0).2.elim λi hi=>⟨i,hi.1,hi.2,eE (aF.1 h0).1⟩,aF.2,y3,w4,l4,u4,do_⟩,⟨O,O⟩,ut_,⟨.inr ⟨_,O,.box ⟨.old a1b,.old (.val _),.old (.val _),.old (.val _),.old N4,a0f O,.old a3d,J⟩⟩,.inl O,.inl O,.inr ⟨_,O,.same O W5⟩,J⟩⟩
    .have ja:v12=false:=D h4;have bA:=hf12 ja;subst m12;refine a0i ?_;exact⟨_,rE1,(by exact⟨⟨x,m,a2,0,b2⟩,e2p,b68 (hS.trans (Q (by show opS (tk T m) 3=0;rw[op3,W b78,W (by rw[S9 fS dH];decide),W (by rw[S9 hv12 ja];decide)]))) hi hm cg bX bh aE⟩)⟩
 .have he:e≠0:=D h1;refine a0i ?_;exact⟨_,rE1,e1o⟩
theorem d4W{ps:List I}(hc:a0j T ps)(Jf:∀g,g<f0->RFC T ps g):RTC T ps f0:=λd n at_ b hn hb hd hf σ q s ao=>by
 obtain⟨f,rfl⟩:∃f,f0=f+2:=⟨f0-2,G⟩;exact a1V (c:=λa:RX=>(iv a.x)) (N:=λa=>a.n) (A:=λa=>a.at_) (E:=λa=>a.e) (B:=λa=>a.b) (λ_ h=>by simp at h;subst h;exact .val _) (λ_=>.val _) (c7M hc (λg hg=>Jf g G) d n at_ b hn hb hd hf) ao
theorem R0(h:isT t k s=true):t.k=k/\t.t=s:=by simpa[isT]using h
theorem b1R{ps:List I}{d n:Nat}{b:List Ex}:(z6 T ps (f+1)).fac d n b=(G4 T ps (z6 T ps f)).fac d n b:=O
theorem d6v{ps:List I}{d n:Nat}{b:List Ex}(h:(tk T n).k=2):(z6 T ps (f+1)).fac d n b=L8 b ⟨1,(tk T n).n,0,[],[]⟩ (n+1):=by
 rw[b1R];simp only[G4];rw[Q h]
theorem d4Y{ps:List I}{d n:Nat}{b:List Ex}(h:isT (tk T n) 4 [45]=true):(z6 T ps (f+1)).fac d n b=(F9 T (n+1) 2).bind λy=>L8 b ⟨1,-y.1.n,0,[],[]⟩ y.2:=by
 rw[b1R];simp only[G4];rw[W (by rw[(R0 h).1];decide),Q h]
theorem d6e{ps:List I}{d n:Nat}{b:List Ex}(h:isT (tk T n) 4 [40]=true):(z6 T ps (f+1)).fac d n b=((z6 T ps f).ex (d+1) (n+1) b).bind λx=>(pIs T x.2.1 4 [41]).bind λm=>some (x.1,m,x.2.2):=by
 rw[b1R];simp only[G4];rw[W (by rw[(R0 h).1];decide),W (by simp[isT,(R0 h).2]),Q h]
theorem a5G{ps:List I}{d n:Nat}{b:List Ex}(h:isT (tk T n) 1 u=true)(hu:u=[114,101,97,100]\/u=[115,105,122,101]\/u=[104,97,115]\/u=[101,110,118]\/u=[102,108,105,112]):(z6 T ps (f+1)).fac d n b=X7 T (z6 T ps f) u d (n+1) b:=by
 obtain⟨hk,ht⟩:=R0 h;rw[b1R];simp only[G4];rw[W (by rw[hk];decide),W (by simp[isT,hk]),W (by simp[isT,hk]),W (by simp[hk]),ht,Q hu]
theorem a5x(h:isT t k s=false)(hk:t.k=k):¬t.t=s:=by
 intro e;simp[isT,hk,e]at h
theorem d2M{ps:List I}{d n:Nat}{b:List Ex}(h1:¬(tk T n).k=2)(h2:isT (tk T n) 4 [45]=false)(h3:isT (tk T n) 4 [40]=false)(h4:isT (tk T n) 1 [114,101,97,100]=false)(h5:isT (tk T n) 1 [115,105,122,101]=false)(h6:isT (tk T n) 1 [104,97,115]=false)(h7:isT (tk T n) 1 [101,110,118]=false)(h8:isT (tk T n) 1 [102,108,105,112]=false):
 (z6 T ps (f+1)).fac d n b=(K3 T n).bind λs=>if isT (tk T s.2) 4 [40]=true then(a2K T (z6 T ps f) d s.2 b).bind λa=>L8 a.2.2 ⟨3,0,0,s.1.t,a.1⟩ a.2.1 else if ixS ps s.1.t 0<0 then none else L8 b ⟨2,ixS ps s.1.t 0,0,[],[]⟩ s.2:=by
 rw[b1R];simp only[G4];rw[W h1,W (by rw[h2];decide),W (by rw[h3];decide)];by_cases hk:(tk T n).k=1
 .rw [W (λh=>h hk),W (by
   rintro(h|h|h|h|h)
   .exact a5x h4 hk h
   .exact a5x h5 hk h
   .exact a5x h6 hk h
   .exact a5x h7 hk h
   .exact a5x h8 hk h)]
  by_cases hr:S6 (tk T n).t=true
  .rw [Q hr];simp[K3,F9,hk,hr]
  .rw [W hr];simp[K3,F9,hk,hr]
 .rw [Q hk];simp[K3,F9,hk]
theorem d4s{d n:Nat}{b:List Ex}:X7 T F [114,101,97,100] d n b=(pIs T n 4 [40]).bind λn1=>(a1z T true n1).bind λs=>(pIs T s.2 4 [44]).bind λn2=>(F.ex (d+1) n2 b).bind λx=>(pIs T x.2.1 4 [41]).bind λm=>L8 x.2.2 ⟨6,0,0,s.1.t,[(x.1:Int)]⟩ m:=by
 simp only[a33];rfl
theorem d4Q{d n:Nat}{b:List Ex}:X7 T F [115,105,122,101] d n b=(pIs T n 4 [40]).bind λn1=>(a1z T true n1).bind λs=>(pIs T s.2 4 [41]).bind λm=>L8 b ⟨7,0,0,s.1.t,[]⟩ m:=by
 simp only[a33];rfl
theorem e1b{d n:Nat}{b:List Ex}:X7 T F [104,97,115] d n b=(pIs T n 4 [40]).bind λn1=>(a1z T true n1).bind λs=>(pIs T s.2 4 [41]).bind λm=>L8 b ⟨8,0,0,s.1.t,[]⟩ m:=by
 simp only[a33];rfl
theorem d9v{d n:Nat}{b:List Ex}:X7 T F [101,110,118] d n b=(pIs T n 4 [40]).bind λn1=>(a1z T false n1).bind λs=>(pIs T s.2 4 [41]).bind λm=>L8 b ⟨9,0,0,s.1.t,[]⟩ m:=by
 have e:X7 T F [101,110,118] d n b=(pIs T n 4 [40]).bind λn1=>(F9 T n1 3).bind λs=>if B9 s.1.t=true then(pIs T s.2 4 [41]).bind λm=>L8 b ⟨9,0,0,s.1.t,[]⟩ m else none:=O
 rw[e];refine n_7 _ (funext λn1=>?_);unfold a1z;cases F9 T n1 3 with
 |none=>rfl
 |some s=>
  simp only[n_9];by_cases h:B9 s.1.t=true
  .simp [h]
  .simp [h]
theorem c3l{d n:Nat}{b:List Ex}:X7 T F [102,108,105,112] d n b=(pIs T n 4 [40]).bind λn1=>(F9 T n1 2).bind λs=>if 64<=s.1.n then none else(pIs T s.2 4 [41]).bind λm=>L8 b ⟨10,s.1.n,0,[],[]⟩ m:=O
theorem L1{n:Nat}{e:Int}(q:Ok e (pIs T n k u) e' n')(h:e'=0):e=0/\n'=n+1:=⟨(q.alive h).1,Q5 (q.alive h).2⟩
theorem b06{n:Nat}{x:Tok×Nat}(hk:k≠5)(h:F9 T n k=some x):x=(tk T n,n+1)/\(tk T n).k=k:=by
 unfold F9 at h;by_cases h1:(tk T n).k=k
 .rw [Q h1,W hk]at h;injection h with h
  exact⟨h.symm,h1⟩
 .rw [W h1]at h;cases h
theorem d2C{n:Nat}{e:Int}(q:Ok e ((F9 T n 2).map λx=>(x.1.n,x.2)) e' (x,n'))(h:e'=0):e=0/\n'=n+1:=by
 obtain⟨h1,h2⟩:=q.alive h;obtain⟨p,hp,hg⟩:=Q3.1 h2;obtain⟨rfl,_⟩:=b06 H hp;injection hg with _ hg
 exact⟨h1,hg.symm⟩
theorem e0T{n:Nat}(q:Ok 0 ((F9 T n 2).map λx=>(x.1.n,x.2)) e' (x,n'))(hk:(tk T n).k=2):e'=0/\x=(tk T n).n/\n'=n+1:=by
 have hp:F9 T n 2=some (tk T n,n+1):=by
  unfold F9;rw[Q hk,W H]
 rw[hp]at q
 rcases q.zero with⟨h1,h2⟩|⟨_,h2⟩
 .injection h2 with h2
  injection h2 with h3 h4
  exact⟨h1,h3.symm,h4.symm⟩
 .cases h2
theorem a8x{n:Nat}{e:Int}{p:Bool}{x:I}(q:Ok e ((a1z T p n).map λx=>(x.1.t,x.2)) e' (x,n'))(h:e'=0):e=0/\n'=n+1:=by
 obtain⟨h1,h2⟩:=q.alive h;obtain⟨t,hp,hg⟩:=Q3.1 h2;obtain⟨y,hy,hz⟩:=d3X.1 hp;obtain⟨rfl,_⟩:=b06 H hy;by_cases hc:(if p=true then F8 (tk T n).t else B9 (tk T n).t)=true
 .rw [Q hc]at hz;injection hz with hz
  subst hz;injection hg with _ hg
  exact⟨h1,hg.symm⟩
 .rw [W hc]at hz;cases hz
theorem b0v{n:Nat}{e:Int}{x:I}(q:Ok e ((K3 T n).map λx=>(x.1.t,x.2)) e' (x,n'))(h:e'=0):e=0/\n'=n+1/\x=(tk T n).t/\K3 T n=some (tk T n,n+1):=by
 obtain⟨h1,h2⟩:=q.alive h;obtain⟨t,hp,hg⟩:=Q3.1 h2;obtain⟨y,hy,hz⟩:=d3X.1 hp;obtain⟨rfl,_⟩:=b06 H hy;by_cases hc:S6 (tk T n).t=true
 .rw [Q hc]at hz;cases hz
 .rw [W hc]at hz;injection hz with hz
  subst hz;injection hg with dG hg
  exact⟨h1,hg.symm,dG.symm,hp⟩
def a4Y(T:List Tok)(ps:List I)(d g m:Nat)(b:List Ex)(l:List Int):Option (List Int×Nat×List Ex):=
 if l=[]then(if isT (tk T m) 4 [41]=true then some ([],m+1,b)else(z6 T ps g).ag d m b [])
 else if isT (tk T m) 4 [44]=true then(z6 T ps g).ag d (m+1) b l else(pIs T m 4 [41]).bind λm'=>some (l,m',b)
theorem c7j{ps:List I}{d n:Nat}{b:List Ex}(h:isT (tk T n) 4 [40]=true):a2K T (z6 T ps f) d n b=a4Y T ps d f (n+1) b []:=by
 unfold a2K pIs a4Y;rw[Q h,n_9,Q O]
theorem c6c{ps:List I}{d g m:Nat}{b:List Ex}{l:List Int}(h:isT (tk T m) 4 [41]=true):a4Y T ps d g m b l=some (l,m+1,b):=by
 unfold a4Y;by_cases hl:l=[]
 .rw [Q hl,Q h,hl]
 .rw [W hl,W (by simp[isT,(R0 h).2]),pIs,Q h];rfl
theorem c1A{ps:List I}{d g m:Nat}{b:List Ex}{l:List Int}(h:isT (tk T m) 4 [41]=false)(hl:l≠[]):a4Y T ps d g m b l=(pIs T m 4 [44]).bind λm'=>(z6 T ps g).ag d m' b l:=by
 unfold a4Y;rw[W hl];unfold pIs;by_cases h4:isT (tk T m) 4 [44]=true
 .rw [Q h4,Q h4];rfl
 .rw [W h4,W h4,W (by rw[h];decide)];rfl
theorem c0g{ps:List I}{d g m:Nat}{b:List Ex}(h:isT (tk T m) 4 [41]=false):a4Y T ps d g m b []=(some m).bind λm'=>(z6 T ps g).ag d m' b []:=by
 unfold a4Y;rw[Q O,W (by rw[h];decide)];rfl
theorem agS{ps:List I}{g d n:Nat}{b:List Ex}{l:List Int}:(z6 T ps (g+1)).ag d n b l=((z6 T ps g).ex (d+1) n b).bind λx=>a4Y T ps d g x.2.1 x.2.2 (l++[(x.1:Int)]):=by
 show((z6 T ps g).ex (d+1) n b).bind _=_;refine n_7 _ (funext λx=>?_);unfold a4Y;exact(W U).symm
theorem b8C{o:Option Nat}{X:Nat->Option PX}{R:PX->Option (List Int×Nat×List Ex)}{P:List Int×Nat×List Ex->Option PX}{x3:Int}{b3:List Ex}(hs:S=(o.bind λm=>(X m).bind R).bind P)(q:Ok 0 o e2 n2)(k:Ok e2 ((X n2).map cx) e3 (x3,n3,b3)):
 (e3=0->e2=0/\∃j:Nat,(j:Int)=x3/\S=(R (j,n3,b3)).bind P)/\(e3≠0->S=none):=by
 rcases q.zero with⟨h2,ho⟩|⟨h2,ho⟩
 .subst h2
  rcases k.zero with⟨h3,hX⟩|⟨h3,hX⟩
  .obtain ⟨j,hj,hX⟩:=b5D hX;exact⟨λ_=>⟨O,j,hj,by rw[hs,ho,n_9,hX];rfl⟩,λh=>absurd h3 h⟩
  .exact ⟨λh=>absurd h h3,λ_=>by rw[hs,ho,n_9,b5k hX];rfl⟩
 .exact ⟨λh=>absurd h (k.2 h2),λ_=>by rw[hs,ho];rfl⟩
structure RG where
 l:List Int
 m:Nat
 at_:Int
 e:Int
 b:List Ex
 ph:Bool
 g:Nat
variable{g:Nat}
def kg5(ph:Bool):Nat:=if ph=true then 4 else 1
theorem c1i{ps:List I}(hc:a0j T ps)(hE:∀g,g<=f->REC T ps g)(d n:Nat)(at_:Int)(b:List Ex)(hn:n<T.length)(hb:b.length<=256)(bV:d<=32)(hf:8*(T.length -n)+1<=f+1):b8 CC 326 [.ptr 0 0,iv d] (rst T n at_ 0 ps b) (λr τ=>∃a:RX,F0 2 τ r (.ret (iv a.x)) (a61 T a.n a.at_ a.e ps a.b)/\RXP T n 0 ((z6 T ps (f+1)).fac d n b) a):=by
 have hT:=hc.len;have hW:=hc.w;refine qO Tryz.func326 ?_;refine qY b9z ?_;refine z_3 ?_;refine cC ?_ ?_<;>intro h1
 .simp at h1
 .refine qk (qC ?_ ?_)<;> intro h2
  .have hk:(tk T n).k=2:=D h2;refine qD (c4 O d1D ⟨J,J⟩ (a8N hT hn hW hc.nn ⟨O,O,H⟩) O ?_);rintro⟨x1,n1,a1,e1⟩ ⟨q1,y1,l1,u1⟩;dsimp only at q1 y1 l1 u1⊢;refine qN [rbx T n1 a1 e1 ps b 1,o5 e1 b.length,.box (tk T n).cells] O ?_;obtain⟨rfl,rfl,rfl⟩:=e0T q1 hk;refine qY b0P ?_;refine qD (c4 O a4D E7 (N7 hb ⟨1,(tk T n).n,0,[],[]⟩ _ ⟨O,O,H⟩) O ?_);rintro⟨x6,a6,e6,b6⟩ ⟨k6,w6,l6,u6⟩;dsimp only at k6 w6 l6 u6⊢;refine qN [rbx T (n+1) a6 e6 ps b6 3,.dead,.box (tk T n).cells,o5 e6 b6.length] O ?_;refine c6 ?_;exact⟨_,rE1,(by exact⟨⟨x6,n+1,a6,e6,b6⟩,U9 (k:=3) O O H (.val _),⟨by rw[d6v hk];exact a2m k6,do_,w6,λh0=>by dsimp only;omega,l6,u6⟩⟩)⟩
  .have hk:¬(tk T n).k=2:=D h2;refine qD (c4 O a8M o3 (X0 hT hn hW [45] ⟨O,O,H⟩) O ?_);rintro⟨v1,m1⟩ ⟨dX,bu,di,dJ⟩;dsimp only at dX bu di dJ⊢;refine qN [rbx T m1 at_ 0 ps b 1,o5 0 b.length,.box (tk T n).cells] O (qC ?_ ?_)<;> intro h3
   .have ft:v1=true:=D h3;have hq:=(V2 (dX.symm.trans ft)).2;have bA:=bu ft;subst m1;refine qD (c4 O d1D ⟨J,J⟩ (a8N hT dJ hW hc.nn ⟨O,O,H⟩) O ?_);rintro⟨x2,n2,a2,e2⟩ ⟨q2,y2,l2,u2⟩;dsimp only at q2 y2 l2 u2⊢;refine qN [rbx T n2 a2 e2 ps b 1,o5 e2 b.length,.box (tk T n).cells] O ?_;have ew: -x2=IntKind.i64.wrap (0-x2):=by rw[b0O G G];omega
    refine qY (d8Z O J O) ?_;refine qY b0P ?_;refine qD (c4 O a4D E7 (N7 hb ⟨1,IntKind.i64.wrap (0-x2),0,[],[]⟩ _ ⟨O,O,H⟩) O ?_);rintro⟨x6,a6,e6,b6⟩ ⟨k6,w6,l6,u6⟩;dsimp only at k6 w6 l6 u6⊢;refine qN [rbx T n2 a6 e6 ps b6 3,.dead,.box (tk T n).cells,o5 e6 b6.length] O ?_;refine c6 ?_;exact⟨_,rE1,(by exact⟨⟨x6,n2,a6,e6,b6⟩,U9 (k:=3) O O H (.val _),⟨by rw[d4Y hq];exact q2.bindI (λt ht=>a2m (by rw[ht,ew];exact k6)) k6.2,do_,w6,λh0=>by have:=(d2C q2 (k6.alive h0).1).2;dsimp only;omega,l6,u6⟩⟩)⟩
   .have ft:v1=false:=D h3;have dG:=S9 dX ft;have bA:=di ft;subst m1;refine qD (c4 O a8M o3 (X0 hT hn hW [40] ⟨O,O,H⟩) O ?_);rintro⟨v2,m2⟩ ⟨db,dh,gK,cI⟩;dsimp only at db dh gK cI⊢;refine qN [rbx T m2 at_ 0 ps b 1,o5 0 b.length,.box (tk T n).cells] O (qC ?_ ?_)<;> intro h4
    .have cK:v2=true:=D h4;have hq:=(V2 (db.symm.trans cK)).2;have bA:=dh cK;subst m2;refine qY o7 ?_;refine qD (c4 O b9f i7 (hE f (n_6 _) (d+1) (n+1) at_ 0 b cI hb G (λ_=>by omega) _ 0 1 ⟨O,O,H⟩) O ?_);rintro⟨x3,n3,a3,e3,b3⟩ ⟨k3,y3,w3,z3,l3,u3⟩;dsimp only at k3 y3 w3 z3 l3 u3⊢;refine qN [rbx T n3 a3 e3 ps b3 3,.dead,.box (tk T n).cells,o5 e3 b3.length] O (qD (c4 O a4y o3 (N8 hT y3 hW [41] ⟨O,O,H⟩) O ?_));rintro⟨n4,a4,e4⟩ ⟨q4,y4⟩;dsimp only at q4 y4⊢;refine qN [rbx T n4 a4 e4 ps b3 3,.dead,.box (tk T n).cells,o5 e4 b3.length] O ?_;refine c6 ?_;exact⟨_,rE1,(by exact⟨⟨x3,n4,a4,e4,b3⟩,U9 (k:=3) O O H (.val _),⟨by rw[d6e hq];exact k3.bindX (λi hi=>q4.bindP (by rw[<- hi];exact .some)) q4.2,y4,w3,λh0=>by have g:=L1 q4 h0;have:=z3 g.1;dsimp only;omega,l3,u3⟩⟩)⟩
    .have cK:v2=false:=D h4;have dg:=S9 db cK;have bA:=gK cK;subst m2;refine qD (c4 O b0p o3 (Z0 hT hn hW [114,101,97,100] ⟨O,O,H⟩) O ?_);rintro⟨v3,m3⟩ ⟨hv3,fV,hf3,gr⟩;dsimp only at hv3 fV hf3 gr⊢;refine qN [rbx T m3 at_ 0 ps b 1,o5 0 b.length,.box (tk T n).cells] O (qC ?_ ?_)<;> intro h5
     .have fX:v3=true:=D h5;have hq:=(V2 (hv3.symm.trans fX)).2;have bA:=fV fX;subst m3;refine qD (c4 O a4y o3 (N8 hT gr hW [40] ⟨O,O,H⟩) O ?_);rintro⟨n1,a1,e1⟩ ⟨q1,y1⟩;dsimp only at q1 y1⊢;refine qN [rbx T n1 a1 e1 ps b 1,o5 e1 b.length,.box (tk T n).cells] O (qD (c4 O c2K o3 (b0x hT y1 hW true hc.l ⟨O,O,H⟩) O ?_));rintro⟨s2,n2,a2,e2⟩ ⟨q2,y2⟩;dsimp only at q2 y2⊢;refine qN [rbx T n2 a2 e2 ps b 1,o5 e2 b.length,.box (tk T n).cells] O (qD (c4 O a4y o3 (N8 hT y2 hW [44] ⟨O,O,H⟩) O ?_));rintro⟨n3,a3,e3⟩ ⟨q3,y3⟩;dsimp only at q3 y3⊢;refine qN [rbx T n3 a3 e3 ps b 1,o5 e3 b.length,.box (tk T n).cells] O (qY o7 ?_);refine qD (c4 O b9f i7 (hE f (n_6 _) (d+1) n3 a3 e3 b y3 hb G (λh0=>by have g:=L1 q3 h0;have g':=a8x q2 g.1;have:=L1 q1 g'.1;omega) _ 0 1 ⟨O,O,H⟩) O ?_);rintro⟨x4,n4,a4,e4,b4⟩ ⟨k4,y4,w4,z4,l4,u4⟩;dsimp only at k4 y4 w4 z4 l4 u4⊢;refine qN [rbx T n4 a4 e4 ps b4 3,.dead,.box (tk T n).cells,o5 e4 b4.length] O (qD (c4 O a4y o3 (N8 hT y4 hW [41] ⟨O,O,H⟩) O ?_));rintro⟨n5,a5,e5⟩ ⟨q5,y5⟩;dsimp only at q5 y5⊢;refine qN [rbx T n5 a5 e5 ps b4 3,.dead,.box (tk T n).cells,o5 e5 b4.length] O (qY (A9 ([x4].map icv) O ⟨J,J⟩ t_4 t_1 t_7 O O O O O O O O O) ?_);refine qY c6i ?_;refine qD (c4 O a4D E7 (N7 w4 ⟨6,0,0,s2,[x4]⟩ _ ⟨O,O,H⟩) O ?_);rintro⟨x6,a6,e6,b6⟩ ⟨k6,w6,l6,u6⟩;dsimp only at k6 w6 l6 u6⊢;refine qN [rbx T n5 a6 e6 ps b6 4,.dead,.box (tk T n).cells,.dead,o5 e6 b6.length] O ?_;refine c6 ?_;exact⟨_,rE1,(by exact⟨⟨x6,n5,a6,e6,b6⟩,U9 (k:=4) O O H (.val _),⟨by rw[a5G hq H,d4s];exact q1.bindP (q2.bindT (λt ht=>q3.bindP (k4.bindX (λi hi=>q5.bindP (a2m (by rw[ht,hi];exact k6))) λh=>k6.2 (q5.2 h))) λh=>k6.2 (q5.2 (k4.2 (q3.2 h)))),do_,w6,λh0=>by have g5:=L1 q5 (k6.alive h0).1;have:=z4 g5.1;have g3:=L1 q3 (k4.alive g5.1).1;have g2:=a8x q2 g3.1;have:=L1 q1 g2.1;dsimp only;omega,l6,u6⟩⟩)⟩
     .have fX:v3=false:=D h5;have hg3:=S9 hv3 fX;have bA:=hf3 fX;subst m3;refine qD (c4 O b0p o3 (Z0 hT hn hW [115,105,122,101] ⟨O,O,H⟩) O ?_);rintro⟨v4,m4⟩ ⟨hv4,hs4,hf4,hm4⟩;dsimp only at hv4 hs4 hf4 hm4⊢;refine qN [rbx T m4 at_ 0 ps b 1,o5 0 b.length,.box (tk T n).cells] O (qC ?_ ?_)<;> intro h6
      .have ib:v4=true:=D h6;have hq:=(V2 (hv4.symm.trans ib)).2;have bA:=hs4 ib;subst m4;have hw:=(R0 hq).2;refine qC ?_ ?_<;>intro h7
       .refine qY Q0 ?_;refine qC ?_ ?_<;>intro h8
        .simp [hw]at h8
        .refine qY Q0 ?_;refine qC ?_ ?_<;>intro h9
         .simp [hw]at h9
         .refine qD (c4 O a4y o3 (N8 hT hm4 hW [40] ⟨O,O,H⟩) O ?_);rintro⟨n1,a1,e1⟩ ⟨q1,y1⟩;dsimp only at q1 y1⊢;refine d9d ?_;rintro⟨s2,n2,a2,e2⟩ ⟨q2,y2⟩;dsimp only at q2 y2⊢;refine e0F ?_;rintro⟨n3,a3,e3⟩ ⟨q3,y3⟩;dsimp only at q3 y3⊢;refine c9i ?_;refine qD (c4 O a4D E7 (N7 hb ⟨7,0,0,s2,[]⟩ _ ⟨O,O,H⟩) O ?_);rintro⟨x6,a6,e6,b6⟩ ⟨k6,w6,l6,u6⟩;dsimp only at k6 w6 l6 u6⊢;refine d4y ?_;exact⟨_,rE1,(by exact⟨⟨x6,n3,a6,e6,b6⟩,U9 (k:=3) O O H (.val _),⟨by rw[a5G hq H,d4Q];exact q1.bindP (q2.bindT (λt ht=>q3.bindP (a2m (by rw[ht];exact k6))) λh=>k6.2 (q3.2 h)),do_,w6,λh0=>by have g3:=L1 q3 (k6.alive h0).1;have g2:=a8x q2 g3.1;have:=L1 q1 g2.1;dsimp only;omega,l6,u6⟩⟩)⟩
       .rw [ib]at h7;cases h7
      .have ib:v4=false:=D h6;have hg4:=S9 hv4 ib;have bA:=hf4 ib;subst m4;refine qD (c4 O b0p o3 (Z0 hT hn hW [104,97,115] ⟨O,O,H⟩) O ?_);rintro⟨v5,m5⟩ ⟨hv5,hs5,hf5,hm5⟩;dsimp only at hv5 hs5 hf5 hm5⊢;refine qN [rbx T m5 at_ 0 ps b 1,o5 0 b.length,.box (tk T n).cells] O (qC ?_ ?_)<;> intro h19
       .have hi5:v5=true:=D h19;have hq:=(V2 (hv5.symm.trans hi5)).2;have bA:=hs5 hi5;subst m5;have hw:=(R0 hq).2;refine qC ?_ ?_<;>intro h20
        .refine qY Q0 ?_;refine qC ?_ ?_<;>intro h21
         .refine qD (c4 O a4y o3 (N8 hT hm5 hW [40] ⟨O,O,H⟩) O ?_);rintro⟨n1,a1,e1⟩ ⟨q1,y1⟩;dsimp only at q1 y1⊢;refine d9d ?_;rintro⟨s2,n2,a2,e2⟩ ⟨q2,y2⟩;dsimp only at q2 y2⊢;refine e0F ?_;rintro⟨n3,a3,e3⟩ ⟨q3,y3⟩;dsimp only at q3 y3⊢;refine c9i ?_;refine qD (c4 O a4D E7 (N7 hb ⟨8,0,0,s2,[]⟩ _ ⟨O,O,H⟩) O ?_);rintro⟨x6,a6,e6,b6⟩ ⟨k6,w6,l6,u6⟩;dsimp only at k6 w6 l6 u6⊢;refine d4y ?_;exact⟨_,rE1,(by exact⟨⟨x6,n3,a6,e6,b6⟩,U9 (k:=3) O O H (.val _),⟨by rw[a5G hq H,e1b];exact q1.bindP (q2.bindT (λt ht=>q3.bindP (a2m (by rw[ht];exact k6))) λh=>k6.2 (q3.2 h)),do_,w6,λh0=>by have g3:=L1 q3 (k6.alive h0).1;have g2:=a8x q2 g3.1;have:=L1 q1 g2.1;dsimp only;omega,l6,u6⟩⟩)⟩
         .simp [hw]at h21
        .rw [hi5]at h20;cases h20
       .have hi5:v5=false:=D h19;have hg5:=S9 hv5 hi5;have bA:=hf5 hi5;subst m5;refine qD (c4 O b0p o3 (Z0 hT hn hW [101,110,118] ⟨O,O,H⟩) O ?_);rintro⟨v6,m6⟩ ⟨hv6,hs6,hf6,hm6⟩;dsimp only at hv6 hs6 hf6 hm6⊢;refine qN [rbx T m6 at_ 0 ps b 1,o5 0 b.length,.box (tk T n).cells] O (qC ?_ ?_)<;> intro h32
        .have hi6:v6=true:=D h32;have hq:=(V2 (hv6.symm.trans hi6)).2;have bA:=hs6 hi6;subst m6;have hw:=(R0 hq).2;refine qY Q0 ?_;refine qC ?_ ?_<;>intro h33
         .simp [hw]at h33
         .refine qY Q0 ?_;refine qC ?_ ?_<;>intro h34
          .refine qD (c4 O a4y o3 (N8 hT hm6 hW [40] ⟨O,O,H⟩) O ?_);rintro⟨n1,a1,e1⟩ ⟨q1,y1⟩;dsimp only at q1 y1⊢;refine qN [rbx T n1 a1 e1 ps b 1,o5 e1 b.length,.box (tk T n).cells] O (qD (c4 O c2K i7 (b0x hT y1 hW false hc.l ⟨O,O,H⟩) O ?_));rintro⟨s2,n2,a2,e2⟩ ⟨q2,y2⟩;dsimp only at q2 y2⊢;refine e0F ?_;rintro⟨n3,a3,e3⟩ ⟨q3,y3⟩;dsimp only at q3 y3⊢;refine c9i ?_;refine qD (c4 O a4D E7 (N7 hb ⟨9,0,0,s2,[]⟩ _ ⟨O,O,H⟩) O ?_);rintro⟨x6,a6,e6,b6⟩ ⟨k6,w6,l6,u6⟩;dsimp only at k6 w6 l6 u6⊢;refine d4y ?_;exact⟨_,rE1,(by exact⟨⟨x6,n3,a6,e6,b6⟩,U9 (k:=3) O O H (.val _),⟨by rw[a5G hq H,d9v];exact q1.bindP (q2.bindT (λt ht=>q3.bindP (a2m (by rw[ht];exact k6))) λh=>k6.2 (q3.2 h)),do_,w6,λh0=>by have g3:=L1 q3 (k6.alive h0).1;have g2:=a8x q2 g3.1;have:=L1 q1 g2.1;dsimp only;omega,l6,u6⟩⟩)⟩
          .simp [hw]at h34
        .have hi6:v6=false:=D h32;have hg6:=S9 hv6 hi6;have bA:=hf6 hi6;subst m6;refine qD (c4 O b0p o3 (Z0 hT hn hW [102,108,105,112] ⟨O,O,H⟩) O ?_);rintro⟨v7,m7⟩ ⟨hv7,hs7,hf7,hm7⟩;dsimp only at hv7 hs7 hf7 hm7⊢;refine qN [rbx T m7 at_ 0 ps b 1,o5 0 b.length,.box (tk T n).cells] O (qC ?_ ?_)<;> intro h35
         .have hi7:v7=true:=D h35;have hq:=(V2 (hv7.symm.trans hi7)).2;have bA:=hs7 hi7;subst m7;refine qD (c4 O a4y o3 (N8 hT hm7 hW [40] ⟨O,O,H⟩) O ?_);rintro⟨n1,a1,e1⟩ ⟨q1,y1⟩;dsimp only at q1 y1⊢;refine qN [rbx T n1 a1 e1 ps b 1,o5 e1 b.length,.box (tk T n).cells] O ?_;refine d7c ?_;refine qD (c4 O d1D ⟨J,J⟩ (a8N hT y1 hW hc.nn ⟨O,O,H⟩) O ?_);rintro⟨x2,n2,a2,e2⟩ ⟨q2,y2,l2,u2⟩;dsimp only at q2 y2 l2 u2⊢;refine qN [rbx T n2 a2 e2 ps b 1,o5 e2 b.length,.box (tk T n).cells] O (qC ?_ ?_)<;> intro h36
          .have aH:64<=x2:=D h36;refine qD (c4 O a92 a3f (Y7 _ _ H ⟨O,O,H⟩) O ?_);rintro⟨x0,y0⟩ bE;dsimp only at bE⊢;refine qN [rbx T n2 x0 y0 ps b 1,o5 y0 b.length,.box (tk T n).cells] O (qD (c4 O a4y o3 (N8 hT y2 hW [41] ⟨O,O,H⟩) O ?_));rintro⟨n3,a3,e3⟩ ⟨q3,y3⟩;dsimp only at q3 y3⊢;refine d7l ?_;rintro⟨x6,a6,e6,b6⟩ ⟨k6,w6,l6,u6⟩;dsimp only at k6 w6 l6 u6⊢;refine qN [rbx T n3 a6 e6 ps b6 3,.dead,.box (tk T n).cells,o5 e6 b6.length] O ?_;have he6:=k6.2 (q3.2 bE);refine c6 ?_;exact⟨_,rE1,(by exact⟨⟨x6,n3,a6,e6,b6⟩,U9 (k:=3) O O H (.val _),⟨by rw[a5G hq H,c3l];exact q1.bindP (q2.bindI (λt ht=>by dsimp only;rw[Q (by rw[ht];exact aH)];exact .none he6) λ_=>he6),do_,w6,λh0=>absurd h0 he6,l6,u6⟩⟩)⟩
          .have aH:¬64<=x2:=D h36;refine qD (c4 O a4y o3 (N8 hT y2 hW [41] ⟨O,O,H⟩) O ?_);rintro⟨n3,a3,e3⟩ ⟨q3,y3⟩;dsimp only at q3 y3⊢;refine d7l ?_;rintro⟨x6,a6,e6,b6⟩ ⟨k6,w6,l6,u6⟩;dsimp only at k6 w6 l6 u6⊢;refine d4y ?_;exact⟨_,rE1,(by exact⟨⟨x6,n3,a6,e6,b6⟩,U9 (k:=3) O O H (.val _),⟨by rw[a5G hq H,c3l];exact q1.bindP (q2.bindI (λt ht=>by dsimp only;rw[W (by rw[ht];exact aH)];exact q3.bindP (a2m (by rw[ht];exact k6))) λh=>k6.2 (q3.2 h)),do_,w6,λh0=>by have g3:=L1 q3 (k6.alive h0).1;have g2:=d2C q2 g3.1;have:=L1 q1 g2.1;dsimp only;omega,l6,u6⟩⟩)⟩
         .have hi7:v7=false:=D h35;have hg7:=S9 hv7 hi7;have bA:=hf7 hi7;subst m7;have ah:=d2M (ps:=ps) (f:=f) (d:=d) (b:=b) hk dG dg hg3 hg4 hg5 hg6 hg7;refine qD (c4 O b83 ⟨J,J⟩ (a8u hT hn hW ⟨O,O,H⟩) O ?_);rintro⟨s1,n1,a1,e1⟩ ⟨q1,y1⟩;dsimp only at q1 y1⊢;refine qN [rbx T n1 a1 e1 ps b 1,o5 e1 b.length,.box (tk T n).cells] O (qD (c4 O a8M o3 (X0 hT y1 hW [40] ⟨O,O,H⟩) O ?_));rintro⟨v8,m8⟩ ⟨dy,hs8,hf8,hm8⟩;dsimp only at dy hs8 hf8 hm8⊢;refine qN [rbx T m8 a1 e1 ps b 1,o5 e1 b.length,.box (tk T n).cells] O ?_;refine cC ?_ ?_<;>intro h37
          .have hi8:v8=false:=D h37;have bA:=hf8 hi8;subst m8;refine b4Y ?_;refine J8 (α:=Nat) (λj=>[(0,.ptr 0 0),(6,(iv ((tk T n).at_))),(14,(sv s1)),(137,(.list (ps.map scv) (gnn ps.length) none)),(138,iv ps.length),(139,iv j)]) (λ_=>[rbx T n1 a1 e1 ps b 1,o5 e1 b.length,.box (tk T n).cells]) (λj=>j<=ps.length/\(e1=0->ixS ps s1 0=ixS (ps.drop j) s1 j)) (λj=>ps.length -j) 0 ⟨n_5 _,λ_=>O⟩ tu_ O ?_;intro j E5 ⟨hj,hjx⟩;have cj:=hc.ps;refine qk (qC ?_ ?_)<;> intro h38
           .have af:j<ps.length:=sm_ h38;obtain⟨w,cP⟩:∃w,ps[j]?=some w:=⟨ps[j]'af,U⟩;refine qY (r6 O J J O O t_2 t_0 G (j5 cP) O) ?_;refine qY a8e ?_;refine qG C9 ?_;refine qG (λhg=>b4c O hg O) ?_;refine qG (λhg=>j3 O hg O b55 O c1J H) ?_;refine qG (λhg=>j9 O hg O c10 O O) ?_;refine a4w ?_;refine qC ?_ ?_<;>intro h39
            .obtain ⟨hw,ia⟩:w=s1/\e1=0:=D h39;subst ia;obtain⟨_,bd,bu,hpn⟩:=b0v q1 O;have hix:ixS ps s1 0=j:=by rw[hjx O,b0W cP,Q hw]
             refine qY b0P ?_;refine qD (c4 O a4D E7 (N7 hb ⟨2,(j:Int),0,[],[]⟩ _ ⟨O,O,H⟩) O ?_);rintro⟨x6,a6,e6,b6⟩ ⟨k6,w6,l6,u6⟩;dsimp only at k6 w6 l6 u6⊢;refine qN [rbx T n1 a6 e6 ps b6 3,.dead,.box (tk T n).cells,o5 e6 b6.length] O ?_;refine c6 ?_;exact⟨_,rE1,(by exact⟨⟨x6,n1,a6,e6,b6⟩,U9 (k:=3) O O H (.val _),⟨by rw[ah,hpn,n_9];dsimp only;rw[<- bd,<- bu,W (by rw[S9 dy hi8];decide),hix,W G];exact a2m k6,do_,w6,λh0=>by dsimp only;omega,l6,u6⟩⟩)⟩
            .have cM:e1=0->¬w=s1:=λh0 hw=>by simp[hw,h0]at h39
             refine qY o7 ?_;exact⟨(j+1),G,⟨G,λh0=>by rw[hjx h0,b0W cP,W (cM h0)]⟩,tu_,O⟩
           .have aH:ps.length<=j:=sm_ h38;refine j8 ?_;refine qD (c4 O a92 a3f (Y7 _ _ H ⟨O,O,H⟩) O ?_);rintro⟨x0,y0⟩ bE;dsimp only at bE⊢;refine qN [rbx T n1 x0 y0 ps b 1,o5 y0 b.length,.box (tk T n).cells] O ?_;refine c6 ?_;exact⟨_,rE1,(by exact⟨⟨0,n1,x0,y0,b⟩,a5E bE O (.val _),.dead (λ_=>by
             rcases q1.zero with⟨h0,_⟩|⟨_,h0⟩
             .subst h0;obtain⟨_,bd,bu,hpn⟩:=b0v q1 O;rw[ah,hpn,n_9];dsimp only;rw[<- bd,<- bu,W (by rw[S9 dy hi8];decide),hjx O,Y4 aH];rfl
             .rw [ah,b3n.1 h0];rfl) bE y1 hb ⟨H,H⟩⟩)⟩
          .have hi8:v8=true:=D h37;obtain⟨ia,hq8⟩:=V2 (dy.symm.trans hi8);subst e1;have bA:=hs8 hi8;subst m8;obtain⟨_,bd,bu,hpn⟩:=b0v q1 O;rw[hpn,n_9]at ah;dsimp only at ah;rw[<- bd,<- bu,Q hq8,c7j hq8]at ah;refine qk (qY b0P ?_);refine e2U ?_;refine A5 hCC 4 O (α:=RG) (λa=>[(0,.ptr 0 0),(1,iv d),(6,(iv ((tk T n).at_))),(17,.ptr 3 0)]) (λa=>[rbx T a.m a.at_ a.e ps a.b (kg5 a.ph),ot1 a.ph a.e a.b.length,.dead,.box [(iv (3)),(iv (0)),(iv (0)),(sv s1),.list (a.l.map icv) (gnn a.l.length) (F1 a.l.length 5)],ot2 a.ph a.e a.b.length,m0 a.l.length]) (λa=>(a.e=0->(z6 T ps (f+1)).fac d n b=(a4Y T ps d a.g a.m a.b a.l).bind (λa:List Int×Nat×List Ex=>L8 a.2.2 ⟨3,0,0,s1,a.1⟩ a.2.1)/\n<a.m/\a.l.length<=a.m/\8*(T.length -a.m)+7<=a.g)/\(a.e≠0->(z6 T ps (f+1)).fac d n b=none)/\a.m <T.length/\a.b.length<=256/\a.l.length<=T.length/\a.g<=f) (λa=>if a.e=0 then T.length -a.m+1 else 0) ⟨⟨[],n1+1,a1,0,b,false,f⟩,[0,1,2,3,7,8],⟨λ_=>⟨ah,do_,n_5 _,do_⟩,λh=>absurd O h,hm8,hb,n_5 _,n_6 _⟩,⟨O,O⟩,ut_,uq_⟩ ?_;intro⟨l,m,a2,e,b2,ph,g⟩ ⟨hI,hN,hm,cg,hlT,hgf⟩;dsimp only at hI hN hm cg hlT hgf⊢;refine qk (qG C9 ?_);refine b8z (.val (.bool false)) O O J O O (λhg=>c4 O a8M ⟨hg,O,J⟩ (X0 hT hm hW [41] (q:=0) (s:=kg5 ph) a1y) O ?_) (λhg=>?_)
           .
            obtain rfl:e=0:=D hg;obtain⟨hS,bX,hlm,hgm⟩:=hI O;rintro⟨v9,m9⟩ ⟨fx,gM,iT,fz⟩;dsimp only at fx gM iT fz⊢;refine qo ?_;refine qN [rbx T m9 a2 0 ps b2 (kg5 ph),ot1 ph 0 b2.length,.dead,.box [(iv (3)),(iv (0)),(iv (0)),(sv s1),.list (l.map icv) (gnn l.length) (F1 l.length 5)],ot2 ph 0 b2.length,m0 l.length] P9 ?_;refine qG a2D ?_;refine qY R4 ?_;refine qC ?_ ?_<;>intro h40
            .have jb:v9=false:=D h40;have hg9:=S9 fx jb;have bA:=iT jb;subst m9;obtain⟨g,rfl⟩:∃g',g=g'+1:=⟨g-1,G⟩;refine qY a4V ?_;refine qC ?_ ?_<;>intro h41
             .have hl:l≠[]:=by intro hl;subst hl;simp at h41
              rw[c1A hg9 hl]at hS;simp only[agS]at hS;refine qD (c4 O a4y o3 (N8 hT hm hW [44] (q:=0) (s:=kg5 ph) a1y) O ?_);rintro⟨n2,a4,e2⟩ ⟨q2,y2⟩;dsimp only at q2 y2⊢;refine qN [rbx T n2 a4 e2 ps b2 (kg5 ph),ot1 ph e2 b2.length,.dead,.box [(iv (3)),(iv (0)),(iv (0)),(sv s1),.list (l.map icv) (gnn l.length) (F1 l.length 5)],ot2 ph e2 b2.length,m0 l.length] P9 ?_;refine d7N ?_;refine chf O (c8 O b4L) ?_;refine b7Q ?_;refine chf O (c8 O o7) ?_;refine H4 ?_;refine B6 O O O (c4 O b9f i7 (hE g G (d+1) n2 a4 e2 b2 y2 cg G (λh0=>by have:=L1 q2 h0;omega) _ 0 (kg5 ph) a1y) O ?_);rintro⟨x3,n3,a3,e3,b3⟩ ⟨k3,y3,w3,z3,l3,u3⟩;dsimp only at k3 y3 w3 z3 l3 u3⊢;have eU:=V9 l x3;have eE:e3=0->m<n3/\n<n3/\(l++[x3]).length<=n3/\8*(T.length -n3)+7<=g:=λh0=>by have:=z3 h0;have hq:=L1 q2 (k3.alive h0).1;omega
              have bw:(if e3=0 then T.length -n3+1 else 0)< (if(0:Int)=0 then T.length -m+1 else 0):=by
               rw[Q O]
               split
               .rename_i h0;have:=eE h0;omega
               .omega
              have da:(l++[x3]).length<=T.length/\g<=f:=by omega
              have aF:=b8C hS q2 k3;refine a1G [rbx T n3 a3 e3 ps b3 6,.dead,.dead,.box [(iv (3)),(iv (0)),(iv (0)),(sv s1),.list (l.map icv) (gnn l.length) (F1 l.length 5)],.dead,m0 l.length,o5 e3 b3.length] P9 ?_;refine d8p ?_;refine B6 O O O (C8 O J J O U q_3 t_4 t_1 b8X t_7 O (.inr O) q_7 c8D G6 ((l++[x3]).map icv) (l++[x3]).length U U ?_);refine⟨J,?_⟩;refine d8Q ?_;refine a9k ?_;exact⟨⟨l++[x3],n3,a3,e3,b3,true,g⟩,[0,1,2,3,6,7],⟨bw,λh0=>(aF.1 h0).2.elim λj hj=>⟨by rw[hj.2,<- hj.1],(eE h0).2⟩,aF.2,y3,w3,da⟩,⟨O,O⟩,ut_,⟨.inr ⟨_,O,.box ⟨.old a1b,.old (.val _),.old (.val _),.old (.val _),.old N4,a0f O,.old a3d,J⟩⟩,.inl O,.inl O,.inr ⟨_,O,.box ⟨.old (.val _),.old (.val _),.old (.val _),.old (.val _),C3.grow (f:=icv) (λ_=>⟨.val _,J⟩) O,J⟩⟩,.inr ⟨_,O,.same O W5⟩,.inr ⟨_,O,.same O B0⟩,J⟩⟩
             .have hl:l=[]:=by
               cases l with
               |nil=>rfl
               |cons x l=>simp at h41<;>omega
              subst hl;rw[c0g hg9]at hS;simp only[agS]at hS;have q2:Ok 0 (some m) 0 m:=.some;refine d7N ?_;refine chf O (c8 O b4L) ?_;refine b7Q ?_;refine chf O (c8 O o7) ?_;refine H4 ?_;refine B6 O O O (c4 O b9f i7 (hE g G (d+1) m a2 0 b2 hm cg G (λ_=>by omega) _ 0 (kg5 ph) a1y) O ?_);rintro⟨x3,n3,a3,e3,b3⟩ ⟨k3,y3,w3,z3,l3,u3⟩;dsimp only at k3 y3 w3 z3 l3 u3⊢;have eU:=V9 ([]:List Int) x3;have eE:e3=0->m<n3/\n<n3/\(([]:List Int)++[x3]).length<=n3/\8*(T.length -n3)+7<=g:=λh0=>by have:=z3 h0;omega
              have bw:(if e3=0 then T.length -n3+1 else 0)< (if(0:Int)=0 then T.length -m+1 else 0):=by
               rw[Q O]
               split
               .rename_i h0;have:=eE h0;omega
               .omega
              have da:(([]:List Int)++[x3]).length<=T.length/\g<=f:=by omega
              have aF:=b8C hS q2 k3;refine a1G [rbx T n3 a3 e3 ps b3 6,.dead,.dead,.box [(iv (3)),(iv (0)),(iv (0)),(sv s1),.list ([].map icv) (gnn ([]:List Int).length) (F1 ([]:List Int).length 5)],.dead,m0 ([]:List Int).length,o5 e3 b3.length] P9 ?_;refine d8p ?_;refine B6 O O O (C8 O J J O U q_3 t_4 t_1 b8X t_7 O (.inr O) q_7 c8D G6 (([]++[x3]).map icv) ([]++[x3]).length U U ?_);refine⟨J,?_⟩;refine d8Q ?_;refine a9k ?_;exact⟨⟨[]++[x3],n3,a3,e3,b3,true,g⟩,[0,1,2,3,6,7],⟨bw,λh0=>(aF.1 h0).2.elim λj hj=>⟨by rw[hj.2,<- hj.1],(eE h0).2⟩,aF.2,y3,w3,da⟩,⟨O,O⟩,ut_,⟨.inr ⟨_,O,.box ⟨.old a1b,.old (.val _),.old (.val _),.old (.val _),.old N4,a0f O,.old a3d,J⟩⟩,.inl O,.inl O,.inr ⟨_,O,.box ⟨.old (.val _),.old (.val _),.old (.val _),.old (.val _),C3.grow (f:=icv) (λ_=>⟨.val _,J⟩) O,J⟩⟩,.inr ⟨_,O,.same O W5⟩,.inr ⟨_,O,.same O B0⟩,J⟩⟩
            .have jb:v9=true:=D h40;obtain⟨_,hq9⟩:=V2 (fx.symm.trans jb);have bA:=gM jb;subst m9;rw[c6c hq9,n_9]at hS;refine j8 ?_;refine qD (c4 O a4D E7 (N7 cg ⟨3,0,0,s1,l⟩ _ (q:=0) (s:=kg5 ph) a1y) O ?_);rintro⟨x6,a6,e6,b6⟩ ⟨k6,w6,l6,u6⟩;dsimp only at k6 w6 l6 u6⊢;refine qN [rbx T (m+1) a6 e6 ps b6 6,.dead,.dead,.box [(iv (3)),(iv (0)),(iv (0)),(sv s1),.list (l.map icv) (gnn l.length) (F1 l.length 5)],.dead,m0 l.length,o5 e6 b6.length] P9 ?_;refine c6 ?_;exact⟨_,rE1,(by exact⟨⟨x6,m+1,a6,e6,b6⟩,U9 (k:=6) O O H (.val _),⟨by rw[hS];exact a2m k6,do_,w6,λh0=>by dsimp only;omega,l6,u6⟩⟩)⟩
           .
            refine qo (qG a2D ?_);refine qY R4 ?_;refine qC ?_ ?_<;>intro h42
            .have he:e≠0:=D hg;simp[he]at h42
            .have he:e≠0:=D hg;refine j8 ?_;refine qD (c4 O a4D E7 (N7 cg ⟨3,0,0,s1,l⟩ _ (q:=0) (s:=kg5 ph) a1y) O ?_);rintro⟨x6,a6,e6,b6⟩ ⟨k6,w6,l6,u6⟩;dsimp only at k6 w6 l6 u6⊢;refine qN [rbx T m a6 e6 ps b6 6,.dead,.dead,.box [(iv (3)),(iv (0)),(iv (0)),(sv s1),.list (l.map icv) (gnn l.length) (F1 l.length 5)],.dead,m0 l.length,o5 e6 b6.length] P9 ?_;refine c6 ?_;exact⟨_,rE1,(by exact⟨⟨x6,m,a6,e6,b6⟩,U9 (k:=6) O O H (.val _),.dead (λ_=>hN he) (k6.2 he) hm w6 ⟨l6,u6⟩⟩)⟩
theorem c5V{ps:List I}(hc:a0j T ps)(Jf:∀g,g<f0->REC T ps g):RFC T ps f0:=λd n at_ b hn hb hd hf σ q s ao=>by
 obtain⟨f,rfl⟩:∃f,f0=f+1:=⟨f0-1,G⟩;exact a1V (c:=λa:RX=>(iv a.x)) (N:=λa=>a.n) (A:=λa=>a.at_) (E:=λa=>a.e) (B:=λa=>a.b) (λ_ h=>by simp at h;subst h;exact .val _) (λ_=>.val _) (c1i hc (λg hg=>Jf g G) d n at_ b hn hb hd hf) ao
theorem d9I{ps:List I}(hc:a0j T ps):∀f,REC T ps f/\RSC T ps f/\RTC T ps f/\RFC T ps f:=λf=>by
 induction f using Nat.strongRecOn with
 |ind f Jf=>
  exact⟨d4T hc λg hg=>⟨(Jf g hg).1,(Jf g hg).2.1⟩,d9p hc λg hg=>(Jf g hg).2.2.1,d4W hc λg hg=>(Jf g hg).2.2.2,c5V hc λg hg=>(Jf g hg).1⟩
theorem c60{l:List De}{p:De->Bool}{y:De}(h:l[i]?=some y)(hd:l.any p=(l.drop i).any p)(hy:p y=false):l.any p=(l.drop (i+1)).any p:=by
 obtain⟨af,rfl⟩:=n_2.1 h;rw[hd,Y0 af,List.any_cons,hy,Bool.false_or]
theorem c7t{l:List De}{p:De->Bool}{y:De}(h:l[i]?=some y)(hy:p y=true):l.any p=true:=c3p.2 ⟨y,n_3 h,hy⟩
theorem c1B(f:Src)(k:Int)(u:I)(hl:f.decls.length<=1000000)(σ:List b9):b8 CC 225 [.agg f.cells,iv k,(sv u)] σ λr aa=>r= .ret (.val (.bool (f.decls.any λd=>(d.k == k)&&decide (d.name=u))))/\aa=σ:=by
 refine b8.anyw hCC pu_ pu_ (c7 (qO Tryz.func225 ?_)) σ;refine qD (H3 O J j2 j4 ?_);refine qY a6w ?_;refine o4 hCC (α:=Nat) (λi=>[(1,iv k),(2,(sv u)),(10,(.list (f.decls.map De.cv) (gnn f.decls.length) none)),(11,iv f.decls.length),(12,iv i)]) (λ_=>[.box f.cells]) (λi=>i<=f.decls.length/\(f.decls.any λd=>(d.k == k)&&decide (d.name=u))=((f.decls.drop i).any λd=>(d.k == k)&&decide (d.name=u))) (λi=>f.decls.length -i) 0 ⟨n_5 _,O⟩ tu_ (am:=[]) O B5 uz_ ?_;intro i ⟨hi,hd⟩;refine qk (qC ?_ ?_)<;> intro h1
 .have af:i<f.decls.length:=sm_ h1;obtain⟨w,hb⟩:∃w,f.decls[i]?=some w:=⟨f.decls[i]'af,U⟩;refine qY (r6 O J J O O a7D a30 G a5z O) ?_;refine c1n ?_;refine qG c3N ?_;refine qG a0J ?_;refine b9t ?_;refine qC ?_ ?_<;>intro h2
  .have hw:((w.k == k)&&decide (w.name=u))=true:=D h2;refine c6 ?_;exact⟨_,rE1,_,_,O,O,j6 (show true=(f.decls.any λd=>(d.k == k)&&decide (d.name=u))from(c7t hb hw).symm)⟩
  .have hw:((w.k == k)&&decide (w.name=u))=false:=D h2;refine qY o7 ?_;exact⟨(i+1),_,⟨G,G,c60 hb hd hw⟩,tu_,O⟩
 .have aH:f.decls.length<=i:=sm_ h1;refine a0i ?_;exact⟨_,rE1,_,_,O,O,j6 (show false=(f.decls.any λd=>(d.k == k)&&decide (d.name=u)) by rw[hd,Y4 aH];rfl)⟩
theorem c3A{n k:Nat}{at_ e:Int}{ps:List I}{b:List Ex}{c':CV}(h0:τ[0]?=some (rbx T n at_ e ps b k))(hk:τ[k]?=some (o5 e b.length))(h2:2<=k)(hc:∀ak,C3 2 ak c c'):F0 2 τ (.ret c) (.ret c') (a61 T n at_ e ps b):=by
 obtain⟨ak,a1,a2,_,a4⟩:=U9 h0 hk h2 (Old.val (.int .i64 0));exact⟨ak,a1,a2,.ret (hc ak),a4⟩
theorem c1b{f:FuncId}{args:List CV}{c:α->CV}{N:α->Nat}{A E:α->Int}{Z:α->List I}{B:α->List Ex}{P:α->Prop}{n:Nat}{at_ e:Int}{ps:List I}{b:List Ex}(ap:∀a∈args,p9 a)(hc:∀a,p9 (c a))
 (h:b8 CC f (.ptr 0 0::args) (rst T n at_ e ps b) λr τ=>∃a,F0 2 τ r (.ret (c a)) (a61 T (N a) (A a) (E a) (Z a) (B a))/\P a){σ:List b9}{q s:Nat}(ao:RAt σ q s T n at_ e ps b):
 b8 CC f (.ptr q 0::args) σ λr τ=>∃a,r= .ret (c a)/\τ=rS1 σ q s T (N a) (A a) (E a) (Z a) (B a)/\P a:=by
 obtain⟨h1,h2,h3⟩:=ao;have hq:=(n_2.1 h1).1;have hs:=(n_2.1 h2).1;have h':b8 CC f (.ptr 0 0::args) (rst T n at_ e ps b) λr τ=>∃a,r= .ret (c a)/\τ=a61 T (N a) (A a) (E a) (Z a) (B a)/\P a:=
  K2 hCC (h.mono λr τ ⟨a,k1,k2⟩=>⟨_,_,k1,a,O,O,k2⟩)
 refine I5 [q,s] hCC O (λi j k g1 g2=>?_) (λi k ob g1 g2=>?_) (.cons (.ptr O) (H9 ap)) h' λr τ hk=>?_
 .rcases i with _|_|i<;>rcases j with _|_|j<;>simp at g1 g2<;>first|rfl|(exfalso;exact h3 (g1.trans g2.symm))|(exfalso;exact h3 (g2.trans g1.symm))
 .rcases i with _|_|i
  .simp at g1 g2;subst g1 g2;exact⟨_,h1,a7F O⟩
  .simp at g1 g2;subst g1 g2;exact⟨_,h2,a4Z _ _⟩
  .simp at g1
 .obtain ⟨a,rfl,rfl,hp⟩:=hk;refine⟨U,.ret (c a),rS1 σ q s T (N a) (A a) (E a) (Z a) (B a),.ret (.pure (hc a)),U,λk hk bm=>?_,λi k x ha hx=>?_,a,O,O,hp⟩
  .have n1:q≠k:=λe=>bm a2d;have n2:s≠k:=λe=>bm a2d;rw[T7 (D hk)];simp[n1,n2]
  .rcases ha with ha|⟨ha,rfl⟩
   .rcases i with _|_|i
    .simp at ha hx;subst ha hx;refine⟨rbx T (N a) (A a) (E a) (Z a) (B a) σ.length,?_,a7F (.inr ⟨U,U⟩)⟩;rw[T7 (D hq),a0S h3.symm];simp[hq]
    .simp at ha hx;subst ha hx;refine⟨.dead,?_,.dead⟩;rw[T7 (D hs)];simp[hs]
    .simp at ha
   .rcases i with _|_|_|i
    .simp at ha
    .simp at ha
    .simp at hx;subst hx;refine⟨o5 (E a) (B a).length,?_,a4Z _ _⟩;rw[a1c U];simp
    .simp at hx
theorem d5T:G0 [102,117,110,99]=1:=by decide
theorem d5v:G0 [116,101,115,116]=2:=by decide
theorem d5o:G0 [103,101,110]=3:=by decide
theorem d4g(h1:¬u=[102,117,110,99])(h2:¬u=[116,101,115,116])(h3:¬u=[103,101,110]):G0 u=0:=by
 have e:dkL=[([102,117,110,99],1),([116,101,115,116],2),([103,101,110],3)]:=by decide
 rw[G0,e];simp only[glk,W h1,W h2,W h3];rfl
theorem e1L{n:Nat}(h1:isT (tk T n) 1 [102,117,110,99]=false)(h2:isT (tk T n) 1 [116,101,115,116]=false)(h3:isT (tk T n) 1 [103,101,110]=false):(tk T n).k≠1\/G0 (tk T n).t=0:=by
 by_cases hk:(tk T n).k=1
 .exact .inr (d4g (a5x h1 hk) (a5x h2 hk) (a5x h3 hk))
 .exact .inl hk
theorem Ok.of{e:Int}(h1:e'=0->e=0/\o=Option.some y)(h2:e'≠0->e=0->o=Option.none):Ok e o e' y:=
 ⟨λh=>by
  by_cases h':e'=0
  .exact .inl ⟨(h1 h').2,h'⟩
  .exact .inr ⟨h2 h' h,h'⟩,λh h'=>h (h1 h').1⟩
theorem Ok.pre{e:Int}(h:Ok e1 o e' y)(h1:e=0->e1=0)(h2:e≠0->e1≠0):Ok e o e' y:=⟨λh0=>h.1 (h1 h0),λh0=>h.2 (h2 h0)⟩
def a6q(T:List Tok)(m:Nat)(l:List I):Option (List I×Nat):=
 if l=[]then(if isT (tk T m) 4 [41]=true then Option.some ([],m+1)else a2H 9 T m [])
 else if isT (tk T m) 4 [44]=true then a2H (9-l.length) T (m+1) l else(pIs T m 4 [41]).bind λm'=>Option.some (l,m')
theorem c6V{n m:Nat}(h:pIs T n 4 [40]=some m):L9 T n=a6q T m []:=by
 rw[L9,h,n_9,a6q,Q O]
theorem c5N{m:Nat}{l:List I}(h:isT (tk T m) 4 [41]=true):a6q T m l=some (l,m+1):=by
 unfold a6q;by_cases hl:l=[]
 .rw [Q hl,Q h,hl]
 .rw [W hl,W (by simp[isT,(R0 h).2]),pIs,Q h];rfl
def b58(T:List Tok)(m:Nat)(l:List I):Option Nat:=if l=[]then some m else pIs T m 4 [44]
theorem c1L{m:Nat}{l:List I}(h:isT (tk T m) 4 [41]=false):a6q T m l=(b58 T m l).bind λm'=>a2H (9-l.length) T m' l:=by
 unfold a6q b58;by_cases hl:l=[]
 .subst hl;rw[Q O,Q O,W (by rw[h];decide)];rfl
 .rw [W hl,W hl];unfold pIs;by_cases h4:isT (tk T m) 4 [44]=true
  .rw [Q h4,Q h4];rfl
  .rw [W h4,W h4,W (by rw[h];decide)];rfl
theorem e20{m:Nat}{l:List I}(hl:l.length<=8):a2H (9-l.length) T m l=(K3 T m).bind λx=>if l.length=8 then none else if x.1.t∈l then none else a6q T x.2 (l++[x.1.t]):=by
 obtain⟨f,hf⟩:∃f,9-l.length=f+1:=⟨8-l.length,G⟩;rw[hf,a2H];refine n_7 _ (funext λx=>?_);by_cases h8:l.length=8
 .rw [Q h8,Q h8]
 .rw [W h8,W h8];by_cases hm:x.1.t∈l
  .rw [Q hm,Q hm]
  .rw [W hm,W hm];unfold a6q;rw[show 9- (l++[x.1.t]).length=f by simp;omega];exact(W U).symm
theorem a4G{m:Nat}{l:List I}{S:Option (List I×Nat)}{s3:I}(hl:l.length<=8)(hS:S=(b58 T m l).bind λm'=>a2H (9-l.length) T m' l)(q2:Ok 0 (b58 T m l) e2 n2)(q3:Ok e2 ((K3 T n2).map λx=>(x.1.t,x.2)) e3 (s3,n3))
 (h1:l.length=8\/s3∈l->e4≠0)(h2:¬l.length=8->¬s3∈l->e4=e3)(h3:e3≠0->e4≠0):(e4=0->e3=0/\e2=0/\l.length <8/\S=a6q T n3 (l++[s3]))/\(e4≠0->S=none):=by
 rcases q2.zero with⟨g2,ho⟩|⟨g2,ho⟩
 .subst g2;rw[ho,n_9,e20 hl]at hS
  rcases q3.zero with⟨g3,hn⟩|⟨g3,hn⟩
  .obtain ⟨x,hx,hg⟩:=Q3.1 hn;injection hg with dG dg
   rw[hx,n_9,dG,dg]at hS;by_cases h8:l.length=8
   .rw [Q h8]at hS;exact⟨λh=>absurd h (h1 (.inl h8)),λ_=>hS⟩
   .rw [W h8]at hS;by_cases hm:s3∈l
    .rw [Q hm]at hS;exact⟨λh=>absurd h (h1 (.inr hm)),λ_=>hS⟩
    .rw [W hm]at hS;exact⟨λ_=>⟨g3,O,G,hS⟩,λh=>absurd (by rw[h2 h8 hm,g3]) h⟩
  .rw [b3n.1 hn]at hS;exact⟨λh=>absurd h (h3 g3),λ_=>hS⟩
 .rw [ho]at hS;exact⟨λh=>absurd h (h3 (q3.2 g2)),λ_=>hS⟩
structure RP5 where
 l:List I
 m:Nat
 at_:Int
 e:Int
structure RD5 where
 d:De
 n:Nat
 at_:Int
 e:Int
 ps:List I
 b:List Ex
variable{n d:Nat}
def RDP(T:List Tok)(bs:List De)(n:Nat)(a:RD5):Prop:=Ok 0 (a0F T bs n) a.e (a.d,a.n)/\a.n <T.length/\a.b.length<=256/\(a.e=0->n<a.n)
theorem d9Z{m:Nat}{l:List I}(q:Ok 0 (b58 T m l) e2 n2)(h:e2=0):m<=n2:=by
 have h1:=(q.alive h).2;unfold b58 at h1;by_cases hl:l=[]
 .rw [Q hl]at h1;injection h1 with h1
  omega
 .rw [W hl]at h1;have:=Q5 h1;omega
theorem d6z{bs:List De}{m n6 n8:Nat}{kd e8 x7:Int}{s2:I}{l:List I}{b7:List Ex}(hu:¬((tk T n).k≠1\/G0 (tk T n).t=0))(hkd:kd=G0 (tk T n).t)(p1:bs.length=64->e1≠0)(p2:bs.length≠64->e1=0)(q2:Ok e1 ((a3G T kd (n+1)).map λx=>(x.1.t,x.2)) e2 (s2,n2))
 (p3:e2≠0->e3≠0)(p4:e2=0->(bs.any λd=>(d.k == kd)&&decide (d.name=s2))=true->e3≠0)(p5:e2=0->(bs.any λd=>(d.k == kd)&&decide (d.name=s2))=false->e3=0)(q5:Ok e3 (a3B T kd n2) e5 (l,m))(q6:Ok e5 (pIs T m 4 [61]) e6 n6)(k7:Ok e6 (((z6 T l (8*T.length+6)).ex 1 n6 []).map cx) e7 (x7,n7,b7))(q8:Ok e7 (pIs T n7 4 [59]) e8 n8):
 Ok 0 (a0F T bs n) e8 (⟨kd,s2,l,b7⟩,n8):=by
 have d8:e3≠0->e8≠0:=λh=>q8.2 (k7.2 (q6.2 (q5.2 h)));rw[a0F,W hu,<- hkd];by_cases iS:bs.length=64
 .rw [Q iS];exact .none (d8 (p3 (q2.2 (p1 iS))))
 .rw [W iS];have ia:=p2 iS;subst ia;refine q2.bindM (λp hp hg=>?_) λh=>d8 (p3 h);obtain⟨t,m2⟩:=p;injection hg with dG dg
  dsimp only at dG dg⊢;subst dG dg;by_cases bO:(bs.any λd=>(d.k == kd)&&decide (d.name=t.t))=true
  .rw [Q bO];by_cases h2:e2=0
   .exact .none (d8 (p4 h2 bO))
   .exact .none (d8 (p3 h2))
  .rw [W bO];refine Ok.pre ?_ (λh=>p5 h (D bO)) p3;refine q5.bind (q6.bind ?_);refine k7.bindM (λp hp hg=>?_) q8.2;obtain⟨i,n7',b7'⟩:=p;injection hg with dG dg
   injection dg with dg hg3
   dsimp only at dg hg3⊢;subst dg hg3;exact q8.bind .some
theorem d6E{bs:List De}{m n6 n8:Nat}{kd e8 x7:Int}{s2:I}{l:List I}{b7:List Ex}(_:kd=G0 (tk T n).t)(_:bs.length=64->e1≠0)(_:bs.length≠64->e1=0)(q2:Ok e1 ((a3G T kd (n+1)).map λx=>(x.1.t,x.2)) e2 (s2,n2))
 (p3:e2≠0->e3≠0)(_:e2=0->(bs.any λd=>(d.k == kd)&&decide (d.name=s2))=true->e3≠0)(_:e2=0->(bs.any λd=>(d.k == kd)&&decide (d.name=s2))=false->e3=0)(q5:Ok e3 (a3B T kd n2) e5 (l,m))(q6:Ok e5 (pIs T m 4 [61]) e6 n6)(k7:Ok e6 (((z6 T l (8*T.length+6)).ex 1 n6 []).map cx) e7 (x7,n7,b7))(z7:e7=0->n6<n7)(q8:Ok e7 (pIs T n7 4 [59]) e8 n8)(h0:e8=0):
 n<n8:=by
 have g8:=L1 q8 h0;have g7:=(k7.alive g8.1).1;have g6:=L1 q6 g7;have g5:=q5.alive g6.1;have h2:e2=0:=Classical.byContradiction λh=>p3 h g5.1;obtain⟨p,hp,hg⟩:=Q3.1 (q2.alive h2).2;obtain⟨t,m2⟩:=p;injection hg with _ dg
 dsimp only at dg;subst dg;have:=b7Y hp;have:=b8s g5.2;have:=z7 g8.1;omega
theorem d0g{ps:List I}(hc:a0j T [])(pk:I)(im:List I)(bs:List De)(hbs:bs.length<=64)(n:Nat)(at_:Int)(b:List Ex)(hn:n<T.length):b8 CC 179 [.ptr 0 0,.agg (⟨pk,im,bs⟩:Src).cells] (rst T n at_ 0 ps b) (λr τ=>∃a:RD5,F0 2 τ r (.ret (.agg a.d.cells)) (a61 T a.n a.at_ a.e a.ps a.b)/\RDP T bs n a):=by
 have hT:=hc.len;have hW:=hc.w;refine cO Tryz.func179 ?_;refine b0K ?_;refine L6 [rbx T n at_ 0 ps b 1,o5 0 b.length,.dead] O ?_;refine z_8 ?_;refine cD (o6 O b2k O j4 ?_);refine a7E ?_;refine cD (o6 O b2k O j4 ?_);refine p7 ?_;refine b4u ?_;refine cY (j3 O J O b55 O a23 H) ?_;refine cD (j1 O J O O j2 a23 (.inl O) O O (nb O) ?_);refine cY W2 ?_;refine cY c5i ?_;refine cD (j1 O J O O j2 b1B (.inl O) O O (nb O) ?_);refine p7 ?_;refine L6 [rbx T n at_ 0 [] [] 2,o5 0 b.length,o5 0 ([]:List Ex).length,.box (⟨pk,im,bs⟩:Src).cells,.box (⟨0,[],[],[]⟩:De).cells,.box (⟨0,[],[],[]⟩:De).cells] O ?_;refine z_2 ?_;refine ye O a7K ⟨J,J⟩ (a0v hT hn (q:=0) (s:=2) ⟨O,O,H⟩) O ?_;refine cY a4n ?_;refine z_1 ?_;refine O6 (α:=Int) (λ_=>[(0,.ptr 0 0),(3,.ptr 3 0),(4,.ptr 4 0),(5,.ptr 5 0),(6,(iv ((tk T n).at_)))]) (λkd=>[rbx T (n+1) at_ 0 [] [] 2,o5 0 b.length,o5 0 ([]:List Ex).length,.box (⟨pk,im,bs⟩:Src).cells,.box (⟨0,[],[],[]⟩:De).cells,.box (⟨kd,[],[],[]⟩:De).cells]) (λkd=>kd=G0 (tk T n).t/\(tk T n).k=1/\(kd=1\/kd=2\/kd=3)/\n+1<T.length) ?_ ?_
 .
  refine z_2 ?_;refine de O b0p o3 (Z0 hT hn hW [102,117,110,99] (q:=0) (s:=2) ⟨O,O,H⟩) O ?_;rintro⟨v1,m1⟩ ⟨dX,bu,di,dJ⟩;dsimp only at dX bu di dJ⊢;refine K9 [rbx T m1 at_ 0 [] [] 2,o5 0 b.length,o5 0 ([]:List Ex).length,.box (⟨pk,im,bs⟩:Src).cells,.box (⟨0,[],[],[]⟩:De).cells,.box (⟨0,[],[],[]⟩:De).cells] O ?_;refine p7 ?_;refine cC ?_ ?_<;>intro h1
  .have ft:v1=true:=D h1;have hq:=(V2 (dX.symm.trans ft)).2;have bA:=bu ft;subst m1;refine C2 ?_;refine d1C ?_;refine p7 ?_;exact⟨(1:Int),⟨by rw[(R0 hq).2,d5T],(R0 hq).1,H,dJ⟩,tu_,O⟩
  .have ft:v1=false:=D h1;have dG:=S9 dX ft;have bA:=di ft;subst m1;refine z_2 ?_;refine de O b0p o3 (Z0 hT hn hW [116,101,115,116] (q:=0) (s:=2) ⟨O,O,H⟩) O ?_;rintro⟨v2,m2⟩ ⟨db,dh,gK,cI⟩;dsimp only at db dh gK cI⊢;refine K9 [rbx T m2 at_ 0 [] [] 2,o5 0 b.length,o5 0 ([]:List Ex).length,.box (⟨pk,im,bs⟩:Src).cells,.box (⟨0,[],[],[]⟩:De).cells,.box (⟨0,[],[],[]⟩:De).cells] O ?_;refine p7 ?_;refine cC ?_ ?_<;>intro h2
   .have cK:v2=true:=D h2;have hq:=(V2 (db.symm.trans cK)).2;have bA:=dh cK;subst m2;refine C2 ?_;refine d1C ?_;refine p7 ?_;exact⟨(2:Int),⟨by rw[(R0 hq).2,d5v],(R0 hq).1,H,cI⟩,tu_,O⟩
   .have cK:v2=false:=D h2;have dg:=S9 db cK;have bA:=gK cK;subst m2;refine z_2 ?_;refine de O b0p o3 (Z0 hT hn hW [103,101,110] (q:=0) (s:=2) ⟨O,O,H⟩) O ?_;rintro⟨v3,m3⟩ ⟨hv3,fV,hf3,gr⟩;dsimp only at hv3 fV hf3 gr⊢;refine K9 [rbx T m3 at_ 0 [] [] 2,o5 0 b.length,o5 0 ([]:List Ex).length,.box (⟨pk,im,bs⟩:Src).cells,.box (⟨0,[],[],[]⟩:De).cells,.box (⟨0,[],[],[]⟩:De).cells] O ?_;refine p7 ?_;refine cC ?_ ?_<;>intro h3
    .have fX:v3=true:=D h3;have hq:=(V2 (hv3.symm.trans fX)).2;have bA:=fV fX;subst m3;refine C2 ?_;refine d1C ?_;refine p7 ?_;exact⟨(3:Int),⟨by rw[(R0 hq).2,d5o],(R0 hq).1,H,gr⟩,tu_,O⟩
    .have fX:v3=false:=D h3;have hg3:=S9 hv3 fX;have bA:=hf3 fX;subst m3;refine a1Y ?_;refine de O a92 a3f (Y7 _ _ H (q:=0) (s:=2) ⟨O,O,H⟩) O ?_;rintro⟨x0,y0⟩ bE;dsimp only at bE⊢;refine K9 [rbx T n x0 y0 [] [] 2,o5 0 b.length,o5 y0 ([]:List Ex).length,.box (⟨pk,im,bs⟩:Src).cells,.box (⟨0,[],[],[]⟩:De).cells,.box (⟨0,[],[],[]⟩:De).cells] O ?_;refine a7E ?_;refine cY a9Z ?_;refine d5V ?_;refine c6 ?_;exact⟨_,B1 O c8b,(by exact⟨⟨⟨0,[],[],[]⟩,n,x0,y0,[],[]⟩,c3A (k:=2) O O H (λ_=>c1F _ _ _ _ _),⟨by rw[a0F,Q (e1L (S9 dX ft) (S9 db cK) (S9 hv3 fX))];exact .none bE,hn,n_5 _,λh0=>absurd h0 bE⟩⟩)⟩
 .rintro kd E1 ⟨hkd,bB,hk3,bd⟩;have hu1:¬((tk T n).k≠1\/G0 (tk T n).t=0):=by rw[<- hkd];omega
  refine O6 (α:=Int×Int) (λ_=>[(0,.ptr 0 0),(3,.ptr 3 0),(4,.ptr 4 0),(5,.ptr 5 0)]) (λa=>[rbx T (n+1) a.1 a.2 [] [] 2,o5 0 b.length,o5 a.2 ([]:List Ex).length,.box (⟨pk,im,bs⟩:Src).cells,.box (⟨0,[],[],[]⟩:De).cells,.box (⟨kd,[],[],[]⟩:De).cells]) (λa=>(bs.length=64->a.2≠0)/\(bs.length≠64->a.2=0)) ?_ ?_
  .
   refine z_0 ?_;refine cY c3Y ?_;refine cY c2u ?_;refine cY a6w ?_;refine a5s ?_;refine cC ?_ ?_<;>intro h4
   .have iS:bs.length=64:=sm_ h4;refine z_9 ?_;refine d3y ?_;rintro⟨x0,y0⟩ bE;dsimp only at bE⊢;refine K9 [rbx T (n+1) x0 y0 [] [] 2,o5 0 b.length,o5 y0 ([]:List Ex).length,.box (⟨pk,im,bs⟩:Src).cells,.box (⟨0,[],[],[]⟩:De).cells,.box (⟨kd,[],[],[]⟩:De).cells] O ?_;refine p7 ?_;exact⟨(x0,y0),⟨λ_=>bE,λh=>absurd iS h⟩,tu_,O⟩
   .have iS:¬bs.length=64:=sm_ h4;refine w9 ?_;exact⟨(at_,0),⟨λh=>absurd h iS,λ_=>O⟩,tu_,O⟩
  .rintro ⟨a1,e1⟩ E2 ⟨p1,p2⟩;dsimp only at p1 p2⊢;refine z_2 ?_;refine ye O a7K ⟨J,J⟩ (a0v hT bd (q:=0) (s:=2) ⟨O,O,H⟩) O ?_;refine cY a4n ?_;refine z_1 ?_;refine O6 (α:=I×Nat×Int×Int) (λ_=>[(0,.ptr 0 0),(3,.ptr 3 0),(4,.ptr 4 0),(5,.ptr 5 0),(6,(iv ((tk T (n+1)).at_)))]) (λa=>[rbx T a.2.1 a.2.2.1 a.2.2.2 [] [] 2,o5 0 b.length,o5 a.2.2.2 ([]:List Ex).length,.box (⟨pk,im,bs⟩:Src).cells,.box (⟨0,[],[],[]⟩:De).cells,.box (⟨kd,a.1,[],[]⟩:De).cells]) (λa=>Ok e1 ((a3G T kd (n+1)).map λx=>(x.1.t,x.2)) a.2.2.2 (a.1,a.2.1)/\a.2.1 <T.length) ?_ ?_
   .
    refine z_0 ?_;refine b8e ?_;refine a5s ?_;refine cC ?_ ?_<;>intro h5
    .have hk:kd=3:=D h5;have hh:∀m,a3G T kd m=a0E T m:=λm=>Q hk;refine z_9 ?_;refine de O c2K o3 (b0x hT bd hW true hc.l (q:=0) (s:=2) ⟨O,O,H⟩) O ?_;rintro⟨s2,n2,a2,e2⟩ ⟨q2,y2⟩;dsimp only at q2 y2⊢;rw[a33]at q2;refine e1M ?_;refine e0u ?_;exact⟨(s2,n2,a2,e2),⟨by rw[hh];exact q2,y2⟩,tu_,O⟩
    .have hk:¬kd=3:=D h5;have hh:∀m,a3G T kd m=K3 T m:=λm=>W hk;refine z_9 ?_;refine de O b83 ⟨J,J⟩ (a8u hT bd hW (q:=0) (s:=2) ⟨O,O,H⟩) O ?_;rintro⟨s2,n2,a2,e2⟩ ⟨q2,y2⟩;dsimp only at q2 y2⊢;refine e1M ?_;refine e0u ?_;exact⟨(s2,n2,a2,e2),⟨by rw[hh];exact q2,y2⟩,tu_,O⟩
   .rintro ⟨s2,n2,a2,e2⟩ E3 ⟨q2,y2⟩;dsimp only at q2 y2⊢;refine O6 (α:=Int×Int) (λ_=>[(0,.ptr 0 0),(4,.ptr 4 0),(5,.ptr 5 0)]) (λa=>[rbx T n2 a.1 a.2 [] [] 2,o5 0 b.length,o5 a.2 ([]:List Ex).length,.box (⟨pk,im,bs⟩:Src).cells,.box (⟨0,[],[],[]⟩:De).cells,.box (⟨kd,s2,[],[]⟩:De).cells]) (λa=>(e2≠0->a.2≠0)/\(e2=0->(bs.any λd=>(d.k == kd)&&decide (d.name=s2))=true->a.2≠0)/\(e2=0->(bs.any λd=>(d.k == kd)&&decide (d.name=s2))=false->a.2=0)) ?_ ?_
    .
     refine a8t ?_;refine cY b73 ?_;refine cY (j9 O J O c10 O O) ?_;refine b0b ?_;refine cG (λhg=>I8 O J O b9J a35 O (nb O)) ?_;refine cG (λhg=>j3 O J O b5M O t_1 H) ?_;refine cG a7t ?_;refine cG c3N ?_;refine cG a0J ?_;refine cG (λhg=>c5 O Tryz.call225 ⟨hg,hg,hg,J⟩ (c1B ⟨pk,im,bs⟩ kd s2 (by show bs.length<=1000000;omega) _) O) ?_;refine b0T ?_;refine cC ?_ ?_<;>intro h6
     .have ht:e2=0/\(bs.any λd=>(d.k == kd)&&decide (d.name=s2))=true:=D h6;refine z_9 ?_;refine d3y ?_;rintro⟨x0,y0⟩ bE;dsimp only at bE⊢;refine K9 [rbx T n2 x0 y0 [] [] 2,o5 0 b.length,o5 y0 ([]:List Ex).length,.box (⟨pk,im,bs⟩:Src).cells,.box (⟨0,[],[],[]⟩:De).cells,.box (⟨kd,s2,[],[]⟩:De).cells] O ?_;refine p7 ?_;exact⟨(x0,y0),⟨λ_=>bE,λ_ _=>bE,λ_ h=>by rw[ht.2]at h;cases h⟩,tu_,O⟩
     .have ht:¬(e2=0/\(bs.any λd=>(d.k == kd)&&decide (d.name=s2))=true):=λh=>by simp[h.1,h.2]at h6
      refine w9 ?_;exact⟨(a2,e2),⟨λh=>h,λh0 h=>absurd ⟨h0,h⟩ ht,λh0 _=>h0⟩,tu_,O⟩
    .rintro ⟨a3,e3⟩ E4 ⟨p3,p4,p5⟩;dsimp only at p3 p4 p5⊢;refine b0t hCC 6 O (α:=RP5) (λ_=>[(0,.ptr 0 0),(4,.ptr 4 0),(5,.ptr 5 0)]) (λa=>[rbx T a.m a.at_ a.e [] [] 2,o5 0 b.length,o5 a.e ([]:List Ex).length,.dead,.box (⟨0,[],[],[]⟩:De).cells,.box (⟨kd,s2,a.l,[]⟩:De).cells]) (λa=>Ok e3 (a3B T kd n2) a.e (a.l,a.m)/\a.m <T.length/\a.l.length<=9) ?_ ?_
     .
      refine z_0 ?_;refine b8e ?_;refine a5s ?_;refine cC ?_ ?_<;>intro h7
      .have hk:kd=1:=D h7;have hp:a3B T kd n2=L9 T n2:=Q hk;rw[hp];refine z_2 ?_;refine de O a4y o3 (N8 hT y2 hW [40] (q:=0) (s:=2) ⟨O,O,H⟩) O ?_;rintro⟨n4,a4,e4⟩ ⟨q4,y4⟩;dsimp only at q4 y4⊢;refine K9 [rbx T n4 a4 e4 [] [] 2,o5 0 b.length,o5 e4 ([]:List Ex).length,.box (⟨pk,im,bs⟩:Src).cells,.box (⟨0,[],[],[]⟩:De).cells,.box (⟨kd,s2,[],[]⟩:De).cells] O ?_;refine b9q ?_;refine A5 hCC 6 O (α:=RP5) (λ_=>[(0,.ptr 0 0),(4,.ptr 4 0),(5,.ptr 5 0)]) (λa=>[rbx T a.m a.at_ a.e [] [] 2,o5 0 b.length,o5 a.e ([]:List Ex).length,.dead,.box (⟨0,[],[],[]⟩:De).cells,.box [iv kd,(sv s2),.list (a.l.map scv) (gnn a.l.length) (F1 a.l.length 6),.list [] false none],m0 a.l.length]) (λa=>(a.e=0->e3=0/\L9 T n2=a6q T a.m a.l/\n2<a.m/\a.l.length<=8)/\(a.e≠0->e3=0->L9 T n2=none)/\a.m <T.length/\a.l.length<=9) (λa=>if a.e=0 then 10-a.l.length else 0) ⟨⟨[],n4,a4,e4⟩,[0,1,2,3,4,5,10],⟨λh0=>⟨(L1 q4 h0).1,c6V (q4.alive h0).2,by have:=(L1 q4 h0).2;dsimp only;omega,n_5 _⟩,λh0 h3=>by
        subst h3
        rcases q4.zero with⟨h,_⟩|⟨_,h⟩
        .exact absurd h h0
        .rw [L9,h];rfl,y4,n_5 _⟩,⟨O,O⟩,ut_,uq_⟩ ?_
       intro⟨l,m,a5,e⟩ ⟨hI,hN,hm,hl9⟩;dsimp only at hI hN hm hl9⊢;refine c05 ?_;refine cY W2 ?_;refine cY b73 ?_;refine cY (j9 O J O c10 O O) ?_;refine b0b ?_;refine cG C9 ?_;refine b8z (.val (.bool false)) O O J O O (λhg=>c4 O a8M ⟨hg,O,J⟩ (X0 hT hm hW [41] (q:=0) (s:=2) ⟨O,O,H⟩) O ?_) (λhg=>?_)
       .
        obtain rfl:e=0:=D hg;obtain⟨he3,hS,bX,hl8⟩:=hI O;rintro⟨v9,m9⟩ ⟨fx,gM,iT,fz⟩;dsimp only at fx gM iT fz⊢;refine K9 [rbx T m9 a5 0 [] [] 2,o5 0 b.length,o5 0 ([]:List Ex).length,.dead,.box (⟨0,[],[],[]⟩:De).cells,.box [iv kd,(sv s2),.list (l.map scv) (gnn l.length) (F1 l.length 6),.list [] false none],m0 l.length] O ?_;refine cG a2D ?_;refine b0T ?_;refine cC ?_ ?_<;>intro h8
        .have jb:v9=false:=D h8;have hg9:=S9 fx jb;have bA:=iT jb;subst m9;rw[c1L hg9]at hS;refine w9 (J9 ?_);refine O6 (α:=Nat×Int×Int) (λ_=>[(0,.ptr 0 0),(4,.ptr 4 0),(5,.ptr 5 0)]) (λa=>[rbx T a.1 a.2.1 a.2.2 [] [] 2,o5 0 b.length,o5 a.2.2 ([]:List Ex).length,.dead,.box (⟨0,[],[],[]⟩:De).cells,.box [iv kd,(sv s2),.list (l.map scv) (gnn l.length) (F1 l.length 6),.list [] false none],m0 l.length]) (λa=>Ok 0 (b58 T m l) a.2.2 a.1/\a.1 <T.length) ?_ ?_
         .
          refine z_0 ?_;refine b8w ?_;refine a5s ?_;refine cC ?_ ?_<;>intro h9
          .have hl:l≠[]:=by intro hl;subst hl;simp at h9
           refine z_9 ?_;refine de O a4y o3 (N8 hT hm hW [44] (q:=0) (s:=2) ⟨O,O,H⟩) O ?_;rintro⟨n5,a6,e5⟩ ⟨q5,y5⟩;dsimp only at q5 y5⊢;refine K9 [rbx T n5 a6 e5 [] [] 2,o5 0 b.length,o5 e5 ([]:List Ex).length,.dead,.box (⟨0,[],[],[]⟩:De).cells,.box [iv kd,(sv s2),.list (l.map scv) (gnn l.length) (F1 l.length 6),.list [] false none],m0 l.length] O ?_;refine p7 ?_;exact⟨(n5,a6,e5),⟨by rw[b58,W hl];exact q5,y5⟩,tu_,O⟩
          .have hl:l=[]:=by
            cases l with
            |nil=>rfl
            |cons x l=>simp at h9<;>omega
           refine w9 ?_;exact⟨(m,a5,0),⟨by rw[b58,Q hl];exact .some,hm⟩,tu_,O⟩
         .rintro ⟨n5,a6,e5⟩ E5 ⟨q5,y5⟩;dsimp only at q5 y5⊢;refine z_2 ?_;refine ye O a7K ⟨J,J⟩ (a0v hT y5 (q:=0) (s:=2) ⟨O,O,H⟩) O ?_;refine cY a4n ?_;refine z_1 ?_;refine z_2 ?_;refine de O b83 ⟨J,J⟩ (a8u hT y5 hW (q:=0) (s:=2) ⟨O,O,H⟩) O ?_;rintro⟨s6,n6,a7,e6⟩ ⟨q6,y6⟩;dsimp only at q6 y6⊢;have eU:=V9 l s6;refine K9 [rbx T n6 a7 e6 [] [] 2,o5 0 b.length,o5 e6 ([]:List Ex).length,.dead,.box (⟨0,[],[],[]⟩:De).cells,.box [iv kd,(sv s2),.list (l.map scv) (gnn l.length) (F1 l.length 6),.list [] false none],m0 l.length] O ?_;refine z_1 ?_;refine a6r ?_;refine b8w ?_;refine a5s ?_;refine cC ?_ ?_<;>intro bp
          .have h8:l.length=8:=sm_ bp;refine z_9 ?_;refine d3y ?_;rintro⟨x0,y0⟩ bE;dsimp only at bE⊢;refine K9 [rbx T n6 x0 y0 [] [] 2,o5 0 b.length,o5 y0 ([]:List Ex).length,.dead,.box (⟨0,[],[],[]⟩:De).cells,.box [iv kd,(sv s2),.list (l.map scv) (gnn l.length) (F1 l.length 6),.list [] false none],m0 l.length] O ?_;refine a74 ?_;refine b40 ?_;refine ye O d0H i7 (b1v l (gnn l.length) s6 G _) O ?_;refine p7 ?_;refine cC ?_ ?_<;>intro eF
           .refine z_9 ?_;refine d3y ?_;rintro⟨x1,y1⟩ fB;dsimp only at fB⊢;refine e2n ?_;refine C2 ?_;refine b40 ?_;refine cY d5c ?_;refine cD (C8 O J J O U q_3 t_2 t_0 a4M t_3 O (.inr O) q_7 a6h G6 ((l++[s6]).map scv) (l++[s6]).length U U ?_);refine cY b3V ?_;refine c9O ?_;exact⟨⟨l++[s6],n6,x1,y1⟩,[0,1,2,3,4,5,7],⟨by
             dsimp only;rw[W fB,Q O];omega,λh=>absurd h fB,λh _=>(a4G hl8 hS q5 q6 (e4:=y1) (λ_=>fB) (λh h'=>absurd h8 h) (λ_=>fB)).2 h,y6,do_⟩,⟨O,O⟩,ut_,⟨.inr ⟨_,O,.same O a9L⟩,.inr ⟨_,O,.same O W5⟩,.inr ⟨_,O,.same O W5⟩,.inl O,.inr ⟨_,O,.same O (A3 (a3R _))⟩,.inr ⟨_,O,.box ⟨.old (.val _),.old (.val _),C3.grow (f:=scv) (λ_=>⟨.val _,J⟩) O,.old (N9 _ [] _),J⟩⟩,.inr ⟨_,O,.same O B0⟩,J⟩⟩
           .refine w9 (C2 ?_);refine b40 ?_;refine cY d5c ?_;refine cD (C8 O J J O U q_3 t_2 t_0 a4M t_3 O (.inr O) q_7 a6h G6 ((l++[s6]).map scv) (l++[s6]).length U U ?_);refine cY b3V ?_;refine c9O ?_;exact⟨⟨l++[s6],n6,x0,y0⟩,[0,1,2,3,4,5,7],⟨by
             dsimp only;rw[W bE,Q O];omega,λh=>absurd h bE,λh _=>(a4G hl8 hS q5 q6 (e4:=y0) (λ_=>bE) (λh h'=>absurd h8 h) (λ_=>bE)).2 h,y6,do_⟩,⟨O,O⟩,ut_,⟨.inr ⟨_,O,.same O a9L⟩,.inr ⟨_,O,.same O W5⟩,.inr ⟨_,O,.same O W5⟩,.inl O,.inr ⟨_,O,.same O (A3 (a3R _))⟩,.inr ⟨_,O,.box ⟨.old (.val _),.old (.val _),C3.grow (f:=scv) (λ_=>⟨.val _,J⟩) O,.old (N9 _ [] _),J⟩⟩,.inr ⟨_,O,.same O B0⟩,J⟩⟩
          .have h8:¬l.length=8:=sm_ bp;refine b9M ?_;refine z_0 ?_;refine b40 ?_;refine ye O d0H i7 (b1v l (gnn l.length) s6 G _) O ?_;refine p7 ?_;refine cC ?_ ?_<;>intro eG
           .have bO:s6∈l:=D eG;refine z_9 ?_;refine d3y ?_;rintro⟨x1,y1⟩ fB;dsimp only at fB⊢;refine e2n ?_;refine C2 ?_;refine b40 ?_;refine cY d5c ?_;refine cD (C8 O J J O U q_3 t_2 t_0 a4M t_3 O (.inr O) q_7 a6h G6 ((l++[s6]).map scv) (l++[s6]).length U U ?_);refine cY b3V ?_;refine c9O ?_;exact⟨⟨l++[s6],n6,x1,y1⟩,[0,1,2,3,4,5,7],⟨by
             dsimp only;rw[W fB,Q O];omega,λh=>absurd h fB,λh _=>(a4G hl8 hS q5 q6 (e4:=y1) (λ_=>fB) (λ_ h'=>absurd bO h') (λ_=>fB)).2 h,y6,do_⟩,⟨O,O⟩,ut_,⟨.inr ⟨_,O,.same O a9L⟩,.inr ⟨_,O,.same O W5⟩,.inr ⟨_,O,.same O W5⟩,.inl O,.inr ⟨_,O,.same O (A3 (a3R _))⟩,.inr ⟨_,O,.box ⟨.old (.val _),.old (.val _),C3.grow (f:=scv) (λ_=>⟨.val _,J⟩) O,.old (N9 _ [] _),J⟩⟩,.inr ⟨_,O,.same O B0⟩,J⟩⟩
           .have bO:¬s6∈l:=D eG;refine w9 (C2 ?_);refine b40 ?_;refine cY d5c ?_;refine cD (C8 O J J O U q_3 t_2 t_0 a4M t_3 O (.inr O) q_7 a6h G6 ((l++[s6]).map scv) (l++[s6]).length U U ?_);refine cY b3V ?_;refine c9O ?_;exact⟨⟨l++[s6],n6,a7,e6⟩,[0,1,2,3,4,5,7],⟨by
             dsimp only;rw[Q O]
             split<;>omega,λh=>by obtain⟨_,g5,g8,hS'⟩:=(a4G hl8 hS q5 q6 (e4:=e6) (λh=>absurd h (by rintro(h|h)<;>contradiction)) (λ_ _=>O) id).1 h;have:=(b0v q6 h).2.1;have:=d9Z q5 g5;exact⟨he3,hS',do_,do_⟩,λh _=>(a4G hl8 hS q5 q6 (e4:=e6) (λh=>absurd h (by rintro(h|h)<;>contradiction)) (λ_ _=>O) id).2 h,y6,do_⟩,⟨O,O⟩,ut_,⟨.inr ⟨_,O,.same O a9L⟩,.inr ⟨_,O,.same O W5⟩,.inr ⟨_,O,.same O W5⟩,.inl O,.inr ⟨_,O,.same O (A3 (a3R _))⟩,.inr ⟨_,O,.box ⟨.old (.val _),.old (.val _),C3.grow (f:=scv) (λ_=>⟨.val _,J⟩) O,.old (N9 _ [] _),J⟩⟩,.inr ⟨_,O,.same O B0⟩,J⟩⟩
        .have jb:v9=true:=D h8;obtain⟨_,hq9⟩:=V2 (fx.symm.trans jb);have bA:=gM jb;subst m9;rw[c5N hq9]at hS;refine j8 ?_;exact⟨⟨l,m+1,a5,0⟩,[0,1,2,3,4,5],⟨Ok.of (λ_=>⟨he3,hS⟩) λh=>absurd O h,fz,hl9⟩,⟨O,O⟩,ut_,⟨.inr ⟨_,O,.same O a9L⟩,.inr ⟨_,O,.same O W5⟩,.inr ⟨_,O,.same O W5⟩,.inl O,.inr ⟨_,O,.same O (A3 (a3R _))⟩,.inr ⟨_,O,.box ⟨.old (.val _),.old (.val _),a0z (f:=scv) (λ_=>⟨.val _,J⟩) _,.old (N9 _ [] _),J⟩⟩,J⟩⟩
       .
        refine cG a2D ?_;refine b0T ?_;refine cC ?_ ?_<;>intro eH
        .have he:e≠0:=D hg;simp[he]at eH
        .have he:e≠0:=D hg;refine j8 ?_;exact⟨⟨l,m,a5,e⟩,[0,1,2,3,4,5],⟨Ok.of (λh=>absurd h he) (λh h3=>hN h h3),hm,hl9⟩,⟨O,O⟩,ut_,⟨.inr ⟨_,O,.same O a9L⟩,.inr ⟨_,O,.same O W5⟩,.inr ⟨_,O,.same O W5⟩,.inl O,.inr ⟨_,O,.same O (A3 (a3R _))⟩,.inr ⟨_,O,.box ⟨.old (.val _),.old (.val _),a0z (f:=scv) (λ_=>⟨.val _,J⟩) _,.old (N9 _ [] _),J⟩⟩,J⟩⟩
      .have hk:¬kd=1:=D h7;have hp:a3B T kd n2=some ([],n2):=W hk;refine w9 ?_;exact⟨⟨[],n2,a3,e3⟩,[0,1,2,3,4,5],⟨by rw[hp];exact .some,y2,n_5 _⟩,⟨O,O⟩,ut_,uq_⟩
     .rintro ⟨l,m,a5,e5⟩ ⟨q5,y5,hl9⟩;dsimp only at q5 y5 hl9⊢;have bx:a0j T l:=⟨hT,hW,hc.l,G,hc.nn⟩;refine z_2 ?_;refine e05 ?_;refine cY W2 ?_;refine cY (j3 O J O b55 O a23 H) ?_;refine c9O ?_;refine z_2 ?_;refine de O a4y o3 (N8 hT y5 hW [61] (q:=0) (s:=2) ⟨O,O,H⟩) O ?_;rintro⟨n6,a6,e6⟩ ⟨q6,y6⟩;dsimp only at q6 y6⊢;refine K9 [rbx T n6 a6 e6 l [] 2,o5 0 b.length,o5 e6 ([]:List Ex).length,.dead,.box (⟨0,[],[],[]⟩:De).cells,.box (⟨kd,s2,l,[]⟩:De).cells] O ?_;refine a82 ?_;refine de O b9f o3 ((d9I bx (8*T.length+6)).1 1 n6 a6 e6 [] y6 (n_5 _) H (λ_=>by omega) _ 0 2 ⟨O,O,H⟩) O ?_;rintro⟨x7,n7,a7,e7,b7⟩ ⟨k7,y7,w7,z7,l7,u7⟩;dsimp only at k7 y7 w7 z7 l7 u7⊢;refine K9 [rbx T n7 a7 e7 l b7 6,o5 0 b.length,.dead,.dead,.box (⟨0,[],[],[]⟩:De).cells,.box (⟨kd,s2,l,[]⟩:De).cells,o5 e7 b7.length] O ?_;refine a82 ?_;refine de O a4y o3 (N8 hT y7 hW [59] (q:=0) (s:=6) ⟨O,O,H⟩) O ?_;rintro⟨n8,a8,e8⟩ ⟨q8,y8⟩;dsimp only at q8 y8⊢;refine K9 [rbx T n8 a8 e8 l b7 6,o5 0 b.length,.dead,.dead,.box (⟨0,[],[],[]⟩:De).cells,.box (⟨kd,s2,l,[]⟩:De).cells,o5 e8 b7.length] O ?_;refine a82 ?_;refine cY W2 ?_;refine cY c5i ?_;refine cY c4s ?_;refine cY d8e ?_;refine cD (j1 O J J O j2 b1B (.inl O) O O (nb O) ?_);refine a7E ?_;refine cY a9Z ?_;refine d5V ?_;refine c6 ?_;exact⟨_,B1 O c8b,(by exact⟨⟨⟨kd,s2,l,b7⟩,n8,a8,e8,l,b7⟩,c3A (k:=6) O O H (λ_=>c1F _ _ _ _ _),⟨d6z hu1 hkd p1 p2 q2 p3 p4 p5 q5 q6 k7 q8,y8,w7,λh0=>d6E hkd p1 p2 q2 p3 p4 p5 q5 q6 k7 z7 q8 h0⟩⟩)⟩
theorem d4U{ps:List I}(hc:a0j T [])(pk:I)(im:List I)(bs:List De)(hbs:bs.length<=64){at_:Int}{b:List Ex}(hn:n<T.length){s:Nat}(ao:RAt σ q s T n at_ 0 ps b):b8 CC 179 [.ptr q 0,.agg (⟨pk,im,bs⟩:Src).cells] σ λr τ=>∃a:RD5,r= .ret (.agg a.d.cells)/\τ=rS1 σ q s T a.n a.at_ a.e a.ps a.b/\RDP T bs n a:=
 c1b (c:=λa:RD5=>.agg a.d.cells) (N:=λa=>a.n) (A:=λa=>a.at_) (E:=λa=>a.e) (Z:=λa=>a.ps) (B:=λa=>a.b) (λ_ h=>by simp at h;subst h;exact o0 (Src.pure _)) (λa=>o0 a.d.pure) (d0g hc pk im bs hbs n at_ b hn) ao
theorem b2H(s:I):∀(n f f' i:Nat),s.length -i<n->i<=s.length->s.length <f+i->s.length <f'+i->a0C f s i=a0C f' s i
 |0,_,_,_,h,_,_,_=>by omega
 |n+1,f,f',i,h,hi,hf,gR=>by
  obtain⟨f,rfl⟩:∃g,f=g+1:=⟨f-1,G⟩;obtain⟨f',rfl⟩:∃g,f'=g+1:=⟨f'-1,G⟩;have h1:=(a12 (s:=s) (a:=i) (ks:=[5]) hi);rw[a0C,a0C];cases hb:s[A2 s i [5]]? with
  |none=>rfl
  |some b=>
   have af:=(n_2.1 hb).1;simp only;by_cases h6:l9 b.toNat=6
   .rw [Q h6,Q h6];have h2:=b2s hb h6;have h3:=a8y (s:=s) (a:=A2 s i [5]) G;exact b2H s n f f' _ G h3 G G
   .rw [W h6,W h6];by_cases h4:(D5 s (A2 s i [5]) b).2.2≠0
    .rw [Q h4,Q h4]
    .rw [W h4,W h4];obtain⟨e,he,h5,h7⟩:=a5Z hb h4;rw[he,a3N];rw[b2H s n f f' e G h7 G G]
def a6j(s:I)(i:Nat):Option (List Tok):=a0C (s.length+1-i) s i
theorem a3V(hi:i<=s.length)(hf:s.length <f+i):a0C f s i=a6j s i:=b2H s (s.length+1-i) f _ i G hi hf G
theorem d2i(s:I):a3p s=if 16384<s.length then none else a6j s 0:=by
 unfold a3p
 split
 .rfl
 .exact a3V (n_5 _) G
theorem d1A(h:i=s.length):a6j s i=some [⟨5,[],0,(i:Nat)⟩]:=by
 subst h;unfold a6j;rw[show s.length+1-s.length=0+1 by omega,b9S (a86 (n_6 _)).symm (n_6 _)]
theorem c2q{b:UInt8}(h:s[i]?=some b)(hk:l9 b.toNat=5):a6j s i=a6j s (i+1):=by
 have af:=(n_2.1 h).1;rw[<- a3V (f:=s.length+1) G G,<- a3V (f:=s.length+1) (i:=i+1) G G];have:A2 s i [5]=A2 s (i+1) [5]:=by rw[W7 h,Q (by simp[inK,hk])]
 rw[a0C,a0C,this]
theorem d0x{b:UInt8}(h:s[i]?=some b)(hk:l9 b.toNat=6):a6j s i=a6j s (R3 s i):=by
 have af:=(n_2.1 h).1;have h1:i=A2 s i [5]:=by rw[W7 h,W (by simp[inK,hk])]
 have h3:=a8y (s:=s) (a:=i) G;rw[<- a3V (f:=s.length+1+1) (i:=i) G G,b7i h1 h hk];exact a3V h3 G
theorem d2T{b:UInt8}(h:s[i]?=some b)(h5:l9 b.toNat≠5)(h6:l9 b.toNat≠6):a6j s i=if(D5 s i b).2.2≠0 then none else(a6j s (D5 s i b).2.1.toNat).map (({(D5 s i b).1 with at_:=(i:Nat)}:Tok)::·):=by
 have af:=(n_2.1 h).1;have h1:i=A2 s i [5]:=by rw[W7 h,W (by simp[inK,h5])]
 rw[<- a3V (f:=s.length+1+1) (i:=i) G G];by_cases h4:(D5 s i b).2.2≠0
 .rw [b7X h1 h h6 h4,Q h4]
 .obtain ⟨e,he,h7,h8⟩:=a5Z h h4;rw[b7N h1 h h6 h4,W h4,he,a3N];rw[a3V h8 G]
def SkP(s:I)(i n:Nat):Prop:=i<=n/\n<=s.length/\a6j s i=a6j s n/\∀b,s[n]?=some b->l9 b.toNat≠5/\l9 b.toNat≠6
theorem c4X(b:UInt8):(((((b.toNat:Int) == 32) ||((b.toNat:Int) == 9)) ||((b.toNat:Int) == 10)) ||((b.toNat:Int) == 13))=decide (l9 b.toNat=5):=by
 generalize (b.toNat:Int)=c;by_cases h:c=9\/c=10\/c=13\/c=32
 .unfold l9;rw[W G,W G,W G,W G,Q h]
  rcases h with h|h|h|h<;>subst h<;>rfl
 .have hk:l9 c≠5:=by
   unfold l9
   repeat' split
   all_goals omega
  rw[a3U hk];simp;omega
theorem c9J(b:UInt8):((b.toNat:Int) == 35)=decide (l9 b.toNat=6):=by
 generalize (b.toNat:Int)=c;by_cases h:c=35
 .subst h;rfl
 .have hk:l9 c≠6:=by
   unfold l9
   repeat' split
   all_goals omega
  rw[a3U hk];simpa using h
theorem c9f{b:UInt8}(h:s[a]?=some b)(hb:b≠10):R3 s a=R3 s (a+1):=by
 obtain⟨af,rfl⟩:=n_2.1 h;unfold R3;rw[Y0 af,b8U,Q (D hb),D3];omega
theorem d3L{b:UInt8}(h:s[a]?=some b)(hb:b=10):R3 s a=a:=by
 obtain⟨af,rfl⟩:=n_2.1 h;unfold R3;rw[Y0 af,b8U,W (D hb)];rfl
theorem c5D(h:s.length<=a):R3 s a=a:=by
 unfold R3;rw[Y4 h];rfl
theorem d7M{b:UInt8}:((b.toNat:Int)=10)↔b=10:=by
 constructor
 .intro h;have:b.toNat=(10:UInt8).toNat:=by have e:(10:UInt8).toNat=10:=O;omega
  exact b8i.1 this
 .rintro rfl;rfl
theorem d2x(s:I)(hs:s.length<=1000000000)(i:Nat)(hi:i<=s.length):b8 CC 220 [(sv s),iv i] [] λr τ=>∃n:Nat,r= .ret (iv n)/\τ=[]/\SkP s i n:=by
 refine qO Tryz.func220 ?_;refine o4 hCC (λn:Nat=>[(0,(sv s)),(1,iv n)]) (λ_=>[]) (λn=>i<=n/\n<=s.length/\a6j s i=a6j s n) (λn=>s.length -n) i ⟨n_6 _,hi,O⟩ tu_ (am:=[]) O B5 uz_ ?_;intro n ⟨bO,hn,hr⟩;refine a7d ?_;refine qC ?_ ?_<;>intro h1
 .have af:n<s.length:=sm_ h1;obtain⟨b,hb⟩:∃b,s[n]?=some b:=⟨s[n]'af,U⟩;refine qY b7A ?_;refine a4A ?_;refine qG e0W ?_;refine a8q ?_;refine a4A ?_;refine qG e0W ?_;refine a8q ?_;refine a4A ?_;refine qG e0W ?_;refine a8q ?_;refine qC ?_ ?_<;>intro h2
  .have hk:l9 b.toNat=5:=by rw[c4X]at h2;simpa using h2
   refine qY o7 ?_;exact⟨(n+1),_,⟨G,G,G,by rw[hr,c2q hb hk]⟩,tu_,O⟩
  .have hk5:l9 b.toNat≠5:=by rw[c4X]at h2;simpa using h2
   refine qY b7A ?_;refine qC ?_ ?_<;>intro h3
   .have hk6:l9 b.toNat=6:=by rw[c9J]at h3;simpa using h3
    have aM:=b2s hb hk6;have da:=a8y (s:=s) (a:=n) G;refine o4 hCC (λm:Nat=>[(0,(sv s)),(1,iv m)]) (λ_=>[]) (λm=>n<=m/\m<=s.length/\R3 s n=R3 s m) (λm=>s.length -m) n ⟨n_6 _,hn,O⟩ tu_ (am:=[]) O B5 uz_ ?_;intro m ⟨bX,hm,aW⟩;obtain⟨c,hc⟩:∃c:UInt8,m<s.length->s[m]?=some c:=by
     by_cases hlm:m<s.length
     .exact ⟨s[m],λ_=>by simp[hlm]⟩
     .exact ⟨0,λh=>absurd h hlm⟩
    refine a7d ?_;refine b42 ?_;refine qC ?_ ?_<;>intro h4
    .have h4':m<s.length/\¬(c.toNat:Int)=10:=D h4;have hcm:=hc h4'.1;have hc10:c≠10:=λe=>h4'.2 (d7M.2 e);refine qY o7 ?_;exact⟨(m+1),_,⟨G,G,G,by rw[aW,c9f hcm hc10]⟩,tu_,O⟩
    .have bw:R3 s n=m:=by
      rw[aW];by_cases hlm:m<s.length
      .have h4':(c.toNat:Int)=10:=by
        have:m<s.length->(c.toNat:Int)=10:=D h4;exact this hlm
       exact d3L (hc hlm) (d7M.1 h4')
      .exact c5D G
     refine j8 ?_;exact⟨m,_,⟨G,G,G,by rw[hr,d0x hb hk6,bw]⟩,tu_,O⟩
   .have hk6:l9 b.toNat≠6:=by rw[c9J]at h3;simpa using h3
    refine c6 ?_;exact⟨_,rE1,⟨n,O,O,bO,hn,hr,λb' hb'=>by rw[hb]at hb';injection hb' with hb';subst hb';exact⟨hk5,hk6⟩⟩⟩
 .have aH:n=s.length:=sm_ h1;refine a0i ?_;exact⟨_,rE1,⟨n,O,O,bO,hn,hr,λb hb=>by have:=(n_2.1 hb).1;omega⟩⟩
theorem c44(s:I)(hs:s.length<=1000000000)(i:Nat)(hi:i<=s.length)(σ:List b9):b8 CC 220 [(sv s),iv i] σ λr τ=>∃n:Nat,r= .ret (iv n)/\τ=σ/\SkP s i n:=
 d8g (c:=λn:Nat=>(iv n)) hCC (λa h=>by simp at h;rcases h with rfl|rfl<;>exact .val _) (λ_=>.val _) ((d2x s hs i hi).mono λr τ ⟨n,h1,h2,h3⟩=>⟨n,by rw[h1];exact d5K (.old (.val _)),h3⟩) σ
def addDs(me:EM)(path pkg:I):List De->Nat->EM
 | [],_=>me
 |d::ds,k=>addDs (a0l me ⟨pkg,d.name,d.k,path,(k:Int),1⟩) path pkg ds (k+1)
abbrev WS:=List I×SM×EM
def S5(s:WS)(f:Fi):WS:=if a4v f.p=true then(match O5 f.b with|none=>(s.1++[f.p],s.2.1,s.2.2)|some x=>(s.1,L5 s.2.1 f.p x,addDs s.2.2 f.p x.pkg x.decls 0))else s
def a4I(fl:List Fi)(s:WS):WS:=fl.foldl S5 s
def A6(fl:List Fi):WS:=if C7 fl=0 then a4I fl ([],[],[])else([],[],[])
def CtB(n:Nat)(me:EM):Prop:=∀k e,glk me k=some e->0<=e.ct/\e.ct<=(n:Int)
theorem CtB.add(h:CtB n me){x:En}(hx:x.ct=1):CtB (n+1) (a0l me x):=λk e he=>by
 rw[a0l,G8]at he;split at he
 .injection he with he
  subst he;cases hg:glk me (C0 x.k x.p x.o)with
  |none=>simp only;omega
  |some f=>have:=h _ _ hg;simp only;omega
 .have:=h _ _ he;omega
theorem CtB.nil(n:Nat):CtB n []:=λk e h=>by cases h
theorem CtB.mono{m:Nat}(h:CtB n me)(bX:n<=m):CtB m me:=λk e he=>by have:=h k e he;omega
theorem a3Q{path pkg:I}{l:List De}{k:Nat}{d:De}(h:l[k]?=some d):addDs me path pkg (l.drop k) k=addDs (a0l me ⟨pkg,d.name,d.k,path,(k:Int),1⟩) path pkg (l.drop (k+1)) (k+1):=by
 obtain⟨af,rfl⟩:=n_2.1 h;rw[Y0 af,addDs]
theorem c6e{l:List Fi}{f:Fi}(h:l[i]?=some f)(s:WS):a4I (l.drop i) s=a4I (l.drop (i+1)) (S5 s f):=by
 obtain⟨af,rfl⟩:=n_2.1 h;unfold a4I;rw[Y0 af,b4Z]
theorem c4T:∀{pv:Option Fi} {l:List Fi},rvE pv l=0->∀f∈l,F8 f.p=true/\f.b.length<=16384
 |_,[],_,f,h=>by cases h
 |pv,x::l,h0,f,h=>by
  rw[rvE]at h0;split at h0
  .rename_i hs
   rcases J2.1 h with rfl|h
   .unfold J6 at hs;split at hs
    .cases hs
    .rename_i hp;split at hs
     .cases hs
     .split at hs
      .cases hs
      .split at hs
       .cases hs
       .exact ⟨D hp,G⟩
   .exact c4T h0 f h
  .rename_i hs;exact absurd h0 hs
theorem a7q{l:List Fi}(h:C7 l=0):l.length<=64/\∀f∈l,F8 f.p=true/\f.b.length<=16384:=by
 unfold C7 at h;split at h
 .cases h
 .exact ⟨G,c4T h⟩
theorem b2b:∀(f:Nat) {T:List Tok} {n:Nat} {l:List De} {x:List De×Nat},T0 f T n l=some x->x.1.length+1<=l.length+f
 |0,T,n,l,x,h=>by cases h
 |f+1,T,n,l,x,h=>by
  rw[T0]at h;split at h
  .injection h with h;subst h;simp only;omega
  .cases hd:a0F T l n with
   |none=>rw[hd]at h;cases h
   |some y=>
    rw[hd,n_9]at h;have:=b2b f h;rw[n_8,c0i]at this;omega
theorem b3W{x:Src}(h:a1e T=some x):x.decls.length<=64:=by
 unfold a1e at h;cases h1:pIs T 0 1 [112,97,99,107,97,103,101]with
 |none=>rw[h1]at h;cases h
 |some n1=>
  rw[h1,n_9]at h;cases h2:K3 T n1 with
  |none=>rw[h2]at h;cases h
  |some w=>
   rw[h2,n_9]at h;cases h3:pIs T w.2 4 [59]with
   |none=>rw[h3]at h;cases h
   |some n2=>
    rw[h3,n_9]at h;cases h4:a1x 9 T w.1.t n2 []with
    |none=>rw[h4]at h;cases h
    |some y=>
     rw[h4,n_9]at h;cases h5:T0 65 T y.2 []with
     |none=>rw[h5]at h;cases h
     |some z=>
      rw[h5,n_9]at h;injection h with h
      subst h;have:=b2b _ h5;simp only[K8]at this⊢;omega
theorem c0T{x:Src}(h:O5 s=some x):x.decls.length<=64:=by
 unfold O5 at h;cases h1:a3p s with
 |none=>rw[h1]at h;cases h
 |some T=>rw[h1,n_9]at h;exact b3W h
theorem c9D{va:Bool}{br:List I}{ms:SM}{w q1 q2 t:Nat}(ao:WAt σ w q1 q2 t fl nn va br ms me)(x:En)(cw:∀k e,glk me k=some e->0<=e.ct/\e.ct<=1000000):b8 CC 81 [.ptr w 0,.agg x.cells] σ λr τ=>∃_:Unit,r= .ret (.tup [])/\τ=b2j σ [w,q1,q2,t] [wbx fl nn va br q1 q2 t,smO ms,emO (a0l me x),m0 br.length]/\True:=
 b59 (α:=Unit) (obs:=wst fl nn va br ms me) (res:=λ_=>.ret (.tup [])) (res':=λ_=>.ret (.tup [])) (S:=λ_=>wst fl nn va br ms (a0l me x)) (S':=λ_=>[wbx fl nn va br q1 q2 t,smO ms,emO (a0l me x),m0 br.length]) (P:=λ_=>True) [w,q1,q2,t] hCC O ao.nd (λi k ob h1 h2=>by
  obtain⟨aL,_,h3,h4⟩:=b9X ao i k ob h1 h2;exact⟨aL,h3,h4.symm λ_ _ h=>h⟩) (.cons (.ptr O) (H9 λa ha=>by simp at ha;subst ha;exact En.pure x)) (K2 hCC ((c61 fl nn va br ms me x cw).mono λr τ h=>⟨_,_,h,(),O,O,J⟩)) Y1 (λ_ i k y h1 h2=>by
  rcases i with _|_|_|_|i
  .injection h2 with h2;subst h2;exact⟨_,O,b5b O O O⟩
  .injection h2 with h2;subst h2;exact⟨_,O,a8Q b0z a7B _⟩
  .injection h2 with h2;subst h2;exact⟨_,O,a8Q Nm.pure En.pure _⟩
  .injection h2 with h2;subst h2;exact⟨_,O,a15 _⟩
  .cases h2) λ_=>.ret (.pure (C5 trivial))
theorem d6g(fl:List Fi)(nn:Bool)(hl:∀f∈fl,f.p.length<=1000000000):b8 CC 39 [.agg (A0 fl nn)] [] λr τ=>F0 0 τ r (.ret (.ptr 0 0)) (wst fl nn (C7 fl == 0) (A6 fl).1 (A6 fl).2.1 (A6 fl).2.2):=by
 refine cO Tryz.func39 ?_;refine b3h ?_;refine b0t hCC 1 O (α:=Unit) (λ_=>[(1,.ptr 0 0),(3,.ptr 3 0)]) (λ_=>[.box (A0 fl nn),.map [],.map [],.box [.list (fl.map Fi.cv) nn none,.val (.bool (C7 fl == 0)),.map 1,.list [] false none,.map 2]]) (λ_=>True) ?_ λ_ _=>?_
 .refine d5X [0,0,2,6,0,0,63,127,255] [0,1,2,3] (f:=5) o9 o9 O ?_;refine chf O d0I ?_;refine chf O d0I ?_;refine chf O (c8 O c4P) ?_;refine chf O (c8 O a0c) ?_;refine H4 ?_;refine e3t (i:=4) (i':=5) o9 O O O O (R9 O ?_) (R9 O ?_)
  .refine ⟨⟨λ_=>by exact c8 O a8m,λ_=>by exact c8 O a8m,λ_=>by exact c8 O c4P,λ_=>by exact c8 O a0c,J⟩,?_⟩;refine d9K (i:=5) o9 O O (R9 O ?_);refine d7V ?_;refine d8a ?_;refine d9u (i:=8) o9 O b2Q ?_;exact⟨by kernel_rfl,(),[0,1,2,3],J,⟨O,O⟩,⟨⟨J,.ptr O⟩,⟨J,.ptr O⟩,J⟩,.inr ⟨_,O,.same O a0G⟩,.inr ⟨_,O,.same O (λx hx=>by cases hx)⟩,.inr ⟨_,O,.same O (λx hx=>by cases hx)⟩,.inr ⟨_,O,.box ⟨.old a0u,.old (.val _),.map O,.old a2y,.map O,J⟩⟩,J⟩
  .refine ⟨⟨λ_=>by exact c8 O a8m,λ_=>by exact c8 O a8m,λ_=>by exact c8 O c4P,λ_=>by exact c8 O a0c,J⟩,?_⟩;refine d9K (i:=4) o9 O O (R9 O ?_);refine d7V ?_;refine d8a ?_;refine d9u (i:=8) o9 O b2Q ?_;exact⟨by kernel_rfl,(),[0,2,1,3],J,⟨O,O⟩,⟨⟨J,.ptr O⟩,⟨J,.ptr O⟩,J⟩,.inr ⟨_,O,.same O a0G⟩,.inr ⟨_,O,.same O (λx hx=>by cases hx)⟩,.inr ⟨_,O,.same O (λx hx=>by cases hx)⟩,.inr ⟨_,O,.box ⟨.old a0u,.old (.val _),.map O,.old a2y,.map O,J⟩⟩,J⟩
 refine qk (qC ?_ ?_)<;> intro h1
 .have hv:¬C7 fl=0:=D h1;refine c6 ?_;exact⟨_,rE1,(by rw[A6,W hv];exact⟨[3,1,2,9],O,O,.ret (.ptr O),.inr ⟨_,O,.box ⟨.old a0u,.old (.val _),.map O,.old a2y,.map O,J⟩⟩,.inr ⟨_,O,.same O X4⟩,.inr ⟨_,O,.same O Y2⟩,.inl O,J⟩)⟩
 .have hv:C7 fl=0:=D h1;obtain⟨bK,hfa⟩:=a7q hv;have ah:A6 fl=a4I fl ([],[],[]):=by rw[A6,Q hv]
  refine qY a08 ?_;refine A5 hCC 4 O (α:=Nat×WS) (λx=>[(3,.ptr 3 0),(26,(.list (fl.map Fi.cv) nn none)),(27,iv fl.length),(28,iv x.1)]) (λx=>[.box (A0 fl nn),smO x.2.2.1,emO x.2.2.2,wbx fl nn (C7 fl == 0) x.2.1 1 2 4,m0 x.2.1.length]) (λx=>x.1<=fl.length/\x.2.1.length<=x.1/\CtB (64*x.1) x.2.2.2/\A6 fl=a4I (fl.drop x.1) x.2) (λx=>fl.length -x.1) ⟨(0,[],[],[]),[0,1,2,3,9],⟨n_5 _,n_5 _,CtB.nil _,ah⟩,⟨O,O⟩,ut_,⟨.inr ⟨_,O,.same O a0G⟩,.inr ⟨_,O,.same O X4⟩,.inr ⟨_,O,.same O Y2⟩,.inr ⟨_,O,.box ⟨.old a0u,.old (.val _),.map O,.old a2y,.map O,J⟩⟩,.inl O,J⟩⟩ ?_;intro⟨i,br,ms,me⟩ ⟨hi,hbr,cw,hr⟩;dsimp only at hi hbr cw hr⊢;refine qk (qC ?_ ?_)<;> intro h2
  .have af:(i:Int)<fl.length:=D h2;obtain⟨y,hb⟩:=gx_ fl i;have hy:=hfa y (n_3 hb);have fj:=hl y (n_3 hb);rw[c6e hb,S5]at hr;refine b9y ?_;refine qY (c5 O Tryz.call79 ⟨J,J⟩ (b3d y.p fj _) O) ?_;refine qC ?_ ?_<;>intro h3
   .have u3:¬a4v y.p=true:=D h3;rw[W u3]at hr;refine b39 ?_;exact⟨(i+1,br,ms,me),[0,1,2,3,4],⟨do_,do_,do_,cw.mono G,hr⟩,⟨O,O⟩,ut_,⟨.inr ⟨_,O,.same O a0G⟩,.inr ⟨_,O,.same O X4⟩,.inr ⟨_,O,.same O Y2⟩,.inr ⟨_,O,.box ⟨.old a0u,.old (.val _),.map O,C3.grow (f:=scv) (λ_=>⟨.val _,J⟩) O,.map O,J⟩⟩,.inr ⟨_,O,.same O B0⟩,J⟩⟩
   .have u3:a4v y.p=true:=D h3;rw[Q u3]at hr;refine qD (c4 O Tryz.call80 ⟨J,J⟩ (d3P y.b G _) O ?_);rintro⟨x,at_,e⟩ hP;dsimp only at hP⊢;refine d2Y ?_;refine cC ?_ ?_<;>intro h4
    .have he:e≠0:=D h4;have cj:O5 y.b=none:=by
      rcases hP with⟨_,_,g⟩|⟨g,_⟩
      .exact absurd g he
      .exact g
     rw[cj]at hr;simp only at hr;have eU:=V9 br y.p;refine qk ?_;refine cF [] [0,1,2,3,4,5,6,7] (tl:=[(8,[0]),(9,[]),(10,[]),(11,[])]) ?_;refine chf O S8 ?_;refine a7n ?_;refine chf O (c8 O (j3 O J O c0O O a23 H)) ?_;refine chf O c97 ?_;refine b4E ?_;refine chf O e2R ?_;refine H4 ?_;refine B6 O O O (C8 O J J O U q_3 t_2 t_0 a4M t_3 O (.inr O) q_7 a6h G6 ((br++[y.p]).map scv) (br++[y.p]).length U U ?_);refine c4x ?_;refine E8 O O (c8 O (j3 O J O c0O O a23 H)) ⟨J,?_⟩;refine B6 O O O (j1 O J J O j2 a23 (.inl O) O O (nb O) ?_);refine a9k ?_;refine b39 ?_;exact⟨(i+1,br++[y.p],ms,me),[0,1,2,3,7],⟨do_,do_,do_,cw.mono G,hr⟩,⟨O,O⟩,ut_,⟨.inr ⟨_,O,.same O a0G⟩,.inr ⟨_,O,.same O X4⟩,.inr ⟨_,O,.same O Y2⟩,.inr ⟨_,O,.box ⟨.old a0u,.old (.val _),.map O,C3.grow (f:=scv) (λ_=>⟨.val _,J⟩) O,.map O,J⟩⟩,.inr ⟨_,O,.same O B0⟩,J⟩⟩
    .have he:e=0:=D h4;have cj:O5 y.b=some x:=by
      rcases hP with⟨g,_⟩|⟨_,_,g⟩
      .exact g
      .exact absurd he g
     rw[cj]at hr;simp only at hr;have dT:=c0T cj;refine qk ?_;refine cW 7 ?_;refine a2W ?_;refine hY b2F ?_;refine hY b1t ?_;refine hY c4t ?_;refine hY M6 ?_;refine hY c9s ?_;refine a0T ?_;refine qD (k8 (vc:=vcS) (l:=ms) (a:=y.p) (b:=x) b5Y (.inl O) J J trivial O O O b7w O ?_);refine qY a6w ?_;refine A5 hCC 7 O (α:=Nat×EM) (λz=>[(3,.ptr 3 0),(26,(.list (fl.map Fi.cv) nn none)),(27,iv fl.length),(28,iv i),(5,.ptr 5 0),(6,.ptr 6 0),(64,(.list (x.decls.map De.cv) (gnn x.decls.length) none)),(65,iv x.decls.length),(66,iv z.1)]) (λz=>[.box (A0 fl nn),smO (L5 ms y.p x),emO z.2,wbx fl nn (C7 fl == 0) br 1 2 4,m0 br.length,.box y.cells,.box x.cells]) (λz=>z.1<=x.decls.length/\CtB (64*i+z.1) z.2/\addDs me y.p x.pkg x.decls 0=addDs z.2 y.p x.pkg (x.decls.drop z.1) z.1) (λz=>x.decls.length -z.1) ⟨(0,me),[0,1,2,3,4,5,6],⟨n_5 _,cw,O⟩,⟨O,O⟩,ut_,⟨.inr ⟨_,O,.same O a0G⟩,.inr ⟨_,O,.same O X4⟩,.inr ⟨_,O,.same O Y2⟩,.inr ⟨_,O,.box ⟨.old a0u,.old (.val _),.map O,C3.grow (f:=scv) (λ_=>⟨.val _,J⟩) O,.map O,J⟩⟩,.inr ⟨_,O,.same O B0⟩,.inr ⟨_,O,.same O b0Z⟩,.inr ⟨_,O,.same O a6G⟩,J⟩⟩ ?_;intro⟨k,me2⟩ ⟨hk,hct2,aW⟩;dsimp only at hk hct2 aW⊢;refine qk (qC ?_ ?_)<;> intro h5
     .have fC:(k:Int)<x.decls.length:=D h5;obtain⟨d,hd⟩:=gx_ x.decls k;rw[a3Q hd]at aW;refine qY c22 ?_;refine c1n ?_;refine qY (A1 #[(0,1),(1,1),(2,1),(3,1),(4,1),(5,1)] O ⟨J,J,J,J,J,O,J⟩ b5g a1q O ⟨_,O⟩ (λw=>by kernel_rfl) O O) ?_;refine qD (c4 O Tryz.call81 i7 (c9D (w:=3) (q1:=1) (q2:=2) (t:=4) ⟨O,O,O,O,a1s H⟩ ⟨x.pkg,d.name,d.k,y.p,(k:Int),1⟩ (λa b h=>by have:=hct2 a b h;omega)) O ?_);rintro _ _;refine qN [.box (A0 fl nn),smO (L5 ms y.p x),emO (a0l me2 ⟨x.pkg,d.name,d.k,y.p,(k:Int),1⟩),wbx fl nn (C7 fl == 0) br 1 2 4,m0 br.length,.box y.cells,.box x.cells,.box d.cells] O (qY o7 ?_);exact⟨(k+1,a0l me2 ⟨x.pkg,d.name,d.k,y.p,(k:Int),1⟩),[0,1,2,3,4,5,6],⟨do_,do_,(hct2.add O).mono G,aW⟩,⟨O,O⟩,ut_,⟨.inr ⟨_,O,.same O a0G⟩,.inr ⟨_,O,.same O X4⟩,.inr ⟨_,O,.same O Y2⟩,.inr ⟨_,O,.box ⟨.old a0u,.old (.val _),.map O,C3.grow (f:=scv) (λ_=>⟨.val _,J⟩) O,.map O,J⟩⟩,.inr ⟨_,O,.same O B0⟩,.inr ⟨_,O,.same O b0Z⟩,.inr ⟨_,O,.same O a6G⟩,J⟩⟩
     .have fC:x.decls.length<=k:=sm_ h5;rw[Y4 fC,addDs]at aW;refine b39 ?_;exact⟨(i+1,br,L5 ms y.p x,me2),[0,1,2,3,4],⟨do_,do_,do_,hct2.mono G,by rw[hr,aW]⟩,⟨O,O⟩,ut_,⟨.inr ⟨_,O,.same O a0G⟩,.inr ⟨_,O,.same O X4⟩,.inr ⟨_,O,.same O Y2⟩,.inr ⟨_,O,.box ⟨.old a0u,.old (.val _),.map O,C3.grow (f:=scv) (λ_=>⟨.val _,J⟩) O,.map O,J⟩⟩,.inr ⟨_,O,.same O B0⟩,J⟩⟩
  .have aH:fl.length<=i:=sm_ h2;rw[Y4 aH,a4I,List.foldl_nil]at hr;refine a0i ?_;exact⟨_,rE1,(by rw[hr];exact⟨[3,1,2,4],O,O,.ret (.ptr O),.inr ⟨_,O,.box ⟨.old a0u,.old (.val _),.map O,C3.grow (f:=scv) (λ_=>⟨.val _,J⟩) O,.map O,J⟩⟩,.inr ⟨_,O,.same O X4⟩,.inr ⟨_,O,.same O Y2⟩,.inr ⟨_,O,.same O B0⟩,J⟩)⟩
abbrev e2Q(fl:List Fi)(nn va:Bool)(br:List I)(ms:SM)(me:EM)(n:Nat):List b9:=[wbx fl nn va br (n+1) (n+2) (n+3),smO ms,emO me,m0 br.length]
theorem c9Q(fl:List Fi)(nn:Bool)(hl:∀f∈fl,f.p.length<=1000000000)(σ:List b9):b8 CC 39 [.agg (A0 fl nn)] σ λr τ=>∃_:Unit,r= .ret (.ptr σ.length 0)/\τ=σ++e2Q fl nn (C7 fl == 0) (A6 fl).1 (A6 fl).2.1 (A6 fl).2.2 σ.length/\True:=
 a6U (α:=Unit) hCC (λa ha=>by simp at ha;subst ha;exact o0 ⟨D9 _ _,J⟩) (res:=λ_=>.ret (.ptr 0 0)) (res':=λ_ n=>.ret (.ptr n 0)) (S:=λ_=>wst fl nn (C7 fl == 0) (A6 fl).1 (A6 fl).2.1 (A6 fl).2.2) (S':=λ_ n=>e2Q fl nn (C7 fl == 0) (A6 fl).1 (A6 fl).2.1 (A6 fl).2.2 n) (P:=λ_=>True) (K2 hCC ((d6g fl nn hl).mono λr τ h=>⟨_,_,h,(),O,O,J⟩)) (λ_ _=>O) (λ_ n i x h=>by
  rcases i with _|_|_|_|i
  .injection h with h;subst h;exact⟨_,O,b5b O O O⟩
  .injection h with h;subst h;exact⟨_,O,a8Q b0z a7B _⟩
  .injection h with h;subst h;exact⟨_,O,a8Q Nm.pure En.pure _⟩
  .injection h with h;subst h;exact⟨_,O,a15 _⟩
  .cases h) (λ_ n=>.ret (.ptr O)) σ
theorem b50:∀a:I,Op.bytesLess a a=false
 | []=>rfl
 |x::a=>by simp[Op.bytesLess,b50 a]
theorem a7k:∀{a b c:I},Op.bytesLess a b=true->Op.bytesLess b c=true->Op.bytesLess a c=true
 | [],[],_,h,_=>by cases h
 | [],_::_,[],_,h=>by cases h
 | [],_::_,_::_,_,_=>rfl
 |_::_,[],_,h,_=>by cases h
 |_::_,_::_,[],_,h=>by cases h
 |x::a,y::b,z::c,h1,h2=>by
  simp only[Op.bytesLess,a80,a2t,T5,beq_iff_eq]at h1 h2⊢
  rcases h1 with h1|⟨h1,ez⟩<;>rcases h2 with h2|⟨h2,dI⟩
  .exact .inl (UInt8.lt_trans h1 h2)
  .exact .inl (h2▸h1)
  .exact .inl (h1▸h2)
  .exact .inr ⟨h1.trans h2,a7k ez dI⟩
theorem c7W:∀{a b:I},Op.bytesLess a b=false->a≠b->Op.bytesLess b a=true
 | [],[],_,h=>absurd O h
 | [],_::_,h,_=>by cases h
 |_::_,[],_,_=>rfl
 |x::a,y::b,h1,h2=>by
  simp only[Op.bytesLess,c2B,b1d,Bool.and_eq_false_iff,beq_eq_false_iff_ne,a80,a2t,T5,beq_iff_eq]at h1⊢;by_cases fq:x=y
  .subst fq;refine .inr ⟨O,c7W (h1.2.resolve_left λh=>h O) λh=>h2 (by rw[h])⟩
  .have:=h1.1;exact .inl (by
    rcases Nat.lt_or_gt_of_ne (λh=>fq (b8i.1 h):x.toNat≠y.toNat)with h|h
    .exact absurd (b6Y.2 h) this
    .exact b6Y.2 h)
def c7d(l:List Fi):Prop:=l.Pairwise λf g=>Op.bytesLess f.p g.p=true
def J3:List I:=([[97,46,115,114,99],[98,46,115,114,99],[100,47,99,46,115,114,99],[120,46,115,114,99]]:List I)
theorem a7z(σ:List b9):b8 CC 28 [] σ λr aa=>r= .ret (.list (J3.map scv) true none)/\aa=σ:=by
 refine b8.anyw hCC pu_ pu_ (c7 (qO Tryz.func28 ?_)) σ;refine qY (A9 (J3.map scv) O ⟨O,O,O,O,J⟩ t_2 t_0 t_3 O O O O O O O O O) ?_;refine c6 ?_;exact⟨_,rE1,_,_,O,O,J5 O pu_⟩
theorem b1O(l:List I)(nn:Bool)(s:I)(hl:l.length<=1000000000)(σ:List b9):b8 CC 76 [(.list (l.map scv) nn none),(sv s)] σ λr aa=>r= .ret (.val (.bool (decide (s∈l))))/\aa=σ:=by
 refine b8.anyw hCC pu_ pu_ (c7 (qO Tryz.func76 ?_)) σ;refine o4 hCC (λi:Nat=>[(0,(.list (l.map scv) nn none)),(1,(sv s)),(5,iv i)]) (λ_=>[]) (λi=>i<=l.length/\decide (s∈l)=decide (s∈l.drop i)) (λi=>l.length -i) 0 ⟨n_5 _,O⟩ tu_ (am:=[]) O B5 uz_ ?_;intro i ⟨hi,hr⟩;refine b4Y ?_;refine qC ?_ ?_<;>intro h1
 .have af:i<l.length:=sm_ h1;obtain⟨y,hb⟩:∃y,l[i]?=some y:=⟨l[i]'af,U⟩;have hdr:l.drop i=y::l.drop (i+1):=by
   obtain⟨af,rfl⟩:=n_2.1 hb;exact Y0 af
  rw[hdr]at hr;refine qY a4u ?_;refine qY a8e ?_;refine qC ?_ ?_<;>intro h2
  .have hys:y=s:=D h2;refine c6 ?_;exact⟨_,rE1,_,_,O,O,j6 (by rw[hr,hys];simp)⟩
  .have hys:¬y=s:=D h2;refine qY o7 ?_;exact⟨(i+1),_,⟨G,G,by
    rw[hr];have:(s=y)=False:=by simpa using λh=>hys h.symm
    simp[this]⟩,tu_,O⟩
 .have aH:l.length<=i:=sm_ h1;rw[Y4 aH]at hr;refine a0i ?_;exact⟨_,rE1,_,_,O,O,j6 d2n⟩
def a5h(n:Nat):I:=if h:n<10 then [UInt8.ofNat (48+n)]else a5h (n / 10)++[UInt8.ofNat (48+n%10)]
termination_by n
decreasing_by omega
theorem a7x(h:n<10):a5h n=[UInt8.ofNat (48+n)]:=by rw[a5h,dif_pos h]
theorem d4M(h:¬n<10):a5h n=a5h (n / 10)++a5h (n%10):=by rw[a5h,dif_neg h,a7x (a6i _ G)]
theorem a14:∀(m n:Nat),n<10^(m+1)->(a5h n).length<=m+1
 |0,n,h=>by rw[a7x (D h)];simp
 |m+1,n,h=>by
  by_cases hn:n<10
  .rw [a7x hn];simp
  .rw [a5h,dif_neg hn,n_8];have:=a14 m (n / 10) (by rw[Nat.div_lt_iff_lt_mul G];rw[Nat.pow_succ]at h;exact h);simp only[D3,K8];omega
theorem e3i:∀n:Nat,n<10->(([48,49,50,51,52,53,54,55,56,57]:I).take (n+1)).drop n=[UInt8.ofNat (48+n)]:=by decide
theorem a8r(h:b8 CC 34 [iv n] [] λr aa=>r= .ret (sv (a5h n))/\aa=[])(σ:List b9):b8 CC 34 [iv n] σ λr aa=>r= .ret (sv (a5h n))/\aa=σ:=
 b8.anyw hCC pu_ pu_ h σ
theorem c0p(n:Nat)(hn:n<=4611686018427387904)(σ:List b9):b8 CC 34 [iv n] σ λr aa=>r= .ret (sv (a5h n))/\aa=σ:=by
 refine b8.anyw hCC pu_ pu_ ?_ σ
 induction n using Nat.strongRecOn
 rename_i n ih;refine c7 (qO Tryz.func34 ?_);refine qC ?_ ?_<;>intro h1
 .have hn9:n<10:=sm_ h1;refine qY o7 ?_;refine qY (K7 (a:=n) (h:=(n+1)) O O O t_5 a24 a24 G (by show n+1<=10;omega)) ?_;refine c6 ?_;exact⟨_,rE1,_,_,O,O,a04 (by rw[a7x hn9];exact n_7 str (e3i n hn9))⟩
 .have hn9:¬n<10:=sm_ h1;have hd:Int.tdiv (n:Int) 10=((n / 10:Nat):Int):=by rfl
  have hm:Int.tmod (n:Int) 10=((n%10:Nat):Int):=by rfl
  have g1:=a14 18 (n / 10) G;have g2:=a14 18 (n%10) G;have e1:IntKind.i64.wrap ((n:Int).tdiv 10)=((n / 10:Nat):Int):=by rw[hd];exact b0O G G
  have e2:(n:Int).tmod 10=((n%10:Nat):Int):=by exact hm
  refine qY (a2I O J O O O (O)) ?_;refine qY (c5 O c8R ⟨J,J⟩ (by have h:=a8r (ih (n / 10) G G) [];rw[<- e1]at h;exact h) O) ?_;refine qY (a2I O J O O O (O)) ?_;refine qY (c5 O c8R ⟨J,J⟩ (by have h:=a8r (ih (n%10) G G) [];rw[<- e2]at h;exact h) O) ?_;refine qY a9C ?_;refine c6 ?_;exact⟨_,rE1,_,_,O,O,a04 (n_7 str (d4M hn9).symm)⟩
def leF(f x:Fi):Bool:=Op.bytesLess f.p x.p ||decide (f.p=x.p)
def a9b(f:Fi):Bool->List Fi->List Fi
 |d,[]=>if d then []else [f]
 |d,x::l=>(if !d&&leF f x then [f]else [])++((if x.p=f.p then []else [x])++a9b f (d ||leF f x) l)
def a6f(l:List Fi)(f:Fi):List Fi:=a9b f false l
def a4U(l:List Fi)(s:I):List Fi:=l.filter λx=>!decide (x.p=s)
theorem c5J{f:Fi}{l:List Fi}{y:Fi}(h:l[i]?=some y)(d:Bool):a9b f d (l.drop i)=(if !d&&leF f y then [f]else [])++((if y.p=f.p then []else [y])++a9b f (d ||leF f y) (l.drop (i+1))):=by
 obtain⟨af,rfl⟩:=n_2.1 h;rw[Y0 af];rfl
theorem c6F{l:List Fi}{y:Fi}(h:l[i]?=some y):a4U (l.drop i) s=(if y.p=s then []else [y])++a4U (l.drop (i+1)) s:=by
 obtain⟨af,rfl⟩:=n_2.1 h;rw[Y0 af,a4U,b2n];by_cases h:(l[i]).p=s
 .simp [h,a4U]
 .simp [h,a4U]
theorem b6x{l:List Fi}{tok:Option Nat}:C3 L ak (.agg [.list (l.map Fi.cv) nn tok]) (.agg (A0 l nn)):=
 .agg O λi c c' h h'=>by
  rcases i with _|i
  .injection h with h;injection h' with h';subst h h';exact a0z (f:=Fi.cv) Fi.pure _
  .cases h
theorem c0J(fl:List Fi)(nn:Bool)(f:Fi)(bK:fl.length<=1000000):b8 CC 29 [.agg (A0 fl nn),.agg f.cells] [] λr τ=>F0 0 τ r (.ret (.agg (A0 (a6f fl f) (gnn (a6f fl f).length)))) []:=by
 refine qO Tryz.func29 ?_;refine c6R ?_;refine d2w ?_;refine qY a08 ?_;refine A5 hCC 4 O (α:=List Fi×Bool×Nat) (λx=>[(3,.ptr 1 0),(4,.ptr 2 0),(5,.ptr 3 0),(6,(.val (.bool x.2.1))),(10,(.list (fl.map Fi.cv) nn none)),(11,iv fl.length),(12,iv x.2.2)]) (λx=>[.box (A0 fl nn),.box f.cells,.box (A0 [] false),.box [(.list (x.1.map Fi.cv) (gnn x.1.length) (F1 x.1.length 4))],m0 x.1.length]) (λx=>x.2.2<=fl.length/\x.1.length<=x.2.2+1/\(x.2.1=false->x.1.length<=x.2.2)/\a6f fl f=x.1++a9b f x.2.1 (fl.drop x.2.2)) (λx=>fl.length -x.2.2) ⟨([],false,0),[0,1,2,3,9],⟨n_5 _,n_5 _,λ_=>n_5 _,O⟩,⟨O,O⟩,ut_,⟨.inr ⟨_,O,.same O a0G⟩,.inr ⟨_,O,.same O b0Z⟩,.inr ⟨_,O,.same O a9S⟩,.inr ⟨_,O,.box ⟨.same O (Y8 _ ([]:List Fi) _),J⟩⟩,.inl O,J⟩⟩ ?_;intro⟨out,d,i⟩ ⟨hi,jc,hod,hr⟩;dsimp only at hi jc hod hr⊢;refine qk (qC ?_ ?_)<;> intro h1
 .have af:i<fl.length:=sm_ h1;obtain⟨y,hb⟩:∃y,fl[i]?=some y:=⟨fl[i]'af,U⟩;rw[c5J hb]at hr;refine b9y ?_;refine qG d2A ?_;refine qG a0J ?_;refine qG d2A ?_;refine qG a0J ?_;refine qG (λhg=>a2X O hg hg O O (b87 _ _)) ?_;refine qY R4 ?_;refine qC ?_ ?_<;>intro h2
  .have dI:d=false/\leF f y=true:=by
    have h2:(!d&&leF f y)=true:=h2;simpa using h2
   obtain⟨hd,aM⟩:=dI;subst hd;rw[aM]at hr;have hol2:=hod O;refine qY e1k ?_;refine qD (C8 O J J O U q_3 a8S a41 c5w a68 O (.inr O) q_7 c7J G6 ((out++[f]).map Fi.cv) (out++[f]).length U U ?_);refine qD (j1 O J J O j2 b74 (.inl O) O O (nb O) ?_);refine qY b1n ?_;refine qC ?_ ?_<;>intro h3
   .have fF:¬y.p=f.p:=D h3;rw[W fF]at hr;refine qY d5p ?_;refine qD (C8 O J J O U q_3 a8S a41 c5w a68 O (.inr O) q_7 c7J G6 ((out++[f]++[y]).map Fi.cv) (out++[f]++[y]).length U U ?_);refine c8r ?_;exact⟨(out++[f]++[y],true,i+1),[0,1,2,3,7],⟨do_,do_,by simp only[n_8,D3,K8];omega,(λh=>by cases h),by rw[hr];simp⟩,⟨O,O⟩,ut_,⟨.inr ⟨_,O,.same O a0G⟩,.inr ⟨_,O,.same O b0Z⟩,.inr ⟨_,O,.same O a9S⟩,.inr ⟨_,O,.box ⟨C3.grow (f:=Fi.cv) (λa=>⟨.val _,.val _,J⟩) O,J⟩⟩,.inr ⟨_,O,.same O B0⟩,J⟩⟩
   .have fF:y.p=f.p:=D h3;rw[Q fF]at hr;refine qY o7 ?_;exact⟨(out++[f],true,i+1),[0,1,2,3,6],⟨do_,do_,by simp only[n_8,D3,K8];omega,(λh=>by cases h),by rw[hr];simp⟩,⟨O,O⟩,ut_,⟨.inr ⟨_,O,.same O a0G⟩,.inr ⟨_,O,.same O b0Z⟩,.inr ⟨_,O,.same O a9S⟩,.inr ⟨_,O,.box ⟨C3.grow (f:=Fi.cv) (λa=>⟨.val _,.val _,J⟩) O,J⟩⟩,.inr ⟨_,O,.same O B0⟩,J⟩⟩
  .have hd:(!d&&leF f y)=false:=by
    have h2:(!d&&leF f y)=false:=h2;simpa using h2
   have hd2:(d ||leF f y)=d:=by cases d<;>simp_all
   rw[hd,hd2]at hr;refine qY b1n ?_;refine qC ?_ ?_<;>intro h4
   .have fF:¬y.p=f.p:=D h4;rw[W fF]at hr;refine qY d5p ?_;refine qD (C8 O J J O U q_3 a8S a41 c5w a68 O (.inr O) q_7 c7J G6 ((out++[y]).map Fi.cv) (out++[y]).length U U ?_);refine c8r ?_;exact⟨(out++[y],d,i+1),[0,1,2,3,6],⟨do_,do_,by simp only[n_8,D3,K8];omega,(λh=>by have:=hod h;simp only[n_8,D3,K8];omega),by rw[hr];simp⟩,⟨O,O⟩,ut_,⟨.inr ⟨_,O,.same O a0G⟩,.inr ⟨_,O,.same O b0Z⟩,.inr ⟨_,O,.same O a9S⟩,.inr ⟨_,O,.box ⟨C3.grow (f:=Fi.cv) (λa=>⟨.val _,.val _,J⟩) O,J⟩⟩,.inr ⟨_,O,.same O B0⟩,J⟩⟩
   .have fF:y.p=f.p:=D h4;rw[Q fF]at hr;refine qY o7 ?_;exact⟨(out,d,i+1),[0,1,2,3,4],⟨do_,do_,do_,(λh=>by have:=hod h;dsimp only;omega),by rw[hr];simp⟩,⟨O,O⟩,ut_,⟨.inr ⟨_,O,.same O a0G⟩,.inr ⟨_,O,.same O b0Z⟩,.inr ⟨_,O,.same O a9S⟩,.inr ⟨_,O,.box ⟨C3.grow (f:=Fi.cv) (λa=>⟨.val _,.val _,J⟩) O,J⟩⟩,.inr ⟨_,O,.same O B0⟩,J⟩⟩
 .have aH:fl.length<=i:=sm_ h1;rw[Y4 aH]at hr;refine j8 ?_;refine qC ?_ ?_<;>intro h5
  .have hd:d=false:=D h5;subst hd;replace hr:a6f fl f=out++[f]:=hr;refine qY e1k ?_;refine qD (C8 O J J O U q_3 a8S a41 c5w a68 O (.inr O) q_7 c7J G6 ((out++[f]).map Fi.cv) (out++[f]).length U U ?_);refine qD (j1 O J J O j2 b74 (.inl O) O O (nb O) ?_);refine d3R ?_;exact⟨_,B1 O a4j,(by rw[hr];exact d5K b6x)⟩
  .have hd:d=true:=D h5;subst hd;replace hr:a6f fl f=out:=by rw[hr];exact Z7 _
   refine d3R ?_;exact⟨_,B1 O a4j,(by rw[hr];exact d5K b6x)⟩
theorem a0L(fl:List Fi)(nn:Bool)(f:Fi)(bK:fl.length<=1000000)(σ:List b9):b8 CC 29 [.agg (A0 fl nn),.agg f.cells] σ λr τ=>r= .ret (.agg (A0 (a6f fl f) (gnn (a6f fl f).length)))/\τ=σ:=
 c9r hCC (λa h=>by simp at h;rcases h with rfl|rfl;exact o0 (cs:=A0 _ _) ⟨D9 _ _,J⟩;exact o0 (Fi.pure _)) (o0 (cs:=A0 _ _) ⟨D9 _ _,J⟩) (c0J fl nn f bK) σ
theorem c03(fl:List Fi)(nn:Bool)(s:I)(bK:fl.length<=1000000):b8 CC 31 [.agg (A0 fl nn),(sv s)] [] λr τ=>F0 0 τ r (.ret (.agg (A0 (a4U fl s) (gnn (a4U fl s).length)))) []:=by
 refine qO Tryz.func31 ?_;refine qD (H3 O J j2 j4 ?_);refine d2w ?_;refine qY a08 ?_;refine A5 hCC 3 O (α:=List Fi×Nat) (λx=>[(1,(sv s)),(4,.ptr 1 0),(5,.ptr 2 0),(9,(.list (fl.map Fi.cv) nn none)),(10,iv fl.length),(11,iv x.2)]) (λx=>[.box (A0 fl nn),.box (A0 [] false),.box [(.list (x.1.map Fi.cv) (gnn x.1.length) (F1 x.1.length 3))],m0 x.1.length]) (λx=>x.2<=fl.length/\x.1.length<=x.2/\a4U fl s=x.1++a4U (fl.drop x.2) s) (λx=>fl.length -x.2) ⟨([],0),[0,1,2,9],⟨n_5 _,n_5 _,O⟩,⟨O,O⟩,ut_,⟨.inr ⟨_,O,.same O a0G⟩,.inr ⟨_,O,.same O a9S⟩,.inr ⟨_,O,.box ⟨.same O (Y8 _ ([]:List Fi) _),J⟩⟩,.inl O,J⟩⟩ ?_;intro⟨out,i⟩ ⟨hi,jc,hr⟩;dsimp only at hi jc hr⊢;refine qk (qC ?_ ?_)<;> intro h1
 .have af:i<fl.length:=sm_ h1;obtain⟨y,hb⟩:∃y,fl[i]?=some y:=⟨fl[i]'af,U⟩;rw[c6F hb]at hr;refine b9y ?_;refine qY b1n ?_;refine qC ?_ ?_<;>intro h2
  .have fF:¬y.p=s:=D h2;rw[W fF]at hr;refine qY d5p ?_;refine qD (C8 O J J O U q_3 a8S a41 c5w a68 O (.inr O) q_7 c7J G6 ((out++[y]).map Fi.cv) (out++[y]).length U U ?_);refine c8r ?_;exact⟨(out++[y],i+1),[0,1,2,5],⟨do_,do_,by simp only[n_8,D3,K8];omega,by rw[hr];simp⟩,⟨O,O⟩,ut_,⟨.inr ⟨_,O,.same O a0G⟩,.inr ⟨_,O,.same O a9S⟩,.inr ⟨_,O,.box ⟨C3.grow (f:=Fi.cv) (λa=>⟨.val _,.val _,J⟩) O,J⟩⟩,.inr ⟨_,O,.same O B0⟩,J⟩⟩
  .have fF:y.p=s:=D h2;rw[Q fF]at hr;refine qY o7 ?_;exact⟨(out,i+1),[0,1,2,3],⟨do_,do_,do_,by rw[hr];simp⟩,⟨O,O⟩,ut_,⟨.inr ⟨_,O,.same O a0G⟩,.inr ⟨_,O,.same O a9S⟩,.inr ⟨_,O,.box ⟨C3.grow (f:=Fi.cv) (λa=>⟨.val _,.val _,J⟩) O,J⟩⟩,.inr ⟨_,O,.same O B0⟩,J⟩⟩
 .have aH:fl.length<=i:=sm_ h1;rw[Y4 aH]at hr;replace hr:a4U fl s=out:=by rw[hr];exact Z7 _
  refine j8 ?_;refine d3R ?_;exact⟨_,B1 O a4j,(by rw[hr];exact d5K b6x)⟩
theorem b3Z(fl:List Fi)(nn:Bool)(s:I)(bK:fl.length<=1000000)(σ:List b9):b8 CC 31 [.agg (A0 fl nn),(sv s)] σ λr τ=>r= .ret (.agg (A0 (a4U fl s) (gnn (a4U fl s).length)))/\τ=σ:=
 c9r hCC (λa h=>by simp at h;rcases h with rfl|rfl;exact o0 (cs:=A0 _ _) ⟨D9 _ _,J⟩;exact .val _) (o0 (cs:=A0 _ _) ⟨D9 _ _,J⟩) (c03 fl nn s bK) σ
theorem a3r{l:List Int}{k:Nat}{n:Int}(hn:1<=n):0<=H7 l k n/\H7 l k n<n:=a7X hn
theorem a5j(n:Nat)(l:List Int)(nn:Bool)(k:Nat):F7 n (w8 l nn k):=A3 ⟨P7 _ _ _,.val _,J⟩
theorem c1c(l:List Int)(nn:Bool)(k:Nat)(aU:k<=900000000)(hl:l.length<=maxLen)(n:Nat)(hn:n<=1000)(al:I)(ha:1<=al.length)(gI:al.length<=1000):b8 CC 75 [.ptr 0 0,iv n,(sv al)] [w8 l nn k] λr τ=>∃a:I×Nat,F0 1 τ r (.ret (sv a.1)) [w8 l nn a.2]/\(a.1.length=n/\k<=a.2/\a.2<=k+n):=by
 refine qO Tryz.func75 ?_;refine A5 hCC 1 O (α:=I×Nat) (λx=>[(0,.ptr 0 0),(1,iv n),(2,(sv al)),(7,(.list (x.1.map bcv) (gnn x.1.length) (F1 x.1.length 1))),(8,iv x.1.length)]) (λx=>[w8 l nn x.2,m0 x.1.length]) (λx=>x.1.length<=n/\x.2=k+x.1.length) (λx=>n-x.1.length) ⟨([],k),[0,9],⟨n_5 _,O⟩,⟨O,O⟩,⟨b9N,b9N,b9N,b9N,b9N,J⟩,uq_⟩ ?_;intro⟨out,p⟩ ⟨jc,hp⟩;dsimp only at jc hp⊢;refine qk (qC ?_ ?_)<;> intro h1
 .have af:out.length <n:=sm_ h1;have hb:=a3r (l:=l) (k:=p) (n:=(al.length:Int)) G;obtain⟨c,hc⟩:∃c,al[(H7 l p (al.length:Int)).toNat]?=some c:=⟨al[(H7 l p (al.length:Int)).toNat]'G,U⟩;refine qY S4 ?_;refine qD (c4 O a6K i7 (K0 l nn p _ 0 O G hl (al.length:Int) G) O ?_);intro _ _;refine qY (M9 O J J O O t_5 G hc) ?_;refine qY e1g ?_;refine qD (C8 O J J O U q_3 a0R a2U b7a a59 O (.inr O) q_7 (by have hb:Tryz.t5.bytes=1:=O;rw[hb];first|omega|(simp;done)|(simp;omega)) G6 ((out++[c]).map bcv) (out++[c]).length U U ?_);refine qY o7 ?_;exact⟨(out++[c],p+1),[0,2],⟨by simp only[n_8,D3,K8];omega,by simp only[n_8,D3,K8];omega,by simp only[n_8,D3,K8];omega⟩,⟨O,O⟩,⟨⟨J,ur_⟩,⟨J,ur_⟩,⟨J,ur_⟩,⟨J,ur_⟩,⟨J,(by first|exact ur_|exact .same (n_7 (λx=>iv x) (by simp:(out.length:Int)+1=((out++[c]).length:Int))) uo_)⟩,J⟩,uq_⟩
 .have aH:out.length=n:=sm_ h1;refine j8 ?_;refine qY d2G ?_;refine c6 ?_;exact⟨_,rE1,⟨(out,p),a2V O X3 (.old (.val _)),aH,do_,do_⟩⟩
theorem c6m(l:List Int)(nn:Bool)(k:Nat)(aU:k<=900000000)(hl:l.length<=maxLen)(n:Nat)(hn:n<=1000)(al:I)(ha:1<=al.length)(gI:al.length<=1000)(σ:List b9)(q:Nat)(hq:σ[q]?=some (w8 l nn k)):b8 CC 75 [.ptr q 0,iv n,(sv al)] σ λr τ=>∃a:I×Nat,r= .ret (sv a.1)/\τ=σ.set q (w8 l nn a.2)/\(a.1.length=n/\k<=a.2/\a.2<=k+n):=
 a9y (c:=λa:I×Nat=>sv a.1) (S:=λa=>w8 l nn a.2) hCC (λa h=>by simp at h;rcases h with rfl|rfl<;>exact .val _) (λ_=>.val _) (λ_=>G3 _ _ _) (G3 _ _ _) O (c1c l nn k aU hl n hn al ha gI) σ q hq
theorem d1y(l:List Int)(nn:Bool)(k:Nat)(aU:k<=800000000)(hl:l.length<=maxLen):b8 CC 30 [.ptr 0 0] [w8 l nn k] λr τ=>∃a:I×Nat,F0 1 τ r (.ret (sv a.1)) [w8 l nn a.2]/\(a.1.length<=3/\k<=a.2/\a.2<=k+4):=by
 refine qO Tryz.func30 ?_;refine qD (c4 O a6K o3 (K0 l nn k _ 0 O G hl 4 G) O ?_);intro _ _;have hb:=a3r (l:=l) (k:=k) (n:=4) G;obtain⟨m,hm⟩:∃m:Nat,H7 l k 4=(m:Int):=⟨(H7 l k 4).toNat,G⟩;rw[hm]at hb⊢;refine qD (c4 O Tryz.call75 a3f (c6m l nn (k+1) G hl m G [97,98,0,255,48] H H _ 0 O) O ?_);intro⟨s,p⟩ ⟨hs,gu,cB⟩;dsimp only at hs gu cB⊢;refine c6 ?_;exact⟨_,rE1,⟨(s,p),a2V O X3 (.old (.val _)),do_,do_,do_⟩⟩
theorem c2R(l:List Int)(nn:Bool)(k:Nat)(aU:k<=800000000)(hl:l.length<=maxLen)(σ:List b9)(q:Nat)(hq:σ[q]?=some (w8 l nn k)):b8 CC 30 [.ptr q 0] σ λr τ=>∃a:I×Nat,r= .ret (sv a.1)/\τ=σ.set q (w8 l nn a.2)/\(a.1.length<=3/\k<=a.2/\a.2<=k+4):=
 a9y (c:=λa:I×Nat=>sv a.1) (S:=λa=>w8 l nn a.2) hCC (λa h=>by simp at h) (λ_=>.val _) (λ_=>G3 _ _ _) (G3 _ _ _) O (d1y l nn k aU hl) σ q hq
def a7A(l:List Int)(nn:Bool)(ps:List I)(d L K B:Nat):Prop:=∀(k:Nat),k<=B->∀(σ:List b9) (q:Nat),σ[q]?=some (w8 l nn k)->b8 CC 77 [.ptr q 0,iv d,.list (ps.map scv) (gnn ps.length) none] σ λr τ=>∃a:I×Nat,r= .ret (sv a.1)/\τ=σ.set q (w8 l nn a.2)/\(a.1.length<=L/\k<=a.2/\a.2<=k+K)
abbrev eob(l:List Int)(nn:Bool)(ps:List I)(d p:Nat):List b9:=[w8 l nn (p),.box [.ptr 0 0],.box [iv d],.box [(.list (ps.map scv) (gnn ps.length) none)]]
theorem b19{l:List Int}{ps:List I}{K:Nat}(hd:d<=10)(ih:a7A l nn ps d L K B)(p:Nat)(hp:p<=B):b8 CC 101 [.ptr 1 0,.ptr 2 0,.ptr 3 0] (eob l nn ps (d+1) p) λr τ=>∃a:I×Nat,r= .ret (sv a.1)/\τ=eob l nn ps (d+1) a.2/\(a.1.length<=L/\p<=a.2/\a.2<=p+K):=by
 refine qO Tryz.func101 ?_;refine qY V4 ?_;refine qD (c4 O c0e E7 (by have h:=ih p hp (eob l nn ps (d+1) p) 0 O;rw[show(d:Int)=((d+1:Nat):Int) -1 by omega]at h;exact h) O ?_);intro⟨s,p1⟩ ⟨h1,h2,h3⟩;dsimp only at h1 h2 h3⊢;refine c6 ?_;exact⟨_,rE1,⟨(s,p1),O,O,h1,h2,h3⟩⟩
theorem d3s(l:List Int)(nn:Bool)(k:Nat)(hl:l.length<=maxLen)(d:Nat)(hd:d<=10)(ps:List I)(cj:∀s∈ps,s.length<=10)(bc:ps.length<=2)(L K B:Nat)(hL:L<=1000000)(hK:K<=1000)(aU:k+3*K+10<=B)(hB:B<=900000000)(eo:1<=d->∀p,p<=B->b8 CC 101 [.ptr 1 0,.ptr 2 0,.ptr 3 0] (eob l nn ps d p) λr τ=>∃a:I×Nat,r= .ret (sv a.1)/\τ=eob l nn ps d a.2/\(a.1.length<=L/\p<=a.2/\a.2<=p+K)):b8 CC 77 [.ptr 0 0,iv d,.list (ps.map scv) (gnn ps.length) none] [w8 l nn k] λr τ=>∃a:I×Nat,F0 1 τ r (.ret (sv a.1)) [w8 l nn a.2]/\(a.1.length<=3*L+30/\k<=a.2/\a.2<=k+(3*K+5)):=by
 refine cO Tryz.func77 ?_;refine qs 1 (qD (H3 O J j2 (.inl O) ?_));refine qD (H3 O J j2 (.inl O) ?_);refine qD (H3 O J j2 (.inl O) ?_);refine F6 ?_;refine O6 (α:=Bool×Nat) (λx=>[(3,.ptr 1 0),(4,.ptr 2 0),(5,.ptr 3 0),(15,(.val (.bool x.1)))]) (λx=>[w8 l nn (x.2),.box [.ptr 0 0],.box [iv d],.box [(.list (ps.map scv) (gnn ps.length) none)]]) (λx=>k<=x.2/\x.2<=k+1/\(x.1=false->1<=d)) ?_ ?_
 .
  refine qk (qG (λhg=>j9 O J O d0T O O) ?_);refine b8z (.val (.bool false)) O O J O O (λhg=>c4 O b5I ⟨hg,O,O,J⟩ (P3 l nn k _ 0 O G hl 1 4 G) O ?_) (λhg=>?_)
  .
   intro _ _;refine b64 ?_;exact⟨(_,k+1),(by exact⟨do_,do_,λ_=>sm_ hg⟩),⟨⟨J,O⟩,⟨J,O⟩,⟨J,O⟩,⟨J,O⟩,J⟩,O⟩
  .
   refine b64 ?_;exact⟨(_,k),(by exact⟨do_,do_,λhb=>by exfalso;revert hb hg;cases decide ((d:Int)<=0)<;>simp⟩),⟨⟨J,O⟩,⟨J,O⟩,⟨J,O⟩,⟨J,O⟩,J⟩,O⟩
 .intro ⟨b,p⟩ E0 ⟨gu,cB,eW⟩;dsimp only at gu cB eW⊢;refine cC ?_ ?_<;>intro h1
  .refine O6 (α:=Nat) (λ_=>[(3,.ptr 1 0)]) (λx=>[w8 l nn (x),.box [.ptr 0 0],.box [iv d],.box [(.list (ps.map scv) (gnn ps.length) none)]]) (λx=>k<=x/\x<=k+3) ?_ ?_
   .
    refine qs 1 (qD (c4 O a6K o3 (K0 l nn p _ 0 O G hl 9 G) O ?_));intro _ _;refine O6 (α:=Bool) (λb=>[(3,.ptr 1 0),(4,.ptr 2 0),(5,.ptr 3 0),(17,(iv (H7 l p 9))),(18,(.val (.bool b)))]) (λ_=>[w8 l nn (p+1),.box [.ptr 0 0],.box [iv d],.box [(.list (ps.map scv) (gnn ps.length) none)]]) (λ_=>True) ?_ ?_
    .
     refine qk (qC ?_ ?_)<;> intro h2
     .exact ⟨_,J,⟨⟨J,O⟩,⟨J,O⟩,⟨J,O⟩,⟨J,O⟩,⟨J,O⟩,J⟩,O⟩
     .exact ⟨_,J,⟨⟨J,O⟩,⟨J,O⟩,⟨J,O⟩,⟨J,O⟩,⟨J,O⟩,J⟩,O⟩
    .intro b2 E2 _;refine qC ?_ ?_<;>intro h3
     .refine qY P5 ?_;refine qC ?_ ?_<;>intro h4
      .obtain ⟨x,ps',rfl⟩:∃x ps',ps=x::ps':=by
        rcases ps with _|⟨x,ps'⟩
        .simp at h4
        .exact ⟨x,ps',O⟩
       refine qD (c4 O a3a i7 (G9 l nn (p+1) _ 0 O G hl (x::ps') U G) O ?_);intro v hv;have dy:=cj v hv;refine c6 ?_;exact⟨_,rE1,⟨(_,p+2),a2V O X3 (.old (.val _)),(by show List.length _<=_;simp only;omega),do_,do_⟩⟩
      .exact ⟨(p+1),⟨G,G⟩,tu_,O⟩
     .refine qC ?_ ?_<;>intro h5
      .refine cW 2 ?_;refine hY c4Y ?_;refine hY c34 ?_;refine d7h ?_;intro v hv;have dy:v.length<=8:=R1 (.inr (.inr (.inr (.inl hv))));refine a97 ?_;exact e0w
      .refine qC ?_ ?_<;>intro h6
       .refine cW 2 ?_;refine hY c4Y ?_;refine hY c34 ?_;refine d7h ?_;intro v hv;have dy:v.length<=8:=R1 (.inr (.inr (.inr (.inl hv))));refine a97 ?_;exact e0w
       .refine qC ?_ ?_<;>intro h7
        .refine cW 2 ?_;refine hY c4Y ?_;refine hY (c5 O Tryz.call61 trivial (a5l _) O) ?_;refine a0T ?_;refine qD (c4 O a3a i7 (G9 l nn (p+1) _ 0 O G hl U6 H H) O ?_);intro v hv;have dy:v.length<=8:=R1 (.inr (.inr (.inr (.inr hv))));refine a97 ?_;exact e0w
        .refine qC ?_ ?_<;>intro h8
         .refine qD (c4 O b5I a4N (P3 l nn (p+1) _ 0 O G hl 1 5 G) O ?_);intro _ _;refine qC ?_ ?_<;>intro h9
          .refine qY (A9 ([0,1,63].map icv) O ⟨O,O,O,J⟩ t_4 t_1 t_7 O O O O O O O O O) ?_;refine qD (c4 O d1v i7 (a83 l nn (p+2) _ 0 O G hl [0,1,63] U U) O ?_);intro v hv;obtain⟨m,hm,cI⟩:∃m:Nat,v=(m:Int)/\m<10^17:=by
            simp only[J2,b0l,or_false]at hv;exact⟨v.toNat,G,G⟩
           subst hm;have dT:=a14 16 m cI;refine qY c48 ?_;refine a97 ?_;refine c6 ?_;exact⟨_,rE1,⟨(_,p+3),a2V O X3 (.old (.val _)),b67,do_,do_⟩⟩
          .exact ⟨(p+2),⟨G,G⟩,tu_,O⟩
         .exact ⟨(p+1),⟨G,G⟩,tu_,O⟩
   .intro p3 E3 ⟨hp3,hp4⟩;refine qk (qY (A9 ([0,1,2,3,10,255,9007199254740992,1073741824].map icv) O ⟨O,O,O,O,O,O,O,O,J⟩ t_4 t_1 t_7 O O O O O O O O O) ?_);refine qD (c4 O d1v i7 (a83 l nn (p3) _ 0 O G hl [0,1,2,3,10,255,9007199254740992,1073741824] U U) O ?_);intro v hv;obtain⟨m,hm,cI⟩:∃m:Nat,v=(m:Int)/\m<10^17:=by
     simp only[J2,b0l,or_false]at hv;exact⟨v.toNat,G,G⟩
    subst hm;have dT:=a14 16 m cI;refine qY c48 ?_;refine c6 ?_;exact⟨_,rE1,⟨(_,p3+1),a2V O X3 (.old (.val _)),(by show List.length _<=_;simp only;omega),do_,do_⟩⟩
  .have hd1:1<=d:=eW (D h1);refine qk ?_;refine qs 1 (qY (a3v O E7) ?_);refine F6 ?_;refine qs 1 (qD (c4 O a6K o3 (K0 l nn p _ 0 O G hl 10 G) O ?_));intro _ _;refine O6 (α:=Bool) (λb=>[(3,.ptr 1 0),(7,(.clo 101 [.ptr 1 0,.ptr 2 0,.ptr 3 0])),(64,(iv (H7 l p 10))),(65,(.val (.bool b)))]) (λ_=>[w8 l nn (p+1),.box [.ptr 0 0],.box [iv d],.box [(.list (ps.map scv) (gnn ps.length) none)]]) (λ_=>True) ?_ ?_
   .
    refine qk (qC ?_ ?_)<;> intro bp
    .exact ⟨_,J,⟨⟨J,O⟩,⟨J,O⟩,⟨J,O⟩,⟨J,O⟩,J⟩,O⟩
    .refine qC ?_ ?_<;>intro eF
     .exact ⟨_,J,⟨⟨J,O⟩,⟨J,O⟩,⟨J,O⟩,⟨J,O⟩,J⟩,O⟩
     .exact ⟨_,J,⟨⟨J,O⟩,⟨J,O⟩,⟨J,O⟩,⟨J,O⟩,J⟩,O⟩
   .intro b4 E4 _;refine qC ?_ ?_<;>intro eG
    .refine cF [3] [0,1,4] (tl:=[(2,[2]),(3,[2]),(5,[]),(6,[]),(7,[])]) ?_;refine chf O c7X ?_;refine chf O (c8 O d7R) ?_;refine b8h ?_;refine B6 O O O (c4 O a3a i7 (G9 l nn (p+1) _ 0 O G hl Q6 H H) O ?_);intro v hv;have dy:v.length<=8:=R1 (.inr (.inl hv));refine⟨⟨D7,J⟩,?_⟩;refine d7m ?_;intro⟨s1,p1⟩ ⟨bu,bW,aI⟩;dsimp only at bu bW aI⊢;refine c8V ?_;refine b0f ?_;refine qY (A9 ([0,0,0,1].map icv) O ⟨O,O,O,O,J⟩ t_4 t_1 t_7 O O O O O O O O O) ?_;refine qD (c4 O d1v i7 (a83 l nn (p1) _ 0 O G hl [0,0,0,1] U U) O ?_);intro n hn;have hn01:n=0\/n=1:=by
      simp only[J2,b0l,or_false]at hn;omega
     refine J8 (α:=I×Nat×Int) (λx=>[(7,(.clo 101 [.ptr 1 0,.ptr 2 0,.ptr 3 0])),(8,(sv x.1)),(9,iv x.2.2)]) (λx=>[w8 l nn (x.2.1),.box [.ptr 0 0],.box [iv d],.box [(.list (ps.map scv) (gnn ps.length) none)]]) (λx=>(x.2.2=0\/x.2.2=1)/\(x.2.2=1->x.1.length<=L+9/\x.2.1<=k+4+K)/\x.1.length<=2*L+11/\k<=x.2.1/\x.2.1<=k+4+2*K) (λx=>x.2.2.toNat) (_,p1+1,n) ⟨hn01,λ_=>⟨by show List.length _<=_;simp only[n_8,D3,K8];omega,do_⟩,by show List.length _<=_;simp only[n_8,D3,K8];omega,do_,do_⟩ ⟨⟨J,O⟩,⟨J,O⟩,⟨J,O⟩,J⟩ O ?_;intro⟨s,p5,n5⟩ E5 ⟨hn5,hn6,hs5,hq5,hq6⟩;dsimp only at hn5 hn6 hs5 hq5 hq6⊢;refine qk (qC ?_ ?_)<;> intro eH
     .have h13':n5=1:=sm_ eH;obtain⟨hs6,hq7⟩:=hn6 h13';refine qD (W4 O J O b9l trivial (by exact eo G (p5) G) O ?_);intro⟨s2,p2⟩ ⟨dh,ce,aW⟩;dsimp only at dh ce aW⊢;refine qY b1e ?_;refine qY a9C ?_;refine qY V4 ?_;exact⟨(_,p2,n5-1),do_,(by exact⟨do_,λh=>by dsimp only at h;omega,by show List.length _<=_;simp only[n_8,D3,K8];omega,do_,do_⟩),⟨⟨J,O⟩,⟨J,O⟩,⟨J,O⟩,J⟩,O⟩
     .refine j8 ?_;refine qY a6H ?_;refine c6 ?_;exact⟨_,rE1,⟨(_,p5),a2V O X3 (.old (.val _)),b67,do_,do_⟩⟩
    .refine qC ?_ ?_<;>intro h14
     .refine qD (W4 O J O b9l trivial (by exact eo G (p+1) G) O ?_);intro⟨s1,p1⟩ ⟨bu,bW,aI⟩;dsimp only at bu bW aI⊢;refine a97 ?_;refine qD (W4 O J O b9l trivial (by exact eo G (p1) G) O ?_);intro⟨s2,p2⟩ ⟨dh,ce,aW⟩;dsimp only at dh ce aW⊢;refine b4K ?_;refine qD (W4 O J O b9l trivial (by exact eo G (p2) G) O ?_);intro⟨s3,p3⟩ ⟨fV,hq3,eA⟩;dsimp only at fV hq3 eA⊢;refine b4K ?_;refine c6 ?_;exact⟨_,rE1,⟨(_,p3),a2V O X3 (.old (.val _)),b67,do_,do_⟩⟩
     .refine qC ?_ ?_<;>intro h15
      .refine cF [3,4] [0,1,5] (tl:=[(2,[2]),(3,[2]),(4,[2]),(6,[]),(7,[]),(8,[]),(9,[])]) ?_;refine chf O c7X ?_;refine chf O (c8 O c34) ?_;refine b8h ?_;refine B6 O O O (c4 O a3a i7 (G9 l nn (p+1) _ 0 O G hl Z9 H H) O ?_);intro v hv;have dy:v.length<=8:=R1 (.inr (.inr (.inr (.inl hv))));refine⟨⟨D7,J⟩,?_⟩;refine b07 O O (λ_=>c8 O b1e) ?_;refine d7m ?_;intro⟨s1,p1⟩ ⟨bu,bW,aI⟩;dsimp only at bu bW aI⊢;refine c8V ?_;refine E8 O O c3Q ⟨J,?_⟩;refine b0f ?_;exact c7w
      .refine qC ?_ ?_<;>intro h16
       .refine qD (W4 O J O b9l trivial (by exact eo G (p+1) G) O ?_);intro⟨s1,p1⟩ ⟨bu,bW,aI⟩;dsimp only at bu bW aI⊢;refine a97 ?_;exact c7w
       .refine qk ?_;refine cF [2,3,7,8] [0,4,5,9] (tl:=[(1,[1,2,3]),(2,[1,2,3]),(3,[1,2,3]),(6,[3]),(7,[3]),(8,[3]),(10,[]),(11,[]),(12,[]),(13,[])]) ?_;refine chf O S8 ?_;refine chf O c7X ?_;refine chf O (c8 O q_9) ?_;refine b8h ?_;refine B6 O O O (W4 O J O b9l trivial (by exact eo G (p+1) G) O ?_);intro⟨s1,p1⟩ ⟨bu,bW,aI⟩;dsimp only at bu bW aI⊢;refine⟨⟨(by exact c8 O c4Y),(by exact c8 O q_9),D7,J⟩,?_⟩;refine b07 O O (λ_=>c8 O b1e) ?_;refine b07 O O (λ_=>c8 O a6H) ?_;refine B6 O O O (c4 O a3a i7 (G9 l nn p1 _ 0 O G hl ([[43],[45],[42],[47],[37],[60],[61,61]]:List I) U U) O ?_);intro v hv;have dy:v.length<=2:=by revert v;decide
        refine⟨⟨D7,J⟩,?_⟩;refine b07 O O (λ_=>c8 O a9C) ?_;refine b07 O O (λ_=>c8 O a6H) ?_;refine B6 O O O (W4 O J O b9l trivial (by exact eo G (p1+1) G) O ?_);intro⟨s2,p2⟩ ⟨dh,ce,aW⟩;dsimp only at dh ce aW⊢;refine c8V ?_;refine E8 O O c3Q ⟨J,?_⟩;refine b0f ?_;refine c6 ?_;exact⟨_,rE1,⟨(_,p2),a2V O X3 (.old (.val _)),b67,do_,do_⟩⟩
theorem a8c{l:List Int}{k:Nat}(hl:l.length<=maxLen)(d:Nat)(hd:d<=10)(ps:List I)(cj:∀s∈ps,s.length<=10)(bc:ps.length<=2)(L K B:Nat)(hL:L<=1000000)(hK:K<=1000)(aU:k+3*K+10<=B)(hB:B<=900000000)(eo:1<=d->∀p,p<=B->b8 CC 101 [.ptr 1 0,.ptr 2 0,.ptr 3 0] (eob l nn ps d p) λr τ=>∃a:I×Nat,r= .ret (sv a.1)/\τ=eob l nn ps d a.2/\(a.1.length<=L/\p<=a.2/\a.2<=p+K))(hq:σ[q]?=some (w8 l nn k)):
 b8 CC 77 [.ptr q 0,iv d,.list (ps.map scv) (gnn ps.length) none] σ λr τ=>∃a:I×Nat,r= .ret (sv a.1)/\τ=σ.set q (w8 l nn a.2)/\(a.1.length<=3*L+30/\k<=a.2/\a.2<=k+(3*K+5)):=
 a9y (c:=λa:I×Nat=>sv a.1) (S:=λa=>w8 l nn a.2) hCC (λa h=>by simp at h;rcases h with rfl|rfl;exact .val _;exact F2 _ _) (λ_=>.val _) (λ_=>G3 _ _ _) (G3 _ _ _) O (d3s l nn k hl d hd ps cj bc L K B hL hK aU hB eo) σ q hq
theorem a7o(l:List Int)(nn:Bool)(hl:l.length<=maxLen)(ps:List I)(cj:∀s∈ps,s.length<=10)(bc:ps.length<=2):a7A l nn ps 0 30 5 800000000/\a7A l nn ps 1 120 20 799999000/\a7A l nn ps 2 390 65 799998000/\a7A l nn ps 3 1200 200 799997000:=by
 have e0:a7A l nn ps 0 30 5 800000000:=λk hk σ q hq=>a8c hl 0 G ps cj bc 0 0 900000000 G G G G (λh=>by omega) hq;have e1:a7A l nn ps 1 120 20 799999000:=λk hk σ q hq=>a8c hl 1 G ps cj bc 30 5 800000000 G G G G (λ_ p hp=>b19 G e0 p hp) hq;have e2:a7A l nn ps 2 390 65 799998000:=λk hk σ q hq=>a8c hl 2 G ps cj bc 120 20 799999000 G G G G (λ_ p hp=>b19 G e1 p hp) hq;have e3:a7A l nn ps 3 1200 200 799997000:=λk hk σ q hq=>a8c hl 3 G ps cj bc 390 65 799998000 G G G G (λ_ p hp=>b19 G e2 p hp) hq;exact⟨e0,e1,e2,e3⟩
theorem c96(l:List Int)(nn:Bool)(k:Nat)(aU:k<=700000000)(hl:l.length<=maxLen):b8 CC 35 [.ptr 0 0] [w8 l nn k] λr τ=>∃a:I×Nat,F0 1 τ r (.ret (sv a.1)) [w8 l nn a.2]/\(a.1.length<=1240/\k<=a.2/\a.2<=k+210):=by
 refine cO Tryz.func35 ?_;refine qs 1 ?_;refine O6 (α:=Nat) (λ_=>[(0,.ptr 0 0)]) (λx=>[w8 l nn (x)]) (λx=>x=k+1) ?_ ?_
 .
  refine qs 1 (qD (c4 O a6K o3 (K0 l nn k _ 0 O G hl 8 G) O ?_));intro _ _;refine O6 (α:=Bool) (λb=>[(0,.ptr 0 0),(2,(sv ([]))),(6,(iv (H7 l k 8))),(7,(.val (.bool b)))]) (λ_=>[w8 l nn (k+1)]) (λ_=>True) ?_ ?_
  .
   refine qk (qC ?_ ?_)<;> intro h1
   .exact ⟨_,J,⟨⟨J,O⟩,⟨J,O⟩,⟨J,O⟩,⟨J,O⟩,J⟩,O⟩
   .refine qC ?_ ?_<;>intro h2
    .exact ⟨_,J,⟨⟨J,O⟩,⟨J,O⟩,⟨J,O⟩,⟨J,O⟩,J⟩,O⟩
    .exact ⟨_,J,⟨⟨J,O⟩,⟨J,O⟩,⟨J,O⟩,⟨J,O⟩,J⟩,O⟩
  .intro b E0 _;refine qC ?_ ?_<;>intro h3
   .refine qY (c5 O Tryz.call38 trivial (b15 _) O) ?_;refine qD (c4 O a3a i7 (G9 l nn (k+1) _ 0 O G hl a1S H H) O ?_);intro v hv;have dy:v.length<=8:=R1 (.inr (.inr (.inl hv)));refine a97 ?_;refine qD (c4 O c0e a4N (by exact(a7o l nn hl ([]:List I) H H).2.2.2 (k+2) G _ 0 O) O ?_);intro⟨s1,p1⟩ ⟨bu,bW,aI⟩;dsimp only at bu bW aI⊢;refine b4K ?_;exact c7w
   .refine qC ?_ ?_<;>intro h4
    .refine qY c34 ?_;refine qD (c4 O a3a i7 (G9 l nn (k+1) _ 0 O G hl Z9 H H) O ?_);intro v hv;have dy:v.length<=8:=R1 (.inr (.inr (.inr (.inl hv))));refine a97 ?_;refine qD (c4 O c0e a4N (by exact(a7o l nn hl ([]:List I) H H).2.2.1 (k+2) G _ 0 O) O ?_);intro⟨s1,p1⟩ ⟨bu,bW,aI⟩;dsimp only at bu bW aI⊢;refine b4K ?_;exact c7w
    .exact ⟨_,O,⟨⟨J,O⟩,J⟩,O⟩
 .intro p E0 hp;subst hp;refine qk (qD (d4d O O O O t_2 t_0 t_3 O ?_));refine qD (c4 O b5I a4N (P3 l nn (k+1) _ 0 O G hl 1 5 G) O ?_);intro _ _;refine qC ?_ ?_<;>intro h5
  .refine qY (A9 [scv [98]] O ⟨O,J⟩ t_2 t_0 t_3 O O O O O O O O O) ?_;refine qD (C8 O J J O (show 1=List.length _ from O) q_3 t_2 t_0 a4M t_3 O (.inr O) q_7 a6h G6 (([[97],[98]]:List I).map scv) 2 O O ?_);refine d8j ?_;intro v hv;have dy:v.length<=8:=R1 (.inr (.inl hv));refine a97 ?_;refine qY P5 ?_;refine qC ?_ ?_<;>intro h6
   .refine qY a6H ?_;refine qY a6H ?_;refine qD (c4 O c0e ⟨J,O,J,J⟩ (by exact(a7o l nn hl ([[97],[98]]:List I) H H).2.2.2 (k+3) G _ 0 O) O ?_);intro⟨s1,p1⟩ ⟨bu,bW,aI⟩;dsimp only at bu bW aI⊢;refine b4K ?_;exact c7w
   .exfalso;simp at h6
  .refine d8j ?_;intro v hv;have dy:v.length<=8:=R1 (.inr (.inl hv));refine a97 ?_;refine qY P5 ?_;refine qC ?_ ?_<;>intro h7
   .exfalso;simp at h7
   .refine qY a6H ?_;refine qD (c4 O c0e ⟨J,O,J,J⟩ (by exact(a7o l nn hl ([[97]]:List I) H H).2.2.2 (k+3) G _ 0 O) O ?_);intro⟨s1,p1⟩ ⟨bu,bW,aI⟩;dsimp only at bu bW aI⊢;refine b4K ?_;exact c7w
theorem c39(l:List Int)(nn:Bool)(k:Nat)(aU:k<=700000000)(hl:l.length<=maxLen)(σ:List b9)(q:Nat)(hq:σ[q]?=some (w8 l nn k)):b8 CC 35 [.ptr q 0] σ λr τ=>∃a:I×Nat,r= .ret (sv a.1)/\τ=σ.set q (w8 l nn a.2)/\(a.1.length<=1240/\k<=a.2/\a.2<=k+210):=
 a9y (c:=λa:I×Nat=>sv a.1) (S:=λa=>w8 l nn a.2) hCC (λa h=>by simp at h) (λ_=>.val _) (λ_=>G3 _ _ _) (G3 _ _ _) O (c96 l nn k aU hl) σ q hq
theorem c2l(l:List Int)(nn:Bool)(k:Nat)(aU:k<=600000000)(hl:l.length<=maxLen)(pkg:I)(du:pkg.length<=8):b8 CC 32 [.ptr 0 0,(sv pkg)] [w8 l nn k] λr τ=>∃a:I×Nat,F0 1 τ r (.ret (sv a.1)) [w8 l nn a.2]/\(a.1.length<=6300/\k<=a.2/\a.2<=k+1070):=by
 refine cO Tryz.func32 ?_;refine qs 2 ?_;refine a97 ?_;refine O6 (α:=I×Nat) (λx=>[(0,.ptr 0 0),(1,(sv pkg)),(5,(sv x.1))]) (λx=>[w8 l nn (x.2)]) (λx=>x.1.length<=40/\x.2=k+1) ?_ ?_
 .
  refine qk (qD (c4 O b5I a4N (P3 l nn k _ 0 O G hl 1 8 G) O ?_));intro _ _;refine qC ?_ ?_<;>intro h1
  .refine qY b1e ?_;exact⟨(_,k+1),e2i,⟨⟨J,O⟩,⟨J,O⟩,⟨J,O⟩,J⟩,O⟩
  .exact ⟨(_,k+1),e2i,⟨⟨J,O⟩,⟨J,O⟩,⟨J,O⟩,J⟩,O⟩
 .intro ⟨s,p⟩ E0 ⟨hs,hp⟩;dsimp only at hs hp⊢;subst hp;refine qk (qD (c4 O a6K o3 (K0 l nn (k+1) _ 0 O G hl 3 G) O ?_));intro _ _;have hb1:=a3r (l:=l) (k:=k+1) (n:=3) G;refine A5 hCC 1 O (α:=I×List I×Nat×Int) (λx=>[(0,.ptr 0 0),(1,(sv pkg)),(5,(sv x.1)),(6,(.list (x.2.1.map scv) (gnn x.2.1.length) (F1 x.2.1.length 1))),(7,iv x.2.2.2)]) (λx=>[w8 l nn x.2.2.1,m0 x.2.1.length]) (λx=>0<=x.2.2.2/\x.2.2.2<=2/\x.1.length+20*x.2.2.2<=80/\x.2.1.length+x.2.2.2<=2/\k+2<=x.2.2.1/\x.2.2.1+x.2.2.2<=k+4) (λx=>x.2.2.2.toNat) ⟨(s,[],k+2,H7 l (k+1) 3),[0,9],⟨do_,do_,do_,by dsimp only;simp;omega,do_,do_⟩,⟨O,O⟩,ut_,uq_⟩ ?_;intro⟨s,seen,p,n⟩ ⟨bd,bZ,dh,gz,gu,cB⟩;dsimp only at bd bZ dh gz gu cB⊢;refine qk (qC ?_ ?_)<;> intro h2
  .have fW:1<=n:=sm_ h2;refine qY (c5 O d3J trivial (a2R _) O) ?_;refine qD (c4 O a3a i7 (G9 l nn (p) _ 0 O G hl Q2 H H) O ?_);intro v hv;have dy:v.length<=8:=R1 (.inl hv);refine qY b1n ?_;refine a4A ?_;refine qG (λhg=>c5 O d1W ⟨hg,hg,J⟩ (b1O seen _ v G _) O) ?_;refine qG a2D ?_;refine qY R4 ?_;refine qC ?_ ?_<;>intro h3
   .refine qY (A9 [scv v] O ⟨J,J⟩ t_2 t_0 t_3 O O O O O O O O O) ?_;refine qD (C8 O J J O U q_3 t_2 t_0 a4M t_3 O (.inr O) q_7 a6h G6 ((seen++[v]).map scv) (seen++[v]).length U U ?_);refine a97 ?_;refine qY a9C ?_;refine qY V4 ?_;exact⟨(s++((([105,109,112,111,114,116,32]:I)++v)++[59,10]),seen++[v],p+1,n-1),[0,2],(by exact⟨do_,do_,do_,by dsimp only;simp only[n_8,D3,K8];omega,by dsimp only;simp only[n_8,D3,K8];omega,do_,do_⟩),⟨O,O⟩,ut_,uq_⟩
   .refine qY V4 ?_;exact⟨(s,seen,p+1,n-1),[0,1],⟨do_,do_,do_,do_,do_,do_,do_⟩,⟨O,O⟩,ut_,uq_⟩
  .have fW:n=0:=sm_ h2;subst fW;refine j8 ?_;refine qD (c4 O a6K o3 (K0 l nn p _ 0 O G hl 5 G) O ?_);intro _ _;have cg:=a3r (l:=l) (k:=p) (n:=5) G;refine qY (b8T O O J O O G G) ?_;refine A5 hCC 2 O (α:=I×List I×Nat×Int) (λx=>[(0,.ptr 0 0),(5,(sv x.1)),(9,(.list (x.2.1.map scv) (gnn x.2.1.length) (F1 x.2.1.length 2))),(10,iv x.2.2.2)]) (λx=>[w8 l nn x.2.2.1,m0 seen.length,m0 x.2.1.length]) (λx=>0<=x.2.2.2/\x.2.2.2<=5/\x.1.length+1240*x.2.2.2<=6280/\x.2.1.length+x.2.2.2<=5/\k+3<=x.2.2.1/\x.2.2.1+211*x.2.2.2<=k+1060) (λx=>x.2.2.2.toNat) ⟨(s,[],p+1,1+H7 l p 5),[0,1,9],⟨do_,do_,do_,by dsimp only;simp;omega,do_,do_⟩,⟨O,O⟩,ut_,uq_⟩ ?_;intro⟨s,cr,p2,n⟩ ⟨bd,bZ,fV,hhn,hp3,hp4⟩;dsimp only at bd bZ fV hhn hp3 hp4⊢;refine qs 1 (qC ?_ ?_)<;> intro h4
   .have fW:1<=n:=sm_ h4;refine F6 ?_;refine qs 3 (qD (c4 O Tryz.call35 ⟨J,J⟩ (c39 l nn p2 G hl _ 0 O) O ?_));intro⟨dt,p5⟩ ⟨hdt,hq5,hr5⟩;dsimp only at hdt hq5 hr5⊢;refine J8 (α:=Nat) (λi=>[(0,.ptr 0 0),(5,(sv s)),(9,(.list (cr.map scv) (gnn cr.length) (F1 cr.length 2))),(10,iv n),(11,(sv dt)),(12,(sv dt)),(13,iv i)]) (λ_=>[w8 l nn p5,m0 seen.length,m0 cr.length]) (λi=>i<=dt.length) (λi=>dt.length -i) 0 (n_5 _) tu_ O ?_;intro i E3 hi;refine a7d ?_;refine qC ?_ ?_<;>intro h5
    .have af:i<dt.length:=sm_ h5;obtain⟨c,hc⟩:∃c,dt[i]?=some c:=⟨dt[i]'af,U⟩;refine qY (M9 O J J O O t_5 G (by rw[a3N];exact hc)) ?_;refine a4A ?_;refine qG (λhg=>M9 O hg hg O O t_5 a9M (by rw[a3N];exact hc)) ?_;refine a8q ?_;refine qC ?_ ?_<;>intro h6
     .refine qY (K7 (h:=i) O J O t_5 O a24 a4p a4p) ?_;refine j8 ?_;refine O6 (α:=Bool×Nat) (λx=>[(0,.ptr 0 0),(5,(sv s)),(9,(.list (cr.map scv) (gnn cr.length) (F1 cr.length 2))),(10,iv n),(11,(sv dt)),(12,(sv (dt.take i))),(84,(.val (.bool x.1)))]) (λx=>[w8 l nn x.2,m0 seen.length,m0 cr.length]) (λx=>p5<=x.2/\x.2<=p5+1) ?_ ?_
      .
       refine qk (qY (c5 O d1W i7 (b1O cr _ _ G _) O) ?_);refine qG C9 ?_;refine b8z (.val (.bool false)) O O J O O (λhg=>c4 O b5I ⟨hg,O,O,J⟩ (P3 l nn p5 _ 0 O G hl 1 40 G) O ?_) (λhg=>?_)
       .
        intro _ _;exact d8t
       .
        refine b64 ?_;exact⟨(_,p5),⟨do_,do_⟩,⟨⟨J,O⟩,⟨J,O⟩,⟨J,O⟩,⟨J,O⟩,⟨J,O⟩,⟨J,O⟩,⟨J,O⟩,J⟩,O⟩
      .intro ⟨b6,p6⟩ E6 ⟨hq6,hr6⟩;dsimp only at hq6 hr6⊢;refine qC ?_ ?_<;>intro h7
       .refine qY (A9 [scv (dt.take i)] O ⟨J,J⟩ t_2 t_0 t_3 O O O O O O O O O) ?_;refine qD (C8 O J J O U q_3 t_2 t_0 a4M t_3 O (.inr O) q_7 a6h G6 ((cr++[(dt.take i)]).map scv) (cr++[(dt.take i)]).length U U ?_);refine qY a9C ?_;refine qk (qY V4 ?_);exact⟨(s++dt,cr++[(dt.take i)],p6,n-1),[0,1,3],e1E,⟨O,O⟩,ut_,uq_⟩
       .refine qk ?_;exact d8f
     .refine qY o7 ?_;exact⟨(i+1),G,af,tu_,O⟩
    .refine j8 ?_;refine O6 (α:=Bool×Nat) (λx=>[(0,.ptr 0 0),(5,(sv s)),(9,(.list (cr.map scv) (gnn cr.length) (F1 cr.length 2))),(10,iv n),(11,(sv dt)),(12,(sv dt)),(84,(.val (.bool x.1)))]) (λx=>[w8 l nn x.2,m0 seen.length,m0 cr.length]) (λx=>p5<=x.2/\x.2<=p5+1) ?_ ?_
     .
      refine qk (qY (c5 O d1W i7 (b1O cr _ _ G _) O) ?_);refine qG C9 ?_;refine b8z (.val (.bool false)) O O J O O (λhg=>c4 O b5I ⟨hg,O,O,J⟩ (P3 l nn p5 _ 0 O G hl 1 40 G) O ?_) (λhg=>?_)
      .
       intro _ _;exact d8t
      .
       refine b64 ?_;exact⟨(_,p5),⟨do_,do_⟩,⟨⟨J,O⟩,⟨J,O⟩,⟨J,O⟩,⟨J,O⟩,⟨J,O⟩,⟨J,O⟩,⟨J,O⟩,J⟩,O⟩
     .intro ⟨b6,p6⟩ E6 ⟨hq6,hr6⟩;dsimp only at hq6 hr6⊢;refine qC ?_ ?_<;>intro h8
      .refine qY (A9 [scv dt] O ⟨J,J⟩ t_2 t_0 t_3 O O O O O O O O O) ?_;refine qD (C8 O J J O U q_3 t_2 t_0 a4M t_3 O (.inr O) q_7 a6h G6 ((cr++[dt]).map scv) (cr++[dt]).length U U ?_);refine qY a9C ?_;refine qk (qY V4 ?_);exact⟨(s++dt,cr++[dt],p6,n-1),[0,1,3],e1E,⟨O,O⟩,ut_,uq_⟩
      .refine qk ?_;exact d8f
   .have fW:n=0:=sm_ h4;subst fW;refine j8 ?_;refine qD (c4 O b5I a4N (P3 l nn p2 _ 0 O G hl 1 30 G) O ?_);intro _ _;refine qC ?_ ?_<;>intro h9
    .refine qY (A9 (([[102,117,110,99],[125],[34],[116,101,115,116,32,116,32,61,32,49,59],[120]]:List I).map scv) O ⟨O,O,O,O,O,J⟩ t_2 t_0 t_3 O O O O O O O O O) ?_;refine qD (c4 O a3a i7 (G9 l nn (p2+1) _ 0 O G hl ([[102,117,110,99],[125],[34],[116,101,115,116,32,116,32,61,32,49,59],[120]]:List I) U U) O ?_);intro v hv;have dy:v.length<=11:=by revert v;decide
     refine qY a9C ?_;refine c6 ?_;exact⟨_,rE1,⟨(_,p2+2),a2V O X3 (.old (.val _)),(by show List.length _<=_;simp only[n_8];omega),do_,do_⟩⟩
    .refine c6 ?_;exact⟨_,rE1,⟨(_,p2+1),a2V O X3 (.old (.val _)),(by show List.length _<=_;simp only;omega),do_,do_⟩⟩
theorem b43(l:List Int)(nn:Bool)(k:Nat)(aU:k<=600000000)(hl:l.length<=maxLen)(pkg:I)(du:pkg.length<=8)(σ:List b9)(q:Nat)(hq:σ[q]?=some (w8 l nn k)):b8 CC 32 [.ptr q 0,(sv pkg)] σ λr τ=>∃a:I×Nat,r= .ret (sv a.1)/\τ=σ.set q (w8 l nn a.2)/\(a.1.length<=6300/\k<=a.2/\a.2<=k+1070):=
 a9y (c:=λa:I×Nat=>sv a.1) (S:=λa=>w8 l nn a.2) hCC (λa h=>by simp at h;subst h;exact .val _) (λ_=>.val _) (λ_=>G3 _ _ _) (G3 _ _ _) O (c2l l nn k aU hl pkg du) σ q hq
def a1I:List I:=([[97,46,100,97,116],[100,47,98,46,100,97,116],[99]]:List I)
def a3P:List I:=([[97,46,115,114,99],[98,46,115,114,99],[100,47,99,46,115,114,99],[120,46,115,114,99],[97,46,100,97,116],[100,47,98,46,100,97,116],[99],[122,48,46,115,114,99],[122,49,46,115,114,99],[122,50,46,115,114,99]]:List I)
structure O3(B:Nat)(fl:List Fi):Prop where
 srt:c7d fl
 pth:∀f∈fl,f.p∈a3P
 byt:∀f∈fl,f.b.length<=B
theorem O3.nil(B:Nat):O3 B []:=⟨.nil,λf h=>by simp at h,λf h=>by simp at h⟩
theorem O3.mono{C:Nat}(h:O3 B fl)(hc:B<=C):O3 C fl:=⟨h.srt,h.pth,λf hf=>a1u (h.byt f hf) hc⟩
theorem O3.len(h:O3 B fl):fl.length<=10:=by
 have hn:(fl.map Fi.p).Nodup:=by
  rw[c3V,b3M];exact h.srt.imp λ{a b} df he=>by rw[he,b50]at df;cases df
 have hs:∀x∈fl.map Fi.p,x∈a3P:=λx hx=>by
  obtain⟨f,hf,rfl⟩:=D6.1 hx;exact h.pth f hf
 have:=List.Nodup.length_le_of_subset hn (λx hx=>hs x hx);rw[K6]at this;exact this
theorem b3C{f:Fi}:∀l:List Fi,a9b f true l=l.filter λx=>!decide (x.p=f.p)
 | []=>rfl
 |x::l=>by
  rw[a9b,Bool.true_or,b3C l,b2n];by_cases h:x.p=f.p<;>simp[h]
theorem a8k{f:Fi}{x:Fi}:∀{d:Bool} {l:List Fi},x∈a9b f d l->x=f\/x∈l
 |d,[],h=>by
  cases d<;>simp[a9b]at h
  exact .inl h
 |d,y::l,h=>by
  rw[a9b]at h
  rcases T9.1 h with h|h
  .split at h<;>simp at h
   exact .inl h
  .rcases T9.1 h with h|h
   .split at h<;>simp at h
    exact .inr (by rw[h];simp)
   .rcases a8k h with h|h
    .exact .inl h
    .exact .inr (a13 _ h)
theorem b7r{f:Fi}:∀{l:List Fi},c7d l->c7d (a9b f false l)
 | [],_=>by simp[a9b,c7d]
 |y::l,h=>by
  obtain⟨h1,h2⟩:=a1D.1 h;rw[a9b];by_cases aM:leF f y=true
  .simp only[aM,Bool.not_false,Bool.and_self,if_true,Bool.or_true,b3C];have hl:c7d (l.filter λx=>!decide (x.p=f.p)):=h2.filter _;have bK:∀g∈l.filter λx=>!decide (x.p=f.p),Op.bytesLess f.p g.p=true:=λg hg=>by
    have hy:=h1 g ((a7e.1 hg).1);unfold leF at aM;simp only[a80,a2t]at aM
    rcases aM with aM|aM
    .exact a7k aM hy
    .rw [aM];exact hy
   by_cases fF:y.p=f.p
   .rw [Q fF,a7j];exact a1D.2 ⟨bK,hl⟩
   .rw [W fF];have hfy:Op.bytesLess f.p y.p=true:=by
     unfold leF at aM;simp only[a80,a2t]at aM
     rcases aM with aM|aM
     .exact aM
     .exact absurd aM.symm fF
    refine a1D.2 ⟨λg hg=>?_,a1D.2 ⟨λg hg=>h1 g ((a7e.1 hg).1),hl⟩⟩
    rcases J2.1 hg with rfl|hg
    .exact hfy
    .exact bK g hg
  .have fm:leF f y=false:=D aM;have fF:¬y.p=f.p:=λh=>by rw[leF,h]at fm;simp at fm
   simp only[fm,Bool.and_false,Bool.or_false,W fF];have:Op.bytesLess y.p f.p=true:=by
    unfold leF at fm;simp only[c2B,b1d]at fm;exact c7W fm.1 fm.2
   refine a1D.2 ⟨λg hg=>?_,b7r h2⟩
   rcases a8k hg with rfl|hg
   .exact this
   .exact h1 g hg
theorem O3.ins(h:O3 B fl){f:Fi}(hp:f.p∈a3P)(hb:f.b.length<=B):O3 B (a6f fl f):=
 ⟨b7r h.srt,λg hg=>by
  rcases a8k hg with rfl|hg
  .exact hp
  .exact h.pth g hg,λg hg=>by
  rcases a8k hg with rfl|hg
  .exact hb
  .exact h.byt g hg⟩
theorem O3.rem(h:O3 B fl)(s:I):O3 B (a4U fl s):=
 ⟨h.srt.filter _,λg hg=>h.pth g ((a7e.1 hg).1),λg hg=>h.byt g ((a7e.1 hg).1)⟩
theorem c35:∀s∈J3,s∈a3P:=by decide
theorem c2Y:∀s∈a1I,s∈a3P:=by decide
theorem R7(fl:List Fi)(nn:Bool):p9 (.agg (A0 fl nn)):=o0 (cs:=A0 _ _) ⟨D9 _ _,J⟩
theorem a2n{l:List α}(h:i<l.length):∃y,l[i]?=some y/\y∈l:=⟨l[i],by simp[h],b3z h⟩
theorem b6k(l:List Int)(nn:Bool)(k:Nat)(aU:k<=500000000)(hl:l.length<=maxLen):b8 CC 26 [.ptr 0 0] [w8 l nn k] λr τ=>∃a:List Fi×Nat,F0 1 τ r (.ret (.agg (A0 a.1 (gnn a.1.length)))) [w8 l nn a.2]/\(O3 6300 a.1/\k<=a.2/\a.2<=k+4400):=by
 refine qO Tryz.func26 ?_;refine d2w ?_;refine qY (c5 O Tryz.call28 trivial (a7z _) O) ?_;refine qY P5 ?_;refine J8 (α:=List Fi×Nat×Nat) (λx=>[(0,.ptr 0 0),(2,.ptr 1 0),(3,.ptr 2 0),(8,(.list (J3.map scv) true none)),(9,iv J3.length),(10,iv x.2.2)]) (λx=>[w8 l nn (x.2.1),.box (A0 [] false),.box (A0 x.1 (gnn x.1.length))]) (λx=>x.2.2<=J3.length/\O3 6300 x.1/\k+0<=x.2.1/\x.2.1<=k+0+x.2.2*1072) (λx=>J3.length -x.2.2) ([],k,0) ⟨n_5 _,.nil _,do_,do_⟩ tu_ O ?_;intro⟨fl,p,i⟩ E0 ⟨hi,hm,gu,cB⟩;dsimp only at hi hm gu cB⊢;have hL:J3.length=4:=O;have hml:=hm.len;refine qs 2 (qC ?_ ?_)<;> intro h1
 .have af:i<J3.length:=sm_ h1;obtain⟨y,hb,fy⟩:=a2n af;refine O6 (α:=List Fi×Nat) (λx=>[(0,.ptr 0 0),(2,.ptr 1 0),(3,.ptr 2 0),(8,(.list (J3.map scv) true none)),(9,iv J3.length),(10,iv i)]) (λx=>[w8 l nn (x.2),.box (A0 [] false),.box (A0 x.1 (gnn x.1.length))]) (λx=>O3 6300 x.1/\p<=x.2/\x.2<=p+1072) ?_ ?_
  .
   refine qk (qY a4u ?_);refine qD (c4 O b5I a4N (P3 l nn p _ 0 O G hl 3 4 G) O ?_);intro _ _;refine qC ?_ ?_<;>intro h2
   .refine d2R ?_;refine b7Q ?_;refine chf O d3x ?_;refine H4 ?_;refine B6 O O O (c4 O a3a i7 (G9 l nn (p+1) _ 0 O G hl Q2 H H) O ?_);intro v hv;have dy:v.length<=8:=R1 (.inl hv);refine⟨⟨a11,D7,D7,J⟩,?_⟩;refine B6 O O O (c4 O Tryz.call32 i7 (b43 l nn (p+2) G hl v dy _ 0 O) O ?_);intro⟨s,p3⟩ ⟨hs,bW,ce⟩;dsimp only at hs bW ce⊢;refine d4N ?_;refine d8N ?_;exact⟨(a6f fl ⟨y,s⟩,p3),⟨hm.ins (c35 _ fy) hs,do_,do_⟩,tu_,O⟩
   .exact ⟨(fl,p+1),⟨hm,do_,do_⟩,tu_,O⟩
  .intro ⟨fl,p4⟩ E0 ⟨hm,bW,ce⟩;dsimp only at hm bW ce⊢;refine qk (qY o7 ?_);exact⟨(fl,p4,i+1),do_,⟨do_,hm,do_,do_⟩,tu_,O⟩
 .refine j8 ?_;refine qY e2x ?_;refine qY P5 ?_;refine J8 (α:=List Fi×Nat×Nat) (λx=>[(0,.ptr 0 0),(2,.ptr 1 0),(3,.ptr 2 0),(26,(.list (a1I.map scv) true none)),(27,iv a1I.length),(28,iv x.2.2)]) (λx=>[w8 l nn (x.2.1),.box (A0 [] false),.box (A0 x.1 (gnn x.1.length))]) (λx=>x.2.2<=a1I.length/\O3 6300 x.1/\k+0<=x.2.1/\x.2.1<=k+4288+x.2.2*5) (λx=>a1I.length -x.2.2) (fl,p,0) ⟨n_5 _,hm,do_,do_⟩ tu_ O ?_;intro⟨fl,p,i⟩ E0 ⟨hi,hm,gu,cB⟩;dsimp only at hi hm gu cB⊢;have hL:a1I.length=3:=O;have hml:=hm.len;refine qk (qC ?_ ?_)<;> intro h3
  .have af:i<a1I.length:=sm_ h3;obtain⟨y,hb,fy⟩:=a2n af;refine qY a4u ?_;refine qD (c4 O b5I a4N (P3 l nn p _ 0 O G hl 1 3 G) O ?_);intro _ _;refine qC ?_ ?_<;>intro h4
   .refine cF [] [0,1,2] (tl:=[(3,[0,1]),(4,[0]),(5,[]),(6,[])]) ?_;refine c1K ?_;refine b8h ?_;refine B6 O O O (c4 O Tryz.call30 ⟨J,J⟩ (c2R l nn (p+1) G hl _ 0 O) O ?_);intro⟨s,p3⟩ ⟨hs,bW,ce⟩;dsimp only at hs bW ce⊢;refine d4N ?_;refine d8N ?_;refine qY o7 ?_;exact⟨(a6f fl ⟨y,s⟩,p3,i+1),do_,⟨do_,hm.ins (c2Y _ fy) do_,do_,do_⟩,tu_,O⟩
   .refine qY o7 ?_;exact⟨(fl,p+1,i+1),do_,⟨do_,hm,do_,do_⟩,tu_,O⟩
  .refine j8 ?_;refine d3R ?_;exact⟨_,B1 O a4j,⟨(fl,p),a2V O X3 (.old (R7 _ _).old),hm,do_,do_⟩⟩
theorem b7u(l:List Int)(nn:Bool)(k:Nat)(aU:k<=500000000)(hl:l.length<=maxLen)(σ:List b9)(q:Nat)(hq:σ[q]?=some (w8 l nn k)):b8 CC 26 [.ptr q 0] σ λr τ=>∃a:List Fi×Nat,r= .ret (.agg (A0 a.1 (gnn a.1.length)))/\τ=σ.set q (w8 l nn a.2)/\(O3 6300 a.1/\k<=a.2/\a.2<=k+4400):=
 a9y (c:=λa:List Fi×Nat=>(.agg (A0 a.1 (gnn a.1.length)))) (S:=λa=>w8 l nn a.2) hCC (λa h=>by simp at h) (λ_=>R7 _ _) (λ_=>G3 _ _ _) (G3 _ _ _) O (b6k l nn k aU hl) σ q hq
theorem b1l{e:Nat}{c:UInt8}(h:s[e]?=some c)(hae:a<=e):sub s a (e+1)=sub s a e++[c]:=by
 obtain⟨af,rfl⟩:=n_2.1 h;unfold sub;rw[<- b1s af,List.drop_append_of_le_length a9r]
theorem sub_self:sub s a a=[]:=by unfold sub;exact Y4 a9r
theorem d3Y(l:I)(c:UInt8):a4E (l++[c])=min (10*a4E l+((c.toNat:Int) -48)) 9007199254740993:=by
 unfold a4E;rw[c4w];rfl
theorem b3O{e:Nat}{ks:List Int}(h:∀c,s[e]?=some c->inK ks c=false):A2 s e ks=e:=by
 cases hc:s[e]? with
 |none=>exact a86 (D hc)
 |some c=>rw[W7 hc,W (by rw[h c hc];simp)]
theorem d4u:∀x:Fin 256,(l9 (x.val:Int)=8)=(UInt8.ofNat x.val∈a4s):=by decide
theorem b9k(b:UInt8):l9 b.toNat=8↔b∈a4s:=by
 have h:=d4u ⟨b.toNat,b.toNat_lt⟩;simp only at h;rw[h];simp
theorem c2Q:preB [61,61] (s.drop a)=true↔s[a]?=some 61/\s[a+1]?=some 61:=by
 unfold preB;rw[b9r];constructor
 .rintro ⟨t,ht⟩;have h0:(s.drop a)[0]?=some 61:=by rw[<- ht];rfl
  have h1:(s.drop a)[1]?=some 61:=by rw[<- ht];rfl
  rw[a6d]at h0 h1;exact⟨h0,h1⟩
 .rintro ⟨h0,h1⟩;obtain⟨l0,e0⟩:=n_2.1 h0;obtain⟨l1,e1⟩:=n_2.1 h1;refine⟨s.drop (a+2),?_⟩;rw[Y0 l0,Y0 l1,e0,e1];rfl
theorem d6O(h0:s[a]?=some 61)(h1:s[a+1]?=some 61):sub s a (a+2)=[61,61]:=by
 rw[show a+2=(a+1)+1 from O,b1l h1 G,b1l h0 (n_6 _),sub_self];rfl
def b1X(s:I)(a:Nat)(b:UInt8):Tok:=if(D5 s a b).2.2=0 then {(D5 s a b).1 with at_:=(a:Nat)}else⟨0,[],0,0⟩
theorem d3O{b:UInt8}(hn:n<256):((b.toNat:Int)=(n:Int))↔b=UInt8.ofNat n:=by
 constructor
 .intro h;have h2:b.toNat=(UInt8.ofNat n).toNat:=by rw[UInt8.toNat_ofNat',b3B (D hn)];omega
  exact b8i.1 h2
 .rintro rfl;rw[UInt8.toNat_ofNat',b3B (D hn)]
theorem c6f(s:I)(hs:s.length<=1000000000)(a:Nat)(b:UInt8)(hb:s[a]?=some b)(ha:a<s.length):b8 CC 221 [(sv s),iv a] [] λr τ=>∃_:Unit,X8 0 τ r (.ret (.tup [.agg (b1X s a b).cells,(iv ((D5 s a b).2.1)),(iv ((D5 s a b).2.2))]))/\True:=by
 refine qO Tryz.func221 ?_;refine qD (o6 O a3b O j4 ?_);refine qY b7A ?_;refine qY (c5 O d1e ⟨J,J⟩ (a5v b _) O) ?_;refine qC ?_ ?_<;>intro h1
 .have hk:l9 b.toNat=1:=D h1;refine o4 hCC (λe:Nat=>[(0,(sv s)),(1,iv a),(4,.ptr 0 0),(5,iv e)]) (λ_=>[.box (Tok.cells ⟨0,[],0,0⟩)]) (λe=>a<=e/\e<=s.length/\A2 s a [1,2,3]=A2 s e [1,2,3]) (λe=>s.length -e) a ⟨n_6 _,G,O⟩ tu_ (am:=[]) O B5 uz_ ?_;intro e ⟨hae,gC,hr⟩;obtain⟨c,hc⟩:∃c:UInt8,e<s.length->s[e]?=some c:=by
   by_cases aM:e<s.length
   .exact ⟨s[e],λ_=>by simp[aM]⟩
   .exact ⟨0,λh=>absurd h aM⟩
  refine a7d ?_;refine d3W ?_;refine qG (λhg=>c5 O d1d ⟨hg,J⟩ (a6Z c _) O) ?_;refine qY R4 ?_;refine qC ?_ ?_<;>intro h2
  .have dI:e<s.length/\inK [1,2,3] c=true:=D h2;have hce:=hc dI.1;refine qY o7 ?_;exact⟨(e+1),_,⟨G,G,G,by rw[hr,W7 hce,Q dI.2]⟩,tu_,O⟩
  .have hse:A2 s a [1,2,3]=e:=by
    rw[hr];refine b3O λc' bx=>?_;have aM:=(n_2.1 bx).1;rw[hc aM]at bx;injection bx with bx
    subst bx;have h3:e<s.length->inK [1,2,3] c=false:=D h2;exact h3 aM
   refine j8 ?_;refine qY (a8s O J J O O G G) ?_;refine qC ?_ ?_<;>intro h3
   .have hx:D5 s a b=(⟨0,[],0,0⟩,0,2):=by
     unfold D5;rw[Q hk,hse,Q (sm_ h3)]
    exact d6Z
   .have hx:D5 s a b=(⟨1,sub s a e,0,0⟩,(e:Int),0):=by
     unfold D5;rw[Q hk,hse,W (sm_ h3)]
    refine qY (K7 (a:=a) (h:=e) O J O t_5 a24 a24 a4p a4p) ?_;refine qY d5u ?_;exact d0b
 .have bB:¬l9 b.toNat=1:=D h1;refine qG C9 ?_;refine a4w ?_;refine qC ?_ ?_<;>intro h4
  .have cc:l9 b.toNat=2:=by rw[a4S];simp at h4;omega
   refine o4 hCC (λx:Nat×Int=>[(0,(sv s)),(1,iv a),(4,.ptr 0 0),(5,iv x.1),(8,iv x.2)]) (λ_=>[.box (Tok.cells ⟨0,[],0,0⟩)]) (λx=>a<=x.1/\x.1<=s.length/\A2 s a [2]=A2 s x.1 [2]/\0<=x.2/\x.2<=90071992547409930/\min x.2 9007199254740993=a4E (sub s a x.1)) (λx=>s.length -x.1) (a,0) ⟨n_6 _,do_,O,do_,do_,by rw[sub_self];rfl⟩ tu_ (am:=[]) O B5 uz_ ?_;intro⟨e,n⟩ ⟨hae,gC,hr,eN,bd,bX⟩;dsimp only at hae gC hr eN bd bX⊢;obtain⟨c,hc⟩:∃c:UInt8,e<s.length->s[e]?=some c:=by
    by_cases aM:e<s.length
    .exact ⟨s[e],λ_=>by simp[aM]⟩
    .exact ⟨0,λh=>absurd h aM⟩
   refine qs 1 (qY S4 ?_);refine b42 ?_;refine b42 ?_;refine qC ?_ ?_<;>intro h5
   .have iP:e<s.length/\48<=c.toNat/\c.toNat<=57:=by
     simp at h5;omega
    have hce:=hc iP.1;have hk2c:l9 c.toNat=2:=a4S.2 iP.2;have bY:=d3Y (sub s a e) c;rw[<- b1l hce hae]at bY;refine O6 (α:=Int) (λn'=>[(0,(sv s)),(1,iv a),(4,.ptr 0 0),(5,iv e),(8,iv n')]) (λ_=>[.box (Tok.cells ⟨0,[],0,0⟩)]) (λn'=>0<=n'/\n'<=90071992547409930/\min n' 9007199254740993=a4E (sub s a (e+1))) ?_ ?_
    .
     refine qk (qC ?_ ?_)<;> intro h6
     .have bZ:n<=9007199254740992:=D h6;refine qY (b7I O J O O O G G) ?_;refine qY (M9 O J J O O t_5 G (by rw[a3N];exact hce)) ?_;refine qY a0c ?_;refine qY (b1c O J O b6r c3L (show IntKind.i64.wrap (IntKind.u8.wrap ((c.toNat:Int) -48))=(c.toNat:Int) -48 by rw[wr8 G G,b0O G G])) ?_;refine qY a6A ?_;exact⟨_,(by exact⟨G,G,by rw[bY,<- bX];omega⟩),⟨⟨J,O⟩,⟨J,O⟩,⟨J,O⟩,⟨J,O⟩,⟨J,O⟩,J⟩,O⟩
     .have bZ:9007199254740992<n:=D h6;exact⟨n,⟨eN,bd,by rw[bY,<- bX];omega⟩,tu_,O⟩
    .intro n' E' ⟨hn0',hn1',hnm'⟩;refine qk (qY o7 ?_);exact⟨(e+1,n'),_,⟨do_,do_,do_,by dsimp only;rw[hr,W7 hce,Q (by simp[inK,hk2c])],hn0',hn1',hnm'⟩,tu_,O⟩
   .have hse:A2 s a [2]=e:=by
     rw[hr];refine b3O λc' bx=>?_;have aM:=(n_2.1 bx).1;rw[hc aM]at bx;injection bx with bx
     subst bx;have hnk:¬l9 c.toNat=2:=λhk=>by
      have:=a4S.1 hk;simp at h5;omega
     simp[inK,hnk]
    refine j8 ?_;refine qC ?_ ?_<;>intro h7
    .have hx:D5 s a b=(⟨0,[],0,0⟩,0,3):=by
      unfold D5;rw[W bB,Q cc,hse,Q (by rw[<- bX];simp at h7;omega)]
     exact d6Z
    .have hx:D5 s a b=(⟨2,[],n,0⟩,(e:Int),0):=by
      unfold D5;have dY:a4E (sub s a e)=n:=by rw[<- bX];simp at h7;omega
      rw[W bB,Q cc,hse,dY,W (sm_ h7)]
     refine qY d5u ?_;exact d0b
  .have cc:¬l9 b.toNat=2:=by rw[a4S];simp at h4;omega
   refine qC ?_ ?_<;>intro h8
   .have hb34:b=34:=by
     have:(b.toNat:Int)=((34:Nat):Int):=D h8;exact(d3O (n:=34) G).1 this
    have fR:l9 b.toNat=7:=by rw[hb34];rfl
    refine qY o7 ?_;refine o4 hCC (λe:Nat=>[(0,(sv s)),(1,iv a),(4,.ptr 0 0),(5,iv e)]) (λ_=>[.box (Tok.cells ⟨0,[],0,0⟩)]) (λe=>a+1<=e/\e<=s.length/\a36 (s.drop (a+1))=(a36 (s.drop e)).map (· +(e- (a+1)))) (λe=>s.length -e) (a+1) ⟨n_6 _,G,U⟩ tu_ (am:=[]) O B5 uz_ ?_;intro e ⟨hae,gC,hr⟩;obtain⟨c,hc⟩:∃c:UInt8,e<s.length->s[e]?=some c:=by
     by_cases aM:e<s.length
     .exact ⟨s[e],λ_=>by simp[aM]⟩
     .exact ⟨0,λh=>absurd h aM⟩
    refine a7d ?_;refine b42 ?_;refine b42 ?_;refine b42 ?_;refine qC ?_ ?_<;>intro h9
    .have h9':e<s.length/\32<=c.toNat/\c.toNat<=126/\¬c.toNat=34:=by
      simp at h9;omega
     have hce:=hc h9'.1;refine qY o7 ?_;exact⟨(e+1),_,⟨G,G,G,by
      rw[hr,a3l hce,Q ⟨h9'.2.1,h9'.2.2.1⟩,W h9'.2.2.2,Option.map_map]
      congr 1
      funext x
      simp only[Function.comp];omega⟩,tu_,O⟩
    .refine j8 ?_;refine qY S4 ?_;refine d3W ?_;refine a8q ?_;refine qC ?_ ?_<;>intro bp
     .have hx:D5 s a b=(⟨0,[],0,0⟩,0,9):=by
       have hq:a36 (s.drop (a+1))=none:=by
        rw[hr];by_cases aM:e<s.length
        .rw [a3l (hc aM)];have h9':¬(e<s.length/\32<=c.toNat/\c.toNat<=126/\¬c.toNat=34):=by
          simp at h9;omega
         have h10':¬c.toNat=34:=by
          simp at bp;omega
         rw[W G];rfl
        .rw [b3X G];rfl
       unfold D5;rw[W bB,W cc,Q fR,hq]
      exact d6Z
     .have h10':e<s.length/\c.toNat=34:=by
       simp at bp;omega
      have hx:D5 s a b=(⟨3,sub s (a+1) e,0,0⟩,(e+1:Int),0):=by
       have hq:a36 (s.drop (a+1))=some (e- (a+1)):=by
        rw[hr,a3l (hc h10'.1),Q G,Q h10'.2];simp
       unfold D5;rw[W bB,W cc,Q fR,hq];have e1:a+1+(e- (a+1))=e:=by omega
       refine Prod.ext ?_ (Prod.ext ?_ O)
       .simp only[e1]
       .show ((a:Int)+1+((e- (a+1):Nat):Int)+1)=(e:Int)+1;omega
      refine qY o7 ?_;refine qY (K7 (a:=(a+1)) (h:=e) O J O t_5 a24 a24 a4p a4p) ?_;refine qY d5u ?_;refine qY o7 ?_;exact d0b
   .have fR:¬l9 b.toNat=7:=by
     intro hk;unfold l9 at hk
     repeat' split at hk
     all_goals first|omega|(simp at h8;omega)
    obtain⟨c1,cz⟩:∃c:UInt8,a+1<s.length->s[a+1]?=some c:=by
     by_cases aM:a+1<s.length
     .exact ⟨s[a+1],λ_=>by simp[aM]⟩
     .exact ⟨0,λh=>absurd h aM⟩
    refine qY b7A ?_;refine qG C9 ?_;refine qG e1y ?_;refine a7C ?_;refine qG a9q ?_;refine qY R4 ?_;refine a4A ?_;refine qG e1y ?_;refine qG (λhg=>M9 O hg hg O O t_5 a9M (by rw[show((a:Int)+1).toNat=a+1 by omega];exact cz (sm_ hg))) ?_;refine a4w ?_;refine qC ?_ ?_<;>intro eF
    .have h11':b=61/\a+1<s.length/\c1=61:=by
      simp at eF;exact⟨(d3O (n:=61) G).1 G,G,(d3O (n:=61) G).1 G⟩
     have cg:s[a]?=some 61:=by rw[hb,h11'.1]
     have dM:s[a+1]?=some 61:=by rw[cz h11'.2.1,h11'.2.2]
     have hx:D5 s a b=(⟨4,[61,61],0,0⟩,(a+2:Int),0):=by
      have hk8:l9 b.toNat=8:=by rw[h11'.1];rfl
      unfold D5;rw[W bB,W cc,W fR,Q hk8,Q (c2Q.2 ⟨cg,dM⟩),d6O cg dM]
     refine qY (A1 #[(0,1),(1,1),(2,1),(3,1)] O ⟨O,O,J,J⟩ a8T a3b O ⟨_,O⟩ (λw=>by kernel_rfl) O O) ?_;refine qY o7 ?_;exact d0b
    .have cH:¬preB [61,61] (s.drop a)=true:=λhp=>by
      obtain⟨p1,p2⟩:=c2Q.1 hp;have aM:=(n_2.1 p2).1;rw[hb]at p1;rw[cz aM]at p2;injection p1 with p1
      injection p2 with p2
      subst p1 p2;simp at eF;omega
     refine c92 a4s O O O O O O O O ⟨O,O,O,O,O,O,O,O,O,O,O,J⟩ a0R a2U a59 b6r O O O O O O O ?_;refine qo (qY a9U ?_);refine o4 hCC (λi:Nat=>[(0,(sv s)),(1,iv a),(4,.ptr 0 0),(156,(.list (a4s.map bcv) true none)),(157,iv a4s.length),(158,iv i)]) (λ_=>[.box (Tok.cells ⟨0,[],0,0⟩)]) (λi=>i<=a4s.length/\∀x∈a4s.take i,x≠b) (λi=>a4s.length -i) 0 ⟨n_5 _,λx hx=>by simp at hx⟩ tu_ (am:=[]) O B5 uz_ ?_;intro i ⟨hi,hni⟩;have hSL:a4s.length=11:=O;refine qk (qC ?_ ?_)<;> intro eG
     .have hli:i<a4s.length:=sm_ eG;obtain⟨y,hy,fy⟩:=a2n hli;refine qY (r6 O J J O O a0R a2U G (j5 hy) O) ?_;refine qY b7A ?_;refine qC ?_ ?_<;>intro eH
      .have hby:b=y:=by
        have:(b.toNat:Int)=(y.toNat:Int):=D eH;exact b8i.1 G
       have hx:D5 s a b=(⟨4,sub s a (a+1),0,0⟩,(a+1:Int),0):=by
        unfold D5;rw[W bB,W cc,W fR,Q ((b9k b).2 (hby▸fy)),W cH]
       refine qY o7 ?_;refine qY (K7 (a:=a) (h:=(a+1)) O J O t_5 a24 a24 a4p a4p) ?_;refine qY d5u ?_;refine qY o7 ?_;exact d0b
      .have hby:¬b=y:=λe=>by
        rw[e]at eH;simp at eH
       refine qY o7 ?_;exact⟨(i+1),_,⟨G,G,λx hx=>by
        rw[Z2,hy]at hx
        rcases T9.1 hx with hx|hx
        .exact hni x hx
        .simp at hx;subst hx;exact λe=>hby e.symm⟩,tu_,O⟩
     .have gN:i=a4s.length:=sm_ eG;have hx:D5 s a b=(⟨0,[],0,0⟩,0,9):=by
       have hk8:¬l9 b.toNat=8:=λhk=>by
        have hm:=(b9k b).1 hk;rw[gN,U2 (n_6 _)]at hni;exact hni b hm O
       unfold D5;rw[W bB,W cc,W fR,W hk8]
      refine j8 ?_;exact d6Z
theorem c7U(s:I)(hs:s.length<=1000000000)(a:Nat)(b:UInt8)(hb:s[a]?=some b)(ha:a<s.length)(σ:List b9):b8 CC 221 [(sv s),iv a] σ λr τ=>r= .ret (.tup [.agg (b1X s a b).cells,(iv ((D5 s a b).2.1)),(iv ((D5 s a b).2.2))])/\τ=σ:=
 (D8 (res:=λ_:Unit=>.ret (.tup [.agg (b1X s a b).cells,(iv ((D5 s a b).2.1)),(iv ((D5 s a b).2.2))])) (P:=λ_=>True) hCC (λc h=>by simp at h;rcases h with rfl|rfl<;>exact .val _) (c6f s hs a b hb ha) (λ_ _=>C5 (cs:=[_,_,_]) ⟨o0 (cs:=[_,_,_,_]) ⟨.val _,.val _,.val _,.val _,J⟩,.val _,.val _,J⟩) σ).mono λr τ ⟨_,h1,h2,_⟩=>⟨h1,h2⟩
theorem d6m{b:UInt8}(h:(D5 s a b).2.2=0):b1X s a b={(D5 s a b).1 with at_:=(a:Nat)}:=by rw[b1X,Q h]
theorem c2r(s:I)(hs:s.length<=1000000000):b8 CC 172 [(sv s)] [] λr τ=>∃x:c6h,X8 0 τ r (.ret (c6T x))/\d4k s x:=by
 refine qO Tryz.func172 ?_;refine qY S4 ?_;refine qC ?_ ?_<;>intro h1
 .have aj:16384<s.length:=sm_ h1;have hS:a3p s=none:=by rw[d2i,Q aj]
  refine c6 ?_;exact⟨_,r8 (rs:=[.tmp 2,.tmp 3,.tmp 4]) (cs:=[_,_,_]) O b3P (n_4 O),⟨([],false,0,2),by exact .ret (.tups ⟨.old (W8 _ [] false),.old (.val _),.old (.val _),J⟩),.inr ⟨hS,O,O,H⟩⟩⟩
 .refine qD (c4 O Tryz.call220 o3 (c44 s G 0 (n_5 _) _) O ?_);intro n ⟨_,hn,hnr,hnb⟩;have aj:¬16384<s.length:=sm_ h1;have hS:a3p s=a6j s n:=by rw[d2i,W aj,hnr]
  refine A5 hCC 0 O (α:=List Tok×Nat) (λx=>[(0,(sv s)),(2,(.list (x.1.map Tok.cv) (gnn x.1.length) (F1 x.1.length 0))),(3,iv x.2)]) (λx=>[m0 x.1.length]) (λx=>x.2<=s.length/\x.1.length<=x.2/\(∀b,s[x.2]?=some b->l9 b.toNat≠5/\l9 b.toNat≠6)/\a3p s=(a6j s x.2).map (x.1++·)) (λx=>s.length -x.2) ⟨([],n),[9],⟨hn,n_5 _,hnb,by rw[hS];simp⟩,⟨O,O⟩,ut_,uq_⟩ ?_;intro⟨bq,p⟩ ⟨hp,gI,hpb,hr⟩;dsimp only at hp gI hpb hr⊢;refine a7d ?_;refine qC ?_ ?_<;>intro h2
  .have af:p<s.length:=sm_ h2;obtain⟨b,hb⟩:∃b,s[p]?=some b:=⟨s[p]'af,U⟩;obtain⟨hb5,hb6⟩:=hpb b hb;rw[d2T hb hb5 hb6]at hr;refine qY (c5 O Tryz.call221 i7 (c7U s G p b hb af _) O) ?_;refine z_3 ?_;refine qC ?_ ?_<;>intro h3
   .have he:(D5 s p b).2.2≠0:=D h3;rw[Q he]at hr;refine c6 ?_;exact⟨_,r8 (rs:=[.tmp 2,.tmp 3,.tmp 4]) (cs:=[_,_,_]) O b3P (n_4 O),⟨([],false,(p:Int),(D5 s p b).2.2),by exact .ret (.tups ⟨.old (W8 _ [] false),.old (.val _),.old (.val _),J⟩),.inr ⟨hr,O,O,he⟩⟩⟩
   .have he:(D5 s p b).2.2=0:=D h3;have fJ:¬(D5 s p b).2.2≠0:=λh=>h he;rw[W fJ]at hr;obtain⟨q,hq,hpq,iy⟩:=a5Z hb fJ;have hta:=d6m he;refine qY (A9 [Tok.cv (b1X s p b)] O ⟨J,J⟩ b6f a3Z a3b O O O O O O O O O) ?_;refine qD (C8 O J J O U q_3 b6f a3Z c2E a3b O (.inr O) q_7 d4R G6 ((bq++[b1X s p b]).map Tok.cv) (bq++[b1X s p b]).length U U ?_);refine qD (c4 O Tryz.call220 i7 (by have h:=c44 s G q iy;rw[<- hq]at h;exact h _) O ?_);intro m ⟨hqm,hm,hmr,hmb⟩;exact⟨(bq++[b1X s p b],m),[2],⟨do_,hm,by dsimp only;rw[n_8,c0i];omega,hmb,by
     dsimp only;rw[hr,hq,a3N,hmr,hta,Option.map_map]
     congr 1
     funext t
     simp⟩,⟨O,O⟩,ut_,uq_⟩
  .have aH:p=s.length:=sm_ h2;rw[d1A aH]at hr;refine j8 ?_;refine qY S4 ?_;refine qY c1v ?_;refine qY (A9 [Tok.cv ⟨5,[],0,(s.length:Int)⟩] O ⟨J,J⟩ b6f a3Z a3b O O O O O O O O O) ?_;refine qD (C8 O J J O U q_3 b6f a3Z c2E a3b O (.inr O) q_7 d4R G6 ((bq++[(⟨5,[],0,(s.length:Int)⟩:Tok)]).map Tok.cv) (bq++[(⟨5,[],0,(s.length:Int)⟩:Tok)]).length U U ?_);refine c6 ?_;exact⟨_,r8 (rs:=[.tmp 2,.tmp 3,.tmp 4]) (cs:=[_,_,_]) O b3P (n_4 O),⟨((bq++[(⟨5,[],0,(s.length:Int)⟩:Tok)]),gnn (bq++[(⟨5,[],0,(s.length:Int)⟩:Tok)]).length,0,0),by exact .ret (.tups ⟨.tok (λr hr c hc=>(C6 (f:=Tok.cv) (λ_=>O4.all ⟨.val _,.val _,.val _,.val _,J⟩) _) r hr c hc),.old (.val _),.old (.val _),J⟩),.inl ⟨by rw[hr,aH];rfl,by rw[n_8];rfl,O,O⟩⟩⟩
theorem c52(s:I)(hs:s.length<=1000000000)(σ:List b9):b8 CC 172 [(sv s)] σ λr τ=>∃x:c6h,r= .ret (c6T x)/\τ=σ/\d4k s x:=
 D8 (res:=λx=>.ret (c6T x)) hCC (λa h=>by simp at h;subst h;exact .val _) (c2r s hs) (λ_ _=>C5 (cs:=[_,_,_]) ⟨a3F _ _,.val _,.val _,J⟩) σ
theorem c9A(e:Int):o5 e ([]:List Ex).length = .dead:=by
 unfold o5
 split<;>rfl
theorem c5Y{e:Int}{k p:Nat}:C3 L ak (.list (([]:List Ex).map Ex.cv) (gnn ([]:List Ex).length) (tkE e ([]:List Ex).length k)) (.list (([]:List Ex).map Ex.cv) (gnn ([]:List Ex).length) (tkE e ([]:List Ex).length p)):=by
 have h:∀k,tkE e ([]:List Ex).length k=none:=λk=>by
  unfold tkE
  split<;>rfl
 rw[h,h];exact .old a3d
theorem d2L{s5:I}{m n5:Nat}{l:List I}{S:Option (List I×Nat)}(hl:l.length<=8)(hi:isT (tk T m) 1 [105,109,112,111,114,116]=true)(hS:S=a1x (9-l.length) T w m l)(p1:l.length=8->e1≠0)(p2:l.length≠8->e1=0)(q5:Ok e1 ((K3 T (m+1)).map λx=>(x.1.t,x.2)) e5 (s5,n5))
 (p3:e5≠0->e6≠0)(p4:e5=0->s5=w\/s5∈l->e6≠0)(p5:e5=0->¬(s5=w\/s5∈l)->e6=0)(q7:Ok e6 (pIs T n5 4 [59]) e7 n7):(e7=0->l.length <8/\S=a1x (9- (l++[s5]).length) T w n7 (l++[s5]))/\(e7≠0->S=none):=by
 obtain⟨f,hf⟩:∃f,9-l.length=f+1:=⟨8-l.length,G⟩;have gK:9- (l++[s5]).length=f:=by simp;omega
 rw[hf,a1x,Q hi]at hS;rw[gK];have d7:e5≠0->e7≠0:=λh=>q7.2 (p3 h);by_cases h8:l.length=8
 .rw [Q h8]at hS;exact⟨λh=>absurd h (d7 (q5.2 (p1 h8))),λ_=>hS⟩
 .rw [W h8]at hS;have ia:=p2 h8;subst ia
  rcases q5.zero with⟨g5,hn⟩|⟨g5,hn⟩
  .obtain ⟨x,hx,hg⟩:=Q3.1 hn;injection hg with dG dg
   rw[hx,n_9,dG,dg]at hS;by_cases hm:s5=w\/s5∈l
   .rw [Q hm]at hS;exact⟨λh=>absurd h (q7.2 (p4 g5 hm)),λ_=>hS⟩
   .rw [W hm]at hS;have g6:=p5 g5 hm;subst g6
    rcases q7.zero with⟨g7,hi7⟩|⟨g7,hi7⟩
    .rw [hi7,n_9]at hS;exact⟨λ_=>⟨G,hS⟩,λh=>absurd g7 h⟩
    .rw [hi7]at hS;exact⟨λh=>absurd h g7,λ_=>hS⟩
  .rw [b3n.1 hn]at hS;exact⟨λh=>absurd h (d7 g5),λ_=>hS⟩
theorem c5S{m:Nat}{ds:List De}{S:Option (List De×Nat)}{a:RD5}(hl:ds.length<=64)(hk:¬(tk T m).k=5)(hS:S=T0 (65-ds.length) T m ds)(q:Ok 0 (a0F T ds m) a.e (a.d,a.n)):(a.e=0->ds.length <64/\S=T0 (65- (ds++[a.d]).length) T a.n (ds++[a.d]))/\(a.e≠0->S=none):=by
 obtain⟨f,hf⟩:∃f,65-ds.length=f+1:=⟨64-ds.length,G⟩;have gK:65- (ds++[a.d]).length=f:=by simp;omega
 rw[hf,T0,W hk]at hS;rw[gK]
 rcases q.zero with⟨g,hd⟩|⟨g,hd⟩
 .rw [hd,n_9]at hS;have:=b4S hd;exact⟨λ_=>⟨G,hS⟩,λh=>absurd g h⟩
 .rw [hd]at hS;exact⟨λh=>absurd h g,λ_=>hS⟩
structure RI5 where
 l:List I
 m:Nat
 at_:Int
 e:Int
variable{l:List I}
structure RJ5 where
 ds:List De
 m:Nat
 at_:Int
 e:Int
 ps:List I
 b:List Ex
variable{b:List Ex}{ps:List I}{e at_:Int}{m:Nat}
theorem d4z{m2:Nat}{ds:List De}(q1:Ok 0 (pIs T 0 1 [112,97,99,107,97,103,101]) e1 n1)(q2:Ok e1 ((K3 T n1).map λx=>(x.1.t,x.2)) e2 (w,n2))(q3:Ok e2 (pIs T n2 4 [59]) e3 n3)(q4:Ok e3 (a1x 9 T w n3 []) e4 (l,m))(q5:Ok e4 (T0 65 T m []) e5 (ds,m2)):Ok 0 (a1e T) e5 ⟨w,l,ds⟩:=by
 refine q1.bind (q2.bindM (λp hp hg=>?_) λh=>q5.2 (q4.2 (q3.2 h)));obtain⟨t,m'⟩:=p;injection hg with dG dg
 dsimp only at dG dg⊢;subst dG dg;exact q3.bind (q4.bind (q5.bind .some))
theorem c6M(s:I)(hs:s.length<=1000000000):b8 CC 119 [(sv s)] [] λr τ=>∃x:c5T,X8 0 τ r (.ret (c5y x))/\b5r s x:=by
 refine cO Tryz.func119 ?_;refine b0K ?_;refine L6 [.dead] O ?_;refine qs 4 (qD (o6 O a4C O j4 ?_));refine qD (c4 O Tryz.call172 ⟨J,J⟩ (c52 s hs _) O ?_);rintro⟨T,nn,at_,e⟩ hP;dsimp only at hP⊢;refine qC ?_ ?_<;>intro h1
 .have he:e≠0:=D h1;have hl:a3p s=none:=by
   rcases hP with⟨_,_,_,g⟩|⟨g,_⟩
   .exact absurd g he
   .exact g
  refine c72 ?_;exact⟨_,r8 (rs:=[.cell 2 99,.tmp 3,.tmp 4]) (cs:=[_,_,_]) O e00 (n_4 O),⟨((⟨[],[],[]⟩:Src),at_,e),d5d,.inr ⟨by rw[O5,hl];rfl,O,he⟩⟩⟩
 .have he:e=0:=D h1;obtain⟨hl,rfl,rfl⟩:a3p s=some T/\nn=true/\at_=0:=by
   rcases hP with⟨g1,g2,g3,_⟩|⟨_,_,_,g⟩
   .exact ⟨g1,g2,g3⟩
   .exact absurd he g
  subst he;obtain⟨hc,h0⟩:=b1G hl;have hT:=hc.len;have hW:=hc.w;have ah:O5 s=a1e T:=by rw[O5,hl];rfl
  refine qY (A1 #[(0,1),(1,1),(2,1),(3,1),(4,1),(5,1),(6,1)] O ⟨J,J⟩ b55 Tryz.zeroValue225 O ⟨_,O⟩ (λw=>by kernel_rfl) O O) ?_;refine qD (H3 O J j2 j4 ?_);refine L6 [o5 0 ([]:List Ex).length,.box [(sv ([])),.list (([]:List I).map scv) (gnn ([]:List I).length) none,.list (([]:List De).map De.cv) (gnn ([]:List De).length) none],rbx T 0 0 0 [] [] 0] O ?_;refine O6 (α:=Nat×Int×Int) (λ_=>[(2,.ptr 1 0),(6,.ptr 2 0)]) (λa=>[o5 a.2.2 ([]:List Ex).length,.box [(sv ([])),.list (([]:List I).map scv) (gnn ([]:List I).length) none,.list (([]:List De).map De.cv) (gnn ([]:List De).length) none],rbx T a.1 a.2.1 a.2.2 [] [] 0]) (λa=>Ok 0 (pIs T 0 1 [112,97,99,107,97,103,101]) a.2.2 a.1/\a.1 <T.length) ?_ ?_
  .
   refine qk (qD (c4 O b0p o3 (Z0 hT h0 hW [112,97,99,107,97,103,101] (q:=2) (s:=0) ⟨O,O,H⟩) O ?_));rintro⟨v9,m9⟩ ⟨fx,gM,iT,fz⟩;dsimp only at fx gM iT fz⊢;refine qN [o5 0 ([]:List Ex).length,.box [(sv ([])),.list (([]:List I).map scv) (gnn ([]:List I).length) none,.list (([]:List De).map De.cv) (gnn ([]:List De).length) none],rbx T m9 0 0 [] [] 0] O (qC ?_ ?_)<;> intro h2
   .have hw:v9=false:=D h2;refine qY (c5 O a7K ⟨J,J⟩ (a0v hT fz (q:=2) (s:=0) ⟨O,O,H⟩) O) ?_;refine d7F ?_;rintro⟨x0,y0⟩ bE;dsimp only at bE⊢;refine qN [o5 y0 ([]:List Ex).length,.box [(sv ([])),.list (([]:List I).map scv) (gnn ([]:List I).length) none,.list (([]:List De).map De.cv) (gnn ([]:List De).length) none],rbx T m9 x0 y0 [] [] 0] O ?_;exact⟨(m9,x0,y0),⟨b0y (fx.symm.trans hw) bE,fz⟩,tu_,O⟩
   .have hw:v9=true:=D h2;exact⟨(m9,0,0),⟨by dsimp only;rw[gM hw];exact b0D (fx.symm.trans hw),fz⟩,tu_,O⟩
  .rintro ⟨n1,a1,e1⟩ E1 ⟨q1,y1⟩;dsimp only at q1 y1⊢;refine qk (qD (c4 O b83 ⟨J,J⟩ (a8u hT y1 hW (q:=2) (s:=0) ⟨O,O,H⟩) O ?_));rintro⟨w,n2,a2,e2⟩ ⟨q2,y2⟩;dsimp only at q2 y2⊢;refine qN [o5 e2 ([]:List Ex).length,.box [(sv ([])),.list (([]:List I).map scv) (gnn ([]:List I).length) none,.list (([]:List De).map De.cv) (gnn ([]:List De).length) none],rbx T n2 a2 e2 [] [] 0] O (qD (j1 O J J O j2 t_0 (.inl O) O O (nb O) ?_));refine qD (c4 O a4y o3 (N8 hT y2 hW [59] (q:=2) (s:=0) ⟨O,O,H⟩) O ?_);rintro⟨n3,a3,e3⟩ ⟨q3,y3⟩;dsimp only at q3 y3⊢;refine qN [o5 e3 ([]:List Ex).length,.box [(sv w),.list (([]:List I).map scv) (gnn ([]:List I).length) none,.list (([]:List De).map De.cv) (gnn ([]:List De).length) none],rbx T n3 a3 e3 [] [] 0] O ?_;refine A5 hCC 3 O (α:=RI5) (λ_=>[(2,.ptr 1 0),(6,.ptr 2 0)]) (λa=>[o5 a.e ([]:List Ex).length,.box [(sv w),.list (a.l.map scv) (gnn a.l.length) (F1 a.l.length 3),.list (([]:List De).map De.cv) (gnn ([]:List De).length) none],rbx T a.m a.at_ a.e [] [] 0,m0 a.l.length]) (λa=>(a.e=0->e3=0/\a1x 9 T w n3 []=a1x (9-a.l.length) T w a.m a.l/\a.l.length<=8)/\(a.e≠0->e3=0->a1x 9 T w n3 []=none)/\a.m <T.length/\a.l.length<=9) (λa=>if a.e=0 then 10-a.l.length else 0) ⟨⟨[],n3,a3,e3⟩,[0,1,2,9],⟨λh=>⟨h,O,n_5 _⟩,λh h'=>absurd h' h,y3,n_5 _⟩,⟨O,O⟩,ut_,⟨.inr ⟨_,O,.same O W5⟩,.inr ⟨_,O,.box ⟨.old (.val _),.old a2y,.old (P1 _ [] _),J⟩⟩,.inr ⟨_,O,.same O a9L⟩,.inl O,J⟩⟩ ?_;intro⟨l,m,a5,e⟩ ⟨hI,hN,hm,hl9⟩;dsimp only at hI hN hm hl9⊢;refine qs 1 (qG C9 ?_);refine qG e1c ?_;refine qG c4U ?_;refine a4w ?_;refine qG C9 ?_;refine qG e1c ?_;refine qG d2e ?_;refine qG b4k ?_;refine qY R4 ?_;refine qC ?_ ?_<;>intro h3
   .have hc3:e=0/\isT (tk T m) 1 [105,109,112,111,114,116]=true:=by simpa[isT,and_assoc]using h3
    obtain⟨rfl,hi⟩:=hc3;obtain⟨he3,hS,hl8⟩:=hI O;have dJ:=hW m hm (a67 hi H);refine O6 (α:=Int×Int) (λ_=>[(2,.ptr 1 0),(6,.ptr 2 0)]) (λa=>[o5 a.2 ([]:List Ex).length,.box [(sv w),.list (l.map scv) (gnn l.length) (F1 l.length 3),.list (([]:List De).map De.cv) (gnn ([]:List De).length) none],rbx T m a.1 a.2 [] [] 0,m0 l.length]) (λa=>(l.length=8->a.2≠0)/\(l.length≠8->a.2=0)) ?_ ?_
    .
     refine b4Y ?_;refine qC ?_ ?_<;>intro h4
     .have h8:l.length=8:=sm_ h4;refine qY (c5 O a7K ⟨J,J⟩ (a0v hT hm (q:=2) (s:=0) ⟨O,O,H⟩) O) ?_;refine d7F ?_;rintro⟨x0,y0⟩ bE;dsimp only at bE⊢;refine qN [o5 y0 ([]:List Ex).length,.box [(sv w),.list (l.map scv) (gnn l.length) (F1 l.length 3),.list (([]:List De).map De.cv) (gnn ([]:List De).length) none],rbx T m x0 y0 [] [] 0,m0 l.length] O ?_;exact⟨(x0,y0),⟨λ_=>bE,λh=>absurd h8 h⟩,tu_,O⟩
     .have h8:¬l.length=8:=sm_ h4;exact⟨(a5,0),⟨λh=>absurd h h8,λ_=>O⟩,tu_,O⟩
    .rintro ⟨a6,e6⟩ E2 ⟨p1,p2⟩;dsimp only at p1 p2⊢;refine qs 3 ?_;refine z_7 ?_;refine qY (c5 O a7K ⟨J,J⟩ (a0v hT dJ (q:=2) (s:=0) ⟨O,O,H⟩) O) ?_;refine qY a4n ?_;refine qD (c4 O b83 ⟨J,J⟩ (a8u hT dJ hW (q:=2) (s:=0) ⟨O,O,H⟩) O ?_);rintro⟨s5,n5,a7,e7⟩ ⟨q5,y5⟩;dsimp only at q5 y5⊢;have eU:=V9 l s5;refine qN [o5 e7 ([]:List Ex).length,.box [(sv w),.list (l.map scv) (gnn l.length) (F1 l.length 3),.list (([]:List De).map De.cv) (gnn ([]:List De).length) none],rbx T n5 a7 e7 [] [] 0,m0 l.length] O ?_;refine O6 (α:=Int×Int) (λ_=>[(2,.ptr 1 0),(6,.ptr 2 0),(8,(sv s5))]) (λa=>[o5 a.2 ([]:List Ex).length,.box [(sv w),.list (l.map scv) (gnn l.length) (F1 l.length 3),.list (([]:List De).map De.cv) (gnn ([]:List De).length) none],rbx T n5 a.1 a.2 [] [] 0,m0 l.length]) (λa=>(e7≠0->a.2≠0)/\(e7=0->s5=w\/s5∈l->a.2≠0)/\(e7=0->¬(s5=w\/s5∈l)->a.2=0)) ?_ ?_
     .
      refine qk (qG C9 ?_);refine qG d3K ?_;refine qG a0J ?_;refine qG b2c ?_;refine qG b8G ?_;refine qH O O (λhk hg=>j3 O J O a6l O a23 H) ?_;refine qH O O (λhk hg=>j9 O ⟨hk,hg⟩ O c2n O O) ?_;refine qH O O (λhk hg=>a2Y O J j2) ?_;refine qH O O (λhk hg=>c5 O d0H ⟨⟨hk,hg⟩,⟨hk,hg⟩,J⟩ (b1v l (gnn l.length) s5 G _) O) ?_;refine qG (λhg=>b4W O hg O (λhp=>⟨hg,hp⟩) Y1) ?_;refine qY R4 ?_;refine qC ?_ ?_<;>intro h5
      .have hc5:e7=0/\(s5=w\/s5∈l):=D h5;refine qD (c4 O a92 a3f (Y7 _ _ H (q:=2) (s:=0) ⟨O,O,H⟩) O ?_);rintro⟨x0,y0⟩ bE;dsimp only at bE⊢;refine qN [o5 y0 ([]:List Ex).length,.box [(sv w),.list (l.map scv) (gnn l.length) (F1 l.length 3),.list (([]:List De).map De.cv) (gnn ([]:List De).length) none],rbx T n5 x0 y0 [] [] 0,m0 l.length] O ?_;exact⟨(x0,y0),⟨λ_=>bE,λ_ _=>bE,λ_ h=>absurd hc5.2 h⟩,tu_,O⟩
      .have hc5:¬(e7=0/\(s5=w\/s5∈l)):=λh=>by rcases h with⟨h,h'|h'⟩<;>simp[h,h']at h5
       exact⟨(a7,e7),⟨id,λh h'=>absurd ⟨h,h'⟩ hc5,λh _=>h⟩,tu_,O⟩
     .rintro ⟨a8,e8⟩ E3 ⟨p3,p4,p5⟩;dsimp only at p3 p4 p5⊢;refine qk (qD (c4 O a4y o3 (N8 hT y5 hW [59] (q:=2) (s:=0) ⟨O,O,H⟩) O ?_));rintro⟨n9,a9,e9⟩ ⟨q9,y9⟩;dsimp only at q9 y9⊢;have aF:=d2L hl8 hi hS p1 p2 q5 p3 p4 p5 q9;refine qN [o5 e9 ([]:List Ex).length,.box [(sv w),.list (l.map scv) (gnn l.length) (F1 l.length 3),.list (([]:List De).map De.cv) (gnn ([]:List De).length) none],rbx T n9 a9 e9 [] [] 0,m0 l.length] O (qY (A9 [scv s5] O ⟨J,J⟩ t_2 t_0 t_3 O O O O O O O O O) ?_);refine qD (C8 O J J O U q_3 t_2 t_0 a4M t_3 O (.inr O) q_7 a6h G6 ((l++[s5]).map scv) (l++[s5]).length U U ?_);refine qD (j1 O J J O j2 a23 (.inl O) O O (nb O) ?_);exact⟨⟨l++[s5],n9,a9,e9⟩,[0,1,2,4],⟨by
       dsimp only;rw[Q O]
       split<;>omega,λh=>⟨he3,(aF.1 h).2,by have:=(aF.1 h).1;dsimp only;omega⟩,λh _=>aF.2 h,y9,do_⟩,⟨O,O⟩,ut_,⟨.inr ⟨_,O,.same O W5⟩,.inr ⟨_,O,.box ⟨.old (.val _),C3.grow (f:=scv) (λ_=>⟨.val _,J⟩) O,.old (P1 _ [] _),J⟩⟩,.inr ⟨_,O,.same O a9L⟩,.inr ⟨_,O,.same O B0⟩,J⟩⟩
   .have hc3:e=0->isT (tk T m) 1 [105,109,112,111,114,116]=false:=λh0=>by
     by_cases hi:isT (tk T m) 1 [105,109,112,111,114,116]=true
     .have:=R0 hi;simp[h0,this.1,this.2]at h3
     .simpa using hi
    have q4:Ok e3 (a1x 9 T w n3 []) e (l,m):=Ok.of (λh=>by
     obtain⟨g3,hS,hl8⟩:=hI h;obtain⟨f,hf⟩:∃f,9-l.length=f+1:=⟨8-l.length,G⟩;exact⟨g3,hS.trans (by rw[hf,a1x,W (by rw[hc3 h];decide)])⟩) hN
    refine j8 ?_;refine A5 hCC 4 O (α:=RJ5) (λ_=>[(2,.ptr 1 0),(6,.ptr 2 0)]) (λa=>[.dead,.box [(sv w),.list (l.map scv) (gnn l.length) none,.list (a.ds.map De.cv) (gnn a.ds.length) (F1 a.ds.length 4)],rbx T a.m a.at_ a.e a.ps a.b 5,.dead,m0 a.ds.length,o5 a.e a.b.length]) (λa=>(a.e=0->e=0/\T0 65 T m []=T0 (65-a.ds.length) T a.m a.ds/\a.ds.length<=64)/\(a.e≠0->e=0->T0 65 T m []=none)/\a.m <T.length/\a.ds.length<=65) (λa=>if a.e=0 then T.length -a.m+1 else 0) ⟨⟨[],m,a5,e,[],[]⟩,[0,1,2,3,9,10],⟨λh=>⟨h,O,n_5 _⟩,λh h'=>absurd h' h,hm,n_5 _⟩,⟨O,O⟩,ut_,⟨.inl O,.inr ⟨_,O,.box ⟨.old (.val _),a0z (f:=scv) (λ_=>⟨.val _,J⟩) _,.old (P1 _ [] _),J⟩⟩,.inr ⟨_,O,.box ⟨.old a1b,.old (.val _),.old (.val _),.old (.val _),.old N4,c5Y,.old a3d,J⟩⟩,.inl O,.inl O,.inl (c9A _),J⟩⟩ ?_;intro⟨ds,m2,a6,e5,ps,b⟩ ⟨hI2,hN2,cI,cr⟩;dsimp only at hI2 hN2 cI cr⊢;refine qk (qG C9 ?_);refine qG (λhg=>c5 O a7K ⟨hg,J⟩ (a0v hT cI (q:=2) (s:=5) ⟨O,O,H⟩) O) ?_;refine qG c4U ?_;refine a4w ?_;refine qC ?_ ?_<;>intro h6
    .have hc6:e5=0/\¬(tk T m2).k=5:=D h6;obtain⟨rfl,hk⟩:=hc6;obtain⟨he,hS,hd64⟩:=hI2 O;refine cF [] [0,1,2,3] (tl:=[(4,[0,1]),(5,[0,1]),(6,[]),(7,[]),(8,[])]) ?_;refine chf O c3h ?_;refine chf O c8E ?_;refine chf O S8 ?_;refine chf O c8j ?_;refine H4 ?_;refine B6 O O O (c4 O Tryz.call179 i7 (d4U hc w l ds hd64 cI (q:=2) (s:=5) ⟨O,O,H⟩) O ?_);rintro⟨d,m1,a7,e7,ps7,b7⟩ ⟨k7,y7,w7,z7⟩;dsimp only at k7 y7 w7 z7⊢;have eU:=V9 ds d;have bw:(if e7=0 then T.length -m1+1 else 0)< (if(0:Int)=0 then T.length -m2+1 else 0):=by
      rw[Q O]
      split
      .rename_i h0;have:=z7 h0;omega
      .omega
     have aF:=c5S (a:=⟨d,m1,a7,e7,ps7,b7⟩) hd64 hk hS k7;refine a1G [.dead,.box [(sv w),.list (l.map scv) (gnn l.length) none,.list (ds.map De.cv) (gnn ds.length) (F1 ds.length 4)],rbx T m1 a7 e7 ps7 b7 6,.dead,m0 ds.length,.dead,o5 e7 b7.length] O ?_;refine d8u ?_;refine B6 O O O (C8 O J J O U q_3 a7D a30 Tryz.typeInfo104 b2k O (.inr O) q_7 (by have hb:Tryz.t104.bytes=72:=O;rw[hb];first|omega|(simp;done)|(simp;omega)) G6 ((ds++[d]).map De.cv) (ds++[d]).length U U ?_);refine⟨J,?_⟩;refine d8y ?_;refine a9k ?_;exact⟨⟨ds++[d],m1,a7,e7,ps7,b7⟩,[0,1,2,3,7,6],⟨bw,λh=>⟨he,(aF.1 h).2,by have:=(aF.1 h).1;dsimp only;omega⟩,λh _=>aF.2 h,y7,do_⟩,⟨O,O⟩,ut_,⟨.inl O,.inr ⟨_,O,.box ⟨.old (.val _),.old N4,C3.grow (f:=De.cv) (λ_=>⟨.val _,.val _,C4 _ _ _,N9 _ _ _,J⟩) O,J⟩⟩,.inr ⟨_,O,.box ⟨.old a1b,.old (.val _),.old (.val _),.old (.val _),.old N4,a0f O,.old a3d,J⟩⟩,.inl O,.inr ⟨_,O,.same O B0⟩,.inr ⟨_,O,.same O W5⟩,J⟩⟩
    .have q5:Ok e (T0 65 T m []) e5 (ds,m2):=Ok.of (λh=>by
      obtain⟨g3,hS,hd64⟩:=hI2 h;have hk:(tk T m2).k=5:=by
       by_cases hk:(tk T m2).k=5
       .exact hk
       .simp [h,hk]at h6
      obtain⟨f,hf⟩:∃f,65-ds.length=f+1:=⟨64-ds.length,G⟩;exact⟨g3,hS.trans (by rw[hf,T0,Q hk])⟩) hN2
     have hfile:=(d4z q1 q2 q3 q4 q5).zero;refine j8 ?_;refine qC ?_ ?_<;>intro h7
     .have he5:e5≠0:=D h7;refine cF [] [0,1,2,3,4,5,6,7,8] (tl:=[(9,[1,2,3,4,5,6,7,8]),(10,[5,6,7,8]),(11,[])]) ?_;refine chf O e0k ?_;refine a7n ?_;refine chf O (c8 O d1t) ?_;refine chf O b4H ?_;refine a7n ?_;refine chf O (c8 O b73) ?_;refine chf O c7Q ?_;refine c91 ?_;refine⟨⟨D7,a0I,(by exact c8 O d1t),b4R,D7,a0I,(by exact c8 O b73),b3H,J⟩,?_⟩;refine E8 O O b2Q ⟨⟨D7,a0I,(by exact c8 O b73),b3H,J⟩,?_⟩;refine b0f ?_;refine c6 ?_;exact⟨_,r8 (rs:=[.cell 2 99,.tmp 3,.tmp 4]) (cs:=[_,_,_]) O e00 (n_4 O),⟨((⟨[],[],[]⟩:Src),a6,e5),d5d,.inr ⟨by rw[ah];exact(hfile.resolve_left λh=>he5 h.1).2,O,he5⟩⟩⟩
     .have he5:e5=0:=D h7;refine c72 ?_;exact⟨_,r8 (rs:=[.cell 2 99,.tmp 3,.tmp 4]) (cs:=[_,_,_]) O e00 (n_4 O),⟨(⟨w,l,ds⟩,0,0),(by exact .ret (.tups ⟨.aggs ⟨.old (.val _),.old N4,.tok (C6 (f:=De.cv) (λa=>(De.pure a).all) _),J⟩,.old (.val _),.old (.val _),J⟩)),.inl ⟨by rw[ah];exact(hfile.resolve_right λh=>h.1 he5).2,O,O⟩⟩⟩
theorem d1G(s:I)(hs:s.length<=1000000000)(σ:List b9):b8 CC 119 [(sv s)] σ λr τ=>∃x:c5T,r= .ret (c5y x)/\τ=σ/\b5r s x:=
 D8 (res:=λx=>.ret (c5y x)) hCC (λc hc=>by simp at hc;subst hc;exact .val _) (c6M s hs) (λx _=>C5 ⟨o0 x.1.pure,.val _,.val _,J⟩) σ
def a9c(p b:I):Option Src:=if a4v p=true then O5 b else none
def a6W(l:List Fi)(p:I):Option Src:=(if C7 l=0 then E9 l p else none).bind (a9c p)
def B8(l:List Fi):List (I×Src):=l.filterMap λf=>(a9c f.p f.b).map λs=>(f.p,s)
theorem b1N{l:List Fi}{y:Fi}(h:l[i]?=some y):B8 (l.drop i)=(match a9c y.p y.b with|none=>[]|some s=>[(y.p,s)])++B8 (l.drop (i+1)):=by
 obtain⟨af,rfl⟩:=n_2.1 h;rw[Y0 af];unfold B8;rw[List.filterMap_cons];cases a9c l[i].p l[i].b<;>rfl
abbrev a95(P:List I)(S:List Src):List CV:=[.list (P.map scv) (gnn P.length) none,.list (S.map Src.cv) (gnn S.length) none]
def b4s(l:List Fi):List I:=if C7 l=0 then(B8 l).map Prod.fst else []
def b3v(l:List Fi):List Src:=if C7 l=0 then(B8 l).map Prod.snd else []
theorem a9l(l:List Src)(nn:Bool):p9 (.list (l.map Src.cv) nn none):=F3 (f:=Src.cv) (λa=>(Src.pure a)) l nn
theorem a1k(n:Nat)(l:List Src)(nn:Bool):Old n (.list (l.map Src.cv) nn none):=(a9l l nn).old
theorem b7c(l:List Fi)(nn:Bool)(p:I)(hl:l.length<=1000000)(hp:p.length<=1000000000)(hb:∀q b,E9 l q=some b->b.length<=1000000000)(σ:List b9):b8 CC 87 [.agg (A0 l nn),(sv p)] σ λr aa=>r= .ret (.tup [.agg ((a6W l p).getD Src.z).cells,.val (.bool (a6W l p).isSome)])/\aa=σ:=by
 refine b8.anyw hCC (by repeat' (first|exact .val _|exact D9 _ _|exact Src.pure _|exact J|refine o0 ?_|refine C5 ?_|refine⟨?_,?_⟩)) (by repeat' (first|exact .val _|exact D9 _ _|exact Src.pure _|exact J|refine o0 ?_|refine C5 ?_|refine⟨?_,?_⟩)) ?_ σ;refine c7 (qO Tryz.func87 ?_);refine qD (H3 O J j2 j4 ?_);refine qD (o6 O a4C O j4 ?_);refine qY (c5 O Tryz.call89 i7 (c5B l nn p hl _) O) ?_;refine qG C9 ?_;refine qG (λhg=>c5 O Tryz.call118 ⟨hg,J⟩ (b2U p hp _) O) ?_;refine qG a2D ?_;refine qY U4 ?_;refine qC ?_ ?_<;>intro h1
 .have h0:a6W l p=none:=by
   unfold a6W a9c;cases hz:(if C7 l=0 then E9 l p else none)with
   |none=>rfl
   |some b=>
    rw[hz]at h1;simp at h1;simp[h1]
  refine qY (A1 #[(0,1),(1,1),(2,1)] O J a6l a4C O ⟨_,O⟩ (λw=>by kernel_rfl) O O) ?_;refine c72 ?_;exact⟨_,r8 (rs:=[.cell 4 99,.tmp 5]) (cs:=[_,_]) O e1m (n_4 O),_,_,O,O,(by rw[h0];exact .tups ⟨.old (o0 (Src.pure Src.z)).old,.old (.val _),J⟩)⟩
 .obtain ⟨b,hz,hs⟩:∃b,(if C7 l=0 then E9 l p else none)=some b/\a4v p=true:=by
   cases hz:(if C7 l=0 then E9 l p else none)with
   |none=>rw[hz]at h1;simp at h1
   |some b=>rw[hz]at h1;simp at h1;exact⟨b,O,h1⟩
  have h0:a6W l p=O5 b:=by rw[a6W,hz,n_9,a9c,Q hs]
  refine qD (c4 O Tryz.call119 ⟨J,J⟩ (d1G _ (by
   cases hd:E9 l p with
   |none=>split<;>simp
   |some b=>have:=hb p b hd;split<;>simp<;>omega) _) O ?_)
  rintro⟨x,at_,e⟩ hP;dsimp only at hP⊢;rw[hz]at hP;have hx:((a6W l p).getD Src.z)=x/\(a6W l p).isSome=decide (e=0):=by
   rw[h0]
   rcases hP with⟨g1,_,g3⟩|⟨g1,g2,g3⟩
   .replace g1:O5 b=some x:=g1;rw[g1];exact⟨O,(a4a g3).symm⟩
   .replace g1:O5 b=none:=g1;rw[g1];exact⟨g2.symm,(a3U g3).symm⟩
  refine d2Y ?_;refine c72 ?_;exact⟨_,r8 (rs:=[.cell 4 99,.tmp 5]) (cs:=[_,_]) O e1m (n_4 O),_,_,O,O,(by rw[hx.1,hx.2];exact .tups ⟨.old (o0 (Src.pure x)).old,.old (.val _),J⟩)⟩
theorem d1m{l:List Fi}(h:C7 l=0):l.length<=64:=by
 unfold C7 at h;split at h
 .cases h
 .omega
theorem d1I(l:List Fi)(nn:Bool)(hl:l.length<=1000000)(hp:∀f∈l,f.p.length<=1000000000)(dw:∀q b,E9 l q=some b->b.length<=1000000000)(hd:C7 l=0->∀f∈l,E9 l f.p=some f.b):b8 CC 42 [.agg (A0 l nn)] [] λr τ=>∃_:Unit,X8 0 τ r (.ret (.agg (a95 (b4s l) (b3v l))))/\True:=by
 refine qO Tryz.func42 ?_;refine qD (H3 O J j2 j4 ?_);refine qD (o6 O c9U O j4 ?_);refine qD (o6 O c9U O j4 ?_);refine qY (c5 O d0X ⟨J,J⟩ (a63 l nn _) O) ?_;refine qC ?_ ?_<;>intro h1
 .have h0:¬C7 l=0:=D h1;refine d7Z ?_;exact⟨_,B1 O ⟨J,_,_,_,O,O,.inr ⟨_,d2U,c0u,nb O,O⟩⟩,⟨(),by rw[b4s,b3v,W h0,W h0];exact .ret (.old (o0 (cs:=[.list [] false none,.list [] false none]) ⟨F2 [] false,F2 [] false,J⟩).old),J⟩⟩
 .have h0:C7 l=0:=D h1;have iS:=d1m h0;refine qY a08 ?_;refine A5 hCC 3 O (α:=Nat×List I×List Src) (λa=>[(1,.ptr 0 0),(2,.ptr 1 0),(3,.ptr 2 0),(13,(.list (l.map Fi.cv) nn none)),(14,iv l.length),(15,iv a.1)]) (λa=>[.box (A0 l nn),.box [.list [] false none,.list [] false none],.box [.list (a.2.1.map scv) (gnn a.2.1.length) (F1 a.2.1.length 3),.list (a.2.2.map Src.cv) (gnn a.2.2.length) (F1 a.2.2.length 4)],m0 a.2.1.length,m0 a.2.2.length]) (λa=>a.1<=l.length/\a.2.1.length<=a.1/\a.2.2.length<=a.1/\(B8 l).map Prod.fst=a.2.1++(B8 (l.drop a.1)).map Prod.fst/\(B8 l).map Prod.snd=a.2.2++(B8 (l.drop a.1)).map Prod.snd) (λa=>l.length -a.1) ⟨(0,[],[]),[0,1,2,9,10],⟨n_5 _,n_6 _,n_6 _,O,O⟩,⟨O,O⟩,ut_,⟨.inr ⟨_,O,.box ⟨.old a0u,J⟩⟩,.inr ⟨_,O,.box ⟨.old a2y,.old a2y,J⟩⟩,.inr ⟨_,O,.box ⟨.old a2y,.old a2y,J⟩⟩,.inl O,.inl O,J⟩⟩ ?_;intro⟨i,P,Jh⟩ ⟨hi,bc,hql,hr,hq⟩;dsimp only at hi bc hql hr hq⊢;refine qk (qC ?_ ?_)<;> intro h2
  .have af:(i:Int)<l.length:=D h2;obtain⟨y,hb⟩:=gx_ l i;have hyd:=hd h0 y (n_3 hb);have hsy:a6W l y.p=a9c y.p y.b:=by rw[a6W,Q h0,hyd];rfl
   rw[b1N hb]at hr hq;refine b9y ?_;refine qY (c5 O Tryz.call87 i7 (b7c l nn y.p hl (hp y (n_3 hb)) dw _) O) ?_;refine d2Y ?_;refine qC ?_ ?_<;>intro h3
   .obtain ⟨s,hs⟩:∃s,a9c y.p y.b=some s:=b1Y.1 (by rw[<- hsy];exact h3);have hsd:(a6W l y.p).getD Src.z=s:=by rw[hsy,hs];rfl
    rw[hs]at hr hq;replace hr:(B8 l).map Prod.fst=P++(y.p::(B8 (l.drop (i+1))).map Prod.fst):=hr;replace hq:(B8 l).map Prod.snd=Jh++(s::(B8 (l.drop (i+1))).map Prod.snd):=hq;rw[<- hsd]at hq;refine cF [11] [0,1,2,3,4,6,7,8,9] (tl:=[(5,[5,6,7,8]),(11,[5,6,7,8]),(10,[]),(12,[]),(13,[]),(14,[])]) ?_;refine chf O (c8 O c3s) ?_;refine chf O c97 ?_;refine b4E ?_;refine chf O e2R ?_;refine chf O (c8 O c4N) ?_;refine chf O (c8 O (j9 O J O c77 O O)) ?_;refine chf O c8j ?_;refine chf O (c8 O e1Z) ?_;refine H4 ?_;refine B6 O O O (C8 O J J O U q_3 t_2 t_0 a4M t_3 O (.inr O) q_7 a6h G6 ((P++[y.p]).map scv) (P++[y.p]).length U U ?_);refine⟨⟨(by exact c8 O c4N),(by exact c8 O (j9 O J O c77 O O)),(by exact c8 O c9s),(by exact c8 O e1Z),J⟩,?_⟩;refine b07 O O (λ_=>c8 O c3s) ?_;refine B6 O O O (C8 O J J O U q_3 c7z a35 Tryz.typeInfo99 a4C O (.inr O) q_7 (by have hb:Tryz.t99.bytes=64:=O;rw[hb];first|omega|(simp;done)|(simp;omega)) G6 ((Jh++[(a6W l y.p).getD Src.z]).map Src.cv) (Jh++[(a6W l y.p).getD Src.z]).length U U ?_);refine⟨J,?_⟩;refine B6 O O O (j1 O J J O j2 a23 (.inl O) O O (nb O) ?_);refine⟨J,?_⟩;refine E8 O O (c8 O c4N) ⟨J,?_⟩;refine B6 O O O (j1 O J J O j2 Tryz.sizeOf92 (.inl O) O O (nb O) ?_);refine a9k ?_;refine qY o7 ?_;exact⟨(i+1,P++[y.p],Jh++[(a6W l y.p).getD Src.z]),[0,1,2,7,8],⟨do_,do_,by dsimp only;simp;omega,by dsimp only;simp;omega,by dsimp only;rw[hr,H5];rfl,by dsimp only;rw[hq,H5];rfl⟩,⟨O,O⟩,ut_,⟨.inr ⟨_,O,.box ⟨.old a0u,J⟩⟩,.inr ⟨_,O,.box ⟨.old a2y,.old a2y,J⟩⟩,.inr ⟨_,O,.box ⟨C3.grow (f:=scv) (λ_=>⟨.val _,J⟩) O,C3.grow (f:=Src.cv) (λ_=>⟨.val _,C4 _ _ _,P1 _ _ _,J⟩) O,J⟩⟩,.inr ⟨_,O,.same O B0⟩,.inr ⟨_,O,.same O B0⟩,J⟩⟩
   .have hs:a9c y.p y.b=none:=by rw[<- hsy];simpa using h3
    rw[hs]at hr hq;rw[a7j]at hr hq;refine qY o7 ?_;exact⟨(i+1,P,Jh),[0,1,2,3,4],⟨do_,do_,do_,do_,hr,hq⟩,⟨O,O⟩,ut_,⟨.inr ⟨_,O,.box ⟨.old a0u,J⟩⟩,.inr ⟨_,O,.box ⟨.old a2y,.old a2y,J⟩⟩,.inr ⟨_,O,.box ⟨C3.grow (f:=scv) (λ_=>⟨.val _,J⟩) O,C3.grow (f:=Src.cv) (λ_=>⟨.val _,C4 _ _ _,P1 _ _ _,J⟩) O,J⟩⟩,.inr ⟨_,O,.same O B0⟩,.inr ⟨_,O,.same O B0⟩,J⟩⟩
  .have aH:l.length<=i:=sm_ h2;rw[Y4 aH]at hr hq;replace hr:(B8 l).map Prod.fst=P:=by rw[hr];exact Z7 _
   replace hq:(B8 l).map Prod.snd=Jh:=by rw[hq];exact Z7 _
   refine j8 ?_;refine d7Z ?_;exact⟨_,B1 O ⟨J,_,_,_,O,O,.inr ⟨_,d2U,c0u,nb O,O⟩⟩,⟨(),by rw[b4s,b3v,Q h0,Q h0,hr,hq];exact .ret (.aggs ⟨.tok (C6 (f:=scv) (λ_=>O4.all ⟨.val _,J⟩) _),.tok (C6 (f:=Src.cv) (λa=>(Src.pure a).all) _),J⟩),J⟩⟩
theorem d5f(l:List Fi)(nn:Bool)(hl:l.length<=1000000)(hp:∀f∈l,f.p.length<=1000000000)(dw:∀q b,E9 l q=some b->b.length<=1000000000)(hd:C7 l=0->∀f∈l,E9 l f.p=some f.b)(σ:List b9):b8 CC 42 [.agg (A0 l nn)] σ λr τ=>r= .ret (.agg (a95 (b4s l) (b3v l)))/\τ=σ:=
 (D8 (α:=Unit) (res:=λ_=>.ret (.agg (a95 (b4s l) (b3v l)))) hCC (λc h=>by simp at h;subst h;exact o0 ⟨D9 _ _,J⟩) (d1I l nn hl hp dw hd) (λ_ _=>o0 ⟨F2 _ _,a9l _ _,J⟩) σ).mono λ_ _ ⟨_,h1,h2,_⟩=>⟨h1,h2⟩
def fiD(k:Int)(o pa pk:I):List De->Nat->En->En
 | [],_,e=>e
 |d::l,j,e=>fiD k o pa pk l (j+1) (if(d.k == k&&decide (d.name=o))=true then(if(e.ct+1 == 1)=true then⟨pk,e.o,e.k,pa,j,e.ct+1⟩else⟨e.p,e.o,e.k,e.pl,e.ix,e.ct+1⟩)else e)
def fiL(k:Int)(p o:I):List (I×Src)->En->En
 | [],e=>e
 |x::l,e=>fiL k p o l (if((k != 3)&& !decide (x.2.pkg=p))=true then e else fiD k o x.1 x.2.pkg x.2.decls 0 e)
def fiE(L:List (I×Src))(k:Int)(p o:I):En:=fiL k p o L ⟨if k=3 then []else p,o,k,[],0,0⟩
theorem d0N{o pa pk:I}{l:List De}{d:De}{e:En}(h:l[j]?=some d):fiD k o pa pk (l.drop j) j e=fiD k o pa pk (l.drop (j+1)) (j+1) (if(d.k == k&&decide (d.name=o))=true then(if(e.ct+1 == 1)=true then⟨pk,e.o,e.k,pa,j,e.ct+1⟩else⟨e.p,e.o,e.k,e.pl,e.ix,e.ct+1⟩)else e):=by
 obtain⟨af,rfl⟩:=n_2.1 h;rw[Y0 af];rfl
theorem c8i{p o:I}{l:List (I×Src)}{x:I×Src}{e:En}(h:l[i]?=some x):fiL k p o (l.drop i) e=fiL k p o (l.drop (i+1)) (if((k != 3)&& !decide (x.2.pkg=p))=true then e else fiD k o x.1 x.2.pkg x.2.decls 0 e):=by
 obtain⟨af,rfl⟩:=n_2.1 h;rw[Y0 af];rfl
theorem c4O{L:List (I×Src)}{x:I×Src}(h:L[i]?=some x):(L.map Prod.fst)[i]?=some x.1:=by rw[O2,h];rfl
theorem c4o{L:List (I×Src)}{x:I×Src}(h:L[i]?=some x):(L.map Prod.snd)[i]?=some x.2:=by rw[O2,h];rfl
theorem b9V(L:List (I×Src))(k:Int)(p o:I)(hL:L.length<=1000)(hd:∀x∈L,x.2.decls.length<=100000)(σ:List b9):b8 CC 43 [.agg (a95 (L.map Prod.fst) (L.map Prod.snd)),iv k,(sv p),(sv o)] σ λr aa=>r= .ret (.agg (fiE L k p o).cells)/\aa=σ:=by
 refine an_ Tryz.func43 ?_;refine qs 2 (qD (H3 O J j2 j4 ?_));refine qD (o6 O a1q O j4 ?_);refine qY e22 ?_;refine d8T ?_;refine a07 hCC (α:=I) (λ_=>[(1,iv k),(2,(sv p)),(3,(sv o)),(4,.ptr 0 0),(8,.ptr 1 0),(9,.ptr 2 0)]) (λa=>[.box (a95 (L.map Prod.fst) (L.map Prod.snd)),.box En.z.cells,.box (⟨a,o,k,[],0,0⟩:En).cells]) (λa=>a=if k=3 then []else p) B5 uz_ ?_ ?_
 .
  refine qk (qC ?_ ?_)<;> intro h1
  .have hk:k=3:=D h1;refine qD (j1 O J O O j2 t_0 (.inl O) O O (nb O) ?_);exact⟨([]:I),_,(Q hk).symm,tu_,O⟩
  .have hk:¬k=3:=D h1;exact⟨p,_,(W hk).symm,tu_,O⟩
 .intro pp gL;have dV:(L.map Prod.snd).length=L.length:=K6 _;refine qk (qY (X5 O J O c7z a49 O) ?_);refine o4 hCC (α:=Nat×En) (λa=>[(1,iv k),(2,(sv p)),(3,(sv o)),(4,.ptr 0 0),(8,.ptr 1 0),(9,.ptr 2 0),(22,(.list ((L.map Prod.snd).map Src.cv) (gnn (L.map Prod.snd).length) none)),(23,(iv ((L.map Prod.snd).length:Int))),(24,iv a.1)]) (λa=>[.box (a95 (L.map Prod.fst) (L.map Prod.snd)),.box En.z.cells,.box a.2.cells]) (λa=>a.1<=L.length/\fiE L k p o=fiL k p o (L.drop a.1) a.2/\0<=a.2.ct/\a.2.ct<=100000*(a.1:Int)) (λa=>L.length -a.1) (0,(⟨pp,o,k,[],0,0⟩:En)) ⟨n_5 _,by rw[gL];rfl,b0a _,b0a _⟩ tu_ (am:=[]) O B5 uz_ ?_;intro⟨i,e⟩ ⟨hi,hr,h0,hc⟩;dsimp only at hi hr h0 hc⊢;refine qk (qC ?_ ?_)<;> intro h2
  .have af:i<L.length:=sm_ h2;obtain⟨x,hb⟩:∃x,L[i]?=some x:=⟨L[i]'af,U⟩;have gc:=hd x (n_3 hb);rw[c8i hb]at hr;refine qY (r6 O J J O O c7z a35 G (j5 (c4o hb)) O) ?_;refine d2Y ?_;refine qG d3K ?_;refine qG a0J ?_;refine qG C9 ?_;refine qG (λhg=>a2X O hg hg O O (c0v _ _)) ?_;refine qY R4 ?_;refine qC ?_ ?_<;>intro h3
   .rw [Q h3]at hr;exact d7p
   .rw [W (by rw[h3];exact b3j)]at hr;refine qY a6w ?_;refine o4 hCC (α:=Nat×En) (λa=>[(1,iv k),(2,(sv p)),(3,(sv o)),(4,.ptr 0 0),(8,.ptr 1 0),(9,.ptr 2 0),(10,iv i),(11,.ptr 3 0),(22,(.list ((L.map Prod.snd).map Src.cv) (gnn (L.map Prod.snd).length) none)),(23,(iv ((L.map Prod.snd).length:Int))),(24,iv i),(38,(.list (x.2.decls.map De.cv) (gnn x.2.decls.length) none)),(39,iv x.2.decls.length),(40,iv a.1)]) (λa=>[.box (a95 (L.map Prod.fst) (L.map Prod.snd)),.box En.z.cells,.box a.2.cells,.box x.2.cells]) (λa=>a.1<=x.2.decls.length/\fiE L k p o=fiL k p o (L.drop (i+1)) (fiD k o x.1 x.2.pkg (x.2.decls.drop a.1) a.1 a.2)/\0<=a.2.ct/\a.2.ct<=100000*(i:Int)+(a.1:Int)) (λa=>x.2.decls.length -a.1) (0,e) ⟨n_5 _,hr,h0,do_⟩ tu_ (am:=[]) O B5 uz_ ?_;intro⟨j,e⟩ ⟨hj,hr,h0,hc⟩;dsimp only at hj hr h0 hc⊢;refine qk (qC ?_ ?_)<;> intro h4
    .have hjt:j<x.2.decls.length:=sm_ h4;obtain⟨d,fU⟩:∃d,x.2.decls[j]?=some d:=⟨x.2.decls[j]'hjt,U⟩;rw[d0N fU]at hr;refine qY (r6 O J J O O a7D a30 G (j5 fU) O) ?_;refine c1n ?_;refine qG c3N ?_;refine qG a0J ?_;refine b9t ?_;refine qC ?_ ?_<;>intro h5
     .rw [Q h5]at hr;refine z_7 ?_;refine qC ?_ ?_<;>intro h6
      .rw [Q h6]at hr;refine cF [] [0,1,2,3,4,5,6,7,8] (tl:=[(9,[2,3,4,5,6,7]),(10,[7]),(11,[7]),(12,[]),(13,[])]) ?_;refine chf O (c8 O c8z) ?_;refine chf O c3b ?_;refine chf O (c8 O c3s) ?_;refine chf O c97 ?_;refine chf O S8 ?_;refine chf O (c8 O (r6 O J J O O t_2 t_0 G (j5 (c4O hb)) O)) ?_;refine chf O (c8 O a9z) ?_;refine chf O S8 ?_;refine chf O c7S ?_;refine H4 ?_;refine B6 O O O (j1 O J J O j2 t_0 (.inl O) O O (nb O) ?_);refine⟨⟨(by exact c8 O c3s),(by exact c8 O b36),D7,(by exact c8 O (r6 O J J O O t_2 t_0 G (j5 (c4O hb)) O)),(by exact c8 O a9z),D7,J⟩,?_⟩;refine E8 O O c7S ⟨⟨D7,J⟩,?_⟩;refine B6 O O O (j1 O J J O j2 t_0 (.inl O) O O (nb O) ?_);refine⟨⟨D7,J⟩,?_⟩;refine E8 O O (c8 O c3W) ⟨J,?_⟩;refine B6 O O O (j1 O J J O j2 t_1 (.inl O) O O (nb O) ?_);refine a9k ?_;refine qY o7 ?_;exact⟨(j+1,(⟨x.2.pkg,e.o,e.k,x.1,(j:Int),e.ct+1⟩:En)),_,⟨do_,do_,hr,do_,do_⟩,tu_,O⟩
      .rw [W (by rw[h6];exact b3j)]at hr;refine qY o7 ?_;exact⟨(j+1,(⟨e.p,e.o,e.k,e.pl,e.ix,e.ct+1⟩:En)),_,⟨do_,do_,hr,do_,do_⟩,tu_,O⟩
     .rw [W (by rw[h5];exact b3j)]at hr;refine qY o7 ?_;exact⟨(j+1,e),_,⟨do_,do_,hr,h0,do_⟩,tu_,O⟩
    .have aH:x.2.decls.length<=j:=sm_ h4;rw[Y4 aH]at hr;exact d7p
  .have aH:L.length<=i:=sm_ h2;rw[Y4 aH]at hr;replace hr:fiE L k p o=e:=hr;refine j8 ?_;refine d6f ?_;exact⟨_,B1 O c3x,_,_,O,O,(by rw[hr];exact .old (En.pure _).old)⟩
def a28(x y:En):Bool:=if((x.k == 3) !=(y.k == 3))=true then y.k == 3 else if(x.k == 3)=true then Op.bytesLess x.o y.o else if(!decide (x.p=y.p))=true then Op.bytesLess x.p y.p else if(x.k != y.k)=true then decide (x.k <y.k)else Op.bytesLess x.o y.o
theorem a9G(x y:En)(σ:List b9):b8 CC 78 [.agg x.cells,.agg y.cells] σ λr aa=>r= .ret (.val (.bool (a28 x y)))/\aa=σ:=by
 refine b8.anyw hCC pu_ pu_ (c7 (qO Tryz.func78 ?_)) σ;refine c6R ?_;refine qY (b7B O Tryz.runUnderlying4 trivial trivial O O O) ?_;refine qC ?_ ?_<;>intro h1
 .refine c6 ?_;exact⟨_,rE1,_,_,O,O,j6 (by rw[a28,Q h1])⟩
 .refine qC ?_ ?_<;>intro h2
  .refine d0z ?_;exact⟨_,rE1,_,_,O,O,j6 (by rw[a28,W c24,Q h2])⟩
  .refine qY b1n ?_;refine qC ?_ ?_<;>intro h3
   .refine d0z ?_;exact⟨_,rE1,_,_,O,O,j6 (by rw[a28,W c24,W (by rw[h2];exact b3j),Q h3])⟩
   .refine qC ?_ ?_<;>intro h4
    .refine c6 ?_;exact⟨_,rE1,_,_,O,O,j6 (by rw[a28,W c24,W (by rw[h2];exact b3j),W (by rw[h3];exact b3j),Q h4])⟩
    .refine d0z ?_;exact⟨_,rE1,_,_,O,O,j6 (by rw[a28,W c24,W (by rw[h2];exact b3j),W (by rw[h3];exact b3j),W (by rw[h4];exact b3j)])⟩
theorem a7O{Y:List (List CV)}{r:List CV}(h:Y[i]?=some r)(e:j=i):Y[j]?=some r:=e▸h
abbrev zK:Ky:=⟨0,[],[]⟩
def b26(k:Ky):List Ky->Nat
 | []=>0
 |y::l=>if ltK y k=true then b26 k l+1 else 0
def a6Q(l:List Ky)(k:Ky):List Ky:=if l[b26 k l]?=some k then l else l.take (b26 k l)++k::l.drop (b26 k l)
theorem c3t(k:Ky):∀l:List Ky,b26 k l<=l.length
 | []=>n_6 _
 |y::l=>by
  have:=c3t k l;unfold b26
  split<;>simp<;>omega
theorem c2p{l:List (List CV)}{z y:List CV}(hi:i<=l.length):(J7 (l++[z]) (i+1) (((l++[z]).drop i).take (l.length -i))).set i y=l.take i++y::l.drop i:=by
 obtain⟨A,B,rfl,rfl⟩:∃A B,l=A++B/\A.length=i:=⟨l.take i,l.drop i,U,by simp;omega⟩;have h1:((A++B++[z]).drop A.length).take ((A++B).length -A.length)=B:=by simp
 rw[h1];obtain⟨h,t,ht⟩:∃h t,B++[z]=h::t:=by cases B<;>simp
 have h2:A++B++[z]=A++h::t:=by rw[H5,ht]
 have h3:t.length=B.length:=by have:=n_7 List.length ht;simp at this;omega
 unfold J7;have h4:(A++h::t).take (A.length+1)=A++[h]:=by rw[List.take_append,U2 G,c9p];rfl
 have h5:(A++h::t).drop (A.length+1+B.length)=[]:=by rw[List.drop_eq_nil_iff];simp;omega
 rw[h2,h4,h5,Z7];simp
theorem c6x{l N:List (List CV)}{z:List CV}(hi:i<=l.length):(J7 (l++[z]) (i+1) N)[i]?=(l++[z])[i]?:=by
 unfold J7;rw[T7 H6,a2q,Q G]
theorem c58(n:Nat)(l:List Ky):F7 n (.vec 3 (l.map Ky.cv)):=λr hr c hc=>((C6 (f:=Ky.cv) (λ_=>O4.all ⟨.val _,.val _,.val _,J⟩) _) r hr c hc).old
theorem a6N(l:List Ky):∀r∈l.map Ky.cv,∀c∈r,p9 c:=λr hr c hc=>(C6 (f:=Ky.cv) (λ_=>O4.all ⟨.val _,.val _,.val _,J⟩) _) r hr c hc
theorem a1W{l:List α}{x:α}(h:l[i]?=some x):l.set i x=l:=by
 apply b02;intro j;rw[a8X]
 split
 .rename_i e;subst e;rw[Q (n_2.1 h).1,h]
 .rfl
def c6z(l:List Ky):List Ky:=l.foldl a6Q []
theorem d2s(l:List Ky)(k:Ky):(a6Q l k).length<=l.length+1:=by
 unfold a6Q
 split
 .omega
 .have:=c3t k l;simp;omega
theorem c8a{f:α->List CV}{k s:Nat}{l:List α}(hk:n<=k)(hs:σ[k]?=some (.vec s (l.map f)))(hp:∀r∈l.map f,∀c∈r,p9 c):Cls n σ (.vec k 0 l.length) (.list (l.map f) true none):=
 .vec hk hs U U (λi r r' h1 h2=>by
  have h3:(l.map f)[i]?=some r:=by simpa[U2]using h1
  rw[h3]at h2;injection h2 with h2;rw[h2]) (λi j r r' c c' h1 h2 h3 h4=>by
  have h5:(l.map f)[i]?=some r:=by simpa[U2]using h1
  rw[h5]at h2;injection h2 with h2;subst h2
  rw[h3]at h4;injection h4 with h4;subst h4
  exact .old (hp r (n_3 h5) c (n_3 h3)).old)
theorem b54{l:List α}(h:l≠[]):gnn l.length=true:=by cases l;exact absurd O h;rfl
theorem c73(l:List Ky):(c6z l).length<=l.length:=by
 have h:∀(l a:List Ky),(l.foldl a6Q a).length<=a.length+l.length:=by
  intro l
  induction l with
  |nil=>intro a;simp
  |cons y l ih=>
   intro a;have h1:=ih (a6Q a y);have h2:=d2s a y;simp only[b4Z,D3];omega
 have:=h l [];unfold c6z;simpa using this
def gV{α:Type}:List α->Nat->CV
 | [],_=>.list [] false none
 |x::l,q=>.vec q 0 (x::l).length
def gO{α:Type}(s:Nat)(f:α->List CV):List α->b9
 | []=>.dead
 |x::l=>.vec s ((x::l).map f)
theorem a2B{l:List α}(h:l≠[])(q:Nat):gV l q= .vec q 0 l.length:=by cases l;exact absurd O h;rfl
theorem c4y{s:Nat}{f:α->List CV}{l:List α}(h:l≠[]):gO s f l= .vec s (l.map f):=by cases l;exact absurd O h;rfl
theorem a1J(l:List En):∀r∈l.map En.cells,∀c∈r,p9 c:=λr hr c hc=>(C6 (f:=En.cells) (λ_=>O4.all ⟨.val _,.val _,.val _,.val _,.val _,.val _,J⟩) _) r hr c hc
theorem T8(l:List En)(nn:Bool):p9 (.list (l.map En.cells) nn none):=F3 (f:=En.cells) (λ_=>⟨.val _,.val _,.val _,.val _,.val _,.val _,J⟩) l nn
theorem a7u(n:Nat)(l:List En):F7 n (.vec 6 (l.map En.cells)):=λr hr c hc=>(a1J l r hr c hc).old
theorem b6m(n:Nat)(l:List En):F7 n (gO 6 En.cells l):=by
 cases l
 .trivial
 .exact a7u n _
theorem d9t(l:List En)(hq:n<=q)(h:σ[q]?=some (gO 6 En.cells l)):Cls n σ (gV l q) (.list (l.map En.cells) (gnn l.length) none):=by
 by_cases h0:l=[]
 .subst h0;exact .old (T8 [] _).old
 .rw [a2B h0,b54 h0];exact c8a hq (by rw[h,c4y h0]) (a1J l)
theorem d9z(l:List En)(k q:Nat):ShV k q (gV l k) (gV l q):=by
 cases l
 .exact .inl O
 .exact .inr (.inl ⟨_,_,O,O⟩)
theorem b3r{k:Nat}(l:List En)(h:ak[j]?=some k):C3 L ak (gV l k) (gV l j):=by
 cases l
 .exact .same O (T8 [] _).old
 .exact .vec h
theorem d8s(x y:En):∀w,(Op.equal 83 (.agg [.string (str x.p),.string (str x.o),.int .i64 x.k,.string (str x.pl),.int .i64 x.ix,.int .i64 x.ct].toArray) (.agg [.string (str y.p),.string (str y.o),.int .i64 y.k,.string (str y.pl),.int .i64 y.ix,.int .i64 y.ct].toArray)).run CC.P w= .ok (decide (x=y)) w:=λw=>by
 show(Op.equal _ _ _).run Tryz.prog w=_;simp[Op.equal,Op.maxDepth,go_sem,Q4];obtain⟨a,b,c,d,e,f⟩:=x;obtain⟨a',b',c',d',e',f'⟩:=y;by_cases h1:a=a'<;>by_cases h2:b=b'<;>by_cases h3:c=c'<;>by_cases h4:d=d'<;>by_cases h5:e=e'<;>by_cases h6:f=f'<;>simp[h1,h2,h3,h4,h5,h6]
def EnP(L:List (I×Src))(e:En):Prop:=∃x∈L,∃d∈x.2.decls,e=fiE L d.k x.2.pkg d.name
theorem c9S:Cls n σ (.list [] false none) (.list (([]:List En).map En.cells) (gnn ([]:List En).length) none):=.old (T8 [] _).old
theorem c5G{l:List Fi}{L:List (I×Src)}(eB:B8 l=L)(nn:Bool)(h0:C7 l=0)(hl:l.length<=1000000)(hp:∀f∈l,f.p.length<=1000000000)(dw:∀q b,E9 l q=some b->b.length<=1000000000)(hd:C7 l=0->∀f∈l,E9 l f.p=some f.b)(σ:List b9):b8 CC 42 [.agg (A0 l nn)] σ λr τ=>r= .ret (.agg (a95 (L.map Prod.fst) (L.map Prod.snd)))/\τ=σ:=by
 have h:=d5f l nn hl hp dw hd σ;rw[b4s,b3v,Q h0,Q h0,eB]at h;exact h
theorem c8c(a:En):O4 a.cells:=⟨.val _,.val _,.val _,.val _,.val _,.val _,J⟩
theorem a5m(a:Ky):O4 (Ky.cv a):=⟨.val _,.val _,.val _,J⟩
theorem b2p(l:List En)(nn:Bool):p9 (.list (l.map En.cells) nn none):=F3 (f:=En.cells) c8c l nn
def d8h(f:Fi):Ky:=⟨4,f.p,[]⟩
def d9G(e:En):Ky:=if e.k=1 then⟨1,e.p,e.o⟩else if e.k=2 then⟨2,e.p,e.o⟩else⟨3,e.o,[]⟩
def e2k(s:I):List Ky:=[⟨6,s,[]⟩,⟨7,s,[]⟩]
def e1D(x:Src):List Ky:=(x.pkg::x.imports).flatMap e2k
def KU(fl:List Fi):List Ky:=fl.map d8h++((A6 fl).2.2.map Prod.snd).map d9G++((A6 fl).2.1.map Prod.snd).flatMap e1D
theorem d0R{β:Type}{l:List α}{s:α}(h:l[j]?=some s)(g:α->β):(l.take (j+1)).map g=(l.take j).map g++[g s]:=by
 rw[Z2,h,a3M];rfl
end Go.Proofs.YtncmhkpnclafkaaGreatDoor
