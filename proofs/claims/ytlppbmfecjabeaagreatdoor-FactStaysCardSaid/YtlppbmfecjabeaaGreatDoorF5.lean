/- Part 5 of what the claim needs: values without addresses, and what the program's functions do with them. -/
import Derived.Test.YtlppbmfecjabeaaGreatDoorF4
set_option linter.all false
set_option maxRecDepth 100000
set_option maxHeartbeats 4000000
namespace Go.Proofs.YtlppbmfecjabeaaGreatDoor
open Go Go.Cl
variable {T:List Tok} {i f q a n2 f0 n' n3 n1 n7:Nat} {e2 k e1 e' e3 e5 e4 e6 e7:Int} {s u w:Str} {α:Type} {σ τ:List b9} {c:CV} {o:Option α} {y:α} {F:PF} {L:List (Str × Src)} {args:List CV} {z:Int × Nat × List Ex} {S:Option PX} {N:α->Nat} {A E:α->Int} {P:α->Prop} {t:Tok}
theorem c9K {L:Nat} {b:List Ex} {e:Int} {s:Nat} (h:s < L):Old L (.list (b.map Ex.cv) (gnn b.length) (tkE e b.length s)) :=
 .list (fun i j r c h1 h2=>(D8 (f:=Ex.cv) (fun a=>(Ex.pure a).all) _ r (n_2 h1) c (n_2 h2)).old) (fun k hk=>by
  unfold tkE at hk;split at hk
  ·cases hb:b.length with
   | zero=>rw [hb] at hk;cases hk
   | succ m=>rw [hb] at hk;injection hk with hk;omega
  ·cases hk)
theorem a9o (n:Nat) (e:Int) (m:Nat):J0 n (o5 e m):=by
 unfold o5
 split
 ·exact a4C _ _
 ·trivial
theorem b3H {n:Nat} {at_ e:Int} {ps:List Str} {b:List Ex} {s L:Nat} (h:s < L):J0 L (rbx T n at_ e ps b s):=B6 ⟨U5 _ _ _,.val _,.val _,.val _,C1 _ _ _,c9K h,N8 _ [] false,tt⟩
theorem a1H {rest:List b9} {n:Nat} {at_ e:Int} {ps:List Str} {b:List Ex} (hτ:τ=rbx T n at_ e ps b 1::o5 e b.length::rest) (hc:Old 2 c):F8 2 τ (.ret c) (.ret c) (rst T n at_ e ps b):=by
 subst hτ;exact ⟨[0,1],rfl,rfl,.ret (.old hc),.inr ⟨_,rfl,.same rfl (b3H de_)⟩,.inr ⟨_,rfl,.same rfl U8⟩,tt⟩
theorem d5e {n:Nat} {at_ e:Int} {ps:List Str} {b:List Ex} {tok:Option Nat} (he:e≠0) (h0:τ[0]? = some (.box [.list (T.map Tok.cv) true none,iv n,iv at_,iv e,.list (ps.map scv) (gnn ps.length) none,.list (b.map Ex.cv) (gnn b.length) tok,.list [] false none])) (hc:Old 2 c):F8 2 τ (.ret c) (.ret c) (rst T n at_ e ps b):=by
 have ht:∀ m s,tkE e m s=none:=fun m s=>n_0 he;have hp:o5 e b.length = .dead:=n_0 he;refine ⟨[0,1],rfl,rfl,.ret (.old hc),.inr ⟨_,h0,.box ⟨.old a0P,.old (.val _),.old (.val _),.old (.val _),.old W6,.list (fun r hr c hc=>(D8 (f:=Ex.cv) (fun a=>(Ex.pure a).all) _ r hr c hc).old) (fun j hj=>by rw [ht] at hj;cases hj),.old a2S,tt⟩⟩,.inl hp,tt⟩
theorem c9D {f:FuncId} {n:Nat} {at_ e:Int} {ps:List Str} {b:List Ex} (ap:∀ a∈args,u0 a) (hc:u0 c)
 (h:b8 CC f (.ptr 0 0::args) (rst T n at_ e ps b) fun r τ=>F8 2 τ r (.ret c) (rst T n at_ e ps b)) {σ:List b9} {q s:Nat} (ao:RAt σ q s T n at_ e ps b):b8 CC f (.ptr q 0::args) σ fun r τ=>r = .ret c/\τ=σ:=by
 refine (a7T (α:=Unit) (c:=fun _=>c) (N:=fun _=>n) (A:=fun _=>at_) (E:=fun _=>e) (B:=fun _=>b) (g:=fun _=>false) (P:=fun _=>True) ap (fun _=>hc) (h.mono fun r τ hh=>⟨(),hh,tt⟩) ao).mono fun r τ hh=>?_;obtain ⟨_,h1,h2,_⟩:=hh;refine ⟨h1,h2.trans ?_⟩;show (σ.set q _).set s _=σ;rw [a1v ao.1,a1v ao.2.1]
abbrev rS0 (σ:List b9) (q s:Nat) (T:List Tok) (n:Nat) (at_ e:Int) (ps:List Str) (b:List Ex):List b9:=(σ.set q (rbx T n at_ e ps b s)).set s (o5 e b.length)
theorem Y0 {f:FuncId} {c:α->CV} {n:Nat} {at_ e:Int} {ps:List Str} {b:List Ex} (ap:∀ a∈args,u0 a) (hc:∀ a,u0 (c a))
 (h:b8 CC f (.ptr 0 0::args) (rst T n at_ e ps b) fun r τ=>∃ a,F8 2 τ r (.ret (c a)) (rst T (N a) (A a) (E a) ps b)/\P a) {σ:List b9} {q s:Nat} (ao:RAt σ q s T n at_ e ps b) :
 b8 CC f (.ptr q 0::args) σ fun r τ=>∃ a,r = .ret (c a)/\τ=rS0 σ q s T (N a) (A a) (E a) ps b/\P a :=
 a7T (c:=c) (N:=N) (A:=A) (E:=E) (B:=fun _=>b) (g:=fun _=>false) (P:=P) ap hc (h.mono fun _ _ ⟨a,h1,h2⟩=>⟨a,h1,h2⟩) ao
theorem d0k (T:List Tok) (n:Nat) (at_ e:Int) (ps:List Str) (b:List Ex) (_:T.length<=1000000) (hn:n < T.length):b8 CC 183 [.ptr 0 0] (rst T n at_ e ps b) (fun r τ=>F8 2 τ r (.ret (.agg (tk T n).cells)) (rst T n at_ e ps b)):=by
 refine qO Tryz.func183 ?_;refine qD (p7 rfl a2g rfl j4 ?_);refine b2b ?_;refine hY (j5 rfl tt rfl b6h rfl Tryz.sizeOf191 de_) ?_;refine hY (m0 rfl tt rfl Tryz.isAgg191 rfl rfl) ?_;refine a3Z ?_;refine hY c8V ?_;refine hY a1w ?_;refine d3r ?_;refine Y5 ?_;refine z_2 ?_;exact ⟨_,D5 rfl b2U,a1H rfl (a44 _ _)⟩
theorem Z4 {n:Nat} {at_ e:Int} {ps:List Str} {b:List Ex} (hT:T.length<=1000000) (hn:n < T.length) {s:Nat} (ao:RAt σ q s T n at_ e ps b):b8 CC 183 [.ptr q 0] σ fun r τ=>r = .ret (.agg (tk T n).cells)/\τ=σ:=c9D (fun _ h=>by cases h) (Z9 _) (d0k T n at_ e ps b hT hn) ao
theorem c47 (T:List Tok) (n:Nat) (at_ e:Int) (ps:List Str) (b:List Ex) (x y:Int) (hy:y≠0):b8 CC 182 [.ptr 0 0,iv x,iv y] (rst T n at_ e ps b) (fun r τ=>∃ a:Int × Int,F8 2 τ r (.ret (.tup [])) (rst T n a.1 a.2 ps b)/\a.2≠0):=by
 refine qO Tryz.func182 ?_;refine qC ?_ ?_<;>intro h1
 ·have he:e=0:=sp_ h1;refine qD (j3 rfl tt tt rfl j2 t_1 (.inl rfl) rfl rfl (nb rfl) ?_);refine qD (j3 rfl tt tt rfl j2 b8p (.inl rfl) rfl rfl (nb rfl) ?_);exact ⟨_,rE0,(by exact ⟨(x,y),d5e hy rfl (.tup fun i c h=>by simp at h),hy⟩)⟩
 ·have he:e≠0:=sp_ h1;exact ⟨_,rE0,(by exact ⟨(at_,e),a1H rfl (.tup fun i c h=>by simp at h),he⟩)⟩
theorem a0b {n:Nat} {at_ e:Int} {ps:List Str} {b:List Ex} (x y:Int) (hy:y≠0) {s:Nat} (ao:RAt σ q s T n at_ e ps b):b8 CC 182 [.ptr q 0,iv x,iv y] σ fun r τ=>∃ a:Int × Int,r = .ret (.tup [])/\τ=rS0 σ q s T n a.1 a.2 ps b/\a.2≠0 :=
 Y0 (c:=fun _:Int × Int=>.tup []) (N:=fun _=>n) (A:=fun a=>a.1) (E:=fun a=>a.2) (fun _ h=>by simp at h;rcases h with rfl | rfl<;>exact .val _) (fun _=>C0 trivial) (c47 T n at_ e ps b x y hy) ao
def sgB (T:List Tok) (n:Nat) (e:Int) (k:Int) (u:Str):Bool:=decide (e=0) && isT (tk T n) k u
theorem T3 {n:Nat} {e:Int} (h:sgB T n e k u=true):e=0/\isT (tk T n) k u=true:=by
 simpa [sgB] using h
theorem a9i {n:Nat} {e:Int} (h:sgB T n e k u=true):Ok e (pIs T n k u) e (n+1):=by
 obtain ⟨h1,h2⟩:=T3 h;rw [pIs,n_1 h2];exact .some
theorem a9c {n:Nat} {e:Int} {y:Nat} (h:sgB T n e k u=false) (h2:e2≠0):Ok e (pIs T n k u) e2 y:=by
 by_cases he:e=0
 ·have:isT (tk T n) k u=false:=by simpa [sgB,he] using h
  rw [pIs,n_0 (by rw [this];decide)];exact .none h2
 ·exact .dead he h2
theorem c8M (T:List Tok) (n:Nat) (at_ e:Int) (ps:List Str) (b:List Ex) (hT:T.length<=1000000) (hn:n < T.length) (_:a0B T) (u:Str):b8 CC 230 [.ptr 0 0,(sv u)] (rst T n at_ e ps b) (fun r τ=>F8 2 τ r (.ret (.val (.bool (sgB T n e 4 u)))) (rst T (if (sgB T n e 4 u)=true then n+1 else n) at_ e ps b)):=by
 refine qO Tryz.func230 ?_;refine qG C3 ?_;refine qG c1I ?_;refine qG c0I ?_;refine a3Q ?_;refine qG C3 ?_;refine qG c1I ?_;refine qG c8Q ?_;refine b5W ?_;refine cC ?_ ?_<;>intro h1
 ·have hv:(sgB T n e 4 u)=true:=by simpa [sgB,isT,b8w] using h1
  rw [hv,n_1 rfl];refine qk ?_;refine z_6 ?_;exact c90
 ·have hv:(sgB T n e 4 u)=false:=by simpa [sgB,isT,b8w] using h1
  rw [hv,n_0 de_];refine qk ?_;exact c90
theorem V4 {n:Nat} {at_ e:Int} {ps:List Str} {b:List Ex} (hT:T.length<=1000000) (hn:n < T.length) (hW:a0B T) (u:Str) {s:Nat} (ao:RAt σ q s T n at_ e ps b):b8 CC 230 [.ptr q 0,(sv u)] σ fun r τ=>∃ a:Bool × Nat,r = .ret (.val (.bool a.1))/\τ=rS0 σ q s T a.2 at_ e ps b/\(a.1=(sgB T n e 4 u)/\(a.1=true->a.2=n+1)/\(a.1=false->a.2=n)/\a.2 < T.length) :=
 Y0 (c:=fun a:Bool × Nat=>.val (.bool a.1)) (N:=fun a=>a.2) (A:=fun _=>at_) (E:=fun _=>e) (fun _ h=>by simp at h;subst h;exact .val _) (fun _=>.val _) ((c8M T n at_ e ps b hT hn hW u).mono fun r τ h=>⟨((sgB T n e 4 u),if (sgB T n e 4 u)=true then n+1 else n),h,rfl,fun h=>n_1 h,fun h=>n_0 (by dsimp only at h;rw [h];decide),by
  dsimp only
  split
  ·rename_i h2;exact hW n hn (a5K (T3 h2).2 de_)
  ·exact hn⟩) ao
theorem c4A (T:List Tok) (n:Nat) (at_ e:Int) (ps:List Str) (b:List Ex) (hT:T.length<=1000000) (hn:n < T.length) (_:a0B T) (u:Str):b8 CC 181 [.ptr 0 0,(sv u)] (rst T n at_ e ps b) (fun r τ=>F8 2 τ r (.ret (.val (.bool (sgB T n e 1 u)))) (rst T (if (sgB T n e 1 u)=true then n+1 else n) at_ e ps b)):=by
 refine qO Tryz.func181 ?_;refine qG C3 ?_;refine qG c1I ?_;refine qG c0I ?_;refine a3Q ?_;refine qG C3 ?_;refine qG c1I ?_;refine qG c8Q ?_;refine b5W ?_;refine cC ?_ ?_<;>intro h1
 ·have hv:(sgB T n e 1 u)=true:=by simpa [sgB,isT,b8w] using h1
  rw [hv,n_1 rfl];refine qk ?_;refine z_6 ?_;exact c90
 ·have hv:(sgB T n e 1 u)=false:=by simpa [sgB,isT,b8w] using h1
  rw [hv,n_0 de_];refine qk ?_;exact c90
theorem X7 {n:Nat} {at_ e:Int} {ps:List Str} {b:List Ex} (hT:T.length<=1000000) (hn:n < T.length) (hW:a0B T) (u:Str) {s:Nat} (ao:RAt σ q s T n at_ e ps b):b8 CC 181 [.ptr q 0,(sv u)] σ fun r τ=>∃ a:Bool × Nat,r = .ret (.val (.bool a.1))/\τ=rS0 σ q s T a.2 at_ e ps b/\(a.1=(sgB T n e 1 u)/\(a.1=true->a.2=n+1)/\(a.1=false->a.2=n)/\a.2 < T.length) :=
 Y0 (c:=fun a:Bool × Nat=>.val (.bool a.1)) (N:=fun a=>a.2) (A:=fun _=>at_) (E:=fun _=>e) (fun _ h=>by simp at h;subst h;exact .val _) (fun _=>.val _) ((c4A T n at_ e ps b hT hn hW u).mono fun r τ h=>⟨((sgB T n e 1 u),if (sgB T n e 1 u)=true then n+1 else n),h,rfl,fun h=>n_1 h,fun h=>n_0 (by dsimp only at h;rw [h];decide),by
  dsimp only
  split
  ·rename_i h2;exact hW n hn (a5K (T3 h2).2 de_)
  ·exact hn⟩) ao
theorem c72 (T:List Tok) (n:Nat) (at_ e:Int) (ps:List Str) (b:List Ex) (hT:T.length<=1000000) (hn:n < T.length) (hW:a0B T) (u:Str):b8 CC 185 [.ptr 0 0,(sv u)] (rst T n at_ e ps b) (fun r τ=>∃ a:Nat × Int × Int,F8 2 τ r (.ret (.tup [])) (rst T a.1 a.2.1 a.2.2 ps b)/\(Ok e (pIs T n 4 u) a.2.2 a.1/\a.1 < T.length)):=by
 refine qO Tryz.func185 ?_;refine qD (c5 rfl a7F j1 (V4 hT hn hW u ⟨rfl,rfl,de_⟩) rfl ?_);rintro ⟨v,m⟩ ⟨hv,dy,cp,hm⟩;dsimp only at hv dy cp hm ⊢;refine qN [rbx T m at_ e ps b 1,o5 e b.length] rfl (qC ?_ ?_)<;> intro h1
 ·have hvf:v=false:=sp_ h1;rw [hvf] at hv;refine qY (c4 rfl a6c ⟨tt,tt⟩ (Z4 hT hm ⟨rfl,rfl,de_⟩) rfl) ?_;refine d2g ?_;rintro ⟨x,y⟩ hy;dsimp only at hy ⊢;refine qN [rbx T m x y ps b 1,o5 y b.length] rfl ?_;exact ⟨_,rE0,(by exact ⟨(m,x,y),a1H rfl (.tup fun i c h=>by simp at h),a9c hv.symm hy,hm⟩)⟩
 ·have hvt:v=true:=sp_ h1;rw [hvt] at hv;exact ⟨_,rE0,(by exact ⟨(m,at_,e),a1H rfl (.tup fun i c h=>by simp at h),by dsimp only;rw [dy hvt];exact a9i hv.symm,hm⟩)⟩
theorem M7 {n:Nat} {at_ e:Int} {ps:List Str} {b:List Ex} (hT:T.length<=1000000) (hn:n < T.length) (hW:a0B T) (u:Str) {s:Nat} (ao:RAt σ q s T n at_ e ps b):b8 CC 185 [.ptr q 0,(sv u)] σ fun r τ=>∃ a:Nat × Int × Int,r = .ret (.tup [])/\τ=rS0 σ q s T a.1 a.2.1 a.2.2 ps b/\(Ok e (pIs T n 4 u) a.2.2 a.1/\a.1 < T.length) :=
 Y0 (c:=fun _:Nat × Int × Int=>.tup []) (N:=fun a=>a.1) (A:=fun a=>a.2.1) (E:=fun a=>a.2.2) (fun _ h=>by simp at h;subst h;exact .val _) (fun _=>C0 trivial) (c72 T n at_ e ps b hT hn hW u) ao
abbrev a7f:List Str:=[[112,97,99,107,97,103,101],[105,109,112,111,114,116],[102,117,110,99],[116,101,115,116],[103,101,110],[105,102],[116,104,101,110],[101,108,115,101],[114,101,97,100],[115,105,122,101],[104,97,115],[101,110,118],[102,108,105,112]]
theorem b40 {l:List Str} (h:l[i]? = some w) (hd:decide (u∈l)=decide (u∈l.drop i)) (aC:¬ w=u):decide (u∈l)=decide (u∈l.drop (i+1)):=by
 obtain ⟨ae,rfl⟩:=n_3.1 h;rw [hd,R4 ae];have:¬ u=l[i]:=fun e=>aC e.symm;exact b5V.2 ⟨fun h=>(P0.1 h).resolve_left this,a4r _⟩
theorem a6e (l:List Str) (nn:Bool) (u:Str) (hl:l.length<=1000000) (σ:List b9):b8 CC 186 [(.list (l.map scv) nn none),(sv u)] σ fun r Y=>r = .ret (.val (.bool (decide (u∈l))))/\Y=σ:=by
 refine b8.anyw hCC pu_ pu_ (c7 (qO Tryz.func186 ?_)) σ;refine d7e ?_;intro i ⟨hi,hd⟩;refine qk (qC ?_ ?_)<;> intro h1
 ·have ae:i < l.length:=sm_ h1;obtain ⟨w,hb⟩:∃ w,l[i]? = some w:=⟨l[i]'ae,si_⟩;refine b1Z ?_;refine qC ?_ ?_<;>intro h2
  ·have hw:w=u:=sp_ h2;exact d1w
  ·have hw:¬ w=u:=sp_ h2;exact d1G
 ·have aE:l.length<=i:=sm_ h1;refine V9 ?_;exact ⟨_,rE1,_,_,rfl,rfl,j8 (show false=decide (u∈l) by rw [hd,T5 aE];simp)⟩
theorem a5C (u:Str) (σ:List b9):b8 CC 229 [(sv u)] σ fun r Y=>r = .ret (.val (.bool (P6 u)))/\Y=σ:=by
 refine b8.anyw hCC pu_ pu_ (c7 (qO Tryz.func229 ?_)) σ;refine qY (B3 (a7f.map scv) rfl ⟨rfl,rfl,rfl,rfl,rfl,rfl,rfl,rfl,rfl,rfl,rfl,rfl,rfl,tt⟩ t_2 t_0 t_3 rfl rfl rfl rfl rfl rfl rfl rfl rfl) ?_;refine qY I7 ?_;refine j7 hCC (α:=Nat) (fun i=>[(0,(sv u)),(5,(.list (a7f.map scv) true none)),(6,iv a7f.length),(7,iv i)]) (fun _=>[]) (fun i=>i<=a7f.length/\decide (u∈a7f)=decide (u∈a7f.drop i)) (fun i=>a7f.length - i) 0 ⟨n_5 _,rfl⟩ tu_ (ah:=[]) rfl w8 uz_ ?_;intro i ⟨hi,hd⟩;have hL:a7f.length=13:=rfl;refine qk (qC ?_ ?_)<;> intro h1
 ·have ae:i < a7f.length:=sm_ h1;obtain ⟨w,hb⟩:∃ w,a7f[i]? = some w:=⟨a7f[i]'ae,a1u ae⟩;refine b1Z ?_;refine qC ?_ ?_<;>intro h2
  ·have hw:u=w:=sp_ h2;refine c6 ?_;exact ⟨_,rE1,_,_,rfl,rfl,j8 (show true=decide (u∈a7f) from (a1R (hw ▸ n_2 hb)).symm)⟩
  ·have hw:¬ u=w:=sp_ h2;refine qY o7 ?_;exact ⟨(i+1),_,⟨om_,om_,b40 hb hd (fun e=>hw e.symm)⟩,tu_,rfl⟩
 ·have aE:a7f.length<=i:=sm_ h1;refine V9 ?_;exact ⟨_,rE1,_,_,rfl,rfl,j8 (show false=decide (u∈a7f) by rw [hd,T5 aE];simp)⟩
def a01 (T:List Tok) (path:Bool) (n:Nat):Option (Tok × Nat):=(G0 T n 3).bind fun x=>if (if path=true then G6 x.1.t else A9 x.1.t)=true then some x else none
theorem a3o (T:List Tok) (n:Nat):a01 T true n=a0o T n:=by simp [a01,a0o]
theorem c2b {n:Nat} {e:Int} {y:Str × Nat} (h:e≠0\/(tk T n).k≠1\/P6 (tk T n).t=true) (h2:e2≠0):Ok e ((J3 T n).map fun x=>(x.1.t,x.2)) e2 y:=by
 by_cases he:e=0
 ·have hn:J3 T n=none:=by
   unfold J3 G0
   split
   ·rename_i hk
    rcases h with h | h | h
    ·exact absurd he h
    ·exact absurd hk h
    ·simp [h]
   ·rfl
  rw [hn];exact .none h2
 ·exact .dead he h2
theorem c2k {n:Nat} {e:Int} (h:(tk T n).k=1/\P6 (tk T n).t=false):Ok e ((J3 T n).map fun x=>(x.1.t,x.2)) e ((tk T n).t,n+1):=by
 have hn:J3 T n=some (tk T n,n+1):=by
  unfold J3 G0;rw [n_1 h.1];simp [h.2]
 rw [hn];exact .some
theorem c4O (T:List Tok) (n:Nat) (at_ e:Int) (ps:List Str) (b:List Ex) (hT:T.length<=1000000) (hn:n < T.length) (hW:a0B T):b8 CC 184 [.ptr 0 0] (rst T n at_ e ps b) (fun r τ=>∃ a:Str × Nat × Int × Int,F8 2 τ r (.ret (sv a.1)) (rst T a.2.1 a.2.2.1 a.2.2.2 ps b)/\(Ok e ((J3 T n).map fun x=>(x.1.t,x.2)) a.2.2.2 (a.1,a.2.1)/\a.2.1 < T.length)):=by
 refine qO Tryz.func184 ?_;refine qY b7l ?_;refine z_1 ?_;refine qG c7K ?_;refine qG a34 ?_;refine a3g ?_;refine qG b5G ?_;refine qG a2b ?_;refine qG (fun hg=>c4 rfl Tryz.call229 ⟨hg,tt⟩ (a5C _ _) rfl) ?_;refine qY Q1 ?_;refine qC ?_ ?_<;>intro h1
 ·have hv:e≠0\/(tk T n).k≠1\/P6 (tk T n).t=true:=by simpa [or_assoc] using h1
  refine qD (c5 rfl a9Y a3F (a0b _ _ de_ ⟨rfl,rfl,de_⟩) rfl ?_);rintro ⟨x,y⟩ hy;dsimp only at hy ⊢;refine c5Z ?_;exact ⟨_,rE1,(by exact ⟨([],n,x,y),a1H rfl (.val _),c2b hv hy,hn⟩)⟩
 ·have hv:e=0/\(tk T n).k=1/\P6 (tk T n).t=false:=by simpa [and_assoc] using h1
  refine z_6 ?_;refine c6 ?_;exact ⟨_,rE1,(by exact ⟨((tk T n).t,n+1,at_,e),a1H rfl (.val _),c2k hv.2,hW n hn (by rw [hv.2.1];decide)⟩)⟩
theorem a6o {n:Nat} {at_ e:Int} {ps:List Str} {b:List Ex} (hT:T.length<=1000000) (hn:n < T.length) (hW:a0B T) {s:Nat} (ao:RAt σ q s T n at_ e ps b):b8 CC 184 [.ptr q 0] σ fun r τ=>∃ a:Str × Nat × Int × Int,r = .ret (sv a.1)/\τ=rS0 σ q s T a.2.1 a.2.2.1 a.2.2.2 ps b/\(Ok e ((J3 T n).map fun x=>(x.1.t,x.2)) a.2.2.2 (a.1,a.2.1)/\a.2.1 < T.length) :=
 Y0 (c:=fun a:Str × Nat × Int × Int=>(sv a.1)) (N:=fun a=>a.2.1) (A:=fun a=>a.2.2.1) (E:=fun a=>a.2.2.2) (fun _ h=>by simp at h;try (subst h;exact .val _)) (fun _=>.val _) (c4O T n at_ e ps b hT hn hW) ao
theorem c2p {n:Nat} {e:Int} {path:Bool} {y:Str × Nat} (h:e≠0\/(tk T n).k≠3\/(if path=true then G6 (tk T n).t else A9 (tk T n).t)=false) (h2:e2≠0):Ok e ((a01 T path n).map fun x=>(x.1.t,x.2)) e2 y:=by
 by_cases he:e=0
 ·have hn:a01 T path n=none:=by
   unfold a01 G0
   split
   ·rename_i hk
    rcases h with h | h | h
    ·exact absurd he h
    ·exact absurd hk h
    ·cases path<;>simp_all
   ·rfl
  rw [hn];exact .none h2
 ·exact .dead he h2
theorem c2u {n:Nat} {e:Int} {path:Bool} (h:(tk T n).k=3/\(if path=true then G6 (tk T n).t else A9 (tk T n).t)=true):Ok e ((a01 T path n).map fun x=>(x.1.t,x.2)) e ((tk T n).t,n+1):=by
 have hn:a01 T path n=some (tk T n,n+1):=by
  unfold a01 G0;rw [n_1 h.1];have h2:=h.2;cases path<;>simp_all
 rw [hn];exact .some
theorem c4f (T:List Tok) (n:Nat) (at_ e:Int) (ps:List Str) (b:List Ex) (hT:T.length<=1000000) (hn:n < T.length) (hW:a0B T) (path:Bool) (hL:c7S T):b8 CC 231 [.ptr 0 0,(.val (.bool path))] (rst T n at_ e ps b) (fun r τ=>∃ a:Str × Nat × Int × Int,F8 2 τ r (.ret (sv a.1)) (rst T a.2.1 a.2.2.1 a.2.2.2 ps b)/\(Ok e ((a01 T path n).map fun x=>(x.1.t,x.2)) a.2.2.2 (a.1,a.2.1)/\a.2.1 < T.length)):=by
 refine qO Tryz.func231 ?_;refine qY b7l ?_;refine z_1 ?_;refine qG c7K ?_;refine qG a34 ?_;refine a3g ?_;refine qG C3 ?_;refine qG a3G ?_;refine d2m ?_;refine qH rfl rfl (fun hk hg=>c4 rfl c3I ⟨⟨hk,hg⟩,tt⟩ (a1h _ _) rfl) ?_;refine d0u ?_;refine qY Q1 ?_;refine qG C3 ?_;refine qG a4O ?_;refine qG a3G ?_;refine d2m ?_;refine qH rfl rfl (fun hk hg=>c4 rfl c2a ⟨⟨hk,hg⟩,tt⟩ (a1k _ _) rfl) ?_;refine d0u ?_;refine qY Q1 ?_;refine qC ?_ ?_<;>intro h1
 ·have hv:e≠0\/(tk T n).k≠3\/(if path=true then G6 (tk T n).t else A9 (tk T n).t)=false:=by
   cases path<;>simpa [or_assoc] using h1
  refine qD (c5 rfl a9Y a3F (a0b _ _ de_ ⟨rfl,rfl,de_⟩) rfl ?_);rintro ⟨x,y⟩ hy;dsimp only at hy ⊢;refine c5Z ?_;exact ⟨_,rE1,(by exact ⟨([],n,x,y),a1H rfl (.val _),c2p hv hy,hn⟩)⟩
 ·have hv:e=0/\(tk T n).k=3/\(if path=true then G6 (tk T n).t else A9 (tk T n).t)=true:=by
   cases path<;>simpa [and_assoc] using h1
  refine z_6 ?_;refine c6 ?_;exact ⟨_,rE1,(by exact ⟨((tk T n).t,n+1,at_,e),a1H rfl (.val _),c2u hv.2,hW n hn (by rw [hv.2.1];decide)⟩)⟩
theorem a9g {n:Nat} {at_ e:Int} {ps:List Str} {b:List Ex} (hT:T.length<=1000000) (hn:n < T.length) (hW:a0B T) (path:Bool) (hL:c7S T) {s:Nat} (ao:RAt σ q s T n at_ e ps b):b8 CC 231 [.ptr q 0,(.val (.bool path))] σ fun r τ=>∃ a:Str × Nat × Int × Int,r = .ret (sv a.1)/\τ=rS0 σ q s T a.2.1 a.2.2.1 a.2.2.2 ps b/\(Ok e ((a01 T path n).map fun x=>(x.1.t,x.2)) a.2.2.2 (a.1,a.2.1)/\a.2.1 < T.length) :=
 Y0 (c:=fun a:Str × Nat × Int × Int=>(sv a.1)) (N:=fun a=>a.2.1) (A:=fun a=>a.2.2.1) (E:=fun a=>a.2.2.2) (fun _ h=>by simp at h;try (subst h;exact .val _)) (fun _=>.val _) (c4f T n at_ e ps b hT hn hW path hL) ao
theorem b7b {n:Nat} {e:Int} {y:Int × Nat} (h:e≠0\/(tk T n).k≠2) (h2:e2≠0):Ok e ((G0 T n 2).map fun x=>(x.1.n,x.2)) e2 y:=by
 by_cases he:e=0
 ·have hn:G0 T n 2=none:=by
   unfold G0
   split
   ·rename_i hk
    rcases h with h | h
    ·exact absurd he h
    ·exact absurd hk h
   ·rfl
  rw [hn];exact .none h2
 ·exact .dead he h2
theorem b6s {n:Nat} {e:Int} (h:(tk T n).k=2):Ok e ((G0 T n 2).map fun x=>(x.1.n,x.2)) e ((tk T n).n,n+1):=by
 have hn:G0 T n 2=some (tk T n,n+1):=by
  unfold G0;rw [n_1 h];rfl
 rw [hn];exact .some
theorem b8Q (T:List Tok) (n:Nat) (at_ e:Int) (ps:List Str) (b:List Ex) (hT:T.length<=1000000) (hn:n < T.length) (hW:a0B T) (hN:∀ i,0<=(tk T i).n/\(tk T i).n<=9007199254740993):b8 CC 322 [.ptr 0 0] (rst T n at_ e ps b) (fun r τ=>∃ a:Int × Nat × Int × Int,F8 2 τ r (.ret (iv a.1)) (rst T a.2.1 a.2.2.1 a.2.2.2 ps b)/\(Ok e ((G0 T n 2).map fun x=>(x.1.n,x.2)) a.2.2.2 (a.1,a.2.1)/\a.2.1 < T.length/\-9007199254740993<=a.1/\a.1<=9007199254740993)):=by
 refine qO Tryz.func322 ?_;refine qY b7l ?_;refine z_1 ?_;refine qG c7K ?_;refine qG a34 ?_;refine a3g ?_;refine qC ?_ ?_<;>intro h1
 ·have hv:e≠0\/(tk T n).k≠2:=sp_ h1;refine qD (c5 rfl a9Y a3F (a0b _ _ de_ ⟨rfl,rfl,de_⟩) rfl ?_);rintro ⟨x,y⟩ hy;dsimp only at hy ⊢;refine c5Z ?_;exact ⟨_,rE1,(by exact ⟨(0,n,x,y),a1H rfl (.val _),b7b hv hy,hn,do_,do_⟩)⟩
 ·have hv:e=0/\(tk T n).k=2:=sp_ h1;refine z_6 ?_;refine c6 ?_;exact ⟨_,rE1,(by exact ⟨((tk T n).n,n+1,at_,e),a1H rfl (.val _),b6s hv.2,hW n hn (by rw [hv.2];decide),by have:=hN n;dsimp only;omega,by have:=hN n;dsimp only;omega⟩)⟩
theorem a7E {n:Nat} {at_ e:Int} {ps:List Str} {b:List Ex} (hT:T.length<=1000000) (hn:n < T.length) (hW:a0B T) (hN:∀ i,0<=(tk T i).n/\(tk T i).n<=9007199254740993) {s:Nat} (ao:RAt σ q s T n at_ e ps b):b8 CC 322 [.ptr q 0] σ fun r τ=>∃ a:Int × Nat × Int × Int,r = .ret (iv a.1)/\τ=rS0 σ q s T a.2.1 a.2.2.1 a.2.2.2 ps b/\(Ok e ((G0 T n 2).map fun x=>(x.1.n,x.2)) a.2.2.2 (a.1,a.2.1)/\a.2.1 < T.length/\-9007199254740993<=a.1/\a.1<=9007199254740993) :=
 Y0 (c:=fun a:Int × Nat × Int × Int=>(iv a.1)) (N:=fun a=>a.2.1) (A:=fun a=>a.2.2.1) (E:=fun a=>a.2.2.2) (fun _ h=>by cases h) (fun _=>.val _) (b8Q T n at_ e ps b hT hn hW hN) ao
theorem c5H {n k:Nat} {at_:Int} {ps:List Str} {b:List Ex} (h0:τ[0]? = some (.box [.list (T.map Tok.cv) true none,iv n,iv at_,iv 0,.list (ps.map scv) (gnn ps.length) none,.list (b.map Ex.cv) (gnn b.length) (G9 b.length k),.list [] false none])) (hk:τ[k]? = some (r7 b.length)) (h2:2<=k) (hc:Old 2 c):F8 2 τ (.ret c) (.ret c) (a55 T n at_ 0 ps b):=by
 have k1:a5B 2 [0,1,k]=true:=rfl;have k2:a0f [0,1,k]=true:=by
  simp [a0f];omega
 refine ⟨[0,1,k],k1,k2,.ret (.old hc),.inr ⟨_,h0,.box ?_⟩,.inl rfl,.inr ⟨_,hk,.same rfl G5⟩,tt⟩;refine ⟨.old a0P,.old (.val _),.old (.val _),.old (.val _),.old W6,.list (fun r hr c hc=>(D8 (f:=Ex.cv) (fun a=>(Ex.pure a).all) _ r hr c hc).old) ?_,.old a2S,tt⟩;intro j hj;have fa:G9 b.length 2=some j:=hj;cases hb:b.length with
 | zero=>rw [hb] at fa;cases fa
 | succ m=>rw [hb] at fa;injection fa with fa;subst fa;exact ⟨k,rfl,rfl⟩
theorem a5e {n:Nat} {at_ e:Int} {ps:List Str} {b:List Ex} {tok:Option Nat} (he:e≠0) (h0:τ[0]? = some (.box [.list (T.map Tok.cv) true none,iv n,iv at_,iv e,.list (ps.map scv) (gnn ps.length) none,.list (b.map Ex.cv) (gnn b.length) tok,.list [] false none])) (hc:Old 2 c):F8 2 τ (.ret c) (.ret c) (a55 T n at_ e ps b):=by
 have ht:∀ m s,tkE e m s=none:=fun m s=>n_0 he;have hp:o5 e b.length = .dead:=n_0 he;refine ⟨[0,1,τ.length+2],rfl,by simp [a0f],.ret (.old hc),.inr ⟨_,h0,.box ⟨.old a0P,.old (.val _),.old (.val _),.old (.val _),.old W6,.list (fun r hr c hc=>(D8 (f:=Ex.cv) (fun a=>(Ex.pure a).all) _ r hr c hc).old) (fun j hj=>by rw [ht] at hj;cases hj),.old a2S,tt⟩⟩,.inl rfl,.inl hp,tt⟩
abbrev rS1 (σ:List b9) (q s:Nat) (T:List Tok) (n:Nat) (at_ e:Int) (ps:List Str) (b:List Ex):List b9:=(σ.set q (rbx T n at_ e ps b σ.length)).set s .dead++[o5 e b.length]
theorem a1U {f:FuncId} {c:α->CV} {B:α->List Ex} {n:Nat} {at_ e:Int} {ps:List Str} {b:List Ex} (ap:∀ a∈args,u0 a) (hc:∀ a,u0 (c a))
 (h:b8 CC f (.ptr 0 0::args) (rst T n at_ e ps b) fun r τ=>∃ a,F8 2 τ r (.ret (c a)) (a55 T (N a) (A a) (E a) ps (B a))/\P a) {σ:List b9} {q s:Nat} (ao:RAt σ q s T n at_ e ps b) :
 b8 CC f (.ptr q 0::args) σ fun r τ=>∃ a,r = .ret (c a)/\τ=rS1 σ q s T (N a) (A a) (E a) ps (B a)/\P a :=
 a7T (c:=c) (N:=N) (A:=A) (E:=E) (B:=B) (g:=fun _=>true) (P:=P) ap hc (h.mono fun _ _ ⟨a,h1,h2⟩=>⟨a,h1,h2⟩) ao
abbrev a8y (w:Nat × List Ex):Int × List Ex:=((w.1:Int),w.2)
theorem c0r {e:Int} {b:List Ex} {x:Ex} {y:Int × List Ex} (h:(e=0->(b.length=256/\e2≠0)\/(b.length≠256/\e2=0))/\(e≠0->e2≠0)) (hy:e2=0->y=((b.length:Int),b++[x])):Ok e ((V8 b x).map a8y) e2 y:=by
 refine ⟨fun h0=>?_,h.2⟩;unfold V8
 rcases h.1 h0 with ⟨h1,h2⟩ | ⟨h1,h2⟩
 ·rw [n_1 h1];exact .inr ⟨rfl,h2⟩
 ·rw [n_0 h1,hy h2];exact .inl ⟨rfl,h2⟩
theorem c7c (T:List Tok) (n:Nat) (at_ e:Int) (ps:List Str) (b:List Ex) (hb:b.length<=256) (x:Ex) (z:Int):b8 CC 272 [.ptr 0 0,.agg x.cells,iv z] (rst T n at_ e ps b) (fun r τ=>∃ a:Int × Int × Int × List Ex,F8 2 τ r (.ret (iv a.1)) (a55 T n a.2.1 a.2.2.1 ps a.2.2.2)/\(Ok e ((V8 b x).map a8y) a.2.2.1 (a.1,a.2.2.2)/\a.2.2.2.length<=256/\-1<=a.1/\a.1<=256)):=by
 refine cO Tryz.func272 ?_;refine b1p ?_;refine M9 (α:=Int × Int) (fun _=>[(0,.ptr 0 0),(4,.ptr 2 0)]) (fun a=>[rbx T n a.1 a.2 ps b 1,o5 a.2 b.length,.box x.cells]) (fun a=>(e=0->(b.length=256/\a.2≠0)\/(b.length≠256/\a.2=0))/\(e≠0->a.2≠0)) ?_ ?_
 ·
  refine qk (qG C3 ?_);refine qG (fun hg=>b2y rfl hg rfl) ?_;refine qG (fun hg=>j5 rfl hg rfl b6h rfl b03 de_) ?_;refine qG b2i ?_;refine qG b6M ?_;refine a3Q ?_;refine qC ?_ ?_<;>intro h1
  ·have hv:e=0/\b.length=256:=sm_ h1;refine qD (c5 rfl a9Y a3F (a0b _ _ de_ ⟨rfl,rfl,de_⟩) rfl ?_);rintro ⟨x1,y1⟩ hy;dsimp only at hy ⊢;refine qN [rbx T n x1 y1 ps b 1,o5 y1 b.length,.box x.cells] rfl ?_;exact ⟨(x1,y1),⟨fun _=>.inl ⟨hv.2,hy⟩,fun _=>hy⟩,tu_,rfl⟩
  ·have hv:¬ (e=0/\b.length=256):=fun h=>by simp [h.1,h.2] at h1
   exact ⟨(at_,e),⟨fun h0=>.inr ⟨fun h=>hv ⟨h0,h⟩,h0⟩,fun h=>h⟩,tu_,rfl⟩
 ·rintro ⟨x1,y1⟩ E1 hp;dsimp only at hp ⊢;refine qk ?_;refine cC ?_ ?_<;>intro h2
  ·obtain rfl:y1=0:=sp_ h2;have hbl:(b++[x]).length=b.length+1:=by simp
   have hl:b.length≠256:=by
    by_cases h0:e=0
    ·rcases hp.1 h0 with ⟨_,h⟩ | ⟨h,_⟩
     ·exact absurd rfl h
     ·exact h
    ·exact absurd rfl (hp.2 h0)
   refine K8 [.box [.list (T.map Tok.cv) true none,iv n,iv x1,iv 0,.list (ps.map scv) (gnn ps.length) none,.list (b.map Ex.cv) (gnn b.length) (G9 b.length 1),.list [] false none],r7 b.length,.box x.cells] rfl ?_;refine d2N ?_;refine chf rfl b5w ?_;refine chf rfl (c9 rfl c0Q) ?_;refine chf rfl (c9 rfl b9U) ?_;refine chf rfl (c9 rfl c4c) ?_;refine chf rfl d6B ?_;refine D6 ?_;refine B8 rfl rfl rfl (F4 rfl tt tt rfl si_ q_2 b1j a7z Tryz.typeInfo212 b4g rfl (.inr rfl) q_7 (by have hb:Tryz.t212.bytes=64:=rfl;rw [hb];first|omega|(simp;done)|(simp;omega)) G7 ((b++[x]).map Ex.cv) (b++[x]).length si_ si_ ?_);refine c6o ?_;refine D7 rfl rfl (c9 rfl c0Q) ⟨tt,?_⟩;refine d1E ?_;refine b5z ?_;refine c6 ?_;exact ⟨_,rE1,(by exact ⟨(((b++[x]).length:Int) - 1,x1,0,b++[x]),c5H (k:=3) rfl rfl de_ (.val _),c0r hp (fun _=>by simp),by simp;omega,do_,by simp;omega⟩)⟩
  ·have eQ:y1≠0:=sp_ h2;refine qk ?_;refine b5z ?_;refine c6 ?_;exact ⟨_,rE1,(by exact ⟨((b.length:Int) - 1,x1,y1,b),a5e eQ rfl (.val _),c0r hp (fun h=>absurd h eQ),hb,do_,do_⟩)⟩
theorem d1h (x:Ex):u0 (.agg x.cells):=o8 (Ex.pure x)
theorem M6 {n:Nat} {at_ e:Int} {ps:List Str} {b:List Ex} (hb:b.length<=256) (x:Ex) (z:Int) {s:Nat} (ao:RAt σ q s T n at_ e ps b):b8 CC 272 [.ptr q 0,.agg x.cells,iv z] σ fun r τ=>∃ a:Int × Int × Int × List Ex,r = .ret (iv a.1)/\τ=rS1 σ q s T n a.2.1 a.2.2.1 ps a.2.2.2/\(Ok e ((V8 b x).map a8y) a.2.2.1 (a.1,a.2.2.2)/\a.2.2.2.length<=256/\-1<=a.1/\a.1<=256) :=
 a1U (c:=fun a:Int × Int × Int × List Ex=>(iv a.1)) (N:=fun _=>n) (A:=fun a=>a.2.1) (E:=fun a=>a.2.2.1) (B:=fun a=>a.2.2.2) (fun _ h=>by
  simp at h
  rcases h with rfl | rfl
  ·exact d1h x
  ·exact .val _) (fun _=>.val _) (c7c T n at_ e ps b hb x z) ao
structure RX where
 x:Int
 n:Nat
 at_:Int
 e:Int
 b:List Ex
abbrev cx (p:PX):Int × Nat × List Ex:=((p.1:Int),p.2.1,p.2.2)
theorem Ok.alive {e:Int} (h:Ok e o e' y) (h0:e'=0):e=0/\o=Option.some y:=by
 by_cases he:e=0
 ·rcases h.1 he with ⟨h1,_⟩ | ⟨_,h1⟩
  ·exact ⟨he,h1⟩
  ·exact absurd h0 h1
 ·exact absurd h0 (h.2 he)
theorem Ok.bindM {γ β:Type} {e:Int} {g:α->γ} {y:γ} {f:α->Option β} {z:β} (h:Ok e (o.map g) e1 y) (k:∀ p,o=Option.some p->g p=y->Ok e1 (f p) e2 z) (kd:e1≠0->e2≠0):Ok e (o.bind f) e2 z:=by
 refine ⟨fun h0=>?_,fun h0=>kd (h.2 h0)⟩
 rcases h.1 h0 with ⟨h1,h2⟩ | ⟨h1,h2⟩
 ·obtain ⟨p,hp,hg⟩:=N0.1 h1;rw [hp];exact (k p hp hg).1 h2
 ·rw [b2n.1 h1];exact .inr ⟨rfl,kd h2⟩
def RXP (T:List Tok) (n:Nat) (e:Int) (o:Option PX) (a:RX):Prop:=Ok e (o.map cx) a.e (a.x,a.n,a.b)/\a.n < T.length/\a.b.length<=256/\(a.e=0->n < a.n)/\-1<=a.x/\a.x<=256
def REC (T:List Tok) (ps:List Str) (f:Nat):Prop:=∀ (d n:Nat) (at_ e:Int) (b:List Ex),n < T.length->b.length<=256->d<=33->(e=0->8*(T.length - n)+6<=f)->∀ (σ:List b9) (q s:Nat),RAt σ q s T n at_ e ps b->b8 CC 232 [.ptr q 0,iv d] σ fun r τ=>∃ a:RX,r = .ret (iv a.x)/\τ=rS1 σ q s T a.n a.at_ a.e ps a.b/\RXP T n e ((A0 T ps f).ex d n b) a
def RSC (T:List Tok) (ps:List Str) (f:Nat):Prop:=∀ (d n:Nat) (at_:Int) (b:List Ex),n < T.length->b.length<=256->d<=32->8*(T.length - n)+6<=f+2->∀ (σ:List b9) (q s:Nat),RAt σ q s T n at_ 0 ps b->b8 CC 273 [.ptr q 0,iv d] σ fun r τ=>∃ a:RX,r = .ret (iv a.x)/\τ=rS1 σ q s T a.n a.at_ a.e ps a.b/\RXP T n 0 ((A0 T ps f).bin 2 d n b) a
def RTC (T:List Tok) (ps:List Str) (f:Nat):Prop:=∀ (d n:Nat) (at_:Int) (b:List Ex),n < T.length->b.length<=256->d<=32->8*(T.length - n)+6<=f+3->∀ (σ:List b9) (q s:Nat),RAt σ q s T n at_ 0 ps b->b8 CC 300 [.ptr q 0,iv d] σ fun r τ=>∃ a:RX,r = .ret (iv a.x)/\τ=rS1 σ q s T a.n a.at_ a.e ps a.b/\RXP T n 0 ((A0 T ps f).bin 3 d n b) a
def RFC (T:List Tok) (ps:List Str) (f:Nat):Prop:=∀ (d n:Nat) (at_:Int) (b:List Ex),n < T.length->b.length<=256->d<=32->8*(T.length - n)+1<=f->∀ (σ:List b9) (q s:Nat),RAt σ q s T n at_ 0 ps b->b8 CC 316 [.ptr q 0,iv d] σ fun r τ=>∃ a:RX,r = .ret (iv a.x)/\τ=rS1 σ q s T a.n a.at_ a.e ps a.b/\RXP T n 0 ((A0 T ps f).fac d n b) a
theorem RXP.dead {n m:Nat} {e x at2:Int} {o:Option PX} {b:List Ex} (h:e=0->o=Option.none) (h2:e2≠0) (hm:m < T.length) (hb:b.length<=256) (hx : -1<=x/\x<=256):RXP T n e o ⟨x,m,at2,e2,b⟩:=by
 refine ⟨⟨fun h0=>.inr ⟨by rw [h h0];rfl,h2⟩,fun _=>h2⟩,hm,hb,fun h0=>absurd h0 h2,hx.1,hx.2⟩
theorem a1O {e x:Int} {b b2:List Ex} {y:Ex} {m:Nat} (h:Ok e ((V8 b y).map a8y) e2 (x,b2)):Ok e ((K7 b y m).map cx) e2 (x,m,b2):=by
 have e1:(K7 b y m).map cx=((V8 b y).map a8y).map fun w=>(w.1,m,w.2):=by
  unfold K7;cases V8 b y<;>rfl
 rw [e1];refine ⟨fun h0=>?_,h.2⟩
 rcases h.1 h0 with ⟨h1,h2⟩ | ⟨h1,h2⟩
 ·rw [h1];exact .inl ⟨rfl,h2⟩
 ·rw [h1];exact .inr ⟨rfl,h2⟩
theorem d7s {ps:List Str} {d n:Nat} {b:List Ex}:(A0 T ps (f+1+1)).bin 1 d n b=((A0 T ps (f+1)).bin 2 d n b).bind fun x=>if opS (tk T x.2.1) 1=0 then some x else ((A0 T ps f).bin 2 d (x.2.1+1) x.2.2).bind fun y=>K7 y.2.2 ⟨4,0,opS (tk T x.2.1) 1,[],[(x.1:Int),(y.1:Int)]⟩ y.2.1:=by
 have h:(A0 T ps (f+1+1)).bin 1 d n b=(G3 T ps (A0 T ps (f+1))).bin 1 d n b:=rfl;rw [h];simp only [G3];rw [n_0 de_];rfl
theorem d3N (t:Tok):opS t 1=if isT t 4 [60]=true then 6 else if isT t 4 [61,61]=true then 7 else 0:=by
 by_cases h1:isT t 4 [60]=true
 ·rw [n_1 h1];exact a4o (x:=(6,[60])) de_ (by simpa [opM,isT,F0] using h1)
 ·rw [n_0 h1];by_cases h2:isT t 4 [61,61]=true
  ·rw [n_1 h2];exact a4o (x:=(7,[61,61])) de_ (by simpa [opM,isT,F0] using h2)
  ·rw [n_0 h2];refine a92 fun x hx=>?_;simp only [S0,P0,a8Z,or_false] at hx
   rcases hx with rfl | rfl | rfl | rfl | rfl | rfl | rfl<;>simp_all [opM,isT,F0]
theorem S5 {n k:Nat} {at_ e:Int} {ps:List Str} {b:List Ex} (h0:τ[0]? = some (rbx T n at_ e ps b k)) (hk:τ[k]? = some (o5 e b.length)) (h2:2<=k) (hc:Old 2 c):F8 2 τ (.ret c) (.ret c) (a55 T n at_ e ps b):=by
 by_cases he:e=0
 ·subst he;exact c5H h0 hk h2 hc
 ·exact a5e he h0 hc
theorem Y7 {L:Nat} {am:List Nat} {b:List Ex} {e:Int} {k p:Nat} (h:am[p]? = some k):E9 L am (.list (b.map Ex.cv) (gnn b.length) (tkE e b.length k)) (.list (b.map Ex.cv) (gnn b.length) (tkE e b.length p)):=by
 unfold tkE
 split
 ·exact a6d h
 ·exact .list (fun r hr c hc=>(D8 (f:=Ex.cv) (fun a=>(Ex.pure a).all) _ r hr c hc).old) (fun j hj=>by cases hj)
theorem Ok.bindP {e:Int} {f:α->Option PX} (h:Ok e o e1 y) (k:Ok e1 ((f y).map cx) e2 z):Ok e ((o.bind f).map cx) e2 z:=by
 have h1:(o.bind f).map cx=o.bind fun a=>(f a).map cx:=by cases o<;>rfl
 rw [h1];exact h.bind k
theorem Ok.bindX {e x:Int} {o:Option PX} {f:PX->Option PX} {n:Nat} {b:List Ex} (h:Ok e (o.map cx) e1 (x,n,b)) (k:∀ i:Nat,(i:Int)=x->Ok e1 ((f (i,n,b)).map cx) e2 z) (kd:e1≠0->e2≠0):Ok e ((o.bind f).map cx) e2 z:=by
 have h1:(o.bind f).map cx=o.bind fun a=>(f a).map cx:=by cases o<;>rfl
 rw [h1];refine h.bindM (fun p hp hg=>?_) kd;obtain ⟨i,m,c⟩:=p;obtain ⟨h1,h2,h3⟩:(i:Int)=x/\m=n/\c=b:=by simpa [cx] using hg
 subst h2 h3;exact k i h1
theorem Ok.bindT {e:Int} {o:Option (Tok × Nat)} {f:Tok × Nat->Option PX} {n:Nat} (h:Ok e (o.map fun x=>(x.1.t,x.2)) e1 (s,n)) (k:∀ t:Tok,t.t=s->Ok e1 ((f (t,n)).map cx) e2 z) (kd:e1≠0->e2≠0):Ok e ((o.bind f).map cx) e2 z:=by
 have h1:(o.bind f).map cx=o.bind fun a=>(f a).map cx:=by cases o<;>rfl
 rw [h1];refine h.bindM (fun p hp hg=>?_) kd;obtain ⟨t,m⟩:=p;obtain ⟨h1,h2⟩:t.t=s/\m=n:=sp_ hg;subst h2;exact k t h1
theorem Ok.bindI {e:Int} {o:Option (Tok × Nat)} {f:Tok × Nat->Option PX} {n:Nat} {s:Int} (h:Ok e (o.map fun x=>(x.1.n,x.2)) e1 (s,n)) (k:∀ t:Tok,t.n=s->Ok e1 ((f (t,n)).map cx) e2 z) (kd:e1≠0->e2≠0):Ok e ((o.bind f).map cx) e2 z:=by
 have h1:(o.bind f).map cx=o.bind fun a=>(f a).map cx:=by cases o<;>rfl
 rw [h1];refine h.bindM (fun p hp hg=>?_) kd;obtain ⟨t,m⟩:=p;obtain ⟨h1,h2⟩:t.n=s/\m=n:=sp_ hg;subst h2;exact k t h1
theorem Ok.zero {e:Int} (h:Ok 0 o e y):(e=0/\o=Option.some y)\/(e≠0/\o=Option.none):=by
 rcases h.1 rfl with ⟨h1,h2⟩ | ⟨h1,h2⟩
 ·exact .inl ⟨h2,h1⟩
 ·exact .inr ⟨h2,h1⟩
theorem b4w {o:Option PX} {x:Int} {n:Nat} {b:List Ex} (h:o.map cx=some (x,n,b)):∃ i:Nat,(i:Int)=x/\o=some (i,n,b):=by
 obtain ⟨⟨i,m,c⟩,hp,hg⟩:=N0.1 h;obtain ⟨h1,h2,h3⟩:(i:Int)=x/\m=n/\c=b:=by simpa [cx] using hg
 subst h2 h3;exact ⟨i,h1,hp⟩
theorem b3V {o:Option PX} (h:o.map cx=none):o=none:=b2n.1 h
theorem c9n {ps:List Str} {d n:Nat} {b:List Ex} (hd:32 < d):(A0 T ps f).ex d n b=none:=by
 cases f with
 | zero=>rfl
 | succ f=>exact n_1 hd
theorem d5N (h:isT t 4 [60]=false) (h':isT t 4 [61,61]=false):opS t 1=0:=by
 rw [d3N];simp [h,h']
theorem d0a {x1 c:Int} {b1:List Ex} {r:Option PX} (hi:(i:Int)=x1) (h:e1=0->c=0):Ok e1 ((if c=0 then some (i,n1,b1) else r).map cx) e1 (x1,n1,b1):=by
 by_cases he:e1=0
 ·rw [n_1 (h he),<- hi];exact .some
 ·exact .dead he he
theorem Q5 {n:Nat} {v:Bool} (h:v=sgB T n 0 k u) (hv:v=false):isT (tk T n) k u=false:=by
 subst hv;simpa [sgB] using h.symm
theorem c6P {ps:List Str} (hc:Z3 T ps) (d n:Nat) (at_ e:Int) (b:List Ex) (hn:n < T.length) (hb:b.length<=256) (bR:d<=33) (hx:e=0->∃ f,f0=f+3/\8*(T.length - n)+6<=f+3/\REC T ps (f+2)/\RSC T ps (f+1)/\RSC T ps f):b8 CC 232 [.ptr 0 0,iv d] (rst T n at_ e ps b) (fun r τ=>∃ a:RX,F8 2 τ r (.ret (iv a.x)) (a55 T a.n a.at_ a.e ps a.b)/\RXP T n e ((A0 T ps f0).ex d n b) a):=by
 have hT:=hc.len;have hW:=hc.w;refine qO Tryz.func232 ?_;refine qY b7l ?_;refine qY a3z ?_;refine qC ?_ ?_<;>intro h1
 ·have hd:32 < d:=sm_ h1;refine qD (c5 rfl a9Y a3F (a0b _ _ de_ ⟨rfl,rfl,de_⟩) rfl ?_);rintro ⟨x0,y0⟩ bA;dsimp only at bA ⊢;refine qN [rbx T n x0 y0 ps b 1,o5 y0 b.length] rfl (qC ?_ ?_)<;> intro h2
  ·refine c6 ?_;exact ⟨_,rE1,(by exact ⟨⟨0,n,x0,y0,b⟩,a5e bA rfl (.val _),.dead (fun _=>c9n hd) bA hn hb ⟨de_,de_⟩⟩)⟩
  ·exact absurd (show y0=0 by simpa using h2) bA
 ·have hd:¬ 32 < d:=sm_ h1;refine qC ?_ ?_<;>intro h8
  ·have he:e≠0:=sp_ h8;refine c6 ?_;exact ⟨_,rE1,(by exact ⟨⟨0,n,at_,e,b⟩,a5e he rfl (.val _),.dead (fun h0=>absurd h0 he) he hn hb ⟨de_,de_⟩⟩)⟩
  ·obtain rfl:e=0:=sp_ h8;obtain ⟨f,rfl,hf,hE,hS1,hS0⟩:=hx rfl;have af:(A0 T ps (f+3)).ex d n b=(G3 T ps (A0 T ps (f+2))).ex d n b:=rfl;simp only [G3] at af;rw [n_0 hd] at af;refine qD (c5 rfl a84 o4 (X7 hT hn hW [105,102] ⟨rfl,rfl,de_⟩) rfl ?_);rintro ⟨v8,m8⟩ ⟨cZ,hs8,hf8,hm8⟩;dsimp only at cZ hs8 hf8 hm8 ⊢;refine qN [rbx T m8 at_ 0 ps b 1,o5 0 b.length] rfl ?_;refine cC ?_ ?_<;>intro h9
   ·have hi:v8=true:=sp_ h9;have hm:=hs8 hi;subst m8;have cS:=(T3 (cZ.symm.trans hi)).2;rw [n_1 cS] at af;refine qs 1 (qY o7 ?_);refine qD (c5 rfl b5o j1 (hE (d+1) (n+1) at_ 0 b hm8 hb om_ (fun _=>by omega) _ 0 1 ⟨rfl,rfl,de_⟩) rfl ?_);rintro ⟨x1,n1,a1,e1,b1⟩ ⟨k1,y1,w1,z1,l1,u1⟩;dsimp only at k1 y1 w1 z1 l1 u1 ⊢;refine qN [rbx T n1 a1 e1 ps b1 2,.dead,o5 e1 b1.length] rfl ?_;refine M9 (α:=Nat × Int × Int) (fun _=>[(0,.ptr 0 0),(1,iv d),(5,(iv ((tk T n).at_))),(6,iv x1)]) (fun a=>[rbx T a.1 a.2.1 a.2.2 ps b1 2,.dead,o5 a.2.2 b1.length]) (fun a=>Ok e1 (pIs T n1 1 [116,104,101,110]) a.2.2 a.1/\a.1 < T.length) ?_ ?_
    ·
     refine qk (qD (c5 rfl a84 o4 (X7 hT y1 hW [116,104,101,110] ⟨rfl,rfl,de_⟩) rfl ?_));rintro ⟨v9,m9⟩ ⟨eN,gq,iw,eO⟩;dsimp only at eN gq iw eO ⊢;refine qN [rbx T m9 a1 e1 ps b1 2,.dead,o5 e1 b1.length] rfl (qC ?_ ?_)<;> intro aU
     ·have hw:v9=false:=sp_ aU;refine d3p ?_;rintro ⟨x0,y0⟩ bA;dsimp only at bA ⊢;refine qN [rbx T m9 x0 y0 ps b1 2,.dead,o5 y0 b1.length] rfl ?_;exact ⟨(m9,x0,y0),⟨a9c (eN.symm.trans hw) bA,eO⟩,tu_,rfl⟩
     ·have hw:v9=true:=sp_ aU;exact ⟨(m9,a1,e1),⟨by dsimp only;rw [gq hw];exact a9i (eN.symm.trans hw),eO⟩,tu_,rfl⟩
    ·rintro ⟨n2,a2,e2⟩ E2 ⟨q2,y2⟩;dsimp only at q2 y2 ⊢;have g2:e2=0->n2=n1+1/\e1=0:=fun h0=>⟨O4 (q2.alive h0).2,(q2.alive h0).1⟩;refine qs 1 (qY o7 ?_);refine qD (c5 rfl b5o j1 (hE (d+1) n2 a2 e2 b1 y2 w1 om_ (fun h0=>by have:=g2 h0;have:=z1 this.2;omega) _ 0 2 ⟨rfl,rfl,de_⟩) rfl ?_);rintro ⟨x3,n3,a3,e3,b3⟩ ⟨k3,y3,w3,z3,l3,u3⟩;dsimp only at k3 y3 w3 z3 l3 u3 ⊢;refine qN [rbx T n3 a3 e3 ps b3 3,.dead,.dead,o5 e3 b3.length] rfl ?_;refine M9 (α:=Nat × Int × Int) (fun _=>[(0,.ptr 0 0),(1,iv d),(5,(iv ((tk T n).at_))),(6,iv x1),(7,iv x3)]) (fun a=>[rbx T a.1 a.2.1 a.2.2 ps b3 3,.dead,.dead,o5 a.2.2 b3.length]) (fun a=>Ok e3 (pIs T n3 1 [101,108,115,101]) a.2.2 a.1/\a.1 < T.length) ?_ ?_
     ·
      refine qk (qD (c5 rfl a84 o4 (X7 hT y3 hW [101,108,115,101] ⟨rfl,rfl,de_⟩) rfl ?_));rintro ⟨v9,m9⟩ ⟨eN,gq,iw,eO⟩;dsimp only at eN gq iw eO ⊢;refine qN [rbx T m9 a3 e3 ps b3 3,.dead,.dead,o5 e3 b3.length] rfl (qC ?_ ?_)<;> intro ck
      ·have hw:v9=false:=sp_ ck;refine d3p ?_;rintro ⟨x0,y0⟩ bA;dsimp only at bA ⊢;refine qN [rbx T m9 x0 y0 ps b3 3,.dead,.dead,o5 y0 b3.length] rfl ?_;exact ⟨(m9,x0,y0),⟨a9c (eN.symm.trans hw) bA,eO⟩,tu_,rfl⟩
      ·have hw:v9=true:=sp_ ck;exact ⟨(m9,a3,e3),⟨by dsimp only;rw [gq hw];exact a9i (eN.symm.trans hw),eO⟩,tu_,rfl⟩
     ·rintro ⟨n4,a4,e4⟩ E4 ⟨q4,y4⟩;dsimp only at q4 y4 ⊢;have g4:e4=0->n4=n3+1/\e3=0:=fun h0=>⟨O4 (q4.alive h0).2,(q4.alive h0).1⟩;refine a8U ?_;refine qD (c5 rfl b5o j1 (hE (d+1) n4 a4 e4 b3 y4 w3 om_ (fun h0=>by have q:=g4 h0;have:=z3 q.2;have q:=g2 (k3.alive q.2).1;have:=z1 q.2;omega) _ 0 3 ⟨rfl,rfl,de_⟩) rfl ?_);rintro ⟨x5,n5,a5,e5,b5⟩ ⟨k5,y5,w5,z5,l5,u5⟩;dsimp only at k5 y5 w5 z5 l5 u5 ⊢;refine qN [rbx T n5 a5 e5 ps b5 4,.dead,.dead,.dead,o5 e5 b5.length] rfl (qY (B3 ([x1,x3,x5].map icv) rfl C6 t_4 t_1 t_8 rfl rfl rfl rfl rfl rfl rfl rfl rfl) ?_);refine qY a99 ?_;refine qD (c5 rfl a3L C6 (M6 w5 ⟨5,0,0,[],[x1,x3,x5]⟩ _ ⟨rfl,rfl,de_⟩) rfl ?_);rintro ⟨x6,a6,e6,b6⟩ ⟨k6,w6,l6,u6⟩;dsimp only at k6 w6 l6 u6 ⊢;refine qN [rbx T n5 a6 e6 ps b6 5,.dead,.dead,.dead,.dead,o5 e6 b6.length] rfl ?_;refine c6 ?_;exact ⟨_,rE1,(by exact ⟨⟨x6,n5,a6,e6,b6⟩,S5 (k:=5) rfl rfl de_ (.val _),⟨by rw [af];exact k1.bindX (fun i hi=>q2.bindP (k3.bindX (fun j hj=>q4.bindP (k5.bindX (fun l hl=>a1O (by rw [hi,hj,hl];exact k6)) k6.2)) fun h=>k6.2 (k5.2 (q4.2 h)))) fun h=>k6.2 (k5.2 (q4.2 (k3.2 (q2.2 h)))),y5,w6,fun h0=>by have h5:=(k6.alive h0).1;have q5:=z5 h5;have q:=g4 (k5.alive h5).1;have:=z3 q.2;have q:=g2 (k3.alive q.2).1;have:=z1 q.2;dsimp only at h0 ⊢;omega,l6,u6⟩⟩)⟩
   ·have hi:v8=false:=sp_ h9;have hm:=hf8 hi;subst m8;rw [n_0 (by rw [Q5 cZ hi];decide)] at af;replace af:=af.trans d7s;refine qk (qD (c5 rfl c4n j1 (hS1 d n at_ b hn hb om_ om_ _ 0 1 ⟨rfl,rfl,de_⟩) rfl ?_));rintro ⟨x1,n1,a1,e1,b1⟩ ⟨k1,y1,w1,z1,l1,u1⟩;dsimp only at k1 y1 w1 z1 l1 u1 ⊢;refine qN [rbx T n1 a1 e1 ps b1 2,.dead,o5 e1 b1.length] rfl ?_;refine d1T ?_;refine qD (c5 rfl a7F o4 (V4 hT y1 hW [60] ⟨rfl,rfl,de_⟩) rfl ?_);rintro ⟨v2,m2⟩ ⟨ci,dK,gk,cp⟩;dsimp only at ci dK gk cp ⊢;refine qN [rbx T m2 a1 e1 ps b1 2,.dead,o5 e1 b1.length] rfl (qC ?_ ?_)<;> intro cQ
    ·have cS:v2=true:=sp_ cQ;obtain ⟨gJ,fB⟩:=T3 (ci.symm.trans cS);subst e1;have hm:=dK cS;subst m2;have bf:opS (tk T n1) 1=6:=by rw [d3N,n_1 fB]
     refine qD (c5 rfl c4n j1 (hS0 d (n1+1) a1 b1 cp w1 om_ (by have:=z1 rfl;omega) _ 0 2 ⟨rfl,rfl,de_⟩) rfl ?_);rintro ⟨x3,n3,a3,e3,b3⟩ ⟨k3,y3,w3,z3,l3,u3⟩;dsimp only at k3 y3 w3 z3 l3 u3 ⊢;refine qN [rbx T n3 a3 e3 ps b3 3,.dead,.dead,o5 e3 b3.length] rfl (qY d6m ?_);refine qY c2Q ?_;refine qD (c5 rfl a3L C6 (M6 w3 ⟨4,0,6,[],[x1,x3]⟩ _ ⟨rfl,rfl,de_⟩) rfl ?_);rintro ⟨x6,a6,e6,b6⟩ ⟨k6,w6,l6,u6⟩;dsimp only at k6 w6 l6 u6 ⊢;refine d3g ?_;exact ⟨_,rE1,q_0⟩
    ·have cS:v2=false:=sp_ cQ;have hm:=gk cS;subst m2;refine qD (c5 rfl a7F o4 (V4 hT y1 hW [61,61] ⟨rfl,rfl,de_⟩) rfl ?_);rintro ⟨v4,m4⟩ ⟨hv4,hs4,hf4,hm4⟩;dsimp only at hv4 hs4 hf4 hm4 ⊢;refine qN [rbx T m4 a1 e1 ps b1 2,.dead,o5 e1 b1.length] rfl (qC ?_ ?_)<;> intro dk
     ·have gL:v4=true:=sp_ dk;obtain ⟨gJ,fB⟩:=T3 (hv4.symm.trans gL);subst e1;have hm:=hs4 gL;subst m4;have bf:opS (tk T n1) 1=7:=by rw [d3N,n_0 (by rw [Q5 ci cS];decide),n_1 fB]
      refine qD (c5 rfl c4n j1 (hS0 d (n1+1) a1 b1 hm4 w1 om_ (by have:=z1 rfl;omega) _ 0 2 ⟨rfl,rfl,de_⟩) rfl ?_);rintro ⟨x3,n3,a3,e3,b3⟩ ⟨k3,y3,w3,z3,l3,u3⟩;dsimp only at k3 y3 w3 z3 l3 u3 ⊢;refine qN [rbx T n3 a3 e3 ps b3 3,.dead,.dead,o5 e3 b3.length] rfl (qY d6m ?_);refine qY c2Q ?_;refine qD (c5 rfl a3L C6 (M6 w3 ⟨4,0,7,[],[x1,x3]⟩ _ ⟨rfl,rfl,de_⟩) rfl ?_);rintro ⟨x6,a6,e6,b6⟩ ⟨k6,w6,l6,u6⟩;dsimp only at k6 w6 l6 u6 ⊢;refine d3g ?_;exact ⟨_,rE1,q_0⟩
     ·have gL:v4=false:=sp_ dk;have hm:=hf4 gL;subst m4;have dm:e1=0->opS (tk T n1) 1=0:=fun h0=>by subst h0;exact d5N (Q5 ci cS) (Q5 hv4 gL)
      refine c6 ?_;exact ⟨_,rE1,(by exact ⟨⟨x1,n1,a1,e1,b1⟩,S5 (k:=2) rfl rfl de_ (.val _),⟨by rw [af];exact k1.bindX (fun i hi=>d0a hi dm) id,y1,w1,z1,l1,u1⟩⟩)⟩
theorem c9q {ps:List Str} (hc:Z3 T ps) (H:∀ g,g < f0->REC T ps g/\RSC T ps g):REC T ps f0:=fun d n at_ e b hn hb hd hf σ q s ao =>
 a1U (c:=fun a:RX=>(iv a.x)) (N:=fun a=>a.n) (A:=fun a=>a.at_) (E:=fun a=>a.e) (B:=fun a=>a.b) (fun _ h=>by simp at h;subst h;exact .val _) (fun _=>.val _) (c6P hc d n at_ e b hn hb hd (fun h0=>by
  have h1:=hf h0;obtain ⟨f,rfl⟩:∃ f,f0=f+3:=⟨f0 - 3,om_⟩;exact ⟨f,rfl,h1,(H (f+2) om_).1,(H (f+1) om_).2,(H f om_).2⟩)) ao
def ot1 (ph:Bool) (e:Int) (m:Nat):b9:=if ph=true then .dead else o5 e m
def ot2 (ph:Bool) (e:Int) (m:Nat):b9:=if ph=true then o5 e m else .dead
structure RL where
 x:Int
 m:Nat
 at_:Int
 e:Int
 b:List Ex
 ph:Bool
 g:Nat
variable {x:Int}
theorem d6k {ps:List Str} {d n lv:Nat} {b:List Ex} (h:lv≠4):(A0 T ps (f+1)).bin lv d n b=((A0 T ps f).bin (lv+1) d n b).bind fun x=>(A0 T ps f).lp lv d x.1 x.2.1 x.2.2:=by
 have h':(A0 T ps (f+1)).bin lv d n b=(G3 T ps (A0 T ps f)).bin lv d n b:=rfl;rw [h'];simp only [G3];rw [n_0 h]
theorem d6X {ps:List Str} {d n:Nat} {b:List Ex}:(A0 T ps (f+1)).bin 4 d n b=(A0 T ps f).fac d n b:=rfl
theorem lpS {ps:List Str} {g d x n lv:Nat} {b:List Ex} (h:lv≠1):(A0 T ps (g+1)).lp lv d x n b=if opS (tk T n) (lv:Int)=0 then some (x,n,b) else ((A0 T ps g).bin (lv+1) d (n+1) b).bind fun y=>(V8 y.2.2 ⟨4,0,opS (tk T n) (lv:Int),[],[(x:Int),(y.1:Int)]⟩).bind fun w=>(A0 T ps g).lp lv d w.1 y.2.1 w.2:=by
 have h':(A0 T ps (g+1)).lp lv d x n b=(G3 T ps (A0 T ps g)).lp lv d x n b:=rfl;rw [h'];simp only [G3,n_0 h]
theorem d4F (t:Tok):opS t 2=if isT t 4 [43]=true then 1 else if isT t 4 [45]=true then 2 else 0:=by
 by_cases h1:isT t 4 [43]=true
 ·rw [n_1 h1];exact a4o (x:=(1,[43])) de_ (by simpa [opM,isT,F0] using h1)
 ·rw [n_0 h1];by_cases h2:isT t 4 [45]=true
  ·rw [n_1 h2];exact a4o (x:=(2,[45])) de_ (by simpa [opM,isT,F0] using h2)
  ·rw [n_0 h2];refine a92 fun x hx=>?_;simp only [S0,P0,a8Z,or_false] at hx
   rcases hx with rfl | rfl | rfl | rfl | rfl | rfl | rfl<;>simp_all [opM,isT,F0]
theorem op3 (t:Tok):opS t 3=if isT t 4 [42]=true then 3 else if isT t 4 [47]=true then 4 else if isT t 4 [37]=true then 5 else 0:=by
 by_cases h1:isT t 4 [42]=true
 ·rw [n_1 h1];exact a4o (x:=(3,[42])) de_ (by simpa [opM,isT,F0] using h1)
 ·rw [n_0 h1];by_cases h2:isT t 4 [47]=true
  ·rw [n_1 h2];exact a4o (x:=(4,[47])) de_ (by simpa [opM,isT,F0] using h2)
  ·rw [n_0 h2];by_cases h3:isT t 4 [37]=true
   ·rw [n_1 h3];exact a4o (x:=(5,[37])) de_ (by simpa [opM,isT,F0] using h3)
   ·rw [n_0 h3];refine a92 fun x hx=>?_;simp only [S0,P0,a8Z,or_false] at hx
    rcases hx with rfl | rfl | rfl | rfl | rfl | rfl | rfl<;>simp_all [opM,isT,F0]
theorem b84 {o:Option (Nat × List Ex)} {b:List Ex} (h:o.map a8y=some (x,b)):∃ i:Nat,(i:Int)=x/\o=some (i,b):=by
 obtain ⟨⟨i,c⟩,hp,hg⟩:=N0.1 h;obtain ⟨h1,h2⟩:(i:Int)=x/\c=b:=by simpa [a8y] using hg
 subst h2;exact ⟨i,h1,hp⟩
theorem b0n {o:Option PX} {K:Nat->Nat->List Ex->Option PX} {x1:Int} {b1:List Ex} (hs:S=o.bind fun y=>K y.1 y.2.1 y.2.2) (k:Ok 0 (o.map cx) e1 (x1,n1,b1)):(e1=0->∃ i:Nat,(i:Int)=x1/\S=K i n1 b1)/\(e1≠0->S=none):=by
 rcases k.zero with ⟨h3,ho⟩ | ⟨h3,ho⟩
 ·obtain ⟨j,hj,ho⟩:=b4w ho;exact ⟨fun _=>⟨j,hj,by rw [hs,ho];rfl⟩,fun h=>absurd h3 h⟩
 ·exact ⟨fun h=>absurd h h3,fun _=>by rw [hs,b3V ho];rfl⟩
theorem a2z {o:Option PX} {N:PX->Option (Nat × List Ex)} {K:Nat->Nat->List Ex->Option PX} {x3 x4:Int} {b3 b4:List Ex} (hs:S=o.bind fun y=>(N y).bind fun w=>K w.1 y.2.1 w.2) (k3:Ok 0 (o.map cx) e3 (x3,n3,b3)) (k4:∀ j:Nat,(j:Int)=x3->Ok e3 ((N (j,n3,b3)).map a8y) e4 (x4,b4)) (k40:e3≠0->e4≠0) :
 (e4=0->e3=0/\∃ w:Nat,(w:Int)=x4/\S=K w n3 b4)/\(e4≠0->S=none):=by
 rcases k3.zero with ⟨h3,ho⟩ | ⟨h3,ho⟩
 ·obtain ⟨j,hj,ho⟩:=b4w ho;subst h3
  rcases (k4 j hj).zero with ⟨h4,hn⟩ | ⟨h4,hn⟩
  ·obtain ⟨w,hw,hn⟩:=b84 hn;exact ⟨fun _=>⟨rfl,w,hw,by rw [hs,ho,n_8,hn];rfl⟩,fun h=>absurd h4 h⟩
  ·exact ⟨fun h=>absurd h h4,fun _=>by rw [hs,ho,n_8,b2n.1 hn];rfl⟩
 ·exact ⟨fun h=>absurd h (k40 h3),fun _=>by rw [hs,b3V ho];rfl⟩
theorem b5s {n m:Nat} {at_:Int} {b:List Ex} (hS:S=some (i,m,b)) (hi:(i:Int)=x) (hm:m < T.length) (hb:b.length<=256) (hn:n < m) (h1 : -1<=x) (h2:x<=256):RXP T n 0 S ⟨x,m,at_,0,b⟩:=by
 subst hS hi;exact ⟨.some,hm,hb,fun _=>hn,h1,h2⟩
theorem c9R {ps:List Str} (hc:Z3 T ps) (hB:∀ g,g<=f->RTC T ps g) (d n:Nat) (at_:Int) (b:List Ex) (hn:n < T.length) (hb:b.length<=256) (bR:d<=32) (hf:8*(T.length - n)+6<=f+1+2):b8 CC 273 [.ptr 0 0,iv d] (rst T n at_ 0 ps b) (fun r τ=>∃ a:RX,F8 2 τ r (.ret (iv a.x)) (a55 T a.n a.at_ a.e ps a.b)/\RXP T n 0 ((A0 T ps (f+1)).bin 2 d n b) a):=by
 have hT:=hc.len;have hW:=hc.w;have af:=d6k (T:=T) (ps:=ps) (f:=f) (d:=d) (n:=n) (lv:=2) (b:=b) de_;refine qO Tryz.func273 ?_;refine qD (c5 rfl c5V j1 (hB f om_ d n at_ b hn hb bR om_ _ 0 1 ⟨rfl,rfl,de_⟩) rfl ?_);rintro ⟨x1,n1,a1,e1,b1⟩ ⟨k1,y1,w1,z1,l1,u1⟩;dsimp only at k1 y1 w1 z1 l1 u1 ⊢;refine qN [rbx T n1 a1 e1 ps b1 2,.dead,o5 e1 b1.length] rfl ?_;have dV:e1=0->8*(T.length - n1)+3<=f:=fun h0=>by have:=z1 h0;omega
 have aW:=b0n (K:=fun i m c=>(A0 T ps f).lp 2 d i m c) af k1;refine B9 hCC 3 rfl (α:=RL) (fun a=>[(0,.ptr 0 0),(1,iv d),(5,iv a.x)]) (fun a=>[rbx T a.m a.at_ a.e ps a.b (kf a.ph),.dead,ot1 a.ph a.e a.b.length,ot2 a.ph a.e a.b.length]) (fun a=>(a.e=0->∃ i:Nat,(i:Int)=a.x/\(A0 T ps (f+1)).bin 2 d n b=(A0 T ps a.g).lp 2 d i a.m a.b/\n < a.m/\8*(T.length - a.m)+3<=a.g)/\(a.e≠0->(A0 T ps (f+1)).bin 2 d n b=none)/\a.m < T.length/\a.b.length<=256/\-1<=a.x/\a.x<=256/\a.g<=f) (fun a=>if a.e=0 then T.length - a.m+1 else 0) ⟨⟨x1,n1,a1,e1,b1,false,f⟩,[0,1,2,7],⟨fun h0=>(aW.1 h0).elim fun i hi=>⟨i,hi.1,hi.2,z1 h0,dV h0⟩,aW.2,y1,w1,l1,u1,n_6 _⟩,⟨rfl,rfl⟩,ut_,uq_⟩ ?_;intro ⟨x,m,a2,e,b2,ph,g⟩ ⟨hI,hN,hm,cq,bc,aK,hgf⟩;dsimp only at hI hN hm cq bc aK hgf ⊢;refine qk (qC ?_ ?_)<;> intro h1
 ·obtain rfl:e=0:=sp_ h1;obtain ⟨i,hi,hS,bI,hg⟩:=hI rfl;clear hI;obtain ⟨g,rfl⟩:∃ g',g=g'+1:=⟨g - 1,om_⟩;rw [lpS de_] at hS;refine qY d5o ?_;refine qY a3z ?_;refine qD (c5 rfl a7F o4 (V4 hT hm hW [43] (q:=0) (s:=kf ph) a00) rfl ?_);rintro ⟨iy,m10⟩ ⟨gt,iz,iA,iB⟩;dsimp only at gt iz iA iB ⊢;refine qN [rbx T m10 a2 0 ps b2 (kf ph),.dead,ot1 ph 0 b2.length,ot2 ph 0 b2.length] O1 ?_;refine qC ?_ ?_<;>intro h2
  ·have dP:iy=true:=sp_ h2;have hq:=(T3 (gt.symm.trans dP)).2;have bt:=iz dP;subst m10;have bf:opS (tk T m) (2:Nat)=1:=by
    show opS (tk T m) 2=1;rw [d4F,n_1 hq]
   rw [n_0 (by rw [bf];decide),bf] at hS;refine qD (c5 rfl c5V j1 (hB g om_ d (m+1) a2 b2 iB cq bR om_ _ 0 (kf ph) a00) rfl ?_);rintro ⟨x3,n3,a3,e3,b3⟩ ⟨k3,y3,w3,z3,l3,u3⟩;dsimp only at k3 y3 w3 z3 l3 u3 ⊢;refine qN [rbx T n3 a3 e3 ps b3 4,.dead,.dead,.dead,o5 e3 b3.length] O1 ?_;refine b6d ?_;refine qD (c5 rfl a3L C6 (M6 w3 ⟨4,0,1,[],[x,x3]⟩ _ ⟨rfl,rfl,de_⟩) rfl ?_);rintro ⟨x4,a4,e4,b4⟩ ⟨k4,w4,l4,u4⟩;dsimp only at k4 w4 l4 u4 ⊢;refine qN [rbx T n3 a4 e4 ps b4 5,.dead,.dead,.dead,.dead,o5 e4 b4.length] rfl ?_;have dV:e3=0->n < n3/\8*(T.length - n3)+3<=g:=fun h0=>by have:=z3 h0;omega
   have bX:(if e4=0 then T.length - n3+1 else 0) < (if (0:Int)=0 then T.length - m+1 else 0):=by
    rw [n_1 rfl]
    split
    ·rename_i h0;have:=z3 (k4.alive h0).1;omega
    ·omega
   have aW:=a2z (K:=fun i m c=>(A0 T ps g).lp 2 d i m c) hS k3 (fun j hj=>by rw [hi,hj];exact k4) k4.2;exact ⟨⟨x4,n3,a4,e4,b4,true,g⟩,[0,1,2,5],⟨bX,fun h0=>(aW.1 h0).2.elim fun i hi=>⟨i,hi.1,hi.2,dV (aW.1 h0).1⟩,aW.2,y3,w4,l4,u4,do_⟩,⟨rfl,rfl⟩,ut_,⟨.inr ⟨_,rfl,.box ⟨.old a0P,.old (.val _),.old (.val _),.old (.val _),.old W6,Y7 rfl,.old a2S,tt⟩⟩,.inl rfl,.inl rfl,.inr ⟨_,rfl,.same rfl U8⟩,tt⟩⟩
  ·have dP:iy=false:=sp_ h2;have bt:=iA dP;subst m10;refine qD (c5 rfl a7F o4 (V4 hT hm hW [45] (q:=0) (s:=kf ph) a00) rfl ?_);rintro ⟨iC,m11⟩ ⟨fo,iD,iE,iF⟩;dsimp only at fo iD iE iF ⊢;refine qN [rbx T m11 a2 0 ps b2 (kf ph),.dead,ot1 ph 0 b2.length,ot2 ph 0 b2.length] O1 ?_;refine qC ?_ ?_<;>intro h3
   ·have dv:iC=true:=sp_ h3;have hq:=(T3 (fo.symm.trans dv)).2;have bt:=iD dv;subst m11;have bf:opS (tk T m) (2:Nat)=2:=by
     show opS (tk T m) 2=2;rw [d4F,n_0 b7v,n_1 hq]
    rw [n_0 (by rw [bf];decide),bf] at hS;refine qD (c5 rfl c5V j1 (hB g om_ d (m+1) a2 b2 iF cq bR om_ _ 0 (kf ph) a00) rfl ?_);rintro ⟨x3,n3,a3,e3,b3⟩ ⟨k3,y3,w3,z3,l3,u3⟩;dsimp only at k3 y3 w3 z3 l3 u3 ⊢;refine qN [rbx T n3 a3 e3 ps b3 4,.dead,.dead,.dead,o5 e3 b3.length] O1 ?_;refine b6d ?_;refine qD (c5 rfl a3L C6 (M6 w3 ⟨4,0,2,[],[x,x3]⟩ _ ⟨rfl,rfl,de_⟩) rfl ?_);rintro ⟨x4,a4,e4,b4⟩ ⟨k4,w4,l4,u4⟩;dsimp only at k4 w4 l4 u4 ⊢;refine qN [rbx T n3 a4 e4 ps b4 5,.dead,.dead,.dead,.dead,o5 e4 b4.length] rfl ?_;have dV:e3=0->n < n3/\8*(T.length - n3)+3<=g:=fun h0=>by have:=z3 h0;omega
    have bX:(if e4=0 then T.length - n3+1 else 0) < (if (0:Int)=0 then T.length - m+1 else 0):=by
     rw [n_1 rfl]
     split
     ·rename_i h0;have:=z3 (k4.alive h0).1;omega
     ·omega
    have aW:=a2z (K:=fun i m c=>(A0 T ps g).lp 2 d i m c) hS k3 (fun j hj=>by rw [hi,hj];exact k4) k4.2;exact ⟨⟨x4,n3,a4,e4,b4,true,g⟩,[0,1,2,5],⟨bX,fun h0=>(aW.1 h0).2.elim fun i hi=>⟨i,hi.1,hi.2,dV (aW.1 h0).1⟩,aW.2,y3,w4,l4,u4,do_⟩,⟨rfl,rfl⟩,ut_,⟨.inr ⟨_,rfl,.box ⟨.old a0P,.old (.val _),.old (.val _),.old (.val _),.old W6,Y7 rfl,.old a2S,tt⟩⟩,.inl rfl,.inl rfl,.inr ⟨_,rfl,.same rfl U8⟩,tt⟩⟩
   ·have dv:iC=false:=sp_ h3;have bt:=iE dv;subst m11;refine V9 ?_;exact ⟨_,rE1,(by exact ⟨⟨x,m,a2,0,b2⟩,d6p,b5s (hS.trans (n_1 (by show opS (tk T m) 2=0;rw [d4F,n_0 b7v,n_0 (by rw [Q5 fo dv];decide)]))) hi hm cq bI bc aK⟩)⟩
 ·have he:e≠0:=sp_ h1;refine V9 ?_;exact ⟨_,rE1,d5F⟩
theorem d4t {ps:List Str} (hc:Z3 T ps) (H:∀ g,g < f0->RTC T ps g):RSC T ps f0:=fun d n at_ b hn hb hd hf σ q s ao=>by
 obtain ⟨f,rfl⟩:∃ f,f0=f+1:=⟨f0 - 1,om_⟩;exact a1U (c:=fun a:RX=>(iv a.x)) (N:=fun a=>a.n) (A:=fun a=>a.at_) (E:=fun a=>a.e) (B:=fun a=>a.b) (fun _ h=>by simp at h;subst h;exact .val _) (fun _=>.val _) (c9R hc (fun g hg=>H g om_) d n at_ b hn hb hd hf) ao
theorem c8l {ps:List Str} (hc:Z3 T ps) (hB:∀ g,g<=f->RFC T ps g) (d n:Nat) (at_:Int) (b:List Ex) (hn:n < T.length) (hb:b.length<=256) (bR:d<=32) (hf:8*(T.length - n)+6<=f+2+3):b8 CC 300 [.ptr 0 0,iv d] (rst T n at_ 0 ps b) (fun r τ=>∃ a:RX,F8 2 τ r (.ret (iv a.x)) (a55 T a.n a.at_ a.e ps a.b)/\RXP T n 0 ((A0 T ps (f+2)).bin 3 d n b) a):=by
 have hT:=hc.len;have hW:=hc.w;have af:=d6k (T:=T) (ps:=ps) (f:=f+1) (d:=d) (n:=n) (lv:=3) (b:=b) de_;rw [d6X] at af;refine qO Tryz.func300 ?_;refine qD (c5 rfl c1d j1 (hB f om_ d n at_ b hn hb bR om_ _ 0 1 ⟨rfl,rfl,de_⟩) rfl ?_);rintro ⟨x1,n1,a1,e1,b1⟩ ⟨k1,y1,w1,z1,l1,u1⟩;dsimp only at k1 y1 w1 z1 l1 u1 ⊢;refine qN [rbx T n1 a1 e1 ps b1 2,.dead,o5 e1 b1.length] rfl ?_;have dV:e1=0->8*(T.length - n1)+3<=(f+1):=fun h0=>by have:=z1 h0;omega
 have aW:=b0n (K:=fun i m c=>(A0 T ps (f+1)).lp 3 d i m c) af k1;refine B9 hCC 3 rfl (α:=RL) (fun a=>[(0,.ptr 0 0),(1,iv d),(5,iv a.x)]) (fun a=>[rbx T a.m a.at_ a.e ps a.b (kf a.ph),.dead,ot1 a.ph a.e a.b.length,ot2 a.ph a.e a.b.length]) (fun a=>(a.e=0->∃ i:Nat,(i:Int)=a.x/\(A0 T ps (f+2)).bin 3 d n b=(A0 T ps a.g).lp 3 d i a.m a.b/\n < a.m/\8*(T.length - a.m)+3<=a.g)/\(a.e≠0->(A0 T ps (f+2)).bin 3 d n b=none)/\a.m < T.length/\a.b.length<=256/\-1<=a.x/\a.x<=256/\a.g<=f+1) (fun a=>if a.e=0 then T.length - a.m+1 else 0) ⟨⟨x1,n1,a1,e1,b1,false,(f+1)⟩,[0,1,2,7],⟨fun h0=>(aW.1 h0).elim fun i hi=>⟨i,hi.1,hi.2,z1 h0,dV h0⟩,aW.2,y1,w1,l1,u1,n_6 _⟩,⟨rfl,rfl⟩,ut_,uq_⟩ ?_;intro ⟨x,m,a2,e,b2,ph,g⟩ ⟨hI,hN,hm,cq,bc,aK,hgf⟩;dsimp only at hI hN hm cq bc aK hgf ⊢;refine qk (qC ?_ ?_)<;> intro h1
 ·obtain rfl:e=0:=sp_ h1;obtain ⟨i,hi,hS,bI,hg⟩:=hI rfl;clear hI;obtain ⟨g,rfl⟩:∃ g',g=g'+1:=⟨g - 1,om_⟩;rw [lpS de_] at hS;obtain ⟨g,rfl⟩:∃ g',g=g'+1:=⟨g - 1,om_⟩;rw [d6X] at hS;refine qY d5o ?_;refine qY a3z ?_;refine qD (c5 rfl a7F o4 (V4 hT hm hW [42] (q:=0) (s:=kf ph) a00) rfl ?_);rintro ⟨iy,m10⟩ ⟨gt,iz,iA,iB⟩;dsimp only at gt iz iA iB ⊢;refine qN [rbx T m10 a2 0 ps b2 (kf ph),.dead,ot1 ph 0 b2.length,ot2 ph 0 b2.length] O1 ?_;refine qC ?_ ?_<;>intro h2
  ·have dP:iy=true:=sp_ h2;have hq:=(T3 (gt.symm.trans dP)).2;have bt:=iz dP;subst m10;have bf:opS (tk T m) (3:Nat)=3:=by
    show opS (tk T m) 3=3;rw [op3,n_1 hq]
   rw [n_0 (by rw [bf];decide),bf] at hS;refine qD (c5 rfl c1d j1 (hB g om_ d (m+1) a2 b2 iB cq bR om_ _ 0 (kf ph) a00) rfl ?_);rintro ⟨x3,n3,a3,e3,b3⟩ ⟨k3,y3,w3,z3,l3,u3⟩;dsimp only at k3 y3 w3 z3 l3 u3 ⊢;refine qN [rbx T n3 a3 e3 ps b3 4,.dead,.dead,.dead,o5 e3 b3.length] O1 ?_;refine b6d ?_;refine qD (c5 rfl a3L C6 (M6 w3 ⟨4,0,3,[],[x,x3]⟩ _ ⟨rfl,rfl,de_⟩) rfl ?_);rintro ⟨x4,a4,e4,b4⟩ ⟨k4,w4,l4,u4⟩;dsimp only at k4 w4 l4 u4 ⊢;refine qN [rbx T n3 a4 e4 ps b4 5,.dead,.dead,.dead,.dead,o5 e4 b4.length] rfl ?_;have dV:e3=0->n < n3/\8*(T.length - n3)+3<=(g+1):=fun h0=>by have:=z3 h0;omega
   have bX:(if e4=0 then T.length - n3+1 else 0) < (if (0:Int)=0 then T.length - m+1 else 0):=by
    rw [n_1 rfl]
    split
    ·rename_i h0;have:=z3 (k4.alive h0).1;omega
    ·omega
   have aW:=a2z (K:=fun i m c=>(A0 T ps (g+1)).lp 3 d i m c) hS k3 (fun j hj=>by rw [hi,hj];exact k4) k4.2;exact ⟨⟨x4,n3,a4,e4,b4,true,g+1⟩,[0,1,2,5],⟨bX,fun h0=>(aW.1 h0).2.elim fun i hi=>⟨i,hi.1,hi.2,dV (aW.1 h0).1⟩,aW.2,y3,w4,l4,u4,do_⟩,⟨rfl,rfl⟩,ut_,⟨.inr ⟨_,rfl,.box ⟨.old a0P,.old (.val _),.old (.val _),.old (.val _),.old W6,Y7 rfl,.old a2S,tt⟩⟩,.inl rfl,.inl rfl,.inr ⟨_,rfl,.same rfl U8⟩,tt⟩⟩
  ·have dP:iy=false:=sp_ h2;have bt:=iA dP;subst m10;refine qD (c5 rfl a7F o4 (V4 hT hm hW [47] (q:=0) (s:=kf ph) a00) rfl ?_);rintro ⟨iC,m11⟩ ⟨fo,iD,iE,iF⟩;dsimp only at fo iD iE iF ⊢;refine qN [rbx T m11 a2 0 ps b2 (kf ph),.dead,ot1 ph 0 b2.length,ot2 ph 0 b2.length] O1 ?_;refine qC ?_ ?_<;>intro h3
   ·have dv:iC=true:=sp_ h3;have hq:=(T3 (fo.symm.trans dv)).2;have bt:=iD dv;subst m11;have bf:opS (tk T m) (3:Nat)=4:=by
     show opS (tk T m) 3=4;rw [op3,n_0 b7v,n_1 hq]
    rw [n_0 (by rw [bf];decide),bf] at hS;refine qD (c5 rfl c1d j1 (hB g om_ d (m+1) a2 b2 iF cq bR om_ _ 0 (kf ph) a00) rfl ?_);rintro ⟨x3,n3,a3,e3,b3⟩ ⟨k3,y3,w3,z3,l3,u3⟩;dsimp only at k3 y3 w3 z3 l3 u3 ⊢;refine qN [rbx T n3 a3 e3 ps b3 4,.dead,.dead,.dead,o5 e3 b3.length] O1 ?_;refine b6d ?_;refine qD (c5 rfl a3L C6 (M6 w3 ⟨4,0,4,[],[x,x3]⟩ _ ⟨rfl,rfl,de_⟩) rfl ?_);rintro ⟨x4,a4,e4,b4⟩ ⟨k4,w4,l4,u4⟩;dsimp only at k4 w4 l4 u4 ⊢;refine qN [rbx T n3 a4 e4 ps b4 5,.dead,.dead,.dead,.dead,o5 e4 b4.length] rfl ?_;have dV:e3=0->n < n3/\8*(T.length - n3)+3<=(g+1):=fun h0=>by have:=z3 h0;omega
    have bX:(if e4=0 then T.length - n3+1 else 0) < (if (0:Int)=0 then T.length - m+1 else 0):=by
     rw [n_1 rfl]
     split
     ·rename_i h0;have:=z3 (k4.alive h0).1;omega
     ·omega
    have aW:=a2z (K:=fun i m c=>(A0 T ps (g+1)).lp 3 d i m c) hS k3 (fun j hj=>by rw [hi,hj];exact k4) k4.2;exact ⟨⟨x4,n3,a4,e4,b4,true,g+1⟩,[0,1,2,5],⟨bX,fun h0=>(aW.1 h0).2.elim fun i hi=>⟨i,hi.1,hi.2,dV (aW.1 h0).1⟩,aW.2,y3,w4,l4,u4,do_⟩,⟨rfl,rfl⟩,ut_,⟨.inr ⟨_,rfl,.box ⟨.old a0P,.old (.val _),.old (.val _),.old (.val _),.old W6,Y7 rfl,.old a2S,tt⟩⟩,.inl rfl,.inl rfl,.inr ⟨_,rfl,.same rfl U8⟩,tt⟩⟩
   ·have dv:iC=false:=sp_ h3;have bt:=iE dv;subst m11;refine qD (c5 rfl a7F o4 (V4 hT hm hW [37] (q:=0) (s:=kf ph) a00) rfl ?_);rintro ⟨v12,m12⟩ ⟨hv12,hs12,hf12,hm12⟩;dsimp only at hv12 hs12 hf12 hm12 ⊢;refine qN [rbx T m12 a2 0 ps b2 (kf ph),.dead,ot1 ph 0 b2.length,ot2 ph 0 b2.length] O1 ?_;refine qC ?_ ?_<;>intro h4
    ·have iG:v12=true:=sp_ h4;have hq:=(T3 (hv12.symm.trans iG)).2;have bt:=hs12 iG;subst m12;have bf:opS (tk T m) (3:Nat)=5:=by
      show opS (tk T m) 3=5;rw [op3,n_0 b7v,n_0 (by rw [Q5 fo dv];decide),n_1 hq]
     rw [n_0 (by rw [bf];decide),bf] at hS;refine qD (c5 rfl c1d j1 (hB g om_ d (m+1) a2 b2 hm12 cq bR om_ _ 0 (kf ph) a00) rfl ?_);rintro ⟨x3,n3,a3,e3,b3⟩ ⟨k3,y3,w3,z3,l3,u3⟩;dsimp only at k3 y3 w3 z3 l3 u3 ⊢;refine qN [rbx T n3 a3 e3 ps b3 4,.dead,.dead,.dead,o5 e3 b3.length] O1 ?_;refine b6d ?_;refine qD (c5 rfl a3L C6 (M6 w3 ⟨4,0,5,[],[x,x3]⟩ _ ⟨rfl,rfl,de_⟩) rfl ?_);rintro ⟨x4,a4,e4,b4⟩ ⟨k4,w4,l4,u4⟩;dsimp only at k4 w4 l4 u4 ⊢;refine qN [rbx T n3 a4 e4 ps b4 5,.dead,.dead,.dead,.dead,o5 e4 b4.length] rfl ?_;have dV:e3=0->n < n3/\8*(T.length - n3)+3<=(g+1):=fun h0=>by have:=z3 h0;omega
     have bX:(if e4=0 then T.length - n3+1 else 0) < (if (0:Int)=0 then T.length - m+1 else 0):=by
      rw [n_1 rfl]
      split
      ·rename_i h0;have:=z3 (k4.alive h0).1;omega
      ·omega
     have aW:=a2z (K:=fun i m c=>(A0 T ps (g+1)).lp 3 d i m c) hS k3 (fun j hj=>by rw [hi,hj];exact k4) k4.2;exact ⟨⟨x4,n3,a4,e4,b4,true,g+1⟩,[0,1,2,5],⟨bX,fun h0=>(aW.1 h0).2.elim fun i hi=>⟨i,hi.1,hi.2,dV (aW.1 h0).1⟩,aW.2,y3,w4,l4,u4,do_⟩,⟨rfl,rfl⟩,ut_,⟨.inr ⟨_,rfl,.box ⟨.old a0P,.old (.val _),.old (.val _),.old (.val _),.old W6,Y7 rfl,.old a2S,tt⟩⟩,.inl rfl,.inl rfl,.inr ⟨_,rfl,.same rfl U8⟩,tt⟩⟩
    ·have iG:v12=false:=sp_ h4;have bt:=hf12 iG;subst m12;refine V9 ?_;exact ⟨_,rE1,(by exact ⟨⟨x,m,a2,0,b2⟩,d6p,b5s (hS.trans (n_1 (by show opS (tk T m) 3=0;rw [op3,n_0 b7v,n_0 (by rw [Q5 fo dv];decide),n_0 (by rw [Q5 hv12 iG];decide)]))) hi hm cq bI bc aK⟩)⟩
 ·have he:e≠0:=sp_ h1;refine V9 ?_;exact ⟨_,rE1,d5F⟩
theorem d0r {ps:List Str} (hc:Z3 T ps) (H:∀ g,g < f0->RFC T ps g):RTC T ps f0:=fun d n at_ b hn hb hd hf σ q s ao=>by
 obtain ⟨f,rfl⟩:∃ f,f0=f+2:=⟨f0 - 2,om_⟩;exact a1U (c:=fun a:RX=>(iv a.x)) (N:=fun a=>a.n) (A:=fun a=>a.at_) (E:=fun a=>a.e) (B:=fun a=>a.b) (fun _ h=>by simp at h;subst h;exact .val _) (fun _=>.val _) (c8l hc (fun g hg=>H g om_) d n at_ b hn hb hd hf) ao
theorem P1 (h:isT t k s=true):t.k=k/\t.t=s:=by simpa [isT] using h
theorem b0c {ps:List Str} {d n:Nat} {b:List Ex}:(A0 T ps (f+1)).fac d n b=(G3 T ps (A0 T ps f)).fac d n b:=rfl
theorem d0i {ps:List Str} {d n:Nat} {b:List Ex} (h:(tk T n).k=2):(A0 T ps (f+1)).fac d n b=K7 b ⟨1,(tk T n).n,0,[],[]⟩ (n+1):=by
 rw [b0c];simp only [G3];rw [n_1 h]
theorem c94 {ps:List Str} {d n:Nat} {b:List Ex} (h:isT (tk T n) 4 [45]=true):(A0 T ps (f+1)).fac d n b=(G0 T (n+1) 2).bind fun y=>K7 b ⟨1,-y.1.n,0,[],[]⟩ y.2:=by
 rw [b0c];simp only [G3];rw [n_0 (by rw [(P1 h).1];decide),n_1 h]
theorem d0h {ps:List Str} {d n:Nat} {b:List Ex} (h:isT (tk T n) 4 [40]=true):(A0 T ps (f+1)).fac d n b=((A0 T ps f).ex (d+1) (n+1) b).bind fun x=>(pIs T x.2.1 4 [41]).bind fun m=>some (x.1,m,x.2.2):=by
 rw [b0c];simp only [G3];rw [n_0 (by rw [(P1 h).1];decide),n_0 (by simp [isT,(P1 h).2]),n_1 h]
theorem a41 {ps:List Str} {d n:Nat} {b:List Ex} (h:isT (tk T n) 1 u=true) (hu:u=[114,101,97,100]\/u=[115,105,122,101]\/u=[104,97,115]\/u=[101,110,118]\/u=[102,108,105,112]):(A0 T ps (f+1)).fac d n b=W5 T (A0 T ps f) u d (n+1) b:=by
 obtain ⟨hk,ht⟩:=P1 h;rw [b0c];simp only [G3];rw [n_0 (by rw [hk];decide),n_0 (by simp [isT,hk]),n_0 (by simp [isT,hk]),n_0 (by simp [hk]),ht,n_1 hu]
theorem a4Q (h:isT t k s=false) (hk:t.k=k):¬ t.t=s:=by
 intro e;simp [isT,hk,e] at h
theorem c4z {ps:List Str} {d n:Nat} {b:List Ex} (h1:¬ (tk T n).k=2) (h2:isT (tk T n) 4 [45]=false) (h3:isT (tk T n) 4 [40]=false) (h4:isT (tk T n) 1 [114,101,97,100]=false) (h5:isT (tk T n) 1 [115,105,122,101]=false) (h6:isT (tk T n) 1 [104,97,115]=false) (h7:isT (tk T n) 1 [101,110,118]=false) (h8:isT (tk T n) 1 [102,108,105,112]=false) :
 (A0 T ps (f+1)).fac d n b=(J3 T n).bind fun s=>if isT (tk T s.2) 4 [40]=true then (a12 T (A0 T ps f) d s.2 b).bind fun a=>K7 a.2.2 ⟨3,0,0,s.1.t,a.1⟩ a.2.1 else if ixS ps s.1.t 0 < 0 then none else K7 b ⟨2,ixS ps s.1.t 0,0,[],[]⟩ s.2:=by
 rw [b0c];simp only [G3];rw [n_0 h1,n_0 (by rw [h2];decide),n_0 (by rw [h3];decide)];by_cases hk:(tk T n).k=1
 ·rw [n_0 (fun h=>h hk),n_0 (by
   rintro (h | h | h | h | h)
   ·exact a4Q h4 hk h
   ·exact a4Q h5 hk h
   ·exact a4Q h6 hk h
   ·exact a4Q h7 hk h
   ·exact a4Q h8 hk h)]
  by_cases hr:P6 (tk T n).t=true
  ·rw [n_1 hr];simp [J3,G0,hk,hr]
  ·rw [n_0 hr];simp [J3,G0,hk,hr]
 ·rw [n_1 hk];simp [J3,G0,hk]
theorem d0x {d n:Nat} {b:List Ex}:W5 T F [114,101,97,100] d n b=(pIs T n 4 [40]).bind fun n1=>(a01 T true n1).bind fun s=>(pIs T s.2 4 [44]).bind fun n2=>(F.ex (d+1) n2 b).bind fun x=>(pIs T x.2.1 4 [41]).bind fun m=>K7 x.2.2 ⟨6,0,0,s.1.t,[(x.1:Int)]⟩ m:=by
 simp only [a3o];rfl
theorem d0y {d n:Nat} {b:List Ex}:W5 T F [115,105,122,101] d n b=(pIs T n 4 [40]).bind fun n1=>(a01 T true n1).bind fun s=>(pIs T s.2 4 [41]).bind fun m=>K7 b ⟨7,0,0,s.1.t,[]⟩ m:=by
 simp only [a3o];rfl
theorem d4l {d n:Nat} {b:List Ex}:W5 T F [104,97,115] d n b=(pIs T n 4 [40]).bind fun n1=>(a01 T true n1).bind fun s=>(pIs T s.2 4 [41]).bind fun m=>K7 b ⟨8,0,0,s.1.t,[]⟩ m:=by
 simp only [a3o];rfl
theorem d4f {d n:Nat} {b:List Ex}:W5 T F [101,110,118] d n b=(pIs T n 4 [40]).bind fun n1=>(a01 T false n1).bind fun s=>(pIs T s.2 4 [41]).bind fun m=>K7 b ⟨9,0,0,s.1.t,[]⟩ m:=by
 have e:W5 T F [101,110,118] d n b=(pIs T n 4 [40]).bind fun n1=>(G0 T n1 3).bind fun s=>if A9 s.1.t=true then (pIs T s.2 4 [41]).bind fun m=>K7 b ⟨9,0,0,s.1.t,[]⟩ m else none:=rfl
 rw [e];refine n_9 _ (funext fun n1=>?_);unfold a01;cases G0 T n1 3 with
 | none=>rfl
 | some s =>
  simp only [n_8];by_cases h:A9 s.1.t=true
  ·simp [h]
  ·simp [h]
theorem b9H {d n:Nat} {b:List Ex}:W5 T F [102,108,105,112] d n b=(pIs T n 4 [40]).bind fun n1=>(G0 T n1 2).bind fun s=>if 64<=s.1.n then none else (pIs T s.2 4 [41]).bind fun m=>K7 b ⟨10,s.1.n,0,[],[]⟩ m:=rfl
theorem J9 {n:Nat} {e:Int} (q:Ok e (pIs T n k u) e' n') (h:e'=0):e=0/\n'=n+1:=⟨(q.alive h).1,O4 (q.alive h).2⟩
theorem a9U {n:Nat} {x:Tok × Nat} (hk:k≠5) (h:G0 T n k=some x):x=(tk T n,n+1)/\(tk T n).k=k:=by
 unfold G0 at h;by_cases h1:(tk T n).k=k
 ·rw [n_1 h1,n_0 hk] at h;injection h with h
  exact ⟨h.symm,h1⟩
 ·rw [n_0 h1] at h;cases h
theorem c8z {n:Nat} {e:Int} (q:Ok e ((G0 T n 2).map fun x=>(x.1.n,x.2)) e' (x,n')) (h:e'=0):e=0/\n'=n+1:=by
 obtain ⟨h1,h2⟩:=q.alive h;obtain ⟨p,hp,hg⟩:=N0.1 h2;obtain ⟨rfl,_⟩:=a9U de_ hp;injection hg with _ hg
 exact ⟨h1,hg.symm⟩
theorem d4p {n:Nat} (q:Ok 0 ((G0 T n 2).map fun x=>(x.1.n,x.2)) e' (x,n')) (hk:(tk T n).k=2):e'=0/\x=(tk T n).n/\n'=n+1:=by
 have hp:G0 T n 2=some (tk T n,n+1):=by
  unfold G0;rw [n_1 hk,n_0 de_]
 rw [hp] at q
 rcases q.zero with ⟨h1,h2⟩ | ⟨_,h2⟩
 ·injection h2 with h2
  injection h2 with h3 h4
  exact ⟨h1,h3.symm,h4.symm⟩
 ·cases h2
theorem a7g {n:Nat} {e:Int} {p:Bool} {x:Str} (q:Ok e ((a01 T p n).map fun x=>(x.1.t,x.2)) e' (x,n')) (h:e'=0):e=0/\n'=n+1:=by
 obtain ⟨h1,h2⟩:=q.alive h;obtain ⟨t,hp,hg⟩:=N0.1 h2;obtain ⟨y,hy,hz⟩:=c6Q.1 hp;obtain ⟨rfl,_⟩:=a9U de_ hy;by_cases hc:(if p=true then G6 (tk T n).t else A9 (tk T n).t)=true
 ·rw [n_1 hc] at hz;injection hz with hz
  subst hz;injection hg with _ hg
  exact ⟨h1,hg.symm⟩
 ·rw [n_0 hc] at hz;cases hz
theorem a9a {n:Nat} {e:Int} {x:Str} (q:Ok e ((J3 T n).map fun x=>(x.1.t,x.2)) e' (x,n')) (h:e'=0):e=0/\n'=n+1/\x=(tk T n).t/\J3 T n=some (tk T n,n+1):=by
 obtain ⟨h1,h2⟩:=q.alive h;obtain ⟨t,hp,hg⟩:=N0.1 h2;obtain ⟨y,hy,hz⟩:=c6Q.1 hp;obtain ⟨rfl,_⟩:=a9U de_ hy;by_cases hc:P6 (tk T n).t=true
 ·rw [n_1 hc] at hz;cases hz
 ·rw [n_0 hc] at hz;injection hz with hz
  subst hz;injection hg with dU hg
  exact ⟨h1,hg.symm,dU.symm,hp⟩
def a4J (T:List Tok) (ps:List Str) (d g m:Nat) (b:List Ex) (l:List Int):Option (List Int × Nat × List Ex) :=
 if l=[] then (if isT (tk T m) 4 [41]=true then some ([],m+1,b) else (A0 T ps g).ag d m b [])
 else if isT (tk T m) 4 [44]=true then (A0 T ps g).ag d (m+1) b l else (pIs T m 4 [41]).bind fun m'=>some (l,m',b)
theorem c2S {ps:List Str} {d n:Nat} {b:List Ex} (h:isT (tk T n) 4 [40]=true):a12 T (A0 T ps f) d n b=a4J T ps d f (n+1) b []:=by
 unfold a12 pIs a4J;rw [n_1 h,n_8,n_1 rfl]
theorem c3J {ps:List Str} {d g m:Nat} {b:List Ex} {l:List Int} (h:isT (tk T m) 4 [41]=true):a4J T ps d g m b l=some (l,m+1,b):=by
 unfold a4J;by_cases hl:l=[]
 ·rw [n_1 hl,n_1 h,hl]
 ·rw [n_0 hl,n_0 (by simp [isT,(P1 h).2]),pIs,n_1 h];rfl
theorem b8H {ps:List Str} {d g m:Nat} {b:List Ex} {l:List Int} (h:isT (tk T m) 4 [41]=false) (hl:l≠[]):a4J T ps d g m b l=(pIs T m 4 [44]).bind fun m'=>(A0 T ps g).ag d m' b l:=by
 unfold a4J;rw [n_0 hl];unfold pIs;by_cases h4:isT (tk T m) 4 [44]=true
 ·rw [n_1 h4,n_1 h4];rfl
 ·rw [n_0 h4,n_0 h4,n_0 (by rw [h];decide)];rfl
theorem b45 {ps:List Str} {d g m:Nat} {b:List Ex} (h:isT (tk T m) 4 [41]=false):a4J T ps d g m b []=(some m).bind fun m'=>(A0 T ps g).ag d m' b []:=by
 unfold a4J;rw [n_1 rfl,n_0 (by rw [h];decide)];rfl
theorem agS {ps:List Str} {g d n:Nat} {b:List Ex} {l:List Int}:(A0 T ps (g+1)).ag d n b l=((A0 T ps g).ex (d+1) n b).bind fun x=>a4J T ps d g x.2.1 x.2.2 (l++[(x.1:Int)]):=by
 show ((A0 T ps g).ex (d+1) n b).bind _=_;refine n_9 _ (funext fun x=>?_);unfold a4J;exact (n_0 si_).symm
theorem b6O {o:Option Nat} {X:Nat->Option PX} {R:PX->Option (List Int × Nat × List Ex)} {P:List Int × Nat × List Ex->Option PX} {x3:Int} {b3:List Ex} (hs:S=(o.bind fun m=>(X m).bind R).bind P) (q:Ok 0 o e2 n2) (k:Ok e2 ((X n2).map cx) e3 (x3,n3,b3)) :
 (e3=0->e2=0/\∃ j:Nat,(j:Int)=x3/\S=(R (j,n3,b3)).bind P)/\(e3≠0->S=none):=by
 rcases q.zero with ⟨h2,ho⟩ | ⟨h2,ho⟩
 ·subst h2
  rcases k.zero with ⟨h3,hX⟩ | ⟨h3,hX⟩
  ·obtain ⟨j,hj,hX⟩:=b4w hX;exact ⟨fun _=>⟨rfl,j,hj,by rw [hs,ho,n_8,hX];rfl⟩,fun h=>absurd h3 h⟩
  ·exact ⟨fun h=>absurd h h3,fun _=>by rw [hs,ho,n_8,b3V hX];rfl⟩
 ·exact ⟨fun h=>absurd h (k.2 h2),fun _=>by rw [hs,ho];rfl⟩
structure RG where
 l:List Int
 m:Nat
 at_:Int
 e:Int
 b:List Ex
 ph:Bool
 g:Nat
variable {g:Nat}
def kg5 (ph:Bool):Nat:=if ph=true then 4 else 1
theorem b9f {ps:List Str} (hc:Z3 T ps) (hE:∀ g,g<=f->REC T ps g) (d n:Nat) (at_:Int) (b:List Ex) (hn:n < T.length) (hb:b.length<=256) (bR:d<=32) (hf:8*(T.length - n)+1<=f+1):b8 CC 316 [.ptr 0 0,iv d] (rst T n at_ 0 ps b) (fun r τ=>∃ a:RX,F8 2 τ r (.ret (iv a.x)) (a55 T a.n a.at_ a.e ps a.b)/\RXP T n 0 ((A0 T ps (f+1)).fac d n b) a):=by
 have hT:=hc.len;have hW:=hc.w;refine qO Tryz.func316 ?_;refine qY b7l ?_;refine z_1 ?_;refine cC ?_ ?_<;>intro h1
 ·simp at h1
 ·refine qk (qC ?_ ?_)<;> intro h2
  ·have hk:(tk T n).k=2:=sp_ h2;refine qD (c5 rfl c5a ⟨tt,tt⟩ (a7E hT hn hW hc.nn ⟨rfl,rfl,de_⟩) rfl ?_);rintro ⟨x1,n1,a1,e1⟩ ⟨q1,y1,l1,u1⟩;dsimp only at q1 y1 l1 u1 ⊢;refine qN [rbx T n1 a1 e1 ps b 1,o5 e1 b.length,.box (tk T n).cells] rfl ?_;obtain ⟨rfl,rfl,rfl⟩:=d4p q1 hk;refine qY a99 ?_;refine qD (c5 rfl a3L C6 (M6 hb ⟨1,(tk T n).n,0,[],[]⟩ _ ⟨rfl,rfl,de_⟩) rfl ?_);rintro ⟨x6,a6,e6,b6⟩ ⟨k6,w6,l6,u6⟩;dsimp only at k6 w6 l6 u6 ⊢;refine qN [rbx T (n+1) a6 e6 ps b6 3,.dead,.box (tk T n).cells,o5 e6 b6.length] rfl ?_;refine c6 ?_;exact ⟨_,rE1,(by exact ⟨⟨x6,n+1,a6,e6,b6⟩,S5 (k:=3) rfl rfl de_ (.val _),⟨by rw [d0i hk];exact a1O k6,do_,w6,fun h0=>by dsimp only;omega,l6,u6⟩⟩)⟩
  ·have hk:¬ (tk T n).k=2:=sp_ h2;refine qD (c5 rfl a7F o4 (V4 hT hn hW [45] ⟨rfl,rfl,de_⟩) rfl ?_);rintro ⟨v1,m1⟩ ⟨dC,bq,dA,dy⟩;dsimp only at dC bq dA dy ⊢;refine qN [rbx T m1 at_ 0 ps b 1,o5 0 b.length,.box (tk T n).cells] rfl (qC ?_ ?_)<;> intro h3
   ·have eK:v1=true:=sp_ h3;have hq:=(T3 (dC.symm.trans eK)).2;have bt:=bq eK;subst m1;refine qD (c5 rfl c5a ⟨tt,tt⟩ (a7E hT dy hW hc.nn ⟨rfl,rfl,de_⟩) rfl ?_);rintro ⟨x2,n2,a2,e2⟩ ⟨q2,y2,l2,u2⟩;dsimp only at q2 y2 l2 u2 ⊢;refine qN [rbx T n2 a2 e2 ps b 1,o5 e2 b.length,.box (tk T n).cells] rfl ?_;have ew : -x2=IntKind.i64.wrap (0 - x2):=by rw [a83 om_ om_];omega
    refine qY (c6t rfl tt rfl) ?_;refine qY a99 ?_;refine qD (c5 rfl a3L C6 (M6 hb ⟨1,IntKind.i64.wrap (0 - x2),0,[],[]⟩ _ ⟨rfl,rfl,de_⟩) rfl ?_);rintro ⟨x6,a6,e6,b6⟩ ⟨k6,w6,l6,u6⟩;dsimp only at k6 w6 l6 u6 ⊢;refine qN [rbx T n2 a6 e6 ps b6 3,.dead,.box (tk T n).cells,o5 e6 b6.length] rfl ?_;refine c6 ?_;exact ⟨_,rE1,(by exact ⟨⟨x6,n2,a6,e6,b6⟩,S5 (k:=3) rfl rfl de_ (.val _),⟨by rw [c94 hq];exact q2.bindI (fun t ht=>a1O (by rw [ht,ew];exact k6)) k6.2,do_,w6,fun h0=>by have:=(c8z q2 (k6.alive h0).1).2;dsimp only;omega,l6,u6⟩⟩)⟩
   ·have eK:v1=false:=sp_ h3;have dU:=Q5 dC eK;have bt:=dA eK;subst m1;refine qD (c5 rfl a7F o4 (V4 hT hn hW [40] ⟨rfl,rfl,de_⟩) rfl ?_);rintro ⟨v2,m2⟩ ⟨ci,dK,gk,cp⟩;dsimp only at ci dK gk cp ⊢;refine qN [rbx T m2 at_ 0 ps b 1,o5 0 b.length,.box (tk T n).cells] rfl (qC ?_ ?_)<;> intro h4
    ·have cS:v2=true:=sp_ h4;have hq:=(T3 (ci.symm.trans cS)).2;have bt:=dK cS;subst m2;refine qY o7 ?_;refine qD (c5 rfl b5o j1 (hE f (n_6 _) (d+1) (n+1) at_ 0 b cp hb om_ (fun _=>by omega) _ 0 1 ⟨rfl,rfl,de_⟩) rfl ?_);rintro ⟨x3,n3,a3,e3,b3⟩ ⟨k3,y3,w3,z3,l3,u3⟩;dsimp only at k3 y3 w3 z3 l3 u3 ⊢;refine qN [rbx T n3 a3 e3 ps b3 3,.dead,.box (tk T n).cells,o5 e3 b3.length] rfl (qD (c5 rfl a3K o4 (M7 hT y3 hW [41] ⟨rfl,rfl,de_⟩) rfl ?_));rintro ⟨n4,a4,e4⟩ ⟨q4,y4⟩;dsimp only at q4 y4 ⊢;refine qN [rbx T n4 a4 e4 ps b3 3,.dead,.box (tk T n).cells,o5 e4 b3.length] rfl ?_;refine c6 ?_;exact ⟨_,rE1,(by exact ⟨⟨x3,n4,a4,e4,b3⟩,S5 (k:=3) rfl rfl de_ (.val _),⟨by rw [d0h hq];exact k3.bindX (fun i hi=>q4.bindP (by rw [<- hi];exact .some)) q4.2,y4,w3,fun h0=>by have g:=J9 q4 h0;have:=z3 g.1;dsimp only;omega,l3,u3⟩⟩)⟩
    ·have cS:v2=false:=sp_ h4;have dO:=Q5 ci cS;have bt:=gk cS;subst m2;refine qD (c5 rfl a84 o4 (X7 hT hn hW [114,101,97,100] ⟨rfl,rfl,de_⟩) rfl ?_);rintro ⟨v3,m3⟩ ⟨hv3,fz,hf3,fR⟩;dsimp only at hv3 fz hf3 fR ⊢;refine qN [rbx T m3 at_ 0 ps b 1,o5 0 b.length,.box (tk T n).cells] rfl (qC ?_ ?_)<;> intro h5
     ·have fB:v3=true:=sp_ h5;have hq:=(T3 (hv3.symm.trans fB)).2;have bt:=fz fB;subst m3;refine qD (c5 rfl a3K o4 (M7 hT fR hW [40] ⟨rfl,rfl,de_⟩) rfl ?_);rintro ⟨n1,a1,e1⟩ ⟨q1,y1⟩;dsimp only at q1 y1 ⊢;refine qN [rbx T n1 a1 e1 ps b 1,o5 e1 b.length,.box (tk T n).cells] rfl (qD (c5 rfl c0f o4 (a9g hT y1 hW true hc.l ⟨rfl,rfl,de_⟩) rfl ?_));rintro ⟨s2,n2,a2,e2⟩ ⟨q2,y2⟩;dsimp only at q2 y2 ⊢;refine qN [rbx T n2 a2 e2 ps b 1,o5 e2 b.length,.box (tk T n).cells] rfl (qD (c5 rfl a3K o4 (M7 hT y2 hW [44] ⟨rfl,rfl,de_⟩) rfl ?_));rintro ⟨n3,a3,e3⟩ ⟨q3,y3⟩;dsimp only at q3 y3 ⊢;refine qN [rbx T n3 a3 e3 ps b 1,o5 e3 b.length,.box (tk T n).cells] rfl (qY o7 ?_);refine qD (c5 rfl b5o j1 (hE f (n_6 _) (d+1) n3 a3 e3 b y3 hb om_ (fun h0=>by have g:=J9 q3 h0;have g':=a7g q2 g.1;have:=J9 q1 g'.1;omega) _ 0 1 ⟨rfl,rfl,de_⟩) rfl ?_);rintro ⟨x4,n4,a4,e4,b4⟩ ⟨k4,y4,w4,z4,l4,u4⟩;dsimp only at k4 y4 w4 z4 l4 u4 ⊢;refine qN [rbx T n4 a4 e4 ps b4 3,.dead,.box (tk T n).cells,o5 e4 b4.length] rfl (qD (c5 rfl a3K o4 (M7 hT y4 hW [41] ⟨rfl,rfl,de_⟩) rfl ?_));rintro ⟨n5,a5,e5⟩ ⟨q5,y5⟩;dsimp only at q5 y5 ⊢;refine qN [rbx T n5 a5 e5 ps b4 3,.dead,.box (tk T n).cells,o5 e5 b4.length] rfl (qY (B3 ([x4].map icv) rfl ⟨tt,tt⟩ t_4 t_1 t_8 rfl rfl rfl rfl rfl rfl rfl rfl rfl) ?_);refine qY c2Q ?_;refine qD (c5 rfl a3L C6 (M6 w4 ⟨6,0,0,s2,[x4]⟩ _ ⟨rfl,rfl,de_⟩) rfl ?_);rintro ⟨x6,a6,e6,b6⟩ ⟨k6,w6,l6,u6⟩;dsimp only at k6 w6 l6 u6 ⊢;refine qN [rbx T n5 a6 e6 ps b6 4,.dead,.box (tk T n).cells,.dead,o5 e6 b6.length] rfl ?_;refine c6 ?_;exact ⟨_,rE1,(by exact ⟨⟨x6,n5,a6,e6,b6⟩,S5 (k:=4) rfl rfl de_ (.val _),⟨by rw [a41 hq de_,d0x];exact q1.bindP (q2.bindT (fun t ht=>q3.bindP (k4.bindX (fun i hi=>q5.bindP (a1O (by rw [ht,hi];exact k6))) fun h=>k6.2 (q5.2 h))) fun h=>k6.2 (q5.2 (k4.2 (q3.2 h)))),do_,w6,fun h0=>by have g5:=J9 q5 (k6.alive h0).1;have:=z4 g5.1;have g3:=J9 q3 (k4.alive g5.1).1;have g2:=a7g q2 g3.1;have:=J9 q1 g2.1;dsimp only;omega,l6,u6⟩⟩)⟩
     ·have fB:v3=false:=sp_ h5;have hg3:=Q5 hv3 fB;have bt:=hf3 fB;subst m3;refine qD (c5 rfl a84 o4 (X7 hT hn hW [115,105,122,101] ⟨rfl,rfl,de_⟩) rfl ?_);rintro ⟨v4,m4⟩ ⟨hv4,hs4,hf4,hm4⟩;dsimp only at hv4 hs4 hf4 hm4 ⊢;refine qN [rbx T m4 at_ 0 ps b 1,o5 0 b.length,.box (tk T n).cells] rfl (qC ?_ ?_)<;> intro h6
      ·have gL:v4=true:=sp_ h6;have hq:=(T3 (hv4.symm.trans gL)).2;have bt:=hs4 gL;subst m4;have hw:=(P1 hq).2;refine qC ?_ ?_<;>intro h7
       ·refine qY N6 ?_;refine qC ?_ ?_<;>intro h8
        ·simp [hw] at h8
        ·refine qY N6 ?_;refine qC ?_ ?_<;>intro h9
         ·simp [hw] at h9
         ·refine qD (c5 rfl a3K o4 (M7 hT hm4 hW [40] ⟨rfl,rfl,de_⟩) rfl ?_);rintro ⟨n1,a1,e1⟩ ⟨q1,y1⟩;dsimp only at q1 y1 ⊢;refine d3n ?_;rintro ⟨s2,n2,a2,e2⟩ ⟨q2,y2⟩;dsimp only at q2 y2 ⊢;refine d4Z ?_;rintro ⟨n3,a3,e3⟩ ⟨q3,y3⟩;dsimp only at q3 y3 ⊢;refine c4K ?_;refine qD (c5 rfl a3L C6 (M6 hb ⟨7,0,0,s2,[]⟩ _ ⟨rfl,rfl,de_⟩) rfl ?_);rintro ⟨x6,a6,e6,b6⟩ ⟨k6,w6,l6,u6⟩;dsimp only at k6 w6 l6 u6 ⊢;refine c91 ?_;exact ⟨_,rE1,(by exact ⟨⟨x6,n3,a6,e6,b6⟩,S5 (k:=3) rfl rfl de_ (.val _),⟨by rw [a41 hq de_,d0y];exact q1.bindP (q2.bindT (fun t ht=>q3.bindP (a1O (by rw [ht];exact k6))) fun h=>k6.2 (q3.2 h)),do_,w6,fun h0=>by have g3:=J9 q3 (k6.alive h0).1;have g2:=a7g q2 g3.1;have:=J9 q1 g2.1;dsimp only;omega,l6,u6⟩⟩)⟩
       ·rw [gL] at h7;cases h7
      ·have gL:v4=false:=sp_ h6;have hg4:=Q5 hv4 gL;have bt:=hf4 gL;subst m4;refine qD (c5 rfl a84 o4 (X7 hT hn hW [104,97,115] ⟨rfl,rfl,de_⟩) rfl ?_);rintro ⟨v5,m5⟩ ⟨hv5,hs5,hf5,hm5⟩;dsimp only at hv5 hs5 hf5 hm5 ⊢;refine qN [rbx T m5 at_ 0 ps b 1,o5 0 b.length,.box (tk T n).cells] rfl (qC ?_ ?_)<;> intro h19
       ·have hi5:v5=true:=sp_ h19;have hq:=(T3 (hv5.symm.trans hi5)).2;have bt:=hs5 hi5;subst m5;have hw:=(P1 hq).2;refine qC ?_ ?_<;>intro h20
        ·refine qY N6 ?_;refine qC ?_ ?_<;>intro h21
         ·refine qD (c5 rfl a3K o4 (M7 hT hm5 hW [40] ⟨rfl,rfl,de_⟩) rfl ?_);rintro ⟨n1,a1,e1⟩ ⟨q1,y1⟩;dsimp only at q1 y1 ⊢;refine d3n ?_;rintro ⟨s2,n2,a2,e2⟩ ⟨q2,y2⟩;dsimp only at q2 y2 ⊢;refine d4Z ?_;rintro ⟨n3,a3,e3⟩ ⟨q3,y3⟩;dsimp only at q3 y3 ⊢;refine c4K ?_;refine qD (c5 rfl a3L C6 (M6 hb ⟨8,0,0,s2,[]⟩ _ ⟨rfl,rfl,de_⟩) rfl ?_);rintro ⟨x6,a6,e6,b6⟩ ⟨k6,w6,l6,u6⟩;dsimp only at k6 w6 l6 u6 ⊢;refine c91 ?_;exact ⟨_,rE1,(by exact ⟨⟨x6,n3,a6,e6,b6⟩,S5 (k:=3) rfl rfl de_ (.val _),⟨by rw [a41 hq de_,d4l];exact q1.bindP (q2.bindT (fun t ht=>q3.bindP (a1O (by rw [ht];exact k6))) fun h=>k6.2 (q3.2 h)),do_,w6,fun h0=>by have g3:=J9 q3 (k6.alive h0).1;have g2:=a7g q2 g3.1;have:=J9 q1 g2.1;dsimp only;omega,l6,u6⟩⟩)⟩
         ·simp [hw] at h21
        ·rw [hi5] at h20;cases h20
       ·have hi5:v5=false:=sp_ h19;have hg5:=Q5 hv5 hi5;have bt:=hf5 hi5;subst m5;refine qD (c5 rfl a84 o4 (X7 hT hn hW [101,110,118] ⟨rfl,rfl,de_⟩) rfl ?_);rintro ⟨v6,m6⟩ ⟨hv6,hs6,hf6,hm6⟩;dsimp only at hv6 hs6 hf6 hm6 ⊢;refine qN [rbx T m6 at_ 0 ps b 1,o5 0 b.length,.box (tk T n).cells] rfl (qC ?_ ?_)<;> intro h32
        ·have hi6:v6=true:=sp_ h32;have hq:=(T3 (hv6.symm.trans hi6)).2;have bt:=hs6 hi6;subst m6;have hw:=(P1 hq).2;refine qY N6 ?_;refine qC ?_ ?_<;>intro h33
         ·simp [hw] at h33
         ·refine qY N6 ?_;refine qC ?_ ?_<;>intro h34
          ·refine qD (c5 rfl a3K o4 (M7 hT hm6 hW [40] ⟨rfl,rfl,de_⟩) rfl ?_);rintro ⟨n1,a1,e1⟩ ⟨q1,y1⟩;dsimp only at q1 y1 ⊢;refine qN [rbx T n1 a1 e1 ps b 1,o5 e1 b.length,.box (tk T n).cells] rfl (qD (c5 rfl c0f j1 (a9g hT y1 hW false hc.l ⟨rfl,rfl,de_⟩) rfl ?_));rintro ⟨s2,n2,a2,e2⟩ ⟨q2,y2⟩;dsimp only at q2 y2 ⊢;refine d4Z ?_;rintro ⟨n3,a3,e3⟩ ⟨q3,y3⟩;dsimp only at q3 y3 ⊢;refine c4K ?_;refine qD (c5 rfl a3L C6 (M6 hb ⟨9,0,0,s2,[]⟩ _ ⟨rfl,rfl,de_⟩) rfl ?_);rintro ⟨x6,a6,e6,b6⟩ ⟨k6,w6,l6,u6⟩;dsimp only at k6 w6 l6 u6 ⊢;refine c91 ?_;exact ⟨_,rE1,(by exact ⟨⟨x6,n3,a6,e6,b6⟩,S5 (k:=3) rfl rfl de_ (.val _),⟨by rw [a41 hq de_,d4f];exact q1.bindP (q2.bindT (fun t ht=>q3.bindP (a1O (by rw [ht];exact k6))) fun h=>k6.2 (q3.2 h)),do_,w6,fun h0=>by have g3:=J9 q3 (k6.alive h0).1;have g2:=a7g q2 g3.1;have:=J9 q1 g2.1;dsimp only;omega,l6,u6⟩⟩)⟩
          ·simp [hw] at h34
        ·have hi6:v6=false:=sp_ h32;have hg6:=Q5 hv6 hi6;have bt:=hf6 hi6;subst m6;refine qD (c5 rfl a84 o4 (X7 hT hn hW [102,108,105,112] ⟨rfl,rfl,de_⟩) rfl ?_);rintro ⟨v7,m7⟩ ⟨hv7,hs7,hf7,hm7⟩;dsimp only at hv7 hs7 hf7 hm7 ⊢;refine qN [rbx T m7 at_ 0 ps b 1,o5 0 b.length,.box (tk T n).cells] rfl (qC ?_ ?_)<;> intro h35
         ·have hi7:v7=true:=sp_ h35;have hq:=(T3 (hv7.symm.trans hi7)).2;have bt:=hs7 hi7;subst m7;refine qD (c5 rfl a3K o4 (M7 hT hm7 hW [40] ⟨rfl,rfl,de_⟩) rfl ?_);rintro ⟨n1,a1,e1⟩ ⟨q1,y1⟩;dsimp only at q1 y1 ⊢;refine qN [rbx T n1 a1 e1 ps b 1,o5 e1 b.length,.box (tk T n).cells] rfl ?_;refine d1T ?_;refine qD (c5 rfl c5a ⟨tt,tt⟩ (a7E hT y1 hW hc.nn ⟨rfl,rfl,de_⟩) rfl ?_);rintro ⟨x2,n2,a2,e2⟩ ⟨q2,y2,l2,u2⟩;dsimp only at q2 y2 l2 u2 ⊢;refine qN [rbx T n2 a2 e2 ps b 1,o5 e2 b.length,.box (tk T n).cells] rfl (qC ?_ ?_)<;> intro h36
          ·have aE:64<=x2:=sp_ h36;refine qD (c5 rfl a9Y a3F (a0b _ _ de_ ⟨rfl,rfl,de_⟩) rfl ?_);rintro ⟨x0,y0⟩ bA;dsimp only at bA ⊢;refine qN [rbx T n2 x0 y0 ps b 1,o5 y0 b.length,.box (tk T n).cells] rfl (qD (c5 rfl a3K o4 (M7 hT y2 hW [41] ⟨rfl,rfl,de_⟩) rfl ?_));rintro ⟨n3,a3,e3⟩ ⟨q3,y3⟩;dsimp only at q3 y3 ⊢;refine d1z ?_;rintro ⟨x6,a6,e6,b6⟩ ⟨k6,w6,l6,u6⟩;dsimp only at k6 w6 l6 u6 ⊢;refine qN [rbx T n3 a6 e6 ps b6 3,.dead,.box (tk T n).cells,o5 e6 b6.length] rfl ?_;have he6:=k6.2 (q3.2 bA);refine c6 ?_;exact ⟨_,rE1,(by exact ⟨⟨x6,n3,a6,e6,b6⟩,S5 (k:=3) rfl rfl de_ (.val _),⟨by rw [a41 hq de_,b9H];exact q1.bindP (q2.bindI (fun t ht=>by dsimp only;rw [n_1 (by rw [ht];exact aE)];exact .none he6) fun _=>he6),do_,w6,fun h0=>absurd h0 he6,l6,u6⟩⟩)⟩
          ·have aE:¬ 64<=x2:=sp_ h36;refine qD (c5 rfl a3K o4 (M7 hT y2 hW [41] ⟨rfl,rfl,de_⟩) rfl ?_);rintro ⟨n3,a3,e3⟩ ⟨q3,y3⟩;dsimp only at q3 y3 ⊢;refine d1z ?_;rintro ⟨x6,a6,e6,b6⟩ ⟨k6,w6,l6,u6⟩;dsimp only at k6 w6 l6 u6 ⊢;refine c91 ?_;exact ⟨_,rE1,(by exact ⟨⟨x6,n3,a6,e6,b6⟩,S5 (k:=3) rfl rfl de_ (.val _),⟨by rw [a41 hq de_,b9H];exact q1.bindP (q2.bindI (fun t ht=>by dsimp only;rw [n_0 (by rw [ht];exact aE)];exact q3.bindP (a1O (by rw [ht];exact k6))) fun h=>k6.2 (q3.2 h)),do_,w6,fun h0=>by have g3:=J9 q3 (k6.alive h0).1;have g2:=c8z q2 g3.1;have:=J9 q1 g2.1;dsimp only;omega,l6,u6⟩⟩)⟩
         ·have hi7:v7=false:=sp_ h35;have hg7:=Q5 hv7 hi7;have bt:=hf7 hi7;subst m7;have af:=c4z (ps:=ps) (f:=f) (d:=d) (b:=b) hk dU dO hg3 hg4 hg5 hg6 hg7;refine qD (c5 rfl b7T ⟨tt,tt⟩ (a6o hT hn hW ⟨rfl,rfl,de_⟩) rfl ?_);rintro ⟨s1,n1,a1,e1⟩ ⟨q1,y1⟩;dsimp only at q1 y1 ⊢;refine qN [rbx T n1 a1 e1 ps b 1,o5 e1 b.length,.box (tk T n).cells] rfl (qD (c5 rfl a7F o4 (V4 hT y1 hW [40] ⟨rfl,rfl,de_⟩) rfl ?_));rintro ⟨v8,m8⟩ ⟨cZ,hs8,hf8,hm8⟩;dsimp only at cZ hs8 hf8 hm8 ⊢;refine qN [rbx T m8 a1 e1 ps b 1,o5 e1 b.length,.box (tk T n).cells] rfl ?_;refine cC ?_ ?_<;>intro h37
          ·have hi8:v8=false:=sp_ h37;have bt:=hf8 hi8;subst m8;refine b2S ?_;refine I4 (α:=Nat) (fun j=>[(0,.ptr 0 0),(6,(iv ((tk T n).at_))),(14,(sv s1)),(137,(.list (ps.map scv) (gnn ps.length) none)),(138,iv ps.length),(139,iv j)]) (fun _=>[rbx T n1 a1 e1 ps b 1,o5 e1 b.length,.box (tk T n).cells]) (fun j=>j<=ps.length/\(e1=0->ixS ps s1 0=ixS (ps.drop j) s1 j)) (fun j=>ps.length - j) 0 ⟨n_5 _,fun _=>rfl⟩ tu_ rfl ?_;intro j E5 ⟨hj,hjx⟩;have co:=hc.ps;refine qk (qC ?_ ?_)<;> intro h38
           ·have ae:j < ps.length:=sm_ h38;obtain ⟨w,cB⟩:∃ w,ps[j]? = some w:=⟨ps[j]'ae,si_⟩;refine qY (o9 rfl tt tt rfl rfl t_2 t_0 om_ (i8 cB) rfl) ?_;refine qY a6x ?_;refine qG C3 ?_;refine qG (fun hg=>b2y rfl hg rfl) ?_;refine qG (fun hg=>j5 rfl hg rfl b6h rfl b8p de_) ?_;refine qG (fun hg=>m0 rfl hg rfl b8m rfl rfl) ?_;refine a3Q ?_;refine qC ?_ ?_<;>intro h39
            ·obtain ⟨hw,gJ⟩:w=s1/\e1=0:=sp_ h39;subst gJ;obtain ⟨_,aZ,bq,hpn⟩:=a9a q1 rfl;have hix:ixS ps s1 0=j:=by rw [hjx rfl,a9Z cB,n_1 hw]
             refine qY a99 ?_;refine qD (c5 rfl a3L C6 (M6 hb ⟨2,(j:Int),0,[],[]⟩ _ ⟨rfl,rfl,de_⟩) rfl ?_);rintro ⟨x6,a6,e6,b6⟩ ⟨k6,w6,l6,u6⟩;dsimp only at k6 w6 l6 u6 ⊢;refine qN [rbx T n1 a6 e6 ps b6 3,.dead,.box (tk T n).cells,o5 e6 b6.length] rfl ?_;refine c6 ?_;exact ⟨_,rE1,(by exact ⟨⟨x6,n1,a6,e6,b6⟩,S5 (k:=3) rfl rfl de_ (.val _),⟨by rw [af,hpn,n_8];dsimp only;rw [<- aZ,<- bq,n_0 (by rw [Q5 cZ hi8];decide),hix,n_0 om_];exact a1O k6,do_,w6,fun h0=>by dsimp only;omega,l6,u6⟩⟩)⟩
            ·have cz:e1=0->¬ w=s1:=fun h0 hw=>by simp [hw,h0] at h39
             refine qY o7 ?_;exact ⟨(j+1),om_,⟨om_,fun h0=>by rw [hjx h0,a9Z cB,n_0 (cz h0)]⟩,tu_,rfl⟩
           ·have aE:ps.length<=j:=sm_ h38;refine j6 ?_;refine qD (c5 rfl a9Y a3F (a0b _ _ de_ ⟨rfl,rfl,de_⟩) rfl ?_);rintro ⟨x0,y0⟩ bA;dsimp only at bA ⊢;refine qN [rbx T n1 x0 y0 ps b 1,o5 y0 b.length,.box (tk T n).cells] rfl ?_;refine c6 ?_;exact ⟨_,rE1,(by exact ⟨⟨0,n1,x0,y0,b⟩,a5e bA rfl (.val _),.dead (fun _=>by
             rcases q1.zero with ⟨h0,_⟩ | ⟨_,h0⟩
             ·subst h0;obtain ⟨_,aZ,bq,hpn⟩:=a9a q1 rfl;rw [af,hpn,n_8];dsimp only;rw [<- aZ,<- bq,n_0 (by rw [Q5 cZ hi8];decide),hjx rfl,T5 aE];rfl
             ·rw [af,b2n.1 h0];rfl) bA y1 hb ⟨de_,de_⟩⟩)⟩
          ·have hi8:v8=true:=sp_ h37;obtain ⟨gJ,hq8⟩:=T3 (cZ.symm.trans hi8);subst e1;have bt:=hs8 hi8;subst m8;obtain ⟨_,aZ,bq,hpn⟩:=a9a q1 rfl;rw [hpn,n_8] at af;dsimp only at af;rw [<- aZ,<- bq,n_1 hq8,c2S hq8] at af;refine qk (qY a99 ?_);refine z_8 ?_;refine B9 hCC 4 rfl (α:=RG) (fun a=>[(0,.ptr 0 0),(1,iv d),(6,(iv ((tk T n).at_))),(17,.ptr 3 0)]) (fun a=>[rbx T a.m a.at_ a.e ps a.b (kg5 a.ph),ot1 a.ph a.e a.b.length,.dead,.box [(iv (3)),(iv (0)),(iv (0)),(sv s1),.list (a.l.map icv) (gnn a.l.length) (G9 a.l.length 5)],ot2 a.ph a.e a.b.length,r7 a.l.length]) (fun a=>(a.e=0->(A0 T ps (f+1)).fac d n b=(a4J T ps d a.g a.m a.b a.l).bind (fun a:List Int × Nat × List Ex=>K7 a.2.2 ⟨3,0,0,s1,a.1⟩ a.2.1)/\n < a.m/\a.l.length<=a.m/\8*(T.length - a.m)+7<=a.g)/\(a.e≠0->(A0 T ps (f+1)).fac d n b=none)/\a.m < T.length/\a.b.length<=256/\a.l.length<=T.length/\a.g<=f) (fun a=>if a.e=0 then T.length - a.m+1 else 0) ⟨⟨[],n1+1,a1,0,b,false,f⟩,[0,1,2,3,7,8],⟨fun _=>⟨af,do_,n_5 _,do_⟩,fun h=>absurd rfl h,hm8,hb,n_5 _,n_6 _⟩,⟨rfl,rfl⟩,ut_,uq_⟩ ?_;intro ⟨l,m,a2,e,b2,ph,g⟩ ⟨hI,hN,hm,cq,hlT,hgf⟩;dsimp only at hI hN hm cq hlT hgf ⊢;refine qk (qG C3 ?_);refine b6j (.val (.bool false)) rfl rfl tt rfl rfl (fun hg=>c5 rfl a7F ⟨hg,rfl,tt⟩ (V4 hT hm hW [41] (q:=0) (s:=kg5 ph) a00) rfl ?_) (fun hg=>?_)
           ·
            obtain rfl:e=0:=sp_ hg;obtain ⟨hS,bI,fC,hgm⟩:=hI rfl;rintro ⟨v9,m9⟩ ⟨eN,gq,iw,eO⟩;dsimp only at eN gq iw eO ⊢;refine qo ?_;refine qN [rbx T m9 a2 0 ps b2 (kg5 ph),ot1 ph 0 b2.length,.dead,.box [(iv (3)),(iv (0)),(iv (0)),(sv s1),.list (l.map icv) (gnn l.length) (G9 l.length 5)],ot2 ph 0 b2.length,r7 l.length] O1 ?_;refine b6B ?_;refine qC ?_ ?_<;>intro h40
            ·have iH:v9=false:=sp_ h40;have hg9:=Q5 eN iH;have bt:=iw iH;subst m9;obtain ⟨g,rfl⟩:∃ g',g=g'+1:=⟨g - 1,om_⟩;refine qY a02 ?_;refine qC ?_ ?_<;>intro h41
             ·have hl:l≠[]:=by intro hl;subst hl;simp at h41
              rw [b8H hg9 hl] at hS;simp only [agS] at hS;refine qD (c5 rfl a3K o4 (M7 hT hm hW [44] (q:=0) (s:=kg5 ph) a00) rfl ?_);rintro ⟨n2,a4,e2⟩ ⟨q2,y2⟩;dsimp only at q2 y2 ⊢;refine qN [rbx T n2 a4 e2 ps b2 (kg5 ph),ot1 ph e2 b2.length,.dead,.box [(iv (3)),(iv (0)),(iv (0)),(sv s1),.list (l.map icv) (gnn l.length) (G9 l.length 5)],ot2 ph e2 b2.length,r7 l.length] O1 ?_;refine d2w ?_;refine chf rfl (c9 rfl b5Z) ?_;refine a7h ?_;refine chf rfl (c9 rfl o7) ?_;refine D6 ?_;refine B8 rfl rfl rfl (c5 rfl b5o j1 (hE g om_ (d+1) n2 a4 e2 b2 y2 cq om_ (fun h0=>by have:=J9 q2 h0;omega) _ 0 (kg5 ph) a00) rfl ?_);rintro ⟨x3,n3,a3,e3,b3⟩ ⟨k3,y3,w3,z3,l3,u3⟩;dsimp only at k3 y3 w3 z3 l3 u3 ⊢;have eo:=T7 l x3;have dV:e3=0->m < n3/\n < n3/\(l++[x3]).length<=n3/\8*(T.length - n3)+7<=g:=fun h0=>by have:=z3 h0;have hq:=J9 q2 (k3.alive h0).1;omega
              have bX:(if e3=0 then T.length - n3+1 else 0) < (if (0:Int)=0 then T.length - m+1 else 0):=by
               rw [n_1 rfl]
               split
               ·rename_i h0;have:=dV h0;omega
               ·omega
              have cT:(l++[x3]).length<=T.length/\g<=f:=by omega
              have aW:=b6O hS q2 k3;refine a1c [rbx T n3 a3 e3 ps b3 6,.dead,.dead,.box [(iv (3)),(iv (0)),(iv (0)),(sv s1),.list (l.map icv) (gnn l.length) (G9 l.length 5)],.dead,r7 l.length,o5 e3 b3.length] O1 ?_;refine d2K ?_;refine B8 rfl rfl rfl (F4 rfl tt tt rfl si_ q_2 t_4 t_1 b9g t_8 rfl (.inr rfl) q_7 c7U G7 ((l++[x3]).map icv) (l++[x3]).length si_ si_ ?_);refine ⟨tt,?_⟩;refine d2y ?_;refine a8D ?_;exact ⟨⟨l++[x3],n3,a3,e3,b3,true,g⟩,[0,1,2,3,6,7],⟨bX,fun h0=>(aW.1 h0).2.elim fun j hj=>⟨by rw [hj.2,<- hj.1],(dV h0).2⟩,aW.2,y3,w3,cT⟩,⟨rfl,rfl⟩,ut_,⟨.inr ⟨_,rfl,.box ⟨.old a0P,.old (.val _),.old (.val _),.old (.val _),.old W6,Y7 rfl,.old a2S,tt⟩⟩,.inl rfl,.inl rfl,.inr ⟨_,rfl,.box ⟨.old (.val _),.old (.val _),.old (.val _),.old (.val _),E9.grow (f:=icv) (fun _=>⟨.val _,tt⟩) rfl,tt⟩⟩,.inr ⟨_,rfl,.same rfl U8⟩,.inr ⟨_,rfl,.same rfl G5⟩,tt⟩⟩
             ·have hl:l=[]:=by
               cases l with
               | nil=>rfl
               | cons x l=>simp at h41<;>omega
              subst hl;rw [b45 hg9] at hS;simp only [agS] at hS;have q2:Ok 0 (some m) 0 m:=.some;refine d2w ?_;refine chf rfl (c9 rfl b5Z) ?_;refine a7h ?_;refine chf rfl (c9 rfl o7) ?_;refine D6 ?_;refine B8 rfl rfl rfl (c5 rfl b5o j1 (hE g om_ (d+1) m a2 0 b2 hm cq om_ (fun _=>by omega) _ 0 (kg5 ph) a00) rfl ?_);rintro ⟨x3,n3,a3,e3,b3⟩ ⟨k3,y3,w3,z3,l3,u3⟩;dsimp only at k3 y3 w3 z3 l3 u3 ⊢;have eo:=T7 ([]:List Int) x3;have dV:e3=0->m < n3/\n < n3/\(([]:List Int)++[x3]).length<=n3/\8*(T.length - n3)+7<=g:=fun h0=>by have:=z3 h0;omega
              have bX:(if e3=0 then T.length - n3+1 else 0) < (if (0:Int)=0 then T.length - m+1 else 0):=by
               rw [n_1 rfl]
               split
               ·rename_i h0;have:=dV h0;omega
               ·omega
              have cT:(([]:List Int)++[x3]).length<=T.length/\g<=f:=by omega
              have aW:=b6O hS q2 k3;refine a1c [rbx T n3 a3 e3 ps b3 6,.dead,.dead,.box [(iv (3)),(iv (0)),(iv (0)),(sv s1),.list ([].map icv) (gnn ([]:List Int).length) (G9 ([]:List Int).length 5)],.dead,r7 ([]:List Int).length,o5 e3 b3.length] O1 ?_;refine d2K ?_;refine B8 rfl rfl rfl (F4 rfl tt tt rfl si_ q_2 t_4 t_1 b9g t_8 rfl (.inr rfl) q_7 c7U G7 (([]++[x3]).map icv) ([]++[x3]).length si_ si_ ?_);refine ⟨tt,?_⟩;refine d2y ?_;refine a8D ?_;exact ⟨⟨[]++[x3],n3,a3,e3,b3,true,g⟩,[0,1,2,3,6,7],⟨bX,fun h0=>(aW.1 h0).2.elim fun j hj=>⟨by rw [hj.2,<- hj.1],(dV h0).2⟩,aW.2,y3,w3,cT⟩,⟨rfl,rfl⟩,ut_,⟨.inr ⟨_,rfl,.box ⟨.old a0P,.old (.val _),.old (.val _),.old (.val _),.old W6,Y7 rfl,.old a2S,tt⟩⟩,.inl rfl,.inl rfl,.inr ⟨_,rfl,.box ⟨.old (.val _),.old (.val _),.old (.val _),.old (.val _),E9.grow (f:=icv) (fun _=>⟨.val _,tt⟩) rfl,tt⟩⟩,.inr ⟨_,rfl,.same rfl U8⟩,.inr ⟨_,rfl,.same rfl G5⟩,tt⟩⟩
            ·have iH:v9=true:=sp_ h40;obtain ⟨_,hq9⟩:=T3 (eN.symm.trans iH);have bt:=gq iH;subst m9;rw [c3J hq9,n_8] at hS;refine j6 ?_;refine qD (c5 rfl a3L C6 (M6 cq ⟨3,0,0,s1,l⟩ _ (q:=0) (s:=kg5 ph) a00) rfl ?_);rintro ⟨x6,a6,e6,b6⟩ ⟨k6,w6,l6,u6⟩;dsimp only at k6 w6 l6 u6 ⊢;refine qN [rbx T (m+1) a6 e6 ps b6 6,.dead,.dead,.box [(iv (3)),(iv (0)),(iv (0)),(sv s1),.list (l.map icv) (gnn l.length) (G9 l.length 5)],.dead,r7 l.length,o5 e6 b6.length] O1 ?_;refine c6 ?_;exact ⟨_,rE1,(by exact ⟨⟨x6,m+1,a6,e6,b6⟩,S5 (k:=6) rfl rfl de_ (.val _),⟨by rw [hS];exact a1O k6,do_,w6,fun h0=>by dsimp only;omega,l6,u6⟩⟩)⟩
           ·
            refine qo ?_;refine b6B ?_;refine qC ?_ ?_<;>intro h42
            ·have he:e≠0:=sp_ hg;simp [he] at h42
            ·have he:e≠0:=sp_ hg;refine j6 ?_;refine qD (c5 rfl a3L C6 (M6 cq ⟨3,0,0,s1,l⟩ _ (q:=0) (s:=kg5 ph) a00) rfl ?_);rintro ⟨x6,a6,e6,b6⟩ ⟨k6,w6,l6,u6⟩;dsimp only at k6 w6 l6 u6 ⊢;refine qN [rbx T m a6 e6 ps b6 6,.dead,.dead,.box [(iv (3)),(iv (0)),(iv (0)),(sv s1),.list (l.map icv) (gnn l.length) (G9 l.length 5)],.dead,r7 l.length,o5 e6 b6.length] O1 ?_;refine c6 ?_;exact ⟨_,rE1,(by exact ⟨⟨x6,m,a6,e6,b6⟩,S5 (k:=6) rfl rfl de_ (.val _),.dead (fun _=>hN he) (k6.2 he) hm w6 ⟨l6,u6⟩⟩)⟩
theorem c20 {ps:List Str} (hc:Z3 T ps) (H:∀ g,g < f0->REC T ps g):RFC T ps f0:=fun d n at_ b hn hb hd hf σ q s ao=>by
 obtain ⟨f,rfl⟩:∃ f,f0=f+1:=⟨f0 - 1,om_⟩;exact a1U (c:=fun a:RX=>(iv a.x)) (N:=fun a=>a.n) (A:=fun a=>a.at_) (E:=fun a=>a.e) (B:=fun a=>a.b) (fun _ h=>by simp at h;subst h;exact .val _) (fun _=>.val _) (b9f hc (fun g hg=>H g om_) d n at_ b hn hb hd hf) ao
theorem d4T {ps:List Str} (hc:Z3 T ps):∀ f,REC T ps f/\RSC T ps f/\RTC T ps f/\RFC T ps f:=fun f=>by
 induction f using Nat.strongRecOn with
 | ind f H =>
  exact ⟨c9q hc fun g hg=>⟨(H g hg).1,(H g hg).2.1⟩,d4t hc fun g hg=>(H g hg).2.2.1,d0r hc fun g hg=>(H g hg).2.2.2,c20 hc fun g hg=>(H g hg).1⟩
theorem c2W {l:List De} {p:De->Bool} {y:De} (h:l[i]? = some y) (hd:l.any p=(l.drop i).any p) (hy:p y=false):l.any p=(l.drop (i+1)).any p:=by
 obtain ⟨ae,rfl⟩:=n_3.1 h;rw [hd,R4 ae,List.any_cons,hy,Bool.false_or]
theorem b2Z {l:List De} {p:De->Bool} {y:De} (h:l[i]? = some y) (hy:p y=true):l.any p=true:=List.any_eq_true.2 ⟨y,n_2 h,hy⟩
theorem b89 (f:Src) (k:Int) (u:Str) (hl:f.decls.length<=1000000) (σ:List b9):b8 CC 224 [.agg f.cells,iv k,(sv u)] σ fun r Y=>r = .ret (.val (.bool (f.decls.any fun d=>(d.k == k) && decide (d.name=u))))/\Y=σ:=by
 refine b8.anyw hCC pu_ pu_ (c7 (qO Tryz.func224 ?_)) σ;refine c8n ?_;refine j7 hCC (α:=Nat) (fun i=>[(1,iv k),(2,(sv u)),(10,(.list (f.decls.map De.cv) (gnn f.decls.length) none)),(11,iv f.decls.length),(12,iv i)]) (fun _=>[.box f.cells]) (fun i=>i<=f.decls.length/\(f.decls.any fun d=>(d.k == k) && decide (d.name=u))=((f.decls.drop i).any fun d=>(d.k == k) && decide (d.name=u))) (fun i=>f.decls.length - i) 0 ⟨n_5 _,rfl⟩ tu_ (ah:=[]) rfl w8 uz_ ?_;intro i ⟨hi,hd⟩;refine qk (qC ?_ ?_)<;> intro h1
 ·have ae:i < f.decls.length:=sm_ h1;obtain ⟨w,hb⟩:∃ w,f.decls[i]? = some w:=⟨f.decls[i]'ae,si_⟩;refine qY c74 ?_;refine z_7 ?_;refine qG b69 ?_;refine b7q ?_;refine qC ?_ ?_<;>intro h2
  ·have hw:((w.k == k) && decide (w.name=u))=true:=sp_ h2;refine c6 ?_;exact ⟨_,rE1,_,_,rfl,rfl,j8 (show true=(f.decls.any fun d=>(d.k == k) && decide (d.name=u)) from (b2Z hb hw).symm)⟩
  ·have hw:((w.k == k) && decide (w.name=u))=false:=sp_ h2;exact d1u
 ·have aE:f.decls.length<=i:=sm_ h1;refine V9 ?_;exact ⟨_,rE1,_,_,rfl,rfl,j8 (show false=(f.decls.any fun d=>(d.k == k) && decide (d.name=u)) by rw [hd,T5 aE];rfl)⟩
theorem c1D {n k:Nat} {at_ e:Int} {ps:List Str} {b:List Ex} {c':CV} (h0:τ[0]? = some (rbx T n at_ e ps b k)) (hk:τ[k]? = some (o5 e b.length)) (h2:2<=k) (hc:∀ am,E9 2 am c c'):F8 2 τ (.ret c) (.ret c') (a55 T n at_ e ps b):=by
 obtain ⟨am,a1,a2,_,a4⟩:=S5 h0 hk h2 (Old.val (.int .i64 0));exact ⟨am,a1,a2,.ret (hc am),a4⟩
theorem b8V {f:FuncId} {c:α->CV} {Z:α->List Str} {B:α->List Ex} {n:Nat} {at_ e:Int} {ps:List Str} {b:List Ex} (ap:∀ a∈args,u0 a) (hc:∀ a,u0 (c a))
 (h:b8 CC f (.ptr 0 0::args) (rst T n at_ e ps b) fun r τ=>∃ a,F8 2 τ r (.ret (c a)) (a55 T (N a) (A a) (E a) (Z a) (B a))/\P a) {σ:List b9} {q s:Nat} (ao:RAt σ q s T n at_ e ps b) :
 b8 CC f (.ptr q 0::args) σ fun r τ=>∃ a,r = .ret (c a)/\τ=rS1 σ q s T (N a) (A a) (E a) (Z a) (B a)/\P a:=by
 obtain ⟨h1,h2,h3⟩:=ao;have hq:=(n_3.1 h1).1;have hs:=(n_3.1 h2).1;have h':b8 CC f (.ptr 0 0::args) (rst T n at_ e ps b) fun r τ=>∃ a,r = .ret (c a)/\τ=a55 T (N a) (A a) (E a) (Z a) (B a)/\P a :=
  L6 hCC (h.mono fun r τ ⟨a,k1,k2⟩=>⟨_,_,k1,a,rfl,rfl,k2⟩)
 refine J4 [q,s] hCC rfl (fun i j k g1 g2=>?_) (fun i k ob g1 g2=>?_) (.cons (.ptr rfl) (L3 ap)) h' fun r τ hk=>?_
 ·rcases i with _ | _ | i<;>rcases j with _ | _ | j<;>simp at g1 g2<;>first|rfl|(exfalso;exact h3 (g1.trans g2.symm))|(exfalso;exact h3 (g2.trans g1.symm))
 ·rcases i with _ | _ | i
  ·simp at g1 g2;subst g1 g2;exact ⟨_,h1,a68 rfl⟩
  ·simp at g1 g2;subst g1 g2;exact ⟨_,h2,a38 _ _⟩
  ·simp at g1
 ·obtain ⟨a,rfl,rfl,hp⟩:=hk;refine ⟨si_,.ret (c a),rS1 σ q s T (N a) (A a) (E a) (Z a) (B a),.ret (.pure (hc a)),si_,fun k hk bx=>?_,fun i k x ha hx=>?_,a,rfl,rfl,hp⟩
  ·have n1:q≠k:=fun e=>bx a2u;have n2:s≠k:=fun e=>bx a2u;rw [V3 (sp_ hk)];simp [n1,n2]
  ·rcases ha with ha | ⟨ha,rfl⟩
   ·rcases i with _ | _ | i
    ·simp at ha hx;subst ha hx;refine ⟨rbx T (N a) (A a) (E a) (Z a) (B a) σ.length,?_,a68 (.inr ⟨si_,si_⟩)⟩;rw [V3 (sp_ hq),a2i h3.symm];simp [hq]
    ·simp at ha hx;subst ha hx;refine ⟨.dead,?_,.dead⟩;rw [V3 (sp_ hs)];simp [hs]
    ·simp at ha
   ·rcases i with _ | _ | _ | i
    ·simp at ha
    ·simp at ha
    ·simp at hx;subst hx;refine ⟨o5 (E a) (B a).length,?_,a38 _ _⟩;rw [a0y si_];simp
    ·simp at hx
theorem c9e:F9 [102,117,110,99]=1:=by decide
theorem d0O:F9 [116,101,115,116]=2:=by decide
theorem d0Y:F9 [103,101,110]=3:=by decide
theorem d1t (h1:¬ u=[102,117,110,99]) (h2:¬ u=[116,101,115,116]) (h3:¬ u=[103,101,110]):F9 u=0:=by
 have e:dkL=[([102,117,110,99],1),([116,101,115,116],2),([103,101,110],3)]:=by decide
 rw [F9,e];simp only [glk,n_0 h1,n_0 h2,n_0 h3];rfl
theorem d5T {n:Nat} (h1:isT (tk T n) 1 [102,117,110,99]=false) (h2:isT (tk T n) 1 [116,101,115,116]=false) (h3:isT (tk T n) 1 [103,101,110]=false):(tk T n).k≠1\/F9 (tk T n).t=0:=by
 by_cases hk:(tk T n).k=1
 ·exact .inr (d1t (a4Q h1 hk) (a4Q h2 hk) (a4Q h3 hk))
 ·exact .inl hk
theorem Ok.of {e:Int} (h1:e'=0->e=0/\o=Option.some y) (h2:e'≠0->e=0->o=Option.none):Ok e o e' y :=
 ⟨fun h=>by
  by_cases h':e'=0
  ·exact .inl ⟨(h1 h').2,h'⟩
  ·exact .inr ⟨h2 h' h,h'⟩,fun h h'=>h (h1 h').1⟩
theorem Ok.pre {e:Int} (h:Ok e1 o e' y) (h1:e=0->e1=0) (h2:e≠0->e1≠0):Ok e o e' y:=⟨fun h0=>h.1 (h1 h0),fun h0=>h.2 (h2 h0)⟩
def a5v (T:List Tok) (m:Nat) (l:List Str):Option (List Str × Nat) :=
 if l=[] then (if isT (tk T m) 4 [41]=true then Option.some ([],m+1) else a19 9 T m [])
 else if isT (tk T m) 4 [44]=true then a19 (9 - l.length) T (m+1) l else (pIs T m 4 [41]).bind fun m'=>Option.some (l,m')
theorem c17 {n m:Nat} (h:pIs T n 4 [40]=some m):K5 T n=a5v T m []:=by
 rw [K5,h,n_8,a5v,n_1 rfl]
theorem c2d {m:Nat} {l:List Str} (h:isT (tk T m) 4 [41]=true):a5v T m l=some (l,m+1):=by
 unfold a5v;by_cases hl:l=[]
 ·rw [n_1 hl,n_1 h,hl]
 ·rw [n_0 hl,n_0 (by simp [isT,(P1 h).2]),pIs,n_1 h];rfl
def b3O (T:List Tok) (m:Nat) (l:List Str):Option Nat:=if l=[] then some m else pIs T m 4 [44]
theorem b8E {m:Nat} {l:List Str} (h:isT (tk T m) 4 [41]=false):a5v T m l=(b3O T m l).bind fun m'=>a19 (9 - l.length) T m' l:=by
 unfold a5v b3O;by_cases hl:l=[]
 ·subst hl;rw [n_1 rfl,n_1 rfl,n_0 (by rw [h];decide)];rfl
 ·rw [n_0 hl,n_0 hl];unfold pIs;by_cases h4:isT (tk T m) 4 [44]=true
  ·rw [n_1 h4,n_1 h4];rfl
  ·rw [n_0 h4,n_0 h4,n_0 (by rw [h];decide)];rfl
theorem d5K {m:Nat} {l:List Str} (hl:l.length<=8):a19 (9 - l.length) T m l=(J3 T m).bind fun x=>if l.length=8 then none else if x.1.t∈l then none else a5v T x.2 (l++[x.1.t]):=by
 obtain ⟨f,hf⟩:∃ f,9 - l.length=f+1:=⟨8 - l.length,om_⟩;rw [hf,a19];refine n_9 _ (funext fun x=>?_);by_cases h8:l.length=8
 ·rw [n_1 h8,n_1 h8]
 ·rw [n_0 h8,n_0 h8];by_cases hm:x.1.t∈l
  ·rw [n_1 hm,n_1 hm]
  ·rw [n_0 hm,n_0 hm];unfold a5v;rw [show 9 - (l++[x.1.t]).length=f by simp;omega];exact (n_0 si_).symm
theorem a4R {m:Nat} {l:List Str} {S:Option (List Str × Nat)} {s3:Str} (hl:l.length<=8) (hS:S=(b3O T m l).bind fun m'=>a19 (9 - l.length) T m' l) (q2:Ok 0 (b3O T m l) e2 n2) (q3:Ok e2 ((J3 T n2).map fun x=>(x.1.t,x.2)) e3 (s3,n3))
 (h1:l.length=8\/s3∈l->e4≠0) (h2:¬ l.length=8->¬ s3∈l->e4=e3) (h3:e3≠0->e4≠0):(e4=0->e3=0/\e2=0/\l.length < 8/\S=a5v T n3 (l++[s3]))/\(e4≠0->S=none):=by
 rcases q2.zero with ⟨g2,ho⟩ | ⟨g2,ho⟩
 ·subst g2;rw [ho,n_8,d5K hl] at hS
  rcases q3.zero with ⟨g3,hn⟩ | ⟨g3,hn⟩
  ·obtain ⟨x,hx,hg⟩:=N0.1 hn;injection hg with dU dO
   rw [hx,n_8,dU,dO] at hS;by_cases h8:l.length=8
   ·rw [n_1 h8] at hS;exact ⟨fun h=>absurd h (h1 (.inl h8)),fun _=>hS⟩
   ·rw [n_0 h8] at hS;by_cases hm:s3∈l
    ·rw [n_1 hm] at hS;exact ⟨fun h=>absurd h (h1 (.inr hm)),fun _=>hS⟩
    ·rw [n_0 hm] at hS;exact ⟨fun _=>⟨g3,rfl,om_,hS⟩,fun h=>absurd (by rw [h2 h8 hm,g3]) h⟩
  ·rw [b2n.1 hn] at hS;exact ⟨fun h=>absurd h (h3 g3),fun _=>hS⟩
 ·rw [ho] at hS;exact ⟨fun h=>absurd h (h3 (q3.2 g2)),fun _=>hS⟩
structure RP5 where
 l:List Str
 m:Nat
 at_:Int
 e:Int
structure RD5 where
 d:De
 n:Nat
 at_:Int
 e:Int
 ps:List Str
 b:List Ex
variable {n d:Nat}
def RDP (T:List Tok) (bs:List De) (n:Nat) (a:RD5):Prop:=Ok 0 (a0n T bs n) a.e (a.d,a.n)/\a.n < T.length/\a.b.length<=256/\(a.e=0->n < a.n)
theorem d4B {m:Nat} {l:List Str} (q:Ok 0 (b3O T m l) e2 n2) (h:e2=0):m<=n2:=by
 have h1:=(q.alive h).2;unfold b3O at h1;by_cases hl:l=[]
 ·rw [n_1 hl] at h1;injection h1 with h1
  omega
 ·rw [n_0 hl] at h1;have:=O4 h1;omega
theorem d1i {bs:List De} {m n6 n8:Nat} {kd e8 x7:Int} {s2:Str} {l:List Str} {b7:List Ex} (hu:¬ ((tk T n).k≠1\/F9 (tk T n).t=0)) (hkd:kd=F9 (tk T n).t) (p1:bs.length=64->e1≠0) (p2:bs.length≠64->e1=0) (q2:Ok e1 ((a2P T kd (n+1)).map fun x=>(x.1.t,x.2)) e2 (s2,n2))
 (p3:e2≠0->e3≠0) (p4:e2=0->(bs.any fun d=>(d.k == kd) && decide (d.name=s2))=true->e3≠0) (p5:e2=0->(bs.any fun d=>(d.k == kd) && decide (d.name=s2))=false->e3=0) (q5:Ok e3 (a2G T kd n2) e5 (l,m)) (q6:Ok e5 (pIs T m 4 [61]) e6 n6) (k7:Ok e6 (((A0 T l (8*T.length+6)).ex 1 n6 []).map cx) e7 (x7,n7,b7)) (q8:Ok e7 (pIs T n7 4 [59]) e8 n8) :
 Ok 0 (a0n T bs n) e8 (⟨kd,s2,l,b7⟩,n8):=by
 have d8:e3≠0->e8≠0:=fun h=>q8.2 (k7.2 (q6.2 (q5.2 h)));rw [a0n,n_0 hu,<- hkd];by_cases ir:bs.length=64
 ·rw [n_1 ir];exact .none (d8 (p3 (q2.2 (p1 ir))))
 ·rw [n_0 ir];have gJ:=p2 ir;subst gJ;refine q2.bindM (fun p hp hg=>?_) fun h=>d8 (p3 h);obtain ⟨t,m2⟩:=p;injection hg with dU dO
  dsimp only at dU dO ⊢;subst dU dO;by_cases bw:(bs.any fun d=>(d.k == kd) && decide (d.name=t.t))=true
  ·rw [n_1 bw];by_cases h2:e2=0
   ·exact .none (d8 (p4 h2 bw))
   ·exact .none (d8 (p3 h2))
  ·rw [n_0 bw];refine Ok.pre ?_ (fun h=>p5 h (sp_ bw)) p3;refine q5.bind (q6.bind ?_);refine k7.bindM (fun p hp hg=>?_) q8.2;obtain ⟨i,n7',b7'⟩:=p;injection hg with dU dO
   injection dO with dO hg3
   dsimp only at dO hg3 ⊢;subst dO hg3;exact q8.bind .some
theorem c9G {bs:List De} {m n6 n8:Nat} {kd e8 x7:Int} {s2:Str} {l:List Str} {b7:List Ex} (_:kd=F9 (tk T n).t) (_:bs.length=64->e1≠0) (_:bs.length≠64->e1=0) (q2:Ok e1 ((a2P T kd (n+1)).map fun x=>(x.1.t,x.2)) e2 (s2,n2))
 (p3:e2≠0->e3≠0) (_:e2=0->(bs.any fun d=>(d.k == kd) && decide (d.name=s2))=true->e3≠0) (_:e2=0->(bs.any fun d=>(d.k == kd) && decide (d.name=s2))=false->e3=0) (q5:Ok e3 (a2G T kd n2) e5 (l,m)) (q6:Ok e5 (pIs T m 4 [61]) e6 n6) (k7:Ok e6 (((A0 T l (8*T.length+6)).ex 1 n6 []).map cx) e7 (x7,n7,b7)) (z7:e7=0->n6 < n7) (q8:Ok e7 (pIs T n7 4 [59]) e8 n8) (h0:e8=0) :
 n < n8:=by
 have g8:=J9 q8 h0;have g7:=(k7.alive g8.1).1;have g6:=J9 q6 g7;have g5:=q5.alive g6.1;have h2:e2=0:=Classical.byContradiction fun h=>p3 h g5.1;obtain ⟨p,hp,hg⟩:=N0.1 (q2.alive h2).2;obtain ⟨t,m2⟩:=p;injection hg with _ dO
 dsimp only at dO;subst dO;have:=b7H hp;have:=b6x g5.2;have:=z7 g8.1;omega
theorem c5T {ps:List Str} (hc:Z3 T []) (pk:Str) (im:List Str) (bs:List De) (hbs:bs.length<=64) (n:Nat) (at_:Int) (b:List Ex) (hn:n < T.length):b8 CC 187 [.ptr 0 0,.agg (⟨pk,im,bs⟩:Src).cells] (rst T n at_ 0 ps b) (fun r τ=>∃ a:RD5,F8 2 τ r (.ret (.agg a.d.cells)) (a55 T a.n a.at_ a.e a.ps a.b)/\RDP T bs n a):=by
 have hT:=hc.len;have hW:=hc.w;refine cO Tryz.func187 ?_;refine b3u ?_;refine K8 [rbx T n at_ 0 ps b 1,o5 0 b.length,.dead] rfl ?_;refine b1x ?_;refine cD (p7 rfl a8K rfl j4 ?_);refine a6t ?_;refine cD (p7 rfl a8K rfl j4 ?_);refine z8 ?_;refine a6T ?_;refine d2v ?_;refine cD (j3 rfl tt rfl rfl j2 a2W (.inl rfl) rfl rfl (nb rfl) ?_);refine cY a5D ?_;refine cY c0Q ?_;refine cD (j3 rfl tt rfl rfl j2 b03 (.inl rfl) rfl rfl (nb rfl) ?_);refine z8 ?_;refine K8 [rbx T n at_ 0 [] [] 2,o5 0 b.length,o5 0 ([]:List Ex).length,.box (⟨pk,im,bs⟩:Src).cells,.box (⟨0,[],[],[]⟩:De).cells,.box (⟨0,[],[],[]⟩:De).cells] rfl ?_;refine z_4 ?_;refine ye rfl a6c ⟨tt,tt⟩ (Z4 hT hn (q:=0) (s:=2) ⟨rfl,rfl,de_⟩) rfl ?_;refine cY a3z ?_;refine z_3 ?_;refine M9 (α:=Int) (fun _=>[(0,.ptr 0 0),(3,.ptr 3 0),(4,.ptr 4 0),(5,.ptr 5 0),(6,(iv ((tk T n).at_)))]) (fun kd=>[rbx T (n+1) at_ 0 [] [] 2,o5 0 b.length,o5 0 ([]:List Ex).length,.box (⟨pk,im,bs⟩:Src).cells,.box (⟨0,[],[],[]⟩:De).cells,.box (⟨kd,[],[],[]⟩:De).cells]) (fun kd=>kd=F9 (tk T n).t/\(tk T n).k=1/\(kd=1\/kd=2\/kd=3)/\n+1 < T.length) ?_ ?_
 ·
  refine z_4 ?_;refine de rfl a84 o4 (X7 hT hn hW [102,117,110,99] (q:=0) (s:=2) ⟨rfl,rfl,de_⟩) rfl ?_;rintro ⟨v1,m1⟩ ⟨dC,bq,dA,dy⟩;dsimp only at dC bq dA dy ⊢;refine K0 [rbx T m1 at_ 0 [] [] 2,o5 0 b.length,o5 0 ([]:List Ex).length,.box (⟨pk,im,bs⟩:Src).cells,.box (⟨0,[],[],[]⟩:De).cells,.box (⟨0,[],[],[]⟩:De).cells] rfl ?_;refine z8 ?_;refine cC ?_ ?_<;>intro h1
  ·have eK:v1=true:=sp_ h1;have hq:=(T3 (dC.symm.trans eK)).2;have bt:=bq eK;subst m1;refine C8 ?_;refine c5t ?_;refine z8 ?_;exact ⟨(1:Int),⟨by rw [(P1 hq).2,c9e],(P1 hq).1,de_,dy⟩,tu_,rfl⟩
  ·have eK:v1=false:=sp_ h1;have dU:=Q5 dC eK;have bt:=dA eK;subst m1;refine z_4 ?_;refine de rfl a84 o4 (X7 hT hn hW [116,101,115,116] (q:=0) (s:=2) ⟨rfl,rfl,de_⟩) rfl ?_;rintro ⟨v2,m2⟩ ⟨ci,dK,gk,cp⟩;dsimp only at ci dK gk cp ⊢;refine K0 [rbx T m2 at_ 0 [] [] 2,o5 0 b.length,o5 0 ([]:List Ex).length,.box (⟨pk,im,bs⟩:Src).cells,.box (⟨0,[],[],[]⟩:De).cells,.box (⟨0,[],[],[]⟩:De).cells] rfl ?_;refine z8 ?_;refine cC ?_ ?_<;>intro h2
   ·have cS:v2=true:=sp_ h2;have hq:=(T3 (ci.symm.trans cS)).2;have bt:=dK cS;subst m2;refine C8 ?_;refine c5t ?_;refine z8 ?_;exact ⟨(2:Int),⟨by rw [(P1 hq).2,d0O],(P1 hq).1,de_,cp⟩,tu_,rfl⟩
   ·have cS:v2=false:=sp_ h2;have dO:=Q5 ci cS;have bt:=gk cS;subst m2;refine z_4 ?_;refine de rfl a84 o4 (X7 hT hn hW [103,101,110] (q:=0) (s:=2) ⟨rfl,rfl,de_⟩) rfl ?_;rintro ⟨v3,m3⟩ ⟨hv3,fz,hf3,fR⟩;dsimp only at hv3 fz hf3 fR ⊢;refine K0 [rbx T m3 at_ 0 [] [] 2,o5 0 b.length,o5 0 ([]:List Ex).length,.box (⟨pk,im,bs⟩:Src).cells,.box (⟨0,[],[],[]⟩:De).cells,.box (⟨0,[],[],[]⟩:De).cells] rfl ?_;refine z8 ?_;refine cC ?_ ?_<;>intro h3
    ·have fB:v3=true:=sp_ h3;have hq:=(T3 (hv3.symm.trans fB)).2;have bt:=fz fB;subst m3;refine C8 ?_;refine c5t ?_;refine z8 ?_;exact ⟨(3:Int),⟨by rw [(P1 hq).2,d0Y],(P1 hq).1,de_,fR⟩,tu_,rfl⟩
    ·have fB:v3=false:=sp_ h3;have hg3:=Q5 hv3 fB;have bt:=hf3 fB;subst m3;refine z_4 ?_;refine c21 ?_;rintro ⟨x0,y0⟩ bA;dsimp only at bA ⊢;refine K0 [rbx T n x0 y0 [] [] 2,o5 0 b.length,o5 y0 ([]:List Ex).length,.box (⟨pk,im,bs⟩:Src).cells,.box (⟨0,[],[],[]⟩:De).cells,.box (⟨0,[],[],[]⟩:De).cells] rfl ?_;refine a6t ?_;refine cY (L8 rfl tt rfl b98 a4H rfl (nb rfl)) ?_;refine c5A ?_;refine c6 ?_;exact ⟨_,D5 rfl c39,(by exact ⟨⟨⟨0,[],[],[]⟩,n,x0,y0,[],[]⟩,c1D (k:=2) rfl rfl de_ (fun _=>b75 _ _ _ _ _),⟨by rw [a0n,n_1 (d5T (Q5 dC eK) (Q5 ci cS) (Q5 hv3 fB))];exact .none bA,hn,n_5 _,fun h0=>absurd h0 bA⟩⟩)⟩
 ·rintro kd E1 ⟨hkd,bK,hk3,aZ⟩;have hu1:¬ ((tk T n).k≠1\/F9 (tk T n).t=0):=by rw [<- hkd];omega
  refine M9 (α:=Int × Int) (fun _=>[(0,.ptr 0 0),(3,.ptr 3 0),(4,.ptr 4 0),(5,.ptr 5 0)]) (fun a=>[rbx T (n+1) a.1 a.2 [] [] 2,o5 0 b.length,o5 a.2 ([]:List Ex).length,.box (⟨pk,im,bs⟩:Src).cells,.box (⟨0,[],[],[]⟩:De).cells,.box (⟨kd,[],[],[]⟩:De).cells]) (fun a=>(bs.length=64->a.2≠0)/\(bs.length≠64->a.2=0)) ?_ ?_
  ·
   refine z_0 ?_;refine cY b5h ?_;refine cY b5J ?_;refine cY a3X ?_;refine a7Z ?_;refine cC ?_ ?_<;>intro h4
   ·have ir:bs.length=64:=sm_ h4;refine a3y ?_;refine c21 ?_;rintro ⟨x0,y0⟩ bA;dsimp only at bA ⊢;refine K0 [rbx T (n+1) x0 y0 [] [] 2,o5 0 b.length,o5 y0 ([]:List Ex).length,.box (⟨pk,im,bs⟩:Src).cells,.box (⟨0,[],[],[]⟩:De).cells,.box (⟨kd,[],[],[]⟩:De).cells] rfl ?_;refine z8 ?_;exact ⟨(x0,y0),⟨fun _=>bA,fun h=>absurd ir h⟩,tu_,rfl⟩
   ·have ir:¬ bs.length=64:=sm_ h4;refine C5 ?_;exact ⟨(at_,0),⟨fun h=>absurd h ir,fun _=>rfl⟩,tu_,rfl⟩
  ·rintro ⟨a1,e1⟩ E2 ⟨p1,p2⟩;dsimp only at p1 p2 ⊢;refine z_4 ?_;refine ye rfl a6c ⟨tt,tt⟩ (Z4 hT aZ (q:=0) (s:=2) ⟨rfl,rfl,de_⟩) rfl ?_;refine cY a3z ?_;refine z_3 ?_;refine M9 (α:=Str × Nat × Int × Int) (fun _=>[(0,.ptr 0 0),(3,.ptr 3 0),(4,.ptr 4 0),(5,.ptr 5 0),(6,(iv ((tk T (n+1)).at_)))]) (fun a=>[rbx T a.2.1 a.2.2.1 a.2.2.2 [] [] 2,o5 0 b.length,o5 a.2.2.2 ([]:List Ex).length,.box (⟨pk,im,bs⟩:Src).cells,.box (⟨0,[],[],[]⟩:De).cells,.box (⟨kd,a.1,[],[]⟩:De).cells]) (fun a=>Ok e1 ((a2P T kd (n+1)).map fun x=>(x.1.t,x.2)) a.2.2.2 (a.1,a.2.1)/\a.2.1 < T.length) ?_ ?_
   ·
    refine z_0 ?_;refine b6H ?_;refine a7Z ?_;refine cC ?_ ?_<;>intro h5
    ·have hk:kd=3:=sp_ h5;have hh:∀ m,a2P T kd m=a0o T m:=fun m=>n_1 hk;refine a3y ?_;refine de rfl c0f o4 (a9g hT aZ hW true hc.l (q:=0) (s:=2) ⟨rfl,rfl,de_⟩) rfl ?_;rintro ⟨s2,n2,a2,e2⟩ ⟨q2,y2⟩;dsimp only at q2 y2 ⊢;rw [a3o] at q2;refine d6N ?_;refine d1y ?_;exact ⟨(s2,n2,a2,e2),⟨by rw [hh];exact q2,y2⟩,tu_,rfl⟩
    ·have hk:¬ kd=3:=sp_ h5;have hh:∀ m,a2P T kd m=J3 T m:=fun m=>n_0 hk;refine a3y ?_;refine de rfl b7T ⟨tt,tt⟩ (a6o hT aZ hW (q:=0) (s:=2) ⟨rfl,rfl,de_⟩) rfl ?_;rintro ⟨s2,n2,a2,e2⟩ ⟨q2,y2⟩;dsimp only at q2 y2 ⊢;refine d6N ?_;refine d1y ?_;exact ⟨(s2,n2,a2,e2),⟨by rw [hh];exact q2,y2⟩,tu_,rfl⟩
   ·rintro ⟨s2,n2,a2,e2⟩ E3 ⟨q2,y2⟩;dsimp only at q2 y2 ⊢;refine M9 (α:=Int × Int) (fun _=>[(0,.ptr 0 0),(4,.ptr 4 0),(5,.ptr 5 0)]) (fun a=>[rbx T n2 a.1 a.2 [] [] 2,o5 0 b.length,o5 a.2 ([]:List Ex).length,.box (⟨pk,im,bs⟩:Src).cells,.box (⟨0,[],[],[]⟩:De).cells,.box (⟨kd,s2,[],[]⟩:De).cells]) (fun a=>(e2≠0->a.2≠0)/\(e2=0->(bs.any fun d=>(d.k == kd) && decide (d.name=s2))=true->a.2≠0)/\(e2=0->(bs.any fun d=>(d.k == kd) && decide (d.name=s2))=false->a.2=0)) ?_ ?_
    ·
     refine a8S ?_;refine cY b58 ?_;refine cY (m0 rfl tt rfl b8m rfl rfl) ?_;refine cY Z0 ?_;refine cY A3 ?_;refine cG (fun hg=>L8 rfl tt rfl b4X a2C rfl (nb rfl)) ?_;refine cG b7O ?_;refine cG a34 ?_;refine cG b69 ?_;refine cG a2b ?_;refine cG (fun hg=>c4 rfl Tryz.call224 ⟨hg,hg,hg,tt⟩ (b89 ⟨pk,im,bs⟩ kd s2 (by show bs.length<=1000000;omega) _) rfl) ?_;refine b62 ?_;refine cC ?_ ?_<;>intro h6
     ·have ht:e2=0/\(bs.any fun d=>(d.k == kd) && decide (d.name=s2))=true:=sp_ h6;refine a3y ?_;refine c21 ?_;rintro ⟨x0,y0⟩ bA;dsimp only at bA ⊢;refine K0 [rbx T n2 x0 y0 [] [] 2,o5 0 b.length,o5 y0 ([]:List Ex).length,.box (⟨pk,im,bs⟩:Src).cells,.box (⟨0,[],[],[]⟩:De).cells,.box (⟨kd,s2,[],[]⟩:De).cells] rfl ?_;refine z8 ?_;exact ⟨(x0,y0),⟨fun _=>bA,fun _ _=>bA,fun _ h=>by rw [ht.2] at h;cases h⟩,tu_,rfl⟩
     ·have ht:¬ (e2=0/\(bs.any fun d=>(d.k == kd) && decide (d.name=s2))=true):=fun h=>by simp [h.1,h.2] at h6
      refine C5 ?_;exact ⟨(a2,e2),⟨fun h=>h,fun h0 h=>absurd ⟨h0,h⟩ ht,fun h0 _=>h0⟩,tu_,rfl⟩
    ·rintro ⟨a3,e3⟩ E4 ⟨p3,p4,p5⟩;dsimp only at p3 p4 p5 ⊢;refine a9j hCC 6 rfl (α:=RP5) (fun _=>[(0,.ptr 0 0),(4,.ptr 4 0),(5,.ptr 5 0)]) (fun a=>[rbx T a.m a.at_ a.e [] [] 2,o5 0 b.length,o5 a.e ([]:List Ex).length,.dead,.box (⟨0,[],[],[]⟩:De).cells,.box (⟨kd,s2,a.l,[]⟩:De).cells]) (fun a=>Ok e3 (a2G T kd n2) a.e (a.l,a.m)/\a.m < T.length/\a.l.length<=9) ?_ ?_
     ·
      refine z_0 ?_;refine b6H ?_;refine a7Z ?_;refine cC ?_ ?_<;>intro h7
      ·have hk:kd=1:=sp_ h7;have hp:a2G T kd n2=K5 T n2:=n_1 hk;rw [hp];refine z_4 ?_;refine de rfl a3K o4 (M7 hT y2 hW [40] (q:=0) (s:=2) ⟨rfl,rfl,de_⟩) rfl ?_;rintro ⟨n4,a4,e4⟩ ⟨q4,y4⟩;dsimp only at q4 y4 ⊢;refine K0 [rbx T n4 a4 e4 [] [] 2,o5 0 b.length,o5 e4 ([]:List Ex).length,.box (⟨pk,im,bs⟩:Src).cells,.box (⟨0,[],[],[]⟩:De).cells,.box (⟨kd,s2,[],[]⟩:De).cells] rfl ?_;refine c3D ?_;refine B9 hCC 6 rfl (α:=RP5) (fun _=>[(0,.ptr 0 0),(4,.ptr 4 0),(5,.ptr 5 0)]) (fun a=>[rbx T a.m a.at_ a.e [] [] 2,o5 0 b.length,o5 a.e ([]:List Ex).length,.dead,.box (⟨0,[],[],[]⟩:De).cells,.box [iv kd,(sv s2),.list (a.l.map scv) (gnn a.l.length) (G9 a.l.length 6),.list [] false none],r7 a.l.length]) (fun a=>(a.e=0->e3=0/\K5 T n2=a5v T a.m a.l/\n2 < a.m/\a.l.length<=8)/\(a.e≠0->e3=0->K5 T n2=none)/\a.m < T.length/\a.l.length<=9) (fun a=>if a.e=0 then 10 - a.l.length else 0) ⟨⟨[],n4,a4,e4⟩,[0,1,2,3,4,5,10],⟨fun h0=>⟨(J9 q4 h0).1,c17 (q4.alive h0).2,by have:=(J9 q4 h0).2;dsimp only;omega,n_5 _⟩,fun h0 h3=>by
        subst h3
        rcases q4.zero with ⟨h,_⟩ | ⟨_,h⟩
        ·exact absurd h h0
        ·rw [K5,h];rfl,y4,n_5 _⟩,⟨rfl,rfl⟩,ut_,uq_⟩ ?_
       intro ⟨l,m,a5,e⟩ ⟨hI,hN,hm,hl9⟩;dsimp only at hI hN hm hl9 ⊢;refine D4 ?_;refine a8S ?_;refine cY b58 ?_;refine cY (m0 rfl tt rfl b8m rfl rfl) ?_;refine cY Z0 ?_;refine b1t ?_;refine b6j (.val (.bool false)) rfl rfl tt rfl rfl (fun hg=>c5 rfl a7F ⟨hg,rfl,tt⟩ (V4 hT hm hW [41] (q:=0) (s:=2) ⟨rfl,rfl,de_⟩) rfl ?_) (fun hg=>?_)
       ·
        obtain rfl:e=0:=sp_ hg;obtain ⟨he3,hS,bI,hl8⟩:=hI rfl;rintro ⟨v9,m9⟩ ⟨eN,gq,iw,eO⟩;dsimp only at eN gq iw eO ⊢;refine K0 [rbx T m9 a5 0 [] [] 2,o5 0 b.length,o5 0 ([]:List Ex).length,.dead,.box (⟨0,[],[],[]⟩:De).cells,.box [iv kd,(sv s2),.list (l.map scv) (gnn l.length) (G9 l.length 6),.list [] false none],r7 l.length] rfl ?_;refine cG a4O ?_;refine b62 ?_;refine cC ?_ ?_<;>intro h8
        ·have iH:v9=false:=sp_ h8;have hg9:=Q5 eN iH;have bt:=iw iH;subst m9;rw [b8E hg9] at hS;refine C5 (a1K ?_);refine M9 (α:=Nat × Int × Int) (fun _=>[(0,.ptr 0 0),(4,.ptr 4 0),(5,.ptr 5 0)]) (fun a=>[rbx T a.1 a.2.1 a.2.2 [] [] 2,o5 0 b.length,o5 a.2.2 ([]:List Ex).length,.dead,.box (⟨0,[],[],[]⟩:De).cells,.box [iv kd,(sv s2),.list (l.map scv) (gnn l.length) (G9 l.length 6),.list [] false none],r7 l.length]) (fun a=>Ok 0 (b3O T m l) a.2.2 a.1/\a.1 < T.length) ?_ ?_
         ·
          refine z_0 ?_;refine b51 ?_;refine a7Z ?_;refine cC ?_ ?_<;>intro h9
          ·have hl:l≠[]:=by intro hl;subst hl;simp at h9
           refine a3y ?_;refine de rfl a3K o4 (M7 hT hm hW [44] (q:=0) (s:=2) ⟨rfl,rfl,de_⟩) rfl ?_;rintro ⟨n5,a6,e5⟩ ⟨q5,y5⟩;dsimp only at q5 y5 ⊢;refine K0 [rbx T n5 a6 e5 [] [] 2,o5 0 b.length,o5 e5 ([]:List Ex).length,.dead,.box (⟨0,[],[],[]⟩:De).cells,.box [iv kd,(sv s2),.list (l.map scv) (gnn l.length) (G9 l.length 6),.list [] false none],r7 l.length] rfl ?_;refine z8 ?_;exact ⟨(n5,a6,e5),⟨by rw [b3O,n_0 hl];exact q5,y5⟩,tu_,rfl⟩
          ·have hl:l=[]:=by
            cases l with
            | nil=>rfl
            | cons x l=>simp at h9<;>omega
           refine C5 ?_;exact ⟨(m,a5,0),⟨by rw [b3O,n_1 hl];exact .some,hm⟩,tu_,rfl⟩
         ·rintro ⟨n5,a6,e5⟩ E5 ⟨q5,y5⟩;dsimp only at q5 y5 ⊢;refine z_4 ?_;refine ye rfl a6c ⟨tt,tt⟩ (Z4 hT y5 (q:=0) (s:=2) ⟨rfl,rfl,de_⟩) rfl ?_;refine cY a3z ?_;refine z_3 ?_;refine z_4 ?_;refine de rfl b7T ⟨tt,tt⟩ (a6o hT y5 hW (q:=0) (s:=2) ⟨rfl,rfl,de_⟩) rfl ?_;rintro ⟨s6,n6,a7,e6⟩ ⟨q6,y6⟩;dsimp only at q6 y6 ⊢;have eo:=T7 l s6;refine K0 [rbx T n6 a7 e6 [] [] 2,o5 0 b.length,o5 e6 ([]:List Ex).length,.dead,.box (⟨0,[],[],[]⟩:De).cells,.box [iv kd,(sv s2),.list (l.map scv) (gnn l.length) (G9 l.length 6),.list [] false none],r7 l.length] rfl ?_;refine b2a ?_;refine z_0 ?_;refine b51 ?_;refine a7Z ?_;refine cC ?_ ?_<;>intro aU
          ·have h8:l.length=8:=sm_ aU;refine a3y ?_;refine c21 ?_;rintro ⟨x0,y0⟩ bA;dsimp only at bA ⊢;refine K0 [rbx T n6 x0 y0 [] [] 2,o5 0 b.length,o5 y0 ([]:List Ex).length,.dead,.box (⟨0,[],[],[]⟩:De).cells,.box [iv kd,(sv s2),.list (l.map scv) (gnn l.length) (G9 l.length 6),.list [] false none],r7 l.length] rfl ?_;refine a6B ?_;refine b2Y ?_;refine ye rfl b7k j1 (a6e l (gnn l.length) s6 om_ _) rfl ?_;refine z8 ?_;refine cC ?_ ?_<;>intro ck
           ·refine a3y ?_;refine c21 ?_;rintro ⟨x1,y1⟩ eQ;dsimp only at eQ ⊢;refine d5U ?_;refine C8 ?_;refine b2Y ?_;refine cY d0N ?_;refine cD (F4 rfl tt tt rfl si_ q_2 t_2 t_0 a4b t_3 rfl (.inr rfl) q_7 a4s G7 ((l++[s6]).map scv) (l++[s6]).length si_ si_ ?_);refine cY b28 ?_;refine c5e ?_;exact ⟨⟨l++[s6],n6,x1,y1⟩,[0,1,2,3,4,5,7],⟨by
             dsimp only;rw [n_0 eQ,n_1 rfl];omega,fun h=>absurd h eQ,fun h _=>(a4R hl8 hS q5 q6 (e4:=y1) (fun _=>eQ) (fun h h'=>absurd h8 h) (fun _=>eQ)).2 h,y6,do_⟩,⟨rfl,rfl⟩,ut_,⟨.inr ⟨_,rfl,.same rfl a8o⟩,.inr ⟨_,rfl,.same rfl U8⟩,.inr ⟨_,rfl,.same rfl U8⟩,.inl rfl,.inr ⟨_,rfl,.same rfl (B6 (a3p _))⟩,.inr ⟨_,rfl,.box ⟨.old (.val _),.old (.val _),E9.grow (f:=scv) (fun _=>⟨.val _,tt⟩) rfl,.old (N8 _ [] _),tt⟩⟩,.inr ⟨_,rfl,.same rfl G5⟩,tt⟩⟩
           ·refine C5 (C8 ?_);refine b2Y ?_;refine cY d0N ?_;refine cD (F4 rfl tt tt rfl si_ q_2 t_2 t_0 a4b t_3 rfl (.inr rfl) q_7 a4s G7 ((l++[s6]).map scv) (l++[s6]).length si_ si_ ?_);refine cY b28 ?_;refine c5e ?_;exact ⟨⟨l++[s6],n6,x0,y0⟩,[0,1,2,3,4,5,7],⟨by
             dsimp only;rw [n_0 bA,n_1 rfl];omega,fun h=>absurd h bA,fun h _=>(a4R hl8 hS q5 q6 (e4:=y0) (fun _=>bA) (fun h h'=>absurd h8 h) (fun _=>bA)).2 h,y6,do_⟩,⟨rfl,rfl⟩,ut_,⟨.inr ⟨_,rfl,.same rfl a8o⟩,.inr ⟨_,rfl,.same rfl U8⟩,.inr ⟨_,rfl,.same rfl U8⟩,.inl rfl,.inr ⟨_,rfl,.same rfl (B6 (a3p _))⟩,.inr ⟨_,rfl,.box ⟨.old (.val _),.old (.val _),E9.grow (f:=scv) (fun _=>⟨.val _,tt⟩) rfl,.old (N8 _ [] _),tt⟩⟩,.inr ⟨_,rfl,.same rfl G5⟩,tt⟩⟩
          ·have h8:¬ l.length=8:=sm_ aU;refine b5S ?_;refine z_0 ?_;refine b2Y ?_;refine ye rfl b7k j1 (a6e l (gnn l.length) s6 om_ _) rfl ?_;refine z8 ?_;refine cC ?_ ?_<;>intro cQ
           ·have bw:s6∈l:=sp_ cQ;refine a3y ?_;refine c21 ?_;rintro ⟨x1,y1⟩ eQ;dsimp only at eQ ⊢;refine d5U ?_;refine C8 ?_;refine b2Y ?_;refine cY d0N ?_;refine cD (F4 rfl tt tt rfl si_ q_2 t_2 t_0 a4b t_3 rfl (.inr rfl) q_7 a4s G7 ((l++[s6]).map scv) (l++[s6]).length si_ si_ ?_);refine cY b28 ?_;refine c5e ?_;exact ⟨⟨l++[s6],n6,x1,y1⟩,[0,1,2,3,4,5,7],⟨by
             dsimp only;rw [n_0 eQ,n_1 rfl];omega,fun h=>absurd h eQ,fun h _=>(a4R hl8 hS q5 q6 (e4:=y1) (fun _=>eQ) (fun _ h'=>absurd bw h') (fun _=>eQ)).2 h,y6,do_⟩,⟨rfl,rfl⟩,ut_,⟨.inr ⟨_,rfl,.same rfl a8o⟩,.inr ⟨_,rfl,.same rfl U8⟩,.inr ⟨_,rfl,.same rfl U8⟩,.inl rfl,.inr ⟨_,rfl,.same rfl (B6 (a3p _))⟩,.inr ⟨_,rfl,.box ⟨.old (.val _),.old (.val _),E9.grow (f:=scv) (fun _=>⟨.val _,tt⟩) rfl,.old (N8 _ [] _),tt⟩⟩,.inr ⟨_,rfl,.same rfl G5⟩,tt⟩⟩
           ·have bw:¬ s6∈l:=sp_ cQ;refine C5 (C8 ?_);refine b2Y ?_;refine cY d0N ?_;refine cD (F4 rfl tt tt rfl si_ q_2 t_2 t_0 a4b t_3 rfl (.inr rfl) q_7 a4s G7 ((l++[s6]).map scv) (l++[s6]).length si_ si_ ?_);refine cY b28 ?_;refine c5e ?_;exact ⟨⟨l++[s6],n6,a7,e6⟩,[0,1,2,3,4,5,7],⟨by
             dsimp only;rw [n_1 rfl]
             split<;>omega,fun h=>by obtain ⟨_,g5,g8,hS'⟩:=(a4R hl8 hS q5 q6 (e4:=e6) (fun h=>absurd h (by rintro (h | h)<;>contradiction)) (fun _ _=>rfl) id).1 h;have:=(a9a q6 h).2.1;have:=d4B q5 g5;exact ⟨he3,hS',do_,do_⟩,fun h _=>(a4R hl8 hS q5 q6 (e4:=e6) (fun h=>absurd h (by rintro (h | h)<;>contradiction)) (fun _ _=>rfl) id).2 h,y6,do_⟩,⟨rfl,rfl⟩,ut_,⟨.inr ⟨_,rfl,.same rfl a8o⟩,.inr ⟨_,rfl,.same rfl U8⟩,.inr ⟨_,rfl,.same rfl U8⟩,.inl rfl,.inr ⟨_,rfl,.same rfl (B6 (a3p _))⟩,.inr ⟨_,rfl,.box ⟨.old (.val _),.old (.val _),E9.grow (f:=scv) (fun _=>⟨.val _,tt⟩) rfl,.old (N8 _ [] _),tt⟩⟩,.inr ⟨_,rfl,.same rfl G5⟩,tt⟩⟩
        ·have iH:v9=true:=sp_ h8;obtain ⟨_,hq9⟩:=T3 (eN.symm.trans iH);have bt:=gq iH;subst m9;rw [c2d hq9] at hS;refine j6 ?_;exact ⟨⟨l,m+1,a5,0⟩,[0,1,2,3,4,5],⟨Ok.of (fun _=>⟨he3,hS⟩) fun h=>absurd rfl h,eO,hl9⟩,⟨rfl,rfl⟩,ut_,⟨.inr ⟨_,rfl,.same rfl a8o⟩,.inr ⟨_,rfl,.same rfl U8⟩,.inr ⟨_,rfl,.same rfl U8⟩,.inl rfl,.inr ⟨_,rfl,.same rfl (B6 (a3p _))⟩,.inr ⟨_,rfl,.box ⟨.old (.val _),.old (.val _),a0e (f:=scv) (fun _=>⟨.val _,tt⟩) _,.old (N8 _ [] _),tt⟩⟩,tt⟩⟩
       ·
        refine cG a4O ?_;refine b62 ?_;refine cC ?_ ?_<;>intro dk
        ·have he:e≠0:=sp_ hg;simp [he] at dk
        ·have he:e≠0:=sp_ hg;refine j6 ?_;exact ⟨⟨l,m,a5,e⟩,[0,1,2,3,4,5],⟨Ok.of (fun h=>absurd h he) (fun h h3=>hN h h3),hm,hl9⟩,⟨rfl,rfl⟩,ut_,⟨.inr ⟨_,rfl,.same rfl a8o⟩,.inr ⟨_,rfl,.same rfl U8⟩,.inr ⟨_,rfl,.same rfl U8⟩,.inl rfl,.inr ⟨_,rfl,.same rfl (B6 (a3p _))⟩,.inr ⟨_,rfl,.box ⟨.old (.val _),.old (.val _),a0e (f:=scv) (fun _=>⟨.val _,tt⟩) _,.old (N8 _ [] _),tt⟩⟩,tt⟩⟩
      ·have hk:¬ kd=1:=sp_ h7;have hp:a2G T kd n2=some ([],n2):=n_0 hk;refine C5 ?_;exact ⟨⟨[],n2,a3,e3⟩,[0,1,2,3,4,5],⟨by rw [hp];exact .some,y2,n_5 _⟩,⟨rfl,rfl⟩,ut_,uq_⟩
     ·rintro ⟨l,m,a5,e5⟩ ⟨q5,y5,hl9⟩;dsimp only at q5 y5 hl9 ⊢;have bC:Z3 T l:=⟨hT,hW,hc.l,om_,hc.nn⟩;refine z_4 ?_;refine d4C ?_;refine d2v ?_;refine c5e ?_;refine z_4 ?_;refine de rfl a3K o4 (M7 hT y5 hW [61] (q:=0) (s:=2) ⟨rfl,rfl,de_⟩) rfl ?_;rintro ⟨n6,a6,e6⟩ ⟨q6,y6⟩;dsimp only at q6 y6 ⊢;refine K0 [rbx T n6 a6 e6 l [] 2,o5 0 b.length,o5 e6 ([]:List Ex).length,.dead,.box (⟨0,[],[],[]⟩:De).cells,.box (⟨kd,s2,l,[]⟩:De).cells] rfl ?_;refine a8f ?_;refine de rfl b5o o4 ((d4T bC (8*T.length+6)).1 1 n6 a6 e6 [] y6 (n_5 _) de_ (fun _=>by omega) _ 0 2 ⟨rfl,rfl,de_⟩) rfl ?_;rintro ⟨x7,n7,a7,e7,b7⟩ ⟨k7,y7,w7,z7,l7,u7⟩;dsimp only at k7 y7 w7 z7 l7 u7 ⊢;refine K0 [rbx T n7 a7 e7 l b7 6,o5 0 b.length,.dead,.dead,.box (⟨0,[],[],[]⟩:De).cells,.box (⟨kd,s2,l,[]⟩:De).cells,o5 e7 b7.length] rfl ?_;refine a8f ?_;refine de rfl a3K o4 (M7 hT y7 hW [59] (q:=0) (s:=6) ⟨rfl,rfl,de_⟩) rfl ?_;rintro ⟨n8,a8,e8⟩ ⟨q8,y8⟩;dsimp only at q8 y8 ⊢;refine K0 [rbx T n8 a8 e8 l b7 6,o5 0 b.length,.dead,.dead,.box (⟨0,[],[],[]⟩:De).cells,.box (⟨kd,s2,l,[]⟩:De).cells,o5 e8 b7.length] rfl ?_;refine z8 ?_;refine a8S ?_;refine cY c0Q ?_;refine cY b9U ?_;refine cY d1K ?_;refine cD (j3 rfl tt tt rfl j2 b03 (.inl rfl) rfl rfl (nb rfl) ?_);refine a6t ?_;refine cY (L8 rfl tt rfl b98 a4H rfl (nb rfl)) ?_;refine c5A ?_;refine c6 ?_;exact ⟨_,D5 rfl c39,(by exact ⟨⟨⟨kd,s2,l,b7⟩,n8,a8,e8,l,b7⟩,c1D (k:=6) rfl rfl de_ (fun _=>b75 _ _ _ _ _),⟨d1i hu1 hkd p1 p2 q2 p3 p4 p5 q5 q6 k7 q8,y8,w7,fun h0=>c9G hkd p1 p2 q2 p3 p4 p5 q5 q6 k7 z7 q8 h0⟩⟩)⟩
theorem c9l {ps:List Str} (hc:Z3 T []) (pk:Str) (im:List Str) (bs:List De) (hbs:bs.length<=64) {at_:Int} {b:List Ex} (hn:n < T.length) {s:Nat} (ao:RAt σ q s T n at_ 0 ps b):b8 CC 187 [.ptr q 0,.agg (⟨pk,im,bs⟩:Src).cells] σ fun r τ=>∃ a:RD5,r = .ret (.agg a.d.cells)/\τ=rS1 σ q s T a.n a.at_ a.e a.ps a.b/\RDP T bs n a :=
 b8V (c:=fun a:RD5=>.agg a.d.cells) (N:=fun a=>a.n) (A:=fun a=>a.at_) (E:=fun a=>a.e) (Z:=fun a=>a.ps) (B:=fun a=>a.b) (fun _ h=>by simp at h;subst h;exact o8 (Src.pure _)) (fun a=>o8 a.d.pure) (c5T hc pk im bs hbs n at_ b hn) ao
theorem a9q (s:Str):∀ (n f f' i:Nat),s.length - i < n->i<=s.length->s.length < f+i->s.length < f'+i->a0l f s i=a0l f' s i
 | 0,_,_,_,h,_,_,_=>by omega
 | n+1,f,f',i,h,hi,hf,gN=>by
  obtain ⟨f,rfl⟩:∃ g,f=g+1:=⟨f - 1,om_⟩;obtain ⟨f',rfl⟩:∃ g,f'=g+1:=⟨f' - 1,om_⟩;have h1:=(a1S (s:=s) (a:=i) (ks:=[5]) hi);rw [a0l,a0l];cases hb:s[A2 s i [5]]? with
  | none=>rfl
  | some b =>
   have ae:=(n_3.1 hb).1;simp only;by_cases h6:k8 b.toNat=6
   ·rw [n_1 h6,n_1 h6];have h2:=a94 hb h6;have h3:=a6h (s:=s) (a:=A2 s i [5]) om_;exact a9q s n f f' _ om_ h3 om_ om_
   ·rw [n_0 h6,n_0 h6];by_cases h4:(D3 s (A2 s i [5]) b).2.2≠0
    ·rw [n_1 h4,n_1 h4]
    ·rw [n_0 h4,n_0 h4];obtain ⟨e,he,h5,h7⟩:=a4U hb h4;rw [he,a1Z];rw [a9q s n f f' e om_ h7 om_ om_]
def a5u (s:Str) (i:Nat):Option (List Tok):=a0l (s.length+1 - i) s i
theorem a3k (hi:i<=s.length) (hf:s.length < f+i):a0l f s i=a5u s i:=a9q s (s.length+1 - i) f _ i om_ hi hf om_
theorem c5x (s:Str):a2K s=if 16384 < s.length then none else a5u s 0:=by
 unfold a2K
 split
 ·rfl
 ·exact a3k (n_5 _) om_
theorem c6L (h:i=s.length):a5u s i=some [⟨5,[],0,(i:Nat)⟩]:=by
 subst h;unfold a5u;rw [show s.length+1 - s.length=0+1 by omega,b7P (a7p (n_6 _)).symm (n_6 _)]
theorem b8a {b:UInt8} (h:s[i]? = some b) (hk:k8 b.toNat=5):a5u s i=a5u s (i+1):=by
 have ae:=(n_3.1 h).1;rw [<- a3k (f:=s.length+1) om_ om_,<- a3k (f:=s.length+1) (i:=i+1) om_ om_];have:A2 s i [5]=A2 s (i+1) [5]:=by rw [U3 h,n_1 (by simp [inK,hk])]
 rw [a0l,a0l,this]
theorem c7t {b:UInt8} (h:s[i]? = some b) (hk:k8 b.toNat=6):a5u s i=a5u s (P8 s i):=by
 have ae:=(n_3.1 h).1;have h1:i=A2 s i [5]:=by rw [U3 h,n_0 (by simp [inK,hk])]
 have h3:=a6h (s:=s) (a:=i) om_;rw [<- a3k (f:=s.length+1+1) (i:=i) om_ om_,b5M h1 h hk];exact a3k h3 om_
theorem c8m {b:UInt8} (h:s[i]? = some b) (h5:k8 b.toNat≠5) (h6:k8 b.toNat≠6):a5u s i=if (D3 s i b).2.2≠0 then none else (a5u s (D3 s i b).2.1.toNat).map (({ (D3 s i b).1 with at_:=(i:Nat)}:Tok)::·):=by
 have ae:=(n_3.1 h).1;have h1:i=A2 s i [5]:=by rw [U3 h,n_0 (by simp [inK,h5])]
 rw [<- a3k (f:=s.length+1+1) (i:=i) om_ om_];by_cases h4:(D3 s i b).2.2≠0
 ·rw [b6P h1 h h6 h4,n_1 h4]
 ·obtain ⟨e,he,h7,h8⟩:=a4U h h4;rw [b5H h1 h h6 h4,n_0 h4,he,a1Z];rw [a3k h8 om_]
def SkP (s:Str) (i n:Nat):Prop:=i<=n/\n<=s.length/\a5u s i=a5u s n/\∀ b,s[n]? = some b->k8 b.toNat≠5/\k8 b.toNat≠6
theorem c1W (b:UInt8):(((((b.toNat:Int) == 32) || ((b.toNat:Int) == 9)) || ((b.toNat:Int) == 10)) || ((b.toNat:Int) == 13))=decide (k8 b.toNat=5):=by
 generalize (b.toNat:Int)=c;by_cases h:c=9\/c=10\/c=13\/c=32
 ·unfold k8;rw [n_0 om_,n_0 om_,n_0 om_,n_0 om_,n_1 h]
  rcases h with h | h | h | h<;>subst h<;>rfl
 ·have hk:k8 c≠5:=by
   unfold k8
   repeat' split
   all_goals omega
  rw [a1o hk];simp;omega
theorem c5R (b:UInt8):((b.toNat:Int) == 35)=decide (k8 b.toNat=6):=by
 generalize (b.toNat:Int)=c;by_cases h:c=35
 ·subst h;rfl
 ·have hk:k8 c≠6:=by
   unfold k8
   repeat' split
   all_goals omega
  rw [a1o hk];simpa using h
theorem c6g {b:UInt8} (h:s[a]? = some b) (hb:b≠10):P8 s a=P8 s (a+1):=by
 obtain ⟨ae,rfl⟩:=n_3.1 h;unfold P8;rw [R4 ae,b6C,n_1 (sp_ hb),C4];omega
theorem c5i {b:UInt8} (h:s[a]? = some b) (hb:b=10):P8 s a=a:=by
 obtain ⟨ae,rfl⟩:=n_3.1 h;unfold P8;rw [R4 ae,b6C,n_0 (sp_ hb)];rfl
theorem c2y (h:s.length<=a):P8 s a=a:=by
 unfold P8;rw [T5 h];rfl
theorem d2Z {b:UInt8}:((b.toNat:Int)=10)↔b=10:=by
 constructor
 ·intro h;have:b.toNat=(10:UInt8).toNat:=by have e:(10:UInt8).toNat=10:=rfl;omega
  exact b1N.1 this
 ·rintro rfl;rfl
theorem c4m (s:Str) (hs:s.length<=1000000000) (i:Nat) (hi:i<=s.length):b8 CC 227 [(sv s),iv i] [] fun r τ=>∃ n:Nat,r = .ret (iv n)/\τ=[]/\SkP s i n:=by
 refine qO Tryz.func227 ?_;refine j7 hCC (fun n:Nat=>[(0,(sv s)),(1,iv n)]) (fun _=>[]) (fun n=>i<=n/\n<=s.length/\a5u s i=a5u s n) (fun n=>s.length - n) i ⟨n_6 _,hi,rfl⟩ tu_ (ah:=[]) rfl w8 uz_ ?_;intro n ⟨bw,hn,hr⟩;refine a5R ?_;refine qC ?_ ?_<;>intro h1
 ·have ae:n < s.length:=sm_ h1;obtain ⟨b,hb⟩:∃ b,s[n]? = some b:=⟨s[n]'ae,si_⟩;refine qY b6b ?_;refine a2j ?_;refine qG d5h ?_;refine a3g ?_;refine a2j ?_;refine qG d5h ?_;refine a3g ?_;refine a2j ?_;refine qG d5h ?_;refine a3g ?_;refine qC ?_ ?_<;>intro h2
  ·have hk:k8 b.toNat=5:=by rw [c1W] at h2;simpa using h2
   refine qY o7 ?_;exact ⟨(n+1),_,⟨om_,om_,om_,by rw [hr,b8a hb hk]⟩,tu_,rfl⟩
  ·have hk5:k8 b.toNat≠5:=by rw [c1W] at h2;simpa using h2
   refine qY b6b ?_;refine qC ?_ ?_<;>intro h3
   ·have hk6:k8 b.toNat=6:=by rw [c5R] at h3;simpa using h3
    have aJ:=a94 hb hk6;have cT:=a6h (s:=s) (a:=n) om_;refine j7 hCC (fun m:Nat=>[(0,(sv s)),(1,iv m)]) (fun _=>[]) (fun m=>n<=m/\m<=s.length/\P8 s n=P8 s m) (fun m=>s.length - m) n ⟨n_6 _,hn,rfl⟩ tu_ (ah:=[]) rfl w8 uz_ ?_;intro m ⟨bI,hm,bm⟩;obtain ⟨c,hc⟩:∃ c:UInt8,m < s.length->s[m]? = some c:=by
     by_cases fC:m < s.length
     ·exact ⟨s[m],fun _=>by simp [fC]⟩
     ·exact ⟨0,fun h=>absurd h fC⟩
    refine a5R ?_;refine b22 ?_;refine qC ?_ ?_<;>intro h4
    ·have gE:m < s.length/\¬ (c.toNat:Int)=10:=sp_ h4;have hcm:=hc gE.1;have hc10:c≠10:=fun e=>gE.2 (d2Z.2 e);refine qY o7 ?_;exact ⟨(m+1),_,⟨om_,om_,om_,by rw [bm,c6g hcm hc10]⟩,tu_,rfl⟩
    ·have bX:P8 s n=m:=by
      rw [bm];by_cases fC:m < s.length
      ·have gE:(c.toNat:Int)=10:=by
        have:m < s.length->(c.toNat:Int)=10:=sp_ h4;exact this fC
       exact c5i (hc fC) (d2Z.1 gE)
      ·exact c2y om_
     refine j6 ?_;exact ⟨m,_,⟨om_,om_,om_,by rw [hr,c7t hb hk6,bX]⟩,tu_,rfl⟩
   ·have hk6:k8 b.toNat≠6:=by rw [c5R] at h3;simpa using h3
    refine c6 ?_;exact ⟨_,rE1,⟨n,rfl,rfl,bw,hn,hr,fun b' hb'=>by rw [hb] at hb';injection hb' with hb';subst hb';exact ⟨hk5,hk6⟩⟩⟩
 ·have aE:n=s.length:=sm_ h1;refine V9 ?_;exact ⟨_,rE1,⟨n,rfl,rfl,bw,hn,hr,fun b hb=>by have:=(n_3.1 hb).1;omega⟩⟩
theorem c0W (s:Str) (hs:s.length<=1000000000) (i:Nat) (hi:i<=s.length) (σ:List b9):b8 CC 227 [(sv s),iv i] σ fun r τ=>∃ n:Nat,r = .ret (iv n)/\τ=σ/\SkP s i n :=
 d1M (c:=fun n:Nat=>(iv n)) hCC (fun a h=>by simp at h;rcases h with rfl | rfl<;>exact .val _) (fun _=>.val _) ((c4m s hs i hi).mono fun r τ ⟨n,h1,h2,h3⟩=>⟨n,by rw [h1];exact c9J (.old (.val _)),h3⟩) σ
theorem a9I {e:Nat} {c:UInt8} (h:s[e]? = some c) (hae:a<=e):sub s a (e+1)=sub s a e++[c]:=by
 obtain ⟨ae,rfl⟩:=n_3.1 h;unfold sub;rw [<- b2J ae,List.drop_append_of_le_length a4a]
theorem sub_self:sub s a a=[]:=by unfold sub;exact T5 a4a
theorem c4Y (l:Str) (c:UInt8):a3N (l++[c])=min (10*a3N l+((c.toNat:Int) - 48)) 9007199254740993:=by
 unfold a3N;rw [List.foldl_append];rfl
theorem b3d {e:Nat} {ks:List Int} (h:∀ c,s[e]? = some c->inK ks c=false):A2 s e ks=e:=by
 cases hc:s[e]? with
 | none=>exact a7p (sp_ hc)
 | some c=>rw [U3 hc,n_0 (by rw [h c hc];simp)]
theorem c9B:∀ x:Fin 256,(k8 (x.val:Int)=8)=(UInt8.ofNat x.val∈a3H):=by decide
theorem b7I (b:UInt8):k8 b.toNat=8↔b∈a3H:=by
 have h:=c9B ⟨b.toNat,b.toNat_lt⟩;simp only at h;rw [h];simp
theorem c0c:preB [61,61] (s.drop a)=true↔s[a]? = some 61/\s[a+1]? = some 61:=by
 unfold preB;rw [b7y];constructor
 ·rintro ⟨t,ht⟩;have h0:(s.drop a)[0]? = some 61:=by rw [<- ht];rfl
  have h1:(s.drop a)[1]? = some 61:=by rw [<- ht];rfl
  rw [a5s] at h0 h1;exact ⟨h0,h1⟩
 ·rintro ⟨h0,h1⟩;obtain ⟨l0,e0⟩:=n_3.1 h0;obtain ⟨l1,e1⟩:=n_3.1 h1;refine ⟨s.drop (a+2),?_⟩;rw [R4 l0,R4 l1,e0,e1];rfl
theorem d0q (h0:s[a]? = some 61) (h1:s[a+1]? = some 61):sub s a (a+2)=[61,61]:=by
 rw [show a+2=(a+1)+1 from rfl,a9I h1 om_,a9I h0 (n_6 _),sub_self];rfl
def b0l (s:Str) (a:Nat) (b:UInt8):Tok:=if (D3 s a b).2.2=0 then { (D3 s a b).1 with at_:=(a:Nat)} else ⟨0,[],0,0⟩
theorem c7l {b:UInt8} (hn:n < 256):((b.toNat:Int)=(n:Int))↔b=UInt8.ofNat n:=by
 constructor
 ·intro h;have h2:b.toNat=(UInt8.ofNat n).toNat:=by rw [UInt8.toNat_ofNat',b8z (sp_ hn)];omega
  exact b1N.1 h2
 ·rintro rfl;rw [UInt8.toNat_ofNat',b8z (sp_ hn)]
theorem c29 (s:Str) (hs:s.length<=1000000000) (a:Nat) (b:UInt8) (hb:s[a]? = some b) (ha:a < s.length):b8 CC 228 [(sv s),iv a] [] fun r τ=>∃ _:Unit,a0T 0 τ r (.ret (.tup [.agg (b0l s a b).cells,(iv ((D3 s a b).2.1)),(iv ((D3 s a b).2.2))]))/\True:=by
 refine qO Tryz.func228 ?_;refine qD (p7 rfl a2g rfl j4 ?_);refine qY b6b ?_;refine qY (c4 rfl c81 ⟨tt,tt⟩ (a32 b _) rfl) ?_;refine qC ?_ ?_<;>intro h1
 ·have hk:k8 b.toNat=1:=sp_ h1;refine j7 hCC (fun e:Nat=>[(0,(sv s)),(1,iv a),(4,.ptr 0 0),(5,iv e)]) (fun _=>[.box (Tok.cells ⟨0,[],0,0⟩)]) (fun e=>a<=e/\e<=s.length/\A2 s a [1,2,3]=A2 s e [1,2,3]) (fun e=>s.length - e) a ⟨n_6 _,om_,rfl⟩ tu_ (ah:=[]) rfl w8 uz_ ?_;intro e ⟨hae,fy,hr⟩;obtain ⟨c,hc⟩:∃ c:UInt8,e < s.length->s[e]? = some c:=by
   by_cases aJ:e < s.length
   ·exact ⟨s[e],fun _=>by simp [aJ]⟩
   ·exact ⟨0,fun h=>absurd h aJ⟩
  refine a5R ?_;refine c4u ?_;refine qG (fun hg=>c4 rfl c5P ⟨hg,tt⟩ (a56 c _) rfl) ?_;refine qY M8 ?_;refine qC ?_ ?_<;>intro h2
  ·have dw:e < s.length/\inK [1,2,3] c=true:=sp_ h2;have hce:=hc dw.1;refine qY o7 ?_;exact ⟨(e+1),_,⟨om_,om_,om_,by rw [hr,U3 hce,n_1 dw.2]⟩,tu_,rfl⟩
  ·have hse:A2 s a [1,2,3]=e:=by
    rw [hr];refine b3d fun c' bC=>?_;have aJ:=(n_3.1 bC).1;rw [hc aJ] at bC;injection bC with bC
    subst bC;have h3:e < s.length->inK [1,2,3] c=false:=sp_ h2;exact h3 aJ
   refine j6 ?_;refine qY a76 ?_;refine qC ?_ ?_<;>intro h3
   ·have hx:D3 s a b=(⟨0,[],0,0⟩,0,2):=by
     unfold D3;rw [n_1 hk,hse,n_1 (sm_ h3)]
    exact d0z
   ·have hx:D3 s a b=(⟨1,sub s a e,0,0⟩,(e:Int),0):=by
     unfold D3;rw [n_1 hk,hse,n_0 (sm_ h3)]
    refine qY (J7 (a:=a) (h:=e) rfl tt rfl t_5 a3v a3v a3I a3I) ?_;refine qY c9w ?_;exact c7j
 ·have bK:¬ k8 b.toNat=1:=sp_ h1;refine a9t ?_;refine qC ?_ ?_<;>intro h4
  ·have bZ:k8 b.toNat=2:=by rw [a4c];simp at h4;omega
   refine j7 hCC (fun x:Nat × Int=>[(0,(sv s)),(1,iv a),(4,.ptr 0 0),(5,iv x.1),(8,iv x.2)]) (fun _=>[.box (Tok.cells ⟨0,[],0,0⟩)]) (fun x=>a<=x.1/\x.1<=s.length/\A2 s a [2]=A2 s x.1 [2]/\0<=x.2/\x.2<=90071992547409930/\min x.2 9007199254740993=a3N (sub s a x.1)) (fun x=>s.length - x.1) (a,0) ⟨n_6 _,do_,rfl,do_,do_,by rw [sub_self];rfl⟩ tu_ (ah:=[]) rfl w8 uz_ ?_;intro ⟨e,n⟩ ⟨hae,fy,hr,dM,aZ,bI⟩;dsimp only at hae fy hr dM aZ bI ⊢;obtain ⟨c,hc⟩:∃ c:UInt8,e < s.length->s[e]? = some c:=by
    by_cases aJ:e < s.length
    ·exact ⟨s[e],fun _=>by simp [aJ]⟩
    ·exact ⟨0,fun h=>absurd h aJ⟩
   refine qs 1 (qY O8 ?_);refine b22 ?_;refine b22 ?_;refine qC ?_ ?_<;>intro h5
   ·have h5':e < s.length/\48<=c.toNat/\c.toNat<=57:=by
     simp at h5;omega
    have hce:=hc h5'.1;have hk2c:k8 c.toNat=2:=a4c.2 h5'.2;have cw:=c4Y (sub s a e) c;rw [<- a9I hce hae] at cw;refine M9 (α:=Int) (fun n'=>[(0,(sv s)),(1,iv a),(4,.ptr 0 0),(5,iv e),(8,iv n')]) (fun _=>[.box (Tok.cells ⟨0,[],0,0⟩)]) (fun n'=>0<=n'/\n'<=90071992547409930/\min n' 9007199254740993=a3N (sub s a (e+1))) ?_ ?_
    ·
     refine qk (qC ?_ ?_)<;> intro h6
     ·have cb:n<=9007199254740992:=sp_ h6;refine qY (b5O rfl tt rfl rfl rfl om_ om_) ?_;refine qY (L5 rfl tt tt rfl rfl t_5 om_ (by rw [a1Z];exact hce)) ?_;refine qY Z0 ?_;refine qY (a5N rfl tt rfl b1n c4t (show IntKind.i64.wrap (IntKind.u8.wrap ((c.toNat:Int) - 48))=(c.toNat:Int) - 48 by rw [wr8 om_ om_,a83 om_ om_])) ?_;refine qY a3E ?_;exact ⟨_,(by exact ⟨om_,om_,by rw [cw,<- bI];omega⟩),⟨⟨tt,rfl⟩,⟨tt,rfl⟩,⟨tt,rfl⟩,⟨tt,rfl⟩,⟨tt,rfl⟩,tt⟩,rfl⟩
     ·have cb:9007199254740992 < n:=sp_ h6;exact ⟨n,⟨dM,aZ,by rw [cw,<- bI];omega⟩,tu_,rfl⟩
    ·intro n' E' ⟨hn0',hn1',hnm'⟩;refine a8U ?_;exact ⟨(e+1,n'),_,⟨do_,do_,do_,by dsimp only;rw [hr,U3 hce,n_1 (by simp [inK,hk2c])],hn0',hn1',hnm'⟩,tu_,rfl⟩
   ·have hse:A2 s a [2]=e:=by
     rw [hr];refine b3d fun c' bC=>?_;have aJ:=(n_3.1 bC).1;rw [hc aJ] at bC;injection bC with bC
     subst bC;have hnk:¬ k8 c.toNat=2:=fun hk=>by
      have:=a4c.1 hk;simp at h5;omega
     simp [inK,hnk]
    refine j6 ?_;refine qC ?_ ?_<;>intro h7
    ·have hx:D3 s a b=(⟨0,[],0,0⟩,0,3):=by
      unfold D3;rw [n_0 bK,n_1 bZ,hse,n_1 (by rw [<- bI];simp at h7;omega)]
     exact d0z
    ·have hx:D3 s a b=(⟨2,[],n,0⟩,(e:Int),0):=by
      unfold D3;have fq:a3N (sub s a e)=n:=by rw [<- bI];simp at h7;omega
      rw [n_0 bK,n_1 bZ,hse,fq,n_0 (sm_ h7)]
     refine qY c9w ?_;exact c7j
  ·have bZ:¬ k8 b.toNat=2:=by rw [a4c];simp at h4;omega
   refine qC ?_ ?_<;>intro h8
   ·have hb34:b=34:=by
     have:(b.toNat:Int)=((34:Nat):Int):=sp_ h8;exact (c7l (n:=34) om_).1 this
    have fk:k8 b.toNat=7:=by rw [hb34];rfl
    refine qY o7 ?_;refine j7 hCC (fun e:Nat=>[(0,(sv s)),(1,iv a),(4,.ptr 0 0),(5,iv e)]) (fun _=>[.box (Tok.cells ⟨0,[],0,0⟩)]) (fun e=>a+1<=e/\e<=s.length/\a24 (s.drop (a+1))=(a24 (s.drop e)).map (· + (e - (a+1)))) (fun e=>s.length - e) (a+1) ⟨n_6 _,om_,si_⟩ tu_ (ah:=[]) rfl w8 uz_ ?_;intro e ⟨hae,fy,hr⟩;obtain ⟨c,hc⟩:∃ c:UInt8,e < s.length->s[e]? = some c:=by
     by_cases aJ:e < s.length
     ·exact ⟨s[e],fun _=>by simp [aJ]⟩
     ·exact ⟨0,fun h=>absurd h aJ⟩
    refine a5R ?_;refine b22 ?_;refine b22 ?_;refine b22 ?_;refine qC ?_ ?_<;>intro h9
    ·have h9':e < s.length/\32<=c.toNat/\c.toNat<=126/\¬ c.toNat=34:=by
      simp at h9;omega
     have hce:=hc h9'.1;refine qY o7 ?_;exact ⟨(e+1),_,⟨om_,om_,om_,by
      rw [hr,a2N hce,n_1 ⟨h9'.2.1,h9'.2.2.1⟩,n_0 h9'.2.2.2,Option.map_map]
      congr 1
      funext x
      simp only [Function.comp];omega⟩,tu_,rfl⟩
    ·refine j6 ?_;refine qY O8 ?_;refine c4u ?_;refine a3g ?_;refine qC ?_ ?_<;>intro aU
     ·have hx:D3 s a b=(⟨0,[],0,0⟩,0,9):=by
       have hq:a24 (s.drop (a+1))=none:=by
        rw [hr];by_cases aJ:e < s.length
        ·rw [a2N (hc aJ)];have h9':¬ (e < s.length/\32<=c.toNat/\c.toNat<=126/\¬ c.toNat=34):=by
          simp at h9;omega
         have h10':¬ c.toNat=34:=by
          simp at aU;omega
         rw [n_0 om_];rfl
        ·rw [b2z om_];rfl
       unfold D3;rw [n_0 bK,n_0 bZ,n_1 fk,hq]
      exact d0z
     ·have h10':e < s.length/\c.toNat=34:=by
       simp at aU;omega
      have hx:D3 s a b=(⟨3,sub s (a+1) e,0,0⟩,(e+1:Int),0):=by
       have hq:a24 (s.drop (a+1))=some (e - (a+1)):=by
        rw [hr,a2N (hc h10'.1),n_1 om_,n_1 h10'.2];simp
       unfold D3;rw [n_0 bK,n_0 bZ,n_1 fk,hq];have e1:a+1+(e - (a+1))=e:=by omega
       refine Prod.ext ?_ (Prod.ext ?_ rfl)
       ·simp only [e1]
       ·show ((a:Int)+1+((e - (a+1):Nat):Int)+1)=(e:Int)+1;omega
      refine qY o7 ?_;refine qY (J7 (a:=(a+1)) (h:=e) rfl tt rfl t_5 a3v a3v a3I a3I) ?_;refine qY c9w ?_;refine qY o7 ?_;exact c7j
   ·have fk:¬ k8 b.toNat=7:=by
     intro hk;unfold k8 at hk
     repeat' split at hk
     all_goals first|omega|(simp at h8;omega)
    obtain ⟨c1,cH⟩:∃ c:UInt8,a+1 < s.length->s[a+1]? = some c:=by
     by_cases aJ:a+1 < s.length
     ·exact ⟨s[a+1],fun _=>by simp [aJ]⟩
     ·exact ⟨0,fun h=>absurd h aJ⟩
    refine qY b6b ?_;refine qG C3 ?_;refine qG d5P ?_;refine a6p ?_;refine qG a75 ?_;refine qY M8 ?_;refine a2j ?_;refine qG d5P ?_;refine qG (fun hg=>L5 rfl hg hg rfl rfl t_5 b0Z (by rw [show ((a:Int)+1).toNat=a+1 by omega];exact cH (sm_ hg))) ?_;refine a3Q ?_;refine qC ?_ ?_<;>intro ck
    ·have h11':b=61/\a+1 < s.length/\c1=61:=by
      simp at ck;exact ⟨(c7l (n:=61) om_).1 om_,om_,(c7l (n:=61) om_).1 om_⟩
     have cq:s[a]? = some 61:=by rw [hb,h11'.1]
     have db:s[a+1]? = some 61:=by rw [cH h11'.2.1,h11'.2.2]
     have hx:D3 s a b=(⟨4,[61,61],0,0⟩,(a+2:Int),0):=by
      have hk8:k8 b.toNat=8:=by rw [h11'.1];rfl
      unfold D3;rw [n_0 bK,n_0 bZ,n_0 fk,n_1 hk8,n_1 (c0c.2 ⟨cq,db⟩),d0q cq db]
     refine qY (A7 #[(0,1),(1,1),(2,1),(3,1)] rfl ⟨rfl,rfl,tt,tt⟩ a7j a2g rfl ⟨_,rfl⟩ (fun w=>by kernel_rfl) rfl rfl) ?_;refine qY o7 ?_;exact c7j
    ·have bW:¬ preB [61,61] (s.drop a)=true:=fun hp=>by
      obtain ⟨p1,p2⟩:=c0c.1 hp;have aJ:=(n_3.1 p2).1;rw [hb] at p1;rw [cH aJ] at p2;injection p1 with p1
      injection p2 with p2
      subst p1 p2;simp at ck;omega
     refine c7q a3H rfl rfl rfl rfl rfl rfl rfl rfl ⟨rfl,rfl,rfl,rfl,rfl,rfl,rfl,rfl,rfl,rfl,rfl,tt⟩ t_7 t_9 a3J b1n rfl rfl rfl rfl rfl rfl rfl ?_;refine qo (qY a8k ?_);refine j7 hCC (fun i:Nat=>[(0,(sv s)),(1,iv a),(4,.ptr 0 0),(156,(.list (a3H.map bcv) true none)),(157,iv a3H.length),(158,iv i)]) (fun _=>[.box (Tok.cells ⟨0,[],0,0⟩)]) (fun i=>i<=a3H.length/\∀ x∈a3H.take i,x≠b) (fun i=>a3H.length - i) 0 ⟨n_5 _,fun x hx=>by simp at hx⟩ tu_ (ah:=[]) rfl w8 uz_ ?_;intro i ⟨hi,hni⟩;have hSL:a3H.length=11:=rfl;refine qk (qC ?_ ?_)<;> intro cQ
     ·have hli:i < a3H.length:=sm_ cQ;obtain ⟨y,hy,eM⟩:=a2e hli;refine qY (o9 rfl tt tt rfl rfl t_7 t_9 om_ (i8 hy) rfl) ?_;refine qY b6b ?_;refine qC ?_ ?_<;>intro dk
      ·have hby:b=y:=by
        have:(b.toNat:Int)=(y.toNat:Int):=sp_ dk;exact b1N.1 om_
       have hx:D3 s a b=(⟨4,sub s a (a+1),0,0⟩,(a+1:Int),0):=by
        unfold D3;rw [n_0 bK,n_0 bZ,n_0 fk,n_1 ((b7I b).2 (hby ▸ eM)),n_0 bW]
       refine qY o7 ?_;refine qY (J7 (a:=a) (h:=(a+1)) rfl tt rfl t_5 a3v a3v a3I a3I) ?_;refine qY c9w ?_;refine qY o7 ?_;exact c7j
      ·have hby:¬ b=y:=fun e=>by
        rw [e] at dk;simp at dk
       refine qY o7 ?_;exact ⟨(i+1),_,⟨om_,om_,fun x hx=>by
        rw [a3P,hy] at hx
        rcases Y1.1 hx with hx | hx
        ·exact hni x hx
        ·simp at hx;subst hx;exact fun e=>hby e.symm⟩,tu_,rfl⟩
     ·have hie:i=a3H.length:=sm_ cQ;have hx:D3 s a b=(⟨0,[],0,0⟩,0,9):=by
       have hk8:¬ k8 b.toNat=8:=fun hk=>by
        have hm:=(b7I b).1 hk;rw [hie,W1 (n_6 _)] at hni;exact hni b hm rfl
       unfold D3;rw [n_0 bK,n_0 bZ,n_0 fk,n_0 hk8]
      refine j6 ?_;exact d0z
theorem c6e (s:Str) (hs:s.length<=1000000000) (a:Nat) (b:UInt8) (hb:s[a]? = some b) (ha:a < s.length) (σ:List b9):b8 CC 228 [(sv s),iv a] σ fun r τ=>r = .ret (.tup [.agg (b0l s a b).cells,(iv ((D3 s a b).2.1)),(iv ((D3 s a b).2.2))])/\τ=σ :=
 (G4 (res:=fun _:Unit=>.ret (.tup [.agg (b0l s a b).cells,(iv ((D3 s a b).2.1)),(iv ((D3 s a b).2.2))])) (P:=fun _=>True) hCC (fun c h=>by simp at h;rcases h with rfl | rfl<;>exact .val _) (c29 s hs a b hb ha) (fun _ _=>C0 (cs:=[_,_,_]) ⟨o8 (cs:=[_,_,_,_]) ⟨.val _,.val _,.val _,.val _,tt⟩,.val _,.val _,tt⟩) σ).mono fun r τ ⟨_,h1,h2,_⟩=>⟨h1,h2⟩
theorem c9P {b:UInt8} (h:(D3 s a b).2.2=0):b0l s a b={ (D3 s a b).1 with at_:=(a:Nat)}:=by rw [b0l,n_1 h]
theorem b80 (s:Str) (hs:s.length<=1000000000):b8 CC 180 [(sv s)] [] fun r τ=>∃ x:c3W,a0T 0 τ r (.ret (c3Q x))/\c9h s x:=by
 refine qO Tryz.func180 ?_;refine qY O8 ?_;refine qC ?_ ?_<;>intro h1
 ·have aj:16384 < s.length:=sm_ h1;have hS:a2K s=none:=by rw [c5x,n_1 aj]
  refine c6 ?_;exact ⟨_,p8 (rs:=[.tmp 2,.tmp 3,.tmp 4]) (cs:=[_,_,_]) rfl c14 (n_4 rfl),⟨([],false,0,2),by exact .ret (.tups ⟨.old (U5 _ [] false),.old (.val _),.old (.val _),tt⟩),.inr ⟨hS,rfl,rfl,de_⟩⟩⟩
 ·refine qD (c5 rfl Tryz.call227 o4 (c0W s om_ 0 (n_5 _) _) rfl ?_);intro n ⟨_,hn,hnr,hnb⟩;have aj:¬ 16384 < s.length:=sm_ h1;have hS:a2K s=a5u s n:=by rw [c5x,n_0 aj,hnr]
  refine B9 hCC 0 rfl (α:=List Tok × Nat) (fun x=>[(0,(sv s)),(2,(.list (x.1.map Tok.cv) (gnn x.1.length) (G9 x.1.length 0))),(3,iv x.2)]) (fun x=>[r7 x.1.length]) (fun x=>x.2<=s.length/\x.1.length<=x.2/\(∀ b,s[x.2]? = some b->k8 b.toNat≠5/\k8 b.toNat≠6)/\a2K s=(a5u s x.2).map (x.1++·)) (fun x=>s.length - x.2) ⟨([],n),[9],⟨hn,n_5 _,hnb,by rw [hS];simp⟩,⟨rfl,rfl⟩,ut_,uq_⟩ ?_;intro ⟨bj,p⟩ ⟨hp,gi,hpb,hr⟩;dsimp only at hp gi hpb hr ⊢;refine a5R ?_;refine qC ?_ ?_<;>intro h2
  ·have ae:p < s.length:=sm_ h2;obtain ⟨b,hb⟩:∃ b,s[p]? = some b:=⟨s[p]'ae,si_⟩;obtain ⟨hb5,hb6⟩:=hpb b hb;rw [c8m hb hb5 hb6] at hr;refine qY (c4 rfl Tryz.call228 j1 (c6e s om_ p b hb ae _) rfl) ?_;refine z_1 ?_;refine qC ?_ ?_<;>intro h3
   ·have he:(D3 s p b).2.2≠0:=sp_ h3;rw [n_1 he] at hr;refine c6 ?_;exact ⟨_,p8 (rs:=[.tmp 2,.tmp 3,.tmp 4]) (cs:=[_,_,_]) rfl c14 (n_4 rfl),⟨([],false,(p:Int),(D3 s p b).2.2),by exact .ret (.tups ⟨.old (U5 _ [] false),.old (.val _),.old (.val _),tt⟩),.inr ⟨hr,rfl,rfl,he⟩⟩⟩
   ·have he:(D3 s p b).2.2=0:=sp_ h3;have eY:¬ (D3 s p b).2.2≠0:=fun h=>h he;rw [n_0 eY] at hr;obtain ⟨q,hq,hpq,gW⟩:=a4U hb eY;have hta:=c9P he;refine qY (B3 [Tok.cv (b0l s p b)] rfl ⟨tt,tt⟩ b3y a3n a2g rfl rfl rfl rfl rfl rfl rfl rfl rfl) ?_;refine qD (F4 rfl tt tt rfl si_ q_2 b3y a3n b9V a2g rfl (.inr rfl) q_7 c9y G7 ((bj++[b0l s p b]).map Tok.cv) (bj++[b0l s p b]).length si_ si_ ?_);refine qD (c5 rfl Tryz.call227 j1 (by have h:=c0W s om_ q gW;rw [<- hq] at h;exact h _) rfl ?_);intro m ⟨hqm,hm,hmr,hmb⟩;exact ⟨(bj++[b0l s p b],m),[2],⟨do_,hm,by dsimp only;rw [n_7,b2o];omega,hmb,by
     dsimp only;rw [hr,hq,a1Z,hmr,hta,Option.map_map]
     congr 1
     funext t
     simp⟩,⟨rfl,rfl⟩,ut_,uq_⟩
  ·have aE:p=s.length:=sm_ h2;rw [c6L aE] at hr;refine j6 ?_;refine qY O8 ?_;refine qY b8J ?_;refine qY (B3 [Tok.cv ⟨5,[],0,(s.length:Int)⟩] rfl ⟨tt,tt⟩ b3y a3n a2g rfl rfl rfl rfl rfl rfl rfl rfl rfl) ?_;refine qD (F4 rfl tt tt rfl si_ q_2 b3y a3n b9V a2g rfl (.inr rfl) q_7 c9y G7 ((bj++[(⟨5,[],0,(s.length:Int)⟩:Tok)]).map Tok.cv) (bj++[(⟨5,[],0,(s.length:Int)⟩:Tok)]).length si_ si_ ?_);refine c6 ?_;exact ⟨_,p8 (rs:=[.tmp 2,.tmp 3,.tmp 4]) (cs:=[_,_,_]) rfl c14 (n_4 rfl),⟨((bj++[(⟨5,[],0,(s.length:Int)⟩:Tok)]),gnn (bj++[(⟨5,[],0,(s.length:Int)⟩:Tok)]).length,0,0),by exact .ret (.tups ⟨.tok (fun r hr c hc=>(D8 (f:=Tok.cv) (fun _=>T0.all ⟨.val _,.val _,.val _,.val _,tt⟩) _) r hr c hc),.old (.val _),.old (.val _),tt⟩),.inl ⟨by rw [hr,aE];rfl,by rw [n_7];rfl,rfl,rfl⟩⟩⟩
theorem c12 (s:Str) (hs:s.length<=1000000000) (σ:List b9):b8 CC 180 [(sv s)] σ fun r τ=>∃ x:c3W,r = .ret (c3Q x)/\τ=σ/\c9h s x :=
 G4 (res:=fun x=>.ret (c3Q x)) hCC (fun a h=>by simp at h;subst h;exact .val _) (b80 s hs) (fun _ _=>C0 (cs:=[_,_,_]) ⟨a2T _ _,.val _,.val _,tt⟩) σ
theorem c6a (e:Int):o5 e ([]:List Ex).length = .dead:=by
 unfold o5
 split<;>rfl
theorem c27 {L:Nat} {am:List Nat} {e:Int} {k p:Nat}:E9 L am (.list (([]:List Ex).map Ex.cv) (gnn ([]:List Ex).length) (tkE e ([]:List Ex).length k)) (.list (([]:List Ex).map Ex.cv) (gnn ([]:List Ex).length) (tkE e ([]:List Ex).length p)):=by
 have h:∀ k,tkE e ([]:List Ex).length k=none:=fun k=>by
  unfold tkE
  split<;>rfl
 rw [h,h];exact .old a2S
theorem c7D {s5:Str} {m n5:Nat} {l:List Str} {S:Option (List Str × Nat)} (hl:l.length<=8) (hi:isT (tk T m) 1 [105,109,112,111,114,116]=true) (hS:S=a04 (9 - l.length) T w m l) (p1:l.length=8->e1≠0) (p2:l.length≠8->e1=0) (q5:Ok e1 ((J3 T (m+1)).map fun x=>(x.1.t,x.2)) e5 (s5,n5))
 (p3:e5≠0->e6≠0) (p4:e5=0->s5=w\/s5∈l->e6≠0) (p5:e5=0->¬ (s5=w\/s5∈l)->e6=0) (q7:Ok e6 (pIs T n5 4 [59]) e7 n7):(e7=0->l.length < 8/\S=a04 (9 - (l++[s5]).length) T w n7 (l++[s5]))/\(e7≠0->S=none):=by
 obtain ⟨f,hf⟩:∃ f,9 - l.length=f+1:=⟨8 - l.length,om_⟩;have gk:9 - (l++[s5]).length=f:=by simp;omega
 rw [hf,a04,n_1 hi] at hS;rw [gk];have d7:e5≠0->e7≠0:=fun h=>q7.2 (p3 h);by_cases h8:l.length=8
 ·rw [n_1 h8] at hS;exact ⟨fun h=>absurd h (d7 (q5.2 (p1 h8))),fun _=>hS⟩
 ·rw [n_0 h8] at hS;have gJ:=p2 h8;subst gJ
  rcases q5.zero with ⟨g5,hn⟩ | ⟨g5,hn⟩
  ·obtain ⟨x,hx,hg⟩:=N0.1 hn;injection hg with dU dO
   rw [hx,n_8,dU,dO] at hS;by_cases hm:s5=w\/s5∈l
   ·rw [n_1 hm] at hS;exact ⟨fun h=>absurd h (q7.2 (p4 g5 hm)),fun _=>hS⟩
   ·rw [n_0 hm] at hS;have g6:=p5 g5 hm;subst g6
    rcases q7.zero with ⟨g7,hi7⟩ | ⟨g7,hi7⟩
    ·rw [hi7,n_8] at hS;exact ⟨fun _=>⟨om_,hS⟩,fun h=>absurd g7 h⟩
    ·rw [hi7] at hS;exact ⟨fun h=>absurd h g7,fun _=>hS⟩
  ·rw [b2n.1 hn] at hS;exact ⟨fun h=>absurd h (d7 g5),fun _=>hS⟩
theorem c24 {m:Nat} {ds:List De} {S:Option (List De × Nat)} {a:RD5} (hl:ds.length<=64) (hk:¬ (tk T m).k=5) (hS:S=R1 (65 - ds.length) T m ds) (q:Ok 0 (a0n T ds m) a.e (a.d,a.n)):(a.e=0->ds.length < 64/\S=R1 (65 - (ds++[a.d]).length) T a.n (ds++[a.d]))/\(a.e≠0->S=none):=by
 obtain ⟨f,hf⟩:∃ f,65 - ds.length=f+1:=⟨64 - ds.length,om_⟩;have gk:65 - (ds++[a.d]).length=f:=by simp;omega
 rw [hf,R1,n_0 hk] at hS;rw [gk]
 rcases q.zero with ⟨g,hd⟩ | ⟨g,hd⟩
 ·rw [hd,n_8] at hS;have:=b2v hd;exact ⟨fun _=>⟨om_,hS⟩,fun h=>absurd g h⟩
 ·rw [hd] at hS;exact ⟨fun h=>absurd h g,fun _=>hS⟩
structure RI5 where
 l:List Str
 m:Nat
 at_:Int
 e:Int
variable {l:List Str}
structure RJ5 where
 ds:List De
 m:Nat
 at_:Int
 e:Int
 ps:List Str
 b:List Ex
variable {b:List Ex} {ps:List Str} {e at_:Int} {m:Nat}
theorem c9S {m2:Nat} {ds:List De} (q1:Ok 0 (pIs T 0 1 [112,97,99,107,97,103,101]) e1 n1) (q2:Ok e1 ((J3 T n1).map fun x=>(x.1.t,x.2)) e2 (w,n2)) (q3:Ok e2 (pIs T n2 4 [59]) e3 n3) (q4:Ok e3 (a04 9 T w n3 []) e4 (l,m)) (q5:Ok e4 (R1 65 T m []) e5 (ds,m2)):Ok 0 (a0V T) e5 ⟨w,l,ds⟩:=by
 refine q1.bind (q2.bindM (fun p hp hg=>?_) fun h=>q5.2 (q4.2 (q3.2 h)));obtain ⟨t,m'⟩:=p;injection hg with dU dO
 dsimp only at dU dO ⊢;subst dU dO;exact q3.bind (q4.bind (q5.bind .some))
theorem c2g (s:Str) (hs:s.length<=1000000000):b8 CC 151 [(sv s)] [] fun r τ=>∃ x:c2f,a0T 0 τ r (.ret (c3t x))/\b4r s x:=by
 refine cO Tryz.func151 ?_;refine b3u ?_;refine K8 [.dead] rfl ?_;refine qs 4 (qD (p7 rfl a2L rfl j4 ?_));refine qD (c5 rfl Tryz.call180 ⟨tt,tt⟩ (c12 s hs _) rfl ?_);rintro ⟨T,nn,at_,e⟩ hP;dsimp only at hP ⊢;refine qC ?_ ?_<;>intro h1
 ·have he:e≠0:=sp_ h1;have hl:a2K s=none:=by
   rcases hP with ⟨_,_,_,g⟩ | ⟨g,_⟩
   ·exact absurd g he
   ·exact g
  refine c30 ?_;exact ⟨_,p8 (rs:=[.cell 2 67,.tmp 3,.tmp 4]) (cs:=[_,_,_]) rfl d4z (n_4 rfl),⟨((⟨[],[],[]⟩:Src),at_,e),d0H,.inr ⟨by rw [O5,hl];rfl,rfl,he⟩⟩⟩
 ·have he:e=0:=sp_ h1;obtain ⟨hl,rfl,rfl⟩:a2K s=some T/\nn=true/\at_=0:=by
   rcases hP with ⟨g1,g2,g3,_⟩ | ⟨_,_,_,g⟩
   ·exact ⟨g1,g2,g3⟩
   ·exact absurd he g
  subst he;obtain ⟨hc,h0⟩:=b0o hl;have hT:=hc.len;have hW:=hc.w;have af:O5 s=a0V T:=by rw [O5,hl];rfl
  refine qY (A7 #[(0,1),(1,1),(2,1),(3,1),(4,1),(5,1),(6,1)] rfl ⟨tt,tt⟩ b6h Tryz.zeroValue228 rfl ⟨_,rfl⟩ (fun w=>by kernel_rfl) rfl rfl) ?_;refine qD (F5 rfl tt j2 j4 ?_);refine K8 [o5 0 ([]:List Ex).length,.box [(sv ([])),.list (([]:List Str).map scv) (gnn ([]:List Str).length) none,.list (([]:List De).map De.cv) (gnn ([]:List De).length) none],rbx T 0 0 0 [] [] 0] rfl ?_;refine M9 (α:=Nat × Int × Int) (fun _=>[(2,.ptr 1 0),(6,.ptr 2 0)]) (fun a=>[o5 a.2.2 ([]:List Ex).length,.box [(sv ([])),.list (([]:List Str).map scv) (gnn ([]:List Str).length) none,.list (([]:List De).map De.cv) (gnn ([]:List De).length) none],rbx T a.1 a.2.1 a.2.2 [] [] 0]) (fun a=>Ok 0 (pIs T 0 1 [112,97,99,107,97,103,101]) a.2.2 a.1/\a.1 < T.length) ?_ ?_
  ·
   refine qk (qD (c5 rfl a84 o4 (X7 hT h0 hW [112,97,99,107,97,103,101] (q:=2) (s:=0) ⟨rfl,rfl,de_⟩) rfl ?_));rintro ⟨v9,m9⟩ ⟨eN,gq,iw,eO⟩;dsimp only at eN gq iw eO ⊢;refine qN [o5 0 ([]:List Ex).length,.box [(sv ([])),.list (([]:List Str).map scv) (gnn ([]:List Str).length) none,.list (([]:List De).map De.cv) (gnn ([]:List De).length) none],rbx T m9 0 0 [] [] 0] rfl (qC ?_ ?_)<;> intro h2
   ·have hw:v9=false:=sp_ h2;refine qY (c4 rfl a6c ⟨tt,tt⟩ (Z4 hT eO (q:=2) (s:=0) ⟨rfl,rfl,de_⟩) rfl) ?_;refine d1R ?_;rintro ⟨x0,y0⟩ bA;dsimp only at bA ⊢;refine qN [o5 y0 ([]:List Ex).length,.box [(sv ([])),.list (([]:List Str).map scv) (gnn ([]:List Str).length) none,.list (([]:List De).map De.cv) (gnn ([]:List De).length) none],rbx T m9 x0 y0 [] [] 0] rfl ?_;exact ⟨(m9,x0,y0),⟨a9c (eN.symm.trans hw) bA,eO⟩,tu_,rfl⟩
   ·have hw:v9=true:=sp_ h2;exact ⟨(m9,0,0),⟨by dsimp only;rw [gq hw];exact a9i (eN.symm.trans hw),eO⟩,tu_,rfl⟩
  ·rintro ⟨n1,a1,e1⟩ E1 ⟨q1,y1⟩;dsimp only at q1 y1 ⊢;refine qk (qD (c5 rfl b7T ⟨tt,tt⟩ (a6o hT y1 hW (q:=2) (s:=0) ⟨rfl,rfl,de_⟩) rfl ?_));rintro ⟨w,n2,a2,e2⟩ ⟨q2,y2⟩;dsimp only at q2 y2 ⊢;refine qN [o5 e2 ([]:List Ex).length,.box [(sv ([])),.list (([]:List Str).map scv) (gnn ([]:List Str).length) none,.list (([]:List De).map De.cv) (gnn ([]:List De).length) none],rbx T n2 a2 e2 [] [] 0] rfl (qD (j3 rfl tt tt rfl j2 t_0 (.inl rfl) rfl rfl (nb rfl) ?_));refine qD (c5 rfl a3K o4 (M7 hT y2 hW [59] (q:=2) (s:=0) ⟨rfl,rfl,de_⟩) rfl ?_);rintro ⟨n3,a3,e3⟩ ⟨q3,y3⟩;dsimp only at q3 y3 ⊢;refine qN [o5 e3 ([]:List Ex).length,.box [(sv w),.list (([]:List Str).map scv) (gnn ([]:List Str).length) none,.list (([]:List De).map De.cv) (gnn ([]:List De).length) none],rbx T n3 a3 e3 [] [] 0] rfl ?_;refine B9 hCC 3 rfl (α:=RI5) (fun _=>[(2,.ptr 1 0),(6,.ptr 2 0)]) (fun a=>[o5 a.e ([]:List Ex).length,.box [(sv w),.list (a.l.map scv) (gnn a.l.length) (G9 a.l.length 3),.list (([]:List De).map De.cv) (gnn ([]:List De).length) none],rbx T a.m a.at_ a.e [] [] 0,r7 a.l.length]) (fun a=>(a.e=0->e3=0/\a04 9 T w n3 []=a04 (9 - a.l.length) T w a.m a.l/\a.l.length<=8)/\(a.e≠0->e3=0->a04 9 T w n3 []=none)/\a.m < T.length/\a.l.length<=9) (fun a=>if a.e=0 then 10 - a.l.length else 0) ⟨⟨[],n3,a3,e3⟩,[0,1,2,9],⟨fun h=>⟨h,rfl,n_5 _⟩,fun h h'=>absurd h' h,y3,n_5 _⟩,⟨rfl,rfl⟩,ut_,⟨.inr ⟨_,rfl,.same rfl U8⟩,.inr ⟨_,rfl,.box ⟨.old (.val _),.old a15,.old (P2 _ [] _),tt⟩⟩,.inr ⟨_,rfl,.same rfl a8o⟩,.inl rfl,tt⟩⟩ ?_;intro ⟨l,m,a5,e⟩ ⟨hI,hN,hm,hl9⟩;dsimp only at hI hN hm hl9 ⊢;refine qs 1 (qG C3 ?_);refine qG d5Z ?_;refine qG c0I ?_;refine a3Q ?_;refine qG C3 ?_;refine qG d5Z ?_;refine qG c8Q ?_;refine c8P ?_;refine qC ?_ ?_<;>intro h3
   ·have hc3:e=0/\isT (tk T m) 1 [105,109,112,111,114,116]=true:=by simpa [isT,and_assoc] using h3
    obtain ⟨rfl,hi⟩:=hc3;obtain ⟨he3,hS,hl8⟩:=hI rfl;have dy:=hW m hm (a5K hi de_);refine M9 (α:=Int × Int) (fun _=>[(2,.ptr 1 0),(6,.ptr 2 0)]) (fun a=>[o5 a.2 ([]:List Ex).length,.box [(sv w),.list (l.map scv) (gnn l.length) (G9 l.length 3),.list (([]:List De).map De.cv) (gnn ([]:List De).length) none],rbx T m a.1 a.2 [] [] 0,r7 l.length]) (fun a=>(l.length=8->a.2≠0)/\(l.length≠8->a.2=0)) ?_ ?_
    ·
     refine b2S ?_;refine qC ?_ ?_<;>intro h4
     ·have h8:l.length=8:=sm_ h4;refine qY (c4 rfl a6c ⟨tt,tt⟩ (Z4 hT hm (q:=2) (s:=0) ⟨rfl,rfl,de_⟩) rfl) ?_;refine d1R ?_;rintro ⟨x0,y0⟩ bA;dsimp only at bA ⊢;refine qN [o5 y0 ([]:List Ex).length,.box [(sv w),.list (l.map scv) (gnn l.length) (G9 l.length 3),.list (([]:List De).map De.cv) (gnn ([]:List De).length) none],rbx T m x0 y0 [] [] 0,r7 l.length] rfl ?_;exact ⟨(x0,y0),⟨fun _=>bA,fun h=>absurd h8 h⟩,tu_,rfl⟩
     ·have h8:¬ l.length=8:=sm_ h4;exact ⟨(a5,0),⟨fun h=>absurd h h8,fun _=>rfl⟩,tu_,rfl⟩
    ·rintro ⟨a6,e6⟩ E2 ⟨p1,p2⟩;dsimp only at p1 p2 ⊢;refine qs 3 ?_;refine z_6 ?_;refine qY (c4 rfl a6c ⟨tt,tt⟩ (Z4 hT dy (q:=2) (s:=0) ⟨rfl,rfl,de_⟩) rfl) ?_;refine qY a3z ?_;refine qD (c5 rfl b7T ⟨tt,tt⟩ (a6o hT dy hW (q:=2) (s:=0) ⟨rfl,rfl,de_⟩) rfl ?_);rintro ⟨s5,n5,a7,e7⟩ ⟨q5,y5⟩;dsimp only at q5 y5 ⊢;have eo:=T7 l s5;refine qN [o5 e7 ([]:List Ex).length,.box [(sv w),.list (l.map scv) (gnn l.length) (G9 l.length 3),.list (([]:List De).map De.cv) (gnn ([]:List De).length) none],rbx T n5 a7 e7 [] [] 0,r7 l.length] rfl ?_;refine M9 (α:=Int × Int) (fun _=>[(2,.ptr 1 0),(6,.ptr 2 0),(8,(sv s5))]) (fun a=>[o5 a.2 ([]:List Ex).length,.box [(sv w),.list (l.map scv) (gnn l.length) (G9 l.length 3),.list (([]:List De).map De.cv) (gnn ([]:List De).length) none],rbx T n5 a.1 a.2 [] [] 0,r7 l.length]) (fun a=>(e7≠0->a.2≠0)/\(e7=0->s5=w\/s5∈l->a.2≠0)/\(e7=0->¬ (s5=w\/s5∈l)->a.2=0)) ?_ ?_
     ·
      refine qk (qG C3 ?_);refine qG c55 ?_;refine qG a2b ?_;refine qG a8B ?_;refine qG a3G ?_;refine qH rfl rfl (fun hk hg=>j5 rfl tt rfl a5U rfl a2W de_) ?_;refine qH rfl rfl (fun hk hg=>m0 rfl ⟨hk,hg⟩ rfl b3F rfl rfl) ?_;refine qH rfl rfl (fun hk hg=>a0Y rfl tt j2) ?_;refine qH rfl rfl (fun hk hg=>c4 rfl b7k ⟨⟨hk,hg⟩,⟨hk,hg⟩,tt⟩ (a6e l (gnn l.length) s5 om_ _) rfl) ?_;refine qG c1s ?_;refine qY M8 ?_;refine qC ?_ ?_<;>intro h5
      ·have hc5:e7=0/\(s5=w\/s5∈l):=sp_ h5;refine qD (c5 rfl a9Y a3F (a0b _ _ de_ (q:=2) (s:=0) ⟨rfl,rfl,de_⟩) rfl ?_);rintro ⟨x0,y0⟩ bA;dsimp only at bA ⊢;refine qN [o5 y0 ([]:List Ex).length,.box [(sv w),.list (l.map scv) (gnn l.length) (G9 l.length 3),.list (([]:List De).map De.cv) (gnn ([]:List De).length) none],rbx T n5 x0 y0 [] [] 0,r7 l.length] rfl ?_;exact ⟨(x0,y0),⟨fun _=>bA,fun _ _=>bA,fun _ h=>absurd hc5.2 h⟩,tu_,rfl⟩
      ·have hc5:¬ (e7=0/\(s5=w\/s5∈l)):=fun h=>by rcases h with ⟨h,h' | h'⟩<;>simp [h,h'] at h5
       exact ⟨(a7,e7),⟨id,fun h h'=>absurd ⟨h,h'⟩ hc5,fun h _=>h⟩,tu_,rfl⟩
     ·rintro ⟨a8,e8⟩ E3 ⟨p3,p4,p5⟩;dsimp only at p3 p4 p5 ⊢;refine qk (qD (c5 rfl a3K o4 (M7 hT y5 hW [59] (q:=2) (s:=0) ⟨rfl,rfl,de_⟩) rfl ?_));rintro ⟨n9,a9,e9⟩ ⟨q9,y9⟩;dsimp only at q9 y9 ⊢;have aW:=c7D hl8 hi hS p1 p2 q5 p3 p4 p5 q9;refine qN [o5 e9 ([]:List Ex).length,.box [(sv w),.list (l.map scv) (gnn l.length) (G9 l.length 3),.list (([]:List De).map De.cv) (gnn ([]:List De).length) none],rbx T n9 a9 e9 [] [] 0,r7 l.length] rfl (qY (B3 [scv s5] rfl ⟨tt,tt⟩ t_2 t_0 t_3 rfl rfl rfl rfl rfl rfl rfl rfl rfl) ?_);refine qD (F4 rfl tt tt rfl si_ q_2 t_2 t_0 a4b t_3 rfl (.inr rfl) q_7 a4s G7 ((l++[s5]).map scv) (l++[s5]).length si_ si_ ?_);refine qD (j3 rfl tt tt rfl j2 a2W (.inl rfl) rfl rfl (nb rfl) ?_);exact ⟨⟨l++[s5],n9,a9,e9⟩,[0,1,2,4],⟨by
       dsimp only;rw [n_1 rfl]
       split<;>omega,fun h=>⟨he3,(aW.1 h).2,by have:=(aW.1 h).1;dsimp only;omega⟩,fun h _=>aW.2 h,y9,do_⟩,⟨rfl,rfl⟩,ut_,⟨.inr ⟨_,rfl,.same rfl U8⟩,.inr ⟨_,rfl,.box ⟨.old (.val _),E9.grow (f:=scv) (fun _=>⟨.val _,tt⟩) rfl,.old (P2 _ [] _),tt⟩⟩,.inr ⟨_,rfl,.same rfl a8o⟩,.inr ⟨_,rfl,.same rfl G5⟩,tt⟩⟩
   ·have hc3:e=0->isT (tk T m) 1 [105,109,112,111,114,116]=false:=fun h0=>by
     by_cases hi:isT (tk T m) 1 [105,109,112,111,114,116]=true
     ·have:=P1 hi;simp [h0,this.1,this.2] at h3
     ·simpa using hi
    have q4:Ok e3 (a04 9 T w n3 []) e (l,m):=Ok.of (fun h=>by
     obtain ⟨g3,hS,hl8⟩:=hI h;obtain ⟨f,hf⟩:∃ f,9 - l.length=f+1:=⟨8 - l.length,om_⟩;exact ⟨g3,hS.trans (by rw [hf,a04,n_0 (by rw [hc3 h];decide)])⟩) hN
    refine j6 ?_;refine B9 hCC 4 rfl (α:=RJ5) (fun _=>[(2,.ptr 1 0),(6,.ptr 2 0)]) (fun a=>[.dead,.box [(sv w),.list (l.map scv) (gnn l.length) none,.list (a.ds.map De.cv) (gnn a.ds.length) (G9 a.ds.length 4)],rbx T a.m a.at_ a.e a.ps a.b 5,.dead,r7 a.ds.length,o5 a.e a.b.length]) (fun a=>(a.e=0->e=0/\R1 65 T m []=R1 (65 - a.ds.length) T a.m a.ds/\a.ds.length<=64)/\(a.e≠0->e=0->R1 65 T m []=none)/\a.m < T.length/\a.ds.length<=65) (fun a=>if a.e=0 then T.length - a.m+1 else 0) ⟨⟨[],m,a5,e,[],[]⟩,[0,1,2,3,9,10],⟨fun h=>⟨h,rfl,n_5 _⟩,fun h h'=>absurd h' h,hm,n_5 _⟩,⟨rfl,rfl⟩,ut_,⟨.inl rfl,.inr ⟨_,rfl,.box ⟨.old (.val _),a0e (f:=scv) (fun _=>⟨.val _,tt⟩) _,.old (P2 _ [] _),tt⟩⟩,.inr ⟨_,rfl,.box ⟨.old a0P,.old (.val _),.old (.val _),.old (.val _),.old W6,c27,.old a2S,tt⟩⟩,.inl rfl,.inl rfl,.inl (c6a _),tt⟩⟩ ?_;intro ⟨ds,m2,a6,e5,ps,b⟩ ⟨hI2,gp,cp,cg⟩;dsimp only at hI2 gp cp cg ⊢;refine qk (qG C3 ?_);refine qG (fun hg=>c4 rfl a6c ⟨hg,tt⟩ (Z4 hT cp (q:=2) (s:=5) ⟨rfl,rfl,de_⟩) rfl) ?_;refine qG c0I ?_;refine a3Q ?_;refine qC ?_ ?_<;>intro h6
    ·have hc6:e5=0/\¬ (tk T m2).k=5:=sp_ h6;obtain ⟨rfl,hk⟩:=hc6;obtain ⟨he,hS,hd64⟩:=hI2 rfl;refine cF [] [0,1,2,3] (tl:=[(4,[0,1]),(5,[0,1]),(6,[]),(7,[]),(8,[])]) ?_;refine chf rfl c0i ?_;refine chf rfl c6s ?_;refine chf rfl X0 ?_;refine chf rfl (c9 rfl a8t) ?_;refine D6 ?_;refine B8 rfl rfl rfl (c5 rfl Tryz.call187 j1 (c9l hc w l ds hd64 cp (q:=2) (s:=5) ⟨rfl,rfl,de_⟩) rfl ?_);rintro ⟨d,m1,a7,e7,ps7,b7⟩ ⟨k7,y7,w7,z7⟩;dsimp only at k7 y7 w7 z7 ⊢;have eo:=T7 ds d;have bX:(if e7=0 then T.length - m1+1 else 0) < (if (0:Int)=0 then T.length - m2+1 else 0):=by
      rw [n_1 rfl]
      split
      ·rename_i h0;have:=z7 h0;omega
      ·omega
     have aW:=c24 (a:=⟨d,m1,a7,e7,ps7,b7⟩) hd64 hk hS k7;refine a1c [.dead,.box [(sv w),.list (l.map scv) (gnn l.length) none,.list (ds.map De.cv) (gnn ds.length) (G9 ds.length 4)],rbx T m1 a7 e7 ps7 b7 6,.dead,r7 ds.length,.dead,o5 e7 b7.length] rfl ?_;refine d1C ?_;refine B8 rfl rfl rfl (F4 rfl tt tt rfl si_ q_2 a9A a4H Tryz.typeInfo119 a8K rfl (.inr rfl) q_7 (by have hb:Tryz.t119.bytes=72:=rfl;rw [hb];first|omega|(simp;done)|(simp;omega)) G7 ((ds++[d]).map De.cv) (ds++[d]).length si_ si_ ?_);refine ⟨tt,?_⟩;refine d1W ?_;refine a8D ?_;exact ⟨⟨ds++[d],m1,a7,e7,ps7,b7⟩,[0,1,2,3,7,6],⟨bX,fun h=>⟨he,(aW.1 h).2,by have:=(aW.1 h).1;dsimp only;omega⟩,fun h _=>aW.2 h,y7,do_⟩,⟨rfl,rfl⟩,ut_,⟨.inl rfl,.inr ⟨_,rfl,.box ⟨.old (.val _),.old W6,E9.grow (f:=De.cv) (fun _=>⟨.val _,.val _,C1 _ _ _,N8 _ _ _,tt⟩) rfl,tt⟩⟩,.inr ⟨_,rfl,.box ⟨.old a0P,.old (.val _),.old (.val _),.old (.val _),.old W6,Y7 rfl,.old a2S,tt⟩⟩,.inl rfl,.inr ⟨_,rfl,.same rfl G5⟩,.inr ⟨_,rfl,.same rfl U8⟩,tt⟩⟩
    ·have q5:Ok e (R1 65 T m []) e5 (ds,m2):=Ok.of (fun h=>by
      obtain ⟨g3,hS,hd64⟩:=hI2 h;have hk:(tk T m2).k=5:=by
       by_cases hk:(tk T m2).k=5
       ·exact hk
       ·simp [h,hk] at h6
      obtain ⟨f,hf⟩:∃ f,65 - ds.length=f+1:=⟨64 - ds.length,om_⟩;exact ⟨g3,hS.trans (by rw [hf,R1,n_1 hk])⟩) gp
     have hfile:=(c9S q1 q2 q3 q4 q5).zero;refine j6 ?_;refine qC ?_ ?_<;>intro h7
     ·have he5:e5≠0:=sp_ h7;refine cF [] [0,1,2,3,4,5,6,7,8] (tl:=[(9,[1,2,3,4,5,6,7,8]),(10,[5,6,7,8]),(11,[])]) ?_;refine chf rfl d3H ?_;refine b1q ?_;refine chf rfl (c9 rfl c8V) ?_;refine chf rfl a90 ?_;refine b1q ?_;refine chf rfl (c9 rfl b58) ?_;refine chf rfl c4d ?_;refine d0p ?_;refine ⟨⟨F3,a1F,(by exact c9 rfl c8V),a9z,F3,a1F,(by exact c9 rfl b58),b15,tt⟩,?_⟩;refine D7 rfl rfl b3e ⟨⟨F3,a1F,(by exact c9 rfl b58),b15,tt⟩,?_⟩;refine b3f ?_;exact ⟨_,p8 (rs:=[.cell 2 67,.tmp 3,.tmp 4]) (cs:=[_,_,_]) rfl d4z (n_4 rfl),⟨((⟨[],[],[]⟩:Src),a6,e5),d0H,.inr ⟨by rw [af];exact (hfile.resolve_left fun h=>he5 h.1).2,rfl,he5⟩⟩⟩
     ·have he5:e5=0:=sp_ h7;refine c30 ?_;exact ⟨_,p8 (rs:=[.cell 2 67,.tmp 3,.tmp 4]) (cs:=[_,_,_]) rfl d4z (n_4 rfl),⟨(⟨w,l,ds⟩,0,0),(by exact .ret (.tups ⟨.aggs ⟨.old (.val _),.old W6,.tok (D8 (f:=De.cv) (fun a=>(De.pure a).all) _),tt⟩,.old (.val _),.old (.val _),tt⟩)),.inl ⟨by rw [af];exact (hfile.resolve_right fun h=>h.1 he5).2,rfl,rfl⟩⟩⟩
theorem c4L (s:Str) (hs:s.length<=1000000000) (σ:List b9):b8 CC 151 [(sv s)] σ fun r τ=>∃ x:c2f,r = .ret (c3t x)/\τ=σ/\b4r s x :=
 G4 (res:=fun x=>.ret (c3t x)) hCC (fun c hc=>by simp at hc;subst hc;exact .val _) (c2g s hs) (fun x _=>C0 ⟨o8 x.1.pure,.val _,.val _,tt⟩) σ
def a80 (p b:Str):Option Src:=if a3B p=true then O5 b else none
def a50 (l:List Fi) (p:Str):Option Src:=(if B2 l=0 then C2 l p else none).bind (a80 p)
def C7 (l:List Fi):List (Str × Src):=l.filterMap fun f=>(a80 f.p f.b).map fun s=>(f.p,s)
theorem b9p {l:List Fi} {y:Fi} (h:l[i]? = some y):C7 (l.drop i)=(match a80 y.p y.b with | none=>[] | some s=>[(y.p,s)])++C7 (l.drop (i+1)):=by
 obtain ⟨ae,rfl⟩:=n_3.1 h;rw [R4 ae];unfold C7;rw [List.filterMap_cons];cases a80 l[i].p l[i].b<;>rfl
abbrev a0I (P:List Str) (S:List Src):List CV:=[.list (P.map scv) (gnn P.length) none,.list (S.map Src.cv) (gnn S.length) none]
def b1U (l:List Fi):List Str:=if B2 l=0 then (C7 l).map Prod.fst else []
def b2K (l:List Fi):List Src:=if B2 l=0 then (C7 l).map Prod.snd else []
theorem a5h (l:List Src) (nn:Bool):u0 (.list (l.map Src.cv) nn none):=P9 (f:=Src.cv) (fun a=>(Src.pure a)) l nn
theorem c54 (n:Nat) (l:List Src) (nn:Bool):Old n (.list (l.map Src.cv) nn none):=(a5h l nn).old
theorem b6p (l:List Fi) (nn:Bool) (p:Str) (hl:l.length<=1000000) (hp:p.length<=1000000000) (hb:∀ q b,C2 l q=some b->b.length<=1000000000) (σ:List b9):b8 CC 99 [.agg (B5 l nn),(sv p)] σ fun r Y=>r = .ret (.tup [.agg ((a50 l p).getD Src.z).cells,.val (.bool (a50 l p).isSome)])/\Y=σ:=by
 refine b8.anyw hCC (by repeat' (first|exact .val _|exact H0 _ _|exact Src.pure _|exact tt | refine o8 ?_ | refine C0 ?_ | refine ⟨?_,?_⟩)) (by repeat' (first|exact .val _|exact H0 _ _|exact Src.pure _|exact tt | refine o8 ?_ | refine C0 ?_ | refine ⟨?_,?_⟩)) ?_ σ;refine c7 (qO Tryz.func99 ?_);refine qD (F5 rfl tt j2 j4 ?_);refine qD (p7 rfl a2L rfl j4 ?_);refine qY (c4 rfl c7Z j1 (a7k l nn p hl _) rfl) ?_;refine qG C3 ?_;refine qG (fun hg=>c4 rfl Tryz.call24 ⟨hg,tt⟩ (b1l p hp _) rfl) ?_;refine b7B ?_;refine qC ?_ ?_<;>intro h1
 ·have h0:a50 l p=none:=by
   unfold a50 a80;cases hz:(if B2 l=0 then C2 l p else none) with
   | none=>rfl
   | some b =>
    rw [hz] at h1;simp at h1;simp [h1]
  refine qY d6A ?_;refine c30 ?_;exact ⟨_,p8 (rs:=[.cell 4 67,.tmp 5]) (cs:=[_,_]) rfl c9F (n_4 rfl),_,_,rfl,rfl,(by rw [h0];exact .tups ⟨.old (o8 (Src.pure Src.z)).old,.old (.val _),tt⟩)⟩
 ·obtain ⟨b,hz,hs⟩:∃ b,(if B2 l=0 then C2 l p else none)=some b/\a3B p=true:=by
   cases hz:(if B2 l=0 then C2 l p else none) with
   | none=>rw [hz] at h1;simp at h1
   | some b=>rw [hz] at h1;simp at h1;exact ⟨b,rfl,h1⟩
  have h0:a50 l p=O5 b:=by rw [a50,hz,n_8,a80,n_1 hs]
  refine qD (c5 rfl Tryz.call151 ⟨tt,tt⟩ (c4L _ (by
   cases hd:C2 l p with
   | none=>split<;>simp
   | some b=>have:=hb p b hd;split<;>simp<;>omega) _) rfl ?_)
  rintro ⟨x,at_,e⟩ hP;dsimp only at hP ⊢;rw [hz] at hP;have hx:((a50 l p).getD Src.z)=x/\(a50 l p).isSome=decide (e=0):=by
   rw [h0]
   rcases hP with ⟨g1,_,g3⟩ | ⟨g1,g2,g3⟩
   ·replace g1:O5 b=some x:=g1;rw [g1];exact ⟨rfl,(a1R g3).symm⟩
   ·replace g1:O5 b=none:=g1;rw [g1];exact ⟨g2.symm,(a1o g3).symm⟩
  refine c48 ?_;refine c30 ?_;exact ⟨_,p8 (rs:=[.cell 4 67,.tmp 5]) (cs:=[_,_]) rfl c9F (n_4 rfl),_,_,rfl,rfl,(by rw [hx.1,hx.2];exact .tups ⟨.old (o8 (Src.pure x)).old,.old (.val _),tt⟩)⟩
theorem c7s {l:List Fi} (h:B2 l=0):l.length<=64:=by
 unfold B2 at h;split at h
 ·cases h
 ·omega
theorem c76 (l:List Fi) (nn:Bool) (hl:l.length<=1000000) (hp:∀ f∈l,f.p.length<=1000000000) (hbl:∀ q b,C2 l q=some b->b.length<=1000000000) (hd:B2 l=0->∀ f∈l,C2 l f.p=some f.b):b8 CC 55 [.agg (B5 l nn)] [] fun r τ=>∃ _:Unit,a0T 0 τ r (.ret (.agg (a0I (b1U l) (b2K l))))/\True:=by
 refine qO Tryz.func55 ?_;refine qD (F5 rfl tt j2 j4 ?_);refine qD (p7 rfl Tryz.zeroValue105 rfl j4 ?_);refine qD (p7 rfl Tryz.zeroValue105 rfl j4 ?_);refine qY (c4 rfl c5p ⟨tt,tt⟩ (a5T l nn _) rfl) ?_;refine qC ?_ ?_<;>intro h1
 ·have h0:¬ B2 l=0:=sp_ h1;refine d1Y ?_;exact ⟨_,D5 rfl ⟨tt,_,_,_,rfl,rfl,.inr ⟨_,c7a,c1n,nb rfl,rfl⟩⟩,⟨(),by rw [b1U,b2K,n_0 h0,n_0 h0];exact .ret (.old (o8 (cs:=[.list [] false none,.list [] false none]) ⟨E7 [] false,E7 [] false,tt⟩).old),tt⟩⟩
 ·have h0:B2 l=0:=sp_ h1;have ir:=c7s h0;refine qY a0S ?_;refine B9 hCC 3 rfl (α:=Nat × List Str × List Src) (fun a=>[(1,.ptr 0 0),(2,.ptr 1 0),(3,.ptr 2 0),(13,(.list (l.map Fi.cv) nn none)),(14,iv l.length),(15,iv a.1)]) (fun a=>[.box (B5 l nn),.box [.list [] false none,.list [] false none],.box [.list (a.2.1.map scv) (gnn a.2.1.length) (G9 a.2.1.length 3),.list (a.2.2.map Src.cv) (gnn a.2.2.length) (G9 a.2.2.length 4)],r7 a.2.1.length,r7 a.2.2.length]) (fun a=>a.1<=l.length/\a.2.1.length<=a.1/\a.2.2.length<=a.1/\(C7 l).map Prod.fst=a.2.1++(C7 (l.drop a.1)).map Prod.fst/\(C7 l).map Prod.snd=a.2.2++(C7 (l.drop a.1)).map Prod.snd) (fun a=>l.length - a.1) ⟨(0,[],[]),[0,1,2,9,10],⟨n_5 _,n_6 _,n_6 _,rfl,rfl⟩,⟨rfl,rfl⟩,ut_,⟨.inr ⟨_,rfl,.box ⟨.old a2A,tt⟩⟩,.inr ⟨_,rfl,.box ⟨.old a15,.old a15,tt⟩⟩,.inr ⟨_,rfl,.box ⟨.old a15,.old a15,tt⟩⟩,.inl rfl,.inl rfl,tt⟩⟩ ?_;intro ⟨i,P,Q⟩ ⟨hi,aT,hql,hr,hq⟩;dsimp only at hi aT hql hr hq ⊢;refine qk (qC ?_ ?_)<;> intro h2
  ·have ae:(i:Int) < l.length:=sp_ h2;obtain ⟨y,hb⟩:=gx_ l i;have hyd:=hd h0 y (n_2 hb);have hsy:a50 l y.p=a80 y.p y.b:=by rw [a50,n_1 h0,hyd];rfl
   rw [b9p hb] at hr hq;refine b8G ?_;refine qY (c4 rfl Tryz.call99 j1 (b6p l nn y.p hl (hp y (n_2 hb)) hbl _) rfl) ?_;refine c48 ?_;refine qC ?_ ?_<;>intro h3
   ·obtain ⟨s,hs⟩:∃ s,a80 y.p y.b=some s:=b5F.1 (by rw [<- hsy];exact h3);have hsd:(a50 l y.p).getD Src.z=s:=by rw [hsy,hs];rfl
    rw [hs] at hr hq;replace hr:(C7 l).map Prod.fst=P++(y.p::(C7 (l.drop (i+1))).map Prod.fst):=hr;replace hq:(C7 l).map Prod.snd=Q++(s::(C7 (l.drop (i+1))).map Prod.snd):=hq;rw [<- hsd] at hq;refine cF [11] [0,1,2,3,4,6,7,8,9] (tl:=[(5,[5,6,7,8]),(11,[5,6,7,8]),(10,[]),(12,[]),(13,[]),(14,[])]) ?_;refine chf rfl (c9 rfl b0C) ?_;refine chf rfl c5G ?_;refine b1P ?_;refine chf rfl d6l ?_;refine chf rfl c6O ?_;refine chf rfl (c9 rfl c0V) ?_;refine chf rfl (c9 rfl a8t) ?_;refine chf rfl (c9 rfl d5C) ?_;refine D6 ?_;refine B8 rfl rfl rfl (F4 rfl tt tt rfl si_ q_2 t_2 t_0 a4b t_3 rfl (.inr rfl) q_7 a4s G7 ((P++[y.p]).map scv) (P++[y.p]).length si_ si_ ?_);refine ⟨⟨(by exact c9 rfl (j5 rfl tt rfl b96 rfl b9R de_)),(by exact c9 rfl c0V),(by exact c9 rfl a8t),(by exact c9 rfl d5C),tt⟩,?_⟩;refine b0Q rfl rfl (fun _=>c9 rfl b0C) ?_;refine B8 rfl rfl rfl (F4 rfl tt tt rfl si_ q_2 b7u a2C Tryz.typeInfo67 a2L rfl (.inr rfl) q_7 (by have hb:Tryz.t67.bytes=64:=rfl;rw [hb];first|omega|(simp;done)|(simp;omega)) G7 ((Q++[(a50 l y.p).getD Src.z]).map Src.cv) (Q++[(a50 l y.p).getD Src.z]).length si_ si_ ?_);refine ⟨tt,?_⟩;refine B8 rfl rfl rfl (j3 rfl tt tt rfl j2 a2W (.inl rfl) rfl rfl (nb rfl) ?_);refine ⟨tt,?_⟩;refine D7 rfl rfl c6O ⟨tt,?_⟩;refine B8 rfl rfl rfl (j3 rfl tt tt rfl j2 b9R (.inl rfl) rfl rfl (nb rfl) ?_);refine a8D ?_;refine qY o7 ?_;exact ⟨(i+1,P++[y.p],Q++[(a50 l y.p).getD Src.z]),[0,1,2,7,8],⟨do_,do_,by dsimp only;simp;omega,by dsimp only;simp;omega,by dsimp only;rw [hr,F7];rfl,by dsimp only;rw [hq,F7];rfl⟩,⟨rfl,rfl⟩,ut_,⟨.inr ⟨_,rfl,.box ⟨.old a2A,tt⟩⟩,.inr ⟨_,rfl,.box ⟨.old a15,.old a15,tt⟩⟩,.inr ⟨_,rfl,.box ⟨E9.grow (f:=scv) (fun _=>⟨.val _,tt⟩) rfl,E9.grow (f:=Src.cv) (fun _=>⟨.val _,C1 _ _ _,P2 _ _ _,tt⟩) rfl,tt⟩⟩,.inr ⟨_,rfl,.same rfl G5⟩,.inr ⟨_,rfl,.same rfl G5⟩,tt⟩⟩
   ·have hs:a80 y.p y.b=none:=by rw [<- hsy];simpa using h3
    rw [hs] at hr hq;rw [a72] at hr hq;refine qY o7 ?_;exact ⟨(i+1,P,Q),[0,1,2,3,4],⟨do_,do_,do_,do_,hr,hq⟩,⟨rfl,rfl⟩,ut_,⟨.inr ⟨_,rfl,.box ⟨.old a2A,tt⟩⟩,.inr ⟨_,rfl,.box ⟨.old a15,.old a15,tt⟩⟩,.inr ⟨_,rfl,.box ⟨E9.grow (f:=scv) (fun _=>⟨.val _,tt⟩) rfl,E9.grow (f:=Src.cv) (fun _=>⟨.val _,C1 _ _ _,P2 _ _ _,tt⟩) rfl,tt⟩⟩,.inr ⟨_,rfl,.same rfl G5⟩,.inr ⟨_,rfl,.same rfl G5⟩,tt⟩⟩
  ·have aE:l.length<=i:=sm_ h2;rw [T5 aE] at hr hq;replace hr:(C7 l).map Prod.fst=P:=by rw [hr];exact a1d _
   replace hq:(C7 l).map Prod.snd=Q:=by rw [hq];exact a1d _
   refine j6 ?_;refine d1Y ?_;exact ⟨_,D5 rfl ⟨tt,_,_,_,rfl,rfl,.inr ⟨_,c7a,c1n,nb rfl,rfl⟩⟩,⟨(),by rw [b1U,b2K,n_1 h0,n_1 h0,hr,hq];exact .ret (.aggs ⟨.tok (D8 (f:=scv) (fun _=>T0.all ⟨.val _,tt⟩) _),.tok (D8 (f:=Src.cv) (fun a=>(Src.pure a).all) _),tt⟩),tt⟩⟩
theorem c9E (l:List Fi) (nn:Bool) (hl:l.length<=1000000) (hp:∀ f∈l,f.p.length<=1000000000) (hbl:∀ q b,C2 l q=some b->b.length<=1000000000) (hd:B2 l=0->∀ f∈l,C2 l f.p=some f.b) (σ:List b9):b8 CC 55 [.agg (B5 l nn)] σ fun r τ=>r = .ret (.agg (a0I (b1U l) (b2K l)))/\τ=σ :=
 (G4 (α:=Unit) (res:=fun _=>.ret (.agg (a0I (b1U l) (b2K l)))) hCC (fun c h=>by simp at h;subst h;exact o8 ⟨H0 _ _,tt⟩) (c76 l nn hl hp hbl hd) (fun _ _=>o8 ⟨E7 _ _,a5h _ _,tt⟩) σ).mono fun _ _ ⟨_,h1,h2,_⟩=>⟨h1,h2⟩
theorem b3J (h:n < 10):Lib.decDigits n=[UInt8.ofNat (48+n)]:=by rw [Lib.decDigits,dif_pos h]
theorem d4a (h:¬ n < 10):Lib.decDigits n=Lib.decDigits (n / 10)++Lib.decDigits (n%10):=by rw [Lib.decDigits,dif_neg h,b3J (a5j _ om_)]
theorem a3U:∀ (m n:Nat),n < 10^(m+1)->(Lib.decDigits n).length<=m+1
 | 0,n,h=>by rw [b3J om_];simp
 | m+1,n,h=>by
  by_cases h9:n < 10
  ·rw [b3J h9];simp
  ·have:=a3U m (n / 10) (by rw [Nat.pow_succ] at h;omega);rw [Lib.decDigits,dif_neg h9,n_7];simp;omega
theorem d7x:∀ n:Nat,n < 10->(([48,49,50,51,52,53,54,55,56,57]:Str).take (n+1)).drop n=[UInt8.ofNat (48+n)]:=by decide
theorem a64 (h:b8 CC 148 [(.val (.int .u64 ((n:Int))))] [] fun r Y=>r = .ret (sv (Lib.decDigits n))/\Y=[]) (σ:List b9):b8 CC 148 [(.val (.int .u64 ((n:Int))))] σ fun r Y=>r = .ret (sv (Lib.decDigits n))/\Y=σ :=
 b8.anyw hCC pu_ pu_ h σ
theorem a8v (n:Nat) (hn:n<=9223372036854775807) (σ:List b9):b8 CC 148 [(.val (.int .u64 ((n:Int))))] σ fun r Y=>r = .ret (sv (Lib.decDigits n))/\Y=σ:=by
 refine b8.anyw hCC pu_ pu_ ?_ σ
 induction n using Nat.strongRecOn
 rename_i n ih;refine c7 (qO Tryz.func148 ?_);refine qC ?_ ?_<;>intro h1
 ·have hn9:n < 10:=sm_ h1;have e0:IntKind.u64.wrap ((n:Int)+1)=((n+1:Nat):Int):=b42 (n:=n+1) om_;refine qY Z0 ?_;refine qY q_3 ?_;refine c6 ?_;exact ⟨_,rE1,_,_,rfl,rfl,C9 (by rw [b3J hn9];exact n_9 str (d7x n hn9))⟩
 ·have hn9:¬ n < 10:=sm_ h1;have hd:Int.tdiv (n:Int) 10=((n / 10:Nat):Int):=by rfl
  have hm:Int.tmod (n:Int) 10=((n%10:Nat):Int):=by rfl
  have g1:=a3U 18 (n / 10) om_;have g2:=a3U 18 (n%10) om_;have e1:IntKind.u64.wrap ((n:Int).tdiv 10)=((n / 10:Nat):Int):=by rw [hd];exact b42 om_
  have e2:(n:Int).tmod 10=((n%10:Nat):Int):=by exact hm
  refine qY (a0d rfl tt rfl rfl rfl (rfl)) ?_;refine qY (c4 rfl c0s ⟨tt,tt⟩ (by have h:=a64 (ih (n / 10) om_ om_) [];rw [<- e1] at h;exact h) rfl) ?_;refine qY (a0d rfl tt rfl rfl rfl (rfl)) ?_;refine qY (c4 rfl c0s ⟨tt,tt⟩ (by have h:=a64 (ih (n%10) om_ om_) [];rw [<- e2] at h;exact h) rfl) ?_;refine qY a1y ?_;refine c6 ?_;exact ⟨_,rE1,_,_,rfl,rfl,C9 (n_9 str (d4a hn9).symm)⟩
theorem a4T (u:Int) (h0 : -9007199254740992<=u) (dD:u<=9007199254740992) (σ:List b9):b8 CC 95 [iv u] σ fun r Y=>r = .ret (sv (Lib.itoa u))/\Y=σ:=by
 refine b8.anyw hCC pu_ pu_ (c7 (qO Tryz.func95 ?_)) σ;refine qC ?_ ?_<;>intro h1
 ·have hu:u < 0:=sp_ h1;obtain ⟨m,rfl⟩:∃ m:Nat,u = -(m:Int):=⟨u.natAbs,om_⟩;have g1:=a3U 18 m om_;have w1:IntKind.i64.wrap (0 - (-(m:Int)+1))=((m - 1:Nat):Int):=by rw [a83 om_ om_];omega
  have w2:IntKind.u64.wrap (IntKind.u64.wrap (IntKind.i64.wrap (0 - (-(m:Int)+1)))+1)=(m:Int):=by
   rw [w1,b42 om_,show (((m - 1:Nat):Int)+1)=(m:Int) by omega,b42 om_]
  refine qY o7 ?_;refine qY (c6t rfl tt rfl) ?_;refine qY (a5N rfl tt rfl c4t c6c rfl) ?_;refine qY Z0 ?_;refine qY (c4 rfl c0s ⟨tt,tt⟩ (by have h:=a8v m om_ [];rw [<- w2] at h;exact h) rfl) ?_;refine qY a4i ?_;refine c6 ?_;exact ⟨_,a1W rfl tt rfl,_,_,rfl,rfl,C9 (n_9 str (Lib.itoa_neg m om_).symm)⟩
 ·have hu:¬ u < 0:=sp_ h1;obtain ⟨m,rfl⟩:∃ m:Nat,u=(m:Int):=⟨u.toNat,om_⟩;refine qY c4C ?_;refine qY (c4 rfl c0s ⟨tt,tt⟩ (a8v m om_ _) rfl) ?_;refine c6 ?_;exact ⟨_,a1W rfl tt rfl,_,_,rfl,rfl,C9 (n_9 str (Lib.itoa_nonneg m).symm)⟩
theorem r9 {a b:Int} (h:(a == b)=true):a=b:=sp_ h
theorem r8 {a b:Int} (h:(a == b)=false):¬ a=b:=sp_ h
theorem b0u (x:Ex) (σ:List b9):b8 CC 271 [(.agg x.cells)] σ fun r Y=>r = .ret (iv (a3w x.k x.op))/\Y=σ:=by
 refine b8.anyw hCC pu_ pu_ (c7 (qO Tryz.func271 ?_)) σ;refine qD (F5 rfl tt j2 j4 ?_);refine qC ?_ ?_<;>intro h1
 ·have u1:x.k=5:=sp_ h1;exact d2C
 ·have u1:¬ x.k=5:=sp_ h1;refine qC ?_ ?_<;>intro h2
  ·have u2:¬ x.k=4:=sp_ h2;exact d2D
  ·have u2:x.k=4:=sp_ h2;refine qC ?_ ?_<;>intro h3
   ·have v3:=r9 h3;refine qC ?_ ?_<;>intro h4
    ·have v4:=r9 h4;exact b1B
    ·have v4:=r8 h4;refine qC ?_ ?_<;>intro h5
     ·have v5:=r9 h5;refine qC ?_ ?_<;>intro h6
      ·have v6:=r9 h6;exact b1B
      ·have v6:=r8 h6;exact b1B
     ·have v5:=r8 h5;refine qC ?_ ?_<;>intro h7
      ·have v7:=r9 h7;exact b1B
      ·have v7:=r8 h7;exact b1B
   ·have v3:=r8 h3;refine qC ?_ ?_<;>intro h8
    ·have v8:=r9 h8;exact b1B
    ·have v8:=r8 h8;refine qC ?_ ?_<;>intro h9
     ·have v9:=r9 h9;refine qC ?_ ?_<;>intro aU
      ·have iy:=r9 aU;exact b1B
      ·have iy:=r8 aU;exact b1B
     ·have v9:=r8 h9;refine qC ?_ ?_<;>intro ck
      ·have iC:=r9 ck;exact b1B
      ·have iC:=r8 ck;exact b1B
def SG:List Str:=[[],[43],[45],[42],[47],[37],[60],[61,61]]
theorem d4J {o:Int} (h:1<=o/\o<=7):SG[o.toNat]? = some (sgn o)/\(sgn o).length<=2:=by
 have:o=1\/o=2\/o=3\/o=4\/o=5\/o=6\/o=7:=by omega
 rcases this with rfl | rfl | rfl | rfl | rfl | rfl | rfl<;>exact ⟨rfl,de_⟩
theorem d4U (o:Int):1<=F0 o/\F0 o<=3:=by unfold F0;(repeat (first | split))<;>omega
def RWr (E:List Ex) (ps:List Str) (en pn:Bool) (t:Tr) (s:Nat):Prop:=∀ (pl:Int) (σ:List b9),b8 CC 226 [.list (E.map Ex.cv) en none,iv ((s+t.size - 1:Nat):Int),.list (ps.map scv) pn none,iv pl] σ fun r τ=>r = .ret (sv (t.txt ps pl))/\τ=σ
theorem c2O {E:List Ex} {en pn:Bool} {u o:Int} {nm:Str} {ch:List Tr} {s:Nat} (dY:a7H E (.n k u o nm ch) s) (hn:U6 ps.length k u o nm ch.length) (hI:∀ (m:Nat) (c:Tr),ch[m]? = some c->RWr E ps en pn c (s+x8 (ch.take m))) (hL:∀ (m:Nat) (c:Tr) (pl:Int),ch[m]? = some c->(c.txt ps pl).length<=100000000) (du:ch.length<=1000) (hTl:(ndT ps k u o nm (H5 ps ch (a0C k o))).length<=1000000000000) (pl:Int):b8 CC 226 [(.list (E.map Ex.cv) en none),iv ((s+(Tr.n k u o nm ch).size - 1:Nat):Int),(.list (ps.map scv) pn none),iv pl] [] fun r Y=>r = .ret (sv ((Tr.n k u o nm ch).txt ps pl))/\Y=[]:=by
 refine c7 (cO Tryz.func226 ?_);refine qs 3 (qY d4O ?_);refine z_8 ?_;refine L9 hCC (α:=Str) (fun x=>[(3,iv pl),(9,.ptr 0 0),(10,sv x)]) (fun _=>[.box ((⟨k,u,o,nm,o3 ch s⟩:Ex)).cells]) (fun x=>x=ndT ps k u o nm (H5 ps ch (a0C k o))) w8 uz_ ?_ ?_
 ·
  refine qk (qC ?_ ?_)<;> intro h1
  ·have u1:k=1:=r9 h1;have bK:=hn.k1 u1;refine qY (c4 rfl c8r ⟨tt,tt⟩ (a4T u bK.1 bK.2 _) rfl) ?_;exact ⟨(Lib.itoa u),_,(by rw [ndT,n_1 u1]),tu_,rfl⟩
  ·have u1:¬ k=1:=r8 h1;refine qC ?_ ?_<;>intro h2
   ·have u2:k=2:=r9 h2;obtain ⟨bZ,hk3⟩:=hn.k2 u2;obtain ⟨p,hpg⟩:=gx_ ps u.toNat;refine qY (o9 rfl tt tt rfl rfl t_2 t_0 om_ (i8 hpg) rfl) ?_;exact ⟨p,_,(by rw [ndT,n_0 u1,n_1 u2,a5m,hpg];rfl),tu_,rfl⟩
   ·have u2:¬ k=2:=r8 h2;refine qC ?_ ?_<;>intro h3
    ·have u3:k=3:=r9 h3;have v6:¬ k=4:=by omega
     have v8:¬ k=5:=by omega
     have gH:=B7 (hn.k3 u3).1;have hpl0:a0C k o=[]:=n_0 v6;have hCl:(H5 ps ch (a0C k o)).length=ch.length:=a4d _ _ _;have hJ:=fun m=>a7B [44,32] (H5 ps ch (a0C k o)) m;have hjt:(J2 [44,32] (H5 ps ch (a0C k o))).length<=1000000000000:=by
      rw [ndT,n_0 u1,n_0 u2,n_0 v6,n_0 v8,n_1 u3,n_7,n_7] at hTl;omega
     refine qY V7 ?_;refine qY a02 ?_;refine j7 hCC (α:=Nat) (fun m=>[(0,(.list (E.map Ex.cv) en none)),(2,(.list (ps.map scv) pn none)),(3,iv pl),(9,.ptr 0 0),(10,sv (nm++[40]++F6 [44,32] (H5 ps ch (a0C k o)) m)),(40,(.list ((o3 ch s).map icv) (gnn (o3 ch s).length) none)),(41,(iv ((o3 ch s).length:Int))),(42,iv m)]) (fun _=>[.box ((⟨k,u,o,nm,o3 ch s⟩:Ex)).cells]) (fun m=>m<=ch.length) (fun m=>ch.length - m) 0 (n_5 _) ⟨o0,o0,o0,o0,⟨tt,(by show sv _=sv _;simp [F6,J2])⟩,o0,o0,o0,tt⟩ (ah:=[]) rfl w8 uz_ ?_;intro m hm;have hJm:=hJ m;refine qk (qC ?_ ?_)<;> intro h4
     ·have ae:m < ch.length:=by simp [R0] at h4;omega
      obtain ⟨c,hc⟩:∃ c,ch[m]? = some c:=⟨ch[m]'ae,si_⟩;have hg:=K4 (s:=s) hc;have hx:=Z8 ps ch (a0C k o) m c hc;rw [show (a0C k o).getD m 0=0 by rw [hpl0];rfl] at hx;have cr:=hL m c 0 hc;refine qY (o9 rfl tt tt rfl rfl t_4 t_1 om_ (i8 hg) rfl) ?_;refine qC ?_ ?_<;>intro h5
      ·have hm0:¬ m=0:=sm_ h5;refine qY V7 ?_;refine qY (c4 rfl b3j b0f (hI m c hc 0 _) rfl) ?_;refine b6a ?_;exact ⟨(m+1),_,⟨om_,om_⟩,⟨o0,o0,o0,o0,⟨tt,(by show sv _=sv _;rw [Y4 hx,n_0 hm0];simp [F7])⟩,o0,o0,o0,tt⟩,rfl⟩
      ·have hm0:m=0:=sm_ h5;refine qY (c4 rfl b3j b0f (hI m c hc 0 _) rfl) ?_;refine b6a ?_;exact ⟨(m+1),_,⟨om_,om_⟩,⟨o0,o0,o0,o0,⟨tt,(by show sv _=sv _;rw [Y4 hx,n_1 hm0];simp [F7])⟩,o0,o0,o0,tt⟩,rfl⟩
     ·have bX:m=ch.length:=by simp [R0] at h4;omega
      refine j6 ?_;refine qY V7 ?_;exact ⟨(nm++[40]++F6 [44,32] (H5 ps ch (a0C k o)) m++[41]),_,(by rw [ndT,n_0 u1,n_0 u2,n_0 v6,n_0 v8,n_1 u3,F6,bX,<- hCl,a60]),tu_,rfl⟩
    ·have u3:¬ k=3:=r8 h3;refine cC ?_ ?_<;>intro h6
     ·have v6:k=4:=r9 h6;have bd:=hn.k4 v6;have ga:=d4U o;obtain ⟨hsg,dW⟩:=d4J bd;refine qs 2 (qY (c4 rfl Tryz.call271 ⟨tt,tt⟩ ((by have h:=b0u (⟨k,u,o,nm,o3 ch s⟩:Ex);rw [show a3w (⟨k,u,o,nm,o3 ch s⟩:Ex).k (⟨k,u,o,nm,o3 ch s⟩:Ex).op=F0 o by show a3w k o=_;rw [a3w,n_0 om_,n_1 v6]] at h;exact h _)) rfl) ?_);refine qY o7 ?_;refine L9 hCC (α:=Int) (fun x=>[(0,(.list (E.map Ex.cv) en none)),(2,(.list (ps.map scv) pn none)),(3,iv pl),(9,.ptr 0 0),(14,iv x),(15,(iv (F0 o+1)))]) (fun _=>[.box ((⟨k,u,o,nm,o3 ch s⟩:Ex)).cells]) (fun x=>x=if F0 o=1 then F0 o+1 else F0 o) w8 uz_ ?_ ?_
      ·
       refine qk (qC ?_ ?_)<;> intro h7
       ·have w7:F0 o=1:=r9 h7;exact ⟨2,_,(by rw [n_1 w7,w7];rfl),tu_,rfl⟩
       ·have w7:¬ F0 o=1:=r8 h7;exact ⟨(F0 o),_,(by rw [n_0 w7]),tu_,rfl⟩
      ·rintro x hx;obtain ⟨c0,c1,rfl⟩:∃ a b,ch=[a,b]:=by
        have hc:=hn.cnt;rw [n_1 v6] at hc
        match ch,hc with
        | [a,b],_=>exact ⟨a,b,rfl⟩
       have dR:=hL 0 c0 x rfl;have da:=hL 1 c1 (F0 o+1) rfl;have hoe:(⟨k,u,o,nm,o3 [c0,c1] s⟩:Ex).op=o:=rfl;refine cW 26 ?_;refine b2G ?_;refine hY d3R ?_;refine b46 ?_;refine hY (c4 rfl b3j a3A (hI 0 c0 rfl x _) rfl) ?_;refine hY V7 ?_;refine hY (B3 (SG.map scv) rfl ⟨rfl,rfl,rfl,rfl,rfl,rfl,rfl,rfl,tt⟩ t_2 t_0 t_3 rfl rfl rfl rfl rfl rfl rfl rfl rfl) ?_;refine b2P ?_;refine hY (o9 rfl tt tt rfl rfl t_2 t_0 om_ (i8 hsg) rfl) ?_;refine hY a6I ?_;refine hY a1y ?_;refine hY V7 ?_;refine b2G ?_;refine hY d5A ?_;refine b46 ?_;refine hY (c4 rfl b3j a3A (hI 1 c1 rfl (F0 o+1) _) rfl) ?_;refine hY a1y ?_;refine b0k ?_;exact ⟨(c0.txt ps x++[32]++sgn o++[32]++c1.txt ps (F0 o+1)),_,(by rw [ndT,n_0 u1,n_0 u2,n_1 v6,a0C,n_1 v6,hx];simp [H5]),tu_,rfl⟩
     ·have v6:¬ k=4:=r8 h6;refine qk (qC ?_ ?_)<;> intro h8
      ·have v8:k=5:=r9 h8;obtain ⟨c0,c1,c2,rfl⟩:∃ a b c,ch=[a,b,c]:=by
        have hc:=hn.cnt;rw [n_0 v6,n_1 v8] at hc
        match ch,hc with
        | [a,b,c],_=>exact ⟨a,b,c,rfl⟩
       have dR:=hL 0 c0 0 rfl;have da:=hL 1 c1 0 rfl;have cT:=hL 2 c2 0 rfl;refine cW 27 ?_;refine b2G ?_;refine hY d3R ?_;refine hY a6N ?_;refine hY A3 ?_;refine hY (c4 rfl b3j b0f (hI 0 c0 rfl 0 _) rfl) ?_;refine hY a4i ?_;refine hY V7 ?_;refine b2G ?_;refine hY d5A ?_;refine hY a6N ?_;refine hY A3 ?_;refine hY (c4 rfl b3j b0f (hI 1 c1 rfl 0 _) rfl) ?_;refine hY a1y ?_;refine hY V7 ?_;refine b2G ?_;refine hY (o9 rfl tt rfl rfl rfl t_4 t_1 om_ (i8 (K4 (m:=2) (s:=s) rfl)) rfl) ?_;refine hY a6N ?_;refine hY A3 ?_;refine hY (c4 rfl b3j b0f (hI 2 c2 rfl 0 _) rfl) ?_;refine hY a1y ?_;refine b0k ?_;exact ⟨([105,102,32]++c0.txt ps 0++[32,116,104,101,110,32]++c1.txt ps 0++[32,101,108,115,101,32]++c2.txt ps 0),_,(by rw [ndT,n_0 u1,n_0 u2,n_0 v6,n_1 v8,a0C,n_0 v6];simp [H5]),tu_,rfl⟩
      ·have v8:¬ k=5:=r8 h8;refine qC ?_ ?_<;>intro h9
       ·have v9:k=6:=r9 h9;have gH:=L2 (hn.k678 (.inl v9));obtain ⟨c0,rfl⟩:∃ a,ch=[a]:=by
         have hc:=hn.cnt;rw [n_0 v6,n_0 v8,n_1 v9] at hc
         match ch,hc with
         | [a],_=>exact ⟨a,rfl⟩
        have dR:=hL 0 c0 0 rfl;refine cW 14 ?_;refine b6U ?_;refine hY a4i ?_;refine hY V7 ?_;refine b2G ?_;refine hY d3R ?_;refine hY a6N ?_;refine hY A3 ?_;refine hY (c4 rfl b3j b0f (hI 0 c0 rfl 0 _) rfl) ?_;refine hY a1y ?_;refine hY V7 ?_;refine b0k ?_;exact ⟨([114,101,97,100,40,34]++nm++[34,44,32]++c0.txt ps 0++[41]),_,(by rw [ndT,n_0 u1,n_0 u2,n_0 v6,n_0 v8,n_0 u3,n_1 v9,a0C,n_0 v6];simp [H5]),tu_,rfl⟩
       ·have v9:¬ k=6:=r8 h9;refine qC ?_ ?_<;>intro aU
        ·have iy:k=7:=r9 aU;have gH:=L2 (hn.k678 (.inr (.inl iy)));refine a2h ?_;exact ⟨([115,105,122,101,40,34]++nm++[34,41]),_,(by rw [ndT,n_0 u1,n_0 u2,n_0 v6,n_0 v8,n_0 u3,n_0 v9,n_0 om_,a5E];rw [iy];simp),tu_,rfl⟩
        ·have iy:¬ k=7:=r8 aU;refine qC ?_ ?_<;>intro ck
         ·have iC:k=8:=r9 ck;have gH:=L2 (hn.k678 (.inr (.inr iC)));refine a2h ?_;exact ⟨([104,97,115,40,34]++nm++[34,41]),_,(by rw [ndT,n_0 u1,n_0 u2,n_0 v6,n_0 v8,n_0 u3,n_0 v9,n_0 om_,a5E];rw [iC];simp),tu_,rfl⟩
         ·have iC:¬ k=8:=r8 ck;refine qC ?_ ?_<;>intro cQ
          ·have v12:k=9:=r9 cQ;have gH:=B7 (hn.k9 v12);refine a2h ?_;exact ⟨([101,110,118,40,34]++nm++[34,41]),_,(by rw [ndT,n_0 u1,n_0 u2,n_0 v6,n_0 v8,n_0 u3,n_0 v9,n_0 om_,a5E];rw [v12];simp),tu_,rfl⟩
          ·have v12:¬ k=9:=r8 cQ;refine qC ?_ ?_<;>intro dk
           ·have v13:k=10:=r9 dk;have hk10:=hn.k10 v13;have bh:(Lib.itoa u).length<=19:=by
             obtain ⟨m,rfl⟩:∃ m:Nat,u=(m:Int):=⟨u.toNat,om_⟩;rw [Lib.itoa_nonneg];exact a3U 18 m om_
            refine qY (c4 rfl c8r ⟨tt,tt⟩ (a4T u om_ om_ _) rfl) ?_;refine a2h ?_;exact ⟨([102,108,105,112,40]++Lib.itoa u++[41]),_,(by rw [ndT,n_0 u1,n_0 u2,n_0 v6,n_0 v8,n_0 u3,n_0 v9,n_1 v13]),tu_,rfl⟩
           ·exfalso;have v13:¬ k=10:=r8 dk;have:=hn.kind;omega
 ·rintro x hx;subst hx;have hT:=hTl;refine qk (qY (c4 rfl Tryz.call271 ⟨tt,tt⟩ (b0u (⟨k,u,o,nm,o3 ch s⟩:Ex) _) rfl) ?_);refine qC ?_ ?_<;>intro gA
  ·have bS:a3w k o < pl:=sp_ gA;refine a2h ?_;refine c6 ?_;exact ⟨_,a1W rfl tt rfl,_,_,rfl,rfl,C9 (by rw [Tr.txt,n_1 bS])⟩
  ·have bS:¬ a3w k o < pl:=sp_ gA;refine c6 ?_;exact ⟨_,a1W rfl tt rfl,_,_,rfl,rfl,C9 (by rw [Tr.txt,n_0 bS])⟩
theorem b1W {E:List Ex} {ps:List Str} {en pn:Bool} (hE:E.length<=1000) (hp:∀ x∈ps,x.length<=80):∀ (n:Nat) (t:Tr) (s d:Nat),t.size<=n->a7H E t s->t.wf ps.length d->RWr E ps en pn t s
 | 0,t,s,d,hs,_,_=>by have:=t.size_pos;omega
 | n+1,.n k u o nm ch,s,d,hs,dY,hw=>fun pl σ=>by
  have hw':=hw;rw [Tr.wf] at hw';have aF:(Tr.n k u o nm ch).size<=E.length:=by
   obtain ⟨E0,E1,he,_⟩:=dY;rw [he,n_7,n_7,Tr.flat_len];omega
  rw [Tr.size] at hs aF;have eJ:∀ (m:Nat) (c:Tr),ch[m]? = some c->c.size<=x8 ch:=fun m c hc=>by
   have h1:=a22 hc;have h2:=a0N ch (m+1);omega
  have hL:∀ (m:Nat) (c:Tr) (pl:Int),ch[m]? = some c->(c.txt ps pl).length<=100000000:=fun m c pl hc=>by
   have h1:=Tr.txt_len hp c _ pl (a48 hw'.2.2 hc);have h2:=eJ m c hc;omega
  have cr:=a2J ch;have hT:=c1Z hp hw'.2.1 (H5 ps ch (a0C k o));have hT2:=a7O hp ch _ (a0C k o) hw'.2.2;rw [a4d] at hT;exact b8.anyw (args:=[_,_,_,_]) hCC ⟨a0i _ _,.val _,E7 _ _,.val _,tt⟩ (.val _) (c2O dY hw'.2.1 (fun m c hc=>b1W hE hp n c _ _ (by have:=eJ m c hc;omega) (dY.child hc) (a48 hw'.2.2 hc)) hL om_ om_ pl) σ
theorem c1M {d:De} (h:DeG d):∀ x∈d.params,x.length<=80:=fun x hx=>by have:=B7 (h.par x hx).1;omega
theorem c2H {d:De} (h:DeG d) (en pn:Bool) (σ:List b9):b8 CC 226 [.list (d.body.map Ex.cv) en none,iv ((d.body.length:Int) - 1),.list (d.params.map scv) pn none,iv 0] σ fun r τ=>r = .ret (sv (U1 d))/\τ=σ:=by
 obtain ⟨t,h1,h2,h3⟩:=a6g h;have hl:d.body.length=t.size:=by rw [h1,Tr.flat_len]
 have hp:=t.size_pos;have hb:=h.blen;have:=b1W (E:=d.body) (en:=en) (pn:=pn) om_ (c1M h) t.size t 0 1 (n_6 _) ⟨[],[],by rw [h1];simp,rfl⟩ h2 0 σ;rw [show ((0+t.size - 1:Nat):Int)=(d.body.length:Int) - 1 by omega,<- h3] at this;exact this
noncomputable def b7W (d:De):Str:=a4L d++(U1 d++[59,10])
theorem c3m (d:De) (hd:DeG d) (σ:List b9):b8 CC 179 [(.agg d.cells)] σ fun r Y=>r = .ret (sv (b7W d))/\Y=σ:=by
 refine an_ Tryz.func179 ?_;refine c65 ?_;refine L9 hCC (α:=Str) (fun x=>[(1,.ptr 0 0),(3,sv x)]) (fun _=>[.box d.cells]) (fun x=>x++[32,61,32]=a4L d/\x.length<=2000) w8 uz_ ?_ ?_
 ·
  refine qk (qC ?_ ?_)<;> intro h1
  ·have u1:d.k=1:=r9 h1;have gH:=B7 (hd.name om_).1;refine a2h ?_;refine qY I7 ?_;refine j7 hCC (α:=Nat) (fun m=>[(1,.ptr 0 0),(3,sv ([102,117,110,99,32]++d.name++[40]++F6 [44,32] d.params m)),(15,(.list (d.params.map scv) (gnn d.params.length) none)),(16,iv d.params.length),(17,iv m)]) (fun _=>[.box d.cells]) (fun m=>m<=d.params.length) (fun m=>d.params.length - m) 0 (n_5 _) ⟨o0,⟨tt,(by show sv _=sv _;simp [F6,J2])⟩,o0,o0,o0,tt⟩ (ah:=[]) rfl w8 uz_ ?_;intro m hm;have hJ:=a7B [44,32] d.params m;have hJ2:=a2Z [44,32] d.params;have hJ3:=b3k (b14 hd);have aT:=hd.parl;have e2:([44,32]:Str).length=2:=rfl;rw [e2] at hJ2;refine qk (qC ?_ ?_)<;> intro h2
   ·have ae:m < d.params.length:=sm_ h2;obtain ⟨y,hy⟩:∃ y,d.params[m]? = some y:=⟨d.params[m]'ae,si_⟩;have dT:=c1M hd y (n_2 hy);refine qY b5e ?_;refine qC ?_ ?_<;>intro h3
    ·have hm0:¬ m=0:=sm_ h3;refine qY V7 ?_;refine b6a ?_;exact ⟨(m+1),_,⟨om_,om_⟩,⟨o0,⟨tt,(by show sv _=sv _;rw [Y4 hy,n_0 hm0];simp [F7])⟩,o0,o0,o0,tt⟩,rfl⟩
    ·have hm0:m=0:=sm_ h3;refine b6a ?_;exact ⟨(m+1),_,⟨om_,om_⟩,⟨o0,⟨tt,(by show sv _=sv _;rw [Y4 hy,n_1 hm0];simp [F7])⟩,o0,o0,o0,tt⟩,rfl⟩
   ·have bX:m=d.params.length:=sm_ h2;refine j6 ?_;refine qY V7 ?_;exact ⟨([102,117,110,99,32]++d.name++[40]++F6 [44,32] d.params m++[41]),_,⟨by rw [a4L,n_1 u1,F6,bX,a60];simp,by simp only [n_7,C4,I3];omega⟩,tu_,rfl⟩
  ·have u1:¬ d.k=1:=r8 h1;refine qC ?_ ?_<;>intro h4
   ·have u2:d.k=2:=r9 h4;have gH:=B7 (hd.name om_).1;refine qY a4i ?_;exact ⟨([116,101,115,116,32]++d.name),_,⟨by rw [a4L,n_0 u1,n_1 u2];first | done | simp,by simp only [n_7,C4,I3];omega⟩,tu_,rfl⟩
   ·have u2:¬ d.k=2:=r8 h4;refine qC ?_ ?_<;>intro h5
    ·have u3:d.k=3:=r9 h5;have gH:=L2 (hd.path u3);refine a2h ?_;exact ⟨([103,101,110,32,34]++d.name++[34]),_,⟨by rw [a4L,n_0 u1,n_0 u2];first | done | simp,by simp only [n_7,C4,I3];omega⟩,tu_,rfl⟩
    ·exfalso;have u3:¬ d.k=3:=r8 h5;have:=hd.kind;omega
 ·rintro x ⟨hx,hxl⟩;have hbl:=a7o hd;have hb:=hd.blen;refine qk (qY V7 ?_);refine b5z ?_;refine qY (c4 rfl b3j b0f (c2H hd _ _ _) rfl) ?_;refine b0D ?_;refine c6 ?_;exact ⟨_,a1W rfl tt rfl,_,_,rfl,rfl,C9 (by rw [b7W,<- hx];simp [F7])⟩
theorem c3z (x:Src) (h:a2f x) (σ:List b9):b8 CC 178 [(.agg x.cells)] σ fun r Y=>r = .ret (sv (([112,97,99,107,97,103,101,32]++x.pkg++[59,10])++P5 x.imports))/\Y=σ:=by
 refine b8.anyw hCC pu_ pu_ ?_ σ;have dN:=B7 h.pkg.1;have fU:∀ s∈x.imports,s.length<=80:=fun s hs=>by have:=B7 (h.imp s hs).1;omega
 refine c7 (qO Tryz.func178 ?_);refine qD (F5 rfl tt j2 j4 ?_);refine a2h ?_;refine qY I7 ?_;refine j7 hCC (α:=Nat) (fun m=>[(3,sv (([112,97,99,107,97,103,101,32]++x.pkg++[59,10])++P5 (x.imports.take m))),(11,(.list (x.imports.map scv) (gnn x.imports.length) none)),(12,iv x.imports.length),(13,iv m)]) (fun _=>[.box x.cells]) (fun m=>m<=x.imports.length) (fun m=>x.imports.length - m) 0 (n_5 _) ⟨⟨tt,(by show sv _=sv _;simp [P5])⟩,o0,o0,o0,tt⟩ (ah:=[]) rfl w8 uz_ ?_;intro m hm;have hI8:=a6S fU m;have himl:=h.impl;have dN:=B7 h.pkg.1;refine qk (qC ?_ ?_)<;> intro h1
 ·have ae:m < x.imports.length:=sm_ h1;obtain ⟨y,hy⟩:∃ y,x.imports[m]? = some y:=⟨x.imports[m]'ae,si_⟩;have dT:=fU y (n_2 hy);refine qY b5e ?_;refine a2h ?_;refine b6a ?_;exact ⟨(m+1),_,⟨om_,om_⟩,⟨⟨tt,(by show sv _=sv _;rw [a3P,hy];simp [P5,F7])⟩,o0,o0,o0,tt⟩,rfl⟩
 ·have bX:m=x.imports.length:=sm_ h1;refine V9 ?_;exact ⟨_,a1W rfl tt rfl,_,_,rfl,rfl,C9 (by rw [bX,a60])⟩
theorem a40 (s:Str) (hs:s.length<=1000000000) (σ:List b9):b8 CC 221 [(sv s)] σ fun r Y=>r = .ret (.val (.bool (A9 s && !P6 s)))/\Y=σ:=by
 refine b8.anyw hCC pu_ pu_ (c7 (qO Tryz.func221 ?_)) σ;refine qY (c4 rfl c2a ⟨tt,tt⟩ (a1k s _) rfl) ?_;refine qG C3 ?_;refine qG (fun hg=>c4 rfl Tryz.call229 ⟨hg,tt⟩ (a5C s _) rfl) ?_;refine b6B ?_;refine c6 ?_;exact ⟨_,a1W rfl tt rfl,_,_,rfl,rfl,j8 rfl⟩
def arK (k:Int):Int:=if k=3 then -1 else if k=4 then 2 else if k=5 then 3 else if k=6 then 1 else 0
theorem b8d (k:Int) (σ:List b9):b8 CC 270 [iv k] σ fun r Y=>r = .ret (iv (arK k))/\Y=σ:=by
 refine b8.anyw hCC pu_ pu_ (c7 (qO Tryz.func270 ?_)) σ;refine qC ?_ ?_<;>intro h1
 ·have u1:=r9 h1;exact c7r
 ·have u1:=r8 h1;refine qC ?_ ?_<;>intro h2
  ·have u2:=r9 h2;exact c7r
  ·have u2:=r8 h2;refine qC ?_ ?_<;>intro h3
   ·have u3:=r9 h3;exact c7r
   ·have u3:=r8 h3;refine qC ?_ ?_<;>intro h4
    ·have u4:=r9 h4;exact c7r
    ·have u4:=r8 h4;exact c7r
theorem b9C (x:Ex) (np c:Nat) (h:U6 np x.k x.num x.op x.name c) (σ:List b9):b8 CC 222 [(.agg x.cells),iv np] σ fun r Y=>r = .ret (.val (.bool true))/\Y=σ:=by
 refine b8.anyw hCC pu_ pu_ (c7 (qO Tryz.func222 ?_)) σ;refine qD (F5 rfl tt j2 j4 ?_);refine a9B ?_;refine a9B ?_;refine a9B ?_;refine a9B ?_;refine a9B ?_;refine a9B ?_;refine a9B ?_;refine qG C3 ?_;refine qG a4O ?_;refine qG a3G ?_;refine qH rfl rfl (fun hk hg=>j5 rfl tt rfl a5X rfl t_0 de_) ?_;refine qH rfl rfl (fun hk hg=>m0 rfl ⟨hk,hg⟩ rfl t_6 rfl rfl) ?_;refine qH rfl rfl (fun hk hg=>a1A rfl ⟨hk,hg⟩ rfl rfl rfl (a63 _ _)) ?_;refine qG c0o ?_;refine qY Q1 ?_;refine qG C3 ?_;refine qG a4O ?_;refine qG a3G ?_;refine d2q ?_;refine d0m ?_;refine qY Q1 ?_;refine c2V ?_;refine b68 ?_;refine d2q ?_;refine d0m ?_;refine qY Q1 ?_;refine qC ?_ ?_<;>intro h1
 ·exfalso;have hk:=h.kind;have hn:=h.num;have ho:=h.op;have bI:=h.name;simp only [a7u,S7,b12,a1X,b6R,beq_eq_false_iff_ne,bne_iff_ne,ne_eq] at h1
  rcases h1 with (((h1 | h1) | ⟨h1,h2⟩) | ⟨h1,h2⟩) | ⟨h1,h2⟩<;>first|omega|exact b7Y h2 (bI om_)|exact h2 (hn om_ om_ om_)|exact h2 (ho h1)
 ·refine qC ?_ ?_<;>intro h2
  ·have u2:=r9 h2;refine c2V ?_;refine a3Q ?_;exact a8V
  ·have u2:=r8 h2;refine qC ?_ ?_<;>intro h3
   ·have u3:=r9 h3;refine c2V ?_;refine qG C3 ?_;refine qG a75 ?_;refine qY M8 ?_;exact a8V
   ·have u3:=r8 h3;refine qC ?_ ?_<;>intro h4
    ·have u4:=r9 h4;refine c2V ?_;refine a3Q ?_;exact a8V
    ·have u4:=r8 h4;refine qC ?_ ?_<;>intro h5
     ·have u5:=r9 h5;refine c2V ?_;refine a3Q ?_;exact a8V
     ·have u5:=r8 h5;refine qC ?_ ?_<;>intro h6
      ·have u6:=r9 h6;refine qY (c4 rfl c0F ⟨tt,tt⟩ (a40 x.name (by have:=h.len;omega) _) rfl) ?_;exact a8V
      ·have u6:=r8 h6;refine qC ?_ ?_<;>intro h7
       ·have u7:=r9 h7;refine qY (c4 rfl c2a ⟨tt,tt⟩ (a1k x.name _) rfl) ?_;exact a8V
       ·have u7:=r8 h7;refine qC ?_ ?_<;>intro h8
        ·have u8:=r9 h8;refine qC ?_ ?_<;>intro h9
         ·have u9:=r9 h9;refine qY c8o ?_;exact a8V
         ·have u9:=r8 h9;exact a8V
        ·have u8:=r8 h8;refine qC ?_ ?_<;>intro aU
         ·have u10:=r9 aU;refine qC ?_ ?_<;>intro ck
          ·have u11:=r9 ck;refine qY c8o ?_;exact a8V
          ·have u11:=r8 ck;exact a8V
         ·have u10:=r8 aU;refine qC ?_ ?_<;>intro cQ
          ·have u12:=r9 cQ;refine qY c8o ?_;exact a8V
          ·have u12:=r8 cQ;exact a8V
mutual
def Tr.dp:Tr->Nat
 | .n k _ _ _ ch=>dpL k ch 1
def dpL (k:Int):List Tr->Nat->Nat
 | [],n=>n
 | c::l,n=>dpL k l (max n (c.dp+if k=4 then 0 else 1))
end
theorem c6Z {l:List Tr} {c:Tr} (h:l[m]? = some c) (n:Nat):dpL k (l.drop m) n=dpL k (l.drop (m+1)) (max n (c.dp+if k=4 then 0 else 1)):=by
 obtain ⟨ae,rfl⟩:=n_3.1 h;rw [R4 ae,dpL]
mutual
theorem Tr.dp_le {np:Nat}:∀ (t:Tr) (d:Nat),t.wf np d->t.dp+d<=33
 | .n k u o nm ch,d,h=>by
  rw [Tr.wf] at h;rw [Tr.dp];exact c68 ch k d 1 om_ h.2.2
theorem c68 {np:Nat}:∀ (l:List Tr) (k:Int) (d n:Nat),n+d<=33->wfL np (if k=4 then d else d+1) l->dpL k l n+d<=33
 | [],k,d,n,hn,_=>by rw [dpL];exact hn
 | c::l,k,d,n,hn,h=>by
  rw [wfL] at h;have h1:=Tr.dp_le c _ h.1;rw [dpL];refine c68 l k d _ ?_ h.2;split at h1<;>rename_i hk<;>simp only [hk,if_true,if_false] at*<;> omega
end
def RDp (E:List Ex) (en:Bool) (t:Tr) (s:Nat):Prop:=∀ (σ:List b9),b8 CC 225 [.list (E.map Ex.cv) en none,iv ((s+t.size - 1:Nat):Int)] σ fun r τ=>r = .ret (iv t.dp)/\τ=σ
theorem c7T {E:List Ex} {en:Bool} {u o:Int} {nm:Str} {ch:List Tr} {s:Nat} (dY:a7H E (.n k u o nm ch) s) (hI:∀ (m:Nat) (c:Tr),ch[m]? = some c->RDp E en c (s+x8 (ch.take m))) (hB:∀ (m:Nat) (c:Tr),ch[m]? = some c->c.dp<=1000) (du:ch.length<=1000):b8 CC 225 [(.list (E.map Ex.cv) en none),(iv ((s+(Tr.n k u o nm ch).size - 1:Nat):Int))] [] fun r Y=>r = .ret (iv ((Tr.n k u o nm ch).dp:Int))/\Y=[]:=by
 refine c7 (qO Tryz.func225 ?_);refine qY d4O ?_;refine qY a02 ?_;refine j7 hCC (α:=Nat × Nat) (fun a=>[(0,(.list (E.map Ex.cv) en none)),(1,(iv ((s+(Tr.n k u o nm ch).size - 1:Nat):Int))),(5,iv a.2),(13,(.list ((o3 ch s).map icv) (gnn (o3 ch s).length) none)),(14,(iv ((o3 ch s).length:Int))),(15,iv a.1)]) (fun _=>[]) (fun a=>a.1<=ch.length/\a.2<=1001/\(Tr.n k u o nm ch).dp=dpL k (ch.drop a.1) a.2) (fun a=>ch.length - a.1) (0,1) ⟨n_5 _,de_,by rw [Tr.dp];rfl⟩ tu_ (ah:=[]) rfl w8 uz_ ?_;rintro ⟨m,n⟩ ⟨hm,hnb,hr⟩;dsimp only at hm hnb hr ⊢;refine qk (qC ?_ ?_)<;> intro h1
 ·have ae:m < ch.length:=by simp [R0] at h1;omega
  obtain ⟨c,hc⟩:∃ c,ch[m]? = some c:=⟨ch[m]'ae,si_⟩;have hg:=K4 (s:=s) hc;rw [c6Z hc] at hr;have hcb:=hB m c hc;refine qY (o9 rfl tt tt rfl rfl t_4 t_1 om_ (i8 hg) rfl) ?_;refine qY (c4 rfl Tryz.call225 j1 (hI m c hc _) rfl) ?_;refine qY d4O ?_;refine qC ?_ ?_<;>intro h2
  ·have hk4:¬ k=4:=sp_ h2;rw [n_0 hk4] at hr;refine qY o7 ?_;refine qY (c6N rfl tt tt rfl rfl) ?_;refine qY o7 ?_;exact ⟨(m+1,max n (c.dp+1)),_,⟨do_,do_,do_,hr⟩,⟨o0,o0,⟨tt,(by show (iv (max (n:Int) ((c.dp:Int)+1)))=iv ((max n (c.dp+1):Nat):Int);congr 2;omega)⟩,o0,o0,o0,tt⟩,rfl⟩
  ·have hk4:k=4:=sp_ h2;rw [n_1 hk4] at hr;refine qY (c6N rfl tt tt rfl rfl) ?_;refine qY o7 ?_;exact ⟨(m+1,max n (c.dp+0)),_,⟨do_,do_,do_,hr⟩,⟨o0,o0,⟨tt,(by show (iv (max (n:Int) (c.dp:Int)))=iv ((max n (c.dp+0):Nat):Int);congr 2;omega)⟩,o0,o0,o0,tt⟩,rfl⟩
 ·have bX:m=ch.length:=by simp [R0] at h1;omega
  rw [bX,b5m,dpL] at hr;refine V9 ?_;exact ⟨_,rE1,_,_,rfl,rfl,F1 (by rw [hr])⟩
theorem b4H {E:List Ex} {en:Bool} (hE:E.length<=1000) {np:Nat}:∀ (n:Nat) (t:Tr) (s d:Nat),t.size<=n->a7H E t s->t.wf np d->RDp E en t s
 | 0,t,s,d,hs,_,_=>by have:=t.size_pos;omega
 | n+1,.n k u o nm ch,s,d,hs,dY,hw=>fun σ=>by
  have hw':=hw;rw [Tr.wf] at hw';have aF:(Tr.n k u o nm ch).size<=E.length:=by
   obtain ⟨E0,E1,he,_⟩:=dY;rw [he,n_7,n_7,Tr.flat_len];omega
  rw [Tr.size] at hs aF;have eJ:∀ (m:Nat) (c:Tr),ch[m]? = some c->c.size<=x8 ch:=fun m c hc=>by
   have h1:=a22 hc;have h2:=a0N ch (m+1);omega
  have cr:=a2J ch;exact b8.anyw (args:=[_,_]) hCC ⟨a0i _ _,.val _,tt⟩ (.val _) (c7T dY (fun m c hc=>b4H hE n c _ _ (by have:=eJ m c hc;omega) (dY.child hc) (a48 hw'.2.2 hc)) (fun m c hc=>by have:=Tr.dp_le c _ (a48 hw'.2.2 hc);omega) om_) σ
theorem c4I {d:De} (h:DeG d) (en:Bool) (σ:List b9):∃ n:Nat,n<=32/\b8 CC 225 [.list (d.body.map Ex.cv) en none,iv ((d.body.length:Int) - 1)] σ fun r τ=>r = .ret (iv n)/\τ=σ:=by
 obtain ⟨t,h1,h2⟩:=h.tree;have hl:d.body.length=t.size:=by rw [h1,Tr.flat_len]
 have hp:=t.size_pos;have hb:=h.blen;have hdp:=Tr.dp_le t 1 h2;have:=b4H (E:=d.body) (en:=en) om_ t.size t 0 1 (n_6 _) ⟨[],[],by rw [h1];simp,rfl⟩ h2 σ;rw [show ((0+t.size - 1:Nat):Int)=(d.body.length:Int) - 1 by omega] at this;exact ⟨t.dp,om_,this⟩
def fiD (k:Int) (o pa pk:Str):List De->Nat->En->En
 | [],_,e=>e
 | d::l,j,e=>fiD k o pa pk l (j+1) (if (d.k == k && decide (d.name=o))=true then (if (e.ct+1 == 1)=true then ⟨pk,e.o,e.k,pa,j,e.ct+1⟩ else ⟨e.p,e.o,e.k,e.pl,e.ix,e.ct+1⟩) else e)
def fiL (k:Int) (p o:Str):List (Str × Src)->En->En
 | [],e=>e
 | x::l,e=>fiL k p o l (if ((k != 3) && !decide (x.2.pkg=p))=true then e else fiD k o x.1 x.2.pkg x.2.decls 0 e)
def fiE (L:List (Str × Src)) (k:Int) (p o:Str):En:=fiL k p o L ⟨if k=3 then [] else p,o,k,[],0,0⟩
theorem c9a {o pa pk:Str} {l:List De} {j:Nat} {d:De} {e:En} (h:l[j]? = some d):fiD k o pa pk (l.drop j) j e=fiD k o pa pk (l.drop (j+1)) (j+1) (if (d.k == k && decide (d.name=o))=true then (if (e.ct+1 == 1)=true then ⟨pk,e.o,e.k,pa,j,e.ct+1⟩ else ⟨e.p,e.o,e.k,e.pl,e.ix,e.ct+1⟩) else e):=by
 obtain ⟨ae,rfl⟩:=n_3.1 h;rw [R4 ae];rfl
theorem c6V {p o:Str} {l:List (Str × Src)} {x:Str × Src} {e:En} (h:l[i]? = some x):fiL k p o (l.drop i) e=fiL k p o (l.drop (i+1)) (if ((k != 3) && !decide (x.2.pkg=p))=true then e else fiD k o x.1 x.2.pkg x.2.decls 0 e):=by
 obtain ⟨ae,rfl⟩:=n_3.1 h;rw [R4 ae];rfl
theorem c9A {x:Str × Src} (h:L[i]? = some x):(L.map Prod.fst)[i]? = some x.1:=by rw [Q0,h];rfl
theorem c0q {x:Str × Src} (h:L[i]? = some x):(L.map Prod.snd)[i]? = some x.2:=by rw [Q0,h];rfl
theorem b6G (L:List (Str × Src)) (k:Int) (p o:Str) (hL:L.length<=1000) (hd:∀ x∈L,x.2.decls.length<=100000) (σ:List b9):b8 CC 62 [.agg (a0I (L.map Prod.fst) (L.map Prod.snd)),iv k,(sv p),(sv o)] σ fun r Y=>r = .ret (.agg (fiE L k p o).cells)/\Y=σ:=by
 refine an_ Tryz.func62 ?_;refine c65 ?_;refine qD (p7 rfl a5i rfl j4 ?_);refine qY d6C ?_;refine d3u ?_;refine L9 hCC (α:=Str) (fun _=>[(1,iv k),(2,(sv p)),(3,(sv o)),(4,.ptr 0 0),(8,.ptr 1 0),(9,.ptr 2 0)]) (fun a=>[.box (a0I (L.map Prod.fst) (L.map Prod.snd)),.box En.z.cells,.box (⟨a,o,k,[],0,0⟩:En).cells]) (fun a=>a=if k=3 then [] else p) w8 uz_ ?_ ?_
 ·
  refine qk (qC ?_ ?_)<;> intro h1
  ·have hk:k=3:=sp_ h1;refine qD (j3 rfl tt rfl rfl j2 t_0 (.inl rfl) rfl rfl (nb rfl) ?_);exact ⟨([]:Str),_,(n_1 hk).symm,tu_,rfl⟩
  ·have hk:¬ k=3:=sp_ h1;exact ⟨p,_,(n_0 hk).symm,tu_,rfl⟩
 ·intro pp fm;have dW:(L.map Prod.snd).length=L.length:=a0W _;refine qk (qY c7I ?_);refine j7 hCC (α:=Nat × En) (fun a=>[(1,iv k),(2,(sv p)),(3,(sv o)),(4,.ptr 0 0),(8,.ptr 1 0),(9,.ptr 2 0),(22,(.list ((L.map Prod.snd).map Src.cv) (gnn (L.map Prod.snd).length) none)),(23,(iv ((L.map Prod.snd).length:Int))),(24,iv a.1)]) (fun a=>[.box (a0I (L.map Prod.fst) (L.map Prod.snd)),.box En.z.cells,.box a.2.cells]) (fun a=>a.1<=L.length/\fiE L k p o=fiL k p o (L.drop a.1) a.2/\0<=a.2.ct/\a.2.ct<=100000*(a.1:Int)) (fun a=>L.length - a.1) (0,(⟨pp,o,k,[],0,0⟩:En)) ⟨n_5 _,by rw [fm];rfl,b0N _,b0N _⟩ tu_ (ah:=[]) rfl w8 uz_ ?_;intro ⟨i,e⟩ ⟨hi,hr,h0,hc⟩;dsimp only at hi hr h0 hc ⊢;refine qk (qC ?_ ?_)<;> intro h2
  ·have ae:i < L.length:=sm_ h2;obtain ⟨x,hb⟩:∃ x,L[i]? = some x:=⟨L[i]'ae,si_⟩;have hxd:=hd x (n_2 hb);rw [c6V hb] at hr;refine qY d3F ?_;refine c48 ?_;refine qG c55 ?_;refine qG a2b ?_;refine qG C3 ?_;refine qG (fun hg=>a1A rfl hg hg rfl rfl (a63 _ _)) ?_;refine qY M8 ?_;refine qC ?_ ?_<;>intro h3
   ·rw [n_1 h3] at hr;exact d2x
   ·rw [n_0 (by rw [h3];exact Bool.false_ne_true)] at hr;refine qY a3X ?_;refine j7 hCC (α:=Nat × En) (fun a=>[(1,iv k),(2,(sv p)),(3,(sv o)),(4,.ptr 0 0),(8,.ptr 1 0),(9,.ptr 2 0),(10,iv i),(11,.ptr 3 0),(22,(.list ((L.map Prod.snd).map Src.cv) (gnn (L.map Prod.snd).length) none)),(23,(iv ((L.map Prod.snd).length:Int))),(24,iv i),(38,(.list (x.2.decls.map De.cv) (gnn x.2.decls.length) none)),(39,iv x.2.decls.length),(40,iv a.1)]) (fun a=>[.box (a0I (L.map Prod.fst) (L.map Prod.snd)),.box En.z.cells,.box a.2.cells,.box x.2.cells]) (fun a=>a.1<=x.2.decls.length/\fiE L k p o=fiL k p o (L.drop (i+1)) (fiD k o x.1 x.2.pkg (x.2.decls.drop a.1) a.1 a.2)/\0<=a.2.ct/\a.2.ct<=100000*(i:Int)+(a.1:Int)) (fun a=>x.2.decls.length - a.1) (0,e) ⟨n_5 _,hr,h0,do_⟩ tu_ (ah:=[]) rfl w8 uz_ ?_;intro ⟨j,e⟩ ⟨hj,hr,h0,hc⟩;dsimp only at hj hr h0 hc ⊢;refine qk (qC ?_ ?_)<;> intro h4
    ·have hjt:j < x.2.decls.length:=sm_ h4;obtain ⟨d,hdd⟩:∃ d,x.2.decls[j]? = some d:=⟨x.2.decls[j]'hjt,si_⟩;rw [c9a hdd] at hr;refine qY (o9 rfl tt tt rfl rfl a9A a4H om_ (i8 hdd) rfl) ?_;refine z_7 ?_;refine qG b69 ?_;refine b7q ?_;refine qC ?_ ?_<;>intro h5
     ·rw [n_1 h5] at hr;refine z_6 ?_;refine qC ?_ ?_<;>intro h6
      ·rw [n_1 h6] at hr;refine cF [] [0,1,2,3,4,5,6,7,8] (tl:=[(9,[2,3,4,5,6,7]),(10,[7]),(11,[7]),(12,[]),(13,[])]) ?_;refine chf rfl (c9 rfl b4R) ?_;refine chf rfl c5r ?_;refine chf rfl (c9 rfl b0C) ?_;refine chf rfl c5G ?_;refine chf rfl X0 ?_;refine chf rfl (c9 rfl b5f) ?_;refine chf rfl (c9 rfl a6I) ?_;refine chf rfl X0 ?_;refine chf rfl (c9 rfl b2g) ?_;refine D6 ?_;refine B8 rfl rfl rfl (j3 rfl tt tt rfl j2 t_0 (.inl rfl) rfl rfl (nb rfl) ?_);refine ⟨⟨(by exact c9 rfl b0C),(by exact c9 rfl a6R),F3,(by exact c9 rfl b5f),(by exact c9 rfl a6I),F3,tt⟩,?_⟩;refine D7 rfl rfl (c9 rfl b2g) ⟨⟨F3,tt⟩,?_⟩;refine B8 rfl rfl rfl (j3 rfl tt tt rfl j2 t_0 (.inl rfl) rfl rfl (nb rfl) ?_);refine ⟨⟨F3,tt⟩,?_⟩;refine D7 rfl rfl (c9 rfl a8s) ⟨tt,?_⟩;refine B8 rfl rfl rfl (j3 rfl tt tt rfl j2 t_1 (.inl rfl) rfl rfl (nb rfl) ?_);refine a8D ?_;refine qY o7 ?_;exact ⟨(j+1,(⟨x.2.pkg,e.o,e.k,x.1,(j:Int),e.ct+1⟩:En)),_,⟨do_,do_,hr,do_,do_⟩,tu_,rfl⟩
      ·rw [n_0 (by rw [h6];exact Bool.false_ne_true)] at hr;refine qY o7 ?_;exact ⟨(j+1,(⟨e.p,e.o,e.k,e.pl,e.ix,e.ct+1⟩:En)),_,⟨do_,do_,hr,do_,do_⟩,tu_,rfl⟩
     ·rw [n_0 (by rw [h5];exact Bool.false_ne_true)] at hr;refine qY o7 ?_;exact ⟨(j+1,e),_,⟨do_,do_,hr,h0,do_⟩,tu_,rfl⟩
    ·have aE:x.2.decls.length<=j:=sm_ h4;rw [T5 aE] at hr;exact d2x
  ·have aE:L.length<=i:=sm_ h2;rw [T5 aE] at hr;replace hr:fiE L k p o=e:=hr;refine j6 ?_;refine qD (j3 rfl tt tt rfl j2 b1c j4 rfl rfl (nb rfl) ?_);refine c6 ?_;exact ⟨_,D5 rfl c07,_,_,rfl,rfl,(by rw [hr];exact .old (En.pure _).old)⟩
def gV {α:Type}:List α->Nat->CV
 | [],_=>.list [] false none
 | x::l,q=>.vec q 0 (x::l).length
theorem b6u {l:List α} (h:l≠[]) (q:Nat):gV l q = .vec q 0 l.length:=by cases l;exact absurd rfl h;rfl
theorem c2j {l:List Fi} (hLe:C7 l=L) (nn:Bool) (h0:B2 l=0) (hl:l.length<=1000000) (hp:∀ f∈l,f.p.length<=1000000000) (hbl:∀ q b,C2 l q=some b->b.length<=1000000000) (hd:B2 l=0->∀ f∈l,C2 l f.p=some f.b) (σ:List b9):b8 CC 55 [.agg (B5 l nn)] σ fun r τ=>r = .ret (.agg (a0I (L.map Prod.fst) (L.map Prod.snd)))/\τ=σ:=by
 have h:=c9E l nn hl hp hbl hd σ;rw [b1U,b2K,n_1 h0,n_1 h0,hLe] at h;exact h
def okK:List Ex->Nat->List Int->Prop
 | [],_,st=>st.length=1
 | x::l,i,st=>x.args.length<=st.length/\x.args=st.drop (st.length - x.args.length)/\okK l (i+1) (st.take (st.length - x.args.length)++[(i:Int)])
theorem c79 {l:List Ex} {x:Ex} (h:l[i]? = some x) (st:List Int):okK (l.drop i) i st↔x.args.length<=st.length/\x.args=st.drop (st.length - x.args.length)/\okK (l.drop (i+1)) (i+1) (st.take (st.length - x.args.length)++[(i:Int)]):=by
 obtain ⟨ae,rfl⟩:=n_3.1 h;rw [R4 ae,okK]
def sO:List Int->List Int->b9
 | [],_=>.dead
 | x::l,rest=>.vec 1 ((x::l++rest).map icv)
theorem c8A {l:List Int} (h:l≠[]) (rest:List Int):sO l rest = .vec 1 ((l++rest).map icv):=by cases l;exact absurd rfl h;rfl
theorem b0v (n:Nat) (l r:List Int):J0 n (sO l r):=by
 cases l
 ·trivial
 ·exact b0M n _
theorem b5c (E:List Ex) (en:Bool) (hE:E.length<=1000) (hA:∀ x∈E,¬ arK x.k < 0->(x.args.length:Int)=arK x.k) (bd:okK E 0 []):b8 CC 223 [(.list (E.map Ex.cv) en none)] [] fun r τ=>∃ _:Unit,a0T 0 τ r (.ret (.val (.bool true)))/\True:=by
 refine qO Tryz.func223 ?_;refine qY b4Y ?_;refine B9 hCC 0 rfl (α:=List Int × List Int × Nat) (fun a=>[(3,gV a.1 0),(8,(.list (E.map Ex.cv) en none)),(9,iv E.length),(10,iv a.2.2)]) (fun a=>[sO a.1 a.2.1]) (fun a=>a.2.2<=E.length/\a.1.length+a.2.1.length<=a.2.2/\okK (E.drop a.2.2) a.2.2 a.1) (fun a=>E.length - a.2.2) ⟨([],[],0),[99],⟨n_5 _,n_6 _,bd⟩,⟨rfl,rfl⟩,ut_,uq_⟩ ?_;rintro ⟨st,rest,i⟩ ⟨hi,hsr,hr⟩;dsimp only at hi hsr hr ⊢;refine qs 2 (qC ?_ ?_)<;> intro h1
 ·have ae:i < E.length:=sm_ h1;obtain ⟨x,hb⟩:∃ x,E[i]? = some x:=⟨E[i]'ae,si_⟩;rw [c79 hb] at hr;obtain ⟨k1,k2,hr⟩:=hr;have ig:=hA x (n_2 hb);by_cases aC:st=[]
  ·subst aC;refine D4 ?_;refine qs 2 (qY c0x ?_);refine z_8 ?_;refine qY c4P ?_;refine L9 hCC (α:=Unit) (fun _=>[(3,(.list [] false none)),(4,iv i),(5,.ptr 1 0),(6,iv x.args.length),(8,(.list (E.map Ex.cv) en none)),(9,iv E.length),(10,iv i)]) (fun _=>[.dead,.box x.cells]) (fun _=>True) w8 uz_ ?_ ?_
   ·
    refine qk (qC ?_ ?_)<;> intro h2
    ·exact c4G
    ·have aE:¬ arK x.k < 0:=sp_ h2;have cb:=ig aE;exact ⟨(),_,tt,d4n,rfl⟩
   ·intro _ _;refine qk (qY a02 ?_);refine a2j ?_;refine qG (fun hg=>a0s rfl hg rfl t_4 b0p rfl) ?_;refine a79 ?_;refine cC ?_ ?_<;>intro h3
    ·exfalso;simp at h3;simp at k1;simp [k1] at h3
    ·refine qk ?_;refine j7 hCC (α:=Nat) (fun k=>[(3,(.list [] false none)),(4,iv i),(5,.ptr 1 0),(6,iv x.args.length),(7,iv k),(8,(.list (E.map Ex.cv) en none)),(9,iv E.length),(10,iv i)]) (fun _=>[.dead,.box x.cells]) (fun k=>k<=x.args.length) (fun k=>x.args.length - k) 0 (n_5 _) tu_ (ah:=[]) rfl w8 uz_ ?_;intro k hk;refine qk ?_;refine cC ?_ ?_<;>intro h4
     ·exfalso;have:=Nat.le_zero.1 k1;simp at h4;omega
     ·have k0:x.args.length=0:=Nat.le_zero.1 k1;have hnil:∀ r∈([]:List (List CV)),r.length=1:=fun r h=>by cases h
      have dR:([]:List (List CV)).length=0:=rfl;have da:([]:List Int).length=0:=rfl;refine j6 ?_;refine qY a02 ?_;refine qY a76 ?_;refine qY (a3b (h:=0) rfl tt rfl t_4 t_1 b07 rfl a8g a8w G7) ?_;refine qY d4i ?_;refine qD (c9v 1 rfl tt tt rfl q_2 t_4 t_1 b9g t_8 rfl si_ c7U G7 si_ ?_);refine a8U ?_;exact ⟨(([]++[(i:Int)]),[],i+1),[2],⟨do_,do_,by dsimp only;simp,sp_ hr⟩,⟨rfl,rfl⟩,ut_,uq_⟩
  ·rw [b6u aC,c8A aC];by_cases bw:x.args.length=0/\rest=[]
   ·obtain ⟨dM,aL⟩:=bw;refine D4 ?_;refine qs 2 (qY c0x ?_);refine z_8 ?_;refine qY c4P ?_;refine L9 hCC (α:=Unit) (fun _=>[(3,(.vec 0 0 st.length)),(4,iv i),(5,.ptr 1 0),(6,iv x.args.length),(8,(.list (E.map Ex.cv) en none)),(9,iv E.length),(10,iv i)]) (fun _=>[(.vec 1 ((st++rest).map icv)),.box x.cells]) (fun _=>True) w8 uz_ ?_ ?_
    ·
     refine qk (qC ?_ ?_)<;> intro h2
     ·exact c4G
     ·have aE:¬ arK x.k < 0:=sp_ h2;have cb:=ig aE;exact ⟨(),_,tt,d4n,rfl⟩
    ·intro _ _;refine qk (qY a02 ?_);refine a2j ?_;refine qG (fun hg=>a43 rfl hg rfl t_4 rfl rfl) ?_;refine a79 ?_;refine cC ?_ ?_<;>intro h3
     ·exfalso;simp at h3;omega
     ·refine d7b ?_;intro k hk;refine qk (qC ?_ ?_)<;> intro h4
      ·have fj:k < x.args.length:=sm_ h4;obtain ⟨v,hv⟩:∃ v,x.args[k]? = some v:=⟨x.args[k]'fj,si_⟩;have ci:(st++rest)[st.length - x.args.length+k]? = some v:=by
        rw [V3 om_,<- a5s,<- k2,hv]
       refine cW 15 ?_;refine c8v ?_;refine hY A3 ?_;refine hY c0R ?_;refine b46 ?_;refine hY b4K ?_;refine hY A3 ?_;refine hY a76 ?_;refine hY A3 ?_;refine hY a3E ?_;refine d1Z ?_;refine hY b0h ?_;refine Y5 ?_;refine cC ?_ ?_<;>intro h5
       ·exfalso;simp at h5
       ·refine a8U ?_;exact ⟨(k+1),_,⟨om_,om_⟩,tu_,rfl⟩
      ·refine j6 ?_;refine qY b4K ?_;refine qY a76 ?_;refine qY q_8 ?_;refine qY d4i ?_;refine qD (a4p (((st.take (st.length - x.args.length)++[(i:Int)])++[]).map icv) (st.take (st.length - x.args.length)++[(i:Int)]).length rfl tt tt rfl q_2 t_4 t_1 b9g t_8 rfl rfl (by simp [dM,aL]) si_ c7U G7 (by simp [dM,aL,icv]) (by simp [dM,aL]) ?_);refine a8U ?_;exact ⟨((st.take (st.length - x.args.length)++[(i:Int)]),[],i+1),[2],⟨do_,do_,by dsimp only;simp;omega,hr⟩,⟨rfl,rfl⟩,q_1,⟨.inr ⟨_,rfl,.same (c8A si_ _).symm (b0v _ _ _)⟩,tt⟩⟩
   ·have hin2:st.length - x.args.length+1<=st.length+rest.length:=by
     rcases b1h x.args.length with h | h
     ·have:rest≠[]:=fun e=>bw ⟨h,e⟩;have:=b1w.2 this;omega
     ·omega
    refine D4 ?_;refine qs 2 (qY c0x ?_);refine z_8 ?_;refine qY c4P ?_;refine L9 hCC (α:=Unit) (fun _=>[(3,(.vec 0 0 st.length)),(4,iv i),(5,.ptr 1 0),(6,iv x.args.length),(8,(.list (E.map Ex.cv) en none)),(9,iv E.length),(10,iv i)]) (fun _=>[(.vec 1 ((st++rest).map icv)),.box x.cells]) (fun _=>True) w8 uz_ ?_ ?_
    ·
     refine qk (qC ?_ ?_)<;> intro h2
     ·exact c4G
     ·have aE:¬ arK x.k < 0:=sp_ h2;have cb:=ig aE;exact ⟨(),_,tt,d4n,rfl⟩
    ·intro _ _;refine qk (qY a02 ?_);refine a2j ?_;refine qG (fun hg=>a43 rfl hg rfl t_4 rfl rfl) ?_;refine a79 ?_;refine cC ?_ ?_<;>intro h3
     ·exfalso;simp at h3;omega
     ·refine d7b ?_;intro k hk;refine qk (qC ?_ ?_)<;> intro h4
      ·have fj:k < x.args.length:=sm_ h4;obtain ⟨v,hv⟩:∃ v,x.args[k]? = some v:=⟨x.args[k]'fj,si_⟩;have ci:(st++rest)[st.length - x.args.length+k]? = some v:=by
        rw [V3 om_,<- a5s,<- k2,hv]
       refine cW 15 ?_;refine c8v ?_;refine hY A3 ?_;refine hY c0R ?_;refine b46 ?_;refine hY b4K ?_;refine hY A3 ?_;refine hY a76 ?_;refine hY A3 ?_;refine hY a3E ?_;refine d1Z ?_;refine hY b0h ?_;refine Y5 ?_;refine cC ?_ ?_<;>intro h5
       ·exfalso;simp at h5
       ·refine a8U ?_;exact ⟨(k+1),_,⟨om_,om_⟩,tu_,rfl⟩
      ·refine j6 ?_;refine qY b4K ?_;refine qY a76 ?_;refine qY q_8 ?_;refine qY d4i ?_;refine qD (b1F (((st.take (st.length - x.args.length)++[(i:Int)])++((st++rest).drop (st.length - x.args.length+1))).map icv) (st.take (st.length - x.args.length)++[(i:Int)]).length rfl tt tt rfl q_2 t_4 t_1 rfl Q7 (by rw [K9];unfold V2;simp [b5r,icv,b1X,List.map_drop,b9W];done) si_ rfl ?_);refine a8U ?_;exact ⟨((st.take (st.length - x.args.length)++[(i:Int)]),((st++rest).drop (st.length - x.args.length+1)),i+1),[0],⟨do_,do_,by dsimp only;simp;omega,hr⟩,⟨rfl,rfl⟩,q_1,⟨.inr ⟨_,rfl,.same (c8A si_ _).symm (b0v _ _ _)⟩,tt⟩⟩
 ·have hie:i=E.length:=sm_ h1;rw [hie,b5m,okK] at hr;obtain ⟨z,rfl⟩:=List.length_eq_one_iff.1 hr;refine j6 ?_;refine qY b4K ?_;refine c6 ?_;exact ⟨_,a1W rfl tt rfl,⟨(),.ret (.old (.val _)),tt⟩⟩
theorem b9F (E:List Ex) (en:Bool) (hE:E.length<=1000) (hA:∀ x∈E,¬ arK x.k < 0->(x.args.length:Int)=arK x.k) (bd:okK E 0 []) (σ:List b9):b8 CC 223 [.list (E.map Ex.cv) en none] σ fun r τ=>r = .ret (.val (.bool true))/\τ=σ :=
 (G4 (res:=fun _:Unit=>.ret (.val (.bool true))) (P:=fun _=>True) hCC (fun a h=>by simp at h;subst h;exact a0i _ _) (b5c E en hE hA bd) (fun _ _=>.val _) σ).mono fun r τ ⟨_,h1,h2,_⟩=>⟨h1,h2⟩
mutual
theorem b5g:∀ (t:Tr) (s:Nat) (R:List Ex) (st:List Int),okK (t.flat s++R) s st↔okK R (s+t.size) (st++[((s+t.size - 1:Nat):Int)])
 | .n k u o nm ch,s,R,st=>by
  rw [Tr.flat,F7,b3h ch s _ st,List.singleton_append,okK,Tr.size];have hl:(st++o3 ch s).length - (o3 ch s).length=st.length:=by rw [n_7];omega
  dsimp only;rw [hl,List.drop_left,List.take_left,n_7,show s+(x8 ch+1) - 1=s+x8 ch by omega,<- a8W];exact ⟨fun h=>h.2.2,fun h=>⟨om_,rfl,h⟩⟩
theorem b3h:∀ (l:List Tr) (s:Nat) (R:List Ex) (st:List Int),okK (J1 l s++R) s st↔okK R (s+x8 l) (st++o3 l s)
 | [],s,R,st=>by rw [J1,x8,o3,a72,a1d];rfl
 | t::l,s,R,st=>by rw [J1,F7,b5g t s,b3h l,o3,x8,F7,List.singleton_append,a8W]
end
theorem c7f (t:Tr):okK (t.flat 0) 0 []:=by
 have:=(b5g t 0 [] []).2 (by simp [okK]);rwa [a1d] at this
theorem DeG.ar {d:De} (h:DeG d):∀ x∈d.body,U6 d.params.length x.k x.num x.op x.name x.args.length:=fun x hx=>by
 obtain ⟨t,h1,h2⟩:=h.tree;obtain ⟨j,hj⟩:=L7.1 hx;have hl:=(n_3.1 hj).1;rw [h1,Tr.flat_len] at hl;obtain ⟨y,z,ch,g⟩:=b4a h2 hl;rw [h1] at hj;obtain rfl:=Option.some.inj (hj.symm.trans g.e);exact g.ok
theorem U6.arK {np c:Nat} {k u o:Int} {nm:Str} (h:U6 np k u o nm c) (hn:¬ arK k < 0):(c:Int)=arK k:=by
 have hc:=h.cnt;unfold Go.Proofs.YtlppbmfecjabeaaGreatDoor.arK at hn ⊢;by_cases h3:k=3
 ·rw [n_1 h3] at hn;omega
 ·rw [n_0 h3] at hn ⊢;split at hc
  ·rename_i h4;rw [n_1 h4];omega
  ·rename_i h4;rw [n_0 h4];split at hc
   ·rename_i h5;rw [n_1 h5];omega
   ·rename_i h5;rw [n_0 h5];split at hc
    ·rename_i h6;rw [n_1 h6];omega
    ·rename_i h6;rw [n_0 h6];omega
theorem c3H (l:List De) (nn:Bool) (k:Int) (u:Str) (hl:l.length<=1000000):b8 CC 224 [.agg [sv [],.list [] false none,.list (l.map De.cv) nn none],iv k,(sv u)] [] fun r Y=>r = .ret (.val (.bool (l.any fun d=>(d.k == k) && decide (d.name=u))))/\Y=[]:=by
 refine c7 (qO Tryz.func224 ?_);refine c8n ?_;refine j7 hCC (α:=Nat) (fun i=>[(1,iv k),(2,(sv u)),(10,(.list (l.map De.cv) nn none)),(11,iv l.length),(12,iv i)]) (fun _=>[.box [sv [],.list [] false none,.list (l.map De.cv) nn none]]) (fun i=>i<=l.length/\(l.any fun d=>(d.k == k) && decide (d.name=u))=((l.drop i).any fun d=>(d.k == k) && decide (d.name=u))) (fun i=>l.length - i) 0 ⟨n_5 _,rfl⟩ tu_ (ah:=[]) rfl w8 uz_ ?_;intro i ⟨hi,hd⟩;refine qk (qC ?_ ?_)<;> intro h1
 ·have ae:i < l.length:=sm_ h1;obtain ⟨w,hb⟩:∃ w,l[i]? = some w:=⟨l[i]'ae,si_⟩;refine qY c74 ?_;refine z_7 ?_;refine qG b69 ?_;refine b7q ?_;refine qC ?_ ?_<;>intro h2
  ·have hw:((w.k == k) && decide (w.name=u))=true:=sp_ h2;refine c6 ?_;exact ⟨_,rE1,_,_,rfl,rfl,j8 (show true=(l.any fun d=>(d.k == k) && decide (d.name=u)) from (b2Z hb hw).symm)⟩
  ·have hw:((w.k == k) && decide (w.name=u))=false:=sp_ h2;exact d1u
 ·have aE:l.length<=i:=sm_ h1;refine V9 ?_;exact ⟨_,rE1,_,_,rfl,rfl,j8 (show false=(l.any fun d=>(d.k == k) && decide (d.name=u)) by rw [hd,T5 aE];rfl)⟩
theorem c3M (l:List De) (nn:Bool) (i:Nat) (k:Int) (u:Str) (hl:l.length<=1000000) (σ:List b9):b8 CC 224 [.agg [sv [],.list [] false none,.list (((l.map De.cv).take i).drop 0) nn none],iv k,sv u] σ fun r Y=>r = .ret (.val (.bool ((l.take i).any fun d=>(d.k == k) && decide (d.name=u))))/\Y=σ:=by
 rw [a9s,<- b1X];exact b8.anyw hCC (by repeat' (first|exact .val _|exact E7 [] _|exact a4q _ _|exact tt | refine o8 ?_ | refine ⟨?_,?_⟩)) (.val _) (c3H (l.take i) nn k u a4a) σ
theorem c05 (l:List Str) (nn:Bool) (i:Nat) (x:Str) (hl:l.length<=1000000) (σ:List b9):b8 CC 186 [.list (((l.map scv).take i).drop 0) nn none,sv x] σ fun r Y=>r = .ret (.val (.bool (decide (x∈l.take i))))/\Y=σ:=by
 rw [a9s,<- b1X];exact a6e (l.take i) nn x a4a σ
theorem c6j {l:List De} (h:(l.map fun d=>(d.k,d.name)).Nodup) {d:De} (hd:l[i]? = some d):((l.take i).any fun y=>(y.k == d.k) && decide (y.name=d.name))=false:=by
 refine List.any_eq_false.2 fun y hy he=>?_;simp at he;refine a1s h (i:=i) (y:=(d.k,d.name)) (by rw [Q0,hd];rfl) ?_;rw [<- b1X];exact I9.2 ⟨y,hy,by rw [he.1,he.2]⟩
theorem DeG.nlen {d:De} (h:DeG d):d.name.length<=80:=by
 by_cases hk:d.k=3
 ·exact L2 (h.path hk)
 ·have:=B7 (h.name hk).1;omega
theorem b9B (x:Src) (h:a2f x) (σ:List b9):b8 CC 177 [.agg x.cells] σ fun r Y=>r = .ret (iv (0))/\Y=σ:=by
 refine b8.anyw hCC pu_ pu_ (c7 (qO Tryz.func177 ?_)) σ;refine qD (F5 rfl tt j2 j4 ?_);refine qY (c4 rfl c0F ⟨tt,tt⟩ (a40 x.pkg (by have:=B7 h.pkg.1;omega) _) rfl) ?_;refine qC ?_ ?_<;>intro h1
 ·exfalso;simp [h.pkg] at h1
 ·have bh:=h.impl;have fi:=h.decl;refine qY I7 ?_;refine j7 hCC (α:=Nat) (fun i=>[(1,.ptr 0 0),(24,(.list (x.imports.map scv) (gnn x.imports.length) none)),(25,iv x.imports.length),(26,iv i)]) (fun _=>[.box x.cells]) (fun i=>i<=x.imports.length) (fun i=>x.imports.length - i) 0 (n_5 _) tu_ (ah:=[]) rfl w8 uz_ ?_;intro i hi;refine qk (qC ?_ ?_)<;> intro h2
  ·have ae:i < x.imports.length:=sm_ h2;obtain ⟨y,hb⟩:∃ y,x.imports[i]? = some y:=⟨x.imports[i]'ae,si_⟩;have bI:=h.imp y (n_2 hb);refine d2b ?_;refine qC ?_ ?_<;>intro h3
   ·exfalso;simp [bI] at h3
   ·exact b35
  ·refine j6 ?_;refine qY a3X ?_;refine j7 hCC (α:=Nat) (fun i=>[(1,.ptr 0 0),(35,(.list (x.decls.map De.cv) (gnn x.decls.length) none)),(36,iv x.decls.length),(37,iv i)]) (fun _=>[.box x.cells]) (fun i=>i<=x.decls.length) (fun i=>x.decls.length - i) 0 (n_5 _) tu_ (ah:=[]) rfl w8 uz_ ?_;intro i hi;refine qk (qC ?_ ?_)<;> intro h4
   ·have ae:i < x.decls.length:=sm_ h4;obtain ⟨d,hd⟩:∃ d,x.decls[i]? = some d:=⟨x.decls[i]'ae,si_⟩;have hg:=h.dec d (n_2 hd);have aT:=hg.parl;have hbl:=hg.blen;have gH:=hg.nlen;refine qY a8r ?_;refine z_7 ?_;refine qG b7O ?_;refine qG a34 ?_;refine a3g ?_;refine qG b7O ?_;refine qG a34 ?_;refine b68 ?_;refine qH rfl rfl (fun hk hg=>j5 rfl tt rfl b0J rfl a2W de_) ?_;refine qH rfl rfl (fun hk hg=>m0 rfl ⟨hk,hg⟩ rfl b3F rfl rfl) ?_;refine qH rfl rfl (fun hk hg=>a0s rfl ⟨hk,hg⟩ rfl t_2 b0p rfl) ?_;refine d0m ?_;refine qY Q1 ?_;refine qG b7O ?_;refine qG a34 ?_;refine b68 ?_;refine d3x ?_;refine qH rfl rfl (fun hk hg=>c4 rfl c3I ⟨⟨hk,hg⟩,tt⟩ (a1h d.name _) rfl) ?_;refine d0u ?_;refine qY Q1 ?_;refine qG b7O ?_;refine qG a34 ?_;refine b68 ?_;refine d3x ?_;refine qH rfl rfl (fun hk hg=>c4 rfl c0F ⟨⟨hk,hg⟩,tt⟩ (a40 d.name om_ _) rfl) ?_;refine d0u ?_;refine qY Q1 ?_;refine qC ?_ ?_<;>intro h5
    ·exfalso;have hn:=hg.name;have hp:=hg.path;have hpa:=hg.pars
     rcases hg.kind with hk | hk | hk
     ·have a1:=hn om_;simp [hk,a1] at h5
     ·have a1:=hn om_;have a2:=hpa om_;simp [hk,a1,a2] at h5
     ·have a1:=hp hk;have a2:=hpa om_;simp [hk,a1,a2] at h5
    ·refine qY I7 ?_;refine j7 hCC (α:=Nat) (fun j=>[(1,.ptr 0 0),(6,.ptr 1 0),(35,(.list (x.decls.map De.cv) (gnn x.decls.length) none)),(36,iv x.decls.length),(37,iv i),(83,(.list (d.params.map scv) (gnn d.params.length) none)),(84,iv d.params.length),(85,iv j)]) (fun _=>[.box x.cells,.box d.cells]) (fun j=>j<=d.params.length) (fun j=>d.params.length - j) 0 (n_5 _) tu_ (ah:=[]) rfl w8 uz_ ?_;intro j hj;refine qk (qC ?_ ?_)<;> intro h6
     ·have ae:j < d.params.length:=sm_ h6;obtain ⟨y,hb⟩:∃ y,d.params[j]? = some y:=⟨d.params[j]'ae,si_⟩;have bI:=hg.par y (n_2 hb);refine d2b ?_;refine qC ?_ ?_<;>intro h7
      ·exfalso;simp [bI] at h7
      ·exact d3v
     ·refine j6 ?_;refine qY b4Y ?_;refine j7 hCC (α:=Nat) (fun j=>[(1,.ptr 0 0),(6,.ptr 1 0),(35,(.list (x.decls.map De.cv) (gnn x.decls.length) none)),(36,iv x.decls.length),(37,iv i),(94,(.list (d.body.map Ex.cv) (gnn d.body.length) none)),(95,iv d.body.length),(96,iv j)]) (fun _=>[.box x.cells,.box d.cells]) (fun j=>j<=d.body.length) (fun j=>d.body.length - j) 0 (n_5 _) tu_ (ah:=[]) rfl w8 uz_ ?_;intro j hj;refine qk (qC ?_ ?_)<;> intro h8
      ·have ae:j < d.body.length:=sm_ h8;obtain ⟨y,hb⟩:∃ y,d.body[j]? = some y:=⟨d.body[j]'ae,si_⟩;refine qY c0x ?_;refine z_8 ?_;refine qY I7 ?_;refine qY (c4 rfl Tryz.call222 j1 (b9C y d.params.length _ (hg.ar y (n_2 hb)) _) rfl) ?_;refine cC ?_ ?_<;>intro h9
       ·exfalso;simp at h9
       ·refine a8U ?_;exact ⟨(j+1),_,⟨om_,om_⟩,tu_,rfl⟩
      ·refine j6 ?_;refine qY (c4 rfl Tryz.call223 ⟨tt,tt⟩ (b9F d.body _ om_ (fun y hy=>(hg.ar y hy).arK) (by obtain ⟨t,ht,_⟩:=hg.tree;rw [ht];exact c7f t) _) rfl) ?_;refine cC ?_ ?_<;>intro aU
       ·exfalso;simp at aU
       ·exact b43
   ·refine j6 ?_;refine qY I7 ?_;refine j7 hCC (α:=Nat) (fun i=>[(1,.ptr 0 0),(113,(.list (x.imports.map scv) (gnn x.imports.length) none)),(114,iv x.imports.length),(115,iv i)]) (fun _=>[.box x.cells]) (fun i=>i<=x.imports.length) (fun i=>x.imports.length - i) 0 (n_5 _) tu_ (ah:=[]) rfl w8 uz_ ?_;intro i hi;refine qk (qC ?_ ?_)<;> intro ck
    ·have ae:i < x.imports.length:=sm_ ck;obtain ⟨y,hb⟩:∃ y,x.imports[i]? = some y:=⟨x.imports[i]'ae,si_⟩;refine b1Z ?_;refine c8s ?_;refine qG C3 ?_;refine qG (fun hg=>a3b (h:=i) rfl hg rfl t_2 t_0 b07 rfl ⟨hg,_,_,rfl,om_,om_⟩ a8w b7Q) ?_;refine qG C3 ?_;refine qG (fun hg=>c4 rfl b7k ⟨hg,hg,tt⟩ (c05 x.imports _ i y om_ _) rfl) ?_;refine qY Q1 ?_;refine qC ?_ ?_<;>intro cQ
     ·exfalso;have a1:=a1s h.impn hb;have a2:y≠x.pkg:=fun e=>h.impp (e ▸ n_2 hb);simp [a1,a2] at cQ
     ·exact b35
    ·refine j6 ?_;refine qY a3X ?_;refine j7 hCC (α:=Nat) (fun i=>[(1,.ptr 0 0),(134,(.list (x.decls.map De.cv) (gnn x.decls.length) none)),(135,iv x.decls.length),(136,iv i)]) (fun _=>[.box x.cells]) (fun i=>i<=x.decls.length) (fun i=>x.decls.length - i) 0 (n_5 _) tu_ (ah:=[]) rfl w8 uz_ ?_;intro i hi;refine qk (qC ?_ ?_)<;> intro dk
     ·have ae:i < x.decls.length:=sm_ dk;obtain ⟨d,hd⟩:∃ d,x.decls[i]? = some d:=⟨x.decls[i]'ae,si_⟩;have hg:=h.dec d (n_2 hd);have aT:=hg.parl;refine qY a8r ?_;refine z_7 ?_;refine cW 10 ?_;refine hY b5h ?_;refine hY b5J ?_;refine hY A3 ?_;refine hY (a3b (h:=i) rfl tt rfl a9A a4H b07 rfl a8g a8w b7Q) ?_;refine hY d7g ?_;refine hY c1T ?_;refine hY a1w ?_;refine hY a9y ?_;refine hY T2 ?_;refine hY (c4 rfl Tryz.call224 C6 (c3M x.decls _ i d.k d.name om_ _) rfl) ?_;refine Y5 ?_;refine qC ?_ ?_<;>intro gA
      ·exfalso;rw [c6j h.decn hd] at gA;cases gA
      ·refine qY I7 ?_;refine j7 hCC (α:=Nat) (fun j=>[(1,.ptr 0 0),(14,.ptr 1 0),(134,(.list (x.decls.map De.cv) (gnn x.decls.length) none)),(135,iv x.decls.length),(136,iv i),(152,(.list (d.params.map scv) (gnn d.params.length) none)),(153,iv d.params.length),(154,iv j)]) (fun _=>[.box x.cells,.box d.cells]) (fun j=>j<=d.params.length) (fun j=>d.params.length - j) 0 (n_5 _) tu_ (ah:=[]) rfl w8 uz_ ?_;intro j hj;refine qk (qC ?_ ?_)<;> intro h15
       ·have ae:j < d.params.length:=sm_ h15;obtain ⟨y,hb⟩:∃ y,d.params[j]? = some y:=⟨d.params[j]'ae,si_⟩;refine qY a6y ?_;refine qY (a3b (h:=j) rfl tt rfl t_2 t_0 b07 rfl a8g a8w b7Q) ?_;refine qY (c4 rfl b7k j1 (c05 d.params _ j y om_ _) rfl) ?_;refine qC ?_ ?_<;>intro h16
        ·exfalso;simp [a1s hg.nod hb] at h16
        ·exact d3v
       ·refine j6 ?_;exact b35
     ·refine j6 ?_;refine qY I7 ?_;refine qG b91 ?_;refine qG b9L ?_;refine qG c1V ?_;refine a3g ?_;refine cC ?_ ?_<;>intro h17
      ·exfalso;simp at h17;omega
      ·refine qk (qY a3X ?_);refine j7 hCC (α:=Nat) (fun i=>[(178,(.list (x.decls.map De.cv) (gnn x.decls.length) none)),(179,iv x.decls.length),(180,iv i)]) (fun _=>[.box x.cells]) (fun i=>i<=x.decls.length) (fun i=>x.decls.length - i) 0 (n_5 _) tu_ (ah:=[]) rfl w8 uz_ ?_;intro i hi;refine qk (qC ?_ ?_)<;> intro h18
       ·have ae:i < x.decls.length:=sm_ h18;obtain ⟨d,hd⟩:∃ d,x.decls[i]? = some d:=⟨x.decls[i]'ae,si_⟩;have hg:=h.dec d (n_2 hd);have aT:=hg.parl;have hbl:=hg.blen;obtain ⟨n,hn,hdeep⟩:=c4I hg (gnn d.body.length) [.box x.cells,.box d.cells];refine qY a8r ?_;refine z_7 ?_;refine qY I7 ?_;refine qG b4V ?_;refine qG b2i ?_;refine qG b6M ?_;refine a3g ?_;refine qG b4V ?_;refine qG b2i ?_;refine qG b4V ?_;refine qG b2i ?_;refine qG b6M ?_;refine qG d0s ?_;refine qG (fun hg=>c4 rfl Tryz.call225 ⟨hg,hg,tt⟩ (hdeep) rfl) ?_;refine a3g ?_;refine cC ?_ ?_<;>intro h19
        ·exfalso;simp at h19;omega
        ·exact b43
       ·refine V9 ?_;exact ⟨_,rE1,_,_,rfl,rfl,F1 rfl⟩
theorem b5v (a b c d e f:Bool):(a && (b && c) && !(d && (e || f))) = !(((!a || !b) || !c) || (d && (e || f))):=by cases a<;>cases b<;>cases c<;>cases d<;>cases e<;>cases f<;>rfl
theorem b11 (x:Src) (d:De):([112,97,99,107,97,103,101,32]++x.pkg++[59,10])++P5 x.imports++b7W d=a0q x d:=by unfold a0q b7W;simp only [F7]
theorem c5l {x:Src} {d:De} (h:a2f x) (hd:x.decls[i]? = some d):(([112,97,99,107,97,103,101,32]++x.pkg++[59,10])++P5 x.imports).length+(b7W d).length<=9223372036854775807:=by
 have:=a7G h (h.dec d (n_2 hd));rw [<- b11,n_7] at this;omega
theorem c60 (a b:Int):decide (a < b) = !decide (b<=a):=by by_cases h:b<=a<;>simp [h]<;>omega
theorem c6S (a b:Int):decide (a > b) = !decide (a<=b):=by by_cases h:a<=b<;>simp [h]<;>omega
theorem a3s (l:List Va) (nn:Bool) (σ:List b9):b8 CC 53 [.agg (T6 l nn)] σ fun r Y=>r = .ret (.val (.bool (a2s l)))/\Y=σ:=by
 refine b8.anyw hCC pu_ pu_ (c7 (qO Tryz.func53 ?_)) σ;refine qD (F5 rfl tt j2 j4 ?_);refine qY b41 ?_;refine qC ?_ ?_<;>intro h1
 ·have aj:¬ l.length<=16:=sm_ h1;refine c6 ?_;exact ⟨_,rE1,_,_,rfl,rfl,j8 (by rw [a2s,a1o aj];rfl)⟩
 ·have aj:l.length<=16:=sm_ h1;refine qY b41 ?_;refine j7 hCC (α:=Nat) (fun i=>[(1,.ptr 0 0),(10,(.list (l.map Va.cv) nn none)),(11,iv l.length),(12,iv i)]) (fun _=>[.box (T6 l nn)]) (fun i=>i<=l.length/\a2s l=evB (prv l i) (l.drop i)) (fun i=>l.length - i) 0 ⟨n_5 _,by rw [a2s,a1R aj];rfl⟩ tu_ (ah:=[]) rfl w8 uz_ ?_;intro i ⟨hi,hr⟩;refine qk (qC ?_ ?_)<;> intro h2
  ·have ae:(i:Int) < l.length:=sp_ h2;obtain ⟨y,hb⟩:=gx_ l i;obtain ⟨p,hp⟩:=b3m (l:=l) (i:=i) om_;have fm:0 < i->l[i - 1]? = some p:=fun h=>(hp h).2;rw [b47 hb] at hr;refine qY c1c ?_;refine d0C ?_;refine cW 30 ?_;refine d1S ?_;refine hY (c4 rfl c2a ⟨tt,tt⟩ (a1k y.n _) rfl) ?_;refine hY c0G ?_;refine hY A3 ?_;refine c8j ?_;refine c5f ?_;refine hY A3 ?_;refine c8j ?_;refine c5f ?_;refine c0z ?_;refine S9 rfl rfl tt rfl a6k ?_;refine S9 rfl rfl tt rfl a3G ?_;refine d6f ?_;refine d6Z ?_;refine d2n ?_;refine a4n rfl rfl (fun h=>h) rfl (fun hk hg=>o9 rfl ⟨hk,hg⟩ ⟨hk,hg⟩ rfl rfl c1q c0K d0L (i8 (hp (by change (_:Bool)=_ at hk;simp at hk hg;omega)).1) rfl) ?_;refine d7k ?_;refine d2H ?_;refine hY Q1 ?_;refine Y5 ?_;refine qC ?_ ?_<;>intro h3
   ·have u3:a1P (prv l i) y=false:=by rw [a1P,X8 fm,b5v,<- c60,<- c6S];rw [h3];rfl
    rw [u3,Bool.false_and] at hr;exact d1I
   ·have u3:a1P (prv l i) y=true:=by rw [a1P,X8 fm,b5v,<- c60,<- c6S];rw [h3];rfl
    rw [u3,b6t] at hr;exact a8I
  ·exact d2Q
theorem b0V (l:List Va) (nn:Bool) (s:Str) (hl:l.length<=1000000000) (σ:List b9):b8 CC 89 [.agg (T6 l nn),(sv s)] σ fun r Y=>r = .ret (.tup [(iv ((a0U l s).getD 0)),(.val (.bool ((a0U l s).isSome)))])/\Y=σ:=by
 refine b8.anyw hCC pu_ pu_ (c7 (qO Tryz.func89 ?_)) σ;refine qD (F5 rfl tt j2 j4 ?_);refine d6M ?_;intro i ⟨hi,hr⟩;refine qk (qC ?_ ?_)<;> intro h1
 ·have ae:(i:Int) < l.length:=sp_ h1;obtain ⟨y,hb⟩:=gx_ l i;rw [b1Q hb] at hr;refine qY c1c ?_;refine d0C ?_;refine qY a6x ?_;refine qC ?_ ?_<;>intro h2
  ·have u2:y.n=s:=sp_ h2;rw [n_1 u2] at hr;exact d3l
  ·have u2:¬ y.n=s:=sp_ h2;rw [n_0 u2] at hr;exact a8I
 ·have aE:l.length<=i:=sm_ h1;rw [T5 aE] at hr;exact d2A
theorem c18 (x:Src) (h:a2f x) (i:Nat) (d:De) (hd:x.decls[i]? = some d) (σ:List b9):b8 CC 147 [.agg x.cells,iv i] σ fun r Y=>r = .ret (.tup [(sv (a0q x d)),(iv (0))])/\Y=σ:=by
 refine b8.anyw hCC pu_ pu_ (c7 (qO Tryz.func147 ?_)) σ;refine qD (F5 rfl tt j2 j4 ?_);refine qY (c4 rfl Tryz.call177 ⟨tt,tt⟩ (b9B x h _) rfl) ?_;refine cC ?_ ?_<;>intro h1
 ·exfalso;simp at h1
 ·refine qk (qG C3 ?_);refine qG b91 ?_;refine qG b9L ?_;refine qG c1V ?_;refine a79 ?_;refine cC ?_ ?_<;>intro h2
  ·exfalso;have ae:=(n_3.1 hd).1;simp at h2;omega
  ·have ae:=(n_3.1 hd).1;have fi:=h.decl;refine qk ?_;refine cW 11 ?_;refine hY a8t ?_;refine hY (c4 rfl Tryz.call178 ⟨tt,tt⟩ (c3z x h _) rfl) ?_;refine hY b5h ?_;refine hY b5J ?_;refine hY A3 ?_;refine hY a8r ?_;refine hY c5j ?_;refine hY (c4 rfl Tryz.call179 ⟨tt,tt⟩ (c3m d (h.dec d (n_2 hd)) _) rfl) ?_;refine hY (G8 rfl tt tt rfl rfl (c5l h hd)) ?_;refine hY a0Q ?_;refine hY a3W ?_;refine Y5 ?_;refine c6 ?_;exact ⟨_,p8 (rs:=[.tmp 4,.tmp 5]) (cs:=[_,_]) rfl T1 (n_4 rfl),_,_,rfl,rfl,(by rw [b11];exact .tups ⟨.old (.val _),.old (.val _),tt⟩)⟩
def a6Q (L:List (Str × Src)) (e:En):Src × Int:=match L.find? (fun x=>decide (x.1=e.pl)) with
 | some x=>(x.2,e.ix)
 | none=>(Src.z,0)
theorem c3B {x:Str × Src} (h:L[i]? = some x) (e:En):a6Q (L.drop i) e=if x.1=e.pl then (x.2,e.ix) else a6Q (L.drop (i+1)) e:=by
 obtain ⟨ae,rfl⟩:=n_3.1 h;rw [R4 ae];unfold a6Q;rw [b7x];by_cases hh:L[i].1=e.pl
 ·simp [hh]
 ·simp [hh]
theorem b4U (L:List (Str × Src)) (e:En) (hL:L.length<=1000) (σ:List b9):b8 CC 146 [.agg (a0I (L.map Prod.fst) (L.map Prod.snd)),.agg e.cells] σ fun r Y=>r = .ret (.tup [.agg (a6Q L e).1.cells,(iv ((a6Q L e).2))])/\Y=σ:=by
 refine b8.anyw hCC pu_ pu_ (c7 (qO Tryz.func146 ?_)) σ;refine b3W ?_;refine qD (p7 rfl a2L rfl j4 ?_);refine qY I7 ?_;refine j7 hCC (α:=Nat) (fun i=>[(2,.ptr 0 0),(3,.ptr 1 0),(4,.ptr 2 0),(9,(iv ((L.map Prod.fst).length:Int))),(10,iv i)]) (fun _=>[.box (a0I (L.map Prod.fst) (L.map Prod.snd)),.box e.cells,.box Src.z.cells]) (fun i=>i<=L.length/\a6Q L e=a6Q (L.drop i) e) (fun i=>L.length - i) 0 ⟨n_5 _,rfl⟩ tu_ (ah:=[]) rfl w8 uz_ ?_;intro i ⟨hi,hr⟩;refine qk (qC ?_ ?_)<;> intro h1
 ·have ae:i < L.length:=sm_ h1;obtain ⟨x,hb⟩:∃ x,L[i]? = some x:=⟨L[i]'ae,si_⟩;rw [c3B hb] at hr;refine cW 8 ?_;refine hY b0C ?_;refine hY a6R ?_;refine hY A3 ?_;refine hY b5f ?_;refine hY a6I ?_;refine hY b2g ?_;refine hY T2 ?_;refine hY a6x ?_;refine Y5 ?_;refine qC ?_ ?_<;>intro h2
  ·have u2:x.1=e.pl:=sp_ h2;rw [n_1 u2] at hr;refine cF [] [0,1,2,3,4,5,6] (tl:=[(7,[5,6]),(8,[])]) ?_;refine chf rfl c6O ?_;refine chf rfl (c9 rfl c0V) ?_;refine chf rfl X0 ?_;refine chf rfl (c9 rfl d3F) ?_;refine chf rfl (c9 rfl (W7 rfl tt rfl b4X a2C (nb rfl))) ?_;refine chf rfl (c9 rfl a8s) ?_;refine chf rfl a90 ?_;refine d0p ?_;refine ⟨⟨(by exact c9 rfl a8s),a9z,tt⟩,?_⟩;refine b3f ?_;exact ⟨_,p8 (rs:=[.cell 4 67,.tmp 5]) (cs:=[_,_]) rfl c9F (n_4 rfl),_,_,rfl,rfl,(by rw [hr];exact .tups ⟨.old (o8 (Src.pure _)).old,.old (.val _),tt⟩)⟩
  ·have u2:¬ x.1=e.pl:=sp_ h2;rw [n_0 u2] at hr;exact a8I
 ·have aE:L.length<=i:=sm_ h1;rw [T5 aE] at hr;refine j6 ?_;refine qY d6A ?_;refine c30 ?_;exact ⟨_,p8 (rs:=[.cell 4 67,.tmp 5]) (cs:=[_,_]) rfl c9F (n_4 rfl),_,_,rfl,rfl,(by rw [hr];exact .tups ⟨.old (o8 (Src.pure Src.z)).old,.old (.val _),tt⟩)⟩
theorem d4S (m:Nat):a6z .rem .u64 (m:Int) 128=some (.int .u64 ((m%128:Nat):Int)):=by
 have h:(m:Int).tmod 128=((m%128:Nat):Int):=by rw [c5Y om_];omega
 simp [a6z,h]
theorem d5b (m:Nat) (h:m < 18446744073709551616):a6z .quo .u64 (m:Int) 128=some (.int .u64 ((m / 128:Nat):Int)):=by
 have h':(m:Int).tdiv 128=((m / 128:Nat):Int):=by rw [c1Q om_];omega
 simp [a6z,h',IntKind.wrap,IntKind.signed,IntKind.bits];omega
theorem d0B (m:Nat):CV.list [[CV.val (.int .u8 (IntKind.u8.wrap (((m%128:Nat):Int)+128)))]] true none = .list [bcv (UInt8.ofNat (m%128+128))] true none:=by
 have h:IntKind.u8.wrap (((m%128:Nat):Int)+128)=((m%128+128:Nat):Int):=by
  simp [IntKind.wrap,IntKind.signed,IntKind.bits];omega
 rw [h,bcv,c7J om_]
theorem b7m (l:Str) (nn:Bool) (n:Nat) (hl:l.length<=100000000000000) (hn:n < 18446744073709551616):b8 CC 150 [(.list (l.map bcv) nn none),.val (.int .u64 (n:Int))] [.dead] fun r τ=>F8 1 τ r (.ret (a0D (l++W2 n) 1)) [.dead,A1 tU8 (l++W2 n).length]:=by
 refine qO Tryz.func150 ?_;refine qD (a27 (l:=[]) (new:=l) (p:=0) rfl rfl tt rfl (fun M w v hr h=>(a2M rfl (by intro r hr;obtain ⟨b,_,rfl⟩:=I9.1 hr;rfl) M w v hr h).any) t_7 t_9 b02 a3J rfl (.inl t_7) rfl rfl a8q ?_);refine I4 (α:=Str × Nat × Nat) (fun x=>[(1,(.val (.int .u64 (x.2.1:Int)))),(5,(a0D x.1 x.2.2))]) (fun x=>b0z x.2.2 (A1 tU8 x.1.length)) (fun x=>l++W2 n=x.1++W2 x.2.1/\x.2.1<=n) (fun x=>x.2.1) (l,n,1) ⟨rfl,n_6 _⟩ tu_ rfl ?_;intro ⟨b,m,k⟩ _ ⟨hb,hmn⟩;dsimp only at hb hmn ⊢;have aj:b.length<=l.length+10:=by
  have h1:=n_9 List.length hb;have h2:=a2v (n:=n) (k:=9) om_;simp only [n_7] at h1;omega
 refine qk (qC ?_ ?_)<;> intro h1
 ·have eV:¬ m < 128:=by have:=a9m h1;omega
  rw [a1l m,n_0 eV] at hb;refine qY (a0d rfl tt rfl rfl rfl ((d4S m))) ?_;refine qY (a5N rfl tt rfl c6c b1n ((d3E (m%128)).trans (by rw [b8z om_]))) ?_;refine qY Z0 ?_;refine qY (B3 [[.val (.int .u8 (IntKind.u8.wrap (((m%128:Nat):Int)+128)))]] rfl ⟨tt,tt⟩ t_7 t_9 a3J rfl rfl rfl rfl rfl rfl rfl rfl rfl) ?_;refine qD (a27 (l:=b) (new:=[UInt8.ofNat (m%128+128)]) (p:=k) rfl tt tt rfl (b0b (d0B m)) t_7 t_9 b02 a3J rfl (.inl t_7) rfl (a6F _ _) a8q ?_);refine qY (a0d rfl tt rfl rfl rfl ((d5b m om_))) ?_;exact ⟨(b++[UInt8.ofNat (m%128+128)],m / 128,k+1),(show m / 128 < m by omega),(show l++W2 n=(b++[UInt8.ofNat (m%128+128)])++W2 (m / 128)/\m / 128<=n from ⟨by rw [hb];simp,om_⟩),⟨o0,⟨tt,(n_9 (a0D _) (b05 k _))⟩,tt⟩,(b1a _ _ _)⟩
 ·have eV:m < 128:=by have:=b7Y h1;omega
  rw [a1l m,n_1 eV] at hb;refine j6 ?_;refine qY d6F ?_;refine d6U ?_;refine c6 ?_;exact ⟨_,rE1,(by rw [hb];exact b4O)⟩
theorem b8U (l:Str) (nn:Bool) (n:Nat) (hl:l.length<=100000000000000) (hn:n < 18446744073709551616) (σ:List b9):b8 CC 150 [(.list (l.map bcv) nn none),.val (.int .u64 (n:Int))] σ fun r τ=>∃ _:Unit,r = .ret (a0D (l++W2 n) (σ.length+1))/\τ=σ++[.dead,A1 tU8 (l++W2 n).length]/\True :=
 a3i (α:=Unit) hCC (fun a ha=>by simp at ha;rcases ha with rfl | rfl;exact a1D _ _;exact .val _) (res:=fun _=>.ret (a0D (l++W2 n) 1)) (res':=fun _ m=>.ret (a0D (l++W2 n) (m+1))) (S:=fun _=>[.dead,A1 tU8 (l++W2 n).length]) (S':=fun _ _=>[.dead,A1 tU8 (l++W2 n).length]) (P:=fun _=>True)
  (U2 (L6 hCC ((b7m l nn n hl hn).mono fun r τ h=>⟨_,_,h,(),rfl,rfl,tt⟩))) (fun _ _=>rfl) (fun _ m i x h=>by
   rcases i with _ | _ | i
   ·injection h with h;subst h;exact ⟨_,rfl,.dead⟩
   ·injection h with h;subst h;exact ⟨_,rfl,a2x _ _⟩
   ·cases h) (fun _ m=>.ret (b0U rfl)) σ
theorem a1a (l:Str) (nn:Bool) (s:Str) (hl:l.length<=100000000000) (hs:s.length<=100000000000) (σ:List b9):b8 CC 98 [(.list (l.map bcv) nn none),(sv s)] σ fun r Y=>r = .ret (.list ((I6 l s).map bcv) (gnn (I6 l s).length) none)/\Y=σ:=by
 refine b8.anyw hCC pu_ pu_ (c7 (qO Tryz.func98 ?_)) σ;refine qY O8 ?_;refine qY c4C ?_;refine qD (c5 rfl Tryz.call150 j1 (b8U l nn s.length om_ om_ _) rfl ?_);have hpu:=a2v (n:=s.length) (k:=9) om_;intro _ _;refine qD (a27 (l:=(l++W2 s.length)) (new:=s) (p:=1) rfl tt tt rfl (b4c rfl) t_7 t_9 b02 a3J rfl (.inr t_5) rfl rfl (by simp only [n_7];omega) ?_);exact d2f
def a3x (fl:List Fi) (pkg:Str) (L:List (Str × Src)) (o:Str):Str:=L.foldl (fun o x=>if x.2.pkg=pkg then I6 (I6 o x.1) ((if B2 fl=0 then C2 fl x.1 else none).getD []) else o) o
theorem c2C {fl:List Fi} {pkg:Str} {x:Str × Src} (h:L[i]? = some x) (o:Str):a3x fl pkg (L.drop i) o=a3x fl pkg (L.drop (i+1)) (if x.2.pkg=pkg then I6 (I6 o x.1) ((if B2 fl=0 then C2 fl x.1 else none).getD []) else o):=by
 obtain ⟨ae,rfl⟩:=n_3.1 h;rw [R4 ae];rfl
theorem a49 {l:Str} (h:s.length<=1000000000):(I6 l s).length<=l.length+s.length+10:=by
 have:=a2v (n:=s.length) (k:=9) om_;unfold I6;simp only [n_7];omega
def c6H (L:List (Str × Src)) (k:Int) (p o:Str):Prop:=¬ (fiE L k p o).ct=0->¬ 1 < (fiE L k p o).ct->∃ (s:Src) (d:De) (i:Nat),a6Q L (fiE L k p o)=(s,(i:Int))/\a2f s/\s.decls[i]? = some d
noncomputable def a9P (L:List (Str × Src)) (k:Int) (p o:Str):Str:=if (fiE L k p o).ct=0 then [45] else if 1 < (fiE L k p o).ct then [63] else
 match (a6Q L (fiE L k p o)).1.decls[(a6Q L (fiE L k p o)).2.toNat]? with
 | some d=>[61]++a0q (a6Q L (fiE L k p o)).1 d
 | none=>[61]
theorem a8i (fl:List Fi) (nn:Bool) (L:List (Str × Src)) (pkg:Str) (hl:fl.length<=1000000) (hL:L.length<=1000) (hP:∀ x∈L,x.1.length<=1000) (hbl:∀ q b,C2 fl q=some b->b.length<=100000) (σ:List b9):b8 CC 96 [.agg (B5 fl nn),.agg (a0I (L.map Prod.fst) (L.map Prod.snd)),(sv pkg)] σ fun r Y=>r = .ret (sv ([61]++a3x fl pkg L []))/\Y=σ:=by
 refine an_ Tryz.func96 ?_;refine b1x ?_;refine cD (F5 rfl tt j2 j4 ?_);refine a7x ?_;refine z_0 ?_;refine cY a3W ?_;refine a6B ?_;refine cY (j5 rfl tt rfl b96 rfl b9R de_) ?_;refine cY c0V ?_;refine cY c7I ?_;refine a5G ?_;refine j7 hCC (α:=Nat × Str) (fun a=>[(2,(sv pkg)),(3,.ptr 0 0),(4,.ptr 1 0),(7,(.list (a.2.map bcv) (gnn a.2.length) none)),(13,(.list ((L.map Prod.snd).map Src.cv) (gnn (L.map Prod.snd).length) none)),(14,(iv ((L.map Prod.snd).length:Int))),(15,iv a.1)]) (fun _=>[.box (B5 fl nn),.box (a0I (L.map Prod.fst) (L.map Prod.snd))]) (fun a=>a.1<=L.length/\a3x fl pkg L []=a3x fl pkg (L.drop a.1) a.2/\a.2.length<=200000*a.1) (fun a=>L.length - a.1) (0,[]) ⟨n_5 _,rfl,n_6 _⟩ tu_ (ah:=[]) rfl w8 uz_ ?_;rintro ⟨i,o⟩ ⟨hi,hr,ho⟩;dsimp only at hi hr ho ⊢;refine a5H ?_;refine cC ?_ ?_<;>intro h1
 ·have ae:i < L.length:=sm_ h1;obtain ⟨x,hb⟩:∃ x,L[i]? = some x:=⟨L[i]'ae,si_⟩;rw [c2C hb] at hr;have bc:=hP x (n_2 hb);have hda:((if B2 fl=0 then C2 fl x.1 else none).getD []).length<=100000:=by
   split
   ·cases hdf:C2 fl x.1 with
    | none=>exact n_5 _
    | some b=>exact hbl _ _ hdf
   ·exact n_5 _
  refine c11 ?_;refine z_4 ?_;refine cY d3F ?_;refine cY (W7 rfl tt rfl b4X a2C (nb rfl)) ?_;refine cD (p7 rfl a2L rfl j4 ?_);refine cY a0Q ?_;refine cD (j3 rfl tt tt rfl j2 a2C j4 rfl rfl (nb rfl) ?_);refine a6t ?_;refine cY b4R ?_;refine cY T2 ?_;refine cY A3 ?_;refine cY a6x ?_;refine z8 ?_;refine cC ?_ ?_<;>intro h2
  ·have u2:x.2.pkg=pkg:=sp_ h2;rw [n_1 u2] at hr;have ca:=a49 (l:=o) (s:=x.1) om_;have dh:=a49 (l:=I6 o x.1) (s:=((if B2 fl=0 then C2 fl x.1 else none).getD [])) om_;refine D4 ?_;refine cW 12 ?_;refine hY a06 ?_;refine hY b0C ?_;refine hY a6R ?_;refine hY A3 ?_;refine hY b5f ?_;refine hY a6I ?_;refine hY (c4 rfl c7Z j1 (a7k fl nn x.1 hl _) rfl) ?_;refine hY A3 ?_;refine hY a4g ?_;refine hY a4g ?_;refine hY a0Q ?_;refine b16 ?_;refine z8 ?_;refine a3y ?_;refine cY b0C ?_;refine cY a6R ?_;refine cY A3 ?_;refine cY b5f ?_;refine cY a6I ?_;refine ye rfl c1l j1 (a1a o _ x.1 om_ om_ _) rfl ?_;refine cY A3 ?_;refine ye rfl c1l j1 (a1a (I6 o x.1) _ ((if B2 fl=0 then C2 fl x.1 else none).getD []) om_ om_ _) rfl ?_;refine z_3 ?_;refine a7n ?_;exact ⟨(i+1,I6 (I6 o x.1) ((if B2 fl=0 then C2 fl x.1 else none).getD [])),_,⟨do_,do_,hr,do_⟩,tu_,rfl⟩
  ·have u2:¬ x.2.pkg=pkg:=sp_ h2;rw [n_0 u2] at hr;refine C5 ?_;refine a7n ?_;exact ⟨(i+1,o),_,⟨do_,do_,hr,do_⟩,tu_,rfl⟩
 ·have aE:L.length<=i:=sm_ h1;rw [T5 aE] at hr;refine j6 ?_;refine z_4 ?_;refine cY b6y ?_;refine cY (G8 rfl rfl tt rfl rfl Q7) ?_;refine a2l ?_;exact ⟨_,rE1,_,_,rfl,rfl,C9 (n_9 str c1g)⟩
theorem a3m (L:List (Str × Src)) (k:Int) (p o:Str) (hL:L.length<=1000) (hd:∀ x∈L,x.2.decls.length<=100000) (bd:c6H L k p o) (σ:List b9):b8 CC 94 [.agg (a0I (L.map Prod.fst) (L.map Prod.snd)),iv k,(sv p),(sv o)] σ fun r Y=>r = .ret (sv (a9P L k p o))/\Y=σ:=by
 refine b8.anyw hCC pu_ pu_ (c7 (qO Tryz.func94 ?_)) σ;refine qD (F5 rfl tt j2 j4 ?_);refine qY (c4 rfl Tryz.call62 a3A (b6G L k p o hL hd _) rfl) ?_;refine d3u ?_;refine qC ?_ ?_<;>intro h1
 ·have u1:(fiE L k p o).ct=0:=sp_ h1;refine c6 ?_;exact ⟨_,a1W rfl tt rfl,_,_,rfl,rfl,C9 (n_9 str (show ([45]:Str)=a9P L k p o by unfold a9P;rw [n_1 u1]))⟩
 ·have u1:¬ (fiE L k p o).ct=0:=sp_ h1;refine qC ?_ ?_<;>intro h2
  ·have u2:1 < (fiE L k p o).ct:=sp_ h2;refine c6 ?_;exact ⟨_,a1W rfl tt rfl,_,_,rfl,rfl,C9 (n_9 str (show ([63]:Str)=a9P L k p o by unfold a9P;rw [n_0 u1,n_1 u2]))⟩
  ·have u2:¬ 1 < (fiE L k p o).ct:=sm_ h2;obtain ⟨s,d,i,hD,hs,hdi⟩:=bd u1 u2;have hDI:∀ σ,b8 CC 146 [.agg (a0I (L.map Prod.fst) (L.map Prod.snd)),.agg (fiE L k p o).cells] σ fun r Y=>r = .ret (.tup [.agg s.cells,iv i])/\Y=σ:=fun σ=>by
    have h:=b4U L (fiE L k p o) hL σ;rw [hD] at h;exact h
   refine qY (c4 rfl Tryz.call146 j1 (hDI _) rfl) ?_;refine c48 ?_;refine qY (c4 rfl Tryz.call147 j1 (c18 s hs i d hdi _) rfl) ?_;refine qY (G8 rfl rfl tt rfl rfl (by have:=a7G hs (hs.dec d (n_2 hdi));simp;omega)) ?_;refine c6 ?_;exact ⟨_,a1W rfl tt rfl,_,_,rfl,rfl,C9 (n_9 str (by unfold a9P;rw [n_0 u1,n_0 u2,hD];dsimp only;rw [a1Z,hdi]))⟩
end Go.Proofs.YtlppbmfecjabeaaGreatDoor
