/- Part 3: values without addresses. -/
import Derived.Test.YtlppbmfecjabeaaGreatDoorE2
set_option linter.all false
set_option maxRecDepth 100000
set_option maxHeartbeats 4000000
namespace Go.Proofs.YtlppbmfecjabeaaGreatDoor
open Go Go.Cl
variable {σ τ rest:List b9} {s:Str} {i q f m L e i1 q1 q2:Nat} {α β:Type} {c c':CV} {va:Bool} {br:List Str} {P:α->Prop} {x lv:Int} {R:Nat->Nat->Prop} {N:α->Nat} {bad:Prop} {ak:List Nat} {vc:β->CV}
structure Ky where
 k:Int
 a:Str
 b:Str
deriving DecidableEq
variable {a:Nat}
abbrev Ky.cells (x:Ky):List CV:=[iv x.k,sv x.a,sv x.b]
def Ky.cv (x:Ky):List CV:=x.cells
theorem a00 (l:List Ky) (nn:Bool):r4 (.list (l.map Ky.cv) nn none):=O6 (f:=Ky.cv) (fun _=>⟨.val _,.val _,.val _,tt⟩) l nn
theorem N7 (n:Nat) (l:List Ky) (nn:Bool):Old n (.list (l.map Ky.cv) nn none):=(a00 l nn).old
theorem a1t (n:Nat) (x:Ky):I0 n (.box x.cells):=u0 ⟨.val _,.val _,.val _,tt⟩
def O2 (x:Ky):Bool :=
 if (x.k == 1 || x.k == 2)=true then C3 x.a && C3 x.b else if (x.k == 3 || x.k == 4)=true then H3 x.a && decide (x.b=[]) else if (x.k == 5 || x.k == 6 || x.k == 7)=true then C3 x.a && decide (x.b=[]) else false
theorem c1F (x:Ky) (ha:x.a.length<=1000000000) (hb0:x.b.length<=1000000000) (σ:List b9):b8 CC 59 [.agg x.cells] σ fun r Y=>r = .ret (.val (.bool (O2 x)))/\Y=σ:=by
 refine an_ Tryz.func59 ?_;refine b2U ?_;refine F9 ?_;refine qs 1 ?_;refine N8 hCC (α:=Bool) (fun b=>[(1,.ptr 0 0),(4,iv x.k),(5,(.val (.bool b)))]) (fun _=>[.box x.cells]) (fun b=>b=(x.k == 1 || x.k == 2)) z6 uz_ ?_ ?_
 ·
  refine qk (qC ?_ ?_)<;> intro h1
  ·exact ⟨(x.k == 1),_,(by simp_all),tu_,rfl⟩
  ·exact ⟨(x.k == 2),_,(by simp_all),tu_,rfl⟩
 ·intro b hb;refine cC ?_ ?_<;>intro h2
  ·refine qk (qY c38 ?_);refine d7p ?_;refine qG (fun hg=>c5 rfl c5j ⟨hg,tt⟩ (a1F x.b _) rfl) ?_;refine qY M7 ?_;exact d5Z
  ·refine N8 hCC (α:=Bool) (fun b=>[(1,.ptr 0 0),(4,iv x.k),(16,(.val (.bool b)))]) (fun _=>[.box x.cells]) (fun b=>b=(x.k == 3 || x.k == 4)) z6 uz_ ?_ ?_
   ·
    refine qk (qC ?_ ?_)<;> intro h3
    ·exact ⟨(x.k == 3),_,(by simp_all),tu_,rfl⟩
    ·exact ⟨(x.k == 4),_,(by simp_all),tu_,rfl⟩
   ·intro b2 bW;refine qC ?_ ?_<;>intro h4
    ·refine qY (c5 rfl c6a ⟨tt,tt⟩ (a1C x.a om_ _) rfl) ?_;refine c9k ?_;exact d5f
    ·refine qC ?_ ?_<;>intro h5
     ·refine qC ?_ ?_<;>intro h6
      ·refine qY c38 ?_;exact b3S
      ·exact b3R
     ·refine qC ?_ ?_<;>intro h7
      ·refine qC ?_ ?_<;>intro h8
       ·refine qY c38 ?_;exact b3S
       ·exact b3R
      ·refine qC ?_ ?_<;>intro h9
       ·refine qY c38 ?_;exact b3S
       ·exact b3R
theorem a9f (x:Ky)  (σ:List b9):b8 CC 36 [.agg x.cells] σ fun r Y=>r = .ret (.val (.bool (O2 x)))/\Y=σ:=by
 refine an_ Tryz.func36 ?_;refine b2U ?_;refine F9 ?_;refine qs 1 ?_;refine N8 hCC (α:=Bool) (fun b=>[(1,.ptr 0 0),(4,iv x.k),(5,(.val (.bool b)))]) (fun _=>[.box x.cells]) (fun b=>b=(x.k == 1 || x.k == 2)) z6 uz_ ?_ ?_
 ·
  refine qk (qC ?_ ?_)<;> intro h1
  ·exact ⟨(x.k == 1),_,(by simp_all),tu_,rfl⟩
  ·exact ⟨(x.k == 2),_,(by simp_all),tu_,rfl⟩
 ·intro b hb;refine cC ?_ ?_<;>intro h2
  ·refine qk (qY c3Q ?_);refine d7p ?_;refine qG (fun hg=>c5 rfl c4L ⟨hg,tt⟩ (a1D x.b _) rfl) ?_;refine qY M7 ?_;exact d5Z
  ·refine N8 hCC (α:=Bool) (fun b=>[(1,.ptr 0 0),(4,iv x.k),(16,(.val (.bool b)))]) (fun _=>[.box x.cells]) (fun b=>b=(x.k == 3 || x.k == 4)) z6 uz_ ?_ ?_
   ·
    refine qk (qC ?_ ?_)<;> intro h3
    ·exact ⟨(x.k == 3),_,(by simp_all),tu_,rfl⟩
    ·exact ⟨(x.k == 4),_,(by simp_all),tu_,rfl⟩
   ·intro b2 bW;refine qC ?_ ?_<;>intro h4
    ·refine qY (c5 rfl c5N ⟨tt,tt⟩ (a1E x.a _) rfl) ?_;refine c9k ?_;exact d5f
    ·refine qC ?_ ?_<;>intro h5
     ·refine qC ?_ ?_<;>intro h6
      ·refine qY c3Q ?_;exact b3S
      ·exact b3R
     ·refine qC ?_ ?_<;>intro h7
      ·refine qC ?_ ?_<;>intro h8
       ·refine qY c3Q ?_;exact b3S
       ·exact b3R
      ·refine qC ?_ ?_<;>intro h9
       ·refine qY c3Q ?_;exact b3S
       ·exact b3R
theorem b8r {P:Program} (a b:Str) (w:World):(Extern.BytealgCompare.compare #[.string (str a),.string (str b)]).run P w = .ok (.int .i64 (Go.Lib.compareBytes a b)) w:=by
 have:=Go.Lib.run_compareString (P:=P) (str a) (str b) w;rw [this];simp [str]
def a2n (a b:Int):Int:=if a < b then -1 else if b < a then 1 else 0
def Z7 (x y:Ky):Int:=if a2n x.k y.k≠0 then a2n x.k y.k else if Go.Lib.compareBytes x.a y.a≠0 then Go.Lib.compareBytes x.a y.a else Go.Lib.compareBytes x.b y.b
theorem d6Y:∀ (a b:Str),Op.bytesLess a b=decide (Go.Lib.compareBytes a b = -1)
 | [],[]=>rfl
 | [],_::_=>rfl
 | _::_,[]=>by simp [Op.bytesLess,Go.Lib.compareBytes]
 | x::a,y::b=>by
  rw [Op.bytesLess,Go.Lib.compareBytes,d6Y a b];by_cases h:x < y
  ·simp [h]
  ·by_cases h':y < x
   ·have:¬ x=y:=fun e=>h (by rw [e] at h';exact absurd h' si_);simp [h,h',this]
   ·have:x=y:=by
     apply b66.1;rw [b6i] at h h';omega
    subst this;simp
theorem b7B:∀ (a b:Str),Go.Lib.compareBytes a b=0↔a=b
 | [],[]=>by simp [Go.Lib.compareBytes]
 | [],_::_=>by simp [Go.Lib.compareBytes]
 | _::_,[]=>by simp [Go.Lib.compareBytes]
 | x::a,y::b=>by
  rw [Go.Lib.compareBytes];by_cases h:x < y
  ·have:¬ x=y:=fun e=>by rw [e] at h;exact absurd h si_
   simp [h,this]
  ·by_cases h':y < x
   ·have:¬ x=y:=fun e=>by rw [e] at h';exact absurd h' si_
    simp [h,h',this]
   ·have:x=y:=by
     apply b66.1;rw [b6i] at h h';omega
    subst this;simp [b7B a b]
theorem b4T:∀ (a b:Str),Go.Lib.compareBytes b a = - Go.Lib.compareBytes a b
 | [],[]=>rfl
 | [],_::_=>rfl
 | _::_,[]=>rfl
 | x::a,y::b=>by
  rw [Go.Lib.compareBytes,Go.Lib.compareBytes,b4T a b];by_cases h:x < y
  ·have:¬ y < x:=fun h'=>by
    rw [b6i] at h h';omega
   simp [h,this]
  ·by_cases h':y < x<;>simp [h,h']
theorem c1x:∀ (a b:Str),Go.Lib.compareBytes a b = -1\/Go.Lib.compareBytes a b=0\/Go.Lib.compareBytes a b=1
 | [],[]=>.inr (.inl rfl)
 | [],_::_=>.inl rfl
 | _::_,[]=>.inr (.inr rfl)
 | x::a,y::b=>by
  rw [Go.Lib.compareBytes]
  split
  ·exact .inl rfl
  ·split
   ·exact .inr (.inr rfl)
   ·exact c1x a b
theorem b5w (a b:Int):a2n a b=0↔a=b:=by unfold a2n;split<;>(try split)<;>omega
theorem b5J (x y:Ky):Z7 x y=0↔x=y:=by
 obtain ⟨k,a,b⟩:=x;obtain ⟨k',a',b'⟩:=y;unfold Z7;simp only [Ky.mk.injEq];have h1:=b5w k k';have h2:=b7B a a';have h3:=b7B b b'
 split
 ·rename_i h;exact ⟨fun e=>absurd e h,fun ⟨e,_⟩=>h1.2 e⟩
 ·rename_i h;have hk:k=k':=h1.1 (sp_ h)
  split
  ·rename_i h;exact ⟨fun e=>absurd e h,fun ⟨_,e,_⟩=>h2.2 e⟩
  ·rename_i h;have ha:a=a':=h2.1 (sp_ h);rw [h3];exact ⟨fun e=>⟨hk,ha,e⟩,fun ⟨_,_,e⟩=>e⟩
theorem c5c (x y:Ky):Z7 y x = - Z7 x y:=by
 unfold Z7;have h1:a2n y.k x.k = - a2n x.k y.k:=by unfold a2n;split<;>split<;>(try split)<;>omega
 rw [h1,b4T x.a y.a,b4T x.b y.b];by_cases h:a2n x.k y.k=0
 ·by_cases h':Go.Lib.compareBytes x.a y.a=0<;>simp [h,h']
 ·simp [h]
theorem b1E (x y:Ky):Z7 x y = -1\/Z7 x y=0\/Z7 x y=1:=by
 unfold Z7
 split
 ·unfold a2n
  split
  ·exact .inl rfl
  ·split
   ·exact .inr (.inr rfl)
   ·exact .inr (.inl rfl)
 ·split
  ·exact c1x _ _
  ·exact c1x _ _
theorem b68 (x y:Ky):∀ w,(Op.equal 39 (.agg [.int .i64 x.k,.string (str x.a),.string (str x.b)].toArray) (.agg [.int .i64 y.k,.string (str y.a),.string (str y.b)].toArray)).run CC.P w = .ok (decide (x=y)) w:=fun w=>by
 show (Op.equal _ _ _).run Tryz.prog w=_;simp [Op.equal,Op.maxDepth,go_sem,Z3];obtain ⟨a,b,c⟩:=x;obtain ⟨a',b',c'⟩:=y;by_cases h1:a=a'<;>by_cases h2:b=b'<;>by_cases h3:c=c'<;>simp [h1,h2,h3]
theorem a9c (a:Int) (σ:List b9):b8 CC 218 [iv a] σ fun r Y=>r = .ret (.val (.bool false))/\Y=σ:=by
 refine b8.anyw hCC pu_ pu_ (c7 (qO Tryz.func218 ?_)) σ;refine c6 ?_;exact ⟨_,rE1,_,_,rfl,rfl,j8 si_⟩
theorem b2T (a b:Int) (σ:List b9):b8 CC 168 [iv a,iv b] σ fun r Y=>r = .ret (iv (a2n a b))/\Y=σ:=by
 refine b8.anyw hCC pu_ pu_ (c7 (qO Tryz.func168 ?_)) σ;refine qY (c5 rfl Tryz.call218 ⟨tt,tt⟩ (a9c a _) rfl) ?_;refine qY (c5 rfl Tryz.call218 ⟨tt,tt⟩ (a9c b _) rfl) ?_;refine qC ?_ ?_<;>intro h1
 ·cases h1
 ·refine qC ?_ ?_<;>intro h3
  ·cases h3
  ·refine qC ?_ ?_<;>intro h4
   ·have ab:a < b:=sp_ h4;refine c6 ?_;exact ⟨_,rE1,_,_,rfl,rfl,D2 (show (-1:Int)=a2n a b by rw [a2n,n_1 ab])⟩
   ·have aE:¬ a < b:=sp_ h4;refine qC ?_ ?_<;>intro h5
    ·have ab:b < a:=sp_ h5;refine c6 ?_;exact ⟨_,rE1,_,_,rfl,rfl,D2 (show (1:Int)=a2n a b by rw [a2n,n_0 aE,n_1 ab])⟩
    ·have ir:¬ b < a:=sp_ h5;refine c6 ?_;exact ⟨_,rE1,_,_,rfl,rfl,D2 (show (0:Int)=a2n a b by rw [a2n,n_0 aE,n_0 ir])⟩
theorem d2O {l:List Int} (hx:l[i]? = some x) (hz:∀ y∈l.take i,y=0) (h:x≠0):x=(l.find? fun x=>decide (x≠0)).getD 0:=by
 obtain ⟨ab,rfl⟩:=n_3.1 hx;have:l.find? (fun x=>decide (x≠0))=some l[i]:=by
  rw [List.find?_eq_some_iff_getElem];refine ⟨sp_ h,i,ab,rfl,fun j hj=>?_⟩;have:=hz l[j] (n_2 (i:=j) (by rw [a2d,n_1 hj];simp));simp [this]
 rw [this];rfl
theorem d4f {l:List Int} (hx:l[i]? = some x) (hz:∀ y∈l.take i,y=0) (h:x=0):∀ y∈l.take (i+1),y=0:=by
 obtain ⟨ab,rfl⟩:=n_3.1 hx;rw [<- b1w ab];intro y hy
 rcases L8.1 hy with hy | hy
 ·exact hz y hy
 ·rw [a9H.1 hy];exact h
theorem d3X {l:List Int} (hz:∀ y∈l,y=0):(0:Int)=(l.find? fun x=>decide (x≠0)).getD 0:=by
 have:l.find? (fun x=>decide (x≠0))=none:=b9X.2 fun x hx=>by simp [hz x hx]
 rw [this];rfl
theorem c8G (l:List Int) (hl:l.length<=1000000) (σ:List b9):b8 CC 167 [(.list (l.map icv) true none)] σ fun r Y=>r = .ret (iv ((l.find? fun x=>decide (x≠0)).getD 0))/\Y=σ:=by
 refine b8.anyw hCC pu_ pu_ (c7 (qO Tryz.func167 ?_)) σ;refine qY a1g ?_;refine j7 hCC (α:=Nat) (fun i=>[(3,(iv (0))),(6,(.list (l.map icv) true none)),(7,iv l.length),(8,iv i)]) (fun _=>[]) (fun i=>i<=l.length/\∀ x∈l.take i,x=0) (fun i=>l.length - i) 0 ⟨n_4 _,si_⟩ tu_ (ah:=[]) rfl z6 uz_ ?_;intro i ⟨hi,hz⟩;refine qk (qC ?_ ?_)<;> intro h1
 ·have bn:(i:Int) < l.length:=sp_ h1;obtain ⟨x,hx⟩:=gx_ l i;refine qY (p9 rfl tt tt rfl rfl t_4 t_1 om_ (i8 hx) rfl) ?_;refine qC ?_ ?_<;>intro h2
  ·have hx0:x≠0:=sp_ h2;refine c6 ?_;exact ⟨_,rE1,_,_,rfl,rfl,D2 (d2O hx hz hx0)⟩
  ·have hx0:x=0:=sp_ h2;refine qY l9 ?_;exact ⟨(i+1),_,⟨om_,om_,d4f hx hz hx0⟩,tu_,rfl⟩
 ·have aE:l.length<=i:=by
   have:¬ (i:Int) < l.length:=sp_ h1;omega
  rw [U5 aE] at hz;refine z_9 ?_;exact ⟨_,rE1,_,_,rfl,rfl,D2 (d3X hz)⟩
theorem a6B (a b:Str) (σ:List b9):b8 CC 219 [(sv a),(sv b)] σ fun r Y=>r = .ret (iv (Go.Lib.compareBytes a b))/\Y=σ:=by
 refine b8.anyw hCC pu_ pu_ (c7 (qO Tryz.func219 ?_)) σ;refine qY (c07 (e:=Extern.BytealgCompare.compare) rfl Tryz.func269 rfl rfl rfl rfl tt tt rfl rfl (fun w=>b8r a b w)) ?_;exact c0Q
theorem a2B (a b:Str) (σ:List b9):b8 CC 169 [(sv a),(sv b)] σ fun r Y=>r = .ret (iv (Go.Lib.compareBytes a b))/\Y=σ:=by
 refine b8.anyw hCC pu_ pu_ (c7 (qO Tryz.func169 ?_)) σ;refine qY (c5 rfl Tryz.call219 j1 (a6B a b _) rfl) ?_;exact c0Q
theorem d7o (x y:Ky):(([a2n x.k y.k,Go.Lib.compareBytes x.a y.a,Go.Lib.compareBytes x.b y.b].find? fun x=>decide (x≠0)).getD 0)=Z7 x y:=by
 unfold Z7;by_cases h1:a2n x.k y.k=0
 ·by_cases h2:Go.Lib.compareBytes x.a y.a=0
  ·by_cases h3:Go.Lib.compareBytes x.b y.b=0<;>simp [h1,h2,h3]
  ·simp [h1,h2]
 ·simp [h1]
theorem c0i (x y:Ky):b8 CC 128 [.agg x.cells,.agg y.cells] [] fun r Y=>r = .ret (iv (Z7 x y))/\Y=[]:=by
 refine c7 (qO Tryz.func128 ?_);refine a9J ?_;refine qY (b6H rfl tt tt (xs:=[.int .i64 x.k,.string (str x.a),.string (str x.b)]) (ys:=[.int .i64 y.k,.string (str y.a),.string (str y.b)]) rfl rfl c96 (b68 x y)) ?_;refine qC ?_ ?_<;>intro h1
 ·have hxy:x=y:=sp_ h1;subst hxy;refine c6 ?_;exact ⟨_,rE1,_,_,rfl,rfl,D2 (show (0:Int)=Z7 x x from ((b5J x x).2 rfl).symm)⟩
 ·refine cW 18 ?_;refine d6K ?_;refine d6K ?_;refine hY (c5 rfl Tryz.call168 j1 (b2T x.k y.k _) rfl) ?_;refine hY a3b ?_;refine hY Q3 ?_;refine hY a3b ?_;refine hY Q3 ?_;refine hY (c5 rfl Tryz.call169 j1 (a2B x.a y.a _) rfl) ?_;refine hY a3b ?_;refine hY Q3 ?_;refine hY a3b ?_;refine hY Q3 ?_;refine hY (c5 rfl Tryz.call169 j1 (a2B x.b y.b _) rfl) ?_;refine hY (A8 ([a2n x.k y.k,Go.Lib.compareBytes x.a y.a,Go.Lib.compareBytes x.b y.b].map icv) rfl C8 t_4 t_1 t_8 rfl rfl rfl rfl rfl rfl rfl rfl rfl) ?_;refine hY (c5 rfl Tryz.call167 ⟨tt,tt⟩ (c8G _ si_ _) rfl) ?_;refine a88 ?_;refine c6 ?_;exact ⟨_,rE1,_,_,rfl,rfl,D2 (d7o x y)⟩
def ltK (x y:Ky):Bool:=decide (Z7 x y = -1)
theorem c77 (x y:Ky):ltK y x=decide (Z7 x y=1):=by
 rw [ltK,c5c]
 rcases b1E x y with h | h | h<;>simp [h]
theorem c0T {V:List (List CV)} {r:List CV} {j:Nat} (h:V[i]? = some r) (e:j=i):V[j]? = some r:=e ▸ h
abbrev zK:Ky:=⟨0,[],[]⟩
def b2O (k:Ky):List Ky->Nat
 | []=>0
 | y::l=>if ltK y k=true then b2O k l+1 else 0
def a6Z (l:List Ky) (k:Ky):List Ky:=if l[b2O k l]? = some k then l else l.take (b2O k l)++k::l.drop (b2O k l)
theorem c2m (k:Ky):∀ l:List Ky,b2O k l<=l.length
 | []=>n_7 _
 | y::l=>by
  have:=c2m k l;unfold b2O
  split<;>simp<;>omega
theorem c5r (n:Nat) (l:List Ky):I0 n (.vec 3 (l.map Ky.cv)):=fun r hr c hc=>((C4 (f:=Ky.cv) (fun _=>O4.all ⟨.val _,.val _,.val _,tt⟩) _) r hr c hc).old
theorem a63 (l:List Ky):∀ r∈l.map Ky.cv,∀ c∈r,r4 c:=fun r hr c hc=>(C4 (f:=Ky.cv) (fun _=>O4.all ⟨.val _,.val _,.val _,tt⟩) _) r hr c hc
def b5i (l:List Ky):List Ky:=l.foldl a6Z []
theorem c6B (l:List Ky) (k:Ky):(a6Z l k).length<=l.length+1:=by
 unfold a6Z
 split
 ·omega
 ·have:=c2m k l;simp;omega
theorem c7B {f:α->List CV} {n k s:Nat} {l:List α} (hk:n<=k) (hs:σ[k]? = some (.vec s (l.map f))) (hp:∀ r∈l.map f,∀ c∈r,r4 c):Cls n σ (.vec k 0 l.length) (.list (l.map f) true none) :=
 .vec hk hs si_ si_ (fun i r r' h1 h2=>by
  have h3:(l.map f)[i]? = some r:=by simpa [U5] using h1
  rw [h3] at h2;injection h2 with h2;rw [h2]) (fun i j r r' c c' h1 h2 h3 h4=>by
  have h5:(l.map f)[i]? = some r:=by simpa [U5] using h1
  rw [h5] at h2;injection h2 with h2;subst h2
  rw [h3] at h4;injection h4 with h4;subst h4
  exact .old (hp r (n_2 h5) c (n_2 h3)).old)
theorem d1v {l:List α} (h:l≠[]):gnn l.length=true:=by cases l;exact absurd rfl h;rfl
theorem b7Y (l:List Ky):(b5i l).length<=l.length:=by
 have h:∀ (l a:List Ky),(l.foldl a6Z a).length<=a.length+l.length:=by
  intro l
  induction l with
  | nil=>intro a;simp
  | cons y l ih =>
   intro a;have h1:=ih (a6Z a y);have h2:=c6B a y;simp only [b9l,C5];omega
 have:=h l [];unfold b5i;simpa using this
def b9S (v n:Int):Int:=if n<=1 then 0 else v%n
theorem b0g {v n:Int} (hn:1<=n):0<=b9S v n/\b9S v n < n:=by
 unfold b9S
 split
 ·omega
 ·exact ⟨Int.emod_nonneg _ om_,Int.emod_lt_of_pos _ om_⟩
def b3e (l:List Int) (at_:Nat):Int:=(l[at_]?).getD ((at_:Int)*7%11)
def K2 (l:List Int) (at_:Nat) (n:Int):Int:=b9S (b3e l at_) n
abbrev r5 (l:List Int) (nn:Bool) (at_:Nat):b9:=.box [.list (l.map icv) nn none,iv at_]
theorem F0 (l:List Int) (nn:Bool) (k:Nat):a6s (r5 l nn k):=O4.all ⟨O7 _ _,.val _,tt⟩
theorem b3U (v n:Int) (hn:n<=4611686018427387904) (σ:List b9):b8 CC 60 [iv v,iv n] σ fun r Y=>r = .ret (iv (b9S v n))/\Y=σ:=by
 refine b8.anyw hCC pu_ pu_ (c7 (qO Tryz.func60 ?_)) σ;refine qC ?_ ?_<;>intro h1
 ·have bf:n<=1:=sp_ h1;refine c6 ?_;exact ⟨_,rE1,_,_,rfl,rfl,D2 (by rw [b9S,n_1 bf])⟩
 ·have bf:¬ n<=1:=sp_ h1;have ht:v.tmod n=v%n\/v.tmod n+n=v%n/\v.tmod n < 0:=by
   rcases Int.le_total 0 v with hv | hv
   ·exact .inl (c9p hv)
   ·rw [Int.tmod_eq_emod];split
    ·exact .inl om_
    ·right;have:=Int.emod_lt_of_pos v (show 0 < n by omega);have h5:(n.natAbs:Int)=n:=by omega
     omega
  have bX:=Int.emod_nonneg v (show n≠0 by omega);have bT:=Int.emod_lt_of_pos v (show 0 < n by omega);have gf:=Int.tmod_lt_of_pos v (show 0 < n by omega);have hm4 : -n<=v.tmod n:=by omega
  refine qY (a0M rfl tt tt rfl rfl (c82 om_)) ?_;refine qC ?_ ?_<;>intro h2
  ·have ab:v.tmod n < 0:=sp_ h2;refine qY a4n ?_;refine c6 ?_;exact ⟨_,rE1,_,_,rfl,rfl,D2 (by rw [b9S,n_0 bf];omega)⟩
  ·have ab:¬ v.tmod n < 0:=sp_ h2;refine c6 ?_;exact ⟨_,rE1,_,_,rfl,rfl,D2 (by rw [b9S,n_0 bf];omega)⟩
theorem J6 (l:List Int) (nn:Bool) (k:Nat) (σ:List b9) (q:Nat) (hk:σ[q]? = some (r5 l nn k)) (aS:k<=1000000000) (hl:l.length<=maxLen) (n:Int) (hn:n<=4611686018427387904):b8 CC 20 [.ptr q 0,iv n] σ fun r Y=>∃ _:Unit,r = .ret (iv (K2 l k n))/\Y=σ.set q (r5 l nn (k+1))/\True:=by
 have cP:=hl;unfold maxLen at cP;unfold r5 at hk;have hq:q < σ.length:=(n_3.1 hk).1;refine cO Tryz.func20 ?_;refine z_0 ?_;refine b1x ?_;refine a4N ?_;refine cY b4e ?_;refine cY b89 ?_;refine cY (b7A rfl tt rfl rfl rfl om_ om_) ?_;refine cY (a0M rfl tt rfl rfl rfl (c1G om_ om_)) ?_;refine b09 ?_;refine F9 ?_;refine b4t ?_;refine hY b4e ?_;refine hY b89 ?_;refine a5g ?_;refine d6C ?_;refine hY a1g ?_;refine hY b1t ?_;refine a6P (x9 ?_);refine cC ?_ ?_<;>intro h1
 ·have ab:(k:Int) < l.length:=sp_ h1;obtain ⟨v,hv⟩:=gx_ l k;refine cW 11 ?_;refine a5g ?_;refine d6C ?_;refine a5g ?_;refine hY b4e ?_;refine hY b89 ?_;refine hY c2G ?_;refine hY a8b ?_;refine b38 ?_;refine x9 ?_;refine a4N ?_;refine cY b4e ?_;refine cY b89 ?_;refine cY l9 ?_;refine cY a6k ?_;refine d5V ?_;refine x9 ?_;refine a7x ?_;refine yc rfl Tryz.call60 j1 (b3U v n hn _) ?_;refine a1O ?_;exact ⟨_,rE1,⟨(),by rw [K2,b3e,hv];rfl,rfl,tt⟩⟩
 ·have aE:¬ (k:Int) < l.length:=sp_ h1;have hv:l[k]? = none:=b0N om_;refine C9 ?_;refine a4N ?_;refine cY b4e ?_;refine cY b89 ?_;refine cY l9 ?_;refine cY a6k ?_;refine d5V ?_;refine x9 ?_;refine a7x ?_;refine yc rfl Tryz.call60 j1 (b3U _ n hn _) ?_;refine a1O ?_;exact ⟨_,rE1,⟨(),by rw [K2,b3e,hv];rfl,rfl,tt⟩⟩
theorem M9 (l:List Int) (nn:Bool) (k:Nat) (σ:List b9) (q:Nat) (hk:σ[q]? = some (r5 l nn k)) (aS:k<=1000000000) (hl:l.length<=maxLen) (n m:Int) (hn:m<=4611686018427387904):b8 CC 12 [.ptr q 0,iv n,iv m] σ fun r Y=>∃ _:Unit,r = .ret (.val (.bool (decide (K2 l k m < n))))/\Y=σ.set q (r5 l nn (k+1))/\True:=by
 refine qO Tryz.func12 ?_;refine qD (c4 rfl a61 j1 (J6 l nn k σ q hk aS hl m hn) rfl ?_);intro _ _;exact c7l
theorem a5Y (l:List Int) (nn:Bool) (k:Nat) (σ:List b9) (q:Nat) (hk:σ[q]? = some (r5 l nn k)) (aS:k<=1000000000) (hl:l.length<=maxLen) (ls:List Int) (eK:ls≠[]) (hln:ls.length<=1000):b8 CC 51 [.ptr q 0,.list (ls.map icv) true none] σ fun r Y=>∃ v:Int,r = .ret (iv v)/\Y=σ.set q (r5 l nn (k+1))/\v∈ls:=by
 have ij:=a94.2 eK;have hb:=b0g (v:=b3e l k) (n:=(ls.length:Int)) om_;obtain ⟨v,hv⟩:∃ v,ls[(K2 l k (ls.length:Int)).toNat]? = some v:=⟨ls[(K2 l k (ls.length:Int)).toNat]'(by unfold K2;omega),si_⟩;have hb':0<=K2 l k (ls.length:Int):=hb.1;refine qO Tryz.func51 ?_;refine qY a1g ?_;refine cC ?_ ?_<;>intro h1
 ·exfalso;simp at h1;exact eK h1
 ·refine qk (qY a1g ?_);refine qD (c4 rfl a61 j1 (J6 l nn k σ q hk aS hl (ls.length:Int) om_) rfl ?_);intro _ _;refine qY c2G ?_;exact d7j
theorem H7 (l:List Int) (nn:Bool) (k:Nat) (σ:List b9) (q:Nat) (hk:σ[q]? = some (r5 l nn k)) (aS:k<=1000000000) (hl:l.length<=maxLen) (ls:List Str) (eK:ls≠[]) (hln:ls.length<=1000):b8 CC 19 [.ptr q 0,.list (ls.map scv) true none] σ fun r Y=>∃ v:Str,r = .ret (sv v)/\Y=σ.set q (r5 l nn (k+1))/\v∈ls:=by
 have ij:=a94.2 eK;have hb:=b0g (v:=b3e l k) (n:=(ls.length:Int)) om_;obtain ⟨v,hv⟩:∃ v,ls[(K2 l k (ls.length:Int)).toNat]? = some v:=⟨ls[(K2 l k (ls.length:Int)).toNat]'(by unfold K2;omega),si_⟩;have hb':0<=K2 l k (ls.length:Int):=hb.1;refine qO Tryz.func19 ?_;refine qY J3 ?_;refine cC ?_ ?_<;>intro h1
 ·exfalso;simp at h1;exact eK h1
 ·refine b23 ?_;refine qD (c4 rfl a61 j1 (J6 l nn k σ q hk aS hl (ls.length:Int) om_) rfl ?_);intro _ _;refine qY (p9 rfl tt tt rfl rfl t_2 t_0 om_ (i8 hv) rfl) ?_;exact d7j
def S8:List Str:=([[112],[113],[115]]:List Str)
theorem a2P  (σ:List b9):b8 CC 69 [] σ fun r Y=>r = .ret (.list (S8.map scv) true none)/\Y=σ:=by
 refine b8.anyw hCC pu_ pu_ (c7 (qO Tryz.func69 ?_)) σ;refine qY (A8 (S8.map scv) rfl ⟨rfl,rfl,rfl,tt⟩ t_2 t_0 t_3 rfl rfl rfl rfl rfl rfl rfl rfl rfl) ?_;exact c95
def Y4:List Str:=([[102],[103],[104],[107]]:List Str)
theorem b1p  (σ:List b9):b8 CC 29 [] σ fun r Y=>r = .ret (.list (Y4.map scv) true none)/\Y=σ:=by
 refine b8.anyw hCC pu_ pu_ (c7 (qO Tryz.func29 ?_)) σ;refine qY (A8 (Y4.map scv) rfl ⟨rfl,rfl,rfl,rfl,tt⟩ t_2 t_0 t_3 rfl rfl rfl rfl rfl rfl rfl rfl rfl) ?_;exact c95
def a2T:List Str:=([[116],[117],[118]]:List Str)
theorem b2p  (σ:List b9):b8 CC 82 [] σ fun r Y=>r = .ret (.list (a2T.map scv) true none)/\Y=σ:=by
 refine b8.anyw hCC pu_ pu_ (c7 (qO Tryz.func82 ?_)) σ;refine qY (A8 (a2T.map scv) rfl ⟨rfl,rfl,rfl,tt⟩ t_2 t_0 t_3 rfl rfl rfl rfl rfl rfl rfl rfl rfl) ?_;exact c95
def a0V:List Str:=([[97,46,100,97,116],[100,47,98,46,100,97,116],[99],[97,46,115,114,99],[120,46,115,114,99]]:List Str)
theorem c0z  (σ:List b9):b8 CC 83 [] σ fun r Y=>r = .ret (.list (a0V.map scv) true none)/\Y=σ:=by
 refine b8.anyw hCC pu_ pu_ (c7 (qO Tryz.func83 ?_)) σ;refine qY (A8 (a0V.map scv) rfl ⟨rfl,rfl,rfl,rfl,rfl,tt⟩ t_2 t_0 t_3 rfl rfl rfl rfl rfl rfl rfl rfl rfl) ?_;exact c95
def Y0:List Str:=([[110],[109]]:List Str)
theorem b0M  (σ:List b9):b8 CC 84 [] σ fun r Y=>r = .ret (.list (Y0.map scv) true none)/\Y=σ:=by
 refine b8.anyw hCC pu_ pu_ (c7 (qO Tryz.func84 ?_)) σ;refine qY (A8 (Y0.map scv) rfl ⟨rfl,rfl,tt⟩ t_2 t_0 t_3 rfl rfl rfl rfl rfl rfl rfl rfl rfl) ?_;exact c95
theorem H6 {v:Str} (h:v∈S8\/v∈Y4\/v∈a2T\/v∈a0V\/v∈Y0):v.length<=8:=by
 rcases h with h | h | h | h | h<;>revert v<;>decide
def d0e (x:Ky):Prop:=x.a.length<=8/\x.b.length<=8
theorem d2z (l:List Int) (nn:Bool) (k:Nat) (aS:k<=900000000) (hl:l.length<=maxLen):b8 CC 35 [.ptr 0 0] [r5 l nn k] fun r Y=>∃ (a:Ky × Nat) (rest:List b9) (c0:CV),Y=r5 l nn a.2::rest/\r = .ret c0/\Cls 1 Y c0 (.agg a.1.cells)/\d0e a.1/\(k<=a.2/\a.2<=k+3):=by
 have hb:=b0g (v:=b3e l k) (n:=7) om_;have hb1:0<=K2 l k 7:=hb.1;have bW:K2 l k 7 < 7:=hb.2;refine qO Tryz.func35 ?_;refine qD (p8 rfl Z1 rfl j6 ?_);refine qD (c4 rfl a61 o6 (J6 l nn k _ 0 rfl om_ hl 7 om_) rfl ?_);intro _ _;refine qY (b59 rfl rfl tt rfl rfl om_ om_) ?_;refine qY (c5 rfl d0p trivial (a2P _) rfl) ?_;refine qD (c4 rfl a3l j1 (H7 l nn (k+1) _ 0 rfl om_ hl S8 de_ de_) rfl ?_);intro v hv;refine qY (B3 #[(0,1),(1,1),(2,1)] rfl j1 c0N Z1 rfl ⟨_,rfl⟩ (fun w=>by kernel_rfl) rfl rfl) ?_;refine d3y ?_;refine qC ?_ ?_<;>intro h1
 ·refine d7t ?_;intro u hu;refine c5X ?_;refine c6 ?_;exact ⟨_,C6 rfl b9W,⟨(⟨(1+K2 l k 7),v,u⟩,k+3),_,_,rfl,rfl,U2 rfl pu_,⟨(H6 (.inl hv)),(H6 (.inr (.inl hu)))⟩,do_⟩⟩
 ·refine qC ?_ ?_<;>intro h2
  ·refine qY (c5 rfl Tryz.call82 trivial (b2p _) rfl) ?_;refine qD (c4 rfl a3l j1 (H7 l nn (k+2) _ 0 rfl om_ hl a2T de_ de_) rfl ?_);intro u hu;refine c5X ?_;refine c6 ?_;exact ⟨_,C6 rfl b9W,⟨(⟨(1+K2 l k 7),v,u⟩,k+3),_,_,rfl,rfl,U2 rfl pu_,⟨(H6 (.inl hv)),(H6 (.inr (.inr (.inl hu))))⟩,do_⟩⟩
  ·refine qC ?_ ?_<;>intro h3
   ·refine qC ?_ ?_<;>intro h4
    ·refine d5S ?_;intro u hu;refine c5X ?_;exact d5g
    ·refine qC ?_ ?_<;>intro h5
     ·refine d6q ?_;intro u hu;refine c5X ?_;exact d6A
     ·exact d6h
   ·refine qC ?_ ?_<;>intro h6
    ·refine d5S ?_;intro u hu;refine c5X ?_;exact d5g
    ·refine qC ?_ ?_<;>intro h7
     ·refine d6q ?_;intro u hu;refine c5X ?_;exact d6A
     ·exact d6h
theorem d8O (l:List Int) (nn:Bool) (k:Nat) (aS:k<=900000000) (hl:l.length<=maxLen) (σ:List b9) (q:Nat) (hk:σ[q]? = some (r5 l nn k)):b8 CC 35 [.ptr q 0] σ fun r Y=>∃ a:Ky × Nat,r = .ret (.agg a.1.cells)/\Y=σ.set q (r5 l nn a.2)/\(d0e a.1/\(k<=a.2/\a.2<=k+3)) :=
 a6r (ob:=r5 l nn k) (c:=fun a:Ky × Nat=>.agg a.1.cells) (S:=fun a=>r5 l nn a.2) hCC (fun _ h=>by cases h) (fun _=>pu_) (fun _=>F0 _ _ _) (F0 _ _ _) rfl
  (b2u (c:=fun a:Ky × Nat=>.agg a.1.cells) (S:=fun a=>r5 l nn a.2) hCC (fun _=>F0 _ _ _) (d2z l nn k aS hl)) σ q hk
def sub (s:Str) (a e:Nat):Str:=(s.take e).drop a
theorem c2q (h:e<=s.length):(sub s a e).length=e - a:=by simp [sub];omega
def preB (p s:Str):Bool:=p.isPrefixOf s
def c0M (p s:Str):Bool:=decide (p.length<=s.length) && decide (s.drop (s.length - p.length)=p)
theorem d7T (s p:Str) {x y:Bool} (hx:x=decide ((s.length:Int)>=p.length)) (hy:x=true->y=decide ((s.take p.length).drop 0=p)):(x && y)=preB p s:=by
 subst hx;by_cases h:(s.length:Int)>=p.length
 ·rw [hy (a2a h),a2a h,b7e,a9L,preB];by_cases h2:s.take p.length=p
  ·have:p.isPrefixOf s=true:=by rw [b9C];exact ⟨s.drop p.length,by rw [show p++s.drop p.length=s.take p.length++s.drop p.length by rw [h2]];exact b3s _ _⟩
   simp [h2,this]
  ·have:p.isPrefixOf s=false:=by
    cases hq:p.isPrefixOf s with
    | false=>rfl
    | true =>
     rw [b9C] at hq;obtain ⟨t,rfl⟩:=hq;exact absurd (List.take_left' rfl) h2
   simp [h2,this]
 ·have:p.isPrefixOf s=false:=by
   cases hq:p.isPrefixOf s with
   | false=>rfl
   | true =>
    rw [b9C] at hq;obtain ⟨t,rfl⟩:=hq;exfalso;apply h;simp;omega
  rw [preB,this,a2f h];rfl
theorem d7w (s p:Str) {x y:Bool} (hx:x=decide ((s.length:Int)>=p.length)) (hy:x=true->y=decide ((s.take s.length).drop (s.length - p.length)=p)):(x && y)=c0M p s:=by
 subst hx;unfold c0M;by_cases h:(s.length:Int)>=p.length
 ·rw [hy (a2a h),a2a h,a57,a2a (show p.length<=s.length by omega)]
 ·rw [a2f h,a2f (show ¬ p.length<=s.length by omega)];rfl
theorem b1M (s p:Str) (σ:List b9):b8 CC 275 [(sv s),(sv p)] σ fun r Y=>r = .ret (.val (.bool (preB p s)))/\Y=σ:=by
 refine b8.anyw hCC pu_ pu_ (c7 (qO Tryz.func275 ?_)) σ;refine qY Q2 ?_;refine qY Q2 ?_;refine a2Q ?_;refine qG c3q ?_;refine qG (fun hg=>K8 (h:=p.length) rfl hg rfl t_7 rfl ⟨hg,_,_,rfl,by first|omega|(simp at hg;omega),by first|omega|(simp at hg;omega)⟩ om_ (sm_ hg)) ?_;refine b7l ?_;refine c6 ?_;exact ⟨_,rE1,_,_,rfl,rfl,j8 (d7T s p rfl fun _=>rfl)⟩
theorem a6g (s p:Str) (σ:List b9):b8 CC 234 [(sv s),(sv p)] σ fun r Y=>r = .ret (.val (.bool (preB p s)))/\Y=σ:=by
 refine b8.anyw hCC pu_ pu_ (c7 (qO Tryz.func234 ?_)) σ;refine qY (c5 rfl Tryz.call275 j1 (b1M s p _) rfl) ?_;exact d1c
theorem b1P (s p:Str) (hs:s.length<=1000000000000) (hp:p.length<=1000000000000) (σ:List b9):b8 CC 188 [(sv s),(sv p)] σ fun r Y=>r = .ret (.val (.bool (c0M p s)))/\Y=σ:=by
 refine b8.anyw hCC pu_ pu_ (c7 (qO Tryz.func188 ?_)) σ;refine qY Q2 ?_;refine qY Q2 ?_;refine a2Q ?_;refine qG c3q ?_;refine a7I ?_;refine qG (fun hg=>b1T rfl hg hg rfl rfl a7h a7h) ?_;refine qG (fun hg=>K8 (a:=(s.length - p.length)) rfl hg rfl t_7 ⟨hg,_,_,rfl,by first|omega|(simp at hg;omega),by first|omega|(simp at hg;omega)⟩ rfl (sm_ hg) (n_7 _)) ?_;refine b7l ?_;refine c6 ?_;exact ⟨_,rE1,_,_,rfl,rfl,j8 (d7w s p rfl fun _=>rfl)⟩
theorem a59 (s p:Str) (hs:s.length<=1000000000000) (hp:p.length<=1000000000000) (σ:List b9):b8 CC 152 [(sv s),(sv p)] σ fun r Y=>r = .ret (.val (.bool (c0M p s)))/\Y=σ:=by
 refine b8.anyw hCC pu_ pu_ (c7 (qO Tryz.func152 ?_)) σ;refine qY (c5 rfl Tryz.call188 j1 (b1P s p hs hp _) rfl) ?_;exact d1c
theorem c1g (h:e < s.length):s[e]? = some (s[e]?.getD 0):=by simp [h]
theorem c3d {p:Str} (h:preB p s=true):p.length<=s.length:=by
 unfold preB at h;rw [b9C] at h;exact h.length_le
structure Tok where
 k:Int
 t:Str
 n:Int
 at_:Int
variable {T:List Tok} {t:Tok}
abbrev Tok.cells (x:Tok):List CV:=[iv x.k,sv x.t,iv x.n,iv x.at_]
def Tok.cv (x:Tok):List CV:=x.cells
theorem a3q (l:List Tok) (nn:Bool):r4 (.list (l.map Tok.cv) nn none):=O6 (f:=Tok.cv) (fun _=>⟨.val _,.val _,.val _,.val _,tt⟩) l nn
theorem W8 (n:Nat) (l:List Tok) (nn:Bool):Old n (.list (l.map Tok.cv) nn none):=(a3q l nn).old
def a4y (l:Str):Int:=l.foldl (fun n b=>min (10*n+((b.toNat:Int) - 48)) 9007199254740993) 0
def a3D:Str->Option Nat
 | []=>none
 | b::l=>if 32<=b.toNat/\b.toNat<=126 then (if b.toNat=34 then some 0 else (a3D l).map (· + 1)) else none
def E9 (s:Str) (a:Nat) (b:UInt8):Tok × Int × Int :=
 if o0 b.toNat=1 then
  (if 24 < A4 s a [1,2,3] - a then (⟨0,[],0,0⟩,0,2) else (⟨1,sub s a (A4 s a [1,2,3]),0,0⟩,A4 s a [1,2,3],0))
 else if o0 b.toNat=2 then
  (if 9007199254740992 < a4y (sub s a (A4 s a [2])) then (⟨0,[],0,0⟩,0,3) else (⟨2,[],a4y (sub s a (A4 s a [2])),0⟩,A4 s a [2],0))
 else if o0 b.toNat=7 then
  (match a3D (s.drop (a+1)) with
   | none=>(⟨0,[],0,0⟩,0,9)
   | some n=>(⟨3,sub s (a+1) (a+1+n),0,0⟩,a+1+n+1,0))
 else if o0 b.toNat=8 then
  (if preB [61,61] (s.drop a)=true then (⟨4,sub s a (a+2),0,0⟩,a+2,0) else (⟨4,sub s a (a+1),0,0⟩,a+1,0))
 else (⟨0,[],0,0⟩,0,9)
theorem a28 {b:UInt8} (h:s[e]? = some b):a3D (s.drop e)=if 32<=b.toNat/\b.toNat<=126 then (if b.toNat=34 then some 0 else (a3D (s.drop (e+1))).map (· + 1)) else none:=by
 obtain ⟨ab,rfl⟩:=n_3.1 h;rw [R2 ab];rfl
theorem b4y (h:s.length<=e):a3D (s.drop e)=none:=by rw [V2 h];rfl
theorem c5J {l:Str} {j:Nat} {b:UInt8} (h:l[j]? = some b):a4y (l.take (j+1))=min (10*a4y (l.take j)+((b.toNat:Int) - 48)) 9007199254740993:=by
 obtain ⟨ab,rfl⟩:=n_3.1 h;rw [<- b1w ab,a4y,List.foldl_append];rfl
theorem b4i {l:Str} (h:∀ b∈l,48<=b.toNat/\b.toNat<=57):0<=a4y l/\a4y l<=9007199254740993:=by
 unfold a4y
 suffices ∀ (l:Str) (n:Int),0<=n->n<=9007199254740993->(∀ b∈l,48<=b.toNat/\b.toNat<=57)->0<=l.foldl (fun n b=>min (10*n+((b.toNat:Int) - 48)) 9007199254740993) n/\l.foldl (fun n b=>min (10*n+((b.toNat:Int) - 48)) 9007199254740993) n<=9007199254740993 from this l 0 om_ om_ h
 intro l
 induction l with
 | nil=>intro n h0 h1 _;exact ⟨h0,h1⟩
 | cons b l ih =>
  intro n h0 h1 h;have hb:=h b si_;exact ih (min (10*n+((b.toNat:Int) - 48)) 9007199254740993) om_ om_ fun c hc=>h c (by simp [hc])
theorem a5p {b:UInt8}:o0 b.toNat=2↔48<=b.toNat/\b.toNat<=57:=by
 unfold o0;constructor
 ·intro h;split at h
  ·omega
  ·split at h
   ·omega
   ·exfalso;revert h;repeat' split
    all_goals omega
 ·intro h;rw [n_0 om_,n_1 om_]
theorem e0t {c:Nat} (h:48<=c/\c<=57):IntKind.i64.wrap (IntKind.u8.wrap ((c:Int) - 48))=(c:Int) - 48:=by
 obtain ⟨h1,h2⟩:=h;simp [IntKind.wrap,IntKind.bits,IntKind.signed];omega
theorem a1M {p:UInt8->Bool} {b:UInt8}:∀ {l:Str},b∈l.takeWhile p->p b=true
 | [],h=>by simp at h
 | c::l,h=>by
  rw [b9b] at h;split at h
  ·rename_i hc
   rcases J5.1 h with rfl | h
   ·exact hc
   ·exact a1M h
  ·simp at h
theorem b31:∀ b∈sub s a (A4 s a [2]),48<=b.toNat/\b.toNat<=57:=by
 intro b hb;have e:sub s a (A4 s a [2])=(s.drop a).takeWhile (inK [2]):=by
  unfold sub A4;rw [List.drop_take,Nat.add_sub_cancel_left];have h:=List.takeWhile_prefix (inK [2]) (l:=s.drop a);exact (List.prefix_iff_eq_take.1 h).symm
 rw [e] at hb;have:=a1M hb;simp [inK] at this;exact a5p.1 this
theorem c4A (s:Str) (a:Nat) (b:UInt8) (hb:s[a]? = some b) (m:List (Int × Int)) (hm:KM m) (hs:s.length<=1000000000000):b8 CC 190 [(sv s),iv a,.map 0] [b9.map (gm kb kv m)] fun r τ=>∃ _:Unit,a1q [b9.map (gm kb kv m)].length τ r (.ret (.tup [.agg (E9 s a b).1.cells,(iv ((E9 s a b).2.1)),(iv ((E9 s a b).2.2))]))/\a9X [b9.map (gm kb kv m)].length τ τ [b9.map (gm kb kv m)]/\[b9.map (gm kb kv m)].length<=[b9.map (gm kb kv m)].length/\True:=by
 have fQ:=(n_3.1 hb).1;refine qO Tryz.func190 ?_;refine qD (p8 rfl a2R rfl j6 ?_);refine qY b7f ?_;refine qY e0d ?_;refine qC ?_ ?_<;>intro h1
 ·have bw:o0 b.toNat=1:=by rw [<- hm];simpa using h1
  have af:=a1S (ks:=[1,2,3]) (show a<=s.length by omega);refine qY (A8 ([1,2,3].map icv) rfl ⟨rfl,rfl,rfl,tt⟩ t_4 t_1 t_8 rfl rfl rfl rfl rfl rfl rfl rfl rfl) ?_;refine qY (c5 rfl c9N a2r (a7k hm om_ hs de_ rfl) rfl) ?_;refine qY a9h ?_;refine qC ?_ ?_<;>intro h2
  ·have hn:24 < A4 s a [1,2,3] - a:=sm_ h2;refine qY d2w ?_;refine z_2 ?_;exact ⟨_,r9 (rs:=[.cell 6 231,.tmp 7,.tmp 8]) (cs:=[_,_,_]) rfl b1R (n_5 rfl),⟨(),.ret (U2 (by rw [E9,n_1 bw,n_1 hn];rfl) pu_),⟨.same (X5 _ _),tt⟩,n_7 _,tt⟩⟩
  ·have hn:¬ 24 < A4 s a [1,2,3] - a:=sm_ h2;refine qY (K8 (a:=a) (h:=(A4 s a [1,2,3])) rfl tt rfl t_7 a4b a4b om_ om_) ?_;refine qY c0Z ?_;refine z_2 ?_;exact ⟨_,r9 (rs:=[.cell 6 231,.tmp 7,.tmp 8]) (cs:=[_,_,_]) rfl b1R (n_5 rfl),⟨(),.ret (U2 (by rw [E9,n_1 bw,n_0 hn];rfl) pu_),⟨.same (X5 _ _),tt⟩,n_7 _,tt⟩⟩
 ·have bw:¬ o0 b.toNat=1:=by rw [<- hm];simpa using h1
  refine qC ?_ ?_<;>intro h3
  ·have bS:o0 b.toNat=2:=by rw [<- hm];simpa using h3
   have af:=a1S (ks:=[2]) (show a<=s.length by omega);have hdg:=b31 (s:=s) (a:=a);have hln:=c2q (a:=a) af.2;generalize hl:sub s a (A4 s a [2])=ds at hdg hln;refine qY (A8 ([2].map icv) rfl ⟨rfl,tt⟩ t_4 t_1 t_8 rfl rfl rfl rfl rfl rfl rfl rfl rfl) ?_;refine qY (c5 rfl c9N a2r (a7k hm om_ hs de_ rfl) rfl) ?_;refine qY (K8 (a:=a) (h:=(A4 s a [2])) rfl tt rfl t_7 a4b a4b om_ om_) ?_;refine qY (d6I rfl tt rfl t_7 X7 b2z (by have:=c2q (a:=a) af.2;unfold sub at this;omega)) ?_;refine qY a81 ?_;refine j7 hCC (α:=Nat) (fun j=>[(6,.ptr 1 0),(10,(iv (A4 s a [2]:Int))),(11,(iv (a4y (ds.take j)))),(50,(.list (ds.map bcv) true none)),(51,iv ds.length),(52,iv j)]) (fun _=>[b9.map (gm kb kv m),.box (Tok.cells ⟨0,[],0,0⟩)]) (fun j=>j<=ds.length) (fun j=>ds.length - j) 0 (n_4 _) ⟨k8,k8,k8,⟨tt,(by rw [<- hl];rfl)⟩,⟨tt,(by rw [<- hl];rfl)⟩,k8,tt⟩ (ah:=[]) rfl z6 uz_ ?_;intro j hj;refine qk (qC ?_ ?_)<;> intro h4
   ·have cd:(j:Int) < ds.length:=sp_ h4;obtain ⟨c,hc⟩:=gx_ ds j;have hcd:=hdg c (n_2 hc);have hnb:=b4i (l:=ds.take j) fun c hc=>hdg c (a9Q hc);refine qY (p9 rfl tt tt rfl rfl X7 a1w om_ (i8 hc) rfl) ?_;refine qY (b7A rfl rfl tt rfl rfl om_ om_) ?_;refine qY a0c ?_;refine qY (a6K rfl tt rfl b2z c88 (show IntKind.i64.wrap (IntKind.u8.wrap ((c.toNat:Int) - 48))=(c.toNat:Int) - 48 from e0t hcd)) ?_;refine qY a4n ?_;refine qY (d6g rfl tt rfl rfl rfl) ?_;refine qY l9 ?_;exact ⟨(j+1),_,⟨om_,om_⟩,⟨k8,k8,⟨tt,(n_8 (fun z:Int=>iv z) (c5J hc).symm)⟩,k8,k8,k8,tt⟩,rfl⟩
   ·have cd:ds.length<=j:=by
     have:¬ (j:Int) < ds.length:=sp_ h4;omega
    rw [U5 cd] at *;refine j4 ?_;refine qC ?_ ?_<;>intro h5
    ·have hn:9007199254740992 < a4y (sub s a (A4 s a [2])):=by rw [hl];simpa using h5
     refine qY d2w ?_;refine z_2 ?_;exact ⟨_,r9 (rs:=[.cell 6 231,.tmp 7,.tmp 8]) (cs:=[_,_,_]) rfl b1R (n_5 rfl),⟨(),.ret (U2 (by rw [E9,n_0 bw,n_1 bS,n_1 hn];rfl) pu_),⟨.same (X5 _ _),tt⟩,n_7 _,tt⟩⟩
    ·have hn:¬ 9007199254740992 < a4y (sub s a (A4 s a [2])):=by rw [hl];simpa using h5
     refine qY c0Z ?_;refine z_2 ?_;exact ⟨_,r9 (rs:=[.cell 6 231,.tmp 7,.tmp 8]) (cs:=[_,_,_]) rfl b1R (n_5 rfl),⟨(),.ret (U2 (by rw [E9,n_0 bw,n_1 bS,n_0 hn,hl];rfl) pu_),⟨.same (X5 _ _),tt⟩,n_7 _,tt⟩⟩
  ·have bS:¬ o0 b.toNat=2:=by rw [<- hm];simpa using h3
   refine qC ?_ ?_<;>intro h6
   ·have fG:o0 b.toNat=7:=by rw [<- hm];simpa using h6
    refine qY l9 ?_;refine j7 hCC (α:=Nat) (fun e=>[(0,(sv s)),(1,iv a),(6,.ptr 1 0),(14,iv e)]) (fun _=>[b9.map (gm kb kv m),.box (Tok.cells ⟨0,[],0,0⟩)]) (fun e=>a+1<=e/\e<=s.length/\a3D (s.drop (a+1))=(a3D (s.drop e)).map (· + (e - (a+1)))) (fun e=>s.length - e) (a+1) ⟨n_7 _,om_,by cases a3D (s.drop (a+1))<;>simp⟩ tu_ (ah:=[]) rfl z6 uz_ ?_;intro e ⟨eA,he2,he⟩;refine a6S ?_;refine a2Q ?_;refine qG e0j ?_;refine a3G ?_;refine a2Q ?_;refine qG e0j ?_;refine a3G ?_;refine qC ?_ ?_<;>intro h7
    ·have eH:e < s.length/\32<=(s[e]?.getD 0).toNat/\(s[e]?.getD 0).toNat<=126:=sm_ h7;obtain ⟨c,hc,hcd⟩:∃ c,s[e]? = some c/\s[e]?.getD 0=c:=⟨s[e]?.getD 0,c1g eH.1,rfl⟩;rw [hcd] at eH;rw [a28 hc,n_1 eH.2] at he;refine qY (N5 rfl tt tt rfl rfl t_7 om_ hc) ?_;refine qC ?_ ?_<;>intro h8
     ·have h34:c.toNat=34:=sm_ h8;rw [n_1 h34] at he;obtain ⟨n,rfl⟩:∃ n,e=a+1+n:=⟨e - (a+1),om_⟩;have fz:a3D (s.drop (a+1))=some n:=by rw [he];simp
      refine qY l9 ?_;refine qY (K8 (a:=(a+1)) (h:=(a+1+n)) rfl tt rfl t_7 a4b a4b om_ om_) ?_;refine qY c0Z ?_;refine qY l9 ?_;refine z_2 ?_;exact ⟨_,r9 (rs:=[.cell 6 231,.tmp 7,.tmp 8]) (cs:=[_,_,_]) rfl b1R (n_5 rfl),⟨(),.ret (U2 (by rw [E9,n_0 bw,n_0 bS,n_1 fG,fz];rfl) pu_),⟨.same (X5 _ _),tt⟩,n_7 _,tt⟩⟩
     ·have h34:¬ c.toNat=34:=sm_ h8;rw [n_0 h34] at he;refine qY l9 ?_;exact ⟨(e+1),_,⟨om_,om_,om_,by rw [he];cases a3D (s.drop (e+1))<;>simp;omega⟩,tu_,rfl⟩
    ·have dX:a3D (s.drop e)=none:=by
      rcases a4r e s.length with h | h
      ·rw [a28 (c1g h),n_0];intro hh;simp at h7;omega
      ·exact b4y h
     rw [dX] at he;refine j4 ?_;refine qY d2w ?_;refine z_2 ?_;exact ⟨_,r9 (rs:=[.cell 6 231,.tmp 7,.tmp 8]) (cs:=[_,_,_]) rfl b1R (n_5 rfl),⟨(),.ret (U2 (by rw [E9,n_0 bw,n_0 bS,n_1 fG,he];rfl) pu_),⟨.same (X5 _ _),tt⟩,n_7 _,tt⟩⟩
   ·have fG:¬ o0 b.toNat=7:=by rw [<- hm];simpa using h6
    refine qC ?_ ?_<;>intro h9
    ·have hk8:o0 b.toNat=8:=by rw [<- hm];simpa using h9
     refine qY l9 ?_;refine qY (K8 (a:=a) rfl tt rfl t_7 a4b rfl om_ (n_7 _)) ?_;refine qY (c5 rfl Tryz.call234 o6 (a6g ((s.take s.length).drop a) [61,61] _) rfl) ?_;refine qC ?_ ?_<;>intro aY
     ·rw [a57] at aY;have cu:=c3d aY;rw [b7c] at cu;have cu:2<=s.length - a:=cu;refine qY l9 ?_;refine qY (K8 (a:=a) (h:=(a+2)) rfl tt rfl t_7 a4b a4b om_ om_) ?_;refine qY c0Z ?_;refine z_2 ?_;exact ⟨_,r9 (rs:=[.cell 6 231,.tmp 7,.tmp 8]) (cs:=[_,_,_]) rfl b1R (n_5 rfl),⟨(),.ret (U2 (by rw [E9,n_0 bw,n_0 bS,n_0 fG,n_1 hk8,n_1 aY];rfl) pu_),⟨.same (X5 _ _),tt⟩,n_7 _,tt⟩⟩
     ·rw [a57] at aY;have hp0:¬ preB [61,61] (s.drop a)=true:=by rw [aY];decide
      refine qY (K8 (a:=a) (h:=(a+1)) rfl tt rfl t_7 a4b a4b om_ om_) ?_;refine qY c0Z ?_;refine z_2 ?_;exact ⟨_,r9 (rs:=[.cell 6 231,.tmp 7,.tmp 8]) (cs:=[_,_,_]) rfl b1R (n_5 rfl),⟨(),.ret (U2 (by rw [E9,n_0 bw,n_0 bS,n_0 fG,n_1 hk8,n_0 hp0];rfl) pu_),⟨.same (X5 _ _),tt⟩,n_7 _,tt⟩⟩
    ·have hk8:¬ o0 b.toNat=8:=by rw [<- hm];simpa using h9
     refine qY d2w ?_;refine z_2 ?_;exact ⟨_,r9 (rs:=[.cell 6 231,.tmp 7,.tmp 8]) (cs:=[_,_,_]) rfl b1R (n_5 rfl),⟨(),.ret (U2 (by rw [E9,n_0 bw,n_0 bS,n_0 fG,n_0 hk8];rfl) pu_),⟨.same (X5 _ _),tt⟩,n_7 _,tt⟩⟩
theorem c7v {b:UInt8} (hb:s[a]? = some b) {m:List (Int × Int)} (hm:KM m) (hs:s.length<=1000000000000) (hq:σ[q]? = some (.map (gm kb kv m))):b8 CC 190 [(sv s),iv a,.map q] σ fun r τ=>r = .ret (.tup [.agg (E9 s a b).1.cells,(iv ((E9 s a b).2.1)),(iv ((E9 s a b).2.2))])/\τ=σ :=
 b1n hCC (c6O m) pu_ hq (.cons (.val _) (.cons (.val _) (.cons (.map rfl) .nil))) (c4A s a b hb m hm hs)
def S2 (s:Str) (a:Nat):Nat:=a+((s.drop a).takeWhile (· != 10)).length
theorem c32:∀ (l:Str),(Go.Lib.indexByte l 10 < 0->(l.takeWhile (· != 10)).length=l.length)/\(0<=Go.Lib.indexByte l 10->Go.Lib.indexByte l 10=((l.takeWhile (· != 10)).length:Nat))
 | []=>⟨fun _=>rfl,fun h=>by rw [Go.Lib.indexByte] at h;omega⟩
 | b::l=>by
  have ih:=c32 l;rw [Go.Lib.indexByte,b9b];by_cases hb:b=10
  ·subst hb;exact ⟨fun h=>by simp at h,fun h=>by simp⟩
  ·have h1:(b != 10)=true:=sp_ hb;have h2:(b == 10)=false:=sp_ hb;rw [h1,h2];have hg:=Go.Lib.indexByte_ge l 10;simp only [if_true,if_false,C5,b9D];by_cases h3:Go.Lib.indexByte l 10 = -1
   ·rw [h3];have:=ih.1 om_;exact ⟨fun _=>by simp;omega,fun h=>by simp at h⟩
   ·rw [n_0 (sp_ h3)];have:=ih.2 om_;exact ⟨fun h=>by omega,fun _=>by omega⟩
theorem a7E (h:a<=s.length):S2 s a<=s.length:=by
 unfold S2;have:=(List.takeWhile_sublist (· != 10) (l:=s.drop a)).length_le;rw [b7c] at this;omega
theorem b1C {b:UInt8} (h:s[a]? = some b) (hb:o0 b.toNat=6):a < S2 s a:=by
 obtain ⟨ab,rfl⟩:=n_3.1 h;unfold S2;rw [R2 ab,b9b];have:(s[a] != 10)=true:=by
  cases hq:(s[a] != 10) with
  | true=>rfl
  | false =>
   have:s[a]=10:=sp_ hq;rw [this] at hb;revert hb;decide
 rw [this];simp
def a0F:Nat->Str->Nat->Option (List Tok)
 | 0,_,_=>none
 | f+1,s,i=>match s[A4 s i [5]]? with
  | none=>some [⟨5,[],0,(A4 s i [5]:Nat)⟩]
  | some b=>if o0 b.toNat=6 then a0F f s (S2 s (A4 s i [5]))
   else if (E9 s (A4 s i [5]) b).2.2≠0 then none
   else (a0F f s (E9 s (A4 s i [5]) b).2.1.toNat).map (({ (E9 s (A4 s i [5]) b).1 with at_:=(A4 s i [5]:Nat)}:Tok)::·)
def a2V (s:Str):Option (List Tok):=if 16384 < s.length then none else a0F (s.length+1) s 0
theorem b8B (h:i1=A4 s i [5]) (h2:s.length<=i1):a0F (f+1) s i=some [⟨5,[],0,(i1:Nat)⟩]:=by
 subst h;rw [a0F,b0N h2]
theorem b6k {b:UInt8} (h:i1=A4 s i [5]) (h2:s[i1]? = some b) (h3:o0 b.toNat=6):a0F (f+1) s i=a0F f s (S2 s i1):=by
 subst h;rw [a0F,h2];simp only;rw [n_1 h3]
theorem b9B {b:UInt8} (h:i1=A4 s i [5]) (h2:s[i1]? = some b) (h3:¬ o0 b.toNat=6) (h4:(E9 s i1 b).2.2≠0):a0F (f+1) s i=none:=by
 subst h;rw [a0F,h2];simp only;rw [n_0 h3,n_1 h4]
theorem b7g {b:UInt8} (h:i1=A4 s i [5]) (h2:s[i1]? = some b) (h3:¬ o0 b.toNat=6) (h4:¬ (E9 s i1 b).2.2≠0):a0F (f+1) s i=(a0F f s (E9 s i1 b).2.1.toNat).map (({ (E9 s i1 b).1 with at_:=(i1:Nat)}:Tok)::·):=by
 subst h;rw [a0F,h2];simp only;rw [n_0 h3,n_0 h4]
theorem c36:∀ {l:Str} {n:Nat},a3D l=some n->n < l.length
 | [],n,h=>by cases h
 | b::l,n,h=>by
  rw [a3D] at h;split at h
  ·split at h
   ·injection h with h;subst h;simp
   ·cases hq:a3D l with
    | none=>rw [hq] at h;cases h
    | some k=>rw [hq] at h;injection h with h;subst h;have:=c36 hq;simp;omega
  ·cases h
theorem b6S {b:UInt8} {ks:List Int} (h:s[a]? = some b) (hk:inK ks b=true):a < A4 s a ks:=by
 rw [W1 h,n_1 hk];have:=(a1S (s:=s) (a:=a+1) (ks:=ks) (n_3.1 h).1).1;omega
theorem a5X {b:UInt8} (h:s[a]? = some b) (h4:¬ (E9 s a b).2.2≠0):∃ e:Nat,(E9 s a b).2.1=e/\a < e/\e<=s.length:=by
 have ab:=(n_3.1 h).1;unfold E9 at h4 ⊢;split at h4
 ·rename_i hk;rw [n_1 hk];split at h4
  ·simp at h4
  ·rename_i hn;rw [n_0 hn];exact ⟨_,rfl,b6S h (by simp [inK,hk]),(a1S om_).2⟩
 ·rename_i hk;rw [n_0 hk];split at h4
  ·rename_i bS;rw [n_1 bS];split at h4
   ·simp at h4
   ·rename_i hn;rw [n_0 hn];exact ⟨_,rfl,b6S h (by simp [inK,bS]),(a1S om_).2⟩
  ·rename_i bS;rw [n_0 bS];split at h4
   ·rename_i fG;rw [n_1 fG];cases hq:a3D (s.drop (a+1)) with
    | none=>rw [hq] at h4;simp at h4
    | some n =>
     have:=c36 hq;rw [b7c] at this;exact ⟨a+1+n+1,rfl,om_,om_⟩
   ·rename_i fG;rw [n_0 fG];split at h4
    ·rename_i hk8;rw [n_1 hk8]
     split
     ·rename_i hp;have:=c3d hp;rw [b7c] at this;have:2<=s.length - a:=this;exact ⟨a+2,rfl,om_,om_⟩
     ·exact ⟨a+1,rfl,om_,om_⟩
    ·simp at h4
abbrev c6d:=List Tok × Bool × Int × Int
def d4B (s:Str) (x:c6d):Prop:=(a2V s=some x.1/\x.2.1=true/\x.2.2.1=0/\x.2.2.2=0)\/(a2V s=none/\x.1=[]/\x.2.1=false/\x.2.2.2≠0)
abbrev c5f (x:c6d):CV:=.tup [.list (x.1.map Tok.cv) x.2.1 none,iv x.2.2.1,iv x.2.2.2]
theorem b91 (s:Str) (hs:s.length<=1000000000000):b8 CC 153 [(sv s)] [] fun r τ=>∃ x:c6d,a1q 0 τ r (.ret (c5f x))/\d4B s x:=by
 refine qO Tryz.func153 ?_;refine c9H 0 (fun _ _ _=>False) rfl ?_ (fun _ _ _ h=>h.elim);refine a6S ?_;refine qC ?_ ?_<;>intro h1
 ·have hl:16384 < s.length:=sm_ h1;refine c6 ?_;exact ⟨_,r9 (rs:=[.tmp 2,.tmp 3,.tmp 4]) (cs:=[_,_,_]) rfl c56 (n_5 rfl),⟨([],false,0,2),by exact .ret (.tups ⟨.old (W8 _ [] false),.old (.val _),.old (.val _),tt⟩),.inr ⟨by rw [a2V,n_1 hl],rfl,rfl,de_⟩⟩⟩
 ·have hl:¬ 16384 < s.length:=sm_ h1;refine qD (c4 rfl c7i trivial (b1W _) rfl ?_);intro m hm;refine d1t ?_;refine A6 hCC 1 rfl (α:=List Tok × Nat) (fun x=>[(0,(sv s)),(2,(.list (x.1.map Tok.cv) (gnn x.1.length) (C2 x.1.length 1))),(5,.map 0),(6,iv x.2)]) (fun x=>[.map (gm kb kv m),o8 x.1.length]) (fun x=>x.2<=s.length/\x.1.length<=x.2/\∃ f,s.length - x.2 < f/\a2V s=(a0F f s x.2).map (x.1++·)) (fun x=>s.length - x.2) ⟨([],0),[0,7],⟨n_4 _,n_7 _,s.length+1,si_,by rw [a2V,n_0 hl];simp⟩,⟨rfl,rfl⟩,ut_,(by repeat' (first|exact tt|exact .inl rfl|exact .inr ⟨_,rfl,.same rfl B8⟩|exact .inr ⟨_,rfl,.same (aO _ _ _) B8⟩|exact .inr ⟨_,rfl,.same rfl (by repeat' (first|exact tt|exact .val _|exact .ptr (nb rfl)|exact .map (nb rfl)|exact d4C | refine u0 ?_ | refine ⟨?_,?_⟩))⟩|exact .inr ⟨_,rfl,.box (by repeat' (first|exact tt|exact .same rfl uo_|exact .ptr rfl|exact .map rfl|exact .vec rfl|exact C7.grow (f:=Tok.cv) (fun _=>⟨.val _,.val _,.val _,.val _,tt⟩) rfl | refine ⟨?_,?_⟩))⟩ | refine ⟨?_,?_⟩))⟩ ?_;intro ⟨bo,i⟩ ⟨hi,ha,f,hf,iu⟩;dsimp only at hi ha hf iu ⊢;obtain ⟨f,rfl⟩:∃ f',f=f'+1:=⟨f - 1,om_⟩;obtain ⟨i1,eL⟩:∃ i1,i1=A4 s i [5]:=⟨_,rfl⟩;have af:=a1S (ks:=[5]) hi;rw [<- eL] at af;refine qk (qY (A8 ([5].map icv) rfl ⟨rfl,tt⟩ t_4 t_1 t_8 rfl rfl rfl rfl rfl rfl rfl rfl rfl) ?_);refine qY (c5 rfl c9N a2r ((by have:=a7k (ks:=[5]) (nn:=true) hm hi om_ de_ (σ:=[.map (gm kb kv m),o8 bo.length]) (q:=0) rfl;rw [<- eL] at this;exact this)) rfl) ?_;refine qY Q2 ?_;refine qC ?_ ?_<;>intro h2
  ·have dx:i1=s.length:=sm_ h2;rw [b8B eL om_] at iu;refine qY c0Z ?_;refine qY (A8 [Tok.cv ⟨5,[],0,(i1:Nat)⟩] rfl ⟨tt,tt⟩ b5N a3C a2R rfl rfl rfl rfl rfl rfl rfl rfl rfl) ?_;refine qD (A7 rfl tt tt rfl si_ q_2 b5N a3C c2s a2R rfl (.inr rfl) q_7 d2X C1 ((bo++[(⟨5,[],0,(i1:Nat)⟩:Tok)]).map Tok.cv) (bo++[(⟨5,[],0,(i1:Nat)⟩:Tok)]).length si_ si_ ?_);refine c6 ?_;exact ⟨_,r9 (rs:=[.tmp 2,.tmp 3,.tmp 4]) (cs:=[_,_,_]) rfl c56 (n_5 rfl),⟨(bo++[(⟨5,[],0,(i1:Nat)⟩:Tok)],gnn (bo++[(⟨5,[],0,(i1:Nat)⟩:Tok)]).length,0,0),by exact .ret (.tups ⟨.tok (fun r hr c hc=>(C4 (f:=Tok.cv) (fun _=>O4.all ⟨.val _,.val _,.val _,.val _,tt⟩) _) r hr c hc),.old (.val _),.old (.val _),tt⟩),.inl ⟨iu,by rw [n_6];rfl,rfl,rfl⟩⟩⟩
  ·have dx:i1 < s.length:=by
    have:¬ (i1:Int)=s.length:=sp_ h2;omega
   obtain ⟨b,hb⟩:=gx_ s i1;refine qY b7f ?_;refine qY e0d ?_;refine qC ?_ ?_<;>intro h3
   ·have hk:o0 b.toNat=6:=by rw [<- hm];simpa using h3
    rw [b6k eL hb hk] at iu;have cP:=b1C hb hk;have cp:=a7E (s:=s) (a:=i1) om_;have hib:=c32 ((s.take s.length).drop i1);have eI:((s.take s.length).drop i1).length=s.length - i1:=by simp
    have aP:S2 s i1=i1+(((s.take s.length).drop i1).takeWhile (· != 10)).length:=by rw [S2,a57]
    have hig:=Go.Lib.indexByte_ge ((s.take s.length).drop i1) 10;refine qY (K8 (a:=i1) rfl tt rfl t_7 a4b rfl om_ (n_7 _)) ?_;refine qY (c5 rfl Tryz.call189 o6 (a6a ((s.take s.length).drop i1) 10 _) rfl) ?_;refine cC ?_ ?_<;>intro h4
    ·have hneg:Go.Lib.indexByte ((s.take s.length).drop i1) 10 < 0:=sp_ h4;have:=hib.1 hneg;have hle2:S2 s i1=s.length:=by omega
     refine a6S ?_;refine qY a9h ?_;refine qY a4n ?_;refine j4 ?_;exact ⟨(bo,S2 s i1),[0,1],⟨om_,om_,by show bo.length<=S2 s i1;omega,f,by show s.length - S2 s i1 < f;omega,iu⟩,⟨rfl,rfl⟩,e0f,(by repeat' (first|exact tt|exact .inl rfl|exact .inr ⟨_,rfl,.same rfl B8⟩|exact .inr ⟨_,rfl,.same (aO _ _ _) B8⟩|exact .inr ⟨_,rfl,.same rfl (by repeat' (first|exact tt|exact .val _|exact .ptr (nb rfl)|exact .map (nb rfl)|exact d4C | refine u0 ?_ | refine ⟨?_,?_⟩))⟩|exact .inr ⟨_,rfl,.box (by repeat' (first|exact tt|exact .same rfl uo_|exact .ptr rfl|exact .map rfl|exact .vec rfl|exact C7.grow (f:=Tok.cv) (fun _=>⟨.val _,.val _,.val _,.val _,tt⟩) rfl | refine ⟨?_,?_⟩))⟩ | refine ⟨?_,?_⟩))⟩
    ·have hneg:¬ Go.Lib.indexByte ((s.take s.length).drop i1) 10 < 0:=sp_ h4;have:=hib.2 om_;rw [this];refine qk (qY a4n ?_);refine j4 ?_;exact ⟨(bo,S2 s i1),[0,1],⟨om_,om_,by show bo.length<=S2 s i1;omega,f,by show s.length - S2 s i1 < f;omega,iu⟩,⟨rfl,rfl⟩,e0f,(by repeat' (first|exact tt|exact .inl rfl|exact .inr ⟨_,rfl,.same rfl B8⟩|exact .inr ⟨_,rfl,.same (aO _ _ _) B8⟩|exact .inr ⟨_,rfl,.same rfl (by repeat' (first|exact tt|exact .val _|exact .ptr (nb rfl)|exact .map (nb rfl)|exact d4C | refine u0 ?_ | refine ⟨?_,?_⟩))⟩|exact .inr ⟨_,rfl,.box (by repeat' (first|exact tt|exact .same rfl uo_|exact .ptr rfl|exact .map rfl|exact .vec rfl|exact C7.grow (f:=Tok.cv) (fun _=>⟨.val _,.val _,.val _,.val _,tt⟩) rfl | refine ⟨?_,?_⟩))⟩ | refine ⟨?_,?_⟩))⟩
   ·have hk:¬ o0 b.toNat=6:=by rw [<- hm];simpa using h3
    refine qY (c5 rfl Tryz.call190 C8 (c7v hb hm om_ rfl) rfl) ?_;refine z_1 ?_;refine qC ?_ ?_<;>intro h5
    ·have he:(E9 s i1 b).2.2≠0:=sp_ h5;rw [b9B eL hb hk he] at iu;refine c6 ?_;exact ⟨_,r9 (rs:=[.tmp 2,.tmp 3,.tmp 4]) (cs:=[_,_,_]) rfl c56 (n_5 rfl),⟨([],false,i1,(E9 s i1 b).2.2),by exact .ret (.tups ⟨.old (W8 _ [] false),.old (.val _),.old (.val _),tt⟩),.inr ⟨iu,rfl,rfl,he⟩⟩⟩
    ·have he:¬ (E9 s i1 b).2.2≠0:=sp_ h5;rw [b7g eL hb hk he] at iu;obtain ⟨e,eA,he2,he3⟩:=a5X hb he;rw [eA] at iu ⊢;refine qD (j2 rfl tt tt rfl j3 t_1 (.inl rfl) rfl rfl (nb rfl) ?_);refine qY (A8 [Tok.cv ({ (E9 s i1 b).1 with at_:=(i1:Nat)}:Tok)] rfl ⟨tt,tt⟩ b5N a3C a2R rfl rfl rfl rfl rfl rfl rfl rfl rfl) ?_;refine qD (A7 rfl tt tt rfl si_ q_2 b5N a3C c2s a2R rfl (.inr rfl) q_7 d2X C1 ((bo++[({ (E9 s i1 b).1 with at_:=(i1:Nat)}:Tok)]).map Tok.cv) (bo++[({ (E9 s i1 b).1 with at_:=(i1:Nat)}:Tok)]).length si_ si_ ?_);exact ⟨(bo++[({ (E9 s i1 b).1 with at_:=(i1:Nat)}:Tok)],e),[0,3],⟨by show s.length - e < s.length - i;omega,he3,by simp;omega,f,by show s.length - e < f;omega,by rw [iu];simp [Function.comp_def]⟩,⟨rfl,rfl⟩,ut_,(by repeat' (first|exact tt|exact .inl rfl|exact .inr ⟨_,rfl,.same rfl B8⟩|exact .inr ⟨_,rfl,.same (aO _ _ _) B8⟩|exact .inr ⟨_,rfl,.same rfl (by repeat' (first|exact tt|exact .val _|exact .ptr (nb rfl)|exact .map (nb rfl)|exact d4C | refine u0 ?_ | refine ⟨?_,?_⟩))⟩|exact .inr ⟨_,rfl,.box (by repeat' (first|exact tt|exact .same rfl uo_|exact .ptr rfl|exact .map rfl|exact .vec rfl|exact C7.grow (f:=Tok.cv) (fun _=>⟨.val _,.val _,.val _,.val _,tt⟩) rfl | refine ⟨?_,?_⟩))⟩ | refine ⟨?_,?_⟩))⟩
theorem c51 (s:Str) (hs:s.length<=1000000000000) (σ:List b9):b8 CC 153 [(sv s)] σ fun r τ=>∃ x:c6d,r = .ret (c5f x)/\τ=σ/\d4B s x :=
 H5 (res:=fun x=>.ret (c5f x)) hCC (fun c hc=>by simp at hc;subst hc;exact .val _) (b91 s hs) (fun _ _=>pu_) σ
structure Ex where
 k:Int
 num:Int
 op:Int
 name:Str
 args:List Int
deriving DecidableEq
variable {args:List CV} {B:α->List Ex}
abbrev Ex.cells (x:Ex):List CV:=[iv x.k,iv x.num,iv x.op,sv x.name,.list (x.args.map icv) (gnn x.args.length) none]
def Ex.cv (x:Ex):List CV:=x.cells
theorem Ex.pure (x:Ex):O4 x.cells:=⟨.val _,.val _,.val _,.val _,O7 _ _,tt⟩
theorem a0q (l:List Ex) (nn:Bool):r4 (.list (l.map Ex.cv) nn none):=O6 (f:=Ex.cv) Ex.pure l nn
theorem P6 (n:Nat) (l:List Ex) (nn:Bool):Old n (.list (l.map Ex.cv) nn none):=(a0q l nn).old
structure De where
 k:Int
 name:Str
 params:List Str
 body:List Ex
deriving DecidableEq
abbrev De.cells (x:De):List CV:=[iv x.k,sv x.name,.list (x.params.map scv) (gnn x.params.length) none,.list (x.body.map Ex.cv) (gnn x.body.length) none]
def De.cv (x:De):List CV:=x.cells
theorem De.pure (x:De):O4 x.cells:=⟨.val _,.val _,F5 _ _,a0q _ _,tt⟩
theorem a49 (l:List De) (nn:Bool):r4 (.list (l.map De.cv) nn none):=O6 (f:=De.cv) De.pure l nn
theorem Q7 (n:Nat) (l:List De) (nn:Bool):Old n (.list (l.map De.cv) nn none):=(a49 l nn).old
structure Src where
 pkg:Str
 imports:List Str
 decls:List De
deriving DecidableEq
abbrev Src.cells (x:Src):List CV:=[sv x.pkg,.list (x.imports.map scv) (gnn x.imports.length) none,.list (x.decls.map De.cv) (gnn x.decls.length) none]
def Src.cv (x:Src):List CV:=x.cells
theorem Src.pure (x:Src):O4 x.cells:=⟨.val _,F5 _ _,a49 _ _,tt⟩
abbrev pbx (T:List Tok) (n:Nat) (ps:List Str) (b:List Ex) (s:Nat):b9:=.box [.list (T.map Tok.cv) true none,iv n,.list (ps.map scv) (gnn ps.length) none,.list (b.map Ex.cv) (gnn b.length) (C2 b.length s)]
abbrev pst (T:List Tok) (n:Nat) (ps:List Str) (b:List Ex):List b9:=[pbx T n ps b 1,o8 b.length]
abbrev a6E (T:List Tok) (n:Nat) (ps:List Str) (b:List Ex):List b9:=[pbx T n ps b 2,.dead,o8 b.length]
theorem b4R {n:Nat} {ps:List Str} {b:List Ex} {s s':Nat} (h:R s s'):I4 R (pbx T n ps b s) (pbx T n ps b s') :=
 .box (.cons (.pure (a3q _ _)) (.cons (.pure (.val _)) (.cons (.pure (F5 _ _)) (.cons (by
  refine .list rfl (fun i r r' h1 h2=>by rw [h1] at h2;injection h2 with h2;rw [h2]) (fun i j r r' c c' h1 h2 h3 h4=>?_) ?_
  ·rw [h1] at h2;injection h2 with h2;subst h2;rw [h3] at h4;injection h4 with h4;subst h4
   exact .pure (C4 (f:=Ex.cv) (fun a=>(Ex.pure a).all) _ r (n_2 h1) c (n_2 h3))
  ·cases hb:b.length with
   | zero=>exact .inl ⟨rfl,rfl⟩
   | succ m=>exact .inr ⟨s,s',rfl,rfl,h⟩) .nil))))
theorem a0p (m:Nat):I4 R (o8 m) (o8 m):=by
 cases m with
 | zero=>exact .dead
 | succ m=>exact .tip _
def PAt (σ:List b9) (q s:Nat) (T:List Tok) (n:Nat) (ps:List Str) (b:List Ex):Prop:=σ[q]? = some (pbx T n ps b s)/\σ[s]? = some (o8 b.length)/\q≠s
abbrev a2M (at_ e:Int):CV:=.val (.iface 195 (.agg #[.int .i64 at_,.int .i64 e]))
def a3B {α:Type} (c:α->CV) (S:α->List b9) (P:α->Prop) (bad:Prop) (r:W5) (τ:List b9):Prop :=
 (∃ a,E8 2 τ r (.ret (c a)) (S a)/\P a)\/∃ x:Int × Int,E8 2 τ r (.pan (a2M x.1 x.2)) [.dead,.dead]/\(bad/\x.2≠0)
def a4v {α:Type} (c:α->CV) (S:α->List b9) (P:α->Prop) (σ:List b9) (q s:Nat) (bad:Prop) (r:W5) (τ:List b9):Prop :=
 (∃ a,r = .ret (c a)/\τ=S a/\P a)\/∃ x:Int × Int,r = .pan (a2M x.1 x.2)/\τ=(σ.set q .dead).set s .dead/\(bad/\x.2≠0)
theorem j9 {y:Int}:E8 2 τ (.pan (a2M x y)) (.pan (a2M x y)) [.dead,.dead]:=⟨[0,1],rfl,rfl,.pan (.old (.val _)),.inl rfl,.inl rfl,tt⟩
theorem a5n {f:FuncId} {c:α->CV} {Z:α->List Str} {g:α->Bool} {n:Nat} {ps:List Str} {b:List Ex} (ao:∀ a∈args,r4 a) (hc:∀ a,r4 (c a))
 (h:b8 CC f (.ptr 0 0::args) (pst T n ps b) (a3B c (fun a=>if g a=true then a6E T (N a) (Z a) (B a) else pst T (N a) (Z a) (B a)) P bad)) {σ:List b9} {q s:Nat} (am:PAt σ q s T n ps b) :
 b8 CC f (.ptr q 0::args) σ (a4v c (fun a=>if g a=true then (σ.set q (pbx T (N a) (Z a) (B a) σ.length)).set s .dead++[o8 (B a).length] else (σ.set q (pbx T (N a) (Z a) (B a) s)).set s (o8 (B a).length)) P σ q s bad):=by
 obtain ⟨h1,h2,h3⟩:=am;have hq:=(n_3.1 h1).1;have hs:=(n_3.1 h2).1;have h':b8 CC f (.ptr 0 0::args) (pst T n ps b) fun r τ=>(∃ a,r = .ret (c a)/\τ=(if g a=true then a6E T (N a) (Z a) (B a) else pst T (N a) (Z a) (B a))/\P a)\/∃ x:Int × Int,r = .pan (a2M x.1 x.2)/\τ=[.dead,.dead]/\(bad/\x.2≠0):=by
  refine I5 hCC (h.mono fun r τ hh=>?_)
  rcases hh with ⟨a,k1,k2⟩ | ⟨x,k1,k2⟩
  ·exact ⟨_,_,k1,.inl ⟨a,rfl,rfl,k2⟩⟩
  ·exact ⟨_,_,k1,.inr ⟨x,rfl,rfl,k2⟩⟩
 refine I3 [q,s] hCC rfl (fun i j k g1 g2=>?_) (fun i k ob g1 g2=>?_) (.cons (.ptr rfl) (L3 ao)) h' fun r τ hk=>?_
 ·rcases i with _ | _ | i<;>rcases j with _ | _ | j<;>simp at g1 g2<;>first|rfl|(exfalso;exact h3 (g1.trans g2.symm))|(exfalso;exact h3 (g2.trans g1.symm))
 ·rcases i with _ | _ | i
  ·simp at g1 g2;subst g1 g2;exact ⟨_,h1,b4R rfl⟩
  ·simp at g1 g2;subst g1 g2;exact ⟨_,h2,a0p _⟩
  ·simp at g1
 ·rcases hk with ⟨a,rfl,rfl,hp⟩ | ⟨x,rfl,rfl,hp⟩
  ·refine ⟨by split<;>simp,.ret (c a),(if g a=true then (σ.set q (pbx T (N a) (Z a) (B a) σ.length)).set s .dead++[o8 (B a).length] else (σ.set q (pbx T (N a) (Z a) (B a) s)).set s (o8 (B a).length)),.ret (.pure (hc a)),by split<;>simp,fun k hk bA=>?_,fun i k x ha hx=>?_,.inl ⟨a,rfl,rfl,hp⟩⟩
   ·have n1:q≠k:=fun e=>bA a1Q;have n2:s≠k:=fun e=>bA a1Q
    split
    ·rw [R3 (sp_ hk)];simp [n1,n2]
    ·simp [n1,n2]
   ·split at hx<;>rename_i hg
    ·rcases ha with ha | ⟨ha,rfl⟩
     ·rcases i with _ | _ | i
      ·simp at ha hx;subst ha hx;refine ⟨pbx T (N a) (Z a) (B a) σ.length,?_,b4R (.inr ⟨si_,si_⟩)⟩;rw [n_1 hg,R3 (sp_ hq),a2i h3.symm];simp [hq]
      ·simp at ha hx;subst ha hx;refine ⟨.dead,?_,.dead⟩;rw [n_1 hg,R3 (sp_ hs)];simp [hs]
      ·simp at ha
     ·rcases i with _ | _ | _ | i
      ·simp at ha
      ·simp at ha
      ·simp at hx;subst hx;refine ⟨o8 (B a).length,?_,a0p _⟩;rw [n_1 hg,a1f si_];simp
      ·simp at hx
    ·rcases ha with ha | ⟨ha,rfl⟩
     ·rcases i with _ | _ | i
      ·simp at ha hx;subst ha hx;refine ⟨pbx T (N a) (Z a) (B a) s,?_,b4R (.inl rfl)⟩;rw [n_0 hg,a2i h3.symm];simp [hq]
      ·simp at ha hx;subst ha hx;refine ⟨o8 (B a).length,?_,a0p _⟩;rw [n_0 hg];simp [hs]
      ·simp at ha
     ·rcases i with _ | _ | i
      ·simp at ha
      ·simp at ha
      ·simp at hx
  ·refine ⟨n_7 _,.pan (a2M x.1 x.2),(σ.set q .dead).set s .dead,.pan (.pure (.val _)),si_,fun k hk bA=>?_,fun i k y ha hx=>?_,.inr ⟨x,rfl,rfl,hp⟩⟩
   ·have n1:q≠k:=fun e=>bA a1Q;have n2:s≠k:=fun e=>bA a1Q;simp [n1,n2]
   ·rcases ha with ha | ⟨ha,rfl⟩
    ·rcases i with _ | _ | i
     ·simp at ha hx;subst ha hx;refine ⟨.dead,?_,.dead⟩;rw [a2i h3.symm];simp [hq]
     ·simp at ha hx;subst ha hx;refine ⟨.dead,?_,.dead⟩;simp [hs]
     ·simp at ha
    ·rcases i with _ | _ | i
     ·simp at ha
     ·simp at ha
     ·simp at hx
theorem a3O {n:Nat} {ps:List Str} {b:List Ex} {s:Nat} (h:s < L):I0 L (pbx T n ps b s):=u0 ⟨W8 _ _ _,.val _,A5 _ _ _,.list (fun i j r c h1 h2=>(C4 (f:=Ex.cv) (fun a=>(Ex.pure a).all) _ r (n_2 h1) c (n_2 h2)).old) (fun k hk=>by
 cases hb:b.length with
 | zero=>rw [hb] at hk;cases hk
 | succ m=>rw [hb] at hk;injection hk with hk;omega),tt⟩
theorem a0U {n:Nat} {ps:List Str} {b:List Ex} (hτ:τ=pbx T n ps b 1::o8 b.length::rest) (hc:Old 2 c):E8 2 τ (.ret c) (.ret c) (pst T n ps b):=by
 subst hτ;exact ⟨[0,1],rfl,rfl,.ret (.old hc),.inr ⟨_,rfl,.same rfl (a3O de_)⟩,.inr ⟨_,rfl,.same rfl B8⟩,tt⟩
theorem a8c {L:Nat} {ak:List Nat}:∀ {l:List CV},b48 L l->c0B L ak l l
 | [],_=>trivial
 | _::_,⟨h,t⟩=>⟨.old h,a8c t⟩
theorem Z5 {n k:Nat} {ps:List Str} {b:List Ex} (h0:τ[0]? = some (pbx T n ps b k)) (hk:τ[k]? = some (o8 b.length)) (h2:2<=k) (hc:Old 2 c):E8 2 τ (.ret c) (.ret c) (a6E T n ps b):=by
 have k1:a6l 2 [0,1,k]=true:=rfl;have k2:a0t [0,1,k]=true:=by
  have e0:(k == 0)=false:=by simp;omega
  have e1:(k == 1)=false:=by simp;omega
  have e2:(0 == k)=false:=by simp;omega
  have e3:(1 == k)=false:=by simp;omega
  simp [a0t];omega
 refine ⟨[0,1,k],k1,k2,.ret (.old hc),.inr ⟨_,h0,.box ?_⟩,.inl rfl,.inr ⟨_,hk,.same rfl B8⟩,tt⟩;refine ⟨.old a1c,.old (.val _),.old Y2,.list (fun r hr c hc=>(C4 (f:=Ex.cv) (fun a=>(Ex.pure a).all) _ r hr c hc).old) ?_,tt⟩;intro j hj;cases hb:b.length with
 | zero=>rw [hb] at hj;cases hj
 | succ m=>rw [hb] at hj;injection hj with hj;subst hj;exact ⟨k,rfl,rfl⟩
theorem a1T {l:List α} {x:α} (h:l[i]? = some x):l.set i x=l:=by
 apply b35 fun j=>?_;have hi:=(n_3.1 h).1;by_cases hj:i=j
 ·subst hj;rw [b1v hi,h]
 ·rw [a2i hj]
theorem c0y {f:FuncId} {n:Nat} {ps:List Str} {b:List Ex} (ao:∀ a∈args,r4 a) (hc:r4 c)
 (h:b8 CC f (.ptr 0 0::args) (pst T n ps b) fun r τ=>E8 2 τ r (.ret c) (pst T n ps b)) {σ:List b9} {q s:Nat} (am:PAt σ q s T n ps b):b8 CC f (.ptr q 0::args) σ fun r τ=>r = .ret c/\τ=σ:=by
 refine (a5n (α:=Unit) (c:=fun _=>c) (N:=fun _=>n) (B:=fun _=>b) (Z:=fun _=>ps) (g:=fun _=>false) (P:=fun _=>True) (bad:=False) ao (fun _=>hc) (h.mono fun r τ hh=>.inl ⟨(),hh,tt⟩) am).mono fun r τ hh=>?_
 rcases hh with ⟨_,h1,h2,_⟩ | ⟨_,_,_,h3,_⟩
 ·refine ⟨h1,h2.trans ?_⟩;show (σ.set q _).set s _=σ;rw [a1T am.1,a1T am.2.1]
 ·exact h3.elim
theorem a01 {f:FuncId} {c:α->CV} {n:Nat} {ps:List Str} {b:List Ex} (ao:∀ a∈args,r4 a) (hc:∀ a,r4 (c a))
 (h:b8 CC f (.ptr 0 0::args) (pst T n ps b) (a3B c (fun a=>pst T (N a) ps b) P bad)) {σ:List b9} {q s:Nat} (am:PAt σ q s T n ps b) :
 b8 CC f (.ptr q 0::args) σ (a4v c (fun a=>σ.set q (pbx T (N a) ps b s)) P σ q s bad):=by
 refine (a5n (c:=c) (N:=N) (B:=fun _=>b) (Z:=fun _=>ps) (g:=fun _=>false) (P:=P) (bad:=bad) ao hc (h.mono fun r τ hh=>?_) am).mono fun r τ hh=>?_
 ·rcases hh with ⟨a,h1,h2⟩ | h
  ·exact .inl ⟨a,h1,h2⟩
  ·exact .inr h
 ·rcases hh with ⟨a,h1,h2,h3⟩ | h
  ·refine .inl ⟨a,h1,h2.trans ?_,h3⟩;refine a1T ?_;rw [a2i am.2.2];exact am.2.1
  ·exact .inr h
theorem a29 {f:FuncId} {c:α->CV} {n:Nat} {ps:List Str} {b:List Ex} (ao:∀ a∈args,r4 a) (hc:∀ a,r4 (c a))
 (h:b8 CC f (.ptr 0 0::args) (pst T n ps b) (a3B c (fun a=>a6E T (N a) ps (B a)) P bad)) {σ:List b9} {q s:Nat} (am:PAt σ q s T n ps b) :
 b8 CC f (.ptr q 0::args) σ (a4v c (fun a=>(σ.set q (pbx T (N a) ps (B a) σ.length)).set s .dead++[o8 (B a).length]) P σ q s bad):=by
 refine (a5n (c:=c) (N:=N) (B:=B) (Z:=fun _=>ps) (g:=fun _=>true) (P:=P) (bad:=bad) ao hc (h.mono fun r τ hh=>?_) am).mono fun r τ hh=>?_
 ·rcases hh with ⟨a,h1,h2⟩ | h
  ·exact .inl ⟨a,h1,h2⟩
  ·exact .inr h
 ·rcases hh with ⟨a,h1,h2,h3⟩ | h
  ·exact .inl ⟨a,h1,h2,h3⟩
  ·exact .inr h
theorem a0s (x:Tok):r4 (.agg x.cells):=r6 ⟨.val _,.val _,.val _,.val _,tt⟩
theorem a54 (n:Nat) (x:Tok):Old n (.agg x.cells):=(a0s x).old
def tk (T:List Tok) (n:Nat):Tok:=(T[n]?).getD ⟨5,[],0,0⟩
theorem d8V {n:Nat} (h:n < T.length):T[n]? = some (tk T n):=by simp [tk,h]
def a0Q (T:List Tok):Prop:=∀ n,n < T.length->(tk T n).k≠5->n+1 < T.length
def isT (t:Tok) (k:Int) (s:Str):Bool:=(t.k == k) && decide (t.t=s)
theorem a6F {n:Nat} {k:Int} (h:isT (tk T n) k s=true) (hk:k≠5):(tk T n).k≠5:=by
 simp [isT] at h;omega
def G3 (T:List Tok) (n:Nat) (k:Int):Option (Tok × Nat):=if (tk T n).k=k then some (tk T n,if k=5 then n else n+1) else none
def pIs (T:List Tok) (n:Nat) (k:Int) (s:Str):Option Nat:=if isT (tk T n) k s=true then some (n+1) else none
theorem c8d (t:Tok) (e:Int):b8 CC 195 [.agg t.cells,iv e] [] fun r τ=>∃ _:Unit,a1q 0 τ r (.pan (a2M t.at_ e))/\True:=by
 refine qO Tryz.func195 ?_;refine qD (G8 rfl tt j3 j6 ?_);refine qY (B3 #[(0,1),(1,1)] rfl j1 c5C Tryz.zeroValue195 rfl ⟨_,rfl⟩ (fun w=>by kernel_rfl) rfl rfl) ?_;refine qY (c5z (xs:=[.int .i64 t.at_,.int .i64 e]) rfl tt rfl (c1C c5C rfl)) ?_;exact a2N rfl rfl (d3m rfl tt rfl (fun M w v h=>⟨_,_,r3 h⟩) ⟨(),.pan (.old (.val _)),tt⟩)
theorem P2 (t:Tok) (e:Int) (σ:List b9):b8 CC 195 [.agg t.cells,iv e] σ fun r τ=>∃ _:Unit,r = .pan (a2M t.at_ e)/\τ=σ/\True :=
 H5 (res:=fun _=>.pan (a2M t.at_ e)) hCC (fun c hc=>by
  simp at hc
  rcases hc with rfl | rfl
  ·exact a0s _
  ·exact .val _) (c8d t e) (fun _ _=>.val _) σ
theorem c52 (T:List Tok) (n:Nat) (ps:List Str) (b:List Ex) (_:T.length<=1000000) (hn:n < T.length):b8 CC 196 [.ptr 0 0] (pst T n ps b) (fun r τ=>E8 2 τ r (.ret (.agg (tk T n).cells)) (pst T n ps b)):=by
 refine qO Tryz.func196 ?_;refine qD (p8 rfl a2R rfl j6 ?_);refine b4t ?_;refine hY (j5 rfl tt rfl c5O rfl Tryz.sizeOf191 de_) ?_;refine hY (o5 rfl tt rfl Tryz.isAgg191 rfl rfl) ?_;refine a5g ?_;refine hY c3s ?_;refine hY a1n ?_;refine d5i ?_;refine X2 ?_;refine z_2 ?_;exact ⟨_,C6 rfl b3v,a0U rfl (a54 _ _)⟩
theorem a27 {n:Nat} {ps:List Str} {b:List Ex} (hT:T.length<=1000000) (hn:n < T.length) {s:Nat} (am:PAt σ q s T n ps b):b8 CC 196 [.ptr q 0] σ fun r τ=>r = .ret (.agg (tk T n).cells)/\τ=σ:=c0y (fun _ h=>by cases h) (a0s _) (c52 T n ps b hT hn) am
theorem d7Q (T:List Tok) (n:Nat) (ps:List Str) (b:List Ex) (hT:T.length<=1000000) (hn:n < T.length) (k:Int) (u:Str):b8 CC 194 [.ptr 0 0,iv k,(sv u)] (pst T n ps b) (fun r τ=>E8 2 τ r (.ret (.val (.bool (isT (tk T n) (k) (u))))) (pst T n ps b)):=by
 refine qO Tryz.func194 ?_;refine qY b9L ?_;refine z_1 ?_;refine qG b7J ?_;refine b9N ?_;refine c6 ?_;exact ⟨_,rE1,(by exact a0U rfl (.val _))⟩
theorem b3y {n:Nat} {ps:List Str} {b:List Ex} (hT:T.length<=1000000) (hn:n < T.length) (k:Int) (u:Str) {s:Nat} (am:PAt σ q s T n ps b):b8 CC 194 [.ptr q 0,iv k,(sv u)] σ fun r τ=>r = .ret (.val (.bool (isT (tk T n) (k) (u))))/\τ=σ:=c0y (fun _ h=>by simp at h;rcases h with rfl | rfl<;>exact .val _) (.val _) (d7Q T n ps b hT hn k u) am
theorem c62 (T:List Tok) (n:Nat) (ps:List Str) (b:List Ex) (hT:T.length<=1000000) (hn:n < T.length) (hW:a0Q T) (u:Str):b8 CC 193 [.ptr 0 0,(sv u)] (pst T n ps b) (a3B (fun _:Nat=>.tup []) (fun a=>pst T a ps b) (fun a=>pIs T n 4 u=some a/\a < T.length) (pIs T n 4 u=none)):=by
 refine qO Tryz.func193 ?_;refine qY (c5 rfl c4y ⟨tt,rfl,tt,tt⟩ (b3y hT hn 4 u ⟨rfl,rfl,de_⟩) rfl) ?_;refine qC ?_ ?_<;>intro h1
 ·have hb:isT (tk T n) 4 u=false:=sp_ h1;refine qY b9L ?_;exact a2N rfl rfl (P3 rfl a47 o6 (P2 _ _ _) rfl (fun _ _=>.inr ⟨(_,_),j9,by rw [pIs,n_0 (by rw [hb];decide)],si_⟩))
 ·have hb:isT (tk T n) 4 u=true:=sp_ h1;refine z_6 ?_;exact ⟨_,rE0,e0S⟩
theorem Q9 {n:Nat} {ps:List Str} {b:List Ex} (hT:T.length<=1000000) (hn:n < T.length) (hW:a0Q T) (u:Str) {s:Nat} (am:PAt σ q s T n ps b):b8 CC 193 [.ptr q 0,(sv u)] σ (a4v (fun _:Nat=>.tup []) (fun a=>σ.set q (pbx T a ps b s)) (fun a=>pIs T n 4 u=some a/\a < T.length) σ q s (pIs T n 4 u=none)) :=
 a01 (c:=fun _:Nat=>.tup []) (N:=fun a=>a) (fun _ h=>by simp at h;subst h;exact .val _) (fun _=>D4 trivial) (c62 T n ps b hT hn hW u) am
theorem c6S (T:List Tok) (n:Nat) (ps:List Str) (b:List Ex) (hT:T.length<=1000000) (hn:n < T.length) (hW:a0Q T) (u:Str):b8 CC 191 [.ptr 0 0,(sv u)] (pst T n ps b) (a3B (fun _:Nat=>.tup []) (fun a=>pst T a ps b) (fun a=>pIs T n 1 u=some a/\a < T.length) (pIs T n 1 u=none)):=by
 refine qO Tryz.func191 ?_;refine qY (c5 rfl c4y ⟨tt,rfl,tt,tt⟩ (b3y hT hn 1 u ⟨rfl,rfl,de_⟩) rfl) ?_;refine qC ?_ ?_<;>intro h1
 ·have hb:isT (tk T n) 1 u=false:=sp_ h1;refine qY b9L ?_;exact a2N rfl rfl (P3 rfl a47 o6 (P2 _ _ _) rfl (fun _ _=>.inr ⟨(_,_),j9,by rw [pIs,n_0 (by rw [hb];decide)],si_⟩))
 ·have hb:isT (tk T n) 1 u=true:=sp_ h1;refine z_6 ?_;exact ⟨_,rE0,e0S⟩
theorem b5v {n:Nat} {ps:List Str} {b:List Ex} (hT:T.length<=1000000) (hn:n < T.length) (hW:a0Q T) (u:Str) {s:Nat} (am:PAt σ q s T n ps b):b8 CC 191 [.ptr q 0,(sv u)] σ (a4v (fun _:Nat=>.tup []) (fun a=>σ.set q (pbx T a ps b s)) (fun a=>pIs T n 1 u=some a/\a < T.length) σ q s (pIs T n 1 u=none)) :=
 a01 (c:=fun _:Nat=>.tup []) (N:=fun a=>a) (fun _ h=>by simp at h;subst h;exact .val _) (fun _=>D4 trivial) (c6S T n ps b hT hn hW u) am
theorem c1t (T:List Tok) (n:Nat) (ps:List Str) (b:List Ex) (hT:T.length<=1000000) (hn:n < T.length) (hW:a0Q T) (u:Str):b8 CC 277 [.ptr 0 0,(sv u)] (pst T n ps b) (a3B (fun a:Bool × Nat=>(.val (.bool a.1))) (fun a=>pst T a.2 ps b) (fun a=>a.1=isT (tk T n) 4 u/\a.2=(if isT (tk T n) 4 u=true then n+1 else n)/\a.2 < T.length) False):=by
 refine qO Tryz.func277 ?_;refine qY (c5 rfl c4y ⟨tt,rfl,tt,tt⟩ (b3y hT hn 4 u ⟨rfl,rfl,de_⟩) rfl) ?_;refine qC ?_ ?_<;>intro h1
 ·have hb:isT (tk T n) 4 u=false:=sp_ h1;refine c6 ?_;exact ⟨_,rE1,(by exact .inl ⟨(false,n),a0U rfl (.val _),hb.symm,by rw [n_0 (by rw [hb];decide)],hn⟩)⟩
 ·have hb:isT (tk T n) 4 u=true:=sp_ h1;refine z_6 ?_;refine c6 ?_;exact ⟨_,rE1,(by exact .inl ⟨(true,n+1),a0U rfl (.val _),hb.symm,by rw [n_1 hb],hW n hn (a6F hb de_)⟩)⟩
theorem a1H {n:Nat} {ps:List Str} {b:List Ex} (hT:T.length<=1000000) (hn:n < T.length) (hW:a0Q T) (u:Str) {s:Nat} (am:PAt σ q s T n ps b):b8 CC 277 [.ptr q 0,(sv u)] σ fun r τ=>∃ a:Bool × Nat,r = .ret (.val (.bool a.1))/\τ=σ.set q (pbx T a.2 ps b s)/\a.1=isT (tk T n) 4 u/\a.2=(if isT (tk T n) 4 u=true then n+1 else n)/\a.2 < T.length :=
 (a01 (c:=fun a:Bool × Nat=>(.val (.bool a.1))) (N:=fun a:Bool × Nat=>a.2) (fun _ h=>by simp at h;subst h;exact .val _) (fun _=>.val _) (c1t T n ps b hT hn hW u) am).mono fun r τ h=>by
  rcases h with h | ⟨_,_,_,h,_⟩
  ·exact h
  ·exact h.elim
theorem d1z (T:List Tok) (n:Nat) (ps:List Str) (b:List Ex) (hT:T.length<=1000000) (hn:n < T.length) (hW:a0Q T) (k:Int):b8 CC 235 [.ptr 0 0,iv k] (pst T n ps b) (a3B (fun a:Tok × Nat=>.agg a.1.cells) (fun a=>pst T a.2 ps b) (fun a=>G3 T n k=some a/\a.2 < T.length) (G3 T n k=none)):=by
 refine qO Tryz.func235 ?_;refine qD (p8 rfl a2R rfl j6 ?_);refine qY b9L ?_;refine z_1 ?_;refine qC ?_ ?_<;>intro h1
 ·have hk:¬ (tk T n).k=k:=sp_ h1;exact a2N rfl rfl (P3 rfl a47 o6 (P2 _ _ _) rfl (fun _ _=>.inr ⟨(_,_),j9,by rw [G3,n_0 hk],si_⟩))
 ·have hk:(tk T n).k=k:=sp_ h1;refine qC ?_ ?_<;>intro h2
  ·have h5:¬ k=5:=sp_ h2;refine z_6 ?_;refine z_2 ?_;exact ⟨_,C6 rfl b3v,(by exact .inl ⟨(tk T n,n+1),a0U rfl (a54 _ _),by rw [G3,n_1 hk,n_0 h5],hW n hn (by rw [hk];exact h5)⟩)⟩
  ·have h5:k=5:=sp_ h2;refine z_2 ?_;exact ⟨_,C6 rfl b3v,(by exact .inl ⟨(tk T n,n),a0U rfl (a54 _ _),by rw [G3,n_1 hk,n_1 h5],hn⟩)⟩
theorem a7o {n:Nat} {ps:List Str} {b:List Ex} (hT:T.length<=1000000) (hn:n < T.length) (hW:a0Q T) (k:Int) {s:Nat} (am:PAt σ q s T n ps b):b8 CC 235 [.ptr q 0,iv k] σ (a4v (fun a:Tok × Nat=>.agg a.1.cells) (fun a=>σ.set q (pbx T a.2 ps b s)) (fun a=>G3 T n k=some a/\a.2 < T.length) σ q s (G3 T n k=none)) :=
 a01 (c:=fun a:Tok × Nat=>.agg a.1.cells) (N:=fun a=>a.2) (fun _ h=>by simp at h;subst h;exact .val _) (fun _=>a0s _) (d1z T n ps b hT hn hW k) am
def R6 (u:Str):Bool:=decide (u∈([[112,97,99,107,97,103,101],[105,109,112,111,114,116],[102,117,110,99],[116,101,115,116],[103,101,110],[105,102],[116,104,101,110],[101,108,115,101],[114,101,97,100],[115,105,122,101],[104,97,115],[101,110,118],[102,108,105,112]]:List Str))
theorem a2H (u:Str) (σ:List b9):b8 CC 236 [(sv u)] σ fun r Y=>r = .ret (.val (.bool (R6 u)))/\Y=σ:=by
 refine b8.anyw hCC pu_ pu_ (c7 (qO Tryz.func236 ?_)) σ;refine qY P0 ?_;refine qC ?_ ?_<;>intro h1
 ·have e:u=[112,97,99,107,97,103,101]:=sp_ h1;refine qC ?_ ?_<;>intro h2
  ·refine c6 ?_;exact ⟨_,rE1,_,_,rfl,rfl,j8 (show true=R6 u by rw [e];decide)⟩
  ·exfalso;rw [h1] at h2;cases h2
 ·have e1:¬ u=[112,97,99,107,97,103,101]:=sp_ h1;refine qY P0 ?_;refine qC ?_ ?_<;>intro h3
  ·have e:u=[105,109,112,111,114,116]:=sp_ h3;refine qC ?_ ?_<;>intro h4
   ·refine c6 ?_;exact ⟨_,rE1,_,_,rfl,rfl,j8 (show true=R6 u by rw [e];decide)⟩
   ·exfalso;rw [h3] at h4;cases h4
  ·have e2:¬ u=[105,109,112,111,114,116]:=sp_ h3;refine qY P0 ?_;refine qC ?_ ?_<;>intro h5
   ·have e:u=[102,117,110,99]:=sp_ h5;refine qC ?_ ?_<;>intro h6
    ·refine c6 ?_;exact ⟨_,rE1,_,_,rfl,rfl,j8 (show true=R6 u by rw [e];decide)⟩
    ·exfalso;rw [h5] at h6;cases h6
   ·have e3:¬ u=[102,117,110,99]:=sp_ h5;refine qY P0 ?_;refine qC ?_ ?_<;>intro h7
    ·have e:u=[116,101,115,116]:=sp_ h7;refine qC ?_ ?_<;>intro h8
     ·refine c6 ?_;exact ⟨_,rE1,_,_,rfl,rfl,j8 (show true=R6 u by rw [e];decide)⟩
     ·exfalso;rw [h7] at h8;cases h8
    ·have e4:¬ u=[116,101,115,116]:=sp_ h7;refine qY P0 ?_;refine qC ?_ ?_<;>intro h9
     ·have e:u=[103,101,110]:=sp_ h9;refine qC ?_ ?_<;>intro aY
      ·refine c6 ?_;exact ⟨_,rE1,_,_,rfl,rfl,j8 (show true=R6 u by rw [e];decide)⟩
      ·exfalso;rw [h9] at aY;cases aY
     ·have e5:¬ u=[103,101,110]:=sp_ h9;refine qY P0 ?_;refine qC ?_ ?_<;>intro cw
      ·have e:u=[105,102]:=sp_ cw;refine qC ?_ ?_<;>intro da
       ·refine c6 ?_;exact ⟨_,rE1,_,_,rfl,rfl,j8 (show true=R6 u by rw [e];decide)⟩
       ·exfalso;rw [cw] at da;cases da
      ·have e6:¬ u=[105,102]:=sp_ cw;refine qY P0 ?_;refine qC ?_ ?_<;>intro dr
       ·have e:u=[116,104,101,110]:=sp_ dr;refine qC ?_ ?_<;>intro gE
        ·refine c6 ?_;exact ⟨_,rE1,_,_,rfl,rfl,j8 (show true=R6 u by rw [e];decide)⟩
        ·exfalso;rw [dr] at gE;cases gE
       ·have e7:¬ u=[116,104,101,110]:=sp_ dr;refine qY P0 ?_;refine qC ?_ ?_<;>intro h15
        ·have e:u=[101,108,115,101]:=sp_ h15;refine qC ?_ ?_<;>intro h16
         ·refine c6 ?_;exact ⟨_,rE1,_,_,rfl,rfl,j8 (show true=R6 u by rw [e];decide)⟩
         ·exfalso;rw [h15] at h16;cases h16
        ·have e8:¬ u=[101,108,115,101]:=sp_ h15;refine qY P0 ?_;refine qC ?_ ?_<;>intro h17
         ·have e:u=[114,101,97,100]:=sp_ h17;refine qC ?_ ?_<;>intro h18
          ·refine c6 ?_;exact ⟨_,rE1,_,_,rfl,rfl,j8 (show true=R6 u by rw [e];decide)⟩
          ·exfalso;rw [h17] at h18;cases h18
         ·have e9:¬ u=[114,101,97,100]:=sp_ h17;refine qY P0 ?_;refine qC ?_ ?_<;>intro h19
          ·have e:u=[115,105,122,101]:=sp_ h19;refine qC ?_ ?_<;>intro h20
           ·refine c6 ?_;exact ⟨_,rE1,_,_,rfl,rfl,j8 (show true=R6 u by rw [e];decide)⟩
           ·exfalso;rw [h19] at h20;cases h20
          ·have e10:¬ u=[115,105,122,101]:=sp_ h19;refine qY P0 ?_;refine qC ?_ ?_<;>intro h21
           ·have e:u=[104,97,115]:=sp_ h21;refine qC ?_ ?_<;>intro h22
            ·refine c6 ?_;exact ⟨_,rE1,_,_,rfl,rfl,j8 (show true=R6 u by rw [e];decide)⟩
            ·exfalso;rw [h21] at h22;cases h22
           ·have e11:¬ u=[104,97,115]:=sp_ h21;refine qY P0 ?_;refine qC ?_ ?_<;>intro h23
            ·have e:u=[101,110,118]:=sp_ h23;refine qC ?_ ?_<;>intro h24
             ·refine c6 ?_;exact ⟨_,rE1,_,_,rfl,rfl,j8 (show true=R6 u by rw [e];decide)⟩
             ·exfalso;rw [h23] at h24;cases h24
            ·have e12:¬ u=[101,110,118]:=sp_ h23;refine qY P0 ?_;refine qC ?_ ?_<;>intro h25
             ·have e:u=[102,108,105,112]:=sp_ h25;refine c6 ?_;exact ⟨_,rE1,_,_,rfl,rfl,j8 (show true=R6 u by rw [e];decide)⟩
             ·have e13:¬ u=[102,108,105,112]:=sp_ h25;refine c6 ?_;exact ⟨_,rE1,_,_,rfl,rfl,j8 (show false=R6 u by simp [R6,e1,e2,e3,e4,e5,e6,e7,e8,e9,e10,e11,e12,e13])⟩
def ixS:List Str->Str->Nat->Int
 | [],_,_=>-1
 | y::l,x,i=>if y=x then i else ixS l x (i+1)
theorem b1s {l:List Str} {y:Str} (h:l[i]? = some y) (x:Str):ixS (l.drop i) x i=if y=x then (i:Int) else ixS (l.drop (i+1)) x (i+1):=by
 obtain ⟨ab,rfl⟩:=n_3.1 h;rw [R2 ab];rfl
theorem a8z (x:Str):∀ (l:List Str) (i:Nat),(x∉l/\ixS l x i = -1)\/(x∈l/\(i:Int)<=ixS l x i/\ixS l x i < i+l.length)
 | [],_=>.inl ⟨si_,rfl⟩
 | y::l,i=>by
  rw [ixS];by_cases h:y=x
  ·rw [n_1 h];exact .inr ⟨by simp [h],om_,by simp;omega⟩
  ·rw [n_0 h]
   rcases a8z x l (i+1) with ⟨h1,h2⟩ | ⟨h1,h2,h3⟩
   ·exact .inl ⟨by simp [h1,Ne.symm h],h2⟩
   ·exact .inr ⟨by simp [h1],om_,by simp;omega⟩
theorem d2C {l:List Str} {x:Str}:0<=ixS l x 0↔x∈l:=by
 rcases a8z x l 0 with ⟨h1,h2⟩ | ⟨h1,h2,_⟩
 ·rw [h2];simp [h1]
 ·simp [h1];omega
theorem a9B (l:List Str) (nn:Bool) (x:Str) (hl:l.length<=1000000000) (σ:List b9):b8 CC 205 [(.list (l.map scv) nn none),(sv x)] σ fun r Y=>r = .ret (iv (ixS l x 0))/\Y=σ:=by
 refine b8.anyw hCC pu_ pu_ (c7 (qO Tryz.func205 ?_)) σ;refine qY J3 ?_;refine j7 hCC (α:=Nat) (fun i=>[(0,(.list (l.map scv) nn none)),(1,(sv x)),(7,iv l.length),(8,iv i)]) (fun _=>[]) (fun i=>i<=l.length/\ixS l x 0=ixS (l.drop i) x i) (fun i=>l.length - i) 0 ⟨n_4 _,rfl⟩ tu_ (ah:=[]) rfl z6 uz_ ?_;intro i ⟨hi,hr⟩;refine qk (qC ?_ ?_)<;> intro h1
 ·have ab:(i:Int) < l.length:=sp_ h1;obtain ⟨y,hb⟩:=gx_ l i;rw [b1s hb] at hr;refine b3f ?_;refine qC ?_ ?_<;>intro h2
  ·have hx:y=x:=(show x=y by simpa using h2).symm;rw [n_1 hx] at hr;exact d5G
  ·have hx:¬ y=x:=fun e=>by subst e;simp at h2
   rw [n_0 hx] at hr;exact b1Y
 ·have aE:i=l.length:=by
   have:¬ (i:Int) < l.length:=sp_ h1;omega
  refine z_9 ?_;exact ⟨_,rE1,_,_,rfl,rfl,D2 (by rw [hr,aE,b2n];rfl)⟩
theorem a67 (l:List Str) (nn:Bool) (x:Str) (hl:l.length<=1000000000):b8 CC 160 [(.list (l.map scv) nn none),(sv x)] [] fun r Y=>r = .ret (.val (.bool (decide (x∈l))))/\Y=[]:=by
 refine c7 (qO Tryz.func160 ?_);refine qY (c5 rfl Tryz.call205 j1 (a9B l nn x hl _) rfl) ?_;refine c6 ?_;exact ⟨_,rE1,_,_,rfl,rfl,j8 (b1q.2 d2C)⟩
theorem a0l (l:List Str) (nn:Bool) (x:Str) (hl:l.length<=1000000000) (σ:List b9):b8 CC 160 [(.list (l.map scv) nn none),(sv x)] σ fun r Y=>r = .ret (.val (.bool (decide (x∈l))))/\Y=σ :=
 b8.anyw hCC pu_ pu_ (a67 l nn x hl) σ
theorem a4S {n n1:Nat} {k:Int} (h:G3 T n k=some (t,n1)):t=tk T n:=by
 unfold G3 at h;split at h
 ·injection h with h;injection h with h _;exact h.symm
 ·cases h
def c8Q (T:List Tok):Prop:=∀ n,(tk T n).t.length<=1000000
def K0 (T:List Tok) (n:Nat):Option (Tok × Nat):=(G3 T n 1).bind fun x=>if R6 x.1.t=true then none else some x
def a0L (T:List Tok) (n:Nat):Option (Tok × Nat):=(G3 T n 3).bind fun x=>if H3 x.1.t=true then some x else none
theorem d1b (T:List Tok) (n:Nat) (ps:List Str) (b:List Ex) (hT:T.length<=1000000) (hn:n < T.length) (hW:a0Q T):b8 CC 192 [.ptr 0 0] (pst T n ps b) (a3B (fun a:Tok × Nat=>.agg a.1.cells) (fun a=>pst T a.2 ps b) (fun a=>K0 T n=some a/\a.2 < T.length) (K0 T n=none)):=by
 refine qO Tryz.func192 ?_;refine qD (p8 rfl a2R rfl j6 ?_);refine qD (p7 rfl d1R o6 (a7o hT hn hW 1 ⟨rfl,rfl,de_⟩) rfl (fun x hx=>.inr ⟨x,j9,by rw [K0,hx.1];rfl,hx.2⟩) ?_);rintro ⟨t,n1⟩ ⟨ht,bf⟩;have hte:=a4S ht;subst hte;dsimp only at ht bf ⊢;refine z_1 ?_;refine qY (c5 rfl c6P ⟨tt,tt⟩ (a2H (tk T n).t _) rfl) ?_;refine qC ?_ ?_<;>intro h1
 ·have hr:R6 (tk T n).t=true:=sp_ h1;exact a2N rfl rfl (P3 rfl a47 o6 (P2 _ _ _) rfl (fun _ _=>.inr ⟨(_,_),j9,by rw [K0,ht,n_9,n_1 hr],si_⟩))
 ·have hr:R6 (tk T n).t=false:=sp_ h1;refine z_2 ?_;exact ⟨_,C6 rfl b3v,(by exact .inl ⟨(tk T n,n1),a0U rfl (a54 _ _),by rw [K0,ht,n_9,n_0 (by rw [hr];decide)],bf⟩)⟩
theorem b0n {n:Nat} {ps:List Str} {b:List Ex} (hT:T.length<=1000000) (hn:n < T.length) (hW:a0Q T) {s:Nat} (am:PAt σ q s T n ps b):b8 CC 192 [.ptr q 0] σ (a4v (fun a:Tok × Nat=>.agg a.1.cells) (fun a=>σ.set q (pbx T a.2 ps b s)) (fun a=>K0 T n=some a/\a.2 < T.length) σ q s (K0 T n=none)) :=
 a01 (c:=fun a:Tok × Nat=>.agg a.1.cells) (N:=fun a=>a.2) (fun _ h=>by cases h) (fun _=>a0s _) (d1b T n ps b hT hn hW) am
theorem c6Q (T:List Tok) (n:Nat) (ps:List Str) (b:List Ex) (hT:T.length<=1000000) (hn:n < T.length) (hW:a0Q T) (hL:c8Q T):b8 CC 237 [.ptr 0 0] (pst T n ps b) (a3B (fun a:Tok × Nat=>.agg a.1.cells) (fun a=>pst T a.2 ps b) (fun a=>a0L T n=some a/\a.2 < T.length) (a0L T n=none)):=by
 refine qO Tryz.func237 ?_;refine qD (p8 rfl a2R rfl j6 ?_);refine qD (p7 rfl d1R o6 (a7o hT hn hW 3 ⟨rfl,rfl,de_⟩) rfl (fun x hx=>.inr ⟨x,j9,by rw [a0L,hx.1];rfl,hx.2⟩) ?_);rintro ⟨t,n1⟩ ⟨ht,bf⟩;have hte:=a4S ht;subst hte;dsimp only at ht bf ⊢;refine z_1 ?_;refine qY (c5 rfl c6a ⟨tt,tt⟩ (a1C (tk T n).t (by have:=hL n;omega) _) rfl) ?_;refine qC ?_ ?_<;>intro h1
 ·have hr:H3 (tk T n).t=false:=sp_ h1;exact a2N rfl rfl (P3 rfl a47 o6 (P2 _ _ _) rfl (fun _ _=>.inr ⟨(_,_),j9,by rw [a0L,ht,n_9,n_0 (by rw [hr];decide)],si_⟩))
 ·have hr:H3 (tk T n).t=true:=sp_ h1;refine z_2 ?_;exact ⟨_,C6 rfl b3v,(by exact .inl ⟨(tk T n,n1),a0U rfl (a54 _ _),by rw [a0L,ht,n_9,n_1 hr],bf⟩)⟩
theorem b0p {n:Nat} {ps:List Str} {b:List Ex} (hT:T.length<=1000000) (hn:n < T.length) (hW:a0Q T) (hL:c8Q T) {s:Nat} (am:PAt σ q s T n ps b):b8 CC 237 [.ptr q 0] σ (a4v (fun a:Tok × Nat=>.agg a.1.cells) (fun a=>σ.set q (pbx T a.2 ps b s)) (fun a=>a0L T n=some a/\a.2 < T.length) σ q s (a0L T n=none)) :=
 a01 (c:=fun a:Tok × Nat=>.agg a.1.cells) (N:=fun a=>a.2) (fun _ h=>by cases h) (fun _=>a0s _) (c6Q T n ps b hT hn hW hL) am
def X3 (b:List Ex) (x:Ex):Option (Nat × List Ex):=if b.length=256 then none else some (b.length,b++[x])
theorem c7T (T:List Tok) (n:Nat) (ps:List Str) (b:List Ex) (_:T.length<=1000000) (_:n < T.length) (hb:b.length<=256) (t:Tok) (x:Ex):b8 CC 279 [.ptr 0 0,.agg t.cells,.agg x.cells] (pst T n ps b) (a3B (fun a:Nat × List Ex=>(iv a.1)) (fun a=>a6E T n ps a.2) (fun a=>X3 b x=some a/\a.2.length<=256) (X3 b x=none)):=by
 refine qO Tryz.func279 ?_;refine a9J ?_;refine qY b53 ?_;refine qC ?_ ?_<;>intro h1
 ·have h256:b.length=256:=sm_ h1;exact a2N rfl rfl (P3 rfl a47 o6 (P2 _ _ _) rfl (fun _ _=>.inr ⟨(_,_),j9,by rw [X3,n_1 h256],si_⟩))
 ·have h256:¬ b.length=256:=sm_ h1;have cP:(b++[x]).length=b.length+1:=by simp
  refine d6J ?_;refine chf rfl b7x ?_;refine chf rfl (c8 rfl (j5 rfl tt rfl c5O rfl b2b de_)) ?_;refine chf rfl (c8 rfl c1L) ?_;refine chf rfl (c8 rfl d0G) ?_;refine chf rfl e0R ?_;refine D9 ?_;refine B1 rfl rfl rfl (A7 rfl tt tt rfl si_ q_2 b21 a8O Tryz.typeInfo212 b5b rfl (.inr rfl) q_7 (by have hb:Tryz.t212.bytes=64:=rfl;rw [hb];first|omega|(simp;done)|(simp;omega)) C1 ((b++[x]).map Ex.cv) (b++[x]).length si_ si_ ?_);refine c9Z ?_;refine F2 rfl rfl (c8 rfl (j5 rfl tt rfl c5O rfl b2b de_)) ⟨tt,?_⟩;refine d6c ?_;refine b6U ?_;refine c6 ?_;exact ⟨_,rE1,(by rw [show (((b++[x]).length:Int) - 1)=(b.length:Int) by omega];exact .inl ⟨(b.length,b++[x]),Z5 (k:=4) rfl rfl de_ (.val _),by rw [X3,n_0 h256],by show (b++[x]).length<=256;omega⟩)⟩
theorem a0n {n:Nat} {ps:List Str} {b:List Ex} (hT:T.length<=1000000) (hn:n < T.length) (hb:b.length<=256) (t:Tok) (x:Ex) {s:Nat} (am:PAt σ q s T n ps b):b8 CC 279 [.ptr q 0,.agg t.cells,.agg x.cells] σ (a4v (fun a:Nat × List Ex=>(iv a.1)) (fun a=>(σ.set q (pbx T n ps a.2 σ.length)).set s .dead++[o8 a.2.length]) (fun a=>X3 b x=some a/\a.2.length<=256) σ q s (X3 b x=none)) :=
 a29 (c:=fun a:Nat × List Ex=>(iv a.1)) (N:=fun _=>n) (B:=fun a=>a.2) (fun _ h=>by simp at h;rcases h with rfl | rfl;exact a0s _;exact r6 x.pure) (fun _=>.val _) (c7T T n ps b hT hn hb t x) am
theorem d4O {n:Nat} {ps:List Str} {b:List Ex} (hτ:τ=pbx T n ps b 1::o8 b.length::rest) (hc:C7 2 [0,1] c c'):E8 2 τ (.ret c) (.ret c') (pst T n ps b):=by
 subst hτ;exact ⟨[0,1],rfl,rfl,.ret hc,.inr ⟨_,rfl,.same rfl (a3O de_)⟩,.inr ⟨_,rfl,.same rfl B8⟩,tt⟩
theorem K4 {f:α->List CV} {nn:Bool} {tok:Option Nat} (h:∀ a,O4 (f a)) (l:List α):C7 L ak (.list (l.map f) nn tok) (.list (l.map f) nn none) :=
 .list (fun r hr c hc=>(C4 (f:=f) (fun a=>(h a).all) _ r hr c hc).old) (fun j hj=>by cases hj)
def a2s:Nat->List Tok->Nat->List Str->Option (List Str × Nat)
 | 0,_,_,_=>none
 | f+1,T,n,l=>(K0 T n).bind fun x=>if l.length=8 then none else if x.1.t∈l then none else
  if isT (tk T x.2) 4 [44]=true then a2s f T (x.2+1) (l++[x.1.t]) else (pIs T x.2 4 [41]).bind fun m=>some (l++[x.1.t],m)
def M4 (T:List Tok) (n:Nat):Option (List Str × Nat):=(pIs T n 4 [40]).bind fun m=>if isT (tk T m) 4 [41]=true then some ([],m+1) else a2s 9 T m []
theorem V8 (l:List α) (x:α):(l++[x]).length=l.length+1:=by simp
theorem b13 (T:List Tok) (n:Nat) (ps:List Str) (b:List Ex) (hT:T.length<=1000000) (hn:n < T.length) (hW:a0Q T):b8 CC 240 [.ptr 0 0] (pst T n ps b) (a3B (fun a:List Str × Nat=>.list (a.1.map scv) (gnn a.1.length) none) (fun a=>pst T a.2 ps b) (fun a=>M4 T n=some a/\a.2 < T.length/\a.1.length<=8) (M4 T n=none)):=by
 refine qO Tryz.func240 ?_;refine qD (p7 rfl a6b o6 (Q9 hT hn hW [40] ⟨rfl,rfl,de_⟩) rfl (fun x hx=>.inr ⟨x,j9,by rw [M4,hx.1];rfl,hx.2⟩) ?_);rintro n1 ⟨bv,bf⟩;dsimp only at bv bf ⊢;refine qD (c4 rfl c50 o6 (a1H hT bf hW [41] ⟨rfl,rfl,de_⟩) rfl ?_);rintro ⟨ac,n2⟩ ⟨ha,cj,eB⟩;dsimp only at ha cj eB ⊢;refine qC ?_ ?_<;>intro h1
 ·have hc:isT (tk T n1) 4 [41]=true:=by rw [<- ha];simpa using h1
  rw [n_1 hc] at cj;refine c6 ?_;exact ⟨_,rE1,(by exact .inl ⟨([],n2),a0U rfl (A5 _ [] false),by rw [M4,bv,n_9,n_1 hc,cj],eB,by show 0<=8;decide⟩)⟩
 ·have hc:¬ isT (tk T n1) 4 [41]=true:=by rw [<- ha];simpa using h1
  rw [n_0 hc] at cj;refine A6 hCC 2 rfl (α:=List Str × Nat) (fun x=>[(0,.ptr 0 0),(3,(.list (x.1.map scv) (gnn x.1.length) (C2 x.1.length 2)))]) (fun x=>[pbx T x.2 ps b 1,o8 b.length,o8 x.1.length]) (fun x=>x.1.length<=8/\x.2 < T.length/\M4 T n=a2s (9 - x.1.length) T x.2 x.1) (fun x=>9 - x.1.length) ⟨([],n2),[0,1,7],⟨n_4 _,eB,by rw [M4,bv,n_9,n_0 hc,cj];rfl⟩,⟨rfl,rfl⟩,ut_,uq_⟩ ?_;intro ⟨l,m⟩ ⟨hl,hm,af⟩;dsimp only at hl hm af ⊢;obtain ⟨f,hf⟩:∃ f,9 - l.length=f+1:=⟨8 - l.length,om_⟩;rw [hf,a2s] at af;refine qk (qD (p7 rfl c2J ⟨tt,tt⟩ (b0n hT hm hW ⟨rfl,rfl,de_⟩) rfl (fun x hx=>.inr ⟨x,j9,by rw [af,hx.1];rfl,hx.2⟩) ?_));rintro ⟨t,m1⟩ ⟨ht,bX⟩;dsimp only at ht bX ⊢;rw [ht,n_9] at af;dsimp only at af;refine z_1 ?_;refine qY J3 ?_;refine qC ?_ ?_<;>intro h2
  ·have h8:l.length=8:=sm_ h2;rw [n_1 h8] at af;exact a2N rfl rfl (P3 rfl a47 o6 (P2 _ _ _) rfl (fun _ _=>.inr ⟨(_,_),j9,af,si_⟩))
  ·have h8:¬ l.length=8:=sm_ h2;rw [n_0 h8] at af;refine qY (c5 rfl c9e j1 (a0l l (gnn l.length) t.t om_ _) rfl) ?_;refine qC ?_ ?_<;>intro h3
   ·have hi:t.t∈l:=sp_ h3;rw [n_1 hi] at af;exact a2N rfl rfl (P3 rfl a47 o6 (P2 _ _ _) rfl (fun _ _=>.inr ⟨(_,_),j9,af,si_⟩))
   ·have hi:¬ t.t∈l:=sp_ h3;rw [n_0 hi] at af;have eK:=V8 l t.t;refine qY (A8 [scv t.t] rfl ⟨tt,tt⟩ t_2 t_0 t_3 rfl rfl rfl rfl rfl rfl rfl rfl rfl) ?_;refine qD (A7 rfl tt tt rfl si_ q_2 t_2 t_0 a32 t_3 rfl (.inr rfl) q_7 a3Z C1 ((l++[t.t]).map scv) (l++[t.t]).length si_ si_ ?_);refine qD (c4 rfl c50 o6 (a1H hT bX hW [44] ⟨rfl,rfl,de_⟩) rfl ?_);rintro ⟨ac2,m2⟩ ⟨ha2,bT,gg⟩;dsimp only at ha2 bT gg ⊢;refine qC ?_ ?_<;>intro h4
    ·have cr:¬ isT (tk T m1) 4 [44]=true:=by rw [<- ha2];simpa using h4
     rw [n_0 cr] at bT af;subst bT;refine j4 ?_;refine qD (p7 rfl a6b o6 (Q9 hT gg hW [41] ⟨rfl,rfl,de_⟩) rfl (fun x hx=>.inr ⟨x,j9,by rw [af,hx.1];rfl,hx.2⟩) ?_);rintro m3 ⟨fS,gf⟩;dsimp only at fS gf ⊢;refine c6 ?_;exact ⟨_,rE1,(by exact .inl ⟨(l++[t.t],m3),d4O rfl (K4 (f:=scv) (fun _=>⟨.val _,tt⟩) _),by rw [af,fS];rfl,gf,by show (l++[t.t]).length<=8;omega⟩)⟩
    ·have cr:isT (tk T m1) 4 [44]=true:=by rw [<- ha2];simpa using h4
     rw [n_1 cr] at bT af;subst bT;exact ⟨(l++[t.t],m1+1),[0,1,4],⟨do_,do_,gg,by dsimp only;rw [af,show 9 - (l++[t.t]).length=f by omega]⟩,⟨rfl,rfl⟩,ut_,uq_⟩
theorem b2B {n:Nat} {ps:List Str} {b:List Ex} (hT:T.length<=1000000) (hn:n < T.length) (hW:a0Q T) {s:Nat} (am:PAt σ q s T n ps b):b8 CC 240 [.ptr q 0] σ (a4v (fun a:List Str × Nat=>.list (a.1.map scv) (gnn a.1.length) none) (fun a=>σ.set q (pbx T a.2 ps b s)) (fun a=>M4 T n=some a/\a.2 < T.length/\a.1.length<=8) σ q s (M4 T n=none)) :=
 a01 (c:=fun a:List Str × Nat=>.list (a.1.map scv) (gnn a.1.length) none) (N:=fun a=>a.2) (fun _ h=>by cases h) (fun _=>F5 _ _) (b13 T n ps b hT hn hW) am
def F6 (op:Int):Int:=if op=6\/op=7 then 1 else if op=1\/op=2 then 2 else 3
def S0:List (Int × Str):=[(1,[43]),(2,[45]),(3,[42]),(4,[47]),(5,[37]),(6,[60]),(7,[61,61])]
theorem a8f (op:Int) (σ:List b9):b8 CC 319 [iv op] σ fun r Y=>r = .ret (iv (F6 op))/\Y=σ:=by
 refine b8.anyw hCC pu_ pu_ (c7 (qO Tryz.func319 ?_)) σ;refine qC ?_ ?_<;>intro h1
 ·have e:op=6:=sp_ h1;refine qC ?_ ?_<;>intro h2
  ·refine c6 ?_;exact ⟨_,rE1,_,_,rfl,rfl,D2 (show (1:Int)=F6 op by rw [F6,n_1 (.inl e)])⟩
  ·rw [h1] at h2;cases h2
 ·have e6:¬ op=6:=sp_ h1;refine qC ?_ ?_<;>intro h6
  ·have e:op=7:=sp_ h6;refine c6 ?_;exact ⟨_,rE1,_,_,rfl,rfl,D2 (show (1:Int)=F6 op by rw [F6,n_1 (.inr e)])⟩
  ·have e7:¬ op=7:=sp_ h6;refine qC ?_ ?_<;>intro h7
   ·have e:op=1:=sp_ h7;refine qC ?_ ?_<;>intro h8
    ·refine c6 ?_;exact ⟨_,rE1,_,_,rfl,rfl,D2 (show (2:Int)=F6 op by rw [F6,n_0 om_,n_1 (.inl e)])⟩
    ·rw [h7] at h8;cases h8
   ·have e1:¬ op=1:=sp_ h7;refine qC ?_ ?_<;>intro h9
    ·have e:op=2:=sp_ h9;refine c6 ?_;exact ⟨_,rE1,_,_,rfl,rfl,D2 (show (2:Int)=F6 op by rw [F6,n_0 om_,n_1 (.inr e)])⟩
    ·have e2:¬ op=2:=sp_ h9;refine c6 ?_;exact ⟨_,rE1,_,_,rfl,rfl,D2 (show (3:Int)=F6 op by rw [F6,n_0 om_,n_0 om_])⟩
theorem d6U (m:List (Int × Str)):a3Q (.map (gm kv sv m)):=fun x hx=>by
 obtain ⟨y,_,rfl⟩:=F4.1 hx;exact ⟨.val _,.val _⟩
theorem c45:b8 CC 307 [] [] fun r τ=>∃ _:Unit,a1q [b9.map (gm kv sv S0)].length τ r (.ret (.map 0))/\a9X [b9.map (gm kv sv S0)].length τ τ [b9.map (gm kv sv S0)]/\([]:List b9).length<=[b9.map (gm kv sv S0)].length/\True:=by
 refine qO Tryz.func307 ?_;refine qD (T9 rfl ?_);refine qD (o3 (vc:=sv) (l:=S0.take 0) a0G (.inr rfl) tt rfl rfl rfl rfl rfl a2g rfl ?_);refine qD (o3 (vc:=sv) (l:=S0.take 1) a0G (.inr rfl) tt rfl rfl rfl rfl rfl a2g rfl ?_);refine qD (o3 (vc:=sv) (l:=S0.take 2) a0G (.inr rfl) tt rfl rfl rfl rfl rfl a2g rfl ?_);refine qD (o3 (vc:=sv) (l:=S0.take 3) a0G (.inr rfl) tt rfl rfl rfl rfl rfl a2g rfl ?_);refine qD (o3 (vc:=sv) (l:=S0.take 4) a0G (.inr rfl) tt rfl rfl rfl rfl rfl a2g rfl ?_);refine qD (o3 (vc:=sv) (l:=S0.take 5) a0G (.inr rfl) tt rfl rfl rfl rfl rfl a2g rfl ?_);refine qD (o3 (vc:=sv) (l:=S0.take 6) a0G (.inr rfl) tt rfl rfl rfl rfl rfl a2g rfl ?_);refine c6 ?_;exact ⟨_,rE1,(by exact ⟨(),.ret (.old (.map (Nat.zero_lt_one))),⟨.same (d6U _).old,tt⟩,n_4 _,tt⟩)⟩
theorem b9t (σ:List b9):b8 CC 307 [] σ fun r τ=>∃ _:Unit,r = .ret (.map σ.length)/\τ=σ++[.map (gm kv sv S0)]/\True :=
 a04 (α:=Unit) (obs:=[]) (args:=[]) (res:=fun _=>.ret (.map 0)) (res':=fun _=>.ret (.map σ.length)) (S:=fun _=>[]) (N:=fun _=>[.map (gm kv sv S0)]) (P:=fun _=>True) [] hCC rfl (fun i j k h=>by simp at h) (fun i k h=>by simp at h) (fun ob h=>by cases h) ⟨rfl,fun i c c' h=>by simp at h⟩
  (a05 (res:=fun _=>.ret (.map 0)) (S:=fun _=>[.map (gm kv sv S0)]) (P:=fun _=>True) hCC c45) (fun m _=>⟨rfl,fun ob h=>by simp at h;subst h;exact d6U _⟩) (fun m _=>.ret (.map (.inr ⟨n_4 _,rfl⟩)))
def opM (t:Tok) (lv:Int) (x:Int × Str):Bool:=(t.k == 4) && decide (t.t=x.2) && (F6 x.1 == lv)
def opS (t:Tok) (lv:Int):Int:=((S0.find? (opM t lv)).map (·.1)).getD 0
theorem d7E:∀ x∈S0,∀ y∈S0,x.2=y.2->x=y:=by decide
theorem a5b {x:Int × Str} (hx:x∈S0) (h:opM t lv x=true):opS t lv=x.1:=by
 unfold opS;cases hf:S0.find? (opM t lv) with
 | none=>exact absurd h (by simpa using b9X.1 hf x hx)
 | some y =>
  have h1:=List.find?_some hf;have h2:=b8M hf;simp [opM] at h h1;have:=d7E x hx y h2 (by rw [<- h.1.2,<- h1.1.2]);rw [this];rfl
theorem b1B (h:∀ x∈S0,opM t lv x=false):opS t lv=0:=by
 unfold opS;have:S0.find? (opM t lv)=none:=b9X.2 fun x hx=>by simp [h x hx]
 rw [this];rfl
theorem b5A {l:List α} {x y:α} (hy:l[i]? = some y) (h:x∈l):x=y\/x∈l.eraseIdx i:=by
 obtain ⟨j,hj⟩:=M6.1 h;by_cases eD:j=i
 ·subst eD;rw [hy] at hj;injection hj with hj;exact .inl hj.symm
 ·exact .inr (d0Y.2 ⟨j,eD,hj⟩)
theorem b52 (T:List Tok) (n:Nat) (ps:List Str) (b:List Ex) (hT:T.length<=1000000) (hn:n < T.length) (lv:Int):b8 CC 302 [.ptr 0 0,iv lv] (pst T n ps b) (fun r τ=>E8 2 τ r (.ret (iv (opS (tk T n) lv))) (pst T n ps b)):=by
 refine qO Tryz.func302 ?_;refine qY b9L ?_;refine z_1 ?_;refine qD (c4 rfl Tryz.call307 trivial (b9t _) rfl ?_);intro _ _;refine qD (b0m rfl tt rfl a2g rfl ?_);refine j7 hCC (α:=List (Int × Str) × List (Int × Str)) (fun x=>[(1,iv lv),(5,.ptr 2 0),(11,.ptr 4 0)]) (fun x=>[pbx T n ps b 1,o8 b.length,.box (tk T n).cells,.dead,.iter (gm kv sv x.1) (gm kv sv x.2)]) (fun x=>(∀ y∈x.2,y∈S0)/\∀ y∈S0,y∉x.2->opM (tk T n) lv y=false) (fun x=>x.2.length) ([],S0) ⟨fun y h=>h,fun y h h2=>absurd h h2⟩ tu_ (ah:=[]) rfl z6 uz_ ?_;intro ⟨aD,left⟩ ⟨eK,dX⟩;dsimp only at eK dX ⊢;refine qk (qD (b5C rfl tt rfl rfl (fun hz=>?_) (fun i x hx=>?_)))
 ·
  have dv:left=[]:=by
   cases left with
   | nil=>rfl
   | cons y l=>cases hz
  subst dv;refine qC ?_ ?_<;>intro h1
  ·cases h1
  ·have eS:=b1B (fun y hy=>dX y hy si_);refine z_9 ?_;exact ⟨_,rE1,(by rw [eS];exact a0U rfl (.val _))⟩
 ·
  obtain ⟨⟨k,s⟩,hy,rfl⟩:=b5X hx;rw [a79];have bA:=eK _ (n_2 hy);refine qC ?_ ?_<;>intro h3
  ·refine qY (b0o rfl tt rfl rfl) ?_;refine qG b7J ?_;refine b9N ?_;refine qG D6 ?_;refine qG (fun hg=>c5 rfl Tryz.call319 ⟨hg,tt⟩ (a8f k _) rfl) ?_;refine qG D6 ?_;refine qG b39 ?_;refine qY M7 ?_;refine qC ?_ ?_<;>intro h4
   ·have hm:opM (tk T n) lv (k,s)=true:=h4;have bO:=a5b bA hm;refine c6 ?_;exact ⟨_,rE1,(by rw [bO];exact a0U rfl (.val _))⟩
   ·have hm:opM (tk T n) lv (k,s)=false:=h4;exact ⟨([(k,s)],left.eraseIdx i),_,⟨by dsimp only;rw [c11 (n_3.1 hy).1];have:=(n_3.1 hy).1;omega,fun y ii=>eK y (List.mem_of_mem_eraseIdx ii),fun y fk hy2=>by
     by_cases dU:y∈left
     ·rcases b5A hy dU with rfl | h
      ·exact hm
      ·exact absurd h hy2
     ·exact dX y fk dU⟩,tu_,rfl⟩
  ·cases h3
theorem b9w {n:Nat} {ps:List Str} {b:List Ex} (hT:T.length<=1000000) (hn:n < T.length) (lv:Int) {s:Nat} (am:PAt σ q s T n ps b):b8 CC 302 [.ptr q 0,iv lv] σ fun r τ=>r = .ret (iv (opS (tk T n) lv))/\τ=σ:=c0y (fun _ h=>by simp at h;subst h;exact .val _) (.val _) (b52 T n ps b hT hn lv) am
abbrev PX:=Nat × Nat × List Ex
structure PF where
 ex:Nat->Nat->List Ex->Option PX
 bin:Nat->Nat->Nat->List Ex->Option PX
 lp:Nat->Nat->Nat->Nat->List Ex->Option PX
 fac:Nat->Nat->List Ex->Option PX
 ag:Nat->Nat->List Ex->List Int->Option (List Int × Nat × List Ex)
def a2x (T:List Tok) (F:PF) (d n:Nat) (b:List Ex):Option (List Int × Nat × List Ex) :=
 (pIs T n 4 [40]).bind fun n1=>if isT (tk T n1) 4 [41]=true then some ([],n1+1,b) else F.ag d n1 b []
def L9 (b:List Ex) (x:Ex) (m:Nat):Option PX:=(X3 b x).bind fun w=>some (w.1,m,w.2)
def X6 (T:List Tok) (F:PF) (u:Str) (d n:Nat) (b:List Ex):Option PX :=
 (pIs T n 4 [40]).bind fun n1 =>
  if u=[114,101,97,100] then (a0L T n1).bind fun s=>(pIs T s.2 4 [44]).bind fun n2=>(F.ex (d+1) n2 b).bind fun x=>(pIs T x.2.1 4 [41]).bind fun m=>L9 x.2.2 ⟨6,0,0,s.1.t,[(x.1:Int)]⟩ m
  else if u=[115,105,122,101] then (a0L T n1).bind fun s=>(pIs T s.2 4 [41]).bind fun m=>L9 b ⟨7,0,0,s.1.t,[]⟩ m
  else if u=[104,97,115] then (a0L T n1).bind fun s=>(pIs T s.2 4 [41]).bind fun m=>L9 b ⟨8,0,0,s.1.t,[]⟩ m
  else if u=[101,110,118] then (G3 T n1 3).bind fun s=>if C3 s.1.t=true then (pIs T s.2 4 [41]).bind fun m=>L9 b ⟨9,0,0,s.1.t,[]⟩ m else none
  else (G3 T n1 2).bind fun s=>if 64<=s.1.n then none else (pIs T s.2 4 [41]).bind fun m=>L9 b ⟨10,s.1.n,0,[],[]⟩ m
def G7 (T:List Tok) (ps:List Str) (F:PF):PF where
 ex d n b:=if 32 < d then none else if isT (tk T n) 1 [105,102]=true then
  (F.ex (d+1) (n+1) b).bind fun x=>(pIs T x.2.1 1 [116,104,101,110]).bind fun n2=>(F.ex (d+1) n2 x.2.2).bind fun y=>(pIs T y.2.1 1 [101,108,115,101]).bind fun n3=>(F.ex (d+1) n3 y.2.2).bind fun z =>
   L9 z.2.2 ⟨5,0,0,[],[(x.1:Int),(y.1:Int),(z.1:Int)]⟩ z.2.1
  else F.bin 1 d n b
 bin lv d n b:=if lv=4 then F.fac d n b else (F.bin (lv+1) d n b).bind fun x=>F.lp lv d x.1 x.2.1 x.2.2
 lp lv d x n b:=if opS (tk T n) (lv:Int)=0 then some (x,n,b) else (F.bin (lv+1) d (n+1) b).bind fun y=>(X3 y.2.2 ⟨4,0,opS (tk T n) (lv:Int),[],[(x:Int),(y.1:Int)]⟩).bind fun w =>
  if lv=1 then some (w.1,y.2.1,w.2) else F.lp lv d w.1 y.2.1 w.2
 fac d n b :=
  if (tk T n).k=2 then L9 b ⟨1,(tk T n).n,0,[],[]⟩ (n+1)
  else if isT (tk T n) 4 [45]=true then (G3 T (n+1) 2).bind fun y=>L9 b ⟨1,-y.1.n,0,[],[]⟩ y.2
  else if isT (tk T n) 4 [40]=true then (F.ex (d+1) (n+1) b).bind fun x=>(pIs T x.2.1 4 [41]).bind fun m=>some (x.1,m,x.2.2)
  else if (tk T n).k≠1 then none
  else if (tk T n).t=[114,101,97,100]\/(tk T n).t=[115,105,122,101]\/(tk T n).t=[104,97,115]\/(tk T n).t=[101,110,118]\/(tk T n).t=[102,108,105,112] then X6 T F (tk T n).t d (n+1) b
  else if R6 (tk T n).t=true then none
  else if isT (tk T (n+1)) 4 [40]=true then (a2x T F d (n+1) b).bind fun a=>L9 a.2.2 ⟨3,0,0,(tk T n).t,a.1⟩ a.2.1
  else if ixS ps (tk T n).t 0 < 0 then none else L9 b ⟨2,ixS ps (tk T n).t 0,0,[],[]⟩ (n+1)
 ag d n b bo:=(F.ex (d+1) n b).bind fun x=>if isT (tk T x.2.1) 4 [44]=true then F.ag d (x.2.1+1) x.2.2 (bo++[(x.1:Int)]) else (pIs T x.2.1 4 [41]).bind fun m=>some (bo++[(x.1:Int)],m,x.2.2)
def A1 (T:List Tok) (ps:List Str):Nat->PF
 | 0=>⟨fun _ _ _=>none,fun _ _ _ _=>none,fun _ _ _ _ _=>none,fun _ _ _=>none,fun _ _ _ _=>none⟩
 | f+1=>G7 T ps (A1 T ps f)
def EC (T:List Tok) (ps:List Str) (f:Nat):Prop:=∀ (d n:Nat) (b:List Ex),n < T.length->b.length<=256->d<=33->8*(T.length - n)+6<=f->∀ (σ:List b9) (q s:Nat),PAt σ q s T n ps b->b8 CC 241 [.ptr q 0,iv d] σ (a4v (fun a:PX=>(iv a.1)) (fun a:PX=>(σ.set q (pbx T a.2.1 ps a.2.2 σ.length)).set s .dead++[o8 a.2.2.length]) (fun a:PX=>(A1 T ps f).ex d n b=some a/\n < a.2.1/\a.2.1 < T.length/\a.2.2.length<=256) σ q s ((A1 T ps f).ex d n b=none))
def BC (T:List Tok) (ps:List Str) (f:Nat):Prop:=∀ (lv d n:Nat) (b:List Ex),n < T.length->b.length<=256->1<=lv->lv<=4->d<=32->8*(T.length - n)+6<=f+lv->∀ (σ:List b9) (q s:Nat),PAt σ q s T n ps b->b8 CC 278 [.ptr q 0,iv lv,iv d] σ (a4v (fun a:PX=>(iv a.1)) (fun a:PX=>(σ.set q (pbx T a.2.1 ps a.2.2 σ.length)).set s .dead++[o8 a.2.2.length]) (fun a:PX=>(A1 T ps f).bin lv d n b=some a/\n < a.2.1/\a.2.1 < T.length/\a.2.2.length<=256) σ q s ((A1 T ps f).bin lv d n b=none))
def FC (T:List Tok) (ps:List Str) (f:Nat):Prop:=∀ (d n:Nat) (b:List Ex),n < T.length->b.length<=256->d<=32->8*(T.length - n)+1<=f->∀ (σ:List b9) (q s:Nat),PAt σ q s T n ps b->b8 CC 301 [.ptr q 0,iv d] σ (a4v (fun a:PX=>(iv a.1)) (fun a:PX=>(σ.set q (pbx T a.2.1 ps a.2.2 σ.length)).set s .dead++[o8 a.2.2.length]) (fun a:PX=>(A1 T ps f).fac d n b=some a/\n < a.2.1/\a.2.1 < T.length/\a.2.2.length<=256) σ q s ((A1 T ps f).fac d n b=none))
structure a0j (T:List Tok) (ps:List Str):Prop where
 len:T.length<=1000000
 w:a0Q T
 l:c8Q T
 ps:ps.length<=1000000
 nn:∀ i,0<=(tk T i).n/\(tk T i).n<=9007199254740993
variable {ps:List Str} {l:List α} {nn:Bool}
theorem P9 {n:Nat} {k:Int} (h:pIs T n k s=some m):m=n+1:=by
 unfold pIs at h;split at h
 ·injection h with h;exact h.symm
 ·cases h
theorem c6u (hc:a0j T ps) (hE:EC T ps f) (hB:BC T ps f) (d n:Nat) (b:List Ex) (hn:n < T.length) (hb:b.length<=256) (cc:d<=33) (hf:8*(T.length - n)+6<=f+1):b8 CC 241 [.ptr 0 0,iv d] (pst T n ps b) (a3B (fun a:PX=>(iv a.1)) (fun a=>a6E T a.2.1 ps a.2.2) (fun a:PX=>(A1 T ps (f+1)).ex d n b=some a/\n < a.2.1/\a.2.1 < T.length/\a.2.2.length<=256) ((A1 T ps (f+1)).ex d n b=none)):=by
 have hT:=hc.len;have hW:=hc.w;have af:(A1 T ps (f+1)).ex d n b=(G7 T ps (A1 T ps f)).ex d n b:=rfl;simp only [G7] at af;refine qO Tryz.func241 ?_;refine qY e0k ?_;refine z_1 ?_;refine qC ?_ ?_<;>intro h1
 ·have hd:32 < d:=sm_ h1;rw [n_1 hd] at af;exact a2N rfl rfl (P3 rfl a47 o6 (P2 _ _ _) rfl (fun _ _=>.inr ⟨(_,_),j9,af,si_⟩))
 ·have hd:¬ 32 < d:=sm_ h1;rw [n_0 hd] at af;refine qY (c5 rfl c4y a4p (b3y hT hn 1 [105,102] ⟨rfl,rfl,n_5 rfl⟩) rfl) ?_;refine qC ?_ ?_<;>intro h2
  ·have hi:isT (tk T n) 1 [105,102]=false:=sp_ h2;rw [n_0 (by rw [hi];decide)] at af;refine qD (p7 rfl c9z ⟨tt,rfl,tt,tt⟩ (hB 1 d n b hn hb om_ om_ om_ om_ _ 0 1 ⟨rfl,rfl,n_5 rfl⟩) rfl (fun x hx=>.inr ⟨x,j9,by rw [af];exact hx.1,hx.2⟩) ?_);rintro ⟨i,m,b2⟩ ⟨g1,g2,g3,g4⟩;dsimp only at g1 g2 g3 g4 ⊢;refine qN [pbx T m ps b2 3,.dead,.box (tk T n).cells,o8 b2.length] rfl ?_;refine c6 ?_;exact ⟨_,rE1,(by exact .inl ⟨(i,m,b2),Z5 (k:=3) rfl rfl de_ (.val _),by rw [af];exact g1,g2,g3,g4⟩)⟩
  ·have hi:isT (tk T n) 1 [105,102]=true:=sp_ h2;rw [n_1 hi] at af;have bf:=hW n hn (a6F hi de_);refine z_6 ?_;refine qY l9 ?_;refine qD (p7 rfl c0C j1 (hE (d+1) (n+1) b bf hb om_ om_ _ 0 1 ⟨rfl,rfl,n_5 rfl⟩) rfl (fun x hx=>.inr ⟨x,j9,by rw [af,hx.1];rfl,hx.2⟩) ?_);rintro ⟨i1,n1,b1⟩ ⟨x1,y1,z1,w1⟩;dsimp only at x1 y1 z1 w1 ⊢;rw [x1,n_9] at af;dsimp only at af;refine qN [pbx T n1 ps b1 3,.dead,.box (tk T n).cells,o8 b1.length] rfl (qD (p7 rfl c9j o6 (b5v hT z1 hW [116,104,101,110] ⟨rfl,rfl,n_5 rfl⟩) rfl (fun x hx=>.inr ⟨x,j9,by rw [af,hx.1];rfl,hx.2⟩) ?_));rintro n2 ⟨x2,y2⟩;dsimp only at x2 y2 ⊢;rw [x2,n_9] at af;have cj:=P9 x2;refine qN [pbx T n2 ps b1 3,.dead,.box (tk T n).cells,o8 b1.length] rfl (qY l9 ?_);refine qD (p7 rfl c0C j1 (hE (d+1) n2 b1 y2 w1 om_ om_ _ 0 _ ⟨rfl,rfl,n_5 rfl⟩) rfl (fun x hx=>.inr ⟨x,j9,by rw [af,hx.1];rfl,hx.2⟩) ?_);rintro ⟨i3,n3,b3⟩ ⟨x3,y3,z3,w3⟩;dsimp only at x3 y3 z3 w3 ⊢;rw [x3,n_9] at af;dsimp only at af;refine qN [pbx T n3 ps b3 4,.dead,.box (tk T n).cells,.dead,o8 b3.length] rfl (qD (p7 rfl c9j o6 (b5v hT z3 hW [101,108,115,101] ⟨rfl,rfl,n_5 rfl⟩) rfl (fun x hx=>.inr ⟨x,j9,by rw [af,hx.1];rfl,hx.2⟩) ?_));rintro n4 ⟨x4,y4⟩;dsimp only at x4 y4 ⊢;rw [x4,n_9] at af;have hn4:=P9 x4;refine qN [pbx T n4 ps b3 4,.dead,.box (tk T n).cells,.dead,o8 b3.length] rfl (qY l9 ?_);refine qD (p7 rfl c0C j1 (hE (d+1) n4 b3 y4 w3 om_ om_ _ 0 _ ⟨rfl,rfl,n_5 rfl⟩) rfl (fun x hx=>.inr ⟨x,j9,by rw [af,hx.1];rfl,hx.2⟩) ?_);rintro ⟨i5,n5,b5⟩ ⟨x5,y5,z5,w5⟩;dsimp only at x5 y5 z5 w5 ⊢;rw [x5,n_9,L9] at af;dsimp only at af;refine qN [pbx T n5 ps b5 5,.dead,.box (tk T n).cells,.dead,.dead,o8 b5.length] rfl (qY (A8 ([(i1:Int),(i3:Int),(i5:Int)].map icv) rfl C8 t_4 t_1 t_8 rfl rfl rfl rfl rfl rfl rfl rfl rfl) ?_);refine qY b2l ?_;refine qD (p7 rfl b1G C8 (a0n hT z5 w5 (tk T n) ⟨5,0,0,[],[(i1:Int),(i3:Int),(i5:Int)]⟩ ⟨rfl,rfl,n_5 rfl⟩) rfl (fun x hx=>.inr ⟨x,j9,by rw [af,hx.1];rfl,hx.2⟩) ?_);rintro ⟨i6,b6⟩ ⟨x6,y6⟩;dsimp only at x6 y6 ⊢;rw [x6,n_9] at af;refine qN [pbx T n5 ps b6 6,.dead,.box (tk T n).cells,.dead,.dead,.dead,o8 b6.length] rfl ?_;refine c6 ?_;exact ⟨_,rE1,(by exact .inl ⟨(i6,n5,b6),Z5 (k:=6) rfl rfl de_ (.val _),af,do_,z5,y6⟩)⟩
theorem d2h (hc:a0j T ps) (hE:EC T ps f) (hB:BC T ps f):EC T ps (f+1):=fun d n b hn hb hd hf σ q s am =>
 a29 (c:=fun a:PX=>(iv a.1)) (N:=fun a=>a.2.1) (B:=fun a=>a.2.2) (fun _ h=>by simp at h;subst h;exact .val _) (fun _=>.val _) (c6u hc hE hB d n b hn hb hd hf) am
def kf (ph:Bool):Nat:=if ph=true then 3 else 2
def of1 (ph:Bool) (m:Nat):b9:=if ph=true then .dead else o8 m
def of2 (ph:Bool) (m:Nat):b9:=if ph=true then o8 m else .dead
theorem d8y (h:¬ opS t lv=0):t.k≠5:=fun h5=>h (b1B fun x _=>by simp [opM,h5])
theorem a7U {b:List Ex} {k p:Nat} (h:ak[p]? = some k):C7 L ak (.list (b.map Ex.cv) (gnn b.length) (C2 b.length k)) (.list (b.map Ex.cv) (gnn b.length) (C2 b.length p)) :=
 .list (fun r hr c hc=>(C4 (f:=Ex.cv) (fun a=>(Ex.pure a).all) _ r hr c hc).old) (fun j hj=>by
  cases hb:b.length with
  | zero=>rw [hb] at hj;cases hj
  | succ m=>rw [hb] at hj;injection hj with hj;subst hj;exact ⟨k,rfl,h⟩)
theorem c1w (hc:a0j T ps) (hB:∀ g,g<=f->BC T ps g) (hF:FC T ps f) (lv d n:Nat) (b:List Ex) (hn:n < T.length) (hb:b.length<=256) (cP:1<=lv) (hl4:lv<=4) (cc:d<=32) (hf:8*(T.length - n)+6<=f+1+lv):b8 CC 278 [.ptr 0 0,iv lv,iv d] (pst T n ps b) (a3B (fun a:PX=>(iv a.1)) (fun a=>a6E T a.2.1 ps a.2.2) (fun a:PX=>(A1 T ps (f+1)).bin lv d n b=some a/\n < a.2.1/\a.2.1 < T.length/\a.2.2.length<=256) ((A1 T ps (f+1)).bin lv d n b=none)):=by
 have hT:=hc.len;have hW:=hc.w;have af:(A1 T ps (f+1)).bin lv d n b=(G7 T ps (A1 T ps f)).bin lv d n b:=rfl;simp only [G7] at af;refine qO Tryz.func278 ?_;refine qC ?_ ?_<;>intro h1
 ·have h4:lv=4:=sm_ h1;rw [n_1 h4] at af;refine qD (p7 rfl Tryz.call301 j1 (hF d n b hn hb cc om_ _ 0 1 ⟨rfl,rfl,n_5 rfl⟩) rfl (fun x hx=>.inr ⟨x,j9,by rw [af];exact hx.1,hx.2⟩) ?_);rintro ⟨i,m,b2⟩ ⟨g1,g2,g3,g4⟩;dsimp only at g1 g2 g3 g4 ⊢;refine qN [pbx T m ps b2 2,.dead,o8 b2.length] rfl ?_;refine c6 ?_;exact ⟨_,rE1,(by exact .inl ⟨(i,m,b2),Z5 (k:=2) rfl rfl de_ (.val _),by rw [af];exact g1,g2,g3,g4⟩)⟩
 ·have h4:¬ lv=4:=sm_ h1;rw [n_0 h4] at af;refine qY l9 ?_;refine qD (p7 rfl c9z C8 (hB f (n_7 _) (lv+1) d n b hn hb om_ om_ cc om_ _ 0 1 ⟨rfl,rfl,n_5 rfl⟩) rfl (fun x hx=>.inr ⟨x,j9,by rw [af,hx.1];rfl,hx.2⟩) ?_);rintro ⟨i1,n1,b1⟩ ⟨x1,y1,z1,w1⟩;dsimp only at x1 y1 z1 w1 ⊢;rw [x1,n_9] at af;dsimp only at af;refine qN [pbx T n1 ps b1 2,.dead,o8 b1.length] rfl ?_;refine A6 hCC 3 rfl (α:=Nat × Nat × List Ex × Bool × Nat) (fun x=>[(0,.ptr 0 0),(1,iv lv),(2,iv d),(7,iv x.1)]) (fun x=>[pbx T x.2.1 ps x.2.2.1 (kf x.2.2.2.1),.dead,of1 x.2.2.2.1 x.2.2.1.length,of2 x.2.2.2.1 x.2.2.1.length]) (fun x=>(A1 T ps (f+1)).bin lv d n b=(A1 T ps x.2.2.2.2).lp lv d x.1 x.2.1 x.2.2.1/\n < x.2.1/\x.2.1 < T.length/\x.2.2.1.length<=256/\x.2.2.2.2<=f/\8*(T.length - x.2.1)+3<=x.2.2.2.2) (fun x=>T.length - x.2.1) ⟨(i1,n1,b1,false,f),[0,1,2,7],⟨af,y1,z1,w1,n_7 _,do_⟩,⟨rfl,rfl⟩,ut_,uq_⟩ ?_;intro ⟨x,m,b2,ph,g⟩ ⟨dh,bL,hm,bW,hgf,hg⟩;dsimp only at dh bL hm bW hgf hg ⊢;obtain ⟨g,rfl⟩:∃ g',g=g'+1:=⟨g - 1,om_⟩;have iw:(A1 T ps (g+1)).lp lv d x m b2=(G7 T ps (A1 T ps g)).lp lv d x m b2:=rfl;simp only [G7] at iw;rw [iw] at dh;refine qk (qY (c5 rfl Tryz.call302 j1 (b9w hT hm (lv:Int) (q:=0) (s:=kf ph) b6Y) rfl) ?_);refine qC ?_ ?_<;>intro h2
  ·have h0:opS (tk T m) (lv:Int)=0:=sp_ h2;rw [n_1 h0] at dh;refine c6 ?_;exact ⟨_,rE1,(by exact .inl ⟨(x,m,b2),(by cases ph;exact Z5 (k:=2) rfl rfl de_ (.val _);exact Z5 (k:=3) rfl rfl de_ (.val _)),dh,bL,hm,bW⟩)⟩
  ·have h0:¬ opS (tk T m) (lv:Int)=0:=sp_ h2;rw [n_0 h0] at dh;have bX:=hW m hm (d8y h0);refine qY (c5 rfl c4X ⟨tt,tt⟩ (a27 hT hm (q:=0) (s:=kf ph) b6Y) rfl) ?_;refine z_1 ?_;refine z_6 ?_;refine qY l9 ?_;refine qD (p7 rfl c9z C8 (hB g om_ (lv+1) d (m+1) b2 bX bW om_ om_ cc om_ _ 0 (kf ph) b6Y) rfl (fun x hx=>.inr ⟨x,j9,by rw [dh,hx.1];rfl,hx.2⟩) ?_);rintro ⟨i3,n3,b3⟩ ⟨x3,y3,z3,w3⟩;dsimp only at x3 y3 z3 w3 ⊢;rw [x3,n_9] at dh;dsimp only at dh;refine qN [pbx T n3 ps b3 5,.dead,.dead,.dead,.box (tk T m).cells,o8 b3.length] P5 ?_;refine qY (A8 ([(x:Int),(i3:Int)].map icv) rfl j1 t_4 t_1 t_8 rfl rfl rfl rfl rfl rfl rfl rfl rfl) ?_;refine qY c6f ?_;refine qD (p7 rfl b1G C8 (a0n hT z3 w3 (tk T m) ⟨4,0,opS (tk T m) (lv:Int),[],[(x:Int),(i3:Int)]⟩ ⟨rfl,rfl,n_5 rfl⟩) rfl (fun x hx=>.inr ⟨x,j9,by rw [dh,hx.1];rfl,hx.2⟩) ?_);rintro ⟨i4,b4⟩ ⟨x4,y4⟩;dsimp only at x4 y4 ⊢;rw [x4,n_9] at dh;dsimp only at dh;refine qN [pbx T n3 ps b4 6,.dead,.dead,.dead,.box (tk T m).cells,.dead,o8 b4.length] rfl (qC ?_ ?_)<;> intro h3
   ·have cP:lv=1:=sm_ h3;rw [n_1 cP] at dh;refine c6 ?_;exact ⟨_,rE1,(by exact .inl ⟨(i4,n3,b4),Z5 (k:=6) rfl rfl de_ (.val _),dh,do_,z3,y4⟩)⟩
   ·have cP:¬ lv=1:=sm_ h3;rw [n_0 cP] at dh;exact ⟨(i4,n3,b4,true,g),[0,1,2,6],⟨do_,dh,do_,z3,y4,do_,do_⟩,⟨rfl,rfl⟩,ut_,⟨.inr ⟨_,rfl,.box ⟨.old a1c,.old (.val _),.old Y2,a7U rfl,tt⟩⟩,.inl rfl,.inl rfl,.inr ⟨_,rfl,.same rfl B8⟩,tt⟩⟩
theorem c59 (hc:a0j T ps) (hB:∀ g,g<=f->BC T ps g) (hF:FC T ps f):BC T ps (f+1):=fun lv d n b hn hb cP hl4 hd hf σ q s am =>
 a29 (c:=fun a:PX=>(iv a.1)) (N:=fun a=>a.2.1) (B:=fun a=>a.2.2) (fun _ h=>by simp at h;rcases h with rfl | rfl<;>exact .val _) (fun _=>.val _) (c1w hc hB hF lv d n b hn hb cP hl4 hd hf) am
theorem a4F {n:Nat} {k:Int} (h:G3 T n k=some (t,m)) (hk:k≠5):m=n+1:=by
 unfold G3 at h;rw [n_0 hk] at h;split at h
 ·injection h with h;injection h with _ h;exact h.symm
 ·cases h
theorem a7Z {n:Nat} (h:a0L T n=some (t,m)):m=n+1:=by
 unfold a0L at h;cases hq:G3 T n 3 with
 | none=>rw [hq] at h;cases h
 | some x =>
  rw [hq,n_9] at h;split at h
  ·injection h with h;subst h;exact a4F hq de_
  ·cases h
theorem b14 {n:Nat} (h:K0 T n=some (t,m)):m=n+1:=by
 unfold K0 at h;cases hq:G3 T n 1 with
 | none=>rw [hq] at h;cases h
 | some x =>
  rw [hq,n_9] at h;split at h
  ·cases h
  ·injection h with h;subst h;exact a4F hq de_
theorem b8Y (hc:a0j T ps) (hE:EC T ps f) (t:Tok) (d n:Nat) (b:List Ex) (R:Option PX) (af:R=X6 T (A1 T ps f) t.t d n b) (hn:n < T.length) (hb:b.length<=256) (cc:d<=32) (hf:8*(T.length - n)+6<=f):b8 CC 317 [.ptr 0 0,.agg t.cells,iv d] (pst T n ps b) (a3B (fun a:PX=>(iv a.1)) (fun a=>a6E T a.2.1 ps a.2.2) (fun a:PX=>R=some a/\n < a.2.1/\a.2.1 < T.length/\a.2.2.length<=256) (R=none)):=by
 have hT:=hc.len;have hW:=hc.w;unfold X6 at af;refine qO Tryz.func317 ?_;refine qD (G8 rfl tt j3 j6 ?_);refine qD (p7 rfl a6b o6 (Q9 hT hn hW [40] ⟨rfl,rfl,n_5 rfl⟩) rfl (fun x hx=>.inr ⟨x,j9,by rw [af,hx.1];rfl,hx.2⟩) ?_);rintro n1 ⟨sn1,kn1⟩;dsimp only at sn1 kn1 ⊢;rw [sn1,n_9] at af;have en1:=P9 sn1;refine qD (p8 rfl b5b rfl j6 ?_);refine qY P0 ?_;refine qC ?_ ?_<;>intro h1
 ·have u1:t.t=[114,101,97,100]:=sp_ h1;rw [n_1 u1] at af;refine qD (p7 rfl c2z ⟨tt,tt⟩ (b0p hT kn1 hW hc.l ⟨rfl,rfl,n_5 rfl⟩) rfl (fun x hx=>.inr ⟨x,j9,by rw [af,hx.1];rfl,hx.2⟩) ?_);rintro ⟨p,n2⟩ ⟨s2,k2⟩;dsimp only at s2 k2 ⊢;rw [s2,n_9] at af;dsimp only at af;have e2:=a7Z s2;refine qY c3w ?_;refine d1q ?_;refine qD (p7 rfl a6b o6 (Q9 hT k2 hW [44] ⟨rfl,rfl,n_5 rfl⟩) rfl (fun x hx=>.inr ⟨x,j9,by rw [af,hx.1];rfl,hx.2⟩) ?_);rintro n3 ⟨sn3,kn3⟩;dsimp only at sn3 kn3 ⊢;rw [sn3,n_9] at af;have en3:=P9 sn3;refine qY l9 ?_;refine qD (p7 rfl c0C j1 (hE (d+1) n3 b kn3 hb om_ om_ _ 0 1 ⟨rfl,rfl,n_5 rfl⟩) rfl (fun x hx=>.inr ⟨x,j9,by rw [af,hx.1];rfl,hx.2⟩) ?_);rintro ⟨i4,n4,b4⟩ ⟨x4,y4,z4,w4⟩;dsimp only at x4 y4 z4 w4 ⊢;rw [x4,n_9] at af;dsimp only at af;refine qY (A8 ([(i4:Int)].map icv) rfl ⟨tt,tt⟩ t_4 t_1 t_8 rfl rfl rfl rfl rfl rfl rfl rfl rfl) ?_;refine qD (j2 rfl tt tt rfl j3 b8E (.inl rfl) rfl rfl (nb rfl) ?_);refine qD (p7 rfl a6b o6 (Q9 hT z4 hW [41] ⟨rfl,rfl,n_5 rfl⟩) rfl (fun x hx=>.inr ⟨x,j9,by rw [af,hx.1];rfl,hx.2⟩) ?_);rintro n5 ⟨ff,fW⟩;dsimp only at ff fW ⊢;rw [ff,n_9] at af;have en5:=P9 ff;refine qD (p7 rfl b1G C8 (a0n hT fW w4 t ⟨6,0,0,p.t,[(i4:Int)]⟩ ⟨rfl,rfl,n_5 rfl⟩) rfl (fun x hx=>.inr ⟨x,j9,by rw [af,L9,hx.1];rfl,hx.2⟩) ?_);rintro ⟨i6,b6⟩ ⟨x6,y6⟩;dsimp only at x6 y6 ⊢;rw [L9,x6,n_9] at af;exact b8e
 ·have u1:¬ t.t=[114,101,97,100]:=sp_ h1;rw [n_0 u1] at af;refine qY P0 ?_;refine qC ?_ ?_<;>intro h2
  ·have u2:t.t=[115,105,122,101]:=sp_ h2;rw [n_1 u2] at af;refine qD (p7 rfl c2z ⟨tt,tt⟩ (b0p hT kn1 hW hc.l ⟨rfl,rfl,n_5 rfl⟩) rfl (fun x hx=>.inr ⟨x,j9,by rw [af,hx.1];rfl,hx.2⟩) ?_);rintro ⟨p,n2⟩ ⟨s2,k2⟩;dsimp only at s2 k2 ⊢;rw [s2,n_9] at af;dsimp only at af;have e2:=a7Z s2;refine qY c3w ?_;refine d1q ?_;refine qD (p7 rfl a6b o6 (Q9 hT k2 hW [41] ⟨rfl,rfl,n_5 rfl⟩) rfl (fun x hx=>.inr ⟨x,j9,by rw [af,hx.1];rfl,hx.2⟩) ?_);rintro n5 ⟨ff,fW⟩;dsimp only at ff fW ⊢;rw [ff,n_9] at af;have en5:=P9 ff;refine qD (p7 rfl b1G C8 (a0n hT fW hb t ⟨7,0,0,p.t,[]⟩ ⟨rfl,rfl,n_5 rfl⟩) rfl (fun x hx=>.inr ⟨x,j9,by rw [af,L9,hx.1];rfl,hx.2⟩) ?_);rintro ⟨i6,b6⟩ ⟨x6,y6⟩;dsimp only at x6 y6 ⊢;rw [L9,x6,n_9] at af;exact b8e
  ·have u2:¬ t.t=[115,105,122,101]:=sp_ h2;rw [n_0 u2] at af;refine qY P0 ?_;refine qC ?_ ?_<;>intro h3
   ·have u3:t.t=[104,97,115]:=sp_ h3;rw [n_1 u3] at af;refine qD (p7 rfl c2z ⟨tt,tt⟩ (b0p hT kn1 hW hc.l ⟨rfl,rfl,n_5 rfl⟩) rfl (fun x hx=>.inr ⟨x,j9,by rw [af,hx.1];rfl,hx.2⟩) ?_);rintro ⟨p,n2⟩ ⟨s2,k2⟩;dsimp only at s2 k2 ⊢;rw [s2,n_9] at af;dsimp only at af;have e2:=a7Z s2;refine qY c3w ?_;refine d1q ?_;refine qD (p7 rfl a6b o6 (Q9 hT k2 hW [41] ⟨rfl,rfl,n_5 rfl⟩) rfl (fun x hx=>.inr ⟨x,j9,by rw [af,hx.1];rfl,hx.2⟩) ?_);rintro n5 ⟨ff,fW⟩;dsimp only at ff fW ⊢;rw [ff,n_9] at af;have en5:=P9 ff;refine qD (p7 rfl b1G C8 (a0n hT fW hb t ⟨8,0,0,p.t,[]⟩ ⟨rfl,rfl,n_5 rfl⟩) rfl (fun x hx=>.inr ⟨x,j9,by rw [af,L9,hx.1];rfl,hx.2⟩) ?_);rintro ⟨i6,b6⟩ ⟨x6,y6⟩;dsimp only at x6 y6 ⊢;rw [L9,x6,n_9] at af;exact b8e
   ·have u3:¬ t.t=[104,97,115]:=sp_ h3;rw [n_0 u3] at af;refine qY P0 ?_;refine qC ?_ ?_<;>intro h4
    ·have u4:t.t=[101,110,118]:=sp_ h4;rw [n_1 u4] at af;refine qD (p7 rfl d1R o6 (a7o hT kn1 hW 3 ⟨rfl,rfl,n_5 rfl⟩) rfl (fun x hx=>.inr ⟨x,j9,by rw [af,hx.1];rfl,hx.2⟩) ?_);rintro ⟨p,n2⟩ ⟨s2,k2⟩;dsimp only at s2 k2 ⊢;rw [s2,n_9] at af;dsimp only at af;have e2:=a4F s2 de_;have hp:=a4S s2;refine z_1 ?_;refine qY (c5 rfl c5j ⟨tt,tt⟩ (a1F p.t _) rfl) ?_;refine qC ?_ ?_<;>intro h5
     ·have hq:C3 p.t=false:=sp_ h5;rw [n_0 (by rw [hq];decide)] at af;exact a2N rfl rfl (P3 rfl a47 o6 (P2 _ _ _) rfl (fun _ _=>.inr ⟨(_,_),j9,af,si_⟩))
     ·have hq:C3 p.t=true:=sp_ h5;rw [n_1 hq] at af;refine d1q ?_;refine qD (p7 rfl a6b o6 (Q9 hT k2 hW [41] ⟨rfl,rfl,n_5 rfl⟩) rfl (fun x hx=>.inr ⟨x,j9,by rw [af,hx.1];rfl,hx.2⟩) ?_);rintro n5 ⟨ff,fW⟩;dsimp only at ff fW ⊢;rw [ff,n_9] at af;have en5:=P9 ff;refine qD (p7 rfl b1G C8 (a0n hT fW hb t ⟨9,0,0,p.t,[]⟩ ⟨rfl,rfl,n_5 rfl⟩) rfl (fun x hx=>.inr ⟨x,j9,by rw [af,L9,hx.1];rfl,hx.2⟩) ?_);rintro ⟨i6,b6⟩ ⟨x6,y6⟩;dsimp only at x6 y6 ⊢;rw [L9,x6,n_9] at af;exact b8e
    ·have u4:¬ t.t=[101,110,118]:=sp_ h4;rw [n_0 u4] at af;refine qD (p7 rfl d1R o6 (a7o hT kn1 hW 2 ⟨rfl,rfl,n_5 rfl⟩) rfl (fun x hx=>.inr ⟨x,j9,by rw [af,hx.1];rfl,hx.2⟩) ?_);rintro ⟨p,n2⟩ ⟨s2,k2⟩;dsimp only at s2 k2 ⊢;rw [s2,n_9] at af;dsimp only at af;have e2:=a4F s2 de_;have hp:=a4S s2;refine z_1 ?_;refine qC ?_ ?_<;>intro h6
     ·have hq:64<=p.n:=sp_ h6;rw [n_1 hq] at af;exact a2N rfl rfl (P3 rfl a47 o6 (P2 _ _ _) rfl (fun _ _=>.inr ⟨(_,_),j9,af,si_⟩))
     ·have hq:¬ 64<=p.n:=sp_ h6;rw [n_0 hq] at af;refine d1q ?_;refine qD (p7 rfl a6b o6 (Q9 hT k2 hW [41] ⟨rfl,rfl,n_5 rfl⟩) rfl (fun x hx=>.inr ⟨x,j9,by rw [af,hx.1];rfl,hx.2⟩) ?_);rintro n5 ⟨ff,fW⟩;dsimp only at ff fW ⊢;rw [ff,n_9] at af;have en5:=P9 ff;refine qD (p7 rfl b1G C8 (a0n hT fW hb t ⟨10,p.n,0,[],[]⟩ ⟨rfl,rfl,n_5 rfl⟩) rfl (fun x hx=>.inr ⟨x,j9,by rw [af,L9,hx.1];rfl,hx.2⟩) ?_);rintro ⟨i6,b6⟩ ⟨x6,y6⟩;dsimp only at x6 y6 ⊢;rw [L9,x6,n_9] at af;exact b8e
def UC (T:List Tok) (ps:List Str) (f:Nat):Prop:=∀ (t:Tok) (d n:Nat) (b:List Ex),n < T.length->b.length<=256->d<=32->8*(T.length - n)+6<=f->∀ (σ:List b9) (q s:Nat),PAt σ q s T n ps b->b8 CC 317 [.ptr q 0,.agg t.cells,iv d] σ (a4v (fun a:PX=>(iv a.1)) (fun a:PX=>(σ.set q (pbx T a.2.1 ps a.2.2 σ.length)).set s .dead++[o8 a.2.2.length]) (fun a:PX=>(X6 T (A1 T ps f) t.t d n b)=some a/\n < a.2.1/\a.2.1 < T.length/\a.2.2.length<=256) σ q s ((X6 T (A1 T ps f) t.t d n b)=none))
theorem c1b (hc:a0j T ps) (hE:EC T ps f):UC T ps f:=fun t d n b hn hb hd hf σ q s am =>
 a29 (c:=fun a:PX=>(iv a.1)) (N:=fun a=>a.2.1) (B:=fun a=>a.2.2) (fun _ h=>by simp at h;rcases h with rfl | rfl;exact a0s _;exact .val _) (fun _=>.val _) (b8Y hc hE t d n b _ rfl hn hb hd hf) am
def ka (ph:Bool):Nat:=if ph=true then 2 else 1
def oa1 (ph:Bool) (m:Nat):b9:=if ph=true then .dead else o8 m
def oa2 (ph:Bool) (m:Nat):b9:=if ph=true then o8 m else .dead
theorem b5u {n k:Nat} {b:List Ex} (h0:τ[0]? = some (pbx T n ps b k)) (hk:τ[k]? = some (o8 b.length)) (h2:2<=k) (hc:∀ ak,C7 2 ak c c'):E8 2 τ (.ret c) (.ret c') (a6E T n ps b):=by
 obtain ⟨ak,a1,a2,_,a4⟩:=Z5 h0 hk h2 (Old.val (.int .i64 0));exact ⟨ak,a1,a2,.ret (hc ak),a4⟩
theorem d7M {n k:Nat} {b:List Ex} {l:List Int} (h0:τ[0]? = some (pbx T n ps b k)) (hk:τ[k]? = some (o8 b.length)) (h2:2<=k) (hc:∀ ak,C7 2 ak c c'):E8 2 τ (.ret c) (.ret c') (if (!(l++[x]).isEmpty)=true then a6E T n ps b else pst T n ps b):=by
 rw [n_1 si_];exact b5u h0 hk h2 hc
def AC (T:List Tok) (ps:List Str) (f:Nat):Prop:=∀ (d n:Nat) (b:List Ex),n < T.length->b.length<=256->d<=32->8*(T.length - n)+6<=f->∀ (σ:List b9) (q s:Nat),PAt σ q s T n ps b->b8 CC 318 [.ptr q 0,iv d] σ (a4v (fun a:List Int × Nat × List Ex=>(.list (a.1.map icv) (gnn a.1.length) none))
 (fun a=>if (!a.1.isEmpty)=true then (σ.set q (pbx T a.2.1 ps a.2.2 σ.length)).set s .dead++[o8 a.2.2.length] else (σ.set q (pbx T a.2.1 ps a.2.2 s)).set s (o8 a.2.2.length)) (fun a:List Int × Nat × List Ex=>a2x T (A1 T ps f) d n b=some a/\n < a.2.1/\a.2.1 < T.length/\a.2.2.length<=256/\a.1.length<=1000000) σ q s (a2x T (A1 T ps f) d n b=none))
theorem b2D (hc:a0j T ps) (hE:∀ g,g<=f->EC T ps g) (d n:Nat) (b:List Ex) (hn:n < T.length) (hb:b.length<=256) (cc:d<=32) (hf:8*(T.length - n)+6<=f):b8 CC 318 [.ptr 0 0,iv d] (pst T n ps b) (a3B (fun a:List Int × Nat × List Ex=>(.list (a.1.map icv) (gnn a.1.length) none)) (fun a=>if (!a.1.isEmpty)=true then a6E T a.2.1 ps a.2.2 else pst T a.2.1 ps a.2.2) (fun a:List Int × Nat × List Ex=>a2x T (A1 T ps f) d n b=some a/\n < a.2.1/\a.2.1 < T.length/\a.2.2.length<=256/\a.1.length<=1000000) (a2x T (A1 T ps f) d n b=none)):=by
 have hT:=hc.len;have hW:=hc.w;have af:a2x T (A1 T ps f) d n b=a2x T (A1 T ps f) d n b:=rfl
 conv at af=>rhs;unfold a2x
 refine qO Tryz.func318 ?_;refine qD (p7 rfl a6b o6 (Q9 hT hn hW [40] ⟨rfl,rfl,n_5 rfl⟩) rfl (fun x hx=>.inr ⟨x,j9,by rw [af,hx.1];rfl,hx.2⟩) ?_);rintro n1 ⟨bv,bf⟩;dsimp only at bv bf ⊢;rw [bv,n_9] at af;have e1:=P9 bv;refine qD (c4 rfl c50 o6 (a1H hT bf hW [41] ⟨rfl,rfl,n_5 rfl⟩) rfl ?_);rintro ⟨ac,n2⟩ ⟨ha,cj,eB⟩;dsimp only at ha cj eB ⊢;refine qC ?_ ?_<;>intro h1
 ·have ca:isT (tk T n1) 4 [41]=true:=by rw [<- ha];simpa using h1
  rw [n_1 ca] at cj af;refine c6 ?_;exact ⟨_,rE1,(by exact .inl ⟨([],n2,b),a0U rfl (T6 _ [] false),by rw [af,cj],do_,eB,hb,by show 0<=1000000;decide⟩)⟩
 ·have ca:¬ isT (tk T n1) 4 [41]=true:=by rw [<- ha];simpa using h1
  rw [n_0 ca] at cj af;subst cj;refine A6 hCC 2 rfl (α:=List Int × Nat × List Ex × Bool × Nat) (fun x=>[(0,.ptr 0 0),(1,iv d),(5,(.list (x.1.map icv) (gnn x.1.length) (C2 x.1.length 3)))]) (fun x=>[pbx T x.2.1 ps x.2.2.1 (ka x.2.2.2.1),oa1 x.2.2.2.1 x.2.2.1.length,oa2 x.2.2.2.1 x.2.2.1.length,o8 x.1.length]) (fun x=>a2x T (A1 T ps f) d n b=(A1 T ps x.2.2.2.2).ag d x.2.1 x.2.2.1 x.1/\x.1.length<=x.2.1/\n < x.2.1/\x.2.1 < T.length/\x.2.2.1.length<=256/\x.2.2.2.2<=f/\8*(T.length - x.2.1)+7<=x.2.2.2.2) (fun x=>T.length - x.2.1) ⟨([],n2,b,false,f),[0,1,7,8],⟨af,n_4 _,do_,eB,hb,n_7 _,do_⟩,⟨rfl,rfl⟩,ut_,uq_⟩ ?_;intro ⟨l,m,b2,ph,g⟩ ⟨dh,fV,bL,hm,bW,hgf,hg⟩;dsimp only at dh fV bL hm bW hgf hg ⊢;obtain ⟨g,rfl⟩:∃ g',g=g'+1:=⟨g - 1,om_⟩;have iw:(A1 T ps (g+1)).ag d m b2 l=(G7 T ps (A1 T ps g)).ag d m b2 l:=rfl;simp only [G7] at iw;rw [iw] at dh;refine a4T ?_;refine qD (p7 rfl c0C j1 (hE g om_ (d+1) m b2 hm bW om_ om_ _ 0 (ka ph) b6Y) rfl (fun x hx=>.inr ⟨x,j9,by rw [dh,hx.1];rfl,hx.2⟩) ?_);rintro ⟨i3,n3,b3⟩ ⟨x3,y3,z3,w3⟩;dsimp only at x3 y3 z3 w3 ⊢;rw [x3,n_9] at dh;dsimp only at dh;refine qN [pbx T n3 ps b3 4,.dead,.dead,o8 l.length,o8 b3.length] P5 ?_;have eK:=V8 l (i3:Int);refine qY (A8 [icv (i3:Int)] rfl ⟨tt,tt⟩ t_4 t_1 t_8 rfl rfl rfl rfl rfl rfl rfl rfl rfl) ?_;refine qD (A7 rfl tt tt rfl si_ q_2 t_4 t_1 b95 t_8 rfl (.inr rfl) q_7 c9m C1 ((l++[(i3:Int)]).map icv) (l++[(i3:Int)]).length si_ si_ ?_);refine qD (c4 rfl c50 o6 (a1H hT z3 hW [44] ⟨rfl,rfl,n_5 rfl⟩) rfl ?_);rintro ⟨ac2,m2⟩ ⟨ha2,bT,gg⟩;dsimp only at ha2 bT gg ⊢;refine qC ?_ ?_<;>intro h2
  ·have cr:¬ isT (tk T n3) 4 [44]=true:=by rw [<- ha2];simpa using h2
   rw [n_0 cr] at bT dh;subst bT;refine j4 ?_;refine qD (p7 rfl a6b o6 (Q9 hT gg hW [41] ⟨rfl,rfl,n_5 rfl⟩) rfl (fun x hx=>.inr ⟨x,j9,by rw [dh,hx.1];rfl,hx.2⟩) ?_);rintro m3 ⟨fS,gf⟩;dsimp only at fS gf ⊢;have e3:=P9 fS;rw [fS,n_9] at dh;refine c6 ?_;exact ⟨_,rE1,(by exact .inl ⟨(l++[(i3:Int)],m3,b3),d7M (k:=4) rfl rfl de_ (fun _=>K4 (f:=icv) (fun _=>⟨.val _,tt⟩) _),dh,do_,gf,w3,do_⟩)⟩
  ·have cr:isT (tk T n3) 4 [44]=true:=by rw [<- ha2];simpa using h2
   rw [n_1 cr] at bT dh;subst bT;exact ⟨(l++[(i3:Int)],n3+1,b3,true,g),[0,1,4,5],⟨do_,dh,do_,do_,gg,w3,do_,do_⟩,⟨rfl,rfl⟩,ut_,⟨.inr ⟨_,rfl,.box ⟨.old a1c,.old (.val _),.old Y2,a7U rfl,tt⟩⟩,.inl rfl,.inr ⟨_,rfl,.same rfl B8⟩,.inr ⟨_,rfl,.same rfl B8⟩,tt⟩⟩
theorem b50 (hc:a0j T ps) (hE:∀ g,g<=f->EC T ps g):AC T ps f:=fun d n b hn hb hd hf σ q s am =>
 a5n (c:=fun a:List Int × Nat × List Ex=>(.list (a.1.map icv) (gnn a.1.length) none)) (N:=fun a=>a.2.1) (B:=fun a=>a.2.2) (Z:=fun _=>ps) (g:=fun a=>!a.1.isEmpty) (fun _ h=>by simp at h;subst h;exact .val _) (fun _=>O7 _ _) (b2D hc hE d n b hn hb hd hf) am
theorem a1u {C:Ctx} {aa:Array Oper} {qs:List Nat} {Q:D5->Env->List b9->Prop} {S:List (List b9->Prop)} {l:List (Nat × List Nat)} {fl:List Nat} {E:Env} (τ:List b9) (h:σ=τ) (k:a13 S τ fl/\V7 C aa qs Q S l E τ):a13 S σ fl/\V7 C aa qs Q S l E σ:=h ▸ k
def kc (ph:Bool):Nat:=if ph=true then 3 else 1
def oc1 (ph:Bool) (m:Nat):b9:=if ph=true then .dead else o8 m
def oc2 (ph:Bool) (m:Nat):List b9:=if ph=true then [o8 m] else []
theorem c0R (hc:a0j T ps) (hE:EC T ps f) (hA:AC T ps f) (hU:UC T ps f) (d n:Nat) (b:List Ex) (hn:n < T.length) (hb:b.length<=256) (cc:d<=32) (hf:8*(T.length - n)+1<=f+1):b8 CC 301 [.ptr 0 0,iv d] (pst T n ps b) (a3B (fun a:PX=>(iv a.1)) (fun a=>a6E T a.2.1 ps a.2.2) (fun a:PX=>(A1 T ps (f+1)).fac d n b=some a/\n < a.2.1/\a.2.1 < T.length/\a.2.2.length<=256) ((A1 T ps (f+1)).fac d n b=none)):=by
 have hT:=hc.len;have hW:=hc.w;have af:(A1 T ps (f+1)).fac d n b=(G7 T ps (A1 T ps f)).fac d n b:=rfl;simp only [G7] at af;refine cO Tryz.func301 ?_;refine z_0 ?_;refine b1x ?_;refine z_4 ?_;refine ye rfl c4X ⟨tt,tt⟩ (a27 hT hn ⟨rfl,rfl,n_5 rfl⟩) rfl ?_;refine cD (p8 rfl a2R rfl j6 ?_);refine cD (j2 rfl tt tt rfl j3 a3C j6 rfl rfl (nb rfl) ?_);refine b2r ?_;refine a12 ?_;refine z_0 ?_;refine cY c6J ?_;refine cY a1n ?_;refine d0h ?_;refine cC ?_ ?_<;>intro h1
 ·have u1:(tk T n).k=2:=sp_ h1;rw [n_1 u1] at af;have bf:=hW n hn (by rw [u1];decide);refine a4N ?_;refine cY c3s ?_;refine cY a1n ?_;refine cY l9 ?_;refine cY a6k ?_;refine d6f ?_;refine x9 ?_;refine z_4 ?_;refine cY b8R ?_;refine cY c6J ?_;refine cY a1n ?_;refine cY b2l ?_;refine cD (p7 rfl b1G C8 (a0n hT bf hb (tk T n) ⟨1,(tk T n).n,0,[],[]⟩ ⟨rfl,rfl,n_5 rfl⟩) rfl (fun x hx=>.inr ⟨x,j9,by rw [af,L9,hx.1];rfl,hx.2⟩) ?_);rintro ⟨i6,b6⟩ ⟨x6,y6⟩;dsimp only at x6 y6 ⊢;rw [L9,x6,n_9] at af;exact d5s
 ·have u1:¬ (tk T n).k=2:=sp_ h1;rw [n_0 u1] at af;refine z_4 ?_;refine de rfl c50 o6 (a1H hT hn hW [45] ⟨rfl,rfl,n_5 rfl⟩) rfl ?_;rintro ⟨ac,n2⟩ ⟨ha,cj,eB⟩;dsimp only at ha cj eB ⊢;refine z_3 ?_;refine cC ?_ ?_<;>intro h2
  ·have u2:isT (tk T n) 4 [45]=true:=by rw [<- ha];simpa using h2
   rw [n_1 u2] at cj af;subst cj;refine F9 ?_;refine cF [] [0,1,2] (tl:=[(3,[0,1]),(4,[0,1]),(5,[0,1]),(6,[0,1]),(7,[]),(8,[])]) ?_;refine chf rfl V4 ?_;refine chf rfl (c8 rfl b8R) ?_;refine b4r ?_;refine B1 rfl rfl rfl (p7 rfl d1R o6 (a7o hT eB hW 2 ⟨rfl,rfl,n_5 rfl⟩) rfl (fun x hx _=>.inr ⟨x,j9,by rw [af,hx.1];rfl,hx.2⟩) ?_);rintro ⟨p,n3⟩ ⟨s2,k2⟩;dsimp only at s2 k2 ⊢;rw [s2,n_9] at af;dsimp only at af;have e2:=a4F s2 de_;have hpn:=hc.nn (n+1);rw [<- a4S s2] at hpn;have ew : -p.n=IntKind.i64.wrap (0 - p.n):=by rw [a95 om_ om_];omega
   rw [ew] at af;refine ⟨⟨F1,b4u,tt⟩,?_⟩;refine F2 rfl rfl (c8 rfl a4h) ⟨⟨F1,b4u,tt⟩,?_⟩;refine F2 rfl rfl (c8 rfl (c8g rfl tt rfl)) ⟨⟨F1,b4u,tt⟩,?_⟩;refine F2 rfl rfl (c8 rfl b2l) ⟨⟨F1,b4u,tt⟩,?_⟩;refine B1 rfl rfl rfl (p7 rfl b1G C8 (a0n hT k2 hb (tk T n) ⟨1,IntKind.i64.wrap (0 - p.n),0,[],[]⟩ ⟨rfl,rfl,n_5 rfl⟩) rfl (fun x hx _=>.inr ⟨x,j9,by rw [af,L9,hx.1];rfl,hx.2⟩) ?_);rintro ⟨i6,b6⟩ ⟨x6,y6⟩;dsimp only at x6 y6 ⊢;rw [L9,x6,n_9] at af;refine ⟨tt,?_⟩;refine a89 ?_;exact ⟨_,rE1,(by exact .inl ⟨(i6,n3,b6),Z5 rfl rfl (nb rfl) (.val _),af,do_,k2,y6⟩)⟩
  ·have u2:¬ isT (tk T n) 4 [45]=true:=by rw [<- ha];simpa using h2
   rw [n_0 u2] at cj af;replace cj:=cj.symm;subst cj;refine z_4 ?_;refine de rfl c50 o6 (a1H hT hn hW [40] ⟨rfl,rfl,n_5 rfl⟩) rfl ?_;rintro ⟨ac3,n3⟩ ⟨ha3,gh,hn3l⟩;dsimp only at ha3 gh hn3l ⊢;refine z_3 ?_;refine cC ?_ ?_<;>intro h3
   ·have u3:isT (tk T n) 4 [40]=true:=by rw [<- ha3];simpa using h3
    rw [n_1 u3] at gh af;subst gh;refine a7x ?_;refine cY l9 ?_;refine cD (p7 rfl c0C j1 (hE (d+1) (n+1) b hn3l hb om_ om_ _ 0 1 ⟨rfl,rfl,n_5 rfl⟩) rfl (fun x hx=>.inr ⟨x,j9,by rw [af,hx.1];rfl,hx.2⟩) ?_);rintro ⟨i4,n4,b4⟩ ⟨x4,y4,z4,w4⟩;dsimp only at x4 y4 z4 w4 ⊢;rw [x4,n_9] at af;dsimp only at af;refine K3 [pbx T n4 ps b4 3,.dead,.box (tk T n).cells,o8 b4.length] rfl ?_;refine z_3 ?_;refine z_4 ?_;refine cD (p7 rfl a6b o6 (Q9 hT z4 hW [41] ⟨rfl,rfl,n_5 rfl⟩) rfl (fun x hx=>.inr ⟨x,j9,by rw [af,hx.1];rfl,hx.2⟩) ?_);rintro n5 ⟨s5,k5⟩;dsimp only at s5 k5 ⊢;rw [s5,n_9] at af;have e5:=P9 s5;refine x9 ?_;refine z_4 ?_;refine a1O ?_;exact ⟨_,rE1,(by exact .inl ⟨(i4,n5,b4),Z5 rfl rfl (nb rfl) (.val _),af,do_,k5,w4⟩)⟩
   ·have u3:¬ isT (tk T n) 4 [40]=true:=by rw [<- ha3];simpa using h3
    rw [n_0 u3] at gh af;replace gh:=gh.symm;subst gh;refine z_0 ?_;refine cY c6J ?_;refine cY a1n ?_;refine d0h ?_;refine cC ?_ ?_<;>intro h4
    ·have u4:(tk T n).k≠1:=sp_ h4;rw [n_1 u4] at af;refine G5 ?_;exact d8e
    ·have u4:(tk T n).k=1:=sp_ h4;rw [n_0 (fun h=>h u4)] at af;have bf:=hW n hn (by rw [u4];decide);refine C9 ?_;refine a4N ?_;refine cY c3s ?_;refine cY a1n ?_;refine cY l9 ?_;refine cY a6k ?_;refine d6f ?_;refine a6z ?_;refine cY b9j ?_;refine cY Q3 ?_;refine c5S ?_;refine F9 ?_;refine z_0 ?_;refine cY P0 ?_;refine z_3 ?_;refine cC ?_ ?_<;>intro h5
     ·have u5:(tk T n).t=[114,101,97,100]:=sp_ h5;have uu:(tk T n).t=[114,101,97,100]\/(tk T n).t=[115,105,122,101]\/(tk T n).t=[104,97,115]\/(tk T n).t=[101,110,118]\/(tk T n).t=[102,108,105,112]:=.inl u5;rw [n_1 uu] at af;refine C9 ?_;refine cC ?_ ?_<;>intro h6
      ·refine b3N ?_;refine cD (p7 rfl d0F C8 (hU (tk T n) d (n+1) b bf hb cc om_ _ 0 1 ⟨rfl,rfl,n_5 rfl⟩) rfl (fun x hx=>.inr ⟨x,j9,by rw [af];exact hx.1,hx.2⟩) ?_);rintro ⟨i,m,b2⟩ ⟨g1,g2,g3,g4⟩;dsimp only at g1 g2 g3 g4 ⊢;exact b7a
      ·exact absurd u5 (sp_ h6)
     ·have u5:¬ (tk T n).t=[114,101,97,100]:=sp_ h5;refine z_0 ?_;refine cY P0 ?_;refine z_3 ?_;refine cC ?_ ?_<;>intro h7
      ·have u7:(tk T n).t=[115,105,122,101]:=sp_ h7;have uu:(tk T n).t=[114,101,97,100]\/(tk T n).t=[115,105,122,101]\/(tk T n).t=[104,97,115]\/(tk T n).t=[101,110,118]\/(tk T n).t=[102,108,105,112]:=.inr (.inl u7);rw [n_1 uu] at af;refine C9 ?_;refine cC ?_ ?_<;>intro h8
       ·refine b3N ?_;refine cD (p7 rfl d0F C8 (hU (tk T n) d (n+1) b bf hb cc om_ _ 0 1 ⟨rfl,rfl,n_5 rfl⟩) rfl (fun x hx=>.inr ⟨x,j9,by rw [af];exact hx.1,hx.2⟩) ?_);rintro ⟨i,m,b2⟩ ⟨g1,g2,g3,g4⟩;dsimp only at g1 g2 g3 g4 ⊢;exact b7a
       ·exact absurd u7 (sp_ h8)
      ·have u7:¬ (tk T n).t=[115,105,122,101]:=sp_ h7;refine z_0 ?_;refine cY P0 ?_;refine z_3 ?_;refine cC ?_ ?_<;>intro h9
       ·have u9:(tk T n).t=[104,97,115]:=sp_ h9;have uu:(tk T n).t=[114,101,97,100]\/(tk T n).t=[115,105,122,101]\/(tk T n).t=[104,97,115]\/(tk T n).t=[101,110,118]\/(tk T n).t=[102,108,105,112]:=.inr (.inr (.inl u9));rw [n_1 uu] at af;refine C9 ?_;refine cC ?_ ?_<;>intro aY
        ·refine b3N ?_;refine cD (p7 rfl d0F C8 (hU (tk T n) d (n+1) b bf hb cc om_ _ 0 1 ⟨rfl,rfl,n_5 rfl⟩) rfl (fun x hx=>.inr ⟨x,j9,by rw [af];exact hx.1,hx.2⟩) ?_);rintro ⟨i,m,b2⟩ ⟨g1,g2,g3,g4⟩;dsimp only at g1 g2 g3 g4 ⊢;exact b7a
        ·exact absurd u9 (sp_ aY)
       ·have u9:¬ (tk T n).t=[104,97,115]:=sp_ h9;refine z_0 ?_;refine cY P0 ?_;refine z_3 ?_;refine cC ?_ ?_<;>intro cw
        ·have u11:(tk T n).t=[101,110,118]:=sp_ cw;have uu:(tk T n).t=[114,101,97,100]\/(tk T n).t=[115,105,122,101]\/(tk T n).t=[104,97,115]\/(tk T n).t=[101,110,118]\/(tk T n).t=[102,108,105,112]:=.inr (.inr (.inr (.inl u11)));rw [n_1 uu] at af;refine C9 ?_;refine cC ?_ ?_<;>intro da
         ·refine b3N ?_;refine cD (p7 rfl d0F C8 (hU (tk T n) d (n+1) b bf hb cc om_ _ 0 1 ⟨rfl,rfl,n_5 rfl⟩) rfl (fun x hx=>.inr ⟨x,j9,by rw [af];exact hx.1,hx.2⟩) ?_);rintro ⟨i,m,b2⟩ ⟨g1,g2,g3,g4⟩;dsimp only at g1 g2 g3 g4 ⊢;exact b7a
         ·exact absurd u11 (sp_ da)
        ·have u11:¬ (tk T n).t=[101,110,118]:=sp_ cw;refine G5 ?_;refine cY P0 ?_;refine z_3 ?_;refine cC ?_ ?_<;>intro dr
         ·have u13:(tk T n).t=[102,108,105,112]:=sp_ dr;have uu:(tk T n).t=[114,101,97,100]\/(tk T n).t=[115,105,122,101]\/(tk T n).t=[104,97,115]\/(tk T n).t=[101,110,118]\/(tk T n).t=[102,108,105,112]:=.inr (.inr (.inr (.inr (u13))));rw [n_1 uu] at af;refine b3N ?_;refine cD (p7 rfl d0F C8 (hU (tk T n) d (n+1) b bf hb cc om_ _ 0 1 ⟨rfl,rfl,n_5 rfl⟩) rfl (fun x hx=>.inr ⟨x,j9,by rw [af];exact hx.1,hx.2⟩) ?_);rintro ⟨i,m,b2⟩ ⟨g1,g2,g3,g4⟩;dsimp only at g1 g2 g3 g4 ⊢;exact b7a
         ·have h13':¬ (tk T n).t=[102,108,105,112]:=sp_ dr;have un:¬ ((tk T n).t=[114,101,97,100]\/(tk T n).t=[115,105,122,101]\/(tk T n).t=[104,97,115]\/(tk T n).t=[101,110,118]\/(tk T n).t=[102,108,105,112]):=fun hh=>by rcases hh with h | h | h | h | h;exact u5 h;exact u7 h;exact u9 h;exact u11 h;exact h13' h
          rw [n_0 un] at af;refine b5Q ?_;refine z_0 ?_;refine cY b9j ?_;refine cY Q3 ?_;refine yc rfl c6P ⟨tt,tt⟩ (a2H (tk T n).t _) ?_;refine x9 ?_;refine cC ?_ ?_<;>intro gE
          ·have u14:R6 (tk T n).t=true:=sp_ gE;rw [n_1 u14] at af;refine G5 ?_;exact d8e
          ·have u14:¬ R6 (tk T n).t=true:=sp_ gE;rw [n_0 u14] at af;refine b5Q ?_;refine z_4 ?_;refine ye rfl c4y a4p (b3y hT bf 4 [40] ⟨rfl,rfl,n_5 rfl⟩) rfl ?_;refine x9 ?_;refine cC ?_ ?_<;>intro h15
           ·have u15:isT (tk T (n+1)) 4 [40]=true:=sp_ h15;rw [n_1 u15] at af;refine F9 ?_;refine cF [] [0,1,2,3,4,5] (tl:=[(6,[0,1,2,3]),(7,[0,1]),(8,[]),(9,[])]) ?_;refine chf rfl V4 ?_;refine chf rfl (c8 rfl b8R) ?_;refine chf rfl (c8 rfl b9j) ?_;refine chf rfl c7y ?_;refine a6Y ?_;refine D9 ?_;refine B1 rfl rfl rfl (p7 rfl Tryz.call318 j1 (hA d (n+1) b bf hb cc om_ _ 0 1 ⟨rfl,rfl,n_5 rfl⟩) rfl (fun x hx _=>.inr ⟨x,j9,by rw [af,hx.1];rfl,hx.2⟩) ?_);rintro ⟨l,m,b2⟩ ⟨g1,g2,g3,g4,_⟩;dsimp only at g1 g2 g3 g4 ⊢;rw [g1,n_9] at af;dsimp only at af;generalize (!l.isEmpty)=ph;refine a1u ([pbx T m ps b2 (kc ph),oc1 ph b2.length,.box (tk T n).cells]++oc2 ph b2.length) P5 ?_;refine ⟨⟨F1,b4u,(by exact c8 rfl b9j),a5d,tt⟩,?_⟩;refine F2 rfl rfl (c8 rfl c6f) ⟨⟨F1,b4u,tt⟩,?_⟩;refine B1 rfl rfl rfl (p7 rfl b1G C8 (a0n hT g3 g4 (tk T n) ⟨3,0,0,(tk T n).t,l⟩ (q:=0) (s:=kc ph) b6Y) rfl (fun x hx _=>.inr ⟨x,j9,by rw [af,L9,hx.1];rfl,hx.2⟩) ?_);rintro ⟨i6,b6⟩ ⟨x6,y6⟩;dsimp only at x6 y6 ⊢;rw [L9,x6,n_9] at af;refine ⟨tt,?_⟩;refine a89 ?_;exact ⟨_,rE1,(by exact .inl ⟨(i6,m,b6),(by cases ph;exact Z5 (k:=3) rfl rfl de_ (.val _);exact Z5 (k:=4) rfl rfl de_ (.val _)),af,do_,g3,y6⟩)⟩
           ·have u15:¬ isT (tk T (n+1)) 4 [40]=true:=sp_ h15;rw [n_0 u15] at af;refine b5Q ?_;refine cW 8 ?_;refine a5g ?_;refine hY (j5 rfl tt rfl c5O rfl a2j de_) ?_;refine hY a4Y ?_;refine hY b9j ?_;refine hY Q3 ?_;refine hY (c5 rfl Tryz.call205 j1 (a9B ps (gnn ps.length) (tk T n).t (by have:=hc.ps;omega) _) rfl) ?_;refine b38 ?_;refine b2r ?_;refine a9e ?_;refine cC ?_ ?_<;>intro h16
            ·have u16:ixS ps (tk T n).t 0 < 0:=sp_ h16;rw [n_1 u16] at af;refine G5 ?_;exact d8e
            ·have u16:¬ ixS ps (tk T n).t 0 < 0:=sp_ h16;rw [n_0 u16] at af;refine C9 ?_;refine b3N ?_;refine cY b2l ?_;refine cD (p7 rfl b1G C8 (a0n hT bf hb (tk T n) ⟨2,ixS ps (tk T n).t 0,0,[],[]⟩ ⟨rfl,rfl,n_5 rfl⟩) rfl (fun x hx=>.inr ⟨x,j9,by rw [af,L9,hx.1];rfl,hx.2⟩) ?_);rintro ⟨i6,b6⟩ ⟨x6,y6⟩;dsimp only at x6 y6 ⊢;rw [L9,x6,n_9] at af;exact d5s
theorem c47 (hc:a0j T ps) (hE:EC T ps f) (hA:AC T ps f) (hU:UC T ps f):FC T ps (f+1):=fun d n b hn hb hd hf σ q s am =>
 a29 (c:=fun a:PX=>(iv a.1)) (N:=fun a=>a.2.1) (B:=fun a=>a.2.2) (fun _ h=>by simp at h;subst h;exact .val _) (fun _=>.val _) (c0R hc hE hA hU d n b hn hb hd hf) am
theorem c61 {T:List Tok} {ps:List Str} (hc:a0j T ps):∀ f,(∀ g,g<=f->EC T ps g)/\(∀ g,g<=f->BC T ps g)/\(∀ g,g<=f->FC T ps g)
 | 0=>by
  refine ⟨fun g hg d n b hn _ _ hf=>?_,fun g hg lv d n b hn _ _ h4 _ hf=>?_,fun g hg d n b hn _ _ hf=>?_⟩<;>exfalso<;>omega
 | f+1=>by
  obtain ⟨hE,hB,hF⟩:=c61 hc f;have e1:=d2h hc (hE f (n_7 _)) (hB f (n_7 _));have b1:=c59 hc hB (hF f (n_7 _));have f1:=c47 hc (hE f (n_7 _)) (b50 hc hE) (c1b hc (hE f (n_7 _)));have up:∀ {P:Nat->Prop},(∀ g,g<=f->P g)->P (f+1)->∀ g,g<=f+1->P g:=fun {P} h h1 g hg=>by
   rcases a4r f g with ab | aE
   ·rw [show g=f+1 by omega];exact h1
   ·exact h g aE
  exact ⟨up hE e1,up hB b1,up hF f1⟩
def ixP {α:Type} (p:α->Bool):List α->Nat->Int
 | [],_=>-1
 | y::l,i=>if p y=true then i else ixP p l (i+1)
theorem c8R {y:α} (h:l[i]? = some y) (p:α->Bool):ixP p (l.drop i) i=if p y=true then (i:Int) else ixP p (l.drop (i+1)) (i+1):=by
 obtain ⟨ab,he⟩:=n_3.1 h;rw [R2 ab,he];rfl
theorem c1S {α:Type} (p:α->Bool):∀ (l:List α) (i:Nat),decide (0<=ixP p l i)=l.any p
 | [],_=>rfl
 | y::l,i=>by
  rw [ixP,List.any_cons];cases hp:p y with
  | true=>simp
  | false=>simpa using c1S p l (i+1)
theorem b40 {g:FuncId} {aB:List CV} {p:De->Bool} (l:List De) (nn:Bool) (hl:l.length<=1000000) (hg:∀ args w,(callFunc g args).run CC.P w = .ok (.enter g args) w) (H:∀ x∈l,b8 CC g ([.agg x.cells]++aB) σ fun r Y=>r = .ret (.val (.bool (p x)))/\Y=σ):b8 CC 276 [(.list (l.map De.cv) nn none),.clo g aB] σ fun r Y=>r = .ret (iv (ixP p l 0))/\Y=σ:=by
 refine qO Tryz.func276 ?_;refine qY a4z ?_;refine H8 (α:=Nat) (fun i=>[(0,(.list (l.map De.cv) nn none)),(1,(.clo g aB)),(7,iv l.length),(8,iv i)]) (fun _=>σ) (fun i=>i<=l.length/\ixP p l 0=ixP p (l.drop i) i) (fun i=>l.length - i) 0 ⟨n_4 _,rfl⟩ tu_ rfl ?_;intro i E0 ⟨hi,hr⟩;refine qk (qC ?_ ?_)<;> intro h1
 ·have ab:(i:Int) < l.length:=sp_ h1;obtain ⟨y,hb⟩:=gx_ l i;rw [c8R hb] at hr;refine qY c9J ?_;refine qY (b4n rfl tt rfl hg ⟨tt,tt⟩ (H y (n_2 hb)) rfl) ?_;refine qC ?_ ?_<;>intro h2
  ·have hx:p y=true:=sp_ h2;rw [n_1 hx] at hr;refine c6 ?_;exact ⟨_,rE1,(by exact ⟨by rw [hr],rfl⟩)⟩
  ·have hx:¬ p y=true:=sp_ h2;rw [n_0 hx] at hr;refine qY l9 ?_;exact ⟨(i+1),om_,⟨om_,hr⟩,tu_,rfl⟩
 ·have aE:i=l.length:=by
   have:¬ (i:Int) < l.length:=sp_ h1;omega
  refine z_9 ?_;exact ⟨_,rE1,(by exact ⟨by rw [hr,aE,b2n];rfl,rfl⟩)⟩
theorem a9P {g:FuncId} {aB:List CV} {p:De->Bool} (l:List De) (nn:Bool) (hl:l.length<=1000000) (hg:∀ args w,(callFunc g args).run CC.P w = .ok (.enter g args) w) (H:∀ x∈l,b8 CC g ([.agg x.cells]++aB) σ fun r Y=>r = .ret (.val (.bool (p x)))/\Y=σ):b8 CC 238 [(.list (l.map De.cv) nn none),.clo g aB] σ fun r Y=>r = .ret (.val (.bool (l.any p)))/\Y=σ:=by
 refine qO Tryz.func238 ?_;refine qY (c5 rfl Tryz.call276 j1 (b40 l nn hl hg H) rfl) ?_;refine c6 ?_;exact ⟨_,rE1,(by exact ⟨by rw [<- c1S p l 0],rfl⟩)⟩
theorem a1z {σ:List α} {x:α} (h:σ[q]? = some x) (l:List α):(σ++l)[q]? = some x:=by
 rw [R3 (n_3.1 h).1];exact h
theorem c28 (σ:List α) (x:α):(σ++[x])[σ.length]? = some x:=by simp
theorem c6Y (x:De) (t:Tok) (kd:Int) {s:Nat} (hq:σ[q]? = some (.box [iv kd])) (hs:σ[s]? = some (.box t.cells)):b8 CC 239 ([.agg x.cells]++[.ptr q 0,.ptr s 0]) σ fun r Y=>r = .ret (.val (.bool ((x.k == kd) && decide (x.name=t.t))))/\Y=σ:=by
 refine c7 (cO Tryz.func239 ?_);refine b2H ?_;refine b1x ?_;refine z_0 ?_;refine cY c3g ?_;refine cY d9q ?_;refine cY d9q ?_;refine cY b1t ?_;refine cY B2 ?_;refine cG b9k ?_;refine cG e0M ?_;refine cG b7J ?_;refine cG e0M ?_;refine cG b0D ?_;refine cY M7 ?_;refine a1O ?_;exact ⟨_,rE1,_,_,rfl,rfl,j8 rfl⟩
def dkL:List (Str × Int):=U4 (U4 (U4 [] [102,117,110,99] 1) [116,101,115,116] 2) [103,101,110] 3
def G4 (s:Str):Int:=(glk dkL s).getD 0
def c7z (T:List Tok) (ps:List Str) (d n:Nat):Option PX:=(A1 T ps (8*T.length+6)).ex d n []
def a3a (T:List Tok) (kd:Int) (n:Nat):Option (Tok × Nat):=if kd=3 then a0L T n else K0 T n
def a3u (T:List Tok) (kd:Int) (n:Nat):Option (List Str × Nat):=if kd=1 then M4 T n else some ([],n)
def a0N (T:List Tok) (bs:List De) (n:Nat):Option (De × Nat) :=
 if (tk T n).k≠1\/G4 (tk T n).t=0 then none else if bs.length=64 then none else
 (a3a T (G4 (tk T n).t) (n+1)).bind fun x=>if (bs.any fun d=>(d.k == G4 (tk T n).t) && decide (d.name=x.1.t))=true then none else
 (a3u T (G4 (tk T n).t) x.2).bind fun q=>(pIs T q.2 4 [61]).bind fun m=>(c7z T q.1 1 m).bind fun y=>(pIs T y.2.1 4 [59]).bind fun m2=>some (⟨G4 (tk T n).t,x.1.t,q.1,y.2.2⟩,m2)
theorem b25 {f:FuncId} {c:α->CV} {Z:α->List Str} {n:Nat} {b:List Ex} (ao:∀ a∈args,r4 a) (hc:∀ a,r4 (c a))
 (h:b8 CC f (.ptr 0 0::args) (pst T n ps b) (a3B c (fun a=>a6E T (N a) (Z a) (B a)) P bad)) {σ:List b9} {q s:Nat} (am:PAt σ q s T n ps b) :
 b8 CC f (.ptr q 0::args) σ (a4v c (fun a=>(σ.set q (pbx T (N a) (Z a) (B a) σ.length)).set s .dead++[o8 (B a).length]) P σ q s bad):=by
 refine (a5n (c:=c) (N:=N) (B:=B) (Z:=Z) (g:=fun _=>true) (P:=P) (bad:=bad) ao hc (h.mono fun r τ hh=>?_) am).mono fun r τ hh=>?_
 ·rcases hh with ⟨a,h1,h2⟩ | h
  ·exact .inl ⟨a,h1,h2⟩
  ·exact .inr h
 ·rcases hh with ⟨a,h1,h2,h3⟩ | h
  ·exact .inl ⟨a,h1,h2,h3⟩
  ·exact .inr h
theorem b61 {kd:Int} {n:Nat} (h:a3a T kd n=some (t,m)):m=n+1:=by
 unfold a3a at h;split at h
 ·exact a7Z h
 ·exact b14 h
theorem b9u {T:List Tok}:∀ (f n:Nat) (l l':List Str) (m:Nat),a2s f T n l=some (l',m)->n < m
 | 0,n,l,l',m,h=>by cases h
 | f+1,n,l,l',m,h=>by
  rw [a2s] at h;cases hn:K0 T n with
  | none=>rw [hn] at h;cases h
  | some x =>
   rw [hn,n_9] at h;have e:=b14 (t:=x.1) hn;split at h
   ·cases h
   ·split at h
    ·cases h
    ·split at h
     ·have:=b9u f _ _ _ _ h;omega
     ·cases hi:pIs T x.2 4 [41] with
      | none=>rw [hi] at h;cases h
      | some y =>
       rw [hi,n_9] at h;injection h with h
       injection h with _ h
       have:=P9 hi;omega
theorem c0P {n:Nat} {l:List Str} (h:M4 T n=some (l,m)):n < m:=by
 unfold M4 at h;cases hi:pIs T n 4 [40] with
 | none=>rw [hi] at h;cases h
 | some y =>
  rw [hi,n_9] at h;have:=P9 hi;split at h
  ·injection h with h
   injection h with _ h
   omega
  ·have:=b9u _ _ _ _ _ h;omega
theorem b7t {kd:Int} {n:Nat} {l:List Str} (h:a3u T kd n=some (l,m)):n<=m:=by
 unfold a3u at h;split at h
 ·exact Nat.le_of_lt (c0P h)
 ·injection h with h
  injection h with _ h
  omega
theorem c1q (k:Int) (nm:Str) (ps:List Str) (b:List Ex) (tok:Option Nat):C7 L ak (.agg [iv k,sv nm,.list (ps.map scv) (gnn ps.length) none,.list (b.map Ex.cv) (gnn b.length) tok]) (.agg (⟨k,nm,ps,b⟩:De).cells) :=
 .agg rfl fun i c c' h h'=>by
  rcases i with _ | _ | _ | _ | i
  ·injection h with h;injection h' with h';subst h h';exact .old (.val _)
  ·injection h with h;injection h' with h';subst h h';exact .old (.val _)
  ·injection h with h;injection h' with h';subst h h';exact .old Y2
  ·injection h with h;injection h' with h';subst h h';exact K4 (f:=Ex.cv) Ex.pure _
  ·cases h
theorem a3M (n:Nat):b48 n (⟨0,[],[],[]⟩:De).cells:=⟨.val _,.val _,A5 _ _ _,P6 _ _ _,tt⟩
theorem d1g (hc:a0j T ps) (bs:List De) (hbs:bs.length<=64) (n:Nat) (b:List Ex) (hn:n < T.length) (_:b.length<=256):b8 CC 197 [.ptr 0 0,(.list (bs.map De.cv) (gnn bs.length) none)] (pst T n ps b) (a3B (fun a:De × Nat=>(.agg a.1.cells)) (fun a=>a6E T a.2 a.1.params a.1.body) (fun a:De × Nat=>a0N T bs n=some a/\n < a.2/\a.2 < T.length/\a.1.params.length<=8/\a.1.body.length<=256) (a0N T bs n=none)):=by
 have hT:=hc.len;have hW:=hc.w;have af:a0N T bs n=a0N T bs n:=rfl
 conv at af=>rhs;unfold a0N
 refine cO Tryz.func197 ?_;refine b5L ?_;refine J1 [pbx T n ps b 1,o8 b.length,.dead] rfl ?_;refine qs 7 (qD (p8 rfl a9K rfl j6 ?_));refine qD (T9 rfl ?_);refine qD (o3 (vc:=kv) (l:=[]) (a:=[102,117,110,99]) (b:=1) b9m (.inr rfl) tt rfl rfl rfl rfl rfl c1R rfl ?_);refine qD (o3 (vc:=kv) (l:=U4 [] [102,117,110,99] 1) (a:=[116,101,115,116]) (b:=2) b9m (.inr rfl) tt rfl rfl rfl rfl rfl c1R rfl ?_);refine qD (o3 (vc:=kv) (l:=U4 (U4 [] [102,117,110,99] 1) [116,101,115,116] 2) (a:=[103,101,110]) (b:=3) b9m (.inr rfl) tt rfl rfl rfl rfl rfl c1R rfl ?_);refine qY e0k ?_;refine z_1 ?_;refine qY (S9 (vc:=kv) (l:=dkL) (a:=(tk T n).t) b9m rfl tt tt rfl rfl c1R t_8 rfl rfl (b5y _ _)) ?_;refine qD (p8 rfl t_8 rfl (.inl rfl) ?_);refine qD (j2 rfl tt tt rfl j3 t_1 (.inl rfl) rfl rfl (nb rfl) ?_);refine qG (fun hg=>o5 rfl tt rfl a2l rfl rfl) ?_;refine a4c ?_;refine qC ?_ ?_<;>intro h1
 ·have u1:(tk T n).k≠1\/(G4 (tk T n).t)=0:=by simpa [G4] using h1
  rw [n_1 u1] at af;exact a2N rfl rfl (P3 rfl a47 o6 (P2 _ _ _) rfl (fun _ _=>.inr ⟨(_,_),j9,af,si_⟩))
 ·have u1:¬ ((tk T n).k≠1\/(G4 (tk T n).t)=0):=by simpa [G4] using h1
  rw [n_0 u1] at af;have bf:=hW n hn (fun h5=>u1 (.inl (by rw [h5];decide)));refine qY a4z ?_;refine qC ?_ ?_<;>intro h2
  ·have u2:bs.length=64:=sm_ h2;rw [n_1 u2] at af;exact a2N rfl rfl (P3 rfl a47 o6 (P2 _ _ _) rfl (fun _ _=>.inr ⟨(_,_),j9,af,si_⟩))
  ·have u2:¬ bs.length=64:=sm_ h2;rw [n_0 u2] at af;refine z_6 ?_;refine a69 hCC 7 rfl (α:=Tok × Nat) (fun _=>[(0,.ptr 0 0),(1,(.list (bs.map De.cv) (gnn bs.length) none)),(4,.ptr 3 0),(6,.ptr 5 0),(7,.ptr 6 0)]) (fun x=>[pbx T x.2 ps b 1,o8 b.length,.dead,.box (⟨0,[],[],[]⟩:De).cells,.dead,.box x.1.cells,.box [(iv (G4 (tk T n).t))]]) (fun x=>a3a T (G4 (tk T n).t) (n+1)=some x/\x.2 < T.length) ?_ ?_
   ·
    refine qk (qC ?_ ?_)<;> intro h3
    ·have u3:(G4 (tk T n).t)=3:=by simpa [G4] using h3
     have hh:∀ m,a3a T (G4 (tk T n).t) m=a0L T m:=fun m=>n_1 u3;rw [hh] at af;refine qD (p7 rfl c2z ⟨tt,tt⟩ (b0p hT bf hW hc.l ⟨rfl,rfl,n_5 rfl⟩) rfl (fun x hx=>.inr ⟨x,j9,by rw [af,hx.1];rfl,hx.2⟩) ?_);rintro ⟨x,n2⟩ ⟨g1,g2⟩;dsimp only at g1 g2 ⊢;refine qD (j2 rfl tt tt rfl j3 a3C j6 rfl rfl (nb rfl) ?_);exact ⟨(x,n2),[0,1,2,3,4,5,6],⟨by rw [hh];exact g1,g2⟩,⟨rfl,rfl⟩,ut_,uq_⟩
    ·have u3:¬ (G4 (tk T n).t)=3:=by simpa [G4] using h3
     have hh:∀ m,a3a T (G4 (tk T n).t) m=K0 T m:=fun m=>n_0 u3;rw [hh] at af;refine qD (p7 rfl c2J ⟨tt,tt⟩ (b0n hT bf hW ⟨rfl,rfl,n_5 rfl⟩) rfl (fun x hx=>.inr ⟨x,j9,by rw [af,hx.1];rfl,hx.2⟩) ?_);rintro ⟨x,n2⟩ ⟨g1,g2⟩;dsimp only at g1 g2 ⊢;refine qD (j2 rfl tt tt rfl j3 a3C j6 rfl rfl (nb rfl) ?_);exact ⟨(x,n2),[0,1,2,3,4,5,6],⟨by rw [hh];exact g1,g2⟩,⟨rfl,rfl⟩,ut_,uq_⟩
   ·intro ⟨x,n2⟩ ⟨g1,g2⟩;dsimp only at g1 g2 ⊢;have e2:=b61 g1;rw [g1,n_9] at af;dsimp only at af;refine qs 2 (qY (a7Y rfl j1) ?_);refine qY (c5 rfl Tryz.call238 j1 (a9P bs _ om_ Tryz.call239 (fun y _=>c6Y y x (G4 (tk T n).t) (q:=6) (s:=5) rfl rfl)) rfl) ?_;refine qC ?_ ?_<;>intro h4
    ·have u4:(bs.any fun d=>(d.k == (G4 (tk T n).t)) && decide (d.name=x.t))=true:=h4;rw [n_1 u4] at af;exact a2N rfl rfl (P3 rfl a47 o6 (P2 _ _ _) rfl (fun _ _=>.inr ⟨(_,_),j9,af,si_⟩))
    ·have u4:¬ (bs.any fun d=>(d.k == (G4 (tk T n).t)) && decide (d.name=x.t))=true:=by rw [h4];decide
     rw [n_0 u4] at af;refine qY (B3 #[(0,1),(1,1),(2,1),(3,1)] rfl j1 b0s a9K rfl ⟨_,rfl⟩ (fun w=>by kernel_rfl) rfl rfl) ?_;refine z_7 ?_;refine a69 hCC 8 rfl (α:=List Str × Nat) (fun _=>[(0,.ptr 0 0),(4,.ptr 3 0),(8,.ptr 7 0)]) (fun q=>[pbx T q.2 ps b 1,o8 b.length,.dead,.box (⟨0,[],[],[]⟩:De).cells,.dead,.dead,.dead,.box (⟨(G4 (tk T n).t),x.t,q.1,[]⟩:De).cells]) (fun q=>a3u T (G4 (tk T n).t) n2=some q/\q.2 < T.length/\q.1.length<=8) ?_ ?_
     ·
      refine qk (qC ?_ ?_)<;> intro h5
      ·have u5:(G4 (tk T n).t)=1:=by simpa [G4] using h5
       have hq:∀ m,a3u T (G4 (tk T n).t) m=M4 T m:=fun m=>n_1 u5;rw [hq] at af;refine qD (p7 rfl Tryz.call240 ⟨tt,tt⟩ (b2B hT g2 hW ⟨rfl,rfl,n_5 rfl⟩) rfl (fun x hx=>.inr ⟨x,j9,by rw [af,hx.1];rfl,hx.2⟩) ?_);rintro ⟨pl,n3⟩ ⟨k1,k2,k3⟩;dsimp only at k1 k2 k3 ⊢;refine qD (j2 rfl tt tt rfl j3 a2j (.inl rfl) rfl rfl (nb rfl) ?_);exact ⟨(pl,n3),[0,1,2,3,4,5,6,7],⟨by rw [hq];exact k1,k2,k3⟩,⟨rfl,rfl⟩,ut_,uq_⟩
      ·have u5:¬ (G4 (tk T n).t)=1:=by simpa [G4] using h5
       have hq:∀ m,a3u T (G4 (tk T n).t) m=some ([],m):=fun m=>n_0 u5;exact ⟨([],n2),[0,1,2,3,4,5,6,7],⟨hq n2,g2,n_4 _⟩,⟨rfl,rfl⟩,ut_,uq_⟩
     ·intro ⟨pl,n3⟩ ⟨k1,k2,k3⟩;dsimp only at k1 k2 k3 ⊢;have e3:=b7t k1;rw [k1,n_9] at af;dsimp only at af;refine qk (qD (p7 rfl a6b o6 (Q9 hT k2 hW [61] ⟨rfl,rfl,n_5 rfl⟩) rfl (fun x hx=>.inr ⟨x,j9,by rw [af,hx.1];rfl,hx.2⟩) ?_));rintro n4 ⟨s4,k4⟩;dsimp only at s4 k4 ⊢;have e4:=P9 s4;rw [s4,n_9] at af;have bG:a0j T pl:=⟨hT,hW,hc.l,om_,hc.nn⟩;refine qD (j2 rfl tt tt rfl j3 a2j (.inl rfl) rfl rfl (nb rfl) ?_);refine qD (j2 rfl tt rfl rfl j3 b2b (.inl rfl) rfl rfl (nb rfl) ?_);refine qD (p7 rfl c0C o6 ((c61 bG (8*T.length+6)).1 _ (n_7 _) 1 n4 [] k4 (n_4 _) de_ om_ _ 0 2 ⟨rfl,rfl,n_5 rfl⟩) rfl (fun x hx=>.inr ⟨x,j9,by rw [af,c7z,hx.1];rfl,hx.2⟩) ?_);rintro ⟨i5,n5,b5⟩ ⟨x5,y5,z5,w5⟩;dsimp only at x5 y5 z5 w5 ⊢;rw [c7z,x5,n_9] at af;dsimp only at af;refine qN [pbx T n5 pl b5 8,o8 b.length,.dead,.box (⟨0,[],[],[]⟩:De).cells,.dead,.dead,.dead,.box (⟨(G4 (tk T n).t),x.t,pl,[]⟩:De).cells,o8 b5.length] rfl (qD (j2 rfl tt tt rfl j3 b2b (.inl rfl) rfl rfl (nb rfl) ?_));refine qD (p7 rfl a6b o6 (Q9 hT z5 hW [59] (q:=0) (s:=8) ⟨rfl,rfl,n_5 rfl⟩) rfl (fun x hx=>.inr ⟨x,j9,by rw [af,hx.1];rfl,hx.2⟩) ?_);rintro n6 ⟨s6,k6⟩;dsimp only at s6 k6 ⊢;have e6:=P9 s6;rw [s6,n_9] at af;refine qD (j2 rfl tt tt rfl j3 a4O j6 rfl rfl (nb rfl) ?_);refine c6 ?_;exact ⟨_,C6 rfl d1e,(by exact .inl ⟨(⟨(G4 (tk T n).t),x.t,pl,b5⟩,n6),b5u (k:=8) rfl rfl de_ (fun _=>c1q _ _ _ _ _),af,do_,k6,k3,w5⟩)⟩
theorem d3V (hc:a0j T ps) (bs:List De) (hbs:bs.length<=64) {n:Nat} {b:List Ex} (hn:n < T.length) (hb:b.length<=256) {s:Nat} (am:PAt σ q s T n ps b):b8 CC 197 [.ptr q 0,(.list (bs.map De.cv) (gnn bs.length) none)] σ (a4v (fun a:De × Nat=>(.agg a.1.cells)) (fun a=>(σ.set q (pbx T a.2 a.1.params a.1.body σ.length)).set s .dead++[o8 a.1.body.length]) (fun a:De × Nat=>a0N T bs n=some a/\n < a.2/\a.2 < T.length/\a.1.params.length<=8/\a.1.body.length<=256) σ q s (a0N T bs n=none)) :=
 b25 (c:=(fun a:De × Nat=>(.agg a.1.cells))) (N:=fun a=>a.2) (Z:=fun a=>a.1.params) (B:=fun a=>a.1.body) (fun _ h=>by simp at h;subst h;exact a49 _ _) (fun a=>r6 a.1.pure) (d1g hc bs hbs n b hn hb) am
def a1p:Nat->List Tok->Str->Nat->List Str->Option (List Str × Nat)
 | 0,_,_,_,_=>none
 | f+1,T,pkg,n,l=>if isT (tk T n) 1 [105,109,112,111,114,116]=true then (if l.length=8 then none else (K0 T (n+1)).bind fun x=>if x.1.t=pkg\/x.1.t∈l then none else (pIs T x.2 4 [59]).bind fun m=>a1p f T pkg m (l++[x.1.t])) else some (l,n)
def S7:Nat->List Tok->Nat->List De->Option (List De × Nat)
 | 0,_,_,_=>none
 | f+1,T,n,l=>if (tk T n).k=5 then some (l,n) else (a0N T l n).bind fun x=>S7 f T x.2 (l++[x.1])
def a1e (T:List Tok):Option Src:=(pIs T 0 1 [112,97,99,107,97,103,101]).bind fun n1=>(K0 T n1).bind fun x=>(pIs T x.2 4 [59]).bind fun n2=>(a1p 9 T x.1.t n2 []).bind fun y=>(S7 65 T y.2 []).bind fun z=>some ⟨x.1.t,y.1,z.1⟩
theorem b3t {bs:List De} {n:Nat} {x:De × Nat} (h:a0N T bs n=some x):bs.length≠64:=fun iy=>by
 unfold a0N at h;rw [n_1 iy] at h;split at h<;>cases h
theorem d4J (pkg:Str) (i:List Str) (d:List De) (t1 t2:Option Nat):C7 L ak (.agg [sv pkg,.list (i.map scv) (gnn i.length) t1,.list (d.map De.cv) (gnn d.length) t2]) (.agg (⟨pkg,i,d⟩:Src).cells) :=
 .agg rfl fun k c c' h h'=>by
  rcases k with _ | _ | _ | k
  ·injection h with h;injection h' with h';subst h h';exact .old (.val _)
  ·injection h with h;injection h' with h';subst h h';exact K4 (f:=scv) (fun _=>⟨.val _,tt⟩) _
  ·injection h with h;injection h' with h';subst h h';exact K4 (f:=De.cv) De.pure _
  ·cases h
theorem c9r (hc:a0j T []) (h0:0 < T.length):b8 CC 155 [.ptr 0 0] (pst T 0 [] []) (a3B (fun a:Src × Nat × List Str × List Ex=>(.agg a.1.cells)) (fun a=>a6E T a.2.1 a.2.2.1 a.2.2.2) (fun a:Src × Nat × List Str × List Ex=>a1e T=some a.1) (a1e T=none)):=by
 have hT:=hc.len;have hW:=hc.w;have af:a1e T=a1e T:=rfl
 conv at af=>rhs;unfold a1e
 refine qO Tryz.func155 ?_;refine qD (p8 rfl a3V rfl j6 ?_);refine qD (p7 rfl c9j o6 (b5v hT h0 hW [112,97,99,107,97,103,101] ⟨rfl,rfl,n_5 rfl⟩) rfl (fun x hx=>.inr ⟨x,j9,by rw [af,hx.1];rfl,hx.2⟩) ?_);rintro n1 ⟨s1,k1⟩;dsimp only at s1 k1 ⊢;rw [s1,n_9] at af;have e1:=P9 s1;refine qD (p7 rfl c2J ⟨tt,tt⟩ (b0n hT k1 hW ⟨rfl,rfl,n_5 rfl⟩) rfl (fun x hx=>.inr ⟨x,j9,by rw [af,hx.1];rfl,hx.2⟩) ?_);rintro ⟨w,n2⟩ ⟨s2,k2⟩;dsimp only at s2 k2 ⊢;have e2:=b14 s2;rw [s2,n_9] at af;dsimp only at af;refine qY c3w ?_;refine qY e0W ?_;refine c4N ?_;refine qD (p7 rfl a6b o6 (Q9 hT k2 hW [59] ⟨rfl,rfl,n_5 rfl⟩) rfl (fun x hx=>.inr ⟨x,j9,by rw [af,hx.1];rfl,hx.2⟩) ?_);rintro n3 ⟨s3,k3⟩;dsimp only at s3 k3 ⊢;rw [s3,n_9] at af;refine qN [pbx T n3 [] [] 1,.dead,.box (⟨[],[],[]⟩:Src).cells,.box [sv w.t,.list (([]:List Str).map scv) (gnn ([]:List Str).length) none,.list (([]:List De).map De.cv) (gnn ([]:List De).length) none]] rfl ?_;refine A6 hCC 4 rfl (α:=List Str × Nat) (fun _=>[(0,.ptr 0 0),(2,.ptr 2 0),(3,.ptr 3 0)]) (fun x=>[pbx T x.2 [] [] 1,.dead,.box (⟨[],[],[]⟩:Src).cells,.box [sv w.t,.list (x.1.map scv) (gnn x.1.length) (C2 x.1.length 4),.list (([]:List De).map De.cv) (gnn ([]:List De).length) none],o8 x.1.length]) (fun x=>x.1.length<=8/\x.2 < T.length/\a1e T=(a1p (9 - x.1.length) T w.t x.2 x.1).bind fun y=>(S7 65 T y.2 []).bind fun z=>some ⟨w.t,y.1,z.1⟩) (fun x=>9 - x.1.length) ⟨([],n3),[0,1,2,3,9],⟨n_4 _,k3,af⟩,⟨rfl,rfl⟩,ut_,⟨.inr ⟨_,rfl,.same rfl (a3O (nb rfl))⟩,.inl rfl,.inr ⟨_,rfl,.same rfl c2A⟩,.inr ⟨_,rfl,.box ⟨.old (.val _),.old a2o,.old (Q7 _ [] _),tt⟩⟩,.inl rfl,tt⟩⟩ ?_;intro ⟨l,m⟩ ⟨hl,hm,af⟩;dsimp only at hl hm af ⊢;obtain ⟨f,hf⟩:∃ f,9 - l.length=f+1:=⟨8 - l.length,om_⟩;rw [hf,a1p] at af;refine qk (qY (c5 rfl c4y a4p (b3y hT hm 1 [105,109,112,111,114,116] ⟨rfl,rfl,n_5 rfl⟩) rfl) ?_);refine cC ?_ ?_<;>intro h1
 ·have u1:isT (tk T m) 1 [105,109,112,111,114,116]=true:=sp_ h1;rw [n_1 u1] at af;have bX:=hW m hm (a6F u1 de_);refine b23 ?_;refine qC ?_ ?_<;>intro h2
  ·have u2:l.length=8:=sm_ h2;rw [n_1 u2] at af;refine qY (c5 rfl c4X ⟨tt,tt⟩ (a27 hT hm ⟨rfl,rfl,n_5 rfl⟩) rfl) ?_;exact a2N rfl rfl (P3 rfl a47 o6 (P2 _ _ _) rfl (fun _ _=>.inr ⟨(_,_),j9,by rw [af];rfl,si_⟩))
  ·have u2:¬ l.length=8:=sm_ h2;rw [n_0 u2] at af;refine z_6 ?_;refine qD (p7 rfl c2J ⟨tt,tt⟩ (b0n hT bX hW ⟨rfl,rfl,n_5 rfl⟩) rfl (fun x hx=>.inr ⟨x,j9,by rw [af,hx.1];rfl,hx.2⟩) ?_);rintro ⟨x,m1⟩ ⟨s4,k4⟩;dsimp only at s4 k4 ⊢;rw [s4,n_9] at af;dsimp only at af;refine qN [pbx T m1 [] [] 1,.dead,.box (⟨[],[],[]⟩:Src).cells,.box [sv w.t,.list (l.map scv) (gnn l.length) (C2 l.length 4),.list (([]:List De).map De.cv) (gnn ([]:List De).length) none],o8 l.length] rfl ?_;refine z_1 ?_;refine qY a7u ?_;refine c7D ?_;refine qG b7J ?_;refine qG a2C ?_;refine qG (fun hg=>c5 rfl c9e ⟨hg,hg,tt⟩ (a0l l (gnn l.length) x.t om_ _) rfl) ?_;refine qY R7 ?_;refine qC ?_ ?_<;>intro h3
   ·have u3:x.t=w.t\/x.t∈l:=sp_ h3;rw [n_1 u3] at af;exact a2N rfl rfl (P3 rfl a47 o6 (P2 _ _ _) rfl (fun _ _=>.inr ⟨(_,_),j9,by rw [af];rfl,si_⟩))
   ·have u3:¬ (x.t=w.t\/x.t∈l):=sp_ h3;rw [n_0 u3] at af;have eK:=V8 l x.t;refine qY (A8 [scv x.t] rfl ⟨tt,tt⟩ t_2 t_0 t_3 rfl rfl rfl rfl rfl rfl rfl rfl rfl) ?_;refine qD (A7 rfl tt tt rfl si_ q_2 t_2 t_0 a32 t_3 rfl (.inr rfl) q_7 a3Z C1 ((l++[x.t]).map scv) (l++[x.t]).length si_ si_ ?_);refine qD (j2 rfl tt tt rfl j3 a2j (.inl rfl) rfl rfl (nb rfl) ?_);refine qD (p7 rfl a6b o6 (Q9 hT k4 hW [59] ⟨rfl,rfl,n_5 rfl⟩) rfl (fun x hx=>.inr ⟨x,j9,by rw [af,hx.1];rfl,hx.2⟩) ?_);rintro m2 ⟨s5,k5⟩;dsimp only at s5 k5 ⊢;rw [s5,n_9] at af;exact ⟨(l++[x.t],m2),[0,1,2,3,6],⟨do_,do_,k5,by dsimp only;rw [af,show 9 - (l++[x.t]).length=f by omega]⟩,⟨rfl,rfl⟩,ut_,⟨.inr ⟨_,rfl,.same rfl (a3O (nb rfl))⟩,.inl rfl,.inr ⟨_,rfl,.same rfl c2A⟩,.inr ⟨_,rfl,.box ⟨.old (.val _),C7.grow (f:=scv) (fun _=>⟨.val _,tt⟩) rfl,.old (Q7 _ [] _),tt⟩⟩,.inr ⟨_,rfl,.same rfl B8⟩,tt⟩⟩
 ·have u1:¬ isT (tk T m) 1 [105,109,112,111,114,116]=true:=sp_ h1;rw [n_0 u1,n_9] at af;dsimp only at af;rename_i im0;obtain ⟨im,him⟩:∃ im,im=l:=⟨l,rfl⟩;subst him;refine j4 ?_;refine A6 hCC 5 rfl (α:=Nat × List De × List Str × List Ex) (fun _=>[(0,.ptr 0 0),(2,.ptr 2 0),(3,.ptr 3 0)]) (fun x=>[pbx T x.1 x.2.2.1 x.2.2.2 5,.dead,.box (⟨[],[],[]⟩:Src).cells,.box [sv w.t,.list (im.map scv) (gnn im.length) none,.list (x.2.1.map De.cv) (gnn x.2.1.length) (C2 x.2.1.length 6)],.dead,o8 x.2.2.2.length,o8 x.2.1.length]) (fun x=>x.2.1.length<=64/\x.1 < T.length/\x.2.2.1.length<=8/\x.2.2.2.length<=256/\a1e T=(S7 (65 - x.2.1.length) T x.1 x.2.1).bind fun z=>some ⟨w.t,im,z.1⟩) (fun x=>T.length - x.1) ⟨(m,[],[],[]),[0,1,2,3,4,9,10],⟨n_4 _,hm,n_4 _,n_4 _,af⟩,⟨rfl,rfl⟩,ut_,⟨.inr ⟨_,rfl,.box ⟨.old a1c,.old (.val _),.old Y2,.old (P6 _ [] _),tt⟩⟩,.inl rfl,.inr ⟨_,rfl,.same rfl c2A⟩,.inr ⟨_,rfl,.box ⟨.old (.val _),K4 (f:=scv) (fun _=>⟨.val _,tt⟩) _,.old (Q7 _ [] _),tt⟩⟩,.inl rfl,.inl rfl,.inl rfl,tt⟩⟩ ?_;intro ⟨m,ds,ps,b⟩ ⟨cE,hm,cm,hb,af⟩;dsimp only at cE hm cm hb af ⊢;obtain ⟨f,hf⟩:∃ f,65 - ds.length=f+1:=⟨64 - ds.length,om_⟩;rw [hf,S7] at af;have bG:a0j T ps:=⟨hT,hW,hc.l,om_,hc.nn⟩;refine qk (qY (c5 rfl c4X ⟨tt,tt⟩ (a27 hT hm (q:=0) (s:=5) ⟨rfl,rfl,n_5 rfl⟩) rfl) ?_);refine qY a4h ?_;refine qC ?_ ?_<;>intro h4
  ·have u4:¬ (tk T m).k=5:=sp_ h4;rw [n_0 u4] at af;refine cF [] [0,1,2,3,4] (tl:=[(5,[0,1]),(6,[0,1]),(7,[]),(8,[]),(9,[])]) ?_;refine chf rfl c2F ?_;refine chf rfl c8l ?_;refine chf rfl V4 ?_;refine chf rfl c2F ?_;refine chf rfl c8l ?_;refine D9 ?_;refine B1 rfl rfl rfl (p7 rfl Tryz.call197 j1 (d3V bG ds cE hm hb (q:=0) (s:=5) ⟨rfl,rfl,n_5 rfl⟩) rfl (fun x hx _=>.inr ⟨x,j9,by rw [af,hx.1];rfl,hx.2⟩) ?_);rintro ⟨d,m1⟩ ⟨g1,g2,g3,g4,g5⟩;dsimp only at g1 g2 g3 g4 g5 ⊢;have aj:=b3t g1;rw [g1,n_9] at af;dsimp only at af;have eK:=V8 ds d;refine a1u [pbx T m1 d.params d.body 7,.dead,.box (⟨[],[],[]⟩:Src).cells,.box [sv w.t,.list (im.map scv) (gnn im.length) none,.list (ds.map De.cv) (gnn ds.length) (C2 ds.length 6)],.dead,.dead,o8 ds.length,o8 d.body.length] rfl ?_;refine d6V ?_;refine B1 rfl rfl rfl (A7 rfl tt tt rfl si_ q_2 b0S a4O Tryz.typeInfo119 a9K rfl (.inr rfl) q_7 (by have hb:Tryz.t119.bytes=72:=rfl;rw [hb];first|omega|(simp;done)|(simp;omega)) C1 ((ds++[d]).map De.cv) (ds++[d]).length si_ si_ ?_);refine ⟨tt,?_⟩;refine d5R ?_;refine a8A ?_;exact ⟨(m1,ds++[d],d.params,d.body),[0,1,2,3,4,7,8],⟨do_,do_,g3,g4,g5,by dsimp only;rw [af,show 65 - (ds++[d]).length=f by omega]⟩,⟨rfl,rfl⟩,ut_,⟨.inr ⟨_,rfl,.box ⟨.old a1c,.old (.val _),.old Y2,a7U rfl,tt⟩⟩,.inl rfl,.inr ⟨_,rfl,.same rfl c2A⟩,.inr ⟨_,rfl,.box ⟨.old (.val _),.old Y2,C7.grow (f:=De.cv) (fun _=>⟨.val _,.val _,A5 _ _ _,P6 _ _ _,tt⟩) rfl,tt⟩⟩,.inl rfl,.inr ⟨_,rfl,.same rfl B8⟩,.inr ⟨_,rfl,.same rfl B8⟩,tt⟩⟩
  ·have u4:(tk T m).k=5:=sp_ h4;rw [n_1 u4,n_9] at af;refine j4 ?_;refine c4G ?_;exact ⟨_,C6 rfl ⟨tt,_,_,_,rfl,rfl,.inr ⟨_,b6J,a3w,nb rfl,rfl⟩⟩,(by exact .inl ⟨(⟨w.t,im,ds⟩,m,ps,b),b5u (k:=5) rfl rfl de_ (fun _=>d4J _ _ _ _ _),af⟩)⟩
theorem d3W (hc:a0j T []) (h0:0 < T.length) {s:Nat} (am:PAt σ q s T 0 [] []):b8 CC 155 [.ptr q 0] σ (a4v (fun a:Src × Nat × List Str × List Ex=>(.agg a.1.cells)) (fun a=>(σ.set q (pbx T a.2.1 a.2.2.1 a.2.2.2 σ.length)).set s .dead++[o8 a.2.2.2.length]) (fun a:Src × Nat × List Str × List Ex=>a1e T=some a.1) σ q s (a1e T=none)) :=
 b25 (c:=(fun a:Src × Nat × List Str × List Ex=>(.agg a.1.cells))) (N:=fun a=>a.2.1) (Z:=fun a=>a.2.2.1) (B:=fun a=>a.2.2.2) (fun _ h=>by cases h) (fun a=>r6 a.1.pure) (c9r hc h0) am
structure d8h (N:Nat) (t:Tok):Prop where
 len:t.t.length<=N
 n0:0<=t.n
 n1:t.n<=9007199254740993
theorem b0l (s:Str) (a e:Nat):(sub s a e).length<=s.length:=by unfold sub;rw [b7c,a5u];omega
theorem c5U {b:UInt8}:d8h s.length (E9 s a b).1/\(E9 s a b).1.k≠5:=by
 have z:d8h s.length (⟨0,[],0,0⟩:Tok):=⟨n_4 _,de_,de_⟩;unfold E9
 split
 ·split
  ·exact ⟨z,(show (0:Int)≠5 by decide)⟩
  ·exact ⟨⟨b0l _ _ _,b2X _,(show (0:Int)<=9007199254740993 by decide)⟩,(show (1:Int)≠5 by decide)⟩
 ·split
  ·split
   ·exact ⟨z,(show (0:Int)≠5 by decide)⟩
   ·have:=b4i (b31 (s:=s) (a:=a));exact ⟨⟨n_4 _,this.1,this.2⟩,(show (2:Int)≠5 by decide)⟩
  ·split
   ·split
    ·exact ⟨z,(show (0:Int)≠5 by decide)⟩
    ·exact ⟨⟨b0l _ _ _,b2X _,(show (0:Int)<=9007199254740993 by decide)⟩,(show (3:Int)≠5 by decide)⟩
   ·split
    ·split
     ·exact ⟨⟨b0l _ _ _,b2X _,(show (0:Int)<=9007199254740993 by decide)⟩,(show (4:Int)≠5 by decide)⟩
     ·exact ⟨⟨b0l _ _ _,b2X _,(show (0:Int)<=9007199254740993 by decide)⟩,(show (4:Int)≠5 by decide)⟩
    ·exact ⟨z,(show (0:Int)≠5 by decide)⟩
theorem a8Q (s:Str):∀ (f i:Nat) (T:List Tok),a0F f s i=some T->T.length<=f/\(∀ t∈T,d8h s.length t)/\∃ L e,T=L++[e]/\e.k=5/\∀ t∈L,t.k≠5
 | 0,i,T,h=>by cases h
 | f+1,i,T,h=>by
  rw [a0F] at h;cases hb:s[A4 s i [5]]? with
  | none =>
   rw [hb] at h;injection h with h
   subst h;refine ⟨si_,fun t ht=>?_,[],_,rfl,rfl,fun t ht=>by cases ht⟩;simp at ht;subst ht;exact ⟨n_4 _,b2X _,(show (0:Int)<=9007199254740993 by decide)⟩
  | some b =>
   rw [hb] at h;simp only at h;split at h
   ·obtain ⟨h1,h2⟩:=a8Q s f _ T h;exact ⟨om_,h2⟩
   ·split at h
    ·cases h
    ·cases hq:a0F f s (E9 s (A4 s i [5]) b).2.1.toNat with
     | none=>rw [hq] at h;cases h
     | some T' =>
      rw [hq] at h;simp only [b6A,Option.some.injEq] at h;subst h;obtain ⟨h1,h2,L,e,h3,h5,h4⟩:=a8Q s f _ T' hq;have hg:=c5U (s:=s) (a:=A4 s i [5]) (b:=b);refine ⟨sp_ h1,fun t ht=>?_,_::L,e,by rw [h3];rfl,h5,fun t ht=>?_⟩
      ·rcases J5.1 ht with rfl | ht
       ·exact ⟨hg.1.len,hg.1.n0,hg.1.n1⟩
       ·exact h2 t ht
      ·rcases J5.1 ht with rfl | ht
       ·exact hg.2
       ·exact h4 t ht
theorem c0X (i:Nat):tk T i∈T\/tk T i=⟨5,[],0,0⟩:=by
 unfold tk;cases h:T[i]? with
 | none=>exact .inr rfl
 | some t=>exact .inl (n_2 h)
theorem b1i (h:a2V s=some T):a0j T []/\0 < T.length:=by
 unfold a2V at h;split at h
 ·cases h
 ·rename_i hs;obtain ⟨h1,h2,L,e,h3,h5,h4⟩:=a8Q s _ _ T h;have h0:0 < T.length:=by rw [h3];simp
  refine ⟨⟨om_,fun n hn hk=>?_,fun n=>?_,n_4 _,fun n=>?_⟩,h0⟩
  ·rcases a4r (n+1) T.length with ab | aE
   ·exact ab
   ·exfalso;have hl:T.length=L.length+1:=by rw [h3];simp
    have:tk T n=e:=by
     unfold tk;rw [h3,show n=L.length by omega];simp
    exact hk (by rw [this];exact h5)
  ·rcases c0X (T:=T) n with h | h
   ·have:=(h2 _ h).len;omega
   ·rw [h];simp
  ·rcases c0X (T:=T) n with h | h
   ·exact ⟨(h2 _ h).n0,(h2 _ h).n1⟩
   ·rw [h];exact ⟨de_,de_⟩
abbrev c5T:=Src × Int × Int
abbrev c5Y (x:c5T):CV:=.tup [.agg x.1.cells,iv x.2.1,iv x.2.2]
def Q0 (s:Str):Option Src:=(a2V s).bind a1e
def b4L (s:Str) (x:c5T):Prop:=(Q0 s=some x.1/\x.2.1=0/\x.2.2=0)\/(Q0 s=none/\x.1=⟨[],[],[]⟩/\x.2.2≠0)
theorem c0o {c1 c2 c3:CV} {u:CV} {K:List b9->Prop} (h:K σ):c4F CC 154 [c1,c2,c3] σ false u K:=by
 refine d5w ?_;refine cY (c26 rfl tt rfl Tryz.runUnderlying20 (.inl rfl)) ?_;refine x9 ?_;refine cC ?_ ?_<;>intro h1
 ·cases h1
 ·refine C9 ?_;exact h
theorem b98 (a0 e0 x e:Int) {K:List b9->Prop} (h:K [.dead,.box (⟨[],[],[]⟩:Src).cells,.box [iv x],.box [iv e],.dead,.box [iv x,iv e]]):c4F CC 154 [.ptr 1 0,.ptr 2 0,.ptr 3 0] [.dead,.box (⟨[],[],[]⟩:Src).cells,.box [iv a0],.box [iv e0],.dead] true (a2M x e) K:=by
 refine d5w ?_;refine cY (c26 rfl tt rfl Tryz.runUnderlying20 (.inr ⟨_,_,rfl⟩)) ?_;refine x9 ?_;refine cC ?_ ?_<;>intro h1
 ·refine z_4 ?_;refine cY (c5x (xs:=[.int .i64 x,.int .i64 e]) rfl tt rfl c5C rfl rfl) ?_;refine b11 ?_;refine cD (p8 rfl Tryz.zeroValue195 rfl j6 ?_);refine cD (j2 rfl tt tt rfl j3 Tryz.sizeOf195 j6 rfl rfl (nb rfl) ?_);refine b09 ?_;refine z_4 ?_;refine a9C ?_;refine cC ?_ ?_<;>intro h2
  ·cases h2
  ·refine C9 ?_;refine cF [] [0,1,2,3,4] (tl:=[(5,[1,2,3,4]),(6,[3,4]),(7,[])]) ?_;refine chf rfl d7F ?_;refine chf rfl (c8 rfl (j5 rfl tt rfl c5C rfl t_1 de_)) ?_;refine chf rfl b1o ?_;refine chf rfl (c8 rfl c8v) ?_;refine chf rfl c6A ?_;refine d3v ?_;refine ⟨⟨(by exact c8 rfl (j5 rfl tt rfl c5C rfl t_1 de_)),b1f,(by exact c8 rfl c8v),b3C,tt⟩,?_⟩;refine B1 rfl rfl rfl (j2 rfl tt tt rfl j3 t_1 (.inl rfl) rfl rfl (nb rfl) ?_);refine ⟨⟨(by exact c8 rfl c8v),b3C,tt⟩,?_⟩;refine d6Q ?_;exact h
 ·cases h1
theorem c5p (s:Str) (hs:s.length<=1000000000000):b8 CC 102 [(sv s)] [] fun r τ=>∃ x:c5T,a1q 0 τ r (.ret (c5Y x))/\b4L s x:=by
 refine a0e (c0p Tryz.func102 rfl rfl ?_);show b7h _ _ _ _ _ [.dead];refine c1d ?_;refine G5 ?_;refine cD (p8 rfl a3V rfl j6 ?_);refine cD (p8 rfl t_8 rfl (.inl rfl) ?_);refine cD (p8 rfl Tryz.zeroValue40 rfl (.inl rfl) ?_);refine x9 ?_;refine c1d ?_;refine a6R ?_;refine dc rfl Tryz.call153 ⟨tt,tt⟩ (c51 s hs _) ?_;rintro ⟨T,nn,at_,e⟩ hP;dsimp only at hP ⊢;refine b11 ?_;refine cY a9o ?_;refine cY a1b ?_;refine cD (j2 rfl tt tt rfl j3 t_1 (.inl rfl) rfl rfl (nb rfl) ?_);refine cD (j2 rfl tt tt rfl j3 c04 (.inl rfl) rfl rfl (nb rfl) ?_);refine x9 ?_;refine c1d ?_;refine z_0 ?_;refine cY (o5 rfl tt rfl c1u rfl rfl) ?_;refine b2E ?_;refine cC ?_ ?_<;>intro h1
 ·have he:e≠0:=sp_ h1;have hl:a2V s=none:=by
   rcases hP with ⟨_,_,_,g⟩ | ⟨g,_⟩
   ·exact absurd g he
   ·exact g
  refine F9 ?_;refine cF [] [0,1,2] (tl:=[(3,[1,2]),(4,[2]),(5,[])]) ?_;refine chf rfl d7F ?_;refine chf rfl b1o ?_;refine chf rfl c6A ?_;refine d3v ?_;refine ⟨⟨b1f,b3C,tt⟩,?_⟩;refine B1 rfl rfl rfl (j2 rfl tt tt rfl j3 t_1 (.inl rfl) rfl rfl (nb rfl) ?_);refine ⟨⟨b3C,tt⟩,?_⟩;refine d6Q ?_;refine c6 ?_;exact ⟨_,r9 (rs:=[.cell 2 67,.cell 3 3,.cell 4 40]) (cs:=[_,_,_]) rfl d7S (n_5 rfl),⟨((⟨[],[],[]⟩:Src),at_,e),d3x,.inr ⟨by rw [Q0,hl];rfl,rfl,he⟩⟩⟩
 ·have he:e=0:=sp_ h1;obtain ⟨hl,rfl,rfl⟩:a2V s=some T/\nn=true/\at_=0:=by
   rcases hP with ⟨g1,g2,g3,_⟩ | ⟨_,_,_,g⟩
   ·exact ⟨g1,g2,g3⟩
   ·exact absurd he g
  subst he;obtain ⟨hc,h0⟩:=b1i hl;have af:Q0 s=a1e T:=by rw [Q0,hl];rfl
  refine C9 ?_;refine c84 rfl rfl rfl rfl rfl de_ rfl rfl Tryz.call154 C8 (fun ds=>?_);refine c15 ?_;refine b08 ?_;refine cY B2 ?_;refine cY (B3 #[(0,1),(1,1),(2,1),(3,1)] rfl ⟨tt,tt⟩ c5O Tryz.zeroValue199 rfl ⟨_,rfl⟩ (fun w=>by kernel_rfl) rfl rfl) ?_;refine cD (G8 rfl tt j3 j6 ?_);refine z_3 ?_;refine c15 ?_;refine b08 ?_;refine cY B2 ?_;refine cD (p7 rfl Tryz.call155 ⟨tt,tt⟩ (d3W hc h0 (q:=4) (s:=0) ⟨rfl,rfl,n_5 rfl⟩) rfl (fun x hx=>b98 _ _ _ _ ⟨_,r9 (rs:=[.cell 2 67,.cell 3 3,.cell 4 40]) (cs:=[_,_,_]) rfl d7S (n_5 rfl),⟨((⟨[],[],[]⟩:Src),x.1,x.2),d3x,.inr ⟨by rw [af];exact hx.1,rfl,hx.2⟩⟩⟩) ?_);rintro ⟨x,m,ps,b⟩ g1;dsimp only at g1 ⊢;refine cD (j2 rfl tt tt rfl j3 a3w j6 rfl rfl (nb rfl) ?_);refine cD (j2 rfl tt rfl rfl j3 t_1 (.inl rfl) rfl rfl (nb rfl) ?_);refine cD (j2 rfl tt rfl rfl j3 c04 (.inl rfl) rfl rfl (nb rfl) ?_);refine x9 ?_;refine d4T ?_;exact c0o ⟨_,r9 (rs:=[.cell 2 67,.cell 3 3,.cell 4 40]) (cs:=[_,_,_]) rfl d7S (n_5 rfl),⟨(x,0,0),(by exact .ret (.tups ⟨.old (c:=.agg (x).cells) (r6 (Src.pure _)).old,.old (.val _),.old (.val _),tt⟩)),.inl ⟨by rw [af];exact g1,rfl,rfl⟩⟩⟩
theorem d0f (s:Str) (hs:s.length<=1000000000000) (σ:List b9):b8 CC 102 [(sv s)] σ fun r τ=>∃ x:c5T,r = .ret (c5Y x)/\τ=σ/\b4L s x :=
 H5 (res:=fun x=>.ret (c5Y x)) hCC (fun c hc=>by simp at hc;subst hc;exact .val _) (c5p s hs) (fun x _=>D4 ⟨r6 x.1.pure,.val _,.val _,tt⟩) σ
structure Fi where
 p:Str
 b:Str
deriving DecidableEq
variable {b:List Ex} {fl:List Fi}
abbrev Fi.cells (x:Fi):List CV:=[sv x.p,sv x.b]
def Fi.cv (x:Fi):List CV:=x.cells
theorem Fi.pure (x:Fi):O4 x.cells:=⟨.val _,.val _,tt⟩
theorem J2 (l:List Fi) (nn:Bool):r4 (.list (l.map Fi.cv) nn none):=O6 (f:=Fi.cv) Fi.pure l nn
theorem T2 (n:Nat) (l:List Fi) (nn:Bool):Old n (.list (l.map Fi.cv) nn none):=(J2 l nn).old
abbrev r8 (l:List Fi) (nn:Bool):List CV:=[.list (l.map Fi.cv) nn none]
structure Va where
 n:Str
 v:Int
deriving DecidableEq
variable {n:Nat}
abbrev Va.cells (x:Va):List CV:=[sv x.n,iv x.v]
def Va.cv (x:Va):List CV:=x.cells
theorem Va.pure (x:Va):O4 x.cells:=⟨.val _,.val _,tt⟩
theorem a1d (l:List Va) (nn:Bool):r4 (.list (l.map Va.cv) nn none):=O6 (f:=Va.cv) Va.pure l nn
theorem V0 (n:Nat) (l:List Va) (nn:Bool):Old n (.list (l.map Va.cv) nn none):=(a1d l nn).old
abbrev G6 (l:List Va) (nn:Bool):List CV:=[.list (l.map Va.cv) nn none]
def prv {α:Type} (l:List α) (i:Nat):Option α:=if i=0 then none else l[i - 1]?
theorem b9E {x:α} (h:l[i]? = some x):prv l (i+1)=some x:=by unfold prv;simp [h]
theorem Y5 {p:α} (hp:0 < i->l[i - 1]? = some p) (q:α->Bool):(prv l i).any q=(decide ((i:Int) > 0) && q p):=by
 unfold prv;by_cases h:i=0
 ·subst h;rfl
 ·rw [n_0 h,hp om_];have:decide ((i:Int) > 0)=true:=a2a om_;rw [this];rfl
theorem b5c (hi:i < l.length):∃ p,0 < i->l[((i:Int) - 1).toNat]? = some p/\l[i - 1]? = some p:=by
 refine ⟨l[i - 1]'om_,fun h0=>?_⟩;rw [show ((i:Int) - 1).toNat=i - 1 by omega];simp
def J0 (pv:Option Fi) (f:Fi):Int:=if H3 f.p=false then 6 else if (pv.any fun g=>decide (f.p=g.p))=true then 10 else if (pv.any fun g=>Op.bytesLess f.p g.p)=true then 6 else if 16384 < f.b.length then 2 else 0
def rvE:Option Fi->List Fi->Int
 | _,[]=>0
 | pv,f::l=>if J0 pv f=0 then rvE (some f) l else J0 pv f
def B4 (l:List Fi):Int:=if 64 < l.length then 2 else rvE none l
theorem b57 {l:List Fi} {f:Fi} (h:l[i]? = some f):rvE (prv l i) (l.drop i)=if J0 (prv l i) f=0 then rvE (prv l (i+1)) (l.drop (i+1)) else J0 (prv l i) f:=by
 obtain ⟨ab,rfl⟩:=n_3.1 h;rw [b9E h,R2 ab,rvE]
def Z6 (pv:Option Va) (v:Va):Bool:=C3 v.n && (decide (-9007199254740992<=v.v) && decide (v.v<=9007199254740992)) && !(pv.any fun g=>Op.bytesLess v.n g.n || decide (v.n=g.n))
def evB:Option Va->List Va->Bool
 | _,[]=>true
 | pv,v::l=>Z6 pv v && evB (some v) l
def X9 (l:List Va):Bool:=decide (l.length<=16) && evB none l
theorem b3c {ev:List Va} (h:X9 ev=true):ev.length<=16:=by
 unfold X9 at h;simp only [U6,a1v] at h;exact h.1
theorem b8V {l:List Va} {v:Va} (h:l[i]? = some v):evB (prv l i) (l.drop i)=(Z6 (prv l i) v && evB (prv l (i+1)) (l.drop (i+1))):=by
 obtain ⟨ab,rfl⟩:=n_3.1 h;rw [b9E h,R2 ab,evB]
def a4l (s:Str):Bool:=H3 s && (decide ((s.length:Int) > 4) && c0M [46,115,114,99] s)
theorem c0L (l:List Fi) (nn:Bool) (hl:∀ f∈l,f.p.length<=1000000000) (σ:List b9):b8 CC 100 [.agg (r8 l nn)] σ fun r Y=>r = .ret (iv (B4 l))/\Y=σ:=by
 refine b8.anyw hCC pu_ pu_ (c7 (qO Tryz.func100 ?_)) σ;refine qD (G8 rfl tt j3 j6 ?_);refine qY a0I ?_;refine qC ?_ ?_<;>intro h1
 ·have aj:64 < l.length:=sm_ h1;exact d5W
 ·have aj:¬ 64 < l.length:=sm_ h1;refine qY a0I ?_;refine j7 hCC (α:=Nat) (fun i=>[(1,.ptr 0 0),(10,(.list (l.map Fi.cv) nn none)),(11,iv l.length),(12,iv i)]) (fun _=>[.box (r8 l nn)]) (fun i=>i<=l.length/\B4 l=rvE (prv l i) (l.drop i)) (fun i=>l.length - i) 0 ⟨n_4 _,by rw [B4,n_0 aj];rfl⟩ tu_ (ah:=[]) rfl z6 uz_ ?_;intro i ⟨hi,hr⟩;refine qk (qC ?_ ?_)<;> intro h2
  ·have ab:(i:Int) < l.length:=sp_ h2;obtain ⟨y,hb⟩:=gx_ l i;obtain ⟨p,hp⟩:=b5c (l:=l) (i:=i) om_;have fH:0 < i->l[i - 1]? = some p:=fun h=>(hp h).2;have aX:=hl y (n_2 hb);rw [b57 hb] at hr;refine b8L ?_;refine qY (c5 rfl c6a ⟨tt,tt⟩ (a1C y.p aX _) rfl) ?_;refine qC ?_ ?_<;>intro h3
   ·have u3:H3 y.p=false:=sp_ h3;have us:J0 (prv l i) y=6:=by rw [J0,n_1 u3]
    rw [us] at hr;exact b8u
   ·have u3:¬ H3 y.p=false:=sp_ h3;refine cW 15 ?_;refine b8i ?_;refine hY B2 ?_;refine c2O ?_;refine c3E ?_;refine c8V ?_;refine c2X ?_;refine U3 rfl rfl tt rfl b0D ?_;refine hY M7 ?_;refine a88 ?_;refine qC ?_ ?_<;>intro h4
    ·have u4:((prv l i).any fun g=>decide (y.p=g.p))=true:=by rw [Y5 fH];exact h4
     have us:J0 (prv l i) y=10:=by rw [J0,n_0 u3,n_1 u4]
     rw [us] at hr;exact b8u
    ·have u4:¬ ((prv l i).any fun g=>decide (y.p=g.p))=true:=by rw [Y5 fH];simpa using h4
     refine cW 15 ?_;refine b8i ?_;refine hY B2 ?_;refine c2O ?_;refine c3E ?_;refine c8V ?_;refine c2X ?_;refine d0N ?_;refine a88 ?_;refine qC ?_ ?_<;>intro h5
     ·have u5:((prv l i).any fun g=>Op.bytesLess y.p g.p)=true:=by rw [Y5 fH];exact h5
      have us:J0 (prv l i) y=6:=by rw [J0,n_0 u3,n_0 u4,n_1 u5]
      rw [us] at hr;exact b8u
     ·have u5:¬ ((prv l i).any fun g=>Op.bytesLess y.p g.p)=true:=by rw [Y5 fH];simpa using h5
      refine qY Q2 ?_;refine qC ?_ ?_<;>intro h6
      ·have u6:16384 < y.b.length:=sm_ h6;have us:J0 (prv l i) y=2:=by rw [J0,n_0 u3,n_0 u4,n_0 u5,n_1 u6]
       rw [us] at hr;exact b8u
      ·have u6:¬ 16384 < y.b.length:=sm_ h6;have us:J0 (prv l i) y=0:=by rw [J0,n_0 u3,n_0 u4,n_0 u5,n_0 u6]
       rw [us,n_1 rfl] at hr;exact b1Y
  ·refine z_9 ?_;exact ⟨_,rE1,_,_,rfl,rfl,D2 c9d⟩
theorem c3J (a b c d e:Bool):(a && b && !(c && (d || e))) = !((!a || !b) || (c && (d || e))):=by cases a<;>cases b<;>cases c<;>cases d<;>cases e<;>rfl
theorem c7g (s:Str):((H3 s && decide ((s.length:Int) > 4)) && c0M [46,115,114,99] s)=a4l s:=by rw [a4l,b0w]
theorem b2M (s:Str) (hs:s.length<=1000000000) (σ:List b9):b8 CC 101 [(sv s)] σ fun r Y=>r = .ret (.val (.bool (a4l s)))/\Y=σ:=by
 refine b8.anyw hCC pu_ pu_ (c7 (qO Tryz.func101 ?_)) σ;refine qY (c5 rfl c6a ⟨tt,tt⟩ (a1C s hs _) rfl) ?_;refine a7I ?_;refine a82 ?_;refine qG (fun hg=>c5 rfl Tryz.call152 ⟨hg,rfl,tt⟩ (a59 s _ om_ de_ _) rfl) ?_;refine qY M7 ?_;refine c6 ?_;exact ⟨_,rE1,_,_,rfl,rfl,j8 (c7g _)⟩
theorem b8H (v:Int) (σ:List b9):b8 CC 104 [iv v] σ fun r Y=>r = .ret (.val (.bool (decide (-9007199254740992<=v) && decide (v<=9007199254740992))))/\Y=σ:=by
 refine b8.anyw hCC pu_ pu_ (c7 (qO Tryz.func104 ?_)) σ;refine qG D6 ?_;refine a3G ?_;exact d1c
theorem a4t (l:List Va) (nn:Bool) (σ:List b9):b8 CC 57 [.agg (G6 l nn)] σ fun r Y=>r = .ret (.val (.bool (X9 l)))/\Y=σ:=by
 refine b8.anyw hCC pu_ pu_ (c7 (qO Tryz.func57 ?_)) σ;refine c8q ?_;refine qC ?_ ?_<;>intro h1
 ·have aj:¬ l.length<=16:=sm_ h1;refine c6 ?_;exact ⟨_,rE1,_,_,rfl,rfl,j8 (by rw [X9,a2f aj];rfl)⟩
 ·have aj:l.length<=16:=sm_ h1;refine qY c3Y ?_;refine j7 hCC (α:=Nat) (fun i=>[(1,.ptr 0 0),(10,(.list (l.map Va.cv) nn none)),(11,iv l.length),(12,iv i)]) (fun _=>[.box (G6 l nn)]) (fun i=>i<=l.length/\X9 l=evB (prv l i) (l.drop i)) (fun i=>l.length - i) 0 ⟨n_4 _,by rw [X9,a2a aj];rfl⟩ tu_ (ah:=[]) rfl z6 uz_ ?_;intro i ⟨hi,hr⟩;refine qk (qC ?_ ?_)<;> intro h2
  ·have ab:(i:Int) < l.length:=sp_ h2;obtain ⟨y,hb⟩:=gx_ l i;obtain ⟨p,hp⟩:=b5c (l:=l) (i:=i) om_;have fH:0 < i->l[i - 1]? = some p:=fun h=>(hp h).2;rw [b8V hb] at hr;refine b8W ?_;refine cW 26 ?_;refine d6w ?_;refine hY (c5 rfl c5j ⟨tt,tt⟩ (a1F y.n _) rfl) ?_;refine hY c99 ?_;refine hY B2 ?_;refine d0R ?_;refine U3 rfl rfl tt rfl (fun hg=>c5 rfl Tryz.call104 ⟨hg,tt⟩ (b8H y.v _) rfl) ?_;refine U3 rfl rfl tt rfl a6u ?_;refine hY R7 ?_;refine c19 ?_;refine U3 rfl rfl tt rfl a7l ?_;refine U3 rfl rfl tt rfl a9j ?_;refine d9N ?_;refine d9g ?_;refine d5X ?_;refine a4V rfl rfl (fun h=>h) rfl (fun hk hg=>p9 rfl ⟨hk,hg⟩ ⟨hk,hg⟩ rfl rfl c4C c55 d2Z (i8 (hp (by change (_:Bool)=_ at hk;simp at hk hg;omega)).1) rfl) ?_;refine d9a ?_;refine d5q ?_;refine hY R7 ?_;refine X2 ?_;refine qC ?_ ?_<;>intro h3
   ·have u3:Z6 (prv l i) y=false:=by rw [Z6,Y5 fH,c3J];rw [h3];rfl
    rw [u3,Bool.false_and] at hr;exact d5U
   ·have u3:Z6 (prv l i) y=true:=by rw [Z6,Y5 fH,c3J];rw [h3];rfl
    rw [u3,b7e] at hr;exact b1Y
  ·exact d5b
def a0k (l:List Va) (s:Str):Option Int:=(l.find? fun v=>decide (v.n=s)).map Va.v
theorem b3d {l:List Va} {v:Va} (h:l[i]? = some v) (s:Str):a0k (l.drop i) s=if v.n=s then some v.v else a0k (l.drop (i+1)) s:=by
 obtain ⟨ab,rfl⟩:=n_3.1 h;rw [R2 ab];unfold a0k;rw [b8v];by_cases hh:l[i].n=s
 ·simp [hh]
 ·simp [hh]
theorem b2G (l:List Va) (nn:Bool) (s:Str) (hl:l.length<=1000000000) (σ:List b9):b8 CC 112 [.agg (G6 l nn),(sv s)] σ fun r Y=>r = .ret (.tup [(iv ((a0k l s).getD 0)),(.val (.bool ((a0k l s).isSome)))])/\Y=σ:=by
 refine b8.anyw hCC pu_ pu_ (c7 (qO Tryz.func112 ?_)) σ;refine qD (G8 rfl tt j3 j6 ?_);refine d9i ?_;intro i ⟨hi,hr⟩;refine qk (qC ?_ ?_)<;> intro h1
 ·have ab:(i:Int) < l.length:=sp_ h1;obtain ⟨y,hb⟩:=gx_ l i;rw [b3d hb] at hr;refine b8W ?_;refine qY a7u ?_;refine qC ?_ ?_<;>intro h2
  ·have u2:y.n=s:=sp_ h2;rw [n_1 u2] at hr;exact d4Y
  ·have u2:¬ y.n=s:=sp_ h2;rw [n_0 u2] at hr;exact b1Y
 ·have aE:l.length<=i:=sm_ h1;rw [V2 aE] at hr;exact d6P
structure Nm where
 k:Int
 p:Str
 o:Str
deriving DecidableEq
abbrev Nm.cells (x:Nm):List CV:=[iv x.k,sv x.p,sv x.o]
def Nm.kc (x:Nm):CV:=.agg x.cells
def Nm.kv (x:Nm):Value:=.agg #[.int .i64 x.k,.string (str x.p),.string (str x.o)]
theorem Nm.pure (x:Nm):r4 x.kc:=r6 ⟨.val _,.val _,.val _,tt⟩
def F3 (k:Int) (p o:Str):Nm:=⟨k,if k=3 then [] else p,o⟩
theorem d9S (x y:Nm):∀ w,(Op.equal 175 x.kv y.kv).run CC.P w = .ok (decide (x=y)) w:=by
 intro w;show (Op.equal _ _ _).run Tryz.prog w=_;simp [Op.equal,Op.maxDepth,go_sem,Nm.kv,Z3];obtain ⟨a,b,c⟩:=x;obtain ⟨a',b',c'⟩:=y;by_cases h1:a=a'<;>by_cases h2:b=b'<;>by_cases h3:c=c'<;>simp [h1,h2,h3]
theorem e0V {M:A9} {w:World} {x:Nm} {v:Value} (h:RV M w x.kc v):v=x.kv:=a3o (l:=[.int .i64 x.k,.string (str x.p),.string (str x.o)]) h
theorem d7x {M:A9} {w:World} (x:Nm):RV M w x.kc x.kv:=by
 refine .agg rfl (fun c hc=>?_) fun i c hc=>?_
 ·simp at hc
  rcases hc with rfl | rfl | rfl<;>rfl
 ·rcases i with _ | _ | _ | i
  ·injection hc with hc;subst hc;exact .val _
  ·injection hc with hc;subst hc;exact .val _
  ·injection hc with hc;subst hc;exact .val _
  ·cases hc
theorem c7n:d0a (α:=Nm) CC.P 175 Nm.kc Nm.kv where
 rv _ _ _ _ h:=e0V h
 rv' _ _ a:=d7x a
 check b a w:=by
  have:∀ n,(Instr.checkKey b (n+2) 175 a.kv).run Tryz.prog w = .ok () w:=fun n=>by simp [Instr.checkKey,Nm.kv,go_sem]
  exact this 9998
 eq a b w:=d9S a b w
 now:=⟨_,c65,fun a b=>rfl⟩
 bits a:=by
  have:∀ n,Instr.sameBits (n+2) a.kv a.kv=true:=fun n=>by simp [Instr.sameBits,Nm.kv,b4P]
  exact this 9998
theorem d4E:U9 (α:=Nm) CC.P 175 Nm.kc Nm.kv:=c7n.find
theorem b6d (k:Int) (p o:Str) (σ:List b9):b8 CC 133 [iv k,(sv p),(sv o)] σ fun r Y=>r = .ret (.agg (F3 k p o).cells)/\Y=σ:=by
 refine b8.anyw hCC pu_ pu_ (c7 (qO Tryz.func133 ?_)) σ;refine qD (p8 rfl c8K rfl j6 ?_);refine qC ?_ ?_<;>intro h1
 ·have u1:k=3:=sp_ h1;refine d5A ?_;refine c6 ?_;exact ⟨_,C6 rfl ⟨tt,_,_,_,rfl,rfl,.inr ⟨_,d1i,b7X,nb rfl,rfl⟩⟩,_,_,rfl,rfl,(by rw [F3,n_1 u1];exact .old ((Nm.pure ⟨k,[],o⟩).old))⟩
 ·have u1:¬ k=3:=sp_ h1;refine d5A ?_;refine c6 ?_;exact ⟨_,C6 rfl ⟨tt,_,_,_,rfl,rfl,.inr ⟨_,d1i,b7X,nb rfl,rfl⟩⟩,_,_,rfl,rfl,(by rw [F3,n_0 u1];exact .old ((Nm.pure ⟨k,p,o⟩).old))⟩
structure En where
 p:Str
 o:Str
 k:Int
 pl:Str
 ix:Int
 ct:Int
deriving DecidableEq
variable {k:Nat}
abbrev En.cells (x:En):List CV:=[sv x.p,sv x.o,iv x.k,sv x.pl,iv x.ix,iv x.ct]
abbrev En.z:En:=⟨[],[],0,[],0,0⟩
theorem En.pure (x:En):r4 (.agg x.cells):=r6 ⟨.val _,.val _,.val _,.val _,.val _,.val _,tt⟩
def vcE (x:En):CV:=.agg x.cells
def vcS (x:Src):CV:=.agg x.cells
abbrev Src.z:Src:=⟨[],[],[]⟩
theorem a3s (x:Src):r4 (vcS x):=r6 x.pure
theorem a5R {z:Value} (d:β) (hd:I2 z=vc d) (o:Option β):(o.map vc).getD (I2 z)=vc (o.getD d):=by cases o<;>simp [hd]
theorem c7m {kc:α->CV} (hk:∀ a,r4 (kc a)) (hv:∀ b,r4 (vc b)) (n:Nat) (l:List (α × β)):I0 n (.map (gm kc vc l)):=fun x hx=>by
 obtain ⟨y,_,rfl⟩:=F4.1 hx;exact ⟨(hk _).old,(hv _).old⟩
theorem a6W {kc:α->CV} (hk:∀ a,r4 (kc a)) (hv:∀ b,r4 (vc b)) (l:List (α × β)):I4 R (.map (gm kc vc l)) (.map (gm kc vc l)):=.map ⟨rfl,fun i x x' h h'=>by
 rw [h] at h';injection h' with h';subst h'
 obtain ⟨y,_,rfl⟩:=F4.1 (n_2 h);exact ⟨.pure (hk _),.pure (hv _)⟩⟩
abbrev SM:=List (Str × Src)
variable {ms:SM}
abbrev EM:=List (Nm × En)
variable {me:EM}
abbrev smO (m:SM):b9:=.map (gm sv vcS m)
abbrev emO (m:EM):b9:=.map (gm Nm.kc vcE m)
theorem a52 (s:Str):r4 (sv s):=.val _
abbrev wbx (fl:List Fi) (nn va:Bool) (br:List Str) (q1 q2 t:Nat):b9:=.box [.list (fl.map Fi.cv) nn none,.val (.bool va),.map q1,.list (br.map scv) (gnn br.length) (C2 br.length t),.map q2]
abbrev wst (fl:List Fi) (nn va:Bool) (br:List Str) (ms:SM) (me:EM):List b9:=[wbx fl nn va br 1 2 3,smO ms,emO me,o8 br.length]
structure WAt (σ:List b9) (w q1 q2 t:Nat) (fl:List Fi) (nn va:Bool) (br:List Str) (ms:SM) (me:EM):Prop where
 hw:σ[w]? = some (wbx fl nn va br q1 q2 t)
 hs:σ[q1]? = some (smO ms)
 he:σ[q2]? = some (emO me)
 ht:σ[t]? = some (o8 br.length)
 nd:b5I [w,q1,q2,t]
theorem b2c {b c d:Nat} (h:a≠b/\a≠c/\a≠d/\b≠c/\b≠d/\c≠d):b5I [a,b,c,d]:=fun i j k h1 h2=>by
 obtain ⟨h3,h4,h5,h6,h7,h8⟩:=h
 rcases i with _ | _ | _ | _ | i<;>rcases j with _ | _ | _ | _ | j<;>simp at h1 h2<;>omega
theorem b0a {t p1 p2 u:Nat} (h1:R q1 p1) (h2:R q2 p2) (h3:R t u):I4 R (wbx fl nn va br q1 q2 t) (wbx fl nn va br p1 p2 u) :=
 .box (.cons (.pure (J2 _ _)) (.cons (.pure (.val _)) (.cons (.map h1) (.cons (by
  refine .list rfl (fun i r r' h1 h2=>by rw [h1] at h2;injection h2 with h2;rw [h2]) (fun i j r r' c c' h1 h2 h3 h4=>?_) ?_
  ·rw [h1] at h2;injection h2 with h2;subst h2;rw [h3] at h4;injection h4 with h4;subst h4
   obtain ⟨y,_,rfl⟩:=F4.1 (n_2 h1);have hm:=n_2 h3;simp [scv] at hm;subst hm;exact .pure (.val _)
  ·cases hb:br.length with
   | zero=>exact .inl ⟨rfl,rfl⟩
   | succ m=>exact .inr ⟨t,u,rfl,rfl,h3⟩) (.cons (.map h2) .nil)))))
theorem b0f {t:Nat} (h1:q1 < L) (h2:q2 < L) (h3:t < L):I0 L (wbx fl nn va br q1 q2 t):=u0 ⟨T2 _ _ _,.val _,.map h1,.list (fun i j r c h h'=>by
 obtain ⟨y,_,rfl⟩:=F4.1 (n_2 h);have hm:=n_2 h';simp [scv] at hm;subst hm;exact .val _) (fun k hk=>by
  cases hb:br.length with
  | zero=>rw [hb] at hk;cases hk
  | succ m=>rw [hb] at hk;injection hk with hk;omega),.map h2,tt⟩
theorem Y9 (n:Nat) (m:SM):I0 n (smO m):=c7m a52 a3s n m
theorem a0v (n:Nat) (m:EM):I0 n (emO m):=c7m Nm.pure En.pure n m
theorem a2U (hτ:τ=wbx fl nn va br 1 2 3::smO ms::emO me::o8 br.length::rest) (hc:C7 4 [0,1,2,3] c c'):E8 4 τ (.ret c) (.ret c') (wst fl nn va br ms me):=by
 subst hτ;exact ⟨[0,1,2,3],rfl,rfl,.ret hc,.inr ⟨_,rfl,.same rfl (b0f de_ de_ de_)⟩,.inr ⟨_,rfl,.same rfl (Y9 _ _)⟩,.inr ⟨_,rfl,.same rfl (a0v _ _)⟩,.inr ⟨_,rfl,.same rfl B8⟩,tt⟩
theorem c8r {w t:Nat} (h:WAt σ w q1 q2 t fl nn va br ms me):∀ (i k:Nat) (ob:b9),[w,q1,q2,t][i]? = some k->(wst fl nn va br ms me)[i]? = some ob->∃ aG,[wbx fl nn va br q1 q2 t,smO ms,emO me,o8 br.length][i]? = some aG/\σ[k]? = some aG/\I4 (fun i k=>[w,q1,q2,t][i]? = some k) ob aG:=fun i k ob h1 h2=>by
 rcases i with _ | _ | _ | _ | i
 ·injection h1 with h1;injection h2 with h2;subst h1 h2;exact ⟨_,rfl,h.hw,b0a rfl rfl rfl⟩
 ·injection h1 with h1;injection h2 with h2;subst h1 h2;exact ⟨_,rfl,h.hs,a6W a52 a3s _⟩
 ·injection h1 with h1;injection h2 with h2;subst h1 h2;exact ⟨_,rfl,h.he,a6W Nm.pure En.pure _⟩
 ·injection h1 with h1;injection h2 with h2;subst h1 h2;exact ⟨_,rfl,h.ht,a0p _⟩
 ·cases h1
theorem e1k {f:FuncId} {c:α->CV} (ao:∀ a∈args,r4 a) (hc:∀ a,r4 (c a))
 (h:b8 CC f (.ptr 0 0::args) (wst fl nn va br ms me) fun r τ=>∃ a,E8 4 τ r (.ret (c a)) (wst fl nn va br ms me)/\P a) {σ:List b9} {w q1 q2 t:Nat} (am:WAt σ w q1 q2 t fl nn va br ms me):b8 CC f (.ptr w 0::args) σ fun r τ=>∃ a,r = .ret (c a)/\τ=σ/\P a :=
 b18 [w,q1,q2,t] hCC rfl am.nd (c8r am) (.cons (.ptr rfl) (L3 ao)) (fun a _=>hc a) (I5 hCC (h.mono fun _ _ ⟨a,h1,h2⟩=>⟨_,_,h1,a,rfl,rfl,h2⟩))
theorem b4b {f:FuncId} (ao:∀ a∈args,r4 a) (hc:r4 c)
 (h:b8 CC f (.ptr 0 0::args) (wst fl nn va br ms me) fun r τ=>E8 4 τ r (.ret c) (wst fl nn va br ms me)) {σ:List b9} {w q1 q2 t:Nat} (am:WAt σ w q1 q2 t fl nn va br ms me):b8 CC f (.ptr w 0::args) σ fun r τ=>r = .ret c/\τ=σ :=
 (e1k (α:=Unit) (c:=fun _=>c) (P:=fun _=>True) ao (fun _=>hc) (h.mono fun _ _ hh=>⟨(),hh,tt⟩) am).mono fun _ _ ⟨_,h1,h2,_⟩=>⟨h1,h2⟩
def a2I (me:EM) (x:En):EM:=U4 me (F3 x.k x.p x.o) (match glk me (F3 x.k x.p x.o) with | some f=>{ f with ct:=f.ct+1} | none=>x)
def a0g (va:Bool) (me:EM) (k:Int) (p o:Str):En:=if va=true then (match glk me (F3 k p o) with | some x=>x | none=>⟨(F3 k p o).p,o,k,[],0,0⟩) else En.z
def C0 (fl:List Fi) (s:Str):Option Str:=(fl.find? fun f=>decide (f.p=s)).map Fi.b
theorem b0X {l:List Fi} {v:Fi} (h:l[i]? = some v) (s:Str):C0 (l.drop i) s=if v.p=s then some v.b else C0 (l.drop (i+1)) s:=by
 obtain ⟨ab,rfl⟩:=n_3.1 h;rw [R2 ab];unfold C0;rw [b8v];by_cases hh:l[i].p=s
 ·simp [hh]
 ·simp [hh]
theorem c4P (fl:List Fi) (nn va:Bool) (br:List Str) (ms:SM) (me:EM) (x:En) (gi:∀ k e,glk me k=some e->0<=e.ct/\e.ct<=1000000):b8 CC 103 [.ptr 0 0,.agg x.cells] (wst fl nn va br ms me) fun r τ=>E8 4 τ r (.ret (.tup [])) (wst fl nn va br ms (a2I me x)):=by
 refine cO Tryz.func103 ?_;refine b2H ?_;refine a7y ?_;refine cY a9A ?_;refine cY a1n ?_;refine cY b3j ?_;refine cY Q3 ?_;refine cY b3j ?_;refine cY Q3 ?_;refine yc rfl Tryz.call133 C8 (b6d x.k x.p x.o _) ?_;refine d6o ?_;refine b2r ?_;refine d5a ?_;refine b2L ?_;refine chf rfl (c8 rfl b3u) ?_;refine chf rfl (c8 rfl b3w) ?_;refine chf rfl (c8 rfl b3L) ?_;refine chf rfl (c8 rfl d9b) ?_;refine chf rfl V4 ?_;refine chf rfl b4v ?_;refine chf rfl b4v ?_;refine D9 ?_;refine B1 rfl rfl rfl (p8 rfl a9Y rfl j6 ?_);refine ⟨⟨F1,a18,(by exact c8 rfl b3u),(by exact c8 rfl b3w),(by exact c8 rfl b3L),(by exact c8 rfl d9b),F1,a9g,a9g,tt⟩,?_⟩;refine d6m ?_;refine c0I ?_;refine z_4 ?_;refine x9 ?_;refine cC ?_ ?_<;>intro h1
 ·obtain ⟨e,he⟩:∃ e,glk me (F3 x.k x.p x.o)=some e:=b6z.1 h1;have aP:=gi _ _ he;rw [he];have hle2:0<=((some e).getD En.z).ct/\((some e).getD En.z).ct<=1000000:=aP;refine z_0 ?_;refine cY c18 ?_;refine d4h ?_;refine G5 ?_;refine cY a9A ?_;refine cY a1n ?_;refine cY l9 ?_;refine cY a9A ?_;refine cD (j2 rfl tt tt rfl j3 t_1 (.inl rfl) rfl rfl (nb rfl) ?_);refine x9 ?_;refine cW 6 ?_;refine a5g ?_;refine hY b3u ?_;refine hY b3w ?_;refine hY b3L ?_;refine hY c18 ?_;refine a6P ?_;refine cD (o3 (vc:=vcE) (l:=me) (a:=(F3 x.k x.p x.o)) (b:={ e with ct:=e.ct+1}) d4E (.inl rfl) tt tt trivial rfl rfl rfl b7u rfl ?_);refine x9 ?_;exact ⟨_,rE0,(by have ha:a2I me x=U4 me (F3 x.k x.p x.o) { e with ct:=e.ct+1}:=(by rw [a2I,he]);exact a2U (by rw [ha];rfl) (.old (Old.tup (fun i c h=>by cases h))))⟩
 ·have he:glk me (F3 x.k x.p x.o)=none:=sp_ h1;refine C9 ?_;refine cW 6 ?_;refine a5g ?_;refine hY b3u ?_;refine hY b3w ?_;refine hY b3L ?_;refine hY c18 ?_;refine a6P ?_;refine cD (o3 (vc:=vcE) (l:=me) (a:=(F3 x.k x.p x.o)) (b:=x) d4E (.inl rfl) tt tt trivial rfl rfl rfl b7u rfl ?_);refine x9 ?_;exact ⟨_,rE0,(by have ha:a2I me x=U4 me (F3 x.k x.p x.o) x:=(by rw [a2I,he]);exact a2U (by rw [ha];rfl) (.old (Old.tup (fun i c h=>by cases h))))⟩
theorem d1y (fl:List Fi) (nn va:Bool) (br:List Str) (ms:SM) (me:EM) (k:Int) (p o:Str):b8 CC 90 [.ptr 0 0,iv k,(sv p),(sv o)] (wst fl nn va br ms me) fun r τ=>E8 4 τ r (.ret (.agg (a0g va me k p o).cells)) (wst fl nn va br ms me):=by
 refine cO Tryz.func90 ?_;refine z_0 ?_;refine cD (p8 rfl a9Y rfl j6 ?_);refine b2r ?_;refine a4N ?_;refine d5l ?_;refine a9C ?_;refine cC ?_ ?_<;>intro h1
 ·have hv:va=false:=sp_ h1;refine z_0 ?_;refine cY (B3 #[(0,1),(1,1),(2,1),(3,1),(4,1),(5,1)] rfl tt b6Q a9Y rfl ⟨_,rfl⟩ (fun w=>by kernel_rfl) rfl rfl) ?_;refine d4h ?_;refine c6 ?_;exact ⟨_,C6 rfl c3R,(by rw [a0g,n_0 (by rw [hv];decide)];exact a2U rfl (.old (c:=.agg En.z.cells) (En.pure _).old))⟩
 ·have hv:va=true:=sp_ h1;refine C9 ?_;refine a7x ?_;refine cY B2 ?_;refine yc rfl Tryz.call133 C8 (b6d k p o _) ?_;refine d6o ?_;refine b2r ?_;refine d5a ?_;refine b2L ?_;refine chf rfl (c8 rfl b3u) ?_;refine chf rfl (c8 rfl b3w) ?_;refine chf rfl (c8 rfl b3L) ?_;refine chf rfl (c8 rfl e0a) ?_;refine chf rfl V4 ?_;refine chf rfl b4v ?_;refine chf rfl b4v ?_;refine D9 ?_;refine B1 rfl rfl rfl (p8 rfl a9Y rfl j6 ?_);refine ⟨⟨F1,a18,(by exact c8 rfl b3u),(by exact c8 rfl b3w),(by exact c8 rfl b3L),(by exact c8 rfl e0a),F1,a9g,a9g,tt⟩,?_⟩;refine d6m ?_;refine c0I ?_;refine z_4 ?_;refine x9 ?_;refine cC ?_ ?_<;>intro h2
  ·obtain ⟨e,he⟩:∃ e,glk me (F3 k p o)=some e:=b6z.1 h2;rw [he];refine z_0 ?_;refine cY c18 ?_;refine d4h ?_;refine c6 ?_;exact ⟨_,C6 rfl c3R,(by rw [a0g,n_1 hv,he];exact a2U rfl (.old (c:=.agg e.cells) (En.pure _).old))⟩
  ·have he:glk me (F3 k p o)=none:=sp_ h2;refine b0B ?_;refine cY (j5 rfl tt rfl c65 rfl t_0 de_) ?_;refine cY Q3 ?_;refine cY B2 ?_;refine cY B2 ?_;refine cY e0c ?_;refine d4h ?_;refine c6 ?_;exact ⟨_,C6 rfl c3R,(by rw [a0g,n_1 hv,he];exact a2U rfl (.old (c:=.agg (⟨(F3 k p o).p,o,k,[],0,0⟩:En).cells) (En.pure _).old))⟩
theorem c9s (fl:List Fi) (nn va:Bool) (br:List Str) (ms:SM) (me:EM) (s:Str) (cK:fl.length<=1000000):b8 CC 110 [.ptr 0 0,(sv s)] (wst fl nn va br ms me) fun r τ=>E8 4 τ r (.ret (.tup [sv ((C0 fl s).getD []),.val (.bool (C0 fl s).isSome)])) (wst fl nn va br ms me):=by
 refine qO Tryz.func110 ?_;refine qY a0I ?_;refine j7 hCC (α:=Nat) (fun i=>[(1,(sv s)),(12,(.list (fl.map Fi.cv) nn none)),(13,iv fl.length),(14,iv i)]) (fun _=>(wst fl nn va br ms me)) (fun i=>i<=fl.length/\C0 fl s=C0 (fl.drop i) s) (fun i=>fl.length - i) 0 ⟨n_4 _,rfl⟩ tu_ (ah:=[]) rfl z6 uz_ ?_;intro i ⟨hi,hr⟩;refine qk (qC ?_ ?_)<;> intro h1
 ·have ab:(i:Int) < fl.length:=sp_ h1;obtain ⟨y,hb⟩:=gx_ fl i;rw [b0X hb] at hr;refine b4w ?_;refine qC ?_ ?_<;>intro h2
  ·have u2:y.p=s:=sp_ h2;rw [n_1 u2] at hr;refine c6 ?_;exact ⟨_,r9 (rs:=[.tmp 4,.tmp 5]) (cs:=[_,_]) rfl R4 (n_5 rfl),(by rw [hr];exact a2U rfl (.old (c:=.tup [sv y.b,.val (.bool true)]) (r4.old (.tup (fun c hc=>by simp at hc;rcases hc with rfl | rfl<;>exact .val _)))))⟩
  ·have u2:¬ y.p=s:=sp_ h2;rw [n_0 u2] at hr;exact b1Y
 ·have aE:fl.length<=i:=sm_ h1;rw [V2 aE] at hr;refine z_9 ?_;exact ⟨_,r9 (rs:=[.tmp 4,.tmp 5]) (cs:=[_,_]) rfl R4 (n_5 rfl),(by rw [hr];exact a2U rfl (.old (c:=.tup [sv [],.val (.bool false)]) (r4.old (.tup (fun c hc=>by simp at hc;rcases hc with rfl | rfl<;>exact .val _)))))⟩
def addDs (me:EM) (path pkg:Str):List De->Nat->EM
 | [],_=>me
 | d::ds,k=>addDs (a2I me ⟨pkg,d.name,d.k,path,(k:Int),1⟩) path pkg ds (k+1)
abbrev WS:=List Str × SM × EM
def a0K (s:WS) (f:Fi):WS:=if a4l f.p=true then (match Q0 f.b with | none=>(s.1++[f.p],s.2.1,s.2.2) | some x=>(s.1,U4 s.2.1 f.p x,addDs s.2.2 f.p x.pkg x.decls 0)) else s
def a8F (fl:List Fi) (s:WS):WS:=fl.foldl a0K s
def A2 (fl:List Fi):WS:=if B4 fl=0 then a8F fl ([],[],[]) else ([],[],[])
def CtB (n:Nat) (me:EM):Prop:=∀ k e,glk me k=some e->0<=e.ct/\e.ct<=(n:Int)
theorem CtB.add (h:CtB n me) {x:En} (hx:x.ct=1):CtB (n+1) (a2I me x):=fun k e he=>by
 rw [a2I,P1] at he;split at he
 ·injection he with he
  subst he;cases hg:glk me (F3 x.k x.p x.o) with
  | none=>simp only;omega
  | some f=>have:=h _ _ hg;simp only;omega
 ·have:=h _ _ he;omega
theorem CtB.nil (n:Nat):CtB n []:=fun k e h=>by cases h
theorem CtB.mono (h:CtB n me) (bL:n<=m):CtB m me:=fun k e he=>by have:=h k e he;omega
theorem a64 {path pkg:Str} {l:List De} {d:De} (h:l[k]? = some d):addDs me path pkg (l.drop k) k=addDs (a2I me ⟨pkg,d.name,d.k,path,(k:Int),1⟩) path pkg (l.drop (k+1)) (k+1):=by
 obtain ⟨ab,rfl⟩:=n_3.1 h;rw [R2 ab,addDs]
theorem c5B {l:List Fi} {f:Fi} (h:l[i]? = some f) (s:WS):a8F (l.drop i) s=a8F (l.drop (i+1)) (a0K s f):=by
 obtain ⟨ab,rfl⟩:=n_3.1 h;unfold a8F;rw [R2 ab,b9l]
theorem c14:∀ {pv:Option Fi} {l:List Fi},rvE pv l=0->∀ f∈l,H3 f.p=true/\f.b.length<=16384
 | _,[],_,f,h=>by cases h
 | pv,x::l,h0,f,h=>by
  rw [rvE] at h0;split at h0
  ·rename_i hs
   rcases J5.1 h with rfl | h
   ·unfold J0 at hs;split at hs
    ·cases hs
    ·rename_i hp;split at hs
     ·cases hs
     ·split at hs
      ·cases hs
      ·split at hs
       ·cases hs
       ·exact ⟨sp_ hp,om_⟩
   ·exact c14 h0 f h
  ·rename_i hs;exact absurd h0 hs
theorem a1a {l:List Fi} (h:B4 l=0):l.length<=64/\∀ f∈l,H3 f.p=true/\f.b.length<=16384:=by
 unfold B4 at h;split at h
 ·cases h
 ·exact ⟨om_,c14 h⟩
theorem b0U:∀ (f:Nat) {T:List Tok} {n:Nat} {l:List De} {x:List De × Nat},S7 f T n l=some x->x.1.length+1<=l.length+f
 | 0,T,n,l,x,h=>by cases h
 | f+1,T,n,l,x,h=>by
  rw [S7] at h;split at h
  ·injection h with h;subst h;simp only;omega
  ·cases hd:a0N T l n with
   | none=>rw [hd] at h;cases h
   | some y =>
    rw [hd,n_9] at h;have:=b0U f h;rw [n_6,b9T] at this;omega
theorem b4l {x:Src} (h:a1e T=some x):x.decls.length<=64:=by
 unfold a1e at h;cases h1:pIs T 0 1 [112,97,99,107,97,103,101] with
 | none=>rw [h1] at h;cases h
 | some n1 =>
  rw [h1,n_9] at h;cases h2:K0 T n1 with
  | none=>rw [h2] at h;cases h
  | some w =>
   rw [h2,n_9] at h;cases h3:pIs T w.2 4 [59] with
   | none=>rw [h3] at h;cases h
   | some n2 =>
    rw [h3,n_9] at h;cases h4:a1p 9 T w.1.t n2 [] with
    | none=>rw [h4] at h;cases h
    | some y =>
     rw [h4,n_9] at h;cases h5:S7 65 T y.2 [] with
     | none=>rw [h5] at h;cases h
     | some z =>
      rw [h5,n_9] at h;injection h with h
      subst h;have:=b0U _ h5;simp only [I8] at this ⊢;omega
theorem c0k {x:Src} (h:Q0 s=some x):x.decls.length<=64:=by
 unfold Q0 at h;cases h1:a2V s with
 | none=>rw [h1] at h;cases h
 | some T=>rw [h1,n_9] at h;exact b4l h
theorem c9c {w t:Nat} (am:WAt σ w q1 q2 t fl nn va br ms me) (x:En) (gi:∀ k e,glk me k=some e->0<=e.ct/\e.ct<=1000000):b8 CC 103 [.ptr w 0,.agg x.cells] σ fun r τ=>∃ _:Unit,r = .ret (.tup [])/\τ=a9G σ [w,q1,q2,t] [wbx fl nn va br q1 q2 t,smO ms,emO (a2I me x),o8 br.length]/\True :=
 a74 (α:=Unit) (obs:=wst fl nn va br ms me) (res:=fun _=>.ret (.tup [])) (res':=fun _=>.ret (.tup [])) (S:=fun _=>wst fl nn va br ms (a2I me x)) (S':=fun _=>[wbx fl nn va br q1 q2 t,smO ms,emO (a2I me x),o8 br.length]) (P:=fun _=>True) [w,q1,q2,t] hCC rfl am.nd (fun i k ob h1 h2=>by
  obtain ⟨aG,_,h3,h4⟩:=c8r am i k ob h1 h2;exact ⟨aG,h3,h4.symm fun _ _ h=>h⟩) (.cons (.ptr rfl) (L3 fun a ha=>by simp at ha;subst ha;exact En.pure x)) (I5 hCC ((c4P fl nn va br ms me x gi).mono fun r τ h=>⟨_,_,h,(),rfl,rfl,tt⟩)) a0B (fun _ i k y h1 h2=>by
  rcases i with _ | _ | _ | _ | i
  ·injection h2 with h2;subst h2;exact ⟨_,rfl,b0a rfl rfl rfl⟩
  ·injection h2 with h2;subst h2;exact ⟨_,rfl,a6W a52 a3s _⟩
  ·injection h2 with h2;subst h2;exact ⟨_,rfl,a6W Nm.pure En.pure _⟩
  ·injection h2 with h2;subst h2;exact ⟨_,rfl,a0p _⟩
  ·cases h2) fun _=>.ret (.pure (D4 trivial))
theorem d2f (fl:List Fi) (nn:Bool) (hl:∀ f∈fl,f.p.length<=1000000000):b8 CC 56 [.agg (r8 fl nn)] [] fun r τ=>E8 0 τ r (.ret (.ptr 0 0)) (wst fl nn (B4 fl == 0) (A2 fl).1 (A2 fl).2.1 (A2 fl).2.2):=by
 refine cO Tryz.func56 ?_;refine b2H ?_;refine b1x ?_;refine a69 hCC 1 rfl (α:=Unit) (fun _=>[(1,.ptr 0 0),(3,.ptr 3 0)]) (fun _=>[.box (r8 fl nn),.map [],.map [],.box [.list (fl.map Fi.cv) nn none,.val (.bool (B4 fl == 0)),.map 1,.list [] false none,.map 2]]) (fun _=>True) ?_ fun _ _=>?_
 ·refine c2M [0,0,2,6,0,0,63,127,255] [0,1,2,3] (f:=5) o7 o7 rfl ?_;refine chf rfl a4W ?_;refine chf rfl a4W ?_;refine chf rfl (c8 rfl c2l) ?_;refine chf rfl (c8 rfl a0c) ?_;refine D9 ?_;refine d1T (i:=4) (i':=5) o7 rfl rfl rfl rfl (T9 rfl ?_) (T9 rfl ?_)
  ·refine ⟨⟨fun _=>by exact c8 rfl U7,fun _=>by exact c8 rfl U7,fun _=>by exact c8 rfl c2l,fun _=>by exact c8 rfl a0c,tt⟩,?_⟩;refine a9D (i:=5) o7 rfl rfl (T9 rfl ?_);refine d5O ?_;refine d5j ?_;refine d7N (i:=8) o7 rfl b7U ?_;exact ⟨by kernel_rfl,(),[0,1,2,3],tt,⟨rfl,rfl⟩,⟨⟨tt,.ptr rfl⟩,⟨tt,.ptr rfl⟩,tt⟩,.inr ⟨_,rfl,.same rfl Q4⟩,.inr ⟨_,rfl,.same rfl (fun x hx=>by cases hx)⟩,.inr ⟨_,rfl,.same rfl (fun x hx=>by cases hx)⟩,.inr ⟨_,rfl,.box ⟨.old a3y,.old (.val _),.map rfl,.old a2o,.map rfl,tt⟩⟩,tt⟩
  ·refine ⟨⟨fun _=>by exact c8 rfl U7,fun _=>by exact c8 rfl U7,fun _=>by exact c8 rfl c2l,fun _=>by exact c8 rfl a0c,tt⟩,?_⟩;refine a9D (i:=4) o7 rfl rfl (T9 rfl ?_);refine d5O ?_;refine d5j ?_;refine d7N (i:=8) o7 rfl b7U ?_;exact ⟨by kernel_rfl,(),[0,2,1,3],tt,⟨rfl,rfl⟩,⟨⟨tt,.ptr rfl⟩,⟨tt,.ptr rfl⟩,tt⟩,.inr ⟨_,rfl,.same rfl Q4⟩,.inr ⟨_,rfl,.same rfl (fun x hx=>by cases hx)⟩,.inr ⟨_,rfl,.same rfl (fun x hx=>by cases hx)⟩,.inr ⟨_,rfl,.box ⟨.old a3y,.old (.val _),.map rfl,.old a2o,.map rfl,tt⟩⟩,tt⟩
 refine F9 ?_;refine a4N ?_;refine d5l ?_;refine a9C ?_;refine cC ?_ ?_<;>intro h1
 ·have hv:¬ B4 fl=0:=sp_ h1;refine z_4 ?_;refine a1O ?_;exact ⟨_,rE1,(by rw [A2,n_0 hv];exact ⟨[3,1,2,9],rfl,rfl,.ret (.ptr rfl),.inr ⟨_,rfl,.box ⟨.old a3y,.old (.val _),.map rfl,.old a2o,.map rfl,tt⟩⟩,.inr ⟨_,rfl,.same rfl (Y9 _ _)⟩,.inr ⟨_,rfl,.same rfl (a0v _ _)⟩,.inl rfl,tt⟩)⟩
 ·have hv:B4 fl=0:=sp_ h1;obtain ⟨cK,hfa⟩:=a1a hv;have af:A2 fl=a8F fl ([],[],[]):=by rw [A2,n_1 hv]
  refine b5Q ?_;refine z_0 ?_;refine d5Y ?_;refine cY a0I ?_;refine a73 ?_;refine A6 hCC 4 rfl (α:=Nat × WS) (fun x=>[(3,.ptr 3 0),(26,(.list (fl.map Fi.cv) nn none)),(27,iv fl.length),(28,iv x.1)]) (fun x=>[.box (r8 fl nn),smO x.2.2.1,emO x.2.2.2,wbx fl nn (B4 fl == 0) x.2.1 1 2 4,o8 x.2.1.length]) (fun x=>x.1<=fl.length/\x.2.1.length<=x.1/\CtB (64*x.1) x.2.2.2/\A2 fl=a8F (fl.drop x.1) x.2) (fun x=>fl.length - x.1) ⟨(0,[],[],[]),[0,1,2,3,9],⟨n_4 _,n_4 _,CtB.nil _,af⟩,⟨rfl,rfl⟩,ut_,⟨.inr ⟨_,rfl,.same rfl Q4⟩,.inr ⟨_,rfl,.same rfl (Y9 _ _)⟩,.inr ⟨_,rfl,.same rfl (a0v _ _)⟩,.inr ⟨_,rfl,.box ⟨.old a3y,.old (.val _),.map rfl,.old a2o,.map rfl,tt⟩⟩,.inl rfl,tt⟩⟩ ?_;intro ⟨i,br,ms,me⟩ ⟨hi,hbr,gi,hr⟩;dsimp only at hi hbr gi hr ⊢;refine a7j ?_;refine cC ?_ ?_<;>intro h2
  ·have ab:(i:Int) < fl.length:=sp_ h2;obtain ⟨y,hb⟩:=gx_ fl i;have hy:=hfa y (n_2 hb);have dU:=hl y (n_2 hb);rw [c5B hb,a0K] at hr;refine a4X ?_;refine z_0 ?_;refine cY c7u ?_;refine cY (W6 rfl tt rfl c7A a4a (nb rfl)) ?_;refine d5F ?_;refine a6z ?_;refine cY b1y ?_;refine cY Q3 ?_;refine yc rfl Tryz.call101 ⟨tt,tt⟩ (b2M y.p dU _) ?_;refine a9C ?_;refine cC ?_ ?_<;>intro h3
   ·have u3:¬ a4l y.p=true:=sp_ h3;rw [n_0 u3] at hr;refine j4 ?_;refine a8v ?_;exact ⟨(i+1,br,ms,me),[0,1,2,3,4],⟨do_,do_,do_,gi.mono om_,hr⟩,⟨rfl,rfl⟩,ut_,⟨.inr ⟨_,rfl,.same rfl Q4⟩,.inr ⟨_,rfl,.same rfl (Y9 _ _)⟩,.inr ⟨_,rfl,.same rfl (a0v _ _)⟩,.inr ⟨_,rfl,.box ⟨.old a3y,.old (.val _),.map rfl,C7.grow (f:=scv) (fun _=>⟨.val _,tt⟩) rfl,.map rfl,tt⟩⟩,.inr ⟨_,rfl,.same rfl B8⟩,tt⟩⟩
   ·have u3:a4l y.p=true:=sp_ h3;rw [n_1 u3] at hr;refine b0B ?_;refine cY b1y ?_;refine cY Q3 ?_;refine de rfl Tryz.call102 ⟨tt,tt⟩ (d0f y.b om_ _) rfl ?_;rintro ⟨x,at_,e⟩ hP;dsimp only at hP ⊢;refine b11 ?_;refine cY a9o ?_;refine cD (p8 rfl a3V rfl j6 ?_);refine cD (j2 rfl tt tt rfl j3 a3w j6 rfl rfl (nb rfl) ?_);refine cY a1b ?_;refine b09 ?_;refine a9e ?_;refine cC ?_ ?_<;>intro h4
    ·have he:e≠0:=sp_ h4;have cm:Q0 y.b=none:=by
      rcases hP with ⟨_,_,g⟩ | ⟨g,_⟩
      ·exact absurd g he
      ·exact g
     rw [cm] at hr;simp only at hr;have eK:=V8 br y.p;refine F9 ?_;refine cF [] [0,1,2,3,4,5,6,7] (tl:=[(8,[0]),(9,[]),(10,[]),(11,[])]) ?_;refine a6Y ?_;refine chf rfl b7x ?_;refine chf rfl (c8 rfl (j5 rfl tt rfl c0h rfl a2j de_)) ?_;refine chf rfl d1l ?_;refine b3x ?_;refine chf rfl e0J ?_;refine D9 ?_;refine B1 rfl rfl rfl (A7 rfl tt tt rfl si_ q_2 t_2 t_0 a32 t_3 rfl (.inr rfl) q_7 a3Z C1 ((br++[y.p]).map scv) (br++[y.p]).length si_ si_ ?_);refine c9Z ?_;refine F2 rfl rfl (c8 rfl (j5 rfl tt rfl c0h rfl a2j de_)) ⟨tt,?_⟩;refine B1 rfl rfl rfl (j2 rfl tt tt rfl j3 a2j (.inl rfl) rfl rfl (nb rfl) ?_);refine a8A ?_;refine j4 ?_;refine a8v ?_;exact ⟨(i+1,br++[y.p],ms,me),[0,1,2,3,7],⟨do_,do_,do_,gi.mono om_,hr⟩,⟨rfl,rfl⟩,ut_,⟨.inr ⟨_,rfl,.same rfl Q4⟩,.inr ⟨_,rfl,.same rfl (Y9 _ _)⟩,.inr ⟨_,rfl,.same rfl (a0v _ _)⟩,.inr ⟨_,rfl,.box ⟨.old a3y,.old (.val _),.map rfl,C7.grow (f:=scv) (fun _=>⟨.val _,tt⟩) rfl,.map rfl,tt⟩⟩,.inr ⟨_,rfl,.same rfl B8⟩,tt⟩⟩
    ·have he:e=0:=sp_ h4;have cm:Q0 y.b=some x:=by
      rcases hP with ⟨g,_⟩ | ⟨_,_,g⟩
      ·exact g
      ·exact absurd he g
     rw [cm] at hr;simp only at hr;have eI:=c0k cm;refine b5Q ?_;refine cW 7 ?_;refine a5g ?_;refine hY b7N ?_;refine hY b8J ?_;refine hY b1y ?_;refine hY Q3 ?_;refine hY b80 ?_;refine a6P ?_;refine cD (o3 (vc:=vcS) (l:=ms) (a:=y.p) (b:=x) b9m (.inl rfl) tt tt trivial rfl rfl rfl b7k rfl ?_);refine a7y ?_;refine cY b9I ?_;refine cY b9M ?_;refine cY a4z ?_;refine a73 ?_;refine A6 hCC 7 rfl (α:=Nat × EM) (fun z=>[(3,.ptr 3 0),(26,(.list (fl.map Fi.cv) nn none)),(27,iv fl.length),(28,iv i),(5,.ptr 5 0),(6,.ptr 6 0),(64,(.list (x.decls.map De.cv) (gnn x.decls.length) none)),(65,iv x.decls.length),(66,iv z.1)]) (fun z=>[.box (r8 fl nn),smO (U4 ms y.p x),emO z.2,wbx fl nn (B4 fl == 0) br 1 2 4,o8 br.length,.box y.cells,.box x.cells]) (fun z=>z.1<=x.decls.length/\CtB (64*i+z.1) z.2/\addDs me y.p x.pkg x.decls 0=addDs z.2 y.p x.pkg (x.decls.drop z.1) z.1) (fun z=>x.decls.length - z.1) ⟨(0,me),[0,1,2,3,4,5,6],⟨n_4 _,gi,rfl⟩,⟨rfl,rfl⟩,ut_,⟨.inr ⟨_,rfl,.same rfl Q4⟩,.inr ⟨_,rfl,.same rfl (Y9 _ _)⟩,.inr ⟨_,rfl,.same rfl (a0v _ _)⟩,.inr ⟨_,rfl,.box ⟨.old a3y,.old (.val _),.map rfl,C7.grow (f:=scv) (fun _=>⟨.val _,tt⟩) rfl,.map rfl,tt⟩⟩,.inr ⟨_,rfl,.same rfl B8⟩,.inr ⟨_,rfl,.same rfl b00⟩,.inr ⟨_,rfl,.same rfl (u0 ⟨.val _,A5 _ _ _,Q7 _ _ _,tt⟩)⟩,tt⟩⟩ ?_;intro ⟨k,me2⟩ ⟨hk,hct2,aV⟩;dsimp only at hk hct2 aV ⊢;refine a7j ?_;refine cC ?_ ?_<;>intro h5
     ·have hkt:(k:Int) < x.decls.length:=sp_ h5;obtain ⟨d,hd⟩:=gx_ x.decls k;rw [a64 hd] at aV;refine a4X ?_;refine z_4 ?_;refine cY a9u ?_;refine cY c8E ?_;refine cD (p8 rfl a9K rfl j6 ?_);refine cY a1b ?_;refine c6U ?_;refine a6R ?_;refine cY c3N ?_;refine cY Q3 ?_;refine cY b0I ?_;refine cY Q3 ?_;refine b7E ?_;refine cY b1y ?_;refine cY Q3 ?_;refine cY B2 ?_;refine cY (B3 #[(0,1),(1,1),(2,1),(3,1),(4,1),(5,1)] rfl ⟨tt,tt,tt,tt,tt,rfl,tt⟩ b6Q a9Y rfl ⟨_,rfl⟩ (fun w=>by kernel_rfl) rfl rfl) ?_;refine de rfl Tryz.call103 j1 (c9c (w:=3) (q1:=1) (q2:=2) (t:=4) ⟨rfl,rfl,rfl,rfl,b2c de_⟩ ⟨x.pkg,d.name,d.k,y.p,(k:Int),1⟩ (fun a b h=>by have:=hct2 a b h;omega)) rfl ?_;rintro _ _;refine K3 [.box (r8 fl nn),smO (U4 ms y.p x),emO (a2I me2 ⟨x.pkg,d.name,d.k,y.p,(k:Int),1⟩),wbx fl nn (B4 fl == 0) br 1 2 4,o8 br.length,.box y.cells,.box x.cells,.box d.cells] rfl ?_;refine x9 ?_;refine a8v ?_;exact ⟨(k+1,a2I me2 ⟨x.pkg,d.name,d.k,y.p,(k:Int),1⟩),[0,1,2,3,4,5,6],⟨do_,do_,(hct2.add rfl).mono om_,aV⟩,⟨rfl,rfl⟩,ut_,⟨.inr ⟨_,rfl,.same rfl Q4⟩,.inr ⟨_,rfl,.same rfl (Y9 _ _)⟩,.inr ⟨_,rfl,.same rfl (a0v _ _)⟩,.inr ⟨_,rfl,.box ⟨.old a3y,.old (.val _),.map rfl,C7.grow (f:=scv) (fun _=>⟨.val _,tt⟩) rfl,.map rfl,tt⟩⟩,.inr ⟨_,rfl,.same rfl B8⟩,.inr ⟨_,rfl,.same rfl b00⟩,.inr ⟨_,rfl,.same rfl (u0 ⟨.val _,A5 _ _ _,Q7 _ _ _,tt⟩)⟩,tt⟩⟩
     ·have hkt:x.decls.length<=k:=sm_ h5;rw [V2 hkt,addDs] at aV;refine j4 ?_;refine a8v ?_;exact ⟨(i+1,br,U4 ms y.p x,me2),[0,1,2,3,4],⟨do_,do_,do_,hct2.mono om_,by rw [hr,aV]⟩,⟨rfl,rfl⟩,ut_,⟨.inr ⟨_,rfl,.same rfl Q4⟩,.inr ⟨_,rfl,.same rfl (Y9 _ _)⟩,.inr ⟨_,rfl,.same rfl (a0v _ _)⟩,.inr ⟨_,rfl,.box ⟨.old a3y,.old (.val _),.map rfl,C7.grow (f:=scv) (fun _=>⟨.val _,tt⟩) rfl,.map rfl,tt⟩⟩,.inr ⟨_,rfl,.same rfl B8⟩,tt⟩⟩
  ·have aE:fl.length<=i:=sm_ h2;rw [V2 aE,a8F,List.foldl_nil] at hr;refine j4 ?_;refine z_4 ?_;refine a1O ?_;exact ⟨_,rE1,(by rw [hr];exact ⟨[3,1,2,4],rfl,rfl,.ret (.ptr rfl),.inr ⟨_,rfl,.box ⟨.old a3y,.old (.val _),.map rfl,C7.grow (f:=scv) (fun _=>⟨.val _,tt⟩) rfl,.map rfl,tt⟩⟩,.inr ⟨_,rfl,.same rfl (Y9 _ _)⟩,.inr ⟨_,rfl,.same rfl (a0v _ _)⟩,.inr ⟨_,rfl,.same rfl B8⟩,tt⟩)⟩
abbrev e0n (fl:List Fi) (nn va:Bool) (br:List Str) (ms:SM) (me:EM) (n:Nat):List b9:=[wbx fl nn va br (n+1) (n+2) (n+3),smO ms,emO me,o8 br.length]
theorem c64 (fl:List Fi) (nn:Bool) (hl:∀ f∈fl,f.p.length<=1000000000) (σ:List b9):b8 CC 56 [.agg (r8 fl nn)] σ fun r τ=>∃ _:Unit,r = .ret (.ptr σ.length 0)/\τ=σ++e0n fl nn (B4 fl == 0) (A2 fl).1 (A2 fl).2.1 (A2 fl).2.2 σ.length/\True :=
 a1L (α:=Unit) hCC (fun a ha=>by simp at ha;subst ha;exact r6 ⟨J2 _ _,tt⟩) (res:=fun _=>.ret (.ptr 0 0)) (res':=fun _ n=>.ret (.ptr n 0)) (S:=fun _=>wst fl nn (B4 fl == 0) (A2 fl).1 (A2 fl).2.1 (A2 fl).2.2) (S':=fun _ n=>e0n fl nn (B4 fl == 0) (A2 fl).1 (A2 fl).2.1 (A2 fl).2.2 n) (P:=fun _=>True) (I5 hCC ((d2f fl nn hl).mono fun r τ h=>⟨_,_,h,(),rfl,rfl,tt⟩)) (fun _ _=>rfl) (fun _ n i x h=>by
  rcases i with _ | _ | _ | _ | i
  ·injection h with h;subst h;exact ⟨_,rfl,b0a rfl rfl rfl⟩
  ·injection h with h;subst h;exact ⟨_,rfl,a6W a52 a3s _⟩
  ·injection h with h;subst h;exact ⟨_,rfl,a6W Nm.pure En.pure _⟩
  ·injection h with h;subst h;exact ⟨_,rfl,a0p _⟩
  ·cases h) (fun _ n=>.ret (.ptr rfl)) σ
theorem b5e:∀ a:Str,Op.bytesLess a a=false
 | []=>rfl
 | x::a=>by simp [Op.bytesLess,b5e a]
theorem a7a:∀ {a b c:Str},Op.bytesLess a b=true->Op.bytesLess b c=true->Op.bytesLess a c=true
 | [],[],_,h,_=>by cases h
 | [],_::_,[],_,h=>by cases h
 | [],_::_,_::_,_,_=>rfl
 | _::_,[],_,h,_=>by cases h
 | _::_,_::_,[],_,h=>by cases h
 | x::a,y::b,z::c,h1,h2=>by
  simp only [Op.bytesLess,a8j,a1v,U6,beq_iff_eq] at h1 h2 ⊢
  rcases h1 with h1 | ⟨h1,eF⟩<;>rcases h2 with h2 | ⟨h2,dC⟩
  ·exact .inl (UInt8.lt_trans h1 h2)
  ·exact .inl (h2 ▸ h1)
  ·exact .inl (h1 ▸ h2)
  ·exact .inr ⟨h1.trans h2,a7a eF dC⟩
theorem c8B:∀ {a b:Str},Op.bytesLess a b=false->a≠b->Op.bytesLess b a=true
 | [],[],_,h=>absurd rfl h
 | [],_::_,h,_=>by cases h
 | _::_,[],_,_=>rfl
 | x::a,y::b,h1,h2=>by
  simp only [Op.bytesLess,b6f,b2R,Bool.and_eq_false_iff,beq_eq_false_iff_ne,a8j,a1v,U6,beq_iff_eq] at h1 ⊢;by_cases hxy:x=y
  ·subst hxy;refine .inr ⟨rfl,c8B (h1.2.resolve_left fun h=>h rfl) fun h=>h2 (by rw [h])⟩
  ·have:=h1.1;exact .inl (by
    rcases Nat.lt_or_gt_of_ne (fun h=>hxy (b66.1 h):x.toNat≠y.toNat) with h | h
    ·exact absurd (b6i.2 h) this
    ·exact b6i.2 h)
def c5L (l:List Fi):Prop:=l.Pairwise fun f g=>Op.bytesLess f.p g.p=true
def I9:List Str:=([[97,46,115,114,99],[98,46,115,114,99],[100,47,99,46,115,114,99],[120,46,115,114,99]]:List Str)
theorem a72  (σ:List b9):b8 CC 66 [] σ fun r Y=>r = .ret (.list (I9.map scv) true none)/\Y=σ:=by
 refine b8.anyw hCC pu_ pu_ (c7 (qO Tryz.func66 ?_)) σ;refine qY (A8 (I9.map scv) rfl ⟨rfl,rfl,rfl,rfl,tt⟩ t_2 t_0 t_3 rfl rfl rfl rfl rfl rfl rfl rfl rfl) ?_;refine c6 ?_;exact ⟨_,rE1,_,_,rfl,rfl,U2 rfl pu_⟩
theorem b1e (l:List Str) (nn:Bool) (s:Str) (hl:l.length<=1000000000) (σ:List b9):b8 CC 120 [(.list (l.map scv) nn none),(sv s)] σ fun r Y=>r = .ret (.val (.bool (decide (s∈l))))/\Y=σ:=by
 refine b8.anyw hCC pu_ pu_ (c7 (qO Tryz.func120 ?_)) σ;refine j7 hCC (fun i:Nat=>[(0,(.list (l.map scv) nn none)),(1,(sv s)),(5,iv i)]) (fun _=>[]) (fun i=>i<=l.length/\decide (s∈l)=decide (s∈l.drop i)) (fun i=>l.length - i) 0 ⟨n_4 _,rfl⟩ tu_ (ah:=[]) rfl z6 uz_ ?_;intro i ⟨hi,hr⟩;refine b23 ?_;refine qC ?_ ?_<;>intro h1
 ·have ab:i < l.length:=sm_ h1;obtain ⟨y,hb⟩:∃ y,l[i]? = some y:=⟨l[i]'ab,si_⟩;have hdr:l.drop i=y::l.drop (i+1):=by
   obtain ⟨ab,rfl⟩:=n_3.1 hb;exact R2 ab
  rw [hdr] at hr;refine b3f ?_;refine qC ?_ ?_<;>intro h2
  ·have hys:y=s:=sp_ h2;refine c6 ?_;exact ⟨_,rE1,_,_,rfl,rfl,j8 (by rw [hr,hys];simp)⟩
  ·have hys:¬ y=s:=sp_ h2;refine qY l9 ?_;exact ⟨(i+1),_,⟨om_,om_,by
    rw [hr];have:(s=y)=False:=by simpa using fun h=>hys h.symm
    simp [this]⟩,tu_,rfl⟩
 ·have aE:l.length<=i:=sm_ h1;rw [V2 aE] at hr;refine z_9 ?_;exact ⟨_,rE1,_,_,rfl,rfl,j8 c2S⟩
def a5f (n:Nat):Str:=if h:n < 10 then [UInt8.ofNat (48+n)] else a5f (n / 10)++[UInt8.ofNat (48+n%10)]
termination_by n
decreasing_by omega
theorem a7B (h:n < 10):a5f n=[UInt8.ofNat (48+n)]:=by rw [a5f,dif_pos h]
theorem d2Q (h:¬ n < 10):a5f n=a5f (n / 10)++a5f (n%10):=by rw [a5f,dif_neg h,a7B (a5m _ om_)]
theorem a17:∀ (m n:Nat),n < 10^(m+1)->(a5f n).length<=m+1
 | 0,n,h=>by rw [a7B (sp_ h)];simp
 | m+1,n,h=>by
  by_cases hn:n < 10
  ·rw [a7B hn];simp
  ·rw [a5f,dif_neg hn,n_6];have:=a17 m (n / 10) (by rw [Nat.div_lt_iff_lt_mul om_];rw [Nat.pow_succ] at h;exact h);simp only [C5,I8];omega
theorem e1a:∀ n:Nat,n < 10->(([48,49,50,51,52,53,54,55,56,57]:Str).take (n+1)).drop n=[UInt8.ofNat (48+n)]:=by decide
theorem a7b (h:b8 CC 72 [iv n] [] fun r Y=>r = .ret (sv (a5f n))/\Y=[]) (σ:List b9):b8 CC 72 [iv n] σ fun r Y=>r = .ret (sv (a5f n))/\Y=σ :=
 b8.anyw hCC pu_ pu_ h σ
theorem b8j (n:Nat) (hn:n<=4611686018427387904) (σ:List b9):b8 CC 72 [iv n] σ fun r Y=>r = .ret (sv (a5f n))/\Y=σ:=by
 refine b8.anyw hCC pu_ pu_ ?_ σ
 induction n using Nat.strongRecOn
 rename_i n ih;refine c7 (qO Tryz.func72 ?_);refine qC ?_ ?_<;>intro h1
 ·have hn9:n < 10:=sm_ h1;refine qY l9 ?_;refine qY q_3 ?_;refine c6 ?_;exact ⟨_,rE1,_,_,rfl,rfl,D8 (by rw [a7B hn9];exact n_8 str (e1a n hn9))⟩
 ·have hn9:¬ n < 10:=sm_ h1;have hd:Int.tdiv (n:Int) 10=((n / 10:Nat):Int):=by rfl
  have hm:Int.tmod (n:Int) 10=((n%10:Nat):Int):=by rfl
  have g1:=a17 18 (n / 10) om_;have g2:=a17 18 (n%10) om_;have e1:IntKind.i64.wrap ((n:Int).tdiv 10)=((n / 10:Nat):Int):=by rw [hd];exact a95 om_ om_
  have e2:(n:Int).tmod 10=((n%10:Nat):Int):=by exact hm
  refine qY (a0M rfl tt rfl rfl rfl (rfl)) ?_;refine qY (c5 rfl d1Z ⟨tt,tt⟩ (by have h:=a7b (ih (n / 10) om_ om_) [];rw [<- e1] at h;exact h) rfl) ?_;refine qY (a0M rfl tt rfl rfl rfl (rfl)) ?_;refine qY (c5 rfl d1Z ⟨tt,tt⟩ (by have h:=a7b (ih (n%10) om_ om_) [];rw [<- e2] at h;exact h) rfl) ?_;refine qY a1W ?_;refine c6 ?_;exact ⟨_,rE1,_,_,rfl,rfl,D8 (n_8 str (d2Q hn9).symm)⟩
end Go.Proofs.YtlppbmfecjabeaaGreatDoor
namespace Go.Proofs
open Go.Shelf
def Tryz.sortKey_ren:Go.Shelf.Ren:=⟨fun | 6=>127 | 15=>166 | 14=>165 | 28=>216 | 29=>217 | 20=>208 | 21=>209 | 22=>210 | 23=>211 | 24=>212 | 25=>213 | 26=>214 | 27=>215 | 46=>264 | 47=>265 | 48=>266 | 49=>267 | 50=>268 | 57=>299 | n=>n,fun | 22=>36 | 24=>39 | 25=>171 | 3=>3 | 39=>141 | 0=>0 | 53=>262 | 55=>86 | 4=>4 | 46=>256 | 45=>255 | 50=>139 | 5=>5 | 9=>9 | 66=>292 | 70=>296 | 76=>320 | 77=>321 | n=>n,fun | n=>n⟩
theorem Tryz.sortKey:Go.Proofs.SlLaysF0.n6 Tryz.prog Tryz.sortKey_ren:={
 mixed:=by kernel_rfl
 f6:=⟨Tryz.f127.name,de_,Tryz.func127.trans (n_8 some o7)⟩
 f14:=⟨Tryz.f165.name,de_,Tryz.func165.trans (n_8 some o7)⟩
 f15:=Tryz.func166.trans (n_8 some o7)
 f20:=⟨Tryz.f208.name,de_,Tryz.func208.trans (n_8 some o7)⟩
 f21:=⟨Tryz.f209.name,de_,Tryz.func209.trans (n_8 some o7)⟩
 f22:=⟨Tryz.f210.name,de_,Tryz.func210.trans (n_8 some o7)⟩
 f23:=⟨Tryz.f211.name,de_,Tryz.func211.trans (n_8 some o7)⟩
 f24:=⟨Tryz.f212.name,de_,Tryz.func212.trans (n_8 some o7)⟩
 f25:=⟨Tryz.f213.name,de_,Tryz.func213.trans (n_8 some o7)⟩
 f26:=⟨Tryz.f214.name,de_,Tryz.func214.trans (n_8 some o7)⟩
 f27:=⟨Tryz.f215.name,de_,Tryz.func215.trans (n_8 some o7)⟩
 f28:=Tryz.func216.trans (n_8 some o7)
 f29:=c9Y.trans (n_8 some o7)
 f46:=⟨Tryz.f264.name,de_,Tryz.func264.trans (n_8 some o7)⟩
 f47:=Tryz.func265.trans (n_8 some o7)
 f48:=Tryz.func266.trans (n_8 some o7)
 f49:=⟨Tryz.f267.name,de_,Tryz.func267.trans (n_8 some o7)⟩
 f50:=⟨Tryz.f268.name,de_,Tryz.func268.trans (n_8 some o7)⟩
 f57:=⟨Tryz.f299.name,de_,Tryz.func299.trans (n_8 some o7)⟩
 t0:=c98
 a0:=d1L
 z0:=c7K
 v0:=c9D
 t3:=b7L
 a3:=a2l
 z3:=t_1
 v3:=t_8
 t4:=c8Z
 a4:=c3c
 z4:=c1U
 v4:=c6z
 t5:=d1G
 a5:=c8w
 z5:=a1w
 v5:=a4d
 t9:=b9r
 a9:=t_9
 z9:=t_0
 v9:=t_3
 t22:=c6N
 a22:=Tryz.isAgg36
 z22:=c9t
 v22:=c1E
 t25:=Tryz.underlying171
 a25:=Tryz.isAgg171
 z25:=Tryz.sizeOf171
 v25:=Tryz.zeroValue171
 t39:=c91
 a39:=c9x
 z39:=c66
 v39:=c7x
 t45:=Tryz.underlying255
 a45:=Tryz.isAgg255
 z45:=Tryz.sizeOf255
 v45:=Tryz.zeroValue255
 t46:=Tryz.underlying256
 a46:=Tryz.isAgg256
 z46:=Tryz.sizeOf256
 v46:=Tryz.zeroValue256
 t50:=Tryz.underlying139
 a50:=Tryz.isAgg139
 z50:=Tryz.sizeOf139
 v50:=Tryz.zeroValue139
 t53:=c6G
 a53:=c8I
 z53:=c7I
 v53:=c9W
 t55:=c7t
 a55:=c8O
 z55:=d0g
 v55:=d0V
 t66:=Tryz.underlying292
 a66:=Tryz.isAgg292
 z66:=Tryz.sizeOf292
 v66:=Tryz.zeroValue292
 t70:=Tryz.underlying296
 a70:=Tryz.isAgg296
 z70:=Tryz.sizeOf296
 v70:=Tryz.zeroValue296
 t76:=Tryz.underlying320
 a76:=Tryz.isAgg320
 z76:=Tryz.sizeOf320
 v76:=Tryz.zeroValue320
 t77:=Tryz.underlying321
 a77:=Tryz.isAgg321
 z77:=Tryz.sizeOf321
 v77:=Tryz.zeroValue321}
end Go.Proofs
namespace Go.Proofs.YtlppbmfecjabeaaGreatDoor
open Go Go.Cl
variable {e at_ e2 k:Int} {T:List Tok} {n s q:Nat} {b:List Ex} {ps:List Str} {σ τ:List b9} {α:Type} {c:CV} {x y:Ky} {f:FuncId} {args:List CV} {u:Str} {R:Nat->Nat->Prop} {N:α->Nat} {A E:α->Int} {P:α->Prop}
instance:Inhabited Ky:=⟨⟨0,[],[]⟩⟩
abbrev d4w (x:Ky):List Value:=[.int .i64 x.k,.string (str x.a),.string (str x.b)]
theorem b5M {a b:Str}:Op.bytesLess a b=true↔Go.Lib.compareBytes a b = -1:=by rw [d6Y];simp
theorem b9K {a b c:Str} (h:Go.Lib.compareBytes a b = -1) (k:Go.Lib.compareBytes b c = -1):Go.Lib.compareBytes a c = -1:=b5M.1 (a7a (b5M.2 h) (b5M.2 k))
theorem d4e {a b:Int}:a2n a b = -1↔a < b:=by unfold a2n;split<;>(try split)<;>omega
theorem d2t:Z7 x y = -1↔x.k < y.k\/(x.k=y.k/\(Go.Lib.compareBytes x.a y.a = -1\/(x.a=y.a/\Go.Lib.compareBytes x.b y.b = -1))):=by
 unfold Z7;by_cases h1:a2n x.k y.k=0
 ·have e1:=(b5w _ _).1 h1;rw [n_0 (by simp [h1])];by_cases h2:Go.Lib.compareBytes x.a y.a=0
  ·have e2:=(b7B _ _).1 h2;rw [n_0 (by simp [h2])];constructor
   ·intro h;exact .inr ⟨e1,.inr ⟨e2,h⟩⟩
   ·rintro (h | ⟨-,h | ⟨-,h⟩⟩)
    ·omega
    ·omega
    ·exact h
  ·rw [n_1 h2];constructor
   ·intro h;exact .inr ⟨e1,.inl h⟩
   ·rintro (h | ⟨-,h | ⟨h,-⟩⟩)
    ·omega
    ·exact h
    ·exact absurd ((b7B _ _).2 h) h2
 ·rw [n_1 h1,d4e];constructor
  ·intro h;exact .inl h
  ·rintro (h | ⟨h,-⟩)
   ·exact h
   ·exact absurd ((b5w _ _).2 h) h1
theorem c0E {z:Ky} (h:Z7 x y = -1) (k:Z7 y z = -1):Z7 x z = -1:=by
 rw [d2t] at *
 rcases h with h | ⟨h1,h | ⟨h2,h⟩⟩<;>rcases k with k | ⟨k1,k | ⟨k2,k⟩⟩
 ·exact .inl om_
 ·exact .inl om_
 ·exact .inl om_
 ·exact .inl om_
 ·exact .inr ⟨om_,.inl (b9K h k)⟩
 ·exact .inr ⟨om_,.inl (k2 ▸ h)⟩
 ·exact .inl om_
 ·exact .inr ⟨om_,.inl (h2 ▸ k)⟩
 ·exact .inr ⟨om_,.inr ⟨h2.trans k2,b9K h k⟩⟩
theorem a5l (x y:Ky):Go.Proofs.ltOf Z7 x y=ltK x y:=by
 unfold Go.Proofs.ltOf ltK
 rcases b1E x y with h | h | h<;>simp [h]
theorem a2Y {z:Ky} (h:ltK x y=true) (k:ltK y z=true):ltK x z=true:=by
 simp only [ltK,a1v] at *;exact c0E h k
theorem a7P (h:ltK x y=false) (k:ltK y x=false):x=y:=by
 rw [c77] at k;simp only [ltK,b2R] at h k
 rcases b1E x y with e | e | e
 ·exact absurd e h
 ·exact (b5J x y).1 e
 ·exact absurd e k
theorem a99 (x:Ky):ltK x x=false:=by simp [ltK,(b5J x x).2 rfl]
theorem d6r:Go.Sort.SWO (Go.Proofs.ltOf Z7) where
 irrefl x:=by rw [a5l];exact a99 x
 trans x y z h k:=by rw [a5l] at *;exact a2Y h k
 ntrans x y z h k:=by
  rw [a5l] at *;cases h2:ltK x z
  ·rfl
  ·cases h3:ltK y x
   ·have:=a7P h h3;subst this;exact h2.symm.trans k
   ·exact (a2Y h3 h2).symm.trans k
theorem c41:∀ g cells,CC.glob g=some cells->∀ c∈cells,∃ v,c=CV.val v:=fun g cells h c hc=>by
 have:cells=b90:=by
  simp only [CC] at h;split at h
  ·exact (Option.some.inj h).symm
  ·cases h
 subst this;obtain ⟨z,_,rfl⟩:=F4.1 hc;exact ⟨_,rfl⟩
theorem b8c {k:Nat} {l:List Ky} (az:l≠[]) (aj:l.length<=1000000) (hk:σ[k]? = some (.vec 3 (l.map Ky.cv))):b8 CC 127 [.vec k 0 l.length,.val (.func (.func 128) #[] #[])] σ fun r τ=>∃ _:Unit,r = .ret (.tup [])/\τ=σ.set k (.vec 3 ((b1k Z7 l).map Ky.cv))/\True :=
 (c4m (C:=CC) (f:=127) (g:=128) (enc:=d4w) (s:=3) (cf:=Z7) om_ a0B (fun x v hv=>by simp [d4w] at hv;rcases hv with rfl | rfl | rfl<;>rfl)
  (fun blk off cap d w h1 h2 h3 h4=>Go.Proofs.AnyQ.slices_SortFunc_total Tryz.sortKey 3 b1F t_5 d4w a0B (fun x v hv=>by simp [d4w] at hv;rcases hv with rfl | rfl | rfl<;>rfl) Z7 d6r 128 #[] blk off cap d w Tryz.call128 h1 h2 h3 h4 (fun x y e1 e2=>by rw [a5l] at e1 e2;exact a7P e1 e2))
  (fun x y=>c0i x y) c41 az om_ hk).mono fun r τ h=>⟨(),h.1,h.2,tt⟩
theorem a6T (l:List Fi) (nn:Bool) (σ:List b9):b8 CC 52 [.agg (r8 l nn)] σ fun r Y=>r = .ret (iv (B4 l))/\Y=σ:=by
 refine b8.anyw hCC pu_ pu_ (c7 (qO Tryz.func52 ?_)) σ;refine qD (G8 rfl tt j3 j6 ?_);refine qY a0I ?_;refine qC ?_ ?_<;>intro h1
 ·have aj:64 < l.length:=sm_ h1;exact d5W
 ·have aj:¬ 64 < l.length:=sm_ h1;refine qY a0I ?_;refine j7 hCC (α:=Nat) (fun i=>[(1,.ptr 0 0),(10,(.list (l.map Fi.cv) nn none)),(11,iv l.length),(12,iv i)]) (fun _=>[.box (r8 l nn)]) (fun i=>i<=l.length/\B4 l=rvE (prv l i) (l.drop i)) (fun i=>l.length - i) 0 ⟨n_4 _,by rw [B4,n_0 aj];rfl⟩ tu_ (ah:=[]) rfl z6 uz_ ?_;intro i ⟨hi,hr⟩;refine qk (qC ?_ ?_)<;> intro h2
  ·have ab:(i:Int) < l.length:=sp_ h2;obtain ⟨y,hb⟩:=gx_ l i;obtain ⟨p,hp⟩:=b5c (l:=l) (i:=i) om_;have fH:0 < i->l[i - 1]? = some p:=fun h=>(hp h).2;rw [b57 hb] at hr;refine b8L ?_;refine qY (c5 rfl c5N ⟨tt,tt⟩ (a1E y.p _) rfl) ?_;refine qC ?_ ?_<;>intro h3
   ·have u3:H3 y.p=false:=sp_ h3;have us:J0 (prv l i) y=6:=by rw [J0,n_1 u3]
    rw [us] at hr;exact b8u
   ·have u3:¬ H3 y.p=false:=sp_ h3;refine cW 14 ?_;refine b8i ?_;refine hY B2 ?_;refine c2O ?_;refine c3E ?_;refine c8V ?_;refine c2X ?_;refine U3 rfl rfl tt rfl b0D ?_;refine hY M7 ?_;refine X2 ?_;refine qC ?_ ?_<;>intro h4
    ·have u4:((prv l i).any fun g=>decide (y.p=g.p))=true:=by rw [Y5 fH];exact h4
     have us:J0 (prv l i) y=10:=by rw [J0,n_0 u3,n_1 u4]
     rw [us] at hr;exact b8u
    ·have u4:¬ ((prv l i).any fun g=>decide (y.p=g.p))=true:=by rw [Y5 fH];simpa using h4
     refine cW 14 ?_;refine b8i ?_;refine hY B2 ?_;refine c2O ?_;refine c3E ?_;refine c8V ?_;refine c2X ?_;refine d0N ?_;refine X2 ?_;refine qC ?_ ?_<;>intro h5
     ·have u5:((prv l i).any fun g=>Op.bytesLess y.p g.p)=true:=by rw [Y5 fH];exact h5
      have us:J0 (prv l i) y=6:=by rw [J0,n_0 u3,n_0 u4,n_1 u5]
      rw [us] at hr;exact b8u
     ·have u5:¬ ((prv l i).any fun g=>Op.bytesLess y.p g.p)=true:=by rw [Y5 fH];simpa using h5
      refine qY Q2 ?_;refine qC ?_ ?_<;>intro h6
      ·have u6:16384 < y.b.length:=sm_ h6;have us:J0 (prv l i) y=2:=by rw [J0,n_0 u3,n_0 u4,n_0 u5,n_1 u6]
       rw [us] at hr;exact b8u
      ·have u6:¬ 16384 < y.b.length:=sm_ h6;have us:J0 (prv l i) y=0:=by rw [J0,n_0 u3,n_0 u4,n_0 u5,n_0 u6]
       rw [us,n_1 rfl] at hr;exact b1Y
  ·refine z_9 ?_;exact ⟨_,rE1,_,_,rfl,rfl,D2 c9d⟩
theorem c4o (s:Str):((H3 s && decide ((s.length:Int) > 4)) && decide (((s.take s.length).drop (s.length - 4))=[46,115,114,99]))=a4l s:=by
 rw [a4l,b0w,a57];by_cases h:(s.length:Int) > 4
 ·have h4:([46,115,114,99]:Str).length=4:=rfl;have h5:decide ((4:Nat)<=s.length)=true:=a2a om_;rw [c0M,h4,h5,b7e]
 ·rw [a2f h];rfl
theorem b2V (s:Str) (hs:s.length<=1000000000) (σ:List b9):b8 CC 24 [(sv s)] σ fun r Y=>r = .ret (.val (.bool (a4l s)))/\Y=σ:=by
 refine b8.anyw hCC pu_ pu_ (c7 (qO Tryz.func24 ?_)) σ;refine qY (c5 rfl c5N ⟨tt,tt⟩ (a1E s _) rfl) ?_;refine a7I ?_;refine a3G ?_;refine a2Q ?_;refine qG c3q ?_;refine qG d2u ?_;refine qG (fun hg=>K8 (a:=(s.length - 4)) rfl hg rfl t_7 ⟨hg,_,_,rfl,by first|omega|(simp at hg;omega),by first|omega|(simp at hg;omega)⟩ rfl (sm_ hg) (sm_ hg)) ?_;refine d2U ?_;refine c6 ?_;exact ⟨_,rE1,_,_,rfl,rfl,j8 (c4o _)⟩
theorem a8J (l:List Fi) (nn:Bool) (p:Str) (hl:l.length<=1000000) (σ:List b9):b8 CC 87 [.agg (r8 l nn),(sv p)] σ fun r Y=>r = .ret (.tup [sv ((if B4 l=0 then C0 l p else none).getD []),.val (.bool (if B4 l=0 then C0 l p else none).isSome)])/\Y=σ:=by
 refine b8.anyw hCC pu_ pu_ (c7 (qO Tryz.func87 ?_)) σ;refine qD (G8 rfl tt j3 j6 ?_);refine qY (c5 rfl c73 ⟨tt,tt⟩ (a6T l nn _) rfl) ?_;refine qC ?_ ?_<;>intro h1
 ·have h0:¬ B4 l=0:=sp_ h1;refine c6 ?_;exact ⟨_,r9 (rs:=[.tmp 4,.tmp 5]) (cs:=[_,_]) rfl R4 (n_5 rfl),_,_,rfl,rfl,(by rw [n_0 h0];exact .tups ⟨.old (.val _),.old (.val _),tt⟩)⟩
 ·have h0:B4 l=0:=sp_ h1;refine qY a0I ?_;refine j7 hCC (α:=Nat) (fun i=>[(1,(sv p)),(12,(.list (l.map Fi.cv) nn none)),(13,iv l.length),(14,iv i)]) (fun _=>[.box (r8 l nn)]) (fun i=>i<=l.length/\C0 l p=C0 (l.drop i) p) (fun i=>l.length - i) 0 ⟨n_4 _,rfl⟩ tu_ (ah:=[]) rfl z6 uz_ ?_;intro i ⟨hi,hr⟩;refine qk (qC ?_ ?_)<;> intro h2
  ·have ab:(i:Int) < l.length:=sp_ h2;obtain ⟨y,hb⟩:=gx_ l i;rw [b0X hb] at hr;refine b4w ?_;refine qC ?_ ?_<;>intro h3
   ·have u2:y.p=p:=sp_ h3;rw [n_1 u2] at hr;refine c6 ?_;exact ⟨_,r9 (rs:=[.tmp 4,.tmp 5]) (cs:=[_,_]) rfl R4 (n_5 rfl),_,_,rfl,rfl,(by rw [n_1 h0,hr];exact .tups ⟨.old (.val _),.old (.val _),tt⟩)⟩
   ·have u2:¬ y.p=p:=sp_ h3;rw [n_0 u2] at hr;exact b1Y
  ·have aE:l.length<=i:=sm_ h2;rw [V2 aE] at hr;refine z_9 ?_;exact ⟨_,r9 (rs:=[.tmp 4,.tmp 5]) (cs:=[_,_]) rfl R4 (n_5 rfl),_,_,rfl,rfl,(by rw [n_1 h0,hr];exact .tups ⟨.old (.val _),.old (.val _),tt⟩)⟩
def tkE (e:Int) (m s:Nat):Option Nat:=if e=0 then C2 m s else none
def o9 (e:Int) (m:Nat):b9:=if e=0 then o8 m else .dead
abbrev rbx (T:List Tok) (n:Nat) (at_ e:Int) (ps:List Str) (b:List Ex) (s:Nat):b9:=.box [.list (T.map Tok.cv) true none,iv n,iv at_,iv e,.list (ps.map scv) (gnn ps.length) none,.list (b.map Ex.cv) (gnn b.length) (tkE e b.length s),.list [] false none]
abbrev rst (T:List Tok) (n:Nat) (at_ e:Int) (ps:List Str) (b:List Ex):List b9:=[rbx T n at_ e ps b 1,o9 e b.length]
abbrev a6M (T:List Tok) (n:Nat) (at_ e:Int) (ps:List Str) (b:List Ex):List b9:=[rbx T n at_ e ps b 2,.dead,o9 e b.length]
theorem c4V {s':Nat} (h:R s s'):Q1 R (.list (b.map Ex.cv) (gnn b.length) (tkE e b.length s)) (.list (b.map Ex.cv) (gnn b.length) (tkE e b.length s')):=by
 refine .list rfl (fun i r r' h1 h2=>by rw [h1] at h2;injection h2 with h2;rw [h2]) (fun i j r r' c c' h1 h2 h3 h4=>?_) ?_
 ·rw [h1] at h2;injection h2 with h2;subst h2;rw [h3] at h4;injection h4 with h4;subst h4
  exact .pure (C4 (f:=Ex.cv) (fun a=>(Ex.pure a).all) _ r (n_2 h1) c (n_2 h3))
 ·unfold tkE
  split
  ·cases hb:b.length with
   | zero=>exact .inl ⟨rfl,rfl⟩
   | succ m=>exact .inr ⟨s,s',rfl,rfl,h⟩
  ·exact .inl ⟨rfl,rfl⟩
theorem a7C {s':Nat} (h:R s s'):I4 R (rbx T n at_ e ps b s) (rbx T n at_ e ps b s') :=
 .box (.cons (.pure (a3q _ _)) (.cons (.pure (.val _)) (.cons (.pure (.val _)) (.cons (.pure (.val _)) (.cons (.pure (F5 _ _)) (.cons (c4V h) (.cons (.pure (a0q [] false)) .nil)))))))
theorem a4Z (e:Int) (m:Nat):I4 R (o9 e m) (o9 e m):=by
 unfold o9
 split
 ·exact a0p m
 ·exact .dead
def RAt (σ:List b9) (q s:Nat) (T:List Tok) (n:Nat) (at_ e:Int) (ps:List Str) (b:List Ex):Prop:=σ[q]? = some (rbx T n at_ e ps b s)/\σ[s]? = some (o9 e b.length)/\q≠s
theorem a8n {c:α->CV} {B:α->List Ex} {g:α->Bool} (ao:∀ a∈args,r4 a) (hc:∀ a,r4 (c a))
 (h:b8 CC f (.ptr 0 0::args) (rst T n at_ e ps b) fun r τ=>∃ a,E8 2 τ r (.ret (c a)) (if g a=true then a6M T (N a) (A a) (E a) ps (B a) else rst T (N a) (A a) (E a) ps (B a))/\P a) {σ:List b9} {q s:Nat} (am:RAt σ q s T n at_ e ps b) :
 b8 CC f (.ptr q 0::args) σ fun r τ=>∃ a,r = .ret (c a)/\τ=(if g a=true then (σ.set q (rbx T (N a) (A a) (E a) ps (B a) σ.length)).set s .dead++[o9 (E a) (B a).length] else (σ.set q (rbx T (N a) (A a) (E a) ps (B a) s)).set s (o9 (E a) (B a).length))/\P a:=by
 obtain ⟨h1,h2,h3⟩:=am;have hq:=(n_3.1 h1).1;have hs:=(n_3.1 h2).1;have h':b8 CC f (.ptr 0 0::args) (rst T n at_ e ps b) fun r τ=>∃ a,r = .ret (c a)/\τ=(if g a=true then a6M T (N a) (A a) (E a) ps (B a) else rst T (N a) (A a) (E a) ps (B a))/\P a :=
  I5 hCC (h.mono fun r τ ⟨a,k1,k2⟩=>⟨_,_,k1,a,rfl,rfl,k2⟩)
 refine I3 [q,s] hCC rfl (fun i j k g1 g2=>?_) (fun i k ob g1 g2=>?_) (.cons (.ptr rfl) (L3 ao)) h' fun r τ hk=>?_
 ·rcases i with _ | _ | i<;>rcases j with _ | _ | j<;>simp at g1 g2<;>first|rfl|(exfalso;exact h3 (g1.trans g2.symm))|(exfalso;exact h3 (g2.trans g1.symm))
 ·rcases i with _ | _ | i
  ·simp at g1 g2;subst g1 g2;exact ⟨_,h1,a7C rfl⟩
  ·simp at g1 g2;subst g1 g2;exact ⟨_,h2,a4Z _ _⟩
  ·simp at g1
 ·obtain ⟨a,rfl,rfl,hp⟩:=hk;refine ⟨by split<;>simp,.ret (c a),(if g a=true then (σ.set q (rbx T (N a) (A a) (E a) ps (B a) σ.length)).set s .dead++[o9 (E a) (B a).length] else (σ.set q (rbx T (N a) (A a) (E a) ps (B a) s)).set s (o9 (E a) (B a).length)),.ret (.pure (hc a)),by split<;>simp,fun k hk bA=>?_,fun i k x ha hx=>?_,a,rfl,rfl,hp⟩
  ·have n1:q≠k:=fun e=>bA a1Q;have n2:s≠k:=fun e=>bA a1Q
   split
   ·rw [R3 (sp_ hk)];simp [n1,n2]
   ·simp [n1,n2]
  ·split at hx<;>rename_i hg
   ·rcases ha with ha | ⟨ha,rfl⟩
    ·rcases i with _ | _ | i
     ·simp at ha hx;subst ha hx;refine ⟨rbx T (N a) (A a) (E a) ps (B a) σ.length,?_,a7C (.inr ⟨si_,si_⟩)⟩;rw [n_1 hg,R3 (sp_ hq),a2i h3.symm];simp [hq]
     ·simp at ha hx;subst ha hx;refine ⟨.dead,?_,.dead⟩;rw [n_1 hg,R3 (sp_ hs)];simp [hs]
     ·simp at ha
    ·rcases i with _ | _ | _ | i
     ·simp at ha
     ·simp at ha
     ·simp at hx;subst hx;refine ⟨o9 (E a) (B a).length,?_,a4Z _ _⟩;rw [n_1 hg,a1f si_];simp
     ·simp at hx
   ·rcases ha with ha | ⟨ha,rfl⟩
    ·rcases i with _ | _ | i
     ·simp at ha hx;subst ha hx;refine ⟨rbx T (N a) (A a) (E a) ps (B a) s,?_,a7C (.inl rfl)⟩;rw [n_0 hg,a2i h3.symm];simp [hq]
     ·simp at ha hx;subst ha hx;refine ⟨o9 (E a) (B a).length,?_,a4Z _ _⟩;rw [n_0 hg];simp [hs]
     ·simp at ha
    ·rcases i with _ | _ | i
     ·simp at ha
     ·simp at ha
     ·simp at hx
def Ok {α:Type} (e:Int) (o:Option α) (e':Int) (y:α):Prop:=(e=0->(o=some y/\e'=0)\/(o=none/\e'≠0))/\(e≠0->e'≠0)
theorem Ok.bind {β:Type} {e1:Int} {o:Option α} {y:α} {f:α->Option β} {z:β} (h:Ok e o e1 y) (k:Ok e1 (f y) e2 z):Ok e (o.bind f) e2 z:=by
 refine ⟨fun h0=>?_,fun h0=>k.2 (h.2 h0)⟩
 rcases h.1 h0 with ⟨rfl,h1⟩ | ⟨rfl,h1⟩
 ·exact k.1 h1
 ·exact .inr ⟨rfl,k.2 h1⟩
theorem Ok.none {e':Int} {y:α} (h:e'≠0):Ok e (Option.none:Option α) e' y:=⟨fun _=>.inr ⟨rfl,h⟩,fun _=>h⟩
theorem Ok.some {y:α}:Ok e (Option.some y) e y:=⟨fun h=>.inl ⟨rfl,h⟩,fun h=>h⟩
theorem Ok.dead {e':Int} {o:Option α} {y:α} (h:e≠0) (h':e'≠0):Ok e o e' y:=⟨fun h0=>absurd h0 h,fun _=>h'⟩
theorem d2B {L:Nat} (h:s < L):Old L (.list (b.map Ex.cv) (gnn b.length) (tkE e b.length s)) :=
 .list (fun i j r c h1 h2=>(C4 (f:=Ex.cv) (fun a=>(Ex.pure a).all) _ r (n_2 h1) c (n_2 h2)).old) (fun k hk=>by
  unfold tkE at hk;split at hk
  ·cases hb:b.length with
   | zero=>rw [hb] at hk;cases hk
   | succ m=>rw [hb] at hk;injection hk with hk;omega
  ·cases hk)
theorem b03 (n:Nat) (e:Int) (m:Nat):I0 n (o9 e m):=by
 unfold o9
 split
 ·exact a4E _ _
 ·trivial
theorem b4O {L:Nat} (h:s < L):I0 L (rbx T n at_ e ps b s):=u0 ⟨W8 _ _ _,.val _,.val _,.val _,A5 _ _ _,d2B h,P6 _ [] false,tt⟩
theorem a1N {rest:List b9} (hτ:τ=rbx T n at_ e ps b 1::o9 e b.length::rest) (hc:Old 2 c):E8 2 τ (.ret c) (.ret c) (rst T n at_ e ps b):=by
 subst hτ;exact ⟨[0,1],rfl,rfl,.ret (.old hc),.inr ⟨_,rfl,.same rfl (b4O de_)⟩,.inr ⟨_,rfl,.same rfl W4⟩,tt⟩
theorem d8W {tok:Option Nat} (he:e≠0) (h0:τ[0]? = some (.box [.list (T.map Tok.cv) true none,iv n,iv at_,iv e,.list (ps.map scv) (gnn ps.length) none,.list (b.map Ex.cv) (gnn b.length) tok,.list [] false none])) (hc:Old 2 c):E8 2 τ (.ret c) (.ret c) (rst T n at_ e ps b):=by
 have ht:∀ m s,tkE e m s=none:=fun m s=>n_0 he;have hp:o9 e b.length = .dead:=n_0 he;refine ⟨[0,1],rfl,rfl,.ret (.old hc),.inr ⟨_,h0,.box ⟨.old a1c,.old (.val _),.old (.val _),.old (.val _),.old Y2,.list (fun r hr c hc=>(C4 (f:=Ex.cv) (fun a=>(Ex.pure a).all) _ r hr c hc).old) (fun j hj=>by rw [ht] at hj;cases hj),.old a21,tt⟩⟩,.inl hp,tt⟩
theorem d4a (ao:∀ a∈args,r4 a) (hc:r4 c)
 (h:b8 CC f (.ptr 0 0::args) (rst T n at_ e ps b) fun r τ=>E8 2 τ r (.ret c) (rst T n at_ e ps b)) {σ:List b9} {q s:Nat} (am:RAt σ q s T n at_ e ps b):b8 CC f (.ptr q 0::args) σ fun r τ=>r = .ret c/\τ=σ:=by
 refine (a8n (α:=Unit) (c:=fun _=>c) (N:=fun _=>n) (A:=fun _=>at_) (E:=fun _=>e) (B:=fun _=>b) (g:=fun _=>false) (P:=fun _=>True) ao (fun _=>hc) (h.mono fun r τ hh=>⟨(),hh,tt⟩) am).mono fun r τ hh=>?_;obtain ⟨_,h1,h2,_⟩:=hh;refine ⟨h1,h2.trans ?_⟩;show (σ.set q _).set s _=σ;rw [a1T am.1,a1T am.2.1]
abbrev rS0 (σ:List b9) (q s:Nat) (T:List Tok) (n:Nat) (at_ e:Int) (ps:List Str) (b:List Ex):List b9:=(σ.set q (rbx T n at_ e ps b s)).set s (o9 e b.length)
theorem Z2 {c:α->CV} (ao:∀ a∈args,r4 a) (hc:∀ a,r4 (c a))
 (h:b8 CC f (.ptr 0 0::args) (rst T n at_ e ps b) fun r τ=>∃ a,E8 2 τ r (.ret (c a)) (rst T (N a) (A a) (E a) ps b)/\P a) {σ:List b9} {q s:Nat} (am:RAt σ q s T n at_ e ps b) :
 b8 CC f (.ptr q 0::args) σ fun r τ=>∃ a,r = .ret (c a)/\τ=rS0 σ q s T (N a) (A a) (E a) ps b/\P a :=
 a8n (c:=c) (N:=N) (A:=A) (E:=E) (B:=fun _=>b) (g:=fun _=>false) (P:=P) ao hc (h.mono fun _ _ ⟨a,h1,h2⟩=>⟨a,h1,h2⟩) am
theorem d3b (T:List Tok) (n:Nat) (at_ e:Int) (ps:List Str) (b:List Ex) (_:T.length<=1000000) (hn:n < T.length):b8 CC 183 [.ptr 0 0] (rst T n at_ e ps b) (fun r τ=>E8 2 τ r (.ret (.agg (tk T n).cells)) (rst T n at_ e ps b)):=by
 refine qO Tryz.func183 ?_;refine qD (p8 rfl a2R rfl j6 ?_);refine b4t ?_;refine hY (j5 rfl tt rfl b8U rfl Tryz.sizeOf191 de_) ?_;refine hY (o5 rfl tt rfl Tryz.isAgg191 rfl rfl) ?_;refine a5g ?_;refine hY c8s ?_;refine hY a1n ?_;refine d5i ?_;refine X2 ?_;refine z_2 ?_;exact ⟨_,C6 rfl b3v,a1N rfl (a54 _ _)⟩
theorem a0z (hT:T.length<=1000000) (hn:n < T.length) (am:RAt σ q s T n at_ e ps b):b8 CC 183 [.ptr q 0] σ fun r τ=>r = .ret (.agg (tk T n).cells)/\τ=σ:=d4a (fun _ h=>by cases h) (a0s _) (d3b T n at_ e ps b hT hn) am
theorem c8S (T:List Tok) (n:Nat) (at_ e:Int) (ps:List Str) (b:List Ex) (x y:Int) (hy:y≠0):b8 CC 182 [.ptr 0 0,iv x,iv y] (rst T n at_ e ps b) (fun r τ=>∃ a:Int × Int,E8 2 τ r (.ret (.tup [])) (rst T n a.1 a.2 ps b)/\a.2≠0):=by
 refine qO Tryz.func182 ?_;refine qC ?_ ?_<;>intro h1
 ·have he:e=0:=sp_ h1;refine qD (j2 rfl tt tt rfl j3 t_1 (.inl rfl) rfl rfl (nb rfl) ?_);refine qD (j2 rfl tt tt rfl j3 c04 (.inl rfl) rfl rfl (nb rfl) ?_);exact ⟨_,rE0,(by exact ⟨(x,y),d8W hy rfl (.tup fun i c h=>by simp at h),hy⟩)⟩
 ·have he:e≠0:=sp_ h1;exact ⟨_,rE0,(by exact ⟨(at_,e),a1N rfl (.tup fun i c h=>by simp at h),he⟩)⟩
theorem a0u (x y:Int) (hy:y≠0) (am:RAt σ q s T n at_ e ps b):b8 CC 182 [.ptr q 0,iv x,iv y] σ fun r τ=>∃ a:Int × Int,r = .ret (.tup [])/\τ=rS0 σ q s T n a.1 a.2 ps b/\a.2≠0 :=
 Z2 (c:=fun _:Int × Int=>.tup []) (N:=fun _=>n) (A:=fun a=>a.1) (E:=fun a=>a.2) (fun _ h=>by simp at h;rcases h with rfl | rfl<;>exact .val _) (fun _=>D4 trivial) (c8S T n at_ e ps b x y hy) am
def sgB (T:List Tok) (n:Nat) (e:Int) (k:Int) (u:Str):Bool:=decide (e=0) && isT (tk T n) k u
theorem U8 (h:sgB T n e k u=true):e=0/\isT (tk T n) k u=true:=by
 simpa [sgB] using h
theorem b0j (h:sgB T n e k u=true):Ok e (pIs T n k u) e (n+1):=by
 obtain ⟨h1,h2⟩:=U8 h;rw [pIs,n_1 h2];exact .some
theorem b0h {y:Nat} (h:sgB T n e k u=false) (h2:e2≠0):Ok e (pIs T n k u) e2 y:=by
 by_cases he:e=0
 ·have:isT (tk T n) k u=false:=by simpa [sgB,he] using h
  rw [pIs,n_0 (by rw [this];decide)];exact .none h2
 ·exact .dead he h2
theorem c67 (T:List Tok) (n:Nat) (at_ e:Int) (ps:List Str) (b:List Ex) (hT:T.length<=1000000) (hn:n < T.length) (_:a0Q T) (u:Str):b8 CC 230 [.ptr 0 0,(sv u)] (rst T n at_ e ps b) (fun r τ=>E8 2 τ r (.ret (.val (.bool (sgB T n e 4 u)))) (rst T (if (sgB T n e 4 u)=true then n+1 else n) at_ e ps b)):=by
 refine qO Tryz.func230 ?_;refine qG D6 ?_;refine qG c2y ?_;refine qG c2r ?_;refine a82 ?_;refine qG c2y ?_;refine qG d1W ?_;refine b7l ?_;refine cC ?_ ?_<;>intro h1
 ·have hv:(sgB T n e 4 u)=true:=by simpa [sgB,isT,b0w] using h1
  rw [hv,n_1 rfl];refine qk ?_;refine z_6 ?_;exact c3f
 ·have hv:(sgB T n e 4 u)=false:=by simpa [sgB,isT,b0w] using h1
  rw [hv,n_0 de_];refine qk ?_;exact c3f
theorem W9 (hT:T.length<=1000000) (hn:n < T.length) (hW:a0Q T) (u:Str) (am:RAt σ q s T n at_ e ps b):b8 CC 230 [.ptr q 0,(sv u)] σ fun r τ=>∃ a:Bool × Nat,r = .ret (.val (.bool a.1))/\τ=rS0 σ q s T a.2 at_ e ps b/\(a.1=(sgB T n e 4 u)/\(a.1=true->a.2=n+1)/\(a.1=false->a.2=n)/\a.2 < T.length) :=
 Z2 (c:=fun a:Bool × Nat=>.val (.bool a.1)) (N:=fun a=>a.2) (A:=fun _=>at_) (E:=fun _=>e) (fun _ h=>by simp at h;subst h;exact .val _) (fun _=>.val _) ((c67 T n at_ e ps b hT hn hW u).mono fun r τ h=>⟨((sgB T n e 4 u),if (sgB T n e 4 u)=true then n+1 else n),h,rfl,fun h=>n_1 h,fun h=>n_0 (by dsimp only at h;rw [h];decide),by
  dsimp only
  split
  ·rename_i h2;exact hW n hn (a6F (U8 h2).2 de_)
  ·exact hn⟩) am
theorem d1Q (T:List Tok) (n:Nat) (at_ e:Int) (ps:List Str) (b:List Ex) (hT:T.length<=1000000) (hn:n < T.length) (_:a0Q T) (u:Str):b8 CC 181 [.ptr 0 0,(sv u)] (rst T n at_ e ps b) (fun r τ=>E8 2 τ r (.ret (.val (.bool (sgB T n e 1 u)))) (rst T (if (sgB T n e 1 u)=true then n+1 else n) at_ e ps b)):=by
 refine qO Tryz.func181 ?_;refine qG D6 ?_;refine qG c2y ?_;refine qG c2r ?_;refine a82 ?_;refine qG c2y ?_;refine qG d1W ?_;refine b7l ?_;refine cC ?_ ?_<;>intro h1
 ·have hv:(sgB T n e 1 u)=true:=by simpa [sgB,isT,b0w] using h1
  rw [hv,n_1 rfl];refine qk ?_;refine z_6 ?_;exact c3f
 ·have hv:(sgB T n e 1 u)=false:=by simpa [sgB,isT,b0w] using h1
  rw [hv,n_0 de_];refine qk ?_;exact c3f
theorem Y7 (hT:T.length<=1000000) (hn:n < T.length) (hW:a0Q T) (u:Str) (am:RAt σ q s T n at_ e ps b):b8 CC 181 [.ptr q 0,(sv u)] σ fun r τ=>∃ a:Bool × Nat,r = .ret (.val (.bool a.1))/\τ=rS0 σ q s T a.2 at_ e ps b/\(a.1=(sgB T n e 1 u)/\(a.1=true->a.2=n+1)/\(a.1=false->a.2=n)/\a.2 < T.length) :=
 Z2 (c:=fun a:Bool × Nat=>.val (.bool a.1)) (N:=fun a=>a.2) (A:=fun _=>at_) (E:=fun _=>e) (fun _ h=>by simp at h;subst h;exact .val _) (fun _=>.val _) ((d1Q T n at_ e ps b hT hn hW u).mono fun r τ h=>⟨((sgB T n e 1 u),if (sgB T n e 1 u)=true then n+1 else n),h,rfl,fun h=>n_1 h,fun h=>n_0 (by dsimp only at h;rw [h];decide),by
  dsimp only
  split
  ·rename_i h2;exact hW n hn (a6F (U8 h2).2 de_)
  ·exact hn⟩) am
theorem c7s (T:List Tok) (n:Nat) (at_ e:Int) (ps:List Str) (b:List Ex) (hT:T.length<=1000000) (hn:n < T.length) (hW:a0Q T) (u:Str):b8 CC 185 [.ptr 0 0,(sv u)] (rst T n at_ e ps b) (fun r τ=>∃ a:Nat × Int × Int,E8 2 τ r (.ret (.tup [])) (rst T a.1 a.2.1 a.2.2 ps b)/\(Ok e (pIs T n 4 u) a.2.2 a.1/\a.1 < T.length)):=by
 refine qO Tryz.func185 ?_;refine qD (c4 rfl a8p j1 (W9 hT hn hW u ⟨rfl,rfl,de_⟩) rfl ?_);rintro ⟨v,m⟩ ⟨hv,bX,bT,hm⟩;dsimp only at hv bX bT hm ⊢;refine qN [rbx T m at_ e ps b 1,o9 e b.length] rfl (qC ?_ ?_)<;> intro h1
 ·have hvf:v=false:=sp_ h1;rw [hvf] at hv;refine qY (c5 rfl a7H ⟨tt,tt⟩ (a0z hT hm ⟨rfl,rfl,de_⟩) rfl) ?_;refine d6O ?_;rintro ⟨x,y⟩ hy;dsimp only at hy ⊢;refine qN [rbx T m x y ps b 1,o9 y b.length] rfl ?_;exact ⟨_,rE0,(by exact ⟨(m,x,y),a1N rfl (.tup fun i c h=>by simp at h),b0h hv.symm hy,hm⟩)⟩
 ·have hvt:v=true:=sp_ h1;rw [hvt] at hv;exact ⟨_,rE0,(by exact ⟨(m,at_,e),a1N rfl (.tup fun i c h=>by simp at h),by dsimp only;rw [bX hvt];exact b0j hv.symm,hm⟩)⟩
theorem N9 (hT:T.length<=1000000) (hn:n < T.length) (hW:a0Q T) (u:Str) (am:RAt σ q s T n at_ e ps b):b8 CC 185 [.ptr q 0,(sv u)] σ fun r τ=>∃ a:Nat × Int × Int,r = .ret (.tup [])/\τ=rS0 σ q s T a.1 a.2.1 a.2.2 ps b/\(Ok e (pIs T n 4 u) a.2.2 a.1/\a.1 < T.length) :=
 Z2 (c:=fun _:Nat × Int × Int=>.tup []) (N:=fun a=>a.1) (A:=fun a=>a.2.1) (E:=fun a=>a.2.2) (fun _ h=>by simp at h;subst h;exact .val _) (fun _=>D4 trivial) (c7s T n at_ e ps b hT hn hW u) am
abbrev a7R:List Str:=[[112,97,99,107,97,103,101],[105,109,112,111,114,116],[102,117,110,99],[116,101,115,116],[103,101,110],[105,102],[116,104,101,110],[101,108,115,101],[114,101,97,100],[115,105,122,101],[104,97,115],[101,110,118],[102,108,105,112]]
theorem b8y {l:List Str} {w:Str} {i:Nat} (h:l[i]? = some w) (hd:decide (u∈l)=decide (u∈l.drop i)) (az:¬ w=u):decide (u∈l)=decide (u∈l.drop (i+1)):=by
 obtain ⟨ab,rfl⟩:=n_3.1 h;rw [hd,R2 ab];have:¬ u=l[i]:=fun e=>az e.symm;exact b1q.2 ⟨fun h=>(J5.1 h).resolve_left this,a8g _⟩
theorem a71 (l:List Str) (nn:Bool) (u:Str) (hl:l.length<=1000000) (σ:List b9):b8 CC 186 [(.list (l.map scv) nn none),(sv u)] σ fun r Y=>r = .ret (.val (.bool (decide (u∈l))))/\Y=σ:=by
 refine b8.anyw hCC pu_ pu_ (c7 (qO Tryz.func186 ?_)) σ;refine d9P ?_;intro i ⟨hi,hd⟩;refine qk (qC ?_ ?_)<;> intro h1
 ·have ab:i < l.length:=sm_ h1;obtain ⟨w,hb⟩:∃ w,l[i]? = some w:=⟨l[i]'ab,si_⟩;refine b3f ?_;refine qC ?_ ?_<;>intro h2
  ·have hw:w=u:=sp_ h2;exact d7k
  ·have hw:¬ w=u:=sp_ h2;exact d6B
 ·have aE:l.length<=i:=sm_ h1;refine z_9 ?_;exact ⟨_,rE1,_,_,rfl,rfl,j8 (show false=decide (u∈l) by rw [hd,V2 aE];simp)⟩
theorem a6x (u:Str) (σ:List b9):b8 CC 229 [(sv u)] σ fun r Y=>r = .ret (.val (.bool (R6 u)))/\Y=σ:=by
 refine b8.anyw hCC pu_ pu_ (c7 (qO Tryz.func229 ?_)) σ;refine qY (A8 (a7R.map scv) rfl ⟨rfl,rfl,rfl,rfl,rfl,rfl,rfl,rfl,rfl,rfl,rfl,rfl,rfl,tt⟩ t_2 t_0 t_3 rfl rfl rfl rfl rfl rfl rfl rfl rfl) ?_;refine qY J3 ?_;refine j7 hCC (α:=Nat) (fun i=>[(0,(sv u)),(5,(.list (a7R.map scv) true none)),(6,iv a7R.length),(7,iv i)]) (fun _=>[]) (fun i=>i<=a7R.length/\decide (u∈a7R)=decide (u∈a7R.drop i)) (fun i=>a7R.length - i) 0 ⟨n_4 _,rfl⟩ tu_ (ah:=[]) rfl z6 uz_ ?_;intro i ⟨hi,hd⟩;have hL:a7R.length=13:=rfl;refine qk (qC ?_ ?_)<;> intro h1
 ·have ab:i < a7R.length:=sm_ h1;obtain ⟨w,hb⟩:∃ w,a7R[i]? = some w:=⟨a7R[i]'ab,a09 ab⟩;refine b3f ?_;refine qC ?_ ?_<;>intro h2
  ·have hw:u=w:=sp_ h2;refine c6 ?_;exact ⟨_,rE1,_,_,rfl,rfl,j8 (show true=decide (u∈a7R) from (a2a (hw ▸ n_2 hb)).symm)⟩
  ·have hw:¬ u=w:=sp_ h2;refine qY l9 ?_;exact ⟨(i+1),_,⟨om_,om_,b8y hb hd (fun e=>hw e.symm)⟩,tu_,rfl⟩
 ·have aE:a7R.length<=i:=sm_ h1;refine z_9 ?_;exact ⟨_,rE1,_,_,rfl,rfl,j8 (show false=decide (u∈a7R) by rw [hd,V2 aE];simp)⟩
def a1m (T:List Tok) (path:Bool) (n:Nat):Option (Tok × Nat):=(G3 T n 3).bind fun x=>if (if path=true then H3 x.1.t else C3 x.1.t)=true then some x else none
theorem a3K (T:List Tok) (n:Nat):a1m T true n=a0L T n:=by simp [a1m,a0L]
theorem c58 {y:Str × Nat} (h:e≠0\/(tk T n).k≠1\/R6 (tk T n).t=true) (h2:e2≠0):Ok e ((K0 T n).map fun x=>(x.1.t,x.2)) e2 y:=by
 by_cases he:e=0
 ·have hn:K0 T n=none:=by
   unfold K0 G3
   split
   ·rename_i hk
    rcases h with h | h | h
    ·exact absurd he h
    ·exact absurd hk h
    ·simp [h]
   ·rfl
  rw [hn];exact .none h2
 ·exact .dead he h2
theorem c4u (h:(tk T n).k=1/\R6 (tk T n).t=false):Ok e ((K0 T n).map fun x=>(x.1.t,x.2)) e ((tk T n).t,n+1):=by
 have hn:K0 T n=some (tk T n,n+1):=by
  unfold K0 G3;rw [n_1 h.1];simp [h.2]
 rw [hn];exact .some
theorem c8f (T:List Tok) (n:Nat) (at_ e:Int) (ps:List Str) (b:List Ex) (hT:T.length<=1000000) (hn:n < T.length) (hW:a0Q T):b8 CC 184 [.ptr 0 0] (rst T n at_ e ps b) (fun r τ=>∃ a:Str × Nat × Int × Int,E8 2 τ r (.ret (sv a.1)) (rst T a.2.1 a.2.2.1 a.2.2.2 ps b)/\(Ok e ((K0 T n).map fun x=>(x.1.t,x.2)) a.2.2.2 (a.1,a.2.1)/\a.2.1 < T.length)):=by
 refine qO Tryz.func184 ?_;refine qY b6M ?_;refine z_1 ?_;refine qG c9C ?_;refine qG a5q ?_;refine a4c ?_;refine qG b7J ?_;refine qG a2C ?_;refine qG (fun hg=>c5 rfl Tryz.call229 ⟨hg,tt⟩ (a6x _ _) rfl) ?_;refine qY R7 ?_;refine qC ?_ ?_<;>intro h1
 ·have hv:e≠0\/(tk T n).k≠1\/R6 (tk T n).t=true:=by simpa [or_assoc] using h1
  refine qD (c4 rfl b0W a2u (a0u _ _ de_ ⟨rfl,rfl,de_⟩) rfl ?_);rintro ⟨x,y⟩ hy;dsimp only at hy ⊢;refine c9U ?_;exact ⟨_,rE1,(by exact ⟨([],n,x,y),a1N rfl (.val _),c58 hv hy,hn⟩)⟩
 ·have hv:e=0/\(tk T n).k=1/\R6 (tk T n).t=false:=by simpa [and_assoc] using h1
  refine z_6 ?_;refine c6 ?_;exact ⟨_,rE1,(by exact ⟨((tk T n).t,n+1,at_,e),a1N rfl (.val _),c4u hv.2,hW n hn (by rw [hv.2.1];decide)⟩)⟩
theorem a65 (hT:T.length<=1000000) (hn:n < T.length) (hW:a0Q T) (am:RAt σ q s T n at_ e ps b):b8 CC 184 [.ptr q 0] σ fun r τ=>∃ a:Str × Nat × Int × Int,r = .ret (sv a.1)/\τ=rS0 σ q s T a.2.1 a.2.2.1 a.2.2.2 ps b/\(Ok e ((K0 T n).map fun x=>(x.1.t,x.2)) a.2.2.2 (a.1,a.2.1)/\a.2.1 < T.length) :=
 Z2 (c:=fun a:Str × Nat × Int × Int=>(sv a.1)) (N:=fun a=>a.2.1) (A:=fun a=>a.2.2.1) (E:=fun a=>a.2.2.2) (fun _ h=>by simp at h;try (subst h;exact .val _)) (fun _=>.val _) (c8f T n at_ e ps b hT hn hW) am
theorem c5t {path:Bool} {y:Str × Nat} (h:e≠0\/(tk T n).k≠3\/(if path=true then H3 (tk T n).t else C3 (tk T n).t)=false) (h2:e2≠0):Ok e ((a1m T path n).map fun x=>(x.1.t,x.2)) e2 y:=by
 by_cases he:e=0
 ·have hn:a1m T path n=none:=by
   unfold a1m G3
   split
   ·rename_i hk
    rcases h with h | h | h
    ·exact absurd he h
    ·exact absurd hk h
    ·cases path<;>simp_all
   ·rfl
  rw [hn];exact .none h2
 ·exact .dead he h2
theorem c4T {path:Bool} (h:(tk T n).k=3/\(if path=true then H3 (tk T n).t else C3 (tk T n).t)=true):Ok e ((a1m T path n).map fun x=>(x.1.t,x.2)) e ((tk T n).t,n+1):=by
 have hn:a1m T path n=some (tk T n,n+1):=by
  unfold a1m G3;rw [n_1 h.1];have h2:=h.2;cases path<;>simp_all
 rw [hn];exact .some
theorem d1u (T:List Tok) (n:Nat) (at_ e:Int) (ps:List Str) (b:List Ex) (hT:T.length<=1000000) (hn:n < T.length) (hW:a0Q T) (path:Bool) (hL:c8Q T):b8 CC 231 [.ptr 0 0,(.val (.bool path))] (rst T n at_ e ps b) (fun r τ=>∃ a:Str × Nat × Int × Int,E8 2 τ r (.ret (sv a.1)) (rst T a.2.1 a.2.2.1 a.2.2.2 ps b)/\(Ok e ((a1m T path n).map fun x=>(x.1.t,x.2)) a.2.2.2 (a.1,a.2.1)/\a.2.1 < T.length)):=by
 refine qO Tryz.func231 ?_;refine qY b6M ?_;refine z_1 ?_;refine qG c9C ?_;refine qG a5q ?_;refine a4c ?_;refine qG D6 ?_;refine qG a9j ?_;refine d5y ?_;refine qH rfl rfl (fun hk hg=>c5 rfl c5N ⟨⟨hk,hg⟩,tt⟩ (a1E _ _) rfl) ?_;refine c3C ?_;refine qY R7 ?_;refine qG D6 ?_;refine qG a6u ?_;refine qG a9j ?_;refine d5y ?_;refine qH rfl rfl (fun hk hg=>c5 rfl c4L ⟨⟨hk,hg⟩,tt⟩ (a1D _ _) rfl) ?_;refine c3C ?_;refine qY R7 ?_;refine qC ?_ ?_<;>intro h1
 ·have hv:e≠0\/(tk T n).k≠3\/(if path=true then H3 (tk T n).t else C3 (tk T n).t)=false:=by
   cases path<;>simpa [or_assoc] using h1
  refine qD (c4 rfl b0W a2u (a0u _ _ de_ ⟨rfl,rfl,de_⟩) rfl ?_);rintro ⟨x,y⟩ hy;dsimp only at hy ⊢;refine c9U ?_;exact ⟨_,rE1,(by exact ⟨([],n,x,y),a1N rfl (.val _),c5t hv hy,hn⟩)⟩
 ·have hv:e=0/\(tk T n).k=3/\(if path=true then H3 (tk T n).t else C3 (tk T n).t)=true:=by
   cases path<;>simpa [and_assoc] using h1
  refine z_6 ?_;refine c6 ?_;exact ⟨_,rE1,(by exact ⟨((tk T n).t,n+1,at_,e),a1N rfl (.val _),c4T hv.2,hW n hn (by rw [hv.2.1];decide)⟩)⟩
theorem b0b (hT:T.length<=1000000) (hn:n < T.length) (hW:a0Q T) (path:Bool) (hL:c8Q T) (am:RAt σ q s T n at_ e ps b):b8 CC 231 [.ptr q 0,(.val (.bool path))] σ fun r τ=>∃ a:Str × Nat × Int × Int,r = .ret (sv a.1)/\τ=rS0 σ q s T a.2.1 a.2.2.1 a.2.2.2 ps b/\(Ok e ((a1m T path n).map fun x=>(x.1.t,x.2)) a.2.2.2 (a.1,a.2.1)/\a.2.1 < T.length) :=
 Z2 (c:=fun a:Str × Nat × Int × Int=>(sv a.1)) (N:=fun a=>a.2.1) (A:=fun a=>a.2.2.1) (E:=fun a=>a.2.2.2) (fun _ h=>by simp at h;try (subst h;exact .val _)) (fun _=>.val _) (d1u T n at_ e ps b hT hn hW path hL) am
theorem b8t {y:Int × Nat} (h:e≠0\/(tk T n).k≠2) (h2:e2≠0):Ok e ((G3 T n 2).map fun x=>(x.1.n,x.2)) e2 y:=by
 by_cases he:e=0
 ·have hn:G3 T n 2=none:=by
   unfold G3
   split
   ·rename_i hk
    rcases h with h | h
    ·exact absurd he h
    ·exact absurd hk h
   ·rfl
  rw [hn];exact .none h2
 ·exact .dead he h2
theorem b7Z (h:(tk T n).k=2):Ok e ((G3 T n 2).map fun x=>(x.1.n,x.2)) e ((tk T n).n,n+1):=by
 have hn:G3 T n 2=some (tk T n,n+1):=by
  unfold G3;rw [n_1 h];rfl
 rw [hn];exact .some
theorem c1m (T:List Tok) (n:Nat) (at_ e:Int) (ps:List Str) (b:List Ex) (hT:T.length<=1000000) (hn:n < T.length) (hW:a0Q T) (hN:∀ i,0<=(tk T i).n/\(tk T i).n<=9007199254740993):b8 CC 322 [.ptr 0 0] (rst T n at_ e ps b) (fun r τ=>∃ a:Int × Nat × Int × Int,E8 2 τ r (.ret (iv a.1)) (rst T a.2.1 a.2.2.1 a.2.2.2 ps b)/\(Ok e ((G3 T n 2).map fun x=>(x.1.n,x.2)) a.2.2.2 (a.1,a.2.1)/\a.2.1 < T.length/\-9007199254740993<=a.1/\a.1<=9007199254740993)):=by
 refine qO Tryz.func322 ?_;refine qY b6M ?_;refine z_1 ?_;refine qG c9C ?_;refine qG a5q ?_;refine a4c ?_;refine qC ?_ ?_<;>intro h1
 ·have hv:e≠0\/(tk T n).k≠2:=sp_ h1;refine qD (c4 rfl b0W a2u (a0u _ _ de_ ⟨rfl,rfl,de_⟩) rfl ?_);rintro ⟨x,y⟩ hy;dsimp only at hy ⊢;refine c9U ?_;exact ⟨_,rE1,(by exact ⟨(0,n,x,y),a1N rfl (.val _),b8t hv hy,hn,do_,do_⟩)⟩
 ·have hv:e=0/\(tk T n).k=2:=sp_ h1;refine z_6 ?_;refine c6 ?_;exact ⟨_,rE1,(by exact ⟨((tk T n).n,n+1,at_,e),a1N rfl (.val _),b7Z hv.2,hW n hn (by rw [hv.2];decide),by have:=hN n;dsimp only;omega,by have:=hN n;dsimp only;omega⟩)⟩
theorem a8M (hT:T.length<=1000000) (hn:n < T.length) (hW:a0Q T) (hN:∀ i,0<=(tk T i).n/\(tk T i).n<=9007199254740993) (am:RAt σ q s T n at_ e ps b):b8 CC 322 [.ptr q 0] σ fun r τ=>∃ a:Int × Nat × Int × Int,r = .ret (iv a.1)/\τ=rS0 σ q s T a.2.1 a.2.2.1 a.2.2.2 ps b/\(Ok e ((G3 T n 2).map fun x=>(x.1.n,x.2)) a.2.2.2 (a.1,a.2.1)/\a.2.1 < T.length/\-9007199254740993<=a.1/\a.1<=9007199254740993) :=
 Z2 (c:=fun a:Int × Nat × Int × Int=>(iv a.1)) (N:=fun a=>a.2.1) (A:=fun a=>a.2.2.1) (E:=fun a=>a.2.2.2) (fun _ h=>by cases h) (fun _=>.val _) (c1m T n at_ e ps b hT hn hW hN) am
theorem d1K {k:Nat} (h0:τ[0]? = some (.box [.list (T.map Tok.cv) true none,iv n,iv at_,iv 0,.list (ps.map scv) (gnn ps.length) none,.list (b.map Ex.cv) (gnn b.length) (C2 b.length k),.list [] false none])) (hk:τ[k]? = some (o8 b.length)) (h2:2<=k) (hc:Old 2 c):E8 2 τ (.ret c) (.ret c) (a6M T n at_ 0 ps b):=by
 have k1:a6l 2 [0,1,k]=true:=rfl;have k2:a0t [0,1,k]=true:=by
  simp [a0t];omega
 refine ⟨[0,1,k],k1,k2,.ret (.old hc),.inr ⟨_,h0,.box ?_⟩,.inl rfl,.inr ⟨_,hk,.same rfl B8⟩,tt⟩;refine ⟨.old a1c,.old (.val _),.old (.val _),.old (.val _),.old Y2,.list (fun r hr c hc=>(C4 (f:=Ex.cv) (fun a=>(Ex.pure a).all) _ r hr c hc).old) ?_,.old a21,tt⟩;intro j hj;have dl:C2 b.length 2=some j:=hj;cases hb:b.length with
 | zero=>rw [hb] at dl;cases dl
 | succ m=>rw [hb] at dl;injection dl with dl;subst dl;exact ⟨k,rfl,rfl⟩
theorem a5P {tok:Option Nat} (he:e≠0) (h0:τ[0]? = some (.box [.list (T.map Tok.cv) true none,iv n,iv at_,iv e,.list (ps.map scv) (gnn ps.length) none,.list (b.map Ex.cv) (gnn b.length) tok,.list [] false none])) (hc:Old 2 c):E8 2 τ (.ret c) (.ret c) (a6M T n at_ e ps b):=by
 have ht:∀ m s,tkE e m s=none:=fun m s=>n_0 he;have hp:o9 e b.length = .dead:=n_0 he;refine ⟨[0,1,τ.length+2],rfl,by simp [a0t],.ret (.old hc),.inr ⟨_,h0,.box ⟨.old a1c,.old (.val _),.old (.val _),.old (.val _),.old Y2,.list (fun r hr c hc=>(C4 (f:=Ex.cv) (fun a=>(Ex.pure a).all) _ r hr c hc).old) (fun j hj=>by rw [ht] at hj;cases hj),.old a21,tt⟩⟩,.inl rfl,.inl hp,tt⟩
abbrev rS1 (σ:List b9) (q s:Nat) (T:List Tok) (n:Nat) (at_ e:Int) (ps:List Str) (b:List Ex):List b9:=(σ.set q (rbx T n at_ e ps b σ.length)).set s .dead++[o9 e b.length]
theorem a1U {c:α->CV} {B:α->List Ex} (ao:∀ a∈args,r4 a) (hc:∀ a,r4 (c a))
 (h:b8 CC f (.ptr 0 0::args) (rst T n at_ e ps b) fun r τ=>∃ a,E8 2 τ r (.ret (c a)) (a6M T (N a) (A a) (E a) ps (B a))/\P a) {σ:List b9} {q s:Nat} (am:RAt σ q s T n at_ e ps b) :
 b8 CC f (.ptr q 0::args) σ fun r τ=>∃ a,r = .ret (c a)/\τ=rS1 σ q s T (N a) (A a) (E a) ps (B a)/\P a :=
 a8n (c:=c) (N:=N) (A:=A) (E:=E) (B:=B) (g:=fun _=>true) (P:=P) ao hc (h.mono fun _ _ ⟨a,h1,h2⟩=>⟨a,h1,h2⟩) am
abbrev a9z (w:Nat × List Ex):Int × List Ex:=((w.1:Int),w.2)
theorem c4d {x:Ex} {y:Int × List Ex} (h:(e=0->(b.length=256/\e2≠0)\/(b.length≠256/\e2=0))/\(e≠0->e2≠0)) (hy:e2=0->y=((b.length:Int),b++[x])):Ok e ((X3 b x).map a9z) e2 y:=by
 refine ⟨fun h0=>?_,h.2⟩;unfold X3
 rcases h.1 h0 with ⟨h1,h2⟩ | ⟨h1,h2⟩
 ·rw [n_1 h1];exact .inr ⟨rfl,h2⟩
 ·rw [n_0 h1,hy h2];exact .inl ⟨rfl,h2⟩
theorem c9K (T:List Tok) (n:Nat) (at_ e:Int) (ps:List Str) (b:List Ex) (hb:b.length<=256) (x:Ex) (z:Int):b8 CC 272 [.ptr 0 0,.agg x.cells,iv z] (rst T n at_ e ps b) (fun r τ=>∃ a:Int × Int × Int × List Ex,E8 2 τ r (.ret (iv a.1)) (a6M T n a.2.1 a.2.2.1 ps a.2.2.2)/\(Ok e ((X3 b x).map a9z) a.2.2.1 (a.1,a.2.2.2)/\a.2.2.2.length<=256/\-1<=a.1/\a.1<=256)):=by
 refine cO Tryz.func272 ?_;refine b2U ?_;refine N4 (α:=Int × Int) (fun _=>[(0,.ptr 0 0),(4,.ptr 2 0)]) (fun a=>[rbx T n a.1 a.2 ps b 1,o9 a.2 b.length,.box x.cells]) (fun a=>(e=0->(b.length=256/\a.2≠0)\/(b.length≠256/\a.2=0))/\(e≠0->a.2≠0)) ?_ ?_
 ·
  refine qk (qG D6 ?_);refine qG (fun hg=>b4A rfl hg rfl) ?_;refine qG (fun hg=>j5 rfl hg rfl b8U rfl b2b de_) ?_;refine qG b4c ?_;refine qG b7b ?_;refine a3G ?_;refine qC ?_ ?_<;>intro h1
  ·have hv:e=0/\b.length=256:=sm_ h1;refine qD (c4 rfl b0W a2u (a0u _ _ de_ ⟨rfl,rfl,de_⟩) rfl ?_);rintro ⟨x1,y1⟩ hy;dsimp only at hy ⊢;refine qN [rbx T n x1 y1 ps b 1,o9 y1 b.length,.box x.cells] rfl ?_;exact ⟨(x1,y1),⟨fun _=>.inl ⟨hv.2,hy⟩,fun _=>hy⟩,tu_,rfl⟩
  ·have hv:¬ (e=0/\b.length=256):=fun h=>by simp [h.1,h.2] at h1
   exact ⟨(at_,e),⟨fun h0=>.inr ⟨fun h=>hv ⟨h0,h⟩,h0⟩,fun h=>h⟩,tu_,rfl⟩
 ·rintro ⟨x1,y1⟩ E1 hp;dsimp only at hp ⊢;refine qk ?_;refine cC ?_ ?_<;>intro h2
  ·obtain rfl:y1=0:=sp_ h2;have hbl:(b++[x]).length=b.length+1:=by simp
   have hl:b.length≠256:=by
    by_cases h0:e=0
    ·rcases hp.1 h0 with ⟨_,h⟩ | ⟨h,_⟩
     ·exact absurd rfl h
     ·exact h
    ·exact absurd rfl (hp.2 h0)
   refine J1 [.box [.list (T.map Tok.cv) true none,iv n,iv x1,iv 0,.list (ps.map scv) (gnn ps.length) none,.list (b.map Ex.cv) (gnn b.length) (C2 b.length 1),.list [] false none],o8 b.length,.box x.cells] rfl ?_;refine d6J ?_;refine chf rfl b7x ?_;refine chf rfl (c8 rfl c2Z) ?_;refine chf rfl (c8 rfl c1L) ?_;refine chf rfl (c8 rfl d0G) ?_;refine chf rfl e0R ?_;refine D9 ?_;refine B1 rfl rfl rfl (A7 rfl tt tt rfl si_ q_2 b21 a8O Tryz.typeInfo212 b5b rfl (.inr rfl) q_7 (by have hb:Tryz.t212.bytes=64:=rfl;rw [hb];first|omega|(simp;done)|(simp;omega)) C1 ((b++[x]).map Ex.cv) (b++[x]).length si_ si_ ?_);refine c9Z ?_;refine F2 rfl rfl (c8 rfl c2Z) ⟨tt,?_⟩;refine d6c ?_;refine b6U ?_;refine c6 ?_;exact ⟨_,rE1,(by exact ⟨(((b++[x]).length:Int) - 1,x1,0,b++[x]),d1K (k:=3) rfl rfl de_ (.val _),c4d hp (fun _=>by simp),by simp;omega,do_,by simp;omega⟩)⟩
  ·have fk:y1≠0:=sp_ h2;refine qk ?_;refine b6U ?_;refine c6 ?_;exact ⟨_,rE1,(by exact ⟨((b.length:Int) - 1,x1,y1,b),a5P fk rfl (.val _),c4d hp (fun h=>absurd h fk),hb,do_,do_⟩)⟩
theorem d3E (x:Ex):r4 (.agg x.cells):=r6 (Ex.pure x)
theorem O0 (hb:b.length<=256) (x:Ex) (z:Int) (am:RAt σ q s T n at_ e ps b):b8 CC 272 [.ptr q 0,.agg x.cells,iv z] σ fun r τ=>∃ a:Int × Int × Int × List Ex,r = .ret (iv a.1)/\τ=rS1 σ q s T n a.2.1 a.2.2.1 ps a.2.2.2/\(Ok e ((X3 b x).map a9z) a.2.2.1 (a.1,a.2.2.2)/\a.2.2.2.length<=256/\-1<=a.1/\a.1<=256) :=
 a1U (c:=fun a:Int × Int × Int × List Ex=>(iv a.1)) (N:=fun _=>n) (A:=fun a=>a.2.1) (E:=fun a=>a.2.2.1) (B:=fun a=>a.2.2.2) (fun _ h=>by
  simp at h
  rcases h with rfl | rfl
  ·exact d3E x
  ·exact .val _) (fun _=>.val _) (c9K T n at_ e ps b hb x z) am
end Go.Proofs.YtlppbmfecjabeaaGreatDoor
