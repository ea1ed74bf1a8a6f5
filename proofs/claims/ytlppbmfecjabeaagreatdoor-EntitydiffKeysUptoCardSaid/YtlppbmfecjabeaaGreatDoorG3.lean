/- Part 3 of what the claim needs: values without addresses, and what the program's functions do with them. -/
import Derived.Test.YtlppbmfecjabeaaGreatDoorG2
set_option linter.all false
set_option maxRecDepth 100000
set_option maxHeartbeats 4000000
namespace Go.Proofs.YtlppbmfecjabeaaGreatDoor
open Go Go.Cl
variable{σ τ rest:List b9}{s q i f m L aY parts q1 q2 i1 s' j:Nat}{e x e2 lv:Int}{α β:Type}{c c':CV}{u:U}{R:Nat->Nat->Prop}{P:α->Prop}{va:Bool}{br:List U}{N:α->Nat}{y:α}{bad:Prop}{am:List Nat}{vc:β->CV}
theorem d7R(b:UInt8){x y:Bool}(hx:x=inK [1,2,3] b)(hy:y=((b.toNat:Int) == 46)):(x ||y)=inK [1,2,3,4] b:=by
 subst hx hy;unfold inK;generalize (b.toNat:Int)=c;have h4:(c == 46)=decide (l9 c=4):=by
  by_cases h:c=46
  .subst h;rfl
  .have e:l9 c≠4:=by
    unfold l9
    repeat' split
    all_goals omega
   rw[a1S e];simp[h]
 rw[h4];simp[Bool.or_assoc]
def a2b(aY parts:Nat)(u:U):Bool:=match B8 47 u with
 | []=>false
 |p::ps=>decide (1<=aY+p.length)&&decide (aY+p.length<=24)&&p.all (inK [1,2,3,4])&&ps.all a4V&&decide (parts+ps.length<=8)
theorem c1U{s:U}(h:s.length<=80):I1 s=a2b 0 1 s:=by
 unfold I1 a2b;cases hs:B8 47 s with
 |nil=>exact absurd hs (a07 47 s)
 |cons p ps=>
  have e1:decide ((p::ps).length<=8)=decide (1+ps.length<=8):=by rw[C5,b7a]
  rw[e1,a1B h];simp only[b1x,a4V,K0,a9O];cases decide (1+ps.length<=8)<;>simp
theorem c8g:a2b aY parts []=(decide (1<=aY)&&decide (aY<=24)&&decide (parts<=8)):=by
 simp[a2b,B8]
theorem c1w(h:aY<=24):a2b aY parts (47::u)=(decide (1<=aY)&&a2b 0 (parts+1) u):=by
 unfold a2b;rw[B8,F J];cases hs:B8 47 u with
 |nil=>exact absurd hs (a07 47 u)
 |cons p ps=>
  have e:decide (parts+(p::ps).length<=8)=decide (parts+1+ps.length<=8):=b3n.2 K5;simp only[e,b1x,a4V,K0,J6,a9r,a1B h,List.all_nil,Bool.and_true,b2Z]
theorem d5C{b:UInt8}(hb:b≠47)(hk:inK [1,2,3,4] b=true):a2b aY parts (b::u)=a2b (aY+1) parts u:=by
 unfold a2b;rw[B8,D hb];cases hs:B8 47 u with
 |nil=>exact absurd hs (a07 47 u)
 |cons p ps=>
  have e:aY+(b::p).length=aY+1+p.length:=by simp;omega
  simp only[e,b1x,hk,a9O]
theorem d2I{b:UInt8}(hb:b≠47)(hk:inK [1,2,3,4] b=false):a2b aY parts (b::u)=false:=by
 unfold a2b;rw[B8,D hb];cases hs:B8 47 u with
 |nil=>exact absurd hs (a07 47 u)
 |cons p ps=>simp[hk]
theorem c6S(h:24<aY):a2b aY parts u=false:=by
 unfold a2b
 split
 .rfl
 .rename_i p ps _;have:¬aY+p.length<=24:=by omega
  simp[this]
theorem c8J{s:U}{b:UInt8}(h:s[i]?=some b):s.drop i=b::s.drop (i+1):=by
 obtain⟨ab,rfl⟩:=n_3.1 h;exact R0 ab
theorem d1u:(decide ((aY:Int) > 0)&&decide ((parts:Int)<=8))=(decide (1<=aY)&&decide (parts<=8)):=by
 have e1:decide ((aY:Int) > 0)=decide (1<=aY):=b3n.2 X;have e2:decide ((parts:Int)<=8)=decide (parts<=8):=b3n.2 X;rw[e1,e2]
theorem a3X(s:U)(σ:List b9):b8 CC 61 [(sv s)] σ λr aa=>r= .ret (.val (.bool (I1 s)))/\aa=σ:=by
 refine b8.anyw hCC pu_ pu_ (c7 (qO Tryz.func61 ?_)) σ;refine W R6 ?_;refine qC ?_ ?_<;>intro h1
 .have h80:¬s.length<=80:=by
   have:(s.length:Int) > 80:=I h1;omega
  refine c6 ?_;exact⟨_,rE1,_,_,J,J,j4 (by simp[I1,h80])⟩
 .have h80:s.length<=80:=by
   have:¬(s.length:Int) > 80:=I h1;omega
  refine j8 hCC (α:=Nat×Nat×Nat) (λx=>[(0,(sv s)),(3,iv x.2.1),(4,iv x.2.2),(5,iv x.1)]) (λ_=>[]) (λx=>x.1<=s.length/\x.2.2<=24/\x.2.1<=x.1+1/\I1 s=a2b x.2.2 x.2.1 (s.drop x.1)) (λx=>s.length -x.1) (0,1,0) ⟨n_4 _,G,G,c1U h80⟩ tu_ (ai:=[]) J z8 uz_ ?_;intro⟨i,parts,aY⟩ ⟨hi,gP,hpa,aP⟩;dsimp only at hi gP hpa aP⊢;refine a7w ?_;refine qC ?_ ?_<;>intro h2
  .have bm:(i:Int)<s.length:=I h2;obtain⟨b,hb⟩:=gx_ s i;rw[c8J hb]at aP;refine W b9K ?_;refine qC ?_ ?_<;>intro h3
   .have hb47:b=47:=by
     have h47:(b.toNat:Int)=47:=I h3;have h48:(47:UInt8).toNat=47:=J;exact a95.1 X
    subst hb47;rw[c1w gP]at aP;refine qC ?_ ?_<;>intro h4
    .have dy:aY=0:=by
      have:(aY:Int)=0:=I h4;omega
     subst dy;refine c6 ?_;exact⟨_,rE1,_,_,J,J,j4 (show false=I1 s by rw[aP];rfl)⟩
    .have dy:1<=aY:=by
      have:¬(aY:Int)=0:=I h4;omega
     rw[a1B dy,a9O]at aP;refine W j9 ?_;refine cC ?_ ?_<;>intro h5
     .exfalso;simp at h5
     .refine b0O ?_;exact⟨(i+1,parts+1,0),_,⟨Q,Q,Q,Q,aP⟩,tu_,J⟩
   .have hb47:b≠47:=by
     intro e;subst e;simp at h3
    refine W b9K ?_;refine W (c4 J d0A ⟨O,O⟩ (a7e b _) J) ?_;refine a1y ?_;refine qG e2C ?_;refine a38 ?_;refine qC ?_ ?_<;>intro h6
    .have bF:inK [1,2,3,4] b=true:=Eq.trans (Eq.symm (d7R b J J)) h6;rw[d5C hb47 bF]at aP;refine W j9 ?_;refine qC ?_ ?_<;>intro h7
     .have hbig:24<aY+1:=by
       have:((aY:Int)+1) > 24:=I h7;omega
      refine c6 ?_;exact⟨_,rE1,_,_,J,J,j4 (show false=I1 s by rw[aP,c6S hbig])⟩
     .have hbig:aY+1<=24:=by
       have:¬((aY:Int)+1) > 24:=I h7;omega
      refine W j9 ?_;exact⟨(i+1,parts,aY+1),_,⟨Q,Q,hbig,Q,aP⟩,tu_,J⟩
    .have bF:inK [1,2,3,4] b=false:=Eq.trans (Eq.symm (d7R b J J)) h6;rw[d2I hb47 bF]at aP;refine c6 ?_;exact⟨_,rE1,_,_,J,J,j4 (show false=I1 s from aP.symm)⟩
  .have aF:s.length<=i:=by
    have:¬(i:Int)<s.length:=I h2;omega
   rw[T6 aF,c8g,a1B gP,Bool.and_true]at aP;refine j6 ?_;refine qG D4 ?_;refine a4k ?_;refine c6 ?_;exact⟨_,rE1,_,_,J,J,j4 (Eq.trans d1u aP.symm)⟩
structure Ky where
 k:Int
 a:U
 b:U
deriving DecidableEq
variable{a:Nat}
abbrev Ky.cells(x:Ky):List CV:=[iv x.k,sv x.a,sv x.b]
def Ky.cv(x:Ky):List CV:=x.cells
theorem V1(l:List Ky)(nn:Bool):r5 (.list (l.map Ky.cv) nn none):=P7 (f:=Ky.cv) (λ_=>⟨.val _,.val _,.val _,O⟩) l nn
theorem F7(n:Nat)(l:List Ky)(nn:Bool):Old n (.list (l.map Ky.cv) nn none):=(V1 l nn).old
theorem b6P(n:Nat)(x:Ky):I6 n (.box x.cells):=z6 ⟨.val _,.val _,.val _,O⟩
def Q9(x:Ky):Bool:=
 if(x.k == 1 ||x.k == 2)=true then C4 x.a &&C4 x.b else if(x.k == 3 ||x.k == 4)=true then I1 x.a &&decide (x.b=[])else if(x.k == 5 ||x.k == 6 ||x.k == 7)=true then C4 x.a &&decide (x.b=[])else false
theorem c2A(x:Ky)(ha:x.a.length<=1000000000)(hb0:x.b.length<=1000000000)(σ:List b9):b8 CC 59 [.agg x.cells] σ λr aa=>r= .ret (.val (.bool (Q9 x)))/\aa=σ:=by
 refine an_ Tryz.func59 ?_;refine b3E ?_;refine G4 ?_;refine qs 1 ?_;refine S3 hCC (α:=Bool) (λb=>[(1,.ptr 0 0),(4,iv x.k),(5,(.val (.bool b)))]) (λ_=>[.box x.cells]) (λb=>b=(x.k == 1 ||x.k == 2)) z8 uz_ ?_ ?_
 .
  refine qk (qC ?_ ?_)<;> intro h1
  .exact ⟨(x.k == 1),_,(by simp_all),tu_,J⟩
  .exact ⟨(x.k == 2),_,(by simp_all),tu_,J⟩
 .intro b hb;refine cC ?_ ?_<;>intro h2
  .refine qk (W c4a ?_);refine b7Z ?_;refine qG (λhg=>c4 J c67 ⟨hg,O⟩ (a14 x.b _) J) ?_;refine b0D ?_;exact⟨_,rE1,_,_,J,J,j4 (show(C4 x.a &&C4 x.b)=Q9 x by simp_all[Q9])⟩
  .refine S3 hCC (α:=Bool) (λb=>[(1,.ptr 0 0),(4,iv x.k),(16,(.val (.bool b)))]) (λ_=>[.box x.cells]) (λb=>b=(x.k == 3 ||x.k == 4)) z8 uz_ ?_ ?_
   .
    refine qk (qC ?_ ?_)<;> intro h3
    .exact ⟨(x.k == 3),_,(by simp_all),tu_,J⟩
    .exact ⟨(x.k == 4),_,(by simp_all),tu_,J⟩
   .intro b2 cy;refine qC ?_ ?_<;>intro h4
    .refine W (c4 J c76 ⟨O,O⟩ (a19 x.a X _) J) ?_;refine b7Z ?_;refine qG b3t ?_;refine b0D ?_;exact⟨_,rE1,_,_,J,J,j4 (show(I1 x.a &&decide (x.b=[]))=Q9 x by simp_all[Q9])⟩
    .refine qC ?_ ?_<;>intro h5
     .refine qC ?_ ?_<;>intro h6
      .refine W c4a ?_;refine b7Z ?_;refine qG b3t ?_;exact d9U
      .refine qk ?_;exact e0L
     .refine qC ?_ ?_<;>intro h7
      .refine qC ?_ ?_<;>intro h8
       .refine W c4a ?_;refine b7Z ?_;refine qG b3t ?_;exact d9U
       .refine qk ?_;exact e0L
      .refine qC ?_ ?_<;>intro h9
       .refine W c4a ?_;refine b7Z ?_;refine qG b3t ?_;exact d9U
       .refine qk ?_;exact e0L
theorem b7Y{P:Program}(a b:U)(w:World):(Extern.BytealgCompare.compare #[.string (str a),.string (str b)]).run P w= .ok (.int .i64 (Go.Lib.compareBytes a b)) w:=by
 have:=Go.Lib.run_compareString (P:=P) (str a) (str b) w;rw[this];simp[str]
def a2n(a b:Int):Int:=if a<b then -1 else if b<a then 1 else 0
def V6(x y:Ky):Int:=if a2n x.k y.k≠0 then a2n x.k y.k else if Go.Lib.compareBytes x.a y.a≠0 then Go.Lib.compareBytes x.a y.a else Go.Lib.compareBytes x.b y.b
theorem c4U:∀(a b:U),Op.bytesLess a b=decide (Go.Lib.compareBytes a b= -1)
 | [],[]=>rfl
 | [],_::_=>rfl
 |_::_,[]=>by simp[Op.bytesLess,Go.Lib.compareBytes]
 |x::a,y::b=>by
  rw[Op.bytesLess,Go.Lib.compareBytes,c4U a b];by_cases h:x<y
  .simp [h]
  .by_cases h':y<x
   .have:¬x=y:=λe=>h (by rw[e]at h';exact absurd h' H);simp[h,h',this]
   .have:x=y:=by
     apply a95.1;rw[b8d]at h h';omega
    subst this;simp
theorem b1C:∀(a b:U),Go.Lib.compareBytes a b=0↔a=b
 | [],[]=>by simp[Go.Lib.compareBytes]
 | [],_::_=>by simp[Go.Lib.compareBytes]
 |_::_,[]=>by simp[Go.Lib.compareBytes]
 |x::a,y::b=>by
  rw[Go.Lib.compareBytes];by_cases h:x<y
  .have:¬x=y:=λe=>by rw[e]at h;exact absurd h H
   simp[h,this]
  .by_cases h':y<x
   .have:¬x=y:=λe=>by rw[e]at h';exact absurd h' H
    simp[h,h',this]
   .have:x=y:=by
     apply a95.1;rw[b8d]at h h';omega
    subst this;simp[b1C a b]
theorem b57:∀(a b:U),Go.Lib.compareBytes b a= -Go.Lib.compareBytes a b
 | [],[]=>rfl
 | [],_::_=>rfl
 |_::_,[]=>rfl
 |x::a,y::b=>by
  rw[Go.Lib.compareBytes,Go.Lib.compareBytes,b57 a b];by_cases h:x<y
  .have:¬y<x:=λh'=>by
    rw[b8d]at h h';omega
   simp[h,this]
  .by_cases h':y<x<;>simp[h,h']
theorem c11:∀(a b:U),Go.Lib.compareBytes a b= -1\/Go.Lib.compareBytes a b=0\/Go.Lib.compareBytes a b=1
 | [],[]=>.inr (.inl J)
 | [],_::_=>.inl J
 |_::_,[]=>.inr (.inr J)
 |x::a,y::b=>by
  rw[Go.Lib.compareBytes]
  split
  .exact .inl J
  .split
   .exact .inr (.inr J)
   .exact c11 a b
theorem a6h(a b:Int):a2n a b=0↔a=b:=by unfold a2n;split<;>(try split)<;>omega
theorem b62(x y:Ky):V6 x y=0↔x=y:=by
 obtain⟨k,a,b⟩:=x;obtain⟨k',a',b'⟩:=y;unfold V6;simp only[Ky.mk.injEq];have h1:=a6h k k';have h2:=b1C a a';have h3:=b1C b b'
 split
 .rename_i h;exact⟨λe=>absurd e h,λ⟨e,_⟩=>h1.2 e⟩
 .rename_i h;have hk:k=k':=h1.1 (I h)
  split
  .rename_i h;exact⟨λe=>absurd e h,λ⟨_,e,_⟩=>h2.2 e⟩
  .rename_i h;have ha:a=a':=h2.1 (I h);rw[h3];exact⟨λe=>⟨hk,ha,e⟩,λ⟨_,_,e⟩=>e⟩
theorem c72(x y:Ky):V6 y x= -V6 x y:=by
 unfold V6;have h1:a2n y.k x.k = -a2n x.k y.k:=by unfold a2n;split<;>split<;>(try split)<;>omega
 rw[h1,b57 x.a y.a,b57 x.b y.b];by_cases h:a2n x.k y.k=0
 .by_cases h':Go.Lib.compareBytes x.a y.a=0<;>simp[h,h']
 .simp [h]
theorem b2q(x y:Ky):V6 x y= -1\/V6 x y=0\/V6 x y=1:=by
 unfold V6
 split
 .unfold a2n
  split
  .exact .inl J
  .split
   .exact .inr (.inr J)
   .exact .inr (.inl J)
 .split
  .exact c11 _ _
  .exact c11 _ _
theorem b3k(x y:Ky):∀w,(Op.equal 39 (.agg [.int .i64 x.k,.string (str x.a),.string (str x.b)].toArray) (.agg [.int .i64 y.k,.string (str y.a),.string (str y.b)].toArray)).run CC.P w= .ok (decide (x=y)) w:=λw=>by
 show(Op.equal _ _ _).run Tryz.prog w=_;simp[Op.equal,Op.maxDepth,go_sem,a0m];obtain⟨a,b,c⟩:=x;obtain⟨a',b',c'⟩:=y;by_cases h1:a=a'<;>by_cases h2:b=b'<;>by_cases h3:c=c'<;>simp[h1,h2,h3]
theorem b0e(a:Int)(σ:List b9):b8 CC 218 [iv a] σ λr aa=>r= .ret (.val (.bool false))/\aa=σ:=by
 refine b8.anyw hCC pu_ pu_ (c7 (qO Tryz.func218 ?_)) σ;refine c6 ?_;exact⟨_,rE1,_,_,J,J,j4 H⟩
theorem b32(a b:Int)(σ:List b9):b8 CC 168 [iv a,iv b] σ λr aa=>r= .ret (iv (a2n a b))/\aa=σ:=by
 refine b8.anyw hCC pu_ pu_ (c7 (qO Tryz.func168 ?_)) σ;refine W (c4 J Tryz.call218 ⟨O,O⟩ (b0e a _) J) ?_;refine W (c4 J Tryz.call218 ⟨O,O⟩ (b0e b _) J) ?_;refine qC ?_ ?_<;>intro h1
 .cases h1
 .refine qC ?_ ?_<;>intro h3
  .cases h3
  .refine qC ?_ ?_<;>intro h4
   .have ab:a<b:=I h4;refine c6 ?_;exact⟨_,rE1,_,_,J,J,C9 (show(-1:Int)=a2n a b by rw[a2n,F ab])⟩
   .have aF:¬a<b:=I h4;refine qC ?_ ?_<;>intro h5
    .have ab:b<a:=I h5;refine c6 ?_;exact⟨_,rE1,_,_,J,J,C9 (show(1:Int)=a2n a b by rw[a2n,D aF,F ab])⟩
    .have iA:¬b<a:=I h5;refine c6 ?_;exact⟨_,rE1,_,_,J,J,C9 (show(0:Int)=a2n a b by rw[a2n,D aF,D iA])⟩
theorem d4l{l:List Int}(hx:l[i]?=some x)(hz:∀y∈l.take i,y=0)(h:x≠0):x=(l.find? λx=>decide (x≠0)).getD 0:=by
 obtain⟨ab,rfl⟩:=n_3.1 hx;have:l.find? (λx=>decide (x≠0))=some l[i]:=by
  rw[List.find?_eq_some_iff_getElem];refine⟨I h,i,ab,J,λj hj=>?_⟩;have:=hz l[j] (n_2 (i:=j) (by rw[a2y,F hj];simp));simp[this]
 rw[this];rfl
theorem d5E{l:List Int}(hx:l[i]?=some x)(hz:∀y∈l.take i,y=0)(h:x=0):∀y∈l.take (i+1),y=0:=by
 obtain⟨ab,rfl⟩:=n_3.1 hx;rw[<- b2J ab];intro y hy
 rcases J5.1 hy with hy|hy
 .exact hz y hy
 .rw [b0s.1 hy];exact h
theorem d4W{l:List Int}(hz:∀y∈l,y=0):(0:Int)=(l.find? λx=>decide (x≠0)).getD 0:=by
 have:l.find? (λx=>decide (x≠0))=none:=b8h.2 λx hx=>by simp[hz x hx]
 rw[this];rfl
theorem c9c(l:List Int)(hl:l.length<=1000000)(σ:List b9):b8 CC 167 [(.list (l.map icv) true none)] σ λr aa=>r= .ret (iv ((l.find? λx=>decide (x≠0)).getD 0))/\aa=σ:=by
 refine b8.anyw hCC pu_ pu_ (c7 (qO Tryz.func167 ?_)) σ;refine W a1z ?_;refine j8 hCC (α:=Nat) (λi=>[(3,(iv (0))),(6,(.list (l.map icv) true none)),(7,iv l.length),(8,iv i)]) (λ_=>[]) (λi=>i<=l.length/\∀x∈l.take i,x=0) (λi=>l.length -i) 0 ⟨n_4 _,H⟩ tu_ (ai:=[]) J z8 uz_ ?_;intro i ⟨hi,hz⟩;refine qk (qC ?_ ?_)<;> intro h1
 .have bm:(i:Int)<l.length:=I h1;obtain⟨x,hx⟩:=gx_ l i;refine W (p9 J O O J J t_6 t_1 X (j1 hx) J) ?_;refine qC ?_ ?_<;>intro h2
  .have hx0:x≠0:=I h2;refine c6 ?_;exact⟨_,rE1,_,_,J,J,C9 (d4l hx hz hx0)⟩
  .have hx0:x=0:=I h2;refine W j9 ?_;exact⟨(i+1),_,⟨X,X,d5E hx hz hx0⟩,tu_,J⟩
 .have aF:l.length<=i:=by
   have:¬(i:Int)<l.length:=I h1;omega
  rw[R3 aF]at hz;refine z_9 ?_;exact⟨_,rE1,_,_,J,J,C9 (d4W hz)⟩
theorem a7m(a b:U)(σ:List b9):b8 CC 219 [(sv a),(sv b)] σ λr aa=>r= .ret (iv (Go.Lib.compareBytes a b))/\aa=σ:=by
 refine b8.anyw hCC pu_ pu_ (c7 (qO Tryz.func219 ?_)) σ;refine W (c1Z (e:=Extern.BytealgCompare.compare) J Tryz.func269 J J J J O O J J (λw=>b7Y a b w)) ?_;exact c1f
theorem a2V(a b:U)(σ:List b9):b8 CC 169 [(sv a),(sv b)] σ λr aa=>r= .ret (iv (Go.Lib.compareBytes a b))/\aa=σ:=by
 refine b8.anyw hCC pu_ pu_ (c7 (qO Tryz.func169 ?_)) σ;refine W (c4 J Tryz.call219 i7 (a7m a b _) J) ?_;exact c1f
theorem d9H(x y:Ky):(([a2n x.k y.k,Go.Lib.compareBytes x.a y.a,Go.Lib.compareBytes x.b y.b].find? λx=>decide (x≠0)).getD 0)=V6 x y:=by
 unfold V6;by_cases h1:a2n x.k y.k=0
 .by_cases h2:Go.Lib.compareBytes x.a y.a=0
  .by_cases h3:Go.Lib.compareBytes x.b y.b=0<;>simp[h1,h2,h3]
  .simp [h1,h2]
 .simp [h1]
theorem c2m(x y:Ky):b8 CC 128 [.agg x.cells,.agg y.cells] [] λr aa=>r= .ret (iv (V6 x y))/\aa=[]:=by
 refine c7 (qO Tryz.func128 ?_);refine z_7 ?_;refine W (b5h J O O (xs:=[.int .i64 x.k,.string (str x.a),.string (str x.b)]) (ys:=[.int .i64 y.k,.string (str y.a),.string (str y.b)]) J J c1h (b3k x y)) ?_;refine qC ?_ ?_<;>intro h1
 .have gg:x=y:=I h1;subst gg;refine c6 ?_;exact⟨_,rE1,_,_,J,J,C9 (show(0:Int)=V6 x x from((b62 x x).2 J).symm)⟩
 .refine cW 18 ?_;refine d9d ?_;refine d9d ?_;refine hY (c4 J Tryz.call168 i7 (b32 x.k y.k _) J) ?_;refine hY a3K ?_;refine hY W9 ?_;refine hY a3K ?_;refine hY W9 ?_;refine hY (c4 J Tryz.call169 i7 (a2V x.a y.a _) J) ?_;refine hY a3K ?_;refine hY W9 ?_;refine hY a3K ?_;refine hY W9 ?_;refine hY (c4 J Tryz.call169 i7 (a2V x.b y.b _) J) ?_;refine hY (B1 ([a2n x.k y.k,Go.Lib.compareBytes x.a y.a,Go.Lib.compareBytes x.b y.b].map icv) J D6 t_6 t_1 t_8 J J J J J J J J J) ?_;refine hY (c4 J Tryz.call167 ⟨O,O⟩ (c9c _ H _) J) ?_;refine a9Y ?_;refine c6 ?_;exact⟨_,rE1,_,_,J,J,C9 (d9H x y)⟩
theorem c73{x y:Ky}(h:¬x.k=y.k):decide (x.k <y.k)=decide (V6 x y= -1):=by
 rw[V6,F (λe=>h ((a6h _ _).1 e)),a2n];by_cases h1:x.k <y.k
 .simp [h1]
 .have:y.k <x.k:=by omega
  simp[h1,this]
theorem e0g{x y:Ky}(h:x.k=y.k)(h2:¬x.a=y.a):Op.bytesLess x.a y.a=decide (V6 x y= -1):=by
 rw[V6,D (by simp[(a6h x.k y.k).2 h]),F (λe=>h2 ((b1C _ _).1 e)),c4U]
theorem e0F{x y:Ky}(h:x.k=y.k)(h2:x.a=y.a):Op.bytesLess x.b y.b=decide (V6 x y= -1):=by
 rw[V6,D (by simp[(a6h x.k y.k).2 h]),D (by simp[(b1C x.a y.a).2 h2]),c4U]
def ltK(x y:Ky):Bool:=decide (V6 x y= -1)
theorem c8Y(x y:Ky):ltK y x=decide (V6 x y=1):=by
 rw[ltK,c72]
 rcases b2q x y with h|h|h<;>simp[h]
theorem c7e{a b:List α}(h1:a.length=b.length)(h2:∀j,j<a.length->a[j]?=b[j]?):a=b:=by
 apply b9b λj=>?_;by_cases h:j<a.length
 .exact h2 j h
 .rw [b2P X,b2P X]
theorem b2w(x y:Ky)(σ:List b9):b8 CC 132 [.agg x.cells,.agg y.cells] σ λr aa=>r= .ret (.val (.bool (ltK x y)))/\aa=σ:=by
 refine b8.anyw hCC pu_ pu_ (c7 (qO Tryz.func132 ?_)) σ;refine z_7 ?_;refine qC ?_ ?_<;>intro h1
 .have hk:¬x.k=y.k:=I h1;refine c6 ?_;exact⟨_,rE1,_,_,J,J,j4 (c73 hk)⟩
 .have hk:x.k=y.k:=I h1;refine W a90 ?_;refine qC ?_ ?_<;>intro h2
  .have ha:¬x.a=y.a:=I h2;refine W (a1F J O O J J (b21 _ _)) ?_;refine c6 ?_;exact⟨_,rE1,_,_,J,J,j4 (e0g hk ha)⟩
  .have ha:x.a=y.a:=I h2;refine W (a1F J O O J J (b21 _ _)) ?_;refine c6 ?_;exact⟨_,rE1,_,_,J,J,j4 (e0F hk ha)⟩
theorem c2i(a b:List Ky)(na cA:Bool)(hl:a.length<=maxLen)(σ:List b9):b8 CC 31 [(.list (a.map Ky.cv) na none),(.list (b.map Ky.cv) cA none)] σ λr aa=>r= .ret (.val (.bool (decide (a=b))))/\aa=σ:=by
 refine b8.anyw hCC pu_ pu_ ?_ σ;unfold maxLen at hl;refine c7 (qO Tryz.func31 ?_);refine W a4W ?_;refine W a4W ?_;refine qC ?_ ?_<;>intro h1
 .have ay:¬a=b:=λg=>by simp[g]at h1
  refine c6 ?_;exact⟨_,rE1,_,_,J,J,j4 (show false=decide (a=b) by simp[ay])⟩
 .have ak:a.length=b.length:=sm_ h1;refine W a4W ?_;refine j8 hCC (α:=Nat) (λi=>[(0,(.list (a.map Ky.cv) na none)),(1,(.list (b.map Ky.cv) cA none)),(12,iv a.length),(13,iv i)]) (λ_=>[]) (λi=>i<=a.length/\∀j,j<i->a[j]?=b[j]?) (λi=>a.length -i) 0 ⟨n_4 _,λj hj=>absurd hj (Nat.not_lt_zero j)⟩ tu_ (ai:=[]) J z8 uz_ ?_;intro i ⟨hi,hp⟩;refine qk (qC ?_ ?_)<;> intro h2
  .have ab:(i:Int)<a.length:=I h2;obtain⟨x,hx⟩:=gx_ a i;obtain⟨y,hy⟩:=gx_ b i;refine cW 9 ?_;refine a3c ?_;refine hY (p9 J O O J J t_5 t_3 X (j1 hx) J) ?_;refine hY c4L ?_;refine a3c ?_;refine hY (p9 J O O J J t_5 t_3 X (j1 hy) J) ?_;refine hY c4L ?_;refine hY (d7b J O O (xs:=[.int .i64 x.k,.string (str x.a),.string (str x.b)]) (ys:=[.int .i64 y.k,.string (str y.a),.string (str y.b)]) J J c1h (b3k x y)) ?_;refine W1 ?_;refine qC ?_ ?_<;>intro h3
   .have gg:¬x=y:=I h3;refine c6 ?_;exact⟨_,rE1,_,_,J,J,j4 (show false=decide (a=b)from(a1S λg=>gg (by rw[g,hy]at hx;exact(Option.some.inj hx).symm)).symm)⟩
   .have gg:x=y:=I h3;refine W j9 ?_;exact⟨i+1,_,⟨X,X,λj hj=>by
     rcases a2J j i with h|h
     .exact hp j h
     .obtain rfl:j=i:=by omega
      rw[hx,hy,gg]⟩,tu_,J⟩
  .have aF:¬(i:Int)<a.length:=I h2;refine z_9 ?_;exact⟨_,rE1,_,_,J,J,j4 (show true=decide (a=b)from(a1B (c7e ak λj hj=>hp j X)).symm)⟩
def b9C(v n:Int):Int:=if n<=1 then 0 else v%n
theorem b5T{v n:Int}(hn:1<=n):0<=b9C v n/\b9C v n<n:=by
 unfold b9C
 split
 .omega
 .exact ⟨Int.emod_nonneg _ X,Int.emod_lt_of_pos _ X⟩
def b9U(l:List Int)(at_:Nat):Int:=(l[at_]?).getD ((at_:Int)*7%11)
def Q0(l:List Int)(at_:Nat)(n:Int):Int:=b9C (b9U l at_) n
abbrev x9(l:List Int)(nn:Bool)(at_:Nat):b9:=.box [.list (l.map icv) nn none,iv at_]
theorem H7(l:List Int)(nn:Bool)(k:Nat):b11 (x9 l nn k):=O0.all ⟨P5 _ _,.val _,O⟩
theorem b4U(v n:Int)(hn:n<=4611686018427387904)(σ:List b9):b8 CC 60 [iv v,iv n] σ λr aa=>r= .ret (iv (b9C v n))/\aa=σ:=by
 refine b8.anyw hCC pu_ pu_ (c7 (qO Tryz.func60 ?_)) σ;refine qC ?_ ?_<;>intro h1
 .have bf:n<=1:=I h1;refine c6 ?_;exact⟨_,rE1,_,_,J,J,C9 (by rw[b9C,F bf])⟩
 .have bf:¬n<=1:=I h1;have ht:v.tmod n=v%n\/v.tmod n+n=v%n/\v.tmod n<0:=by
   rcases Int.le_total 0 v with hv|hv
   .exact .inl (c8y hv)
   .rw [Int.tmod_eq_emod];split
    .exact .inl X
    .right;have:=Int.emod_lt_of_pos v (show 0<n by omega);have h5:(n.natAbs:Int)=n:=by omega
     omega
  have bZ:=Int.emod_nonneg v (show n≠0 by omega);have ce:=Int.emod_lt_of_pos v (show 0<n by omega);have gh:=Int.tmod_lt_of_pos v (show 0<n by omega);have hm4: -n<=v.tmod n:=by omega
  refine W (a0Z J O O J J (d0O X)) ?_;refine qC ?_ ?_<;>intro h2
  .have ab:v.tmod n<0:=I h2;refine W a4P ?_;refine c6 ?_;exact⟨_,rE1,_,_,J,J,C9 (by rw[b9C,D bf];omega)⟩
  .have ab:¬v.tmod n<0:=I h2;refine c6 ?_;exact⟨_,rE1,_,_,J,J,C9 (by rw[b9C,D bf];omega)⟩
theorem M4(l:List Int)(nn:Bool)(k:Nat)(σ:List b9)(q:Nat)(hk:σ[q]?=some (x9 l nn k))(aV:k<=1000000000)(hl:l.length<=maxLen)(n:Int)(hn:n<=4611686018427387904):b8 CC 20 [.ptr q 0,iv n] σ λr aa=>∃_:Unit,r= .ret (iv (Q0 l k n))/\aa=σ.set q (x9 l nn (k+1))/\True:=by
 have cp:=hl;unfold maxLen at cp;unfold x9 at hk;have hq:q<σ.length:=(n_3.1 hk).1;refine cO Tryz.func20 ?_;refine z_0 ?_;refine b2H ?_;refine a61 ?_;refine cY b4Q ?_;refine cY c01 ?_;refine cY (b9q J O J J J X X) ?_;refine cY (a0Z J O J J J (c1K X X)) ?_;refine z_5 ?_;refine G4 (G4 ?_);refine b5y ?_;refine hY b4Q ?_;refine hY c01 ?_;refine a5e ?_;refine d8N ?_;refine hY a1z ?_;refine hY a5E ?_;refine a7k (w9 ?_);refine cC ?_ ?_<;>intro h1
 .have ab:(k:Int)<l.length:=I h1;obtain⟨v,hv⟩:=gx_ l k;refine cW 11 ?_;refine a5e ?_;refine d8N ?_;refine a5e ?_;refine hY b4Q ?_;refine hY c01 ?_;refine hY c51 ?_;refine hY a7U ?_;refine b5d ?_;refine w9 ?_;refine a61 ?_;refine cY b4Q ?_;refine cY c01 ?_;refine cY j9 ?_;refine cY a6W ?_;refine d7c ?_;refine w9 ?_;refine a78 ?_;refine yc J Tryz.call60 i7 (b4U v n hn _) ?_;refine a58 ?_;exact⟨_,rE1,⟨(),by rw[Q0,b9U,hv];rfl,J,O⟩⟩
 .have aF:¬(k:Int)<l.length:=I h1;have hv:l[k]?=none:=b2P X;refine C2 ?_;refine a61 ?_;refine cY b4Q ?_;refine cY c01 ?_;refine cY j9 ?_;refine cY a6W ?_;refine d7c ?_;refine w9 ?_;refine a78 ?_;refine yc J Tryz.call60 i7 (b4U _ n hn _) ?_;refine a58 ?_;exact⟨_,rE1,⟨(),by rw[Q0,b9U,hv];rfl,J,O⟩⟩
theorem J7(l:List Int)(nn:Bool)(k:Nat)(σ:List b9)(q:Nat)(hk:σ[q]?=some (x9 l nn k))(aV:k<=1000000000)(hl:l.length<=maxLen)(n m:Int)(hn:m<=4611686018427387904):b8 CC 12 [.ptr q 0,iv n,iv m] σ λr aa=>∃_:Unit,r= .ret (.val (.bool (decide (Q0 l k m<n))))/\aa=σ.set q (x9 l nn (k+1))/\True:=by
 refine qO Tryz.func12 ?_;refine qD (c5 J a7G i7 (M4 l nn k σ q hk aV hl m hn) J ?_);intro _ _;exact d2K
theorem a6c(l:List Int)(nn:Bool)(k:Nat)(σ:List b9)(q:Nat)(hk:σ[q]?=some (x9 l nn k))(aV:k<=1000000000)(hl:l.length<=maxLen)(ls:List Int)(eO:ls≠[])(hln:ls.length<=1000):b8 CC 51 [.ptr q 0,.list (ls.map icv) true none] σ λr aa=>∃v:Int,r= .ret (iv v)/\aa=σ.set q (x9 l nn (k+1))/\v∈ls:=by
 have iq:=a81.2 eO;have hb:=b5T (v:=b9U l k) (n:=(ls.length:Int)) X;obtain⟨v,hv⟩:∃v,ls[(Q0 l k (ls.length:Int)).toNat]?=some v:=⟨ls[(Q0 l k (ls.length:Int)).toNat]'(by unfold Q0;omega),H⟩;have hb':0<=Q0 l k (ls.length:Int):=hb.1;refine qO Tryz.func51 ?_;refine W a1z ?_;refine cC ?_ ?_<;>intro h1
 .exfalso;simp at h1;exact eO h1
 .refine qk (W a1z ?_);refine qD (c5 J a7G i7 (M4 l nn k σ q hk aV hl (ls.length:Int) X) J ?_);intro _ _;refine W c51 ?_;exact d6X
theorem N4(l:List Int)(nn:Bool)(k:Nat)(σ:List b9)(q:Nat)(hk:σ[q]?=some (x9 l nn k))(aV:k<=1000000000)(hl:l.length<=maxLen)(ls:List U)(eO:ls≠[])(hln:ls.length<=1000):b8 CC 19 [.ptr q 0,.list (ls.map scv) true none] σ λr aa=>∃v:U,r= .ret (sv v)/\aa=σ.set q (x9 l nn (k+1))/\v∈ls:=by
 have iq:=a81.2 eO;have hb:=b5T (v:=b9U l k) (n:=(ls.length:Int)) X;obtain⟨v,hv⟩:∃v,ls[(Q0 l k (ls.length:Int)).toNat]?=some v:=⟨ls[(Q0 l k (ls.length:Int)).toNat]'(by unfold Q0;omega),H⟩;have hb':0<=Q0 l k (ls.length:Int):=hb.1;refine qO Tryz.func19 ?_;refine W I7 ?_;refine cC ?_ ?_<;>intro h1
 .exfalso;simp at h1;exact eO h1
 .refine b24 ?_;refine qD (c5 J a7G i7 (M4 l nn k σ q hk aV hl (ls.length:Int) X) J ?_);intro _ _;refine W (p9 J O O J J t_2 t_0 X (j1 hv) J) ?_;exact d6X
def Y7:List U:=([[112],[113],[115]]:List U)
theorem a6R(σ:List b9):b8 CC 69 [] σ λr aa=>r= .ret (.list (Y7.map scv) true none)/\aa=σ:=by
 refine b8.anyw hCC pu_ pu_ (c7 (qO Tryz.func69 ?_)) σ;refine W (B1 (Y7.map scv) J ⟨J,J,J,O⟩ t_2 t_0 t_4 J J J J J J J J J) ?_;exact c9D
def a0c:List U:=([[102],[103],[104],[107]]:List U)
theorem b2z(σ:List b9):b8 CC 29 [] σ λr aa=>r= .ret (.list (a0c.map scv) true none)/\aa=σ:=by
 refine b8.anyw hCC pu_ pu_ (c7 (qO Tryz.func29 ?_)) σ;refine W (B1 (a0c.map scv) J ⟨J,J,J,J,O⟩ t_2 t_0 t_4 J J J J J J J J J) ?_;exact c9D
def a6n:List U:=([[116],[117],[118]]:List U)
theorem c2Z(σ:List b9):b8 CC 82 [] σ λr aa=>r= .ret (.list (a6n.map scv) true none)/\aa=σ:=by
 refine b8.anyw hCC pu_ pu_ (c7 (qO Tryz.func82 ?_)) σ;refine W (B1 (a6n.map scv) J ⟨J,J,J,O⟩ t_2 t_0 t_4 J J J J J J J J J) ?_;exact c9D
def a18:List U:=([[97,46,100,97,116],[100,47,98,46,100,97,116],[99],[97,46,115,114,99],[120,46,115,114,99]]:List U)
theorem c2t(σ:List b9):b8 CC 83 [] σ λr aa=>r= .ret (.list (a18.map scv) true none)/\aa=σ:=by
 refine b8.anyw hCC pu_ pu_ (c7 (qO Tryz.func83 ?_)) σ;refine W (B1 (a18.map scv) J ⟨J,J,J,J,J,O⟩ t_2 t_0 t_4 J J J J J J J J J) ?_;exact c9D
def a1q:List U:=([[110],[109]]:List U)
theorem b2r(σ:List b9):b8 CC 84 [] σ λr aa=>r= .ret (.list (a1q.map scv) true none)/\aa=σ:=by
 refine b8.anyw hCC pu_ pu_ (c7 (qO Tryz.func84 ?_)) σ;refine W (B1 (a1q.map scv) J ⟨J,J,O⟩ t_2 t_0 t_4 J J J J J J J J J) ?_;exact c9D
theorem T4{v:U}(h:v∈Y7\/v∈a0c\/v∈a6n\/v∈a18\/v∈a1q):v.length<=8:=by
 rcases h with h|h|h|h|h<;>revert v<;>decide
def sub(s:U)(a e:Nat):U:=(s.take e).drop a
theorem c4p{s:U}{e:Nat}(h:e<=s.length):(sub s a e).length=e-a:=by simp[sub];omega
def b0F(p s:U):Bool:=p.isPrefixOf s
def c1H(p s:U):Bool:=decide (p.length<=s.length)&&decide (s.drop (s.length -p.length)=p)
theorem d9E(s p:U){x y:Bool}(hx:x=decide ((s.length:Int)>=p.length))(hy:x=true->y=decide ((s.take p.length).drop 0=p)):(x&&y)=b0F p s:=by
 subst hx;by_cases h:(s.length:Int)>=p.length
 .rw [hy (a1B h),a1B h,a9O,b0Q,b0F];by_cases h2:s.take p.length=p
  .have:p.isPrefixOf s=true:=by rw[b8J];exact⟨s.drop p.length,by rw[show p++s.drop p.length=s.take p.length++s.drop p.length by rw[h2]];exact b4W _ _⟩
   simp[h2,this]
  .have:p.isPrefixOf s=false:=by
    cases hq:p.isPrefixOf s with
    |false=>rfl
    |true=>
     rw[b8J]at hq;obtain⟨t,rfl⟩:=hq;exact absurd (List.take_left' J) h2
   simp[h2,this]
 .have:p.isPrefixOf s=false:=by
   cases hq:p.isPrefixOf s with
   |false=>rfl
   |true=>
    rw[b8J]at hq;obtain⟨t,rfl⟩:=hq;exfalso;apply h;simp;omega
  rw[b0F,this,a1S h];rfl
theorem d9T(s p:U){x y:Bool}(hx:x=decide ((s.length:Int)>=p.length))(hy:x=true->y=decide ((s.take s.length).drop (s.length -p.length)=p)):(x&&y)=c1H p s:=by
 subst hx;unfold c1H;by_cases h:(s.length:Int)>=p.length
 .rw [hy (a1B h),a1B h,a6K,a1B (show p.length<=s.length by omega)]
 .rw [a1S h,a1S (show ¬p.length<=s.length by omega)];rfl
theorem b2W(s p:U)(σ:List b9):b8 CC 275 [(sv s),(sv p)] σ λr aa=>r= .ret (.val (.bool (b0F p s)))/\aa=σ:=by
 refine b8.anyw hCC pu_ pu_ (c7 (qO Tryz.func275 ?_)) σ;refine W R6 ?_;refine W R6 ?_;refine a1y ?_;refine qG c5i ?_;refine qG (λhg=>L8 (h:=p.length) J hg J t_7 J ⟨hg,_,_,J,by first|omega|(simp at hg;omega),by first|omega|(simp at hg;omega)⟩ X (sm_ hg)) ?_;refine c3Z ?_;refine b0D ?_;exact⟨_,rE1,_,_,J,J,j4 (d9E s p J λ_=>J)⟩
theorem a6F(s p:U)(σ:List b9):b8 CC 234 [(sv s),(sv p)] σ λr aa=>r= .ret (.val (.bool (b0F p s)))/\aa=σ:=by
 refine b8.anyw hCC pu_ pu_ (c7 (qO Tryz.func234 ?_)) σ;refine W (c4 J Tryz.call275 i7 (b2W s p _) J) ?_;exact c4f
theorem b3u(s p:U)(hs:s.length<=1000000000000)(hp:p.length<=1000000000000)(σ:List b9):b8 CC 188 [(sv s),(sv p)] σ λr aa=>r= .ret (.val (.bool (c1H p s)))/\aa=σ:=by
 refine b8.anyw hCC pu_ pu_ (c7 (qO Tryz.func188 ?_)) σ;refine W R6 ?_;refine W R6 ?_;refine a1y ?_;refine qG c5i ?_;refine a8a ?_;refine qG (λhg=>b16 J hg hg J J a7y a7y) ?_;refine qG (λhg=>L8 (a:=(s.length -p.length)) J hg J t_7 ⟨hg,_,_,J,by first|omega|(simp at hg;omega),by first|omega|(simp at hg;omega)⟩ J (sm_ hg) (n_7 _)) ?_;refine c3Z ?_;refine b0D ?_;exact⟨_,rE1,_,_,J,J,j4 (d9T s p J λ_=>J)⟩
theorem a6E(s p:U)(hs:s.length<=1000000000000)(hp:p.length<=1000000000000)(σ:List b9):b8 CC 152 [(sv s),(sv p)] σ λr aa=>r= .ret (.val (.bool (c1H p s)))/\aa=σ:=by
 refine b8.anyw hCC pu_ pu_ (c7 (qO Tryz.func152 ?_)) σ;refine W (c4 J Tryz.call188 i7 (b3u s p hs hp _) J) ?_;exact c4f
theorem c1x{s:U}{e:Nat}(h:e<s.length):s[e]?=some (s[e]?.getD 0):=by simp[h]
theorem c3t{p s:U}(h:b0F p s=true):p.length<=s.length:=by
 unfold b0F at h;rw[b8J]at h;exact h.length_le
structure Tok where
 k:Int
 t:U
 n:Int
 at_:Int
variable{T:List Tok}{at_:Int}{t:Tok}
abbrev Tok.cells(x:Tok):List CV:=[iv x.k,sv x.t,iv x.n,iv x.at_]
def Tok.cv(x:Tok):List CV:=x.cells
theorem a3V(l:List Tok)(nn:Bool):r5 (.list (l.map Tok.cv) nn none):=P7 (f:=Tok.cv) (λ_=>⟨.val _,.val _,.val _,.val _,O⟩) l nn
theorem Y0(n:Nat)(l:List Tok)(nn:Bool):Old n (.list (l.map Tok.cv) nn none):=(a3V l nn).old
def a44(l:U):Int:=l.foldl (λn b=>min (10*n+((b.toNat:Int) -48)) 9007199254740993) 0
def a4u:U->Option Nat
 | []=>none
 |b::l=>if 32<=b.toNat/\b.toNat<=126 then(if b.toNat=34 then some 0 else(a4u l).map (· +1))else none
def F0(s:U)(a:Nat)(b:UInt8):Tok×Int×Int:=
 if l9 b.toNat=1 then
  (if 24<A9 s a [1,2,3] -a then(⟨0,[],0,0⟩,0,2)else(⟨1,sub s a (A9 s a [1,2,3]),0,0⟩,A9 s a [1,2,3],0))
 else if l9 b.toNat=2 then
  (if 9007199254740992<a44 (sub s a (A9 s a [2]))then(⟨0,[],0,0⟩,0,3)else(⟨2,[],a44 (sub s a (A9 s a [2])),0⟩,A9 s a [2],0))
 else if l9 b.toNat=7 then
  (match a4u (s.drop (a+1))with
   |none=>(⟨0,[],0,0⟩,0,9)
   |some n=>(⟨3,sub s (a+1) (a+1+n),0,0⟩,a+1+n+1,0))
 else if l9 b.toNat=8 then
  (if b0F [61,61] (s.drop a)=true then(⟨4,sub s a (a+2),0,0⟩,a+2,0)else(⟨4,sub s a (a+1),0,0⟩,a+1,0))
 else(⟨0,[],0,0⟩,0,9)
theorem a3E{s:U}{e:Nat}{b:UInt8}(h:s[e]?=some b):a4u (s.drop e)=if 32<=b.toNat/\b.toNat<=126 then(if b.toNat=34 then some 0 else(a4u (s.drop (e+1))).map (· +1))else none:=by
 obtain⟨ab,rfl⟩:=n_3.1 h;rw[R0 ab];rfl
theorem b5C{s:U}{e:Nat}(h:s.length<=e):a4u (s.drop e)=none:=by rw[T6 h];rfl
theorem c7c{l:U}{b:UInt8}(h:l[j]?=some b):a44 (l.take (j+1))=min (10*a44 (l.take j)+((b.toNat:Int) -48)) 9007199254740993:=by
 obtain⟨ab,rfl⟩:=n_3.1 h;rw[<- b2J ab,a44,b7m];rfl
theorem b4c{l:U}(h:∀b∈l,48<=b.toNat/\b.toNat<=57):0<=a44 l/\a44 l<=9007199254740993:=by
 unfold a44
 suffices ∀(l:U) (n:Int),0<=n->n<=9007199254740993->(∀b∈l,48<=b.toNat/\b.toNat<=57)->0<=l.foldl (λn b=>min (10*n+((b.toNat:Int) -48)) 9007199254740993) n/\l.foldl (λn b=>min (10*n+((b.toNat:Int) -48)) 9007199254740993) n<=9007199254740993 from this l 0 X X h
 intro l
 induction l with
 |nil=>intro n h0 h1 _;exact⟨h0,h1⟩
 |cons b l ih=>
  intro n h0 h1 h;have hb:=h b H;exact ih (min (10*n+((b.toNat:Int) -48)) 9007199254740993) X X λc hc=>h c (by simp[hc])
theorem a5t{b:UInt8}:l9 b.toNat=2↔48<=b.toNat/\b.toNat<=57:=by
 unfold l9;constructor
 .intro h;split at h
  .omega
  .split at h
   .omega
   .exfalso;revert h;repeat' split
    all_goals omega
 .intro h;rw[D X,F X]
theorem e1j{c:Nat}(h:48<=c/\c<=57):IntKind.i64.wrap (IntKind.u8.wrap ((c:Int) -48))=(c:Int) -48:=by
 obtain⟨h1,h2⟩:=h;simp[IntKind.wrap,IntKind.bits,IntKind.signed];omega
theorem a2e{p:UInt8->Bool}{b:UInt8}:∀{l:U},b∈l.takeWhile p->p b=true
 | [],h=>by simp at h
 |c::l,h=>by
  rw[b0d]at h;split at h
  .rename_i hc
   rcases J0.1 h with rfl|h
   .exact hc
   .exact a2e h
  .simp at h
theorem b4w{s:U}:∀b∈sub s a (A9 s a [2]),48<=b.toNat/\b.toNat<=57:=by
 intro b hb;have e:sub s a (A9 s a [2])=(s.drop a).takeWhile (inK [2]):=by
  unfold sub A9;rw[List.drop_take,d0i];have h:=List.takeWhile_prefix (inK [2]) (l:=s.drop a);exact(List.prefix_iff_eq_take.1 h).symm
 rw[e]at hb;have:=a2e hb;simp[inK]at this;exact a5t.1 this
theorem c6u(s:U)(a:Nat)(b:UInt8)(hb:s[a]?=some b)(m:List (Int×Int))(hm:KM m)(hs:s.length<=1000000000000):b8 CC 190 [(sv s),iv a,.map 0] [b9.map (gm kb kv m)] λr τ=>∃_:Unit,a1t [b9.map (gm kb kv m)].length τ r (.ret (.tup [.agg (F0 s a b).1.cells,(iv ((F0 s a b).2.1)),(iv ((F0 s a b).2.2))]))/\b30 [b9.map (gm kb kv m)].length τ τ [b9.map (gm kb kv m)]/\[b9.map (gm kb kv m)].length<=[b9.map (gm kb kv m)].length/\True:=by
 have fR:=(n_3.1 hb).1;refine qO Tryz.func190 ?_;refine qD (p7 J a3m J j5 ?_);refine W b9K ?_;refine W e05 ?_;refine qC ?_ ?_<;>intro h1
 .have bw:l9 b.toNat=1:=by rw[<- hm];simpa using h1
  have ah:=a2t (ks:=[1,2,3]) (show a<=s.length by omega);refine W (B1 ([1,2,3].map icv) J ⟨J,J,J,O⟩ t_6 t_1 t_8 J J J J J J J J J) ?_;refine W (c4 J d1K a1x (a8M hm X hs G J) J) ?_;refine W a92 ?_;refine qC ?_ ?_<;>intro h2
  .have hn:24<A9 s a [1,2,3] -a:=sm_ h2;refine W d4e ?_;refine z_2 ?_;exact⟨_,r3 (rs:=[.cell 6 231,.tmp 7,.tmp 8]) (cs:=[_,_,_]) J b2E (n_5 J),⟨(),.ret (a1d (by rw[F0,F bw,F hn];rfl) pu_),⟨.same (Z5 _ _),O⟩,n_7 _,O⟩⟩
  .have hn:¬24<A9 s a [1,2,3] -a:=sm_ h2;refine W (L8 (a:=a) (h:=(A9 s a [1,2,3])) J O J t_7 a0T a0T X X) ?_;refine W c2n ?_;refine z_2 ?_;exact⟨_,r3 (rs:=[.cell 6 231,.tmp 7,.tmp 8]) (cs:=[_,_,_]) J b2E (n_5 J),⟨(),.ret (a1d (by rw[F0,F bw,D hn];rfl) pu_),⟨.same (Z5 _ _),O⟩,n_7 _,O⟩⟩
 .have bw:¬l9 b.toNat=1:=by rw[<- hm];simpa using h1
  refine qC ?_ ?_<;>intro h3
  .have bK:l9 b.toNat=2:=by rw[<- hm];simpa using h3
   have ah:=a2t (ks:=[2]) (show a<=s.length by omega);have hdg:=b4w (s:=s) (a:=a);have hln:=c4p (a:=a) ah.2;generalize hl:sub s a (A9 s a [2])=ds at hdg hln;refine W (B1 ([2].map icv) J ⟨J,O⟩ t_6 t_1 t_8 J J J J J J J J J) ?_;refine W (c4 J d1K a1x (a8M hm X hs G J) J) ?_;refine W (L8 (a:=a) (h:=(A9 s a [2])) J O J t_7 a0T a0T X X) ?_;refine W (d7E J O J t_7 Z3 b3H (by have:=c4p (a:=a) ah.2;unfold sub at this;omega)) ?_;refine W a9U ?_;refine j8 hCC (α:=Nat) (λj=>[(6,.ptr 1 0),(10,(iv (A9 s a [2]:Int))),(11,(iv (a44 (ds.take j)))),(50,(.list (ds.map bcv) true none)),(51,iv ds.length),(52,iv j)]) (λ_=>[b9.map (gm kb kv m),.box (Tok.cells ⟨0,[],0,0⟩)]) (λj=>j<=ds.length) (λj=>ds.length -j) 0 (n_4 _) ⟨o0,o0,o0,⟨O,(by rw[<- hl];rfl)⟩,⟨O,(by rw[<- hl];rfl)⟩,o0,O⟩ (ai:=[]) J z8 uz_ ?_;intro j hj;refine qk (qC ?_ ?_)<;> intro h4
   .have cc:(j:Int)<ds.length:=I h4;obtain⟨c,hc⟩:=gx_ ds j;have hcd:=hdg c (n_2 hc);have hnb:=b4c (l:=ds.take j) λc hc=>hdg c (b0C hc);refine W (p9 J O O J J Z3 a1P X (j1 hc) J) ?_;refine W (b9q J J O J J X X) ?_;refine W a0d ?_;refine W (a7a J O J b3H d0x (show IntKind.i64.wrap (IntKind.u8.wrap ((c.toNat:Int) -48))=(c.toNat:Int) -48 from e1j hcd)) ?_;refine W a4P ?_;refine W (d9i J O J J J) ?_;refine W j9 ?_;exact⟨(j+1),_,⟨X,X⟩,⟨o0,o0,⟨O,(n_8 (λz:Int=>iv z) (c7c hc).symm)⟩,o0,o0,o0,O⟩,J⟩
   .have cc:ds.length<=j:=by
     have:¬(j:Int)<ds.length:=I h4;omega
    rw[R3 cc]at*;refine j6 ?_;refine qC ?_ ?_<;>intro h5
    .have hn:9007199254740992<a44 (sub s a (A9 s a [2])):=by rw[hl];simpa using h5
     refine W d4e ?_;refine z_2 ?_;exact⟨_,r3 (rs:=[.cell 6 231,.tmp 7,.tmp 8]) (cs:=[_,_,_]) J b2E (n_5 J),⟨(),.ret (a1d (by rw[F0,D bw,F bK,F hn];rfl) pu_),⟨.same (Z5 _ _),O⟩,n_7 _,O⟩⟩
    .have hn:¬9007199254740992<a44 (sub s a (A9 s a [2])):=by rw[hl];simpa using h5
     refine W c2n ?_;refine z_2 ?_;exact⟨_,r3 (rs:=[.cell 6 231,.tmp 7,.tmp 8]) (cs:=[_,_,_]) J b2E (n_5 J),⟨(),.ret (a1d (by rw[F0,D bw,F bK,D hn,hl];rfl) pu_),⟨.same (Z5 _ _),O⟩,n_7 _,O⟩⟩
  .have bK:¬l9 b.toNat=2:=by rw[<- hm];simpa using h3
   refine qC ?_ ?_<;>intro h6
   .have fJ:l9 b.toNat=7:=by rw[<- hm];simpa using h6
    refine W j9 ?_;refine j8 hCC (α:=Nat) (λe=>[(0,(sv s)),(1,iv a),(6,.ptr 1 0),(14,iv e)]) (λ_=>[b9.map (gm kb kv m),.box (Tok.cells ⟨0,[],0,0⟩)]) (λe=>a+1<=e/\e<=s.length/\a4u (s.drop (a+1))=(a4u (s.drop e)).map (· +(e- (a+1)))) (λe=>s.length -e) (a+1) ⟨n_7 _,X,by cases a4u (s.drop (a+1))<;>simp⟩ tu_ (ai:=[]) J z8 uz_ ?_;intro e ⟨fK,he2,he⟩;refine a7w ?_;refine a1y ?_;refine qG e2k ?_;refine a4k ?_;refine a1y ?_;refine qG e2k ?_;refine a4k ?_;refine qC ?_ ?_<;>intro h7
    .have dR:e<s.length/\32<=(s[e]?.getD 0).toNat/\(s[e]?.getD 0).toNat<=126:=sm_ h7;obtain⟨c,hc,hcd⟩:∃c,s[e]?=some c/\s[e]?.getD 0=c:=⟨s[e]?.getD 0,c1x dR.1,J⟩;rw[hcd]at dR;rw[a3E hc,F dR.2]at he;refine W (O6 J O O J J t_7 X hc) ?_;refine qC ?_ ?_<;>intro h8
     .have h34:c.toNat=34:=sm_ h8;rw[F h34]at he;obtain⟨n,rfl⟩:∃n,e=a+1+n:=⟨e- (a+1),X⟩;have fB:a4u (s.drop (a+1))=some n:=by rw[he];simp
      refine W j9 ?_;refine W (L8 (a:=(a+1)) (h:=(a+1+n)) J O J t_7 a0T a0T X X) ?_;refine W c2n ?_;refine W j9 ?_;refine z_2 ?_;exact⟨_,r3 (rs:=[.cell 6 231,.tmp 7,.tmp 8]) (cs:=[_,_,_]) J b2E (n_5 J),⟨(),.ret (a1d (by rw[F0,D bw,D bK,F fJ,fB];rfl) pu_),⟨.same (Z5 _ _),O⟩,n_7 _,O⟩⟩
     .have h34:¬c.toNat=34:=sm_ h8;rw[D h34]at he;refine W j9 ?_;exact⟨(e+1),_,⟨X,X,X,by rw[he];cases a4u (s.drop (e+1))<;>simp;omega⟩,tu_,J⟩
    .have eg:a4u (s.drop e)=none:=by
      rcases a2J e s.length with h|h
      .rw [a3E (c1x h),D];intro hh;simp at h7;omega
      .exact b5C h
     rw[eg]at he;refine j6 ?_;refine W d4e ?_;refine z_2 ?_;exact⟨_,r3 (rs:=[.cell 6 231,.tmp 7,.tmp 8]) (cs:=[_,_,_]) J b2E (n_5 J),⟨(),.ret (a1d (by rw[F0,D bw,D bK,F fJ,he];rfl) pu_),⟨.same (Z5 _ _),O⟩,n_7 _,O⟩⟩
   .have fJ:¬l9 b.toNat=7:=by rw[<- hm];simpa using h6
    refine qC ?_ ?_<;>intro h9
    .have hk8:l9 b.toNat=8:=by rw[<- hm];simpa using h9
     refine W j9 ?_;refine W (L8 (a:=a) J O J t_7 a0T J X (n_7 _)) ?_;refine W (c4 J Tryz.call234 o8 (a6F ((s.take s.length).drop a) [61,61] _) J) ?_;refine qC ?_ ?_<;>intro bb
     .rw [a6K]at bb;have cl:=c3t bb;rw[a94]at cl;have cl:2<=s.length -a:=cl;refine W j9 ?_;refine W (L8 (a:=a) (h:=(a+2)) J O J t_7 a0T a0T X X) ?_;refine W c2n ?_;refine z_2 ?_;exact⟨_,r3 (rs:=[.cell 6 231,.tmp 7,.tmp 8]) (cs:=[_,_,_]) J b2E (n_5 J),⟨(),.ret (a1d (by rw[F0,D bw,D bK,D fJ,F hk8,F bb];rfl) pu_),⟨.same (Z5 _ _),O⟩,n_7 _,O⟩⟩
     .rw [a6K]at bb;have hp0:¬b0F [61,61] (s.drop a)=true:=by rw[bb];decide
      refine W (L8 (a:=a) (h:=(a+1)) J O J t_7 a0T a0T X X) ?_;refine W c2n ?_;refine z_2 ?_;exact⟨_,r3 (rs:=[.cell 6 231,.tmp 7,.tmp 8]) (cs:=[_,_,_]) J b2E (n_5 J),⟨(),.ret (a1d (by rw[F0,D bw,D bK,D fJ,F hk8,D hp0];rfl) pu_),⟨.same (Z5 _ _),O⟩,n_7 _,O⟩⟩
    .have hk8:¬l9 b.toNat=8:=by rw[<- hm];simpa using h9
     refine W d4e ?_;refine z_2 ?_;exact⟨_,r3 (rs:=[.cell 6 231,.tmp 7,.tmp 8]) (cs:=[_,_,_]) J b2E (n_5 J),⟨(),.ret (a1d (by rw[F0,D bw,D bK,D fJ,D hk8];rfl) pu_),⟨.same (Z5 _ _),O⟩,n_7 _,O⟩⟩
theorem d0K{s:U}{b:UInt8}(hb:s[a]?=some b){m:List (Int×Int)}(hm:KM m)(hs:s.length<=1000000000000)(hq:σ[q]?=some (.map (gm kb kv m))):b8 CC 190 [(sv s),iv a,.map q] σ λr τ=>r= .ret (.tup [.agg (F0 s a b).1.cells,(iv ((F0 s a b).2.1)),(iv ((F0 s a b).2.2))])/\τ=σ:=
 b2h hCC (c9b m) pu_ hq (.cons (.val _) (.cons (.val _) (.cons (.map J) .nil))) (c6u s a b hb m hm hs)
def S9(s:U)(a:Nat):Nat:=a+((s.drop a).takeWhile (· != 10)).length
theorem c4Y:∀(l:U),(Go.Lib.indexByte l 10<0->(l.takeWhile (· != 10)).length=l.length)/\(0<=Go.Lib.indexByte l 10->Go.Lib.indexByte l 10=((l.takeWhile (· != 10)).length:Nat))
 | []=>⟨λ_=>J,λh=>by rw[Go.Lib.indexByte]at h;omega⟩
 |b::l=>by
  have ih:=c4Y l;rw[Go.Lib.indexByte,b0d];by_cases hb:b=10
  .subst hb;exact⟨λh=>by simp at h,λh=>by simp⟩
  .have h1:(b != 10)=true:=I hb;have h2:(b == 10)=false:=I hb;rw[h1,h2];have hg:=Go.Lib.indexByte_ge l 10;simp only[if_true,if_false,C5,b8x];by_cases h3:Go.Lib.indexByte l 10= -1
   .rw [h3];have:=ih.1 X;exact⟨λ_=>by simp;omega,λh=>by simp at h⟩
   .rw [D (I h3)];have:=ih.2 X;exact⟨λh=>by omega,λ_=>by omega⟩
theorem a7S{s:U}(h:a<=s.length):S9 s a<=s.length:=by
 unfold S9;have:=(List.takeWhile_sublist (· != 10) (l:=s.drop a)).length_le;rw[a94]at this;omega
theorem b17{s:U}{b:UInt8}(h:s[a]?=some b)(hb:l9 b.toNat=6):a<S9 s a:=by
 obtain⟨ab,rfl⟩:=n_3.1 h;unfold S9;rw[R0 ab,b0d];have:(s[a] != 10)=true:=by
  cases hq:(s[a] != 10)with
  |true=>rfl
  |false=>
   have:s[a]=10:=I hq;rw[this]at hb;revert hb;decide
 rw[this];simp
def a0W:Nat->U->Nat->Option (List Tok)
 |0,_,_=>none
 |f+1,s,i=>match s[A9 s i [5]]? with
  |none=>some [⟨5,[],0,(A9 s i [5]:Nat)⟩]
  |some b=>if l9 b.toNat=6 then a0W f s (S9 s (A9 s i [5]))
   else if(F0 s (A9 s i [5]) b).2.2≠0 then none
   else(a0W f s (F0 s (A9 s i [5]) b).2.1.toNat).map (({(F0 s (A9 s i [5]) b).1 with at_:=(A9 s i [5]:Nat)}:Tok)::·)
def a3v(s:U):Option (List Tok):=if 16384<s.length then none else a0W (s.length+1) s 0
theorem b7N{s:U}(h:i1=A9 s i [5])(h2:s.length<=i1):a0W (f+1) s i=some [⟨5,[],0,(i1:Nat)⟩]:=by
 subst h;rw[a0W,b2P h2]
theorem b9S{s:U}{b:UInt8}(h:i1=A9 s i [5])(h2:s[i1]?=some b)(h3:l9 b.toNat=6):a0W (f+1) s i=a0W f s (S9 s i1):=by
 subst h;rw[a0W,h2];simp only;rw[F h3]
theorem b8k{s:U}{b:UInt8}(h:i1=A9 s i [5])(h2:s[i1]?=some b)(h3:¬l9 b.toNat=6)(h4:(F0 s i1 b).2.2≠0):a0W (f+1) s i=none:=by
 subst h;rw[a0W,h2];simp only;rw[D h3,F h4]
theorem b77{s:U}{b:UInt8}(h:i1=A9 s i [5])(h2:s[i1]?=some b)(h3:¬l9 b.toNat=6)(h4:¬(F0 s i1 b).2.2≠0):a0W (f+1) s i=(a0W f s (F0 s i1 b).2.1.toNat).map (({(F0 s i1 b).1 with at_:=(i1:Nat)}:Tok)::·):=by
 subst h;rw[a0W,h2];simp only;rw[D h3,D h4]
theorem c4d:∀{l:U} {n:Nat},a4u l=some n->n<l.length
 | [],n,h=>by cases h
 |b::l,n,h=>by
  rw[a4u]at h;split at h
  .split at h
   .injection h with h;subst h;simp
   .cases hq:a4u l with
    |none=>rw[hq]at h;cases h
    |some k=>rw[hq]at h;injection h with h;subst h;have:=c4d hq;simp;omega
  .cases h
theorem b9R{s:U}{b:UInt8}{ks:List Int}(h:s[a]?=some b)(hk:inK ks b=true):a<A9 s a ks:=by
 rw[X8 h,F hk];have:=(a2t (s:=s) (a:=a+1) (ks:=ks) (n_3.1 h).1).1;omega
theorem a6j{s:U}{b:UInt8}(h:s[a]?=some b)(h4:¬(F0 s a b).2.2≠0):∃e:Nat,(F0 s a b).2.1=e/\a<e/\e<=s.length:=by
 have ab:=(n_3.1 h).1;unfold F0 at h4⊢;split at h4
 .rename_i hk;rw[F hk];split at h4
  .simp at h4
  .rename_i hn;rw[D hn];exact⟨_,J,b9R h (by simp[inK,hk]),(a2t X).2⟩
 .rename_i hk;rw[D hk];split at h4
  .rename_i bK;rw[F bK];split at h4
   .simp at h4
   .rename_i hn;rw[D hn];exact⟨_,J,b9R h (by simp[inK,bK]),(a2t X).2⟩
  .rename_i bK;rw[D bK];split at h4
   .rename_i fJ;rw[F fJ];cases hq:a4u (s.drop (a+1))with
    |none=>rw[hq]at h4;simp at h4
    |some n=>
     have:=c4d hq;rw[a94]at this;exact⟨a+1+n+1,J,X,X⟩
   .rename_i fJ;rw[D fJ];split at h4
    .rename_i hk8;rw[F hk8]
     split
     .rename_i hp;have:=c3t hp;rw[a94]at this;have:2<=s.length -a:=this;exact⟨a+2,J,X,X⟩
     .exact ⟨a+1,J,X,X⟩
    .simp at h4
abbrev c7i:=List Tok×Bool×Int×Int
def d4p(s:U)(x:c7i):Prop:=(a3v s=some x.1/\x.2.1=true/\x.2.2.1=0/\x.2.2.2=0)\/(a3v s=none/\x.1=[]/\x.2.1=false/\x.2.2.2≠0)
abbrev c6p(x:c7i):CV:=.tup [.list (x.1.map Tok.cv) x.2.1 none,iv x.2.2.1,iv x.2.2.2]
theorem c1u(s:U)(hs:s.length<=1000000000000):b8 CC 153 [(sv s)] [] λr τ=>∃x:c7i,a1t 0 τ r (.ret (c6p x))/\d4p s x:=by
 refine qO Tryz.func153 ?_;refine d3U 0 (λ_ _ _=>False) J ?_ (λ_ _ _ h=>h.elim);refine a7w ?_;refine qC ?_ ?_<;>intro h1
 .have hl:16384<s.length:=sm_ h1;refine c6 ?_;exact⟨_,r3 (rs:=[.tmp 2,.tmp 3,.tmp 4]) (cs:=[_,_,_]) J b5i (n_5 J),⟨([],false,0,2),by exact .ret (.tups ⟨.old (Y0 _ [] false),.old (.val _),.old (.val _),O⟩),.inr ⟨by rw[a3v,F hl],J,J,G⟩⟩⟩
 .have hl:¬16384<s.length:=sm_ h1;refine qD (c5 J c9B trivial (b2A _) J ?_);intro m hm;refine d2f ?_;refine A2 hCC 1 J (α:=List Tok×Nat) (λx=>[(0,(sv s)),(2,(.list (x.1.map Tok.cv) (gnn x.1.length) (C3 x.1.length 1))),(5,.map 0),(6,iv x.2)]) (λx=>[.map (gm kb kv m),o5 x.1.length]) (λx=>x.2<=s.length/\x.1.length<=x.2/\∃f,s.length -x.2 <f/\a3v s=(a0W f s x.2).map (x.1++·)) (λx=>s.length -x.2) ⟨([],0),[0,7],⟨n_4 _,n_7 _,s.length+1,H,by rw[a3v,D hl];simp⟩,⟨J,J⟩,ut_,(by repeat' (first|exact O|exact .inl J|exact .inr ⟨_,J,.same J D8⟩|exact .inr ⟨_,J,.same (di _ _ _) D8⟩|exact .inr ⟨_,J,.same J (by repeat' (first|exact O|exact .val _|exact .ptr (nb J)|exact .map (nb J)|exact d6E|refine z6 ?_|refine⟨?_,?_⟩))⟩|exact .inr ⟨_,J,.box (by repeat' (first|exact O|exact .same J uo_|exact .ptr J|exact .map J|exact .vec J|exact C6.grow (f:=Tok.cv) (λ_=>⟨.val _,.val _,.val _,.val _,O⟩) J|refine⟨?_,?_⟩))⟩|refine⟨?_,?_⟩))⟩ ?_;intro⟨bt,i⟩ ⟨hi,ha,f,hf,iB⟩;dsimp only at hi ha hf iB⊢;obtain⟨f,rfl⟩:∃f',f=f'+1:=⟨f-1,X⟩;obtain⟨i1,eP⟩:∃i1,i1=A9 s i [5]:=⟨_,J⟩;have ah:=a2t (ks:=[5]) hi;rw[<- eP]at ah;refine qk (W (B1 ([5].map icv) J ⟨J,O⟩ t_6 t_1 t_8 J J J J J J J J J) ?_);refine W (c4 J d1K a1x ((by have:=a8M (ks:=[5]) (nn:=true) hm hi X G (σ:=[.map (gm kb kv m),o5 bt.length]) (q:=0) J;rw[<- eP]at this;exact this)) J) ?_;refine W R6 ?_;refine qC ?_ ?_<;>intro h2
  .have dA:i1=s.length:=sm_ h2;rw[b7N eP X]at iB;refine W c2n ?_;refine W (B1 [Tok.cv ⟨5,[],0,(i1:Nat)⟩] J ⟨O,O⟩ b68 a4x a3m J J J J J J J J J) ?_;refine qD (A4 J O O J H q_5 b68 a4x c5U a3m J (.inr J) K2 c5Z B7 ((bt++[(⟨5,[],0,(i1:Nat)⟩:Tok)]).map Tok.cv) (bt++[(⟨5,[],0,(i1:Nat)⟩:Tok)]).length H H ?_);refine c6 ?_;exact⟨_,r3 (rs:=[.tmp 2,.tmp 3,.tmp 4]) (cs:=[_,_,_]) J b5i (n_5 J),⟨(bt++[(⟨5,[],0,(i1:Nat)⟩:Tok)],gnn (bt++[(⟨5,[],0,(i1:Nat)⟩:Tok)]).length,0,0),by exact .ret (.tups ⟨.tok (λr hr c hc=>(C0 (f:=Tok.cv) (λ_=>O0.all ⟨.val _,.val _,.val _,.val _,O⟩) _) r hr c hc),.old (.val _),.old (.val _),O⟩),.inl ⟨iB,by rw[n_6];rfl,J,J⟩⟩⟩
  .have dA:i1<s.length:=by
    have:¬(i1:Int)=s.length:=I h2;omega
   obtain⟨b,hb⟩:=gx_ s i1;refine W b9K ?_;refine W e05 ?_;refine qC ?_ ?_<;>intro h3
   .have hk:l9 b.toNat=6:=by rw[<- hm];simpa using h3
    rw[b9S eP hb hk]at iB;have cp:=b17 hb hk;have cb:=a7S (s:=s) (a:=i1) X;have hib:=c4Y ((s.take s.length).drop i1);have eN:((s.take s.length).drop i1).length=s.length -i1:=by simp
    have aO:S9 s i1=i1+(((s.take s.length).drop i1).takeWhile (· != 10)).length:=by rw[S9,a6K]
    have hig:=Go.Lib.indexByte_ge ((s.take s.length).drop i1) 10;refine W (L8 (a:=i1) J O J t_7 a0T J X (n_7 _)) ?_;refine W (c4 J Tryz.call189 o8 (a6C ((s.take s.length).drop i1) 10 _) J) ?_;refine cC ?_ ?_<;>intro h4
    .have hneg:Go.Lib.indexByte ((s.take s.length).drop i1) 10<0:=I h4;have:=hib.1 hneg;have hle2:S9 s i1=s.length:=by omega
     refine a7w ?_;refine W a92 ?_;refine W a4P ?_;refine j6 ?_;exact⟨(bt,S9 s i1),[0,1],⟨X,X,by show bt.length<=S9 s i1;omega,f,by show s.length -S9 s i1<f;omega,iB⟩,⟨J,J⟩,e1t,(by repeat' (first|exact O|exact .inl J|exact .inr ⟨_,J,.same J D8⟩|exact .inr ⟨_,J,.same (di _ _ _) D8⟩|exact .inr ⟨_,J,.same J (by repeat' (first|exact O|exact .val _|exact .ptr (nb J)|exact .map (nb J)|exact d6E|refine z6 ?_|refine⟨?_,?_⟩))⟩|exact .inr ⟨_,J,.box (by repeat' (first|exact O|exact .same J uo_|exact .ptr J|exact .map J|exact .vec J|exact C6.grow (f:=Tok.cv) (λ_=>⟨.val _,.val _,.val _,.val _,O⟩) J|refine⟨?_,?_⟩))⟩|refine⟨?_,?_⟩))⟩
    .have hneg:¬Go.Lib.indexByte ((s.take s.length).drop i1) 10<0:=I h4;have:=hib.2 X;rw[this];refine qk (W a4P ?_);refine j6 ?_;exact⟨(bt,S9 s i1),[0,1],⟨X,X,by show bt.length<=S9 s i1;omega,f,by show s.length -S9 s i1<f;omega,iB⟩,⟨J,J⟩,e1t,(by repeat' (first|exact O|exact .inl J|exact .inr ⟨_,J,.same J D8⟩|exact .inr ⟨_,J,.same (di _ _ _) D8⟩|exact .inr ⟨_,J,.same J (by repeat' (first|exact O|exact .val _|exact .ptr (nb J)|exact .map (nb J)|exact d6E|refine z6 ?_|refine⟨?_,?_⟩))⟩|exact .inr ⟨_,J,.box (by repeat' (first|exact O|exact .same J uo_|exact .ptr J|exact .map J|exact .vec J|exact C6.grow (f:=Tok.cv) (λ_=>⟨.val _,.val _,.val _,.val _,O⟩) J|refine⟨?_,?_⟩))⟩|refine⟨?_,?_⟩))⟩
   .have hk:¬l9 b.toNat=6:=by rw[<- hm];simpa using h3
    refine W (c4 J Tryz.call190 D6 (d0K hb hm X J) J) ?_;refine z_1 ?_;refine qC ?_ ?_<;>intro h5
    .have he:(F0 s i1 b).2.2≠0:=I h5;rw[b8k eP hb hk he]at iB;refine c6 ?_;exact⟨_,r3 (rs:=[.tmp 2,.tmp 3,.tmp 4]) (cs:=[_,_,_]) J b5i (n_5 J),⟨([],false,i1,(F0 s i1 b).2.2),by exact .ret (.tups ⟨.old (Y0 _ [] false),.old (.val _),.old (.val _),O⟩),.inr ⟨iB,J,J,he⟩⟩⟩
    .have he:¬(F0 s i1 b).2.2≠0:=I h5;rw[b77 eP hb hk he]at iB;obtain⟨e,fK,he2,he3⟩:=a6j hb he;rw[fK]at iB⊢;refine qD (j2 J O O J j3 t_1 (.inl J) J J (nb J) ?_);refine W (B1 [Tok.cv ({(F0 s i1 b).1 with at_:=(i1:Nat)}:Tok)] rfl ⟨O,O⟩ b68 a4x a3m rfl rfl rfl rfl rfl rfl rfl rfl rfl) ?_;refine qD (A4 J O O J H q_5 b68 a4x c5U a3m J (.inr J) K2 c5Z B7 ((bt++[({(F0 s i1 b).1 with at_:=(i1:Nat)}:Tok)]).map Tok.cv) (bt++[({(F0 s i1 b).1 with at_:=(i1:Nat)}:Tok)]).length H H ?_);exact⟨(bt++[({(F0 s i1 b).1 with at_:=(i1:Nat)}:Tok)],e),[0,3],⟨by show s.length -e<s.length -i;omega,he3,by simp;omega,f,by show s.length -e<f;omega,by rw[iB];simp[Function.comp_def]⟩,⟨J,J⟩,ut_,(by repeat' (first|exact O|exact .inl J|exact .inr ⟨_,J,.same J D8⟩|exact .inr ⟨_,J,.same (di _ _ _) D8⟩|exact .inr ⟨_,J,.same J (by repeat' (first|exact O|exact .val _|exact .ptr (nb J)|exact .map (nb J)|exact d6E|refine z6 ?_|refine⟨?_,?_⟩))⟩|exact .inr ⟨_,J,.box (by repeat' (first|exact O|exact .same J uo_|exact .ptr J|exact .map J|exact .vec J|exact C6.grow (f:=Tok.cv) (λ_=>⟨.val _,.val _,.val _,.val _,O⟩) J|refine⟨?_,?_⟩))⟩|refine⟨?_,?_⟩))⟩
theorem c7k(s:U)(hs:s.length<=1000000000000)(σ:List b9):b8 CC 153 [(sv s)] σ λr τ=>∃x:c7i,r= .ret (c6p x)/\τ=σ/\d4p s x:=
 F5 (res:=λx=>.ret (c6p x)) hCC (λc hc=>by simp at hc;subst hc;exact .val _) (c1u s hs) (λ_ _=>pu_) σ
structure Ex where
 k:Int
 num:Int
 op:Int
 name:U
 args:List Int
deriving DecidableEq
variable{args:List CV}{B:α->List Ex}
abbrev Ex.cells(x:Ex):List CV:=[iv x.k,iv x.num,iv x.op,sv x.name,.list (x.args.map icv) (gnn x.args.length) none]
def Ex.cv(x:Ex):List CV:=x.cells
theorem Ex.pure(x:Ex):O0 x.cells:=⟨.val _,.val _,.val _,.val _,P5 _ _,O⟩
theorem a0M(l:List Ex)(nn:Bool):r5 (.list (l.map Ex.cv) nn none):=P7 (f:=Ex.cv) Ex.pure l nn
theorem P9(n:Nat)(l:List Ex)(nn:Bool):Old n (.list (l.map Ex.cv) nn none):=(a0M l nn).old
structure De where
 k:Int
 name:U
 params:List U
 body:List Ex
deriving DecidableEq
abbrev De.cells(x:De):List CV:=[iv x.k,sv x.name,.list (x.params.map scv) (gnn x.params.length) none,.list (x.body.map Ex.cv) (gnn x.body.length) none]
def De.cv(x:De):List CV:=x.cells
theorem De.pure(x:De):O0 x.cells:=⟨.val _,.val _,F3 _ _,a0M _ _,O⟩
theorem a5H(l:List De)(nn:Bool):r5 (.list (l.map De.cv) nn none):=P7 (f:=De.cv) De.pure l nn
theorem U6(n:Nat)(l:List De)(nn:Bool):Old n (.list (l.map De.cv) nn none):=(a5H l nn).old
structure Src where
 pkg:U
 imports:List U
 decls:List De
deriving DecidableEq
abbrev Src.cells(x:Src):List CV:=[sv x.pkg,.list (x.imports.map scv) (gnn x.imports.length) none,.list (x.decls.map De.cv) (gnn x.decls.length) none]
def Src.cv(x:Src):List CV:=x.cells
theorem Src.pure(x:Src):O0 x.cells:=⟨.val _,F3 _ _,a5H _ _,O⟩
abbrev pbx(T:List Tok)(n:Nat)(ps:List U)(b:List Ex)(s:Nat):b9:=.box [.list (T.map Tok.cv) true none,iv n,.list (ps.map scv) (gnn ps.length) none,.list (b.map Ex.cv) (gnn b.length) (C3 b.length s)]
abbrev pst(T:List Tok)(n:Nat)(ps:List U)(b:List Ex):List b9:=[pbx T n ps b 1,o5 b.length]
abbrev a7d(T:List Tok)(n:Nat)(ps:List U)(b:List Ex):List b9:=[pbx T n ps b 2,.dead,o5 b.length]
theorem b6n{n:Nat}{ps:List U}{b:List Ex}(h:R s s'):I8 R (pbx T n ps b s) (pbx T n ps b s'):=
 .box (.cons (.pure (a3V _ _)) (.cons (.pure (.val _)) (.cons (.pure (F3 _ _)) (.cons (by
  refine .list J (λi r r' h1 h2=>by rw[h1]at h2;injection h2 with h2;rw[h2]) (λi j r r' c c' h1 h2 h3 h4=>?_) ?_
  .rw [h1]at h2;injection h2 with h2;subst h2;rw[h3]at h4;injection h4 with h4;subst h4
   exact .pure (C0 (f:=Ex.cv) (λa=>(Ex.pure a).all) _ r (n_2 h1) c (n_2 h3))
  .cases hb:b.length with
   |zero=>exact .inl ⟨J,J⟩
   |succ m=>exact .inr ⟨s,s',J,J,h⟩) .nil))))
theorem a0e(m:Nat):I8 R (o5 m) (o5 m):=by
 cases m with
 |zero=>exact .dead
 |succ m=>exact .tip _
def PAt(σ:List b9)(q s:Nat)(T:List Tok)(n:Nat)(ps:List U)(b:List Ex):Prop:=σ[q]?=some (pbx T n ps b s)/\σ[s]?=some (o5 b.length)/\q≠s
abbrev a3o(at_ e:Int):CV:=.val (.iface 195 (.agg #[.int .i64 at_,.int .i64 e]))
def a4q{α:Type}(c:α->CV)(S:α->List b9)(P:α->Prop)(bad:Prop)(r:V7)(τ:List b9):Prop:=
 (∃a,D2 2 τ r (.ret (c a)) (S a)/\P a)\/∃x:Int×Int,D2 2 τ r (.pan (a3o x.1 x.2)) [.dead,.dead]/\(bad/\x.2≠0)
def a5b{α:Type}(c:α->CV)(S:α->List b9)(P:α->Prop)(σ:List b9)(q s:Nat)(bad:Prop)(r:V7)(τ:List b9):Prop:=
 (∃a,r= .ret (c a)/\τ=S a/\P a)\/∃x:Int×Int,r= .pan (a3o x.1 x.2)/\τ=(σ.set q .dead).set s .dead/\(bad/\x.2≠0)
theorem k8{y:Int}:D2 2 τ (.pan (a3o x y)) (.pan (a3o x y)) [.dead,.dead]:=⟨[0,1],J,J,.pan (.old (.val _)),.inl J,.inl J,O⟩
theorem a5d{f:FuncId}{c:α->CV}{Z:α->List U}{g:α->Bool}{n:Nat}{ps:List U}{b:List Ex}(ap:∀a∈args,r5 a)(hc:∀a,r5 (c a))
 (h:b8 CC f (.ptr 0 0::args) (pst T n ps b) (a4q c (λa=>if g a=true then a7d T (N a) (Z a) (B a)else pst T (N a) (Z a) (B a)) P bad)){σ:List b9}{q s:Nat}(ao:PAt σ q s T n ps b):
 b8 CC f (.ptr q 0::args) σ (a5b c (λa=>if g a=true then(σ.set q (pbx T (N a) (Z a) (B a) σ.length)).set s .dead++[o5 (B a).length]else(σ.set q (pbx T (N a) (Z a) (B a) s)).set s (o5 (B a).length)) P σ q s bad):=by
 obtain⟨h1,h2,h3⟩:=ao;have hq:=(n_3.1 h1).1;have hs:=(n_3.1 h2).1;have h':b8 CC f (.ptr 0 0::args) (pst T n ps b) λr τ=>(∃a,r= .ret (c a)/\τ=(if g a=true then a7d T (N a) (Z a) (B a)else pst T (N a) (Z a) (B a))/\P a)\/∃x:Int×Int,r= .pan (a3o x.1 x.2)/\τ=[.dead,.dead]/\(bad/\x.2≠0):=by
  refine G5 hCC (h.mono λr τ hh=>?_)
  rcases hh with⟨a,k1,k2⟩|⟨x,k1,k2⟩
  .exact ⟨_,_,k1,.inl ⟨a,J,J,k2⟩⟩
  .exact ⟨_,_,k1,.inr ⟨x,J,J,k2⟩⟩
 refine I9 [q,s] hCC J (λi j k g1 g2=>?_) (λi k ob g1 g2=>?_) (.cons (.ptr J) (L9 ap)) h' λr τ hk=>?_
 .rcases i with _|_|i<;>rcases j with _|_|j<;>simp at g1 g2<;>first|rfl|(exfalso;exact h3 (g1.trans g2.symm))|(exfalso;exact h3 (g2.trans g1.symm))
 .rcases i with _|_|i
  .simp at g1 g2;subst g1 g2;exact⟨_,h1,b6n J⟩
  .simp at g1 g2;subst g1 g2;exact⟨_,h2,a0e _⟩
  .simp at g1
 .rcases hk with⟨a,rfl,rfl,hp⟩|⟨x,rfl,rfl,hp⟩
  .refine ⟨by split<;>simp,.ret (c a),(if g a=true then(σ.set q (pbx T (N a) (Z a) (B a) σ.length)).set s .dead++[o5 (B a).length]else(σ.set q (pbx T (N a) (Z a) (B a) s)).set s (o5 (B a).length)),.ret (.pure (hc a)),by split<;>simp,λk hk bD=>?_,λi k x ha hx=>?_,.inl ⟨a,J,J,hp⟩⟩
   .have n1:q≠k:=λe=>bD a2f;have n2:s≠k:=λe=>bD a2f
    split
    .rw [R8 (I hk)];simp[n1,n2]
    .simp [n1,n2]
   .split at hx<;>rename_i hg
    .rcases ha with ha|⟨ha,rfl⟩
     .rcases i with _|_|i
      .simp at ha hx;subst ha hx;refine⟨pbx T (N a) (Z a) (B a) σ.length,?_,b6n (.inr ⟨H,H⟩)⟩;rw[F hg,R8 (I hq),a2M h3.symm];simp[hq]
      .simp at ha hx;subst ha hx;refine⟨.dead,?_,.dead⟩;rw[F hg,R8 (I hs)];simp[hs]
      .simp at ha
     .rcases i with _|_|_|i
      .simp at ha
      .simp at ha
      .simp at hx;subst hx;refine⟨o5 (B a).length,?_,a0e _⟩;rw[F hg,a1v H];simp
      .simp at hx
    .rcases ha with ha|⟨ha,rfl⟩
     .rcases i with _|_|i
      .simp at ha hx;subst ha hx;refine⟨pbx T (N a) (Z a) (B a) s,?_,b6n (.inl J)⟩;rw[D hg,a2M h3.symm];simp[hq]
      .simp at ha hx;subst ha hx;refine⟨o5 (B a).length,?_,a0e _⟩;rw[D hg];simp[hs]
      .simp at ha
     .rcases i with _|_|i
      .simp at ha
      .simp at ha
      .simp at hx
  .refine ⟨n_7 _,.pan (a3o x.1 x.2),(σ.set q .dead).set s .dead,.pan (.pure (.val _)),H,λk hk bD=>?_,λi k y ha hx=>?_,.inr ⟨x,J,J,hp⟩⟩
   .have n1:q≠k:=λe=>bD a2f;have n2:s≠k:=λe=>bD a2f;simp[n1,n2]
   .rcases ha with ha|⟨ha,rfl⟩
    .rcases i with _|_|i
     .simp at ha hx;subst ha hx;refine⟨.dead,?_,.dead⟩;rw[a2M h3.symm];simp[hq]
     .simp at ha hx;subst ha hx;refine⟨.dead,?_,.dead⟩;simp[hs]
     .simp at ha
    .rcases i with _|_|i
     .simp at ha
     .simp at ha
     .simp at hx
theorem a4o{n:Nat}{ps:List U}{b:List Ex}(h:s<L):I6 L (pbx T n ps b s):=z6 ⟨Y0 _ _ _,.val _,A6 _ _ _,.list (λi j r c h1 h2=>(C0 (f:=Ex.cv) (λa=>(Ex.pure a).all) _ r (n_2 h1) c (n_2 h2)).old) (λk hk=>by
 cases hb:b.length with
 |zero=>rw[hb]at hk;cases hk
 |succ m=>rw[hb]at hk;injection hk with hk;omega),O⟩
theorem a1k{n:Nat}{ps:List U}{b:List Ex}(hτ:τ=pbx T n ps b 1::o5 b.length::rest)(hc:Old 2 c):D2 2 τ (.ret c) (.ret c) (pst T n ps b):=by
 subst hτ;exact⟨[0,1],J,J,.ret (.old hc),.inr ⟨_,J,.same J (a4o G)⟩,.inr ⟨_,J,.same J D8⟩,O⟩
theorem a8T{L:Nat}{am:List Nat}:∀{l:List CV},b6w L l->b9I L am l l
 | [],_=>trivial
 |_::_,⟨h,t⟩=>⟨.old h,a8T t⟩
theorem a0o{n k:Nat}{ps:List U}{b:List Ex}(h0:τ[0]?=some (pbx T n ps b k))(hk:τ[k]?=some (o5 b.length))(h2:2<=k)(hc:Old 2 c):D2 2 τ (.ret c) (.ret c) (a7d T n ps b):=by
 have k1:a6Z 2 [0,1,k]=true:=J;have k2:a0J [0,1,k]=true:=by
  have e0:(k == 0)=false:=by simp;omega
  have e1:(k == 1)=false:=by simp;omega
  have e2:(0 == k)=false:=by simp;omega
  have e3:(1 == k)=false:=by simp;omega
  simp[a0J];omega
 refine⟨[0,1,k],k1,k2,.ret (.old hc),.inr ⟨_,h0,.box ?_⟩,.inl J,.inr ⟨_,hk,.same J D8⟩,O⟩;refine⟨.old a1u,.old (.val _),.old Z8,.list (λr hr c hc=>(C0 (f:=Ex.cv) (λa=>(Ex.pure a).all) _ r hr c hc).old) ?_,O⟩;intro j hj;cases hb:b.length with
 |zero=>rw[hb]at hj;cases hj
 |succ m=>rw[hb]at hj;injection hj with hj;subst hj;exact⟨k,J,J⟩
theorem a2o{l:List α}{x:α}(h:l[i]?=some x):l.set i x=l:=by
 apply b9b λj=>?_;have hi:=(n_3.1 h).1;by_cases hj:i=j
 .subst hj;rw[b0L hi,h]
 .rw [a2M hj]
theorem c2q{f:FuncId}{n:Nat}{ps:List U}{b:List Ex}(ap:∀a∈args,r5 a)(hc:r5 c)
 (h:b8 CC f (.ptr 0 0::args) (pst T n ps b) λr τ=>D2 2 τ r (.ret c) (pst T n ps b)){σ:List b9}{q s:Nat}(ao:PAt σ q s T n ps b):b8 CC f (.ptr q 0::args) σ λr τ=>r= .ret c/\τ=σ:=by
 refine(a5d (α:=Unit) (c:=λ_=>c) (N:=λ_=>n) (B:=λ_=>b) (Z:=λ_=>ps) (g:=λ_=>false) (P:=λ_=>True) (bad:=False) ap (λ_=>hc) (h.mono λr τ hh=>.inl ⟨(),hh,O⟩) ao).mono λr τ hh=>?_
 rcases hh with⟨_,h1,h2,_⟩|⟨_,_,_,h3,_⟩
 .refine ⟨h1,h2.trans ?_⟩;show(σ.set q _).set s _=σ;rw[a2o ao.1,a2o ao.2.1]
 .exact h3.elim
theorem a08{f:FuncId}{c:α->CV}{n:Nat}{ps:List U}{b:List Ex}(ap:∀a∈args,r5 a)(hc:∀a,r5 (c a))
 (h:b8 CC f (.ptr 0 0::args) (pst T n ps b) (a4q c (λa=>pst T (N a) ps b) P bad)){σ:List b9}{q s:Nat}(ao:PAt σ q s T n ps b):
 b8 CC f (.ptr q 0::args) σ (a5b c (λa=>σ.set q (pbx T (N a) ps b s)) P σ q s bad):=by
 refine(a5d (c:=c) (N:=N) (B:=λ_=>b) (Z:=λ_=>ps) (g:=λ_=>false) (P:=P) (bad:=bad) ap hc (h.mono λr τ hh=>?_) ao).mono λr τ hh=>?_
 .rcases hh with⟨a,h1,h2⟩|h
  .exact .inl ⟨a,h1,h2⟩
  .exact .inr h
 .rcases hh with⟨a,h1,h2,h3⟩|h
  .refine .inl ⟨a,h1,h2.trans ?_,h3⟩;refine a2o ?_;rw[a2M ao.2.2];exact ao.2.1
  .exact .inr h
theorem a36{f:FuncId}{c:α->CV}{n:Nat}{ps:List U}{b:List Ex}(ap:∀a∈args,r5 a)(hc:∀a,r5 (c a))
 (h:b8 CC f (.ptr 0 0::args) (pst T n ps b) (a4q c (λa=>a7d T (N a) ps (B a)) P bad)){σ:List b9}{q s:Nat}(ao:PAt σ q s T n ps b):
 b8 CC f (.ptr q 0::args) σ (a5b c (λa=>(σ.set q (pbx T (N a) ps (B a) σ.length)).set s .dead++[o5 (B a).length]) P σ q s bad):=by
 refine(a5d (c:=c) (N:=N) (B:=B) (Z:=λ_=>ps) (g:=λ_=>true) (P:=P) (bad:=bad) ap hc (h.mono λr τ hh=>?_) ao).mono λr τ hh=>?_
 .rcases hh with⟨a,h1,h2⟩|h
  .exact .inl ⟨a,h1,h2⟩
  .exact .inr h
 .rcases hh with⟨a,h1,h2,h3⟩|h
  .exact .inl ⟨a,h1,h2,h3⟩
  .exact .inr h
theorem a0O(x:Tok):r5 (.agg x.cells):=r6 ⟨.val _,.val _,.val _,.val _,O⟩
theorem a6t(n:Nat)(x:Tok):Old n (.agg x.cells):=(a0O x).old
def tk(T:List Tok)(n:Nat):Tok:=(T[n]?).getD ⟨5,[],0,0⟩
theorem e0n{n:Nat}(h:n<T.length):T[n]?=some (tk T n):=by simp[tk,h]
def a06(T:List Tok):Prop:=∀n,n<T.length->(tk T n).k≠5->n+1<T.length
def isT(t:Tok)(k:Int)(s:U):Bool:=(t.k == k)&&decide (t.t=s)
theorem a7f{n:Nat}{k:Int}{s:U}(h:isT (tk T n) k s=true)(hk:k≠5):(tk T n).k≠5:=by
 simp[isT]at h;omega
def G6(T:List Tok)(n:Nat)(k:Int):Option (Tok×Nat):=if(tk T n).k=k then some (tk T n,if k=5 then n else n+1)else none
def pIs(T:List Tok)(n:Nat)(k:Int)(s:U):Option Nat:=if isT (tk T n) k s=true then some (n+1)else none
theorem d1b(t:Tok)(e:Int):b8 CC 195 [.agg t.cells,iv e] [] λr τ=>∃_:Unit,a1t 0 τ r (.pan (a3o t.at_ e))/\True:=by
 refine qO Tryz.func195 ?_;refine qD (I0 J O j3 j5 ?_);refine W (B4 #[(0,1),(1,1)] J i7 c6d Tryz.zeroValue195 J ⟨_,J⟩ (λw=>by kernel_rfl) J J) ?_;refine W (c7J (xs:=[.int .i64 t.at_,.int .i64 e]) J O J (c1v c6d J)) ?_;exact a3i J J (d6l J O J (λM w v h=>⟨_,_,r4 h⟩) ⟨(),.pan (.old (.val _)),O⟩)
theorem Q3(t:Tok)(e:Int)(σ:List b9):b8 CC 195 [.agg t.cells,iv e] σ λr τ=>∃_:Unit,r= .pan (a3o t.at_ e)/\τ=σ/\True:=
 F5 (res:=λ_=>.pan (a3o t.at_ e)) hCC (λc hc=>by
  simp at hc
  rcases hc with rfl|rfl
  .exact a0O _
  .exact .val _) (d1b t e) (λ_ _=>.val _) σ
theorem c7L(T:List Tok)(n:Nat)(ps:List U)(b:List Ex)(_:T.length<=1000000)(hn:n<T.length):b8 CC 196 [.ptr 0 0] (pst T n ps b) (λr τ=>D2 2 τ r (.ret (.agg (tk T n).cells)) (pst T n ps b)):=by
 refine qO Tryz.func196 ?_;refine qD (p7 J a3m J j5 ?_);refine b5y ?_;refine hY (j7 J O J c7V J Tryz.sizeOf191 G) ?_;refine hY (o6 J O J Tryz.isAgg191 J J) ?_;refine a5e ?_;refine hY c5l ?_;refine hY a0R ?_;refine d9j ?_;refine W1 ?_;refine z_2 ?_;exact⟨_,F2 J b4X,a1k J (a6t _ _)⟩
theorem a3W{n:Nat}{ps:List U}{b:List Ex}(hT:T.length<=1000000)(hn:n<T.length)(ao:PAt σ q s T n ps b):b8 CC 196 [.ptr q 0] σ λr τ=>r= .ret (.agg (tk T n).cells)/\τ=σ:=c2q (λ_ h=>by cases h) (a0O _) (c7L T n ps b hT hn) ao
theorem e0j(T:List Tok)(n:Nat)(ps:List U)(b:List Ex)(hT:T.length<=1000000)(hn:n<T.length)(k:Int)(u:U):b8 CC 194 [.ptr 0 0,iv k,(sv u)] (pst T n ps b) (λr τ=>D2 2 τ r (.ret (.val (.bool (isT (tk T n) (k) (u))))) (pst T n ps b)):=by
 refine qO Tryz.func194 ?_;refine W c0i ?_;refine z_1 ?_;refine qG b71 ?_;refine qG a02 ?_;refine c3Z ?_;refine b0D ?_;exact⟨_,rE1,(by exact a1k J (.val _))⟩
theorem b42{n:Nat}{ps:List U}{b:List Ex}(hT:T.length<=1000000)(hn:n<T.length)(k:Int)(u:U)(ao:PAt σ q s T n ps b):b8 CC 194 [.ptr q 0,iv k,(sv u)] σ λr τ=>r= .ret (.val (.bool (isT (tk T n) (k) (u))))/\τ=σ:=c2q (λ_ h=>by simp at h;rcases h with rfl|rfl<;>exact .val _) (.val _) (e0j T n ps b hT hn k u) ao
theorem c8f(T:List Tok)(n:Nat)(ps:List U)(b:List Ex)(hT:T.length<=1000000)(hn:n<T.length)(hW:a06 T)(u:U):b8 CC 193 [.ptr 0 0,(sv u)] (pst T n ps b) (a4q (λ_:Nat=>.tup []) (λa=>pst T a ps b) (λa=>pIs T n 4 u=some a/\a<T.length) (pIs T n 4 u=none)):=by
 refine qO Tryz.func193 ?_;refine W (c4 J c59 ⟨O,J,O,O⟩ (b42 hT hn 4 u ⟨J,J,G⟩) J) ?_;refine qC ?_ ?_<;>intro h1
 .have hb:isT (tk T n) 4 u=false:=I h1;refine W c0i ?_;exact a3i J J (Q6 J a5J o8 (Q3 _ _ _) J (λ_ _=>.inr ⟨(_,_),k8,by rw[pIs,D (by rw[hb];decide)],H⟩))
 .have hb:isT (tk T n) 4 u=true:=I h1;refine z_8 ?_;exact⟨_,rE0,e1M⟩
theorem S2{n:Nat}{ps:List U}{b:List Ex}(hT:T.length<=1000000)(hn:n<T.length)(hW:a06 T)(u:U)(ao:PAt σ q s T n ps b):b8 CC 193 [.ptr q 0,(sv u)] σ (a5b (λ_:Nat=>.tup []) (λa=>σ.set q (pbx T a ps b s)) (λa=>pIs T n 4 u=some a/\a<T.length) σ q s (pIs T n 4 u=none)):=
 a08 (c:=λ_:Nat=>.tup []) (N:=λa=>a) (λ_ h=>by simp at h;subst h;exact .val _) (λ_=>D7 trivial) (c8f T n ps b hT hn hW u) ao
theorem d3O(T:List Tok)(n:Nat)(ps:List U)(b:List Ex)(hT:T.length<=1000000)(hn:n<T.length)(hW:a06 T)(u:U):b8 CC 191 [.ptr 0 0,(sv u)] (pst T n ps b) (a4q (λ_:Nat=>.tup []) (λa=>pst T a ps b) (λa=>pIs T n 1 u=some a/\a<T.length) (pIs T n 1 u=none)):=by
 refine qO Tryz.func191 ?_;refine W (c4 J c59 ⟨O,J,O,O⟩ (b42 hT hn 1 u ⟨J,J,G⟩) J) ?_;refine qC ?_ ?_<;>intro h1
 .have hb:isT (tk T n) 1 u=false:=I h1;refine W c0i ?_;exact a3i J J (Q6 J a5J o8 (Q3 _ _ _) J (λ_ _=>.inr ⟨(_,_),k8,by rw[pIs,D (by rw[hb];decide)],H⟩))
 .have hb:isT (tk T n) 1 u=true:=I h1;refine z_8 ?_;exact⟨_,rE0,e1M⟩
theorem b6K{n:Nat}{ps:List U}{b:List Ex}(hT:T.length<=1000000)(hn:n<T.length)(hW:a06 T)(u:U)(ao:PAt σ q s T n ps b):b8 CC 191 [.ptr q 0,(sv u)] σ (a5b (λ_:Nat=>.tup []) (λa=>σ.set q (pbx T a ps b s)) (λa=>pIs T n 1 u=some a/\a<T.length) σ q s (pIs T n 1 u=none)):=
 a08 (c:=λ_:Nat=>.tup []) (N:=λa=>a) (λ_ h=>by simp at h;subst h;exact .val _) (λ_=>D7 trivial) (d3O T n ps b hT hn hW u) ao
theorem c2C(T:List Tok)(n:Nat)(ps:List U)(b:List Ex)(hT:T.length<=1000000)(hn:n<T.length)(hW:a06 T)(u:U):b8 CC 277 [.ptr 0 0,(sv u)] (pst T n ps b) (a4q (λa:Bool×Nat=>(.val (.bool a.1))) (λa=>pst T a.2 ps b) (λa=>a.1=isT (tk T n) 4 u/\a.2=(if isT (tk T n) 4 u=true then n+1 else n)/\a.2 <T.length) False):=by
 refine qO Tryz.func277 ?_;refine W (c4 J c59 ⟨O,J,O,O⟩ (b42 hT hn 4 u ⟨J,J,G⟩) J) ?_;refine qC ?_ ?_<;>intro h1
 .have hb:isT (tk T n) 4 u=false:=I h1;refine c6 ?_;exact⟨_,rE1,(by exact .inl ⟨(false,n),a1k J (.val _),hb.symm,by rw[D (by rw[hb];decide)],hn⟩)⟩
 .have hb:isT (tk T n) 4 u=true:=I h1;refine z_8 ?_;refine c6 ?_;exact⟨_,rE1,(by exact .inl ⟨(true,n+1),a1k J (.val _),hb.symm,by rw[F hb],hW n hn (a7f hb G)⟩)⟩
theorem a15{n:Nat}{ps:List U}{b:List Ex}(hT:T.length<=1000000)(hn:n<T.length)(hW:a06 T)(u:U)(ao:PAt σ q s T n ps b):b8 CC 277 [.ptr q 0,(sv u)] σ λr τ=>∃a:Bool×Nat,r= .ret (.val (.bool a.1))/\τ=σ.set q (pbx T a.2 ps b s)/\a.1=isT (tk T n) 4 u/\a.2=(if isT (tk T n) 4 u=true then n+1 else n)/\a.2 <T.length :=
 (a08 (c:=λa:Bool×Nat=>(.val (.bool a.1))) (N:=λa:Bool×Nat=>a.2) (λ_ h=>by simp at h;subst h;exact .val _) (λ_=>.val _) (c2C T n ps b hT hn hW u) ao).mono λr τ h=>by
  rcases h with h|⟨_,_,_,h,_⟩
  .exact h
  .exact h.elim
theorem c9L(T:List Tok)(n:Nat)(ps:List U)(b:List Ex)(hT:T.length<=1000000)(hn:n<T.length)(hW:a06 T)(k:Int):b8 CC 235 [.ptr 0 0,iv k] (pst T n ps b) (a4q (λa:Tok×Nat=>.agg a.1.cells) (λa=>pst T a.2 ps b) (λa=>G6 T n k=some a/\a.2 <T.length) (G6 T n k=none)):=by
 refine qO Tryz.func235 ?_;refine qD (p7 J a3m J j5 ?_);refine W c0i ?_;refine z_1 ?_;refine qC ?_ ?_<;>intro h1
 .have hk:¬(tk T n).k=k:=I h1;exact a3i J J (Q6 J a5J o8 (Q3 _ _ _) J (λ_ _=>.inr ⟨(_,_),k8,by rw[G6,D hk],H⟩))
 .have hk:(tk T n).k=k:=I h1;refine qC ?_ ?_<;>intro h2
  .have h5:¬k=5:=I h2;refine z_8 ?_;refine z_2 ?_;exact⟨_,F2 J b4X,(by exact .inl ⟨(tk T n,n+1),a1k J (a6t _ _),by rw[G6,F hk,D h5],hW n hn (by rw[hk];exact h5)⟩)⟩
  .have h5:k=5:=I h2;refine z_2 ?_;exact⟨_,F2 J b4X,(by exact .inl ⟨(tk T n,n),a1k J (a6t _ _),by rw[G6,F hk,F h5],hn⟩)⟩
theorem a7C{n:Nat}{ps:List U}{b:List Ex}(hT:T.length<=1000000)(hn:n<T.length)(hW:a06 T)(k:Int)(ao:PAt σ q s T n ps b):b8 CC 235 [.ptr q 0,iv k] σ (a5b (λa:Tok×Nat=>.agg a.1.cells) (λa=>σ.set q (pbx T a.2 ps b s)) (λa=>G6 T n k=some a/\a.2 <T.length) σ q s (G6 T n k=none)):=
 a08 (c:=λa:Tok×Nat=>.agg a.1.cells) (N:=λa=>a.2) (λ_ h=>by simp at h;subst h;exact .val _) (λ_=>a0O _) (c9L T n ps b hT hn hW k) ao
def S7(u:U):Bool:=decide (u∈([[112,97,99,107,97,103,101],[105,109,112,111,114,116],[102,117,110,99],[116,101,115,116],[103,101,110],[105,102],[116,104,101,110],[101,108,115,101],[114,101,97,100],[115,105,122,101],[104,97,115],[101,110,118],[102,108,105,112]]:List U))
theorem a3g(u:U)(σ:List b9):b8 CC 236 [(sv u)] σ λr aa=>r= .ret (.val (.bool (S7 u)))/\aa=σ:=by
 refine b8.anyw hCC pu_ pu_ (c7 (qO Tryz.func236 ?_)) σ;refine W Q7 ?_;refine qC ?_ ?_<;>intro h1
 .have e:u=[112,97,99,107,97,103,101]:=I h1;refine qC ?_ ?_<;>intro h2
  .refine c6 ?_;exact⟨_,rE1,_,_,J,J,j4 (show true=S7 u by rw[e];decide)⟩
  .exfalso;rw[h1]at h2;cases h2
 .have e1:¬u=[112,97,99,107,97,103,101]:=I h1;refine W Q7 ?_;refine qC ?_ ?_<;>intro h3
  .have e:u=[105,109,112,111,114,116]:=I h3;refine qC ?_ ?_<;>intro h4
   .refine c6 ?_;exact⟨_,rE1,_,_,J,J,j4 (show true=S7 u by rw[e];decide)⟩
   .exfalso;rw[h3]at h4;cases h4
  .have e2:¬u=[105,109,112,111,114,116]:=I h3;refine W Q7 ?_;refine qC ?_ ?_<;>intro h5
   .have e:u=[102,117,110,99]:=I h5;refine qC ?_ ?_<;>intro h6
    .refine c6 ?_;exact⟨_,rE1,_,_,J,J,j4 (show true=S7 u by rw[e];decide)⟩
    .exfalso;rw[h5]at h6;cases h6
   .have e3:¬u=[102,117,110,99]:=I h5;refine W Q7 ?_;refine qC ?_ ?_<;>intro h7
    .have e:u=[116,101,115,116]:=I h7;refine qC ?_ ?_<;>intro h8
     .refine c6 ?_;exact⟨_,rE1,_,_,J,J,j4 (show true=S7 u by rw[e];decide)⟩
     .exfalso;rw[h7]at h8;cases h8
    .have e4:¬u=[116,101,115,116]:=I h7;refine W Q7 ?_;refine qC ?_ ?_<;>intro h9
     .have e:u=[103,101,110]:=I h9;refine qC ?_ ?_<;>intro bb
      .refine c6 ?_;exact⟨_,rE1,_,_,J,J,j4 (show true=S7 u by rw[e];decide)⟩
      .exfalso;rw[h9]at bb;cases bb
     .have e5:¬u=[103,101,110]:=I h9;refine W Q7 ?_;refine qC ?_ ?_<;>intro cB
      .have e:u=[105,102]:=I cB;refine qC ?_ ?_<;>intro cX
       .refine c6 ?_;exact⟨_,rE1,_,_,J,J,j4 (show true=S7 u by rw[e];decide)⟩
       .exfalso;rw[cB]at cX;cases cX
      .have e6:¬u=[105,102]:=I cB;refine W Q7 ?_;refine qC ?_ ?_<;>intro dw
       .have e:u=[116,104,101,110]:=I dw;refine qC ?_ ?_<;>intro gN
        .refine c6 ?_;exact⟨_,rE1,_,_,J,J,j4 (show true=S7 u by rw[e];decide)⟩
        .exfalso;rw[dw]at gN;cases gN
       .have e7:¬u=[116,104,101,110]:=I dw;refine W Q7 ?_;refine qC ?_ ?_<;>intro h15
        .have e:u=[101,108,115,101]:=I h15;refine qC ?_ ?_<;>intro h16
         .refine c6 ?_;exact⟨_,rE1,_,_,J,J,j4 (show true=S7 u by rw[e];decide)⟩
         .exfalso;rw[h15]at h16;cases h16
        .have e8:¬u=[101,108,115,101]:=I h15;refine W Q7 ?_;refine qC ?_ ?_<;>intro h17
         .have e:u=[114,101,97,100]:=I h17;refine qC ?_ ?_<;>intro h18
          .refine c6 ?_;exact⟨_,rE1,_,_,J,J,j4 (show true=S7 u by rw[e];decide)⟩
          .exfalso;rw[h17]at h18;cases h18
         .have e9:¬u=[114,101,97,100]:=I h17;refine W Q7 ?_;refine qC ?_ ?_<;>intro h19
          .have e:u=[115,105,122,101]:=I h19;refine qC ?_ ?_<;>intro h20
           .refine c6 ?_;exact⟨_,rE1,_,_,J,J,j4 (show true=S7 u by rw[e];decide)⟩
           .exfalso;rw[h19]at h20;cases h20
          .have e10:¬u=[115,105,122,101]:=I h19;refine W Q7 ?_;refine qC ?_ ?_<;>intro h21
           .have e:u=[104,97,115]:=I h21;refine qC ?_ ?_<;>intro h22
            .refine c6 ?_;exact⟨_,rE1,_,_,J,J,j4 (show true=S7 u by rw[e];decide)⟩
            .exfalso;rw[h21]at h22;cases h22
           .have e11:¬u=[104,97,115]:=I h21;refine W Q7 ?_;refine qC ?_ ?_<;>intro h23
            .have e:u=[101,110,118]:=I h23;refine qC ?_ ?_<;>intro h24
             .refine c6 ?_;exact⟨_,rE1,_,_,J,J,j4 (show true=S7 u by rw[e];decide)⟩
             .exfalso;rw[h23]at h24;cases h24
            .have e12:¬u=[101,110,118]:=I h23;refine W Q7 ?_;refine qC ?_ ?_<;>intro h25
             .have e:u=[102,108,105,112]:=I h25;refine c6 ?_;exact⟨_,rE1,_,_,J,J,j4 (show true=S7 u by rw[e];decide)⟩
             .have e13:¬u=[102,108,105,112]:=I h25;refine c6 ?_;exact⟨_,rE1,_,_,J,J,j4 (show false=S7 u by simp[S7,e1,e2,e3,e4,e5,e6,e7,e8,e9,e10,e11,e12,e13])⟩
def ixS:List U->U->Nat->Int
 | [],_,_=>-1
 |y::l,x,i=>if y=x then i else ixS l x (i+1)
theorem b1J{l:List U}{y:U}(h:l[i]?=some y)(x:U):ixS (l.drop i) x i=if y=x then(i:Int)else ixS (l.drop (i+1)) x (i+1):=by
 obtain⟨ab,rfl⟩:=n_3.1 h;rw[R0 ab];rfl
theorem a9l(x:U):∀(l:List U) (i:Nat),(x∉l/\ixS l x i= -1)\/(x∈l/\(i:Int)<=ixS l x i/\ixS l x i<i+l.length)
 | [],_=>.inl ⟨H,J⟩
 |y::l,i=>by
  rw[ixS];by_cases h:y=x
  .rw [F h];exact .inr ⟨by simp[h],X,by simp;omega⟩
  .rw [D h]
   rcases a9l x l (i+1)with⟨h1,h2⟩|⟨h1,h2,h3⟩
   .exact .inl ⟨by simp[h1,Ne.symm h],h2⟩
   .exact .inr ⟨by simp[h1],X,by simp;omega⟩
theorem d4g{l:List U}{x:U}:0<=ixS l x 0↔x∈l:=by
 rcases a9l x l 0 with⟨h1,h2⟩|⟨h1,h2,_⟩
 .rw [h2];simp[h1]
 .simp [h1];omega
theorem b0c(l:List U)(nn:Bool)(x:U)(hl:l.length<=1000000000)(σ:List b9):b8 CC 205 [(.list (l.map scv) nn none),(sv x)] σ λr aa=>r= .ret (iv (ixS l x 0))/\aa=σ:=by
 refine b8.anyw hCC pu_ pu_ (c7 (qO Tryz.func205 ?_)) σ;refine W I7 ?_;refine j8 hCC (α:=Nat) (λi=>[(0,(.list (l.map scv) nn none)),(1,(sv x)),(7,iv l.length),(8,iv i)]) (λ_=>[]) (λi=>i<=l.length/\ixS l x 0=ixS (l.drop i) x i) (λi=>l.length -i) 0 ⟨n_4 _,J⟩ tu_ (ai:=[]) J z8 uz_ ?_;intro i ⟨hi,hr⟩;refine qk (qC ?_ ?_)<;> intro h1
 .have ab:(i:Int)<l.length:=I h1;obtain⟨y,hb⟩:=gx_ l i;rw[b1J hb]at hr;refine b5t ?_;refine qC ?_ ?_<;>intro h2
  .have hx:y=x:=(show x=y by simpa using h2).symm;rw[F hx]at hr;exact d7S
  .have hx:¬y=x:=λe=>by subst e;simp at h2
   rw[D hx]at hr;exact b2F
 .have aF:i=l.length:=by
   have:¬(i:Int)<l.length:=I h1;omega
  refine z_9 ?_;exact⟨_,rE1,_,_,J,J,C9 (by rw[hr,aF,a9T];rfl)⟩
theorem a8O(l:List U)(nn:Bool)(x:U)(hl:l.length<=1000000000):b8 CC 160 [(.list (l.map scv) nn none),(sv x)] [] λr aa=>r= .ret (.val (.bool (decide (x∈l))))/\aa=[]:=by
 refine c7 (qO Tryz.func160 ?_);refine W (c4 J Tryz.call205 i7 (b0c l nn x hl _) J) ?_;refine c6 ?_;exact⟨_,rE1,_,_,J,J,j4 (b3n.2 d4g)⟩
theorem a0C(l:List U)(nn:Bool)(x:U)(hl:l.length<=1000000000)(σ:List b9):b8 CC 160 [(.list (l.map scv) nn none),(sv x)] σ λr aa=>r= .ret (.val (.bool (decide (x∈l))))/\aa=σ:=
 b8.anyw hCC pu_ pu_ (a8O l nn x hl) σ
theorem a5x{n n1:Nat}{k:Int}(h:G6 T n k=some (t,n1)):t=tk T n:=by
 unfold G6 at h;split at h
 .injection h with h;injection h with h _;exact h.symm
 .cases h
def d3r(T:List Tok):Prop:=∀n,(tk T n).t.length<=1000000
def K8(T:List Tok)(n:Nat):Option (Tok×Nat):=(G6 T n 1).bind λx=>if S7 x.1.t=true then none else some x
def a00(T:List Tok)(n:Nat):Option (Tok×Nat):=(G6 T n 3).bind λx=>if I1 x.1.t=true then some x else none
theorem d0Z(T:List Tok)(n:Nat)(ps:List U)(b:List Ex)(hT:T.length<=1000000)(hn:n<T.length)(hW:a06 T):b8 CC 192 [.ptr 0 0] (pst T n ps b) (a4q (λa:Tok×Nat=>.agg a.1.cells) (λa=>pst T a.2 ps b) (λa=>K8 T n=some a/\a.2 <T.length) (K8 T n=none)):=by
 refine qO Tryz.func192 ?_;refine qD (p7 J a3m J j5 ?_);refine qD (p8 J d1a o8 (a7C hT hn hW 1 ⟨J,J,G⟩) J (λx hx=>.inr ⟨x,k8,by rw[K8,hx.1];rfl,hx.2⟩) ?_);rintro⟨t,n1⟩ ⟨ht,bf⟩;have hte:=a5x ht;subst hte;dsimp only at ht bf⊢;refine z_1 ?_;refine W (c4 J d3l ⟨O,O⟩ (a3g (tk T n).t _) J) ?_;refine qC ?_ ?_<;>intro h1
 .have hr:S7 (tk T n).t=true:=I h1;exact a3i J J (Q6 J a5J o8 (Q3 _ _ _) J (λ_ _=>.inr ⟨(_,_),k8,by rw[K8,ht,n_9,F hr],H⟩))
 .have hr:S7 (tk T n).t=false:=I h1;refine z_2 ?_;exact⟨_,F2 J b4X,(by exact .inl ⟨(tk T n,n1),a1k J (a6t _ _),by rw[K8,ht,n_9,D (by rw[hr];decide)],bf⟩)⟩
theorem b04{n:Nat}{ps:List U}{b:List Ex}(hT:T.length<=1000000)(hn:n<T.length)(hW:a06 T)(ao:PAt σ q s T n ps b):b8 CC 192 [.ptr q 0] σ (a5b (λa:Tok×Nat=>.agg a.1.cells) (λa=>σ.set q (pbx T a.2 ps b s)) (λa=>K8 T n=some a/\a.2 <T.length) σ q s (K8 T n=none)):=
 a08 (c:=λa:Tok×Nat=>.agg a.1.cells) (N:=λa=>a.2) (λ_ h=>by cases h) (λ_=>a0O _) (d0Z T n ps b hT hn hW) ao
theorem d3o(T:List Tok)(n:Nat)(ps:List U)(b:List Ex)(hT:T.length<=1000000)(hn:n<T.length)(hW:a06 T)(hL:d3r T):b8 CC 237 [.ptr 0 0] (pst T n ps b) (a4q (λa:Tok×Nat=>.agg a.1.cells) (λa=>pst T a.2 ps b) (λa=>a00 T n=some a/\a.2 <T.length) (a00 T n=none)):=by
 refine qO Tryz.func237 ?_;refine qD (p7 J a3m J j5 ?_);refine qD (p8 J d1a o8 (a7C hT hn hW 3 ⟨J,J,G⟩) J (λx hx=>.inr ⟨x,k8,by rw[a00,hx.1];rfl,hx.2⟩) ?_);rintro⟨t,n1⟩ ⟨ht,bf⟩;have hte:=a5x ht;subst hte;dsimp only at ht bf⊢;refine z_1 ?_;refine W (c4 J c76 ⟨O,O⟩ (a19 (tk T n).t (by have:=hL n;omega) _) J) ?_;refine qC ?_ ?_<;>intro h1
 .have hr:I1 (tk T n).t=false:=I h1;exact a3i J J (Q6 J a5J o8 (Q3 _ _ _) J (λ_ _=>.inr ⟨(_,_),k8,by rw[a00,ht,n_9,D (by rw[hr];decide)],H⟩))
 .have hr:I1 (tk T n).t=true:=I h1;refine z_2 ?_;exact⟨_,F2 J b4X,(by exact .inl ⟨(tk T n,n1),a1k J (a6t _ _),by rw[a00,ht,n_9,F hr],bf⟩)⟩
theorem b05{n:Nat}{ps:List U}{b:List Ex}(hT:T.length<=1000000)(hn:n<T.length)(hW:a06 T)(hL:d3r T)(ao:PAt σ q s T n ps b):b8 CC 237 [.ptr q 0] σ (a5b (λa:Tok×Nat=>.agg a.1.cells) (λa=>σ.set q (pbx T a.2 ps b s)) (λa=>a00 T n=some a/\a.2 <T.length) σ q s (a00 T n=none)):=
 a08 (c:=λa:Tok×Nat=>.agg a.1.cells) (N:=λa=>a.2) (λ_ h=>by cases h) (λ_=>a0O _) (d3o T n ps b hT hn hW hL) ao
def Z1(b:List Ex)(x:Ex):Option (Nat×List Ex):=if b.length=256 then none else some (b.length,b++[x])
theorem c9Y(T:List Tok)(n:Nat)(ps:List U)(b:List Ex)(_:T.length<=1000000)(_:n<T.length)(hb:b.length<=256)(t:Tok)(x:Ex):b8 CC 279 [.ptr 0 0,.agg t.cells,.agg x.cells] (pst T n ps b) (a4q (λa:Nat×List Ex=>(iv a.1)) (λa=>a7d T n ps a.2) (λa=>Z1 b x=some a/\a.2.length<=256) (Z1 b x=none)):=by
 refine qO Tryz.func279 ?_;refine z_7 ?_;refine W c08 ?_;refine qC ?_ ?_<;>intro h1
 .have h256:b.length=256:=sm_ h1;exact a3i J J (Q6 J a5J o8 (Q3 _ _ _) J (λ_ _=>.inr ⟨(_,_),k8,by rw[Z1,F h256],H⟩))
 .have h256:¬b.length=256:=sm_ h1;have cp:(b++[x]).length=b.length+1:=by simp
  refine d8u ?_;refine chf J b8j ?_;refine chf J (c8 J (j7 J O J c7V J b3g G)) ?_;refine chf J (c8 J c4u) ?_;refine chf J (c8 J c9o) ?_;refine chf J e2f ?_;refine C8 ?_;refine B0 J J J (A4 J O O J H q_5 b3G a9w Tryz.typeInfo212 b6g J (.inr J) K2 (by have hb:Tryz.t212.bytes=64:=J;rw[hb];first|omega|(simp;done)|(simp;omega)) B7 ((b++[x]).map Ex.cv) (b++[x]).length H H ?_);refine d3Q ?_;refine E9 J J (c8 J (j7 J O J c7V J b3g G)) ⟨O,?_⟩;refine d8W ?_;refine b7L ?_;refine c6 ?_;exact⟨_,rE1,(by rw[show(((b++[x]).length:Int) -1)=(b.length:Int) by omega];exact .inl ⟨(b.length,b++[x]),a0o (k:=4) J J G (.val _),by rw[Z1,D h256],by show(b++[x]).length<=256;omega⟩)⟩
theorem a0V{n:Nat}{ps:List U}{b:List Ex}(hT:T.length<=1000000)(hn:n<T.length)(hb:b.length<=256)(t:Tok)(x:Ex)(ao:PAt σ q s T n ps b):b8 CC 279 [.ptr q 0,.agg t.cells,.agg x.cells] σ (a5b (λa:Nat×List Ex=>(iv a.1)) (λa=>(σ.set q (pbx T n ps a.2 σ.length)).set s .dead++[o5 a.2.length]) (λa=>Z1 b x=some a/\a.2.length<=256) σ q s (Z1 b x=none)):=
 a36 (c:=λa:Nat×List Ex=>(iv a.1)) (N:=λ_=>n) (B:=λa=>a.2) (λ_ h=>by simp at h;rcases h with rfl|rfl;exact a0O _;exact r6 x.pure) (λ_=>.val _) (c9Y T n ps b hT hn hb t x) ao
theorem d5B{n:Nat}{ps:List U}{b:List Ex}(hτ:τ=pbx T n ps b 1::o5 b.length::rest)(hc:C6 2 [0,1] c c'):D2 2 τ (.ret c) (.ret c') (pst T n ps b):=by
 subst hτ;exact⟨[0,1],J,J,.ret hc,.inr ⟨_,J,.same J (a4o G)⟩,.inr ⟨_,J,.same J D8⟩,O⟩
theorem H5{f:α->List CV}{nn:Bool}{tok:Option Nat}(h:∀a,O0 (f a))(l:List α):C6 L am (.list (l.map f) nn tok) (.list (l.map f) nn none):=
 .list (λr hr c hc=>(C0 (f:=f) (λa=>(h a).all) _ r hr c hc).old) (λj hj=>by cases hj)
def a2X:Nat->List Tok->Nat->List U->Option (List U×Nat)
 |0,_,_,_=>none
 |f+1,T,n,l=>(K8 T n).bind λx=>if l.length=8 then none else if x.1.t∈l then none else
  if isT (tk T x.2) 4 [44]=true then a2X f T (x.2+1) (l++[x.1.t])else(pIs T x.2 4 [41]).bind λm=>some (l++[x.1.t],m)
def N7(T:List Tok)(n:Nat):Option (List U×Nat):=(pIs T n 4 [40]).bind λm=>if isT (tk T m) 4 [41]=true then some ([],m+1)else a2X 9 T m []
theorem X6(l:List α)(x:α):(l++[x]).length=l.length+1:=by simp
theorem b2G(T:List Tok)(n:Nat)(ps:List U)(b:List Ex)(hT:T.length<=1000000)(hn:n<T.length)(hW:a06 T):b8 CC 240 [.ptr 0 0] (pst T n ps b) (a4q (λa:List U×Nat=>.list (a.1.map scv) (gnn a.1.length) none) (λa=>pst T a.2 ps b) (λa=>N7 T n=some a/\a.2 <T.length/\a.1.length<=8) (N7 T n=none)):=by
 refine qO Tryz.func240 ?_;refine qD (p8 J a6M o8 (S2 hT hn hW [40] ⟨J,J,G⟩) J (λx hx=>.inr ⟨x,k8,by rw[N7,hx.1];rfl,hx.2⟩) ?_);rintro n1 ⟨bz,bf⟩;dsimp only at bz bf⊢;refine qD (c5 J c7F o8 (a15 hT bf hW [41] ⟨J,J,G⟩) J ?_);rintro⟨ac,n2⟩ ⟨ha,cg,eF⟩;dsimp only at ha cg eF⊢;refine qC ?_ ?_<;>intro h1
 .have hc:isT (tk T n1) 4 [41]=true:=by rw[<- ha];simpa using h1
  rw[F hc]at cg;refine c6 ?_;exact⟨_,rE1,(by exact .inl ⟨([],n2),a1k J (A6 _ [] false),by rw[N7,bz,n_9,F hc,cg],eF,by show 0<=8;decide⟩)⟩
 .have hc:¬isT (tk T n1) 4 [41]=true:=by rw[<- ha];simpa using h1
  rw[D hc]at cg;refine A2 hCC 2 J (α:=List U×Nat) (λx=>[(0,.ptr 0 0),(3,(.list (x.1.map scv) (gnn x.1.length) (C3 x.1.length 2)))]) (λx=>[pbx T x.2 ps b 1,o5 b.length,o5 x.1.length]) (λx=>x.1.length<=8/\x.2 <T.length/\N7 T n=a2X (9-x.1.length) T x.2 x.1) (λx=>9-x.1.length) ⟨([],n2),[0,1,7],⟨n_4 _,eF,by rw[N7,bz,n_9,D hc,cg];rfl⟩,⟨J,J⟩,ut_,uq_⟩ ?_;intro⟨l,m⟩ ⟨hl,hm,ah⟩;dsimp only at hl hm ah⊢;obtain⟨f,hf⟩:∃f,9-l.length=f+1:=⟨8-l.length,X⟩;rw[hf,a2X]at ah;refine qk (qD (p8 J c5x ⟨O,O⟩ (b04 hT hm hW ⟨J,J,G⟩) J (λx hx=>.inr ⟨x,k8,by rw[ah,hx.1];rfl,hx.2⟩) ?_));rintro⟨t,m1⟩ ⟨ht,bZ⟩;dsimp only at ht bZ⊢;rw[ht,n_9]at ah;dsimp only at ah;refine z_1 ?_;refine W I7 ?_;refine qC ?_ ?_<;>intro h2
  .have h8:l.length=8:=sm_ h2;rw[F h8]at ah;exact a3i J J (Q6 J a5J o8 (Q3 _ _ _) J (λ_ _=>.inr ⟨(_,_),k8,ah,H⟩))
  .have h8:¬l.length=8:=sm_ h2;rw[D h8]at ah;refine W (c4 J c0k i7 (a0C l (gnn l.length) t.t X _) J) ?_;refine qC ?_ ?_<;>intro h3
   .have hi:t.t∈l:=I h3;rw[F hi]at ah;exact a3i J J (Q6 J a5J o8 (Q3 _ _ _) J (λ_ _=>.inr ⟨(_,_),k8,ah,H⟩))
   .have hi:¬t.t∈l:=I h3;rw[D hi]at ah;have eO:=X6 l t.t;refine W (B1 [scv t.t] J ⟨O,O⟩ t_2 t_0 t_4 J J J J J J J J J) ?_;refine qD (A4 J O O J H q_5 t_2 t_0 a3p t_4 J (.inr J) K2 Z6 B7 ((l++[t.t]).map scv) (l++[t.t]).length H H ?_);refine qD (c5 J c7F o8 (a15 hT bZ hW [44] ⟨J,J,G⟩) J ?_);rintro⟨ac2,m2⟩ ⟨ha2,ce,gi⟩;dsimp only at ha2 ce gi⊢;refine qC ?_ ?_<;>intro h4
    .have cr:¬isT (tk T m1) 4 [44]=true:=by rw[<- ha2];simpa using h4
     rw[D cr]at ce ah;subst ce;refine j6 ?_;refine qD (p8 J a6M o8 (S2 hT gi hW [41] ⟨J,J,G⟩) J (λx hx=>.inr ⟨x,k8,by rw[ah,hx.1];rfl,hx.2⟩) ?_);rintro m3 ⟨fT,gh⟩;dsimp only at fT gh⊢;refine c6 ?_;exact⟨_,rE1,(by exact .inl ⟨(l++[t.t],m3),d5B J (H5 (f:=scv) (λ_=>⟨.val _,O⟩) _),by rw[ah,fT];rfl,gh,by show(l++[t.t]).length<=8;omega⟩)⟩
    .have cr:isT (tk T m1) 4 [44]=true:=by rw[<- ha2];simpa using h4
     rw[F cr]at ce ah;subst ce;exact⟨(l++[t.t],m1+1),[0,1,4],⟨Q,Q,gi,by dsimp only;rw[ah,show 9- (l++[t.t]).length=f by omega]⟩,⟨J,J⟩,ut_,uq_⟩
theorem b3I{n:Nat}{ps:List U}{b:List Ex}(hT:T.length<=1000000)(hn:n<T.length)(hW:a06 T)(ao:PAt σ q s T n ps b):b8 CC 240 [.ptr q 0] σ (a5b (λa:List U×Nat=>.list (a.1.map scv) (gnn a.1.length) none) (λa=>σ.set q (pbx T a.2 ps b s)) (λa=>N7 T n=some a/\a.2 <T.length/\a.1.length<=8) σ q s (N7 T n=none)):=
 a08 (c:=λa:List U×Nat=>.list (a.1.map scv) (gnn a.1.length) none) (N:=λa=>a.2) (λ_ h=>by cases h) (λ_=>F3 _ _) (b2G T n ps b hT hn hW) ao
def F9(op:Int):Int:=if op=6\/op=7 then 1 else if op=1\/op=2 then 2 else 3
def S0:List (Int×U):=[(1,[43]),(2,[45]),(3,[42]),(4,[47]),(5,[37]),(6,[60]),(7,[61,61])]
theorem a7Q(op:Int)(σ:List b9):b8 CC 319 [iv op] σ λr aa=>r= .ret (iv (F9 op))/\aa=σ:=by
 refine b8.anyw hCC pu_ pu_ (c7 (qO Tryz.func319 ?_)) σ;refine qC ?_ ?_<;>intro h1
 .have e:op=6:=I h1;refine qC ?_ ?_<;>intro h2
  .refine c6 ?_;exact⟨_,rE1,_,_,J,J,C9 (show(1:Int)=F9 op by rw[F9,F (.inl e)])⟩
  .rw [h1]at h2;cases h2
 .have e6:¬op=6:=I h1;refine qC ?_ ?_<;>intro h6
  .have e:op=7:=I h6;refine c6 ?_;exact⟨_,rE1,_,_,J,J,C9 (show(1:Int)=F9 op by rw[F9,F (.inr e)])⟩
  .have e7:¬op=7:=I h6;refine qC ?_ ?_<;>intro h7
   .have e:op=1:=I h7;refine qC ?_ ?_<;>intro h8
    .refine c6 ?_;exact⟨_,rE1,_,_,J,J,C9 (show(2:Int)=F9 op by rw[F9,D X,F (.inl e)])⟩
    .rw [h7]at h8;cases h8
   .have e1:¬op=1:=I h7;refine qC ?_ ?_<;>intro h9
    .have e:op=2:=I h9;refine c6 ?_;exact⟨_,rE1,_,_,J,J,C9 (show(2:Int)=F9 op by rw[F9,D X,F (.inr e)])⟩
    .have e2:¬op=2:=I h9;refine c6 ?_;exact⟨_,rE1,_,_,J,J,C9 (show(3:Int)=F9 op by rw[F9,D X,D X])⟩
theorem d8o(m:List (Int×U)):a4m (.map (gm kv sv m)):=λx hx=>by
 obtain⟨y,_,rfl⟩:=D5.1 hx;exact⟨.val _,.val _⟩
theorem c6k:b8 CC 307 [] [] λr τ=>∃_:Unit,a1t [b9.map (gm kv sv S0)].length τ r (.ret (.map 0))/\b30 [b9.map (gm kv sv S0)].length τ τ [b9.map (gm kv sv S0)]/\([]:List b9).length<=[b9.map (gm kv sv S0)].length/\True:=by
 refine qO Tryz.func307 ?_;refine qD (V3 J ?_);refine qD (o3 (vc:=sv) (l:=S0.take 0) a0X (.inr J) O J J J J J a2I J ?_);refine qD (o3 (vc:=sv) (l:=S0.take 1) a0X (.inr J) O J J J J J a2I J ?_);refine qD (o3 (vc:=sv) (l:=S0.take 2) a0X (.inr J) O J J J J J a2I J ?_);refine qD (o3 (vc:=sv) (l:=S0.take 3) a0X (.inr J) O J J J J J a2I J ?_);refine qD (o3 (vc:=sv) (l:=S0.take 4) a0X (.inr J) O J J J J J a2I J ?_);refine qD (o3 (vc:=sv) (l:=S0.take 5) a0X (.inr J) O J J J J J a2I J ?_);refine qD (o3 (vc:=sv) (l:=S0.take 6) a0X (.inr J) O J J J J J a2I J ?_);refine c6 ?_;exact⟨_,rE1,(by exact⟨(),.ret (.old (.map (Nat.zero_lt_one))),⟨.same (d8o _).old,O⟩,n_4 _,O⟩)⟩
theorem b7B(σ:List b9):b8 CC 307 [] σ λr τ=>∃_:Unit,r= .ret (.map σ.length)/\τ=σ++[.map (gm kv sv S0)]/\True:=
 a1n (α:=Unit) (obs:=[]) (args:=[]) (res:=λ_=>.ret (.map 0)) (res':=λ_=>.ret (.map σ.length)) (S:=λ_=>[]) (N:=λ_=>[.map (gm kv sv S0)]) (P:=λ_=>True) [] hCC J (λi j k h=>by simp at h) (λi k h=>by simp at h) (λob h=>by cases h) ⟨J,λi c c' h=>by simp at h⟩
  (a1m (res:=λ_=>.ret (.map 0)) (S:=λ_=>[.map (gm kv sv S0)]) (P:=λ_=>True) hCC c6k) (λm _=>⟨J,λob h=>by simp at h;subst h;exact d8o _⟩) (λm _=>.ret (.map (.inr ⟨n_4 _,J⟩)))
def opM(t:Tok)(lv:Int)(x:Int×U):Bool:=(t.k == 4)&&decide (t.t=x.2)&& (F9 x.1 == lv)
def opS(t:Tok)(lv:Int):Int:=((S0.find? (opM t lv)).map (·.1)).getD 0
theorem d9Y:∀x∈S0,∀y∈S0,x.2=y.2->x=y:=by decide
theorem a5U{x:Int×U}(hx:x∈S0)(h:opM t lv x=true):opS t lv=x.1:=by
 unfold opS;cases hf:S0.find? (opM t lv)with
 |none=>exact absurd h (by simpa using b8h.1 hf x hx)
 |some y=>
  have h1:=List.find?_some hf;have h2:=c0D hf;simp[opM]at h h1;have:=d9Y x hx y h2 (by rw[<- h.1.2,<- h1.1.2]);rw[this];rfl
theorem b3h(h:∀x∈S0,opM t lv x=false):opS t lv=0:=by
 unfold opS;have:S0.find? (opM t lv)=none:=b8h.2 λx hx=>by simp[h x hx]
 rw[this];rfl
theorem b60{l:List α}{x:α}(hy:l[i]?=some y)(h:x∈l):x=y\/x∈l.eraseIdx i:=by
 obtain⟨j,hj⟩:=N0.1 h;by_cases eI:j=i
 .subst eI;rw[hy]at hj;injection hj with hj;exact .inl hj.symm
 .exact .inr (c88.2 ⟨j,eI,hj⟩)
theorem b6j(T:List Tok)(n:Nat)(ps:List U)(b:List Ex)(hT:T.length<=1000000)(hn:n<T.length)(lv:Int):b8 CC 302 [.ptr 0 0,iv lv] (pst T n ps b) (λr τ=>D2 2 τ r (.ret (iv (opS (tk T n) lv))) (pst T n ps b)):=by
 refine qO Tryz.func302 ?_;refine W c0i ?_;refine z_1 ?_;refine qD (c5 J Tryz.call307 trivial (b7B _) J ?_);intro _ _;refine qD (b1a J O J a2I J ?_);refine j8 hCC (α:=List (Int×U)×List (Int×U)) (λx=>[(1,iv lv),(5,.ptr 2 0),(11,.ptr 4 0)]) (λx=>[pbx T n ps b 1,o5 b.length,.box (tk T n).cells,.dead,.iter (gm kv sv x.1) (gm kv sv x.2)]) (λx=>(∀y∈x.2,y∈S0)/\∀y∈S0,y∉x.2->opM (tk T n) lv y=false) (λx=>x.2.length) ([],S0) ⟨λy h=>h,λy h h2=>absurd h h2⟩ tu_ (ai:=[]) J z8 uz_ ?_;intro⟨aH,left⟩ ⟨eO,eg⟩;dsimp only at eO eg⊢;refine qk (qD (b6b J O J J (λhz=>?_) (λi x hx=>?_)))
 .
  have dy:left=[]:=by
   cases left with
   |nil=>rfl
   |cons y l=>cases hz
  subst dy;refine qC ?_ ?_<;>intro h1
  .cases h1
  .have eW:=b3h (λy hy=>eg y hy H);refine z_9 ?_;exact⟨_,rE1,(by rw[eW];exact a1k J (.val _))⟩
 .
  obtain⟨⟨k,s⟩,hy,rfl⟩:=b6f hx;rw[a8D];have bD:=eO _ (n_2 hy);refine qC ?_ ?_<;>intro h3
  .refine W (b09 J O J J) ?_;refine qG b71 ?_;refine qG a02 ?_;refine b4y ?_;refine qG D4 ?_;refine qG (λhg=>c4 J Tryz.call319 ⟨hg,O⟩ (a7Q k _) J) ?_;refine qG D4 ?_;refine qG b5j ?_;refine W N9 ?_;refine qC ?_ ?_<;>intro h4
   .have hm:opM (tk T n) lv (k,s)=true:=h4;have bP:=a5U bD hm;refine c6 ?_;exact⟨_,rE1,(by rw[bP];exact a1k J (.val _))⟩
   .have hm:opM (tk T n) lv (k,s)=false:=h4;exact⟨([(k,s)],left.eraseIdx i),_,⟨by dsimp only;rw[c41 (n_3.1 hy).1];have:=(n_3.1 hy).1;omega,λy ip=>eO y (List.mem_of_mem_eraseIdx ip),λy fp hy2=>by
     by_cases dY:y∈left
     .rcases b60 hy dY with rfl|h
      .exact hm
      .exact absurd h hy2
     .exact eg y fp dY⟩,tu_,J⟩
  .cases h3
theorem c0d{n:Nat}{ps:List U}{b:List Ex}(hT:T.length<=1000000)(hn:n<T.length)(lv:Int)(ao:PAt σ q s T n ps b):b8 CC 302 [.ptr q 0,iv lv] σ λr τ=>r= .ret (iv (opS (tk T n) lv))/\τ=σ:=c2q (λ_ h=>by simp at h;subst h;exact .val _) (.val _) (b6j T n ps b hT hn lv) ao
abbrev PX:=Nat×Nat×List Ex
structure PF where
 ex:Nat->Nat->List Ex->Option PX
 bin:Nat->Nat->Nat->List Ex->Option PX
 lp:Nat->Nat->Nat->Nat->List Ex->Option PX
 fac:Nat->Nat->List Ex->Option PX
 ag:Nat->Nat->List Ex->List Int->Option (List Int×Nat×List Ex)
def a2Y(T:List Tok)(Jh:PF)(d n:Nat)(b:List Ex):Option (List Int×Nat×List Ex):=
 (pIs T n 4 [40]).bind λn1=>if isT (tk T n1) 4 [41]=true then some ([],n1+1,b)else Jh.ag d n1 b []
def N8(b:List Ex)(x:Ex)(m:Nat):Option PX:=(Z1 b x).bind λw=>some (w.1,m,w.2)
def Z4(T:List Tok)(Jh:PF)(u:U)(d n:Nat)(b:List Ex):Option PX:=
 (pIs T n 4 [40]).bind λn1=>
  if u=[114,101,97,100]then(a00 T n1).bind λs=>(pIs T s.2 4 [44]).bind λn2=>(Jh.ex (d+1) n2 b).bind λx=>(pIs T x.2.1 4 [41]).bind λm=>N8 x.2.2 ⟨6,0,0,s.1.t,[(x.1:Int)]⟩ m
  else if u=[115,105,122,101]then(a00 T n1).bind λs=>(pIs T s.2 4 [41]).bind λm=>N8 b ⟨7,0,0,s.1.t,[]⟩ m
  else if u=[104,97,115]then(a00 T n1).bind λs=>(pIs T s.2 4 [41]).bind λm=>N8 b ⟨8,0,0,s.1.t,[]⟩ m
  else if u=[101,110,118]then(G6 T n1 3).bind λs=>if C4 s.1.t=true then(pIs T s.2 4 [41]).bind λm=>N8 b ⟨9,0,0,s.1.t,[]⟩ m else none
  else(G6 T n1 2).bind λs=>if 64<=s.1.n then none else(pIs T s.2 4 [41]).bind λm=>N8 b ⟨10,s.1.n,0,[],[]⟩ m
def G9(T:List Tok)(ps:List U)(Jh:PF):PF where
 ex d n b:=if 32<d then none else if isT (tk T n) 1 [105,102]=true then
  (Jh.ex (d+1) (n+1) b).bind λx=>(pIs T x.2.1 1 [116,104,101,110]).bind λn2=>(Jh.ex (d+1) n2 x.2.2).bind λy=>(pIs T y.2.1 1 [101,108,115,101]).bind λn3=>(Jh.ex (d+1) n3 y.2.2).bind λz=>
   N8 z.2.2 ⟨5,0,0,[],[(x.1:Int),(y.1:Int),(z.1:Int)]⟩ z.2.1
  else Jh.bin 1 d n b
 bin lv d n b:=if lv=4 then Jh.fac d n b else(Jh.bin (lv+1) d n b).bind λx=>Jh.lp lv d x.1 x.2.1 x.2.2
 lp lv d x n b:=if opS (tk T n) (lv:Int)=0 then some (x,n,b)else(Jh.bin (lv+1) d (n+1) b).bind λy=>(Z1 y.2.2 ⟨4,0,opS (tk T n) (lv:Int),[],[(x:Int),(y.1:Int)]⟩).bind λw=>
  if lv=1 then some (w.1,y.2.1,w.2)else Jh.lp lv d w.1 y.2.1 w.2
 fac d n b:=
  if(tk T n).k=2 then N8 b ⟨1,(tk T n).n,0,[],[]⟩ (n+1)
  else if isT (tk T n) 4 [45]=true then(G6 T (n+1) 2).bind λy=>N8 b ⟨1,-y.1.n,0,[],[]⟩ y.2
  else if isT (tk T n) 4 [40]=true then(Jh.ex (d+1) (n+1) b).bind λx=>(pIs T x.2.1 4 [41]).bind λm=>some (x.1,m,x.2.2)
  else if(tk T n).k≠1 then none
  else if(tk T n).t=[114,101,97,100]\/(tk T n).t=[115,105,122,101]\/(tk T n).t=[104,97,115]\/(tk T n).t=[101,110,118]\/(tk T n).t=[102,108,105,112]then Z4 T Jh (tk T n).t d (n+1) b
  else if S7 (tk T n).t=true then none
  else if isT (tk T (n+1)) 4 [40]=true then(a2Y T Jh d (n+1) b).bind λa=>N8 a.2.2 ⟨3,0,0,(tk T n).t,a.1⟩ a.2.1
  else if ixS ps (tk T n).t 0<0 then none else N8 b ⟨2,ixS ps (tk T n).t 0,0,[],[]⟩ (n+1)
 ag d n b bt:=(Jh.ex (d+1) n b).bind λx=>if isT (tk T x.2.1) 4 [44]=true then Jh.ag d (x.2.1+1) x.2.2 (bt++[(x.1:Int)])else(pIs T x.2.1 4 [41]).bind λm=>some (bt++[(x.1:Int)],m,x.2.2)
def A3(T:List Tok)(ps:List U):Nat->PF
 |0=>⟨λ_ _ _=>none,λ_ _ _ _=>none,λ_ _ _ _ _=>none,λ_ _ _=>none,λ_ _ _ _=>none⟩
 |f+1=>G9 T ps (A3 T ps f)
def EC(T:List Tok)(ps:List U)(f:Nat):Prop:=∀(d n:Nat) (b:List Ex),n<T.length->b.length<=256->d<=33->8*(T.length -n)+6<=f->∀(σ:List b9) (q s:Nat),PAt σ q s T n ps b->b8 CC 241 [.ptr q 0,iv d] σ (a5b (λa:PX=>(iv a.1)) (λa:PX=>(σ.set q (pbx T a.2.1 ps a.2.2 σ.length)).set s .dead++[o5 a.2.2.length]) (λa:PX=>(A3 T ps f).ex d n b=some a/\n<a.2.1/\a.2.1 <T.length/\a.2.2.length<=256) σ q s ((A3 T ps f).ex d n b=none))
def BC(T:List Tok)(ps:List U)(f:Nat):Prop:=∀(lv d n:Nat) (b:List Ex),n<T.length->b.length<=256->1<=lv->lv<=4->d<=32->8*(T.length -n)+6<=f+lv->∀(σ:List b9) (q s:Nat),PAt σ q s T n ps b->b8 CC 278 [.ptr q 0,iv lv,iv d] σ (a5b (λa:PX=>(iv a.1)) (λa:PX=>(σ.set q (pbx T a.2.1 ps a.2.2 σ.length)).set s .dead++[o5 a.2.2.length]) (λa:PX=>(A3 T ps f).bin lv d n b=some a/\n<a.2.1/\a.2.1 <T.length/\a.2.2.length<=256) σ q s ((A3 T ps f).bin lv d n b=none))
def FC(T:List Tok)(ps:List U)(f:Nat):Prop:=∀(d n:Nat) (b:List Ex),n<T.length->b.length<=256->d<=32->8*(T.length -n)+1<=f->∀(σ:List b9) (q s:Nat),PAt σ q s T n ps b->b8 CC 301 [.ptr q 0,iv d] σ (a5b (λa:PX=>(iv a.1)) (λa:PX=>(σ.set q (pbx T a.2.1 ps a.2.2 σ.length)).set s .dead++[o5 a.2.2.length]) (λa:PX=>(A3 T ps f).fac d n b=some a/\n<a.2.1/\a.2.1 <T.length/\a.2.2.length<=256) σ q s ((A3 T ps f).fac d n b=none))
structure a0y(T:List Tok)(ps:List U):Prop where
 len:T.length<=1000000
 w:a06 T
 l:d3r T
 ps:ps.length<=1000000
 nn:∀i,0<=(tk T i).n/\(tk T i).n<=9007199254740993
variable{ps:List U}{nn:Bool}{l:List α}{w:Nat}
theorem R2{n:Nat}{k:Int}{s:U}(h:pIs T n k s=some m):m=n+1:=by
 unfold pIs at h;split at h
 .injection h with h;exact h.symm
 .cases h
theorem d0g(hc:a0y T ps)(hE:EC T ps f)(hB:BC T ps f)(d n:Nat)(b:List Ex)(hn:n<T.length)(hb:b.length<=256)(bV:d<=33)(hf:8*(T.length -n)+6<=f+1):b8 CC 241 [.ptr 0 0,iv d] (pst T n ps b) (a4q (λa:PX=>(iv a.1)) (λa=>a7d T a.2.1 ps a.2.2) (λa:PX=>(A3 T ps (f+1)).ex d n b=some a/\n<a.2.1/\a.2.1 <T.length/\a.2.2.length<=256) ((A3 T ps (f+1)).ex d n b=none)):=by
 have hT:=hc.len;have hW:=hc.w;have ah:(A3 T ps (f+1)).ex d n b=(G9 T ps (A3 T ps f)).ex d n b:=J;simp only[G9]at ah;refine qO Tryz.func241 ?_;refine W d8c ?_;refine z_1 ?_;refine qC ?_ ?_<;>intro h1
 .have hd:32<d:=sm_ h1;rw[F hd]at ah;exact a3i J J (Q6 J a5J o8 (Q3 _ _ _) J (λ_ _=>.inr ⟨(_,_),k8,ah,H⟩))
 .have hd:¬32<d:=sm_ h1;rw[D hd]at ah;refine W (c4 J c59 a2N (b42 hT hn 1 [105,102] ⟨J,J,n_5 J⟩) J) ?_;refine qC ?_ ?_<;>intro h2
  .have hi:isT (tk T n) 1 [105,102]=false:=I h2;rw[D (by rw[hi];decide)]at ah;refine qD (p8 J d2N ⟨O,J,O,O⟩ (hB 1 d n b hn hb X X X X _ 0 1 ⟨J,J,n_5 J⟩) J (λx hx=>.inr ⟨x,k8,by rw[ah];exact hx.1,hx.2⟩) ?_);rintro⟨i,m,b2⟩ ⟨g1,g2,g3,g4⟩;dsimp only at g1 g2 g3 g4⊢;refine qN [pbx T m ps b2 3,.dead,.box (tk T n).cells,o5 b2.length] J ?_;refine c6 ?_;exact⟨_,rE1,(by exact .inl ⟨(i,m,b2),a0o (k:=3) J J G (.val _),by rw[ah];exact g1,g2,g3,g4⟩)⟩
  .have hi:isT (tk T n) 1 [105,102]=true:=I h2;rw[F hi]at ah;have bf:=hW n hn (a7f hi G);refine z_8 ?_;refine W j9 ?_;refine qD (p8 J c1Y i7 (hE (d+1) (n+1) b bf hb X X _ 0 1 ⟨J,J,n_5 J⟩) J (λx hx=>.inr ⟨x,k8,by rw[ah,hx.1];rfl,hx.2⟩) ?_);rintro⟨i1,n1,b1⟩ ⟨x1,y1,z1,w1⟩;dsimp only at x1 y1 z1 w1⊢;rw[x1,n_9]at ah;dsimp only at ah;refine qN [pbx T n1 ps b1 3,.dead,.box (tk T n).cells,o5 b1.length] J (qD (p8 J c90 o8 (b6K hT z1 hW [116,104,101,110] ⟨J,J,n_5 J⟩) J (λx hx=>.inr ⟨x,k8,by rw[ah,hx.1];rfl,hx.2⟩) ?_));rintro n2 ⟨x2,y2⟩;dsimp only at x2 y2⊢;rw[x2,n_9]at ah;have cg:=R2 x2;refine qN [pbx T n2 ps b1 3,.dead,.box (tk T n).cells,o5 b1.length] J (W j9 ?_);refine qD (p8 J c1Y i7 (hE (d+1) n2 b1 y2 w1 X X _ 0 _ ⟨J,J,n_5 J⟩) J (λx hx=>.inr ⟨x,k8,by rw[ah,hx.1];rfl,hx.2⟩) ?_);rintro⟨i3,n3,b3⟩ ⟨x3,y3,z3,w3⟩;dsimp only at x3 y3 z3 w3⊢;rw[x3,n_9]at ah;dsimp only at ah;refine qN [pbx T n3 ps b3 4,.dead,.box (tk T n).cells,.dead,o5 b3.length] J (qD (p8 J c90 o8 (b6K hT z3 hW [101,108,115,101] ⟨J,J,n_5 J⟩) J (λx hx=>.inr ⟨x,k8,by rw[ah,hx.1];rfl,hx.2⟩) ?_));rintro n4 ⟨x4,y4⟩;dsimp only at x4 y4⊢;rw[x4,n_9]at ah;have hn4:=R2 x4;refine qN [pbx T n4 ps b3 4,.dead,.box (tk T n).cells,.dead,o5 b3.length] J (W j9 ?_);refine qD (p8 J c1Y i7 (hE (d+1) n4 b3 y4 w3 X X _ 0 _ ⟨J,J,n_5 J⟩) J (λx hx=>.inr ⟨x,k8,by rw[ah,hx.1];rfl,hx.2⟩) ?_);rintro⟨i5,n5,b5⟩ ⟨x5,y5,z5,w5⟩;dsimp only at x5 y5 z5 w5⊢;rw[x5,n_9,N8]at ah;dsimp only at ah;refine qN [pbx T n5 ps b5 5,.dead,.box (tk T n).cells,.dead,.dead,o5 b5.length] J (W (B1 ([(i1:Int),(i3:Int),(i5:Int)].map icv) J D6 t_6 t_1 t_8 J J J J J J J J J) ?_);refine W b1m ?_;refine qD (p8 J b1p D6 (a0V hT z5 w5 (tk T n) ⟨5,0,0,[],[(i1:Int),(i3:Int),(i5:Int)]⟩ ⟨J,J,n_5 J⟩) J (λx hx=>.inr ⟨x,k8,by rw[ah,hx.1];rfl,hx.2⟩) ?_);rintro⟨i6,b6⟩ ⟨x6,y6⟩;dsimp only at x6 y6⊢;rw[x6,n_9]at ah;refine qN [pbx T n5 ps b6 6,.dead,.box (tk T n).cells,.dead,.dead,.dead,o5 b6.length] J ?_;refine c6 ?_;exact⟨_,rE1,(by exact .inl ⟨(i6,n5,b6),a0o (k:=6) J J G (.val _),ah,Q,z5,y6⟩)⟩
theorem d5k(hc:a0y T ps)(hE:EC T ps f)(hB:BC T ps f):EC T ps (f+1):=λd n b hn hb hd hf σ q s ao=>
 a36 (c:=λa:PX=>(iv a.1)) (N:=λa=>a.2.1) (B:=λa=>a.2.2) (λ_ h=>by simp at h;subst h;exact .val _) (λ_=>.val _) (d0g hc hE hB d n b hn hb hd hf) ao
def kf(ph:Bool):Nat:=if ph=true then 3 else 2
def of1(ph:Bool)(m:Nat):b9:=if ph=true then .dead else o5 m
def of2(ph:Bool)(m:Nat):b9:=if ph=true then o5 m else .dead
theorem e0R(h:¬opS t lv=0):t.k≠5:=λh5=>h (b3h λx _=>by simp[opM,h5])
theorem a73{b:List Ex}{k p:Nat}(h:am[p]?=some k):C6 L am (.list (b.map Ex.cv) (gnn b.length) (C3 b.length k)) (.list (b.map Ex.cv) (gnn b.length) (C3 b.length p)):=
 .list (λr hr c hc=>(C0 (f:=Ex.cv) (λa=>(Ex.pure a).all) _ r hr c hc).old) (λj hj=>by
  cases hb:b.length with
  |zero=>rw[hb]at hj;cases hj
  |succ m=>rw[hb]at hj;injection hj with hj;subst hj;exact⟨k,J,h⟩)
theorem c1M(hc:a0y T ps)(hB:∀g,g<=f->BC T ps g)(hF:FC T ps f)(lv d n:Nat)(b:List Ex)(hn:n<T.length)(hb:b.length<=256)(cp:1<=lv)(hl4:lv<=4)(bV:d<=32)(hf:8*(T.length -n)+6<=f+1+lv):b8 CC 278 [.ptr 0 0,iv lv,iv d] (pst T n ps b) (a4q (λa:PX=>(iv a.1)) (λa=>a7d T a.2.1 ps a.2.2) (λa:PX=>(A3 T ps (f+1)).bin lv d n b=some a/\n<a.2.1/\a.2.1 <T.length/\a.2.2.length<=256) ((A3 T ps (f+1)).bin lv d n b=none)):=by
 have hT:=hc.len;have hW:=hc.w;have ah:(A3 T ps (f+1)).bin lv d n b=(G9 T ps (A3 T ps f)).bin lv d n b:=J;simp only[G9]at ah;refine qO Tryz.func278 ?_;refine qC ?_ ?_<;>intro h1
 .have h4:lv=4:=sm_ h1;rw[F h4]at ah;refine qD (p8 J Tryz.call301 i7 (hF d n b hn hb bV X _ 0 1 ⟨J,J,n_5 J⟩) J (λx hx=>.inr ⟨x,k8,by rw[ah];exact hx.1,hx.2⟩) ?_);rintro⟨i,m,b2⟩ ⟨g1,g2,g3,g4⟩;dsimp only at g1 g2 g3 g4⊢;refine qN [pbx T m ps b2 2,.dead,o5 b2.length] J ?_;refine c6 ?_;exact⟨_,rE1,(by exact .inl ⟨(i,m,b2),a0o (k:=2) J J G (.val _),by rw[ah];exact g1,g2,g3,g4⟩)⟩
 .have h4:¬lv=4:=sm_ h1;rw[D h4]at ah;refine W j9 ?_;refine qD (p8 J d2N D6 (hB f (n_7 _) (lv+1) d n b hn hb X X bV X _ 0 1 ⟨J,J,n_5 J⟩) J (λx hx=>.inr ⟨x,k8,by rw[ah,hx.1];rfl,hx.2⟩) ?_);rintro⟨i1,n1,b1⟩ ⟨x1,y1,z1,w1⟩;dsimp only at x1 y1 z1 w1⊢;rw[x1,n_9]at ah;dsimp only at ah;refine qN [pbx T n1 ps b1 2,.dead,o5 b1.length] J ?_;refine A2 hCC 3 J (α:=Nat×Nat×List Ex×Bool×Nat) (λx=>[(0,.ptr 0 0),(1,iv lv),(2,iv d),(7,iv x.1)]) (λx=>[pbx T x.2.1 ps x.2.2.1 (kf x.2.2.2.1),.dead,of1 x.2.2.2.1 x.2.2.1.length,of2 x.2.2.2.1 x.2.2.1.length]) (λx=>(A3 T ps (f+1)).bin lv d n b=(A3 T ps x.2.2.2.2).lp lv d x.1 x.2.1 x.2.2.1/\n<x.2.1/\x.2.1 <T.length/\x.2.2.1.length<=256/\x.2.2.2.2<=f/\8*(T.length -x.2.1)+3<=x.2.2.2.2) (λx=>T.length -x.2.1) ⟨(i1,n1,b1,false,f),[0,1,2,7],⟨ah,y1,z1,w1,n_7 _,Q⟩,⟨J,J⟩,ut_,uq_⟩ ?_;intro⟨x,m,b2,ph,g⟩ ⟨dj,bN,hm,cy,hgf,hg⟩;dsimp only at dj bN hm cy hgf hg⊢;obtain⟨g,rfl⟩:∃g',g=g'+1:=⟨g-1,X⟩;have iC:(A3 T ps (g+1)).lp lv d x m b2=(G9 T ps (A3 T ps g)).lp lv d x m b2:=J;simp only[G9]at iC;rw[iC]at dj;refine qk (W (c4 J Tryz.call302 i7 (c0d hT hm (lv:Int) (q:=0) (s:=kf ph) b9G) J) ?_);refine qC ?_ ?_<;>intro h2
  .have h0:opS (tk T m) (lv:Int)=0:=I h2;rw[F h0]at dj;refine c6 ?_;exact⟨_,rE1,(by exact .inl ⟨(x,m,b2),(by cases ph;exact a0o (k:=2) J J G (.val _);exact a0o (k:=3) J J G (.val _)),dj,bN,hm,cy⟩)⟩
  .have h0:¬opS (tk T m) (lv:Int)=0:=I h2;rw[D h0]at dj;have bZ:=hW m hm (e0R h0);refine W (c4 J c6f ⟨O,O⟩ (a3W hT hm (q:=0) (s:=kf ph) b9G) J) ?_;refine z_1 ?_;refine z_8 ?_;refine W j9 ?_;refine qD (p8 J d2N D6 (hB g X (lv+1) d (m+1) b2 bZ cy X X bV X _ 0 (kf ph) b9G) J (λx hx=>.inr ⟨x,k8,by rw[dj,hx.1];rfl,hx.2⟩) ?_);rintro⟨i3,n3,b3⟩ ⟨x3,y3,z3,w3⟩;dsimp only at x3 y3 z3 w3⊢;rw[x3,n_9]at dj;dsimp only at dj;refine qN [pbx T n3 ps b3 5,.dead,.dead,.dead,.box (tk T m).cells,o5 b3.length] Q5 ?_;refine W (B1 ([(x:Int),(i3:Int)].map icv) J i7 t_6 t_1 t_8 J J J J J J J J J) ?_;refine W c7T ?_;refine qD (p8 J b1p D6 (a0V hT z3 w3 (tk T m) ⟨4,0,opS (tk T m) (lv:Int),[],[(x:Int),(i3:Int)]⟩ ⟨J,J,n_5 J⟩) J (λx hx=>.inr ⟨x,k8,by rw[dj,hx.1];rfl,hx.2⟩) ?_);rintro⟨i4,b4⟩ ⟨x4,y4⟩;dsimp only at x4 y4⊢;rw[x4,n_9]at dj;dsimp only at dj;refine qN [pbx T n3 ps b4 6,.dead,.dead,.dead,.box (tk T m).cells,.dead,o5 b4.length] J (qC ?_ ?_)<;> intro h3
   .have cp:lv=1:=sm_ h3;rw[F cp]at dj;refine c6 ?_;exact⟨_,rE1,(by exact .inl ⟨(i4,n3,b4),a0o (k:=6) J J G (.val _),dj,Q,z3,y4⟩)⟩
   .have cp:¬lv=1:=sm_ h3;rw[D cp]at dj;exact⟨(i4,n3,b4,true,g),[0,1,2,6],⟨Q,dj,Q,z3,y4,Q,Q⟩,⟨J,J⟩,ut_,⟨.inr ⟨_,J,.box ⟨.old a1u,.old (.val _),.old Z8,a73 J,O⟩⟩,.inl J,.inl J,.inr ⟨_,J,.same J D8⟩,O⟩⟩
theorem c7o(hc:a0y T ps)(hB:∀g,g<=f->BC T ps g)(hF:FC T ps f):BC T ps (f+1):=λlv d n b hn hb cp hl4 hd hf σ q s ao=>
 a36 (c:=λa:PX=>(iv a.1)) (N:=λa=>a.2.1) (B:=λa=>a.2.2) (λ_ h=>by simp at h;rcases h with rfl|rfl<;>exact .val _) (λ_=>.val _) (c1M hc hB hF lv d n b hn hb cp hl4 hd hf) ao
theorem a5j{n:Nat}{k:Int}(h:G6 T n k=some (t,m))(hk:k≠5):m=n+1:=by
 unfold G6 at h;rw[D hk]at h;split at h
 .injection h with h;injection h with _ h;exact h.symm
 .cases h
theorem a7E{n:Nat}(h:a00 T n=some (t,m)):m=n+1:=by
 unfold a00 at h;cases hq:G6 T n 3 with
 |none=>rw[hq]at h;cases h
 |some x=>
  rw[hq,n_9]at h;split at h
  .injection h with h;subst h;exact a5j hq G
  .cases h
theorem b2v{n:Nat}(h:K8 T n=some (t,m)):m=n+1:=by
 unfold K8 at h;cases hq:G6 T n 1 with
 |none=>rw[hq]at h;cases h
 |some x=>
  rw[hq,n_9]at h;split at h
  .cases h
  .injection h with h;subst h;exact a5j hq G
theorem b8p(hc:a0y T ps)(hE:EC T ps f)(t:Tok)(d n:Nat)(b:List Ex)(R:Option PX)(ah:R=Z4 T (A3 T ps f) t.t d n b)(hn:n<T.length)(hb:b.length<=256)(bV:d<=32)(hf:8*(T.length -n)+6<=f):b8 CC 317 [.ptr 0 0,.agg t.cells,iv d] (pst T n ps b) (a4q (λa:PX=>(iv a.1)) (λa=>a7d T a.2.1 ps a.2.2) (λa:PX=>R=some a/\n<a.2.1/\a.2.1 <T.length/\a.2.2.length<=256) (R=none)):=by
 have hT:=hc.len;have hW:=hc.w;unfold Z4 at ah;refine qO Tryz.func317 ?_;refine qD (I0 J O j3 j5 ?_);refine qD (p8 J a6M o8 (S2 hT hn hW [40] ⟨J,J,n_5 J⟩) J (λx hx=>.inr ⟨x,k8,by rw[ah,hx.1];rfl,hx.2⟩) ?_);rintro n1 ⟨sn1,kn1⟩;dsimp only at sn1 kn1⊢;rw[sn1,n_9]at ah;have en1:=R2 sn1;refine qD (p7 J b6g J j5 ?_);refine W Q7 ?_;refine qC ?_ ?_<;>intro h1
 .have u1:t.t=[114,101,97,100]:=I h1;rw[F u1]at ah;refine qD (p8 J c4J ⟨O,O⟩ (b05 hT kn1 hW hc.l ⟨J,J,n_5 J⟩) J (λx hx=>.inr ⟨x,k8,by rw[ah,hx.1];rfl,hx.2⟩) ?_);rintro⟨p,n2⟩ ⟨s2,k2⟩;dsimp only at s2 k2⊢;rw[s2,n_9]at ah;dsimp only at ah;have e2:=a7E s2;refine W c3P ?_;refine d0W ?_;refine qD (p8 J a6M o8 (S2 hT k2 hW [44] ⟨J,J,n_5 J⟩) J (λx hx=>.inr ⟨x,k8,by rw[ah,hx.1];rfl,hx.2⟩) ?_);rintro n3 ⟨sn3,kn3⟩;dsimp only at sn3 kn3⊢;rw[sn3,n_9]at ah;have en3:=R2 sn3;refine W j9 ?_;refine qD (p8 J c1Y i7 (hE (d+1) n3 b kn3 hb X X _ 0 1 ⟨J,J,n_5 J⟩) J (λx hx=>.inr ⟨x,k8,by rw[ah,hx.1];rfl,hx.2⟩) ?_);rintro⟨i4,n4,b4⟩ ⟨x4,y4,z4,w4⟩;dsimp only at x4 y4 z4 w4⊢;rw[x4,n_9]at ah;dsimp only at ah;refine W (B1 ([(i4:Int)].map icv) J ⟨O,O⟩ t_6 t_1 t_8 J J J J J J J J J) ?_;refine qD (j2 J O O J j3 b9t (.inl J) J J (nb J) ?_);refine qD (p8 J a6M o8 (S2 hT z4 hW [41] ⟨J,J,n_5 J⟩) J (λx hx=>.inr ⟨x,k8,by rw[ah,hx.1];rfl,hx.2⟩) ?_);rintro n5 ⟨fh,fX⟩;dsimp only at fh fX⊢;rw[fh,n_9]at ah;have en5:=R2 fh;refine qD (p8 J b1p D6 (a0V hT fX w4 t ⟨6,0,0,p.t,[(i4:Int)]⟩ ⟨J,J,n_5 J⟩) J (λx hx=>.inr ⟨x,k8,by rw[ah,N8,hx.1];rfl,hx.2⟩) ?_);rintro⟨i6,b6⟩ ⟨x6,y6⟩;dsimp only at x6 y6⊢;rw[N8,x6,n_9]at ah;exact c0P
 .have u1:¬t.t=[114,101,97,100]:=I h1;rw[D u1]at ah;refine W Q7 ?_;refine qC ?_ ?_<;>intro h2
  .have u2:t.t=[115,105,122,101]:=I h2;rw[F u2]at ah;refine qD (p8 J c4J ⟨O,O⟩ (b05 hT kn1 hW hc.l ⟨J,J,n_5 J⟩) J (λx hx=>.inr ⟨x,k8,by rw[ah,hx.1];rfl,hx.2⟩) ?_);rintro⟨p,n2⟩ ⟨s2,k2⟩;dsimp only at s2 k2⊢;rw[s2,n_9]at ah;dsimp only at ah;have e2:=a7E s2;refine W c3P ?_;refine d0W ?_;refine qD (p8 J a6M o8 (S2 hT k2 hW [41] ⟨J,J,n_5 J⟩) J (λx hx=>.inr ⟨x,k8,by rw[ah,hx.1];rfl,hx.2⟩) ?_);rintro n5 ⟨fh,fX⟩;dsimp only at fh fX⊢;rw[fh,n_9]at ah;have en5:=R2 fh;refine qD (p8 J b1p D6 (a0V hT fX hb t ⟨7,0,0,p.t,[]⟩ ⟨J,J,n_5 J⟩) J (λx hx=>.inr ⟨x,k8,by rw[ah,N8,hx.1];rfl,hx.2⟩) ?_);rintro⟨i6,b6⟩ ⟨x6,y6⟩;dsimp only at x6 y6⊢;rw[N8,x6,n_9]at ah;exact c0P
  .have u2:¬t.t=[115,105,122,101]:=I h2;rw[D u2]at ah;refine W Q7 ?_;refine qC ?_ ?_<;>intro h3
   .have u3:t.t=[104,97,115]:=I h3;rw[F u3]at ah;refine qD (p8 J c4J ⟨O,O⟩ (b05 hT kn1 hW hc.l ⟨J,J,n_5 J⟩) J (λx hx=>.inr ⟨x,k8,by rw[ah,hx.1];rfl,hx.2⟩) ?_);rintro⟨p,n2⟩ ⟨s2,k2⟩;dsimp only at s2 k2⊢;rw[s2,n_9]at ah;dsimp only at ah;have e2:=a7E s2;refine W c3P ?_;refine d0W ?_;refine qD (p8 J a6M o8 (S2 hT k2 hW [41] ⟨J,J,n_5 J⟩) J (λx hx=>.inr ⟨x,k8,by rw[ah,hx.1];rfl,hx.2⟩) ?_);rintro n5 ⟨fh,fX⟩;dsimp only at fh fX⊢;rw[fh,n_9]at ah;have en5:=R2 fh;refine qD (p8 J b1p D6 (a0V hT fX hb t ⟨8,0,0,p.t,[]⟩ ⟨J,J,n_5 J⟩) J (λx hx=>.inr ⟨x,k8,by rw[ah,N8,hx.1];rfl,hx.2⟩) ?_);rintro⟨i6,b6⟩ ⟨x6,y6⟩;dsimp only at x6 y6⊢;rw[N8,x6,n_9]at ah;exact c0P
   .have u3:¬t.t=[104,97,115]:=I h3;rw[D u3]at ah;refine W Q7 ?_;refine qC ?_ ?_<;>intro h4
    .have u4:t.t=[101,110,118]:=I h4;rw[F u4]at ah;refine qD (p8 J d1a o8 (a7C hT kn1 hW 3 ⟨J,J,n_5 J⟩) J (λx hx=>.inr ⟨x,k8,by rw[ah,hx.1];rfl,hx.2⟩) ?_);rintro⟨p,n2⟩ ⟨s2,k2⟩;dsimp only at s2 k2⊢;rw[s2,n_9]at ah;dsimp only at ah;have e2:=a5j s2 G;have hp:=a5x s2;refine z_1 ?_;refine W (c4 J c67 ⟨O,O⟩ (a14 p.t _) J) ?_;refine qC ?_ ?_<;>intro h5
     .have hq:C4 p.t=false:=I h5;rw[D (by rw[hq];decide)]at ah;exact a3i J J (Q6 J a5J o8 (Q3 _ _ _) J (λ_ _=>.inr ⟨(_,_),k8,ah,H⟩))
     .have hq:C4 p.t=true:=I h5;rw[F hq]at ah;refine d0W ?_;refine qD (p8 J a6M o8 (S2 hT k2 hW [41] ⟨J,J,n_5 J⟩) J (λx hx=>.inr ⟨x,k8,by rw[ah,hx.1];rfl,hx.2⟩) ?_);rintro n5 ⟨fh,fX⟩;dsimp only at fh fX⊢;rw[fh,n_9]at ah;have en5:=R2 fh;refine qD (p8 J b1p D6 (a0V hT fX hb t ⟨9,0,0,p.t,[]⟩ ⟨J,J,n_5 J⟩) J (λx hx=>.inr ⟨x,k8,by rw[ah,N8,hx.1];rfl,hx.2⟩) ?_);rintro⟨i6,b6⟩ ⟨x6,y6⟩;dsimp only at x6 y6⊢;rw[N8,x6,n_9]at ah;exact c0P
    .have u4:¬t.t=[101,110,118]:=I h4;rw[D u4]at ah;refine qD (p8 J d1a o8 (a7C hT kn1 hW 2 ⟨J,J,n_5 J⟩) J (λx hx=>.inr ⟨x,k8,by rw[ah,hx.1];rfl,hx.2⟩) ?_);rintro⟨p,n2⟩ ⟨s2,k2⟩;dsimp only at s2 k2⊢;rw[s2,n_9]at ah;dsimp only at ah;have e2:=a5j s2 G;have hp:=a5x s2;refine z_1 ?_;refine qC ?_ ?_<;>intro h6
     .have hq:64<=p.n:=I h6;rw[F hq]at ah;exact a3i J J (Q6 J a5J o8 (Q3 _ _ _) J (λ_ _=>.inr ⟨(_,_),k8,ah,H⟩))
     .have hq:¬64<=p.n:=I h6;rw[D hq]at ah;refine d0W ?_;refine qD (p8 J a6M o8 (S2 hT k2 hW [41] ⟨J,J,n_5 J⟩) J (λx hx=>.inr ⟨x,k8,by rw[ah,hx.1];rfl,hx.2⟩) ?_);rintro n5 ⟨fh,fX⟩;dsimp only at fh fX⊢;rw[fh,n_9]at ah;have en5:=R2 fh;refine qD (p8 J b1p D6 (a0V hT fX hb t ⟨10,p.n,0,[],[]⟩ ⟨J,J,n_5 J⟩) J (λx hx=>.inr ⟨x,k8,by rw[ah,N8,hx.1];rfl,hx.2⟩) ?_);rintro⟨i6,b6⟩ ⟨x6,y6⟩;dsimp only at x6 y6⊢;rw[N8,x6,n_9]at ah;exact c0P
def UC(T:List Tok)(ps:List U)(f:Nat):Prop:=∀(t:Tok) (d n:Nat) (b:List Ex),n<T.length->b.length<=256->d<=32->8*(T.length -n)+6<=f->∀(σ:List b9) (q s:Nat),PAt σ q s T n ps b->b8 CC 317 [.ptr q 0,.agg t.cells,iv d] σ (a5b (λa:PX=>(iv a.1)) (λa:PX=>(σ.set q (pbx T a.2.1 ps a.2.2 σ.length)).set s .dead++[o5 a.2.2.length]) (λa:PX=>(Z4 T (A3 T ps f) t.t d n b)=some a/\n<a.2.1/\a.2.1 <T.length/\a.2.2.length<=256) σ q s ((Z4 T (A3 T ps f) t.t d n b)=none))
theorem c2g(hc:a0y T ps)(hE:EC T ps f):UC T ps f:=λt d n b hn hb hd hf σ q s ao=>
 a36 (c:=λa:PX=>(iv a.1)) (N:=λa=>a.2.1) (B:=λa=>a.2.2) (λ_ h=>by simp at h;rcases h with rfl|rfl;exact a0O _;exact .val _) (λ_=>.val _) (b8p hc hE t d n b _ J hn hb hd hf) ao
def ka(ph:Bool):Nat:=if ph=true then 2 else 1
def oa1(ph:Bool)(m:Nat):b9:=if ph=true then .dead else o5 m
def oa2(ph:Bool)(m:Nat):b9:=if ph=true then o5 m else .dead
theorem b5S{n k:Nat}{b:List Ex}(h0:τ[0]?=some (pbx T n ps b k))(hk:τ[k]?=some (o5 b.length))(h2:2<=k)(hc:∀am,C6 2 am c c'):D2 2 τ (.ret c) (.ret c') (a7d T n ps b):=by
 obtain⟨am,a1,a2,_,a4⟩:=a0o h0 hk h2 (Old.val (.int .i64 0));exact⟨am,a1,a2,.ret (hc am),a4⟩
theorem d9C{n k:Nat}{b:List Ex}{l:List Int}(h0:τ[0]?=some (pbx T n ps b k))(hk:τ[k]?=some (o5 b.length))(h2:2<=k)(hc:∀am,C6 2 am c c'):D2 2 τ (.ret c) (.ret c') (if(!(l++[x]).isEmpty)=true then a7d T n ps b else pst T n ps b):=by
 rw[F H];exact b5S h0 hk h2 hc
def AC(T:List Tok)(ps:List U)(f:Nat):Prop:=∀(d n:Nat) (b:List Ex),n<T.length->b.length<=256->d<=32->8*(T.length -n)+6<=f->∀(σ:List b9) (q s:Nat),PAt σ q s T n ps b->b8 CC 318 [.ptr q 0,iv d] σ (a5b (λa:List Int×Nat×List Ex=>(.list (a.1.map icv) (gnn a.1.length) none))
 (λa=>if(!a.1.isEmpty)=true then(σ.set q (pbx T a.2.1 ps a.2.2 σ.length)).set s .dead++[o5 a.2.2.length]else(σ.set q (pbx T a.2.1 ps a.2.2 s)).set s (o5 a.2.2.length)) (λa:List Int×Nat×List Ex=>a2Y T (A3 T ps f) d n b=some a/\n<a.2.1/\a.2.1 <T.length/\a.2.2.length<=256/\a.1.length<=1000000) σ q s (a2Y T (A3 T ps f) d n b=none))
theorem b3P(hc:a0y T ps)(hE:∀g,g<=f->EC T ps g)(d n:Nat)(b:List Ex)(hn:n<T.length)(hb:b.length<=256)(bV:d<=32)(hf:8*(T.length -n)+6<=f):b8 CC 318 [.ptr 0 0,iv d] (pst T n ps b) (a4q (λa:List Int×Nat×List Ex=>(.list (a.1.map icv) (gnn a.1.length) none)) (λa=>if(!a.1.isEmpty)=true then a7d T a.2.1 ps a.2.2 else pst T a.2.1 ps a.2.2) (λa:List Int×Nat×List Ex=>a2Y T (A3 T ps f) d n b=some a/\n<a.2.1/\a.2.1 <T.length/\a.2.2.length<=256/\a.1.length<=1000000) (a2Y T (A3 T ps f) d n b=none)):=by
 have hT:=hc.len;have hW:=hc.w;have ah:a2Y T (A3 T ps f) d n b=a2Y T (A3 T ps f) d n b:=J
 conv at ah=>rhs;unfold a2Y
 refine qO Tryz.func318 ?_;refine qD (p8 J a6M o8 (S2 hT hn hW [40] ⟨J,J,n_5 J⟩) J (λx hx=>.inr ⟨x,k8,by rw[ah,hx.1];rfl,hx.2⟩) ?_);rintro n1 ⟨bz,bf⟩;dsimp only at bz bf⊢;rw[bz,n_9]at ah;have e1:=R2 bz;refine qD (c5 J c7F o8 (a15 hT bf hW [41] ⟨J,J,n_5 J⟩) J ?_);rintro⟨ac,n2⟩ ⟨ha,cg,eF⟩;dsimp only at ha cg eF⊢;refine qC ?_ ?_<;>intro h1
 .have bW:isT (tk T n1) 4 [41]=true:=by rw[<- ha];simpa using h1
  rw[F bW]at cg ah;refine c6 ?_;exact⟨_,rE1,(by exact .inl ⟨([],n2,b),a1k J (V0 _ [] false),by rw[ah,cg],Q,eF,hb,by show 0<=1000000;decide⟩)⟩
 .have bW:¬isT (tk T n1) 4 [41]=true:=by rw[<- ha];simpa using h1
  rw[D bW]at cg ah;subst cg;refine A2 hCC 2 J (α:=List Int×Nat×List Ex×Bool×Nat) (λx=>[(0,.ptr 0 0),(1,iv d),(5,(.list (x.1.map icv) (gnn x.1.length) (C3 x.1.length 3)))]) (λx=>[pbx T x.2.1 ps x.2.2.1 (ka x.2.2.2.1),oa1 x.2.2.2.1 x.2.2.1.length,oa2 x.2.2.2.1 x.2.2.1.length,o5 x.1.length]) (λx=>a2Y T (A3 T ps f) d n b=(A3 T ps x.2.2.2.2).ag d x.2.1 x.2.2.1 x.1/\x.1.length<=x.2.1/\n<x.2.1/\x.2.1 <T.length/\x.2.2.1.length<=256/\x.2.2.2.2<=f/\8*(T.length -x.2.1)+7<=x.2.2.2.2) (λx=>T.length -x.2.1) ⟨([],n2,b,false,f),[0,1,7,8],⟨ah,n_4 _,Q,eF,hb,n_7 _,Q⟩,⟨J,J⟩,ut_,uq_⟩ ?_;intro⟨l,m,b2,ph,g⟩ ⟨dj,fW,bN,hm,cy,hgf,hg⟩;dsimp only at dj fW bN hm cy hgf hg⊢;obtain⟨g,rfl⟩:∃g',g=g'+1:=⟨g-1,X⟩;have iC:(A3 T ps (g+1)).ag d m b2 l=(G9 T ps (A3 T ps g)).ag d m b2 l:=J;simp only[G9]at iC;rw[iC]at dj;refine b0O ?_;refine qD (p8 J c1Y i7 (hE g X (d+1) m b2 hm cy X X _ 0 (ka ph) b9G) J (λx hx=>.inr ⟨x,k8,by rw[dj,hx.1];rfl,hx.2⟩) ?_);rintro⟨i3,n3,b3⟩ ⟨x3,y3,z3,w3⟩;dsimp only at x3 y3 z3 w3⊢;rw[x3,n_9]at dj;dsimp only at dj;refine qN [pbx T n3 ps b3 4,.dead,.dead,o5 l.length,o5 b3.length] Q5 ?_;have eO:=X6 l (i3:Int);refine W (B1 [icv (i3:Int)] J ⟨O,O⟩ t_6 t_1 t_8 J J J J J J J J J) ?_;refine qD (A4 J O O J H q_5 t_6 t_1 c1J t_8 J (.inr J) K2 b9f B7 ((l++[(i3:Int)]).map icv) (l++[(i3:Int)]).length H H ?_);refine qD (c5 J c7F o8 (a15 hT z3 hW [44] ⟨J,J,n_5 J⟩) J ?_);rintro⟨ac2,m2⟩ ⟨ha2,ce,gi⟩;dsimp only at ha2 ce gi⊢;refine qC ?_ ?_<;>intro h2
  .have cr:¬isT (tk T n3) 4 [44]=true:=by rw[<- ha2];simpa using h2
   rw[D cr]at ce dj;subst ce;refine j6 ?_;refine qD (p8 J a6M o8 (S2 hT gi hW [41] ⟨J,J,n_5 J⟩) J (λx hx=>.inr ⟨x,k8,by rw[dj,hx.1];rfl,hx.2⟩) ?_);rintro m3 ⟨fT,gh⟩;dsimp only at fT gh⊢;have e3:=R2 fT;rw[fT,n_9]at dj;refine c6 ?_;exact⟨_,rE1,(by exact .inl ⟨(l++[(i3:Int)],m3,b3),d9C (k:=4) J J G (λ_=>H5 (f:=icv) (λ_=>⟨.val _,O⟩) _),dj,Q,gh,w3,Q⟩)⟩
  .have cr:isT (tk T n3) 4 [44]=true:=by rw[<- ha2];simpa using h2
   rw[F cr]at ce dj;subst ce;exact⟨(l++[(i3:Int)],n3+1,b3,true,g),[0,1,4,5],⟨Q,dj,Q,Q,gi,w3,Q,Q⟩,⟨J,J⟩,ut_,⟨.inr ⟨_,J,.box ⟨.old a1u,.old (.val _),.old Z8,a73 J,O⟩⟩,.inl J,.inr ⟨_,J,.same J D8⟩,.inr ⟨_,J,.same J D8⟩,O⟩⟩
theorem b6E(hc:a0y T ps)(hE:∀g,g<=f->EC T ps g):AC T ps f:=λd n b hn hb hd hf σ q s ao=>
 a5d (c:=λa:List Int×Nat×List Ex=>(.list (a.1.map icv) (gnn a.1.length) none)) (N:=λa=>a.2.1) (B:=λa=>a.2.2) (Z:=λ_=>ps) (g:=λa=>!a.1.isEmpty) (λ_ h=>by simp at h;subst h;exact .val _) (λ_=>P5 _ _) (b3P hc hE d n b hn hb hd hf) ao
theorem a1O{C:Ctx}{ae:Array Oper}{qs:List Nat}{Jk:D3->Env->List b9->Prop}{S:List (List b9->Prop)}{l:List (Nat×List Nat)}{fl:List Nat}{E:Env}(τ:List b9)(h:σ=τ)(k:a2F S τ fl/\X9 C ae qs Jk S l E τ):a2F S σ fl/\X9 C ae qs Jk S l E σ:=h▸k
def kc(ph:Bool):Nat:=if ph=true then 3 else 1
def oc1(ph:Bool)(m:Nat):b9:=if ph=true then .dead else o5 m
def oc2(ph:Bool)(m:Nat):List b9:=if ph=true then [o5 m]else []
theorem c14(hc:a0y T ps)(hE:EC T ps f)(hA:AC T ps f)(hU:UC T ps f)(d n:Nat)(b:List Ex)(hn:n<T.length)(hb:b.length<=256)(bV:d<=32)(hf:8*(T.length -n)+1<=f+1):b8 CC 301 [.ptr 0 0,iv d] (pst T n ps b) (a4q (λa:PX=>(iv a.1)) (λa=>a7d T a.2.1 ps a.2.2) (λa:PX=>(A3 T ps (f+1)).fac d n b=some a/\n<a.2.1/\a.2.1 <T.length/\a.2.2.length<=256) ((A3 T ps (f+1)).fac d n b=none)):=by
 have hT:=hc.len;have hW:=hc.w;have ah:(A3 T ps (f+1)).fac d n b=(G9 T ps (A3 T ps f)).fac d n b:=J;simp only[G9]at ah;refine cO Tryz.func301 ?_;refine z_0 ?_;refine b2H ?_;refine z_4 ?_;refine ye J c6f ⟨O,O⟩ (a3W hT hn ⟨J,J,n_5 J⟩) J ?_;refine cD (p7 J a3m J j5 ?_);refine cD (j2 J O O J j3 a4x j5 J J (nb J) ?_);refine a85 ?_;refine a1A ?_;refine z_0 ?_;refine cY c8G ?_;refine cY a0R ?_;refine d3L ?_;refine cC ?_ ?_<;>intro h1
 .have u1:(tk T n).k=2:=I h1;rw[F u1]at ah;have bf:=hW n hn (by rw[u1];decide);refine a61 ?_;refine cY c5l ?_;refine cY a0R ?_;refine cY j9 ?_;refine cY a6W ?_;refine d6U ?_;refine w9 ?_;refine z_4 ?_;refine cY c0m ?_;refine cY c8G ?_;refine cY a0R ?_;refine cY b1m ?_;refine cD (p8 J b1p D6 (a0V hT bf hb (tk T n) ⟨1,(tk T n).n,0,[],[]⟩ ⟨J,J,n_5 J⟩) J (λx hx=>.inr ⟨x,k8,by rw[ah,N8,hx.1];rfl,hx.2⟩) ?_);rintro⟨i6,b6⟩ ⟨x6,y6⟩;dsimp only at x6 y6⊢;rw[N8,x6,n_9]at ah;exact d7M
 .have u1:¬(tk T n).k=2:=I h1;rw[D u1]at ah;refine z_4 ?_;refine de J c7F o8 (a15 hT hn hW [45] ⟨J,J,n_5 J⟩) J ?_;rintro⟨ac,n2⟩ ⟨ha,cg,eF⟩;dsimp only at ha cg eF⊢;refine z_5 ?_;refine cC ?_ ?_<;>intro h2
  .have u2:isT (tk T n) 4 [45]=true:=by rw[<- ha];simpa using h2
   rw[F u2]at cg ah;subst cg;refine G4 ?_;refine cF [] [0,1,2] (tl:=[(3,[0,1]),(4,[0,1]),(5,[0,1]),(6,[0,1]),(7,[]),(8,[])]) ?_;refine chf J W7 ?_;refine chf J (c8 J c0m) ?_;refine b5P ?_;refine B0 J J J (p8 J d1a o8 (a7C hT eF hW 2 ⟨J,J,n_5 J⟩) J (λx hx _=>.inr ⟨x,k8,by rw[ah,hx.1];rfl,hx.2⟩) ?_);rintro⟨p,n3⟩ ⟨s2,k2⟩;dsimp only at s2 k2⊢;rw[s2,n_9]at ah;dsimp only at ah;have e2:=a5j s2 G;have gD:=hc.nn (n+1);rw[<- a5x s2]at gD;have ew: -p.n=IntKind.i64.wrap (0-p.n):=by rw[b0W X X];omega
   rw[ew]at ah;refine⟨⟨F4,b5e,O⟩,?_⟩;refine E9 J J (c8 J a4M) ⟨⟨F4,b5e,O⟩,?_⟩;refine E9 J J (c8 J (c8Z J O J)) ⟨⟨F4,b5e,O⟩,?_⟩;refine E9 J J (c8 J b1m) ⟨⟨F4,b5e,O⟩,?_⟩;refine B0 J J J (p8 J b1p D6 (a0V hT k2 hb (tk T n) ⟨1,IntKind.i64.wrap (0-p.n),0,[],[]⟩ ⟨J,J,n_5 J⟩) J (λx hx _=>.inr ⟨x,k8,by rw[ah,N8,hx.1];rfl,hx.2⟩) ?_);rintro⟨i6,b6⟩ ⟨x6,y6⟩;dsimp only at x6 y6⊢;rw[N8,x6,n_9]at ah;refine⟨O,?_⟩;refine b0m ?_;exact⟨_,rE1,(by exact .inl ⟨(i6,n3,b6),a0o J J (nb J) (.val _),ah,Q,k2,y6⟩)⟩
  .have u2:¬isT (tk T n) 4 [45]=true:=by rw[<- ha];simpa using h2
   rw[D u2]at cg ah;replace cg:=cg.symm;subst cg;refine z_4 ?_;refine de J c7F o8 (a15 hT hn hW [40] ⟨J,J,n_5 J⟩) J ?_;rintro⟨ac3,n3⟩ ⟨ha3,gj,hn3l⟩;dsimp only at ha3 gj hn3l⊢;refine z_5 ?_;refine cC ?_ ?_<;>intro h3
   .have u3:isT (tk T n) 4 [40]=true:=by rw[<- ha3];simpa using h3
    rw[F u3]at gj ah;subst gj;refine a78 ?_;refine cY j9 ?_;refine cD (p8 J c1Y i7 (hE (d+1) (n+1) b hn3l hb X X _ 0 1 ⟨J,J,n_5 J⟩) J (λx hx=>.inr ⟨x,k8,by rw[ah,hx.1];rfl,hx.2⟩) ?_);rintro⟨i4,n4,b4⟩ ⟨x4,y4,z4,w4⟩;dsimp only at x4 y4 z4 w4⊢;rw[x4,n_9]at ah;dsimp only at ah;refine P1 [pbx T n4 ps b4 3,.dead,.box (tk T n).cells,o5 b4.length] J ?_;refine z_5 ?_;refine z_4 ?_;refine cD (p8 J a6M o8 (S2 hT z4 hW [41] ⟨J,J,n_5 J⟩) J (λx hx=>.inr ⟨x,k8,by rw[ah,hx.1];rfl,hx.2⟩) ?_);rintro n5 ⟨s5,k5⟩;dsimp only at s5 k5⊢;rw[s5,n_9]at ah;have e5:=R2 s5;refine w9 ?_;refine z_4 ?_;refine a58 ?_;exact⟨_,rE1,(by exact .inl ⟨(i4,n5,b4),a0o J J (nb J) (.val _),ah,Q,k5,w4⟩)⟩
   .have u3:¬isT (tk T n) 4 [40]=true:=by rw[<- ha3];simpa using h3
    rw[D u3]at gj ah;replace gj:=gj.symm;subst gj;refine z_0 ?_;refine cY c8G ?_;refine cY a0R ?_;refine d3L ?_;refine cC ?_ ?_<;>intro h4
    .have u4:(tk T n).k≠1:=I h4;rw[F u4]at ah;refine G8 ?_;exact d9q
    .have u4:(tk T n).k=1:=I h4;rw[D (λh=>h u4)]at ah;have bf:=hW n hn (by rw[u4];decide);refine C2 ?_;refine a61 ?_;refine cY c5l ?_;refine cY a0R ?_;refine cY j9 ?_;refine cY a6W ?_;refine d6U ?_;refine a7D ?_;refine cY b9l ?_;refine cY W9 ?_;refine c7Y ?_;refine G4 ?_;refine z_0 ?_;refine cY Q7 ?_;refine z_5 ?_;refine cC ?_ ?_<;>intro h5
     .have u5:(tk T n).t=[114,101,97,100]:=I h5;have uu:(tk T n).t=[114,101,97,100]\/(tk T n).t=[115,105,122,101]\/(tk T n).t=[104,97,115]\/(tk T n).t=[101,110,118]\/(tk T n).t=[102,108,105,112]:=.inl u5;rw[F uu]at ah;refine C2 ?_;refine cC ?_ ?_<;>intro h6
      .refine b48 ?_;refine cD (p8 J c1d D6 (hU (tk T n) d (n+1) b bf hb bV X _ 0 1 ⟨J,J,n_5 J⟩) J (λx hx=>.inr ⟨x,k8,by rw[ah];exact hx.1,hx.2⟩) ?_);rintro⟨i,m,b2⟩ ⟨g1,g2,g3,g4⟩;dsimp only at g1 g2 g3 g4⊢;exact b9M
      .exact absurd u5 (I h6)
     .have u5:¬(tk T n).t=[114,101,97,100]:=I h5;refine z_0 ?_;refine cY Q7 ?_;refine z_5 ?_;refine cC ?_ ?_<;>intro h7
      .have u7:(tk T n).t=[115,105,122,101]:=I h7;have uu:(tk T n).t=[114,101,97,100]\/(tk T n).t=[115,105,122,101]\/(tk T n).t=[104,97,115]\/(tk T n).t=[101,110,118]\/(tk T n).t=[102,108,105,112]:=.inr (.inl u7);rw[F uu]at ah;refine C2 ?_;refine cC ?_ ?_<;>intro h8
       .refine b48 ?_;refine cD (p8 J c1d D6 (hU (tk T n) d (n+1) b bf hb bV X _ 0 1 ⟨J,J,n_5 J⟩) J (λx hx=>.inr ⟨x,k8,by rw[ah];exact hx.1,hx.2⟩) ?_);rintro⟨i,m,b2⟩ ⟨g1,g2,g3,g4⟩;dsimp only at g1 g2 g3 g4⊢;exact b9M
       .exact absurd u7 (I h8)
      .have u7:¬(tk T n).t=[115,105,122,101]:=I h7;refine z_0 ?_;refine cY Q7 ?_;refine z_5 ?_;refine cC ?_ ?_<;>intro h9
       .have u9:(tk T n).t=[104,97,115]:=I h9;have uu:(tk T n).t=[114,101,97,100]\/(tk T n).t=[115,105,122,101]\/(tk T n).t=[104,97,115]\/(tk T n).t=[101,110,118]\/(tk T n).t=[102,108,105,112]:=.inr (.inr (.inl u9));rw[F uu]at ah;refine C2 ?_;refine cC ?_ ?_<;>intro bb
        .refine b48 ?_;refine cD (p8 J c1d D6 (hU (tk T n) d (n+1) b bf hb bV X _ 0 1 ⟨J,J,n_5 J⟩) J (λx hx=>.inr ⟨x,k8,by rw[ah];exact hx.1,hx.2⟩) ?_);rintro⟨i,m,b2⟩ ⟨g1,g2,g3,g4⟩;dsimp only at g1 g2 g3 g4⊢;exact b9M
        .exact absurd u9 (I bb)
       .have u9:¬(tk T n).t=[104,97,115]:=I h9;refine z_0 ?_;refine cY Q7 ?_;refine z_5 ?_;refine cC ?_ ?_<;>intro cB
        .have u11:(tk T n).t=[101,110,118]:=I cB;have uu:(tk T n).t=[114,101,97,100]\/(tk T n).t=[115,105,122,101]\/(tk T n).t=[104,97,115]\/(tk T n).t=[101,110,118]\/(tk T n).t=[102,108,105,112]:=.inr (.inr (.inr (.inl u11)));rw[F uu]at ah;refine C2 ?_;refine cC ?_ ?_<;>intro cX
         .refine b48 ?_;refine cD (p8 J c1d D6 (hU (tk T n) d (n+1) b bf hb bV X _ 0 1 ⟨J,J,n_5 J⟩) J (λx hx=>.inr ⟨x,k8,by rw[ah];exact hx.1,hx.2⟩) ?_);rintro⟨i,m,b2⟩ ⟨g1,g2,g3,g4⟩;dsimp only at g1 g2 g3 g4⊢;exact b9M
         .exact absurd u11 (I cX)
        .have u11:¬(tk T n).t=[101,110,118]:=I cB;refine G8 ?_;refine cY Q7 ?_;refine z_5 ?_;refine cC ?_ ?_<;>intro dw
         .have u13:(tk T n).t=[102,108,105,112]:=I dw;have uu:(tk T n).t=[114,101,97,100]\/(tk T n).t=[115,105,122,101]\/(tk T n).t=[104,97,115]\/(tk T n).t=[101,110,118]\/(tk T n).t=[102,108,105,112]:=.inr (.inr (.inr (.inr (u13))));rw[F uu]at ah;refine b48 ?_;refine cD (p8 J c1d D6 (hU (tk T n) d (n+1) b bf hb bV X _ 0 1 ⟨J,J,n_5 J⟩) J (λx hx=>.inr ⟨x,k8,by rw[ah];exact hx.1,hx.2⟩) ?_);rintro⟨i,m,b2⟩ ⟨g1,g2,g3,g4⟩;dsimp only at g1 g2 g3 g4⊢;exact b9M
         .have h13':¬(tk T n).t=[102,108,105,112]:=I dw;have un:¬((tk T n).t=[114,101,97,100]\/(tk T n).t=[115,105,122,101]\/(tk T n).t=[104,97,115]\/(tk T n).t=[101,110,118]\/(tk T n).t=[102,108,105,112]):=λhh=>by rcases hh with h|h|h|h|h;exact u5 h;exact u7 h;exact u9 h;exact u11 h;exact h13' h
          rw[D un]at ah;refine c7u ?_;refine z_0 ?_;refine cY b9l ?_;refine cY W9 ?_;refine yc J d3l ⟨O,O⟩ (a3g (tk T n).t _) ?_;refine w9 ?_;refine cC ?_ ?_<;>intro gN
          .have u14:S7 (tk T n).t=true:=I gN;rw[F u14]at ah;refine G8 ?_;exact d9q
          .have u14:¬S7 (tk T n).t=true:=I gN;rw[D u14]at ah;refine c7u ?_;refine z_4 ?_;refine ye J c59 a2N (b42 hT bf 4 [40] ⟨J,J,n_5 J⟩) J ?_;refine w9 ?_;refine cC ?_ ?_<;>intro h15
           .have u15:isT (tk T (n+1)) 4 [40]=true:=I h15;rw[F u15]at ah;refine G4 ?_;refine cF [] [0,1,2,3,4,5] (tl:=[(6,[0,1,2,3]),(7,[0,1]),(8,[]),(9,[])]) ?_;refine chf J W7 ?_;refine chf J (c8 J c0m) ?_;refine chf J (c8 J b9l) ?_;refine chf J d1r ?_;refine a7l ?_;refine C8 ?_;refine B0 J J J (p8 J Tryz.call318 i7 (hA d (n+1) b bf hb bV X _ 0 1 ⟨J,J,n_5 J⟩) J (λx hx _=>.inr ⟨x,k8,by rw[ah,hx.1];rfl,hx.2⟩) ?_);rintro⟨l,m,b2⟩ ⟨g1,g2,g3,g4,_⟩;dsimp only at g1 g2 g3 g4⊢;rw[g1,n_9]at ah;dsimp only at ah;generalize (!l.isEmpty)=ph;refine a1O ([pbx T m ps b2 (kc ph),oc1 ph b2.length,.box (tk T n).cells]++oc2 ph b2.length) Q5 ?_;refine⟨⟨F4,b5e,(by exact c8 J b9l),a5T,O⟩,?_⟩;refine E9 J J (c8 J c7T) ⟨⟨F4,b5e,O⟩,?_⟩;refine B0 J J J (p8 J b1p D6 (a0V hT g3 g4 (tk T n) ⟨3,0,0,(tk T n).t,l⟩ (q:=0) (s:=kc ph) b9G) J (λx hx _=>.inr ⟨x,k8,by rw[ah,N8,hx.1];rfl,hx.2⟩) ?_);rintro⟨i6,b6⟩ ⟨x6,y6⟩;dsimp only at x6 y6⊢;rw[N8,x6,n_9]at ah;refine⟨O,?_⟩;refine b0m ?_;exact⟨_,rE1,(by exact .inl ⟨(i6,m,b6),(by cases ph;exact a0o (k:=3) J J G (.val _);exact a0o (k:=4) J J G (.val _)),ah,Q,g3,y6⟩)⟩
           .have u15:¬isT (tk T (n+1)) 4 [40]=true:=I h15;rw[D u15]at ah;refine c7u ?_;refine cW 8 ?_;refine a5e ?_;refine hY (j7 J O J c7V J a2H G) ?_;refine hY a5L ?_;refine hY b9l ?_;refine hY W9 ?_;refine hY (c4 J Tryz.call205 i7 (b0c ps (gnn ps.length) (tk T n).t (by have:=hc.ps;omega) _) J) ?_;refine b5d ?_;refine a85 ?_;refine z_4 ?_;refine b0Z ?_;refine cC ?_ ?_<;>intro h16
            .have u16:ixS ps (tk T n).t 0<0:=I h16;rw[F u16]at ah;refine G8 ?_;exact d9q
            .have u16:¬ixS ps (tk T n).t 0<0:=I h16;rw[D u16]at ah;refine C2 ?_;refine b48 ?_;refine cY b1m ?_;refine cD (p8 J b1p D6 (a0V hT bf hb (tk T n) ⟨2,ixS ps (tk T n).t 0,0,[],[]⟩ ⟨J,J,n_5 J⟩) J (λx hx=>.inr ⟨x,k8,by rw[ah,N8,hx.1];rfl,hx.2⟩) ?_);rintro⟨i6,b6⟩ ⟨x6,y6⟩;dsimp only at x6 y6⊢;rw[N8,x6,n_9]at ah;exact d7M
theorem c58(hc:a0y T ps)(hE:EC T ps f)(hA:AC T ps f)(hU:UC T ps f):FC T ps (f+1):=λd n b hn hb hd hf σ q s ao=>
 a36 (c:=λa:PX=>(iv a.1)) (N:=λa=>a.2.1) (B:=λa=>a.2.2) (λ_ h=>by simp at h;subst h;exact .val _) (λ_=>.val _) (c14 hc hE hA hU d n b hn hb hd hf) ao
theorem d1F{T:List Tok}{ps:List U}(hc:a0y T ps):∀f,(∀g,g<=f->EC T ps g)/\(∀g,g<=f->BC T ps g)/\(∀g,g<=f->FC T ps g)
 |0=>by
  refine⟨λg hg d n b hn _ _ hf=>?_,λg hg lv d n b hn _ _ h4 _ hf=>?_,λg hg d n b hn _ _ hf=>?_⟩<;>exfalso<;>omega
 |f+1=>by
  obtain⟨hE,hB,hF⟩:=d1F hc f;have e1:=d5k hc (hE f (n_7 _)) (hB f (n_7 _));have b1:=c7o hc hB (hF f (n_7 _));have f1:=c58 hc (hE f (n_7 _)) (b6E hc hE) (c2g hc (hE f (n_7 _)));have up:∀{P:Nat->Prop},(∀g,g<=f->P g)->P (f+1)->∀g,g<=f+1->P g:=λ{P} h h1 g hg=>by
   rcases a2J f g with ab|aF
   .rw [show g=f+1 by omega];exact h1
   .exact h g aF
  exact⟨up hE e1,up hB b1,up hF f1⟩
def ixP{α:Type}(p:α->Bool):List α->Nat->Int
 | [],_=>-1
 |y::l,i=>if p y=true then i else ixP p l (i+1)
theorem d3f(h:l[i]?=some y)(p:α->Bool):ixP p (l.drop i) i=if p y=true then(i:Int)else ixP p (l.drop (i+1)) (i+1):=by
 obtain⟨ab,he⟩:=n_3.1 h;rw[R0 ab,he];rfl
theorem c42{α:Type}(p:α->Bool):∀(l:List α) (i:Nat),decide (0<=ixP p l i)=l.any p
 | [],_=>rfl
 |y::l,i=>by
  rw[ixP,List.any_cons];cases hp:p y with
  |true=>simp
  |false=>simpa using c42 p l (i+1)
theorem b69{g:FuncId}{aD:List CV}{p:De->Bool}(l:List De)(nn:Bool)(hl:l.length<=1000000)(hg:∀args w,(callFunc g args).run CC.P w= .ok (.enter g args) w)(Jj:∀x∈l,b8 CC g ([.agg x.cells]++aD) σ λr aa=>r= .ret (.val (.bool (p x)))/\aa=σ):b8 CC 276 [(.list (l.map De.cv) nn none),.clo g aD] σ λr aa=>r= .ret (iv (ixP p l 0))/\aa=σ:=by
 refine qO Tryz.func276 ?_;refine W a4S ?_;refine H3 (α:=Nat) (λi=>[(0,(.list (l.map De.cv) nn none)),(1,(.clo g aD)),(7,iv l.length),(8,iv i)]) (λ_=>σ) (λi=>i<=l.length/\ixP p l 0=ixP p (l.drop i) i) (λi=>l.length -i) 0 ⟨n_4 _,J⟩ tu_ J ?_;intro i E0 ⟨hi,hr⟩;refine qk (qC ?_ ?_)<;> intro h1
 .have ab:(i:Int)<l.length:=I h1;obtain⟨y,hb⟩:=gx_ l i;rw[d3f hb]at hr;refine W d2j ?_;refine W (b4N J O J hg ⟨O,O⟩ (Jj y (n_2 hb)) J) ?_;refine qC ?_ ?_<;>intro h2
  .have hx:p y=true:=I h2;rw[F hx]at hr;refine c6 ?_;exact⟨_,rE1,(by exact⟨by rw[hr],J⟩)⟩
  .have hx:¬p y=true:=I h2;rw[D hx]at hr;refine W j9 ?_;exact⟨(i+1),X,⟨X,hr⟩,tu_,J⟩
 .have aF:i=l.length:=by
   have:¬(i:Int)<l.length:=I h1;omega
  refine z_9 ?_;exact⟨_,rE1,(by exact⟨by rw[hr,aF,a9T];rfl,J⟩)⟩
theorem b0R{g:FuncId}{aD:List CV}{p:De->Bool}(l:List De)(nn:Bool)(hl:l.length<=1000000)(hg:∀args w,(callFunc g args).run CC.P w= .ok (.enter g args) w)(Jj:∀x∈l,b8 CC g ([.agg x.cells]++aD) σ λr aa=>r= .ret (.val (.bool (p x)))/\aa=σ):b8 CC 238 [(.list (l.map De.cv) nn none),.clo g aD] σ λr aa=>r= .ret (.val (.bool (l.any p)))/\aa=σ:=by
 refine qO Tryz.func238 ?_;refine W (c4 J Tryz.call276 i7 (b69 l nn hl hg Jj) J) ?_;refine c6 ?_;exact⟨_,rE1,(by exact⟨by rw[<- c42 p l 0],J⟩)⟩
theorem a1W{σ:List α}{x:α}(h:σ[q]?=some x)(l:List α):(σ++l)[q]?=some x:=by
 rw[R8 (n_3.1 h).1];exact h
theorem c3u(σ:List α)(x:α):(σ++[x])[σ.length]?=some x:=by simp
theorem d1x(x:De)(t:Tok)(kd:Int)(hq:σ[q]?=some (.box [iv kd]))(hs:σ[s]?=some (.box t.cells)):b8 CC 239 ([.agg x.cells]++[.ptr q 0,.ptr s 0]) σ λr aa=>r= .ret (.val (.bool ((x.k == kd)&&decide (x.name=t.t))))/\aa=σ:=by
 refine c7 (cO Tryz.func239 ?_);refine b58 ?_;refine b2H ?_;refine z_0 ?_;refine cY b2R ?_;refine cY e07 ?_;refine cY e07 ?_;refine cY a5E ?_;refine cY A8 ?_;refine cG b9p ?_;refine cG e2c ?_;refine cG b71 ?_;refine cG e2c ?_;refine cG b1X ?_;refine cY N9 ?_;refine a58 ?_;exact⟨_,rE1,_,_,J,J,j4 J⟩
def dkL:List (U×Int):=V8 (V8 (V8 [] [102,117,110,99] 1) [116,101,115,116] 2) [103,101,110] 3
def G7(s:U):Int:=(glk dkL s).getD 0
def d2G(T:List Tok)(ps:List U)(d n:Nat):Option PX:=(A3 T ps (8*T.length+6)).ex d n []
def a3y(T:List Tok)(kd:Int)(n:Nat):Option (Tok×Nat):=if kd=3 then a00 T n else K8 T n
def a3B(T:List Tok)(kd:Int)(n:Nat):Option (List U×Nat):=if kd=1 then N7 T n else some ([],n)
def a01(T:List Tok)(bs:List De)(n:Nat):Option (De×Nat):=
 if(tk T n).k≠1\/G7 (tk T n).t=0 then none else if bs.length=64 then none else
 (a3y T (G7 (tk T n).t) (n+1)).bind λx=>if(bs.any λd=>(d.k == G7 (tk T n).t)&&decide (d.name=x.1.t))=true then none else
 (a3B T (G7 (tk T n).t) x.2).bind λq=>(pIs T q.2 4 [61]).bind λm=>(d2G T q.1 1 m).bind λy=>(pIs T y.2.1 4 [59]).bind λm2=>some (⟨G7 (tk T n).t,x.1.t,q.1,y.2.2⟩,m2)
theorem b4p{f:FuncId}{c:α->CV}{Z:α->List U}{n:Nat}{b:List Ex}(ap:∀a∈args,r5 a)(hc:∀a,r5 (c a))
 (h:b8 CC f (.ptr 0 0::args) (pst T n ps b) (a4q c (λa=>a7d T (N a) (Z a) (B a)) P bad)){σ:List b9}{q s:Nat}(ao:PAt σ q s T n ps b):
 b8 CC f (.ptr q 0::args) σ (a5b c (λa=>(σ.set q (pbx T (N a) (Z a) (B a) σ.length)).set s .dead++[o5 (B a).length]) P σ q s bad):=by
 refine(a5d (c:=c) (N:=N) (B:=B) (Z:=Z) (g:=λ_=>true) (P:=P) (bad:=bad) ap hc (h.mono λr τ hh=>?_) ao).mono λr τ hh=>?_
 .rcases hh with⟨a,h1,h2⟩|h
  .exact .inl ⟨a,h1,h2⟩
  .exact .inr h
 .rcases hh with⟨a,h1,h2,h3⟩|h
  .exact .inl ⟨a,h1,h2,h3⟩
  .exact .inr h
theorem b8D{kd:Int}{n:Nat}(h:a3y T kd n=some (t,m)):m=n+1:=by
 unfold a3y at h;split at h
 .exact a7E h
 .exact b2v h
theorem b9H{T:List Tok}:∀(f n:Nat) (l l':List U) (m:Nat),a2X f T n l=some (l',m)->n<m
 |0,n,l,l',m,h=>by cases h
 |f+1,n,l,l',m,h=>by
  rw[a2X]at h;cases hn:K8 T n with
  |none=>rw[hn]at h;cases h
  |some x=>
   rw[hn,n_9]at h;have e:=b2v (t:=x.1) hn;split at h
   .cases h
   .split at h
    .cases h
    .split at h
     .have:=b9H f _ _ _ _ h;omega
     .cases hi:pIs T x.2 4 [41]with
      |none=>rw[hi]at h;cases h
      |some y=>
       rw[hi,n_9]at h;injection h with h
       injection h with _ h
       have:=R2 hi;omega
theorem c2T{n:Nat}{l:List U}(h:N7 T n=some (l,m)):n<m:=by
 unfold N7 at h;cases hi:pIs T n 4 [40]with
 |none=>rw[hi]at h;cases h
 |some y=>
  rw[hi,n_9]at h;have:=R2 hi;split at h
  .injection h with h
   injection h with _ h
   omega
  .have:=b9H _ _ _ _ _ h;omega
theorem b9i{kd:Int}{n:Nat}{l:List U}(h:a3B T kd n=some (l,m)):n<=m:=by
 unfold a3B at h;split at h
 .exact Nat.le_of_lt (c2T h)
 .injection h with h
  injection h with _ h
  omega
theorem c2X(k:Int)(nm:U)(ps:List U)(b:List Ex)(tok:Option Nat):C6 L am (.agg [iv k,sv nm,.list (ps.map scv) (gnn ps.length) none,.list (b.map Ex.cv) (gnn b.length) tok]) (.agg (⟨k,nm,ps,b⟩:De).cells):=
 .agg J λi c c' h h'=>by
  rcases i with _|_|_|_|i
  .injection h with h;injection h' with h';subst h h';exact .old (.val _)
  .injection h with h;injection h' with h';subst h h';exact .old (.val _)
  .injection h with h;injection h' with h';subst h h';exact .old Z8
  .injection h with h;injection h' with h';subst h h';exact H5 (f:=Ex.cv) Ex.pure _
  .cases h
theorem a4n(n:Nat):b6w n (⟨0,[],[],[]⟩:De).cells:=⟨.val _,.val _,A6 _ _ _,P9 _ _ _,O⟩
theorem d2S(hc:a0y T ps)(bs:List De)(hbs:bs.length<=64)(n:Nat)(b:List Ex)(hn:n<T.length)(_:b.length<=256):b8 CC 197 [.ptr 0 0,(.list (bs.map De.cv) (gnn bs.length) none)] (pst T n ps b) (a4q (λa:De×Nat=>(.agg a.1.cells)) (λa=>a7d T a.2 a.1.params a.1.body) (λa:De×Nat=>a01 T bs n=some a/\n<a.2/\a.2 <T.length/\a.1.params.length<=8/\a.1.body.length<=256) (a01 T bs n=none)):=by
 have hT:=hc.len;have hW:=hc.w;have ah:a01 T bs n=a01 T bs n:=J
 conv at ah=>rhs;unfold a01
 refine cO Tryz.func197 ?_;refine b63 ?_;refine L5 [pbx T n ps b 1,o5 b.length,.dead] J ?_;refine qs 7 (qD (p7 J b1V J j5 ?_));refine qD (V3 J ?_);refine qD (o3 (vc:=kv) (l:=[]) (a:=[102,117,110,99]) (b:=1) c0H (.inr J) O J J J J J c3q J ?_);refine qD (o3 (vc:=kv) (l:=V8 [] [102,117,110,99] 1) (a:=[116,101,115,116]) (b:=2) c0H (.inr J) O J J J J J c3q J ?_);refine qD (o3 (vc:=kv) (l:=V8 (V8 [] [102,117,110,99] 1) [116,101,115,116] 2) (a:=[103,101,110]) (b:=3) c0H (.inr J) O J J J J J c3q J ?_);refine W d8c ?_;refine z_1 ?_;refine W (U4 (vc:=kv) (l:=dkL) (a:=(tk T n).t) c0H J O O J J c3q t_8 J J (b6F _ _)) ?_;refine qD (p7 J t_8 J (.inl J) ?_);refine qD (j2 J O O J j3 t_1 (.inl J) J J (nb J) ?_);refine qG (λhg=>o6 J O J a2K J J) ?_;refine a38 ?_;refine qC ?_ ?_<;>intro h1
 .have u1:(tk T n).k≠1\/(G7 (tk T n).t)=0:=by simpa[G7]using h1
  rw[F u1]at ah;exact a3i J J (Q6 J a5J o8 (Q3 _ _ _) J (λ_ _=>.inr ⟨(_,_),k8,ah,H⟩))
 .have u1:¬((tk T n).k≠1\/(G7 (tk T n).t)=0):=by simpa[G7]using h1
  rw[D u1]at ah;have bf:=hW n hn (λh5=>u1 (.inl (by rw[h5];decide)));refine W a4S ?_;refine qC ?_ ?_<;>intro h2
  .have u2:bs.length=64:=sm_ h2;rw[F u2]at ah;exact a3i J J (Q6 J a5J o8 (Q3 _ _ _) J (λ_ _=>.inr ⟨(_,_),k8,ah,H⟩))
  .have u2:¬bs.length=64:=sm_ h2;rw[D u2]at ah;refine z_8 ?_;refine a6m hCC 7 J (α:=Tok×Nat) (λ_=>[(0,.ptr 0 0),(1,(.list (bs.map De.cv) (gnn bs.length) none)),(4,.ptr 3 0),(6,.ptr 5 0),(7,.ptr 6 0)]) (λx=>[pbx T x.2 ps b 1,o5 b.length,.dead,.box (⟨0,[],[],[]⟩:De).cells,.dead,.box x.1.cells,.box [(iv (G7 (tk T n).t))]]) (λx=>a3y T (G7 (tk T n).t) (n+1)=some x/\x.2 <T.length) ?_ ?_
   .
    refine qk (qC ?_ ?_)<;> intro h3
    .have u3:(G7 (tk T n).t)=3:=by simpa[G7]using h3
     have hh:∀m,a3y T (G7 (tk T n).t) m=a00 T m:=λm=>F u3;rw[hh]at ah;refine qD (p8 J c4J ⟨O,O⟩ (b05 hT bf hW hc.l ⟨J,J,n_5 J⟩) J (λx hx=>.inr ⟨x,k8,by rw[ah,hx.1];rfl,hx.2⟩) ?_);rintro⟨x,n2⟩ ⟨g1,g2⟩;dsimp only at g1 g2⊢;refine qD (j2 J O O J j3 a4x j5 J J (nb J) ?_);exact⟨(x,n2),[0,1,2,3,4,5,6],⟨by rw[hh];exact g1,g2⟩,⟨J,J⟩,ut_,uq_⟩
    .have u3:¬(G7 (tk T n).t)=3:=by simpa[G7]using h3
     have hh:∀m,a3y T (G7 (tk T n).t) m=K8 T m:=λm=>D u3;rw[hh]at ah;refine qD (p8 J c5x ⟨O,O⟩ (b04 hT bf hW ⟨J,J,n_5 J⟩) J (λx hx=>.inr ⟨x,k8,by rw[ah,hx.1];rfl,hx.2⟩) ?_);rintro⟨x,n2⟩ ⟨g1,g2⟩;dsimp only at g1 g2⊢;refine qD (j2 J O O J j3 a4x j5 J J (nb J) ?_);exact⟨(x,n2),[0,1,2,3,4,5,6],⟨by rw[hh];exact g1,g2⟩,⟨J,J⟩,ut_,uq_⟩
   .intro ⟨x,n2⟩ ⟨g1,g2⟩;dsimp only at g1 g2⊢;have e2:=b8D g1;rw[g1,n_9]at ah;dsimp only at ah;refine qs 2 (W (a8Y J i7) ?_);refine W (c4 J Tryz.call238 i7 (b0R bs _ X Tryz.call239 (λy _=>d1x y x (G7 (tk T n).t) (q:=6) (s:=5) J J)) J) ?_;refine qC ?_ ?_<;>intro h4
    .have u4:(bs.any λd=>(d.k ==(G7 (tk T n).t))&&decide (d.name=x.t))=true:=h4;rw[F u4]at ah;exact a3i J J (Q6 J a5J o8 (Q3 _ _ _) J (λ_ _=>.inr ⟨(_,_),k8,ah,H⟩))
    .have u4:¬(bs.any λd=>(d.k ==(G7 (tk T n).t))&&decide (d.name=x.t))=true:=by rw[h4];decide
     rw[D u4]at ah;refine W (B4 #[(0,1),(1,1),(2,1),(3,1)] J i7 b3s b1V J ⟨_,J⟩ (λw=>by kernel_rfl) J J) ?_;refine z_6 ?_;refine a6m hCC 8 J (α:=List U×Nat) (λ_=>[(0,.ptr 0 0),(4,.ptr 3 0),(8,.ptr 7 0)]) (λq=>[pbx T q.2 ps b 1,o5 b.length,.dead,.box (⟨0,[],[],[]⟩:De).cells,.dead,.dead,.dead,.box (⟨(G7 (tk T n).t),x.t,q.1,[]⟩:De).cells]) (λq=>a3B T (G7 (tk T n).t) n2=some q/\q.2 <T.length/\q.1.length<=8) ?_ ?_
     .
      refine qk (qC ?_ ?_)<;> intro h5
      .have u5:(G7 (tk T n).t)=1:=by simpa[G7]using h5
       have hq:∀m,a3B T (G7 (tk T n).t) m=N7 T m:=λm=>F u5;rw[hq]at ah;refine qD (p8 J Tryz.call240 ⟨O,O⟩ (b3I hT g2 hW ⟨J,J,n_5 J⟩) J (λx hx=>.inr ⟨x,k8,by rw[ah,hx.1];rfl,hx.2⟩) ?_);rintro⟨pl,n3⟩ ⟨k1,k2,k3⟩;dsimp only at k1 k2 k3⊢;refine qD (j2 J O O J j3 a2H (.inl J) J J (nb J) ?_);exact⟨(pl,n3),[0,1,2,3,4,5,6,7],⟨by rw[hq];exact k1,k2,k3⟩,⟨J,J⟩,ut_,uq_⟩
      .have u5:¬(G7 (tk T n).t)=1:=by simpa[G7]using h5
       have hq:∀m,a3B T (G7 (tk T n).t) m=some ([],m):=λm=>D u5;exact⟨([],n2),[0,1,2,3,4,5,6,7],⟨hq n2,g2,n_4 _⟩,⟨J,J⟩,ut_,uq_⟩
     .intro ⟨pl,n3⟩ ⟨k1,k2,k3⟩;dsimp only at k1 k2 k3⊢;have e3:=b9i k1;rw[k1,n_9]at ah;dsimp only at ah;refine qk (qD (p8 J a6M o8 (S2 hT k2 hW [61] ⟨J,J,n_5 J⟩) J (λx hx=>.inr ⟨x,k8,by rw[ah,hx.1];rfl,hx.2⟩) ?_));rintro n4 ⟨s4,k4⟩;dsimp only at s4 k4⊢;have e4:=R2 s4;rw[s4,n_9]at ah;have bJ:a0y T pl:=⟨hT,hW,hc.l,X,hc.nn⟩;refine qD (j2 J O O J j3 a2H (.inl J) J J (nb J) ?_);refine qD (j2 J O J J j3 b3g (.inl J) J J (nb J) ?_);refine qD (p8 J c1Y o8 ((d1F bJ (8*T.length+6)).1 _ (n_7 _) 1 n4 [] k4 (n_4 _) G X _ 0 2 ⟨J,J,n_5 J⟩) J (λx hx=>.inr ⟨x,k8,by rw[ah,d2G,hx.1];rfl,hx.2⟩) ?_);rintro⟨i5,n5,b5⟩ ⟨x5,y5,z5,w5⟩;dsimp only at x5 y5 z5 w5⊢;rw[d2G,x5,n_9]at ah;dsimp only at ah;refine qN [pbx T n5 pl b5 8,o5 b.length,.dead,.box (⟨0,[],[],[]⟩:De).cells,.dead,.dead,.dead,.box (⟨(G7 (tk T n).t),x.t,pl,[]⟩:De).cells,o5 b5.length] J (qD (j2 J O O J j3 b3g (.inl J) J J (nb J) ?_));refine qD (p8 J a6M o8 (S2 hT z5 hW [59] (q:=0) (s:=8) ⟨J,J,n_5 J⟩) J (λx hx=>.inr ⟨x,k8,by rw[ah,hx.1];rfl,hx.2⟩) ?_);rintro n6 ⟨s6,k6⟩;dsimp only at s6 k6⊢;have e6:=R2 s6;rw[s6,n_9]at ah;refine qD (j2 J O O J j3 a54 j5 J J (nb J) ?_);refine c6 ?_;exact⟨_,F2 J d2s,(by exact .inl ⟨(⟨(G7 (tk T n).t),x.t,pl,b5⟩,n6),b5S (k:=8) J J G (λ_=>c2X _ _ _ _ _),ah,Q,k6,k3,w5⟩)⟩
theorem d6I(hc:a0y T ps)(bs:List De)(hbs:bs.length<=64){n:Nat}{b:List Ex}(hn:n<T.length)(hb:b.length<=256)(ao:PAt σ q s T n ps b):b8 CC 197 [.ptr q 0,(.list (bs.map De.cv) (gnn bs.length) none)] σ (a5b (λa:De×Nat=>(.agg a.1.cells)) (λa=>(σ.set q (pbx T a.2 a.1.params a.1.body σ.length)).set s .dead++[o5 a.1.body.length]) (λa:De×Nat=>a01 T bs n=some a/\n<a.2/\a.2 <T.length/\a.1.params.length<=8/\a.1.body.length<=256) σ q s (a01 T bs n=none)):=
 b4p (c:=(λa:De×Nat=>(.agg a.1.cells))) (N:=λa=>a.2) (Z:=λa=>a.1.params) (B:=λa=>a.1.body) (λ_ h=>by simp at h;subst h;exact a5H _ _) (λa=>r6 a.1.pure) (d2S hc bs hbs n b hn hb) ao
def a1K:Nat->List Tok->U->Nat->List U->Option (List U×Nat)
 |0,_,_,_,_=>none
 |f+1,T,pkg,n,l=>if isT (tk T n) 1 [105,109,112,111,114,116]=true then(if l.length=8 then none else(K8 T (n+1)).bind λx=>if x.1.t=pkg\/x.1.t∈l then none else(pIs T x.2 4 [59]).bind λm=>a1K f T pkg m (l++[x.1.t]))else some (l,n)
def U5:Nat->List Tok->Nat->List De->Option (List De×Nat)
 |0,_,_,_=>none
 |f+1,T,n,l=>if(tk T n).k=5 then some (l,n)else(a01 T l n).bind λx=>U5 f T x.2 (l++[x.1])
def a1r(T:List Tok):Option Src:=(pIs T 0 1 [112,97,99,107,97,103,101]).bind λn1=>(K8 T n1).bind λx=>(pIs T x.2 4 [59]).bind λn2=>(a1K 9 T x.1.t n2 []).bind λy=>(U5 65 T y.2 []).bind λz=>some ⟨x.1.t,y.1,z.1⟩
theorem b4x{bs:List De}{n:Nat}{x:De×Nat}(h:a01 T bs n=some x):bs.length≠64:=λiD=>by
 unfold a01 at h;rw[F iD]at h;split at h<;>cases h
theorem d5J(pkg:U)(i:List U)(d:List De)(t1 t2:Option Nat):C6 L am (.agg [sv pkg,.list (i.map scv) (gnn i.length) t1,.list (d.map De.cv) (gnn d.length) t2]) (.agg (⟨pkg,i,d⟩:Src).cells):=
 .agg J λk c c' h h'=>by
  rcases k with _|_|_|k
  .injection h with h;injection h' with h';subst h h';exact .old (.val _)
  .injection h with h;injection h' with h';subst h h';exact H5 (f:=scv) (λ_=>⟨.val _,O⟩) _
  .injection h with h;injection h' with h';subst h h';exact H5 (f:=De.cv) De.pure _
  .cases h
theorem c8F(hc:a0y T [])(h0:0<T.length):b8 CC 155 [.ptr 0 0] (pst T 0 [] []) (a4q (λa:Src×Nat×List U×List Ex=>(.agg a.1.cells)) (λa=>a7d T a.2.1 a.2.2.1 a.2.2.2) (λa:Src×Nat×List U×List Ex=>a1r T=some a.1) (a1r T=none)):=by
 have hT:=hc.len;have hW:=hc.w;have ah:a1r T=a1r T:=J
 conv at ah=>rhs;unfold a1r
 refine qO Tryz.func155 ?_;refine qD (p7 J a48 J j5 ?_);refine qD (p8 J c90 o8 (b6K hT h0 hW [112,97,99,107,97,103,101] ⟨J,J,n_5 J⟩) J (λx hx=>.inr ⟨x,k8,by rw[ah,hx.1];rfl,hx.2⟩) ?_);rintro n1 ⟨s1,k1⟩;dsimp only at s1 k1⊢;rw[s1,n_9]at ah;have e1:=R2 s1;refine qD (p8 J c5x ⟨O,O⟩ (b04 hT k1 hW ⟨J,J,n_5 J⟩) J (λx hx=>.inr ⟨x,k8,by rw[ah,hx.1];rfl,hx.2⟩) ?_);rintro⟨w,n2⟩ ⟨s2,k2⟩;dsimp only at s2 k2⊢;have e2:=b2v s2;rw[s2,n_9]at ah;dsimp only at ah;refine W c3P ?_;refine W e2o ?_;refine c2N ?_;refine qD (p8 J a6M o8 (S2 hT k2 hW [59] ⟨J,J,n_5 J⟩) J (λx hx=>.inr ⟨x,k8,by rw[ah,hx.1];rfl,hx.2⟩) ?_);rintro n3 ⟨s3,k3⟩;dsimp only at s3 k3⊢;rw[s3,n_9]at ah;refine qN [pbx T n3 [] [] 1,.dead,.box (⟨[],[],[]⟩:Src).cells,.box [sv w.t,.list (([]:List U).map scv) (gnn ([]:List U).length) none,.list (([]:List De).map De.cv) (gnn ([]:List De).length) none]] J ?_;refine A2 hCC 4 J (α:=List U×Nat) (λ_=>[(0,.ptr 0 0),(2,.ptr 2 0),(3,.ptr 3 0)]) (λx=>[pbx T x.2 [] [] 1,.dead,.box (⟨[],[],[]⟩:Src).cells,.box [sv w.t,.list (x.1.map scv) (gnn x.1.length) (C3 x.1.length 4),.list (([]:List De).map De.cv) (gnn ([]:List De).length) none],o5 x.1.length]) (λx=>x.1.length<=8/\x.2 <T.length/\a1r T=(a1K (9-x.1.length) T w.t x.2 x.1).bind λy=>(U5 65 T y.2 []).bind λz=>some ⟨w.t,y.1,z.1⟩) (λx=>9-x.1.length) ⟨([],n3),[0,1,2,3,9],⟨n_4 _,k3,ah⟩,⟨J,J⟩,ut_,⟨.inr ⟨_,J,.same J (a4o (nb J))⟩,.inl J,.inr ⟨_,J,.same J c40⟩,.inr ⟨_,J,.box ⟨.old (.val _),.old a2T,.old (U6 _ [] _),O⟩⟩,.inl J,O⟩⟩ ?_;intro⟨l,m⟩ ⟨hl,hm,ah⟩;dsimp only at hl hm ah⊢;obtain⟨f,hf⟩:∃f,9-l.length=f+1:=⟨8-l.length,X⟩;rw[hf,a1K]at ah;refine qk (W (c4 J c59 a2N (b42 hT hm 1 [105,109,112,111,114,116] ⟨J,J,n_5 J⟩) J) ?_);refine cC ?_ ?_<;>intro h1
 .have u1:isT (tk T m) 1 [105,109,112,111,114,116]=true:=I h1;rw[F u1]at ah;have bZ:=hW m hm (a7f u1 G);refine b24 ?_;refine qC ?_ ?_<;>intro h2
  .have u2:l.length=8:=sm_ h2;rw[F u2]at ah;refine W (c4 J c6f ⟨O,O⟩ (a3W hT hm ⟨J,J,n_5 J⟩) J) ?_;exact a3i J J (Q6 J a5J o8 (Q3 _ _ _) J (λ_ _=>.inr ⟨(_,_),k8,by rw[ah];rfl,H⟩))
  .have u2:¬l.length=8:=sm_ h2;rw[D u2]at ah;refine z_8 ?_;refine qD (p8 J c5x ⟨O,O⟩ (b04 hT bZ hW ⟨J,J,n_5 J⟩) J (λx hx=>.inr ⟨x,k8,by rw[ah,hx.1];rfl,hx.2⟩) ?_);rintro⟨x,m1⟩ ⟨s4,k4⟩;dsimp only at s4 k4⊢;rw[s4,n_9]at ah;dsimp only at ah;refine qN [pbx T m1 [] [] 1,.dead,.box (⟨[],[],[]⟩:Src).cells,.box [sv w.t,.list (l.map scv) (gnn l.length) (C3 l.length 4),.list (([]:List De).map De.cv) (gnn ([]:List De).length) none],o5 l.length] J ?_;refine z_1 ?_;refine W a8q ?_;refine d2i ?_;refine qG b71 ?_;refine qG a02 ?_;refine qG (λhg=>c4 J c0k ⟨hg,hg,O⟩ (a0C l (gnn l.length) x.t X _) J) ?_;refine W S6 ?_;refine qC ?_ ?_<;>intro h3
   .have u3:x.t=w.t\/x.t∈l:=I h3;rw[F u3]at ah;exact a3i J J (Q6 J a5J o8 (Q3 _ _ _) J (λ_ _=>.inr ⟨(_,_),k8,by rw[ah];rfl,H⟩))
   .have u3:¬(x.t=w.t\/x.t∈l):=I h3;rw[D u3]at ah;have eO:=X6 l x.t;refine W (B1 [scv x.t] J ⟨O,O⟩ t_2 t_0 t_4 J J J J J J J J J) ?_;refine qD (A4 J O O J H q_5 t_2 t_0 a3p t_4 J (.inr J) K2 Z6 B7 ((l++[x.t]).map scv) (l++[x.t]).length H H ?_);refine qD (j2 J O O J j3 a2H (.inl J) J J (nb J) ?_);refine qD (p8 J a6M o8 (S2 hT k4 hW [59] ⟨J,J,n_5 J⟩) J (λx hx=>.inr ⟨x,k8,by rw[ah,hx.1];rfl,hx.2⟩) ?_);rintro m2 ⟨s5,k5⟩;dsimp only at s5 k5⊢;rw[s5,n_9]at ah;exact⟨(l++[x.t],m2),[0,1,2,3,6],⟨Q,Q,k5,by dsimp only;rw[ah,show 9- (l++[x.t]).length=f by omega]⟩,⟨J,J⟩,ut_,⟨.inr ⟨_,J,.same J (a4o (nb J))⟩,.inl J,.inr ⟨_,J,.same J c40⟩,.inr ⟨_,J,.box ⟨.old (.val _),C6.grow (f:=scv) (λ_=>⟨.val _,O⟩) J,.old (U6 _ [] _),O⟩⟩,.inr ⟨_,J,.same J D8⟩,O⟩⟩
 .have u1:¬isT (tk T m) 1 [105,109,112,111,114,116]=true:=I h1;rw[D u1,n_9]at ah;dsimp only at ah;rename_i im0;obtain⟨im,him⟩:∃im,im=l:=⟨l,J⟩;subst him;refine j6 ?_;refine A2 hCC 5 J (α:=Nat×List De×List U×List Ex) (λ_=>[(0,.ptr 0 0),(2,.ptr 2 0),(3,.ptr 3 0)]) (λx=>[pbx T x.1 x.2.2.1 x.2.2.2 5,.dead,.box (⟨[],[],[]⟩:Src).cells,.box [sv w.t,.list (im.map scv) (gnn im.length) none,.list (x.2.1.map De.cv) (gnn x.2.1.length) (C3 x.2.1.length 6)],.dead,o5 x.2.2.2.length,o5 x.2.1.length]) (λx=>x.2.1.length<=64/\x.1 <T.length/\x.2.2.1.length<=8/\x.2.2.2.length<=256/\a1r T=(U5 (65-x.2.1.length) T x.1 x.2.1).bind λz=>some ⟨w.t,im,z.1⟩) (λx=>T.length -x.1) ⟨(m,[],[],[]),[0,1,2,3,4,9,10],⟨n_4 _,hm,n_4 _,n_4 _,ah⟩,⟨J,J⟩,ut_,⟨.inr ⟨_,J,.box ⟨.old a1u,.old (.val _),.old Z8,.old (P9 _ [] _),O⟩⟩,.inl J,.inr ⟨_,J,.same J c40⟩,.inr ⟨_,J,.box ⟨.old (.val _),H5 (f:=scv) (λ_=>⟨.val _,O⟩) _,.old (U6 _ [] _),O⟩⟩,.inl J,.inl J,.inl J,O⟩⟩ ?_;intro⟨m,ds,ps,b⟩ ⟨cK,hm,cm,hb,ah⟩;dsimp only at cK hm cm hb ah⊢;obtain⟨f,hf⟩:∃f,65-ds.length=f+1:=⟨64-ds.length,X⟩;rw[hf,U5]at ah;have bJ:a0y T ps:=⟨hT,hW,hc.l,X,hc.nn⟩;refine qk (W (c4 J c6f ⟨O,O⟩ (a3W hT hm (q:=0) (s:=5) ⟨J,J,n_5 J⟩) J) ?_);refine W a4M ?_;refine qC ?_ ?_<;>intro h4
  .have u4:¬(tk T m).k=5:=I h4;rw[D u4]at ah;refine cF [] [0,1,2,3,4] (tl:=[(5,[0,1]),(6,[0,1]),(7,[]),(8,[]),(9,[])]) ?_;refine chf J c5z ?_;refine chf J c97 ?_;refine chf J W7 ?_;refine chf J c5z ?_;refine chf J c97 ?_;refine C8 ?_;refine B0 J J J (p8 J Tryz.call197 i7 (d6I bJ ds cK hm hb (q:=0) (s:=5) ⟨J,J,n_5 J⟩) J (λx hx _=>.inr ⟨x,k8,by rw[ah,hx.1];rfl,hx.2⟩) ?_);rintro⟨d,m1⟩ ⟨g1,g2,g3,g4,g5⟩;dsimp only at g1 g2 g3 g4 g5⊢;have ak:=b4x g1;rw[g1,n_9]at ah;dsimp only at ah;have eO:=X6 ds d;refine a1O [pbx T m1 d.params d.body 7,.dead,.box (⟨[],[],[]⟩:Src).cells,.box [sv w.t,.list (im.map scv) (gnn im.length) none,.list (ds.map De.cv) (gnn ds.length) (C3 ds.length 6)],.dead,.dead,o5 ds.length,o5 d.body.length] J ?_;refine d7L ?_;refine B0 J J J (A4 J O O J H q_5 b20 a54 Tryz.typeInfo119 b1V J (.inr J) K2 (by have hb:Tryz.t119.bytes=72:=J;rw[hb];first|omega|(simp;done)|(simp;omega)) B7 ((ds++[d]).map De.cv) (ds++[d]).length H H ?_);refine⟨O,?_⟩;refine d7i ?_;refine a84 ?_;exact⟨(m1,ds++[d],d.params,d.body),[0,1,2,3,4,7,8],⟨Q,Q,g3,g4,g5,by dsimp only;rw[ah,show 65- (ds++[d]).length=f by omega]⟩,⟨J,J⟩,ut_,⟨.inr ⟨_,J,.box ⟨.old a1u,.old (.val _),.old Z8,a73 J,O⟩⟩,.inl J,.inr ⟨_,J,.same J c40⟩,.inr ⟨_,J,.box ⟨.old (.val _),.old Z8,C6.grow (f:=De.cv) (λ_=>⟨.val _,.val _,A6 _ _ _,P9 _ _ _,O⟩) J,O⟩⟩,.inl J,.inr ⟨_,J,.same J D8⟩,.inr ⟨_,J,.same J D8⟩,O⟩⟩
  .have u4:(tk T m).k=5:=I h4;rw[F u4,n_9]at ah;refine j6 ?_;refine c68 ?_;exact⟨_,F2 J ⟨O,_,_,_,J,J,.inr ⟨_,b8O,a4d,nb J,J⟩⟩,(by exact .inl ⟨(⟨w.t,im,ds⟩,m,ps,b),b5S (k:=5) J J G (λ_=>d5J _ _ _ _ _),ah⟩)⟩
theorem d4X(hc:a0y T [])(h0:0<T.length)(ao:PAt σ q s T 0 [] []):b8 CC 155 [.ptr q 0] σ (a5b (λa:Src×Nat×List U×List Ex=>(.agg a.1.cells)) (λa=>(σ.set q (pbx T a.2.1 a.2.2.1 a.2.2.2 σ.length)).set s .dead++[o5 a.2.2.2.length]) (λa:Src×Nat×List U×List Ex=>a1r T=some a.1) σ q s (a1r T=none)):=
 b4p (c:=(λa:Src×Nat×List U×List Ex=>(.agg a.1.cells))) (N:=λa=>a.2.1) (Z:=λa=>a.2.2.1) (B:=λa=>a.2.2.2) (λ_ h=>by cases h) (λa=>r6 a.1.pure) (c8F hc h0) ao
structure d9X(N:Nat)(t:Tok):Prop where
 len:t.t.length<=N
 n0:0<=t.n
 n1:t.n<=9007199254740993
theorem b01(s:U)(a e:Nat):(sub s a e).length<=s.length:=by unfold sub;rw[a94,a4Y];omega
theorem c66{s:U}{b:UInt8}:d9X s.length (F0 s a b).1/\(F0 s a b).1.k≠5:=by
 have z:d9X s.length (⟨0,[],0,0⟩:Tok):=⟨n_4 _,G,G⟩;unfold F0
 split
 .split
  .exact ⟨z,(show(0:Int)≠5 by decide)⟩
  .exact ⟨⟨b01 _ _ _,b33 _,(show(0:Int)<=9007199254740993 by decide)⟩,(show(1:Int)≠5 by decide)⟩
 .split
  .split
   .exact ⟨z,(show(0:Int)≠5 by decide)⟩
   .have:=b4c (b4w (s:=s) (a:=a));exact⟨⟨n_4 _,this.1,this.2⟩,(show(2:Int)≠5 by decide)⟩
  .split
   .split
    .exact ⟨z,(show(0:Int)≠5 by decide)⟩
    .exact ⟨⟨b01 _ _ _,b33 _,(show(0:Int)<=9007199254740993 by decide)⟩,(show(3:Int)≠5 by decide)⟩
   .split
    .split
     .exact ⟨⟨b01 _ _ _,b33 _,(show(0:Int)<=9007199254740993 by decide)⟩,(show(4:Int)≠5 by decide)⟩
     .exact ⟨⟨b01 _ _ _,b33 _,(show(0:Int)<=9007199254740993 by decide)⟩,(show(4:Int)≠5 by decide)⟩
    .exact ⟨z,(show(0:Int)≠5 by decide)⟩
theorem a9m(s:U):∀(f i:Nat) (T:List Tok),a0W f s i=some T->T.length<=f/\(∀t∈T,d9X s.length t)/\∃L e,T=L++[e]/\e.k=5/\∀t∈L,t.k≠5
 |0,i,T,h=>by cases h
 |f+1,i,T,h=>by
  rw[a0W]at h;cases hb:s[A9 s i [5]]? with
  |none=>
   rw[hb]at h;injection h with h
   subst h;refine⟨H,λt ht=>?_,[],_,J,J,λt ht=>by cases ht⟩;simp at ht;subst ht;exact⟨n_4 _,b33 _,(show(0:Int)<=9007199254740993 by decide)⟩
  |some b=>
   rw[hb]at h;simp only at h;split at h
   .obtain ⟨h1,h2⟩:=a9m s f _ T h;exact⟨X,h2⟩
   .split at h
    .cases h
    .cases hq:a0W f s (F0 s (A9 s i [5]) b).2.1.toNat with
     |none=>rw[hq]at h;cases h
     |some T'=>
      rw[hq]at h;simp only[b83,Option.some.injEq]at h;subst h;obtain⟨h1,h2,L,e,h3,h5,h4⟩:=a9m s f _ T' hq;have hg:=c66 (s:=s) (a:=A9 s i [5]) (b:=b);refine⟨I h1,λt ht=>?_,_::L,e,by rw[h3];rfl,h5,λt ht=>?_⟩
      .rcases J0.1 ht with rfl|ht
       .exact ⟨hg.1.len,hg.1.n0,hg.1.n1⟩
       .exact h2 t ht
      .rcases J0.1 ht with rfl|ht
       .exact hg.2
       .exact h4 t ht
theorem c2F(i:Nat):tk T i∈T\/tk T i=⟨5,[],0,0⟩:=by
 unfold tk;cases h:T[i]? with
 |none=>exact .inr J
 |some t=>exact .inl (n_2 h)
theorem b3r{s:U}(h:a3v s=some T):a0y T []/\0<T.length:=by
 unfold a3v at h;split at h
 .cases h
 .rename_i hs;obtain⟨h1,h2,L,e,h3,h5,h4⟩:=a9m s _ _ T h;have h0:0<T.length:=by rw[h3];simp
  refine⟨⟨X,λn hn hk=>?_,λn=>?_,n_4 _,λn=>?_⟩,h0⟩
  .rcases a2J (n+1) T.length with ab|aF
   .exact ab
   .exfalso;have hl:T.length=L.length+1:=by rw[h3];simp
    have:tk T n=e:=by
     unfold tk;rw[h3,show n=L.length by omega];simp
    exact hk (by rw[this];exact h5)
  .rcases c2F (T:=T) n with h|h
   .have:=(h2 _ h).len;omega
   .rw [h];simp
  .rcases c2F (T:=T) n with h|h
   .exact ⟨(h2 _ h).n0,(h2 _ h).n1⟩
   .rw [h];exact⟨G,G⟩
abbrev c6Q:=Src×Int×Int
abbrev c7g(x:c6Q):CV:=.tup [.agg x.1.cells,iv x.2.1,iv x.2.2]
def Q8(s:U):Option Src:=(a3v s).bind a1r
def b6Z(s:U)(x:c6Q):Prop:=(Q8 s=some x.1/\x.2.1=0/\x.2.2=0)\/(Q8 s=none/\x.1=⟨[],[],[]⟩/\x.2.2≠0)
theorem c1g{c1 c2 c3:CV}{u:CV}{K:List b9->Prop}(h:K σ):c7A CC 154 [c1,c2,c3] σ false u K:=by
 refine d7n ?_;refine cY (c5o J O J Tryz.runUnderlying20 (.inl J)) ?_;refine w9 ?_;refine cC ?_ ?_<;>intro h1
 .cases h1
 .refine C2 ?_;exact h
theorem c1O(a0 e0 x e:Int){K:List b9->Prop}(h:K [.dead,.box (⟨[],[],[]⟩:Src).cells,.box [iv x],.box [iv e],.dead,.box [iv x,iv e]]):c7A CC 154 [.ptr 1 0,.ptr 2 0,.ptr 3 0] [.dead,.box (⟨[],[],[]⟩:Src).cells,.box [iv a0],.box [iv e0],.dead] true (a3o x e) K:=by
 refine d7n ?_;refine cY (c5o J O J Tryz.runUnderlying20 (.inr ⟨_,_,J⟩)) ?_;refine w9 ?_;refine cC ?_ ?_<;>intro h1
 .refine z_4 ?_;refine cY (c8b (xs:=[.int .i64 x,.int .i64 e]) J O J c6d J J) ?_;refine cY A8 ?_;refine cY a8I ?_;refine cY a8I ?_;refine cD (p7 J Tryz.zeroValue195 J j5 ?_);refine cD (j2 J O O J j3 Tryz.sizeOf195 j5 J J (nb J) ?_);refine z_5 ?_;refine G4 ?_;refine z_4 ?_;refine b5A ?_;refine cC ?_ ?_<;>intro h2
  .cases h2
  .refine C2 ?_;refine cF [] [0,1,2,3,4] (tl:=[(5,[1,2,3,4]),(6,[3,4]),(7,[])]) ?_;refine chf J e0P ?_;refine chf J (c8 J (j7 J O J c6d J t_1 G)) ?_;refine chf J b1M ?_;refine chf J (c8 J c8N) ?_;refine chf J d3g ?_;refine d4r ?_;refine⟨⟨(by exact c8 J (j7 J O J c6d J t_1 G)),b3o,(by exact c8 J c8N),b5N,O⟩,?_⟩;refine B0 J J J (j2 J O O J j3 t_1 (.inl J) J J (nb J) ?_);refine⟨⟨(by exact c8 J c8N),b5N,O⟩,?_⟩;refine d7u ?_;exact h
 .cases h1
theorem c7j(s:U)(hs:s.length<=1000000000000):b8 CC 102 [(sv s)] [] λr τ=>∃x:c6Q,a1t 0 τ r (.ret (c7g x))/\b6Z s x:=by
 refine a0s (c1P Tryz.func102 J J ?_);show b8c _ _ _ _ _ [.dead];refine c2K ?_;refine G8 ?_;refine cD (p7 J a48 J j5 ?_);refine cD (p7 J t_8 J (.inl J) ?_);refine cD (p7 J Tryz.zeroValue40 J (.inl J) ?_);refine w9 ?_;refine c2K ?_;refine a42 ?_;refine dc J Tryz.call153 ⟨O,O⟩ (c7k s hs _) ?_;rintro⟨T,nn,at_,e⟩ hP;dsimp only at hP⊢;refine cY A8 ?_;refine cY a8I ?_;refine cY a8I ?_;refine cY a8I ?_;refine cY a4R ?_;refine cD (j2 J O O J j3 t_1 (.inl J) J J (nb J) ?_);refine cD (j2 J O O J j3 c1p (.inl J) J J (nb J) ?_);refine w9 ?_;refine c2K ?_;refine z_0 ?_;refine cY (o6 J O J c2H J J) ?_;refine b0Z ?_;refine cC ?_ ?_<;>intro h1
 .have he:e≠0:=I h1;have hl:a3v s=none:=by
   rcases hP with⟨_,_,_,g⟩|⟨g,_⟩
   .exact absurd g he
   .exact g
  refine G4 ?_;refine cF [] [0,1,2] (tl:=[(3,[1,2]),(4,[2]),(5,[])]) ?_;refine chf J e0P ?_;refine chf J b1M ?_;refine chf J d3g ?_;refine d4r ?_;refine⟨⟨b3o,b5N,O⟩,?_⟩;refine B0 J J J (j2 J O O J j3 t_1 (.inl J) J J (nb J) ?_);refine⟨⟨b5N,O⟩,?_⟩;refine d7u ?_;refine c6 ?_;exact⟨_,r3 (rs:=[.cell 2 67,.cell 3 3,.cell 4 40]) (cs:=[_,_,_]) J d9y (n_5 J),⟨((⟨[],[],[]⟩:Src),at_,e),d5a,.inr ⟨by rw[Q8,hl];rfl,J,he⟩⟩⟩
 .have he:e=0:=I h1;obtain⟨hl,rfl,rfl⟩:a3v s=some T/\nn=true/\at_=0:=by
   rcases hP with⟨g1,g2,g3,_⟩|⟨_,_,_,g⟩
   .exact ⟨g1,g2,g3⟩
   .exact absurd he g
  subst he;obtain⟨hc,h0⟩:=b3r hl;have ah:Q8 s=a1r T:=by rw[Q8,hl];rfl
  refine C2 ?_;refine d3R J J J J J G J J Tryz.call154 D6 (λds=>?_);refine c47 ?_;refine b1F ?_;refine cY A8 ?_;refine cY (B4 #[(0,1),(1,1),(2,1),(3,1)] J ⟨O,O⟩ c7V Tryz.zeroValue199 J ⟨_,J⟩ (λw=>by kernel_rfl) J J) ?_;refine cD (I0 J O j3 j5 ?_);refine z_5 ?_;refine c47 ?_;refine b1F ?_;refine cY A8 ?_;refine cD (p8 J Tryz.call155 ⟨O,O⟩ (d4X hc h0 (q:=4) (s:=0) ⟨J,J,n_5 J⟩) J (λx hx=>c1O _ _ _ _ ⟨_,r3 (rs:=[.cell 2 67,.cell 3 3,.cell 4 40]) (cs:=[_,_,_]) J d9y (n_5 J),⟨((⟨[],[],[]⟩:Src),x.1,x.2),d5a,.inr ⟨by rw[ah];exact hx.1,J,hx.2⟩⟩⟩) ?_);rintro⟨x,m,ps,b⟩ g1;dsimp only at g1⊢;refine cD (j2 J O O J j3 a4d j5 J J (nb J) ?_);refine cD (j2 J O J J j3 t_1 (.inl J) J J (nb J) ?_);refine cD (j2 J O J J j3 c1p (.inl J) J J (nb J) ?_);refine w9 ?_;refine d6t ?_;exact c1g ⟨_,r3 (rs:=[.cell 2 67,.cell 3 3,.cell 4 40]) (cs:=[_,_,_]) J d9y (n_5 J),⟨(x,0,0),(by exact .ret (.tups ⟨.old (c:=.agg (x).cells) (r6 (Src.pure _)).old,.old (.val _),.old (.val _),O⟩)),.inl ⟨by rw[ah];exact g1,J,J⟩⟩⟩
theorem c8e(s:U)(hs:s.length<=1000000000000)(σ:List b9):b8 CC 102 [(sv s)] σ λr τ=>∃x:c6Q,r= .ret (c7g x)/\τ=σ/\b6Z s x:=
 F5 (res:=λx=>.ret (c7g x)) hCC (λc hc=>by simp at hc;subst hc;exact .val _) (c7j s hs) (λx _=>D7 ⟨r6 x.1.pure,.val _,.val _,O⟩) σ
structure Fi where
 p:U
 b:U
deriving DecidableEq
variable{b:List Ex}{fl:List Fi}
abbrev Fi.cells(x:Fi):List CV:=[sv x.p,sv x.b]
def Fi.cv(x:Fi):List CV:=x.cells
theorem Fi.pure(x:Fi):O0 x.cells:=⟨.val _,.val _,O⟩
theorem K6(l:List Fi)(nn:Bool):r5 (.list (l.map Fi.cv) nn none):=P7 (f:=Fi.cv) Fi.pure l nn
theorem a1Y(n:Nat)(l:List Fi)(nn:Bool):Old n (.list (l.map Fi.cv) nn none):=(K6 l nn).old
abbrev o4(l:List Fi)(nn:Bool):List CV:=[.list (l.map Fi.cv) nn none]
structure Va where
 n:U
 v:Int
deriving DecidableEq
variable{n:Nat}
abbrev Va.cells(x:Va):List CV:=[sv x.n,iv x.v]
def Va.cv(x:Va):List CV:=x.cells
theorem Va.pure(x:Va):O0 x.cells:=⟨.val _,.val _,O⟩
theorem a2q(l:List Va)(nn:Bool):r5 (.list (l.map Va.cv) nn none):=P7 (f:=Va.cv) Va.pure l nn
theorem a27(n:Nat)(l:List Va)(nn:Bool):Old n (.list (l.map Va.cv) nn none):=(a2q l nn).old
abbrev E7(l:List Va)(nn:Bool):List CV:=[.list (l.map Va.cv) nn none]
def prv{α:Type}(l:List α)(i:Nat):Option α:=if i=0 then none else l[i-1]?
theorem b8m{x:α}(h:l[i]?=some x):prv l (i+1)=some x:=by unfold prv;simp[h]
theorem a0i{p:α}(hp:0<i->l[i-1]?=some p)(q:α->Bool):(prv l i).any q=(decide ((i:Int) > 0)&&q p):=by
 unfold prv;by_cases h:i=0
 .subst h;rfl
 .rw [D h,hp X];have:decide ((i:Int) > 0)=true:=a1B X;rw[this];rfl
theorem b6m(hi:i<l.length):∃p,0<i->l[((i:Int) -1).toNat]?=some p/\l[i-1]?=some p:=by
 refine⟨l[i-1]'X,λh0=>?_⟩;rw[show((i:Int) -1).toNat=i-1 by omega];simp
def L6(pv:Option Fi)(f:Fi):Int:=if I1 f.p=false then 6 else if(pv.any λg=>decide (f.p=g.p))=true then 10 else if(pv.any λg=>Op.bytesLess f.p g.p)=true then 6 else if 16384<f.b.length then 2 else 0
def rvE:Option Fi->List Fi->Int
 |_,[]=>0
 |pv,f::l=>if L6 pv f=0 then rvE (some f) l else L6 pv f
def x8(l:List Fi):Int:=if 64<l.length then 2 else rvE none l
theorem b8I{l:List Fi}{f:Fi}(h:l[i]?=some f):rvE (prv l i) (l.drop i)=if L6 (prv l i) f=0 then rvE (prv l (i+1)) (l.drop (i+1))else L6 (prv l i) f:=by
 obtain⟨ab,rfl⟩:=n_3.1 h;rw[b8m h,R0 ab,rvE]
def a0p(pv:Option Va)(v:Va):Bool:=C4 v.n && (decide (-9007199254740992<=v.v)&&decide (v.v<=9007199254740992))&& !(pv.any λg=>Op.bytesLess v.n g.n ||decide (v.n=g.n))
def evB:Option Va->List Va->Bool
 |_,[]=>true
 |pv,v::l=>a0p pv v&&evB (some v) l
def J9(l:List Va):Bool:=decide (l.length<=16)&&evB none l
theorem c7r{ev:List Va}(h:J9 ev=true):ev.length<=16:=by
 unfold J9 at h;simp only[T7,a1G]at h;exact h.1
theorem b9w{l:List Va}{v:Va}(h:l[i]?=some v):evB (prv l i) (l.drop i)=(a0p (prv l i) v&&evB (prv l (i+1)) (l.drop (i+1))):=by
 obtain⟨ab,rfl⟩:=n_3.1 h;rw[b8m h,R0 ab,evB]
def a4T(s:U):Bool:=I1 s&& (decide ((s.length:Int) > 4)&&c1H [46,115,114,99] s)
theorem c1k(l:List Fi)(nn:Bool)(hl:∀f∈l,f.p.length<=1000000000)(σ:List b9):b8 CC 100 [.agg (o4 l nn)] σ λr aa=>r= .ret (iv (x8 l))/\aa=σ:=by
 refine b8.anyw hCC pu_ pu_ (c7 (qO Tryz.func100 ?_)) σ;refine qD (I0 J O j3 j5 ?_);refine W a0E ?_;refine qC ?_ ?_<;>intro h1
 .have ak:64<l.length:=sm_ h1;exact d8y
 .have ak:¬64<l.length:=sm_ h1;refine W a0E ?_;refine j8 hCC (α:=Nat) (λi=>[(1,.ptr 0 0),(10,(.list (l.map Fi.cv) nn none)),(11,iv l.length),(12,iv i)]) (λ_=>[.box (o4 l nn)]) (λi=>i<=l.length/\x8 l=rvE (prv l i) (l.drop i)) (λi=>l.length -i) 0 ⟨n_4 _,by rw[x8,D ak];rfl⟩ tu_ (ai:=[]) J z8 uz_ ?_;intro i ⟨hi,hr⟩;refine qk (qC ?_ ?_)<;> intro h2
  .have ab:(i:Int)<l.length:=I h2;obtain⟨y,hb⟩:=gx_ l i;obtain⟨p,hp⟩:=b6m (l:=l) (i:=i) X;have fL:0<i->l[i-1]?=some p:=λh=>(hp h).2;have ba:=hl y (n_2 hb);rw[b8I hb]at hr;refine b3N ?_;refine W (c4 J c76 ⟨O,O⟩ (a19 y.p ba _) J) ?_;refine qC ?_ ?_<;>intro h3
   .have u3:I1 y.p=false:=I h3;have us:L6 (prv l i) y=6:=by rw[L6,F u3]
    rw[us]at hr;exact c0V
   .have u3:¬I1 y.p=false:=I h3;refine cW 15 ?_;refine b79 ?_;refine hY A8 ?_;refine c4V ?_;refine c22 ?_;refine c3I ?_;refine c5b ?_;refine L1 J J O J b1X ?_;refine hY N9 ?_;refine a9Y ?_;refine qC ?_ ?_<;>intro h4
    .have u4:((prv l i).any λg=>decide (y.p=g.p))=true:=by rw[a0i fL];exact h4
     have us:L6 (prv l i) y=10:=by rw[L6,D u3,F u4]
     rw[us]at hr;exact c0V
    .have u4:¬((prv l i).any λg=>decide (y.p=g.p))=true:=by rw[a0i fL];simpa using h4
     refine cW 15 ?_;refine b79 ?_;refine hY A8 ?_;refine c4V ?_;refine c22 ?_;refine c3I ?_;refine c5b ?_;refine d0N ?_;refine a9Y ?_;refine qC ?_ ?_<;>intro h5
     .have u5:((prv l i).any λg=>Op.bytesLess y.p g.p)=true:=by rw[a0i fL];exact h5
      have us:L6 (prv l i) y=6:=by rw[L6,D u3,D u4,F u5]
      rw[us]at hr;exact c0V
     .have u5:¬((prv l i).any λg=>Op.bytesLess y.p g.p)=true:=by rw[a0i fL];simpa using h5
      refine W R6 ?_;refine qC ?_ ?_<;>intro h6
      .have u6:16384<y.b.length:=sm_ h6;have us:L6 (prv l i) y=2:=by rw[L6,D u3,D u4,D u5,F u6]
       rw[us]at hr;exact c0V
      .have u6:¬16384<y.b.length:=sm_ h6;have us:L6 (prv l i) y=0:=by rw[L6,D u3,D u4,D u5,D u6]
       rw[us,F J]at hr;exact b2F
  .refine z_9 ?_;exact⟨_,rE1,_,_,J,J,C9 c9d⟩
theorem c4t(a b c d e:Bool):(a&&b&& !(c&& (d ||e)))= !((!a || !b) ||(c&& (d ||e))):=by cases a<;>cases b<;>cases c<;>cases d<;>cases e<;>rfl
theorem c9J(s:U):((I1 s&&decide ((s.length:Int) > 4))&&c1H [46,115,114,99] s)=a4T s:=by rw[a4T,b2Z]
theorem b31(s:U)(hs:s.length<=1000000000)(σ:List b9):b8 CC 101 [(sv s)] σ λr aa=>r= .ret (.val (.bool (a4T s)))/\aa=σ:=by
 refine b8.anyw hCC pu_ pu_ (c7 (qO Tryz.func101 ?_)) σ;refine W (c4 J c76 ⟨O,O⟩ (a19 s hs _) J) ?_;refine a8a ?_;refine b0b ?_;refine qG (λhg=>c4 J Tryz.call152 ⟨hg,J,O⟩ (a6E s _ X G _) J) ?_;refine b0D ?_;exact⟨_,rE1,_,_,J,J,j4 (c9J _)⟩
theorem b7r(v:Int)(σ:List b9):b8 CC 104 [iv v] σ λr aa=>r= .ret (.val (.bool (decide (-9007199254740992<=v)&&decide (v<=9007199254740992))))/\aa=σ:=by
 refine b8.anyw hCC pu_ pu_ (c7 (qO Tryz.func104 ?_)) σ;refine qG D4 ?_;refine a4k ?_;exact c4f
theorem V5(l:List Va)(nn:Bool)(σ:List b9):b8 CC 57 [.agg (E7 l nn)] σ λr aa=>r= .ret (.val (.bool (J9 l)))/\aa=σ:=by
 refine b8.anyw hCC pu_ pu_ (c7 (qO Tryz.func57 ?_)) σ;refine d1U ?_;refine qC ?_ ?_<;>intro h1
 .have ak:¬l.length<=16:=sm_ h1;refine c6 ?_;exact⟨_,rE1,_,_,J,J,j4 (by rw[J9,a1S ak];rfl)⟩
 .have ak:l.length<=16:=sm_ h1;refine W b9E ?_;refine j8 hCC (α:=Nat) (λi=>[(1,.ptr 0 0),(10,(.list (l.map Va.cv) nn none)),(11,iv l.length),(12,iv i)]) (λ_=>[.box (E7 l nn)]) (λi=>i<=l.length/\J9 l=evB (prv l i) (l.drop i)) (λi=>l.length -i) 0 ⟨n_4 _,by rw[J9,a1B ak];rfl⟩ tu_ (ai:=[]) J z8 uz_ ?_;intro i ⟨hi,hr⟩;refine qk (qC ?_ ?_)<;> intro h2
  .have ab:(i:Int)<l.length:=I h2;obtain⟨y,hb⟩:=gx_ l i;obtain⟨p,hp⟩:=b6m (l:=l) (i:=i) X;have fL:0<i->l[i-1]?=some p:=λh=>(hp h).2;rw[b9w hb]at hr;refine b4r ?_;refine cW 26 ?_;refine d8V ?_;refine hY (c4 J c67 ⟨O,O⟩ (a14 y.n _) J) ?_;refine hY d3y ?_;refine hY A8 ?_;refine d0p ?_;refine L1 J J O J (λhg=>c4 J Tryz.call104 ⟨hg,O⟩ (b7r y.v _) J) ?_;refine L1 J J O J a29 ?_;refine hY S6 ?_;refine hY A8 ?_;refine L1 J J O J D4 ?_;refine L1 J J O J a6P ?_;refine L1 J J O J b0i ?_;refine e1h ?_;refine e2S ?_;refine d7X ?_;refine a5y J J (λh=>h) J (λhk hg=>p9 J ⟨hk,hg⟩ ⟨hk,hg⟩ J J c0u b7n c4C (j1 (hp (by change (_:Bool)=_ at hk;simp at hk hg;omega)).1) J) ?_;refine e18 ?_;refine d7k ?_;refine hY S6 ?_;refine W1 ?_;refine qC ?_ ?_<;>intro h3
   .have u3:a0p (prv l i) y=false:=by rw[a0p,a0i fL,c4t];rw[h3];rfl
    rw[u3,Bool.false_and]at hr;exact d7C
   .have u3:a0p (prv l i) y=true:=by rw[a0p,a0i fL,c4t];rw[h3];rfl
    rw[u3,a9O]at hr;exact b2F
  .exact d7U
def P3(l:List Va)(s:U):Option Int:=(l.find? λv=>decide (v.n=s)).map Va.v
theorem b5F{l:List Va}{v:Va}(h:l[i]?=some v)(s:U):P3 (l.drop i) s=if v.n=s then some v.v else P3 (l.drop (i+1)) s:=by
 obtain⟨ab,rfl⟩:=n_3.1 h;rw[R0 ab];unfold P3;rw[b9B];by_cases hh:l[i].n=s
 .simp [hh]
 .simp [hh]
theorem b3F(l:List Va)(nn:Bool)(s:U)(hl:l.length<=1000000000)(σ:List b9):b8 CC 112 [.agg (E7 l nn),(sv s)] σ λr aa=>r= .ret (.tup [(iv ((P3 l s).getD 0)),(.val (.bool ((P3 l s).isSome)))])/\aa=σ:=by
 refine b8.anyw hCC pu_ pu_ (c7 (qO Tryz.func112 ?_)) σ;refine qD (I0 J O j3 j5 ?_);refine e1V ?_;intro i ⟨hi,hr⟩;refine qk (qC ?_ ?_)<;> intro h1
 .have ab:(i:Int)<l.length:=I h1;obtain⟨y,hb⟩:=gx_ l i;rw[b5F hb]at hr;refine b4r ?_;refine W a8q ?_;refine qC ?_ ?_<;>intro h2
  .have u2:y.n=s:=I h2;rw[F u2]at hr;exact d8d
  .have u2:¬y.n=s:=I h2;rw[D u2]at hr;exact b2F
 .have aF:l.length<=i:=sm_ h1;rw[T6 aF]at hr;exact d8Z
structure Nm where
 k:Int
 p:U
 o:U
deriving DecidableEq
abbrev Nm.cells(x:Nm):List CV:=[iv x.k,sv x.p,sv x.o]
def Nm.kc(x:Nm):CV:=.agg x.cells
def Nm.kv(x:Nm):Value:=.agg #[.int .i64 x.k,.string (str x.p),.string (str x.o)]
theorem Nm.pure(x:Nm):r5 x.kc:=r6 ⟨.val _,.val _,.val _,O⟩
def F1(k:Int)(p o:U):Nm:=⟨k,if k=3 then []else p,o⟩
theorem e1P(x y:Nm):∀w,(Op.equal 175 x.kv y.kv).run CC.P w= .ok (decide (x=y)) w:=by
 intro w;show(Op.equal _ _ _).run Tryz.prog w=_;simp[Op.equal,Op.maxDepth,go_sem,Nm.kv,a0m];obtain⟨a,b,c⟩:=x;obtain⟨a',b',c'⟩:=y;by_cases h1:a=a'<;>by_cases h2:b=b'<;>by_cases h3:c=c'<;>simp[h1,h2,h3]
theorem e2N{M:B2}{w:World}{x:Nm}{v:Value}(h:RV M w x.kc v):v=x.kv:=a3Z (l:=[.int .i64 x.k,.string (str x.p),.string (str x.o)]) h
theorem d9S{M:B2}{w:World}(x:Nm):RV M w x.kc x.kv:=by
 refine .agg J (λc hc=>?_) λi c hc=>?_
 .simp at hc
  rcases hc with rfl|rfl|rfl<;>rfl
 .rcases i with _|_|_|i
  .injection hc with hc;subst hc;exact .val _
  .injection hc with hc;subst hc;exact .val _
  .injection hc with hc;subst hc;exact .val _
  .cases hc
theorem c9h:d3T (α:=Nm) CC.P 175 Nm.kc Nm.kv where
 rv _ _ _ _ h:=e2N h
 rv' _ _ a:=d9S a
 check b a w:=by
  have:∀n,(Instr.checkKey b (n+2) 175 a.kv).run Tryz.prog w= .ok () w:=λn=>by simp[Instr.checkKey,Nm.kv,go_sem]
  exact this 9998
 eq a b w:=e1P a b w
 now:=⟨_,d1j,λa b=>J⟩
 bits a:=by
  have:∀n,Instr.sameBits (n+2) a.kv a.kv=true:=λn=>by simp[Instr.sameBits,Nm.kv,b6i]
  exact this 9998
theorem d5s:W4 (α:=Nm) CC.P 175 Nm.kc Nm.kv:=c9h.find
theorem b8W(k:Int)(p o:U)(σ:List b9):b8 CC 133 [iv k,(sv p),(sv o)] σ λr aa=>r= .ret (.agg (F1 k p o).cells)/\aa=σ:=by
 refine b8.anyw hCC pu_ pu_ (c7 (qO Tryz.func133 ?_)) σ;refine qD (p7 J d2B J j5 ?_);refine qC ?_ ?_<;>intro h1
 .have u1:k=3:=I h1;refine d7j ?_;refine c6 ?_;exact⟨_,F2 J ⟨O,_,_,_,J,J,.inr ⟨_,c9F,b70,nb J,J⟩⟩,_,_,J,J,(by rw[F1,F u1];exact .old ((Nm.pure ⟨k,[],o⟩).old))⟩
 .have u1:¬k=3:=I h1;refine d7j ?_;refine c6 ?_;exact⟨_,F2 J ⟨O,_,_,_,J,J,.inr ⟨_,c9F,b70,nb J,J⟩⟩,_,_,J,J,(by rw[F1,D u1];exact .old ((Nm.pure ⟨k,p,o⟩).old))⟩
structure En where
 p:U
 o:U
 k:Int
 pl:U
 ix:Int
 ct:Int
deriving DecidableEq
variable{k:Int}
abbrev En.cells(x:En):List CV:=[sv x.p,sv x.o,iv x.k,sv x.pl,iv x.ix,iv x.ct]
abbrev En.z:En:=⟨[],[],0,[],0,0⟩
theorem En.pure(x:En):r5 (.agg x.cells):=r6 ⟨.val _,.val _,.val _,.val _,.val _,.val _,O⟩
def vcE(x:En):CV:=.agg x.cells
def vcS(x:Src):CV:=.agg x.cells
abbrev Src.z:Src:=⟨[],[],[]⟩
theorem a3M(x:Src):r5 (vcS x):=r6 x.pure
theorem a6x{z:Value}(d:β)(hd:I5 z=vc d)(o:Option β):(o.map vc).getD (I5 z)=vc (o.getD d):=by cases o<;>simp[hd]
theorem c9O{kc:α->CV}(hk:∀a,r5 (kc a))(hv:∀b,r5 (vc b))(n:Nat)(l:List (α×β)):I6 n (.map (gm kc vc l)):=λx hx=>by
 obtain⟨y,_,rfl⟩:=D5.1 hx;exact⟨(hk _).old,(hv _).old⟩
theorem a7g{kc:α->CV}(hk:∀a,r5 (kc a))(hv:∀b,r5 (vc b))(l:List (α×β)):I8 R (.map (gm kc vc l)) (.map (gm kc vc l)):=.map ⟨J,λi x x' h h'=>by
 rw[h]at h';injection h' with h';subst h'
 obtain⟨y,_,rfl⟩:=D5.1 (n_2 h);exact⟨.pure (hk _),.pure (hv _)⟩⟩
abbrev SM:=List (U×Src)
variable{ms:SM}
abbrev EM:=List (Nm×En)
variable{me:EM}
abbrev smO(m:SM):b9:=.map (gm sv vcS m)
abbrev emO(m:EM):b9:=.map (gm Nm.kc vcE m)
theorem a6o(s:U):r5 (sv s):=.val _
abbrev wbx(fl:List Fi)(nn va:Bool)(br:List U)(q1 q2 t:Nat):b9:=.box [.list (fl.map Fi.cv) nn none,.val (.bool va),.map q1,.list (br.map scv) (gnn br.length) (C3 br.length t),.map q2]
abbrev wst(fl:List Fi)(nn va:Bool)(br:List U)(ms:SM)(me:EM):List b9:=[wbx fl nn va br 1 2 3,smO ms,emO me,o5 br.length]
structure WAt(σ:List b9)(w q1 q2 t:Nat)(fl:List Fi)(nn va:Bool)(br:List U)(ms:SM)(me:EM):Prop where
 hw:σ[w]?=some (wbx fl nn va br q1 q2 t)
 hs:σ[q1]?=some (smO ms)
 he:σ[q2]?=some (emO me)
 ht:σ[t]?=some (o5 br.length)
 nd:b55 [w,q1,q2,t]
theorem b1G{b c d:Nat}(h:a≠b/\a≠c/\a≠d/\b≠c/\b≠d/\c≠d):b55 [a,b,c,d]:=λi j k h1 h2=>by
 obtain⟨h3,h4,h5,h6,h7,h8⟩:=h
 rcases i with _|_|_|_|i<;>rcases j with _|_|_|_|j<;>simp at h1 h2<;>omega
theorem b1e{t p1 p2 u:Nat}(h1:R q1 p1)(h2:R q2 p2)(h3:R t u):I8 R (wbx fl nn va br q1 q2 t) (wbx fl nn va br p1 p2 u):=
 .box (.cons (.pure (K6 _ _)) (.cons (.pure (.val _)) (.cons (.map h1) (.cons (by
  refine .list J (λi r r' h1 h2=>by rw[h1]at h2;injection h2 with h2;rw[h2]) (λi j r r' c c' h1 h2 h3 h4=>?_) ?_
  .rw [h1]at h2;injection h2 with h2;subst h2;rw[h3]at h4;injection h4 with h4;subst h4
   obtain⟨y,_,rfl⟩:=D5.1 (n_2 h1);have hm:=n_2 h3;simp[scv]at hm;subst hm;exact .pure (.val _)
  .cases hb:br.length with
   |zero=>exact .inl ⟨J,J⟩
   |succ m=>exact .inr ⟨t,u,J,J,h3⟩) (.cons (.map h2) .nil)))))
theorem b02{t:Nat}(h1:q1<L)(h2:q2<L)(h3:t<L):I6 L (wbx fl nn va br q1 q2 t):=z6 ⟨a1Y _ _ _,.val _,.map h1,.list (λi j r c h h'=>by
 obtain⟨y,_,rfl⟩:=D5.1 (n_2 h);have hm:=n_2 h';simp[scv]at hm;subst hm;exact .val _) (λk hk=>by
  cases hb:br.length with
  |zero=>rw[hb]at hk;cases hk
  |succ m=>rw[hb]at hk;injection hk with hk;omega),.map h2,O⟩
theorem a0j(n:Nat)(m:SM):I6 n (smO m):=c9O a6o a3M n m
theorem a0Q(n:Nat)(m:EM):I6 n (emO m):=c9O Nm.pure En.pure n m
theorem a3C(hτ:τ=wbx fl nn va br 1 2 3::smO ms::emO me::o5 br.length::rest)(hc:C6 4 [0,1,2,3] c c'):D2 4 τ (.ret c) (.ret c') (wst fl nn va br ms me):=by
 subst hτ;exact⟨[0,1,2,3],J,J,.ret hc,.inr ⟨_,J,.same J (b02 G G G)⟩,.inr ⟨_,J,.same J (a0j _ _)⟩,.inr ⟨_,J,.same J (a0Q _ _)⟩,.inr ⟨_,J,.same J D8⟩,O⟩
theorem d2p{t:Nat}(h:WAt σ w q1 q2 t fl nn va br ms me):∀(i k:Nat) (ob:b9),[w,q1,q2,t][i]?=some k->(wst fl nn va br ms me)[i]?=some ob->∃aL,[wbx fl nn va br q1 q2 t,smO ms,emO me,o5 br.length][i]?=some aL/\σ[k]?=some aL/\I8 (λi k=>[w,q1,q2,t][i]?=some k) ob aL:=λi k ob h1 h2=>by
 rcases i with _|_|_|_|i
 .injection h1 with h1;injection h2 with h2;subst h1 h2;exact⟨_,J,h.hw,b1e J J J⟩
 .injection h1 with h1;injection h2 with h2;subst h1 h2;exact⟨_,J,h.hs,a7g a6o a3M _⟩
 .injection h1 with h1;injection h2 with h2;subst h1 h2;exact⟨_,J,h.he,a7g Nm.pure En.pure _⟩
 .injection h1 with h1;injection h2 with h2;subst h1 h2;exact⟨_,J,h.ht,a0e _⟩
 .cases h1
theorem e21{f:FuncId}{c:α->CV}(ap:∀a∈args,r5 a)(hc:∀a,r5 (c a))
 (h:b8 CC f (.ptr 0 0::args) (wst fl nn va br ms me) λr τ=>∃a,D2 4 τ r (.ret (c a)) (wst fl nn va br ms me)/\P a){σ:List b9}{w q1 q2 t:Nat}(ao:WAt σ w q1 q2 t fl nn va br ms me):b8 CC f (.ptr w 0::args) σ λr τ=>∃a,r= .ret (c a)/\τ=σ/\P a:=
 b2b [w,q1,q2,t] hCC J ao.nd (d2p ao) (.cons (.ptr J) (L9 ap)) (λa _=>hc a) (G5 hCC (h.mono λ_ _ ⟨a,h1,h2⟩=>⟨_,_,h1,a,J,J,h2⟩))
theorem b5R{f:FuncId}(ap:∀a∈args,r5 a)(hc:r5 c)
 (h:b8 CC f (.ptr 0 0::args) (wst fl nn va br ms me) λr τ=>D2 4 τ r (.ret c) (wst fl nn va br ms me)){σ:List b9}{w q1 q2 t:Nat}(ao:WAt σ w q1 q2 t fl nn va br ms me):b8 CC f (.ptr w 0::args) σ λr τ=>r= .ret c/\τ=σ:=
 (e21 (α:=Unit) (c:=λ_=>c) (P:=λ_=>True) ap (λ_=>hc) (h.mono λ_ _ hh=>⟨(),hh,O⟩) ao).mono λ_ _ ⟨_,h1,h2,_⟩=>⟨h1,h2⟩
def a3e(me:EM)(x:En):EM:=V8 me (F1 x.k x.p x.o) (match glk me (F1 x.k x.p x.o)with|some f=>{f with ct:=f.ct+1} |none=>x)
def a0q(va:Bool)(me:EM)(k:Int)(p o:U):En:=if va=true then(match glk me (F1 k p o)with|some x=>x|none=>⟨(F1 k p o).p,o,k,[],0,0⟩)else En.z
def C1(fl:List Fi)(s:U):Option U:=(fl.find? λf=>decide (f.p=s)).map Fi.b
theorem b1T{l:List Fi}{v:Fi}(h:l[i]?=some v)(s:U):C1 (l.drop i) s=if v.p=s then some v.b else C1 (l.drop (i+1)) s:=by
 obtain⟨ab,rfl⟩:=n_3.1 h;rw[R0 ab];unfold C1;rw[b9B];by_cases hh:l[i].p=s
 .simp [hh]
 .simp [hh]
theorem c6x(fl:List Fi)(nn va:Bool)(br:List U)(ms:SM)(me:EM)(x:En)(gk:∀k e,glk me k=some e->0<=e.ct/\e.ct<=1000000):b8 CC 103 [.ptr 0 0,.agg x.cells] (wst fl nn va br ms me) λr τ=>D2 4 τ r (.ret (.tup [])) (wst fl nn va br ms (a3e me x)):=by
 refine cO Tryz.func103 ?_;refine b58 ?_;refine b2t ?_;refine cY a9P ?_;refine cY a0R ?_;refine cY b45 ?_;refine cY W9 ?_;refine cY b45 ?_;refine cY W9 ?_;refine yc J Tryz.call133 D6 (b8W x.k x.p x.o _) ?_;refine d7P ?_;refine a85 ?_;refine d7r ?_;refine b3A ?_;refine chf J (c8 J b4g) ?_;refine chf J (c8 J b5o) ?_;refine chf J (c8 J b4T) ?_;refine chf J (c8 J e2D) ?_;refine chf J W7 ?_;refine chf J b38 ?_;refine chf J b38 ?_;refine C8 ?_;refine B0 J J J (p7 J b0E J j5 ?_);refine⟨⟨F4,a2a,(by exact c8 J b4g),(by exact c8 J b5o),(by exact c8 J b4T),(by exact c8 J e2D),F4,a9L,a9L,O⟩,?_⟩;refine d7J ?_;refine c1G ?_;refine z_4 ?_;refine w9 ?_;refine cC ?_ ?_<;>intro h1
 .obtain ⟨e,he⟩:∃e,glk me (F1 x.k x.p x.o)=some e:=b8M.1 h1;have aO:=gk _ _ he;rw[he];have hle2:0<=((some e).getD En.z).ct/\((some e).getD En.z).ct<=1000000:=aO;refine z_0 ?_;refine cY c4G ?_;refine d5O ?_;refine G8 ?_;refine cY a9P ?_;refine cY a0R ?_;refine cY j9 ?_;refine cY a9P ?_;refine cD (j2 J O O J j3 t_1 (.inl J) J J (nb J) ?_);refine w9 ?_;refine cW 6 ?_;refine a5e ?_;refine hY b4g ?_;refine hY b5o ?_;refine hY b4T ?_;refine hY c4G ?_;refine a7k ?_;refine cD (o3 (vc:=vcE) (l:=me) (a:=(F1 x.k x.p x.o)) (b:={e with ct:=e.ct+1}) d5s (.inl rfl) O O trivial rfl rfl rfl b9Z rfl ?_);refine w9 ?_;exact⟨_,rE0,(by have ha:a3e me x=V8 me (F1 x.k x.p x.o) {e with ct:=e.ct+1}:=(by rw[a3e,he]);exact a3C (by rw[ha];rfl) (.old (Old.tup (λi c h=>by cases h))))⟩
 .have he:glk me (F1 x.k x.p x.o)=none:=I h1;refine C2 ?_;refine cW 6 ?_;refine a5e ?_;refine hY b4g ?_;refine hY b5o ?_;refine hY b4T ?_;refine hY c4G ?_;refine a7k ?_;refine cD (o3 (vc:=vcE) (l:=me) (a:=(F1 x.k x.p x.o)) (b:=x) d5s (.inl J) O O trivial J J J b9Z J ?_);refine w9 ?_;exact⟨_,rE0,(by have ha:a3e me x=V8 me (F1 x.k x.p x.o) x:=(by rw[a3e,he]);exact a3C (by rw[ha];rfl) (.old (Old.tup (λi c h=>by cases h))))⟩
theorem d0R(fl:List Fi)(nn va:Bool)(br:List U)(ms:SM)(me:EM)(k:Int)(p o:U):b8 CC 90 [.ptr 0 0,iv k,(sv p),(sv o)] (wst fl nn va br ms me) λr τ=>D2 4 τ r (.ret (.agg (a0q va me k p o).cells)) (wst fl nn va br ms me):=by
 refine cO Tryz.func90 ?_;refine z_0 ?_;refine cD (p7 J b0E J j5 ?_);refine a85 ?_;refine a61 ?_;refine cY (j7 J O J c1z J c3k G) ?_;refine cY (o6 J O J c31 J J) ?_;refine b5A ?_;refine cC ?_ ?_<;>intro h1
 .have hv:va=false:=I h1;refine z_0 ?_;refine cY (B4 #[(0,1),(1,1),(2,1),(3,1),(4,1),(5,1)] J O b7x b0E J ⟨_,J⟩ (λw=>by kernel_rfl) J J) ?_;refine d5O ?_;refine c6 ?_;exact⟨_,F2 J c34,(by rw[a0q,D (by rw[hv];decide)];exact a3C J (.old (c:=.agg En.z.cells) (En.pure _).old))⟩
 .have hv:va=true:=I h1;refine C2 ?_;refine a78 ?_;refine cY A8 ?_;refine yc J Tryz.call133 D6 (b8W k p o _) ?_;refine d7P ?_;refine a85 ?_;refine d7r ?_;refine b3A ?_;refine chf J (c8 J b4g) ?_;refine chf J (c8 J b5o) ?_;refine chf J (c8 J b4T) ?_;refine chf J (c8 J e1S) ?_;refine chf J W7 ?_;refine chf J b38 ?_;refine chf J b38 ?_;refine C8 ?_;refine B0 J J J (p7 J b0E J j5 ?_);refine⟨⟨F4,a2a,(by exact c8 J b4g),(by exact c8 J b5o),(by exact c8 J b4T),(by exact c8 J e1S),F4,a9L,a9L,O⟩,?_⟩;refine d7J ?_;refine c1G ?_;refine z_4 ?_;refine w9 ?_;refine cC ?_ ?_<;>intro h2
  .obtain ⟨e,he⟩:∃e,glk me (F1 k p o)=some e:=b8M.1 h2;rw[he];refine z_0 ?_;refine cY c4G ?_;refine d5O ?_;refine c6 ?_;exact⟨_,F2 J c34,(by rw[a0q,F hv,he];exact a3C J (.old (c:=.agg e.cells) (En.pure _).old))⟩
  .have he:glk me (F1 k p o)=none:=I h2;refine C2 ?_;refine z_0 ?_;refine cY (j7 J O J d1j J t_0 G) ?_;refine cY W9 ?_;refine cY A8 ?_;refine cY A8 ?_;refine cY e1E ?_;refine d5O ?_;refine c6 ?_;exact⟨_,F2 J c34,(by rw[a0q,F hv,he];exact a3C J (.old (c:=.agg (⟨(F1 k p o).p,o,k,[],0,0⟩:En).cells) (En.pure _).old))⟩
theorem d3z(fl:List Fi)(nn va:Bool)(br:List U)(ms:SM)(me:EM)(s:U)(cP:fl.length<=1000000):b8 CC 110 [.ptr 0 0,(sv s)] (wst fl nn va br ms me) λr τ=>D2 4 τ r (.ret (.tup [sv ((C1 fl s).getD []),.val (.bool (C1 fl s).isSome)])) (wst fl nn va br ms me):=by
 refine qO Tryz.func110 ?_;refine W a0E ?_;refine j8 hCC (α:=Nat) (λi=>[(1,(sv s)),(12,(.list (fl.map Fi.cv) nn none)),(13,iv fl.length),(14,iv i)]) (λ_=>(wst fl nn va br ms me)) (λi=>i<=fl.length/\C1 fl s=C1 (fl.drop i) s) (λi=>fl.length -i) 0 ⟨n_4 _,J⟩ tu_ (ai:=[]) J z8 uz_ ?_;intro i ⟨hi,hr⟩;refine qk (qC ?_ ?_)<;> intro h1
 .have ab:(i:Int)<fl.length:=I h1;obtain⟨y,hb⟩:=gx_ fl i;rw[b1T hb]at hr;refine b39 ?_;refine qC ?_ ?_<;>intro h2
  .have u2:y.p=s:=I h2;rw[F u2]at hr;refine c6 ?_;exact⟨_,r3 (rs:=[.tmp 4,.tmp 5]) (cs:=[_,_]) J T8 (n_5 J),(by rw[hr];exact a3C J (.old (c:=.tup [sv y.b,.val (.bool true)]) (r5.old (.tup (λc hc=>by simp at hc;rcases hc with rfl|rfl<;>exact .val _)))))⟩
  .have u2:¬y.p=s:=I h2;rw[D u2]at hr;exact b2F
 .have aF:fl.length<=i:=sm_ h1;rw[T6 aF]at hr;refine z_9 ?_;exact⟨_,r3 (rs:=[.tmp 4,.tmp 5]) (cs:=[_,_]) J T8 (n_5 J),(by rw[hr];exact a3C J (.old (c:=.tup [sv [],.val (.bool false)]) (r5.old (.tup (λc hc=>by simp at hc;rcases hc with rfl|rfl<;>exact .val _)))))⟩
def addDs(me:EM)(path pkg:U):List De->Nat->EM
 | [],_=>me
 |d::ds,k=>addDs (a3e me ⟨pkg,d.name,d.k,path,(k:Int),1⟩) path pkg ds (k+1)
abbrev WS:=List U×SM×EM
def a0w(s:WS)(f:Fi):WS:=if a4T f.p=true then(match Q8 f.b with|none=>(s.1++[f.p],s.2.1,s.2.2)|some x=>(s.1,V8 s.2.1 f.p x,addDs s.2.2 f.p x.pkg x.decls 0))else s
def a8d(fl:List Fi)(s:WS):WS:=fl.foldl a0w s
def A5(fl:List Fi):WS:=if x8 fl=0 then a8d fl ([],[],[])else([],[],[])
def CtB(n:Nat)(me:EM):Prop:=∀k e,glk me k=some e->0<=e.ct/\e.ct<=(n:Int)
theorem CtB.add(h:CtB n me){x:En}(hx:x.ct=1):CtB (n+1) (a3e me x):=λk e he=>by
 rw[a3e,Q1]at he;split at he
 .injection he with he
  subst he;cases hg:glk me (F1 x.k x.p x.o)with
  |none=>simp only;omega
  |some f=>have:=h _ _ hg;simp only;omega
 .have:=h _ _ he;omega
theorem CtB.nil(n:Nat):CtB n []:=λk e h=>by cases h
theorem CtB.mono(h:CtB n me)(bN:n<=m):CtB m me:=λk e he=>by have:=h k e he;omega
theorem a7u{path pkg:U}{l:List De}{k:Nat}{d:De}(h:l[k]?=some d):addDs me path pkg (l.drop k) k=addDs (a3e me ⟨pkg,d.name,d.k,path,(k:Int),1⟩) path pkg (l.drop (k+1)) (k+1):=by
 obtain⟨ab,rfl⟩:=n_3.1 h;rw[R0 ab,addDs]
theorem c6s{l:List Fi}{f:Fi}(h:l[i]?=some f)(s:WS):a8d (l.drop i) s=a8d (l.drop (i+1)) (a0w s f):=by
 obtain⟨ab,rfl⟩:=n_3.1 h;unfold a8d;rw[R0 ab,b3p]
theorem c5B:∀{pv:Option Fi} {l:List Fi},rvE pv l=0->∀f∈l,I1 f.p=true/\f.b.length<=16384
 |_,[],_,f,h=>by cases h
 |pv,x::l,h0,f,h=>by
  rw[rvE]at h0;split at h0
  .rename_i hs
   rcases J0.1 h with rfl|h
   .unfold L6 at hs;split at hs
    .cases hs
    .rename_i hp;split at hs
     .cases hs
     .split at hs
      .cases hs
      .split at hs
       .cases hs
       .exact ⟨I hp,X⟩
   .exact c5B h0 f h
  .rename_i hs;exact absurd h0 hs
theorem X5{l:List Fi}(h:x8 l=0):l.length<=64/\∀f∈l,I1 f.p=true/\f.b.length<=16384:=by
 unfold x8 at h;split at h
 .cases h
 .exact ⟨X,c5B h⟩
theorem b2D:∀(f:Nat) {T:List Tok} {n:Nat} {l:List De} {x:List De×Nat},U5 f T n l=some x->x.1.length+1<=l.length+f
 |0,T,n,l,x,h=>by cases h
 |f+1,T,n,l,x,h=>by
  rw[U5]at h;split at h
  .injection h with h;subst h;simp only;omega
  .cases hd:a01 T l n with
   |none=>rw[hd]at h;cases h
   |some y=>
    rw[hd,n_9]at h;have:=b2D f h;rw[n_6,b6x]at this;omega
theorem b4h{x:Src}(h:a1r T=some x):x.decls.length<=64:=by
 unfold a1r at h;cases h1:pIs T 0 1 [112,97,99,107,97,103,101]with
 |none=>rw[h1]at h;cases h
 |some n1=>
  rw[h1,n_9]at h;cases h2:K8 T n1 with
  |none=>rw[h2]at h;cases h
  |some w=>
   rw[h2,n_9]at h;cases h3:pIs T w.2 4 [59]with
   |none=>rw[h3]at h;cases h
   |some n2=>
    rw[h3,n_9]at h;cases h4:a1K 9 T w.1.t n2 []with
    |none=>rw[h4]at h;cases h
    |some y=>
     rw[h4,n_9]at h;cases h5:U5 65 T y.2 []with
     |none=>rw[h5]at h;cases h
     |some z=>
      rw[h5,n_9]at h;injection h with h
      subst h;have:=b2D _ h5;simp only[J6]at this⊢;omega
theorem c1A{s:U}{x:Src}(h:Q8 s=some x):x.decls.length<=64:=by
 unfold Q8 at h;cases h1:a3v s with
 |none=>rw[h1]at h;cases h
 |some T=>rw[h1,n_9]at h;exact b4h h
theorem d2E{t:Nat}(ao:WAt σ w q1 q2 t fl nn va br ms me)(x:En)(gk:∀k e,glk me k=some e->0<=e.ct/\e.ct<=1000000):b8 CC 103 [.ptr w 0,.agg x.cells] σ λr τ=>∃_:Unit,r= .ret (.tup [])/\τ=b0U σ [w,q1,q2,t] [wbx fl nn va br q1 q2 t,smO ms,emO (a3e me x),o5 br.length]/\True:=
 a7P (α:=Unit) (obs:=wst fl nn va br ms me) (res:=λ_=>.ret (.tup [])) (res':=λ_=>.ret (.tup [])) (S:=λ_=>wst fl nn va br ms (a3e me x)) (S':=λ_=>[wbx fl nn va br q1 q2 t,smO ms,emO (a3e me x),o5 br.length]) (P:=λ_=>True) [w,q1,q2,t] hCC J ao.nd (λi k ob h1 h2=>by
  obtain⟨aL,_,h3,h4⟩:=d2p ao i k ob h1 h2;exact⟨aL,h3,h4.symm λ_ _ h=>h⟩) (.cons (.ptr J) (L9 λa ha=>by simp at ha;subst ha;exact En.pure x)) (G5 hCC ((c6x fl nn va br ms me x gk).mono λr τ h=>⟨_,_,h,(),J,J,O⟩)) a0b (λ_ i k y h1 h2=>by
  rcases i with _|_|_|_|i
  .injection h2 with h2;subst h2;exact⟨_,J,b1e J J J⟩
  .injection h2 with h2;subst h2;exact⟨_,J,a7g a6o a3M _⟩
  .injection h2 with h2;subst h2;exact⟨_,J,a7g Nm.pure En.pure _⟩
  .injection h2 with h2;subst h2;exact⟨_,J,a0e _⟩
  .cases h2) λ_=>.ret (.pure (D7 trivial))
theorem d4a(fl:List Fi)(nn:Bool)(hl:∀f∈fl,f.p.length<=1000000000):b8 CC 56 [.agg (o4 fl nn)] [] λr τ=>D2 0 τ r (.ret (.ptr 0 0)) (wst fl nn (x8 fl == 0) (A5 fl).1 (A5 fl).2.1 (A5 fl).2.2):=by
 refine cO Tryz.func56 ?_;refine b3E ?_;refine a6m hCC 1 J (α:=Unit) (λ_=>[(1,.ptr 0 0),(3,.ptr 3 0)]) (λ_=>[.box (o4 fl nn),.map [],.map [],.box [.list (fl.map Fi.cv) nn none,.val (.bool (x8 fl == 0)),.map 1,.list [] false none,.map 2]]) (λ_=>True) ?_ λ_ _=>?_
 .refine b6J [0,0,2,6,0,0,63,127,255] [0,1,2,3] (f:=5) l8 l8 J ?_;refine chf J a2l ?_;refine chf J a2l ?_;refine chf J (c8 J c4n) ?_;refine chf J (c8 J a0d) ?_;refine C8 ?_;refine c6v (i:=4) (i':=5) l8 J J J J (V3 J ?_) (V3 J ?_)
  .refine ⟨⟨λ_=>by exact c8 J T1,λ_=>by exact c8 J T1,λ_=>by exact c8 J c4n,λ_=>by exact c8 J a0d,O⟩,?_⟩;refine a6N (i:=5) l8 J J (V3 J ?_);refine d8x ?_;refine d7Y ?_;refine e0u (i:=8) l8 J b97 ?_;exact⟨by kernel_rfl,(),[0,1,2,3],O,⟨J,J⟩,⟨a4Q,a4Q,O⟩,.inr ⟨_,J,.same J K3⟩,.inr ⟨_,J,.same J (λx hx=>by cases hx)⟩,.inr ⟨_,J,.same J (λx hx=>by cases hx)⟩,.inr ⟨_,J,.box ⟨.old a3H,.old (.val _),.map J,.old a2T,.map J,O⟩⟩,O⟩
  .refine ⟨⟨λ_=>by exact c8 J T1,λ_=>by exact c8 J T1,λ_=>by exact c8 J c4n,λ_=>by exact c8 J a0d,O⟩,?_⟩;refine a6N (i:=4) l8 J J (V3 J ?_);refine d8x ?_;refine d7Y ?_;refine e0u (i:=8) l8 J b97 ?_;exact⟨by kernel_rfl,(),[0,2,1,3],O,⟨J,J⟩,⟨a4Q,a4Q,O⟩,.inr ⟨_,J,.same J K3⟩,.inr ⟨_,J,.same J (λx hx=>by cases hx)⟩,.inr ⟨_,J,.same J (λx hx=>by cases hx)⟩,.inr ⟨_,J,.box ⟨.old a3H,.old (.val _),.map J,.old a2T,.map J,O⟩⟩,O⟩
 refine qk (qC ?_ ?_)<;> intro h1
 .have hv:¬x8 fl=0:=I h1;refine c6 ?_;exact⟨_,rE1,(by rw[A5,D hv];exact⟨[3,1,2,9],J,J,.ret (.ptr J),.inr ⟨_,J,.box ⟨.old a3H,.old (.val _),.map J,.old a2T,.map J,O⟩⟩,.inr ⟨_,J,.same J (a0j _ _)⟩,.inr ⟨_,J,.same J (a0Q _ _)⟩,.inl J,O⟩)⟩
 .have hv:x8 fl=0:=I h1;obtain⟨cP,hfa⟩:=X5 hv;have ah:A5 fl=a8d fl ([],[],[]):=by rw[A5,F hv]
  refine W a0E ?_;refine A2 hCC 4 J (α:=Nat×WS) (λx=>[(3,.ptr 3 0),(26,(.list (fl.map Fi.cv) nn none)),(27,iv fl.length),(28,iv x.1)]) (λx=>[.box (o4 fl nn),smO x.2.2.1,emO x.2.2.2,wbx fl nn (x8 fl == 0) x.2.1 1 2 4,o5 x.2.1.length]) (λx=>x.1<=fl.length/\x.2.1.length<=x.1/\CtB (64*x.1) x.2.2.2/\A5 fl=a8d (fl.drop x.1) x.2) (λx=>fl.length -x.1) ⟨(0,[],[],[]),[0,1,2,3,9],⟨n_4 _,n_4 _,CtB.nil _,ah⟩,⟨J,J⟩,ut_,⟨.inr ⟨_,J,.same J K3⟩,.inr ⟨_,J,.same J (a0j _ _)⟩,.inr ⟨_,J,.same J (a0Q _ _)⟩,.inr ⟨_,J,.box ⟨.old a3H,.old (.val _),.map J,.old a2T,.map J,O⟩⟩,.inl J,O⟩⟩ ?_;intro⟨i,br,ms,me⟩ ⟨hi,hbr,gk,hr⟩;dsimp only at hi hbr gk hr⊢;refine qk (qC ?_ ?_)<;> intro h2
  .have ab:(i:Int)<fl.length:=I h2;obtain⟨y,hb⟩:=gx_ fl i;have hy:=hfa y (n_2 hb);have dY:=hl y (n_2 hb);rw[c6s hb,a0w]at hr;refine b3N ?_;refine W (c4 J Tryz.call101 ⟨O,O⟩ (b31 y.p dY _) J) ?_;refine qC ?_ ?_<;>intro h3
   .have u3:¬a4T y.p=true:=I h3;rw[D u3]at hr;refine b6N ?_;exact⟨(i+1,br,ms,me),[0,1,2,3,4],⟨Q,Q,Q,gk.mono X,hr⟩,⟨J,J⟩,ut_,⟨.inr ⟨_,J,.same J K3⟩,.inr ⟨_,J,.same J (a0j _ _)⟩,.inr ⟨_,J,.same J (a0Q _ _)⟩,.inr ⟨_,J,.box ⟨.old a3H,.old (.val _),.map J,C6.grow (f:=scv) (λ_=>⟨.val _,O⟩) J,.map J,O⟩⟩,.inr ⟨_,J,.same J D8⟩,O⟩⟩
   .have u3:a4T y.p=true:=I h3;rw[F u3]at hr;refine qD (c5 J Tryz.call102 ⟨O,O⟩ (c8e y.b X _) J ?_);rintro⟨x,at_,e⟩ hP;dsimp only at hP⊢;refine c2N ?_;refine cC ?_ ?_<;>intro h4
    .have he:e≠0:=I h4;have cm:Q8 y.b=none:=by
      rcases hP with⟨_,_,g⟩|⟨g,_⟩
      .exact absurd g he
      .exact g
     rw[cm]at hr;simp only at hr;have eO:=X6 br y.p;refine qk ?_;refine cF [] [0,1,2,3,4,5,6,7] (tl:=[(8,[0]),(9,[]),(10,[]),(11,[])]) ?_;refine a7l ?_;refine chf J b8j ?_;refine chf J (c8 J (j7 J O J c1z J a2H G)) ?_;refine chf J d3q ?_;refine b5x ?_;refine chf J e1X ?_;refine C8 ?_;refine B0 J J J (A4 J O O J H q_5 t_2 t_0 a3p t_4 J (.inr J) K2 Z6 B7 ((br++[y.p]).map scv) (br++[y.p]).length H H ?_);refine d3Q ?_;refine E9 J J (c8 J (j7 J O J c1z J a2H G)) ⟨O,?_⟩;refine B0 J J J (j2 J O O J j3 a2H (.inl J) J J (nb J) ?_);refine a84 ?_;refine b6N ?_;exact⟨(i+1,br++[y.p],ms,me),[0,1,2,3,7],⟨Q,Q,Q,gk.mono X,hr⟩,⟨J,J⟩,ut_,⟨.inr ⟨_,J,.same J K3⟩,.inr ⟨_,J,.same J (a0j _ _)⟩,.inr ⟨_,J,.same J (a0Q _ _)⟩,.inr ⟨_,J,.box ⟨.old a3H,.old (.val _),.map J,C6.grow (f:=scv) (λ_=>⟨.val _,O⟩) J,.map J,O⟩⟩,.inr ⟨_,J,.same J D8⟩,O⟩⟩
    .have he:e=0:=I h4;have cm:Q8 y.b=some x:=by
      rcases hP with⟨g,_⟩|⟨_,_,g⟩
      .exact g
      .exact absurd he g
     rw[cm]at hr;simp only at hr;have eN:=c1A cm;refine qk ?_;refine cW 7 ?_;refine a5e ?_;refine hY b90 ?_;refine hY b9L ?_;refine hY c4F ?_;refine hY W9 ?_;refine hY c0f ?_;refine W1 ?_;refine qD (o3 (vc:=vcS) (l:=ms) (a:=y.p) (b:=x) c0H (.inl J) O O trivial J J J b8s J ?_);refine W a4S ?_;refine A2 hCC 7 J (α:=Nat×EM) (λz=>[(3,.ptr 3 0),(26,(.list (fl.map Fi.cv) nn none)),(27,iv fl.length),(28,iv i),(5,.ptr 5 0),(6,.ptr 6 0),(64,(.list (x.decls.map De.cv) (gnn x.decls.length) none)),(65,iv x.decls.length),(66,iv z.1)]) (λz=>[.box (o4 fl nn),smO (V8 ms y.p x),emO z.2,wbx fl nn (x8 fl == 0) br 1 2 4,o5 br.length,.box y.cells,.box x.cells]) (λz=>z.1<=x.decls.length/\CtB (64*i+z.1) z.2/\addDs me y.p x.pkg x.decls 0=addDs z.2 y.p x.pkg (x.decls.drop z.1) z.1) (λz=>x.decls.length -z.1) ⟨(0,me),[0,1,2,3,4,5,6],⟨n_4 _,gk,J⟩,⟨J,J⟩,ut_,⟨.inr ⟨_,J,.same J K3⟩,.inr ⟨_,J,.same J (a0j _ _)⟩,.inr ⟨_,J,.same J (a0Q _ _)⟩,.inr ⟨_,J,.box ⟨.old a3H,.old (.val _),.map J,C6.grow (f:=scv) (λ_=>⟨.val _,O⟩) J,.map J,O⟩⟩,.inr ⟨_,J,.same J D8⟩,.inr ⟨_,J,.same J b15⟩,.inr ⟨_,J,.same J b4n⟩,O⟩⟩ ?_;intro⟨k,me2⟩ ⟨hk,hct2,aX⟩;dsimp only at hk hct2 aX⊢;refine qk (qC ?_ ?_)<;> intro h5
     .have hkt:(k:Int)<x.decls.length:=I h5;obtain⟨d,hd⟩:=gx_ x.decls k;rw[a7u hd]at aX;refine b1Z ?_;refine W (B4 #[(0,1),(1,1),(2,1),(3,1),(4,1),(5,1)] J ⟨O,O,O,O,O,J,O⟩ b7x b0E J ⟨_,J⟩ (λw=>by kernel_rfl) J J) ?_;refine qD (c5 J Tryz.call103 i7 (d2E (w:=3) (q1:=1) (q2:=2) (t:=4) ⟨J,J,J,J,b1G G⟩ ⟨x.pkg,d.name,d.k,y.p,(k:Int),1⟩ (λa b h=>by have:=hct2 a b h;omega)) J ?_);rintro _ _;refine qN [.box (o4 fl nn),smO (V8 ms y.p x),emO (a3e me2 ⟨x.pkg,d.name,d.k,y.p,(k:Int),1⟩),wbx fl nn (x8 fl == 0) br 1 2 4,o5 br.length,.box y.cells,.box x.cells,.box d.cells] J (W j9 ?_);exact⟨(k+1,a3e me2 ⟨x.pkg,d.name,d.k,y.p,(k:Int),1⟩),[0,1,2,3,4,5,6],⟨Q,Q,(hct2.add J).mono X,aX⟩,⟨J,J⟩,ut_,⟨.inr ⟨_,J,.same J K3⟩,.inr ⟨_,J,.same J (a0j _ _)⟩,.inr ⟨_,J,.same J (a0Q _ _)⟩,.inr ⟨_,J,.box ⟨.old a3H,.old (.val _),.map J,C6.grow (f:=scv) (λ_=>⟨.val _,O⟩) J,.map J,O⟩⟩,.inr ⟨_,J,.same J D8⟩,.inr ⟨_,J,.same J b15⟩,.inr ⟨_,J,.same J b4n⟩,O⟩⟩
     .have hkt:x.decls.length<=k:=sm_ h5;rw[T6 hkt,addDs]at aX;refine b6N ?_;exact⟨(i+1,br,V8 ms y.p x,me2),[0,1,2,3,4],⟨Q,Q,Q,hct2.mono X,by rw[hr,aX]⟩,⟨J,J⟩,ut_,⟨.inr ⟨_,J,.same J K3⟩,.inr ⟨_,J,.same J (a0j _ _)⟩,.inr ⟨_,J,.same J (a0Q _ _)⟩,.inr ⟨_,J,.box ⟨.old a3H,.old (.val _),.map J,C6.grow (f:=scv) (λ_=>⟨.val _,O⟩) J,.map J,O⟩⟩,.inr ⟨_,J,.same J D8⟩,O⟩⟩
  .have aF:fl.length<=i:=sm_ h2;rw[T6 aF,a8d,List.foldl_nil]at hr;refine z_9 ?_;exact⟨_,rE1,(by rw[hr];exact⟨[3,1,2,4],J,J,.ret (.ptr J),.inr ⟨_,J,.box ⟨.old a3H,.old (.val _),.map J,C6.grow (f:=scv) (λ_=>⟨.val _,O⟩) J,.map J,O⟩⟩,.inr ⟨_,J,.same J (a0j _ _)⟩,.inr ⟨_,J,.same J (a0Q _ _)⟩,.inr ⟨_,J,.same J D8⟩,O⟩)⟩
abbrev e2U(fl:List Fi)(nn va:Bool)(br:List U)(ms:SM)(me:EM)(n:Nat):List b9:=[wbx fl nn va br (n+1) (n+2) (n+3),smO ms,emO me,o5 br.length]
theorem d3m(fl:List Fi)(nn:Bool)(hl:∀f∈fl,f.p.length<=1000000000)(σ:List b9):b8 CC 56 [.agg (o4 fl nn)] σ λr τ=>∃_:Unit,r= .ret (.ptr σ.length 0)/\τ=σ++e2U fl nn (x8 fl == 0) (A5 fl).1 (A5 fl).2.1 (A5 fl).2.2 σ.length/\True:=
 W8 (α:=Unit) hCC (λa ha=>by simp at ha;subst ha;exact r6 ⟨K6 _ _,O⟩) (res:=λ_=>.ret (.ptr 0 0)) (res':=λ_ n=>.ret (.ptr n 0)) (S:=λ_=>wst fl nn (x8 fl == 0) (A5 fl).1 (A5 fl).2.1 (A5 fl).2.2) (S':=λ_ n=>e2U fl nn (x8 fl == 0) (A5 fl).1 (A5 fl).2.1 (A5 fl).2.2 n) (P:=λ_=>True) (G5 hCC ((d4a fl nn hl).mono λr τ h=>⟨_,_,h,(),J,J,O⟩)) (λ_ _=>J) (λ_ n i x h=>by
  rcases i with _|_|_|_|i
  .injection h with h;subst h;exact⟨_,J,b1e J J J⟩
  .injection h with h;subst h;exact⟨_,J,a7g a6o a3M _⟩
  .injection h with h;subst h;exact⟨_,J,a7g Nm.pure En.pure _⟩
  .injection h with h;subst h;exact⟨_,J,a0e _⟩
  .cases h) (λ_ n=>.ret (.ptr J)) σ
theorem b8v(a:En):O0 a.cells:=⟨.val _,.val _,.val _,.val _,.val _,.val _,O⟩
theorem a5P(a:Ky):O0 (Ky.cv a):=⟨.val _,.val _,.val _,O⟩
theorem b9x(l:List En)(nn:Bool):r5 (.list (l.map En.cells) nn none):=P7 (f:=En.cells) b8v l nn
theorem c5P{Y:List (List CV)}(hp:∀r∈Y,∀c∈r,r5 c)(h:R s s'):R1 R (.list Y (gnn m) (C3 m s)) (.list Y (gnn m) (C3 m s')):=by
 refine .list J (λi r r' h1 h2=>by rw[h1]at h2;injection h2 with h2;rw[h2]) (λi j r r' c c' h1 h2 h3 h4=>?_) ?_
 .rw [h1]at h2;injection h2 with h2;subst h2;rw[h3]at h4;injection h4 with h4;subst h4
  exact .pure (hp r (n_2 h1) c (n_2 h3))
 .cases m with
  |zero=>exact .inl ⟨J,J⟩
  |succ m=>exact .inr ⟨s,s',J,J,h⟩
theorem a1U{f:FuncId}{g:β->List CV}{L:α->List β}(ap:∀a∈args,r5 a)(hp:∀b,O0 (g b))(h:b8 CC f args [] λr τ=>∃a,D2 0 τ r (.ret (.list ((L a).map g) (gnn (L a).length) (C3 (L a).length 0))) [o5 (L a).length]/\P a)(σ:List b9):
 b8 CC f args σ λr τ=>∃a,r= .ret (.list ((L a).map g) (gnn (L a).length) (C3 (L a).length σ.length))/\τ=σ++[o5 (L a).length]/\P a:=
 W8 (res:=λa=>.ret (.list ((L a).map g) (gnn (L a).length) (C3 (L a).length 0))) (res':=λa n=>.ret (.list ((L a).map g) (gnn (L a).length) (C3 (L a).length n))) (S:=λa=>[o5 (L a).length]) (S':=λa _=>[o5 (L a).length]) hCC ap (G5 hCC (h.mono λr τ ⟨a,h1,h2⟩=>⟨_,_,h1,a,J,J,h2⟩)) (λ_ _=>J) (λa n i x hx=>by
  rcases i with _|i
  .injection hx with hx;subst hx;exact⟨_,J,a0e _⟩
  .cases hx) (λa n=>.ret (c5P (λr hr c hc=>(C0 (f:=g) (λb=>O0.all (hp b)) _) r hr c hc) H)) σ
theorem d6C(fl:List Fi)(nn va:Bool)(br:List U)(ms:SM)(me:EM)(bR:me.length<=1000000):b8 CC 130 [.ptr 0 0] (wst fl nn va br ms me) λr τ=>∃l:List En,D2 4 τ r (.ret (.list (l.map En.cells) (gnn l.length) none)) [wbx fl nn va br 1 2 3,smO ms,.dead,o5 br.length]/\l.Perm (me.map Prod.snd):=by
 refine qO Tryz.func130 ?_;refine qD (b1a J O J b9Z J ?_);refine A2 hCC 5 J (α:=List (Nm×En)×List (Nm×En)×List En) (λx=>[(3,(.list (x.2.2.map En.cells) (gnn x.2.2.length) (C3 x.2.2.length 5))),(10,.ptr 4 0)]) (λx=>[wbx fl nn va br 1 2 3,smO ms,.dead,o5 br.length,.iter (gm Nm.kc vcE x.1) (gm Nm.kc vcE x.2.1),o5 x.2.2.length]) (λx=>(x.2.2++x.2.1.map Prod.snd).Perm (me.map Prod.snd)) (λx=>x.2.1.length) ⟨([],me,[]),[0,1,2,3,4,9],(List.Perm.refl _),⟨J,J⟩,ut_,uq_⟩ ?_;intro⟨aH,left,aw⟩ hp;dsimp only at hp⊢;have ba:=hp.length_eq;rw[n_6,L7,L7]at ba;refine qk (qD (b6b J O J J (λhz=>?_) (λi x hx=>?_)))
 .
  have dy:left=[]:=by
   cases left with
   |nil=>rfl
   |cons y l=>cases hz
  subst dy;refine qC ?_ ?_<;>intro h1
  .cases h1
  .rw [b4R,a0z]at hp;refine z_9 ?_;exact⟨_,rE1,⟨aw,⟨[0,1,2,3],J,J,.ret (H5 (f:=En.cells) b8v _),.inr ⟨_,J,.same J (b02 G G G)⟩,.inr ⟨_,J,.same J (a0j _ _)⟩,.inl J,.inr ⟨_,J,.same J D8⟩,O⟩,hp⟩⟩
 .
  obtain⟨⟨q,e⟩,hy,rfl⟩:=b6f hx;rw[a8D];have ab:=(n_3.1 hy).1;refine qC ?_ ?_<;>intro h2
  .refine W (b09 J O J J) ?_;refine d5G ?_;refine W (B1 [En.cells e] J ⟨O,O⟩ c3d b7b b0E J J J J J J J J J) ?_;refine qD (A4 J O O J H q_5 c3d b7b Tryz.typeInfo59 b0E J (.inr J) K2 (by have hb:Tryz.t59.bytes=72:=J;rw[hb];first|omega|(simp;done)|(simp;omega)) B7 ((aw++[e]).map En.cells) (aw++[e]).length H H ?_);exact⟨([(q,e)],left.eraseIdx i,aw++[e]),[0,1,2,3,4,7],⟨by dsimp only;rw[c41 ab];omega,(c0l hy).trans hp⟩,⟨J,J⟩,ut_,uq_⟩
  .cases h2
theorem b9d{t:Nat}(ao:WAt σ w q1 q2 t fl nn va br ms me)(bR:me.length<=1000000):b8 CC 130 [.ptr w 0] σ λr τ=>∃l:List En,r= .ret (.list (l.map En.cells) (gnn l.length) none)/\τ=b0U σ [w,q1,q2,t] [wbx fl nn va br q1 q2 t,smO ms,.dead,o5 br.length]/\l.Perm (me.map Prod.snd):=
 a7P (α:=List En) (obs:=wst fl nn va br ms me) (res:=λl=>.ret (.list (l.map En.cells) (gnn l.length) none)) (res':=λl=>.ret (.list (l.map En.cells) (gnn l.length) none)) (S:=λ_=>[wbx fl nn va br 1 2 3,smO ms,.dead,o5 br.length]) (S':=λ_=>[wbx fl nn va br q1 q2 t,smO ms,.dead,o5 br.length]) (P:=λl=>l.Perm (me.map Prod.snd)) [w,q1,q2,t] hCC J ao.nd (λi k ob h1 h2=>by
  obtain⟨aL,_,h3,h4⟩:=d2p ao i k ob h1 h2;exact⟨aL,h3,h4.symm λ_ _ h=>h⟩) (.cons (.ptr J) .nil) (G5 hCC ((d6C fl nn va br ms me bR).mono λr τ ⟨l,h,hp⟩=>⟨_,_,h,l,J,J,hp⟩)) a0b (λ_ i k y h1 h2=>by
  rcases i with _|_|_|_|i
  .injection h2 with h2;subst h2;exact⟨_,J,b1e J J J⟩
  .injection h2 with h2;subst h2;exact⟨_,J,a7g a6o a3M _⟩
  .injection h2 with h2;subst h2;exact⟨_,J,.dead⟩
  .injection h2 with h2;subst h2;exact⟨_,J,a0e _⟩
  .cases h2) λl=>.ret (.pure (b9x l _))
def O1(f:Fi):Ky:=⟨4,f.p,[]⟩
def a47(e:En):Ky:=if e.k=1 then⟨1,e.p,e.o⟩else if e.k=2 then⟨2,e.p,e.o⟩else⟨3,e.o,[]⟩
def a1j(s:U):List Ky:=[⟨6,s,[]⟩,⟨7,s,[]⟩]
def b14(x:Src):List Ky:=(x.pkg::x.imports).flatMap a1j
def KU(fl:List Fi):List Ky:=fl.map O1++((A5 fl).2.2.map Prod.snd).map a47++((A5 fl).2.1.map Prod.snd).flatMap b14
theorem d9M{es:List En}{ss:List Src}(he:es.Perm ((A5 fl).2.2.map Prod.snd))(hs:ss.Perm ((A5 fl).2.1.map Prod.snd))(k:Ky):k∈fl.map O1++es.map a47++ss.flatMap b14↔k∈KU fl:=by
 unfold KU;rw[J5,J5,J5,J5,(he.map a47).mem_iff,(hs.flatMap_right b14).mem_iff]
theorem d6f{l:List U}{s:U}(h:l[j]?=some s):(l.take (j+1)).flatMap a1j=(l.take j).flatMap a1j++a1j s:=by
 rw[a1H,h,List.flatMap_append];simp
theorem a3A{s:α}(h:l[j]?=some s)(g:α->β):(l.take (j+1)).map g=(l.take j).map g++[g s]:=by
 rw[a1H,h,a3j];rfl
theorem d2P(fl:List Fi)(nn:Bool)(cP:∀f∈fl,f.p.length<=1000000000)(hl:fl.length<=64)(hes:(A5 fl).2.2.length<=10000)(hss:(A5 fl).2.1.length<=64)(him:∀x∈(A5 fl).2.1,x.2.imports.length<=8):b8 CC 78 [.agg (o4 fl nn)] [] λr τ=>∃l:List Ky,D2 0 τ r (.ret (.list (l.map Ky.cv) (gnn l.length) (C3 l.length 0))) [o5 l.length]/\((∀k,k∈l↔k∈KU fl)/\l.length<=20000):=by
 refine qO Tryz.func78 ?_;refine qD (I0 J O j3 j5 ?_);refine qD (c5 J Tryz.call56 ⟨O,O⟩ (d3m fl nn cP _) J ?_);intro _ _;refine qN [.box (o4 fl nn),wbx fl nn (x8 fl == 0) (A5 fl).1 2 3 4,smO (A5 fl).2.1,emO (A5 fl).2.2,o5 (A5 fl).1.length] J (W a0E ?_);refine A2 hCC 5 J (α:=Nat×List Ky) (λa=>[(3,.ptr 1 0),(4,(.list (a.2.map Ky.cv) (gnn a.2.length) (C3 a.2.length 5))),(19,(.list (fl.map Fi.cv) nn none)),(20,iv fl.length),(21,iv a.1)]) (λa=>[.box (o4 fl nn),wbx fl nn (x8 fl == 0) (A5 fl).1 2 3 4,smO (A5 fl).2.1,emO (A5 fl).2.2,o5 (A5 fl).1.length,o5 a.2.length]) (λa=>a.1<=fl.length/\a.2=(fl.take a.1).map O1) (λa=>fl.length -a.1) ⟨(0,[]),[0,1,2,3,4,9],⟨n_4 _,J⟩,⟨J,J⟩,ut_,uq_⟩ ?_;intro⟨i,aw⟩ ⟨hi,ho⟩;dsimp only at hi ho⊢;have eQ:aw.length<=i:=by rw[ho,L7,a4Y];omega
 refine qk (qC ?_ ?_)<;> intro h1
 .have ab:i<fl.length:=sm_ h1;obtain⟨y,hb⟩:∃y,fl[i]?=some y:=⟨fl[i]'ab,H⟩;refine b3N ?_;refine W b3V ?_;refine W (B1 [Ky.cv (O1 y)] J ⟨O,O⟩ t_5 t_3 t_9 J J J J J J J J J) ?_;refine qD (A4 J O O J H q_5 t_5 t_3 a4r t_9 J (.inr J) K2 a03 B7 ((aw++[O1 y]).map Ky.cv) (aw++[O1 y]).length H H ?_);refine W j9 ?_;exact⟨(i+1,aw++[O1 y]),[0,1,2,3,4,7],⟨Q,Q,by dsimp only;rw[ho,a3A hb]⟩,⟨J,J⟩,ut_,uq_⟩
 .have cQ:i=fl.length:=sm_ h1;rw[cQ,R3 (n_7 _)]at ho;subst ho;have eN:(fl.map O1).length=fl.length:=L7 _;refine j6 ?_;refine qD (c5 J Tryz.call130 ⟨O,O⟩ (b9d (w:=1) (q1:=2) (q2:=3) (t:=4) ⟨J,J,J,J,b1G ⟨G,G,G,G,G,G⟩⟩ X) J ?_);intro es hp;have dR:=hp.length_eq;rw[L7]at dR;refine qN [.box (o4 fl nn),wbx fl nn (x8 fl == 0) (A5 fl).1 2 3 4,smO (A5 fl).2.1,.dead,o5 (A5 fl).1.length,o5 (fl.map O1).length] J (W (a0u J O J c3d a7W J) ?_);refine a13 hCC 6 J 5 4 (.list ((fl.map O1).map Ky.cv) (gnn (fl.map O1).length) (C3 (fl.map O1).length 6)) J O a9d (α:=Nat×List Ky) (λa=>[(3,.ptr 1 0),(4,(.list (a.2.map Ky.cv) (gnn a.2.length) (C3 a.2.length 6))),(33,(.list (es.map En.cells) (gnn es.length) none)),(34,iv es.length),(35,iv a.1)]) (λa=>[.box (o4 fl nn),wbx fl nn (x8 fl == 0) (A5 fl).1 2 3 4,smO (A5 fl).2.1,.dead,o5 (A5 fl).1.length,.dead,o5 a.2.length]) (λa=>a.1<=es.length/\a.2=fl.map O1++(es.take a.1).map a47) (λa=>es.length -a.1) ⟨(0,fl.map O1),[0,1,2,3,4,5,6],⟨n_4 _,H⟩,⟨J,J⟩,ut_,uq_⟩ ?_;intro⟨i,aw⟩ ⟨hi,ho⟩;dsimp only at hi ho⊢;have eQ:aw.length<=64+i:=by rw[ho,n_6,L7,L7,a4Y];omega
  refine qk (qC ?_ ?_)<;> intro h2
  .have ab:i<es.length:=sm_ h2;obtain⟨y,hb⟩:∃y,es[i]?=some y:=⟨es[i]'ab,H⟩;refine W (p9 J O O J J c3d b7b X (j1 hb) J) ?_;refine d5G ?_;refine qC ?_ ?_<;>intro h3
   .have bw:y.k=1:=I h3;have hek:a47 y=⟨1,y.p,y.o⟩:=F bw;refine W e0C ?_;refine W (B1 [Ky.cv (⟨1,y.p,y.o⟩:Ky)] J ⟨O,O⟩ t_5 t_3 t_9 J J J J J J J J J) ?_;refine qD (A4 J O O J H q_5 t_5 t_3 a4r t_9 J (.inr J) K2 a03 B7 ((aw++[(⟨1,y.p,y.o⟩:Ky)]).map Ky.cv) (aw++[((⟨1,y.p,y.o⟩:Ky):Ky)]).length H H ?_);refine W j9 ?_;exact⟨(i+1,aw++[(⟨1,y.p,y.o⟩:Ky)]),[0,1,2,3,4,5,8],⟨Q,Q,by dsimp only;rw[ho,a3A hb,hek,C7]⟩,⟨J,J⟩,ut_,uq_⟩
   .have bw:¬y.k=1:=I h3;refine qC ?_ ?_<;>intro h4
    .have bK:y.k=2:=I h4;have hek:a47 y=⟨2,y.p,y.o⟩:=(D bw).trans (F bK);refine W e0C ?_;refine W (B1 [Ky.cv (⟨2,y.p,y.o⟩:Ky)] J ⟨O,O⟩ t_5 t_3 t_9 J J J J J J J J J) ?_;refine qD (A4 J O O J H q_5 t_5 t_3 a4r t_9 J (.inr J) K2 a03 B7 ((aw++[(⟨2,y.p,y.o⟩:Ky)]).map Ky.cv) (aw++[((⟨2,y.p,y.o⟩:Ky):Ky)]).length H H ?_);refine W j9 ?_;exact⟨(i+1,aw++[(⟨2,y.p,y.o⟩:Ky)]),[0,1,2,3,4,5,8],⟨Q,Q,by dsimp only;rw[ho,a3A hb,hek,C7]⟩,⟨J,J⟩,ut_,uq_⟩
    .have bK:¬y.k=2:=I h4;have hek:a47 y=⟨3,y.o,[]⟩:=(D bw).trans (D bK);refine W b3V ?_;refine W (B1 [Ky.cv (⟨3,y.o,[]⟩:Ky)] J ⟨O,O⟩ t_5 t_3 t_9 J J J J J J J J J) ?_;refine qD (A4 J O O J H q_5 t_5 t_3 a4r t_9 J (.inr J) K2 a03 B7 ((aw++[(⟨3,y.o,[]⟩:Ky)]).map Ky.cv) (aw++[((⟨3,y.o,[]⟩:Ky):Ky)]).length H H ?_);refine W j9 ?_;exact⟨(i+1,aw++[(⟨3,y.o,[]⟩:Ky)]),[0,1,2,3,4,5,8],⟨Q,Q,by dsimp only;rw[ho,a3A hb,hek,C7]⟩,⟨J,J⟩,ut_,uq_⟩
  .have cQ:i=es.length:=sm_ h2;rw[cQ,R3 (n_7 _)]at ho;subst ho;have fR:(fl.map O1++es.map a47).length<=10064:=by rw[n_6,L7,L7];omega
   refine j6 ?_;refine qD (b1a J O J b8s J ?_);refine a13 hCC 8 J 6 4 (.list ((fl.map O1++es.map a47).map Ky.cv) (gnn (fl.map O1++es.map a47).length) (C3 (fl.map O1++es.map a47).length 8)) J O a9d (α:=List (U×Src)×List (U×Src)×List Src×List Ky) (λa=>[(4,(.list (a.2.2.2.map Ky.cv) (gnn a.2.2.2.length) (C3 a.2.2.2.length 8))),(72,.ptr 7 0)]) (λa=>[.box (o4 fl nn),wbx fl nn (x8 fl == 0) (A5 fl).1 2 3 4,.dead,.dead,o5 (A5 fl).1.length,.dead,.dead,.iter (gm sv vcS a.1) (gm sv vcS a.2.1),o5 a.2.2.2.length]) (λa=>(a.2.2.1++a.2.1.map Prod.snd).Perm ((A5 fl).2.1.map Prod.snd)/\a.2.2.2=(fl.map O1++es.map a47)++a.2.2.1.flatMap b14/\a.2.2.2.length<=10064+18*a.2.2.1.length) (λa=>a.2.1.length) ⟨([],(A5 fl).2.1,[],(fl.map O1++es.map a47)),[0,1,2,3,4,5,6,7,8],⟨List.Perm.refl _,H,I fR⟩,⟨J,J⟩,ut_,uq_⟩ ?_;intro⟨aH,left,done,aw⟩ ⟨hq,ho,eQ⟩;dsimp only at hq ho eQ⊢;have hql:=hq.length_eq;rw[n_6,L7,L7]at hql;refine qk (qD (b6b J O J J (λhz=>?_) (λi x hx=>?_)))
   .
    have dy:left=[]:=by
     cases left with
     |nil=>rfl
     |cons y l=>cases hz
    subst dy;refine qC ?_ ?_<;>intro h5
    .cases h5
    .rw [b4R,a0z]at hq;refine z_9 ?_;exact⟨_,rE1,⟨aw,⟨[8],J,J,.ret (C6.grow (f:=Ky.cv) (λ_=>⟨.val _,.val _,.val _,O⟩) J),.inr ⟨_,J,.same J D8⟩,O⟩,λk=>by rw[ho];exact d9M hp hq k,X⟩⟩
   .
    obtain⟨⟨q,x⟩,hy,rfl⟩:=b6f hx;rw[a8D];have ab:=(n_3.1 hy).1;have hxi:x.imports.length<=8:=by
     have h1:x∈done++left.map Prod.snd:=b7e _ (D5.2 ⟨_,n_2 hy,J⟩);obtain⟨z,bP,cL⟩:=D5.1 (hq.mem_iff.1 h1);exact cL▸him z bP
    refine qC ?_ ?_<;>intro h7
    .refine W (b09 J O J J) ?_;refine d8G ?_;refine qD (A4 (m:=1) J O O J J q_5 t_2 t_0 a3p t_4 J (.inr J) K2 Z6 B7 ((x.pkg::x.imports).map scv) (x.imports.length+1) J K5 ?_);refine W I7 ?_;refine a13 hCC 12 J 8 4 (.list (aw.map Ky.cv) (gnn aw.length) (C3 aw.length 12)) J O a9d (α:=Nat×List Ky) (λa=>[(4,(.list (a.2.map Ky.cv) (gnn a.2.length) (C3 a.2.length 12))),(72,.ptr 7 0),(82,(.list ((x.pkg::x.imports).map scv) (gnn (x.imports.length+1)) none)),(83,(iv ((x.pkg::x.imports).length:Int))),(84,iv a.1)]) (λa=>[.box (o4 fl nn),wbx fl nn (x8 fl == 0) (A5 fl).1 2 3 4,.dead,.dead,o5 (A5 fl).1.length,.dead,.dead,.iter (gm sv vcS [(q,x)]) (gm sv vcS (left.eraseIdx i)),.dead,.box x.cells,.dead,.dead,o5 a.2.length]) (λa=>a.1<=x.imports.length+1/\a.2=aw++((x.pkg::x.imports).take a.1).flatMap a1j/\a.2.length=aw.length+2*a.1) (λa=>x.imports.length+1-a.1) ⟨(0,aw),[0,1,2,3,4,5,6,7,8,9,10,11,12],⟨n_4 _,H,J⟩,⟨J,J⟩,ut_,uq_⟩ ?_;intro⟨j,o2⟩ ⟨hj,ho2,cb⟩;dsimp only at hj ho2 cb⊢;refine qk (qC ?_ ?_)<;> intro h8
     .have hjt:j< (x.pkg::x.imports).length:=by simp at h8⊢;omega
      obtain⟨s,hs⟩:∃s,(x.pkg::x.imports)[j]?=some s:=⟨(x.pkg::x.imports)[j]'hjt,H⟩;have hjt2:j<x.imports.length+1:=hjt;refine W c5v ?_;refine W b3V ?_;refine W b3V ?_;refine W (B1 ((a1j s).map Ky.cv) J i7 t_5 t_3 t_9 J J J J J J J J J) ?_;refine qD (A4 J O O J H q_5 t_5 t_3 a4r t_9 J (.inr J) K2 (by have hb:Tryz.t39.bytes=40:=J;rw[hb];(simp[a1j];omega)) (by simp[a1j];omega) ((o2++a1j s).map Ky.cv) (o2++a1j s).length (by rw[a3j]) (by rw[n_6];simp) ?_);refine W j9 ?_;exact⟨(j+1,o2++a1j s),[0,1,2,3,4,5,6,7,8,9,10,11,13],⟨Q,Q,by dsimp only;rw[d6f hs,ho2,C7],by dsimp only;rw[n_6];simp[a1j];omega⟩,⟨J,J⟩,ut_,uq_⟩
     .have hje:j=(x.pkg::x.imports).length:=by simp at h8⊢;omega
      rw[hje,R3 (n_7 _)]at ho2;have hje2:j=x.imports.length+1:=hje;refine j6 ?_;exact⟨([(q,x)],left.eraseIdx i,done++[x],o2),[0,1,2,3,4,5,6,7,12],⟨by dsimp only;rw[c41 ab];omega,(c0l hy).trans hq,by dsimp only;rw[ho2,ho,List.flatMap_append,C7];simp[b14],by dsimp only;rw[n_6];simp;omega⟩,⟨J,J⟩,ut_,uq_⟩
    .cases h7
theorem c5e(fl:List Fi)(nn:Bool)(cP:∀f∈fl,f.p.length<=1000000000)(hl:fl.length<=64)(hes:(A5 fl).2.2.length<=10000)(hss:(A5 fl).2.1.length<=64)(him:∀x∈(A5 fl).2.1,x.2.imports.length<=8)(σ:List b9):b8 CC 78 [.agg (o4 fl nn)] σ λr τ=>∃l:List Ky,r= .ret (.list (l.map Ky.cv) (gnn l.length) (C3 l.length σ.length))/\τ=σ++[o5 l.length]/\((∀k,k∈l↔k∈KU fl)/\l.length<=20000):=
 a1U (L:=λl=>l) (λa h=>by simp at h;subst h;exact r6 (cs:=o4 _ _) ⟨K6 _ _,O⟩) a5P (d2P fl nn cP hl hes hss him) σ
theorem a4B(l:List Fi)(nn:Bool)(σ:List b9):b8 CC 52 [.agg (o4 l nn)] σ λr aa=>r= .ret (iv (x8 l))/\aa=σ:=by
 refine b8.anyw hCC pu_ pu_ (c7 (qO Tryz.func52 ?_)) σ;refine qD (I0 J O j3 j5 ?_);refine W a0E ?_;refine qC ?_ ?_<;>intro h1
 .have ak:64<l.length:=sm_ h1;exact d8y
 .have ak:¬64<l.length:=sm_ h1;refine W a0E ?_;refine j8 hCC (α:=Nat) (λi=>[(1,.ptr 0 0),(10,(.list (l.map Fi.cv) nn none)),(11,iv l.length),(12,iv i)]) (λ_=>[.box (o4 l nn)]) (λi=>i<=l.length/\x8 l=rvE (prv l i) (l.drop i)) (λi=>l.length -i) 0 ⟨n_4 _,by rw[x8,D ak];rfl⟩ tu_ (ai:=[]) J z8 uz_ ?_;intro i ⟨hi,hr⟩;refine qk (qC ?_ ?_)<;> intro h2
  .have ab:(i:Int)<l.length:=I h2;obtain⟨y,hb⟩:=gx_ l i;obtain⟨p,hp⟩:=b6m (l:=l) (i:=i) X;have fL:0<i->l[i-1]?=some p:=λh=>(hp h).2;rw[b8I hb]at hr;refine b3N ?_;refine W (c4 J b9y ⟨O,O⟩ (a3X y.p _) J) ?_;refine qC ?_ ?_<;>intro h3
   .have u3:I1 y.p=false:=I h3;have us:L6 (prv l i) y=6:=by rw[L6,F u3]
    rw[us]at hr;exact c0V
   .have u3:¬I1 y.p=false:=I h3;refine cW 14 ?_;refine b79 ?_;refine hY A8 ?_;refine c4V ?_;refine c22 ?_;refine c3I ?_;refine c5b ?_;refine L1 J J O J b1X ?_;refine b5w ?_;refine qC ?_ ?_<;>intro h4
    .have u4:((prv l i).any λg=>decide (y.p=g.p))=true:=by rw[a0i fL];exact h4
     have us:L6 (prv l i) y=10:=by rw[L6,D u3,F u4]
     rw[us]at hr;exact c0V
    .have u4:¬((prv l i).any λg=>decide (y.p=g.p))=true:=by rw[a0i fL];simpa using h4
     refine cW 14 ?_;refine b79 ?_;refine hY A8 ?_;refine c4V ?_;refine c22 ?_;refine c3I ?_;refine c5b ?_;refine d0N ?_;refine W1 ?_;refine qC ?_ ?_<;>intro h5
     .have u5:((prv l i).any λg=>Op.bytesLess y.p g.p)=true:=by rw[a0i fL];exact h5
      have us:L6 (prv l i) y=6:=by rw[L6,D u3,D u4,F u5]
      rw[us]at hr;exact c0V
     .have u5:¬((prv l i).any λg=>Op.bytesLess y.p g.p)=true:=by rw[a0i fL];simpa using h5
      refine W R6 ?_;refine qC ?_ ?_<;>intro h6
      .have u6:16384<y.b.length:=sm_ h6;have us:L6 (prv l i) y=2:=by rw[L6,D u3,D u4,D u5,F u6]
       rw[us]at hr;exact c0V
      .have u6:¬16384<y.b.length:=sm_ h6;have us:L6 (prv l i) y=0:=by rw[L6,D u3,D u4,D u5,D u6]
       rw[us,F J]at hr;exact b2F
  .refine z_9 ?_;exact⟨_,rE1,_,_,J,J,C9 c9d⟩
theorem c7d(s:U):((I1 s&&decide ((s.length:Int) > 4))&&decide (((s.take s.length).drop (s.length -4))=[46,115,114,99]))=a4T s:=by
 rw[a4T,b2Z,a6K];by_cases h:(s.length:Int) > 4
 .have h4:([46,115,114,99]:U).length=4:=J;have h5:decide ((4:Nat)<=s.length)=true:=a1B X;rw[c1H,h4,h5,a9O]
 .rw [a1S h];rfl
theorem b3B(s:U)(hs:s.length<=1000000000)(σ:List b9):b8 CC 24 [(sv s)] σ λr aa=>r= .ret (.val (.bool (a4T s)))/\aa=σ:=by
 refine b8.anyw hCC pu_ pu_ (c7 (qO Tryz.func24 ?_)) σ;refine W (c4 J b9y ⟨O,O⟩ (a3X s _) J) ?_;refine a8a ?_;refine a4k ?_;refine a1y ?_;refine qG c5i ?_;refine qG c8P ?_;refine qG (λhg=>L8 (a:=(s.length -4)) J hg J t_7 ⟨hg,_,_,J,by first|omega|(simp at hg;omega),by first|omega|(simp at hg;omega)⟩ J (sm_ hg) (sm_ hg)) ?_;refine qG b3t ?_;refine b0D ?_;exact⟨_,rE1,_,_,J,J,j4 (c7d _)⟩
theorem a9n(l:List Fi)(nn:Bool)(p:U)(hl:l.length<=1000000)(σ:List b9):b8 CC 87 [.agg (o4 l nn),(sv p)] σ λr aa=>r= .ret (.tup [sv ((if x8 l=0 then C1 l p else none).getD []),.val (.bool (if x8 l=0 then C1 l p else none).isSome)])/\aa=σ:=by
 refine b8.anyw hCC pu_ pu_ (c7 (qO Tryz.func87 ?_)) σ;refine qD (I0 J O j3 j5 ?_);refine W (c4 J c4W ⟨O,O⟩ (a4B l nn _) J) ?_;refine qC ?_ ?_<;>intro h1
 .have h0:¬x8 l=0:=I h1;refine c6 ?_;exact⟨_,r3 (rs:=[.tmp 4,.tmp 5]) (cs:=[_,_]) J T8 (n_5 J),_,_,J,J,(by rw[D h0];exact .tups ⟨.old (.val _),.old (.val _),O⟩)⟩
 .have h0:x8 l=0:=I h1;refine W a0E ?_;refine j8 hCC (α:=Nat) (λi=>[(1,(sv p)),(12,(.list (l.map Fi.cv) nn none)),(13,iv l.length),(14,iv i)]) (λ_=>[.box (o4 l nn)]) (λi=>i<=l.length/\C1 l p=C1 (l.drop i) p) (λi=>l.length -i) 0 ⟨n_4 _,J⟩ tu_ (ai:=[]) J z8 uz_ ?_;intro i ⟨hi,hr⟩;refine qk (qC ?_ ?_)<;> intro h2
  .have ab:(i:Int)<l.length:=I h2;obtain⟨y,hb⟩:=gx_ l i;rw[b1T hb]at hr;refine b39 ?_;refine qC ?_ ?_<;>intro h3
   .have u2:y.p=p:=I h3;rw[F u2]at hr;refine c6 ?_;exact⟨_,r3 (rs:=[.tmp 4,.tmp 5]) (cs:=[_,_]) J T8 (n_5 J),_,_,J,J,(by rw[F h0,hr];exact .tups ⟨.old (.val _),.old (.val _),O⟩)⟩
   .have u2:¬y.p=p:=I h3;rw[D u2]at hr;exact b2F
  .have aF:l.length<=i:=sm_ h2;rw[T6 aF]at hr;refine z_9 ?_;exact⟨_,r3 (rs:=[.tmp 4,.tmp 5]) (cs:=[_,_]) J T8 (n_5 J),_,_,J,J,(by rw[F h0,hr];exact .tups ⟨.old (.val _),.old (.val _),O⟩)⟩
def tkE(e:Int)(m s:Nat):Option Nat:=if e=0 then C3 m s else none
def o9(e:Int)(m:Nat):b9:=if e=0 then o5 m else .dead
abbrev rbx(T:List Tok)(n:Nat)(at_ e:Int)(ps:List U)(b:List Ex)(s:Nat):b9:=.box [.list (T.map Tok.cv) true none,iv n,iv at_,iv e,.list (ps.map scv) (gnn ps.length) none,.list (b.map Ex.cv) (gnn b.length) (tkE e b.length s),.list [] false none]
abbrev rst(T:List Tok)(n:Nat)(at_ e:Int)(ps:List U)(b:List Ex):List b9:=[rbx T n at_ e ps b 1,o9 e b.length]
abbrev a69(T:List Tok)(n:Nat)(at_ e:Int)(ps:List U)(b:List Ex):List b9:=[rbx T n at_ e ps b 2,.dead,o9 e b.length]
theorem c7n(h:R s s'):R1 R (.list (b.map Ex.cv) (gnn b.length) (tkE e b.length s)) (.list (b.map Ex.cv) (gnn b.length) (tkE e b.length s')):=by
 refine .list J (λi r r' h1 h2=>by rw[h1]at h2;injection h2 with h2;rw[h2]) (λi j r r' c c' h1 h2 h3 h4=>?_) ?_
 .rw [h1]at h2;injection h2 with h2;subst h2;rw[h3]at h4;injection h4 with h4;subst h4
  exact .pure (C0 (f:=Ex.cv) (λa=>(Ex.pure a).all) _ r (n_2 h1) c (n_2 h3))
 .unfold tkE
  split
  .cases hb:b.length with
   |zero=>exact .inl ⟨J,J⟩
   |succ m=>exact .inr ⟨s,s',J,J,h⟩
  .exact .inl ⟨J,J⟩
theorem a8A(h:R s s'):I8 R (rbx T n at_ e ps b s) (rbx T n at_ e ps b s'):=
 .box (.cons (.pure (a3V _ _)) (.cons (.pure (.val _)) (.cons (.pure (.val _)) (.cons (.pure (.val _)) (.cons (.pure (F3 _ _)) (.cons (c7n h) (.cons (.pure (a0M [] false)) .nil)))))))
theorem a5O(e:Int)(m:Nat):I8 R (o9 e m) (o9 e m):=by
 unfold o9
 split
 .exact a0e m
 .exact .dead
def RAt(σ:List b9)(q s:Nat)(T:List Tok)(n:Nat)(at_ e:Int)(ps:List U)(b:List Ex):Prop:=σ[q]?=some (rbx T n at_ e ps b s)/\σ[s]?=some (o9 e b.length)/\q≠s
theorem a9f{f:FuncId}{c:α->CV}{A E:α->Int}{g:α->Bool}(ap:∀a∈args,r5 a)(hc:∀a,r5 (c a))
 (h:b8 CC f (.ptr 0 0::args) (rst T n at_ e ps b) λr τ=>∃a,D2 2 τ r (.ret (c a)) (if g a=true then a69 T (N a) (A a) (E a) ps (B a)else rst T (N a) (A a) (E a) ps (B a))/\P a){σ:List b9}{q s:Nat}(ao:RAt σ q s T n at_ e ps b):
 b8 CC f (.ptr q 0::args) σ λr τ=>∃a,r= .ret (c a)/\τ=(if g a=true then(σ.set q (rbx T (N a) (A a) (E a) ps (B a) σ.length)).set s .dead++[o9 (E a) (B a).length]else(σ.set q (rbx T (N a) (A a) (E a) ps (B a) s)).set s (o9 (E a) (B a).length))/\P a:=by
 obtain⟨h1,h2,h3⟩:=ao;have hq:=(n_3.1 h1).1;have hs:=(n_3.1 h2).1;have h':b8 CC f (.ptr 0 0::args) (rst T n at_ e ps b) λr τ=>∃a,r= .ret (c a)/\τ=(if g a=true then a69 T (N a) (A a) (E a) ps (B a)else rst T (N a) (A a) (E a) ps (B a))/\P a:=
  G5 hCC (h.mono λr τ ⟨a,k1,k2⟩=>⟨_,_,k1,a,J,J,k2⟩)
 refine I9 [q,s] hCC J (λi j k g1 g2=>?_) (λi k ob g1 g2=>?_) (.cons (.ptr J) (L9 ap)) h' λr τ hk=>?_
 .rcases i with _|_|i<;>rcases j with _|_|j<;>simp at g1 g2<;>first|rfl|(exfalso;exact h3 (g1.trans g2.symm))|(exfalso;exact h3 (g2.trans g1.symm))
 .rcases i with _|_|i
  .simp at g1 g2;subst g1 g2;exact⟨_,h1,a8A J⟩
  .simp at g1 g2;subst g1 g2;exact⟨_,h2,a5O _ _⟩
  .simp at g1
 .obtain ⟨a,rfl,rfl,hp⟩:=hk;refine⟨by split<;>simp,.ret (c a),(if g a=true then(σ.set q (rbx T (N a) (A a) (E a) ps (B a) σ.length)).set s .dead++[o9 (E a) (B a).length]else(σ.set q (rbx T (N a) (A a) (E a) ps (B a) s)).set s (o9 (E a) (B a).length)),.ret (.pure (hc a)),by split<;>simp,λk hk bD=>?_,λi k x ha hx=>?_,a,J,J,hp⟩
  .have n1:q≠k:=λe=>bD a2f;have n2:s≠k:=λe=>bD a2f
   split
   .rw [R8 (I hk)];simp[n1,n2]
   .simp [n1,n2]
  .split at hx<;>rename_i hg
   .rcases ha with ha|⟨ha,rfl⟩
    .rcases i with _|_|i
     .simp at ha hx;subst ha hx;refine⟨rbx T (N a) (A a) (E a) ps (B a) σ.length,?_,a8A (.inr ⟨H,H⟩)⟩;rw[F hg,R8 (I hq),a2M h3.symm];simp[hq]
     .simp at ha hx;subst ha hx;refine⟨.dead,?_,.dead⟩;rw[F hg,R8 (I hs)];simp[hs]
     .simp at ha
    .rcases i with _|_|_|i
     .simp at ha
     .simp at ha
     .simp at hx;subst hx;refine⟨o9 (E a) (B a).length,?_,a5O _ _⟩;rw[F hg,a1v H];simp
     .simp at hx
   .rcases ha with ha|⟨ha,rfl⟩
    .rcases i with _|_|i
     .simp at ha hx;subst ha hx;refine⟨rbx T (N a) (A a) (E a) ps (B a) s,?_,a8A (.inl J)⟩;rw[D hg,a2M h3.symm];simp[hq]
     .simp at ha hx;subst ha hx;refine⟨o9 (E a) (B a).length,?_,a5O _ _⟩;rw[D hg];simp[hs]
     .simp at ha
    .rcases i with _|_|i
     .simp at ha
     .simp at ha
     .simp at hx
def Ok{α:Type}(e:Int)(o:Option α)(e':Int)(y:α):Prop:=(e=0->(o=some y/\e'=0)\/(o=none/\e'≠0))/\(e≠0->e'≠0)
theorem Ok.bind{e1:Int}{o:Option α}{f:α->Option β}{z:β}(h:Ok e o e1 y)(k:Ok e1 (f y) e2 z):Ok e (o.bind f) e2 z:=by
 refine⟨λh0=>?_,λh0=>k.2 (h.2 h0)⟩
 rcases h.1 h0 with⟨rfl,h1⟩|⟨rfl,h1⟩
 .exact k.1 h1
 .exact .inr ⟨J,k.2 h1⟩
theorem Ok.none{e':Int}(h:e'≠0):Ok e (Option.none:Option α) e' y:=⟨λ_=>.inr ⟨J,h⟩,λ_=>h⟩
theorem Ok.some:Ok e (Option.some y) e y:=⟨λh=>.inl ⟨J,h⟩,λh=>h⟩
theorem Ok.dead{e':Int}{o:Option α}(h:e≠0)(h':e'≠0):Ok e o e' y:=⟨λh0=>absurd h0 h,λ_=>h'⟩
theorem d6A(h:s<L):Old L (.list (b.map Ex.cv) (gnn b.length) (tkE e b.length s)):=
 .list (λi j r c h1 h2=>(C0 (f:=Ex.cv) (λa=>(Ex.pure a).all) _ r (n_2 h1) c (n_2 h2)).old) (λk hk=>by
  unfold tkE at hk;split at hk
  .cases hb:b.length with
   |zero=>rw[hb]at hk;cases hk
   |succ m=>rw[hb]at hk;injection hk with hk;omega
  .cases hk)
theorem b18(n:Nat)(e:Int)(m:Nat):I6 n (o9 e m):=by
 unfold o9
 split
 .exact a59 _ _
 .trivial
theorem b7j(h:s<L):I6 L (rbx T n at_ e ps b s):=z6 ⟨Y0 _ _ _,.val _,.val _,.val _,A6 _ _ _,d6A h,P9 _ [] false,O⟩
theorem a2s(hτ:τ=rbx T n at_ e ps b 1::o9 e b.length::rest)(hc:Old 2 c):D2 2 τ (.ret c) (.ret c) (rst T n at_ e ps b):=by
 subst hτ;exact⟨[0,1],J,J,.ret (.old hc),.inr ⟨_,J,.same J (b7j G)⟩,.inr ⟨_,J,.same J X0⟩,O⟩
theorem e0a{tok:Option Nat}(he:e≠0)(h0:τ[0]?=some (.box [.list (T.map Tok.cv) true none,iv n,iv at_,iv e,.list (ps.map scv) (gnn ps.length) none,.list (b.map Ex.cv) (gnn b.length) tok,.list [] false none]))(hc:Old 2 c):D2 2 τ (.ret c) (.ret c) (rst T n at_ e ps b):=by
 have ht:∀m s,tkE e m s=none:=λm s=>D he;have hp:o9 e b.length = .dead:=D he;refine⟨[0,1],J,J,.ret (.old hc),.inr ⟨_,h0,.box ⟨.old a1u,.old (.val _),.old (.val _),.old (.val _),.old Z8,.list (λr hr c hc=>(C0 (f:=Ex.cv) (λa=>(Ex.pure a).all) _ r hr c hc).old) (λj hj=>by rw[ht]at hj;cases hj),.old a33,O⟩⟩,.inl hp,O⟩
theorem d5K{f:FuncId}(ap:∀a∈args,r5 a)(hc:r5 c)
 (h:b8 CC f (.ptr 0 0::args) (rst T n at_ e ps b) λr τ=>D2 2 τ r (.ret c) (rst T n at_ e ps b)){σ:List b9}{q s:Nat}(ao:RAt σ q s T n at_ e ps b):b8 CC f (.ptr q 0::args) σ λr τ=>r= .ret c/\τ=σ:=by
 refine(a9f (α:=Unit) (c:=λ_=>c) (N:=λ_=>n) (A:=λ_=>at_) (E:=λ_=>e) (B:=λ_=>b) (g:=λ_=>false) (P:=λ_=>True) ap (λ_=>hc) (h.mono λr τ hh=>⟨(),hh,O⟩) ao).mono λr τ hh=>?_;obtain⟨_,h1,h2,_⟩:=hh;refine⟨h1,h2.trans ?_⟩;show(σ.set q _).set s _=σ;rw[a2o ao.1,a2o ao.2.1]
abbrev rS0(σ:List b9)(q s:Nat)(T:List Tok)(n:Nat)(at_ e:Int)(ps:List U)(b:List Ex):List b9:=(σ.set q (rbx T n at_ e ps b s)).set s (o9 e b.length)
theorem a0n{f:FuncId}{c:α->CV}{A E:α->Int}(ap:∀a∈args,r5 a)(hc:∀a,r5 (c a))
 (h:b8 CC f (.ptr 0 0::args) (rst T n at_ e ps b) λr τ=>∃a,D2 2 τ r (.ret (c a)) (rst T (N a) (A a) (E a) ps b)/\P a){σ:List b9}{q s:Nat}(ao:RAt σ q s T n at_ e ps b):
 b8 CC f (.ptr q 0::args) σ λr τ=>∃a,r= .ret (c a)/\τ=rS0 σ q s T (N a) (A a) (E a) ps b/\P a:=
 a9f (c:=c) (N:=N) (A:=A) (E:=E) (B:=λ_=>b) (g:=λ_=>false) (P:=P) ap hc (h.mono λ_ _ ⟨a,h1,h2⟩=>⟨a,h1,h2⟩) ao
theorem d5z(T:List Tok)(n:Nat)(at_ e:Int)(ps:List U)(b:List Ex)(_:T.length<=1000000)(hn:n<T.length):b8 CC 183 [.ptr 0 0] (rst T n at_ e ps b) (λr τ=>D2 2 τ r (.ret (.agg (tk T n).cells)) (rst T n at_ e ps b)):=by
 refine qO Tryz.func183 ?_;refine qD (p7 J a3m J j5 ?_);refine b5y ?_;refine hY (j7 J O J b84 J Tryz.sizeOf191 G) ?_;refine hY (o6 J O J Tryz.isAgg191 J J) ?_;refine a5e ?_;refine hY c9G ?_;refine hY a0R ?_;refine d9j ?_;refine W1 ?_;refine z_2 ?_;exact⟨_,F2 J b4X,a2s J (a6t _ _)⟩
theorem a0G(hT:T.length<=1000000)(hn:n<T.length)(ao:RAt σ q s T n at_ e ps b):b8 CC 183 [.ptr q 0] σ λr τ=>r= .ret (.agg (tk T n).cells)/\τ=σ:=d5K (λ_ h=>by cases h) (a0O _) (d5z T n at_ e ps b hT hn) ao
theorem d1Y(T:List Tok)(n:Nat)(at_ e:Int)(ps:List U)(b:List Ex)(x y:Int)(hy:y≠0):b8 CC 182 [.ptr 0 0,iv x,iv y] (rst T n at_ e ps b) (λr τ=>∃a:Int×Int,D2 2 τ r (.ret (.tup [])) (rst T n a.1 a.2 ps b)/\a.2≠0):=by
 refine qO Tryz.func182 ?_;refine qC ?_ ?_<;>intro h1
 .have he:e=0:=I h1;refine qD (j2 J O O J j3 t_1 (.inl J) J J (nb J) ?_);refine qD (j2 J O O J j3 c1p (.inl J) J J (nb J) ?_);exact⟨_,rE0,(by exact⟨(x,y),e0a hy J (.tup λi c h=>by simp at h),hy⟩)⟩
 .have he:e≠0:=I h1;exact⟨_,rE0,(by exact⟨(at_,e),a2s J (.tup λi c h=>by simp at h),he⟩)⟩
theorem a0L(x y:Int)(hy:y≠0)(ao:RAt σ q s T n at_ e ps b):b8 CC 182 [.ptr q 0,iv x,iv y] σ λr τ=>∃a:Int×Int,r= .ret (.tup [])/\τ=rS0 σ q s T n a.1 a.2 ps b/\a.2≠0:=
 a0n (c:=λ_:Int×Int=>.tup []) (N:=λ_=>n) (A:=λa=>a.1) (E:=λa=>a.2) (λ_ h=>by simp at h;rcases h with rfl|rfl<;>exact .val _) (λ_=>D7 trivial) (d1Y T n at_ e ps b x y hy) ao
def sgB(T:List Tok)(n:Nat)(e:Int)(k:Int)(u:U):Bool:=decide (e=0)&&isT (tk T n) k u
theorem W5(h:sgB T n e k u=true):e=0/\isT (tk T n) k u=true:=by
 simpa[sgB]using h
theorem b00(h:sgB T n e k u=true):Ok e (pIs T n k u) e (n+1):=by
 obtain⟨h1,h2⟩:=W5 h;rw[pIs,F h2];exact .some
theorem b1c{y:Nat}(h:sgB T n e k u=false)(h2:e2≠0):Ok e (pIs T n k u) e2 y:=by
 by_cases he:e=0
 .have:isT (tk T n) k u=false:=by simpa[sgB,he]using h
  rw[pIs,D (by rw[this];decide)];exact .none h2
 .exact .dead he h2
theorem c95(T:List Tok)(n:Nat)(at_ e:Int)(ps:List U)(b:List Ex)(hT:T.length<=1000000)(hn:n<T.length)(_:a06 T)(u:U):b8 CC 230 [.ptr 0 0,(sv u)] (rst T n at_ e ps b) (λr τ=>D2 2 τ r (.ret (.val (.bool (sgB T n e 4 u)))) (rst T (if(sgB T n e 4 u)=true then n+1 else n) at_ e ps b)):=by
 refine qO Tryz.func230 ?_;refine qG D4 ?_;refine qG c5A ?_;refine qG c4c ?_;refine b0b ?_;refine qG c5A ?_;refine qG c8E ?_;refine b4y ?_;refine cC ?_ ?_<;>intro h1
 .have hv:(sgB T n e 4 u)=true:=by simpa[sgB,isT,b2Z]using h1
  rw[hv,F J];refine qk ?_;refine z_8 ?_;exact c26
 .have hv:(sgB T n e 4 u)=false:=by simpa[sgB,isT,b2Z]using h1
  rw[hv,D G];refine qk ?_;exact c26
theorem Y5(hT:T.length<=1000000)(hn:n<T.length)(hW:a06 T)(u:U)(ao:RAt σ q s T n at_ e ps b):b8 CC 230 [.ptr q 0,(sv u)] σ λr τ=>∃a:Bool×Nat,r= .ret (.val (.bool a.1))/\τ=rS0 σ q s T a.2 at_ e ps b/\(a.1=(sgB T n e 4 u)/\(a.1=true->a.2=n+1)/\(a.1=false->a.2=n)/\a.2 <T.length):=
 a0n (c:=λa:Bool×Nat=>.val (.bool a.1)) (N:=λa=>a.2) (A:=λ_=>at_) (E:=λ_=>e) (λ_ h=>by simp at h;subst h;exact .val _) (λ_=>.val _) ((c95 T n at_ e ps b hT hn hW u).mono λr τ h=>⟨((sgB T n e 4 u),if(sgB T n e 4 u)=true then n+1 else n),h,J,λh=>F h,λh=>D (by dsimp only at h;rw[h];decide),by
  dsimp only
  split
  .rename_i h2;exact hW n hn (a7f (W5 h2).2 G)
  .exact hn⟩) ao
theorem c8c(T:List Tok)(n:Nat)(at_ e:Int)(ps:List U)(b:List Ex)(hT:T.length<=1000000)(hn:n<T.length)(_:a06 T)(u:U):b8 CC 181 [.ptr 0 0,(sv u)] (rst T n at_ e ps b) (λr τ=>D2 2 τ r (.ret (.val (.bool (sgB T n e 1 u)))) (rst T (if(sgB T n e 1 u)=true then n+1 else n) at_ e ps b)):=by
 refine qO Tryz.func181 ?_;refine qG D4 ?_;refine qG c5A ?_;refine qG c4c ?_;refine b0b ?_;refine qG c5A ?_;refine qG c8E ?_;refine b4y ?_;refine cC ?_ ?_<;>intro h1
 .have hv:(sgB T n e 1 u)=true:=by simpa[sgB,isT,b2Z]using h1
  rw[hv,F J];refine qk ?_;refine z_8 ?_;exact c26
 .have hv:(sgB T n e 1 u)=false:=by simpa[sgB,isT,b2Z]using h1
  rw[hv,D G];refine qk ?_;exact c26
theorem a0k(hT:T.length<=1000000)(hn:n<T.length)(hW:a06 T)(u:U)(ao:RAt σ q s T n at_ e ps b):b8 CC 181 [.ptr q 0,(sv u)] σ λr τ=>∃a:Bool×Nat,r= .ret (.val (.bool a.1))/\τ=rS0 σ q s T a.2 at_ e ps b/\(a.1=(sgB T n e 1 u)/\(a.1=true->a.2=n+1)/\(a.1=false->a.2=n)/\a.2 <T.length):=
 a0n (c:=λa:Bool×Nat=>.val (.bool a.1)) (N:=λa=>a.2) (A:=λ_=>at_) (E:=λ_=>e) (λ_ h=>by simp at h;subst h;exact .val _) (λ_=>.val _) ((c8c T n at_ e ps b hT hn hW u).mono λr τ h=>⟨((sgB T n e 1 u),if(sgB T n e 1 u)=true then n+1 else n),h,J,λh=>F h,λh=>D (by dsimp only at h;rw[h];decide),by
  dsimp only
  split
  .rename_i h2;exact hW n hn (a7f (W5 h2).2 G)
  .exact hn⟩) ao
theorem d0s(T:List Tok)(n:Nat)(at_ e:Int)(ps:List U)(b:List Ex)(hT:T.length<=1000000)(hn:n<T.length)(hW:a06 T)(u:U):b8 CC 185 [.ptr 0 0,(sv u)] (rst T n at_ e ps b) (λr τ=>∃a:Nat×Int×Int,D2 2 τ r (.ret (.tup [])) (rst T a.1 a.2.1 a.2.2 ps b)/\(Ok e (pIs T n 4 u) a.2.2 a.1/\a.1 <T.length)):=by
 refine qO Tryz.func185 ?_;refine qD (c5 J a9u i7 (Y5 hT hn hW u ⟨J,J,G⟩) J ?_);rintro⟨v,m⟩ ⟨hv,bZ,ce,hm⟩;dsimp only at hv bZ ce hm⊢;refine qN [rbx T m at_ e ps b 1,o9 e b.length] J (qC ?_ ?_)<;> intro h1
 .have hvf:v=false:=I h1;rw[hvf]at hv;refine W (c4 J a8U ⟨O,O⟩ (a0G hT hm ⟨J,J,G⟩) J) ?_;refine d7q ?_;rintro⟨x,y⟩ hy;dsimp only at hy⊢;refine qN [rbx T m x y ps b 1,o9 y b.length] J ?_;exact⟨_,rE0,(by exact⟨(m,x,y),a2s J (.tup λi c h=>by simp at h),b1c hv.symm hy,hm⟩)⟩
 .have hvt:v=true:=I h1;rw[hvt]at hv;exact⟨_,rE0,(by exact⟨(m,at_,e),a2s J (.tup λi c h=>by simp at h),by dsimp only;rw[bZ hvt];exact b00 hv.symm,hm⟩)⟩
theorem O8(hT:T.length<=1000000)(hn:n<T.length)(hW:a06 T)(u:U)(ao:RAt σ q s T n at_ e ps b):b8 CC 185 [.ptr q 0,(sv u)] σ λr τ=>∃a:Nat×Int×Int,r= .ret (.tup [])/\τ=rS0 σ q s T a.1 a.2.1 a.2.2 ps b/\(Ok e (pIs T n 4 u) a.2.2 a.1/\a.1 <T.length):=
 a0n (c:=λ_:Nat×Int×Int=>.tup []) (N:=λa=>a.1) (A:=λa=>a.2.1) (E:=λa=>a.2.2) (λ_ h=>by simp at h;subst h;exact .val _) (λ_=>D7 trivial) (d0s T n at_ e ps b hT hn hW u) ao
abbrev a8v:List U:=[[112,97,99,107,97,103,101],[105,109,112,111,114,116],[102,117,110,99],[116,101,115,116],[103,101,110],[105,102],[116,104,101,110],[101,108,115,101],[114,101,97,100],[115,105,122,101],[104,97,115],[101,110,118],[102,108,105,112]]
theorem b7Q{l:List U}{w:U}(h:l[i]?=some w)(hd:decide (u∈l)=decide (u∈l.drop i))(ay:¬w=u):decide (u∈l)=decide (u∈l.drop (i+1)):=by
 obtain⟨ab,rfl⟩:=n_3.1 h;rw[hd,R0 ab];have:¬u=l[i]:=λe=>ay e.symm;exact b3n.2 ⟨λh=>(J0.1 h).resolve_left this,a6D _⟩
theorem a8b(l:List U)(nn:Bool)(u:U)(hl:l.length<=1000000)(σ:List b9):b8 CC 186 [(.list (l.map scv) nn none),(sv u)] σ λr aa=>r= .ret (.val (.bool (decide (u∈l))))/\aa=σ:=by
 refine b8.anyw hCC pu_ pu_ (c7 (qO Tryz.func186 ?_)) σ;refine e2j ?_;intro i ⟨hi,hd⟩;refine qk (qC ?_ ?_)<;> intro h1
 .have ab:i<l.length:=sm_ h1;obtain⟨w,hb⟩:∃w,l[i]?=some w:=⟨l[i]'ab,H⟩;refine b5t ?_;refine qC ?_ ?_<;>intro h2
  .have hw:w=u:=I h2;exact d8M
  .have hw:¬w=u:=I h2;exact d6W
 .have aF:l.length<=i:=sm_ h1;refine z_9 ?_;exact⟨_,rE1,_,_,J,J,j4 (show false=decide (u∈l) by rw[hd,T6 aF];simp)⟩
theorem a62(u:U)(σ:List b9):b8 CC 229 [(sv u)] σ λr aa=>r= .ret (.val (.bool (S7 u)))/\aa=σ:=by
 refine b8.anyw hCC pu_ pu_ (c7 (qO Tryz.func229 ?_)) σ;refine W (B1 (a8v.map scv) J ⟨J,J,J,J,J,J,J,J,J,J,J,J,J,O⟩ t_2 t_0 t_4 J J J J J J J J J) ?_;refine W I7 ?_;refine j8 hCC (α:=Nat) (λi=>[(0,(sv u)),(5,(.list (a8v.map scv) true none)),(6,iv a8v.length),(7,iv i)]) (λ_=>[]) (λi=>i<=a8v.length/\decide (u∈a8v)=decide (u∈a8v.drop i)) (λi=>a8v.length -i) 0 ⟨n_4 _,J⟩ tu_ (ai:=[]) J z8 uz_ ?_;intro i ⟨hi,hd⟩;have hL:a8v.length=13:=J;refine qk (qC ?_ ?_)<;> intro h1
 .have ab:i<a8v.length:=sm_ h1;obtain⟨w,hb⟩:∃w,a8v[i]?=some w:=⟨a8v[i]'ab,a0H ab⟩;refine b5t ?_;refine qC ?_ ?_<;>intro h2
  .have hw:u=w:=I h2;refine c6 ?_;exact⟨_,rE1,_,_,J,J,j4 (show true=decide (u∈a8v)from(a1B (hw▸n_2 hb)).symm)⟩
  .have hw:¬u=w:=I h2;refine W j9 ?_;exact⟨(i+1),_,⟨X,X,b7Q hb hd (λe=>hw e.symm)⟩,tu_,J⟩
 .have aF:a8v.length<=i:=sm_ h1;refine z_9 ?_;exact⟨_,rE1,_,_,J,J,j4 (show false=decide (u∈a8v) by rw[hd,T6 aF];simp)⟩
def a1N(T:List Tok)(path:Bool)(n:Nat):Option (Tok×Nat):=(G6 T n 3).bind λx=>if(if path=true then I1 x.1.t else C4 x.1.t)=true then some x else none
theorem a4z(T:List Tok)(n:Nat):a1N T true n=a00 T n:=by simp[a1N,a00]
theorem c6z{y:U×Nat}(h:e≠0\/(tk T n).k≠1\/S7 (tk T n).t=true)(h2:e2≠0):Ok e ((K8 T n).map λx=>(x.1.t,x.2)) e2 y:=by
 by_cases he:e=0
 .have hn:K8 T n=none:=by
   unfold K8 G6
   split
   .rename_i hk
    rcases h with h|h|h
    .exact absurd he h
    .exact absurd hk h
    .simp [h]
   .rfl
  rw[hn];exact .none h2
 .exact .dead he h2
theorem c7y(h:(tk T n).k=1/\S7 (tk T n).t=false):Ok e ((K8 T n).map λx=>(x.1.t,x.2)) e ((tk T n).t,n+1):=by
 have hn:K8 T n=some (tk T n,n+1):=by
  unfold K8 G6;rw[F h.1];simp[h.2]
 rw[hn];exact .some
theorem c80(T:List Tok)(n:Nat)(at_ e:Int)(ps:List U)(b:List Ex)(hT:T.length<=1000000)(hn:n<T.length)(hW:a06 T):b8 CC 184 [.ptr 0 0] (rst T n at_ e ps b) (λr τ=>∃a:U×Nat×Int×Int,D2 2 τ r (.ret (sv a.1)) (rst T a.2.1 a.2.2.1 a.2.2.2 ps b)/\(Ok e ((K8 T n).map λx=>(x.1.t,x.2)) a.2.2.2 (a.1,a.2.1)/\a.2.1 <T.length)):=by
 refine qO Tryz.func184 ?_;refine W c0G ?_;refine z_1 ?_;refine qG d2W ?_;refine qG a5n ?_;refine a38 ?_;refine qG b71 ?_;refine qG a02 ?_;refine qG (λhg=>c4 J Tryz.call229 ⟨hg,O⟩ (a62 _ _) J) ?_;refine W S6 ?_;refine qC ?_ ?_<;>intro h1
 .have hv:e≠0\/(tk T n).k≠1\/S7 (tk T n).t=true:=by simpa[or_assoc]using h1
  refine qD (c5 J b2u a21 (a0L _ _ G ⟨J,J,G⟩) J ?_);rintro⟨x,y⟩ hy;dsimp only at hy⊢;refine c81 ?_;exact⟨_,rE1,(by exact⟨([],n,x,y),a2s J (.val _),c6z hv hy,hn⟩)⟩
 .have hv:e=0/\(tk T n).k=1/\S7 (tk T n).t=false:=by simpa[and_assoc]using h1
  refine z_8 ?_;refine c6 ?_;exact⟨_,rE1,(by exact⟨((tk T n).t,n+1,at_,e),a2s J (.val _),c7y hv.2,hW n hn (by rw[hv.2.1];decide)⟩)⟩
theorem a8k(hT:T.length<=1000000)(hn:n<T.length)(hW:a06 T)(ao:RAt σ q s T n at_ e ps b):b8 CC 184 [.ptr q 0] σ λr τ=>∃a:U×Nat×Int×Int,r= .ret (sv a.1)/\τ=rS0 σ q s T a.2.1 a.2.2.1 a.2.2.2 ps b/\(Ok e ((K8 T n).map λx=>(x.1.t,x.2)) a.2.2.2 (a.1,a.2.1)/\a.2.1 <T.length):=
 a0n (c:=λa:U×Nat×Int×Int=>(sv a.1)) (N:=λa=>a.2.1) (A:=λa=>a.2.2.1) (E:=λa=>a.2.2.2) (λ_ h=>by simp at h;try(subst h;exact .val _)) (λ_=>.val _) (c80 T n at_ e ps b hT hn hW) ao
theorem c6R{path:Bool}{y:U×Nat}(h:e≠0\/(tk T n).k≠3\/(if path=true then I1 (tk T n).t else C4 (tk T n).t)=false)(h2:e2≠0):Ok e ((a1N T path n).map λx=>(x.1.t,x.2)) e2 y:=by
 by_cases he:e=0
 .have hn:a1N T path n=none:=by
   unfold a1N G6
   split
   .rename_i hk
    rcases h with h|h|h
    .exact absurd he h
    .exact absurd hk h
    .cases path<;>simp_all
   .rfl
  rw[hn];exact .none h2
 .exact .dead he h2
theorem c6K{path:Bool}(h:(tk T n).k=3/\(if path=true then I1 (tk T n).t else C4 (tk T n).t)=true):Ok e ((a1N T path n).map λx=>(x.1.t,x.2)) e ((tk T n).t,n+1):=by
 have hn:a1N T path n=some (tk T n,n+1):=by
  unfold a1N G6;rw[F h.1];have h2:=h.2;cases path<;>simp_all
 rw[hn];exact .some
theorem c85(T:List Tok)(n:Nat)(at_ e:Int)(ps:List U)(b:List Ex)(hT:T.length<=1000000)(hn:n<T.length)(hW:a06 T)(path:Bool)(hL:d3r T):b8 CC 231 [.ptr 0 0,(.val (.bool path))] (rst T n at_ e ps b) (λr τ=>∃a:U×Nat×Int×Int,D2 2 τ r (.ret (sv a.1)) (rst T a.2.1 a.2.2.1 a.2.2.2 ps b)/\(Ok e ((a1N T path n).map λx=>(x.1.t,x.2)) a.2.2.2 (a.1,a.2.1)/\a.2.1 <T.length)):=by
 refine qO Tryz.func231 ?_;refine W c0G ?_;refine z_1 ?_;refine qG d2W ?_;refine qG a5n ?_;refine a38 ?_;refine qG D4 ?_;refine qG b0i ?_;refine d7t ?_;refine qH J J (λhk hg=>c4 J b9y ⟨⟨hk,hg⟩,O⟩ (a3X _ _) J) ?_;refine d5x ?_;refine W S6 ?_;refine qG D4 ?_;refine qG a29 ?_;refine qG b0i ?_;refine d7t ?_;refine qH J J (λhk hg=>c4 J c30 ⟨⟨hk,hg⟩,O⟩ (a6k _ _) J) ?_;refine d5x ?_;refine W S6 ?_;refine qC ?_ ?_<;>intro h1
 .have hv:e≠0\/(tk T n).k≠3\/(if path=true then I1 (tk T n).t else C4 (tk T n).t)=false:=by
   cases path<;>simpa[or_assoc]using h1
  refine qD (c5 J b2u a21 (a0L _ _ G ⟨J,J,G⟩) J ?_);rintro⟨x,y⟩ hy;dsimp only at hy⊢;refine c81 ?_;exact⟨_,rE1,(by exact⟨([],n,x,y),a2s J (.val _),c6R hv hy,hn⟩)⟩
 .have hv:e=0/\(tk T n).k=3/\(if path=true then I1 (tk T n).t else C4 (tk T n).t)=true:=by
   cases path<;>simpa[and_assoc]using h1
  refine z_8 ?_;refine c6 ?_;exact⟨_,rE1,(by exact⟨((tk T n).t,n+1,at_,e),a2s J (.val _),c6K hv.2,hW n hn (by rw[hv.2.1];decide)⟩)⟩
theorem b1j(hT:T.length<=1000000)(hn:n<T.length)(hW:a06 T)(path:Bool)(hL:d3r T)(ao:RAt σ q s T n at_ e ps b):b8 CC 231 [.ptr q 0,(.val (.bool path))] σ λr τ=>∃a:U×Nat×Int×Int,r= .ret (sv a.1)/\τ=rS0 σ q s T a.2.1 a.2.2.1 a.2.2.2 ps b/\(Ok e ((a1N T path n).map λx=>(x.1.t,x.2)) a.2.2.2 (a.1,a.2.1)/\a.2.1 <T.length):=
 a0n (c:=λa:U×Nat×Int×Int=>(sv a.1)) (N:=λa=>a.2.1) (A:=λa=>a.2.2.1) (E:=λa=>a.2.2.2) (λ_ h=>by simp at h;try(subst h;exact .val _)) (λ_=>.val _) (c85 T n at_ e ps b hT hn hW path hL) ao
end Go.Proofs.YtlppbmfecjabeaaGreatDoor
