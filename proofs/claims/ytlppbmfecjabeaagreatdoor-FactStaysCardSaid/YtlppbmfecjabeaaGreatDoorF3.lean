/- Part 3 of what the claim needs: values without addresses, and what the program's functions do with them. -/
import Derived.Test.YtlppbmfecjabeaaGreatDoorF2
set_option linter.all false
set_option maxRecDepth 100000
set_option maxHeartbeats 4000000
namespace Go.Proofs.YtlppbmfecjabeaaGreatDoor
open Go Go.Cl
variable {i q f m a np d L j i1 q1 q2:Nat} {σ τ rest:List b9} {α β:Type} {c c':CV} {va:Bool} {br:List Str} {S am:List Nat} {P:α->Prop} {u lv:Int} {nm:Str} {R:Nat->Nat->Prop} {N:α->Nat} {bad:Prop} {x y:α} {vc:β->CV}
def b7f (v n:Int):Int:=if n<=1 then 0 else v%n
theorem b31 {v n:Int} (hn:1<=n):0<=b7f v n/\b7f v n < n:=by
 unfold b7f
 split
 ·omega
 ·exact ⟨Int.emod_nonneg _ om_,Int.emod_lt_of_pos _ om_⟩
def b4W (l:List Int) (at_:Nat):Int:=(l[at_]?).getD ((at_:Int)*7%11)
def Q2 (l:List Int) (at_:Nat) (n:Int):Int:=b7f (b4W l at_) n
abbrev A6 (l:List Int) (nn:Bool) (at_:Nat):b9:=.box [.list (l.map icv) nn none,iv at_]
theorem K2 (l:List Int) (nn:Bool) (k:Nat):a9O (A6 l nn k):=T0.all ⟨N5 _ _,.val _,tt⟩
theorem b3a (v n:Int) (hn:n<=4611686018427387904) (σ:List b9):b8 CC 60 [iv v,iv n] σ fun r Y=>r = .ret (iv (b7f v n))/\Y=σ:=by
 refine b8.anyw hCC pu_ pu_ (c7 (qO Tryz.func60 ?_)) σ;refine qC ?_ ?_<;>intro h1
 ·have aZ:n<=1:=sp_ h1;refine c6 ?_;exact ⟨_,rE1,_,_,rfl,rfl,F1 (by rw [b7f,n_1 aZ])⟩
 ·have aZ:¬ n<=1:=sp_ h1;have ht:v.tmod n=v%n\/v.tmod n+n=v%n/\v.tmod n < 0:=by
   rcases Int.le_total 0 v with hv | hv
   ·exact .inl (c5Y hv)
   ·rw [Int.tmod_eq_emod];split
    ·exact .inl om_
    ·right;have:=Int.emod_lt_of_pos v (show 0 < n by omega);have h5:(n.natAbs:Int)=n:=by omega
     omega
  have dy:=Int.emod_nonneg v (show n≠0 by omega);have cp:=Int.emod_lt_of_pos v (show 0 < n by omega);have fR:=Int.tmod_lt_of_pos v (show 0 < n by omega);have hm4 : -n<=v.tmod n:=by omega
  refine qY (a0d rfl tt tt rfl rfl (c80 om_)) ?_;refine qC ?_ ?_<;>intro h2
  ·have ae:v.tmod n < 0:=sp_ h2;refine qY a3E ?_;refine c6 ?_;exact ⟨_,rE1,_,_,rfl,rfl,F1 (by rw [b7f,n_0 aZ];omega)⟩
  ·have ae:¬ v.tmod n < 0:=sp_ h2;refine c6 ?_;exact ⟨_,rE1,_,_,rfl,rfl,F1 (by rw [b7f,n_0 aZ];omega)⟩
theorem L1 (l:List Int) (nn:Bool) (k:Nat) (σ:List b9) (q:Nat) (hk:σ[q]? = some (A6 l nn k)) (aV:k<=1000000000) (hl:l.length<=maxLen) (n:Int) (hn:n<=4611686018427387904):b8 CC 20 [.ptr q 0,iv n] σ fun r Y=>∃ _:Unit,r = .ret (iv (Q2 l k n))/\Y=σ.set q (A6 l nn (k+1))/\True:=by
 have da:=hl;unfold maxLen at da;unfold A6 at hk;have hq:q < σ.length:=(n_3.1 hk).1;refine cO Tryz.func20 ?_;refine z_0 ?_;refine a7x ?_;refine a8S ?_;refine cY b2j ?_;refine cY b7r ?_;refine cY (b5O rfl tt rfl rfl rfl om_ om_) ?_;refine cY (a0d rfl tt rfl rfl rfl (b72 om_ om_)) ?_;refine b2a ?_;refine D4 ?_;refine b2b ?_;refine hY b2j ?_;refine hY b7r ?_;refine a3Z ?_;refine d3t ?_;refine hY a02 ?_;refine hY b0h ?_;refine a59 (z8 ?_);refine cC ?_ ?_<;>intro h1
 ·have ae:(k:Int) < l.length:=sp_ h1;obtain ⟨v,hv⟩:=gx_ l k;refine cW 11 ?_;refine a3Z ?_;refine d3t ?_;refine a3Z ?_;refine hY b2j ?_;refine hY b7r ?_;refine hY c0R ?_;refine hY a6N ?_;refine b16 ?_;refine z8 ?_;refine a8S ?_;refine cY b2j ?_;refine cY b7r ?_;refine cY o7 ?_;refine cY a5D ?_;refine d1F ?_;refine z8 ?_;refine a6T ?_;refine yc rfl Tryz.call60 j1 (b3a v n hn _) ?_;refine a2l ?_;exact ⟨_,rE1,⟨(),by rw [Q2,b4W,hv];rfl,rfl,tt⟩⟩
 ·have aE:¬ (k:Int) < l.length:=sp_ h1;have hv:l[k]? = none:=b7p om_;refine C5 ?_;refine a8S ?_;refine cY b2j ?_;refine cY b7r ?_;refine cY o7 ?_;refine cY a5D ?_;refine d1F ?_;refine z8 ?_;refine a6T ?_;refine yc rfl Tryz.call60 j1 (b3a _ n hn _) ?_;refine a2l ?_;exact ⟨_,rE1,⟨(),by rw [Q2,b4W,hv];rfl,rfl,tt⟩⟩
theorem O3 (l:List Int) (nn:Bool) (k:Nat) (σ:List b9) (q:Nat) (hk:σ[q]? = some (A6 l nn k)) (aV:k<=1000000000) (hl:l.length<=maxLen) (n m:Int) (hn:m<=4611686018427387904):b8 CC 12 [.ptr q 0,iv n,iv m] σ fun r Y=>∃ _:Unit,r = .ret (.val (.bool (decide (Q2 l k m < n))))/\Y=σ.set q (A6 l nn (k+1))/\True:=by
 refine qO Tryz.func12 ?_;refine qD (c5 rfl a7K j1 (L1 l nn k σ q hk aV hl m hn) rfl ?_);intro _ _;refine c6 ?_;exact ⟨_,rE1,⟨(),rfl,rfl,tt⟩⟩
theorem a7Q (l:List Int) (nn:Bool) (k:Nat) (σ:List b9) (q:Nat) (hk:σ[q]? = some (A6 l nn k)) (aV:k<=1000000000) (hl:l.length<=maxLen) (ls:List Int) (eo:ls≠[]) (hln:ls.length<=1000):b8 CC 51 [.ptr q 0,.list (ls.map icv) true none] σ fun r Y=>∃ v:Int,r = .ret (iv v)/\Y=σ.set q (A6 l nn (k+1))/\v∈ls:=by
 have gx:=b1w.2 eo;have hb:=b31 (v:=b4W l k) (n:=(ls.length:Int)) om_;obtain ⟨v,hv⟩:∃ v,ls[(Q2 l k (ls.length:Int)).toNat]? = some v:=⟨ls[(Q2 l k (ls.length:Int)).toNat]'(by unfold Q2;omega),si_⟩;have hb':0<=Q2 l k (ls.length:Int):=hb.1;refine qO Tryz.func51 ?_;refine qY a02 ?_;refine cC ?_ ?_<;>intro h1
 ·exfalso;simp at h1;exact eo h1
 ·refine qk (qY a02 ?_);refine qD (c5 rfl a7K j1 (L1 l nn k σ q hk aV hl (ls.length:Int) om_) rfl ?_);intro _ _;refine qY c0R ?_;exact d3h
theorem I5 (l:List Int) (nn:Bool) (k:Nat) (σ:List b9) (q:Nat) (hk:σ[q]? = some (A6 l nn k)) (aV:k<=1000000000) (hl:l.length<=maxLen) (ls:List Str) (eo:ls≠[]) (hln:ls.length<=1000):b8 CC 19 [.ptr q 0,.list (ls.map scv) true none] σ fun r Y=>∃ v:Str,r = .ret (sv v)/\Y=σ.set q (A6 l nn (k+1))/\v∈ls:=by
 have gx:=b1w.2 eo;have hb:=b31 (v:=b4W l k) (n:=(ls.length:Int)) om_;obtain ⟨v,hv⟩:∃ v,ls[(Q2 l k (ls.length:Int)).toNat]? = some v:=⟨ls[(Q2 l k (ls.length:Int)).toNat]'(by unfold Q2;omega),si_⟩;have hb':0<=Q2 l k (ls.length:Int):=hb.1;refine qO Tryz.func19 ?_;refine qY I7 ?_;refine cC ?_ ?_<;>intro h1
 ·exfalso;simp at h1;exact eo h1
 ·refine b2S ?_;refine qD (c5 rfl a7K j1 (L1 l nn k σ q hk aV hl (ls.length:Int) om_) rfl ?_);intro _ _;refine qY (o9 rfl tt tt rfl rfl t_2 t_0 om_ (i8 hv) rfl) ?_;exact d3h
def V5:List Str:=([[112],[113],[115]]:List Str)
theorem a5w  (σ:List b9):b8 CC 69 [] σ fun r Y=>r = .ret (.list (V5.map scv) true none)/\Y=σ:=by
 refine b8.anyw hCC pu_ pu_ (c7 (qO Tryz.func69 ?_)) σ;refine qY (B3 (V5.map scv) rfl ⟨rfl,rfl,rfl,tt⟩ t_2 t_0 t_3 rfl rfl rfl rfl rfl rfl rfl rfl rfl) ?_;exact c8Y
def S3:List Str:=([[102],[103],[104],[107]]:List Str)
theorem a4v  (σ:List b9):b8 CC 29 [] σ fun r Y=>r = .ret (.list (S3.map scv) true none)/\Y=σ:=by
 refine b8.anyw hCC pu_ pu_ (c7 (qO Tryz.func29 ?_)) σ;refine qY (B3 (S3.map scv) rfl ⟨rfl,rfl,rfl,rfl,tt⟩ t_2 t_0 t_3 rfl rfl rfl rfl rfl rfl rfl rfl rfl) ?_;exact c8Y
def a45:List Str:=([[116],[117],[118]]:List Str)
theorem b8X  (σ:List b9):b8 CC 82 [] σ fun r Y=>r = .ret (.list (a45.map scv) true none)/\Y=σ:=by
 refine b8.anyw hCC pu_ pu_ (c7 (qO Tryz.func82 ?_)) σ;refine qY (B3 (a45.map scv) rfl ⟨rfl,rfl,rfl,tt⟩ t_2 t_0 t_3 rfl rfl rfl rfl rfl rfl rfl rfl rfl) ?_;exact c8Y
def a1j:List Str:=([[97,46,100,97,116],[100,47,98,46,100,97,116],[99],[97,46,115,114,99],[120,46,115,114,99]]:List Str)
theorem b9c  (σ:List b9):b8 CC 83 [] σ fun r Y=>r = .ret (.list (a1j.map scv) true none)/\Y=σ:=by
 refine b8.anyw hCC pu_ pu_ (c7 (qO Tryz.func83 ?_)) σ;refine qY (B3 (a1j.map scv) rfl ⟨rfl,rfl,rfl,rfl,rfl,tt⟩ t_2 t_0 t_3 rfl rfl rfl rfl rfl rfl rfl rfl rfl) ?_;exact c8Y
def a0O:List Str:=([[110],[109]]:List Str)
theorem a9N  (σ:List b9):b8 CC 84 [] σ fun r Y=>r = .ret (.list (a0O.map scv) true none)/\Y=σ:=by
 refine b8.anyw hCC pu_ pu_ (c7 (qO Tryz.func84 ?_)) σ;refine qY (B3 (a0O.map scv) rfl ⟨rfl,rfl,tt⟩ t_2 t_0 t_3 rfl rfl rfl rfl rfl rfl rfl rfl rfl) ?_;exact c8Y
theorem P7 {v:Str} (h:v∈V5\/v∈S3\/v∈a45\/v∈a1j\/v∈a0O):v.length<=8:=by
 rcases h with h | h | h | h | h<;>revert v<;>decide
def sub (s:Str) (a e:Nat):Str:=(s.take e).drop a
theorem c1m {s:Str} {e:Nat} (h:e<=s.length):(sub s a e).length=e - a:=by simp [sub];omega
def preB (p s:Str):Bool:=p.isPrefixOf s
def b9t (p s:Str):Bool:=decide (p.length<=s.length) && decide (s.drop (s.length - p.length)=p)
theorem d4L (s p:Str) {x y:Bool} (hx:x=decide ((s.length:Int)>=p.length)) (hy:x=true->y=decide ((s.take p.length).drop 0=p)):(x && y)=preB p s:=by
 subst hx;by_cases h:(s.length:Int)>=p.length
 ·rw [hy (a1R h),a1R h,b6t,a9s,preB];by_cases h2:s.take p.length=p
  ·have:p.isPrefixOf s=true:=by rw [b7y];exact ⟨s.drop p.length,by rw [show p++s.drop p.length=s.take p.length++s.drop p.length by rw [h2]];exact b29 _ _⟩
   simp [h2,this]
  ·have:p.isPrefixOf s=false:=by
    cases hq:p.isPrefixOf s with
    | false=>rfl
    | true =>
     rw [b7y] at hq;obtain ⟨t,rfl⟩:=hq;exact absurd (List.take_left' rfl) h2
   simp [h2,this]
 ·have:p.isPrefixOf s=false:=by
   cases hq:p.isPrefixOf s with
   | false=>rfl
   | true =>
    rw [b7y] at hq;obtain ⟨t,rfl⟩:=hq;exfalso;apply h;simp;omega
  rw [preB,this,a1o h];rfl
theorem d4h (s p:Str) {x y:Bool} (hx:x=decide ((s.length:Int)>=p.length)) (hy:x=true->y=decide ((s.take s.length).drop (s.length - p.length)=p)):(x && y)=b9t p s:=by
 subst hx;unfold b9t;by_cases h:(s.length:Int)>=p.length
 ·rw [hy (a1R h),a1R h,a60,a1R (show p.length<=s.length by omega)]
 ·rw [a1o h,a1o (show ¬ p.length<=s.length by omega)];rfl
theorem a9M (s p:Str) (σ:List b9):b8 CC 275 [(sv s),(sv p)] σ fun r Y=>r = .ret (.val (.bool (preB p s)))/\Y=σ:=by
 refine b8.anyw hCC pu_ pu_ (c7 (qO Tryz.func275 ?_)) σ;refine qY O8 ?_;refine qY O8 ?_;refine a2j ?_;refine qG c1u ?_;refine qG (fun hg=>J7 (h:=p.length) rfl hg rfl t_5 rfl ⟨hg,_,_,rfl,by first|omega|(simp at hg;omega),by first|omega|(simp at hg;omega)⟩ om_ (sm_ hg)) ?_;refine b5W ?_;refine c6 ?_;exact ⟨_,rE1,_,_,rfl,rfl,j8 (d4L s p rfl fun _=>rfl)⟩
theorem a5k (s p:Str) (σ:List b9):b8 CC 234 [(sv s),(sv p)] σ fun r Y=>r = .ret (.val (.bool (preB p s)))/\Y=σ:=by
 refine b8.anyw hCC pu_ pu_ (c7 (qO Tryz.func234 ?_)) σ;refine qY (c4 rfl Tryz.call275 j1 (a9M s p _) rfl) ?_;exact c7e
theorem b0g (s p:Str) (hs:s.length<=1000000000000) (hp:p.length<=1000000000000) (σ:List b9):b8 CC 188 [(sv s),(sv p)] σ fun r Y=>r = .ret (.val (.bool (b9t p s)))/\Y=σ:=by
 refine b8.anyw hCC pu_ pu_ (c7 (qO Tryz.func188 ?_)) σ;refine qY O8 ?_;refine qY O8 ?_;refine a2j ?_;refine qG c1u ?_;refine a6p ?_;refine qG (fun hg=>b08 rfl hg hg rfl rfl b0Z b0Z) ?_;refine qG (fun hg=>J7 (a:=(s.length - p.length)) rfl hg rfl t_5 ⟨hg,_,_,rfl,by first|omega|(simp at hg;omega),by first|omega|(simp at hg;omega)⟩ rfl (sm_ hg) (n_6 _)) ?_;refine b5W ?_;refine c6 ?_;exact ⟨_,rE1,_,_,rfl,rfl,j8 (d4h s p rfl fun _=>rfl)⟩
theorem a5n (s p:Str) (hs:s.length<=1000000000000) (hp:p.length<=1000000000000) (σ:List b9):b8 CC 152 [(sv s),(sv p)] σ fun r Y=>r = .ret (.val (.bool (b9t p s)))/\Y=σ:=by
 refine b8.anyw hCC pu_ pu_ (c7 (qO Tryz.func152 ?_)) σ;refine qY (c4 rfl Tryz.call188 j1 (b0g s p hs hp _) rfl) ?_;exact c7e
theorem b8B {s:Str} {e:Nat} (h:e < s.length):s[e]? = some (s[e]?.getD 0):=by simp [h]
theorem c1b {p s:Str} (h:preB p s=true):p.length<=s.length:=by
 unfold preB at h;rw [b7y] at h;exact h.length_le
structure Tok where
 k:Int
 t:Str
 n:Int
 at_:Int
variable {T:List Tok} {t:Tok}
abbrev Tok.cells (x:Tok):List CV:=[iv x.k,sv x.t,iv x.n,iv x.at_]
def Tok.cv (x:Tok):List CV:=x.cells
theorem a2T (l:List Tok) (nn:Bool):u0 (.list (l.map Tok.cv) nn none):=P9 (f:=Tok.cv) (fun _=>⟨.val _,.val _,.val _,.val _,tt⟩) l nn
theorem U5 (n:Nat) (l:List Tok) (nn:Bool):Old n (.list (l.map Tok.cv) nn none):=(a2T l nn).old
def a3N (l:Str):Int:=l.foldl (fun n b=>min (10*n+((b.toNat:Int) - 48)) 9007199254740993) 0
def a24:Str->Option Nat
 | []=>none
 | b::l=>if 32<=b.toNat/\b.toNat<=126 then (if b.toNat=34 then some 0 else (a24 l).map (· + 1)) else none
def D3 (s:Str) (a:Nat) (b:UInt8):Tok × Int × Int :=
 if k8 b.toNat=1 then
  (if 24 < A2 s a [1,2,3] - a then (⟨0,[],0,0⟩,0,2) else (⟨1,sub s a (A2 s a [1,2,3]),0,0⟩,A2 s a [1,2,3],0))
 else if k8 b.toNat=2 then
  (if 9007199254740992 < a3N (sub s a (A2 s a [2])) then (⟨0,[],0,0⟩,0,3) else (⟨2,[],a3N (sub s a (A2 s a [2])),0⟩,A2 s a [2],0))
 else if k8 b.toNat=7 then
  (match a24 (s.drop (a+1)) with
   | none=>(⟨0,[],0,0⟩,0,9)
   | some n=>(⟨3,sub s (a+1) (a+1+n),0,0⟩,a+1+n+1,0))
 else if k8 b.toNat=8 then
  (if preB [61,61] (s.drop a)=true then (⟨4,sub s a (a+2),0,0⟩,a+2,0) else (⟨4,sub s a (a+1),0,0⟩,a+1,0))
 else (⟨0,[],0,0⟩,0,9)
theorem a2N {s:Str} {e:Nat} {b:UInt8} (h:s[e]? = some b):a24 (s.drop e)=if 32<=b.toNat/\b.toNat<=126 then (if b.toNat=34 then some 0 else (a24 (s.drop (e+1))).map (· + 1)) else none:=by
 obtain ⟨ae,rfl⟩:=n_3.1 h;rw [R4 ae];rfl
theorem b2z {s:Str} {e:Nat} (h:s.length<=e):a24 (s.drop e)=none:=by rw [T5 h];rfl
theorem c2l {l:Str} {b:UInt8} (h:l[j]? = some b):a3N (l.take (j+1))=min (10*a3N (l.take j)+((b.toNat:Int) - 48)) 9007199254740993:=by
 obtain ⟨ae,rfl⟩:=n_3.1 h;rw [<- b2J ae,a3N,List.foldl_append];rfl
theorem b25 {l:Str} (h:∀ b∈l,48<=b.toNat/\b.toNat<=57):0<=a3N l/\a3N l<=9007199254740993:=by
 unfold a3N
 suffices ∀ (l:Str) (n:Int),0<=n->n<=9007199254740993->(∀ b∈l,48<=b.toNat/\b.toNat<=57)->0<=l.foldl (fun n b=>min (10*n+((b.toNat:Int) - 48)) 9007199254740993) n/\l.foldl (fun n b=>min (10*n+((b.toNat:Int) - 48)) 9007199254740993) n<=9007199254740993 from this l 0 om_ om_ h
 intro l
 induction l with
 | nil=>intro n h0 h1 _;exact ⟨h0,h1⟩
 | cons b l ih =>
  intro n h0 h1 h;have hb:=h b si_;exact ih (min (10*n+((b.toNat:Int) - 48)) 9007199254740993) om_ om_ fun c hc=>h c (by simp [hc])
theorem a4c {b:UInt8}:k8 b.toNat=2↔48<=b.toNat/\b.toNat<=57:=by
 unfold k8;constructor
 ·intro h;split at h
  ·omega
  ·split at h
   ·omega
   ·exfalso;revert h;repeat' split
    all_goals omega
 ·intro h;rw [n_0 om_,n_1 om_]
theorem d5p {c:Nat} (h:48<=c/\c<=57):IntKind.i64.wrap (IntKind.u8.wrap ((c:Int) - 48))=(c:Int) - 48:=by
 obtain ⟨h1,h2⟩:=h;simp [IntKind.wrap,IntKind.bits,IntKind.signed];omega
theorem a1p {p:UInt8->Bool} {b:UInt8}:∀ {l:Str},b∈l.takeWhile p->p b=true
 | [],h=>by simp at h
 | c::l,h=>by
  rw [b6C] at h;split at h
  ·rename_i hc
   rcases P0.1 h with rfl | h
   ·exact hc
   ·exact a1p h
  ·simp at h
theorem b24 {s:Str}:∀ b∈sub s a (A2 s a [2]),48<=b.toNat/\b.toNat<=57:=by
 intro b hb;have e:sub s a (A2 s a [2])=(s.drop a).takeWhile (inK [2]):=by
  unfold sub A2;rw [List.drop_take,Nat.add_sub_cancel_left];have h:=List.takeWhile_prefix (inK [2]) (l:=s.drop a);exact (List.prefix_iff_eq_take.1 h).symm
 rw [e] at hb;have:=a1p hb;simp [inK] at this;exact a4c.1 this
theorem c3d (s:Str) (a:Nat) (b:UInt8) (hb:s[a]? = some b) (m:List (Int × Int)) (hm:KM m) (hs:s.length<=1000000000000):b8 CC 190 [(sv s),iv a,.map 0] [b9.map (gm kb kv m)] fun r τ=>∃ _:Unit,a0T [b9.map (gm kb kv m)].length τ r (.ret (.tup [.agg (D3 s a b).1.cells,(iv ((D3 s a b).2.1)),(iv ((D3 s a b).2.2))]))/\a8Q [b9.map (gm kb kv m)].length τ τ [b9.map (gm kb kv m)]/\[b9.map (gm kb kv m)].length<=[b9.map (gm kb kv m)].length/\True:=by
 have gi:=(n_3.1 hb).1;refine qO Tryz.func190 ?_;refine qD (p7 rfl a2g rfl j4 ?_);refine qY b7J ?_;refine qY d5y ?_;refine qC ?_ ?_<;>intro h1
 ·have bK:k8 b.toNat=1:=by rw [<- hm];simpa using h1
  have af:=a1S (ks:=[1,2,3]) (show a<=s.length by omega);refine qY (B3 ([1,2,3].map icv) rfl ⟨rfl,rfl,rfl,tt⟩ t_4 t_1 t_8 rfl rfl rfl rfl rfl rfl rfl rfl rfl) ?_;refine qY (c4 rfl c75 a3A (a6b hm om_ hs de_ rfl) rfl) ?_;refine qY a76 ?_;refine qC ?_ ?_<;>intro h2
  ·have hn:24 < A2 s a [1,2,3] - a:=sm_ h2;refine qY d0l ?_;refine z_2 ?_;exact ⟨_,p8 (rs:=[.cell 6 231,.tmp 7,.tmp 8]) (cs:=[_,_,_]) rfl b0A (n_4 rfl),⟨(),.ret (X9 (by rw [D3,n_1 bK,n_1 hn];rfl) pu_),⟨.same (W4 _ _),tt⟩,n_6 _,tt⟩⟩
  ·have hn:¬ 24 < A2 s a [1,2,3] - a:=sm_ h2;refine qY (J7 (a:=a) (h:=(A2 s a [1,2,3])) rfl tt rfl t_5 a3v a3v om_ om_) ?_;refine qY b8J ?_;refine z_2 ?_;exact ⟨_,p8 (rs:=[.cell 6 231,.tmp 7,.tmp 8]) (cs:=[_,_,_]) rfl b0A (n_4 rfl),⟨(),.ret (X9 (by rw [D3,n_1 bK,n_0 hn];rfl) pu_),⟨.same (W4 _ _),tt⟩,n_6 _,tt⟩⟩
 ·have bK:¬ k8 b.toNat=1:=by rw [<- hm];simpa using h1
  refine qC ?_ ?_<;>intro h3
  ·have bZ:k8 b.toNat=2:=by rw [<- hm];simpa using h3
   have af:=a1S (ks:=[2]) (show a<=s.length by omega);have hdg:=b24 (s:=s) (a:=a);have hln:=c1m (a:=a) af.2;generalize hl:sub s a (A2 s a [2])=ds at hdg hln;refine qY (B3 ([2].map icv) rfl ⟨rfl,tt⟩ t_4 t_1 t_8 rfl rfl rfl rfl rfl rfl rfl rfl rfl) ?_;refine qY (c4 rfl c75 a3A (a6b hm om_ hs de_ rfl) rfl) ?_;refine qY (J7 (a:=a) (h:=(A2 s a [2])) rfl tt rfl t_5 a3v a3v om_ om_) ?_;refine qY (d3w rfl tt rfl t_5 t_7 b1n (by have:=c1m (a:=a) af.2;unfold sub at this;omega)) ?_;refine qY a8k ?_;refine j7 hCC (α:=Nat) (fun j=>[(6,.ptr 1 0),(10,(iv (A2 s a [2]:Int))),(11,(iv (a3N (ds.take j)))),(50,(.list (ds.map bcv) true none)),(51,iv ds.length),(52,iv j)]) (fun _=>[b9.map (gm kb kv m),.box (Tok.cells ⟨0,[],0,0⟩)]) (fun j=>j<=ds.length) (fun j=>ds.length - j) 0 (n_5 _) ⟨o0,o0,o0,⟨tt,(by rw [<- hl];rfl)⟩,⟨tt,(by rw [<- hl];rfl)⟩,o0,tt⟩ (ah:=[]) rfl w8 uz_ ?_;intro j hj;refine qk (qC ?_ ?_)<;> intro h4
   ·have bU:(j:Int) < ds.length:=sp_ h4;obtain ⟨c,hc⟩:=gx_ ds j;have hcd:=hdg c (n_2 hc);have hnb:=b25 (l:=ds.take j) fun c hc=>hdg c (a8E hc);refine qY (o9 rfl tt tt rfl rfl t_7 t_9 om_ (i8 hc) rfl) ?_;refine qY (b5O rfl rfl tt rfl rfl om_ om_) ?_;refine qY Z0 ?_;refine qY (a5N rfl tt rfl b1n c4t (show IntKind.i64.wrap (IntKind.u8.wrap ((c.toNat:Int) - 48))=(c.toNat:Int) - 48 from d5p hcd)) ?_;refine qY a3E ?_;refine qY (d2o rfl tt rfl rfl rfl) ?_;refine qY o7 ?_;exact ⟨(j+1),_,⟨om_,om_⟩,⟨o0,o0,⟨tt,(n_9 (fun z:Int=>iv z) (c2l hc).symm)⟩,o0,o0,o0,tt⟩,rfl⟩
   ·have bU:ds.length<=j:=by
     have:¬ (j:Int) < ds.length:=sp_ h4;omega
    rw [W1 bU] at *;refine j6 ?_;refine qC ?_ ?_<;>intro h5
    ·have hn:9007199254740992 < a3N (sub s a (A2 s a [2])):=by rw [hl];simpa using h5
     refine qY d0l ?_;refine z_2 ?_;exact ⟨_,p8 (rs:=[.cell 6 231,.tmp 7,.tmp 8]) (cs:=[_,_,_]) rfl b0A (n_4 rfl),⟨(),.ret (X9 (by rw [D3,n_0 bK,n_1 bZ,n_1 hn];rfl) pu_),⟨.same (W4 _ _),tt⟩,n_6 _,tt⟩⟩
    ·have hn:¬ 9007199254740992 < a3N (sub s a (A2 s a [2])):=by rw [hl];simpa using h5
     refine qY b8J ?_;refine z_2 ?_;exact ⟨_,p8 (rs:=[.cell 6 231,.tmp 7,.tmp 8]) (cs:=[_,_,_]) rfl b0A (n_4 rfl),⟨(),.ret (X9 (by rw [D3,n_0 bK,n_1 bZ,n_0 hn,hl];rfl) pu_),⟨.same (W4 _ _),tt⟩,n_6 _,tt⟩⟩
  ·have bZ:¬ k8 b.toNat=2:=by rw [<- hm];simpa using h3
   refine qC ?_ ?_<;>intro h6
   ·have fk:k8 b.toNat=7:=by rw [<- hm];simpa using h6
    refine qY o7 ?_;refine j7 hCC (α:=Nat) (fun e=>[(0,(sv s)),(1,iv a),(6,.ptr 1 0),(14,iv e)]) (fun _=>[b9.map (gm kb kv m),.box (Tok.cells ⟨0,[],0,0⟩)]) (fun e=>a+1<=e/\e<=s.length/\a24 (s.drop (a+1))=(a24 (s.drop e)).map (· + (e - (a+1)))) (fun e=>s.length - e) (a+1) ⟨n_6 _,om_,by cases a24 (s.drop (a+1))<;>simp⟩ tu_ (ah:=[]) rfl w8 uz_ ?_;intro e ⟨gJ,he2,he⟩;refine a5R ?_;refine a2j ?_;refine qG d6i ?_;refine a3Q ?_;refine a2j ?_;refine qG d6i ?_;refine a3Q ?_;refine qC ?_ ?_<;>intro h7
    ·have fy:e < s.length/\32<=(s[e]?.getD 0).toNat/\(s[e]?.getD 0).toNat<=126:=sm_ h7;obtain ⟨c,hc,hcd⟩:∃ c,s[e]? = some c/\s[e]?.getD 0=c:=⟨s[e]?.getD 0,b8B fy.1,rfl⟩;rw [hcd] at fy;rw [a2N hc,n_1 fy.2] at he;refine qY (L5 rfl tt tt rfl rfl t_5 om_ hc) ?_;refine qC ?_ ?_<;>intro h8
     ·have h34:c.toNat=34:=sm_ h8;rw [n_1 h34] at he;obtain ⟨n,rfl⟩:∃ n,e=a+1+n:=⟨e - (a+1),om_⟩;have eY:a24 (s.drop (a+1))=some n:=by rw [he];simp
      refine qY o7 ?_;refine qY (J7 (a:=(a+1)) (h:=(a+1+n)) rfl tt rfl t_5 a3v a3v om_ om_) ?_;refine qY b8J ?_;refine qY o7 ?_;refine z_2 ?_;exact ⟨_,p8 (rs:=[.cell 6 231,.tmp 7,.tmp 8]) (cs:=[_,_,_]) rfl b0A (n_4 rfl),⟨(),.ret (X9 (by rw [D3,n_0 bK,n_0 bZ,n_1 fk,eY];rfl) pu_),⟨.same (W4 _ _),tt⟩,n_6 _,tt⟩⟩
     ·have h34:¬ c.toNat=34:=sm_ h8;rw [n_0 h34] at he;refine qY o7 ?_;exact ⟨(e+1),_,⟨om_,om_,om_,by rw [he];cases a24 (s.drop (e+1))<;>simp;omega⟩,tu_,rfl⟩
    ·have cz:a24 (s.drop e)=none:=by
      rcases a3c e s.length with h | h
      ·rw [a2N (b8B h),n_0];intro hh;simp at h7;omega
      ·exact b2z h
     rw [cz] at he;refine j6 ?_;refine qY d0l ?_;refine z_2 ?_;exact ⟨_,p8 (rs:=[.cell 6 231,.tmp 7,.tmp 8]) (cs:=[_,_,_]) rfl b0A (n_4 rfl),⟨(),.ret (X9 (by rw [D3,n_0 bK,n_0 bZ,n_1 fk,he];rfl) pu_),⟨.same (W4 _ _),tt⟩,n_6 _,tt⟩⟩
   ·have fk:¬ k8 b.toNat=7:=by rw [<- hm];simpa using h6
    refine qC ?_ ?_<;>intro h9
    ·have hk8:k8 b.toNat=8:=by rw [<- hm];simpa using h9
     refine qY o7 ?_;refine qY (J7 (a:=a) rfl tt rfl t_5 a3v rfl om_ (n_6 _)) ?_;refine qY (c4 rfl Tryz.call234 o4 (a5k ((s.take s.length).drop a) [61,61] _) rfl) ?_;refine qC ?_ ?_<;>intro aU
     ·rw [a60] at aU;have di:=c1b aU;rw [b4Q] at di;have di:2<=s.length - a:=di;refine qY o7 ?_;refine qY (J7 (a:=a) (h:=(a+2)) rfl tt rfl t_5 a3v a3v om_ om_) ?_;refine qY b8J ?_;refine z_2 ?_;exact ⟨_,p8 (rs:=[.cell 6 231,.tmp 7,.tmp 8]) (cs:=[_,_,_]) rfl b0A (n_4 rfl),⟨(),.ret (X9 (by rw [D3,n_0 bK,n_0 bZ,n_0 fk,n_1 hk8,n_1 aU];rfl) pu_),⟨.same (W4 _ _),tt⟩,n_6 _,tt⟩⟩
     ·rw [a60] at aU;have hp0:¬ preB [61,61] (s.drop a)=true:=by rw [aU];decide
      refine qY (J7 (a:=a) (h:=(a+1)) rfl tt rfl t_5 a3v a3v om_ om_) ?_;refine qY b8J ?_;refine z_2 ?_;exact ⟨_,p8 (rs:=[.cell 6 231,.tmp 7,.tmp 8]) (cs:=[_,_,_]) rfl b0A (n_4 rfl),⟨(),.ret (X9 (by rw [D3,n_0 bK,n_0 bZ,n_0 fk,n_1 hk8,n_0 hp0];rfl) pu_),⟨.same (W4 _ _),tt⟩,n_6 _,tt⟩⟩
    ·have hk8:¬ k8 b.toNat=8:=by rw [<- hm];simpa using h9
     refine qY d0l ?_;refine z_2 ?_;exact ⟨_,p8 (rs:=[.cell 6 231,.tmp 7,.tmp 8]) (cs:=[_,_,_]) rfl b0A (n_4 rfl),⟨(),.ret (X9 (by rw [D3,n_0 bK,n_0 bZ,n_0 fk,n_0 hk8];rfl) pu_),⟨.same (W4 _ _),tt⟩,n_6 _,tt⟩⟩
theorem c4B {s:Str} {b:UInt8} (hb:s[a]? = some b) {m:List (Int × Int)} (hm:KM m) (hs:s.length<=1000000000000) (hq:σ[q]? = some (.map (gm kb kv m))):b8 CC 190 [(sv s),iv a,.map q] σ fun r τ=>r = .ret (.tup [.agg (D3 s a b).1.cells,(iv ((D3 s a b).2.1)),(iv ((D3 s a b).2.2))])/\τ=σ :=
 b0O hCC (c89 m) pu_ hq (.cons (.val _) (.cons (.val _) (.cons (.map rfl) .nil))) (c3d s a b hb m hm hs)
def P8 (s:Str) (a:Nat):Nat:=a+((s.drop a).takeWhile (· != 10)).length
theorem b9Z:∀ (l:Str),(Go.Lib.indexByte l 10 < 0->(l.takeWhile (· != 10)).length=l.length)/\(0<=Go.Lib.indexByte l 10->Go.Lib.indexByte l 10=((l.takeWhile (· != 10)).length:Nat))
 | []=>⟨fun _=>rfl,fun h=>by rw [Go.Lib.indexByte] at h;omega⟩
 | b::l=>by
  have ih:=b9Z l;rw [Go.Lib.indexByte,b6C];by_cases hb:b=10
  ·subst hb;exact ⟨fun h=>by simp at h,fun h=>by simp⟩
  ·have h1:(b != 10)=true:=sp_ hb;have h2:(b == 10)=false:=sp_ hb;rw [h1,h2];have hg:=Go.Lib.indexByte_ge l 10;simp only [if_true,if_false,C4,b2c];by_cases h3:Go.Lib.indexByte l 10 = -1
   ·rw [h3];have:=ih.1 om_;exact ⟨fun _=>by simp;omega,fun h=>by simp at h⟩
   ·rw [n_0 (sp_ h3)];have:=ih.2 om_;exact ⟨fun h=>by omega,fun _=>by omega⟩
theorem a6h {s:Str} (h:a<=s.length):P8 s a<=s.length:=by
 unfold P8;have:=(List.takeWhile_sublist (· != 10) (l:=s.drop a)).length_le;rw [b4Q] at this;omega
theorem a94 {s:Str} {b:UInt8} (h:s[a]? = some b) (hb:k8 b.toNat=6):a < P8 s a:=by
 obtain ⟨ae,rfl⟩:=n_3.1 h;unfold P8;rw [R4 ae,b6C];have:(s[a] != 10)=true:=by
  cases hq:(s[a] != 10) with
  | true=>rfl
  | false =>
   have:s[a]=10:=sp_ hq;rw [this] at hb;revert hb;decide
 rw [this];simp
def a0l:Nat->Str->Nat->Option (List Tok)
 | 0,_,_=>none
 | f+1,s,i=>match s[A2 s i [5]]? with
  | none=>some [⟨5,[],0,(A2 s i [5]:Nat)⟩]
  | some b=>if k8 b.toNat=6 then a0l f s (P8 s (A2 s i [5]))
   else if (D3 s (A2 s i [5]) b).2.2≠0 then none
   else (a0l f s (D3 s (A2 s i [5]) b).2.1.toNat).map (({ (D3 s (A2 s i [5]) b).1 with at_:=(A2 s i [5]:Nat)}:Tok)::·)
def a2K (s:Str):Option (List Tok):=if 16384 < s.length then none else a0l (s.length+1) s 0
theorem b7P {s:Str} (h:i1=A2 s i [5]) (h2:s.length<=i1):a0l (f+1) s i=some [⟨5,[],0,(i1:Nat)⟩]:=by
 subst h;rw [a0l,b7p h2]
theorem b5M {s:Str} {b:UInt8} (h:i1=A2 s i [5]) (h2:s[i1]? = some b) (h3:k8 b.toNat=6):a0l (f+1) s i=a0l f s (P8 s i1):=by
 subst h;rw [a0l,h2];simp only;rw [n_1 h3]
theorem b6P {s:Str} {b:UInt8} (h:i1=A2 s i [5]) (h2:s[i1]? = some b) (h3:¬ k8 b.toNat=6) (h4:(D3 s i1 b).2.2≠0):a0l (f+1) s i=none:=by
 subst h;rw [a0l,h2];simp only;rw [n_0 h3,n_1 h4]
theorem b5H {s:Str} {b:UInt8} (h:i1=A2 s i [5]) (h2:s[i1]? = some b) (h3:¬ k8 b.toNat=6) (h4:¬ (D3 s i1 b).2.2≠0):a0l (f+1) s i=(a0l f s (D3 s i1 b).2.1.toNat).map (({ (D3 s i1 b).1 with at_:=(i1:Nat)}:Tok)::·):=by
 subst h;rw [a0l,h2];simp only;rw [n_0 h3,n_0 h4]
theorem b9I:∀ {l:Str} {n:Nat},a24 l=some n->n < l.length
 | [],n,h=>by cases h
 | b::l,n,h=>by
  rw [a24] at h;split at h
  ·split at h
   ·injection h with h;subst h;simp
   ·cases hq:a24 l with
    | none=>rw [hq] at h;cases h
    | some k=>rw [hq] at h;injection h with h;subst h;have:=b9I hq;simp;omega
  ·cases h
theorem b5B {s:Str} {b:UInt8} {ks:List Int} (h:s[a]? = some b) (hk:inK ks b=true):a < A2 s a ks:=by
 rw [U3 h,n_1 hk];have:=(a1S (s:=s) (a:=a+1) (ks:=ks) (n_3.1 h).1).1;omega
theorem a4U {s:Str} {b:UInt8} (h:s[a]? = some b) (h4:¬ (D3 s a b).2.2≠0):∃ e:Nat,(D3 s a b).2.1=e/\a < e/\e<=s.length:=by
 have ae:=(n_3.1 h).1;unfold D3 at h4 ⊢;split at h4
 ·rename_i hk;rw [n_1 hk];split at h4
  ·simp at h4
  ·rename_i hn;rw [n_0 hn];exact ⟨_,rfl,b5B h (by simp [inK,hk]),(a1S om_).2⟩
 ·rename_i hk;rw [n_0 hk];split at h4
  ·rename_i bZ;rw [n_1 bZ];split at h4
   ·simp at h4
   ·rename_i hn;rw [n_0 hn];exact ⟨_,rfl,b5B h (by simp [inK,bZ]),(a1S om_).2⟩
  ·rename_i bZ;rw [n_0 bZ];split at h4
   ·rename_i fk;rw [n_1 fk];cases hq:a24 (s.drop (a+1)) with
    | none=>rw [hq] at h4;simp at h4
    | some n =>
     have:=b9I hq;rw [b4Q] at this;exact ⟨a+1+n+1,rfl,om_,om_⟩
   ·rename_i fk;rw [n_0 fk];split at h4
    ·rename_i hk8;rw [n_1 hk8]
     split
     ·rename_i hp;have:=c1b hp;rw [b4Q] at this;have:2<=s.length - a:=this;exact ⟨a+2,rfl,om_,om_⟩
     ·exact ⟨a+1,rfl,om_,om_⟩
    ·simp at h4
abbrev c3W:=List Tok × Bool × Int × Int
def c9h (s:Str) (x:c3W):Prop:=(a2K s=some x.1/\x.2.1=true/\x.2.2.1=0/\x.2.2.2=0)\/(a2K s=none/\x.1=[]/\x.2.1=false/\x.2.2.2≠0)
abbrev c3Q (x:c3W):CV:=.tup [.list (x.1.map Tok.cv) x.2.1 none,iv x.2.2.1,iv x.2.2.2]
theorem b8W (s:Str) (hs:s.length<=1000000000000):b8 CC 153 [(sv s)] [] fun r τ=>∃ x:c3W,a0T 0 τ r (.ret (c3Q x))/\c9h s x:=by
 refine qO Tryz.func153 ?_;refine c8u 0 (fun _ _ _=>False) rfl ?_ (fun _ _ _ h=>h.elim);refine a5R ?_;refine qC ?_ ?_<;>intro h1
 ·have hl:16384 < s.length:=sm_ h1;refine c6 ?_;exact ⟨_,p8 (rs:=[.tmp 2,.tmp 3,.tmp 4]) (cs:=[_,_,_]) rfl c14 (n_4 rfl),⟨([],false,0,2),by exact .ret (.tups ⟨.old (U5 _ [] false),.old (.val _),.old (.val _),tt⟩),.inr ⟨by rw [a2K,n_1 hl],rfl,rfl,de_⟩⟩⟩
 ·have hl:¬ 16384 < s.length:=sm_ h1;refine qD (c5 rfl c4l trivial (a9w _) rfl ?_);intro m hm;refine b7t ?_;refine B9 hCC 1 rfl (α:=List Tok × Nat) (fun x=>[(0,(sv s)),(2,(.list (x.1.map Tok.cv) (gnn x.1.length) (G9 x.1.length 1))),(5,.map 0),(6,iv x.2)]) (fun x=>[.map (gm kb kv m),r7 x.1.length]) (fun x=>x.2<=s.length/\x.1.length<=x.2/\∃ f,s.length - x.2 < f/\a2K s=(a0l f s x.2).map (x.1++·)) (fun x=>s.length - x.2) ⟨([],0),[0,7],⟨n_5 _,n_6 _,s.length+1,si_,by rw [a2K,n_0 hl];simp⟩,⟨rfl,rfl⟩,ut_,(by repeat' (first|exact tt|exact .inl rfl|exact .inr ⟨_,rfl,.same rfl G5⟩|exact .inr ⟨_,rfl,.same (cU _ _ _) G5⟩|exact .inr ⟨_,rfl,.same rfl (by repeat' (first|exact tt|exact .val _|exact .ptr (nb rfl)|exact .map (nb rfl)|exact d0F | refine B6 ?_ | refine ⟨?_,?_⟩))⟩|exact .inr ⟨_,rfl,.box (by repeat' (first|exact tt|exact .same rfl uo_|exact .ptr rfl|exact .map rfl|exact .vec rfl|exact E9.grow (f:=Tok.cv) (fun _=>⟨.val _,.val _,.val _,.val _,tt⟩) rfl | refine ⟨?_,?_⟩))⟩ | refine ⟨?_,?_⟩))⟩ ?_;intro ⟨bj,i⟩ ⟨hi,ha,f,hf,ip⟩;dsimp only at hi ha hf ip ⊢;obtain ⟨f,rfl⟩:∃ f',f=f'+1:=⟨f - 1,om_⟩;obtain ⟨i1,eK⟩:∃ i1,i1=A2 s i [5]:=⟨_,rfl⟩;have af:=a1S (ks:=[5]) hi;rw [<- eK] at af;refine qk (qY (B3 ([5].map icv) rfl ⟨rfl,tt⟩ t_4 t_1 t_8 rfl rfl rfl rfl rfl rfl rfl rfl rfl) ?_);refine qY (c4 rfl c75 a3A ((by have:=a6b (ks:=[5]) (nn:=true) hm hi om_ de_ (σ:=[.map (gm kb kv m),r7 bj.length]) (q:=0) rfl;rw [<- eK] at this;exact this)) rfl) ?_;refine qY O8 ?_;refine qC ?_ ?_<;>intro h2
  ·have dm:i1=s.length:=sm_ h2;rw [b7P eK om_] at ip;refine qY b8J ?_;refine qY (B3 [Tok.cv ⟨5,[],0,(i1:Nat)⟩] rfl ⟨tt,tt⟩ b3y a3n a2g rfl rfl rfl rfl rfl rfl rfl rfl rfl) ?_;refine qD (F4 rfl tt tt rfl si_ q_2 b3y a3n b9V a2g rfl (.inr rfl) q_7 c9y G7 ((bj++[(⟨5,[],0,(i1:Nat)⟩:Tok)]).map Tok.cv) (bj++[(⟨5,[],0,(i1:Nat)⟩:Tok)]).length si_ si_ ?_);refine c6 ?_;exact ⟨_,p8 (rs:=[.tmp 2,.tmp 3,.tmp 4]) (cs:=[_,_,_]) rfl c14 (n_4 rfl),⟨(bj++[(⟨5,[],0,(i1:Nat)⟩:Tok)],gnn (bj++[(⟨5,[],0,(i1:Nat)⟩:Tok)]).length,0,0),by exact .ret (.tups ⟨.tok (fun r hr c hc=>(D8 (f:=Tok.cv) (fun _=>T0.all ⟨.val _,.val _,.val _,.val _,tt⟩) _) r hr c hc),.old (.val _),.old (.val _),tt⟩),.inl ⟨ip,by rw [n_7];rfl,rfl,rfl⟩⟩⟩
  ·have dm:i1 < s.length:=by
    have:¬ (i1:Int)=s.length:=sp_ h2;omega
   obtain ⟨b,hb⟩:=gx_ s i1;refine qY b7J ?_;refine qY d5y ?_;refine qC ?_ ?_<;>intro h3
   ·have hk:k8 b.toNat=6:=by rw [<- hm];simpa using h3
    rw [b5M eK hb hk] at ip;have da:=a94 hb hk;have cT:=a6h (s:=s) (a:=i1) om_;have hib:=b9Z ((s.take s.length).drop i1);have fi:((s.take s.length).drop i1).length=s.length - i1:=by simp
    have aJ:P8 s i1=i1+(((s.take s.length).drop i1).takeWhile (· != 10)).length:=by rw [P8,a60]
    have hig:=Go.Lib.indexByte_ge ((s.take s.length).drop i1) 10;refine qY (J7 (a:=i1) rfl tt rfl t_5 a3v rfl om_ (n_6 _)) ?_;refine qY (c4 rfl Tryz.call189 o4 (a5q ((s.take s.length).drop i1) 10 _) rfl) ?_;refine cC ?_ ?_<;>intro h4
    ·have hneg:Go.Lib.indexByte ((s.take s.length).drop i1) 10 < 0:=sp_ h4;have:=hib.1 hneg;have hle2:P8 s i1=s.length:=by omega
     refine a5R ?_;refine qY a76 ?_;refine qY a3E ?_;refine j6 ?_;exact ⟨(bj,P8 s i1),[0,1],⟨om_,om_,by show bj.length<=P8 s i1;omega,f,by show s.length - P8 s i1 < f;omega,ip⟩,⟨rfl,rfl⟩,d6E,(by repeat' (first|exact tt|exact .inl rfl|exact .inr ⟨_,rfl,.same rfl G5⟩|exact .inr ⟨_,rfl,.same (cU _ _ _) G5⟩|exact .inr ⟨_,rfl,.same rfl (by repeat' (first|exact tt|exact .val _|exact .ptr (nb rfl)|exact .map (nb rfl)|exact d0F | refine B6 ?_ | refine ⟨?_,?_⟩))⟩|exact .inr ⟨_,rfl,.box (by repeat' (first|exact tt|exact .same rfl uo_|exact .ptr rfl|exact .map rfl|exact .vec rfl|exact E9.grow (f:=Tok.cv) (fun _=>⟨.val _,.val _,.val _,.val _,tt⟩) rfl | refine ⟨?_,?_⟩))⟩ | refine ⟨?_,?_⟩))⟩
    ·have hneg:¬ Go.Lib.indexByte ((s.take s.length).drop i1) 10 < 0:=sp_ h4;have:=hib.2 om_;rw [this];refine qk (qY a3E ?_);refine j6 ?_;exact ⟨(bj,P8 s i1),[0,1],⟨om_,om_,by show bj.length<=P8 s i1;omega,f,by show s.length - P8 s i1 < f;omega,ip⟩,⟨rfl,rfl⟩,d6E,(by repeat' (first|exact tt|exact .inl rfl|exact .inr ⟨_,rfl,.same rfl G5⟩|exact .inr ⟨_,rfl,.same (cU _ _ _) G5⟩|exact .inr ⟨_,rfl,.same rfl (by repeat' (first|exact tt|exact .val _|exact .ptr (nb rfl)|exact .map (nb rfl)|exact d0F | refine B6 ?_ | refine ⟨?_,?_⟩))⟩|exact .inr ⟨_,rfl,.box (by repeat' (first|exact tt|exact .same rfl uo_|exact .ptr rfl|exact .map rfl|exact .vec rfl|exact E9.grow (f:=Tok.cv) (fun _=>⟨.val _,.val _,.val _,.val _,tt⟩) rfl | refine ⟨?_,?_⟩))⟩ | refine ⟨?_,?_⟩))⟩
   ·have hk:¬ k8 b.toNat=6:=by rw [<- hm];simpa using h3
    refine qY (c4 rfl Tryz.call190 C6 (c4B hb hm om_ rfl) rfl) ?_;refine z_1 ?_;refine qC ?_ ?_<;>intro h5
    ·have he:(D3 s i1 b).2.2≠0:=sp_ h5;rw [b6P eK hb hk he] at ip;refine c6 ?_;exact ⟨_,p8 (rs:=[.tmp 2,.tmp 3,.tmp 4]) (cs:=[_,_,_]) rfl c14 (n_4 rfl),⟨([],false,i1,(D3 s i1 b).2.2),by exact .ret (.tups ⟨.old (U5 _ [] false),.old (.val _),.old (.val _),tt⟩),.inr ⟨ip,rfl,rfl,he⟩⟩⟩
    ·have he:¬ (D3 s i1 b).2.2≠0:=sp_ h5;rw [b5H eK hb hk he] at ip;obtain ⟨e,gJ,he2,he3⟩:=a4U hb he;rw [gJ] at ip ⊢;refine qD (j3 rfl tt tt rfl j2 t_1 (.inl rfl) rfl rfl (nb rfl) ?_);refine qY (B3 [Tok.cv ({ (D3 s i1 b).1 with at_:=(i1:Nat)}:Tok)] rfl ⟨tt,tt⟩ b3y a3n a2g rfl rfl rfl rfl rfl rfl rfl rfl rfl) ?_;refine qD (F4 rfl tt tt rfl si_ q_2 b3y a3n b9V a2g rfl (.inr rfl) q_7 c9y G7 ((bj++[({ (D3 s i1 b).1 with at_:=(i1:Nat)}:Tok)]).map Tok.cv) (bj++[({ (D3 s i1 b).1 with at_:=(i1:Nat)}:Tok)]).length si_ si_ ?_);exact ⟨(bj++[({ (D3 s i1 b).1 with at_:=(i1:Nat)}:Tok)],e),[0,3],⟨by show s.length - e < s.length - i;omega,he3,by simp;omega,f,by show s.length - e < f;omega,by rw [ip];simp [Function.comp_def]⟩,⟨rfl,rfl⟩,ut_,(by repeat' (first|exact tt|exact .inl rfl|exact .inr ⟨_,rfl,.same rfl G5⟩|exact .inr ⟨_,rfl,.same (cU _ _ _) G5⟩|exact .inr ⟨_,rfl,.same rfl (by repeat' (first|exact tt|exact .val _|exact .ptr (nb rfl)|exact .map (nb rfl)|exact d0F | refine B6 ?_ | refine ⟨?_,?_⟩))⟩|exact .inr ⟨_,rfl,.box (by repeat' (first|exact tt|exact .same rfl uo_|exact .ptr rfl|exact .map rfl|exact .vec rfl|exact E9.grow (f:=Tok.cv) (fun _=>⟨.val _,.val _,.val _,.val _,tt⟩) rfl | refine ⟨?_,?_⟩))⟩ | refine ⟨?_,?_⟩))⟩
theorem c2Y (s:Str) (hs:s.length<=1000000000000) (σ:List b9):b8 CC 153 [(sv s)] σ fun r τ=>∃ x:c3W,r = .ret (c3Q x)/\τ=σ/\c9h s x :=
 G4 (res:=fun x=>.ret (c3Q x)) hCC (fun c hc=>by simp at hc;subst hc;exact .val _) (b8W s hs) (fun _ _=>pu_) σ
structure Ex where
 k:Int
 num:Int
 op:Int
 name:Str
 args:List Int
deriving DecidableEq
variable {B:α->List Ex}
abbrev Ex.cells (x:Ex):List CV:=[iv x.k,iv x.num,iv x.op,sv x.name,.list (x.args.map icv) (gnn x.args.length) none]
def Ex.cv (x:Ex):List CV:=x.cells
theorem Ex.pure (x:Ex):T0 x.cells:=⟨.val _,.val _,.val _,.val _,N5 _ _,tt⟩
theorem a0i (l:List Ex) (nn:Bool):u0 (.list (l.map Ex.cv) nn none):=P9 (f:=Ex.cv) Ex.pure l nn
theorem N8 (n:Nat) (l:List Ex) (nn:Bool):Old n (.list (l.map Ex.cv) nn none):=(a0i l nn).old
structure De where
 k:Int
 name:Str
 params:List Str
 body:List Ex
deriving DecidableEq
abbrev De.cells (x:De):List CV:=[iv x.k,sv x.name,.list (x.params.map scv) (gnn x.params.length) none,.list (x.body.map Ex.cv) (gnn x.body.length) none]
def De.cv (x:De):List CV:=x.cells
theorem De.pure (x:De):T0 x.cells:=⟨.val _,.val _,E7 _ _,a0i _ _,tt⟩
theorem a4q (l:List De) (nn:Bool):u0 (.list (l.map De.cv) nn none):=P9 (f:=De.cv) De.pure l nn
theorem P2 (n:Nat) (l:List De) (nn:Bool):Old n (.list (l.map De.cv) nn none):=(a4q l nn).old
structure Src where
 pkg:Str
 imports:List Str
 decls:List De
deriving DecidableEq
abbrev Src.cells (x:Src):List CV:=[sv x.pkg,.list (x.imports.map scv) (gnn x.imports.length) none,.list (x.decls.map De.cv) (gnn x.decls.length) none]
def Src.cv (x:Src):List CV:=x.cells
theorem Src.pure (x:Src):T0 x.cells:=⟨.val _,E7 _ _,a4q _ _,tt⟩
abbrev pbx (T:List Tok) (n:Nat) (ps:List Str) (b:List Ex) (s:Nat):b9:=.box [.list (T.map Tok.cv) true none,iv n,.list (ps.map scv) (gnn ps.length) none,.list (b.map Ex.cv) (gnn b.length) (G9 b.length s)]
abbrev pst (T:List Tok) (n:Nat) (ps:List Str) (b:List Ex):List b9:=[pbx T n ps b 1,r7 b.length]
abbrev a5P (T:List Tok) (n:Nat) (ps:List Str) (b:List Ex):List b9:=[pbx T n ps b 2,.dead,r7 b.length]
theorem b4y {n:Nat} {ps:List Str} {b:List Ex} {s s':Nat} (h:R s s'):H8 R (pbx T n ps b s) (pbx T n ps b s') :=
 .box (.cons (.pure (a2T _ _)) (.cons (.pure (.val _)) (.cons (.pure (E7 _ _)) (.cons (by
  refine .list rfl (fun i r r' h1 h2=>by rw [h1] at h2;injection h2 with h2;rw [h2]) (fun i j r r' c c' h1 h2 h3 h4=>?_) ?_
  ·rw [h1] at h2;injection h2 with h2;subst h2;rw [h3] at h4;injection h4 with h4;subst h4
   exact .pure (D8 (f:=Ex.cv) (fun a=>(Ex.pure a).all) _ r (n_2 h1) c (n_2 h3))
  ·cases hb:b.length with
   | zero=>exact .inl ⟨rfl,rfl⟩
   | succ m=>exact .inr ⟨s,s',rfl,rfl,h⟩) .nil))))
theorem a1q (m:Nat):H8 R (r7 m) (r7 m):=by
 cases m with
 | zero=>exact .dead
 | succ m=>exact .tip _
def PAt (σ:List b9) (q s:Nat) (T:List Tok) (n:Nat) (ps:List Str) (b:List Ex):Prop:=σ[q]? = some (pbx T n ps b s)/\σ[s]? = some (r7 b.length)/\q≠s
abbrev a2o (at_ e:Int):CV:=.val (.iface 195 (.agg #[.int .i64 at_,.int .i64 e]))
def a28 {α:Type} (c:α->CV) (S:α->List b9) (P:α->Prop) (bad:Prop) (r:Q9) (τ:List b9):Prop :=
 (∃ a,F8 2 τ r (.ret (c a)) (S a)/\P a)\/∃ x:Int × Int,F8 2 τ r (.pan (a2o x.1 x.2)) [.dead,.dead]/\(bad/\x.2≠0)
def a3S {α:Type} (c:α->CV) (S:α->List b9) (P:α->Prop) (σ:List b9) (q s:Nat) (bad:Prop) (r:Q9) (τ:List b9):Prop :=
 (∃ a,r = .ret (c a)/\τ=S a/\P a)\/∃ x:Int × Int,r = .pan (a2o x.1 x.2)/\τ=(σ.set q .dead).set s .dead/\(bad/\x.2≠0)
theorem j9 {x y:Int}:F8 2 τ (.pan (a2o x y)) (.pan (a2o x y)) [.dead,.dead]:=⟨[0,1],rfl,rfl,.pan (.old (.val _)),.inl rfl,.inl rfl,tt⟩
theorem a4w {f:FuncId} {args:List CV} {c:α->CV} {Z:α->List Str} {g:α->Bool} {n:Nat} {ps:List Str} {b:List Ex} (ap:∀ a∈args,u0 a) (hc:∀ a,u0 (c a))
 (h:b8 CC f (.ptr 0 0::args) (pst T n ps b) (a28 c (fun a=>if g a=true then a5P T (N a) (Z a) (B a) else pst T (N a) (Z a) (B a)) P bad)) {σ:List b9} {q s:Nat} (ao:PAt σ q s T n ps b) :
 b8 CC f (.ptr q 0::args) σ (a3S c (fun a=>if g a=true then (σ.set q (pbx T (N a) (Z a) (B a) σ.length)).set s .dead++[r7 (B a).length] else (σ.set q (pbx T (N a) (Z a) (B a) s)).set s (r7 (B a).length)) P σ q s bad):=by
 obtain ⟨h1,h2,h3⟩:=ao;have hq:=(n_3.1 h1).1;have hs:=(n_3.1 h2).1;have h':b8 CC f (.ptr 0 0::args) (pst T n ps b) fun r τ=>(∃ a,r = .ret (c a)/\τ=(if g a=true then a5P T (N a) (Z a) (B a) else pst T (N a) (Z a) (B a))/\P a)\/∃ x:Int × Int,r = .pan (a2o x.1 x.2)/\τ=[.dead,.dead]/\(bad/\x.2≠0):=by
  refine L6 hCC (h.mono fun r τ hh=>?_)
  rcases hh with ⟨a,k1,k2⟩ | ⟨x,k1,k2⟩
  ·exact ⟨_,_,k1,.inl ⟨a,rfl,rfl,k2⟩⟩
  ·exact ⟨_,_,k1,.inr ⟨x,rfl,rfl,k2⟩⟩
 refine J4 [q,s] hCC rfl (fun i j k g1 g2=>?_) (fun i k ob g1 g2=>?_) (.cons (.ptr rfl) (L3 ap)) h' fun r τ hk=>?_
 ·rcases i with _ | _ | i<;>rcases j with _ | _ | j<;>simp at g1 g2<;>first|rfl|(exfalso;exact h3 (g1.trans g2.symm))|(exfalso;exact h3 (g2.trans g1.symm))
 ·rcases i with _ | _ | i
  ·simp at g1 g2;subst g1 g2;exact ⟨_,h1,b4y rfl⟩
  ·simp at g1 g2;subst g1 g2;exact ⟨_,h2,a1q _⟩
  ·simp at g1
 ·rcases hk with ⟨a,rfl,rfl,hp⟩ | ⟨x,rfl,rfl,hp⟩
  ·refine ⟨by split<;>simp,.ret (c a),(if g a=true then (σ.set q (pbx T (N a) (Z a) (B a) σ.length)).set s .dead++[r7 (B a).length] else (σ.set q (pbx T (N a) (Z a) (B a) s)).set s (r7 (B a).length)),.ret (.pure (hc a)),by split<;>simp,fun k hk bx=>?_,fun i k x ha hx=>?_,.inl ⟨a,rfl,rfl,hp⟩⟩
   ·have n1:q≠k:=fun e=>bx a2u;have n2:s≠k:=fun e=>bx a2u
    split
    ·rw [V3 (sp_ hk)];simp [n1,n2]
    ·simp [n1,n2]
   ·split at hx<;>rename_i hg
    ·rcases ha with ha | ⟨ha,rfl⟩
     ·rcases i with _ | _ | i
      ·simp at ha hx;subst ha hx;refine ⟨pbx T (N a) (Z a) (B a) σ.length,?_,b4y (.inr ⟨si_,si_⟩)⟩;rw [n_1 hg,V3 (sp_ hq),a2i h3.symm];simp [hq]
      ·simp at ha hx;subst ha hx;refine ⟨.dead,?_,.dead⟩;rw [n_1 hg,V3 (sp_ hs)];simp [hs]
      ·simp at ha
     ·rcases i with _ | _ | _ | i
      ·simp at ha
      ·simp at ha
      ·simp at hx;subst hx;refine ⟨r7 (B a).length,?_,a1q _⟩;rw [n_1 hg,a0y si_];simp
      ·simp at hx
    ·rcases ha with ha | ⟨ha,rfl⟩
     ·rcases i with _ | _ | i
      ·simp at ha hx;subst ha hx;refine ⟨pbx T (N a) (Z a) (B a) s,?_,b4y (.inl rfl)⟩;rw [n_0 hg,a2i h3.symm];simp [hq]
      ·simp at ha hx;subst ha hx;refine ⟨r7 (B a).length,?_,a1q _⟩;rw [n_0 hg];simp [hs]
      ·simp at ha
     ·rcases i with _ | _ | i
      ·simp at ha
      ·simp at ha
      ·simp at hx
  ·refine ⟨n_6 _,.pan (a2o x.1 x.2),(σ.set q .dead).set s .dead,.pan (.pure (.val _)),si_,fun k hk bx=>?_,fun i k y ha hx=>?_,.inr ⟨x,rfl,rfl,hp⟩⟩
   ·have n1:q≠k:=fun e=>bx a2u;have n2:s≠k:=fun e=>bx a2u;simp [n1,n2]
   ·rcases ha with ha | ⟨ha,rfl⟩
    ·rcases i with _ | _ | i
     ·simp at ha hx;subst ha hx;refine ⟨.dead,?_,.dead⟩;rw [a2i h3.symm];simp [hq]
     ·simp at ha hx;subst ha hx;refine ⟨.dead,?_,.dead⟩;simp [hs]
     ·simp at ha
    ·rcases i with _ | _ | i
     ·simp at ha
     ·simp at ha
     ·simp at hx
theorem a25 {n:Nat} {ps:List Str} {b:List Ex} {s:Nat} (h:s < L):J0 L (pbx T n ps b s):=B6 ⟨U5 _ _ _,.val _,C1 _ _ _,.list (fun i j r c h1 h2=>(D8 (f:=Ex.cv) (fun a=>(Ex.pure a).all) _ r (n_2 h1) c (n_2 h2)).old) (fun k hk=>by
 cases hb:b.length with
 | zero=>rw [hb] at hk;cases hk
 | succ m=>rw [hb] at hk;injection hk with hk;omega),tt⟩
theorem a0G {n:Nat} {ps:List Str} {b:List Ex} (hτ:τ=pbx T n ps b 1::r7 b.length::rest) (hc:Old 2 c):F8 2 τ (.ret c) (.ret c) (pst T n ps b):=by
 subst hτ;exact ⟨[0,1],rfl,rfl,.ret (.old hc),.inr ⟨_,rfl,.same rfl (a25 de_)⟩,.inr ⟨_,rfl,.same rfl G5⟩,tt⟩
theorem a6D {L:Nat} {am:List Nat}:∀ {l:List CV},b3o L l->b9e L am l l
 | [],_=>trivial
 | _::_,⟨h,t⟩=>⟨.old h,a6D t⟩
theorem Y2 {n k:Nat} {ps:List Str} {b:List Ex} (h0:τ[0]? = some (pbx T n ps b k)) (hk:τ[k]? = some (r7 b.length)) (h2:2<=k) (hc:Old 2 c):F8 2 τ (.ret c) (.ret c) (a5P T n ps b):=by
 have k1:a5B 2 [0,1,k]=true:=rfl;have k2:a0f [0,1,k]=true:=by
  have e0:(k == 0)=false:=by simp;omega
  have e1:(k == 1)=false:=by simp;omega
  have e2:(0 == k)=false:=by simp;omega
  have e3:(1 == k)=false:=by simp;omega
  simp [a0f];omega
 refine ⟨[0,1,k],k1,k2,.ret (.old hc),.inr ⟨_,h0,.box ?_⟩,.inl rfl,.inr ⟨_,hk,.same rfl G5⟩,tt⟩;refine ⟨.old a0P,.old (.val _),.old W6,.list (fun r hr c hc=>(D8 (f:=Ex.cv) (fun a=>(Ex.pure a).all) _ r hr c hc).old) ?_,tt⟩;intro j hj;cases hb:b.length with
 | zero=>rw [hb] at hj;cases hj
 | succ m=>rw [hb] at hj;injection hj with hj;subst hj;exact ⟨k,rfl,rfl⟩
theorem a1v {l:List α} (h:l[i]? = some x):l.set i x=l:=by
 apply b8A fun j=>?_;have hi:=(n_3.1 h).1;by_cases hj:i=j
 ·subst hj;rw [b1i hi,h]
 ·rw [a2i hj]
theorem b8T {f:FuncId} {args:List CV} {n:Nat} {ps:List Str} {b:List Ex} (ap:∀ a∈args,u0 a) (hc:u0 c)
 (h:b8 CC f (.ptr 0 0::args) (pst T n ps b) fun r τ=>F8 2 τ r (.ret c) (pst T n ps b)) {σ:List b9} {q s:Nat} (ao:PAt σ q s T n ps b):b8 CC f (.ptr q 0::args) σ fun r τ=>r = .ret c/\τ=σ:=by
 refine (a4w (α:=Unit) (c:=fun _=>c) (N:=fun _=>n) (B:=fun _=>b) (Z:=fun _=>ps) (g:=fun _=>false) (P:=fun _=>True) (bad:=False) ap (fun _=>hc) (h.mono fun r τ hh=>.inl ⟨(),hh,tt⟩) ao).mono fun r τ hh=>?_
 rcases hh with ⟨_,h1,h2,_⟩ | ⟨_,_,_,h3,_⟩
 ·refine ⟨h1,h2.trans ?_⟩;show (σ.set q _).set s _=σ;rw [a1v ao.1,a1v ao.2.1]
 ·exact h3.elim
theorem a0K {f:FuncId} {args:List CV} {c:α->CV} {n:Nat} {ps:List Str} {b:List Ex} (ap:∀ a∈args,u0 a) (hc:∀ a,u0 (c a))
 (h:b8 CC f (.ptr 0 0::args) (pst T n ps b) (a28 c (fun a=>pst T (N a) ps b) P bad)) {σ:List b9} {q s:Nat} (ao:PAt σ q s T n ps b) :
 b8 CC f (.ptr q 0::args) σ (a3S c (fun a=>σ.set q (pbx T (N a) ps b s)) P σ q s bad):=by
 refine (a4w (c:=c) (N:=N) (B:=fun _=>b) (Z:=fun _=>ps) (g:=fun _=>false) (P:=P) (bad:=bad) ap hc (h.mono fun r τ hh=>?_) ao).mono fun r τ hh=>?_
 ·rcases hh with ⟨a,h1,h2⟩ | h
  ·exact .inl ⟨a,h1,h2⟩
  ·exact .inr h
 ·rcases hh with ⟨a,h1,h2,h3⟩ | h
  ·refine .inl ⟨a,h1,h2.trans ?_,h3⟩;refine a1v ?_;rw [a2i ao.2.2];exact ao.2.1
  ·exact .inr h
theorem a2Q {f:FuncId} {args:List CV} {c:α->CV} {n:Nat} {ps:List Str} {b:List Ex} (ap:∀ a∈args,u0 a) (hc:∀ a,u0 (c a))
 (h:b8 CC f (.ptr 0 0::args) (pst T n ps b) (a28 c (fun a=>a5P T (N a) ps (B a)) P bad)) {σ:List b9} {q s:Nat} (ao:PAt σ q s T n ps b) :
 b8 CC f (.ptr q 0::args) σ (a3S c (fun a=>(σ.set q (pbx T (N a) ps (B a) σ.length)).set s .dead++[r7 (B a).length]) P σ q s bad):=by
 refine (a4w (c:=c) (N:=N) (B:=B) (Z:=fun _=>ps) (g:=fun _=>true) (P:=P) (bad:=bad) ap hc (h.mono fun r τ hh=>?_) ao).mono fun r τ hh=>?_
 ·rcases hh with ⟨a,h1,h2⟩ | h
  ·exact .inl ⟨a,h1,h2⟩
  ·exact .inr h
 ·rcases hh with ⟨a,h1,h2,h3⟩ | h
  ·exact .inl ⟨a,h1,h2,h3⟩
  ·exact .inr h
theorem Z9 (x:Tok):u0 (.agg x.cells):=o8 ⟨.val _,.val _,.val _,.val _,tt⟩
theorem a44 (n:Nat) (x:Tok):Old n (.agg x.cells):=(Z9 x).old
def tk (T:List Tok) (n:Nat):Tok:=(T[n]?).getD ⟨5,[],0,0⟩
theorem d3A {n:Nat} (h:n < T.length):T[n]? = some (tk T n):=by simp [tk,h]
def a0B (T:List Tok):Prop:=∀ n,n < T.length->(tk T n).k≠5->n+1 < T.length
def isT (t:Tok) (k:Int) (s:Str):Bool:=(t.k == k) && decide (t.t=s)
theorem a5K {n:Nat} {k:Int} {s:Str} (h:isT (tk T n) k s=true) (hk:k≠5):(tk T n).k≠5:=by
 simp [isT] at h;omega
def G0 (T:List Tok) (n:Nat) (k:Int):Option (Tok × Nat):=if (tk T n).k=k then some (tk T n,if k=5 then n else n+1) else none
def pIs (T:List Tok) (n:Nat) (k:Int) (s:Str):Option Nat:=if isT (tk T n) k s=true then some (n+1) else none
theorem c4w (t:Tok) (e:Int):b8 CC 195 [.agg t.cells,iv e] [] fun r τ=>∃ _:Unit,a0T 0 τ r (.pan (a2o t.at_ e))/\True:=by
 refine qO Tryz.func195 ?_;refine qD (F5 rfl tt j2 j4 ?_);refine qY (A7 #[(0,1),(1,1)] rfl j1 c3S Tryz.zeroValue195 rfl ⟨_,rfl⟩ (fun w=>by kernel_rfl) rfl rfl) ?_;refine qY (c22 (xs:=[.int .i64 t.at_,.int .i64 e]) rfl tt rfl (b8L c3S rfl)) ?_;exact a2d rfl rfl (c9W rfl tt rfl (fun M w v h=>⟨_,_,r6 h⟩) ⟨(),.pan (.old (.val _)),tt⟩)
theorem N7 (t:Tok) (e:Int) (σ:List b9):b8 CC 195 [.agg t.cells,iv e] σ fun r τ=>∃ _:Unit,r = .pan (a2o t.at_ e)/\τ=σ/\True :=
 G4 (res:=fun _=>.pan (a2o t.at_ e)) hCC (fun c hc=>by
  simp at hc
  rcases hc with rfl | rfl
  ·exact Z9 _
  ·exact .val _) (c4w t e) (fun _ _=>.val _) σ
theorem c3j (T:List Tok) (n:Nat) (ps:List Str) (b:List Ex) (_:T.length<=1000000) (hn:n < T.length):b8 CC 196 [.ptr 0 0] (pst T n ps b) (fun r τ=>F8 2 τ r (.ret (.agg (tk T n).cells)) (pst T n ps b)):=by
 refine qO Tryz.func196 ?_;refine qD (p7 rfl a2g rfl j4 ?_);refine b2b ?_;refine hY (j5 rfl tt rfl c23 rfl Tryz.sizeOf191 de_) ?_;refine hY (m0 rfl tt rfl Tryz.isAgg191 rfl rfl) ?_;refine a3Z ?_;refine hY c1N ?_;refine hY a1w ?_;refine d3r ?_;refine Y5 ?_;refine z_2 ?_;exact ⟨_,D5 rfl b2U,a0G rfl (a44 _ _)⟩
theorem a2y {n:Nat} {ps:List Str} {b:List Ex} (hT:T.length<=1000000) (hn:n < T.length) {s:Nat} (ao:PAt σ q s T n ps b):b8 CC 196 [.ptr q 0] σ fun r τ=>r = .ret (.agg (tk T n).cells)/\τ=σ:=b8T (fun _ h=>by cases h) (Z9 _) (c3j T n ps b hT hn) ao
theorem d4P (T:List Tok) (n:Nat) (ps:List Str) (b:List Ex) (hT:T.length<=1000000) (hn:n < T.length) (k:Int) (u:Str):b8 CC 194 [.ptr 0 0,iv k,(sv u)] (pst T n ps b) (fun r τ=>F8 2 τ r (.ret (.val (.bool (isT (tk T n) (k) (u))))) (pst T n ps b)):=by
 refine qO Tryz.func194 ?_;refine qY b5i ?_;refine z_1 ?_;refine qG b5G ?_;refine b7q ?_;refine c6 ?_;exact ⟨_,rE1,(by exact a0G rfl (.val _))⟩
theorem b2M {n:Nat} {ps:List Str} {b:List Ex} (hT:T.length<=1000000) (hn:n < T.length) (k:Int) (u:Str) {s:Nat} (ao:PAt σ q s T n ps b):b8 CC 194 [.ptr q 0,iv k,(sv u)] σ fun r τ=>r = .ret (.val (.bool (isT (tk T n) (k) (u))))/\τ=σ:=b8T (fun _ h=>by simp at h;rcases h with rfl | rfl<;>exact .val _) (.val _) (d4P T n ps b hT hn k u) ao
theorem c8J (T:List Tok) (n:Nat) (ps:List Str) (b:List Ex) (hT:T.length<=1000000) (hn:n < T.length) (hW:a0B T) (u:Str):b8 CC 193 [.ptr 0 0,(sv u)] (pst T n ps b) (a28 (fun _:Nat=>.tup []) (fun a=>pst T a ps b) (fun a=>pIs T n 4 u=some a/\a < T.length) (pIs T n 4 u=none)):=by
 refine qO Tryz.func193 ?_;refine qY (c4 rfl c3w ⟨tt,rfl,tt,tt⟩ (b2M hT hn 4 u ⟨rfl,rfl,de_⟩) rfl) ?_;refine qC ?_ ?_<;>intro h1
 ·have hb:isT (tk T n) 4 u=false:=sp_ h1;refine qY b5i ?_;exact a2d rfl rfl (O2 rfl a4M o4 (N7 _ _ _) rfl (fun _ _=>.inr ⟨(_,_),j9,by rw [pIs,n_0 (by rw [hb];decide)],si_⟩))
 ·have hb:isT (tk T n) 4 u=true:=sp_ h1;refine z_6 ?_;exact ⟨_,rE0,d6z⟩
theorem P3 {n:Nat} {ps:List Str} {b:List Ex} (hT:T.length<=1000000) (hn:n < T.length) (hW:a0B T) (u:Str) {s:Nat} (ao:PAt σ q s T n ps b):b8 CC 193 [.ptr q 0,(sv u)] σ (a3S (fun _:Nat=>.tup []) (fun a=>σ.set q (pbx T a ps b s)) (fun a=>pIs T n 4 u=some a/\a < T.length) σ q s (pIs T n 4 u=none)) :=
 a0K (c:=fun _:Nat=>.tup []) (N:=fun a=>a) (fun _ h=>by simp at h;subst h;exact .val _) (fun _=>C0 trivial) (c8J T n ps b hT hn hW u) ao
theorem c6I (T:List Tok) (n:Nat) (ps:List Str) (b:List Ex) (hT:T.length<=1000000) (hn:n < T.length) (hW:a0B T) (u:Str):b8 CC 191 [.ptr 0 0,(sv u)] (pst T n ps b) (a28 (fun _:Nat=>.tup []) (fun a=>pst T a ps b) (fun a=>pIs T n 1 u=some a/\a < T.length) (pIs T n 1 u=none)):=by
 refine qO Tryz.func191 ?_;refine qY (c4 rfl c3w ⟨tt,rfl,tt,tt⟩ (b2M hT hn 1 u ⟨rfl,rfl,de_⟩) rfl) ?_;refine qC ?_ ?_<;>intro h1
 ·have hb:isT (tk T n) 1 u=false:=sp_ h1;refine qY b5i ?_;exact a2d rfl rfl (O2 rfl a4M o4 (N7 _ _ _) rfl (fun _ _=>.inr ⟨(_,_),j9,by rw [pIs,n_0 (by rw [hb];decide)],si_⟩))
 ·have hb:isT (tk T n) 1 u=true:=sp_ h1;refine z_6 ?_;exact ⟨_,rE0,d6z⟩
theorem b4m {n:Nat} {ps:List Str} {b:List Ex} (hT:T.length<=1000000) (hn:n < T.length) (hW:a0B T) (u:Str) {s:Nat} (ao:PAt σ q s T n ps b):b8 CC 191 [.ptr q 0,(sv u)] σ (a3S (fun _:Nat=>.tup []) (fun a=>σ.set q (pbx T a ps b s)) (fun a=>pIs T n 1 u=some a/\a < T.length) σ q s (pIs T n 1 u=none)) :=
 a0K (c:=fun _:Nat=>.tup []) (N:=fun a=>a) (fun _ h=>by simp at h;subst h;exact .val _) (fun _=>C0 trivial) (c6I T n ps b hT hn hW u) ao
theorem b8P (T:List Tok) (n:Nat) (ps:List Str) (b:List Ex) (hT:T.length<=1000000) (hn:n < T.length) (hW:a0B T) (u:Str):b8 CC 277 [.ptr 0 0,(sv u)] (pst T n ps b) (a28 (fun a:Bool × Nat=>(.val (.bool a.1))) (fun a=>pst T a.2 ps b) (fun a=>a.1=isT (tk T n) 4 u/\a.2=(if isT (tk T n) 4 u=true then n+1 else n)/\a.2 < T.length) False):=by
 refine qO Tryz.func277 ?_;refine qY (c4 rfl c3w ⟨tt,rfl,tt,tt⟩ (b2M hT hn 4 u ⟨rfl,rfl,de_⟩) rfl) ?_;refine qC ?_ ?_<;>intro h1
 ·have hb:isT (tk T n) 4 u=false:=sp_ h1;refine c6 ?_;exact ⟨_,rE1,(by exact .inl ⟨(false,n),a0G rfl (.val _),hb.symm,by rw [n_0 (by rw [hb];decide)],hn⟩)⟩
 ·have hb:isT (tk T n) 4 u=true:=sp_ h1;refine z_6 ?_;refine c6 ?_;exact ⟨_,rE1,(by exact .inl ⟨(true,n+1),a0G rfl (.val _),hb.symm,by rw [n_1 hb],hW n hn (a5K hb de_)⟩)⟩
theorem a1i {n:Nat} {ps:List Str} {b:List Ex} (hT:T.length<=1000000) (hn:n < T.length) (hW:a0B T) (u:Str) {s:Nat} (ao:PAt σ q s T n ps b):b8 CC 277 [.ptr q 0,(sv u)] σ fun r τ=>∃ a:Bool × Nat,r = .ret (.val (.bool a.1))/\τ=σ.set q (pbx T a.2 ps b s)/\a.1=isT (tk T n) 4 u/\a.2=(if isT (tk T n) 4 u=true then n+1 else n)/\a.2 < T.length :=
 (a0K (c:=fun a:Bool × Nat=>(.val (.bool a.1))) (N:=fun a:Bool × Nat=>a.2) (fun _ h=>by simp at h;subst h;exact .val _) (fun _=>.val _) (b8P T n ps b hT hn hW u) ao).mono fun r τ h=>by
  rcases h with h | ⟨_,_,_,h,_⟩
  ·exact h
  ·exact h.elim
theorem c5U (T:List Tok) (n:Nat) (ps:List Str) (b:List Ex) (hT:T.length<=1000000) (hn:n < T.length) (hW:a0B T) (k:Int):b8 CC 235 [.ptr 0 0,iv k] (pst T n ps b) (a28 (fun a:Tok × Nat=>.agg a.1.cells) (fun a=>pst T a.2 ps b) (fun a=>G0 T n k=some a/\a.2 < T.length) (G0 T n k=none)):=by
 refine qO Tryz.func235 ?_;refine qD (p7 rfl a2g rfl j4 ?_);refine qY b5i ?_;refine z_1 ?_;refine qC ?_ ?_<;>intro h1
 ·have hk:¬ (tk T n).k=k:=sp_ h1;exact a2d rfl rfl (O2 rfl a4M o4 (N7 _ _ _) rfl (fun _ _=>.inr ⟨(_,_),j9,by rw [G0,n_0 hk],si_⟩))
 ·have hk:(tk T n).k=k:=sp_ h1;refine qC ?_ ?_<;>intro h2
  ·have h5:¬ k=5:=sp_ h2;refine z_6 ?_;refine z_2 ?_;exact ⟨_,D5 rfl b2U,(by exact .inl ⟨(tk T n,n+1),a0G rfl (a44 _ _),by rw [G0,n_1 hk,n_0 h5],hW n hn (by rw [hk];exact h5)⟩)⟩
  ·have h5:k=5:=sp_ h2;refine z_2 ?_;exact ⟨_,D5 rfl b2U,(by exact .inl ⟨(tk T n,n),a0G rfl (a44 _ _),by rw [G0,n_1 hk,n_1 h5],hn⟩)⟩
theorem a61 {n:Nat} {ps:List Str} {b:List Ex} (hT:T.length<=1000000) (hn:n < T.length) (hW:a0B T) (k:Int) {s:Nat} (ao:PAt σ q s T n ps b):b8 CC 235 [.ptr q 0,iv k] σ (a3S (fun a:Tok × Nat=>.agg a.1.cells) (fun a=>σ.set q (pbx T a.2 ps b s)) (fun a=>G0 T n k=some a/\a.2 < T.length) σ q s (G0 T n k=none)) :=
 a0K (c:=fun a:Tok × Nat=>.agg a.1.cells) (N:=fun a=>a.2) (fun _ h=>by simp at h;subst h;exact .val _) (fun _=>Z9 _) (c5U T n ps b hT hn hW k) ao
def P6 (u:Str):Bool:=decide (u∈([[112,97,99,107,97,103,101],[105,109,112,111,114,116],[102,117,110,99],[116,101,115,116],[103,101,110],[105,102],[116,104,101,110],[101,108,115,101],[114,101,97,100],[115,105,122,101],[104,97,115],[101,110,118],[102,108,105,112]]:List Str))
theorem a2n (u:Str) (σ:List b9):b8 CC 236 [(sv u)] σ fun r Y=>r = .ret (.val (.bool (P6 u)))/\Y=σ:=by
 refine b8.anyw hCC pu_ pu_ (c7 (qO Tryz.func236 ?_)) σ;refine qY N6 ?_;refine qC ?_ ?_<;>intro h1
 ·have e:u=[112,97,99,107,97,103,101]:=sp_ h1;refine qC ?_ ?_<;>intro h2
  ·refine c6 ?_;exact ⟨_,rE1,_,_,rfl,rfl,j8 (show true=P6 u by rw [e];decide)⟩
  ·exfalso;rw [h1] at h2;cases h2
 ·have e1:¬ u=[112,97,99,107,97,103,101]:=sp_ h1;refine qY N6 ?_;refine qC ?_ ?_<;>intro h3
  ·have e:u=[105,109,112,111,114,116]:=sp_ h3;refine qC ?_ ?_<;>intro h4
   ·refine c6 ?_;exact ⟨_,rE1,_,_,rfl,rfl,j8 (show true=P6 u by rw [e];decide)⟩
   ·exfalso;rw [h3] at h4;cases h4
  ·have e2:¬ u=[105,109,112,111,114,116]:=sp_ h3;refine qY N6 ?_;refine qC ?_ ?_<;>intro h5
   ·have e:u=[102,117,110,99]:=sp_ h5;refine qC ?_ ?_<;>intro h6
    ·refine c6 ?_;exact ⟨_,rE1,_,_,rfl,rfl,j8 (show true=P6 u by rw [e];decide)⟩
    ·exfalso;rw [h5] at h6;cases h6
   ·have e3:¬ u=[102,117,110,99]:=sp_ h5;refine qY N6 ?_;refine qC ?_ ?_<;>intro h7
    ·have e:u=[116,101,115,116]:=sp_ h7;refine qC ?_ ?_<;>intro h8
     ·refine c6 ?_;exact ⟨_,rE1,_,_,rfl,rfl,j8 (show true=P6 u by rw [e];decide)⟩
     ·exfalso;rw [h7] at h8;cases h8
    ·have e4:¬ u=[116,101,115,116]:=sp_ h7;refine qY N6 ?_;refine qC ?_ ?_<;>intro h9
     ·have e:u=[103,101,110]:=sp_ h9;refine qC ?_ ?_<;>intro aU
      ·refine c6 ?_;exact ⟨_,rE1,_,_,rfl,rfl,j8 (show true=P6 u by rw [e];decide)⟩
      ·exfalso;rw [h9] at aU;cases aU
     ·have e5:¬ u=[103,101,110]:=sp_ h9;refine qY N6 ?_;refine qC ?_ ?_<;>intro ck
      ·have e:u=[105,102]:=sp_ ck;refine qC ?_ ?_<;>intro cQ
       ·refine c6 ?_;exact ⟨_,rE1,_,_,rfl,rfl,j8 (show true=P6 u by rw [e];decide)⟩
       ·exfalso;rw [ck] at cQ;cases cQ
      ·have e6:¬ u=[105,102]:=sp_ ck;refine qY N6 ?_;refine qC ?_ ?_<;>intro dk
       ·have e:u=[116,104,101,110]:=sp_ dk;refine qC ?_ ?_<;>intro gA
        ·refine c6 ?_;exact ⟨_,rE1,_,_,rfl,rfl,j8 (show true=P6 u by rw [e];decide)⟩
        ·exfalso;rw [dk] at gA;cases gA
       ·have e7:¬ u=[116,104,101,110]:=sp_ dk;refine qY N6 ?_;refine qC ?_ ?_<;>intro h15
        ·have e:u=[101,108,115,101]:=sp_ h15;refine qC ?_ ?_<;>intro h16
         ·refine c6 ?_;exact ⟨_,rE1,_,_,rfl,rfl,j8 (show true=P6 u by rw [e];decide)⟩
         ·exfalso;rw [h15] at h16;cases h16
        ·have e8:¬ u=[101,108,115,101]:=sp_ h15;refine qY N6 ?_;refine qC ?_ ?_<;>intro h17
         ·have e:u=[114,101,97,100]:=sp_ h17;refine qC ?_ ?_<;>intro h18
          ·refine c6 ?_;exact ⟨_,rE1,_,_,rfl,rfl,j8 (show true=P6 u by rw [e];decide)⟩
          ·exfalso;rw [h17] at h18;cases h18
         ·have e9:¬ u=[114,101,97,100]:=sp_ h17;refine qY N6 ?_;refine qC ?_ ?_<;>intro h19
          ·have e:u=[115,105,122,101]:=sp_ h19;refine qC ?_ ?_<;>intro h20
           ·refine c6 ?_;exact ⟨_,rE1,_,_,rfl,rfl,j8 (show true=P6 u by rw [e];decide)⟩
           ·exfalso;rw [h19] at h20;cases h20
          ·have e10:¬ u=[115,105,122,101]:=sp_ h19;refine qY N6 ?_;refine qC ?_ ?_<;>intro h21
           ·have e:u=[104,97,115]:=sp_ h21;refine qC ?_ ?_<;>intro h22
            ·refine c6 ?_;exact ⟨_,rE1,_,_,rfl,rfl,j8 (show true=P6 u by rw [e];decide)⟩
            ·exfalso;rw [h21] at h22;cases h22
           ·have e11:¬ u=[104,97,115]:=sp_ h21;refine qY N6 ?_;refine qC ?_ ?_<;>intro h23
            ·have e:u=[101,110,118]:=sp_ h23;refine qC ?_ ?_<;>intro h24
             ·refine c6 ?_;exact ⟨_,rE1,_,_,rfl,rfl,j8 (show true=P6 u by rw [e];decide)⟩
             ·exfalso;rw [h23] at h24;cases h24
            ·have e12:¬ u=[101,110,118]:=sp_ h23;refine qY N6 ?_;refine qC ?_ ?_<;>intro h25
             ·have e:u=[102,108,105,112]:=sp_ h25;refine c6 ?_;exact ⟨_,rE1,_,_,rfl,rfl,j8 (show true=P6 u by rw [e];decide)⟩
             ·have e13:¬ u=[102,108,105,112]:=sp_ h25;refine c6 ?_;exact ⟨_,rE1,_,_,rfl,rfl,j8 (show false=P6 u by simp [P6,e1,e2,e3,e4,e5,e6,e7,e8,e9,e10,e11,e12,e13])⟩
def ixS:List Str->Str->Nat->Int
 | [],_,_=>-1
 | y::l,x,i=>if y=x then i else ixS l x (i+1)
theorem a9Z {l:List Str} {y:Str} (h:l[i]? = some y) (x:Str):ixS (l.drop i) x i=if y=x then (i:Int) else ixS (l.drop (i+1)) x (i+1):=by
 obtain ⟨ae,rfl⟩:=n_3.1 h;rw [R4 ae];rfl
theorem a7C (x:Str):∀ (l:List Str) (i:Nat),(x∉l/\ixS l x i = -1)\/(x∈l/\(i:Int)<=ixS l x i/\ixS l x i < i+l.length)
 | [],_=>.inl ⟨si_,rfl⟩
 | y::l,i=>by
  rw [ixS];by_cases h:y=x
  ·rw [n_1 h];exact .inr ⟨by simp [h],om_,by simp;omega⟩
  ·rw [n_0 h]
   rcases a7C x l (i+1) with ⟨h1,h2⟩ | ⟨h1,h2,h3⟩
   ·exact .inl ⟨by simp [h1,Ne.symm h],h2⟩
   ·exact .inr ⟨by simp [h1],om_,by simp;omega⟩
theorem d0X {l:List Str} {x:Str}:0<=ixS l x 0↔x∈l:=by
 rcases a7C x l 0 with ⟨h1,h2⟩ | ⟨h1,h2,_⟩
 ·rw [h2];simp [h1]
 ·simp [h1];omega
theorem a8n (l:List Str) (nn:Bool) (x:Str) (hl:l.length<=1000000000) (σ:List b9):b8 CC 205 [(.list (l.map scv) nn none),(sv x)] σ fun r Y=>r = .ret (iv (ixS l x 0))/\Y=σ:=by
 refine b8.anyw hCC pu_ pu_ (c7 (qO Tryz.func205 ?_)) σ;refine qY I7 ?_;refine j7 hCC (α:=Nat) (fun i=>[(0,(.list (l.map scv) nn none)),(1,(sv x)),(7,iv l.length),(8,iv i)]) (fun _=>[]) (fun i=>i<=l.length/\ixS l x 0=ixS (l.drop i) x i) (fun i=>l.length - i) 0 ⟨n_5 _,rfl⟩ tu_ (ah:=[]) rfl w8 uz_ ?_;intro i ⟨hi,hr⟩;refine qk (qC ?_ ?_)<;> intro h1
 ·have ae:(i:Int) < l.length:=sp_ h1;obtain ⟨y,hb⟩:=gx_ l i;rw [a9Z hb] at hr;refine b1Z ?_;refine qC ?_ ?_<;>intro h2
  ·have hx:y=x:=(show x=y by simpa using h2).symm;rw [n_1 hx] at hr;exact d2X
  ·have hx:¬ y=x:=fun e=>by subst e;simp at h2
   rw [n_0 hx] at hr;exact a8I
 ·have aE:i=l.length:=by
   have:¬ (i:Int) < l.length:=sp_ h1;omega
  refine V9 ?_;exact ⟨_,rE1,_,_,rfl,rfl,F1 (by rw [hr,aE,b5m];rfl)⟩
theorem a6u (l:List Str) (nn:Bool) (x:Str) (hl:l.length<=1000000000):b8 CC 160 [(.list (l.map scv) nn none),(sv x)] [] fun r Y=>r = .ret (.val (.bool (decide (x∈l))))/\Y=[]:=by
 refine c7 (qO Tryz.func160 ?_);refine qY (c4 rfl Tryz.call205 j1 (a8n l nn x hl _) rfl) ?_;refine c6 ?_;exact ⟨_,rE1,_,_,rfl,rfl,j8 (b5V.2 d0X)⟩
theorem a0g (l:List Str) (nn:Bool) (x:Str) (hl:l.length<=1000000000) (σ:List b9):b8 CC 160 [(.list (l.map scv) nn none),(sv x)] σ fun r Y=>r = .ret (.val (.bool (decide (x∈l))))/\Y=σ :=
 b8.anyw hCC pu_ pu_ (a6u l nn x hl) σ
theorem a4F {n n1:Nat} {k:Int} (h:G0 T n k=some (t,n1)):t=tk T n:=by
 unfold G0 at h;split at h
 ·injection h with h;injection h with h _;exact h.symm
 ·cases h
def c7S (T:List Tok):Prop:=∀ n,(tk T n).t.length<=1000000
def J3 (T:List Tok) (n:Nat):Option (Tok × Nat):=(G0 T n 1).bind fun x=>if P6 x.1.t=true then none else some x
def a0o (T:List Tok) (n:Nat):Option (Tok × Nat):=(G0 T n 3).bind fun x=>if G6 x.1.t=true then some x else none
theorem c7k (T:List Tok) (n:Nat) (ps:List Str) (b:List Ex) (hT:T.length<=1000000) (hn:n < T.length) (hW:a0B T):b8 CC 192 [.ptr 0 0] (pst T n ps b) (a28 (fun a:Tok × Nat=>.agg a.1.cells) (fun a=>pst T a.2 ps b) (fun a=>J3 T n=some a/\a.2 < T.length) (J3 T n=none)):=by
 refine qO Tryz.func192 ?_;refine qD (p7 rfl a2g rfl j4 ?_);refine qD (o6 rfl c85 o4 (a61 hT hn hW 1 ⟨rfl,rfl,de_⟩) rfl (fun x hx=>.inr ⟨x,j9,by rw [J3,hx.1];rfl,hx.2⟩) ?_);rintro ⟨t,n1⟩ ⟨ht,aZ⟩;have hte:=a4F ht;subst hte;dsimp only at ht aZ ⊢;refine z_1 ?_;refine qY (c4 rfl c7o ⟨tt,tt⟩ (a2n (tk T n).t _) rfl) ?_;refine qC ?_ ?_<;>intro h1
 ·have hr:P6 (tk T n).t=true:=sp_ h1;exact a2d rfl rfl (O2 rfl a4M o4 (N7 _ _ _) rfl (fun _ _=>.inr ⟨(_,_),j9,by rw [J3,ht,n_8,n_1 hr],si_⟩))
 ·have hr:P6 (tk T n).t=false:=sp_ h1;refine z_2 ?_;exact ⟨_,D5 rfl b2U,(by exact .inl ⟨(tk T n,n1),a0G rfl (a44 _ _),by rw [J3,ht,n_8,n_0 (by rw [hr];decide)],aZ⟩)⟩
theorem a9h {n:Nat} {ps:List Str} {b:List Ex} (hT:T.length<=1000000) (hn:n < T.length) (hW:a0B T) {s:Nat} (ao:PAt σ q s T n ps b):b8 CC 192 [.ptr q 0] σ (a3S (fun a:Tok × Nat=>.agg a.1.cells) (fun a=>σ.set q (pbx T a.2 ps b s)) (fun a=>J3 T n=some a/\a.2 < T.length) σ q s (J3 T n=none)) :=
 a0K (c:=fun a:Tok × Nat=>.agg a.1.cells) (N:=fun a=>a.2) (fun _ h=>by cases h) (fun _=>Z9 _) (c7k T n ps b hT hn hW) ao
theorem c6A (T:List Tok) (n:Nat) (ps:List Str) (b:List Ex) (hT:T.length<=1000000) (hn:n < T.length) (hW:a0B T) (hL:c7S T):b8 CC 237 [.ptr 0 0] (pst T n ps b) (a28 (fun a:Tok × Nat=>.agg a.1.cells) (fun a=>pst T a.2 ps b) (fun a=>a0o T n=some a/\a.2 < T.length) (a0o T n=none)):=by
 refine qO Tryz.func237 ?_;refine qD (p7 rfl a2g rfl j4 ?_);refine qD (o6 rfl c85 o4 (a61 hT hn hW 3 ⟨rfl,rfl,de_⟩) rfl (fun x hx=>.inr ⟨x,j9,by rw [a0o,hx.1];rfl,hx.2⟩) ?_);rintro ⟨t,n1⟩ ⟨ht,aZ⟩;have hte:=a4F ht;subst hte;dsimp only at ht aZ ⊢;refine z_1 ?_;refine qY (c4 rfl c2U ⟨tt,tt⟩ (a1g (tk T n).t (by have:=hL n;omega) _) rfl) ?_;refine qC ?_ ?_<;>intro h1
 ·have hr:G6 (tk T n).t=false:=sp_ h1;exact a2d rfl rfl (O2 rfl a4M o4 (N7 _ _ _) rfl (fun _ _=>.inr ⟨(_,_),j9,by rw [a0o,ht,n_8,n_0 (by rw [hr];decide)],si_⟩))
 ·have hr:G6 (tk T n).t=true:=sp_ h1;refine z_2 ?_;exact ⟨_,D5 rfl b2U,(by exact .inl ⟨(tk T n,n1),a0G rfl (a44 _ _),by rw [a0o,ht,n_8,n_1 hr],aZ⟩)⟩
theorem a87 {n:Nat} {ps:List Str} {b:List Ex} (hT:T.length<=1000000) (hn:n < T.length) (hW:a0B T) (hL:c7S T) {s:Nat} (ao:PAt σ q s T n ps b):b8 CC 237 [.ptr q 0] σ (a3S (fun a:Tok × Nat=>.agg a.1.cells) (fun a=>σ.set q (pbx T a.2 ps b s)) (fun a=>a0o T n=some a/\a.2 < T.length) σ q s (a0o T n=none)) :=
 a0K (c:=fun a:Tok × Nat=>.agg a.1.cells) (N:=fun a=>a.2) (fun _ h=>by cases h) (fun _=>Z9 _) (c6A T n ps b hT hn hW hL) ao
def V8 (b:List Ex) (x:Ex):Option (Nat × List Ex):=if b.length=256 then none else some (b.length,b++[x])
theorem c7y (T:List Tok) (n:Nat) (ps:List Str) (b:List Ex) (_:T.length<=1000000) (_:n < T.length) (hb:b.length<=256) (t:Tok) (x:Ex):b8 CC 279 [.ptr 0 0,.agg t.cells,.agg x.cells] (pst T n ps b) (a28 (fun a:Nat × List Ex=>(iv a.1)) (fun a=>a5P T n ps a.2) (fun a=>V8 b x=some a/\a.2.length<=256) (V8 b x=none)):=by
 refine qO Tryz.func279 ?_;refine b3W ?_;refine qY b4Y ?_;refine qC ?_ ?_<;>intro h1
 ·have h256:b.length=256:=sm_ h1;exact a2d rfl rfl (O2 rfl a4M o4 (N7 _ _ _) rfl (fun _ _=>.inr ⟨(_,_),j9,by rw [V8,n_1 h256],si_⟩))
 ·have h256:¬ b.length=256:=sm_ h1;have da:(b++[x]).length=b.length+1:=by simp
  refine d2N ?_;refine chf rfl b5w ?_;refine chf rfl (c9 rfl (j5 rfl tt rfl c23 rfl b03 de_)) ?_;refine chf rfl (c9 rfl b9U) ?_;refine chf rfl (c9 rfl c4c) ?_;refine chf rfl d6B ?_;refine D6 ?_;refine B8 rfl rfl rfl (F4 rfl tt tt rfl si_ q_2 b1j a7z Tryz.typeInfo212 b4g rfl (.inr rfl) q_7 (by have hb:Tryz.t212.bytes=64:=rfl;rw [hb];first|omega|(simp;done)|(simp;omega)) G7 ((b++[x]).map Ex.cv) (b++[x]).length si_ si_ ?_);refine c6o ?_;refine D7 rfl rfl (c9 rfl (j5 rfl tt rfl c23 rfl b03 de_)) ⟨tt,?_⟩;refine d1E ?_;refine b5z ?_;refine c6 ?_;exact ⟨_,rE1,(by rw [show (((b++[x]).length:Int) - 1)=(b.length:Int) by omega];exact .inl ⟨(b.length,b++[x]),Y2 (k:=4) rfl rfl de_ (.val _),by rw [V8,n_0 h256],by show (b++[x]).length<=256;omega⟩)⟩
theorem a0j {n:Nat} {ps:List Str} {b:List Ex} (hT:T.length<=1000000) (hn:n < T.length) (hb:b.length<=256) (t:Tok) (x:Ex) {s:Nat} (ao:PAt σ q s T n ps b):b8 CC 279 [.ptr q 0,.agg t.cells,.agg x.cells] σ (a3S (fun a:Nat × List Ex=>(iv a.1)) (fun a=>(σ.set q (pbx T n ps a.2 σ.length)).set s .dead++[r7 a.2.length]) (fun a=>V8 b x=some a/\a.2.length<=256) σ q s (V8 b x=none)) :=
 a2Q (c:=fun a:Nat × List Ex=>(iv a.1)) (N:=fun _=>n) (B:=fun a=>a.2) (fun _ h=>by simp at h;rcases h with rfl | rfl;exact Z9 _;exact o8 x.pure) (fun _=>.val _) (c7y T n ps b hT hn hb t x) ao
theorem d0T {n:Nat} {ps:List Str} {b:List Ex} (hτ:τ=pbx T n ps b 1::r7 b.length::rest) (hc:E9 2 [0,1] c c'):F8 2 τ (.ret c) (.ret c') (pst T n ps b):=by
 subst hτ;exact ⟨[0,1],rfl,rfl,.ret hc,.inr ⟨_,rfl,.same rfl (a25 de_)⟩,.inr ⟨_,rfl,.same rfl G5⟩,tt⟩
theorem a0e {f:α->List CV} {nn:Bool} {tok:Option Nat} (h:∀ a,T0 (f a)) (l:List α):E9 L am (.list (l.map f) nn tok) (.list (l.map f) nn none) :=
 .list (fun r hr c hc=>(D8 (f:=f) (fun a=>(h a).all) _ r hr c hc).old) (fun j hj=>by cases hj)
def a19:Nat->List Tok->Nat->List Str->Option (List Str × Nat)
 | 0,_,_,_=>none
 | f+1,T,n,l=>(J3 T n).bind fun x=>if l.length=8 then none else if x.1.t∈l then none else
  if isT (tk T x.2) 4 [44]=true then a19 f T (x.2+1) (l++[x.1.t]) else (pIs T x.2 4 [41]).bind fun m=>some (l++[x.1.t],m)
def K5 (T:List Tok) (n:Nat):Option (List Str × Nat):=(pIs T n 4 [40]).bind fun m=>if isT (tk T m) 4 [41]=true then some ([],m+1) else a19 9 T m []
theorem T7 (l:List α) (x:α):(l++[x]).length=l.length+1:=by simp
theorem b1e (T:List Tok) (n:Nat) (ps:List Str) (b:List Ex) (hT:T.length<=1000000) (hn:n < T.length) (hW:a0B T):b8 CC 240 [.ptr 0 0] (pst T n ps b) (a28 (fun a:List Str × Nat=>.list (a.1.map scv) (gnn a.1.length) none) (fun a=>pst T a.2 ps b) (fun a=>K5 T n=some a/\a.2 < T.length/\a.1.length<=8) (K5 T n=none)):=by
 refine qO Tryz.func240 ?_;refine qD (o6 rfl a5o o4 (P3 hT hn hW [40] ⟨rfl,rfl,de_⟩) rfl (fun x hx=>.inr ⟨x,j9,by rw [K5,hx.1];rfl,hx.2⟩) ?_);rintro n1 ⟨bq,aZ⟩;dsimp only at bq aZ ⊢;refine qD (c5 rfl c2A o4 (a1i hT aZ hW [41] ⟨rfl,rfl,de_⟩) rfl ?_);rintro ⟨ac,n2⟩ ⟨ha,cb,dX⟩;dsimp only at ha cb dX ⊢;refine qC ?_ ?_<;>intro h1
 ·have hc:isT (tk T n1) 4 [41]=true:=by rw [<- ha];simpa using h1
  rw [n_1 hc] at cb;refine c6 ?_;exact ⟨_,rE1,(by exact .inl ⟨([],n2),a0G rfl (C1 _ [] false),by rw [K5,bq,n_8,n_1 hc,cb],dX,by show 0<=8;decide⟩)⟩
 ·have hc:¬ isT (tk T n1) 4 [41]=true:=by rw [<- ha];simpa using h1
  rw [n_0 hc] at cb;refine B9 hCC 2 rfl (α:=List Str × Nat) (fun x=>[(0,.ptr 0 0),(3,(.list (x.1.map scv) (gnn x.1.length) (G9 x.1.length 2)))]) (fun x=>[pbx T x.2 ps b 1,r7 b.length,r7 x.1.length]) (fun x=>x.1.length<=8/\x.2 < T.length/\K5 T n=a19 (9 - x.1.length) T x.2 x.1) (fun x=>9 - x.1.length) ⟨([],n2),[0,1,7],⟨n_5 _,dX,by rw [K5,bq,n_8,n_0 hc,cb];rfl⟩,⟨rfl,rfl⟩,ut_,uq_⟩ ?_;intro ⟨l,m⟩ ⟨hl,hm,af⟩;dsimp only at hl hm af ⊢;obtain ⟨f,hf⟩:∃ f,9 - l.length=f+1:=⟨8 - l.length,om_⟩;rw [hf,a19] at af;refine qk (qD (o6 rfl c0v ⟨tt,tt⟩ (a9h hT hm hW ⟨rfl,rfl,de_⟩) rfl (fun x hx=>.inr ⟨x,j9,by rw [af,hx.1];rfl,hx.2⟩) ?_));rintro ⟨t,m1⟩ ⟨ht,dy⟩;dsimp only at ht dy ⊢;rw [ht,n_8] at af;dsimp only at af;refine z_1 ?_;refine qY I7 ?_;refine qC ?_ ?_<;>intro h2
  ·have h8:l.length=8:=sm_ h2;rw [n_1 h8] at af;exact a2d rfl rfl (O2 rfl a4M o4 (N7 _ _ _) rfl (fun _ _=>.inr ⟨(_,_),j9,af,si_⟩))
  ·have h8:¬ l.length=8:=sm_ h2;rw [n_0 h8] at af;refine qY (c4 rfl c32 j1 (a0g l (gnn l.length) t.t om_ _) rfl) ?_;refine qC ?_ ?_<;>intro h3
   ·have hi:t.t∈l:=sp_ h3;rw [n_1 hi] at af;exact a2d rfl rfl (O2 rfl a4M o4 (N7 _ _ _) rfl (fun _ _=>.inr ⟨(_,_),j9,af,si_⟩))
   ·have hi:¬ t.t∈l:=sp_ h3;rw [n_0 hi] at af;have eo:=T7 l t.t;refine qY (B3 [scv t.t] rfl ⟨tt,tt⟩ t_2 t_0 t_3 rfl rfl rfl rfl rfl rfl rfl rfl rfl) ?_;refine qD (F4 rfl tt tt rfl si_ q_2 t_2 t_0 a4b t_3 rfl (.inr rfl) q_7 a4s G7 ((l++[t.t]).map scv) (l++[t.t]).length si_ si_ ?_);refine qD (c5 rfl c2A o4 (a1i hT dy hW [44] ⟨rfl,rfl,de_⟩) rfl ?_);rintro ⟨ac2,m2⟩ ⟨ha2,cp,fS⟩;dsimp only at ha2 cp fS ⊢;refine qC ?_ ?_<;>intro h4
    ·have db:¬ isT (tk T m1) 4 [44]=true:=by rw [<- ha2];simpa using h4
     rw [n_0 db] at cp af;subst cp;refine j6 ?_;refine qD (o6 rfl a5o o4 (P3 hT fS hW [41] ⟨rfl,rfl,de_⟩) rfl (fun x hx=>.inr ⟨x,j9,by rw [af,hx.1];rfl,hx.2⟩) ?_);rintro m3 ⟨fz,fR⟩;dsimp only at fz fR ⊢;refine c6 ?_;exact ⟨_,rE1,(by exact .inl ⟨(l++[t.t],m3),d0T rfl (a0e (f:=scv) (fun _=>⟨.val _,tt⟩) _),by rw [af,fz];rfl,fR,by show (l++[t.t]).length<=8;omega⟩)⟩
    ·have db:isT (tk T m1) 4 [44]=true:=by rw [<- ha2];simpa using h4
     rw [n_1 db] at cp af;subst cp;exact ⟨(l++[t.t],m1+1),[0,1,4],⟨do_,do_,fS,by dsimp only;rw [af,show 9 - (l++[t.t]).length=f by omega]⟩,⟨rfl,rfl⟩,ut_,uq_⟩
theorem b1m {n:Nat} {ps:List Str} {b:List Ex} (hT:T.length<=1000000) (hn:n < T.length) (hW:a0B T) {s:Nat} (ao:PAt σ q s T n ps b):b8 CC 240 [.ptr q 0] σ (a3S (fun a:List Str × Nat=>.list (a.1.map scv) (gnn a.1.length) none) (fun a=>σ.set q (pbx T a.2 ps b s)) (fun a=>K5 T n=some a/\a.2 < T.length/\a.1.length<=8) σ q s (K5 T n=none)) :=
 a0K (c:=fun a:List Str × Nat=>.list (a.1.map scv) (gnn a.1.length) none) (N:=fun a=>a.2) (fun _ h=>by cases h) (fun _=>E7 _ _) (b1e T n ps b hT hn hW) ao
def F0 (op:Int):Int:=if op=6\/op=7 then 1 else if op=1\/op=2 then 2 else 3
def S0:List (Int × Str):=[(1,[43]),(2,[45]),(3,[42]),(4,[47]),(5,[37]),(6,[60]),(7,[61,61])]
theorem a62 (op:Int) (σ:List b9):b8 CC 319 [iv op] σ fun r Y=>r = .ret (iv (F0 op))/\Y=σ:=by
 refine b8.anyw hCC pu_ pu_ (c7 (qO Tryz.func319 ?_)) σ;refine qC ?_ ?_<;>intro h1
 ·have e:op=6:=sp_ h1;refine qC ?_ ?_<;>intro h2
  ·refine c6 ?_;exact ⟨_,rE1,_,_,rfl,rfl,F1 (show (1:Int)=F0 op by rw [F0,n_1 (.inl e)])⟩
  ·rw [h1] at h2;cases h2
 ·have e6:¬ op=6:=sp_ h1;refine qC ?_ ?_<;>intro h6
  ·have e:op=7:=sp_ h6;refine c6 ?_;exact ⟨_,rE1,_,_,rfl,rfl,F1 (show (1:Int)=F0 op by rw [F0,n_1 (.inr e)])⟩
  ·have e7:¬ op=7:=sp_ h6;refine qC ?_ ?_<;>intro h7
   ·have e:op=1:=sp_ h7;refine qC ?_ ?_<;>intro h8
    ·refine c6 ?_;exact ⟨_,rE1,_,_,rfl,rfl,F1 (show (2:Int)=F0 op by rw [F0,n_0 om_,n_1 (.inl e)])⟩
    ·rw [h7] at h8;cases h8
   ·have e1:¬ op=1:=sp_ h7;refine qC ?_ ?_<;>intro h9
    ·have e:op=2:=sp_ h9;refine c6 ?_;exact ⟨_,rE1,_,_,rfl,rfl,F1 (show (2:Int)=F0 op by rw [F0,n_0 om_,n_1 (.inr e)])⟩
    ·have e2:¬ op=2:=sp_ h9;refine c6 ?_;exact ⟨_,rE1,_,_,rfl,rfl,F1 (show (3:Int)=F0 op by rw [F0,n_0 om_,n_0 om_])⟩
theorem d2V (m:List (Int × Str)):a26 (.map (gm kv sv m)):=fun x hx=>by
 obtain ⟨y,_,rfl⟩:=I9.1 hx;exact ⟨.val _,.val _⟩
theorem c3P:b8 CC 307 [] [] fun r τ=>∃ _:Unit,a0T [b9.map (gm kv sv S0)].length τ r (.ret (.map 0))/\a8Q [b9.map (gm kv sv S0)].length τ τ [b9.map (gm kv sv S0)]/\([]:List b9).length<=[b9.map (gm kv sv S0)].length/\True:=by
 refine qO Tryz.func307 ?_;refine qD (S4 rfl ?_);refine qD (l8 (vc:=sv) (l:=S0.take 0) a0m (.inr rfl) tt rfl rfl rfl rfl rfl a1Y rfl ?_);refine qD (l8 (vc:=sv) (l:=S0.take 1) a0m (.inr rfl) tt rfl rfl rfl rfl rfl a1Y rfl ?_);refine qD (l8 (vc:=sv) (l:=S0.take 2) a0m (.inr rfl) tt rfl rfl rfl rfl rfl a1Y rfl ?_);refine qD (l8 (vc:=sv) (l:=S0.take 3) a0m (.inr rfl) tt rfl rfl rfl rfl rfl a1Y rfl ?_);refine qD (l8 (vc:=sv) (l:=S0.take 4) a0m (.inr rfl) tt rfl rfl rfl rfl rfl a1Y rfl ?_);refine qD (l8 (vc:=sv) (l:=S0.take 5) a0m (.inr rfl) tt rfl rfl rfl rfl rfl a1Y rfl ?_);refine qD (l8 (vc:=sv) (l:=S0.take 6) a0m (.inr rfl) tt rfl rfl rfl rfl rfl a1Y rfl ?_);refine c6 ?_;exact ⟨_,rE1,(by exact ⟨(),.ret (.old (.map (Nat.zero_lt_one))),⟨.same (d2V _).old,tt⟩,n_5 _,tt⟩)⟩
theorem b5K (σ:List b9):b8 CC 307 [] σ fun r τ=>∃ _:Unit,r = .ret (.map σ.length)/\τ=σ++[.map (gm kv sv S0)]/\True :=
 a0L (α:=Unit) (obs:=[]) (args:=[]) (res:=fun _=>.ret (.map 0)) (res':=fun _=>.ret (.map σ.length)) (S:=fun _=>[]) (N:=fun _=>[.map (gm kv sv S0)]) (P:=fun _=>True) [] hCC rfl (fun i j k h=>by simp at h) (fun i k h=>by simp at h) (fun ob h=>by cases h) ⟨rfl,fun i c c' h=>by simp at h⟩
  (W9 (res:=fun _=>.ret (.map 0)) (S:=fun _=>[.map (gm kv sv S0)]) (P:=fun _=>True) hCC c3P) (fun m _=>⟨rfl,fun ob h=>by simp at h;subst h;exact d2V _⟩) (fun m _=>.ret (.map (.inr ⟨n_5 _,rfl⟩)))
def opM (t:Tok) (lv:Int) (x:Int × Str):Bool:=(t.k == 4) && decide (t.t=x.2) && (F0 x.1 == lv)
def opS (t:Tok) (lv:Int):Int:=((S0.find? (opM t lv)).map (·.1)).getD 0
theorem d5a:∀ x∈S0,∀ y∈S0,x.2=y.2->x=y:=by decide
theorem a4o {x:Int × Str} (hx:x∈S0) (h:opM t lv x=true):opS t lv=x.1:=by
 unfold opS;cases hf:S0.find? (opM t lv) with
 | none=>exact absurd h (by simpa using List.find?_eq_none.1 hf x hx)
 | some y =>
  have h1:=List.find?_some hf;have h2:=b7F hf;simp [opM] at h h1;have:=d5a x hx y h2 (by rw [<- h.1.2,<- h1.1.2]);rw [this];rfl
theorem a92 (h:∀ x∈S0,opM t lv x=false):opS t lv=0:=by
 unfold opS;have:S0.find? (opM t lv)=none:=List.find?_eq_none.2 fun x hx=>by simp [h x hx]
 rw [this];rfl
theorem b3X {l:List α} (hy:l[i]? = some y) (h:x∈l):x=y\/x∈l.eraseIdx i:=by
 obtain ⟨j,hj⟩:=L7.1 h;by_cases dZ:j=i
 ·subst dZ;rw [hy] at hj;injection hj with hj;exact .inl hj.symm
 ·exact .inr (c4N.2 ⟨j,dZ,hj⟩)
theorem b3p (T:List Tok) (n:Nat) (ps:List Str) (b:List Ex) (hT:T.length<=1000000) (hn:n < T.length) (lv:Int):b8 CC 302 [.ptr 0 0,iv lv] (pst T n ps b) (fun r τ=>F8 2 τ r (.ret (iv (opS (tk T n) lv))) (pst T n ps b)):=by
 refine qO Tryz.func302 ?_;refine qY b5i ?_;refine z_1 ?_;refine qD (c5 rfl Tryz.call307 trivial (b5K _) rfl ?_);intro _ _;refine qD (b9M rfl tt rfl a1Y rfl ?_);refine j7 hCC (α:=List (Int × Str) × List (Int × Str)) (fun x=>[(1,iv lv),(5,.ptr 2 0),(11,.ptr 4 0)]) (fun x=>[pbx T n ps b 1,r7 b.length,.box (tk T n).cells,.dead,.iter (gm kv sv x.1) (gm kv sv x.2)]) (fun x=>(∀ y∈x.2,y∈S0)/\∀ y∈S0,y∉x.2->opM (tk T n) lv y=false) (fun x=>x.2.length) ([],S0) ⟨fun y h=>h,fun y h h2=>absurd h h2⟩ tu_ (ah:=[]) rfl w8 uz_ ?_;intro ⟨aD,left⟩ ⟨eo,cz⟩;dsimp only at eo cz ⊢;refine qk (qD (c4F rfl tt rfl rfl (fun hz=>?_) (fun i x hx=>?_)))
 ·
  have dR:left=[]:=by
   cases left with
   | nil=>rfl
   | cons y l=>cases hz
  subst dR;refine qC ?_ ?_<;>intro h1
  ·cases h1
  ·have eE:=a92 (fun y hy=>cz y hy si_);refine V9 ?_;exact ⟨_,rE1,(by rw [eE];exact a0G rfl (.val _))⟩
 ·
  obtain ⟨⟨k,s⟩,hy,rfl⟩:=c7z hx;rw [b54];have bx:=eo _ (n_2 hy);refine qC ?_ ?_<;>intro h3
  ·refine qY (b9Y rfl tt rfl rfl) ?_;refine qG b5G ?_;refine b7q ?_;refine qG C3 ?_;refine qG (fun hg=>c4 rfl Tryz.call319 ⟨hg,tt⟩ (a62 k _) rfl) ?_;refine qG C3 ?_;refine qG a75 ?_;refine qY M8 ?_;refine qC ?_ ?_<;>intro h4
   ·have hm:opM (tk T n) lv (k,s)=true:=h4;have bY:=a4o bx hm;refine c6 ?_;exact ⟨_,rE1,(by rw [bY];exact a0G rfl (.val _))⟩
   ·have hm:opM (tk T n) lv (k,s)=false:=h4;exact ⟨([(k,s)],left.eraseIdx i),_,⟨by dsimp only;rw [List.length_eraseIdx_of_lt (n_3.1 hy).1];have:=(n_3.1 hy).1;omega,fun y hy'=>eo y (List.mem_of_mem_eraseIdx hy'),fun y eQ hy2=>by
     by_cases dT:y∈left
     ·rcases b3X hy dT with rfl | h
      ·exact hm
      ·exact absurd h hy2
     ·exact cz y eQ dT⟩,tu_,rfl⟩
  ·cases h3
theorem b7R {n:Nat} {ps:List Str} {b:List Ex} (hT:T.length<=1000000) (hn:n < T.length) (lv:Int) {s:Nat} (ao:PAt σ q s T n ps b):b8 CC 302 [.ptr q 0,iv lv] σ fun r τ=>r = .ret (iv (opS (tk T n) lv))/\τ=σ:=b8T (fun _ h=>by simp at h;subst h;exact .val _) (.val _) (b3p T n ps b hT hn lv) ao
abbrev PX:=Nat × Nat × List Ex
structure PF where
 ex:Nat->Nat->List Ex->Option PX
 bin:Nat->Nat->Nat->List Ex->Option PX
 lp:Nat->Nat->Nat->Nat->List Ex->Option PX
 fac:Nat->Nat->List Ex->Option PX
 ag:Nat->Nat->List Ex->List Int->Option (List Int × Nat × List Ex)
def a12 (T:List Tok) (F:PF) (d n:Nat) (b:List Ex):Option (List Int × Nat × List Ex) :=
 (pIs T n 4 [40]).bind fun n1=>if isT (tk T n1) 4 [41]=true then some ([],n1+1,b) else F.ag d n1 b []
def K7 (b:List Ex) (x:Ex) (m:Nat):Option PX:=(V8 b x).bind fun w=>some (w.1,m,w.2)
def W5 (T:List Tok) (F:PF) (u:Str) (d n:Nat) (b:List Ex):Option PX :=
 (pIs T n 4 [40]).bind fun n1 =>
  if u=[114,101,97,100] then (a0o T n1).bind fun s=>(pIs T s.2 4 [44]).bind fun n2=>(F.ex (d+1) n2 b).bind fun x=>(pIs T x.2.1 4 [41]).bind fun m=>K7 x.2.2 ⟨6,0,0,s.1.t,[(x.1:Int)]⟩ m
  else if u=[115,105,122,101] then (a0o T n1).bind fun s=>(pIs T s.2 4 [41]).bind fun m=>K7 b ⟨7,0,0,s.1.t,[]⟩ m
  else if u=[104,97,115] then (a0o T n1).bind fun s=>(pIs T s.2 4 [41]).bind fun m=>K7 b ⟨8,0,0,s.1.t,[]⟩ m
  else if u=[101,110,118] then (G0 T n1 3).bind fun s=>if A9 s.1.t=true then (pIs T s.2 4 [41]).bind fun m=>K7 b ⟨9,0,0,s.1.t,[]⟩ m else none
  else (G0 T n1 2).bind fun s=>if 64<=s.1.n then none else (pIs T s.2 4 [41]).bind fun m=>K7 b ⟨10,s.1.n,0,[],[]⟩ m
def G3 (T:List Tok) (ps:List Str) (F:PF):PF where
 ex d n b:=if 32 < d then none else if isT (tk T n) 1 [105,102]=true then
  (F.ex (d+1) (n+1) b).bind fun x=>(pIs T x.2.1 1 [116,104,101,110]).bind fun n2=>(F.ex (d+1) n2 x.2.2).bind fun y=>(pIs T y.2.1 1 [101,108,115,101]).bind fun n3=>(F.ex (d+1) n3 y.2.2).bind fun z =>
   K7 z.2.2 ⟨5,0,0,[],[(x.1:Int),(y.1:Int),(z.1:Int)]⟩ z.2.1
  else F.bin 1 d n b
 bin lv d n b:=if lv=4 then F.fac d n b else (F.bin (lv+1) d n b).bind fun x=>F.lp lv d x.1 x.2.1 x.2.2
 lp lv d x n b:=if opS (tk T n) (lv:Int)=0 then some (x,n,b) else (F.bin (lv+1) d (n+1) b).bind fun y=>(V8 y.2.2 ⟨4,0,opS (tk T n) (lv:Int),[],[(x:Int),(y.1:Int)]⟩).bind fun w =>
  if lv=1 then some (w.1,y.2.1,w.2) else F.lp lv d w.1 y.2.1 w.2
 fac d n b :=
  if (tk T n).k=2 then K7 b ⟨1,(tk T n).n,0,[],[]⟩ (n+1)
  else if isT (tk T n) 4 [45]=true then (G0 T (n+1) 2).bind fun y=>K7 b ⟨1,-y.1.n,0,[],[]⟩ y.2
  else if isT (tk T n) 4 [40]=true then (F.ex (d+1) (n+1) b).bind fun x=>(pIs T x.2.1 4 [41]).bind fun m=>some (x.1,m,x.2.2)
  else if (tk T n).k≠1 then none
  else if (tk T n).t=[114,101,97,100]\/(tk T n).t=[115,105,122,101]\/(tk T n).t=[104,97,115]\/(tk T n).t=[101,110,118]\/(tk T n).t=[102,108,105,112] then W5 T F (tk T n).t d (n+1) b
  else if P6 (tk T n).t=true then none
  else if isT (tk T (n+1)) 4 [40]=true then (a12 T F d (n+1) b).bind fun a=>K7 a.2.2 ⟨3,0,0,(tk T n).t,a.1⟩ a.2.1
  else if ixS ps (tk T n).t 0 < 0 then none else K7 b ⟨2,ixS ps (tk T n).t 0,0,[],[]⟩ (n+1)
 ag d n b bj:=(F.ex (d+1) n b).bind fun x=>if isT (tk T x.2.1) 4 [44]=true then F.ag d (x.2.1+1) x.2.2 (bj++[(x.1:Int)]) else (pIs T x.2.1 4 [41]).bind fun m=>some (bj++[(x.1:Int)],m,x.2.2)
def A0 (T:List Tok) (ps:List Str):Nat->PF
 | 0=>⟨fun _ _ _=>none,fun _ _ _ _=>none,fun _ _ _ _ _=>none,fun _ _ _=>none,fun _ _ _ _=>none⟩
 | f+1=>G3 T ps (A0 T ps f)
def EC (T:List Tok) (ps:List Str) (f:Nat):Prop:=∀ (d n:Nat) (b:List Ex),n < T.length->b.length<=256->d<=33->8*(T.length - n)+6<=f->∀ (σ:List b9) (q s:Nat),PAt σ q s T n ps b->b8 CC 241 [.ptr q 0,iv d] σ (a3S (fun a:PX=>(iv a.1)) (fun a:PX=>(σ.set q (pbx T a.2.1 ps a.2.2 σ.length)).set s .dead++[r7 a.2.2.length]) (fun a:PX=>(A0 T ps f).ex d n b=some a/\n < a.2.1/\a.2.1 < T.length/\a.2.2.length<=256) σ q s ((A0 T ps f).ex d n b=none))
def BC (T:List Tok) (ps:List Str) (f:Nat):Prop:=∀ (lv d n:Nat) (b:List Ex),n < T.length->b.length<=256->1<=lv->lv<=4->d<=32->8*(T.length - n)+6<=f+lv->∀ (σ:List b9) (q s:Nat),PAt σ q s T n ps b->b8 CC 278 [.ptr q 0,iv lv,iv d] σ (a3S (fun a:PX=>(iv a.1)) (fun a:PX=>(σ.set q (pbx T a.2.1 ps a.2.2 σ.length)).set s .dead++[r7 a.2.2.length]) (fun a:PX=>(A0 T ps f).bin lv d n b=some a/\n < a.2.1/\a.2.1 < T.length/\a.2.2.length<=256) σ q s ((A0 T ps f).bin lv d n b=none))
def FC (T:List Tok) (ps:List Str) (f:Nat):Prop:=∀ (d n:Nat) (b:List Ex),n < T.length->b.length<=256->d<=32->8*(T.length - n)+1<=f->∀ (σ:List b9) (q s:Nat),PAt σ q s T n ps b->b8 CC 301 [.ptr q 0,iv d] σ (a3S (fun a:PX=>(iv a.1)) (fun a:PX=>(σ.set q (pbx T a.2.1 ps a.2.2 σ.length)).set s .dead++[r7 a.2.2.length]) (fun a:PX=>(A0 T ps f).fac d n b=some a/\n < a.2.1/\a.2.1 < T.length/\a.2.2.length<=256) σ q s ((A0 T ps f).fac d n b=none))
structure Z3 (T:List Tok) (ps:List Str):Prop where
 len:T.length<=1000000
 w:a0B T
 l:c7S T
 ps:ps.length<=1000000
 nn:∀ i,0<=(tk T i).n/\(tk T i).n<=9007199254740993
variable {ps:List Str} {l:List α} {nn:Bool}
theorem O4 {n:Nat} {k:Int} {s:Str} (h:pIs T n k s=some m):m=n+1:=by
 unfold pIs at h;split at h
 ·injection h with h;exact h.symm
 ·cases h
theorem c6T (hc:Z3 T ps) (hE:EC T ps f) (hB:BC T ps f) (d n:Nat) (b:List Ex) (hn:n < T.length) (hb:b.length<=256) (bR:d<=33) (hf:8*(T.length - n)+6<=f+1):b8 CC 241 [.ptr 0 0,iv d] (pst T n ps b) (a28 (fun a:PX=>(iv a.1)) (fun a=>a5P T a.2.1 ps a.2.2) (fun a:PX=>(A0 T ps (f+1)).ex d n b=some a/\n < a.2.1/\a.2.1 < T.length/\a.2.2.length<=256) ((A0 T ps (f+1)).ex d n b=none)):=by
 have hT:=hc.len;have hW:=hc.w;have af:(A0 T ps (f+1)).ex d n b=(G3 T ps (A0 T ps f)).ex d n b:=rfl;simp only [G3] at af;refine qO Tryz.func241 ?_;refine qY d6R ?_;refine z_1 ?_;refine qC ?_ ?_<;>intro h1
 ·have hd:32 < d:=sm_ h1;rw [n_1 hd] at af;exact a2d rfl rfl (O2 rfl a4M o4 (N7 _ _ _) rfl (fun _ _=>.inr ⟨(_,_),j9,af,si_⟩))
 ·have hd:¬ 32 < d:=sm_ h1;rw [n_0 hd] at af;refine qY (c4 rfl c3w a4x (b2M hT hn 1 [105,102] ⟨rfl,rfl,n_4 rfl⟩) rfl) ?_;refine qC ?_ ?_<;>intro h2
  ·have hi:isT (tk T n) 1 [105,102]=false:=sp_ h2;rw [n_0 (by rw [hi];decide)] at af;refine qD (o6 rfl c82 ⟨tt,rfl,tt,tt⟩ (hB 1 d n b hn hb om_ om_ om_ om_ _ 0 1 ⟨rfl,rfl,n_4 rfl⟩) rfl (fun x hx=>.inr ⟨x,j9,by rw [af];exact hx.1,hx.2⟩) ?_);rintro ⟨i,m,b2⟩ ⟨g1,g2,g3,g4⟩;dsimp only at g1 g2 g3 g4 ⊢;refine qN [pbx T m ps b2 3,.dead,.box (tk T n).cells,r7 b2.length] rfl ?_;refine c6 ?_;exact ⟨_,rE1,(by exact .inl ⟨(i,m,b2),Y2 (k:=3) rfl rfl de_ (.val _),by rw [af];exact g1,g2,g3,g4⟩)⟩
  ·have hi:isT (tk T n) 1 [105,102]=true:=sp_ h2;rw [n_1 hi] at af;have aZ:=hW n hn (a5K hi de_);refine z_6 ?_;refine qY o7 ?_;refine qD (o6 rfl b76 j1 (hE (d+1) (n+1) b aZ hb om_ om_ _ 0 1 ⟨rfl,rfl,n_4 rfl⟩) rfl (fun x hx=>.inr ⟨x,j9,by rw [af,hx.1];rfl,hx.2⟩) ?_);rintro ⟨i1,n1,b1⟩ ⟨x1,y1,z1,w1⟩;dsimp only at x1 y1 z1 w1 ⊢;rw [x1,n_8] at af;dsimp only at af;refine qN [pbx T n1 ps b1 3,.dead,.box (tk T n).cells,r7 b1.length] rfl (qD (o6 rfl c42 o4 (b4m hT z1 hW [116,104,101,110] ⟨rfl,rfl,n_4 rfl⟩) rfl (fun x hx=>.inr ⟨x,j9,by rw [af,hx.1];rfl,hx.2⟩) ?_));rintro n2 ⟨x2,y2⟩;dsimp only at x2 y2 ⊢;rw [x2,n_8] at af;have cb:=O4 x2;refine qN [pbx T n2 ps b1 3,.dead,.box (tk T n).cells,r7 b1.length] rfl (qY o7 ?_);refine qD (o6 rfl b76 j1 (hE (d+1) n2 b1 y2 w1 om_ om_ _ 0 _ ⟨rfl,rfl,n_4 rfl⟩) rfl (fun x hx=>.inr ⟨x,j9,by rw [af,hx.1];rfl,hx.2⟩) ?_);rintro ⟨i3,n3,b3⟩ ⟨x3,y3,z3,w3⟩;dsimp only at x3 y3 z3 w3 ⊢;rw [x3,n_8] at af;dsimp only at af;refine qN [pbx T n3 ps b3 4,.dead,.box (tk T n).cells,.dead,r7 b3.length] rfl (qD (o6 rfl c42 o4 (b4m hT z3 hW [101,108,115,101] ⟨rfl,rfl,n_4 rfl⟩) rfl (fun x hx=>.inr ⟨x,j9,by rw [af,hx.1];rfl,hx.2⟩) ?_));rintro n4 ⟨x4,y4⟩;dsimp only at x4 y4 ⊢;rw [x4,n_8] at af;have hn4:=O4 x4;refine qN [pbx T n4 ps b3 4,.dead,.box (tk T n).cells,.dead,r7 b3.length] rfl (qY o7 ?_);refine qD (o6 rfl b76 j1 (hE (d+1) n4 b3 y4 w3 om_ om_ _ 0 _ ⟨rfl,rfl,n_4 rfl⟩) rfl (fun x hx=>.inr ⟨x,j9,by rw [af,hx.1];rfl,hx.2⟩) ?_);rintro ⟨i5,n5,b5⟩ ⟨x5,y5,z5,w5⟩;dsimp only at x5 y5 z5 w5 ⊢;rw [x5,n_8,K7] at af;dsimp only at af;refine qN [pbx T n5 ps b5 5,.dead,.box (tk T n).cells,.dead,.dead,r7 b5.length] rfl (qY (B3 ([(i1:Int),(i3:Int),(i5:Int)].map icv) rfl C6 t_4 t_1 t_8 rfl rfl rfl rfl rfl rfl rfl rfl rfl) ?_);refine qY a99 ?_;refine qD (o6 rfl b0X C6 (a0j hT z5 w5 (tk T n) ⟨5,0,0,[],[(i1:Int),(i3:Int),(i5:Int)]⟩ ⟨rfl,rfl,n_4 rfl⟩) rfl (fun x hx=>.inr ⟨x,j9,by rw [af,hx.1];rfl,hx.2⟩) ?_);rintro ⟨i6,b6⟩ ⟨x6,y6⟩;dsimp only at x6 y6 ⊢;rw [x6,n_8] at af;refine qN [pbx T n5 ps b6 6,.dead,.box (tk T n).cells,.dead,.dead,.dead,r7 b6.length] rfl ?_;refine c6 ?_;exact ⟨_,rE1,(by exact .inl ⟨(i6,n5,b6),Y2 (k:=6) rfl rfl de_ (.val _),af,do_,z5,y6⟩)⟩
theorem d1s (hc:Z3 T ps) (hE:EC T ps f) (hB:BC T ps f):EC T ps (f+1):=fun d n b hn hb hd hf σ q s ao =>
 a2Q (c:=fun a:PX=>(iv a.1)) (N:=fun a=>a.2.1) (B:=fun a=>a.2.2) (fun _ h=>by simp at h;subst h;exact .val _) (fun _=>.val _) (c6T hc hE hB d n b hn hb hd hf) ao
def kf (ph:Bool):Nat:=if ph=true then 3 else 2
def of1 (ph:Bool) (m:Nat):b9:=if ph=true then .dead else r7 m
def of2 (ph:Bool) (m:Nat):b9:=if ph=true then r7 m else .dead
theorem d4x (h:¬ opS t lv=0):t.k≠5:=fun h5=>h (a92 fun x _=>by simp [opM,h5])
theorem a6d {b:List Ex} {k p:Nat} (h:am[p]? = some k):E9 L am (.list (b.map Ex.cv) (gnn b.length) (G9 b.length k)) (.list (b.map Ex.cv) (gnn b.length) (G9 b.length p)) :=
 .list (fun r hr c hc=>(D8 (f:=Ex.cv) (fun a=>(Ex.pure a).all) _ r hr c hc).old) (fun j hj=>by
  cases hb:b.length with
  | zero=>rw [hb] at hj;cases hj
  | succ m=>rw [hb] at hj;injection hj with hj;subst hj;exact ⟨k,rfl,h⟩)
theorem b9D (hc:Z3 T ps) (hB:∀ g,g<=f->BC T ps g) (hF:FC T ps f) (lv d n:Nat) (b:List Ex) (hn:n < T.length) (hb:b.length<=256) (da:1<=lv) (hl4:lv<=4) (bR:d<=32) (hf:8*(T.length - n)+6<=f+1+lv):b8 CC 278 [.ptr 0 0,iv lv,iv d] (pst T n ps b) (a28 (fun a:PX=>(iv a.1)) (fun a=>a5P T a.2.1 ps a.2.2) (fun a:PX=>(A0 T ps (f+1)).bin lv d n b=some a/\n < a.2.1/\a.2.1 < T.length/\a.2.2.length<=256) ((A0 T ps (f+1)).bin lv d n b=none)):=by
 have hT:=hc.len;have hW:=hc.w;have af:(A0 T ps (f+1)).bin lv d n b=(G3 T ps (A0 T ps f)).bin lv d n b:=rfl;simp only [G3] at af;refine qO Tryz.func278 ?_;refine qC ?_ ?_<;>intro h1
 ·have h4:lv=4:=sm_ h1;rw [n_1 h4] at af;refine qD (o6 rfl Tryz.call301 j1 (hF d n b hn hb bR om_ _ 0 1 ⟨rfl,rfl,n_4 rfl⟩) rfl (fun x hx=>.inr ⟨x,j9,by rw [af];exact hx.1,hx.2⟩) ?_);rintro ⟨i,m,b2⟩ ⟨g1,g2,g3,g4⟩;dsimp only at g1 g2 g3 g4 ⊢;refine qN [pbx T m ps b2 2,.dead,r7 b2.length] rfl ?_;refine c6 ?_;exact ⟨_,rE1,(by exact .inl ⟨(i,m,b2),Y2 (k:=2) rfl rfl de_ (.val _),by rw [af];exact g1,g2,g3,g4⟩)⟩
 ·have h4:¬ lv=4:=sm_ h1;rw [n_0 h4] at af;refine qY o7 ?_;refine qD (o6 rfl c82 C6 (hB f (n_6 _) (lv+1) d n b hn hb om_ om_ bR om_ _ 0 1 ⟨rfl,rfl,n_4 rfl⟩) rfl (fun x hx=>.inr ⟨x,j9,by rw [af,hx.1];rfl,hx.2⟩) ?_);rintro ⟨i1,n1,b1⟩ ⟨x1,y1,z1,w1⟩;dsimp only at x1 y1 z1 w1 ⊢;rw [x1,n_8] at af;dsimp only at af;refine qN [pbx T n1 ps b1 2,.dead,r7 b1.length] rfl ?_;refine B9 hCC 3 rfl (α:=Nat × Nat × List Ex × Bool × Nat) (fun x=>[(0,.ptr 0 0),(1,iv lv),(2,iv d),(7,iv x.1)]) (fun x=>[pbx T x.2.1 ps x.2.2.1 (kf x.2.2.2.1),.dead,of1 x.2.2.2.1 x.2.2.1.length,of2 x.2.2.2.1 x.2.2.1.length]) (fun x=>(A0 T ps (f+1)).bin lv d n b=(A0 T ps x.2.2.2.2).lp lv d x.1 x.2.1 x.2.2.1/\n < x.2.1/\x.2.1 < T.length/\x.2.2.1.length<=256/\x.2.2.2.2<=f/\8*(T.length - x.2.1)+3<=x.2.2.2.2) (fun x=>T.length - x.2.1) ⟨(i1,n1,b1,false,f),[0,1,2,7],⟨af,y1,z1,w1,n_6 _,do_⟩,⟨rfl,rfl⟩,ut_,uq_⟩ ?_;intro ⟨x,m,b2,ph,g⟩ ⟨cV,bI,hm,cq,hgf,hg⟩;dsimp only at cV bI hm cq hgf hg ⊢;obtain ⟨g,rfl⟩:∃ g',g=g'+1:=⟨g - 1,om_⟩;have iq:(A0 T ps (g+1)).lp lv d x m b2=(G3 T ps (A0 T ps g)).lp lv d x m b2:=rfl;simp only [G3] at iq;rw [iq] at cV;refine qk (qY (c4 rfl Tryz.call302 j1 (b7R hT hm (lv:Int) (q:=0) (s:=kf ph) b6o) rfl) ?_);refine qC ?_ ?_<;>intro h2
  ·have h0:opS (tk T m) (lv:Int)=0:=sp_ h2;rw [n_1 h0] at cV;refine c6 ?_;exact ⟨_,rE1,(by exact .inl ⟨(x,m,b2),(by cases ph;exact Y2 (k:=2) rfl rfl de_ (.val _);exact Y2 (k:=3) rfl rfl de_ (.val _)),cV,bI,hm,cq⟩)⟩
  ·have h0:¬ opS (tk T m) (lv:Int)=0:=sp_ h2;rw [n_0 h0] at cV;have dy:=hW m hm (d4x h0);refine qY (c4 rfl c2K ⟨tt,tt⟩ (a2y hT hm (q:=0) (s:=kf ph) b6o) rfl) ?_;refine z_1 ?_;refine z_6 ?_;refine qY o7 ?_;refine qD (o6 rfl c82 C6 (hB g om_ (lv+1) d (m+1) b2 dy cq om_ om_ bR om_ _ 0 (kf ph) b6o) rfl (fun x hx=>.inr ⟨x,j9,by rw [cV,hx.1];rfl,hx.2⟩) ?_);rintro ⟨i3,n3,b3⟩ ⟨x3,y3,z3,w3⟩;dsimp only at x3 y3 z3 w3 ⊢;rw [x3,n_8] at cV;dsimp only at cV;refine qN [pbx T n3 ps b3 5,.dead,.dead,.dead,.box (tk T m).cells,r7 b3.length] O1 ?_;refine qY (B3 ([(x:Int),(i3:Int)].map icv) rfl j1 t_4 t_1 t_8 rfl rfl rfl rfl rfl rfl rfl rfl rfl) ?_;refine qY c2Q ?_;refine qD (o6 rfl b0X C6 (a0j hT z3 w3 (tk T m) ⟨4,0,opS (tk T m) (lv:Int),[],[(x:Int),(i3:Int)]⟩ ⟨rfl,rfl,n_4 rfl⟩) rfl (fun x hx=>.inr ⟨x,j9,by rw [cV,hx.1];rfl,hx.2⟩) ?_);rintro ⟨i4,b4⟩ ⟨x4,y4⟩;dsimp only at x4 y4 ⊢;rw [x4,n_8] at cV;dsimp only at cV;refine qN [pbx T n3 ps b4 6,.dead,.dead,.dead,.box (tk T m).cells,.dead,r7 b4.length] rfl (qC ?_ ?_)<;> intro h3
   ·have da:lv=1:=sm_ h3;rw [n_1 da] at cV;refine c6 ?_;exact ⟨_,rE1,(by exact .inl ⟨(i4,n3,b4),Y2 (k:=6) rfl rfl de_ (.val _),cV,do_,z3,y4⟩)⟩
   ·have da:¬ lv=1:=sm_ h3;rw [n_0 da] at cV;exact ⟨(i4,n3,b4,true,g),[0,1,2,6],⟨do_,cV,do_,z3,y4,do_,do_⟩,⟨rfl,rfl⟩,ut_,⟨.inr ⟨_,rfl,.box ⟨.old a0P,.old (.val _),.old W6,a6d rfl,tt⟩⟩,.inl rfl,.inl rfl,.inr ⟨_,rfl,.same rfl G5⟩,tt⟩⟩
theorem c2G (hc:Z3 T ps) (hB:∀ g,g<=f->BC T ps g) (hF:FC T ps f):BC T ps (f+1):=fun lv d n b hn hb da hl4 hd hf σ q s ao =>
 a2Q (c:=fun a:PX=>(iv a.1)) (N:=fun a=>a.2.1) (B:=fun a=>a.2.2) (fun _ h=>by simp at h;rcases h with rfl | rfl<;>exact .val _) (fun _=>.val _) (b9D hc hB hF lv d n b hn hb da hl4 hd hf) ao
theorem a4y {n:Nat} {k:Int} (h:G0 T n k=some (t,m)) (hk:k≠5):m=n+1:=by
 unfold G0 at h;rw [n_0 hk] at h;split at h
 ·injection h with h;injection h with _ h;exact h.symm
 ·cases h
theorem a6X {n:Nat} (h:a0o T n=some (t,m)):m=n+1:=by
 unfold a0o at h;cases hq:G0 T n 3 with
 | none=>rw [hq] at h;cases h
 | some x =>
  rw [hq,n_8] at h;split at h
  ·injection h with h;subst h;exact a4y hq de_
  ·cases h
theorem b0a {n:Nat} (h:J3 T n=some (t,m)):m=n+1:=by
 unfold J3 at h;cases hq:G0 T n 1 with
 | none=>rw [hq] at h;cases h
 | some x =>
  rw [hq,n_8] at h;split at h
  ·cases h
  ·injection h with h;subst h;exact a4y hq de_
theorem b4M (hc:Z3 T ps) (hE:EC T ps f) (t:Tok) (d n:Nat) (b:List Ex) (R:Option PX) (af:R=W5 T (A0 T ps f) t.t d n b) (hn:n < T.length) (hb:b.length<=256) (bR:d<=32) (hf:8*(T.length - n)+6<=f):b8 CC 317 [.ptr 0 0,.agg t.cells,iv d] (pst T n ps b) (a28 (fun a:PX=>(iv a.1)) (fun a=>a5P T a.2.1 ps a.2.2) (fun a:PX=>R=some a/\n < a.2.1/\a.2.1 < T.length/\a.2.2.length<=256) (R=none)):=by
 have hT:=hc.len;have hW:=hc.w;unfold W5 at af;refine qO Tryz.func317 ?_;refine qD (F5 rfl tt j2 j4 ?_);refine qD (o6 rfl a5o o4 (P3 hT hn hW [40] ⟨rfl,rfl,n_4 rfl⟩) rfl (fun x hx=>.inr ⟨x,j9,by rw [af,hx.1];rfl,hx.2⟩) ?_);rintro n1 ⟨sn1,kn1⟩;dsimp only at sn1 kn1 ⊢;rw [sn1,n_8] at af;have en1:=O4 sn1;refine qD (p7 rfl b4g rfl j4 ?_);refine qY N6 ?_;refine qC ?_ ?_<;>intro h1
 ·have u1:t.t=[114,101,97,100]:=sp_ h1;rw [n_1 u1] at af;refine qD (o6 rfl c0C ⟨tt,tt⟩ (a87 hT kn1 hW hc.l ⟨rfl,rfl,n_4 rfl⟩) rfl (fun x hx=>.inr ⟨x,j9,by rw [af,hx.1];rfl,hx.2⟩) ?_);rintro ⟨p,n2⟩ ⟨s2,k2⟩;dsimp only at s2 k2 ⊢;rw [s2,n_8] at af;dsimp only at af;have e2:=a6X s2;refine qY c0X ?_;refine c4J ?_;refine qD (o6 rfl a5o o4 (P3 hT k2 hW [44] ⟨rfl,rfl,n_4 rfl⟩) rfl (fun x hx=>.inr ⟨x,j9,by rw [af,hx.1];rfl,hx.2⟩) ?_);rintro n3 ⟨sn3,kn3⟩;dsimp only at sn3 kn3 ⊢;rw [sn3,n_8] at af;have en3:=O4 sn3;refine qY o7 ?_;refine qD (o6 rfl b76 j1 (hE (d+1) n3 b kn3 hb om_ om_ _ 0 1 ⟨rfl,rfl,n_4 rfl⟩) rfl (fun x hx=>.inr ⟨x,j9,by rw [af,hx.1];rfl,hx.2⟩) ?_);rintro ⟨i4,n4,b4⟩ ⟨x4,y4,z4,w4⟩;dsimp only at x4 y4 z4 w4 ⊢;rw [x4,n_8] at af;dsimp only at af;refine qY (B3 ([(i4:Int)].map icv) rfl ⟨tt,tt⟩ t_4 t_1 t_8 rfl rfl rfl rfl rfl rfl rfl rfl rfl) ?_;refine qD (j3 rfl tt tt rfl j2 b5l (.inl rfl) rfl rfl (nb rfl) ?_);refine qD (o6 rfl a5o o4 (P3 hT z4 hW [41] ⟨rfl,rfl,n_4 rfl⟩) rfl (fun x hx=>.inr ⟨x,j9,by rw [af,hx.1];rfl,hx.2⟩) ?_);rintro n5 ⟨eL,fD⟩;dsimp only at eL fD ⊢;rw [eL,n_8] at af;have en5:=O4 eL;refine qD (o6 rfl b0X C6 (a0j hT fD w4 t ⟨6,0,0,p.t,[(i4:Int)]⟩ ⟨rfl,rfl,n_4 rfl⟩) rfl (fun x hx=>.inr ⟨x,j9,by rw [af,K7,hx.1];rfl,hx.2⟩) ?_);rintro ⟨i6,b6⟩ ⟨x6,y6⟩;dsimp only at x6 y6 ⊢;rw [K7,x6,n_8] at af;exact b7o
 ·have u1:¬ t.t=[114,101,97,100]:=sp_ h1;rw [n_0 u1] at af;refine qY N6 ?_;refine qC ?_ ?_<;>intro h2
  ·have u2:t.t=[115,105,122,101]:=sp_ h2;rw [n_1 u2] at af;refine qD (o6 rfl c0C ⟨tt,tt⟩ (a87 hT kn1 hW hc.l ⟨rfl,rfl,n_4 rfl⟩) rfl (fun x hx=>.inr ⟨x,j9,by rw [af,hx.1];rfl,hx.2⟩) ?_);rintro ⟨p,n2⟩ ⟨s2,k2⟩;dsimp only at s2 k2 ⊢;rw [s2,n_8] at af;dsimp only at af;have e2:=a6X s2;refine qY c0X ?_;refine c4J ?_;refine qD (o6 rfl a5o o4 (P3 hT k2 hW [41] ⟨rfl,rfl,n_4 rfl⟩) rfl (fun x hx=>.inr ⟨x,j9,by rw [af,hx.1];rfl,hx.2⟩) ?_);rintro n5 ⟨eL,fD⟩;dsimp only at eL fD ⊢;rw [eL,n_8] at af;have en5:=O4 eL;refine qD (o6 rfl b0X C6 (a0j hT fD hb t ⟨7,0,0,p.t,[]⟩ ⟨rfl,rfl,n_4 rfl⟩) rfl (fun x hx=>.inr ⟨x,j9,by rw [af,K7,hx.1];rfl,hx.2⟩) ?_);rintro ⟨i6,b6⟩ ⟨x6,y6⟩;dsimp only at x6 y6 ⊢;rw [K7,x6,n_8] at af;exact b7o
  ·have u2:¬ t.t=[115,105,122,101]:=sp_ h2;rw [n_0 u2] at af;refine qY N6 ?_;refine qC ?_ ?_<;>intro h3
   ·have u3:t.t=[104,97,115]:=sp_ h3;rw [n_1 u3] at af;refine qD (o6 rfl c0C ⟨tt,tt⟩ (a87 hT kn1 hW hc.l ⟨rfl,rfl,n_4 rfl⟩) rfl (fun x hx=>.inr ⟨x,j9,by rw [af,hx.1];rfl,hx.2⟩) ?_);rintro ⟨p,n2⟩ ⟨s2,k2⟩;dsimp only at s2 k2 ⊢;rw [s2,n_8] at af;dsimp only at af;have e2:=a6X s2;refine qY c0X ?_;refine c4J ?_;refine qD (o6 rfl a5o o4 (P3 hT k2 hW [41] ⟨rfl,rfl,n_4 rfl⟩) rfl (fun x hx=>.inr ⟨x,j9,by rw [af,hx.1];rfl,hx.2⟩) ?_);rintro n5 ⟨eL,fD⟩;dsimp only at eL fD ⊢;rw [eL,n_8] at af;have en5:=O4 eL;refine qD (o6 rfl b0X C6 (a0j hT fD hb t ⟨8,0,0,p.t,[]⟩ ⟨rfl,rfl,n_4 rfl⟩) rfl (fun x hx=>.inr ⟨x,j9,by rw [af,K7,hx.1];rfl,hx.2⟩) ?_);rintro ⟨i6,b6⟩ ⟨x6,y6⟩;dsimp only at x6 y6 ⊢;rw [K7,x6,n_8] at af;exact b7o
   ·have u3:¬ t.t=[104,97,115]:=sp_ h3;rw [n_0 u3] at af;refine qY N6 ?_;refine qC ?_ ?_<;>intro h4
    ·have u4:t.t=[101,110,118]:=sp_ h4;rw [n_1 u4] at af;refine qD (o6 rfl c85 o4 (a61 hT kn1 hW 3 ⟨rfl,rfl,n_4 rfl⟩) rfl (fun x hx=>.inr ⟨x,j9,by rw [af,hx.1];rfl,hx.2⟩) ?_);rintro ⟨p,n2⟩ ⟨s2,k2⟩;dsimp only at s2 k2 ⊢;rw [s2,n_8] at af;dsimp only at af;have e2:=a4y s2 de_;have hp:=a4F s2;refine z_1 ?_;refine qY (c4 rfl b9j ⟨tt,tt⟩ (a0J p.t _) rfl) ?_;refine qC ?_ ?_<;>intro h5
     ·have hq:A9 p.t=false:=sp_ h5;rw [n_0 (by rw [hq];decide)] at af;exact a2d rfl rfl (O2 rfl a4M o4 (N7 _ _ _) rfl (fun _ _=>.inr ⟨(_,_),j9,af,si_⟩))
     ·have hq:A9 p.t=true:=sp_ h5;rw [n_1 hq] at af;refine c4J ?_;refine qD (o6 rfl a5o o4 (P3 hT k2 hW [41] ⟨rfl,rfl,n_4 rfl⟩) rfl (fun x hx=>.inr ⟨x,j9,by rw [af,hx.1];rfl,hx.2⟩) ?_);rintro n5 ⟨eL,fD⟩;dsimp only at eL fD ⊢;rw [eL,n_8] at af;have en5:=O4 eL;refine qD (o6 rfl b0X C6 (a0j hT fD hb t ⟨9,0,0,p.t,[]⟩ ⟨rfl,rfl,n_4 rfl⟩) rfl (fun x hx=>.inr ⟨x,j9,by rw [af,K7,hx.1];rfl,hx.2⟩) ?_);rintro ⟨i6,b6⟩ ⟨x6,y6⟩;dsimp only at x6 y6 ⊢;rw [K7,x6,n_8] at af;exact b7o
    ·have u4:¬ t.t=[101,110,118]:=sp_ h4;rw [n_0 u4] at af;refine qD (o6 rfl c85 o4 (a61 hT kn1 hW 2 ⟨rfl,rfl,n_4 rfl⟩) rfl (fun x hx=>.inr ⟨x,j9,by rw [af,hx.1];rfl,hx.2⟩) ?_);rintro ⟨p,n2⟩ ⟨s2,k2⟩;dsimp only at s2 k2 ⊢;rw [s2,n_8] at af;dsimp only at af;have e2:=a4y s2 de_;have hp:=a4F s2;refine z_1 ?_;refine qC ?_ ?_<;>intro h6
     ·have hq:64<=p.n:=sp_ h6;rw [n_1 hq] at af;exact a2d rfl rfl (O2 rfl a4M o4 (N7 _ _ _) rfl (fun _ _=>.inr ⟨(_,_),j9,af,si_⟩))
     ·have hq:¬ 64<=p.n:=sp_ h6;rw [n_0 hq] at af;refine c4J ?_;refine qD (o6 rfl a5o o4 (P3 hT k2 hW [41] ⟨rfl,rfl,n_4 rfl⟩) rfl (fun x hx=>.inr ⟨x,j9,by rw [af,hx.1];rfl,hx.2⟩) ?_);rintro n5 ⟨eL,fD⟩;dsimp only at eL fD ⊢;rw [eL,n_8] at af;have en5:=O4 eL;refine qD (o6 rfl b0X C6 (a0j hT fD hb t ⟨10,p.n,0,[],[]⟩ ⟨rfl,rfl,n_4 rfl⟩) rfl (fun x hx=>.inr ⟨x,j9,by rw [af,K7,hx.1];rfl,hx.2⟩) ?_);rintro ⟨i6,b6⟩ ⟨x6,y6⟩;dsimp only at x6 y6 ⊢;rw [K7,x6,n_8] at af;exact b7o
def UC (T:List Tok) (ps:List Str) (f:Nat):Prop:=∀ (t:Tok) (d n:Nat) (b:List Ex),n < T.length->b.length<=256->d<=32->8*(T.length - n)+6<=f->∀ (σ:List b9) (q s:Nat),PAt σ q s T n ps b->b8 CC 317 [.ptr q 0,.agg t.cells,iv d] σ (a3S (fun a:PX=>(iv a.1)) (fun a:PX=>(σ.set q (pbx T a.2.1 ps a.2.2 σ.length)).set s .dead++[r7 a.2.2.length]) (fun a:PX=>(W5 T (A0 T ps f) t.t d n b)=some a/\n < a.2.1/\a.2.1 < T.length/\a.2.2.length<=256) σ q s ((W5 T (A0 T ps f) t.t d n b)=none))
theorem b8i (hc:Z3 T ps) (hE:EC T ps f):UC T ps f:=fun t d n b hn hb hd hf σ q s ao =>
 a2Q (c:=fun a:PX=>(iv a.1)) (N:=fun a=>a.2.1) (B:=fun a=>a.2.2) (fun _ h=>by simp at h;rcases h with rfl | rfl;exact Z9 _;exact .val _) (fun _=>.val _) (b4M hc hE t d n b _ rfl hn hb hd hf) ao
def ka (ph:Bool):Nat:=if ph=true then 2 else 1
def oa1 (ph:Bool) (m:Nat):b9:=if ph=true then .dead else r7 m
def oa2 (ph:Bool) (m:Nat):b9:=if ph=true then r7 m else .dead
theorem b4e {n k:Nat} {b:List Ex} (h0:τ[0]? = some (pbx T n ps b k)) (hk:τ[k]? = some (r7 b.length)) (h2:2<=k) (hc:∀ am,E9 2 am c c'):F8 2 τ (.ret c) (.ret c') (a5P T n ps b):=by
 obtain ⟨am,a1,a2,_,a4⟩:=Y2 h0 hk h2 (Old.val (.int .i64 0));exact ⟨am,a1,a2,.ret (hc am),a4⟩
theorem d4Y {n k:Nat} {b:List Ex} {l:List Int} {x:Int} (h0:τ[0]? = some (pbx T n ps b k)) (hk:τ[k]? = some (r7 b.length)) (h2:2<=k) (hc:∀ am,E9 2 am c c'):F8 2 τ (.ret c) (.ret c') (if (!(l++[x]).isEmpty)=true then a5P T n ps b else pst T n ps b):=by
 rw [n_1 si_];exact b4e h0 hk h2 hc
def AC (T:List Tok) (ps:List Str) (f:Nat):Prop:=∀ (d n:Nat) (b:List Ex),n < T.length->b.length<=256->d<=32->8*(T.length - n)+6<=f->∀ (σ:List b9) (q s:Nat),PAt σ q s T n ps b->b8 CC 318 [.ptr q 0,iv d] σ (a3S (fun a:List Int × Nat × List Ex=>(.list (a.1.map icv) (gnn a.1.length) none))
 (fun a=>if (!a.1.isEmpty)=true then (σ.set q (pbx T a.2.1 ps a.2.2 σ.length)).set s .dead++[r7 a.2.2.length] else (σ.set q (pbx T a.2.1 ps a.2.2 s)).set s (r7 a.2.2.length)) (fun a:List Int × Nat × List Ex=>a12 T (A0 T ps f) d n b=some a/\n < a.2.1/\a.2.1 < T.length/\a.2.2.length<=256/\a.1.length<=1000000) σ q s (a12 T (A0 T ps f) d n b=none))
theorem b1r (hc:Z3 T ps) (hE:∀ g,g<=f->EC T ps g) (d n:Nat) (b:List Ex) (hn:n < T.length) (hb:b.length<=256) (bR:d<=32) (hf:8*(T.length - n)+6<=f):b8 CC 318 [.ptr 0 0,iv d] (pst T n ps b) (a28 (fun a:List Int × Nat × List Ex=>(.list (a.1.map icv) (gnn a.1.length) none)) (fun a=>if (!a.1.isEmpty)=true then a5P T a.2.1 ps a.2.2 else pst T a.2.1 ps a.2.2) (fun a:List Int × Nat × List Ex=>a12 T (A0 T ps f) d n b=some a/\n < a.2.1/\a.2.1 < T.length/\a.2.2.length<=256/\a.1.length<=1000000) (a12 T (A0 T ps f) d n b=none)):=by
 have hT:=hc.len;have hW:=hc.w;have af:a12 T (A0 T ps f) d n b=a12 T (A0 T ps f) d n b:=rfl
 conv at af=>rhs;unfold a12
 refine qO Tryz.func318 ?_;refine qD (o6 rfl a5o o4 (P3 hT hn hW [40] ⟨rfl,rfl,n_4 rfl⟩) rfl (fun x hx=>.inr ⟨x,j9,by rw [af,hx.1];rfl,hx.2⟩) ?_);rintro n1 ⟨bq,aZ⟩;dsimp only at bq aZ ⊢;rw [bq,n_8] at af;have e1:=O4 bq;refine qD (c5 rfl c2A o4 (a1i hT aZ hW [41] ⟨rfl,rfl,n_4 rfl⟩) rfl ?_);rintro ⟨ac,n2⟩ ⟨ha,cb,dX⟩;dsimp only at ha cb dX ⊢;refine qC ?_ ?_<;>intro h1
 ·have cH:isT (tk T n1) 4 [41]=true:=by rw [<- ha];simpa using h1
  rw [n_1 cH] at cb af;refine c6 ?_;exact ⟨_,rE1,(by exact .inl ⟨([],n2,b),a0G rfl (U9 _ [] false),by rw [af,cb],do_,dX,hb,by show 0<=1000000;decide⟩)⟩
 ·have cH:¬ isT (tk T n1) 4 [41]=true:=by rw [<- ha];simpa using h1
  rw [n_0 cH] at cb af;subst cb;refine B9 hCC 2 rfl (α:=List Int × Nat × List Ex × Bool × Nat) (fun x=>[(0,.ptr 0 0),(1,iv d),(5,(.list (x.1.map icv) (gnn x.1.length) (G9 x.1.length 3)))]) (fun x=>[pbx T x.2.1 ps x.2.2.1 (ka x.2.2.2.1),oa1 x.2.2.2.1 x.2.2.1.length,oa2 x.2.2.2.1 x.2.2.1.length,r7 x.1.length]) (fun x=>a12 T (A0 T ps f) d n b=(A0 T ps x.2.2.2.2).ag d x.2.1 x.2.2.1 x.1/\x.1.length<=x.2.1/\n < x.2.1/\x.2.1 < T.length/\x.2.2.1.length<=256/\x.2.2.2.2<=f/\8*(T.length - x.2.1)+7<=x.2.2.2.2) (fun x=>T.length - x.2.1) ⟨([],n2,b,false,f),[0,1,7,8],⟨af,n_5 _,do_,dX,hb,n_6 _,do_⟩,⟨rfl,rfl⟩,ut_,uq_⟩ ?_;intro ⟨l,m,b2,ph,g⟩ ⟨cV,fC,bI,hm,cq,hgf,hg⟩;dsimp only at cV fC bI hm cq hgf hg ⊢;obtain ⟨g,rfl⟩:∃ g',g=g'+1:=⟨g - 1,om_⟩;have iq:(A0 T ps (g+1)).ag d m b2 l=(G3 T ps (A0 T ps g)).ag d m b2 l:=rfl;simp only [G3] at iq;rw [iq] at cV;refine a8U ?_;refine qD (o6 rfl b76 j1 (hE g om_ (d+1) m b2 hm cq om_ om_ _ 0 (ka ph) b6o) rfl (fun x hx=>.inr ⟨x,j9,by rw [cV,hx.1];rfl,hx.2⟩) ?_);rintro ⟨i3,n3,b3⟩ ⟨x3,y3,z3,w3⟩;dsimp only at x3 y3 z3 w3 ⊢;rw [x3,n_8] at cV;dsimp only at cV;refine qN [pbx T n3 ps b3 4,.dead,.dead,r7 l.length,r7 b3.length] O1 ?_;have eo:=T7 l (i3:Int);refine qY (B3 [icv (i3:Int)] rfl ⟨tt,tt⟩ t_4 t_1 t_8 rfl rfl rfl rfl rfl rfl rfl rfl rfl) ?_;refine qD (F4 rfl tt tt rfl si_ q_2 t_4 t_1 b9g t_8 rfl (.inr rfl) q_7 c7U G7 ((l++[(i3:Int)]).map icv) (l++[(i3:Int)]).length si_ si_ ?_);refine qD (c5 rfl c2A o4 (a1i hT z3 hW [44] ⟨rfl,rfl,n_4 rfl⟩) rfl ?_);rintro ⟨ac2,m2⟩ ⟨ha2,cp,fS⟩;dsimp only at ha2 cp fS ⊢;refine qC ?_ ?_<;>intro h2
  ·have db:¬ isT (tk T n3) 4 [44]=true:=by rw [<- ha2];simpa using h2
   rw [n_0 db] at cp cV;subst cp;refine j6 ?_;refine qD (o6 rfl a5o o4 (P3 hT fS hW [41] ⟨rfl,rfl,n_4 rfl⟩) rfl (fun x hx=>.inr ⟨x,j9,by rw [cV,hx.1];rfl,hx.2⟩) ?_);rintro m3 ⟨fz,fR⟩;dsimp only at fz fR ⊢;have e3:=O4 fz;rw [fz,n_8] at cV;refine c6 ?_;exact ⟨_,rE1,(by exact .inl ⟨(l++[(i3:Int)],m3,b3),d4Y (k:=4) rfl rfl de_ (fun _=>a0e (f:=icv) (fun _=>⟨.val _,tt⟩) _),cV,do_,fR,w3,do_⟩)⟩
  ·have db:isT (tk T n3) 4 [44]=true:=by rw [<- ha2];simpa using h2
   rw [n_1 db] at cp cV;subst cp;exact ⟨(l++[(i3:Int)],n3+1,b3,true,g),[0,1,4,5],⟨do_,cV,do_,do_,fS,w3,do_,do_⟩,⟨rfl,rfl⟩,ut_,⟨.inr ⟨_,rfl,.box ⟨.old a0P,.old (.val _),.old W6,a6d rfl,tt⟩⟩,.inl rfl,.inr ⟨_,rfl,.same rfl G5⟩,.inr ⟨_,rfl,.same rfl G5⟩,tt⟩⟩
theorem b3t (hc:Z3 T ps) (hE:∀ g,g<=f->EC T ps g):AC T ps f:=fun d n b hn hb hd hf σ q s ao =>
 a4w (c:=fun a:List Int × Nat × List Ex=>(.list (a.1.map icv) (gnn a.1.length) none)) (N:=fun a=>a.2.1) (B:=fun a=>a.2.2) (Z:=fun _=>ps) (g:=fun a=>!a.1.isEmpty) (fun _ h=>by simp at h;subst h;exact .val _) (fun _=>N5 _ _) (b1r hc hE d n b hn hb hd hf) ao
theorem a1c {C:Ctx} {aa:Array Oper} {qs:List Nat} {Q:A8->Env->List b9->Prop} {S:List (List b9->Prop)} {l:List (Nat × List Nat)} {fl:List Nat} {E:Env} (τ:List b9) (h:σ=τ) (k:a1G S τ fl/\S6 C aa qs Q S l E τ):a1G S σ fl/\S6 C aa qs Q S l E σ:=h ▸ k
def kc (ph:Bool):Nat:=if ph=true then 3 else 1
def oc1 (ph:Bool) (m:Nat):b9:=if ph=true then .dead else r7 m
def oc2 (ph:Bool) (m:Nat):List b9:=if ph=true then [r7 m] else []
theorem b9w (hc:Z3 T ps) (hE:EC T ps f) (hA:AC T ps f) (hU:UC T ps f) (d n:Nat) (b:List Ex) (hn:n < T.length) (hb:b.length<=256) (bR:d<=32) (hf:8*(T.length - n)+1<=f+1):b8 CC 301 [.ptr 0 0,iv d] (pst T n ps b) (a28 (fun a:PX=>(iv a.1)) (fun a=>a5P T a.2.1 ps a.2.2) (fun a:PX=>(A0 T ps (f+1)).fac d n b=some a/\n < a.2.1/\a.2.1 < T.length/\a.2.2.length<=256) ((A0 T ps (f+1)).fac d n b=none)):=by
 have hT:=hc.len;have hW:=hc.w;have af:(A0 T ps (f+1)).fac d n b=(G3 T ps (A0 T ps f)).fac d n b:=rfl;simp only [G3] at af;refine cO Tryz.func301 ?_;refine z_0 ?_;refine a7x ?_;refine z_4 ?_;refine ye rfl c2K ⟨tt,tt⟩ (a2y hT hn ⟨rfl,rfl,n_4 rfl⟩) rfl ?_;refine cD (p7 rfl a2g rfl j4 ?_);refine cD (j3 rfl tt tt rfl j2 a3n j4 rfl rfl (nb rfl) ?_);refine a8F ?_;refine a1K ?_;refine z_0 ?_;refine cY c63 ?_;refine cY a1w ?_;refine c7n ?_;refine cC ?_ ?_<;>intro h1
 ·have u1:(tk T n).k=2:=sp_ h1;rw [n_1 u1] at af;have aZ:=hW n hn (by rw [u1];decide);refine a8S ?_;refine cY c1N ?_;refine cY a1w ?_;refine cY o7 ?_;refine cY a5D ?_;refine d3z ?_;refine a8f ?_;refine cY b6k ?_;refine cY c63 ?_;refine cY a1w ?_;refine cY a99 ?_;refine cD (o6 rfl b0X C6 (a0j hT aZ hb (tk T n) ⟨1,(tk T n).n,0,[],[]⟩ ⟨rfl,rfl,n_4 rfl⟩) rfl (fun x hx=>.inr ⟨x,j9,by rw [af,K7,hx.1];rfl,hx.2⟩) ?_);rintro ⟨i6,b6⟩ ⟨x6,y6⟩;dsimp only at x6 y6 ⊢;rw [K7,x6,n_8] at af;exact d3s
 ·have u1:¬ (tk T n).k=2:=sp_ h1;rw [n_0 u1] at af;refine z_4 ?_;refine de rfl c2A o4 (a1i hT hn hW [45] ⟨rfl,rfl,n_4 rfl⟩) rfl ?_;rintro ⟨ac,n2⟩ ⟨ha,cb,dX⟩;dsimp only at ha cb dX ⊢;refine z_3 ?_;refine cC ?_ ?_<;>intro h2
  ·have u2:isT (tk T n) 4 [45]=true:=by rw [<- ha];simpa using h2
   rw [n_1 u2] at cb af;subst cb;refine D4 ?_;refine cF [] [0,1,2] (tl:=[(3,[0,1]),(4,[0,1]),(5,[0,1]),(6,[0,1]),(7,[]),(8,[])]) ?_;refine chf rfl X0 ?_;refine chf rfl (c9 rfl b6k) ?_;refine b2m ?_;refine B8 rfl rfl rfl (o6 rfl c85 o4 (a61 hT dX hW 2 ⟨rfl,rfl,n_4 rfl⟩) rfl (fun x hx _=>.inr ⟨x,j9,by rw [af,hx.1];rfl,hx.2⟩) ?_);rintro ⟨p,n3⟩ ⟨s2,k2⟩;dsimp only at s2 k2 ⊢;rw [s2,n_8] at af;dsimp only at af;have e2:=a4y s2 de_;have hpn:=hc.nn (n+1);rw [<- a4F s2] at hpn;have ew : -p.n=IntKind.i64.wrap (0 - p.n):=by rw [a83 om_ om_];omega
   rw [ew] at af;refine ⟨⟨F3,b18,tt⟩,?_⟩;refine D7 rfl rfl (c9 rfl a3z) ⟨⟨F3,b18,tt⟩,?_⟩;refine D7 rfl rfl (c9 rfl (c6t rfl tt rfl)) ⟨⟨F3,b18,tt⟩,?_⟩;refine D7 rfl rfl (c9 rfl a99) ⟨⟨F3,b18,tt⟩,?_⟩;refine B8 rfl rfl rfl (o6 rfl b0X C6 (a0j hT k2 hb (tk T n) ⟨1,IntKind.i64.wrap (0 - p.n),0,[],[]⟩ ⟨rfl,rfl,n_4 rfl⟩) rfl (fun x hx _=>.inr ⟨x,j9,by rw [af,K7,hx.1];rfl,hx.2⟩) ?_);rintro ⟨i6,b6⟩ ⟨x6,y6⟩;dsimp only at x6 y6 ⊢;rw [K7,x6,n_8] at af;refine ⟨tt,?_⟩;refine b3f ?_;exact ⟨_,rE1,(by exact .inl ⟨(i6,n3,b6),Y2 rfl rfl (nb rfl) (.val _),af,do_,k2,y6⟩)⟩
  ·have u2:¬ isT (tk T n) 4 [45]=true:=by rw [<- ha];simpa using h2
   rw [n_0 u2] at cb af;replace cb:=cb.symm;subst cb;refine z_4 ?_;refine de rfl c2A o4 (a1i hT hn hW [40] ⟨rfl,rfl,n_4 rfl⟩) rfl ?_;rintro ⟨ac3,n3⟩ ⟨ha3,gB,hn3l⟩;dsimp only at ha3 gB hn3l ⊢;refine z_3 ?_;refine cC ?_ ?_<;>intro h3
   ·have u3:isT (tk T n) 4 [40]=true:=by rw [<- ha3];simpa using h3
    rw [n_1 u3] at gB af;subst gB;refine a6T ?_;refine cY o7 ?_;refine cD (o6 rfl b76 j1 (hE (d+1) (n+1) b hn3l hb om_ om_ _ 0 1 ⟨rfl,rfl,n_4 rfl⟩) rfl (fun x hx=>.inr ⟨x,j9,by rw [af,hx.1];rfl,hx.2⟩) ?_);rintro ⟨i4,n4,b4⟩ ⟨x4,y4,z4,w4⟩;dsimp only at x4 y4 z4 w4 ⊢;rw [x4,n_8] at af;dsimp only at af;refine K0 [pbx T n4 ps b4 3,.dead,.box (tk T n).cells,r7 b4.length] rfl ?_;refine z_3 ?_;refine z_4 ?_;refine cD (o6 rfl a5o o4 (P3 hT z4 hW [41] ⟨rfl,rfl,n_4 rfl⟩) rfl (fun x hx=>.inr ⟨x,j9,by rw [af,hx.1];rfl,hx.2⟩) ?_);rintro n5 ⟨s5,k5⟩;dsimp only at s5 k5 ⊢;rw [s5,n_8] at af;have e5:=O4 s5;refine a8f ?_;refine a2l ?_;exact ⟨_,rE1,(by exact .inl ⟨(i4,n5,b4),Y2 rfl rfl (nb rfl) (.val _),af,do_,k5,w4⟩)⟩
   ·have u3:¬ isT (tk T n) 4 [40]=true:=by rw [<- ha3];simpa using h3
    rw [n_0 u3] at gB af;replace gB:=gB.symm;subst gB;refine z_0 ?_;refine cY c63 ?_;refine cY a1w ?_;refine c7n ?_;refine cC ?_ ?_<;>intro h4
    ·have u4:(tk T n).k≠1:=sp_ h4;rw [n_1 u4] at af;refine C8 ?_;exact d3C
    ·have u4:(tk T n).k=1:=sp_ h4;rw [n_0 (fun h=>h u4)] at af;have aZ:=hW n hn (by rw [u4];decide);refine C5 ?_;refine a8S ?_;refine cY c1N ?_;refine cY a1w ?_;refine cY o7 ?_;refine cY a5D ?_;refine d3z ?_;refine a6B ?_;refine cY b4G ?_;refine cY T2 ?_;refine c3D ?_;refine D4 ?_;refine z_0 ?_;refine cY N6 ?_;refine z_3 ?_;refine cC ?_ ?_<;>intro h5
     ·have u5:(tk T n).t=[114,101,97,100]:=sp_ h5;have uu:(tk T n).t=[114,101,97,100]\/(tk T n).t=[115,105,122,101]\/(tk T n).t=[104,97,115]\/(tk T n).t=[101,110,118]\/(tk T n).t=[102,108,105,112]:=.inl u5;rw [n_1 uu] at af;refine C5 ?_;refine cC ?_ ?_<;>intro h6
      ·refine b2L ?_;refine cD (o6 rfl c7F C6 (hU (tk T n) d (n+1) b aZ hb bR om_ _ 0 1 ⟨rfl,rfl,n_4 rfl⟩) rfl (fun x hx=>.inr ⟨x,j9,by rw [af];exact hx.1,hx.2⟩) ?_);rintro ⟨i,m,b2⟩ ⟨g1,g2,g3,g4⟩;dsimp only at g1 g2 g3 g4 ⊢;exact b5P
      ·exact absurd u5 (sp_ h6)
     ·have u5:¬ (tk T n).t=[114,101,97,100]:=sp_ h5;refine z_0 ?_;refine cY N6 ?_;refine z_3 ?_;refine cC ?_ ?_<;>intro h7
      ·have u7:(tk T n).t=[115,105,122,101]:=sp_ h7;have uu:(tk T n).t=[114,101,97,100]\/(tk T n).t=[115,105,122,101]\/(tk T n).t=[104,97,115]\/(tk T n).t=[101,110,118]\/(tk T n).t=[102,108,105,112]:=.inr (.inl u7);rw [n_1 uu] at af;refine C5 ?_;refine cC ?_ ?_<;>intro h8
       ·refine b2L ?_;refine cD (o6 rfl c7F C6 (hU (tk T n) d (n+1) b aZ hb bR om_ _ 0 1 ⟨rfl,rfl,n_4 rfl⟩) rfl (fun x hx=>.inr ⟨x,j9,by rw [af];exact hx.1,hx.2⟩) ?_);rintro ⟨i,m,b2⟩ ⟨g1,g2,g3,g4⟩;dsimp only at g1 g2 g3 g4 ⊢;exact b5P
       ·exact absurd u7 (sp_ h8)
      ·have u7:¬ (tk T n).t=[115,105,122,101]:=sp_ h7;refine z_0 ?_;refine cY N6 ?_;refine z_3 ?_;refine cC ?_ ?_<;>intro h9
       ·have u9:(tk T n).t=[104,97,115]:=sp_ h9;have uu:(tk T n).t=[114,101,97,100]\/(tk T n).t=[115,105,122,101]\/(tk T n).t=[104,97,115]\/(tk T n).t=[101,110,118]\/(tk T n).t=[102,108,105,112]:=.inr (.inr (.inl u9));rw [n_1 uu] at af;refine C5 ?_;refine cC ?_ ?_<;>intro aU
        ·refine b2L ?_;refine cD (o6 rfl c7F C6 (hU (tk T n) d (n+1) b aZ hb bR om_ _ 0 1 ⟨rfl,rfl,n_4 rfl⟩) rfl (fun x hx=>.inr ⟨x,j9,by rw [af];exact hx.1,hx.2⟩) ?_);rintro ⟨i,m,b2⟩ ⟨g1,g2,g3,g4⟩;dsimp only at g1 g2 g3 g4 ⊢;exact b5P
        ·exact absurd u9 (sp_ aU)
       ·have u9:¬ (tk T n).t=[104,97,115]:=sp_ h9;refine z_0 ?_;refine cY N6 ?_;refine z_3 ?_;refine cC ?_ ?_<;>intro ck
        ·have u11:(tk T n).t=[101,110,118]:=sp_ ck;have uu:(tk T n).t=[114,101,97,100]\/(tk T n).t=[115,105,122,101]\/(tk T n).t=[104,97,115]\/(tk T n).t=[101,110,118]\/(tk T n).t=[102,108,105,112]:=.inr (.inr (.inr (.inl u11)));rw [n_1 uu] at af;refine C5 ?_;refine cC ?_ ?_<;>intro cQ
         ·refine b2L ?_;refine cD (o6 rfl c7F C6 (hU (tk T n) d (n+1) b aZ hb bR om_ _ 0 1 ⟨rfl,rfl,n_4 rfl⟩) rfl (fun x hx=>.inr ⟨x,j9,by rw [af];exact hx.1,hx.2⟩) ?_);rintro ⟨i,m,b2⟩ ⟨g1,g2,g3,g4⟩;dsimp only at g1 g2 g3 g4 ⊢;exact b5P
         ·exact absurd u11 (sp_ cQ)
        ·have u11:¬ (tk T n).t=[101,110,118]:=sp_ ck;refine C8 ?_;refine cY N6 ?_;refine z_3 ?_;refine cC ?_ ?_<;>intro dk
         ·have u13:(tk T n).t=[102,108,105,112]:=sp_ dk;have uu:(tk T n).t=[114,101,97,100]\/(tk T n).t=[115,105,122,101]\/(tk T n).t=[104,97,115]\/(tk T n).t=[101,110,118]\/(tk T n).t=[102,108,105,112]:=.inr (.inr (.inr (.inr (u13))));rw [n_1 uu] at af;refine b2L ?_;refine cD (o6 rfl c7F C6 (hU (tk T n) d (n+1) b aZ hb bR om_ _ 0 1 ⟨rfl,rfl,n_4 rfl⟩) rfl (fun x hx=>.inr ⟨x,j9,by rw [af];exact hx.1,hx.2⟩) ?_);rintro ⟨i,m,b2⟩ ⟨g1,g2,g3,g4⟩;dsimp only at g1 g2 g3 g4 ⊢;exact b5P
         ·have h13':¬ (tk T n).t=[102,108,105,112]:=sp_ dk;have un:¬ ((tk T n).t=[114,101,97,100]\/(tk T n).t=[115,105,122,101]\/(tk T n).t=[104,97,115]\/(tk T n).t=[101,110,118]\/(tk T n).t=[102,108,105,112]):=fun hh=>by rcases hh with h | h | h | h | h;exact u5 h;exact u7 h;exact u9 h;exact u11 h;exact h13' h
          rw [n_0 un] at af;refine b5S ?_;refine z_0 ?_;refine cY b4G ?_;refine cY T2 ?_;refine yc rfl c7o ⟨tt,tt⟩ (a2n (tk T n).t _) ?_;refine z8 ?_;refine cC ?_ ?_<;>intro gA
          ·have u14:P6 (tk T n).t=true:=sp_ gA;rw [n_1 u14] at af;refine C8 ?_;exact d3C
          ·have u14:¬ P6 (tk T n).t=true:=sp_ gA;rw [n_0 u14] at af;refine b5S ?_;refine z_4 ?_;refine ye rfl c3w a4x (b2M hT aZ 4 [40] ⟨rfl,rfl,n_4 rfl⟩) rfl ?_;refine z8 ?_;refine cC ?_ ?_<;>intro h15
           ·have u15:isT (tk T (n+1)) 4 [40]=true:=sp_ h15;rw [n_1 u15] at af;refine D4 ?_;refine cF [] [0,1,2,3,4,5] (tl:=[(6,[0,1,2,3]),(7,[0,1]),(8,[]),(9,[])]) ?_;refine chf rfl X0 ?_;refine chf rfl (c9 rfl b6k) ?_;refine chf rfl (c9 rfl b4G) ?_;refine chf rfl c5r ?_;refine a7h ?_;refine D6 ?_;refine B8 rfl rfl rfl (o6 rfl Tryz.call318 j1 (hA d (n+1) b aZ hb bR om_ _ 0 1 ⟨rfl,rfl,n_4 rfl⟩) rfl (fun x hx _=>.inr ⟨x,j9,by rw [af,hx.1];rfl,hx.2⟩) ?_);rintro ⟨l,m,b2⟩ ⟨g1,g2,g3,g4,_⟩;dsimp only at g1 g2 g3 g4 ⊢;rw [g1,n_8] at af;dsimp only at af;generalize (!l.isEmpty)=ph;refine a1c ([pbx T m ps b2 (kc ph),oc1 ph b2.length,.box (tk T n).cells]++oc2 ph b2.length) O1 ?_;refine ⟨⟨F3,b18,(by exact c9 rfl b4G),a4K,tt⟩,?_⟩;refine D7 rfl rfl (c9 rfl c2Q) ⟨⟨F3,b18,tt⟩,?_⟩;refine B8 rfl rfl rfl (o6 rfl b0X C6 (a0j hT g3 g4 (tk T n) ⟨3,0,0,(tk T n).t,l⟩ (q:=0) (s:=kc ph) b6o) rfl (fun x hx _=>.inr ⟨x,j9,by rw [af,K7,hx.1];rfl,hx.2⟩) ?_);rintro ⟨i6,b6⟩ ⟨x6,y6⟩;dsimp only at x6 y6 ⊢;rw [K7,x6,n_8] at af;refine ⟨tt,?_⟩;refine b3f ?_;exact ⟨_,rE1,(by exact .inl ⟨(i6,m,b6),(by cases ph;exact Y2 (k:=3) rfl rfl de_ (.val _);exact Y2 (k:=4) rfl rfl de_ (.val _)),af,do_,g3,y6⟩)⟩
           ·have u15:¬ isT (tk T (n+1)) 4 [40]=true:=sp_ h15;rw [n_0 u15] at af;refine b5S ?_;refine cW 8 ?_;refine a3Z ?_;refine hY (j5 rfl tt rfl c23 rfl a2W de_) ?_;refine hY a6R ?_;refine hY b4G ?_;refine hY T2 ?_;refine hY (c4 rfl Tryz.call205 j1 (a8n ps (gnn ps.length) (tk T n).t (by have:=hc.ps;omega) _) rfl) ?_;refine b16 ?_;refine a8F ?_;refine z_4 ?_;refine a7Z ?_;refine cC ?_ ?_<;>intro h16
            ·have u16:ixS ps (tk T n).t 0 < 0:=sp_ h16;rw [n_1 u16] at af;refine C8 ?_;exact d3C
            ·have u16:¬ ixS ps (tk T n).t 0 < 0:=sp_ h16;rw [n_0 u16] at af;refine C5 ?_;refine b2L ?_;refine cY a99 ?_;refine cD (o6 rfl b0X C6 (a0j hT aZ hb (tk T n) ⟨2,ixS ps (tk T n).t 0,0,[],[]⟩ ⟨rfl,rfl,n_4 rfl⟩) rfl (fun x hx=>.inr ⟨x,j9,by rw [af,K7,hx.1];rfl,hx.2⟩) ?_);rintro ⟨i6,b6⟩ ⟨x6,y6⟩;dsimp only at x6 y6 ⊢;rw [K7,x6,n_8] at af;exact d3s
theorem c3K (hc:Z3 T ps) (hE:EC T ps f) (hA:AC T ps f) (hU:UC T ps f):FC T ps (f+1):=fun d n b hn hb hd hf σ q s ao =>
 a2Q (c:=fun a:PX=>(iv a.1)) (N:=fun a=>a.2.1) (B:=fun a=>a.2.2) (fun _ h=>by simp at h;subst h;exact .val _) (fun _=>.val _) (b9w hc hE hA hU d n b hn hb hd hf) ao
theorem c87 {T:List Tok} {ps:List Str} (hc:Z3 T ps):∀ f,(∀ g,g<=f->EC T ps g)/\(∀ g,g<=f->BC T ps g)/\(∀ g,g<=f->FC T ps g)
 | 0=>by
  refine ⟨fun g hg d n b hn _ _ hf=>?_,fun g hg lv d n b hn _ _ h4 _ hf=>?_,fun g hg d n b hn _ _ hf=>?_⟩<;>exfalso<;>omega
 | f+1=>by
  obtain ⟨hE,hB,hF⟩:=c87 hc f;have e1:=d1s hc (hE f (n_6 _)) (hB f (n_6 _));have b1:=c2G hc hB (hF f (n_6 _));have f1:=c3K hc (hE f (n_6 _)) (b3t hc hE) (b8i hc (hE f (n_6 _)));have up:∀ {P:Nat->Prop},(∀ g,g<=f->P g)->P (f+1)->∀ g,g<=f+1->P g:=fun {P} h h1 g hg=>by
   rcases a3c f g with ae | aE
   ·rw [show g=f+1 by omega];exact h1
   ·exact h g aE
  exact ⟨up hE e1,up hB b1,up hF f1⟩
def ixP {α:Type} (p:α->Bool):List α->Nat->Int
 | [],_=>-1
 | y::l,i=>if p y=true then i else ixP p l (i+1)
theorem c34 (h:l[i]? = some y) (p:α->Bool):ixP p (l.drop i) i=if p y=true then (i:Int) else ixP p (l.drop (i+1)) (i+1):=by
 obtain ⟨ae,he⟩:=n_3.1 h;rw [R4 ae,he];rfl
theorem c0k {α:Type} (p:α->Bool):∀ (l:List α) (i:Nat),decide (0<=ixP p l i)=l.any p
 | [],_=>rfl
 | y::l,i=>by
  rw [ixP,List.any_cons];cases hp:p y with
  | true=>simp
  | false=>simpa using c0k p l (i+1)
theorem b3S {g:FuncId} {ax:List CV} {p:De->Bool} (l:List De) (nn:Bool) (hl:l.length<=1000000) (hg:∀ args w,(callFunc g args).run CC.P w = .ok (.enter g args) w) (H:∀ x∈l,b8 CC g ([.agg x.cells]++ax) σ fun r Y=>r = .ret (.val (.bool (p x)))/\Y=σ):b8 CC 276 [(.list (l.map De.cv) nn none),.clo g ax] σ fun r Y=>r = .ret (iv (ixP p l 0))/\Y=σ:=by
 refine qO Tryz.func276 ?_;refine qY a3X ?_;refine I4 (α:=Nat) (fun i=>[(0,(.list (l.map De.cv) nn none)),(1,(.clo g ax)),(7,iv l.length),(8,iv i)]) (fun _=>σ) (fun i=>i<=l.length/\ixP p l 0=ixP p (l.drop i) i) (fun i=>l.length - i) 0 ⟨n_5 _,rfl⟩ tu_ rfl ?_;intro i E0 ⟨hi,hr⟩;refine qk (qC ?_ ?_)<;> intro h1
 ·have ae:(i:Int) < l.length:=sp_ h1;obtain ⟨y,hb⟩:=gx_ l i;rw [c34 hb] at hr;refine qY c74 ?_;refine qY (b2x rfl tt rfl hg ⟨tt,tt⟩ (H y (n_2 hb)) rfl) ?_;refine qC ?_ ?_<;>intro h2
  ·have hx:p y=true:=sp_ h2;rw [n_1 hx] at hr;refine c6 ?_;exact ⟨_,rE1,(by exact ⟨by rw [hr],rfl⟩)⟩
  ·have hx:¬ p y=true:=sp_ h2;rw [n_0 hx] at hr;refine qY o7 ?_;exact ⟨(i+1),om_,⟨om_,hr⟩,tu_,rfl⟩
 ·have aE:i=l.length:=by
   have:¬ (i:Int) < l.length:=sp_ h1;omega
  refine V9 ?_;exact ⟨_,rE1,(by exact ⟨by rw [hr,aE,b5m];rfl,rfl⟩)⟩
theorem a8Y {g:FuncId} {ax:List CV} {p:De->Bool} (l:List De) (nn:Bool) (hl:l.length<=1000000) (hg:∀ args w,(callFunc g args).run CC.P w = .ok (.enter g args) w) (H:∀ x∈l,b8 CC g ([.agg x.cells]++ax) σ fun r Y=>r = .ret (.val (.bool (p x)))/\Y=σ):b8 CC 238 [(.list (l.map De.cv) nn none),.clo g ax] σ fun r Y=>r = .ret (.val (.bool (l.any p)))/\Y=σ:=by
 refine qO Tryz.func238 ?_;refine qY (c4 rfl Tryz.call276 j1 (b3S l nn hl hg H) rfl) ?_;refine c6 ?_;exact ⟨_,rE1,(by exact ⟨by rw [<- c0k p l 0],rfl⟩)⟩
theorem a07 {σ:List α} (h:σ[q]? = some x) (l:List α):(σ++l)[q]? = some x:=by
 rw [V3 (n_3.1 h).1];exact h
theorem c0D (σ:List α) (x:α):(σ++[x])[σ.length]? = some x:=by simp
theorem c6M (x:De) (t:Tok) (kd:Int) {s:Nat} (hq:σ[q]? = some (.box [iv kd])) (hs:σ[s]? = some (.box t.cells)):b8 CC 239 ([.agg x.cells]++[.ptr q 0,.ptr s 0]) σ fun r Y=>r = .ret (.val (.bool ((x.k == kd) && decide (x.name=t.t))))/\Y=σ:=by
 refine c7 (cO Tryz.func239 ?_);refine b1x ?_;refine a7x ?_;refine z_0 ?_;refine cY c1T ?_;refine cY d5n ?_;refine cY d5n ?_;refine cY b0h ?_;refine cY A3 ?_;refine cG b69 ?_;refine cG d5O ?_;refine cG b5G ?_;refine cG d5O ?_;refine cG a8B ?_;refine cY M8 ?_;refine a2l ?_;exact ⟨_,rE1,_,_,rfl,rfl,j8 rfl⟩
def dkL:List (Str × Int):=S8 (S8 (S8 [] [102,117,110,99] 1) [116,101,115,116] 2) [103,101,110] 3
def F9 (s:Str):Int:=(glk dkL s).getD 0
def c5M (T:List Tok) (ps:List Str) (d n:Nat):Option PX:=(A0 T ps (8*T.length+6)).ex d n []
def a2P (T:List Tok) (kd:Int) (n:Nat):Option (Tok × Nat):=if kd=3 then a0o T n else J3 T n
def a2G (T:List Tok) (kd:Int) (n:Nat):Option (List Str × Nat):=if kd=1 then K5 T n else some ([],n)
def a0n (T:List Tok) (bs:List De) (n:Nat):Option (De × Nat) :=
 if (tk T n).k≠1\/F9 (tk T n).t=0 then none else if bs.length=64 then none else
 (a2P T (F9 (tk T n).t) (n+1)).bind fun x=>if (bs.any fun d=>(d.k == F9 (tk T n).t) && decide (d.name=x.1.t))=true then none else
 (a2G T (F9 (tk T n).t) x.2).bind fun q=>(pIs T q.2 4 [61]).bind fun m=>(c5M T q.1 1 m).bind fun y=>(pIs T y.2.1 4 [59]).bind fun m2=>some (⟨F9 (tk T n).t,x.1.t,q.1,y.2.2⟩,m2)
theorem b17 {f:FuncId} {args:List CV} {c:α->CV} {Z:α->List Str} {n:Nat} {b:List Ex} (ap:∀ a∈args,u0 a) (hc:∀ a,u0 (c a))
 (h:b8 CC f (.ptr 0 0::args) (pst T n ps b) (a28 c (fun a=>a5P T (N a) (Z a) (B a)) P bad)) {σ:List b9} {q s:Nat} (ao:PAt σ q s T n ps b) :
 b8 CC f (.ptr q 0::args) σ (a3S c (fun a=>(σ.set q (pbx T (N a) (Z a) (B a) σ.length)).set s .dead++[r7 (B a).length]) P σ q s bad):=by
 refine (a4w (c:=c) (N:=N) (B:=B) (Z:=Z) (g:=fun _=>true) (P:=P) (bad:=bad) ap hc (h.mono fun r τ hh=>?_) ao).mono fun r τ hh=>?_
 ·rcases hh with ⟨a,h1,h2⟩ | h
  ·exact .inl ⟨a,h1,h2⟩
  ·exact .inr h
 ·rcases hh with ⟨a,h1,h2,h3⟩ | h
  ·exact .inl ⟨a,h1,h2,h3⟩
  ·exact .inr h
theorem b7H {kd:Int} {n:Nat} (h:a2P T kd n=some (t,m)):m=n+1:=by
 unfold a2P at h;split at h
 ·exact a6X h
 ·exact b0a h
theorem b6Q {T:List Tok}:∀ (f n:Nat) (l l':List Str) (m:Nat),a19 f T n l=some (l',m)->n < m
 | 0,n,l,l',m,h=>by cases h
 | f+1,n,l,l',m,h=>by
  rw [a19] at h;cases hn:J3 T n with
  | none=>rw [hn] at h;cases h
  | some x =>
   rw [hn,n_8] at h;have e:=b0a (t:=x.1) hn;split at h
   ·cases h
   ·split at h
    ·cases h
    ·split at h
     ·have:=b6Q f _ _ _ _ h;omega
     ·cases hi:pIs T x.2 4 [41] with
      | none=>rw [hi] at h;cases h
      | some y =>
       rw [hi,n_8] at h;injection h with h
       injection h with _ h
       have:=O4 hi;omega
theorem b8u {n:Nat} {l:List Str} (h:K5 T n=some (l,m)):n < m:=by
 unfold K5 at h;cases hi:pIs T n 4 [40] with
 | none=>rw [hi] at h;cases h
 | some y =>
  rw [hi,n_8] at h;have:=O4 hi;split at h
  ·injection h with h
   injection h with _ h
   omega
  ·have:=b6Q _ _ _ _ _ h;omega
theorem b6x {kd:Int} {n:Nat} {l:List Str} (h:a2G T kd n=some (l,m)):n<=m:=by
 unfold a2G at h;split at h
 ·exact Nat.le_of_lt (b8u h)
 ·injection h with h
  injection h with _ h
  omega
theorem b75 (k:Int) (nm:Str) (ps:List Str) (b:List Ex) (tok:Option Nat):E9 L am (.agg [iv k,sv nm,.list (ps.map scv) (gnn ps.length) none,.list (b.map Ex.cv) (gnn b.length) tok]) (.agg (⟨k,nm,ps,b⟩:De).cells) :=
 .agg rfl fun i c c' h h'=>by
  rcases i with _ | _ | _ | _ | i
  ·injection h with h;injection h' with h';subst h h';exact .old (.val _)
  ·injection h with h;injection h' with h';subst h h';exact .old (.val _)
  ·injection h with h;injection h' with h';subst h h';exact .old W6
  ·injection h with h;injection h' with h';subst h h';exact a0e (f:=Ex.cv) Ex.pure _
  ·cases h
theorem a3p (n:Nat):b3o n (⟨0,[],[],[]⟩:De).cells:=⟨.val _,.val _,C1 _ _ _,N8 _ _ _,tt⟩
theorem c88 (hc:Z3 T ps) (bs:List De) (hbs:bs.length<=64) (n:Nat) (b:List Ex) (hn:n < T.length) (_:b.length<=256):b8 CC 197 [.ptr 0 0,(.list (bs.map De.cv) (gnn bs.length) none)] (pst T n ps b) (a28 (fun a:De × Nat=>(.agg a.1.cells)) (fun a=>a5P T a.2 a.1.params a.1.body) (fun a:De × Nat=>a0n T bs n=some a/\n < a.2/\a.2 < T.length/\a.1.params.length<=8/\a.1.body.length<=256) (a0n T bs n=none)):=by
 have hT:=hc.len;have hW:=hc.w;have af:a0n T bs n=a0n T bs n:=rfl
 conv at af=>rhs;unfold a0n
 refine cO Tryz.func197 ?_;refine b3u ?_;refine K8 [pbx T n ps b 1,r7 b.length,.dead] rfl ?_;refine qs 7 (qD (p7 rfl a8K rfl j4 ?_));refine qD (S4 rfl ?_);refine qD (l8 (vc:=kv) (l:=[]) (a:=[102,117,110,99]) (b:=1) b7C (.inr rfl) tt rfl rfl rfl rfl rfl c1U rfl ?_);refine qD (l8 (vc:=kv) (l:=S8 [] [102,117,110,99] 1) (a:=[116,101,115,116]) (b:=2) b7C (.inr rfl) tt rfl rfl rfl rfl rfl c1U rfl ?_);refine qD (l8 (vc:=kv) (l:=S8 (S8 [] [102,117,110,99] 1) [116,101,115,116] 2) (a:=[103,101,110]) (b:=3) b7C (.inr rfl) tt rfl rfl rfl rfl rfl c1U rfl ?_);refine qY d6R ?_;refine z_1 ?_;refine qY (R5 (vc:=kv) (l:=dkL) (a:=(tk T n).t) b7C rfl tt tt rfl rfl c1U t_8 rfl rfl (b3z _ _)) ?_;refine qD (p7 rfl t_8 rfl (.inl rfl) ?_);refine qD (j3 rfl tt tt rfl j2 t_1 (.inl rfl) rfl rfl (nb rfl) ?_);refine qG (fun hg=>m0 rfl tt rfl a10 rfl rfl) ?_;refine a3g ?_;refine qC ?_ ?_<;>intro h1
 ·have u1:(tk T n).k≠1\/(F9 (tk T n).t)=0:=by simpa [F9] using h1
  rw [n_1 u1] at af;exact a2d rfl rfl (O2 rfl a4M o4 (N7 _ _ _) rfl (fun _ _=>.inr ⟨(_,_),j9,af,si_⟩))
 ·have u1:¬ ((tk T n).k≠1\/(F9 (tk T n).t)=0):=by simpa [F9] using h1
  rw [n_0 u1] at af;have aZ:=hW n hn (fun h5=>u1 (.inl (by rw [h5];decide)));refine qY a3X ?_;refine qC ?_ ?_<;>intro h2
  ·have u2:bs.length=64:=sm_ h2;rw [n_1 u2] at af;exact a2d rfl rfl (O2 rfl a4M o4 (N7 _ _ _) rfl (fun _ _=>.inr ⟨(_,_),j9,af,si_⟩))
  ·have u2:¬ bs.length=64:=sm_ h2;rw [n_0 u2] at af;refine z_6 ?_;refine a9j hCC 7 rfl (α:=Tok × Nat) (fun _=>[(0,.ptr 0 0),(1,(.list (bs.map De.cv) (gnn bs.length) none)),(4,.ptr 3 0),(6,.ptr 5 0),(7,.ptr 6 0)]) (fun x=>[pbx T x.2 ps b 1,r7 b.length,.dead,.box (⟨0,[],[],[]⟩:De).cells,.dead,.box x.1.cells,.box [(iv (F9 (tk T n).t))]]) (fun x=>a2P T (F9 (tk T n).t) (n+1)=some x/\x.2 < T.length) ?_ ?_
   ·
    refine qk (qC ?_ ?_)<;> intro h3
    ·have u3:(F9 (tk T n).t)=3:=by simpa [F9] using h3
     have hh:∀ m,a2P T (F9 (tk T n).t) m=a0o T m:=fun m=>n_1 u3;rw [hh] at af;refine qD (o6 rfl c0C ⟨tt,tt⟩ (a87 hT aZ hW hc.l ⟨rfl,rfl,n_4 rfl⟩) rfl (fun x hx=>.inr ⟨x,j9,by rw [af,hx.1];rfl,hx.2⟩) ?_);rintro ⟨x,n2⟩ ⟨g1,g2⟩;dsimp only at g1 g2 ⊢;refine qD (j3 rfl tt tt rfl j2 a3n j4 rfl rfl (nb rfl) ?_);exact ⟨(x,n2),[0,1,2,3,4,5,6],⟨by rw [hh];exact g1,g2⟩,⟨rfl,rfl⟩,ut_,uq_⟩
    ·have u3:¬ (F9 (tk T n).t)=3:=by simpa [F9] using h3
     have hh:∀ m,a2P T (F9 (tk T n).t) m=J3 T m:=fun m=>n_0 u3;rw [hh] at af;refine qD (o6 rfl c0v ⟨tt,tt⟩ (a9h hT aZ hW ⟨rfl,rfl,n_4 rfl⟩) rfl (fun x hx=>.inr ⟨x,j9,by rw [af,hx.1];rfl,hx.2⟩) ?_);rintro ⟨x,n2⟩ ⟨g1,g2⟩;dsimp only at g1 g2 ⊢;refine qD (j3 rfl tt tt rfl j2 a3n j4 rfl rfl (nb rfl) ?_);exact ⟨(x,n2),[0,1,2,3,4,5,6],⟨by rw [hh];exact g1,g2⟩,⟨rfl,rfl⟩,ut_,uq_⟩
   ·intro ⟨x,n2⟩ ⟨g1,g2⟩;dsimp only at g1 g2 ⊢;have e2:=b7H g1;rw [g1,n_8] at af;dsimp only at af;refine qs 2 (qY (a6q rfl j1) ?_);refine qY (c4 rfl Tryz.call238 j1 (a8Y bs _ om_ Tryz.call239 (fun y _=>c6M y x (F9 (tk T n).t) (q:=6) (s:=5) rfl rfl)) rfl) ?_;refine qC ?_ ?_<;>intro h4
    ·have u4:(bs.any fun d=>(d.k == (F9 (tk T n).t)) && decide (d.name=x.t))=true:=h4;rw [n_1 u4] at af;exact a2d rfl rfl (O2 rfl a4M o4 (N7 _ _ _) rfl (fun _ _=>.inr ⟨(_,_),j9,af,si_⟩))
    ·have u4:¬ (bs.any fun d=>(d.k == (F9 (tk T n).t)) && decide (d.name=x.t))=true:=by rw [h4];decide
     rw [n_0 u4] at af;refine qY (A7 #[(0,1),(1,1),(2,1),(3,1)] rfl j1 b0J a8K rfl ⟨_,rfl⟩ (fun w=>by kernel_rfl) rfl rfl) ?_;refine z_7 ?_;refine a9j hCC 8 rfl (α:=List Str × Nat) (fun _=>[(0,.ptr 0 0),(4,.ptr 3 0),(8,.ptr 7 0)]) (fun q=>[pbx T q.2 ps b 1,r7 b.length,.dead,.box (⟨0,[],[],[]⟩:De).cells,.dead,.dead,.dead,.box (⟨(F9 (tk T n).t),x.t,q.1,[]⟩:De).cells]) (fun q=>a2G T (F9 (tk T n).t) n2=some q/\q.2 < T.length/\q.1.length<=8) ?_ ?_
     ·
      refine qk (qC ?_ ?_)<;> intro h5
      ·have u5:(F9 (tk T n).t)=1:=by simpa [F9] using h5
       have hq:∀ m,a2G T (F9 (tk T n).t) m=K5 T m:=fun m=>n_1 u5;rw [hq] at af;refine qD (o6 rfl Tryz.call240 ⟨tt,tt⟩ (b1m hT g2 hW ⟨rfl,rfl,n_4 rfl⟩) rfl (fun x hx=>.inr ⟨x,j9,by rw [af,hx.1];rfl,hx.2⟩) ?_);rintro ⟨pl,n3⟩ ⟨k1,k2,k3⟩;dsimp only at k1 k2 k3 ⊢;refine qD (j3 rfl tt tt rfl j2 a2W (.inl rfl) rfl rfl (nb rfl) ?_);exact ⟨(pl,n3),[0,1,2,3,4,5,6,7],⟨by rw [hq];exact k1,k2,k3⟩,⟨rfl,rfl⟩,ut_,uq_⟩
      ·have u5:¬ (F9 (tk T n).t)=1:=by simpa [F9] using h5
       have hq:∀ m,a2G T (F9 (tk T n).t) m=some ([],m):=fun m=>n_0 u5;exact ⟨([],n2),[0,1,2,3,4,5,6,7],⟨hq n2,g2,n_5 _⟩,⟨rfl,rfl⟩,ut_,uq_⟩
     ·intro ⟨pl,n3⟩ ⟨k1,k2,k3⟩;dsimp only at k1 k2 k3 ⊢;have e3:=b6x k1;rw [k1,n_8] at af;dsimp only at af;refine qk (qD (o6 rfl a5o o4 (P3 hT k2 hW [61] ⟨rfl,rfl,n_4 rfl⟩) rfl (fun x hx=>.inr ⟨x,j9,by rw [af,hx.1];rfl,hx.2⟩) ?_));rintro n4 ⟨s4,k4⟩;dsimp only at s4 k4 ⊢;have e4:=O4 s4;rw [s4,n_8] at af;have bC:Z3 T pl:=⟨hT,hW,hc.l,om_,hc.nn⟩;refine qD (j3 rfl tt tt rfl j2 a2W (.inl rfl) rfl rfl (nb rfl) ?_);refine qD (j3 rfl tt rfl rfl j2 b03 (.inl rfl) rfl rfl (nb rfl) ?_);refine qD (o6 rfl b76 o4 ((c87 bC (8*T.length+6)).1 _ (n_6 _) 1 n4 [] k4 (n_5 _) de_ om_ _ 0 2 ⟨rfl,rfl,n_4 rfl⟩) rfl (fun x hx=>.inr ⟨x,j9,by rw [af,c5M,hx.1];rfl,hx.2⟩) ?_);rintro ⟨i5,n5,b5⟩ ⟨x5,y5,z5,w5⟩;dsimp only at x5 y5 z5 w5 ⊢;rw [c5M,x5,n_8] at af;dsimp only at af;refine qN [pbx T n5 pl b5 8,r7 b.length,.dead,.box (⟨0,[],[],[]⟩:De).cells,.dead,.dead,.dead,.box (⟨(F9 (tk T n).t),x.t,pl,[]⟩:De).cells,r7 b5.length] rfl (qD (j3 rfl tt tt rfl j2 b03 (.inl rfl) rfl rfl (nb rfl) ?_));refine qD (o6 rfl a5o o4 (P3 hT z5 hW [59] (q:=0) (s:=8) ⟨rfl,rfl,n_4 rfl⟩) rfl (fun x hx=>.inr ⟨x,j9,by rw [af,hx.1];rfl,hx.2⟩) ?_);rintro n6 ⟨s6,k6⟩;dsimp only at s6 k6 ⊢;have e6:=O4 s6;rw [s6,n_8] at af;refine qD (j3 rfl tt tt rfl j2 a4H j4 rfl rfl (nb rfl) ?_);refine c6 ?_;exact ⟨_,D5 rfl c39,(by exact .inl ⟨(⟨(F9 (tk T n).t),x.t,pl,b5⟩,n6),b4e (k:=8) rfl rfl de_ (fun _=>b75 _ _ _ _ _),af,do_,k6,k3,w5⟩)⟩
theorem c98 (hc:Z3 T ps) (bs:List De) (hbs:bs.length<=64) {n:Nat} {b:List Ex} (hn:n < T.length) (hb:b.length<=256) {s:Nat} (ao:PAt σ q s T n ps b):b8 CC 197 [.ptr q 0,(.list (bs.map De.cv) (gnn bs.length) none)] σ (a3S (fun a:De × Nat=>(.agg a.1.cells)) (fun a=>(σ.set q (pbx T a.2 a.1.params a.1.body σ.length)).set s .dead++[r7 a.1.body.length]) (fun a:De × Nat=>a0n T bs n=some a/\n < a.2/\a.2 < T.length/\a.1.params.length<=8/\a.1.body.length<=256) σ q s (a0n T bs n=none)) :=
 b17 (c:=(fun a:De × Nat=>(.agg a.1.cells))) (N:=fun a=>a.2) (Z:=fun a=>a.1.params) (B:=fun a=>a.1.body) (fun _ h=>by simp at h;subst h;exact a4q _ _) (fun a=>o8 a.1.pure) (c88 hc bs hbs n b hn hb) ao
def a04:Nat->List Tok->Str->Nat->List Str->Option (List Str × Nat)
 | 0,_,_,_,_=>none
 | f+1,T,pkg,n,l=>if isT (tk T n) 1 [105,109,112,111,114,116]=true then (if l.length=8 then none else (J3 T (n+1)).bind fun x=>if x.1.t=pkg\/x.1.t∈l then none else (pIs T x.2 4 [59]).bind fun m=>a04 f T pkg m (l++[x.1.t])) else some (l,n)
def R1:Nat->List Tok->Nat->List De->Option (List De × Nat)
 | 0,_,_,_=>none
 | f+1,T,n,l=>if (tk T n).k=5 then some (l,n) else (a0n T l n).bind fun x=>R1 f T x.2 (l++[x.1])
def a0V (T:List Tok):Option Src:=(pIs T 0 1 [112,97,99,107,97,103,101]).bind fun n1=>(J3 T n1).bind fun x=>(pIs T x.2 4 [59]).bind fun n2=>(a04 9 T x.1.t n2 []).bind fun y=>(R1 65 T y.2 []).bind fun z=>some ⟨x.1.t,y.1,z.1⟩
theorem b2v {bs:List De} {n:Nat} {x:De × Nat} (h:a0n T bs n=some x):bs.length≠64:=fun ir=>by
 unfold a0n at h;rw [n_1 ir] at h;split at h<;>cases h
theorem d1a (pkg:Str) (i:List Str) (d:List De) (t1 t2:Option Nat):E9 L am (.agg [sv pkg,.list (i.map scv) (gnn i.length) t1,.list (d.map De.cv) (gnn d.length) t2]) (.agg (⟨pkg,i,d⟩:Src).cells) :=
 .agg rfl fun k c c' h h'=>by
  rcases k with _ | _ | _ | k
  ·injection h with h;injection h' with h';subst h h';exact .old (.val _)
  ·injection h with h;injection h' with h';subst h h';exact a0e (f:=scv) (fun _=>⟨.val _,tt⟩) _
  ·injection h with h;injection h' with h';subst h h';exact a0e (f:=De.cv) De.pure _
  ·cases h
theorem c8d (hc:Z3 T []) (h0:0 < T.length):b8 CC 155 [.ptr 0 0] (pst T 0 [] []) (a28 (fun a:Src × Nat × List Str × List Ex=>(.agg a.1.cells)) (fun a=>a5P T a.2.1 a.2.2.1 a.2.2.2) (fun a:Src × Nat × List Str × List Ex=>a0V T=some a.1) (a0V T=none)):=by
 have hT:=hc.len;have hW:=hc.w;have af:a0V T=a0V T:=rfl
 conv at af=>rhs;unfold a0V
 refine qO Tryz.func155 ?_;refine qD (p7 rfl a2L rfl j4 ?_);refine qD (o6 rfl c42 o4 (b4m hT h0 hW [112,97,99,107,97,103,101] ⟨rfl,rfl,n_4 rfl⟩) rfl (fun x hx=>.inr ⟨x,j9,by rw [af,hx.1];rfl,hx.2⟩) ?_);rintro n1 ⟨s1,k1⟩;dsimp only at s1 k1 ⊢;rw [s1,n_8] at af;have e1:=O4 s1;refine qD (o6 rfl c0v ⟨tt,tt⟩ (a9h hT k1 hW ⟨rfl,rfl,n_4 rfl⟩) rfl (fun x hx=>.inr ⟨x,j9,by rw [af,hx.1];rfl,hx.2⟩) ?_);rintro ⟨w,n2⟩ ⟨s2,k2⟩;dsimp only at s2 k2 ⊢;have e2:=b0a s2;rw [s2,n_8] at af;dsimp only at af;refine qY c0X ?_;refine qY d7g ?_;refine c48 ?_;refine qD (o6 rfl a5o o4 (P3 hT k2 hW [59] ⟨rfl,rfl,n_4 rfl⟩) rfl (fun x hx=>.inr ⟨x,j9,by rw [af,hx.1];rfl,hx.2⟩) ?_);rintro n3 ⟨s3,k3⟩;dsimp only at s3 k3 ⊢;rw [s3,n_8] at af;refine qN [pbx T n3 [] [] 1,.dead,.box (⟨[],[],[]⟩:Src).cells,.box [sv w.t,.list (([]:List Str).map scv) (gnn ([]:List Str).length) none,.list (([]:List De).map De.cv) (gnn ([]:List De).length) none]] rfl ?_;refine B9 hCC 4 rfl (α:=List Str × Nat) (fun _=>[(0,.ptr 0 0),(2,.ptr 2 0),(3,.ptr 3 0)]) (fun x=>[pbx T x.2 [] [] 1,.dead,.box (⟨[],[],[]⟩:Src).cells,.box [sv w.t,.list (x.1.map scv) (gnn x.1.length) (G9 x.1.length 4),.list (([]:List De).map De.cv) (gnn ([]:List De).length) none],r7 x.1.length]) (fun x=>x.1.length<=8/\x.2 < T.length/\a0V T=(a04 (9 - x.1.length) T w.t x.2 x.1).bind fun y=>(R1 65 T y.2 []).bind fun z=>some ⟨w.t,y.1,z.1⟩) (fun x=>9 - x.1.length) ⟨([],n3),[0,1,2,3,9],⟨n_5 _,k3,af⟩,⟨rfl,rfl⟩,ut_,⟨.inr ⟨_,rfl,.same rfl (a25 (nb rfl))⟩,.inl rfl,.inr ⟨_,rfl,.same rfl c1H⟩,.inr ⟨_,rfl,.box ⟨.old (.val _),.old a15,.old (P2 _ [] _),tt⟩⟩,.inl rfl,tt⟩⟩ ?_;intro ⟨l,m⟩ ⟨hl,hm,af⟩;dsimp only at hl hm af ⊢;obtain ⟨f,hf⟩:∃ f,9 - l.length=f+1:=⟨8 - l.length,om_⟩;rw [hf,a04] at af;refine qk (qY (c4 rfl c3w a4x (b2M hT hm 1 [105,109,112,111,114,116] ⟨rfl,rfl,n_4 rfl⟩) rfl) ?_);refine cC ?_ ?_<;>intro h1
 ·have u1:isT (tk T m) 1 [105,109,112,111,114,116]=true:=sp_ h1;rw [n_1 u1] at af;have dy:=hW m hm (a5K u1 de_);refine b2S ?_;refine qC ?_ ?_<;>intro h2
  ·have u2:l.length=8:=sm_ h2;rw [n_1 u2] at af;refine qY (c4 rfl c2K ⟨tt,tt⟩ (a2y hT hm ⟨rfl,rfl,n_4 rfl⟩) rfl) ?_;exact a2d rfl rfl (O2 rfl a4M o4 (N7 _ _ _) rfl (fun _ _=>.inr ⟨(_,_),j9,by rw [af];rfl,si_⟩))
  ·have u2:¬ l.length=8:=sm_ h2;rw [n_0 u2] at af;refine z_6 ?_;refine qD (o6 rfl c0v ⟨tt,tt⟩ (a9h hT dy hW ⟨rfl,rfl,n_4 rfl⟩) rfl (fun x hx=>.inr ⟨x,j9,by rw [af,hx.1];rfl,hx.2⟩) ?_);rintro ⟨x,m1⟩ ⟨s4,k4⟩;dsimp only at s4 k4 ⊢;rw [s4,n_8] at af;dsimp only at af;refine qN [pbx T m1 [] [] 1,.dead,.box (⟨[],[],[]⟩:Src).cells,.box [sv w.t,.list (l.map scv) (gnn l.length) (G9 l.length 4),.list (([]:List De).map De.cv) (gnn ([]:List De).length) none],r7 l.length] rfl ?_;refine z_1 ?_;refine qY a6x ?_;refine c8s ?_;refine qG b5G ?_;refine qG a2b ?_;refine qG (fun hg=>c4 rfl c32 ⟨hg,hg,tt⟩ (a0g l (gnn l.length) x.t om_ _) rfl) ?_;refine qY Q1 ?_;refine qC ?_ ?_<;>intro h3
   ·have u3:x.t=w.t\/x.t∈l:=sp_ h3;rw [n_1 u3] at af;exact a2d rfl rfl (O2 rfl a4M o4 (N7 _ _ _) rfl (fun _ _=>.inr ⟨(_,_),j9,by rw [af];rfl,si_⟩))
   ·have u3:¬ (x.t=w.t\/x.t∈l):=sp_ h3;rw [n_0 u3] at af;have eo:=T7 l x.t;refine qY (B3 [scv x.t] rfl ⟨tt,tt⟩ t_2 t_0 t_3 rfl rfl rfl rfl rfl rfl rfl rfl rfl) ?_;refine qD (F4 rfl tt tt rfl si_ q_2 t_2 t_0 a4b t_3 rfl (.inr rfl) q_7 a4s G7 ((l++[x.t]).map scv) (l++[x.t]).length si_ si_ ?_);refine qD (j3 rfl tt tt rfl j2 a2W (.inl rfl) rfl rfl (nb rfl) ?_);refine qD (o6 rfl a5o o4 (P3 hT k4 hW [59] ⟨rfl,rfl,n_4 rfl⟩) rfl (fun x hx=>.inr ⟨x,j9,by rw [af,hx.1];rfl,hx.2⟩) ?_);rintro m2 ⟨s5,k5⟩;dsimp only at s5 k5 ⊢;rw [s5,n_8] at af;exact ⟨(l++[x.t],m2),[0,1,2,3,6],⟨do_,do_,k5,by dsimp only;rw [af,show 9 - (l++[x.t]).length=f by omega]⟩,⟨rfl,rfl⟩,ut_,⟨.inr ⟨_,rfl,.same rfl (a25 (nb rfl))⟩,.inl rfl,.inr ⟨_,rfl,.same rfl c1H⟩,.inr ⟨_,rfl,.box ⟨.old (.val _),E9.grow (f:=scv) (fun _=>⟨.val _,tt⟩) rfl,.old (P2 _ [] _),tt⟩⟩,.inr ⟨_,rfl,.same rfl G5⟩,tt⟩⟩
 ·have u1:¬ isT (tk T m) 1 [105,109,112,111,114,116]=true:=sp_ h1;rw [n_0 u1,n_8] at af;dsimp only at af;rename_i im0;obtain ⟨im,him⟩:∃ im,im=l:=⟨l,rfl⟩;subst him;refine j6 ?_;refine B9 hCC 5 rfl (α:=Nat × List De × List Str × List Ex) (fun _=>[(0,.ptr 0 0),(2,.ptr 2 0),(3,.ptr 3 0)]) (fun x=>[pbx T x.1 x.2.2.1 x.2.2.2 5,.dead,.box (⟨[],[],[]⟩:Src).cells,.box [sv w.t,.list (im.map scv) (gnn im.length) none,.list (x.2.1.map De.cv) (gnn x.2.1.length) (G9 x.2.1.length 6)],.dead,r7 x.2.2.2.length,r7 x.2.1.length]) (fun x=>x.2.1.length<=64/\x.1 < T.length/\x.2.2.1.length<=8/\x.2.2.2.length<=256/\a0V T=(R1 (65 - x.2.1.length) T x.1 x.2.1).bind fun z=>some ⟨w.t,im,z.1⟩) (fun x=>T.length - x.1) ⟨(m,[],[],[]),[0,1,2,3,4,9,10],⟨n_5 _,hm,n_5 _,n_5 _,af⟩,⟨rfl,rfl⟩,ut_,⟨.inr ⟨_,rfl,.box ⟨.old a0P,.old (.val _),.old W6,.old (N8 _ [] _),tt⟩⟩,.inl rfl,.inr ⟨_,rfl,.same rfl c1H⟩,.inr ⟨_,rfl,.box ⟨.old (.val _),a0e (f:=scv) (fun _=>⟨.val _,tt⟩) _,.old (P2 _ [] _),tt⟩⟩,.inl rfl,.inl rfl,.inl rfl,tt⟩⟩ ?_;intro ⟨m,ds,ps,b⟩ ⟨cg,hm,co,hb,af⟩;dsimp only at cg hm co hb af ⊢;obtain ⟨f,hf⟩:∃ f,65 - ds.length=f+1:=⟨64 - ds.length,om_⟩;rw [hf,R1] at af;have bC:Z3 T ps:=⟨hT,hW,hc.l,om_,hc.nn⟩;refine qk (qY (c4 rfl c2K ⟨tt,tt⟩ (a2y hT hm (q:=0) (s:=5) ⟨rfl,rfl,n_4 rfl⟩) rfl) ?_);refine qY a3z ?_;refine qC ?_ ?_<;>intro h4
  ·have u4:¬ (tk T m).k=5:=sp_ h4;rw [n_0 u4] at af;refine cF [] [0,1,2,3,4] (tl:=[(5,[0,1]),(6,[0,1]),(7,[]),(8,[]),(9,[])]) ?_;refine chf rfl c0i ?_;refine chf rfl c6s ?_;refine chf rfl X0 ?_;refine chf rfl c0i ?_;refine chf rfl c6s ?_;refine D6 ?_;refine B8 rfl rfl rfl (o6 rfl Tryz.call197 j1 (c98 bC ds cg hm hb (q:=0) (s:=5) ⟨rfl,rfl,n_4 rfl⟩) rfl (fun x hx _=>.inr ⟨x,j9,by rw [af,hx.1];rfl,hx.2⟩) ?_);rintro ⟨d,m1⟩ ⟨g1,g2,g3,g4,g5⟩;dsimp only at g1 g2 g3 g4 g5 ⊢;have aj:=b2v g1;rw [g1,n_8] at af;dsimp only at af;have eo:=T7 ds d;refine a1c [pbx T m1 d.params d.body 7,.dead,.box (⟨[],[],[]⟩:Src).cells,.box [sv w.t,.list (im.map scv) (gnn im.length) none,.list (ds.map De.cv) (gnn ds.length) (G9 ds.length 6)],.dead,.dead,r7 ds.length,r7 d.body.length] rfl ?_;refine d1C ?_;refine B8 rfl rfl rfl (F4 rfl tt tt rfl si_ q_2 a9A a4H Tryz.typeInfo119 a8K rfl (.inr rfl) q_7 (by have hb:Tryz.t119.bytes=72:=rfl;rw [hb];first|omega|(simp;done)|(simp;omega)) G7 ((ds++[d]).map De.cv) (ds++[d]).length si_ si_ ?_);refine ⟨tt,?_⟩;refine d1W ?_;refine a8D ?_;exact ⟨(m1,ds++[d],d.params,d.body),[0,1,2,3,4,7,8],⟨do_,do_,g3,g4,g5,by dsimp only;rw [af,show 65 - (ds++[d]).length=f by omega]⟩,⟨rfl,rfl⟩,ut_,⟨.inr ⟨_,rfl,.box ⟨.old a0P,.old (.val _),.old W6,a6d rfl,tt⟩⟩,.inl rfl,.inr ⟨_,rfl,.same rfl c1H⟩,.inr ⟨_,rfl,.box ⟨.old (.val _),.old W6,E9.grow (f:=De.cv) (fun _=>⟨.val _,.val _,C1 _ _ _,N8 _ _ _,tt⟩) rfl,tt⟩⟩,.inl rfl,.inr ⟨_,rfl,.same rfl G5⟩,.inr ⟨_,rfl,.same rfl G5⟩,tt⟩⟩
  ·have u4:(tk T m).k=5:=sp_ h4;rw [n_1 u4,n_8] at af;refine j6 ?_;refine c30 ?_;exact ⟨_,D5 rfl ⟨tt,_,_,_,rfl,rfl,.inr ⟨_,b4X,a2C,nb rfl,rfl⟩⟩,(by exact .inl ⟨(⟨w.t,im,ds⟩,m,ps,b),b4e (k:=5) rfl rfl de_ (fun _=>d1a _ _ _ _ _),af⟩)⟩
theorem c9N (hc:Z3 T []) (h0:0 < T.length) {s:Nat} (ao:PAt σ q s T 0 [] []):b8 CC 155 [.ptr q 0] σ (a3S (fun a:Src × Nat × List Str × List Ex=>(.agg a.1.cells)) (fun a=>(σ.set q (pbx T a.2.1 a.2.2.1 a.2.2.2 σ.length)).set s .dead++[r7 a.2.2.2.length]) (fun a:Src × Nat × List Str × List Ex=>a0V T=some a.1) σ q s (a0V T=none)) :=
 b17 (c:=(fun a:Src × Nat × List Str × List Ex=>(.agg a.1.cells))) (N:=fun a=>a.2.1) (Z:=fun a=>a.2.2.1) (B:=fun a=>a.2.2.2) (fun _ h=>by cases h) (fun a=>o8 a.1.pure) (c8d hc h0) ao
structure d5g (N:Nat) (t:Tok):Prop where
 len:t.t.length<=N
 n0:0<=t.n
 n1:t.n<=9007199254740993
theorem a89 (s:Str) (a e:Nat):(sub s a e).length<=s.length:=by unfold sub;rw [b4Q,a5t];omega
theorem c2L {s:Str} {b:UInt8}:d5g s.length (D3 s a b).1/\(D3 s a b).1.k≠5:=by
 have z:d5g s.length (⟨0,[],0,0⟩:Tok):=⟨n_5 _,de_,de_⟩;unfold D3
 split
 ·split
  ·exact ⟨z,(show (0:Int)≠5 by decide)⟩
  ·exact ⟨⟨a89 _ _ _,b0N _,(show (0:Int)<=9007199254740993 by decide)⟩,(show (1:Int)≠5 by decide)⟩
 ·split
  ·split
   ·exact ⟨z,(show (0:Int)≠5 by decide)⟩
   ·have:=b25 (b24 (s:=s) (a:=a));exact ⟨⟨n_5 _,this.1,this.2⟩,(show (2:Int)≠5 by decide)⟩
  ·split
   ·split
    ·exact ⟨z,(show (0:Int)≠5 by decide)⟩
    ·exact ⟨⟨a89 _ _ _,b0N _,(show (0:Int)<=9007199254740993 by decide)⟩,(show (3:Int)≠5 by decide)⟩
   ·split
    ·split
     ·exact ⟨⟨a89 _ _ _,b0N _,(show (0:Int)<=9007199254740993 by decide)⟩,(show (4:Int)≠5 by decide)⟩
     ·exact ⟨⟨a89 _ _ _,b0N _,(show (0:Int)<=9007199254740993 by decide)⟩,(show (4:Int)≠5 by decide)⟩
    ·exact ⟨z,(show (0:Int)≠5 by decide)⟩
theorem a7M (s:Str):∀ (f i:Nat) (T:List Tok),a0l f s i=some T->T.length<=f/\(∀ t∈T,d5g s.length t)/\∃ L e,T=L++[e]/\e.k=5/\∀ t∈L,t.k≠5
 | 0,i,T,h=>by cases h
 | f+1,i,T,h=>by
  rw [a0l] at h;cases hb:s[A2 s i [5]]? with
  | none =>
   rw [hb] at h;injection h with h
   subst h;refine ⟨si_,fun t ht=>?_,[],_,rfl,rfl,fun t ht=>by cases ht⟩;simp at ht;subst ht;exact ⟨n_5 _,b0N _,(show (0:Int)<=9007199254740993 by decide)⟩
  | some b =>
   rw [hb] at h;simp only at h;split at h
   ·obtain ⟨h1,h2⟩:=a7M s f _ T h;exact ⟨om_,h2⟩
   ·split at h
    ·cases h
    ·cases hq:a0l f s (D3 s (A2 s i [5]) b).2.1.toNat with
     | none=>rw [hq] at h;cases h
     | some T' =>
      rw [hq] at h;simp only [b2u,Option.some.injEq] at h;subst h;obtain ⟨h1,h2,L,e,h3,h5,h4⟩:=a7M s f _ T' hq;have hg:=c2L (s:=s) (a:=A2 s i [5]) (b:=b);refine ⟨sp_ h1,fun t ht=>?_,_::L,e,by rw [h3];rfl,h5,fun t ht=>?_⟩
      ·rcases P0.1 ht with rfl | ht
       ·exact ⟨hg.1.len,hg.1.n0,hg.1.n1⟩
       ·exact h2 t ht
      ·rcases P0.1 ht with rfl | ht
       ·exact hg.2
       ·exact h4 t ht
theorem b8Y (i:Nat):tk T i∈T\/tk T i=⟨5,[],0,0⟩:=by
 unfold tk;cases h:T[i]? with
 | none=>exact .inr rfl
 | some t=>exact .inl (n_2 h)
theorem b0o {s:Str} (h:a2K s=some T):Z3 T []/\0 < T.length:=by
 unfold a2K at h;split at h
 ·cases h
 ·rename_i hs;obtain ⟨h1,h2,L,e,h3,h5,h4⟩:=a7M s _ _ T h;have h0:0 < T.length:=by rw [h3];simp
  refine ⟨⟨om_,fun n hn hk=>?_,fun n=>?_,n_5 _,fun n=>?_⟩,h0⟩
  ·rcases a3c (n+1) T.length with ae | aE
   ·exact ae
   ·exfalso;have hl:T.length=L.length+1:=by rw [h3];simp
    have:tk T n=e:=by
     unfold tk;rw [h3,show n=L.length by omega];simp
    exact hk (by rw [this];exact h5)
  ·rcases b8Y (T:=T) n with h | h
   ·have:=(h2 _ h).len;omega
   ·rw [h];simp
  ·rcases b8Y (T:=T) n with h | h
   ·exact ⟨(h2 _ h).n0,(h2 _ h).n1⟩
   ·rw [h];exact ⟨de_,de_⟩
abbrev c2f:=Src × Int × Int
abbrev c3t (x:c2f):CV:=.tup [.agg x.1.cells,iv x.2.1,iv x.2.2]
def O5 (s:Str):Option Src:=(a2K s).bind a0V
def b4r (s:Str) (x:c2f):Prop:=(O5 s=some x.1/\x.2.1=0/\x.2.2=0)\/(O5 s=none/\x.1=⟨[],[],[]⟩/\x.2.2≠0)
theorem b8K {c1 c2 c3:CV} {u:CV} {K:List b9->Prop} (h:K σ):c3h CC 154 [c1,c2,c3] σ false u K:=by
 refine d1P ?_;refine cY (b97 rfl tt rfl Tryz.runUnderlying20 (.inl rfl)) ?_;refine z8 ?_;refine cC ?_ ?_<;>intro h1
 ·cases h1
 ·refine C5 ?_;exact h
theorem b9l (a0 e0 x e:Int) {K:List b9->Prop} (h:K [.dead,.box (⟨[],[],[]⟩:Src).cells,.box [iv x],.box [iv e],.dead,.box [iv x,iv e]]):c3h CC 154 [.ptr 1 0,.ptr 2 0,.ptr 3 0] [.dead,.box (⟨[],[],[]⟩:Src).cells,.box [iv a0],.box [iv e0],.dead] true (a2o x e) K:=by
 refine d1P ?_;refine cY (b97 rfl tt rfl Tryz.runUnderlying20 (.inr ⟨_,_,rfl⟩)) ?_;refine z8 ?_;refine cC ?_ ?_<;>intro h1
 ·refine z_4 ?_;refine cY (c3G (xs:=[.int .i64 x,.int .i64 e]) rfl tt rfl c3S rfl rfl) ?_;refine a9V ?_;refine cD (p7 rfl Tryz.zeroValue195 rfl j4 ?_);refine cD (j3 rfl tt tt rfl j2 Tryz.sizeOf195 j4 rfl rfl (nb rfl) ?_);refine b2a ?_;refine z_4 ?_;refine a82 ?_;refine cC ?_ ?_<;>intro h2
  ·cases h2
  ·refine C5 ?_;refine cF [] [0,1,2,3,4] (tl:=[(5,[1,2,3,4]),(6,[3,4]),(7,[])]) ?_;refine chf rfl d3H ?_;refine chf rfl (c9 rfl (j5 rfl tt rfl c3S rfl t_1 de_)) ?_;refine chf rfl a90 ?_;refine chf rfl (c9 rfl c7A) ?_;refine chf rfl c4d ?_;refine d0p ?_;refine ⟨⟨(by exact c9 rfl (j5 rfl tt rfl c3S rfl t_1 de_)),a9z,(by exact c9 rfl c7A),b15,tt⟩,?_⟩;refine B8 rfl rfl rfl (j3 rfl tt tt rfl j2 t_1 (.inl rfl) rfl rfl (nb rfl) ?_);refine ⟨⟨(by exact c9 rfl c7A),b15,tt⟩,?_⟩;refine d2O ?_;exact h
 ·cases h1
theorem c2e (s:Str) (hs:s.length<=1000000000000):b8 CC 102 [(sv s)] [] fun r τ=>∃ x:c2f,a0T 0 τ r (.ret (c3t x))/\b4r s x:=by
 refine U2 (b83 Tryz.func102 rfl rfl ?_);show b6T _ _ _ _ _ [.dead];refine b8I ?_;refine C8 ?_;refine cD (p7 rfl a2L rfl j4 ?_);refine cD (p7 rfl t_8 rfl (.inl rfl) ?_);refine cD (p7 rfl Tryz.zeroValue40 rfl (.inl rfl) ?_);refine z8 ?_;refine b8I ?_;refine a3y ?_;refine dc rfl Tryz.call153 ⟨tt,tt⟩ (c2Y s hs _) ?_;rintro ⟨T,nn,at_,e⟩ hP;dsimp only at hP ⊢;refine a9V ?_;refine cY a4g ?_;refine cY a0Q ?_;refine cD (j3 rfl tt tt rfl j2 t_1 (.inl rfl) rfl rfl (nb rfl) ?_);refine cD (j3 rfl tt tt rfl j2 b8p (.inl rfl) rfl rfl (nb rfl) ?_);refine z8 ?_;refine b8I ?_;refine z_0 ?_;refine cY (m0 rfl tt rfl b8m rfl rfl) ?_;refine a7Z ?_;refine cC ?_ ?_<;>intro h1
 ·have he:e≠0:=sp_ h1;have hl:a2K s=none:=by
   rcases hP with ⟨_,_,_,g⟩ | ⟨g,_⟩
   ·exact absurd g he
   ·exact g
  refine D4 ?_;refine cF [] [0,1,2] (tl:=[(3,[1,2]),(4,[2]),(5,[])]) ?_;refine chf rfl d3H ?_;refine chf rfl a90 ?_;refine chf rfl c4d ?_;refine d0p ?_;refine ⟨⟨a9z,b15,tt⟩,?_⟩;refine B8 rfl rfl rfl (j3 rfl tt tt rfl j2 t_1 (.inl rfl) rfl rfl (nb rfl) ?_);refine ⟨⟨b15,tt⟩,?_⟩;refine d2O ?_;refine c6 ?_;exact ⟨_,p8 (rs:=[.cell 2 67,.cell 3 3,.cell 4 40]) (cs:=[_,_,_]) rfl d3O (n_4 rfl),⟨((⟨[],[],[]⟩:Src),at_,e),d0H,.inr ⟨by rw [O5,hl];rfl,rfl,he⟩⟩⟩
 ·have he:e=0:=sp_ h1;obtain ⟨hl,rfl,rfl⟩:a2K s=some T/\nn=true/\at_=0:=by
   rcases hP with ⟨g1,g2,g3,_⟩ | ⟨_,_,_,g⟩
   ·exact ⟨g1,g2,g3⟩
   ·exact absurd he g
  subst he;obtain ⟨hc,h0⟩:=b0o hl;have af:O5 s=a0V T:=by rw [O5,hl];rfl
  refine C5 ?_;refine c45 rfl rfl rfl rfl rfl de_ rfl rfl Tryz.call154 C6 (fun ds=>?_);refine a4X ?_;refine a3t ?_;refine cY A3 ?_;refine cY (A7 #[(0,1),(1,1),(2,1),(3,1)] rfl ⟨tt,tt⟩ c23 Tryz.zeroValue199 rfl ⟨_,rfl⟩ (fun w=>by kernel_rfl) rfl rfl) ?_;refine cD (F5 rfl tt j2 j4 ?_);refine z_3 ?_;refine a4X ?_;refine a3t ?_;refine cY A3 ?_;refine cD (o6 rfl Tryz.call155 ⟨tt,tt⟩ (c9N hc h0 (q:=4) (s:=0) ⟨rfl,rfl,n_4 rfl⟩) rfl (fun x hx=>b9l _ _ _ _ ⟨_,p8 (rs:=[.cell 2 67,.cell 3 3,.cell 4 40]) (cs:=[_,_,_]) rfl d3O (n_4 rfl),⟨((⟨[],[],[]⟩:Src),x.1,x.2),d0H,.inr ⟨by rw [af];exact hx.1,rfl,hx.2⟩⟩⟩) ?_);rintro ⟨x,m,ps,b⟩ g1;dsimp only at g1 ⊢;refine cD (j3 rfl tt tt rfl j2 a2C j4 rfl rfl (nb rfl) ?_);refine cD (j3 rfl tt rfl rfl j2 t_1 (.inl rfl) rfl rfl (nb rfl) ?_);refine cD (j3 rfl tt rfl rfl j2 b8p (.inl rfl) rfl rfl (nb rfl) ?_);refine z8 ?_;refine a86 ?_;exact b8K ⟨_,p8 (rs:=[.cell 2 67,.cell 3 3,.cell 4 40]) (cs:=[_,_,_]) rfl d3O (n_4 rfl),⟨(x,0,0),(by exact .ret (.tups ⟨.old (c:=.agg (x).cells) (o8 (Src.pure _)).old,.old (.val _),.old (.val _),tt⟩)),.inl ⟨by rw [af];exact g1,rfl,rfl⟩⟩⟩
theorem c4h (s:Str) (hs:s.length<=1000000000000) (σ:List b9):b8 CC 102 [(sv s)] σ fun r τ=>∃ x:c2f,r = .ret (c3t x)/\τ=σ/\b4r s x :=
 G4 (res:=fun x=>.ret (c3t x)) hCC (fun c hc=>by simp at hc;subst hc;exact .val _) (c2e s hs) (fun x _=>C0 ⟨o8 x.1.pure,.val _,.val _,tt⟩) σ
structure Fi where
 p:Str
 b:Str
deriving DecidableEq
variable {b:List Ex} {fl:List Fi}
abbrev Fi.cells (x:Fi):List CV:=[sv x.p,sv x.b]
def Fi.cv (x:Fi):List CV:=x.cells
theorem Fi.pure (x:Fi):T0 x.cells:=⟨.val _,.val _,tt⟩
theorem H0 (l:List Fi) (nn:Bool):u0 (.list (l.map Fi.cv) nn none):=P9 (f:=Fi.cv) Fi.pure l nn
theorem a09 (n:Nat) (l:List Fi) (nn:Bool):Old n (.list (l.map Fi.cv) nn none):=(H0 l nn).old
abbrev B5 (l:List Fi) (nn:Bool):List CV:=[.list (l.map Fi.cv) nn none]
structure Va where
 n:Str
 v:Int
deriving DecidableEq
variable {v:Int}
abbrev Va.cells (x:Va):List CV:=[sv x.n,iv x.v]
def Va.cv (x:Va):List CV:=x.cells
theorem Va.pure (x:Va):T0 x.cells:=⟨.val _,.val _,tt⟩
theorem a0R (l:List Va) (nn:Bool):u0 (.list (l.map Va.cv) nn none):=P9 (f:=Va.cv) Va.pure l nn
theorem c0p (n:Nat) (l:List Va) (nn:Bool):Old n (.list (l.map Va.cv) nn none):=(a0R l nn).old
abbrev T6 (l:List Va) (nn:Bool):List CV:=[.list (l.map Va.cv) nn none]
def prv {α:Type} (l:List α) (i:Nat):Option α:=if i=0 then none else l[i - 1]?
theorem b5X (h:l[i]? = some x):prv l (i+1)=some x:=by unfold prv;simp [h]
theorem X8 {p:α} (hp:0 < i->l[i - 1]? = some p) (q:α->Bool):(prv l i).any q=(decide ((i:Int) > 0) && q p):=by
 unfold prv;by_cases h:i=0
 ·subst h;rfl
 ·rw [n_0 h,hp om_];have:decide ((i:Int) > 0)=true:=a1R om_;rw [this];rfl
theorem b3m (hi:i < l.length):∃ p,0 < i->l[((i:Int) - 1).toNat]? = some p/\l[i - 1]? = some p:=by
 refine ⟨l[i - 1]'om_,fun h0=>?_⟩;rw [show ((i:Int) - 1).toNat=i - 1 by omega];simp
def I1 (pv:Option Fi) (f:Fi):Int:=if G6 f.p=false then 6 else if (pv.any fun g=>decide (f.p=g.p))=true then 10 else if (pv.any fun g=>Op.bytesLess f.p g.p)=true then 6 else if 16384 < f.b.length then 2 else 0
def rvE:Option Fi->List Fi->Int
 | _,[]=>0
 | pv,f::l=>if I1 pv f=0 then rvE (some f) l else I1 pv f
def B2 (l:List Fi):Int:=if 64 < l.length then 2 else rvE none l
theorem b5C {l:List Fi} {f:Fi} (h:l[i]? = some f):rvE (prv l i) (l.drop i)=if I1 (prv l i) f=0 then rvE (prv l (i+1)) (l.drop (i+1)) else I1 (prv l i) f:=by
 obtain ⟨ae,rfl⟩:=n_3.1 h;rw [b5X h,R4 ae,rvE]
def a1P (pv:Option Va) (v:Va):Bool:=A9 v.n && (decide (-9007199254740992<=v.v) && decide (v.v<=9007199254740992)) && !(pv.any fun g=>Op.bytesLess v.n g.n || decide (v.n=g.n))
def evB:Option Va->List Va->Bool
 | _,[]=>true
 | pv,v::l=>a1P pv v && evB (some v) l
def a2s (l:List Va):Bool:=decide (l.length<=16) && evB none l
theorem b2O {ev:List Va} (h:a2s ev=true):ev.length<=16:=by
 unfold a2s at h;simp only [S7,a1X] at h;exact h.1
theorem b47 {l:List Va} {v:Va} (h:l[i]? = some v):evB (prv l i) (l.drop i)=(a1P (prv l i) v && evB (prv l (i+1)) (l.drop (i+1))):=by
 obtain ⟨ae,rfl⟩:=n_3.1 h;rw [b5X h,R4 ae,evB]
def a3B (s:Str):Bool:=G6 s && (decide ((s.length:Int) > 4) && b9t [46,115,114,99] s)
theorem b77 (l:List Fi) (nn:Bool) (hl:∀ f∈l,f.p.length<=1000000000) (σ:List b9):b8 CC 100 [.agg (B5 l nn)] σ fun r Y=>r = .ret (iv (B2 l))/\Y=σ:=by
 refine b8.anyw hCC pu_ pu_ (c7 (qO Tryz.func100 ?_)) σ;refine qD (F5 rfl tt j2 j4 ?_);refine qY a0S ?_;refine qC ?_ ?_<;>intro h1
 ·have aj:64 < l.length:=sm_ h1;exact d2U
 ·have aj:¬ 64 < l.length:=sm_ h1;refine qY a0S ?_;refine j7 hCC (α:=Nat) (fun i=>[(1,.ptr 0 0),(10,(.list (l.map Fi.cv) nn none)),(11,iv l.length),(12,iv i)]) (fun _=>[.box (B5 l nn)]) (fun i=>i<=l.length/\B2 l=rvE (prv l i) (l.drop i)) (fun i=>l.length - i) 0 ⟨n_5 _,by rw [B2,n_0 aj];rfl⟩ tu_ (ah:=[]) rfl w8 uz_ ?_;intro i ⟨hi,hr⟩;refine qk (qC ?_ ?_)<;> intro h2
  ·have ae:(i:Int) < l.length:=sp_ h2;obtain ⟨y,hb⟩:=gx_ l i;obtain ⟨p,hp⟩:=b3m (l:=l) (i:=i) om_;have fm:0 < i->l[i - 1]? = some p:=fun h=>(hp h).2;have aT:=hl y (n_2 hb);rw [b5C hb] at hr;refine b8G ?_;refine qY (c4 rfl c2U ⟨tt,tt⟩ (a1g y.p aT _) rfl) ?_;refine qC ?_ ?_<;>intro h3
   ·have u3:G6 y.p=false:=sp_ h3;have us:I1 (prv l i) y=6:=by rw [I1,n_1 u3]
    rw [us] at hr;exact b6N
   ·have u3:¬ G6 y.p=false:=sp_ h3;refine cW 15 ?_;refine b5D ?_;refine hY A3 ?_;refine c0M ?_;refine c04 ?_;refine c4M ?_;refine b92 ?_;refine S9 rfl rfl tt rfl a8B ?_;refine hY M8 ?_;refine b0k ?_;refine qC ?_ ?_<;>intro h4
    ·have u4:((prv l i).any fun g=>decide (y.p=g.p))=true:=by rw [X8 fm];exact h4
     have us:I1 (prv l i) y=10:=by rw [I1,n_0 u3,n_1 u4]
     rw [us] at hr;exact b6N
    ·have u4:¬ ((prv l i).any fun g=>decide (y.p=g.p))=true:=by rw [X8 fm];simpa using h4
     refine cW 15 ?_;refine b5D ?_;refine hY A3 ?_;refine c0M ?_;refine c04 ?_;refine c4M ?_;refine b92 ?_;refine c4o ?_;refine b0k ?_;refine qC ?_ ?_<;>intro h5
     ·have u5:((prv l i).any fun g=>Op.bytesLess y.p g.p)=true:=by rw [X8 fm];exact h5
      have us:I1 (prv l i) y=6:=by rw [I1,n_0 u3,n_0 u4,n_1 u5]
      rw [us] at hr;exact b6N
     ·have u5:¬ ((prv l i).any fun g=>Op.bytesLess y.p g.p)=true:=by rw [X8 fm];simpa using h5
      refine qY O8 ?_;refine qC ?_ ?_<;>intro h6
      ·have u6:16384 < y.b.length:=sm_ h6;have us:I1 (prv l i) y=2:=by rw [I1,n_0 u3,n_0 u4,n_0 u5,n_1 u6]
       rw [us] at hr;exact b6N
      ·have u6:¬ 16384 < y.b.length:=sm_ h6;have us:I1 (prv l i) y=0:=by rw [I1,n_0 u3,n_0 u4,n_0 u5,n_0 u6]
       rw [us,n_1 rfl] at hr;exact a8I
  ·exact d2j
theorem c02 (a b c d e:Bool):(a && b && !(c && (d || e))) = !((!a || !b) || (c && (d || e))):=by cases a<;>cases b<;>cases c<;>cases d<;>cases e<;>rfl
theorem c4i (s:Str):((G6 s && decide ((s.length:Int) > 4)) && b9t [46,115,114,99] s)=a3B s:=by rw [a3B,b8w]
theorem b1u (s:Str) (hs:s.length<=1000000000) (σ:List b9):b8 CC 101 [(sv s)] σ fun r Y=>r = .ret (.val (.bool (a3B s)))/\Y=σ:=by
 refine b8.anyw hCC pu_ pu_ (c7 (qO Tryz.func101 ?_)) σ;refine qY (c4 rfl c2U ⟨tt,tt⟩ (a1g s hs _) rfl) ?_;refine a6p ?_;refine a3Q ?_;refine qG C3 ?_;refine qG (fun hg=>c4 rfl Tryz.call152 ⟨hg,rfl,tt⟩ (a5n s _ om_ de_ _) rfl) ?_;refine qY M8 ?_;refine c6 ?_;exact ⟨_,rE1,_,_,rfl,rfl,j8 (c4i _)⟩
theorem b7h (v:Int) (σ:List b9):b8 CC 104 [iv v] σ fun r Y=>r = .ret (.val (.bool (decide (-9007199254740992<=v) && decide (v<=9007199254740992))))/\Y=σ:=by
 refine b8.anyw hCC pu_ pu_ (c7 (qO Tryz.func104 ?_)) σ;refine a9t ?_;exact c7e
theorem a3T (l:List Va) (nn:Bool) (σ:List b9):b8 CC 57 [.agg (T6 l nn)] σ fun r Y=>r = .ret (.val (.bool (a2s l)))/\Y=σ:=by
 refine b8.anyw hCC pu_ pu_ (c7 (qO Tryz.func57 ?_)) σ;refine qD (F5 rfl tt j2 j4 ?_);refine qY b41 ?_;refine qC ?_ ?_<;>intro h1
 ·have aj:¬ l.length<=16:=sm_ h1;refine c6 ?_;exact ⟨_,rE1,_,_,rfl,rfl,j8 (by rw [a2s,a1o aj];rfl)⟩
 ·have aj:l.length<=16:=sm_ h1;refine qY b41 ?_;refine j7 hCC (α:=Nat) (fun i=>[(1,.ptr 0 0),(10,(.list (l.map Va.cv) nn none)),(11,iv l.length),(12,iv i)]) (fun _=>[.box (T6 l nn)]) (fun i=>i<=l.length/\a2s l=evB (prv l i) (l.drop i)) (fun i=>l.length - i) 0 ⟨n_5 _,by rw [a2s,a1R aj];rfl⟩ tu_ (ah:=[]) rfl w8 uz_ ?_;intro i ⟨hi,hr⟩;refine qk (qC ?_ ?_)<;> intro h2
  ·have ae:(i:Int) < l.length:=sp_ h2;obtain ⟨y,hb⟩:=gx_ l i;obtain ⟨p,hp⟩:=b3m (l:=l) (i:=i) om_;have fm:0 < i->l[i - 1]? = some p:=fun h=>(hp h).2;rw [b47 hb] at hr;refine qY c1c ?_;refine d0C ?_;refine cW 26 ?_;refine d1S ?_;refine hY (c4 rfl b9j ⟨tt,tt⟩ (a0J y.n _) rfl) ?_;refine hY c0G ?_;refine hY A3 ?_;refine c8j ?_;refine S9 rfl rfl tt rfl (fun hg=>c4 rfl Tryz.call104 ⟨hg,tt⟩ (b7h y.v _) rfl) ?_;refine S9 rfl rfl tt rfl a4O ?_;refine hY Q1 ?_;refine c0z ?_;refine S9 rfl rfl tt rfl a6k ?_;refine S9 rfl rfl tt rfl a3G ?_;refine d6f ?_;refine d6Z ?_;refine d2n ?_;refine a4n rfl rfl (fun h=>h) rfl (fun hk hg=>o9 rfl ⟨hk,hg⟩ ⟨hk,hg⟩ rfl rfl c1q c0K d0L (i8 (hp (by change (_:Bool)=_ at hk;simp at hk hg;omega)).1) rfl) ?_;refine d7k ?_;refine d2H ?_;refine hY Q1 ?_;refine Y5 ?_;refine qC ?_ ?_<;>intro h3
   ·have u3:a1P (prv l i) y=false:=by rw [a1P,X8 fm,c02];rw [h3];rfl
    rw [u3,Bool.false_and] at hr;exact d1I
   ·have u3:a1P (prv l i) y=true:=by rw [a1P,X8 fm,c02];rw [h3];rfl
    rw [u3,b6t] at hr;exact a8I
  ·exact d2Q
def a0U (l:List Va) (s:Str):Option Int:=(l.find? fun v=>decide (v.n=s)).map Va.v
theorem b1Q {l:List Va} {v:Va} (h:l[i]? = some v) (s:Str):a0U (l.drop i) s=if v.n=s then some v.v else a0U (l.drop (i+1)) s:=by
 obtain ⟨ae,rfl⟩:=n_3.1 h;rw [R4 ae];unfold a0U;rw [b7x];by_cases hh:l[i].n=s
 ·simp [hh]
 ·simp [hh]
theorem b1H (l:List Va) (nn:Bool) (s:Str) (hl:l.length<=1000000000) (σ:List b9):b8 CC 112 [.agg (T6 l nn),(sv s)] σ fun r Y=>r = .ret (.tup [(iv ((a0U l s).getD 0)),(.val (.bool ((a0U l s).isSome)))])/\Y=σ:=by
 refine b8.anyw hCC pu_ pu_ (c7 (qO Tryz.func112 ?_)) σ;refine qD (F5 rfl tt j2 j4 ?_);refine d6M ?_;intro i ⟨hi,hr⟩;refine qk (qC ?_ ?_)<;> intro h1
 ·have ae:(i:Int) < l.length:=sp_ h1;obtain ⟨y,hb⟩:=gx_ l i;rw [b1Q hb] at hr;refine qY c1c ?_;refine d0C ?_;refine qY a6x ?_;refine qC ?_ ?_<;>intro h2
  ·have u2:y.n=s:=sp_ h2;rw [n_1 u2] at hr;exact d3l
  ·have u2:¬ y.n=s:=sp_ h2;rw [n_0 u2] at hr;exact a8I
 ·have aE:l.length<=i:=sm_ h1;rw [T5 aE] at hr;exact d2A
structure Nm where
 k:Int
 p:Str
 o:Str
deriving DecidableEq
abbrev Nm.cells (x:Nm):List CV:=[iv x.k,sv x.p,sv x.o]
def Nm.kc (x:Nm):CV:=.agg x.cells
def Nm.kv (x:Nm):Value:=.agg #[.int .i64 x.k,.string (str x.p),.string (str x.o)]
theorem Nm.pure (x:Nm):u0 x.kc:=o8 ⟨.val _,.val _,.val _,tt⟩
def D9 (k:Int) (p o:Str):Nm:=⟨k,if k=3 then [] else p,o⟩
theorem d6T (x y:Nm):∀ w,(Op.equal 175 x.kv y.kv).run CC.P w = .ok (decide (x=y)) w:=by
 intro w;show (Op.equal _ _ _).run Tryz.prog w=_;simp [Op.equal,Op.maxDepth,go_sem,Nm.kv,Y3];obtain ⟨a,b,c⟩:=x;obtain ⟨a',b',c'⟩:=y;by_cases h1:a=a'<;>by_cases h2:b=b'<;>by_cases h3:c=c'<;>simp [h1,h2,h3]
theorem d6S {M:A5} {w:World} {x:Nm} {v:Value} (h:RV M w x.kc v):v=x.kv:=a2q (l:=[.int .i64 x.k,.string (str x.p),.string (str x.o)]) h
theorem d4N {M:A5} {w:World} (x:Nm):RV M w x.kc x.kv:=by
 refine .agg rfl (fun c hc=>?_) fun i c hc=>?_
 ·simp at hc
  rcases hc with rfl | rfl | rfl<;>rfl
 ·rcases i with _ | _ | _ | i
  ·injection hc with hc;subst hc;exact .val _
  ·injection hc with hc;subst hc;exact .val _
  ·injection hc with hc;subst hc;exact .val _
  ·cases hc
theorem c7B:c5L (α:=Nm) CC.P 175 Nm.kc Nm.kv where
 rv _ _ _ _ h:=d6S h
 rv' _ _ a:=d4N a
 check b a w:=by
  have:∀ n,(Instr.checkKey b (n+2) 175 a.kv).run Tryz.prog w = .ok () w:=fun n=>by simp [Instr.checkKey,Nm.kv,go_sem]
  exact this 9998
 eq a b w:=d6T a b w
 now:=⟨_,c6J,fun a b=>rfl⟩
 bits a:=by
  have:∀ n,Instr.sameBits (n+2) a.kv a.kv=true:=fun n=>by simp [Instr.sameBits,Nm.kv,b3v]
  exact this 9998
theorem d1n:T4 (α:=Nm) CC.P 175 Nm.kc Nm.kv:=c7B.find
theorem b4B (k:Int) (p o:Str) (σ:List b9):b8 CC 133 [iv k,(sv p),(sv o)] σ fun r Y=>r = .ret (.agg (D9 k p o).cells)/\Y=σ:=by
 refine b8.anyw hCC pu_ pu_ (c7 (qO Tryz.func133 ?_)) σ;refine qD (p7 rfl c64 rfl j4 ?_);refine qC ?_ ?_<;>intro h1
 ·have u1:k=3:=sp_ h1;refine d2B ?_;refine c6 ?_;exact ⟨_,D5 rfl ⟨tt,_,_,_,rfl,rfl,.inr ⟨_,c4E,c4a,nb rfl,rfl⟩⟩,_,_,rfl,rfl,(by rw [D9,n_1 u1];exact .old ((Nm.pure ⟨k,[],o⟩).old))⟩
 ·have u1:¬ k=3:=sp_ h1;refine d2B ?_;refine c6 ?_;exact ⟨_,D5 rfl ⟨tt,_,_,_,rfl,rfl,.inr ⟨_,c4E,c4a,nb rfl,rfl⟩⟩,_,_,rfl,rfl,(by rw [D9,n_0 u1];exact .old ((Nm.pure ⟨k,p,o⟩).old))⟩
structure En where
 p:Str
 o:Str
 k:Int
 pl:Str
 ix:Int
 ct:Int
deriving DecidableEq
variable {o:Int}
abbrev En.cells (x:En):List CV:=[sv x.p,sv x.o,iv x.k,sv x.pl,iv x.ix,iv x.ct]
abbrev En.z:En:=⟨[],[],0,[],0,0⟩
theorem En.pure (x:En):u0 (.agg x.cells):=o8 ⟨.val _,.val _,.val _,.val _,.val _,.val _,tt⟩
def vcE (x:En):CV:=.agg x.cells
def vcS (x:Src):CV:=.agg x.cells
abbrev Src.z:Src:=⟨[],[],[]⟩
variable {z:Nat}
theorem a6O (x:Src):u0 (vcS x):=o8 x.pure
theorem a5f {z:Value} (d:β) (hd:I2 z=vc d) (o:Option β):(o.map vc).getD (I2 z)=vc (o.getD d):=by cases o<;>simp [hd]
theorem c5w {kc:α->CV} (hk:∀ a,u0 (kc a)) (hv:∀ b,u0 (vc b)) (n:Nat) (l:List (α × β)):J0 n (.map (gm kc vc l)):=fun x hx=>by
 obtain ⟨y,_,rfl⟩:=I9.1 hx;exact ⟨(hk _).old,(hv _).old⟩
theorem a7v {kc:α->CV} (hk:∀ a,u0 (kc a)) (hv:∀ b,u0 (vc b)) (l:List (α × β)):H8 R (.map (gm kc vc l)) (.map (gm kc vc l)):=.map ⟨rfl,fun i x x' h h'=>by
 rw [h] at h';injection h' with h';subst h'
 obtain ⟨y,_,rfl⟩:=I9.1 (n_2 h);exact ⟨.pure (hk _),.pure (hv _)⟩⟩
abbrev SM:=List (Str × Src)
variable {ms:SM}
abbrev EM:=List (Nm × En)
variable {me:EM}
abbrev smO (m:SM):b9:=.map (gm sv vcS m)
abbrev emO (m:EM):b9:=.map (gm Nm.kc vcE m)
theorem a9f (s:Str):u0 (sv s):=.val _
abbrev wbx (fl:List Fi) (nn va:Bool) (br:List Str) (q1 q2 t:Nat):b9:=.box [.list (fl.map Fi.cv) nn none,.val (.bool va),.map q1,.list (br.map scv) (gnn br.length) (G9 br.length t),.map q2]
abbrev wst (fl:List Fi) (nn va:Bool) (br:List Str) (ms:SM) (me:EM):List b9:=[wbx fl nn va br 1 2 3,smO ms,emO me,r7 br.length]
structure WAt (σ:List b9) (w q1 q2 t:Nat) (fl:List Fi) (nn va:Bool) (br:List Str) (ms:SM) (me:EM):Prop where
 hw:σ[w]? = some (wbx fl nn va br q1 q2 t)
 hs:σ[q1]? = some (smO ms)
 he:σ[q2]? = some (emO me)
 ht:σ[t]? = some (r7 br.length)
 nd:b3L [w,q1,q2,t]
theorem a7R {b c:Nat} (h:a≠b/\a≠c/\a≠d/\b≠c/\b≠d/\c≠d):b3L [a,b,c,d]:=fun i j k h1 h2=>by
 obtain ⟨h3,h4,h5,h6,h7,h8⟩:=h
 rcases i with _ | _ | _ | _ | i<;>rcases j with _ | _ | _ | _ | j<;>simp at h1 h2<;>omega
theorem b3D {t p1 p2 u:Nat} (h1:R q1 p1) (h2:R q2 p2) (h3:R t u):H8 R (wbx fl nn va br q1 q2 t) (wbx fl nn va br p1 p2 u) :=
 .box (.cons (.pure (H0 _ _)) (.cons (.pure (.val _)) (.cons (.map h1) (.cons (by
  refine .list rfl (fun i r r' h1 h2=>by rw [h1] at h2;injection h2 with h2;rw [h2]) (fun i j r r' c c' h1 h2 h3 h4=>?_) ?_
  ·rw [h1] at h2;injection h2 with h2;subst h2;rw [h3] at h4;injection h4 with h4;subst h4
   obtain ⟨y,_,rfl⟩:=I9.1 (n_2 h1);have hm:=n_2 h3;simp [scv] at hm;subst hm;exact .pure (.val _)
  ·cases hb:br.length with
   | zero=>exact .inl ⟨rfl,rfl⟩
   | succ m=>exact .inr ⟨t,u,rfl,rfl,h3⟩) (.cons (.map h2) .nil)))))
theorem a85 {t:Nat} (h1:q1 < L) (h2:q2 < L) (h3:t < L):J0 L (wbx fl nn va br q1 q2 t):=B6 ⟨a09 _ _ _,.val _,.map h1,.list (fun i j r c h h'=>by
 obtain ⟨y,_,rfl⟩:=I9.1 (n_2 h);have hm:=n_2 h';simp [scv] at hm;subst hm;exact .val _) (fun k hk=>by
  cases hb:br.length with
  | zero=>rw [hb] at hk;cases hk
  | succ m=>rw [hb] at hk;injection hk with hk;omega),.map h2,tt⟩
theorem X3 (n:Nat) (m:SM):J0 n (smO m):=c5w a9f a6O n m
theorem X5 (n:Nat) (m:EM):J0 n (emO m):=c5w Nm.pure En.pure n m
theorem a2r (hτ:τ=wbx fl nn va br 1 2 3::smO ms::emO me::r7 br.length::rest) (hc:E9 4 [0,1,2,3] c c'):F8 4 τ (.ret c) (.ret c') (wst fl nn va br ms me):=by
 subst hτ;exact ⟨[0,1,2,3],rfl,rfl,.ret hc,.inr ⟨_,rfl,.same rfl (a85 de_ de_ de_)⟩,.inr ⟨_,rfl,.same rfl (X3 _ _)⟩,.inr ⟨_,rfl,.same rfl (X5 _ _)⟩,.inr ⟨_,rfl,.same rfl G5⟩,tt⟩
theorem c7d {w t:Nat} (h:WAt σ w q1 q2 t fl nn va br ms me):∀ (i k:Nat) (ob:b9),[w,q1,q2,t][i]? = some k->(wst fl nn va br ms me)[i]? = some ob->∃ aN,[wbx fl nn va br q1 q2 t,smO ms,emO me,r7 br.length][i]? = some aN/\σ[k]? = some aN/\H8 (fun i k=>[w,q1,q2,t][i]? = some k) ob aN:=fun i k ob h1 h2=>by
 rcases i with _ | _ | _ | _ | i
 ·injection h1 with h1;injection h2 with h2;subst h1 h2;exact ⟨_,rfl,h.hw,b3D rfl rfl rfl⟩
 ·injection h1 with h1;injection h2 with h2;subst h1 h2;exact ⟨_,rfl,h.hs,a7v a9f a6O _⟩
 ·injection h1 with h1;injection h2 with h2;subst h1 h2;exact ⟨_,rfl,h.he,a7v Nm.pure En.pure _⟩
 ·injection h1 with h1;injection h2 with h2;subst h1 h2;exact ⟨_,rfl,h.ht,a1q _⟩
 ·cases h1
theorem d7P {f:FuncId} {args:List CV} {c:α->CV} (ap:∀ a∈args,u0 a) (hc:∀ a,u0 (c a))
 (h:b8 CC f (.ptr 0 0::args) (wst fl nn va br ms me) fun r τ=>∃ a,F8 4 τ r (.ret (c a)) (wst fl nn va br ms me)/\P a) {σ:List b9} {w q1 q2 t:Nat} (ao:WAt σ w q1 q2 t fl nn va br ms me):b8 CC f (.ptr w 0::args) σ fun r τ=>∃ a,r = .ret (c a)/\τ=σ/\P a :=
 a5J [w,q1,q2,t] hCC rfl ao.nd (c7d ao) (.cons (.ptr rfl) (L3 ap)) (fun a _=>hc a) (L6 hCC (h.mono fun _ _ ⟨a,h1,h2⟩=>⟨_,_,h1,a,rfl,rfl,h2⟩))
theorem b2B {f:FuncId} {args:List CV} (ap:∀ a∈args,u0 a) (hc:u0 c)
 (h:b8 CC f (.ptr 0 0::args) (wst fl nn va br ms me) fun r τ=>F8 4 τ r (.ret c) (wst fl nn va br ms me)) {σ:List b9} {w q1 q2 t:Nat} (ao:WAt σ w q1 q2 t fl nn va br ms me):b8 CC f (.ptr w 0::args) σ fun r τ=>r = .ret c/\τ=σ :=
 (d7P (α:=Unit) (c:=fun _=>c) (P:=fun _=>True) ap (fun _=>hc) (h.mono fun _ _ hh=>⟨(),hh,tt⟩) ao).mono fun _ _ ⟨_,h1,h2,_⟩=>⟨h1,h2⟩
def a2k (me:EM) (x:En):EM:=S8 me (D9 x.k x.p x.o) (match glk me (D9 x.k x.p x.o) with | some f=>{ f with ct:=f.ct+1} | none=>x)
def O7 (va:Bool) (me:EM) (k:Int) (p o:Str):En:=if va=true then (match glk me (D9 k p o) with | some x=>x | none=>⟨(D9 k p o).p,o,k,[],0,0⟩) else En.z
def C2 (fl:List Fi) (s:Str):Option Str:=(fl.find? fun f=>decide (f.p=s)).map Fi.b
theorem a91 {l:List Fi} {v:Fi} (h:l[i]? = some v) (s:Str):C2 (l.drop i) s=if v.p=s then some v.b else C2 (l.drop (i+1)) s:=by
 obtain ⟨ae,rfl⟩:=n_3.1 h;rw [R4 ae];unfold C2;rw [b7x];by_cases hh:l[i].p=s
 ·simp [hh]
 ·simp [hh]
theorem c2B (fl:List Fi) (nn va:Bool) (br:List Str) (ms:SM) (me:EM) (x:En) (fT:∀ k e,glk me k=some e->0<=e.ct/\e.ct<=1000000):b8 CC 103 [.ptr 0 0,.agg x.cells] (wst fl nn va br ms me) fun r τ=>F8 4 τ r (.ret (.tup [])) (wst fl nn va br ms (a2k me x)):=by
 refine cO Tryz.func103 ?_;refine b1x ?_;refine a6t ?_;refine cY a8s ?_;refine cY a1w ?_;refine cY b2g ?_;refine cY T2 ?_;refine cY b2g ?_;refine cY T2 ?_;refine yc rfl Tryz.call133 C6 (b4B x.k x.p x.o _) ?_;refine d1v ?_;refine a8F ?_;refine d3m ?_;refine b1q ?_;refine chf rfl (c9 rfl b2Q) ?_;refine chf rfl (c9 rfl b1L) ?_;refine chf rfl (c9 rfl b2f) ?_;refine chf rfl (c9 rfl d6w) ?_;refine chf rfl X0 ?_;refine chf rfl b1V ?_;refine chf rfl b1V ?_;refine D6 ?_;refine B8 rfl rfl rfl (p7 rfl a5i rfl j4 ?_);refine ⟨⟨F3,a1F,(by exact c9 rfl b2Q),(by exact c9 rfl b1L),(by exact c9 rfl b2f),(by exact c9 rfl d6w),F3,a8c,a8c,tt⟩,?_⟩;refine d2R ?_;refine b85 ?_;refine z_4 ?_;refine z8 ?_;refine cC ?_ ?_<;>intro h1
 ·obtain ⟨e,he⟩:∃ e,glk me (D9 x.k x.p x.o)=some e:=b5F.1 h1;have aJ:=fT _ _ he;rw [he];have hle2:0<=((some e).getD En.z).ct/\((some e).getD En.z).ct<=1000000:=aJ;refine z_0 ?_;refine cY b7Z ?_;refine c9i ?_;refine C8 ?_;refine cY a8s ?_;refine cY a1w ?_;refine cY o7 ?_;refine cY a8s ?_;refine cD (j3 rfl tt tt rfl j2 t_1 (.inl rfl) rfl rfl (nb rfl) ?_);refine z8 ?_;refine cW 6 ?_;refine a3Z ?_;refine hY b2Q ?_;refine hY b1L ?_;refine hY b2f ?_;refine hY b7Z ?_;refine a59 ?_;refine cD (l8 (vc:=vcE) (l:=me) (a:=(D9 x.k x.p x.o)) (b:={ e with ct:=e.ct+1}) d1n (.inl rfl) tt tt trivial rfl rfl rfl c06 rfl ?_);refine z8 ?_;exact ⟨_,rE0,(by have ha:a2k me x=S8 me (D9 x.k x.p x.o) { e with ct:=e.ct+1}:=(by rw [a2k,he]);exact a2r (by rw [ha];rfl) (.old (Old.tup (fun i c h=>by cases h))))⟩
 ·have he:glk me (D9 x.k x.p x.o)=none:=sp_ h1;refine C5 ?_;refine cW 6 ?_;refine a3Z ?_;refine hY b2Q ?_;refine hY b1L ?_;refine hY b2f ?_;refine hY b7Z ?_;refine a59 ?_;refine cD (l8 (vc:=vcE) (l:=me) (a:=(D9 x.k x.p x.o)) (b:=x) d1n (.inl rfl) tt tt trivial rfl rfl rfl c06 rfl ?_);refine z8 ?_;exact ⟨_,rE0,(by have ha:a2k me x=S8 me (D9 x.k x.p x.o) x:=(by rw [a2k,he]);exact a2r (by rw [ha];rfl) (.old (Old.tup (fun i c h=>by cases h))))⟩
theorem c49 (fl:List Fi) (nn va:Bool) (br:List Str) (ms:SM) (me:EM) (k:Int) (p o:Str):b8 CC 90 [.ptr 0 0,iv k,(sv p),(sv o)] (wst fl nn va br ms me) fun r τ=>F8 4 τ r (.ret (.agg (O7 va me k p o).cells)) (wst fl nn va br ms me):=by
 refine cO Tryz.func90 ?_;refine z_0 ?_;refine cD (p7 rfl a5i rfl j4 ?_);refine a8F ?_;refine a8S ?_;refine c8K ?_;refine a82 ?_;refine cC ?_ ?_<;>intro h1
 ·have hv:va=false:=sp_ h1;refine z_0 ?_;refine cY d6j ?_;refine c9i ?_;refine c6 ?_;exact ⟨_,D5 rfl c07,(by rw [O7,n_0 (by rw [hv];decide)];exact a2r rfl (.old (c:=.agg En.z.cells) (En.pure _).old))⟩
 ·have hv:va=true:=sp_ h1;refine C5 ?_;refine a6T ?_;refine cY A3 ?_;refine yc rfl Tryz.call133 C6 (b4B k p o _) ?_;refine d1v ?_;refine a8F ?_;refine d3m ?_;refine b1q ?_;refine chf rfl (c9 rfl b2Q) ?_;refine chf rfl (c9 rfl b1L) ?_;refine chf rfl (c9 rfl b2f) ?_;refine chf rfl (c9 rfl d6o) ?_;refine chf rfl X0 ?_;refine chf rfl b1V ?_;refine chf rfl b1V ?_;refine D6 ?_;refine B8 rfl rfl rfl (p7 rfl a5i rfl j4 ?_);refine ⟨⟨F3,a1F,(by exact c9 rfl b2Q),(by exact c9 rfl b1L),(by exact c9 rfl b2f),(by exact c9 rfl d6o),F3,a8c,a8c,tt⟩,?_⟩;refine d2R ?_;refine b85 ?_;refine z_4 ?_;refine z8 ?_;refine cC ?_ ?_<;>intro h2
  ·obtain ⟨e,he⟩:∃ e,glk me (D9 k p o)=some e:=b5F.1 h2;rw [he];refine z_0 ?_;refine cY b7Z ?_;refine c9i ?_;refine c6 ?_;exact ⟨_,D5 rfl c07,(by rw [O7,n_1 hv,he];exact a2r rfl (.old (c:=.agg e.cells) (En.pure _).old))⟩
  ·have he:glk me (D9 k p o)=none:=sp_ h2;refine a9F ?_;refine cY (j5 rfl tt rfl c6J rfl t_0 de_) ?_;refine cY T2 ?_;refine cY A3 ?_;refine cY A3 ?_;refine cY d6C ?_;refine c9i ?_;refine c6 ?_;exact ⟨_,D5 rfl c07,(by rw [O7,n_1 hv,he];exact a2r rfl (.old (c:=.agg (⟨(D9 k p o).p,o,k,[],0,0⟩:En).cells) (En.pure _).old))⟩
theorem c7Q (fl:List Fi) (nn va:Bool) (br:List Str) (ms:SM) (me:EM) (s:Str) (bO:fl.length<=1000000):b8 CC 110 [.ptr 0 0,(sv s)] (wst fl nn va br ms me) fun r τ=>F8 4 τ r (.ret (.tup [sv ((C2 fl s).getD []),.val (.bool (C2 fl s).isSome)])) (wst fl nn va br ms me):=by
 refine qO Tryz.func110 ?_;refine qY a0S ?_;refine j7 hCC (α:=Nat) (fun i=>[(1,(sv s)),(12,(.list (fl.map Fi.cv) nn none)),(13,iv fl.length),(14,iv i)]) (fun _=>(wst fl nn va br ms me)) (fun i=>i<=fl.length/\C2 fl s=C2 (fl.drop i) s) (fun i=>fl.length - i) 0 ⟨n_5 _,rfl⟩ tu_ (ah:=[]) rfl w8 uz_ ?_;intro i ⟨hi,hr⟩;refine qk (qC ?_ ?_)<;> intro h1
 ·have ae:(i:Int) < fl.length:=sp_ h1;obtain ⟨y,hb⟩:=gx_ fl i;rw [a91 hb] at hr;refine b1R ?_;refine qC ?_ ?_<;>intro h2
  ·have u2:y.p=s:=sp_ h2;rw [n_1 u2] at hr;refine c6 ?_;exact ⟨_,p8 (rs:=[.tmp 4,.tmp 5]) (cs:=[_,_]) rfl T1 (n_4 rfl),(by rw [hr];exact a2r rfl (.old (c:=.tup [sv y.b,.val (.bool true)]) (u0.old (.tup (fun c hc=>by simp at hc;rcases hc with rfl | rfl<;>exact .val _)))))⟩
  ·have u2:¬ y.p=s:=sp_ h2;rw [n_0 u2] at hr;exact a8I
 ·have aE:fl.length<=i:=sm_ h1;rw [T5 aE] at hr;refine V9 ?_;exact ⟨_,p8 (rs:=[.tmp 4,.tmp 5]) (cs:=[_,_]) rfl T1 (n_4 rfl),(by rw [hr];exact a2r rfl (.old (c:=.tup [sv [],.val (.bool false)]) (u0.old (.tup (fun c hc=>by simp at hc;rcases hc with rfl | rfl<;>exact .val _)))))⟩
def addDs (me:EM) (path pkg:Str):List De->Nat->EM
 | [],_=>me
 | d::ds,k=>addDs (a2k me ⟨pkg,d.name,d.k,path,(k:Int),1⟩) path pkg ds (k+1)
abbrev WS:=List Str × SM × EM
def a0p (s:WS) (f:Fi):WS:=if a3B f.p=true then (match O5 f.b with | none=>(s.1++[f.p],s.2.1,s.2.2) | some x=>(s.1,S8 s.2.1 f.p x,addDs s.2.2 f.p x.pkg x.decls 0)) else s
def a7X (fl:List Fi) (s:WS):WS:=fl.foldl a0p s
def x9 (fl:List Fi):WS:=if B2 fl=0 then a7X fl ([],[],[]) else ([],[],[])
def CtB (n:Nat) (me:EM):Prop:=∀ k e,glk me k=some e->0<=e.ct/\e.ct<=(n:Int)
theorem CtB.add {n:Nat} (h:CtB n me) {x:En} (hx:x.ct=1):CtB (n+1) (a2k me x):=fun k e he=>by
 rw [a2k,O0] at he;split at he
 ·injection he with he
  subst he;cases hg:glk me (D9 x.k x.p x.o) with
  | none=>simp only;omega
  | some f=>have:=h _ _ hg;simp only;omega
 ·have:=h _ _ he;omega
theorem CtB.nil (n:Nat):CtB n []:=fun k e h=>by cases h
theorem CtB.mono {n:Nat} (h:CtB n me) (bI:n<=m):CtB m me:=fun k e he=>by have:=h k e he;omega
theorem a5S {path pkg:Str} {l:List De} {k:Nat} {d:De} (h:l[k]? = some d):addDs me path pkg (l.drop k) k=addDs (a2k me ⟨pkg,d.name,d.k,path,(k:Int),1⟩) path pkg (l.drop (k+1)) (k+1):=by
 obtain ⟨ae,rfl⟩:=n_3.1 h;rw [R4 ae,addDs]
theorem c2E {l:List Fi} {f:Fi} (h:l[i]? = some f) (s:WS):a7X (l.drop i) s=a7X (l.drop (i+1)) (a0p s f):=by
 obtain ⟨ae,rfl⟩:=n_3.1 h;unfold a7X;rw [R4 ae,List.foldl_cons]
theorem c0P:∀ {pv:Option Fi} {l:List Fi},rvE pv l=0->∀ f∈l,G6 f.p=true/\f.b.length<=16384
 | _,[],_,f,h=>by cases h
 | pv,x::l,h0,f,h=>by
  rw [rvE] at h0;split at h0
  ·rename_i hs
   rcases P0.1 h with rfl | h
   ·unfold I1 at hs;split at hs
    ·cases hs
    ·rename_i hp;split at hs
     ·cases hs
     ·split at hs
      ·cases hs
      ·split at hs
       ·cases hs
       ·exact ⟨sp_ hp,om_⟩
   ·exact c0P h0 f h
  ·rename_i hs;exact absurd h0 hs
theorem a6a {l:List Fi} (h:B2 l=0):l.length<=64/\∀ f∈l,G6 f.p=true/\f.b.length<=16384:=by
 unfold B2 at h;split at h
 ·cases h
 ·exact ⟨om_,c0P h⟩
theorem a93:∀ (f:Nat) {T:List Tok} {n:Nat} {l:List De} {x:List De × Nat},R1 f T n l=some x->x.1.length+1<=l.length+f
 | 0,T,n,l,x,h=>by cases h
 | f+1,T,n,l,x,h=>by
  rw [R1] at h;split at h
  ·injection h with h;subst h;simp only;omega
  ·cases hd:a0n T l n with
   | none=>rw [hd] at h;cases h
   | some y =>
    rw [hd,n_8] at h;have:=a93 f h;rw [n_7,b2o] at this;omega
theorem b2R {x:Src} (h:a0V T=some x):x.decls.length<=64:=by
 unfold a0V at h;cases h1:pIs T 0 1 [112,97,99,107,97,103,101] with
 | none=>rw [h1] at h;cases h
 | some n1 =>
  rw [h1,n_8] at h;cases h2:J3 T n1 with
  | none=>rw [h2] at h;cases h
  | some w =>
   rw [h2,n_8] at h;cases h3:pIs T w.2 4 [59] with
   | none=>rw [h3] at h;cases h
   | some n2 =>
    rw [h3,n_8] at h;cases h4:a04 9 T w.1.t n2 [] with
    | none=>rw [h4] at h;cases h
    | some y =>
     rw [h4,n_8] at h;cases h5:R1 65 T y.2 [] with
     | none=>rw [h5] at h;cases h
     | some z =>
      rw [h5,n_8] at h;injection h with h
      subst h;have:=a93 _ h5;simp only [I3] at this ⊢;omega
theorem b9h {s:Str} {x:Src} (h:O5 s=some x):x.decls.length<=64:=by
 unfold O5 at h;cases h1:a2K s with
 | none=>rw [h1] at h;cases h
 | some T=>rw [h1,n_8] at h;exact b2R h
theorem c5F {w t:Nat} (ao:WAt σ w q1 q2 t fl nn va br ms me) (x:En) (fT:∀ k e,glk me k=some e->0<=e.ct/\e.ct<=1000000):b8 CC 103 [.ptr w 0,.agg x.cells] σ fun r τ=>∃ _:Unit,r = .ret (.tup [])/\τ=b1b σ [w,q1,q2,t] [wbx fl nn va br q1 q2 t,smO ms,emO (a2k me x),r7 br.length]/\True :=
 b4A (α:=Unit) (obs:=wst fl nn va br ms me) (res:=fun _=>.ret (.tup [])) (res':=fun _=>.ret (.tup [])) (S:=fun _=>wst fl nn va br ms (a2k me x)) (S':=fun _=>[wbx fl nn va br q1 q2 t,smO ms,emO (a2k me x),r7 br.length]) (P:=fun _=>True) [w,q1,q2,t] hCC rfl ao.nd (fun i k ob h1 h2=>by
  obtain ⟨aN,_,h3,h4⟩:=c7d ao i k ob h1 h2;exact ⟨aN,h3,h4.symm fun _ _ h=>h⟩) (.cons (.ptr rfl) (L3 fun a ha=>by simp at ha;subst ha;exact En.pure x)) (L6 hCC ((c2B fl nn va br ms me x fT).mono fun r τ h=>⟨_,_,h,(),rfl,rfl,tt⟩)) a1N (fun _ i k y h1 h2=>by
  rcases i with _ | _ | _ | _ | i
  ·injection h2 with h2;subst h2;exact ⟨_,rfl,b3D rfl rfl rfl⟩
  ·injection h2 with h2;subst h2;exact ⟨_,rfl,a7v a9f a6O _⟩
  ·injection h2 with h2;subst h2;exact ⟨_,rfl,a7v Nm.pure En.pure _⟩
  ·injection h2 with h2;subst h2;exact ⟨_,rfl,a1q _⟩
  ·cases h2) fun _=>.ret (.pure (C0 trivial))
theorem d0j (fl:List Fi) (nn:Bool) (hl:∀ f∈fl,f.p.length<=1000000000):b8 CC 56 [.agg (B5 fl nn)] [] fun r τ=>F8 0 τ r (.ret (.ptr 0 0)) (wst fl nn (B2 fl == 0) (x9 fl).1 (x9 fl).2.1 (x9 fl).2.2):=by
 refine cO Tryz.func56 ?_;refine b1x ?_;refine a7x ?_;refine a9j hCC 1 rfl (α:=Unit) (fun _=>[(1,.ptr 0 0),(3,.ptr 3 0)]) (fun _=>[.box (B5 fl nn),.map [],.map [],.box [.list (fl.map Fi.cv) nn none,.val (.bool (B2 fl == 0)),.map 1,.list [] false none,.map 2]]) (fun _=>True) ?_ fun _ _=>?_
 ·refine d0V [0,0,2,6,0,0,63,127,255] [0,1,2,3] (f:=5) B4 B4 rfl ?_;refine chf rfl b2H ?_;refine chf rfl b2H ?_;refine chf rfl (c9 rfl c1P) ?_;refine chf rfl (c9 rfl Z0) ?_;refine D6 ?_;refine d7A (i:=4) (i':=5) B4 rfl rfl rfl rfl (S4 rfl ?_) (S4 rfl ?_)
  ·refine ⟨⟨fun _=>by exact c9 rfl a06,fun _=>by exact c9 rfl a06,fun _=>by exact c9 rfl c1P,fun _=>by exact c9 rfl Z0,tt⟩,?_⟩;refine d3B (i:=5) B4 rfl rfl (S4 rfl ?_);refine d2a ?_;refine d1V ?_;refine d4D (i:=8) B4 rfl b3e ?_;exact ⟨by kernel_rfl,(),[0,1,2,3],tt,⟨rfl,rfl⟩,⟨⟨tt,.ptr rfl⟩,⟨tt,.ptr rfl⟩,tt⟩,.inr ⟨_,rfl,.same rfl a05⟩,.inr ⟨_,rfl,.same rfl (fun x hx=>by cases hx)⟩,.inr ⟨_,rfl,.same rfl (fun x hx=>by cases hx)⟩,.inr ⟨_,rfl,.box ⟨.old a2A,.old (.val _),.map rfl,.old a15,.map rfl,tt⟩⟩,tt⟩
  ·refine ⟨⟨fun _=>by exact c9 rfl a06,fun _=>by exact c9 rfl a06,fun _=>by exact c9 rfl c1P,fun _=>by exact c9 rfl Z0,tt⟩,?_⟩;refine d3B (i:=4) B4 rfl rfl (S4 rfl ?_);refine d2a ?_;refine d1V ?_;refine d4D (i:=8) B4 rfl b3e ?_;exact ⟨by kernel_rfl,(),[0,2,1,3],tt,⟨rfl,rfl⟩,⟨⟨tt,.ptr rfl⟩,⟨tt,.ptr rfl⟩,tt⟩,.inr ⟨_,rfl,.same rfl a05⟩,.inr ⟨_,rfl,.same rfl (fun x hx=>by cases hx)⟩,.inr ⟨_,rfl,.same rfl (fun x hx=>by cases hx)⟩,.inr ⟨_,rfl,.box ⟨.old a2A,.old (.val _),.map rfl,.old a15,.map rfl,tt⟩⟩,tt⟩
 refine D4 ?_;refine a8S ?_;refine c8K ?_;refine a82 ?_;refine cC ?_ ?_<;>intro h1
 ·have hv:¬ B2 fl=0:=sp_ h1;refine z_4 ?_;refine a2l ?_;exact ⟨_,rE1,(by rw [x9,n_0 hv];exact ⟨[3,1,2,9],rfl,rfl,.ret (.ptr rfl),.inr ⟨_,rfl,.box ⟨.old a2A,.old (.val _),.map rfl,.old a15,.map rfl,tt⟩⟩,.inr ⟨_,rfl,.same rfl (X3 _ _)⟩,.inr ⟨_,rfl,.same rfl (X5 _ _)⟩,.inl rfl,tt⟩)⟩
 ·have hv:B2 fl=0:=sp_ h1;obtain ⟨bO,hfa⟩:=a6a hv;have af:x9 fl=a7X fl ([],[],[]):=by rw [x9,n_1 hv]
  refine b5S ?_;refine z_0 ?_;refine d3b ?_;refine cY a0S ?_;refine a5G ?_;refine B9 hCC 4 rfl (α:=Nat × WS) (fun x=>[(3,.ptr 3 0),(26,(.list (fl.map Fi.cv) nn none)),(27,iv fl.length),(28,iv x.1)]) (fun x=>[.box (B5 fl nn),smO x.2.2.1,emO x.2.2.2,wbx fl nn (B2 fl == 0) x.2.1 1 2 4,r7 x.2.1.length]) (fun x=>x.1<=fl.length/\x.2.1.length<=x.1/\CtB (64*x.1) x.2.2.2/\x9 fl=a7X (fl.drop x.1) x.2) (fun x=>fl.length - x.1) ⟨(0,[],[],[]),[0,1,2,3,9],⟨n_5 _,n_5 _,CtB.nil _,af⟩,⟨rfl,rfl⟩,ut_,⟨.inr ⟨_,rfl,.same rfl a05⟩,.inr ⟨_,rfl,.same rfl (X3 _ _)⟩,.inr ⟨_,rfl,.same rfl (X5 _ _)⟩,.inr ⟨_,rfl,.box ⟨.old a2A,.old (.val _),.map rfl,.old a15,.map rfl,tt⟩⟩,.inl rfl,tt⟩⟩ ?_;intro ⟨i,br,ms,me⟩ ⟨hi,hbr,fT,hr⟩;dsimp only at hi hbr fT hr ⊢;refine a5H ?_;refine cC ?_ ?_<;>intro h2
  ·have ae:(i:Int) < fl.length:=sp_ h2;obtain ⟨y,hb⟩:=gx_ fl i;have hy:=hfa y (n_2 hb);have dT:=hl y (n_2 hb);rw [c2E hb,a0p] at hr;refine b0E ?_;refine cY c5g ?_;refine cY (W7 rfl tt rfl c38 a3O (nb rfl)) ?_;refine d2z ?_;refine a6B ?_;refine cY a9R ?_;refine cY T2 ?_;refine yc rfl Tryz.call101 ⟨tt,tt⟩ (b1u y.p dT _) ?_;refine a82 ?_;refine cC ?_ ?_<;>intro h3
   ·have u3:¬ a3B y.p=true:=sp_ h3;rw [n_0 u3] at hr;refine j6 ?_;refine a7n ?_;exact ⟨(i+1,br,ms,me),[0,1,2,3,4],⟨do_,do_,do_,fT.mono om_,hr⟩,⟨rfl,rfl⟩,ut_,⟨.inr ⟨_,rfl,.same rfl a05⟩,.inr ⟨_,rfl,.same rfl (X3 _ _)⟩,.inr ⟨_,rfl,.same rfl (X5 _ _)⟩,.inr ⟨_,rfl,.box ⟨.old a2A,.old (.val _),.map rfl,E9.grow (f:=scv) (fun _=>⟨.val _,tt⟩) rfl,.map rfl,tt⟩⟩,.inr ⟨_,rfl,.same rfl G5⟩,tt⟩⟩
   ·have u3:a3B y.p=true:=sp_ h3;rw [n_1 u3] at hr;refine a9F ?_;refine cY a9R ?_;refine cY T2 ?_;refine de rfl Tryz.call102 ⟨tt,tt⟩ (c4h y.b om_ _) rfl ?_;rintro ⟨x,at_,e⟩ hP;dsimp only at hP ⊢;refine a9V ?_;refine cY a4g ?_;refine d2p ?_;refine cY a0Q ?_;refine b2a ?_;refine z_4 ?_;refine a7Z ?_;refine cC ?_ ?_<;>intro h4
    ·have he:e≠0:=sp_ h4;have co:O5 y.b=none:=by
      rcases hP with ⟨_,_,g⟩ | ⟨g,_⟩
      ·exact absurd g he
      ·exact g
     rw [co] at hr;simp only at hr;have eo:=T7 br y.p;refine D4 ?_;refine cF [] [0,1,2,3,4,5,6,7] (tl:=[(8,[0]),(9,[]),(10,[]),(11,[])]) ?_;refine a7h ?_;refine chf rfl b5w ?_;refine chf rfl (c9 rfl (j5 rfl tt rfl b9a rfl a2W de_)) ?_;refine chf rfl c5G ?_;refine b1P ?_;refine chf rfl d6l ?_;refine D6 ?_;refine B8 rfl rfl rfl (F4 rfl tt tt rfl si_ q_2 t_2 t_0 a4b t_3 rfl (.inr rfl) q_7 a4s G7 ((br++[y.p]).map scv) (br++[y.p]).length si_ si_ ?_);refine c6o ?_;refine D7 rfl rfl (c9 rfl (j5 rfl tt rfl b9a rfl a2W de_)) ⟨tt,?_⟩;refine B8 rfl rfl rfl (j3 rfl tt tt rfl j2 a2W (.inl rfl) rfl rfl (nb rfl) ?_);refine a8D ?_;refine j6 ?_;refine a7n ?_;exact ⟨(i+1,br++[y.p],ms,me),[0,1,2,3,7],⟨do_,do_,do_,fT.mono om_,hr⟩,⟨rfl,rfl⟩,ut_,⟨.inr ⟨_,rfl,.same rfl a05⟩,.inr ⟨_,rfl,.same rfl (X3 _ _)⟩,.inr ⟨_,rfl,.same rfl (X5 _ _)⟩,.inr ⟨_,rfl,.box ⟨.old a2A,.old (.val _),.map rfl,E9.grow (f:=scv) (fun _=>⟨.val _,tt⟩) rfl,.map rfl,tt⟩⟩,.inr ⟨_,rfl,.same rfl G5⟩,tt⟩⟩
    ·have he:e=0:=sp_ h4;have co:O5 y.b=some x:=by
      rcases hP with ⟨g,_⟩ | ⟨_,_,g⟩
      ·exact g
      ·exact absurd he g
     rw [co] at hr;simp only at hr;have fi:=b9h co;refine b5S ?_;refine cW 7 ?_;refine a3Z ?_;refine hY b7G ?_;refine hY b6q ?_;refine hY a9R ?_;refine hY T2 ?_;refine hY a8t ?_;refine a59 ?_;refine cD (l8 (vc:=vcS) (l:=ms) (a:=y.p) (b:=x) b7C (.inl rfl) tt tt trivial rfl rfl rfl c0S rfl ?_);refine a6t ?_;refine cY b5h ?_;refine cY b5J ?_;refine cY a3X ?_;refine a5G ?_;refine B9 hCC 7 rfl (α:=Nat × EM) (fun z=>[(3,.ptr 3 0),(26,(.list (fl.map Fi.cv) nn none)),(27,iv fl.length),(28,iv i),(5,.ptr 5 0),(6,.ptr 6 0),(64,(.list (x.decls.map De.cv) (gnn x.decls.length) none)),(65,iv x.decls.length),(66,iv z.1)]) (fun z=>[.box (B5 fl nn),smO (S8 ms y.p x),emO z.2,wbx fl nn (B2 fl == 0) br 1 2 4,r7 br.length,.box y.cells,.box x.cells]) (fun z=>z.1<=x.decls.length/\CtB (64*i+z.1) z.2/\addDs me y.p x.pkg x.decls 0=addDs z.2 y.p x.pkg (x.decls.drop z.1) z.1) (fun z=>x.decls.length - z.1) ⟨(0,me),[0,1,2,3,4,5,6],⟨n_5 _,fT,rfl⟩,⟨rfl,rfl⟩,ut_,⟨.inr ⟨_,rfl,.same rfl a05⟩,.inr ⟨_,rfl,.same rfl (X3 _ _)⟩,.inr ⟨_,rfl,.same rfl (X5 _ _)⟩,.inr ⟨_,rfl,.box ⟨.old a2A,.old (.val _),.map rfl,E9.grow (f:=scv) (fun _=>⟨.val _,tt⟩) rfl,.map rfl,tt⟩⟩,.inr ⟨_,rfl,.same rfl G5⟩,.inr ⟨_,rfl,.same rfl b0x⟩,.inr ⟨_,rfl,.same rfl (B6 ⟨.val _,C1 _ _ _,P2 _ _ _,tt⟩)⟩,tt⟩⟩ ?_;intro ⟨k,me2⟩ ⟨hk,hct2,bm⟩;dsimp only at hk hct2 bm ⊢;refine a5H ?_;refine cC ?_ ?_<;>intro h5
     ·have fZ:(k:Int) < x.decls.length:=sp_ h5;obtain ⟨d,hd⟩:=gx_ x.decls k;rw [a5S hd] at bm;refine c11 ?_;refine z_4 ?_;refine cY a8r ?_;refine cY c5j ?_;refine cD (p7 rfl a8K rfl j4 ?_);refine cY a0Q ?_;refine c5A ?_;refine a3y ?_;refine cY b4R ?_;refine cY T2 ?_;refine cY a9y ?_;refine cY T2 ?_;refine b6H ?_;refine cY a9R ?_;refine cY T2 ?_;refine cY A3 ?_;refine cY (A7 #[(0,1),(1,1),(2,1),(3,1),(4,1),(5,1)] rfl ⟨tt,tt,tt,tt,tt,rfl,tt⟩ b7A a5i rfl ⟨_,rfl⟩ (fun w=>by kernel_rfl) rfl rfl) ?_;refine de rfl Tryz.call103 j1 (c5F (w:=3) (q1:=1) (q2:=2) (t:=4) ⟨rfl,rfl,rfl,rfl,a7R de_⟩ ⟨x.pkg,d.name,d.k,y.p,(k:Int),1⟩ (fun a b h=>by have:=hct2 a b h;omega)) rfl ?_;rintro _ _;refine K0 [.box (B5 fl nn),smO (S8 ms y.p x),emO (a2k me2 ⟨x.pkg,d.name,d.k,y.p,(k:Int),1⟩),wbx fl nn (B2 fl == 0) br 1 2 4,r7 br.length,.box y.cells,.box x.cells,.box d.cells] rfl ?_;refine z8 ?_;refine a7n ?_;exact ⟨(k+1,a2k me2 ⟨x.pkg,d.name,d.k,y.p,(k:Int),1⟩),[0,1,2,3,4,5,6],⟨do_,do_,(hct2.add rfl).mono om_,bm⟩,⟨rfl,rfl⟩,ut_,⟨.inr ⟨_,rfl,.same rfl a05⟩,.inr ⟨_,rfl,.same rfl (X3 _ _)⟩,.inr ⟨_,rfl,.same rfl (X5 _ _)⟩,.inr ⟨_,rfl,.box ⟨.old a2A,.old (.val _),.map rfl,E9.grow (f:=scv) (fun _=>⟨.val _,tt⟩) rfl,.map rfl,tt⟩⟩,.inr ⟨_,rfl,.same rfl G5⟩,.inr ⟨_,rfl,.same rfl b0x⟩,.inr ⟨_,rfl,.same rfl (B6 ⟨.val _,C1 _ _ _,P2 _ _ _,tt⟩)⟩,tt⟩⟩
     ·have fZ:x.decls.length<=k:=sm_ h5;rw [T5 fZ,addDs] at bm;refine j6 ?_;refine a7n ?_;exact ⟨(i+1,br,S8 ms y.p x,me2),[0,1,2,3,4],⟨do_,do_,do_,hct2.mono om_,by rw [hr,bm]⟩,⟨rfl,rfl⟩,ut_,⟨.inr ⟨_,rfl,.same rfl a05⟩,.inr ⟨_,rfl,.same rfl (X3 _ _)⟩,.inr ⟨_,rfl,.same rfl (X5 _ _)⟩,.inr ⟨_,rfl,.box ⟨.old a2A,.old (.val _),.map rfl,E9.grow (f:=scv) (fun _=>⟨.val _,tt⟩) rfl,.map rfl,tt⟩⟩,.inr ⟨_,rfl,.same rfl G5⟩,tt⟩⟩
  ·have aE:fl.length<=i:=sm_ h2;rw [T5 aE,a7X,List.foldl_nil] at hr;refine j6 ?_;refine z_4 ?_;refine a2l ?_;exact ⟨_,rE1,(by rw [hr];exact ⟨[3,1,2,4],rfl,rfl,.ret (.ptr rfl),.inr ⟨_,rfl,.box ⟨.old a2A,.old (.val _),.map rfl,E9.grow (f:=scv) (fun _=>⟨.val _,tt⟩) rfl,.map rfl,tt⟩⟩,.inr ⟨_,rfl,.same rfl (X3 _ _)⟩,.inr ⟨_,rfl,.same rfl (X5 _ _)⟩,.inr ⟨_,rfl,.same rfl G5⟩,tt⟩)⟩
abbrev d5z (fl:List Fi) (nn va:Bool) (br:List Str) (ms:SM) (me:EM) (n:Nat):List b9:=[wbx fl nn va br (n+1) (n+2) (n+3),smO ms,emO me,r7 br.length]
theorem c70 (fl:List Fi) (nn:Bool) (hl:∀ f∈fl,f.p.length<=1000000000) (σ:List b9):b8 CC 56 [.agg (B5 fl nn)] σ fun r τ=>∃ _:Unit,r = .ret (.ptr σ.length 0)/\τ=σ++d5z fl nn (B2 fl == 0) (x9 fl).1 (x9 fl).2.1 (x9 fl).2.2 σ.length/\True :=
 a3i (α:=Unit) hCC (fun a ha=>by simp at ha;subst ha;exact o8 ⟨H0 _ _,tt⟩) (res:=fun _=>.ret (.ptr 0 0)) (res':=fun _ n=>.ret (.ptr n 0)) (S:=fun _=>wst fl nn (B2 fl == 0) (x9 fl).1 (x9 fl).2.1 (x9 fl).2.2) (S':=fun _ n=>d5z fl nn (B2 fl == 0) (x9 fl).1 (x9 fl).2.1 (x9 fl).2.2 n) (P:=fun _=>True) (L6 hCC ((d0j fl nn hl).mono fun r τ h=>⟨_,_,h,(),rfl,rfl,tt⟩)) (fun _ _=>rfl) (fun _ n i x h=>by
  rcases i with _ | _ | _ | _ | i
  ·injection h with h;subst h;exact ⟨_,rfl,b3D rfl rfl rfl⟩
  ·injection h with h;subst h;exact ⟨_,rfl,a7v a9f a6O _⟩
  ·injection h with h;subst h;exact ⟨_,rfl,a7v Nm.pure En.pure _⟩
  ·injection h with h;subst h;exact ⟨_,rfl,a1q _⟩
  ·cases h) (fun _ n=>.ret (.ptr rfl)) σ
theorem a4f (a:Ky):T0 (Ky.cv a):=⟨.val _,.val _,.val _,tt⟩
theorem c6h {s:α} (h:l[j]? = some s) (g:α->β):(l.take (j+1)).map g=(l.take j).map g++[g s]:=by
 rw [a3P,h,b5r];rfl
inductive Tr where
 | n (k u o:Int) (nm:Str) (ch:List Tr)
variable {n:Nat}
mutual
def Tr.size:Tr->Nat
 | .n _ _ _ _ ch=>x8 ch+1
def x8:List Tr->Nat
 | []=>0
 | t::l=>t.size+x8 l
end
def o3:List Tr->Nat->List Int
 | [],_=>[]
 | t::l,s=>((s+t.size - 1:Nat):Int)::o3 l (s+t.size)
mutual
def Tr.flat:Tr->Nat->List Ex
 | .n k u o nm ch,s=>J1 ch s++[⟨k,u,o,nm,o3 ch s⟩]
def J1:List Tr->Nat->List Ex
 | [],_=>[]
 | t::l,s=>t.flat s++J1 l (s+t.size)
end
structure U6 (np:Nat) (k u o:Int) (nm:Str) (c:Nat):Prop where
 kind:1<=k/\k<=10
 num:k≠1->k≠2->k≠10->u=0
 op:k≠4->o=0
 name:k=1\/k=2\/k=4\/k=5\/k=10->nm=[]
 cnt:c=if k=4 then 2 else if k=5 then 3 else if k=6 then 1 else if k=3 then c else 0
 k1:k=1->-9007199254740992<=u/\u<=9007199254740992
 k2:k=2->0<=u/\u < np
 k3:k=3->A9 nm=true/\P6 nm=false
 k4:k=4->1<=o/\o<=7
 k678:k=6\/k=7\/k=8->G6 nm=true
 k9:k=9->A9 nm=true
 k10:k=10->0<=u/\u < 64
mutual
def Tr.wf (np:Nat):Nat->Tr->Prop
 | d,.n k u o nm ch=>d<=32/\U6 np k u o nm ch.length/\wfL np (if k=4 then d else d+1) ch
def wfL (np:Nat):Nat->List Tr->Prop
 | _,[]=>True
 | d,t::l=>t.wf np d/\wfL np d l
end
theorem Tr.size_pos (t:Tr):1<=t.size:=by cases t;rw [Tr.size];omega
mutual
theorem Tr.flat_len:∀ (t:Tr) (s:Nat),(t.flat s).length=t.size
 | .n k u o nm ch,s=>by rw [Tr.flat,Tr.size,n_7,P4 ch s];rfl
theorem P4:∀ (l:List Tr) (s:Nat),(J1 l s).length=x8 l
 | [],_=>rfl
 | t::l,s=>by rw [J1,x8,n_7,Tr.flat_len t s,P4 l _]
end
theorem b0B:∀ (l:List Tr) (t:Tr) (s:Nat),J1 (l++[t]) s=J1 l s++t.flat (s+x8 l)
 | [],t,s=>by simp [J1,x8]
 | x::l,t,s=>by rw [b5q,J1,J1,b0B l t,x8,F7,a8W]
theorem a8l:∀ (l:List Tr) (t:Tr) (s:Nat),o3 (l++[t]) s=o3 l s++[((s+x8 l+t.size - 1:Nat):Int)]
 | [],t,s=>by simp [o3,x8]
 | x::l,t,s=>by rw [b5q,o3,o3,a8l l t,x8,b5q,a8W s]
theorem b7X {np d:Nat}:∀ {l:List Tr} {t:Tr},wfL np d l->t.wf np d->wfL np d (l++[t])
 | [],t,_,h=>by simp only [a72,wfL];exact ⟨h,tt⟩
 | x::l,t,h,h2=>by
  rw [wfL] at h;rw [b5q,wfL];exact ⟨h.1,b7X h.2 h2⟩
mutual
theorem Tr.wf_mono {np:Nat}:∀ (t:Tr) {d e:Nat},e<=d->t.wf np d->t.wf np e
 | .n k u o nm ch,d,e,he,h=>by
  rw [Tr.wf] at h ⊢;refine ⟨om_,h.2.1,b4L ch (d:=if k=4 then d else d+1) ?_ h.2.2⟩
  split<;>omega
theorem b4L {np:Nat}:∀ (l:List Tr) {d e:Nat},e<=d->wfL np d l->wfL np e l
 | [],_,_,_,_=>by rw [wfL];trivial
 | t::l,d,e,he,h=>by
  rw [wfL] at h ⊢;exact ⟨Tr.wf_mono t he h.1,b4L l he h.2⟩
end
def Got (np d:Nat) (b:List Ex) (x:PX):Prop:=∃ t:Tr,x.2.2=b++t.flat b.length/\x.1+1=x.2.2.length/\t.wf np d
theorem a4j {b1:List Ex} {ch:List Tr} {k:Int} {args:List Int} {b2:List Ex} (h1:b1=b++J1 ch b.length) (h2:args=o3 ch b.length) (h3:V8 b1 ⟨k,u,o,nm,args⟩=some (i,b2)) (hd:d<=32) (hn:U6 np k u o nm ch.length) (hw:wfL np (if k=4 then d else d+1) ch) (m:Nat):Got np d b (i,m,b2):=by
 unfold V8 at h3;split at h3
 ·cases h3
 ·injection h3 with h3
  injection h3 with h3 h4
  subst h1 h2 h3 h4;refine ⟨.n k u o nm ch,by rw [Tr.flat,F7],by simp;omega,?_⟩;rw [Tr.wf];exact ⟨hd,hn,hw⟩
def TG (T:List Tok):Prop:=∀ i,((tk T i).k=1->A9 (tk T i).t=true)/\0<=(tk T i).n/\(tk T i).n<=9007199254740992
theorem d1q (h:¬ opS t lv=0):1<=opS t lv/\opS t lv<=7:=by
 unfold opS at h ⊢;cases hf:S0.find? (opM t lv) with
 | none=>rw [hf] at h;exact absurd rfl h
 | some y =>
  have h2:=b7F hf;simp only [b2u,a8H];revert h2;revert y;intro y _ hy;have:∀ y∈S0,1<=y.1/\y.1<=7:=by decide
  exact this y hy
theorem a2D {x:Ex} {y:PX} (h:K7 b x m=some y):V8 b x=some (y.1,y.2.2)/\y.2.1=m:=by
 unfold K7 at h;cases hp:V8 b x with
 | none=>rw [hp] at h;cases h
 | some w =>
  rw [hp,n_8] at h;injection h with h
  subst h;exact ⟨rfl,rfl⟩
theorem a1B {k:Int} {y:PX} (h:K7 b ⟨k,u,o,nm,[]⟩ m=some y) (hd:d<=32) (hn:U6 np k u o nm 0):Got np d b y:=by
 obtain ⟨h1,h2⟩:=a2D h;have:=a4j (np:=np) (d:=d) (b:=b) (ch:=[]) (args:=[]) (by rw [J1,a1d]) rfl h1 hd hn (by rw [wfL];trivial) y.2.1;exact this
theorem d0I {e:Nat} {x:PX} {k:Int} {y:PX} (hx:Got np e b x) (h:K7 x.2.2 ⟨k,u,o,nm,[(x.1:Int)]⟩ m=some y) (hd:d<=32) (hn:U6 np k u o nm 1) (he:e=if k=4 then d else d+1):Got np d b y:=by
 obtain ⟨t,t1,t2,t3⟩:=hx;obtain ⟨h1,h2⟩:=a2D h;have hl:=t.flat_len b.length;rw [t1,n_7,hl] at t2;have:=a4j (np:=np) (d:=d) (b:=b) (ch:=[t]) (args:=[(x.1:Int)]) (by rw [t1,J1,J1,a1d]) (by rw [o3,o3];congr 1;omega) h1 hd hn (by rw [wfL,wfL,<- he];exact ⟨t3,tt⟩) y.2.1;exact this
theorem c8 {o:Option α} {f:α->Option β} {y:β} (h:o.bind f=some y):∃ x,o=some x/\f x=some y:=by
 cases o with
 | none=>cases h
 | some x=>exact ⟨x,rfl,h⟩
theorem a6P {x:Tok × Nat} (h:a0o T n=some x):G6 x.1.t=true:=by
 obtain ⟨y,_,h2⟩:=c8 h;split at h2
 ·rename_i hp;injection h2 with h2
  subst h2;exact hp
 ·cases h2
theorem a5L {k:Int} {x:Tok × Nat} (h:G0 T n k=some x):x.1=tk T n/\(tk T n).k=k:=by
 unfold G0 at h;split at h
 ·rename_i hk;injection h with h
  subst h;exact ⟨rfl,hk⟩
 ·cases h
theorem c3b {F:PF} (hF:∀ d n b x,F.ex d n b=some x->Got np d b x) (hT:TG T) {u:Str} {y:PX} (hd:d<=32) (h:W5 T F u d n b=some y):Got np d b y:=by
 unfold W5 at h;obtain ⟨n1,_,h⟩:=c8 h;split at h
 ·obtain ⟨s,h1,h⟩:=c8 h;obtain ⟨n2,_,h⟩:=c8 h;obtain ⟨x,h3,h⟩:=c8 h;obtain ⟨m,_,h⟩:=c8 h;exact d0I (hF _ _ _ _ h3) h hd ⟨de_,fun _ _ _=>rfl,fun _=>rfl,fun h=>absurd h de_,rfl,fun h=>absurd h de_,fun h=>absurd h de_,fun h=>absurd h de_,fun h=>absurd h de_,fun _=>a6P h1,fun h=>absurd h de_,fun h=>absurd h de_⟩ rfl
 ·split at h
  ·obtain ⟨s,h1,h⟩:=c8 h;obtain ⟨m,_,h⟩:=c8 h;exact a1B h hd ⟨de_,fun _ _ _=>rfl,fun _=>rfl,fun h=>absurd h de_,rfl,fun h=>absurd h de_,fun h=>absurd h de_,fun h=>absurd h de_,fun h=>absurd h de_,fun _=>a6P h1,fun h=>absurd h de_,fun h=>absurd h de_⟩
  ·split at h
   ·obtain ⟨s,h1,h⟩:=c8 h;obtain ⟨m,_,h⟩:=c8 h;exact a1B h hd ⟨de_,fun _ _ _=>rfl,fun _=>rfl,fun h=>absurd h de_,rfl,fun h=>absurd h de_,fun h=>absurd h de_,fun h=>absurd h de_,fun h=>absurd h de_,fun _=>a6P h1,fun h=>absurd h de_,fun h=>absurd h de_⟩
   ·split at h
    ·obtain ⟨s,h1,h⟩:=c8 h;split at h
     ·rename_i bI;obtain ⟨m,_,h⟩:=c8 h;exact a1B h hd ⟨de_,fun _ _ _=>rfl,fun _=>rfl,fun h=>absurd h de_,rfl,fun h=>absurd h de_,fun h=>absurd h de_,fun h=>absurd h de_,fun h=>absurd h de_,fun h=>absurd h de_,fun _=>bI,fun h=>absurd h de_⟩
     ·cases h
    ·obtain ⟨s,h1,h⟩:=c8 h;split at h
     ·cases h
     ·rename_i ae;obtain ⟨m,_,h⟩:=c8 h;have hk:=a5L h1;have hg:=(hT n1).2;rw [<- hk.1] at hg;exact a1B h hd ⟨de_,fun _ _ h=>absurd rfl h,fun _=>rfl,fun _=>rfl,rfl,fun h=>absurd h de_,fun h=>absurd h de_,fun h=>absurd h de_,fun h=>absurd h de_,fun h=>absurd h de_,fun h=>absurd h de_,fun _=>⟨hg.1,om_⟩⟩
theorem c1x {T:List Tok} {ps:List Str} (hT:TG T):∀ f:Nat,
 (∀ d n b x,(A0 T ps f).ex d n b=some x->Got ps.length d b x) /\
 (∀ lv d n b x,d<=32->(A0 T ps f).bin lv d n b=some x->Got ps.length d b x) /\
 (∀ lv d n b x,d<=32->(A0 T ps f).fac d n b=some x->lv=0->Got ps.length d b x) /\
 (∀ lv d n b0 b (tx:Tr) (i:Nat) x,d<=32->b=b0++tx.flat b0.length->i+1=b.length->tx.wf ps.length d->(A0 T ps f).lp lv d i n b=some x->Got ps.length d b0 x) /\
 (∀ d n b0 b (ch:List Tr) bj y,d<=32->b=b0++J1 ch b0.length->bj=o3 ch b0.length->wfL ps.length (d+1) ch->(A0 T ps f).ag d n b bj=some y->∃ ch',y.2.2=b0++J1 ch' b0.length/\y.1=o3 ch' b0.length/\wfL ps.length (d+1) ch')
 | 0=>by
  refine ⟨fun d n b x h=>?_,fun lv d n b x _ h=>?_,fun lv d n b x _ h=>?_,fun lv d n b0 b tx i x _ _ _ _ h=>?_,fun d n b0 b ch bj y _ _ _ _ h=>?_⟩<;>cases h
 | f+1=>by
  obtain ⟨hE,hB,hF,hL,hA⟩:=c1x hT f;refine ⟨fun d n b x h=>?_,fun lv d n b x hd h=>?_,fun lv d n b y hd h _=>?_,fun lv d n b0 b tx i x hd hb hi hw h=>?_,fun d n b0 b ch bj y hd hb ha hw h=>?_⟩
  ·change (G3 T ps (A0 T ps f)).ex d n b=some x at h;simp only [G3] at h;split at h
   ·cases h
   ·rename_i hd;split at h
    ·obtain ⟨x1,h1,h⟩:=c8 h;obtain ⟨n2,_,h⟩:=c8 h;obtain ⟨x2,h2,h⟩:=c8 h;obtain ⟨n3,_,h⟩:=c8 h;obtain ⟨x3,h3,h⟩:=c8 h;obtain ⟨t1,a1,a2,a3⟩:=hE _ _ _ _ h1;obtain ⟨t2,b1,b2,b3⟩:=hE _ _ _ _ h2;obtain ⟨t3,c1,c2,c3⟩:=hE _ _ _ _ h3;have l1:=t1.flat_len b.length;have e1:x1.2.2.length=b.length+t1.size:=by rw [a1,n_7,l1]
     have e2:x2.2.2.length=b.length+t1.size+t2.size:=by rw [b1,n_7,t2.flat_len,e1]
     have e3:x3.2.2.length=b.length+t1.size+t2.size+t3.size:=by rw [c1,n_7,t3.flat_len,e2]
     obtain ⟨g1,g2⟩:=a2D h;have:=a4j (np:=ps.length) (d:=d) (b:=b) (ch:=[t1,t2,t3]) (args:=[(x1.1:Int),(x2.1:Int),(x3.1:Int)]) (by rw [c1,b1,a1];simp only [J1,a1d,F7,n_7,Tr.flat_len,a8W]) (by simp only [o3];congr 1;omega;congr 1;omega;congr 1;omega) g1 om_ ⟨de_,fun _ _ _=>rfl,fun _=>rfl,fun _=>rfl,rfl,fun h=>absurd h de_,fun h=>absurd h de_,fun h=>absurd h de_,fun h=>absurd h de_,fun h=>absurd h de_,fun h=>absurd h de_,fun h=>absurd h de_⟩ (by simp only [wfL];exact ⟨a3,b3,c3,tt⟩) x.2.1;exact this
    ·exact hB 1 d n b x om_ h
  ·change (G3 T ps (A0 T ps f)).bin lv d n b=some x at h;simp only [G3] at h;split at h
   ·exact hF 0 d n b x hd h rfl
   ·obtain ⟨x1,h1,h⟩:=c8 h;obtain ⟨t,a1,a2,a3⟩:=hB _ _ _ _ _ hd h1;exact hL lv d x1.2.1 b x1.2.2 t x1.1 x hd a1 a2 a3 h
  ·change (G3 T ps (A0 T ps f)).fac d n b=some y at h;simp only [G3] at h;have hg:=hT n;split at h
   ·exact a1B h hd ⟨de_,fun h=>absurd rfl h,fun _=>rfl,fun _=>rfl,rfl,fun _=>⟨om_,hg.2.2⟩,fun h=>absurd h de_,fun h=>absurd h de_,fun h=>absurd h de_,fun h=>absurd h de_,fun h=>absurd h de_,fun h=>absurd h de_⟩
   ·split at h
    ·obtain ⟨s,h1,h⟩:=c8 h;have hk:=a5L h1;have hg:=(hT (n+1)).2;rw [<- hk.1] at hg;exact a1B h hd ⟨de_,fun h=>absurd rfl h,fun _=>rfl,fun _=>rfl,rfl,fun _=>⟨om_,om_⟩,fun h=>absurd h de_,fun h=>absurd h de_,fun h=>absurd h de_,fun h=>absurd h de_,fun h=>absurd h de_,fun h=>absurd h de_⟩
    ·split at h
     ·obtain ⟨x1,h1,h⟩:=c8 h;obtain ⟨m,_,h⟩:=c8 h;injection h with h
      subst h;obtain ⟨t,a1,a2,a3⟩:=hE _ _ _ _ h1;exact ⟨t,a1,a2,t.wf_mono (Nat.le_succ d) a3⟩
     ·split at h
      ·cases h
      ·rename_i bK;split at h
       ·exact c3b hE hT hd h
       ·split at h
        ·cases h
        ·rename_i bb;split at h
         ·obtain ⟨a,h1,h⟩:=c8 h;unfold a12 at h1;obtain ⟨n1,_,h1⟩:=c8 h1;have du:∃ ch',a.2.2=b++J1 ch' b.length/\a.1=o3 ch' b.length/\wfL ps.length (d+1) ch':=by
           split at h1
           ·injection h1 with h1
            subst h1;exact ⟨[],by simp [J1],rfl,by rw [wfL];trivial⟩
           ·exact hA d n1 b b [] [] a hd (by simp [J1]) rfl (by rw [wfL];trivial) h1
          obtain ⟨ch,c1,c2,c3⟩:=du;obtain ⟨g1,g2⟩:=a2D h;have bI:A9 (tk T n).t=true:=hg.1 (sp_ bK);have:=a4j (np:=ps.length) (d:=d) (b:=b) (ch:=ch) c1 c2 g1 hd ⟨de_,fun _ _ _=>rfl,fun _=>rfl,fun h=>absurd h de_,rfl,fun h=>absurd h de_,fun h=>absurd h de_,fun _=>⟨bI,sp_ bb⟩,fun h=>absurd h de_,fun h=>absurd h de_,fun h=>absurd h de_,fun h=>absurd h de_⟩ c3 y.2.1;exact this
         ·split at h
          ·cases h
          ·rename_i hix;refine a1B h hd ⟨de_,fun _ h=>absurd rfl h,fun _=>rfl,fun _=>rfl,rfl,fun h=>absurd h de_,fun _=>⟨om_,?_⟩,fun h=>absurd h de_,fun h=>absurd h de_,fun h=>absurd h de_,fun h=>absurd h de_,fun h=>absurd h de_⟩
           rcases a7C (tk T n).t ps 0 with ⟨_,g⟩ | ⟨_,_,g⟩
           ·omega
           ·simpa using g
  ·change (G3 T ps (A0 T ps f)).lp lv d i n b=some x at h;simp only [G3] at h;split at h
   ·injection h with h
    subst h;exact ⟨tx,hb,hi,hw⟩
   ·rename_i bf;obtain ⟨y,h1,h⟩:=c8 h;obtain ⟨w,h2,h⟩:=c8 h;obtain ⟨ty,a1,a2,a3⟩:=hB _ _ _ _ _ hd h1;have e0:b.length=b0.length+tx.size:=by rw [hb,n_7,tx.flat_len]
    have e1:y.2.2.length=b0.length+tx.size+ty.size:=by rw [a1,n_7,ty.flat_len,e0]
    have hnode:Got ps.length d b0 (w.1,y.2.1,w.2):=a4j (np:=ps.length) (d:=d) (b:=b0) (ch:=[tx,ty]) (args:=[(i:Int),(y.1:Int)]) (by rw [a1,hb];simp only [J1,a1d,F7,n_7,Tr.flat_len]) (by simp only [o3];congr 1;omega;congr 1;omega) h2 hd ⟨de_,fun _ _ _=>rfl,fun h=>absurd rfl h,fun _=>rfl,rfl,fun h=>absurd h de_,fun h=>absurd h de_,fun h=>absurd h de_,fun _=>d1q bf,fun h=>absurd h de_,fun h=>absurd h de_,fun h=>absurd h de_⟩ (by simp only [wfL];exact ⟨hw,a3,tt⟩) y.2.1;split at h
    ·injection h with h
     subst h;exact hnode
    ·obtain ⟨t,c1,c2,c3⟩:=hnode;exact hL lv d y.2.1 b0 w.2 t w.1 x hd c1 c2 c3 h
  ·change (G3 T ps (A0 T ps f)).ag d n b bj=some y at h;simp only [G3] at h;obtain ⟨x1,h1,h⟩:=c8 h;obtain ⟨t,a1,a2,a3⟩:=hE _ _ _ _ h1;have e0:b.length=b0.length+x8 ch:=by rw [hb,n_7,P4]
   have e1:x1.2.2.length=b0.length+x8 ch+t.size:=by rw [a1,n_7,t.flat_len,e0]
   have c1:x1.2.2=b0++J1 (ch++[t]) b0.length:=by rw [a1,hb,b0B,F7];simp only [n_7,P4]
   have c2:bj++[(x1.1:Int)]=o3 (ch++[t]) b0.length:=by rw [ha,a8l];congr 2;omega
   have c3:=b7X hw a3;split at h
   ·exact hA d _ b0 _ (ch++[t]) _ y hd c1 c2 c3 h
   ·obtain ⟨m,_,h⟩:=c8 h;injection h with h
    subst h;exact ⟨ch++[t],c1,c2,c3⟩
theorem a0u (s:Str) (hs:s.length<=1000000000000) (σ:List b9):b8 CC 280 [(sv s)] σ fun r Y=>r = .ret (.val (.bool (A9 s && !P6 s)))/\Y=σ:=by
 refine b8.anyw hCC pu_ pu_ (c7 (qO Tryz.func280 ?_)) σ;refine qY (c4 rfl b9j ⟨tt,tt⟩ (a0J s _) rfl) ?_;refine qG C3 ?_;refine qG (fun hg=>c4 rfl c7o ⟨hg,tt⟩ (a2n s _) rfl) ?_;refine b6B ?_;exact c7e
theorem U6.cnt0 {k:Int} {c:Nat} (h:U6 np k u o nm c) (h3:k≠3) (h4:k≠4) (h5:k≠5) (h6:k≠6):c=0:=by
 have:=h.cnt;rw [n_0 h4,n_0 h5,n_0 h6,n_0 h3] at this;exact this
theorem b82 (x:Ex) (np:Nat) (h:U6 np x.k x.num x.op x.name x.args.length) (bI:x.name.length<=1000000) (gi:x.args.length<=1000000) (σ:List b9):b8 CC 303 [.agg x.cells,iv np] σ fun r Y=>r = .ret (.val (.bool true))/\Y=σ:=by
 refine an_ Tryz.func303 ?_;refine b1x ?_;refine cY a3W ?_;refine a8F ?_;refine cW 8 ?_;refine c8v ?_;refine hY a02 ?_;refine b2P ?_;refine hY Z0 ?_;refine hY a0Q ?_;refine b16 ?_;refine a8F ?_;refine cW 8 ?_;refine b6U ?_;refine hY N6 ?_;refine b2P ?_;refine hY Z0 ?_;refine hY a0Q ?_;refine b16 ?_;refine a6B ?_;refine cY b64 ?_;refine cY a1w ?_;refine c3D ?_;refine a2B ?_;refine cC ?_ ?_<;>intro h1
 ·have u1:x.k=1:=sp_ h1;have e1:=h.op om_;have e2:=h.name (.inl u1);have e3:=h.cnt0 om_ om_ om_ om_;have e4:=h.k1 u1;refine a9r ?_;refine a78 ?_;refine a78 ?_;refine c2v ?_;refine a2l ?_;exact ⟨_,rE1,_,_,rfl,rfl,j8 (by simp [e1,e2,e3];omega)⟩
 ·have u1:¬ x.k=1:=sp_ h1;refine a2B ?_;refine cC ?_ ?_<;>intro h2
  ·have u2:x.k=2:=sp_ h2;have e1:=h.op om_;have e2:=h.name (.inr (.inl u2));have e3:=h.cnt0 om_ om_ om_ om_;have e4:=h.k2 u2;refine a9r ?_;refine a78 ?_;refine a78 ?_;refine cG C3 ?_;refine cG a75 ?_;refine cY M8 ?_;refine a2l ?_;exact ⟨_,rE1,_,_,rfl,rfl,j8 (by simp [e1,e2,e3];omega)⟩
  ·have u2:¬ x.k=2:=sp_ h2;refine a2B ?_;refine cC ?_ ?_<;>intro h3
   ·have u3:x.k=3:=sp_ h3;have e1:=h.op om_;have e2:=h.num om_ om_ om_;have e4:=h.k3 u3;refine c44 ?_;refine cY A3 ?_;refine cG c10 ?_;refine cG a2b ?_;refine cG (fun hg=>c4 rfl c2I ⟨hg,tt⟩ (a0u x.name om_ _) rfl) ?_;refine cY M8 ?_;refine a2l ?_;exact ⟨_,rE1,_,_,rfl,rfl,j8 (by simp [e1,e2,e4])⟩
   ·have u3:¬ x.k=3:=sp_ h3;refine a2B ?_;refine cC ?_ ?_<;>intro h4
    ·have u4:x.k=4:=sp_ h4;have e1:=h.num om_ om_ om_;have e2:=h.name (.inr (.inr (.inl u4)));have e3:x.args.length=2:=by rw [h.cnt,n_1 u4]
     have e4:=h.k4 u4;refine a9r ?_;refine a78 ?_;refine a78 ?_;refine c2v ?_;refine a2l ?_;exact ⟨_,rE1,_,_,rfl,rfl,j8 (by simp [e1,e2,e3];omega)⟩
    ·have u4:¬ x.k=4:=sp_ h4;refine a2B ?_;refine cC ?_ ?_<;>intro h5
     ·have u5:x.k=5:=sp_ h5;have e1:=h.op om_;have e5:=h.num om_ om_ om_;have e2:=h.name (.inr (.inr (.inr (.inl u5))));have e3:x.args.length=3:=by rw [h.cnt,n_0 om_,n_1 u5]
      refine c44 ?_;refine d3i ?_;refine b1t ?_;refine c2v ?_;refine a2l ?_;exact ⟨_,rE1,_,_,rfl,rfl,j8 (by simp [e1,e2,e3,e5])⟩
     ·have u5:¬ x.k=5:=sp_ h5;refine a2B ?_;refine cC ?_ ?_<;>intro h6
      ·have u6:x.k=6:=sp_ h6;have e1:=h.op om_;have e2:=h.num om_ om_ om_;have e3:x.args.length=1:=by rw [h.cnt,n_0 om_,n_0 om_,n_1 u6]
       have e4:=h.k678 (.inl u6);refine a9r ?_;refine c9x ?_;refine cG c10 ?_;refine d2l ?_;refine cY M8 ?_;exact c5o
      ·have u6:¬ x.k=6:=sp_ h6;refine L9 hCC (α:=Bool) (fun b=>[(2,.ptr 0 0),(5,iv x.args.length),(6,(.val (.bool (x.num == 0)))),(7,(.val (.bool (decide (x.name=[]))))),(8,(.val (.bool (x.op == 0)))),(22,iv x.k),(123,(.val (.bool b)))]) (fun _=>[.box x.cells]) (fun b=>b=(x.k == 7 || x.k == 8)) w8 uz_ ?_ ?_
       ·
        refine a2B ?_;refine cC ?_ ?_<;>intro h7
        ·refine C5 ?_;exact ⟨(x.k == 7),_,(by simp_all),tu_,rfl⟩
        ·refine C8 ?_;refine c7n ?_;exact ⟨(x.k == 8),_,(by simp_all),tu_,rfl⟩
       ·intro b hb;refine cC ?_ ?_<;>intro h8
        ·have u8:x.k=7\/x.k=8:=by subst hb;simpa using h8
         have e1:=h.op om_;have e2:=h.num om_ om_ om_;have e3:=h.cnt0 om_ om_ om_ om_;have e4:=h.k678 (.inr u8);refine a9r ?_;refine c9x ?_;refine cG c10 ?_;refine d2l ?_;refine cY M8 ?_;exact c5o
        ·have u8:¬ (x.k=7\/x.k=8):=by subst hb;simpa using h8
         refine a2B ?_;refine cC ?_ ?_<;>intro h9
         ·have u9:x.k=9:=sp_ h9;have e1:=h.op om_;have e2:=h.num om_ om_ om_;have e3:=h.cnt0 om_ om_ om_ om_;have e4:=h.k9 u9;refine a9r ?_;refine c9x ?_;refine cG c10 ?_;refine cG a2b ?_;refine cG (fun hg=>c4 rfl b9j ⟨hg,tt⟩ (a0J x.name _) rfl) ?_;refine cY M8 ?_;exact c5o
         ·have u9:¬ x.k=9:=sp_ h9;refine a2B ?_;refine cC ?_ ?_<;>intro aU
          ·have u10:x.k=10:=sp_ aU;have e1:=h.op om_;have e2:=h.name (.inr (.inr (.inr (.inr u10))));have e3:=h.cnt0 om_ om_ om_ om_;have e4:=h.k10 u10;refine a9r ?_;refine a78 ?_;refine a78 ?_;refine c2v ?_;refine a2l ?_;exact ⟨_,rE1,_,_,rfl,rfl,j8 (by simp [e1,e2,e3];omega)⟩
          ·have u10:¬ x.k=10:=sp_ aU;have:=h.kind;exfalso;omega
mutual
def Tr.sts:Tr->Nat->List Nat
 | .n _ _ _ _ ch,s=>b1z ch s++[s]
def b1z:List Tr->Nat->List Nat
 | [],_=>[]
 | t::l,s=>t.sts s++b1z l (s+t.size)
end
mutual
theorem Tr.sts_len:∀ (t:Tr) (s:Nat),(t.sts s).length=t.size
 | .n k u o nm ch,s=>by rw [Tr.sts,Tr.size,n_7,a2Y ch s];rfl
theorem a2Y:∀ (l:List Tr) (s:Nat),(b1z l s).length=x8 l
 | [],_=>rfl
 | t::l,s=>by rw [b1z,x8,n_7,Tr.sts_len t s,a2Y l _]
end
theorem R0:∀ (l:List Tr) (s:Nat),(o3 l s).length=l.length
 | [],_=>rfl
 | t::l,s=>by rw [o3,C4,C4,R0 l]
theorem Tr.sts_last (t:Tr) (s:Nat):(t.sts s)[t.size - 1]? = some s:=by
 cases t with
 | n k u o nm ch =>
  rw [Tr.sts,Tr.size,c0w,a0y (by rw [a2Y];exact n_6 _),a2Y];simp
def ChS (S:List Nat):List Tr->Nat->Prop
 | [],_=>True
 | c::l,s=>S[s+c.size - 1]? = some s/\ChS S l (s+c.size)
structure d5d (E:List Ex) (S:List Nat) (np j:Nat) (x:Ex) (z:Nat) (ch:List Tr):Prop where
 e:E[j]? = some x
 s:S[j]? = some z
 args:x.args=o3 ch z
 size:z+x8 ch=j
 chs:ChS S ch z
 ok:U6 np x.k x.num x.op x.name x.args.length
variable {args:List CV} {e:Nat}
theorem c0Y:∀ (l:List Tr) (s:Nat) (S0 S1:List Nat),S0.length=s->ChS (S0++b1z l s++S1) l s
 | [],_,_,_,_=>trivial
 | t::l,s,S0,S1,h=>by
  have hp:=t.size_pos;refine ⟨?_,?_⟩
  ·rw [b1z,F7,F7,a0y om_,h,show s+t.size - 1 - s=t.size - 1 by omega,V3 (by rw [t.sts_len];omega)];exact t.sts_last s
  ·have:=c0Y l (s+t.size) (S0++t.sts s) S1 (by rw [n_7,t.sts_len,h]);rw [b1z,<- F7 S0];exact this
mutual
theorem c7N {np:Nat}:∀ (t:Tr) {d:Nat} (s:Nat) (E0 E1:List Ex) (S0 S1:List Nat),E0.length=s->S0.length=s->t.wf np d->∀ j,s<=j->j < s+t.size->∃ x z ch,d5d (E0++t.flat s++E1) (S0++t.sts s++S1) np j x z ch
 | .n k u o nm ch,d,s,E0,E1,S0,S1,hE,hS,hw,j,h1,h2=>by
  rw [Tr.wf] at hw;rw [Tr.size] at h2;rw [Tr.flat,Tr.sts];by_cases hj:j < s+x8 ch
  ·have:=b9O ch s E0 (⟨k,u,o,nm,o3 ch s⟩::E1) S0 (s::S1) hE hS hw.2.2 j h1 hj;simpa [F7] using this
  ·have hj:j=s+x8 ch:=by omega
   refine ⟨⟨k,u,o,nm,o3 ch s⟩,s,ch,?_,?_,rfl,om_,?_,by rw [R0];exact hw.2.1⟩
   ·rw [<- F7,F7,a0y (by rw [n_7,P4];omega),n_7,P4,hE,hj,b4T];rfl
   ·rw [<- F7,F7,a0y (by rw [n_7,a2Y];omega),n_7,a2Y,hS,hj,b4T];rfl
   ·have:=c0Y ch s S0 (s::S1) hS;simpa [F7] using this
theorem b9O {np:Nat}:∀ (l:List Tr) {d:Nat} (s:Nat) (E0 E1:List Ex) (S0 S1:List Nat),E0.length=s->S0.length=s->wfL np d l->∀ j,s<=j->j < s+x8 l->∃ x z ch,d5d (E0++J1 l s++E1) (S0++b1z l s++S1) np j x z ch
 | [],_,s,_,_,_,_,_,_,_,j,h1,h2=>by rw [x8] at h2;omega
 | t::l,d,s,E0,E1,S0,S1,hE,hS,hw,j,h1,h2=>by
  rw [wfL] at hw;rw [x8] at h2;rw [J1,b1z];by_cases hj:j < s+t.size
  ·have:=c7N t s E0 (J1 l (s+t.size)++E1) S0 (b1z l (s+t.size)++S1) hE hS hw.1 j h1 hj;simpa [F7] using this
  ·have:=b9O l (s+t.size) (E0++t.flat s) E1 (S0++t.sts s) S1 (by rw [n_7,t.flat_len,hE]) (by rw [n_7,t.sts_len,hS]) hw.2 j om_ om_;simpa [F7] using this
end
theorem b4a {t:Tr} (hw:t.wf np d) (h:j < t.size):∃ x z ch,d5d (t.flat 0) (t.sts 0) np j x z ch:=by
 have:=c7N t 0 [] [] [] [] rfl rfl hw j (n_5 _) om_;simpa using this
theorem a22:∀ {l:List Tr} {m:Nat} {c:Tr},l[m]? = some c->x8 (l.take (m+1))=x8 (l.take m)+c.size
 | [],m,c,h=>by simp at h
 | x::l,0,c,h=>by simp at h;subst h;simp [x8]
 | x::l,m+1,c,h=>by
  have:=a22 (l:=l) (m:=m) (c:=c) (sp_ h);rw [a6E,a6E,x8,x8,this];omega
theorem K4:∀ {l:List Tr} {m s:Nat} {c:Tr},l[m]? = some c->(o3 l s)[m]? = some ((s+x8 (l.take m)+c.size - 1:Nat):Int)
 | [],m,s,c,h=>by simp at h
 | x::l,0,s,c,h=>by simp at h;subst h;simp [o3,x8]
 | x::l,m+1,s,c,h=>by
  rw [o3,c6q,K4 (l:=l) (m:=m) (c:=c) (sp_ h),a6E,x8,a8W s]
theorem c0H {S:List Nat}:∀ {l:List Tr} {m s:Nat} {c:Tr},ChS S l s->l[m]? = some c->S[s+x8 (l.take m)+c.size - 1]? = some (s+x8 (l.take m))
 | [],m,s,c,_,h=>by simp at h
 | x::l,0,s,c,h,hc=>by simp at hc;subst hc;simpa [x8] using h.1
 | x::l,m+1,s,c,h,hc=>by
  have:=c0H (l:=l) (m:=m) (c:=c) h.2 (sp_ hc);rw [a6E,x8,<- a8W s];exact this
def a3f (S:List Nat) (n i:Nat):List Int:=(S.take i).map (fun z:Nat=>(z:Int))++List.replicate (n - i) 0
theorem c7V (hS:S.length=n) (hi:i<=n):(a3f S n i).length=n:=by
 unfold a3f;rw [n_7,a0W,a5t,List.length_replicate];omega
theorem d1p (hj:j < i) (hz:S[j]? = some z):((a3f S n i).set i v)[j]? = some (z:Int):=by
 rw [a2i om_];unfold a3f;have hl:=(n_3.1 hz).1;rw [V3 c1Y,Q0,a2I,n_1 hj,hz];rfl
theorem b90 (hS:S.length=n) (hi:i < n):((a3f S n i).set i v)[i]? = some v:=by
 rw [b1i (by rw [c7V hS om_];exact hi)]
theorem c3l (hS:S.length=n) (hz:S[i]? = some z):(a3f S n i).set i (z:Int)=a3f S n (i+1):=by
 have hi:i < n:=by rw [<- hS];exact (n_3.1 hz).1
 unfold a3f;have e:n - i=(n - (i+1))+1:=by omega
 rw [e,List.replicate_succ,b5u _ _ c1Y,a0W,a5t,b8C om_,b4T,List.set_cons_zero,a3P,hz];simp
theorem c3n (hj:i < n) (hz:S[i]? = some z):(a3f S n n)[i]? = some (z:Int):=by
 unfold a3f;have hl:=(n_3.1 hz).1;rw [V3 c1Y,Q0,a2I,n_1 hj,hz];rfl
structure DeG (d:De):Prop where
 kind:d.k=1\/d.k=2\/d.k=3
 name:d.k≠3->A9 d.name=true/\P6 d.name=false
 path:d.k=3->G6 d.name=true
 pars:d.k≠1->d.params=[]
 par:∀ s∈d.params,A9 s=true/\P6 s=false
 parl:d.params.length<=8
 nod:d.params.Nodup
 tree:∃ t:Tr,d.body=t.flat 0/\t.wf d.params.length 1
 blen:d.body.length<=256
theorem B7 {s:Str} (h:A9 s=true):s.length<=24:=by
 unfold A9 at h;cases s with
 | nil=>cases h
 | cons b s =>
  simp only [S7,a1X] at h;exact h.1.1
theorem L2 {s:Str} (h:G6 s=true):s.length<=80:=by
 unfold G6 at h;simp only [S7,a1X] at h;exact h.1.1
theorem U6.len {k:Int} {c:Nat} (h:U6 np k u o nm c):nm.length<=80:=by
 have hk:=h.kind;by_cases h3:k=3
 ·have:=B7 (h.k3 h3).1;omega
 ·by_cases h9:k=9
  ·have:=B7 (h.k9 h9);omega
  ·by_cases h6:k=6\/k=7\/k=8
   ·exact L2 (h.k678 h6)
   ·rw [h.name om_];simp
theorem a2J:∀ (l:List Tr),l.length<=x8 l
 | []=>n_6 _
 | t::l=>by have:=t.size_pos;have:=a2J l;rw [x8,C4];omega
theorem a0N:∀ (l:List Tr) (m:Nat),x8 (l.take m)<=x8 l
 | [],m=>by simp
 | t::l,0=>by simp [x8]
 | t::l,m+1=>by have:=a0N l m;rw [a6E,x8,x8];omega
theorem c8U (hS:S.length=n) (hi:i < n):(a3f S n i)[i]? = some 0:=by
 unfold a3f;rw [a0y c1Y,a0W,a5t,b8C om_,b4T,c6u,n_1 om_]
theorem De.old (x:De) (n:Nat):J0 n (.box x.cells):=B6 ⟨.val _,.val _,C1 _ _ _,N8 _ _ _,tt⟩
theorem Ex.old (x:Ex) (n:Nat):J0 n (.box x.cells):=B6 ⟨.val _,.val _,.val _,.val _,U9 _ _ _,tt⟩
theorem b0M (n:Nat) (l:List Int):J0 n (.vec 1 (l.map icv)):=fun r hr c hc=>by
 obtain ⟨a,_,rfl⟩:=I9.1 hr;simp [icv] at hc;subst hc;exact .val _
theorem a6J (l:List Int) (i:Nat) (v:Int):(l.map icv).set i [iv v]=(l.set i v).map icv:=by rw [List.map_set];rfl
theorem b1g (d:De) (h:DeG d) (σ:List b9):b8 CC 281 [.agg d.cells] σ fun r Y=>r = .ret (.val (.bool true))/\Y=σ:=by
 refine an_ Tryz.func281 ?_;refine b1x ?_;refine a7x ?_;refine L9 hCC (α:=Unit) (fun _=>[(1,.ptr 0 0)]) (fun _=>[.box d.cells]) (fun _=>True) w8 uz_ ?_ ?_
 ·
  refine z_0 ?_;refine b6H ?_;refine c3D ?_;refine D4 ?_;refine a2B ?_;refine cC ?_ ?_<;>intro h1
  ·have u1:d.k=1:=sp_ h1;have bI:=h.name om_;refine C5 ?_;refine cC ?_ ?_<;>intro h2
   ·refine z_0 ?_;refine cY a9y ?_;refine cY T2 ?_;refine ye rfl c2I ⟨tt,tt⟩ (a0u d.name b5I _) rfl ?_;refine a82 ?_;refine cC ?_ ?_<;>intro h3
    ·exfalso;simp [bI] at h3
    ·exact c8G
   ·exfalso;simp [u1] at h2
  ·have u1:¬ d.k=1:=sp_ h1;refine C8 ?_;refine c7n ?_;refine cC ?_ ?_<;>intro h4
   ·have u4:d.k=2:=sp_ h4;have bI:=h.name om_;refine z_0 ?_;refine cY a9y ?_;refine cY T2 ?_;refine ye rfl c2I ⟨tt,tt⟩ (a0u d.name b5I _) rfl ?_;refine a82 ?_;refine cC ?_ ?_<;>intro h5
    ·exfalso;simp [bI] at h5
    ·exact c8G
   ·have u4:¬ d.k=2:=sp_ h4;refine a2B ?_;refine cC ?_ ?_<;>intro h6
    ·have u6:d.k=3:=sp_ h6;have bI:=h.path u6;refine z_0 ?_;refine cY a9y ?_;refine cY T2 ?_;refine ye rfl c2U ⟨tt,tt⟩ (a1g d.name (by have:=L2 bI;omega) _) rfl ?_;refine a82 ?_;refine cC ?_ ?_<;>intro h7
     ·exfalso;simp [bI] at h7
     ·exact c8G
    ·exfalso;have:=h.kind;simp at h6;omega
 ·intro _ _;refine D4 ?_;refine z_0 ?_;refine b51 ?_;refine a5G ?_;refine j7 hCC (α:=Nat) (fun i=>[(1,.ptr 0 0),(25,(.list (d.params.map scv) (gnn d.params.length) none)),(26,iv d.params.length),(27,iv i)]) (fun _=>[.box d.cells]) (fun i=>i<=d.params.length) (fun i=>d.params.length - i) 0 (n_5 _) tu_ (ah:=[]) rfl w8 uz_ ?_;intro i hi;have aT:=h.parl;refine a5H ?_;refine cC ?_ ?_<;>intro h8
  ·have ae:(i:Int) < d.params.length:=sp_ h8;obtain ⟨y,hb⟩:=gx_ d.params i;have bI:=h.par y (n_2 hb);have bK:d.k=1:=by
    rcases Classical.em (d.k=1) with e | e
    ·exact e
    ·have:=h.pars e;rw [this] at hb;simp at hb
   refine b0E ?_;refine cY a6y ?_;refine cY a6I ?_;refine z_3 ?_;refine z_0 ?_;refine b6H ?_;refine cY Z0 ?_;refine b1t ?_;refine cG (fun hg=>c4 rfl c2I ⟨hg,tt⟩ (a0u y b5I _) rfl) ?_;refine cG a4O ?_;refine cY Q1 ?_;refine z8 ?_;refine cC ?_ ?_<;>intro h9
   ·exfalso;simp [bI,bK] at h9
   ·refine C5 ?_;exact c4D
  ·obtain ⟨t,dz,hwf⟩:=h.tree;have hbl:d.body.length=t.size:=by rw [dz,t.flat_len]
   have dW:(t.sts 0).length=d.body.length:=by rw [t.sts_len,hbl]
   have hb256:=h.blen;have htp:=t.size_pos;refine j6 ?_;refine z_0 ?_;refine b5a ?_;refine cD (b87 rfl tt tt rfl rfl (n:=d.body.length) (c:=d.body.length) rfl rfl t_4 t_1 b9g t_8 rfl (a4W rfl) rfl om_ om_ (by have hb:Tryz.t3.bytes=8:=rfl;rw [hb];omega) ?_);refine z_3 ?_;refine K8 [.box d.cells,.vec 1 ((a3f (t.sts 0) d.body.length 0).map icv)] (by unfold a3f;simp [List.map_replicate];exact .inr rfl) ?_;refine D4 ?_;refine z_0 ?_;refine b5a ?_;refine a5G ?_;refine j7 hCC (α:=Nat) (fun i=>[(1,.ptr 0 0),(5,.vec 1 0 d.body.length),(45,(.list (d.body.map Ex.cv) (gnn d.body.length) none)),(46,iv d.body.length),(47,iv i)]) (fun i=>[.box d.cells,.vec 1 ((a3f (t.sts 0) d.body.length i).map icv)]) (fun i=>i<=d.body.length) (fun i=>d.body.length - i) 0 (n_5 _) tu_ (ah:=[]) rfl w8 uz_ ?_;intro i hi;refine a5H ?_;refine cC ?_ ?_<;>intro aU
   ·have ae:(i:Int) < d.body.length:=sp_ aU;obtain ⟨x,z,ch,cf⟩:=b4a hwf (j:=i) om_;have gi:x.args.length=ch.length:=by rw [cf.args,R0]
    have cr:=a2J ch;have aF:=cf.size;have hzi:z+x8 (ch.take ch.length)=i:=by rw [a60];exact aF
    refine c11 ?_;refine z_4 ?_;refine cY (o9 rfl tt tt rfl rfl b1j a7z om_ (i8 (by rw [dz];exact cf.e)) rfl) ?_;refine cY (W7 rfl tt rfl Tryz.isAgg212 a7z (nb rfl)) ?_;refine cD (p7 rfl b4g rfl j4 ?_);refine cY a0Q ?_;refine cD (j3 rfl tt tt rfl j2 a7z j4 rfl rfl (nb rfl) ?_);refine a6B ?_;refine cY c4c ?_;refine b51 ?_;refine ye rfl Tryz.call303 j1 (b82 x d.params.length cf.ok (by have:=cf.ok.len;omega) om_ _) rfl ?_;refine a82 ?_;refine cC ?_ ?_<;>intro ck
    ·exfalso;simp at ck
    ·have hcur:=c8U (S:=t.sts 0) (i:=i) dW om_;refine C5 ?_;refine a6T ?_;refine cY A3 ?_;refine cY a3C ?_;refine cD (R2 (((a3f (t.sts 0) d.body.length i).set i ((z+x8 (ch.take ch.length):Nat):Int)).map icv) rfl tt tt rfl j2 t_1 (.inl rfl) rfl (by simpa using i8 (f:=icv) hcur) rfl (nb rfl) (by rw [hzi];simp only [K9,a1Z];exact a6J _ _ _) rfl ?_);refine a6t ?_;refine cY c4T ?_;refine cY b5Z ?_;refine cY a02 ?_;refine cY Y8 ?_;refine z_3 ?_;refine a1K ?_;refine j7 hCC (α:=Nat) (fun m=>[(1,.ptr 0 0),(5,.vec 1 0 d.body.length),(6,iv i),(7,.ptr 2 0),(8,(iv ((m:Int) - 1))),(45,(.list (d.body.map Ex.cv) (gnn d.body.length) none)),(46,iv d.body.length),(47,iv i)]) (fun m=>[.box d.cells,.vec 1 (((a3f (t.sts 0) d.body.length i).set i ((z+x8 (ch.take m):Nat):Int)).map icv),.box x.cells]) (fun m=>m<=ch.length) (fun m=>m) ch.length (n_6 _) ⟨o0,o0,o0,o0,⟨tt,(n_9 (fun z:Nat=>(iv ((z:Int) - 1))) gi)⟩,o0,o0,o0,tt⟩ (ah:=[]) rfl w8 uz_ ?_;intro m hm;refine D4 ?_;refine z_4 ?_;refine a7Z ?_;refine cC ?_ ?_<;>intro cQ
     ·have hmp:(0:Int)<=(m:Int) - 1:=sp_ cQ;obtain ⟨m,rfl⟩:∃ m',m=m'+1:=⟨m - 1,om_⟩;obtain ⟨c,hc⟩:=gx_ ch m;have aW:=a22 hc;have hcp:=c.size_pos;have aJ:=a0N ch (m+1);refine c11 ?_;refine D4 (D4 ?_);refine cW 19 ?_;refine c8v ?_;refine hY A3 ?_;refine hY d6Y ?_;refine b46 ?_;refine hY a3C ?_;refine hY (N4 rfl tt rfl a10 rfl (by simpa using i8 (f:=icv) (b90 dW om_)) rfl) ?_;refine hY Y8 ?_;refine hY b0h ?_;refine hY A3 ?_;refine S9 rfl rfl tt rfl (fun hg=>j5 rfl tt rfl a5X rfl b5l de_) ?_;refine S9 rfl rfl tt rfl (fun hg=>m0 rfl hg rfl c7O rfl rfl) ?_;refine S9 rfl rfl tt rfl C3 ?_;refine S9 rfl rfl tt rfl (fun hg=>o9 rfl hg hg rfl rfl t_4 t_1 b0Z (i8 (by rw [show (((m+1:Nat):Int) - 1).toNat=m by omega,cf.args];exact K4 hc)) rfl) ?_;refine S9 rfl rfl tt rfl (fun hg=>a0v rfl hg rfl a10 rfl) ?_;refine c5f ?_;refine a59 (z8 ?_);refine cC ?_ ?_<;>intro dk
      ·exfalso;simp at dk;omega
      ·refine C5 ?_;refine a3y ?_;refine cY A3 ?_;refine cY A3 ?_;refine cY c4T ?_;refine cY b5Z ?_;refine cY A3 ?_;refine cY d6Y ?_;refine cY a6N ?_;refine cY a3C ?_;refine cY (N4 rfl tt rfl a10 rfl (by simpa using i8 (f:=icv) (d1p (n:=d.body.length) (i:=i) (v:=((z+x8 (ch.take (m+1)):Nat):Int)) om_ (c0H cf.chs hc))) rfl) ?_;refine cY a3C ?_;refine cD (R2 (((a3f (t.sts 0) d.body.length i).set i ((z+x8 (ch.take m):Nat):Int)).map icv) rfl tt tt rfl j2 t_1 (.inl rfl) rfl (by simpa using i8 (f:=icv) (b90 dW om_)) rfl (nb rfl) (by simp only [K9,a1Z];refine (a6J _ _ _).trans ?_;rw [List.set_set,Int.natCast_add]) rfl ?_);refine z8 ?_;refine a3y ?_;refine cY Y8 ?_;refine z_3 ?_;exact ⟨m,_,⟨om_,om_⟩,⟨o0,o0,o0,o0,⟨tt,(n_9 (fun z:Int=>(iv z)) om_)⟩,o0,o0,o0,tt⟩,rfl⟩
     ·have hm0:m=0:=sm_ cQ;subst hm0;refine K8 [.box d.cells,.vec 1 ((a3f (t.sts 0) d.body.length (i+1)).map icv),.box x.cells] (by rw [<- c3l dW cf.s];rfl) ?_;refine j6 ?_;exact c4D
   ·have bw:i=d.body.length:=sm_ aU;have hroot:(t.sts 0)[d.body.length - 1]? = some 0:=by rw [hbl];exact t.sts_last 0
    refine j6 ?_;refine z_0 ?_;refine b5a ?_;refine cY Z0 ?_;refine b1t ?_;refine cG b4V ?_;refine cG b2i ?_;refine cG b6M ?_;refine cG d0s ?_;refine cG (fun hg=>V1 rfl hg hg rfl rfl t_4 t_1 rfl b0Z b0Z) ?_;refine cG (fun hg=>N4 rfl hg rfl a10 rfl (by rw [bw,show 0+((d.body.length:Int) - 1).toNat=d.body.length - 1 by omega];exact i8 (f:=icv) (c3n om_ hroot)) rfl) ?_;refine c2v ?_;refine a2l ?_;exact ⟨_,rE1,_,_,rfl,rfl,j8 Q7⟩
structure a2f (x:Src):Prop where
 pkg:A9 x.pkg=true/\P6 x.pkg=false
 imp:∀ s∈x.imports,A9 s=true/\P6 s=false
 impl:x.imports.length<=8
 impn:x.imports.Nodup
 impp:x.pkg∉x.imports
 dec:∀ d∈x.decls,DeG d
 decl:x.decls.length<=64
 decn:(x.decls.map fun d=>(d.k,d.name)).Nodup
structure Sn where
 k:Int
 s:Str
deriving DecidableEq
variable {s:Str} {k:Int}
abbrev Sn.cells (x:Sn):List CV:=[iv x.k,sv x.s]
def Sn.cv (x:Sn):List CV:=x.cells
theorem b7z (l:List Sn) (nn:Bool):u0 (.list (l.map Sn.cv) nn none):=P9 (f:=Sn.cv) (fun _=>⟨.val _,.val _,tt⟩) l nn
theorem c0n (n:Nat) (l:List Sn) (nn:Bool):Old n (.list (l.map Sn.cv) nn none):=(b7z l nn).old
theorem d5v (x y:Sn):∀ w,(Op.equal 305 (.agg [.int .i64 x.k,.string (str x.s)].toArray) (.agg [.int .i64 y.k,.string (str y.s)].toArray)).run CC.P w = .ok (decide (x=y)) w:=fun w=>by
 show (Op.equal _ _ _).run Tryz.prog w=_;simp [Op.equal,Op.maxDepth,go_sem,Y3];obtain ⟨a,b⟩:=x;obtain ⟨a',b'⟩:=y;by_cases h1:a=a'<;>by_cases h2:b=b'<;>simp [h1,h2]
theorem a1s (h:l.Nodup) (hy:l[i]? = some y):y∉l.take i:=fun hm=>by
 obtain ⟨j,hj⟩:=L7.1 hm;rw [a2I] at hj;split at hj
 ·rename_i ae;obtain ⟨h1,e1⟩:=n_3.1 hy;obtain ⟨h2,e2⟩:=n_3.1 hj;exact (List.pairwise_iff_getElem.1 h) j i h2 h1 ae (e2.trans e1.symm)
 ·cases hj
def ixG {α:Type} [DecidableEq α]:List α->α->Nat->Int
 | [],_,_=>-1
 | y::l,x,i=>if x=y then i else ixG l x (i+1)
theorem c46 [DecidableEq α] (h:l[i]? = some y) (x:α):ixG (l.drop i) x i=if x=y then (i:Int) else ixG (l.drop (i+1)) x (i+1):=by
 obtain ⟨ae,he⟩:=n_3.1 h;rw [R4 ae,he];rfl
theorem c0L {α:Type} [DecidableEq α] {x:α}:∀ {l:List α} {i:Nat},0<=ixG l x i↔x∈l
 | [],i=>by simp [ixG]
 | y::l,i=>by
  rw [ixG];by_cases h:x=y
  ·subst h;simp
  ·rw [n_0 h,c0L (l:=l) (i:=i+1)];simp [h]
theorem a6l (l:List Str) (nn:Bool) (i:Nat) (x:Str) (hl:l.length<=1000000000) (σ:List b9):b8 CC 160 [.list (((l.map scv).take i).drop 0) nn none,sv x] σ fun r Y=>r = .ret (.val (.bool (decide (x∈l.take i))))/\Y=σ:=by
 have:=a0g (l.take i) nn x a4a σ;rw [a9s,<- b1X];exact this
theorem a74 (l:List Str) (nn:Bool) (hl:l.length<=1000000) (hn:l.Nodup) (σ:List b9):b8 CC 282 [(.list (l.map scv) nn none)] σ fun r Y=>r = .ret (.val (.bool false))/\Y=σ:=by
 refine b8.anyw hCC pu_ pu_ (c7 (qO Tryz.func282 ?_)) σ;refine qY I7 ?_;refine j7 hCC (α:=Nat) (fun i=>[(0,(.list (l.map scv) nn none)),(5,(.list (l.map scv) nn none)),(6,iv l.length),(7,iv i)]) (fun _=>[]) (fun i=>i<=l.length) (fun i=>l.length - i) 0 (n_5 _) tu_ (ah:=[]) rfl w8 uz_ ?_;intro i hi;refine qk (qC ?_ ?_)<;> intro h1
 ·have ae:(i:Int) < l.length:=sp_ h1;obtain ⟨y,hb⟩:=gx_ l i;refine qY a6y ?_;refine qY (a3b (h:=i) rfl tt rfl t_2 t_0 b07 rfl a8g a8w b7Q) ?_;refine qY (c4 rfl c32 j1 (a6l l _ i y om_ _) rfl) ?_;refine cC ?_ ?_<;>intro h2
  ·exfalso;exact a1s hn hb (sp_ h2)
  ·exact b43
 ·exact c5h
theorem b8e (l:List Sn) (nn:Bool) (x:Sn) (hl:l.length<=1000000) (σ:List b9):b8 CC 320 [(.list (l.map Sn.cv) nn none),.agg x.cells] σ fun r Y=>r = .ret (iv (ixG l x 0))/\Y=σ:=by
 refine b8.anyw hCC pu_ pu_ (c7 (qO Tryz.func320 ?_)) σ;refine qD (F5 rfl tt j2 j4 ?_);refine qY (a0s rfl tt rfl b9v b0p rfl) ?_;refine j7 hCC (α:=Nat) (fun i=>[(0,(.list (l.map Sn.cv) nn none)),(3,.ptr 0 0),(7,iv l.length),(8,iv i)]) (fun _=>[.box x.cells]) (fun i=>i<=l.length/\ixG l x 0=ixG (l.drop i) x i) (fun i=>l.length - i) 0 ⟨n_5 _,rfl⟩ tu_ (ah:=[]) rfl w8 uz_ ?_;intro i ⟨hi,hr⟩;refine qk (qC ?_ ?_)<;> intro h1
 ·have ae:(i:Int) < l.length:=sp_ h1;obtain ⟨y,hb⟩:=gx_ l i;rw [c46 hb] at hr;refine cW 6 ?_;refine hY (L8 rfl tt rfl c71 b37 rfl (nb rfl)) ?_;refine b8N ?_;refine hY (o9 rfl tt tt rfl rfl b9v b37 om_ (i8 hb) rfl) ?_;refine hY (W7 rfl tt rfl c71 b37 (nb rfl)) ?_;refine hY (d7h rfl tt tt (xs:=[.int .i64 x.k,.string (str x.s)]) (ys:=[.int .i64 y.k,.string (str y.s)]) rfl rfl Tryz.eqGuardType305 (d5v x y)) ?_;refine Y5 ?_;refine qC ?_ ?_<;>intro h2
  ·have u2:x=y:=sp_ h2;rw [n_1 u2] at hr;exact d2X
  ·have u2:¬ x=y:=sp_ h2;rw [n_0 u2] at hr;exact a8I
 ·have aE:l.length<=i:=sm_ h1;rw [T5 aE] at hr;refine V9 ?_;exact ⟨_,rE1,_,_,rfl,rfl,F1 c1g⟩
theorem b1v (l:List Sn) (nn:Bool) (x:Sn) (hl:l.length<=1000000) (σ:List b9):b8 CC 304 [(.list (l.map Sn.cv) nn none),.agg x.cells] σ fun r Y=>r = .ret (.val (.bool (decide (x∈l))))/\Y=σ:=by
 refine b8.anyw hCC pu_ pu_ (c7 (qO Tryz.func304 ?_)) σ;refine qD (F5 rfl tt j2 j4 ?_);refine qY (c4 rfl Tryz.call320 j1 (b8e l nn x hl _) rfl) ?_;refine c6 ?_;exact ⟨_,rE1,_,_,rfl,rfl,j8 (b5V.2 c0L)⟩
theorem a7Y (l:List Sn) (nn:Bool) (i:Nat) (x:Sn) (hl:l.length<=1000000) (σ:List b9):b8 CC 304 [.list (((l.map Sn.cv).take i).drop 0) nn none,.agg x.cells] σ fun r Y=>r = .ret (.val (.bool (decide (x∈l.take i))))/\Y=σ:=by
 have:=b1v (l.take i) nn x a4a σ;rw [a9s,<- b1X];exact this
theorem b9u (l:List Sn) (nn:Bool) (hl:l.length<=1000000) (hn:l.Nodup) (σ:List b9):b8 CC 283 [(.list (l.map Sn.cv) nn none)] σ fun r Y=>r = .ret (.val (.bool false))/\Y=σ:=by
 refine b8.anyw hCC pu_ pu_ (c7 (qO Tryz.func283 ?_)) σ;refine qY (a0s rfl tt rfl b9v b0p rfl) ?_;refine j7 hCC (α:=Nat) (fun i=>[(0,(.list (l.map Sn.cv) nn none)),(5,(.list (l.map Sn.cv) nn none)),(6,iv l.length),(7,iv i)]) (fun _=>[]) (fun i=>i<=l.length) (fun i=>l.length - i) 0 (n_5 _) tu_ (ah:=[]) rfl w8 uz_ ?_;intro i hi;refine qk (qC ?_ ?_)<;> intro h1
 ·have ae:(i:Int) < l.length:=sp_ h1;obtain ⟨y,hb⟩:=gx_ l i;refine qY (o9 rfl tt tt rfl rfl b9v b37 om_ (i8 hb) rfl) ?_;refine qD (p7 rfl c1G rfl j4 ?_);refine qD (j3 rfl tt tt rfl j2 b37 j4 rfl rfl (nb rfl) ?_);refine cW 5 ?_;refine b8N ?_;refine hY (a3b (h:=i) rfl tt rfl b9v b37 b07 rfl a8g a8w b7Q) ?_;refine hY (L8 rfl tt rfl c71 b37 rfl (nb rfl)) ?_;refine hY (c4 rfl Tryz.call304 j1 (a7Y l _ i y om_ _) rfl) ?_;refine Y5 ?_;refine cC ?_ ?_<;>intro h2
  ·exfalso;exact a1s hn hb (sp_ h2)
  ·exact b43
 ·exact c5h
theorem b5L (x:Src) (h:a2f x) (σ:List b9):b8 CC 242 [.agg x.cells] σ fun r Y=>r = .ret (.val (.bool true))/\Y=σ:=by
 refine b8.anyw hCC pu_ pu_ (c7 (qO Tryz.func242 ?_)) σ;refine qD (F5 rfl tt j2 j4 ?_);refine qY (c4 rfl c2I ⟨tt,tt⟩ (a0u x.pkg (by have:=B7 h.pkg.1;omega) _) rfl) ?_;refine qC ?_ ?_<;>intro h1
 ·exfalso;simp [h.pkg] at h1
 ·have bh:=h.impl;have fi:=h.decl;refine qY I7 ?_;refine j7 hCC (α:=Nat) (fun i=>[(1,.ptr 0 0),(12,(.list (x.imports.map scv) (gnn x.imports.length) none)),(13,iv x.imports.length),(14,iv i)]) (fun _=>[.box x.cells]) (fun i=>i<=x.imports.length) (fun i=>x.imports.length - i) 0 (n_5 _) tu_ (ah:=[]) rfl w8 uz_ ?_;intro i hi;refine qk (qC ?_ ?_)<;> intro h2
  ·have ae:(i:Int) < x.imports.length:=sp_ h2;obtain ⟨y,hb⟩:=gx_ x.imports i;have bI:=h.imp y (n_2 hb);refine qY a6y ?_;refine qY (c4 rfl c2I ⟨tt,tt⟩ (a0u y b5I _) rfl) ?_;refine qC ?_ ?_<;>intro h3
   ·exfalso;simp [bI] at h3
   ·exact b35
  ·refine j6 ?_;refine qY a3X ?_;refine j7 hCC (α:=Nat) (fun i=>[(23,(.list (x.decls.map De.cv) (gnn x.decls.length) none)),(24,iv x.decls.length),(25,iv i)]) (fun _=>[.box x.cells]) (fun i=>i<=x.decls.length) (fun i=>x.decls.length - i) 0 (n_5 _) tu_ (ah:=[]) rfl w8 uz_ ?_;intro i hi;refine qk (qC ?_ ?_)<;> intro h4
   ·have ae:(i:Int) < x.decls.length:=sp_ h4;obtain ⟨d,hd⟩:=gx_ x.decls i;have hg:=h.dec d (n_2 hd);refine qY a8r ?_;refine z_7 ?_;refine qY (c4 rfl Tryz.call281 ⟨tt,tt⟩ (b1g d hg _) rfl) ?_;refine cC ?_ ?_<;>intro h5
    ·exfalso;simp at h5
    ·exact b43
   ·exact c5h
mutual
def Tr.deps:Nat->Tr->List Nat
 | d,.n k _ _ _ ch=>a5x (if k=4 then d else d+1) ch++[d]
def a5x:Nat->List Tr->List Nat
 | _,[]=>[]
 | d,t::l=>t.deps d++a5x d l
end
mutual
theorem Tr.deps_len:∀ (t:Tr) (d:Nat),(t.deps d).length=t.size
 | .n k u o nm ch,d=>by rw [Tr.deps,Tr.size,n_7,a1f ch];rfl
theorem a1f:∀ (l:List Tr) (d:Nat),(a5x d l).length=x8 l
 | [],_=>rfl
 | t::l,d=>by rw [a5x,x8,n_7,Tr.deps_len t d,a1f l _]
end
theorem Tr.deps_last (t:Tr) (d:Nat):(t.deps d)[t.size - 1]? = some d:=by
 cases t with
 | n k u o nm ch =>
  rw [Tr.deps,Tr.size,c0w,a0y (by rw [a1f];exact n_6 _),a1f];simp
structure d4V (E:List Ex) (D:List Nat) (d j:Nat) (x:Ex) (e:Nat):Prop where
 he:E[j]? = some x
 hd:D[j]? = some e
 lo:d<=e
 hi:e<=32
 ch:∀ a∈x.args,∃ r:Nat,a=r/\D[r]? = some (if x.k=4 then e else e+1)
theorem b2d {d:Nat}:∀ (l:List Tr) (s:Nat) (D0 D1:List Nat),D0.length=s->∀ a∈o3 l s,∃ r:Nat,a=r/\(D0++a5x d l++D1)[r]? = some d
 | [],_,_,_,_,a,h=>by cases h
 | t::l,s,D0,D1,hD,a,h=>by
  rw [o3] at h;have hp:=t.size_pos
  rcases P0.1 h with rfl | h
  ·refine ⟨s+t.size - 1,rfl,?_⟩;rw [a5x,F7,F7,a0y om_,hD,show s+t.size - 1 - s=t.size - 1 by omega,V3 (by rw [t.deps_len];omega)];exact t.deps_last d
  ·have:=b2d (d:=d) l (s+t.size) (D0++t.deps d) D1 (by rw [n_7,t.deps_len,hD]) a h;rw [a5x,<- F7 D0];exact this
mutual
theorem c5W {np:Nat}:∀ (t:Tr) {d:Nat} (s:Nat) (E0 E1:List Ex) (D0 D1:List Nat),E0.length=s->D0.length=s->t.wf np d->∀ j,s<=j->j < s+t.size->∃ x e,d4V (E0++t.flat s++E1) (D0++t.deps d++D1) d j x e
 | .n k u o nm ch,d,s,E0,E1,D0,D1,hE,hD,hw,j,h1,h2=>by
  rw [Tr.wf] at hw;rw [Tr.size] at h2;rw [Tr.flat,Tr.deps];by_cases hj:j < s+x8 ch
  ·obtain ⟨x,e,g⟩:=c0d ch s E0 (⟨k,u,o,nm,o3 ch s⟩::E1) D0 (d::D1) hE hD hw.2.2 j h1 hj;refine ⟨x,e,⟨by simpa [F7] using g.he,by simpa [F7] using g.hd,?_,g.hi,fun a ha=>by simpa [F7] using g.ch a ha⟩⟩;have:=g.lo;split at this<;>omega
  ·have hj:j=s+x8 ch:=by omega
   refine ⟨⟨k,u,o,nm,o3 ch s⟩,d,?_,?_,n_6 _,hw.1,fun a ha=>?_⟩
   ·rw [<- F7,F7,a0y (by rw [n_7,P4];omega),n_7,P4,hE,hj,b4T];rfl
   ·rw [<- F7,F7,a0y (by rw [n_7,a1f];omega),n_7,a1f,hD,hj,b4T];rfl
   ·have:=b2d (d:=if k=4 then d else d+1) ch s D0 (d::D1) hD a ha;simpa [F7] using this
theorem c0d {np:Nat}:∀ (l:List Tr) {d:Nat} (s:Nat) (E0 E1:List Ex) (D0 D1:List Nat),E0.length=s->D0.length=s->wfL np d l->∀ j,s<=j->j < s+x8 l->∃ x e,d4V (E0++J1 l s++E1) (D0++a5x d l++D1) d j x e
 | [],_,s,_,_,_,_,_,_,_,j,h1,h2=>by rw [x8] at h2;omega
 | t::l,d,s,E0,E1,D0,D1,hE,hD,hw,j,h1,h2=>by
  rw [wfL] at hw;rw [x8] at h2;rw [J1,a5x];by_cases hj:j < s+t.size
  ·have:=c5W t s E0 (J1 l (s+t.size)++E1) D0 (a5x d l++D1) hE hD hw.1 j h1 hj;simpa [F7] using this
  ·have:=c0d l (s+t.size) (E0++t.flat s) E1 (D0++t.deps d) D1 (by rw [n_7,t.flat_len,hE]) (by rw [n_7,t.deps_len,hD]) hw.2 j om_ om_;simpa [F7] using this
end
theorem c9d {t:Tr} (hw:t.wf np d) (h:j < t.size):∃ x e,d4V (t.flat 0) (t.deps d) d j x e:=by
 have:=c5W t 0 [] [] [] [] rfl rfl hw j (n_5 _) om_;simpa using this
structure Bnd (ak:List Int) (D:List Nat):Prop where
 len:ak.length=D.length
 le:∀ (j e:Nat),D[j]? = some e->∃ v:Int,ak[j]? = some v/\0<=v/\v<=e
theorem Bnd.set {ak:List Int} {D:List Nat} (h:Bnd ak D) {r:Nat} (hr:D[r]? = some e) (h0:0<=v) (h1:v<=e):Bnd (ak.set r v) D:=by
 refine ⟨by rw [List.length_set];exact h.len,fun j e' hj=>?_⟩;by_cases hjr:r=j
 ·subst hjr;rw [hr] at hj;injection hj with hj
  subst hj;have hl:=(n_3.1 hr).1;exact ⟨v,by rw [b1i (by rw [h.len];exact hl)],h0,h1⟩
 ·obtain ⟨u,g1,g2⟩:=h.le j e' hj;exact ⟨u,by rw [a2i hjr];exact g1,g2⟩
theorem Bnd.zero (D:List Nat):Bnd (List.replicate D.length 0) D:=by
 refine ⟨List.length_replicate,fun j e hj=>⟨0,?_,b0N _,om_⟩⟩;have hl:=(n_3.1 hj).1;rw [c6u,n_1 hl]
theorem Src.old (x:Src) (n:Nat):J0 n (.box x.cells):=B6 ⟨.val _,C1 _ _ _,P2 _ _ _,tt⟩
def b66 (d:De):Sn:=⟨d.k,d.name⟩
theorem c8F {l:List De} (h:(l.map fun d=>(d.k,d.name)).Nodup):(l.map b66).Nodup:=by
 have e:l.map b66=(l.map fun d=>(d.k,d.name)).map fun p=>(⟨p.1,p.2⟩:Sn):=by rw [List.map_map];rfl
 rw [e];refine List.Pairwise.map _ (fun a b cM he=>?_) h;injection he with h1 h2
 exact cM (Prod.ext h1 h2)
theorem c3c (x:Src) (h:a2f x) (σ:List b9):b8 CC 244 [.agg x.cells] σ fun r Y=>r = .ret (.val (.bool false))/\Y=σ:=by
 refine an_ Tryz.func244 ?_;refine b1x ?_;refine cY a3W ?_;refine a6B ?_;refine cY c4X ?_;refine cY a6R ?_;refine cY I7 ?_;refine cY Z0 ?_;refine cY A3 ?_;refine cG b91 ?_;refine cG b9L ?_;refine cG c1V ?_;refine cG a6k ?_;refine cY Q1 ?_;refine z8 ?_;refine cC ?_ ?_<;>intro h1
 ·exfalso;have:=h.impl;have:=h.decl;simp at h1;omega
 ·have bh:=h.impl;have fi:=h.decl;refine b5S ?_;refine z_0 ?_;refine cY b5h ?_;refine cY b5J ?_;refine cY a3X ?_;refine a5G ?_;refine j7 hCC (α:=Nat) (fun i=>[(20,(.list (x.decls.map De.cv) (gnn x.decls.length) none)),(21,iv x.decls.length),(22,iv i)]) (fun _=>[.box x.cells]) (fun i=>i<=x.decls.length) (fun i=>x.decls.length - i) 0 (n_5 _) tu_ (ah:=[]) rfl w8 uz_ ?_;intro i hi;refine a5H ?_;refine cC ?_ ?_<;>intro h2
  ·have ae:(i:Int) < x.decls.length:=sp_ h2;obtain ⟨d,hd⟩:=gx_ x.decls i;have hg:=h.dec d (n_2 hd);have aT:=hg.parl;have hb256:=hg.blen;obtain ⟨t,dz,hwf⟩:=hg.tree;have hbl:d.body.length=t.size:=by rw [dz,t.flat_len]
   have hdp:(t.deps 1).length=d.body.length:=by rw [t.deps_len,hbl]
   have htp:=t.size_pos;refine b0E ?_;refine cY a8r ?_;refine cY c5j ?_;refine cD (p7 rfl a8K rfl j4 ?_);refine cD (j3 rfl tt tt rfl j2 a4H j4 rfl rfl (nb rfl) ?_);refine a6B ?_;refine b51 ?_;refine cY Z0 ?_;refine cY A3 ?_;refine cG b4V ?_;refine cG b2i ?_;refine cG b6M ?_;refine cG a6k ?_;refine cY Q1 ?_;refine z8 ?_;refine cC ?_ ?_<;>intro h3
   ·exfalso;simp at h3;omega
   ·refine a9F ?_;refine b5a ?_;refine cD (b87 rfl tt tt rfl rfl (n:=d.body.length) (c:=d.body.length) rfl rfl t_4 t_1 b9g t_8 rfl (a4W rfl) rfl om_ om_ (by have hb:Tryz.t3.bytes=8:=rfl;rw [hb];omega) ?_);refine z_3 ?_;refine K8 [.box x.cells,.box d.cells,.vec 1 ((List.replicate d.body.length 0).map icv)] (by simp [List.map_replicate];exact ⟨rfl,.inr rfl⟩) ?_;refine z_0 ?_;refine b5a ?_;refine cY Y8 ?_;refine z_3 ?_;refine a1K ?_;refine j7 hCC (α:=Nat × List Int) (fun y=>[(4,.ptr 1 0),(5,.vec 2 0 d.body.length),(6,(iv ((y.1:Int) - 1))),(20,(.list (x.decls.map De.cv) (gnn x.decls.length) none)),(21,iv x.decls.length),(22,iv i)]) (fun y=>[.box x.cells,.box d.cells,.vec 1 (y.2.map icv)]) (fun y=>y.1<=d.body.length/\Bnd y.2 (t.deps 1)) (fun y=>y.1) (d.body.length,List.replicate d.body.length 0) ⟨n_6 _,by rw [<- hdp];exact Bnd.zero _⟩ tu_ (ah:=[]) rfl w8 uz_ ?_;intro ⟨m,ak⟩ ⟨hm,eu⟩;dsimp only at hm eu ⊢;refine D4 ?_;refine z_4 ?_;refine a7Z ?_;refine cC ?_ ?_<;>intro h4
    ·have hmp:(0:Int)<=(m:Int) - 1:=sp_ h4;obtain ⟨m,rfl⟩:∃ m',m=m'+1:=⟨m - 1,om_⟩;have hmi:((m+1:Nat):Int) - 1=(m:Int):=by omega
     obtain ⟨y,e,ez⟩:=c9d hwf (j:=m) om_;obtain ⟨x',z',ch',cf⟩:=b4a hwf (j:=m) om_;have hyx:x'=y:=Option.some.inj (cf.e.symm.trans ez.he);have ap:y.args.length<=256:=by
      rw [<- hyx,cf.args,R0];have:=a2J ch';have:=cf.size;omega
     have gJ:=ez.lo;have he32:=ez.hi;obtain ⟨v,hv,hv0,dC⟩:=eu.le _ _ ez.hd;have gi:=eu.len;refine c11 ?_;refine L9 hCC (α:=List Int) (fun a=>[(4,.ptr 1 0),(5,.vec 2 0 d.body.length),(6,(iv (((m+1:Nat):Int) - 1))),(20,(.list (x.decls.map De.cv) (gnn x.decls.length) none)),(21,iv x.decls.length),(22,iv i)]) (fun a=>[.box x.cells,.box d.cells,.vec 1 (a.map icv)]) (fun a=>Bnd a (t.deps 1)) w8 uz_ ?_ ?_
     ·
      refine a6T ?_;refine cY a3C ?_;refine cY c77 ?_;refine a7Z ?_;refine cC ?_ ?_<;>intro h5
      ·refine a3y ?_;refine cY A3 ?_;refine cY a3C ?_;refine cD (R2 ((ak.set m 1).map icv) rfl tt rfl rfl j2 t_1 (.inl rfl) rfl (by rw [hmi];simpa using i8 (f:=icv) hv) rfl (nb rfl) (by rw [hmi];simp only [K9,a1Z];exact a6J _ _ _) rfl ?_);refine z8 ?_;exact ⟨(ak.set m 1),_,(eu.set ez.hd de_ om_),tu_,rfl⟩
      ·refine C5 ?_;exact ⟨ak,_,eu,tu_,rfl⟩
     ·intro ak eu;obtain ⟨v,hv,hv0,dC⟩:=eu.le _ _ ez.hd;have gi:=eu.len;refine D4 ?_;refine a6T ?_;refine cY a3C ?_;refine cY c77 ?_;refine a7Z ?_;refine cC ?_ ?_<;>intro h6
      ·exfalso;simp at h6;omega
      ·refine a9F ?_;refine c41 ?_;refine cY A3 ?_;refine cY d6D ?_;refine cY (a2E rfl tt rfl a5X rfl b5l de_) ?_;refine cY (a0v rfl tt rfl c7O rfl) ?_;refine cY a02 ?_;refine a5G ?_;refine j7 hCC (α:=Nat × List Int) (fun z=>[(4,.ptr 1 0),(5,.vec 2 0 d.body.length),(6,(iv (((m+1:Nat):Int) - 1))),(20,(.list (x.decls.map De.cv) (gnn x.decls.length) none)),(21,iv x.decls.length),(22,iv i),(66,(.list (y.args.map icv) (gnn y.args.length) none)),(67,iv y.args.length),(68,iv z.1)]) (fun z=>[.box x.cells,.box d.cells,.vec 1 (z.2.map icv)]) (fun z=>z.1<=y.args.length/\Bnd z.2 (t.deps 1)) (fun z=>y.args.length - z.1) (0,ak) ⟨n_5 _,eu⟩ tu_ (ah:=[]) rfl w8 uz_ ?_;intro ⟨p,ak⟩ ⟨hp,eu⟩;dsimp only at hp eu ⊢;refine a5H ?_;refine cC ?_ ?_<;>intro h7
       ·have hpt:(p:Int) < y.args.length:=sp_ h7;obtain ⟨a,ha⟩:=gx_ y.args p;obtain ⟨r,rfl,hr⟩:=ez.ch a (n_2 ha);obtain ⟨v,hv,hv0,dC⟩:=eu.le _ _ ez.hd;have gi:=eu.len;have cE:=(n_3.1 hr).1;obtain ⟨v2,ci,_⟩:=eu.le _ _ hr;have hve:v<=((if y.k=4 then e else e+1:Nat):Int):=by split<;>omega
        have hb1:=eu.set hr hv0 hve;have aq:(ak.set r v)[r]? = some v:=by rw [b1i om_]
        refine b0E ?_;refine cY (o9 rfl tt tt rfl rfl t_4 t_1 om_ (i8 ha) rfl) ?_;refine cY a6N ?_;refine z_3 ?_;refine a6T ?_;refine cY A3 ?_;refine cY A3 ?_;refine cY a3C ?_;refine cY c77 ?_;refine cY a3C ?_;refine cD (R2 ((ak.set r v).map icv) rfl tt tt rfl j2 t_1 (.inl rfl) rfl (by simpa using i8 (f:=icv) ci) rfl (nb rfl) (by simp only [K9,a1Z];exact a6J _ _ _) rfl ?_);refine a6t ?_;refine c41 ?_;refine cY A3 ?_;refine cY d6D ?_;refine cY (a2E rfl tt rfl a5X rfl t_1 de_) ?_;refine cY a6N ?_;refine a7Z ?_;refine cC ?_ ?_<;>intro h8
        ·have u8:¬ y.k=4:=sp_ h8;rw [n_0 u8] at hr;refine a3y ?_;refine cY A3 ?_;refine cY a3C ?_;refine cY (N4 rfl tt rfl a10 rfl (by simpa using i8 (f:=icv) aq) rfl) ?_;refine cY o7 ?_;refine cY a3C ?_;refine cD (R2 ((ak.set r (v+1)).map icv) rfl tt tt rfl j2 t_1 (.inl rfl) rfl (by simpa using i8 (f:=icv) aq) rfl (nb rfl) (by simp only [K9,a1Z];refine (a6J _ _ _).trans ?_;rw [List.set_set]) rfl ?_);refine z8 ?_;refine a7n ?_;exact ⟨(p+1,ak.set r (v+1)),_,⟨do_,do_,eu.set hr om_ om_⟩,tu_,rfl⟩
        ·refine C5 ?_;refine a7n ?_;exact ⟨(p+1,ak.set r v),_,⟨do_,do_,hb1⟩,tu_,rfl⟩
       ·refine j6 ?_;refine a3y ?_;refine cY Y8 ?_;refine z_3 ?_;exact ⟨(m,ak),_,⟨do_,do_,eu⟩,⟨o0,o0,⟨tt,(n_9 (fun z:Int=>(iv z)) do_)⟩,o0,o0,o0,tt⟩,rfl⟩
    ·refine j6 ?_;exact c4D
  ·refine j6 ?_;refine z_0 ?_;refine a7x ?_;exact c7e
theorem b9x (x:Src) (h:a2f x) (σ:List b9):b8 CC 243 [.agg x.cells] σ fun r Y=>r = .ret (.val (.bool false))/\Y=σ:=by
 refine b8.anyw hCC pu_ pu_ (c7 (qO Tryz.func243 ?_)) σ;refine c8n ?_;refine B9 hCC 1 rfl (α:=Nat × List Sn) (fun y=>[(1,.ptr 0 0),(3,(.list (y.2.map Sn.cv) (gnn y.2.length) (G9 y.2.length 1))),(7,(.list (x.decls.map De.cv) (gnn x.decls.length) none)),(8,iv x.decls.length),(9,iv y.1)]) (fun y=>[.box x.cells,r7 y.2.length]) (fun y=>y.1<=x.decls.length/\y.2=(x.decls.take y.1).map b66) (fun y=>x.decls.length - y.1) ⟨(0,[]),[0,9],⟨n_5 _,rfl⟩,⟨rfl,rfl⟩,ut_,uq_⟩ ?_;intro ⟨i,l⟩ ⟨hi,hl⟩;dsimp only at hi hl ⊢;have fi:=h.decl;have hll:l.length=i:=by rw [hl,a0W,a5t];omega
 refine qk (qC ?_ ?_)<;> intro h1
 ·have ae:(i:Int) < x.decls.length:=sp_ h1;obtain ⟨d,hd⟩:=gx_ x.decls i;have hg:=h.dec d (n_2 hd);have eo:=T7 l (b66 d);refine qY a8r ?_;refine z_7 ?_;refine qY (c4 rfl Tryz.call282 ⟨tt,tt⟩ (a74 d.params _ (by have:=hg.parl;omega) hg.nod _) rfl) ?_;refine qC ?_ ?_<;>intro h2
  ·cases h2
  ·refine qY (A7 #[(0,1),(1,1)] rfl j1 Tryz.runUnderlying305 c1G rfl ⟨_,rfl⟩ (fun w=>by kernel_rfl) rfl rfl) ?_;refine qY (B3 [Sn.cv (b66 d)] rfl ⟨tt,tt⟩ b9v b37 c1G rfl rfl rfl rfl rfl rfl rfl rfl rfl) ?_;refine qD (F4 rfl tt tt rfl si_ q_2 b9v b37 Tryz.typeInfo305 c1G rfl (.inr rfl) q_7 (by have hb:Tryz.t305.bytes=24:=rfl;rw [hb];first|omega|(simp;done)|(simp;omega)) G7 ((l++[b66 d]).map Sn.cv) (l++[b66 d]).length si_ si_ ?_);refine qY o7 ?_;exact ⟨(i+1,l++[b66 d]),[0,3],⟨do_,do_,by rw [hl,a3P,hd,b5r];rfl⟩,⟨rfl,rfl⟩,ut_,uq_⟩
 ·have bw:i=x.decls.length:=sm_ h1;rw [bw,a60] at hl;have bh:=h.impl;refine j6 ?_;refine qY (c4 rfl c32 j1 (a0g x.imports _ x.pkg om_ _) rfl) ?_;refine c8s ?_;refine qG (fun hg=>c4 rfl Tryz.call282 ⟨hg,tt⟩ (a74 x.imports _ om_ h.impn _) rfl) ?_;refine qY Q1 ?_;refine qG C3 ?_;refine qG (fun hg=>c4 rfl Tryz.call283 ⟨hg,tt⟩ (b9u l _ om_ (by rw [hl];exact c8F h.decn) _) rfl) ?_;refine qY Q1 ?_;refine c6 ?_;exact ⟨_,rE1,_,_,rfl,rfl,j8 (by simp [h.impp])⟩
theorem b0G (x:Src) (h:a2f x) (σ:List b9):b8 CC 198 [.agg x.cells] σ fun r Y=>r = .ret (iv (0))/\Y=σ:=by
 refine b8.anyw hCC pu_ pu_ (c7 (qO Tryz.func198 ?_)) σ;refine qD (F5 rfl tt j2 j4 ?_);refine qY (c4 rfl Tryz.call242 ⟨tt,tt⟩ (b5L x h _) rfl) ?_;refine qC ?_ ?_<;>intro h1
 ·cases h1
 ·refine qY (c4 rfl Tryz.call243 ⟨tt,tt⟩ (b9x x h _) rfl) ?_;refine qC ?_ ?_<;>intro h2
  ·cases h2
  ·refine qY (c4 rfl Tryz.call244 ⟨tt,tt⟩ (c3c x h _) rfl) ?_;refine qC ?_ ?_<;>intro h3
   ·cases h3
   ·exact c7R
end Go.Proofs.YtlppbmfecjabeaaGreatDoor
