/- Part 3 of what the claim needs: values without addresses, and what the program's functions do with them. -/
import Derived.Test.YtlppbmfecjabeaaGreatDoorProg
import Derived.Test.YtlppbmfecjabeaaGreatDoorY2
set_option maxRecDepth 100000
set_option maxHeartbeats 4000000
namespace Go.Proofs.YtlppbmfecjabeaaGreatDoor
open Go Go.Cl
variable {i q f m np long parts j L d i1:Nat} {σ τ:List c5} {α β:Type} {ks:List Int} {x y z:Bool} {c c':CV} {S sel:List Nat} {u nm:Str} {o lv v:Int} {N:α->Nat} {P:α->Prop} {bad:Prop}
def c22:List CV:=[1,10,100,1000,10000,100000,1000000,10000000,100000000,1000000000,10000000000,100000000000,1000000000000,10000000000000,100000000000000,1000000000000000,10000000000000000,100000000000000000,1000000000000000000,10000000000000000000].map fun z:Int=>.val (.int .u64 z)
noncomputable def CC:Ctx:={ P:=Tryz.prog,glob:=fun g=>match g with | 1=>some c22 | _=>none}
theorem hCC:CC.plain:=fun g cells h=>by
 have:cells=c22:=by
  simp only [CC] at h;split at h
  ·exact (Option.some.inj h).symm
  ·cases h
 subst this; intro c hc;obtain ⟨z,_,rfl⟩:=K3.1 hc;exact .val _
def icv (x:Int):List CV:=[.val (.int .i64 x)]
def scv (x:Str):List CV:=[sv x]
theorem a0l (l:List Int) (nn:Bool):p9 (.list (l.map icv) nn none):=M3 (f:=icv) (fun _=>⟨.val _,tt⟩) l nn
theorem F7 (l:List Str) (nn:Bool):p9 (.list (l.map scv) nn none):=M3 (f:=scv) (fun _=>⟨.val _,tt⟩) l nn
theorem T3 (n:Nat) (l:List Int) (nn:Bool):Old n (.list (l.map icv) nn none):=(a0l l nn).old
theorem A5 (n:Nat) (l:List Str) (nn:Bool):Old n (.list (l.map scv) nn none):=(F7 l nn).old
def c9r:Str:=[97,98,99,100,101,102,103,104,105,106,107,108,109,110,111,112,113,114,115,116,117,118,119,120,121,122]
def d55:Str:=[48,49,50,51,52,53,54,55,56,57]
def a3z:Str:=[59,44,40,41,43,45,42,47,37,60,61]
def M0:List (Int × Str):=[(1,c9r),(2,d55),(3,[95]),(4,[46]),(5,[9,10,13,32]),(6,[35]),(7,[34]),(8,a3z)]
def j9 (c:Int):Int :=
 if 97<=c/\c<=122 then 1 else if 48<=c/\c<=57 then 2 else if c=95 then 3 else if c=46 then 4 else if c=9\/c=10\/c=13\/c=32 then 5 else if c=35 then 6 else if c=34 then 7
 else if c=59\/c=44\/c=40\/c=41\/c=43\/c=45\/c=42\/c=47\/c=37\/c=60\/c=61 then 8 else 0
abbrev kb (a:Int):CV:=.val (.int .u8 a)
abbrev kv (a:Int):CV:=.val (.int .i64 a)
theorem d0h:R1 (α:=Int) CC.P 5 kb (fun a=>.int .u8 a):=c6b .u8 b4S
theorem Z9:R1 (α:=Int) CC.P 3 kv (fun a=>.int .i64 a):=c6b .i64 c1D
theorem b6h:R1 (α:=Str) CC.P 9 sv (fun a=>.string (str a)):=d3u t_4
def KM (m:List (Int × Int)):Prop:=∀ c,(glk m c).getD 0=j9 c
theorem U7 (n:Nat) (m:List (Int × Int)):F5 n (.map (gm kb kv m)):=fun x hx=>by
 obtain ⟨y,_,rfl⟩:=K3.1 hx;exact ⟨.val _,.val _⟩
theorem c4U (n:Nat) (a b:List (Int × Str)):F5 n (.iter (gm kv sv a) (gm kv sv b)):=⟨fun x hx=>by
 obtain ⟨y,_,rfl⟩:=K3.1 hx;exact ⟨.val _,.val _⟩,fun x hx=>by
 obtain ⟨y,_,rfl⟩:=K3.1 hx;exact ⟨.val _,.val _⟩⟩
theorem c7B (m:List (Int × Int)):a22 (.map (gm kb kv m)):=fun x hx=>by
 obtain ⟨y,_,rfl⟩:=K3.1 hx;exact ⟨.val _,.val _⟩
def InB (s:Str) (c:Int):Prop:=∃ b∈s,(b.toNat:Int)=c
instance (s:Str) (c:Int):Decidable (InB s c):=by unfold InB; exact inferInstance
def KL (m:List (Int × Int)) (left:List (Int × Str)):Prop:=left.Nodup/\(∀ x∈left,x∈M0)/\∀ c,(glk m c).getD 0=if ∃ x∈left,InB x.2 c then 0 else j9 c
theorem c9d:∀ x∈M0,∀ b∈x.2,j9 (b.toNat:Int)=x.1:=by decide
theorem c53:∀ x∈M0,∀ y∈M0,x≠y->∀ b∈x.2,b∉y.2:=by decide
theorem c6w:M0.Nodup:=by decide
theorem d3x:∀ c:Fin 256,j9 (c.val:Int)≠0->∃ x∈M0,∃ b∈x.2,(b.toNat:Int)=(c.val:Int):=by decide
theorem c9v {c:Int} (h:j9 c≠0):∃ x∈M0,∃ b∈x.2,(b.toNat:Int)=c:=by
 have hr:0<=c/\c < 256:=by
  unfold j9 at h;split at h; · omega
  split at h; · omega
  split at h; · omega
  split at h; · omega
  split at h; · omega
  split at h; · omega
  split at h; · omega
  split at h
  ·omega
  ·exact absurd rfl h
 obtain ⟨n,rfl⟩:∃ n:Nat,c=n:=⟨c.toNat,om_⟩;exact d3x ⟨n,om_⟩ h
theorem KL.start:KL [] M0:=by
 refine ⟨c6w,fun x h=>h,fun c=>?_⟩
 split
 ·rfl
 ·rename_i hno;have:j9 c=0:=by
   rcases Int.decEq (j9 c) 0 with h | h
   ·exact absurd (c9v h) hno
   ·exact h
  rw [this]; rfl
theorem KL.done {m:List (Int × Int)} (h:KL m []):KM m:=fun c=>by
 rw [h.2.2 c,if_neg si_]
theorem KL.step {m m':List (Int × Int)} {left:List (Int × Str)} {x:Int × Str} (h:KL m left) (hx:left[i]? = some x) (hm:∀ c,(glk m' c).getD 0=if InB x.2 c then x.1 else (glk m c).getD 0):KL m' (left.eraseIdx i):=by
 obtain ⟨h1,h2,h3⟩:=h;have hxm:=h2 x (n_1 hx);have hsub:∀ y,y∈left.eraseIdx i↔y∈left/\y≠x:=fun y=>by
  have hlt:=(n_0.1 hx).1;have hxe:=(n_0.1 hx).2;constructor
  ·intro hy;obtain ⟨j,hj,hji⟩:=c7O.1 hy;refine ⟨n_1 hji,fun e=>?_⟩;subst e;exact hj ((List.getElem?_inj (n_0.1 hji).1 h1).1 (by rw [hji,hx]))
  ·rintro ⟨hy,hne⟩;obtain ⟨j,hj⟩:=K8.1 hy;refine c7O.2 ⟨j,fun e=>?_,hj⟩;subst e;rw [hx] at hj;exact hne (Option.some.inj hj).symm
 refine ⟨h1.sublist (List.eraseIdx_sublist _ _),fun y hy=>h2 y ((hsub y).1 hy).1,fun c=>?_⟩;rw [hm c,h3 c];by_cases hc:InB x.2 c
 ·rw [if_pos hc,if_neg]
  ·obtain ⟨b,hb,rfl⟩:=hc;exact (c9d x hxm b hb).symm
  ·rintro ⟨y,hy,b',hb',he⟩;obtain ⟨b,hb,hbc⟩:=hc;obtain ⟨hyl,hne⟩:=(hsub y).1 hy;have:b'=b:=b2s.1 om_;subst this;exact c53 y (h2 y hyl) x hxm hne b' hb' hb
 ·rw [if_neg hc];have hiff:(∃ y∈left,InB y.2 c)↔∃ y∈left.eraseIdx i,InB y.2 c:=by
   constructor
   ·rintro ⟨y,hy,hb⟩;exact ⟨y,(hsub y).2 ⟨hy,fun e=>hc (e ▸ hb)⟩,hb⟩
   ·rintro ⟨y,hy,hb⟩;exact ⟨y,((hsub y).1 hy).1,hb⟩
  by_cases hh:∃ y∈left,InB y.2 c
  ·rw [if_pos hh,if_pos (hiff.1 hh)]
  ·rw [if_neg hh,if_neg (fun h=>hh (hiff.2 h))]
theorem b6e {kc:α->CV} {vc:β->CV} (l:List (α × β)) (i:Nat):(gm kc vc l).eraseIdx i=gm kc vc (l.eraseIdx i):=by
 induction l generalizing i with
 | nil=>rfl
 | cons x l ih =>
  cases i with
  | zero=>rfl
  | succ i=>exact congrArg _ (ih i)
theorem c7T {kc:α->CV} {vc:β->CV} {l:List (α × β)} {x:CV × CV} (h:(gm kc vc l)[i]? = some x):∃ y,l[i]? = some y/\x=(kc y.1,vc y.2):=by
 unfold gm at h;rw [N0,Q1] at h;obtain ⟨y,h1,h2⟩:=h;exact ⟨y,h1,h2.symm⟩
theorem a6n (l:Str) (nn:Bool):p9 (.list (l.map bcv) nn none):=M3 (f:=bcv) (fun _=>⟨.val _,tt⟩) l nn
theorem a0k (n:Nat) (l:Str) (nn:Bool):Old n (.list (l.map bcv) nn none):=(a6n l nn).old
theorem d3s:∀ x∈M0,x.2.length<=26:=by decide
theorem c4Q {m m1:List (Int × Int)} {s:Str} {b:UInt8} {k:Int} (hb:s[j]? = some b) (h:∀ c,(glk m1 c).getD 0=if InB (s.take j) c then k else (glk m c).getD 0) :
 ∀ c,(glk (W2 m1 (b.toNat:Int) k) c).getD 0=if InB (s.take (j+1)) c then k else (glk m c).getD 0:=fun c=>by
 have ht:s.take (j+1)=s.take j++[b]:=by
  obtain ⟨hlt,rfl⟩:=n_0.1 hb;exact (b22 hlt).symm
 rw [M7,ht];by_cases hc:c=(b.toNat:Int)
 ·rw [if_pos hc,if_pos ⟨b,si_,hc.symm⟩]; rfl
 ·rw [if_neg hc,h c];have hiff:InB (s.take j) c↔InB (s.take j++[b]) c:=by
   constructor
   ·rintro ⟨y,hy,e⟩; exact ⟨y,by simp [hy],e⟩
   ·rintro ⟨y,hy,e⟩
    rcases a0y.1 hy with hy | hy
    ·exact ⟨y,hy,e⟩
    ·rw [b9I.1 hy] at e; exact absurd e.symm hc
  by_cases hh:InB (s.take j) c
  ·rw [if_pos hh,if_pos (hiff.1 hh)]
  ·rw [if_neg hh,if_neg (fun h=>hh (hiff.2 h))]
theorem c2t:b8 CC 123 [] [] fun r τ=>∃ m:List (Int × Int),a08 [c5.map (gm kb kv m)].length τ r (.ret (.map 0))/\b0A [c5.map (gm kb kv m)].length τ τ [.map (gm kb kv m)]/\([]:List c5).length<=[c5.map (gm kb kv m)].length/\KM m:=by
 refine (c4 Tryz.func123 rfl rfl ?_);refine a3C ?_;refine cD (X9 rfl ?_);refine z_2 ?_; refine a1R ?_;refine cD (X9 rfl ?_);refine cD (k8 (vc:=sv) (l:=M0.take 0) Z9 (.inr rfl) tt rfl rfl rfl rfl rfl a1Q rfl ?_);refine cD (k8 (vc:=sv) (l:=M0.take 1) Z9 (.inr rfl) tt rfl rfl rfl rfl rfl a1Q rfl ?_);refine cD (k8 (vc:=sv) (l:=M0.take 2) Z9 (.inr rfl) tt rfl rfl rfl rfl rfl a1Q rfl ?_);refine cD (k8 (vc:=sv) (l:=M0.take 3) Z9 (.inr rfl) tt rfl rfl rfl rfl rfl a1Q rfl ?_);refine cD (k8 (vc:=sv) (l:=M0.take 4) Z9 (.inr rfl) tt rfl rfl rfl rfl rfl a1Q rfl ?_);refine cD (k8 (vc:=sv) (l:=M0.take 5) Z9 (.inr rfl) tt rfl rfl rfl rfl rfl a1Q rfl ?_);refine cD (k8 (vc:=sv) (l:=M0.take 6) Z9 (.inr rfl) tt rfl rfl rfl rfl rfl a1Q rfl ?_);refine cD (k8 (vc:=sv) (l:=M0.take 7) Z9 (.inr rfl) tt rfl rfl rfl rfl rfl a1Q rfl ?_);refine cY j7 ?_;refine cD (c04 rfl tt rfl a1Q rfl ?_);refine a5q ?_; refine o0 hCC (α:=List (Int × Int) × List (Int × Str) × List (Int × Str)) (fun _=>[(1,.map 0),(9,.ptr 2 0)]) (fun x=>[.map (gm kb kv x.1),.dead,.iter (gm kv sv x.2.1) (gm kv sv x.2.2)]) (fun x=>KL x.1 x.2.2) (fun x=>x.2.2.length) ([],[],M0) KL.start tu_ (extra0:=[]) rfl A1 uz_ ?_; intro ⟨m,cur,left⟩ hkl;dsimp only at hkl ⊢;refine z_0 ?_;refine cD (c8k rfl tt rfl rfl (fun hz=>?_) (fun i x hx=>?_))
 ·
  have hl0:left=[]:=by
   cases left with
   | nil=>rfl
   | cons y l=>cases hz
  subst hl0; refine cY a67 ?_; refine z_8 ?_; refine cC (fun h1=>?_) fun h1=>?_
  ·cases h1
  ·refine a33 ?_;exact ⟨_,j5 rfl tt c6,⟨m,.ret (.old (.map (Nat.zero_lt_one))),⟨.same (U7 _ _),tt⟩,n_3 _,hkl.done⟩⟩
 ·
  obtain ⟨⟨k,s⟩,hy,rfl⟩:=c7T hx;rw [b6e];have hks:=hkl.2.1 _ (n_1 hy);have hsl:s.length<=26:=d3s _ hks;refine cY a67 ?_; refine z_8 ?_; refine cC (fun h3=>?_) fun h3=>?_
  ·refine a2L ?_; refine z_0 ?_; refine cY (c11 rfl tt rfl rfl) ?_; refine d3i ?_; refine cY I1 ?_; refine M9 ?_; refine cY (d2e rfl tt rfl t_4 t_7 b4S do_) ?_; refine cY a9d ?_; refine a1n ?_; refine o0 hCC (α:=List (Int × Int) × Nat) (fun x=>[(1,.map 0),(2,(.val (.int .i64 k))),(9,.ptr 2 0),(16,(.list (s.map bcv) true none)),(17,(.val (.int .i64 (s.length:Int)))),(18,(.val (.int .i64 (x.2:Int))))]) (fun x=>[.map (gm kb kv x.1),.dead,.iter (gm kv sv [(k,s)]) (gm kv sv (left.eraseIdx i))]) (fun x=>x.2<=s.length/\∀ c,(glk x.1 c).getD 0=if InB (s.take x.2) c then k else (glk m c).getD 0) (fun x=>s.length - x.2) (m,0) ⟨n_3 _,fun c=>by rw [if_neg (by simp [InB])]⟩ tu_ (extra0:=[]) rfl A1 uz_ ?_; intro ⟨m1,j⟩ ⟨hj,hm1⟩;dsimp only at hj hm1 ⊢;refine F2 ?_; refine cC (fun h4=>?_) fun h4=>?_
   ·have hjl:(j:Int) < s.length:=by simpa using h4
    obtain ⟨b,hb⟩:∃ b,s[j]? = some b:=⟨s[j]'om_,si_⟩;refine a1O ?_; refine cY (t6 rfl tt tt rfl rfl t_7 a25 om_ (j8 hb) rfl) ?_; refine cY (T9 rfl tt rfl c6N rfl) ?_; refine z_2 ?_; refine R7 ?_; refine cY j7 ?_;refine cD (k8 (vc:=kv) (l:=m1) (a:=(b.toNat:Int)) (b:=k) d0h (.inl rfl) tt tt trivial rfl rfl rfl b9U rfl ?_);refine a2F ?_;exact ⟨(W2 m1 (b.toNat:Int) k,j+1),_,⟨do_,do_,c4Q hb hm1⟩,tu_,rfl⟩
   ·have hjl:s.length<=j:=by
     have:¬ (j:Int) < s.length:=by simpa using h4
     omega
    rw [Y9 hjl] at hm1;refine z6 ?_;exact ⟨(m1,[(k,s)],left.eraseIdx i),_,⟨by dsimp only; rw [List.length_eraseIdx_of_lt (n_0.1 hy).1]; have:=(n_0.1 hy).1; omega,hkl.step hy hm1⟩,tu_,rfl⟩
  ·cases h3
theorem b0Y (σ:List c5):b8 CC 123 [] σ fun r τ=>∃ m:List (Int × Int),r = .ret (.map σ.length)/\τ=σ++[.map (gm kb kv m)]/\KM m :=
 a0u (α:=List (Int × Int)) (obs:=[]) (args:=[]) (res:=fun _=>.ret (.map 0)) (res':=fun _=>.ret (.map σ.length)) (S:=fun _=>[]) (N:=fun m=>[.map (gm kb kv m)]) (P:=KM) [] hCC rfl (fun i j k h=>by simp at h) (fun i k h=>by simp at h) (fun ob h=>by cases h) ⟨rfl,fun i c c' h=>by simp at h⟩
  (a0o (res:=fun _=>.ret (.map 0)) (S:=fun m=>[.map (gm kb kv m)]) (P:=KM) hCC c2t) (fun m _=>⟨rfl,fun ob h=>by simp at h; subst h; exact c7B m⟩) (fun m _=>.ret (.map (.inr ⟨n_3 _,rfl⟩)))
def inK (ks:List Int) (b:UInt8):Bool:=ks.any fun k=>decide (j9 b.toNat=k)
def r4 (s:Str) (a:Nat) (ks:List Int):Nat:=a+((s.drop a).takeWhile (inK ks)).length
theorem a78 {s:Str} {a:Nat} (h:s.length<=a):r4 s a ks=a:=by
 unfold r4;rw [U5 h]; rfl
theorem N7 {s:Str} {a:Nat} {b:UInt8} (h:s[a]? = some b):r4 s a ks=if inK ks b=true then r4 s (a+1) ks else a:=by
 obtain ⟨hlt,rfl⟩:=n_0.1 h;unfold r4;rw [Q9 hlt,b6v]
 split
 ·rw [n_7]; omega
 ·rfl
theorem a0K {s:Str} {a:Nat} (h:a<=s.length):a<=r4 s a ks/\r4 s a ks<=s.length:=by
 unfold r4;have:=(List.takeWhile_sublist (inK ks) (l:=s.drop a)).length_le;rw [b2J] at this;omega
theorem c4J {k:Int} (h:ks[j]? = some k) (p:Int->Bool):(ks.take (j+1)).any p=((ks.take j).any p || p k):=by
 obtain ⟨hlt,rfl⟩:=n_0.1 h;rw [<- b22 hlt,List.any_append];simp
theorem c63 (s:Str) (at_:Nat) (ks:List Int) (nn:Bool) (m:List (Int × Int)) (hm:KM m) (ha:at_<=s.length) (hs:s.length<=1000000000000) (hkl:ks.length<=1000000000000):b8 CC 124 [(sv s),(.val (.int .i64 (at_:Int))),.map 0,(.list (ks.map icv) nn none)] [c5.map (gm kb kv m)] fun r τ=>∃ _:Unit,a08 [c5.map (gm kb kv m)].length τ r (.ret (.val (.int .i64 (r4 s at_ ks:Int))))/\b0A [c5.map (gm kb kv m)].length τ τ [c5.map (gm kb kv m)]/\[c5.map (gm kb kv m)].length<=[c5.map (gm kb kv m)].length/\True:=by
 refine (c4 Tryz.func124 rfl rfl ?_);refine z_6 ?_; refine a8o ?_; refine o0 hCC (α:=Nat) (fun i=>[(0,(sv s)),(1,(.val (.int .i64 (i:Int)))),(2,.map 0),(3,(.list (ks.map icv) nn none))]) (fun _=>[c5.map (gm kb kv m)]) (fun i=>i<=s.length/\r4 s at_ ks=r4 s i ks) (fun i=>s.length - i) at_ ⟨ha,rfl⟩ tu_ (extra0:=[]) rfl A1 uz_ ?_; intro i ⟨hi,hsp⟩; refine b2E ?_; refine cC (fun h1=>?_) fun h1=>?_
 ·have hil:(i:Int) < s.length:=by simpa using h1
  obtain ⟨b,hb⟩:∃ b,s[i]? = some b:=⟨s[i]'om_,si_⟩;rw [N7 hb] at hsp;refine a2L ?_; refine a04 ?_; refine cY a7l ?_; refine a1n ?_; refine o0 hCC (α:=Nat) (fun j=>[(0,(sv s)),(1,(.val (.int .i64 (i:Int)))),(2,.map 0),(3,(.list (ks.map icv) nn none)),(9,(.val (.bool ((ks.take j).any fun k=>decide (j9 b.toNat=k))))),(16,(.list (ks.map icv) nn none)),(17,(.val (.int .i64 (ks.length:Int)))),(18,(.val (.int .i64 (j:Int))))]) (fun _=>[c5.map (gm kb kv m)]) (fun j=>j<=ks.length) (fun j=>ks.length - j) 0 (n_3 _) tu_ (extra0:=[]) rfl A1 uz_ ?_; intro j hj; refine F2 ?_; refine cC (fun h2=>?_) fun h2=>?_
  ·have hjl:(j:Int) < ks.length:=by simpa using h2
   obtain ⟨k,hk⟩:∃ k,ks[j]? = some k:=⟨ks[j]'om_,si_⟩;refine a1O ?_; refine cY (t6 rfl tt tt rfl rfl t_5 t_1 om_ (j8 hk) rfl) ?_; refine cY a3D ?_; refine a8x ?_; refine a7Z ?_; refine cG Y6 ?_; refine cG d5F ?_; refine cG (fun hg=>P9 (vc:=kv) (l:=m) (a:=(b.toNat:Int)) d0h rfl hg hg rfl rfl b9U t_6 rfl rfl (b4p _ _)) ?_; refine cG Y6 ?_; refine cG a8z ?_; refine cY a6W ?_; refine a8G ?_;exact ⟨(j+1),_,⟨om_,om_⟩,⟨B0,B0,B0,B0,⟨tt,(by rw [c4J hk,<- hm]; rfl)⟩,B0,B0,B0,tt⟩,rfl⟩
  ·have hjl:ks.length<=j:=by
    have:¬ (j:Int) < ks.length:=by simpa using h2
    omega
   refine z6 ?_; refine a3c ?_; refine T7 ?_; refine cC (fun h3=>?_) fun h3=>?_
   ·have hno:inK ks b=false:=by
     have:((ks.take j).any fun k=>decide (j9 b.toNat=k))=false:=by simpa using h3
     rwa [Y9 hjl] at this
    rw [hno] at hsp;refine a33 ?_;exact ⟨_,j5 rfl tt c6,⟨(),.ret (H6 (by rw [hsp]; rfl)),⟨.same (U7 _ _),tt⟩,n_4 _,tt⟩⟩
   ·have hyes:inK ks b=true:=by
     have:((ks.take j).any fun k=>decide (j9 b.toNat=k))=true:=by simpa using h3
     rwa [Y9 hjl] at this
    rw [hyes] at hsp;refine b08 ?_;exact ⟨(i+1),_,⟨om_,om_,hsp⟩,tu_,rfl⟩
 ·have hge:s.length<=i:=by
   have:¬ (i:Int) < s.length:=by simpa using h1
   omega
  rw [a78 hge] at hsp;refine a33 ?_;exact ⟨_,j5 rfl tt c6,⟨(),.ret (H6 (by rw [hsp])),⟨.same (U7 _ _),tt⟩,n_4 _,tt⟩⟩
theorem a6F {s:Str} {at_:Nat} {nn:Bool} {m:List (Int × Int)} (hm:KM m) (ha:at_<=s.length) (hs:s.length<=1000000000000) (hkl:ks.length<=1000000000000) (hq:σ[q]? = some (.map (gm kb kv m))):b8 CC 124 [(sv s),(.val (.int .i64 (at_:Int))),.map q,(.list (ks.map icv) nn none)] σ fun r τ=>r = .ret (.val (.int .i64 (r4 s at_ ks:Int)))/\τ=σ :=
 b1A hCC (c7B m) (.val _) hq (.cons (.val _) (.cons (.val _) (.cons (.map rfl) (.cons (.pure (a0l _ _)) .nil)))) (c63 s at_ ks nn m hm ha hs hkl)
def B1 (s:Str):Bool:=match s with
 | []=>false
 | b::_=>decide (s.length<=24) && decide (j9 b.toNat=1) && s.all (inK [1,2,3])
theorem a7z {s:Str}:r4 s 0 ks=s.length↔s.all (inK ks)=true:=by
 unfold r4;rw [b0H,n_8];generalize inK ks=p
 induction s with
 | nil=>simp
 | cons b s ih =>
  rw [b6v,List.all_cons];cases hp:p b with
  | false=>simp
  | true =>
   simp only [if_true,n_7,Nat.add_right_cancel_iff,b9o];exact ih
theorem c4V {s:Str} (h:1<=s.length):s[(0:Int).toNat]? = some (s.headD 0):=by
 cases s with
 | nil=>simp at h
 | cons b s=>rfl
theorem d0b (s:Str) {m:List (Int × Int)} (hm:KM m) {w:Bool} (h1:x=decide ((s.length:Int)>=1)) (h2:y=decide ((s.length:Int)<=24)) (h3:z=((glk m ((s.headD 0).toNat:Int)).getD 0 == 1)) (h4:w=((r4 s 0 [1,2,3]:Int) == (s.length:Int))):(((x && y) && z) && w)=B1 s:=by
 subst h1 h2 h3 h4;rw [hm];have h5:((r4 s 0 [1,2,3]:Int) == (s.length:Int))=s.all (inK [1,2,3]):=by
  cases h:s.all (inK [1,2,3]) with
  | true=>exact a2H (by have:=a7z.2 h; omega)
  | false =>
   refine a3l fun e=>?_;have:=a7z.1 (show r4 s 0 [1,2,3]=s.length by omega);rw [h] at this; cases this
 rw [h5];cases s with
 | nil=>rfl
 | cons b s =>
  have h6:decide (((b::s).length:Int)>=1)=true:=by simp; omega
  have h7:decide (((b::s).length:Int)<=24)=decide ((b::s).length<=24):=decide_eq_decide.2 om_;rw [h6,h7];rfl
theorem a1i (s:Str) (hs:s.length<=1000000000000) (σ:List c5):b8 CC 74 [(sv s)] σ fun r σ'=>r = .ret (.val (.bool (B1 s)))/\σ'=σ:=by
 refine b8.anyw hCC pu_ pu_ ?_ σ;refine d4 (c4 Tryz.func74 rfl rfl ?_);refine a3C ?_;refine cD (b9 rfl c5c trivial (b0Y _) rfl ?_);intro m hm; refine M9 ?_; refine cY V4 ?_; refine a1b ?_; refine cG a3G ?_; refine a87 ?_; refine cG d41 ?_; refine cG (fun hg=>P9 (vc:=kv) (l:=m) (a:=((s.headD 0).toNat:Int)) d0h rfl hg hg rfl rfl b9U t_6 rfl rfl (b4p _ _)) ?_; refine a87 ?_; refine cG (fun hg=>A3 ([1,2,3].map icv) rfl ⟨rfl,rfl,rfl,tt⟩ t_5 t_1 t_6 rfl rfl rfl rfl rfl rfl rfl rfl rfl) ?_; refine cG (fun hg=>c7 rfl c4r ⟨hg,rfl,hg,hg,tt⟩ (a6F hm (n_3 _) hs de_ rfl) rfl) ?_; refine cG Y6 ?_; refine cG a3G ?_; refine cG a8z ?_; refine a6Q ?_;exact ⟨_,j5 rfl tt c6,_,_,rfl,rfl,j4 (d0b s hm rfl rfl rfl rfl)⟩
theorem b0b (s:Str) (c:UInt8) (σ:List c5):b8 CC 233 [(sv s),(.val (.int .u8 (c.toNat:Int)))] σ fun r σ'=>r = .ret (.val (.int .i64 (Go.Lib.indexByte s c)))/\σ'=σ:=by
 refine b8.anyw hCC pu_ pu_ ?_ σ;refine d4 (c4 Tryz.func233 rfl rfl ?_);refine a2U ?_; refine cY (c75 (e:=Extern.BytealgIndexByte.indexByte) rfl Tryz.func274 rfl rfl rfl rfl tt tt rfl rfl (fun w=>c2J s c w)) ?_;exact c0p
theorem a5u (s:Str) (c:UInt8) (σ:List c5):b8 CC 189 [(sv s),(.val (.int .u8 (c.toNat:Int)))] σ fun r σ'=>r = .ret (.val (.int .i64 (Go.Lib.indexByte s c)))/\σ'=σ:=by
 refine b8.anyw hCC pu_ pu_ ?_ σ;refine d4 (c4 Tryz.func189 rfl rfl ?_);refine a2U ?_;exact d1s
theorem b5V (s:Str) (c:UInt8) (σ:List c5):b8 CC 298 [(sv s),(sv ([c]))] σ fun r σ'=>r = .ret (.val (.int .i64 (Go.Lib.indexByte s c)))/\σ'=σ:=by
 refine b8.anyw hCC pu_ pu_ ?_ σ;refine d4 (c4 Tryz.func298 rfl rfl ?_);refine a1T ?_; refine cY V4 ?_; refine b1w ?_; refine z_1 ?_; refine cY P1 ?_; refine a7Z ?_; refine cG b04 ?_; refine cY a6W ?_; refine z_2 ?_; refine cC (fun h1=>?_) fun h1=>?_
 ·have hs:s=[c]:=by simp at h1; exact h1.symm
  subst hs; refine G5 ?_;exact ⟨_,j5 rfl tt c6,_,_,rfl,rfl,H6 (by simp [Go.Lib.indexByte])⟩
 ·refine z_1 ?_; refine a9M ?_; refine cC (fun h2=>?_) fun h2=>?_
  ·refine z_4 ?_; refine cY (K7 rfl tt rfl rfl rfl t_4 om_ rfl) ?_;exact d1s
  ·simp at h2
theorem a8j (s:Str) (c:UInt8) (σ:List c5):b8 CC 263 [(sv s),(sv ([c]))] σ fun r σ'=>r = .ret (.val (.int .i64 (Go.Lib.indexByte s c)))/\σ'=σ:=by
 refine b8.anyw hCC pu_ pu_ ?_ σ;refine d4 (c4 Tryz.func263 rfl rfl ?_);refine a2U ?_; refine cY (c7 rfl Tryz.call298 j1 (b5V s c _) rfl) ?_;exact c0p
theorem a79 (s:Str) (c:UInt8) (σ:List c5):b8 CC 262 [(sv s),(sv ([c]))] σ fun r σ'=>r = .ret (.val (.int .i64 (s.count c:Nat)))/\σ'=σ:=by
 refine b8.anyw hCC pu_ pu_ ?_ σ;refine d4 (c4 Tryz.func262 rfl rfl ?_);refine a04 ?_; refine a84 ?_; refine cC (fun h1=>?_) fun h1=>?_
 ·simp at h1
 ·refine a4V ?_; refine a84 ?_; refine cC (fun h2=>?_) fun h2=>?_
  ·refine z_4 ?_; refine cY (K7 rfl tt rfl rfl rfl t_4 om_ rfl) ?_; refine cY (c75 (e:=Extern.BytealgCount.count) rfl Tryz.func297 rfl rfl rfl rfl tt tt rfl rfl (fun w=>c28 s c w)) ?_;exact c0p
  ·simp at h2
def z8 (c:UInt8):Str->List Str
 | []=>[[]]
 | b::l=>if b=c then []::z8 c l else match z8 c l with
  | x::xs=>(b::x)::xs
  | []=>[[b]]
theorem a0c (c:UInt8) (s:Str):z8 c s≠[]:=by
 cases s with
 | nil=>simp [z8]
 | cons b l =>
  rw [z8]
  split
  ·simp
  ·split <;> simp
theorem a0s (c:UInt8) (s:Str):(z8 c s).length=s.count c+1:=by
 induction s with
 | nil=>rfl
 | cons b l ih =>
  rw [z8,List.count_cons];by_cases h:b=c
  ·rw [if_pos h,n_7,ih,if_pos V8]
  ·rw [if_neg h,if_neg V8];cases hs:z8 c l with
   | nil=>exact absurd hs (a0c c l)
   | cons x xs=>rw [hs] at ih; simpa using ih
theorem a4H {c:UInt8}:∀ {s:Str},Go.Lib.indexByte s c = -1->z8 c s=[s]
 | [],_=>rfl
 | b::l,h=>by
  rw [Go.Lib.indexByte] at h;by_cases hb:b=c
  ·rw [if_pos a80] at h; omega
  ·rw [if_neg a80] at h;have hl:Go.Lib.indexByte l c = -1:=by
    have:=Go.Lib.indexByte_ge l c;split at h
    ·rename_i e; simpa using e
    ·omega
   rw [z8,if_neg hb,a4H hl]
theorem a38 {c:UInt8}:∀ {s:Str} {m:Nat},Go.Lib.indexByte s c=m->m < s.length/\z8 c s=s.take m::z8 c (s.drop (m+1))
 | [],m,h=>by rw [Go.Lib.indexByte] at h; omega
 | b::l,m,h=>by
  rw [Go.Lib.indexByte] at h;by_cases hb:b=c
  ·rw [if_pos a80] at h;have hm:m=0:=by omega
   subst hm;exact ⟨si_,by rw [z8,if_pos hb]; rfl⟩
  ·rw [if_neg a80] at h;have hg:=Go.Lib.indexByte_ge l c;split at h
   ·omega
   ·rename_i e;have e':Go.Lib.indexByte l c≠-1:=by simpa using e
    obtain ⟨k,hk⟩:∃ k:Nat,Go.Lib.indexByte l c=k:=⟨(Go.Lib.indexByte l c).toNat,om_⟩;have hmk:m=k+1:=by omega
    subst hmk;obtain ⟨h1,h2⟩:=a38 hk;refine ⟨by simp; omega,?_⟩;rw [z8,if_neg hb,h2];rfl
theorem c6a (n:Nat) {d:List Str} {k:Nat}:F5 n (.vec 1 (d.map scv++List.replicate k (scv []))):=fun r hr c hc=>by
 rcases a0y.1 hr with hr | hr
 ·obtain ⟨x,_,rfl⟩:=K3.1 hr;simp [scv] at hc; subst hc; exact .val _
 ·have:=List.eq_of_mem_replicate hr;subst this;simp [scv] at hc; subst hc; exact .val _
theorem c7Z {d:List Str} {k:Nat} (hk:0 < k):(d.map scv++List.replicate k (scv []))[0+((d.length:Int)).toNat]? = some (scv []):=by
 rw [n_8,a23,a0a si_];simp [hk]
theorem c5N {d:List Str} {n:Nat} {x:Str} (hk:d.length < n):(d.map scv++List.replicate (n - d.length) (scv [])).set (0+((d.length:Int)).toNat) (scv x)=(d++[x]).map scv++List.replicate (n - (d++[x]).length) (scv []):=by
 rw [n_8,a23,List.set_append,if_neg si_];obtain ⟨j,hj⟩:∃ j,n - d.length=j+1:=⟨n - d.length - 1,om_⟩;have h2:n - (d++[x]).length=j:=by simp; omega
 rw [hj,h2];simp [List.replicate_succ]
theorem a5m (s:Str) (c:UInt8) (hs:s.length<=1000000000) (σ:List c5):b8 CC 207 [(sv s),(sv ([c])),(.val (.int .i64 (0))),(.val (.int .i64 (-1)))] σ fun r σ'=>r = .ret (.list ((z8 c s).map scv) true none)/\σ'=σ:=by
 refine b8.anyw hCC pu_ pu_ ?_ σ;have hcnt:=s.count_le_length (a:=c);have hc1:([c]:Str).length=1:=rfl;refine d4 (c4 Tryz.func207 rfl rfl ?_);refine a04 ?_; refine G9 ?_; refine cC (fun h1=>?_) fun h1=>?_
 ·simp at h1
 ·refine a4V ?_; refine b3K ?_; refine cC (fun h2=>?_) fun h2=>?_
  ·simp at h2
  ·refine i8 ?_; refine W7 hCC (α:=Unit) (fun _=>[(0,(sv s)),(1,(sv ([c]))),(2,(.val (.int .i64 (0)))),(3,(.val (.int .i64 (((s.count c:Nat):Int)+1))))]) (fun _=>[]) (fun _=>True) A1 uz_ ?_ ?_
   ·
    refine z_1 ?_; refine G9 ?_; refine cC (fun h3=>?_) fun h3=>?_
    ·refine R7 ?_; refine cY (c7 rfl Tryz.call262 j1 (a79 s c _) rfl) ?_; refine c8u ?_;exact ⟨(),_,tt,tu_,rfl⟩
    ·simp at h3
   ·intro _ _; refine z_4 ?_; refine cY V4 ?_; refine cY S8 ?_; refine cY (d2d rfl tt tt rfl rfl) ?_; refine M9 ?_;refine cD (b8O rfl tt tt rfl rfl (n:=(s.count c+1)) (c:=(s.count c+1)) om_ om_ t_2 t_0 a8h t_3 rfl (a48 rfl) rfl om_ H3 V5 ?_);refine M9 ?_; refine a5w ?_; refine z_6 ?_; refine a8o ?_; refine o0 hCC (α:=List Str × Str) (fun x=>[(0,(sv x.2)),(1,(sv ([c]))),(2,(.val (.int .i64 (0)))),(3,(.val (.int .i64 ((s.count c:Nat):Int)))),(9,.vec 0 0 (s.count c+1)),(10,(.val (.int .i64 (x.1.length:Int))))]) (fun x=>[.vec 1 (x.1.map scv++List.replicate (s.count c+1 - x.1.length) (scv []))]) (fun x=>x.1.length<=s.count c/\z8 c s=x.1++z8 c x.2/\x.2.length<=s.length) (fun x=>s.count c+1 - x.1.length) ([],s) ⟨n_3 _,rfl,n_4 _⟩ ⟨B0,B0,B0,⟨tt,congrArg (fun z:Int=>(CV.val (.int .i64 z))) om_⟩,B0,B0,tt⟩ (extra0:=[]) rfl A1 uz_ ?_; intro ⟨d,u⟩ ⟨hd,hsp,hul⟩;dsimp only at hd hsp hul ⊢;have hlen:=a0s c s;rw [hsp,n_6,a0s c u] at hlen;refine a6H ?_; refine a9A ?_; refine cC (fun h4=>?_) fun h4=>?_
    ·have hdl:d.length < s.count c:=by simp at h4; omega
     refine a2L ?_; refine z_4 ?_; refine cY (c7 rfl Tryz.call263 j1 (a8j u c _) rfl) ?_; refine a5H ?_; refine cC (fun h5=>?_) fun h5=>?_
     ·exfalso;have hneg:Go.Lib.indexByte u c = -1:=by
       have:=Go.Lib.indexByte_ge u c;have h5':Go.Lib.indexByte u c < 0:=by simpa using h5
       omega
      have h6:=a0s c u;rw [a4H hneg] at h6;simp at h6;omega
     ·have hm0:¬ Go.Lib.indexByte u c < 0:=by simpa using h5
      obtain ⟨m,hm⟩:∃ m:Nat,Go.Lib.indexByte u c=m:=⟨(Go.Lib.indexByte u c).toNat,om_⟩;obtain ⟨hml,hsu⟩:=a38 hm;rw [hm];refine a5C ?_; refine a8a ?_; refine cY a5S ?_; refine cY (G8 (h:=m) rfl tt rfl t_4 rfl a7m a3v a3v) ?_; refine cY (Q8 rfl tt tt rfl rfl t_2 t_0 rfl om_ om_) ?_;refine cD (N8 ((d++[u.take m]).map scv++List.replicate (s.count c+1 - (d++[u.take m]).length) (scv [])) rfl tt tt rfl c6 t_0 (.inl rfl) rfl (c7Z (d:=d) (k:=s.count c+1 - d.length) om_) rfl (nb rfl) (by exact c5N (d:=d) (x:=u.take m) (n:=s.count c+1) om_) rfl ?_);refine i7 ?_; refine a0n ?_; refine cY V4 ?_; refine cY a5S ?_; refine cY (G8 (a:=(m+1)) rfl tt rfl t_4 a7m rfl a3v a3v) ?_; refine z_2 ?_; refine a4M ?_;exact ⟨(d++[u.take m],u.drop (m+1)),_,⟨by simp; omega,by simp; omega,by rw [hsp,hsu]; simp,by simp; omega⟩,⟨⟨tt,(congrArg sv (show (u.take u.length).drop (m+1)=u.drop (m+1) by rw [b1E]))⟩,B0,B0,B0,B0,⟨tt,congrArg (fun z:Int=>(CV.val (.int .i64 z))) si_⟩,tt⟩,rfl⟩
    ·have hdl:d.length=s.count c:=by
      have:¬ (d.length:Int) < ((s.count c:Nat):Int):=by simpa using h4
      omega
     have hu1:z8 c u=[u]:=by
      apply a4H;have h6:=a0s c u;have hg:=Go.Lib.indexByte_ge u c
      rcases Int.lt_or_le (Go.Lib.indexByte u c) 0 with h | h
      ·omega
      ·obtain ⟨m,hm⟩:∃ m:Nat,Go.Lib.indexByte u c=m:=⟨(Go.Lib.indexByte u c).toNat,om_⟩;obtain ⟨_,h7⟩:=a38 hm;have h8:=congrArg List.length h7;have h9:=a0c c (u.drop (m+1));have h10:=b13.2 h9;simp only [n_7] at h8;omega
     rw [hu1] at hsp;refine z6 ?_; refine a0n ?_; refine cY (Q8 rfl tt tt rfl rfl t_2 t_0 rfl om_ om_) ?_;refine cD (N8 ((d++[u]).map scv++List.replicate (s.count c+1 - (d++[u]).length) (scv [])) rfl tt tt rfl c6 t_0 (.inl rfl) rfl (c7Z (d:=d) (k:=s.count c+1 - d.length) om_) rfl (nb rfl) (by exact c5N (d:=d) (x:=u) (n:=s.count c+1) om_) rfl ?_);refine a4s ?_; refine cY S8 ?_; refine cY (a2y (h:=(d.length+1)) rfl tt rfl t_2 t_0 rfl rfl a7m a9a (by first|(simp; done)|(simp; omega))) ?_; refine z_7 ?_;exact ⟨_,j5 rfl tt c6,_,_,rfl,rfl,.vecs (n_3 _) rfl (by first|(simp; done)|(simp; omega)) (by rw [hsp,b0H]; exact List.take_left' si_) (fun r hr c hc=>(A6 (f:=scv) (fun _=>S2.all ⟨.val _,tt⟩) _) r hr c hc)⟩
theorem a70 (s:Str) (c:UInt8) (hs:s.length<=1000000000) (σ:List c5):b8 CC 162 [(sv s),(sv ([c]))] σ fun r σ'=>r = .ret (.list ((z8 c s).map scv) true none)/\σ'=σ:=by
 refine b8.anyw hCC pu_ pu_ ?_ σ;refine d4 (c4 Tryz.func162 rfl rfl ?_);refine a2U ?_; refine cY (c7 rfl Tryz.call207 ⟨tt,tt,rfl,rfl,tt⟩ (a5m s c hs _) rfl) ?_; refine z_7 ?_;exact ⟨_,j5 rfl tt c6,_,_,rfl,rfl,(a1z rfl (F7 _ _))⟩
def a3u (p:Str):Bool:=decide (1<=p.length) && decide (p.length<=24) && p.all (inK [1,2,3,4])
def C1 (s:Str):Bool:=decide (s.length<=80) && decide ((z8 47 s).length<=8) && (z8 47 s).all a3u
theorem c2i {c:UInt8} {s:Str}:∀ p∈z8 c s,p.length<=s.length:=by
 induction s with
 | nil=>intro p hp; simp [z8] at hp; subst hp; simp
 | cons b l ih =>
  intro p hp;rw [z8] at hp;by_cases h:b=c
  ·rw [if_pos h] at hp
   rcases Q2.1 hp with rfl | hp
   ·simp
   ·have:=ih p hp; simp; omega
  ·rw [if_neg h] at hp;cases hs:z8 c l with
   | nil=>exact absurd hs (a0c c l)
   | cons x xs =>
    rw [hs] at hp ih
    rcases Q2.1 hp with rfl | hp
    ·have:=ih x si_; simp; omega
    ·have:=ih p (by simp [hp]); simp; omega
theorem c0G (p:Str) (h1:x=decide ((p.length:Int) < 1)) (h2:y=decide ((p.length:Int) > 24)) (h3:z = !((r4 p 0 [1,2,3,4]:Int) == (p.length:Int))):((x || y) || z) = !a3u p:=by
 subst h1 h2 h3;have h5:((r4 p 0 [1,2,3,4]:Int) == (p.length:Int))=p.all (inK [1,2,3,4]):=by
  cases h:p.all (inK [1,2,3,4]) with
  | true=>exact a2H (by have:=a7z.2 h; omega)
  | false =>
   refine a3l fun e=>?_;have:=a7z.1 (show r4 p 0 [1,2,3,4]=p.length by omega);rw [h] at this; cases this
 rw [h5,a3u];have h6:decide ((p.length:Int) < 1) = !decide (1<=p.length):=by by_cases h:1<=p.length <;> simp [h] <;> omega
 have h7:decide ((p.length:Int) > 24) = !decide (p.length<=24):=by by_cases h:p.length<=24 <;> simp [h] <;> omega
 rw [h6,h7];simp [Bool.not_and]
theorem a1k (s:Str) (hs:s.length<=1000000000) (σ:List c5):b8 CC 118 [(sv s)] σ fun r σ'=>r = .ret (.val (.bool (C1 s)))/\σ'=σ:=by
 refine b8.anyw hCC pu_ pu_ ?_ σ;refine d4 (c4 Tryz.func118 rfl rfl ?_);refine a1T ?_; refine cY (c7 rfl Tryz.call162 o6 (a70 s 47 hs _) rfl) ?_; refine a4a ?_; refine cY V4 ?_; refine a1b ?_; refine cG (fun hg=>X7 rfl hg rfl t_2 a4c rfl) ?_; refine a8M ?_; refine cC (fun h1=>?_) fun h1=>?_
 ·have hno:C1 s=false:=by
   unfold C1;have h1':(decide ((s.length:Int) > 80) || decide (((z8 47 s).length:Int) > 8))=true:=h1;by_cases h:s.length<=80
   ·have h2:¬ (z8 47 s).length<=8:=by
     intro h2;have e1:decide ((s.length:Int) > 80)=false:=a3l om_;have e2:decide (((z8 47 s).length:Int) > 8)=false:=a3l om_;rw [e1,e2] at h1'; cases h1'
    simp [h2]
   ·simp [h]
  exact c1H
 ·have hok:s.length<=80/\(z8 47 s).length<=8:=by
   have h1':(decide ((s.length:Int) > 80) || decide (((z8 47 s).length:Int) > 8))=false:=h1;simp only [c0S,decide_eq_false_iff_not] at h1';omega
  refine a0x ?_;refine cD (b9 rfl c5c trivial (b0Y _) rfl ?_);intro m hm; refine a4a ?_; refine a0W ?_; refine o0 hCC (α:=Nat) (fun i=>[(4,.map 0),(18,(.list ((z8 47 s).map scv) true none)),(19,(.val (.int .i64 ((z8 47 s).length:Int)))),(20,(.val (.int .i64 (i:Int))))]) (fun _=>[.map (gm kb kv m)]) (fun i=>i<=(z8 47 s).length/\((z8 47 s).take i).all a3u=true) (fun i=>(z8 47 s).length - i) 0 ⟨n_3 _,rfl⟩ tu_ (extra0:=[]) rfl A1 uz_ ?_; intro i ⟨hi,hall⟩; refine F2 ?_; refine cC (fun h2=>?_) fun h2=>?_
  ·have hil:(i:Int) < (z8 47 s).length:=by simpa using h2
   obtain ⟨p,hp⟩:∃ p,(z8 47 s)[i]? = some p:=⟨(z8 47 s)[i]'om_,si_⟩;have hpl:=c2i p (n_1 hp);refine a1O ?_; refine cY (t6 rfl tt tt rfl rfl t_2 t_0 om_ (j8 hp) rfl) ?_; refine cY a0T ?_; refine M9 ?_; refine cY V4 ?_; refine a1b ?_; refine cG a3G ?_; refine a5K ?_; refine a7Z ?_; refine cG (fun hg=>A3 ([1,2,3,4].map icv) rfl ⟨rfl,rfl,rfl,rfl,tt⟩ t_5 t_1 t_6 rfl rfl rfl rfl rfl rfl rfl rfl rfl) ?_; refine cG (fun hg=>c7 rfl c4r ⟨hg,rfl,hg,hg,tt⟩ (a6F hm (n_3 _) om_ de_ rfl) rfl) ?_; refine cG Y6 ?_; refine cG a3G ?_; refine cG a8z ?_; refine a4L ?_; refine cC (fun h3=>?_) fun h3=>?_
   ·have hbad:a3u p=false:=by
     have h3':true = !a3u p:=Eq.trans (Eq.symm h3) (c0G p rfl rfl rfl);simpa using h3'.symm
    have hno:C1 s=false:=by
     unfold C1;have:(z8 47 s).all a3u=false:=by
      rw [a74];intro hh;have:=R8.1 hh p (n_1 hp);rw [hbad] at this; cases this
     rw [this]; simp
    exact c1H
   ·have hgood:a3u p=true:=by
     have h3':false = !a3u p:=Eq.trans (Eq.symm h3) (c0G p rfl rfl rfl);simpa using h3'.symm
    refine a2h ?_;exact ⟨(i+1),_,⟨om_,om_,by
     obtain ⟨hlt,he⟩:=n_0.1 hp;rw [<- b22 hlt,List.all_append,hall,he];simp [hgood]⟩,tu_,rfl⟩
  ·have hge:(z8 47 s).length<=i:=by
    have:¬ (i:Int) < (z8 47 s).length:=by simpa using h2
    omega
   rw [Y9 hge] at hall;refine a3y ?_;exact ⟨_,j5 rfl tt c6,_,_,rfl,rfl,j4 (by rw [C1,hall]; simp [hok.1,hok.2])⟩
theorem c7y (c:Int):(decide (c>=97) && decide (c<=122))=decide (j9 c=1):=by
 by_cases h:97<=c/\c<=122
 ·have e:j9 c=1:=by unfold j9; rw [if_pos h]
  simp [e,h.1,h.2]
 ·have e:j9 c≠1:=by
   unfold j9;rw [if_neg h]
   repeat' split
   all_goals omega
  have e2:¬ (c>=97/\c<=122):=h;simp only [a3l e];by_cases h1:c>=97
  ·have h2:¬ c<=122:=fun h2=>h ⟨h1,h2⟩;simp [h2]
  ·simp [h1]
theorem d0l (b:UInt8) (hx:x=decide (j9 b.toNat=1)) (hy:y=(decide ((b.toNat:Int)>=48) && decide ((b.toNat:Int)<=57))) (hz:z=((b.toNat:Int) == 95)):((x || y) || z)=inK [1,2,3] b:=by
 subst hx hy hz;unfold inK;generalize (b.toNat:Int)=c;have h2:(decide (c>=48) && decide (c<=57))=decide (j9 c=2):=by
  by_cases h:48<=c/\c<=57
  ·have e:j9 c=2:=by unfold j9; rw [if_neg om_,if_pos h]
   simp [e,h.1,h.2]
  ·have e:j9 c≠2:=by
    unfold j9
    repeat' split
    all_goals omega
   simp only [a3l e];by_cases h1:c>=48
   ·have h2:¬ c<=57:=fun h2=>h ⟨h1,h2⟩;simp [h2]
   ·simp [h1]
 have h3:(c == 95)=decide (j9 c=3):=by
  by_cases h:c=95
  ·subst h; rfl
  ·have e:j9 c≠3:=by
    unfold j9
    repeat' split
    all_goals omega
   rw [a3l e];simp [h]
 rw [h2,h3];simp [Bool.or_assoc]
theorem a4Q (b:UInt8) (σ:List c5):b8 CC 131 [(.val (.int .u8 (b.toNat:Int)))] σ fun r σ'=>r = .ret (.val (.bool (decide (j9 b.toNat=1))))/\σ'=σ:=by
 refine b8.anyw hCC pu_ pu_ ?_ σ;refine d4 (c4 Tryz.func131 rfl rfl ?_);refine a1T ?_; refine a1b ?_; refine a8F ?_;exact ⟨_,j5 rfl tt c6,_,_,rfl,rfl,j4 (c7y _)⟩
theorem a6g (b:UInt8) (σ:List c5):b8 CC 119 [(.val (.int .u8 (b.toNat:Int)))] σ fun r σ'=>r = .ret (.val (.bool (inK [1,2,3] b)))/\σ'=σ:=by
 refine b8.anyw hCC pu_ pu_ ?_ σ;refine d4 (c4 Tryz.func119 rfl rfl ?_);refine a1T ?_; refine cY (c7 rfl c5b ⟨tt,tt⟩ (a4Q b _) rfl) ?_; refine a6i ?_; refine cG b0O ?_; refine cG b5r ?_; refine a4j rfl rfl (fun h=>h) rfl rfl (fun hk hg=>a3h rfl tt c6) ?_; refine a4j rfl rfl (fun h=>h) rfl rfl (fun hk hg=>a2E rfl ⟨hk,hg⟩ rfl rfl rfl rfl) ?_; refine cG c51 ?_; refine b5N ?_; refine a5K ?_; refine z_7 ?_;exact ⟨_,j5 rfl tt c6,_,_,rfl,rfl,j4 (d0l b rfl rfl rfl)⟩
theorem d4v {s:Str} (h:(((decide ((s.length:Int) < 1)) || decide ((s.length:Int) > 24)) || !decide (j9 ((s.headD 0).toNat:Int)=1))=true):B1 s=false:=by
 cases s with
 | nil=>rfl
 | cons b l =>
  unfold B1;by_cases h1:(b::l).length<=24
  ·have e1:decide (((b::l).length:Int) > 24)=false:=a3l om_;have e2:decide (((b::l).length:Int) < 1)=false:=a3l K9;rw [e1,e2] at h;have h3:j9 (b.toNat:Int)≠1:=by simpa using h
   simp [h3]
  ·simp only [a3l h1,Bool.false_and]
theorem d4H {s:Str} (h:(((decide ((s.length:Int) < 1)) || decide ((s.length:Int) > 24)) || !decide (j9 ((s.headD 0).toNat:Int)=1))=false) (ha:s.all (inK [1,2,3])=true):B1 s=true:=by
 cases s with
 | nil=>simp at h
 | cons b l =>
  simp only [c0S,decide_eq_false_iff_not,Bool.not_eq_false'] at h;unfold B1;have h1:(b::l).length<=24:=by omega
  have h3:j9 (b.toNat:Int)=1:=by simpa using h.2
  rw [ha];simp only [a2H h1,a2H h3];rfl
theorem d0t {s:Str} {b:UInt8} (hb:s[i]? = some b) (h:inK [1,2,3] b=false):B1 s=false:=by
 cases s with
 | nil=>rfl
 | cons x l =>
  unfold B1;have:(x::l).all (inK [1,2,3])=false:=by
   rw [a74];intro hh;have:=R8.1 hh b (n_1 hb);rw [h] at this; cases this
  rw [this];show (_ && false)=false;rw [Bool.and_false]
theorem c6d {s:Str} {b:UInt8} {p:UInt8->Bool} (hb:s[i]? = some b) (ha:(s.take i).all p=true) (h:p b=true):(s.take (i+1)).all p=true:=by
 obtain ⟨hlt,rfl⟩:=n_0.1 hb;rw [<- b22 hlt,List.all_append,ha];simp [h]
theorem c3h (s:Str) (hs:s.length<=1000000000000) (σ:List c5):b8 CC 85 [(sv s)] σ fun r σ'=>r = .ret (.val (.bool (B1 s)))/\σ'=σ:=by
 refine b8.anyw hCC pu_ pu_ ?_ σ;refine d4 (c4 Tryz.func85 rfl rfl ?_);refine a04 ?_; refine cY V4 ?_; refine a1b ?_; refine cG a3G ?_; refine a5K ?_; refine a6i ?_; refine cG d41 ?_; refine cG (fun hg=>c7 rfl c5b ⟨hg,tt⟩ (a4Q (s.headD 0) _) rfl) ?_; refine cG a83 ?_; refine a4L ?_; refine cC (fun h1=>?_) fun h1=>?_
 ·have hno:B1 s=false:=d4v h1;exact c1H
 ·have hok:=d4H h1;refine z_9 ?_; refine b2y ?_; refine o0 hCC (α:=Nat) (fun i=>[(0,(sv s)),(3,(.val (.int .i64 (i:Int))))]) (fun _=>[]) (fun i=>i<=s.length/\(s.take i).all (inK [1,2,3])=true) (fun i=>s.length - i) 0 ⟨n_3 _,rfl⟩ tu_ (extra0:=[]) rfl A1 uz_ ?_; intro i ⟨hi,hall⟩; refine b2E ?_; refine cC (fun h2=>?_) fun h2=>?_
  ·have hil:(i:Int) < s.length:=by simpa using h2
   obtain ⟨b,hb⟩:∃ b,s[i]? = some b:=⟨s[i]'om_,si_⟩;refine a6K ?_; refine z_4 ?_; refine cY b7o ?_; refine cY (c7 rfl c5K ⟨tt,tt⟩ (a6g b _) rfl) ?_; refine T7 ?_; refine cC (fun h3=>?_) fun h3=>?_
   ·have hno:B1 s=false:=d0t hb (by simpa using h3);exact c1H
   ·refine b08 ?_;exact ⟨(i+1),_,⟨om_,om_,c6d hb hall (by simpa using h3)⟩,tu_,rfl⟩
  ·have hge:s.length<=i:=by
    have:¬ (i:Int) < s.length:=by simpa using h2
    omega
   rw [Y9 hge] at hall;refine a3y ?_;exact ⟨_,j5 rfl tt c6,_,_,rfl,rfl,j4 (by rw [hok hall])⟩
theorem d2D (b:UInt8) (hx:x=inK [1,2,3] b) (hy:y=((b.toNat:Int) == 46)):(x || y)=inK [1,2,3,4] b:=by
 subst hx hy;unfold inK;generalize (b.toNat:Int)=c;have h4:(c == 46)=decide (j9 c=4):=by
  by_cases h:c=46
  ·subst h; rfl
  ·have e:j9 c≠4:=by
    unfold j9
    repeat' split
    all_goals omega
   rw [a3l e];simp [h]
 rw [h4];simp [Bool.or_assoc]
def a1B (long parts:Nat) (u:Str):Bool:=match z8 47 u with
 | []=>false
 | p::ps=>decide (1<=long+p.length) && decide (long+p.length<=24) && p.all (inK [1,2,3,4]) && ps.all a3u && decide (parts+ps.length<=8)
theorem b9O {s:Str} (h:s.length<=80):C1 s=a1B 0 1 s:=by
 unfold C1 a1B;cases hs:z8 47 s with
 | nil=>exact absurd hs (a0c 47 s)
 | cons p ps =>
  have e1:decide ((p::ps).length<=8)=decide (1+ps.length<=8):=by rw [n_7,c3Z]
  rw [e1,a2H h];simp only [List.all_cons,a3u,n_8,b9o];cases decide (1+ps.length<=8) <;> simp
theorem c5B:a1B long parts []=(decide (1<=long) && decide (long<=24) && decide (parts<=8)):=by
 simp [a1B,z8]
theorem b8P (h:long<=24):a1B long parts (47::u)=(decide (1<=long) && a1B 0 (parts+1) u):=by
 unfold a1B;rw [z8,if_pos rfl];cases hs:z8 47 u with
 | nil=>exact absurd hs (a0c 47 u)
 | cons p ps =>
  have e:decide (parts+(p::ps).length<=8)=decide (parts+1+ps.length<=8):=decide_eq_decide.2 K9;simp only [e,List.all_cons,a3u,n_8,I7,a3R,a2H h,List.all_nil,Bool.and_true,b8c]
theorem c83 {b:UInt8} (hb:b≠47) (hk:inK [1,2,3,4] b=true):a1B long parts (b::u)=a1B (long+1) parts u:=by
 unfold a1B;rw [z8,if_neg hb];cases hs:z8 47 u with
 | nil=>exact absurd hs (a0c 47 u)
 | cons p ps =>
  have e:long+(b::p).length=long+1+p.length:=by simp; omega
  simp only [e,List.all_cons,hk,b9o]
theorem c79 {b:UInt8} (hb:b≠47) (hk:inK [1,2,3,4] b=false):a1B long parts (b::u)=false:=by
 unfold a1B;rw [z8,if_neg hb];cases hs:z8 47 u with
 | nil=>exact absurd hs (a0c 47 u)
 | cons p ps=>simp [hk]
theorem c3u (h:24 < long):a1B long parts u=false:=by
 unfold a1B
 split
 ·rfl
 ·rename_i p ps _;have:¬ long+p.length<=24:=by omega
  simp [this]
theorem c5A {s:Str} {b:UInt8} (h:s[i]? = some b):s.drop i=b::s.drop (i+1):=by
 obtain ⟨hlt,rfl⟩:=n_0.1 h;exact Q9 hlt
theorem c8p:(decide ((long:Int) > 0) && decide ((parts:Int)<=8))=(decide (1<=long) && decide (parts<=8)):=by
 have e1:decide ((long:Int) > 0)=decide (1<=long):=decide_eq_decide.2 om_;have e2:decide ((parts:Int)<=8)=decide (parts<=8):=decide_eq_decide.2 om_;rw [e1,e2]
theorem a44 (s:Str) (σ:List c5):b8 CC 61 [(sv s)] σ fun r σ'=>r = .ret (.val (.bool (C1 s)))/\σ'=σ:=by
 refine b8.anyw hCC pu_ pu_ ?_ σ;refine d4 (c4 Tryz.func61 rfl rfl ?_);refine a3C ?_; refine a0w ?_; refine a3c ?_; refine a84 ?_; refine cC (fun h1=>?_) fun h1=>?_
 ·have h80:¬ s.length<=80:=by
   have:(s.length:Int) > 80:=by simpa using h1
   omega
  refine G5 ?_;exact ⟨_,j5 rfl tt c6,_,_,rfl,rfl,j4 (by simp [C1,h80])⟩
 ·have h80:s.length<=80:=by
   have:¬ (s.length:Int) > 80:=by simpa using h1
   omega
  refine z_9 ?_; refine b2y ?_; refine o0 hCC (α:=Nat × Nat × Nat) (fun x=>[(0,(sv s)),(3,(.val (.int .i64 (x.2.1:Int)))),(4,(.val (.int .i64 (x.2.2:Int)))),(5,(.val (.int .i64 (x.1:Int))))]) (fun _=>[]) (fun x=>x.1<=s.length/\x.2.2<=24/\x.2.1<=x.1+1/\C1 s=a1B x.2.2 x.2.1 (s.drop x.1)) (fun x=>s.length - x.1) (0,1,0) ⟨n_3 _,de_,de_,b9O h80⟩ tu_ (extra0:=[]) rfl A1 uz_ ?_; intro ⟨i,parts,long⟩ ⟨hi,hlo,hpa,hrest⟩;dsimp only at hi hlo hpa hrest ⊢;refine b2E ?_; refine cC (fun h2=>?_) fun h2=>?_
  ·have hil:(i:Int) < s.length:=by simpa using h2
   obtain ⟨b,hb⟩:∃ b,s[i]? = some b:=⟨s[i]'om_,si_⟩;rw [c5A hb] at hrest;refine a6K ?_; refine a8o ?_; refine z_4 ?_; refine cY b7o ?_; refine a9M ?_; refine cC (fun h3=>?_) fun h3=>?_
   ·have hb47:b=47:=by
     have h47:(b.toNat:Int)=47:=by simpa using h3
     have h48:(47:UInt8).toNat=47:=rfl;exact b2s.1 om_
    subst hb47;rw [b8P hlo] at hrest;refine a6Y ?_; refine cC (fun h4=>?_) fun h4=>?_
    ·have hl0:long=0:=by
      have:(long:Int)=0:=by simpa using h4
      omega
     subst hl0; refine G5 ?_;exact ⟨_,j5 rfl tt c6,_,_,rfl,rfl,j4 (show false=C1 s by rw [hrest]; rfl)⟩
    ·have hl0:1<=long:=by
      have:¬ (long:Int)=0:=by simpa using h4
      omega
     rw [a2H hl0,b9o] at hrest;refine b1q ?_; refine cY S8 ?_; refine cY I1 ?_; refine z_3 ?_; refine z_1 ?_; refine G9 ?_; refine cC (fun h5=>?_) fun h5=>?_
     ·exfalso;simp at h5
     ·refine b08 ?_;exact ⟨(i+1,parts+1,0),_,⟨do_,do_,do_,do_,hrest⟩,tu_,rfl⟩
   ·have hb47:b≠47:=by
     intro e; subst e;simp at h3
    refine z_4 ?_; refine cY b7o ?_; refine cY (c7 rfl c5K ⟨tt,tt⟩ (a6g b _) rfl) ?_; refine a7Z ?_; refine cG d5F ?_; refine a5K ?_; refine z_2 ?_; refine cC (fun h6=>?_) fun h6=>?_
    ·have hin:inK [1,2,3,4] b=true:=Eq.trans (Eq.symm (d2D b rfl rfl)) h6;rw [c83 hb47 hin] at hrest;refine z_5 ?_; refine cY S8 ?_; refine M9 ?_; refine G9 ?_; refine cC (fun h7=>?_) fun h7=>?_
     ·have hbig:24 < long+1:=by
       have:((long:Int)+1) > 24:=by simpa using h7
       omega
      refine G5 ?_;exact ⟨_,j5 rfl tt c6,_,_,rfl,rfl,j4 (show false=C1 s by rw [hrest,c3u hbig])⟩
     ·have hbig:long+1<=24:=by
       have:¬ ((long:Int)+1) > 24:=by simpa using h7
       omega
      refine b08 ?_;exact ⟨(i+1,parts,long+1),_,⟨do_,do_,hbig,do_,hrest⟩,tu_,rfl⟩
    ·have hin:inK [1,2,3,4] b=false:=Eq.trans (Eq.symm (d2D b rfl rfl)) h6;rw [c79 hb47 hin] at hrest;refine G5 ?_;exact ⟨_,j5 rfl tt c6,_,_,rfl,rfl,j4 (show false=C1 s from hrest.symm)⟩
  ·have hge:s.length<=i:=by
    have:¬ (i:Int) < s.length:=by simpa using h2
    omega
   rw [U5 hge,c5B,a2H hlo,Bool.and_true] at hrest;refine a9I ?_; refine a1b ?_; refine a8F ?_;exact ⟨_,j5 rfl tt c6,_,_,rfl,rfl,j4 (Eq.trans c8p hrest.symm)⟩
structure Ky where
 k:Int
 a:Str
 b:Str
deriving DecidableEq
variable {a:Nat}
abbrev Ky.cells (x:Ky):List CV:=[.val (.int .i64 x.k),sv x.a,sv x.b]
def Ky.cv (x:Ky):List CV:=x.cells
theorem a45 (l:List Ky) (nn:Bool):p9 (.list (l.map Ky.cv) nn none):=M3 (f:=Ky.cv) (fun _=>⟨.val _,.val _,.val _,tt⟩) l nn
theorem c8f (n:Nat) (l:List Ky) (nn:Bool):Old n (.list (l.map Ky.cv) nn none):=(a45 l nn).old
theorem d0H (n:Nat) (x:Ky):F5 n (.box x.cells):=s8 ⟨.val _,.val _,.val _,tt⟩
def a0J (x:Ky):Bool :=
 if (x.k == 1 || x.k == 2)=true then B1 x.a && B1 x.b else if (x.k == 3 || x.k == 4)=true then C1 x.a && decide (x.b=[]) else if (x.k == 5 || x.k == 6 || x.k == 7)=true then B1 x.a && decide (x.b=[]) else false
theorem b8W (x:Ky) (ha:x.a.length<=1000000000) (hb0:x.b.length<=1000000000) (σ:List c5):b8 CC 59 [.agg x.cells] σ fun r σ'=>r = .ret (.val (.bool (a0J x)))/\σ'=σ:=by
 refine b8.anyw hCC pu_ pu_ ?_ σ;refine d4 (c4 Tryz.func59 rfl rfl ?_);refine a7h ?_; refine d2b ?_; refine a5q ?_; refine W7 hCC (α:=Bool) (fun b=>[(1,.ptr 0 0),(4,(.val (.int .i64 x.k))),(5,(.val (.bool b)))]) (fun _=>[.box x.cells]) (fun b=>b=(x.k == 1 || x.k == 2)) A1 uz_ ?_ ?_
 ·
  refine K1 ?_; refine cC (fun h1=>?_) fun h1=>?_
  ·refine i8 ?_;exact ⟨(x.k == 1),_,(by simp_all),tu_,rfl⟩
  ·refine a5E ?_;exact ⟨(x.k == 2),_,(by simp_all),tu_,rfl⟩
 ·intro b hb; refine cC (fun h2=>?_) fun h2=>?_
  ·refine z_0 ?_; refine b58 ?_; refine cY c0K ?_; refine b5q ?_; refine cG (fun hg=>c7 rfl c2V ⟨hg,tt⟩ (a1i x.b om_ _) rfl) ?_; refine a6Q ?_;exact ⟨_,j5 rfl tt c6,_,_,rfl,rfl,j4 (show (B1 x.a && B1 x.b)=a0J x by simp_all [a0J])⟩
  ·refine W7 hCC (α:=Bool) (fun b=>[(1,.ptr 0 0),(4,(.val (.int .i64 x.k))),(16,(.val (.bool b)))]) (fun _=>[.box x.cells]) (fun b=>b=(x.k == 3 || x.k == 4)) A1 uz_ ?_ ?_
   ·
    refine K1 ?_; refine cC (fun h3=>?_) fun h3=>?_
    ·refine i8 ?_;exact ⟨(x.k == 3),_,(by simp_all),tu_,rfl⟩
    ·refine a5E ?_;exact ⟨(x.k == 4),_,(by simp_all),tu_,rfl⟩
   ·intro b2 hb2; refine cC (fun h4=>?_) fun h4=>?_
    ·refine z_0 ?_; refine b58 ?_; refine cY (c7 rfl c3i ⟨tt,tt⟩ (a1k x.a om_ _) rfl) ?_; refine b5q ?_; refine cG a5F ?_; refine a6Q ?_;exact ⟨_,j5 rfl tt c6,_,_,rfl,rfl,j4 (show (C1 x.a && decide (x.b=[]))=a0J x by simp_all [a0J])⟩
    ·refine w8 ?_; refine K1 ?_; refine cC (fun h5=>?_) fun h5=>?_
     ·refine i8 ?_; refine cC (fun h6=>?_) fun h6=>?_
      ·refine z_0 ?_; refine b58 ?_; refine cY c0K ?_; refine b5q ?_; refine cG a5F ?_;exact c6u
      ·refine i8 ?_; refine G5 ?_;exact ⟨_,j5 rfl tt c6,_,_,rfl,rfl,j4 (show false=a0J x by simp_all)⟩
     ·refine K1 ?_; refine cC (fun h7=>?_) fun h7=>?_
      ·refine i8 ?_; refine cC (fun h8=>?_) fun h8=>?_
       ·refine z_0 ?_; refine b58 ?_; refine cY c0K ?_; refine b5q ?_; refine cG a5F ?_;exact c6u
       ·refine i8 ?_; refine G5 ?_;exact ⟨_,j5 rfl tt c6,_,_,rfl,rfl,j4 (show false=a0J x by simp_all)⟩
      ·refine a5E ?_; refine cC (fun h9=>?_) fun h9=>?_
       ·refine z_0 ?_; refine b58 ?_; refine cY c0K ?_; refine b5q ?_; refine cG a5F ?_;exact c6u
       ·refine i8 ?_;exact c7X
def b7H (v n:Int):Int:=if n<=1 then 0 else v%n
theorem b4D {n:Int} (hn:1<=n):0<=b7H v n/\b7H v n < n:=by
 unfold b7H
 split
 ·omega
 ·exact ⟨Int.emod_nonneg _ om_,Int.emod_lt_of_pos _ om_⟩
def b6A (l:List Int) (at_:Nat):Int:=(l[at_]?).getD ((at_:Int)*7%11)
def O9 (l:List Int) (at_:Nat) (n:Int):Int:=b7H (b6A l at_) n
abbrev p8 (l:List Int) (nn:Bool) (at_:Nat):c5:=.box [.list (l.map icv) nn none,.val (.int .i64 at_)]
theorem D8 (l:List Int) (nn:Bool) (k:Nat):b0P (p8 l nn k):=S2.all ⟨a0l _ _,.val _,tt⟩
theorem b3f (v n:Int) (hn:n<=4611686018427387904) (σ:List c5):b8 CC 60 [(.val (.int .i64 v)),(.val (.int .i64 n))] σ fun r σ'=>r = .ret (.val (.int .i64 (b7H v n)))/\σ'=σ:=by
 refine b8.anyw hCC pu_ pu_ ?_ σ;refine d4 (c4 Tryz.func60 rfl rfl ?_);refine a04 ?_; refine G9 ?_; refine cC (fun h1=>?_) fun h1=>?_
 ·have hn1:n<=1:=by simpa using h1
  refine G5 ?_;exact ⟨_,j5 rfl tt c6,_,_,rfl,rfl,H6 (by rw [b7H,if_pos hn1])⟩
 ·have hn1:¬ n<=1:=by simpa using h1
  have ht:v.tmod n=v%n\/v.tmod n+n=v%n/\v.tmod n < 0:=by
   rcases Int.le_total 0 v with hv | hv
   ·exact .inl (Int.tmod_eq_emod_of_nonneg hv)
   ·rw [Int.tmod_eq_emod]; split
    ·exact .inl om_
    ·right; have:=Int.emod_lt_of_pos v (show 0 < n by omega); have h5:(n.natAbs:Int)=n:=by omega
     omega
  have hm1:=Int.emod_nonneg v (show n≠0 by omega);have hm2:=Int.emod_lt_of_pos v (show 0 < n by omega);have hm3:=Int.tmod_lt_of_pos v (show 0 < n by omega);have hm4 : -n<=v.tmod n:=by omega
  refine a8Y ?_; refine cY (a2E rfl tt tt rfl rfl (c5s om_)) ?_; refine a5H ?_; refine cC (fun h2=>?_) fun h2=>?_
  ·have hlt:v.tmod n < 0:=by simpa using h2
   refine R7 ?_; refine cY a5S ?_; refine M9 ?_; refine z_7 ?_;exact ⟨_,j5 rfl tt c6,_,_,rfl,rfl,H6 (by rw [b7H,if_neg hn1]; omega)⟩
  ·have hlt:¬ v.tmod n < 0:=by simpa using h2
   refine a05 ?_; refine z_7 ?_;exact ⟨_,j5 rfl tt c6,_,_,rfl,rfl,H6 (by rw [b7H,if_neg hn1]; omega)⟩
theorem K2 (l:List Int) (nn:Bool) (k:Nat) (σ:List c5) (q:Nat) (hk:σ[q]? = some (p8 l nn k)) (hat:k<=1000000000) (hl:l.length<=maxLen) (n:Int) (hn:n<=4611686018427387904):b8 CC 20 [.ptr q 0,.val (.int .i64 n)] σ fun r σ'=>∃ _:Unit,r = .ret (.val (.int .i64 (O9 l k n)))/\σ'=σ.set q (p8 l nn (k+1))/\True:=by
 have hl1:=hl;unfold maxLen at hl1;unfold p8 at hk;have hq:q < σ.length:=(n_0.1 hk).1;refine (c4 Tryz.func20 rfl rfl ?_);refine z_6 ?_; refine a4R ?_; refine cY b2H ?_; refine cY b7z ?_; refine cY (b54 rfl tt rfl rfl rfl om_ om_) ?_; refine cY (a2E rfl tt rfl rfl rfl (b9k om_ om_)) ?_; refine z_2 ?_; refine b3s ?_; refine B4 10 [0,1,3,7,0,16,48,112,240,511] d5 d5 rfl ?_; refine a5r ?_; refine hY b2H ?_; refine hY b7z ?_; refine a5r ?_; refine d2r ?_; refine hY a7l ?_; refine hY a2B ?_; refine a6T ?_; refine cC (fun h1=>?_) fun h1=>?_
 ·have hlt:(k:Int) < l.length:=by simpa using h1
  obtain ⟨v,hv⟩:∃ v,l[k]? = some v:=⟨l[k]'om_,si_⟩;refine B4 11 [0,1,3,7,0,16,48,112,255,511,1023] d5 d5 rfl ?_; refine a5r ?_; refine d2r ?_; refine a5r ?_; refine hY b2H ?_; refine hY b7z ?_; refine hY (t6 rfl tt tt rfl rfl t_5 t_1 om_ (j8 hv) rfl) ?_; refine hY a3D ?_; refine b2M ?_; refine b48 ?_; refine cY b2H ?_; refine cY b7z ?_; refine d3M ?_; refine d1g ?_; refine a4s ?_; refine cY (c7 rfl Tryz.call60 j1 (b3f v n hn _) rfl) ?_; refine z_7 ?_;exact ⟨_,j5 rfl tt c6,⟨(),by rw [O9,b6A,hv]; rfl,rfl,tt⟩⟩
 ·have hge:¬ (k:Int) < l.length:=by simpa using h1
  have hv:l[k]? = none:=b9h om_;refine a5X ?_; refine cY b2H ?_; refine cY b7z ?_; refine d3M ?_; refine d1g ?_; refine a4s ?_; refine cY (c7 rfl Tryz.call60 j1 (b3f _ n hn _) rfl) ?_; refine z_7 ?_;exact ⟨_,j5 rfl tt c6,⟨(),by rw [O9,b6A,hv]; rfl,rfl,tt⟩⟩
theorem H8 (l:List Int) (nn:Bool) (k:Nat) (σ:List c5) (q:Nat) (hk:σ[q]? = some (p8 l nn k)) (hat:k<=1000000000) (hl:l.length<=maxLen) (n m:Int) (hn:m<=4611686018427387904):b8 CC 12 [.ptr q 0,.val (.int .i64 n),.val (.int .i64 m)] σ fun r σ'=>∃ _:Unit,r = .ret (.val (.bool (decide (O9 l k m < n))))/\σ'=σ.set q (p8 l nn (k+1))/\True:=by
 refine (c4 Tryz.func12 rfl rfl ?_);refine a2U ?_;refine cD (b9 rfl a76 j1 (K2 l nn k σ q hk hat hl m hn) rfl ?_);intro _ _; refine cY j7 ?_; refine cY a2B ?_; refine z_7 ?_;exact ⟨_,j5 rfl tt c6,⟨(),rfl,rfl,tt⟩⟩
theorem a5b (l:List Int) (nn:Bool) (k:Nat) (σ:List c5) (q:Nat) (hk:σ[q]? = some (p8 l nn k)) (hat:k<=1000000000) (hl:l.length<=maxLen) (ls:List Int) (hls:ls≠[]) (hln:ls.length<=1000):b8 CC 51 [.ptr q 0,.list (ls.map icv) true none] σ fun r σ'=>∃ v:Int,r = .ret (.val (.int .i64 v))/\σ'=σ.set q (p8 l nn (k+1))/\v∈ls:=by
 have hpos:=b13.2 hls;have hb:=b4D (v:=b6A l k) (n:=(ls.length:Int)) om_;obtain ⟨v,hv⟩:∃ v,ls[(O9 l k (ls.length:Int)).toNat]? = some v:=⟨ls[(O9 l k (ls.length:Int)).toNat]'(by unfold O9; omega),si_⟩;have hb':0<=O9 l k (ls.length:Int):=hb.1;refine (c4 Tryz.func51 rfl rfl ?_);refine a04 ?_; refine cY a7l ?_; refine G9 ?_; refine cC (fun h1=>?_) fun h1=>?_
 ·exfalso;simp at h1;exact hls h1
 ·refine a5C ?_; refine cY a7l ?_;refine cD (b9 rfl a76 j1 (K2 l nn k σ q hk hat hl (ls.length:Int) om_) rfl ?_);intro _ _; refine cY (t6 rfl tt tt rfl rfl t_5 t_1 om_ (j8 hv) rfl) ?_; refine cY a3D ?_;exact d04
theorem J0 (l:List Int) (nn:Bool) (k:Nat) (σ:List c5) (q:Nat) (hk:σ[q]? = some (p8 l nn k)) (hat:k<=1000000000) (hl:l.length<=maxLen) (ls:List Str) (hls:ls≠[]) (hln:ls.length<=1000):b8 CC 19 [.ptr q 0,.list (ls.map scv) true none] σ fun r σ'=>∃ v:Str,r = .ret (sv v)/\σ'=σ.set q (p8 l nn (k+1))/\v∈ls:=by
 have hpos:=b13.2 hls;have hb:=b4D (v:=b6A l k) (n:=(ls.length:Int)) om_;obtain ⟨v,hv⟩:∃ v,ls[(O9 l k (ls.length:Int)).toNat]? = some v:=⟨ls[(O9 l k (ls.length:Int)).toNat]'(by unfold O9; omega),si_⟩;have hb':0<=O9 l k (ls.length:Int):=hb.1;refine (c4 Tryz.func19 rfl rfl ?_);refine a04 ?_; refine a7B ?_; refine cC (fun h1=>?_) fun h1=>?_
 ·exfalso;simp at h1;exact hls h1
 ·refine a5C ?_; refine cY a4N ?_;refine cD (b9 rfl a76 j1 (K2 l nn k σ q hk hat hl (ls.length:Int) om_) rfl ?_);intro _ _; refine cY (t6 rfl tt tt rfl rfl t_2 t_0 om_ (j8 hv) rfl) ?_; refine cY a0T ?_;exact d04
def U0:List Str:=([[112],[113],[115]]:List Str)
theorem a5R  (σ:List c5):b8 CC 69 [] σ fun r σ'=>r = .ret (.list (U0.map scv) true none)/\σ'=σ:=by
 refine b8.anyw hCC pu_ pu_ ?_ σ;refine d4 (c4 Tryz.func69 rfl rfl ?_);refine a3C ?_; refine cY (A3 (U0.map scv) rfl ⟨rfl,rfl,rfl,tt⟩ t_2 t_0 t_3 rfl rfl rfl rfl rfl rfl rfl rfl rfl) ?_;exact c5d
def V6:List Str:=([[102],[103],[104],[107]]:List Str)
theorem b1b  (σ:List c5):b8 CC 29 [] σ fun r σ'=>r = .ret (.list (V6.map scv) true none)/\σ'=σ:=by
 refine b8.anyw hCC pu_ pu_ ?_ σ;refine d4 (c4 Tryz.func29 rfl rfl ?_);refine a3C ?_; refine cY (A3 (V6.map scv) rfl ⟨rfl,rfl,rfl,rfl,tt⟩ t_2 t_0 t_3 rfl rfl rfl rfl rfl rfl rfl rfl rfl) ?_;exact c5d
def a42:List Str:=([[116],[117],[118]]:List Str)
theorem b8Y  (σ:List c5):b8 CC 82 [] σ fun r σ'=>r = .ret (.list (a42.map scv) true none)/\σ'=σ:=by
 refine b8.anyw hCC pu_ pu_ ?_ σ;refine d4 (c4 Tryz.func82 rfl rfl ?_);refine a3C ?_; refine cY (A3 (a42.map scv) rfl ⟨rfl,rfl,rfl,tt⟩ t_2 t_0 t_3 rfl rfl rfl rfl rfl rfl rfl rfl rfl) ?_;exact c5d
def a1l:List Str:=([[97,46,100,97,116],[100,47,98,46,100,97,116],[99],[97,46,115,114,99],[120,46,115,114,99]]:List Str)
theorem b9f  (σ:List c5):b8 CC 83 [] σ fun r σ'=>r = .ret (.list (a1l.map scv) true none)/\σ'=σ:=by
 refine b8.anyw hCC pu_ pu_ ?_ σ;refine d4 (c4 Tryz.func83 rfl rfl ?_);refine a3C ?_; refine cY (A3 (a1l.map scv) rfl ⟨rfl,rfl,rfl,rfl,rfl,tt⟩ t_2 t_0 t_3 rfl rfl rfl rfl rfl rfl rfl rfl rfl) ?_;exact c5d
def a0p:List Str:=([[110],[109]]:List Str)
theorem b05  (σ:List c5):b8 CC 84 [] σ fun r σ'=>r = .ret (.list (a0p.map scv) true none)/\σ'=σ:=by
 refine b8.anyw hCC pu_ pu_ ?_ σ;refine d4 (c4 Tryz.func84 rfl rfl ?_);refine a3C ?_; refine cY (A3 (a0p.map scv) rfl ⟨rfl,rfl,tt⟩ t_2 t_0 t_3 rfl rfl rfl rfl rfl rfl rfl rfl rfl) ?_;exact c5d
theorem P0 {v:Str} (h:v∈U0\/v∈V6\/v∈a42\/v∈a1l\/v∈a0p):v.length<=8:=by
 rcases h with h | h | h | h | h <;> revert v <;> decide
def sub (s:Str) (a e:Nat):Str:=(s.take e).drop a
theorem c0m {s:Str} {e:Nat} (h:e<=s.length):(sub s a e).length=e - a:=by simp [sub]; omega
def preB (p s:Str):Bool:=p.isPrefixOf s
def b8G (p s:Str):Bool:=decide (p.length<=s.length) && decide (s.drop (s.length - p.length)=p)
theorem d3c (s p:Str) (hx:x=decide ((s.length:Int)>=p.length)) (hy:x=true->y=decide ((s.take p.length).drop 0=p)):(x && y)=preB p s:=by
 subst hx;by_cases h:(s.length:Int)>=p.length
 ·rw [hy (a2H h),a2H h,b9o,b0H,preB];by_cases h2:s.take p.length=p
  ·have:p.isPrefixOf s=true:=by rw [b5K]; exact ⟨s.drop p.length,by rw [show p++s.drop p.length=s.take p.length++s.drop p.length by rw [h2]]; exact List.take_append_drop _ _⟩
   simp [h2,this]
  ·have:p.isPrefixOf s=false:=by
    cases hq:p.isPrefixOf s with
    | false=>rfl
    | true =>
     rw [b5K] at hq;obtain ⟨t,rfl⟩:=hq;exact absurd (List.take_left' rfl) h2
   simp [h2,this]
 ·have:p.isPrefixOf s=false:=by
   cases hq:p.isPrefixOf s with
   | false=>rfl
   | true =>
    rw [b5K] at hq;obtain ⟨t,rfl⟩:=hq;exfalso; apply h; simp; omega
  rw [preB,this,a3l h]; rfl
theorem d28 (s p:Str) (hx:x=decide ((s.length:Int)>=p.length)) (hy:x=true->y=decide ((s.take s.length).drop (s.length - p.length)=p)):(x && y)=b8G p s:=by
 subst hx;unfold b8G;by_cases h:(s.length:Int)>=p.length
 ·rw [hy (a2H h),a2H h,b1E,a2H (show p.length<=s.length by omega)]
 ·rw [a3l h,a3l (show ¬ p.length<=s.length by omega)]; rfl
theorem b1O (s p:Str) (σ:List c5):b8 CC 275 [(sv s),(sv p)] σ fun r σ'=>r = .ret (.val (.bool (preB p s)))/\σ'=σ:=by
 refine b8.anyw hCC pu_ pu_ ?_ σ;refine d4 (c4 Tryz.func275 rfl rfl ?_);refine a1T ?_; refine b2O ?_; refine cY V4 ?_; refine c4m ?_; refine cG a3G ?_; refine cG (fun hg=>G8 (h:=p.length) rfl hg rfl t_4 rfl ⟨hg,_,_,rfl,by first|omega|(simp at hg; omega),by first|omega|(simp at hg; omega)⟩ om_ (by simp at hg; omega)) ?_; refine b7r ?_; refine a6Q ?_;exact ⟨_,j5 rfl tt c6,_,_,rfl,rfl,j4 (d3c s p rfl fun _=>rfl)⟩
theorem a5j (s p:Str) (σ:List c5):b8 CC 234 [(sv s),(sv p)] σ fun r σ'=>r = .ret (.val (.bool (preB p s)))/\σ'=σ:=by
 refine b8.anyw hCC pu_ pu_ ?_ σ;refine d4 (c4 Tryz.func234 rfl rfl ?_);refine a2U ?_; refine cY (c7 rfl Tryz.call275 j1 (b1O s p _) rfl) ?_;exact c4o
theorem a92 (s p:Str) (hs:s.length<=1000000000000) (hp:p.length<=1000000000000) (σ:List c5):b8 CC 188 [(sv s),(sv p)] σ fun r σ'=>r = .ret (.val (.bool (b8G p s)))/\σ'=σ:=by
 refine b8.anyw hCC pu_ pu_ ?_ σ;refine d4 (c4 Tryz.func188 rfl rfl ?_);refine a1T ?_; refine b2O ?_; refine cY V4 ?_; refine c4m ?_; refine cG a3G ?_; refine cG Y6 ?_; refine cG a3G ?_; refine cG (fun hg=>a63 rfl hg hg rfl rfl a90 a90) ?_; refine cG (fun hg=>G8 (a:=(s.length - p.length)) rfl hg rfl t_4 ⟨hg,_,_,rfl,by first|omega|(simp at hg; omega),by first|omega|(simp at hg; omega)⟩ rfl (by simp at hg; omega) (n_4 _)) ?_; refine b7r ?_; refine a6Q ?_;exact ⟨_,j5 rfl tt c6,_,_,rfl,rfl,j4 (d28 s p rfl fun _=>rfl)⟩
theorem a5n (s p:Str) (hs:s.length<=1000000000000) (hp:p.length<=1000000000000) (σ:List c5):b8 CC 152 [(sv s),(sv p)] σ fun r σ'=>r = .ret (.val (.bool (b8G p s)))/\σ'=σ:=by
 refine b8.anyw hCC pu_ pu_ ?_ σ;refine d4 (c4 Tryz.func152 rfl rfl ?_);refine a2U ?_; refine cY (c7 rfl Tryz.call188 j1 (a92 s p hs hp _) rfl) ?_;exact c4o
theorem b8U {s:Str} {e:Nat} (h:e < s.length):s[e]? = some (s[e]?.getD 0):=by simp [h]
theorem c0E {p s:Str} (h:preB p s=true):p.length<=s.length:=by
 unfold preB at h;rw [b5K] at h;exact h.length_le
structure Tok where
 k:Int
 t:Str
 n:Int
 at_:Int
variable {T:List Tok} {t:Tok}
abbrev Tok.cells (x:Tok):List CV:=[.val (.int .i64 x.k),sv x.t,.val (.int .i64 x.n),.val (.int .i64 x.at_)]
def Tok.cv (x:Tok):List CV:=x.cells
theorem a2w (l:List Tok) (nn:Bool):p9 (.list (l.map Tok.cv) nn none):=M3 (f:=Tok.cv) (fun _=>⟨.val _,.val _,.val _,.val _,tt⟩) l nn
theorem S7 (n:Nat) (l:List Tok) (nn:Bool):Old n (.list (l.map Tok.cv) nn none):=(a2w l nn).old
def a3M (l:Str):Int:=l.foldl (fun n b=>min (10*n+((b.toNat:Int) - 48)) 9007199254740993) 0
def a3e:Str->Option Nat
 | []=>none
 | b::l=>if 32<=b.toNat/\b.toNat<=126 then (if b.toNat=34 then some 0 else (a3e l).map (· + 1)) else none
def A7 (s:Str) (a:Nat) (b:UInt8):Tok × Int × Int :=
 if j9 b.toNat=1 then
  (if 24 < r4 s a [1,2,3] - a then (⟨0,[],0,0⟩,0,2) else (⟨1,sub s a (r4 s a [1,2,3]),0,0⟩,r4 s a [1,2,3],0))
 else if j9 b.toNat=2 then
  (if 9007199254740992 < a3M (sub s a (r4 s a [2])) then (⟨0,[],0,0⟩,0,3) else (⟨2,[],a3M (sub s a (r4 s a [2])),0⟩,r4 s a [2],0))
 else if j9 b.toNat=7 then
  (match a3e (s.drop (a+1)) with
   | none=>(⟨0,[],0,0⟩,0,9)
   | some n=>(⟨3,sub s (a+1) (a+1+n),0,0⟩,a+1+n+1,0))
 else if j9 b.toNat=8 then
  (if preB [61,61] (s.drop a)=true then (⟨4,sub s a (a+2),0,0⟩,a+2,0) else (⟨4,sub s a (a+1),0,0⟩,a+1,0))
 else (⟨0,[],0,0⟩,0,9)
theorem a2J {s:Str} {e:Nat} {b:UInt8} (h:s[e]? = some b):a3e (s.drop e)=if 32<=b.toNat/\b.toNat<=126 then (if b.toNat=34 then some 0 else (a3e (s.drop (e+1))).map (· + 1)) else none:=by
 obtain ⟨hlt,rfl⟩:=n_0.1 h;rw [Q9 hlt]; rfl
theorem b2P {s:Str} {e:Nat} (h:s.length<=e):a3e (s.drop e)=none:=by rw [U5 h]; rfl
theorem c3Y {l:Str} {b:UInt8} (h:l[j]? = some b):a3M (l.take (j+1))=min (10*a3M (l.take j)+((b.toNat:Int) - 48)) 9007199254740993:=by
 obtain ⟨hlt,rfl⟩:=n_0.1 h;rw [<- b22 hlt,a3M,List.foldl_append];rfl
theorem b27 {l:Str} (h:∀ b∈l,48<=b.toNat/\b.toNat<=57):0<=a3M l/\a3M l<=9007199254740993:=by
 unfold a3M
 suffices ∀ (l:Str) (n:Int),0<=n->n<=9007199254740993->(∀ b∈l,48<=b.toNat/\b.toNat<=57)->0<=l.foldl (fun n b=>min (10*n+((b.toNat:Int) - 48)) 9007199254740993) n/\l.foldl (fun n b=>min (10*n+((b.toNat:Int) - 48)) 9007199254740993) n<=9007199254740993 from this l 0 om_ om_ h
 intro l
 induction l with
 | nil=>intro n h0 h1 _; exact ⟨h0,h1⟩
 | cons b l ih =>
  intro n h0 h1 h;have hb:=h b si_;exact ih (min (10*n+((b.toNat:Int) - 48)) 9007199254740993) om_ om_ fun c hc=>h c (by simp [hc])
theorem a4e {b:UInt8}:j9 b.toNat=2↔48<=b.toNat/\b.toNat<=57:=by
 unfold j9;constructor
 ·intro h;split at h
  ·omega
  ·split at h
   ·omega
   ·exfalso; revert h; repeat' split
    all_goals omega
 ·intro h;rw [if_neg om_,if_pos om_]
theorem d5v {c:Nat} (h:48<=c/\c<=57):IntKind.i64.wrap (IntKind.u8.wrap ((c:Int) - 48))=(c:Int) - 48:=by
 obtain ⟨h1,h2⟩:=h;simp [IntKind.wrap,IntKind.bits,IntKind.signed];omega
theorem a1G {p:UInt8->Bool} {b:UInt8}:∀ {l:Str},b∈l.takeWhile p->p b=true
 | [],h=>by simp at h
 | c::l,h=>by
  rw [b6v] at h;split at h
  ·rename_i hc
   rcases Q2.1 h with rfl | h
   ·exact hc
   ·exact a1G h
  ·simp at h
theorem b3H {s:Str}:∀ b∈sub s a (r4 s a [2]),48<=b.toNat/\b.toNat<=57:=by
 intro b hb;have e:sub s a (r4 s a [2])=(s.drop a).takeWhile (inK [2]):=by
  unfold sub r4;rw [List.drop_take,b68];have h:=List.takeWhile_prefix (inK [2]) (l:=s.drop a);exact (List.prefix_iff_eq_take.1 h).symm
 rw [e] at hb;have:=a1G hb;simp [inK] at this;exact a4e.1 this
theorem c3W (s:Str) (a:Nat) (b:UInt8) (hb:s[a]? = some b) (m:List (Int × Int)) (hm:KM m) (hs:s.length<=1000000000000):b8 CC 190 [(sv s),(.val (.int .i64 (a:Int))),.map 0] [c5.map (gm kb kv m)] fun r τ=>∃ _:Unit,a08 [c5.map (gm kb kv m)].length τ r (.ret (.tup [.agg (A7 s a b).1.cells,(.val (.int .i64 ((A7 s a b).2.1))),(.val (.int .i64 ((A7 s a b).2.2)))]))/\b0A [c5.map (gm kb kv m)].length τ τ [c5.map (gm kb kv m)]/\[c5.map (gm kb kv m)].length<=[c5.map (gm kb kv m)].length/\True:=by
 have hal:=(n_0.1 hb).1;refine (c4 Tryz.func190 rfl rfl ?_);refine b1P ?_; refine a0w ?_; refine w8 ?_; refine a0n ?_; refine cY b7o ?_; refine cY d5E ?_; refine a8R ?_; refine cC (fun h1=>?_) fun h1=>?_
 ·have hk1:j9 b.toNat=1:=by rw [<- hm]; simpa using h1
  have hsp:=a0K (ks:=[1,2,3]) (show a<=s.length by omega);refine a0n ?_; refine cY (A3 ([1,2,3].map icv) rfl ⟨rfl,rfl,rfl,tt⟩ t_5 t_1 t_6 rfl rfl rfl rfl rfl rfl rfl rfl rfl) ?_; refine cY (c7 rfl c4r a5Q (a6F hm om_ hs de_ rfl) rfl) ?_; refine z_2 ?_; refine a6H ?_; refine cY (a63 rfl tt tt rfl rfl om_ om_) ?_; refine G9 ?_; refine cC (fun h2=>?_) fun h2=>?_
  ·have hn:24 < r4 s a [1,2,3] - a:=by simp at h2; omega
   refine z_0 ?_; refine cY d0a ?_; refine b5W ?_; refine a6e ?_;exact ⟨_,l9 (rs:=[.cell 6 231,.tmp 7,.tmp 8]) (cs:=[_,_,_]) rfl b1j (n_2 rfl),⟨(),.ret (a1z (by rw [A7,if_pos hk1,if_pos hn]; rfl) pu_),⟨.same (U7 _ _),tt⟩,n_4 _,tt⟩⟩
  ·have hn:¬ 24 < r4 s a [1,2,3] - a:=by simp at h2; omega
   refine a5C ?_; refine cY (G8 (a:=a) (h:=(r4 s a [1,2,3])) rfl tt rfl t_4 b0p b0p om_ om_) ?_; refine cY b8s ?_; refine b3G ?_; refine a6e ?_;exact ⟨_,l9 (rs:=[.cell 6 231,.tmp 7,.tmp 8]) (cs:=[_,_,_]) rfl b1j (n_2 rfl),⟨(),.ret (a1z (by rw [A7,if_pos hk1,if_neg hn]; rfl) pu_),⟨.same (U7 _ _),tt⟩,n_4 _,tt⟩⟩
 ·have hk1:¬ j9 b.toNat=1:=by rw [<- hm]; simpa using h1
  refine K1 ?_; refine cC (fun h3=>?_) fun h3=>?_
  ·have hk2:j9 b.toNat=2:=by rw [<- hm]; simpa using h3
   have hsp:=a0K (ks:=[2]) (show a<=s.length by omega);have hdg:=b3H (s:=s) (a:=a);have hln:=c0m (a:=a) hsp.2;generalize hl:sub s a (r4 s a [2])=ds at hdg hln;refine a0n ?_; refine cY (A3 ([2].map icv) rfl ⟨rfl,tt⟩ t_5 t_1 t_6 rfl rfl rfl rfl rfl rfl rfl rfl rfl) ?_; refine cY (c7 rfl c4r a5Q (a6F hm om_ hs de_ rfl) rfl) ?_; refine z_2 ?_; refine z_6 ?_; refine w8 ?_; refine a0n ?_; refine cY (G8 (a:=a) (h:=(r4 s a [2])) rfl tt rfl t_4 b0p b0p om_ om_) ?_; refine cY (d2e rfl tt rfl t_4 t_7 b4S (by have:=c0m (a:=a) hsp.2; unfold sub at this; omega)) ?_; refine cY a9d ?_; refine a1n ?_; refine o0 hCC (α:=Nat) (fun j=>[(6,.ptr 1 0),(10,(.val (.int .i64 (r4 s a [2]:Int)))),(11,(.val (.int .i64 (a3M (ds.take j))))),(50,(.list (ds.map bcv) true none)),(51,(.val (.int .i64 (ds.length:Int)))),(52,(.val (.int .i64 (j:Int))))]) (fun _=>[c5.map (gm kb kv m),.box (Tok.cells ⟨0,[],0,0⟩)]) (fun j=>j<=ds.length) (fun j=>ds.length - j) 0 (n_3 _) ⟨B0,B0,B0,⟨tt,(by rw [<- hl]; rfl)⟩,⟨tt,(by rw [<- hl]; rfl)⟩,B0,tt⟩ (extra0:=[]) rfl A1 uz_ ?_; intro j hj; refine F2 ?_; refine cC (fun h4=>?_) fun h4=>?_
   ·have hjl:(j:Int) < ds.length:=by simpa using h4
    obtain ⟨c,hc⟩:∃ c,ds[j]? = some c:=⟨ds[j]'om_,si_⟩;have hcd:=hdg c (n_1 hc);have hnb:=b27 (l:=ds.take j) fun c hc=>hdg c (a8s hc);refine a1O ?_; refine cY (t6 rfl tt tt rfl rfl t_7 a25 om_ (j8 hc) rfl) ?_; refine cY (T9 rfl tt rfl c6N rfl) ?_; refine a8x ?_; refine cY (b54 rfl rfl tt rfl rfl om_ om_) ?_; refine cY j7 ?_; refine cY P1 ?_; refine cY (b1x rfl tt rfl b4S c1D (show IntKind.i64.wrap (IntKind.u8.wrap ((c.toNat:Int) - 48))=(c.toNat:Int) - 48 from d5v hcd)) ?_; refine cY a5S ?_; refine cY (d2d rfl tt rfl rfl rfl) ?_; refine a8G ?_;exact ⟨(j+1),_,⟨om_,om_⟩,⟨B0,B0,⟨tt,(congrArg (fun z:Int=>CV.val (.int .i64 z)) (c3Y hc).symm)⟩,B0,B0,B0,tt⟩,rfl⟩
   ·have hjl:ds.length<=j:=by
     have:¬ (j:Int) < ds.length:=by simpa using h4
     omega
    rw [Y9 hjl] at *;refine z6 ?_; refine a6Y ?_; refine cC (fun h5=>?_) fun h5=>?_
    ·have hn:9007199254740992 < a3M (sub s a (r4 s a [2])):=by rw [hl]; simpa using h5
     refine z_0 ?_; refine cY d0a ?_; refine b5W ?_; refine a6e ?_;exact ⟨_,l9 (rs:=[.cell 6 231,.tmp 7,.tmp 8]) (cs:=[_,_,_]) rfl b1j (n_2 rfl),⟨(),.ret (a1z (by rw [A7,if_neg hk1,if_pos hk2,if_pos hn]; rfl) pu_),⟨.same (U7 _ _),tt⟩,n_4 _,tt⟩⟩
    ·have hn:¬ 9007199254740992 < a3M (sub s a (r4 s a [2])):=by rw [hl]; simpa using h5
     refine a05 ?_; refine cY b8s ?_; refine b3G ?_; refine a6e ?_;exact ⟨_,l9 (rs:=[.cell 6 231,.tmp 7,.tmp 8]) (cs:=[_,_,_]) rfl b1j (n_2 rfl),⟨(),.ret (a1z (by rw [A7,if_neg hk1,if_pos hk2,if_neg hn,hl]; rfl) pu_),⟨.same (U7 _ _),tt⟩,n_4 _,tt⟩⟩
  ·have hk2:¬ j9 b.toNat=2:=by rw [<- hm]; simpa using h3
   refine K1 ?_; refine cC (fun h6=>?_) fun h6=>?_
   ·have hk7:j9 b.toNat=7:=by rw [<- hm]; simpa using h6
    refine a3c ?_; refine c8u ?_; refine B7 ?_; refine o0 hCC (α:=Nat) (fun e=>[(0,(sv s)),(1,(.val (.int .i64 (a:Int)))),(6,.ptr 1 0),(14,(.val (.int .i64 (e:Int))))]) (fun _=>[c5.map (gm kb kv m),.box (Tok.cells ⟨0,[],0,0⟩)]) (fun e=>a+1<=e/\e<=s.length/\a3e (s.drop (a+1))=(a3e (s.drop e)).map (· + (e - (a+1)))) (fun e=>s.length - e) (a+1) ⟨n_4 _,om_,by cases a3e (s.drop (a+1)) <;> simp⟩ tu_ (extra0:=[]) rfl A1 uz_ ?_; intro e ⟨he1,he2,he⟩; refine d2h ?_; refine cG d5c ?_; refine a87 ?_; refine cG d5c ?_; refine a9j ?_; refine cC (fun h7=>?_) fun h7=>?_
    ·have hel:e < s.length/\32<=(s[e]?.getD 0).toNat/\(s[e]?.getD 0).toNat<=126:=by simp at h7; omega
     obtain ⟨c,hc,hcd⟩:∃ c,s[e]? = some c/\s[e]?.getD 0=c:=⟨s[e]?.getD 0,b8U hel.1,rfl⟩;rw [hcd] at hel;rw [a2J hc,if_pos hel.2] at he;refine a6K ?_; refine z_4 ?_; refine cY (K7 rfl tt tt rfl rfl t_4 om_ hc) ?_; refine G9 ?_; refine cC (fun h8=>?_) fun h8=>?_
     ·have h34:c.toNat=34:=by simp at h8; omega
      rw [if_pos h34] at he;obtain ⟨n,rfl⟩:∃ n,e=a+1+n:=⟨e - (a+1),om_⟩;have he':a3e (s.drop (a+1))=some n:=by rw [he]; simp
      refine z_4 ?_; refine b72 ?_; refine cY (G8 (a:=(a+1)) (h:=(a+1+n)) rfl tt rfl t_4 b0p b0p om_ om_) ?_; refine cY b8s ?_; refine a8H ?_; refine c8o ?_; refine a6e ?_;exact ⟨_,l9 (rs:=[.cell 6 231,.tmp 7,.tmp 8]) (cs:=[_,_,_]) rfl b1j (n_2 rfl),⟨(),.ret (a1z (by rw [A7,if_neg hk1,if_neg hk2,if_pos hk7,he']; rfl) pu_),⟨.same (U7 _ _),tt⟩,n_4 _,tt⟩⟩
     ·have h34:¬ c.toNat=34:=by simp at h8; omega
      rw [if_neg h34] at he;refine b08 ?_;exact ⟨(e+1),_,⟨om_,om_,om_,by rw [he]; cases a3e (s.drop (e+1)) <;> simp; omega⟩,tu_,rfl⟩
    ·have hno:a3e (s.drop e)=none:=by
      rcases T5 e s.length with h | h
      ·rw [a2J (b8U h),if_neg];intro hh;simp at h7;omega
      ·exact b2P h
     rw [hno] at he;refine Z5 ?_; refine cY d0a ?_; refine b5W ?_; refine a6e ?_;exact ⟨_,l9 (rs:=[.cell 6 231,.tmp 7,.tmp 8]) (cs:=[_,_,_]) rfl b1j (n_2 rfl),⟨(),.ret (a1z (by rw [A7,if_neg hk1,if_neg hk2,if_pos hk7,he]; rfl) pu_),⟨.same (U7 _ _),tt⟩,n_4 _,tt⟩⟩
   ·have hk7:¬ j9 b.toNat=7:=by rw [<- hm]; simpa using h6
    refine K1 ?_; refine cC (fun h9=>?_) fun h9=>?_
    ·have hk8:j9 b.toNat=8:=by rw [<- hm]; simpa using h9
     refine z_1 ?_; refine c8u ?_; refine a6H ?_; refine cY (G8 (a:=a) rfl tt rfl t_4 b0p rfl om_ (n_4 _)) ?_; refine cY (c7 rfl Tryz.call234 o6 (a5j ((s.take s.length).drop a) [61,61] _) rfl) ?_; refine i7 ?_; refine cC (fun h10=>?_) fun h10=>?_
     ·rw [b1E] at h10;have hp2:=c0E h10;rw [b2J] at hp2;have hp2:2<=s.length - a:=hp2;refine a4M ?_; refine a0n ?_; refine cY (G8 (a:=a) (h:=(a+2)) rfl tt rfl t_4 b0p b0p om_ om_) ?_; refine cY b8s ?_; refine b3G ?_; refine a6e ?_;exact ⟨_,l9 (rs:=[.cell 6 231,.tmp 7,.tmp 8]) (cs:=[_,_,_]) rfl b1j (n_2 rfl),⟨(),.ret (a1z (by rw [A7,if_neg hk1,if_neg hk2,if_neg hk7,if_pos hk8,if_pos h10]; rfl) pu_),⟨.same (U7 _ _),tt⟩,n_4 _,tt⟩⟩
     ·rw [b1E] at h10;have hp0:¬ preB [61,61] (s.drop a)=true:=by rw [h10]; decide
      refine a5C ?_; refine cY (G8 (a:=a) (h:=(a+1)) rfl tt rfl t_4 b0p b0p om_ om_) ?_; refine cY b8s ?_; refine b3G ?_; refine a6e ?_;exact ⟨_,l9 (rs:=[.cell 6 231,.tmp 7,.tmp 8]) (cs:=[_,_,_]) rfl b1j (n_2 rfl),⟨(),.ret (a1z (by rw [A7,if_neg hk1,if_neg hk2,if_neg hk7,if_pos hk8,if_neg hp0]; rfl) pu_),⟨.same (U7 _ _),tt⟩,n_4 _,tt⟩⟩
    ·have hk8:¬ j9 b.toNat=8:=by rw [<- hm]; simpa using h9
     refine a0x ?_; refine cY d0a ?_; refine b5W ?_; refine a6e ?_;exact ⟨_,l9 (rs:=[.cell 6 231,.tmp 7,.tmp 8]) (cs:=[_,_,_]) rfl b1j (n_2 rfl),⟨(),.ret (a1z (by rw [A7,if_neg hk1,if_neg hk2,if_neg hk7,if_neg hk8]; rfl) pu_),⟨.same (U7 _ _),tt⟩,n_4 _,tt⟩⟩
theorem c6z {s:Str} {b:UInt8} (hb:s[a]? = some b) {m:List (Int × Int)} (hm:KM m) (hs:s.length<=1000000000000) (hq:σ[q]? = some (.map (gm kb kv m))):b8 CC 190 [(sv s),(.val (.int .i64 (a:Int))),.map q] σ fun r τ=>r = .ret (.tup [.agg (A7 s a b).1.cells,(.val (.int .i64 ((A7 s a b).2.1))),(.val (.int .i64 ((A7 s a b).2.2)))])/\τ=σ :=
 b1A hCC (c7B m) pu_ hq (.cons (.val _) (.cons (.val _) (.cons (.map rfl) .nil))) (c3W s a b hb m hm hs)
def K5 (s:Str) (a:Nat):Nat:=a+((s.drop a).takeWhile (· != 10)).length
theorem c1d:∀ (l:Str),(Go.Lib.indexByte l 10 < 0->(l.takeWhile (· != 10)).length=l.length)/\(0<=Go.Lib.indexByte l 10->Go.Lib.indexByte l 10=((l.takeWhile (· != 10)).length:Nat))
 | []=>⟨fun _=>rfl,fun h=>by rw [Go.Lib.indexByte] at h; omega⟩
 | b::l=>by
  have ih:=c1d l;rw [Go.Lib.indexByte,b6v];by_cases hb:b=10
  ·subst hb;exact ⟨fun h=>by simp at h,fun h=>by simp⟩
  ·have h1:(b != 10)=true:=by simpa using hb
   have h2:(b == 10)=false:=by simpa using hb
   rw [h1,h2];have hg:=Go.Lib.indexByte_ge l 10;simp only [if_true,if_false,n_7,b6t];by_cases h3:Go.Lib.indexByte l 10 = -1
   ·rw [h3];have:=ih.1 om_;exact ⟨fun _=>by simp; omega,fun h=>by simp at h⟩
   ·rw [if_neg (by simpa using h3)];have:=ih.2 om_;exact ⟨fun h=>by omega,fun _=>by omega⟩
theorem a4k {s:Str} (h:a<=s.length):K5 s a<=s.length:=by
 unfold K5;have:=(List.takeWhile_sublist (· != 10) (l:=s.drop a)).length_le;rw [b2J] at this;omega
theorem a6G {s:Str} {b:UInt8} (h:s[a]? = some b) (hb:j9 b.toNat=6):a < K5 s a:=by
 obtain ⟨hlt,rfl⟩:=n_0.1 h;unfold K5;rw [Q9 hlt,b6v];have:(s[a] != 10)=true:=by
  cases hq:(s[a] != 10) with
  | true=>rfl
  | false =>
   have:s[a]=10:=by simpa using hq
   rw [this] at hb;revert hb; decide
 rw [this];simp
def O8:Nat->Str->Nat->Option (List Tok)
 | 0,_,_=>none
 | f+1,s,i=>match s[r4 s i [5]]? with
  | none=>some [⟨5,[],0,(r4 s i [5]:Nat)⟩]
  | some b=>if j9 b.toNat=6 then O8 f s (K5 s (r4 s i [5]))
   else if (A7 s (r4 s i [5]) b).2.2≠0 then none
   else (O8 f s (A7 s (r4 s i [5]) b).2.1.toNat).map (({ (A7 s (r4 s i [5]) b).1 with at_:=(r4 s i [5]:Nat)}:Tok)::·)
def a0D (s:Str):Option (List Tok):=if 16384 < s.length then none else O8 (s.length+1) s 0
theorem b5B {s:Str} (h:i1=r4 s i [5]) (h2:s.length<=i1):O8 (f+1) s i=some [⟨5,[],0,(i1:Nat)⟩]:=by
 subst h;rw [O8,b9h h2]
theorem b0V {s:Str} {b:UInt8} (h:i1=r4 s i [5]) (h2:s[i1]? = some b) (h3:j9 b.toNat=6):O8 (f+1) s i=O8 f s (K5 s i1):=by
 subst h;rw [O8,h2];simp only;rw [if_pos h3]
theorem b7g {s:Str} {b:UInt8} (h:i1=r4 s i [5]) (h2:s[i1]? = some b) (h3:¬ j9 b.toNat=6) (h4:(A7 s i1 b).2.2≠0):O8 (f+1) s i=none:=by
 subst h;rw [O8,h2];simp only;rw [if_neg h3,if_pos h4]
theorem b45 {s:Str} {b:UInt8} (h:i1=r4 s i [5]) (h2:s[i1]? = some b) (h3:¬ j9 b.toNat=6) (h4:¬ (A7 s i1 b).2.2≠0):O8 (f+1) s i=(O8 f s (A7 s i1 b).2.1.toNat).map (({ (A7 s i1 b).1 with at_:=(i1:Nat)}:Tok)::·):=by
 subst h;rw [O8,h2];simp only;rw [if_neg h3,if_neg h4]
theorem c0D:∀ {l:Str} {n:Nat},a3e l=some n->n < l.length
 | [],n,h=>by cases h
 | b::l,n,h=>by
  rw [a3e] at h;split at h
  ·split at h
   ·injection h with h; subst h; simp
   ·cases hq:a3e l with
    | none=>rw [hq] at h; cases h
    | some k=>rw [hq] at h; injection h with h; subst h; have:=c0D hq; simp; omega
  ·cases h
theorem b5T {s:Str} {b:UInt8} (h:s[a]? = some b) (hk:inK ks b=true):a < r4 s a ks:=by
 rw [N7 h,if_pos hk];have:=(a0K (s:=s) (a:=a+1) (ks:=ks) (n_0.1 h).1).1;omega
theorem a1h {s:Str} {b:UInt8} (h:s[a]? = some b) (h4:¬ (A7 s a b).2.2≠0):∃ e:Nat,(A7 s a b).2.1=e/\a < e/\e<=s.length:=by
 have hlt:=(n_0.1 h).1;unfold A7 at h4 ⊢;split at h4
 ·rename_i hk;rw [if_pos hk];split at h4
  ·simp at h4
  ·rename_i hn;rw [if_neg hn];exact ⟨_,rfl,b5T h (by simp [inK,hk]),(a0K om_).2⟩
 ·rename_i hk;rw [if_neg hk];split at h4
  ·rename_i hk2;rw [if_pos hk2];split at h4
   ·simp at h4
   ·rename_i hn;rw [if_neg hn];exact ⟨_,rfl,b5T h (by simp [inK,hk2]),(a0K om_).2⟩
  ·rename_i hk2;rw [if_neg hk2];split at h4
   ·rename_i hk7;rw [if_pos hk7];cases hq:a3e (s.drop (a+1)) with
    | none=>rw [hq] at h4; simp at h4
    | some n =>
     have:=c0D hq;rw [b2J] at this;exact ⟨a+1+n+1,rfl,om_,om_⟩
   ·rename_i hk7;rw [if_neg hk7];split at h4
    ·rename_i hk8;rw [if_pos hk8]
     split
     ·rename_i hp;have:=c0E hp;rw [b2J] at this;have:2<=s.length - a:=this;exact ⟨a+2,rfl,om_,om_⟩
     ·exact ⟨a+1,rfl,om_,om_⟩
    ·simp at h4
abbrev c3P:=List Tok × Bool × Int × Int
def c96 (s:Str) (x:c3P):Prop:=(a0D s=some x.1/\x.2.1=true/\x.2.2.1=0/\x.2.2.2=0)\/(a0D s=none/\x.1=[]/\x.2.1=false/\x.2.2.2≠0)
abbrev c32 (x:c3P):CV:=.tup [.list (x.1.map Tok.cv) x.2.1 none,.val (.int .i64 x.2.2.1),.val (.int .i64 x.2.2.2)]
theorem b8F (s:Str) (hs:s.length<=1000000000000):b8 CC 153 [(sv s)] [] fun r τ=>∃ x:c3P,a08 0 τ r (.ret (c32 x))/\c96 s x:=by
 refine (c4 Tryz.func153 rfl rfl ?_);refine z_0 ?_; refine cY a13 ?_; refine a0w ?_;refine c61 0 (fun _ _ _=>False) rfl ?_ (fun _ _ _ h=>h.elim);refine a3c ?_; refine a84 ?_; refine cC (fun h1=>?_) fun h1=>?_
 ·have hl:16384 < s.length:=by simp at h1; omega
  refine z_0 ?_; refine cY a13 ?_; refine a2V ?_;exact ⟨_,l9 (rs:=[.tmp 2,.tmp 3,.tmp 4]) (cs:=[_,_,_]) rfl c6Z (n_2 rfl),⟨([],false,0,2),by exact .ret (.tups ⟨.old (S7 _ [] false),.old (.val _),.old (.val _),tt⟩),.inr ⟨by rw [a0D,if_pos hl],rfl,rfl,de_⟩⟩⟩
 ·have hl:¬ 16384 < s.length:=by simp at h1; omega
  refine a0x ?_;refine cD (b9 rfl c5c trivial (b0Y _) rfl ?_);intro m hm; refine z_2 ?_; refine z_6 ?_; refine w8 ?_; refine c5x ?_; refine B7 ?_; refine A2 hCC 1 rfl (α:=List Tok × Nat) (fun x=>[(0,(sv s)),(2,(.list (x.1.map Tok.cv) (gnn x.1.length) (E7 x.1.length 1))),(5,.map 0),(6,(.val (.int .i64 (x.2:Int))))]) (fun x=>[.map (gm kb kv m),r7 x.1.length]) (fun x=>x.2<=s.length/\x.1.length<=x.2/\∃ f,s.length - x.2 < f/\a0D s=(O8 f s x.2).map (x.1++·)) (fun x=>s.length - x.2) ⟨([],0),[0,7],⟨n_3 _,n_4 _,s.length+1,si_,by rw [a0D,if_neg hl]; simp⟩,⟨rfl,rfl⟩,q_6,(by repeat' (first|exact tt|exact .inl rfl|exact .inr ⟨_,rfl,.same rfl s9⟩|exact .inr ⟨_,rfl,.same (gobj_snoc _ _ _) s9⟩|exact .inr ⟨_,rfl,.same rfl (by repeat' (first|exact tt|exact .val _|exact .ptr (nb rfl)|exact .map (nb rfl)|exact c85 | refine s8 ?_ | refine ⟨?_,?_⟩))⟩|exact .inr ⟨_,rfl,.box (by repeat' (first|exact tt|exact .same rfl uo_|exact .ptr rfl|exact .map rfl|exact .vec rfl|exact r8.grow (f:=Tok.cv) (fun _=>⟨.val _,.val _,.val _,.val _,tt⟩) rfl | refine ⟨?_,?_⟩))⟩ | refine ⟨?_,?_⟩))⟩ ?_;intro ⟨acc,i⟩ ⟨hi,ha,f,hf,hlx⟩;dsimp only at hi ha hf hlx ⊢;obtain ⟨f,rfl⟩:∃ f',f=f'+1:=⟨f - 1,om_⟩;obtain ⟨i1,hi1⟩:∃ i1,i1=r4 s i [5]:=⟨_,rfl⟩;have hsp:=a0K (ks:=[5]) hi;rw [<- hi1] at hsp;refine B7 ?_; refine a0n ?_; refine cY (A3 ([5].map icv) rfl ⟨rfl,tt⟩ t_5 t_1 t_6 rfl rfl rfl rfl rfl rfl rfl rfl rfl) ?_; refine cY (c7 rfl c4r a5Q ((by have:=a6F (ks:=[5]) (nn:=true) hm hi om_ de_ (σ:=[.map (gm kb kv m),r7 acc.length]) (q:=0) rfl; rw [<- hi1] at this; exact this)) rfl) ?_; refine b1w ?_; refine z_4 ?_; refine cY V4 ?_; refine cY a2B ?_; refine z_2 ?_; refine cC (fun h2=>?_) fun h2=>?_
  ·have hend:i1=s.length:=by simp at h2; omega
   rw [b5B hi1 om_] at hlx;refine z_4 ?_; refine cY b8s ?_; refine cY (A3 [Tok.cv ⟨5,[],0,(i1:Nat)⟩] rfl ⟨tt,tt⟩ b4G a3K a6I rfl rfl rfl rfl rfl rfl rfl rfl rfl) ?_;refine cD (D9 rfl tt tt rfl si_ R6 b4G a3K c1N a6I rfl (.inr rfl) X0 d2C H3 ((acc++[(⟨5,[],0,(i1:Nat)⟩:Tok)]).map Tok.cv) (acc++[(⟨5,[],0,(i1:Nat)⟩:Tok)]).length si_ si_ ?_);refine cY I1 ?_; refine a2V ?_;exact ⟨_,l9 (rs:=[.tmp 2,.tmp 3,.tmp 4]) (cs:=[_,_,_]) rfl c6Z (n_2 rfl),⟨(acc++[(⟨5,[],0,(i1:Nat)⟩:Tok)],gnn (acc++[(⟨5,[],0,(i1:Nat)⟩:Tok)]).length,0,0),by exact .ret (.tups ⟨.tok (fun r hr c hc=>(A6 (f:=Tok.cv) (fun _=>S2.all ⟨.val _,.val _,.val _,.val _,tt⟩) _) r hr c hc),.old (.val _),.old (.val _),tt⟩),.inl ⟨hlx,by rw [n_6]; rfl,rfl,rfl⟩⟩⟩
  ·have hend:i1 < s.length:=by
    have:¬ (i1:Int)=s.length:=by simpa using h2
    omega
   obtain ⟨b,hb⟩:∃ b,s[i1]? = some b:=⟨s[i1]'om_,si_⟩;refine a0n ?_; refine cY b7o ?_; refine cY d5E ?_; refine a9M ?_; refine cC (fun h3=>?_) fun h3=>?_
   ·have hk:j9 b.toNat=6:=by rw [<- hm]; simpa using h3
    rw [b0V hi1 hb hk] at hlx;have hl1:=a6G hb hk;have hl2:=a4k (s:=s) (a:=i1) om_;have hib:=c1d ((s.take s.length).drop i1);have hdl:((s.take s.length).drop i1).length=s.length - i1:=by simp
    have hle:K5 s i1=i1+(((s.take s.length).drop i1).takeWhile (· != 10)).length:=by rw [K5,b1E]
    have hig:=Go.Lib.indexByte_ge ((s.take s.length).drop i1) 10;refine z_4 ?_; refine cY (G8 (a:=i1) rfl tt rfl t_4 b0p rfl om_ (n_4 _)) ?_; refine cY (c7 rfl Tryz.call189 o6 (a5u ((s.take s.length).drop i1) 10 _) rfl) ?_; refine a5H ?_; refine cC (fun h4=>?_) fun h4=>?_
    ·have hneg:Go.Lib.indexByte ((s.take s.length).drop i1) 10 < 0:=by simpa using h4
     have:=hib.1 hneg;have hle2:K5 s i1=s.length:=by omega
     refine z_5 ?_; refine b2O ?_; refine cY (a63 rfl tt tt rfl rfl om_ om_) ?_; refine a7J ?_; refine cY a5S ?_; refine z_2 ?_; refine z6 ?_;exact ⟨(acc,K5 s i1),[0,1],⟨om_,om_,by show acc.length<=K5 s i1; omega,f,by show s.length - K5 s i1 < f; omega,hlx⟩,⟨rfl,rfl⟩,q_2,(by repeat' (first|exact tt|exact .inl rfl|exact .inr ⟨_,rfl,.same rfl s9⟩|exact .inr ⟨_,rfl,.same (gobj_snoc _ _ _) s9⟩|exact .inr ⟨_,rfl,.same rfl (by repeat' (first|exact tt|exact .val _|exact .ptr (nb rfl)|exact .map (nb rfl)|exact c85 | refine s8 ?_ | refine ⟨?_,?_⟩))⟩|exact .inr ⟨_,rfl,.box (by repeat' (first|exact tt|exact .same rfl uo_|exact .ptr rfl|exact .map rfl|exact .vec rfl|exact r8.grow (f:=Tok.cv) (fun _=>⟨.val _,.val _,.val _,.val _,tt⟩) rfl | refine ⟨?_,?_⟩))⟩ | refine ⟨?_,?_⟩))⟩
    ·have hneg:¬ Go.Lib.indexByte ((s.take s.length).drop i1) 10 < 0:=by simpa using h4
     have:=hib.2 om_;rw [this];refine a8Y ?_; refine cY a5S ?_; refine z_2 ?_; refine z6 ?_;exact ⟨(acc,K5 s i1),[0,1],⟨om_,om_,by show acc.length<=K5 s i1; omega,f,by show s.length - K5 s i1 < f; omega,hlx⟩,⟨rfl,rfl⟩,q_2,(by repeat' (first|exact tt|exact .inl rfl|exact .inr ⟨_,rfl,.same rfl s9⟩|exact .inr ⟨_,rfl,.same (gobj_snoc _ _ _) s9⟩|exact .inr ⟨_,rfl,.same rfl (by repeat' (first|exact tt|exact .val _|exact .ptr (nb rfl)|exact .map (nb rfl)|exact c85 | refine s8 ?_ | refine ⟨?_,?_⟩))⟩|exact .inr ⟨_,rfl,.box (by repeat' (first|exact tt|exact .same rfl uo_|exact .ptr rfl|exact .map rfl|exact .vec rfl|exact r8.grow (f:=Tok.cv) (fun _=>⟨.val _,.val _,.val _,.val _,tt⟩) rfl | refine ⟨?_,?_⟩))⟩ | refine ⟨?_,?_⟩))⟩
   ·have hk:¬ j9 b.toNat=6:=by rw [<- hm]; simpa using h3
    refine a5C ?_; refine cY (c7 rfl Tryz.call190 B9 (c6z hb hm om_ rfl) rfl) ?_; refine b2I ?_; refine a8m ?_; refine b5v ?_; refine cC (fun h5=>?_) fun h5=>?_
    ·have he:(A7 s i1 b).2.2≠0:=by simpa using h5
     rw [b7g hi1 hb hk he] at hlx;refine z_4 ?_; refine cY a13 ?_; refine cY I1 ?_; refine z_7 ?_;exact ⟨_,l9 (rs:=[.tmp 2,.tmp 3,.tmp 4]) (cs:=[_,_,_]) rfl c6Z (n_2 rfl),⟨([],false,i1,(A7 s i1 b).2.2),by exact .ret (.tups ⟨.old (S7 _ [] false),.old (.val _),.old (.val _),tt⟩),.inr ⟨hlx,rfl,rfl,he⟩⟩⟩
    ·have he:¬ (A7 s i1 b).2.2≠0:=by simpa using h5
     rw [b45 hi1 hb hk he] at hlx;obtain ⟨e,he1,he2,he3⟩:=a1h hb he;rw [he1] at hlx ⊢;refine a05 ?_; refine cY d2p ?_; refine c2o ?_; refine z_5 ?_; refine cY Y3 ?_; refine cY (A3 [Tok.cv ({ (A7 s i1 b).1 with at_:=(i1:Nat)}:Tok)] rfl ⟨tt,tt⟩ b4G a3K a6I rfl rfl rfl rfl rfl rfl rfl rfl rfl) ?_;refine cD (D9 rfl tt tt rfl si_ R6 b4G a3K c1N a6I rfl (.inr rfl) X0 d2C H3 ((acc++[({ (A7 s i1 b).1 with at_:=(i1:Nat)}:Tok)]).map Tok.cv) (acc++[({ (A7 s i1 b).1 with at_:=(i1:Nat)}:Tok)]).length si_ si_ ?_);refine cY j7 ?_; refine cY I1 ?_; refine z_2 ?_;exact ⟨(acc++[({ (A7 s i1 b).1 with at_:=(i1:Nat)}:Tok)],e),[0,3],⟨by show s.length - e < s.length - i; omega,he3,by simp; omega,f,by show s.length - e < f; omega,by rw [hlx]; simp [Function.comp_def]⟩,⟨rfl,rfl⟩,q_6,(by repeat' (first|exact tt|exact .inl rfl|exact .inr ⟨_,rfl,.same rfl s9⟩|exact .inr ⟨_,rfl,.same (gobj_snoc _ _ _) s9⟩|exact .inr ⟨_,rfl,.same rfl (by repeat' (first|exact tt|exact .val _|exact .ptr (nb rfl)|exact .map (nb rfl)|exact c85 | refine s8 ?_ | refine ⟨?_,?_⟩))⟩|exact .inr ⟨_,rfl,.box (by repeat' (first|exact tt|exact .same rfl uo_|exact .ptr rfl|exact .map rfl|exact .vec rfl|exact r8.grow (f:=Tok.cv) (fun _=>⟨.val _,.val _,.val _,.val _,tt⟩) rfl | refine ⟨?_,?_⟩))⟩ | refine ⟨?_,?_⟩))⟩
theorem c31 (s:Str) (hs:s.length<=1000000000000) (σ:List c5):b8 CC 153 [(sv s)] σ fun r τ=>∃ x:c3P,r = .ret (c32 x)/\τ=σ/\c96 s x :=
 E9 (res:=fun x=>.ret (c32 x)) hCC (fun c hc=>by simp at hc; subst hc; exact .val _) (b8F s hs) (fun _ _=>pu_) σ
structure Ex where
 k:Int
 num:Int
 op:Int
 name:Str
 args:List Int
deriving DecidableEq
variable {b:List Ex} {B:α->List Ex}
abbrev Ex.cells (x:Ex):List CV:=[.val (.int .i64 x.k),.val (.int .i64 x.num),.val (.int .i64 x.op),sv x.name,.list (x.args.map icv) (gnn x.args.length) none]
def Ex.cv (x:Ex):List CV:=x.cells
theorem Ex.pure (x:Ex):S2 x.cells:=⟨.val _,.val _,.val _,.val _,a0l _ _,tt⟩
theorem a2D (l:List Ex) (nn:Bool):p9 (.list (l.map Ex.cv) nn none):=M3 (f:=Ex.cv) Ex.pure l nn
theorem J5 (n:Nat) (l:List Ex) (nn:Bool):Old n (.list (l.map Ex.cv) nn none):=(a2D l nn).old
structure De where
 k:Int
 name:Str
 params:List Str
 body:List Ex
deriving DecidableEq
abbrev De.cells (x:De):List CV:=[.val (.int .i64 x.k),sv x.name,.list (x.params.map scv) (gnn x.params.length) none,.list (x.body.map Ex.cv) (gnn x.body.length) none]
def De.cv (x:De):List CV:=x.cells
theorem De.pure (x:De):S2 x.cells:=⟨.val _,.val _,F7 _ _,a2D _ _,tt⟩
theorem a7v (l:List De) (nn:Bool):p9 (.list (l.map De.cv) nn none):=M3 (f:=De.cv) De.pure l nn
theorem L2 (n:Nat) (l:List De) (nn:Bool):Old n (.list (l.map De.cv) nn none):=(a7v l nn).old
structure Src where
 pkg:Str
 imports:List Str
 decls:List De
deriving DecidableEq
abbrev Src.cells (x:Src):List CV:=[sv x.pkg,.list (x.imports.map scv) (gnn x.imports.length) none,.list (x.decls.map De.cv) (gnn x.decls.length) none]
def Src.cv (x:Src):List CV:=x.cells
theorem Src.pure (x:Src):S2 x.cells:=⟨.val _,F7 _ _,a7v _ _,tt⟩
abbrev pbx (T:List Tok) (n:Nat) (ps:List Str) (b:List Ex) (s:Nat):c5:=.box [.list (T.map Tok.cv) true none,.val (.int .i64 (n:Int)),.list (ps.map scv) (gnn ps.length) none,.list (b.map Ex.cv) (gnn b.length) (E7 b.length s)]
abbrev pst (T:List Tok) (n:Nat) (ps:List Str) (b:List Ex):List c5:=[pbx T n ps b 1,r7 b.length]
abbrev a6u (T:List Tok) (n:Nat) (ps:List Str) (b:List Ex):List c5:=[pbx T n ps b 2,.dead,r7 b.length]
theorem b4a {R:Nat->Nat->Prop} {n:Nat} {ps:List Str} {s s':Nat} (h:R s s'):H4 R (pbx T n ps b s) (pbx T n ps b s') :=
 .box (.cons (.pure (a2w _ _)) (.cons (.pure (.val _)) (.cons (.pure (F7 _ _)) (.cons (by
  refine .list rfl (fun i r r' h1 h2=>by rw [h1] at h2; injection h2 with h2; rw [h2]) (fun i j r r' c c' h1 h2 h3 h4=>?_) ?_
  ·rw [h1] at h2; injection h2 with h2; subst h2; rw [h3] at h4; injection h4 with h4; subst h4
   exact .pure (A6 (f:=Ex.cv) (fun a=>(Ex.pure a).all) _ r (n_1 h1) c (n_1 h3))
  ·cases hb:b.length with
   | zero=>exact .inl ⟨rfl,rfl⟩
   | succ m=>exact .inr ⟨s,s',rfl,rfl,h⟩) .nil))))
theorem a1y {R:Nat->Nat->Prop} (m:Nat):H4 R (r7 m) (r7 m):=by
 cases m with
 | zero=>exact .dead
 | succ m=>exact .tip _
def PAt (σ:List c5) (q s:Nat) (T:List Tok) (n:Nat) (ps:List Str) (b:List Ex):Prop:=σ[q]? = some (pbx T n ps b s)/\σ[s]? = some (r7 b.length)/\q≠s
abbrev a2a (at_ e:Int):CV:=.val (.iface 195 (.agg #[.int .i64 at_,.int .i64 e]))
def a3s {α:Type} (c:α->CV) (S:α->List c5) (P:α->Prop) (bad:Prop) (r:U9) (τ:List c5):Prop :=
 (∃ a,C6 2 τ r (.ret (c a)) (S a)/\P a)\/∃ x:Int × Int,C6 2 τ r (.pan (a2a x.1 x.2)) [.dead,.dead]/\(bad/\x.2≠0)
def a3P {α:Type} (c:α->CV) (S:α->List c5) (P:α->Prop) (σ:List c5) (q s:Nat) (bad:Prop) (r:U9) (τ:List c5):Prop :=
 (∃ a,r = .ret (c a)/\τ=S a/\P a)\/∃ x:Int × Int,r = .pan (a2a x.1 x.2)/\τ=(σ.set q .dead).set s .dead/\(bad/\x.2≠0)
theorem l8 {x y:Int}:C6 2 τ (.pan (a2a x y)) (.pan (a2a x y)) [.dead,.dead]:=⟨[0,1],rfl,rfl,.pan (.old (.val _)),.inl rfl,.inl rfl,tt⟩
theorem a3U {f:FuncId} {args:List CV} {c:α->CV} {Z:α->List Str} {g:α->Bool} {n:Nat} {ps:List Str} (hargs:∀ a∈args,p9 a) (hc:∀ a,p9 (c a))
 (h:b8 CC f (.ptr 0 0::args) (pst T n ps b) (a3s c (fun a=>if g a=true then a6u T (N a) (Z a) (B a) else pst T (N a) (Z a) (B a)) P bad)) {σ:List c5} {q s:Nat} (hσ:PAt σ q s T n ps b) :
 b8 CC f (.ptr q 0::args) σ (a3P c (fun a=>if g a=true then (σ.set q (pbx T (N a) (Z a) (B a) σ.length)).set s .dead++[r7 (B a).length] else (σ.set q (pbx T (N a) (Z a) (B a) s)).set s (r7 (B a).length)) P σ q s bad):=by
 obtain ⟨h1,h2,h3⟩:=hσ;have hq:=(n_0.1 h1).1;have hs:=(n_0.1 h2).1;have h':b8 CC f (.ptr 0 0::args) (pst T n ps b) fun r τ=>(∃ a,r = .ret (c a)/\τ=(if g a=true then a6u T (N a) (Z a) (B a) else pst T (N a) (Z a) (B a))/\P a)\/∃ x:Int × Int,r = .pan (a2a x.1 x.2)/\τ=[.dead,.dead]/\(bad/\x.2≠0):=by
  refine N9 hCC (h.mono fun r τ hh=>?_)
  rcases hh with ⟨a,k1,k2⟩ | ⟨x,k1,k2⟩
  ·exact ⟨_,_,k1,.inl ⟨a,rfl,rfl,k2⟩⟩
  ·exact ⟨_,_,k1,.inr ⟨x,rfl,rfl,k2⟩⟩
 refine H5 [q,s] hCC rfl (fun i j k g1 g2=>?_) (fun i k ob g1 g2=>?_) (.cons (.ptr rfl) (M4 hargs)) h' fun r τ hk=>?_
 ·rcases i with _ | _ | i <;> rcases j with _ | _ | j <;> simp at g1 g2 <;> first|rfl|(exfalso; exact h3 (g1.trans g2.symm))|(exfalso; exact h3 (g2.trans g1.symm))
 ·rcases i with _ | _ | i
  ·simp at g1 g2;subst g1 g2;exact ⟨_,h1,b4a rfl⟩
  ·simp at g1 g2;subst g1 g2;exact ⟨_,h2,a1y _⟩
  ·simp at g1
 ·rcases hk with ⟨a,rfl,rfl,hp⟩ | ⟨x,rfl,rfl,hp⟩
  ·refine ⟨by split <;> simp,.ret (c a),(if g a=true then (σ.set q (pbx T (N a) (Z a) (B a) σ.length)).set s .dead++[r7 (B a).length] else (σ.set q (pbx T (N a) (Z a) (B a) s)).set s (r7 (B a).length)),.ret (.pure (hc a)),by split <;> simp,fun k hk hks=>?_,fun i k x ha hx=>?_,.inl ⟨a,rfl,rfl,hp⟩⟩
   ·have n1:q≠k:=fun e=>hks a2u;have n2:s≠k:=fun e=>hks a2u
    split
    ·rw [L4 a3F];simp [n1,n2]
    ·simp [n1,n2]
   ·split at hx <;> rename_i hg
    ·rcases ha with ha | ⟨ha,rfl⟩
     ·rcases i with _ | _ | i
      ·simp at ha hx;subst ha hx;refine ⟨pbx T (N a) (Z a) (B a) σ.length,?_,b4a (.inr ⟨si_,si_⟩)⟩;rw [if_pos hg,L4 a9l,a3q h3.symm];simp [hq]
      ·simp at ha hx;subst ha hx;refine ⟨.dead,?_,.dead⟩;rw [if_pos hg,L4 (by simpa using hs)];simp [hs]
      ·simp at ha
     ·rcases i with _ | _ | _ | i
      ·simp at ha
      ·simp at ha
      ·simp at hx;subst hx;refine ⟨r7 (B a).length,?_,a1y _⟩;rw [if_pos hg,a0a si_];simp
      ·simp at hx
    ·rcases ha with ha | ⟨ha,rfl⟩
     ·rcases i with _ | _ | i
      ·simp at ha hx;subst ha hx;refine ⟨pbx T (N a) (Z a) (B a) s,?_,b4a (.inl rfl)⟩;rw [if_neg hg,a3q h3.symm];simp [hq]
      ·simp at ha hx;subst ha hx;refine ⟨r7 (B a).length,?_,a1y _⟩;rw [if_neg hg];simp [hs]
      ·simp at ha
     ·rcases i with _ | _ | i
      ·simp at ha
      ·simp at ha
      ·simp at hx
  ·refine ⟨n_4 _,.pan (a2a x.1 x.2),(σ.set q .dead).set s .dead,.pan (.pure (.val _)),si_,fun k hk hks=>?_,fun i k y ha hx=>?_,.inr ⟨x,rfl,rfl,hp⟩⟩
   ·have n1:q≠k:=fun e=>hks a2u;have n2:s≠k:=fun e=>hks a2u;simp [n1,n2]
   ·rcases ha with ha | ⟨ha,rfl⟩
    ·rcases i with _ | _ | i
     ·simp at ha hx;subst ha hx;refine ⟨.dead,?_,.dead⟩;rw [a3q h3.symm];simp [hq]
     ·simp at ha hx;subst ha hx;refine ⟨.dead,?_,.dead⟩;simp [hs]
     ·simp at ha
    ·rcases i with _ | _ | i
     ·simp at ha
     ·simp at ha
     ·simp at hx
theorem a41 {n:Nat} {ps:List Str} {s:Nat} (h:s < L):F5 L (pbx T n ps b s):=s8 ⟨S7 _ _ _,.val _,A5 _ _ _,.list (fun i j r c h1 h2=>(A6 (f:=Ex.cv) (fun a=>(Ex.pure a).all) _ r (n_1 h1) c (n_1 h2)).old) (fun k hk=>by
 cases hb:b.length with
 | zero=>rw [hb] at hk; cases hk
 | succ m=>rw [hb] at hk; injection hk with hk; omega),tt⟩
theorem a0g {rest:List c5} {n:Nat} {ps:List Str} (hτ:τ=pbx T n ps b 1::r7 b.length::rest) (hc:Old 2 c):C6 2 τ (.ret c) (.ret c) (pst T n ps b):=by
 subst hτ;exact ⟨[0,1],rfl,rfl,.ret (.old hc),.inr ⟨_,rfl,.same rfl (a41 de_)⟩,.inr ⟨_,rfl,.same rfl s9⟩,tt⟩
theorem a7w {L:Nat} {sel:List Nat}:∀ {l:List CV},b4m L l->b8p L sel l l
 | [],_=>trivial
 | _::_,⟨h,t⟩=>⟨.old h,a7w t⟩
theorem X2 {n k:Nat} {ps:List Str} (h0:τ[0]? = some (pbx T n ps b k)) (hk:τ[k]? = some (r7 b.length)) (h2:2<=k) (hc:Old 2 c):C6 2 τ (.ret c) (.ret c) (a6u T n ps b):=by
 have k1:a5G 2 [0,1,k]=true:=rfl;have k2:U6 [0,1,k]=true:=by
  have e0:(k == 0)=false:=by simp; omega
  have e1:(k == 1)=false:=by simp; omega
  have e2:(0 == k)=false:=by simp; omega
  have e3:(1 == k)=false:=by simp; omega
  simp [U6];omega
 refine ⟨[0,1,k],k1,k2,.ret (.old hc),.inr ⟨_,h0,.box ?_⟩,.inl rfl,.inr ⟨_,hk,.same rfl s9⟩,tt⟩;refine ⟨.old a16,.old (.val _),.old O0,.list (fun r hr c hc=>(A6 (f:=Ex.cv) (fun a=>(Ex.pure a).all) _ r hr c hc).old) ?_,tt⟩;intro j hj;cases hb:b.length with
 | zero=>rw [hb] at hj; cases hj
 | succ m=>rw [hb] at hj; injection hj with hj; subst hj; exact ⟨k,rfl,rfl⟩
theorem a1A {l:List α} {x:α} (h:l[i]? = some x):l.set i x=l:=by
 apply c15 fun j=>?_;have hi:=(n_0.1 h).1;by_cases hj:i=j
 ·subst hj; rw [b4J hi,h]
 ·rw [a3q hj]
theorem b9J {f:FuncId} {args:List CV} {n:Nat} {ps:List Str} (hargs:∀ a∈args,p9 a) (hc:p9 c)
 (h:b8 CC f (.ptr 0 0::args) (pst T n ps b) fun r τ=>C6 2 τ r (.ret c) (pst T n ps b)) {σ:List c5} {q s:Nat} (hσ:PAt σ q s T n ps b):b8 CC f (.ptr q 0::args) σ fun r τ=>r = .ret c/\τ=σ:=by
 refine (a3U (α:=Unit) (c:=fun _=>c) (N:=fun _=>n) (B:=fun _=>b) (Z:=fun _=>ps) (g:=fun _=>false) (P:=fun _=>True) (bad:=False) hargs (fun _=>hc) (h.mono fun r τ hh=>.inl ⟨(),hh,tt⟩) hσ).mono fun r τ hh=>?_
 rcases hh with ⟨_,h1,h2,_⟩ | ⟨_,_,_,h3,_⟩
 ·refine ⟨h1,h2.trans ?_⟩;show (σ.set q _).set s _=σ;rw [a1A hσ.1,a1A hσ.2.1]
 ·exact h3.elim
theorem a0m {f:FuncId} {args:List CV} {c:α->CV} {n:Nat} {ps:List Str} (hargs:∀ a∈args,p9 a) (hc:∀ a,p9 (c a))
 (h:b8 CC f (.ptr 0 0::args) (pst T n ps b) (a3s c (fun a=>pst T (N a) ps b) P bad)) {σ:List c5} {q s:Nat} (hσ:PAt σ q s T n ps b) :
 b8 CC f (.ptr q 0::args) σ (a3P c (fun a=>σ.set q (pbx T (N a) ps b s)) P σ q s bad):=by
 refine (a3U (c:=c) (N:=N) (B:=fun _=>b) (Z:=fun _=>ps) (g:=fun _=>false) (P:=P) (bad:=bad) hargs hc (h.mono fun r τ hh=>?_) hσ).mono fun r τ hh=>?_
 ·rcases hh with ⟨a,h1,h2⟩ | h
  ·exact .inl ⟨a,h1,h2⟩
  ·exact .inr h
 ·rcases hh with ⟨a,h1,h2,h3⟩ | h
  ·refine .inl ⟨a,h1,h2.trans ?_,h3⟩;refine a1A ?_;rw [a3q hσ.2.2];exact hσ.2.1
  ·exact .inr h
theorem a2M {f:FuncId} {args:List CV} {c:α->CV} {n:Nat} {ps:List Str} (hargs:∀ a∈args,p9 a) (hc:∀ a,p9 (c a))
 (h:b8 CC f (.ptr 0 0::args) (pst T n ps b) (a3s c (fun a=>a6u T (N a) ps (B a)) P bad)) {σ:List c5} {q s:Nat} (hσ:PAt σ q s T n ps b) :
 b8 CC f (.ptr q 0::args) σ (a3P c (fun a=>(σ.set q (pbx T (N a) ps (B a) σ.length)).set s .dead++[r7 (B a).length]) P σ q s bad):=by
 refine (a3U (c:=c) (N:=N) (B:=B) (Z:=fun _=>ps) (g:=fun _=>true) (P:=P) (bad:=bad) hargs hc (h.mono fun r τ hh=>?_) hσ).mono fun r τ hh=>?_
 ·rcases hh with ⟨a,h1,h2⟩ | h
  ·exact .inl ⟨a,h1,h2⟩
  ·exact .inr h
 ·rcases hh with ⟨a,h1,h2,h3⟩ | h
  ·exact .inl ⟨a,h1,h2,h3⟩
  ·exact .inr h
theorem Y8 (x:Tok):p9 (.agg x.cells):=o8 ⟨.val _,.val _,.val _,.val _,tt⟩
theorem a4W (n:Nat) (x:Tok):Old n (.agg x.cells):=(Y8 x).old
def tk (T:List Tok) (n:Nat):Tok:=(T[n]?).getD ⟨5,[],0,0⟩
theorem d4f {n:Nat} (h:n < T.length):T[n]? = some (tk T n):=by simp [tk,h]
def a0e (T:List Tok):Prop:=∀ n,n < T.length->(tk T n).k≠5->n+1 < T.length
def isT (t:Tok) (k:Int) (s:Str):Bool:=(t.k == k) && decide (t.t=s)
theorem a59 {n:Nat} {k:Int} {s:Str} (h:isT (tk T n) k s=true) (hk:k≠5):(tk T n).k≠5:=by
 simp [isT] at h;omega
def B6 (T:List Tok) (n:Nat) (k:Int):Option (Tok × Nat):=if (tk T n).k=k then some (tk T n,if k=5 then n else n+1) else none
def pIs (T:List Tok) (n:Nat) (k:Int) (s:Str):Option Nat:=if isT (tk T n) k s=true then some (n+1) else none
theorem c45 (t:Tok) (e:Int):b8 CC 195 [.agg t.cells,(.val (.int .i64 e))] [] fun r τ=>∃ _:Unit,a08 0 τ r (.pan (a2a t.at_ e))/\True:=by
 refine (c4 Tryz.func195 rfl rfl ?_);refine a6m ?_;refine i7 (A0 ?_);refine a6y ?_; refine cY j7 ?_; refine cY (x9 #[(0,1),(1,1)] rfl j1 c2h Tryz.zeroValue195 rfl ⟨_,rfl⟩ (fun w=>by kernel_rfl) rfl rfl) ?_; refine cY (c3y (xs:=[.int .i64 t.at_,.int .i64 e]) rfl tt rfl (b8C c2h rfl)) ?_;exact b0d rfl rfl (c8X rfl tt rfl (fun M w v h=>⟨_,_,o5 h⟩) ⟨(),.pan (.old (.val _)),tt⟩)
theorem a1d (t:Tok) (e:Int) (σ:List c5):b8 CC 195 [.agg t.cells,(.val (.int .i64 e))] σ fun r τ=>∃ _:Unit,r = .pan (a2a t.at_ e)/\τ=σ/\True :=
 E9 (res:=fun _=>.pan (a2a t.at_ e)) hCC (fun c hc=>by
  simp at hc
  rcases hc with rfl | rfl
  ·exact Y8 _
  ·exact .val _) (c45 t e) (fun _ _=>.val _) σ
theorem c2E (T:List Tok) (n:Nat) (ps:List Str) (b:List Ex) (_:T.length<=1000000) (hn:n < T.length):b8 CC 196 [.ptr 0 0] (pst T n ps b) (fun r τ=>C6 2 τ r (.ret (.agg (tk T n).cells)) (pst T n ps b)):=by
 refine (c4 Tryz.func196 rfl rfl ?_);refine b1P ?_; refine z_8 ?_; refine d0M ?_; refine hY (j2 rfl tt rfl c2M rfl Tryz.sizeOf191 de_) ?_; refine hY (o9 rfl tt rfl Tryz.isAgg191 rfl rfl) ?_; refine a5r ?_; refine hY c5L ?_; refine hY a0F ?_; refine d0R ?_; refine N3 ?_; refine b2F ?_;exact ⟨_,A8 rfl b29,a0g rfl (a4W _ _)⟩
theorem a4o {n:Nat} {ps:List Str} (hT:T.length<=1000000) (hn:n < T.length) {s:Nat} (hσ:PAt σ q s T n ps b):b8 CC 196 [.ptr q 0] σ fun r τ=>r = .ret (.agg (tk T n).cells)/\τ=σ:=b9J (fun _ h=>by cases h) (Y8 _) (c2E T n ps b hT hn) hσ
theorem d3t (T:List Tok) (n:Nat) (ps:List Str) (b:List Ex) (hT:T.length<=1000000) (hn:n < T.length) (k:Int) (u:Str):b8 CC 194 [.ptr 0 0,(.val (.int .i64 k)),(sv u)] (pst T n ps b) (fun r τ=>C6 2 τ r (.ret (.val (.bool (isT (tk T n) (k) (u))))) (pst T n ps b)):=by
 refine (c4 Tryz.func194 rfl rfl ?_);refine a1T ?_; refine cY b7j ?_; refine a8m ?_; refine U2 ?_; refine a6y ?_; refine cY j7 ?_; refine cY a2B ?_; refine cY j7 ?_; refine cG b6w ?_; refine b6g ?_; refine a6Q ?_;exact ⟨_,j5 rfl tt c6,(by exact a0g rfl (.val _))⟩
theorem b5p {n:Nat} {ps:List Str} (hT:T.length<=1000000) (hn:n < T.length) (k:Int) (u:Str) {s:Nat} (hσ:PAt σ q s T n ps b):b8 CC 194 [.ptr q 0,(.val (.int .i64 k)),(sv u)] σ fun r τ=>r = .ret (.val (.bool (isT (tk T n) (k) (u))))/\τ=σ:=b9J (fun _ h=>by simp at h; rcases h with rfl | rfl <;> exact .val _) (.val _) (d3t T n ps b hT hn k u) hσ
theorem c5r (T:List Tok) (n:Nat) (ps:List Str) (b:List Ex) (hT:T.length<=1000000) (hn:n < T.length) (hW:a0e T) (u:Str):b8 CC 193 [.ptr 0 0,(sv u)] (pst T n ps b) (a3s (fun _:Nat=>.tup []) (fun a=>pst T a ps b) (fun a=>pIs T n 4 u=some a/\a < T.length) (pIs T n 4 u=none)):=by
 refine (c4 Tryz.func193 rfl rfl ?_);refine d2B ?_; refine T7 ?_; refine cC (fun h1=>?_) fun h1=>?_
 ·have hb:isT (tk T n) 4 u=false:=by simpa using h1
  refine z_5 ?_; refine cY b7j ?_;exact b0d rfl rfl (a06 rfl b4V o6 (a1d _ _ _) rfl (fun _ _=>.inr ⟨(_,_),l8,by rw [pIs,if_neg (by rw [hb]; decide)],si_⟩))
 ·have hb:isT (tk T n) 4 u=true:=by simpa using h1
  refine b1q ?_; refine cY J2 ?_;exact d19
theorem O7 {n:Nat} {ps:List Str} (hT:T.length<=1000000) (hn:n < T.length) (hW:a0e T) (u:Str) {s:Nat} (hσ:PAt σ q s T n ps b):b8 CC 193 [.ptr q 0,(sv u)] σ (a3P (fun _:Nat=>.tup []) (fun a=>σ.set q (pbx T a ps b s)) (fun a=>pIs T n 4 u=some a/\a < T.length) σ q s (pIs T n 4 u=none)) :=
 a0m (c:=fun _:Nat=>.tup []) (N:=fun a=>a) (fun _ h=>by simp at h; subst h; exact .val _) (fun _=>B2 trivial) (c5r T n ps b hT hn hW u) hσ
theorem c5p (T:List Tok) (n:Nat) (ps:List Str) (b:List Ex) (hT:T.length<=1000000) (hn:n < T.length) (hW:a0e T) (u:Str):b8 CC 191 [.ptr 0 0,(sv u)] (pst T n ps b) (a3s (fun _:Nat=>.tup []) (fun a=>pst T a ps b) (fun a=>pIs T n 1 u=some a/\a < T.length) (pIs T n 1 u=none)):=by
 refine (c4 Tryz.func191 rfl rfl ?_);refine a6H ?_; refine cY (c7 rfl c4q b3m (b5p hT hn 1 u ⟨rfl,rfl,de_⟩) rfl) ?_; refine T7 ?_; refine cC (fun h1=>?_) fun h1=>?_
 ·have hb:isT (tk T n) 1 u=false:=by simpa using h1
  refine z_5 ?_; refine cY b7j ?_;exact b0d rfl rfl (a06 rfl b4V o6 (a1d _ _ _) rfl (fun _ _=>.inr ⟨(_,_),l8,by rw [pIs,if_neg (by rw [hb]; decide)],si_⟩))
 ·have hb:isT (tk T n) 1 u=true:=by simpa using h1
  refine b1q ?_; refine cY J2 ?_;exact d19
theorem b4I {n:Nat} {ps:List Str} (hT:T.length<=1000000) (hn:n < T.length) (hW:a0e T) (u:Str) {s:Nat} (hσ:PAt σ q s T n ps b):b8 CC 191 [.ptr q 0,(sv u)] σ (a3P (fun _:Nat=>.tup []) (fun a=>σ.set q (pbx T a ps b s)) (fun a=>pIs T n 1 u=some a/\a < T.length) σ q s (pIs T n 1 u=none)) :=
 a0m (c:=fun _:Nat=>.tup []) (N:=fun a=>a) (fun _ h=>by simp at h; subst h; exact .val _) (fun _=>B2 trivial) (c5p T n ps b hT hn hW u) hσ
theorem b9B (T:List Tok) (n:Nat) (ps:List Str) (b:List Ex) (hT:T.length<=1000000) (hn:n < T.length) (hW:a0e T) (u:Str):b8 CC 277 [.ptr 0 0,(sv u)] (pst T n ps b) (a3s (fun a:Bool × Nat=>(.val (.bool a.1))) (fun a=>pst T a.2 ps b) (fun a=>a.1=isT (tk T n) 4 u/\a.2=(if isT (tk T n) 4 u=true then n+1 else n)/\a.2 < T.length) False):=by
 refine (c4 Tryz.func277 rfl rfl ?_);refine z_6 ?_; refine d2B ?_; refine T7 ?_; refine cC (fun h1=>?_) fun h1=>?_
 ·have hb:isT (tk T n) 4 u=false:=by simpa using h1
  refine G5 ?_;exact ⟨_,j5 rfl tt c6,(by exact .inl ⟨(false,n),a0g rfl (.val _),hb.symm,by rw [if_neg (by rw [hb]; decide)],hn⟩)⟩
 ·have hb:isT (tk T n) 4 u=true:=by simpa using h1
  refine a5X ?_; refine a9e ?_; refine G5 ?_;exact ⟨_,j5 rfl tt c6,(by exact .inl ⟨(true,n+1),a0g rfl (.val _),hb.symm,by rw [if_pos hb],hW n hn (a59 hb de_)⟩)⟩
theorem a1f {n:Nat} {ps:List Str} (hT:T.length<=1000000) (hn:n < T.length) (hW:a0e T) (u:Str) {s:Nat} (hσ:PAt σ q s T n ps b):b8 CC 277 [.ptr q 0,(sv u)] σ fun r τ=>∃ a:Bool × Nat,r = .ret (.val (.bool a.1))/\τ=σ.set q (pbx T a.2 ps b s)/\a.1=isT (tk T n) 4 u/\a.2=(if isT (tk T n) 4 u=true then n+1 else n)/\a.2 < T.length :=
 (a0m (c:=fun a:Bool × Nat=>(.val (.bool a.1))) (N:=fun a:Bool × Nat=>a.2) (fun _ h=>by simp at h; subst h; exact .val _) (fun _=>.val _) (b9B T n ps b hT hn hW u) hσ).mono fun r τ h=>by
  rcases h with h | ⟨_,_,_,h,_⟩
  ·exact h
  ·exact h.elim
theorem c7G (T:List Tok) (n:Nat) (ps:List Str) (b:List Ex) (hT:T.length<=1000000) (hn:n < T.length) (hW:a0e T) (k:Int):b8 CC 235 [.ptr 0 0,(.val (.int .i64 k))] (pst T n ps b) (a3s (fun a:Tok × Nat=>.agg a.1.cells) (fun a=>pst T a.2 ps b) (fun a=>B6 T n k=some a/\a.2 < T.length) (B6 T n k=none)):=by
 refine (c4 Tryz.func235 rfl rfl ?_);refine b1P ?_; refine O3 ?_; refine cY b7j ?_; refine b0B ?_; refine a6y ?_; refine cY j7 ?_; refine a9A ?_; refine cC (fun h1=>?_) fun h1=>?_
 ·have hk:¬ (tk T n).k=k:=by simpa using h1
  refine b6o ?_;exact b0d rfl rfl (a06 rfl b4V o6 (a1d _ _ _) rfl (fun _ _=>.inr ⟨(_,_),l8,by rw [B6,if_neg hk],si_⟩))
 ·have hk:(tk T n).k=k:=by simpa using h1
  refine a4V ?_; refine G9 ?_; refine cC (fun h2=>?_) fun h2=>?_
  ·have h5:¬ k=5:=by simpa using h2
   refine z_5 ?_; refine cY J2 ?_; refine a9e ?_; refine z_0 ?_; refine cY Y3 ?_; refine b2F ?_;exact ⟨_,A8 rfl b29,(by exact .inl ⟨(tk T n,n+1),a0g rfl (a4W _ _),by rw [B6,if_pos hk,if_neg h5],hW n hn (by rw [hk]; exact h5)⟩)⟩
  ·have h5:k=5:=by simpa using h2
   refine a0x ?_; refine cY Y3 ?_; refine b2F ?_;exact ⟨_,A8 rfl b29,(by exact .inl ⟨(tk T n,n),a0g rfl (a4W _ _),by rw [B6,if_pos hk,if_pos h5],hn⟩)⟩
theorem a6R {n:Nat} {ps:List Str} (hT:T.length<=1000000) (hn:n < T.length) (hW:a0e T) (k:Int) {s:Nat} (hσ:PAt σ q s T n ps b):b8 CC 235 [.ptr q 0,(.val (.int .i64 k))] σ (a3P (fun a:Tok × Nat=>.agg a.1.cells) (fun a=>σ.set q (pbx T a.2 ps b s)) (fun a=>B6 T n k=some a/\a.2 < T.length) σ q s (B6 T n k=none)) :=
 a0m (c:=fun a:Tok × Nat=>.agg a.1.cells) (N:=fun a=>a.2) (fun _ h=>by simp at h; subst h; exact .val _) (fun _=>Y8 _) (c7G T n ps b hT hn hW k) hσ
def O1 (u:Str):Bool:=decide (u∈([[112,97,99,107,97,103,101],[105,109,112,111,114,116],[102,117,110,99],[116,101,115,116],[103,101,110],[105,102],[116,104,101,110],[101,108,115,101],[114,101,97,100],[115,105,122,101],[104,97,115],[101,110,118],[102,108,105,112]]:List Str))
theorem a5y (u:Str) (σ:List c5):b8 CC 236 [(sv u)] σ fun r σ'=>r = .ret (.val (.bool (O1 u)))/\σ'=σ:=by
 refine b8.anyw hCC pu_ pu_ ?_ σ;refine d4 (c4 Tryz.func236 rfl rfl ?_);refine a04 ?_; refine a5q ?_; refine a1R ?_; refine c6O ?_; refine cC (fun h1=>?_) fun h1=>?_
 ·have e:u=[112,97,99,107,97,103,101]:=by simpa using h1
  refine i8 ?_; refine cC (fun h2=>?_) fun h2=>?_
  ·refine G5 ?_;exact ⟨_,j5 rfl tt c6,_,_,rfl,rfl,j4 (show true=O1 u by rw [e]; decide)⟩
  ·exfalso;rw [h1] at h2;cases h2
 ·have e1:¬ u=[112,97,99,107,97,103,101]:=by simpa using h1
  refine a0b ?_; refine cC (fun h3=>?_) fun h3=>?_
  ·have e:u=[105,109,112,111,114,116]:=by simpa using h3
   refine i8 ?_; refine cC (fun h4=>?_) fun h4=>?_
   ·refine G5 ?_;exact ⟨_,j5 rfl tt c6,_,_,rfl,rfl,j4 (show true=O1 u by rw [e]; decide)⟩
   ·exfalso;rw [h3] at h4;cases h4
  ·have e2:¬ u=[105,109,112,111,114,116]:=by simpa using h3
   refine a0b ?_; refine cC (fun h5=>?_) fun h5=>?_
   ·have e:u=[102,117,110,99]:=by simpa using h5
    refine i8 ?_; refine cC (fun h6=>?_) fun h6=>?_
    ·refine G5 ?_;exact ⟨_,j5 rfl tt c6,_,_,rfl,rfl,j4 (show true=O1 u by rw [e]; decide)⟩
    ·exfalso;rw [h5] at h6;cases h6
   ·have e3:¬ u=[102,117,110,99]:=by simpa using h5
    refine a0b ?_; refine cC (fun h7=>?_) fun h7=>?_
    ·have e:u=[116,101,115,116]:=by simpa using h7
     refine i8 ?_; refine cC (fun h8=>?_) fun h8=>?_
     ·refine G5 ?_;exact ⟨_,j5 rfl tt c6,_,_,rfl,rfl,j4 (show true=O1 u by rw [e]; decide)⟩
     ·exfalso;rw [h7] at h8;cases h8
    ·have e4:¬ u=[116,101,115,116]:=by simpa using h7
     refine a0b ?_; refine cC (fun h9=>?_) fun h9=>?_
     ·have e:u=[103,101,110]:=by simpa using h9
      refine i8 ?_; refine cC (fun h10=>?_) fun h10=>?_
      ·refine G5 ?_;exact ⟨_,j5 rfl tt c6,_,_,rfl,rfl,j4 (show true=O1 u by rw [e]; decide)⟩
      ·exfalso;rw [h9] at h10;cases h10
     ·have e5:¬ u=[103,101,110]:=by simpa using h9
      refine a0b ?_; refine cC (fun h11=>?_) fun h11=>?_
      ·have e:u=[105,102]:=by simpa using h11
       refine i8 ?_; refine cC (fun h12=>?_) fun h12=>?_
       ·refine G5 ?_;exact ⟨_,j5 rfl tt c6,_,_,rfl,rfl,j4 (show true=O1 u by rw [e]; decide)⟩
       ·exfalso;rw [h11] at h12;cases h12
      ·have e6:¬ u=[105,102]:=by simpa using h11
       refine a0b ?_; refine cC (fun h13=>?_) fun h13=>?_
       ·have e:u=[116,104,101,110]:=by simpa using h13
        refine i8 ?_; refine cC (fun h14=>?_) fun h14=>?_
        ·refine G5 ?_;exact ⟨_,j5 rfl tt c6,_,_,rfl,rfl,j4 (show true=O1 u by rw [e]; decide)⟩
        ·exfalso;rw [h13] at h14;cases h14
       ·have e7:¬ u=[116,104,101,110]:=by simpa using h13
        refine a0b ?_; refine cC (fun h15=>?_) fun h15=>?_
        ·have e:u=[101,108,115,101]:=by simpa using h15
         refine i8 ?_; refine cC (fun h16=>?_) fun h16=>?_
         ·refine G5 ?_;exact ⟨_,j5 rfl tt c6,_,_,rfl,rfl,j4 (show true=O1 u by rw [e]; decide)⟩
         ·exfalso;rw [h15] at h16;cases h16
        ·have e8:¬ u=[101,108,115,101]:=by simpa using h15
         refine a0b ?_; refine cC (fun h17=>?_) fun h17=>?_
         ·have e:u=[114,101,97,100]:=by simpa using h17
          refine i8 ?_; refine cC (fun h18=>?_) fun h18=>?_
          ·refine G5 ?_;exact ⟨_,j5 rfl tt c6,_,_,rfl,rfl,j4 (show true=O1 u by rw [e]; decide)⟩
          ·exfalso;rw [h17] at h18;cases h18
         ·have e9:¬ u=[114,101,97,100]:=by simpa using h17
          refine a0b ?_; refine cC (fun h19=>?_) fun h19=>?_
          ·have e:u=[115,105,122,101]:=by simpa using h19
           refine i8 ?_; refine cC (fun h20=>?_) fun h20=>?_
           ·refine G5 ?_;exact ⟨_,j5 rfl tt c6,_,_,rfl,rfl,j4 (show true=O1 u by rw [e]; decide)⟩
           ·exfalso;rw [h19] at h20;cases h20
          ·have e10:¬ u=[115,105,122,101]:=by simpa using h19
           refine a0b ?_; refine cC (fun h21=>?_) fun h21=>?_
           ·have e:u=[104,97,115]:=by simpa using h21
            refine i8 ?_; refine cC (fun h22=>?_) fun h22=>?_
            ·refine G5 ?_;exact ⟨_,j5 rfl tt c6,_,_,rfl,rfl,j4 (show true=O1 u by rw [e]; decide)⟩
            ·exfalso;rw [h21] at h22;cases h22
           ·have e11:¬ u=[104,97,115]:=by simpa using h21
            refine a0b ?_; refine cC (fun h23=>?_) fun h23=>?_
            ·have e:u=[101,110,118]:=by simpa using h23
             refine i8 ?_; refine cC (fun h24=>?_) fun h24=>?_
             ·refine G5 ?_;exact ⟨_,j5 rfl tt c6,_,_,rfl,rfl,j4 (show true=O1 u by rw [e]; decide)⟩
             ·exfalso;rw [h23] at h24;cases h24
            ·have e12:¬ u=[101,110,118]:=by simpa using h23
             refine A0 ?_; refine c6O ?_; refine cC (fun h25=>?_) fun h25=>?_
             ·have e:u=[102,108,105,112]:=by simpa using h25
              refine G5 ?_;exact ⟨_,j5 rfl tt c6,_,_,rfl,rfl,j4 (show true=O1 u by rw [e]; decide)⟩
             ·have e13:¬ u=[102,108,105,112]:=by simpa using h25
              refine i8 ?_; refine G5 ?_;exact ⟨_,j5 rfl tt c6,_,_,rfl,rfl,j4 (show false=O1 u by simp [O1,e1,e2,e3,e4,e5,e6,e7,e8,e9,e10,e11,e12,e13])⟩
def ixS:List Str->Str->Nat->Int
 | [],_,_=>-1
 | y::l,x,i=>if y=x then i else ixS l x (i+1)
theorem b0w {l:List Str} {y:Str} (h:l[i]? = some y) (x:Str):ixS (l.drop i) x i=if y=x then (i:Int) else ixS (l.drop (i+1)) x (i+1):=by
 obtain ⟨hlt,rfl⟩:=n_0.1 h;rw [Q9 hlt];rfl
theorem a8i (x:Str):∀ (l:List Str) (i:Nat),(x∉l/\ixS l x i = -1)\/(x∈l/\(i:Int)<=ixS l x i/\ixS l x i < i+l.length)
 | [],_=>.inl ⟨si_,rfl⟩
 | y::l,i=>by
  rw [ixS];by_cases h:y=x
  ·rw [if_pos h];exact .inr ⟨by simp [h],om_,by simp; omega⟩
  ·rw [if_neg h]
   rcases a8i x l (i+1) with ⟨h1,h2⟩ | ⟨h1,h2,h3⟩
   ·exact .inl ⟨by simp [h1,Ne.symm h],h2⟩
   ·exact .inr ⟨by simp [h1],om_,by simp; omega⟩
theorem c91 {l:List Str} {x:Str}:0<=ixS l x 0↔x∈l:=by
 rcases a8i x l 0 with ⟨h1,h2⟩ | ⟨h1,h2,_⟩
 ·rw [h2]; simp [h1]
 ·simp [h1]; omega
theorem a85 (l:List Str) (nn:Bool) (x:Str) (hl:l.length<=1000000000) (σ:List c5):b8 CC 205 [(.list (l.map scv) nn none),(sv x)] σ fun r σ'=>r = .ret (.val (.int .i64 (ixS l x 0)))/\σ'=σ:=by
 refine b8.anyw hCC pu_ pu_ ?_ σ;refine d4 (c4 Tryz.func205 rfl rfl ?_);refine a04 ?_; refine a0W ?_; refine o0 hCC (α:=Nat) (fun i=>[(0,(.list (l.map scv) nn none)),(1,(sv x)),(7,(.val (.int .i64 (l.length:Int)))),(8,(.val (.int .i64 (i:Int))))]) (fun _=>[]) (fun i=>i<=l.length/\ixS l x 0=ixS (l.drop i) x i) (fun i=>l.length - i) 0 ⟨n_3 _,rfl⟩ tu_ (extra0:=[]) rfl A1 uz_ ?_; intro i ⟨hi,hr⟩; refine F2 ?_; refine cC (fun h1=>?_) fun h1=>?_
 ·have hlt:(i:Int) < l.length:=by simpa using h1
  obtain ⟨y,hb⟩:∃ y,l[i]? = some y:=⟨l[i]'om_,si_⟩;rw [b0w hb] at hr;refine Z0 ?_; refine z_2 ?_; refine a0n ?_; refine b5R ?_; refine b2k ?_; refine cC (fun h2=>?_) fun h2=>?_
  ·have hx:y=x:=(show x=y by simpa using h2).symm;rw [if_pos hx] at hr;exact d1U
  ·have hx:¬ y=x:=fun e=>by subst e; simp at h2
   rw [if_neg hx] at hr;exact b3R
 ·have hge:i=l.length:=by
   have:¬ (i:Int) < l.length:=by simpa using h1
   omega
  refine a3y ?_;exact ⟨_,j5 rfl tt c6,_,_,rfl,rfl,H6 (by rw [hr,hge,List.drop_length]; rfl)⟩
theorem a6v (l:List Str) (nn:Bool) (x:Str) (hl:l.length<=1000000000):b8 CC 160 [(.list (l.map scv) nn none),(sv x)] [] fun r σ'=>r = .ret (.val (.bool (decide (x∈l))))/\σ'=[]:=by
 refine d4 (c4 Tryz.func160 rfl rfl ?_);refine a2U ?_; refine cY (c7 rfl Tryz.call205 j1 (a85 l nn x hl _) rfl) ?_; refine cY P1 ?_; refine z_7 ?_;exact ⟨_,j5 rfl tt c6,_,_,rfl,rfl,j4 (decide_eq_decide.2 c91)⟩
theorem Y5 (l:List Str) (nn:Bool) (x:Str) (hl:l.length<=1000000000) (σ:List c5):b8 CC 160 [(.list (l.map scv) nn none),(sv x)] σ fun r σ'=>r = .ret (.val (.bool (decide (x∈l))))/\σ'=σ :=
 b8.anyw hCC pu_ pu_ (a6v l nn x hl) σ
theorem a4p {n n1:Nat} {k:Int} (h:B6 T n k=some (t,n1)):t=tk T n:=by
 unfold B6 at h;split at h
 ·injection h with h; injection h with h _; exact h.symm
 ·cases h
def c8v (T:List Tok):Prop:=∀ n,(tk T n).t.length<=1000000
def F6 (T:List Tok) (n:Nat):Option (Tok × Nat):=(B6 T n 1).bind fun x=>if O1 x.1.t=true then none else some x
def V0 (T:List Tok) (n:Nat):Option (Tok × Nat):=(B6 T n 3).bind fun x=>if C1 x.1.t=true then some x else none
theorem c8r (T:List Tok) (n:Nat) (ps:List Str) (b:List Ex) (hT:T.length<=1000000) (hn:n < T.length) (hW:a0e T):b8 CC 192 [.ptr 0 0] (pst T n ps b) (a3s (fun a:Tok × Nat=>.agg a.1.cells) (fun a=>pst T a.2 ps b) (fun a=>F6 T n=some a/\a.2 < T.length) (F6 T n=none)):=by
 refine (c4 Tryz.func192 rfl rfl ?_);refine b1P ?_; refine O3 ?_;refine cD (o3 rfl c62 o6 (a6R hT hn hW 1 ⟨rfl,rfl,de_⟩) rfl (fun x hx=>.inr ⟨x,l8,by rw [F6,hx.1]; rfl,hx.2⟩) ?_);rintro ⟨t,n1⟩ ⟨ht,hn1⟩;have hte:=a4p ht;subst hte;dsimp only at ht hn1 ⊢;refine b0B ?_; refine a2K ?_; refine d1y ?_; refine cC (fun h1=>?_) fun h1=>?_
 ·have hr:O1 (tk T n).t=true:=by simpa using h1
  refine b6o ?_;exact b0d rfl rfl (a06 rfl b4V o6 (a1d _ _ _) rfl (fun _ _=>.inr ⟨(_,_),l8,by rw [F6,ht,n_5,if_pos hr],si_⟩))
 ·have hr:O1 (tk T n).t=false:=by simpa using h1
  refine a0x ?_; refine cY Y3 ?_; refine b2F ?_;exact ⟨_,A8 rfl b29,(by exact .inl ⟨(tk T n,n1),a0g rfl (a4W _ _),by rw [F6,ht,n_5,if_neg (by rw [hr]; decide)],hn1⟩)⟩
theorem a9W {n:Nat} {ps:List Str} (hT:T.length<=1000000) (hn:n < T.length) (hW:a0e T) {s:Nat} (hσ:PAt σ q s T n ps b):b8 CC 192 [.ptr q 0] σ (a3P (fun a:Tok × Nat=>.agg a.1.cells) (fun a=>σ.set q (pbx T a.2 ps b s)) (fun a=>F6 T n=some a/\a.2 < T.length) σ q s (F6 T n=none)) :=
 a0m (c:=fun a:Tok × Nat=>.agg a.1.cells) (N:=fun a=>a.2) (fun _ h=>by cases h) (fun _=>Y8 _) (c8r T n ps b hT hn hW) hσ
theorem c7h (T:List Tok) (n:Nat) (ps:List Str) (b:List Ex) (hT:T.length<=1000000) (hn:n < T.length) (hW:a0e T) (hL:c8v T):b8 CC 237 [.ptr 0 0] (pst T n ps b) (a3s (fun a:Tok × Nat=>.agg a.1.cells) (fun a=>pst T a.2 ps b) (fun a=>V0 T n=some a/\a.2 < T.length) (V0 T n=none)):=by
 refine (c4 Tryz.func237 rfl rfl ?_);refine b1P ?_; refine O3 ?_;refine cD (o3 rfl c62 o6 (a6R hT hn hW 3 ⟨rfl,rfl,de_⟩) rfl (fun x hx=>.inr ⟨x,l8,by rw [V0,hx.1]; rfl,hx.2⟩) ?_);rintro ⟨t,n1⟩ ⟨ht,hn1⟩;have hte:=a4p ht;subst hte;dsimp only at ht hn1 ⊢;refine b0B ?_; refine a2K ?_; refine cY (c7 rfl c3i ⟨tt,tt⟩ (a1k (tk T n).t (by have:=hL n; omega) _) rfl) ?_; refine T7 ?_; refine cC (fun h1=>?_) fun h1=>?_
 ·have hr:C1 (tk T n).t=false:=by simpa using h1
  refine b6o ?_;exact b0d rfl rfl (a06 rfl b4V o6 (a1d _ _ _) rfl (fun _ _=>.inr ⟨(_,_),l8,by rw [V0,ht,n_5,if_neg (by rw [hr]; decide)],si_⟩))
 ·have hr:C1 (tk T n).t=true:=by simpa using h1
  refine a0x ?_; refine cY Y3 ?_; refine b2F ?_;exact ⟨_,A8 rfl b29,(by exact .inl ⟨(tk T n,n1),a0g rfl (a4W _ _),by rw [V0,ht,n_5,if_pos hr],hn1⟩)⟩
theorem a9T {n:Nat} {ps:List Str} (hT:T.length<=1000000) (hn:n < T.length) (hW:a0e T) (hL:c8v T) {s:Nat} (hσ:PAt σ q s T n ps b):b8 CC 237 [.ptr q 0] σ (a3P (fun a:Tok × Nat=>.agg a.1.cells) (fun a=>σ.set q (pbx T a.2 ps b s)) (fun a=>V0 T n=some a/\a.2 < T.length) σ q s (V0 T n=none)) :=
 a0m (c:=fun a:Tok × Nat=>.agg a.1.cells) (N:=fun a=>a.2) (fun _ h=>by cases h) (fun _=>Y8 _) (c7h T n ps b hT hn hW hL) hσ
def U3 (b:List Ex) (x:Ex):Option (Nat × List Ex):=if b.length=256 then none else some (b.length,b++[x])
theorem c4K (T:List Tok) (n:Nat) (ps:List Str) (b:List Ex) (_:T.length<=1000000) (_:n < T.length) (hb:b.length<=256) (t:Tok) (x:Ex):b8 CC 279 [.ptr 0 0,.agg t.cells,.agg x.cells] (pst T n ps b) (a3s (fun a:Nat × List Ex=>(.val (.int .i64 (a.1:Int)))) (fun a=>a6u T n ps a.2) (fun a=>U3 b x=some a/\a.2.length<=256) (U3 b x=none)):=by
 refine (c4 Tryz.func279 rfl rfl ?_);refine b01 ?_; refine z_3 ?_; refine b6k ?_; refine cY b2B ?_; refine b53 ?_; refine G9 ?_; refine cC (fun h1=>?_) fun h1=>?_
 ·have h256:b.length=256:=by simp at h1; omega
  refine b6o ?_;exact b0d rfl rfl (a06 rfl b4V o6 (a1d _ _ _) rfl (fun _ _=>.inr ⟨(_,_),l8,by rw [U3,if_pos h256],si_⟩))
 ·have h256:¬ b.length=256:=by simp at h1; omega
  have hl1:(b++[x]).length=b.length+1:=by simp
  refine z_9 ?_; refine d1X ?_; refine a8d ?_; refine chf rfl (d6 rfl b2B) ?_; refine chf rfl (d6 rfl a7o) ?_; refine chf rfl (d6 rfl a88) ?_; refine chf rfl d4I ?_; refine D2 ?_;refine A9 rfl rfl (D9 rfl tt tt rfl si_ R6 b50 a91 Tryz.typeInfo212 b4x rfl (.inr rfl) X0 (by have hb:Tryz.t212.bytes=64:=rfl; rw [hb]; first|omega|(simp; done)|(simp; omega)) H3 ((b++[x]).map Ex.cv) (b++[x]).length si_ si_ ?_);refine c7R ?_;refine D5 rfl (d6 rfl b2B) ⟨tt,?_⟩;refine d1A ?_; refine a4R ?_; refine cY b2B ?_; refine b53 ?_; refine cY a4K ?_; refine z_7 ?_;exact ⟨_,j5 rfl tt c6,(by rw [show (((b++[x]).length:Int) - 1)=(b.length:Int) by omega]; exact .inl ⟨(b.length,b++[x]),X2 (k:=4) rfl rfl de_ (.val _),by rw [U3,if_neg h256],by show (b++[x]).length<=256; omega⟩)⟩
theorem Z3 {n:Nat} {ps:List Str} (hT:T.length<=1000000) (hn:n < T.length) (hb:b.length<=256) (t:Tok) (x:Ex) {s:Nat} (hσ:PAt σ q s T n ps b):b8 CC 279 [.ptr q 0,.agg t.cells,.agg x.cells] σ (a3P (fun a:Nat × List Ex=>(.val (.int .i64 (a.1:Int)))) (fun a=>(σ.set q (pbx T n ps a.2 σ.length)).set s .dead++[r7 a.2.length]) (fun a=>U3 b x=some a/\a.2.length<=256) σ q s (U3 b x=none)) :=
 a2M (c:=fun a:Nat × List Ex=>(.val (.int .i64 (a.1:Int)))) (N:=fun _=>n) (B:=fun a=>a.2) (fun _ h=>by simp at h; rcases h with rfl | rfl; exact Y8 _; exact o8 x.pure) (fun _=>.val _) (c4K T n ps b hT hn hb t x) hσ
theorem c8V {rest:List c5} {n:Nat} {ps:List Str} (hτ:τ=pbx T n ps b 1::r7 b.length::rest) (hc:r8 2 [0,1] c c'):C6 2 τ (.ret c) (.ret c') (pst T n ps b):=by
 subst hτ;exact ⟨[0,1],rfl,rfl,.ret hc,.inr ⟨_,rfl,.same rfl (a41 de_)⟩,.inr ⟨_,rfl,.same rfl s9⟩,tt⟩
theorem W6 {f:α->List CV} {nn:Bool} {tok:Option Nat} (h:∀ a,S2 (f a)) (l:List α):r8 L sel (.list (l.map f) nn tok) (.list (l.map f) nn none) :=
 .list (fun r hr c hc=>(A6 (f:=f) (fun a=>(h a).all) _ r hr c hc).old) (fun j hj=>by cases hj)
def a0H:Nat->List Tok->Nat->List Str->Option (List Str × Nat)
 | 0,_,_,_=>none
 | f+1,T,n,l=>(F6 T n).bind fun x=>if l.length=8 then none else if x.1.t∈l then none else
  if isT (tk T x.2) 4 [44]=true then a0H f T (x.2+1) (l++[x.1.t]) else (pIs T x.2 4 [41]).bind fun m=>some (l++[x.1.t],m)
def G7 (T:List Tok) (n:Nat):Option (List Str × Nat):=(pIs T n 4 [40]).bind fun m=>if isT (tk T m) 4 [41]=true then some ([],m+1) else a0H 9 T m []
theorem S9 (l:List α) (x:α):(l++[x]).length=l.length+1:=by simp
theorem b0u (T:List Tok) (n:Nat) (ps:List Str) (b:List Ex) (hT:T.length<=1000000) (hn:n < T.length) (hW:a0e T):b8 CC 240 [.ptr 0 0] (pst T n ps b) (a3s (fun a:List Str × Nat=>.list (a.1.map scv) (gnn a.1.length) none) (fun a=>pst T a.2 ps b) (fun a=>G7 T n=some a/\a.2 < T.length/\a.1.length<=8) (G7 T n=none)):=by
 refine (c4 Tryz.func240 rfl rfl ?_);refine z_6 ?_; refine a1T ?_;refine cD (o3 rfl a5p o6 (O7 hT hn hW [40] ⟨rfl,rfl,de_⟩) rfl (fun x hx=>.inr ⟨x,l8,by rw [G7,hx.1]; rfl,hx.2⟩) ?_);rintro n1 ⟨hs1,hn1⟩;dsimp only at hs1 hn1 ⊢;refine a2s ?_;refine cD (b9 rfl c2F o6 (a1f hT hn1 hW [41] ⟨rfl,rfl,de_⟩) rfl ?_);rintro ⟨ac,n2⟩ ⟨ha,hn2,hn2l⟩;dsimp only at ha hn2 hn2l ⊢;refine i7 ?_; refine cC (fun h1=>?_) fun h1=>?_
 ·have hc:isT (tk T n1) 4 [41]=true:=by rw [<- ha]; simpa using h1
  rw [if_pos hc] at hn2;refine G5 ?_;exact ⟨_,j5 rfl tt c6,(by exact .inl ⟨([],n2),a0g rfl (A5 _ [] false),by rw [G7,hs1,n_5,if_pos hc,hn2],hn2l,by show 0<=8; decide⟩)⟩
 ·have hc:¬ isT (tk T n1) 4 [41]=true:=by rw [<- ha]; simpa using h1
  rw [if_neg hc] at hn2;refine a6K ?_; refine A2 hCC 2 rfl (α:=List Str × Nat) (fun x=>[(0,.ptr 0 0),(3,(.list (x.1.map scv) (gnn x.1.length) (E7 x.1.length 2)))]) (fun x=>[pbx T x.2 ps b 1,r7 b.length,r7 x.1.length]) (fun x=>x.1.length<=8/\x.2 < T.length/\G7 T n=a0H (9 - x.1.length) T x.2 x.1) (fun x=>9 - x.1.length) ⟨([],n2),[0,1,7],⟨n_3 _,hn2l,by rw [G7,hs1,n_5,if_neg hc,hn2]; rfl⟩,⟨rfl,rfl⟩,d4O,⟨.inr ⟨_,rfl,.same rfl (a41 de_)⟩,.inr ⟨_,rfl,.same rfl s9⟩,.inl rfl,tt⟩⟩ ?_; intro ⟨l,m⟩ ⟨hl,hm,hsp⟩;dsimp only at hl hm hsp ⊢;obtain ⟨f,hf⟩:∃ f,9 - l.length=f+1:=⟨8 - l.length,om_⟩;rw [hf,a0H] at hsp;refine B7 ?_; refine z_1 ?_;refine cD (o3 rfl c0T ⟨tt,tt⟩ (a9W hT hm hW ⟨rfl,rfl,de_⟩) rfl (fun x hx=>.inr ⟨x,l8,by rw [hsp,hx.1]; rfl,hx.2⟩) ?_);rintro ⟨t,m1⟩ ⟨ht,hm1⟩;dsimp only at ht hm1 ⊢;rw [ht,n_5] at hsp;dsimp only at hsp;refine a8m ?_; refine a2s ?_; refine a7B ?_; refine cC (fun h2=>?_) fun h2=>?_
  ·have h8:l.length=8:=by simp at h2; omega
   rw [if_pos h8] at hsp;exact a32
  ·have h8:¬ l.length=8:=by simp at h2; omega
   rw [if_neg h8] at hsp;refine a4V ?_; refine a2K ?_; refine cY (c7 rfl c6V j1 (Y5 l (gnn l.length) t.t om_ _) rfl) ?_; refine i7 ?_; refine cC (fun h3=>?_) fun h3=>?_
   ·have hi:t.t∈l:=by simpa using h3
    rw [if_pos hi] at hsp;exact a32
   ·have hi:¬ t.t∈l:=by simpa using h3
    rw [if_neg hi] at hsp;have hls:=S9 l t.t;refine a05 ?_; refine a2K ?_; refine cY (A3 [scv t.t] rfl ⟨tt,tt⟩ t_2 t_0 t_3 rfl rfl rfl rfl rfl rfl rfl rfl rfl) ?_;refine cD (D9 rfl tt tt rfl si_ R6 t_2 t_0 a8h t_3 rfl (.inr rfl) X0 V5 H3 ((l++[t.t]).map scv) (l++[t.t]).length si_ si_ ?_);refine M9 ?_;refine cD (b9 rfl c2F o6 (a1f hT hm1 hW [44] ⟨rfl,rfl,de_⟩) rfl ?_);rintro ⟨ac2,m2⟩ ⟨ha2,hm2,hm2l⟩;dsimp only at ha2 hm2 hm2l ⊢;refine T7 ?_; refine cC (fun h4=>?_) fun h4=>?_
    ·have hc2:¬ isT (tk T m1) 4 [44]=true:=by rw [<- ha2]; simpa using h4
     rw [if_neg hc2] at hm2 hsp;subst hm2; refine a9I ?_;refine cD (o3 rfl a5p o6 (O7 hT hm2l hW [41] ⟨rfl,rfl,de_⟩) rfl (fun x hx=>.inr ⟨x,l8,by rw [hsp,hx.1]; rfl,hx.2⟩) ?_);rintro m3 ⟨hs3,hm3⟩;dsimp only at hs3 hm3 ⊢;refine O3 ?_; refine z_7 ?_;exact ⟨_,j5 rfl tt c6,(by exact .inl ⟨(l++[t.t],m3),c8V rfl (W6 (f:=scv) (fun _=>⟨.val _,tt⟩) _),by rw [hsp,hs3]; rfl,hm3,by show (l++[t.t]).length<=8; omega⟩)⟩
    ·have hc2:isT (tk T m1) 4 [44]=true:=by rw [<- ha2]; simpa using h4
     rw [if_pos hc2] at hm2 hsp;subst hm2; refine i8 ?_;exact ⟨(l++[t.t],m1+1),[0,1,4],⟨do_,do_,hm2l,by dsimp only; rw [hsp,show 9 - (l++[t.t]).length=f by omega]⟩,⟨rfl,rfl⟩,d4O,⟨.inr ⟨_,rfl,.same rfl (a41 de_)⟩,.inr ⟨_,rfl,.same rfl s9⟩,.inr ⟨_,rfl,.same rfl s9⟩,tt⟩⟩
theorem b1R {n:Nat} {ps:List Str} (hT:T.length<=1000000) (hn:n < T.length) (hW:a0e T) {s:Nat} (hσ:PAt σ q s T n ps b):b8 CC 240 [.ptr q 0] σ (a3P (fun a:List Str × Nat=>.list (a.1.map scv) (gnn a.1.length) none) (fun a=>σ.set q (pbx T a.2 ps b s)) (fun a=>G7 T n=some a/\a.2 < T.length/\a.1.length<=8) σ q s (G7 T n=none)) :=
 a0m (c:=fun a:List Str × Nat=>.list (a.1.map scv) (gnn a.1.length) none) (N:=fun a=>a.2) (fun _ h=>by cases h) (fun _=>F7 _ _) (b0u T n ps b hT hn hW) hσ
def G4 (op:Int):Int:=if op=6\/op=7 then 1 else if op=1\/op=2 then 2 else 3
def S0:List (Int × Str):=[(1,[43]),(2,[45]),(3,[42]),(4,[47]),(5,[37]),(6,[60]),(7,[61,61])]
theorem a6B (op:Int) (σ:List c5):b8 CC 319 [(.val (.int .i64 op))] σ fun r σ'=>r = .ret (.val (.int .i64 (G4 op)))/\σ'=σ:=by
 refine b8.anyw hCC pu_ pu_ ?_ σ;refine d4 (c4 Tryz.func319 rfl rfl ?_);refine a04 ?_; refine a5q ?_; refine w8 ?_; refine K1 ?_; refine cC (fun h1=>?_) fun h1=>?_
 ·have e:op=6:=by simpa using h1
  refine i8 ?_; refine cC (fun h2=>?_) fun h2=>?_
  ·refine G5 ?_;exact ⟨_,j5 rfl tt c6,_,_,rfl,rfl,H6 (show (1:Int)=G4 op by rw [G4,if_pos (.inl e)])⟩
  ·rw [h1] at h2;cases h2
 ·have e6:¬ op=6:=by simpa using h1
  refine a5E ?_; refine cC (fun h6=>?_) fun h6=>?_
  ·have e:op=7:=by simpa using h6
   refine G5 ?_;exact ⟨_,j5 rfl tt c6,_,_,rfl,rfl,H6 (show (1:Int)=G4 op by rw [G4,if_pos (.inr e)])⟩
  ·have e7:¬ op=7:=by simpa using h6
   refine w8 ?_; refine K1 ?_; refine cC (fun h7=>?_) fun h7=>?_
   ·have e:op=1:=by simpa using h7
    refine i8 ?_; refine cC (fun h8=>?_) fun h8=>?_
    ·refine G5 ?_;exact ⟨_,j5 rfl tt c6,_,_,rfl,rfl,H6 (show (2:Int)=G4 op by rw [G4,if_neg om_,if_pos (.inl e)])⟩
    ·rw [h7] at h8;cases h8
   ·have e1:¬ op=1:=by simpa using h7
    refine a5E ?_; refine cC (fun h9=>?_) fun h9=>?_
    ·have e:op=2:=by simpa using h9
     refine G5 ?_;exact ⟨_,j5 rfl tt c6,_,_,rfl,rfl,H6 (show (2:Int)=G4 op by rw [G4,if_neg om_,if_pos (.inr e)])⟩
    ·have e2:¬ op=2:=by simpa using h9
     refine i8 ?_; refine G5 ?_;exact ⟨_,j5 rfl tt c6,_,_,rfl,rfl,H6 (show (3:Int)=G4 op by rw [G4,if_neg om_,if_neg om_])⟩
theorem d0Q (m:List (Int × Str)):a22 (.map (gm kv sv m)):=fun x hx=>by
 obtain ⟨y,_,rfl⟩:=K3.1 hx;exact ⟨.val _,.val _⟩
theorem c3g:b8 CC 307 [] [] fun r τ=>∃ _:Unit,a08 [c5.map (gm kv sv S0)].length τ r (.ret (.map 0))/\b0A [c5.map (gm kv sv S0)].length τ τ [c5.map (gm kv sv S0)]/\([]:List c5).length<=[c5.map (gm kv sv S0)].length/\True:=by
 refine (c4 Tryz.func307 rfl rfl ?_);refine a3C ?_;refine cD (X9 rfl ?_);refine cD (k8 (vc:=sv) (l:=S0.take 0) Z9 (.inr rfl) tt rfl rfl rfl rfl rfl a1Q rfl ?_);refine cD (k8 (vc:=sv) (l:=S0.take 1) Z9 (.inr rfl) tt rfl rfl rfl rfl rfl a1Q rfl ?_);refine cD (k8 (vc:=sv) (l:=S0.take 2) Z9 (.inr rfl) tt rfl rfl rfl rfl rfl a1Q rfl ?_);refine cD (k8 (vc:=sv) (l:=S0.take 3) Z9 (.inr rfl) tt rfl rfl rfl rfl rfl a1Q rfl ?_);refine cD (k8 (vc:=sv) (l:=S0.take 4) Z9 (.inr rfl) tt rfl rfl rfl rfl rfl a1Q rfl ?_);refine cD (k8 (vc:=sv) (l:=S0.take 5) Z9 (.inr rfl) tt rfl rfl rfl rfl rfl a1Q rfl ?_);refine cD (k8 (vc:=sv) (l:=S0.take 6) Z9 (.inr rfl) tt rfl rfl rfl rfl rfl a1Q rfl ?_);refine cY j7 ?_; refine z_7 ?_;exact ⟨_,j5 rfl tt c6,(by exact ⟨(),.ret (.old (.map (Nat.zero_lt_one))),⟨.same (d0Q _).old,tt⟩,n_3 _,tt⟩)⟩
theorem b1s (σ:List c5):b8 CC 307 [] σ fun r τ=>∃ _:Unit,r = .ret (.map σ.length)/\τ=σ++[.map (gm kv sv S0)]/\True :=
 a0u (α:=Unit) (obs:=[]) (args:=[]) (res:=fun _=>.ret (.map 0)) (res':=fun _=>.ret (.map σ.length)) (S:=fun _=>[]) (N:=fun _=>[.map (gm kv sv S0)]) (P:=fun _=>True) [] hCC rfl (fun i j k h=>by simp at h) (fun i k h=>by simp at h) (fun ob h=>by cases h) ⟨rfl,fun i c c' h=>by simp at h⟩
  (a0o (res:=fun _=>.ret (.map 0)) (S:=fun _=>[.map (gm kv sv S0)]) (P:=fun _=>True) hCC c3g) (fun m _=>⟨rfl,fun ob h=>by simp at h; subst h; exact d0Q _⟩) (fun m _=>.ret (.map (.inr ⟨n_3 _,rfl⟩)))
def opM (t:Tok) (lv:Int) (x:Int × Str):Bool:=(t.k == 4) && decide (t.t=x.2) && (G4 x.1 == lv)
def opS (t:Tok) (lv:Int):Int:=((S0.find? (opM t lv)).map (·.1)).getD 0
theorem d4a:∀ x∈S0,∀ y∈S0,x.2=y.2->x=y:=by decide
theorem a4E {x:Int × Str} (hx:x∈S0) (h:opM t lv x=true):opS t lv=x.1:=by
 unfold opS;cases hf:S0.find? (opM t lv) with
 | none=>exact absurd h (by simpa using List.find?_eq_none.1 hf x hx)
 | some y =>
  have h1:=List.find?_some hf;have h2:=b9V hf;simp [opM] at h h1;have:=d4a x hx y h2 (by rw [<- h.1.2,<- h1.1.2]);rw [this]; rfl
theorem b0F (h:∀ x∈S0,opM t lv x=false):opS t lv=0:=by
 unfold opS;have:S0.find? (opM t lv)=none:=List.find?_eq_none.2 fun x hx=>by simp [h x hx]
 rw [this]; rfl
theorem b37 {l:List α} {x y:α} (hy:l[i]? = some y) (h:x∈l):x=y\/x∈l.eraseIdx i:=by
 obtain ⟨j,hj⟩:=K8.1 h;by_cases hji:j=i
 ·subst hji; rw [hy] at hj; injection hj with hj; exact .inl hj.symm
 ·exact .inr (c7O.2 ⟨j,hji,hj⟩)
theorem b4K (T:List Tok) (n:Nat) (ps:List Str) (b:List Ex) (hT:T.length<=1000000) (hn:n < T.length) (lv:Int):b8 CC 302 [.ptr 0 0,(.val (.int .i64 lv))] (pst T n ps b) (fun r τ=>C6 2 τ r (.ret (.val (.int .i64 (opS (tk T n) lv)))) (pst T n ps b)):=by
 refine (c4 Tryz.func302 rfl rfl ?_);refine a1T ?_; refine cY b7j ?_; refine b0B ?_;refine cD (b9 rfl c7f trivial (b1s _) rfl ?_);intro _ _;refine cD (c04 rfl tt rfl a1Q rfl ?_);refine a5q ?_; refine o0 hCC (α:=List (Int × Str) × List (Int × Str)) (fun x=>[(1,(.val (.int .i64 lv))),(5,.ptr 2 0),(11,.ptr 4 0)]) (fun x=>[pbx T n ps b 1,r7 b.length,.box (tk T n).cells,.dead,.iter (gm kv sv x.1) (gm kv sv x.2)]) (fun x=>(∀ y∈x.2,y∈S0)/\∀ y∈S0,y∉x.2->opM (tk T n) lv y=false) (fun x=>x.2.length) ([],S0) ⟨fun y h=>h,fun y h h2=>absurd h h2⟩ tu_ (extra0:=[]) rfl A1 uz_ ?_; intro ⟨cur,left⟩ ⟨hls,hno⟩;dsimp only at hls hno ⊢;refine z_0 ?_;refine cD (c8k rfl tt rfl rfl (fun hz=>?_) (fun i x hx=>?_))
 ·
  have hl0:left=[]:=by
   cases left with
   | nil=>rfl
   | cons y l=>cases hz
  subst hl0; refine cY a67 ?_; refine z_8 ?_; refine cC (fun h1=>?_) fun h1=>?_
  ·cases h1
  ·have hz0:=b0F (fun y hy=>hno y hy si_);refine a3y ?_;exact ⟨_,j5 rfl tt c6,(by rw [hz0]; exact a0g rfl (.val _))⟩
 ·
  obtain ⟨⟨k,s⟩,hy,rfl⟩:=c7T hx;rw [b6e];have hks:=hls _ (n_1 hy);refine cY a67 ?_; refine z_8 ?_; refine cC (fun h3=>?_) fun h3=>?_
  ·refine a2L ?_; refine z_0 ?_; refine cY (c11 rfl tt rfl rfl) ?_; refine d3i ?_; refine cY I1 ?_; refine z_2 ?_; refine z_0 ?_; refine a6y ?_; refine a4O ?_; refine cG b6w ?_; refine b6g ?_; refine b46 ?_; refine cG (fun hg=>c7 rfl Tryz.call319 ⟨hg,tt⟩ (a6B k _) rfl) ?_; refine cG Y6 ?_; refine cG a8z ?_; refine a6J ?_; refine cC (fun h4=>?_) fun h4=>?_
   ·have hm:opM (tk T n) lv (k,s)=true:=h4;have hz1:=a4E hks hm;refine a8B ?_;exact ⟨_,j5 rfl tt c6,(by rw [hz1]; exact a0g rfl (.val _))⟩
   ·have hm:opM (tk T n) lv (k,s)=false:=h4;refine i8 ?_;exact ⟨([(k,s)],left.eraseIdx i),_,⟨by dsimp only; rw [List.length_eraseIdx_of_lt (n_0.1 hy).1]; have:=(n_0.1 hy).1; omega,fun y hy'=>hls y (List.mem_of_mem_eraseIdx hy'),fun y hy1 hy2=>by
     by_cases hyl:y∈left
     ·rcases b37 hy hyl with rfl | h
      ·exact hm
      ·exact absurd h hy2
     ·exact hno y hy1 hyl⟩,tu_,rfl⟩
  ·cases h3
theorem b6F {n:Nat} {ps:List Str} (hT:T.length<=1000000) (hn:n < T.length) (lv:Int) {s:Nat} (hσ:PAt σ q s T n ps b):b8 CC 302 [.ptr q 0,(.val (.int .i64 lv))] σ fun r τ=>r = .ret (.val (.int .i64 (opS (tk T n) lv)))/\τ=σ:=b9J (fun _ h=>by simp at h; subst h; exact .val _) (.val _) (b4K T n ps b hT hn lv) hσ
abbrev PX:=Nat × Nat × List Ex
structure PF where
 ex:Nat->Nat->List Ex->Option PX
 bin:Nat->Nat->Nat->List Ex->Option PX
 lp:Nat->Nat->Nat->Nat->List Ex->Option PX
 fac:Nat->Nat->List Ex->Option PX
 ag:Nat->Nat->List Ex->List Int->Option (List Int × Nat × List Ex)
def a0A (T:List Tok) (F:PF) (d n:Nat) (b:List Ex):Option (List Int × Nat × List Ex) :=
 (pIs T n 4 [40]).bind fun n1=>if isT (tk T n1) 4 [41]=true then some ([],n1+1,b) else F.ag d n1 b []
def J8 (b:List Ex) (x:Ex) (m:Nat):Option PX:=(U3 b x).bind fun w=>some (w.1,m,w.2)
def P8 (T:List Tok) (F:PF) (u:Str) (d n:Nat) (b:List Ex):Option PX :=
 (pIs T n 4 [40]).bind fun n1 =>
  if u=[114,101,97,100] then (V0 T n1).bind fun s=>(pIs T s.2 4 [44]).bind fun n2=>(F.ex (d+1) n2 b).bind fun x=>(pIs T x.2.1 4 [41]).bind fun m=>J8 x.2.2 ⟨6,0,0,s.1.t,[(x.1:Int)]⟩ m
  else if u=[115,105,122,101] then (V0 T n1).bind fun s=>(pIs T s.2 4 [41]).bind fun m=>J8 b ⟨7,0,0,s.1.t,[]⟩ m
  else if u=[104,97,115] then (V0 T n1).bind fun s=>(pIs T s.2 4 [41]).bind fun m=>J8 b ⟨8,0,0,s.1.t,[]⟩ m
  else if u=[101,110,118] then (B6 T n1 3).bind fun s=>if B1 s.1.t=true then (pIs T s.2 4 [41]).bind fun m=>J8 b ⟨9,0,0,s.1.t,[]⟩ m else none
  else (B6 T n1 2).bind fun s=>if 64<=s.1.n then none else (pIs T s.2 4 [41]).bind fun m=>J8 b ⟨10,s.1.n,0,[],[]⟩ m
def C3 (T:List Tok) (ps:List Str) (F:PF):PF where
 ex d n b:=if 32 < d then none else if isT (tk T n) 1 [105,102]=true then
  (F.ex (d+1) (n+1) b).bind fun x=>(pIs T x.2.1 1 [116,104,101,110]).bind fun n2=>(F.ex (d+1) n2 x.2.2).bind fun y=>(pIs T y.2.1 1 [101,108,115,101]).bind fun n3=>(F.ex (d+1) n3 y.2.2).bind fun z =>
   J8 z.2.2 ⟨5,0,0,[],[(x.1:Int),(y.1:Int),(z.1:Int)]⟩ z.2.1
  else F.bin 1 d n b
 bin lv d n b:=if lv=4 then F.fac d n b else (F.bin (lv+1) d n b).bind fun x=>F.lp lv d x.1 x.2.1 x.2.2
 lp lv d x n b:=if opS (tk T n) (lv:Int)=0 then some (x,n,b) else (F.bin (lv+1) d (n+1) b).bind fun y=>(U3 y.2.2 ⟨4,0,opS (tk T n) (lv:Int),[],[(x:Int),(y.1:Int)]⟩).bind fun w =>
  if lv=1 then some (w.1,y.2.1,w.2) else F.lp lv d w.1 y.2.1 w.2
 fac d n b :=
  if (tk T n).k=2 then J8 b ⟨1,(tk T n).n,0,[],[]⟩ (n+1)
  else if isT (tk T n) 4 [45]=true then (B6 T (n+1) 2).bind fun y=>J8 b ⟨1,-y.1.n,0,[],[]⟩ y.2
  else if isT (tk T n) 4 [40]=true then (F.ex (d+1) (n+1) b).bind fun x=>(pIs T x.2.1 4 [41]).bind fun m=>some (x.1,m,x.2.2)
  else if (tk T n).k≠1 then none
  else if (tk T n).t=[114,101,97,100]\/(tk T n).t=[115,105,122,101]\/(tk T n).t=[104,97,115]\/(tk T n).t=[101,110,118]\/(tk T n).t=[102,108,105,112] then P8 T F (tk T n).t d (n+1) b
  else if O1 (tk T n).t=true then none
  else if isT (tk T (n+1)) 4 [40]=true then (a0A T F d (n+1) b).bind fun a=>J8 a.2.2 ⟨3,0,0,(tk T n).t,a.1⟩ a.2.1
  else if ixS ps (tk T n).t 0 < 0 then none else J8 b ⟨2,ixS ps (tk T n).t 0,0,[],[]⟩ (n+1)
 ag d n b acc:=(F.ex (d+1) n b).bind fun x=>if isT (tk T x.2.1) 4 [44]=true then F.ag d (x.2.1+1) x.2.2 (acc++[(x.1:Int)]) else (pIs T x.2.1 4 [41]).bind fun m=>some (acc++[(x.1:Int)],m,x.2.2)
def s7 (T:List Tok) (ps:List Str):Nat->PF
 | 0=>⟨fun _ _ _=>none,fun _ _ _ _=>none,fun _ _ _ _ _=>none,fun _ _ _=>none,fun _ _ _ _=>none⟩
 | f+1=>C3 T ps (s7 T ps f)
def EC (T:List Tok) (ps:List Str) (f:Nat):Prop:=∀ (d n:Nat) (b:List Ex),n < T.length->b.length<=256->d<=33->8*(T.length - n)+6<=f->∀ (σ:List c5) (q s:Nat),PAt σ q s T n ps b->b8 CC 241 [.ptr q 0,(.val (.int .i64 (d:Int)))] σ (a3P (fun a:PX=>(.val (.int .i64 (a.1:Int)))) (fun a:PX=>(σ.set q (pbx T a.2.1 ps a.2.2 σ.length)).set s .dead++[r7 a.2.2.length]) (fun a:PX=>(s7 T ps f).ex d n b=some a/\n < a.2.1/\a.2.1 < T.length/\a.2.2.length<=256) σ q s ((s7 T ps f).ex d n b=none))
def BC (T:List Tok) (ps:List Str) (f:Nat):Prop:=∀ (lv d n:Nat) (b:List Ex),n < T.length->b.length<=256->1<=lv->lv<=4->d<=32->8*(T.length - n)+6<=f+lv->∀ (σ:List c5) (q s:Nat),PAt σ q s T n ps b->b8 CC 278 [.ptr q 0,(.val (.int .i64 (lv:Int))),(.val (.int .i64 (d:Int)))] σ (a3P (fun a:PX=>(.val (.int .i64 (a.1:Int)))) (fun a:PX=>(σ.set q (pbx T a.2.1 ps a.2.2 σ.length)).set s .dead++[r7 a.2.2.length]) (fun a:PX=>(s7 T ps f).bin lv d n b=some a/\n < a.2.1/\a.2.1 < T.length/\a.2.2.length<=256) σ q s ((s7 T ps f).bin lv d n b=none))
def FC (T:List Tok) (ps:List Str) (f:Nat):Prop:=∀ (d n:Nat) (b:List Ex),n < T.length->b.length<=256->d<=32->8*(T.length - n)+1<=f->∀ (σ:List c5) (q s:Nat),PAt σ q s T n ps b->b8 CC 301 [.ptr q 0,(.val (.int .i64 (d:Int)))] σ (a3P (fun a:PX=>(.val (.int .i64 (a.1:Int)))) (fun a:PX=>(σ.set q (pbx T a.2.1 ps a.2.2 σ.length)).set s .dead++[r7 a.2.2.length]) (fun a:PX=>(s7 T ps f).fac d n b=some a/\n < a.2.1/\a.2.1 < T.length/\a.2.2.length<=256) σ q s ((s7 T ps f).fac d n b=none))
structure Y1 (T:List Tok) (ps:List Str):Prop where
 len:T.length<=1000000
 w:a0e T
 l:c8v T
 ps:ps.length<=1000000
 nn:∀ i,0<=(tk T i).n/\(tk T i).n<=9007199254740993
variable {ps:List Str} {l:List α}
theorem N6 {n:Nat} {k:Int} {s:Str} (h:pIs T n k s=some m):m=n+1:=by
 unfold pIs at h;split at h
 ·injection h with h; exact h.symm
 ·cases h
theorem c7F (hc:Y1 T ps) (hE:EC T ps f) (hB:BC T ps f) (d n:Nat) (b:List Ex) (hn:n < T.length) (hb:b.length<=256) (hd0:d<=33) (hf:8*(T.length - n)+6<=f+1):b8 CC 241 [.ptr 0 0,(.val (.int .i64 (d:Int)))] (pst T n ps b) (a3s (fun a:PX=>(.val (.int .i64 (a.1:Int)))) (fun a=>a6u T a.2.1 ps a.2.2) (fun a:PX=>(s7 T ps (f+1)).ex d n b=some a/\n < a.2.1/\a.2.1 < T.length/\a.2.2.length<=256) ((s7 T ps (f+1)).ex d n b=none)):=by
 have hT:=hc.len;have hW:=hc.w;have hsp:(s7 T ps (f+1)).ex d n b=(C3 T ps (s7 T ps f)).ex d n b:=rfl;simp only [C3] at hsp;refine (c4 Tryz.func241 rfl rfl ?_);refine a1T ?_; refine cY a2R ?_; refine a8m ?_; refine a2s ?_; refine G9 ?_; refine cC (fun h1=>?_) fun h1=>?_
 ·have hd:32 < d:=by simp at h1; omega
  rw [if_pos hd] at hsp;exact a32
 ·have hd:¬ 32 < d:=by simp at h1; omega
  rw [if_neg hd] at hsp;refine a4V ?_; refine cY (c7 rfl c4q a2C (b5p hT hn 1 [105,102] ⟨rfl,rfl,n_2 rfl⟩) rfl) ?_; refine T7 ?_; refine cC (fun h2=>?_) fun h2=>?_
  ·have hi:isT (tk T n) 1 [105,102]=false:=by simpa using h2
   rw [if_neg (by rw [hi]; decide)] at hsp;refine z_4 ?_;refine cD (o3 rfl c6j b3m (hB 1 d n b hn hb om_ om_ om_ om_ _ 0 1 ⟨rfl,rfl,n_2 rfl⟩) rfl (fun x hx=>.inr ⟨x,l8,by rw [hsp]; exact hx.1,hx.2⟩) ?_);rintro ⟨i,m,b2⟩ ⟨g1,g2,g3,g4⟩;dsimp only at g1 g2 g3 g4 ⊢;refine d4N ?_;exact ⟨_,j5 rfl tt c6,(by exact .inl ⟨(i,m,b2),X2 (k:=3) rfl rfl de_ (.val _),by rw [hsp]; exact g1,g2,g3,g4⟩)⟩
  ·have hi:isT (tk T n) 1 [105,102]=true:=by simpa using h2
   rw [if_pos hi] at hsp;have hn1:=hW n hn (a59 hi de_);refine a5X ?_; refine a9e ?_; refine a8W ?_;refine cD (o3 rfl b9H j1 (hE (d+1) (n+1) b hn1 hb om_ om_ _ 0 1 ⟨rfl,rfl,n_2 rfl⟩) rfl (fun x hx=>.inr ⟨x,l8,by rw [hsp,hx.1]; rfl,hx.2⟩) ?_);rintro ⟨i1,n1,b1⟩ ⟨x1,y1,z1,w1⟩;dsimp only at x1 y1 z1 w1 ⊢;rw [x1,n_5] at hsp;dsimp only at hsp;refine c8 [pbx T n1 ps b1 3,.dead,.box (tk T n).cells,r7 b1.length] rfl ?_; refine M9 ?_;refine cD (o3 rfl c5n o6 (b4I hT z1 hW [116,104,101,110] ⟨rfl,rfl,n_2 rfl⟩) rfl (fun x hx=>.inr ⟨x,l8,by rw [hsp,hx.1]; rfl,hx.2⟩) ?_);rintro n2 ⟨x2,y2⟩;dsimp only at x2 y2 ⊢;rw [x2,n_5] at hsp;have hn2:=N6 x2;refine c8 [pbx T n2 ps b1 3,.dead,.box (tk T n).cells,r7 b1.length] rfl ?_; refine a4s ?_; refine cY S8 ?_;refine cD (o3 rfl b9H j1 (hE (d+1) n2 b1 y2 w1 om_ om_ _ 0 _ ⟨rfl,rfl,n_2 rfl⟩) rfl (fun x hx=>.inr ⟨x,l8,by rw [hsp,hx.1]; rfl,hx.2⟩) ?_);rintro ⟨i3,n3,b3⟩ ⟨x3,y3,z3,w3⟩;dsimp only at x3 y3 z3 w3 ⊢;rw [x3,n_5] at hsp;dsimp only at hsp;refine c8 [pbx T n3 ps b3 4,.dead,.box (tk T n).cells,.dead,r7 b3.length] rfl ?_; refine M9 ?_;refine cD (o3 rfl c5n o6 (b4I hT z3 hW [101,108,115,101] ⟨rfl,rfl,n_2 rfl⟩) rfl (fun x hx=>.inr ⟨x,l8,by rw [hsp,hx.1]; rfl,hx.2⟩) ?_);rintro n4 ⟨x4,y4⟩;dsimp only at x4 y4 ⊢;rw [x4,n_5] at hsp;have hn4:=N6 x4;refine c8 [pbx T n4 ps b3 4,.dead,.box (tk T n).cells,.dead,r7 b3.length] rfl ?_; refine a4s ?_; refine cY S8 ?_;refine cD (o3 rfl b9H j1 (hE (d+1) n4 b3 y4 w3 om_ om_ _ 0 _ ⟨rfl,rfl,n_2 rfl⟩) rfl (fun x hx=>.inr ⟨x,l8,by rw [hsp,hx.1]; rfl,hx.2⟩) ?_);rintro ⟨i5,n5,b5⟩ ⟨x5,y5,z5,w5⟩;dsimp only at x5 y5 z5 w5 ⊢;rw [x5,n_5,J8] at hsp;dsimp only at hsp;refine c8 [pbx T n5 ps b5 5,.dead,.box (tk T n).cells,.dead,.dead,r7 b5.length] rfl ?_; refine M9 ?_; refine cY Y3 ?_; refine a8a ?_; refine cY j7 ?_; refine cY (A3 ([(i1:Int),(i3:Int),(i5:Int)].map icv) rfl B9 t_5 t_1 t_6 rfl rfl rfl rfl rfl rfl rfl rfl rfl) ?_; refine cY b9E ?_;refine cD (o3 rfl a9Z B9 (Z3 hT z5 w5 (tk T n) ⟨5,0,0,[],[(i1:Int),(i3:Int),(i5:Int)]⟩ ⟨rfl,rfl,n_2 rfl⟩) rfl (fun x hx=>.inr ⟨x,l8,by rw [hsp,hx.1]; rfl,hx.2⟩) ?_);rintro ⟨i6,b6⟩ ⟨x6,y6⟩;dsimp only at x6 y6 ⊢;rw [x6,n_5] at hsp;refine c8 [pbx T n5 ps b6 6,.dead,.box (tk T n).cells,.dead,.dead,.dead,r7 b6.length] rfl ?_; refine z_7 ?_;exact ⟨_,j5 rfl tt c6,(by exact .inl ⟨(i6,n5,b6),X2 (k:=6) rfl rfl de_ (.val _),hsp,do_,z5,y6⟩)⟩
theorem c84 (hc:Y1 T ps) (hE:EC T ps f) (hB:BC T ps f):EC T ps (f+1):=fun d n b hn hb hd hf σ q s hσ =>
 a2M (c:=fun a:PX=>(.val (.int .i64 (a.1:Int)))) (N:=fun a=>a.2.1) (B:=fun a=>a.2.2) (fun _ h=>by simp at h; subst h; exact .val _) (fun _=>.val _) (c7F hc hE hB d n b hn hb hd hf) hσ
def kf (ph:Bool):Nat:=if ph=true then 3 else 2
def of1 (ph:Bool) (m:Nat):c5:=if ph=true then .dead else r7 m
def of2 (ph:Bool) (m:Nat):c5:=if ph=true then r7 m else .dead
theorem d4d (h:¬ opS t lv=0):t.k≠5:=fun h5=>h (b0F fun x _=>by simp [opM,h5])
theorem a7D {k p:Nat} (h:sel[p]? = some k):r8 L sel (.list (b.map Ex.cv) (gnn b.length) (E7 b.length k)) (.list (b.map Ex.cv) (gnn b.length) (E7 b.length p)) :=
 .list (fun r hr c hc=>(A6 (f:=Ex.cv) (fun a=>(Ex.pure a).all) _ r hr c hc).old) (fun j hj=>by
  cases hb:b.length with
  | zero=>rw [hb] at hj; cases hj
  | succ m=>rw [hb] at hj; injection hj with hj; subst hj; exact ⟨k,rfl,h⟩)
theorem b9q (hc:Y1 T ps) (hB:∀ g,g<=f->BC T ps g) (hF:FC T ps f) (lv d n:Nat) (b:List Ex) (hn:n < T.length) (hb:b.length<=256) (hl1:1<=lv) (hl4:lv<=4) (hd0:d<=32) (hf:8*(T.length - n)+6<=f+1+lv):b8 CC 278 [.ptr 0 0,(.val (.int .i64 (lv:Int))),(.val (.int .i64 (d:Int)))] (pst T n ps b) (a3s (fun a:PX=>(.val (.int .i64 (a.1:Int)))) (fun a=>a6u T a.2.1 ps a.2.2) (fun a:PX=>(s7 T ps (f+1)).bin lv d n b=some a/\n < a.2.1/\a.2.1 < T.length/\a.2.2.length<=256) ((s7 T ps (f+1)).bin lv d n b=none)):=by
 have hT:=hc.len;have hW:=hc.w;have hsp:(s7 T ps (f+1)).bin lv d n b=(C3 T ps (s7 T ps f)).bin lv d n b:=rfl;simp only [C3] at hsp;refine (c4 Tryz.func278 rfl rfl ?_);refine a04 ?_; refine G9 ?_; refine cC (fun h1=>?_) fun h1=>?_
 ·have h4:lv=4:=by simp at h1; omega
  rw [if_pos h4] at hsp;refine z_4 ?_;refine cD (o3 rfl Tryz.call301 j1 (hF d n b hn hb hd0 om_ _ 0 1 ⟨rfl,rfl,n_2 rfl⟩) rfl (fun x hx=>.inr ⟨x,l8,by rw [hsp]; exact hx.1,hx.2⟩) ?_);rintro ⟨i,m,b2⟩ ⟨g1,g2,g3,g4⟩;dsimp only at g1 g2 g3 g4 ⊢;refine c8 [pbx T m ps b2 2,.dead,r7 b2.length] rfl ?_; refine z_7 ?_;exact ⟨_,j5 rfl tt c6,(by exact .inl ⟨(i,m,b2),X2 (k:=2) rfl rfl de_ (.val _),by rw [hsp]; exact g1,g2,g3,g4⟩)⟩
 ·have h4:¬ lv=4:=by simp at h1; omega
  rw [if_neg h4] at hsp;refine a8Y ?_; refine b72 ?_;refine cD (o3 rfl c6j B9 (hB f (n_4 _) (lv+1) d n b hn hb om_ om_ hd0 om_ _ 0 1 ⟨rfl,rfl,n_2 rfl⟩) rfl (fun x hx=>.inr ⟨x,l8,by rw [hsp,hx.1]; rfl,hx.2⟩) ?_);rintro ⟨i1,n1,b1⟩ ⟨x1,y1,z1,w1⟩;dsimp only at x1 y1 z1 w1 ⊢;rw [x1,n_5] at hsp;dsimp only at hsp;refine c8 [pbx T n1 ps b1 2,.dead,r7 b1.length] rfl ?_; refine z_2 ?_; refine B7 ?_; refine A2 hCC 3 rfl (α:=Nat × Nat × List Ex × Bool × Nat) (fun x=>[(0,.ptr 0 0),(1,(.val (.int .i64 (lv:Int)))),(2,(.val (.int .i64 (d:Int)))),(7,(.val (.int .i64 (x.1:Int))))]) (fun x=>[pbx T x.2.1 ps x.2.2.1 (kf x.2.2.2.1),.dead,of1 x.2.2.2.1 x.2.2.1.length,of2 x.2.2.2.1 x.2.2.1.length]) (fun x=>(s7 T ps (f+1)).bin lv d n b=(s7 T ps x.2.2.2.2).lp lv d x.1 x.2.1 x.2.2.1/\n < x.2.1/\x.2.1 < T.length/\x.2.2.1.length<=256/\x.2.2.2.2<=f/\8*(T.length - x.2.1)+3<=x.2.2.2.2) (fun x=>T.length - x.2.1) ⟨(i1,n1,b1,false,f),[0,1,2,7],⟨hsp,y1,z1,w1,n_4 _,do_⟩,⟨rfl,rfl⟩,c4E,⟨.inr ⟨_,rfl,.same rfl a89⟩,.inl rfl,.inr ⟨_,rfl,.same rfl s9⟩,.inl rfl,tt⟩⟩ ?_; intro ⟨x,m,b2,ph,g⟩ ⟨hlp,hnm,hm,hb2,hgf,hg⟩;dsimp only at hlp hnm hm hb2 hgf hg ⊢;obtain ⟨g,rfl⟩:∃ g',g=g'+1:=⟨g - 1,om_⟩;have hlp2:(s7 T ps (g+1)).lp lv d x m b2=(C3 T ps (s7 T ps g)).lp lv d x m b2:=rfl;simp only [C3] at hlp2;rw [hlp2] at hlp;refine B7 ?_; refine z_4 ?_; refine cY (c7 rfl Tryz.call302 j1 (b6F hT hm (lv:Int) (q:=0) (s:=kf ph) b6U) rfl) ?_; refine a5H ?_; refine cC (fun h2=>?_) fun h2=>?_
  ·have h0:opS (tk T m) (lv:Int)=0:=by simpa using h2
   rw [if_pos h0] at hlp;refine a8B ?_;exact ⟨_,j5 rfl tt c6,(by exact .inl ⟨(x,m,b2),(by cases ph; exact X2 (k:=2) rfl rfl de_ (.val _); exact X2 (k:=3) rfl rfl de_ (.val _)),hlp,hnm,hm,hb2⟩)⟩
  ·have h0:¬ opS (tk T m) (lv:Int)=0:=by simpa using h2
   rw [if_neg h0] at hlp;have hm1:=hW m hm (d4d h0);refine a05 ?_; refine cY (c7 rfl c39 ⟨tt,tt⟩ (a4o hT hm (q:=0) (s:=kf ph) b6U) rfl) ?_; refine a8m ?_; refine b48 ?_; refine a9e ?_; refine z_4 ?_; refine b72 ?_;refine cD (o3 rfl c6j B9 (hB g om_ (lv+1) d (m+1) b2 hm1 hb2 om_ om_ hd0 om_ _ 0 (kf ph) b6U) rfl (fun x hx=>.inr ⟨x,l8,by rw [hlp,hx.1]; rfl,hx.2⟩) ?_);rintro ⟨i3,n3,b3⟩ ⟨x3,y3,z3,w3⟩;dsimp only at x3 y3 z3 w3 ⊢;rw [x3,n_5] at hlp;dsimp only at hlp;refine c8 [pbx T n3 ps b3 5,.dead,.dead,.dead,.box (tk T m).cells,r7 b3.length] R9 ?_; refine M9 ?_; refine cY Y3 ?_; refine a8a ?_; refine cY j7 ?_; refine cY (A3 ([(x:Int),(i3:Int)].map icv) rfl j1 t_5 t_1 t_6 rfl rfl rfl rfl rfl rfl rfl rfl rfl) ?_; refine cY d3H ?_;refine cD (o3 rfl a9Z B9 (Z3 hT z3 w3 (tk T m) ⟨4,0,opS (tk T m) (lv:Int),[],[(x:Int),(i3:Int)]⟩ ⟨rfl,rfl,n_2 rfl⟩) rfl (fun x hx=>.inr ⟨x,l8,by rw [hlp,hx.1]; rfl,hx.2⟩) ?_);rintro ⟨i4,b4⟩ ⟨x4,y4⟩;dsimp only at x4 y4 ⊢;rw [x4,n_5] at hlp;dsimp only at hlp;refine c8 [pbx T n3 ps b4 6,.dead,.dead,.dead,.box (tk T m).cells,.dead,r7 b4.length] rfl ?_; refine M9 ?_; refine G9 ?_; refine cC (fun h3=>?_) fun h3=>?_
   ·have hl1:lv=1:=by simp at h3; omega
    rw [if_pos hl1] at hlp;refine a8B ?_;exact ⟨_,j5 rfl tt c6,(by exact .inl ⟨(i4,n3,b4),X2 (k:=6) rfl rfl de_ (.val _),hlp,do_,z3,y4⟩)⟩
   ·have hl1:¬ lv=1:=by simp at h3; omega
    rw [if_neg hl1] at hlp;refine i8 ?_;exact ⟨(i4,n3,b4,true,g),[0,1,2,6],⟨do_,hlp,do_,z3,y4,do_,do_⟩,⟨rfl,rfl⟩,c4E,⟨.inr ⟨_,rfl,.box ⟨.old a16,.old (.val _),.old O0,a7D rfl,tt⟩⟩,.inl rfl,.inl rfl,.inr ⟨_,rfl,.same rfl s9⟩,tt⟩⟩
theorem c2x (hc:Y1 T ps) (hB:∀ g,g<=f->BC T ps g) (hF:FC T ps f):BC T ps (f+1):=fun lv d n b hn hb hl1 hl4 hd hf σ q s hσ =>
 a2M (c:=fun a:PX=>(.val (.int .i64 (a.1:Int)))) (N:=fun a=>a.2.1) (B:=fun a=>a.2.2) (fun _ h=>by simp at h; rcases h with rfl | rfl <;> exact .val _) (fun _=>.val _) (b9q hc hB hF lv d n b hn hb hl1 hl4 hd hf) hσ
theorem a3Z {n:Nat} {k:Int} (h:B6 T n k=some (t,m)) (hk:k≠5):m=n+1:=by
 unfold B6 at h;rw [if_neg hk] at h;split at h
 ·injection h with h; injection h with _ h; exact h.symm
 ·cases h
theorem a6N {n:Nat} (h:V0 T n=some (t,m)):m=n+1:=by
 unfold V0 at h;cases hq:B6 T n 3 with
 | none=>rw [hq] at h; cases h
 | some x =>
  rw [hq,n_5] at h;split at h
  ·injection h with h; subst h; exact a3Z hq de_
  ·cases h
theorem b1v {n:Nat} (h:F6 T n=some (t,m)):m=n+1:=by
 unfold F6 at h;cases hq:B6 T n 1 with
 | none=>rw [hq] at h; cases h
 | some x =>
  rw [hq,n_5] at h;split at h
  ·cases h
  ·injection h with h; subst h; exact a3Z hq de_
theorem b59 (hc:Y1 T ps) (hE:EC T ps f) (t:Tok) (d n:Nat) (b:List Ex) (R:Option PX) (hsp:R=P8 T (s7 T ps f) t.t d n b) (hn:n < T.length) (hb:b.length<=256) (hd0:d<=32) (hf:8*(T.length - n)+6<=f):b8 CC 317 [.ptr 0 0,.agg t.cells,(.val (.int .i64 (d:Int)))] (pst T n ps b) (a3s (fun a:PX=>(.val (.int .i64 (a.1:Int)))) (fun a=>a6u T a.2.1 ps a.2.2) (fun a:PX=>R=some a/\n < a.2.1/\a.2.1 < T.length/\a.2.2.length<=256) (R=none)):=by
 have hT:=hc.len;have hW:=hc.w;unfold P8 at hsp;refine (c4 Tryz.func317 rfl rfl ?_);refine a2n ?_; refine z_1 ?_;refine cD (o3 rfl a5p o6 (O7 hT hn hW [40] ⟨rfl,rfl,n_2 rfl⟩) rfl (fun x hx=>.inr ⟨x,l8,by rw [hsp,hx.1]; rfl,hx.2⟩) ?_);rintro n1 ⟨sn1,kn1⟩;dsimp only at sn1 kn1 ⊢;rw [sn1,n_5] at hsp;have en1:=N6 sn1;refine U2 ?_;refine cD (r6 rfl b4x rfl o4 ?_);refine a2i ?_; refine a2K ?_; refine a5q ?_; refine a0b ?_; refine cC (fun h1=>?_) fun h1=>?_
 ·have u1:t.t=[114,101,97,100]:=by simpa using h1
  rw [if_pos u1] at hsp;refine z_1 ?_;refine cD (o3 rfl c0n ⟨tt,tt⟩ (a9T hT kn1 hW hc.l ⟨rfl,rfl,n_2 rfl⟩) rfl (fun x hx=>.inr ⟨x,l8,by rw [hsp,hx.1]; rfl,hx.2⟩) ?_);rintro ⟨p,n2⟩ ⟨s2,k2⟩;dsimp only at s2 k2 ⊢;rw [s2,n_5] at hsp;dsimp only at hsp;have e2:=a6N s2;refine cY c1L ?_; refine b7x ?_; refine O3 ?_;refine cD (o3 rfl a5p o6 (O7 hT k2 hW [44] ⟨rfl,rfl,n_2 rfl⟩) rfl (fun x hx=>.inr ⟨x,l8,by rw [hsp,hx.1]; rfl,hx.2⟩) ?_);rintro n3 ⟨sn3,kn3⟩;dsimp only at sn3 kn3 ⊢;rw [sn3,n_5] at hsp;have en3:=N6 sn3;refine i7 ?_; refine R7 ?_; refine cY S8 ?_;refine cD (o3 rfl b9H j1 (hE (d+1) n3 b kn3 hb om_ om_ _ 0 1 ⟨rfl,rfl,n_2 rfl⟩) rfl (fun x hx=>.inr ⟨x,l8,by rw [hsp,hx.1]; rfl,hx.2⟩) ?_);rintro ⟨i4,n4,b4⟩ ⟨x4,y4,z4,w4⟩;dsimp only at x4 y4 z4 w4 ⊢;rw [x4,n_5] at hsp;dsimp only at hsp;refine cY (A3 ([(i4:Int)].map icv) rfl ⟨tt,tt⟩ t_5 t_1 t_6 rfl rfl rfl rfl rfl rfl rfl rfl rfl) ?_; refine cY c1q ?_;refine cD (j3 rfl tt tt rfl c6 b7s (.inl rfl) rfl rfl (nb rfl) ?_);refine O3 ?_;refine cD (o3 rfl a5p o6 (O7 hT z4 hW [41] ⟨rfl,rfl,n_2 rfl⟩) rfl (fun x hx=>.inr ⟨x,l8,by rw [hsp,hx.1]; rfl,hx.2⟩) ?_);rintro n5 ⟨sn5,kn5⟩;dsimp only at sn5 kn5 ⊢;rw [sn5,n_5] at hsp;have en5:=N6 sn5;refine O3 ?_; refine b7m ?_;refine cD (o3 rfl a9Z B9 (Z3 hT kn5 w4 t ⟨6,0,0,p.t,[(i4:Int)]⟩ ⟨rfl,rfl,n_2 rfl⟩) rfl (fun x hx=>.inr ⟨x,l8,by rw [hsp,J8,hx.1]; rfl,hx.2⟩) ?_);rintro ⟨i6,b6⟩ ⟨x6,y6⟩;dsimp only at x6 y6 ⊢;rw [J8,x6,n_5] at hsp;exact b6f
 ·have u1:¬ t.t=[114,101,97,100]:=by simpa using h1
  rw [if_neg u1] at hsp;refine a0b ?_; refine cC (fun h2=>?_) fun h2=>?_
  ·have u2:t.t=[115,105,122,101]:=by simpa using h2
   rw [if_pos u2] at hsp;refine z_5 ?_;refine cD (o3 rfl c0n ⟨tt,tt⟩ (a9T hT kn1 hW hc.l ⟨rfl,rfl,n_2 rfl⟩) rfl (fun x hx=>.inr ⟨x,l8,by rw [hsp,hx.1]; rfl,hx.2⟩) ?_);rintro ⟨p,n2⟩ ⟨s2,k2⟩;dsimp only at s2 k2 ⊢;rw [s2,n_5] at hsp;dsimp only at hsp;have e2:=a6N s2;refine cY c1L ?_; refine b7x ?_; refine O3 ?_;refine cD (o3 rfl a5p o6 (O7 hT k2 hW [41] ⟨rfl,rfl,n_2 rfl⟩) rfl (fun x hx=>.inr ⟨x,l8,by rw [hsp,hx.1]; rfl,hx.2⟩) ?_);rintro n5 ⟨sn5,kn5⟩;dsimp only at sn5 kn5 ⊢;rw [sn5,n_5] at hsp;have en5:=N6 sn5;refine O3 ?_; refine b7m ?_;refine cD (o3 rfl a9Z B9 (Z3 hT kn5 hb t ⟨7,0,0,p.t,[]⟩ ⟨rfl,rfl,n_2 rfl⟩) rfl (fun x hx=>.inr ⟨x,l8,by rw [hsp,J8,hx.1]; rfl,hx.2⟩) ?_);rintro ⟨i6,b6⟩ ⟨x6,y6⟩;dsimp only at x6 y6 ⊢;rw [J8,x6,n_5] at hsp;exact b6f
  ·have u2:¬ t.t=[115,105,122,101]:=by simpa using h2
   rw [if_neg u2] at hsp;refine a0b ?_; refine cC (fun h3=>?_) fun h3=>?_
   ·have u3:t.t=[104,97,115]:=by simpa using h3
    rw [if_pos u3] at hsp;refine z_5 ?_;refine cD (o3 rfl c0n ⟨tt,tt⟩ (a9T hT kn1 hW hc.l ⟨rfl,rfl,n_2 rfl⟩) rfl (fun x hx=>.inr ⟨x,l8,by rw [hsp,hx.1]; rfl,hx.2⟩) ?_);rintro ⟨p,n2⟩ ⟨s2,k2⟩;dsimp only at s2 k2 ⊢;rw [s2,n_5] at hsp;dsimp only at hsp;have e2:=a6N s2;refine cY c1L ?_; refine b7x ?_; refine O3 ?_;refine cD (o3 rfl a5p o6 (O7 hT k2 hW [41] ⟨rfl,rfl,n_2 rfl⟩) rfl (fun x hx=>.inr ⟨x,l8,by rw [hsp,hx.1]; rfl,hx.2⟩) ?_);rintro n5 ⟨sn5,kn5⟩;dsimp only at sn5 kn5 ⊢;rw [sn5,n_5] at hsp;have en5:=N6 sn5;refine O3 ?_; refine b7m ?_;refine cD (o3 rfl a9Z B9 (Z3 hT kn5 hb t ⟨8,0,0,p.t,[]⟩ ⟨rfl,rfl,n_2 rfl⟩) rfl (fun x hx=>.inr ⟨x,l8,by rw [hsp,J8,hx.1]; rfl,hx.2⟩) ?_);rintro ⟨i6,b6⟩ ⟨x6,y6⟩;dsimp only at x6 y6 ⊢;rw [J8,x6,n_5] at hsp;exact b6f
   ·have u3:¬ t.t=[104,97,115]:=by simpa using h3
    rw [if_neg u3] at hsp;refine a0b ?_; refine cC (fun h4=>?_) fun h4=>?_
    ·have u4:t.t=[101,110,118]:=by simpa using h4
     rw [if_pos u4] at hsp;refine z_1 ?_;refine cD (o3 rfl c62 o6 (a6R hT kn1 hW 3 ⟨rfl,rfl,n_2 rfl⟩) rfl (fun x hx=>.inr ⟨x,l8,by rw [hsp,hx.1]; rfl,hx.2⟩) ?_);rintro ⟨p,n2⟩ ⟨s2,k2⟩;dsimp only at s2 k2 ⊢;rw [s2,n_5] at hsp;dsimp only at hsp;have e2:=a3Z s2 de_;have hp:=a4p s2;refine b0B ?_; refine a2K ?_; refine cY (c7 rfl c2V ⟨tt,tt⟩ (a1i p.t (by have:=hc.l n1; rw [hp]; omega) _) rfl) ?_; refine T7 ?_; refine cC (fun h5=>?_) fun h5=>?_
     ·have hq:B1 p.t=false:=by simpa using h5
      rw [if_neg (by rw [hq]; decide)] at hsp;exact a32
     ·have hq:B1 p.t=true:=by simpa using h5
      rw [if_pos hq] at hsp;refine i8 (A0 ?_);refine a2K ?_; refine b7x ?_; refine O3 ?_;refine cD (o3 rfl a5p o6 (O7 hT k2 hW [41] ⟨rfl,rfl,n_2 rfl⟩) rfl (fun x hx=>.inr ⟨x,l8,by rw [hsp,hx.1]; rfl,hx.2⟩) ?_);rintro n5 ⟨sn5,kn5⟩;dsimp only at sn5 kn5 ⊢;rw [sn5,n_5] at hsp;have en5:=N6 sn5;refine O3 ?_; refine b7m ?_;refine cD (o3 rfl a9Z B9 (Z3 hT kn5 hb t ⟨9,0,0,p.t,[]⟩ ⟨rfl,rfl,n_2 rfl⟩) rfl (fun x hx=>.inr ⟨x,l8,by rw [hsp,J8,hx.1]; rfl,hx.2⟩) ?_);rintro ⟨i6,b6⟩ ⟨x6,y6⟩;dsimp only at x6 y6 ⊢;rw [J8,x6,n_5] at hsp;exact b6f
    ·have u4:¬ t.t=[101,110,118]:=by simpa using h4
     rw [if_neg u4] at hsp;refine z_1 ?_;refine cD (o3 rfl c62 o6 (a6R hT kn1 hW 2 ⟨rfl,rfl,n_2 rfl⟩) rfl (fun x hx=>.inr ⟨x,l8,by rw [hsp,hx.1]; rfl,hx.2⟩) ?_);rintro ⟨p,n2⟩ ⟨s2,k2⟩;dsimp only at s2 k2 ⊢;rw [s2,n_5] at hsp;dsimp only at hsp;have e2:=a3Z s2 de_;have hp:=a4p s2;refine b0B ?_; refine a6y ?_; refine G9 ?_; refine cC (fun h6=>?_) fun h6=>?_
     ·have hq:64<=p.n:=by simpa using h6
      rw [if_pos hq] at hsp;exact a32
     ·have hq:¬ 64<=p.n:=by simpa using h6
      rw [if_neg hq] at hsp;refine i8 (A0 ?_);refine a6y ?_; refine b7x ?_; refine O3 ?_;refine cD (o3 rfl a5p o6 (O7 hT k2 hW [41] ⟨rfl,rfl,n_2 rfl⟩) rfl (fun x hx=>.inr ⟨x,l8,by rw [hsp,hx.1]; rfl,hx.2⟩) ?_);rintro n5 ⟨sn5,kn5⟩;dsimp only at sn5 kn5 ⊢;rw [sn5,n_5] at hsp;have en5:=N6 sn5;refine O3 ?_; refine b7m ?_;refine cD (o3 rfl a9Z B9 (Z3 hT kn5 hb t ⟨10,p.n,0,[],[]⟩ ⟨rfl,rfl,n_2 rfl⟩) rfl (fun x hx=>.inr ⟨x,l8,by rw [hsp,J8,hx.1]; rfl,hx.2⟩) ?_);rintro ⟨i6,b6⟩ ⟨x6,y6⟩;dsimp only at x6 y6 ⊢;rw [J8,x6,n_5] at hsp;exact b6f
def UC (T:List Tok) (ps:List Str) (f:Nat):Prop:=∀ (t:Tok) (d n:Nat) (b:List Ex),n < T.length->b.length<=256->d<=32->8*(T.length - n)+6<=f->∀ (σ:List c5) (q s:Nat),PAt σ q s T n ps b->b8 CC 317 [.ptr q 0,.agg t.cells,(.val (.int .i64 (d:Int)))] σ (a3P (fun a:PX=>(.val (.int .i64 (a.1:Int)))) (fun a:PX=>(σ.set q (pbx T a.2.1 ps a.2.2 σ.length)).set s .dead++[r7 a.2.2.length]) (fun a:PX=>(P8 T (s7 T ps f) t.t d n b)=some a/\n < a.2.1/\a.2.1 < T.length/\a.2.2.length<=256) σ q s ((P8 T (s7 T ps f) t.t d n b)=none))
theorem b8E (hc:Y1 T ps) (hE:EC T ps f):UC T ps f:=fun t d n b hn hb hd hf σ q s hσ =>
 a2M (c:=fun a:PX=>(.val (.int .i64 (a.1:Int)))) (N:=fun a=>a.2.1) (B:=fun a=>a.2.2) (fun _ h=>by simp at h; rcases h with rfl | rfl; exact Y8 _; exact .val _) (fun _=>.val _) (b59 hc hE t d n b _ rfl hn hb hd hf) hσ
def ka (ph:Bool):Nat:=if ph=true then 2 else 1
def oa1 (ph:Bool) (m:Nat):c5:=if ph=true then .dead else r7 m
def oa2 (ph:Bool) (m:Nat):c5:=if ph=true then r7 m else .dead
theorem b4n {n k:Nat} (h0:τ[0]? = some (pbx T n ps b k)) (hk:τ[k]? = some (r7 b.length)) (h2:2<=k) (hc:∀ sel,r8 2 sel c c'):C6 2 τ (.ret c) (.ret c') (a6u T n ps b):=by
 obtain ⟨sel,a1,a2,_,a4⟩:=X2 h0 hk h2 (.val (.int .i64 0));exact ⟨sel,a1,a2,.ret (hc sel),a4⟩
theorem d3Z {n k:Nat} {l:List Int} {x:Int} (h0:τ[0]? = some (pbx T n ps b k)) (hk:τ[k]? = some (r7 b.length)) (h2:2<=k) (hc:∀ sel,r8 2 sel c c'):C6 2 τ (.ret c) (.ret c') (if (!(l++[x]).isEmpty)=true then a6u T n ps b else pst T n ps b):=by
 rw [if_pos si_];exact b4n h0 hk h2 hc
def AC (T:List Tok) (ps:List Str) (f:Nat):Prop:=∀ (d n:Nat) (b:List Ex),n < T.length->b.length<=256->d<=32->8*(T.length - n)+6<=f->∀ (σ:List c5) (q s:Nat),PAt σ q s T n ps b->b8 CC 318 [.ptr q 0,(.val (.int .i64 (d:Int)))] σ (a3P (fun a:List Int × Nat × List Ex=>(.list (a.1.map icv) (gnn a.1.length) none))
 (fun a=>if (!a.1.isEmpty)=true then (σ.set q (pbx T a.2.1 ps a.2.2 σ.length)).set s .dead++[r7 a.2.2.length] else (σ.set q (pbx T a.2.1 ps a.2.2 s)).set s (r7 a.2.2.length)) (fun a:List Int × Nat × List Ex=>a0A T (s7 T ps f) d n b=some a/\n < a.2.1/\a.2.1 < T.length/\a.2.2.length<=256/\a.1.length<=1000000) σ q s (a0A T (s7 T ps f) d n b=none))
theorem b17 (hc:Y1 T ps) (hE:∀ g,g<=f->EC T ps g) (d n:Nat) (b:List Ex) (hn:n < T.length) (hb:b.length<=256) (hd0:d<=32) (hf:8*(T.length - n)+6<=f):b8 CC 318 [.ptr 0 0,(.val (.int .i64 (d:Int)))] (pst T n ps b) (a3s (fun a:List Int × Nat × List Ex=>(.list (a.1.map icv) (gnn a.1.length) none)) (fun a=>if (!a.1.isEmpty)=true then a6u T a.2.1 ps a.2.2 else pst T a.2.1 ps a.2.2) (fun a:List Int × Nat × List Ex=>a0A T (s7 T ps f) d n b=some a/\n < a.2.1/\a.2.1 < T.length/\a.2.2.length<=256/\a.1.length<=1000000) (a0A T (s7 T ps f) d n b=none)):=by
 have hT:=hc.len;have hW:=hc.w;have hsp:a0A T (s7 T ps f) d n b=a0A T (s7 T ps f) d n b:=rfl
 conv at hsp=>rhs; unfold a0A
 refine (c4 Tryz.func318 rfl rfl ?_);refine z_6 ?_; refine a1T ?_;refine cD (o3 rfl a5p o6 (O7 hT hn hW [40] ⟨rfl,rfl,n_2 rfl⟩) rfl (fun x hx=>.inr ⟨x,l8,by rw [hsp,hx.1]; rfl,hx.2⟩) ?_);rintro n1 ⟨hs1,hn1⟩;dsimp only at hs1 hn1 ⊢;rw [hs1,n_5] at hsp;have e1:=N6 hs1;refine a2s ?_;refine cD (b9 rfl c2F o6 (a1f hT hn1 hW [41] ⟨rfl,rfl,n_2 rfl⟩) rfl ?_);rintro ⟨ac,n2⟩ ⟨ha,hn2,hn2l⟩;dsimp only at ha hn2 hn2l ⊢;refine i7 ?_; refine cC (fun h1=>?_) fun h1=>?_
 ·have hc1:isT (tk T n1) 4 [41]=true:=by rw [<- ha]; simpa using h1
  rw [if_pos hc1] at hn2 hsp;refine G5 ?_;exact ⟨_,j5 rfl tt c6,(by exact .inl ⟨([],n2,b),a0g rfl (T3 _ [] false),by rw [hsp,hn2],do_,hn2l,hb,by show 0<=1000000; decide⟩)⟩
 ·have hc1:¬ isT (tk T n1) 4 [41]=true:=by rw [<- ha]; simpa using h1
  rw [if_neg hc1] at hn2 hsp;subst hn2; refine a6K ?_; refine A2 hCC 2 rfl (α:=List Int × Nat × List Ex × Bool × Nat) (fun x=>[(0,.ptr 0 0),(1,(.val (.int .i64 (d:Int)))),(5,(.list (x.1.map icv) (gnn x.1.length) (E7 x.1.length 3)))]) (fun x=>[pbx T x.2.1 ps x.2.2.1 (ka x.2.2.2.1),oa1 x.2.2.2.1 x.2.2.1.length,oa2 x.2.2.2.1 x.2.2.1.length,r7 x.1.length]) (fun x=>a0A T (s7 T ps f) d n b=(s7 T ps x.2.2.2.2).ag d x.2.1 x.2.2.1 x.1/\x.1.length<=x.2.1/\n < x.2.1/\x.2.1 < T.length/\x.2.2.1.length<=256/\x.2.2.2.2<=f/\8*(T.length - x.2.1)+7<=x.2.2.2.2) (fun x=>T.length - x.2.1) ⟨([],n2,b,false,f),[0,1,7,8],⟨hsp,n_3 _,do_,hn2l,hb,n_4 _,do_⟩,⟨rfl,rfl⟩,d4r,⟨.inr ⟨_,rfl,.same rfl a89⟩,.inr ⟨_,rfl,.same rfl s9⟩,.inl rfl,.inl rfl,tt⟩⟩ ?_; intro ⟨l,m,b2,ph,g⟩ ⟨hlp,hlm,hnm,hm,hb2,hgf,hg⟩;dsimp only at hlp hlm hnm hm hb2 hgf hg ⊢;obtain ⟨g,rfl⟩:∃ g',g=g'+1:=⟨g - 1,om_⟩;have hlp2:(s7 T ps (g+1)).ag d m b2 l=(C3 T ps (s7 T ps g)).ag d m b2 l:=rfl;simp only [C3] at hlp2;rw [hlp2] at hlp;refine B7 ?_; refine a0n ?_; refine cY S8 ?_;refine cD (o3 rfl b9H j1 (hE g om_ (d+1) m b2 hm hb2 om_ om_ _ 0 (ka ph) b6U) rfl (fun x hx=>.inr ⟨x,l8,by rw [hlp,hx.1]; rfl,hx.2⟩) ?_);rintro ⟨i3,n3,b3⟩ ⟨x3,y3,z3,w3⟩;dsimp only at x3 y3 z3 w3 ⊢;rw [x3,n_5] at hlp;dsimp only at hlp;refine c8 [pbx T n3 ps b3 4,.dead,.dead,r7 l.length,r7 b3.length] R9 ?_;have hls:=S9 l (i3:Int);refine cY (A3 [icv (i3:Int)] rfl ⟨tt,tt⟩ t_5 t_1 t_6 rfl rfl rfl rfl rfl rfl rfl rfl rfl) ?_;refine cD (D9 rfl tt tt rfl si_ R6 t_5 t_1 c5E t_6 rfl (.inr rfl) X0 b2C H3 ((l++[(i3:Int)]).map icv) (l++[(i3:Int)]).length si_ si_ ?_);refine M9 ?_;refine cD (b9 rfl c2F o6 (a1f hT z3 hW [44] ⟨rfl,rfl,n_2 rfl⟩) rfl ?_);rintro ⟨ac2,m2⟩ ⟨ha2,hm2,hm2l⟩;dsimp only at ha2 hm2 hm2l ⊢;refine T7 ?_; refine cC (fun h2=>?_) fun h2=>?_
  ·have hc2:¬ isT (tk T n3) 4 [44]=true:=by rw [<- ha2]; simpa using h2
   rw [if_neg hc2] at hm2 hlp;subst hm2; refine a9I ?_;refine cD (o3 rfl a5p o6 (O7 hT hm2l hW [41] ⟨rfl,rfl,n_2 rfl⟩) rfl (fun x hx=>.inr ⟨x,l8,by rw [hlp,hx.1]; rfl,hx.2⟩) ?_);rintro m3 ⟨hs3,hm3⟩;dsimp only at hs3 hm3 ⊢;have e3:=N6 hs3;rw [hs3,n_5] at hlp;refine O3 ?_; refine z_7 ?_;exact ⟨_,j5 rfl tt c6,(by exact .inl ⟨(l++[(i3:Int)],m3,b3),d3Z (k:=4) rfl rfl de_ (fun _=>W6 (f:=icv) (fun _=>⟨.val _,tt⟩) _),hlp,do_,hm3,w3,do_⟩)⟩
  ·have hc2:isT (tk T n3) 4 [44]=true:=by rw [<- ha2]; simpa using h2
   rw [if_pos hc2] at hm2 hlp;subst hm2; refine i8 ?_;exact ⟨(l++[(i3:Int)],n3+1,b3,true,g),[0,1,4,5],⟨do_,hlp,do_,do_,hm2l,w3,do_,do_⟩,⟨rfl,rfl⟩,d4r,⟨.inr ⟨_,rfl,.box ⟨.old a16,.old (.val _),.old O0,a7D rfl,tt⟩⟩,.inl rfl,.inr ⟨_,rfl,.same rfl s9⟩,.inr ⟨_,rfl,.same rfl s9⟩,tt⟩⟩
theorem b4A (hc:Y1 T ps) (hE:∀ g,g<=f->EC T ps g):AC T ps f:=fun d n b hn hb hd hf σ q s hσ =>
 a3U (c:=fun a:List Int × Nat × List Ex=>(.list (a.1.map icv) (gnn a.1.length) none)) (N:=fun a=>a.2.1) (B:=fun a=>a.2.2) (Z:=fun _=>ps) (g:=fun a=>!a.1.isEmpty) (fun _ h=>by simp at h; subst h; exact .val _) (fun _=>a0l _ _) (b17 hc hE d n b hn hb hd hf) hσ
theorem a1c {C:Ctx} {ops:Array Oper} {Q:D3->Env->List c5->Prop} {S:List (List c5->Prop)} {l:List (Nat × List Nat)} {fl:List Nat} {E:Env} (τ:List c5) (h:σ=τ) (k:T2 S τ fl/\a3W C ops Q S l E τ):T2 S σ fl/\a3W C ops Q S l E σ:=h ▸ k
def kc (ph:Bool):Nat:=if ph=true then 3 else 1
def oc1 (ph:Bool) (m:Nat):c5:=if ph=true then .dead else r7 m
def oc2 (ph:Bool) (m:Nat):List c5:=if ph=true then [r7 m] else []
theorem b9r (hc:Y1 T ps) (hE:EC T ps f) (hA:AC T ps f) (hU:UC T ps f) (d n:Nat) (b:List Ex) (hn:n < T.length) (hb:b.length<=256) (hd0:d<=32) (hf:8*(T.length - n)+1<=f+1):b8 CC 301 [.ptr 0 0,(.val (.int .i64 (d:Int)))] (pst T n ps b) (a3s (fun a:PX=>(.val (.int .i64 (a.1:Int)))) (fun a=>a6u T a.2.1 ps a.2.2) (fun a:PX=>(s7 T ps (f+1)).fac d n b=some a/\n < a.2.1/\a.2.1 < T.length/\a.2.2.length<=256) ((s7 T ps (f+1)).fac d n b=none)):=by
 have hT:=hc.len;have hW:=hc.w;have hsp:(s7 T ps (f+1)).fac d n b=(C3 T ps (s7 T ps f)).fac d n b:=rfl;simp only [C3] at hsp;refine (c4 Tryz.func301 rfl rfl ?_);refine a1T ?_; refine cY a2R ?_; refine a8m ?_; refine z_8 ?_; refine B7 ?_; refine z_0 ?_; refine a6y ?_; refine a9M ?_; refine cC (fun h1=>?_) fun h1=>?_
 ·have u1:(tk T n).k=2:=by simpa using h1
  rw [if_pos u1] at hsp;have hn1:=hW n hn (by rw [u1]; decide);refine a4R ?_; refine a9e ?_; refine z_1 ?_; refine cY Y3 ?_; refine a6y ?_; refine cY b9E ?_;refine cD (o3 rfl a9Z B9 (Z3 hT hn1 hb (tk T n) ⟨1,(tk T n).n,0,[],[]⟩ ⟨rfl,rfl,n_2 rfl⟩) rfl (fun x hx=>.inr ⟨x,l8,by rw [hsp,J8,hx.1]; rfl,hx.2⟩) ?_);rintro ⟨i6,b6⟩ ⟨x6,y6⟩;dsimp only at x6 y6 ⊢;rw [J8,x6,n_5] at hsp;exact d0S
 ·have u1:¬ (tk T n).k=2:=by simpa using h1
  rw [if_neg u1] at hsp;refine z_1 ?_;refine cD (b9 rfl c2F o6 (a1f hT hn hW [45] ⟨rfl,rfl,n_2 rfl⟩) rfl ?_);rintro ⟨ac,n2⟩ ⟨ha,hn2,hn2l⟩;dsimp only at ha hn2 hn2l ⊢;refine z_2 ?_; refine cC (fun h2=>?_) fun h2=>?_
  ·have u2:isT (tk T n) 4 [45]=true:=by rw [<- ha]; simpa using h2
   rw [if_pos u2] at hn2 hsp;subst hn2; refine w8 ?_; refine B5 [0,1,2,3,4,5,6,7,8] 3 [0,0,0,4,12,28,60,127,255] [[0,1],[0,1],[0,1],[0,1],[],[]] (hd1l:=[0,1,2]) (tll:=[(3,[0,1]),(4,[0,1]),(5,[0,1]),(6,[0,1]),(7,[]),(8,[])]) d5 d5 rfl rfl rfl ?_; refine chf rfl U4 ?_; refine chf rfl (d6 rfl Y3) ?_; refine a8S ?_;refine A9 rfl rfl (o3 rfl c62 o6 (a6R hT hn2l hW 2 ⟨rfl,rfl,n_2 rfl⟩) rfl (fun x hx _=>.inr ⟨x,l8,by rw [hsp,hx.1]; rfl,hx.2⟩) ?_);rintro ⟨p,n3⟩ ⟨s2,k2⟩;dsimp only at s2 k2 ⊢;rw [s2,n_5] at hsp;dsimp only at hsp;have e2:=a3Z s2 de_;have hpn:=hc.nn (n+1);rw [<- a4p s2] at hpn;have ew : -p.n=IntKind.i64.wrap (0 - p.n):=by rw [b1L om_ om_]; omega
   rw [ew] at hsp;refine ⟨⟨C8,b3q,tt⟩,?_⟩;refine D5 rfl (d6 rfl a3I) ⟨⟨C8,b3q,tt⟩,?_⟩;refine D5 rfl (d6 rfl (d2f rfl tt rfl)) ⟨⟨C8,b3q,tt⟩,?_⟩;refine D5 rfl (d6 rfl b9E) ⟨⟨C8,b3q,tt⟩,?_⟩;refine A9 rfl rfl (o3 rfl a9Z B9 (Z3 hT k2 hb (tk T n) ⟨1,IntKind.i64.wrap (0 - p.n),0,[],[]⟩ ⟨rfl,rfl,n_2 rfl⟩) rfl (fun x hx _=>.inr ⟨x,l8,by rw [hsp,J8,hx.1]; rfl,hx.2⟩) ?_);rintro ⟨i6,b6⟩ ⟨x6,y6⟩;dsimp only at x6 y6 ⊢;rw [J8,x6,n_5] at hsp;refine ⟨tt,?_⟩;refine a9f ?_; refine G3 ?_;exact ⟨_,j5 rfl tt c6,(by exact .inl ⟨(i6,n3,b6),X2 rfl rfl (nb rfl) (.val _),hsp,do_,k2,y6⟩)⟩
  ·have u2:¬ isT (tk T n) 4 [45]=true:=by rw [<- ha]; simpa using h2
   rw [if_neg u2] at hn2 hsp;replace hn2:=hn2.symm;subst hn2; refine z_1 ?_;refine cD (b9 rfl c2F o6 (a1f hT hn hW [40] ⟨rfl,rfl,n_2 rfl⟩) rfl ?_);rintro ⟨ac3,n3⟩ ⟨ha3,hn3,hn3l⟩;dsimp only at ha3 hn3 hn3l ⊢;refine z_2 ?_; refine cC (fun h3=>?_) fun h3=>?_
   ·have u3:isT (tk T n) 4 [40]=true:=by rw [<- ha3]; simpa using h3
    rw [if_pos u3] at hn3 hsp;subst hn3; refine a8W ?_;refine cD (o3 rfl b9H j1 (hE (d+1) (n+1) b hn3l hb om_ om_ _ 0 1 ⟨rfl,rfl,n_2 rfl⟩) rfl (fun x hx=>.inr ⟨x,l8,by rw [hsp,hx.1]; rfl,hx.2⟩) ?_);rintro ⟨i4,n4,b4⟩ ⟨x4,y4,z4,w4⟩;dsimp only at x4 y4 z4 w4 ⊢;rw [x4,n_5] at hsp;dsimp only at hsp;refine c8 [pbx T n4 ps b4 3,.dead,.box (tk T n).cells,r7 b4.length] rfl ?_; refine M9 ?_;refine cD (o3 rfl a5p o6 (O7 hT z4 hW [41] ⟨rfl,rfl,n_2 rfl⟩) rfl (fun x hx=>.inr ⟨x,l8,by rw [hsp,hx.1]; rfl,hx.2⟩) ?_);rintro n5 ⟨s5,k5⟩;dsimp only at s5 k5 ⊢;rw [s5,n_5] at hsp;have e5:=N6 s5;refine O3 ?_; refine z_7 ?_;exact ⟨_,j5 rfl tt c6,(by exact .inl ⟨(i4,n5,b4),X2 rfl rfl (nb rfl) (.val _),hsp,do_,k5,w4⟩)⟩
   ·have u3:¬ isT (tk T n) 4 [40]=true:=by rw [<- ha3]; simpa using h3
    rw [if_neg u3] at hn3 hsp;replace hn3:=hn3.symm;subst hn3; refine z_0 ?_; refine a6y ?_; refine a9M ?_; refine cC (fun h4=>?_) fun h4=>?_
    ·have u4:(tk T n).k≠1:=by simpa using h4
     rw [if_pos u4] at hsp;exact a32
    ·have u4:(tk T n).k=1:=by simpa using h4
     rw [if_neg (fun h=>h u4)] at hsp;have hn1:=hW n hn (by rw [u4]; decide);refine a5X ?_; refine d0J ?_; refine d25 ?_; refine a2K ?_; refine a5q ?_; refine a1R ?_; refine c6O ?_; refine cC (fun h5=>?_) fun h5=>?_
     ·have u5:(tk T n).t=[114,101,97,100]:=by simpa using h5
      have uu:(tk T n).t=[114,101,97,100]\/(tk T n).t=[115,105,122,101]\/(tk T n).t=[104,97,115]\/(tk T n).t=[101,110,118]\/(tk T n).t=[102,108,105,112]:=.inl u5;rw [if_pos uu] at hsp;refine i8 ?_; refine cC (fun h6=>?_) fun h6=>?_
      ·refine z_1 ?_; refine b2u ?_;refine cD (o3 rfl c7g B9 (hU (tk T n) d (n+1) b hn1 hb hd0 om_ _ 0 1 ⟨rfl,rfl,n_2 rfl⟩) rfl (fun x hx=>.inr ⟨x,l8,by rw [hsp]; exact hx.1,hx.2⟩) ?_);rintro ⟨i,m,b2⟩ ⟨g1,g2,g3,g4⟩;dsimp only at g1 g2 g3 g4 ⊢;refine d4N ?_;exact ⟨_,j5 rfl tt c6,d23⟩
      ·exact absurd u5 (by simpa using h6)
     ·have u5:¬ (tk T n).t=[114,101,97,100]:=by simpa using h5
      refine a0b ?_; refine cC (fun h7=>?_) fun h7=>?_
      ·have u7:(tk T n).t=[115,105,122,101]:=by simpa using h7
       have uu:(tk T n).t=[114,101,97,100]\/(tk T n).t=[115,105,122,101]\/(tk T n).t=[104,97,115]\/(tk T n).t=[101,110,118]\/(tk T n).t=[102,108,105,112]:=.inr (.inl u7);rw [if_pos uu] at hsp;refine i8 ?_; refine cC (fun h8=>?_) fun h8=>?_
       ·refine z_1 ?_; refine b2u ?_;refine cD (o3 rfl c7g B9 (hU (tk T n) d (n+1) b hn1 hb hd0 om_ _ 0 1 ⟨rfl,rfl,n_2 rfl⟩) rfl (fun x hx=>.inr ⟨x,l8,by rw [hsp]; exact hx.1,hx.2⟩) ?_);rintro ⟨i,m,b2⟩ ⟨g1,g2,g3,g4⟩;dsimp only at g1 g2 g3 g4 ⊢;refine d4N ?_;exact ⟨_,j5 rfl tt c6,d23⟩
       ·exact absurd u7 (by simpa using h8)
      ·have u7:¬ (tk T n).t=[115,105,122,101]:=by simpa using h7
       refine a0b ?_; refine cC (fun h9=>?_) fun h9=>?_
       ·have u9:(tk T n).t=[104,97,115]:=by simpa using h9
        have uu:(tk T n).t=[114,101,97,100]\/(tk T n).t=[115,105,122,101]\/(tk T n).t=[104,97,115]\/(tk T n).t=[101,110,118]\/(tk T n).t=[102,108,105,112]:=.inr (.inr (.inl u9));rw [if_pos uu] at hsp;refine i8 ?_; refine cC (fun h10=>?_) fun h10=>?_
        ·refine z_1 ?_; refine b2u ?_;refine cD (o3 rfl c7g B9 (hU (tk T n) d (n+1) b hn1 hb hd0 om_ _ 0 1 ⟨rfl,rfl,n_2 rfl⟩) rfl (fun x hx=>.inr ⟨x,l8,by rw [hsp]; exact hx.1,hx.2⟩) ?_);rintro ⟨i,m,b2⟩ ⟨g1,g2,g3,g4⟩;dsimp only at g1 g2 g3 g4 ⊢;refine d4N ?_;exact ⟨_,j5 rfl tt c6,d23⟩
        ·exact absurd u9 (by simpa using h10)
       ·have u9:¬ (tk T n).t=[104,97,115]:=by simpa using h9
        refine a0b ?_; refine cC (fun h11=>?_) fun h11=>?_
        ·have u11:(tk T n).t=[101,110,118]:=by simpa using h11
         have uu:(tk T n).t=[114,101,97,100]\/(tk T n).t=[115,105,122,101]\/(tk T n).t=[104,97,115]\/(tk T n).t=[101,110,118]\/(tk T n).t=[102,108,105,112]:=.inr (.inr (.inr (.inl u11)));rw [if_pos uu] at hsp;refine i8 ?_; refine cC (fun h12=>?_) fun h12=>?_
         ·refine z_1 ?_; refine b2u ?_;refine cD (o3 rfl c7g B9 (hU (tk T n) d (n+1) b hn1 hb hd0 om_ _ 0 1 ⟨rfl,rfl,n_2 rfl⟩) rfl (fun x hx=>.inr ⟨x,l8,by rw [hsp]; exact hx.1,hx.2⟩) ?_);rintro ⟨i,m,b2⟩ ⟨g1,g2,g3,g4⟩;dsimp only at g1 g2 g3 g4 ⊢;refine d4N ?_;exact ⟨_,j5 rfl tt c6,d23⟩
         ·exact absurd u11 (by simpa using h12)
        ·have u11:¬ (tk T n).t=[101,110,118]:=by simpa using h11
         refine A0 ?_; refine c6O ?_; refine cC (fun h13=>?_) fun h13=>?_
         ·have u13:(tk T n).t=[102,108,105,112]:=by simpa using h13
          have uu:(tk T n).t=[114,101,97,100]\/(tk T n).t=[115,105,122,101]\/(tk T n).t=[104,97,115]\/(tk T n).t=[101,110,118]\/(tk T n).t=[102,108,105,112]:=.inr (.inr (.inr (.inr (u13))));rw [if_pos uu] at hsp;refine z_1 ?_; refine b2u ?_;refine cD (o3 rfl c7g B9 (hU (tk T n) d (n+1) b hn1 hb hd0 om_ _ 0 1 ⟨rfl,rfl,n_2 rfl⟩) rfl (fun x hx=>.inr ⟨x,l8,by rw [hsp]; exact hx.1,hx.2⟩) ?_);rintro ⟨i,m,b2⟩ ⟨g1,g2,g3,g4⟩;dsimp only at g1 g2 g3 g4 ⊢;refine d4N ?_;exact ⟨_,j5 rfl tt c6,d23⟩
         ·have h13':¬ (tk T n).t=[102,108,105,112]:=by simpa using h13
          have un:¬ ((tk T n).t=[114,101,97,100]\/(tk T n).t=[115,105,122,101]\/(tk T n).t=[104,97,115]\/(tk T n).t=[101,110,118]\/(tk T n).t=[102,108,105,112]):=fun hh=>by rcases hh with h | h | h | h | h; exact u5 h; exact u7 h; exact u9 h; exact u11 h; exact h13' h
          rw [if_neg un] at hsp;refine a19 ?_; refine a2K ?_; refine d1y ?_; refine cC (fun h14=>?_) fun h14=>?_
          ·have u14:O1 (tk T n).t=true:=by simpa using h14
           rw [if_pos u14] at hsp;exact a32
          ·have u14:¬ O1 (tk T n).t=true:=by simpa using h14
           rw [if_neg u14] at hsp;refine a4V ?_; refine cY (c7 rfl c4q a2C (b5p hT hn1 4 [40] ⟨rfl,rfl,n_2 rfl⟩) rfl) ?_; refine i7 ?_; refine cC (fun h15=>?_) fun h15=>?_
           ·have u15:isT (tk T (n+1)) 4 [40]=true:=by simpa using h15
            rw [if_pos u15] at hsp;refine w8 ?_; refine B5 [0,1,2,3,4,5,6,7,8,9] 6 [0,0,0,4,0,0,48,124,255,511] [[0,1,2,3],[0,1],[],[]] (hd1l:=[0,1,2,3,4,5]) (tll:=[(6,[0,1,2,3]),(7,[0,1]),(8,[]),(9,[])]) d5 d5 rfl rfl rfl ?_; refine chf rfl U4 ?_; refine chf rfl (d6 rfl Y3) ?_; refine chf rfl (d6 rfl c02) ?_; refine chf rfl c8P ?_; refine a6M ?_; refine D2 ?_;refine A9 rfl rfl (o3 rfl Tryz.call318 j1 (hA d (n+1) b hn1 hb hd0 om_ _ 0 1 ⟨rfl,rfl,n_2 rfl⟩) rfl (fun x hx _=>.inr ⟨x,l8,by rw [hsp,hx.1]; rfl,hx.2⟩) ?_);rintro ⟨l,m,b2⟩ ⟨g1,g2,g3,g4,_⟩;dsimp only at g1 g2 g3 g4 ⊢;rw [g1,n_5] at hsp;dsimp only at hsp;generalize (!l.isEmpty)=ph;refine a1c ([pbx T m ps b2 (kc ph),oc1 ph b2.length,.box (tk T n).cells]++oc2 ph b2.length) R9 ?_;refine ⟨⟨C8,b3q,(by exact d6 rfl c02),a4v,tt⟩,?_⟩;refine D5 rfl (d6 rfl d3H) ⟨⟨C8,b3q,tt⟩,?_⟩;refine A9 rfl rfl (o3 rfl a9Z B9 (Z3 hT g3 g4 (tk T n) ⟨3,0,0,(tk T n).t,l⟩ (q:=0) (s:=kc ph) b6U) rfl (fun x hx _=>.inr ⟨x,l8,by rw [hsp,J8,hx.1]; rfl,hx.2⟩) ?_);rintro ⟨i6,b6⟩ ⟨x6,y6⟩;dsimp only at x6 y6 ⊢;rw [J8,x6,n_5] at hsp;refine ⟨tt,?_⟩;refine a9f ?_; refine G3 ?_;exact ⟨_,j5 rfl tt c6,(by exact .inl ⟨(i6,m,b6),(by cases ph; exact X2 (k:=3) rfl rfl de_ (.val _); exact X2 (k:=4) rfl rfl de_ (.val _)),hsp,do_,g3,y6⟩)⟩
           ·have u15:¬ isT (tk T (n+1)) 4 [40]=true:=by simpa using h15
            rw [if_neg u15] at hsp;refine z_9 ?_; refine B4 8 [0,1,3,7,0,16,63,127] d5 d5 rfl ?_; refine a5r ?_; refine hY (j2 rfl tt rfl c2M rfl a3O de_) ?_; refine hY a5U ?_; refine hY c02 ?_; refine hY Y2 ?_; refine hY (c7 rfl Tryz.call205 j1 (a85 ps (gnn ps.length) (tk T n).t (by have:=hc.ps; omega) _) rfl) ?_; refine b2M ?_; refine a2s ?_; refine G9 ?_; refine cC (fun h16=>?_) fun h16=>?_
            ·have u16:ixS ps (tk T n).t 0 < 0:=by simpa using h16
             rw [if_pos u16] at hsp;exact a32
            ·have u16:¬ ixS ps (tk T n).t 0 < 0:=by simpa using h16
             rw [if_neg u16] at hsp;refine a05 ?_; refine b2u ?_; refine cY b9E ?_;refine cD (o3 rfl a9Z B9 (Z3 hT hn1 hb (tk T n) ⟨2,ixS ps (tk T n).t 0,0,[],[]⟩ ⟨rfl,rfl,n_2 rfl⟩) rfl (fun x hx=>.inr ⟨x,l8,by rw [hsp,J8,hx.1]; rfl,hx.2⟩) ?_);rintro ⟨i6,b6⟩ ⟨x6,y6⟩;dsimp only at x6 y6 ⊢;rw [J8,x6,n_5] at hsp;exact d0S
theorem c2G (hc:Y1 T ps) (hE:EC T ps f) (hA:AC T ps f) (hU:UC T ps f):FC T ps (f+1):=fun d n b hn hb hd hf σ q s hσ =>
 a2M (c:=fun a:PX=>(.val (.int .i64 (a.1:Int)))) (N:=fun a=>a.2.1) (B:=fun a=>a.2.2) (fun _ h=>by simp at h; subst h; exact .val _) (fun _=>.val _) (b9r hc hE hA hU d n b hn hb hd hf) hσ
theorem c7H {T:List Tok} {ps:List Str} (hc:Y1 T ps):∀ f,(∀ g,g<=f->EC T ps g)/\(∀ g,g<=f->BC T ps g)/\(∀ g,g<=f->FC T ps g)
 | 0=>by
  refine ⟨fun g hg d n b hn _ _ hf=>?_,fun g hg lv d n b hn _ _ h4 _ hf=>?_,fun g hg d n b hn _ _ hf=>?_⟩ <;> exfalso <;> omega
 | f+1=>by
  obtain ⟨hE,hB,hF⟩:=c7H hc f;have e1:=c84 hc (hE f (n_4 _)) (hB f (n_4 _));have b1:=c2x hc hB (hF f (n_4 _));have f1:=c2G hc (hE f (n_4 _)) (b4A hc hE) (b8E hc (hE f (n_4 _)));have up:∀ {P:Nat->Prop},(∀ g,g<=f->P g)->P (f+1)->∀ g,g<=f+1->P g:=fun {P} h h1 g hg=>by
   rcases T5 f g with hlt | hge
   ·rw [show g=f+1 by omega]; exact h1
   ·exact h g hge
  exact ⟨up hE e1,up hB b1,up hF f1⟩
def ixP {α:Type} (p:α->Bool):List α->Nat->Int
 | [],_=>-1
 | y::l,i=>if p y=true then i else ixP p l (i+1)
theorem c6p {y:α} (h:l[i]? = some y) (p:α->Bool):ixP p (l.drop i) i=if p y=true then (i:Int) else ixP p (l.drop (i+1)) (i+1):=by
 obtain ⟨hlt,he⟩:=n_0.1 h;rw [Q9 hlt,he];rfl
theorem c1o {α:Type} (p:α->Bool):∀ (l:List α) (i:Nat),decide (0<=ixP p l i)=l.any p
 | [],_=>rfl
 | y::l,i=>by
  rw [ixP,List.any_cons];cases hp:p y with
  | true=>simp
  | false=>simpa using c1o p l (i+1)
theorem b38 {g:FuncId} {caps:List CV} {p:De->Bool} (l:List De) (nn:Bool) (hl:l.length<=1000000) (hg:∀ args w,(callFunc g args).run CC.P w = .ok (.enter g args) w) (H:∀ x∈l,b8 CC g ([.agg x.cells]++caps) σ fun r σ'=>r = .ret (.val (.bool (p x)))/\σ'=σ):b8 CC 276 [(.list (l.map De.cv) nn none),.clo g caps] σ fun r σ'=>r = .ret (.val (.int .i64 (ixP p l 0)))/\σ'=σ:=by
 refine (c4 Tryz.func276 rfl rfl ?_);refine a04 ?_; refine cY c5T ?_; refine a1n ?_; refine S3 (α:=Nat) (fun i=>[(0,(.list (l.map De.cv) nn none)),(1,(.clo g caps)),(7,(.val (.int .i64 (l.length:Int)))),(8,(.val (.int .i64 (i:Int))))]) (fun _=>σ) (fun i=>i<=l.length/\ixP p l 0=ixP p (l.drop i) i) (fun i=>l.length - i) 0 ⟨n_3 _,rfl⟩ tu_ rfl ?_; intro i E0 ⟨hi,hr⟩; refine F2 ?_; refine cC (fun h1=>?_) fun h1=>?_
 ·have hlt:(i:Int) < l.length:=by simpa using h1
  obtain ⟨y,hb⟩:∃ y,l[i]? = some y:=⟨l[i]'om_,si_⟩;rw [c6p hb] at hr;refine Z0 ?_; refine z_2 ?_; refine a0n ?_; refine d2L ?_; refine cY (b3B rfl tt rfl hg ⟨tt,tt⟩ (H y (n_1 hb)) rfl) ?_; refine i7 ?_; refine cC (fun h2=>?_) fun h2=>?_
  ·have hx:p y=true:=by simpa using h2
   rw [if_pos hx] at hr;refine a8B ?_;exact ⟨_,j5 rfl tt c6,(by exact ⟨by rw [hr],rfl⟩)⟩
  ·have hx:¬ p y=true:=by simpa using h2
   rw [if_neg hx] at hr;refine a2h ?_;exact ⟨(i+1),om_,⟨om_,hr⟩,tu_,rfl⟩
 ·have hge:i=l.length:=by
   have:¬ (i:Int) < l.length:=by simpa using h1
   omega
  refine a3y ?_;exact ⟨_,j5 rfl tt c6,(by exact ⟨by rw [hr,hge,List.drop_length]; rfl,rfl⟩)⟩
theorem a9q {g:FuncId} {caps:List CV} {p:De->Bool} (l:List De) (nn:Bool) (hl:l.length<=1000000) (hg:∀ args w,(callFunc g args).run CC.P w = .ok (.enter g args) w) (H:∀ x∈l,b8 CC g ([.agg x.cells]++caps) σ fun r σ'=>r = .ret (.val (.bool (p x)))/\σ'=σ):b8 CC 238 [(.list (l.map De.cv) nn none),.clo g caps] σ fun r σ'=>r = .ret (.val (.bool (l.any p)))/\σ'=σ:=by
 refine (c4 Tryz.func238 rfl rfl ?_);refine a2U ?_; refine cY (c7 rfl Tryz.call276 j1 (b38 l nn hl hg H) rfl) ?_; refine cY P1 ?_; refine z_7 ?_;exact ⟨_,j5 rfl tt c6,(by exact ⟨by rw [<- c1o p l 0],rfl⟩)⟩
theorem a1e {σ:List α} {x:α} (h:σ[q]? = some x) (l:List α):(σ++l)[q]? = some x:=by
 rw [L4 (n_0.1 h).1]; exact h
theorem c1v (σ:List α) (x:α):(σ++[x])[σ.length]? = some x:=by simp
theorem c4j (x:De) (t:Tok) (kd:Int) {s:Nat} (hq:σ[q]? = some (.box [(.val (.int .i64 kd))])) (hs:σ[s]? = some (.box t.cells)):b8 CC 239 ([.agg x.cells]++[.ptr q 0,.ptr s 0]) σ fun r σ'=>r = .ret (.val (.bool ((x.k == kd) && decide (x.name=t.t))))/\σ'=σ:=by
 refine d4 (c4 Tryz.func239 rfl rfl ?_);refine a2n ?_; refine z_0 ?_; refine cY c8q ?_; refine cY d5n ?_; refine cY d5n ?_; refine cY a2B ?_; refine cY j7 ?_; refine cG c1l ?_; refine cG d4J ?_; refine cG b6w ?_; refine cG d4J ?_; refine cG b04 ?_;exact d2S
def dkL:List (Str × Int):=W2 (W2 (W2 [] [102,117,110,99] 1) [116,101,115,116] 2) [103,101,110] 3
def C9 (s:Str):Int:=(glk dkL s).getD 0
def b20 (T:List Tok) (ps:List Str) (d n:Nat):Option PX:=(s7 T ps (8*T.length+6)).ex d n []
def a0R (T:List Tok) (kd:Int) (n:Nat):Option (Tok × Nat):=if kd=3 then V0 T n else F6 T n
def a0S (T:List Tok) (kd:Int) (n:Nat):Option (List Str × Nat):=if kd=1 then G7 T n else some ([],n)
def W1 (T:List Tok) (bs:List De) (n:Nat):Option (De × Nat) :=
 if (tk T n).k≠1\/C9 (tk T n).t=0 then none else if bs.length=64 then none else
 (a0R T (C9 (tk T n).t) (n+1)).bind fun x=>if (bs.any fun d=>(d.k == C9 (tk T n).t) && decide (d.name=x.1.t))=true then none else
 (a0S T (C9 (tk T n).t) x.2).bind fun q=>(pIs T q.2 4 [61]).bind fun m=>(b20 T q.1 1 m).bind fun y=>(pIs T y.2.1 4 [59]).bind fun m2=>some (⟨C9 (tk T n).t,x.1.t,q.1,y.2.2⟩,m2)
theorem b2N {f:FuncId} {args:List CV} {c:α->CV} {Z:α->List Str} {n:Nat} (hargs:∀ a∈args,p9 a) (hc:∀ a,p9 (c a))
 (h:b8 CC f (.ptr 0 0::args) (pst T n ps b) (a3s c (fun a=>a6u T (N a) (Z a) (B a)) P bad)) {σ:List c5} {q s:Nat} (hσ:PAt σ q s T n ps b) :
 b8 CC f (.ptr q 0::args) σ (a3P c (fun a=>(σ.set q (pbx T (N a) (Z a) (B a) σ.length)).set s .dead++[r7 (B a).length]) P σ q s bad):=by
 refine (a3U (c:=c) (N:=N) (B:=B) (Z:=Z) (g:=fun _=>true) (P:=P) (bad:=bad) hargs hc (h.mono fun r τ hh=>?_) hσ).mono fun r τ hh=>?_
 ·rcases hh with ⟨a,h1,h2⟩ | h
  ·exact .inl ⟨a,h1,h2⟩
  ·exact .inr h
 ·rcases hh with ⟨a,h1,h2,h3⟩ | h
  ·exact .inl ⟨a,h1,h2,h3⟩
  ·exact .inr h
theorem b51 {kd:Int} {n:Nat} (h:a0R T kd n=some (t,m)):m=n+1:=by
 unfold a0R at h;split at h
 ·exact a6N h
 ·exact b1v h
theorem b5E {T:List Tok}:∀ (f n:Nat) (l l':List Str) (m:Nat),a0H f T n l=some (l',m)->n < m
 | 0,n,l,l',m,h=>by cases h
 | f+1,n,l,l',m,h=>by
  rw [a0H] at h;cases hn:F6 T n with
  | none=>rw [hn] at h; cases h
  | some x =>
   rw [hn,n_5] at h;have e:=b1v (t:=x.1) hn;split at h
   ·cases h
   ·split at h
    ·cases h
    ·split at h
     ·have:=b5E f _ _ _ _ h;omega
     ·cases hi:pIs T x.2 4 [41] with
      | none=>rw [hi] at h; cases h
      | some y =>
       rw [hi,n_5] at h;injection h with h
       injection h with _ h
       have:=N6 hi;omega
theorem b8g {n:Nat} {l:List Str} (h:G7 T n=some (l,m)):n < m:=by
 unfold G7 at h;cases hi:pIs T n 4 [40] with
 | none=>rw [hi] at h; cases h
 | some y =>
  rw [hi,n_5] at h;have:=N6 hi;split at h
  ·injection h with h
   injection h with _ h
   omega
  ·have:=b5E _ _ _ _ _ h;omega
theorem b5X {kd:Int} {n:Nat} {l:List Str} (h:a0S T kd n=some (l,m)):n<=m:=by
 unfold a0S at h;split at h
 ·exact Nat.le_of_lt (b8g h)
 ·injection h with h
  injection h with _ h
  omega
theorem b9F (k:Int) (nm:Str) (ps:List Str) (b:List Ex) (tok:Option Nat):r8 L sel (.agg [.val (.int .i64 k),sv nm,.list (ps.map scv) (gnn ps.length) none,.list (b.map Ex.cv) (gnn b.length) tok]) (.agg (⟨k,nm,ps,b⟩:De).cells) :=
 .agg rfl fun i c c' h h'=>by
  rcases i with _ | _ | _ | _ | i
  ·injection h with h; injection h' with h'; subst h h'; exact .old (.val _)
  ·injection h with h; injection h' with h'; subst h h'; exact .old (.val _)
  ·injection h with h; injection h' with h'; subst h h'; exact .old O0
  ·injection h with h; injection h' with h'; subst h h'; exact W6 (f:=Ex.cv) Ex.pure _
  ·cases h
theorem d0s (n:Nat):b4m n (⟨0,[],[],[]⟩:De).cells:=⟨.val _,.val _,A5 _ _ _,J5 _ _ _,tt⟩
theorem c6c (hc:Y1 T ps) (bs:List De) (hbs:bs.length<=64) (n:Nat) (b:List Ex) (hn:n < T.length) (_:b.length<=256):b8 CC 197 [.ptr 0 0,(.list (bs.map De.cv) (gnn bs.length) none)] (pst T n ps b) (a3s (fun a:De × Nat=>(.agg a.1.cells)) (fun a=>a6u T a.2 a.1.params a.1.body) (fun a:De × Nat=>W1 T bs n=some a/\n < a.2/\a.2 < T.length/\a.1.params.length<=8/\a.1.body.length<=256) (W1 T bs n=none)):=by
 have hT:=hc.len;have hW:=hc.w;have hsp:W1 T bs n=W1 T bs n:=rfl
 conv at hsp=>rhs; unfold W1
 refine (c4 Tryz.func197 rfl rfl ?_);refine b4l ?_; refine J7 [pbx T n ps b 1,r7 b.length,.dead] rfl ?_; refine z_0 ?_;refine cD (r6 rfl a9t rfl o4 ?_);refine U2 ?_;refine cD (X9 rfl ?_);refine cD (k8 (vc:=kv) (l:=[]) (a:=[102,117,110,99]) (b:=1) b6h (.inr rfl) tt rfl rfl rfl rfl rfl c1p rfl ?_);refine cD (k8 (vc:=kv) (l:=W2 [] [102,117,110,99] 1) (a:=[116,101,115,116]) (b:=2) b6h (.inr rfl) tt rfl rfl rfl rfl rfl c1p rfl ?_);refine cD (k8 (vc:=kv) (l:=W2 (W2 [] [102,117,110,99] 1) [116,101,115,116] 2) (a:=[103,101,110]) (b:=3) b6h (.inr rfl) tt rfl rfl rfl rfl rfl c1p rfl ?_);refine cY j7 ?_; refine M9 ?_; refine cY a2R ?_; refine a8m ?_; refine O3 ?_; refine a2K ?_; refine cY (P9 (vc:=kv) (l:=dkL) (a:=(tk T n).t) b6h rfl tt tt rfl rfl c1p t_6 rfl rfl (b4p _ _)) ?_;refine cD (r6 rfl t_6 rfl (.inl rfl) ?_);refine d25 ?_; refine a6y ?_; refine a4O ?_; refine cG (fun hg=>o9 rfl tt rfl a3o rfl rfl) ?_; refine a8M ?_; refine cC (fun h1=>?_) fun h1=>?_
 ·have u1:(tk T n).k≠1\/(C9 (tk T n).t)=0:=by simpa [C9] using h1
  rw [if_pos u1] at hsp;exact a32
 ·have u1:¬ ((tk T n).k≠1\/(C9 (tk T n).t)=0):=by simpa [C9] using h1
  rw [if_neg u1] at hsp;have hn1:=hW n hn (fun h5=>u1 (.inl (by rw [h5]; decide)));refine a4V ?_; refine cY c5T ?_; refine G9 ?_; refine cC (fun h2=>?_) fun h2=>?_
  ·have u2:bs.length=64:=by simp at h2; omega
   rw [if_pos u2] at hsp;exact a32
  ·have u2:¬ bs.length=64:=by simp at h2; omega
   rw [if_neg u2] at hsp;refine a5X ?_; refine a9e ?_; refine b4c hCC 7 rfl (α:=Tok × Nat) (fun _=>[(0,.ptr 0 0),(1,(.list (bs.map De.cv) (gnn bs.length) none)),(4,.ptr 3 0),(6,.ptr 5 0),(7,.ptr 6 0)]) (fun x=>[pbx T x.2 ps b 1,r7 b.length,.dead,.box (⟨0,[],[],[]⟩:De).cells,.dead,.box x.1.cells,.box [(.val (.int .i64 (C9 (tk T n).t)))]]) (fun x=>a0R T (C9 (tk T n).t) (n+1)=some x/\x.2 < T.length) ?_ ?_
   ·
    refine z_0 ?_; refine cY a0F ?_; refine G9 ?_; refine cC (fun h3=>?_) fun h3=>?_
    ·have u3:(C9 (tk T n).t)=3:=by simpa [C9] using h3
     have hh:∀ m,a0R T (C9 (tk T n).t) m=V0 T m:=fun m=>if_pos u3;rw [hh] at hsp;refine z_5 ?_;refine cD (o3 rfl c0n ⟨tt,tt⟩ (a9T hT hn1 hW hc.l ⟨rfl,rfl,n_2 rfl⟩) rfl (fun x hx=>.inr ⟨x,l8,by rw [hsp,hx.1]; rfl,hx.2⟩) ?_);rintro ⟨x,n2⟩ ⟨g1,g2⟩;dsimp only at g1 g2 ⊢;refine d3A ?_;exact ⟨(x,n2),[0,1,2,3,4,5,6],⟨by rw [hh]; exact g1,g2⟩,⟨rfl,rfl⟩,c2N,⟨.inr ⟨_,rfl,.same rfl a89⟩,.inr ⟨_,rfl,.same rfl s9⟩,.inl rfl,.inr ⟨_,rfl,.same rfl a3B⟩,.inl rfl,.inr ⟨_,rfl,.same rfl (s8 ⟨.val _,.val _,.val _,.val _,tt⟩)⟩,.inr ⟨_,rfl,.same rfl (s8 ⟨.val _,tt⟩)⟩,tt⟩⟩
    ·have u3:¬ (C9 (tk T n).t)=3:=by simpa [C9] using h3
     have hh:∀ m,a0R T (C9 (tk T n).t) m=F6 T m:=fun m=>if_neg u3;rw [hh] at hsp;refine z_5 ?_;refine cD (o3 rfl c0T ⟨tt,tt⟩ (a9W hT hn1 hW ⟨rfl,rfl,n_2 rfl⟩) rfl (fun x hx=>.inr ⟨x,l8,by rw [hsp,hx.1]; rfl,hx.2⟩) ?_);rintro ⟨x,n2⟩ ⟨g1,g2⟩;dsimp only at g1 g2 ⊢;refine d3A ?_;exact ⟨(x,n2),[0,1,2,3,4,5,6],⟨by rw [hh]; exact g1,g2⟩,⟨rfl,rfl⟩,c2N,⟨.inr ⟨_,rfl,.same rfl a89⟩,.inr ⟨_,rfl,.same rfl s9⟩,.inl rfl,.inr ⟨_,rfl,.same rfl a3B⟩,.inl rfl,.inr ⟨_,rfl,.same rfl (s8 ⟨.val _,.val _,.val _,.val _,tt⟩)⟩,.inr ⟨_,rfl,.same rfl (s8 ⟨.val _,tt⟩)⟩,tt⟩⟩
   ·intro ⟨x,n2⟩ ⟨g1,g2⟩;dsimp only at g1 g2 ⊢;have e2:=b51 g1;rw [g1,n_5] at hsp;dsimp only at hsp;refine a3c ?_; refine cY (b1h rfl j1) ?_; refine cY (c7 rfl Tryz.call238 j1 (a9q bs _ om_ Tryz.call239 (fun y _=>c4j y x (C9 (tk T n).t) (q:=6) (s:=5) rfl rfl)) rfl) ?_; refine i7 ?_; refine cC (fun h4=>?_) fun h4=>?_
    ·have u4:(bs.any fun d=>(d.k == (C9 (tk T n).t)) && decide (d.name=x.t))=true:=h4;rw [if_pos u4] at hsp;exact a32
    ·have u4:¬ (bs.any fun d=>(d.k == (C9 (tk T n).t)) && decide (d.name=x.t))=true:=by rw [h4]; decide
     rw [if_neg u4] at hsp;refine a0x ?_; refine cY a0F ?_; refine a2K ?_; refine cY (x9 #[(0,1),(1,1),(2,1),(3,1)] rfl j1 b4z a9t rfl ⟨_,rfl⟩ (fun w=>by kernel_rfl) rfl rfl) ?_; refine b8I ?_; refine i7 ?_; refine b4c hCC 8 rfl (α:=List Str × Nat) (fun _=>[(0,.ptr 0 0),(4,.ptr 3 0),(8,.ptr 7 0)]) (fun q=>[pbx T q.2 ps b 1,r7 b.length,.dead,.box (⟨0,[],[],[]⟩:De).cells,.dead,.dead,.dead,.box (⟨(C9 (tk T n).t),x.t,q.1,[]⟩:De).cells]) (fun q=>a0S T (C9 (tk T n).t) n2=some q/\q.2 < T.length/\q.1.length<=8) ?_ ?_
     ·
      refine z_0 ?_; refine cY a0F ?_; refine G9 ?_; refine cC (fun h5=>?_) fun h5=>?_
      ·have u5:(C9 (tk T n).t)=1:=by simpa [C9] using h5
       have hq:∀ m,a0S T (C9 (tk T n).t) m=G7 T m:=fun m=>if_pos u5;rw [hq] at hsp;refine z_5 ?_;refine cD (o3 rfl Tryz.call240 ⟨tt,tt⟩ (b1R hT g2 hW ⟨rfl,rfl,n_2 rfl⟩) rfl (fun x hx=>.inr ⟨x,l8,by rw [hsp,hx.1]; rfl,hx.2⟩) ?_);rintro ⟨pl,n3⟩ ⟨k1,k2,k3⟩;dsimp only at k1 k2 k3 ⊢;refine cY c0O ?_; refine b9G ?_;exact ⟨(pl,n3),[0,1,2,3,4,5,6,7],⟨by rw [hq]; exact k1,k2,k3⟩,⟨rfl,rfl⟩,a3Q,⟨.inr ⟨_,rfl,.same rfl a89⟩,.inr ⟨_,rfl,.same rfl s9⟩,.inl rfl,.inr ⟨_,rfl,.same rfl a3B⟩,.inl rfl,.inl rfl,.inl rfl,.inr ⟨_,rfl,.same rfl (s8 ⟨.val _,.val _,A5 _ _ _,J5 _ _ _,tt⟩)⟩,tt⟩⟩
      ·have u5:¬ (C9 (tk T n).t)=1:=by simpa [C9] using h5
       have hq:∀ m,a0S T (C9 (tk T n).t) m=some ([],m):=fun m=>if_neg u5;refine i8 ?_;exact ⟨([],n2),[0,1,2,3,4,5,6,7],⟨hq n2,g2,n_3 _⟩,⟨rfl,rfl⟩,a3Q,⟨.inr ⟨_,rfl,.same rfl a89⟩,.inr ⟨_,rfl,.same rfl s9⟩,.inl rfl,.inr ⟨_,rfl,.same rfl a3B⟩,.inl rfl,.inl rfl,.inl rfl,.inr ⟨_,rfl,.same rfl (s8 ⟨.val _,.val _,A5 _ _ _,J5 _ _ _,tt⟩)⟩,tt⟩⟩
     ·intro ⟨pl,n3⟩ ⟨k1,k2,k3⟩;dsimp only at k1 k2 k3 ⊢;have e3:=b5X k1;rw [k1,n_5] at hsp;dsimp only at hsp;refine z_1 ?_;refine cD (o3 rfl a5p o6 (O7 hT k2 hW [61] ⟨rfl,rfl,n_2 rfl⟩) rfl (fun x hx=>.inr ⟨x,l8,by rw [hsp,hx.1]; rfl,hx.2⟩) ?_);rintro n4 ⟨s4,k4⟩;dsimp only at s4 k4 ⊢;have e4:=N6 s4;rw [s4,n_5] at hsp;have hc':Y1 T pl:=⟨hT,hW,hc.l,om_,hc.nn⟩;refine a4s ?_; refine a5L ?_; refine cY J2 ?_; refine cY (j2 rfl tt rfl c2M rfl a3O de_) ?_;refine cD (j3 rfl tt tt rfl c6 a3O (.inl rfl) rfl rfl (nb rfl) ?_);refine cY J2 ?_; refine cY b2B ?_;refine cD (j3 rfl tt rfl rfl c6 b2d (.inl rfl) rfl rfl (nb rfl) ?_);refine O3 ?_;refine cD (o3 rfl b9H o6 ((c7H hc' (8*T.length+6)).1 _ (n_4 _) 1 n4 [] k4 (n_3 _) de_ om_ _ 0 2 ⟨rfl,rfl,n_2 rfl⟩) rfl (fun x hx=>.inr ⟨x,l8,by rw [hsp,b20,hx.1]; rfl,hx.2⟩) ?_);rintro ⟨i5,n5,b5⟩ ⟨x5,y5,z5,w5⟩;dsimp only at x5 y5 z5 w5 ⊢;rw [b20,x5,n_5] at hsp;dsimp only at hsp;refine c8 [pbx T n5 pl b5 8,r7 b.length,.dead,.box (⟨0,[],[],[]⟩:De).cells,.dead,.dead,.dead,.box (⟨(C9 (tk T n).t),x.t,pl,[]⟩:De).cells,r7 b5.length] rfl ?_; refine b48 ?_; refine cY b2B ?_; refine cY a7o ?_; refine d1k ?_; refine O3 ?_;refine cD (o3 rfl a5p o6 (O7 hT z5 hW [59] (q:=0) (s:=8) ⟨rfl,rfl,n_2 rfl⟩) rfl (fun x hx=>.inr ⟨x,l8,by rw [hsp,hx.1]; rfl,hx.2⟩) ?_);rintro n6 ⟨s6,k6⟩;dsimp only at s6 k6 ⊢;have e6:=N6 s6;rw [s6,n_5] at hsp;refine U2 ?_; refine cY c01 ?_; refine c0v ?_; refine G3 ?_;exact ⟨_,A8 rfl c8A,(by exact .inl ⟨(⟨(C9 (tk T n).t),x.t,pl,b5⟩,n6),b4n (k:=8) rfl rfl de_ (fun _=>b9F _ _ _ _ _),hsp,do_,k6,k3,w5⟩)⟩
theorem d0e (hc:Y1 T ps) (bs:List De) (hbs:bs.length<=64) {n:Nat} (hn:n < T.length) (hb:b.length<=256) {s:Nat} (hσ:PAt σ q s T n ps b):b8 CC 197 [.ptr q 0,(.list (bs.map De.cv) (gnn bs.length) none)] σ (a3P (fun a:De × Nat=>(.agg a.1.cells)) (fun a=>(σ.set q (pbx T a.2 a.1.params a.1.body σ.length)).set s .dead++[r7 a.1.body.length]) (fun a:De × Nat=>W1 T bs n=some a/\n < a.2/\a.2 < T.length/\a.1.params.length<=8/\a.1.body.length<=256) σ q s (W1 T bs n=none)) :=
 b2N (c:=(fun a:De × Nat=>(.agg a.1.cells))) (N:=fun a=>a.2) (Z:=fun a=>a.1.params) (B:=fun a=>a.1.body) (fun _ h=>by simp at h; subst h; exact a7v _ _) (fun a=>o8 a.1.pure) (c6c hc bs hbs n b hn hb) hσ
def Z7:Nat->List Tok->Str->Nat->List Str->Option (List Str × Nat)
 | 0,_,_,_,_=>none
 | f+1,T,pkg,n,l=>if isT (tk T n) 1 [105,109,112,111,114,116]=true then (if l.length=8 then none else (F6 T (n+1)).bind fun x=>if x.1.t=pkg\/x.1.t∈l then none else (pIs T x.2 4 [59]).bind fun m=>Z7 f T pkg m (l++[x.1.t])) else some (l,n)
def L5:Nat->List Tok->Nat->List De->Option (List De × Nat)
 | 0,_,_,_=>none
 | f+1,T,n,l=>if (tk T n).k=5 then some (l,n) else (W1 T l n).bind fun x=>L5 f T x.2 (l++[x.1])
def R3 (T:List Tok):Option Src:=(pIs T 0 1 [112,97,99,107,97,103,101]).bind fun n1=>(F6 T n1).bind fun x=>(pIs T x.2 4 [59]).bind fun n2=>(Z7 9 T x.1.t n2 []).bind fun y=>(L5 65 T y.2 []).bind fun z=>some ⟨x.1.t,y.1,z.1⟩
theorem b24 {bs:List De} {n:Nat} {x:De × Nat} (h:W1 T bs n=some x):bs.length≠64:=fun h64=>by
 unfold W1 at h;rw [if_pos h64] at h;split at h <;> cases h
theorem c9D (pkg:Str) (i:List Str) (d:List De) (t1 t2:Option Nat):r8 L sel (.agg [sv pkg,.list (i.map scv) (gnn i.length) t1,.list (d.map De.cv) (gnn d.length) t2]) (.agg (⟨pkg,i,d⟩:Src).cells) :=
 .agg rfl fun k c c' h h'=>by
  rcases k with _ | _ | _ | k
  ·injection h with h; injection h' with h'; subst h h'; exact .old (.val _)
  ·injection h with h; injection h' with h'; subst h h'; exact W6 (f:=scv) (fun _=>⟨.val _,tt⟩) _
  ·injection h with h; injection h' with h'; subst h h'; exact W6 (f:=De.cv) De.pure _
  ·cases h
theorem c5o (hc:Y1 T []) (h0:0 < T.length):b8 CC 155 [.ptr 0 0] (pst T 0 [] []) (a3s (fun a:Src × Nat × List Str × List Ex=>(.agg a.1.cells)) (fun a=>a6u T a.2.1 a.2.2.1 a.2.2.2) (fun a:Src × Nat × List Str × List Ex=>R3 T=some a.1) (R3 T=none)):=by
 have hT:=hc.len;have hW:=hc.w;have hsp:R3 T=R3 T:=rfl
 conv at hsp=>rhs; unfold R3
 refine (c4 Tryz.func155 rfl rfl ?_);refine z_0 ?_;refine cD (r6 rfl a5l rfl o4 ?_);refine O3 ?_;refine cD (o3 rfl c5n o6 (b4I hT h0 hW [112,97,99,107,97,103,101] ⟨rfl,rfl,n_2 rfl⟩) rfl (fun x hx=>.inr ⟨x,l8,by rw [hsp,hx.1]; rfl,hx.2⟩) ?_);rintro n1 ⟨s1,k1⟩;dsimp only at s1 k1 ⊢;rw [s1,n_5] at hsp;have e1:=N6 s1;refine O3 ?_;refine cD (o3 rfl c0T ⟨tt,tt⟩ (a9W hT k1 hW ⟨rfl,rfl,n_2 rfl⟩) rfl (fun x hx=>.inr ⟨x,l8,by rw [hsp,hx.1]; rfl,hx.2⟩) ?_);rintro ⟨w,n2⟩ ⟨s2,k2⟩;dsimp only at s2 k2 ⊢;have e2:=b1v s2;rw [s2,n_5] at hsp;dsimp only at hsp;refine cY c1L ?_; refine cY (x9 #[(0,1),(1,1),(2,1)] rfl ⟨tt,tt⟩ a7j a5l rfl ⟨_,rfl⟩ (fun w=>by kernel_rfl) rfl rfl) ?_; refine c5v ?_; refine O3 ?_;refine cD (o3 rfl a5p o6 (O7 hT k2 hW [59] ⟨rfl,rfl,n_2 rfl⟩) rfl (fun x hx=>.inr ⟨x,l8,by rw [hsp,hx.1]; rfl,hx.2⟩) ?_);rintro n3 ⟨s3,k3⟩;dsimp only at s3 k3 ⊢;rw [s3,n_5] at hsp;refine c8 [pbx T n3 [] [] 1,.dead,.box (⟨[],[],[]⟩:Src).cells,.box [sv w.t,.list (([]:List Str).map scv) (gnn ([]:List Str).length) none,.list (([]:List De).map De.cv) (gnn ([]:List De).length) none]] rfl ?_; refine z_8 ?_; refine B7 ?_; refine A2 hCC 4 rfl (α:=List Str × Nat) (fun _=>[(0,.ptr 0 0),(2,.ptr 2 0),(3,.ptr 3 0)]) (fun x=>[pbx T x.2 [] [] 1,.dead,.box (⟨[],[],[]⟩:Src).cells,.box [sv w.t,.list (x.1.map scv) (gnn x.1.length) (E7 x.1.length 4),.list (([]:List De).map De.cv) (gnn ([]:List De).length) none],r7 x.1.length]) (fun x=>x.1.length<=8/\x.2 < T.length/\R3 T=(Z7 (9 - x.1.length) T w.t x.2 x.1).bind fun y=>(L5 65 T y.2 []).bind fun z=>some ⟨w.t,y.1,z.1⟩) (fun x=>9 - x.1.length) ⟨([],n3),[0,1,2,3,9],⟨n_3 _,k3,hsp⟩,⟨rfl,rfl⟩,a3Q,⟨.inr ⟨_,rfl,.same rfl a89⟩,.inl rfl,.inr ⟨_,rfl,.same rfl c06⟩,.inr ⟨_,rfl,.box ⟨.old (.val _),.old a3H,.old (L2 _ [] _),tt⟩⟩,.inl rfl,tt⟩⟩ ?_; intro ⟨l,m⟩ ⟨hl,hm,hsp⟩;dsimp only at hl hm hsp ⊢;obtain ⟨f,hf⟩:∃ f,9 - l.length=f+1:=⟨8 - l.length,om_⟩;rw [hf,Z7] at hsp;refine a3c ?_; refine cY (c7 rfl c4q a2C (b5p hT hm 1 [105,109,112,111,114,116] ⟨rfl,rfl,n_2 rfl⟩) rfl) ?_; refine i7 ?_; refine cC (fun h1=>?_) fun h1=>?_
 ·have u1:isT (tk T m) 1 [105,109,112,111,114,116]=true:=by simpa using h1
  rw [if_pos u1] at hsp;have hm1:=hW m hm (a59 u1 de_);refine a2L ?_; refine a1R ?_; refine a8P ?_; refine a7B ?_; refine cC (fun h2=>?_) fun h2=>?_
  ·have u2:l.length=8:=by simp at h2; omega
   rw [if_pos u2] at hsp;refine z_5 ?_; refine cY (c7 rfl c39 ⟨tt,tt⟩ (a4o hT hm ⟨rfl,rfl,n_2 rfl⟩) rfl) ?_;exact b0d rfl rfl (a06 rfl b4V o6 (a1d _ _ _) rfl (fun _ _=>.inr ⟨(_,_),l8,by rw [hsp]; rfl,si_⟩))
  ·have u2:¬ l.length=8:=by simp at h2; omega
   rw [if_neg u2] at hsp;refine a5X ?_; refine a9e ?_; refine z_1 ?_;refine cD (o3 rfl c0T ⟨tt,tt⟩ (a9W hT hm1 hW ⟨rfl,rfl,n_2 rfl⟩) rfl (fun x hx=>.inr ⟨x,l8,by rw [hsp,hx.1]; rfl,hx.2⟩) ?_);rintro ⟨x,m1⟩ ⟨s4,k4⟩;dsimp only at s4 k4 ⊢;rw [s4,n_5] at hsp;dsimp only at hsp;refine c8 [pbx T m1 [] [] 1,.dead,.box (⟨[],[],[]⟩:Src).cells,.box [sv w.t,.list (l.map scv) (gnn l.length) (E7 l.length 4),.list (([]:List De).map De.cv) (gnn ([]:List De).length) none],r7 l.length] rfl ?_; refine b0B ?_; refine a2K ?_; refine b25 ?_; refine cY c6n ?_; refine cY j7 ?_; refine d1v ?_; refine cG b6w ?_; refine cG a0X ?_; refine cG (fun hg=>c7 rfl c6V ⟨hg,hg,tt⟩ (Y5 l (gnn l.length) x.t om_ _) rfl) ?_; refine a4L ?_; refine cC (fun h3=>?_) fun h3=>?_
   ·have u3:x.t=w.t\/x.t∈l:=by simpa using h3
    rw [if_pos u3] at hsp;refine b6o ?_;exact b0d rfl rfl (a06 rfl b4V o6 (a1d _ _ _) rfl (fun _ _=>.inr ⟨(_,_),l8,by rw [hsp]; rfl,si_⟩))
   ·have u3:¬ (x.t=w.t\/x.t∈l):=by simpa using h3
    rw [if_neg u3] at hsp;have hls:=S9 l x.t;refine a0x ?_; refine a8P ?_; refine a2K ?_; refine cY (A3 [scv x.t] rfl ⟨tt,tt⟩ t_2 t_0 t_3 rfl rfl rfl rfl rfl rfl rfl rfl rfl) ?_;refine cD (D9 rfl tt tt rfl si_ R6 t_2 t_0 a8h t_3 rfl (.inr rfl) X0 V5 H3 ((l++[x.t]).map scv) (l++[x.t]).length si_ si_ ?_);refine cY c5t ?_; refine b9G ?_; refine z_5 ?_;refine cD (o3 rfl a5p o6 (O7 hT k4 hW [59] ⟨rfl,rfl,n_2 rfl⟩) rfl (fun x hx=>.inr ⟨x,l8,by rw [hsp,hx.1]; rfl,hx.2⟩) ?_);rintro m2 ⟨s5,k5⟩;dsimp only at s5 k5 ⊢;rw [s5,n_5] at hsp;refine i7 ?_;exact ⟨(l++[x.t],m2),[0,1,2,3,6],⟨do_,do_,k5,by dsimp only; rw [hsp,show 9 - (l++[x.t]).length=f by omega]⟩,⟨rfl,rfl⟩,a3Q,⟨.inr ⟨_,rfl,.same rfl a89⟩,.inl rfl,.inr ⟨_,rfl,.same rfl c06⟩,.inr ⟨_,rfl,.box ⟨.old (.val _),r8.grow (f:=scv) (fun _=>⟨.val _,tt⟩) rfl,.old (L2 _ [] _),tt⟩⟩,.inr ⟨_,rfl,.same rfl s9⟩,tt⟩⟩
 ·have u1:¬ isT (tk T m) 1 [105,109,112,111,114,116]=true:=by simpa using h1
  rw [if_neg u1,n_5] at hsp;dsimp only at hsp;rename_i im0;obtain ⟨im,him⟩:∃ im,im=l:=⟨l,rfl⟩;subst him; refine z6 ?_; refine a8o ?_; refine A2 hCC 5 rfl (α:=Nat × List De × List Str × List Ex) (fun _=>[(0,.ptr 0 0),(2,.ptr 2 0),(3,.ptr 3 0)]) (fun x=>[pbx T x.1 x.2.2.1 x.2.2.2 5,.dead,.box (⟨[],[],[]⟩:Src).cells,.box [sv w.t,.list (im.map scv) (gnn im.length) none,.list (x.2.1.map De.cv) (gnn x.2.1.length) (E7 x.2.1.length 6)],.dead,r7 x.2.2.2.length,r7 x.2.1.length]) (fun x=>x.2.1.length<=64/\x.1 < T.length/\x.2.2.1.length<=8/\x.2.2.2.length<=256/\R3 T=(L5 (65 - x.2.1.length) T x.1 x.2.1).bind fun z=>some ⟨w.t,im,z.1⟩) (fun x=>T.length - x.1) ⟨(m,[],[],[]),[0,1,2,3,4,9,10],⟨n_3 _,hm,n_3 _,n_3 _,hsp⟩,⟨rfl,rfl⟩,a3Q,⟨.inr ⟨_,rfl,.box ⟨.old a16,.old (.val _),.old O0,.old (J5 _ [] _),tt⟩⟩,.inl rfl,.inr ⟨_,rfl,.same rfl c06⟩,.inr ⟨_,rfl,.box ⟨.old (.val _),W6 (f:=scv) (fun _=>⟨.val _,tt⟩) _,.old (L2 _ [] _),tt⟩⟩,.inl rfl,.inl rfl,.inl rfl,tt⟩⟩ ?_; intro ⟨m,ds,ps,b⟩ ⟨hds,hm,hps,hb,hsp⟩;dsimp only at hds hm hps hb hsp ⊢;obtain ⟨f,hf⟩:∃ f,65 - ds.length=f+1:=⟨64 - ds.length,om_⟩;rw [hf,L5] at hsp;have hc':Y1 T ps:=⟨hT,hW,hc.l,om_,hc.nn⟩;refine a3c ?_; refine cY (c7 rfl c39 ⟨tt,tt⟩ (a4o hT hm (q:=0) (s:=5) ⟨rfl,rfl,n_2 rfl⟩) rfl) ?_; refine cY a3I ?_; refine G9 ?_; refine cC (fun h4=>?_) fun h4=>?_
  ·have u4:¬ (tk T m).k=5:=by simpa using h4
   rw [if_neg u4] at hsp;refine a2L ?_; refine B5 [0,1,2,3,4,5,6,7,8,9] 5 [0,1,0,0,8,28,60,127,255,511] [[0,1],[0,1],[],[],[]] (hd1l:=[0,1,2,3,4]) (tll:=[(5,[0,1]),(6,[0,1]),(7,[]),(8,[]),(9,[])]) d5 d5 rfl rfl rfl ?_; refine chf rfl c1G ?_; refine chf rfl c69 ?_; refine chf rfl U4 ?_; refine chf rfl c1G ?_; refine chf rfl c69 ?_; refine D2 ?_;refine A9 rfl rfl (o3 rfl Tryz.call197 j1 (d0e hc' ds hds hm hb (q:=0) (s:=5) ⟨rfl,rfl,n_2 rfl⟩) rfl (fun x hx _=>.inr ⟨x,l8,by rw [hsp,hx.1]; rfl,hx.2⟩) ?_);rintro ⟨d,m1⟩ ⟨g1,g2,g3,g4,g5⟩;dsimp only at g1 g2 g3 g4 g5 ⊢;have hlen:=b24 g1;rw [g1,n_5] at hsp;dsimp only at hsp;have hls:=S9 ds d;refine a1c [pbx T m1 d.params d.body 7,.dead,.box (⟨[],[],[]⟩:Src).cells,.box [sv w.t,.list (im.map scv) (gnn im.length) none,.list (ds.map De.cv) (gnn ds.length) (E7 ds.length 6)],.dead,.dead,r7 ds.length,r7 d.body.length] rfl ?_; refine d2V ?_;refine A9 rfl rfl (D9 rfl tt tt rfl si_ R6 b1F a68 Tryz.typeInfo119 a9t rfl (.inr rfl) X0 (by have hb:Tryz.t119.bytes=72:=rfl; rw [hb]; first|omega|(simp; done)|(simp; omega)) H3 ((ds++[d]).map De.cv) (ds++[d]).length si_ si_ ?_);refine ⟨tt,?_⟩;refine d1M ?_; refine a3E ?_;exact ⟨(m1,ds++[d],d.params,d.body),[0,1,2,3,4,7,8],⟨do_,do_,g3,g4,g5,by dsimp only; rw [hsp,show 65 - (ds++[d]).length=f by omega]⟩,⟨rfl,rfl⟩,a3Q,⟨.inr ⟨_,rfl,.box ⟨.old a16,.old (.val _),.old O0,a7D rfl,tt⟩⟩,.inl rfl,.inr ⟨_,rfl,.same rfl c06⟩,.inr ⟨_,rfl,.box ⟨.old (.val _),.old O0,r8.grow (f:=De.cv) (fun _=>⟨.val _,.val _,A5 _ _ _,J5 _ _ _,tt⟩) rfl,tt⟩⟩,.inl rfl,.inr ⟨_,rfl,.same rfl s9⟩,.inr ⟨_,rfl,.same rfl s9⟩,tt⟩⟩
  ·have u4:(tk T m).k=5:=by simpa using h4
   rw [if_pos u4,n_5] at hsp;refine Z5 ?_; refine d05 ?_; refine b1p ?_;exact ⟨_,A8 rfl ⟨tt,_,_,_,rfl,rfl,.inr ⟨_,b8o,a3m,nb rfl,rfl⟩⟩,(by exact .inl ⟨(⟨w.t,im,ds⟩,m,ps,b),b4n (k:=5) rfl rfl de_ (fun _=>c9D _ _ _ _ _),hsp⟩)⟩
theorem c9M (hc:Y1 T []) (h0:0 < T.length) {s:Nat} (hσ:PAt σ q s T 0 [] []):b8 CC 155 [.ptr q 0] σ (a3P (fun a:Src × Nat × List Str × List Ex=>(.agg a.1.cells)) (fun a=>(σ.set q (pbx T a.2.1 a.2.2.1 a.2.2.2 σ.length)).set s .dead++[r7 a.2.2.2.length]) (fun a:Src × Nat × List Str × List Ex=>R3 T=some a.1) σ q s (R3 T=none)) :=
 b2N (c:=(fun a:Src × Nat × List Str × List Ex=>(.agg a.1.cells))) (N:=fun a=>a.2.1) (Z:=fun a=>a.2.2.1) (B:=fun a=>a.2.2.2) (fun _ h=>by cases h) (fun a=>o8 a.1.pure) (c5o hc h0) hσ
structure d3B (N:Nat) (t:Tok):Prop where
 len:t.t.length<=N
 n0:0<=t.n
 n1:t.n<=9007199254740993
theorem a9S (s:Str) (a e:Nat):(sub s a e).length<=s.length:=by unfold sub; rw [b2J,a5t]; omega
theorem c2e {s:Str} {b:UInt8}:d3B s.length (A7 s a b).1/\(A7 s a b).1.k≠5:=by
 have z:d3B s.length (⟨0,[],0,0⟩:Tok):=⟨n_3 _,de_,de_⟩;unfold A7
 split
 ·split
  ·exact ⟨z,(show (0:Int)≠5 by decide)⟩
  ·exact ⟨⟨a9S _ _ _,b35 _,(show (0:Int)<=9007199254740993 by decide)⟩,(show (1:Int)≠5 by decide)⟩
 ·split
  ·split
   ·exact ⟨z,(show (0:Int)≠5 by decide)⟩
   ·have:=b27 (b3H (s:=s) (a:=a));exact ⟨⟨n_3 _,this.1,this.2⟩,(show (2:Int)≠5 by decide)⟩
  ·split
   ·split
    ·exact ⟨z,(show (0:Int)≠5 by decide)⟩
    ·exact ⟨⟨a9S _ _ _,b35 _,(show (0:Int)<=9007199254740993 by decide)⟩,(show (3:Int)≠5 by decide)⟩
   ·split
    ·split
     ·exact ⟨⟨a9S _ _ _,b35 _,(show (0:Int)<=9007199254740993 by decide)⟩,(show (4:Int)≠5 by decide)⟩
     ·exact ⟨⟨a9S _ _ _,b35 _,(show (0:Int)<=9007199254740993 by decide)⟩,(show (4:Int)≠5 by decide)⟩
    ·exact ⟨z,(show (0:Int)≠5 by decide)⟩
theorem a7S (s:Str):∀ (f i:Nat) (T:List Tok),O8 f s i=some T->T.length<=f/\(∀ t∈T,d3B s.length t)/\∃ L e,T=L++[e]/\e.k=5/\∀ t∈L,t.k≠5
 | 0,i,T,h=>by cases h
 | f+1,i,T,h=>by
  rw [O8] at h;cases hb:s[r4 s i [5]]? with
  | none =>
   rw [hb] at h;injection h with h
   subst h;refine ⟨si_,fun t ht=>?_,[],_,rfl,rfl,fun t ht=>by cases ht⟩;simp at ht;subst ht;exact ⟨n_3 _,b35 _,(show (0:Int)<=9007199254740993 by decide)⟩
  | some b =>
   rw [hb] at h;simp only at h;split at h
   ·obtain ⟨h1,h2⟩:=a7S s f _ T h;exact ⟨om_,h2⟩
   ·split at h
    ·cases h
    ·cases hq:O8 f s (A7 s (r4 s i [5]) b).2.1.toNat with
     | none=>rw [hq] at h; cases h
     | some T' =>
      rw [hq] at h;simp only [b2z,Option.some.injEq] at h;subst h;obtain ⟨h1,h2,L,e,h3,h5,h4⟩:=a7S s f _ T' hq;have hg:=c2e (s:=s) (a:=r4 s i [5]) (b:=b);refine ⟨by simpa using h1,fun t ht=>?_,_::L,e,by rw [h3]; rfl,h5,fun t ht=>?_⟩
      ·rcases Q2.1 ht with rfl | ht
       ·exact ⟨hg.1.len,hg.1.n0,hg.1.n1⟩
       ·exact h2 t ht
      ·rcases Q2.1 ht with rfl | ht
       ·exact hg.2
       ·exact h4 t ht
theorem b77 (i:Nat):tk T i∈T\/tk T i=⟨5,[],0,0⟩:=by
 unfold tk;cases h:T[i]? with
 | none=>exact .inr rfl
 | some t=>exact .inl (n_1 h)
theorem b0S {s:Str} (h:a0D s=some T):Y1 T []/\0 < T.length:=by
 unfold a0D at h;split at h
 ·cases h
 ·rename_i hs;obtain ⟨h1,h2,L,e,h3,h5,h4⟩:=a7S s _ _ T h;have h0:0 < T.length:=by rw [h3]; simp
  refine ⟨⟨om_,fun n hn hk=>?_,fun n=>?_,n_3 _,fun n=>?_⟩,h0⟩
  ·rcases T5 (n+1) T.length with hlt | hge
   ·exact hlt
   ·exfalso;have hl:T.length=L.length+1:=by rw [h3]; simp
    have:tk T n=e:=by
     unfold tk;rw [h3,show n=L.length by omega];simp
    exact hk (by rw [this]; exact h5)
  ·rcases b77 (T:=T) n with h | h
   ·have:=(h2 _ h).len; omega
   ·rw [h]; simp
  ·rcases b77 (T:=T) n with h | h
   ·exact ⟨(h2 _ h).n0,(h2 _ h).n1⟩
   ·rw [h]; exact ⟨de_,de_⟩
inductive Tr where
 | n (k u o:Int) (nm:Str) (ch:List Tr)
variable {n:Nat}
mutual
def Tr.size:Tr->Nat
 | .n _ _ _ _ ch=>t8 ch+1
def t8:List Tr->Nat
 | []=>0
 | t::l=>t.size+t8 l
end
def r3:List Tr->Nat->List Int
 | [],_=>[]
 | t::l,s=>((s+t.size - 1:Nat):Int)::r3 l (s+t.size)
mutual
def Tr.flat:Tr->Nat->List Ex
 | .n k u o nm ch,s=>J3 ch s++[⟨k,u,o,nm,r3 ch s⟩]
def J3:List Tr->Nat->List Ex
 | [],_=>[]
 | t::l,s=>t.flat s++J3 l (s+t.size)
end
structure a0O (np:Nat) (k u o:Int) (nm:Str) (c:Nat):Prop where
 kind:1<=k/\k<=10
 num:k≠1->k≠2->k≠10->u=0
 op:k≠4->o=0
 name:k=1\/k=2\/k=4\/k=5\/k=10->nm=[]
 cnt:c=if k=4 then 2 else if k=5 then 3 else if k=6 then 1 else if k=3 then c else 0
 k1:k=1->-9007199254740992<=u/\u<=9007199254740992
 k2:k=2->0<=u/\u < np
 k3:k=3->B1 nm=true/\O1 nm=false
 k4:k=4->1<=o/\o<=7
 k678:k=6\/k=7\/k=8->C1 nm=true
 k9:k=9->B1 nm=true
 k10:k=10->0<=u/\u < 64
mutual
def Tr.wf (np:Nat):Nat->Tr->Prop
 | d,.n k u o nm ch=>d<=32/\a0O np k u o nm ch.length/\wfL np (if k=4 then d else d+1) ch
def wfL (np:Nat):Nat->List Tr->Prop
 | _,[]=>True
 | d,t::l=>t.wf np d/\wfL np d l
end
theorem Tr.size_pos (t:Tr):1<=t.size:=by cases t; rw [Tr.size]; omega
mutual
theorem Tr.flat_len:∀ (t:Tr) (s:Nat),(t.flat s).length=t.size
 | .n k u o nm ch,s=>by rw [Tr.flat,Tr.size,n_6,P4 ch s]; rfl
theorem P4:∀ (l:List Tr) (s:Nat),(J3 l s).length=t8 l
 | [],_=>rfl
 | t::l,s=>by rw [J3,t8,n_6,Tr.flat_len t s,P4 l _]
end
theorem b1u:∀ (l:List Tr) (t:Tr) (s:Nat),J3 (l++[t]) s=J3 l s++t.flat (s+t8 l)
 | [],t,s=>by simp [J3,t8]
 | x::l,t,s=>by rw [b3d,J3,J3,b1u l t,t8,n_9,a9B]
theorem a8V:∀ (l:List Tr) (t:Tr) (s:Nat),r3 (l++[t]) s=r3 l s++[((s+t8 l+t.size - 1:Nat):Int)]
 | [],t,s=>by simp [r3,t8]
 | x::l,t,s=>by rw [b3d,r3,r3,a8V l t,t8,b3d,a9B s]
theorem b6X {np d:Nat}:∀ {l:List Tr} {t:Tr},wfL np d l->t.wf np d->wfL np d (l++[t])
 | [],t,_,h=>by simp only [a7u,wfL]; exact ⟨h,tt⟩
 | x::l,t,h,h2=>by
  rw [wfL] at h;rw [b3d,wfL];exact ⟨h.1,b6X h.2 h2⟩
mutual
theorem Tr.wf_mono {np:Nat}:∀ (t:Tr) {d e:Nat},e<=d->t.wf np d->t.wf np e
 | .n k u o nm ch,d,e,he,h=>by
  rw [Tr.wf] at h ⊢;refine ⟨om_,h.2.1,b7W ch (d:=if k=4 then d else d+1) ?_ h.2.2⟩
  split <;> omega
theorem b7W {np:Nat}:∀ (l:List Tr) {d e:Nat},e<=d->wfL np d l->wfL np e l
 | [],_,_,_,_=>by rw [wfL]; trivial
 | t::l,d,e,he,h=>by
  rw [wfL] at h ⊢;exact ⟨Tr.wf_mono t he h.1,b7W l he h.2⟩
end
def Got (np d:Nat) (b:List Ex) (x:PX):Prop:=∃ t:Tr,x.2.2=b++t.flat b.length/\x.1+1=x.2.2.length/\t.wf np d
theorem a4G {b1:List Ex} {ch:List Tr} {k u:Int} {args:List Int} {b2:List Ex} (h1:b1=b++J3 ch b.length) (h2:args=r3 ch b.length) (h3:U3 b1 ⟨k,u,o,nm,args⟩=some (i,b2)) (hd:d<=32) (hn:a0O np k u o nm ch.length) (hw:wfL np (if k=4 then d else d+1) ch) (m:Nat):Got np d b (i,m,b2):=by
 unfold U3 at h3;split at h3
 ·cases h3
 ·injection h3 with h3
  injection h3 with h3 h4
  subst h1 h2 h3 h4;refine ⟨.n k u o nm ch,by rw [Tr.flat,n_9],by simp; omega,?_⟩;rw [Tr.wf];exact ⟨hd,hn,hw⟩
def TG (T:List Tok):Prop:=∀ i,((tk T i).k=1->B1 (tk T i).t=true)/\0<=(tk T i).n/\(tk T i).n<=9007199254740992
theorem d0i (h:¬ opS t lv=0):1<=opS t lv/\opS t lv<=7:=by
 unfold opS at h ⊢;cases hf:S0.find? (opM t lv) with
 | none=>rw [hf] at h; exact absurd rfl h
 | some y =>
  have h2:=b9V hf;simp only [b2z,a6f];revert h2;revert y;intro y _ hy;have:∀ y∈S0,1<=y.1/\y.1<=7:=by decide
  exact this y hy
theorem a2Q {x:Ex} {y:PX} (h:J8 b x m=some y):U3 b x=some (y.1,y.2.2)/\y.2.1=m:=by
 unfold J8 at h;cases hp:U3 b x with
 | none=>rw [hp] at h; cases h
 | some w =>
  rw [hp,n_5] at h;injection h with h
  subst h;exact ⟨rfl,rfl⟩
theorem a1H {k u:Int} {y:PX} (h:J8 b ⟨k,u,o,nm,[]⟩ m=some y) (hd:d<=32) (hn:a0O np k u o nm 0):Got np d b y:=by
 obtain ⟨h1,h2⟩:=a2Q h;have:=a4G (np:=np) (d:=d) (b:=b) (ch:=[]) (args:=[]) (by rw [J3,a0P]) rfl h1 hd hn (by rw [wfL]; trivial) y.2.1;exact this
theorem c9b {e:Nat} {x:PX} {k u:Int} {y:PX} (hx:Got np e b x) (h:J8 x.2.2 ⟨k,u,o,nm,[(x.1:Int)]⟩ m=some y) (hd:d<=32) (hn:a0O np k u o nm 1) (he:e=if k=4 then d else d+1):Got np d b y:=by
 obtain ⟨t,t1,t2,t3⟩:=hx;obtain ⟨h1,h2⟩:=a2Q h;have hl:=t.flat_len b.length;rw [t1,n_6,hl] at t2;have:=a4G (np:=np) (d:=d) (b:=b) (ch:=[t]) (args:=[(x.1:Int)]) (by rw [t1,J3,J3,a0P]) (by rw [r3,r3]; congr 1; omega) h1 hd hn (by rw [wfL,wfL,<- he]; exact ⟨t3,tt⟩) y.2.1;exact this
theorem c9 {o:Option α} {f:α->Option β} {y:β} (h:o.bind f=some y):∃ x,o=some x/\f x=some y:=by
 cases o with
 | none=>cases h
 | some x=>exact ⟨x,rfl,h⟩
theorem a64 {x:Tok × Nat} (h:V0 T n=some x):C1 x.1.t=true:=by
 obtain ⟨y,_,h2⟩:=c9 h;split at h2
 ·rename_i hp;injection h2 with h2
  subst h2;exact hp
 ·cases h2
theorem a6a {k:Int} {x:Tok × Nat} (h:B6 T n k=some x):x.1=tk T n/\(tk T n).k=k:=by
 unfold B6 at h;split at h
 ·rename_i hk;injection h with h
  subst h;exact ⟨rfl,hk⟩
 ·cases h
theorem c26 {F:PF} (hF:∀ d n b x,F.ex d n b=some x->Got np d b x) (hT:TG T) {y:PX} (hd:d<=32) (h:P8 T F u d n b=some y):Got np d b y:=by
 unfold P8 at h;obtain ⟨n1,_,h⟩:=c9 h;split at h
 ·obtain ⟨s,h1,h⟩:=c9 h;obtain ⟨n2,_,h⟩:=c9 h;obtain ⟨x,h3,h⟩:=c9 h;obtain ⟨m,_,h⟩:=c9 h;exact c9b (hF _ _ _ _ h3) h hd ⟨de_,fun _ _ _=>rfl,fun _=>rfl,fun h=>absurd h de_,rfl,fun h=>absurd h de_,fun h=>absurd h de_,fun h=>absurd h de_,fun h=>absurd h de_,fun _=>a64 h1,fun h=>absurd h de_,fun h=>absurd h de_⟩ rfl
 ·split at h
  ·obtain ⟨s,h1,h⟩:=c9 h;obtain ⟨m,_,h⟩:=c9 h;exact a1H h hd ⟨de_,fun _ _ _=>rfl,fun _=>rfl,fun h=>absurd h de_,rfl,fun h=>absurd h de_,fun h=>absurd h de_,fun h=>absurd h de_,fun h=>absurd h de_,fun _=>a64 h1,fun h=>absurd h de_,fun h=>absurd h de_⟩
  ·split at h
   ·obtain ⟨s,h1,h⟩:=c9 h;obtain ⟨m,_,h⟩:=c9 h;exact a1H h hd ⟨de_,fun _ _ _=>rfl,fun _=>rfl,fun h=>absurd h de_,rfl,fun h=>absurd h de_,fun h=>absurd h de_,fun h=>absurd h de_,fun h=>absurd h de_,fun _=>a64 h1,fun h=>absurd h de_,fun h=>absurd h de_⟩
   ·split at h
    ·obtain ⟨s,h1,h⟩:=c9 h;split at h
     ·rename_i hnm;obtain ⟨m,_,h⟩:=c9 h;exact a1H h hd ⟨de_,fun _ _ _=>rfl,fun _=>rfl,fun h=>absurd h de_,rfl,fun h=>absurd h de_,fun h=>absurd h de_,fun h=>absurd h de_,fun h=>absurd h de_,fun h=>absurd h de_,fun _=>hnm,fun h=>absurd h de_⟩
     ·cases h
    ·obtain ⟨s,h1,h⟩:=c9 h;split at h
     ·cases h
     ·rename_i hlt;obtain ⟨m,_,h⟩:=c9 h;have hk:=a6a h1;have hg:=(hT n1).2;rw [<- hk.1] at hg;exact a1H h hd ⟨de_,fun _ _ h=>absurd rfl h,fun _=>rfl,fun _=>rfl,rfl,fun h=>absurd h de_,fun h=>absurd h de_,fun h=>absurd h de_,fun h=>absurd h de_,fun h=>absurd h de_,fun h=>absurd h de_,fun _=>⟨hg.1,om_⟩⟩
theorem c08 {T:List Tok} {ps:List Str} (hT:TG T):∀ f:Nat,
 (∀ d n b x,(s7 T ps f).ex d n b=some x->Got ps.length d b x) /\
 (∀ lv d n b x,d<=32->(s7 T ps f).bin lv d n b=some x->Got ps.length d b x) /\
 (∀ lv d n b x,d<=32->(s7 T ps f).fac d n b=some x->lv=0->Got ps.length d b x) /\
 (∀ lv d n b0 b (tx:Tr) (i:Nat) x,d<=32->b=b0++tx.flat b0.length->i+1=b.length->tx.wf ps.length d->(s7 T ps f).lp lv d i n b=some x->Got ps.length d b0 x) /\
 (∀ d n b0 b (ch:List Tr) acc y,d<=32->b=b0++J3 ch b0.length->acc=r3 ch b0.length->wfL ps.length (d+1) ch->(s7 T ps f).ag d n b acc=some y->∃ ch',y.2.2=b0++J3 ch' b0.length/\y.1=r3 ch' b0.length/\wfL ps.length (d+1) ch')
 | 0=>by
  refine ⟨fun d n b x h=>?_,fun lv d n b x _ h=>?_,fun lv d n b x _ h=>?_,fun lv d n b0 b tx i x _ _ _ _ h=>?_,fun d n b0 b ch acc y _ _ _ _ h=>?_⟩ <;> cases h
 | f+1=>by
  obtain ⟨hE,hB,hF,hL,hA⟩:=c08 hT f;refine ⟨fun d n b x h=>?_,fun lv d n b x hd h=>?_,fun lv d n b y hd h _=>?_,fun lv d n b0 b tx i x hd hb hi hw h=>?_,fun d n b0 b ch acc y hd hb ha hw h=>?_⟩
  ·change (C3 T ps (s7 T ps f)).ex d n b=some x at h;simp only [C3] at h;split at h
   ·cases h
   ·rename_i hd;split at h
    ·obtain ⟨x1,h1,h⟩:=c9 h;obtain ⟨n2,_,h⟩:=c9 h;obtain ⟨x2,h2,h⟩:=c9 h;obtain ⟨n3,_,h⟩:=c9 h;obtain ⟨x3,h3,h⟩:=c9 h;obtain ⟨t1,a1,a2,a3⟩:=hE _ _ _ _ h1;obtain ⟨t2,b1,b2,b3⟩:=hE _ _ _ _ h2;obtain ⟨t3,c1,c2,c3⟩:=hE _ _ _ _ h3;have l1:=t1.flat_len b.length;have e1:x1.2.2.length=b.length+t1.size:=by rw [a1,n_6,l1]
     have e2:x2.2.2.length=b.length+t1.size+t2.size:=by rw [b1,n_6,t2.flat_len,e1]
     have e3:x3.2.2.length=b.length+t1.size+t2.size+t3.size:=by rw [c1,n_6,t3.flat_len,e2]
     obtain ⟨g1,g2⟩:=a2Q h;have:=a4G (np:=ps.length) (d:=d) (b:=b) (ch:=[t1,t2,t3]) (args:=[(x1.1:Int),(x2.1:Int),(x3.1:Int)]) (by rw [c1,b1,a1]; simp only [J3,a0P,n_9,n_6,Tr.flat_len,a9B]) (by simp only [r3]; congr 1; omega; congr 1; omega; congr 1; omega) g1 om_ ⟨de_,fun _ _ _=>rfl,fun _=>rfl,fun _=>rfl,rfl,fun h=>absurd h de_,fun h=>absurd h de_,fun h=>absurd h de_,fun h=>absurd h de_,fun h=>absurd h de_,fun h=>absurd h de_,fun h=>absurd h de_⟩ (by simp only [wfL]; exact ⟨a3,b3,c3,tt⟩) x.2.1;exact this
    ·exact hB 1 d n b x om_ h
  ·change (C3 T ps (s7 T ps f)).bin lv d n b=some x at h;simp only [C3] at h;split at h
   ·exact hF 0 d n b x hd h rfl
   ·obtain ⟨x1,h1,h⟩:=c9 h;obtain ⟨t,a1,a2,a3⟩:=hB _ _ _ _ _ hd h1;exact hL lv d x1.2.1 b x1.2.2 t x1.1 x hd a1 a2 a3 h
  ·change (C3 T ps (s7 T ps f)).fac d n b=some y at h;simp only [C3] at h;have hg:=hT n;split at h
   ·exact a1H h hd ⟨de_,fun h=>absurd rfl h,fun _=>rfl,fun _=>rfl,rfl,fun _=>⟨om_,hg.2.2⟩,fun h=>absurd h de_,fun h=>absurd h de_,fun h=>absurd h de_,fun h=>absurd h de_,fun h=>absurd h de_,fun h=>absurd h de_⟩
   ·split at h
    ·obtain ⟨s,h1,h⟩:=c9 h;have hk:=a6a h1;have hg:=(hT (n+1)).2;rw [<- hk.1] at hg;exact a1H h hd ⟨de_,fun h=>absurd rfl h,fun _=>rfl,fun _=>rfl,rfl,fun _=>⟨om_,om_⟩,fun h=>absurd h de_,fun h=>absurd h de_,fun h=>absurd h de_,fun h=>absurd h de_,fun h=>absurd h de_,fun h=>absurd h de_⟩
    ·split at h
     ·obtain ⟨x1,h1,h⟩:=c9 h;obtain ⟨m,_,h⟩:=c9 h;injection h with h
      subst h;obtain ⟨t,a1,a2,a3⟩:=hE _ _ _ _ h1;exact ⟨t,a1,a2,t.wf_mono (Nat.le_succ d) a3⟩
     ·split at h
      ·cases h
      ·rename_i hk1;split at h
       ·exact c26 hE hT hd h
       ·split at h
        ·cases h
        ·rename_i hrs;split at h
         ·obtain ⟨a,h1,h⟩:=c9 h;unfold a0A at h1;obtain ⟨n1,_,h1⟩:=c9 h1;have hch:∃ ch',a.2.2=b++J3 ch' b.length/\a.1=r3 ch' b.length/\wfL ps.length (d+1) ch':=by
           split at h1
           ·injection h1 with h1
            subst h1;exact ⟨[],by simp [J3],rfl,by rw [wfL]; trivial⟩
           ·exact hA d n1 b b [] [] a hd (by simp [J3]) rfl (by rw [wfL]; trivial) h1
          obtain ⟨ch,c1,c2,c3⟩:=hch;obtain ⟨g1,g2⟩:=a2Q h;have hnm:B1 (tk T n).t=true:=hg.1 (by simpa using hk1);have:=a4G (np:=ps.length) (d:=d) (b:=b) (ch:=ch) c1 c2 g1 hd ⟨de_,fun _ _ _=>rfl,fun _=>rfl,fun h=>absurd h de_,rfl,fun h=>absurd h de_,fun h=>absurd h de_,fun _=>⟨hnm,by simpa using hrs⟩,fun h=>absurd h de_,fun h=>absurd h de_,fun h=>absurd h de_,fun h=>absurd h de_⟩ c3 y.2.1;exact this
         ·split at h
          ·cases h
          ·rename_i hix;refine a1H h hd ⟨de_,fun _ h=>absurd rfl h,fun _=>rfl,fun _=>rfl,rfl,fun h=>absurd h de_,fun _=>⟨om_,?_⟩,fun h=>absurd h de_,fun h=>absurd h de_,fun h=>absurd h de_,fun h=>absurd h de_,fun h=>absurd h de_⟩
           rcases a8i (tk T n).t ps 0 with ⟨_,g⟩ | ⟨_,_,g⟩
           ·omega
           ·simpa using g
  ·change (C3 T ps (s7 T ps f)).lp lv d i n b=some x at h;simp only [C3] at h;split at h
   ·injection h with h
    subst h;exact ⟨tx,hb,hi,hw⟩
   ·rename_i hop;obtain ⟨y,h1,h⟩:=c9 h;obtain ⟨w,h2,h⟩:=c9 h;obtain ⟨ty,a1,a2,a3⟩:=hB _ _ _ _ _ hd h1;have e0:b.length=b0.length+tx.size:=by rw [hb,n_6,tx.flat_len]
    have e1:y.2.2.length=b0.length+tx.size+ty.size:=by rw [a1,n_6,ty.flat_len,e0]
    have hnode:Got ps.length d b0 (w.1,y.2.1,w.2):=a4G (np:=ps.length) (d:=d) (b:=b0) (ch:=[tx,ty]) (args:=[(i:Int),(y.1:Int)]) (by rw [a1,hb]; simp only [J3,a0P,n_9,n_6,Tr.flat_len]) (by simp only [r3]; congr 1; omega; congr 1; omega) h2 hd ⟨de_,fun _ _ _=>rfl,fun h=>absurd rfl h,fun _=>rfl,rfl,fun h=>absurd h de_,fun h=>absurd h de_,fun h=>absurd h de_,fun _=>d0i hop,fun h=>absurd h de_,fun h=>absurd h de_,fun h=>absurd h de_⟩ (by simp only [wfL]; exact ⟨hw,a3,tt⟩) y.2.1;split at h
    ·injection h with h
     subst h;exact hnode
    ·obtain ⟨t,c1,c2,c3⟩:=hnode;exact hL lv d y.2.1 b0 w.2 t w.1 x hd c1 c2 c3 h
  ·change (C3 T ps (s7 T ps f)).ag d n b acc=some y at h;simp only [C3] at h;obtain ⟨x1,h1,h⟩:=c9 h;obtain ⟨t,a1,a2,a3⟩:=hE _ _ _ _ h1;have e0:b.length=b0.length+t8 ch:=by rw [hb,n_6,P4]
   have e1:x1.2.2.length=b0.length+t8 ch+t.size:=by rw [a1,n_6,t.flat_len,e0]
   have c1:x1.2.2=b0++J3 (ch++[t]) b0.length:=by rw [a1,hb,b1u,n_9]; simp only [n_6,P4]
   have c2:acc++[(x1.1:Int)]=r3 (ch++[t]) b0.length:=by rw [ha,a8V]; congr 2; omega
   have c3:=b6X hw a3;split at h
   ·exact hA d _ b0 _ (ch++[t]) _ y hd c1 c2 c3 h
   ·obtain ⟨m,_,h⟩:=c9 h;injection h with h
    subst h;exact ⟨ch++[t],c1,c2,c3⟩
abbrev c33:=Src × Int × Int
abbrev c2H (x:c33):CV:=.tup [.agg x.1.cells,.val (.int .i64 x.2.1),.val (.int .i64 x.2.2)]
def L6 (s:Str):Option Src:=(a0D s).bind R3
def b4R (s:Str) (x:c33):Prop:=(L6 s=some x.1/\x.2.1=0/\x.2.2=0)\/(L6 s=none/\x.1=⟨[],[],[]⟩/\x.2.2≠0)
theorem b8a {c1 c2 c3:CV} {u:CV} {K:List c5->Prop} (h:K σ):c3X CC 154 [c1,c2,c3] σ false u K:=by
 refine d1h ?_; refine cY (c1R rfl tt rfl Tryz.runUnderlying20 (.inl rfl)) ?_; refine i7 ?_; refine cC (fun h1=>?_) fun h1=>?_
 ·cases h1
 ·refine i8 ?_;exact h
theorem b85 (a0 e0 x e:Int) {K:List c5->Prop} (h:K [.dead,.box (⟨[],[],[]⟩:Src).cells,.box [(.val (.int .i64 x))],.box [(.val (.int .i64 e))],.dead,.box [(.val (.int .i64 x)),(.val (.int .i64 e))]]):c3X CC 154 [.ptr 1 0,.ptr 2 0,.ptr 3 0] [.dead,.box (⟨[],[],[]⟩:Src).cells,.box [(.val (.int .i64 a0))],.box [(.val (.int .i64 e0))],.dead] true (a2a x e) K:=by
 refine d1h ?_; refine cY (c1R rfl tt rfl Tryz.runUnderlying20 (.inr ⟨_,_,rfl⟩)) ?_; refine i7 ?_; refine cC (fun h1=>?_) fun h1=>?_
 ·refine z_1 ?_; refine cY (c3s (xs:=[.int .i64 x,.int .i64 e]) rfl tt rfl c2h rfl rfl) ?_; refine c2R ?_;refine cD (r6 rfl Tryz.zeroValue195 rfl o4 ?_);refine cD (j3 rfl tt tt rfl c6 Tryz.sizeOf195 o4 rfl rfl (nb rfl) ?_);refine a4a ?_; refine T7 ?_; refine cC (fun h2=>?_) fun h2=>?_
  ·cases h2
  ·refine i8 ?_; refine B5 [0,1,2,3,4,5,6,7] 5 [0,0,2,0,8,1,39,127] [[1,2,3,4],[3,4],[]] (hd1l:=[0,1,2,3,4]) (tll:=[(5,[1,2,3,4]),(6,[3,4]),(7,[])]) d5 d5 rfl rfl rfl ?_; refine chf rfl d3f ?_; refine chf rfl (d6 rfl (j2 rfl tt rfl c2h rfl t_1 de_)) ?_; refine chf rfl b2n ?_; refine chf rfl (d6 rfl c57) ?_; refine chf rfl c7p ?_; refine c6l ?_;refine ⟨⟨(by exact d6 rfl (j2 rfl tt rfl c2h rfl t_1 de_)),b3x,(by exact d6 rfl c57),b2f,tt⟩,?_⟩;refine A9 rfl rfl (j3 rfl tt tt rfl c6 t_1 (.inl rfl) rfl rfl (nb rfl) ?_);refine ⟨⟨(by exact d6 rfl c57),b2f,tt⟩,?_⟩;refine d1R ?_;exact h
 ·cases h1
theorem c2C (s:Str) (hs:s.length<=1000000000000):b8 CC 102 [(sv s)] [] fun r τ=>∃ x:c33,a08 0 τ r (.ret (c2H x))/\b4R s x:=by
 refine a0I (b76 Tryz.func102 rfl rfl ?_);show b65 _ _ _ _ _ [.dead];refine b8L ?_; refine A0 ?_;refine cD (r6 rfl a5l rfl o4 ?_);refine cD (r6 rfl t_6 rfl (.inl rfl) ?_);refine cD (r6 rfl Tryz.zeroValue40 rfl (.inl rfl) ?_);refine i7 ?_; refine b8L ?_; refine z_5 ?_;refine cD (b9 rfl Tryz.call153 ⟨tt,tt⟩ (c31 s hs _) rfl ?_);rintro ⟨T,nn,at_,e⟩ hP;dsimp only at hP ⊢;refine b2I ?_; refine cY I1 ?_;refine cD (j3 rfl tt tt rfl c6 t_1 (.inl rfl) rfl rfl (nb rfl) ?_);refine d2k ?_; refine b8L ?_; refine z_0 ?_; refine cY d2m ?_; refine G9 ?_; refine cC (fun h1=>?_) fun h1=>?_
 ·have he:e≠0:=by simpa using h1
  have hl:a0D s=none:=by
   rcases hP with ⟨_,_,_,g⟩ | ⟨g,_⟩
   ·exact absurd g he
   ·exact g
  refine w8 ?_; refine B5 [0,1,2,3,4,5] 3 [0,0,0,1,11,31] [[1,2],[2],[]] (hd1l:=[0,1,2]) (tll:=[(3,[1,2]),(4,[2]),(5,[])]) d5 d5 rfl rfl rfl ?_; refine chf rfl d3f ?_; refine chf rfl b2n ?_; refine chf rfl c7p ?_; refine c6l ?_;refine ⟨⟨b3x,b2f,tt⟩,?_⟩;refine A9 rfl rfl (j3 rfl tt tt rfl c6 t_1 (.inl rfl) rfl rfl (nb rfl) ?_);refine ⟨⟨b2f,tt⟩,?_⟩;refine d1R ?_; refine G3 ?_;exact ⟨_,l9 (rs:=[.cell 2 67,.cell 3 3,.cell 4 40]) (cs:=[_,_,_]) rfl d0u (n_2 rfl),⟨((⟨[],[],[]⟩:Src),at_,e),c9g,.inr ⟨by rw [L6,hl]; rfl,rfl,he⟩⟩⟩
 ·have he:e=0:=by simpa using h1
  obtain ⟨hl,rfl,rfl⟩:a0D s=some T/\nn=true/\at_=0:=by
   rcases hP with ⟨g1,g2,g3,_⟩ | ⟨_,_,_,g⟩
   ·exact ⟨g1,g2,g3⟩
   ·exact absurd he g
  subst he;obtain ⟨hc,h0⟩:=b0S hl;have hsp:L6 s=R3 T:=by rw [L6,hl]; rfl
  refine i8 ?_;refine c7k rfl rfl rfl rfl rfl de_ rfl rfl Tryz.call154 B9 (fun ds=>?_);refine c0o ?_; refine b1g ?_; refine cY j7 ?_; refine cY (x9 #[(0,1),(1,1),(2,1),(3,1)] rfl ⟨tt,tt⟩ c2M Tryz.zeroValue199 rfl ⟨_,rfl⟩ (fun w=>by kernel_rfl) rfl rfl) ?_;refine cD (a5W rfl tt c6 o4 ?_);refine z_2 ?_; refine c0o ?_; refine b1g ?_; refine cY j7 ?_;refine cD (o3 rfl Tryz.call155 ⟨tt,tt⟩ (c9M hc h0 (q:=4) (s:=0) ⟨rfl,rfl,n_2 rfl⟩) rfl (fun x hx=>b85 _ _ _ _ ⟨_,l9 (rs:=[.cell 2 67,.cell 3 3,.cell 4 40]) (cs:=[_,_,_]) rfl d0u (n_2 rfl),⟨((⟨[],[],[]⟩:Src),x.1,x.2),c9g,.inr ⟨by rw [hsp]; exact hx.1,rfl,hx.2⟩⟩⟩) ?_);rintro ⟨x,m,ps,b⟩ g1;dsimp only at g1 ⊢;refine cD (j3 rfl tt tt rfl c6 a3m o4 rfl rfl (nb rfl) ?_);refine cD (j3 rfl tt rfl rfl c6 t_1 (.inl rfl) rfl rfl (nb rfl) ?_);refine cD (j3 rfl tt rfl rfl c6 c2c (.inl rfl) rfl rfl (nb rfl) ?_);refine i7 ?_; refine c9S ?_;exact b8a ⟨_,l9 (rs:=[.cell 2 67,.cell 3 3,.cell 4 40]) (cs:=[_,_,_]) rfl d0u (n_2 rfl),⟨(x,0,0),(by exact .ret (.tups ⟨.old (c:=.agg (x).cells) (o8 (Src.pure _)).old,.old (.val _),.old (.val _),tt⟩)),.inl ⟨by rw [hsp]; exact g1,rfl,rfl⟩⟩⟩
theorem c7z (s:Str) (hs:s.length<=1000000000000) (σ:List c5):b8 CC 102 [(sv s)] σ fun r τ=>∃ x:c33,r = .ret (c2H x)/\τ=σ/\b4R s x :=
 E9 (res:=fun x=>.ret (c2H x)) hCC (fun c hc=>by simp at hc; subst hc; exact .val _) (c2C s hs) (fun x _=>B2 ⟨o8 x.1.pure,.val _,.val _,tt⟩) σ
theorem a1J (s:Str) (hs:s.length<=1000000000000) (σ:List c5):b8 CC 280 [(sv s)] σ fun r σ'=>r = .ret (.val (.bool (B1 s && !O1 s)))/\σ'=σ:=by
 refine b8.anyw hCC pu_ pu_ ?_ σ;refine d4 (c4 Tryz.func280 rfl rfl ?_);refine a1T ?_; refine cY (c7 rfl c2V ⟨tt,tt⟩ (a1i s hs _) rfl) ?_; refine a6i ?_; refine cG (fun hg=>c7 rfl Tryz.call236 ⟨hg,tt⟩ (a5y s _) rfl) ?_; refine cG a83 ?_;exact d2S
theorem a0O.cnt0 {k u:Int} {c:Nat} (h:a0O np k u o nm c) (h3:k≠3) (h4:k≠4) (h5:k≠5) (h6:k≠6):c=0:=by
 have:=h.cnt;rw [if_neg h4,if_neg h5,if_neg h6,if_neg h3] at this;exact this
theorem b8l (x:Ex) (np:Nat) (h:a0O np x.k x.num x.op x.name x.args.length) (hnm:x.name.length<=1000000) (_:x.args.length<=1000000) (σ:List c5):b8 CC 303 [.agg x.cells,(.val (.int .i64 (np:Int)))] σ fun r σ'=>r = .ret (.val (.bool true))/\σ'=σ:=by
 refine b8.anyw hCC pu_ pu_ ?_ σ;refine d4 (c4 Tryz.func303 rfl rfl ?_);refine a2n ?_; refine w8 ?_; refine B4 8 [0,1,3,0,8,24,7,127] d5 d5 rfl ?_; refine hY c1q ?_; refine hY b5g ?_; refine hY a7l ?_; refine b7i ?_; refine hY P1 ?_; refine hY I1 ?_; refine b2M ?_; refine z_8 ?_; refine B4 8 [0,1,3,0,8,24,7,127] d5 d5 rfl ?_; refine hY c0x ?_; refine hY Y2 ?_; refine hY c40 ?_; refine b7i ?_; refine hY P1 ?_; refine hY I1 ?_; refine b2M ?_; refine a2i ?_; refine b6l ?_; refine a8R ?_; refine cC (fun h1=>?_) fun h1=>?_
 ·have u1:x.k=1:=by simpa using h1
  have e1:=h.op om_;have e2:=h.name (.inl u1);have e3:=h.cnt0 om_ om_ om_ om_;have e4:=h.k1 u1;refine a8y ?_; refine a8v ?_; refine a8v ?_; refine a8F ?_;exact ⟨_,j5 rfl tt c6,_,_,rfl,rfl,j4 (by simp [e1,e2,e3]; omega)⟩
 ·have u1:¬ x.k=1:=by simpa using h1
  refine K1 ?_; refine cC (fun h2=>?_) fun h2=>?_
  ·have u2:x.k=2:=by simpa using h2
   have e1:=h.op om_;have e2:=h.name (.inr (.inl u2));have e3:=h.cnt0 om_ om_ om_ om_;have e4:=h.k2 u2;refine a8y ?_; refine a8v ?_; refine a8v ?_; refine cG Y6 ?_; refine cG a8z ?_; refine a6Q ?_;exact ⟨_,j5 rfl tt c6,_,_,rfl,rfl,j4 (by simp [e1,e2,e3]; omega)⟩
  ·have u2:¬ x.k=2:=by simpa using h2
   refine K1 ?_; refine cC (fun h3=>?_) fun h3=>?_
   ·have u3:x.k=3:=by simpa using h3
    have e1:=h.op om_;have e2:=h.num om_ om_ om_;have e4:=h.k3 u3;refine d2M ?_; refine cY a5z ?_; refine cY j7 ?_; refine cG c00 ?_; refine cG a0X ?_; refine cG (fun hg=>c7 rfl c7i ⟨hg,tt⟩ (a1J x.name om_ _) rfl) ?_; refine a6Q ?_;exact ⟨_,j5 rfl tt c6,_,_,rfl,rfl,j4 (by simp [e1,e2,e4])⟩
   ·have u3:¬ x.k=3:=by simpa using h3
    refine K1 ?_; refine cC (fun h4=>?_) fun h4=>?_
    ·have u4:x.k=4:=by simpa using h4
     have e1:=h.num om_ om_ om_;have e2:=h.name (.inr (.inr (.inl u4)));have e3:x.args.length=2:=by rw [h.cnt,if_pos u4]
     have e4:=h.k4 u4;refine a8y ?_; refine a8v ?_; refine a8v ?_; refine a8F ?_;exact ⟨_,j5 rfl tt c6,_,_,rfl,rfl,j4 (by simp [e1,e2,e3]; omega)⟩
    ·have u4:¬ x.k=4:=by simpa using h4
     refine K1 ?_; refine cC (fun h5=>?_) fun h5=>?_
     ·have u5:x.k=5:=by simpa using h5
      have e1:=h.op om_;have e5:=h.num om_ om_ om_;have e2:=h.name (.inr (.inr (.inr (.inl u5))));have e3:x.args.length=3:=by rw [h.cnt,if_neg om_,if_pos u5]
      refine a8y ?_; refine b46 ?_; refine a8F ?_;exact ⟨_,j5 rfl tt c6,_,_,rfl,rfl,j4 (by simp [e1,e2,e3,e5])⟩
     ·have u5:¬ x.k=5:=by simpa using h5
      refine K1 ?_; refine cC (fun h6=>?_) fun h6=>?_
      ·have u6:x.k=6:=by simpa using h6
       have e1:=h.op om_;have e2:=h.num om_ om_ om_;have e3:x.args.length=1:=by rw [h.cnt,if_neg om_,if_neg om_,if_pos u6]
       have e4:=h.k678 (.inl u6);refine a8y ?_; refine c0a ?_; refine cG c00 ?_; refine cG a0X ?_;exact d0W
      ·have u6:¬ x.k=6:=by simpa using h6
       refine W7 hCC (α:=Bool) (fun b=>[(2,.ptr 0 0),(5,(.val (.int .i64 (x.args.length:Int)))),(6,(.val (.bool (x.num == 0)))),(7,(.val (.bool (decide (x.name=[]))))),(8,(.val (.bool (x.op == 0)))),(22,(.val (.int .i64 x.k))),(123,(.val (.bool b)))]) (fun _=>[.box x.cells]) (fun b=>b=(x.k == 7 || x.k == 8)) A1 uz_ ?_ ?_
       ·
        refine K1 ?_; refine cC (fun h7=>?_) fun h7=>?_
        ·refine i8 ?_;exact ⟨(x.k == 7),_,(by simp_all),tu_,rfl⟩
        ·refine a5E ?_;exact ⟨(x.k == 8),_,(by simp_all),tu_,rfl⟩
       ·intro b hb; refine cC (fun h8=>?_) fun h8=>?_
        ·have u8:x.k=7\/x.k=8:=by subst hb; simpa using h8
         have e1:=h.op om_;have e2:=h.num om_ om_ om_;have e3:=h.cnt0 om_ om_ om_ om_;have e4:=h.k678 (.inr u8);refine a8y ?_; refine c0a ?_; refine cG c00 ?_; refine cG a0X ?_;exact d0W
        ·have u8:¬ (x.k=7\/x.k=8):=by subst hb; simpa using h8
         refine K1 ?_; refine cC (fun h9=>?_) fun h9=>?_
         ·have u9:x.k=9:=by simpa using h9
          have e1:=h.op om_;have e2:=h.num om_ om_ om_;have e3:=h.cnt0 om_ om_ om_ om_;have e4:=h.k9 u9;refine a8y ?_; refine c0a ?_; refine cG c00 ?_; refine cG a0X ?_; refine cG (fun hg=>c7 rfl c2V ⟨hg,tt⟩ (a1i x.name om_ _) rfl) ?_;exact d0N
         ·have u9:¬ x.k=9:=by simpa using h9
          refine K1 ?_; refine cC (fun h10=>?_) fun h10=>?_
          ·have u10:x.k=10:=by simpa using h10
           have e1:=h.op om_;have e2:=h.name (.inr (.inr (.inr (.inr u10))));have e3:=h.cnt0 om_ om_ om_ om_;have e4:=h.k10 u10;refine a8y ?_; refine a8v ?_; refine a8v ?_; refine a8F ?_;exact ⟨_,j5 rfl tt c6,_,_,rfl,rfl,j4 (by simp [e1,e2,e3]; omega)⟩
          ·have u10:¬ x.k=10:=by simpa using h10
           have:=h.kind;exfalso;omega
mutual
def Tr.sts:Tr->Nat->List Nat
 | .n _ _ _ _ ch,s=>b2a ch s++[s]
def b2a:List Tr->Nat->List Nat
 | [],_=>[]
 | t::l,s=>t.sts s++b2a l (s+t.size)
end
mutual
theorem Tr.sts_len:∀ (t:Tr) (s:Nat),(t.sts s).length=t.size
 | .n k u o nm ch,s=>by rw [Tr.sts,Tr.size,n_6,a2r ch s]; rfl
theorem a2r:∀ (l:List Tr) (s:Nat),(b2a l s).length=t8 l
 | [],_=>rfl
 | t::l,s=>by rw [b2a,t8,n_6,Tr.sts_len t s,a2r l _]
end
theorem a1o:∀ (l:List Tr) (s:Nat),(r3 l s).length=l.length
 | [],_=>rfl
 | t::l,s=>by rw [r3,n_7,n_7,a1o l]
theorem Tr.sts_last (t:Tr) (s:Nat):(t.sts s)[t.size - 1]? = some s:=by
 cases t with
 | n k u o nm ch =>
  rw [Tr.sts,Tr.size,Nat.add_sub_cancel,a0a (by rw [a2r]; exact n_4 _),a2r];simp
def ChS (S:List Nat):List Tr->Nat->Prop
 | [],_=>True
 | c::l,s=>S[s+c.size - 1]? = some s/\ChS S l (s+c.size)
structure d3z (E:List Ex) (S:List Nat) (np j:Nat) (x:Ex) (z:Nat) (ch:List Tr):Prop where
 e:E[j]? = some x
 s:S[j]? = some z
 args:x.args=r3 ch z
 size:z+t8 ch=j
 chs:ChS S ch z
 ok:a0O np x.k x.num x.op x.name x.args.length
variable {e:Nat} {args:List CV}
theorem c0b:∀ (l:List Tr) (s:Nat) (S0 S1:List Nat),S0.length=s->ChS (S0++b2a l s++S1) l s
 | [],_,_,_,_=>trivial
 | t::l,s,S0,S1,h=>by
  have hp:=t.size_pos;refine ⟨?_,?_⟩
  ·rw [b2a,n_9,n_9,a0a om_,h,show s+t.size - 1 - s=t.size - 1 by omega,L4 (by rw [t.sts_len]; omega)];exact t.sts_last s
  ·have:=c0b l (s+t.size) (S0++t.sts s) S1 (by rw [n_6,t.sts_len,h]);rw [b2a,<- n_9 S0];exact this
mutual
theorem c6U {np:Nat}:∀ (t:Tr) {d:Nat} (s:Nat) (E0 E1:List Ex) (S0 S1:List Nat),E0.length=s->S0.length=s->t.wf np d->∀ j,s<=j->j < s+t.size->∃ x z ch,d3z (E0++t.flat s++E1) (S0++t.sts s++S1) np j x z ch
 | .n k u o nm ch,d,s,E0,E1,S0,S1,hE,hS,hw,j,h1,h2=>by
  rw [Tr.wf] at hw;rw [Tr.size] at h2;rw [Tr.flat,Tr.sts];by_cases hj:j < s+t8 ch
  ·have:=c0V ch s E0 (⟨k,u,o,nm,r3 ch s⟩::E1) S0 (s::S1) hE hS hw.2.2 j h1 hj;simpa [n_9] using this
  ·have hj:j=s+t8 ch:=by omega
   refine ⟨⟨k,u,o,nm,r3 ch s⟩,s,ch,?_,?_,rfl,om_,?_,by rw [a1o]; exact hw.2.1⟩
   ·rw [<- n_9,n_9,a0a (by rw [n_6,P4]; omega),n_6,P4,hE,hj,b9K];rfl
   ·rw [<- n_9,n_9,a0a (by rw [n_6,a2r]; omega),n_6,a2r,hS,hj,b9K];rfl
   ·have:=c0b ch s S0 (s::S1) hS;simpa [n_9] using this
theorem c0V {np:Nat}:∀ (l:List Tr) {d:Nat} (s:Nat) (E0 E1:List Ex) (S0 S1:List Nat),E0.length=s->S0.length=s->wfL np d l->∀ j,s<=j->j < s+t8 l->∃ x z ch,d3z (E0++J3 l s++E1) (S0++b2a l s++S1) np j x z ch
 | [],_,s,_,_,_,_,_,_,_,j,h1,h2=>by rw [t8] at h2; omega
 | t::l,d,s,E0,E1,S0,S1,hE,hS,hw,j,h1,h2=>by
  rw [wfL] at hw;rw [t8] at h2;rw [J3,b2a];by_cases hj:j < s+t.size
  ·have:=c6U t s E0 (J3 l (s+t.size)++E1) S0 (b2a l (s+t.size)++S1) hE hS hw.1 j h1 hj;simpa [n_9] using this
  ·have:=c0V l (s+t.size) (E0++t.flat s) E1 (S0++t.sts s) S1 (by rw [n_6,t.flat_len,hE]) (by rw [n_6,t.sts_len,hS]) hw.2 j om_ om_;simpa [n_9] using this
end
theorem c1g {t:Tr} (hw:t.wf np d) (h:j < t.size):∃ x z ch,d3z (t.flat 0) (t.sts 0) np j x z ch:=by
 have:=c6U t 0 [] [] [] [] rfl rfl hw j (n_3 _) om_;simpa using this
theorem b1m:∀ {l:List Tr} {m:Nat} {c:Tr},l[m]? = some c->t8 (l.take (m+1))=t8 (l.take m)+c.size
 | [],m,c,h=>by simp at h
 | x::l,0,c,h=>by simp at h; subst h; simp [t8]
 | x::l,m+1,c,h=>by
  have:=b1m (l:=l) (m:=m) (c:=c) V8;rw [a9K,a9K,t8,t8,this];omega
theorem a0j:∀ {l:List Tr} {m s:Nat} {c:Tr},l[m]? = some c->(r3 l s)[m]? = some ((s+t8 (l.take m)+c.size - 1:Nat):Int)
 | [],m,s,c,h=>by simp at h
 | x::l,0,s,c,h=>by simp at h; subst h; simp [r3,t8]
 | x::l,m+1,s,c,h=>by
  rw [r3,c0Z,a0j (l:=l) (m:=m) (c:=c) V8,a9K,t8,a9B s]
theorem c0u {S:List Nat}:∀ {l:List Tr} {m s:Nat} {c:Tr},ChS S l s->l[m]? = some c->S[s+t8 (l.take m)+c.size - 1]? = some (s+t8 (l.take m))
 | [],m,s,c,_,h=>by simp at h
 | x::l,0,s,c,h,hc=>by simp at hc; subst hc; simpa [t8] using h.1
 | x::l,m+1,s,c,h,hc=>by
  have:=c0u (l:=l) (m:=m) (c:=c) h.2 (by simpa using hc);rw [a9K,t8,<- a9B s];exact this
def a26 (S:List Nat) (n i:Nat):List Int:=(S.take i).map (fun z:Nat=>(z:Int))++List.replicate (n - i) 0
theorem c5y (hS:S.length=n) (hi:i<=n):(a26 S n i).length=n:=by
 unfold a26;rw [n_6,a0B,a5t,List.length_replicate];omega
theorem d0n {z:Nat} (hj:j < i) (hz:S[j]? = some z):((a26 S n i).set i v)[j]? = some (z:Int):=by
 rw [a3q om_];unfold a26;have hl:=(n_0.1 hz).1;rw [L4 c1y,N0,a09,if_pos hj,hz];rfl
theorem b91 (hS:S.length=n) (hi:i < n):((a26 S n i).set i v)[i]? = some v:=by
 rw [b4J (by rw [c5y hS om_]; exact hi)]
theorem c36 {z:Nat} (hS:S.length=n) (hz:S[i]? = some z):(a26 S n i).set i (z:Int)=a26 S n (i+1):=by
 have hi:i < n:=by rw [<- hS]; exact (n_0.1 hz).1
 unfold a26;have e:n - i=(n - (i+1))+1:=by omega
 rw [e,List.replicate_succ,List.set_append_right _ _ c1y,a0B,a5t,Nat.min_eq_left om_,b9K,List.set_cons_zero,b0l,hz];simp
theorem c3z {z:Nat} (hj:i < n) (hz:S[i]? = some z):(a26 S n n)[i]? = some (z:Int):=by
 unfold a26;have hl:=(n_0.1 hz).1;rw [L4 c1y,N0,a09,if_pos hj,hz];rfl
structure DeG (d:De):Prop where
 kind:d.k=1\/d.k=2\/d.k=3
 name:d.k≠3->B1 d.name=true/\O1 d.name=false
 path:d.k=3->C1 d.name=true
 pars:d.k≠1->d.params=[]
 par:∀ s∈d.params,B1 s=true/\O1 s=false
 parl:d.params.length<=8
 nod:d.params.Nodup
 tree:∃ t:Tr,d.body=t.flat 0/\t.wf d.params.length 1
 blen:d.body.length<=256
theorem D7 {s:Str} (h:B1 s=true):s.length<=24:=by
 unfold B1 at h;cases s with
 | nil=>cases h
 | cons b s =>
  simp only [Y0,a5s] at h;exact h.1.1
theorem a1j {s:Str} (h:C1 s=true):s.length<=80:=by
 unfold C1 at h;simp only [Y0,a5s] at h;exact h.1.1
theorem a0O.len {k u:Int} {c:Nat} (h:a0O np k u o nm c):nm.length<=80:=by
 have hk:=h.kind;by_cases h3:k=3
 ·have:=D7 (h.k3 h3).1; omega
 ·by_cases h9:k=9
  ·have:=D7 (h.k9 h9); omega
  ·by_cases h6:k=6\/k=7\/k=8
   ·exact a1j (h.k678 h6)
   ·rw [h.name om_]; simp
theorem a77:∀ (l:List Tr),l.length<=t8 l
 | []=>n_4 _
 | t::l=>by have:=t.size_pos; have:=a77 l; rw [t8,n_7]; omega
theorem a5I:∀ (l:List Tr) (m:Nat),t8 (l.take m)<=t8 l
 | [],m=>by simp
 | t::l,0=>by simp [t8]
 | t::l,m+1=>by have:=a5I l m; rw [a9K,t8,t8]; omega
theorem c4k (hS:S.length=n) (hi:i < n):(a26 S n i)[i]? = some 0:=by
 unfold a26;rw [a0a c1y,a0B,a5t,Nat.min_eq_left om_,b9K,c4F,if_pos om_]
theorem De.old (x:De) (n:Nat):F5 n (.box x.cells):=s8 ⟨.val _,.val _,A5 _ _ _,J5 _ _ _,tt⟩
theorem Ex.old (x:Ex) (n:Nat):F5 n (.box x.cells):=s8 ⟨.val _,.val _,.val _,.val _,T3 _ _ _,tt⟩
theorem c4n (n:Nat) (l:List Int):F5 n (.vec 1 (l.map icv)):=fun r hr c hc=>by
 obtain ⟨a,_,rfl⟩:=K3.1 hr;simp [icv] at hc;subst hc;exact .val _
theorem a6S (l:List Int) (i:Nat) (v:Int):(l.map icv).set i [.val (.int .i64 v)]=(l.set i v).map icv:=by rw [List.map_set]; rfl
theorem b1T (d:De) (h:DeG d) (σ:List c5):b8 CC 281 [.agg d.cells] σ fun r σ'=>r = .ret (.val (.bool true))/\σ'=σ:=by
 refine b8.anyw hCC pu_ pu_ ?_ σ;refine d4 (c4 Tryz.func281 rfl rfl ?_);refine a2n ?_; refine W7 hCC (α:=Unit) (fun _=>[(1,.ptr 0 0)]) (fun _=>[.box d.cells]) (fun _=>True) A1 uz_ ?_ ?_
 ·
  refine z_0 ?_; refine a5x ?_; refine a5q ?_; refine w8 ?_; refine K1 ?_; refine cC (fun h1=>?_) fun h1=>?_
  ·have u1:d.k=1:=by simpa using h1
   have hnm:=h.name om_;refine i8 ?_; refine cC (fun h2=>?_) fun h2=>?_
   ·refine z_0 ?_; refine a8U ?_; refine cY c4M ?_; refine T7 ?_; refine cC (fun h3=>?_) fun h3=>?_
    ·exfalso;simp [hnm] at h3
    ·exact c56
   ·exfalso;simp [u1] at h2
  ·have u1:¬ d.k=1:=by simpa using h1
   refine a5E ?_; refine cC (fun h4=>?_) fun h4=>?_
   ·have u4:d.k=2:=by simpa using h4
    have hnm:=h.name om_;refine z_0 ?_; refine a8U ?_; refine cY c4M ?_; refine T7 ?_; refine cC (fun h5=>?_) fun h5=>?_
    ·exfalso;simp [hnm] at h5
    ·exact c56
   ·have u4:¬ d.k=2:=by simpa using h4
    refine K1 ?_; refine cC (fun h6=>?_) fun h6=>?_
    ·have u6:d.k=3:=by simpa using h6
     have hnm:=h.path u6;refine z_0 ?_; refine a8U ?_; refine cY (c7 rfl c3i ⟨tt,tt⟩ (a1k d.name (by have:=a1j hnm; omega) _) rfl) ?_; refine T7 ?_; refine cC (fun h7=>?_) fun h7=>?_
     ·exfalso;simp [hnm] at h7
     ·exact c56
    ·exfalso;have:=h.kind;simp at h6;omega
 ·intro _ _; refine a1R ?_; refine a5L ?_; refine a0W ?_; refine o0 hCC (α:=Nat) (fun i=>[(1,.ptr 0 0),(25,(.list (d.params.map scv) (gnn d.params.length) none)),(26,(.val (.int .i64 (d.params.length:Int)))),(27,(.val (.int .i64 (i:Int))))]) (fun _=>[.box d.cells]) (fun i=>i<=d.params.length) (fun i=>d.params.length - i) 0 (n_3 _) tu_ (extra0:=[]) rfl A1 uz_ ?_; intro i hi;have hpl:=h.parl;refine F2 ?_; refine cC (fun h8=>?_) fun h8=>?_
  ·have hlt:(i:Int) < d.params.length:=by simpa using h8
   obtain ⟨y,hb⟩:∃ y,d.params[i]? = some y:=⟨d.params[i]'om_,si_⟩;have hnm:=h.par y (n_1 hb);have hk1:d.k=1:=by
    rcases Classical.em (d.k=1) with e | e
    ·exact e
    ·have:=h.pars e;rw [this] at hb;simp at hb
   refine b2v ?_; refine z_2 ?_; refine z_0 ?_; refine a5x ?_; refine a1b ?_; refine cG (fun hg=>c7 rfl c7i ⟨hg,tt⟩ (a1J y (by have:=D7 hnm.1; omega) _) rfl) ?_; refine cG a83 ?_; refine a4L ?_; refine cC (fun h9=>?_) fun h9=>?_
   ·exfalso;simp [hnm,hk1] at h9
   ·exact b0n
  ·obtain ⟨t,hbody,hwf⟩:=h.tree;have hbl:d.body.length=t.size:=by rw [hbody,t.flat_len]
   have hsl:(t.sts 0).length=d.body.length:=by rw [t.sts_len,hbl]
   have hb256:=h.blen;have htp:=t.size_pos;refine Z5 ?_; refine b7X ?_;refine cD (b8O rfl tt tt rfl rfl (n:=d.body.length) (c:=d.body.length) rfl rfl t_5 t_1 c5E t_6 rfl (a48 rfl) rfl om_ om_ (by have hb:Tryz.t3.bytes=8:=rfl; rw [hb]; omega) ?_);refine z_2 ?_; refine J7 [.box d.cells,.vec 1 ((a26 (t.sts 0) d.body.length 0).map icv)] (by unfold a26; simp [List.map_replicate]; exact .inr rfl) ?_; refine a1R ?_; refine b7X ?_; refine a1n ?_; refine o0 hCC (α:=Nat) (fun i=>[(1,.ptr 0 0),(5,.vec 1 0 d.body.length),(45,(.list (d.body.map Ex.cv) (gnn d.body.length) none)),(46,(.val (.int .i64 (d.body.length:Int)))),(47,(.val (.int .i64 (i:Int))))]) (fun i=>[.box d.cells,.vec 1 ((a26 (t.sts 0) d.body.length i).map icv)]) (fun i=>i<=d.body.length) (fun i=>d.body.length - i) 0 (n_3 _) tu_ (extra0:=[]) rfl A1 uz_ ?_; intro i hi; refine F2 ?_; refine cC (fun h10=>?_) fun h10=>?_
   ·have hlt:(i:Int) < d.body.length:=by simpa using h10
    obtain ⟨x,z,ch,hnd⟩:=c1g hwf (j:=i) om_;have hal:x.args.length=ch.length:=by rw [hnd.args,a1o]
    have hcl:=a77 ch;have hsz:=hnd.size;have hzi:z+t8 (ch.take ch.length)=i:=by rw [b1E]; exact hsz
    refine Z0 ?_; refine cY (t6 rfl tt tt rfl rfl b50 a91 om_ (j8 (by rw [hbody]; exact hnd.e)) rfl) ?_; refine cY c8L ?_;refine cD (r6 rfl b4x rfl o4 ?_);refine cY I1 ?_;refine cD (j3 rfl tt tt rfl c6 a91 o4 rfl rfl (nb rfl) ?_);refine a2i ?_; refine cY a88 ?_; refine a5L ?_; refine cY a4N ?_; refine cY (c7 rfl Tryz.call303 j1 (b8l x d.params.length hnd.ok (by have:=hnd.ok.len; omega) om_ _) rfl) ?_; refine T7 ?_; refine cC (fun h11=>?_) fun h11=>?_
    ·exfalso;simp at h11
    ·have hcur:=c4k (S:=t.sts 0) (i:=i) hsl om_;refine a5C ?_; refine cY a4g ?_;refine cD (N8 (((a26 (t.sts 0) d.body.length i).set i ((z+t8 (ch.take ch.length):Nat):Int)).map icv) rfl tt tt rfl c6 t_1 (.inl rfl) rfl (by simpa using j8 (f:=icv) hcur) rfl (nb rfl) (by rw [hzi]; simp only [n_8,a23]; exact a6S _ _ _) rfl ?_);refine U2 ?_; refine a52 ?_; refine cY a7l ?_; refine a5w ?_; refine B7 ?_; refine o0 hCC (α:=Nat) (fun m=>[(1,.ptr 0 0),(5,.vec 1 0 d.body.length),(6,(.val (.int .i64 (i:Int)))),(7,.ptr 2 0),(8,(.val (.int .i64 ((m:Int) - 1)))),(45,(.list (d.body.map Ex.cv) (gnn d.body.length) none)),(46,(.val (.int .i64 (d.body.length:Int)))),(47,(.val (.int .i64 (i:Int))))]) (fun m=>[.box d.cells,.vec 1 (((a26 (t.sts 0) d.body.length i).set i ((z+t8 (ch.take m):Nat):Int)).map icv),.box x.cells]) (fun m=>m<=ch.length) (fun m=>m) ch.length (n_4 _) ⟨B0,B0,B0,B0,⟨tt,(congrArg (fun z:Nat=>(CV.val (.int .i64 ((z:Int) - 1)))) hal)⟩,B0,B0,B0,tt⟩ (extra0:=[]) rfl A1 uz_ ?_; intro m hm; refine a6Y ?_; refine cC (fun h12=>?_) fun h12=>?_
     ·have hmp:(0:Int)<=(m:Int) - 1:=by simpa using h12
      obtain ⟨m,rfl⟩:∃ m',m=m'+1:=⟨m - 1,om_⟩;obtain ⟨c,hc⟩:∃ c,ch[m]? = some c:=⟨ch[m]'om_,si_⟩;have hst:=b1m hc;have hcp:=c.size_pos;have hle:=a5I ch (m+1);refine a6K ?_; refine b3s ?_; refine B4 19 [0,1,0,7,15,0,0,96,224,480,1023,2047,4095,8191,4095,32767,65535,131071,262143] d5 d5 rfl ?_; refine hY c1q ?_; refine hY b5g ?_; refine hY j7 ?_; refine hY d46 ?_; refine hY a3D ?_; refine b0g ?_; refine hY a4g ?_; refine hY (a0i rfl tt rfl a3o rfl (by simpa using j8 (f:=icv) (b91 hsl om_)) rfl) ?_; refine hY a4K ?_; refine b6z ?_; refine O2 rfl rfl tt rfl (fun hg=>j2 rfl tt rfl a8b rfl b7s de_) ?_; refine O2 rfl rfl tt rfl (fun hg=>o9 rfl hg rfl c7K rfl rfl) ?_; refine O2 rfl rfl tt rfl Y6 ?_; refine O2 rfl rfl tt rfl (fun hg=>t6 rfl hg hg rfl rfl t_5 t_1 a90 (j8 (by rw [show (((m+1:Nat):Int) - 1).toNat=m by omega,hnd.args]; exact a0j hc)) rfl) ?_; refine O2 rfl rfl tt rfl (fun hg=>T9 rfl hg rfl a3o rfl) ?_; refine O2 rfl rfl tt rfl b0O ?_; refine hY a6W ?_; refine a6T ?_; refine cC (fun h13=>?_) fun h13=>?_
      ·exfalso;simp at h13;omega
      ·refine i8 ?_; refine R7 ?_; refine cY j7 ?_; refine a52 ?_; refine cY j7 ?_; refine cY d46 ?_; refine cY a3D ?_; refine cY a4g ?_; refine cY (a0i rfl tt rfl a3o rfl (by simpa using j8 (f:=icv) (d0n (n:=d.body.length) (i:=i) (v:=((z+t8 (ch.take (m+1)):Nat):Int)) om_ (c0u hnd.chs hc))) rfl) ?_; refine cY a4g ?_;refine cD (N8 (((a26 (t.sts 0) d.body.length i).set i ((z+t8 (ch.take m):Nat):Int)).map icv) rfl tt tt rfl c6 t_1 (.inl rfl) rfl (by simpa using j8 (f:=icv) (b91 hsl om_)) rfl (nb rfl) (by simp only [n_8,a23]; refine (a6S _ _ _).trans ?_; rw [List.set_set,Int.natCast_add]) rfl ?_);refine i7 ?_; refine z_5 ?_; refine a5w ?_;exact ⟨m,_,⟨om_,om_⟩,⟨B0,B0,B0,B0,⟨tt,(congrArg (fun z:Int=>(CV.val (.int .i64 z))) om_)⟩,B0,B0,B0,tt⟩,rfl⟩
     ·have hm0:m=0:=by simp at h12; omega
      subst hm0; refine J7 [.box d.cells,.vec 1 ((a26 (t.sts 0) d.body.length (i+1)).map icv),.box x.cells] (by rw [<- c36 hsl hnd.s]; rfl) ?_;exact d0I
   ·have hin:i=d.body.length:=by simp at h10; omega
    have hroot:(t.sts 0)[d.body.length - 1]? = some 0:=by rw [hbl]; exact t.sts_last 0
    refine Z5 ?_; refine b7X ?_; refine a1b ?_; refine cG (fun hg=>j2 rfl tt rfl b4z rfl b2d de_) ?_; refine cG (fun hg=>o9 rfl hg rfl Tryz.isAgg117 rfl rfl) ?_; refine cG c5J ?_; refine cG d32 ?_; refine cG (fun hg=>Q8 rfl hg hg rfl rfl t_5 t_1 rfl a90 a90) ?_; refine cG (fun hg=>a0i rfl hg rfl a3o rfl (by rw [hin,show 0+((d.body.length:Int) - 1).toNat=d.body.length - 1 by omega]; exact j8 (f:=icv) (c3z om_ hroot)) rfl) ?_; refine a8F ?_;exact ⟨_,j5 rfl tt c6,_,_,rfl,rfl,j4 K9⟩
structure a7F (x:Src):Prop where
 pkg:B1 x.pkg=true/\O1 x.pkg=false
 imp:∀ s∈x.imports,B1 s=true/\O1 s=false
 impl:x.imports.length<=8
 impn:x.imports.Nodup
 impp:x.pkg∉x.imports
 dec:∀ d∈x.decls,DeG d
 decl:x.decls.length<=64
 decn:(x.decls.map fun d=>(d.k,d.name)).Nodup
structure Sn where
 k:Int
 s:Str
deriving DecidableEq
variable {s:Str} {k:Int}
abbrev Sn.cells (x:Sn):List CV:=[.val (.int .i64 x.k),sv x.s]
def Sn.cv (x:Sn):List CV:=x.cells
theorem b6O (l:List Sn) (nn:Bool):p9 (.list (l.map Sn.cv) nn none):=M3 (f:=Sn.cv) (fun _=>⟨.val _,.val _,tt⟩) l nn
theorem c1J (n:Nat) (l:List Sn) (nn:Bool):Old n (.list (l.map Sn.cv) nn none):=(b6O l nn).old
theorem d5t (x y:Sn):∀ w,(Op.equal 305 (.agg [.int .i64 x.k,.string (str x.s)].toArray) (.agg [.int .i64 y.k,.string (str y.s)].toArray)).run CC.P w = .ok (decide (x=y)) w:=fun w=>by
 show (Op.equal _ _ _).run Tryz.prog w=_;simp [Op.equal,Op.maxDepth,go_sem,W8];obtain ⟨a,b⟩:=x;obtain ⟨a',b'⟩:=y;by_cases h1:a=a' <;> by_cases h2:b=b' <;> simp [h1,h2]
theorem b1B {y:α} (h:l.Nodup) (hy:l[i]? = some y):y∉l.take i:=fun hm=>by
 obtain ⟨j,hj⟩:=K8.1 hm;rw [a09] at hj;split at hj
 ·rename_i hlt;obtain ⟨h1,e1⟩:=n_0.1 hy;obtain ⟨h2,e2⟩:=n_0.1 hj;exact (List.pairwise_iff_getElem.1 h) j i h2 h1 hlt (e2.trans e1.symm)
 ·cases hj
def ixG {α:Type} [DecidableEq α]:List α->α->Nat->Int
 | [],_,_=>-1
 | y::l,x,i=>if x=y then i else ixG l x (i+1)
theorem c7b [DecidableEq α] {y:α} (h:l[i]? = some y) (x:α):ixG (l.drop i) x i=if x=y then (i:Int) else ixG (l.drop (i+1)) x (i+1):=by
 obtain ⟨hlt,he⟩:=n_0.1 h;rw [Q9 hlt,he]; rfl
theorem c1P {α:Type} [DecidableEq α] {x:α}:∀ {l:List α} {i:Nat},0<=ixG l x i↔x∈l
 | [],i=>by simp [ixG]
 | y::l,i=>by
  rw [ixG];by_cases h:x=y
  ·subst h; simp
  ·rw [if_neg h,c1P (l:=l) (i:=i+1)]; simp [h]
theorem a7q (l:List Str) (nn:Bool) (i:Nat) (x:Str) (hl:l.length<=1000000000) (σ:List c5):b8 CC 160 [.list (((l.map scv).take i).drop 0) nn none,sv x] σ fun r σ'=>r = .ret (.val (.bool (decide (x∈l.take i))))/\σ'=σ:=by
 have:=Y5 (l.take i) nn x (by rw [a5t]; omega) σ;rw [b0H,<- List.map_take];exact this
theorem a8w (l:List Str) (nn:Bool) (hl:l.length<=1000000) (hn:l.Nodup) (σ:List c5):b8 CC 282 [(.list (l.map scv) nn none)] σ fun r σ'=>r = .ret (.val (.bool false))/\σ'=σ:=by
 refine b8.anyw hCC pu_ pu_ ?_ σ;refine d4 (c4 Tryz.func282 rfl rfl ?_);refine a04 ?_; refine a0W ?_; refine o0 hCC (α:=Nat) (fun i=>[(0,(.list (l.map scv) nn none)),(5,(.list (l.map scv) nn none)),(6,(.val (.int .i64 (l.length:Int)))),(7,(.val (.int .i64 (i:Int))))]) (fun _=>[]) (fun i=>i<=l.length) (fun i=>l.length - i) 0 (n_3 _) tu_ (extra0:=[]) rfl A1 uz_ ?_; intro i hi; refine F2 ?_; refine cC (fun h1=>?_) fun h1=>?_
 ·have hlt:(i:Int) < l.length:=by simpa using h1
  obtain ⟨y,hb⟩:∃ y,l[i]? = some y:=⟨l[i]'om_,si_⟩;refine Z0 ?_; refine b5R ?_; refine cY I1 ?_; refine a7J ?_; refine cY (b4M (h:=i) rfl tt rfl t_2 t_0 c6i rfl a7m a9a (by rw [a0B]; omega)) ?_; refine cY j7 ?_; refine cY (c7 rfl c6V j1 (a7q l _ i y om_ _) rfl) ?_; refine i7 ?_; refine cC (fun h2=>?_) fun h2=>?_
  ·exfalso;exact b1B hn hb a36
  ·exact b0n
 ·exact c0M
theorem b9w (l:List Sn) (nn:Bool) (x:Sn) (hl:l.length<=1000000) (σ:List c5):b8 CC 320 [(.list (l.map Sn.cv) nn none),.agg x.cells] σ fun r σ'=>r = .ret (.val (.int .i64 (ixG l x 0)))/\σ'=σ:=by
 refine b8.anyw hCC pu_ pu_ ?_ σ;refine d4 (c4 Tryz.func320 rfl rfl ?_);refine a2n ?_; refine a3c ?_; refine cY (X7 rfl tt rfl b8j a4c rfl) ?_; refine a1n ?_; refine o0 hCC (α:=Nat) (fun i=>[(0,(.list (l.map Sn.cv) nn none)),(3,.ptr 0 0),(7,(.val (.int .i64 (l.length:Int)))),(8,(.val (.int .i64 (i:Int))))]) (fun _=>[.box x.cells]) (fun i=>i<=l.length/\ixG l x 0=ixG (l.drop i) x i) (fun i=>l.length - i) 0 ⟨n_3 _,rfl⟩ tu_ (extra0:=[]) rfl A1 uz_ ?_; intro i ⟨hi,hr⟩; refine F2 ?_; refine cC (fun h1=>?_) fun h1=>?_
 ·have hlt:(i:Int) < l.length:=by simpa using h1
  obtain ⟨y,hb⟩:∃ y,l[i]? = some y:=⟨l[i]'om_,si_⟩;rw [c7b hb] at hr;refine Z0 ?_; refine z_2 ?_; refine w8 ?_; refine B4 6 [0,0,0,6,14,31] d5 d5 rfl ?_; refine hY c5V ?_; refine b0g ?_; refine hY (t6 rfl tt tt rfl rfl b8j b34 om_ (j8 hb) rfl) ?_; refine hY (T4 rfl tt rfl c7C b34 (nb rfl)) ?_; refine hY (c8s rfl tt tt (xs:=[.int .i64 x.k,.string (str x.s)]) (ys:=[.int .i64 y.k,.string (str y.s)]) rfl rfl Tryz.eqGuardType305 (d5t x y)) ?_; refine a6T ?_; refine cC (fun h2=>?_) fun h2=>?_
  ·have u2:x=y:=by simpa using h2
   rw [if_pos u2] at hr;exact d1U
  ·have u2:¬ x=y:=by simpa using h2
   rw [if_neg u2] at hr;exact b3R
 ·have hge:l.length<=i:=by simp at h1; omega
  rw [U5 hge] at hr;refine z6 ?_;exact b4f
theorem b10 (l:List Sn) (nn:Bool) (x:Sn) (hl:l.length<=1000000) (σ:List c5):b8 CC 304 [(.list (l.map Sn.cv) nn none),.agg x.cells] σ fun r σ'=>r = .ret (.val (.bool (decide (x∈l))))/\σ'=σ:=by
 refine b8.anyw hCC pu_ pu_ ?_ σ;refine d4 (c4 Tryz.func304 rfl rfl ?_);refine a2n ?_; refine z_1 ?_; refine cY c5V ?_; refine cY (c7 rfl Tryz.call320 j1 (b9w l nn x hl _) rfl) ?_; refine cY P1 ?_; refine z_7 ?_;exact ⟨_,j5 rfl tt c6,_,_,rfl,rfl,j4 (decide_eq_decide.2 c1P)⟩
theorem a8l (l:List Sn) (nn:Bool) (i:Nat) (x:Sn) (hl:l.length<=1000000) (σ:List c5):b8 CC 304 [.list (((l.map Sn.cv).take i).drop 0) nn none,.agg x.cells] σ fun r σ'=>r = .ret (.val (.bool (decide (x∈l.take i))))/\σ'=σ:=by
 have:=b10 (l.take i) nn x (by rw [a5t]; omega) σ;rw [b0H,<- List.map_take];exact this
theorem b8n (l:List Sn) (nn:Bool) (hl:l.length<=1000000) (hn:l.Nodup) (σ:List c5):b8 CC 283 [(.list (l.map Sn.cv) nn none)] σ fun r σ'=>r = .ret (.val (.bool false))/\σ'=σ:=by
 refine b8.anyw hCC pu_ pu_ ?_ σ;refine d4 (c4 Tryz.func283 rfl rfl ?_);refine a04 ?_; refine cY (X7 rfl tt rfl b8j a4c rfl) ?_; refine a1n ?_; refine o0 hCC (α:=Nat) (fun i=>[(0,(.list (l.map Sn.cv) nn none)),(5,(.list (l.map Sn.cv) nn none)),(6,(.val (.int .i64 (l.length:Int)))),(7,(.val (.int .i64 (i:Int))))]) (fun _=>[]) (fun i=>i<=l.length) (fun i=>l.length - i) 0 (n_3 _) tu_ (extra0:=[]) rfl A1 uz_ ?_; intro i hi; refine F2 ?_; refine cC (fun h1=>?_) fun h1=>?_
 ·have hlt:(i:Int) < l.length:=by simpa using h1
  obtain ⟨y,hb⟩:∃ y,l[i]? = some y:=⟨l[i]'om_,si_⟩;refine Z0 ?_; refine cY (t6 rfl tt tt rfl rfl b8j b34 om_ (j8 hb) rfl) ?_; refine cY (T4 rfl tt rfl c7C b34 (nb rfl)) ?_;refine cD (r6 rfl c1a rfl o4 ?_);refine cY I1 ?_;refine cD (j3 rfl tt tt rfl c6 b34 o4 rfl rfl (nb rfl) ?_);refine z_8 ?_; refine B4 5 [0,0,3,0,15] d5 d5 rfl ?_; refine b0g ?_; refine hY (b4M (h:=i) rfl tt rfl b8j b34 c6i rfl a7m a9a (by rw [a0B]; omega)) ?_; refine hY c5V ?_; refine hY (c7 rfl Tryz.call304 j1 (a8l l _ i y om_ _) rfl) ?_; refine a6T ?_; refine cC (fun h2=>?_) fun h2=>?_
  ·exfalso;exact b1B hn hb a36
  ·exact b0n
 ·exact c0M
theorem b7M (x:Src) (h:a7F x) (σ:List c5):b8 CC 242 [.agg x.cells] σ fun r σ'=>r = .ret (.val (.bool true))/\σ'=σ:=by
 refine b8.anyw hCC pu_ pu_ ?_ σ;refine d4 (c4 Tryz.func242 rfl rfl ?_);refine a7h ?_; refine b25 ?_; refine cY (c7 rfl c7i ⟨tt,tt⟩ (a1J x.pkg (by have:=D7 h.pkg.1; omega) _) rfl) ?_; refine T7 ?_; refine cC (fun h1=>?_) fun h1=>?_
 ·exfalso;simp [h.pkg] at h1
 ·have hil:=h.impl;have hdl:=h.decl;refine a19 ?_; refine a8P ?_; refine a0W ?_; refine o0 hCC (α:=Nat) (fun i=>[(1,.ptr 0 0),(12,(.list (x.imports.map scv) (gnn x.imports.length) none)),(13,(.val (.int .i64 (x.imports.length:Int)))),(14,(.val (.int .i64 (i:Int))))]) (fun _=>[.box x.cells]) (fun i=>i<=x.imports.length) (fun i=>x.imports.length - i) 0 (n_3 _) tu_ (extra0:=[]) rfl A1 uz_ ?_; intro i hi; refine F2 ?_; refine cC (fun h2=>?_) fun h2=>?_
  ·have hlt:(i:Int) < x.imports.length:=by simpa using h2
   obtain ⟨y,hb⟩:∃ y,x.imports[i]? = some y:=⟨x.imports[i]'om_,si_⟩;have hnm:=h.imp y (n_1 hb);refine b2v ?_; refine M9 ?_; refine cY (c7 rfl c7i ⟨tt,tt⟩ (a1J y (by have:=D7 hnm.1; omega) _) rfl) ?_; refine T7 ?_; refine cC (fun h3=>?_) fun h3=>?_
   ·exfalso;simp [hnm] at h3
   ·exact b0n
  ·refine z6 ?_; refine a1R ?_; refine b1z ?_; refine o0 hCC (α:=Nat) (fun i=>[(23,(.list (x.decls.map De.cv) (gnn x.decls.length) none)),(24,(.val (.int .i64 (x.decls.length:Int)))),(25,(.val (.int .i64 (i:Int))))]) (fun _=>[.box x.cells]) (fun i=>i<=x.decls.length) (fun i=>x.decls.length - i) 0 (n_3 _) tu_ (extra0:=[]) rfl A1 uz_ ?_; intro i hi; refine F2 ?_; refine cC (fun h4=>?_) fun h4=>?_
   ·have hlt:(i:Int) < x.decls.length:=by simpa using h4
    obtain ⟨d,hd⟩:∃ d,x.decls[i]? = some d:=⟨x.decls[i]'om_,si_⟩;have hg:=h.dec d (n_1 hd);refine a1O ?_; refine cY b2T ?_; refine cY b0M ?_; refine b8I ?_; refine U2 ?_; refine cY c01 ?_; refine cY (c7 rfl Tryz.call281 ⟨tt,tt⟩ (b1T d hg _) rfl) ?_; refine T7 ?_; refine cC (fun h5=>?_) fun h5=>?_
    ·exfalso;simp at h5
    ·exact b0n
   ·exact c0M
end Go.Proofs.YtlppbmfecjabeaaGreatDoor
