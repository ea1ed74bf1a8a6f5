/- Part 6 of what the claim needs: values without addresses, and what the program's functions do with them. -/
import Derived.Test.YtlppbmfecjabeaaGreatDoorY5
set_option maxRecDepth 100000
set_option maxHeartbeats 4000000
namespace Go.Proofs.YtlppbmfecjabeaaGreatDoor
open Go Go.Cl
variable {fl:List Fi} {ev:List Va} {i B b:Nat} {k:Ky} {x:Src} {f y:Fi} {p o:Str} {ms:SM} {me:EM} {l:List Str}
abbrev fv (f:FuncId):CV:=.val (.func (.func f) #[] #[])
def X8 (b:Nat):List (Int × CV):=[(1,fv 105),(2,fv 107),(3,fv 108),(4,fv 109),(5,.clo 111 [.ptr b 0]),(6,fv 114),(7,fv 116)]
abbrev cmO (b:Nat):c5:=.map (gm kv (fun c:CV=>c) (X8 b))
def cfv (b:Nat) (k:Int):CV:=(glk (X8 b) k).getD (F1 .nilFunc)
theorem c1W {L:Nat} (h:b < L):F5 L (cmO b):=fun x hx=>by
 obtain ⟨y,hy,rfl⟩:=K3.1 hx;refine ⟨.val _,?_⟩;simp only [X8,Q2,b0s,or_false] at hy
 rcases hy with rfl | rfl | rfl | rfl | rfl | rfl | rfl
 ·exact .val _
 ·exact .val _
 ·exact .val _
 ·exact .val _
 ·refine .clo fun i c hi=>?_
  rcases i with _ | i
  ·injection hi with hi; subst hi; exact .ptr h
  ·cases hi
 ·exact .val _
 ·exact .val _
theorem c9N {R:Nat->Nat->Prop} {b':Nat} (h:R b b'):H4 R (cmO b) (cmO b'):=.map ⟨rfl,fun i x x' h1 h2=>by
 rcases i with _ | _ | _ | _ | _ | _ | _ | i
 ·injection h1 with h1; injection h2 with h2; subst h1 h2; exact ⟨.pure (.val _),.pure (.val _)⟩
 ·injection h1 with h1; injection h2 with h2; subst h1 h2; exact ⟨.pure (.val _),.pure (.val _)⟩
 ·injection h1 with h1; injection h2 with h2; subst h1 h2; exact ⟨.pure (.val _),.pure (.val _)⟩
 ·injection h1 with h1; injection h2 with h2; subst h1 h2; exact ⟨.pure (.val _),.pure (.val _)⟩
 ·injection h1 with h1; injection h2 with h2; subst h1 h2
  refine ⟨.pure (.val _),.clo rfl fun i c c' g g'=>?_⟩
  rcases i with _ | i
  ·injection g with g; injection g' with g'; subst g g'; exact .ptr h
  ·cases g
 ·injection h1 with h1; injection h2 with h2; subst h1 h2; exact ⟨.pure (.val _),.pure (.val _)⟩
 ·injection h1 with h1; injection h2 with h2; subst h1 h2; exact ⟨.pure (.val _),.pure (.val _)⟩
 ·cases h1⟩
theorem b39 (ev:List Va) (en:Bool):b8 CC 58 [.agg (L8 ev en)] [] fun r τ=>∃ _:Unit,r = .ret (.map 1)/\τ=[.box (L8 ev en),cmO 0]/\True:=by
 refine (c4 Tryz.func58 rfl rfl ?_);refine a2n ?_; refine z_0 ?_;refine cD (X9 rfl ?_);refine cD (k8 (vc:=fun c:CV=>c) (l:=(X8 0).take 0) (a:=1) (b:=((X8 0).getD 0 (0,fv 0)).2) Z9 (.inr rfl) tt rfl tt rfl rfl rfl b6H rfl ?_);refine cD (k8 (vc:=fun c:CV=>c) (l:=(X8 0).take 1) (a:=2) (b:=((X8 0).getD 1 (0,fv 0)).2) Z9 (.inr rfl) tt rfl tt rfl rfl rfl b6H rfl ?_);refine cD (k8 (vc:=fun c:CV=>c) (l:=(X8 0).take 2) (a:=3) (b:=((X8 0).getD 2 (0,fv 0)).2) Z9 (.inr rfl) tt rfl tt rfl rfl rfl b6H rfl ?_);refine cD (k8 (vc:=fun c:CV=>c) (l:=(X8 0).take 3) (a:=4) (b:=((X8 0).getD 3 (0,fv 0)).2) Z9 (.inr rfl) tt rfl tt rfl rfl rfl b6H rfl ?_);refine cY (b1h rfl ⟨tt,tt⟩) ?_;refine cD (k8 (vc:=fun c:CV=>c) (l:=(X8 0).take 4) (a:=5) (b:=((X8 0).getD 4 (0,fv 0)).2) Z9 (.inr rfl) tt rfl tt rfl rfl rfl b6H rfl ?_);refine cD (k8 (vc:=fun c:CV=>c) (l:=(X8 0).take 5) (a:=6) (b:=((X8 0).getD 5 (0,fv 0)).2) Z9 (.inr rfl) tt rfl tt rfl rfl rfl b6H rfl ?_);refine cD (k8 (vc:=fun c:CV=>c) (l:=(X8 0).take 6) (a:=7) (b:=((X8 0).getD 6 (0,fv 0)).2) Z9 (.inr rfl) tt rfl tt rfl rfl rfl b6H rfl ?_);refine cY j7 ?_; refine z_7 ?_;exact ⟨_,j5 rfl tt c6,(by exact ⟨(),rfl,rfl,tt⟩)⟩
theorem b7D (ev:List Va) (en:Bool) (σ:List c5):b8 CC 58 [.agg (L8 ev en)] σ fun r τ=>∃ _:Unit,r = .ret (.map (σ.length+1))/\τ=σ++[.box (L8 ev en),cmO σ.length]/\True :=
 a54 (α:=Unit) hCC (fun a ha=>by simp at ha; subst ha; exact o8 ⟨a0v _ _,tt⟩) (res:=fun _=>.ret (.map 1)) (res':=fun _ m=>.ret (.map (m+1))) (S:=fun _=>[.box (L8 ev en),cmO 0]) (S':=fun _ m=>[.box (L8 ev en),cmO m]) (P:=fun _=>True) (b39 ev en) (fun _ _=>rfl) (fun _ m i x h=>by
  rcases i with _ | _ | i
  ·injection h with h; subst h; exact ⟨_,rfl,.box (M4 (fun c hc=>by simp at hc; subst hc; exact a0v _ _))⟩
  ·injection h with h; subst h; exact ⟨_,rfl,c9N si_⟩
  ·cases h) (fun _ m=>.ret (.map rfl)) σ
theorem c7v (h:a0J k=true):(k.k=1\/k.k=2\/k.k=3\/k.k=4\/k.k=5\/k.k=6\/k.k=7)/\k.a.length<=100:=by
 unfold a0J at h;split at h
 ·rename_i h1;simp only [a4T,beq_iff_eq] at h1;simp only [Y0] at h;have:=D7 h.1;exact ⟨om_,om_⟩
 ·split at h
  ·rename_i h1;simp only [a4T,beq_iff_eq] at h1;simp only [Y0] at h;have:=a1j h.1;exact ⟨om_,om_⟩
  ·split at h
   ·rename_i h1;simp only [a4T,beq_iff_eq] at h1;simp only [Y0] at h;have:=D7 h.1;exact ⟨om_,om_⟩
   ·cases h
theorem d35 {nn:Bool} {br:List Str} {σ:List c5} {w q1 q2 t:Nat} (hσ:WAt σ w q1 q2 t fl nn true br ms me) (hok:WOk fl ms me) {en:Bool} (hb:σ[b]? = some (.box (L8 ev en))) (hev:∀ v∈ev,-9223372036854775808<=v.v/\v.v<=9223372036854775807) (hel:ev.length<=1000000000) (hk:a0J k=true) :
 b94 CC (cfv b k.k) [.ptr w 0,.agg k.cells] σ (sv (S5 fl ms me ev k)):=by
 obtain ⟨hkk,hka⟩:=c7v hk
 rcases hkk with h | h | h | h | h | h | h
 ·refine .inl ⟨105,by rw [h]; rfl,Tryz.call105,?_⟩;rw [S5,if_pos h];exact d4V hσ hok k
 ·refine .inl ⟨107,by rw [h]; rfl,Tryz.call107,?_⟩;rw [S5,if_neg om_,if_pos h];exact d5V hσ hok k
 ·refine .inl ⟨108,by rw [h]; rfl,Tryz.call108,?_⟩;rw [S5,if_neg om_,if_neg om_,if_pos h];exact d5o hσ hok k
 ·refine .inl ⟨109,by rw [h]; rfl,Tryz.call109,?_⟩;rw [S5,if_neg om_,if_neg om_,if_neg om_,if_pos h];exact d4t hσ hok k
 ·refine .inr ⟨111,[.ptr b 0],by rw [h]; rfl,Tryz.call111,?_⟩;rw [S5,if_neg om_,if_neg om_,if_neg om_,if_neg om_,if_pos h];exact d4F hb hev hel k
 ·refine .inl ⟨114,by rw [h]; rfl,Tryz.call114,?_⟩;rw [S5,if_neg om_,if_neg om_,if_neg om_,if_neg om_,if_neg om_,if_pos h];exact d4K hσ hok k
 ·refine .inl ⟨116,by rw [h]; rfl,Tryz.call116,?_⟩;rw [S5,if_neg om_,if_neg om_,if_neg om_,if_neg om_,if_neg om_,if_neg om_];exact d43 hσ hok k hka
noncomputable def X6 (fl:List Fi) (ev:List Va) (l:List Ky):Option (List Str) :=
 if C2 fl=0/\a8u ev=true/\l.all a0J=true then some (l.map (S5 fl (H0 fl).2.1 (H0 fl).2.2 ev)) else none
def c10 (o:Option (List Str)):CV:=.tup [.list ((o.getD []).map scv) (gnn (o.getD []).length) none,.val (.int .i64 (if o.isSome then 0 else 1))]
theorem d3n (b:Nat) (k:Int):((glk (X8 b) k).map fun c:CV=>c).getD (F1 .nilFunc)=cfv b k:=by unfold cfv; cases glk (X8 b) k <;> rfl
theorem c18 {p:Ky->Bool} {l:List Ky} {y:Ky} (h:l[i]? = some y) (ha:(l.take i).all p=true) (hy:p y=true):(l.take (i+1)).all p=true:=by
 rw [b0l,h,List.all_append,ha]; simp [hy]
theorem c6Q {p:Ky->Bool} {l:List Ky} {y:Ky} (h:l[i]? = some y) (hy:p y=false):l.all p≠true:=fun hh=>by
 rw [R8] at hh;rw [hh y (n_1 h)] at hy;cases hy
theorem b4q (fl:List Fi) (nn:Bool) (hfl:∀ f∈fl,f.p.length<=1000000000) (ev:List Va) (en:Bool) (hev:∀ v∈ev,v.n.length<=1000000000) (hvr:∀ v∈ev,-9223372036854775808<=v.v/\v.v<=9223372036854775807) (hel:ev.length<=1000000000) (l:List Ky) (nk:Bool) (hl:l.length<=1000000000) (hk:∀ k∈l,k.a.length<=1000000000/\k.b.length<=1000000000):b8 CC 16 [.agg (u0 fl nn),.agg (L8 ev en),.list (l.map Ky.cv) nk none] [] fun r τ=>∃ _:Unit,a08 0 τ r (.ret (c10 (X6 fl ev l)))/\True:=by
 refine (c4 Tryz.func16 rfl rfl ?_);refine b01 ?_; refine a0w ?_; refine b0G ?_;refine cD (b9 rfl Tryz.call56 ⟨tt,tt⟩ (d3S fl nn hfl _) rfl ?_);intro _ _; refine a4a ?_; refine cY J2 ?_; refine c5e ?_; refine cY a5M ?_; refine cY j7 ?_; refine cG (fun hg=>Q0 rfl tt rfl b6r b4X rfl (nb rfl)) ?_; refine cG (fun hg=>c7 rfl Tryz.call57 ⟨hg,tt⟩ (a3L ev en hev _) rfl) ?_; refine cG a83 ?_; refine a4L ?_; refine cC (fun h1=>?_) fun h1=>?_
 ·have hv:¬ (C2 fl=0/\a8u ev=true/\l.all a0J=true):=by
   rintro ⟨u1,u2,_⟩;simp [u1,u2] at h1
  refine z_0 ?_; refine a2V ?_;exact ⟨_,l9 (rs:=[.tmp 6,.tmp 7]) (cs:=[_,_]) rfl V9 (n_2 rfl),(by rw [X6,if_neg hv]; exact ⟨(),.ret (.tups ⟨.old (A5 _ ([]:List Str) _),.old (.val _),tt⟩),tt⟩)⟩
 ·have hv:C2 fl=0/\a8u ev=true:=by simpa using h1
  have hok:=c1i hv.1;have hva:(C2 fl == 0)=true:=by simp [hv.1]
  rw [hva];refine a0x ?_; refine cY c52 ?_;refine cD (b9 rfl Tryz.call58 ⟨tt,tt⟩ (b7D ev en _) rfl ?_);intro _ _; refine z_2 ?_; refine a04 ?_; refine cY (X7 rfl tt rfl b64 a4c rfl) ?_; refine a1n ?_; refine A2 hCC 8 rfl (α:=Nat) (fun i=>[(8,.ptr 2 0),(9,.map 7),(10,(.list (((l.take i).map (S5 fl (H0 fl).2.1 (H0 fl).2.2 ev)).map scv) (gnn ((l.take i).map (S5 fl (H0 fl).2.1 (H0 fl).2.2 ev)).length) (E7 ((l.take i).map (S5 fl (H0 fl).2.1 (H0 fl).2.2 ev)).length 8))),(27,(.list (l.map Ky.cv) nk none)),(28,(.val (.int .i64 (l.length:Int)))),(29,(.val (.int .i64 (i:Int))))]) (fun i=>[.box (u0 fl nn),.box (L8 ev en),wbx fl nn true (H0 fl).1 3 4 5,smO (H0 fl).2.1,emO (H0 fl).2.2,r7 (H0 fl).1.length,.box (L8 ev en),cmO 6,r7 ((l.take i).map (S5 fl (H0 fl).2.1 (H0 fl).2.2 ev)).length]) (fun i=>i<=l.length/\(l.take i).all a0J=true) (fun i=>l.length - i) ⟨0,[0,1,2,3,4,5,6,7,13],⟨n_3 _,rfl⟩,⟨rfl,rfl⟩,⟨a6p,a6p,a6p,a6p,a6p,a6p,tt⟩,⟨.inr ⟨_,rfl,.same rfl a0Q⟩,.inr ⟨_,rfl,.same rfl (s8 ⟨O4 _ _ _,tt⟩)⟩,.inr ⟨_,rfl,.same rfl (a3k de_ de_ de_)⟩,.inr ⟨_,rfl,.same rfl a1W⟩,.inr ⟨_,rfl,.same rfl a14⟩,.inr ⟨_,rfl,.same rfl s9⟩,.inr ⟨_,rfl,.same rfl (s8 ⟨O4 _ _ _,tt⟩)⟩,.inr ⟨_,rfl,.same rfl (c1W de_)⟩,.inl rfl,tt⟩⟩ ?_; intro i ⟨hi,hall⟩; refine F2 ?_; refine cC (fun h2=>?_) fun h2=>?_
  ·have hlt:i < l.length:=by simp at h2; omega
   obtain ⟨y,hy⟩:∃ y,l[i]? = some y:=⟨l[i]'hlt,si_⟩;have hyl:=hk y (n_1 hy);refine a1O ?_; refine cY (t6 rfl tt tt rfl rfl b64 b8M om_ (j8 hy) rfl) ?_; refine cY (T4 rfl tt rfl Tryz.isAgg39 b8M (nb rfl)) ?_; refine d1p ?_; refine a2i ?_; refine cY b5A ?_; refine cY (c7 rfl Tryz.call59 ⟨tt,tt⟩ (b8W y hyl.1 hyl.2 _) rfl) ?_; refine T7 ?_; refine cC (fun h3=>?_) fun h3=>?_
   ·have hv2:¬ (C2 fl=0/\a8u ev=true/\l.all a0J=true):=fun u=>c6Q hy (by simpa using h3) u.2.2;refine z_0 ?_; refine a2V ?_;exact ⟨_,l9 (rs:=[.tmp 6,.tmp 7]) (cs:=[_,_]) rfl V9 (n_2 rfl),(by rw [X6,if_neg hv2]; exact ⟨(),.ret (.tups ⟨.old (A5 _ ([]:List Str) _),.old (.val _),tt⟩),tt⟩)⟩
   ·have hyk:a0J y=true:=by simpa using h3
    have htk1:l.take (i+1)=l.take i++[y]:=by rw [b0l,hy]; rfl
    refine i8 ?_; refine R7 ?_; refine d2b ?_; refine cY (P9 (vc:=fun c:CV=>c) (l:=X8 6) (a:=y.k) Z9 rfl tt tt rfl rfl b6H Tryz.zeroValue115 rfl rfl (d3n 6 y.k)) ?_; refine cY j7 ?_; refine cY b5A ?_; refine cY (c3M rfl tt rfl j1 (by exact d35 (w:=2) (q1:=3) (q2:=4) (t:=5) (b:=6) ⟨rfl,rfl,rfl,rfl,b4r ⟨de_,de_,de_,de_,de_,de_⟩⟩ hok rfl hvr hel hyk) rfl) ?_; refine cY (A3 [scv ((S5 fl (H0 fl).2.1 (H0 fl).2.2 ev) y)] rfl ⟨tt,tt⟩ t_2 t_0 t_3 rfl rfl rfl rfl rfl rfl rfl rfl rfl) ?_;refine cD (D9 rfl tt tt rfl si_ R6 t_2 t_0 a8h t_3 rfl (.inr rfl) X0 V5 H3 (((l.take (i+1)).map (S5 fl (H0 fl).2.1 (H0 fl).2.2 ev)).map scv) ((l.take (i+1)).map (S5 fl (H0 fl).2.1 (H0 fl).2.2 ev)).length (by rw [htk1,b5x,b5x]; rfl) (by rw [htk1]; simp) ?_);refine a8G ?_;exact ⟨(i+1),[0,1,2,3,4,5,6,7,10],⟨om_,om_,c18 hy hall hyk⟩,⟨rfl,rfl⟩,⟨a07,a07,a07,a07,a07,a07,tt⟩,⟨.inr ⟨_,rfl,.same rfl a0Q⟩,.inr ⟨_,rfl,.same rfl (s8 ⟨O4 _ _ _,tt⟩)⟩,.inr ⟨_,rfl,.same rfl (a3k de_ de_ de_)⟩,.inr ⟨_,rfl,.same rfl a1W⟩,.inr ⟨_,rfl,.same rfl a14⟩,.inr ⟨_,rfl,.same rfl s9⟩,.inr ⟨_,rfl,.same rfl (s8 ⟨O4 _ _ _,tt⟩)⟩,.inr ⟨_,rfl,.same rfl (c1W de_)⟩,.inr ⟨_,rfl,.same rfl s9⟩,tt⟩⟩
  ·have hge:l.length<=i:=by simp at h2; omega
   have hta:l.take i=l:=Y9 hge;refine a9I ?_; refine a4x ?_;exact ⟨_,l9 (rs:=[.tmp 6,.tmp 7]) (cs:=[_,_]) rfl V9 (n_2 rfl),(by rw [X6,if_pos ⟨hv.1,hv.2,by rw [<- hta]; exact hall⟩,hta]; exact ⟨(),.ret (.tups ⟨.tok (fun r hr c hc=>(A6 (f:=scv) (fun _=>S2.all ⟨.val _,tt⟩) _) r hr c hc),.old (.val _),tt⟩),tt⟩)⟩
theorem b8m (o:Option (List Str)):p9 (c10 o):=B2 (cs:=[_,_]) ⟨F7 _ _,.val _,tt⟩
theorem a9g (fl:List Fi) (nn:Bool) (hfl:∀ f∈fl,f.p.length<=1000000000) (ev:List Va) (en:Bool) (hev:∀ v∈ev,v.n.length<=1000000000) (hvr:∀ v∈ev,-9223372036854775808<=v.v/\v.v<=9223372036854775807) (hel:ev.length<=1000000000) (l:List Ky) (nk:Bool) (hl:l.length<=1000000000) (hk:∀ k∈l,k.a.length<=1000000000/\k.b.length<=1000000000) (σ:List c5):b8 CC 16 [.agg (u0 fl nn),.agg (L8 ev en),.list (l.map Ky.cv) nk none] σ fun r τ=>r = .ret (c10 (X6 fl ev l))/\τ=σ :=
 (E9 (res:=fun _:Unit=>.ret (c10 (X6 fl ev l))) (P:=fun _=>True) hCC (fun a h=>by simp at h; rcases h with rfl | rfl | rfl; exact o8 (cs:=u0 _ _) ⟨D4 _ _,tt⟩; exact o8 (cs:=L8 _ _) ⟨a0v _ _,tt⟩; exact a45 _ _) (b4q fl nn hfl ev en hev hvr hel l nk hl hk) (fun _ _=>b8m _) σ).mono fun r τ ⟨_,h1,h2,_⟩=>⟨h1,h2⟩
noncomputable def a2b (fl:List Fi) (ev:List Va) (k:Ky):Option Str:=(X6 fl ev [k]).map fun l=>l.getD 0 []
def b9e (o:Option Str):CV:=.tup [sv (o.getD []),.val (.int .i64 (if o.isSome then 0 else 1))]
theorem b3I {k:List Ky} (h:X6 fl ev k=some l):l=k.map (S5 fl (H0 fl).2.1 (H0 fl).2.2 ev):=by
 unfold X6 at h;split at h
 ·injection h with h; exact h.symm
 ·cases h
theorem b6d (fl:List Fi) (nn:Bool) (hfl:∀ f∈fl,f.p.length<=1000000000) (ev:List Va) (en:Bool) (hev:∀ v∈ev,v.n.length<=1000000000) (hvr:∀ v∈ev,-9223372036854775808<=v.v/\v.v<=9223372036854775807) (hel:ev.length<=1000000000) (k:Ky) (hk:k.a.length<=1000000000/\k.b.length<=1000000000):b8 CC 14 [.agg (u0 fl nn),.agg (L8 ev en),.agg k.cells] [] fun r τ=>∃ _:Unit,a08 0 τ r (.ret (b9e (a2b fl ev k)))/\True:=by
 refine (c4 Tryz.func14 rfl rfl ?_);refine b01 ?_;refine cD (a5W rfl tt c6 o4 ?_);refine a0w ?_; refine b5a ?_; refine cY b5A ?_; refine cY (A3 ([k].map Ky.cv) rfl ⟨tt,tt⟩ b64 b8M b88 rfl rfl rfl rfl rfl rfl rfl rfl rfl) ?_; refine cY (c7 rfl Tryz.call16 B9 (by exact a9g fl nn hfl ev en hev hvr hel [k] true si_ (fun k1 h1=>by simp at h1; subst h1; exact hk) _) rfl) ?_; refine a2P ?_; refine a5H ?_; refine cC (fun h1=>?_) fun h1=>?_
 ·have hn:X6 fl ev [k]=none:=by
   cases h:X6 fl ev [k] with
   | none=>rfl
   | some l=>rw [h] at h1; simp at h1
  refine z_1 ?_; refine cY a13 ?_; refine z_7 ?_;exact ⟨_,l9 (rs:=[.tmp 6,.tmp 7]) (cs:=[_,_]) rfl V9 (n_2 rfl),(by rw [a2b,hn]; exact ⟨(),.ret (.old (.tup fun i c hi=>by rcases i with _ | _ | i <;> first|(injection hi with hi; subst hi; exact .val _) | cases hi)),tt⟩)⟩
 ·obtain ⟨s,hs⟩:∃ s,X6 fl ev [k]=some [s]:=by
   cases h:X6 fl ev [k] with
   | none=>rw [h] at h1; simp at h1
   | some l=>exact ⟨_,by rw [b3I h]; rfl⟩
  rw [hs];refine a05 ?_; refine cY (t6 rfl tt rfl rfl rfl t_2 t_0 om_ (j8 (rfl:[s][0]? = some s)) rfl) ?_; refine cY a0T ?_; refine a4x ?_;exact ⟨_,l9 (rs:=[.tmp 6,.tmp 7]) (cs:=[_,_]) rfl V9 (n_2 rfl),(by rw [a2b,hs]; exact ⟨(),.ret (.old (.tup fun i c hi=>by rcases i with _ | _ | i <;> first|(injection hi with hi; subst hi; exact .val _) | cases hi)),tt⟩)⟩
theorem a6c (fl:List Fi) (nn:Bool) (hfl:∀ f∈fl,f.p.length<=1000000000) (ev:List Va) (en:Bool) (hev:∀ v∈ev,v.n.length<=1000000000) (hvr:∀ v∈ev,-9223372036854775808<=v.v/\v.v<=9223372036854775807) (hel:ev.length<=1000000000) (k:Ky) (hk:k.a.length<=1000000000/\k.b.length<=1000000000) (σ:List c5):b8 CC 14 [.agg (u0 fl nn),.agg (L8 ev en),.agg k.cells] σ fun r τ=>r = .ret (b9e (a2b fl ev k))/\τ=σ :=
 (E9 (res:=fun _:Unit=>.ret (b9e (a2b fl ev k))) (P:=fun _=>True) hCC (fun a h=>by simp at h; rcases h with rfl | rfl | rfl; exact o8 (cs:=u0 _ _) ⟨D4 _ _,tt⟩; exact o8 (cs:=L8 _ _) ⟨a0v _ _,tt⟩; exact o8 (cs:=[_,_,_]) ⟨.val _,.val _,.val _,tt⟩) (b6d fl nn hfl ev en hev hvr hel k hk) (fun _ _=>B2 (cs:=[_,_]) ⟨.val _,.val _,tt⟩) σ).mono fun r τ ⟨_,h1,h2,_⟩=>⟨h1,h2⟩
def a8N:List Str->List Str->Int->Int
 | x::l,y::m,i=>if x=y then a8N l m (i+1) else i
 | _,_,_=>-1
noncomputable def a8Z (fl:List Fi) (ev:List Va) (k:List Ky) (ts:List Str):Option Int:=match X6 fl ev k with
 | some l=>if k.length=ts.length then some (a8N l ts 0) else none
 | none=>none
def c6K (o:Option Int):CV:=.tup [.val (.int .i64 (o.getD 0)),.val (.int .i64 (if o.isSome then 0 else 1))]
theorem b89 {m:List Str} {x y:Str} (hx:l[i]? = some x) (hy:m[i]? = some y) (j:Int):a8N (l.drop i) (m.drop i) j=if x=y then a8N (l.drop (i+1)) (m.drop (i+1)) (j+1) else j:=by
 obtain ⟨h1,rfl⟩:=n_0.1 hx;obtain ⟨h2,rfl⟩:=n_0.1 hy;rw [Q9 h1,Q9 h2,a8N]
theorem c2d (fl:List Fi) (nn:Bool) (hfl:∀ f∈fl,f.p.length<=1000000000) (ev:List Va) (en:Bool) (hev:∀ v∈ev,v.n.length<=1000000000) (hvr:∀ v∈ev,-9223372036854775808<=v.v/\v.v<=9223372036854775807) (hel:ev.length<=1000000000) (k:List Ky) (nk:Bool) (hl:k.length<=1000000000) (hk:∀ x∈k,x.a.length<=1000000000/\x.b.length<=1000000000) (ts:List Str) (nt:Bool) (_:ts.length<=4611686018427387904):b8 CC 21 [.agg (u0 fl nn),.agg (L8 ev en),.list (k.map Ky.cv) nk none,.list (ts.map scv) nt none] [] fun r τ=>∃ _:Unit,a08 0 τ r (.ret (c6K (a8Z fl ev k ts)))/\True:=by
 refine (c4 Tryz.func21 rfl rfl ?_);refine b01 ?_; refine a0w ?_; refine b5a ?_; refine cY j7 ?_; refine cY (c7 rfl Tryz.call16 B9 (a9g fl nn hfl ev en hev hvr hel k nk hl hk _) rfl) ?_; refine a2P ?_; refine a4a ?_; refine a1b ?_; refine cG (fun hg=>X7 rfl hg rfl b64 a4c rfl) ?_; refine cG Y6 ?_; refine cG (fun hg=>X7 rfl hg rfl t_2 a4c rfl) ?_; refine cG a8z ?_; refine a4L ?_; refine cC (fun h1=>?_) fun h1=>?_
 ·have hn:a8Z fl ev k ts=none:=by
   unfold a8Z;cases h:X6 fl ev k with
   | none=>rfl
   | some l =>
    rw [h] at h1;have hkt:¬ k.length=ts.length:=by simp at h1; omega
    exact if_neg hkt
  refine z_0 ?_; refine a2V ?_;exact ⟨_,l9 (rs:=[.tmp 8,.tmp 9]) (cs:=[_,_]) rfl V9 (n_2 rfl),(by rw [hn]; exact ⟨(),.ret (.old (.tup fun i c hi=>by rcases i with _ | _ | i <;> first|(injection hi with hi; subst hi; exact .val _) | cases hi)),tt⟩)⟩
 ·obtain ⟨l,hs⟩:∃ l,X6 fl ev k=some l:=by
   cases h:X6 fl ev k with
   | none=>rw [h] at h1; simp at h1
   | some l=>exact ⟨_,rfl⟩
  rw [hs] at h1 ⊢;have hkt:k.length=ts.length:=by simp at h1; omega
  have hlk:l.length=k.length:=by rw [b3I hs]; simp
  have hh:a8Z fl ev k ts=some (a8N l ts 0):=by unfold a8Z; rw [hs]; exact if_pos hkt
  refine a4V ?_; refine a0W ?_; refine o0 hCC (fun i:Nat=>[(3,(.list (ts.map scv) nt none)),(30,(.list (l.map scv) (gnn l.length) none)),(31,(.val (.int .i64 (l.length:Int)))),(32,(.val (.int .i64 (i:Int))))]) (fun _=>[.box (u0 fl nn),.box (L8 ev en)]) (fun i=>i<=l.length/\a8N l ts 0=a8N (l.drop i) (ts.drop i) i) (fun i=>l.length - i) 0 ⟨n_3 _,rfl⟩ tu_ (extra0:=[]) rfl A1 uz_ ?_; intro i ⟨hi,hr⟩; refine F2 ?_; refine cC (fun h2=>?_) fun h2=>?_
  ·have hlt:i < l.length:=by simp at h2; omega
   obtain ⟨x,hx,_⟩:=a2j hlt;obtain ⟨y,hy,_⟩:=a2j (l:=ts) (i:=i) om_;rw [b89 hx hy] at hr;refine Z0 ?_; refine cY (t6 rfl tt tt rfl rfl t_2 t_0 om_ (j8 hx) rfl) ?_; refine cY a0T ?_; refine cY I1 ?_; refine z_2 ?_; refine a0n ?_; refine cY c5g ?_; refine cY a0T ?_; refine b2V ?_; refine cC (fun h3=>?_) fun h3=>?_
   ·have hxy:¬ x=y:=by simpa using h3
    rw [if_neg hxy] at hr;refine z_1 ?_; refine a4x ?_;exact ⟨_,l9 (rs:=[.tmp 8,.tmp 9]) (cs:=[_,_]) rfl V9 (n_2 rfl),d4G⟩
   ·have hxy:x=y:=by simpa using h3
    rw [if_pos hxy] at hr;exact b3R
  ·have hge:l.length<=i:=by simp at h2; omega
   rw [U5 hge] at hr;refine Z5 ?_; refine a2V ?_;exact ⟨_,l9 (rs:=[.tmp 8,.tmp 9]) (cs:=[_,_]) rfl V9 (n_2 rfl),d4G⟩
theorem c8m (fl:List Fi) (nn:Bool) (hfl:∀ f∈fl,f.p.length<=1000000000) (ev:List Va) (en:Bool) (hev:∀ v∈ev,v.n.length<=1000000000) (hvr:∀ v∈ev,-9223372036854775808<=v.v/\v.v<=9223372036854775807) (hel:ev.length<=1000000000) (k:List Ky) (nk:Bool) (hl:k.length<=1000000000) (hk:∀ x∈k,x.a.length<=1000000000/\x.b.length<=1000000000) (ts:List Str) (nt:Bool) (htl:ts.length<=4611686018427387904) (σ:List c5):b8 CC 21 [.agg (u0 fl nn),.agg (L8 ev en),.list (k.map Ky.cv) nk none,.list (ts.map scv) nt none] σ fun r τ=>r = .ret (c6K (a8Z fl ev k ts))/\τ=σ :=
 (E9 (res:=fun _:Unit=>.ret (c6K (a8Z fl ev k ts))) (P:=fun _=>True) hCC (fun a h=>by simp at h; rcases h with rfl | rfl | rfl | rfl; exact o8 (cs:=u0 _ _) ⟨D4 _ _,tt⟩; exact o8 (cs:=L8 _ _) ⟨a0v _ _,tt⟩; exact a45 _ _; exact F7 _ _) (c2d fl nn hfl ev en hev hvr hel k nk hl hk ts nt htl) (fun _ _=>B2 (cs:=[_,_]) ⟨.val _,.val _,tt⟩) σ).mono fun r τ ⟨_,h1,h2,_⟩=>⟨h1,h2⟩
def awF:List Fi:=[⟨[97,46,100,97,116],[45]⟩,⟨[97,46,115,114,99],[112,97,99,107,97,103,101,32,112,59,32,116,101,115,116,32,116,61,49,59]⟩]
theorem aw1:a2b awF [] ⟨4,[97,46,100,97,116],[]⟩=some [61,45]:=by kernel_rfl
def awS:Src:=⟨[112],[],[⟨2,[116],[],[⟨1,1,0,[],[]⟩]⟩]⟩
def awD:De:=⟨2,[116],[],[⟨1,1,0,[],[]⟩]⟩
theorem c8e {d:De} (h:DeG d) {k u o:Int} {nm:Str} (hb:d.body=[⟨k,u,o,nm,[]⟩]):V3 d=(Tr.n k u o nm []).txt d.params 0:=by
 obtain ⟨t,h1,h2,h3⟩:=b0v h;rw [h3];rw [hb] at h1;have hl:=Tr.flat_len t 0;rw [<- h1] at hl
 rcases t with ⟨k',u',o',nm',ch⟩
 have hch:ch=[]:=by
  rcases ch with _ | ⟨c,ch⟩
  ·rfl
  ·have:=c.size_pos;simp only [Tr.size,t8,n_7,I7] at hl;omega
 subst hch;simp only [Tr.flat,J3,r3,a7u,List.cons.injEq,Ex.mk.injEq,and_true] at h1;obtain ⟨rfl,rfl,rfl,rfl⟩:=h1;rfl
theorem aw2:a2b awF [] ⟨2,[112],[116]⟩=some [61,112,97,99,107,97,103,101,32,112,59,10,116,101,115,116,32,116,32,61,32,49,59,10]:=by
 have hv:C2 awF=0:=by kernel_rfl
 have hok:=c1i hv;have hg:glk (H0 awF).2.1 [97,46,115,114,99]=some awS:=by kernel_rfl
 have hx:Y7 true (H0 awF).2.2 2 [112] [116]=⟨[112],[116],2,[97,46,115,114,99],0,1⟩:=by kernel_rfl
 have hd:DeG awD:=(hok.src _ _ hg).dec awD (by simp [awS,awD]);have hb:V3 awD=[49]:=(c8e hd rfl).trans d5;have ht:a1Y awS awD=[112,97,99,107,97,103,101,32,112,59,10,116,101,115,116,32,116,32,61,32,49,59,10]:=by
  unfold a1Y;rw [hb];kernel_rfl
 have hc:X6 awF [] [⟨2,[112],[116]⟩]=some [[61]++a1Y awS awD]:=by
  unfold X6;rw [if_pos ⟨hv,by kernel_rfl,by kernel_rfl⟩];have:S5 awF (H0 awF).2.1 (H0 awF).2.2 [] ⟨2,[112],[116]⟩=[61]++a1Y awS awD:=by
   unfold S5;rw [if_neg de_,if_pos rfl,hx];show a0V _ _=_;unfold a0V;rw [if_neg de_,if_pos rfl];unfold b5I;rw [hg];rfl
  rw [a9D,this];rfl
 unfold a2b;rw [hc,ht];rfl
theorem aw3:a8Z awF [] [⟨4,[99],[]⟩] [[45]]=some (-1):=by kernel_rfl
def a2G (f:Fi):Option Src:=if a11 f.p=true then L6 f.b else none
def deK (x:Src) (d:De):Nm:=H9 d.k x.pkg d.name
def b5H (q:Nm) (f:Fi):List (Src × De):=match a2G f with
 | none=>[]
 | some x=>(x.decls.filter fun d=>decide (deK x d=q)).map fun d=>(x,d)
def occ (q:Nm) (fl:List Fi):List (Src × De):=fl.flatMap (b5H q)
noncomputable def d5i:List (Src × De)->Str
 | []=>[45]
 | [(x,d)]=>[61]++a1Y x d
 | _=>[63]
def a7I (ms:SM) (o:Option En):List (Src × De)->Prop
 | []=>o=none
 | (x,d)::t=>∃ e,o=some e/\e.ct=1+(t.length:Int)/\glk ms e.pl=some x/\0<=e.ix/\x.decls[e.ix.toNat]? = some d
theorem a7I.add {O:Nm->List (Src × De)} (h:∀ q,a7I ms (glk me q) (O q)) {path:Str} {d:De} (hg:glk ms path=some x) (hd:x.decls[i]? = some d) (q:Nm):a7I ms (glk (a4q me ⟨x.pkg,d.name,d.k,path,(i:Int),1⟩) q) (O q++if deK x d=q then [(x,d)] else []):=by
 rw [a4q,M7];show a7I ms (if q=H9 d.k x.pkg d.name then _ else _) _;by_cases hq:deK x d=q
 ·rw [if_pos hq];subst hq;have h1:=h (deK x d);rw [if_pos (show deK x d=H9 d.k x.pkg d.name from rfl)];cases hO:O (deK x d) with
  | nil =>
   rw [hO] at h1;have h1:glk me (H9 d.k x.pkg d.name)=none:=h1;simp only [h1];exact ⟨_,rfl,rfl,hg,Int.natCast_nonneg _,by simpa using hd⟩
  | cons y t =>
   obtain ⟨y,z⟩:=y;rw [hO] at h1;obtain ⟨e,h2,h3,h4,h5,h6⟩:=h1;have h2:glk me (H9 d.k x.pkg d.name)=some e:=h2;simp only [h2];refine ⟨_,rfl,?_,h4,h5,h6⟩;show e.ct+1=1+((t++[(x,d)]).length:Int);rw [h3,n_6];simp only [n_7,I7];omega
 ·rw [if_neg hq,a0P];rw [if_neg (fun e=>hq e.symm)];exact h q
theorem a7I.addDs {ms:SM} {path:Str} {x:Src} (hg:glk ms path=some x):∀ (n k:Nat) (me:EM) (O:Nm->List (Src × De)),x.decls.length - k=n->(∀ q,a7I ms (glk me q) (O q))->∀ q,a7I ms (glk (addDs me path x.pkg (x.decls.drop k) k) q) (O q++(((x.decls.drop k).filter fun d=>decide (deK x d=q)).map fun d=>(x,d)))
 | 0,k,me,O,hn,h,q=>by
  rw [U5 om_,Go.Proofs.YtlppbmfecjabeaaGreatDoor.addDs];simpa using h q
 | n+1,k,me,O,hn,h,q=>by
  obtain ⟨d,hd⟩:∃ d,x.decls[k]? = some d:=⟨x.decls[k]'om_,si_⟩;rw [a58 hd];have h1:=a7I.addDs hg n (k+1) _ _ om_ (fun q=>a7I.add h hg hd q) q;have hdr:x.decls.drop k=d::x.decls.drop (k+1):=by
   obtain ⟨hlt,rfl⟩:=n_0.1 hd;exact Q9 hlt
  rw [hdr,a9N];by_cases hq:deK x d=q
  ·rw [if_pos a9l,a9D];rw [if_pos hq,n_9] at h1;exact h1
  ·rw [if_neg a9l];rw [if_neg hq,a0P] at h1;exact h1
theorem a7I.put {o:Option En} {l:List (Src × De)} {path:Str} (h:a7I ms o l) (hp:glk ms path=none):a7I (W2 ms path x) o l:=by
 rcases l with _ | ⟨⟨y,d⟩,t⟩
 ·exact h
 ·obtain ⟨e,h1,h2,h3,h4⟩:=h;refine ⟨e,h1,h2,?_,h4⟩;rw [M7,if_neg]
  ·exact h3
  ·intro he; rw [he,hp] at h3; cases h3
structure WRd (dn:List Fi) (ms:SM) (me:EM):Prop where
 src:∀ f∈dn,glk ms f.p=a2G f
 non:∀ p,(∀ f∈dn,f.p≠p)->glk ms p=none
 ent:∀ q,a7I ms (glk me q) (occ q dn)
theorem WRd.step {dn:List Fi} {s:WS} (h:WRd dn s.2.1 s.2.2) (hf:∀ g∈dn,g.p≠f.p):WRd (dn++[f]) (a0Z s f).2.1 (a0Z s f).2.2:=by
 have hnone:=h.non f.p hf;have hocc:∀ q,occ q (dn++[f])=occ q dn++b5H q f:=fun q=>by simp [occ]
 cases hs:a2G f with
 | none =>
  have hw:(a0Z s f).2=s.2:=by
   unfold a0Z;unfold a2G at hs
   split
   ·rename_i h1;rw [if_pos h1] at hs;rw [hs]
   ·rfl
  have e1:(a0Z s f).2.1=s.2.1:=by rw [hw]
  have e2:(a0Z s f).2.2=s.2.2:=by rw [hw]
  rw [e1,e2];refine ⟨fun g hg=>?_,fun p hp=>h.non p fun g hg=>hp g (by simp [hg]),fun q=>?_⟩
  ·rcases a0y.1 hg with hg | hg
   ·exact h.src g hg
   ·rw [b9I.1 hg,hs]; exact hnone
  ·rw [hocc,b5H,hs,a0P]; exact h.ent q
 | some x =>
  have hw:(a0Z s f).2=(W2 s.2.1 f.p x,addDs s.2.2 f.p x.pkg x.decls 0):=by
   unfold a0Z;unfold a2G at hs;split at hs
   ·rename_i h1;rw [if_pos h1,hs]
   ·cases hs
  have e1:(a0Z s f).2.1=W2 s.2.1 f.p x:=by rw [hw]
  have e2:(a0Z s f).2.2=addDs s.2.2 f.p x.pkg x.decls 0:=by rw [hw]
  rw [e1,e2];refine ⟨fun g hg=>?_,fun p hp=>?_,fun q=>?_⟩
  ·rw [M7]
   rcases a0y.1 hg with hg | hg
   ·rw [if_neg (hf g hg)]; exact h.src g hg
   ·rw [b9I.1 hg,if_pos rfl,hs]
  ·rw [M7,if_neg (fun e=>hp f si_ e.symm)];exact h.non p fun g hg=>hp g (by simp [hg])
  ·rw [hocc,b5H,hs];have hg:glk (W2 s.2.1 f.p x) f.p=some x:=by rw [M7,if_pos rfl]
   have:=a7I.addDs hg _ 0 s.2.2 (fun q=>occ q dn) rfl (fun q=>(h.ent q).put hnone) q;simpa using this
theorem WRd.all:∀ {l dn:List Fi} {s:WS},WRd dn s.2.1 s.2.2->(l.Pairwise fun a b=>a.p≠b.p)->(∀ g∈dn,∀ f∈l,g.p≠f.p)->WRd (dn++l) (a9L l s).2.1 (a9L l s).2.2
 | [],dn,s,h,_,_=>by simpa [a9L] using h
 | f::l,dn,s,h,hp,hd=>by
  have h1:=h.step (f:=f) fun g hg=>hd g hg f si_;obtain ⟨hp1,hp2⟩:=a8e.1 hp;have:=WRd.all (l:=l) h1 hp2 (fun g hg e he=>by
   rcases a0y.1 hg with hg | hg
   ·exact hd g hg e (by simp [he])
   ·rw [b9I.1 hg]; exact hp1 e he)
  rw [n_9] at this;exact this
theorem d1F (h:C2 fl=0):fl.Pairwise fun a b=>a.p≠b.p:=by
 have h0:rvE none fl=0:=by
  unfold C2 at h;split at h
  ·cases h
  ·exact h
 exact (b8v h0).2.imp fun {a b} hab he=>by rw [he] at hab; exact List.lt_irrefl _ hab
theorem d0D (h:C2 fl=0):WRd fl (H0 fl).2.1 (H0 fl).2.2:=by
 have:=WRd.all (l:=fl) (dn:=[]) (s:=([],[],[])) ⟨fun f hf=>by simp at hf,fun p _=>rfl,fun q=>rfl⟩ (d1F h) (fun g hg=>by simp at hg);rw [H0,if_pos h];simpa using this
theorem c30 {k:Int} (h:glk me (H9 k p o)=none):(Y7 true me k p o).ct=0:=by
 unfold Y7;rw [if_pos rfl,h]
theorem a8f (h:C2 fl=0) (k:Int) (p o:Str):a0V (H0 fl).2.1 (Y7 true (H0 fl).2.2 k p o)=d5i (occ (H9 k p o) fl):=by
 have h1:=(d0D h).ent (H9 k p o);cases hO:occ (H9 k p o) fl with
 | nil =>
  rw [hO] at h1;unfold a0V;rw [if_pos (c30 h1)];rfl
 | cons y t =>
  obtain ⟨x,d⟩:=y;rw [hO] at h1;obtain ⟨e,h2,h3,h4,h5,h6⟩:=h1;have he:Y7 true (H0 fl).2.2 k p o=e:=by
   unfold Y7;rw [if_pos rfl,h2]
  rw [he];unfold a0V;rw [if_neg om_];cases t with
  | nil =>
   rw [if_pos (by simpa using h3)];unfold b5I;rw [h4];simp only [n_5,h6,b2z,a6f];rfl
  | cons z t =>
   rw [if_neg (by rw [h3,n_7]; omega)];rfl
theorem b8D:∀ {l:List Fi} {pv:Option Fi},(∀ f∈l,C1 f.p=true/\f.b.length<=16384)->b2b l->(∀ g,pv=some g->∀ f∈l,Op.bytesLess g.p f.p=true)->rvE pv l=0
 | [],_,_,_,_=>rfl
 | f::l,pv,h,hs,hp=>by
  obtain ⟨h1,h2⟩:=a8e.1 hs;have hf:=h f si_;have e0:G6 pv f=0:=by
   unfold G6;rw [if_neg (by rw [hf.1]; simp)];cases pv with
   | none =>
    rw [if_neg si_,if_neg si_,if_neg om_]
   | some g =>
    have hg:=hp g rfl f si_;have hne:¬ f.p=g.p:=fun e=>by rw [e,b32] at hg; cases hg
    have hnl:¬ Op.bytesLess f.p g.p=true:=fun e=>by
     have:=a7K hg e;rw [b32] at this; cases this
    rw [if_neg (by simpa using hne),if_neg (by simpa using hnl),if_neg om_]
  rw [rvE,if_pos e0];exact b8D (fun g hg=>h g (by simp [hg])) h2 fun g hg=>by injection hg with hg; subst hg; exact h1
theorem b0h:∀ s∈a3f,C1 s=true/\s.length<=1000:=by decide
theorem J1.valid (h:J1 B fl) (hB:B<=16384):C2 fl=0:=by
 have hl:=h.len;unfold C2;rw [if_neg om_];exact b8D (fun f hf=>⟨(b0h _ (h.pth f hf)).1,b83 (h.byt f hf) hB⟩) h.srt fun g hg=>by cases hg
theorem J1.plen (h:J1 B fl):∀ f∈fl,f.p.length<=1000000000:=fun f hf=>by
 have:=(b0h _ (h.pth f hf)).2;omega
theorem b9c (h:C2 fl=0) (he:a8u ev=true) (hk:a0J k=true):a2b fl ev k=some (S5 fl (H0 fl).2.1 (H0 fl).2.2 ev k):=by
 unfold a2b X6;rw [if_pos ⟨h,he,by simp [hk]⟩];rfl
theorem d4m:∀ f∈awF,f.p.length<=1000000000:=by decide
theorem d4S (σ:List c5):b8 CC 14 [.agg (u0 awF true),.agg (L8 [] false),CV.agg (Ky.cells ⟨4,[97,46,100,97,116],[]⟩)] σ fun r τ=>r = .ret (.tup [sv [61,45],.val (.int .i64 0)])/\τ=σ:=by
 have h:=a6c awF true d4m [] false si_ si_ si_ ⟨4,[97,46,100,97,116],[]⟩ ⟨de_,de_⟩ σ;rw [aw1] at h; exact h
theorem d5h (σ:List c5):b8 CC 14 [.agg (u0 awF true),.agg (L8 [] false),CV.agg (Ky.cells ⟨2,[112],[116]⟩)] σ fun r τ=>r = .ret (.tup [sv [61,112,97,99,107,97,103,101,32,112,59,10,116,101,115,116,32,116,32,61,32,49,59,10],.val (.int .i64 0)])/\τ=σ:=by
 have h:=a6c awF true d4m [] false si_ si_ si_ ⟨2,[112],[116]⟩ ⟨de_,de_⟩ σ;rw [aw2] at h; exact h
theorem d4B (σ:List c5):b8 CC 21 [.agg (u0 awF true),.agg (L8 [] false),.list ([(⟨4,[99],[]⟩:Ky)].map Ky.cv) true none,.list ([([45]:Str)].map scv) true none] σ fun r τ=>r = .ret (.tup [.val (.int .i64 (-1)),.val (.int .i64 0)])/\τ=σ:=by
 have h:=c8m awF true d4m [] false si_ si_ si_ [⟨4,[99],[]⟩] true si_ (fun x h=>by simp at h; subst h; exact ⟨de_,de_⟩) [[45]] true si_ σ;rw [aw3] at h; exact h
theorem b8y  (σ:List c5):b8 CC 23 [] σ fun r σ'=>r = .ret (.val (.bool true))/\σ'=σ:=by
 refine b8.anyw hCC pu_ pu_ ?_ σ;refine d4 (c4 Tryz.func23 rfl rfl ?_);refine a3C ?_; refine cY d5Q ?_; refine cY d5Q ?_; refine cY (A3 (awF.map Fi.cv) rfl j1 a27 a1S a34 rfl rfl rfl rfl rfl rfl rfl rfl rfl) ?_; refine cY (x9 #[(0,1)] rfl ⟨tt,tt⟩ c1f b3L rfl ⟨_,rfl⟩ (fun w=>by kernel_rfl) rfl rfl) ?_; refine c82 ?_; refine U2 ?_; refine cY a15 ?_; refine cY d4g ?_; refine cY d3w ?_; refine cY (c7 rfl b6K B9 (by exact d4S _) rfl) ?_; refine a2P ?_; refine z_2 ?_; refine b0G ?_; refine cY d4g ?_; refine cY (x9 #[(0,1),(1,1),(2,1)] rfl ⟨rfl,rfl,rfl,tt⟩ b9p b88 rfl ⟨_,rfl⟩ (fun w=>by kernel_rfl) rfl rfl) ?_; refine cY (c7 rfl b6K B9 (by exact d5h _) rfl) ?_; refine a2P ?_; refine z_2 ?_; refine b0G ?_; refine cY d4g ?_; refine cY d3w ?_; refine cY (A3 ([(⟨4,[99],[]⟩:Ky)].map Ky.cv) rfl ⟨tt,tt⟩ b64 b8M b88 rfl rfl rfl rfl rfl rfl rfl rfl rfl) ?_; refine cY (A3 ([([45]:Str)].map scv) rfl ⟨rfl,tt⟩ t_2 t_0 t_3 rfl rfl rfl rfl rfl rfl rfl rfl rfl) ?_; refine cY (c7 rfl Tryz.call21 a5Q (by exact d4B _) rfl) ?_; refine a2P ?_; refine M9 ?_; refine a1b ?_; refine b21 ?_; refine b21 ?_; refine cG a5F ?_; refine b46 ?_; refine cG a5F ?_; refine b46 ?_; refine a8F ?_;exact ⟨_,j5 rfl tt c6,_,_,rfl,rfl,j4 (by rfl)⟩
theorem d5y:∀ m:Nat,m < 3->([122]++a4z m++[46,115,114,99]:Str)∈a3f:=fun m hm=>by
 have h3:m=0\/m=1\/m=2:=by omega
 rcases h3 with rfl | rfl | rfl <;> rw [a7c om_] <;> decide
theorem c7Q (l:List Int) (nn:Bool) (k:Nat) (hat:k<=500000000) (hl:l.length<=maxLen) (B:Nat) (hB:6300<=B/\B<=1000000) (fl:List Fi) (hm:J1 B fl):b8 CC 28 [.ptr 0 0,(.agg (u0 fl (gnn fl.length)))] [p8 l nn k] fun r τ=>∃ a:List Fi × Nat,C6 1 τ r (.ret (.agg (u0 a.1 (gnn a.1.length)))) [p8 l nn a.2]/\(J1 (B+1240) a.1/\k<=a.2/\a.2<=k+1080):=by
 refine (c4 Tryz.func28 rfl rfl ?_);refine a6m ?_;refine cD (r6 rfl b3L rfl o4 ?_);refine O3 ?_; refine cY (c7 rfl Tryz.call66 trivial (a6Z _) rfl) ?_;refine cD (b9 rfl a5i j1 (J0 l nn (k) _ 0 rfl om_ hl G0 de_ de_) rfl ?_);intro sp hsp;have hspa:=c0l _ hsp;have hml:=hm.len;refine z_2 ?_; refine W7 hCC (α:=Nat) (fun _=>[(0,.ptr 0 0),(3,.ptr 1 0),(4,.ptr 2 0),(5,(sv sp))]) (fun p=>[p8 l nn (p),.box (u0 fl (gnn fl.length)),.box (u0 [] false)]) (fun p=>p=k+2) A1 uz_ ?_ ?_
 ·
  refine z_1 ?_;refine cD (b9 rfl a76 o6 (K2 l nn (k+1) _ 0 rfl om_ hl 9 om_) rfl ?_);intro _ _; refine a8R ?_; refine cC (fun h1=>?_) fun h1=>?_
  ·refine w8 ?_; refine B5 [0,1,2,4,3,5,6,7,8] 4 [0,0,0,6,0,30,62,127,255] [[0,3],[0],[0],[],[]] (hd1l:=[0,1,2,4]) (tll:=[(3,[0,3]),(5,[0]),(6,[0]),(7,[]),(8,[])]) d5 d5 rfl rfl rfl ?_; refine c0B ?_; refine chf rfl (d6 rfl d5m) ?_; refine a8S ?_;refine A9 rfl rfl (b9 rfl a5i j1 (J0 l nn (k+2) _ 0 rfl om_ hl a02 de_ de_) rfl ?_);intro v hv;refine ⟨⟨V7,C8,tt⟩,?_⟩;refine A9 rfl rfl (b9 rfl Tryz.call70 ⟨tt,tt⟩ (c0H l nn (k+3) om_ hl _ 0 rfl) rfl ?_);intro ⟨s,p4⟩ ⟨hs,hq1,hq2⟩;dsimp only at hs hq1 hq2 ⊢;refine ⟨⟨V7,tt⟩,?_⟩;refine D5 rfl c9u ⟨⟨V7,tt⟩,?_⟩;refine D5 rfl (d6 rfl (c7 rfl b81 j1 (a0d fl _ ⟨v,s⟩ om_ _) rfl)) ⟨tt,?_⟩;refine a7d ?_; refine G3 ?_;exact ⟨_,A8 rfl a1Z,⟨(a5g fl ⟨v,s⟩,p4),a1x rfl I0 (.old (Q4 _ _).old),(hm.mono om_).ins (c0W _ hv) do_,do_,do_⟩⟩
  ·refine K1 ?_; refine cC (fun h2=>?_) fun h2=>?_
   ·refine w8 ?_; refine B5 [0,1,2,3,4,5] 3 [0,0,0,6,15,31] [[0],[],[]] (hd1l:=[0,1,2]) (tll:=[(3,[0]),(4,[]),(5,[])]) d5 d5 rfl rfl rfl ?_; refine c0B ?_; refine chf rfl (d6 rfl (A3 (([[97,46,100,97,116],[100,47,98,46,100,97,116],[99],[97,46,115,114,99],[98,46,115,114,99]]:List Str).map scv) rfl ⟨rfl,rfl,rfl,rfl,rfl,tt⟩ t_2 t_0 t_3 rfl rfl rfl rfl rfl rfl rfl rfl rfl)) ?_; refine D2 ?_;refine A9 rfl rfl (b9 rfl a5i j1 (J0 l nn (k+2) _ 0 rfl om_ hl ([[97,46,100,97,116],[100,47,98,46,100,97,116],[99],[97,46,115,114,99],[98,46,115,114,99]]:List Str) de_ de_) rfl ?_);intro v hv;refine ⟨⟨V7,tt⟩,?_⟩;refine D5 rfl (d6 rfl (c7 rfl Tryz.call71 j1 (b3t fl _ v om_ _) rfl)) ⟨tt,?_⟩;refine a7d ?_; refine G3 ?_;exact ⟨_,A8 rfl a1Z,⟨(a4B fl v,k+3),a1x rfl I0 (.old (Q4 _ _).old),(hm.mono om_).rem v,do_,do_⟩⟩
   ·refine K1 ?_; refine cC (fun h3=>?_) fun h3=>?_
    ·refine w8 ?_; refine d39 ?_; refine a6M ?_; refine chf rfl U4 ?_; refine chf rfl c6r ?_; refine d2n ?_; intro v hv;have hv8:v.length<=8:=P0 (.inl hv);refine d1G ?_; intro ⟨s,p4⟩ ⟨hs,hq1,hq2⟩;dsimp only at hs hq1 hq2 ⊢;refine d08 ?_; refine a7d ?_;exact d1x
    ·refine K1 ?_; refine cC (fun h4=>?_) fun h4=>?_
     ·refine z_0 ?_; refine a0U ?_; refine o0 hCC (fun i:Nat=>[(0,.ptr 0 0),(3,.ptr 1 0),(4,.ptr 2 0),(5,(sv sp)),(50,(.list (fl.map Fi.cv) (gnn fl.length) none)),(51,(.val (.int .i64 (fl.length:Int)))),(52,(.val (.int .i64 (i:Int))))]) (fun _=>[p8 l nn (k+2),.box (u0 fl (gnn fl.length)),.box (u0 [] false)]) (fun i=>i<=fl.length) (fun i=>fl.length - i) 0 (n_3 _) tu_ (extra0:=[]) rfl A1 uz_ ?_; intro i hi; refine F2 ?_; refine cC (fun h5=>?_) fun h5=>?_
      ·have hlt:i < fl.length:=by simp at h5; omega
       obtain ⟨y,hb,hym⟩:=a2j hlt;have hyb:=hm.byt y hym;refine b2j ?_; refine cC (fun h6=>?_) fun h6=>?_
       ·have hrl:(a4B fl sp).length<=fl.length:=List.length_filter_le _ _;have hb3:=a2q (l:=l) (k:=k+2) (n:=3) om_;obtain ⟨m,hmm⟩:∃ m:Nat,O9 l (k+2) 3=(m:Int):=⟨(O9 l (k+2) 3).toNat,om_⟩;have hm3:m < 3:=by omega
        have hzp:=d5y m hm3;have hdl:=a1C 0 m om_;refine w8 ?_; refine B5 [0,1,2,3,8,9,4,5,6,7,10,11,12] 6 [0,0,3,0,15,31,63,127,0,256,1023,2047,4095] [[4,5],[4,5],[4,5],[4,5],[],[],[]] (hd1l:=[0,1,2,3,8,9]) (tll:=[(4,[4,5]),(5,[4,5]),(6,[4,5]),(7,[4,5]),(10,[]),(11,[]),(12,[])]) d5 d5 rfl rfl rfl ?_; refine c0B ?_; refine chf rfl (d6 rfl (c7 rfl Tryz.call71 j1 (b3t fl _ sp om_ _) rfl)) ?_; refine chf rfl U4 ?_; refine b2D ?_; refine D2 ?_;refine A9 rfl rfl (b9 rfl a76 o6 (K2 l nn (k+2) _ 0 rfl om_ hl 3 om_) rfl ?_);intro _ _;rw [hmm];refine ⟨⟨a5D,a4v,tt⟩,?_⟩;refine D5 rfl (d6 rfl c0X) ⟨⟨a5D,a4v,tt⟩,?_⟩;refine D5 rfl (d6 rfl b0Q) ⟨⟨a5D,a4v,tt⟩,?_⟩;refine D5 rfl c0R ⟨⟨a5D,a4v,tt⟩,?_⟩;refine D5 rfl c9u ⟨tt,?_⟩;refine D5 rfl (d6 rfl (c7 rfl b81 j1 (a0d (a4B fl sp) _ ⟨[122]++a4z m++[46,115,114,99],y.b⟩ om_ _) rfl)) ⟨tt,?_⟩;refine a7d ?_; refine G3 ?_;exact ⟨_,A8 rfl a1Z,⟨(a5g (a4B fl sp) ⟨[122]++a4z m++[46,115,114,99],y.b⟩,k+3),a1x rfl I0 (.old (Q4 _ _).old),((hm.mono om_).rem sp).ins hzp do_,do_,do_⟩⟩
       ·exact b0n
      ·exact b9X
     ·refine K1 ?_; refine cC (fun h7=>?_) fun h7=>?_
      ·refine z_0 ?_; refine a0U ?_; refine o0 hCC (fun i:Nat=>[(0,.ptr 0 0),(3,.ptr 1 0),(4,.ptr 2 0),(5,(sv sp)),(76,(.list (fl.map Fi.cv) (gnn fl.length) none)),(77,(.val (.int .i64 (fl.length:Int)))),(78,(.val (.int .i64 (i:Int))))]) (fun _=>[p8 l nn (k+2),.box (u0 fl (gnn fl.length)),.box (u0 [] false)]) (fun i=>i<=fl.length) (fun i=>fl.length - i) 0 (n_3 _) tu_ (extra0:=[]) rfl A1 uz_ ?_; intro i hi; refine F2 ?_; refine cC (fun h8=>?_) fun h8=>?_
       ·have hlt:i < fl.length:=by simp at h8; omega
        obtain ⟨y,hb,hym⟩:=a2j hlt;have hyb:=hm.byt y hym;refine b2j ?_; refine cC (fun h9=>?_) fun h9=>?_
        ·have hb3:=a2q (l:=l) (k:=k+2) (n:=100) om_;obtain ⟨m,hmm⟩:∃ m:Nat,O9 l (k+2) 100=(m:Int):=⟨(O9 l (k+2) 100).toNat,om_⟩;have hm3:m < 100:=by omega
         have hdl:=a1C 1 m om_;refine w8 ?_; refine B5 [0,1,2,7,8,3,4,5,6,9,10,11,12] 5 [0,0,0,4,12,28,60,0,128,508,1022,2047,4095] [[0,1,3,4],[0,1,3,4],[0,1,3,4],[0,1,3,4],[0,1],[0],[],[]] (hd1l:=[0,1,2,7,8]) (tll:=[(3,[0,1,3,4]),(4,[0,1,3,4]),(5,[0,1,3,4]),(6,[0,1,3,4]),(9,[0,1]),(10,[0]),(11,[]),(12,[])]) d5 d5 rfl rfl rfl ?_; refine chf rfl b0X ?_; refine a6M ?_; refine b2D ?_; refine D2 ?_;refine A9 rfl rfl (b9 rfl a76 o6 (K2 l nn (k+2) _ 0 rfl om_ hl 100 om_) rfl ?_);intro _ _;rw [hmm];refine ⟨⟨V7,C8,a5D,a4v,tt⟩,?_⟩;refine D5 rfl (d6 rfl c0X) ⟨⟨V7,C8,a5D,a4v,tt⟩,?_⟩;refine D5 rfl (d6 rfl b0Q) ⟨⟨V7,C8,a5D,a4v,tt⟩,?_⟩;refine D5 rfl c0R ⟨⟨V7,C8,a5D,a4v,tt⟩,?_⟩;refine d0T ?_;refine D5 rfl (d6 rfl (c7 rfl b81 j1 (a0d fl _ ⟨sp,[35,32]++a4z m++[10,32,32]++y.b⟩ om_ _) rfl)) ⟨tt,?_⟩;refine a7d ?_; refine G3 ?_;exact ⟨_,A8 rfl a1Z,⟨(a5g fl ⟨sp,[35,32]++a4z m++[10,32,32]++y.b⟩,k+3),a1x rfl I0 (.old (Q4 _ _).old),(hm.mono om_).ins (hspa) d5x,do_,do_⟩⟩
        ·exact b0n
       ·exact b9X
      ·refine K1 ?_; refine cC (fun h10=>?_) fun h10=>?_
       ·refine z_0 ?_; refine a0U ?_; refine o0 hCC (fun i:Nat=>[(0,.ptr 0 0),(3,.ptr 1 0),(4,.ptr 2 0),(5,(sv sp)),(102,(.list (fl.map Fi.cv) (gnn fl.length) none)),(103,(.val (.int .i64 (fl.length:Int)))),(104,(.val (.int .i64 (i:Int))))]) (fun _=>[p8 l nn (k+2),.box (u0 fl (gnn fl.length)),.box (u0 [] false)]) (fun i=>i<=fl.length) (fun i=>fl.length - i) 0 (n_3 _) tu_ (extra0:=[]) rfl A1 uz_ ?_; intro i hi; refine F2 ?_; refine cC (fun h11=>?_) fun h11=>?_
        ·have hlt:i < fl.length:=by simp at h11; omega
         obtain ⟨y,hb,hym⟩:=a2j hlt;have hyb:=hm.byt y hym;refine b2j ?_; refine cC (fun h12=>?_) fun h12=>?_
         ·refine b0G ?_; refine cY j7 ?_; refine a4m ?_; refine cY a5Y ?_; refine cY d5j ?_; refine cY (c7 rfl b81 j1 (a0d fl _ ⟨sp,y.b++[102,117,110,99]⟩ om_ _) rfl) ?_; refine d1w ?_;exact ⟨_,A8 rfl a1Z,⟨(a5g fl ⟨sp,y.b++[102,117,110,99]⟩,k+2),a1x rfl I0 (.old (Q4 _ _).old),(hm.mono om_).ins (hspa) d5x,do_,do_⟩⟩
         ·exact b0n
        ·exact b9X
       ·refine i8 ?_;exact ⟨(k+2),_,rfl,tu_,rfl⟩
 ·intro p hp; subst hp; refine W7 hCC (α:=Nat) (fun _=>[(0,.ptr 0 0),(3,.ptr 1 0),(4,.ptr 2 0),(5,(sv sp))]) (fun p=>[p8 l nn (p),.box (u0 fl (gnn fl.length)),.box (u0 [] false)]) (fun p=>p=k+2) A1 uz_ ?_ ?_
  ·
   refine z_0 ?_; refine a0U ?_; refine o0 hCC (fun i:Nat=>[(0,.ptr 0 0),(3,.ptr 1 0),(4,.ptr 2 0),(5,(sv sp)),(121,(.list (fl.map Fi.cv) (gnn fl.length) none)),(122,(.val (.int .i64 (fl.length:Int)))),(123,(.val (.int .i64 (i:Int))))]) (fun _=>[p8 l nn (k+2),.box (u0 fl (gnn fl.length)),.box (u0 [] false)]) (fun i=>i<=fl.length) (fun i=>fl.length - i) 0 (n_3 _) tu_ (extra0:=[]) rfl A1 uz_ ?_; intro i hi; refine F2 ?_; refine cC (fun h13=>?_) fun h13=>?_
   ·have hlt:i < fl.length:=by simp at h13; omega
    obtain ⟨y,hb,hym⟩:=a2j hlt;have hyb:=hm.byt y hym;refine b2j ?_; refine cC (fun h14=>?_) fun h14=>?_
    ·refine w8 ?_; refine B5 [0,1,2,3,4,5,6,7,8,9] 5 [0,0,0,4,0,16,60,126,255,511] [[0,1,2,3],[0,1],[0],[],[]] (hd1l:=[0,1,2,3,4]) (tll:=[(5,[0,1,2,3]),(6,[0,1]),(7,[0]),(8,[]),(9,[])]) d5 d5 rfl rfl rfl ?_; refine c0B ?_; refine b2D ?_; refine a8S ?_;refine A9 rfl rfl (b9 rfl Tryz.call73 ⟨tt,tt⟩ (c13 l nn (k+2) om_ hl _ 0 rfl) rfl ?_);intro ⟨s,p4⟩ ⟨hs,hq1,hq2⟩;dsimp only at hs hq1 hq2 ⊢;refine ⟨⟨V7,C8,a5D,a4v,tt⟩,?_⟩;refine d0T ?_;refine D5 rfl (d6 rfl (c7 rfl b81 j1 (a0d fl _ ⟨sp,y.b++s⟩ om_ _) rfl)) ⟨tt,?_⟩;refine a7d ?_; refine G3 ?_;exact ⟨_,A8 rfl a1Z,⟨(a5g fl ⟨sp,y.b++s⟩,p4),a1x rfl I0 (.old (Q4 _ _).old),(hm.mono om_).ins (hspa) (by show List.length _<=_; simp only [n_6]; omega),do_,do_⟩⟩
    ·exact b0n
   ·exact b9X
  ·intro p hp; subst hp; refine w8 ?_; refine d39 ?_; refine a6M ?_; refine chf rfl U4 ?_; refine chf rfl c6r ?_; refine d2n ?_; intro v hv;have hv8:v.length<=8:=P0 (.inl hv);refine d1G ?_; intro ⟨s,p4⟩ ⟨hs,hq1,hq2⟩;dsimp only at hs hq1 hq2 ⊢;refine d08 ?_; refine a7d ?_;exact d1x
theorem d0k (l:List Int) (nn:Bool) (k:Nat) (hat:k<=500000000) (hl:l.length<=maxLen) (B:Nat) (hB:6300<=B/\B<=1000000) (fl:List Fi) (hm:J1 B fl) (σ:List c5) (q:Nat) (hq:σ[q]? = some (p8 l nn k)):b8 CC 28 [.ptr q 0,(.agg (u0 fl (gnn fl.length)))] σ fun r τ=>∃ a:List Fi × Nat,r = .ret (.agg (u0 a.1 (gnn a.1.length)))/\τ=σ.set q (p8 l nn a.2)/\(J1 (B+1240) a.1/\k<=a.2/\a.2<=k+1080) :=
 a6C (c:=fun a:List Fi × Nat=>(.agg (u0 a.1 (gnn a.1.length)))) (S:=fun a=>p8 l nn a.2) hCC (fun a h=>by simp at h; subst h; exact Q4 _ _) (fun _=>Q4 _ _) (fun _=>D8 _ _ _) (D8 _ _ _) rfl (c7Q l nn k hat hl B hB fl hm) σ q hq
def R4:List Str:=[[109],[110]]
structure a2I (ev:List Va):Prop where
 sub:(ev.map Va.n).Sublist R4
 rng:∀ v∈ev,-9007199254740992<=v.v/\v.v<=9007199254740992
theorem a2I.len (h:a2I ev):ev.length<=2:=by
 have:=h.sub.length_le;rw [a0B] at this;exact this
theorem a2I.nlen (h:a2I ev):∀ v∈ev,v.n.length<=1000000000:=fun v hv=>by
 have h1:=h.sub.subset (List.mem_map_of_mem hv);have h2:∀ x∈R4,x.length<=1000000000:=by decide
 exact h2 _ h1
theorem d56 (h:l.Sublist R4):l=[]\/l=[[109]]\/l=[[110]]\/l=[[109],[110]]:=by
 rw [R4] at h
 rcases List.sublist_cons_iff.1 h with h | ⟨r,h1,h⟩ <;> rcases List.sublist_cons_iff.1 h with h | ⟨r',h2,h⟩ <;> simp at h <;> subst h <;> simp_all
theorem a2I.valid (h:a2I ev):a8u ev=true:=by
 have hl:=h.len;have hr:=h.rng;have d1:B1 [109]=true:=rfl;have d2:B1 [110]=true:=rfl
 rcases d56 h.sub with h1 | h1 | h1 | h1
 ·have:ev=[]:=by simpa using h1
  subst this; rfl
 ·rcases ev with _ | ⟨x,_ | ⟨y,t⟩⟩ <;> simp at h1
  have r1:=hr x si_;simp [a8u,evB,a3d,h1,d1,r1.1,r1.2]
 ·rcases ev with _ | ⟨x,_ | ⟨y,t⟩⟩ <;> simp at h1
  have r1:=hr x si_;simp [a8u,evB,a3d,h1,d2,r1.1,r1.2]
 ·rcases ev with _ | ⟨x,_ | ⟨y,_ | ⟨z,t⟩⟩⟩ <;> simp at h1
  have r1:=hr x si_;have r2:=hr y si_;have d3:Op.bytesLess [110] [109]=false:=rfl;simp [a8u,evB,a3d,h1.1,h1.2,d1,d2,d3,r1.1,r1.2,r2.1,r2.2]
theorem b5s (ev:List Va) (nn:Bool):p9 (.agg (L8 ev nn)):=o8 (cs:=L8 _ _) ⟨a0v _ _,tt⟩
theorem c9Y {L:Nat} {sel:List Nat} {l:List Va} {nn:Bool} {tok:Option Nat}:r8 L sel (.agg [.list (l.map Va.cv) nn tok]) (.agg (L8 l nn)) :=
 .agg rfl fun i c c' h h'=>by
  rcases i with _ | i
  ·injection h with h; injection h' with h'; subst h h'; exact W6 (f:=Va.cv) Va.pure _
  ·cases h
theorem a9s (l:List Int) (nn:Bool) (k:Nat) (hat:k<=500000000) (hl:l.length<=maxLen):b8 CC 33 [.ptr 0 0] [p8 l nn k] fun r τ=>∃ a:List Va × Nat,C6 1 τ r (.ret (.agg (L8 a.1 (gnn a.1.length)))) [p8 l nn a.2]/\(a2I a.1/\k<=a.2/\a.2<=k+4):=by
 refine (c4 Tryz.func33 rfl rfl ?_);refine z_0 ?_;refine cD (r6 rfl c1m rfl o4 ?_);refine U2 ?_;refine cD (r6 rfl c1m rfl o4 ?_);refine a2i ?_; refine cY (A3 (R4.map scv) rfl ⟨rfl,rfl,tt⟩ t_2 t_0 t_3 rfl rfl rfl rfl rfl rfl rfl rfl rfl) ?_; refine a0W ?_; refine A2 hCC 3 rfl (α:=List Va × Nat × Nat) (fun x=>[(0,.ptr 0 0),(2,.ptr 1 0),(3,.ptr 2 0),(6,(.list (R4.map scv) true none)),(7,(.val (.int .i64 (R4.length:Int)))),(8,(.val (.int .i64 (x.2.2:Int))))]) (fun x=>[p8 l nn x.2.1,.box (L8 [] false),.box [(.list (x.1.map Va.cv) (gnn x.1.length) (E7 x.1.length 3))],r7 x.1.length]) (fun x=>x.2.2<=R4.length/\x.1.length<=x.2.2/\(x.1.map Va.n).Sublist (R4.take x.2.2)/\(∀ v∈x.1,-9007199254740992<=v.v/\v.v<=9007199254740992)/\k<=x.2.1/\x.2.1<=k+x.2.2*2) (fun x=>R4.length - x.2.2) ⟨([],k,0),[0,1,2,9],⟨n_3 _,n_3 _,.slnil,(fun v hv=>by cases hv),n_4 _,n_4 _⟩,⟨rfl,rfl⟩,a8g,⟨.inr ⟨_,rfl,.same rfl I0⟩,.inr ⟨_,rfl,.same rfl (s8 ⟨O4 _ ([]:List Va) _,tt⟩)⟩,.inr ⟨_,rfl,.box ⟨.same rfl (O4 _ ([]:List Va) _),tt⟩⟩,.inl rfl,tt⟩⟩ ?_; intro ⟨ev,p,i⟩ ⟨hi,hel,hs,hr,hp1,hp2⟩;dsimp only at hi hel hs hr hp1 hp2 ⊢;have hL:R4.length=2:=rfl;refine F2 ?_; refine cC (fun h1=>?_) fun h1=>?_
 ·have hlt:i < R4.length:=by simp at h1; omega
  obtain ⟨y,hb,hym⟩:=a2j hlt;have htk:R4.take (i+1)=R4.take i++[y]:=by rw [b0l,hb]; rfl
  refine b2v ?_; refine M9 ?_;refine cD (b9 rfl b1a a2C (H8 l nn p _ 0 rfl om_ hl 2 3 om_) rfl ?_);intro _ _; refine i7 ?_; refine cC (fun h2=>?_) fun h2=>?_
  ·refine B5 [0,1,2,3,4,5,6,7,8,9,10] 5 [0,1,0,0,0,24,60,124,255,511,1023] [[0,1,2],[0,1],[0,1],[],[],[]] (hd1l:=[0,1,2,3,4]) (tll:=[(5,[0,1,2]),(6,[0,1]),(7,[0,1]),(8,[]),(9,[]),(10,[])]) d5 d5 rfl rfl rfl ?_; refine chf rfl (d6 rfl b7e) ?_; refine chf rfl (d6 rfl c1F) ?_; refine a6M ?_; refine chf rfl (d6 rfl (A3 ([0,1,-1,5,9007199254740992,-9007199254740992].map icv) rfl ⟨rfl,rfl,rfl,rfl,rfl,rfl,tt⟩ t_5 t_1 t_6 rfl rfl rfl rfl rfl rfl rfl rfl rfl)) ?_; refine D2 ?_;refine A9 rfl rfl (b9 rfl b9S j1 (a5b l nn (p+1) _ 0 rfl om_ hl [0,1,-1,5,9007199254740992,-9007199254740992] si_ si_) rfl ?_);intro v hv;have hvr : -9007199254740992<=v/\v<=9007199254740992:=by
    simp only [Q2,b0s,or_false] at hv;omega
   refine ⟨⟨c8t,c4d,C8,tt⟩,?_⟩;refine D5 rfl (d6 rfl (x9 #[(0,1),(1,1)] rfl j1 b8f c4N rfl ⟨_,rfl⟩ (fun w=>by kernel_rfl) rfl rfl)) ⟨⟨c8t,c4d,tt⟩,?_⟩;refine D5 rfl (d6 rfl (A3 [Va.cv (⟨y,v⟩:Va)] rfl ⟨tt,tt⟩ c5I b73 c4N rfl rfl rfl rfl rfl rfl rfl rfl rfl)) ⟨⟨c8t,c4d,tt⟩,?_⟩;refine A9 rfl rfl (D9 rfl tt tt rfl si_ R6 c5I b73 Tryz.typeInfo129 c4N rfl (.inr rfl) X0 (by have hb:Tryz.t129.bytes=24:=rfl; rw [hb]; first|omega|(simp; done)|(simp; omega)) H3 ((ev++[(⟨y,v⟩:Va)]).map Va.cv) (ev++[(⟨y,v⟩:Va)]).length si_ si_ ?_);refine ⟨tt,?_⟩;refine D5 rfl (d6 rfl b7e) ⟨tt,?_⟩;refine A9 rfl rfl (j3 rfl tt tt rfl c6 c07 (.inl rfl) rfl rfl (nb rfl) ?_);refine a3E ?_; refine b4y ?_;exact ⟨(ev++[(⟨y,v⟩:Va)],p+2,i+1),[0,1,2,4],⟨do_,do_,by simp only [n_6,n_7,I7]; omega,by dsimp only; rw [htk,b5x]; exact hs.append (.refl _),(fun x hx=>by
    rcases a0y.1 hx with hx | hx
    ·exact hr x hx
    ·rw [b9I.1 hx]; exact hvr),do_,do_⟩,⟨rfl,rfl⟩,a8g,⟨.inr ⟨_,rfl,.same rfl I0⟩,.inr ⟨_,rfl,.same rfl (s8 ⟨O4 _ ([]:List Va) _,tt⟩)⟩,.inr ⟨_,rfl,.box ⟨r8.grow (f:=Va.cv) (fun a=>⟨.val _,.val _,tt⟩) rfl,tt⟩⟩,.inr ⟨_,rfl,.same rfl s9⟩,tt⟩⟩
  ·refine a2h ?_;exact ⟨(ev,p+1,i+1),[0,1,2,3],⟨do_,do_,do_,by dsimp only; rw [htk]; exact hs.trans (List.sublist_append_left _ _),hr,do_,do_⟩,⟨rfl,rfl⟩,a8g,⟨.inr ⟨_,rfl,.same rfl I0⟩,.inr ⟨_,rfl,.same rfl (s8 ⟨O4 _ ([]:List Va) _,tt⟩)⟩,.inr ⟨_,rfl,.box ⟨r8.grow (f:=Va.cv) (fun a=>⟨.val _,.val _,tt⟩) rfl,tt⟩⟩,.inr ⟨_,rfl,.same rfl s9⟩,tt⟩⟩
 ·have hie:i=2:=by simp at h1; omega
  subst hie; refine Z5 ?_; refine cY c52 ?_;refine cD (j3 rfl tt tt rfl c6 b4X o4 rfl rfl (nb rfl) ?_);refine b1p ?_;exact ⟨_,A8 rfl ⟨tt,_,_,_,rfl,rfl,.inr ⟨_,b6r,b4X,nb rfl,rfl⟩⟩,⟨(ev,p),a1x rfl I0 c9Y,⟨hs,hr⟩,do_,do_⟩⟩
theorem a4r (l:List Int) (nn:Bool) (k:Nat) (hat:k<=500000000) (hl:l.length<=maxLen) (σ:List c5) (q:Nat) (hq:σ[q]? = some (p8 l nn k)):b8 CC 33 [.ptr q 0] σ fun r τ=>∃ a:List Va × Nat,r = .ret (.agg (L8 a.1 (gnn a.1.length)))/\τ=σ.set q (p8 l nn a.2)/\(a2I a.1/\k<=a.2/\a.2<=k+4) :=
 a6C (c:=fun a:List Va × Nat=>(.agg (L8 a.1 (gnn a.1.length)))) (S:=fun a=>p8 l nn a.2) hCC (fun a h=>by simp at h) (fun _=>b5s _ _) (fun _=>D8 _ _ _) (D8 _ _ _) rfl (a9s l nn k hat hl) σ q hq
theorem b3U (fl:List Fi) (ev:List Va):p9 (.tup [.agg (u0 fl (gnn fl.length)),.agg (L8 ev (gnn ev.length))]):=B2 (cs:=[_,_]) ⟨Q4 _ _,b5s _ _,tt⟩
theorem c3I (l:List Int) (nn:Bool) (k:Nat) (hat:k<=400000000) (hl:l.length<=maxLen):b8 CC 11 [.ptr 0 0] [p8 l nn k] fun r τ=>∃ a:(List Fi × List Va) × Nat,C6 1 τ r (.ret (.tup [.agg (u0 a.1.1 (gnn a.1.1.length)),.agg (L8 a.1.2 (gnn a.1.2.length))])) [p8 l nn a.2]/\(J1 7540 a.1.1/\a2I a.1.2/\k<=a.2/\a.2<=k+5500):=by
 refine (c4 Tryz.func11 rfl rfl ?_);refine z_0 ?_; refine d1b ?_; refine O3 ?_;refine cD (b9 rfl Tryz.call27 ⟨tt,tt⟩ (b60 l nn k om_ hl _ 0 rfl) rfl ?_);intro ⟨fl,p⟩ ⟨hm,hp1,hp2⟩;dsimp only at hm hp1 hp2 ⊢;refine c82 ?_; refine a2s ?_;refine cD (b9 rfl b1a a2C (H8 l nn p _ 0 rfl om_ hl 1 2 om_) rfl ?_);intro _ _; refine i7 ?_; refine cC (fun h1=>?_) fun h1=>?_
 ·refine z_5 ?_; refine cY a15 ?_;refine cD (b9 rfl Tryz.call28 j1 (d0k l nn (p+1) om_ hl 6300 ⟨om_,om_⟩ fl hm _ 0 rfl) rfl ?_);intro ⟨fl2,p2⟩ ⟨hm2,hq1,hq2⟩;dsimp only at hm2 hq1 hq2 ⊢;refine cD (j3 rfl tt tt rfl c6 a6h o4 rfl rfl (nb rfl) ?_);refine z_8 ?_; refine d2R ?_; refine a8S ?_;refine A9 rfl rfl (b9 rfl Tryz.call33 ⟨tt,tt⟩ (a4r l nn p2 om_ hl _ 0 rfl) rfl ?_);intro ⟨ev,p3⟩ ⟨he,hr1,hr2⟩;dsimp only at he hr1 hr2 ⊢;refine ⟨⟨V7,tt⟩,?_⟩;refine d33 ?_; refine d1z ?_; refine G3 ?_;exact ⟨_,l9 (rs:=[.cell 2 32,.cell 3 25]) (cs:=[_,_]) rfl d4T (n_2 rfl),⟨((fl2,ev),p3),a1x rfl I0 (.old (b3U _ _).old),hm2,he,do_,do_⟩⟩
 ·refine z_9 ?_; refine d2R ?_; refine a8S ?_;refine A9 rfl rfl (b9 rfl Tryz.call33 ⟨tt,tt⟩ (a4r l nn (p+1) om_ hl _ 0 rfl) rfl ?_);intro ⟨ev,p3⟩ ⟨he,hr1,hr2⟩;dsimp only at he hr1 hr2 ⊢;refine ⟨⟨V7,tt⟩,?_⟩;refine d33 ?_; refine d1z ?_; refine G3 ?_;exact ⟨_,l9 (rs:=[.cell 2 32,.cell 3 25]) (cs:=[_,_]) rfl d4T (n_2 rfl),⟨((fl,ev),p3),a1x rfl I0 (.old (b3U _ _).old),hm.mono om_,he,do_,do_⟩⟩
theorem c6y (l:List Int) (nn:Bool) (k:Nat) (hat:k<=400000000) (hl:l.length<=maxLen) (σ:List c5) (q:Nat) (hq:σ[q]? = some (p8 l nn k)):b8 CC 11 [.ptr q 0] σ fun r τ=>∃ a:(List Fi × List Va) × Nat,r = .ret (.tup [.agg (u0 a.1.1 (gnn a.1.1.length)),.agg (L8 a.1.2 (gnn a.1.2.length))])/\τ=σ.set q (p8 l nn a.2)/\(J1 7540 a.1.1/\a2I a.1.2/\k<=a.2/\a.2<=k+5500) :=
 a6C (c:=fun a:(List Fi × List Va) × Nat=>(.tup [.agg (u0 a.1.1 (gnn a.1.1.length)),.agg (L8 a.1.2 (gnn a.1.2.length))])) (S:=fun a=>p8 l nn a.2) hCC (fun a h=>by simp at h) (fun _=>b3U _ _) (fun _=>D8 _ _ _) (D8 _ _ _) rfl (c3I l nn k hat hl) σ q hq
noncomputable def CF (fl:List Fi) (ev:List Va) (k:Ky):Str:=S5 fl (H0 fl).2.1 (H0 fl).2.2 ev k
theorem a2I.vr (h:a2I ev):∀ v∈ev,-9223372036854775808<=v.v/\v.v<=9223372036854775807:=fun v hv=>by have:=h.rng v hv; omega
def b8N (q:Nm) (x:Src):List De:=x.decls.filter fun d=>decide (deK x d=q)
theorem a4Y (k:Int) (o pa pk:Str):∀ (l:List De) (j:Nat) (e:En),(fiD k o pa pk l j e).k=e.k/\(fiD k o pa pk l j e).o=e.o/\((fiD k o pa pk l j e).p=e.p\/(fiD k o pa pk l j e).p=pk)/\(fiD k o pa pk l j e).ct=e.ct+((l.filter fun d=>d.k == k && decide (d.name=o)).length:Int)
 | [],_,e=>⟨rfl,rfl,.inl rfl,by simp [fiD]⟩
 | d::l,j,e=>by
  unfold fiD;rw [a9N]
  split
  ·split
   ·obtain ⟨h1,h2,h3,h4⟩:=a4Y k o pa pk l (j+1) ⟨pk,e.o,e.k,pa,j,e.ct+1⟩;exact ⟨h1,h2,.inr (h3.elim id id),by rw [h4,n_7]; simp only; omega⟩
   ·obtain ⟨h1,h2,h3,h4⟩:=a4Y k o pa pk l (j+1) ⟨e.p,e.o,e.k,e.pl,e.ix,e.ct+1⟩;exact ⟨h1,h2,h3,by rw [h4,n_7]; simp only; omega⟩
  ·exact a4Y k o pa pk l (j+1) e
theorem b9d {k:Int} (h:k≠3->x.pkg=p):(x.decls.filter fun d=>d.k == k && decide (d.name=o))=b8N (H9 k p o) x:=by
 unfold b8N;refine List.filter_congr fun d _=>?_;rw [Bool.eq_iff_iff];simp only [Y0,beq_iff_eq,a5s,deK,H9,Nm.mk.injEq];constructor
 ·rintro ⟨rfl,rfl⟩;refine ⟨rfl,?_,rfl⟩
  split
  ·rfl
  ·rename_i h3; exact h h3
 ·rintro ⟨h1,_,h3⟩;exact ⟨h1,h3⟩
theorem c5i {k:Int} (h:k≠3) (hp:x.pkg≠p):b8N (H9 k p o) x=[]:=by
 unfold b8N;rw [List.filter_eq_nil_iff];intro d _ he;simp only [a5s,deK,H9,Nm.mk.injEq] at he;obtain ⟨h1,h2,_⟩:=he;rw [h1,if_neg h,if_neg h] at h2;exact hp h2
theorem a7X (k:Int) (p o:Str):∀ (L:List (Str × Src)) (e:En),(k≠3->e.p=p)->(fiL k p o L e).k=e.k/\(fiL k p o L e).o=e.o/\(k≠3->(fiL k p o L e).p=p)/\(fiL k p o L e).ct=e.ct+((L.flatMap fun x=>b8N (H9 k p o) x.2).length:Int)
 | [],e,h=>⟨rfl,rfl,h,by simp [fiL]⟩
 | x::L,e,h=>by
  unfold fiL;rw [b5u,n_6]
  split
  ·rename_i hc;simp only [Y0,bne_iff_ne,Bool.not_eq_true',decide_eq_false_iff_not,ne_eq] at hc;obtain ⟨h1,h2,h3,h4⟩:=a7X k p o L e h;exact ⟨h1,h2,h3,by rw [h4,c5i hc.1 hc.2]; simp⟩
  ·rename_i hc;have hp:k≠3->x.2.pkg=p:=fun h3=>by
    simp only [Y0,bne_iff_ne,Bool.not_eq_true',decide_eq_false_iff_not,ne_eq,not_and,Decidable.not_not] at hc;exact hc h3
   obtain ⟨g1,g2,g3,g4⟩:=a4Y k o x.1 x.2.pkg x.2.decls 0 e;obtain ⟨h1,h2,h3,h4⟩:=a7X k p o L (fiD k o x.1 x.2.pkg x.2.decls 0 e) fun h3=>g3.elim (fun e1=>e1.trans (h h3)) fun e1=>e1.trans (hp h3);exact ⟨h1.trans g1,h2.trans g2,h3,by rw [h4,g4,b9d hp]; omega⟩
theorem b6p (q:Nm):∀ fl:List Fi,(occ q fl).length=((F8 fl).flatMap fun x=>b8N q x.2).length
 | []=>rfl
 | f::fl=>by
  have ih:=b6p q fl;have e1:occ q (f::fl)=b5H q f++occ q fl:=by simp [occ]
  rw [e1,n_6,ih];unfold b5H F8;rw [List.filterMap_cons,show b1U f.p f.b=a2G f from rfl];cases a2G f with
  | none=>simp
  | some x=>simp [b8N]
theorem b6q {x:Str × Src} (h:x∈F8 fl):∃ f∈fl,a2G f=some x.2:=by
 obtain ⟨f,hf,he⟩:=List.mem_filterMap.1 h;rw [Q1] at he;obtain ⟨s,hs,rfl⟩:=he;exact ⟨f,hf,hs⟩
theorem b7Y (h:a2G f=some x):a7F x:=by
 unfold a2G at h;split at h
 ·exact b3c h
 ·cases h
theorem c1Q:(F8 fl).length<=fl.length/\∀ x∈F8 fl,x.2.decls.length<=100000:=by
 refine ⟨List.length_filterMap_le _ _,fun x hx=>?_⟩;obtain ⟨f,_,hs⟩:=b6q hx;have:=(b7Y hs).decl;omega
def a7H (e:En):Ky:=if (e.k == 3)=true then ⟨3,e.o,[]⟩ else ⟨e.k,e.p,e.o⟩
structure EnF (fl:List Fi) (e:En) (q:Nm):Prop where
 key:a0J (a7H e)=true
 cf:∀ (ev:List Va) (fs:List Fi),C2 fs=0->CF fs ev (a7H e)=d5i (occ q fs)
 ct:e.ct=((occ q fl).length:Int)
 pos:occ q fl≠[]
theorem c3d {e:En} (h:EnP (F8 fl) e):∃ q,EnF fl e q:=by
 obtain ⟨x,hx,d,hd,rfl⟩:=h;obtain ⟨f,hf,hs⟩:=b6q hx;have hG:=b7Y hs;have hD:=hG.dec d hd;have hi:d.k≠3->(⟨if d.k=3 then [] else x.2.pkg,d.name,d.k,[],0,0⟩:En).p=x.2.pkg:=fun h3=>if_neg h3;obtain ⟨h1,h2,h3,h4⟩:=a7X d.k x.2.pkg d.name (F8 fl) ⟨if d.k=3 then [] else x.2.pkg,d.name,d.k,[],0,0⟩ hi;change (fiE (F8 fl) d.k x.2.pkg d.name).k=d.k at h1;change (fiE (F8 fl) d.k x.2.pkg d.name).o=d.name at h2;change d.k≠3->(fiE (F8 fl) d.k x.2.pkg d.name).p=x.2.pkg at h3;change (fiE (F8 fl) d.k x.2.pkg d.name).ct=0+_ at h4;generalize fiE (F8 fl) d.k x.2.pkg d.name=e at h1 h2 h3 h4;have hK:a7H e=if d.k=3 then ⟨3,d.name,[]⟩ else ⟨d.k,x.2.pkg,d.name⟩:=by
  unfold a7H;rw [h1,h2];by_cases h:d.k=3
  ·rw [if_pos h,if_pos V8]
  ·rw [if_neg h,if_neg V8,h3 h]
 refine ⟨H9 d.k x.2.pkg d.name,?_,fun ev fs hv=>?_,by rw [h4,b6p]; omega,fun h0=>?_⟩
 ·rcases hD.kind with h | h | h
  ·rw [hK.trans (if_neg om_),h]; unfold a0J; rw [if_pos si_]; simp [hG.pkg.1,(hD.name om_).1]
  ·rw [hK.trans (if_neg om_),h]; unfold a0J; rw [if_pos si_]; simp [hG.pkg.1,(hD.name om_).1]
  ·rw [hK.trans (if_pos h)]; unfold a0J; rw [if_neg si_,if_pos si_]; simp [hD.path h]
 ·unfold CF S5
  rcases hD.kind with h | h | h
  ·rw [hK.trans (if_neg om_),h,if_pos rfl]; exact a8f hv 1 _ _
  ·rw [hK.trans (if_neg om_),h,if_neg si_,if_pos rfl]; exact a8f hv 2 _ _
  ·rw [hK.trans (if_pos h),h,if_neg si_,if_neg si_,if_pos rfl,a8f hv 3 [] d.name]; rfl
 ·have:(x.2,d)∈occ (H9 d.k x.2.pkg d.name) fl:=by
   refine List.mem_flatMap.2 ⟨f,hf,?_⟩;unfold b5H;rw [hs];exact K3.2 ⟨d,b6D.2 ⟨hd,by simp [deK]⟩,rfl⟩
  rw [h0] at this;cases this
def a1F (f:Fi):Fi:=if a11 f.p=true then ⟨f.p,a4u++f.b⟩ else f
theorem b33 (f:Fi):(a1F f).p=f.p:=by unfold a1F; split <;> rfl
theorem c9E (h:f.b.length<=16376):a2G (a1F f)=a2G f:=by
 unfold a2G;rw [b33];unfold a1F
 split
 ·exact c3b f.b h
 ·rfl
theorem c1h (q:Nm):∀ {fl:List Fi},(∀ f∈fl,f.b.length<=16376)->occ q (fl.map a1F)=occ q fl
 | [],_=>rfl
 | f::fl,h=>by
  have ih:=c1h q (fl:=fl) fun g hg=>h g (a9r _ hg);unfold occ at ih ⊢;rw [a9D,b5u,b5u,ih];unfold b5H;rw [c9E (h f b9W)]
theorem J1.mov (h:J1 B fl):J1 (B+8) (fl.map a1F) where
 srt:=by
  unfold b2b;rw [List.pairwise_map];exact h.srt.imp fun {a b} hab=>by rw [b33,b33]; exact hab
 pth:=fun f hf=>by
  obtain ⟨g,hg,rfl⟩:=K3.1 hf;rw [b33]; exact h.pth g hg
 byt:=fun f hf=>by
  obtain ⟨g,hg,rfl⟩:=K3.1 hf;have:=h.byt g hg;unfold a1F
  split
  ·rw [n_6,show a4u.length=8 from rfl]; omega
  ·omega
theorem c2T {e:En} (hm:J1 B fl) (hB:B<=16376) (h:EnP (F8 fl) e):a0J (a7H e)=true/\CF fl ev (a7H e)=CF (fl.map a1F) ev (a7H e)/\CF fl ev (a7H e)≠[45]/\(CF fl ev (a7H e)=[63]↔1 < e.ct):=by
 obtain ⟨q,hF⟩:=c3d h;have hs:C2 (fl.map a1F)=0:=hm.mov.valid om_;have hr:C2 fl=0:=hm.valid om_;have e1:=hF.cf ev fl hr;have e2:=hF.cf ev (fl.map a1F) hs;rw [c1h q fun f hf=>b83 (hm.byt f hf) hB] at e2;refine ⟨hF.key,e1.trans e2.symm,?_,?_⟩
 ·rw [e1];have:=hF.pos
  rcases hq:occ q fl with _ | ⟨⟨x,d⟩,_ | ⟨y,t⟩⟩
  ·exact absurd hq this
  ·intro h; cases h
  ·intro h; cases h
 ·rw [e1,hF.ct];have:=hF.pos
  rcases hq:occ q fl with _ | ⟨⟨x,d⟩,_ | ⟨y,t⟩⟩
  ·exact absurd hq this
  ·constructor
   ·intro h; cases h
   ·intro h; simp at h
  ·constructor
   ·intro _; simp; omega
   ·intro _; rfl
theorem b3Q:∀ f∈woF fl p,f∈fl/\f.p≠p:=fun f hf=>by
 obtain ⟨h1,h2⟩:=b6D.1 hf;exact ⟨h1,by simpa using h2⟩
theorem b0a (x:Fi):∀ l:List Fi,wiF x true l=l
 | []=>rfl
 | y::l=>by
  unfold wiF;rw [if_neg si_,b0a x l]
theorem b31 {x f:Fi}:∀ {l:List Fi},f∈wiF x false l->f=x\/f∈l
 | [],h=>by
  unfold wiF at h;rw [if_neg si_] at h;exact .inl (b9I.1 h)
 | y::l,h=>by
  unfold wiF at h;split at h
  ·rw [b0a] at h
   rcases Q2.1 h with h | h
   ·exact .inl h
   ·exact .inr h
  ·rcases Q2.1 h with rfl | h
   ·exact .inr b9W
   ·exact (b31 h).imp id (a9r _)
theorem c0q {x:Fi}:∀ {l:List Fi},b2b l->(∀ f∈l,f.p≠x.p)->b2b (wiF x false l)
 | [],_,_=>List.pairwise_singleton _ _
 | y::l,h,hn=>by
  obtain ⟨h1,h2⟩:=a8e.1 h;unfold wiF
  split
  ·rename_i hc;have hc:Op.bytesLess x.p y.p=true:=by simpa using hc
   rw [b0a];refine a8e.2 ⟨fun f hf=>?_,h⟩
   rcases Q2.1 hf with rfl | hf
   ·exact hc
   ·exact a7K hc (h1 f hf)
  ·rename_i hc;have hc:¬ Op.bytesLess x.p y.p=true:=by simpa using hc
   refine a8e.2 ⟨fun f hf=>?_,c0q h2 fun g hg=>hn g (a9r _ hg)⟩
   rcases b31 hf with rfl | hf
   ·exact b9M (by simpa using hc) fun e=>hn y b9W e.symm
   ·exact h1 f hf
theorem c0Q {x:Fi}:∀ {l:List Fi},(∀ f∈l,f.p≠x.p)->C7 (wiF x false l) x.p=some x.b
 | [],_=>by simp [wiF,C7]
 | y::l,hn=>by
  unfold wiF
  split
  ·simp [C7]
  ·have ih:=c0Q (x:=x) (l:=l) fun g hg=>hn g (a9r _ hg);unfold C7 at ih ⊢;rw [List.find?_cons_of_neg (by simpa using hn y b9W)];exact ih
def a1U (fl:List Fi) (b:Str):List Fi:=wiF ⟨[99],b⟩ false (woF fl [99])
theorem c3N {b:Str} (hm:J1 B fl) (hB:B<=16384) (hb:b.length<=60):a7O fl [99] b=(a1U fl b,0)/\C2 (a1U fl b)=0/\(a1U fl b).length<=11/\CF (a1U fl b) ev ⟨4,[99],[]⟩=[61]++b/\∀ f∈a1U fl b,f.p.length<=1000000000:=by
 have hl:=hm.len;have hr:C2 fl=0:=hm.valid hB;have hwl:=c7J fl [99];have hul:(a1U fl b).length<=11:=by
  have:=b4d ⟨[99],b⟩ (woF fl [99]) false;unfold a1U; omega
 have hmem:∀ f∈a1U fl b,(C1 f.p=true/\f.p.length<=1000)/\f.b.length<=16384:=fun f hf=>by
  rcases b31 hf with rfl | hf
  ·exact ⟨⟨show C1 [99]=true by decide,show ([99]:Str).length<=1000 by decide⟩,by show b.length<=_; omega⟩
  ·exact ⟨b0h _ (hm.pth f (b3Q f hf).1),b83 (hm.byt f (b3Q f hf).1) hB⟩
 have hsrt:b2b (a1U fl b):=c0q (hm.srt.sublist List.filter_sublist) fun f hf=>(b3Q f hf).2;have hv:C2 (a1U fl b)=0:=by
  unfold C2;rw [if_neg om_];exact b8D (fun f hf=>⟨(hmem f hf).1.1,(hmem f hf).2⟩) hsrt fun g hg=>by cases hg
 refine ⟨?_,hv,hul,?_,fun f hf=>by have:=(hmem f hf).1.2; omega⟩
 ·unfold a7O;rw [if_neg (by rw [hr]; simp),if_neg de_,if_neg (by show ¬ (_\/64 < (a1U fl b).length); omega)];rfl
 ·unfold CF S5;rw [if_neg si_,if_neg si_,if_neg si_,if_pos rfl];have:=c0Q (x:=⟨[99],b⟩) (l:=woF fl [99]) fun f hf=>(b3Q f hf).2;show (if (C7 (a1U fl b) [99]).isSome then [61]++(C7 (a1U fl b) [99]).getD [] else [45])=_;unfold a1U;rw [show C7 (wiF ⟨[99],b⟩ false (woF fl [99])) [99]=some b from this];rfl
theorem d0A (hk:a0J k=true):k.a.length<=1000000000/\k.b.length<=1000000000:=by
 unfold a0J at hk;split at hk
 ·simp only [Y0] at hk;have:=D7 hk.1; have:=D7 hk.2; omega
 ·split at hk
  ·simp only [Y0,a5s] at hk;have:=a1j hk.1; rw [hk.2]; exact ⟨om_,si_⟩
  ·split at hk
   ·simp only [Y0,a5s] at hk;have:=D7 hk.1; rw [hk.2]; exact ⟨om_,si_⟩
   ·cases hk
theorem b0f (hv:C2 fl=0) (hp:∀ f∈fl,f.p.length<=1000000000) (he:a2I ev) (hk:a0J k=true) (σ:List c5):b8 CC 14 [.agg (u0 fl (gnn fl.length)),.agg (L8 ev (gnn ev.length)),.agg k.cells] σ fun r τ=>r = .ret (.tup [sv (CF fl ev k),.val (.int .i64 0)])/\τ=σ:=by
 have hl:=he.len;have h:=a6c fl (gnn fl.length) hp ev (gnn ev.length) he.nlen he.vr om_ k (d0A hk) σ;rw [b9c hv he.valid hk] at h;exact h
def a57 (fl:List Fi) (i:Nat):List Fi:=(fl.take i).map a1F++fl.drop i
theorem b62 (fl:List Fi) (i:Nat):(a57 fl i).length=fl.length:=by unfold a57; simp; omega
theorem b0q (h:fl[i]? = some y):(a57 fl i)[i]? = some y:=by
 obtain ⟨hlt,rfl⟩:=n_0.1 h;unfold a57;rw [a0a K9];simp;rw [show i+(i - min i fl.length)=i by omega];exact a1q hlt
theorem b2o (h:fl[i]? = some y):(a57 fl i).set i (a1F y)=a57 fl (i+1):=by
 obtain ⟨hlt,rfl⟩:=n_0.1 h;unfold a57;rw [b0l,h,b5x,Q9 hlt,List.set_append,if_neg K9,a0B,a5t,show i - min i fl.length=0 by omega,n_9];rfl
theorem c3O (h:fl[i]? = some y) (hs:a11 y.p=false):a57 fl (i+1)=a57 fl i:=by
 have h1:=b2o h;rw [show a1F y=y by unfold a1F; rw [if_neg (by rw [hs]; exact a9v)]] at h1;rw [<- h1];have h2:=b0q h;obtain ⟨h3,h4⟩:=n_0.1 h2
 conv=>lhs; rw [<- h4]
 exact List.set_getElem_self h3
theorem c6o (h:fl.length<=i):a57 fl i=fl.map a1F:=by unfold a57; rw [Y9 h,U5 h,a0P]
theorem b2t (l:List Fi):∀ r∈l.map Fi.cv,∀ c∈r,p9 c:=fun r hr c hc=>(A6 (f:=Fi.cv) (fun _=>S2.all ⟨.val _,.val _,tt⟩) _) r hr c hc
theorem c60 (n:Nat) (l:List Fi):F5 n (.vec 2 (l.map Fi.cv)):=fun r hr c hc=>(b2t l r hr c hc).old
theorem b5b {f:Fi}:∀ {fl:List Fi},(fl.Pairwise fun a b=>a.p≠b.p)->f∈fl->C7 fl f.p=some f.b
 | [],_,h=>by cases h
 | y::fl,hp,h=>by
  obtain ⟨h1,h2⟩:=a8e.1 hp;unfold C7
  rcases Q2.1 h with rfl | h
  ·rw [List.find?_cons_of_pos si_]; rfl
  ·rw [List.find?_cons_of_neg (by simpa using h1 f h)];exact b5b h2 h
theorem c3Q (h:C2 fl=0) (hf:f∈fl):C7 fl f.p=some f.b:=b5b (d1F h) hf
theorem map_set {x:Fi}:(fl.map Fi.cv).set i (Fi.cv x)=(fl.set i x).map Fi.cv:=by rw [List.map_set]
theorem b11 (l:List Int) (nn:Bool) (hl:l.length<=maxLen) (s:Str):b8 CC 4 [.list (l.map icv) nn none,sv s] [] fun r τ=>∃ _:Unit,a08 0 τ r (.ret (.val (.bool true)))/\True:=by
 refine (c4 Tryz.func4 rfl rfl ?_);refine a1T ?_; refine cY (x9 #[(0,1),(1,1)] rfl ⟨tt,tt⟩ c7D Tryz.zeroValue29 rfl ⟨_,rfl⟩ (fun w=>by kernel_rfl) rfl rfl) ?_;refine cD (a5W rfl tt c6 o4 ?_);refine M9 ?_;refine cD (b9 rfl Tryz.call11 ⟨tt,tt⟩ (c6y l nn 0 om_ hl _ 0 rfl) rfl ?_);intro ⟨⟨fl,ev⟩,q⟩ ⟨hm,he,hq1,hq2⟩;dsimp only at hm he hq1 hq2 ⊢;have hfl:=hm.len;have hrv:=hm.valid om_;refine c2R ?_; refine d1b ?_;refine cD (j3 rfl tt tt rfl c6 a6h o4 rfl rfl (nb rfl) ?_);refine cD (j3 rfl tt tt rfl c6 b4X o4 rfl rfl (nb rfl) ?_);refine i7 ?_; refine W7 hCC (α:=Str) (fun b=>[(1,(sv b)),(6,.ptr 1 0),(7,.ptr 2 0)]) (fun _=>[p8 l nn q,.box (u0 fl (gnn fl.length)),.box (L8 ev (gnn ev.length))]) (fun b=>b.length<=60) A1 uz_ ?_ ?_
 ·
  refine z_1 ?_; refine a84 ?_; refine cC (fun h1=>?_) fun h1=>?_
  ·have hb60:60 < s.length:=by simp at h1; omega
   refine z_5 ?_; refine cY (G8 (h:=60) rfl tt rfl t_4 rfl ⟨rfl,_,_,rfl,by first|omega|(simp at hg; omega),by first|omega|(simp at hg; omega)⟩ om_ om_) ?_; refine z_2 ?_;exact ⟨(s.take 60),_,(show (s.take 60).length<=60 by rw [a5t]; omega),tu_,rfl⟩
  ·have hb60:¬ 60 < s.length:=by simp at h1; omega
   refine i8 ?_;exact ⟨s,_,om_,tu_,rfl⟩
 ·intro bb hbb; refine b0G ?_;refine cD (r6 rfl b3L rfl o4 ?_);refine d5k ?_; refine c66 hCC (α:=Unit) (fun _=>[(1,(sv bb)),(6,.ptr 1 0),(7,.ptr 2 0),(8,.ptr 3 0)]) (fun _=>[p8 l nn q,.box (u0 fl (gnn fl.length)),.box (L8 ev (gnn ev.length)),.box (u0 (fl.map a1F) (gnn (fl.map a1F).length))]) (fun _=>True) A1 ?_ ?_
  ·
   refine c7Y ?_;by_cases hne:fl=[]
   ·subst hne;refine cD (c9I rfl rfl tt rfl R6 a27 a1S b9N a34 rfl d2x si_ 0 (by rfl) ?_);refine b8Q ?_; refine U2 ?_; refine a0U ?_; refine o0 hCC (α:=Nat) (fun i=>[(1,(sv bb)),(6,.ptr 1 0),(7,.ptr 2 0),(8,.ptr 3 0),(41,(.list [] false none)),(42,(.val (.int .i64 (0)))),(43,(.val (.int .i64 (i:Int))))]) (fun i=>[p8 l nn q,.box (u0 ([]:List Fi) (gnn ([]:List Fi).length)),.box (L8 ev (gnn ev.length)),.box [(.list [] false none)],.dead]) (fun i=>i<=([]:List Fi).length) (fun i=>([]:List Fi).length - i) 0 (n_3 _) tu_ (extra0:=[]) rfl A1 uz_ ?_; intro i hi;have hi0:i=0:=by simpa using hi
    subst hi0; refine F2 ?_; refine cC (fun h2=>?_) fun h2=>?_
    ·exfalso;simp at h2
    ·refine z6 ?_;exact ⟨(),tt,d5z,⟨.same (by repeat' (first|exact .val _|exact t7 _ ([]:List Fi) false|exact tt|exact t7 _ _ _|exact O4 _ _ _|exact V1 _ _ _ _ | refine s8 ?_ | refine ⟨?_,?_⟩)),.same (by repeat' (first|exact .val _|exact t7 _ ([]:List Fi) false|exact tt|exact t7 _ _ _|exact O4 _ _ _|exact V1 _ _ _ _ | refine s8 ?_ | refine ⟨?_,?_⟩)),.same (by repeat' (first|exact .val _|exact t7 _ ([]:List Fi) false|exact tt|exact t7 _ _ _|exact O4 _ _ _|exact V1 _ _ _ _ | refine s8 ?_ | refine ⟨?_,?_⟩)),.same (by repeat' (first|exact .val _|exact t7 _ ([]:List Fi) false|exact tt|exact t7 _ _ _|exact O4 _ _ _|exact V1 _ _ _ _ | refine s8 ?_ | refine ⟨?_,?_⟩)),tt⟩⟩
   ·refine cD (c0w fl.length rfl rfl tt rfl R6 a27 a1S b9N a34 rfl (by rw [a0B]; exact b13.2 hne) d2x (by rw [a0B]; omega) (by rw [a0B]) ?_);refine b8Q ?_; refine U2 ?_; refine c4u ?_; refine cY (a2p rfl tt rfl a27 rfl rfl) ?_; refine a1n ?_; refine o0 hCC (α:=Nat) (fun i=>[(1,(sv bb)),(6,.ptr 1 0),(7,.ptr 2 0),(8,.ptr 3 0),(41,(.vec 4 0 fl.length)),(42,(.val (.int .i64 (fl.length:Int)))),(43,(.val (.int .i64 (i:Int))))]) (fun i=>[p8 l nn q,.box (u0 fl (gnn fl.length)),.box (L8 ev (gnn ev.length)),.box [(.vec 4 0 fl.length)],(.vec 2 ((a57 fl i).map Fi.cv))]) (fun i=>i<=fl.length) (fun i=>fl.length - i) 0 (n_3 _) tu_ (extra0:=[]) rfl A1 uz_ ?_; intro i hi; refine F2 ?_; refine cC (fun h2=>?_) fun h2=>?_
    ·have hlt:i < fl.length:=by simp at h2; omega
     obtain ⟨y,hb⟩:∃ y,fl[i]? = some y:=⟨fl[i]'hlt,si_⟩;have hyb:=hm.byt y (n_1 hb);refine Z0 ?_; refine cY (Q8 rfl tt tt rfl rfl a27 a1S rfl om_ om_) ?_; refine cY (b7T rfl tt rfl c7s a1S rfl (d3Y (j8 (b0q hb)) om_) (nb rfl)) ?_; refine c8D ?_; refine U2 ?_; refine a4m ?_; refine cY (c7 rfl Tryz.call24 ⟨tt,tt⟩ (a50 y.p (hm.plen y (n_1 hb)) _) rfl) ?_; refine i7 ?_; refine cC (fun h3=>?_) fun h3=>?_
     ·have hst:((a57 fl i).map Fi.cv).set (0+(i:Int).toNat) (Fi.cv ⟨y.p,a4u++y.b⟩)=(a57 fl (i+1)).map Fi.cv:=by
       rw [show 0+(i:Int).toNat=i by omega,map_set,<- b2o hb];unfold a1F;rw [if_pos h3]
      refine c7Y ?_; refine cY j7 ?_; refine a4m ?_; refine cY (I6 rfl rfl tt rfl rfl (by show 8+y.b.length<=_; omega)) ?_; refine cY (Q8 rfl tt tt rfl rfl a27 a1S rfl om_ om_) ?_; refine cY (c2K rfl tt rfl b4e rfl t_0 de_) ?_;refine cD (N8 ((a57 fl (i+1)).map Fi.cv) rfl tt tt rfl c6 t_0 (.inl rfl) rfl (d3Y (j8 (b0q hb)) om_) rfl (nb rfl) (by exact hst) rfl ?_);refine a2F ?_;exact ⟨(i+1),_,⟨om_,om_⟩,tu_,rfl⟩
     ·rw [<- c3O hb h3];exact b0n
    ·have hge:fl.length<=i:=by simp at h2; omega
     have hupd:=c6o hge;have hgn:gnn (fl.map a1F).length=true:=c7j (by simpa using hne);refine z6 ?_;exact ⟨(),tt,d5z,⟨.same (by repeat' (first|exact .val _|exact t7 _ ([]:List Fi) false|exact tt|exact t7 _ _ _|exact O4 _ _ _|exact V1 _ _ _ _ | refine s8 ?_ | refine ⟨?_,?_⟩)),.same (by repeat' (first|exact .val _|exact t7 _ ([]:List Fi) false|exact tt|exact t7 _ _ _|exact O4 _ _ _|exact V1 _ _ _ _ | refine s8 ?_ | refine ⟨?_,?_⟩)),.same (by repeat' (first|exact .val _|exact t7 _ ([]:List Fi) false|exact tt|exact t7 _ _ _|exact O4 _ _ _|exact V1 _ _ _ _ | refine s8 ?_ | refine ⟨?_,?_⟩)),.box ⟨by rw [hgn,<- hupd]; exact .vecs (n_4 _) rfl (by simp [b62]) (by rw [b0H]; exact Y9 (by simp [b62])) (b2t _),tt⟩,tt⟩⟩
  ·intro _ _;have hms:=hm.mov;refine a1R ?_; refine cY a15 ?_;refine cD (b9 rfl Tryz.call25 ⟨tt,tt⟩ (b7v fl (gnn fl.length) om_ hm.plen (fun p b hd=>by obtain ⟨f,hf,hb⟩:=b3y hd; rw [<- hb]; have:=hm.byt f hf; omega) (fun _ f hf=>c3Q hrv hf) (fun _=>⟨by have:=(c1Q (fl:=fl)).1; omega,c1Q.2⟩) _) rfl ?_);intro out hout;obtain ⟨hE,hO⟩:=hout hrv;refine cY c6e ?_; refine a1n ?_; refine o0 hCC (α:=Nat) (fun i=>[(1,(sv bb)),(6,.ptr 1 0),(7,.ptr 2 0),(8,.ptr 3 0),(61,(.list (out.map En.cells) (gnn out.length) none)),(62,(.val (.int .i64 (out.length:Int)))),(63,(.val (.int .i64 (i:Int))))]) (fun _=>[p8 l nn q,.box (u0 fl (gnn fl.length)),.box (L8 ev (gnn ev.length)),.box (u0 (fl.map a1F) (gnn (fl.map a1F).length))]) (fun i=>i<=out.length) (fun i=>out.length - i) 0 (n_3 _) tu_ (extra0:=[]) rfl A1 uz_ ?_; intro i hi; refine F2 ?_; refine cC (fun h4=>?_) fun h4=>?_
   ·have hlt:i < out.length:=by simp at h4; omega
    obtain ⟨e,hb⟩:∃ e,out[i]? = some e:=⟨out[i]'hlt,si_⟩;obtain ⟨hk0,g1,g2,g3⟩:=c2T (ev:=ev) hm om_ (hE e (n_1 hb));refine a1O ?_; refine cY (t6 rfl tt tt rfl rfl a5k t_9 om_ (j8 hb) rfl) ?_; refine cY (T4 rfl tt rfl c2Z t_9 (nb rfl)) ?_;refine cD (r6 rfl a7n rfl o4 ?_);refine cD (j3 rfl tt tt rfl c6 t_9 o4 rfl rfl (nb rfl) ?_);refine U2 ?_; refine a1M ?_; refine a39 ?_; refine a39 ?_; refine cY (x9 #[(0,1),(1,1),(2,1)] rfl B9 b9p b88 rfl ⟨_,rfl⟩ (fun w=>by kernel_rfl) rfl rfl) ?_; refine d1p ?_; refine i7 ?_; refine W7 hCC (α:=Ky) (fun _=>[(1,(sv bb)),(6,.ptr 1 0),(7,.ptr 2 0),(8,.ptr 3 0),(12,.ptr 4 0),(13,.ptr 5 0),(61,(.list (out.map En.cells) (gnn out.length) none)),(62,(.val (.int .i64 (out.length:Int)))),(63,(.val (.int .i64 (i:Int))))]) (fun k=>[p8 l nn q,.box (u0 fl (gnn fl.length)),.box (L8 ev (gnn ev.length)),.box (u0 (fl.map a1F) (gnn (fl.map a1F).length)),.box e.cells,.box k.cells]) (fun k=>k=a7H e) A1 uz_ ?_ ?_
    ·
     refine z_0 ?_; refine a1M ?_; refine G9 ?_; refine cC (fun h5=>?_) fun h5=>?_
     ·have hk3:(e.k == 3)=true:=h5;refine A0 ?_; refine a39 ?_; refine cY (x9 #[(0,1),(1,1),(2,1)] rfl ⟨rfl,tt,tt⟩ b9p b88 rfl ⟨_,rfl⟩ (fun w=>by kernel_rfl) rfl rfl) ?_;refine cD (j3 rfl tt tt rfl c6 b8M o4 rfl rfl (nb rfl) ?_);refine i7 ?_;exact ⟨⟨3,e.o,[]⟩,_,(by rw [a7H,if_pos hk3]),tu_,rfl⟩
     ·have hk3:(e.k == 3)=false:=h5;refine i8 ?_;exact ⟨⟨e.k,e.p,e.o⟩,_,(by rw [a7H,if_neg (by rw [hk3]; exact a9v)]),tu_,rfl⟩
    ·rintro _ rfl; refine b5a ?_; refine cY b5A ?_; refine cY (c7 rfl b6K B9 (by exact b0f hrv hm.plen he (k:=a7H e) hk0 _) rfl) ?_; refine a2P ?_; refine z_2 ?_; refine b5a ?_; refine cY b5A ?_; refine cY (c7 rfl b6K B9 (by exact b0f (hms.valid om_) hms.plen he (k:=a7H e) hk0 _) rfl) ?_; refine a2P ?_; refine M9 ?_; refine a1b ?_; refine a5K ?_; refine a7Z ?_; refine cG (fun hg=>a0N rfl hg hg rfl rfl (b1M _ _)) ?_; refine b5N ?_; refine cG a5F ?_; refine b5N ?_; refine cG a5F ?_; refine cG (fun hg=>j2 rfl tt rfl c17 rfl t_1 de_) ?_; refine cG b0R ?_; refine cG b0O ?_; refine cG (fun hg=>b7k rfl Tryz.runUnderlying4 hg hg rfl rfl rfl) ?_; refine a4L ?_; refine cC (fun h6=>?_) fun h6=>?_
     ·exfalso;rw [g1] at g2 g3;simp [g1] at h6
      rcases h6 with h | h
      ·exact g2 h
      ·exact h g3
     ·exact b0n
   ·obtain ⟨u1,u2,u3,u4,u5⟩:=c3N (ev:=ev) hm om_ hbb;refine Z5 ?_; refine cY a15 ?_; refine cY j7 ?_; refine cY (c7 rfl Tryz.call26 b3m (by exact c8d fl (gnn fl.length) [99] bb om_ om_ _) rfl) ?_; refine c2R ?_; refine c82 ?_; refine z_2 ?_; refine b5a ?_; refine cY d3w ?_; refine cY (c7 rfl b6K B9 (by rw [u1]; exact b0f u2 u5 he (k:=⟨4,[99],[]⟩) de_ _) rfl) ?_; refine a2P ?_; refine M9 ?_; refine a1b ?_; refine a87 ?_; refine cG (fun hg=>I6 rfl rfl hg rfl rfl K9) ?_; refine cG b04 ?_; refine cY a5z ?_; refine cY j7 ?_; refine cG (fun hg=>c7 rfl Tryz.call23 trivial (b8y _) rfl) ?_; refine a6Q ?_;exact ⟨_,j5 rfl tt c6,(by exact ⟨(),.ret (j4 (by rw [u4]; simp [u1])),tt⟩)⟩
theorem b4O (l:List Int) (nn:Bool) (hl:l.length<=maxLen) (s:Str) (σ:List c5):b8 CC 4 [.list (l.map icv) nn none,sv s] σ fun r τ=>r = .ret (.val (.bool true))/\τ=σ :=
 (E9 (res:=fun _:Unit=>.ret (.val (.bool true))) (P:=fun _=>True) hCC (fun a h=>by simp at h; rcases h with rfl | rfl; exact a0l _ _; exact .val _) (b11 l nn hl s) (fun _ _=>.val _) σ).mono fun r τ ⟨_,h1,h2,_⟩=>⟨h1,h2⟩
end Go.Proofs.YtlppbmfecjabeaaGreatDoor
