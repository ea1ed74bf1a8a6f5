/- Part 6 of what the claim needs: values without addresses, and what the program's functions do with them. -/
import Derived.Test.YtlppbmfecjabeaaGreatDoorC5
set_option linter.all false
set_option maxRecDepth 100000
set_option maxHeartbeats 4000000
namespace Go.Proofs.YtlppbmfecjabeaaGreatDoor
open Go Go.Cl
variable {fl:List Fi} {i b:Nat} {x:Src} {ev:List Va} {ms:SM} {k:Int} {path p o:Str} {f:Fi} {me:EM} {d:De}
theorem b5I:∀ {pv:Option Fi} {l:List Fi},rvE pv l=0->(∀ g,pv=some g->∀ f∈l,g.p < f.p)/\l.Pairwise fun a b=>a.p < b.p
 | _,[],_=>⟨fun _ _ f hf=>(by cases hf),List.Pairwise.nil⟩
 | pv,x::l,h=>by
  rw [rvE] at h;split at h
  ·rename_i hs;obtain ⟨h1,h2⟩:=b5I h;have hx:∀ g,pv=some g->g.p < x.p:=fun g hg=>by
    subst hg;unfold J6 at hs;split at hs
    ·cases hs
    ·split at hs
     ·cases hs
     ·rename_i h3;split at hs
      ·cases hs
      ·rename_i h4;simp only [Option.any_some,a2t] at h3 h4;rw [bytesLess_eq,a2t] at h4
       rcases List.le_total g.p x.p with h5 | h5
       ·rcases Decidable.em (g.p < x.p) with h6 | h6
        ·exact h6
        ·exact absurd (c2v h5 (List.not_lt.1 h6)).symm h3
       ·rcases Decidable.em (g.p < x.p) with h6 | h6
        ·exact h6
        ·exact absurd (c2v h5 (List.not_lt.1 h4)) h3
   refine ⟨fun g hg f hf=>?_,.cons (fun f hf=>h1 x rfl f hf) h2⟩
   rcases R5.1 hf with rfl | hf
   ·exact hx g hg
   ·exact List.lt_trans (hx g hg) (h1 x rfl f hf)
  ·rename_i hs;exact absurd h hs
structure WI (seen:List Str) (ms:SM) (me:EM):Prop where
 src:∀ p x,glk ms p=some x->a3z x/\p∈seen
 ent:∀ k e,glk me k=some e->1<=e.ct/\b3e ms e
theorem b9z {ms:SM} {path:Str} {x:Src} (hg:glk ms path=some x) (hx:a3z x):∀ (n k:Nat) (me:EM),x.decls.length - k=n->(∀ k e,glk me k=some e->1<=e.ct/\b3e ms e)->∀ q e,glk (addDs me path x.pkg (x.decls.drop k) k) q=some e->1<=e.ct/\b3e ms e
 | 0,k,me,hn,h,q,e,he=>by
  rw [S8 om_,addDs] at he;exact h q e he
 | n+1,k,me,hn,h,q,e,he=>by
  obtain ⟨d,hd⟩:=gx_ x.decls k;rw [a7i hd] at he;refine b9z hg hx n (k+1) _ om_ (fun q e he=>?_) q e he;rw [a5O,N7] at he;split at he
  ·injection he with he
   subst he
   split
   ·rename_i f hf;obtain ⟨h1,_⟩:=h _ _ hf;exact ⟨by simp only;omega,fun hc=>by simp only at hc;omega⟩
   ·exact ⟨b3b _,fun _=>⟨x,d,k,hg,hx,rfl,hd⟩⟩
  ·exact h q e he
theorem b3e.put {e:En} (h:b3e ms e) (hp:glk ms path=none):b3e (X6 ms path x) e:=fun hc=>by
 obtain ⟨s,d,i,h1,h2⟩:=h hc;refine ⟨s,d,i,?_,h2⟩;rw [N7,if_neg]
 ·exact h1
 ·intro he;rw [he,hp] at h1;cases h1
theorem c58 {seen:List Str} {s:WS} (h:WI seen s.2.1 s.2.2) (hf:f.p∉seen):WI (f.p::seen) (a1r s f).2.1 (a1r s f).2.2:=by
 have hw:WI (f.p::seen) s.2.1 s.2.2:=⟨fun p x hp=>⟨(h.src p x hp).1,b5h _ (h.src p x hp).2⟩,h.ent⟩;unfold a1r
 split
 ·split
  ·exact hw
  ·rename_i x hx;have hn:glk s.2.1 f.p=none:=by
    cases hg:glk s.2.1 f.p with
    | none=>rfl
    | some y=>exact absurd (h.src _ _ hg).2 hf
   have hok:=b3B hx;refine ⟨fun p y hp=>?_,?_⟩
   ·simp only [N7] at hp;split at hp
    ·rename_i e;injection hp with hp
     subst hp;exact ⟨hok,by rw [e];simp⟩
    ·exact ⟨(h.src p y hp).1,b5h _ (h.src p y hp).2⟩
   ·have hg:glk (X6 s.2.1 f.p x) f.p=some x:=by rw [N7,if_pos rfl]
    have:=b9z hg hok _ 0 s.2.2 rfl (fun k e he=>⟨(h.ent k e he).1,(h.ent k e he).2.put hn⟩);simpa using this
 ·exact hw
theorem c1o:∀ {l:List Fi} {seen:List Str} {s:WS},WI seen s.2.1 s.2.2->(∀ f∈l,f.p∉seen)->(l.Pairwise fun a b=>a.p < b.p)->∃ seen',WI seen' (b0f l s).2.1 (b0f l s).2.2
 | [],seen,s,h,_,_=>⟨seen,h⟩
 | f::l,seen,s,h,hn,hp=>by
  have h1:=c58 h (hn f si_);refine c1o (l:=l) h1 (fun g hg hm=>?_) (b12.1 hp).2
  rcases R5.1 hm with hm | hm
  ·have:=(b12.1 hp).1 g hg;rw [hm] at this;exact absurd this (List.lt_irrefl _)
  ·exact hn g (by simp [hg]) hm
theorem c27 (h:B7 fl=0):WOk fl (H4 fl).2.1 (H4 fl).2.2:=by
 obtain ⟨h1,h2⟩:=a7r h;have h0:rvE none fl=0:=by
  unfold B7 at h;split at h
  ·cases h
  ·exact h
 obtain ⟨seen,h3⟩:=c1o (l:=fl) (seen:=[]) (s:=([],[],[])) ⟨fun p x hp=>(by cases hp),fun k e he=>(by cases he)⟩ (fun f _ hm=>(by cases hm)) (b5I h0).2;rw [H4,if_pos h];exact ⟨h1,fun f hf=>by have:=L1 (h2 f hf).1;have:=(h2 f hf).2;omega,fun p s hp=>(h3.src p s hp).1,fun k e he=>(h3.ent k e he).2⟩
abbrev fv (f:FuncId):CV:=.val (.func (.func f) #[] #[])
def Z6 (b:Nat):List (Int × CV):=[(1,fv 105),(2,fv 107),(3,fv 108),(4,fv 109),(5,.clo 111 [.ptr b 0]),(6,fv 114),(7,fv 116)]
abbrev cmO (b:Nat):b9:=.map (gm kv (fun c:CV=>c) (Z6 b))
def cfv (b:Nat) (k:Int):CV:=(glk (Z6 b) k).getD (H9 .nilFunc)
theorem d3d {L:Nat} (h:b < L):I8 L (cmO b):=fun x hx=>by
 obtain ⟨y,hy,rfl⟩:=K5.1 hx;refine ⟨.val _,?_⟩;simp only [Z6,R5,b2M,or_false] at hy
 rcases hy with rfl | rfl | rfl | rfl | rfl | rfl | rfl
 ·exact .val _
 ·exact .val _
 ·exact .val _
 ·exact .val _
 ·refine .clo fun i c hi=>?_
  rcases i with _ | i
  ·injection hi with hi;subst hi;exact .ptr h
  ·cases hi
 ·exact .val _
 ·exact .val _
theorem d2D {R:Nat->Nat->Prop} {b':Nat} (h:R b b'):J4 R (cmO b) (cmO b'):=.map ⟨rfl,fun i x x' h1 h2=>by
 rcases i with _ | _ | _ | _ | _ | _ | _ | i
 ·injection h1 with h1;injection h2 with h2;subst h1 h2;exact ⟨.pure (.val _),.pure (.val _)⟩
 ·injection h1 with h1;injection h2 with h2;subst h1 h2;exact ⟨.pure (.val _),.pure (.val _)⟩
 ·injection h1 with h1;injection h2 with h2;subst h1 h2;exact ⟨.pure (.val _),.pure (.val _)⟩
 ·injection h1 with h1;injection h2 with h2;subst h1 h2;exact ⟨.pure (.val _),.pure (.val _)⟩
 ·injection h1 with h1;injection h2 with h2;subst h1 h2
  refine ⟨.pure (.val _),.clo rfl fun i c c' g g'=>?_⟩
  rcases i with _ | i
  ·injection g with g;injection g' with g';subst g g';exact .ptr h
  ·cases g
 ·injection h1 with h1;injection h2 with h2;subst h1 h2;exact ⟨.pure (.val _),.pure (.val _)⟩
 ·injection h1 with h1;injection h2 with h2;subst h1 h2;exact ⟨.pure (.val _),.pure (.val _)⟩
 ·cases h1⟩
theorem b58 (ev:List Va) (en:Bool):b8 CC 58 [.agg (G3 ev en)] [] fun r τ=>∃ _:Unit,r = .ret (.map 1)/\τ=[.box (G3 ev en),cmO 0]/\True:=by
 refine cO Tryz.func58 ?_;refine a3J ?_;refine z_0 ?_;refine cD (Z5 rfl ?_);refine cD (l8 (vc:=fun c:CV=>c) (l:=(Z6 0).take 0) (a:=1) (b:=((Z6 0).getD 0 (0,fv 0)).2) a0A (.inr rfl) tt rfl tt rfl rfl rfl b9f rfl ?_);refine cD (l8 (vc:=fun c:CV=>c) (l:=(Z6 0).take 1) (a:=2) (b:=((Z6 0).getD 1 (0,fv 0)).2) a0A (.inr rfl) tt rfl tt rfl rfl rfl b9f rfl ?_);refine cD (l8 (vc:=fun c:CV=>c) (l:=(Z6 0).take 2) (a:=3) (b:=((Z6 0).getD 2 (0,fv 0)).2) a0A (.inr rfl) tt rfl tt rfl rfl rfl b9f rfl ?_);refine cD (l8 (vc:=fun c:CV=>c) (l:=(Z6 0).take 3) (a:=4) (b:=((Z6 0).getD 3 (0,fv 0)).2) a0A (.inr rfl) tt rfl tt rfl rfl rfl b9f rfl ?_);refine cY (b1O rfl ⟨tt,tt⟩) ?_;refine cD (l8 (vc:=fun c:CV=>c) (l:=(Z6 0).take 4) (a:=5) (b:=((Z6 0).getD 4 (0,fv 0)).2) a0A (.inr rfl) tt rfl tt rfl rfl rfl b9f rfl ?_);refine cD (l8 (vc:=fun c:CV=>c) (l:=(Z6 0).take 5) (a:=6) (b:=((Z6 0).getD 5 (0,fv 0)).2) a0A (.inr rfl) tt rfl tt rfl rfl rfl b9f rfl ?_);refine cD (l8 (vc:=fun c:CV=>c) (l:=(Z6 0).take 6) (a:=7) (b:=((Z6 0).getD 6 (0,fv 0)).2) a0A (.inr rfl) tt rfl tt rfl rfl rfl b9f rfl ?_);refine cY j1 ?_;refine z_7 ?_;exact ⟨_,j2 rfl tt c4,(by exact ⟨(),rfl,rfl,tt⟩)⟩
theorem b9E (ev:List Va) (en:Bool) (σ:List b9):b8 CC 58 [.agg (G3 ev en)] σ fun r τ=>∃ _:Unit,r = .ret (.map (σ.length+1))/\τ=σ++[.box (G3 ev en),cmO σ.length]/\True :=
 a4g (α:=Unit) hCC (fun a ha=>by simp at ha;subst ha;exact o3 ⟨S2 _ _,tt⟩) (res:=fun _=>.ret (.map 1)) (res':=fun _ m=>.ret (.map (m+1))) (S:=fun _=>[.box (G3 ev en),cmO 0]) (S':=fun _ m=>[.box (G3 ev en),cmO m]) (P:=fun _=>True) (b58 ev en) (fun _ _=>rfl) (fun _ m i x h=>by
  rcases i with _ | _ | i
  ·injection h with h;subst h;exact ⟨_,rfl,.box (N0 (fun c hc=>by simp at hc;subst hc;exact S2 _ _))⟩
  ·injection h with h;subst h;exact ⟨_,rfl,d2D si_⟩
  ·cases h) (fun _ m=>.ret (.map rfl)) σ
theorem c9D {k:Ky} (h:a0B k=true):(k.k=1\/k.k=2\/k.k=3\/k.k=4\/k.k=5\/k.k=6\/k.k=7)/\k.a.length<=100:=by
 unfold a0B at h;split at h
 ·rename_i h1;simp only [a6j,beq_iff_eq] at h1;simp only [a0i] at h;have:=B4 h.1;exact ⟨om_,om_⟩
 ·split at h
  ·rename_i h1;simp only [a6j,beq_iff_eq] at h1;simp only [a0i] at h;have:=L1 h.1;exact ⟨om_,om_⟩
  ·split at h
   ·rename_i h1;simp only [a6j,beq_iff_eq] at h1;simp only [a0i] at h;have:=B4 h.1;exact ⟨om_,om_⟩
   ·cases h
theorem d7j {nn:Bool} {br:List Str} {σ:List b9} {w q1 q2 t:Nat} (hσ:WAt σ w q1 q2 t fl nn true br ms me) (hok:WOk fl ms me) {en:Bool} (hb:σ[b]? = some (.box (G3 ev en))) (hev:∀ v∈ev,-9223372036854775808<=v.v/\v.v<=9223372036854775807) (hel:ev.length<=1000000000) {k:Ky} (hk:a0B k=true) :
 c3q CC (cfv b k.k) [.ptr w 0,.agg k.cells] σ (sv (V6 fl ms me ev k)):=by
 obtain ⟨hkk,hka⟩:=c9D hk
 rcases hkk with h | h | h | h | h | h | h
 ·refine .inl ⟨105,by rw [h];rfl,Tryz.call105,?_⟩;rw [V6,if_pos h];exact e0d hσ hok k
 ·refine .inl ⟨107,by rw [h];rfl,Tryz.call107,?_⟩;rw [V6,if_neg om_,if_pos h];exact d9O hσ hok k
 ·refine .inl ⟨108,by rw [h];rfl,Tryz.call108,?_⟩;rw [V6,if_neg om_,if_neg om_,if_pos h];exact d9Q hσ hok k
 ·refine .inl ⟨109,by rw [h];rfl,Tryz.call109,?_⟩;rw [V6,if_neg om_,if_neg om_,if_neg om_,if_pos h];exact d8x hσ hok k
 ·refine .inr ⟨111,[.ptr b 0],by rw [h];rfl,Tryz.call111,?_⟩;rw [V6,if_neg om_,if_neg om_,if_neg om_,if_neg om_,if_pos h];exact d8G hb hev hel k
 ·refine .inl ⟨114,by rw [h];rfl,Tryz.call114,?_⟩;rw [V6,if_neg om_,if_neg om_,if_neg om_,if_neg om_,if_neg om_,if_pos h];exact d8M hσ hok k
 ·refine .inl ⟨116,by rw [h];rfl,Tryz.call116,?_⟩;rw [V6,if_neg om_,if_neg om_,if_neg om_,if_neg om_,if_neg om_,if_neg om_];exact d8Y hσ hok k hka
noncomputable def M6 (fl:List Fi) (ev:List Va) (l:List Ky):Option (List Str) :=
 if B7 fl=0/\a2r ev=true/\l.all a0B=true then some (l.map (V6 fl (H4 fl).2.1 (H4 fl).2.2 ev)) else none
def b1u (o:Option (List Str)):CV:=.tup [.list ((o.getD []).map scv) (gnn (o.getD []).length) none,iv (if o.isSome then 0 else 1)]
theorem d7d (b:Nat) (k:Int):((glk (Z6 b) k).map fun c:CV=>c).getD (H9 .nilFunc)=cfv b k:=by unfold cfv;cases glk (Z6 b) k <;> rfl
theorem b4q {p:Ky->Bool} {l:List Ky} {y:Ky} (h:l[i]? = some y) (ha:(l.take i).all p=true) (hy:p y=true):(l.take (i+1)).all p=true:=by
 rw [a4F,h,List.all_append,ha];simp [hy]
theorem b6w {p:Ky->Bool} {l:List Ky} {y:Ky} (h:l[i]? = some y) (hy:p y=false):l.all p≠true:=fun hh=>by
 rw [a0z] at hh;rw [hh y (n_0 h)] at hy;cases hy
theorem b5p (fl:List Fi) (nn:Bool) (hfl:∀ f∈fl,f.p.length<=1000000000) (ev:List Va) (en:Bool) (hvr:∀ v∈ev,-9223372036854775808<=v.v/\v.v<=9223372036854775807) (l:List Ky) (nk:Bool) (hl:l.length<=1000000000) (hk:∀ k∈l,k.a.length<=1000000000/\k.b.length<=1000000000):b8 CC 16 [.agg (A8 fl nn),.agg (G3 ev en),.list (l.map Ky.cv) nk none] [] fun r τ=>∃ _:Unit,a1e 0 τ r (.ret (b1u (M6 fl ev l)))/\True:=by
 refine cO Tryz.func16 ?_;refine a8l ?_;refine a4W ?_;refine b04 ?_;refine dc rfl Tryz.call56 ⟨tt,tt⟩ (d8m fl nn hfl _) ?_;intro _ _;refine z_1 ?_;refine b4x ?_;refine c7k ?_;refine cY a6L ?_;refine cY j1 ?_;refine cG d6A ?_;refine cG (fun hg=>j8 rfl Tryz.call57 ⟨hg,tt⟩ (a4H ev en _) rfl) ?_;refine b2P ?_;refine cC ?_ ?_ <;> intro h1
 ·have hv:¬ (B7 fl=0/\a2r ev=true/\l.all a0B=true):=by
   rintro ⟨u1,u2,_⟩;simp [u1,u2] at h1
  refine z_0 ?_;exact d3E
 ·have hv:B7 fl=0/\a2r ev=true:=sp_ h1;have hok:=c27 hv.1;have hva:(B7 fl == 0)=true:=by simp [hv.1]
  rw [hva];refine a1d ?_;refine cY a9Z ?_;refine dc rfl Tryz.call58 ⟨tt,tt⟩ (b9E ev en _) ?_;intro _ _;refine z_1 ?_;refine Q7 ?_;refine cY c88 ?_;refine Z0 ?_;refine B2 hCC 8 rfl (α:=Nat) (fun i=>[(8,.ptr 2 0),(9,.map 7),(10,(.list (((l.take i).map (V6 fl (H4 fl).2.1 (H4 fl).2.2 ev)).map scv) (gnn ((l.take i).map (V6 fl (H4 fl).2.1 (H4 fl).2.2 ev)).length) (G9 ((l.take i).map (V6 fl (H4 fl).2.1 (H4 fl).2.2 ev)).length 8))),(27,(.list (l.map Ky.cv) nk none)),(28,iv l.length),(29,iv i)]) (fun i=>[.box (A8 fl nn),.box (G3 ev en),wbx fl nn true (H4 fl).1 3 4 5,smO (H4 fl).2.1,emO (H4 fl).2.2,u0 (H4 fl).1.length,.box (G3 ev en),cmO 6,u0 ((l.take i).map (V6 fl (H4 fl).2.1 (H4 fl).2.2 ev)).length]) (fun i=>i<=l.length/\(l.take i).all a0B=true) (fun i=>l.length - i) ⟨0,[0,1,2,3,4,5,6,7,13],⟨n_3 _,rfl⟩,⟨rfl,rfl⟩,ut_,uq_⟩ ?_;intro i ⟨hi,hall⟩;refine C9 ?_;refine cC ?_ ?_ <;> intro h2
  ·have hlt:i < l.length:=sm_ h2;obtain ⟨y,hy⟩:∃ y,l[i]? = some y:=⟨l[i]'hlt,si_⟩;have hyl:=hk y (n_0 hy);refine W7 ?_;refine d4w ?_;refine c8J ?_;refine T5 ?_;refine cY a3a ?_;refine yc rfl Tryz.call59 ⟨tt,tt⟩ (c0N y hyl.1 hyl.2 _) ?_;refine S4 ?_;refine cC ?_ ?_ <;> intro h3
   ·have hv2:¬ (B7 fl=0/\a2r ev=true/\l.all a0B=true):=fun u=>b6w hy (sp_ h3) u.2.2;refine z_0 ?_;exact d6g
   ·have hyk:a0B y=true:=sp_ h3;have htk1:l.take (i+1)=l.take i++[y]:=by rw [a4F,hy];rfl
    refine a9p ?_;refine b8k ?_;refine cY (R2 (vc:=fun c:CV=>c) (l:=Z6 6) (a:=y.k) a0A rfl tt tt rfl rfl b9f Tryz.zeroValue115 rfl rfl (d7d 6 y.k)) ?_;refine cY j1 ?_;refine cY a3a ?_;refine cY (c4Z rfl tt rfl i7 (by exact d7j (w:=2) (q1:=3) (q2:=4) (t:=5) (b:=6) ⟨rfl,rfl,rfl,rfl,b5k ⟨de_,de_,de_,de_,de_,de_⟩⟩ hok rfl hvr (Nat.le_trans (a83 hv.2) (nb rfl)) hyk) rfl) ?_;refine cY (A2 [scv ((V6 fl (H4 fl).2.1 (H4 fl).2.2 ev) y)] rfl ⟨tt,tt⟩ t_1 t_0 t_3 rfl rfl rfl rfl rfl rfl rfl rfl rfl) ?_;refine cD (C5 rfl tt tt rfl si_ q_2 t_1 t_0 a3y t_3 rfl (.inr rfl) q_8 a36 E7 (((l.take (i+1)).map (V6 fl (H4 fl).2.1 (H4 fl).2.2 ev)).map scv) ((l.take (i+1)).map (V6 fl (H4 fl).2.1 (H4 fl).2.2 ev)).length (by rw [htk1,b5x,b5x];rfl) (by rw [htk1];simp) ?_);refine a1j ?_;exact ⟨(i+1),[0,1,2,3,4,5,6,7,10],⟨om_,om_,b4q hy hall hyk⟩,⟨rfl,rfl⟩,ut_,uq_⟩
  ·have hge:l.length<=i:=sm_ h2;have hta:l.take i=l:=U3 hge;refine b0t ?_;refine a4m ?_;exact ⟨_,j9 (rs:=[.tmp 6,.tmp 7]) (cs:=[_,_]) rfl S6 (n_2 rfl),(by rw [M6,if_pos ⟨hv.1,hv.2,by rw [<- hta];exact hall⟩,hta];exact ⟨(),.ret (.tups ⟨.tok (fun r hr c hc=>(C4 (f:=scv) (fun _=>S9.all ⟨.val _,tt⟩) _) r hr c hc),.old (.val _),tt⟩),tt⟩)⟩
theorem b1e (o:Option (List Str)):r9 (b1u o):=B9 (cs:=[_,_]) ⟨C2 _ _,.val _,tt⟩
theorem a4R (fl:List Fi) (nn:Bool) (hfl:∀ f∈fl,f.p.length<=1000000000) (ev:List Va) (en:Bool) (hvr:∀ v∈ev,-9223372036854775808<=v.v/\v.v<=9223372036854775807) (l:List Ky) (nk:Bool) (hl:l.length<=1000000000) (hk:∀ k∈l,k.a.length<=1000000000/\k.b.length<=1000000000) (σ:List b9):b8 CC 16 [.agg (A8 fl nn),.agg (G3 ev en),.list (l.map Ky.cv) nk none] σ fun r τ=>r = .ret (b1u (M6 fl ev l))/\τ=σ :=
 (F6 (res:=fun _:Unit=>.ret (b1u (M6 fl ev l))) (P:=fun _=>True) hCC (fun a h=>by simp at h;rcases h with rfl | rfl | rfl;exact o3 (cs:=A8 _ _) ⟨G8 _ _,tt⟩;exact o3 (cs:=G3 _ _) ⟨S2 _ _,tt⟩;exact a03 _ _) (b5p fl nn hfl ev en hvr l nk hl hk) (fun _ _=>b1e _) σ).mono fun r τ ⟨_,h1,h2,_⟩=>⟨h1,h2⟩
noncomputable def a1P (fl:List Fi) (ev:List Va) (k:Ky):Option Str:=(M6 fl ev [k]).map fun l=>l.getD 0 []
def a64 (o:Option Str):CV:=.tup [sv (o.getD []),iv (if o.isSome then 0 else 1)]
theorem a59 {k:List Ky} {l:List Str} (h:M6 fl ev k=some l):l=k.map (V6 fl (H4 fl).2.1 (H4 fl).2.2 ev):=by
 unfold M6 at h;split at h
 ·injection h with h;exact h.symm
 ·cases h
theorem b6F (fl:List Fi) (nn:Bool) (hfl:∀ f∈fl,f.p.length<=1000000000) (ev:List Va) (en:Bool) (hvr:∀ v∈ev,-9223372036854775808<=v.v/\v.v<=9223372036854775807) (k:Ky) (hk:k.a.length<=1000000000/\k.b.length<=1000000000):b8 CC 14 [.agg (A8 fl nn),.agg (G3 ev en),.agg k.cells] [] fun r τ=>∃ _:Unit,a1e 0 τ r (.ret (a64 (a1P fl ev k)))/\True:=by
 refine cO Tryz.func14 ?_;refine c7g ?_;refine a4W ?_;refine b1c ?_;refine cY a3a ?_;refine cY (A2 ([k].map Ky.cv) rfl ⟨tt,tt⟩ a7h a4J a7o rfl rfl rfl rfl rfl rfl rfl rfl rfl) ?_;refine ye rfl d0P C0 (by exact a4R fl nn hfl ev en hvr [k] true si_ (fun k1 h1=>by simp at h1;subst h1;exact hk) _) rfl ?_;refine a1T ?_;refine a2Q ?_;refine cC ?_ ?_ <;> intro h1
 ·have hn:M6 fl ev [k]=none:=by
   cases h:M6 fl ev [k] with
   | none=>rfl
   | some l=>rw [h] at h1;simp at h1
  refine z_2 ?_;refine cY a2H ?_;refine z_7 ?_;exact ⟨_,j9 (rs:=[.tmp 6,.tmp 7]) (cs:=[_,_]) rfl S6 (n_2 rfl),(by rw [a1P,hn];exact ⟨(),.ret (.old (.tup fun i c hi=>by rcases i with _ | _ | i <;> first|(injection hi with hi;subst hi;exact .val _) | cases hi)),tt⟩)⟩
 ·obtain ⟨s,hs⟩:∃ s,M6 fl ev [k]=some [s]:=by
   cases h:M6 fl ev [k] with
   | none=>rw [h] at h1;simp at h1
   | some l=>exact ⟨_,by rw [a59 h];rfl⟩
  rw [hs];refine a1m ?_;refine cY (r8 rfl tt rfl rfl rfl t_1 t_0 om_ (j3 (rfl:[s][0]? = some s)) rfl) ?_;refine cY U1 ?_;refine a4m ?_;exact ⟨_,j9 (rs:=[.tmp 6,.tmp 7]) (cs:=[_,_]) rfl S6 (n_2 rfl),(by rw [a1P,hs];exact ⟨(),.ret (.old (.tup fun i c hi=>by rcases i with _ | _ | i <;> first|(injection hi with hi;subst hi;exact .val _) | cases hi)),tt⟩)⟩
theorem a7g (fl:List Fi) (nn:Bool) (hfl:∀ f∈fl,f.p.length<=1000000000) (ev:List Va) (en:Bool) (hvr:∀ v∈ev,-9223372036854775808<=v.v/\v.v<=9223372036854775807) (k:Ky) (hk:k.a.length<=1000000000/\k.b.length<=1000000000) (σ:List b9):b8 CC 14 [.agg (A8 fl nn),.agg (G3 ev en),.agg k.cells] σ fun r τ=>r = .ret (a64 (a1P fl ev k))/\τ=σ :=
 (F6 (res:=fun _:Unit=>.ret (a64 (a1P fl ev k))) (P:=fun _=>True) hCC (fun a h=>by simp at h;rcases h with rfl | rfl | rfl;exact o3 (cs:=A8 _ _) ⟨G8 _ _,tt⟩;exact o3 (cs:=G3 _ _) ⟨S2 _ _,tt⟩;exact o3 (cs:=[_,_,_]) ⟨.val _,.val _,.val _,tt⟩) (b6F fl nn hfl ev en hvr k hk) (fun _ _=>B9 (cs:=[_,_]) ⟨.val _,.val _,tt⟩) σ).mono fun r τ ⟨_,h1,h2,_⟩=>⟨h1,h2⟩
def a5F:List Str->List Str->Int->Int
 | x::l,y::m,i=>if x=y then a5F l m (i+1) else i
 | _,_,_=>-1
noncomputable def a10 (fl:List Fi) (ev:List Va) (k:List Ky) (ts:List Str):Option Int:=match M6 fl ev k with
 | some l=>if k.length=ts.length then some (a5F l ts 0) else none
 | none=>none
def b4s (o:Option Int):CV:=.tup [iv (o.getD 0),iv (if o.isSome then 0 else 1)]
theorem b2N {l m:List Str} {x y:Str} (hx:l[i]? = some x) (hy:m[i]? = some y) (j:Int):a5F (l.drop i) (m.drop i) j=if x=y then a5F (l.drop (i+1)) (m.drop (i+1)) (j+1) else j:=by
 obtain ⟨h1,rfl⟩:=n_1.1 hx;obtain ⟨h2,rfl⟩:=n_1.1 hy;rw [Q4 h1,Q4 h2,a5F]
theorem c4r (fl:List Fi) (nn:Bool) (hfl:∀ f∈fl,f.p.length<=1000000000) (ev:List Va) (en:Bool) (hvr:∀ v∈ev,-9223372036854775808<=v.v/\v.v<=9223372036854775807) (k:List Ky) (nk:Bool) (hl:k.length<=1000000000) (hk:∀ x∈k,x.a.length<=1000000000/\x.b.length<=1000000000) (ts:List Str) (nt:Bool):b8 CC 21 [.agg (A8 fl nn),.agg (G3 ev en),.list (k.map Ky.cv) nk none,.list (ts.map scv) nt none] [] fun r τ=>∃ _:Unit,a1e 0 τ r (.ret (b4s (a10 fl ev k ts)))/\True:=by
 refine cO Tryz.func21 ?_;refine a8l ?_;refine a4W ?_;refine b1c ?_;refine cY j1 ?_;refine yc rfl d0P C0 (a4R fl nn hfl ev en hvr k nk hl hk _) ?_;refine a1T ?_;refine a1z ?_;refine a1h ?_;refine cG (fun hg=>a0j rfl hg rfl a7h b1s rfl) ?_;refine cG T7 ?_;refine cG c99 ?_;refine a6v ?_;refine cC ?_ ?_ <;> intro h1
 ·have hn:a10 fl ev k ts=none:=by
   unfold a10;cases h:M6 fl ev k with
   | none=>rfl
   | some l =>
    rw [h] at h1;have hkt:¬ k.length=ts.length:=sm_ h1;exact if_neg hkt
  refine z_0 ?_;exact d3o
 ·obtain ⟨l,hs⟩:∃ l,M6 fl ev k=some l:=by
   cases h:M6 fl ev k with
   | none=>rw [h] at h1;simp at h1
   | some l=>exact ⟨_,rfl⟩
  rw [hs] at h1 ⊢;have hkt:k.length=ts.length:=sm_ h1;have hlk:l.length=k.length:=by rw [a59 hs];simp
  have hh:a10 fl ev k ts=some (a5F l ts 0):=by unfold a10;rw [hs];exact if_pos hkt
  refine a5L ?_;refine a1i ?_;refine j5 hCC (fun i:Nat=>[(3,(.list (ts.map scv) nt none)),(30,(.list (l.map scv) (gnn l.length) none)),(31,iv l.length),(32,iv i)]) (fun _=>[.box (A8 fl nn),.box (G3 ev en)]) (fun i=>i<=l.length/\a5F l ts 0=a5F (l.drop i) (ts.drop i) i) (fun i=>l.length - i) 0 ⟨n_3 _,rfl⟩ tu_ (extra0:=[]) rfl r5 uz_ ?_;intro i ⟨hi,hr⟩;refine C9 ?_;refine cC ?_ ?_ <;> intro h2
  ·have hlt:i < l.length:=sm_ h2;obtain ⟨x,hx,_⟩:=Z2 hlt;obtain ⟨y,hy,_⟩:=Z2 (l:=ts) (i:=i) om_;rw [b2N hx hy] at hr;refine X9 ?_;refine cY c6p ?_;refine cY U1 ?_;refine b25 ?_;refine a0M ?_;refine b6I ?_;refine cY a9V ?_;refine c8 ?_;refine cC ?_ ?_ <;> intro h3
   ·have hxy:¬ x=y:=sp_ h3;rw [if_neg hxy] at hr;refine z_2 ?_;exact d4U
   ·have hxy:x=y:=sp_ h3;rw [if_pos hxy] at hr;exact a89
  ·have hge:l.length<=i:=sm_ h2;rw [S8 hge] at hr;refine U9 ?_;exact d4V
theorem b6K (fl:List Fi) (nn:Bool) (hfl:∀ f∈fl,f.p.length<=1000000000) (ev:List Va) (en:Bool) (hvr:∀ v∈ev,-9223372036854775808<=v.v/\v.v<=9223372036854775807) (k:List Ky) (nk:Bool) (hl:k.length<=1000000000) (hk:∀ x∈k,x.a.length<=1000000000/\x.b.length<=1000000000) (ts:List Str) (nt:Bool) (σ:List b9):b8 CC 21 [.agg (A8 fl nn),.agg (G3 ev en),.list (k.map Ky.cv) nk none,.list (ts.map scv) nt none] σ fun r τ=>r = .ret (b4s (a10 fl ev k ts))/\τ=σ :=
 (F6 (res:=fun _:Unit=>.ret (b4s (a10 fl ev k ts))) (P:=fun _=>True) hCC (fun a h=>by simp at h;rcases h with rfl | rfl | rfl | rfl;exact o3 (cs:=A8 _ _) ⟨G8 _ _,tt⟩;exact o3 (cs:=G3 _ _) ⟨S2 _ _,tt⟩;exact a03 _ _;exact C2 _ _) (c4r fl nn hfl ev en hvr k nk hl hk ts nt) (fun _ _=>B9 (cs:=[_,_]) ⟨.val _,.val _,tt⟩) σ).mono fun r τ ⟨_,h1,h2,_⟩=>⟨h1,h2⟩
def awF:List Fi:=[⟨[97,46,100,97,116],[45]⟩,⟨[97,46,115,114,99],[112,97,99,107,97,103,101,32,112,59,32,116,101,115,116,32,116,61,49,59]⟩]
theorem aw1:a1P awF [] ⟨4,[97,46,100,97,116],[]⟩=some [61,45]:=by kernel_rfl
def awS:Src:=⟨[112],[],[⟨2,[116],[],[⟨1,1,0,[],[]⟩]⟩]⟩
def awD:De:=⟨2,[116],[],[⟨1,1,0,[],[]⟩]⟩
theorem c8S (h:DeG d) {u o:Int} {nm:Str} (hb:d.body=[⟨k,u,o,nm,[]⟩]):U7 d=(Tr.n k u o nm []).txt d.params 0:=by
 obtain ⟨t,h1,h2,h3⟩:=a8d h;rw [h3];rw [hb] at h1;have hl:=Tr.flat_len t 0;rw [<- h1] at hl
 rcases t with ⟨k',u',o',nm',ch⟩
 have hch:ch=[]:=by
  rcases ch with _ | ⟨c,ch⟩
  ·rfl
  ·have:=c.size_pos;simp only [Tr.size,w8,n_7,I4] at hl;omega
 subst hch;simp only [Tr.flat,J2,o0,a7t,List.cons.injEq,Ex.mk.injEq,and_true] at h1;obtain ⟨rfl,rfl,rfl,rfl⟩:=h1;rfl
theorem aw2:a1P awF [] ⟨2,[112],[116]⟩=some [61,112,97,99,107,97,103,101,32,112,59,10,116,101,115,116,32,116,32,61,32,49,59,10]:=by
 have hv:B7 awF=0:=by kernel_rfl
 have hok:=c27 hv;have hg:glk (H4 awF).2.1 [97,46,115,114,99]=some awS:=by kernel_rfl
 have hx:a0w true (H4 awF).2.2 2 [112] [116]=⟨[112],[116],2,[97,46,115,114,99],0,1⟩:=by kernel_rfl
 have hd:DeG awD:=(hok.src _ _ hg).dec awD (by simp [awS,awD]);have hb:U7 awD=[49]:=(c8S hd rfl).trans C6;have ht:a0D awS awD=[112,97,99,107,97,103,101,32,112,59,10,116,101,115,116,32,116,32,61,32,49,59,10]:=by
  unfold a0D;rw [hb];kernel_rfl
 have hc:M6 awF [] [⟨2,[112],[116]⟩]=some [[61]++a0D awS awD]:=by
  unfold M6;rw [if_pos ⟨hv,by kernel_rfl,by kernel_rfl⟩];have:V6 awF (H4 awF).2.1 (H4 awF).2.2 [] ⟨2,[112],[116]⟩=[61]++a0D awS awD:=by
   unfold V6;rw [if_neg de_,if_pos rfl,hx];show a1q _ _=_;unfold a1q;rw [if_neg de_,if_pos rfl];unfold b7B;rw [hg];rfl
  rw [b3h,this];rfl
 unfold a1P;rw [hc,ht];rfl
theorem aw3:a10 awF [] [⟨4,[99],[]⟩] [[45]]=some (-1):=by kernel_rfl
def a0h (f:Fi):Option Src:=if a4v f.p=true then P4 f.b else none
def deK (x:Src) (d:De):Nm:=G7 d.k x.pkg d.name
def b9W (q:Nm) (f:Fi):List (Src × De):=match a0h f with
 | none=>[]
 | some x=>(x.decls.filter fun d=>decide (deK x d=q)).map fun d=>(x,d)
def occ (q:Nm) (fl:List Fi):List (Src × De):=fl.flatMap (b9W q)
noncomputable def d9q:List (Src × De)->Str
 | []=>[45]
 | [(x,d)]=>[61]++a0D x d
 | _=>[63]
def a70 (ms:SM) (o:Option En):List (Src × De)->Prop
 | []=>o=none
 | (x,d)::t=>∃ e,o=some e/\e.ct=1+(t.length:Int)/\glk ms e.pl=some x/\0<=e.ix/\x.decls[e.ix.toNat]? = some d
theorem a70.add {O:Nm->List (Src × De)} (h:∀ q,a70 ms (glk me q) (O q)) (hg:glk ms path=some x) (hd:x.decls[i]? = some d) (q:Nm):a70 ms (glk (a5O me ⟨x.pkg,d.name,d.k,path,(i:Int),1⟩) q) (O q++if deK x d=q then [(x,d)] else []):=by
 rw [a5O,N7];show a70 ms (if q=G7 d.k x.pkg d.name then _ else _) _;by_cases hq:deK x d=q
 ·rw [if_pos hq];subst hq;have h1:=h (deK x d);rw [if_pos (show deK x d=G7 d.k x.pkg d.name from rfl)];cases hO:O (deK x d) with
  | nil =>
   rw [hO] at h1;have h1:glk me (G7 d.k x.pkg d.name)=none:=h1;simp only [h1];exact ⟨_,rfl,rfl,hg,Int.natCast_nonneg _,sp_ hd⟩
  | cons y t =>
   obtain ⟨y,z⟩:=y;rw [hO] at h1;obtain ⟨e,h2,h3,h4,h5,h6⟩:=h1;have h2:glk me (G7 d.k x.pkg d.name)=some e:=h2;simp only [h2];refine ⟨_,rfl,?_,h4,h5,h6⟩;show e.ct+1=1+((t++[(x,d)]).length:Int);rw [h3,n_5];simp only [n_7,I4];omega
 ·rw [if_neg hq,a2q];rw [if_neg (fun e=>hq e.symm)];exact h q
theorem a70.addDs {ms:SM} {path:Str} {x:Src} (hg:glk ms path=some x):∀ (n k:Nat) (me:EM) (O:Nm->List (Src × De)),x.decls.length - k=n->(∀ q,a70 ms (glk me q) (O q))->∀ q,a70 ms (glk (addDs me path x.pkg (x.decls.drop k) k) q) (O q++(((x.decls.drop k).filter fun d=>decide (deK x d=q)).map fun d=>(x,d)))
 | 0,k,me,O,hn,h,q=>by
  rw [S8 om_,Go.Proofs.YtlppbmfecjabeaaGreatDoor.addDs];simpa using h q
 | n+1,k,me,O,hn,h,q=>by
  obtain ⟨d,hd⟩:=gx_ x.decls k;rw [a7i hd];have h1:=a70.addDs hg n (k+1) _ _ om_ (fun q=>a70.add h hg hd q) q;have hdr:x.decls.drop k=d::x.decls.drop (k+1):=by
   obtain ⟨hlt,rfl⟩:=n_1.1 hd;exact Q4 hlt
  rw [hdr,b0s];by_cases hq:deK x d=q
  ·rw [if_pos (sp_ hq),b3h];rw [if_pos hq,n_8] at h1;exact h1
  ·rw [if_neg (sp_ hq)];rw [if_neg hq,a2q] at h1;exact h1
theorem a70.put {o:Option En} {l:List (Src × De)} (h:a70 ms o l) (hp:glk ms path=none):a70 (X6 ms path x) o l:=by
 rcases l with _ | ⟨⟨y,d⟩,t⟩
 ·exact h
 ·obtain ⟨e,h1,h2,h3,h4⟩:=h;refine ⟨e,h1,h2,?_,h4⟩;rw [N7,if_neg]
  ·exact h3
  ·intro he;rw [he,hp] at h3;cases h3
structure WRd (dn:List Fi) (ms:SM) (me:EM):Prop where
 src:∀ f∈dn,glk ms f.p=a0h f
 non:∀ p,(∀ f∈dn,f.p≠p)->glk ms p=none
 ent:∀ q,a70 ms (glk me q) (occ q dn)
theorem WRd.step {dn:List Fi} {s:WS} (h:WRd dn s.2.1 s.2.2) (hf:∀ g∈dn,g.p≠f.p):WRd (dn++[f]) (a1r s f).2.1 (a1r s f).2.2:=by
 have hnone:=h.non f.p hf;have hocc:∀ q,occ q (dn++[f])=occ q dn++b9W q f:=fun q=>by simp [occ]
 cases hs:a0h f with
 | none =>
  have hw:(a1r s f).2=s.2:=by
   unfold a1r;unfold a0h at hs
   split
   ·rename_i h1;rw [if_pos h1] at hs;rw [hs]
   ·rfl
  have e1:(a1r s f).2.1=s.2.1:=by rw [hw]
  have e2:(a1r s f).2.2=s.2.2:=by rw [hw]
  rw [e1,e2];refine ⟨fun g hg=>?_,fun p hp=>h.non p fun g hg=>hp g (by simp [hg]),fun q=>?_⟩
  ·rcases X1.1 hg with hg | hg
   ·exact h.src g hg
   ·rw [c0J.1 hg,hs];exact hnone
  ·rw [hocc,b9W,hs,a2q];exact h.ent q
 | some x =>
  have hw:(a1r s f).2=(X6 s.2.1 f.p x,addDs s.2.2 f.p x.pkg x.decls 0):=by
   unfold a1r;unfold a0h at hs;split at hs
   ·rename_i h1;rw [if_pos h1,hs]
   ·cases hs
  have e1:(a1r s f).2.1=X6 s.2.1 f.p x:=by rw [hw]
  have e2:(a1r s f).2.2=addDs s.2.2 f.p x.pkg x.decls 0:=by rw [hw]
  rw [e1,e2];refine ⟨fun g hg=>?_,fun p hp=>?_,fun q=>?_⟩
  ·rw [N7]
   rcases X1.1 hg with hg | hg
   ·rw [if_neg (hf g hg)];exact h.src g hg
   ·rw [c0J.1 hg,if_pos rfl,hs]
  ·rw [N7,if_neg (fun e=>hp f si_ e.symm)];exact h.non p fun g hg=>hp g (by simp [hg])
  ·rw [hocc,b9W,hs];have hg:glk (X6 s.2.1 f.p x) f.p=some x:=by rw [N7,if_pos rfl]
   have:=a70.addDs hg _ 0 s.2.2 (fun q=>occ q dn) rfl (fun q=>(h.ent q).put hnone) q;simpa using this
theorem WRd.all:∀ {l dn:List Fi} {s:WS},WRd dn s.2.1 s.2.2->(l.Pairwise fun a b=>a.p≠b.p)->(∀ g∈dn,∀ f∈l,g.p≠f.p)->WRd (dn++l) (b0f l s).2.1 (b0f l s).2.2
 | [],dn,s,h,_,_=>by simpa [b0f] using h
 | f::l,dn,s,h,hp,hd=>by
  have h1:=h.step (f:=f) fun g hg=>hd g hg f si_;obtain ⟨hp1,hp2⟩:=b12.1 hp;have:=WRd.all (l:=l) h1 hp2 (fun g hg e he=>by
   rcases X1.1 hg with hg | hg
   ·exact hd g hg e (by simp [he])
   ·rw [c0J.1 hg];exact hp1 e he)
  rw [n_8] at this;exact this
theorem d9e (h:B7 fl=0):fl.Pairwise fun a b=>a.p≠b.p:=by
 have h0:rvE none fl=0:=by
  unfold B7 at h;split at h
  ·cases h
  ·exact h
 exact (b5I h0).2.imp fun {a b} hab he=>by rw [he] at hab;exact List.lt_irrefl _ hab
theorem b0C (h:B7 fl=0):WRd fl (H4 fl).2.1 (H4 fl).2.2:=by
 have:=WRd.all (l:=fl) (dn:=[]) (s:=([],[],[])) ⟨fun f hf=>by simp at hf,fun p _=>rfl,fun q=>rfl⟩ (d9e h) (fun g hg=>by simp at hg);rw [H4,if_pos h];simpa using this
theorem c39 (h:glk me (G7 k p o)=none):(a0w true me k p o).ct=0:=by
 unfold a0w;rw [if_pos rfl,h]
theorem c4S (h:B7 fl=0) (k:Int) (p o:Str):a1q (H4 fl).2.1 (a0w true (H4 fl).2.2 k p o)=d9q (occ (G7 k p o) fl):=by
 have h1:=(b0C h).ent (G7 k p o);cases hO:occ (G7 k p o) fl with
 | nil =>
  rw [hO] at h1;unfold a1q;rw [if_pos (c39 h1)];rfl
 | cons y t =>
  obtain ⟨x,d⟩:=y;rw [hO] at h1;obtain ⟨e,h2,h3,h4,h5,h6⟩:=h1;have he:a0w true (H4 fl).2.2 k p o=e:=by
   unfold a0w;rw [if_pos rfl,h2]
  rw [he];unfold a1q;rw [if_neg om_];cases t with
  | nil =>
   rw [if_pos (sp_ h3)];unfold b7B;rw [h4];simp only [n_6,h6,b3w,a7R];rfl
  | cons z t =>
   rw [if_neg (by rw [h3,n_7];omega)];rfl
theorem a7f (h:B7 fl=0) (pkg:Str):B1 (H4 fl).2.1 fl pkg=fl.filter fun f=>decide ((a0h f).map Src.pkg=some pkg):=by
 unfold B1;refine List.filter_congr fun f hf=>?_;rw [(b0C h).src f hf];cases a0h f <;> simp
theorem c8y:∀ s∈a3N,H5 s=true/\s.length<=1000:=by decide
theorem Q6.plen {B:Nat} (h:Q6 B fl):∀ f∈fl,f.p.length<=1000000000:=fun f hf=>by
 have:=(c8y _ (h.pth f hf)).2;omega
theorem d7Q:∀ f∈awF,f.p.length<=1000000000:=by decide
theorem d9N (σ:List b9):b8 CC 14 [.agg (A8 awF true),.agg (G3 [] false),CV.agg (Ky.cells ⟨4,[97,46,100,97,116],[]⟩)] σ fun r τ=>r = .ret (.tup [sv [61,45],iv 0])/\τ=σ:=by
 have h:=a7g awF true d7Q [] false si_ ⟨4,[97,46,100,97,116],[]⟩ ⟨de_,de_⟩ σ;rw [aw1] at h;exact h
theorem d8q (σ:List b9):b8 CC 14 [.agg (A8 awF true),.agg (G3 [] false),CV.agg (Ky.cells ⟨2,[112],[116]⟩)] σ fun r τ=>r = .ret (.tup [sv [61,112,97,99,107,97,103,101,32,112,59,10,116,101,115,116,32,116,32,61,32,49,59,10],iv 0])/\τ=σ:=by
 have h:=a7g awF true d7Q [] false si_ ⟨2,[112],[116]⟩ ⟨de_,de_⟩ σ;rw [aw2] at h;exact h
theorem d8U (σ:List b9):b8 CC 21 [.agg (A8 awF true),.agg (G3 [] false),.list ([(⟨4,[99],[]⟩:Ky)].map Ky.cv) true none,.list ([([45]:Str)].map scv) true none] σ fun r τ=>r = .ret (.tup [iv (-1),iv 0])/\τ=σ:=by
 have h:=b6K awF true d7Q [] false si_ [⟨4,[99],[]⟩] true si_ (fun x h=>by simp at h;subst h;exact ⟨de_,de_⟩) [[45]] true σ;rw [aw3] at h;exact h
theorem b9O  (σ:List b9):b8 CC 23 [] σ fun r σ'=>r = .ret (.val (.bool true))/\σ'=σ:=by
 refine an_ Tryz.func23 ?_;refine a4o ?_;refine cY d9G ?_;refine cY d9G ?_;refine cY (A2 (awF.map Fi.cv) rfl i7 a8M a41 a6r rfl rfl rfl rfl rfl rfl rfl rfl rfl) ?_;refine cY (A9 #[(0,1)] rfl ⟨tt,tt⟩ c7Q c3X rfl ⟨_,rfl⟩ (fun w=>by kernel_rfl) rfl rfl) ?_;refine d5Y ?_;refine S5 ?_;refine cY X3 ?_;refine cY d7w ?_;refine cY d9p ?_;refine ye rfl d0q C0 (by exact d9N _) rfl ?_;refine a1T ?_;refine b04 ?_;refine cY d7w ?_;refine cY (A9 #[(0,1),(1,1),(2,1)] rfl ⟨rfl,rfl,rfl,tt⟩ c4x a7o rfl ⟨_,rfl⟩ (fun w=>by kernel_rfl) rfl rfl) ?_;refine ye rfl d0q C0 (by exact d8q _) rfl ?_;refine a1T ?_;refine b04 ?_;refine cY d7w ?_;refine cY d9p ?_;refine cY (A2 ([(⟨4,[99],[]⟩:Ky)].map Ky.cv) rfl ⟨tt,tt⟩ a7h a4J a7o rfl rfl rfl rfl rfl rfl rfl rfl rfl) ?_;refine cY (A2 ([([45]:Str)].map scv) rfl ⟨rfl,tt⟩ t_1 t_0 t_3 rfl rfl rfl rfl rfl rfl rfl rfl rfl) ?_;refine ye rfl Tryz.call21 a1v (by exact d8U _) rfl ?_;refine b1C ?_;refine a9t ?_;refine a1h ?_;refine b4b ?_;refine b4b ?_;refine cG b2t ?_;refine c2T ?_;refine cG b2t ?_;refine c6B ?_;refine z_7 ?_;exact ⟨_,j2 rfl tt c4,_,_,rfl,rfl,j7 (by rfl)⟩
theorem d9c:∀ m:Nat,m < 3->([122]++a40 m++[46,115,114,99]:Str)∈a3N:=fun m hm=>by
 have h3:m=0\/m=1\/m=2:=by omega
 rcases h3 with rfl | rfl | rfl <;> rw [a7V om_] <;> decide
theorem c9E (l:List Int) (nn:Bool) (k:Nat) (hat:k<=500000000) (hl:l.length<=maxLen) (B:Nat) (hB:6300<=B/\B<=1000000) (fl:List Fi) (hm:Q6 B fl):b8 CC 28 [.ptr 0 0,(.agg (A8 fl (gnn fl.length)))] [p9 l nn k] fun r τ=>∃ a:List Fi × Nat,F1 1 τ r (.ret (.agg (A8 a.1 (gnn a.1.length)))) [p9 l nn a.2]/\(Q6 (B+1240) a.1/\k<=a.2/\a.2<=k+1080):=by
 refine cO Tryz.func28 ?_;refine a65 ?_;refine cD (x8 rfl c3X rfl p8 ?_);refine L7 ?_;refine yc rfl Tryz.call66 trivial (a7Q _) ?_;refine de rfl a2n i7 (F3 l nn (k) _ 0 rfl om_ hl I6 de_ de_) rfl ?_;intro sp hsp;have hspa:=c14 _ hsp;have hml:=hm.len;refine z_1 ?_;refine K8 hCC (α:=Nat) (fun _=>[(0,.ptr 0 0),(3,.ptr 1 0),(4,.ptr 2 0),(5,(sv sp))]) (fun p=>[p9 l nn (p),.box (A8 fl (gnn fl.length)),.box (A8 [] false)]) (fun p=>p=k+2) r5 uz_ ?_ ?_
 ·
  refine z_2 ?_;refine de rfl a5K o7 (H6 l nn (k+1) _ 0 rfl om_ hl 9 om_) rfl ?_;intro _ _;refine a2m ?_;refine cC ?_ ?_ <;> intro h1
  ·refine A5 ?_;refine cF [] [] [0,1,2,4,3,5,6,7,8] 4 [[0,3],[0],[0],[],[]] trivial ?_;refine c1V ?_;refine chf rfl (c7 rfl e0h) ?_;refine a9L ?_;refine A6 rfl rfl rfl rfl (C1 rfl a2n i7 (F3 l nn (k+2) _ 0 rfl om_ hl a1y de_ de_) rfl ?_);intro v hv;refine ⟨⟨X8,E8,tt⟩,?_⟩;refine A6 rfl rfl rfl rfl (C1 rfl Tryz.call70 ⟨tt,tt⟩ (c1r l nn (k+3) om_ hl _ 0 rfl) rfl ?_);intro ⟨s,p4⟩ ⟨hs,hq1,hq2⟩;dsimp only at hs hq1 hq2 ⊢;refine ⟨⟨X8,tt⟩,?_⟩;refine D9 rfl rfl rfl d2H ⟨⟨X8,tt⟩,?_⟩;refine D9 rfl rfl rfl (c7 rfl (j8 rfl c0D i7 (a0Q fl _ ⟨v,s⟩ om_ _) rfl)) ⟨tt,?_⟩;refine a7T ?_;refine W2 ?_;exact ⟨_,B6 rfl a48,⟨(a6t fl ⟨v,s⟩,p4),a1x rfl P9 (.old (S3 _ _).old),(hm.mono om_).ins (c3m _ hv) do_,do_,do_⟩⟩
  ·refine D6 ?_;refine cC ?_ ?_ <;> intro h2
   ·refine A5 ?_;refine cF [] [] [0,1,2,3,4,5] 3 [[0],[],[]] trivial ?_;refine c1V ?_;refine chf rfl (c7 rfl (A2 (([[97,46,100,97,116],[100,47,98,46,100,97,116],[99],[97,46,115,114,99],[98,46,115,114,99]]:List Str).map scv) rfl ⟨rfl,rfl,rfl,rfl,rfl,tt⟩ t_1 t_0 t_3 rfl rfl rfl rfl rfl rfl rfl rfl rfl)) ?_;refine F9 ?_;refine A6 rfl rfl rfl rfl (C1 rfl a2n i7 (F3 l nn (k+2) _ 0 rfl om_ hl ([[97,46,100,97,116],[100,47,98,46,100,97,116],[99],[97,46,115,114,99],[98,46,115,114,99]]:List Str) de_ de_) rfl ?_);intro v hv;refine ⟨⟨X8,tt⟩,?_⟩;refine D9 rfl rfl rfl (c7 rfl (j8 rfl Tryz.call71 i7 (b3y fl _ v om_ _) rfl)) ⟨tt,?_⟩;refine a7T ?_;refine W2 ?_;exact ⟨_,B6 rfl a48,⟨(a44 fl v,k+3),a1x rfl P9 (.old (S3 _ _).old),(hm.mono om_).rem v,do_,do_⟩⟩
   ·refine D6 ?_;refine cC ?_ ?_ <;> intro h3
    ·refine A5 ?_;refine c54 ?_;refine a60 ?_;refine chf rfl W9 ?_;refine chf rfl c72 ?_;refine d5d ?_;intro v hv;have hv8:v.length<=8:=H7 (.inl hv);refine d3t ?_;intro ⟨s,p4⟩ ⟨hs,hq1,hq2⟩;dsimp only at hs hq1 hq2 ⊢;refine d3w ?_;refine a7T ?_;exact d4a
    ·refine D6 ?_;refine cC ?_ ?_ <;> intro h4
     ·refine z_0 ?_;refine a3f ?_;refine j5 hCC (fun i:Nat=>[(0,.ptr 0 0),(3,.ptr 1 0),(4,.ptr 2 0),(5,(sv sp)),(50,(.list (fl.map Fi.cv) (gnn fl.length) none)),(51,iv fl.length),(52,iv i)]) (fun _=>[p9 l nn (k+2),.box (A8 fl (gnn fl.length)),.box (A8 [] false)]) (fun i=>i<=fl.length) (fun i=>fl.length - i) 0 (n_3 _) tu_ (extra0:=[]) rfl r5 uz_ ?_;intro i hi;refine C9 ?_;refine cC ?_ ?_ <;> intro h5
      ·have hlt:i < fl.length:=sm_ h5;obtain ⟨y,hb,hym⟩:=Z2 hlt;have hyb:=hm.byt y hym;refine b4y ?_;refine cC ?_ ?_ <;> intro h6
       ·have hrl:(a44 fl sp).length<=fl.length:=List.length_filter_le _ _;have hb3:=a3v (l:=l) (k:=k+2) (n:=3) om_;obtain ⟨m,hmm⟩:∃ m:Nat,C7 l (k+2) 3=(m:Int):=⟨(C7 l (k+2) 3).toNat,om_⟩;have hm3:m < 3:=by omega
        have hzp:=d9c m hm3;have hdl:=a2f 0 m om_;refine A5 ?_;refine cF [] [] [0,1,2,3,8,9,4,5,6,7,10,11,12] 6 [[4,5],[4,5],[4,5],[4,5],[],[],[]] trivial ?_;refine c1V ?_;refine chf rfl (c7 rfl (j8 rfl Tryz.call71 i7 (b3y fl _ sp om_ _) rfl)) ?_;refine chf rfl W9 ?_;refine b3C ?_;refine F9 ?_;refine A6 rfl rfl rfl rfl (C1 rfl a5K o7 (H6 l nn (k+2) _ 0 rfl om_ hl 3 om_) rfl ?_);intro _ _;rw [hmm];refine ⟨⟨a6F,a5V,tt⟩,?_⟩;refine D9 rfl rfl rfl (c7 rfl (j8 rfl c49 ⟨tt,tt⟩ (a2K m om_ _) rfl)) ⟨⟨a6F,a5V,tt⟩,?_⟩;refine D9 rfl rfl rfl (c7 rfl a5n) ⟨⟨a6F,a5V,tt⟩,?_⟩;refine D9 rfl rfl rfl c3z ⟨⟨a6F,a5V,tt⟩,?_⟩;refine D9 rfl rfl rfl d2H ⟨tt,?_⟩;refine D9 rfl rfl rfl (c7 rfl (j8 rfl c0D i7 (a0Q (a44 fl sp) _ ⟨[122]++a40 m++[46,115,114,99],y.b⟩ om_ _) rfl)) ⟨tt,?_⟩;refine a7T ?_;refine W2 ?_;exact ⟨_,B6 rfl a48,⟨(a6t (a44 fl sp) ⟨[122]++a40 m++[46,115,114,99],y.b⟩,k+3),a1x rfl P9 (.old (S3 _ _).old),((hm.mono om_).rem sp).ins hzp do_,do_,do_⟩⟩
       ·exact a69
      ·exact c21
     ·refine D6 ?_;refine cC ?_ ?_ <;> intro h7
      ·refine z_0 ?_;refine a3f ?_;refine j5 hCC (fun i:Nat=>[(0,.ptr 0 0),(3,.ptr 1 0),(4,.ptr 2 0),(5,(sv sp)),(76,(.list (fl.map Fi.cv) (gnn fl.length) none)),(77,iv fl.length),(78,iv i)]) (fun _=>[p9 l nn (k+2),.box (A8 fl (gnn fl.length)),.box (A8 [] false)]) (fun i=>i<=fl.length) (fun i=>fl.length - i) 0 (n_3 _) tu_ (extra0:=[]) rfl r5 uz_ ?_;intro i hi;refine C9 ?_;refine cC ?_ ?_ <;> intro h8
       ·have hlt:i < fl.length:=sm_ h8;obtain ⟨y,hb,hym⟩:=Z2 hlt;have hyb:=hm.byt y hym;refine b4y ?_;refine cC ?_ ?_ <;> intro h9
        ·have hb3:=a3v (l:=l) (k:=k+2) (n:=100) om_;obtain ⟨m,hmm⟩:∃ m:Nat,C7 l (k+2) 100=(m:Int):=⟨(C7 l (k+2) 100).toNat,om_⟩;have hm3:m < 100:=by omega
         have hdl:=a2f 1 m om_;refine A5 ?_;refine cF [] [] [0,1,2,7,8,3,4,5,6,9,10,11,12] 5 [[0,1,3,4],[0,1,3,4],[0,1,3,4],[0,1,3,4],[0,1],[0],[],[]] trivial ?_;refine chf rfl a9N ?_;refine a60 ?_;refine b3C ?_;refine F9 ?_;refine A6 rfl rfl rfl rfl (C1 rfl a5K o7 (H6 l nn (k+2) _ 0 rfl om_ hl 100 om_) rfl ?_);intro _ _;rw [hmm];refine ⟨⟨X8,E8,a6F,a5V,tt⟩,?_⟩;refine D9 rfl rfl rfl (c7 rfl (j8 rfl c49 ⟨tt,tt⟩ (a2K m om_ _) rfl)) ⟨⟨X8,E8,a6F,a5V,tt⟩,?_⟩;refine D9 rfl rfl rfl (c7 rfl a5n) ⟨⟨X8,E8,a6F,a5V,tt⟩,?_⟩;refine D9 rfl rfl rfl c3z ⟨⟨X8,E8,a6F,a5V,tt⟩,?_⟩;refine d3T ?_;refine D9 rfl rfl rfl (c7 rfl (j8 rfl c0D i7 (a0Q fl _ ⟨sp,[35,32]++a40 m++[10,32,32]++y.b⟩ om_ _) rfl)) ⟨tt,?_⟩;refine a7T ?_;refine W2 ?_;exact ⟨_,B6 rfl a48,⟨(a6t fl ⟨sp,[35,32]++a40 m++[10,32,32]++y.b⟩,k+3),a1x rfl P9 (.old (S3 _ _).old),(hm.mono om_).ins (hspa) b49,do_,do_⟩⟩
        ·exact a69
       ·exact c21
      ·refine D6 ?_;refine cC ?_ ?_ <;> intro h10
       ·refine z_0 ?_;refine a3f ?_;refine j5 hCC (fun i:Nat=>[(0,.ptr 0 0),(3,.ptr 1 0),(4,.ptr 2 0),(5,(sv sp)),(102,(.list (fl.map Fi.cv) (gnn fl.length) none)),(103,iv fl.length),(104,iv i)]) (fun _=>[p9 l nn (k+2),.box (A8 fl (gnn fl.length)),.box (A8 [] false)]) (fun i=>i<=fl.length) (fun i=>fl.length - i) 0 (n_3 _) tu_ (extra0:=[]) rfl r5 uz_ ?_;intro i hi;refine C9 ?_;refine cC ?_ ?_ <;> intro h11
        ·have hlt:i < fl.length:=sm_ h11;obtain ⟨y,hb,hym⟩:=Z2 hlt;have hyb:=hm.byt y hym;refine b4y ?_;refine cC ?_ ?_ <;> intro h12
         ·refine b04 ?_;refine cY j1 ?_;refine a6n ?_;refine cY V8 ?_;refine cY (A9 #[(0,1),(1,1)] rfl i7 b7V a6r rfl ⟨_,rfl⟩ (fun w=>by kernel_rfl) rfl rfl) ?_;refine ye rfl c0D i7 (a0Q fl _ ⟨sp,y.b++[102,117,110,99]⟩ om_ _) rfl ?_;refine b8o ?_;exact ⟨_,B6 rfl a48,⟨(a6t fl ⟨sp,y.b++[102,117,110,99]⟩,k+2),a1x rfl P9 (.old (S3 _ _).old),(hm.mono om_).ins (hspa) b49,do_,do_⟩⟩
         ·exact a69
        ·exact c21
       ·refine c9 ?_;exact ⟨(k+2),_,rfl,tu_,rfl⟩
 ·intro p hp;subst hp;refine K8 hCC (α:=Nat) (fun _=>[(0,.ptr 0 0),(3,.ptr 1 0),(4,.ptr 2 0),(5,(sv sp))]) (fun p=>[p9 l nn (p),.box (A8 fl (gnn fl.length)),.box (A8 [] false)]) (fun p=>p=k+2) r5 uz_ ?_ ?_
  ·
   refine z_0 ?_;refine a3f ?_;refine j5 hCC (fun i:Nat=>[(0,.ptr 0 0),(3,.ptr 1 0),(4,.ptr 2 0),(5,(sv sp)),(121,(.list (fl.map Fi.cv) (gnn fl.length) none)),(122,iv fl.length),(123,iv i)]) (fun _=>[p9 l nn (k+2),.box (A8 fl (gnn fl.length)),.box (A8 [] false)]) (fun i=>i<=fl.length) (fun i=>fl.length - i) 0 (n_3 _) tu_ (extra0:=[]) rfl r5 uz_ ?_;intro i hi;refine C9 ?_;refine cC ?_ ?_ <;> intro h13
   ·have hlt:i < fl.length:=sm_ h13;obtain ⟨y,hb,hym⟩:=Z2 hlt;have hyb:=hm.byt y hym;refine b4y ?_;refine cC ?_ ?_ <;> intro h14
    ·refine A5 ?_;refine cF [] [] [0,1,2,3,4,5,6,7,8,9] 5 [[0,1,2,3],[0,1],[0],[],[]] trivial ?_;refine c1V ?_;refine b3C ?_;refine a9L ?_;refine A6 rfl rfl rfl rfl (C1 rfl Tryz.call73 ⟨tt,tt⟩ (c3p l nn (k+2) om_ hl _ 0 rfl) rfl ?_);intro ⟨s,p4⟩ ⟨hs,hq1,hq2⟩;dsimp only at hs hq1 hq2 ⊢;refine ⟨⟨X8,E8,a6F,a5V,tt⟩,?_⟩;refine d3T ?_;refine D9 rfl rfl rfl (c7 rfl (j8 rfl c0D i7 (a0Q fl _ ⟨sp,y.b++s⟩ om_ _) rfl)) ⟨tt,?_⟩;refine a7T ?_;refine W2 ?_;exact ⟨_,B6 rfl a48,⟨(a6t fl ⟨sp,y.b++s⟩,p4),a1x rfl P9 (.old (S3 _ _).old),(hm.mono om_).ins (hspa) (by show List.length _<=_;simp only [n_5];omega),do_,do_⟩⟩
    ·exact a69
   ·exact c21
  ·intro p hp;subst hp;refine A5 ?_;refine c54 ?_;refine a60 ?_;refine chf rfl W9 ?_;refine chf rfl c72 ?_;refine d5d ?_;intro v hv;have hv8:v.length<=8:=H7 (.inl hv);refine d3t ?_;intro ⟨s,p4⟩ ⟨hs,hq1,hq2⟩;dsimp only at hs hq1 hq2 ⊢;refine d3w ?_;refine a7T ?_;exact d4a
theorem d1T (l:List Int) (nn:Bool) (k:Nat) (hat:k<=500000000) (hl:l.length<=maxLen) (B:Nat) (hB:6300<=B/\B<=1000000) (fl:List Fi) (hm:Q6 B fl) (σ:List b9) (q:Nat) (hq:σ[q]? = some (p9 l nn k)):b8 CC 28 [.ptr q 0,(.agg (A8 fl (gnn fl.length)))] σ fun r τ=>∃ a:List Fi × Nat,r = .ret (.agg (A8 a.1 (gnn a.1.length)))/\τ=σ.set q (p9 l nn a.2)/\(Q6 (B+1240) a.1/\k<=a.2/\a.2<=k+1080) :=
 a8r (c:=fun a:List Fi × Nat=>(.agg (A8 a.1 (gnn a.1.length)))) (S:=fun a=>p9 l nn a.2) hCC (fun a h=>by simp at h;subst h;exact S3 _ _) (fun _=>S3 _ _) (fun _=>B8 _ _ _) (B8 _ _ _) rfl (c9E l nn k hat hl B hB fl hm) σ q hq
def a0o:List Str:=[[109],[110]]
structure a9J (ev:List Va):Prop where
 sub:(ev.map Va.n).Sublist a0o
 rng:∀ v∈ev,-9007199254740992<=v.v/\v.v<=9007199254740992
theorem a9J.len (h:a9J ev):ev.length<=2:=by
 have:=h.sub.length_le;rw [a2O] at this;exact this
theorem b9n (ev:List Va) (nn:Bool):r9 (.agg (G3 ev nn)):=o3 (cs:=G3 _ _) ⟨S2 _ _,tt⟩
theorem d1x {L:Nat} {sel:List Nat} {l:List Va} {nn:Bool} {tok:Option Nat}:D2 L sel (.agg [.list (l.map Va.cv) nn tok]) (.agg (G3 l nn)) :=
 .agg rfl fun i c c' h h'=>by
  rcases i with _ | i
  ·injection h with h;injection h' with h';subst h h';exact Y4 (f:=Va.cv) Va.pure _
  ·cases h
theorem b0v (l:List Int) (nn:Bool) (k:Nat) (hat:k<=500000000) (hl:l.length<=maxLen):b8 CC 33 [.ptr 0 0] [p9 l nn k] fun r τ=>∃ a:List Va × Nat,F1 1 τ r (.ret (.agg (G3 a.1 (gnn a.1.length)))) [p9 l nn a.2]/\(a9J a.1/\k<=a.2/\a.2<=k+4):=by
 refine cO Tryz.func33 ?_;refine z_0 ?_;refine cD (x8 rfl c2N rfl p8 ?_);refine S5 ?_;refine cD (x8 rfl c2N rfl p8 ?_);refine T5 ?_;refine cY (A2 (a0o.map scv) rfl ⟨rfl,rfl,tt⟩ t_1 t_0 t_3 rfl rfl rfl rfl rfl rfl rfl rfl rfl) ?_;refine a1i ?_;refine B2 hCC 3 rfl (α:=List Va × Nat × Nat) (fun x=>[(0,.ptr 0 0),(2,.ptr 1 0),(3,.ptr 2 0),(6,(.list (a0o.map scv) true none)),(7,iv a0o.length),(8,iv x.2.2)]) (fun x=>[p9 l nn x.2.1,.box (G3 [] false),.box [(.list (x.1.map Va.cv) (gnn x.1.length) (G9 x.1.length 3))],u0 x.1.length]) (fun x=>x.2.2<=a0o.length/\x.1.length<=x.2.2/\(x.1.map Va.n).Sublist (a0o.take x.2.2)/\(∀ v∈x.1,-9007199254740992<=v.v/\v.v<=9007199254740992)/\k<=x.2.1/\x.2.1<=k+x.2.2*2) (fun x=>a0o.length - x.2.2) ⟨([],k,0),[0,1,2,9],⟨n_3 _,n_3 _,.slnil,(fun v hv=>by cases hv),n_4 _,n_4 _⟩,⟨rfl,rfl⟩,ut_,⟨.inr ⟨_,rfl,.same rfl P9⟩,.inr ⟨_,rfl,.same rfl (o9 ⟨I9 _ ([]:List Va) _,tt⟩)⟩,.inr ⟨_,rfl,.box ⟨.same rfl (I9 _ ([]:List Va) _),tt⟩⟩,.inl rfl,tt⟩⟩ ?_;intro ⟨ev,p,i⟩ ⟨hi,hel,hs,hr,hp1,hp2⟩;dsimp only at hi hel hs hr hp1 hp2 ⊢;have hL:a0o.length=2:=rfl;refine C9 ?_;refine cC ?_ ?_ <;> intro h1
 ·have hlt:i < a0o.length:=sm_ h1;obtain ⟨y,hb,hym⟩:=Z2 hlt;have htk:a0o.take (i+1)=a0o.take i++[y]:=by rw [a4F,hb];rfl
  refine a6S ?_;refine O0 ?_;refine de rfl a8h a2J (G5 l nn p _ 0 rfl om_ hl 2 3 om_) rfl ?_;intro _ _;refine c8 ?_;refine cC ?_ ?_ <;> intro h2
  ·refine cF [] [] [0,1,2,3,4,5,6,7,8,9,10] 5 [[0,1,2],[0,1],[0,1],[],[],[]] trivial ?_;refine chf rfl (c7 rfl c8w) ?_;refine chf rfl (c7 rfl d6C) ?_;refine a60 ?_;refine chf rfl (c7 rfl (A2 ([0,1,-1,5,9007199254740992,-9007199254740992].map icv) rfl ⟨rfl,rfl,rfl,rfl,rfl,rfl,tt⟩ t_4 t_2 t_6 rfl rfl rfl rfl rfl rfl rfl rfl rfl)) ?_;refine F9 ?_;refine A6 rfl rfl rfl rfl (C1 rfl d0K i7 (a3G l nn (p+1) _ 0 rfl om_ hl [0,1,-1,5,9007199254740992,-9007199254740992] si_ si_) rfl ?_);intro v hv;have hvr : -9007199254740992<=v/\v<=9007199254740992:=by
    simp only [R5,b2M,or_false] at hv;omega
   refine ⟨⟨c59,c9n,E8,tt⟩,?_⟩;refine D9 rfl rfl rfl (c7 rfl (A9 #[(0,1),(1,1)] rfl i7 c4q c3I rfl ⟨_,rfl⟩ (fun w=>by kernel_rfl) rfl rfl)) ⟨⟨c59,c9n,tt⟩,?_⟩;refine D9 rfl rfl rfl (c7 rfl (A2 [Va.cv (⟨y,v⟩:Va)] rfl ⟨tt,tt⟩ c5G b6M c3I rfl rfl rfl rfl rfl rfl rfl rfl rfl)) ⟨⟨c59,c9n,tt⟩,?_⟩;refine A6 rfl rfl rfl rfl (C5 rfl tt tt rfl si_ q_2 c5G b6M Tryz.typeInfo129 c3I rfl (.inr rfl) q_8 (by have hb:Tryz.t129.bytes=24:=rfl;rw [hb];first|omega|(simp;done)|(simp;omega)) E7 ((ev++[(⟨y,v⟩:Va)]).map Va.cv) (ev++[(⟨y,v⟩:Va)]).length si_ si_ ?_);refine ⟨tt,?_⟩;refine D9 rfl rfl rfl (c7 rfl c8w) ⟨tt,?_⟩;refine A6 rfl rfl rfl rfl (j6 rfl tt tt rfl c4 c12 (.inl rfl) rfl rfl (nb rfl) ?_);refine a2C ?_;refine b0I ?_;exact ⟨(ev++[(⟨y,v⟩:Va)],p+2,i+1),[0,1,2,4],⟨do_,do_,by simp only [n_5,n_7,I4];omega,by dsimp only;rw [htk,b5x];exact hs.append (.refl _),(fun x hx=>by
    rcases X1.1 hx with hx | hx
    ·exact hr x hx
    ·rw [c0J.1 hx];exact hvr),do_,do_⟩,⟨rfl,rfl⟩,ut_,⟨.inr ⟨_,rfl,.same rfl P9⟩,.inr ⟨_,rfl,.same rfl (o9 ⟨I9 _ ([]:List Va) _,tt⟩)⟩,.inr ⟨_,rfl,.box ⟨D2.grow (f:=Va.cv) (fun a=>⟨.val _,.val _,tt⟩) rfl,tt⟩⟩,.inr ⟨_,rfl,.same rfl C3⟩,tt⟩⟩
  ·refine a2l ?_;exact ⟨(ev,p+1,i+1),[0,1,2,3],⟨do_,do_,do_,by dsimp only;rw [htk];exact hs.trans (List.sublist_append_left _ _),hr,do_,do_⟩,⟨rfl,rfl⟩,ut_,⟨.inr ⟨_,rfl,.same rfl P9⟩,.inr ⟨_,rfl,.same rfl (o9 ⟨I9 _ ([]:List Va) _,tt⟩)⟩,.inr ⟨_,rfl,.box ⟨D2.grow (f:=Va.cv) (fun a=>⟨.val _,.val _,tt⟩) rfl,tt⟩⟩,.inr ⟨_,rfl,.same rfl C3⟩,tt⟩⟩
 ·have hie:i=2:=sm_ h1;subst hie;refine U9 ?_;refine d4p ?_;refine a1n ?_;exact ⟨_,B6 rfl ⟨tt,_,_,_,rfl,rfl,.inr ⟨_,b6D,b6g,nb rfl,rfl⟩⟩,⟨(ev,p),a1x rfl P9 d1x,⟨hs,hr⟩,do_,do_⟩⟩
theorem a5o (l:List Int) (nn:Bool) (k:Nat) (hat:k<=500000000) (hl:l.length<=maxLen) (σ:List b9) (q:Nat) (hq:σ[q]? = some (p9 l nn k)):b8 CC 33 [.ptr q 0] σ fun r τ=>∃ a:List Va × Nat,r = .ret (.agg (G3 a.1 (gnn a.1.length)))/\τ=σ.set q (p9 l nn a.2)/\(a9J a.1/\k<=a.2/\a.2<=k+4) :=
 a8r (c:=fun a:List Va × Nat=>(.agg (G3 a.1 (gnn a.1.length)))) (S:=fun a=>p9 l nn a.2) hCC (fun a h=>by simp at h) (fun _=>b9n _ _) (fun _=>B8 _ _ _) (B8 _ _ _) rfl (b0v l nn k hat hl) σ q hq
theorem b5t (fl:List Fi) (ev:List Va):r9 (.tup [.agg (A8 fl (gnn fl.length)),.agg (G3 ev (gnn ev.length))]):=B9 (cs:=[_,_]) ⟨S3 _ _,b9n _ _,tt⟩
theorem c4e (l:List Int) (nn:Bool) (k:Nat) (hat:k<=400000000) (hl:l.length<=maxLen):b8 CC 11 [.ptr 0 0] [p9 l nn k] fun r τ=>∃ a:(List Fi × List Va) × Nat,F1 1 τ r (.ret (.tup [.agg (A8 a.1.1 (gnn a.1.1.length)),.agg (G3 a.1.2 (gnn a.1.2.length))])) [p9 l nn a.2]/\(Q6 7540 a.1.1/\a9J a.1.2/\k<=a.2/\a.2<=k+5500):=by
 refine cO Tryz.func11 ?_;refine z_0 ?_;refine d3M ?_;refine L7 ?_;refine de rfl Tryz.call27 ⟨tt,tt⟩ (b81 l nn k om_ hl _ 0 rfl) rfl ?_;intro ⟨fl,p⟩ ⟨hm,hp1,hp2⟩;dsimp only at hm hp1 hp2 ⊢;refine d5Y ?_;refine a9l ?_;refine de rfl a8h a2J (G5 l nn p _ 0 rfl om_ hl 1 2 om_) rfl ?_;intro _ _;refine c8 ?_;refine cC ?_ ?_ <;> intro h1
 ·refine z_4 ?_;refine cY X3 ?_;refine de rfl Tryz.call28 i7 (d1T l nn (p+1) om_ hl 6300 ⟨om_,om_⟩ fl hm _ 0 rfl) rfl ?_;intro ⟨fl2,p2⟩ ⟨hm2,hq1,hq2⟩;dsimp only at hm2 hq1 hq2 ⊢;refine cD (j6 rfl tt tt rfl c4 b0i p8 rfl rfl (nb rfl) ?_);refine z_9 ?_;refine cF [] [] [0,1,2,3,4] 2 [[0],[],[]] trivial ?_;refine chf rfl a9N ?_;refine a9L ?_;refine A6 rfl rfl rfl rfl (C1 rfl Tryz.call33 ⟨tt,tt⟩ (a5o l nn p2 om_ hl _ 0 rfl) rfl ?_);intro ⟨ev,p3⟩ ⟨he,hr1,hr2⟩;dsimp only at he hr1 hr2 ⊢;refine ⟨⟨X8,tt⟩,?_⟩;refine d7a ?_;refine d4D ?_;refine W2 ?_;exact ⟨_,j9 (rs:=[.cell 2 32,.cell 3 25]) (cs:=[_,_]) rfl d9k (n_2 rfl),⟨((fl2,ev),p3),a1x rfl P9 (.old (b5t _ _).old),hm2,he,do_,do_⟩⟩
 ·refine z_8 ?_;refine cF [] [] [0,1,2,3,4] 2 [[0],[],[]] trivial ?_;refine chf rfl a9N ?_;refine a9L ?_;refine A6 rfl rfl rfl rfl (C1 rfl Tryz.call33 ⟨tt,tt⟩ (a5o l nn (p+1) om_ hl _ 0 rfl) rfl ?_);intro ⟨ev,p3⟩ ⟨he,hr1,hr2⟩;dsimp only at he hr1 hr2 ⊢;refine ⟨⟨X8,tt⟩,?_⟩;refine d7a ?_;refine d4D ?_;refine W2 ?_;exact ⟨_,j9 (rs:=[.cell 2 32,.cell 3 25]) (cs:=[_,_]) rfl d9k (n_2 rfl),⟨((fl,ev),p3),a1x rfl P9 (.old (b5t _ _).old),hm.mono om_,he,do_,do_⟩⟩
theorem d0F (l:List Int) (nn:Bool) (k:Nat) (hat:k<=400000000) (hl:l.length<=maxLen) (σ:List b9) (q:Nat) (hq:σ[q]? = some (p9 l nn k)):b8 CC 11 [.ptr q 0] σ fun r τ=>∃ a:(List Fi × List Va) × Nat,r = .ret (.tup [.agg (A8 a.1.1 (gnn a.1.1.length)),.agg (G3 a.1.2 (gnn a.1.2.length))])/\τ=σ.set q (p9 l nn a.2)/\(Q6 7540 a.1.1/\a9J a.1.2/\k<=a.2/\a.2<=k+5500) :=
 a8r (c:=fun a:(List Fi × List Va) × Nat=>(.tup [.agg (A8 a.1.1 (gnn a.1.1.length)),.agg (G3 a.1.2 (gnn a.1.2.length))])) (S:=fun a=>p9 l nn a.2) hCC (fun a h=>by simp at h) (fun _=>b5t _ _) (fun _=>B8 _ _ _) (B8 _ _ _) rfl (c4e l nn k hat hl) σ q hq
theorem a9J.vr (h:a9J ev):∀ v∈ev,-9223372036854775808<=v.v/\v.v<=9223372036854775807:=fun v hv=>by have:=h.rng v hv;omega
def c0m (q:Nm) (x:Src):List De:=x.decls.filter fun d=>decide (deK x d=q)
theorem a58 (k:Int) (o pa pk:Str):∀ (l:List De) (j:Nat) (e:En),(fiD k o pa pk l j e).k=e.k/\(fiD k o pa pk l j e).o=e.o/\((fiD k o pa pk l j e).p=e.p\/(fiD k o pa pk l j e).p=pk)/\(fiD k o pa pk l j e).ct=e.ct+((l.filter fun d=>d.k == k && decide (d.name=o)).length:Int)
 | [],_,e=>⟨rfl,rfl,.inl rfl,by simp [fiD]⟩
 | d::l,j,e=>by
  unfold fiD;rw [b0s]
  split
  ·split
   ·obtain ⟨h1,h2,h3,h4⟩:=a58 k o pa pk l (j+1) ⟨pk,e.o,e.k,pa,j,e.ct+1⟩;exact ⟨h1,h2,.inr (h3.elim id id),by rw [h4,n_7];simp only;omega⟩
   ·obtain ⟨h1,h2,h3,h4⟩:=a58 k o pa pk l (j+1) ⟨e.p,e.o,e.k,e.pl,e.ix,e.ct+1⟩;exact ⟨h1,h2,h3,by rw [h4,n_7];simp only;omega⟩
  ·exact a58 k o pa pk l (j+1) e
theorem c0l (h:k≠3->x.pkg=p):(x.decls.filter fun d=>d.k == k && decide (d.name=o))=c0m (G7 k p o) x:=by
 unfold c0m;refine List.filter_congr fun d _=>?_;rw [Bool.eq_iff_iff];simp only [a0i,beq_iff_eq,a2t,deK,G7,Nm.mk.injEq];constructor
 ·rintro ⟨rfl,rfl⟩;refine ⟨rfl,?_,rfl⟩
  split
  ·rfl
  ·rename_i h3;exact h h3
 ·rintro ⟨h1,_,h3⟩;exact ⟨h1,h3⟩
theorem c6E (h:k≠3) (hp:x.pkg≠p):c0m (G7 k p o) x=[]:=by
 unfold c0m;rw [List.filter_eq_nil_iff];intro d _ he;simp only [a2t,deK,G7,Nm.mk.injEq] at he;obtain ⟨h1,h2,_⟩:=he;rw [h1,if_neg h,if_neg h] at h2;exact hp h2
theorem a8L (k:Int) (p o:Str):∀ (L:List (Str × Src)) (e:En),(k≠3->e.p=p)->(fiL k p o L e).k=e.k/\(fiL k p o L e).o=e.o/\(k≠3->(fiL k p o L e).p=p)/\(fiL k p o L e).ct=e.ct+((L.flatMap fun x=>c0m (G7 k p o) x.2).length:Int)
 | [],e,h=>⟨rfl,rfl,h,by simp [fiL]⟩
 | x::L,e,h=>by
  unfold fiL;rw [b7l,n_5]
  split
  ·rename_i hc;simp only [a0i,bne_iff_ne,b6x,decide_eq_false_iff_not,ne_eq] at hc;obtain ⟨h1,h2,h3,h4⟩:=a8L k p o L e h;exact ⟨h1,h2,h3,by rw [h4,c6E hc.1 hc.2];simp⟩
  ·rename_i hc;have hp:k≠3->x.2.pkg=p:=fun h3=>by
    simp only [a0i,bne_iff_ne,b6x,decide_eq_false_iff_not,ne_eq,not_and,Decidable.not_not] at hc;exact hc h3
   obtain ⟨g1,g2,g3,g4⟩:=a58 k o x.1 x.2.pkg x.2.decls 0 e;obtain ⟨h1,h2,h3,h4⟩:=a8L k p o L (fiD k o x.1 x.2.pkg x.2.decls 0 e) fun h3=>g3.elim (fun e1=>e1.trans (h h3)) fun e1=>e1.trans (hp h3);exact ⟨h1.trans g1,h2.trans g2,h3,by rw [h4,g4,c0l hp];omega⟩
theorem b6p (q:Nm):∀ fl:List Fi,(occ q fl).length=((B0 fl).flatMap fun x=>c0m q x.2).length
 | []=>rfl
 | f::fl=>by
  have ih:=b6p q fl;have e1:occ q (f::fl)=b9W q f++occ q fl:=by simp [occ]
  rw [e1,n_5,ih];unfold b9W B0;rw [List.filterMap_cons,show b0j f.p f.b=a0h f from rfl];cases a0h f with
  | none=>simp
  | some x=>simp [c0m]
theorem a7s {x:Str × Src} (h:x∈B0 fl):∃ f∈fl,a0h f=some x.2:=by
 obtain ⟨f,hf,he⟩:=c2m.1 h;rw [O3] at he;obtain ⟨s,hs,rfl⟩:=he;exact ⟨f,hf,hs⟩
theorem b14 (h:a0h f=some x):a3z x:=by
 unfold a0h at h;split at h
 ·exact b3B h
 ·cases h
theorem c1t:(B0 fl).length<=fl.length/\∀ x∈B0 fl,x.2.decls.length<=100000:=by
 refine ⟨List.length_filterMap_le _ _,fun x hx=>?_⟩;obtain ⟨f,_,hs⟩:=a7s hx;have:=(b14 hs).decl;omega
def PlE (L:List (Str × Src)) (q:Nm) (e:En):Prop:=0<=e.ct/\(e.ct≠0->∃ x∈L,∃ (i:Nat) (d:De),x.2.decls[i]? = some d/\e.pl=x.1/\e.ix=(i:Int)/\deK x.2 d=q)
theorem d0j {L:List (Str × Src)} {x:Str × Src} (hx:x∈L) (k:Int) (p o:Str) (hp:k≠3->x.2.pkg=p):∀ (l:List De) (j:Nat) (e:En),x.2.decls.drop j=l->PlE L (G7 k p o) e->PlE L (G7 k p o) (fiD k o x.1 x.2.pkg l j e)
 | [],j,e,_,h=>h
 | d::l,j,e,hl,h=>by
  have hj:x.2.decls[j]? = some d:=by
   have:=congrArg (fun m:List De=>m[0]?) hl;simpa using this
  rw [fiD];refine d0j hx k p o hp l (j+1) _ (by rw [<- List.tail_drop,hl];rfl) ?_;have h0:=h.1
  split
  ·rename_i hh;have hq:deK x.2 d=G7 k p o:=by
    simp only [a0i,beq_iff_eq,a2t] at hh;unfold deK G7;rw [hh.1,hh.2];by_cases h3:k=3
    ·rw [if_pos h3,if_pos h3]
    ·rw [if_neg h3,if_neg h3,hp h3]
   split
   ·exact ⟨do_,fun _=>⟨x,hx,j,d,hj,rfl,rfl,hq⟩⟩
   ·rename_i h1;have h2:e.ct≠0:=fun h2=>h1 (by rw [h2];rfl);exact ⟨do_,fun _=>h.2 h2⟩
  ·exact h
theorem c6h {L:List (Str × Src)} (k:Int) (p o:Str):∀ (M:List (Str × Src)) (e:En),(∀ x∈M,x∈L)->PlE L (G7 k p o) e->PlE L (G7 k p o) (fiL k p o M e)
 | [],e,_,h=>h
 | x::M,e,hM,h=>by
  rw [fiL];refine c6h k p o M _ (fun y hy=>hM y (by simp [hy])) ?_
  split
  ·exact h
  ·rename_i hc;refine d0j (hM x si_) k p o (fun h3=>?_) _ 0 e rfl h;simp only [a0i,bne_iff_ne,b6x,decide_eq_false_iff_not,ne_eq,not_and,Decidable.not_not] at hc;exact hc h3
theorem c8V (L:List (Str × Src)) (k:Int) (p o:Str):PlE L (G7 k p o) (fiE L k p o):=c6h k p o L _ (fun _ h=>h) ⟨b3b _,fun h=>absurd rfl h⟩
theorem b0J (h:fl.Pairwise fun a b=>a.p < b.p):(B0 fl).Pairwise fun x y=>x.1≠y.1:=by
 unfold B0;refine List.Pairwise.filterMap _ (fun a b hab x hx y hy e=>?_) h;rw [O3] at hx hy;obtain ⟨_,_,rfl⟩:=hx;obtain ⟨_,_,rfl⟩:=hy;replace e:a.p=b.p:=e;rw [e] at hab;exact List.lt_irrefl _ hab
theorem b4R {L:List (Str × Src)} (h:L.Pairwise fun x y=>x.1≠y.1) {x:Str × Src} (hx:x∈L):L.find? (fun y=>decide (y.1=x.1))=some x:=by
 induction L with
 | nil=>cases hx
 | cons z l ih =>
  rw [b12] at h;rw [b7p]
  rcases R5.1 hx with rfl | hx
  ·simp
  ·rw [show decide (z.1=x.1)=false from a1W (h.1 x hx)];exact ih h.2 hx
theorem c2W (h:B7 fl=0):fl.Pairwise fun a b=>a.p < b.p:=by
 unfold B7 at h;split at h
 ·cases h
 ·exact (b5I h).2
theorem d7v (h:B7 fl=0) (k:Int) (p o:Str):c6y (B0 fl) k p o:=fun h0 _=>by
 obtain ⟨x,hx,i,d,hd,hpl,hix,_⟩:=(c8V (B0 fl) k p o).2 h0;obtain ⟨f,_,hs⟩:=a7s hx;refine ⟨x.2,d,i,?_,b14 hs,hd⟩;unfold a8C;rw [hpl,b4R (b0J (c2W h)) hx,hix]
theorem d0O {L:List (Str × Src)} (h:∀ x∈L,x.2.imports.length<=8):(b19 L).length<=8*L.length:=by
 unfold b19
 induction L with
 | nil=>exact n_4 _
 | cons x l ih =>
  have h1:=h x si_;have h2:=ih fun y hy=>h y (by simp [hy]);rw [b7l,n_5,n_7];omega
theorem c6k (h:B7 fl=0):d3e fl (B0 fl):=by
 obtain ⟨h1,h2⟩:=a7r h;have hs:∀ x∈B0 fl,a3z x.2:=fun x hx=>by
  obtain ⟨f,_,hs⟩:=a7s hx;exact b14 hs
 have hl:=(c1t (fl:=fl)).1;refine ⟨om_,om_,?_,fun x hx=>?_,fun q b hb=>?_,(c1t (fl:=fl)).2,fun x hx s hsm=>?_,fun k p o=>d7v h k p o⟩
 ·have:=d0O (L:=B0 fl) fun x hx=>(hs x hx).impl;omega
 ·obtain ⟨f,hf,he⟩:=c2m.1 hx;rw [O3] at he;obtain ⟨_,_,rfl⟩:=he;have:=L1 (h2 f hf).1;show f.p.length<=1000;omega
 ·obtain ⟨f,hf,rfl⟩:=b4m hb;have:=(h2 f hf).2;omega
 ·have:=B4 ((hs x hx).imp s hsm).1;omega
theorem c3c:∀ {l:List Va} {pv:Option Va},evB pv l=true->∀ v∈l,-9007199254740992<=v.v/\v.v<=9007199254740992
 | [],_,_,_,h=>by cases h
 | x::l,pv,h,v,hv=>by
  rw [evB,a0i] at h
  rcases R5.1 hv with rfl | hv
  ·have h1:=h.1;unfold a1V at h1;simp only [a0i,a2t] at h1;exact h1.1.2
  ·exact c3c h.2 v hv
theorem c1O (h:a2r ev=true) {s:Str} {z:Int} (hz:a1b ev s=some z) : -9007199254740992<=z/\z<=9007199254740992:=by
 unfold a1b at hz;rw [O3] at hz;obtain ⟨x,hx,rfl⟩:=hz;exact c3c (c2y.1 h).2 x (b9v hx)
theorem c2g {k:Ky} (h:a0B k=true):k.a.length<=1000:=by
 unfold a0B at h;split at h
 ·have:=B4 (c2y.1 h).1;omega
 ·split at h
  ·have:=L1 (c2y.1 h).1;omega
  ·split at h
   ·have:=B4 (c2y.1 h).1;omega
   ·cases h
theorem b4v (h:fl.Pairwise fun a b=>a.p < b.p):∀ f∈fl,B5 fl f.p=some f.b:=by
 induction fl with
 | nil=>intro f hf;cases hf
 | cons x l ih =>
  intro f hf;rw [b12] at h;unfold B5;rw [b7p]
  rcases R5.1 hf with rfl | hf
  ·simp
  ·have hne:x.p≠f.p:=fun e=>by
    have:=h.1 f hf;rw [e] at this;exact List.lt_irrefl _ this
   rw [show decide (x.p=f.p)=false from a1W hne];exact ih h.2 f hf
noncomputable def cR1 (fl:List Fi) (ev:List Va) (k:Ky):Option Str:=if B7 fl=0/\a2r ev=true/\a0B k=true then some (inR fl (B0 fl) ev k) else none
theorem c8t (nn:Bool) (h:B7 fl=0) (σ:List b9):b8 CC 55 [.agg (A8 fl nn)] σ fun r τ=>r = .ret (.agg (a0x ((B0 fl).map Prod.fst) ((B0 fl).map Prod.snd)))/\τ=σ:=by
 have hl:=c6k h;refine c5p rfl nn h hl.hl (fun f hf=>?_) (fun q b hb=>by have:=hl.hbl q b hb;omega) (fun _=>b4v (c2W h)) σ;have:=L1 ((a7r h).2 f hf).1;omega
theorem b5C (fl:List Fi) (nn:Bool) (ev:List Va) (en:Bool) (k:Ky):b8 CC 15 [.agg (A8 fl nn),.agg (G3 ev en),.agg k.cells] [] fun r τ=>∃ _:Unit,a1e 0 τ r (.ret (a64 (cR1 fl ev k)))/\True:=by
 refine cO Tryz.func15 ?_;refine c7g ?_;refine b18 ?_;refine cY X3 ?_;refine yc rfl c3B ⟨tt,tt⟩ (a3Q fl nn _) ?_;refine a6s ?_;refine d6e ?_;refine cG a6C ?_;refine cY a1f ?_;refine cY j1 ?_;refine cG (fun hg=>R8 rfl tt rfl c1q a4J rfl (nb rfl)) ?_;refine cG (fun hg=>j8 rfl Tryz.call36 ⟨hg,tt⟩ (a9E k _) rfl) ?_;refine b2P ?_;refine cC ?_ ?_ <;> intro h1
 ·have hv:¬ (B7 fl=0/\a2r ev=true/\a0B k=true):=by
   rintro ⟨u1,u2,u3⟩;simp [u1,u2,u3] at h1
  refine z_0 ?_;refine a3P ?_;exact ⟨_,j9 (rs:=[.tmp 6,.tmp 7]) (cs:=[_,_]) rfl S6 (n_2 rfl),(by rw [cR1,if_neg hv];exact ⟨(),.ret (.tups ⟨.old (.val _),.old (.val _),tt⟩),tt⟩)⟩
 ·have hv:(B7 fl=0/\a2r ev=true)/\a0B k=true:=sp_ h1;obtain ⟨⟨v1,v2⟩,v3⟩:=hv;refine z_8 ?_;refine cW 8 ?_;refine hY X3 ?_;refine hY X3 ?_;refine hY (j8 rfl Tryz.call55 ⟨tt,tt⟩ (c8t nn v1 _) rfl) ?_;refine hY a9Z ?_;refine hY a3a ?_;refine hY (j8 rfl Tryz.call54 a1v (b80 fl nn (B0 fl) ev en k (c6k v1) (by have:=a83 v2;omega) (fun z hz=>c1O v2 hz) (c2g v3) _) rfl) ?_;refine hY Q1 ?_;refine hY a2H ?_;refine P8 ?_;refine a1n ?_;exact ⟨_,j9 (rs:=[.tmp 6,.tmp 7]) (cs:=[_,_]) rfl S6 (n_2 rfl),(by rw [cR1,if_pos ⟨v1,v2,v3⟩];exact ⟨(),.ret (.tups ⟨.old (.val _),.old (.val _),tt⟩),tt⟩)⟩
theorem b6J (fl:List Fi) (nn:Bool) (ev:List Va) (en:Bool) (k:Ky) (σ:List b9):b8 CC 15 [.agg (A8 fl nn),.agg (G3 ev en),.agg k.cells] σ fun r τ=>r = .ret (a64 (cR1 fl ev k))/\τ=σ :=
 (F6 (res:=fun _:Unit=>.ret (a64 (cR1 fl ev k))) (P:=fun _=>True) hCC (fun a h=>by simp at h;rcases h with rfl | rfl | rfl;exact o3 (cs:=A8 _ _) ⟨G8 _ _,tt⟩;exact o3 (cs:=G3 _ _) ⟨S2 _ _,tt⟩;exact o3 ⟨.val _,.val _,.val _,tt⟩) (b5C fl nn ev en k) (fun _ _=>B9 (cs:=[_,_]) ⟨.val _,.val _,tt⟩) σ).mono fun r τ ⟨_,h1,h2,_⟩=>⟨h1,h2⟩
theorem d7b (k:Int) (p o:Str):(fiE (B0 fl) k p o).ct=((occ (G7 k p o) fl).length:Int):=by
 have h:=(a8L k p o (B0 fl) ⟨if k=3 then [] else p,o,k,[],0,0⟩ (fun h3=>if_neg h3)).2.2.2;rw [b6p];show (fiL k p o (B0 fl) _).ct=_;rw [h];simp
theorem d8n {q:Nm} {x:Str × Src} (hx:x∈B0 fl) (hd:x.2.decls[i]? = some d) (hq:deK x.2 d=q):(x.2,d)∈occ q fl:=by
 obtain ⟨f,hf,hs⟩:=a7s hx;refine List.mem_flatMap.2 ⟨f,hf,?_⟩;unfold b9W;rw [hs];exact K5.2 ⟨d,b5r.2 ⟨n_0 hd,a2d hq⟩,rfl⟩
theorem c92 (h:B7 fl=0) (k:Int) (p o:Str):b0O (B0 fl) k p o=d9q (occ (G7 k p o) fl):=by
 have hct:=d7b (fl:=fl) k p o;have hpl:=(c8V (B0 fl) k p o).2;unfold b0O;cases ho:occ (G7 k p o) fl with
 | nil =>
  rw [ho] at hct;rw [if_pos (by rw [hct];rfl)];rfl
 | cons y t =>
  rw [ho] at hct;rw [n_7] at hct;rw [if_neg om_];cases t with
  | cons z t =>
   rw [n_7] at hct;rw [if_pos om_];obtain ⟨a,b⟩:=y;rfl
  | nil =>
   rw [I4] at hct;rw [if_neg om_];obtain ⟨x,hx,i,d,hd,h1,h2,hq⟩:=hpl om_;have hm:=d8n hx hd hq;rw [ho,c0J] at hm;subst hm;have hD:a8C (B0 fl) (fiE (B0 fl) k p o)=(x.2,(i:Int)):=by
    unfold a8C;rw [h1,b4R (b0J (c2W h)) hx,h2]
   rw [hD];dsimp only;rw [a2p,hd];rfl
theorem b7f {fl:List Fi} (h:B7 fl=0) (pkg:Str):∀ (M:List Fi) (o:Str),(∀ f∈M,f∈fl)->a4b fl pkg (B0 M) o=b05 o (M.filter fun f=>decide ((a0h f).map Src.pkg=some pkg))
 | [],_,_=>rfl
 | f::M,o,hM=>by
  have hd:=b4v (c2W h) f (hM f si_);have ih:=fun o=>b7f h pkg M o fun g hg=>hM g (by simp [hg]);rw [b0s];have e:B0 (f::M)=(match a0h f with | none=>[] | some s=>[(f.p,s)])++B0 M:=by
   unfold B0;rw [List.filterMap_cons,show b0j f.p f.b=a0h f from rfl];cases a0h f <;> rfl
  rw [e];cases hs:a0h f with
  | none =>
   rw [if_neg si_];exact ih o
  | some s =>
   show a4b fl pkg (B0 M) (if s.pkg=pkg then J0 (J0 o f.p) ((if B7 fl=0 then B5 fl f.p else none).getD []) else o)=_;rw [ih];by_cases hp:s.pkg=pkg
   ·rw [if_pos hp,if_pos h,hd,if_pos (by simp [hp])];rfl
   ·rw [if_neg hp,if_neg (by simp [hp])]
theorem c2l (h:B7 fl=0) (pkg o:Str):a4b fl pkg (B0 fl) o=b05 o (B1 (H4 fl).2.1 fl pkg):=by
 rw [a7f h];exact b7f h pkg fl o fun _ hf=>hf
theorem b8Z {x:Str × Src}:x∈B0 fl↔∃ f∈fl,a0h f=some x.2/\x.1=f.p:=by
 unfold B0;rw [c2m];constructor
 ·rintro ⟨f,hf,he⟩;rw [O3] at he;obtain ⟨s,hs,rfl⟩:=he;exact ⟨f,hf,hs,rfl⟩
 ·rintro ⟨f,hf,hs,hp⟩;refine ⟨f,hf,?_⟩;rw [show b0j f.p f.b=a0h f from rfl,hs];obtain ⟨a,b⟩:=x;cases hp;rfl
theorem c2r {fl:List Fi} (h:B7 fl=0) (pkg n:Str):a67 (B0 fl) pkg n↔Reach (H4 fl).2.1 fl pkg n:=by
 constructor
 ·intro hr
  induction hr with
  | base=>exact .base
  | step _ hx hp hs ih =>
   obtain ⟨f,hf,h1,_⟩:=b8Z.1 hx;refine .step ih (f:=f) ?_ ?_
   ·rw [a7f h];refine b5r.2 ⟨hf,a2d ?_⟩;rw [h1,b3w,hp]
   ·unfold a1l;rw [(b0C h).src f hf,h1];exact hs
 ·intro hr
  induction hr with
  | base=>exact .base
  | @step m f s _ hf hs ih =>
   rw [a7f h] at hf;obtain ⟨hf,h1⟩:=b5r.1 hf;have h1:=of_decide_eq_true h1;rw [O3] at h1;obtain ⟨x,h2,h3⟩:=h1;unfold a1l at hs;rw [(b0C h).src f hf,h2] at hs;exact .step ih (x:=(f.p,x)) (b8Z.2 ⟨f,hf,h2,rfl⟩) h3 hs
theorem c6I (h:B7 fl=0) (pkg:Str):Z9 (B0 fl) pkg=b1x (H4 fl).2.1 fl pkg:=by
 by_cases hex:∃ N:List Str,N.Nodup/\∀ n,n∈N↔a67 (B0 fl) pkg n
 ·obtain ⟨N,h1,h2⟩:=hex;rw [b6Z h1 h2,b4g h1 fun n=>(h2 n).trans (c2r h pkg n)]
 ·unfold Z9 b1x;rw [dif_neg hex,dif_neg fun ⟨N,h1,h2⟩=>hex ⟨N,h1,fun n=>(h2 n).trans (c2r h pkg n).symm⟩]
theorem c1G {fl:List Fi} (h:B7 fl=0):∀ (N:List Str) (o:Str),c01 fl (B0 fl) N o=b8C (H4 fl).2.1 fl o N
 | [],_=>rfl
 | q::N,o=>by
  show c01 fl (B0 fl) N (J0 (J0 o q) ([61]++a4b fl q (B0 fl) []))=b8C (H4 fl).2.1 fl (J0 (J0 o q) (a0T (H4 fl).2.1 fl q)) N;rw [c1G h N,c2l h];rfl
theorem c6D (h:B7 fl=0) (ev:List Va) (k:Ky):inR fl (B0 fl) ev k=V6 fl (H4 fl).2.1 (H4 fl).2.2 ev k:=by
 unfold inR V6;simp only [c92 h,c4S h,if_pos h,c2l h,c1G h,c6I h];rfl
theorem d7F (fl:List Fi) (ev:List Va) (k:Ky):cR1 fl ev k=a1P fl ev k:=by
 unfold cR1 a1P M6;by_cases h:B7 fl=0/\a2r ev=true/\a0B k=true
 ·rw [if_pos h,if_pos ⟨h.1,h.2.1,by simp [h.2.2]⟩,c6D h.1];rfl
 ·rw [if_neg h,if_neg fun g=>h ⟨g.1,g.2.1,sp_ g.2.2⟩];rfl
theorem b2V (fl:List Fi) (nn:Bool) (ev:List Va) (en:Bool) (l:List Ky) (nk:Bool) (hl:l.length<=1000000000):b8 CC 17 [.agg (A8 fl nn),.agg (G3 ev en),.list (l.map Ky.cv) nk none] [] fun r τ=>∃ _:Unit,a1e 0 τ r (.ret (b1u (M6 fl ev l)))/\True:=by
 refine cO Tryz.func17 ?_;refine a8l ?_;refine b18 ?_;refine cY X3 ?_;refine yc rfl c3B ⟨tt,tt⟩ (a3Q fl nn _) ?_;refine a6s ?_;refine d6e ?_;refine b2P ?_;refine cC ?_ ?_ <;> intro h1
 ·have hv:¬ (B7 fl=0/\a2r ev=true/\l.all a0B=true):=by
   rintro ⟨u1,u2,_⟩;simp [u1,u2] at h1
  refine z_0 ?_;exact d3E
 ·have hv:B7 fl=0/\a2r ev=true:=sp_ h1;obtain ⟨v1,v2⟩:=hv;have hG:V6 fl (H4 fl).2.1 (H4 fl).2.2 ev=inR fl (B0 fl) ev:=funext fun k=>(c6D v1 ev k).symm;refine a1d ?_;refine cY X3 ?_;refine yc rfl Tryz.call55 ⟨tt,tt⟩ (c8t nn v1 _) ?_;refine cD (x8 rfl c87 rfl p8 ?_);refine cD (j6 rfl tt tt rfl c4 b73 p8 rfl rfl (nb rfl) ?_);refine c8 ?_;refine Q7 ?_;refine cY c88 ?_;refine Z0 ?_;refine B2 hCC 3 rfl (α:=Nat) (fun i=>[(3,.ptr 0 0),(4,.ptr 1 0),(8,.ptr 2 0),(9,(.list (((l.take i).map (inR fl (B0 fl) ev)).map scv) (gnn ((l.take i).map (inR fl (B0 fl) ev)).length) (G9 ((l.take i).map (inR fl (B0 fl) ev)).length 3))),(22,(.list (l.map Ky.cv) nk none)),(23,iv l.length),(24,iv i)]) (fun i=>[.box (A8 fl nn),.box (G3 ev en),.box (a0x ((B0 fl).map Prod.fst) ((B0 fl).map Prod.snd)),u0 ((l.take i).map (inR fl (B0 fl) ev)).length]) (fun i=>i<=l.length/\(l.take i).all a0B=true) (fun i=>l.length - i) ⟨0,[0,1,2,9],⟨n_3 _,rfl⟩,⟨rfl,rfl⟩,ut_,uq_⟩ ?_;intro i ⟨hi,hall⟩;refine C9 ?_;refine cC ?_ ?_ <;> intro h2
  ·have hlt:i < l.length:=sm_ h2;obtain ⟨y,hy⟩:∃ y,l[i]? = some y:=⟨l[i]'hlt,si_⟩;refine W7 ?_;refine d4w ?_;refine c8J ?_;refine T5 ?_;refine cY a3a ?_;refine yc rfl Tryz.call36 ⟨tt,tt⟩ (a9E y _) ?_;refine S4 ?_;refine cC ?_ ?_ <;> intro h3
   ·have hv2:¬ (B7 fl=0/\a2r ev=true/\l.all a0B=true):=fun u=>b6w hy (sp_ h3) u.2.2;refine z_0 ?_;exact d6g
   ·have hyk:a0B y=true:=sp_ h3;have htk1:l.take (i+1)=l.take i++[y]:=by rw [a4F,hy];rfl
    refine a6G ?_;refine cY X3 ?_;refine cY b4C ?_;refine cY a9Z ?_;refine cY a3a ?_;refine ye rfl Tryz.call54 a1v (b80 fl nn (B0 fl) ev en y (c6k v1) (by have:=a83 v2;omega) (fun z hz=>c1O v2 hz) (c2g hyk) _) rfl ?_;refine cY (A2 [scv ((inR fl (B0 fl) ev) y)] rfl ⟨tt,tt⟩ t_1 t_0 t_3 rfl rfl rfl rfl rfl rfl rfl rfl rfl) ?_;refine cD (C5 rfl tt tt rfl si_ q_2 t_1 t_0 a3y t_3 rfl (.inr rfl) q_8 a36 E7 (((l.take (i+1)).map (inR fl (B0 fl) ev)).map scv) ((l.take (i+1)).map (inR fl (B0 fl) ev)).length (by rw [htk1,b5x,b5x];rfl) (by rw [htk1];simp) ?_);refine a1j ?_;exact ⟨(i+1),[0,1,2,5],⟨om_,om_,b4q hy hall hyk⟩,⟨rfl,rfl⟩,ut_,uq_⟩
  ·have hge:l.length<=i:=sm_ h2;have hta:l.take i=l:=U3 hge;refine b0t ?_;refine a4m ?_;exact ⟨_,j9 (rs:=[.tmp 6,.tmp 7]) (cs:=[_,_]) rfl S6 (n_2 rfl),(by rw [M6,if_pos ⟨v1,v2,by rw [<- hta];exact hall⟩,hG,hta];exact ⟨(),.ret (.tups ⟨.tok (fun r hr c hc=>(C4 (f:=scv) (fun _=>S9.all ⟨.val _,tt⟩) _) r hr c hc),.old (.val _),tt⟩),tt⟩)⟩
theorem a77 (fl:List Fi) (nn:Bool) (ev:List Va) (en:Bool) (l:List Ky) (nk:Bool) (hl:l.length<=1000000000) (σ:List b9):b8 CC 17 [.agg (A8 fl nn),.agg (G3 ev en),.list (l.map Ky.cv) nk none] σ fun r τ=>r = .ret (b1u (M6 fl ev l))/\τ=σ :=
 (F6 (res:=fun _:Unit=>.ret (b1u (M6 fl ev l))) (P:=fun _=>True) hCC (fun a h=>by simp at h;rcases h with rfl | rfl | rfl;exact o3 (cs:=A8 _ _) ⟨G8 _ _,tt⟩;exact o3 (cs:=G3 _ _) ⟨S2 _ _,tt⟩;exact a03 _ _) (b2V fl nn ev en l nk hl) (fun _ _=>b1e _) σ).mono fun r τ ⟨_,h1,h2,_⟩=>⟨h1,h2⟩
theorem b97 (fl:List Fi) (nn:Bool) (ev:List Va) (en:Bool) (k:List Ky) (nk:Bool) (hl:k.length<=1000000000) (ts:List Str) (nt:Bool):b8 CC 22 [.agg (A8 fl nn),.agg (G3 ev en),.list (k.map Ky.cv) nk none,.list (ts.map scv) nt none] [] fun r τ=>∃ _:Unit,a1e 0 τ r (.ret (b4s (a10 fl ev k ts)))/\True:=by
 refine cO Tryz.func22 ?_;refine a8l ?_;refine a4W ?_;refine b1c ?_;refine cY j1 ?_;refine yc rfl Tryz.call17 C0 (a77 fl nn ev en k nk hl _) ?_;refine a1T ?_;refine a1z ?_;refine a1h ?_;refine cG (fun hg=>a0j rfl hg rfl a7h b1s rfl) ?_;refine cG T7 ?_;refine cG c99 ?_;refine a6v ?_;refine cC ?_ ?_ <;> intro h1
 ·have hn:a10 fl ev k ts=none:=by
   unfold a10;cases h:M6 fl ev k with
   | none=>rfl
   | some l =>
    rw [h] at h1;have hkt:¬ k.length=ts.length:=sm_ h1;exact if_neg hkt
  refine z_0 ?_;exact d3o
 ·obtain ⟨l,hs⟩:∃ l,M6 fl ev k=some l:=by
   cases h:M6 fl ev k with
   | none=>rw [h] at h1;simp at h1
   | some l=>exact ⟨_,rfl⟩
  rw [hs] at h1 ⊢;have hkt:k.length=ts.length:=sm_ h1;have hlk:l.length=k.length:=by rw [a59 hs];simp
  have hh:a10 fl ev k ts=some (a5F l ts 0):=by unfold a10;rw [hs];exact if_pos hkt
  refine a5L ?_;refine a1i ?_;refine j5 hCC (α:=Nat) (fun i=>[(3,(.list (ts.map scv) nt none)),(10,(.list (l.map scv) (gnn l.length) none)),(30,iv l.length),(31,iv i)]) (fun _=>[.box (A8 fl nn),.box (G3 ev en)]) (fun i=>i<=l.length/\a5F l ts 0=a5F (l.drop i) (ts.drop i) i) (fun i=>l.length - i) 0 ⟨n_3 _,rfl⟩ tu_ (extra0:=[]) rfl r5 uz_ ?_;intro i ⟨hi,hr⟩;refine C9 ?_;refine cC ?_ ?_ <;> intro h2
  ·have hlt:i < l.length:=sm_ h2;obtain ⟨x,hx,_⟩:=Z2 hlt;obtain ⟨y,hy,_⟩:=Z2 (l:=ts) (i:=i) om_;rw [b2N hx hy] at hr;refine X9 ?_;refine b2i ?_;refine cW 9 ?_;refine a8w ?_;refine hY c6p ?_;refine hY U1 ?_;refine a8w ?_;refine hY c9I ?_;refine hY U1 ?_;refine hY a9V ?_;refine a4L ?_;refine cC ?_ ?_ <;> intro h3
   ·have hxy:¬ x=y:=sp_ h3;rw [if_neg hxy] at hr;refine z_2 ?_;exact d4U
   ·have hxy:x=y:=sp_ h3;rw [if_pos hxy] at hr;exact a89
  ·have hge:l.length<=i:=sm_ h2;rw [S8 hge] at hr;refine U9 ?_;exact d4V
theorem c5y (fl:List Fi) (nn:Bool) (ev:List Va) (en:Bool) (k:List Ky) (nk:Bool) (hl:k.length<=1000000000) (ts:List Str) (nt:Bool) (σ:List b9):b8 CC 22 [.agg (A8 fl nn),.agg (G3 ev en),.list (k.map Ky.cv) nk none,.list (ts.map scv) nt none] σ fun r τ=>r = .ret (b4s (a10 fl ev k ts))/\τ=σ :=
 (F6 (res:=fun _:Unit=>.ret (b4s (a10 fl ev k ts))) (P:=fun _=>True) hCC (fun a h=>by simp at h;rcases h with rfl | rfl | rfl | rfl;exact o3 (cs:=A8 _ _) ⟨G8 _ _,tt⟩;exact o3 (cs:=G3 _ _) ⟨S2 _ _,tt⟩;exact a03 _ _;exact C2 _ _) (b97 fl nn ev en k nk hl ts nt) (fun _ _=>B9 (cs:=[_,_]) ⟨.val _,.val _,tt⟩) σ).mono fun r τ ⟨_,h1,h2,_⟩=>⟨h1,h2⟩
theorem c31 {α:Type} {l m:List α} {x y:α} (hx:l[i]? = some x) (hy:m[i]? = some y) (h:l.take i=m.take i) (e:x=y):l.take (i+1)=m.take (i+1):=by
 rw [a4F,a4F,hx,hy,h,e]
theorem b2m (a b:List Str) (na nbz:Bool) (ha:a.length<=1000000000) (σ:List b9):b8 CC 18 [(.list (a.map scv) na none),(.list (b.map scv) nbz none)] σ fun r σ'=>r = .ret (.val (.bool (decide (a=b))))/\σ'=σ:=by
 refine an_ Tryz.func18 ?_;refine Q7 ?_;refine cY a0K ?_;refine cY j1 ?_;refine cY a0K ?_;refine a7N ?_;refine cC ?_ ?_ <;> intro h1
 ·have hne:¬ a=b:=fun e=>by subst e;simp at h1
  exact d4v
 ·have hl:a.length=b.length:=sm_ h1;refine z_8 ?_;refine a7q ?_;refine j5 hCC (α:=Nat) (fun i=>[(0,(.list (a.map scv) na none)),(1,(.list (b.map scv) nbz none)),(5,iv i)]) (fun _=>[]) (fun i=>i<=a.length/\a.take i=b.take i) (fun i=>a.length - i) 0 ⟨n_3 _,rfl⟩ tu_ (extra0:=[]) rfl r5 uz_ ?_;intro i ⟨hi,hp⟩;refine a1Q ?_;refine cY a0K ?_;refine a7N ?_;refine cC ?_ ?_ <;> intro h2
  ·have hlt:i < a.length:=sm_ h2;obtain ⟨x,hx,_⟩:=Z2 hlt;obtain ⟨y,hy,_⟩:=Z2 (l:=b) (i:=i) om_;refine a4O ?_;refine A5 ?_;refine cW 9 ?_;refine a8w ?_;refine hY c6p ?_;refine hY U1 ?_;refine a8w ?_;refine hY c9I ?_;refine hY U1 ?_;refine hY a9V ?_;refine a4L ?_;refine cC ?_ ?_ <;> intro h3
   ·have hne:¬ a=b:=fun e=>by
     subst e;rw [hx] at hy;simp [Option.some.inj hy] at h3
    exact d4v
   ·have hxy:x=y:=sp_ h3;refine a8q ?_;exact ⟨(i+1),_,⟨om_,om_,c31 hx hy hp hxy⟩,tu_,rfl⟩
  ·have hge:a.length<=i:=sm_ h2;have hab:a=b:=by rw [<- U3 hge,hp,U3 om_]
   refine a1w ?_;exact ⟨_,j2 rfl tt c4,_,_,rfl,rfl,j7 (a2d hab).symm⟩
theorem b6d (fl:List Fi) (nn:Bool) (ev:List Va) (en:Bool) (k:Ky) (σ:List b9):b8 CC 15 [.agg (A8 fl nn),.agg (G3 ev en),.agg k.cells] σ fun r τ=>r = .ret (a64 (a1P fl ev k))/\τ=σ:=by
 have h:=b6J fl nn ev en k σ;rw [d7F] at h;exact h
abbrev ltv (p:List Str × Bool):List CV:=[.list (p.1.map scv) p.2 none]
theorem c7o (l:List (List Str × Bool)) (nn:Bool):r9 (.list (l.map ltv) nn none):=N5 (f:=ltv) (fun _=>⟨C2 _ _,tt⟩) l nn
theorem c04 (l:List Str):∀ r∈l.map scv,∀ c∈r,r9 c:=fun r hr c hc=>(C4 (f:=scv) (fun _=>S9.all ⟨.val _,tt⟩) _) r hr c hc
theorem d6V {α:Type} {a b:α} (h:i < 2):∃ y,[a,b][i]? = some y:=by
 rcases i with _ | _ | i
 ·exact ⟨a,rfl⟩
 ·exact ⟨b,rfl⟩
 ·omega
theorem a9h (l:List Int) (nn:Bool) (hl:l.length<=maxLen) (raw:List Va) (rn:Bool) (hrr:∀ v∈raw,-9223372036854775808<=v.v/\v.v<=9223372036854775807) (ts:List Str) (nt:Bool):b8 CC 3 [.list (l.map icv) nn none,.agg (G3 raw rn),.list (ts.map scv) nt none] [] fun r τ=>∃ _:Unit,a1e 0 τ r (.ret (.val (.bool true)))/\True:=by
 refine cO Tryz.func3 ?_;refine b0X ?_;refine cY (A9 #[(0,1),(1,1)] rfl ⟨tt,tt⟩ c9q Tryz.zeroValue29 rfl ⟨_,rfl⟩ (fun w=>by kernel_rfl) rfl rfl) ?_;refine cD (a5v rfl tt c4 p8 ?_);refine O0 ?_;refine de rfl Tryz.call11 ⟨tt,tt⟩ (d0F l nn 0 om_ hl _ 1 rfl) rfl ?_;intro ⟨⟨fl,ev⟩,q0⟩ ⟨hm,he,hq1,hq2⟩;dsimp only at hm he hq1 hq2 ⊢;refine b1C ?_;refine d3M ?_;refine cD (j6 rfl tt tt rfl c4 b0i p8 rfl rfl (nb rfl) ?_);refine cD (j6 rfl tt tt rfl c4 b6g p8 rfl rfl (nb rfl) ?_);refine c8 ?_;refine K8 hCC (α:=List Va × Bool) (fun e=>[(2,(.list (ts.map scv) nt none)),(7,.ptr 1 0),(8,.ptr 2 0),(9,.ptr 3 0)]) (fun e=>[.box (G3 raw rn),p9 l nn (q0+1),.box (A8 fl (gnn fl.length)),.box (G3 e.1 e.2)]) (fun e=>∀ v∈e.1,-9223372036854775808<=v.v/\v.v<=9223372036854775807) r5 uz_ ?_ ?_
 ·
  refine z_2 ?_;refine de rfl a8h a2J (G5 l nn q0 _ 1 rfl om_ hl 1 8 om_) rfl ?_;intro _ _;refine c8 ?_;refine cC ?_ ?_ <;> intro h1
  ·refine r3 ?_;refine d4p ?_;refine c8 ?_;exact ⟨(raw,rn),_,hrr,tu_,rfl⟩
  ·refine c9 ?_;exact ⟨(ev,gnn ev.length),_,he.vr,tu_,rfl⟩
 ·rintro ⟨ew,en⟩ her;dsimp only at her ⊢;refine z_2 ?_;refine de rfl Tryz.call13 ⟨tt,tt⟩ (d1X l nn (q0+1) om_ hl _ 1 rfl) rfl ?_;intro ⟨ks,q1⟩ ⟨hk8,hsm,hq3,hq4⟩;dsimp only at hk8 hsm hq3 hq4 ⊢;have hkl:∀ k∈ks,k.a.length<=1000000000/\k.b.length<=1000000000:=fun k hk=>by have:=hsm k hk;unfold b2B at this;omega
  refine a4y ?_;refine cY c88 ?_;refine Z0 ?_;refine j5 hCC (α:=Nat) (fun i=>[(2,(.list (ts.map scv) nt none)),(7,.ptr 1 0),(8,.ptr 2 0),(9,.ptr 3 0),(10,(.list (ks.map Ky.cv) (gnn ks.length) none)),(40,(.list (ks.map Ky.cv) (gnn ks.length) none)),(41,iv ks.length),(42,iv i)]) (fun _=>[.box (G3 raw rn),p9 l nn q1,.box (A8 fl (gnn fl.length)),.box (G3 ew en)]) (fun i=>i<=ks.length) (fun i=>ks.length - i) 0 (n_3 _) tu_ (extra0:=[]) rfl r5 uz_ ?_;intro i hi;refine C9 ?_;refine cC ?_ ?_ <;> intro h2
  ·have hlt:i < ks.length:=sm_ h2;obtain ⟨y,hb,hym⟩:=Z2 hlt;have hyl:=hkl y hym;refine W7 ?_;refine cY (r8 rfl tt tt rfl rfl a7h a4J om_ (j3 hb) rfl) ?_;refine cY d5I ?_;refine c8J ?_;refine S5 ?_;refine cY X3 ?_;refine cY a9Z ?_;refine cY a3a ?_;refine yc rfl d0q C0 (a7g fl (gnn fl.length) hm.plen ew en her y hyl _) ?_;refine a1T ?_;refine b1c ?_;refine cY a3a ?_;refine yc rfl Tryz.call15 C0 (b6d fl (gnn fl.length) ew en y _) ?_;refine a1T ?_;refine z_5 ?_;refine cY a9V ?_;refine a8T ?_;refine a6v ?_;refine cC ?_ ?_ <;> intro h3
   ·exfalso;simp at h3
   ·exact a69
  ·have hB8:((M6 fl ew ks).getD []).length<=8:=by
    cases h:M6 fl ew ks with
    | none=>exact n_3 _
    | some l=>rw [a59 h];simpa using hk8
   refine U9 ?_;refine cY X3 ?_;refine cY a9Z ?_;refine cY j1 ?_;refine ye rfl d0P C0 (a4R fl (gnn fl.length) hm.plen ew en her ks (gnn ks.length) om_ hkl _) rfl ?_;refine a1T ?_;refine b1c ?_;refine cY j1 ?_;refine ye rfl Tryz.call17 C0 (a77 fl (gnn fl.length) ew en ks (gnn ks.length) om_ _) rfl ?_;refine a1T ?_;refine a1Q ?_;refine a9H ?_;refine cG (fun hg=>j8 rfl Tryz.call18 ⟨hg,hg,tt⟩ (b2m _ _ _ _ om_ _) rfl) ?_;refine b2P ?_;refine cC ?_ ?_ <;> intro h4
   ·exfalso;simp at h4
   ·revert hB8;generalize (M6 fl ew ks).getD []=B;intro hB8;refine c9 ?_;refine c7D hCC (α:=(List Str × Bool) × Nat) (fun a=>[(2,(.list (ts.map scv) nt none)),(8,.ptr 2 0),(9,.ptr 3 0),(10,(.list (ks.map Ky.cv) (gnn ks.length) none)),(19,(.list (a.1.1.map scv) a.1.2 none))]) (fun a=>[.box (G3 raw rn),p9 l nn a.2,.box (A8 fl (gnn fl.length)),.box (G3 ew en)]) (fun _=>True) r5 ?_ ?_
    ·
     refine z_4 ?_;by_cases hne:B=[]
     ·subst hne;refine cD (d2s rfl rfl tt rfl q_2 t_1 t_0 a3y t_3 rfl a36 si_ 0 (by rfl) ?_);refine O0 ?_;refine cY a0K ?_;refine a1h ?_;refine b1E (.val (.bool false)) rfl rfl tt rfl rfl (fun hg=>C1 rfl a8h ⟨hg,rfl,rfl,tt⟩ (G5 l nn q1 _ 1 rfl om_ hl 1 2 om_) rfl ?_) (fun hg=>?_)
      ·
       intro _ _;refine a4M ?_;refine cC ?_ ?_ <;> intro h5
       ·exfalso;simp at hg
       ·exfalso;simp at hg
      ·
       refine a4M ?_;refine cC ?_ ?_ <;> intro h6
       ·exfalso;simp at h6
       ·refine c9 ?_;exact ⟨(([],false),q1),tt,⟨q_4,q_4,q_4,q_4,q_4,tt⟩,⟨.same (by repeat' (first|exact .val _|exact tt|exact H0 _ _ _|exact I9 _ _ _|exact H3 _ _ _ _ | refine o9 ?_ | refine ⟨?_,?_⟩)),.same (by repeat' (first|exact .val _|exact tt|exact H0 _ _ _|exact I9 _ _ _|exact H3 _ _ _ _ | refine o9 ?_ | refine ⟨?_,?_⟩)),.same (by repeat' (first|exact .val _|exact tt|exact H0 _ _ _|exact I9 _ _ _|exact H3 _ _ _ _ | refine o9 ?_ | refine ⟨?_,?_⟩)),.same (by repeat' (first|exact .val _|exact tt|exact H0 _ _ _|exact I9 _ _ _|exact H3 _ _ _ _ | refine o9 ?_ | refine ⟨?_,?_⟩)),tt⟩⟩
     ·refine cD (c1Q B.length rfl rfl tt rfl q_2 t_1 t_0 a3y t_3 rfl (by rw [a2O];exact a85.2 hne) (by have hb:Tryz.t9.bytes=16:=rfl;rw [hb];first|omega|(simp;omega)) b4W (by rw [a2O]) ?_);refine O0 ?_;refine cY b4G ?_;refine a1h ?_;refine b1E (.val (.bool false)) rfl rfl tt rfl rfl (fun hg=>C1 rfl a8h ⟨hg,rfl,rfl,tt⟩ (G5 l nn q1 _ 1 rfl om_ hl 1 2 om_) rfl ?_) (fun hg=>?_)
      ·
       intro _ _;refine a4M ?_;refine cC ?_ ?_ <;> intro h5
       ·have hBp:0 < B.length:=a85.2 hne;have hti:0<=C7 l (q1+1) (B.length:Int)/\C7 l (q1+1) (B.length:Int) < B.length:=a6d om_;obtain ⟨x,hx⟩:∃ x,B[(C7 l (q1+1) (B.length:Int)).toNat]? = some x:=⟨_,a2b om_⟩;refine X0 ?_;refine cY j1 ?_;refine cY b4G ?_;refine de rfl a5K i7 (H6 l nn (q1+1) _ 1 rfl om_ hl (B.length:Int) om_) rfl ?_;intro _ _;refine cY j1 ?_;refine cY (A2 ([[45],[63],[61],[61,120]].map scv) rfl ⟨rfl,rfl,rfl,rfl,tt⟩ t_1 t_0 t_3 rfl rfl rfl rfl rfl rfl rfl rfl rfl) ?_;refine de rfl a2n i7 (F3 l nn (q1+1+1) _ 1 rfl om_ hl [[45],[63],[61],[61,120]] si_ si_) rfl ?_;intro u _;refine cY c68 ?_;refine cD (O7 ((B.set (C7 l (q1+1) (B.length:Int)).toNat u).map scv) rfl tt tt rfl c4 t_0 (.inl rfl) rfl (d8Z (j3 hx) om_) rfl (nb rfl) (by rw [List.map_set,n_9];rfl) rfl ?_);refine c8 ?_;exact ⟨((B.set (C7 l (q1+1) (B.length:Int)).toNat u,true),q1+1+1+1),tt,⟨q_4,q_4,q_4,q_4,q_4,tt⟩,⟨.same (by repeat' (first|exact .val _|exact tt|exact H0 _ _ _|exact I9 _ _ _|exact H3 _ _ _ _ | refine o9 ?_ | refine ⟨?_,?_⟩)),.same (by repeat' (first|exact .val _|exact tt|exact H0 _ _ _|exact I9 _ _ _|exact H3 _ _ _ _ | refine o9 ?_ | refine ⟨?_,?_⟩)),.same (by repeat' (first|exact .val _|exact tt|exact H0 _ _ _|exact I9 _ _ _|exact H3 _ _ _ _ | refine o9 ?_ | refine ⟨?_,?_⟩)),.same (by repeat' (first|exact .val _|exact tt|exact H0 _ _ _|exact I9 _ _ _|exact H3 _ _ _ _ | refine o9 ?_ | refine ⟨?_,?_⟩)),tt⟩⟩
       ·refine c9 ?_;exact ⟨((B,true),q1+1),tt,⟨q_4,q_4,q_4,q_4,q_4,tt⟩,⟨.same (by repeat' (first|exact .val _|exact tt|exact H0 _ _ _|exact I9 _ _ _|exact H3 _ _ _ _ | refine o9 ?_ | refine ⟨?_,?_⟩)),.same (by repeat' (first|exact .val _|exact tt|exact H0 _ _ _|exact I9 _ _ _|exact H3 _ _ _ _ | refine o9 ?_ | refine ⟨?_,?_⟩)),.same (by repeat' (first|exact .val _|exact tt|exact H0 _ _ _|exact I9 _ _ _|exact H3 _ _ _ _ | refine o9 ?_ | refine ⟨?_,?_⟩)),.same (by repeat' (first|exact .val _|exact tt|exact H0 _ _ _|exact I9 _ _ _|exact H3 _ _ _ _ | refine o9 ?_ | refine ⟨?_,?_⟩)),tt⟩⟩
      ·
       refine a4M ?_;refine cC ?_ ?_ <;> intro h6
       ·exfalso;have hBp:0 < B.length:=a85.2 hne;simp at h6
       ·refine c9 ?_;exact ⟨((B,true),q1),tt,⟨q_4,q_4,q_4,q_4,q_4,tt⟩,⟨.same (by repeat' (first|exact .val _|exact tt|exact H0 _ _ _|exact I9 _ _ _|exact H3 _ _ _ _ | refine o9 ?_ | refine ⟨?_,?_⟩)),.same (by repeat' (first|exact .val _|exact tt|exact H0 _ _ _|exact I9 _ _ _|exact H3 _ _ _ _ | refine o9 ?_ | refine ⟨?_,?_⟩)),.same (by repeat' (first|exact .val _|exact tt|exact H0 _ _ _|exact I9 _ _ _|exact H3 _ _ _ _ | refine o9 ?_ | refine ⟨?_,?_⟩)),.same (by repeat' (first|exact .val _|exact tt|exact H0 _ _ _|exact I9 _ _ _|exact H3 _ _ _ _ | refine o9 ?_ | refine ⟨?_,?_⟩)),tt⟩⟩
    ·rintro ⟨⟨b,bn⟩,q2⟩ _;dsimp only;refine a1Q ?_;refine cY (A2 ([(b,bn),(ts,nt)].map ltv) rfl i7 c6f a2U Tryz.zeroValue26 rfl rfl rfl rfl rfl rfl rfl rfl rfl) ?_;refine cY (a0j rfl tt rfl c6f b1s rfl) ?_;refine Z0 ?_;refine j5 hCC (α:=Nat) (fun i=>[(8,.ptr 2 0),(9,.ptr 3 0),(10,(.list (ks.map Ky.cv) (gnn ks.length) none)),(112,(.list ([(b,bn),(ts,nt)].map ltv) true none)),(113,(iv (2))),(114,iv i)]) (fun _=>[.box (G3 raw rn),p9 l nn q2,.box (A8 fl (gnn fl.length)),.box (G3 ew en)]) (fun i=>i<=2) (fun i=>2 - i) 0 (n_3 _) tu_ (extra0:=[]) rfl r5 uz_ ?_;intro i hi;refine C9 ?_;refine cC ?_ ?_ <;> intro h7
     ·have hlt:i < 2:=sm_ h7;obtain ⟨y,hy⟩:=d6V (a:=(b,bn)) (b:=(ts,nt)) hlt;refine W7 ?_;refine cY (r8 rfl tt tt rfl rfl c6f a2U om_ (j3 hy) rfl) ?_;refine cY (T0 rfl tt rfl b51 rfl) ?_;refine z_1 ?_;refine b1c ?_;refine a4Q ?_;refine ye rfl Tryz.call21 a1v (b6K fl (gnn fl.length) hm.plen ew en her ks (gnn ks.length) om_ hkl y.1 y.2 _) rfl ?_;refine a1T ?_;refine b1c ?_;refine a4Q ?_;refine ye rfl Tryz.call22 a1v (c5y fl (gnn fl.length) ew en ks (gnn ks.length) om_ y.1 y.2 _) rfl ?_;refine a1T ?_;refine z_5 ?_;refine a9H ?_;refine a6v ?_;refine cC ?_ ?_ <;> intro h8
      ·exfalso;simp at h8
      ·exact a69
     ·refine U9 ?_;refine yc rfl Tryz.call23 trivial (b9O _) ?_;refine z_7 ?_;exact ⟨_,j2 rfl tt c4,(by exact ⟨(),.ret (.old (.val _)),tt⟩)⟩
theorem b0b (l:List Int) (nn:Bool) (hl:l.length<=maxLen) (raw:List Va) (rn:Bool) (hrr:∀ v∈raw,-9223372036854775808<=v.v/\v.v<=9223372036854775807) (ts:List Str) (nt:Bool) (σ:List b9):b8 CC 3 [.list (l.map icv) nn none,.agg (G3 raw rn),.list (ts.map scv) nt none] σ fun r τ=>r = .ret (.val (.bool true))/\τ=σ :=
 (F6 (res:=fun _:Unit=>.ret (.val (.bool true))) (P:=fun _=>True) hCC (fun a h=>by simp at h;rcases h with rfl | rfl | rfl;exact N3 _ _;exact o3 (cs:=G3 _ _) ⟨S2 _ _,tt⟩;exact C2 _ _) (a9h l nn hl raw rn hrr ts nt) (fun _ _=>.val _) σ).mono fun r τ ⟨_,h1,h2,_⟩=>⟨h1,h2⟩
end Go.Proofs.YtlppbmfecjabeaaGreatDoor
