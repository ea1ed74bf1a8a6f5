/- Part 6 of what the claim needs: values without addresses, and what the program's functions do with them. -/
import Derived.Test.YtlppbmfecjabeaaGreatDoorF5
set_option linter.all false
set_option maxRecDepth 100000
set_option maxHeartbeats 4000000
namespace Go.Proofs.YtlppbmfecjabeaaGreatDoor
open Go Go.Cl
variable {fl:List Fi} {i k j:Nat} {L:List (Str × Src)} {B N:List Str} {x pkg n y:Str} {b v v':b9} {G H:List b9}
theorem d0R (l:List Str) (nn:Bool) (u:Str) (hl:l.length<=1000000):b8 CC 149 [(.list (l.map scv) nn none),(sv u)] [] fun r Y=>r = .ret (.val (.bool (decide (u∈l))))/\Y=[]:=by
 refine c7 (qO Tryz.func149 ?_);refine d7e ?_;intro i ⟨hi,hd⟩;refine qk (qC ?_ ?_)<;> intro h1
 ·have ae:i < l.length:=sm_ h1;obtain ⟨w,hb⟩:∃ w,l[i]? = some w:=⟨l[i]'ae,si_⟩;refine b1Z ?_;refine qC ?_ ?_<;>intro h2
  ·have hw:w=u:=sp_ h2;exact d1w
  ·have hw:¬ w=u:=sp_ h2;exact d1G
 ·have aE:l.length<=i:=sm_ h1;refine V9 ?_;exact ⟨_,rE1,_,_,rfl,rfl,j8 (show false=decide (u∈l) by rw [hd,T5 aE];simp)⟩
inductive a52 (L:List (Str × Src)) (pkg:Str):Str->Prop where
 | base:a52 L pkg pkg
 | step {n:Str} {x:Str × Src} {s:Str}:a52 L pkg n->x∈L->x.2.pkg=n->s∈x.2.imports->a52 L pkg s
def b0L (L:List (Str × Src)):List Str:=L.flatMap fun x=>x.2.imports
theorem b94 (h:a52 L pkg n):n∈pkg::b0L L:=by
 cases h with
 | base=>simp
 | step _ hf _ hs=>exact a4r _ (List.mem_flatMap.2 ⟨_,hf,hs⟩)
structure NmL (L:List (Str × Src)) (pkg:Str) (N:List Str):Prop where
 nd:N.Nodup
 rch:∀ n∈N,a52 L pkg n
 pk:pkg∈N
theorem NmL.len (h:NmL L pkg N):N.length<=1+(b0L L).length:=by
 have:=List.Nodup.length_le_of_subset h.nd (fun n hn=>b94 (h.rch n hn));simpa [b3N] using this
theorem NmL.snoc {s:Str} {x:Str × Src} (h:NmL L pkg N) (hn:x.2.pkg∈N) (hf:x∈L) (hs:s∈x.2.imports) (hsN:s∉N):NmL L pkg (N++[s]) where
 nd:=a3r h.nd hsN
 rch:=fun m hm=>by
  rcases Y1.1 hm with hm | hm
  ·exact h.rch m hm
  ·simp at hm;subst hm;exact .step (h.rch _ hn) hf rfl hs
 pk:=b4u _ h.pk
theorem b6v (h:NmL L pkg N) (hc:∀ n∈N,∀ x∈L,x.2.pkg=n->∀ s∈x.2.imports,s∈N) (n:Str):n∈N↔a52 L pkg n :=
 ⟨h.rch n,fun hr=>by
  induction hr with
  | base=>exact h.pk
  | step _ hf hp hs ih=>exact hc _ ih _ hf hp _ hs⟩
def swk (B:List Str) (i k:Nat) (x:Str):List Str:=B.take k++x::((B.take i).drop k++B.drop (i+1))
theorem b6K (h:B[i]? = some x):swk B i i x=B:=by
 obtain ⟨ae,rfl⟩:=n_3.1 h;rw [swk,T5 Q7,a72,<- R4 ae,b29]
theorem a9b (h:B[j]? = some y) (hj:j+1<=i):B.take (j+1)=B.take j++[y]/\(B.take i).drop j=y::(B.take i).drop (j+1):=by
 obtain ⟨ae,rfl⟩:=n_3.1 h;refine ⟨by rw [a3P,a1u ae];rfl,?_⟩;rw [R4 a4a,List.getElem_take]
theorem c9I (hk:k<=i) (hi:i < B.length):(swk B i k x).length=B.length:=by
 simp only [swk,n_7,C4,b4Q,a5t];omega
theorem b70 (hk:k<=i) (hi:i < B.length):(swk B i k x)[k]? = some x:=by
 rw [swk,a0y a4a,a5t,show k - min k B.length=0 by omega];rfl
theorem b4j (hj:j < k) (h:B[j]? = some y):(swk B i k x)[j]? = some y:=by
 have:=(n_3.1 h).1;rw [swk,V3 a4a,a2I,n_1 hj,h]
theorem c7G (h:B[j]? = some y) (hj:j+1<=i):((swk B i (j+1) x).set (j+1) y).set j x=swk B i j x:=by
 obtain ⟨h1,h2⟩:=a9b h hj;have ae:=(n_3.1 h).1;have hl:(B.take j).length=j:=by rw [a5t];omega
 unfold swk;rw [h1,h2,F7,b5u _ _ (by rw [hl];omega),hl,show j+1 - j=1 by omega,b5u _ _ (by rw [hl];exact n_6 _),hl,b4T];rfl
theorem d0f (hB:(B.take i).Pairwise (·<=·)) (hg:∀ z∈(B.take i).drop k,x<=z) (hx:k=0\/∃ y,B[k - 1]? = some y/\y<=x) (hk:k<=i):(B.take k++x::(B.take i).drop k).Pairwise (·<=·):=by
 have he:B.take i=B.take k++(B.take i).drop k:=by
  have:=b29 k (B.take i);rw [List.take_take,b8C hk] at this;exact this.symm
 rw [he,List.pairwise_append] at hB;obtain ⟨p1,p2,p3⟩:=hB;refine List.pairwise_append.2 ⟨p1,a8N.2 ⟨hg,p2⟩,fun a ha b hb=>?_⟩
 rcases P0.1 hb with rfl | hb
 ·rcases hx with rfl | ⟨y,hy,hyx⟩
  ·simp at ha
  ·by_cases hk0:k=0
   ·subst hk0;simp at ha
   ·obtain ⟨k,rfl⟩:∃ k',k=k'+1:=⟨k - 1,om_⟩;rw [c0w] at hy;rw [(a9b hy hk).1,List.pairwise_append] at p1;rw [(a9b hy hk).1] at ha
    rcases Y1.1 ha with ha | ha
    ·exact List.le_trans (p1.2.2 a ha y si_) hyx
    ·simp at ha;subst ha;exact hyx
 ·exact p3 a ha b hb
theorem d3G {A:List Str} (hp:A.Perm N) (hs:A.Pairwise (·<=·)):A=a0F N:=by
 have tr:∀ (a b c:Str),decide (a<=b)=true->decide (b<=c)=true->decide (a<=c)=true:=fun a b c h1 h2=>by
  simp only [a1X] at h1 h2 ⊢;exact List.le_trans h1 h2
 have to:∀ (a b:Str),(decide (a<=b) || decide (b<=a))=true:=fun a b=>by
  simp only [a7u,a1X];exact List.le_total a b
 refine List.Perm.eq_of_pairwise (le:=fun a b=>decide (a<=b)=true) (fun a b _ _ h1 h2=>?_) (hs.imp fun h=>sp_ h) (c7E tr to N) (hp.trans (b6E N _).symm);simp only [a1X] at h1 h2;exact c0j h1 h2
theorem c6C (h:B[i]? = some x) (hk:k<=i):(swk B i k x).Perm B:=by
 have e1:B=B.take k++((B.take i).drop k++x::B.drop (i+1)):=by
  have h1:=b6K h;have h2:=b29 k (B.take i);rw [List.take_take,b8C hk] at h2;rw [swk,T5 a4a,a72] at h1;rw [<- F7,h2,h1]
 refine List.Perm.trans ?_ (List.Perm.of_eq e1.symm);exact List.Perm.append_left _ List.perm_middle.symm
theorem c6W (hk:k<=i) (hi:i < B.length):(swk B i k x).take (i+1)=B.take k++x::(B.take i).drop k:=by
 have hl:(B.take k++x::(B.take i).drop k).length=i+1:=by simp only [n_7,C4,b4Q,a5t];omega
 rw [swk,show B.take k++x::((B.take i).drop k++B.drop (i+1))=(B.take k++x::(B.take i).drop k)++B.drop (i+1) by simp,b9W om_,W1 om_]
theorem a0w:(tst [b] G v H)[1+G.length]? = some v:=by
 rw [tst,a0y Q7];simp [b3N]
theorem b9z:(tst [b] G v H).set (1+G.length) v'=tst [b] G v' H:=by
 rw [tst,b5u _ _ Q7];simp [b3N,tst]
theorem c5X:(tst [b] G v H).set (1+G.length) .dead++[v']=tst [b] (G++.dead::H) v' []:=by
 rw [b9z];simp [tst]
theorem d4Q:(tst [b] G v H).length=1+(G++b9.dead::H).length:=by
 simp [tst];omega
theorem c9r {s:Nat} {V:List (List CV)} {p:Nat} {c:List CV} (h:(tst [b] G (.vec s V) H)[p]? = some (.box c)):(tst [b] (G++.dead::H) v' [])[p]? = some (.box c):=by
 have hp:1+G.length≠p:=fun e=>by rw [<- e,a0w] at h;cases h
 rw [<- c5X (v:=.vec s V),V3 (by rw [List.length_set];exact (n_3.1 h).1),a2i hp];exact h
theorem d4o (a:b9):(tst [b] G v (H++[a]))[(tst [b] G v H).length]? = some a:=by
 have:tst [b] G v (H++[a])=tst [b] G v H++[a]:=by simp [tst]
 rw [this,a0y (n_6 _),b4T];rfl
theorem c6y {σ:List b9} (s:Str) (hk:σ[k]? = some (.vec 1 (N.map scv))) (hl:N.length<=1000000):b8 CC 149 [.vec k 0 N.length,sv s] σ fun r Y=>r = .ret (.val (.bool (decide (s∈N))))/\Y=σ:=by
 have h:=d0R N true s om_;refine a5z (len:=N.length) (V:=N.map scv) hCC (fun a ha=>by simp at ha;subst ha;exact .val _) (fun r hr c hc=>?_) si_ hk ?_
 ·obtain ⟨x,_,rfl⟩:=I9.1 hr;simp [scv] at hc;subst hc;exact .val _
 ·rw [show ((N.map scv).drop 0).take N.length=N.map scv from by rw [a9s,W1 si_]];exact h
theorem c1B (l:List Str) (i:Nat) (s:Str):(l.map scv).set i [sv s]=(l.set i s).map scv:=by rw [List.map_set];rfl
theorem c7P {x:Str × Src} (h:x∈L):x.2.imports.length<=(b0L L).length:=by
 unfold b0L
 induction L with
 | nil=>cases h
 | cons y l ih =>
  rw [b5A,n_7]
  rcases P0.1 h with rfl | h
  ·omega
  ·have:=ih h;omega
theorem c3k (L:List (Str × Src)) (pkg:Str) (hL:L.length<=1000) (hA:(b0L L).length<=100000):b8 CC 97 [.agg (a0I (L.map Prod.fst) (L.map Prod.snd)),(sv pkg)] [] fun r τ=>∃ N:List Str,a0T 0 τ r (.ret (.list ((a0F N).map scv) true none))/\(N.Nodup/\∀ n,n∈N↔a52 L pkg n):=by
 refine qO Tryz.func97 ?_;refine qD (F5 rfl tt j2 j4 ?_);refine qD (c1e rfl tt rfl rfl t_2 t_0 t_3 rfl ?_);refine I4 (α:=Nat × List Str × List b9 × List b9) (fun x=>[(2,.ptr 0 0),(5,.vec (1+x.2.2.1.length) 0 x.2.1.length),(6,iv x.1)]) (fun x=>tst [.box (a0I (L.map Prod.fst) (L.map Prod.snd))] x.2.2.1 (.vec 1 (x.2.1.map scv)) x.2.2.2) (fun x=>NmL L pkg x.2.1/\x.1<=x.2.1.length/\∀ n∈x.2.1.take x.1,∀ y∈L,y.2.pkg=n->∀ s∈y.2.imports,s∈x.2.1) (fun x=>1+(b0L L).length - x.1) (0,[pkg],[],[]) ⟨⟨si_,fun n hn=>by simp at hn;subst hn;exact .base,si_⟩,n_5 _,fun n hn=>by simp at hn⟩ tu_ rfl ?_;intro ⟨i,N,G,H⟩ _ ⟨hN,hi,hc⟩;dsimp only at hN hi hc ⊢;have hNl:=hN.len;refine qk (qY c09 ?_);refine qC ?_ ?_<;>intro h1
 ·have ae:i < N.length:=sm_ h1;obtain ⟨n,gn⟩:∃ n,N[i]? = some n:=⟨N[i]'ae,si_⟩;refine qY c7I ?_;refine I4 (α:=Nat × List Str × List b9 × List b9) (fun x=>[(2,.ptr 0 0),(5,.vec (1+x.2.2.1.length) 0 x.2.1.length),(6,iv i),(22,(.list ((L.map Prod.snd).map Src.cv) (gnn (L.map Prod.snd).length) none)),(23,(iv ((L.map Prod.snd).length:Int))),(24,iv x.1)]) (fun x=>tst [.box (a0I (L.map Prod.fst) (L.map Prod.snd))] x.2.2.1 (.vec 1 (x.2.1.map scv)) x.2.2.2) (fun x=>NmL L pkg x.2.1/\(∃ t,x.2.1=N++t)/\x.1<=L.length/\∀ y∈L.take x.1,y.2.pkg=n->∀ s∈y.2.imports,s∈x.2.1) (fun x=>L.length - x.1) (0,N,G,H) ⟨hN,⟨[],si_⟩,n_5 _,fun y hy=>by simp at hy⟩ tu_ rfl ?_;intro ⟨q,N1,G1,H1⟩ _ ⟨hN1,bW,hq,cH⟩;dsimp only at hN1 bW hq cH ⊢;have hNl1:=hN1.len;refine qs 2 (qC ?_ ?_)<;> intro h2
  ·have hlq:q < L.length:=sm_ h2;obtain ⟨y,hy⟩:∃ y,L[q]? = some y:=⟨L[q]'hlq,si_⟩;have eM:=n_2 hy;have hyi:=c7P eM;refine D4 ?_;refine qs 1 (qY (o9 rfl tt tt rfl rfl b7u a2C om_ (i8 (c0q hy)) rfl) ?_);refine qD (p7 rfl a2L rfl j4 ?_);refine qD (j3 rfl tt tt rfl j2 a2C j4 b00 rfl (nb rfl) ?_);refine z_0 ?_;refine cY c4X ?_;refine qY (m0 rfl tt rfl b3F (by rw [b1i si_]) rfl) ?_;refine qY I7 ?_;refine qk ?_;refine I4 (α:=Nat × List Str × List b9 × List b9) (fun x=>[(2,.ptr 0 0),(5,.vec (1+x.2.2.1.length) 0 x.2.1.length),(6,iv i),(8,.ptr (tst [.box (a0I (L.map Prod.fst) (L.map Prod.snd))] G1 (.vec 1 (N1.map scv)) H1).length 0),(22,(.list ((L.map Prod.snd).map Src.cv) (gnn (L.map Prod.snd).length) none)),(23,(iv ((L.map Prod.snd).length:Int))),(24,iv q),(29,(.list (y.2.imports.map scv) (gnn y.2.imports.length) none)),(30,iv y.2.imports.length),(31,iv x.1)]) (fun x=>tst [.box (a0I (L.map Prod.fst) (L.map Prod.snd))] x.2.2.1 (.vec 1 (x.2.1.map scv)) x.2.2.2) (fun x=>NmL L pkg x.2.1/\(∃ t,x.2.1=N1++t)/\x.1<=y.2.imports.length/\(∀ s∈y.2.imports.take x.1,y.2.pkg=n->s∈x.2.1)/\(tst [.box (a0I (L.map Prod.fst) (L.map Prod.snd))] x.2.2.1 (.vec 1 (x.2.1.map scv)) x.2.2.2)[(tst [.box (a0I (L.map Prod.fst) (L.map Prod.snd))] G1 (.vec 1 (N1.map scv)) H1).length]? = some (.box y.2.cells)) (fun x=>y.2.imports.length - x.1) (0,N1,G1,H1++[.box y.2.cells]) ⟨hN1,⟨[],si_⟩,n_5 _,fun s hs=>by simp at hs,d4o _⟩ tu_ (c1h _ _) ?_;intro ⟨r,N2,G2,H2⟩ _ ⟨gp,dl,hr,db,hbx⟩;dsimp only at gp dl hr db hbx ⊢;have hNl2:=gp.len;refine qk (qC ?_ ?_)<;> intro h3
   ·have ga:r < y.2.imports.length:=sm_ h3;obtain ⟨s,hs⟩:∃ s,y.2.imports[r]? = some s:=⟨y.2.imports[r]'ga,si_⟩;have iu:=n_2 hs;have gD:y.2.imports.take (r+1)=y.2.imports.take r++[s]:=by rw [a3P,hs];rfl
    obtain ⟨t1,eI⟩:=bW;obtain ⟨t2,fP⟩:=dl;have gn2:N2[i]? = some n:=by rw [fP,eI,F7,V3 ae];exact gn
    have hiN2:i < N2.length:=(n_3.1 gn2).1;refine qY (o9 rfl tt tt rfl rfl t_2 t_0 om_ (i8 hs) rfl) ?_;refine cW 13 ?_;refine hY b4R ?_;refine hY (m0 rfl tt rfl t_6 hbx rfl) ?_;refine b8N ?_;refine hY (V1 rfl tt tt rfl rfl t_2 t_0 a0w om_ om_) ?_;refine hY (N4 rfl tt rfl t_6 a0w (i8 (by rw [K9];exact gn2)) rfl) ?_;refine hY a6x ?_;refine c0z ?_;refine S9 rfl rfl tt rfl C3 ?_;refine S9 rfl rfl tt rfl (fun hg=>c4 rfl Tryz.call149 ⟨hg,hg,tt⟩ (c6y s a0w om_) rfl) ?_;refine S9 rfl rfl tt rfl a4O ?_;refine hY M8 ?_;refine Y5 ?_;refine qC ?_ ?_<;>intro h4
    ·have gE:y.2.pkg=n/\s∉N2:=sp_ h4;have eR:=gp.snoc (gE.1 ▸ n_2 gn2) eM iu gE.2;have hsnl:=eR.len;rw [n_7,b2o] at hsnl;refine qY d6V ?_;refine qD (a4p ((N2++[s]).map scv) (N2++[s]).length rfl tt tt rfl q_2 t_2 t_0 a4b t_3 rfl a0w G7 si_ a4s G7 si_ si_ ?_);refine qY o7 ?_;exact ⟨(r+1,N2++[s],G2++.dead::H2,[]),do_,⟨eR,⟨t2++[s],by rw [fP,F7]⟩,do_,fun z hz hp=>by
      dsimp only at hz ⊢;rw [gD] at hz
      rcases Y1.1 hz with hz | hz
      ·exact b4u _ (db z hz hp)
      ·simp at hz;subst hz;simp,c9r hbx⟩,⟨o0,⟨tt,(n_9 (fun k=>CV.vec k 0 (N2++[s]).length) d4Q)⟩,o0,o0,o0,o0,o0,o0,o0,o0,tt⟩,c5X⟩
    ·have gE:y.2.pkg=n->s∈N2:=sp_ h4;refine qY o7 ?_;exact ⟨(r+1,N2,G2,H2),do_,⟨gp,⟨t2,fP⟩,do_,fun z hz hp=>by
      dsimp only at hz ⊢;rw [gD] at hz
      rcases Y1.1 hz with hz | hz
      ·exact db z hz hp
      ·simp at hz;subst hz;exact gE hp,hbx⟩,tu_,rfl⟩
   ·have hre:r=y.2.imports.length:=sm_ h3;obtain ⟨t1,eI⟩:=bW;obtain ⟨t2,fP⟩:=dl;have gD:L.take (q+1)=L.take q++[y]:=by rw [a3P,hy];rfl
    refine j6 ?_;refine a8U ?_;exact ⟨(q+1,N2,G2,H2),do_,⟨gp,⟨t1++t2,by rw [fP,eI,F7]⟩,do_,fun z hz hp s hs=>by
     dsimp only at hz ⊢;rw [gD] at hz
     rcases Y1.1 hz with hz | hz
     ·rw [fP];exact b4u _ (cH z hz hp s hs)
     ·simp at hz;subst hz;exact db s (by rw [hre,W1 (n_6 _)];exact hs) hp⟩,tu_,rfl⟩
  ·have hqe:q=L.length:=sm_ h2;obtain ⟨t1,eI⟩:=bW;have gD:N1.take (i+1)=N.take i++[n]:=by
    rw [eI,b9W om_,a3P,gn];rfl
   refine b50 ?_;exact ⟨(i+1,N1,G1,H1),do_,⟨hN1,by dsimp only;rw [eI,n_7];omega,fun z hz f hf hp s hs=>by
    dsimp only at hz ⊢;rw [gD] at hz
    rcases Y1.1 hz with hz | hz
    ·rw [eI];exact b4u _ (hc z hz f hf hp s hs)
    ·simp at hz;subst hz;exact cH f (by rw [hqe,W1 (n_6 _)];exact hf) hp s hs⟩,tu_,rfl⟩
 ·have hie:i=N.length:=sm_ h1;have cr:=b6v hN (fun n hn=>hc n (by rw [hie,W1 (n_6 _)];exact hn));refine j6 ?_;refine qY c09 ?_;refine I4 (α:=Nat × List Str) (fun x=>[(5,.vec (1+G.length) 0 N.length),(55,iv N.length),(56,iv x.1)]) (fun x=>tst [.box (a0I (L.map Prod.fst) (L.map Prod.snd))] G (.vec 1 (x.2.map scv)) H) (fun x=>x.1<=N.length/\x.2.Perm N/\(x.2.take x.1).Pairwise (·<=·)) (fun x=>N.length - x.1) (0,N) ⟨n_5 _,List.Perm.refl _,si_⟩ tu_ rfl ?_;intro ⟨m,B⟩ _ ⟨hm,hP,hS⟩;dsimp only at hm hP hS ⊢;have hBl:=hP.length_eq;refine qk (qC ?_ ?_)<;> intro h5
  ·have fC:m < B.length:=sm_ h5;obtain ⟨x0,hx0⟩:∃ x,B[m]? = some x:=⟨B[m]'fC,si_⟩;refine I4 (α:=Nat) (fun k=>[(5,.vec (1+G.length) 0 N.length),(12,iv k),(55,iv N.length),(56,iv m)]) (fun k=>tst [.box (a0I (L.map Prod.fst) (L.map Prod.snd))] G (.vec 1 ((swk B m k x0).map scv)) H) (fun k=>k<=m/\∀ z∈(B.take m).drop k,x0<=z) (fun k=>k) m ⟨n_6 _,fun z hz=>by rw [T5 a4a] at hz;cases hz⟩ tu_ (by rw [b6K hx0]) ?_;intro k _ ⟨hkm,hgt⟩;have dW:=c9I (x:=x0) hkm fC;obtain ⟨y,hy⟩:∃ y,0 < k->B[k - 1]? = some y:=⟨B.getD (k - 1) [],fun h=>by rw [a5m,a1u om_];rfl⟩;refine qk ?_;refine cW 14 ?_;refine b5D ?_;refine c0z ?_;refine S9 rfl rfl tt rfl C3 ?_;refine S9 rfl rfl tt rfl d5G ?_;refine S9 rfl rfl tt rfl (fun hg=>N4 rfl hg rfl t_6 a0w (i8 (by rw [K9];exact b70 hkm fC)) rfl) ?_;refine S9 rfl rfl tt rfl C3 ?_;refine c4M ?_;refine S9 rfl rfl tt rfl d5G ?_;refine S9 rfl rfl tt rfl (fun hg=>N4 rfl hg rfl t_6 a0w (i8 (by rw [K9,show ((k:Int) - 1).toNat=k - 1 by omega];exact b4j (sm_ hg) (hy (sm_ hg)))) rfl) ?_;refine c4o ?_;refine Y5 ?_;refine qC ?_ ?_<;>intro h6
   ·have u6:0 < k/\Op.bytesLess x0 y=true:=sp_ h6;have hyk:=hy u6.1;obtain ⟨j,rfl⟩:∃ j,k=j+1:=⟨k - 1,om_⟩;rw [c0w] at hyk;have hj1:(((j+1:Nat):Int) - 1).toNat=j:=by omega
    have gI:x0<=y:=by have:=u6.2;rw [bytesLess_eq,a1X] at this;exact Std.le_of_lt this
    refine cF [] [0,1,2,3,4,5,6,7,8,9,10,11,12,13,14] (tl:=[(15,[2,3,4]),(16,[]),(17,[])]) ?_;refine a7h ?_;refine a7h ?_;refine chf rfl (c9 rfl Y8) ?_;refine a7h ?_;refine chf rfl (c9 rfl Y8) ?_;refine chf rfl c0Z ?_;refine chf rfl d5x ?_;refine a7h ?_;refine chf rfl c0Z ?_;refine chf rfl d5x ?_;refine chf rfl c0Z ?_;refine D6 ?_;refine B8 rfl rfl rfl (R2 (((swk B m (j+1) x0).set (j+1) y).map scv) rfl tt tt rfl j2 t_0 (.inl rfl) a0w (i8 (by rw [K9];exact b70 hkm fC)) rfl (nb rfl) (by simp only [K9,a1Z];exact c1B _ _ _) b9z ?_);refine ⟨⟨F3,F3,(by exact c9 rfl Y8),tt⟩,?_⟩;refine D7 rfl rfl c0Z ⟨tt,?_⟩;refine B8 rfl rfl rfl (R2 ((swk B m j x0).map scv) rfl tt tt rfl j2 t_0 (.inl rfl) a0w (i8 (by rw [K9,hj1,a2i om_];exact b4j om_ hyk)) rfl (nb rfl) (by rw [K9,hj1];refine (c1B _ _ _).trans ?_;rw [c7G hyk hkm]) b9z ?_);refine a8D ?_;refine qY Y8 ?_;exact ⟨j,om_,⟨om_,fun z hz=>by rw [(a9b hyk hkm).2] at hz;rcases P0.1 hz with rfl | hz;exact gI;exact hgt z hz⟩,⟨o0,⟨tt,(n_9 (fun z:Int=>iv z) om_)⟩,o0,o0,tt⟩,rfl⟩
   ·have u6:k=0\/∃ y,B[k - 1]? = some y/\y<=x0:=by
     rcases b1h k with h0 | h0
     ·exact .inl h0
     ·refine .inr ⟨y,hy h0,?_⟩;have hb:Op.bytesLess x0 y=false:=by simpa [h0] using h6
      rw [bytesLess_eq,b4o] at hb;exact List.not_lt.1 hb
    refine b50 ?_;exact ⟨(m+1,swk B m k x0),do_,⟨do_,(c6C hx0 hkm).trans hP,by dsimp only;rw [c6W hkm fC];exact d0f hS hgt u6 hkm⟩,tu_,rfl⟩
  ·have bX:m=N.length:=sm_ h5;rw [bX,<- hBl,W1 (n_6 _)] at hS;obtain rfl:=d3G hP hS;refine V9 ?_;exact ⟨_,rE1,⟨N,.ret (by rw [<- hBl];exact c8w om_ a0w (fun r hr c hc=>by obtain ⟨x,_,rfl⟩:=I9.1 hr;simp [scv] at hc;subst hc;exact .val _)),hN.nd,cr⟩⟩
open Classical in
noncomputable def Z1 (L:List (Str × Src)) (pkg:Str):List Str:=if h:∃ N:List Str,N.Nodup/\∀ n,n∈N↔a52 L pkg n then a0F h.choose else []
theorem b7i (hN:N.Nodup) (h:∀ n,n∈N↔a52 L pkg n):Z1 L pkg=a0F N:=by
 have dx:∃ N:List Str,N.Nodup/\∀ n,n∈N↔a52 L pkg n:=⟨N,hN,h⟩;unfold Z1;rw [dif_pos dx];exact a8z dx.choose_spec.1 hN fun n=>(dx.choose_spec.2 n).trans (h n).symm
theorem c3f (h:n∈Z1 L pkg):a52 L pkg n:=by
 unfold Z1 at h;split at h
 ·rename_i dx;exact (dx.choose_spec.2 n).1 ((b6E _ _).mem_iff.1 h)
 ·cases h
theorem c2M (L:List (Str × Src)) (pkg:Str):(Z1 L pkg).length<=1+(b0L L).length:=by
 unfold Z1
 split
 ·rename_i dx;have h1:(a0F dx.choose).length=dx.choose.length:=List.length_mergeSort _;have h2:=List.Nodup.length_le_of_subset dx.choose_spec.1 (fun n hn=>b94 ((dx.choose_spec.2 n).1 hn));rw [h1];simpa [b3N] using h2
 ·exact n_5 _
theorem c4k (L:List (Str × Src)) (pkg:Str) (hL:L.length<=1000) (hA:(b0L L).length<=100000) (σ:List b9):b8 CC 97 [.agg (a0I (L.map Prod.fst) (L.map Prod.snd)),sv pkg] σ fun r τ=>r = .ret (.list ((Z1 L pkg).map scv) true none)/\τ=σ :=
 (G4 (res:=fun N:List Str=>.ret (.list ((a0F N).map scv) true none)) (P:=fun N=>N.Nodup/\∀ n,n∈N↔a52 L pkg n) hCC (fun a h=>by
  simp at h
  rcases h with rfl | rfl
  ·exact o8 ⟨E7 _ _,a5h _ _,tt⟩
  ·exact .val _) (c3k L pkg hL hA) (fun _ _=>E7 _ _) σ).mono fun r τ ⟨N,h1,h2,h3,h4⟩=>⟨by rw [h1,b7i h3 h4],h2⟩
def b8h (fl:List Fi) (L:List (Str × Src)) (N:List Str) (o:Str):Str:=N.foldl (fun o q=>I6 (I6 o q) ([61]++a3x fl q L [])) o
theorem c19 {q:Str} (h:N[i]? = some q) (o:Str):b8h fl L (N.drop i) o=b8h fl L (N.drop (i+1)) (I6 (I6 o q) ([61]++a3x fl q L [])):=by
 obtain ⟨ae,rfl⟩:=n_3.1 h;rw [R4 ae];rfl
theorem b7c {fl:List Fi} {pkg:Str} (hbl:∀ q b,C2 fl q=some b->b.length<=100000):∀ (L:List (Str × Src)) (o:Str),(∀ x∈L,x.1.length<=1000)->(a3x fl pkg L o).length<=o.length+200000*L.length
 | [],o,_=>n_6 _
 | x::l,o,hP=>by
  have hx:=hP x si_;have ih:=b7c (pkg:=pkg) hbl l (if x.2.pkg=pkg then I6 (I6 o x.1) ((if B2 fl=0 then C2 fl x.1 else none).getD []) else o) fun y hy=>hP y (by simp [hy]);have hd:((if B2 fl=0 then C2 fl x.1 else none).getD []).length<=100000:=by
   split
   ·cases hdf:C2 fl x.1 with
    | none=>exact n_5 _
    | some b=>exact hbl _ _ hdf
   ·exact n_5 _
  have q1:=a49 (l:=o) (s:=x.1) om_;have q2:=a49 (l:=I6 o x.1) (s:=(if B2 fl=0 then C2 fl x.1 else none).getD []) om_;have e:a3x fl pkg (x::l) o=a3x fl pkg l (if x.2.pkg=pkg then I6 (I6 o x.1) ((if B2 fl=0 then C2 fl x.1 else none).getD []) else o):=rfl;rw [e,C4];have h2:(if x.2.pkg=pkg then I6 (I6 o x.1) ((if B2 fl=0 then C2 fl x.1 else none).getD []) else o).length<=o.length+200000:=by
   split<;>omega
  omega
noncomputable def inR (fl:List Fi) (L:List (Str × Src)) (ev:List Va) (k:Ky):Str :=
 if k.k=1 then a9P L 1 k.a k.b else if k.k=2 then a9P L 2 k.a k.b else if k.k=3 then a9P L 3 [] k.a else
 if k.k=4 then (if (if B2 fl=0 then C2 fl k.a else none).isSome=true then [61]++(if B2 fl=0 then C2 fl k.a else none).getD [] else [45]) else
 if k.k=5 then (if (a0U ev k.a).isSome=true then [61]++Lib.itoa ((a0U ev k.a).getD 0) else [45]) else
 if k.k=6 then [61]++a3x fl k.a L [] else [61]++b8h fl L (Z1 L k.a) []
structure c9C (fl:List Fi) (L:List (Str × Src)):Prop where
 hl:fl.length<=1000000
 hL:L.length<=64
 hA:(b0L L).length<=512
 hP:∀ x∈L,x.1.length<=1000
 hbl:∀ q b,C2 fl q=some b->b.length<=100000
 hd:∀ x∈L,x.2.decls.length<=100000
 hi:∀ x∈L,∀ s∈x.2.imports,s.length<=1000
 ok:∀ k p o,c6H L k p o
theorem c9C.rch (h:c9C fl L) (hp:pkg.length<=1000) (hr:a52 L pkg n):n.length<=1000:=by
 cases hr with
 | base=>exact hp
 | step _ hx _ hs=>exact h.hi _ hx _ hs
theorem c7L (fl:List Fi) (nn:Bool) (L:List (Str × Src)) (ev:List Va) (en:Bool) (k:Ky) (h:c9C fl L) (fy:ev.length<=1000000000) (gy:∀ v,a0U ev k.a=some v->-9007199254740992<=v/\v<=9007199254740992) (hka:k.a.length<=1000) (σ:List b9):b8 CC 54 [.agg (B5 fl nn),.agg (a0I (L.map Prod.fst) (L.map Prod.snd)),.agg (T6 ev en),.agg k.cells] σ fun r Y=>r = .ret (sv (inR fl L ev k))/\Y=σ:=by
 refine b8.anyw hCC pu_ pu_ (c7 (qO Tryz.func54 ?_)) σ;refine b3W ?_;refine b3W ?_;refine qC ?_ ?_<;>intro h1
 ·have w1:k.k=1:=sp_ h1;refine qY (c4 rfl c5q ⟨tt,rfl,tt,tt,tt⟩ (a3m L 1 k.a k.b (by have:=h.hL;omega) h.hd (h.ok _ _ _) _) rfl) ?_;refine c6 ?_;exact ⟨_,a1W rfl tt rfl,_,_,rfl,rfl,C9 (n_9 str (show _=inR fl L ev k by unfold inR;rw [n_1 w1]))⟩
 ·have w1:¬ k.k=1:=sp_ h1;refine qC ?_ ?_<;>intro h2
  ·have w2:k.k=2:=sp_ h2;refine qY (c4 rfl c5q ⟨tt,rfl,tt,tt,tt⟩ (a3m L 2 k.a k.b (by have:=h.hL;omega) h.hd (h.ok _ _ _) _) rfl) ?_;refine c6 ?_;exact ⟨_,a1W rfl tt rfl,_,_,rfl,rfl,C9 (n_9 str (show _=inR fl L ev k by unfold inR;rw [n_0 w1,n_1 w2]))⟩
  ·have w2:¬ k.k=2:=sp_ h2;refine qC ?_ ?_<;>intro h3
   ·have w3:k.k=3:=sp_ h3;refine qY (c4 rfl c5q ⟨tt,rfl,rfl,tt,tt⟩ (a3m L 3 [] k.a (by have:=h.hL;omega) h.hd (h.ok _ _ _) _) rfl) ?_;refine c6 ?_;exact ⟨_,a1W rfl tt rfl,_,_,rfl,rfl,C9 (n_9 str (show _=inR fl L ev k by unfold inR;rw [n_0 w1,n_0 w2,n_1 w3]))⟩
   ·have w3:¬ k.k=3:=sp_ h3;refine qC ?_ ?_<;>intro h4
    ·have w4:k.k=4:=sp_ h4;refine qY (c4 rfl c7Z j1 (a7k fl nn k.a h.hl _) rfl) ?_;refine qC ?_ ?_<;>intro h5
     ·have v4:(if B2 fl=0 then C2 fl k.a else none).isSome=true:=h5;have fi:((if B2 fl=0 then C2 fl k.a else none).getD []).length<=100000:=by
       split
       ·cases hdf:C2 fl k.a with
        | none=>exact n_5 _
        | some b=>exact h.hbl _ _ hdf
       ·exact n_5 _
      refine qY (G8 rfl rfl tt rfl rfl Q7) ?_;refine c6 ?_;exact ⟨_,a1W rfl tt rfl,_,_,rfl,rfl,C9 (n_9 str (show _=inR fl L ev k by unfold inR;rw [n_0 w1,n_0 w2,n_0 w3,n_1 w4,n_1 v4]))⟩
     ·have v4:¬ (if B2 fl=0 then C2 fl k.a else none).isSome=true:=by rw [show (if B2 fl=0 then C2 fl k.a else none).isSome=false from h5];decide
      refine c6 ?_;exact ⟨_,a1W rfl tt rfl,_,_,rfl,rfl,C9 (n_9 str (show _=inR fl L ev k by unfold inR;rw [n_0 w1,n_0 w2,n_0 w3,n_1 w4,n_0 v4]))⟩
    ·have w4:¬ k.k=4:=sp_ h4;refine qC ?_ ?_<;>intro h6
     ·have w5:k.k=5:=sp_ h6;refine qY (c4 rfl Tryz.call89 j1 (b0V ev en k.a fy _) rfl) ?_;refine qC ?_ ?_<;>intro h7
      ·have v5:(a0U ev k.a).isSome=true:=h7;obtain ⟨z,hz⟩:=b5F.1 v5;have hzr:=gy z hz;have eE:(a0U ev k.a).getD 0=z:=by rw [hz];rfl
       have hit:=a3V (n:=z) om_ om_;refine qY (c4 rfl c8r ⟨tt,tt⟩ (a4T _ (by rw [eE];exact hzr.1) (by rw [eE];exact hzr.2) _) rfl) ?_;refine qY (G8 rfl rfl tt rfl rfl (by rw [eE];simp;omega)) ?_;refine c6 ?_;exact ⟨_,a1W rfl tt rfl,_,_,rfl,rfl,C9 (n_9 str (show _=inR fl L ev k by unfold inR;rw [n_0 w1,n_0 w2,n_0 w3,n_0 w4,n_1 w5,n_1 v5]))⟩
      ·have v5:¬ (a0U ev k.a).isSome=true:=by rw [show (a0U ev k.a).isSome=false from h7];decide
       refine c6 ?_;exact ⟨_,a1W rfl tt rfl,_,_,rfl,rfl,C9 (n_9 str (show _=inR fl L ev k by unfold inR;rw [n_0 w1,n_0 w2,n_0 w3,n_0 w4,n_1 w5,n_0 v5]))⟩
     ·have w5:¬ k.k=5:=sp_ h6;refine qC ?_ ?_<;>intro h8
      ·have w6:k.k=6:=sp_ h8;refine qY (c4 rfl Tryz.call96 C6 (a8i fl nn L k.a h.hl (by have:=h.hL;omega) h.hP h.hbl _) rfl) ?_;refine c6 ?_;exact ⟨_,a1W rfl tt rfl,_,_,rfl,rfl,C9 (n_9 str (show _=inR fl L ev k by unfold inR;rw [n_0 w1,n_0 w2,n_0 w3,n_0 w4,n_0 w5,n_1 w6]))⟩
      ·have w6:¬ k.k=6:=sp_ h8;have htl:=c2M L k.a;have hA:=h.hA;have hL:=h.hL;refine qY (c4 rfl Tryz.call97 j1 (c4k L k.a om_ om_ _) rfl) ?_;refine qY I7 ?_;refine j7 hCC (α:=Nat × Str) (fun a=>[(4,.ptr 0 0),(5,.ptr 1 0),(13,(.list (a.2.map bcv) (gnn a.2.length) none)),(75,(.list ((Z1 L k.a).map scv) true none)),(76,(iv ((Z1 L k.a).length:Int))),(77,iv a.1)]) (fun _=>[.box (B5 fl nn),.box (a0I (L.map Prod.fst) (L.map Prod.snd)),.box (T6 ev en),.box k.cells]) (fun a=>a.1<=(Z1 L k.a).length/\b8h fl L (Z1 L k.a) []=b8h fl L ((Z1 L k.a).drop a.1) a.2/\a.2.length<=20000000*a.1) (fun a=>(Z1 L k.a).length - a.1) (0,[]) ⟨n_5 _,rfl,n_6 _⟩ tu_ (ah:=[]) rfl w8 uz_ ?_;rintro ⟨i,o⟩ ⟨hi,hr,ho⟩;dsimp only at hi hr ho ⊢;refine qk (qC ?_ ?_)<;> intro h9
       ·have ae:i < (Z1 L k.a).length:=sm_ h9;obtain ⟨q,hb⟩:∃ q,(Z1 L k.a)[i]? = some q:=⟨(Z1 L k.a)[i]'ae,si_⟩;rw [c19 hb] at hr;have hq:=h.rch hka (c3f (n_2 hb));have hfi:=b7c (pkg:=q) h.hbl L [] h.hP;have hfj:([61]++a3x fl q L []).length<=12800001:=by simp at hfi ⊢;omega
        have q1:=a49 (l:=o) (s:=q) om_;have q2:=a49 (l:=I6 o q) (s:=[61]++a3x fl q L []) om_;refine qY a6y ?_;refine cW 9 ?_;refine b8N ?_;refine hY (c4 rfl c1l j1 (a1a o _ q om_ om_ _) rfl) ?_;refine hY a06 ?_;refine hY (L8 rfl tt rfl c7a c1n rfl (nb rfl)) ?_;refine hY A3 ?_;refine hY (c4 rfl Tryz.call96 C6 (a8i fl nn L q h.hl om_ h.hP h.hbl _) rfl) ?_;refine hY (c4 rfl c1l j1 (a1a (I6 o q) _ ([61]++a3x fl q L []) om_ om_ _) rfl) ?_;refine b0k ?_;refine qY o7 ?_;exact ⟨(i+1,I6 (I6 o q) ([61]++a3x fl q L [])),_,⟨do_,do_,hr,do_⟩,tu_,rfl⟩
       ·have aE:(Z1 L k.a).length<=i:=sm_ h9;rw [T5 aE] at hr;refine j6 ?_;refine qY b6y ?_;refine qY (G8 rfl rfl tt rfl rfl Q7) ?_;refine c6 ?_;exact ⟨_,a1W rfl tt rfl,_,_,rfl,rfl,C9 (n_9 str (show _=inR fl L ev k by unfold inR;rw [n_0 w1,n_0 w2,n_0 w3,n_0 w4,n_0 w5,n_0 w6];rw [hr];rfl))⟩
def er (t:Tok):Tok:=⟨t.k,t.t,t.n,0⟩
theorem d4u:∀ f∈awF,f.p.length<=1000000000:=by decide
theorem d7c (σ:List b9):b8 CC 14 [.agg (B5 awF true),.agg (T6 [] false),CV.agg (Ky.cells ⟨4,[97,46,100,97,116],[]⟩)] σ fun r τ=>r = .ret (.tup [sv [61,45],iv 0])/\τ=σ:=by
 have h:=b0P awF true d4u [] false si_ ⟨4,[97,46,100,97,116],[]⟩ ⟨de_,de_⟩ σ;rw [aw1] at h;exact h
theorem d5V (σ:List b9):b8 CC 14 [.agg (B5 awF true),.agg (T6 [] false),CV.agg (Ky.cells ⟨2,[112],[116]⟩)] σ fun r τ=>r = .ret (.tup [sv [61,112,97,99,107,97,103,101,32,112,59,10,116,101,115,116,32,116,32,61,32,49,59,10],iv 0])/\τ=σ:=by
 have h:=b0P awF true d4u [] false si_ ⟨2,[112],[116]⟩ ⟨de_,de_⟩ σ;rw [aw2] at h;exact h
theorem d6u (σ:List b9):b8 CC 21 [.agg (B5 awF true),.agg (T6 [] false),.list ([(⟨4,[99],[]⟩:Ky)].map Ky.cv) true none,.list ([([45]:Str)].map scv) true none] σ fun r τ=>r = .ret (.tup [iv (-1),iv 0])/\τ=σ:=by
 have h:=c8B awF true d4u [] false si_ [⟨4,[99],[]⟩] true si_ (fun x h=>by simp at h;subst h;exact ⟨de_,de_⟩) [[45]] true σ;rw [aw3] at h;exact h
theorem b9r  (σ:List b9):b8 CC 23 [] σ fun r Y=>r = .ret (.val (.bool true))/\Y=σ:=by
 refine b8.anyw hCC pu_ pu_ (c7 (qO Tryz.func23 ?_)) σ;refine qY d5W ?_;refine qY d5W ?_;refine qY (B3 (awF.map Fi.cv) rfl j1 a7L a3O a5Z rfl rfl rfl rfl rfl rfl rfl rfl rfl) ?_;refine qY (A7 #[(0,1)] rfl ⟨tt,tt⟩ c58 c2t rfl ⟨_,rfl⟩ (fun w=>by kernel_rfl) rfl rfl) ?_;refine qD (p7 rfl c2t rfl j4 ?_);refine qD (j3 rfl tt tt rfl j2 b3R j4 rfl rfl (nb rfl) ?_);refine qY c7H ?_;refine qY d7j ?_;refine qY (c4 rfl Tryz.call14 C6 (by exact d7c _) rfl) ?_;refine qY c7H ?_;refine qY (A7 #[(0,1),(1,1),(2,1)] rfl ⟨rfl,rfl,rfl,tt⟩ c5s b4f rfl ⟨_,rfl⟩ (fun w=>by kernel_rfl) rfl rfl) ?_;refine qY (c4 rfl Tryz.call14 C6 (by exact d5V _) rfl) ?_;refine qY c7H ?_;refine qY d7j ?_;refine qY (B3 ([(⟨4,[99],[]⟩:Ky)].map Ky.cv) rfl ⟨tt,tt⟩ b1J a7m b4f rfl rfl rfl rfl rfl rfl rfl rfl rfl) ?_;refine qY (B3 ([([45]:Str)].map scv) rfl ⟨rfl,tt⟩ t_2 t_0 t_3 rfl rfl rfl rfl rfl rfl rfl rfl rfl) ?_;refine qY (c4 rfl Tryz.call21 a3A (by exact d6u _) rfl) ?_;refine a9t ?_;refine a9t ?_;refine qG C3 ?_;refine c8P ?_;refine qG C3 ?_;refine c8P ?_;refine a9t ?_;refine c6 ?_;exact ⟨_,rE1,_,_,rfl,rfl,j8 (by rfl)⟩
theorem d7l:∀ m:Nat,m < 3->([122]++a4t m++[46,115,114,99]:Str)∈a3l:=fun m hm=>by
 have h3:m=0\/m=1\/m=2:=by omega
 rcases h3 with rfl | rfl | rfl<;>rw [a6w om_]<;>decide
theorem c78 (l:List Int) (nn:Bool) (k:Nat) (aV:k<=500000000) (hl:l.length<=maxLen) (B:Nat) (hB:6300<=B/\B<=1000000) (fl:List Fi) (hm:Q6 B fl):b8 CC 28 [.ptr 0 0,(.agg (B5 fl (gnn fl.length)))] [A6 l nn k] fun r τ=>∃ a:List Fi × Nat,F8 1 τ r (.ret (.agg (B5 a.1 (gnn a.1.length)))) [A6 l nn a.2]/\(Q6 (B+1240) a.1/\k<=a.2/\a.2<=k+1080):=by
 refine cO Tryz.func28 ?_;refine c65 ?_;refine qD (p7 rfl c2t rfl j4 ?_);refine qY (c4 rfl Tryz.call66 trivial (a6f _) rfl) ?_;refine qD (c5 rfl a3M j1 (I5 l nn (k) _ 0 rfl om_ hl I0 de_ de_) rfl ?_);intro sp af;have hspa:=c1E _ af;have hml:=hm.len;refine L9 hCC (α:=Nat) (fun _=>[(0,.ptr 0 0),(3,.ptr 1 0),(4,.ptr 2 0),(5,(sv sp))]) (fun p=>[A6 l nn (p),.box (B5 fl (gnn fl.length)),.box (B5 [] false)]) (fun p=>p=k+2) w8 uz_ ?_ ?_
 ·
  refine qk (qD (c5 rfl a7K o4 (L1 l nn (k+1) _ 0 rfl om_ hl 9 om_) rfl ?_));intro _ _;refine qC ?_ ?_<;>intro h1
  ·refine cF [] [0,1,2,4] (tl:=[(3,[0,3]),(5,[0]),(6,[0]),(7,[]),(8,[])]) ?_;refine c1F ?_;refine chf rfl (c9 rfl d7o) ?_;refine b2m ?_;refine B8 rfl rfl rfl (c5 rfl a3M j1 (I5 l nn (k+2) _ 0 rfl om_ hl a1b de_ de_) rfl ?_);intro v hv;refine ⟨⟨a1T,F3,tt⟩,?_⟩;refine B8 rfl rfl rfl (c5 rfl Tryz.call70 ⟨tt,tt⟩ (c01 l nn (k+3) om_ hl _ 0 rfl) rfl ?_);intro ⟨s,p4⟩ ⟨hs,ca,dh⟩;dsimp only at hs ca dh ⊢;refine ⟨⟨a1T,tt⟩,?_⟩;refine D7 rfl rfl c9g ⟨⟨a1T,tt⟩,?_⟩;refine D7 rfl rfl (c9 rfl (c4 rfl b9q j1 (a0z fl _ ⟨v,s⟩ om_ _) rfl)) ⟨tt,?_⟩;refine b06 ?_;refine c6 ?_;exact ⟨_,D5 rfl a35,⟨(a5l fl ⟨v,s⟩,p4),a2w rfl Y6 (.old (V0 _ _).old),(hm.mono om_).ins (c0m _ hv) do_,do_,do_⟩⟩
  ·refine qC ?_ ?_<;>intro h2
   ·refine cF [] [0,1,2] (tl:=[(3,[0]),(4,[]),(5,[])]) ?_;refine c1F ?_;refine chf rfl (c9 rfl (B3 (([[97,46,100,97,116],[100,47,98,46,100,97,116],[99],[97,46,115,114,99],[98,46,115,114,99]]:List Str).map scv) rfl ⟨rfl,rfl,rfl,rfl,rfl,tt⟩ t_2 t_0 t_3 rfl rfl rfl rfl rfl rfl rfl rfl rfl)) ?_;refine D6 ?_;refine B8 rfl rfl rfl (c5 rfl a3M j1 (I5 l nn (k+2) _ 0 rfl om_ hl ([[97,46,100,97,116],[100,47,98,46,100,97,116],[99],[97,46,115,114,99],[98,46,115,114,99]]:List Str) de_ de_) rfl ?_);intro v hv;refine ⟨⟨a1T,tt⟩,?_⟩;refine D7 rfl rfl (c9 rfl (c4 rfl Tryz.call71 j1 (b3g fl _ v om_ _) rfl)) ⟨tt,?_⟩;refine b06 ?_;refine c6 ?_;exact ⟨_,D5 rfl a35,⟨(a4h fl v,k+3),a2w rfl Y6 (.old (V0 _ _).old),(hm.mono om_).rem v,do_,do_⟩⟩
   ·refine qC ?_ ?_<;>intro h3
    ·refine d3M ?_;refine a7h ?_;refine chf rfl X0 ?_;refine chf rfl c36 ?_;refine d3y ?_;intro v hv;have cZ:v.length<=8:=P7 (.inl hv);refine d1D ?_;intro ⟨s,p4⟩ ⟨hs,ca,dh⟩;dsimp only at hs ca dh ⊢;refine d0W ?_;refine d2F ?_;exact d2M
    ·refine qC ?_ ?_<;>intro h4
     ·refine qY a0S ?_;refine j7 hCC (fun i:Nat=>[(0,.ptr 0 0),(3,.ptr 1 0),(4,.ptr 2 0),(5,(sv sp)),(50,(.list (fl.map Fi.cv) (gnn fl.length) none)),(51,iv fl.length),(52,iv i)]) (fun _=>[A6 l nn (k+2),.box (B5 fl (gnn fl.length)),.box (B5 [] false)]) (fun i=>i<=fl.length) (fun i=>fl.length - i) 0 (n_5 _) tu_ (ah:=[]) rfl w8 uz_ ?_;intro i hi;refine qk (qC ?_ ?_)<;> intro h5
      ·have ae:i < fl.length:=sm_ h5;obtain ⟨y,hb,eM⟩:=a2e ae;have hyb:=hm.byt y eM;refine b1R ?_;refine qC ?_ ?_<;>intro h6
       ·have cE:(a4h fl sp).length<=fl.length:=List.length_filter_le _ _;have hb3:=a2X (l:=l) (k:=k+2) (n:=3) om_;obtain ⟨m,bt⟩:∃ m:Nat,Q2 l (k+2) 3=(m:Int):=⟨(Q2 l (k+2) 3).toNat,om_⟩;have fR:m < 3:=by omega
        have hzp:=d7l m fR;have fi:=a1t 0 m om_;refine cF [] [0,1,2,3,8,9] (tl:=[(4,[4,5]),(5,[4,5]),(6,[4,5]),(7,[4,5]),(10,[]),(11,[]),(12,[])]) ?_;refine c1F ?_;refine chf rfl (c9 rfl (c4 rfl Tryz.call71 j1 (b3g fl _ sp om_ _) rfl)) ?_;refine chf rfl X0 ?_;refine b1P ?_;refine D6 ?_;refine B8 rfl rfl rfl (c5 rfl a7K o4 (L1 l nn (k+2) _ 0 rfl om_ hl 3 om_) rfl ?_);intro _ _;rw [bt];refine ⟨⟨a5I,a4K,tt⟩,?_⟩;refine D7 rfl rfl (c9 rfl b95) ⟨⟨a5I,a4K,tt⟩,?_⟩;refine D7 rfl rfl (c9 rfl a4i) ⟨⟨a5I,a4K,tt⟩,?_⟩;refine D7 rfl rfl c0e ⟨⟨a5I,a4K,tt⟩,?_⟩;refine D7 rfl rfl c9g ⟨tt,?_⟩;refine D7 rfl rfl (c9 rfl (c4 rfl b9q j1 (a0z (a4h fl sp) _ ⟨[122]++a4t m++[46,115,114,99],y.b⟩ om_ _) rfl)) ⟨tt,?_⟩;refine b06 ?_;refine c6 ?_;exact ⟨_,D5 rfl a35,⟨(a5l (a4h fl sp) ⟨[122]++a4t m++[46,115,114,99],y.b⟩,k+3),a2w rfl Y6 (.old (V0 _ _).old),((hm.mono om_).rem sp).ins hzp do_,do_,do_⟩⟩
       ·exact b35
      ·exact c0O
     ·refine qC ?_ ?_<;>intro h7
      ·refine qY a0S ?_;refine j7 hCC (fun i:Nat=>[(0,.ptr 0 0),(3,.ptr 1 0),(4,.ptr 2 0),(5,(sv sp)),(76,(.list (fl.map Fi.cv) (gnn fl.length) none)),(77,iv fl.length),(78,iv i)]) (fun _=>[A6 l nn (k+2),.box (B5 fl (gnn fl.length)),.box (B5 [] false)]) (fun i=>i<=fl.length) (fun i=>fl.length - i) 0 (n_5 _) tu_ (ah:=[]) rfl w8 uz_ ?_;intro i hi;refine qk (qC ?_ ?_)<;> intro h8
       ·have ae:i < fl.length:=sm_ h8;obtain ⟨y,hb,eM⟩:=a2e ae;have hyb:=hm.byt y eM;refine b1R ?_;refine qC ?_ ?_<;>intro h9
        ·have hb3:=a2X (l:=l) (k:=k+2) (n:=100) om_;obtain ⟨m,bt⟩:∃ m:Nat,Q2 l (k+2) 100=(m:Int):=⟨(Q2 l (k+2) 100).toNat,om_⟩;have fR:m < 100:=by omega
         have fi:=a1t 1 m om_;refine cF [] [0,1,2,7,8] (tl:=[(3,[0,1,3,4]),(4,[0,1,3,4]),(5,[0,1,3,4]),(6,[0,1,3,4]),(9,[0,1]),(10,[0]),(11,[]),(12,[])]) ?_;refine chf rfl b2H ?_;refine a7h ?_;refine b1P ?_;refine D6 ?_;refine B8 rfl rfl rfl (c5 rfl a7K o4 (L1 l nn (k+2) _ 0 rfl om_ hl 100 om_) rfl ?_);intro _ _;rw [bt];refine ⟨⟨a1T,F3,a5I,a4K,tt⟩,?_⟩;refine D7 rfl rfl (c9 rfl b95) ⟨⟨a1T,F3,a5I,a4K,tt⟩,?_⟩;refine D7 rfl rfl (c9 rfl a4i) ⟨⟨a1T,F3,a5I,a4K,tt⟩,?_⟩;refine D7 rfl rfl c0e ⟨⟨a1T,F3,a5I,a4K,tt⟩,?_⟩;refine d2E ?_;refine D7 rfl rfl (c9 rfl (c4 rfl b9q j1 (a0z fl _ ⟨sp,[35,32]++a4t m++[10,32,32]++y.b⟩ om_ _) rfl)) ⟨tt,?_⟩;refine b06 ?_;refine c6 ?_;exact ⟨_,D5 rfl a35,⟨(a5l fl ⟨sp,[35,32]++a4t m++[10,32,32]++y.b⟩,k+3),a2w rfl Y6 (.old (V0 _ _).old),(hm.mono om_).ins (hspa) b6V,do_,do_⟩⟩
        ·exact b35
       ·exact c0O
      ·refine qC ?_ ?_<;>intro aU
       ·refine qY a0S ?_;refine j7 hCC (fun i:Nat=>[(0,.ptr 0 0),(3,.ptr 1 0),(4,.ptr 2 0),(5,(sv sp)),(102,(.list (fl.map Fi.cv) (gnn fl.length) none)),(103,iv fl.length),(104,iv i)]) (fun _=>[A6 l nn (k+2),.box (B5 fl (gnn fl.length)),.box (B5 [] false)]) (fun i=>i<=fl.length) (fun i=>fl.length - i) 0 (n_5 _) tu_ (ah:=[]) rfl w8 uz_ ?_;intro i hi;refine qk (qC ?_ ?_)<;> intro ck
        ·have ae:i < fl.length:=sm_ ck;obtain ⟨y,hb,eM⟩:=a2e ae;have hyb:=hm.byt y eM;refine b1R ?_;refine qC ?_ ?_<;>intro cQ
         ·refine qY V7 ?_;refine qY (A7 #[(0,1),(1,1)] rfl j1 b6L a5Z rfl ⟨_,rfl⟩ (fun w=>by kernel_rfl) rfl rfl) ?_;refine qY (c4 rfl b9q j1 (a0z fl _ ⟨sp,y.b++[102,117,110,99]⟩ om_ _) rfl) ?_;refine c37 ?_;exact ⟨_,D5 rfl a35,⟨(a5l fl ⟨sp,y.b++[102,117,110,99]⟩,k+2),a2w rfl Y6 (.old (V0 _ _).old),(hm.mono om_).ins (hspa) b6V,do_,do_⟩⟩
         ·exact b35
        ·exact c0O
       ·exact ⟨(k+2),_,rfl,tu_,rfl⟩
 ·intro p hp;subst hp;refine L9 hCC (α:=Nat) (fun _=>[(0,.ptr 0 0),(3,.ptr 1 0),(4,.ptr 2 0),(5,(sv sp))]) (fun p=>[A6 l nn (p),.box (B5 fl (gnn fl.length)),.box (B5 [] false)]) (fun p=>p=k+2) w8 uz_ ?_ ?_
  ·
   refine qk (qY a0S ?_);refine j7 hCC (fun i:Nat=>[(0,.ptr 0 0),(3,.ptr 1 0),(4,.ptr 2 0),(5,(sv sp)),(121,(.list (fl.map Fi.cv) (gnn fl.length) none)),(122,iv fl.length),(123,iv i)]) (fun _=>[A6 l nn (k+2),.box (B5 fl (gnn fl.length)),.box (B5 [] false)]) (fun i=>i<=fl.length) (fun i=>fl.length - i) 0 (n_5 _) tu_ (ah:=[]) rfl w8 uz_ ?_;intro i hi;refine qk (qC ?_ ?_)<;> intro dk
   ·have ae:i < fl.length:=sm_ dk;obtain ⟨y,hb,eM⟩:=a2e ae;have hyb:=hm.byt y eM;refine b1R ?_;refine qC ?_ ?_<;>intro gA
    ·refine cF [] [0,1,2,3,4] (tl:=[(5,[0,1,2,3]),(6,[0,1]),(7,[0]),(8,[]),(9,[])]) ?_;refine c1F ?_;refine b1P ?_;refine b2m ?_;refine B8 rfl rfl rfl (c5 rfl Tryz.call73 ⟨tt,tt⟩ (c1S l nn (k+2) om_ hl _ 0 rfl) rfl ?_);intro ⟨s,p4⟩ ⟨hs,ca,dh⟩;dsimp only at hs ca dh ⊢;refine ⟨⟨a1T,F3,a5I,a4K,tt⟩,?_⟩;refine d2E ?_;refine D7 rfl rfl (c9 rfl (c4 rfl b9q j1 (a0z fl _ ⟨sp,y.b++s⟩ om_ _) rfl)) ⟨tt,?_⟩;refine b06 ?_;refine c6 ?_;exact ⟨_,D5 rfl a35,⟨(a5l fl ⟨sp,y.b++s⟩,p4),a2w rfl Y6 (.old (V0 _ _).old),(hm.mono om_).ins (hspa) (by show List.length _<=_;simp only [n_7];omega),do_,do_⟩⟩
    ·exact b35
   ·exact c0O
  ·intro p hp;subst hp;refine qk ?_;refine d3M ?_;refine a7h ?_;refine chf rfl X0 ?_;refine chf rfl c36 ?_;refine d3y ?_;intro v hv;have cZ:v.length<=8:=P7 (.inl hv);refine d1D ?_;intro ⟨s,p4⟩ ⟨hs,ca,dh⟩;dsimp only at hs ca dh ⊢;refine d0W ?_;refine d2F ?_;exact d2M
theorem c9z (l:List Int) (nn:Bool) (k:Nat) (aV:k<=500000000) (hl:l.length<=maxLen) (B:Nat) (hB:6300<=B/\B<=1000000) (fl:List Fi) (hm:Q6 B fl) (σ:List b9) (q:Nat) (hq:σ[q]? = some (A6 l nn k)):b8 CC 28 [.ptr q 0,(.agg (B5 fl (gnn fl.length)))] σ fun r τ=>∃ a:List Fi × Nat,r = .ret (.agg (B5 a.1 (gnn a.1.length)))/\τ=σ.set q (A6 l nn a.2)/\(Q6 (B+1240) a.1/\k<=a.2/\a.2<=k+1080) :=
 a96 (c:=fun a:List Fi × Nat=>(.agg (B5 a.1 (gnn a.1.length)))) (S:=fun a=>A6 l nn a.2) hCC (fun a h=>by simp at h;subst h;exact V0 _ _) (fun _=>V0 _ _) (fun _=>K2 _ _ _) (K2 _ _ _) rfl (c78 l nn k aV hl B hB fl hm) σ q hq
def d0G:List Str:=[[109],[110]]
structure d2L (ev:List Va):Prop where
 sub:(ev.map Va.n).Sublist d0G
 rng:∀ v∈ev,-9007199254740992<=v.v/\v.v<=9007199254740992
theorem d2L.len {ev:List Va} (h:d2L ev):ev.length<=2:=by
 have:=h.sub.length_le;rw [a0W] at this;exact this
def b88 (q:Nm) (x:Src):List De:=x.decls.filter fun d=>decide (deK x d=q)
theorem a47 (k:Int) (o pa pk:Str):∀ (l:List De) (j:Nat) (e:En),(fiD k o pa pk l j e).k=e.k/\(fiD k o pa pk l j e).o=e.o/\((fiD k o pa pk l j e).p=e.p\/(fiD k o pa pk l j e).p=pk)/\(fiD k o pa pk l j e).ct=e.ct+((l.filter fun d=>d.k == k && decide (d.name=o)).length:Int)
 | [],_,e=>⟨rfl,rfl,.inl rfl,by simp [fiD]⟩
 | d::l,j,e=>by
  unfold fiD;rw [a8C]
  split
  ·split
   ·obtain ⟨h1,h2,h3,h4⟩:=a47 k o pa pk l (j+1) ⟨pk,e.o,e.k,pa,j,e.ct+1⟩;exact ⟨h1,h2,.inr (h3.elim id id),by rw [h4,C4];simp only;omega⟩
   ·obtain ⟨h1,h2,h3,h4⟩:=a47 k o pa pk l (j+1) ⟨e.p,e.o,e.k,e.pl,e.ix,e.ct+1⟩;exact ⟨h1,h2,h3,by rw [h4,C4];simp only;omega⟩
  ·exact a47 k o pa pk l (j+1) e
theorem b9b {k:Int} {p o:Str} {x:Src} (h:k≠3->x.pkg=p):(x.decls.filter fun d=>d.k == k && decide (d.name=o))=b88 (D9 k p o) x:=by
 unfold b88;refine List.filter_congr fun d _=>?_;rw [Bool.eq_iff_iff];simp only [S7,beq_iff_eq,a1X,deK,D9,Nm.mk.injEq];constructor
 ·rintro ⟨rfl,rfl⟩;refine ⟨rfl,?_,rfl⟩
  split
  ·rfl
  ·rename_i h3;exact h h3
 ·rintro ⟨h1,_,h3⟩;exact ⟨h1,h3⟩
theorem c4r {k:Int} {p o:Str} {x:Src} (h:k≠3) (hp:x.pkg≠p):b88 (D9 k p o) x=[]:=by
 unfold b88;rw [List.filter_eq_nil_iff];intro d _ he;simp only [a1X,deK,D9,Nm.mk.injEq] at he;obtain ⟨h1,h2,_⟩:=he;rw [h1,n_0 h,n_0 h] at h2;exact hp h2
theorem a7U (k:Int) (p o:Str):∀ (L:List (Str × Src)) (e:En),(k≠3->e.p=p)->(fiL k p o L e).k=e.k/\(fiL k p o L e).o=e.o/\(k≠3->(fiL k p o L e).p=p)/\(fiL k p o L e).ct=e.ct+((L.flatMap fun x=>b88 (D9 k p o) x.2).length:Int)
 | [],e,h=>⟨rfl,rfl,h,by simp [fiL]⟩
 | x::L,e,h=>by
  unfold fiL;rw [b5A,n_7]
  split
  ·rename_i hc;simp only [S7,bne_iff_ne,b12,b4o,ne_eq] at hc;obtain ⟨h1,h2,h3,h4⟩:=a7U k p o L e h;exact ⟨h1,h2,h3,by rw [h4,c4r hc.1 hc.2];simp⟩
  ·rename_i hc;have hp:k≠3->x.2.pkg=p:=fun h3=>by
    simp only [S7,bne_iff_ne,b12,b4o,ne_eq,not_and,Decidable.not_not] at hc;exact hc h3
   obtain ⟨g1,g2,g3,g4⟩:=a47 k o x.1 x.2.pkg x.2.decls 0 e;obtain ⟨h1,h2,h3,h4⟩:=a7U k p o L (fiD k o x.1 x.2.pkg x.2.decls 0 e) fun h3=>g3.elim (fun e1=>e1.trans (h h3)) fun e1=>e1.trans (hp h3);exact ⟨h1.trans g1,h2.trans g2,h3,by rw [h4,g4,b9b hp];omega⟩
theorem b5j (q:Nm):∀ fl:List Fi,(occ q fl).length=((C7 fl).flatMap fun x=>b88 q x.2).length
 | []=>rfl
 | f::fl=>by
  have ih:=b5j q fl;have e1:occ q (f::fl)=b8v q f++occ q fl:=by simp [occ]
  rw [e1,n_7,ih];unfold b8v C7;rw [List.filterMap_cons,show a80 f.p f.b=a0h f from rfl];cases a0h f with
  | none=>simp
  | some x=>simp [b88]
theorem a6n {x:Str × Src} (h:x∈C7 fl):∃ f∈fl,a0h f=some x.2:=by
 obtain ⟨f,hf,he⟩:=b9N.1 h;rw [N0] at he;obtain ⟨s,hs,rfl⟩:=he;exact ⟨f,hf,hs⟩
theorem a9W {f:Fi} {x:Src} (h:a0h f=some x):a2f x:=by
 unfold a0h at h;split at h
 ·exact a7s h
 ·cases h
theorem c1f:(C7 fl).length<=fl.length/\∀ x∈C7 fl,x.2.decls.length<=100000:=by
 refine ⟨List.length_filterMap_le _ _,fun x hx=>?_⟩;obtain ⟨f,_,hs⟩:=a6n hx;have:=(a9W hs).decl;omega
def PlE (L:List (Str × Src)) (q:Nm) (e:En):Prop:=0<=e.ct/\(e.ct≠0->∃ x∈L,∃ (i:Nat) (d:De),x.2.decls[i]? = some d/\e.pl=x.1/\e.ix=(i:Int)/\deK x.2 d=q)
theorem c8E {L:List (Str × Src)} {x:Str × Src} (hx:x∈L) (k:Int) (p o:Str) (hp:k≠3->x.2.pkg=p):∀ (l:List De) (j:Nat) (e:En),x.2.decls.drop j=l->PlE L (D9 k p o) e->PlE L (D9 k p o) (fiD k o x.1 x.2.pkg l j e)
 | [],j,e,_,h=>h
 | d::l,j,e,hl,h=>by
  have hj:x.2.decls[j]? = some d:=by
   have:=n_9 (fun m:List De=>m[0]?) hl;simpa using this
  rw [fiD];refine c8E hx k p o hp l (j+1) _ (by rw [<- List.tail_drop,hl];rfl) ?_;have h0:=h.1
  split
  ·rename_i hh;have hq:deK x.2 d=D9 k p o:=by
    simp only [S7,beq_iff_eq,a1X] at hh;unfold deK D9;rw [hh.1,hh.2];by_cases h3:k=3
    ·rw [n_1 h3,n_1 h3]
    ·rw [n_0 h3,n_0 h3,hp h3]
   split
   ·exact ⟨do_,fun _=>⟨x,hx,j,d,hj,rfl,rfl,hq⟩⟩
   ·rename_i h1;have h2:e.ct≠0:=fun h2=>h1 (by rw [h2];rfl);exact ⟨do_,fun _=>h.2 h2⟩
  ·exact h
theorem c5C {L:List (Str × Src)} (k:Int) (p o:Str):∀ (M:List (Str × Src)) (e:En),(∀ x∈M,x∈L)->PlE L (D9 k p o) e->PlE L (D9 k p o) (fiL k p o M e)
 | [],e,_,h=>h
 | x::M,e,hM,h=>by
  rw [fiL];refine c5C k p o M _ (fun y hy=>hM y (by simp [hy])) ?_
  split
  ·exact h
  ·rename_i hc;refine c8E (hM x si_) k p o (fun h3=>?_) _ 0 e rfl h;simp only [S7,bne_iff_ne,b12,b4o,ne_eq,not_and,Decidable.not_not] at hc;exact hc h3
theorem c5c (L:List (Str × Src)) (k:Int) (p o:Str):PlE L (D9 k p o) (fiE L k p o):=c5C k p o L _ (fun _ h=>h) ⟨b0N _,fun h=>absurd rfl h⟩
theorem a9J (h:fl.Pairwise fun a b=>a.p < b.p):(C7 fl).Pairwise fun x y=>x.1≠y.1:=by
 unfold C7;refine List.Pairwise.filterMap _ (fun a b cM x hx y hy e=>?_) h;rw [N0] at hx hy;obtain ⟨_,_,rfl⟩:=hx;obtain ⟨_,_,rfl⟩:=hy;replace e:a.p=b.p:=e;rw [e] at cM;exact List.lt_irrefl _ cM
theorem b3b (h:L.Pairwise fun x y=>x.1≠y.1) {x:Str × Src} (hx:x∈L):L.find? (fun y=>decide (y.1=x.1))=some x:=by
 induction L with
 | nil=>cases hx
 | cons z l ih =>
  rw [a8N] at h;rw [b7x]
  rcases P0.1 hx with rfl | hx
  ·simp
  ·rw [show decide (z.1=x.1)=false from a1o (h.1 x hx)];exact ih h.2 hx
theorem c08 (h:B2 fl=0):fl.Pairwise fun a b=>a.p < b.p:=by
 unfold B2 at h;split at h
 ·cases h
 ·exact (b3s h).2
theorem d5j (h:B2 fl=0) (k:Int) (p o:Str):c6H (C7 fl) k p o:=fun h0 _=>by
 obtain ⟨x,hx,i,d,hd,aT,hix,_⟩:=(c5c (C7 fl) k p o).2 h0;obtain ⟨f,_,hs⟩:=a6n hx;refine ⟨x.2,d,i,?_,a9W hs,hd⟩;unfold a6Q;rw [aT,b3b (a9J (c08 h)) hx,hix]
theorem c8e (h:∀ x∈L,x.2.imports.length<=8):(b0L L).length<=8*L.length:=by
 unfold b0L
 induction L with
 | nil=>exact n_6 _
 | cons x l ih =>
  have h1:=h x si_;have h2:=ih fun y hy=>h y (by simp [hy]);rw [b5A,n_7,C4];omega
theorem d3a (h:B2 fl=0):c9C fl (C7 fl):=by
 obtain ⟨h1,h2⟩:=a6a h;have hs:∀ x∈C7 fl,a2f x.2:=fun x hx=>by
  obtain ⟨f,_,hs⟩:=a6n hx;exact a9W hs
 have hl:=(c1f (fl:=fl)).1;refine ⟨om_,om_,?_,fun x hx=>?_,fun q b hb=>?_,(c1f (fl:=fl)).2,fun x hx s iu=>?_,fun k p o=>d5j h k p o⟩
 ·have:=c8e (L:=C7 fl) fun x hx=>(hs x hx).impl;omega
 ·obtain ⟨f,hf,he⟩:=b9N.1 hx;rw [N0] at he;obtain ⟨_,_,rfl⟩:=he;have:=L2 (h2 f hf).1;show f.p.length<=1000;omega
 ·obtain ⟨f,hf,rfl⟩:=b1S hb;have:=(h2 f hf).2;omega
 ·have:=B7 ((hs x hx).imp s iu).1;omega
theorem c0a:∀ {l:List Va} {pv:Option Va},evB pv l=true->∀ v∈l,-9007199254740992<=v.v/\v.v<=9007199254740992
 | [],_,_,_,h=>by cases h
 | x::l,pv,h,v,hv=>by
  rw [evB,S7] at h
  rcases P0.1 hv with rfl | hv
  ·have h1:=h.1;unfold a1P at h1;simp only [S7,a1X] at h1;exact h1.1.2
  ·exact c0a h.2 v hv
theorem d1r {ev:List Va} (h:a2s ev=true) {s:Str} {z:Int} (hz:a0U ev s=some z) : -9007199254740992<=z/\z<=9007199254740992:=by
 unfold a0U at hz;rw [N0] at hz;obtain ⟨x,hx,rfl⟩:=hz;exact c0a (c1y.1 h).2 x (b7F hx)
theorem d1e {k:Ky} (h:a0x k=true):k.a.length<=1000:=by
 unfold a0x at h;split at h
 ·have:=B7 (c1y.1 h).1;omega
 ·split at h
  ·have:=L2 (c1y.1 h).1;omega
  ·split at h
   ·have:=B7 (c1y.1 h).1;omega
   ·cases h
theorem b1K (h:fl.Pairwise fun a b=>a.p < b.p):∀ f∈fl,C2 fl f.p=some f.b:=by
 induction fl with
 | nil=>intro f hf;cases hf
 | cons x l ih =>
  intro f hf;rw [a8N] at h;unfold C2;rw [b7x]
  rcases P0.1 hf with rfl | hf
  ·simp
  ·have aC:x.p≠f.p:=fun e=>by
    have:=h.1 f hf;rw [e] at this;exact List.lt_irrefl _ this
   rw [show decide (x.p=f.p)=false from a1o aC];exact ih h.2 f hf
noncomputable def cR1 (fl:List Fi) (ev:List Va) (k:Ky):Option Str:=if B2 fl=0/\a2s ev=true/\a0x k=true then some (inR fl (C7 fl) ev k) else none
theorem d4R (nn:Bool) (h:B2 fl=0) (σ:List b9):b8 CC 55 [.agg (B5 fl nn)] σ fun r τ=>r = .ret (.agg (a0I ((C7 fl).map Prod.fst) ((C7 fl).map Prod.snd)))/\τ=σ:=by
 have hl:=d3a h;refine c2j rfl nn h hl.hl (fun f hf=>?_) (fun q b hb=>by have:=hl.hbl q b hb;omega) (fun _=>b1K (c08 h)) σ;have:=L2 ((a6a h).2 f hf).1;omega
theorem b3G (fl:List Fi) (nn:Bool) (ev:List Va) (en:Bool) (k:Ky):b8 CC 15 [.agg (B5 fl nn),.agg (T6 ev en),.agg k.cells] [] fun r τ=>∃ _:Unit,a0T 0 τ r (.ret (a5Q (cR1 fl ev k)))/\True:=by
 refine qO Tryz.func15 ?_;refine b3W ?_;refine qD (F5 rfl tt j2 j4 ?_);refine qY (c4 rfl c5p ⟨tt,tt⟩ (a5T fl nn _) rfl) ?_;refine qG (fun hg=>L8 rfl tt rfl c1o b9S rfl (nb rfl)) ?_;refine qG (fun hg=>c4 rfl Tryz.call53 ⟨hg,tt⟩ (a3s ev en _) rfl) ?_;refine b7B ?_;refine qG (fun hg=>L8 rfl tt rfl c6U a7m rfl (nb rfl)) ?_;refine qG (fun hg=>c4 rfl Tryz.call36 ⟨hg,tt⟩ (b5Y k _) rfl) ?_;refine b7B ?_;refine qC ?_ ?_<;>intro h1
 ·have hv:¬ (B2 fl=0/\a2s ev=true/\a0x k=true):=by
   rintro ⟨u1,u2,u3⟩;simp [u1,u2,u3] at h1
  refine c6 ?_;exact ⟨_,p8 (rs:=[.tmp 6,.tmp 7]) (cs:=[_,_]) rfl T1 (n_4 rfl),(by rw [cR1,n_0 hv];exact ⟨(),.ret (.tups ⟨.old (.val _),.old (.val _),tt⟩),tt⟩)⟩
 ·have hv:(B2 fl=0/\a2s ev=true)/\a0x k=true:=sp_ h1;obtain ⟨⟨v1,v2⟩,v3⟩:=hv;refine cW 8 ?_;refine hY a06 ?_;refine hY a06 ?_;refine hY (c4 rfl Tryz.call55 ⟨tt,tt⟩ (d4R nn v1 _) rfl) ?_;refine hY (L8 rfl tt rfl c1o b9S rfl (nb rfl)) ?_;refine hY c8I ?_;refine hY (c4 rfl Tryz.call54 a3A (c7L fl nn (C7 fl) ev en k (d3a v1) (by have:=b2O v2;omega) (fun z hz=>d1r v2 hz) (d1e v3) _) rfl) ?_;refine hY a0Q ?_;refine hY a3W ?_;refine Y5 ?_;refine c6 ?_;exact ⟨_,p8 (rs:=[.tmp 6,.tmp 7]) (cs:=[_,_]) rfl T1 (n_4 rfl),(by rw [cR1,n_1 ⟨v1,v2,v3⟩];exact ⟨(),.ret (.tups ⟨.old (.val _),.old (.val _),tt⟩),tt⟩)⟩
theorem b6i (fl:List Fi) (nn:Bool) (ev:List Va) (en:Bool) (k:Ky) (σ:List b9):b8 CC 15 [.agg (B5 fl nn),.agg (T6 ev en),.agg k.cells] σ fun r τ=>r = .ret (a5Q (cR1 fl ev k))/\τ=σ :=
 (G4 (res:=fun _:Unit=>.ret (a5Q (cR1 fl ev k))) (P:=fun _=>True) hCC (fun a h=>by simp at h;rcases h with rfl | rfl | rfl;exact o8 (cs:=B5 _ _) ⟨H0 _ _,tt⟩;exact o8 (cs:=T6 _ _) ⟨a0R _ _,tt⟩;exact o8 ⟨.val _,.val _,.val _,tt⟩) (b3G fl nn ev en k) (fun _ _=>C0 (cs:=[_,_]) ⟨.val _,.val _,tt⟩) σ).mono fun r τ ⟨_,h1,h2,_⟩=>⟨h1,h2⟩
theorem d5c (k:Int) (p o:Str):(fiE (C7 fl) k p o).ct=((occ (D9 k p o) fl).length:Int):=by
 have h:=(a7U k p o (C7 fl) ⟨if k=3 then [] else p,o,k,[],0,0⟩ (fun h3=>n_0 h3)).2.2.2;rw [b5j];show (fiL k p o (C7 fl) _).ct=_;rw [h];simp
theorem d4y {q:Nm} {x:Str × Src} {d:De} (hx:x∈C7 fl) (hd:x.2.decls[i]? = some d) (hq:deK x.2 d=q):(x.2,d)∈occ q fl:=by
 obtain ⟨f,hf,hs⟩:=a6n hx;refine List.mem_flatMap.2 ⟨f,hf,?_⟩;unfold b8v;rw [hs];exact I9.2 ⟨d,b3r.2 ⟨n_2 hd,a1R hq⟩,rfl⟩
theorem c6K (h:B2 fl=0) (k:Int) (p o:Str):a9P (C7 fl) k p o=d7i (occ (D9 k p o) fl):=by
 have fT:=d5c (fl:=fl) k p o;have aT:=(c5c (C7 fl) k p o).2;unfold a9P;cases ho:occ (D9 k p o) fl with
 | nil =>
  rw [ho] at fT;rw [n_1 (by rw [fT];rfl)];rfl
 | cons y t =>
  rw [ho] at fT;rw [C4] at fT;rw [n_0 om_];cases t with
  | cons z t =>
   rw [C4] at fT;rw [n_1 om_];obtain ⟨a,b⟩:=y;rfl
  | nil =>
   rw [I3] at fT;rw [n_0 om_];obtain ⟨x,hx,i,d,hd,h1,h2,hq⟩:=aT om_;have hm:=d4y hx hd hq;rw [ho,b38] at hm;subst hm;have hD:a6Q (C7 fl) (fiE (C7 fl) k p o)=(x.2,(i:Int)):=by
    unfold a6Q;rw [h1,b3b (a9J (c08 h)) hx,h2]
   rw [hD];dsimp only;rw [a1Z,hd];rfl
theorem b4P {fl:List Fi} (h:B2 fl=0) (pkg:Str):∀ (M:List Fi) (o:Str),(∀ f∈M,f∈fl)->a3x fl pkg (C7 M) o=a9E o (M.filter fun f=>decide ((a0h f).map Src.pkg=some pkg))
 | [],_,_=>rfl
 | f::M,o,hM=>by
  have hd:=b1K (c08 h) f (hM f si_);have ih:=fun o=>b4P h pkg M o fun g hg=>hM g (by simp [hg]);rw [a8C];have e:C7 (f::M)=(match a0h f with | none=>[] | some s=>[(f.p,s)])++C7 M:=by
   unfold C7;rw [List.filterMap_cons,show a80 f.p f.b=a0h f from rfl];cases a0h f<;>rfl
  rw [e];cases hs:a0h f with
  | none =>
   rw [n_0 si_];exact ih o
  | some s =>
   show a3x fl pkg (C7 M) (if s.pkg=pkg then I6 (I6 o f.p) ((if B2 fl=0 then C2 fl f.p else none).getD []) else o)=_;rw [ih];by_cases hp:s.pkg=pkg
   ·rw [n_1 hp,n_1 h,hd,n_1 (by simp [hp])];rfl
   ·rw [n_0 hp,n_0 (by simp [hp])]
theorem b99 (h:B2 fl=0) (pkg o:Str):a3x fl pkg (C7 fl) o=a9E o (B1 (x9 fl).2.1 fl pkg):=by
 rw [a58 h];exact b4P h pkg fl o fun _ hf=>hf
theorem b59 {x:Str × Src}:x∈C7 fl↔∃ f∈fl,a0h f=some x.2/\x.1=f.p:=by
 unfold C7;rw [b9N];constructor
 ·rintro ⟨f,hf,he⟩;rw [N0] at he;obtain ⟨s,hs,rfl⟩:=he;exact ⟨f,hf,hs,rfl⟩
 ·rintro ⟨f,hf,hs,hp⟩;refine ⟨f,hf,?_⟩;rw [show a80 f.p f.b=a0h f from rfl,hs];obtain ⟨a,b⟩:=x;cases hp;rfl
theorem c1O {fl:List Fi} (h:B2 fl=0) (pkg n:Str):a52 (C7 fl) pkg n↔Reach (x9 fl).2.1 fl pkg n:=by
 constructor
 ·intro hr
  induction hr with
  | base=>exact .base
  | step _ hx hp hs ih =>
   obtain ⟨f,hf,h1,_⟩:=b59.1 hx;refine .step ih (f:=f) ?_ ?_
   ·rw [a58 h];refine b3r.2 ⟨hf,a1R ?_⟩;rw [h1,b2u,hp]
   ·unfold a0X;rw [(a7c h).src f hf,h1];exact hs
 ·intro hr
  induction hr with
  | base=>exact .base
  | @step m f s _ hf hs ih =>
   rw [a58 h] at hf;obtain ⟨hf,h1⟩:=b3r.1 hf;have h1:=a9m h1;rw [N0] at h1;obtain ⟨x,h2,h3⟩:=h1;unfold a0X at hs;rw [(a7c h).src f hf,h2] at hs;exact .step ih (x:=(f.p,x)) (b59.2 ⟨f,hf,h2,rfl⟩) h3 hs
theorem c5b (h:B2 fl=0) (pkg:Str):Z1 (C7 fl) pkg=a9l (x9 fl).2.1 fl pkg:=by
 by_cases dx:∃ N:List Str,N.Nodup/\∀ n,n∈N↔a52 (C7 fl) pkg n
 ·obtain ⟨N,h1,h2⟩:=dx;rw [b7i h1 h2,b10 h1 fun n=>(h2 n).trans (c1O h pkg n)]
 ·unfold Z1 a9l;rw [dif_neg dx,dif_neg fun ⟨N,h1,h2⟩=>dx ⟨N,h1,fun n=>(h2 n).trans (c1O h pkg n).symm⟩]
theorem c0g {fl:List Fi} (h:B2 fl=0):∀ (N:List Str) (o:Str),b8h fl (C7 fl) N o=b6w (x9 fl).2.1 fl o N
 | [],_=>rfl
 | q::N,o=>by
  show b8h fl (C7 fl) N (I6 (I6 o q) ([61]++a3x fl q (C7 fl) []))=b6w (x9 fl).2.1 fl (I6 (I6 o q) (a0H (x9 fl).2.1 fl q)) N;rw [c0g h N,b99 h];rfl
theorem d3W (h:B2 fl=0) (ev:List Va) (k:Ky):inR fl (C7 fl) ev k=V6 fl (x9 fl).2.1 (x9 fl).2.2 ev k:=by
 unfold inR V6;simp only [c6K h,c2R h,n_1 h,b99 h,c0g h,c5b h];rfl
theorem d3D (fl:List Fi) (ev:List Va) (k:Ky):cR1 fl ev k=T9 fl ev k:=by
 unfold cR1 T9 X1;by_cases h:B2 fl=0/\a2s ev=true/\a0x k=true
 ·rw [n_1 h,n_1 ⟨h.1,h.2.1,by simp [h.2.2]⟩,d3W h.1];rfl
 ·rw [n_0 h,n_0 fun g=>h ⟨g.1,g.2.1,sp_ g.2.2⟩];rfl
theorem a6L (fl:List Fi) (nn:Bool) (ev:List Va) (en:Bool) (k:Ky) (σ:List b9):b8 CC 15 [.agg (B5 fl nn),.agg (T6 ev en),.agg k.cells] σ fun r τ=>r = .ret (a5Q (T9 fl ev k))/\τ=σ:=by
 have h:=b6i fl nn ev en k σ;rw [d3D] at h;exact h
theorem b6A (nn:Bool) (bO:∀ f∈fl,f.p.length<=1000000000) (hv:B2 fl=0) (x:Src) (hl:x.imports.length<=1000000) {name:Str} (hn:A9 name=true) (σ:List b9):b8 CC 30 [.agg (B5 fl nn),.agg x.cells,(sv name)] σ fun r τ=>r = .ret (b01 true (x9 fl).2.2 name (x.pkg::x.imports))/\τ=σ:=by
 have h:=d0S fl nn bO x hl name σ;rw [b1d,n_1 ⟨hv,hn⟩] at h;exact h
theorem d7v {A:Bool} {x y:Option Str}:(match A && decide (x.getD []=y.getD []) with
 | false=>false
 | true=>((if x.isSome=true then (0:Int) else 1) == (if y.isSome=true then 0 else 1)))=(A && decide (x=y)):=by
 cases A with
 | false=>rfl
 | true=>cases x<;>cases y<;>cases h:decide (Option.getD _ ([]:Str)=Option.getD _ [])<;>simp_all
theorem c7W {f:Ky->Bool} {l:List Ky} {k:Ky} (h:l[i]? = some k):((l.take i).all f && f k)=(l.take (i+1)).all f:=by
 rw [a3P,h,List.all_append];simp
theorem b1D (l:List Int) (nn:Bool) (hl:l.length<=maxLen):b8 CC 5 [.list (l.map icv) nn none] [] fun r τ=>∃ _:Unit,a0T 0 τ r (.ret (.val (.bool true)))/\True:=by
 refine cO Tryz.func5 ?_;refine z_0 ?_;refine a7x ?_;refine z_4 ?_;refine cY (A7 #[(0,1),(1,1)] rfl ⟨tt,tt⟩ c4y Tryz.zeroValue29 rfl ⟨_,rfl⟩ (fun w=>by kernel_rfl) rfl rfl) ?_;refine cD (F5 rfl tt j2 j4 ?_);refine z_3 ?_;refine z_4 ?_;refine de rfl Tryz.call27 ⟨tt,tt⟩ (b5d l nn 0 om_ hl _ 0 rfl) rfl ?_;intro ⟨fl,q0⟩ ⟨hm,ca,dh⟩;dsimp only at hm ca dh ⊢;refine d3o ?_;refine a8f ?_;refine cY a06 ?_;refine de rfl Tryz.call28 j1 (c9z l nn q0 om_ hl 6300 ⟨om_,om_⟩ fl hm _ 0 rfl) rfl ?_;intro ⟨gl,q⟩ ⟨hs,hq3,hq4⟩;dsimp only at hs hq3 hq4 ⊢;have dC:=hm.valid om_;have ci:=hs.valid om_;refine d3o ?_;refine a8f ?_;refine cY (B3 ([[112],[113]].map scv) rfl ⟨rfl,rfl,tt⟩ t_2 t_0 t_3 rfl rfl rfl rfl rfl rfl rfl rfl rfl) ?_;refine de rfl a3M j1 (I5 l nn q _ 0 rfl om_ hl [[112],[113]] si_ si_) rfl ?_;intro pk dN;refine cY (B3 ([[115]].map scv) rfl ⟨rfl,tt⟩ t_2 t_0 t_3 rfl rfl rfl rfl rfl rfl rfl rfl rfl) ?_;refine cY (A7 #[(0,1),(1,1),(2,1)] rfl j1 a5U a2L rfl ⟨_,rfl⟩ (fun w=>by kernel_rfl) rfl rfl) ?_;refine d2p ?_;refine a8f ?_;refine yc rfl Tryz.call29 trivial (a4v _) ?_;refine de rfl a3M j1 (I5 l nn (q+1) _ 0 rfl om_ hl S3 de_ de_) rfl ?_;intro u hu;have hun:A9 u=true:=by revert u;decide
 have hL:∀ p∈[pk,[115]],A9 p=true:=by
  have:A9 pk=true:=by revert pk;decide
  intro p hp;simp only [P0,a8Z,or_false] at hp
  rcases hp with rfl | rfl
  ·exact this
  ·rfl
 have bx:∀ n,(J6 u [pk,[115]] n).length<=2:=fun n=>by unfold J6;rw [a0W,a5t];simp;omega
 have hkn:∀ w,(J6 u [pk,[115]] (J8 true w u [pk,[115]])).length=J8 true w u [pk,[115]]:=fun w=>by
  unfold J6;rw [a0W,a5t];exact b8C (c8p _)
 refine z_3 ?_;refine z_0 ?_;refine cY a06 ?_;refine cY a8t ?_;refine cY A3 ?_;refine ye rfl Tryz.call30 C6 (b6A (gnn fl.length) hm.plen dC ⟨pk,[[115]],[]⟩ (nb rfl) hun _) rfl ?_;refine a9V ?_;refine cY a4g ?_;refine cD (p7 rfl a5i rfl j4 ?_);refine c6k ?_;refine z_3 ?_;refine z_0 ?_;refine cY a06 ?_;refine cY a8t ?_;refine cY A3 ?_;refine ye rfl Tryz.call30 C6 (b6A (gnn gl.length) hs.plen ci ⟨pk,[[115]],[]⟩ (nb rfl) hun _) rfl ?_;refine a9V ?_;refine cY a4g ?_;refine cD (p7 rfl a5i rfl j4 ?_);refine c6k ?_;refine z_3 ?_;refine z_0 ?_;refine cY a3W ?_;refine a8F ?_;refine z_4 ?_;refine cY b61 ?_;refine a5G ?_;refine j7 hCC (α:=Nat × Bool) (fun a=>[(4,.ptr 1 0),(5,.ptr 2 0),(8,.ptr 4 0),(9,(.list ((J6 u [pk,[115]] (J8 true (x9 fl).2.2 u [pk,[115]])).map Ky.cv) (gnn (J8 true (x9 fl).2.2 u [pk,[115]])) none)),(10,(iv (a39 (U7 true (x9 fl).2.2 u [pk,[115]])))),(11,.ptr 5 0),(12,(.list ((J6 u [pk,[115]] (J8 true (x9 gl).2.2 u [pk,[115]])).map Ky.cv) (gnn (J8 true (x9 gl).2.2 u [pk,[115]])) none)),(13,(iv (a39 (U7 true (x9 gl).2.2 u [pk,[115]])))),(14,(.val (.bool a.2))),(53,(.list ((J6 u [pk,[115]] (J8 true (x9 fl).2.2 u [pk,[115]])).map Ky.cv) (gnn (J8 true (x9 fl).2.2 u [pk,[115]])) none)),(54,(iv ((J6 u [pk,[115]] (J8 true (x9 fl).2.2 u [pk,[115]])).length:Int))),(55,iv a.1)]) (fun _=>[A6 l nn (q+1+1),.box (B5 fl (gnn fl.length)),.box (B5 gl (gnn gl.length)),.box (Src.cells ⟨pk,[[115]],[]⟩),.box (a1V (U7 true (x9 fl).2.2 u [pk,[115]])).cells,.box (a1V (U7 true (x9 gl).2.2 u [pk,[115]])).cells]) (fun a=>a.1<=(J6 u [pk,[115]] (J8 true (x9 fl).2.2 u [pk,[115]])).length/\a.2=(((J6 u [pk,[115]] (J8 true (x9 fl).2.2 u [pk,[115]])).take a.1).all fun k=>decide (T9 fl [] k=T9 gl [] k))) (fun a=>(J6 u [pk,[115]] (J8 true (x9 fl).2.2 u [pk,[115]])).length - a.1) (0,true) ⟨n_5 _,si_⟩ tu_ (ah:=[]) rfl w8 uz_ ?_;intro ⟨i,sm⟩ ⟨hi,iu⟩;dsimp only at hi iu ⊢;refine a5H ?_;refine cC ?_ ?_<;>intro h1
 ·have ae:i < (J6 u [pk,[115]] (J8 true (x9 fl).2.2 u [pk,[115]])).length:=sm_ h1;obtain ⟨k,hk,_⟩:=a2e ae;have bZ:=bx (J8 true (x9 fl).2.2 u [pk,[115]]);refine b0E ?_;refine cY (o9 rfl tt tt rfl rfl b1J a7m om_ (i8 hk) rfl) ?_;refine cY c67 ?_;refine cD (p7 rfl b4f rfl j4 ?_);refine cD (j3 rfl tt tt rfl j2 a7m j4 rfl rfl (nb rfl) ?_);refine a6t ?_;refine cY a06 ?_;refine cY c7H ?_;refine cY c8I ?_;refine yc rfl Tryz.call15 C6 (a6L fl (gnn fl.length) [] false k _) ?_;refine a9V ?_;refine cY a0Q ?_;refine z_3 ?_;refine z_0 ?_;refine cY a06 ?_;refine cY c7H ?_;refine cY c8I ?_;refine yc rfl Tryz.call15 C6 (a6L gl (gnn gl.length) [] false k _) ?_;refine a9V ?_;refine cY a0Q ?_;refine z_3 ?_;refine a3y ?_;refine b1t ?_;refine cG C3 ?_;refine cG a8B ?_;refine cY M8 ?_;refine b1t ?_;refine cG C3 ?_;refine cG a75 ?_;refine cY M8 ?_;refine z_3 ?_;refine a7n ?_;exact ⟨(i+1,_),_,⟨do_,do_,by dsimp only;rw [iu];exact d7v.trans (c7W hk)⟩,⟨⟨tt,rfl⟩,⟨tt,rfl⟩,⟨tt,rfl⟩,⟨tt,rfl⟩,⟨tt,rfl⟩,⟨tt,rfl⟩,⟨tt,rfl⟩,⟨tt,rfl⟩,⟨tt,rfl⟩,⟨tt,rfl⟩,⟨tt,rfl⟩,⟨tt,rfl⟩,tt⟩,rfl⟩
 ·have aE:(J6 u [pk,[115]] (J8 true (x9 fl).2.2 u [pk,[115]])).length<=i:=sm_ h1;rw [W1 aE] at iu;refine j6 (D4 ?_);refine z_4 ?_;refine b1t ?_;refine cG C3 ?_;refine cG a75 ?_;refine cG a3G ?_;refine a4l rfl rfl (fun h=>h) rfl rfl (fun hk hg=>a0Y rfl tt j2) ?_;refine a4l rfl rfl (fun h=>h) rfl rfl (fun hk hg=>a0Y rfl tt j2) ?_;refine a4l rfl rfl (fun h=>h) rfl rfl (fun hk hg=>c4 rfl Tryz.call31 ⟨⟨hk,hg⟩,⟨hk,hg⟩,tt⟩ (b8b (J6 u [pk,[115]] (J8 true (x9 fl).2.2 u [pk,[115]])) (J6 u [pk,[115]] (J8 true (x9 gl).2.2 u [pk,[115]])) _ _ (by have:=bx (J8 true (x9 fl).2.2 u [pk,[115]]);unfold maxLen;omega) _) rfl) ?_;refine a4l rfl rfl (fun h=>h) rfl rfl (fun hk hg=>b5Q rfl ⟨hk,hg⟩ rfl) ?_;refine cG c1s ?_;refine cG a3G ?_;refine d1k ?_;refine d1k ?_;refine d1L ?_;refine cG a3G ?_;refine d1k ?_;refine d1k ?_;refine d1L ?_;refine cG a3G ?_;refine d7n ?_;refine d7n ?_;refine a4l rfl rfl (fun h=>h) rfl rfl (fun hk hg=>a0d rfl ⟨hk,hg⟩ ⟨hk,hg⟩ rfl rfl rfl) ?_;refine cG c1s ?_;refine b62 ?_;refine cC ?_ ?_<;>intro h2
  ·exfalso;have hsmt:sm=true:=by
    cases sm
    ·simp at h2
    ·rfl
   rw [hsmt] at iu;obtain ⟨e1,e2,e3,e4,e5⟩:=d6K dC ci hun hL (fun k hk=>a9m (a5p.1 iu.symm k hk));simp [e1,e2,e3,e4,e5] at h2
  ·refine a9F ?_;refine yc rfl Tryz.call23 trivial (b9r _) ?_;refine a2l ?_;exact ⟨_,rE1,(by exact ⟨(),.ret (.old (.val _)),tt⟩)⟩
theorem b3i (l:List Int) (nn:Bool) (hl:l.length<=maxLen) (σ:List b9):b8 CC 5 [.list (l.map icv) nn none] σ fun r τ=>r = .ret (.val (.bool true))/\τ=σ :=
 (G4 (res:=fun _:Unit=>.ret (.val (.bool true))) (P:=fun _=>True) hCC (fun a h=>by simp at h;subst h;exact N5 _ _) (b1D l nn hl) (fun _ _=>.val _) σ).mono fun r τ ⟨_,h1,h2,_⟩=>⟨h1,h2⟩
end Go.Proofs.YtlppbmfecjabeaaGreatDoor
