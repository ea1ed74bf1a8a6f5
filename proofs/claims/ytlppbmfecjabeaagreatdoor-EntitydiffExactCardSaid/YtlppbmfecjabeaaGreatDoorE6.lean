/- Part 6: values without addresses. -/
import Derived.Test.YtlppbmfecjabeaaGreatDoorE5
set_option linter.all false
set_option maxRecDepth 100000
set_option maxHeartbeats 4000000
namespace Go.Proofs.YtlppbmfecjabeaaGreatDoor
open Go Go.Cl
variable {fl fs:List Fi} {ev ew:List Va} {k y:Ky} {l:List Ky} {p s o:Str} {x:Src} {i B j:Nat} {α β:Type}
theorem a5K {n m:Nat} (hn:n < 256) (hm:m < 256) (h:UInt8.ofNat n=UInt8.ofNat m):n=m:=by
 have:=n_8 UInt8.toNat h;rw [b7n,b7n] at this;have e1:n%2^8=n:=b5l om_;have e2:m%2^8=m:=b5l om_;omega
theorem d0Z:∀ (n m:Nat) (r t:Str),U0 n++r=U0 m++t->n=m/\r=t:=fun n=>by
 induction n using Nat.strongRecOn with
 | ind n ih =>
  intro m r t h;rw [X0 n,X0 m] at h;split at h
  ·rename_i hn;split at h
   ·rename_i hm;simp only [a9N,a2e,List.cons.injEq] at h;exact ⟨a5K om_ om_ h.1,h.2⟩
   ·rename_i hm;simp only [a9N,a2e,List.cons.injEq] at h;have:=a5K om_ om_ h.1;omega
  ·rename_i hn;split at h
   ·rename_i hm;simp only [a9N,a2e,List.cons.injEq] at h;have:=a5K om_ om_ h.1;omega
   ·rename_i hm;simp only [a9N,List.cons.injEq] at h;have h1:=a5K om_ om_ h.1;obtain ⟨h2,h3⟩:=ih (n / 128) om_ (m / 128) r t h.2;exact ⟨om_,h3⟩
theorem d3e (n:Nat):U0 n≠[]:=by
 rw [X0]
 split<;>simp
def a92 (s:Str):Str:=U0 s.length++s
theorem b9n (l s:Str):H0 l s=l++a92 s:=by unfold H0 a92;rw [D7]
theorem b8T {s' r r':Str} (h:a92 s++r=a92 s'++r'):s=s'/\r=r':=by
 unfold a92 at h;rw [D7,D7] at h;obtain ⟨h1,h2⟩:=d0Z _ _ _ _ h;exact List.append_inj h2 h1
theorem c4c (s:Str):a92 s≠[]:=fun h=>d3e _ (List.append_eq_nil_iff.1 h).1
theorem b1K (ms:SM) (fl:List Fi):∀ (N:List Str) (l:Str),a9M ms fl l N=l++N.flatMap fun s=>a92 s++a92 (P7 ms fl s)
 | [],l=>by simp [a9M]
 | s::N,l=>by
  have:a9M ms fl l (s::N)=a9M ms fl (H0 (H0 l s) (P7 ms fl s)) N:=rfl;rw [this,b1K ms fl N,b9n,b9n,a9R];simp
theorem b7O {g g':Str->Str}:∀ {l m:List Str},(l.flatMap fun s=>a92 s++a92 (g s))=(m.flatMap fun s=>a92 s++a92 (g' s))->l=m/\∀ s∈l,g s=g' s
 | [],[],_=>⟨rfl,fun s hs=>by simp at hs⟩
 | [],f::m,h=>by
  rw [a9R,D7] at h;exact absurd (List.append_eq_nil_iff.1 h.symm).1 (c4c _)
 | f::l,[],h=>by
  rw [a9R,D7] at h;exact absurd (List.append_eq_nil_iff.1 h).1 (c4c _)
 | x::l,y::m,h=>by
  rw [a9R,a9R,D7,D7] at h;obtain ⟨h1,h2⟩:=b8T h;obtain ⟨h3,h4⟩:=b8T h2;obtain ⟨h5,h6⟩:=b7O h4;subst h1 h5;exact ⟨rfl,fun s hs=>by
   rcases J5.1 hs with rfl | hs
   ·exact h3
   ·exact h6 s hs⟩
theorem b6q (P:Str->Prop):∀ l:List Str,∃ N:List Str,N.Nodup/\∀ n,n∈N↔n∈l/\P n
 | []=>⟨[],si_,fun n=>by simp⟩
 | x::l=>by
  obtain ⟨N,h1,h2⟩:=b6q P l;by_cases hx:P x/\x∉N
  ·refine ⟨x::N,List.nodup_cons.2 ⟨hx.2,h1⟩,fun n=>?_⟩;simp only [J5,h2];constructor
   ·rintro (rfl | ⟨a,b⟩)
    ·exact ⟨.inl rfl,hx.1⟩
    ·exact ⟨.inr a,b⟩
   ·rintro ⟨rfl | a,b⟩
    ·exact .inl rfl
    ·exact .inr ⟨a,b⟩
  ·refine ⟨N,h1,fun n=>?_⟩;rw [h2,J5];constructor
   ·rintro ⟨a,b⟩;exact ⟨.inr a,b⟩
   ·rintro ⟨rfl | a,b⟩
    ·exact (h2 n).1 (Classical.byContradiction fun h=>hx ⟨b,h⟩)
    ·exact ⟨a,b⟩
theorem c0t (ms:SM) (fl:List Fi) (pkg n:Str):n∈a36 ms fl pkg↔Reach ms fl pkg n:=by
 obtain ⟨N,h1,h2⟩:=b6q (Reach ms fl pkg) (pkg::allI ms fl);have h3:∀ n,n∈N↔Reach ms fl pkg n:=fun n=>(h2 n).trans ⟨fun h=>h.2,fun h=>⟨b8p h,h⟩⟩;rw [a5L h1 h3,<- h3];exact (b12 N _).mem_iff
theorem c6l {ms ms':SM} (h:a6m ms fl p=a6m ms' fs p):a36 ms fl p=a36 ms' fs p/\∀ s∈a36 ms fl p,P7 ms fl s=P7 ms' fs s:=by
 unfold a6m at h;rw [b1K,b1K,a2e,a2e] at h;exact b7O (List.append_cancel_left h)
theorem c70:∀ {l:List Fi} {pv:Option Fi},(∀ f∈l,H3 f.p=true/\f.b.length<=16384)->c5L l->(∀ g,pv=some g->∀ f∈l,Op.bytesLess g.p f.p=true)->rvE pv l=0
 | [],_,_,_,_=>rfl
 | f::l,pv,h,hs,hp=>by
  obtain ⟨h1,h2⟩:=a4x.1 hs;have hf:=h f si_;have e0:J0 pv f=0:=by
   unfold J0;rw [n_0 (by rw [hf.1];simp)];cases pv with
   | none =>
    rw [n_0 si_,n_0 si_,n_0 om_]
   | some g =>
    have hg:=hp g rfl f si_;have az:¬ f.p=g.p:=fun e=>by rw [e,b5e] at hg;cases hg
    have gH:¬ Op.bytesLess f.p g.p=true:=fun e=>by
     have:=a7a hg e;rw [b5e] at this;cases this
    rw [n_0 (sp_ az),n_0 (sp_ gH),n_0 om_]
  rw [rvE,n_1 e0];exact c70 (fun g hg=>h g (by simp [hg])) h2 fun g hg=>by injection hg with hg;subst hg;exact h1
theorem c9L:∀ s∈a3H,H3 s=true/\s.length<=1000:=by decide
theorem N0.valid (h:N0 B fl) (hB:B<=16384):B4 fl=0:=by
 have hl:=h.len;unfold B4;rw [n_0 om_];exact c70 (fun f hf=>⟨(c9L _ (h.pth f hf)).1,b6u (h.byt f hf) hB⟩) h.srt fun g hg=>by cases hg
theorem c0e (h:B4 fl=0) (he:X9 ev=true) (hk:O2 k=true):b5q fl ev k=some (R1 fl (A2 fl).2.1 (A2 fl).2.2 ev k):=by
 unfold b5q J7;rw [n_1 ⟨h,he,by simp [hk]⟩];rfl
theorem b8b (h:R1 fl (A2 fl).2.1 (A2 fl).2.2 ev ⟨7,p,[]⟩=R1 fs (A2 fs).2.1 (A2 fs).2.2 ev ⟨7,p,[]⟩):R1 fl (A2 fl).2.1 (A2 fl).2.2 ev ⟨6,p,[]⟩=R1 fs (A2 fs).2.1 (A2 fs).2.2 ev ⟨6,p,[]⟩ :=
 (c6l h).2 p ((c0t _ _ _ _).2 .base)
theorem e0C:∀ m:Nat,m < 3->([122]++a5f m++[46,115,114,99]:Str)∈a3H:=fun m hm=>by
 have h3:m=0\/m=1\/m=2:=by omega
 rcases h3 with rfl | rfl | rfl<;>rw [a7B om_]<;>decide
theorem c90 (l:List Int) (nn:Bool) (k:Nat) (aS:k<=500000000) (hl:l.length<=maxLen) (B:Nat) (hB:6300<=B/\B<=1000000) (fl:List Fi) (hm:N0 B fl):b8 CC 28 [.ptr 0 0,(.agg (r8 fl (gnn fl.length)))] [r5 l nn k] fun r τ=>∃ a:List Fi × Nat,E8 1 τ r (.ret (.agg (r8 a.1 (gnn a.1.length)))) [r5 l nn a.2]/\(N0 (B+1240) a.1/\k<=a.2/\a.2<=k+1080):=by
 refine cO Tryz.func28 ?_;refine d1h ?_;refine qD (p8 rfl c6b rfl j6 ?_);refine qY (c5 rfl Tryz.call66 trivial (a72 _) rfl) ?_;refine qD (c4 rfl a3l j1 (H7 l nn (k) _ 0 rfl om_ hl I9 de_ de_) rfl ?_);intro sp af;have hspa:=c2d _ af;have gP:=hm.len;refine N8 hCC (α:=Nat) (fun _=>[(0,.ptr 0 0),(3,.ptr 1 0),(4,.ptr 2 0),(5,(sv sp))]) (fun p=>[r5 l nn (p),.box (r8 fl (gnn fl.length)),.box (r8 [] false)]) (fun p=>p=k+2) z6 uz_ ?_ ?_
 ·
  refine qk (qD (c4 rfl a61 o6 (J6 l nn (k+1) _ 0 rfl om_ hl 9 om_) rfl ?_));intro _ _;refine qC ?_ ?_<;>intro h1
  ·refine cF [] [0,1,2,4] (tl:=[(3,[0,3]),(5,[0]),(6,[0]),(7,[]),(8,[])]) ?_;refine b7S ?_;refine chf rfl (c8 rfl e0X) ?_;refine b4r ?_;refine B1 rfl rfl rfl (c4 rfl a3l j1 (H7 l nn (k+2) _ 0 rfl om_ hl a1B de_ de_) rfl ?_);intro v hv;refine ⟨⟨a08,F1,tt⟩,?_⟩;refine B1 rfl rfl rfl (c4 rfl Tryz.call70 ⟨tt,tt⟩ (c3n l nn (k+3) om_ hl _ 0 rfl) rfl ?_);intro ⟨s,p4⟩ ⟨hs,bV,cJ⟩;dsimp only at hs bV cJ ⊢;refine ⟨⟨a08,tt⟩,?_⟩;refine F2 rfl rfl d4s ⟨⟨a08,tt⟩,?_⟩;refine F2 rfl rfl (c8 rfl (c5 rfl c1l j1 (a0T fl _ ⟨v,s⟩ om_ _) rfl)) ⟨tt,?_⟩;refine b3V ?_;exact ⟨_,C6 rfl a3c,⟨(a6f fl ⟨v,s⟩,p4),a2h rfl T3 (.old (S3 _ _).old),(hm.mono om_).ins (c10 _ hv) do_,do_,do_⟩⟩
  ·refine qC ?_ ?_<;>intro h2
   ·refine cF [] [0,1,2] (tl:=[(3,[0]),(4,[]),(5,[])]) ?_;refine b7S ?_;refine chf rfl (c8 rfl (A8 (([[97,46,100,97,116],[100,47,98,46,100,97,116],[99],[97,46,115,114,99],[98,46,115,114,99]]:List Str).map scv) rfl ⟨rfl,rfl,rfl,rfl,rfl,tt⟩ t_2 t_0 t_3 rfl rfl rfl rfl rfl rfl rfl rfl rfl)) ?_;refine D9 ?_;refine B1 rfl rfl rfl (c4 rfl a3l j1 (H7 l nn (k+2) _ 0 rfl om_ hl ([[97,46,100,97,116],[100,47,98,46,100,97,116],[99],[97,46,115,114,99],[98,46,115,114,99]]:List Str) de_ de_) rfl ?_);intro v hv;refine ⟨⟨a08,tt⟩,?_⟩;refine F2 rfl rfl (c8 rfl (c5 rfl Tryz.call71 j1 (b3b fl _ v om_ _) rfl)) ⟨tt,?_⟩;refine b3V ?_;exact ⟨_,C6 rfl a3c,⟨(a5C fl v,k+3),a2h rfl T3 (.old (S3 _ _).old),(hm.mono om_).rem v,do_,do_⟩⟩
   ·refine qC ?_ ?_<;>intro h3
    ·refine d8M ?_;refine a6Y ?_;refine chf rfl V4 ?_;refine chf rfl c7p ?_;refine d6W ?_;intro v hv;have dj:v.length<=8:=H6 (.inl hv);refine d6x ?_;intro ⟨s,p4⟩ ⟨hs,bV,cJ⟩;dsimp only at hs bV cJ ⊢;refine d3h ?_;refine d6L ?_;exact d5v
    ·refine qC ?_ ?_<;>intro h4
     ·refine qY a0I ?_;refine j7 hCC (fun i:Nat=>[(0,.ptr 0 0),(3,.ptr 1 0),(4,.ptr 2 0),(5,(sv sp)),(50,(.list (fl.map Fi.cv) (gnn fl.length) none)),(51,iv fl.length),(52,iv i)]) (fun _=>[r5 l nn (k+2),.box (r8 fl (gnn fl.length)),.box (r8 [] false)]) (fun i=>i<=fl.length) (fun i=>fl.length - i) 0 (n_4 _) tu_ (ah:=[]) rfl z6 uz_ ?_;intro i hi;refine qk (qC ?_ ?_)<;> intro h5
      ·have ab:i < fl.length:=sm_ h5;obtain ⟨y,hb,eN⟩:=a5e ab;have hyb:=hm.byt y eN;refine b4w ?_;refine qC ?_ ?_<;>intro h6
       ·have cN:(a5C fl sp).length<=fl.length:=List.length_filter_le _ _;have hb3:=a15 (l:=l) (k:=k+2) (n:=3) om_;obtain ⟨m,bz⟩:∃ m:Nat,K2 l (k+2) 3=(m:Int):=⟨(K2 l (k+2) 3).toNat,om_⟩;have gf:m < 3:=by omega
        have hzp:=e0C m gf;have eI:=a17 0 m om_;refine cF [] [0,1,2,3,8,9] (tl:=[(4,[4,5]),(5,[4,5]),(6,[4,5]),(7,[4,5]),(10,[]),(11,[]),(12,[])]) ?_;refine b7S ?_;refine chf rfl (c8 rfl (c5 rfl Tryz.call71 j1 (b3b fl _ sp om_ _) rfl)) ?_;refine chf rfl V4 ?_;refine b3x ?_;refine D9 ?_;refine B1 rfl rfl rfl (c4 rfl a61 o6 (J6 l nn (k+2) _ 0 rfl om_ hl 3 om_) rfl ?_);intro _ _;rw [bz];refine ⟨⟨a6q,a5d,tt⟩,?_⟩;refine F2 rfl rfl (c8 rfl c1Y) ⟨⟨a6q,a5d,tt⟩,?_⟩;refine F2 rfl rfl (c8 rfl a5a) ⟨⟨a6q,a5d,tt⟩,?_⟩;refine F2 rfl rfl c2I ⟨⟨a6q,a5d,tt⟩,?_⟩;refine F2 rfl rfl d4s ⟨tt,?_⟩;refine F2 rfl rfl (c8 rfl (c5 rfl c1l j1 (a0T (a5C fl sp) _ ⟨[122]++a5f m++[46,115,114,99],y.b⟩ om_ _) rfl)) ⟨tt,?_⟩;refine b3V ?_;exact ⟨_,C6 rfl a3c,⟨(a6f (a5C fl sp) ⟨[122]++a5f m++[46,115,114,99],y.b⟩,k+3),a2h rfl T3 (.old (S3 _ _).old),((hm.mono om_).rem sp).ins hzp do_,do_,do_⟩⟩
       ·exact b4K
      ·exact c39
     ·refine qC ?_ ?_<;>intro h7
      ·refine qY a0I ?_;refine j7 hCC (fun i:Nat=>[(0,.ptr 0 0),(3,.ptr 1 0),(4,.ptr 2 0),(5,(sv sp)),(76,(.list (fl.map Fi.cv) (gnn fl.length) none)),(77,iv fl.length),(78,iv i)]) (fun _=>[r5 l nn (k+2),.box (r8 fl (gnn fl.length)),.box (r8 [] false)]) (fun i=>i<=fl.length) (fun i=>fl.length - i) 0 (n_4 _) tu_ (ah:=[]) rfl z6 uz_ ?_;intro i hi;refine qk (qC ?_ ?_)<;> intro h8
       ·have ab:i < fl.length:=sm_ h8;obtain ⟨y,hb,eN⟩:=a5e ab;have hyb:=hm.byt y eN;refine b4w ?_;refine qC ?_ ?_<;>intro h9
        ·have hb3:=a15 (l:=l) (k:=k+2) (n:=100) om_;obtain ⟨m,bz⟩:∃ m:Nat,K2 l (k+2) 100=(m:Int):=⟨(K2 l (k+2) 100).toNat,om_⟩;have gf:m < 100:=by omega
         have eI:=a17 1 m om_;refine cF [] [0,1,2,7,8] (tl:=[(3,[0,1,3,4]),(4,[0,1,3,4]),(5,[0,1,3,4]),(6,[0,1,3,4]),(9,[0,1]),(10,[0]),(11,[]),(12,[])]) ?_;refine chf rfl a4W ?_;refine a6Y ?_;refine b3x ?_;refine D9 ?_;refine B1 rfl rfl rfl (c4 rfl a61 o6 (J6 l nn (k+2) _ 0 rfl om_ hl 100 om_) rfl ?_);intro _ _;rw [bz];refine ⟨⟨a08,F1,a6q,a5d,tt⟩,?_⟩;refine F2 rfl rfl (c8 rfl c1Y) ⟨⟨a08,F1,a6q,a5d,tt⟩,?_⟩;refine F2 rfl rfl (c8 rfl a5a) ⟨⟨a08,F1,a6q,a5d,tt⟩,?_⟩;refine F2 rfl rfl c2I ⟨⟨a08,F1,a6q,a5d,tt⟩,?_⟩;refine d5L ?_;refine F2 rfl rfl (c8 rfl (c5 rfl c1l j1 (a0T fl _ ⟨sp,[35,32]++a5f m++[10,32,32]++y.b⟩ om_ _) rfl)) ⟨tt,?_⟩;refine b3V ?_;exact ⟨_,C6 rfl a3c,⟨(a6f fl ⟨sp,[35,32]++a5f m++[10,32,32]++y.b⟩,k+3),a2h rfl T3 (.old (S3 _ _).old),(hm.mono om_).ins (hspa) b6s,do_,do_⟩⟩
        ·exact b4K
       ·exact c39
      ·refine qC ?_ ?_<;>intro aY
       ·refine qY a0I ?_;refine j7 hCC (fun i:Nat=>[(0,.ptr 0 0),(3,.ptr 1 0),(4,.ptr 2 0),(5,(sv sp)),(102,(.list (fl.map Fi.cv) (gnn fl.length) none)),(103,iv fl.length),(104,iv i)]) (fun _=>[r5 l nn (k+2),.box (r8 fl (gnn fl.length)),.box (r8 [] false)]) (fun i=>i<=fl.length) (fun i=>fl.length - i) 0 (n_4 _) tu_ (ah:=[]) rfl z6 uz_ ?_;intro i hi;refine qk (qC ?_ ?_)<;> intro cw
        ·have ab:i < fl.length:=sm_ cw;obtain ⟨y,hb,eN⟩:=a5e ab;have hyb:=hm.byt y eN;refine b4w ?_;refine qC ?_ ?_<;>intro da
         ·refine qY X4 ?_;refine qY (B3 #[(0,1),(1,1)] rfl j1 b6Z a6h rfl ⟨_,rfl⟩ (fun w=>by kernel_rfl) rfl rfl) ?_;refine qY (c5 rfl c1l j1 (a0T fl _ ⟨sp,y.b++[102,117,110,99]⟩ om_ _) rfl) ?_;refine c69 ?_;exact ⟨_,C6 rfl a3c,⟨(a6f fl ⟨sp,y.b++[102,117,110,99]⟩,k+2),a2h rfl T3 (.old (S3 _ _).old),(hm.mono om_).ins (hspa) b6s,do_,do_⟩⟩
         ·exact b4K
        ·exact c39
       ·exact ⟨(k+2),_,rfl,tu_,rfl⟩
 ·intro p hp;subst hp;refine N8 hCC (α:=Nat) (fun _=>[(0,.ptr 0 0),(3,.ptr 1 0),(4,.ptr 2 0),(5,(sv sp))]) (fun p=>[r5 l nn (p),.box (r8 fl (gnn fl.length)),.box (r8 [] false)]) (fun p=>p=k+2) z6 uz_ ?_ ?_
  ·
   refine qk (qY a0I ?_);refine j7 hCC (fun i:Nat=>[(0,.ptr 0 0),(3,.ptr 1 0),(4,.ptr 2 0),(5,(sv sp)),(121,(.list (fl.map Fi.cv) (gnn fl.length) none)),(122,iv fl.length),(123,iv i)]) (fun _=>[r5 l nn (k+2),.box (r8 fl (gnn fl.length)),.box (r8 [] false)]) (fun i=>i<=fl.length) (fun i=>fl.length - i) 0 (n_4 _) tu_ (ah:=[]) rfl z6 uz_ ?_;intro i hi;refine qk (qC ?_ ?_)<;> intro dr
   ·have ab:i < fl.length:=sm_ dr;obtain ⟨y,hb,eN⟩:=a5e ab;have hyb:=hm.byt y eN;refine b4w ?_;refine qC ?_ ?_<;>intro gE
    ·refine cF [] [0,1,2,3,4] (tl:=[(5,[0,1,2,3]),(6,[0,1]),(7,[0]),(8,[]),(9,[])]) ?_;refine b7S ?_;refine b3x ?_;refine b4r ?_;refine B1 rfl rfl rfl (c4 rfl Tryz.call73 ⟨tt,tt⟩ (c3S l nn (k+2) om_ hl _ 0 rfl) rfl ?_);intro ⟨s,p4⟩ ⟨hs,bV,cJ⟩;dsimp only at hs bV cJ ⊢;refine ⟨⟨a08,F1,a6q,a5d,tt⟩,?_⟩;refine d5L ?_;refine F2 rfl rfl (c8 rfl (c5 rfl c1l j1 (a0T fl _ ⟨sp,y.b++s⟩ om_ _) rfl)) ⟨tt,?_⟩;refine b3V ?_;exact ⟨_,C6 rfl a3c,⟨(a6f fl ⟨sp,y.b++s⟩,p4),a2h rfl T3 (.old (S3 _ _).old),(hm.mono om_).ins (hspa) (by show List.length _<=_;simp only [n_6];omega),do_,do_⟩⟩
    ·exact b4K
   ·exact c39
  ·intro p hp;subst hp;refine qk ?_;refine d8M ?_;refine a6Y ?_;refine chf rfl V4 ?_;refine chf rfl c7p ?_;refine d6W ?_;intro v hv;have dj:v.length<=8:=H6 (.inl hv);refine d6x ?_;intro ⟨s,p4⟩ ⟨hs,bV,cJ⟩;dsimp only at hs bV cJ ⊢;refine d3h ?_;refine d6L ?_;exact d5v
theorem d4K (l:List Int) (nn:Bool) (k:Nat) (aS:k<=500000000) (hl:l.length<=maxLen) (B:Nat) (hB:6300<=B/\B<=1000000) (fl:List Fi) (hm:N0 B fl) (σ:List b9) (q:Nat) (hq:σ[q]? = some (r5 l nn k)):b8 CC 28 [.ptr q 0,(.agg (r8 fl (gnn fl.length)))] σ fun r τ=>∃ a:List Fi × Nat,r = .ret (.agg (r8 a.1 (gnn a.1.length)))/\τ=σ.set q (r5 l nn a.2)/\(N0 (B+1240) a.1/\k<=a.2/\a.2<=k+1080) :=
 a7F (c:=fun a:List Fi × Nat=>(.agg (r8 a.1 (gnn a.1.length)))) (S:=fun a=>r5 l nn a.2) hCC (fun a h=>by simp at h;subst h;exact S3 _ _) (fun _=>S3 _ _) (fun _=>F0 _ _ _) (F0 _ _ _) rfl (c90 l nn k aS hl B hB fl hm) σ q hq
def V1:List Str:=[[109],[110]]
structure a3m (ev:List Va):Prop where
 sub:(ev.map Va.n).Sublist V1
 rng:∀ v∈ev,-9007199254740992<=v.v/\v.v<=9007199254740992
theorem a3m.len (h:a3m ev):ev.length<=2:=by
 have:=h.sub.length_le;rw [O3] at this;exact this
theorem a3m.nlen (h:a3m ev):∀ v∈ev,v.n.length<=1000000000:=fun v hv=>by
 have h1:=h.sub.subset (List.mem_map_of_mem hv);have h2:∀ x∈V1,x.length<=1000000000:=by decide
 exact h2 _ h1
theorem e04 {l:List Str} (h:l.Sublist V1):l=[]\/l=[[109]]\/l=[[110]]\/l=[[109],[110]]:=by
 rw [V1] at h
 rcases List.sublist_cons_iff.1 h with h | ⟨r,h1,h⟩<;>rcases List.sublist_cons_iff.1 h with h | ⟨r',h2,h⟩<;>simp at h<;>subst h<;>simp_all
theorem a3m.valid (h:a3m ev):X9 ev=true:=by
 have hl:=h.len;have hr:=h.rng;have d1:C3 [109]=true:=rfl;have d2:C3 [110]=true:=rfl
 rcases e04 h.sub with h1 | h1 | h1 | h1
 ·have:ev=[]:=sp_ h1;subst this;rfl
 ·rcases ev with _ | ⟨x,_ | ⟨y,t⟩⟩<;>simp at h1
  have r1:=hr x si_;simp [X9,evB,Z6,h1,d1,r1.1,r1.2]
 ·rcases ev with _ | ⟨x,_ | ⟨y,t⟩⟩<;>simp at h1
  have r1:=hr x si_;simp [X9,evB,Z6,h1,d2,r1.1,r1.2]
 ·rcases ev with _ | ⟨x,_ | ⟨y,_ | ⟨z,t⟩⟩⟩<;>simp at h1
  have r1:=hr x si_;have r2:=hr y si_;have d3:Op.bytesLess [110] [109]=false:=rfl;simp [X9,evB,Z6,h1.1,h1.2,d1,d2,d3,r1.1,r1.2,r2.1,r2.2]
theorem c6F (ev:List Va) (nn:Bool):r4 (.agg (G6 ev nn)):=r6 (cs:=G6 _ _) ⟨a1d _ _,tt⟩
theorem d3H {L:Nat} {ak:List Nat} {l:List Va} {nn:Bool} {tok:Option Nat}:C7 L ak (.agg [.list (l.map Va.cv) nn tok]) (.agg (G6 l nn)) :=
 .agg rfl fun i c c' h h'=>by
  rcases i with _ | i
  ·injection h with h;injection h' with h';subst h h';exact K4 (f:=Va.cv) Va.pure _
  ·cases h
theorem a9W (l:List Int) (nn:Bool) (k:Nat) (aS:k<=500000000) (hl:l.length<=maxLen):b8 CC 33 [.ptr 0 0] [r5 l nn k] fun r τ=>∃ a:List Va × Nat,E8 1 τ r (.ret (.agg (G6 a.1 (gnn a.1.length)))) [r5 l nn a.2]/\(a3m a.1/\k<=a.2/\a.2<=k+4):=by
 refine qO Tryz.func33 ?_;refine d6F ?_;refine qY (A8 (V1.map scv) rfl ⟨rfl,rfl,tt⟩ t_2 t_0 t_3 rfl rfl rfl rfl rfl rfl rfl rfl rfl) ?_;refine qY J3 ?_;refine A6 hCC 3 rfl (α:=List Va × Nat × Nat) (fun x=>[(0,.ptr 0 0),(2,.ptr 1 0),(3,.ptr 2 0),(6,(.list (V1.map scv) true none)),(7,iv V1.length),(8,iv x.2.2)]) (fun x=>[r5 l nn x.2.1,.box (G6 [] false),.box [(.list (x.1.map Va.cv) (gnn x.1.length) (C2 x.1.length 3))],o8 x.1.length]) (fun x=>x.2.2<=V1.length/\x.1.length<=x.2.2/\(x.1.map Va.n).Sublist (V1.take x.2.2)/\(∀ v∈x.1,-9007199254740992<=v.v/\v.v<=9007199254740992)/\k<=x.2.1/\x.2.1<=k+x.2.2*2) (fun x=>V1.length - x.2.2) ⟨([],k,0),[0,1,2,9],⟨n_4 _,n_4 _,.slnil,(fun v hv=>by cases hv),n_7 _,n_7 _⟩,⟨rfl,rfl⟩,ut_,⟨.inr ⟨_,rfl,.same rfl T3⟩,.inr ⟨_,rfl,.same rfl (u0 ⟨V0 _ ([]:List Va) _,tt⟩)⟩,.inr ⟨_,rfl,.box ⟨.same rfl (V0 _ ([]:List Va) _),tt⟩⟩,.inl rfl,tt⟩⟩ ?_;intro ⟨ev,p,i⟩ ⟨hi,eH,hs,hr,fh,cu⟩;dsimp only at hi eH hs hr fh cu ⊢;have hL:V1.length=2:=rfl;refine qk (qC ?_ ?_)<;> intro h1
 ·have ab:i < V1.length:=sm_ h1;obtain ⟨y,hb,eN⟩:=a5e ab;have fU:V1.take (i+1)=V1.take i++[y]:=by rw [a2m,hb];rfl
  refine qY a6o ?_;refine qD (c4 rfl b2y a4p (M9 l nn p _ 0 rfl om_ hl 2 3 om_) rfl ?_);intro _ _;refine qC ?_ ?_<;>intro h2
  ·refine cF [] [0,1,2,3,4] (tl:=[(5,[0,1,2]),(6,[0,1]),(7,[0,1]),(8,[]),(9,[]),(10,[])]) ?_;refine chf rfl (c8 rfl (j5 rfl tt rfl b8Q rfl b8q de_)) ?_;refine chf rfl (c8 rfl (o5 rfl tt rfl c9w rfl rfl)) ?_;refine a6Y ?_;refine chf rfl (c8 rfl (A8 ([0,1,-1,5,9007199254740992,-9007199254740992].map icv) rfl ⟨rfl,rfl,rfl,rfl,rfl,rfl,tt⟩ t_4 t_1 t_8 rfl rfl rfl rfl rfl rfl rfl rfl rfl)) ?_;refine D9 ?_;refine B1 rfl rfl rfl (c4 rfl c3L j1 (a5Y l nn (p+1) _ 0 rfl om_ hl [0,1,-1,5,9007199254740992,-9007199254740992] si_ si_) rfl ?_);intro v hv;have hvr : -9007199254740992<=v/\v<=9007199254740992:=by
    simp only [J5,a7v,or_false] at hv;omega
   refine ⟨⟨c9P,c6H,F1,tt⟩,?_⟩;refine F2 rfl rfl (c8 rfl (B3 #[(0,1),(1,1)] rfl j1 b6b c1Q rfl ⟨_,rfl⟩ (fun w=>by kernel_rfl) rfl rfl)) ⟨⟨c9P,c6H,tt⟩,?_⟩;refine F2 rfl rfl (c8 rfl (A8 [Va.cv (⟨y,v⟩:Va)] rfl ⟨tt,tt⟩ c4C c55 c1Q rfl rfl rfl rfl rfl rfl rfl rfl rfl)) ⟨⟨c9P,c6H,tt⟩,?_⟩;refine B1 rfl rfl rfl (A7 rfl tt tt rfl si_ q_2 c4C c55 Tryz.typeInfo129 c1Q rfl (.inr rfl) q_7 (by have hb:Tryz.t129.bytes=24:=rfl;rw [hb];first|omega|(simp;done)|(simp;omega)) C1 ((ev++[(⟨y,v⟩:Va)]).map Va.cv) (ev++[(⟨y,v⟩:Va)]).length si_ si_ ?_);refine ⟨tt,?_⟩;refine F2 rfl rfl (c8 rfl (j5 rfl tt rfl b8Q rfl b8q de_)) ⟨tt,?_⟩;refine B1 rfl rfl rfl (j2 rfl tt tt rfl j3 b8q (.inl rfl) rfl rfl (nb rfl) ?_);refine a8A ?_;refine qY l9 ?_;exact ⟨(ev++[(⟨y,v⟩:Va)],p+2,i+1),[0,1,2,4],⟨do_,do_,by simp only [n_6,C5,I8];omega,by dsimp only;rw [fU,a6H];exact hs.append (.refl _),(fun x hx=>by
    rcases L8.1 hx with hx | hx
    ·exact hr x hx
    ·rw [a9H.1 hx];exact hvr),do_,do_⟩,⟨rfl,rfl⟩,ut_,⟨.inr ⟨_,rfl,.same rfl T3⟩,.inr ⟨_,rfl,.same rfl (u0 ⟨V0 _ ([]:List Va) _,tt⟩)⟩,.inr ⟨_,rfl,.box ⟨C7.grow (f:=Va.cv) (fun a=>⟨.val _,.val _,tt⟩) rfl,tt⟩⟩,.inr ⟨_,rfl,.same rfl B8⟩,tt⟩⟩
  ·refine qY l9 ?_;exact ⟨(ev,p+1,i+1),[0,1,2,3],⟨do_,do_,do_,by dsimp only;rw [fU];exact hs.trans (List.sublist_append_left _ _),hr,do_,do_⟩,⟨rfl,rfl⟩,ut_,⟨.inr ⟨_,rfl,.same rfl T3⟩,.inr ⟨_,rfl,.same rfl (u0 ⟨V0 _ ([]:List Va) _,tt⟩)⟩,.inr ⟨_,rfl,.box ⟨C7.grow (f:=Va.cv) (fun a=>⟨.val _,.val _,tt⟩) rfl,tt⟩⟩,.inr ⟨_,rfl,.same rfl B8⟩,tt⟩⟩
 ·have eO:i=2:=sm_ h1;subst eO;refine j4 ?_;refine qD (j2 rfl tt tt rfl j3 b5f j6 rfl rfl (nb rfl) ?_);refine c6 ?_;exact ⟨_,C6 rfl ⟨tt,_,_,_,rfl,rfl,.inr ⟨_,c5Q,b5f,nb rfl,rfl⟩⟩,⟨(ev,p),a2h rfl T3 d3H,⟨hs,hr⟩,do_,do_⟩⟩
theorem a4J (l:List Int) (nn:Bool) (k:Nat) (aS:k<=500000000) (hl:l.length<=maxLen) (σ:List b9) (q:Nat) (hq:σ[q]? = some (r5 l nn k)):b8 CC 33 [.ptr q 0] σ fun r τ=>∃ a:List Va × Nat,r = .ret (.agg (G6 a.1 (gnn a.1.length)))/\τ=σ.set q (r5 l nn a.2)/\(a3m a.1/\k<=a.2/\a.2<=k+4) :=
 a7F (c:=fun a:List Va × Nat=>(.agg (G6 a.1 (gnn a.1.length)))) (S:=fun a=>r5 l nn a.2) hCC (fun a h=>by simp at h) (fun _=>c6F _ _) (fun _=>F0 _ _ _) (F0 _ _ _) rfl (a9W l nn k aS hl) σ q hq
theorem a3m.vr (h:a3m ev):∀ v∈ev,-9223372036854775808<=v.v/\v.v<=9223372036854775807:=fun v hv=>by have:=h.rng v hv;omega
def c01 (q:Nm) (x:Src):List De:=x.decls.filter fun d=>decide (deK x d=q)
theorem a5N (k:Int) (o pa pk:Str):∀ (l:List De) (j:Nat) (e:En),(fiD k o pa pk l j e).k=e.k/\(fiD k o pa pk l j e).o=e.o/\((fiD k o pa pk l j e).p=e.p\/(fiD k o pa pk l j e).p=pk)/\(fiD k o pa pk l j e).ct=e.ct+((l.filter fun d=>d.k == k && decide (d.name=o)).length:Int)
 | [],_,e=>⟨rfl,rfl,.inl rfl,by simp [fiD]⟩
 | d::l,j,e=>by
  unfold fiD;rw [a7V]
  split
  ·split
   ·obtain ⟨h1,h2,h3,h4⟩:=a5N k o pa pk l (j+1) ⟨pk,e.o,e.k,pa,j,e.ct+1⟩;exact ⟨h1,h2,.inr (h3.elim id id),by rw [h4,C5];simp only;omega⟩
   ·obtain ⟨h1,h2,h3,h4⟩:=a5N k o pa pk l (j+1) ⟨e.p,e.o,e.k,e.pl,e.ix,e.ct+1⟩;exact ⟨h1,h2,h3,by rw [h4,C5];simp only;omega⟩
  ·exact a5N k o pa pk l (j+1) e
theorem c1h {k:Int} (h:k≠3->x.pkg=p):(x.decls.filter fun d=>d.k == k && decide (d.name=o))=c01 (F3 k p o) x:=by
 unfold c01;refine List.filter_congr fun d _=>?_;rw [Bool.eq_iff_iff];simp only [U6,beq_iff_eq,a1v,deK,F3,Nm.mk.injEq];constructor
 ·rintro ⟨rfl,rfl⟩;refine ⟨rfl,?_,rfl⟩
  split
  ·rfl
  ·rename_i h3;exact h h3
 ·rintro ⟨h1,_,h3⟩;exact ⟨h1,h3⟩
theorem d0z {k:Int} (h:k≠3) (hp:x.pkg≠p):c01 (F3 k p o) x=[]:=by
 unfold c01;rw [c4g];intro d _ he;simp only [a1v,deK,F3,Nm.mk.injEq] at he;obtain ⟨h1,h2,_⟩:=he;rw [h1,n_0 h,n_0 h] at h2;exact hp h2
theorem a8E (k:Int) (p o:Str):∀ (L:List (Str × Src)) (e:En),(k≠3->e.p=p)->(fiL k p o L e).k=e.k/\(fiL k p o L e).o=e.o/\(k≠3->(fiL k p o L e).p=p)/\(fiL k p o L e).ct=e.ct+((L.flatMap fun x=>c01 (F3 k p o) x.2).length:Int)
 | [],e,h=>⟨rfl,rfl,h,by simp [fiL]⟩
 | x::L,e,h=>by
  unfold fiL;rw [a9R,n_6]
  split
  ·rename_i hc;simp only [U6,bne_iff_ne,b7W,b2R,ne_eq] at hc;obtain ⟨h1,h2,h3,h4⟩:=a8E k p o L e h;exact ⟨h1,h2,h3,by rw [h4,d0z hc.1 hc.2];simp⟩
  ·rename_i hc;have hp:k≠3->x.2.pkg=p:=fun h3=>by
    simp only [U6,bne_iff_ne,b7W,b2R,ne_eq,not_and,Decidable.not_not] at hc;exact hc h3
   obtain ⟨g1,g2,g3,g4⟩:=a5N k o x.1 x.2.pkg x.2.decls 0 e;obtain ⟨h1,h2,h3,h4⟩:=a8E k p o L (fiD k o x.1 x.2.pkg x.2.decls 0 e) fun h3=>g3.elim (fun e1=>e1.trans (h h3)) fun e1=>e1.trans (hp h3);exact ⟨h1.trans g1,h2.trans g2,h3,by rw [h4,g4,c1h hp];omega⟩
theorem b9R (q:Nm):∀ fl:List Fi,(occ q fl).length=((D3 fl).flatMap fun x=>c01 q x.2).length
 | []=>rfl
 | f::fl=>by
  have ih:=b9R q fl;have e1:occ q (f::fl)=c1k q f++occ q fl:=by simp [occ]
  rw [e1,n_6,ih];unfold c1k D3;rw [List.filterMap_cons,show a93 f.p f.b=a0x f from rfl];cases a0x f with
  | none=>simp
  | some x=>simp [c01]
theorem a7L {x:Str × Src} (h:x∈D3 fl):∃ f∈fl,a0x f=some x.2:=by
 obtain ⟨f,hf,he⟩:=c2u.1 h;rw [N6] at he;obtain ⟨s,hs,rfl⟩:=he;exact ⟨f,hf,hs⟩
theorem b2a {f:Fi} (h:a0x f=some x):a2b x:=by
 unfold a0x at h;split at h
 ·exact a8Y h
 ·cases h
theorem c2K:(D3 fl).length<=fl.length/\∀ x∈D3 fl,x.2.decls.length<=100000:=by
 refine ⟨List.length_filterMap_le _ _,fun x hx=>?_⟩;obtain ⟨f,_,hs⟩:=a7L hx;have:=(b2a hs).decl;omega
def PlE (L:List (Str × Src)) (q:Nm) (e:En):Prop:=0<=e.ct/\(e.ct≠0->∃ x∈L,∃ (i:Nat) (d:De),x.2.decls[i]? = some d/\e.pl=x.1/\e.ix=(i:Int)/\deK x.2 d=q)
theorem c9X {L:List (Str × Src)} {x:Str × Src} (hx:x∈L) (k:Int) (p o:Str) (hp:k≠3->x.2.pkg=p):∀ (l:List De) (j:Nat) (e:En),x.2.decls.drop j=l->PlE L (F3 k p o) e->PlE L (F3 k p o) (fiD k o x.1 x.2.pkg l j e)
 | [],j,e,_,h=>h
 | d::l,j,e,hl,h=>by
  have hj:x.2.decls[j]? = some d:=by
   have:=n_8 (fun m:List De=>m[0]?) hl;simpa using this
  rw [fiD];refine c9X hx k p o hp l (j+1) _ (by rw [<- List.tail_drop,hl];rfl) ?_;have h0:=h.1
  split
  ·rename_i hh;have hq:deK x.2 d=F3 k p o:=by
    simp only [U6,beq_iff_eq,a1v] at hh;unfold deK F3;rw [hh.1,hh.2];by_cases h3:k=3
    ·rw [n_1 h3,n_1 h3]
    ·rw [n_0 h3,n_0 h3,hp h3]
   split
   ·exact ⟨do_,fun _=>⟨x,hx,j,d,hj,rfl,rfl,hq⟩⟩
   ·rename_i h1;have h2:e.ct≠0:=fun h2=>h1 (by rw [h2];rfl);exact ⟨do_,fun _=>h.2 h2⟩
  ·exact h
theorem c7d {L:List (Str × Src)} (k:Int) (p o:Str):∀ (M:List (Str × Src)) (e:En),(∀ x∈M,x∈L)->PlE L (F3 k p o) e->PlE L (F3 k p o) (fiL k p o M e)
 | [],e,_,h=>h
 | x::M,e,hM,h=>by
  rw [fiL];refine c7d k p o M _ (fun y hy=>hM y (by simp [hy])) ?_
  split
  ·exact h
  ·rename_i hc;refine c9X (hM x si_) k p o (fun h3=>?_) _ 0 e rfl h;simp only [U6,bne_iff_ne,b7W,b2R,ne_eq,not_and,Decidable.not_not] at hc;exact hc h3
theorem c74 (L:List (Str × Src)) (k:Int) (p o:Str):PlE L (F3 k p o) (fiE L k p o):=c7d k p o L _ (fun _ h=>h) ⟨b2X _,fun h=>absurd rfl h⟩
theorem b1U (h:fl.Pairwise fun a b=>a.p < b.p):(D3 fl).Pairwise fun x y=>x.1≠y.1:=by
 unfold D3;refine List.Pairwise.filterMap _ (fun a b cX x hx y hy e=>?_) h;rw [N6] at hx hy;obtain ⟨_,_,rfl⟩:=hx;obtain ⟨_,_,rfl⟩:=hy;replace e:a.p=b.p:=e;rw [e] at cX;exact List.lt_irrefl _ cX
theorem b3l {L:List (Str × Src)} (h:L.Pairwise fun x y=>x.1≠y.1) {x:Str × Src} (hx:x∈L):L.find? (fun y=>decide (y.1=x.1))=some x:=by
 induction L with
 | nil=>cases hx
 | cons z l ih =>
  rw [a4x] at h;rw [b8v]
  rcases J5.1 hx with rfl | hx
  ·simp
  ·rw [show decide (z.1=x.1)=false from a2f (h.1 x hx)];exact ih h.2 hx
theorem c30 (h:B4 fl=0):fl.Pairwise fun a b=>a.p < b.p:=by
 unfold B4 at h;split at h
 ·cases h
 ·exact (b5m h).2
theorem d7q (h:B4 fl=0) (k:Int) (p o:Str):c7Y (D3 fl) k p o:=fun h0 _=>by
 obtain ⟨x,hx,i,d,hd,aX,hix,_⟩:=(c74 (D3 fl) k p o).2 h0;obtain ⟨f,_,hs⟩:=a7L hx;refine ⟨x.2,d,i,?_,b2a hs,hd⟩;unfold a7t;rw [aX,b3l (b1U (c30 h)) hx,hix]
theorem d1P {L:List (Str × Src)} (h:∀ x∈L,x.2.imports.length<=8):(b0v L).length<=8*L.length:=by
 unfold b0v
 induction L with
 | nil=>exact n_7 _
 | cons x l ih =>
  have h1:=h x si_;have h2:=ih fun y hy=>h y (by simp [hy]);rw [a9R,n_6,C5];omega
theorem d4X (h:B4 fl=0):d3d fl (D3 fl):=by
 obtain ⟨h1,h2⟩:=a1a h;have hs:∀ x∈D3 fl,a2b x.2:=fun x hx=>by
  obtain ⟨f,_,hs⟩:=a7L hx;exact b2a hs
 have hl:=(c2K (fl:=fl)).1;refine ⟨om_,om_,?_,fun x hx=>?_,fun q b hb=>?_,(c2K (fl:=fl)).2,fun x hx s hsm=>?_,fun k p o=>d7q h k p o⟩
 ·have:=d1P (L:=D3 fl) fun x hx=>(hs x hx).impl;omega
 ·obtain ⟨f,hf,he⟩:=c2u.1 hx;rw [N6] at he;obtain ⟨_,_,rfl⟩:=he;have:=L1 (h2 f hf).1;show f.p.length<=1000;omega
 ·obtain ⟨f,hf,rfl⟩:=b4d hb;have:=(h2 f hf).2;omega
 ·have:=B7 ((hs x hx).imp s hsm).1;omega
theorem c3U:∀ {l:List Va} {pv:Option Va},evB pv l=true->∀ v∈l,-9007199254740992<=v.v/\v.v<=9007199254740992
 | [],_,_,_,h=>by cases h
 | x::l,pv,h,v,hv=>by
  rw [evB,U6] at h
  rcases J5.1 hv with rfl | hv
  ·have h1:=h.1;unfold Z6 at h1;simp only [U6,a1v] at h1;exact h1.1.2
  ·exact c3U h.2 v hv
theorem d4L (h:X9 ev=true) {z:Int} (hz:a0k ev s=some z) : -9007199254740992<=z/\z<=9007199254740992:=by
 unfold a0k at hz;rw [N6] at hz;obtain ⟨x,hx,rfl⟩:=hz;exact c3U (a9F.1 h).2 x (b8M hx)
theorem d4u (h:O2 k=true):k.a.length<=1000:=by
 unfold O2 at h;split at h
 ·have:=B7 (a9F.1 h).1;omega
 ·split at h
  ·have:=L1 (a9F.1 h).1;omega
  ·split at h
   ·have:=B7 (a9F.1 h).1;omega
   ·cases h
theorem b4h (h:fl.Pairwise fun a b=>a.p < b.p):∀ f∈fl,C0 fl f.p=some f.b:=by
 induction fl with
 | nil=>intro f hf;cases hf
 | cons x l ih =>
  intro f hf;rw [a4x] at h;unfold C0;rw [b8v]
  rcases J5.1 hf with rfl | hf
  ·simp
  ·have az:x.p≠f.p:=fun e=>by
    have:=h.1 f hf;rw [e] at this;exact List.lt_irrefl _ this
   rw [show decide (x.p=f.p)=false from a2f az];exact ih h.2 f hf
noncomputable def cR1 (fl:List Fi) (ev:List Va) (k:Ky):Option Str:=if B4 fl=0/\X9 ev=true/\O2 k=true then some (inR fl (D3 fl) ev k) else none
theorem d8n (nn:Bool) (h:B4 fl=0) (σ:List b9):b8 CC 55 [.agg (r8 fl nn)] σ fun r τ=>r = .ret (.agg (a0S ((D3 fl).map Prod.fst) ((D3 fl).map Prod.snd)))/\τ=σ:=by
 have hl:=d4X h;refine c4Q rfl nn h hl.hl (fun f hf=>?_) (fun q b hb=>by have:=hl.hbl q b hb;omega) (fun _=>b4h (c30 h)) σ;have:=L1 ((a1a h).2 f hf).1;omega
theorem b51 (fl:List Fi) (nn:Bool) (ev:List Va) (en:Bool) (k:Ky):b8 CC 15 [.agg (r8 fl nn),.agg (G6 ev en),.agg k.cells] [] fun r τ=>∃ _:Unit,a1q 0 τ r (.ret (c1j (cR1 fl ev k)))/\True:=by
 refine qO Tryz.func15 ?_;refine a9J ?_;refine qD (G8 rfl tt j3 j6 ?_);refine qY (c5 rfl c73 ⟨tt,tt⟩ (a6T fl nn _) rfl) ?_;refine qG (fun hg=>M3 rfl tt rfl c5Q b5f rfl (nb rfl)) ?_;refine qG (fun hg=>c5 rfl Tryz.call53 ⟨hg,tt⟩ (a3N ev en _) rfl) ?_;refine b73 ?_;refine qG d1U ?_;refine qG (fun hg=>c5 rfl Tryz.call36 ⟨hg,tt⟩ (a9f k _) rfl) ?_;refine b73 ?_;refine qC ?_ ?_<;>intro h1
 ·have hv:¬ (B4 fl=0/\X9 ev=true/\O2 k=true):=by
   rintro ⟨u1,u2,u3⟩;simp [u1,u2,u3] at h1
  refine c6 ?_;exact ⟨_,r9 (rs:=[.tmp 6,.tmp 7]) (cs:=[_,_]) rfl R4 (n_5 rfl),(by rw [cR1,n_0 hv];exact ⟨(),.ret (.tups ⟨.old (.val _),.old (.val _),tt⟩),tt⟩)⟩
 ·have hv:(B4 fl=0/\X9 ev=true)/\O2 k=true:=sp_ h1;obtain ⟨⟨v1,v2⟩,v3⟩:=hv;refine cW 8 ?_;refine hY U7 ?_;refine hY U7 ?_;refine hY (c5 rfl Tryz.call55 ⟨tt,tt⟩ (d8n nn v1 _) rfl) ?_;refine hY a0d ?_;refine hY (M3 rfl tt rfl b1F t_5 rfl (nb rfl)) ?_;refine hY (c5 rfl Tryz.call54 a2r (c6Z fl nn (D3 fl) ev en k (d4X v1) (by have:=b3c v2;omega) (fun z hz=>d4L v2 hz) (d4u v3) _) rfl) ?_;refine hY a1b ?_;refine hY a2D ?_;refine X2 ?_;refine c6 ?_;exact ⟨_,r9 (rs:=[.tmp 6,.tmp 7]) (cs:=[_,_]) rfl R4 (n_5 rfl),(by rw [cR1,n_1 ⟨v1,v2,v3⟩];exact ⟨(),.ret (.tups ⟨.old (.val _),.old (.val _),tt⟩),tt⟩)⟩
theorem b8z (fl:List Fi) (nn:Bool) (ev:List Va) (en:Bool) (k:Ky) (σ:List b9):b8 CC 15 [.agg (r8 fl nn),.agg (G6 ev en),.agg k.cells] σ fun r τ=>r = .ret (c1j (cR1 fl ev k))/\τ=σ :=
 (H5 (res:=fun _:Unit=>.ret (c1j (cR1 fl ev k))) (P:=fun _=>True) hCC (fun a h=>by simp at h;rcases h with rfl | rfl | rfl;exact r6 (cs:=r8 _ _) ⟨J2 _ _,tt⟩;exact r6 (cs:=G6 _ _) ⟨a1d _ _,tt⟩;exact r6 ⟨.val _,.val _,.val _,tt⟩) (b51 fl nn ev en k) (fun _ _=>D4 (cs:=[_,_]) ⟨.val _,.val _,tt⟩) σ).mono fun r τ ⟨_,h1,h2,_⟩=>⟨h1,h2⟩
theorem d8b (k:Int) (p o:Str):(fiE (D3 fl) k p o).ct=((occ (F3 k p o) fl).length:Int):=by
 have h:=(a8E k p o (D3 fl) ⟨if k=3 then [] else p,o,k,[],0,0⟩ (fun h3=>n_0 h3)).2.2.2;rw [b9R];show (fiL k p o (D3 fl) _).ct=_;rw [h];simp
theorem d8c {q:Nm} {x:Str × Src} {d:De} (hx:x∈D3 fl) (hd:x.2.decls[i]? = some d) (hq:deK x.2 d=q):(x.2,d)∈occ q fl:=by
 obtain ⟨f,hf,hs⟩:=a7L hx;refine b1L.2 ⟨f,hf,?_⟩;unfold c1k;rw [hs];exact F4.2 ⟨d,b2N.2 ⟨n_2 hd,a2a hq⟩,rfl⟩
theorem c8M (h:B4 fl=0) (k:Int) (p o:Str):b1Q (D3 fl) k p o=e0b (occ (F3 k p o) fl):=by
 have gi:=d8b (fl:=fl) k p o;have aX:=(c74 (D3 fl) k p o).2;unfold b1Q;cases ho:occ (F3 k p o) fl with
 | nil =>
  rw [ho] at gi;rw [n_1 (by rw [gi];rfl)];rfl
 | cons y t =>
  rw [ho] at gi;rw [C5] at gi;rw [n_0 om_];cases t with
  | cons z t =>
   rw [C5] at gi;rw [n_1 om_];obtain ⟨a,b⟩:=y;rfl
  | nil =>
   rw [I8] at gi;rw [n_0 om_];obtain ⟨x,hx,i,d,hd,h1,h2,hq⟩:=aX om_;have hm:=d8c hx hd hq;rw [ho,a9H] at hm;subst hm;have hD:a7t (D3 fl) (fiE (D3 fl) k p o)=(x.2,(i:Int)):=by
    unfold a7t;rw [h1,b3l (b1U (c30 h)) hx,h2]
   rw [hD];dsimp only;rw [a2c,hd];rfl
theorem b9V {fl:List Fi} (h:B4 fl=0) (pkg:Str):∀ (M:List Fi) (o:Str),(∀ f∈M,f∈fl)->a3I fl pkg (D3 M) o=b2i o (M.filter fun f=>decide ((a0x f).map Src.pkg=some pkg))
 | [],_,_=>rfl
 | f::M,o,hM=>by
  have hd:=b4h (c30 h) f (hM f si_);have ih:=fun o=>b9V h pkg M o fun g hg=>hM g (by simp [hg]);rw [a7V];have e:D3 (f::M)=(match a0x f with | none=>[] | some s=>[(f.p,s)])++D3 M:=by
   unfold D3;rw [List.filterMap_cons,show a93 f.p f.b=a0x f from rfl];cases a0x f<;>rfl
  rw [e];cases hs:a0x f with
  | none =>
   rw [n_0 si_];exact ih o
  | some s =>
   show a3I fl pkg (D3 M) (if s.pkg=pkg then H0 (H0 o f.p) ((if B4 fl=0 then C0 fl f.p else none).getD []) else o)=_;rw [ih];by_cases hp:s.pkg=pkg
   ·rw [n_1 hp,n_1 h,hd,n_1 (by simp [hp])];rfl
   ·rw [n_0 hp,n_0 (by simp [hp])]
theorem c2B (h:B4 fl=0) (pkg o:Str):a3I fl pkg (D3 fl) o=b2i o (B5 (A2 fl).2.1 fl pkg):=by
 rw [a6J h];exact b9V h pkg fl o fun _ hf=>hf
theorem b7K {x:Str × Src}:x∈D3 fl↔∃ f∈fl,a0x f=some x.2/\x.1=f.p:=by
 unfold D3;rw [c2u];constructor
 ·rintro ⟨f,hf,he⟩;rw [N6] at he;obtain ⟨s,hs,rfl⟩:=he;exact ⟨f,hf,hs,rfl⟩
 ·rintro ⟨f,hf,hs,hp⟩;refine ⟨f,hf,?_⟩;rw [show a93 f.p f.b=a0x f from rfl,hs];obtain ⟨a,b⟩:=x;cases hp;rfl
theorem c2e {fl:List Fi} (h:B4 fl=0) (pkg n:Str):a6G (D3 fl) pkg n↔Reach (A2 fl).2.1 fl pkg n:=by
 constructor
 ·intro hr
  induction hr with
  | base=>exact .base
  | step _ hx hp hs ih =>
   obtain ⟨f,hf,h1,_⟩:=b7K.1 hx;refine .step ih (f:=f) ?_ ?_
   ·rw [a6J h];refine b2N.2 ⟨hf,a2a ?_⟩;rw [h1,b6A,hp]
   ·unfold a1h;rw [(b0k h).src f hf,h1];exact hs
 ·intro hr
  induction hr with
  | base=>exact .base
  | @step m f s _ hf hs ih =>
   rw [a6J h] at hf;obtain ⟨hf,h1⟩:=b2N.1 hf;have h1:=a8y h1;rw [N6] at h1;obtain ⟨x,h2,h3⟩:=h1;unfold a1h at hs;rw [(b0k h).src f hf,h2] at hs;exact .step ih (x:=(f.p,x)) (b7K.2 ⟨f,hf,h2,rfl⟩) h3 hs
theorem c63 (h:B4 fl=0) (pkg:Str):a0b (D3 fl) pkg=a36 (A2 fl).2.1 fl pkg:=by
 by_cases dD:∃ N:List Str,N.Nodup/\∀ n,n∈N↔a6G (D3 fl) pkg n
 ·obtain ⟨N,h1,h2⟩:=dD;rw [b9G h1 h2,a5L h1 fun n=>(h2 n).trans (c2e h pkg n)]
 ·unfold a0b a36;rw [dif_neg dD,dif_neg fun ⟨N,h1,h2⟩=>dD ⟨N,h1,fun n=>(h2 n).trans (c2e h pkg n).symm⟩]
theorem c13 {fl:List Fi} (h:B4 fl=0):∀ (N:List Str) (o:Str),c1v fl (D3 fl) N o=a9M (A2 fl).2.1 fl o N
 | [],_=>rfl
 | q::N,o=>by
  show c1v fl (D3 fl) N (H0 (H0 o q) ([61]++a3I fl q (D3 fl) []))=a9M (A2 fl).2.1 fl (H0 (H0 o q) (P7 (A2 fl).2.1 fl q)) N;rw [c13 h N,c2B h];rfl
theorem d8k (h:B4 fl=0) (ev:List Va) (k:Ky):inR fl (D3 fl) ev k=R1 fl (A2 fl).2.1 (A2 fl).2.2 ev k:=by
 unfold inR R1;simp only [c8M h,c4x h,n_1 h,c2B h,c13 h,c63 h];rfl
theorem d7Y (fl:List Fi) (ev:List Va) (k:Ky):cR1 fl ev k=b5q fl ev k:=by
 unfold cR1 b5q J7;by_cases h:B4 fl=0/\X9 ev=true/\O2 k=true
 ·rw [n_1 h,n_1 ⟨h.1,h.2.1,by simp [h.2.2]⟩,d8k h.1];rfl
 ·rw [n_0 h,n_0 fun g=>h ⟨g.1,g.2.1,sp_ g.2.2⟩];rfl
theorem b6p (a:En):O4 a.cells:=⟨.val _,.val _,.val _,.val _,.val _,.val _,tt⟩
theorem a4B (a:Ky):O4 (Ky.cv a):=⟨.val _,.val _,.val _,tt⟩
theorem b8g (l:List En) (nn:Bool):r4 (.list (l.map En.cells) nn none):=O6 (f:=En.cells) b6p l nn
theorem d2K {R:Nat->Nat->Prop} {V:List (List CV)} {m s s':Nat} (hp:∀ r∈V,∀ c∈r,r4 c) (h:R s s'):Q1 R (.list V (gnn m) (C2 m s)) (.list V (gnn m) (C2 m s')):=by
 refine .list rfl (fun i r r' h1 h2=>by rw [h1] at h2;injection h2 with h2;rw [h2]) (fun i j r r' c c' h1 h2 h3 h4=>?_) ?_
 ·rw [h1] at h2;injection h2 with h2;subst h2;rw [h3] at h4;injection h4 with h4;subst h4
  exact .pure (hp r (n_2 h1) c (n_2 h3))
 ·cases m with
  | zero=>exact .inl ⟨rfl,rfl⟩
  | succ m=>exact .inr ⟨s,s',rfl,rfl,h⟩
theorem a1x {f:FuncId} {args:List CV} {g:β->List CV} {L:α->List β} {P:α->Prop} (ao:∀ a∈args,r4 a) (hp:∀ b,O4 (g b)) (h:b8 CC f args [] fun r τ=>∃ a,E8 0 τ r (.ret (.list ((L a).map g) (gnn (L a).length) (C2 (L a).length 0))) [o8 (L a).length]/\P a) (σ:List b9) :
 b8 CC f args σ fun r τ=>∃ a,r = .ret (.list ((L a).map g) (gnn (L a).length) (C2 (L a).length σ.length))/\τ=σ++[o8 (L a).length]/\P a :=
 a1L (res:=fun a=>.ret (.list ((L a).map g) (gnn (L a).length) (C2 (L a).length 0))) (res':=fun a n=>.ret (.list ((L a).map g) (gnn (L a).length) (C2 (L a).length n))) (S:=fun a=>[o8 (L a).length]) (S':=fun a _=>[o8 (L a).length]) hCC ao (I5 hCC (h.mono fun r τ ⟨a,h1,h2⟩=>⟨_,_,h1,a,rfl,rfl,h2⟩)) (fun _ _=>rfl) (fun a n i x hx=>by
  rcases i with _ | i
  ·injection hx with hx;subst hx;exact ⟨_,rfl,a0p _⟩
  ·cases hx) (fun a n=>.ret (d2K (fun r hr c hc=>(C4 (f:=g) (fun b=>O4.all (hp b)) _) r hr c hc) si_)) σ
theorem d4m (fl:List Fi) (nn va:Bool) (br:List Str) (ms:SM) (me:EM) (bU:me.length<=1000000):b8 CC 130 [.ptr 0 0] (wst fl nn va br ms me) fun r τ=>∃ l:List En,E8 4 τ r (.ret (.list (l.map En.cells) (gnn l.length) none)) [wbx fl nn va br 1 2 3,smO ms,.dead,o8 br.length]/\l.Perm (me.map Prod.snd):=by
 refine qO Tryz.func130 ?_;refine qD (b0m rfl tt rfl b7u rfl ?_);refine A6 hCC 5 rfl (α:=List (Nm × En) × List (Nm × En) × List En) (fun x=>[(3,(.list (x.2.2.map En.cells) (gnn x.2.2.length) (C2 x.2.2.length 5))),(10,.ptr 4 0)]) (fun x=>[wbx fl nn va br 1 2 3,smO ms,.dead,o8 br.length,.iter (gm Nm.kc vcE x.1) (gm Nm.kc vcE x.2.1),o8 x.2.2.length]) (fun x=>(x.2.2++x.2.1.map Prod.snd).Perm (me.map Prod.snd)) (fun x=>x.2.1.length) ⟨([],me,[]),[0,1,2,3,4,9],(List.Perm.refl _),⟨rfl,rfl⟩,ut_,uq_⟩ ?_;intro ⟨aD,left,aw⟩ hp;dsimp only at hp ⊢;have aX:=hp.length_eq;rw [n_6,O3,O3] at aX;refine qk (qD (b5C rfl tt rfl rfl (fun hz=>?_) (fun i x hx=>?_)))
 ·
  have dv:left=[]:=by
   cases left with
   | nil=>rfl
   | cons y l=>cases hz
  subst dv;refine qC ?_ ?_<;>intro h1
  ·cases h1
  ·rw [List.map_nil,a1k] at hp;refine z_9 ?_;exact ⟨_,rE1,⟨aw,⟨[0,1,2,3],rfl,rfl,.ret (K4 (f:=En.cells) b6p _),.inr ⟨_,rfl,.same rfl (b0f de_ de_ de_)⟩,.inr ⟨_,rfl,.same rfl (Y9 _ _)⟩,.inl rfl,.inr ⟨_,rfl,.same rfl B8⟩,tt⟩,hp⟩⟩
 ·
  obtain ⟨⟨q,e⟩,hy,rfl⟩:=b5X hx;rw [a79];have ab:=(n_3.1 hy).1;refine qC ?_ ?_<;>intro h2
  ·refine qY (b0o rfl tt rfl rfl) ?_;refine d4z ?_;refine qY (A8 [En.cells e] rfl ⟨tt,tt⟩ c3V b5O a9Y rfl rfl rfl rfl rfl rfl rfl rfl rfl) ?_;refine qD (A7 rfl tt tt rfl si_ q_2 c3V b5O Tryz.typeInfo59 a9Y rfl (.inr rfl) q_7 (by have hb:Tryz.t59.bytes=72:=rfl;rw [hb];first|omega|(simp;done)|(simp;omega)) C1 ((aw++[e]).map En.cells) (aw++[e]).length si_ si_ ?_);exact ⟨([(q,e)],left.eraseIdx i,aw++[e]),[0,1,2,3,4,7],⟨by dsimp only;rw [c11 ab];omega,(b78 hy).trans hp⟩,⟨rfl,rfl⟩,ut_,uq_⟩
  ·cases h2
theorem b8S {nn va:Bool} {br:List Str} {ms:SM} {me:EM} {σ:List b9} {w q1 q2 t:Nat} (am:WAt σ w q1 q2 t fl nn va br ms me) (bU:me.length<=1000000):b8 CC 130 [.ptr w 0] σ fun r τ=>∃ l:List En,r = .ret (.list (l.map En.cells) (gnn l.length) none)/\τ=a9G σ [w,q1,q2,t] [wbx fl nn va br q1 q2 t,smO ms,.dead,o8 br.length]/\l.Perm (me.map Prod.snd) :=
 a74 (α:=List En) (obs:=wst fl nn va br ms me) (res:=fun l=>.ret (.list (l.map En.cells) (gnn l.length) none)) (res':=fun l=>.ret (.list (l.map En.cells) (gnn l.length) none)) (S:=fun _=>[wbx fl nn va br 1 2 3,smO ms,.dead,o8 br.length]) (S':=fun _=>[wbx fl nn va br q1 q2 t,smO ms,.dead,o8 br.length]) (P:=fun l=>l.Perm (me.map Prod.snd)) [w,q1,q2,t] hCC rfl am.nd (fun i k ob h1 h2=>by
  obtain ⟨aG,_,h3,h4⟩:=c8r am i k ob h1 h2;exact ⟨aG,h3,h4.symm fun _ _ h=>h⟩) (.cons (.ptr rfl) .nil) (I5 hCC ((d4m fl nn va br ms me bU).mono fun r τ ⟨l,h,hp⟩=>⟨_,_,h,l,rfl,rfl,hp⟩)) a0B (fun _ i k y h1 h2=>by
  rcases i with _ | _ | _ | _ | i
  ·injection h2 with h2;subst h2;exact ⟨_,rfl,b0a rfl rfl rfl⟩
  ·injection h2 with h2;subst h2;exact ⟨_,rfl,a6W a52 a3s _⟩
  ·injection h2 with h2;subst h2;exact ⟨_,rfl,.dead⟩
  ·injection h2 with h2;subst h2;exact ⟨_,rfl,a0p _⟩
  ·cases h2) fun l=>.ret (.pure (b8g l _))
def W7 (f:Fi):Ky:=⟨4,f.p,[]⟩
def a4K (e:En):Ky:=if e.k=1 then ⟨1,e.p,e.o⟩ else if e.k=2 then ⟨2,e.p,e.o⟩ else ⟨3,e.o,[]⟩
def a4u (s:Str):List Ky:=[⟨6,s,[]⟩,⟨7,s,[]⟩]
def b7C (x:Src):List Ky:=(x.pkg::x.imports).flatMap a4u
def KU (fl:List Fi):List Ky:=fl.map W7++((A2 fl).2.2.map Prod.snd).map a4K++((A2 fl).2.1.map Prod.snd).flatMap b7C
theorem d8U {es:List En} {ss:List Src} (he:es.Perm ((A2 fl).2.2.map Prod.snd)) (hs:ss.Perm ((A2 fl).2.1.map Prod.snd)) (k:Ky):k∈fl.map W7++es.map a4K++ss.flatMap b7C↔k∈KU fl:=by
 unfold KU;rw [L8,L8,L8,L8,(he.map a4K).mem_iff,(hs.flatMap_right b7C).mem_iff]
theorem d2p {l:List Str} (h:l[j]? = some s):(l.take (j+1)).flatMap a4u=(l.take j).flatMap a4u++a4u s:=by
 rw [a2m,h,List.flatMap_append];simp
theorem a4D {l:List α} {s:α} (h:l[j]? = some s) (g:α->β):(l.take (j+1)).map g=(l.take j).map g++[g s]:=by
 rw [a2m,h,a6H];rfl
theorem d1D (fl:List Fi) (nn:Bool) (cK:∀ f∈fl,f.p.length<=1000000000) (hl:fl.length<=64) (hes:(A2 fl).2.2.length<=10000) (hss:(A2 fl).2.1.length<=64) (him:∀ x∈(A2 fl).2.1,x.2.imports.length<=8):b8 CC 78 [.agg (r8 fl nn)] [] fun r τ=>∃ l:List Ky,E8 0 τ r (.ret (.list (l.map Ky.cv) (gnn l.length) (C2 l.length 0))) [o8 l.length]/\((∀ k,k∈l↔k∈KU fl)/\l.length<=20000):=by
 refine qO Tryz.func78 ?_;refine qD (G8 rfl tt j3 j6 ?_);refine qD (c4 rfl Tryz.call56 ⟨tt,tt⟩ (c64 fl nn cK _) rfl ?_);intro _ _;refine qN [.box (r8 fl nn),wbx fl nn (B4 fl == 0) (A2 fl).1 2 3 4,smO (A2 fl).2.1,emO (A2 fl).2.2,o8 (A2 fl).1.length] rfl (qY a0I ?_);refine A6 hCC 5 rfl (α:=Nat × List Ky) (fun a=>[(3,.ptr 1 0),(4,(.list (a.2.map Ky.cv) (gnn a.2.length) (C2 a.2.length 5))),(19,(.list (fl.map Fi.cv) nn none)),(20,iv fl.length),(21,iv a.1)]) (fun a=>[.box (r8 fl nn),wbx fl nn (B4 fl == 0) (A2 fl).1 2 3 4,smO (A2 fl).2.1,emO (A2 fl).2.2,o8 (A2 fl).1.length,o8 a.2.length]) (fun a=>a.1<=fl.length/\a.2=(fl.take a.1).map W7) (fun a=>fl.length - a.1) ⟨(0,[]),[0,1,2,3,4,9],⟨n_4 _,rfl⟩,⟨rfl,rfl⟩,ut_,uq_⟩ ?_;intro ⟨i,aw⟩ ⟨hi,ho⟩;dsimp only at hi ho ⊢;have fJ:aw.length<=i:=by rw [ho,O3,a5u];omega
 refine qk (qC ?_ ?_)<;> intro h1
 ·have ab:i < fl.length:=sm_ h1;obtain ⟨y,hb⟩:∃ y,fl[i]? = some y:=⟨fl[i]'ab,si_⟩;refine b8L ?_;refine qY d0E ?_;refine qY (A8 [Ky.cv (W7 y)] rfl ⟨tt,tt⟩ t_6 t_5 Z1 rfl rfl rfl rfl rfl rfl rfl rfl rfl) ?_;refine qD (A7 rfl tt tt rfl si_ q_2 t_6 t_5 a5t Z1 rfl (.inr rfl) q_7 a6c C1 ((aw++[W7 y]).map Ky.cv) (aw++[W7 y]).length si_ si_ ?_);refine qY l9 ?_;exact ⟨(i+1,aw++[W7 y]),[0,1,2,3,4,7],⟨do_,do_,by dsimp only;rw [ho,a4D hb]⟩,⟨rfl,rfl⟩,ut_,uq_⟩
 ·have eO:i=fl.length:=sm_ h1;rw [eO,U5 (n_7 _)] at ho;subst ho;have eI:(fl.map W7).length=fl.length:=O3 _;refine j4 ?_;refine qD (c4 rfl Tryz.call130 ⟨tt,tt⟩ (b8S (w:=1) (q1:=2) (q2:=3) (t:=4) ⟨rfl,rfl,rfl,rfl,b2c ⟨de_,de_,de_,de_,de_,de_⟩⟩ om_) rfl ?_);intro es hp;have eH:=hp.length_eq;rw [O3] at eH;refine qN [.box (r8 fl nn),wbx fl nn (B4 fl == 0) (A2 fl).1 2 3 4,smO (A2 fl).2.1,.dead,o8 (A2 fl).1.length,o8 (fl.map W7).length] rfl (qY (a0f rfl tt rfl c3V a7N rfl) ?_);refine a5V hCC 6 rfl 5 4 (.list ((fl.map W7).map Ky.cv) (gnn (fl.map W7).length) (C2 (fl.map W7).length 6)) rfl tt a5H (α:=Nat × List Ky) (fun a=>[(3,.ptr 1 0),(4,(.list (a.2.map Ky.cv) (gnn a.2.length) (C2 a.2.length 6))),(33,(.list (es.map En.cells) (gnn es.length) none)),(34,iv es.length),(35,iv a.1)]) (fun a=>[.box (r8 fl nn),wbx fl nn (B4 fl == 0) (A2 fl).1 2 3 4,smO (A2 fl).2.1,.dead,o8 (A2 fl).1.length,.dead,o8 a.2.length]) (fun a=>a.1<=es.length/\a.2=fl.map W7++(es.take a.1).map a4K) (fun a=>es.length - a.1) ⟨(0,fl.map W7),[0,1,2,3,4,5,6],⟨n_4 _,si_⟩,⟨rfl,rfl⟩,ut_,uq_⟩ ?_;intro ⟨i,aw⟩ ⟨hi,ho⟩;dsimp only at hi ho ⊢;have fJ:aw.length<=64+i:=by rw [ho,n_6,O3,O3,a5u];omega
  refine qk (qC ?_ ?_)<;> intro h2
  ·have ab:i < es.length:=sm_ h2;obtain ⟨y,hb⟩:∃ y,es[i]? = some y:=⟨es[i]'ab,si_⟩;refine qY (p9 rfl tt tt rfl rfl c3V b5O om_ (i8 hb) rfl) ?_;refine d4z ?_;refine qC ?_ ?_<;>intro h3
   ·have bw:y.k=1:=sp_ h3;have hek:a4K y=⟨1,y.p,y.o⟩:=n_1 bw;refine qY e0o ?_;refine qY (A8 [Ky.cv (⟨1,y.p,y.o⟩:Ky)] rfl ⟨tt,tt⟩ t_6 t_5 Z1 rfl rfl rfl rfl rfl rfl rfl rfl rfl) ?_;refine qD (A7 rfl tt tt rfl si_ q_2 t_6 t_5 a5t Z1 rfl (.inr rfl) q_7 a6c C1 ((aw++[(⟨1,y.p,y.o⟩:Ky)]).map Ky.cv) (aw++[((⟨1,y.p,y.o⟩:Ky):Ky)]).length si_ si_ ?_);refine qY l9 ?_;exact ⟨(i+1,aw++[(⟨1,y.p,y.o⟩:Ky)]),[0,1,2,3,4,5,8],⟨do_,do_,by dsimp only;rw [ho,a4D hb,hek,D7]⟩,⟨rfl,rfl⟩,ut_,uq_⟩
   ·have bw:¬ y.k=1:=sp_ h3;refine qC ?_ ?_<;>intro h4
    ·have bS:y.k=2:=sp_ h4;have hek:a4K y=⟨2,y.p,y.o⟩:=(n_0 bw).trans (n_1 bS);refine qY e0o ?_;refine qY (A8 [Ky.cv (⟨2,y.p,y.o⟩:Ky)] rfl ⟨tt,tt⟩ t_6 t_5 Z1 rfl rfl rfl rfl rfl rfl rfl rfl rfl) ?_;refine qD (A7 rfl tt tt rfl si_ q_2 t_6 t_5 a5t Z1 rfl (.inr rfl) q_7 a6c C1 ((aw++[(⟨2,y.p,y.o⟩:Ky)]).map Ky.cv) (aw++[((⟨2,y.p,y.o⟩:Ky):Ky)]).length si_ si_ ?_);refine qY l9 ?_;exact ⟨(i+1,aw++[(⟨2,y.p,y.o⟩:Ky)]),[0,1,2,3,4,5,8],⟨do_,do_,by dsimp only;rw [ho,a4D hb,hek,D7]⟩,⟨rfl,rfl⟩,ut_,uq_⟩
    ·have bS:¬ y.k=2:=sp_ h4;have hek:a4K y=⟨3,y.o,[]⟩:=(n_0 bw).trans (n_0 bS);refine qY d0E ?_;refine qY (A8 [Ky.cv (⟨3,y.o,[]⟩:Ky)] rfl ⟨tt,tt⟩ t_6 t_5 Z1 rfl rfl rfl rfl rfl rfl rfl rfl rfl) ?_;refine qD (A7 rfl tt tt rfl si_ q_2 t_6 t_5 a5t Z1 rfl (.inr rfl) q_7 a6c C1 ((aw++[(⟨3,y.o,[]⟩:Ky)]).map Ky.cv) (aw++[((⟨3,y.o,[]⟩:Ky):Ky)]).length si_ si_ ?_);refine qY l9 ?_;exact ⟨(i+1,aw++[(⟨3,y.o,[]⟩:Ky)]),[0,1,2,3,4,5,8],⟨do_,do_,by dsimp only;rw [ho,a4D hb,hek,D7]⟩,⟨rfl,rfl⟩,ut_,uq_⟩
  ·have eO:i=es.length:=sm_ h2;rw [eO,U5 (n_7 _)] at ho;subst ho;have fQ:(fl.map W7++es.map a4K).length<=10064:=by rw [n_6,O3,O3];omega
   refine j4 ?_;refine qD (b0m rfl tt rfl b7k rfl ?_);refine a5V hCC 8 rfl 6 4 (.list ((fl.map W7++es.map a4K).map Ky.cv) (gnn (fl.map W7++es.map a4K).length) (C2 (fl.map W7++es.map a4K).length 8)) rfl tt a5H (α:=List (Str × Src) × List (Str × Src) × List Src × List Ky) (fun a=>[(4,(.list (a.2.2.2.map Ky.cv) (gnn a.2.2.2.length) (C2 a.2.2.2.length 8))),(72,.ptr 7 0)]) (fun a=>[.box (r8 fl nn),wbx fl nn (B4 fl == 0) (A2 fl).1 2 3 4,.dead,.dead,o8 (A2 fl).1.length,.dead,.dead,.iter (gm sv vcS a.1) (gm sv vcS a.2.1),o8 a.2.2.2.length]) (fun a=>(a.2.2.1++a.2.1.map Prod.snd).Perm ((A2 fl).2.1.map Prod.snd)/\a.2.2.2=(fl.map W7++es.map a4K)++a.2.2.1.flatMap b7C/\a.2.2.2.length<=10064+18*a.2.2.1.length) (fun a=>a.2.1.length) ⟨([],(A2 fl).2.1,[],(fl.map W7++es.map a4K)),[0,1,2,3,4,5,6,7,8],⟨List.Perm.refl _,si_,sp_ fQ⟩,⟨rfl,rfl⟩,ut_,uq_⟩ ?_;intro ⟨aD,left,done,aw⟩ ⟨hq,ho,fJ⟩;dsimp only at hq ho fJ ⊢;have hql:=hq.length_eq;rw [n_6,O3,O3] at hql;refine qk (qD (b5C rfl tt rfl rfl (fun hz=>?_) (fun i x hx=>?_)))
   ·
    have dv:left=[]:=by
     cases left with
     | nil=>rfl
     | cons y l=>cases hz
    subst dv;refine qC ?_ ?_<;>intro h5
    ·cases h5
    ·rw [List.map_nil,a1k] at hq;refine z_9 ?_;exact ⟨_,rE1,⟨aw,⟨[8],rfl,rfl,.ret (C7.grow (f:=Ky.cv) (fun _=>⟨.val _,.val _,.val _,tt⟩) rfl),.inr ⟨_,rfl,.same rfl B8⟩,tt⟩,fun k=>by rw [ho];exact d8U hp hq k,om_⟩⟩
   ·
    obtain ⟨⟨q,x⟩,hy,rfl⟩:=b5X hx;rw [a79];have ab:=(n_3.1 hy).1;have hxi:x.imports.length<=8:=by
     have h1:x∈done++left.map Prod.snd:=b6E _ (F4.2 ⟨_,n_2 hy,rfl⟩);obtain ⟨z,bO,cH⟩:=F4.1 (hq.mem_iff.1 h1);exact cH ▸ him z bO
    refine qC ?_ ?_<;>intro h7
    ·refine qY (b0o rfl tt rfl rfl) ?_;refine c4N ?_;refine qD (c3a rfl tt rfl rfl t_2 t_0 t_3 rfl ?_);refine qD (A7 (m:=1) rfl tt tt rfl rfl q_2 t_2 t_0 a32 t_3 rfl (.inr rfl) q_7 a3Z C1 ((x.pkg::x.imports).map scv) (x.imports.length+1) rfl L4 ?_);refine qY J3 ?_;refine a5V hCC 12 rfl 8 4 (.list (aw.map Ky.cv) (gnn aw.length) (C2 aw.length 12)) rfl tt a5H (α:=Nat × List Ky) (fun a=>[(4,(.list (a.2.map Ky.cv) (gnn a.2.length) (C2 a.2.length 12))),(72,.ptr 7 0),(82,(.list ((x.pkg::x.imports).map scv) (gnn (x.imports.length+1)) none)),(83,(iv ((x.pkg::x.imports).length:Int))),(84,iv a.1)]) (fun a=>[.box (r8 fl nn),wbx fl nn (B4 fl == 0) (A2 fl).1 2 3 4,.dead,.dead,o8 (A2 fl).1.length,.dead,.dead,.iter (gm sv vcS [(q,x)]) (gm sv vcS (left.eraseIdx i)),.dead,.box x.cells,.dead,.dead,o8 a.2.length]) (fun a=>a.1<=x.imports.length+1/\a.2=aw++((x.pkg::x.imports).take a.1).flatMap a4u/\a.2.length=aw.length+2*a.1) (fun a=>x.imports.length+1 - a.1) ⟨(0,aw),[0,1,2,3,4,5,6,7,8,9,10,11,12],⟨n_4 _,si_,rfl⟩,⟨rfl,rfl⟩,ut_,uq_⟩ ?_;intro ⟨j,o2⟩ ⟨hj,ho2,cp⟩;dsimp only at hj ho2 cp ⊢;refine qk (qC ?_ ?_)<;> intro h8
     ·have hjt:j < (x.pkg::x.imports).length:=by simp at h8 ⊢;omega
      obtain ⟨s,hs⟩:∃ s,(x.pkg::x.imports)[j]? = some s:=⟨(x.pkg::x.imports)[j]'hjt,si_⟩;have hjt2:j < x.imports.length+1:=hjt;refine qY c9v ?_;refine qY d0E ?_;refine qY d0E ?_;refine qY (A8 ((a4u s).map Ky.cv) rfl j1 t_6 t_5 Z1 rfl rfl rfl rfl rfl rfl rfl rfl rfl) ?_;refine qD (A7 rfl tt tt rfl si_ q_2 t_6 t_5 a5t Z1 rfl (.inr rfl) q_7 (by have hb:Tryz.t39.bytes=40:=rfl;rw [hb];(simp [a4u];omega)) (by simp [a4u];omega) ((o2++a4u s).map Ky.cv) (o2++a4u s).length (by rw [a6H]) (by rw [n_6];simp) ?_);refine qY l9 ?_;exact ⟨(j+1,o2++a4u s),[0,1,2,3,4,5,6,7,8,9,10,11,13],⟨do_,do_,by dsimp only;rw [d2p hs,ho2,D7],by dsimp only;rw [n_6];simp [a4u];omega⟩,⟨rfl,rfl⟩,ut_,uq_⟩
     ·have hje:j=(x.pkg::x.imports).length:=by simp at h8 ⊢;omega
      rw [hje,U5 (n_7 _)] at ho2;have hje2:j=x.imports.length+1:=hje;refine j4 ?_;exact ⟨([(q,x)],left.eraseIdx i,done++[x],o2),[0,1,2,3,4,5,6,7,12],⟨by dsimp only;rw [c11 ab];omega,(b78 hy).trans hq,by dsimp only;rw [ho2,ho,List.flatMap_append,D7];simp [b7C],by dsimp only;rw [n_6];simp;omega⟩,⟨rfl,rfl⟩,ut_,uq_⟩
    ·cases h7
theorem c1T (fl:List Fi) (nn:Bool) (cK:∀ f∈fl,f.p.length<=1000000000) (hl:fl.length<=64) (hes:(A2 fl).2.2.length<=10000) (hss:(A2 fl).2.1.length<=64) (him:∀ x∈(A2 fl).2.1,x.2.imports.length<=8) (σ:List b9):b8 CC 78 [.agg (r8 fl nn)] σ fun r τ=>∃ l:List Ky,r = .ret (.list (l.map Ky.cv) (gnn l.length) (C2 l.length σ.length))/\τ=σ++[o8 l.length]/\((∀ k,k∈l↔k∈KU fl)/\l.length<=20000) :=
 a1x (L:=fun l=>l) (fun a h=>by simp at h;subst h;exact r6 (cs:=r8 _ _) ⟨J2 _ _,tt⟩) a4B (d1D fl nn cK hl hes hss him) σ
def B9 (v:Va):Ky:=⟨5,v.n,[]⟩
theorem a0a (fl:List Fi) (nn:Bool):r4 (.agg (r8 fl nn)):=r6 (cs:=r8 _ _) ⟨J2 _ _,tt⟩
theorem a3k (ev:List Va) (nn:Bool):r4 (.agg (G6 ev nn)):=r6 (cs:=G6 _ _) ⟨a1d _ _,tt⟩
structure a2k (fl:List Fi):Prop where
 pl:∀ f∈fl,f.p.length<=1000000000
 len:fl.length<=64
 es:(A2 fl).2.2.length<=10000
 ss:(A2 fl).2.1.length<=64
 im:∀ x∈(A2 fl).2.1,x.2.imports.length<=8
 ky:∀ k∈KU fl,k.a.length<=1000000000/\k.b.length<=1000000000
theorem b2W (ev:List Va) (en:Bool) (fR:ev.length<=1000000):b8 CC 80 [.agg (G6 ev en)] [] fun r τ=>∃ _:Unit,E8 0 τ r (.ret (.list ((ev.map B9).map Ky.cv) (gnn (ev.map B9).length) (C2 (ev.map B9).length 0))) [o8 (ev.map B9).length]/\True:=by
 refine qO Tryz.func80 ?_;refine c8q ?_;refine A6 hCC 1 rfl (α:=Nat × List Ky) (fun a=>[(3,(.list (a.2.map Ky.cv) (gnn a.2.length) (C2 a.2.length 1))),(7,(.list (ev.map Va.cv) en none)),(8,iv ev.length),(9,iv a.1)]) (fun a=>[.box (G6 ev en),o8 a.2.length]) (fun a=>a.1<=ev.length/\a.2=(ev.take a.1).map B9) (fun a=>ev.length - a.1) ⟨(0,[]),[0,9],⟨n_4 _,rfl⟩,⟨rfl,rfl⟩,ut_,uq_⟩ ?_;intro ⟨i,aw⟩ ⟨hi,ho⟩;dsimp only at hi ho ⊢;have fJ:aw.length<=i:=by rw [ho,O3,a5u];omega
 refine qk (qC ?_ ?_)<;> intro h1
 ·have ab:i < ev.length:=sm_ h1;obtain ⟨y,hb⟩:∃ y,ev[i]? = some y:=⟨ev[i]'ab,si_⟩;refine b8W ?_;refine qY d0E ?_;refine qY (A8 [Ky.cv (B9 y)] rfl ⟨tt,tt⟩ t_6 t_5 Z1 rfl rfl rfl rfl rfl rfl rfl rfl rfl) ?_;refine qD (A7 rfl tt tt rfl si_ q_2 t_6 t_5 a5t Z1 rfl (.inr rfl) q_7 a6c C1 ((aw++[B9 y]).map Ky.cv) (aw++[B9 y]).length si_ si_ ?_);refine qY l9 ?_;exact ⟨(i+1,aw++[B9 y]),[0,3],⟨do_,do_,by dsimp only;rw [ho,a4D hb]⟩,⟨rfl,rfl⟩,ut_,uq_⟩
 ·have eO:i=ev.length:=sm_ h1;rw [eO,U5 (n_7 _)] at ho;subst ho;refine z_9 ?_;exact ⟨_,rE1,⟨(),⟨[1],rfl,rfl,.ret (C7.grow (f:=Ky.cv) (fun _=>⟨.val _,.val _,.val _,tt⟩) rfl),.inr ⟨_,rfl,.same rfl B8⟩,tt⟩,tt⟩⟩
theorem a7z (ev:List Va) (en:Bool) (fR:ev.length<=1000000) (σ:List b9):b8 CC 80 [.agg (G6 ev en)] σ fun r τ=>∃ _:Unit,r = .ret (.list ((ev.map B9).map Ky.cv) (gnn (ev.map B9).length) (C2 (ev.map B9).length σ.length))/\τ=σ++[o8 (ev.map B9).length]/\True :=
 a1x (L:=fun _:Unit=>ev.map B9) (fun a h=>by simp at h;subst h;exact a3k _ _) a4B (b2W ev en fR) σ
theorem c0Y (fl:List Fi) (nn:Bool) (h1:a2k fl) (fs:List Fi) (ns:Bool) (h2:a2k fs):b8 CC 77 [.agg (r8 fl nn),.agg (r8 fs ns),.val (.func (.func 78) #[] #[])] [] fun r τ=>∃ l:List Ky,E8 0 τ r (.ret (.list (l.map Ky.cv) (gnn l.length) (C2 l.length 0))) [o8 l.length]/\((∀ k,k∈l↔k∈KU fl++KU fs)/\l.length<=40000):=by
 refine qO Tryz.func77 ?_;refine a9J ?_;refine d6M ?_;refine b7S ?_;refine chf rfl a4W ?_;refine D9 ?_;refine B1 rfl rfl rfl (a5W rfl tt rfl Tryz.call78 ⟨tt,tt⟩ (c1T fl nn h1.pl h1.len h1.es h1.ss h1.im _) rfl ?_);intro l1 ⟨bX,cP⟩;refine ⟨⟨F1,a08,tt⟩,?_⟩;refine B1 rfl rfl rfl (a5W rfl tt rfl Tryz.call78 ⟨tt,tt⟩ (c1T fs ns h2.pl h2.len h2.es h2.ss h2.im _) rfl ?_);intro l2 ⟨bT,cp⟩;refine ⟨tt,?_⟩;refine B1 rfl rfl rfl (A7 rfl tt tt rfl si_ q_2 t_6 t_5 a5t Z1 rfl (.inr rfl) q_7 a6c C1 ((l1++l2).map Ky.cv) (l1++l2).length (by rw [a6H]) si_ ?_);refine ⟨tt,?_⟩;refine a89 ?_;exact ⟨_,a1R rfl tt rfl,⟨l1++l2,⟨[4],rfl,rfl,.ret (C7.grow (f:=Ky.cv) (fun _=>⟨.val _,.val _,.val _,tt⟩) rfl),.inr ⟨_,rfl,.same rfl B8⟩,tt⟩,fun k=>by rw [L8,L8,bX,bT],by rw [n_6];omega⟩⟩
theorem b3H (fl:List Fi) (nn:Bool) (h1:a2k fl) (fs:List Fi) (ns:Bool) (h2:a2k fs) (σ:List b9):b8 CC 77 [.agg (r8 fl nn),.agg (r8 fs ns),.val (.func (.func 78) #[] #[])] σ fun r τ=>∃ l:List Ky,r = .ret (.list (l.map Ky.cv) (gnn l.length) (C2 l.length σ.length))/\τ=σ++[o8 l.length]/\((∀ k,k∈l↔k∈KU fl++KU fs)/\l.length<=40000) :=
 a1x (L:=fun l=>l) (fun a h=>by simp at h;rcases h with rfl | rfl | rfl;exact a0a _ _;exact a0a _ _;exact .val _) a4B (c0Y fl nn h1 fs ns h2) σ
theorem b93 (ev:List Va) (en:Bool) (h1:ev.length<=1000000) (ew:List Va) (ne:Bool) (h2:ew.length<=1000000):b8 CC 79 [.agg (G6 ev en),.agg (G6 ew ne),.val (.func (.func 80) #[] #[])] [] fun r τ=>∃ _:Unit,E8 0 τ r (.ret (.list ((ev.map B9++ew.map B9).map Ky.cv) (gnn (ev.map B9++ew.map B9).length) (C2 (ev.map B9++ew.map B9).length 0))) [o8 (ev.map B9++ew.map B9).length]/\True:=by
 refine qO Tryz.func79 ?_;refine a9J ?_;refine d6M ?_;refine chf rfl c3z ?_;refine chf rfl V4 ?_;refine chf rfl c3z ?_;refine D9 ?_;refine B1 rfl rfl rfl (a5W rfl tt rfl Tryz.call80 ⟨tt,tt⟩ (a7z ev en h1 _) rfl ?_);intro _ _;refine ⟨⟨F1,(by exact c8 rfl a0d),tt⟩,?_⟩;refine B1 rfl rfl rfl (a5W rfl tt rfl Tryz.call80 ⟨tt,tt⟩ (a7z ew ne h2 _) rfl ?_);intro _ _;refine ⟨tt,?_⟩;refine B1 rfl rfl rfl (A7 rfl tt tt rfl si_ q_2 t_6 t_5 a5t Z1 rfl (.inr rfl) q_7 a6c C1 ((ev.map B9++ew.map B9).map Ky.cv) (ev.map B9++ew.map B9).length (by rw [a6H]) si_ ?_);refine ⟨tt,?_⟩;refine a89 ?_;exact ⟨_,a1R rfl tt rfl,⟨(),⟨[4],rfl,rfl,.ret (C7.grow (f:=Ky.cv) (fun _=>⟨.val _,.val _,.val _,tt⟩) rfl),.inr ⟨_,rfl,.same rfl B8⟩,tt⟩,tt⟩⟩
theorem a8H (ev:List Va) (en:Bool) (h1:ev.length<=1000000) (ew:List Va) (ne:Bool) (h2:ew.length<=1000000) (σ:List b9):b8 CC 79 [.agg (G6 ev en),.agg (G6 ew ne),.val (.func (.func 80) #[] #[])] σ fun r τ=>∃ _:Unit,r = .ret (.list ((ev.map B9++ew.map B9).map Ky.cv) (gnn (ev.map B9++ew.map B9).length) (C2 (ev.map B9++ew.map B9).length σ.length))/\τ=σ++[o8 (ev.map B9++ew.map B9).length]/\True :=
 a1x (L:=fun _:Unit=>ev.map B9++ew.map B9) (fun a h=>by simp at h;rcases h with rfl | rfl | rfl;exact a3k _ _;exact a3k _ _;exact .val _) a4B (b93 ev en h1 ew ne h2) σ
def ddK:List Ky->List Ky
 | []=>[]
 | [x]=>[x]
 | x::y::l=>if x=y then ddK (y::l) else x::ddK (y::l)
theorem b3k (x y:Ky) (l:List Ky):ddK (x::y::l)=if x=y then ddK (y::l) else x::ddK (y::l):=by rw [ddK]
theorem c2N:∀ (l:List Ky) (x y:Ky),ddK (l++[x,y])=if x=y then ddK (l++[x]) else ddK (l++[x])++[y]
 | [],x,y=>by
  simp only [a2e,b3k];by_cases h:x=y<;>simp [h,ddK]
 | [a],x,y=>by
  simp only [a9N,a2e,b3k];by_cases h1:a=x<;>by_cases h2:x=y<;>simp [h1,h2,ddK]
 | a::b::l,x,y=>by
  have h:=c2N (b::l) x y;simp only [a9N] at h;simp only [a9N,b3k,h];by_cases h1:a=b<;>by_cases h2:x=y<;>simp [h1,h2]
theorem c34 {x:Ky} (hx:l[j]? = some x) (hy:l[j+1]? = some y):ddK (l.take (j+2))=if x=y then ddK (l.take (j+1)) else ddK (l.take (j+1))++[y]:=by
 have h1:l.take (j+1)=l.take j++[x]:=by rw [a2m,hx];rfl
 have h2:l.take (j+2)=l.take j++[x,y]:=by rw [show j+2=(j+1)+1 from rfl,a2m,hy,h1];simp
 rw [h1,h2,c2N]
theorem d8E:ddK (l.take 1)=l.take 1:=by cases l<;>rfl
theorem c80 (h:l.length < 2):ddK l=l:=by
 match l,h with
 | [],_=>rfl
 | [x],_=>rfl
theorem b2S  (σ:List b9):b8 CC 126 [(.list (([]:List Ky).map Ky.cv) false none)] σ fun r Y=>r = .ret (.list (([]:List Ky).map Ky.cv) false none)/\Y=σ:=by
 refine b8.anyw hCC pu_ pu_ (c7 (qO Tryz.func126 ?_)) σ;refine qY (c2Y rfl tt rfl t_6 rfl) ?_;refine qC ?_ ?_<;>intro h1
 ·refine c6 ?_;exact ⟨_,rE1,_,_,rfl,rfl,(U2 (show CV.list [] false none=_ from rfl) pu_)⟩
 ·exfalso;cases h1
theorem b9J (l:List Ky) (hn:l≠[]) (hl:l.length<=1000000) (σ:List b9):b8 CC 126 [(.list (l.map Ky.cv) true none)] σ fun r Y=>∃ _:Unit,r = .ret (.vec σ.length 0 l.length)/\Y=σ++[.vec 3 (l.map Ky.cv)]/\True:=by
 refine qO Tryz.func126 ?_;refine qY (c2Y rfl tt rfl t_6 rfl) ?_;refine qC ?_ ?_<;>intro h1
 ·exfalso;cases h1
 ·refine qD (d7r rfl t_6 t_5 (fun a0=>?_));refine qD (d2g l.length rfl tt tt rfl q_2 t_6 t_5 a5t Z1 rfl (by simp;exact a94.2 hn) a6c C1 si_ ?_);exact c7l
theorem b8N (l:List Ky) (hl:l.length<=1000000):b8 CC 129 [.vec 0 0 l.length] [.vec 3 (l.map Ky.cv)] fun r τ=>∃ rest:List Ky,r = .ret (.vec 0 0 (ddK l).length)/\τ=[.vec 3 ((ddK l++rest).map Ky.cv)]/\True:=by
 refine qO Tryz.func129 ?_;refine qY (a0Z rfl tt rfl t_6 rfl rfl) ?_;refine qC ?_ ?_<;>intro h1
 ·have ab:l.length < 2:=sm_ h1;have hdd:=c80 ab;refine c6 ?_;exact ⟨_,rE1,⟨[],by rw [hdd],by rw [hdd];simp,tt⟩⟩
 ·have aE:2<=l.length:=sm_ h1;refine H8 (α:=Nat) (fun k=>[(0,(.vec 0 0 l.length)),(3,iv k)]) (fun _=>[.vec 3 (l.map Ky.cv)]) (fun k=>1<=k/\k<=l.length/\ddK (l.take k)=l.take k) (fun k=>l.length - k) 1 ⟨n_7 _,om_,d8E⟩ tu_ rfl ?_;intro k E0 ⟨bw,bS,hd⟩;refine qk (qY (a0Z rfl tt rfl t_6 rfl rfl) ?_);refine qC ?_ ?_<;>intro h2
  ·have ab:k < l.length:=sm_ h2;obtain ⟨y,hy⟩:∃ y,l[k]? = some y:=⟨l[k]'ab,si_⟩;obtain ⟨x,hx⟩:∃ x,l[k - 1]? = some x:=⟨l[k - 1]'om_,si_⟩;have fK:=c34 hx (by rw [Nat.sub_add_cancel bw];exact hy);rw [show k - 1+2=k+1 by omega,show k - 1+1=k by omega,hd] at fK;refine cW 10 ?_;refine b5U ?_;refine hY b4C ?_;refine hY (a4P rfl tt rfl b1F t_5 rfl (c0T (i8 hy) om_) (nb rfl)) ?_;refine b5U ?_;refine hY V3 ?_;refine hY b4C ?_;refine hY (a4P rfl tt rfl b1F t_5 rfl (c0T (i8 hx) om_) (nb rfl)) ?_;refine hY (b6H rfl tt tt (xs:=[.int .i64 y.k,.string (str y.a),.string (str y.b)]) (ys:=[.int .i64 x.k,.string (str x.a),.string (str x.b)]) rfl rfl c96 (b68 y x)) ?_;refine X2 ?_;refine qC ?_ ?_<;>intro h3
   ·have hyx:x=y:=by
     have h3':y=x:=sp_ h3;exact h3'.symm
    rw [n_1 hyx] at fK;refine qY (a3i (l:=k) rfl tt rfl t_6 t_5 rfl a5B rfl a4g si_) ?_;refine H8 (α:=List Ky × Nat × Nat) (fun a=>[(0,(.vec 0 0 l.length)),(3,iv a.2.1),(4,(.vec 0 (0+k) (l.length - k))),(5,iv a.2.2)]) (fun a=>[.vec 3 (a.1.map Ky.cv)]) (fun a=>a.1.length=l.length/\1<=a.2.2/\a.2.2<=l.length - k/\a.2.1<=k+a.2.2 - 1/\ddK (l.take (k+a.2.2))=a.1.take a.2.1/\∀ j,k+a.2.2 - 1<=j->a.1[j]? = l[j]?) (fun a=>l.length - a.2.2) (l,k,1) ⟨rfl,n_7 _,do_,do_,fK,fun _ _=>rfl⟩ tu_ rfl ?_;intro ⟨m,p,q⟩ E1 ⟨hm,bV,cJ,hp,hmd,hmj⟩;dsimp only at hm bV cJ hp hmd hmj ⊢;refine qk (qY (a0Z rfl tt rfl t_6 rfl rfl) ?_);refine qC ?_ ?_<;>intro h4
    ·have hlt2:q < l.length - k:=sm_ h4;obtain ⟨z,hz⟩:∃ z,l[k+q]? = some z:=⟨l[k+q]'om_,si_⟩;obtain ⟨u,hu⟩:∃ u,l[k+q - 1]? = some u:=⟨l[k+q - 1]'om_,si_⟩;have hzm:m[k+q]? = some z:=(hmj _ om_).trans hz;have hum:m[k+q - 1]? = some u:=(hmj _ om_).trans hu;have iK:=c34 hu (by rw [Nat.sub_add_cancel om_];exact hz);rw [show k+q - 1+2=k+(q+1) by omega,show k+q - 1+1=k+q by omega,hmd] at iK;refine cW 10 ?_;refine b5U ?_;refine hY b4C ?_;refine hY (a4P rfl tt rfl b1F t_5 rfl (c0T (i8 hzm) om_) (nb rfl)) ?_;refine b5U ?_;refine hY V3 ?_;refine hY b4C ?_;refine hY (a4P rfl tt rfl b1F t_5 rfl (c0T (i8 hum) om_) (nb rfl)) ?_;refine hY (e0D rfl tt tt (xs:=[.int .i64 z.k,.string (str z.a),.string (str z.b)]) (ys:=[.int .i64 u.k,.string (str u.a),.string (str u.b)]) rfl rfl c96 (b68 z u)) ?_;refine X2 ?_;refine qC ?_ ?_<;>intro h5
     ·have hzu:¬ u=z:=by
       have h5':¬ z=u:=sp_ h5;exact fun e=>h5' e.symm
      rw [n_0 hzu] at iK;obtain ⟨o,ho⟩:=gx_ m p;refine qY b4C ?_;refine qY (a4P rfl tt rfl b1F t_5 rfl (c0T (i8 hzm) om_) (nb rfl)) ?_;refine qY b4C ?_;refine qD (P8 ((m.set p z).map Ky.cv) rfl tt tt rfl j3 t_5 j6 rfl (c0T (i8 ho) om_) rfl (nb rfl) (by rw [show 0+(p:Int).toNat=p by omega,List.map_set];rfl) rfl ?_);refine qY l9 ?_;refine qY l9 ?_;exact ⟨(m.set p z,p+1,q+1),do_,⟨sp_ hm,do_,do_,do_,by dsimp only;rw [iK,a2m,List.take_set_of_le (n_7 _),b1v om_];rfl,fun j hj=>by dsimp only at hj;rw [a2i om_];exact hmj j om_⟩,tu_,rfl⟩
     ·have hzu:u=z:=by
       have h5':z=u:=sp_ h5;exact h5'.symm
      rw [n_1 hzu] at iK;refine qY l9 ?_;exact ⟨(m,p,q+1),do_,⟨hm,do_,do_,do_,iK,fun j hj=>by dsimp only at hj;exact hmj j om_⟩,tu_,rfl⟩
    ·have ir:q=l.length - k:=sm_ h4;subst ir;rw [show k+(l.length - k)=l.length by omega,a57] at hmd;have aX:(m.take p).length=p:=by rw [a5u];omega
     have eI:(ddK l).length=p:=by rw [hmd,aX]
     refine j4 ?_;refine qY (a3i (l:=p) rfl tt rfl t_6 t_5 rfl a5B rfl a4g L4) ?_;refine qD (d0r ((m.take p++List.replicate (l.length - p) zK).map Ky.cv) rfl tt rfl t_6 Z1 rfl (a38 rfl) rfl rfl L4 (by rw [a6H,List.map_replicate];unfold Q8;rw [V2 L4,a1k,L7,<- a9d];rfl) rfl ?_);refine qY (a3i (h:=p) rfl tt rfl t_6 t_5 rfl rfl a5B a4g L4) ?_;refine c6 ?_;exact ⟨_,rE1,⟨List.replicate (l.length - p) zK,by rw [eI];rfl,by rw [hmd];rfl,tt⟩⟩
   ·have hyx:¬ x=y:=by
     have h3':¬ y=x:=sp_ h3;exact fun e=>h3' e.symm
    rw [n_0 hyx] at fK;refine qY l9 ?_;exact ⟨k+1,om_,⟨om_,om_,by rw [fK,a2m,hy];rfl⟩,tu_,rfl⟩
  ·have ir:k=l.length:=sm_ h2;subst ir;rw [a57] at hd;refine z_9 ?_;exact ⟨_,rE1,⟨[],by rw [hd],by rw [hd];simp,tt⟩⟩
theorem c1s  (σ:List b9):b8 CC 129 [(.list (([]:List Ky).map Ky.cv) false none)] σ fun r Y=>r = .ret (.list (([]:List Ky).map Ky.cv) false none)/\Y=σ:=by
 refine b8.anyw hCC pu_ pu_ (c7 (qO Tryz.func129 ?_)) σ;refine qY b0t ?_;refine cC ?_ ?_<;>intro h1
 ·refine qk ?_;exact d6R
 ·exfalso;simp at h1
theorem c0a (l:List Ky) (hl:l.length<=1000000) {σ:List b9} {q:Nat} (hq:σ[q]? = some (.vec 3 (l.map Ky.cv))):b8 CC 129 [.vec q 0 l.length] σ fun r τ=>∃ rest:List Ky,r = .ret (.vec q 0 (ddK l).length)/\τ=σ.set q (.vec 3 ((ddK l++rest).map Ky.cv))/\True :=
 c0m (α:=List Ky) (g:=fun _=>false) (rows':=fun rest=>(ddK l++rest).map Ky.cv) (off:=fun _=>0) (len:=fun _=>(ddK l).length) (P:=fun _=>True) hCC (a63 l) (args:=[]) (fun a h=>by cases h) (fun _ _=>a63 _)
  ((b8N l hl).mono fun r τ ⟨rest,h1,h2,_⟩=>⟨rest,by subst h1 h2;exact ⟨[0],rfl,rfl,.ret (.vec rfl),.inr ⟨_,rfl,.same rfl (c5r _ _)⟩,tt⟩,tt⟩) hq
theorem b60 (nn:Bool) (σ:List b9):b8 CC 127 [.list [] nn none,.val (.func (.func 128) #[] #[])] σ fun r τ=>r = .ret (.tup [])/\τ=σ:=fun M w vs hr hn hx=>by
 have hs:vs.size=2:=hn;obtain ⟨v,v2,rfl⟩:∃ v v2,vs = #[v,v2]:=⟨vs[0]'om_,vs[1]'om_,Array.ext (by simp [hs]) fun i h1 h2=>by
  have:i=0\/i=1:=by omega
  rcases this with rfl | rfl<;>simp⟩
 have h0:RV M w (.list [] nn none) v:=hx 0 _ rfl;cases h0 with
 | list vals g1 g2 g3 g4 g5 g6 g7 g8 g9 g10 =>
  refine (Go.Proofs.AnyF.slices_SortFunc_none Tryz.sortKey _ _ v2 w).mono fun e w' ⟨he,hw⟩=>?_;subst he hw;exact ⟨_,_,M,Ext.refl M w',hr,.tup rfl (fun i c h=>by simp at h),rfl,rfl⟩
def K6 (l:List Ky):List Ky:=ddK (b1k Z7 l)
theorem b5Y  (σ:List b9):b8 CC 76 [(.list (([]:List Ky).map Ky.cv) false none)] σ fun r Y=>r = .ret (.list (([]:List Ky).map Ky.cv) false none)/\Y=σ:=by
 refine b8.anyw hCC pu_ pu_ (c7 (qO Tryz.func76 ?_)) σ;refine qY (c5 rfl Tryz.call126 ⟨tt,tt⟩ (b2S _) rfl) ?_;refine qY (c5 rfl Tryz.call127 j1 (b60 false _) rfl) ?_;refine qY (c5 rfl Tryz.call129 ⟨tt,tt⟩ (c1s _) rfl) ?_;exact d6R
theorem d2y (l:List Ky) (az:l≠[]) (hl:l.length<=1000000):b8 CC 76 [(.list (l.map Ky.cv) true none)] [] fun r Y=>∃ ay c c',Y=[]++ay/\r = .ret c/\Cls 0 Y c c'/\c' = .list ((K6 l).map Ky.cv) true none:=by
 have dQ:(b1k Z7 l).length=l.length:=b4q _;refine qO Tryz.func76 ?_;refine qD (c4 rfl Tryz.call126 ⟨tt,tt⟩ (b9J l az hl _) rfl ?_);intro _ _;refine qD (c4 rfl Tryz.call127 j1 (b8c az hl rfl) rfl ?_);intro _ _;refine qD (c4 rfl Tryz.call129 ⟨tt,tt⟩ ((by rw [<- dQ];exact c0a (b1k Z7 l) om_ rfl)) rfl ?_);intro rest _;refine c6 ?_;exact ⟨_,rE1,⟨_,_,_,rfl,rfl,(.vecs (n_4 _) rfl si_ (by simp;rfl) (a63 (K6 l))),rfl⟩⟩
theorem d7L (l:List Ky) (hl:l.length<=1000000) (σ:List b9):b8 CC 76 [(.list (l.map Ky.cv) (gnn l.length) none)] σ fun r τ=>r = .ret (.list ((K6 l).map Ky.cv) (gnn (K6 l).length) none)/\τ=σ:=by
 by_cases h:l=[]
 ·subst h;rw [show K6 []=[] by simp [K6,b1k,ddK]];exact b5Y σ
 ·rw [d1v h];have hn:K6 l≠[]:=by
   intro e;have hd:∀ m:List Ky,m≠[]->ddK m≠[]:=by
    intro m
    induction m with
    | nil=>intro h;exact absurd rfl h
    | cons a m ih =>
     intro _;cases m with
     | nil=>simp [ddK]
     | cons b m =>
      rw [b3k]
      split
      ·exact ih si_
      ·simp
   exact hd (b1k Z7 l) (fun e2=>h (List.length_eq_zero_iff.1 (by rw [<- b4q (l:=l) (le:=fun x y=>!(Go.Proofs.ltOf Z7) y x)];exact n_8 List.length e2))) e
  rw [d1v hn];exact b8.anyw (args:=[.list (l.map Ky.cv) true none]) hCC ⟨a00 _ _,tt⟩ (a00 _ _) ((a7n (d2y l h hl)).mono fun r τ ⟨⟨c,h1,h2⟩,h3⟩=>⟨by rw [h1,h2],h3⟩) σ
def b2Q (l:List Ky):Prop:=l.Pairwise fun x y=>ltK x y=true
theorem b9d {a b:List Ky} (ha:b2Q a) (hb:b2Q b) (h:∀ x,x∈a↔x∈b):a=b:=by
 have nd:∀ {l:List Ky},b2Q l->l.Nodup:=fun hl=>hl.imp fun {x y} hxy e=>by
  subst e;rw [a99] at hxy;cases hxy
 refine List.Perm.eq_of_pairwise (le:=fun x y=>ltK x y=true) (fun x y _ _ h1 h2=>?_) ha hb ((List.perm_ext_iff_of_nodup (nd ha) (nd hb)).2 h);have:=a2Y h1 h2;rw [a99] at this;cases this
theorem b3n (y k:Ky) (l:List Ky):a6Z (y::l) k=if ltK y k=true then y::a6Z l k else if y=k then y::l else k::y::l:=by
 unfold a6Z;rw [show b2O k (y::l)=if ltK y k=true then b2O k l+1 else 0 from rfl];by_cases h:ltK y k=true
 ·simp only [h,if_true,c1Z,a8P,List.drop_succ_cons]
  split<;>simp
 ·simp only [h,if_false,b9D,List.getElem?_cons_zero,Option.some.injEq,List.take_zero,a9L,a2e]
theorem b2g {k x:Ky}:∀ {l:List Ky},x∈a6Z l k↔x=k\/x∈l
 | []=>by simp [a6Z,b2O]
 | y::l=>by
  have ih:=b2g (k:=k) (x:=x) (l:=l);rw [b3n]
  split
  ·rw [J5,ih,J5];constructor
   ·rintro (h | h | h)
    ·exact .inr (.inl h)
    ·exact .inl h
    ·exact .inr (.inr h)
   ·rintro (h | h | h)
    ·exact .inr (.inl h)
    ·exact .inl h
    ·exact .inr (.inr h)
  ·split
   ·rename_i h;subst h;rw [J5];constructor
    ·exact .inr
    ·rintro (h | h)
     ·exact .inl h
     ·exact h
   ·rw [J5]
theorem b6y {k:Ky}:∀ {l:List Ky},b2Q l->b2Q (a6Z l k)
 | [],_=>by simp [a6Z,b2O,b2Q]
 | y::l,h=>by
  obtain ⟨h1,h2⟩:=a4x.1 h;rw [b3n]
  split
  ·rename_i hy;refine a4x.2 ⟨fun x hx=>?_,b6y h2⟩
   rcases b2g.1 hx with rfl | hx
   ·exact hy
   ·exact h1 x hx
  ·rename_i hy
   split
   ·exact h
   ·rename_i az;have hk:ltK k y=true:=by
     cases e:ltK k y
     ·exact absurd (a7P (sp_ hy) e) az
     ·rfl
    refine a4x.2 ⟨fun x hx=>?_,h⟩
    rcases J5.1 hx with rfl | hx
    ·exact hk
    ·exact a2Y hk (h1 x hx)
theorem Z9 (l:List Ky):b2Q (b5i l)/\∀ x,x∈b5i l↔x∈l:=by
 have h:∀ (l a:List Ky),b2Q a->b2Q (l.foldl a6Z a)/\∀ x,x∈l.foldl a6Z a↔x∈a\/x∈l:=by
  intro l
  induction l with
  | nil=>intro a ha;exact ⟨ha,fun x=>by simp⟩
  | cons y l ih =>
   intro a ha;obtain ⟨h1,h2⟩:=ih (a6Z a y) (b6y ha);refine ⟨h1,fun x=>?_⟩;rw [b9l,h2,b2g,J5];constructor
   ·rintro ((h | h) | h)
    ·exact .inr (.inl h)
    ·exact .inl h
    ·exact .inr (.inr h)
   ·rintro (h | h | h)
    ·exact .inl (.inr h)
    ·exact .inl (.inl h)
    ·exact .inr h
 obtain ⟨h1,h2⟩:=h l [] List.Pairwise.nil;exact ⟨h1,fun x=>by rw [b5i,h2];simp⟩
theorem b5n {x:Ky}:∀ {l:List Ky},x∈ddK l↔x∈l
 | []=>by simp [ddK]
 | [a]=>by simp [ddK]
 | a::b::l=>by
  have ih:=b5n (x:=x) (l:=b::l);rw [b3k]
  split
  ·rename_i h;subst h;rw [ih];simp
  ·rw [J5,ih];simp
theorem c2n:∀ {l:List Ky},(l.Pairwise fun x y=>ltK y x=false)->b2Q (ddK l)
 | [],_=>.nil
 | [a],_=>List.pairwise_singleton _ _
 | a::b::l,h=>by
  obtain ⟨h1,h2⟩:=a4x.1 h;have ih:=c2n h2;rw [b3k]
  split
  ·exact ih
  ·rename_i az;refine a4x.2 ⟨fun y hy=>?_,ih⟩;have ii:=b5n.1 hy;cases e:ltK a y
   ·have ea:=a7P e (h1 y ii);subst ea
    rcases J5.1 ii with e2 | hl
    ·exact absurd e2 az
    ·have h3:=(a4x.1 h2).1 a hl;have h4:=h1 b b1X;exact absurd (a7P h3 h4) az
   ·rfl
theorem a1G (l:List Ky):K6 l=b5i l:=by
 obtain ⟨h1,h2⟩:=Z9 l;refine b9d (c2n ?_) h1 fun x=>?_
 ·have hp:=c3K (le:=fun x y=>!(Go.Proofs.ltOf Z7) y x) (fun a b c h k=>?_) (fun a b=>?_) l
  ·exact hp.imp fun {x y} h=>by simpa [a5l] using h
  ·simp only [b7W,a5l] at *;exact (show ltK c a=false from by
    rw [<- a5l] at *;exact d6r.ntrans c b a k h)
  ·simp only [a8j,b7W,a5l];cases e:ltK b a
   ·exact .inl rfl
   ·right
    cases e2:ltK a b
    ·rfl
    ·have:=a2Y e e2;rw [a99] at this;cases this
 ·rw [h2,K6,b5n];exact (b12 _ _).mem_iff
def a3z:List Ky->List Str->List Str->List Ky
 | k::l,x::xs,y::ys=>if x=y then a3z l xs ys else k::a3z l xs ys
 | _,_,_=>[]
theorem c0b {xs ys:List Str} {x y:Str} (hk:l[i]? = some k) (hx:xs[i]? = some x) (hy:ys[i]? = some y):a3z (l.drop i) (xs.drop i) (ys.drop i)=(if decide (x≠y)=true then [k] else [])++a3z (l.drop (i+1)) (xs.drop (i+1)) (ys.drop (i+1)):=by
 obtain ⟨h1,rfl⟩:=n_3.1 hk;obtain ⟨h2,rfl⟩:=n_3.1 hx;obtain ⟨h3,rfl⟩:=n_3.1 hy;rw [R2 h1,R2 h2,R2 h3,a3z];by_cases h:xs[i]=ys[i]
 ·rw [n_1 h];simp [h]
 ·rw [n_0 h];simp [h]
abbrev aSt (fl:List Fi) (nn:Bool) (ev:List Va) (en:Bool) (fs:List Fi) (ns:Bool) (ew:List Va) (ne:Bool) (L:List Ky) (x y:List Str) (aw:List Ky) (p:Nat):List b9:=[.box (r8 fl nn),.box (G6 ev en),.box (r8 fs ns),.box (G6 ew ne),.dead,.dead,.dead,.box [.list (L.map Ky.cv) (gnn L.length) none],.box [.list (x.map scv) (gnn x.length) none],.box [.list (y.map scv) (gnn y.length) none],.box [.list (aw.map Ky.cv) (gnn aw.length) (C2 aw.length p)]]
theorem d8R (fl:List Fi) (nn:Bool) (ev:List Va) (en:Bool) (fs:List Fi) (ns:Bool) (ew:List Va) (ne:Bool) {L:List Ky} {x y:List Str} (aw:List Ky) (i:Nat) (hk:L[i]? = some k) {u v:Str} (hx:x[i]? = some u) (hy:y[i]? = some v) (fJ:aw.length<=1000000):b8 CC 81 ([iv i]++[.ptr 8 0,.ptr 9 0,.ptr 10 0,.ptr 7 0]) (aSt fl nn ev en fs ns ew ne L x y aw 11++[o8 aw.length]) fun r τ=>∃ g:Bool,r = .ret (.tup [])/\τ=(if g=true then aSt fl nn ev en fs ns ew ne L x y (aw++[k]) 12++[.dead,o8 (aw++[k]).length] else aSt fl nn ev en fs ns ew ne L x y aw 11++[o8 aw.length])/\g=decide (u≠v):=by
 refine qO Tryz.func81 ?_;refine cW 9 ?_;refine hY a4Y ?_;refine hY B2 ?_;refine hY (p9 rfl tt tt rfl rfl t_2 t_0 om_ (i8 hx) rfl) ?_;refine hY a6w ?_;refine hY a4Y ?_;refine hY B2 ?_;refine hY b67 ?_;refine hY a6w ?_;refine hY b4z ?_;refine X2 ?_;refine qC ?_ ?_<;>intro h1
 ·have az:decide (u≠v)=true:=sp_ h1;refine cW 6 ?_;refine hY b3M ?_;refine hY b3M ?_;refine hY B2 ?_;refine hY (p9 rfl tt tt rfl rfl t_6 t_5 om_ (i8 hk) rfl) ?_;refine hY (W6 rfl tt rfl b1F t_5 (nb rfl)) ?_;refine hY d9D ?_;refine X2 ?_;refine qD (A7 rfl tt tt rfl si_ q_2 t_6 t_5 a5t Z1 rfl (.inr rfl) q_7 a6c C1 ((aw++[k]).map Ky.cv) (aw++[k]).length (by rw [a6H];rfl) si_ ?_);refine qD (j2 rfl tt tt rfl j3 c9t (.inl rfl) rfl rfl (nb rfl) ?_);exact ⟨_,rE0,⟨true,rfl,rfl,az.symm⟩⟩
 ·have az:decide (u≠v)=false:=sp_ h1;exact ⟨_,rE0,⟨false,rfl,rfl,az.symm⟩⟩
theorem c8D:Old 11 (.clo 81 [.ptr 8 0,.ptr 9 0,.ptr 10 0,.ptr 7 0]):=.clo fun i c hc=>by
 rcases i with _ | _ | _ | _ | i<;>first|(injection hc with hc;subst hc;exact .ptr (nb rfl)) | cases hc
noncomputable def b2t (fl:List Fi) (ev:List Va) (fs:List Fi) (ew:List Va):Option (List Ky) :=
 if (J7 fl ev []).isSome=true/\(J7 fs ew []).isSome=true then (J7 fl ev (K6 (KU fl++KU fs++(ev.map B9++ew.map B9)))).bind fun x=>(J7 fs ew (K6 (KU fl++KU fs++(ev.map B9++ew.map B9)))).map fun y=>a3z (K6 (KU fl++KU fs++(ev.map B9++ew.map B9))) x y else none
def c5P (o:Option (List Ky)):CV:=.tup [.list ((o.getD []).map Ky.cv) (gnn (o.getD []).length) none,iv (if o.isSome then 0 else 1)]
theorem b7H {k:List Ky} {l:List Str} (h:J7 fl ev k=some l):l.length=k.length:=by rw [c4O h,O3]
theorem c7e {a b:List Ky} (h:∀ x,x∈a↔x∈b):K6 a=K6 b:=by
 rw [a1G,a1G];exact b9d (Z9 a).1 (Z9 b).1 fun x=>by rw [(Z9 a).2,(Z9 b).2,h]
theorem c8N (l:List Ky):(K6 l).length<=l.length:=by rw [a1G];exact b7Y l
theorem d4x (fl:List Fi) (nn:Bool) (ev:List Va) (en:Bool) (fs:List Fi) (ns:Bool) (ew:List Va) (ne:Bool) (q1:a2k fl) (q2:a2k fs) (dI:∀ v∈ev,v.n.length<=1000000000) (aF:∀ v∈ev,-9223372036854775808<=v.v/\v.v<=9223372036854775807) (eA:ev.length<=10000) (cy:∀ v∈ew,v.n.length<=1000000000) (aV:∀ v∈ew,-9223372036854775808<=v.v/\v.v<=9223372036854775807) (he2:ew.length<=10000):b8 CC 34 [.agg (r8 fl nn),.agg (G6 ev en),.agg (r8 fs ns),.agg (G6 ew ne)] [] fun r τ=>∃ _:Unit,a1q 0 τ r (.ret (c5P (b2t fl ev fs ew)))/\True:=by
 have hnil:([]:List Ky).length<=1000000000:=n_4 _;have hnk:∀ k∈([]:List Ky),k.a.length<=1000000000/\k.b.length<=1000000000:=fun k hk=>by simp at hk
 refine cO Tryz.func34 ?_;refine b2H ?_;refine cD (G8 rfl tt j3 j6 ?_);refine cD (G8 rfl tt j3 j6 ?_);refine cD (G8 rfl tt j3 j6 ?_);refine cY a2D ?_;refine cY a2D ?_;refine a6z ?_;refine cY U7 ?_;refine cY a0d ?_;refine yc rfl c2T a2u (a2A fl nn q1.pl ev en aF [] false hnil hnk _) ?_;refine b11 ?_;refine cY a1b ?_;refine z_3 ?_;refine a9e ?_;refine cC ?_ ?_<;>intro h1
 ·have ca:¬ (J7 fl ev []).isSome=true:=by intro u;simp [u] at h1
  refine z_4 ?_;refine cY a2D ?_;refine a1O ?_;exact ⟨_,r9 (rs:=[.tmp 8,.tmp 9]) (cs:=[_,_]) rfl R4 (n_5 rfl),(by rw [b2t,n_0 (fun u=>ca u.1),n_0 ca];exact ⟨(),.ret (.tups ⟨.old (N7 _ ([]:List Ky) _),.old (.val _),tt⟩),tt⟩)⟩
 ·have ca:(J7 fl ev []).isSome=true:=by
   cases hq:(J7 fl ev []).isSome with
   | true=>rfl
   | false=>simp [hq] at h1
  refine b5Q ?_;refine z_0 ?_;refine cY U7 ?_;refine cY a0d ?_;refine yc rfl c2T a2u (a2A fs ns q2.pl ew ne aV [] false hnil hnk _) ?_;refine b11 ?_;refine cY a1b ?_;refine z_3 ?_;refine a9e ?_;refine cC ?_ ?_<;>intro h2
  ·have cr:¬ (J7 fs ew []).isSome=true:=by intro u;simp [u] at h2
   refine z_4 ?_;refine cY a2D ?_;refine a1O ?_;exact ⟨_,r9 (rs:=[.tmp 8,.tmp 9]) (cs:=[_,_]) rfl R4 (n_5 rfl),(by rw [b2t,n_0 (fun u=>cr u.2),n_0 cr];exact ⟨(),.ret (.tups ⟨.old (N7 _ ([]:List Ky) _),.old (.val _),tt⟩),tt⟩)⟩
  ·have cr:(J7 fs ew []).isSome=true:=by
    cases hq:(J7 fs ew []).isSome with
    | true=>rfl
    | false=>simp [hq] at h2
   refine C9 ?_;have gP:∀ l1:List Ky,(∀ k,k∈l1↔k∈KU fl++KU fs)->∀ k,k∈l1++(ev.map B9++ew.map B9)↔k∈(KU fl++KU fs++(ev.map B9++ew.map B9)):=fun l1 h k=>by rw [L8,h,L8 (s:=KU fl++KU fs)]
   refine a69 hCC 4 rfl (α:=List Ky) (fun _=>[(4,.ptr 0 0),(5,.ptr 1 0),(6,.ptr 2 0),(7,.ptr 3 0),(14,.ptr 7 0)]) (fun l=>[.box (r8 fl nn),.box (G6 ev en),.box (r8 fs ns),.box (G6 ew ne),.dead,.dead,.dead,.box [.list ((K6 l).map Ky.cv) (gnn (K6 l).length) none]]) (fun l=>l.length<=100000/\∀ k,k∈l↔k∈(KU fl++KU fs++(ev.map B9++ew.map B9))) ?_ ?_
   ·refine c2M [0,0,3,0,0,31,63,127,0,511] [0,1,3,4] (f:=6) o7 o7 rfl ?_;refine chf rfl a4W ?_;refine chf rfl a4W ?_;refine chf rfl c3z ?_;refine chf rfl c3z ?_;refine D9 ?_;refine d1T (i:=2) (i':=8) o7 rfl rfl rfl rfl (c4 rfl Tryz.call77 C8 (b3H fl nn q1 fs ns q2 _) rfl ?_) (p8 rfl c1E rfl (.inl rfl) ?_)
    ·intro l1 ⟨bX,cP⟩;refine ⟨⟨ab_,ab_,fun _=>by exact c8 rfl a0d,fun _=>by exact c8 rfl a0d,tt⟩,?_⟩;refine d1T (i:=5) (i':=8) o7 rfl rfl rfl rfl (c4 rfl c8P C8 (a8H ev en om_ ew ne om_ _) rfl ?_) (p8 rfl c1E rfl (.inl rfl) ?_)
     ·intro _ _;have hll:(l1++(ev.map B9++ew.map B9)).length<=100000:=by rw [n_6,n_6,O3,O3];omega
      refine ⟨⟨ab_,ab_,ab_,ab_,tt⟩,?_⟩;refine d1T (i:=6) (i':=8) o7 rfl rfl rfl rfl (A7 rfl tt tt rfl si_ q_2 t_6 t_5 a5t Z1 rfl (.inr rfl) q_7 a6c C1 ((l1++(ev.map B9++ew.map B9)).map Ky.cv) (l1++(ev.map B9++ew.map B9)).length si_ si_ ?_) (p8 rfl c1E rfl (.inl rfl) ?_)
      ·refine ⟨⟨ab_,ab_,ab_,ab_,tt⟩,?_⟩;refine d1T (i:=7) (i':=8) o7 rfl rfl rfl rfl (d_y d6D ?_) (p8 rfl c1E rfl (.inl rfl) ?_)
       ·refine ⟨⟨ab_,ab_,ab_,ab_,tt⟩,?_⟩;refine a9D (i:=8) o7 rfl rfl (p8 rfl c1E rfl (.inl rfl) ?_);refine ⟨⟨fun _=>by exact c8 rfl U7,fun _=>by exact c8 rfl U7,fun _=>by exact c8 rfl a0d,fun _=>by exact c8 rfl a0d,tt⟩,?_⟩;exact d9x
       ·refine ⟨⟨fun _=>by exact c8 rfl U7,fun _=>by exact c8 rfl U7,fun _=>by exact c8 rfl a0d,fun _=>by exact c8 rfl a0d,tt⟩,?_⟩;refine e0P ?_;exact d9x
      ·refine ⟨⟨fun _=>by exact c8 rfl U7,fun _=>by exact c8 rfl U7,fun _=>by exact c8 rfl a0d,fun _=>by exact c8 rfl a0d,tt⟩,?_⟩;refine a9D (i:=6) o7 rfl rfl (A7 rfl tt tt rfl si_ q_2 t_6 t_5 a5t Z1 rfl (.inr rfl) q_7 a6c C1 ((l1++(ev.map B9++ew.map B9)).map Ky.cv) (l1++(ev.map B9++ew.map B9)).length si_ si_ ?_);refine d8H ?_;refine d3n ?_;exact ⟨by kernel_rfl,(l1++(ev.map B9++ew.map B9)),[0,1,2,3,4,5,7,6],⟨hll,gP l1 bX⟩,⟨rfl,rfl⟩,c2V,.inr ⟨_,rfl,.same rfl Q4⟩,.inr ⟨_,rfl,.same rfl a4m⟩,.inr ⟨_,rfl,.same rfl Q4⟩,.inr ⟨_,rfl,.same rfl a4m⟩,.inl rfl,.inl rfl,.inl rfl,.inr ⟨_,rfl,.same rfl b3B⟩,tt⟩
     ·refine ⟨⟨fun _=>by exact c8 rfl U7,fun _=>by exact c8 rfl U7,fun _=>by exact c8 rfl a0d,fun _=>by exact c8 rfl a0d,tt⟩,?_⟩;refine a9D (i:=5) o7 rfl rfl (c4 rfl c8P C8 (a8H ev en om_ ew ne om_ _) rfl ?_);intro _ _;have hll:(l1++(ev.map B9++ew.map B9)).length<=100000:=by rw [n_6,n_6,O3,O3];omega
      refine ⟨⟨ab_,ab_,ab_,ab_,tt⟩,?_⟩;refine a9D (i:=6) o7 rfl rfl (A7 rfl tt tt rfl si_ q_2 t_6 t_5 a5t Z1 rfl (.inr rfl) q_7 a6c C1 ((l1++(ev.map B9++ew.map B9)).map Ky.cv) (l1++(ev.map B9++ew.map B9)).length si_ si_ ?_);refine d8H ?_;refine d3n ?_;exact ⟨by kernel_rfl,(l1++(ev.map B9++ew.map B9)),[0,1,2,3,4,6,7,5],⟨hll,gP l1 bX⟩,⟨rfl,rfl⟩,c2V,.inr ⟨_,rfl,.same rfl Q4⟩,.inr ⟨_,rfl,.same rfl a4m⟩,.inr ⟨_,rfl,.same rfl Q4⟩,.inr ⟨_,rfl,.same rfl a4m⟩,.inl rfl,.inl rfl,.inl rfl,.inr ⟨_,rfl,.same rfl b3B⟩,tt⟩
    ·refine ⟨⟨fun _=>by exact c8 rfl U7,fun _=>by exact c8 rfl U7,fun _=>by exact c8 rfl a0d,fun _=>by exact c8 rfl a0d,tt⟩,?_⟩;refine a9D (i:=2) o7 rfl rfl (c4 rfl Tryz.call77 C8 (b3H fl nn q1 fs ns q2 _) rfl ?_);intro l1 ⟨bX,cP⟩;refine ⟨⟨ab_,ab_,fun _=>by exact c8 rfl a0d,fun _=>by exact c8 rfl a0d,tt⟩,?_⟩;refine a9D (i:=5) o7 rfl rfl (c4 rfl c8P C8 (a8H ev en om_ ew ne om_ _) rfl ?_);intro _ _;have hll:(l1++(ev.map B9++ew.map B9)).length<=100000:=by rw [n_6,n_6,O3,O3];omega
     refine ⟨⟨ab_,ab_,ab_,ab_,tt⟩,?_⟩;refine a9D (i:=6) o7 rfl rfl (A7 rfl tt tt rfl si_ q_2 t_6 t_5 a5t Z1 rfl (.inr rfl) q_7 a6c C1 ((l1++(ev.map B9++ew.map B9)).map Ky.cv) (l1++(ev.map B9++ew.map B9)).length si_ si_ ?_);refine d8H ?_;refine d3n ?_;exact ⟨by kernel_rfl,(l1++(ev.map B9++ew.map B9)),[0,1,2,3,5,6,7,4],⟨hll,gP l1 bX⟩,⟨rfl,rfl⟩,c2V,.inr ⟨_,rfl,.same rfl Q4⟩,.inr ⟨_,rfl,.same rfl a4m⟩,.inr ⟨_,rfl,.same rfl Q4⟩,.inr ⟨_,rfl,.same rfl a4m⟩,.inl rfl,.inl rfl,.inl rfl,.inr ⟨_,rfl,.same rfl b3B⟩,tt⟩
   intro l ⟨hll,gP⟩;have gC:K6 (KU fl++KU fs++(ev.map B9++ew.map B9))=K6 l:=c7e fun k=>(gP k).symm;have hLl:(K6 l).length<=100000:=b6u (c8N l) hll;have hLb:(K6 l).length<=1000000000:=by omega
   have hLk:∀ k∈K6 l,k.a.length<=1000000000/\k.b.length<=1000000000:=fun k hk=>by
    rw [a1G,(Z9 l).2,gP,L8,L8,L8] at hk
    rcases hk with (hk | hk) | hk | hk
    ·exact q1.ky k hk
    ·exact q2.ky k hk
    ·obtain ⟨v,hv,rfl⟩:=F4.1 hk;exact ⟨dI v hv,n_4 _⟩
    ·obtain ⟨v,hv,rfl⟩:=F4.1 hk;exact ⟨cy v hv,n_4 _⟩
   have hAS:b2t fl ev fs ew=(J7 fl ev (K6 l)).bind fun x=>(J7 fs ew (K6 l)).map fun y=>a3z (K6 l) x y:=by rw [b2t,n_1 ⟨ca,cr⟩,gC]
   refine z_0 ?_;refine cY U7 ?_;refine cY a0d ?_;refine cY b3M ?_;refine yc rfl c2T C8 (a2A fl nn q1.pl ev en aF (K6 l) (gnn (K6 l).length) hLb hLk _) ?_;refine b11 ?_;refine d6i ?_;refine b09 ?_;refine a9e ?_;refine cC ?_ ?_<;>intro h3
   ·have hx:J7 fl ev (K6 l)=none:=by
     cases hq:J7 fl ev (K6 l) with
     | none=>rfl
     | some _=>simp [hq] at h3
    refine z_4 ?_;refine cY a2D ?_;refine a1O ?_;exact ⟨_,r9 (rs:=[.tmp 8,.tmp 9]) (cs:=[_,_]) rfl R4 (n_5 rfl),(by rw [ hAS,hx];exact ⟨(),.ret (.tups ⟨.old (N7 _ ([]:List Ky) _),.old (.val _),tt⟩),tt⟩)⟩
   ·obtain ⟨x,hx⟩:∃ x,J7 fl ev (K6 l)=some x:=by
     cases hq:J7 fl ev (K6 l) with
     | none=>simp [hq] at h3
     | some x=>exact ⟨x,rfl⟩
    rw [hx];have hxl:=b7H hx;refine J1 [.box (r8 fl nn),.box (G6 ev en),.box (r8 fs ns),.box (G6 ew ne),.dead,.dead,.dead,.box [.list ((K6 l).map Ky.cv) (gnn (K6 l).length) none],.box [.list (x.map scv) (gnn x.length) none]] rfl ?_;refine b0B ?_;refine cY U7 ?_;refine cY a0d ?_;refine cY b3M ?_;refine yc rfl c2T C8 (a2A fs ns q2.pl ew ne aV (K6 l) (gnn (K6 l).length) hLb hLk _) ?_;refine b11 ?_;refine d6i ?_;refine b09 ?_;refine a9e ?_;refine cC ?_ ?_<;>intro h4
    ·have hy:J7 fs ew (K6 l)=none:=by
      cases hq:J7 fs ew (K6 l) with
      | none=>rfl
      | some _=>simp [hq] at h4
     refine z_4 ?_;refine cY a2D ?_;refine a1O ?_;exact ⟨_,r9 (rs:=[.tmp 8,.tmp 9]) (cs:=[_,_]) rfl R4 (n_5 rfl),(by rw [ hAS,hx,hy];exact ⟨(),.ret (.tups ⟨.old (N7 _ ([]:List Ky) _),.old (.val _),tt⟩),tt⟩)⟩
    ·obtain ⟨y,hy⟩:∃ y,J7 fs ew (K6 l)=some y:=by
      cases hq:J7 fs ew (K6 l) with
      | none=>simp [hq] at h4
      | some y=>exact ⟨y,rfl⟩
     rw [hy];have dU:=b7H hy;refine J1 [.box (r8 fl nn),.box (G6 ev en),.box (r8 fs ns),.box (G6 ew ne),.dead,.dead,.dead,.box [.list ((K6 l).map Ky.cv) (gnn (K6 l).length) none],.box [.list (x.map scv) (gnn x.length) none],.box [.list (y.map scv) (gnn y.length) none]] rfl ?_;refine b0B ?_;refine cD (p8 rfl c1E rfl (.inl rfl) ?_);refine a7y ?_;refine cY (a7Y rfl a2r) ?_;refine b09 ?_;refine z_0 ?_;refine cY b3M ?_;refine cY b0t ?_;refine a73 ?_;refine A6 hCC 11 rfl (α:=Nat × List Ky) (fun a=>[(18,.ptr 10 0),(19,(.clo 81 [.ptr 8 0,.ptr 9 0,.ptr 10 0,.ptr 7 0])),(69,(iv ((K6 l).length:Int))),(70,iv a.1)]) (fun a=>aSt fl nn ev en fs ns ew ne (K6 l) x y a.2 11++[o8 a.2.length]) (fun a=>a.1<=(K6 l).length/\a3z (K6 l) x y=a.2++a3z ((K6 l).drop a.1) (x.drop a.1) (y.drop a.1)/\a.2.length<=a.1) (fun a=>(K6 l).length - a.1) ⟨(0,[]),[0,1,2,3,4,5,6,7,8,9,10,99],⟨n_4 _,rfl,n_7 _⟩,⟨rfl,rfl⟩,ut_,uq_⟩ ?_;intro ⟨i,aw⟩ ⟨hi,hr,fJ⟩;dsimp only at hi hr fJ ⊢;refine a7j ?_;refine cC ?_ ?_<;>intro h5
     ·have ab:i < (K6 l).length:=sm_ h5;obtain ⟨k,hk⟩:∃ k,(K6 l)[i]? = some k:=⟨(K6 l)[i]'ab,si_⟩;obtain ⟨u,hu⟩:=gx_ x i;obtain ⟨v,hv⟩:=gx_ y i;rw [c0b hk hu hv] at hr;refine a4X ?_;refine z_4 ?_;refine z_3 ?_;refine b8A ?_;refine cD (S6 rfl tt rfl Tryz.call81 ⟨tt,tt⟩ (d8R fl nn ev en fs ns ew ne aw i hk hu hv om_) rfl ?_);intro g hg;rw [<- hg] at hr;cases g
      ·refine K3 (aSt fl nn ev en fs ns ew ne (K6 l) x y aw 11++[o8 aw.length]) rfl ?_;refine x9 ?_;refine a8v ?_;exact ⟨(i+1,aw),[0,1,2,3,4,5,6,7,8,9,10,11],⟨do_,do_,by dsimp only;exact hr,do_⟩,⟨rfl,rfl⟩,ut_,⟨.inr ⟨_,rfl,.same rfl Q4⟩,.inr ⟨_,rfl,.same rfl a4m⟩,.inr ⟨_,rfl,.same rfl Q4⟩,.inr ⟨_,rfl,.same rfl a4m⟩,.inl rfl,.inl rfl,.inl rfl,.inr ⟨_,rfl,.same rfl b3B⟩,.inr ⟨_,rfl,.same rfl (u0 ⟨A5 _ _ _,tt⟩)⟩,.inr ⟨_,rfl,.same rfl (u0 ⟨A5 _ _ _,tt⟩)⟩,.inr ⟨_,rfl,.box ⟨C7.grow (f:=Ky.cv) (fun _=>⟨.val _,.val _,.val _,tt⟩) rfl,tt⟩⟩,.inr ⟨_,rfl,.same rfl B8⟩,tt⟩⟩
      ·refine K3 (aSt fl nn ev en fs ns ew ne (K6 l) x y (aw++[k]) 12++[.dead,o8 (aw++[k]).length]) rfl ?_;refine x9 ?_;refine a8v ?_;exact ⟨(i+1,aw++[k]),[0,1,2,3,4,5,6,7,8,9,10,12],⟨do_,do_,by dsimp only;rw [hr,D7];rfl,by dsimp only;rw [n_6,b9T];omega⟩,⟨rfl,rfl⟩,ut_,⟨.inr ⟨_,rfl,.same rfl Q4⟩,.inr ⟨_,rfl,.same rfl a4m⟩,.inr ⟨_,rfl,.same rfl Q4⟩,.inr ⟨_,rfl,.same rfl a4m⟩,.inl rfl,.inl rfl,.inl rfl,.inr ⟨_,rfl,.same rfl b3B⟩,.inr ⟨_,rfl,.same rfl (u0 ⟨A5 _ _ _,tt⟩)⟩,.inr ⟨_,rfl,.same rfl (u0 ⟨A5 _ _ _,tt⟩)⟩,.inr ⟨_,rfl,.box ⟨C7.grow (f:=Ky.cv) (fun _=>⟨.val _,.val _,.val _,tt⟩) rfl,tt⟩⟩,.inr ⟨_,rfl,.same rfl B8⟩,tt⟩⟩
     ·have eO:i=(K6 l).length:=sm_ h5;rw [eO,b2n] at hr;replace hr:a3z (K6 l) x y=aw:=by rw [hr];simp [a3z]
      refine j4 ?_;refine z_0 ?_;refine cY b3M ?_;refine cY a1b ?_;refine b1x ?_;refine c6 ?_;exact ⟨_,r9 (rs:=[.tmp 8,.tmp 9]) (cs:=[_,_]) rfl R4 (n_5 rfl),(by rw [hAS,hx,n_9,hy,b6A,hr];exact ⟨(),.ret (.tups ⟨.tok (fun r hr c hc=>(C4 (f:=Ky.cv) (fun b=>O4.all (a4B b)) _) r hr c hc),.old (.val _),tt⟩),tt⟩)⟩
theorem a8U (o:Option (List Ky)):r4 (c5P o):=D4 (cs:=[_,_]) ⟨a00 _ _,.val _,tt⟩
theorem c7Q (fl:List Fi) (nn:Bool) (ev:List Va) (en:Bool) (fs:List Fi) (ns:Bool) (ew:List Va) (ne:Bool) (q1:a2k fl) (q2:a2k fs) (dI:∀ v∈ev,v.n.length<=1000000000) (aF:∀ v∈ev,-9223372036854775808<=v.v/\v.v<=9223372036854775807) (eA:ev.length<=10000) (cy:∀ v∈ew,v.n.length<=1000000000) (aV:∀ v∈ew,-9223372036854775808<=v.v/\v.v<=9223372036854775807) (he2:ew.length<=10000) (σ:List b9):b8 CC 34 [.agg (r8 fl nn),.agg (G6 ev en),.agg (r8 fs ns),.agg (G6 ew ne)] σ fun r τ=>r = .ret (c5P (b2t fl ev fs ew))/\τ=σ :=
 (H5 (res:=fun _:Unit=>.ret (c5P (b2t fl ev fs ew))) (P:=fun _=>True) hCC (fun a h=>by simp at h;rcases h with rfl | rfl | rfl | rfl;exact a0a _ _;exact a3k _ _;exact a0a _ _;exact a3k _ _) (d4x fl nn ev en fs ns ew ne q1 q2 dI aF eA cy aV he2) (fun _ _=>a8U _) σ).mono fun r τ ⟨_,h1,h2,_⟩=>⟨h1,h2⟩
noncomputable def chS (fl fs:List Fi):Option (List Ky):=b2t fl [] fs []
def pkF (l:List Ky):List Str:=(l.filter fun k=>k.k == 6).map Ky.a
theorem d1H (h:l[i]? = some y):pkF (l.drop i)=(if (y.k == 6)=true then [y.a] else [])++pkF (l.drop (i+1)):=by
 obtain ⟨h1,rfl⟩:=n_3.1 h;rw [R2 h1];unfold pkF;rw [a7V]
 split<;>rfl
def pkR (o:Option (List Ky)):CV:=.tup [.list ((pkF (o.getD [])).map scv) (gnn (pkF (o.getD [])).length) none,iv (if o.isSome then 0 else 1)]
theorem e0h:∀ v∈([]:List Va),v.n.length<=1000000000:=fun v h=>by simp at h
theorem d9B:∀ v∈([]:List Va),-9223372036854775808<=v.v/\v.v<=9223372036854775807:=fun v h=>by simp at h
theorem d2j (fl:List Fi) (nn:Bool) (fs:List Fi) (ns:Bool) (q1:a2k fl) (q2:a2k fs) (σ:List b9):b8 CC 34 [.agg (r8 fl nn),.agg (G6 [] false),.agg (r8 fs ns),.agg (G6 [] false)] σ fun r τ=>r = .ret (c5P (chS fl fs))/\τ=σ:=c7Q fl nn [] false fs ns [] false q1 q2 e0h d9B (n_4 _) e0h d9B (n_4 _) σ
theorem a4e (fl:List Fi) (nn:Bool) (fs:List Fi) (ns:Bool) (q1:a2k fl) (q2:a2k fs) (σ:List b9):b8 CC 38 [(.agg (r8 fl nn)),(.agg (r8 fs ns))] σ fun r Y=>r = .ret (c5P (chS fl fs))/\Y=σ:=by
 refine b8.anyw (args:=[_,_]) hCC ⟨a0a _ _,a0a _ _,tt⟩ (a8U _) ?_ σ;refine c7 (qO Tryz.func38 ?_);refine a9J ?_;refine qY e0F ?_;refine qY e0F ?_;refine qY (c5 rfl Tryz.call34 a2r (d2j fl nn fs ns q1 q2 _) rfl) ?_;refine c6 ?_;exact ⟨_,r9 (rs:=[.tmp 4,.tmp 5]) (cs:=[_,_]) rfl R4 (n_5 rfl),_,_,rfl,rfl,(.old (a8U _).old)⟩
theorem b4I (fl:List Fi) (nn:Bool) (fs:List Fi) (ns:Bool) (q1:a2k fl) (q2:a2k fs) (bZ:∀ l,chS fl fs=some l->l.length<=1000000):b8 CC 45 [.agg (r8 fl nn),.agg (r8 fs ns)] [] fun r τ=>∃ _:Unit,a1q 0 τ r (.ret (pkR (chS fl fs)))/\True:=by
 refine qO Tryz.func45 ?_;refine a9J ?_;refine qY (c5 rfl c6y j1 (a4e fl nn fs ns q1 q2 _) rfl) ?_;refine cC ?_ ?_<;>intro h1
 ·have hc:chS fl fs=none:=by
   cases hq:chS fl fs with
   | none=>rfl
   | some _=>simp [hq] at h1
  refine qk ?_;refine c6 ?_;exact ⟨_,r9 (rs:=[.tmp 4,.tmp 5]) (cs:=[_,_]) rfl R4 (n_5 rfl),(by rw [hc];exact ⟨(),.ret (.tups ⟨.old (A5 _ ([]:List Str) _),.old (.val _),tt⟩),tt⟩)⟩
 ·obtain ⟨l,hc⟩:∃ l,chS fl fs=some l:=by
   cases hq:chS fl fs with
   | none=>simp [hq] at h1
   | some l=>exact ⟨l,rfl⟩
  have hll:=bZ l hc;rw [hc];refine qk (qY b0t ?_);refine A6 hCC 2 rfl (α:=Nat × List Str) (fun a=>[(8,(.list (a.2.map scv) (gnn a.2.length) (C2 a.2.length 2))),(20,(.list (l.map Ky.cv) (gnn l.length) none)),(21,iv l.length),(22,iv a.1)]) (fun a=>[.box (r8 fl nn),.box (r8 fs ns),o8 a.2.length]) (fun a=>a.1<=l.length/\pkF l=a.2++pkF (l.drop a.1)/\a.2.length<=a.1) (fun a=>l.length - a.1) ⟨(0,[]),[0,1,99],⟨n_4 _,rfl,n_7 _⟩,⟨rfl,rfl⟩,ut_,uq_⟩ ?_;intro ⟨i,aw⟩ ⟨hi,hr,fJ⟩;dsimp only at hi hr fJ ⊢;refine qk (qC ?_ ?_)<;> intro h2
  ·have ab:i < l.length:=sm_ h2;obtain ⟨y,hb⟩:∃ y,l[i]? = some y:=⟨l[i]'ab,si_⟩;rw [d1H hb] at hr;refine d5C ?_;refine qC ?_ ?_<;>intro h3
   ·rw [n_1 (sp_ h3)] at hr;refine qY (A8 [scv y.a] rfl ⟨tt,tt⟩ t_2 t_0 t_3 rfl rfl rfl rfl rfl rfl rfl rfl rfl) ?_;refine qD (A7 rfl tt tt rfl si_ q_2 t_2 t_0 a32 t_3 rfl (.inr rfl) q_7 a3Z C1 ((aw++[y.a]).map scv) (aw++[y.a]).length (by rw [a6H];rfl) si_ ?_);refine qY l9 ?_;exact ⟨(i+1,aw++[y.a]),[0,1,4],⟨do_,do_,by dsimp only;rw [hr,D7],by dsimp only;rw [n_6,b9T];omega⟩,⟨rfl,rfl⟩,ut_,uq_⟩
   ·rw [n_0 (sp_ h3),a2e] at hr;refine qY l9 ?_;exact ⟨(i+1,aw),[0,1,2],⟨do_,do_,hr,do_⟩,⟨rfl,rfl⟩,ut_,uq_⟩
  ·have eO:i=l.length:=sm_ h2;rw [eO,b2n] at hr;replace hr:pkF l=aw:=by rw [hr];simp [pkF]
   refine z_9 ?_;exact ⟨_,r9 (rs:=[.tmp 4,.tmp 5]) (cs:=[_,_]) rfl R4 (n_5 rfl),(by exact ⟨(),.ret (.tups ⟨(show Cls _ _ _ (.list ((pkF l).map scv) (gnn (pkF l).length) none) from hr ▸ .tok (fun r hr c hc=>(C4 (f:=scv) (fun _=>O4.all ⟨.val _,tt⟩) _) r hr c hc)),.old (.val _),tt⟩),tt⟩)⟩
theorem d0W (o:Option (List Ky)):r4 (pkR o):=D4 (cs:=[_,_]) ⟨F5 _ _,.val _,tt⟩
theorem b9o (fl:List Fi) (nn:Bool) (fs:List Fi) (ns:Bool) (q1:a2k fl) (q2:a2k fs) (bZ:∀ l,chS fl fs=some l->l.length<=1000000) (σ:List b9):b8 CC 45 [.agg (r8 fl nn),.agg (r8 fs ns)] σ fun r τ=>r = .ret (pkR (chS fl fs))/\τ=σ :=
 (H5 (res:=fun _:Unit=>.ret (pkR (chS fl fs))) (P:=fun _=>True) hCC (fun a h=>by simp at h;rcases h with rfl | rfl;exact a0a _ _;exact a0a _ _) (b4I fl nn fs ns q1 q2 bZ) (fun _ _=>d0W _) σ).mono fun r τ ⟨_,h1,h2,_⟩=>⟨h1,h2⟩
theorem b2e {α β:Type} [DecidableEq α] {a:α} {c:β} {x:α × β}:∀ {l:List (α × β)},x∈U4 l a c->x=(a,c)\/x∈l
 | [],h=>.inl (by simpa [U4] using h)
 | (b,d)::l,h=>by
  rw [U4] at h;split at h
  ·rename_i cX;subst cX
   rcases J5.1 h with h | h
   ·exact .inl h
   ·exact .inr (a8g _ h)
  ·rcases J5.1 h with h | h
   ·exact .inr (h ▸ b1X)
   ·exact (b2e h).imp id (a8g _)
theorem b0H {α β:Type} [DecidableEq α] {a:α} {c:β}:∀ {l:List (α × β)},(U4 l a c).length<=l.length+1
 | []=>n_7 _
 | (b,d)::l=>by
  rw [U4]
  split
  ·simp
  ·have:=b0H (a:=a) (c:=c) (l:=l);simp only [C5];omega
theorem b4G [DecidableEq α] {l:List (α × β)} {a:α} {c:β} (h:glk l a=some c):(a,c)∈l:=by
 obtain ⟨i,hi,_⟩:=a8e h;exact n_2 hi
structure EnV (q:Nm) (e:En):Prop where
 key:q=F3 e.k e.p e.o
 kind:e.k=1\/e.k=2\/e.k=3
 pkg:C3 e.p=true
 own:e.k≠3->C3 e.o=true
 pth:e.k=3->H3 e.o=true
theorem d8A {me:EM} {x:En} (hx:EnV (F3 x.k x.p x.o) x) (h:∀ y∈me,EnV y.1 y.2):∀ y∈a2I me x,EnV y.1 y.2:=fun y hy=>by
 unfold a2I at hy
 rcases b2e hy with rfl | hy
 ·dsimp only
  split
  ·rename_i f hf;have:=h _ (b4G hf);exact ⟨this.key,this.kind,this.pkg,this.own,this.pth⟩
  ·exact hx
 ·exact h y hy
theorem c4e {path pkg:Str} (hp:C3 pkg=true):∀ (l:List De) (k:Nat) (me:EM),(∀ d∈l,DeG d)->(∀ y∈me,EnV y.1 y.2)->(∀ y∈addDs me path pkg l k,EnV y.1 y.2)/\(addDs me path pkg l k).length<=me.length+l.length
 | [],k,me,_,h=>⟨h,n_7 _⟩
 | d::l,k,me,hd,h=>by
  have hg:=hd d b1X;obtain ⟨h1,h2⟩:=c4e hp l (k+1) (a2I me ⟨pkg,d.name,d.k,path,k,1⟩) (fun e he=>hd e (a8g _ he)) (d8A ⟨rfl,hg.kind,hp,fun h3=>(hg.name h3).1,hg.path⟩ h);refine ⟨h1,b6u h2 ?_⟩;have h3:(a2I me ⟨pkg,d.name,d.k,path,k,1⟩).length<=me.length+1:=b0H;rw [C5];omega
structure WV (n:Nat) (s:WS):Prop where
 src:∀ x∈s.2.1,a2b x.2
 ent:∀ x∈s.2.2,EnV x.1 x.2
 sl:s.2.1.length<=n
 el:s.2.2.length<=64*n
theorem WV.step {n:Nat} {s:WS} (h:WV n s) (f:Fi):WV (n+1) (a0K s f):=by
 unfold a0K;have eH:=h.el;have dQ:=h.sl
 split
 ·cases hp:Q0 f.b with
  | none=>exact ⟨h.src,h.ent,Nat.le_succ_of_le dQ,do_⟩
  | some x =>
   have hx:=a8Y hp;obtain ⟨h1,h2⟩:=c4e (path:=f.p) hx.pkg.1 x.decls 0 s.2.2 hx.dec h.ent;have hd:=hx.decl;have:=b0H (a:=f.p) (c:=x) (l:=s.2.1);refine ⟨fun y hy=>?_,h1,do_,do_⟩
   rcases b2e hy with rfl | hy
   ·exact hx
   ·exact h.src y hy
 ·exact ⟨h.src,h.ent,Nat.le_succ_of_le dQ,om_⟩
theorem d1x:∀ {l:List Fi} {n:Nat} {s:WS},WV n s->WV (n+l.length) (a8F l s)
 | [],n,s,h=>h
 | f::l,n,s,h=>by
  have:=d1x (l:=l) (h.step f);rw [show n+1+l.length=n+(f::l).length by simp;omega] at this;exact this
theorem b4H (fl:List Fi):WV fl.length (A2 fl):=by
 unfold A2
 split
 ·simpa using d1x (l:=fl) (n:=0) (s:=([],[],[])) ⟨fun x h=>by simp at h,fun x h=>by simp at h,n_7 _,n_7 _⟩
 ·exact ⟨fun x h=>by simp at h,fun x h=>by simp at h,n_4 _,n_4 _⟩
theorem d3P {q:Nm} {e:En} (h:EnV q e):O2 (a4K e)=true:=by
 unfold a4K
 rcases h.kind with hk | hk | hk
 ·rw [n_1 hk];simp [O2,h.pkg,h.own om_]
 ·rw [n_0 om_,n_1 hk];simp [O2,h.pkg,h.own om_]
 ·rw [n_0 om_,n_0 om_];simp [O2,h.pth hk]
theorem d2I (h:a2b x):∀ k∈b7C x,O2 k=true:=fun k hk=>by
 obtain ⟨s,hs,hk⟩:=b1L.1 hk;have hn:C3 s=true:=by
  rcases J5.1 hs with rfl | hs
  ·exact h.pkg.1
  ·exact (h.imp s hs).1
 simp only [a4u,J5,a7v,or_false] at hk
 rcases hk with rfl | rfl<;>simp [O2,hn]
theorem d0s (h:B4 fl=0):∀ k∈KU fl,O2 k=true:=fun k hk=>by
 obtain ⟨h1,h2⟩:=a1a h;have hv:=b4H fl;unfold KU at hk
 rcases L8.1 hk with hk | hk
 ·rcases L8.1 hk with hk | hk
  ·obtain ⟨f,hf,rfl⟩:=F4.1 hk;simp [W7,O2,(h2 f hf).1]
  ·obtain ⟨e,he,rfl⟩:=F4.1 hk;obtain ⟨x,hx,rfl⟩:=F4.1 he;exact d3P (hv.ent x hx)
 ·obtain ⟨x,hx,hk⟩:=b1L.1 hk;obtain ⟨y,hy,rfl⟩:=F4.1 hx;exact d2I (hv.src y hy) k hk
theorem c8k (h:O2 k=true):k.a.length<=100/\k.b.length<=100:=by
 obtain ⟨h1,h2⟩:=b0r h;refine ⟨h2,?_⟩;unfold O2 at h;split at h
 ·have:=B7 (a9F.1 h).2;omega
 ·split at h
  ·have:=a8y (a9F.1 h).2;rw [this];exact n_4 _
  ·split at h
   ·have:=a8y (a9F.1 h).2;rw [this];exact n_4 _
   ·cases h
theorem d7s (h:O2 k=true) (h1:k.k≠1) (h2:k.k≠2):k.b=[]:=by
 unfold O2 at h;rw [n_0 (by simp [h1,h2])] at h;split at h
 ·exact a8y (a9F.1 h).2
 ·split at h
  ·exact a8y (a9F.1 h).2
  ·cases h
theorem a2k.of (h:B4 fl=0):a2k fl:=by
 obtain ⟨h1,h2⟩:=a1a h;have hv:=b4H fl;have h3:=hv.el;have h4:=hv.sl;exact ⟨fun f hf=>by have:=L1 (h2 f hf).1;omega,h1,om_,om_,fun x hx=>(hv.src x hx).impl,fun k hk=>by have:=c8k (d0s h k hk);omega⟩
def d9K (k:Ky):Str:=if k.k=6 then [61] else if k.k=7 then [61]++H0 (H0 [] k.a) [61] else [45]
noncomputable def a44 (fl:List Fi) (ev:List Va) (k:Ky):Str:=R1 fl (A2 fl).2.1 (A2 fl).2.2 ev k
theorem b0F {a:Str} (h:(⟨6,a,[]⟩:Ky)∉KU fl):B5 (A2 fl).2.1 fl a=[]:=by
 unfold B5;rw [c4g];intro f hf hh;rw [a9F] at hh;cases hg:glk (A2 fl).2.1 f.p with
 | none=>rw [hg] at hh;cases hh.1
 | some x =>
  rw [hg] at hh;have hx:x.pkg=a:=a8y hh.2;refine h (b6E _ (b1L.2 ⟨x,F4.2 ⟨_,b4G hg,rfl⟩,b1L.2 ⟨x.pkg,b1X,?_⟩⟩));rw [hx];simp [a4u]
theorem b15 {k:Int} (hk:k=1\/k=2\/k=3) (h:(if k=3 then (⟨3,o,[]⟩:Ky) else ⟨k,p,o⟩)∉KU fl):glk (A2 fl).2.2 (F3 k p o)=none:=by
 cases hg:glk (A2 fl).2.2 (F3 k p o) with
 | none=>rfl
 | some e =>
  have hv:=(b4H fl).ent _ (b4G hg);have hq:=hv.key;dsimp only at hq;simp only [F3,Nm.mk.injEq] at hq;obtain ⟨q1,q2,q3⟩:=hq;exfalso;refine h (a9O _ (b6E _ (F4.2 ⟨e,F4.2 ⟨_,b4G hg,rfl⟩,?_⟩)));unfold a4K
  rcases hk with hk | hk | hk<;>subst hk
  ·rw [n_1 q1.symm,n_0 de_];rw [n_0 de_,n_0 om_] at q2;rw [<- q2,<- q3]
  ·rw [n_0 om_,n_1 q1.symm,n_0 de_];rw [n_0 de_,n_0 om_] at q2;rw [<- q2,<- q3]
  ·rw [n_0 om_,n_0 om_,n_1 rfl,<- q3]
theorem b0Y {n:Int} (h:k.k=n) (hb:k.b=[]):(⟨n,k.a,[]⟩:Ky)=k:=by
 obtain ⟨a,b,c⟩:=k;simp only at h hb;subst h hb;rfl
theorem c2b (hk:O2 k=true) (hn:k∉KU fl) (hv:k∉ev.map B9):a44 fl ev k=d9K k:=by
 have iL:∀ {n:Int} {p o:Str},glk (A2 fl).2.2 (F3 n p o)=none->a0J (A2 fl).2.1 (a0g true (A2 fl).2.2 n p o)=[45]:=fun h=>by rw [a0J,n_1 (b3G h)]
 have hb:=d7s hk;unfold a44 R1 d9K
 rcases (b0r hk).1 with h | h | h | h | h | h | h
 ·rw [h];refine iL (b15 (.inl rfl) fun hm=>hn ?_);rw [n_0 de_,<- h] at hm;exact hm
 ·rw [h];refine iL (b15 (.inr (.inl rfl)) fun hm=>hn ?_);rw [n_0 de_,<- h] at hm;exact hm
 ·rw [h];refine iL (b15 (.inr (.inr rfl)) fun hm=>hn ?_);rw [n_1 rfl,b0Y h (hb om_ om_)] at hm;exact hm
 ·rw [h];show (if (C0 fl k.a).isSome then [61]++(C0 fl k.a).getD [] else [45])=[45];have:C0 fl k.a=none:=by
   unfold C0;rw [a87,b9X];intro f hf hh;refine hn (a9O _ (a9O _ (F4.2 ⟨f,hf,?_⟩)));rw [W7,a8y hh,b0Y h (hb om_ om_)]
  rw [this];rfl
 ·rw [h];show (if (a0k ev k.a).isSome then [61]++Lib.itoa ((a0k ev k.a).getD 0) else [45])=[45];have:a0k ev k.a=none:=by
   unfold a0k;rw [a87,b9X];intro v hf hh;refine hv (F4.2 ⟨v,hf,?_⟩);rw [B9,a8y hh,b0Y h (hb om_ om_)]
  rw [this];rfl
 ·rw [h];show P7 (A2 fl).2.1 fl k.a=[61];rw [P7,b0F (by rw [b0Y h (hb om_ om_)];exact hn)];rfl
 ·have h6:(⟨6,k.a,[]⟩:Ky)∉KU fl:=fun hm=>by
   refine hn ?_;unfold KU at hm ⊢
   rcases L8.1 hm with hm | hm
   ·rcases L8.1 hm with hm | hm
    ·obtain ⟨f,_,hf⟩:=F4.1 hm;simp [W7] at hf
    ·obtain ⟨e,_,he⟩:=F4.1 hm;unfold a4K at he;split at he
     ·simp at he
     ·split at he<;>simp at he
   ·obtain ⟨x,hx,hm⟩:=b1L.1 hm;obtain ⟨s,hs,hm⟩:=b1L.1 hm;have hsa:s=k.a:=by simp [a4u] at hm;exact hm.symm
    refine b6E _ (b1L.2 ⟨x,hx,b1L.2 ⟨s,hs,?_⟩⟩);rw [<- b0Y h (hb om_ om_),hsa];simp [a4u]
  have hf:=b0F h6;have hr:∀ n,n∈[k.a]↔Reach (A2 fl).2.1 fl k.a n:=fun n=>by
   rw [a9H];constructor
   ·rintro rfl;exact .base
   ·intro hr
    induction hr with
    | base=>rfl
    | step _ hff _ ih=>subst ih;rw [hf] at hff;cases hff
  rw [h];show a6m (A2 fl).2.1 fl k.a=[61]++H0 (H0 [] k.a) [61];rw [a6m,a5L si_ hr];have:a0o [k.a]=[k.a]:=by simp [a0o]
  rw [this];show [61]++H0 (H0 [] k.a) (P7 (A2 fl).2.1 fl k.a)=_;rw [P7,hf];rfl
theorem a7D (f g:Ky->Str):∀ l:List Ky,a3z l (l.map f) (l.map g)=l.filter fun k=>decide (f k≠g k)
 | []=>rfl
 | k::l=>by
  rw [b2C,b2C,a3z,a7V,a7D f g l];by_cases h:f k=g k
  ·rw [n_1 h,n_0 (by simp [h])]
  ·rw [n_0 h,n_1 (by simp [h])]
noncomputable def chL (fl:List Fi) (ev:List Va) (fs:List Fi) (ew:List Va):List Ky:=(b5i (KU fl++KU fs++(ev.map B9++ew.map B9))).filter fun k=>decide (a44 fl ev k≠a44 fs ew k)
theorem b6g:∀ {l:List Va} {pv:Option Va},evB pv l=true->∀ v∈l,C3 v.n=true
 | [],_,_,v,hv=>by cases hv
 | w::l,pv,h,v,hv=>by
  rw [evB,a9F] at h
  rcases J5.1 hv with rfl | hv
  ·have:=h.1;unfold Z6 at this;simp only [U6] at this;exact this.1.1
  ·exact b6g h.2 v hv
theorem c5g (h:X9 ev=true):∀ v∈ev,C3 v.n=true:=b6g (a9F.1 h).2
theorem c3m (h:X9 ev=true):∀ k∈ev.map B9,O2 k=true:=fun k hk=>by
 obtain ⟨v,hv,rfl⟩:=F4.1 hk;have:=c5g h v hv;simp [B9,O2,this]
theorem c7R (h1:B4 fl=0) (h2:B4 fs=0) (h3:X9 ev=true) (h4:X9 ew=true):∀ k∈b5i (KU fl++KU fs++(ev.map B9++ew.map B9)),O2 k=true:=fun k hk=>by
 rw [(Z9 _).2] at hk;simp only [L8] at hk
 rcases hk with (hk | hk) | hk | hk
 ·exact d0s h1 k hk
 ·exact d0s h2 k hk
 ·exact c3m h3 k hk
 ·exact c3m h4 k hk
theorem a8r (h1:B4 fl=0) (h2:B4 fs=0) (h3:X9 ev=true) (h4:X9 ew=true):b2t fl ev fs ew=some (chL fl ev fs ew):=by
 have hu:=c7R h1 h2 h3 h4;have c1:∀ l,(∀ k∈l,O2 k=true)->J7 fl ev l=some (l.map (a44 fl ev)):=fun l hl=>by rw [J7,n_1 ⟨h1,h3,a5D.2 hl⟩];rfl
 have c2:∀ l,(∀ k∈l,O2 k=true)->J7 fs ew l=some (l.map (a44 fs ew)):=fun l hl=>by rw [J7,n_1 ⟨h2,h4,a5D.2 hl⟩];rfl
 rw [<- a1G] at hu;rw [b2t,c1 [] si_,c2 [] si_,n_1 ⟨rfl,rfl⟩,c1 _ hu,c2 _ hu,n_9,b6A,a7D,chL,a1G]
theorem d3K (h1:B4 fl=0) (h2:B4 fs=0) (h3:X9 ev=true) (h4:X9 ew=true) (k:Ky):k∈chL fl ev fs ew↔O2 k=true/\a44 fl ev k≠a44 fs ew k:=by
 rw [chL,b2N,a1v];constructor
 ·rintro ⟨hm,hd⟩;exact ⟨c7R h1 h2 h3 h4 k hm,hd⟩
 ·rintro ⟨hk,hd⟩;refine ⟨?_,hd⟩;rw [(Z9 _).2];by_cases hm:k∈KU fl++KU fs++(ev.map B9++ew.map B9)
  ·exact hm
  ·simp only [L8,not_or] at hm;exact absurd ((c2b hk hm.1.1 hm.2.1).trans (c2b hk hm.1.2 hm.2.2).symm) hd
theorem d4G (h1:fl.length<=64) (h2:fs.length<=64) (h3:ev.length<=1000) (h4:ew.length<=1000):(chL fl ev fs ew).length<=100000:=by
 have ku:∀ l:List Fi,l.length<=64->(KU l).length<=10000:=fun l hl=>by
  have hv:=b4H l;have e1:=hv.el;have e2:=hv.sl;have e3:∀ ss:List Src,(∀ x∈ss,x.imports.length<=8)->(ss.flatMap b7C).length<=18*ss.length:=fun ss=>by
   induction ss with
   | nil=>intro _;exact n_7 _
   | cons x ss ih =>
    intro hs;have:=ih fun y hy=>hs y (a8g _ hy);have hx:=hs x b1X;have e4:∀ t:List Str,(t.flatMap a4u).length=2*t.length:=fun t=>by
     induction t with
     | nil=>rfl
     | cons y t ih=>rw [a9R,n_6,ih];simp [a4u];omega
    rw [a9R,n_6,C5,b7C,e4,C5];omega
  have e5:=e3 ((A2 l).2.1.map Prod.snd) fun x hx=>by
   obtain ⟨y,hy,rfl⟩:=F4.1 hx;exact (hv.src y hy).impl
  unfold KU;rw [n_6,n_6,O3,O3,O3];rw [O3] at e5;omega
 have h5:=ku fl h1;have h6:=ku fs h2;have h7:=b7Y (KU fl++KU fs++(ev.map B9++ew.map B9));simp only [n_6,O3] at h7;have h8:(chL fl ev fs ew).length<=_:=List.length_filter_le _ _;omega
def X8 (c:UInt8):List Fi:=[⟨[97,46,115,114,99],[112,97,99,107,97,103,101,32,112,59,32,102,117,110,99,32,102,40,41,32,61,32]++[c]++[59]⟩]
theorem b3X {n:Int} {c:UInt8} (h0:B4 (X8 c)=0) (hg:glk (A2 (X8 c)).2.1 [97,46,115,114,99]=some ⟨[112],[],[⟨1,[102],[],[⟨1,n,0,[],[]⟩]⟩]⟩) (hx:a0g true (A2 (X8 c)).2.2 1 [112] [102]=⟨[112],[102],1,[97,46,115,114,99],0,1⟩):a44 (X8 c) [] ⟨1,[112],[102]⟩=[61]++a1l ⟨[112],[],[⟨1,[102],[],[⟨1,n,0,[],[]⟩]⟩]⟩ ⟨1,[102],[],[⟨1,n,0,[],[]⟩]⟩/\V6 ⟨1,[102],[],[⟨1,n,0,[],[]⟩]⟩=(Tr.n 1 n 0 [] []).txt [] 0:=by
 have bh:=c2E h0;have hd:=(bh.src _ _ hg).dec _ b1X;refine ⟨?_,c8C hd rfl⟩;unfold a44 R1;rw [n_1 rfl,hx];show a0J _ _=_;unfold a0J;rw [n_0 de_,n_1 rfl];unfold b7j;rw [hg];rfl
theorem c5W:a44 (X8 49) [] ⟨1,[112],[102]⟩≠a44 (X8 50) [] ⟨1,[112],[102]⟩:=by
 obtain ⟨h1,h2⟩:=b3X (n:=1) (c:=49) o7 o7 o7;obtain ⟨h3,h4⟩:=b3X (n:=2) (c:=50) o7 o7 o7;have e1:(Tr.n 1 1 0 [] []).txt [] 0=[49]:=by kernel_rfl
 have e2:(Tr.n 1 2 0 [] []).txt [] 0=[50]:=by kernel_rfl
 rw [h1,h3];unfold a1l;rw [h2,h4,e1,e2];intro h;exact absurd h (by decide +kernel)
def L16:List Ky:=[⟨1,[112],[102]⟩,⟨4,[97,46,115,114,99],[]⟩,⟨6,[112],[]⟩,⟨7,[112],[]⟩]
theorem d7n:b5i (KU (X8 49)++KU (X8 50)++(([]:List Va).map B9++([]:List Va).map B9))=L16:=by kernel_rfl
theorem b1O:decide (a44 (X8 49) [] ⟨6,[112],[]⟩=a44 (X8 50) [] ⟨6,[112],[]⟩)=false:=by kernel_rfl
theorem c42:decide (a44 (X8 49) [] ⟨4,[97,46,115,114,99],[]⟩=a44 (X8 50) [] ⟨4,[97,46,115,114,99],[]⟩)=false:=by kernel_rfl
theorem b43:chS (X8 49) (X8 50)=some L16:=by
 rw [chS,a8r o7 o7 rfl rfl,chL,d7n]
 congr 1
 refine c4h.2 fun k hk=>a2a ?_;simp only [L16,J5,a7v,or_false] at hk
 rcases hk with rfl | rfl | rfl | rfl
 ·exact c5W
 ·exact a9k c42
 ·exact a9k b1O
 ·exact fun h=>a9k b1O (b8b h)
theorem d4M:chS (X8 49) (X8 49)=some []:=by
 rw [chS,a8r o7 o7 rfl rfl,chL]
 congr 1
 refine c4g.2 fun k _=>by simp
theorem a5U (c:UInt8) (h:B4 (X8 c)=0):a2k (X8 c):=a2k.of h
theorem d3J (σ:List b9):b8 CC 38 [.agg (r8 (X8 49) true),.agg (r8 (X8 50) true)] σ fun r τ=>r = .ret (.tup [.list (L16.map Ky.cv) true none,iv 0])/\τ=σ:=by
 have h:=a4e (X8 49) true (X8 50) true (a5U 49 o7) (a5U 50 o7) σ;rw [b43] at h;exact h
theorem d4p (σ:List b9):b8 CC 45 [.agg (r8 (X8 49) true),.agg (r8 (X8 50) true)] σ fun r τ=>r = .ret (.tup [.list ([([112]:Str)].map scv) true none,iv 0])/\τ=σ:=by
 have h:=b9o (X8 49) true (X8 50) true (a5U 49 o7) (a5U 50 o7) (fun l hl=>by rw [b43] at hl;injection hl with hl;subst hl;decide) σ;rw [b43] at h;exact h
theorem d4F (σ:List b9):b8 CC 38 [.agg (r8 (X8 49) true),.agg (r8 (X8 49) true)] σ fun r τ=>r = .ret (.tup [.list (([]:List Ky).map Ky.cv) false none,iv 0])/\τ=σ:=by
 have h:=a4e (X8 49) true (X8 49) true (a5U 49 o7) (a5U 49 o7) σ;rw [d4M] at h;exact h
theorem c1f  (σ:List b9):b8 CC 37 [] σ fun r Y=>r = .ret (.val (.bool true))/\Y=σ:=by
 refine b8.anyw hCC pu_ pu_ (c7 (qO Tryz.func37 ?_)) σ;refine qY d9R ?_;refine qY (A8 ((X8 49).map Fi.cv) rfl ⟨tt,tt⟩ a7m a4a a6h rfl rfl rfl rfl rfl rfl rfl rfl rfl) ?_;refine qY e0O ?_;refine d1p ?_;refine qY d9R ?_;refine qY (A8 ((X8 50).map Fi.cv) rfl ⟨tt,tt⟩ a7m a4a a6h rfl rfl rfl rfl rfl rfl rfl rfl rfl) ?_;refine qY e0O ?_;refine d1p ?_;refine qY (c5 rfl c6y j1 (by exact d3J _) rfl) ?_;refine qY (c5 rfl Tryz.call45 j1 (by exact d4p _) rfl) ?_;refine qY (c5 rfl c6y j1 (by exact d4F _) rfl) ?_;refine qG D6 ?_;refine a82 ?_;refine a82 ?_;refine qG (fun hg=>a0f rfl hg rfl t_6 a7N rfl) ?_;refine a82 ?_;refine qG (fun hg=>p9 rfl hg rfl rfl rfl t_6 t_5 a7h (i8 (f:=Ky.cv) (show L16[0]? = some ⟨1,[112],[102]⟩ from rfl)) rfl) ?_;refine qG (fun hg=>W6 rfl hg rfl b1F t_5 (nb rfl)) ?_;refine qG (fun hg=>B3 #[(0,1),(1,1),(2,1)] rfl ⟨rfl,rfl,rfl,tt⟩ c0N Z1 rfl ⟨_,rfl⟩ (fun w=>by kernel_rfl) rfl rfl) ?_;refine qG (fun hg=>b6H rfl hg hg (xs:=[.int .i64 1,.string (str [112]),.string (str [102])]) (ys:=[.int .i64 1,.string (str [112]),.string (str [102])]) rfl rfl c96 (b68 ⟨1,[112],[102]⟩ ⟨1,[112],[102]⟩)) ?_;refine qY M7 ?_;refine qG D6 ?_;refine qG (fun hg=>a0f rfl hg rfl t_2 a7N rfl) ?_;refine a82 ?_;refine qG (fun hg=>p9 rfl hg rfl rfl rfl t_2 t_0 a7h (i8 (f:=scv) (show ([[112]]:List Str)[0]? = some [112] from rfl)) rfl) ?_;refine qG d6X ?_;refine d2U ?_;refine qG D6 ?_;refine qG (fun hg=>a0f rfl hg rfl t_6 a7N rfl) ?_;refine a3G ?_;refine c6 ?_;exact ⟨_,rE1,_,_,rfl,rfl,j8 (by rfl)⟩
theorem c2j (fl fs:List Fi):r4 (.tup [.agg (r8 fl (gnn fl.length)),.agg (r8 fs (gnn fs.length))]):=D4 (cs:=[_,_]) ⟨S3 _ _,S3 _ _,tt⟩
theorem d4o (l:List Int) (nn:Bool) (k:Nat) (aS:k<=400000000) (hl:l.length<=maxLen):b8 CC 32 [.ptr 0 0] [r5 l nn k] fun r τ=>∃ a:(List Fi × List Fi) × Nat,E8 1 τ r (.ret (.tup [.agg (r8 a.1.1 (gnn a.1.1.length)),.agg (r8 a.1.2 (gnn a.1.2.length))])) [r5 l nn a.2]/\(N0 6300 a.1.1/\N0 10020 a.1.2/\k<=a.2/\a.2<=k+8000):=by
 refine qO Tryz.func32 ?_;refine d2l ?_;refine qD (c4 rfl Tryz.call27 ⟨tt,tt⟩ (b6n l nn k om_ hl _ 0 rfl) rfl ?_);intro ⟨fl,p⟩ ⟨hm,fh,cu⟩;dsimp only at hm fh cu ⊢;refine d1p ?_;refine d1p ?_;refine qD (c4 rfl a61 o6 (J6 l nn p _ 0 rfl om_ hl 4 om_) rfl ?_);intro _ _;obtain ⟨dw,hn4⟩:=a15 (l:=l) (k:=p) (n:=4) om_;obtain ⟨n,hn⟩:∃ n:Nat,K2 l p 4=n:=⟨(K2 l p 4).toNat,om_⟩;rw [hn];have gh:n<=3:=by omega
 refine qN [r5 l nn (p+1),.box [.list [] false none],.box [.list [] false none],.box (r8 fl (gnn fl.length)),.box (r8 fl (gnn fl.length))] rfl ?_;refine H8 (α:=List Fi × Nat × Nat) (fun x=>[(0,.ptr 0 0),(2,.ptr 1 0),(3,.ptr 2 0),(4,.ptr 3 0),(5,.ptr 4 0),(6,iv x.2.2)]) (fun x=>[r5 l nn x.2.1,.box [.list [] false none],.box [.list [] false none],.box (r8 fl (gnn fl.length)),.box (r8 x.1 (gnn x.1.length))]) (fun x=>x.2.2<=3/\N0 (10020 - 1240*x.2.2) x.1/\k<=x.2.1/\x.2.1+1080*x.2.2<=k+8000) (fun x=>x.2.2) (fl,p+1,n) ⟨gh,hm.mono do_,do_,do_⟩ tu_ rfl ?_;intro ⟨bl,q,i⟩ _ ⟨hi,hb,bV,cJ⟩;dsimp only at hi hb bV cJ ⊢;refine qk (qC ?_ ?_)<;> intro h1
 ·have eL:1<=i:=sm_ h1;refine qD (c4 rfl Tryz.call28 j1 (d4K l nn q om_ hl (10020 - 1240*i) ⟨om_,om_⟩ bl hb _ 0 rfl) rfl ?_);intro ⟨bl2,q2⟩ ⟨bW,aF,aV⟩;dsimp only at bW aF aV ⊢;refine qD (j2 rfl tt tt rfl j3 b1u j6 rfl rfl (nb rfl) ?_);refine qY V3 ?_;exact ⟨(bl2,q2,i - 1),do_,⟨do_,bW.mono do_,do_,do_⟩,⟨k8,k8,k8,k8,k8,⟨tt,(by show (iv ((i:Int) - 1))=iv ((i - 1:Nat):Int);congr 2;omega)⟩,tt⟩,rfl⟩
 ·refine j4 ?_;refine cF [] [0,1] (tl:=[(2,[1]),(3,[])]) ?_;refine chf rfl a4W ?_;refine chf rfl a4W ?_;refine D9 ?_;refine B1 rfl rfl rfl (j2 rfl tt tt rfl j3 b1u j6 rfl rfl (nb rfl) ?_);refine ⟨⟨a08,tt⟩,?_⟩;refine b3V ?_;exact ⟨_,r9 (rs:=[.cell 2 32,.cell 3 32]) (cs:=[_,_]) rfl ⟨a3c,a3c,tt⟩ (n_5 rfl),⟨((fl,bl),q),a2h rfl T3 (.old (c2j _ _).old),hm,hb.mono om_,do_,do_⟩⟩
theorem d7O (l:List Int) (nn:Bool) (k:Nat) (aS:k<=400000000) (hl:l.length<=maxLen) (σ:List b9) (q:Nat) (hq:σ[q]? = some (r5 l nn k)):b8 CC 32 [.ptr q 0] σ fun r τ=>∃ a:(List Fi × List Fi) × Nat,r = .ret (.tup [.agg (r8 a.1.1 (gnn a.1.1.length)),.agg (r8 a.1.2 (gnn a.1.2.length))])/\τ=σ.set q (r5 l nn a.2)/\(N0 6300 a.1.1/\N0 10020 a.1.2/\k<=a.2/\a.2<=k+8000) :=
 a7F (c:=fun a:(List Fi × List Fi) × Nat=>(.tup [.agg (r8 a.1.1 (gnn a.1.1.length)),.agg (r8 a.1.2 (gnn a.1.2.length))])) (S:=fun a=>r5 l nn a.2) hCC (fun a h=>by simp at h) (fun _=>c2j _ _) (fun _=>F0 _ _ _) (F0 _ _ _) rfl (d4o l nn k aS hl) σ q hq
theorem d3N {B':Nat} (h1:N0 B fl) (h2:N0 B' fs) (hB:B<=16384) (hB':B'<=16384) (e1:a3m ev) (e2:a3m ew) (σ:List b9):b8 CC 34 [.agg (r8 fl (gnn fl.length)),.agg (G6 ev (gnn ev.length)),.agg (r8 fs (gnn fs.length)),.agg (G6 ew (gnn ew.length))] σ fun r τ=>r = .ret (.tup [.list ((chL fl ev fs ew).map Ky.cv) (gnn (chL fl ev fs ew).length) none,iv 0])/\τ=σ:=by
 have v1:=h1.valid hB;have v2:=h2.valid hB';have h:=c7Q fl (gnn fl.length) ev (gnn ev.length) fs (gnn fs.length) ew (gnn ew.length) (a2k.of v1) (a2k.of v2) e1.nlen e1.vr (by have:=e1.len;omega) e2.nlen e2.vr (by have:=e2.len;omega) σ;rw [a8r v1 v2 e1.valid e2.valid] at h;exact h
theorem a7W (h1:N0 B fl) (hB:B<=16384) (e1:a3m ev) (hk:O2 k=true) (σ:List b9):b8 CC 15 [.agg (r8 fl (gnn fl.length)),.agg (G6 ev (gnn ev.length)),.agg k.cells] σ fun r τ=>r = .ret (.tup [sv (a44 fl ev k),iv 0])/\τ=σ:=by
 have h:=b8z fl (gnn fl.length) ev (gnn ev.length) k σ;rw [d7Y,c0e (h1.valid hB) e1.valid hk] at h;exact h
theorem e0G (h:l[i]? = some y):(l.take (i+1)).any (fun x=>decide (x=k))=((l.take i).any (fun x=>decide (x=k)) || decide (y=k)):=by
 rw [a2m,h,List.any_append];simp
theorem d2V:l.any (fun x=>decide (x=k))=decide (k∈l):=by
 rw [Bool.eq_iff_iff];simp
theorem a6d (l:List Int) (nn:Bool) (hl:l.length<=maxLen) (raw:List Ky) (rnn:Bool):b8 CC 6 [.list (l.map icv) nn none,(.list (raw.map Ky.cv) rnn none)] [] fun r τ=>∃ _:Unit,a1q 0 τ r (.ret (.val (.bool true)))/\True:=by
 refine cO Tryz.func6 ?_;refine qs 8 (qY (B3 #[(0,1),(1,1)] rfl ⟨tt,tt⟩ c9g Tryz.zeroValue29 rfl ⟨_,rfl⟩ (fun w=>by kernel_rfl) rfl rfl) ?_);refine qD (G8 rfl tt j3 j6 ?_);refine qD (c4 rfl Tryz.call32 ⟨tt,tt⟩ (d7O l nn 0 om_ hl _ 0 rfl) rfl ?_);intro ⟨⟨fl,fs⟩,p⟩ ⟨bX,bT,fh,cu⟩;dsimp only at bX bT fh cu ⊢;refine qD (p8 rfl c6b rfl j6 ?_);refine d1p ?_;refine qD (j2 rfl tt tt rfl j3 b1u j6 rfl rfl (nb rfl) ?_);refine qD (c4 rfl Tryz.call33 ⟨tt,tt⟩ (a4J l nn p om_ hl _ 0 rfl) rfl ?_);intro ⟨ev,p2⟩ ⟨eA,bV,cJ⟩;dsimp only at eA bV cJ ⊢;refine qD (c4 rfl Tryz.call33 ⟨tt,tt⟩ (a4J l nn p2 om_ hl _ 0 rfl) rfl ?_);intro ⟨ew,p3⟩ ⟨he2,aF,aV⟩;dsimp only at he2 aF aV ⊢;have v1:=bX.valid om_;have v2:=bT.valid om_;have hAl:(chL fl ev fs ew).length<=100000:=d4G (a1a v1).1 (a1a v2).1 (by have:=eA.len;omega) (by have:=he2.len;omega);refine d6F ?_;refine qD (j2 rfl tt tt rfl j3 b5f j6 rfl rfl (nb rfl) ?_);refine qD (j2 rfl tt tt rfl j3 b5f j6 rfl rfl (nb rfl) ?_);refine qY (c5 rfl Tryz.call34 a2r (d3N bX bT om_ om_ eA he2 _) rfl) ?_;refine cC ?_ ?_<;>intro h1
 ·exfalso;simp at h1
 ·refine J1 [r5 l nn p3,.box (r8 fl (gnn fl.length)),.box (r8 fs (gnn fs.length)),.box (G6 ev (gnn ev.length)),.box (G6 ew (gnn ew.length))] rfl ?_;refine qk (qD (d3t rfl rfl tt rfl q_2 t_6 t_5 a5t Z1 rfl a6c C1 (chL fl ev fs ew).length si_ ?_));refine a5V hCC 6 rfl 5 12 (.list ((chL fl ev fs ew).map Ky.cv) (gnn (chL fl ev fs ew).length) (C2 (chL fl ev fs ew).length 6)) rfl tt a5H (α:=List Ky × Nat × Nat) (fun x=>[(1,(.list (raw.map Ky.cv) rnn none)),(5,.ptr 0 0),(6,.ptr 1 0),(7,.ptr 2 0),(8,.ptr 3 0),(9,.ptr 4 0),(10,(.list ((chL fl ev fs ew).map Ky.cv) (gnn (chL fl ev fs ew).length) none)),(12,(.list (x.1.map Ky.cv) (gnn x.1.length) (C2 x.1.length 6))),(13,iv x.2.1)]) (fun x=>[r5 l nn x.2.2,.box (r8 fl (gnn fl.length)),.box (r8 fs (gnn fs.length)),.box (G6 ev (gnn ev.length)),.box (G6 ew (gnn ew.length)),.dead,o8 x.1.length]) (fun x=>x.2.1<=20/\x.1.length<=100000+x.2.1/\x.2.2<=p3+3*x.2.1) (fun x=>20 - x.2.1) ⟨((chL fl ev fs ew),0,p3),[0,1,2,3,4,5,6],⟨do_,do_,do_⟩,⟨rfl,rfl⟩,ut_,(by repeat' (first|exact tt|exact .inl rfl|exact .inr ⟨_,rfl,.same rfl B8⟩|exact .inr ⟨_,rfl,.same (aO _ _ _) B8⟩|exact .inr ⟨_,rfl,.same rfl (by repeat' (first|exact tt|exact .val _|exact .ptr (nb rfl)|exact .map (nb rfl)|exact N7 _ _ _|exact Y1 _ _ _ _|exact T2 _ _ _|exact V0 _ _ _|exact a1t _ _ | refine u0 ?_ | refine ⟨?_,?_⟩))⟩|exact .inr ⟨_,rfl,.box (by repeat' (first|exact tt|exact .same rfl uo_|exact .ptr rfl|exact .map rfl|exact .vec rfl|exact C7.grow (f:=Ky.cv) (fun _=>⟨.val _,.val _,.val _,tt⟩) rfl|exact K4 (f:=Ky.cv) (fun _=>⟨.val _,.val _,.val _,tt⟩) _ | refine ⟨?_,?_⟩))⟩ | refine ⟨?_,?_⟩))⟩ ?_;intro ⟨ks,i,p4⟩ ⟨hi,gA,hp4⟩;dsimp only at hi gA hp4 ⊢;refine qk (qC ?_ ?_)<;> intro h2
  ·have hi20:i < 20:=sm_ h2;refine qD (c4 rfl Tryz.call35 ⟨tt,tt⟩ (d8O l nn p4 om_ hl _ 0 rfl) rfl ?_);intro ⟨k,p5⟩ ⟨_,bv,dA⟩;dsimp only at bv dA ⊢;refine qY d9D ?_;refine qD (A7 rfl tt tt rfl si_ q_2 t_6 t_5 a5t Z1 rfl (.inr rfl) q_7 a6c C1 ((ks++[k]).map Ky.cv) (ks++[k]).length (by rw [a6H];rfl) si_ ?_);refine qY l9 ?_;exact ⟨(ks++[k],i+1,p5),[0,1,2,3,4,5,7],⟨by simp;omega,by simp;omega,by simp;omega⟩,⟨rfl,rfl⟩,ut_,(by repeat' (first|exact tt|exact .inl rfl|exact .inr ⟨_,rfl,.same rfl B8⟩|exact .inr ⟨_,rfl,.same (aO _ _ _) B8⟩|exact .inr ⟨_,rfl,.same rfl (by repeat' (first|exact tt|exact .val _|exact .ptr (nb rfl)|exact .map (nb rfl)|exact N7 _ _ _|exact Y1 _ _ _ _|exact T2 _ _ _|exact V0 _ _ _|exact a1t _ _ | refine u0 ?_ | refine ⟨?_,?_⟩))⟩|exact .inr ⟨_,rfl,.box (by repeat' (first|exact tt|exact .same rfl uo_|exact .ptr rfl|exact .map rfl|exact .vec rfl|exact C7.grow (f:=Ky.cv) (fun _=>⟨.val _,.val _,.val _,tt⟩) rfl|exact K4 (f:=Ky.cv) (fun _=>⟨.val _,.val _,.val _,tt⟩) _ | refine ⟨?_,?_⟩))⟩ | refine ⟨?_,?_⟩))⟩
  ·refine j4 ?_;refine N4 (α:=List Ky) (fun ra=>[(1,(.list (ra.map Ky.cv) rnn none)),(6,.ptr 1 0),(7,.ptr 2 0),(8,.ptr 3 0),(9,.ptr 4 0),(10,(.list ((chL fl ev fs ew).map Ky.cv) (gnn (chL fl ev fs ew).length) none)),(12,(.list (ks.map Ky.cv) (gnn ks.length) (C2 ks.length 6)))]) (fun _=>[r5 l nn p4,.box (r8 fl (gnn fl.length)),.box (r8 fs (gnn fs.length)),.box (G6 ev (gnn ev.length)),.box (G6 ew (gnn ew.length)),.dead,o8 ks.length]) (fun ra=>ra.length<=10) ?_ ?_
   ·
    refine qk (qY b0t ?_);refine qC ?_ ?_<;>intro h3
    ·have aY:10<=raw.length:=sm_ h3;refine qY (a2w (h:=10) rfl tt rfl t_6 t_5 a9l rfl ⟨rfl,_,_,rfl,om_,om_⟩ a4g L4) ?_;exact ⟨(raw.take 10),a4f,⟨⟨tt,(by rw [a9d];rfl)⟩,k8,k8,k8,k8,k8,k8,tt⟩,rfl⟩
    ·exact ⟨raw,(sm_ h3),tu_,rfl⟩
   ·intro ra _ hra;obtain ⟨xs,hxs⟩:∃ xs,xs=ks++ra:=⟨_,rfl⟩;have hxl:xs.length<=100030:=by rw [hxs,n_6];omega
    refine qk (qD (A7 rfl tt tt rfl si_ q_2 t_6 t_5 a5t Z1 rfl (.inr rfl) q_7 a6c C1 (xs.map Ky.cv) xs.length (by rw [hxs];simp) (by rw [hxs];simp) ?_));refine qY b0t ?_;refine A6 hCC 8 rfl (α:=Nat) (fun i=>[(6,.ptr 1 0),(7,.ptr 2 0),(8,.ptr 3 0),(9,.ptr 4 0),(10,(.list ((chL fl ev fs ew).map Ky.cv) (gnn (chL fl ev fs ew).length) none)),(63,(.list (xs.map Ky.cv) (gnn xs.length) none)),(64,iv xs.length),(65,iv i)]) (fun _=>[r5 l nn p4,.box (r8 fl (gnn fl.length)),.box (r8 fs (gnn fs.length)),.box (G6 ev (gnn ev.length)),.box (G6 ew (gnn ew.length)),.dead,.dead,.dead]) (fun i=>i<=xs.length) (fun i=>xs.length - i) ⟨0,[0,1,2,3,4,5,6,7],(n_4 _),⟨rfl,rfl⟩,ut_,(by repeat' (first|exact tt|exact .inl rfl|exact .inr ⟨_,rfl,.same rfl B8⟩|exact .inr ⟨_,rfl,.same (aO _ _ _) B8⟩|exact .inr ⟨_,rfl,.same rfl (by repeat' (first|exact tt|exact .val _|exact .ptr (nb rfl)|exact .map (nb rfl)|exact N7 _ _ _|exact Y1 _ _ _ _|exact T2 _ _ _|exact V0 _ _ _|exact a1t _ _ | refine u0 ?_ | refine ⟨?_,?_⟩))⟩|exact .inr ⟨_,rfl,.box (by repeat' (first|exact tt|exact .same rfl uo_|exact .ptr rfl|exact .map rfl|exact .vec rfl|exact C7.grow (f:=Ky.cv) (fun _=>⟨.val _,.val _,.val _,tt⟩) rfl|exact K4 (f:=Ky.cv) (fun _=>⟨.val _,.val _,.val _,tt⟩) _ | refine ⟨?_,?_⟩))⟩ | refine ⟨?_,?_⟩))⟩ ?_;intro j hj;refine qk (qC ?_ ?_)<;> intro h4
    ·have ab:j < xs.length:=sm_ h4;obtain ⟨y,hb⟩:∃ y,xs[j]? = some y:=⟨xs[j]'ab,si_⟩;refine d5C ?_;refine qY (c5 rfl Tryz.call36 ⟨tt,tt⟩ (a9f y _) rfl) ?_;refine qC ?_ ?_<;>intro h5
     ·refine j4 ?_;exact e0e
     ·have hky:O2 y=true:=sp_ h5;refine qY b0t ?_;refine A6 hCC 9 rfl (α:=Nat) (fun i=>[(6,.ptr 1 0),(7,.ptr 2 0),(8,.ptr 3 0),(9,.ptr 4 0),(10,(.list ((chL fl ev fs ew).map Ky.cv) (gnn (chL fl ev fs ew).length) none)),(15,.ptr 8 0),(16,(.val (.bool (((chL fl ev fs ew).take i).any fun x=>decide (x=y))))),(63,(.list (xs.map Ky.cv) (gnn xs.length) none)),(64,iv xs.length),(65,iv j),(72,(.list ((chL fl ev fs ew).map Ky.cv) (gnn (chL fl ev fs ew).length) none)),(73,(iv ((chL fl ev fs ew).length:Int))),(74,iv i)]) (fun _=>[r5 l nn p4,.box (r8 fl (gnn fl.length)),.box (r8 fs (gnn fs.length)),.box (G6 ev (gnn ev.length)),.box (G6 ew (gnn ew.length)),.dead,.dead,.dead,.box y.cells]) (fun i=>i<=(chL fl ev fs ew).length) (fun i=>(chL fl ev fs ew).length - i) ⟨0,[0,1,2,3,4,5,6,7,8],(n_4 _),⟨rfl,rfl⟩,ut_,(by repeat' (first|exact tt|exact .inl rfl|exact .inr ⟨_,rfl,.same rfl B8⟩|exact .inr ⟨_,rfl,.same (aO _ _ _) B8⟩|exact .inr ⟨_,rfl,.same rfl (by repeat' (first|exact tt|exact .val _|exact .ptr (nb rfl)|exact .map (nb rfl)|exact N7 _ _ _|exact Y1 _ _ _ _|exact T2 _ _ _|exact V0 _ _ _|exact a1t _ _ | refine u0 ?_ | refine ⟨?_,?_⟩))⟩|exact .inr ⟨_,rfl,.box (by repeat' (first|exact tt|exact .same rfl uo_|exact .ptr rfl|exact .map rfl|exact .vec rfl|exact C7.grow (f:=Ky.cv) (fun _=>⟨.val _,.val _,.val _,tt⟩) rfl|exact K4 (f:=Ky.cv) (fun _=>⟨.val _,.val _,.val _,tt⟩) _ | refine ⟨?_,?_⟩))⟩ | refine ⟨?_,?_⟩))⟩ ?_;intro i2 cQ;refine qk ?_;refine cC ?_ ?_<;>intro h6
      ·have cp:i2 < (chL fl ev fs ew).length:=sm_ h6;obtain ⟨z,bW⟩:∃ z,(chL fl ev fs ew)[i2]? = some z:=⟨(chL fl ev fs ew)[i2]'cp,si_⟩;refine qk (qY (p9 rfl tt tt rfl rfl t_6 t_5 om_ (i8 bW) rfl) ?_);refine d3y ?_;refine qG d1U ?_;refine qG d1U ?_;refine qG (fun hg=>b6H rfl hg hg (xs:=[.int .i64 z.k,.string (str z.a),.string (str z.b)]) (ys:=[.int .i64 y.k,.string (str y.a),.string (str y.b)]) rfl rfl c96 (b68 z y)) ?_;refine qY R7 ?_;refine qY l9 ?_;exact ⟨(i2+1),[0,1,2,3,4,5,6,7,8],⟨om_,om_⟩,⟨rfl,rfl⟩,⟨a0m,a0m,a0m,a0m,a0m,a0m,⟨tt,(by first|exact ur_|exact .same (by rw [e0G bW];rfl) uo_)⟩,a0m,a0m,a0m,a0m,a0m,a0m,tt⟩,(by repeat' (first|exact tt|exact .inl rfl|exact .inr ⟨_,rfl,.same rfl B8⟩|exact .inr ⟨_,rfl,.same (aO _ _ _) B8⟩|exact .inr ⟨_,rfl,.same rfl (by repeat' (first|exact tt|exact .val _|exact .ptr (nb rfl)|exact .map (nb rfl)|exact N7 _ _ _|exact Y1 _ _ _ _|exact T2 _ _ _|exact V0 _ _ _|exact a1t _ _ | refine u0 ?_ | refine ⟨?_,?_⟩))⟩|exact .inr ⟨_,rfl,.box (by repeat' (first|exact tt|exact .same rfl uo_|exact .ptr rfl|exact .map rfl|exact .vec rfl|exact C7.grow (f:=Ky.cv) (fun _=>⟨.val _,.val _,.val _,tt⟩) rfl|exact K4 (f:=Ky.cv) (fun _=>⟨.val _,.val _,.val _,tt⟩) _ | refine ⟨?_,?_⟩))⟩ | refine ⟨?_,?_⟩))⟩
      ·have aE:(chL fl ev fs ew).length<=i2:=sm_ h6;rw [U5 aE,d2V];refine j4 ?_;refine qY (c5 rfl Tryz.call15 C8 (a7W bX om_ eA hky _) rfl) ?_;refine qY (c5 rfl Tryz.call15 C8 (a7W bT om_ he2 hky _) rfl) ?_;refine qY b4z ?_;refine qY (d0Q rfl Tryz.runUnderlying4 trivial trivial rfl rfl rfl) ?_;refine cC ?_ ?_<;>intro h7
       ·exfalso;have hc:=d3K v1 v2 eA.valid he2.valid y;simp [hky] at hc h7;rw [hc] at h7;simp at h7
       ·refine qk ?_;exact e0e
    ·refine j4 ?_;refine qY (c5 rfl Tryz.call37 trivial (c1f _) rfl) ?_;refine c6 ?_;exact ⟨_,rE1,(by exact ⟨(),.ret (.old (.val _)),tt⟩)⟩
theorem a60 (l:List Int) (nn:Bool) (hl:l.length<=maxLen) (raw:List Ky) (rnn:Bool) (σ:List b9):b8 CC 6 [.list (l.map icv) nn none,(.list (raw.map Ky.cv) rnn none)] σ fun r τ=>r = .ret (.val (.bool true))/\τ=σ :=
 (H5 (res:=fun _:Unit=>.ret (.val (.bool true))) (P:=fun _=>True) hCC (fun a h=>by simp at h;rcases h with rfl | rfl;exact O7 _ _;exact a00 _ _) (a6d l nn hl raw rnn) (fun _ _=>.val _) σ).mono fun r τ ⟨_,h1,h2,_⟩=>⟨h1,h2⟩
end Go.Proofs.YtlppbmfecjabeaaGreatDoor
