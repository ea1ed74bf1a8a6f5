/- Part 6 of what the claim needs: values without addresses, and what the program's functions do with them. -/
import Derived.Test.YtoblbdedgjfeaaaGreatDoorZ5
namespace Go.Proofs.YtoblbdedgjfeaaaGreatDoor
open Go Go.Cl
def L1:List Str:=[[109],[110]]
structure a0z (ev:List Va):Prop where
 sub:(ev.map Va.n).Sublist L1
 rng:∀ v∈ev,-9007199254740992≤v.v∧v.v≤9007199254740992
theorem a0z.len {ev:List Va} (h:a0z ev):ev.length≤2:=by
 have:=h.sub.length_le
 rw [List.length_map] at this
 exact this
theorem a0z.nlen {ev:List Va} (h:a0z ev):∀ v∈ev,v.n.length≤1000000000:=fun v hv=>by
 have h1:=h.sub.subset (List.mem_map_of_mem hv)
 have h2:∀ x∈L1,x.length≤1000000000:=by decide
 exact h2 _ h1
theorem b9g {l:List Str} (h:l.Sublist L1):l=[]∨l=[[109]]∨l=[[110]]∨l=[[109],[110]]:=by
 rw [L1] at h
 rcases List.sublist_cons_iff.1 h with h | ⟨r,h1,h⟩ <;> rcases List.sublist_cons_iff.1 h with h | ⟨r',h2,h⟩ <;> simp at h <;> subst h <;> simp_all
theorem a0z.valid {ev:List Va} (h:a0z ev):a3r ev=true:=by
 have hl:=h.len
 have hr:=h.rng
 have d1:B8 [109]=true:=rfl
 have d2:B8 [110]=true:=rfl
 rcases b9g h.sub with h1 | h1 | h1 | h1
 ·have:ev=[]:=by simpa using h1
  subst this; rfl
 ·rcases ev with _ | ⟨x,_ | ⟨y,t⟩⟩ <;> simp at h1
  have r1:=hr x l7
  simp [a3r,evB,a0V,h1,d1,r1.1,r1.2]
 ·rcases ev with _ | ⟨x,_ | ⟨y,t⟩⟩ <;> simp at h1
  have r1:=hr x l7
  simp [a3r,evB,a0V,h1,d2,r1.1,r1.2]
 ·rcases ev with _ | ⟨x,_ | ⟨y,_ | ⟨z,t⟩⟩⟩ <;> simp at h1
  have r1:=hr x l7
  have r2:=hr y l7
  have d3:Op.bytesLess [110] [109]=false:=rfl
  simp [a3r,evB,a0V,h1.1,h1.2,d1,d2,d3,r1.1,r1.2,r2.1,r2.2]
theorem a80 (ev:List Va) (nn:Bool):o9 (.agg (H6 ev nn)):=d7 (cs:=H6 _ _) ⟨C0 _ _,tt⟩
theorem b59 {L:Nat} {sel:List Nat} {l:List Va} {nn:Bool} {tok:Option Nat}:B4 L sel (.agg [.list (l.map Va.cv) nn tok]) (.agg (H6 l nn)) :=
 .agg rfl fun i c c' h h'=>by
  rcases i with _ | i
  ·injection h with h; injection h' with h'; subst h h'; exact W4 (f:=Va.cv) Va.pure _
  ·cases h
set_option maxRecDepth 10000 in
set_option maxHeartbeats 1600000 in
theorem a4t (l:List Int) (nn:Bool) (k:Nat) (hat:k≤500000000) (hl:l.length≤maxLen):c4 CC 38 [.ptr 0 0] [o4 l nn k] fun r τ=>∃ a:List Va × Nat,G8 1 τ r (.ret (.agg (H6 a.1 (gnn a.1.length)))) [o4 l nn a.2]∧(a0z a.1∧k≤a.2∧a.2≤k+4):=by
 refine (d5 Tryz.func38 rfl rfl ?_)
 refine a7 (a6 ?_)
 refine cD (l5 rfl Tryz.zeroValue25 rfl j2 ?_)
 refine a8 (a7 (a6 ?_))
 refine cD (l5 rfl Tryz.zeroValue25 rfl j2 ?_)
 refine a8 (a7 (a7 (a6 ?_)))
 refine cY (y9 (L1.map scv) rfl ⟨rfl,rfl,tt⟩ Tryz.runUnderlying26 Tryz.sizeOf9 Tryz.zeroValue9 rfl rfl rfl rfl rfl rfl rfl rfl rfl) ?_; refine cY R1 ?_; refine cY A7 ?_
 refine a8 (d4 ?_)
 refine B2 hCC 3 rfl (α:=List Va × Nat × Nat) (fun x=>[(0,.ptr 0 0),(2,.ptr 1 0),(3,.ptr 2 0),(6,(.list (L1.map scv) true none)),(7,(.val (.int .i64 ((L1.length:Int))))),(8,(.val (.int .i64 ((x.2.2:Int)))))]) (fun x=>[o4 l nn x.2.1,.box (H6 [] false),.box [(.list (x.1.map Va.cv) (gnn x.1.length) (P3 x.1.length 3))],r6 x.1.length]) (fun x=>x.2.2≤L1.length∧x.1.length≤x.2.2∧(x.1.map Va.n).Sublist (L1.take x.2.2)∧(∀ v∈x.1,-9007199254740992≤v.v∧v.v≤9007199254740992)∧k≤x.2.1∧x.2.1≤k+x.2.2*2) (fun x=>L1.length - x.2.2) ⟨([],k,0),[0,1,2,9],⟨Nat.zero_le _,Nat.zero_le _,.slnil,(fun v hv=>by cases hv),Nat.le_refl _,Nat.le_refl _⟩,⟨rfl,rfl⟩,⟨⟨tt,a1k⟩,⟨tt,a1k⟩,⟨tt,a1k⟩,⟨tt,a1k⟩,⟨tt,a1k⟩,⟨tt,a1k⟩,tt⟩,⟨.inr ⟨_,rfl,.same rfl A6⟩,.inr ⟨_,rfl,.same rfl (l2 ⟨L3 _ ([]:List Va) _,tt⟩)⟩,.inr ⟨_,rfl,.box ⟨.same rfl (L3 _ ([]:List Va) _),tt⟩⟩,.inl rfl,tt⟩⟩ ?_; intro ⟨ev,p,i⟩ ⟨hi,hel,hs,hr,hp1,hp2⟩
 dsimp only at hi hel hs hr hp1 hp2 ⊢
 have hL:L1.length=2:=rfl
 refine a7 (a6 ?_)
 refine cY r9 ?_
 refine a8 (a7 ?_)
 refine b9 tt rfl (fun h1=>?_) (fun h1=>?_)
 ·have hlt:i < L1.length:=by simp at h1; omega
  obtain ⟨y,hb,hym⟩:=X2 hlt
  have htk:L1.take (i+1)=L1.take i++[y]:=by rw [List.take_add_one,hb]; rfl
  refine c8 (a7 (d4 (a7 (a6 ?_))))
  refine cY a7E ?_; refine cY M7 ?_; refine cY c7 ?_
  refine a8 (a7 (a6 ?_))
  refine cY b7 ?_
  refine cD (j3 rfl Tryz.call10 ⟨tt,rfl,rfl,tt⟩ (D3 l nn p _ 0 rfl b8 hl 2 3 b8) rfl ?_)
  intro _ _; refine a8 ?_
  refine b9 tt rfl (fun h2=>?_) (fun h2=>?_)
  ·skip
   refine v8 [0,1,2,3,4,5,6,7,8,9,10] 5 [0,1,0,0,0,24,60,124,255,511,1023] [[0,1,2],[0,1],[0,1],[],[],[]] (hd1l:=[0,1,2,3,4]) (tll:=[(5,[0,1,2]),(6,[0,1]),(7,[0,1]),(8,[]),(9,[]),(10,[])]) j6 j6 rfl rfl rfl ?_; refine chf rfl (k7 rfl a8u) ?_; refine chf rfl (k7 rfl b1Q) ?_; refine chf rfl x8 ?_; refine chf rfl x8 ?_; refine chf rfl (k7 rfl (y9 ([0,1,-1,5,9007199254740992,-9007199254740992].map icv) rfl ⟨rfl,rfl,rfl,rfl,rfl,rfl,tt⟩ Tryz.runUnderlying22 Tryz.sizeOf3 Tryz.zeroValue3 rfl rfl rfl rfl rfl rfl rfl rfl rfl)) ?_; refine y0 ?_
   refine u0 rfl rfl (j3 rfl Tryz.call43 ⟨tt,tt,tt⟩ (a13 l nn (p+1) _ 0 rfl b8 hl [0,1,-1,5,9007199254740992,-9007199254740992] l7 l7) rfl ?_)
   intro v hv
   have hvr : -9007199254740992≤v∧v≤9007199254740992:=by
    simp only [List.mem_cons,List.not_mem_nil,or_false] at hv
    omega
   refine ⟨⟨b7e,b4k,A0,tt⟩,?_⟩
   refine w6 rfl (k7 rfl (t6 #[(0,1),(1,1)] rfl ⟨tt,tt,tt⟩ Tryz.runUnderlying127 Tryz.zeroValue127 rfl ⟨_,rfl⟩ (fun w=>by kernel_rfl) rfl rfl)) ⟨⟨b7e,b4k,tt⟩,?_⟩
   refine w6 rfl (k7 rfl (y9 [Va.cv (⟨y,v⟩:Va)] rfl ⟨tt,tt⟩ Tryz.runUnderlying23 Tryz.sizeOf127 Tryz.zeroValue127 rfl rfl rfl rfl rfl rfl rfl rfl rfl)) ⟨⟨b7e,b4k,tt⟩,?_⟩
   refine u0 rfl rfl (H3 rfl tt tt rfl l7 q_3 Tryz.runUnderlying23 Tryz.sizeOf127 Tryz.typeInfo127 Tryz.zeroValue127 rfl (.inr rfl) Y9 (by have hb:Tryz.t127.bytes=24:=rfl; rw [hb]; first|omega|(simp; done)|(simp; omega)) K0 ((ev++[(⟨y,v⟩:Va)]).map Va.cv) (ev++[(⟨y,v⟩:Va)]).length l7 l7 ?_)
   refine ⟨tt,?_⟩
   refine w6 rfl (k7 rfl a8u) ⟨tt,?_⟩
   refine u0 rfl rfl (i7 rfl tt tt rfl c6 Tryz.sizeOf23 (.inl rfl) rfl rfl (nb rfl) ?_)
   refine ⟨tt,?_⟩
   refine A8 (a6 ?_)
   refine cY m9 ?_; refine cY b7 ?_; refine a8 ?_
   exact ⟨(ev++[(⟨y,v⟩:Va)],p+2,i+1),[0,1,2,4],⟨by dsimp only; omega,by dsimp only; omega,by simp only [List.length_append,List.length_cons,List.length_nil]; omega,by dsimp only; rw [htk,List.map_append]; exact hs.append (.refl _),(fun x hx=>by
  rcases List.mem_append.1 hx with hx | hx
  ·exact hr x hx
  ·rw [List.mem_singleton.1 hx]; exact hvr),by dsimp only; omega,by dsimp only; omega⟩,⟨rfl,rfl⟩,⟨⟨tt,a1k⟩,⟨tt,a1k⟩,⟨tt,a1k⟩,⟨tt,a1k⟩,⟨tt,a1k⟩,⟨tt,a1k⟩,tt⟩,⟨.inr ⟨_,rfl,.same rfl A6⟩,.inr ⟨_,rfl,.same rfl (l2 ⟨L3 _ ([]:List Va) _,tt⟩)⟩,.inr ⟨_,rfl,.box ⟨B4.grow (f:=Va.cv) (fun a=>⟨.val _,.val _,tt⟩) rfl,tt⟩⟩,.inr ⟨_,rfl,.same rfl s8⟩,tt⟩⟩
  ·skip
   refine c8 (a6 ?_)
   refine cY m9 ?_; refine cY b7 ?_; refine a8 ?_
   exact ⟨(ev,p+1,i+1),[0,1,2,3],⟨by dsimp only; omega,by dsimp only; omega,by dsimp only; omega,by dsimp only; rw [htk]; exact hs.trans (List.sublist_append_left _ _),hr,by dsimp only; omega,by dsimp only; omega⟩,⟨rfl,rfl⟩,⟨⟨tt,a1k⟩,⟨tt,a1k⟩,⟨tt,a1k⟩,⟨tt,a1k⟩,⟨tt,a1k⟩,⟨tt,a1k⟩,tt⟩,⟨.inr ⟨_,rfl,.same rfl A6⟩,.inr ⟨_,rfl,.same rfl (l2 ⟨L3 _ ([]:List Va) _,tt⟩)⟩,.inr ⟨_,rfl,.box ⟨B4.grow (f:=Va.cv) (fun a=>⟨.val _,.val _,tt⟩) rfl,tt⟩⟩,.inr ⟨_,rfl,.same rfl s8⟩,tt⟩⟩
 ·have hie:i=2:=by simp at h1; omega
  subst hie
  refine m4 (a7 (a6 ?_))
  refine cY a2n ?_
  refine cD (i7 rfl tt tt rfl c6 Tryz.sizeOf25 j2 rfl rfl (nb rfl) ?_)
  refine a8 (c9 ?_)
  exact ⟨_,B5 rfl ⟨tt,_,_,_,rfl,rfl,.inr ⟨_,Tryz.isAgg25,Tryz.sizeOf25,nb rfl,rfl⟩⟩,⟨(ev,p),P0 rfl A6 b59,⟨hs,hr⟩,by dsimp only; omega,by dsimp only; omega⟩⟩
theorem a1W (l:List Int) (nn:Bool) (k:Nat) (hat:k≤500000000) (hl:l.length≤maxLen) (σ:List c5) (q:Nat) (hq:σ[q]? = some (o4 l nn k)):c4 CC 38 [.ptr q 0] σ fun r τ=>∃ a:List Va × Nat,r = .ret (.agg (H6 a.1 (gnn a.1.length)))∧τ=σ.set q (o4 l nn a.2)∧(a0z a.1∧k≤a.2∧a.2≤k+4) :=
 a3n (c:=fun a:List Va × Nat=>(.agg (H6 a.1 (gnn a.1.length)))) (S:=fun a=>o4 l nn a.2) hCC (fun a h=>by simp at h) (fun _=>a80 _ _) (fun _=>B0 _ _ _) (B0 _ _ _) rfl (a4t l nn k hat hl) σ q hq
theorem a8k (fl:List Fi) (ev:List Va):o9 (.tup [.agg (w7 fl (gnn fl.length)),.agg (H6 ev (gnn ev.length))]):=d9 (cs:=[_,_]) ⟨J0 _ _,a80 _ _,tt⟩
set_option maxRecDepth 10000 in
theorem b2E (l:List Int) (nn:Bool) (k:Nat) (hat:k≤400000000) (hl:l.length≤maxLen):c4 CC 9 [.ptr 0 0] [o4 l nn k] fun r τ=>∃ a:(List Fi × List Va) × Nat,G8 1 τ r (.ret (.tup [.agg (w7 a.1.1 (gnn a.1.1.length)),.agg (H6 a.1.2 (gnn a.1.2.length))])) [o4 l nn a.2]∧(H5 7540 a.1.1∧a0z a.1.2∧k≤a.2∧a.2≤k+5500):=by
 refine (d5 Tryz.func9 rfl rfl ?_)
 refine a7 (a6 ?_)
 refine cD (l5 rfl Tryz.zeroValue32 rfl j2 ?_)
 refine cD (l5 rfl Tryz.zeroValue25 rfl j2 ?_)
 refine a8 (a7 (a6 ?_))
 refine cY b7 ?_
 refine cD (j3 rfl Tryz.call28 ⟨tt,tt⟩ (a9g l nn k b8 hl _ 0 rfl) rfl ?_)
 intro ⟨fl,p⟩ ⟨hm,hp1,hp2⟩
 dsimp only at hm hp1 hp2 ⊢
 refine cD (l5 rfl Tryz.zeroValue32 rfl j2 ?_)
 refine cD (i7 rfl tt tt rfl c6 Tryz.sizeOf32 j2 rfl rfl (nb rfl) ?_)
 refine a8 (a7 (a7 (a6 ?_)))
 refine cY b7 ?_
 refine cD (j3 rfl Tryz.call10 ⟨tt,rfl,rfl,tt⟩ (D3 l nn p _ 0 rfl b8 hl 1 2 b8) rfl ?_)
 intro _ _; refine a8 ?_
 refine b9 tt rfl (fun h1=>?_) (fun h1=>?_)
 ·skip
  refine a6 ?_; refine cY b7 ?_; refine cY Q5 ?_
  refine cD (j3 rfl Tryz.call22 ⟨tt,tt,tt⟩ (b1L l nn (p+1) b8 hl 6300 ⟨by omega,by omega⟩ fl hm _ 0 rfl) rfl ?_)
  intro ⟨fl2,p2⟩ ⟨hm2,hq1,hq2⟩
  dsimp only at hm2 hq1 hq2 ⊢
  refine cD (i7 rfl tt tt rfl c6 Tryz.sizeOf32 j2 rfl rfl (nb rfl) ?_)
  refine a8 (a7 ?_)
  refine v8 [0,1,2,3,4] 2 [0,0,2,7,15] [[0],[],[]] (hd1l:=[0,1]) (tll:=[(2,[0]),(3,[]),(4,[])]) j6 j6 rfl rfl rfl ?_; refine chf rfl a0F ?_; refine chf rfl x8 ?_; refine y0 ?_
  refine u0 rfl rfl (j3 rfl Tryz.call38 ⟨tt,tt⟩ (a1W l nn p2 b8 hl _ 0 rfl) rfl ?_)
  intro ⟨ev,p3⟩ ⟨he,hr1,hr2⟩
  dsimp only at he hr1 hr2 ⊢
  refine ⟨⟨Q1,tt⟩,?_⟩
  refine u0 rfl rfl (i7 rfl tt tt rfl c6 Tryz.sizeOf32 j2 rfl rfl (nb rfl) ?_)
  refine ⟨tt,?_⟩
  refine u0 rfl rfl (i7 rfl tt tt rfl c6 Tryz.sizeOf25 j2 rfl rfl (nb rfl) ?_)
  refine ⟨tt,?_⟩
  refine A8 (c9 ?_)
  exact ⟨_,o0 (rs:=[.cell 2 32,.cell 3 25]) (cs:=[_,_]) rfl ⟨⟨tt,_,_,_,rfl,rfl,.inr ⟨_,Tryz.isAgg32,Tryz.sizeOf32,nb rfl,rfl⟩⟩,⟨tt,_,_,_,rfl,rfl,.inr ⟨_,Tryz.isAgg25,Tryz.sizeOf25,nb rfl,rfl⟩⟩,tt⟩ (Nat.ne_of_beq_eq_false rfl),⟨((fl2,ev),p3),P0 rfl A6 (.old (a8k _ _).old),hm2,he,by dsimp only; omega,by dsimp only; omega⟩⟩
 ·skip
  refine c8 (a7 ?_)
  refine v8 [0,1,2,3,4] 2 [0,0,2,7,15] [[0],[],[]] (hd1l:=[0,1]) (tll:=[(2,[0]),(3,[]),(4,[])]) j6 j6 rfl rfl rfl ?_; refine chf rfl a0F ?_; refine chf rfl x8 ?_; refine y0 ?_
  refine u0 rfl rfl (j3 rfl Tryz.call38 ⟨tt,tt⟩ (a1W l nn (p+1) b8 hl _ 0 rfl) rfl ?_)
  intro ⟨ev,p3⟩ ⟨he,hr1,hr2⟩
  dsimp only at he hr1 hr2 ⊢
  refine ⟨⟨Q1,tt⟩,?_⟩
  refine u0 rfl rfl (i7 rfl tt tt rfl c6 Tryz.sizeOf32 j2 rfl rfl (nb rfl) ?_)
  refine ⟨tt,?_⟩
  refine u0 rfl rfl (i7 rfl tt tt rfl c6 Tryz.sizeOf25 j2 rfl rfl (nb rfl) ?_)
  refine ⟨tt,?_⟩
  refine A8 (c9 ?_)
  exact ⟨_,o0 (rs:=[.cell 2 32,.cell 3 25]) (cs:=[_,_]) rfl ⟨⟨tt,_,_,_,rfl,rfl,.inr ⟨_,Tryz.isAgg32,Tryz.sizeOf32,nb rfl,rfl⟩⟩,⟨tt,_,_,_,rfl,rfl,.inr ⟨_,Tryz.isAgg25,Tryz.sizeOf25,nb rfl,rfl⟩⟩,tt⟩ (Nat.ne_of_beq_eq_false rfl),⟨((fl,ev),p3),P0 rfl A6 (.old (a8k _ _).old),hm.mono b8,he,by dsimp only; omega,by dsimp only; omega⟩⟩
theorem b5J (l:List Int) (nn:Bool) (k:Nat) (hat:k≤400000000) (hl:l.length≤maxLen) (σ:List c5) (q:Nat) (hq:σ[q]? = some (o4 l nn k)):c4 CC 9 [.ptr q 0] σ fun r τ=>∃ a:(List Fi × List Va) × Nat,r = .ret (.tup [.agg (w7 a.1.1 (gnn a.1.1.length)),.agg (H6 a.1.2 (gnn a.1.2.length))])∧τ=σ.set q (o4 l nn a.2)∧(H5 7540 a.1.1∧a0z a.1.2∧k≤a.2∧a.2≤k+5500) :=
 a3n (c:=fun a:(List Fi × List Va) × Nat=>(.tup [.agg (w7 a.1.1 (gnn a.1.1.length)),.agg (H6 a.1.2 (gnn a.1.2.length))])) (S:=fun a=>o4 l nn a.2) hCC (fun a h=>by simp at h) (fun _=>a8k _ _) (fun _=>B0 _ _ _) (B0 _ _ _) rfl (b2E l nn k hat hl) σ q hq
noncomputable def CF (fl:List Fi) (ev:List Va) (k:Ky):Str:=G9 fl (y7 fl).2.1 (y7 fl).2.2 ev k
theorem a0z.vr {ev:List Va} (h:a0z ev):∀ v∈ev,-9223372036854775808≤v.v∧v.v≤9223372036854775807:=fun v hv=>by have:=h.rng v hv; omega
theorem a11 {B:Nat} {fl:List Fi} {ev:List Va} (hm:H5 B fl) (hB:B≤16384) (he:a0z ev) {k:Ky} (hk:N4 k=true) (σ:List c5):c4 CC 12 [.agg (w7 fl (gnn fl.length)),.agg (H6 ev (gnn ev.length)),.agg k.cells] σ fun r τ=>r = .ret (.tup [sv (CF fl ev k),.val (.int .i64 0)])∧τ=σ:=by
 have hl:=he.len
 have hkl:k.a.length≤1000000000∧k.b.length≤1000000000:=by
  unfold N4 at hk
  split at hk
  ·simp only [Bool.and_eq_true] at hk
   have:=B1 hk.1; have:=B1 hk.2; omega
  ·split at hk
   ·simp only [Bool.and_eq_true,decide_eq_true_eq] at hk
    have:=W9 hk.1; rw [hk.2]; exact ⟨by omega,by simp⟩
   ·split at hk
    ·simp only [Bool.and_eq_true,decide_eq_true_eq] at hk
     have:=B1 hk.1; rw [hk.2]; exact ⟨by omega,by simp⟩
    ·cases hk
 have h:=a2H fl (gnn fl.length) hm.plen ev (gnn ev.length) he.nlen he.vr b8 k hkl σ
 rw [b0v (hm.valid hB) he.valid hk] at h
 exact h
theorem b6j:∀ p∈r8,N4 ⟨6,p,[]⟩=true∧N4 ⟨7,p,[]⟩=true∧(∀ o∈C8,N4 ⟨1,p,o⟩=true)∧N4 ⟨2,p,[116]⟩=true:=by decide
set_option maxRecDepth 10000 in
set_option maxHeartbeats 1600000 in
theorem a5J (l:List Int) (nn:Bool) (hl:l.length≤maxLen):c4 CC 4 [.list (l.map icv) nn none] [] fun r τ=>∃ _:Unit,a1V 0 τ r (.ret (.val (.bool true)))∧True:=by
 refine (d5 Tryz.func4 rfl rfl ?_)
 refine a7 (a6 ?_)
 refine cY j1 ?_
 refine a8 (a7 (a6 ?_))
 refine cY b7 ?_; refine cY (t6 #[(0,1),(1,1)] rfl ⟨tt,tt⟩ Tryz.runUnderlying29 Tryz.zeroValue29 rfl ⟨_,rfl⟩ (fun w=>by kernel_rfl) rfl rfl) ?_
 refine cD (A4 rfl tt c6 j2 ?_)
 refine cY c7 ?_
 refine a8 (a7 (a6 ?_))
 refine cY b7 ?_
 refine cD (j3 rfl Tryz.call9 ⟨tt,tt⟩ (b5J l nn 0 b8 hl _ 0 rfl) rfl ?_)
 intro ⟨⟨fl,ev⟩,q0⟩ ⟨hm,he,hq1,hq2⟩
 dsimp only at hm he hq1 hq2 ⊢
 refine cY b7 ?_; refine cY v7 ?_; refine cY v7 ?_
 refine cD (l5 rfl Tryz.zeroValue32 rfl j2 ?_)
 refine cD (l5 rfl Tryz.zeroValue25 rfl j2 ?_)
 refine cD (i7 rfl tt tt rfl c6 Tryz.sizeOf32 j2 rfl rfl (nb rfl) ?_)
 refine cD (i7 rfl tt tt rfl c6 Tryz.sizeOf25 j2 rfl rfl (nb rfl) ?_)
 refine a8 (a7 (a6 ?_))
 refine cY b7 ?_; refine cY Q5 ?_
 refine cD (j3 rfl Tryz.call22 ⟨tt,tt,tt⟩ (b1L l nn q0 b8 hl 7540 ⟨by omega,by omega⟩ fl hm _ 0 rfl) rfl ?_)
 intro ⟨fs,q⟩ ⟨hs,hq3,hq4⟩
 dsimp only at hs hq3 hq4 ⊢
 have hrv:=hm.valid b8
 have hsv:=hs.valid b8
 refine cD (l5 rfl Tryz.zeroValue32 rfl j2 ?_)
 refine cD (i7 rfl tt tt rfl c6 Tryz.sizeOf32 j2 rfl rfl (nb rfl) ?_)
 refine a8 (a7 (a7 (a6 ?_)))
 refine cY (i8 rfl Tryz.call23 trivial (a0k _) rfl) ?_; refine cY R1 ?_; refine cY A7 ?_
 refine a8 (d4 ?_)
 refine p9 hCC (fun i:Nat=>[(4,.ptr 1 0),(5,.ptr 2 0),(6,.ptr 3 0),(34,(.list (r8.map scv) true none)),(35,(.val (.int .i64 ((r8.length:Int))))),(36,(.val (.int .i64 ((i:Int)))))]) (fun _=>[o4 l nn q,.box (w7 fl (gnn fl.length)),.box (H6 ev (gnn ev.length)),.box (w7 fs (gnn fs.length))]) (fun i=>i≤r8.length) (fun i=>r8.length - i) 0 (Nat.zero_le _) ⟨⟨tt,rfl⟩,⟨tt,rfl⟩,⟨tt,rfl⟩,⟨tt,rfl⟩,⟨tt,rfl⟩,⟨tt,rfl⟩,tt⟩ (extra0:=[]) rfl A5 (fun a ha=>by repeat' (first|exact tt|exact .val _|exact .ptr (nb rfl)|exact .map (nb rfl)|exact k8 _ _ _|exact N3 _ _ _ _|exact z7 _ _ _|exact L3 _ _ _ | refine l2 ?_ | refine ⟨?_,?_⟩)) ?_; intro i hi
 have hL:r8.length=3:=rfl
 refine a7 (a6 ?_)
 refine cY r9 ?_
 refine a8 (a7 ?_)
 refine b9 tt rfl (fun h1=>?_) (fun h1=>?_)
 ·have hlt:i < r8.length:=by simp at h1; omega
  obtain ⟨p,hb,hpm⟩:=X2 hlt
  have hkp:=b6j p hpm
  refine c8 (a7 (d4 (a7 (a6 ?_))))
  refine cY a7E ?_; refine cY M7 ?_; refine cY c7 ?_
  refine a8 (a7 (a6 ?_))
  refine cY Q5 ?_; refine cY a2n ?_; refine cY b7 ?_; refine cY b6y ?_; refine cY (i8 rfl Tryz.call12 ⟨tt,tt,tt,tt⟩ (by exact a11 hm b8 he (k:=⟨6,p,[]⟩) a60 _) rfl) ?_; refine cY b7 ?_; refine cY v7 ?_; refine cY v7 ?_; refine cY c7 ?_; refine cY c7 ?_
  refine a8 (a7 (a6 ?_))
  refine cY Q5 ?_; refine cY a2n ?_; refine cY b7 ?_; refine cY b6y ?_; refine cY (i8 rfl Tryz.call12 ⟨tt,tt,tt,tt⟩ (by exact a11 hs b8 he (k:=⟨6,p,[]⟩) a60 _) rfl) ?_; refine cY b7 ?_; refine cY v7 ?_; refine cY v7 ?_; refine cY c7 ?_; refine cY c7 ?_
  refine a8 (a7 (a6 ?_))
  refine cY Q5 ?_; refine cY a2n ?_; refine cY b7 ?_; refine cY b6y ?_; refine cY (i8 rfl Tryz.call12 ⟨tt,tt,tt,tt⟩ (by exact a11 hm b8 he (k:=⟨7,p,[]⟩) a60 _) rfl) ?_; refine cY b7 ?_; refine cY v7 ?_; refine cY v7 ?_; refine cY c7 ?_; refine cY c7 ?_
  refine a8 (a7 (a6 ?_))
  refine cY Q5 ?_; refine cY a2n ?_; refine cY b7 ?_; refine cY b6y ?_; refine cY (i8 rfl Tryz.call12 ⟨tt,tt,tt,tt⟩ (by exact a11 hs b8 he (k:=⟨7,p,[]⟩) a60 _) rfl) ?_; refine cY b7 ?_; refine cY v7 ?_; refine cY v7 ?_; refine cY c7 ?_; refine cY c7 ?_
  refine a8 (a7 (a7 (a6 ?_)))
  refine cY b7 ?_; refine cY j9 ?_; refine cY b7 ?_; refine cG o5 ?_; refine cG C5 ?_; refine cY G5 ?_; refine cY b7 ?_; refine cG o5 ?_; refine cG C5 ?_; refine cY G5 ?_; refine cY b7 ?_; refine cG o5 ?_; refine cG C5 ?_; refine cY G5 ?_; refine cY b7 ?_; refine cG o5 ?_; refine cG o5 ?_; refine cG a3x ?_; refine cG (fun hg=>a0h rfl hg c6) ?_; refine b3u rfl rfl (fun h=>h) rfl rfl (fun hk hg=>a0h rfl tt c6) ?_; refine b3u rfl rfl (fun h=>h) rfl rfl (fun hk hg=>a0h rfl tt c6) ?_; refine b3u rfl rfl (fun h=>h) rfl rfl (fun hk hg=>a0i rfl ⟨hk,hg⟩ ⟨hk,hg⟩ rfl rfl (a5D _ _)) ?_; refine cG (fun hg=>a2C rfl hg rfl (fun hp=>⟨hg,hp⟩) (fun _=>rfl)) ?_; refine cY G5 ?_; refine a8 ?_
  refine b9 tt rfl (fun h2=>?_) (fun h2=>?_)
  ·exfalso
   simp at h2
   exact h2.2 (a9j h2.1)
  ·skip
   refine c8 (a7 (a7 (a6 ?_)))
   refine cY b7 ?_; refine cY b7 ?_; refine cY a6J ?_; refine a8 ?_
   refine b9 tt rfl (fun h3=>?_) (fun h3=>?_)
   ·skip
    refine m4 (a6 ?_)
    refine cY m9 ?_; refine cY b7 ?_; refine a8 ?_
    exact ⟨(i+1),_,⟨by omega,by omega⟩,⟨⟨tt,rfl⟩,⟨tt,rfl⟩,⟨tt,rfl⟩,⟨tt,rfl⟩,⟨tt,rfl⟩,⟨tt,rfl⟩,tt⟩,rfl⟩
   ·have hab:CF fl ev ⟨6,p,[]⟩=CF fs ev ⟨6,p,[]⟩:=by simpa using h3
    refine c8 (a7 (a6 ?_))
    refine cY j1 ?_
    refine a8 (d4 ?_)
    refine p9 hCC (fun j:Nat=>[(4,.ptr 1 0),(5,.ptr 2 0),(6,.ptr 3 0),(8,(sv (p))),(17,(.val (.int .i64 ((j:Int))))),(34,(.list (r8.map scv) true none)),(35,(.val (.int .i64 ((r8.length:Int))))),(36,(.val (.int .i64 ((i:Int)))))]) (fun _=>[o4 l nn q,.box (w7 fl (gnn fl.length)),.box (H6 ev (gnn ev.length)),.box (w7 fs (gnn fs.length))]) (fun j=>j≤4) (fun j=>4 - j) 0 (Nat.zero_le _) ⟨⟨tt,rfl⟩,⟨tt,rfl⟩,⟨tt,rfl⟩,⟨tt,rfl⟩,⟨tt,rfl⟩,⟨tt,rfl⟩,⟨tt,rfl⟩,⟨tt,rfl⟩,tt⟩ (extra0:=[]) rfl A5 (fun a ha=>by repeat' (first|exact tt|exact .val _|exact .ptr (nb rfl)|exact .map (nb rfl)|exact k8 _ _ _|exact N3 _ _ _ _|exact z7 _ _ _|exact L3 _ _ _ | refine l2 ?_ | refine ⟨?_,?_⟩)) ?_; intro j hj
    refine a7 (a7 (a6 ?_))
    refine cY b7 ?_; refine cY j9 ?_; refine a8 ?_
    refine b9 tt rfl (fun h4=>?_) (fun h4=>?_)
    ·have hlj:j < C8.length:=by simp at h4; show j < 4; omega
     have hj4:j < 4:=hlj
     obtain ⟨o,hbo,hom⟩:=X2 hlj
     refine c8 (a7 (d4 (a7 (a6 ?_))))
     refine cY b7 ?_; refine cY b1P ?_; refine cY b7 ?_; refine cY (r5 rfl tt tt rfl rfl Tryz.runUnderlying26 Tryz.sizeOf9 b8 (m7 hbo) rfl) ?_; refine cY M7 ?_; refine cY (t6 #[(0,1),(1,1),(2,1)] rfl ⟨rfl,tt,tt,tt⟩ Tryz.runUnderlying39 Tryz.zeroValue39 rfl ⟨_,rfl⟩ (fun w=>by kernel_rfl) rfl rfl) ?_
     refine cD (l5 rfl Tryz.zeroValue39 rfl j2 ?_)
     refine cD (i7 rfl tt tt rfl c6 Tryz.sizeOf39 j2 rfl rfl (nb rfl) ?_)
     refine a8 ?_; refine T5 hCC (α:=Ky) (fun _=>[(4,.ptr 1 0),(5,.ptr 2 0),(6,.ptr 3 0),(8,(sv (p))),(17,(.val (.int .i64 ((j:Int))))),(18,.ptr 4 0),(34,(.list (r8.map scv) true none)),(35,(.val (.int .i64 ((r8.length:Int))))),(36,(.val (.int .i64 ((i:Int)))))]) (fun k=>[o4 l nn q,.box (w7 fl (gnn fl.length)),.box (H6 ev (gnn ev.length)),.box (w7 fs (gnn fs.length)),.box k.cells]) (fun k=>∃ kk oo,k=⟨kk,p,oo⟩∧(kk=1∨kk=2)∧N4 ⟨kk,p,oo⟩=true) A5 (fun a ha=>by repeat' (first|exact tt|exact .val _|exact .ptr (nb rfl)|exact .map (nb rfl)|exact k8 _ _ _|exact N3 _ _ _ _|exact z7 _ _ _|exact L3 _ _ _ | refine l2 ?_ | refine ⟨?_,?_⟩)) ?_ ?_
     ·
      refine a7 (a6 ?_)
      refine cY b7 ?_; refine cY j9 ?_; refine a8 ?_
      refine b9 tt rfl (fun h5=>?_) (fun h5=>?_)
      ·skip
       refine a6 ?_; refine cY b7 ?_; refine cY (t6 #[(0,1),(1,1),(2,1)] rfl ⟨rfl,tt,rfl,tt⟩ Tryz.runUnderlying39 Tryz.zeroValue39 rfl ⟨_,rfl⟩ (fun w=>by kernel_rfl) rfl rfl) ?_
       refine cD (i7 rfl tt tt rfl c6 Tryz.sizeOf39 j2 rfl rfl (nb rfl) ?_)
       refine a8 ?_
       exact ⟨⟨2,p,[116]⟩,_,⟨2,_,rfl,.inr rfl,hkp.2.2.2⟩,⟨⟨tt,rfl⟩,⟨tt,rfl⟩,⟨tt,rfl⟩,⟨tt,rfl⟩,⟨tt,rfl⟩,⟨tt,rfl⟩,⟨tt,rfl⟩,⟨tt,rfl⟩,⟨tt,rfl⟩,tt⟩,rfl⟩
      ·skip
       refine c8 ?_
       exact ⟨⟨1,p,o⟩,_,⟨1,_,rfl,.inl rfl,hkp.2.2.1 o hom⟩,⟨⟨tt,rfl⟩,⟨tt,rfl⟩,⟨tt,rfl⟩,⟨tt,rfl⟩,⟨tt,rfl⟩,⟨tt,rfl⟩,⟨tt,rfl⟩,⟨tt,rfl⟩,⟨tt,rfl⟩,tt⟩,rfl⟩
     ·rintro _ ⟨kk,oo,rfl,hkk12,hkk⟩
      refine a7 (a6 ?_)
      refine cY Q5 ?_; refine cY a2n ?_; refine cY a8D ?_; refine cY (i8 rfl Tryz.call12 ⟨tt,tt,tt,tt⟩ (by exact a11 hm b8 he (k:=⟨kk,p,oo⟩) a60 _) rfl) ?_; refine cY b7 ?_; refine cY v7 ?_; refine cY v7 ?_; refine cY c7 ?_; refine cY c7 ?_
      refine a8 (a7 (a6 ?_))
      refine cY Q5 ?_; refine cY a2n ?_; refine cY a8D ?_; refine cY (i8 rfl Tryz.call12 ⟨tt,tt,tt,tt⟩ (by exact a11 hs b8 he (k:=⟨kk,p,oo⟩) a60 _) rfl) ?_; refine cY b7 ?_; refine cY v7 ?_; refine cY v7 ?_; refine cY c7 ?_; refine cY c7 ?_
      refine a8 (a7 (a6 ?_))
      refine cY b7 ?_; refine cY j9 ?_; refine cY b7 ?_; refine cG o5 ?_; refine cG C5 ?_; refine cY G5 ?_; refine cY b7 ?_; refine cG o5 ?_; refine cG o5 ?_; refine cG (fun hg=>a0i rfl hg hg rfl rfl (a5D _ _)) ?_; refine cY G5 ?_; refine a8 ?_
      refine b9 tt rfl (fun h6=>?_) (fun h6=>?_)
      ·exfalso
       simp at h6
       exact h6 (a9E hrv hsv hkk12 hab)
      ·skip
       refine c8 (a6 ?_)
       refine cY b7 ?_; refine cY m9 ?_; refine cY c7 ?_; refine a8 ?_
       exact ⟨(j+1),_,⟨by omega,by omega⟩,⟨⟨tt,rfl⟩,⟨tt,rfl⟩,⟨tt,rfl⟩,⟨tt,rfl⟩,⟨tt,rfl⟩,⟨tt,rfl⟩,⟨tt,rfl⟩,⟨tt,rfl⟩,tt⟩,rfl⟩
    ·skip
     refine m4 (a6 ?_)
     refine cY m9 ?_; refine cY b7 ?_; refine a8 ?_
     exact ⟨(i+1),_,⟨by omega,by omega⟩,⟨⟨tt,rfl⟩,⟨tt,rfl⟩,⟨tt,rfl⟩,⟨tt,rfl⟩,⟨tt,rfl⟩,⟨tt,rfl⟩,tt⟩,rfl⟩
 ·skip
  refine m4 (a7 (a6 ?_))
  refine cY (i8 rfl Tryz.call21 trivial (b0w _) rfl) ?_; refine cY c7 ?_
  refine a8 (c9 ?_)
  exact ⟨_,l9 rfl tt c6,(by exact ⟨(),.ret (.old (.val _)),tt⟩)⟩
theorem a6j (l:List Int) (nn:Bool) (hl:l.length≤maxLen) (σ:List c5):c4 CC 4 [.list (l.map icv) nn none] σ fun r τ=>r = .ret (.val (.bool true))∧τ=σ :=
 (L8 (res:=fun _:Unit=>.ret (.val (.bool true))) (P:=fun _=>True) hCC (fun a h=>by simp at h; subst h; exact d8 _ _) (a5J l nn hl) (fun _ _=>.val _) σ).mono fun r τ ⟨_,h1,h2,_⟩=>⟨h1,h2⟩
end Go.Proofs.YtoblbdedgjfeaaaGreatDoor
