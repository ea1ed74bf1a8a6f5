/- Part 5 of what the claim needs: values without addresses, and what the program's functions do with them. -/
import Derived.Shelf.LaysM
import Derived.Shelf.Strconv.Itoa3
import Derived.Test.YtlppbmfecjabeaaGreatDoorY4
set_option maxRecDepth 100000
set_option maxHeartbeats 4000000
namespace Go.Proofs.YtlppbmfecjabeaaGreatDoor
open Go Go.Cl
variable {T:TypeId} {rest:List CV} {σ:List c5} {i k q B a n L j:Nat} {α:Type} {s:Str} {fl:List Fi} {x:Str × Src} {R:Nat->Nat->Prop}
def a6L (l:List Int) (nn:Bool) (ps:List Str) (d L K B:Nat):Prop:=∀ (k:Nat),k<=B->∀ (σ:List c5) (q:Nat),σ[q]? = some (p8 l nn k)->b8 CC 122 [.ptr q 0,(.val (.int .i64 (d:Int))),.list (ps.map scv) (gnn ps.length) none] σ fun r τ=>∃ a:Str × Nat,r = .ret (sv a.1)/\τ=σ.set q (p8 l nn a.2)/\(a.1.length<=L/\k<=a.2/\a.2<=k+K)
abbrev eob (l:List Int) (nn:Bool) (ps:List Str) (d p:Nat):List c5:=[p8 l nn (p),.box [.ptr 0 0],.box [(.val (.int .i64 (d:Int)))],.box [(.list (ps.map scv) (gnn ps.length) none)]]
theorem b1H {l:List Int} {nn:Bool} {ps:List Str} {d K:Nat} (hd:d<=10) (ih:a6L l nn ps d L K B) (p:Nat) (hp:p<=B):b8 CC 163 [.ptr 1 0,.ptr 2 0,.ptr 3 0] (eob l nn ps (d+1) p) fun r τ=>∃ a:Str × Nat,r = .ret (sv a.1)/\τ=eob l nn ps (d+1) a.2/\(a.1.length<=L/\p<=a.2/\a.2<=p+K):=by
 refine (c4 Tryz.func163 rfl rfl ?_);refine a3C ?_; refine cY a5v ?_; refine cY a0F ?_; refine cY a4K ?_; refine cY a5U ?_;refine cD (b9 rfl b5i B9 (by have h:=ih p hp (eob l nn ps (d+1) p) 0 rfl; rw [show (d:Int)=((d+1:Nat):Int) - 1 by omega] at h; exact h) rfl ?_);intro ⟨s,p1⟩ ⟨h1,h2,h3⟩;dsimp only at h1 h2 h3 ⊢;refine z_7 ?_;exact ⟨_,j5 rfl tt c6,⟨(s,p1),rfl,rfl,h1,h2,h3⟩⟩
theorem c74 (l:List Int) (nn:Bool) (k:Nat) (hl:l.length<=maxLen) (d:Nat) (hd:d<=10) (ps:List Str) (hps:∀ s∈ps,s.length<=10) (hpl:ps.length<=2) (L K B:Nat) (hL:L<=1000000) (hK:K<=1000) (hat:k+3*K+10<=B) (hB:B<=900000000) (hclo:1<=d->∀ p,p<=B->b8 CC 163 [.ptr 1 0,.ptr 2 0,.ptr 3 0] (eob l nn ps d p) fun r τ=>∃ a:Str × Nat,r = .ret (sv a.1)/\τ=eob l nn ps d a.2/\(a.1.length<=L/\p<=a.2/\a.2<=p+K)):b8 CC 122 [.ptr 0 0,(.val (.int .i64 (d:Int))),.list (ps.map scv) (gnn ps.length) none] [p8 l nn k] fun r τ=>∃ a:Str × Nat,C6 1 τ r (.ret (sv a.1)) [p8 l nn a.2]/\(a.1.length<=3*L+30/\k<=a.2/\a.2<=k+(3*K+5)):=by
 refine (c4 Tryz.func122 rfl rfl ?_);refine z_0 ?_;refine cD (a5W rfl tt c6 (.inl rfl) ?_);refine cD (a5W rfl tt c6 (.inl rfl) ?_);refine cD (a5W rfl tt c6 (.inl rfl) ?_);refine z_3 ?_; refine w8 ?_; refine L7 (α:=Bool × Nat) (fun x=>[(3,.ptr 1 0),(4,.ptr 2 0),(5,.ptr 3 0),(15,(.val (.bool x.1)))]) (fun x=>[p8 l nn (x.2),.box [.ptr 0 0],.box [(.val (.int .i64 (d:Int)))],.box [(.list (ps.map scv) (gnn ps.length) none)]]) (fun x=>k<=x.2/\x.2<=k+1/\(x.1=false->1<=d)) ?_ ?_
 ·
  refine A0 ?_; refine cY a0F ?_; refine a4O ?_; refine cG (fun hg=>o9 rfl tt rfl c4B rfl rfl) ?_;refine b6b (.val (.bool false)) rfl rfl tt rfl rfl (fun hg=>b9 rfl b1a ⟨hg,rfl,rfl,tt⟩ (H8 l nn k _ 0 rfl om_ hl 1 4 om_) rfl ?_) (fun hg=>?_)
  ·
   intro _ _; refine a4L ?_;exact ⟨(_,k+1),(by exact ⟨do_,do_,fun _=>by simp at hg; omega⟩),⟨⟨tt,rfl⟩,⟨tt,rfl⟩,⟨tt,rfl⟩,⟨tt,rfl⟩,tt⟩,rfl⟩
  ·
   refine a4L ?_;exact ⟨(_,k),(by exact ⟨do_,do_,fun hb=>by exfalso; revert hb hg; cases decide ((d:Int)<=0) <;> simp⟩),⟨⟨tt,rfl⟩,⟨tt,rfl⟩,⟨tt,rfl⟩,⟨tt,rfl⟩,tt⟩,rfl⟩
 ·intro ⟨b,p⟩ E0 ⟨hp1,hp2,hbd⟩;dsimp only at hp1 hp2 hbd ⊢;refine cC (fun h1=>?_) fun h1=>?_
  ·refine L7 (α:=Nat) (fun _=>[(3,.ptr 1 0)]) (fun x=>[p8 l nn (x),.box [.ptr 0 0],.box [(.val (.int .i64 (d:Int)))],.box [(.list (ps.map scv) (gnn ps.length) none)]]) (fun x=>k<=x/\x<=k+3) ?_ ?_
   ·
    refine z_0 ?_; refine cY a5v ?_;refine cD (b9 rfl a76 o6 (K2 l nn p _ 0 rfl om_ hl 9 om_) rfl ?_);intro _ _; refine a5q ?_; refine L7 (α:=Bool) (fun b=>[(3,.ptr 1 0),(4,.ptr 2 0),(5,.ptr 3 0),(17,(.val (.int .i64 (O9 l p 9)))),(18,(.val (.bool b)))]) (fun _=>[p8 l nn (p+1),.box [.ptr 0 0],.box [(.val (.int .i64 (d:Int)))],.box [(.list (ps.map scv) (gnn ps.length) none)]]) (fun _=>True) ?_ ?_
    ·
     refine K1 ?_; refine cC (fun h2=>?_) fun h2=>?_
     ·refine i8 ?_;exact ⟨_,tt,⟨⟨tt,rfl⟩,⟨tt,rfl⟩,⟨tt,rfl⟩,⟨tt,rfl⟩,⟨tt,rfl⟩,tt⟩,rfl⟩
     ·refine a5E ?_;exact ⟨_,tt,⟨⟨tt,rfl⟩,⟨tt,rfl⟩,⟨tt,rfl⟩,⟨tt,rfl⟩,⟨tt,rfl⟩,tt⟩,rfl⟩
    ·intro b2 E2 _; refine cC (fun h3=>?_) fun h3=>?_
     ·refine z_0 ?_; refine cY a5U ?_; refine a7B ?_; refine cC (fun h4=>?_) fun h4=>?_
      ·obtain ⟨x,ps',rfl⟩:∃ x ps',ps=x::ps':=by
        rcases ps with _ | ⟨x,ps'⟩
        ·simp at h4
        ·exact ⟨x,ps',rfl⟩
       refine z_0 ?_; refine cY a5v ?_; refine cY a5U ?_;refine cD (b9 rfl a5i j1 (J0 l nn (p+1) _ 0 rfl om_ hl (x::ps') si_ om_) rfl ?_);intro v hv;have hv8:=hps v hv;refine z_7 ?_;exact ⟨_,j5 rfl tt c6,⟨(_,p+2),a1x rfl I0 (.old (.val _)),(by show List.length _<=_; simp only; omega),do_,do_⟩⟩
      ·refine i8 ?_;exact ⟨(p+1),⟨om_,om_⟩,tu_,rfl⟩
     ·refine K1 ?_; refine cC (fun h5=>?_) fun h5=>?_
      ·refine w8 ?_; refine c4C ?_; refine hY c1b ?_; refine d1B ?_; intro v hv;have hv8:v.length<=8:=P0 (.inr (.inr (.inr (.inl hv))));refine a3J ?_; refine z_7 ?_;exact ⟨_,j5 rfl tt c6,⟨(_,p+2),a1x rfl I0 (.old (.val _)),d5x,do_,do_⟩⟩
      ·refine K1 ?_; refine cC (fun h6=>?_) fun h6=>?_
       ·refine w8 ?_; refine c4C ?_; refine hY c1b ?_; refine d1B ?_; intro v hv;have hv8:v.length<=8:=P0 (.inr (.inr (.inr (.inl hv))));refine a3J ?_; refine z_7 ?_;exact ⟨_,j5 rfl tt c6,⟨(_,p+2),a1x rfl I0 (.old (.val _)),d5x,do_,do_⟩⟩
       ·refine K1 ?_; refine cC (fun h7=>?_) fun h7=>?_
        ·refine w8 ?_; refine c4C ?_; refine hY (c7 rfl Tryz.call84 trivial (b05 _) rfl) ?_; refine N3 ?_;refine cD (b9 rfl a5i j1 (J0 l nn (p+1) _ 0 rfl om_ hl a0p de_ de_) rfl ?_);intro v hv;have hv8:v.length<=8:=P0 (.inr (.inr (.inr (.inr hv))));refine a3J ?_; refine z_7 ?_;exact ⟨_,j5 rfl tt c6,⟨(_,p+2),a1x rfl I0 (.old (.val _)),d5x,do_,do_⟩⟩
        ·refine K1 ?_; refine cC (fun h8=>?_) fun h8=>?_
         ·refine z_0 ?_; refine cY a5v ?_;refine cD (b9 rfl b1a a2C (H8 l nn (p+1) _ 0 rfl om_ hl 1 5 om_) rfl ?_);intro _ _; refine i7 ?_; refine cC (fun h9=>?_) fun h9=>?_
          ·refine z_0 ?_; refine cY a5v ?_; refine cY (A3 ([0,1,63].map icv) rfl ⟨rfl,rfl,rfl,tt⟩ t_5 t_1 t_6 rfl rfl rfl rfl rfl rfl rfl rfl rfl) ?_;refine cD (b9 rfl b9S j1 (a5b l nn (p+2) _ 0 rfl om_ hl [0,1,63] si_ si_) rfl ?_);intro v hv;obtain ⟨m,hm,hm2⟩:∃ m:Nat,v=(m:Int)/\m < 10^17:=by
            simp only [Q2,b0s,or_false] at hv;exact ⟨v.toNat,om_,om_⟩
           subst hm;have hdl:=a1C 16 m hm2;refine cY c0X ?_; refine a3J ?_; refine z_7 ?_;exact ⟨_,j5 rfl tt c6,⟨(_,p+3),a1x rfl I0 (.old (.val _)),d5x,do_,do_⟩⟩
          ·refine i8 ?_;exact ⟨(p+2),⟨om_,om_⟩,tu_,rfl⟩
         ·refine i8 ?_;exact ⟨(p+1),⟨om_,om_⟩,tu_,rfl⟩
   ·intro p3 E3 ⟨hp3,hp4⟩; refine z_0 ?_; refine cY a5v ?_; refine cY (A3 ([0,1,2,3,10,255,9007199254740992,1073741824].map icv) rfl ⟨rfl,rfl,rfl,rfl,rfl,rfl,rfl,rfl,tt⟩ t_5 t_1 t_6 rfl rfl rfl rfl rfl rfl rfl rfl rfl) ?_;refine cD (b9 rfl b9S j1 (a5b l nn (p3) _ 0 rfl om_ hl [0,1,2,3,10,255,9007199254740992,1073741824] si_ si_) rfl ?_);intro v hv;obtain ⟨m,hm,hm2⟩:∃ m:Nat,v=(m:Int)/\m < 10^17:=by
     simp only [Q2,b0s,or_false] at hv;exact ⟨v.toNat,om_,om_⟩
    subst hm;have hdl:=a1C 16 m hm2;refine cY c0X ?_; refine z_7 ?_;exact ⟨_,j5 rfl tt c6,⟨(_,p3+1),a1x rfl I0 (.old (.val _)),(by show List.length _<=_; simp only; omega),do_,do_⟩⟩
  ·have hd1:1<=d:=hbd a4h;refine a0x ?_; refine cY (b1h rfl B9) ?_; refine z_2 ?_; refine a1R ?_; refine cY a5v ?_;refine cD (b9 rfl a76 o6 (K2 l nn p _ 0 rfl om_ hl 10 om_) rfl ?_);intro _ _; refine a5q ?_; refine L7 (α:=Bool) (fun b=>[(3,.ptr 1 0),(7,(.clo 163 [.ptr 1 0,.ptr 2 0,.ptr 3 0])),(64,(.val (.int .i64 (O9 l p 10)))),(65,(.val (.bool b)))]) (fun _=>[p8 l nn (p+1),.box [.ptr 0 0],.box [(.val (.int .i64 (d:Int)))],.box [(.list (ps.map scv) (gnn ps.length) none)]]) (fun _=>True) ?_ ?_
   ·
    refine K1 ?_; refine cC (fun h10=>?_) fun h10=>?_
    ·exact c1c
    ·refine K1 ?_; refine cC (fun h11=>?_) fun h11=>?_
     ·exact c1c
     ·refine a5E ?_;exact ⟨_,tt,⟨⟨tt,rfl⟩,⟨tt,rfl⟩,⟨tt,rfl⟩,⟨tt,rfl⟩,tt⟩,rfl⟩
   ·intro b4 E4 _; refine cC (fun h12=>?_) fun h12=>?_
    ·refine w8 ?_; refine a2z [] [3] [0,1,4,2,3,5,6,7] 3 [0,0,3,7,0,23,63,127] [[2],[2],[],[],[]] (hd1l:=[0,1,4]) (tll:=[(2,[2]),(3,[2]),(5,[]),(6,[]),(7,[])]) d5 d5 d5 tt rfl rfl rfl ?_; refine chf rfl c67 ?_; refine chf rfl (d6 rfl d2c) ?_; refine a8S ?_;refine a3A rfl rfl rfl rfl (b9 rfl a5i j1 (J0 l nn (p+1) _ 0 rfl om_ hl V6 de_ de_) rfl ?_);intro v hv;have hv8:v.length<=8:=P0 (.inr (.inl hv));refine ⟨⟨C8,tt⟩,?_⟩;refine d2Y ?_; intro ⟨s1,p1⟩ ⟨hs1,hq1,hr1⟩;dsimp only at hs1 hq1 hr1 ⊢;refine c5k ?_; refine c0Y ?_; refine a1R ?_; refine cY a5v ?_; refine cY (A3 ([0,0,0,1].map icv) rfl ⟨rfl,rfl,rfl,rfl,tt⟩ t_5 t_1 t_6 rfl rfl rfl rfl rfl rfl rfl rfl rfl) ?_;refine cD (b9 rfl b9S j1 (a5b l nn (p1) _ 0 rfl om_ hl [0,0,0,1] si_ si_) rfl ?_);intro n hn;have hn01:n=0\/n=1:=by
      simp only [Q2,b0s,or_false] at hn;omega
     refine z_2 ?_; refine B7 ?_; refine S3 (α:=Str × Nat × Int) (fun x=>[(7,(.clo 163 [.ptr 1 0,.ptr 2 0,.ptr 3 0])),(8,(sv x.1)),(9,(.val (.int .i64 x.2.2)))]) (fun x=>[p8 l nn (x.2.1),.box [.ptr 0 0],.box [(.val (.int .i64 (d:Int)))],.box [(.list (ps.map scv) (gnn ps.length) none)]]) (fun x=>(x.2.2=0\/x.2.2=1)/\(x.2.2=1->x.1.length<=L+9/\x.2.1<=k+4+K)/\x.1.length<=2*L+11/\k<=x.2.1/\x.2.1<=k+4+2*K) (fun x=>x.2.2.toNat) (_,p1+1,n) ⟨hn01,fun _=>⟨by show List.length _<=_; simp only [n_6,n_7,I7]; omega,do_⟩,by show List.length _<=_; simp only [n_6,n_7,I7]; omega,do_,do_⟩ ⟨⟨tt,rfl⟩,⟨tt,rfl⟩,⟨tt,rfl⟩,tt⟩ rfl ?_; intro ⟨s,p5,n5⟩ E5 ⟨hn5,hn6,hs5,hq5,hq6⟩;dsimp only at hn5 hn6 hs5 hq5 hq6 ⊢;refine a6Y ?_; refine cC (fun h13=>?_) fun h13=>?_
     ·have h13':n5=1:=by simp at h13; omega
      obtain ⟨hs6,hq7⟩:=hn6 h13';refine a6K ?_; refine R7 ?_;refine cD (W9 rfl tt rfl b8S trivial (by exact hclo om_ (p5) om_) rfl ?_);intro ⟨s2,p2⟩ ⟨hs2,hq2,hr2⟩;dsimp only at hs2 hq2 hr2 ⊢;refine cY b0Q ?_; refine cY a8J ?_; refine a8x ?_; refine a5w ?_;exact ⟨(_,p2,n5 - 1),do_,(by exact ⟨do_,fun h=>by dsimp only at h; omega,by show List.length _<=_; simp only [n_6,n_7,I7]; omega,do_,do_⟩),⟨⟨tt,rfl⟩,⟨tt,rfl⟩,⟨tt,rfl⟩,tt⟩,rfl⟩
     ·refine a9I ?_; refine cY a5Y ?_; refine z_7 ?_;exact ⟨_,j5 rfl tt c6,⟨(_,p5),a1x rfl I0 (.old (.val _)),d5x,do_,do_⟩⟩
    ·refine K1 ?_; refine cC (fun h14=>?_) fun h14=>?_
     ·refine d1J ?_; intro ⟨s1,p1⟩ ⟨hs1,hq1,hr1⟩;dsimp only at hs1 hq1 hr1 ⊢;refine a3J ?_; refine cY j7 ?_;refine cD (W9 rfl tt rfl b8S trivial (by exact hclo om_ (p1) om_) rfl ?_);intro ⟨s2,p2⟩ ⟨hs2,hq2,hr2⟩;dsimp only at hs2 hq2 hr2 ⊢;refine b3r ?_; refine cY j7 ?_;refine cD (W9 rfl tt rfl b8S trivial (by exact hclo om_ (p2) om_) rfl ?_);intro ⟨s3,p3⟩ ⟨hs3,hq3,hr3⟩;dsimp only at hs3 hq3 hr3 ⊢;refine b3r ?_; refine z_7 ?_;exact ⟨_,j5 rfl tt c6,⟨(_,p3),a1x rfl I0 (.old (.val _)),d5x,do_,do_⟩⟩
     ·refine K1 ?_; refine cC (fun h15=>?_) fun h15=>?_
      ·refine w8 ?_; refine a2z [] [3,4] [0,1,5,2,3,4,6,7,8,9] 3 [0,0,3,7,15,0,39,127,255,511] [[2],[2],[2],[],[],[],[]] (hd1l:=[0,1,5]) (tll:=[(2,[2]),(3,[2]),(4,[2]),(6,[]),(7,[]),(8,[]),(9,[])]) d5 d5 d5 tt rfl rfl rfl ?_; refine chf rfl c67 ?_; refine chf rfl (d6 rfl c1b) ?_; refine a8S ?_;refine a3A rfl rfl rfl rfl (b9 rfl a5i j1 (J0 l nn (p+1) _ 0 rfl om_ hl a1l de_ de_) rfl ?_);intro v hv;have hv8:v.length<=8:=P0 (.inr (.inr (.inr (.inl hv))));refine ⟨⟨C8,tt⟩,?_⟩;refine b07 rfl rfl (fun _=>d6 rfl b0Q) ?_; refine d2Y ?_; intro ⟨s1,p1⟩ ⟨hs1,hq1,hr1⟩;dsimp only at hs1 hq1 hr1 ⊢;refine c5k ?_;refine b3C rfl rfl rfl c0R ⟨tt,?_⟩;refine c0Y ?_; refine G3 ?_;exact ⟨_,j5 rfl tt c6,⟨(_,p1),a1x rfl I0 (.old (.val _)),d5x,do_,do_⟩⟩
      ·refine K1 ?_; refine cC (fun h16=>?_) fun h16=>?_
       ·refine d1J ?_; intro ⟨s1,p1⟩ ⟨hs1,hq1,hr1⟩;dsimp only at hs1 hq1 hr1 ⊢;refine a3J ?_; refine z_7 ?_;exact ⟨_,j5 rfl tt c6,⟨(_,p1),a1x rfl I0 (.old (.val _)),d5x,do_,do_⟩⟩
       ·refine z_9 ?_; refine a2z [] [2,3,7,8] [0,4,5,9,1,2,3,6,7,8,10,11,12,13] 4 [0,1,3,7,0,0,51,127,255,0,627,2047,4095,8191] [[1,2,3],[1,2,3],[1,2,3],[3],[3],[3],[],[],[],[]] (hd1l:=[0,4,5,9]) (tll:=[(1,[1,2,3]),(2,[1,2,3]),(3,[1,2,3]),(6,[3]),(7,[3]),(8,[3]),(10,[]),(11,[]),(12,[]),(13,[])]) d5 d5 d5 tt rfl rfl rfl ?_; refine chf rfl U4 ?_; refine chf rfl c67 ?_; refine chf rfl (d6 rfl d3C) ?_; refine a8S ?_;refine a3A rfl rfl rfl rfl (W9 rfl tt rfl b8S trivial (by exact hclo om_ (p+1) om_) rfl ?_);intro ⟨s1,p1⟩ ⟨hs1,hq1,hr1⟩;dsimp only at hs1 hq1 hr1 ⊢;refine ⟨⟨(by exact d6 rfl a5v),(by exact d6 rfl d3C),C8,tt⟩,?_⟩;refine b07 rfl rfl (fun _=>d6 rfl b0Q) ?_; refine b07 rfl rfl (fun _=>d6 rfl a5Y) ?_;refine a3A rfl rfl rfl rfl (b9 rfl a5i j1 (J0 l nn p1 _ 0 rfl om_ hl ([[43],[45],[42],[47],[37],[60],[61,61]]:List Str) si_ si_) rfl ?_);intro v hv;have hv8:v.length<=2:=by revert v; decide
        refine ⟨⟨C8,tt⟩,?_⟩;refine b07 rfl rfl (fun _=>d6 rfl a8J) ?_; refine b07 rfl rfl (fun _=>d6 rfl a5Y) ?_;refine a3A rfl rfl rfl rfl (W9 rfl tt rfl b8S trivial (by exact hclo om_ (p1+1) om_) rfl ?_);intro ⟨s2,p2⟩ ⟨hs2,hq2,hr2⟩;dsimp only at hs2 hq2 hr2 ⊢;refine c5k ?_;refine b3C rfl rfl rfl c0R ⟨tt,?_⟩;refine c0Y ?_; refine G3 ?_;exact ⟨_,j5 rfl tt c6,⟨(_,p2),a1x rfl I0 (.old (.val _)),d5x,do_,do_⟩⟩
theorem a65 {l:List Int} {nn:Bool} (hl:l.length<=maxLen) (d:Nat) (hd:d<=10) (ps:List Str) (hps:∀ s∈ps,s.length<=10) (hpl:ps.length<=2) (L K B:Nat) (hL:L<=1000000) (hK:K<=1000) (hat:k+3*K+10<=B) (hB:B<=900000000) (hclo:1<=d->∀ p,p<=B->b8 CC 163 [.ptr 1 0,.ptr 2 0,.ptr 3 0] (eob l nn ps d p) fun r τ=>∃ a:Str × Nat,r = .ret (sv a.1)/\τ=eob l nn ps d a.2/\(a.1.length<=L/\p<=a.2/\a.2<=p+K)) (hq:σ[q]? = some (p8 l nn k)) :
 b8 CC 122 [.ptr q 0,(.val (.int .i64 (d:Int))),.list (ps.map scv) (gnn ps.length) none] σ fun r τ=>∃ a:Str × Nat,r = .ret (sv a.1)/\τ=σ.set q (p8 l nn a.2)/\(a.1.length<=3*L+30/\k<=a.2/\a.2<=k+(3*K+5)) :=
 a6C (c:=fun a:Str × Nat=>sv a.1) (S:=fun a=>p8 l nn a.2) hCC (fun a h=>by simp at h; rcases h with rfl | rfl; exact .val _; exact F7 _ _) (fun _=>.val _) (fun _=>D8 _ _ _) (D8 _ _ _) rfl (c74 l nn k hl d hd ps hps hpl L K B hL hK hat hB hclo) σ q hq
theorem a7k (l:List Int) (nn:Bool) (hl:l.length<=maxLen) (ps:List Str) (hps:∀ s∈ps,s.length<=10) (hpl:ps.length<=2):a6L l nn ps 0 30 5 800000000/\a6L l nn ps 1 120 20 799999000/\a6L l nn ps 2 390 65 799998000/\a6L l nn ps 3 1200 200 799997000:=by
 have e0:a6L l nn ps 0 30 5 800000000:=fun k hk σ q hq=>a65 hl 0 om_ ps hps hpl 0 0 900000000 om_ om_ om_ om_ (fun h=>by omega) hq;have e1:a6L l nn ps 1 120 20 799999000:=fun k hk σ q hq=>a65 hl 1 om_ ps hps hpl 30 5 800000000 om_ om_ om_ om_ (fun _ p hp=>b1H om_ e0 p hp) hq;have e2:a6L l nn ps 2 390 65 799998000:=fun k hk σ q hq=>a65 hl 2 om_ ps hps hpl 120 20 799999000 om_ om_ om_ om_ (fun _ p hp=>b1H om_ e1 p hp) hq;have e3:a6L l nn ps 3 1200 200 799997000:=fun k hk σ q hq=>a65 hl 3 om_ ps hps hpl 390 65 799998000 om_ om_ om_ om_ (fun _ p hp=>b1H om_ e2 p hp) hq;exact ⟨e0,e1,e2,e3⟩
theorem c41 (l:List Int) (nn:Bool) (k:Nat) (hat:k<=700000000) (hl:l.length<=maxLen):b8 CC 73 [.ptr 0 0] [p8 l nn k] fun r τ=>∃ a:Str × Nat,C6 1 τ r (.ret (sv a.1)) [p8 l nn a.2]/\(a.1.length<=1240/\k<=a.2/\a.2<=k+210):=by
 refine (c4 Tryz.func73 rfl rfl ?_);refine z_6 ?_; refine L7 (α:=Nat) (fun _=>[(0,.ptr 0 0)]) (fun x=>[p8 l nn (x)]) (fun x=>x=k+1) ?_ ?_
 ·
  refine z_1 ?_;refine cD (b9 rfl a76 o6 (K2 l nn k _ 0 rfl om_ hl 8 om_) rfl ?_);intro _ _; refine a5q ?_; refine L7 (α:=Bool) (fun b=>[(0,.ptr 0 0),(2,(sv ([]))),(6,(.val (.int .i64 (O9 l k 8)))),(7,(.val (.bool b)))]) (fun _=>[p8 l nn (k+1)]) (fun _=>True) ?_ ?_
  ·
   refine K1 ?_; refine cC (fun h1=>?_) fun h1=>?_
   ·exact c1c
   ·refine K1 ?_; refine cC (fun h2=>?_) fun h2=>?_
    ·exact c1c
    ·refine a5E ?_;exact ⟨_,tt,⟨⟨tt,rfl⟩,⟨tt,rfl⟩,⟨tt,rfl⟩,⟨tt,rfl⟩,tt⟩,rfl⟩
  ·intro b E0 _; refine cC (fun h3=>?_) fun h3=>?_
   ·refine z_1 ?_; refine cY (c7 rfl Tryz.call82 trivial (b8Y _) rfl) ?_;refine cD (b9 rfl a5i j1 (J0 l nn (k+1) _ 0 rfl om_ hl a42 de_ de_) rfl ?_);intro v hv;have hv8:v.length<=8:=P0 (.inr (.inr (.inl hv)));refine a3J ?_; refine cY j7 ?_;refine cD (b9 rfl b5i a2C (by exact (a7k l nn hl ([]:List Str) de_ de_).2.2.2 (k+2) om_ _ 0 rfl) rfl ?_);intro ⟨s1,p1⟩ ⟨hs1,hq1,hr1⟩;dsimp only at hs1 hq1 hr1 ⊢;refine b3r ?_; refine z_7 ?_;exact ⟨_,j5 rfl tt c6,⟨(_,p1),a1x rfl I0 (.old (.val _)),d5x,do_,do_⟩⟩
   ·refine K1 ?_; refine cC (fun h4=>?_) fun h4=>?_
    ·refine z_1 ?_; refine cY c1b ?_;refine cD (b9 rfl a5i j1 (J0 l nn (k+1) _ 0 rfl om_ hl a1l de_ de_) rfl ?_);intro v hv;have hv8:v.length<=8:=P0 (.inr (.inr (.inr (.inl hv))));refine a3J ?_; refine cY j7 ?_;refine cD (b9 rfl b5i a2C (by exact (a7k l nn hl ([]:List Str) de_ de_).2.2.1 (k+2) om_ _ 0 rfl) rfl ?_);intro ⟨s1,p1⟩ ⟨hs1,hq1,hr1⟩;dsimp only at hs1 hq1 hr1 ⊢;refine b3r ?_; refine z_7 ?_;exact ⟨_,j5 rfl tt c6,⟨(_,p1),a1x rfl I0 (.old (.val _)),d5x,do_,do_⟩⟩
    ·refine i8 ?_;exact ⟨_,rfl,⟨⟨tt,rfl⟩,tt⟩,rfl⟩
 ·intro p E0 hp; subst hp; refine z_0 ?_;refine cD (c9h rfl rfl rfl rfl t_2 t_0 t_3 rfl ?_);refine a4a ?_;refine cD (b9 rfl b1a a2C (H8 l nn (k+1) _ 0 rfl om_ hl 1 5 om_) rfl ?_);intro _ _; refine i7 ?_; refine cC (fun h5=>?_) fun h5=>?_
  ·refine z_5 ?_; refine cY (A3 [scv [98]] rfl ⟨rfl,tt⟩ t_2 t_0 t_3 rfl rfl rfl rfl rfl rfl rfl rfl rfl) ?_;refine cD (D9 rfl tt tt rfl (show 1=List.length _ from rfl) R6 t_2 t_0 a8h t_3 rfl (.inr rfl) X0 V5 H3 (([[97],[98]]:List Str).map scv) 2 rfl rfl ?_);refine M9 ?_; refine d2a ?_; intro v hv;have hv8:v.length<=8:=P0 (.inr (.inl hv));refine a3J ?_; refine a4a ?_; refine a7B ?_; refine cC (fun h6=>?_) fun h6=>?_
   ·refine z_5 ?_; refine cY a5Y ?_; refine M9 ?_; refine cY a5Y ?_; refine a8a ?_;refine cD (b9 rfl b5i b3m (by exact (a7k l nn hl ([[97],[98]]:List Str) de_ de_).2.2.2 (k+3) om_ _ 0 rfl) rfl ?_);intro ⟨s1,p1⟩ ⟨hs1,hq1,hr1⟩;dsimp only at hs1 hq1 hr1 ⊢;refine b3r ?_; refine z_7 ?_;exact ⟨_,j5 rfl tt c6,⟨(_,p1),a1x rfl I0 (.old (.val _)),d5x,do_,do_⟩⟩
   ·exfalso; simp at h6
  ·refine a05 ?_; refine d2a ?_; intro v hv;have hv8:v.length<=8:=P0 (.inr (.inl hv));refine a3J ?_; refine a4a ?_; refine a7B ?_; refine cC (fun h7=>?_) fun h7=>?_
   ·exfalso; simp at h7
   ·refine a05 ?_; refine cY a5Y ?_; refine a8a ?_;refine cD (b9 rfl b5i b3m (by exact (a7k l nn hl ([[97]]:List Str) de_ de_).2.2.2 (k+3) om_ _ 0 rfl) rfl ?_);intro ⟨s1,p1⟩ ⟨hs1,hq1,hr1⟩;dsimp only at hs1 hq1 hr1 ⊢;refine b3r ?_; refine z_7 ?_;exact ⟨_,j5 rfl tt c6,⟨(_,p1),a1x rfl I0 (.old (.val _)),d5x,do_,do_⟩⟩
theorem c13 (l:List Int) (nn:Bool) (k:Nat) (hat:k<=700000000) (hl:l.length<=maxLen) (σ:List c5) (q:Nat) (hq:σ[q]? = some (p8 l nn k)):b8 CC 73 [.ptr q 0] σ fun r τ=>∃ a:Str × Nat,r = .ret (sv a.1)/\τ=σ.set q (p8 l nn a.2)/\(a.1.length<=1240/\k<=a.2/\a.2<=k+210) :=
 a6C (c:=fun a:Str × Nat=>sv a.1) (S:=fun a=>p8 l nn a.2) hCC (fun a h=>by simp at h) (fun _=>.val _) (fun _=>D8 _ _ _) (D8 _ _ _) rfl (c41 l nn k hat hl) σ q hq
theorem b8K (l:List Int) (nn:Bool) (k:Nat) (hat:k<=600000000) (hl:l.length<=maxLen) (pkg:Str) (hpk:pkg.length<=8):b8 CC 68 [.ptr 0 0,(sv pkg)] [p8 l nn k] fun r τ=>∃ a:Str × Nat,C6 1 τ r (.ret (sv a.1)) [p8 l nn a.2]/\(a.1.length<=6300/\k<=a.2/\a.2<=k+1070):=by
 refine (c4 Tryz.func68 rfl rfl ?_);refine a1T ?_; refine a3J ?_; refine z_2 ?_; refine L7 (α:=Str × Nat) (fun x=>[(0,.ptr 0 0),(1,(sv pkg)),(5,(sv x.1))]) (fun x=>[p8 l nn (x.2)]) (fun x=>x.1.length<=40/\x.2=k+1) ?_ ?_
 ·
  refine z_1 ?_;refine cD (b9 rfl b1a a2C (H8 l nn k _ 0 rfl om_ hl 1 8 om_) rfl ?_);intro _ _; refine i7 ?_; refine cC (fun h1=>?_) fun h1=>?_
  ·refine z_5 ?_; refine cY b0Q ?_; refine z_2 ?_;exact ⟨(_,k+1),d5b,⟨⟨tt,rfl⟩,⟨tt,rfl⟩,⟨tt,rfl⟩,tt⟩,rfl⟩
  ·refine i8 ?_;exact ⟨(_,k+1),d5b,⟨⟨tt,rfl⟩,⟨tt,rfl⟩,⟨tt,rfl⟩,tt⟩,rfl⟩
 ·intro ⟨s,p⟩ E0 ⟨hs,hp⟩;dsimp only at hs hp ⊢;subst hp; refine a04 ?_;refine cD (b9 rfl a76 o6 (K2 l nn (k+1) _ 0 rfl om_ hl 3 om_) rfl ?_);intro _ _;have hb1:=a2q (l:=l) (k:=k+1) (n:=3) om_;refine z_2 ?_; refine B7 ?_; refine A2 hCC 1 rfl (α:=Str × List Str × Nat × Int) (fun x=>[(0,.ptr 0 0),(1,(sv pkg)),(5,(sv x.1)),(6,(.list (x.2.1.map scv) (gnn x.2.1.length) (E7 x.2.1.length 1))),(7,(.val (.int .i64 x.2.2.2)))]) (fun x=>[p8 l nn x.2.2.1,r7 x.2.1.length]) (fun x=>0<=x.2.2.2/\x.2.2.2<=2/\x.1.length+20*x.2.2.2<=80/\x.2.1.length+x.2.2.2<=2/\k+2<=x.2.2.1/\x.2.2.1+x.2.2.2<=k+4) (fun x=>x.2.2.2.toNat) ⟨(s,[],k+2,O9 l (k+1) 3),[0,9],⟨do_,do_,do_,by dsimp only; simp; omega,do_,do_⟩,⟨rfl,rfl⟩,⟨a6p,a6p,a6p,a6p,a6p,tt⟩,⟨.inr ⟨_,rfl,.same rfl I0⟩,.inl rfl,tt⟩⟩ ?_; intro ⟨s,seen,p,n⟩ ⟨hn1,hn2,hs2,hsn,hp1,hp2⟩;dsimp only at hn1 hn2 hs2 hsn hp1 hp2 ⊢;refine a6Y ?_; refine cC (fun h2=>?_) fun h2=>?_
  ·have hn3:1<=n:=by simp at h2; omega
   refine Z0 ?_; refine cY (c7 rfl Tryz.call69 trivial (a5R _) rfl) ?_;refine cD (b9 rfl a5i j1 (J0 l nn (p) _ 0 rfl om_ hl U0 de_ de_) rfl ?_);intro v hv;have hv8:v.length<=8:=P0 (.inl hv);refine a7J ?_; refine cY d2i ?_; refine a7Z ?_; refine cG (fun hg=>c7 rfl c4D ⟨hg,hg,tt⟩ (a95 seen _ v om_ _) rfl) ?_; refine b6M ?_; refine cC (fun h3=>?_) fun h3=>?_
   ·refine z_4 ?_; refine cY (A3 [scv v] rfl ⟨tt,tt⟩ t_2 t_0 t_3 rfl rfl rfl rfl rfl rfl rfl rfl rfl) ?_;refine cD (D9 rfl tt tt rfl si_ R6 t_2 t_0 a8h t_3 rfl (.inr rfl) X0 V5 H3 ((seen++[v]).map scv) (seen++[v]).length si_ si_ ?_);refine z_2 ?_; refine R7 ?_; refine a3J ?_; refine cY a8J ?_; refine a8x ?_; refine a5w ?_;exact ⟨(s++((([105,109,112,111,114,116,32]:Str)++v)++[59,10]),seen++[v],p+1,n - 1),[0,2],(by exact ⟨do_,do_,do_,by dsimp only; simp only [n_6,n_7,I7]; omega,by dsimp only; simp only [n_6,n_7,I7]; omega,do_,do_⟩),⟨rfl,rfl⟩,q_5,⟨.inr ⟨_,rfl,.same rfl I0⟩,.inr ⟨_,rfl,.same rfl s9⟩,tt⟩⟩
   ·refine b1q ?_; refine a5w ?_;exact ⟨(s,seen,p+1,n - 1),[0,1],⟨do_,do_,do_,do_,do_,do_,do_⟩,⟨rfl,rfl⟩,q_5,⟨.inr ⟨_,rfl,.same rfl I0⟩,.inr ⟨_,rfl,.same rfl s9⟩,tt⟩⟩
  ·have hn3:n=0:=by simp at h2; omega
   subst hn3; refine z6 ?_; refine a04 ?_;refine cD (b9 rfl a76 o6 (K2 l nn p _ 0 rfl om_ hl 5 om_) rfl ?_);intro _ _;have hb2:=a2q (l:=l) (k:=p) (n:=5) om_;refine cY (b9Z rfl rfl tt rfl rfl om_ om_) ?_; refine z_2 ?_; refine B7 ?_; refine A2 hCC 2 rfl (α:=Str × List Str × Nat × Int) (fun x=>[(0,.ptr 0 0),(5,(sv x.1)),(9,(.list (x.2.1.map scv) (gnn x.2.1.length) (E7 x.2.1.length 2))),(10,(.val (.int .i64 x.2.2.2)))]) (fun x=>[p8 l nn x.2.2.1,r7 seen.length,r7 x.2.1.length]) (fun x=>0<=x.2.2.2/\x.2.2.2<=5/\x.1.length+1240*x.2.2.2<=6280/\x.2.1.length+x.2.2.2<=5/\k+3<=x.2.2.1/\x.2.2.1+211*x.2.2.2<=k+1060) (fun x=>x.2.2.2.toNat) ⟨(s,[],p+1,1+O9 l p 5),[0,1,9],⟨do_,do_,do_,by dsimp only; simp; omega,do_,do_⟩,⟨rfl,rfl⟩,⟨a6p,a6p,a6p,a6p,tt⟩,⟨.inr ⟨_,rfl,.same rfl I0⟩,.inr ⟨_,rfl,.same rfl s9⟩,.inl rfl,tt⟩⟩ ?_; intro ⟨s,hds,p2,n⟩ ⟨hn1,hn2,hs3,hhn,hp3,hp4⟩;dsimp only at hn1 hn2 hs3 hhn hp3 hp4 ⊢;refine a6Y ?_; refine cC (fun h4=>?_) fun h4=>?_
   ·have hn3:1<=n:=by simp at h4; omega
    refine Z0 ?_;refine cD (b9 rfl Tryz.call73 ⟨tt,tt⟩ (c13 l nn p2 om_ hl _ 0 rfl) rfl ?_);intro ⟨dt,p5⟩ ⟨hdt,hq5,hr5⟩;dsimp only at hdt hq5 hr5 ⊢;refine M9 ?_; refine z_2 ?_; refine w8 ?_; refine b2y ?_; refine S3 (α:=Nat) (fun i=>[(0,.ptr 0 0),(5,(sv s)),(9,(.list (hds.map scv) (gnn hds.length) (E7 hds.length 2))),(10,(.val (.int .i64 n))),(11,(sv dt)),(12,(sv dt)),(13,(.val (.int .i64 (i:Int))))]) (fun _=>[p8 l nn p5,r7 seen.length,r7 hds.length]) (fun i=>i<=dt.length) (fun i=>dt.length - i) 0 (n_3 _) tu_ rfl ?_; intro i E3 hi; refine b2E ?_; refine cC (fun h5=>?_) fun h5=>?_
    ·have hlt:i < dt.length:=by simp at h5; omega
     obtain ⟨c,hc⟩:∃ c,dt[i]? = some c:=⟨dt[i]'hlt,si_⟩;refine a6K ?_; refine z_4 ?_; refine cY (K7 rfl tt tt rfl rfl t_4 om_ (by rw [a23]; exact hc)) ?_; refine cY P1 ?_; refine a7Z ?_; refine cG (fun hg=>K7 rfl hg hg rfl rfl t_4 a90 (by rw [a23]; exact hc)) ?_; refine a8M ?_; refine cC (fun h6=>?_) fun h6=>?_
     ·refine z_4 ?_; refine cY (G8 (h:=i) rfl tt rfl t_4 rfl b0p a3v a3v) ?_; refine z_2 ?_; refine z6 ?_; refine L7 (α:=Bool × Nat) (fun x=>[(0,.ptr 0 0),(5,(sv s)),(9,(.list (hds.map scv) (gnn hds.length) (E7 hds.length 2))),(10,(.val (.int .i64 n))),(11,(sv dt)),(12,(sv (dt.take i))),(84,(.val (.bool x.1)))]) (fun x=>[p8 l nn x.2,r7 seen.length,r7 hds.length]) (fun x=>p5<=x.2/\x.2<=p5+1) ?_ ?_
      ·
       refine R7 ?_; refine cY (c7 rfl c4D j1 (a95 hds _ _ om_ _) rfl) ?_; refine cY a5M ?_; refine a6i ?_;refine b6b (.val (.bool false)) rfl rfl tt rfl rfl (fun hg=>b9 rfl b1a ⟨hg,rfl,rfl,tt⟩ (H8 l nn p5 _ 0 rfl om_ hl 1 40 om_) rfl ?_) (fun hg=>?_)
       ·
        intro _ _;exact d1T
       ·
        refine a4L ?_;exact ⟨(_,p5),⟨do_,do_⟩,⟨⟨tt,rfl⟩,⟨tt,rfl⟩,⟨tt,rfl⟩,⟨tt,rfl⟩,⟨tt,rfl⟩,⟨tt,rfl⟩,⟨tt,rfl⟩,tt⟩,rfl⟩
      ·intro ⟨b6,p6⟩ E6 ⟨hq6,hr6⟩;dsimp only at hq6 hr6 ⊢;refine cC (fun h7=>?_) fun h7=>?_
       ·refine z_4 ?_; refine cY (A3 [scv (dt.take i)] rfl ⟨tt,tt⟩ t_2 t_0 t_3 rfl rfl rfl rfl rfl rfl rfl rfl rfl) ?_;refine cD (D9 rfl tt tt rfl si_ R6 t_2 t_0 a8h t_3 rfl (.inr rfl) X0 V5 H3 ((hds++[(dt.take i)]).map scv) (hds++[(dt.take i)]).length si_ si_ ?_);refine z_2 ?_; refine R7 ?_; refine cY a8J ?_; refine a8x ?_; refine a5w ?_;exact ⟨(s++dt,hds++[(dt.take i)],p6,n - 1),[0,1,3],d3J,⟨rfl,rfl⟩,q_8,⟨.inr ⟨_,rfl,.same rfl I0⟩,.inr ⟨_,rfl,.same rfl s9⟩,.inr ⟨_,rfl,.same rfl s9⟩,tt⟩⟩
       ·refine b1q ?_; refine cY a4K ?_;exact d12
     ·refine b08 ?_;exact ⟨(i+1),om_,hlt,tu_,rfl⟩
    ·refine z6 ?_; refine L7 (α:=Bool × Nat) (fun x=>[(0,.ptr 0 0),(5,(sv s)),(9,(.list (hds.map scv) (gnn hds.length) (E7 hds.length 2))),(10,(.val (.int .i64 n))),(11,(sv dt)),(12,(sv dt)),(84,(.val (.bool x.1)))]) (fun x=>[p8 l nn x.2,r7 seen.length,r7 hds.length]) (fun x=>p5<=x.2/\x.2<=p5+1) ?_ ?_
     ·
      refine R7 ?_; refine cY (c7 rfl c4D j1 (a95 hds _ _ om_ _) rfl) ?_; refine cY a5M ?_; refine a6i ?_;refine b6b (.val (.bool false)) rfl rfl tt rfl rfl (fun hg=>b9 rfl b1a ⟨hg,rfl,rfl,tt⟩ (H8 l nn p5 _ 0 rfl om_ hl 1 40 om_) rfl ?_) (fun hg=>?_)
      ·
       intro _ _;exact d1T
      ·
       refine a4L ?_;exact ⟨(_,p5),⟨do_,do_⟩,⟨⟨tt,rfl⟩,⟨tt,rfl⟩,⟨tt,rfl⟩,⟨tt,rfl⟩,⟨tt,rfl⟩,⟨tt,rfl⟩,⟨tt,rfl⟩,tt⟩,rfl⟩
     ·intro ⟨b6,p6⟩ E6 ⟨hq6,hr6⟩;dsimp only at hq6 hr6 ⊢;refine cC (fun h8=>?_) fun h8=>?_
      ·refine z_4 ?_; refine cY (A3 [scv dt] rfl ⟨tt,tt⟩ t_2 t_0 t_3 rfl rfl rfl rfl rfl rfl rfl rfl rfl) ?_;refine cD (D9 rfl tt tt rfl si_ R6 t_2 t_0 a8h t_3 rfl (.inr rfl) X0 V5 H3 ((hds++[dt]).map scv) (hds++[dt]).length si_ si_ ?_);refine z_2 ?_; refine R7 ?_; refine cY a8J ?_; refine a8x ?_; refine a5w ?_;exact ⟨(s++dt,hds++[dt],p6,n - 1),[0,1,3],d3J,⟨rfl,rfl⟩,q_8,⟨.inr ⟨_,rfl,.same rfl I0⟩,.inr ⟨_,rfl,.same rfl s9⟩,.inr ⟨_,rfl,.same rfl s9⟩,tt⟩⟩
      ·refine b1q ?_; refine cY a4K ?_;exact d12
   ·have hn3:n=0:=by simp at h4; omega
    subst hn3; refine z6 ?_; refine a3c ?_;refine cD (b9 rfl b1a a2C (H8 l nn p2 _ 0 rfl om_ hl 1 30 om_) rfl ?_);intro _ _; refine i7 ?_; refine cC (fun h9=>?_) fun h9=>?_
    ·refine R7 ?_; refine cY (A3 (([[102,117,110,99],[125],[34],[116,101,115,116,32,116,32,61,32,49,59],[120]]:List Str).map scv) rfl ⟨rfl,rfl,rfl,rfl,rfl,tt⟩ t_2 t_0 t_3 rfl rfl rfl rfl rfl rfl rfl rfl rfl) ?_;refine cD (b9 rfl a5i j1 (J0 l nn (p2+1) _ 0 rfl om_ hl ([[102,117,110,99],[125],[34],[116,101,115,116,32,116,32,61,32,49,59],[120]]:List Str) si_ si_) rfl ?_);intro v hv;have hv8:v.length<=11:=by revert v; decide
     refine cY a8J ?_; refine M9 ?_; refine z_7 ?_;exact ⟨_,j5 rfl tt c6,⟨(_,p2+2),a1x rfl I0 (.old (.val _)),(by show List.length _<=_; simp only [n_6]; omega),do_,do_⟩⟩
    ·refine a05 ?_; refine z_7 ?_;exact ⟨_,j5 rfl tt c6,⟨(_,p2+1),a1x rfl I0 (.old (.val _)),(by show List.length _<=_; simp only; omega),do_,do_⟩⟩
theorem b3i (l:List Int) (nn:Bool) (k:Nat) (hat:k<=600000000) (hl:l.length<=maxLen) (pkg:Str) (hpk:pkg.length<=8) (σ:List c5) (q:Nat) (hq:σ[q]? = some (p8 l nn k)):b8 CC 68 [.ptr q 0,(sv pkg)] σ fun r τ=>∃ a:Str × Nat,r = .ret (sv a.1)/\τ=σ.set q (p8 l nn a.2)/\(a.1.length<=6300/\k<=a.2/\a.2<=k+1070) :=
 a6C (c:=fun a:Str × Nat=>sv a.1) (S:=fun a=>p8 l nn a.2) hCC (fun a h=>by simp at h; subst h; exact .val _) (fun _=>.val _) (fun _=>D8 _ _ _) (D8 _ _ _) rfl (b8K l nn k hat hl pkg hpk) σ q hq
def a02:List Str:=([[97,46,100,97,116],[100,47,98,46,100,97,116],[99]]:List Str)
def a3f:List Str:=([[97,46,115,114,99],[98,46,115,114,99],[100,47,99,46,115,114,99],[120,46,115,114,99],[97,46,100,97,116],[100,47,98,46,100,97,116],[99],[122,48,46,115,114,99],[122,49,46,115,114,99],[122,50,46,115,114,99]]:List Str)
structure J1 (B:Nat) (fl:List Fi):Prop where
 srt:b2b fl
 pth:∀ f∈fl,f.p∈a3f
 byt:∀ f∈fl,f.b.length<=B
theorem J1.nil (B:Nat):J1 B []:=⟨.nil,fun f h=>by simp at h,fun f h=>by simp at h⟩
theorem J1.mono {C:Nat} (h:J1 B fl) (hc:B<=C):J1 C fl:=⟨h.srt,h.pth,fun f hf=>b83 (h.byt f hf) hc⟩
theorem J1.len (h:J1 B fl):fl.length<=10:=by
 have hn:(fl.map Fi.p).Nodup:=by
  rw [List.nodup_iff_pairwise_ne,List.pairwise_map];exact h.srt.imp fun {a b} hab he=>by rw [he,b32] at hab; cases hab
 have hs:∀ x∈fl.map Fi.p,x∈a3f:=fun x hx=>by
  obtain ⟨f,hf,rfl⟩:=K3.1 hx;exact h.pth f hf
 have:=List.Nodup.length_le_of_subset hn (fun x hx=>hs x hx);rw [a0B] at this;exact this
theorem b2w {f:Fi}:∀ l:List Fi,a7N f true l=l.filter fun x=>!decide (x.p=f.p)
 | []=>rfl
 | x::l=>by
  rw [a7N,Bool.true_or,b2w l,a9N];by_cases h:x.p=f.p <;> simp [h]
theorem a6x {f:Fi} {x:Fi}:∀ {d:Bool} {l:List Fi},x∈a7N f d l->x=f\/x∈l
 | d,[],h=>by
  cases d <;> simp [a7N] at h
  exact .inl h
 | d,y::l,h=>by
  rw [a7N] at h
  rcases a0y.1 h with h | h
  ·split at h <;> simp at h
   exact .inl h
  ·rcases a0y.1 h with h | h
   ·split at h <;> simp at h
    exact .inr (by rw [h]; simp)
   ·rcases a6x h with h | h
    ·exact .inl h
    ·exact .inr (a9r _ h)
theorem b5e {f:Fi}:∀ {l:List Fi},b2b l->b2b (a7N f false l)
 | [],_=>by simp [a7N,b2b]
 | y::l,h=>by
  obtain ⟨h1,h2⟩:=a8e.1 h;rw [a7N];by_cases hle:leF f y=true
  ·simp only [hle,Bool.not_false,Bool.and_self,if_true,Bool.or_true,b2w];have hl:b2b (l.filter fun x=>!decide (x.p=f.p)):=h2.filter _;have hfl:∀ g∈l.filter fun x=>!decide (x.p=f.p),Op.bytesLess f.p g.p=true:=fun g hg=>by
    have hy:=h1 g ((b6D.1 hg).1);unfold leF at hle;simp only [a4T,a5s] at hle
    rcases hle with hle | hle
    ·exact a7K hle hy
    ·rw [hle]; exact hy
   by_cases hyp:y.p=f.p
   ·rw [if_pos hyp,a7u];exact a8e.2 ⟨hfl,hl⟩
   ·rw [if_neg hyp];have hfy:Op.bytesLess f.p y.p=true:=by
     unfold leF at hle;simp only [a4T,a5s] at hle
     rcases hle with hle | hle
     ·exact hle
     ·exact absurd hle.symm hyp
    refine a8e.2 ⟨fun g hg=>?_,a8e.2 ⟨fun g hg=>h1 g ((b6D.1 hg).1),hl⟩⟩
    rcases Q2.1 hg with rfl | hg
    ·exact hfy
    ·exact hfl g hg
  ·have hle':leF f y=false:=by simpa using hle
   have hyp:¬ y.p=f.p:=fun h=>by rw [leF,h] at hle'; simp at hle'
   simp only [hle',Bool.and_false,Bool.or_false,if_neg hyp];have:Op.bytesLess y.p f.p=true:=by
    unfold leF at hle';simp only [c0S,decide_eq_false_iff_not] at hle';exact b9M hle'.1 hle'.2
   refine a8e.2 ⟨fun g hg=>?_,b5e h2⟩
   rcases a6x hg with rfl | hg
   ·exact this
   ·exact h1 g hg
theorem J1.ins (h:J1 B fl) {f:Fi} (hp:f.p∈a3f) (hb:f.b.length<=B):J1 B (a5g fl f) :=
 ⟨b5e h.srt,fun g hg=>by
  rcases a6x hg with rfl | hg
  ·exact hp
  ·exact h.pth g hg,fun g hg=>by
  rcases a6x hg with rfl | hg
  ·exact hb
  ·exact h.byt g hg⟩
theorem J1.rem (h:J1 B fl) (s:Str):J1 B (a4B fl s) :=
 ⟨h.srt.filter _,fun g hg=>h.pth g ((b6D.1 hg).1),fun g hg=>h.byt g ((b6D.1 hg).1)⟩
theorem c0l:∀ s∈G0,s∈a3f:=by decide
theorem c0W:∀ s∈a02,s∈a3f:=by decide
theorem Q4 (fl:List Fi) (nn:Bool):p9 (.agg (u0 fl nn)):=o8 (cs:=u0 _ _) ⟨D4 _ _,tt⟩
theorem a2j {l:List α} (h:i < l.length):∃ y,l[i]? = some y/\y∈l:=⟨l[i],by simp [h],c2u h⟩
theorem b4o (l:List Int) (nn:Bool) (k:Nat) (hat:k<=500000000) (hl:l.length<=maxLen):b8 CC 27 [.ptr 0 0] [p8 l nn k] fun r τ=>∃ a:List Fi × Nat,C6 1 τ r (.ret (.agg (u0 a.1 (gnn a.1.length)))) [p8 l nn a.2]/\(J1 6300 a.1/\k<=a.2/\a.2<=k+4400):=by
 refine (c4 Tryz.func27 rfl rfl ?_);refine z_0 ?_; refine b6I ?_; refine a2i ?_; refine cY (c7 rfl Tryz.call66 trivial (a6Z _) rfl) ?_; refine a0W ?_; refine S3 (α:=List Fi × Nat × Nat) (fun x=>[(0,.ptr 0 0),(2,.ptr 1 0),(3,.ptr 2 0),(8,(.list (G0.map scv) true none)),(9,(.val (.int .i64 (G0.length:Int)))),(10,(.val (.int .i64 (x.2.2:Int))))]) (fun x=>[p8 l nn (x.2.1),.box (u0 [] false),.box (u0 x.1 (gnn x.1.length))]) (fun x=>x.2.2<=G0.length/\J1 6300 x.1/\k+0<=x.2.1/\x.2.1<=k+0+x.2.2*1072) (fun x=>G0.length - x.2.2) ([],k,0) ⟨n_3 _,.nil _,do_,do_⟩ tu_ rfl ?_; intro ⟨fl,p,i⟩ E0 ⟨hi,hm,hp1,hp2⟩;dsimp only at hi hm hp1 hp2 ⊢;have hL:G0.length=4:=rfl;have hml:=hm.len;refine F2 ?_; refine cC (fun h1=>?_) fun h1=>?_
 ·have hlt:i < G0.length:=by simp at h1; omega
  obtain ⟨y,hb,hym⟩:=a2j hlt;refine i8 ?_; refine L7 (α:=List Fi × Nat) (fun x=>[(0,.ptr 0 0),(2,.ptr 1 0),(3,.ptr 2 0),(8,(.list (G0.map scv) true none)),(9,(.val (.int .i64 (G0.length:Int)))),(10,(.val (.int .i64 (i:Int))))]) (fun x=>[p8 l nn (x.2),.box (u0 [] false),.box (u0 x.1 (gnn x.1.length))]) (fun x=>J1 6300 x.1/\p<=x.2/\x.2<=p+1072) ?_ ?_
  ·
   refine B7 ?_; refine z_0 ?_; refine b5R ?_; refine M9 ?_;refine cD (b9 rfl b1a a2C (H8 l nn p _ 0 rfl om_ hl 3 4 om_) rfl ?_);intro _ _; refine i7 ?_; refine cC (fun h2=>?_) fun h2=>?_
   ·refine d39 ?_; refine a6M ?_; refine chf rfl U4 ?_; refine chf rfl c6r ?_; refine D2 ?_;refine A9 rfl rfl (b9 rfl a5i j1 (J0 l nn (p+1) _ 0 rfl om_ hl U0 de_ de_) rfl ?_);intro v hv;have hv8:v.length<=8:=P0 (.inl hv);refine ⟨⟨V7,C8,C8,tt⟩,?_⟩;refine A9 rfl rfl (b9 rfl Tryz.call68 j1 (b3i l nn (p+2) om_ hl v hv8 _ 0 rfl) rfl ?_);intro ⟨s,p3⟩ ⟨hs,hq1,hq2⟩;dsimp only at hs hq1 hq2 ⊢;refine d15 ?_; refine a7d ?_;exact ⟨(a5g fl ⟨y,s⟩,p3),⟨hm.ins (c0l _ hym) hs,do_,do_⟩,tu_,rfl⟩
   ·refine i8 ?_;exact ⟨(fl,p+1),⟨hm,do_,do_⟩,tu_,rfl⟩
  ·intro ⟨fl,p4⟩ E0 ⟨hm,hq1,hq2⟩;dsimp only at hm hq1 hq2 ⊢;refine b4y ?_;exact ⟨(fl,p4,i+1),do_,⟨do_,hm,do_,do_⟩,tu_,rfl⟩
 ·refine z6 ?_; refine a1R ?_; refine cY d5m ?_; refine a0W ?_; refine S3 (α:=List Fi × Nat × Nat) (fun x=>[(0,.ptr 0 0),(2,.ptr 1 0),(3,.ptr 2 0),(26,(.list (a02.map scv) true none)),(27,(.val (.int .i64 (a02.length:Int)))),(28,(.val (.int .i64 (x.2.2:Int))))]) (fun x=>[p8 l nn (x.2.1),.box (u0 [] false),.box (u0 x.1 (gnn x.1.length))]) (fun x=>x.2.2<=a02.length/\J1 6300 x.1/\k+0<=x.2.1/\x.2.1<=k+4288+x.2.2*5) (fun x=>a02.length - x.2.2) (fl,p,0) ⟨n_3 _,hm,do_,do_⟩ tu_ rfl ?_; intro ⟨fl,p,i⟩ E0 ⟨hi,hm,hp1,hp2⟩;dsimp only at hi hm hp1 hp2 ⊢;have hL:a02.length=3:=rfl;have hml:=hm.len;refine F2 ?_; refine cC (fun h3=>?_) fun h3=>?_
  ·have hlt:i < a02.length:=by simp at h3; omega
   obtain ⟨y,hb,hym⟩:=a2j hlt;refine b2v ?_; refine M9 ?_;refine cD (b9 rfl b1a a2C (H8 l nn p _ 0 rfl om_ hl 1 3 om_) rfl ?_);intro _ _; refine i7 ?_; refine cC (fun h4=>?_) fun h4=>?_
   ·refine B5 [0,1,2,3,4,5,6] 3 [0,0,0,4,14,31,63] [[0,1],[0],[],[]] (hd1l:=[0,1,2]) (tll:=[(3,[0,1]),(4,[0]),(5,[]),(6,[])]) d5 d5 rfl rfl rfl ?_; refine chf rfl b0X ?_; refine a6M ?_; refine D2 ?_;refine A9 rfl rfl (b9 rfl Tryz.call70 ⟨tt,tt⟩ (c0H l nn (p+1) om_ hl _ 0 rfl) rfl ?_);intro ⟨s,p3⟩ ⟨hs,hq1,hq2⟩;dsimp only at hs hq1 hq2 ⊢;refine d15 ?_; refine a7d ?_; refine b4y ?_;exact ⟨(a5g fl ⟨y,s⟩,p3,i+1),do_,⟨do_,hm.ins (c0W _ hym) do_,do_,do_⟩,tu_,rfl⟩
   ·refine a2h ?_;exact ⟨(fl,p+1,i+1),do_,⟨do_,hm,do_,do_⟩,tu_,rfl⟩
  ·refine Z5 ?_; refine b0E ?_;exact ⟨_,A8 rfl a1Z,⟨(fl,p),a1x rfl I0 (.old (Q4 _ _).old),hm,do_,do_⟩⟩
theorem b60 (l:List Int) (nn:Bool) (k:Nat) (hat:k<=500000000) (hl:l.length<=maxLen) (σ:List c5) (q:Nat) (hq:σ[q]? = some (p8 l nn k)):b8 CC 27 [.ptr q 0] σ fun r τ=>∃ a:List Fi × Nat,r = .ret (.agg (u0 a.1 (gnn a.1.length)))/\τ=σ.set q (p8 l nn a.2)/\(J1 6300 a.1/\k<=a.2/\a.2<=k+4400) :=
 a6C (c:=fun a:List Fi × Nat=>(.agg (u0 a.1 (gnn a.1.length)))) (S:=fun a=>p8 l nn a.2) hCC (fun a h=>by simp at h) (fun _=>Q4 _ _) (fun _=>D8 _ _ _) (D8 _ _ _) rfl (b4o l nn k hat hl) σ q hq
theorem b0K {e:Nat} {c:UInt8} (h:s[e]? = some c) (hae:a<=e):sub s a (e+1)=sub s a e++[c]:=by
 obtain ⟨hlt,rfl⟩:=n_0.1 h;unfold sub;rw [<- b22 hlt,List.drop_append_of_le_length (by rw [a5t]; omega)]
theorem sub_self:sub s a a=[]:=by unfold sub; exact U5 (by rw [a5t]; omega)
theorem c6A (l:Str) (c:UInt8):a3M (l++[c])=min (10*a3M l+((c.toNat:Int) - 48)) 9007199254740993:=by
 unfold a3M;rw [List.foldl_append]; rfl
theorem b2G {e:Nat} {ks:List Int} (h:∀ c,s[e]? = some c->inK ks c=false):r4 s e ks=e:=by
 cases hc:s[e]? with
 | none=>exact a78 (by simpa using hc)
 | some c=>rw [N7 hc,if_neg (by rw [h c hc]; simp)]
theorem c9Q:∀ x:Fin 256,(j9 (x.val:Int)=8)=(UInt8.ofNat x.val∈a3z):=by decide
theorem b7h (b:UInt8):j9 b.toNat=8↔b∈a3z:=by
 have h:=c9Q ⟨b.toNat,b.toNat_lt⟩;simp only at h;rw [h];simp
theorem b9Q:preB [61,61] (s.drop a)=true↔s[a]? = some 61/\s[a+1]? = some 61:=by
 unfold preB;rw [b5K];constructor
 ·rintro ⟨t,ht⟩;have h0:(s.drop a)[0]? = some 61:=by rw [<- ht]; rfl
  have h1:(s.drop a)[1]? = some 61:=by rw [<- ht]; rfl
  rw [a60] at h0 h1;exact ⟨h0,h1⟩
 ·rintro ⟨h0,h1⟩;obtain ⟨l0,e0⟩:=n_0.1 h0;obtain ⟨l1,e1⟩:=n_0.1 h1;refine ⟨s.drop (a+2),?_⟩;rw [Q9 l0,Q9 l1,e0,e1];rfl
theorem d0m (h0:s[a]? = some 61) (h1:s[a+1]? = some 61):sub s a (a+2)=[61,61]:=by
 rw [show a+2=(a+1)+1 from rfl,b0K h1 om_,b0K h0 (n_4 _),sub_self]; rfl
def b1K (s:Str) (a:Nat) (b:UInt8):Tok:=if (A7 s a b).2.2=0 then { (A7 s a b).1 with at_:=(a:Nat)} else ⟨0,[],0,0⟩
theorem c4p {b:UInt8} (hn:n < 256):((b.toNat:Int)=(n:Int))↔b=UInt8.ofNat n:=by
 constructor
 ·intro h;have h2:b.toNat=(UInt8.ofNat n).toNat:=by rw [UInt8.toNat_ofNat',c2I (by simpa using hn)]; omega
  exact b2s.1 h2
 ·rintro rfl;rw [UInt8.toNat_ofNat',c2I (by simpa using hn)]
theorem c3D (s:Str) (hs:s.length<=1000000000) (a:Nat) (b:UInt8) (hb:s[a]? = some b) (ha:a < s.length):b8 CC 228 [(sv s),(.val (.int .i64 (a:Int)))] [] fun r τ=>∃ _:Unit,a08 0 τ r (.ret (.tup [.agg (b1K s a b).cells,(.val (.int .i64 ((A7 s a b).2.1))),(.val (.int .i64 ((A7 s a b).2.2)))]))/\True:=by
 refine (c4 Tryz.func228 rfl rfl ?_);refine b1P ?_; refine a0w ?_; refine z_1 ?_; refine z_2 ?_; refine a6H ?_; refine cY c6T ?_; refine z_2 ?_; refine B7 ?_; refine z_1 ?_; refine cY (c7 rfl c5b ⟨tt,tt⟩ (a4Q b _) rfl) ?_; refine z_2 ?_; refine cC (fun h1=>?_) fun h1=>?_
 ·have hk:j9 b.toNat=1:=by simpa using h1
  refine a8o ?_; refine o0 hCC (fun e:Nat=>[(0,(sv s)),(1,(.val (.int .i64 (a:Int)))),(4,.ptr 0 0),(5,(.val (.int .i64 (e:Int))))]) (fun _=>[.box (Tok.cells ⟨0,[],0,0⟩)]) (fun e=>a<=e/\e<=s.length/\r4 s a [1,2,3]=r4 s e [1,2,3]) (fun e=>s.length - e) a ⟨n_4 _,om_,rfl⟩ tu_ (extra0:=[]) rfl A1 uz_ ?_; intro e ⟨hae,hel,hr⟩;obtain ⟨c,hc⟩:∃ c:UInt8,e < s.length->s[e]? = some c:=by
   by_cases hle:e < s.length
   ·exact ⟨s[e],fun _=>by simp [hle]⟩
   ·exact ⟨0,fun h=>absurd h hle⟩
  refine b6V ?_; refine cG (fun hg=>c7 rfl c5K ⟨hg,tt⟩ (a6g c _) rfl) ?_; refine a6J ?_; refine cC (fun h2=>?_) fun h2=>?_
  ·have h2':e < s.length/\inK [1,2,3] c=true:=by simpa using h2
   have hce:=hc h2'.1;refine a2L ?_; refine a4M ?_;exact ⟨(e+1),_,⟨om_,om_,om_,by rw [hr,N7 hce,if_pos h2'.2]⟩,tu_,rfl⟩
  ·have hse:r4 s a [1,2,3]=e:=by
    rw [hr];refine b2G fun c' hc'=>?_;have hle:=(n_0.1 hc').1;rw [hc hle] at hc';injection hc' with hc'
    subst hc';have h3:e < s.length->inK [1,2,3] c=false:=by simpa using h2
    exact h3 hle
   refine z6 ?_; refine a6H ?_; refine cY (a63 rfl tt tt rfl rfl om_ om_) ?_; refine G9 ?_; refine cC (fun h3=>?_) fun h3=>?_
   ·have hx:A7 s a b=(⟨0,[],0,0⟩,0,2):=by
     unfold A7;rw [if_pos hk,hse,if_pos (by simp at h3; omega)]
    refine z_0 ?_; refine cY Y3 ?_; refine b5W ?_;exact c9s
   ·have hx:A7 s a b=(⟨1,sub s a e,0,0⟩,(e:Int),0):=by
     unfold A7;rw [if_pos hk,hse,if_neg (by simp at h3; omega)]
    refine a5C ?_; refine cY (G8 (a:=a) (h:=e) rfl tt rfl t_4 b0p b0p a3v a3v) ?_; refine cY j7 ?_; refine cY c86 ?_; refine b3G ?_;exact c7S
 ·have hk1:¬ j9 b.toNat=1:=by simpa using h1
  refine z_1 ?_; refine a1b ?_; refine b9t ?_; refine z_2 ?_; refine cC (fun h4=>?_) fun h4=>?_
  ·have hk2:j9 b.toNat=2:=by rw [a4e]; simp at h4; omega
   refine z_6 ?_; refine a8o ?_; refine o0 hCC (fun x:Nat × Int=>[(0,(sv s)),(1,(.val (.int .i64 (a:Int)))),(4,.ptr 0 0),(5,(.val (.int .i64 (x.1:Int)))),(8,(.val (.int .i64 x.2)))]) (fun _=>[.box (Tok.cells ⟨0,[],0,0⟩)]) (fun x=>a<=x.1/\x.1<=s.length/\r4 s a [2]=r4 s x.1 [2]/\0<=x.2/\x.2<=90071992547409930/\min x.2 9007199254740993=a3M (sub s a x.1)) (fun x=>s.length - x.1) (a,0) ⟨n_4 _,do_,rfl,do_,do_,by rw [sub_self]; rfl⟩ tu_ (extra0:=[]) rfl A1 uz_ ?_; intro ⟨e,n⟩ ⟨hae,hel,hr,hn0,hn1,hnm⟩;dsimp only at hae hel hr hn0 hn1 hnm ⊢;obtain ⟨c,hc⟩:∃ c:UInt8,e < s.length->s[e]? = some c:=by
    by_cases hle:e < s.length
    ·exact ⟨s[e],fun _=>by simp [hle]⟩
    ·exact ⟨0,fun h=>absurd h hle⟩
   refine b6V ?_; refine a87 ?_; refine cG c92 ?_; refine a9j ?_; refine cC (fun h5=>?_) fun h5=>?_
   ·have h5':e < s.length/\48<=c.toNat/\c.toNat<=57:=by
     simp at h5;omega
    have hce:=hc h5'.1;have hk2c:j9 c.toNat=2:=a4e.2 h5'.2;have hns:=c6A (sub s a e) c;rw [<- b0K hce hae] at hns;refine a2L ?_; refine L7 (α:=Int) (fun n'=>[(0,(sv s)),(1,(.val (.int .i64 (a:Int)))),(4,.ptr 0 0),(5,(.val (.int .i64 (e:Int)))),(8,(.val (.int .i64 n')))]) (fun _=>[.box (Tok.cells ⟨0,[],0,0⟩)]) (fun n'=>0<=n'/\n'<=90071992547409930/\min n' 9007199254740993=a3M (sub s a (e+1))) ?_ ?_
    ·
     refine z_1 ?_; refine G9 ?_; refine cC (fun h6=>?_) fun h6=>?_
     ·have hn2:n<=9007199254740992:=by simpa using h6
      refine z_5 ?_; refine cY (b54 rfl tt rfl rfl rfl om_ om_) ?_; refine a8a ?_; refine cY (K7 rfl tt tt rfl rfl t_4 om_ (by rw [a23]; exact hce)) ?_; refine cY P1 ?_; refine cY (b1x rfl tt rfl b4S c1D (show IntKind.i64.wrap (IntKind.u8.wrap ((c.toNat:Int) - 48))=(c.toNat:Int) - 48 by rw [wr8 om_ om_,b1L om_ om_])) ?_; refine cY a5S ?_; refine z_2 ?_;exact ⟨_,(by exact ⟨om_,om_,by rw [hns,<- hnm]; omega⟩),⟨⟨tt,rfl⟩,⟨tt,rfl⟩,⟨tt,rfl⟩,⟨tt,rfl⟩,⟨tt,rfl⟩,tt⟩,rfl⟩
     ·have hn2:9007199254740992 < n:=by simpa using h6
      refine i8 ?_;exact ⟨n,⟨hn0,hn1,by rw [hns,<- hnm]; omega⟩,tu_,rfl⟩
    ·intro n' E' ⟨hn0',hn1',hnm'⟩; refine a4M ?_;exact ⟨(e+1,n'),_,⟨do_,do_,do_,by dsimp only; rw [hr,N7 hce,if_pos (by simp [inK,hk2c])],hn0',hn1',hnm'⟩,tu_,rfl⟩
   ·have hse:r4 s a [2]=e:=by
     rw [hr];refine b2G fun c' hc'=>?_;have hle:=(n_0.1 hc').1;rw [hc hle] at hc';injection hc' with hc'
     subst hc';have hnk:¬ j9 c.toNat=2:=fun hk=>by
      have:=a4e.1 hk;simp at h5;omega
     simp [inK,hnk]
    refine z6 ?_; refine a6Y ?_; refine cC (fun h7=>?_) fun h7=>?_
    ·have hx:A7 s a b=(⟨0,[],0,0⟩,0,3):=by
      unfold A7;rw [if_neg hk1,if_pos hk2,hse,if_pos (by rw [<- hnm]; simp at h7; omega)]
     refine z_0 ?_; refine cY Y3 ?_; refine b5W ?_;exact c9s
    ·have hx:A7 s a b=(⟨2,[],n,0⟩,(e:Int),0):=by
      unfold A7;have hnn:a3M (sub s a e)=n:=by rw [<- hnm]; simp at h7; omega
      rw [if_neg hk1,if_pos hk2,hse,hnn,if_neg (by simp at h7; omega)]
     refine a8Y ?_; refine cY c86 ?_; refine b3G ?_;exact c7S
  ·have hk2:¬ j9 b.toNat=2:=by rw [a4e]; simp at h4; omega
   refine z_1 ?_; refine a9M ?_; refine cC (fun h8=>?_) fun h8=>?_
   ·have hb34:b=34:=by
     have:(b.toNat:Int)=((34:Nat):Int):=by simpa using h8
     exact (c4p (n:=34) om_).1 this
    have hk7:j9 b.toNat=7:=by rw [hb34]; rfl
    refine z_1 ?_; refine c8u ?_; refine a8o ?_; refine o0 hCC (fun e:Nat=>[(0,(sv s)),(1,(.val (.int .i64 (a:Int)))),(4,.ptr 0 0),(5,(.val (.int .i64 (e:Int))))]) (fun _=>[.box (Tok.cells ⟨0,[],0,0⟩)]) (fun e=>a+1<=e/\e<=s.length/\a3e (s.drop (a+1))=(a3e (s.drop e)).map (· + (e - (a+1)))) (fun e=>s.length - e) (a+1) ⟨n_4 _,om_,si_⟩ tu_ (extra0:=[]) rfl A1 uz_ ?_; intro e ⟨hae,hel,hr⟩;obtain ⟨c,hc⟩:∃ c:UInt8,e < s.length->s[e]? = some c:=by
     by_cases hle:e < s.length
     ·exact ⟨s[e],fun _=>by simp [hle]⟩
     ·exact ⟨0,fun h=>absurd h hle⟩
    refine b6V ?_; refine a87 ?_; refine cG c92 ?_; refine a87 ?_; refine cG c92 ?_; refine a9j ?_; refine cC (fun h9=>?_) fun h9=>?_
    ·have h9':e < s.length/\32<=c.toNat/\c.toNat<=126/\¬ c.toNat=34:=by
      simp at h9;omega
     have hce:=hc h9'.1;refine a2L ?_; refine a4M ?_;exact ⟨(e+1),_,⟨om_,om_,om_,by
      rw [hr,a2J hce,if_pos ⟨h9'.2.1,h9'.2.2.1⟩,if_neg h9'.2.2.2,Option.map_map]
      congr 1
      funext x
      simp only [Function.comp];omega⟩,tu_,rfl⟩
    ·refine z6 ?_; refine b6V ?_; refine a8M ?_; refine cC (fun h10=>?_) fun h10=>?_
     ·have hx:A7 s a b=(⟨0,[],0,0⟩,0,9):=by
       have hq:a3e (s.drop (a+1))=none:=by
        rw [hr];by_cases hle:e < s.length
        ·rw [a2J (hc hle)];have h9':¬ (e < s.length/\32<=c.toNat/\c.toNat<=126/\¬ c.toNat=34):=by
          simp at h9;omega
         have h10':¬ c.toNat=34:=by
          simp at h10;omega
         rw [if_neg om_]; rfl
        ·rw [b2P om_]; rfl
       unfold A7;rw [if_neg hk1,if_neg hk2,if_pos hk7,hq]
      refine z_0 ?_; refine cY Y3 ?_; refine b5W ?_;exact c9s
     ·have h10':e < s.length/\c.toNat=34:=by
       simp at h10;omega
      have hx:A7 s a b=(⟨3,sub s (a+1) e,0,0⟩,(e+1:Int),0):=by
       have hq:a3e (s.drop (a+1))=some (e - (a+1)):=by
        rw [hr,a2J (hc h10'.1),if_pos om_,if_pos h10'.2];simp
       unfold A7;rw [if_neg hk1,if_neg hk2,if_pos hk7,hq];have e1:a+1+(e - (a+1))=e:=by omega
       refine Prod.ext ?_ (Prod.ext ?_ rfl)
       ·simp only [e1]
       ·show ((a:Int)+1+((e - (a+1):Nat):Int)+1)=(e:Int)+1;omega
      refine a8Y ?_; refine b72 ?_; refine cY (G8 (a:=(a+1)) (h:=e) rfl tt rfl t_4 b0p b0p a3v a3v) ?_; refine cY j7 ?_; refine cY c86 ?_; refine a8H ?_; refine c8o ?_;exact c7S
   ·have hk7:¬ j9 b.toNat=7:=by
     intro hk;unfold j9 at hk
     repeat' split at hk
     all_goals first|omega|(simp at h8; omega)
    obtain ⟨c1,hc1⟩:∃ c:UInt8,a+1 < s.length->s[a+1]? = some c:=by
     by_cases hle:a+1 < s.length
     ·exact ⟨s[a+1],fun _=>by simp [hle]⟩
     ·exact ⟨0,fun h=>absurd h hle⟩
    refine z_9 ?_; refine z_4 ?_; refine cY c6T ?_; refine a1b ?_; refine cG d4X ?_; refine cG Y6 ?_; refine cG a3G ?_; refine cG a8z ?_; refine cY a5z ?_; refine a7Z ?_; refine cG d4X ?_; refine cG (fun hg=>K7 rfl hg hg rfl rfl t_4 a90 (by rw [show ((a:Int)+1).toNat=a+1 by omega]; exact hc1 (by simp at hg; omega))) ?_; refine a9j ?_; refine cC (fun h11=>?_) fun h11=>?_
    ·have h11':b=61/\a+1 < s.length/\c1=61:=by
      simp at h11;exact ⟨(c4p (n:=61) om_).1 om_,om_,(c4p (n:=61) om_).1 om_⟩
     have hb2:s[a]? = some 61:=by rw [hb,h11'.1]
     have hc2:s[a+1]? = some 61:=by rw [hc1 h11'.2.1,h11'.2.2]
     have hx:A7 s a b=(⟨4,[61,61],0,0⟩,(a+2:Int),0):=by
      have hk8:j9 b.toNat=8:=by rw [h11'.1]; rfl
      unfold A7;rw [if_neg hk1,if_neg hk2,if_neg hk7,if_pos hk8,if_pos (b9Q.2 ⟨hb2,hc2⟩),d0m hb2 hc2]
     refine z_1 ?_; refine cY (x9 #[(0,1),(1,1),(2,1),(3,1)] rfl ⟨rfl,rfl,tt,tt⟩ a8p a6I rfl ⟨_,rfl⟩ (fun w=>by kernel_rfl) rfl rfl) ?_; refine a8H ?_; refine c8o ?_;exact c7S
    ·have hpre:¬ preB [61,61] (s.drop a)=true:=fun hp=>by
      obtain ⟨p1,p2⟩:=b9Q.1 hp;have hle:=(n_0.1 p2).1;rw [hb] at p1;rw [hc1 hle] at p2;injection p1 with p1
      injection p2 with p2
      subst p1 p2;simp at h11;omega
     refine a19 ?_; refine c5U a3z rfl rfl rfl rfl rfl rfl rfl rfl ⟨rfl,rfl,rfl,rfl,rfl,rfl,rfl,rfl,rfl,rfl,rfl,tt⟩ t_7 a25 a7M b4S rfl rfl rfl rfl rfl rfl rfl ?_; refine cY a9d ?_; refine a1n ?_; refine o0 hCC (fun i:Nat=>[(0,(sv s)),(1,(.val (.int .i64 (a:Int)))),(4,.ptr 0 0),(156,(.list (a3z.map bcv) true none)),(157,(.val (.int .i64 (a3z.length:Int)))),(158,(.val (.int .i64 (i:Int))))]) (fun _=>[.box (Tok.cells ⟨0,[],0,0⟩)]) (fun i=>i<=a3z.length/\∀ x∈a3z.take i,x≠b) (fun i=>a3z.length - i) 0 ⟨n_3 _,fun x hx=>by simp at hx⟩ tu_ (extra0:=[]) rfl A1 uz_ ?_; intro i ⟨hi,hni⟩;have hSL:a3z.length=11:=rfl;refine F2 ?_; refine cC (fun h12=>?_) fun h12=>?_
     ·have hli:i < a3z.length:=by simp at h12; omega
      obtain ⟨y,hy,hym⟩:=a2j hli;refine a1O ?_; refine cY (t6 rfl tt tt rfl rfl t_7 a25 om_ (j8 hy) rfl) ?_; refine cY (T9 rfl tt rfl c6N rfl) ?_; refine a7J ?_; refine cY c6T ?_; refine cY j7 ?_; refine a9A ?_; refine cC (fun h13=>?_) fun h13=>?_
      ·have hby:b=y:=by
        have:(b.toNat:Int)=(y.toNat:Int):=by simpa using h13
        exact b2s.1 om_
       have hx:A7 s a b=(⟨4,sub s a (a+1),0,0⟩,(a+1:Int),0):=by
        unfold A7;rw [if_neg hk1,if_neg hk2,if_neg hk7,if_pos ((b7h b).2 (hby ▸ hym)),if_neg hpre]
       refine a0n ?_; refine cY S8 ?_; refine cY (G8 (a:=a) (h:=(a+1)) rfl tt rfl t_4 b0p b0p a3v a3v) ?_; refine cY j7 ?_; refine cY c86 ?_; refine a8H ?_; refine c8o ?_;exact c7S
      ·have hby:¬ b=y:=fun e=>by
        rw [e] at h13;simp at h13
       refine a2h ?_;exact ⟨(i+1),_,⟨om_,om_,fun x hx=>by
        rw [b0l,hy] at hx
        rcases a0y.1 hx with hx | hx
        ·exact hni x hx
        ·simp at hx; subst hx; exact fun e=>hby e.symm⟩,tu_,rfl⟩
     ·have hie:i=a3z.length:=by simp at h12; omega
      have hx:A7 s a b=(⟨0,[],0,0⟩,0,9):=by
       have hk8:¬ j9 b.toNat=8:=fun hk=>by
        have hm:=(b7h b).1 hk;rw [hie,Y9 (n_4 _)] at hni;exact hni b hm rfl
       unfold A7;rw [if_neg hk1,if_neg hk2,if_neg hk7,if_neg hk8]
      refine Z5 ?_; refine cY Y3 ?_; refine b5W ?_;exact c9s
theorem c4H (s:Str) (hs:s.length<=1000000000) (a:Nat) (b:UInt8) (hb:s[a]? = some b) (ha:a < s.length) (σ:List c5):b8 CC 228 [(sv s),(.val (.int .i64 (a:Int)))] σ fun r τ=>r = .ret (.tup [.agg (b1K s a b).cells,(.val (.int .i64 ((A7 s a b).2.1))),(.val (.int .i64 ((A7 s a b).2.2)))])/\τ=σ :=
 (E9 (res:=fun _:Unit=>.ret (.tup [.agg (b1K s a b).cells,(.val (.int .i64 ((A7 s a b).2.1))),(.val (.int .i64 ((A7 s a b).2.2)))])) (P:=fun _=>True) hCC (fun c h=>by simp at h; rcases h with rfl | rfl <;> exact .val _) (c3D s hs a b hb ha) (fun _ _=>B2 (cs:=[_,_,_]) ⟨o8 (cs:=[_,_,_,_]) ⟨.val _,.val _,.val _,.val _,tt⟩,.val _,.val _,tt⟩) σ).mono fun r τ ⟨_,h1,h2,_⟩=>⟨h1,h2⟩
theorem d0G {b:UInt8} (h:(A7 s a b).2.2=0):b1K s a b={ (A7 s a b).1 with at_:=(a:Nat)}:=by rw [b1K,if_pos h]
theorem b8q (s:Str) (hs:s.length<=1000000000):b8 CC 180 [(sv s)] [] fun r τ=>∃ x:c3P,a08 0 τ r (.ret (c32 x))/\c96 s x:=by
 refine (c4 Tryz.func180 rfl rfl ?_);refine z_0 ?_; refine cY a13 ?_; refine a0w ?_; refine a3c ?_; refine a84 ?_; refine cC (fun h1=>?_) fun h1=>?_
 ·have hlen:16384 < s.length:=by simp at h1; omega
  have hS:a0D s=none:=by rw [c5f,if_pos hlen]
  refine z_0 ?_; refine cY a13 ?_; refine a2V ?_;exact ⟨_,l9 (rs:=[.tmp 2,.tmp 3,.tmp 4]) (cs:=[_,_,_]) rfl c6Z (n_2 rfl),⟨([],false,0,2),by exact .ret (.tups ⟨.old (S7 _ [] false),.old (.val _),.old (.val _),tt⟩),.inr ⟨hS,rfl,rfl,de_⟩⟩⟩
 ·refine a05 ?_;refine cD (b9 rfl Tryz.call227 o6 (c1t s om_ 0 (n_3 _) _) rfl ?_);intro n ⟨_,hn,hnr,hnb⟩;have hlen:¬ 16384 < s.length:=by simp at h1; omega
  have hS:a0D s=a5o s n:=by rw [c5f,if_neg hlen,hnr]
  refine b1w ?_; refine A2 hCC 0 rfl (α:=List Tok × Nat) (fun x=>[(0,(sv s)),(2,(.list (x.1.map Tok.cv) (gnn x.1.length) (E7 x.1.length 0))),(3,(.val (.int .i64 (x.2:Int))))]) (fun x=>[r7 x.1.length]) (fun x=>x.2<=s.length/\x.1.length<=x.2/\(∀ b,s[x.2]? = some b->j9 b.toNat≠5/\j9 b.toNat≠6)/\a0D s=(a5o s x.2).map (x.1++·)) (fun x=>s.length - x.2) ⟨([],n),[9],⟨hn,n_3 _,hnb,by rw [hS]; simp⟩,⟨rfl,rfl⟩,⟨d3a,d3a,d3a,tt⟩,⟨.inl rfl,tt⟩⟩ ?_; intro ⟨acc,p⟩ ⟨hp,hal,hpb,hr⟩;dsimp only at hp hal hpb hr ⊢;refine b2E ?_; refine cC (fun h2=>?_) fun h2=>?_
  ·have hlt:p < s.length:=by simp at h2; omega
   obtain ⟨b,hb⟩:∃ b,s[p]? = some b:=⟨s[p]'hlt,si_⟩;obtain ⟨hb5,hb6⟩:=hpb b hb;rw [c8C hb hb5 hb6] at hr;refine a2L ?_; refine z_4 ?_; refine cY (c7 rfl Tryz.call228 j1 (c4H s om_ p b hb hlt _) rfl) ?_; refine b2I ?_; refine a8m ?_; refine b5v ?_; refine cC (fun h3=>?_) fun h3=>?_
   ·have he:(A7 s p b).2.2≠0:=by simpa using h3
    rw [if_pos he] at hr;refine z_4 ?_; refine cY a13 ?_; refine cY I1 ?_; refine z_7 ?_;exact ⟨_,l9 (rs:=[.tmp 2,.tmp 3,.tmp 4]) (cs:=[_,_,_]) rfl c6Z (n_2 rfl),⟨([],false,(p:Int),(A7 s p b).2.2),by exact .ret (.tups ⟨.old (S7 _ [] false),.old (.val _),.old (.val _),tt⟩),.inr ⟨hr,rfl,rfl,he⟩⟩⟩
   ·have he:(A7 s p b).2.2=0:=by simpa using h3
    have he':¬ (A7 s p b).2.2≠0:=fun h=>h he;rw [if_neg he'] at hr;obtain ⟨q,hq,hpq,hqs⟩:=a1h hb he';have hta:=d0G he;refine a05 ?_; refine cY Y3 ?_; refine cY (A3 [Tok.cv (b1K s p b)] rfl ⟨tt,tt⟩ b4G a3K a6I rfl rfl rfl rfl rfl rfl rfl rfl rfl) ?_;refine cD (D9 rfl tt tt rfl si_ R6 b4G a3K c1N a6I rfl (.inr rfl) X0 d2C H3 ((acc++[b1K s p b]).map Tok.cv) (acc++[b1K s p b]).length si_ si_ ?_);refine z_2 ?_; refine R7 ?_;refine cD (b9 rfl Tryz.call227 j1 (by have h:=c1t s om_ q hqs; rw [<- hq] at h; exact h _) rfl ?_);intro m ⟨hqm,hm,hmr,hmb⟩; refine z_2 ?_;exact ⟨(acc++[b1K s p b],m),[2],⟨do_,hm,by dsimp only; rw [n_6,b5M]; omega,hmb,by
     dsimp only;rw [hr,hq,a23,hmr,hta,Option.map_map]
     congr 1
     funext t
     simp⟩,⟨rfl,rfl⟩,⟨d3G,d3G,d3G,tt⟩,⟨.inr ⟨_,rfl,.same rfl s9⟩,tt⟩⟩
  ·have hge:p=s.length:=by simp at h2; omega
   rw [c7m hge] at hr;refine z6 ?_; refine z_4 ?_; refine cY V4 ?_; refine cY b8s ?_; refine cY (A3 [Tok.cv ⟨5,[],0,(s.length:Int)⟩] rfl ⟨tt,tt⟩ b4G a3K a6I rfl rfl rfl rfl rfl rfl rfl rfl rfl) ?_;refine cD (D9 rfl tt tt rfl si_ R6 b4G a3K c1N a6I rfl (.inr rfl) X0 d2C H3 ((acc++[(⟨5,[],0,(s.length:Int)⟩:Tok)]).map Tok.cv) (acc++[(⟨5,[],0,(s.length:Int)⟩:Tok)]).length si_ si_ ?_);refine cY I1 ?_; refine a2V ?_;exact ⟨_,l9 (rs:=[.tmp 2,.tmp 3,.tmp 4]) (cs:=[_,_,_]) rfl c6Z (n_2 rfl),⟨((acc++[(⟨5,[],0,(s.length:Int)⟩:Tok)]),gnn (acc++[(⟨5,[],0,(s.length:Int)⟩:Tok)]).length,0,0),by exact .ret (.tups ⟨.tok (fun r hr c hc=>(A6 (f:=Tok.cv) (fun _=>S2.all ⟨.val _,.val _,.val _,.val _,tt⟩) _) r hr c hc),.old (.val _),.old (.val _),tt⟩),.inl ⟨by rw [hr,hge]; rfl,by rw [n_6]; rfl,rfl,rfl⟩⟩⟩
theorem c2B (s:Str) (hs:s.length<=1000000000) (σ:List c5):b8 CC 180 [(sv s)] σ fun r τ=>∃ x:c3P,r = .ret (c32 x)/\τ=σ/\c96 s x :=
 E9 (res:=fun x=>.ret (c32 x)) hCC (fun a h=>by simp at h; subst h; exact .val _) (b8q s hs) (fun _ _=>B2 (cs:=[_,_,_]) ⟨a2w _ _,.val _,.val _,tt⟩) σ
theorem c7c (e:Int):o7 e ([]:List Ex).length = .dead:=by
 unfold o7
 split <;> rfl
theorem c2s {sel:List Nat} {e:Int} {p:Nat}:r8 L sel (.list (([]:List Ex).map Ex.cv) (gnn ([]:List Ex).length) (tkE e ([]:List Ex).length k)) (.list (([]:List Ex).map Ex.cv) (gnn ([]:List Ex).length) (tkE e ([]:List Ex).length p)):=by
 have h:∀ k,tkE e ([]:List Ex).length k=none:=fun k=>by
  unfold tkE
  split <;> rfl
 rw [h,h];exact .old a5J
theorem c7E {T:List Tok} {w s5:Str} {m n5 n7:Nat} {l:List Str} {S:Option (List Str × Nat)} {e1 e5 e6 e7:Int} (hl:l.length<=8) (hi:isT (tk T m) 1 [105,109,112,111,114,116]=true) (hS:S=Z7 (9 - l.length) T w m l) (p1:l.length=8->e1≠0) (p2:l.length≠8->e1=0) (q5:Ok e1 ((F6 T (m+1)).map fun x=>(x.1.t,x.2)) e5 (s5,n5))
 (p3:e5≠0->e6≠0) (p4:e5=0->s5=w\/s5∈l->e6≠0) (p5:e5=0->¬ (s5=w\/s5∈l)->e6=0) (q7:Ok e6 (pIs T n5 4 [59]) e7 n7):(e7=0->l.length < 8/\S=Z7 (9 - (l++[s5]).length) T w n7 (l++[s5]))/\(e7≠0->S=none):=by
 obtain ⟨f,hf⟩:∃ f,9 - l.length=f+1:=⟨8 - l.length,om_⟩;have hf2:9 - (l++[s5]).length=f:=by simp; omega
 rw [hf,Z7,if_pos hi] at hS;rw [hf2];have d7:e5≠0->e7≠0:=fun h=>q7.2 (p3 h);by_cases h8:l.length=8
 ·rw [if_pos h8] at hS;exact ⟨fun h=>absurd h (d7 (q5.2 (p1 h8))),fun _=>hS⟩
 ·rw [if_neg h8] at hS;have he1:=p2 h8;subst he1
  rcases q5.zero with ⟨g5,hn⟩ | ⟨g5,hn⟩
  ·obtain ⟨x,hx,hg⟩:=Q1.1 hn;injection hg with hg1 hg2
   rw [hx,n_5,hg1,hg2] at hS;by_cases hm:s5=w\/s5∈l
   ·rw [if_pos hm] at hS;exact ⟨fun h=>absurd h (q7.2 (p4 g5 hm)),fun _=>hS⟩
   ·rw [if_neg hm] at hS;have g6:=p5 g5 hm;subst g6
    rcases q7.zero with ⟨g7,hi7⟩ | ⟨g7,hi7⟩
    ·rw [hi7,n_5] at hS;exact ⟨fun _=>⟨om_,hS⟩,fun h=>absurd g7 h⟩
    ·rw [hi7] at hS;exact ⟨fun h=>absurd h g7,fun _=>hS⟩
  ·rw [b26.1 hn] at hS;exact ⟨fun h=>absurd h (d7 g5),fun _=>hS⟩
theorem c34 {T:List Tok} {m:Nat} {ds:List De} {S:Option (List De × Nat)} {a:RD5} (hl:ds.length<=64) (hk:¬ (tk T m).k=5) (hS:S=L5 (65 - ds.length) T m ds) (q:Ok 0 (W1 T ds m) a.e (a.d,a.n)):(a.e=0->ds.length < 64/\S=L5 (65 - (ds++[a.d]).length) T a.n (ds++[a.d]))/\(a.e≠0->S=none):=by
 obtain ⟨f,hf⟩:∃ f,65 - ds.length=f+1:=⟨64 - ds.length,om_⟩;have hf2:65 - (ds++[a.d]).length=f:=by simp; omega
 rw [hf,L5,if_neg hk] at hS;rw [hf2]
 rcases q.zero with ⟨g,hd⟩ | ⟨g,hd⟩
 ·rw [hd,n_5] at hS;have:=b24 hd;exact ⟨fun _=>⟨om_,hS⟩,fun h=>absurd g h⟩
 ·rw [hd] at hS;exact ⟨fun h=>absurd h g,fun _=>hS⟩
structure RI5 where
 l:List Str
 m:Nat
 at_:Int
 e:Int
variable {l:List α}
structure RJ5 where
 ds:List De
 m:Nat
 at_:Int
 e:Int
 ps:List Str
 b:List Ex
variable {m:Nat}
theorem c9o {T:List Tok} {n1 n2 n3 m2:Nat} {w:Str} {l:List Str} {ds:List De} {e1 e2 e3 e4 e5:Int} (q1:Ok 0 (pIs T 0 1 [112,97,99,107,97,103,101]) e1 n1) (q2:Ok e1 ((F6 T n1).map fun x=>(x.1.t,x.2)) e2 (w,n2)) (q3:Ok e2 (pIs T n2 4 [59]) e3 n3) (q4:Ok e3 (Z7 9 T w n3 []) e4 (l,m)) (q5:Ok e4 (L5 65 T m []) e5 (ds,m2)):Ok 0 (R3 T) e5 ⟨w,l,ds⟩:=by
 refine q1.bind (q2.bindM (fun p hp hg=>?_) fun h=>q5.2 (q4.2 (q3.2 h)));obtain ⟨t,m'⟩:=p;injection hg with hg1 hg2
 dsimp only at hg1 hg2 ⊢;subst hg1 hg2;exact q3.bind (q4.bind (q5.bind .some))
theorem c2j (s:Str) (hs:s.length<=1000000000):b8 CC 151 [(sv s)] [] fun r τ=>∃ x:c33,a08 0 τ r (.ret (c2H x))/\b4R s x:=by
 refine (c4 Tryz.func151 rfl rfl ?_);refine b4l ?_; refine J7 [.dead] rfl ?_; refine z_0 ?_;refine cD (r6 rfl a5l rfl o4 ?_);refine a0w ?_; refine z_1 ?_;refine cD (b9 rfl Tryz.call180 ⟨tt,tt⟩ (c2B s hs _) rfl ?_);rintro ⟨T,nn,at_,e⟩ hP;dsimp only at hP ⊢;refine b2I ?_; refine cY I1 ?_; refine b5v ?_; refine cC (fun h1=>?_) fun h1=>?_
 ·have he:e≠0:=by simpa using h1
  have hl:a0D s=none:=by
   rcases hP with ⟨_,_,_,g⟩ | ⟨g,_⟩
   ·exact absurd g he
   ·exact g
  refine z_0 ?_; refine cY a3Y ?_; refine a8a ?_;refine cD (j3 rfl tt tt rfl c6 a3m o4 rfl rfl (nb rfl) ?_);refine cY I1 ?_; refine z_7 ?_;exact ⟨_,l9 (rs:=[.cell 2 67,.tmp 3,.tmp 4]) (cs:=[_,_,_]) rfl d4i (n_2 rfl),⟨((⟨[],[],[]⟩:Src),at_,e),c9g,.inr ⟨by rw [L6,hl]; rfl,rfl,he⟩⟩⟩
 ·have he:e=0:=by simpa using h1
  obtain ⟨hl,rfl,rfl⟩:a0D s=some T/\nn=true/\at_=0:=by
   rcases hP with ⟨g1,g2,g3,_⟩ | ⟨_,_,_,g⟩
   ·exact ⟨g1,g2,g3⟩
   ·exact absurd he g
  subst he;obtain ⟨hc,h0⟩:=b0S hl;have hT:=hc.len;have hW:=hc.w;have hsp:L6 s=R3 T:=by rw [L6,hl]; rfl
  refine a05 ?_; refine cY (x9 #[(0,1),(1,1),(2,1),(3,1),(4,1),(5,1),(6,1)] rfl ⟨tt,tt⟩ b7K Tryz.zeroValue228 rfl ⟨_,rfl⟩ (fun w=>by kernel_rfl) rfl rfl) ?_;refine cD (a5W rfl tt c6 o4 ?_);refine z_2 ?_; refine J7 [o7 0 ([]:List Ex).length,.box [(sv ([])),.list (([]:List Str).map scv) (gnn ([]:List Str).length) none,.list (([]:List De).map De.cv) (gnn ([]:List De).length) none],rbx T 0 0 0 [] [] 0] rfl ?_; refine L7 (α:=Nat × Int × Int) (fun _=>[(2,.ptr 1 0),(6,.ptr 2 0)]) (fun a=>[o7 a.2.2 ([]:List Ex).length,.box [(sv ([])),.list (([]:List Str).map scv) (gnn ([]:List Str).length) none,.list (([]:List De).map De.cv) (gnn ([]:List De).length) none],rbx T a.1 a.2.1 a.2.2 [] [] 0]) (fun a=>Ok 0 (pIs T 0 1 [112,97,99,107,97,103,101]) a.2.2 a.1/\a.1 < T.length) ?_ ?_
  ·
   refine z_1 ?_;refine cD (b9 rfl a9u o6 (W4 hT h0 hW [112,97,99,107,97,103,101] (q:=2) (s:=0) ⟨rfl,rfl,de_⟩) rfl ?_);rintro ⟨v9,m9⟩ ⟨hv9,hs9,hf9,hm9⟩;dsimp only at hv9 hs9 hf9 hm9 ⊢;refine c8 [o7 0 ([]:List Ex).length,.box [(sv ([])),.list (([]:List Str).map scv) (gnn ([]:List Str).length) none,.list (([]:List De).map De.cv) (gnn ([]:List De).length) none],rbx T m9 0 0 [] [] 0] rfl ?_; refine T7 ?_; refine cC (fun h2=>?_) fun h2=>?_
   ·have hw:v9=false:=by simpa using h2
    refine R7 ?_; refine cY (c7 rfl a6E ⟨tt,tt⟩ (Z1 hT hm9 (q:=2) (s:=0) ⟨rfl,rfl,de_⟩) rfl) ?_; refine d1L ?_; rintro ⟨x0,y0⟩ hy0;dsimp only at hy0 ⊢;refine c8 [o7 y0 ([]:List Ex).length,.box [(sv ([])),.list (([]:List Str).map scv) (gnn ([]:List Str).length) none,.list (([]:List De).map De.cv) (gnn ([]:List De).length) none],rbx T m9 x0 y0 [] [] 0] rfl ?_;exact c5G
   ·have hw:v9=true:=by simpa using h2
    refine i8 ?_;exact ⟨(m9,0,0),⟨by dsimp only; rw [hs9 hw]; exact a9Q (hv9.symm.trans hw),hm9⟩,tu_,rfl⟩
  ·rintro ⟨n1,a1,e1⟩ E1 ⟨q1,y1⟩;dsimp only at q1 y1 ⊢;refine z_1 ?_;refine cD (b9 rfl c6X ⟨tt,tt⟩ (a7t hT y1 hW (q:=2) (s:=0) ⟨rfl,rfl,de_⟩) rfl ?_);rintro ⟨w,n2,a2,e2⟩ ⟨q2,y2⟩;dsimp only at q2 y2 ⊢;refine c8 [o7 e2 ([]:List Ex).length,.box [(sv ([])),.list (([]:List Str).map scv) (gnn ([]:List Str).length) none,.list (([]:List De).map De.cv) (gnn ([]:List De).length) none],rbx T n2 a2 e2 [] [] 0] rfl ?_; refine cY c5Q ?_;refine cD (j3 rfl tt tt rfl c6 t_0 (.inl rfl) rfl rfl (nb rfl) ?_);refine O3 ?_;refine cD (b9 rfl a3N o6 (L1 hT y2 hW [59] (q:=2) (s:=0) ⟨rfl,rfl,de_⟩) rfl ?_);rintro ⟨n3,a3,e3⟩ ⟨q3,y3⟩;dsimp only at q3 y3 ⊢;refine c8 [o7 e3 ([]:List Ex).length,.box [(sv w),.list (([]:List Str).map scv) (gnn ([]:List Str).length) none,.list (([]:List De).map De.cv) (gnn ([]:List De).length) none],rbx T n3 a3 e3 [] [] 0] rfl ?_; refine z_8 ?_; refine B7 ?_; refine A2 hCC 3 rfl (α:=RI5) (fun _=>[(2,.ptr 1 0),(6,.ptr 2 0)]) (fun a=>[o7 a.e ([]:List Ex).length,.box [(sv w),.list (a.l.map scv) (gnn a.l.length) (E7 a.l.length 3),.list (([]:List De).map De.cv) (gnn ([]:List De).length) none],rbx T a.m a.at_ a.e [] [] 0,r7 a.l.length]) (fun a=>(a.e=0->e3=0/\Z7 9 T w n3 []=Z7 (9 - a.l.length) T w a.m a.l/\a.l.length<=8)/\(a.e≠0->e3=0->Z7 9 T w n3 []=none)/\a.m < T.length/\a.l.length<=9) (fun a=>if a.e=0 then 10 - a.l.length else 0) ⟨⟨[],n3,a3,e3⟩,[0,1,2,9],⟨fun h=>⟨h,rfl,n_3 _⟩,fun h h'=>absurd h' h,y3,n_3 _⟩,⟨rfl,rfl⟩,d5T,⟨.inr ⟨_,rfl,.same rfl P6⟩,.inr ⟨_,rfl,.box ⟨.old (.val _),.old a3H,.old (L2 _ [] _),tt⟩⟩,.inr ⟨_,rfl,.same rfl a2k⟩,.inl rfl,tt⟩⟩ ?_; intro ⟨l,m,a5,e⟩ ⟨hI,hN,hm,hl9⟩;dsimp only at hI hN hm hl9 ⊢;refine a9c ?_; refine a1b ?_; refine cG d4D ?_; refine cG c1S ?_; refine b21 ?_; refine cG d4D ?_; refine cG c7o ?_; refine cG a5F ?_; refine a6J ?_; refine cC (fun h3=>?_) fun h3=>?_
   ·have hc3:e=0/\isT (tk T m) 1 [105,109,112,111,114,116]=true:=by simpa [isT,and_assoc] using h3
    obtain ⟨rfl,hi⟩:=hc3;obtain ⟨he3,hS,hl8⟩:=hI rfl;have hm1:=hW m hm (a59 hi de_);refine a2L ?_; refine L7 (α:=Int × Int) (fun _=>[(2,.ptr 1 0),(6,.ptr 2 0)]) (fun a=>[o7 a.2 ([]:List Ex).length,.box [(sv w),.list (l.map scv) (gnn l.length) (E7 l.length 3),.list (([]:List De).map De.cv) (gnn ([]:List De).length) none],rbx T m a.1 a.2 [] [] 0,r7 l.length]) (fun a=>(l.length=8->a.2≠0)/\(l.length≠8->a.2=0)) ?_ ?_
    ·
     refine z_0 ?_; refine a8P ?_; refine a7B ?_; refine cC (fun h4=>?_) fun h4=>?_
     ·have h8:l.length=8:=by simp at h4; omega
      refine R7 ?_; refine cY (c7 rfl a6E ⟨tt,tt⟩ (Z1 hT hm (q:=2) (s:=0) ⟨rfl,rfl,de_⟩) rfl) ?_; refine d1L ?_; rintro ⟨x0,y0⟩ hy0;dsimp only at hy0 ⊢;refine c8 [o7 y0 ([]:List Ex).length,.box [(sv w),.list (l.map scv) (gnn l.length) (E7 l.length 3),.list (([]:List De).map De.cv) (gnn ([]:List De).length) none],rbx T m x0 y0 [] [] 0,r7 l.length] rfl ?_; refine i7 ?_;exact ⟨(x0,y0),⟨fun _=>hy0,fun h=>absurd h8 h⟩,tu_,rfl⟩
     ·have h8:¬ l.length=8:=by simp at h4; omega
      refine i8 ?_;exact ⟨(a5,0),⟨fun h=>absurd h h8,fun _=>rfl⟩,tu_,rfl⟩
    ·rintro ⟨a6,e6⟩ E2 ⟨p1,p2⟩;dsimp only at p1 p2 ⊢;refine a4R ?_; refine b2h ?_; refine z_1 ?_; refine cY (c7 rfl a6E ⟨tt,tt⟩ (Z1 hT hm1 (q:=2) (s:=0) ⟨rfl,rfl,de_⟩) rfl) ?_; refine cY a3I ?_; refine M9 ?_;refine cD (b9 rfl c6X ⟨tt,tt⟩ (a7t hT hm1 hW (q:=2) (s:=0) ⟨rfl,rfl,de_⟩) rfl ?_);rintro ⟨s5,n5,a7,e7⟩ ⟨q5,y5⟩;dsimp only at q5 y5 ⊢;have hls:=S9 l s5;refine c8 [o7 e7 ([]:List Ex).length,.box [(sv w),.list (l.map scv) (gnn l.length) (E7 l.length 3),.list (([]:List De).map De.cv) (gnn ([]:List De).length) none],rbx T n5 a7 e7 [] [] 0,r7 l.length] rfl ?_; refine z_2 ?_; refine L7 (α:=Int × Int) (fun _=>[(2,.ptr 1 0),(6,.ptr 2 0),(8,(sv s5))]) (fun a=>[o7 a.2 ([]:List Ex).length,.box [(sv w),.list (l.map scv) (gnn l.length) (E7 l.length 3),.list (([]:List De).map De.cv) (gnn ([]:List De).length) none],rbx T n5 a.1 a.2 [] [] 0,r7 l.length]) (fun a=>(e7≠0->a.2≠0)/\(e7=0->s5=w\/s5∈l->a.2≠0)/\(e7=0->¬ (s5=w\/s5∈l)->a.2=0)) ?_ ?_
     ·
      refine a5O ?_; refine a1b ?_; refine cG c76 ?_; refine cG a0X ?_; refine cG b04 ?_; refine cG b5r ?_; refine a4j rfl rfl (fun h=>h) rfl rfl (fun hk hg=>j2 rfl tt rfl a7j rfl a3O de_) ?_; refine a4j rfl rfl (fun h=>h) rfl rfl (fun hk hg=>o9 rfl ⟨hk,hg⟩ rfl c2A rfl rfl) ?_; refine a4j rfl rfl (fun h=>h) rfl rfl (fun hk hg=>a3h rfl tt c6) ?_; refine a4j rfl rfl (fun h=>h) rfl rfl (fun hk hg=>c7 rfl Tryz.call186 ⟨⟨hk,hg⟩,⟨hk,hg⟩,tt⟩ (b6J l (gnn l.length) s5 om_ _) rfl) ?_; refine cG (fun hg=>b2Y rfl hg rfl (fun hp=>⟨hg,hp⟩) a0Y) ?_; refine a6J ?_; refine cC (fun h5=>?_) fun h5=>?_
      ·have hc5:e7=0/\(s5=w\/s5∈l):=by simpa using h5
       refine R7 ?_;refine cD (b9 rfl b5J a66 (a18 _ _ de_ (q:=2) (s:=0) ⟨rfl,rfl,de_⟩) rfl ?_);rintro ⟨x0,y0⟩ hy0;dsimp only at hy0 ⊢;refine c8 [o7 y0 ([]:List Ex).length,.box [(sv w),.list (l.map scv) (gnn l.length) (E7 l.length 3),.list (([]:List De).map De.cv) (gnn ([]:List De).length) none],rbx T n5 x0 y0 [] [] 0,r7 l.length] rfl ?_; refine i7 ?_;exact ⟨(x0,y0),⟨fun _=>hy0,fun _ _=>hy0,fun _ h=>absurd hc5.2 h⟩,tu_,rfl⟩
      ·have hc5:¬ (e7=0/\(s5=w\/s5∈l)):=fun h=>by rcases h with ⟨h,h' | h'⟩ <;> simp [h,h'] at h5
       refine i8 ?_;exact ⟨(a7,e7),⟨id,fun h h'=>absurd ⟨h,h'⟩ hc5,fun h _=>h⟩,tu_,rfl⟩
     ·rintro ⟨a8,e8⟩ E3 ⟨p3,p4,p5⟩;dsimp only at p3 p4 p5 ⊢;refine z_1 ?_;refine cD (b9 rfl a3N o6 (L1 hT y5 hW [59] (q:=2) (s:=0) ⟨rfl,rfl,de_⟩) rfl ?_);rintro ⟨n9,a9,e9⟩ ⟨q9,y9⟩;dsimp only at q9 y9 ⊢;have hst:=c7E hl8 hi hS p1 p2 q5 p3 p4 p5 q9;refine c8 [o7 e9 ([]:List Ex).length,.box [(sv w),.list (l.map scv) (gnn l.length) (E7 l.length 3),.list (([]:List De).map De.cv) (gnn ([]:List De).length) none],rbx T n9 a9 e9 [] [] 0,r7 l.length] rfl ?_;refine i7 (A0 ?_);refine a8P ?_; refine cY j7 ?_; refine cY (A3 [scv s5] rfl ⟨tt,tt⟩ t_2 t_0 t_3 rfl rfl rfl rfl rfl rfl rfl rfl rfl) ?_;refine cD (D9 rfl tt tt rfl si_ R6 t_2 t_0 a8h t_3 rfl (.inr rfl) X0 V5 H3 ((l++[s5]).map scv) (l++[s5]).length si_ si_ ?_);refine cY c5t ?_; refine b9G ?_;exact ⟨⟨l++[s5],n9,a9,e9⟩,[0,1,2,4],⟨by
       dsimp only;rw [if_pos rfl]
       split <;> omega,fun h=>⟨he3,(hst.1 h).2,by have:=(hst.1 h).1; dsimp only; omega⟩,fun h _=>hst.2 h,y9,do_⟩,⟨rfl,rfl⟩,d5T,⟨.inr ⟨_,rfl,.same rfl P6⟩,.inr ⟨_,rfl,.box ⟨.old (.val _),r8.grow (f:=scv) (fun _=>⟨.val _,tt⟩) rfl,.old (L2 _ [] _),tt⟩⟩,.inr ⟨_,rfl,.same rfl a2k⟩,.inr ⟨_,rfl,.same rfl s9⟩,tt⟩⟩
   ·have hc3:e=0->isT (tk T m) 1 [105,109,112,111,114,116]=false:=fun h0=>by
     by_cases hi:isT (tk T m) 1 [105,109,112,111,114,116]=true
     ·have:=O5 hi;simp [h0,this.1,this.2] at h3
     ·simpa using hi
    have q4:Ok e3 (Z7 9 T w n3 []) e (l,m):=Ok.of (fun h=>by
     obtain ⟨g3,hS,hl8⟩:=hI h;obtain ⟨f,hf⟩:∃ f,9 - l.length=f+1:=⟨8 - l.length,om_⟩;exact ⟨g3,hS.trans (by rw [hf,Z7,if_neg (by rw [hc3 h]; decide)])⟩) hN
    refine z6 ?_; refine a8o ?_; refine A2 hCC 4 rfl (α:=RJ5) (fun _=>[(2,.ptr 1 0),(6,.ptr 2 0)]) (fun a=>[.dead,.box [(sv w),.list (l.map scv) (gnn l.length) none,.list (a.ds.map De.cv) (gnn a.ds.length) (E7 a.ds.length 4)],rbx T a.m a.at_ a.e a.ps a.b 5,.dead,r7 a.ds.length,o7 a.e a.b.length]) (fun a=>(a.e=0->e=0/\L5 65 T m []=L5 (65 - a.ds.length) T a.m a.ds/\a.ds.length<=64)/\(a.e≠0->e=0->L5 65 T m []=none)/\a.m < T.length/\a.ds.length<=65) (fun a=>if a.e=0 then T.length - a.m+1 else 0) ⟨⟨[],m,a5,e,[],[]⟩,[0,1,2,3,9,10],⟨fun h=>⟨h,rfl,n_3 _⟩,fun h h'=>absurd h' h,hm,n_3 _⟩,⟨rfl,rfl⟩,d5T,⟨.inl rfl,.inr ⟨_,rfl,.box ⟨.old (.val _),W6 (f:=scv) (fun _=>⟨.val _,tt⟩) _,.old (L2 _ [] _),tt⟩⟩,.inr ⟨_,rfl,.box ⟨.old a16,.old (.val _),.old (.val _),.old (.val _),.old O0,c2s,.old a5J,tt⟩⟩,.inl rfl,.inl rfl,.inl (c7c _),tt⟩⟩ ?_; intro ⟨ds,m2,a6,e5,ps,b⟩ ⟨hI2,hN2,hm2,hds⟩;dsimp only at hI2 hN2 hm2 hds ⊢;refine a9c ?_; refine a1b ?_; refine cG (fun hg=>c7 rfl a6E ⟨hg,tt⟩ (Z1 hT hm2 (q:=2) (s:=5) ⟨rfl,rfl,de_⟩) rfl) ?_; refine cG c1S ?_; refine a9j ?_; refine cC (fun h6=>?_) fun h6=>?_
    ·have hc6:e5=0/\¬ (tk T m2).k=5:=by simpa using h6
     obtain ⟨rfl,hk⟩:=hc6;obtain ⟨he,hS,hd64⟩:=hI2 rfl;refine a2L ?_; refine B5 [0,1,2,3,4,5,6,7,8] 4 [0,1,0,0,12,28,63,127,255] [[0,1],[0,1],[],[],[]] (hd1l:=[0,1,2,3]) (tll:=[(4,[0,1]),(5,[0,1]),(6,[]),(7,[]),(8,[])]) d5 d5 rfl rfl rfl ?_; refine chf rfl c1G ?_; refine chf rfl c69 ?_; refine chf rfl U4 ?_; refine chf rfl (d6 rfl a3Y) ?_; refine D2 ?_;refine A9 rfl rfl (b9 rfl Tryz.call187 j1 (c9x hc w l ds hd64 hm2 (q:=2) (s:=5) ⟨rfl,rfl,de_⟩) rfl ?_);rintro ⟨d,m1,a7,e7,ps7,b7⟩ ⟨k7,y7,w7,z7⟩;dsimp only at k7 y7 w7 z7 ⊢;have hls:=S9 ds d;have hme:(if e7=0 then T.length - m1+1 else 0) < (if (0:Int)=0 then T.length - m2+1 else 0):=by
      rw [if_pos rfl]
      split
      ·rename_i h0;have:=z7 h0;omega
      ·omega
     have hst:=c34 (a:=⟨d,m1,a7,e7,ps7,b7⟩) hd64 hk hS k7;refine a1c [.dead,.box [(sv w),.list (l.map scv) (gnn l.length) none,.list (ds.map De.cv) (gnn ds.length) (E7 ds.length 4)],rbx T m1 a7 e7 ps7 b7 6,.dead,r7 ds.length,.dead,o7 e7 b7.length] rfl ?_; refine d2V ?_;refine A9 rfl rfl (D9 rfl tt tt rfl si_ R6 b1F a68 Tryz.typeInfo119 a9t rfl (.inr rfl) X0 (by have hb:Tryz.t119.bytes=72:=rfl; rw [hb]; first|omega|(simp; done)|(simp; omega)) H3 ((ds++[d]).map De.cv) (ds++[d]).length si_ si_ ?_);refine ⟨tt,?_⟩;refine d1M ?_; refine a3E ?_;exact ⟨⟨ds++[d],m1,a7,e7,ps7,b7⟩,[0,1,2,3,7,6],⟨hme,fun h=>⟨he,(hst.1 h).2,by have:=(hst.1 h).1; dsimp only; omega⟩,fun h _=>hst.2 h,y7,do_⟩,⟨rfl,rfl⟩,d5T,⟨.inl rfl,.inr ⟨_,rfl,.box ⟨.old (.val _),.old O0,r8.grow (f:=De.cv) (fun _=>⟨.val _,.val _,A5 _ _ _,J5 _ _ _,tt⟩) rfl,tt⟩⟩,.inr ⟨_,rfl,.box ⟨.old a16,.old (.val _),.old (.val _),.old (.val _),.old O0,a2x rfl,.old a5J,tt⟩⟩,.inl rfl,.inr ⟨_,rfl,.same rfl s9⟩,.inr ⟨_,rfl,.same rfl P6⟩,tt⟩⟩
    ·have q5:Ok e (L5 65 T m []) e5 (ds,m2):=Ok.of (fun h=>by
      obtain ⟨g3,hS,hd64⟩:=hI2 h;have hk:(tk T m2).k=5:=by
       by_cases hk:(tk T m2).k=5
       ·exact hk
       ·simp [h,hk] at h6
      obtain ⟨f,hf⟩:∃ f,65 - ds.length=f+1:=⟨64 - ds.length,om_⟩;exact ⟨g3,hS.trans (by rw [hf,L5,if_pos hk])⟩) hN2
     have hfile:=(c9o q1 q2 q3 q4 q5).zero;refine z6 ?_; refine a9c ?_; refine G9 ?_; refine cC (fun h7=>?_) fun h7=>?_
     ·have he5:e5≠0:=by simpa using h7
      refine w8 ?_; refine B5 [0,1,2,3,4,5,6,7,8,9,10,11] 9 [0,0,2,6,14,0,32,96,224,1,543,2047] [[1,2,3,4,5,6,7,8],[5,6,7,8],[]] (hd1l:=[0,1,2,3,4,5,6,7,8]) (tll:=[(9,[1,2,3,4,5,6,7,8]),(10,[5,6,7,8]),(11,[])]) d5 d5 rfl rfl rfl ?_; refine chf rfl d3f ?_; refine a8d ?_; refine chf rfl (d6 rfl b3F) ?_; refine chf rfl b2n ?_; refine a8d ?_; refine chf rfl (d6 rfl b61) ?_; refine chf rfl c7p ?_; refine c6l ?_;refine ⟨⟨C8,a1K,(by exact d6 rfl b3F),b3x,C8,a1K,(by exact d6 rfl b61),b2f,tt⟩,?_⟩;refine D5 rfl c0r ⟨⟨C8,a1K,(by exact d6 rfl b61),b2f,tt⟩,?_⟩;refine a9f ?_; refine G3 ?_;exact ⟨_,l9 (rs:=[.cell 2 67,.tmp 3,.tmp 4]) (cs:=[_,_,_]) rfl d4i (n_2 rfl),⟨((⟨[],[],[]⟩:Src),a6,e5),c9g,.inr ⟨by rw [hsp]; exact (hfile.resolve_left fun h=>he5 h.1).2,rfl,he5⟩⟩⟩
     ·have he5:e5=0:=by simpa using h7
      refine a0x ?_; refine d05 ?_; refine a2V ?_;exact ⟨_,l9 (rs:=[.cell 2 67,.tmp 3,.tmp 4]) (cs:=[_,_,_]) rfl d4i (n_2 rfl),⟨(⟨w,l,ds⟩,0,0),(by exact .ret (.tups ⟨.aggs ⟨.old (.val _),.old O0,.tok (A6 (f:=De.cv) (fun a=>(De.pure a).all) _),tt⟩,.old (.val _),.old (.val _),tt⟩)),.inl ⟨by rw [hsp]; exact (hfile.resolve_right fun h=>h.1 he5).2,rfl,rfl⟩⟩⟩
theorem c6x (s:Str) (hs:s.length<=1000000000) (σ:List c5):b8 CC 151 [(sv s)] σ fun r τ=>∃ x:c33,r = .ret (c2H x)/\τ=σ/\b4R s x :=
 E9 (res:=fun x=>.ret (c2H x)) hCC (fun c hc=>by simp at hc; subst hc; exact .val _) (c2j s hs) (fun x _=>B2 ⟨o8 x.1.pure,.val _,.val _,tt⟩) σ
def b1U (p b:Str):Option Src:=if a11 p=true then L6 b else none
def a6o (l:List Fi) (p:Str):Option Src:=(if C2 l=0 then C7 l p else none).bind (b1U p)
def F8 (l:List Fi):List (Str × Src):=l.filterMap fun f=>(b1U f.p f.b).map fun s=>(f.p,s)
theorem b8b {l:List Fi} {y:Fi} (h:l[i]? = some y):F8 (l.drop i)=(match b1U y.p y.b with | none=>[] | some s=>[(y.p,s)])++F8 (l.drop (i+1)):=by
 obtain ⟨hlt,rfl⟩:=n_0.1 h;rw [Q9 hlt];unfold F8;rw [List.filterMap_cons];cases b1U l[i].p l[i].b <;> rfl
abbrev a9z (P:List Str) (S:List Src):List CV:=[.list (P.map scv) (gnn P.length) none,.list (S.map Src.cv) (gnn S.length) none]
def b3e (l:List Fi):List Str:=if C2 l=0 then (F8 l).map Prod.fst else []
def b2L (l:List Fi):List Src:=if C2 l=0 then (F8 l).map Prod.snd else []
theorem a7U (l:List Src) (nn:Bool):p9 (.list (l.map Src.cv) nn none):=M3 (f:=Src.cv) (fun a=>(Src.pure a)) l nn
theorem a0C (n:Nat) (l:List Src) (nn:Bool):Old n (.list (l.map Src.cv) nn none):=(a7U l nn).old
theorem b5D (l:List Fi) (nn:Bool) (p:Str) (hl:l.length<=1000000) (hp:p.length<=1000000000) (hb:∀ q b,C7 l q=some b->b.length<=1000000000) (σ:List c5):b8 CC 99 [.agg (u0 l nn),(sv p)] σ fun r σ'=>r = .ret (.tup [.agg ((a6o l p).getD Src.z).cells,.val (.bool (a6o l p).isSome)])/\σ'=σ:=by
 refine b8.anyw hCC (by repeat' (first|exact .val _|exact D4 _ _|exact Src.pure _|exact tt | refine o8 ?_ | refine B2 ?_ | refine ⟨?_,?_⟩)) (by repeat' (first|exact .val _|exact D4 _ _|exact Src.pure _|exact tt | refine o8 ?_ | refine B2 ?_ | refine ⟨?_,?_⟩)) ?_ σ;refine d4 (c4 Tryz.func99 rfl rfl ?_);refine a6m ?_;refine cD (r6 rfl a5l rfl o4 ?_);refine z_3 ?_; refine b0G ?_; refine cY j7 ?_; refine cY (c7 rfl Tryz.call87 j1 (c20 l nn p hl _) rfl) ?_; refine a2P ?_; refine a4a ?_; refine cY a5M ?_; refine a6i ?_; refine cG (fun hg=>c7 rfl Tryz.call24 ⟨hg,tt⟩ (a50 p hp _) rfl) ?_; refine cG a83 ?_; refine a4L ?_; refine cC (fun h1=>?_) fun h1=>?_
 ·have h0:a6o l p=none:=by
   unfold a6o b1U;cases hz:(if C2 l=0 then C7 l p else none) with
   | none=>rfl
   | some b =>
    rw [hz] at h1;simp at h1;simp [h1]
  refine z_0 ?_; refine cY (x9 #[(0,1),(1,1),(2,1)] rfl tt a7j a5l rfl ⟨_,rfl⟩ (fun w=>by kernel_rfl) rfl rfl) ?_;refine cD (j3 rfl tt tt rfl c6 a3m o4 rfl rfl (nb rfl) ?_);refine a6e ?_;exact ⟨_,l9 (rs:=[.cell 4 67,.tmp 5]) (cs:=[_,_]) rfl d3g (n_2 rfl),_,_,rfl,rfl,(by rw [h0]; exact .tups ⟨.old (o8 (Src.pure Src.z)).old,.old (.val _),tt⟩)⟩
 ·obtain ⟨b,hz,hs⟩:∃ b,(if C2 l=0 then C7 l p else none)=some b/\a11 p=true:=by
   cases hz:(if C2 l=0 then C7 l p else none) with
   | none=>rw [hz] at h1; simp at h1
   | some b=>rw [hz] at h1; simp at h1; exact ⟨b,rfl,h1⟩
  have h0:a6o l p=L6 b:=by rw [a6o,hz,n_5,b1U,if_pos hs]
  refine a05 ?_;refine cD (b9 rfl Tryz.call151 ⟨tt,tt⟩ (c6x _ (by
   cases hd:C7 l p with
   | none=>split <;> simp
   | some b=>have:=hb p b hd; split <;> simp <;> omega) _) rfl ?_)
  rintro ⟨x,at_,e⟩ hP;dsimp only at hP ⊢;rw [hz] at hP;have hx:((a6o l p).getD Src.z)=x/\(a6o l p).isSome=decide (e=0):=by
   rw [h0]
   rcases hP with ⟨g1,_,g3⟩ | ⟨g1,g2,g3⟩
   ·replace g1:L6 b=some x:=g1;rw [g1]; exact ⟨rfl,(a2H g3).symm⟩
   ·replace g1:L6 b=none:=g1;rw [g1]; exact ⟨g2.symm,(a3l g3).symm⟩
  refine b2I ?_; refine c5v ?_; refine cY I1 ?_; refine z_2 ?_; refine z_0 ?_; refine cY a3Y ?_; refine cY j7 ?_; refine cY P1 ?_;refine cD (j3 rfl tt tt rfl c6 a3m o4 rfl rfl (nb rfl) ?_);refine z_7 ?_;exact ⟨_,l9 (rs:=[.cell 4 67,.tmp 5]) (cs:=[_,_]) rfl d3g (n_2 rfl),_,_,rfl,rfl,(by rw [hx.1,hx.2]; exact .tups ⟨.old (o8 (Src.pure x)).old,.old (.val _),tt⟩)⟩
theorem c5W {l:List Fi} (h:C2 l=0):l.length<=64:=by
 unfold C2 at h;split at h
 ·cases h
 ·omega
theorem c7l (l:List Fi) (nn:Bool) (hl:l.length<=1000000) (hp:∀ f∈l,f.p.length<=1000000000) (hbl:∀ q b,C7 l q=some b->b.length<=1000000000) (hd:C2 l=0->∀ f∈l,C7 l f.p=some f.b):b8 CC 55 [.agg (u0 l nn)] [] fun r τ=>∃ _:Unit,a08 0 τ r (.ret (.agg (a9z (b3e l) (b2L l))))/\True:=by
 refine (c4 Tryz.func55 rfl rfl ?_);refine a6m ?_;refine cD (r6 rfl c8S rfl o4 ?_);refine U2 ?_;refine cD (r6 rfl c8S rfl o4 ?_);refine a2i ?_; refine cY a15 ?_; refine cY c1E ?_; refine G9 ?_; refine cC (fun h1=>?_) fun h1=>?_
 ·have h0:¬ C2 l=0:=by simpa using h1
  refine z_0 ?_; refine d2u ?_; refine b1p ?_;exact ⟨_,A8 rfl ⟨tt,_,_,_,rfl,rfl,.inr ⟨_,c6g,b5z,nb rfl,rfl⟩⟩,⟨(),by rw [b3e,b2L,if_neg h0,if_neg h0]; exact .ret (.old (o8 (cs:=[.list [] false none,.list [] false none]) ⟨F7 [] false,F7 [] false,tt⟩).old),tt⟩⟩
 ·have h0:C2 l=0:=by simpa using h1
  have h64:=c5W h0;refine a19 ?_; refine a0U ?_; refine A2 hCC 3 rfl (α:=Nat × List Str × List Src) (fun a=>[(1,.ptr 0 0),(2,.ptr 1 0),(3,.ptr 2 0),(13,(.list (l.map Fi.cv) nn none)),(14,(.val (.int .i64 (l.length:Int)))),(15,(.val (.int .i64 (a.1:Int))))]) (fun a=>[.box (u0 l nn),.box [.list [] false none,.list [] false none],.box [.list (a.2.1.map scv) (gnn a.2.1.length) (E7 a.2.1.length 3),.list (a.2.2.map Src.cv) (gnn a.2.2.length) (E7 a.2.2.length 4)],r7 a.2.1.length,r7 a.2.2.length]) (fun a=>a.1<=l.length/\a.2.1.length<=a.1/\a.2.2.length<=a.1/\(F8 l).map Prod.fst=a.2.1++(F8 (l.drop a.1)).map Prod.fst/\(F8 l).map Prod.snd=a.2.2++(F8 (l.drop a.1)).map Prod.snd) (fun a=>l.length - a.1) ⟨(0,[],[]),[0,1,2,9,10],⟨n_3 _,n_4 _,n_4 _,rfl,rfl⟩,⟨rfl,rfl⟩,a8g,⟨.inr ⟨_,rfl,.box ⟨.old R5,tt⟩⟩,.inr ⟨_,rfl,.box ⟨.old a3H,.old a3H,tt⟩⟩,.inr ⟨_,rfl,.box ⟨.old a3H,.old a3H,tt⟩⟩,.inl rfl,.inl rfl,tt⟩⟩ ?_; intro ⟨i,P,Q⟩ ⟨hi,hpl,hql,hr,hq⟩;dsimp only at hi hpl hql hr hq ⊢;refine F2 ?_; refine cC (fun h2=>?_) fun h2=>?_
  ·have hlt:(i:Int) < l.length:=by simpa using h2
   obtain ⟨y,hb⟩:∃ y,l[i]? = some y:=⟨l[i]'om_,si_⟩;have hyd:=hd h0 y (n_1 hb);have hsy:a6o l y.p=b1U y.p y.b:=by rw [a6o,if_pos h0,hyd]; rfl
   rw [b8b hb] at hr hq;refine d1c ?_; refine cY a15 ?_; refine a4m ?_; refine cY (c7 rfl Tryz.call99 j1 (b5D l nn y.p hl (hp y (n_1 hb)) hbl _) rfl) ?_; refine c2R ?_; refine c5v ?_; refine M9 ?_; refine i7 ?_; refine cC (fun h3=>?_) fun h3=>?_
   ·obtain ⟨s,hs⟩:∃ s,b1U y.p y.b=some s:=b8X.1 (by rw [<- hsy]; exact h3);have hsd:(a6o l y.p).getD Src.z=s:=by rw [hsy,hs]; rfl
    rw [hs] at hr hq;replace hr:(F8 l).map Prod.fst=P++(y.p::(F8 (l.drop (i+1))).map Prod.fst):=hr;replace hq:(F8 l).map Prod.snd=Q++(s::(F8 (l.drop (i+1))).map Prod.snd):=hq;rw [<- hsd] at hq;refine a2z [] [11] [0,1,2,3,4,6,7,8,9,5,11,10,12,13,14] 9 [0,1,0,4,12,31,0,64,0,256,1023,255,4095,8191,16383] [[5,6,7,8],[5,6,7,8],[],[],[],[]] (hd1l:=[0,1,2,3,4,6,7,8,9]) (tll:=[(5,[5,6,7,8]),(11,[5,6,7,8]),(10,[]),(12,[]),(13,[]),(14,[])]) d5 d5 d5 tt rfl rfl rfl ?_; refine chf rfl (d6 rfl c03) ?_; refine chf rfl c7u ?_; refine b2D ?_; refine chf rfl d5B ?_; refine chf rfl (d6 rfl b5m) ?_; refine chf rfl (d6 rfl c1O) ?_; refine chf rfl (d6 rfl a3Y) ?_; refine chf rfl (d6 rfl d4C) ?_; refine D2 ?_;refine a3A rfl rfl rfl rfl (D9 rfl tt tt rfl si_ R6 t_2 t_0 a8h t_3 rfl (.inr rfl) X0 V5 H3 ((P++[y.p]).map scv) (P++[y.p]).length si_ si_ ?_);refine ⟨⟨(by exact d6 rfl b5m),(by exact d6 rfl c1O),(by exact d6 rfl a3Y),(by exact d6 rfl d4C),tt⟩,?_⟩;refine b07 rfl rfl (fun _=>d6 rfl c03) ?_;refine a3A rfl rfl rfl rfl (D9 rfl tt tt rfl si_ R6 b5h a3m Tryz.typeInfo67 a5l rfl (.inr rfl) X0 (by have hb:Tryz.t67.bytes=64:=rfl; rw [hb]; first|omega|(simp; done)|(simp; omega)) H3 ((Q++[(a6o l y.p).getD Src.z]).map Src.cv) (Q++[(a6o l y.p).getD Src.z]).length si_ si_ ?_);refine ⟨tt,?_⟩;refine a3A rfl rfl rfl rfl (j3 rfl tt tt rfl c6 a3O (.inl rfl) rfl rfl (nb rfl) ?_);refine ⟨tt,?_⟩;refine b3C rfl rfl rfl (d6 rfl b5m) ⟨tt,?_⟩;refine a3A rfl rfl rfl rfl (j3 rfl tt tt rfl c6 Tryz.sizeOf103 (.inl rfl) rfl rfl (nb rfl) ?_);refine ⟨tt,?_⟩;refine c1V ?_; refine b4y ?_;exact ⟨(i+1,P++[y.p],Q++[(a6o l y.p).getD Src.z]),[0,1,2,7,8],⟨do_,do_,by dsimp only; simp; omega,by dsimp only; simp; omega,by dsimp only; rw [hr,n_9]; rfl,by dsimp only; rw [hq,n_9]; rfl⟩,⟨rfl,rfl⟩,a8g,⟨.inr ⟨_,rfl,.box ⟨.old R5,tt⟩⟩,.inr ⟨_,rfl,.box ⟨.old a3H,.old a3H,tt⟩⟩,.inr ⟨_,rfl,.box ⟨r8.grow (f:=scv) (fun _=>⟨.val _,tt⟩) rfl,r8.grow (f:=Src.cv) (fun _=>⟨.val _,A5 _ _ _,L2 _ _ _,tt⟩) rfl,tt⟩⟩,.inr ⟨_,rfl,.same rfl s9⟩,.inr ⟨_,rfl,.same rfl s9⟩,tt⟩⟩
   ·have hs:b1U y.p y.b=none:=by rw [<- hsy]; simpa using h3
    rw [hs] at hr hq;rw [a7u] at hr hq;refine a2h ?_;exact ⟨(i+1,P,Q),[0,1,2,3,4],⟨do_,do_,do_,do_,hr,hq⟩,⟨rfl,rfl⟩,a8g,⟨.inr ⟨_,rfl,.box ⟨.old R5,tt⟩⟩,.inr ⟨_,rfl,.box ⟨.old a3H,.old a3H,tt⟩⟩,.inr ⟨_,rfl,.box ⟨r8.grow (f:=scv) (fun _=>⟨.val _,tt⟩) rfl,r8.grow (f:=Src.cv) (fun _=>⟨.val _,A5 _ _ _,L2 _ _ _,tt⟩) rfl,tt⟩⟩,.inr ⟨_,rfl,.same rfl s9⟩,.inr ⟨_,rfl,.same rfl s9⟩,tt⟩⟩
  ·have hge:l.length<=i:=by simp at h2; omega
   rw [U5 hge] at hr hq;replace hr:(F8 l).map Prod.fst=P:=by rw [hr]; exact a0P _
   replace hq:(F8 l).map Prod.snd=Q:=by rw [hq]; exact a0P _
   refine Z5 ?_; refine d2u ?_; refine b1p ?_;exact ⟨_,A8 rfl ⟨tt,_,_,_,rfl,rfl,.inr ⟨_,c6g,b5z,nb rfl,rfl⟩⟩,⟨(),by rw [b3e,b2L,if_pos h0,if_pos h0,hr,hq]; exact .ret (.aggs ⟨.tok (A6 (f:=scv) (fun _=>S2.all ⟨.val _,tt⟩) _),.tok (A6 (f:=Src.cv) (fun a=>(Src.pure a).all) _),tt⟩),tt⟩⟩
theorem c9V (l:List Fi) (nn:Bool) (hl:l.length<=1000000) (hp:∀ f∈l,f.p.length<=1000000000) (hbl:∀ q b,C7 l q=some b->b.length<=1000000000) (hd:C2 l=0->∀ f∈l,C7 l f.p=some f.b) (σ:List c5):b8 CC 55 [.agg (u0 l nn)] σ fun r τ=>r = .ret (.agg (a9z (b3e l) (b2L l)))/\τ=σ :=
 (E9 (α:=Unit) (res:=fun _=>.ret (.agg (a9z (b3e l) (b2L l)))) hCC (fun c h=>by simp at h; subst h; exact o8 ⟨D4 _ _,tt⟩) (c7l l nn hl hp hbl hd) (fun _ _=>o8 ⟨F7 _ _,a7U _ _,tt⟩) σ).mono fun _ _ ⟨_,h1,h2,_⟩=>⟨h1,h2⟩
def fiD (k:Int) (o pa pk:Str):List De->Nat->En->En
 | [],_,e=>e
 | d::l,j,e=>fiD k o pa pk l (j+1) (if (d.k == k && decide (d.name=o))=true then (if (e.ct+1 == 1)=true then ⟨pk,e.o,e.k,pa,j,e.ct+1⟩ else ⟨e.p,e.o,e.k,e.pl,e.ix,e.ct+1⟩) else e)
def fiL (k:Int) (p o:Str):List (Str × Src)->En->En
 | [],e=>e
 | x::l,e=>fiL k p o l (if ((k != 3) && !decide (x.2.pkg=p))=true then e else fiD k o x.1 x.2.pkg x.2.decls 0 e)
def fiE (L:List (Str × Src)) (k:Int) (p o:Str):En:=fiL k p o L ⟨if k=3 then [] else p,o,k,[],0,0⟩
theorem c8J {k:Int} {o pa pk:Str} {l:List De} {d:De} {e:En} (h:l[j]? = some d):fiD k o pa pk (l.drop j) j e=fiD k o pa pk (l.drop (j+1)) (j+1) (if (d.k == k && decide (d.name=o))=true then (if (e.ct+1 == 1)=true then ⟨pk,e.o,e.k,pa,j,e.ct+1⟩ else ⟨e.p,e.o,e.k,e.pl,e.ix,e.ct+1⟩) else e):=by
 obtain ⟨hlt,rfl⟩:=n_0.1 h;rw [Q9 hlt]; rfl
theorem c5X {k:Int} {p o:Str} {l:List (Str × Src)} {e:En} (h:l[i]? = some x):fiL k p o (l.drop i) e=fiL k p o (l.drop (i+1)) (if ((k != 3) && !decide (x.2.pkg=p))=true then e else fiD k o x.1 x.2.pkg x.2.decls 0 e):=by
 obtain ⟨hlt,rfl⟩:=n_0.1 h;rw [Q9 hlt]; rfl
theorem c1j {L:List (Str × Src)} (h:L[i]? = some x):(L.map Prod.fst)[i]? = some x.1:=by rw [N0,h]; rfl
theorem d0q {L:List (Str × Src)} (h:L[i]? = some x):(L.map Prod.snd)[i]? = some x.2:=by rw [N0,h]; rfl
theorem b7V (L:List (Str × Src)) (k:Int) (p o:Str) (hL:L.length<=1000) (hd:∀ x∈L,x.2.decls.length<=100000) (σ:List c5):b8 CC 62 [.agg (a9z (L.map Prod.fst) (L.map Prod.snd)),(.val (.int .i64 k)),(sv p),(sv o)] σ fun r σ'=>r = .ret (.agg (fiE L k p o).cells)/\σ'=σ:=by
 refine b8.anyw hCC pu_ pu_ ?_ σ;refine d4 (c4 Tryz.func62 rfl rfl ?_);refine a6m ?_;refine cD (r6 rfl a7n rfl o4 ?_);refine i7 ?_; refine a0n ?_; refine cY d4u ?_; refine c5R ?_; refine W7 hCC (α:=Str) (fun _=>[(1,(.val (.int .i64 k))),(2,(sv p)),(3,(sv o)),(4,.ptr 0 0),(8,.ptr 1 0),(9,.ptr 2 0)]) (fun a=>[.box (a9z (L.map Prod.fst) (L.map Prod.snd)),.box En.z.cells,.box (⟨a,o,k,[],0,0⟩:En).cells]) (fun a=>a=if k=3 then [] else p) A1 uz_ ?_ ?_
 ·
  refine z_1 ?_; refine G9 ?_; refine cC (fun h1=>?_) fun h1=>?_
  ·have hk:k=3:=by simpa using h1
   refine A0 ?_; refine cY b52 ?_;refine cD (j3 rfl tt rfl rfl c6 t_0 (.inl rfl) rfl rfl (nb rfl) ?_);refine i7 ?_;exact ⟨([]:Str),_,(if_pos hk).symm,tu_,rfl⟩
  ·have hk:¬ k=3:=by simpa using h1
   refine i8 ?_;exact ⟨p,_,(if_neg hk).symm,tu_,rfl⟩
 ·intro pp hpp;have hsl:(L.map Prod.snd).length=L.length:=a0B _;refine a1R ?_; refine cY b5m ?_; refine cY c1O ?_; refine cY (X7 rfl tt rfl b5h a4c rfl) ?_; refine a1n ?_; refine o0 hCC (α:=Nat × En) (fun a=>[(1,(.val (.int .i64 k))),(2,(sv p)),(3,(sv o)),(4,.ptr 0 0),(8,.ptr 1 0),(9,.ptr 2 0),(22,(.list ((L.map Prod.snd).map Src.cv) (gnn (L.map Prod.snd).length) none)),(23,(.val (.int .i64 ((L.map Prod.snd).length:Int)))),(24,(.val (.int .i64 (a.1:Int))))]) (fun a=>[.box (a9z (L.map Prod.fst) (L.map Prod.snd)),.box En.z.cells,.box a.2.cells]) (fun a=>a.1<=L.length/\fiE L k p o=fiL k p o (L.drop a.1) a.2/\0<=a.2.ct/\a.2.ct<=100000*(a.1:Int)) (fun a=>L.length - a.1) (0,(⟨pp,o,k,[],0,0⟩:En)) ⟨n_3 _,by rw [hpp]; rfl,b35 _,b35 _⟩ tu_ (extra0:=[]) rfl A1 uz_ ?_; intro ⟨i,e⟩ ⟨hi,hr,h0,hc⟩;dsimp only at hi hr h0 hc ⊢;refine F2 ?_; refine cC (fun h2=>?_) fun h2=>?_
  ·have hlt:i < L.length:=by simp at h2; omega
   obtain ⟨x,hb⟩:∃ x,L[i]? = some x:=⟨L[i]'hlt,si_⟩;have hxd:=hd x (n_1 hb);rw [c5X hb] at hr;refine Z0 ?_; refine d21 ?_;refine cD (r6 rfl a5l rfl o4 ?_);refine cY I1 ?_;refine cD (j3 rfl tt tt rfl c6 a3m o4 rfl rfl (nb rfl) ?_);refine a2s ?_; refine a4O ?_; refine cG c76 ?_; refine cG a0X ?_; refine cG Y6 ?_; refine cG (fun hg=>a0N rfl hg hg rfl rfl (b1M _ _)) ?_; refine a6J ?_; refine cC (fun h3=>?_) fun h3=>?_
   ·rw [if_pos h3] at hr;exact d2w
   ·rw [if_neg (by rw [h3]; exact a9v)] at hr;refine a0x ?_; refine b1z ?_; refine o0 hCC (α:=Nat × En) (fun a=>[(1,(.val (.int .i64 k))),(2,(sv p)),(3,(sv o)),(4,.ptr 0 0),(8,.ptr 1 0),(9,.ptr 2 0),(10,(.val (.int .i64 (i:Int)))),(11,.ptr 3 0),(22,(.list ((L.map Prod.snd).map Src.cv) (gnn (L.map Prod.snd).length) none)),(23,(.val (.int .i64 ((L.map Prod.snd).length:Int)))),(24,(.val (.int .i64 (i:Int)))),(38,(.list (x.2.decls.map De.cv) (gnn x.2.decls.length) none)),(39,(.val (.int .i64 (x.2.decls.length:Int)))),(40,(.val (.int .i64 (a.1:Int))))]) (fun a=>[.box (a9z (L.map Prod.fst) (L.map Prod.snd)),.box En.z.cells,.box a.2.cells,.box x.2.cells]) (fun a=>a.1<=x.2.decls.length/\fiE L k p o=fiL k p o (L.drop (i+1)) (fiD k o x.1 x.2.pkg (x.2.decls.drop a.1) a.1 a.2)/\0<=a.2.ct/\a.2.ct<=100000*(i:Int)+(a.1:Int)) (fun a=>x.2.decls.length - a.1) (0,e) ⟨n_3 _,hr,h0,do_⟩ tu_ (extra0:=[]) rfl A1 uz_ ?_; intro ⟨j,e⟩ ⟨hj,hr,h0,hc⟩;dsimp only at hj hr h0 hc ⊢;refine F2 ?_; refine cC (fun h4=>?_) fun h4=>?_
    ·have hjt:j < x.2.decls.length:=by simp at h4; omega
     obtain ⟨d,hdd⟩:∃ d,x.2.decls[j]? = some d:=⟨x.2.decls[j]'hjt,si_⟩;rw [c8J hdd] at hr;refine Z0 ?_; refine d27 ?_;refine cD (r6 rfl a9t rfl o4 ?_);refine cY I1 ?_;refine cD (j3 rfl tt tt rfl c6 a68 o4 rfl rfl (nb rfl) ?_);refine U2 ?_; refine a5x ?_; refine cY j7 ?_; refine cY a2B ?_; refine cY j7 ?_; refine cG c1l ?_; refine b6g ?_; refine a6J ?_; refine cC (fun h5=>?_) fun h5=>?_
     ·rw [if_pos h5] at hr;refine z_0 ?_; refine a1M ?_; refine cY S8 ?_; refine cY b5c ?_; refine c2o ?_; refine z_0 ?_; refine a1M ?_; refine G9 ?_; refine cC (fun h6=>?_) fun h6=>?_
      ·rw [if_pos h6] at hr;refine B5 [0,1,2,3,4,5,6,7,8,9,10,11,12,13] 9 [0,1,0,4,0,28,60,0,3,259,895,1919,4095,8191] [[2,3,4,5,6,7],[7],[7],[],[]] (hd1l:=[0,1,2,3,4,5,6,7,8]) (tll:=[(9,[2,3,4,5,6,7]),(10,[7]),(11,[7]),(12,[]),(13,[])]) d5 d5 rfl rfl rfl ?_; refine chf rfl (d6 rfl c5Q) ?_; refine chf rfl c8P ?_; refine chf rfl (d6 rfl c03) ?_; refine chf rfl c7u ?_; refine chf rfl U4 ?_; refine chf rfl (d6 rfl (t6 rfl tt tt rfl rfl t_2 t_0 om_ (j8 (c1j hb)) rfl)) ?_; refine chf rfl (d6 rfl a0T) ?_; refine chf rfl U4 ?_; refine chf rfl (d6 rfl b52) ?_; refine D2 ?_;refine A9 rfl rfl (j3 rfl tt tt rfl c6 t_0 (.inl rfl) rfl rfl (nb rfl) ?_);refine ⟨⟨(by exact d6 rfl c03),(by exact d6 rfl a5U),C8,(by exact d6 rfl (t6 rfl tt tt rfl rfl t_2 t_0 om_ (j8 (c1j hb)) rfl)),(by exact d6 rfl a0T),C8,tt⟩,?_⟩;refine D5 rfl (d6 rfl b52) ⟨⟨C8,tt⟩,?_⟩;refine A9 rfl rfl (j3 rfl tt tt rfl c6 t_0 (.inl rfl) rfl rfl (nb rfl) ?_);refine ⟨⟨C8,tt⟩,?_⟩;refine D5 rfl (d6 rfl b5c) ⟨tt,?_⟩;refine A9 rfl rfl (j3 rfl tt tt rfl c6 t_1 (.inl rfl) rfl rfl (nb rfl) ?_);refine a3E ?_; refine b4y ?_;exact ⟨(j+1,(⟨x.2.pkg,e.o,e.k,x.1,(j:Int),e.ct+1⟩:En)),_,⟨do_,do_,hr,do_,do_⟩,tu_,rfl⟩
      ·rw [if_neg (by rw [h6]; exact a9v)] at hr;refine a2h ?_;exact ⟨(j+1,(⟨e.p,e.o,e.k,e.pl,e.ix,e.ct+1⟩:En)),_,⟨do_,do_,hr,do_,do_⟩,tu_,rfl⟩
     ·rw [if_neg (by rw [h5]; exact a9v)] at hr;refine a2h ?_;exact ⟨(j+1,e),_,⟨do_,do_,hr,h0,do_⟩,tu_,rfl⟩
    ·have hge:x.2.decls.length<=j:=by simp at h4; omega
     rw [U5 hge] at hr;exact d2w
  ·have hge:L.length<=i:=by simp at h2; omega
   rw [U5 hge] at hr;replace hr:fiE L k p o=e:=hr;refine Z5 ?_; refine cY a8I ?_; refine c3n ?_; refine G3 ?_;exact ⟨_,A8 rfl c0F,_,_,rfl,rfl,(by rw [hr]; exact .old (En.pure _).old)⟩
def c2v (x y:En):Bool:=if ((x.k == 3) != (y.k == 3))=true then y.k == 3 else if (x.k == 3)=true then Op.bytesLess x.o y.o else if (!decide (x.p=y.p))=true then Op.bytesLess x.p y.p else if (x.k != y.k)=true then decide (x.k < y.k) else Op.bytesLess x.o y.o
theorem a8L (x y:En) (σ:List c5):b8 CC 63 [.agg x.cells,.agg y.cells] σ fun r σ'=>r = .ret (.val (.bool (c2v x y)))/\σ'=σ:=by
 refine b8.anyw hCC pu_ pu_ ?_ σ;refine d4 (c4 Tryz.func63 rfl rfl ?_);refine b01 ?_; refine z_3 ?_; refine a1R ?_; refine a1M ?_; refine cY P1 ?_; refine a1M ?_; refine cY P1 ?_; refine cY (b7k rfl Tryz.runUnderlying4 trivial trivial rfl rfl rfl) ?_; refine i7 ?_; refine cC (fun h1=>?_) fun h1=>?_
 ·refine z_0 ?_; refine a1M ?_; refine cY P1 ?_; refine z_7 ?_;exact ⟨_,j5 rfl tt c6,_,_,rfl,rfl,j4 (by rw [c2v,if_pos h1])⟩
 ·refine a19 ?_; refine a1M ?_; refine G9 ?_; refine cC (fun h2=>?_) fun h2=>?_
  ·refine z_0 ?_; refine a39 ?_; refine c4I ?_; refine z_7 ?_;exact ⟨_,j5 rfl tt c6,_,_,rfl,rfl,j4 (by rw [c2v,if_neg c1e,if_pos h2])⟩
  ·refine a19 ?_; refine a39 ?_; refine a39 ?_; refine b2V ?_; refine cC (fun h3=>?_) fun h3=>?_
   ·refine z_0 ?_; refine a39 ?_; refine c4I ?_; refine z_7 ?_;exact ⟨_,j5 rfl tt c6,_,_,rfl,rfl,j4 (by rw [c2v,if_neg c1e,if_neg (by rw [h2]; exact a9v),if_pos h3])⟩
   ·refine a19 ?_; refine a1M ?_; refine a1M ?_; refine a9A ?_; refine cC (fun h4=>?_) fun h4=>?_
    ·refine z_0 ?_; refine a1M ?_; refine a1M ?_; refine cY a2B ?_; refine z_7 ?_;exact ⟨_,j5 rfl tt c6,_,_,rfl,rfl,j4 (by rw [c2v,if_neg c1e,if_neg (by rw [h2]; exact a9v),if_neg (by rw [h3]; exact a9v),if_pos h4])⟩
    ·refine a0x ?_; refine a39 ?_; refine c4I ?_; refine z_7 ?_;exact ⟨_,j5 rfl tt c6,_,_,rfl,rfl,j4 (by rw [c2v,if_neg c1e,if_neg (by rw [h2]; exact a9v),if_neg (by rw [h3]; exact a9v),if_neg (by rw [h4]; exact a9v)])⟩
theorem d3Y {rows:List (List CV)} {r:List CV} (h:rows[i]? = some r) (e:j=i):rows[j]? = some r:=e ▸ h
theorem b86 {l:List (List CV)} {z y:List CV} (hi:i<=l.length):(M6 (l++[z]) (i+1) (((l++[z]).drop i).take (l.length - i))).set i y=l.take i++y::l.drop i:=by
 obtain ⟨A,B,rfl,rfl⟩:∃ A B,l=A++B/\A.length=i:=⟨l.take i,l.drop i,si_,by simp; omega⟩;have h1:((A++B++[z]).drop A.length).take ((A++B).length - A.length)=B:=by simp
 rw [h1];obtain ⟨h,t,ht⟩:∃ h t,B++[z]=h::t:=by cases B <;> simp
 have h2:A++B++[z]=A++h::t:=by rw [n_9,ht]
 have h3:t.length=B.length:=by have:=congrArg List.length ht; simp at this; omega
 unfold M6;have h4:(A++h::t).take (A.length+1)=A++[h]:=by rw [c0i,Y9 om_,b68]; rfl
 have h5:(A++h::t).drop (A.length+1+B.length)=[]:=by rw [List.drop_eq_nil_iff]; simp; omega
 rw [h2,h4,h5,a0P];simp
theorem c3v {l N:List (List CV)} {z:List CV} (hi:i<=l.length):(M6 (l++[z]) (i+1) N)[i]? = (l++[z])[i]?:=by
 unfold M6;rw [L4 K9,a09,if_pos om_]
theorem c46 {f:α->List CV} {s:Nat} (hk:n<=k) (hs:σ[k]? = some (.vec s (l.map f))) (hp:∀ r∈l.map f,∀ c∈r,p9 c):Cls n σ (.vec k 0 l.length) (.list (l.map f) true none) :=
 .vec hk hs si_ si_ (fun i r r' h1 h2=>by
  have h3:(l.map f)[i]? = some r:=by simpa [Y9] using h1
  rw [h3] at h2; injection h2 with h2; rw [h2]) (fun i j r r' c c' h1 h2 h3 h4=>by
  have h5:(l.map f)[i]? = some r:=by simpa [Y9] using h1
  rw [h5] at h2; injection h2 with h2; subst h2
  rw [h3] at h4; injection h4 with h4; subst h4
  exact .old (hp r (n_1 h5) c (n_1 h3)).old)
theorem c7j (h:l≠[]):gnn l.length=true:=by cases l; exact absurd rfl h; rfl
def gV {α:Type}:List α->Nat->CV
 | [],_=>.list [] false none
 | x::l,q=>.vec q 0 (x::l).length
def gO {α:Type} (s:Nat) (f:α->List CV):List α->c5
 | []=>.dead
 | x::l=>.vec s ((x::l).map f)
theorem c0N (h:l≠[]) (q:Nat):gV l q = .vec q 0 l.length:=by cases l; exact absurd rfl h; rfl
theorem c1M {s:Nat} {f:α->List CV} (h:l≠[]):gO s f l = .vec s (l.map f):=by cases l; exact absurd rfl h; rfl
theorem b3A (l:List En):∀ r∈l.map En.cells,∀ c∈r,p9 c:=fun r hr c hc=>(A6 (f:=En.cells) (fun _=>S2.all ⟨.val _,.val _,.val _,.val _,.val _,.val _,tt⟩) _) r hr c hc
theorem a0z (l:List En) (nn:Bool):p9 (.list (l.map En.cells) nn none):=M3 (f:=En.cells) (fun _=>⟨.val _,.val _,.val _,.val _,.val _,.val _,tt⟩) l nn
theorem a6A (n:Nat) (l:List En):F5 n (.vec 6 (l.map En.cells)):=fun r hr c hc=>(b3A l r hr c hc).old
theorem b4j (n:Nat) (l:List En):F5 n (gO 6 En.cells l):=by
 cases l
 ·trivial
 ·exact a6A n _
theorem d37 (l:List En) (hq:n<=q) (h:σ[q]? = some (gO 6 En.cells l)):Cls n σ (gV l q) (.list (l.map En.cells) (gnn l.length) none):=by
 by_cases h0:l=[]
 ·subst h0; exact .old (a0z [] _).old
 ·rw [c0N h0,c7j h0];exact c46 hq (by rw [h,c1M h0]) (b3A l)
theorem d29 (l:List En) (k q:Nat):ShV k q (gV l k) (gV l q):=by
 cases l
 ·exact .inl rfl
 ·exact .inr (.inl ⟨_,_,rfl,rfl⟩)
theorem d5L {sel:List Nat} (l:List En) (h:sel[j]? = some k):r8 L sel (gV l k) (gV l j):=by
 cases l
 ·exact .same rfl (a0z [] _).old
 ·exact .vec h
theorem d0P (x y:En):∀ w,(Op.equal 59 (.agg [.string (str x.p),.string (str x.o),.int .i64 x.k,.string (str x.pl),.int .i64 x.ix,.int .i64 x.ct].toArray) (.agg [.string (str y.p),.string (str y.o),.int .i64 y.k,.string (str y.pl),.int .i64 y.ix,.int .i64 y.ct].toArray)).run CC.P w = .ok (decide (x=y)) w:=fun w=>by
 show (Op.equal _ _ _).run Tryz.prog w=_;simp [Op.equal,Op.maxDepth,go_sem,W8];obtain ⟨a,b,c,d,e,f⟩:=x;obtain ⟨a',b',c',d',e',f'⟩:=y;by_cases h1:a=a' <;> by_cases h2:b=b' <;> by_cases h3:c=c' <;> by_cases h4:d=d' <;> by_cases h5:e=e' <;> by_cases h6:f=f' <;> simp [h1,h2,h3,h4,h5,h6]
def EnP (L:List (Str × Src)) (e:En):Prop:=∃ x∈L,∃ d∈x.2.decls,e=fiE L d.k x.2.pkg d.name
theorem c8z:Cls n σ (.list [] false none) (.list (([]:List En).map En.cells) (gnn ([]:List En).length) none):=.old (a0z [] _).old
theorem c2q {l:List Fi} {L:List (Str × Src)} (hLe:F8 l=L) (nn:Bool) (h0:C2 l=0) (hl:l.length<=1000000) (hp:∀ f∈l,f.p.length<=1000000000) (hbl:∀ q b,C7 l q=some b->b.length<=1000000000) (hd:C2 l=0->∀ f∈l,C7 l f.p=some f.b) (σ:List c5):b8 CC 55 [.agg (u0 l nn)] σ fun r τ=>r = .ret (.agg (a9z (L.map Prod.fst) (L.map Prod.snd)))/\τ=σ:=by
 have h:=c9V l nn hl hp hbl hd σ;rw [b3e,b2L,if_pos h0,if_pos h0,hLe] at h;exact h
theorem d0c (l:List Fi) (nn:Bool) (hl:l.length<=1000000) (hp:∀ f∈l,f.p.length<=1000000000) (hbl:∀ q b,C7 l q=some b->b.length<=1000000000) (hd:C2 l=0->∀ f∈l,C7 l f.p=some f.b) (hLD:C2 l=0->(F8 l).length<=1000/\∀ x∈F8 l,x.2.decls.length<=100000):b8 CC 25 [.agg (u0 l nn)] [] fun r τ=>∃ out:List En,a08 0 τ r (.ret (.list (out.map En.cells) (gnn out.length) none))/\(C2 l=0->(∀ e∈out,EnP (F8 l) e)/\out.length<=100000000):=by
 refine (c4 Tryz.func25 rfl rfl ?_);refine a2n ?_; refine a8D ?_; refine cY a15 ?_; refine cY c1E ?_; refine G9 ?_; refine cC (fun h1=>?_) fun h1=>?_
 ·have h0:¬ C2 l=0:=by simpa using h1
  refine G5 ?_;exact ⟨_,j5 rfl tt c6,⟨[],.ret c8z,fun h=>absurd h h0⟩⟩
 ·have h0:C2 l=0:=by simpa using h1
  obtain ⟨hL,hD⟩:=hLD h0;have hsl:((F8 l).map Prod.snd).length=(F8 l).length:=a0B _;generalize hLe:F8 l=L at hL hD hsl;refine a0x ?_; refine cY a15 ?_; refine cY (c7 rfl Tryz.call55 ⟨tt,tt⟩ (c2q hLe nn h0 hl hp hbl hd _) rfl) ?_;refine cD (r6 rfl c8S rfl o4 ?_);refine cD (j3 rfl tt tt rfl c6 b5z o4 rfl rfl (nb rfl) ?_);refine a2i ?_; refine cY b5m ?_; refine cY c1O ?_; refine cY (X7 rfl tt rfl b5h a4c rfl) ?_; refine a1n ?_; refine A2 hCC 2 rfl (α:=List En × Nat) (fun a=>[(3,gV a.1 2),(4,.ptr 1 0),(17,(.list ((L.map Prod.snd).map Src.cv) (gnn (L.map Prod.snd).length) none)),(18,(.val (.int .i64 ((L.map Prod.snd).length:Int)))),(19,(.val (.int .i64 (a.2:Int))))]) (fun a=>[.box (u0 l nn),.box (a9z (L.map Prod.fst) (L.map Prod.snd)),gO 6 En.cells a.1]) (fun a=>a.2<=L.length/\(∀ e∈a.1,EnP L e)/\a.1.length<=100000*a.2) (fun a=>L.length - a.2) ⟨([],0),[0,1,2],⟨n_3 _,fun e he=>by simp at he,n_4 _⟩,⟨rfl,rfl⟩,⟨L3,L3,L3,L3,L3,tt⟩,⟨.inr ⟨_,rfl,.box ⟨.old R5,tt⟩⟩,.inr ⟨_,rfl,.box ⟨.old O0,.old (a0C _ _ _),tt⟩⟩,.inl rfl,tt⟩⟩ ?_; intro ⟨out,i⟩ ⟨hi,hP,hn⟩;dsimp only at hi hP hn ⊢;refine F2 ?_; refine cC (fun h2=>?_) fun h2=>?_
  ·have hlt:i < L.length:=by simp at h2; omega
   obtain ⟨x,hb⟩:∃ x,L[i]? = some x:=⟨L[i]'hlt,si_⟩;have hxm:=n_1 hb;have hxd:=hD x hxm;refine a1O ?_; refine d21 ?_; refine c5v ?_; refine U2 ?_; refine b1z ?_; refine c2a hCC 4 rfl 2 3 (gV out 4) rfl tt (d29 out 2 4) (α:=List En × Nat) (fun a=>[(3,gV a.1 4),(4,.ptr 1 0),(6,.ptr 3 0),(17,(.list ((L.map Prod.snd).map Src.cv) (gnn (L.map Prod.snd).length) none)),(18,(.val (.int .i64 ((L.map Prod.snd).length:Int)))),(19,(.val (.int .i64 (i:Int)))),(24,(.list (x.2.decls.map De.cv) (gnn x.2.decls.length) none)),(25,(.val (.int .i64 (x.2.decls.length:Int)))),(26,(.val (.int .i64 (a.2:Int))))]) (fun a=>[.box (u0 l nn),.box (a9z (L.map Prod.fst) (L.map Prod.snd)),.dead,.box x.2.cells,gO 6 En.cells a.1]) (fun a=>a.2<=x.2.decls.length/\(∀ e∈a.1,EnP L e)/\a.1.length<=100000*i+a.2) (fun a=>x.2.decls.length - a.2) ⟨(out,0),[0,1,2,3,4],⟨n_3 _,hP,hn⟩,⟨rfl,rfl⟩,⟨L3,L3,L3,L3,L3,L3,L3,L3,L3,tt⟩,⟨.inr ⟨_,rfl,.box ⟨.old R5,tt⟩⟩,.inr ⟨_,rfl,.box ⟨.old O0,.old (a0C _ _ _),tt⟩⟩,.inl rfl,.inr ⟨_,rfl,.box ⟨.old (.val _),.old O0,.old (L2 _ _ _),tt⟩⟩,.inr ⟨_,rfl,.same rfl (b4j _ _)⟩,tt⟩⟩ ?_; intro ⟨out,j⟩ ⟨hj,hP,hn⟩;dsimp only at hj hP hn ⊢;refine F2 ?_; refine cC (fun h3=>?_) fun h3=>?_
   ·have hjt:j < x.2.decls.length:=by simp at h3; omega
    obtain ⟨d,hdd⟩:∃ d,x.2.decls[j]? = some d:=⟨x.2.decls[j]'hjt,si_⟩;have hdm:=n_1 hdd;have hEP:EnP L (fiE L d.k x.2.pkg d.name):=⟨x,hxm,d,hdm,rfl⟩;refine a1O ?_; refine d27 ?_; refine b8I ?_; refine U2 ?_; refine cY d18 ?_; refine a5x ?_; refine b25 ?_; refine a8U ?_; refine cY (c7 rfl Tryz.call62 a5Q (b7V L d.k x.2.pkg d.name om_ hD _) rfl) ?_;by_cases hne0:out=[]
    ·subst hne0;have hnil:([]:List En).length=0:=rfl;refine c5R ?_; refine z_6 ?_; refine a8o ?_; refine o0 hCC (α:=Nat) (fun k=>[(3,(.list [] false none)),(4,.ptr 1 0),(6,.ptr 3 0),(9,.ptr 6 0),(10,(.val (.int .i64 (k:Int)))),(17,(.list ((L.map Prod.snd).map Src.cv) (gnn (L.map Prod.snd).length) none)),(18,(.val (.int .i64 ((L.map Prod.snd).length:Int)))),(19,(.val (.int .i64 (i:Int)))),(24,(.list (x.2.decls.map De.cv) (gnn x.2.decls.length) none)),(25,(.val (.int .i64 (x.2.decls.length:Int)))),(26,(.val (.int .i64 (j:Int))))]) (fun _=>[.box (u0 l nn),.box (a9z (L.map Prod.fst) (L.map Prod.snd)),.dead,.box x.2.cells,.dead,.box d.cells,.box (fiE L d.k x.2.pkg d.name).cells]) (fun k=>k<=([]:List En).length) (fun k=>([]:List En).length - k) 0 (n_3 _) tu_ (extra0:=[]) rfl A1 uz_ ?_; intro k hk;have hk0:k=0:=by simpa using hk
     subst hk0; refine b3s ?_; refine c1X ?_; refine hY j7 ?_; refine hY c6e ?_; refine b6z ?_; refine c1U ?_; refine O2 rfl rfl tt rfl d5D ?_; refine d0Z ?_; refine O2 rfl rfl tt rfl (fun hg=>c7 rfl Tryz.call63 ⟨hg,hg,tt⟩ (a8L (fiE L d.k x.2.pkg d.name) (fiE L d.k x.2.pkg d.name) _) rfl) ?_; refine b2r ?_; refine cC (fun h4=>?_) fun h4=>?_
     ·exfalso;simp at h4
     ·refine z6 ?_; refine b3s ?_; refine c1X ?_; refine hY j7 ?_; refine hY c6e ?_; refine b6z ?_; refine c1U ?_; refine O2 rfl rfl tt rfl d5D ?_; refine d0Z ?_; refine O2 rfl rfl tt rfl (fun hg=>c8s rfl hg hg (xs:=[.string (str (fiE L d.k x.2.pkg d.name).p),.string (str (fiE L d.k x.2.pkg d.name).o),.int .i64 (fiE L d.k x.2.pkg d.name).k,.string (str (fiE L d.k x.2.pkg d.name).pl),.int .i64 (fiE L d.k x.2.pkg d.name).ix,.int .i64 (fiE L d.k x.2.pkg d.name).ct]) (ys:=[.string (str (fiE L d.k x.2.pkg d.name).p),.string (str (fiE L d.k x.2.pkg d.name).o),.int .i64 (fiE L d.k x.2.pkg d.name).k,.string (str (fiE L d.k x.2.pkg d.name).pl),.int .i64 (fiE L d.k x.2.pkg d.name).ix,.int .i64 (fiE L d.k x.2.pkg d.name).ct]) rfl rfl Tryz.eqGuardType59 (d0P (fiE L d.k x.2.pkg d.name) (fiE L d.k x.2.pkg d.name))) ?_; refine b2r ?_; refine cC (fun h5=>?_) fun h5=>?_
      ·exfalso;simp at h5
      ·have hNne:[(fiE L d.k x.2.pkg d.name)]≠[]:=by simp
       have hNn:[(fiE L d.k x.2.pkg d.name)].length=1:=rfl;have hN:∀ e∈[(fiE L d.k x.2.pkg d.name)],EnP L e:=fun e he=>by rw [b9I.1 he]; exact hEP
       have hNl:[(fiE L d.k x.2.pkg d.name)].length<=100000*i+(j+1):=by rw [hNn]; omega
       refine a05 ?_; refine cY a8I ?_; refine cY d40 ?_;refine cD (c0w 1 rfl tt tt rfl R6 a5k t_9 Tryz.typeInfo59 a7n rfl si_ (by have hb:Tryz.t59.bytes=72:=rfl; rw [hb]; first|omega|(simp; done)|(simp; omega)) H3 si_ ?_);refine z_2 ?_; refine w8 ?_; refine B4 7 [0,0,2,7,0,0,48,127] d5 d5 rfl ?_; refine b0g ?_; refine hY S8 ?_; refine hY (a2y (l:=(0+1)) rfl tt rfl a5k t_9 rfl a7m rfl a9a si_) ?_; refine b0g ?_; refine hY (a2y (l:=0) rfl tt rfl a5k t_9 rfl a7m rfl a9a si_) ?_; refine N3 ?_;refine cD (b3l rfl tt tt rfl rfl a5k t_9 rfl om_ si_ si_ ?_);refine i7 ?_; refine R7 ?_; refine d2J ?_;refine cD (N8 [En.cells (fiE L d.k x.2.pkg d.name)] rfl tt tt rfl c6 t_9 o4 rfl (r:=En.cells (fiE L d.k x.2.pkg d.name)) rfl rfl (nb rfl) (by rfl) rfl ?_);refine a2F ?_;exact ⟨([(fiE L d.k x.2.pkg d.name)],j+1),[0,1,2,3,7],⟨do_,do_,hN,hNl⟩,⟨rfl,rfl⟩,⟨L3,L3,L3,L3,L3,L3,L3,L3,L3,tt⟩,⟨.inr ⟨_,rfl,.box ⟨.old R5,tt⟩⟩,.inr ⟨_,rfl,.box ⟨.old O0,.old (a0C _ _ _),tt⟩⟩,.inl rfl,.inr ⟨_,rfl,.box ⟨.old (.val _),.old O0,.old (L2 _ _ _),tt⟩⟩,.inr ⟨_,rfl,.same rfl (a6A _ [(fiE L d.k x.2.pkg d.name)])⟩,tt⟩⟩
    ·rw [c0N hne0,c1M hne0];refine c5R ?_; refine z_6 ?_; refine a8o ?_; refine o0 hCC (α:=Nat) (fun k=>[(3,(.vec 4 0 out.length)),(4,.ptr 1 0),(6,.ptr 3 0),(9,.ptr 6 0),(10,(.val (.int .i64 (k:Int)))),(17,(.list ((L.map Prod.snd).map Src.cv) (gnn (L.map Prod.snd).length) none)),(18,(.val (.int .i64 ((L.map Prod.snd).length:Int)))),(19,(.val (.int .i64 (i:Int)))),(24,(.list (x.2.decls.map De.cv) (gnn x.2.decls.length) none)),(25,(.val (.int .i64 (x.2.decls.length:Int)))),(26,(.val (.int .i64 (j:Int))))]) (fun _=>[.box (u0 l nn),.box (a9z (L.map Prod.fst) (L.map Prod.snd)),.dead,.box x.2.cells,(.vec 6 (out.map En.cells)),.box d.cells,.box (fiE L d.k x.2.pkg d.name).cells]) (fun k=>k<=out.length) (fun k=>out.length - k) 0 (n_3 _) tu_ (extra0:=[]) rfl A1 uz_ ?_; intro k hk;obtain ⟨y,hy⟩:∃ y,k < out.length->out[k]? = some y:=⟨out.getD k En.z,fun h=>by simp [h]⟩;refine b3s ?_; refine c1X ?_; refine hY j7 ?_; refine hY (a2p rfl tt rfl a5k rfl rfl) ?_; refine b6z ?_; refine c1U ?_; refine O2 rfl rfl tt rfl d49 ?_; refine O2 rfl rfl tt rfl d5f ?_; refine O2 rfl rfl tt rfl c8j ?_; refine O2 rfl rfl tt rfl (fun hg=>c7 rfl Tryz.call63 ⟨hg,hg,tt⟩ (a8L y (fiE L d.k x.2.pkg d.name) _) rfl) ?_; refine b2r ?_; refine cC (fun h4=>?_) fun h4=>?_
     ·have hlt4:k < out.length:=by simp at h4; omega
      refine a2L ?_; refine a4M ?_;exact ⟨(k+1),_,⟨om_,om_⟩,tu_,rfl⟩
     ·refine z6 ?_; refine b3s ?_; refine c1X ?_; refine hY j7 ?_; refine hY (a2p rfl tt rfl a5k rfl rfl) ?_; refine b6z ?_; refine c1U ?_; refine O2 rfl rfl tt rfl d49 ?_; refine O2 rfl rfl tt rfl d5f ?_; refine O2 rfl rfl tt rfl c8j ?_; refine O2 rfl rfl tt rfl (fun hg=>c8s rfl hg hg (xs:=[.string (str y.p),.string (str y.o),.int .i64 y.k,.string (str y.pl),.int .i64 y.ix,.int .i64 y.ct]) (ys:=[.string (str (fiE L d.k x.2.pkg d.name).p),.string (str (fiE L d.k x.2.pkg d.name).o),.int .i64 (fiE L d.k x.2.pkg d.name).k,.string (str (fiE L d.k x.2.pkg d.name).pl),.int .i64 (fiE L d.k x.2.pkg d.name).ix,.int .i64 (fiE L d.k x.2.pkg d.name).ct]) rfl rfl Tryz.eqGuardType59 (d0P y (fiE L d.k x.2.pkg d.name))) ?_; refine b2r ?_; refine cC (fun h5=>?_) fun h5=>?_
      ·have hne:out≠[]:=hne0;refine a8O ?_;exact ⟨(out,j+1),[0,1,2,3,4],⟨do_,do_,hP,do_⟩,⟨rfl,rfl⟩,⟨L3,L3,L3,L3,L3,L3,L3,L3,L3,tt⟩,⟨.inr ⟨_,rfl,.box ⟨.old R5,tt⟩⟩,.inr ⟨_,rfl,.box ⟨.old O0,.old (a0C _ _ _),tt⟩⟩,.inl rfl,.inr ⟨_,rfl,.box ⟨.old (.val _),.old O0,.old (L2 _ _ _),tt⟩⟩,.inr ⟨_,rfl,.same (c1M hne0).symm (b4j _ _)⟩,tt⟩⟩
      ·have hNn:(out.take k++(fiE L d.k x.2.pkg d.name)::out.drop k).length=out.length+1:=by simp; omega
       have hNne:(out.take k++(fiE L d.k x.2.pkg d.name)::out.drop k)≠[]:=by simp
       have hN:∀ e∈(out.take k++(fiE L d.k x.2.pkg d.name)::out.drop k),EnP L e:=by
        intro e he
        rcases a0y.1 he with he | he
        ·exact hP e (a8s he)
        ·rcases Q2.1 he with rfl | he
         ·exact hEP
         ·exact hP e (a9E he)
       have hNl:(out.take k++(fiE L d.k x.2.pkg d.name)::out.drop k).length<=100000*i+(j+1):=by rw [hNn]; omega
       obtain ⟨z,hz⟩:∃ z,(out++[(fiE L d.k x.2.pkg d.name)])[k]? = some z:=⟨(out++[(fiE L d.k x.2.pkg d.name)])[k]'K9,si_⟩;have hrx:(M6 ((out++[(fiE L d.k x.2.pkg d.name)]).map En.cells) (0+(k+1)) ((((out++[(fiE L d.k x.2.pkg d.name)]).map En.cells).drop (0+k)).take (out.length+1 - (k+1))))[0+(k:Int).toNat]? = some (En.cells z):=by
        rw [show 0+(k:Int).toNat=k by omega,n_8,n_8,show out.length+1 - (k+1)=out.length - k by omega,b5x,a9D,List.map_nil,c3v a3F];have:((out++[(fiE L d.k x.2.pkg d.name)]).map En.cells)[k]? = some (En.cells z):=by rw [N0,hz]; rfl
        simpa using this
       have hst:(M6 ((out++[(fiE L d.k x.2.pkg d.name)]).map En.cells) (0+(k+1)) ((((out++[(fiE L d.k x.2.pkg d.name)]).map En.cells).drop (0+k)).take (out.length+1 - (k+1)))).set (0+(k:Int).toNat) (En.cells (fiE L d.k x.2.pkg d.name))=(out.take k++(fiE L d.k x.2.pkg d.name)::out.drop k).map En.cells:=by
        rw [show 0+(k:Int).toNat=k by omega,n_8,n_8,show out.length+1 - (k+1)=out.length - k by omega];have:=b86 (l:=out.map En.cells) (z:=En.cells (fiE L d.k x.2.pkg d.name)) (y:=En.cells (fiE L d.k x.2.pkg d.name)) (i:=k) a3F;simpa using this
       refine a05 ?_; refine cY a8I ?_; refine cY d40 ?_;refine cD (a9k ((out++[(fiE L d.k x.2.pkg d.name)]).map En.cells) (out.length+1) rfl tt tt rfl R6 a5k t_9 Tryz.typeInfo59 a7n rfl rfl si_ si_ (by have hb:Tryz.t59.bytes=72:=rfl; rw [hb]; first|omega|(simp; done)|(simp; omega)) H3 si_ si_ ?_);refine z_2 ?_; refine w8 ?_; refine B4 7 [0,0,2,7,0,0,48,127] d5 d5 rfl ?_; refine b0g ?_; refine hY S8 ?_; refine hY (a2y (l:=(k+1)) rfl tt rfl a5k t_9 rfl a7m rfl a9a si_) ?_; refine b0g ?_; refine hY (a2y (l:=k) rfl tt rfl a5k t_9 rfl a7m rfl a9a si_) ?_; refine N3 ?_;refine cD (b3l rfl tt tt rfl rfl a5k t_9 rfl om_ K9 K9 ?_);refine i7 ?_; refine R7 ?_; refine d2J ?_;refine cD (N8 ((out.take k++(fiE L d.k x.2.pkg d.name)::out.drop k).map En.cells) rfl tt tt rfl c6 t_9 o4 rfl hrx rfl (nb rfl) (by exact hst) rfl ?_);refine a2F ?_;exact ⟨((out.take k++(fiE L d.k x.2.pkg d.name)::out.drop k),j+1),[0,1,2,3,7],⟨do_,do_,hN,hNl⟩,⟨rfl,rfl⟩,⟨L3,L3,L3,L3,L3,L3,L3,L3,L3,tt⟩,⟨.inr ⟨_,rfl,.box ⟨.old R5,tt⟩⟩,.inr ⟨_,rfl,.box ⟨.old O0,.old (a0C _ _ _),tt⟩⟩,.inl rfl,.inr ⟨_,rfl,.box ⟨.old (.val _),.old O0,.old (L2 _ _ _),tt⟩⟩,.inr ⟨_,rfl,.same (c1M hNne).symm (b4j _ _)⟩,tt⟩⟩
   ·refine a8O ?_;exact ⟨(out,i+1),[0,1,4],⟨do_,do_,hP,do_⟩,⟨rfl,rfl⟩,⟨L3,L3,L3,L3,L3,tt⟩,⟨.inr ⟨_,rfl,.box ⟨.old R5,tt⟩⟩,.inr ⟨_,rfl,.box ⟨.old O0,.old (a0C _ _ _),tt⟩⟩,.inr ⟨_,rfl,.same rfl (b4j _ _)⟩,tt⟩⟩
  ·refine a33 ?_;exact ⟨_,j5 rfl tt rfl,⟨out,.ret (d37 (q:=2) out (n_3 _) rfl),fun _=>⟨hP,om_⟩⟩⟩
theorem b7v (l:List Fi) (nn:Bool) (hl:l.length<=1000000) (hp:∀ f∈l,f.p.length<=1000000000) (hbl:∀ q b,C7 l q=some b->b.length<=1000000000) (hd:C2 l=0->∀ f∈l,C7 l f.p=some f.b) (hLD:C2 l=0->(F8 l).length<=1000/\∀ x∈F8 l,x.2.decls.length<=100000) (σ:List c5):b8 CC 25 [.agg (u0 l nn)] σ fun r τ=>∃ out:List En,r = .ret (.list (out.map En.cells) (gnn out.length) none)/\τ=σ/\(C2 l=0->(∀ e∈out,EnP (F8 l) e)/\out.length<=100000000) :=
 E9 (α:=List En) (res:=fun out=>.ret (.list (out.map En.cells) (gnn out.length) none)) hCC (fun c h=>by simp at h; subst h; exact o8 ⟨D4 _ _,tt⟩) (d0c l nn hl hp hbl hd hLD) (fun _ _=>a0z _ _) σ
def er (t:Tok):Tok:=⟨t.k,t.t,t.n,0⟩
abbrev ers (T:List Tok):List Tok:=T.map er
theorem a5B (T:List Tok) (n:Nat):tk (ers T) n=er (tk T n):=by
 unfold tk;rw [N0];cases T[n]? <;> rfl
theorem a7R (t:Tok) (k:Int) (s:Str):isT (er t) k s=isT t k s:=rfl
theorem d4c (t:Tok) (lv:Int):opS (er t) lv=opS t lv:=rfl
theorem a4f (T:List Tok) (n:Nat) (k:Int) (s:Str):pIs (ers T) n k s=pIs T n k s:=by unfold pIs; rw [a5B]; rfl
theorem a7a (T:List Tok) (n:Nat) (k:Int):B6 (ers T) n k=(B6 T n k).map fun x=>(er x.1,x.2):=by
 unfold B6;rw [a5B];show (if (tk T n).k=k then _ else _)=_
 split <;> rfl
theorem a7C (T:List Tok) (n:Nat):F6 (ers T) n=(F6 T n).map fun x=>(er x.1,x.2):=by
 unfold F6;rw [a7a];cases B6 T n 1 with
 | none=>rfl
 | some x =>
  show (if O1 x.1.t=true then _ else _)=Option.map _ (if O1 x.1.t=true then _ else _)
  split <;> rfl
theorem a9X (T:List Tok) (n:Nat):V0 (ers T) n=(V0 T n).map fun x=>(er x.1,x.2):=by
 unfold V0;rw [a7a];cases B6 T n 3 with
 | none=>rfl
 | some x =>
  show (if C1 x.1.t=true then _ else _)=Option.map _ (if C1 x.1.t=true then _ else _)
  split <;> rfl
theorem c4W (T:List Tok) (F:PF) (d n:Nat) (b:List Ex):a0A (ers T) F d n b=a0A T F d n b:=by
 unfold a0A;simp only [a4f,a5B,a7R]
theorem d3I (t:Tok):(er t).k=t.k:=rfl
theorem c2p (t:Tok):(er t).t=t.t:=rfl
theorem d5C (t:Tok):(er t).n=t.n:=rfl
theorem c2m (T:List Tok) (F:PF) (u:Str) (d n:Nat) (b:List Ex):P8 (ers T) F u d n b=P8 T F u d n b:=by
 unfold P8;simp only [a4f,a9X,a7a,b23,Function.comp_def,c2p,d5C];rfl
theorem c44 (T:List Tok) (ps:List Str) (F:PF):C3 (ers T) ps F=C3 T ps F:=by
 unfold C3;simp only [a4f,a5B,a7R,d4c,a7a,c4W,c2m,b23,Function.comp_def,d3I,c2p,d5C]
theorem c1k (T:List Tok) (ps:List Str):∀ f,s7 (ers T) ps f=s7 T ps f
 | 0=>rfl
 | f+1=>by rw [s7,s7,c44,c1k T ps f]
theorem b7J (T:List Tok):∀ (f n:Nat) (l:List Str),a0H f (ers T) n l=a0H f T n l
 | 0,_,_=>rfl
 | f+1,n,l=>by
  unfold a0H;simp only [a7C,a4f,a5B,a7R,b23,Function.comp_def,c2p,b7J T f];rfl
theorem b80 (T:List Tok) (n:Nat):G7 (ers T) n=G7 T n:=by
 unfold G7;simp only [a4f,a5B,a7R,b7J]
theorem c5H (T:List Tok) (bs:List De) (n:Nat):W1 (ers T) bs n=W1 T bs n:=by
 have h1:∀ k m,a0R (ers T) k m=(a0R T k m).map fun x=>(er x.1,x.2):=fun k m=>by
  unfold a0R
  split
  ·exact a9X T m
  ·exact a7C T m
 have h2:∀ k m,a0S (ers T) k m=a0S T k m:=fun k m=>by unfold a0S; rw [b80]
 have h3:∀ ps d m,b20 (ers T) ps d m=b20 T ps d m:=fun ps d m=>by unfold b20; rw [c1k,a0B]
 unfold W1;simp only [h1,h2,h3,a4f,a5B,b23,Function.comp_def,d3I,c2p];rfl
theorem b7l (T:List Tok) (pkg:Str):∀ (f n:Nat) (l:List Str),Z7 f (ers T) pkg n l=Z7 f T pkg n l
 | 0,_,_=>rfl
 | f+1,n,l=>by
  unfold Z7;simp only [a7C,a4f,a5B,a7R,b23,Function.comp_def,c2p,b7l T pkg f];rfl
theorem b3w (T:List Tok):∀ (f n:Nat) (l:List De),L5 f (ers T) n l=L5 f T n l
 | 0,_,_=>rfl
 | f+1,n,l=>by
  unfold L5;simp only [c5H,a5B,d3I,b3w T f]
theorem b5Z (T:List Tok):R3 (ers T)=R3 T:=by
 unfold R3;simp only [a7C,a4f,b7l,b3w,b23,Function.comp_def,c2p]
theorem a3X (p b:Str) (i:Nat):(p++b).drop (p.length+i)=b.drop i:=by rw [List.drop_append,U5 om_,a7u,b68]
theorem c9c (p b:Str) (i:Nat):(p++b)[p.length+i]? = b[i]?:=by rw [a0a om_]; congr 1; omega
theorem a6z (p b:Str) (i:Nat) (ks:List Int):r4 (p++b) (p.length+i) ks=p.length+r4 b i ks:=by unfold r4; rw [a3X]; omega
theorem c8i (p b:Str) (i:Nat):K5 (p++b) (p.length+i)=p.length+K5 b i:=by unfold K5; rw [a3X]; omega
theorem a7x (p b:Str) (a e:Nat):sub (p++b) (p.length+a) (p.length+e)=sub b a e:=by unfold sub; rw [c0i,Y9 om_,b68]; exact a3X p (b.take e) a
theorem c8M (p s:Str) (a:Nat) (b:UInt8):(A7 (p++s) (p.length+a) b).1=(A7 s a b).1/\(A7 (p++s) (p.length+a) b).2.2=(A7 s a b).2.2/\((A7 s a b).2.2=0->(A7 (p++s) (p.length+a) b).2.1=p.length+(A7 s a b).2.1):=by
 have e1:∀ ks,r4 (p++s) (p.length+a) ks - (p.length+a)=r4 s a ks - a:=fun ks=>by rw [a6z]; omega
 have e2:p.length+a+1=p.length+(a+1):=by omega
 have e3:p.length+a+2=p.length+(a+2):=by omega
 unfold A7
 split
 ·rw [e1,a6z,a7x]
  split
  ·exact ⟨rfl,rfl,fun h=>by cases h⟩
  ·exact ⟨rfl,rfl,fun _=>by simp⟩
 ·split
  ·rw [a6z,a7x]
   split
   ·exact ⟨rfl,rfl,fun h=>by cases h⟩
   ·exact ⟨rfl,rfl,fun _=>by simp⟩
  ·split
   ·rw [e2,a3X]
    split
    ·exact ⟨rfl,rfl,fun h=>by cases h⟩
    ·rename_i n _;rw [show p.length+(a+1)+n=p.length+(a+1+n) by omega,a7x];exact ⟨rfl,rfl,fun _=>by show ((p.length+a:Nat):Int)+1+(n:Int)+1=(p.length:Int)+((a:Int)+1+(n:Int)+1); omega⟩
   ·split
    ·rw [a3X,e2,e3,a7x,a7x]
     split
     ·exact ⟨rfl,rfl,fun _=>by show ((p.length+a:Nat):Int)+2=(p.length:Int)+((a:Int)+2); omega⟩
     ·exact ⟨rfl,rfl,fun _=>by show ((p.length+a:Nat):Int)+1=(p.length:Int)+((a:Int)+1); omega⟩
    ·exact ⟨rfl,rfl,fun h=>by cases h⟩
theorem b0Z (p s:Str):∀ f i,(O8 f (p++s) (p.length+i)).map ers=(O8 f s i).map ers
 | 0,_=>rfl
 | f+1,i=>by
  unfold O8;rw [a6z,c9c];cases hb:s[r4 s i [5]]? with
  | none=>rfl
  | some b =>
   obtain ⟨h1,h2,h3⟩:=c8M p s (r4 s i [5]) b;simp only [h1,h2]
   split
   ·rw [c8i]; exact b0Z p s f _
   ·split
    ·rfl
    ·rename_i h4;have h4:(A7 s (r4 s i [5]) b).2.2=0:=by simpa using h4
     obtain ⟨e,g1,_,_⟩:=a1h hb (by simpa using h4);rw [h3 h4,g1,show ((p.length:Int)+(e:Int)).toNat=p.length+e by omega,show (e:Int).toNat=e by omega];have ih:=b0Z p s f e;cases ha:O8 f (p++s) (p.length+e) <;> cases hc:O8 f s e <;> rw [ha,hc] at ih
     ·rfl
     ·cases ih
     ·cases ih
     ·simp only [b2z,Option.some.injEq] at ih ⊢;show er _::ers _=er _::ers _;rw [ih];rfl
theorem a8t (s:Str):∀ f g i,i<=s.length->s.length < f+i->s.length < g+i->O8 f s i=O8 g s i
 | 0,_,_,h,h1,_=>by omega
 | _+1,0,_,h,_,h2=>by omega
 | f+1,g+1,i,h,h1,h2=>by
  obtain ⟨k1,k2⟩:=a0K (ks:=[5]) h;unfold O8;cases hb:s[r4 s i [5]]? with
  | none=>rfl
  | some b =>
   simp only
   split
   ·rename_i h6;have:=a6G hb h6;exact a8t s f g _ (a4k k2) om_ om_
   ·split
    ·rfl
    ·rename_i h4;obtain ⟨e,g1,g2,g3⟩:=a1h hb h4;rw [g1,show (e:Int).toNat=e by omega,a8t s f g e g3 om_ om_]
def a4u:Str:=[35,32,109,111,118,101,100,10]
theorem c3b (s:Str) (h:s.length<=16376):L6 (a4u++s)=L6 s:=by
 have hl:(a4u++s).length=s.length+8:=by rw [n_6,show a4u.length=8 from rfl]; omega
 have h0:r4 (a4u++s) 0 [5]=0:=by rw [N7 (b:=35) rfl]; rfl
 have h1:K5 (a4u++s) 0=7:=by
  show 0+((a4u++s).takeWhile _).length=7;rfl
 have h2:r4 (a4u++s) 7 [5]=r4 (a4u++s) 8 [5]:=by rw [N7 (b:=10) rfl]; rfl
 have h3:O8 (s.length+8) (a4u++s) 7=O8 (s.length+8) (a4u++s) 8:=by unfold O8; rw [h2]
 have h4:=b0Z a4u s (s.length+8) 0;have h5:=a8t s (s.length+8) (s.length+1) 0 (n_3 _) om_ om_;have h6:a0D (a4u++s)=O8 (s.length+8) (a4u++s) 8:=by
  unfold a0D;rw [if_neg om_,hl,show s.length+8+1=(s.length+8)+1 from rfl,b0V (b:=35) h0.symm rfl rfl,h1,h3]
 have h7:a0D s=O8 (s.length+8) s 0:=by
  unfold a0D;rw [if_neg om_,h5]
 have h8:(a0D (a4u++s)).map ers=(a0D s).map ers:=by rw [h6,h7]; exact h4
 have key:∀ o o':Option (List Tok),o.map ers=o'.map ers->o.bind R3=o'.bind R3:=by
  intro o o' h;cases o <;> cases o'
  ·rfl
  ·cases h
  ·cases h
  ·rename_i T T';have h9:ers T=ers T':=Option.some.inj h;show R3 T=R3 T';rw [<- b5Z T,h9,b5Z T']
 exact key _ _ h8
abbrev tU8:Nat:=5
def a4i (T:TypeId) (n:Nat):Prop:=liesAt CC.P CC.P.depth T (n / CC.P.cellsOf T) 0 244 1=true
def d2j (q:Nat):Bool->CV
 | true=>.ptr q 0
 | false=>.val (.pointer none)
def C4 (T:TypeId) (q s:Nat) (a:Bool) (l:Str) (rest:List CV):c5:=.boxT (some T) (d2j q a::a2e l s::rest)
def bSt (T:TypeId) (a:Bool) (l:Str) (rest:List CV):List c5:=[C4 T 0 1 a l rest,w9 tU8 l.length]
def a8r (T:TypeId) (l:Str) (rest:List CV):List c5:=[C4 T 0 2 true l rest,.dead,w9 tU8 l.length]
theorem c6Y (hT:a4i T (rest.length+2)) (l:Str):b8 CC 246 [.ptr 0 0] (bSt T false l rest) fun r τ=>r = .ret (.tup [])/\τ=bSt T true l rest:=by
 refine c6v ?_; refine b7A ?_; refine cY (c25 rfl tt rfl c37) ?_; refine i7 ?_; refine cC (fun h1=>?_) fun h1=>?_
 ·refine R7 ?_; refine cY (b8B rfl tt rfl rfl (Nat.succ_pos _) 244 d5 d5 d5) ?_; refine cY (d4b (e:=Extern.AbiNoEscape.same) rfl Tryz.func285 rfl rfl rfl rfl tt rfl (fun v w=>rfl)) ?_; refine cY (b4Q rfl tt rfl rfl 244 d5 d5 d5 hT) ?_; refine cY J2 ?_; refine cY d1t ?_;refine cD (j3 rfl tt tt rfl c6 Tryz.sizeOf242 (.inl rfl) rfl rfl (nb rfl) ?_);refine i7 ?_;exact ⟨_,l9 (rs:=[]) (cs:=[]) rfl tt (n_2 rfl),⟨rfl,rfl⟩⟩
 ·cases h1
theorem c7t (l:Str):b8 CC 246 [.ptr 0 0] (bSt T true l rest) fun r τ=>r = .ret (.tup [])/\τ=bSt T true l rest:=by
 refine c6v ?_; refine b7A ?_; refine cY (b5P rfl tt rfl c37) ?_; refine i7 ?_; refine cC (fun h1=>?_) fun h1=>?_
 ·cases h1
 ·refine a4R ?_; refine b7A ?_; refine cY j7 ?_; refine cY (b3h rfl tt tt rfl rfl 244 d5 d5) ?_; refine i7 ?_; refine cC (fun h2=>?_) fun h2=>?_
  ·cases h2
  ·refine i8 ?_;exact ⟨_,l9 (rs:=[]) (cs:=[]) rfl tt (n_2 rfl),⟨rfl,rfl⟩⟩
theorem b4g (hT:a4i T (rest.length+2)) (a:Bool) (l:Str):b8 CC 246 [.ptr 0 0] (bSt T a l rest) fun r τ=>∃ _:Unit,r = .ret (.tup [])/\τ=bSt T true l rest/\True:=by
 cases a
 ·exact (c6Y hT l).mono fun r τ h=>⟨(),h.1,h.2,tt⟩
 ·exact (c7t l).mono fun r τ h=>⟨(),h.1,h.2,tt⟩
theorem b2c (hT:a4i T (rest.length+2)) (a:Bool) (l:Str) (c:UInt8) (hl:l.length < 140737488355328):b8 CC 306 [.ptr 0 0,.val (.int .u8 c.toNat)] (bSt T a l rest) fun r τ=>∃ _:Unit,r = .ret (.val .nilIface)/\τ=a8r T (l++[c]) rest/\True:=by
 refine (c4 Tryz.func306 rfl rfl ?_);refine a1T ?_;refine cD (b9 rfl c0J ⟨tt,tt⟩ (b4g hT a l) rfl ?_);intro _ _; refine a4s ?_; refine cY J2 ?_; refine cY a7b ?_; refine cY a8E ?_; refine cY j7 ?_; refine cY d45 ?_;refine cD (a7T (l:=l) (new:=[c]) (p:=1) rfl tt tt rfl (fun M w v hr h=>(a7e (rows:=[bcv c]) rfl (by intro r hr; simp at hr; subst hr; rfl) M w v hr h).any) t_7 a25 b42 a7M rfl (.inl t_7) rfl rfl b2R ?_);refine cY J2 ?_; refine b97 ?_; refine i7 ?_; refine G5 ?_;exact ⟨_,j5 rfl tt c6,⟨(),rfl,rfl,tt⟩⟩
theorem a9H (hT:a4i T (rest.length+2)) (a:Bool) (l:Str) (s:Str) (hl:l.length+s.length<=140737488355328):b8 CC 200 [.ptr 0 0,sv s] (bSt T a l rest) fun r τ=>∃ _:Unit,r = .ret (.tup [.val (.int .i64 s.length),.val .nilIface])/\τ=a8r T (l++s) rest/\True:=by
 refine (c4 Tryz.func200 rfl rfl ?_);refine z_0 ?_; refine a0w ?_; refine z_1 ?_;refine cD (b9 rfl c0J ⟨tt,tt⟩ (b4g hT a l) rfl ?_);intro _ _; refine a4s ?_; refine cY J2 ?_; refine cY a7b ?_; refine cY a8E ?_; refine cY j7 ?_;refine cD (a7T (l:=l) (new:=s) (p:=1) rfl tt tt rfl (b8Z rfl) t_7 a25 b42 a7M rfl (.inr t_4) rfl rfl b2R ?_);refine cY J2 ?_; refine b97 ?_; refine O3 ?_; refine cY V4 ?_;exact d0L
theorem b9g (a:Bool) (c:UInt8) (l:Str):b8 CC 202 [.ptr 0 0] (bSt T a (c::l) rest) fun r τ=>r = .ret (sv (c::l))/\τ=[C4 T 0 1 a (c::l) rest,.dead]:=by
 refine (c4 Tryz.func202 rfl rfl ?_);refine z_6 ?_; refine d13 ?_; refine b2l ?_; refine hY (b7O rfl tt rfl si_) ?_; refine b2l ?_; refine hY a9d ?_; refine N3 ?_;refine cD ((b0C (q:=1) (k:=0) (i:=1) (l:=c::l)) rfl tt tt rfl rfl rfl rfl rfl si_ d5 d5 ?_);refine z_7 ?_;exact ⟨_,j5 rfl tt c6,⟨rfl,rfl⟩⟩
theorem b9j (a:Bool):b8 CC 202 [.ptr 0 0] (bSt T a [] rest) fun r τ=>r = .ret (sv [])/\τ=[C4 T 0 1 a [] rest,.dead]:=by
 refine (c4 Tryz.func202 rfl rfl ?_);refine z_6 ?_; refine d13 ?_; refine b2l ?_; refine hY (b30 rfl tt rfl) ?_; refine b2l ?_; refine hY a9d ?_; refine N3 ?_;refine cD (a9w rfl tt tt rfl rfl ?_);refine z_7 ?_;exact ⟨_,j5 rfl tt c6,⟨rfl,rfl⟩⟩
def BAt (σ:List c5) (q s:Nat) (T:TypeId) (a:Bool) (l:Str) (rest:List CV):Prop:=σ[q]? = some (C4 T q s a l rest)/\σ[s]? = some (w9 tU8 l.length)/\q≠s
theorem a1m (l:Str):∀ r∈l.map bcv,∀ c∈r,p9 c:=fun r hr c hc=>by
 obtain ⟨b,_,rfl⟩:=K3.1 hr;simp [bcv] at hc;subst hc;exact .val _
theorem b6Q {l:Str} {s s':Nat} (h:R s s'):P5 R (a2e l s) (a2e l s'):=by
 refine .list rfl (fun i r r' h1 h2=>by rw [h1] at h2; injection h2 with h2; rw [h2]) (fun i j r r' c c' h1 h2 h3 h4=>?_) ?_
 ·rw [h1] at h2; injection h2 with h2; subst h2; rw [h3] at h4; injection h4 with h4; subst h4
  exact .pure (a1m l r (n_1 h1) c (n_1 h3))
 ·cases hb:l.length with
  | zero=>exact .inl ⟨rfl,rfl⟩
  | succ m=>exact .inr ⟨s,s',rfl,rfl,h⟩
theorem a7i {q' s s':Nat} {a:Bool} {l:Str} (hq:R q q') (h:R s s') (hr:∀ c∈rest,p9 c):H4 R (C4 T q s a l rest) (C4 T q' s' a l rest):=by
 refine .box (.cons ?_ (.cons (b6Q h) (M4 hr)));cases a
 ·exact .pure (.val _)
 ·exact .ptr hq
theorem a4X (t:TypeId) (m:Nat):H4 R (w9 t m) (w9 t m):=by
 cases m with
 | zero=>exact .dead
 | succ m=>exact .tip _
theorem b9l {f:FuncId} {args:List CV} {c:α->CV} {l':α->Str} {rest':α->List CV} {P:α->Prop} {a:Bool} {l:Str} (hargs:∀ a∈args,p9 a) (hc:∀ x,P x->p9 (c x)) (hr:∀ c∈rest,p9 c) (hr':∀ x,P x->∀ c∈rest' x,p9 c)
 (h:b8 CC f (.ptr 0 0::args) (bSt T a l rest) fun r τ=>∃ x,r = .ret (c x)/\τ=a8r T (l' x) (rest' x)/\P x) {σ:List c5} {q s:Nat} (hσ:BAt σ q s T a l rest) :
 b8 CC f (.ptr q 0::args) σ fun r τ=>∃ x,r = .ret (c x)/\τ=(σ.set q (C4 T q σ.length true (l' x) (rest' x))).set s .dead++[w9 tU8 (l' x).length]/\P x:=by
 obtain ⟨h1,h2,h3⟩:=hσ;have hq:=(n_0.1 h1).1;have hs:=(n_0.1 h2).1;refine H5 [q,s] hCC rfl (fun i j k g1 g2=>?_) (fun i k ob g1 g2=>?_) (.cons (.ptr rfl) (M4 hargs)) h fun r τ hk=>?_
 ·rcases i with _ | _ | i <;> rcases j with _ | _ | j <;> simp at g1 g2 <;> first|rfl|(exfalso; exact h3 (g1.trans g2.symm))|(exfalso; exact h3 (g2.trans g1.symm))
 ·rcases i with _ | _ | i
  ·simp [bSt] at g1 g2;subst g1 g2;exact ⟨_,h1,a7i rfl rfl hr⟩
  ·simp [bSt] at g1 g2;subst g1 g2;exact ⟨_,h2,a4X _ _⟩
  ·simp at g1
 ·obtain ⟨x,rfl,rfl,hp⟩:=hk;refine ⟨by simp [bSt,a8r],.ret (c x),(σ.set q (C4 T q σ.length true (l' x) (rest' x))).set s .dead++[w9 tU8 (l' x).length],(.ret (.pure (hc x hp))),by simp [bSt,a8r],fun k hk hks=>?_,fun i k y ha hx=>?_,x,rfl,rfl,hp⟩
  ·have n1:q≠k:=fun e=>hks a2u;have n2:s≠k:=fun e=>hks a2u;rw [L4 a3F];simp [n1,n2]
  ·rcases ha with ha | ⟨ha,rfl⟩
   ·rcases i with _ | _ | i
    ·simp [a8r] at ha hx;subst ha hx;refine ⟨C4 T q σ.length true (l' x) (rest' x),?_,a7i (.inl rfl) (.inr ⟨si_,si_⟩) (hr' x hp)⟩;rw [L4 a9l,a3q h3.symm];simp [hq]
    ·simp [a8r] at ha hx;subst ha hx;refine ⟨.dead,?_,.dead⟩;rw [L4 (by simpa using hs)];simp [hs]
    ·simp at ha
   ·rcases i with _ | _ | _ | i
    ·simp at ha
    ·simp at ha
    ·simp [a8r] at hx;subst hx;refine ⟨w9 tU8 (l' x).length,?_,a4X _ _⟩;rw [a0a si_];simp
    ·simp [a8r] at hx
theorem a03 (hT:a4i T (rest.length+2)) (a:Bool) (l:Str) (hr:∀ c∈rest,p9 c) (c:UInt8) (hl:l.length < 140737488355328) {s:Nat} (hσ:BAt σ q s T a l rest) :
 b8 CC 306 [.ptr q 0,.val (.int .u8 c.toNat)] σ fun r τ=>∃ _:Unit,r = .ret (.val .nilIface)/\τ=(σ.set q (C4 T q σ.length true (l++[c]) rest)).set s .dead++[w9 tU8 (l++[c]).length]/\True :=
 b9l (c:=fun _=>.val .nilIface) (l':=fun _=>l++[c]) (rest':=fun _=>rest) (fun a h=>by simp at h; subst h; exact .val _) (fun _ _=>.val _) hr (fun _ _=>hr) (b2c hT a l c hl) hσ
theorem s0 (hT:a4i T (rest.length+2)) (a:Bool) (l:Str) (hr:∀ c∈rest,p9 c) (s:Str) (hl:l.length+s.length<=140737488355328) (hσ:BAt σ q k T a l rest) :
 b8 CC 200 [.ptr q 0,sv s] σ fun r τ=>∃ _:Unit,r = .ret (.tup [.val (.int .i64 s.length),.val .nilIface])/\τ=(σ.set q (C4 T q σ.length true (l++s) rest)).set k .dead++[w9 tU8 (l++s).length]/\True :=
 b9l (c:=fun _=>.tup [.val (.int .i64 s.length),.val .nilIface]) (l':=fun _=>l++s) (rest':=fun _=>rest) (fun a h=>by simp at h; subst h; exact .val _) (fun _ _=>B2 ⟨.val _,.val _,tt⟩) hr (fun _ _=>hr) (a9H hT a l s hl) hσ
theorem b8t (a:Bool) (l:Str):b8 CC 202 [.ptr 0 0] (bSt T a l rest) fun r τ=>∃ _:Unit,r = .ret (sv l)/\τ=[C4 T 0 1 a l rest,.dead]/\True:=by
 cases l with
 | nil=>exact (b9j a).mono fun r τ h=>⟨(),h.1,h.2,tt⟩
 | cons c l=>exact (b9g a c l).mono fun r τ h=>⟨(),h.1,h.2,tt⟩
theorem a2Y (hr:∀ c∈rest,p9 c) (a:Bool) (l:Str) (hσ:BAt σ q k T a l rest):b8 CC 202 [.ptr q 0] σ fun r τ=>∃ _:Unit,r = .ret (sv l)/\τ=σ.set k .dead/\True:=by
 obtain ⟨h1,h2,h3⟩:=hσ;have hq:=(n_0.1 h1).1;have hs:=(n_0.1 h2).1;refine H5 [q,k] hCC rfl (fun i j k g1 g2=>?_) (fun i k ob g1 g2=>?_) (.cons (.ptr rfl) .nil) (b8t (T:=T) (rest:=rest) a l) fun r τ hk=>?_
 ·rcases i with _ | _ | i <;> rcases j with _ | _ | j <;> simp at g1 g2 <;> first|rfl|(exfalso; exact h3 (g1.trans g2.symm))|(exfalso; exact h3 (g2.trans g1.symm))
 ·rcases i with _ | _ | i
  ·simp [bSt] at g1 g2;subst g1 g2;exact ⟨_,h1,a7i rfl rfl hr⟩
  ·simp [bSt] at g1 g2;subst g1 g2;exact ⟨_,h2,a4X _ _⟩
  ·simp at g1
 ·obtain ⟨x,rfl,rfl,hp⟩:=hk;refine ⟨by simp [bSt],.ret (sv l),σ.set k .dead,.ret (.pure (.val _)),by simp [bSt],fun j hj hjs=>?_,fun i j y ha hx=>?_,x,rfl,rfl,hp⟩
  ·have n2:k≠j:=fun e=>hjs a2u;simp [n2]
  ·rcases ha with ha | ⟨ha,rfl⟩
   ·rcases i with _ | _ | i
    ·simp at ha hx;subst ha hx;exact ⟨_,by rw [a3q h3.symm]; exact h1,a7i (.inl rfl) (.inl rfl) hr⟩
    ·simp at ha hx;subst ha hx;exact ⟨.dead,by simp [hs],.dead⟩
    ·simp at ha
   ·rcases i with _ | _ | i <;> simp at ha hx
theorem b3a {τ:List c5} {l:Str} {c:CV} (h0:τ[0]? = some (C4 T 0 k true l rest)) (hk:τ[k]? = some (w9 tU8 l.length)) (h2:2<=k) (hr:∀ c∈rest,p9 c) (hc:Old 2 c):C6 2 τ (.ret c) (.ret c) (a8r T l rest):=by
 have k1:a5G 2 [0,1,k]=true:=rfl;have k2:U6 [0,1,k]=true:=by
  have e0:(k == 0)=false:=by simp; omega
  have e1:(k == 1)=false:=by simp; omega
  have e2:(0 == k)=false:=by simp; omega
  have e3:(1 == k)=false:=by simp; omega
  simp [U6];omega
 refine ⟨[0,1,k],k1,k2,.ret (.old hc),.inr ⟨_,h0,.box ⟨.old (.ptr de_),.list (fun r hr c hc=>(a1m l r hr c hc).old) ?_,?_⟩⟩,.inl rfl,.inr ⟨_,hk,.same rfl (b2U _ _ _)⟩,tt⟩
 ·intro j hj;cases hb:l.length with
  | zero=>rw [hb] at hj; cases hj
  | succ m=>rw [hb] at hj; injection hj with hj; subst hj; exact ⟨k,rfl,rfl⟩
 ·have:∀ l:List CV,(∀ c∈l,p9 c)->b4m 2 l:=fun l=>by
   induction l with
   | nil=>intro _; trivial
   | cons x l ih=>intro h; exact ⟨(h x si_).old,ih fun c hc=>h c (by simp [hc])⟩
  exact a7w (this rest hr)
theorem d3m {C:Ctx} {M:r9} {w:World} {s:Nat} {a:Bool} {l:Str} (hr:Rel C M σ w) (hσ:BAt σ q s T a l rest):∃ M',Ext M w M' w/\Rel C M' ((σ.set q (C4 T q σ.length a l rest)).set s .dead++[w9 tU8 l.length]) w:=by
 obtain ⟨h1,h2,h3⟩:=hσ;have hq:=(n_0.1 h1).1;have hs:=(n_0.1 h2).1;cases l with
 | nil =>
  rw [show σ.set q (C4 T q σ.length a [] rest)=σ from a1A h1,show σ.set s c5.dead=σ from a1A h2];obtain ⟨hr1,hx1⟩:=hr.addDead ⟨0,0,0⟩;exact ⟨_,hx1,hr1⟩
 | cons x l =>
  obtain ⟨ps,hps⟩:∃ p,M.pl[s]? = some p:=⟨_,a1q (by rw [hr.len]; exact hs)⟩;obtain ⟨pq,hpq⟩:∃ p,M.pl[q]? = some p:=⟨_,a1q (by rw [hr.len]; exact hq)⟩;obtain ⟨⟨hcap,_⟩,_⟩:=hr.obj s ps _ hps h2;obtain ⟨hx1,hr1⟩:=hr.tipNew (m:=(x::l).length) hps h2 (n_4 _) hcap;have hpq':(M.add ps).pl[q]? = some pq:=hx1.get hpq;have hps':(M.add ps).pl[s]? = some ps:=hx1.get hps;have hpn:(M.add ps).pl[σ.length]? = some ps:=by simp [r9.add,<- hr.len]
  have hbq:(σ.set s c5.dead++[c5.tipT (some tU8) (x::l).length])[q]? = some (C4 T q s a (x::l) rest):=by
   rw [L4 a9l,a3q h3.symm,h1]
  obtain ⟨⟨arr,ty,e1,e2,e3,e4⟩,hf,hcl⟩:=hr1.obj q pq _ hpq' hbq;have hcell:∀ (i:Nat) (c:CV),(d2j q a::a2e (x::l) σ.length::rest)[i]? = some c->RV (M.add ps) w c (arr.getD i undef):=fun i c hi=>by
   rcases i with _ | _ | i
   ·exact e4 0 c hi
   ·injection hi with hi
    subst hi;have hl:=e4 1 _ rfl;obtain ⟨a',cap',b',off',s'',vals',hv',q1,q2,q3,q4,q5,q6,q7,q8,q9,q10⟩:=hl.list_inv;rw [hv'];refine RV.list' (L:=((x::l).map bcv).length) rfl vals' q1 q2 (by rw [q3]) (fun h=>by cases h) q5 q6 q7 q8 q9 (fun k' hk'=>?_);obtain ⟨s3,g1,g2,g3,g4⟩:=q10 s rfl;injection hk' with hk'
    subst hk';refine ⟨s3,?_,g2,g3,g4⟩;rw [hps'] at g1;rw [hpn,g1]
   ·exact e4 (i+2) c hi
  have hro:N5 (M.add ps) w pq (C4 T q σ.length a (x::l) rest):=⟨arr,ty,e1,e2,fun c hc=>by
   rcases Q2.1 hc with rfl | hc
   ·cases a <;> rfl
   ·rcases Q2.1 hc with rfl | hc
    ·rfl
    ·exact e3 c (a9r _ (a9r _ hc)),hcell⟩
  have hfin:=hr1.putObj (ob:=C4 T q σ.length a (x::l) rest) hpq' hbq rfl hf hcl (.cells arr ((some T).getD ty) (0,0)) (by rw [World.putObj_self w e1]; exact hro);rw [World.putObj_self w e1] at hfin;refine ⟨_,hx1,?_⟩;have hst:(σ.set s c5.dead++[c5.tipT (some tU8) (x::l).length]).set q (C4 T q σ.length a (x::l) rest)=(σ.set q (C4 T q σ.length a (x::l) rest)).set s .dead++[w9 tU8 (x::l).length]:=by
   rw [List.set_append_left _ _ a9l,List.set_comm _ _ h3.symm];rfl
  rw [<- hst];exact hfin
theorem c9F {C:Ctx} {c:Code} {Q:D3->Env->List c5->Prop} {E:Env} (T:TypeId) (q s:Nat) (a:Bool) (l:Str) (rest:List CV) (hσ:BAt σ q s T a l rest) (h:CWp C n c Q E ((σ.set q (C4 T q σ.length a l rest)).set s .dead++[w9 tU8 l.length])):CWp C n c Q E σ:=fun M w ac hr hf=>by
 obtain ⟨M',h1,h2⟩:=d3m hr hσ;exact wp_mono (h _ w ac h2 (hf.mono h1)) fun _ _ _=>K4.later h1
end Go.Proofs.YtlppbmfecjabeaaGreatDoor
namespace Go.Proofs
open Go.Shelf
def Tryz.laysM171_ren:Go.Shelf.Ren:=⟨fun | 171=>113 | 243=>157 | 246=>203 | 283=>248 | 284=>249 | 285=>250 | 286=>251 | 129=>217 | 317=>287 | 318=>288 | 319=>289 | 320=>290 | 337=>309 | 338=>310 | n=>n,fun | 3=>3 | 9=>9 | 2=>2 | 4=>4 | 171=>282 | 0=>0 | 53=>86 | 37=>149 | 5=>5 | 173=>284 | 212=>313 | 51=>262 | 20=>20 | 213=>314 | 46=>141 | 232=>331 | 233=>332 | n=>n,fun | 17=>1 | 18=>2 | 19=>3 | n=>n⟩
theorem Tryz.laysM171:Go.Proofs.LaysM.n171 Tryz.prog Tryz.laysM171_ren:={
 mixed:=by kernel_rfl
 f129:=Tryz.func217.trans (congrArg some (by kernel_rfl))
 f171:=Tryz.func113.trans (congrArg some (by kernel_rfl))
 f243:=Tryz.func157.trans (congrArg some (by kernel_rfl))
 f246:=Tryz.func203.trans (congrArg some (by kernel_rfl))
 f283:=Tryz.func248.trans (congrArg some (by kernel_rfl))
 f284:=Tryz.func249.trans (congrArg some (by kernel_rfl))
 f285:=Tryz.func250.trans (congrArg some (by kernel_rfl))
 f286:=Tryz.func251.trans (congrArg some (by kernel_rfl))
 f317:=Tryz.func287.trans (congrArg some (by kernel_rfl))
 f318:=Tryz.func288.trans (congrArg some (by kernel_rfl))
 f319:=Tryz.func289.trans (congrArg some (by kernel_rfl))
 f320:=Tryz.func290.trans (congrArg some (by kernel_rfl))
 f337:=Tryz.func309.trans (congrArg some (by kernel_rfl))
 f338:=Tryz.func310.trans (congrArg some (by kernel_rfl))
 t0:=Tryz.underlying0
 a0:=Tryz.isAgg0
 z0:=Tryz.sizeOf0
 v0:=Tryz.zeroValue0
 t2:=Tryz.underlying2
 a2:=Tryz.isAgg2
 z2:=Tryz.sizeOf2
 v2:=Tryz.zeroValue2
 t3:=c5O
 a3:=a3o
 z3:=t_1
 v3:=t_6
 t4:=Tryz.underlying4
 a4:=c6h
 z4:=c7x
 v4:=Tryz.zeroValue4
 t5:=Tryz.underlying5
 a5:=c6N
 z5:=a25
 v5:=a7M
 t9:=c4t
 a9:=t_8
 z9:=t_0
 v9:=t_3
 t20:=Tryz.underlying20
 a20:=Tryz.isAgg20
 z20:=Tryz.sizeOf20
 v20:=Tryz.zeroValue20
 t37:=Tryz.underlying149
 a37:=Tryz.isAgg149
 z37:=c8R
 v37:=Tryz.zeroValue149
 t46:=Tryz.underlying141
 a46:=Tryz.isAgg141
 z46:=Tryz.sizeOf141
 v46:=Tryz.zeroValue141
 t51:=Tryz.underlying262
 a51:=Tryz.isAgg262
 z51:=Tryz.sizeOf262
 v51:=Tryz.zeroValue262
 t53:=Tryz.underlying86
 a53:=Tryz.isAgg86
 z53:=Tryz.sizeOf86
 v53:=Tryz.zeroValue86
 t171:=Tryz.underlying282
 a171:=Tryz.isAgg282
 z171:=Tryz.sizeOf282
 v171:=Tryz.zeroValue282
 t173:=Tryz.underlying284
 a173:=Tryz.isAgg284
 z173:=Tryz.sizeOf284
 v173:=Tryz.zeroValue284
 t212:=Tryz.underlying313
 a212:=Tryz.isAgg313
 z212:=Tryz.sizeOf313
 v212:=Tryz.zeroValue313
 t213:=Tryz.underlying314
 a213:=Tryz.isAgg314
 z213:=Tryz.sizeOf314
 t232:=Tryz.underlying331
 a232:=Tryz.isAgg331
 z232:=Tryz.sizeOf331
 v232:=Tryz.zeroValue331
 t233:=Tryz.underlying332
 a233:=Tryz.isAgg332
 z233:=Tryz.sizeOf332
 v233:=Tryz.zeroValue332
 g17:=by kernel_rfl
 g18:=by kernel_rfl
 g19:=by kernel_rfl
 i0:=by kernel_rfl
 i2:=by kernel_rfl
 i3:=by kernel_rfl
 i4:=by kernel_rfl
 i5:=by kernel_rfl
 i9:=by kernel_rfl
 i20:=by kernel_rfl
 i37:=by kernel_rfl
 i46:=by kernel_rfl
 i51:=by kernel_rfl
 i53:=by kernel_rfl
 i171:=by kernel_rfl
 i173:=by kernel_rfl
 i212:=by kernel_rfl
 i232:=by kernel_rfl
 i233:=by kernel_rfl
 m17:=by kernel_rfl
 m18:=by kernel_rfl
 m19:=by kernel_rfl}
end Go.Proofs
namespace Go.Proofs.YtlppbmfecjabeaaGreatDoor
open Go Go.Cl
variable {fl:List Fi} {ms:SM} {n m s w q1 q2 t L i:Nat} {E:List Ex} {l nm l':Str} {ps br:List Str} {T:TypeId} {rest:List CV} {d:De} {σ:List c5} {nn va en pn a:Bool} {k u o:Int} {me:EM} {ch:List Tr} {sel:List Nat}
theorem b9C (n:Int) (h0 : -9223372036854775808<=n) (h1:n<=9223372036854775807) (σ:List c5):b8 CC 113 [.val (.int .i64 n)] σ fun r σ'=>r = .ret (sv (Lib.itoa n))/\σ'=σ :=
 b06 (fun M σ w vs hr hn hx=>by
  have hv:vs = #[.int .i64 n]:=by
   refine b9x fun i=>?_
   rcases i with _ | i
   ·have h:=o5 (hx 0 _ rfl);have hs:0 < vs.size:=by rw [hn]; exact Nat.succ_pos _
    simp only [T1,U8 hs,a6f] at h;rw [U8 hs,h];rfl
   ·have hs:vs.size<=i+1:=by rw [hn]; show 1<=i+1; omega
    rw [a6r hs];rfl
  subst hv;have ht:Lib.pow10Tab=[1,10,100,1000,10000,100000,1000000,10000000,100000000,1000000000,10000000000,100000000000,1000000000000,10000000000000,100000000000000,1000000000000000,10000000000000000,100000000000000000,1000000000000000000,10000000000000000000]:=by decide
  refine Any.strconv_Itoa Tryz.laysM171 n h0 h1 w ?_;rw [ht];exact GV.tab (C:=CC) (hr.glob 1 c22 rfl) d5) σ
theorem b7d {u:Nat} (hn:0 < n) (h:u < 10^n):(Lib.decDigits u).length<=n:=by
 induction n generalizing u with
 | zero=>omega
 | succ n ih =>
  rw [Lib.decDigits]
  split
  ·simp
  ·rcases b55 n with rfl | hn
   ·omega
   ·have:=ih (u:=u / 10) hn (by rw [Nat.pow_succ] at h; omega);simp; omega
theorem a6O {n:Int} (h0 : -9223372036854775808<=n) (h1:n<=9223372036854775807):(Lib.itoa n).length<=20:=by
 unfold Lib.itoa
 split
 ·have:=b7d (u:=n.natAbs) (n:=19) om_ om_;simp; omega
 ·have:=b7d (u:=n.toNat) (n:=19) om_ om_;omega
def a9J (k o:Int):Int:=if k=5 then 0 else if k=4 then G4 o else 4
theorem b0o (x:Ex) (σ:List c5):b8 CC 305 [.agg x.cells] σ fun r σ'=>r = .ret (.val (.int .i64 (a9J x.k x.op)))/\σ'=σ:=by
 refine b8.anyw hCC pu_ pu_ ?_ σ;refine d4 (c4 Tryz.func305 rfl rfl ?_);refine a7h ?_; refine b6l ?_; refine a8R ?_; refine cC (fun h1=>?_) fun h1=>?_
 ·have u1:x.k=5:=by simpa using h1
  refine G5 ?_;exact ⟨_,j5 rfl tt c6,_,_,rfl,rfl,H6 (by rw [a9J,if_pos u1])⟩
 ·have u1:¬ x.k=5:=by simpa using h1
  refine K1 ?_; refine cC (fun h2=>?_) fun h2=>?_
  ·have u2:x.k=4:=by simpa using h2
   refine z_0 ?_; refine b6l ?_; refine cY (c7 rfl Tryz.call319 ⟨tt,tt⟩ (a6B x.op _) rfl) ?_; refine z_7 ?_;exact ⟨_,j5 rfl tt c6,_,_,rfl,rfl,H6 (by rw [a9J,if_neg u1,if_pos u2])⟩
  ·have u2:¬ x.k=4:=by simpa using h2
   refine i8 ?_; refine G5 ?_;exact ⟨_,j5 rfl tt c6,_,_,rfl,rfl,H6 (by rw [a9J,if_neg u1,if_neg u2])⟩
def sgn (o:Int):Str:=(glk S0 o).getD []
def b1l (k:Int):Str:=if k=7 then [115,105,122,101] else if k=8 then [104,97,115] else if k=9 then [101,110,118] else []
def I9 (sep:Str):List Str->Str
 | []=>[]
 | [x]=>x
 | x::y::l=>x++sep++I9 sep (y::l)
def ndT (ps:List Str) (k u o:Int) (nm:Str) (cs:List Str):Str :=
 if k=1 then Lib.itoa u else if k=2 then ps.getD u.toNat [] else if k=4 then cs.getD 0 []++([32]++sgn o++[32])++cs.getD 1 [] else if k=5 then [105,102,32]++cs.getD 0 []++[32,116,104,101,110,32]++cs.getD 1 []++[32,101,108,115,101,32]++cs.getD 2 []
 else if k=3 then nm++[40]++I9 [44,32] cs++[41] else if k=6 then [114,101,97,100,40,34]++nm++[34,44,32]++cs.getD 0 []++[41] else if k=10 then [102,108,105,112,40]++Lib.itoa u++[41] else b1l k++([40,34]++nm++[34,41])
def a9o (k o:Int):List Int:=if k=4 then [if G4 o=1 then G4 o+1 else G4 o,G4 o+1] else []
mutual
def Tr.txt (ps:List Str):Tr->Int->Str
 | .n k u o nm ch,pl=>if a9J k o < pl then [40]++ndT ps k u o nm (K0 ps ch (a9o k o))++[41] else ndT ps k u o nm (K0 ps ch (a9o k o))
def K0 (ps:List Str):List Tr->List Int->List Str
 | [],_=>[]
 | t::l,pls=>t.txt ps (pls.headD 0)::K0 ps l pls.tail
end
theorem b1I (ps:List Str):∀ (l:List Tr) (pls:List Int),(K0 ps l pls).length=l.length
 | [],_=>rfl
 | t::l,pls=>by rw [K0,n_7,b1I ps l,n_7]
theorem a0E (ps:List Str):∀ (l:List Tr) (pls:List Int) (m:Nat) (c:Tr),l[m]? = some c->(K0 ps l pls)[m]? = some (c.txt ps (pls.getD m 0))
 | [],_,_,_,h=>by simp at h
 | t::l,pls,0,c,h=>by
  injection h with h
  subst h;rw [K0];cases pls <;> rfl
 | t::l,pls,m+1,c,h=>by
  rw [K0,c0Z,a0E ps l pls.tail m c h];cases pls <;> rfl
def b4C (E:List Ex) (t:Tr) (s:Nat):Prop:=∃ E0 E1,E=E0++t.flat s++E1/\E0.length=s
theorem b4C.node (h:b4C E (.n k u o nm ch) s):E[s+t8 ch]? = some ⟨k,u,o,nm,r3 ch s⟩:=by
 obtain ⟨E0,E1,rfl,rfl⟩:=h;rw [Tr.flat,n_9,a0a om_,n_9,a0a (by rw [P4]; omega),P4];rw [show E0.length+t8 ch - E0.length - t8 ch=0 by omega];rfl
theorem a9h:∀ (l:List Tr) (m s:Nat) (c:Tr),l[m]? = some c->∃ X,J3 l s=J3 (l.take m) s++c.flat (s+t8 (l.take m))++X
 | [],_,_,_,h=>by simp at h
 | t::l,0,s,c,h=>by
  injection h with h
  subst h;exact ⟨_,rfl⟩
 | t::l,m+1,s,c,h=>by
  obtain ⟨X,hX⟩:=a9h l m (s+t.size) c h;refine ⟨X,?_⟩;rw [J3,hX,a9K,J3,t8,a9B];simp only [n_9]
theorem b4C.child {c:Tr} (h:b4C E (.n k u o nm ch) s) (hc:ch[m]? = some c):b4C E c (s+t8 (ch.take m)):=by
 obtain ⟨E0,E1,rfl,rfl⟩:=h;obtain ⟨X,hX⟩:=a9h ch m E0.length c hc;refine ⟨E0++J3 (ch.take m) E0.length,X++[⟨k,u,o,nm,r3 ch E0.length⟩]++E1,?_,?_⟩
 ·rw [Tr.flat,hX]; simp only [n_9]
 ·rw [n_6,P4]
theorem a2T {l:List Tr} {c:Tr} (h:l[m]? = some c):c.size<=t8 l:=by
 induction l generalizing m with
 | nil=>simp at h
 | cons t l ih =>
  rw [t8]
  rcases m with _ | m
  ·injection h with h; subst h; omega
  ·have:=ih h; omega
abbrev TW:Nat:=309
theorem a12:a4i TW 5:=by unfold a4i; kernel_rfl
def WR (E:List Ex) (ps:List Str) (en pn:Bool) (d:Int):List CV:=[.list (E.map Ex.cv) en none,.list (ps.map scv) pn none,.val (.int .i64 d)]
theorem C5 (E:List Ex) (ps:List Str) (en pn:Bool) (d:Int):∀ c∈WR E ps en pn d,p9 c:=fun c hc=>by
 simp only [WR,Q2,b0s,or_false] at hc
 rcases hc with rfl | rfl | rfl
 ·exact a2D _ _
 ·exact F7 _ _
 ·exact .val _
def WEG (E:List Ex) (ps:List Str) (en pn:Bool) (t:Tr) (s:Nat) (ok:Int->Prop):Prop:=∀ (pl dp:Int) (a:Bool) (b:Str) (d:Int),ok pl->0<=dp->dp+2*t.size+1<=1000000000->b.length+(t.txt ps pl).length<=100000000000000->∀ (σ:List c5) (q k:Nat),BAt σ q k TW a b (WR E ps en pn d) ->
 b8 CC 284 [.ptr q 0,.val (.int .i64 ((s+t.size - 1:Nat):Int)),.val (.int .i64 pl),.val (.int .i64 dp)] σ fun r τ=>∃ d':Int,r = .ret (.tup [])/\τ=(σ.set q (C4 TW q σ.length true (b++t.txt ps pl) (WR E ps en pn d'))).set k .dead++[w9 tU8 (b++t.txt ps pl).length]/\True
theorem b1k {pl dp:Int} {T:Str} {b:Str} {d:Int} (h:b8 CC 284 [.ptr 0 0,.val (.int .i64 (i:Int)),.val (.int .i64 pl),.val (.int .i64 dp)] (bSt TW a b (WR E ps en pn d)) fun r τ=>∃ d':Int,C6 2 τ r (.ret (.tup [])) (a8r TW (b++T) (WR E ps en pn d'))/\True)
 (σ:List c5) (q k:Nat) (hσ:BAt σ q k TW a b (WR E ps en pn d)):b8 CC 284 [.ptr q 0,.val (.int .i64 (i:Int)),.val (.int .i64 pl),.val (.int .i64 dp)] σ fun r τ=>∃ d':Int,r = .ret (.tup [])/\τ=(σ.set q (C4 TW q σ.length true (b++T) (WR E ps en pn d'))).set k .dead++[w9 tU8 (b++T).length]/\True :=
 b9l (c:=fun _:Int=>.tup []) (l':=fun _=>b++T) (rest':=fun d'=>WR E ps en pn d') (P:=fun _=>True) (fun a h=>by simp at h; rcases h with rfl | rfl | rfl <;> exact .val _) (fun _ _=>B2 trivial) (C5 _ _ _ _ _) (fun _ _=>C5 _ _ _ _ _)
  (N9 hCC (h.mono fun r τ hh=>by
   obtain ⟨d',h1,h2⟩:=hh;exact ⟨_,_,h1,d',rfl,rfl,tt⟩)) hσ
def W3:List Str:=[[105,102,32],[32,116,104,101,110,32],[32,101,108,115,101,32]]
def ifP:List Str->Nat->Str
 | _,0=>[]
 | cs,m+1=>ifP cs m++W3.getD m []++cs.getD m []
def F3 (sep:Str) (cs:List Str) (m:Nat):Str:=I9 sep (cs.take m)
theorem a6q {sep:Str} {cs:List Str} {c:Str} (h:cs[m]? = some c):F3 sep cs (m+1)=F3 sep cs m++(if m=0 then [] else sep)++c:=by
 unfold F3;have:∀ (cs:List Str) (m:Nat) (c:Str),cs[m]? = some c->I9 sep (cs.take (m+1))=I9 sep (cs.take m)++(if m=0 then [] else sep)++c:=by
  intro cs
  induction cs with
  | nil=>intro m c h; simp at h
  | cons x l ih =>
   intro m c h
   rcases m with _ | m
   ·simp at h; subst h; simp [I9]
   ·rw [a9K,a9K];have:=ih m c V8
    rcases l with _ | ⟨y,l⟩
    ·simp at h
    ·rcases m with _ | m
     ·simp only [a9K,List.take_zero,I9] at this ⊢;simp at this ⊢;simpa using h
     ·simp only [a9K,I9] at this ⊢;rw [this];simp
 exact this cs m c h
theorem b4u {β:Type} {k:Int} {y:β}:∀ {l:List (Int × β)},glk l k=some y->(k,y)∈l
 | [],h=>by cases h
 | (b,c)::l,h=>by
  rw [glk] at h;split at h
  ·rename_i e;injection h with h
   subst h e;simp
  ·exact a9r _ (b4u h)
theorem d3d (h:m < 3):∃ w,W3[m]? = some w:=by
 match m,h with
 | 0,_=>exact ⟨_,rfl⟩
 | 1,_=>exact ⟨_,rfl⟩
 | 2,_=>exact ⟨_,rfl⟩
theorem b5t:∀ l:List Tr,l.length<=t8 l
 | []=>n_4 _
 | t::l=>by rw [t8,n_7]; have:=b5t l; have:=t.size_pos; omega
def kp (ph:Bool):Nat:=match ph with | false=>3 | true=>4
def op1 (ph:Bool) (m:Nat):c5:=match ph with | false=>w9 tU8 m | true=>.dead
def op2 (ph:Bool) (m:Nat):c5:=match ph with | false=>.dead | true=>w9 tU8 m
theorem a6t {s':Nat} (hL:0 < L) (hs:sel[s']? = some s) (hr:∀ c∈rest,p9 c) (he:l=l'):b1o L sel (C4 T 0 s a l rest) (C4 T 0 s' a l' rest):=by
 subst he;refine .box ⟨?_,.list (fun r hr c hc=>(a1m l r hr c hc).old) (fun j hj=>?_),?_⟩
 ·cases a
  ·exact .old (.val _)
  ·exact .old (.ptr hL)
 ·cases hb:l.length with
  | zero=>rw [hb] at hj; cases hj
  | succ m=>rw [hb] at hj; injection hj with hj; subst hj; exact ⟨s,rfl,hs⟩
 ·have:∀ l:List CV,(∀ c∈l,p9 c)->b4m L l:=fun l=>by
   induction l with
   | nil=>intro _; trivial
   | cons x l ih=>intro h; exact ⟨(h x si_).old,ih fun c hc=>h c (by simp [hc])⟩
  exact a7w (this rest hr)
theorem Q7 (he:l=l'):b1o L sel (w9 tU8 l.length) (w9 tU8 l'.length):=he ▸ .same rfl (b2U _ _ _)
theorem a2o:Old 2 (.tup []):=(B2 (cs:=[]) tt).old
def W0:List (Int × Str):=[(7,[115,105,122,101]),(8,[104,97,115]),(9,[101,110,118])]
theorem c5C (k:Int):(glk W0 k).getD []=b1l k:=by
 unfold b1l
 split
 ·subst_vars; rfl
 ·split
  ·subst_vars; rfl
  ·split
   ·subst_vars; rfl
   ·rename_i h1 h2 h3;have e:∀ x∈W0,x.1≠k:=fun x hx=>by
     simp only [W0,Q2,b0s,or_false] at hx
     rcases hx with rfl | rfl | rfl <;> simp only <;> omega
    cases hg:glk W0 k with
    | none=>rfl
    | some y =>
     exact absurd rfl (e _ (b4u hg))
theorem c1w (o:Int):(sgn o).length<=100:=by
 unfold sgn;cases hg:glk S0 o with
 | none=>exact n_3 _
 | some y =>
  have:∀ x∈S0,x.2.length<=100:=by decide
  exact this _ (b4u hg)
theorem b7F (o:Int):1<=G4 o/\G4 o<=3:=by unfold G4; split; omega; split <;> omega
theorem J4 (a b:Str):(a++b).length=a.length+b.length:=n_6
theorem a6D {l:List Tr} (h:l.length=n) (hm:m < n):∃ c,l[m]? = some c:=⟨l[m]'om_,si_⟩
theorem c97 (cs:List Str):∀ m,m<=3->(ifP cs m).length<=(ifP cs 3).length:=by
 intro m hm;have h1:∀ n,(ifP cs n).length<=(ifP cs (n+1)).length:=fun n=>by rw [ifP]; simp only [n_6]; omega
 have e0:=h1 0;have e1:=h1 1;have e2:=h1 2
 rcases m with _ | _ | _ | _ | m <;> simp only [n_8,Nat.reduceAdd] at*<;> omega
theorem c3V (sep:Str) (cs:List Str) (m:Nat):(F3 sep cs m).length<=(I9 sep cs).length:=by
 unfold F3
 induction cs generalizing m with
 | nil=>simp
 | cons x l ih =>
  rcases m with _ | m
  ·simp [I9]
  ·rw [a9K]
   rcases l with _ | ⟨y,l⟩
   ·simp
   ·rcases m with _ | m
    ·simp [I9]
    ·have:=ih (m+1);rw [a9K] at this ⊢;simp only [I9,n_6] at this ⊢;omega
theorem b3J (k:Int):(b1l k).length<=4:=by
 unfold b1l
 split; decide
 split; decide
 split <;> decide
theorem b3g (hAt:b4C E (.n k u o nm ch) s) (hn:a0O ps.length k u o nm ch.length) (_:E.length<=1000000) (hI:∀ m c,ch[m]? = some c->WEG E ps en pn c (s+t8 (ch.take m)) (fun _=>True)) (T:Str) (hT:T=ndT ps k u o nm (K0 ps ch (a9o k o))) (pl dp:Int) (hpl:¬ a9J k o < pl) (hd0:0<=dp) (hd:dp+2*((t8 ch+1:Nat):Int)<=1000000000) (a:Bool) (b:Str) (d:Int) (hb:b.length+T.length<=100000000000000):b8 CC 284 [.ptr 0 0,(.val (.int .i64 ((s+t8 ch:Nat):Int))),(.val (.int .i64 pl)),(.val (.int .i64 dp))] (bSt TW a b (WR E ps en pn d)) fun r τ=>∃ d':Int,C6 2 τ r (.ret (.tup [])) (a8r TW (b++T) (WR E ps en pn d'))/\True:=by
 refine (c4 Tryz.func284 rfl rfl ?_);refine a4R ?_; refine d1Z ?_; refine d2v ?_; refine cY c8L ?_; refine c6q ?_; refine a2i ?_; refine d0Y ?_; refine cY j7 ?_; refine a9A ?_; refine cC (fun h1=>?_) fun h1=>?_
 ·exact absurd a4h hpl
 ·have hnk:=hn.kind;refine a8Y ?_; refine cY J2 ?_; refine cY b5F ?_; refine cY a0F ?_; refine cY j7 ?_; refine cY (d5I rfl tt tt rfl rfl) ?_; refine cY J2 ?_; refine cY b5F ?_; refine c2o ?_; refine z_0 ?_; refine b6l ?_; refine a8R ?_; refine cC (fun h2=>?_) fun h2=>?_
  ·refine J7 [C4 TW 0 1 a b (WR E ps en pn (max d dp)),w9 tU8 b.length,.box (Ex.cells ⟨k,u,o,nm,r3 ch s⟩)] rfl ?_;have u2:k=1:=by simpa using h2
   have hr2:=hn.k1 u2;have eT:T=Lib.itoa u:=by rw [hT,ndT,if_pos u2]
   rw [eT] at hb;refine B4 6 [0,1,3,0,8,24,63] d5 d5 rfl ?_; refine b3E ?_; refine b7i ?_; refine hY (c7 rfl c50 ⟨tt,tt⟩ (b9C u om_ om_ _) rfl) ?_; refine N3 ?_;refine cD (b9 rfl a2d j1 (s0 a12 _ (b) (C5 _ _ _ _ _) (Lib.itoa u) a4b ⟨rfl,rfl,n_2 rfl⟩) rfl ?_);intro _ _;exact c8H
  ·have u2:¬ k=1:=by simpa using h2
   refine K1 ?_; refine cC (fun h3=>?_) fun h3=>?_
   ·refine J7 [C4 TW 0 1 a b (WR E ps en pn (max d dp)),w9 tU8 b.length,.box (Ex.cells ⟨k,u,o,nm,r3 ch s⟩)] rfl ?_;have u3:k=2:=by simpa using h3
    have hr3:=hn.k2 u3;have hnum:0<=(Ex.mk k u o nm (r3 ch s)).num:=hr3.1;have eT:T=ps.getD u.toNat []:=by rw [hT,ndT,if_neg om_,if_pos u3]
    rw [eT] at hb;have g0:ps[u.toNat]? = some (ps.getD u.toNat []):=by
     have hlt:u.toNat < ps.length:=by omega
     simp [List.getD,hlt]
    refine B4 11 [0,1,3,0,8,24,56,0,128,504,1016,2047] d5 d5 rfl ?_; refine b3E ?_; refine a5r ?_; refine hY (j2 rfl tt rfl b8J rfl a3O de_) ?_; refine hY a5U ?_; refine b7i ?_; refine hY (t6 rfl tt tt rfl rfl t_2 t_0 om_ (j8 g0) rfl) ?_; refine hY a0T ?_; refine N3 ?_;refine cD (b9 rfl a2d j1 (s0 a12 _ (b) (C5 _ _ _ _ _) (ps.getD u.toNat []) a4b ⟨rfl,rfl,n_2 rfl⟩) rfl ?_);intro _ _;exact c8H
   ·have u3:¬ k=2:=by simpa using h3
    refine K1 ?_; refine cC (fun h4=>?_) fun h4=>?_
    ·refine J7 [C4 TW 0 1 a b (WR E ps en pn (max d dp)),w9 tU8 b.length,.box (Ex.cells ⟨k,u,o,nm,r3 ch s⟩)] rfl ?_;have u4:k=4:=by simpa using h4
     have hch:ch.length=2:=by have:=hn.cnt; rw [if_pos u4] at this; exact this
     obtain ⟨c0,g0⟩:=a6D (m:=0) hch de_;obtain ⟨c1,g1⟩:=a6D (m:=1) hch de_;have hz0:=a2T g0;have hz1:=a2T g1;have hlv:=b7F o;have hsl:=c1w o;have elv:a9J k o=G4 o:=by rw [a9J,if_neg om_,if_pos u4]
     refine z_0 ?_; refine cY a88 ?_; refine cY (c7 rfl Tryz.call305 ⟨tt,tt⟩ ((elv ▸ b0o ⟨k,u,o,nm,r3 ch s⟩ _)) rfl) ?_; refine M9 ?_; refine a5H ?_; refine cC (fun h5=>?_) fun h5=>?_
     ·have u5:G4 o=1:=by simpa using h5
      have eT:T=c0.txt ps (G4 o+1)++([32]++sgn o++[32])++c1.txt ps (G4 o+1):=by rw [hT,ndT,if_neg om_,if_neg om_,if_pos u4]; simp only [a2A,a0E ps ch _ 0 c0 g0,a0E ps ch _ 1 c1 g1,a6f]; simp [a9o,u4,u5]
      rw [eT] at hb;refine z_5 ?_; refine cY S8 ?_; refine M9 ?_; refine a52 ?_; refine cY c1A ?_; refine cY a3D ?_; refine a8a ?_;refine cD (b9 rfl b1Y a5Q (hI 0 c0 g0 (G4 o+1) (dp) _ (b) _ trivial om_ om_ a4b _ _ _ ⟨rfl,rfl,n_2 rfl⟩) rfl ?_);rintro d1 _;dsimp only;refine c8 [C4 TW 0 3 true (b++c0.txt ps (G4 o+1)) (WR E ps en pn d1),.dead,.box (Ex.cells ⟨k,u,o,nm,r3 ch s⟩),w9 tU8 (b++c0.txt ps (G4 o+1)).length] rfl ?_; refine z_8 ?_; refine d16 ?_; refine chf rfl c4L ?_; refine chf rfl (d6 rfl b6j) ?_; refine chf rfl b2n ?_; refine D2 ?_;refine A9 rfl rfl (b9 rfl c7f trivial (b1s _) rfl ?_);intro _ _; refine a1c [C4 TW 0 3 true (b++c0.txt ps (G4 o+1)) (WR E ps en pn d1),.dead,.box (Ex.cells ⟨k,u,o,nm,r3 ch s⟩),w9 tU8 (b++c0.txt ps (G4 o+1)).length,.map (gm kv sv S0)] rfl ?_;refine ⟨⟨C8,a1K,b5w,(by exact d6 rfl b6j),b3x,tt⟩,?_⟩;refine D5 rfl d54 ⟨⟨C8,a1K,b5w,tt⟩,?_⟩;refine D5 rfl (d6 rfl (I6 rfl rfl tt rfl rfl (by show 1+(sgn o).length<=_; omega))) ⟨⟨C8,a1K,b5w,tt⟩,?_⟩;refine D5 rfl d5S ⟨⟨C8,a1K,b5w,tt⟩,?_⟩;refine A9 rfl rfl (b9 rfl a2d j1 (s0 a12 _ (b++c0.txt ps (G4 o+1)) (C5 _ _ _ _ _) ([32]++sgn o++[32]) a4b ⟨rfl,rfl,n_2 rfl⟩) rfl ?_);intro _ _; refine a1c [C4 TW 0 5 true (b++c0.txt ps (G4 o+1)++([32]++sgn o++[32])) (WR E ps en pn d1),.dead,.box (Ex.cells ⟨k,u,o,nm,r3 ch s⟩),.dead,.map (gm kv sv S0),w9 tU8 (b++c0.txt ps (G4 o+1)++([32]++sgn o++[32])).length] rfl ?_; refine a3E ?_; refine z_5 ?_; refine a52 ?_; refine d17 ?_; refine cY j7 ?_; refine b72 ?_;refine cD (b9 rfl b1Y a5Q (hI 1 c1 g1 (G4 o+1) (dp) _ (b++c0.txt ps (G4 o+1)++([32]++sgn o++[32])) _ trivial om_ om_ a4b _ _ _ ⟨rfl,rfl,n_2 rfl⟩) rfl ?_);rintro d2 _;dsimp only;refine i7 ?_;exact ⟨_,l9 (rs:=[]) (cs:=[]) rfl tt (n_2 rfl),⟨d2,d5A,tt⟩⟩
     ·have u5:¬ G4 o=1:=by simpa using h5
      have eT:T=c0.txt ps (G4 o)++([32]++sgn o++[32])++c1.txt ps (G4 o+1):=by rw [hT,ndT,if_neg om_,if_neg om_,if_pos u4]; simp only [a2A,a0E ps ch _ 0 c0 g0,a0E ps ch _ 1 c1 g1,a6f]; simp [a9o,u4,u5]
      rw [eT] at hb;refine a05 ?_; refine a52 ?_; refine cY c1A ?_; refine cY a3D ?_; refine a8a ?_;refine cD (b9 rfl b1Y a5Q (hI 0 c0 g0 (G4 o) (dp) _ (b) _ trivial om_ om_ a4b _ _ _ ⟨rfl,rfl,n_2 rfl⟩) rfl ?_);rintro d1 _;dsimp only;refine c8 [C4 TW 0 3 true (b++c0.txt ps (G4 o)) (WR E ps en pn d1),.dead,.box (Ex.cells ⟨k,u,o,nm,r3 ch s⟩),w9 tU8 (b++c0.txt ps (G4 o)).length] rfl ?_; refine z_8 ?_; refine d16 ?_; refine chf rfl c4L ?_; refine chf rfl (d6 rfl b6j) ?_; refine chf rfl b2n ?_; refine D2 ?_;refine A9 rfl rfl (b9 rfl c7f trivial (b1s _) rfl ?_);intro _ _; refine a1c [C4 TW 0 3 true (b++c0.txt ps (G4 o)) (WR E ps en pn d1),.dead,.box (Ex.cells ⟨k,u,o,nm,r3 ch s⟩),w9 tU8 (b++c0.txt ps (G4 o)).length,.map (gm kv sv S0)] rfl ?_;refine ⟨⟨C8,a1K,b5w,(by exact d6 rfl b6j),b3x,tt⟩,?_⟩;refine D5 rfl d54 ⟨⟨C8,a1K,b5w,tt⟩,?_⟩;refine D5 rfl (d6 rfl (I6 rfl rfl tt rfl rfl (by show 1+(sgn o).length<=_; omega))) ⟨⟨C8,a1K,b5w,tt⟩,?_⟩;refine D5 rfl d5S ⟨⟨C8,a1K,b5w,tt⟩,?_⟩;refine A9 rfl rfl (b9 rfl a2d j1 (s0 a12 _ (b++c0.txt ps (G4 o)) (C5 _ _ _ _ _) ([32]++sgn o++[32]) a4b ⟨rfl,rfl,n_2 rfl⟩) rfl ?_);intro _ _; refine a1c [C4 TW 0 5 true (b++c0.txt ps (G4 o)++([32]++sgn o++[32])) (WR E ps en pn d1),.dead,.box (Ex.cells ⟨k,u,o,nm,r3 ch s⟩),.dead,.map (gm kv sv S0),w9 tU8 (b++c0.txt ps (G4 o)++([32]++sgn o++[32])).length] rfl ?_; refine a3E ?_; refine z_5 ?_; refine a52 ?_; refine d17 ?_; refine cY j7 ?_; refine b72 ?_;refine cD (b9 rfl b1Y a5Q (hI 1 c1 g1 (G4 o+1) (dp) _ (b++c0.txt ps (G4 o)++([32]++sgn o++[32])) _ trivial om_ om_ a4b _ _ _ ⟨rfl,rfl,n_2 rfl⟩) rfl ?_);rintro d2 _;dsimp only;refine i7 ?_;exact ⟨_,l9 (rs:=[]) (cs:=[]) rfl tt (n_2 rfl),⟨d2,d5A,tt⟩⟩
    ·have u4:¬ k=4:=by simpa using h4
     have ep:a9o k o=[]:=by rw [a9o,if_neg u4]
     refine K1 ?_; refine cC (fun h6=>?_) fun h6=>?_
     ·have u6:k=5:=by simpa using h6
      have hch:ch.length=3:=by have:=hn.cnt; rw [if_neg u4,if_pos u6] at this; exact this
      have eT:T=ifP (K0 ps ch []) 3:=by
       rw [hT,ndT,if_neg om_,if_neg om_,if_neg om_,if_pos u6,ep]; simp [ifP,W3]
      have hpre:=c97 (K0 ps ch []);rw [eT] at hb;refine J7 [C4 TW 0 1 a b (WR E ps en pn (max d dp)),w9 tU8 b.length,.box (Ex.cells ⟨k,u,o,nm,r3 ch s⟩)] rfl ?_; refine c9F TW 0 1 a b (WR E ps en pn (max d dp)) ⟨rfl,rfl,n_2 rfl⟩ ?_; refine J7 [C4 TW 0 3 a b (WR E ps en pn (max d dp)),.dead,.box (Ex.cells ⟨k,u,o,nm,r3 ch s⟩),w9 tU8 b.length] rfl ?_; refine z_0 ?_; refine cY (A3 (W3.map scv) rfl ⟨rfl,rfl,rfl,tt⟩ t_2 t_0 t_3 rfl rfl rfl rfl rfl rfl rfl rfl rfl) ?_; refine a0W ?_; refine A2 hCC 4 rfl (α:=Nat × Bool × Bool × Int) (fun x=>[(0,.ptr 0 0),(3,(.val (.int .i64 dp))),(8,.ptr 2 0),(127,.list (W3.map scv) true none),(128,(.val (.int .i64 (3)))),(129,(.val (.int .i64 (x.1:Int))))]) (fun x=>[C4 TW 0 (kp x.2.1) x.2.2.1 (b++ifP (K0 ps ch []) x.1) (WR E ps en pn x.2.2.2),.dead,.box (Ex.cells ⟨k,u,o,nm,r3 ch s⟩),op1 x.2.1 (b++ifP (K0 ps ch []) x.1).length,op2 x.2.1 (b++ifP (K0 ps ch []) x.1).length]) (fun x=>x.1<=3/\(0 < x.1->x.2.2.1=true)) (fun x=>3 - x.1) ⟨(0,false,a,max d dp),[0,1,2,3,7],⟨n_3 _,fun h=>absurd h (Nat.lt_irrefl _)⟩,⟨rfl,rfl⟩,a8g,⟨.inr ⟨_,rfl,a6t de_ rfl (C5 _ _ _ _ _) (by simp [ifP])⟩,.inl rfl,.inr ⟨_,rfl,.same rfl b7c⟩,.inr ⟨_,rfl,Q7 (by simp [ifP])⟩,.inl rfl,tt⟩⟩ ?_; intro ⟨m,ph,a',d'⟩ ⟨hm,hma⟩;dsimp only at hm hma ⊢;refine F2 ?_; refine cC (fun h7=>?_) fun h7=>?_
      ·have hlt:m < 3:=by simp at h7; omega
       obtain ⟨w,gw⟩:=d3d hlt;obtain ⟨c,gm⟩:=a6D (m:=m) hch hlt;have hzm:=a2T gm;have es:ifP (K0 ps ch []) (m+1)=ifP (K0 ps ch []) m++w++c.txt ps 0:=by
        rw [ifP]; simp only [a2A,gw,a0E ps ch _ m c gm,a6f]; simp
       have hbm:=hpre (m+1) om_;rw [es] at hbm;refine Z0 ?_; refine cY (t6 rfl tt tt rfl rfl t_2 t_0 om_ (j8 gw) rfl) ?_; refine cY a0T ?_; refine cY I1 ?_; refine z_2 ?_; refine a4R ?_; refine cY b03 ?_; refine cY j7 ?_;refine cD (b9 rfl a2d j1 (s0 a12 _ (b++ifP (K0 ps ch []) m) (C5 _ _ _ _ _) (w) (by simp only [J4] at hb hbm ⊢; omega) ⟨rfl,by cases ph <;> rfl,by cases ph <;> exact n_2 rfl⟩) rfl ?_);intro _ _; refine c8 [C4 TW 0 5 true (b++ifP (K0 ps ch []) m++w) (WR E ps en pn d'),.dead,.box (Ex.cells ⟨k,u,o,nm,r3 ch s⟩),.dead,.dead,w9 tU8 (b++ifP (K0 ps ch []) m++w).length] R9 ?_; refine i7 ?_; refine z_5 ?_; refine a52 ?_; refine cY j7 ?_; refine d2H ?_; refine a8H ?_;refine cD (b9 rfl b1Y ⟨tt,tt,rfl,tt,tt⟩ (hI m c gm 0 (dp+1) _ (b++ifP (K0 ps ch []) m++w) _ trivial om_ om_ (by simp only [J4] at hb hbm ⊢; omega) _ _ _ ⟨rfl,rfl,n_2 rfl⟩) rfl ?_);rintro d3 _;dsimp only;refine c8 [C4 TW 0 6 true (b++ifP (K0 ps ch []) m++w++c.txt ps 0) (WR E ps en pn d3),.dead,.box (Ex.cells ⟨k,u,o,nm,r3 ch s⟩),.dead,.dead,.dead,w9 tU8 (b++ifP (K0 ps ch []) m++w++c.txt ps 0).length] rfl ?_; refine a2F ?_;exact ⟨(m+1,true,true,d3),[0,1,2,3,6],(show 3 - (m+1) < 3 - m/\m+1<=3/\(0 < m+1->true=true) from ⟨om_,om_,fun _=>rfl⟩),⟨rfl,rfl⟩,a8g,⟨.inr ⟨_,rfl,a6t de_ rfl (C5 _ _ _ _ _) c1x⟩,.inl rfl,.inr ⟨_,rfl,.same rfl b7c⟩,.inl rfl,.inr ⟨_,rfl,Q7 c1x⟩,tt⟩⟩
      ·have h3m:m=3:=by simp at h7; omega
       subst h3m;obtain rfl:=hma de_;refine z6 ?_;exact ⟨_,l9 (rs:=[]) (cs:=[]) rfl tt (n_2 rfl),⟨d',(by rw [eT]; exact b3a (k:=kp ph) rfl R9 (by cases ph <;> decide) (C5 _ _ _ _ _) a2o),tt⟩⟩
     ·have u6:¬ k=5:=by simpa using h6
      refine K1 ?_; refine cC (fun h8=>?_) fun h8=>?_
      ·refine J7 [C4 TW 0 1 a b (WR E ps en pn (max d dp)),w9 tU8 b.length,.box (Ex.cells ⟨k,u,o,nm,r3 ch s⟩)] rfl ?_;have u8:k=3:=by simpa using h8
       have eT:T=nm++[40]++I9 [44,32] (K0 ps ch [])++[41]:=by
        rw [hT,ndT,if_neg om_,if_neg om_,if_neg om_,if_neg om_,if_pos u8,ep]
       have hpre:=c3V [44,32] (K0 ps ch []);rw [eT] at hb;have hbn:=hb;simp only [J4,n_7,I7] at hbn;refine w8 ?_; refine B4 6 [0,1,3,0,8,24,63] d5 d5 rfl ?_; refine b3E ?_; refine hY c0x ?_; refine hY Y2 ?_; refine hY (I6 rfl tt rfl rfl rfl (by show nm.length+1<=_; omega)) ?_; refine N3 ?_;refine cD (b9 rfl a2d j1 (s0 a12 _ (b) (C5 _ _ _ _ _) (nm++[40]) a4b ⟨rfl,rfl,n_2 rfl⟩) rfl ?_);intro _ _; refine c8 [C4 TW 0 3 true (b++(nm++[40])) (WR E ps en pn (max d dp)),.dead,.box (Ex.cells ⟨k,u,o,nm,r3 ch s⟩),w9 tU8 (b++(nm++[40])).length] rfl ?_; refine a2i ?_; refine a52 ?_; refine cY a7l ?_; refine a1n ?_; refine A2 hCC 4 rfl (α:=Nat × Bool × Int) (fun x=>[(0,.ptr 0 0),(3,(.val (.int .i64 dp))),(159,.list ((r3 ch s).map icv) (gnn (r3 ch s).length) none),(160,(.val (.int .i64 ((r3 ch s).length:Int)))),(161,(.val (.int .i64 (x.1:Int))))]) (fun x=>[C4 TW 0 (kp x.2.1) true (b++(nm++[40])++F3 [44,32] (K0 ps ch []) x.1) (WR E ps en pn x.2.2),.dead,.box (Ex.cells ⟨k,u,o,nm,r3 ch s⟩),op1 x.2.1 (b++(nm++[40])++F3 [44,32] (K0 ps ch []) x.1).length,op2 x.2.1 (b++(nm++[40])++F3 [44,32] (K0 ps ch []) x.1).length]) (fun x=>x.1<=ch.length) (fun x=>ch.length - x.1) ⟨(0,false,max d dp),[0,1,2,3,7],(n_3 _),⟨rfl,rfl⟩,c2N,⟨.inr ⟨_,rfl,a6t de_ rfl (C5 _ _ _ _ _) (by simp [F3,I9])⟩,.inl rfl,.inr ⟨_,rfl,.same rfl b7c⟩,.inr ⟨_,rfl,Q7 (by simp [F3,I9])⟩,.inl rfl,tt⟩⟩ ?_; intro ⟨m,ph,d'⟩ hm;dsimp only at hm ⊢;have hrl:=a1o ch s;have hcl:=b5t ch;refine F2 ?_; refine cC (fun h9=>?_) fun h9=>?_
       ·have hlt:m < ch.length:=by simp at h9; omega
        obtain ⟨c,gm⟩:=a6D (m:=m) rfl hlt;have hzm:=a2T gm;have es:=a6q (sep:=[44,32]) (a0E ps ch [] m c gm);have hbm:=hpre (m+1);rw [es] at hbm;simp only [J4,List.getD_nil] at hbm es;refine Z0 ?_; refine d2H ?_; refine b5v ?_; refine cC (fun h10=>?_) fun h10=>?_
        ·have u10:¬ m=0:=by simp at h10; omega
         rw [if_neg u10] at hbm es;refine z_5 ?_; refine cY J2 ?_; refine cY b03 ?_;refine cD (b9 rfl a2d o6 (s0 a12 _ (b++(nm++[40])++F3 [44,32] (K0 ps ch []) m) (C5 _ _ _ _ _) ([44,32]) c6S ⟨rfl,by cases ph <;> rfl,by cases ph <;> exact n_2 rfl⟩) rfl ?_);intro _ _; refine c8 [C4 TW 0 5 true (b++(nm++[40])++F3 [44,32] (K0 ps ch []) m++[44,32]) (WR E ps en pn d'),.dead,.box (Ex.cells ⟨k,u,o,nm,r3 ch s⟩),.dead,.dead,w9 tU8 (b++(nm++[40])++F3 [44,32] (K0 ps ch []) m++[44,32]).length] R9 ?_; refine i7 ?_; refine R7 ?_; refine a8H ?_;refine cD (b9 rfl b1Y ⟨tt,tt,rfl,tt,tt⟩ (hI m c gm 0 (dp+1) _ (b++(nm++[40])++F3 [44,32] (K0 ps ch []) m++[44,32]) _ trivial om_ om_ c6S _ _ _ ⟨rfl,rfl,n_2 rfl⟩) rfl ?_);rintro d3 _;dsimp only;refine c8 [C4 TW 0 6 true (b++(nm++[40])++F3 [44,32] (K0 ps ch []) m++[44,32]++c.txt ps 0) (WR E ps en pn d3),.dead,.box (Ex.cells ⟨k,u,o,nm,r3 ch s⟩),.dead,.dead,.dead,w9 tU8 (b++(nm++[40])++F3 [44,32] (K0 ps ch []) m++[44,32]++c.txt ps 0).length] rfl ?_; refine a2F ?_;exact ⟨(m+1,true,d3),[0,1,2,3,6],do_,⟨rfl,rfl⟩,c2N,⟨.inr ⟨_,rfl,a6t de_ rfl (C5 _ _ _ _ _) c1x⟩,.inl rfl,.inr ⟨_,rfl,.same rfl b7c⟩,.inl rfl,.inr ⟨_,rfl,Q7 c1x⟩,tt⟩⟩
        ·have u10:m=0:=by simp at h10; omega
         rw [if_pos u10] at hbm es;refine i8 ?_; refine R7 ?_; refine a8H ?_;refine cD (b9 rfl b1Y ⟨tt,tt,rfl,tt,tt⟩ (hI m c gm 0 (dp+1) _ (b++(nm++[40])++F3 [44,32] (K0 ps ch []) m) _ trivial om_ om_ c6S _ _ _ ⟨rfl,by cases ph <;> rfl,by cases ph <;> exact n_2 rfl⟩) rfl ?_);rintro d3 _;dsimp only;refine c8 [C4 TW 0 5 true (b++(nm++[40])++F3 [44,32] (K0 ps ch []) m++c.txt ps 0) (WR E ps en pn d3),.dead,.box (Ex.cells ⟨k,u,o,nm,r3 ch s⟩),.dead,.dead,w9 tU8 (b++(nm++[40])++F3 [44,32] (K0 ps ch []) m++c.txt ps 0).length] R9 ?_; refine a2F ?_;exact ⟨(m+1,true,d3),[0,1,2,3,5],do_,⟨rfl,rfl⟩,c2N,⟨.inr ⟨_,rfl,a6t de_ rfl (C5 _ _ _ _ _) (by rw [es]; simp only [n_9,a7u])⟩,.inl rfl,.inr ⟨_,rfl,.same rfl b7c⟩,.inl rfl,.inr ⟨_,rfl,Q7 (by rw [es]; simp only [n_9,a7u])⟩,tt⟩⟩
       ·have hme:m=ch.length:=by simp at h9; omega
        subst hme;have ej:F3 [44,32] (K0 ps ch []) ch.length=I9 [44,32] (K0 ps ch []):=by rw [F3,Y9 (by rw [b1I]; exact n_4 _)]
        rw [ej];refine z6 ?_; refine z_5 ?_; refine cY J2 ?_; refine cY b03 ?_;refine cD (b9 rfl b9R o6 (a03 a12 _ (b++(nm++[40])++I9 [44,32] (K0 ps ch [])) (C5 _ _ _ _ _) 41 (by simp only [J4,n_7,I7] at hbn ⊢; omega) ⟨rfl,by cases ph <;> rfl,by cases ph <;> exact n_2 rfl⟩) rfl ?_);intro _ _; refine c8 [C4 TW 0 5 true (b++(nm++[40])++I9 [44,32] (K0 ps ch [])++[41]) (WR E ps en pn d'),.dead,.box (Ex.cells ⟨k,u,o,nm,r3 ch s⟩),.dead,.dead,w9 tU8 (b++(nm++[40])++I9 [44,32] (K0 ps ch [])++[41]).length] R9 ?_; refine i7 ?_;exact ⟨_,l9 (rs:=[]) (cs:=[]) rfl tt (n_2 rfl),⟨d',d6a,tt⟩⟩
      ·have u8:¬ k=3:=by simpa using h8
       refine K1 ?_; refine cC (fun h11=>?_) fun h11=>?_
       ·refine J7 [C4 TW 0 1 a b (WR E ps en pn (max d dp)),w9 tU8 b.length,.box (Ex.cells ⟨k,u,o,nm,r3 ch s⟩)] rfl ?_;have u11:k=6:=by simpa using h11
        have hch:ch.length=1:=by have:=hn.cnt; rw [if_neg u4,if_neg u6,if_pos u11] at this; exact this
        obtain ⟨c0,g0⟩:=a6D (m:=0) hch de_;have hz0:=a2T g0;have eT:T=([114,101,97,100,40,34]++nm++[34,44,32])++c0.txt ps 0++[41]:=by
         rw [hT,ndT,if_neg om_,if_neg om_,if_neg om_,if_neg om_,if_neg om_,if_pos u11,ep]; simp only [a2A,a0E ps ch _ 0 c0 g0,a6f]; simp
        rw [eT] at hb;have hbn:=hb;simp only [J4,n_7,I7] at hbn;refine w8 ?_; refine B4 7 [0,1,3,0,8,24,56,127] d5 d5 rfl ?_; refine b3E ?_; refine hY c0x ?_; refine hY Y2 ?_; refine hY (I6 rfl rfl tt rfl rfl (by show 6+nm.length<=_; omega)) ?_; refine hY (I6 rfl tt rfl rfl rfl (by show ([114,101,97,100,40,34]++nm:Str).length+3<=_; rw [J4]; simp; omega)) ?_; refine N3 ?_;refine cD (b9 rfl a2d j1 (s0 a12 _ (b) (C5 _ _ _ _ _) ([114,101,97,100,40,34]++nm++[34,44,32]) a4b ⟨rfl,rfl,n_2 rfl⟩) rfl ?_);intro _ _; refine c8 [C4 TW 0 3 true (b++([114,101,97,100,40,34]++nm++[34,44,32])) (WR E ps en pn (max d dp)),.dead,.box (Ex.cells ⟨k,u,o,nm,r3 ch s⟩),w9 tU8 (b++([114,101,97,100,40,34]++nm++[34,44,32])).length] rfl ?_; refine O3 ?_; refine a52 ?_; refine cY c1A ?_; refine cY a3D ?_; refine a8H ?_;refine cD (b9 rfl b1Y ⟨tt,tt,rfl,tt,tt⟩ (hI 0 c0 g0 (0) (dp+1) _ (b++([114,101,97,100,40,34]++nm++[34,44,32])) _ trivial om_ om_ a4b _ _ _ ⟨rfl,rfl,n_2 rfl⟩) rfl ?_);rintro d3 _;dsimp only;refine c8 [C4 TW 0 4 true (b++([114,101,97,100,40,34]++nm++[34,44,32])++c0.txt ps 0) (WR E ps en pn d3),.dead,.box (Ex.cells ⟨k,u,o,nm,r3 ch s⟩),.dead,w9 tU8 (b++([114,101,97,100,40,34]++nm++[34,44,32])++c0.txt ps 0).length] rfl ?_; refine i7 ?_; refine z_5 ?_; refine cY J2 ?_; refine cY b03 ?_;refine cD (b9 rfl b9R o6 (a03 a12 _ (b++([114,101,97,100,40,34]++nm++[34,44,32])++c0.txt ps 0) (C5 _ _ _ _ _) 41 a4b ⟨rfl,rfl,n_2 rfl⟩) rfl ?_);intro _ _; refine i7 ?_;exact ⟨_,l9 (rs:=[]) (cs:=[]) rfl tt (n_2 rfl),⟨d3,d6a,tt⟩⟩
       ·have u11:¬ k=6:=by simpa using h11
        refine K1 ?_; refine cC (fun h12=>?_) fun h12=>?_
        ·refine J7 [C4 TW 0 1 a b (WR E ps en pn (max d dp)),w9 tU8 b.length,.box (Ex.cells ⟨k,u,o,nm,r3 ch s⟩)] rfl ?_;have u12:k=10:=by simpa using h12
         have hr12:=hn.k10 u12;have eT:T=[102,108,105,112,40]++Lib.itoa u++[41]:=by
          rw [hT,ndT,if_neg om_,if_neg om_,if_neg om_,if_neg om_,if_neg om_,if_neg om_,if_pos u12]
         rw [eT] at hb;have hil:=a6O (n:=u) om_ om_;refine B4 8 [0,1,3,0,8,24,56,120,255] d5 d5 rfl ?_; refine b3E ?_; refine b7i ?_; refine hY (c7 rfl c50 ⟨tt,tt⟩ (b9C u om_ om_ _) rfl) ?_; refine hY (I6 rfl rfl tt rfl rfl (by show 5+(Lib.itoa u).length<=_; omega)) ?_; refine hY (I6 rfl tt rfl rfl rfl (by show ([102,108,105,112,40]++Lib.itoa u:Str).length+1<=_; rw [J4]; simp; omega)) ?_; refine N3 ?_;refine cD (b9 rfl a2d j1 (s0 a12 _ (b) (C5 _ _ _ _ _) ([102,108,105,112,40]++Lib.itoa u++[41]) a4b ⟨rfl,rfl,n_2 rfl⟩) rfl ?_);intro _ _;exact c8H
        ·refine J7 [C4 TW 0 1 a b (WR E ps en pn (max d dp)),w9 tU8 b.length,.box (Ex.cells ⟨k,u,o,nm,r3 ch s⟩)] rfl ?_;have u12:¬ k=10:=by simpa using h12
         have eT:T=b1l k++[40,34]++nm++[34,41]:=by
          rw [hT,ndT,if_neg om_,if_neg om_,if_neg om_,if_neg om_,if_neg om_,if_neg om_,if_neg om_]; simp only [n_9]
         rw [eT] at hb;have hbn:=hb;simp only [J4,n_7,I7] at hbn;have hwl:=b3J k;refine z_0 ?_;refine cD (X9 rfl ?_);refine cD (k8 (vc:=sv) (l:=W0.take 0) (a:=7) (b:=[115,105,122,101]) Z9 (.inr rfl) tt rfl rfl rfl rfl rfl a1Q rfl ?_);refine cD (k8 (vc:=sv) (l:=W0.take 1) (a:=8) (b:=[104,97,115]) Z9 (.inr rfl) tt rfl rfl rfl rfl rfl a1Q rfl ?_);refine cD (k8 (vc:=sv) (l:=W0.take 2) (a:=9) (b:=[101,110,118]) Z9 (.inr rfl) tt rfl rfl rfl rfl rfl a1Q rfl ?_);refine cY j7 ?_; refine b6l ?_; refine cY (P9 (vc:=sv) (l:=W0) (a:=k) Z9 rfl tt tt rfl rfl a1Q t_3 rfl rfl ((a40 ([]:Str) rfl _).trans (congrArg sv (c5C k)))) ?_; refine z_2 ?_; refine B4 9 [0,1,3,0,8,0,32,120,248,511] d5 d5 rfl ?_; refine b3E ?_; refine hY j7 ?_; refine hY (I6 rfl tt rfl rfl rfl (by first|omega|(simp only [n_7,I7]; omega))) ?_; refine hY c0x ?_; refine hY Y2 ?_; refine hY (I6 rfl tt tt rfl rfl (by first|omega|(simp only [J4,n_7,I7]; omega))) ?_; refine hY (I6 rfl tt rfl rfl rfl (by first|omega|(simp only [J4,n_7,I7]; omega))) ?_; refine N3 ?_;refine cD (b9 rfl a2d j1 (s0 a12 _ (b) (C5 _ _ _ _ _) (b1l k++[40,34]++nm++[34,41]) a4b ⟨rfl,rfl,n_2 rfl⟩) rfl ?_);intro _ _; refine i7 ?_;exact ⟨_,l9 (rs:=[]) (cs:=[]) rfl tt (n_2 rfl),⟨(max d dp),(by rw [eT]; exact b3a (k:=4) rfl rfl de_ (C5 _ _ _ _ _) a2o),tt⟩⟩
theorem c3U (hAt:b4C E (.n k u o nm ch) s) (T:Str) (pl dp:Int) (hpl:a9J k o < pl) (hd0:0<=dp) (hd:dp+2*((t8 ch+1:Nat):Int)+1<=1000000000) (a:Bool) (b:Str) (d:Int) (hb:b.length+([40]++T++[41]:Str).length<=100000000000000)
 (hW:∀ (dp:Int) (a:Bool) (b:Str) (d:Int),0<=dp->dp+2*((t8 ch+1:Nat):Int)<=1000000000->b.length+T.length<=100000000000000->∀ (σ:List c5) (q k:Nat),BAt σ q k TW a b (WR E ps en pn d) ->
  b8 CC 284 [.ptr q 0,.val (.int .i64 ((s+t8 ch:Nat):Int)),.val (.int .i64 0),.val (.int .i64 dp)] σ fun r τ=>∃ d':Int,r = .ret (.tup [])/\τ=(σ.set q (C4 TW q σ.length true (b++T) (WR E ps en pn d'))).set k .dead++[w9 tU8 (b++T).length]/\True) :
 b8 CC 284 [.ptr 0 0,(.val (.int .i64 ((s+t8 ch:Nat):Int))),(.val (.int .i64 pl)),(.val (.int .i64 dp))] (bSt TW a b (WR E ps en pn d)) fun r τ=>∃ d':Int,C6 2 τ r (.ret (.tup [])) (a8r TW (b++([40]++T++[41])) (WR E ps en pn d'))/\True:=by
 refine (c4 Tryz.func284 rfl rfl ?_);refine a4R ?_; refine d1Z ?_; refine d2v ?_; refine cY c8L ?_; refine c6q ?_; refine a2i ?_; refine d0Y ?_; refine cY j7 ?_; refine a9A ?_; refine cC (fun h1=>?_) fun h1=>?_
 ·refine J7 [C4 TW 0 1 a b (WR E ps en pn d),w9 tU8 b.length,.box (Ex.cells ⟨k,u,o,nm,r3 ch s⟩)] rfl ?_; refine a4R ?_; refine cY b03 ?_;refine cD (b9 rfl b9R o6 (a03 a12 _ (b) (C5 _ _ _ _ _) 40 a4b ⟨rfl,rfl,n_2 rfl⟩) rfl ?_);intro _ _; refine c8 [C4 TW 0 3 true (b++[40]) (WR E ps en pn d),.dead,.box (Ex.cells ⟨k,u,o,nm,r3 ch s⟩),w9 tU8 (b++[40]).length] rfl ?_; refine i7 ?_; refine a0n ?_; refine cY S8 ?_;refine cD (b9 rfl b1Y ⟨tt,tt,rfl,tt,tt⟩ (hW (dp+1) true (b++[40]) d om_ om_ a4b _ 0 3 ⟨rfl,rfl,n_2 rfl⟩) rfl ?_);rintro d1 _;dsimp only;refine c8 [C4 TW 0 4 true (b++[40]++T) (WR E ps en pn d1),.dead,.box (Ex.cells ⟨k,u,o,nm,r3 ch s⟩),.dead,w9 tU8 (b++[40]++T).length] rfl ?_; refine b48 ?_; refine cY b03 ?_;refine cD (b9 rfl b9R o6 (a03 a12 _ (b++[40]++T) (C5 _ _ _ _ _) 41 a4b ⟨rfl,rfl,n_2 rfl⟩) rfl ?_);intro _ _; refine b1p ?_;exact ⟨_,l9 (rs:=[]) (cs:=[]) rfl tt (n_2 rfl),⟨d1,(by simp only [<- n_9]; exact b3a (k:=5) rfl rfl de_ (C5 _ _ _ _ _) a2o),tt⟩⟩
 ·exact absurd hpl a4h
theorem b92 {np d:Nat}:∀ {l:List Tr} {m:Nat} {c:Tr},wfL np d l->l[m]? = some c->c.wf np d
 | [],_,_,_,h=>by simp at h
 | t::l,0,c,h,hc=>by rw [wfL] at h; injection hc with hc; subst hc; exact h.1
 | t::l,m+1,c,h,hc=>by rw [wfL] at h; exact b92 h.2 (by simpa using hc)
theorem c65 (k o:Int):0<=a9J k o:=by
 unfold a9J
 split; decide
 split
 ·have:=b7F o; omega
 ·decide
theorem b5Q {E:List Ex} {ps:List Str} {en pn:Bool} (hE:E.length<=1000000):∀ (n:Nat) (t:Tr) (s:Nat),t.size<=n->b4C E t s->(∃ d,t.wf ps.length d)->WEG E ps en pn t s (fun _=>True)
 | 0,t,_,h,_,_=>by have:=t.size_pos; omega
 | n+1,.n k u o nm ch,s,hsz,hAt,⟨dd,hw⟩=>by
  rw [Tr.wf] at hw;obtain ⟨_,hn,hwl⟩:=hw;have hI:∀ m c,ch[m]? = some c->WEG E ps en pn c (s+t8 (ch.take m)) (fun _=>True):=fun m c hc=>by
   have:=a2T hc;rw [Tr.size] at hsz;exact b5Q hE n c _ om_ (hAt.child hc) ⟨_,b92 hwl hc⟩
  intro pl dp a b d _ hd0 hd hb σ q k' hσ;rw [Tr.size] at hd ⊢;rw [show s+(t8 ch+1) - 1=s+t8 ch by omega];rw [Tr.txt] at hb ⊢;by_cases hpl:a9J k o < pl
  ·rw [if_pos hpl] at hb ⊢;refine b1k (c3U hAt (ndT ps k u o nm (K0 ps ch (a9o k o))) pl dp hpl hd0 om_ a b d hb fun dp' a' b' d' h0 h1 h2 σ' q' k'' hσ'=>?_) σ q k' hσ;have hp0:=c65 k o;exact b1k (b3g hAt hn hE hI _ rfl 0 dp' om_ h0 h1 a' b' d' h2) σ' q' k'' hσ'
  ·rw [if_neg hpl] at hb ⊢;exact b1k (b3g hAt hn hE hI _ rfl pl dp hpl hd0 om_ a b d hb) σ q k' hσ
def a9C (cs:List Str):Nat:=(cs.map List.length).sum
theorem c4h (cs:List Str):(cs.getD 0 []).length+(cs.getD 1 []).length+(cs.getD 2 []).length<=a9C cs:=by
 rcases cs with _ | ⟨a,_ | ⟨b,_ | ⟨c,l⟩⟩⟩ <;> simp [a9C,List.getD] <;> omega
theorem a5d (sep:Str):∀ cs:List Str,(I9 sep cs).length<=a9C cs+sep.length*cs.length
 | []=>by simp [I9]
 | [x]=>by simp [I9,a9C]
 | x::y::l=>by
  have:=a5d sep (y::l);simp only [I9,n_6,a9C,a9D,List.sum_cons,n_7,Nat.mul_add] at this ⊢;omega
theorem c9W (hp:∀ s∈ps,s.length<=80) {c:Nat} (hn:a0O ps.length k u o nm c) (cs:List Str):(ndT ps k u o nm cs).length<=a9C cs+2*cs.length+290:=by
 have hg:=c4h cs;have hj:=a5d [44,32] cs;have hs:=c1w o;have hw:=b3J k;have hnm:=hn.len;have e2:([44,32]:Str).length=2:=rfl;rw [e2] at hj;unfold ndT
 split
 ·rename_i h1;have:=hn.k1 h1;have:=a6O (n:=u) om_ om_;omega
 split
 ·have:(ps.getD u.toNat []).length<=80:=by
   rw [a2A];cases hh:ps[u.toNat]? with
   | none=>exact n_3 _
   | some x=>exact hp x (n_1 hh)
  omega
 split
 ·simp only [n_6,n_7,I7]; omega
 split
 ·simp only [n_6,n_7,I7]; omega
 split
 ·simp only [n_6,n_7,I7]; omega
 split
 ·simp only [n_6,n_7,I7]; omega
 split
 ·rename_i h10;have:=hn.k10 h10;have:=a6O (n:=u) om_ om_;simp only [n_6,n_7,I7]; omega
 ·simp only [n_6,n_7,I7]; omega
mutual
theorem Tr.txt_len {ps:List Str} (hp:∀ s∈ps,s.length<=80):∀ (t:Tr) (d:Nat) (pl:Int),t.wf ps.length d->(t.txt ps pl).length+2<=300*t.size
 | .n k u o nm ch,d,pl,h=>by
  rw [Tr.wf] at h;have h1:=c9W hp h.2.1 (K0 ps ch (a9o k o));have h2:=b28 hp ch _ (a9o k o) h.2.2;rw [b1I] at h1;rw [Tr.txt,Tr.size];have:([40]++ndT ps k u o nm (K0 ps ch (a9o k o))++[41]:Str).length=(ndT ps k u o nm (K0 ps ch (a9o k o))).length+2:=by simp
  split
  ·rw [this]; omega
  ·omega
theorem b28 {ps:List Str} (hp:∀ s∈ps,s.length<=80):∀ (l:List Tr) (d:Nat) (pls:List Int),wfL ps.length d l->a9C (K0 ps l pls)+2*l.length<=300*t8 l
 | [],_,_,_=>by simp [K0,a9C]
 | t::l,d,pls,h=>by
  rw [wfL] at h;have h1:=Tr.txt_len hp t d (pls.headD 0) h.1;have h2:=b28 hp l d pls.tail h.2;rw [K0,t8];simp only [a9C,a9D,List.sum_cons,n_7] at h2 ⊢;omega
end
theorem c2r (en pn:Bool) (hE:E.length<=1000000) (t:Tr) (ht:E=t.flat 0) (hw:∃ d,t.wf ps.length d) (hp:∀ s∈ps,s.length<=80):b8 CC 245 [(.list (E.map Ex.cv) en none),(.list (ps.map scv) pn none)] [] fun r τ=>∃ d:Int,a08 0 τ r (.ret (.tup [sv (t.txt ps 0),.val (.int .i64 d)]))/\True:=by
 have hsz:E.length=t.size:=by rw [ht,Tr.flat_len]
 have hpos:=t.size_pos;have hAt:b4C E t 0:=⟨[],[],by rw [ht]; simp,rfl⟩;obtain ⟨dd,hwd⟩:=hw;have htl:=t.txt_len hp dd 0 hwd;have hx:=b5Q (en:=en) (pn:=pn) hE t.size t 0 (n_4 _) hAt ⟨dd,hwd⟩ 0 1 false [] 0 trivial om_ om_ (by simp only [I7]; omega) ([C4 TW 0 1 false [] (WR E ps en pn 0)]++[.dead]) 0 1 ⟨rfl,rfl,n_2 rfl⟩;replace hx:=a0I hx;rw [show ((0+t.size - 1:Nat):Int)=(E.length:Int) - 1 by omega] at hx;simp only [a7u] at hx;refine (c4 Tryz.func245 rfl rfl ?_);refine z_0 ?_; refine a0w ?_; refine z_4 ?_; refine cY (x9 #[(0,2),(2,1),(3,1),(4,1)] rfl j1 b8J Tryz.zeroValue309 rfl ⟨_,rfl⟩ (fun w=>by kernel_rfl) rfl rfl) ?_;refine cD (d4j rfl tt c6 o4 ?_);refine a7J ?_; refine cY d1I ?_; refine cY a4K ?_;refine cD (b9 rfl b1Y ⟨tt,tt,rfl,rfl,tt⟩ (hx) rfl ?_);rintro d1 _;dsimp only;refine z_8 ?_; refine B5 [0,1,2,4,5,6,7,3,8,9] 7 [0,1,3,7,0,16,48,112,15,511] [[3,4,5,6],[3,4,5,6],[]] (hd1l:=[0,1,2,4,5,6,7]) (tll:=[(3,[3,4,5,6]),(8,[3,4,5,6]),(9,[])]) d5 d5 rfl rfl rfl ?_; refine a8d ?_; refine chf rfl c4L ?_; refine a8d ?_; refine chf rfl (d6 rfl b5F) ?_; refine chf rfl b2n ?_; refine D2 ?_;refine A9 rfl rfl (b9 rfl b7P ⟨tt,tt⟩ (a2Y (rest:=WR E ps en pn d1) (T:=TW) (C5 _ _ _ _ _) true _ (q:=0) (k:=2) ⟨rfl,rfl,n_2 rfl⟩) rfl ?_);intro _ _;refine ⟨⟨C8,a1K,(by exact d6 rfl b5F),b3x,tt⟩,?_⟩;refine D5 rfl c0r ⟨⟨C8,a1K,(by exact d6 rfl b5F),b3x,tt⟩,?_⟩;refine a9f ?_; refine G3 ?_;exact ⟨_,l9 (rs:=[.tmp 4,.tmp 5]) (cs:=[_,_]) rfl V9 (n_2 rfl),⟨d1,.ret (.old (B2 (cs:=[sv (t.txt ps 0),.val (.int .i64 d1)]) ⟨.val _,.val _,tt⟩).old),tt⟩⟩
theorem c68 (en pn:Bool) (hE:E.length<=1000000) (t:Tr) (ht:E=t.flat 0) (hw:∃ d,t.wf ps.length d) (hp:∀ s∈ps,s.length<=80) (σ:List c5):b8 CC 245 [(.list (E.map Ex.cv) en none),(.list (ps.map scv) pn none)] σ fun r τ=>∃ d:Int,r = .ret (.tup [sv (t.txt ps 0),.val (.int .i64 d)])/\τ=σ/\True :=
 E9 (res:=fun d:Int=>.ret (.tup [sv (t.txt ps 0),.val (.int .i64 d)])) (P:=fun _=>True) hCC (fun c hc=>by simp at hc; rcases hc with rfl | rfl; exact a2D _ _; exact F7 _ _) (c2r en pn hE t ht hw hp) (fun d _=>B2 ⟨.val _,.val _,tt⟩) σ
abbrev tSB:Nat:=244
theorem a4I:a4i tSB 2:=by unfold a4i; kernel_rfl
def d3D (T:TypeId) (rest:List CV):List c5:=[.boxT (some T) (.ptr 0 0::.list [] true (some 2)::rest),.dead,.tipT (some tU8) 0]
theorem c6k {c:CV} {obs:List c5}:b8 CC 246 [.ptr 0 0] (.boxT (some T) (.ptr 0 0::c::rest)::obs) fun r τ=>∃ _:Unit,r = .ret (.tup [])/\τ = .boxT (some T) (.ptr 0 0::c::rest)::obs/\True:=by
 refine c6v ?_; refine b7A ?_; refine cY (b5P rfl tt rfl c37) ?_; refine i7 ?_; refine cC (fun h1=>?_) fun h1=>?_
 ·cases h1
 ·refine a4R ?_; refine b7A ?_; refine cY j7 ?_; refine cY (b3h rfl tt tt rfl rfl 244 d5 d5) ?_; refine i7 ?_; refine cC (fun h2=>?_) fun h2=>?_
  ·cases h2
  ·refine i8 ?_;exact ⟨_,l9 (rs:=[]) (cs:=[]) rfl tt (n_2 rfl),⟨(),rfl,rfl,tt⟩⟩
theorem c9R (n:Nat) (h1:1<=n) (h2:n<=1000000000):b8 CC 286 [.ptr 0 0,.val (.int .i64 (n:Int))] [.boxT (some T) (.ptr 0 0::.list [] false none::rest),.dead] fun r τ=>∃ _:Unit,r = .ret (.tup [])/\τ=d3D T rest/\True:=by
 refine (c4 Tryz.func286 rfl rfl ?_);refine w8 ?_; refine B5 [0,1,2,3,4,5,6,7,9,10,11,12,13,8,14,15] 13 [0,1,3,7,15,31,0,127,255,0,512,1536,3584,7680,16383,32767] [[8,9,10,11,12],[],[]] (hd1l:=[0,1,2,3,4,5,6,7,9,10,11,12,13]) (tll:=[(8,[8,9,10,11,12]),(14,[]),(15,[])]) d5 d5 rfl rfl rfl ?_; refine a8d ?_; refine chf rfl (d6 rfl a7b) ?_; refine chf rfl (d6 rfl a8E) ?_; refine chf rfl (d6 rfl (c7a rfl tt rfl t_7)) ?_; refine chf rfl (d6 rfl (b54 rfl rfl tt rfl rfl om_ om_)) ?_; refine chf rfl U4 ?_; refine chf rfl (d6 rfl a5S) ?_; refine a8d ?_; refine chf rfl (d6 rfl a7b) ?_; refine chf rfl (d6 rfl a8E) ?_; refine chf rfl (d6 rfl a9d) ?_; refine D2 ?_;refine A9 rfl rfl (b36 (t:=149) (e:=5) rfl Tryz.func308 rfl rfl rfl rfl d5 tt (congrArg (fun z:Int=>CV.val (.int .i64 z)) (show (2*0+(n:Int))=n by omega)) om_ ?_);refine ⟨⟨C8,a1K,(by exact d6 rfl a7b),(by exact d6 rfl a8E),(by exact d6 rfl a9d),tt⟩,?_⟩;refine D5 rfl (d6 rfl (b7C rfl tt tt rfl rfl h1 t_7 a25)) ⟨tt,?_⟩;refine a9f ?_; refine z_4 ?_; refine cY J2 ?_; refine cY a7b ?_; refine cY a8E ?_;refine cD (c93 rfl tt tt rfl rfl t_7 a25 ?_);refine i7 ?_; refine R7 ?_; refine cY J2 ?_; refine b97 ?_;exact d2g
theorem c9O (hT:a4i T (rest.length+2)) (n:Nat) (hn1:1<=n) (hn2:n<=1000000000):b8 CC 247 [.ptr 0 0,.val (.int .i64 (n:Int))] (bSt T false [] rest) fun r τ=>∃ _:Unit,r = .ret (.tup [])/\τ=d3D T rest/\True:=by
 refine (c4 Tryz.func247 rfl rfl ?_);refine z_1 ?_;refine cD (b9 rfl c0J ⟨tt,tt⟩ (b4g hT false []) rfl ?_);intro _ _; refine a2s ?_; refine G9 ?_; refine cC (fun h1=>?_) fun h1=>?_
 ·exact absurd (of_decide_eq_true h1) om_
 ·refine z_9 ?_; refine B4 13 [0,1,3,7,15,0,32,96,224,480,1023,0,4095] d5 d5 rfl ?_; refine b2l ?_; refine hY (c7a rfl tt rfl t_7) ?_; refine b2l ?_; refine hY a9d ?_; refine hY (a63 rfl tt tt rfl rfl si_ si_) ?_; refine hY j7 ?_; refine hY a2B ?_; refine a6T ?_; refine cC (fun h2=>?_) fun h2=>?_
  ·refine R7 ?_;refine cD (b9 rfl Tryz.call286 j1 (c9R n hn1 hn2) rfl ?_);intro _ _;exact d2g
  ·exact absurd (of_decide_eq_false h2) (by show ¬ ¬ (0 - 0:Int) < n; omega)
theorem a9F (s:Str) (hs:s≠[]) (hl:s.length<=140737488355328):b8 CC 200 [.ptr 0 0,sv s] (d3D T rest) fun r τ=>∃ _:Unit,r = .ret (.tup [.val (.int .i64 s.length),.val .nilIface])/\τ=[C4 T 0 3 true s rest,.dead,.dead,w9 tU8 s.length]/\True:=by
 refine (c4 Tryz.func200 rfl rfl ?_);refine z_0 ?_; refine a0w ?_; refine z_1 ?_;refine cD (b9 rfl c0J ⟨tt,tt⟩ (c6k) rfl ?_);intro _ _; refine a4s ?_; refine cY J2 ?_; refine cY a7b ?_; refine cY a8E ?_; refine cY j7 ?_;refine cD (d0E (new:=s) (p:=2) rfl tt tt rfl (b8Z rfl) t_7 a25 b42 a7M rfl (.inr t_4) rfl rfl hs b2R ?_);refine cY J2 ?_; refine b97 ?_; refine O3 ?_; refine cY V4 ?_;exact d0L
theorem c9y {a b:Int} (hb:0 < b) (h1:0<=a) (h2:a<=9223372036854775807):b4k .quo .i64 a b=some (.int .i64 (a.tdiv b)):=by
 have hne:b≠0:=by omega
 have h0:0<=a.tdiv b:=Int.tdiv_nonneg h1 om_;have h3:a.tdiv b<=a:=by rw [c47 h1]; exact Int.ediv_le_self b h1
 simp only [b4k,if_neg hne];rw [b1L om_ om_]
theorem c8b {sep:Str} {n:Int} (hs2:sep.length=2) (h1:0 < n) (h2:n<=1000):¬ (9223372036854775807:Int).tdiv n<=(sep.length:Int):=by
 rw [hs2,c47 de_];have:=Int.le_ediv_of_mul_le h1 (show 1000000*n<=9223372036854775807 by omega);omega
theorem List.take_one_eq {α:Type} {l:List α} {x:α} (h:l[0]? = some x):l.take (0+1)=[x]:=by
 cases l with
 | nil=>simp at h
 | cons a l=>simp at h; subst h; rfl
theorem b1y {sep:Str} {l:List Str} (hs:sep.length=2) (hl:∀ s∈l,1<=s.length/\s.length<=1000):∀ m,(F3 sep l m).length<=m*1002
 | 0=>by simp [F3,I9]
 | m+1=>by
  have ih:=b1y (sep:=sep) (l:=l) hs hl m;cases hg:l[m]? with
  | none =>
   have:l.length<=m:=by simpa using hg
   have e:F3 sep l (m+1)=F3 sep l m:=by unfold F3; rw [Y9 (show l.length<=m+1 by omega),Y9 (show l.length<=m by omega)]
   rw [e]; exact b83 ih (Q3 _ (Nat.le_succ m))
  | some y =>
   have:=(hl y (n_1 hg)).2;rw [a6q hg,n_6,n_6]
   split
   ·simp; omega
   ·omega
theorem b00 (l:List Str) (nn:Bool) (sep:Str) (hs2:sep.length=2) (hl:l.length<=1000) (hl2:∀ s∈l,1<=s.length/\s.length<=1000) (σ:List c5):b8 CC 201 [(.list (l.map scv) nn none),(sv sep)] σ fun r σ'=>r = .ret (sv (I9 sep l))/\σ'=σ:=by
 refine b8.anyw hCC pu_ pu_ ?_ σ;refine d4 (c4 Tryz.func201 rfl rfl ?_);refine a04 ?_; refine cY a4N ?_; refine a8R ?_; refine cC (fun h1=>?_) fun h1=>?_
 ·have h0:l=[]:=by simpa using h1
  refine G5 ?_;exact ⟨_,j5 rfl tt c6,_,_,rfl,rfl,a0q (by rw [h0]; rfl)⟩
 ·have h1':¬ l.length=0:=by simp at h1; simpa using h1
  refine K1 ?_; refine cC (fun h2=>?_) fun h2=>?_
  ·have h1l:l.length=1:=by simp at h2; omega
   obtain ⟨e0,he0⟩:∃ e0,l=[e0]:=by
    rcases l with _ | ⟨a,_ | ⟨b,l⟩⟩
    ·simp at h1l
    ·exact ⟨a,rfl⟩
    ·simp at h1l
   have g0:l[0]? = some e0:=by rw [he0]; rfl
   refine z_1 ?_; refine d2l ?_; refine z_7 ?_;exact ⟨_,j5 rfl tt c6,_,_,rfl,rfl,a0q (by rw [he0]; rfl)⟩
  ·have h2l:2<=l.length:=by
    have:¬ (l.length:Int)=1:=by simpa using h2
    omega
   refine i8 ?_; refine z_6 ?_; refine W7 hCC (α:=Nat) (fun n=>[(0,(.list (l.map scv) nn none)),(1,(sv sep)),(5,(.val (.int .i64 (n:Int))))]) (fun _=>[]) (fun n=>1<=n/\n<=2000) A1 uz_ ?_ ?_
   ·
    refine z_1 ?_; refine a84 ?_; refine cC (fun h3=>?_) fun h3=>?_
    ·refine a3c ?_; refine b2O ?_; refine cY a4N ?_; refine cY a4K ?_; refine cY (a2E rfl rfl tt rfl rfl (c9y om_ om_ om_)) ?_; refine a9A ?_; refine cC (fun h4=>?_) fun h4=>?_
     ·exact absurd (of_decide_eq_true h4) (c8b hs2 om_ om_)
     ·have hmm:(sep.length:Int)*((l.length:Int) - 1)=2*((l.length:Int) - 1):=by rw [hs2]; rfl
      refine i8 ?_; refine R7 ?_; refine b2O ?_; refine cY a4N ?_; refine cY a4K ?_; refine cY (b54 rfl tt tt rfl rfl (by rw [hmm]; omega) (by rw [hmm]; omega)) ?_; refine cY a5S ?_; refine z_2 ?_;exact ⟨(2*(l.length - 1)),_,⟨om_,om_⟩,⟨B0,B0,⟨tt,(congrArg (fun z:Int=>CV.val (.int .i64 z)) (show (0+(sep.length:Int)*((l.length:Int) - 1))=((2*(l.length - 1):Nat):Int) by rw [hmm]; omega))⟩,tt⟩,rfl⟩
    ·exact absurd (of_decide_eq_false h3) (by show ¬ ¬ (0:Int) < sep.length; rw [hs2]; decide)
   ·intro n ⟨hn1,hn2⟩; refine a3c ?_; refine a0W ?_; refine o0 hCC (α:=Nat × Nat) (fun x=>[(0,(.list (l.map scv) nn none)),(1,(sv sep)),(5,(.val (.int .i64 (x.2:Int)))),(39,(.list (l.map scv) nn none)),(40,(.val (.int .i64 (l.length:Int)))),(41,(.val (.int .i64 (x.1:Int))))]) (fun _=>[]) (fun x=>x.1<=l.length/\1<=x.2/\x.2<=2000+1000*x.1) (fun x=>l.length - x.1) (0,n) ⟨n_3 _,hn1,om_⟩ tu_ (extra0:=[]) rfl A1 uz_ ?_; intro ⟨i,n'⟩ ⟨hi,hn1',hn2'⟩;dsimp only at hi hn1' hn2' ⊢;refine F2 ?_; refine cC (fun h5=>?_) fun h5=>?_
    ·have hlt:i < l.length:=by simp at h5; omega
     obtain ⟨y,hy⟩:∃ y,l[i]? = some y:=⟨l[i]'hlt,si_⟩;have hyl:=hl2 y (n_1 hy);refine a1O ?_; refine cY c5g ?_; refine cY a0T ?_; refine a4a ?_; refine b2O ?_; refine cY (a63 rfl rfl tt rfl rfl om_ om_) ?_; refine a9A ?_; refine cC (fun h6=>?_) fun h6=>?_
     ·exact absurd (of_decide_eq_true h6) om_
     ·refine i8 ?_; refine R7 ?_; refine cY V4 ?_; refine cY a5S ?_; refine a8G ?_;exact ⟨(i+1,n'+y.length),_,⟨do_,do_,do_,do_⟩,tu_,rfl⟩
    ·have hie:i=l.length:=by simp at h5; omega
     obtain ⟨e0,g0⟩:∃ e0,l[0]? = some e0:=⟨l[0]'om_,si_⟩;have he0:=hl2 e0 (n_1 g0);refine Z5 ?_;refine cD (b4Y rfl Tryz.zeroValue244 rfl o4 ?_);refine O3 ?_;refine cD (b9 rfl Tryz.call247 j1 ((a0I (c9O a4I n' hn1' om_))) rfl ?_);intro _ _; refine O3 ?_; refine d2l ?_;refine cD (b9 rfl a2d j1 (a9F e0 (by intro h; rw [h] at he0; simp at he0) om_) rfl ?_);intro _ _; refine a2s ?_; refine cY (b4M (l:=1) rfl tt rfl t_2 t_0 c6i ⟨rfl,_,_,rfl,om_,om_⟩ rfl a9a si_) ?_; refine a0W ?_; refine A2 hCC 4 rfl (α:=Nat × Bool) (fun x=>[(1,(sv sep)),(8,.ptr 0 0),(63,(.list ((l.drop 1).map scv) nn none)),(64,(.val (.int .i64 ((l.length - 1:Nat):Int)))),(65,(.val (.int .i64 (x.1:Int))))]) (fun x=>[C4 tSB 0 (kp x.2) true (F3 sep l (x.1+1)) [],.dead,.dead,op1 x.2 (F3 sep l (x.1+1)).length,op2 x.2 (F3 sep l (x.1+1)).length]) (fun x=>x.1+1<=l.length) (fun x=>l.length - x.1) ⟨(0,false),[0,1,2,3,7],(show 0+1<=l.length by omega),⟨rfl,rfl⟩,⟨d42,d42,⟨tt,(by first|exact .ptr rfl|exact .map rfl|exact .vec rfl|exact .same (show CV.list (((l.map scv).take (l.map scv).length).drop 1) nn none=_ from by rw [Y9 (n_4 _),List.map_drop]) uo_)⟩,⟨tt,(by first|exact .ptr rfl|exact .map rfl|exact .vec rfl|exact .same (show CV.val (.int .i64 ((((l.map scv).take (l.map scv).length).drop 1).length:Int))=_ from by simp) uo_)⟩,d42,tt⟩,⟨.inr ⟨_,rfl,a6t de_ rfl (fun c hc=>by cases hc) (by rw [F3,List.take_one_eq g0]; rfl)⟩,.inl rfl,.inl rfl,.inr ⟨_,rfl,Q7 (by rw [F3,List.take_one_eq g0]; rfl)⟩,.inl rfl,tt⟩⟩ ?_;intro ⟨m,ph⟩ hm;dsimp only at hm ⊢;refine F2 ?_; refine cC (fun h7=>?_) fun h7=>?_
     ·have hlt:m+1 < l.length:=by simp at h7; omega
      obtain ⟨y,hy⟩:∃ y,l[m+1]? = some y:=⟨l[m+1]'hlt,si_⟩;have hyl:=hl2 y (n_1 hy);have hy':(l.drop 1)[m]? = some y:=by rw [a60,c3Z]; exact hy
      have es:=a6q (sep:=sep) hy;rw [if_neg om_] at es;have hjl:=b1y (sep:=sep) (l:=l) hs2 hl2 (m+1);have hjl2:(m+1)*1002<=1000*1002:=Q3 _ om_;refine a1O ?_; refine cY (t6 rfl tt tt rfl rfl t_2 t_0 om_ (j8 hy') rfl) ?_; refine cY a0T ?_; refine M9 ?_;refine cD (b9 rfl a2d j1 (s0 a4I _ (F3 sep l (m+1)) (fun c hc=>by cases hc) sep om_ (σ:=_) (q:=0) (k:=kp ph) ⟨rfl,by cases ph <;> rfl,by cases ph <;> exact n_2 rfl⟩) rfl ?_);intro _ _; refine c8 [C4 tSB 0 5 true (F3 sep l (m+1)++sep) [],.dead,.dead,.dead,.dead,w9 tU8 (F3 sep l (m+1)++sep).length] R9 ?_; refine i7 ?_; refine z_5 ?_;refine cD (b9 rfl a2d j1 (s0 a4I _ (F3 sep l (m+1)++sep) (fun c hc=>by cases hc) y (by rw [J4]; omega) (q:=0) (k:=5) ⟨rfl,rfl,n_2 rfl⟩) rfl ?_);intro _ _; refine c8 [C4 tSB 0 6 true (F3 sep l (m+1)++sep++y) [],.dead,.dead,.dead,.dead,.dead,w9 tU8 (F3 sep l (m+1)++sep++y).length] rfl ?_; refine a2F ?_;exact ⟨(m+1,true),[0,1,2,3,6],(show l.length - (m+1) < l.length - m/\m+1+1<=l.length from ⟨om_,om_⟩),⟨rfl,rfl⟩,c2N,⟨.inr ⟨_,rfl,a6t de_ rfl (fun c hc=>by cases hc) es.symm⟩,.inl rfl,.inl rfl,.inl rfl,.inr ⟨_,rfl,Q7 es.symm⟩,tt⟩⟩
     ·have hme:m+1=l.length:=by simp at h7; omega
      refine Z5 ?_;refine cD (b9 rfl b7P ⟨tt,tt⟩ (a2Y (rest:=[]) (T:=tSB) (fun c hc=>by cases hc) true (F3 sep l (m+1)) (q:=0) (k:=kp ph) ⟨rfl,by cases ph <;> rfl,by cases ph <;> exact n_2 rfl⟩) rfl ?_);intro _ _; refine z_7 ?_;exact ⟨_,j5 rfl tt c6,_,_,rfl,rfl,a0q (by rw [hme,F3,Y9 (n_4 _)])⟩
open Classical in
noncomputable def V3 (d:De):Str:=if h:∃ t:Tr,d.body=t.flat 0/\t.wf d.params.length 1 then h.choose.txt d.params 0 else []
theorem b0v (h:DeG d):∃ t:Tr,d.body=t.flat 0/\t.wf d.params.length 1/\V3 d=t.txt d.params 0:=by
 refine ⟨h.tree.choose,h.tree.choose_spec.1,h.tree.choose_spec.2,?_⟩;unfold V3;rw [dif_pos h.tree]
theorem b6W (h:DeG d):∀ s∈d.params,s.length<=80:=fun s hs=>by have:=D7 (h.par s hs).1; omega
theorem b2p (h:DeG d):(V3 d).length<=76800:=by
 obtain ⟨t,h1,h2,h3⟩:=b0v h;have:=t.txt_len (b6W h) 1 0 h2;have hb:=h.blen;rw [h1,Tr.flat_len] at hb;rw [h3];omega
def d3e (d:De):Src:=⟨[112],[],[⟨1,[102],d.params,d.body⟩]⟩
theorem c88 (h:DeG d):a7F (d3e d) where
 pkg:=by show B1 [112]=true/\O1 [112]=false; decide
 imp:=fun s hs=>by cases hs
 impl:=n_3 _
 impn:=List.nodup_nil
 impp:=fun h=>by cases h
 dec:=fun e he=>by
  simp only [d3e,Q2,b0s,or_false] at he;subst he;exact { kind:=.inl rfl,name:=fun _=>by (show B1 [102]=true/\O1 [102]=false); decide,path:=fun hk=>absurd (show (1:Int)=3 from hk) de_,pars:=fun hk=>absurd rfl hk,par:=h.par,parl:=h.parl,nod:=h.nod,tree:=h.tree,blen:=h.blen}
 decl:=by show 1<=64; decide
 decn:=by show (List.map _ [_]).Nodup; simp
theorem c2W (d:De) (h:DeG d) (σ:List c5):b8 CC 199 [(.list (d.body.map Ex.cv) (gnn d.body.length) none),(.list (d.params.map scv) (gnn d.params.length) none)] σ fun r σ'=>r = .ret (.tup [sv (V3 d),(.val (.int .i64 (0)))])/\σ'=σ:=by
 refine b8.anyw hCC pu_ pu_ ?_ σ;refine d4 (c4 Tryz.func199 rfl rfl ?_);refine z_0 ?_; refine a0w ?_; refine a6H ?_; refine cY (x9 #[(0,1),(1,1),(2,1),(3,1)] rfl ⟨rfl,rfl,tt,tt,tt⟩ b4z a9t rfl ⟨_,rfl⟩ (fun w=>by kernel_rfl) rfl rfl) ?_; refine cY (A3 ([(⟨1,[102],d.params,d.body⟩:De)].map De.cv) rfl ⟨tt,tt⟩ b1F a68 a9t rfl rfl rfl rfl rfl rfl rfl rfl rfl) ?_; refine cY (x9 #[(0,1),(1,1),(2,1)] rfl ⟨rfl,tt,tt⟩ a7j a5l rfl ⟨_,rfl⟩ (fun w=>by kernel_rfl) rfl rfl) ?_; refine cY (c7 rfl Tryz.call198 ⟨tt,tt⟩ (b0r (d3e d) (c88 h) _) rfl) ?_; refine M9 ?_; refine G9 ?_; refine cC (fun h1=>?_) fun h1=>?_
 ·cases h1
 ·obtain ⟨t,ht1,ht2,ht3⟩:=b0v h;refine a8Y ?_;refine cD (b9 rfl Tryz.call245 j1 (c68 (gnn d.body.length) (gnn d.params.length) (by have:=h.blen; omega) t ht1 ⟨1,ht2⟩ (b6W h) _) rfl ?_);rintro dd _;dsimp only;rw [<- ht3];refine a2P ?_; refine M9 ?_; refine a4x ?_;exact ⟨_,l9 (rs:=[.tmp 4,.tmp 5]) (cs:=[_,_]) rfl V9 (n_2 rfl),_,_,rfl,rfl,(.old (B2 (cs:=[sv (V3 d),.val (.int .i64 0)]) ⟨.val _,.val _,tt⟩).old)⟩
def T6 (l:List Str):Str:=(l.map fun s=>[105,109,112,111,114,116,32]++s++[59,10]).flatten
theorem b3D {l:List Str} {s:Str} (h:l[m]? = some s):T6 (l.take (m+1))=T6 (l.take m)++([105,109,112,111,114,116,32]++s++[59,10]):=by
 unfold T6;rw [b0l,h];simp
def b2g (d:De):Str:=if d.k=1 then [102,117,110,99,32]++d.name++[40]++I9 [44,32] d.params++[41,32,61,32] else if d.k=2 then [116,101,115,116,32]++d.name++[32,61,32] else [103,101,110,32,34]++d.name++[34,32,61,32]
noncomputable def a1Y (x:Src) (d:De):Str:=([112,97,99,107,97,103,101,32]++x.pkg++[59,10])++T6 x.imports++b2g d++(V3 d++[59,10])
theorem b0y {l:List Str} (h:∀ s∈l,s.length<=80):∀ m,(T6 (l.take m)).length<=100*m
 | 0=>by simp [T6]
 | m+1=>by
  have ih:=b0y h m;cases hg:l[m]? with
  | none =>
   have:l.length<=m:=by simpa using hg
   rw [Y9 (show l.length<=m+1 by omega)];rw [Y9 this] at ih;omega
  | some y =>
   have:=h y (n_1 hg);rw [b3D hg];simp only [n_6,n_7,I7];omega
theorem c1C {l:List Str} {k:Nat} (h:∀ s∈l,s.length<=k):a9C l<=k*l.length:=by
 induction l with
 | nil=>simp [a9C]
 | cons x l ih =>
  have h1:=h x si_;have h2:=ih fun s hs=>h s (by simp [hs]);simp only [a9C,a9D,List.sum_cons,n_7,Nat.mul_add] at h2 ⊢;omega
theorem De.name_len (h:DeG d):d.name.length<=80:=by
 by_cases h3:d.k=3
 ·exact a1j (h.path h3)
 ·have:=D7 (h.name h3).1; omega
def kpn (a:Nat) (ph:Bool):Nat:=match ph with | false=>a | true=>a+1
theorem c1Y {q s':Nat} (hL:q < L) (hs:sel[s']? = some s) (hr:∀ c∈rest,p9 c) (he:l=l'):b1o L sel (C4 T q s a l rest) (C4 T q s' a l' rest):=by
 subst he;refine .box ⟨?_,.list (fun r hr c hc=>(a1m l r hr c hc).old) (fun j hj=>?_),?_⟩
 ·cases a
  ·exact .old (.val _)
  ·exact .old (.ptr hL)
 ·cases hb:l.length with
  | zero=>rw [hb] at hj; cases hj
  | succ m=>rw [hb] at hj; injection hj with hj; subst hj; exact ⟨s,rfl,hs⟩
 ·have:∀ l:List CV,(∀ c∈l,p9 c)->b4m L l:=fun l=>by
   induction l with
   | nil=>intro _; trivial
   | cons x l ih=>intro h; exact ⟨(h x si_).old,ih fun c hc=>h c (by simp [hc])⟩
  exact a7w (this rest hr)
theorem c29 {s:Str} (h:B1 s=true):1<=s.length:=by
 cases s with
 | nil=>simp [B1] at h
 | cons a l=>simp
theorem c3F (x:Src) (h:a7F x) (i:Nat) (d:De) (hx:x.decls[i]? = some d) (hd:DeG d) (hi:i < x.decls.length) (σ:List c5):b8 CC 156 [.agg x.cells,(.val (.int .i64 (i:Int)))] σ fun r σ'=>r = .ret (.tup [sv (a1Y x d),(.val (.int .i64 (0)))])/\σ'=σ:=by
 refine b8.anyw hCC pu_ pu_ ?_ σ;refine d4 (c4 Tryz.func156 rfl rfl ?_);refine a6m ?_; refine a0w ?_; refine a1R ?_; refine cY a3Y ?_; refine cY (c7 rfl Tryz.call198 ⟨tt,tt⟩ (b0r x h _) rfl) ?_; refine M9 ?_; refine G9 ?_; refine cC (fun h1=>?_) fun h1=>?_
 ·cases h1
 ·refine a4V ?_; refine a1b ?_; refine d0V ?_; refine cG (fun hg=>X7 rfl hg rfl b1F a4c rfl) ?_; refine cG a8z ?_; refine a4L ?_; refine cC (fun h2=>?_) fun h2=>?_
  ·exact absurd h2 K9
  ·have hdl:=De.name_len hd;have hbl:=b2p hd;have hpk:=D7 h.pkg.1;have himl:=h.impl;have him8:∀ s∈x.imports,s.length<=80:=fun s hs=>by have:=D7 (h.imp s hs).1; omega
   have hjl:=a5d [44,32] d.params;have hsl:=c1C (b6W hd);have hprl:=hd.parl;have e2:([44,32]:Str).length=2:=rfl;rw [e2] at hjl;refine a0x ?_; refine d2N ?_; refine cY j7 ?_; refine cY (t6 rfl tt tt rfl rfl b1F a68 om_ (j8 hx) rfl) ?_; refine cY b0M ?_; refine b8I ?_; refine U2 ?_; refine cY b7Q ?_; refine cY a7o ?_; refine a5L ?_; refine cY (c7 rfl Tryz.call199 j1 (c2W d hd _) rfl) ?_; refine a2P ?_; refine a5H ?_; refine cC (fun h3=>?_) fun h3=>?_
   ·cases h3
   ·refine a0x ?_;refine cD (b4Y rfl Tryz.zeroValue244 rfl o4 ?_);refine U2 ?_; refine b25 ?_; refine cY c8w ?_; refine cY a7E ?_;refine cD (b9 rfl a2d j1 ((a0I (s0 a4I false [] (fun c hc=>by cases hc) ([112,97,99,107,97,103,101,32]++x.pkg++[59,10]) a7f (q:=2) (k:=3) ⟨rfl,rfl,n_2 rfl⟩))) rfl ?_);intro _ _; refine c8 [.box x.cells,.box d.cells,C4 tSB 2 4 true (([112,97,99,107,97,103,101,32]++x.pkg++[59,10])) [],.dead,w9 tU8 (([112,97,99,107,97,103,101,32]++x.pkg++[59,10])).length] rfl ?_; refine a2i ?_; refine a8P ?_; refine a0W ?_; refine A2 hCC 5 rfl (α:=Nat × Bool) (fun x'=>[(7,.ptr 1 0),(8,(sv (V3 d))),(10,.ptr 2 0),(49,(.list (x.imports.map scv) (gnn x.imports.length) none)),(50,(.val (.int .i64 (x.imports.length:Int)))),(51,(.val (.int .i64 (x'.1:Int))))]) (fun x'=>[.box x.cells,.box d.cells,C4 tSB 2 (kpn 4 x'.2) true (([112,97,99,107,97,103,101,32]++x.pkg++[59,10])++T6 (x.imports.take x'.1)) [],.dead,op1 x'.2 (([112,97,99,107,97,103,101,32]++x.pkg++[59,10])++T6 (x.imports.take x'.1)).length,op2 x'.2 (([112,97,99,107,97,103,101,32]++x.pkg++[59,10])++T6 (x.imports.take x'.1)).length]) (fun x'=>x'.1<=x.imports.length) (fun x'=>x.imports.length - x'.1) ⟨(0,false),[0,1,2,3,4,9],(n_3 _),⟨rfl,rfl⟩,a8g,⟨.inr ⟨_,rfl,.same rfl (Src.old x _)⟩,.inr ⟨_,rfl,.same rfl (De.old d _)⟩,.inr ⟨_,rfl,c1Y de_ rfl (fun c hc=>by cases hc) (a0P _).symm⟩,.inl rfl,.inr ⟨_,rfl,Q7 (a0P _).symm⟩,.inl rfl,tt⟩⟩ ?_; intro ⟨m,ph⟩ hm;dsimp only at hm ⊢;have hil:=b0y him8 m;refine F2 ?_; refine cC (fun h4=>?_) fun h4=>?_
    ·have hlt:m < x.imports.length:=by simp at h4; omega
     obtain ⟨y,hy⟩:∃ y,x.imports[m]? = some y:=⟨x.imports[m]'hlt,si_⟩;have hyl:=him8 y (n_1 hy);have es:=b3D hy;have ej:([112,97,99,107,97,103,101,32]++x.pkg++[59,10])++T6 (x.imports.take m)++([105,109,112,111,114,116,32]++y++[59,10])=([112,97,99,107,97,103,101,32]++x.pkg++[59,10])++T6 (x.imports.take (m+1)):=by rw [es]; simp only [n_9]
     refine a1O ?_; refine cY c5g ?_; refine cY a0T ?_; refine a8x ?_; refine cY c8w ?_; refine cY a7E ?_;refine cD (b9 rfl a2d j1 (s0 a4I _ (([112,97,99,107,97,103,101,32]++x.pkg++[59,10])++T6 (x.imports.take m)) (fun c hc=>by cases hc) ([105,109,112,111,114,116,32]++y++[59,10]) a7f (q:=2) (k:=kpn 4 ph) ⟨rfl,by cases ph <;> rfl,by cases ph <;> exact n_2 rfl⟩) rfl ?_);intro _ _; refine c8 [.box x.cells,.box d.cells,C4 tSB 2 6 true (([112,97,99,107,97,103,101,32]++x.pkg++[59,10])++T6 (x.imports.take m)++([105,109,112,111,114,116,32]++y++[59,10])) [],.dead,.dead,.dead,w9 tU8 (([112,97,99,107,97,103,101,32]++x.pkg++[59,10])++T6 (x.imports.take m)++([105,109,112,111,114,116,32]++y++[59,10])).length] R9 ?_; refine a2F ?_;exact ⟨(m+1,true),[0,1,2,3,4,6],(show x.imports.length - (m+1) < x.imports.length - m/\m+1<=x.imports.length from ⟨om_,om_⟩),⟨rfl,rfl⟩,a8g,⟨.inr ⟨_,rfl,.same rfl (Src.old x _)⟩,.inr ⟨_,rfl,.same rfl (De.old d _)⟩,.inr ⟨_,rfl,c1Y de_ rfl (fun c hc=>by cases hc) ej⟩,.inl rfl,.inl rfl,.inr ⟨_,rfl,Q7 ej⟩,tt⟩⟩
    ·have hme:m=x.imports.length:=by simp at h4; omega
     rw [hme] at hil;have etk:x.imports.take m=x.imports:=by rw [hme]; exact Y9 (n_4 _)
     rw [etk];rw [<- hme,etk] at hil;refine z6 ?_; refine a1R ?_; refine a5x ?_; refine a8R ?_; refine cC (fun h5=>?_) fun h5=>?_
     ·have u5:d.k=1:=by simpa using h5
      refine B4 9 [0,1,3,7,0,16,48,127,255,511] d5 d5 rfl ?_; refine hY c4a ?_; refine hY Y2 ?_; refine hY c8w ?_; refine hY a7E ?_; refine hY c0O ?_; refine hY a5U ?_; refine hY (c7 rfl Tryz.call201 o6 (b00 d.params _ [44,32] rfl om_ (fun s hs=>⟨c29 (hd.par s hs).1,by have:=b6W hd s hs; omega⟩) _) rfl) ?_; refine hY (I6 rfl tt tt rfl rfl a7f) ?_; refine hY a7E ?_; refine N3 ?_;refine cD (b9 rfl a2d j1 (s0 a4I _ (([112,97,99,107,97,103,101,32]++x.pkg++[59,10])++T6 x.imports) (fun c hc=>by cases hc) ([102,117,110,99,32]++d.name++[40]++I9 [44,32] d.params++[41,32,61,32]) a7f (q:=2) (k:=kpn 4 ph) ⟨rfl,by cases ph <;> rfl,by cases ph <;> exact n_2 rfl⟩) rfl ?_);intro _ _; refine c8 [.box x.cells,.box d.cells,C4 tSB 2 6 true (([112,97,99,107,97,103,101,32]++x.pkg++[59,10])++T6 x.imports++([102,117,110,99,32]++d.name++[40]++I9 [44,32] d.params++[41,32,61,32])) [],.dead,.dead,.dead,w9 tU8 (([112,97,99,107,97,103,101,32]++x.pkg++[59,10])++T6 x.imports++([102,117,110,99,32]++d.name++[40]++I9 [44,32] d.params++[41,32,61,32])).length] R9 ?_; refine O3 ?_; refine cY d2E ?_;refine cD (b9 rfl a2d j1 (s0 a4I _ (([112,97,99,107,97,103,101,32]++x.pkg++[59,10])++T6 x.imports++([102,117,110,99,32]++d.name++[40]++I9 [44,32] d.params++[41,32,61,32])) (fun c hc=>by cases hc) (V3 d++[59,10]) a7f (q:=2) (k:=6) ⟨rfl,rfl,n_2 rfl⟩) rfl ?_);intro _ _; refine c8 [.box x.cells,.box d.cells,C4 tSB 2 7 true (([112,97,99,107,97,103,101,32]++x.pkg++[59,10])++T6 x.imports++([102,117,110,99,32]++d.name++[40]++I9 [44,32] d.params++[41,32,61,32])++(V3 d++[59,10])) [],.dead,.dead,.dead,.dead,w9 tU8 (([112,97,99,107,97,103,101,32]++x.pkg++[59,10])++T6 x.imports++([102,117,110,99,32]++d.name++[40]++I9 [44,32] d.params++[41,32,61,32])++(V3 d++[59,10])).length] rfl ?_; refine U2 ?_;refine cD (b9 rfl b7P ⟨tt,tt⟩ (a2Y (rest:=[]) (T:=tSB) (fun c hc=>by cases hc) true (([112,97,99,107,97,103,101,32]++x.pkg++[59,10])++T6 x.imports++([102,117,110,99,32]++d.name++[40]++I9 [44,32] d.params++[41,32,61,32])++(V3 d++[59,10])) (q:=2) (k:=7) ⟨rfl,rfl,n_2 rfl⟩) rfl ?_);intro _ _; refine a4x ?_;exact ⟨_,l9 (rs:=[.tmp 4,.tmp 5]) (cs:=[_,_]) rfl V9 (n_2 rfl),_,_,rfl,rfl,(by rw [a1Y]; rw [b2g,if_pos u5]; exact .old (B2 (cs:=[sv _,.val (.int .i64 0)]) ⟨.val _,.val _,tt⟩).old)⟩
     ·have u5:¬ d.k=1:=by simpa using h5
      refine K1 ?_; refine cC (fun h6=>?_) fun h6=>?_
      ·have u6:d.k=2:=by simpa using h6
       refine A0 ?_; refine a8U ?_; refine cY c8w ?_; refine cY a7E ?_;refine cD (b9 rfl a2d j1 (s0 a4I _ (([112,97,99,107,97,103,101,32]++x.pkg++[59,10])++T6 x.imports) (fun c hc=>by cases hc) ([116,101,115,116,32]++d.name++[32,61,32]) a7f (q:=2) (k:=kpn 4 ph) ⟨rfl,by cases ph <;> rfl,by cases ph <;> exact n_2 rfl⟩) rfl ?_);intro _ _; refine c8 [.box x.cells,.box d.cells,C4 tSB 2 6 true (([112,97,99,107,97,103,101,32]++x.pkg++[59,10])++T6 x.imports++([116,101,115,116,32]++d.name++[32,61,32])) [],.dead,.dead,.dead,w9 tU8 (([112,97,99,107,97,103,101,32]++x.pkg++[59,10])++T6 x.imports++([116,101,115,116,32]++d.name++[32,61,32])).length] R9 ?_; refine O3 ?_; refine cY d2E ?_;refine cD (b9 rfl a2d j1 (s0 a4I _ (([112,97,99,107,97,103,101,32]++x.pkg++[59,10])++T6 x.imports++([116,101,115,116,32]++d.name++[32,61,32])) (fun c hc=>by cases hc) (V3 d++[59,10]) a7f (q:=2) (k:=6) ⟨rfl,rfl,n_2 rfl⟩) rfl ?_);intro _ _; refine c8 [.box x.cells,.box d.cells,C4 tSB 2 7 true (([112,97,99,107,97,103,101,32]++x.pkg++[59,10])++T6 x.imports++([116,101,115,116,32]++d.name++[32,61,32])++(V3 d++[59,10])) [],.dead,.dead,.dead,.dead,w9 tU8 (([112,97,99,107,97,103,101,32]++x.pkg++[59,10])++T6 x.imports++([116,101,115,116,32]++d.name++[32,61,32])++(V3 d++[59,10])).length] rfl ?_; refine U2 ?_;refine cD (b9 rfl b7P ⟨tt,tt⟩ (a2Y (rest:=[]) (T:=tSB) (fun c hc=>by cases hc) true (([112,97,99,107,97,103,101,32]++x.pkg++[59,10])++T6 x.imports++([116,101,115,116,32]++d.name++[32,61,32])++(V3 d++[59,10])) (q:=2) (k:=7) ⟨rfl,rfl,n_2 rfl⟩) rfl ?_);intro _ _; refine a4x ?_;exact ⟨_,l9 (rs:=[.tmp 4,.tmp 5]) (cs:=[_,_]) rfl V9 (n_2 rfl),_,_,rfl,rfl,(by rw [a1Y]; rw [b2g,if_neg u5,if_pos u6]; exact .old (B2 (cs:=[sv _,.val (.int .i64 0)]) ⟨.val _,.val _,tt⟩).old)⟩
      ·have u6:¬ d.k=2:=by simpa using h6
       refine A0 ?_; refine a8U ?_; refine cY c8w ?_; refine cY a7E ?_;refine cD (b9 rfl a2d j1 (s0 a4I _ (([112,97,99,107,97,103,101,32]++x.pkg++[59,10])++T6 x.imports) (fun c hc=>by cases hc) ([103,101,110,32,34]++d.name++[34,32,61,32]) a7f (q:=2) (k:=kpn 4 ph) ⟨rfl,by cases ph <;> rfl,by cases ph <;> exact n_2 rfl⟩) rfl ?_);intro _ _; refine c8 [.box x.cells,.box d.cells,C4 tSB 2 6 true (([112,97,99,107,97,103,101,32]++x.pkg++[59,10])++T6 x.imports++([103,101,110,32,34]++d.name++[34,32,61,32])) [],.dead,.dead,.dead,w9 tU8 (([112,97,99,107,97,103,101,32]++x.pkg++[59,10])++T6 x.imports++([103,101,110,32,34]++d.name++[34,32,61,32])).length] R9 ?_; refine O3 ?_; refine cY d2E ?_;refine cD (b9 rfl a2d j1 (s0 a4I _ (([112,97,99,107,97,103,101,32]++x.pkg++[59,10])++T6 x.imports++([103,101,110,32,34]++d.name++[34,32,61,32])) (fun c hc=>by cases hc) (V3 d++[59,10]) a7f (q:=2) (k:=6) ⟨rfl,rfl,n_2 rfl⟩) rfl ?_);intro _ _; refine c8 [.box x.cells,.box d.cells,C4 tSB 2 7 true (([112,97,99,107,97,103,101,32]++x.pkg++[59,10])++T6 x.imports++([103,101,110,32,34]++d.name++[34,32,61,32])++(V3 d++[59,10])) [],.dead,.dead,.dead,.dead,w9 tU8 (([112,97,99,107,97,103,101,32]++x.pkg++[59,10])++T6 x.imports++([103,101,110,32,34]++d.name++[34,32,61,32])++(V3 d++[59,10])).length] rfl ?_; refine U2 ?_;refine cD (b9 rfl b7P ⟨tt,tt⟩ (a2Y (rest:=[]) (T:=tSB) (fun c hc=>by cases hc) true (([112,97,99,107,97,103,101,32]++x.pkg++[59,10])++T6 x.imports++([103,101,110,32,34]++d.name++[34,32,61,32])++(V3 d++[59,10])) (q:=2) (k:=7) ⟨rfl,rfl,n_2 rfl⟩) rfl ?_);intro _ _; refine a4x ?_;exact ⟨_,l9 (rs:=[.tmp 4,.tmp 5]) (cs:=[_,_]) rfl V9 (n_2 rfl),_,_,rfl,rfl,(by rw [a1Y]; rw [b2g,if_neg u5,if_neg u6]; exact .old (B2 (cs:=[sv _,.val (.int .i64 0)]) ⟨.val _,.val _,tt⟩).old)⟩
def a2l (n:Nat):Str:=if h:n < 128 then [UInt8.ofNat n] else UInt8.ofNat (n%128+128)::a2l (n / 128)
termination_by n
decreasing_by omega
theorem a5e (n:Nat):a2l n=if n < 128 then [UInt8.ofNat n] else UInt8.ofNat (n%128+128)::a2l (n / 128):=by
 rw [a2l]
 split <;> rfl
theorem b1C {k:Nat} (h:n < 128^(k+1)):(a2l n).length<=k+1:=by
 induction k generalizing n with
 | zero=>rw [a5e,if_pos V8]; exact n_4 _
 | succ k ih =>
  rw [a5e]
  split
  ·simp
  ·have:=ih (n:=n / 128) (by rw [Nat.pow_succ] at h; exact Nat.div_lt_of_lt_mul (by rw [Nat.mul_comm]; exact h));simp; omega
def a1p (l s:Str):Str:=l++a2l s.length++s
theorem d3b:∀ x:Fin 256,(x.val ||| 128)=x.val%128+128:=by decide
theorem d5O:(n%256) ||| 128=n%128+128:=by
 have h:∀ x:Fin 256,(x.val ||| 128)=x.val%128+128:=d3b;have:=h ⟨n%256,a6b _ de_⟩;simp only at this;omega
theorem d2z (h:n < 256):((UInt8.ofNat n).toNat:Int)=(n:Int):=by
 rw [UInt8.toNat_ofNat',c2I V8]
theorem d5M (n:Nat):IntKind.u8.wrap (n:Int)=((n%256:Nat):Int):=by
 simp [IntKind.wrap,IntKind.signed,IntKind.bits]
theorem b67 {C:Ctx} {E:Env} {y:Operand} {b:UInt8} {tok:Option Nat} (ey:E.val C y = .list [bcv b] nn tok):∀ M w v,Rel C M σ w->RV M w (E.val C y) v->b8V C w M ([b].map bcv) 1 v:=fun M w v hr h=>(a7e ey (by intro r hr; simp at hr; subst hr; rfl) M w v hr h).any
theorem c9K {k p:Nat} (hs:sel[p]? = some k):r8 L sel (a2e l k) (a2e l p):=by
 refine .list (fun r hr c hc=>(a1m l r hr c hc).old) (fun j hj=>?_);cases hb:l.length with
 | zero=>rw [hb] at hj; cases hj
 | succ m=>rw [hb] at hj; injection hj with hj; subst hj; exact ⟨k,rfl,hs⟩
theorem c9f (m:Nat):CV.list [[CV.val (.int .u8 ((m%256 ||| 128:Nat):Int))]] true none = .list [bcv (UInt8.ofNat (m%128+128))] true none:=by
 rw [d5O,bcv,d2z om_]
theorem c73 (h:m < 128):CV.list [[CV.val (.int .u8 (m:Int))]] true none = .list [bcv (UInt8.ofNat m)] true none:=by
 rw [bcv,d2z om_]
def b1W (k:Nat) (g:c5):List c5:=List.replicate k .dead++[g]
theorem b5G (k:Nat) (g:c5):(b1W k g).length=k+1:=by simp [b1W]
theorem b1D (k:Nat) (g:c5):(b1W k g)[k]? = some g:=by
 rw [b1W,a0a si_]; simp
theorem b5n (k:Nat) (g g':c5):(b1W k g).set k .dead++[g']=b1W (k+1) g':=by
 unfold b1W
 congr 1
 rw [List.replicate_succ']
 induction k with
 | zero=>rfl
 | succ k ih=>rw [List.replicate_succ,b3d,List.set_cons_succ,ih]; rfl
theorem c4X {k:Nat} {g:c5}:C6 1 ((b1W k g).set k .dead++[w9 tU8 l.length]) (.ret (a2e l (b1W k g).length)) (.ret (a2e l 1)) [.dead,w9 tU8 l.length]:=by
 rw [b5n,b5G];refine ⟨[0,k+1],rfl,by simp [U6],.ret (c9K rfl),.inl rfl,.inr ⟨_,b1D _ _,Q7 rfl⟩,tt⟩
theorem b6G (l:Str) (nn:Bool) (n:Nat) (hl:l.length<=100000000000000) (hn:n < 18446744073709551616):b8 CC 204 [(.list (l.map bcv) nn none),.val (.int .u64 (n:Int))] [.dead] fun r τ=>C6 1 τ r (.ret (a2e (l++a2l n) 1)) [.dead,w9 tU8 (l++a2l n).length]:=by
 refine (c4 Tryz.func204 rfl rfl ?_);refine a1T ?_;refine cD (a7T (l:=[]) (new:=l) (p:=0) rfl rfl tt rfl (fun M w v hr h=>(a7e rfl (by intro r hr; obtain ⟨b,_,rfl⟩:=K3.1 hr; rfl) M w v hr h).any) t_7 a25 b42 a7M rfl (.inl t_7) rfl rfl b2R ?_);refine b1w ?_; refine S3 (α:=Str × Nat × Nat) (fun x=>[(1,(.val (.int .u64 (x.2.1:Int)))),(5,(a2e x.1 x.2.2))]) (fun x=>b1W x.2.2 (w9 tU8 x.1.length)) (fun x=>l++a2l n=x.1++a2l x.2.1/\x.2.1<=n) (fun x=>x.2.1) (l,n,1) ⟨rfl,n_4 _⟩ tu_ rfl ?_; intro ⟨b,m,k⟩ _ ⟨hb,hmn⟩;dsimp only at hb hmn ⊢;have hlen:b.length<=l.length+10:=by
  have h1:=congrArg List.length hb;have h2:=b1C (n:=n) (k:=9) om_;simp only [n_6] at h1;omega
 refine a6Y ?_; refine cC (fun h1=>?_) fun h1=>?_
 ·have h128:¬ m < 128:=by have:=of_decide_eq_true h1; omega
  rw [a5e m,if_neg h128] at hb;refine a2L ?_; refine z_4 ?_; refine cY (b1x rfl tt rfl c5j b4S (d5M m)) ?_; refine cY (d4W (a:=(m%256)) (b:=128) rfl tt rfl rfl rfl (a6b _ de_) de_) ?_; refine cY (A3 [[.val (.int .u8 ((m%256 ||| 128:Nat):Int))]] rfl ⟨tt,tt⟩ t_7 a25 a7M rfl rfl rfl rfl rfl rfl rfl rfl rfl) ?_;refine cD (a7T (l:=b) (new:=[UInt8.ofNat (m%128+128)]) (p:=k) rfl tt tt rfl (b67 (c9f m)) t_7 a25 b42 a7M rfl (.inl t_7) rfl (b1D _ _) b2R ?_);refine a8x ?_; refine cY (d3K (m:=7) rfl tt rfl rfl rfl de_ (show (m:Int) / 2^7=((m / 128:Nat):Int) by omega)) ?_; refine z_2 ?_;exact ⟨(b++[UInt8.ofNat (m%128+128)],m / 128,k+1),(show m / 128 < m by omega),(show l++a2l n=(b++[UInt8.ofNat (m%128+128)])++a2l (m / 128)/\m / 128<=n from ⟨by rw [hb]; simp,om_⟩),⟨B0,⟨tt,(congrArg (a2e _) (b5G k _))⟩,tt⟩,(b5n _ _ _)⟩
 ·have h128:m < 128:=by have:=of_decide_eq_false h1; omega
  rw [a5e m,if_pos h128] at hb;refine z6 ?_; refine z_4 ?_; refine cY (b1x rfl tt rfl c5j b4S ((d5M m).trans (by rw [c2I om_]))) ?_; refine cY (A3 [[.val (.int .u8 (m:Int))]] rfl ⟨tt,tt⟩ t_7 a25 a7M rfl rfl rfl rfl rfl rfl rfl rfl rfl) ?_;refine cD (a7T (l:=b) (new:=[UInt8.ofNat m]) (p:=k) rfl tt tt rfl (b67 (c73 h128)) t_7 a25 b42 a7M rfl (.inl t_7) rfl (b1D _ _) b2R ?_);refine z_7 ?_;exact ⟨_,j5 rfl tt c6,(by rw [hb]; exact c4X)⟩
theorem d4Q (h:n < 18446744073709551616):IntKind.u64.wrap (n:Int)=(n:Int):=by
 simp [IntKind.wrap,IntKind.signed,IntKind.bits];omega
theorem b84 (l:Str) (nn:Bool) (n:Nat) (hl:l.length<=100000000000000) (hn:n < 18446744073709551616) (σ:List c5):b8 CC 204 [(.list (l.map bcv) nn none),.val (.int .u64 (n:Int))] σ fun r τ=>∃ _:Unit,r = .ret (a2e (l++a2l n) (σ.length+1))/\τ=σ++[.dead,w9 tU8 (l++a2l n).length]/\True :=
 a54 (α:=Unit) hCC (fun a ha=>by simp at ha; rcases ha with rfl | rfl; exact a6n _ _; exact .val _) (res:=fun _=>.ret (a2e (l++a2l n) 1)) (res':=fun _ m=>.ret (a2e (l++a2l n) (m+1))) (S:=fun _=>[.dead,w9 tU8 (l++a2l n).length]) (S':=fun _ _=>[.dead,w9 tU8 (l++a2l n).length]) (P:=fun _=>True)
  (a0I (N9 hCC ((b6G l nn n hl hn).mono fun r τ h=>⟨_,_,h,(),rfl,rfl,tt⟩))) (fun _ _=>rfl) (fun _ m i x h=>by
   rcases i with _ | _ | i
   ·injection h with h; subst h; exact ⟨_,rfl,.dead⟩
   ·injection h with h; subst h; exact ⟨_,rfl,a4X _ _⟩
   ·cases h) (fun _ m=>.ret (b6Q rfl)) σ
theorem c24 {τ:List c5} {k:Nat} (h:l=l'):Cls n τ (a2e l k) (.list (l'.map bcv) (gnn l'.length) none):=by
 subst h;refine .list rfl (fun i r r' h h'=>by rw [h] at h'; injection h' with h'; rw [h']) (fun i j r r' c c' h h' g g'=>?_);rw [h] at h'; injection h' with h'; subst h'
 rw [g] at g'; injection g' with g'; subst g'
 exact .old (a1m l r (n_1 h) c (n_1 g)).old
theorem a1a (l:Str) (nn:Bool) (s:Str) (hl:l.length<=100000000000) (hs:s.length<=100000000000) (σ:List c5):b8 CC 159 [(.list (l.map bcv) nn none),(sv s)] σ fun r σ'=>r = .ret (.list ((a1p l s).map bcv) (gnn (a1p l s).length) none)/\σ'=σ:=by
 refine b8.anyw hCC pu_ pu_ ?_ σ;refine d4 (c4 Tryz.func159 rfl rfl ?_);refine a2U ?_; refine cY V4 ?_; refine cY (b1x rfl tt rfl c1D c5j (d4Q om_)) ?_;refine cD (b9 rfl Tryz.call204 j1 (b84 l nn s.length om_ om_ _) rfl ?_);have hpu:=b1C (n:=s.length) (k:=9) om_;intro _ _; refine cY j7 ?_;refine cD (a7T (l:=(l++a2l s.length)) (new:=s) (p:=1) rfl tt tt rfl (b8Z rfl) t_7 a25 b42 a7M rfl (.inr t_4) rfl rfl (by simp only [n_6]; omega) ?_);refine z_7 ?_;exact ⟨_,j5 rfl tt c6,_,_,rfl,rfl,(by exact c24 (l:=l++a2l s.length++s) (k:=2) rfl)⟩
theorem b3V (hσ:WAt σ w q1 q2 t fl nn va br ms me) (k:Int) (p o:Str):b8 CC 90 [.ptr w 0,(.val (.int .i64 k)),(sv p),(sv o)] σ fun r τ=>r = .ret (.agg (Y7 va me k p o).cells)/\τ=σ :=
 b3k (fun a h=>by simp at h; rcases h with rfl | rfl | rfl <;> exact .val _) (En.pure _) (c70 fl nn va br ms me k p o) hσ
theorem c9q (hσ:WAt σ w q1 q2 t fl nn va br ms me) (s:Str) (hfl:fl.length<=1000000):b8 CC 110 [.ptr w 0,(sv s)] σ fun r τ=>r = .ret (.tup [sv ((C7 fl s).getD []),.val (.bool (C7 fl s).isSome)])/\τ=σ :=
 b3k (fun a h=>by simp at h; subst h; exact .val _) (B2 (cs:=[sv _,.val _]) ⟨.val _,.val _,tt⟩) (c4S fl nn va br ms me s hfl) hσ
def A4 (ms:SM) (fl:List Fi) (pkg:Str):List Fi:=fl.filter fun f=>(glk ms f.p).isSome && decide (((glk ms f.p).getD Src.z).pkg=pkg)
theorem b5S {y:Fi} (h:fl[i]? = some y) (pkg:Str):A4 ms (fl.drop i) pkg=(if ((glk ms y.p).isSome && decide (((glk ms y.p).getD Src.z).pkg=pkg))=true then [y] else [])++A4 ms (fl.drop (i+1)) pkg:=by
 obtain ⟨hlt,rfl⟩:=n_0.1 h;rw [Q9 hlt];unfold A4;rw [a9N]
 split <;> rfl
theorem c2f (fl:List Fi) (nn va:Bool) (br:List Str) (ms:SM) (me:EM) (pkg:Str) (hfl:fl.length<=1000000):b8 CC 158 [.ptr 0 0,(sv pkg)] (wst fl nn va br ms me) fun r τ=>C6 4 τ r (.ret (.list ((A4 ms fl pkg).map Fi.cv) (gnn (A4 ms fl pkg).length) none)) (wst fl nn va br ms me):=by
 refine (c4 Tryz.func158 rfl rfl ?_);refine z_6 ?_; refine a04 ?_; refine cY J2 ?_; refine cY (j2 rfl tt rfl b6Y rfl a6h de_) ?_; refine a0U ?_; refine A2 hCC 4 rfl (α:=Nat × List Fi) (fun x=>[(0,.ptr 0 0),(1,(sv pkg)),(5,(.list (x.2.map Fi.cv) (gnn x.2.length) (E7 x.2.length 4))),(14,(.list (fl.map Fi.cv) nn none)),(15,(.val (.int .i64 (fl.length:Int)))),(16,(.val (.int .i64 (x.1:Int))))]) (fun x=>[wbx fl nn va br 1 2 3,smO ms,emO me,r7 br.length,r7 x.2.length]) (fun x=>x.1<=fl.length/\x.2.length<=x.1/\A4 ms fl pkg=x.2++A4 ms (fl.drop x.1) pkg) (fun x=>fl.length - x.1) ⟨(0,[]),[0,1,2,3,9],⟨n_3 _,n_4 _,rfl⟩,⟨rfl,rfl⟩,q_0,⟨.inr ⟨_,rfl,.same rfl (a3k de_ de_ de_)⟩,.inr ⟨_,rfl,.same rfl a1W⟩,.inr ⟨_,rfl,.same rfl a14⟩,.inr ⟨_,rfl,.same rfl s9⟩,.inl rfl,tt⟩⟩ ?_; intro ⟨i,out⟩ ⟨hi,hol,hr⟩;dsimp only at hi hol hr ⊢;refine F2 ?_; refine cC (fun h1=>?_) fun h1=>?_
 ·have hlt:(i:Int) < fl.length:=by simpa using h1
  obtain ⟨y,hb⟩:∃ y,fl[i]? = some y:=⟨fl[i]'om_,si_⟩;rw [b5S hb] at hr;refine b2Z ?_; refine z_8 ?_; refine B5 [0,1,2,3,4,5,6,7,8,9,10,11,12] 10 [0,1,3,7,0,16,63,127,255,255,0,1535,4095] [[0,1,2,3,4,5,6,7,8,9],[9],[]] (hd1l:=[0,1,2,3,4,5,6,7,8,9]) (tll:=[(10,[0,1,2,3,4,5,6,7,8,9]),(11,[9]),(12,[])]) d5 d5 rfl rfl rfl ?_; refine a8d ?_; refine chf rfl (d6 rfl b71) ?_; refine chf rfl (d6 rfl b66) ?_; refine b2D ?_; refine chf rfl (d6 rfl d5W) ?_; refine chf rfl U4 ?_; refine chf rfl b2A ?_; refine chf rfl b2A ?_; refine D2 ?_;refine A9 rfl rfl (r6 rfl a5l rfl o4 ?_);refine ⟨⟨C8,a1K,(by exact d6 rfl b71),(by exact d6 rfl b66),a5D,a4v,(by exact d6 rfl d5W),C8,a9b,a9b,tt⟩,?_⟩;refine A9 rfl rfl (j3 rfl tt tt rfl c6 a3m o4 rfl rfl (nb rfl) ?_);refine ⟨⟨a9b,tt⟩,?_⟩;refine a9f ?_; refine z_4 ?_; refine cG c76 ?_; refine b6g ?_; refine a6J ?_; refine cC (fun h2=>?_) fun h2=>?_
  ·rw [if_pos a36] at hr;refine z_5 ?_; refine cY c0f ?_; refine cY d34 ?_;refine cD (D9 rfl tt tt rfl si_ R6 a27 a1S b9N a34 rfl (.inr rfl) X0 d2x H3 ((out++[y]).map Fi.cv) (out++[y]).length si_ si_ ?_);refine a8G ?_;exact ⟨(i+1,out++[y]),[0,1,2,3,7],⟨do_,do_,by dsimp only; simp; omega,by dsimp only; rw [hr,n_9]⟩,⟨rfl,rfl⟩,q_0,⟨.inr ⟨_,rfl,.same rfl (a3k de_ de_ de_)⟩,.inr ⟨_,rfl,.same rfl a1W⟩,.inr ⟨_,rfl,.same rfl a14⟩,.inr ⟨_,rfl,.same rfl s9⟩,.inr ⟨_,rfl,.same rfl s9⟩,tt⟩⟩
  ·rw [if_neg a36,a7u] at hr;refine a2h ?_;exact ⟨(i+1,out),[0,1,2,3,4],⟨do_,do_,do_,hr⟩,⟨rfl,rfl⟩,q_0,⟨.inr ⟨_,rfl,.same rfl (a3k de_ de_ de_)⟩,.inr ⟨_,rfl,.same rfl a1W⟩,.inr ⟨_,rfl,.same rfl a14⟩,.inr ⟨_,rfl,.same rfl s9⟩,.inr ⟨_,rfl,.same rfl s9⟩,tt⟩⟩
 ·have hge:fl.length<=i:=by simp at h1; omega
  rw [U5 hge] at hr;replace hr:A4 ms fl pkg=out:=by rw [hr]; exact a0P _
  refine a33 ?_;exact ⟨_,j5 rfl tt c6,(by rw [hr]; exact a2W rfl (W6 (f:=Fi.cv) (fun a=>⟨.val _,.val _,tt⟩) _))⟩
theorem b6N (hσ:WAt σ w q1 q2 t fl nn va br ms me) (pkg:Str) (hfl:fl.length<=1000000):b8 CC 158 [.ptr w 0,(sv pkg)] σ fun r τ=>r = .ret (.list ((A4 ms fl pkg).map Fi.cv) (gnn (A4 ms fl pkg).length) none)/\τ=σ :=
 b3k (fun a h=>by simp at h; subst h; exact .val _) (D4 _ _) (c2f fl nn va br ms me pkg hfl) hσ
noncomputable def b5I (ms:SM) (x:En):Str:=((glk ms x.pl).bind fun s=>(s.decls[x.ix.toNat]?).map fun d=>a1Y s d).getD []
noncomputable def a0V (ms:SM) (x:En):Str:=if x.ct=0 then [45] else if x.ct=1 then [61]++b5I ms x else [63]
def b18 (ms:SM) (x:En):Prop:=x.ct=1->∃ (s:Src) (d:De) (i:Nat),glk ms x.pl=some s/\a7F s/\x.ix=(i:Int)/\s.decls[i]? = some d
theorem c2w {x:Src} (h:a7F x) (hd:DeG d):(a1Y x d).length<=100000:=by
 have hdl:=De.name_len hd;have hbl:=b2p hd;have hpk:=D7 h.pkg.1;have himl:=h.impl;have him8:∀ s∈x.imports,s.length<=80:=fun s hs=>by have:=D7 (h.imp s hs).1; omega
 have hil:=b0y him8 x.imports.length;rw [Y9 (n_4 _)] at hil;have hjl:=a5d [44,32] d.params;have hsl:=c1C (b6W hd);have hprl:=hd.parl;have e2:([44,32]:Str).length=2:=rfl;rw [e2] at hjl;have hh:(b2g d).length<=1200:=by
  unfold b2g
  split
  ·simp only [n_6,n_7,I7]; omega
  ·split
   ·simp only [n_6,n_7,I7]; omega
   ·simp only [n_6,n_7,I7]; omega
 unfold a1Y;simp only [n_6,n_7,I7];omega
theorem b4t (fl:List Fi) (nn va:Bool) (br:List Str) (ms:SM) (me:EM) (x:En) (hx:b18 ms x):b8 CC 106 [.ptr 0 0,.agg x.cells] (wst fl nn va br ms me) fun r τ=>C6 4 τ r (.ret (sv (a0V ms x))) (wst fl nn va br ms me):=by
 refine (c4 Tryz.func106 rfl rfl ?_);refine a7h ?_; refine a1M ?_; refine a8R ?_; refine cC (fun h1=>?_) fun h1=>?_
 ·have u1:x.ct=0:=by simpa using h1
  refine G5 ?_;exact ⟨_,j5 rfl tt c6,(by rw [a0V,if_pos u1]; exact a2W rfl (.old (.val _)))⟩
 ·have u1:¬ x.ct=0:=by simpa using h1
  refine K1 ?_; refine cC (fun h2=>?_) fun h2=>?_
  ·have u2:x.ct=1:=by simpa using h2
   obtain ⟨src,d,i,hg,hsg,hix,hdi⟩:=hx u2;have hdg:=hsg.dec d (n_1 hdi);have hlen:=c2w hsg hdg;have ed:b5I ms x=a1Y src d:=by rw [b5I,hg,n_5,hix,a23,hdi]; rfl
   refine w8 ?_; refine B4 15 [0,1,3,7,0,16,63,0,128,511,1023,2047,2047,4095,16383] d5 d5 rfl ?_; refine a5r ?_; refine hY b71 ?_; refine hY b66 ?_; refine hY b52 ?_; refine hY Y2 ?_; refine hY (P9 (vc:=vcS) (l:=ms) (a:=x.pl) b6h rfl tt tt rfl rfl c1T a5l rfl rfl (show ((glk ms x.pl).map vcS).getD _=vcS src by rw [hg]; rfl)) ?_; refine hY b5c ?_; refine hY a0F ?_; refine hY (c7 rfl Tryz.call156 j1 ((by have h:=c3F src hsg i d hdi hdg (n_0.1 hdi).1 ((wst fl nn va br ms me)++[.box x.cells]); rw [<- hix] at h; exact h)) rfl) ?_; refine hY j7 ?_; refine hY a67 ?_; refine hY a67 ?_; refine hY I1 ?_; refine b2M ?_; refine O3 ?_; refine cY (I6 rfl rfl tt rfl rfl (by show 1+(a1Y src d).length<=_; omega)) ?_; refine z_7 ?_;exact ⟨_,j5 rfl tt c6,(by rw [a0V,if_neg u1,if_pos u2,ed]; exact a2W rfl (.old (.val _)))⟩
  ·have u2:¬ x.ct=1:=by simpa using h2
   refine i8 ?_; refine G5 ?_;exact ⟨_,j5 rfl tt c6,(by rw [a0V,if_neg u1,if_neg u2]; exact a2W rfl (.old (.val _)))⟩
theorem b44 (hσ:WAt σ w q1 q2 t fl nn va br ms me) (x:En) (hx:b18 ms x):b8 CC 106 [.ptr w 0,.agg x.cells] σ fun r τ=>r = .ret (sv (a0V ms x))/\τ=σ :=
 b3k (fun a h=>by simp at h; subst h; exact En.pure _) (.val _) (b4t fl nn va br ms me x hx) hσ
def b3O (l:Str) (fs:List Fi):Str:=fs.foldl (fun l f=>a1p (a1p l f.p) f.b) l
theorem c3o {fs:List Fi} {y:Fi} (h:fs[i]? = some y) (l:Str):b3O l (fs.drop i)=b3O (a1p (a1p l y.p) y.b) (fs.drop (i+1)):=by
 obtain ⟨hlt,rfl⟩:=n_0.1 h;rw [Q9 hlt];rfl
theorem a2X {s:Str} (hs:s.length<=100000000000):(a1p l s).length<=l.length+s.length+10:=by
 have:=b1C (n:=s.length) (k:=9) om_;unfold a1p;simp only [n_6];omega
theorem c6E {fs:List Fi} (h:∀ f∈fs,f.p.length<=100/\f.b.length<=100000) (l:Str):(b3O l fs).length<=l.length+fs.length*101000:=by
 induction fs generalizing l with
 | nil=>simp [b3O]
 | cons y fs ih =>
  have h1:=h y si_;have h2:=ih (fun f hf=>h f (by simp [hf])) (a1p (a1p l y.p) y.b);have h3:=a2X (l:=a1p l y.p) (s:=y.b) om_;have h4:=a2X (l:=l) (s:=y.p) om_;rw [n_7,Q6];simp only [b3O,List.foldl_cons] at h2 ⊢;omega
def a0M (ms:SM) (fl:List Fi) (pkg:Str):Str:=[61]++b3O [] (A4 ms fl pkg)
theorem a3i {pkg:Str} {f:Fi} (h:f∈A4 ms fl pkg):f∈fl:=(b6D.1 h).1
theorem a7W (ms:SM) (fl:List Fi) (pkg:Str):(A4 ms fl pkg).length<=fl.length:=List.length_filter_le _ _
theorem b9P {pkg:Str} (hfl:fl.length<=1000) (hfb:∀ f∈fl,f.p.length<=100/\f.b.length<=100000):(a0M ms fl pkg).length<=102000000:=by
 have h1:=c6E (fun f hf=>hfb f (a3i hf)) (fs:=A4 ms fl pkg) [];have h2:=a7W ms fl pkg;have h3:(A4 ms fl pkg).length*101000<=1000*101000:=Q3 _ om_;unfold a0M;simp only [n_6,n_7,I7] at h1 ⊢;omega
theorem c9X (fl:List Fi) (nn va:Bool) (br:List Str) (ms:SM) (me:EM):WAt (wst fl nn va br ms me) 0 1 2 3 fl nn va br ms me:=⟨rfl,rfl,rfl,rfl,b4r ⟨de_,de_,de_,de_,de_,de_⟩⟩
theorem c2D (fl:List Fi) (nn va:Bool) (br:List Str) (ms:SM) (me:EM) (pkg:Str) (hfl:fl.length<=1000) (hfb:∀ f∈fl,f.p.length<=100/\f.b.length<=100000):b8 CC 115 [.ptr 0 0,(sv pkg)] (wst fl nn va br ms me) fun r τ=>C6 4 τ r (.ret (sv (a0M ms fl pkg))) (wst fl nn va br ms me):=by
 have hffl:=a7W ms fl pkg;refine (c4 Tryz.func115 rfl rfl ?_);refine z_6 ?_; refine z_6 ?_; refine a6H ?_; refine cY (c7 rfl Tryz.call158 j1 (b6N (c9X fl nn va br ms me) pkg om_) rfl) ?_; refine cY c4e ?_; refine a1n ?_; refine o0 hCC (α:=Nat × Str) (fun x=>[(5,(.list (x.2.map bcv) (gnn x.2.length) none)),(10,(.list ((A4 ms fl pkg).map Fi.cv) (gnn (A4 ms fl pkg).length) none)),(11,(.val (.int .i64 ((A4 ms fl pkg).length:Int)))),(12,(.val (.int .i64 (x.1:Int))))]) (fun _=>(wst fl nn va br ms me)) (fun x=>x.1<=(A4 ms fl pkg).length/\x.2.length<=x.1*101000/\b3O [] (A4 ms fl pkg)=b3O x.2 ((A4 ms fl pkg).drop x.1)) (fun x=>(A4 ms fl pkg).length - x.1) (0,[]) ⟨n_3 _,n_3 _,rfl⟩ tu_ (extra0:=[]) rfl A1 uz_ ?_; intro ⟨i,l⟩ ⟨hi,hl,hr⟩;dsimp only at hi hl hr ⊢;refine F2 ?_; refine cC (fun h1=>?_) fun h1=>?_
 ·have hlt:(i:Int) < (A4 ms fl pkg).length:=by simpa using h1
  obtain ⟨y,hb⟩:∃ y,(A4 ms fl pkg)[i]? = some y:=⟨(A4 ms fl pkg)[i]'om_,si_⟩;rw [c3o hb] at hr;obtain ⟨hyp,hyb⟩:=hfb y (a3i (n_1 hb));have hp1:=a2X (l:=l) (s:=y.p) om_;have hp2:=a2X (l:=a1p l y.p) (s:=y.b) om_;have hi2:i*101000<=1000*101000:=Q3 _ om_;refine b2Z ?_; refine i7 ?_; refine B4 8 [0,0,2,7,0,16,63,127] d5 d5 rfl ?_; refine hY j7 ?_; refine hY b5l ?_; refine hY Y2 ?_; refine hY (c7 rfl c0c j1 (a1a l _ y.p om_ om_ _) rfl) ?_; refine hY b5l ?_; refine hY Y2 ?_; refine hY (c7 rfl c0c j1 (a1a (a1p l y.p) _ y.b om_ om_ _) rfl) ?_; refine b2M ?_; refine a2F ?_;exact ⟨(i+1,a1p (a1p l y.p) y.b),_,⟨do_,do_,do_,hr⟩,tu_,rfl⟩
 ·have hge:(A4 ms fl pkg).length<=i:=by simp at h1; omega
  rw [U5 hge] at hr;replace hr:b3O [] (A4 ms fl pkg)=l:=hr;have hi2:i*101000<=1000*101000:=Q3 _ om_;refine a9I ?_; refine cY c4O ?_; refine cY (I6 rfl rfl tt rfl rfl (by show 1+l.length<=_; omega)) ?_; refine z_7 ?_;exact ⟨_,j5 rfl tt c6,(by rw [a0M,hr]; exact a2W rfl (.old (.val _)))⟩
theorem b5j (hσ:WAt σ w q1 q2 t fl nn va br ms me) (pkg:Str) (hfl:fl.length<=1000) (hfb:∀ f∈fl,f.p.length<=100/\f.b.length<=100000):b8 CC 115 [.ptr w 0,(sv pkg)] σ fun r τ=>r = .ret (sv (a0M ms fl pkg))/\τ=σ :=
 b3k (fun a h=>by simp at h; subst h; exact .val _) (.val _) (c2D fl nn va br ms me pkg hfl hfb) hσ
end Go.Proofs.YtlppbmfecjabeaaGreatDoor
namespace Go.Proofs
open Go.Shelf
def Tryz.lays190_ren:Go.Shelf.Ren:=⟨fun | 190=>161 | 125=>166 | 258=>206 | 128=>216 | 129=>217 | 302=>252 | 303=>253 | 304=>254 | 305=>255 | 306=>256 | 307=>257 | 308=>258 | 309=>259 | 310=>260 | 333=>291 | 329=>265 | 330=>266 | 334=>292 | 335=>293 | 336=>294 | 344=>311 | n=>n,fun | 31=>26 | 9=>9 | 3=>3 | 46=>141 | 0=>0 | 51=>262 | 53=>86 | 4=>4 | 183=>256 | 182=>255 | 131=>139 | 5=>5 | 218=>292 | 222=>296 | 228=>320 | 229=>321 | n=>n,fun | n=>n⟩
theorem Tryz.lays190:Go.Proofs.Lays.n190 Tryz.prog Tryz.lays190_ren:={
 mixed:=by kernel_rfl
 f125:=Tryz.func166.trans (congrArg some (by kernel_rfl))
 f128:=Tryz.func216.trans (congrArg some (by kernel_rfl))
 f129:=Tryz.func217.trans (congrArg some (by kernel_rfl))
 f190:=Tryz.func161.trans (congrArg some (by kernel_rfl))
 f258:=Tryz.func206.trans (congrArg some (by kernel_rfl))
 f302:=Tryz.func252.trans (congrArg some (by kernel_rfl))
 f303:=Tryz.func253.trans (congrArg some (by kernel_rfl))
 f304:=Tryz.func254.trans (congrArg some (by kernel_rfl))
 f305:=Tryz.func255.trans (congrArg some (by kernel_rfl))
 f306:=Tryz.func256.trans (congrArg some (by kernel_rfl))
 f307:=Tryz.func257.trans (congrArg some (by kernel_rfl))
 f308:=Tryz.func258.trans (congrArg some (by kernel_rfl))
 f309:=Tryz.func259.trans (congrArg some (by kernel_rfl))
 f310:=Tryz.func260.trans (congrArg some (by kernel_rfl))
 f329:=Tryz.func265.trans (congrArg some (by kernel_rfl))
 f330:=Tryz.func266.trans (congrArg some (by kernel_rfl))
 f333:=Tryz.func291.trans (congrArg some (by kernel_rfl))
 f334:=Tryz.func292.trans (congrArg some (by kernel_rfl))
 f335:=Tryz.func293.trans (congrArg some (by kernel_rfl))
 f336:=Tryz.func294.trans (congrArg some (by kernel_rfl))
 f344:=Tryz.func311.trans (congrArg some (by kernel_rfl))
 t0:=Tryz.underlying0
 a0:=Tryz.isAgg0
 z0:=Tryz.sizeOf0
 v0:=Tryz.zeroValue0
 t3:=c5O
 a3:=a3o
 z3:=t_1
 v3:=t_6
 t4:=Tryz.underlying4
 a4:=c6h
 z4:=c7x
 v4:=Tryz.zeroValue4
 t5:=Tryz.underlying5
 a5:=c6N
 z5:=a25
 v5:=a7M
 t9:=c4t
 a9:=t_8
 z9:=t_0
 v9:=t_3
 t31:=Tryz.underlying26
 a31:=c2A
 z31:=a3O
 v31:=Tryz.zeroValue26
 t46:=Tryz.underlying141
 a46:=Tryz.isAgg141
 z46:=Tryz.sizeOf141
 v46:=Tryz.zeroValue141
 t51:=Tryz.underlying262
 a51:=Tryz.isAgg262
 z51:=Tryz.sizeOf262
 v51:=Tryz.zeroValue262
 t53:=Tryz.underlying86
 a53:=Tryz.isAgg86
 z53:=Tryz.sizeOf86
 v53:=Tryz.zeroValue86
 t131:=Tryz.underlying139
 a131:=Tryz.isAgg139
 z131:=Tryz.sizeOf139
 v131:=Tryz.zeroValue139
 t182:=Tryz.underlying255
 a182:=Tryz.isAgg255
 z182:=Tryz.sizeOf255
 v182:=Tryz.zeroValue255
 t183:=Tryz.underlying256
 a183:=Tryz.isAgg256
 z183:=Tryz.sizeOf256
 v183:=Tryz.zeroValue256
 t218:=Tryz.underlying292
 a218:=Tryz.isAgg292
 z218:=Tryz.sizeOf292
 v218:=Tryz.zeroValue292
 t222:=Tryz.underlying296
 a222:=Tryz.isAgg296
 z222:=Tryz.sizeOf296
 v222:=Tryz.zeroValue296
 t228:=Tryz.underlying320
 a228:=Tryz.isAgg320
 z228:=Tryz.sizeOf320
 v228:=Tryz.zeroValue320
 t229:=Tryz.underlying321
 a229:=Tryz.isAgg321
 z229:=Tryz.sizeOf321
 v229:=Tryz.zeroValue321}
end Go.Proofs
namespace Go.Proofs.YtlppbmfecjabeaaGreatDoor
open Go Go.Cl
variable {fl:List Fi} {ms:SM} {σ G H W:List c5} {me:EM} {nn:Bool} {w q1 q2 t:Nat} {br N:List Str} {v:c5} {pkg s:Str} {f:Fi}
theorem c8Q {k:Nat} {ss:List Str} (hne:ss≠[]) (hlen:ss.length<=1000000) (hk:σ[k]? = some (.vec 1 (ss.map scv))):b8 CC 161 [.vec k 0 ss.length] σ fun r τ=>∃ _:Unit,r = .ret (.tup [])/\τ=σ.set k (.vec 1 ((a2f ss).map scv))/\True :=
 (c7M (f:=161) (fun blk off cap ss w h1 h2 h3=>b7q Tryz.lays190 blk off cap ss w h1 h2 h3) hne om_ hk).mono fun r τ h=>⟨(),h.1,h.2,tt⟩
def a1P (ms:SM) (f:Fi):List Str:=((glk ms f.p).getD Src.z).imports
inductive Reach (ms:SM) (fl:List Fi) (pkg:Str):Str->Prop where
 | base:Reach ms fl pkg pkg
 | step {n:Str} {f:Fi} {s:Str}:Reach ms fl pkg n->f∈A4 ms fl n->s∈a1P ms f->Reach ms fl pkg s
def allI (ms:SM) (fl:List Fi):List Str:=fl.flatMap (a1P ms)
theorem c6L {n:Str} (h:Reach ms fl pkg n):n∈pkg::allI ms fl:=by
 cases h with
 | base=>simp
 | step _ hf hs=>exact a9r _ (List.mem_flatMap.2 ⟨_,a3i hf,hs⟩)
structure NmI (ms:SM) (fl:List Fi) (pkg:Str) (N:List Str):Prop where
 nd:N.Nodup
 rch:∀ n∈N,Reach ms fl pkg n
 pk:pkg∈N
theorem NmI.len (h:NmI ms fl pkg N):N.length<=1+(allI ms fl).length:=by
 have:=List.Nodup.length_le_of_subset h.nd (fun n hn=>c6L (h.rch n hn));simpa [c3Z] using this
theorem NmI.snoc {n:Str} (h:NmI ms fl pkg N) (hn:n∈N) (hf:f∈A4 ms fl n) (hs:s∈a1P ms f) (hsN:s∉N):NmI ms fl pkg (N++[s]) where
 nd:=a6l h.nd hsN
 rch:=fun m hm=>by
  rcases a0y.1 hm with hm | hm
  ·exact h.rch m hm
  ·simp at hm; subst hm; exact .step (h.rch n hn) hf hs
 pk:=b6S _ h.pk
theorem b3S (h:NmI ms fl pkg N) (hc:∀ n∈N,∀ f∈A4 ms fl n,∀ s∈a1P ms f,s∈N) (n:Str):n∈N↔Reach ms fl pkg n :=
 ⟨h.rch n,fun hr=>by
  induction hr with
  | base=>exact h.pk
  | step _ hf hs ih=>exact hc _ ih _ hf _ hs⟩
theorem b7w {A B:List Str} (hA:A.Nodup) (hB:B.Nodup) (h:∀ n,n∈A↔n∈B):a2f A=a2f B:=by
 have hp:A.Perm B:=(List.perm_ext_iff_of_nodup hA hB).2 h;have tr:∀ (a b c:Str),decide (a<=b)=true->decide (b<=c)=true->decide (a<=c)=true:=fun a b c h1 h2=>by
  simp only [a5s] at h1 h2 ⊢; exact List.le_trans h1 h2
 have to:∀ (a b:Str),(decide (a<=b) || decide (b<=a))=true:=fun a b=>by
  simp only [a4T,a5s]; exact List.le_total a b
 refine List.Perm.eq_of_pairwise (le:=fun a b=>decide (a<=b)=true) (fun a b _ _ h1 h2=>?_) (List.pairwise_mergeSort tr to A) (List.pairwise_mergeSort tr to B) ((List.mergeSort_perm A _).trans (hp.trans (List.mergeSort_perm B _).symm));simp only [a5s] at h1 h2;exact List.le_antisymm h1 h2
open Classical in
noncomputable def b9u (ms:SM) (fl:List Fi) (pkg:Str):List Str:=if h:∃ N:List Str,N.Nodup/\∀ n,n∈N↔Reach ms fl pkg n then a2f h.choose else []
theorem c19 (hN:N.Nodup) (h:∀ n,n∈N↔Reach ms fl pkg n):b9u ms fl pkg=a2f N:=by
 have hex:∃ N:List Str,N.Nodup/\∀ n,n∈N↔Reach ms fl pkg n:=⟨N,hN,h⟩;unfold b9u;rw [dif_pos hex];exact b7w hex.choose_spec.1 hN fun n=>(hex.choose_spec.2 n).trans (h n).symm
def c3r (ms:SM) (fl:List Fi) (l:Str) (N:List Str):Str:=N.foldl (fun l s=>a1p (a1p l s) (a0M ms fl s)) l
theorem c3E {i:Nat} {y:Str} (h:N[i]? = some y) (l:Str):c3r ms fl l (N.drop i)=c3r ms fl (a1p (a1p l y) (a0M ms fl y)) (N.drop (i+1)):=by
 obtain ⟨hlt,rfl⟩:=n_0.1 h;rw [Q9 hlt];rfl
noncomputable def b6m (ms:SM) (fl:List Fi) (pkg:Str):Str:=[61]++c3r ms fl [] (b9u ms fl pkg)
def tst (W G:List c5) (v:c5) (H:List c5):List c5:=W++G++v::H
theorem a2Z (hW:W.length=4):(tst W G v H)[4+G.length]? = some v:=by
 rw [tst,a0a (by simp [hW])]; simp [hW]
theorem b98 {v':c5} (hW:W.length=4):(tst W G v H).set (4+G.length) v'=tst W G v' H:=by
 rw [tst,List.set_append_right _ _ (by simp [hW])]; simp [hW,tst]
theorem c9G {v':c5} (hW:W.length=4):(tst W G v H).set (4+G.length) .dead++[v']=tst W (G++.dead::H) v' []:=by
 rw [b98 hW]; simp [tst]
theorem c9k (hW:W.length=4):(tst W G v H).length=4+(G++c5.dead::H).length:=by
 simp [tst,hW]
theorem d0w (a b:c5):(tst W G v H++[a]).set (tst W G v H).length b=tst W G v (H++[b]):=by
 rw [List.set_append_right _ _ (n_4 _)]; simp [tst]
theorem b15 {k:Nat} (s:Str) (hk:σ[k]? = some (.vec 1 (N.map scv))) (hl:N.length<=1000000):b8 CC 160 [.vec k 0 N.length,sv s] σ fun r σ'=>r = .ret (.val (.bool (decide (s∈N))))/\σ'=σ:=by
 have h:=a6v N true s om_;refine b12 (len:=N.length) (rows:=N.map scv) hCC (fun a ha=>by simp at ha; subst ha; exact .val _) (fun r hr c hc=>?_) si_ hk ?_
 ·obtain ⟨x,_,rfl⟩:=K3.1 hr;simp [scv] at hc;subst hc;exact .val _
 ·rw [show ((N.map scv).drop 0).take N.length=N.map scv from by rw [b0H,Y9 si_]];exact h
theorem c1s (fl:List Fi) (nn va:Bool) (br:List Str) (ms:SM) (me:EM):WAt (tst (wst fl nn va br ms me) G v H) 0 1 2 3 fl nn va br ms me:=⟨rfl,rfl,rfl,rfl,b4r ⟨de_,de_,de_,de_,de_,de_⟩⟩
theorem c77 (h:f∈fl):(a1P ms f).length<=(allI ms fl).length:=by
 unfold allI
 induction fl with
 | nil=>cases h
 | cons x l ih =>
  rw [b5u,n_6]
  rcases Q2.1 h with rfl | h
  ·omega
  ·have:=ih h; omega
theorem c7V (fl:List Fi) (nn va:Bool) (br:List Str) (ms:SM) (me:EM) (pkg:Str) (hfl:fl.length<=64) (hfb:∀ f∈fl,f.p.length<=100/\f.b.length<=100000) (allI_len:(allI ms fl).length<=512) (reach_len:∀ {n:Str},Reach ms fl pkg n->n.length<=100000):b8 CC 117 [.ptr 0 0,(sv pkg)] (wst fl nn va br ms me) fun r τ=>C6 4 τ r (.ret (sv (b6m ms fl pkg))) (wst fl nn va br ms me):=by
 refine (c4 Tryz.func117 rfl rfl ?_);refine a1T ?_;refine cD (d0v rfl tt rfl rfl t_2 t_0 t_3 rfl ?_);refine z_2 ?_; refine w8 ?_; refine b2y ?_; refine S3 (α:=Nat × List Str × List c5 × List c5) (fun x=>[(0,.ptr 0 0),(5,.vec (4+x.2.2.1.length) 0 x.2.1.length),(6,(.val (.int .i64 (x.1:Int))))]) (fun x=>tst (wst fl nn va br ms me) x.2.2.1 (.vec 1 (x.2.1.map scv)) x.2.2.2) (fun x=>NmI ms fl pkg x.2.1/\x.1<=x.2.1.length/\∀ n∈x.2.1.take x.1,∀ f∈A4 ms fl n,∀ s∈a1P ms f,s∈x.2.1) (fun x=>1+(allI ms fl).length - x.1) (0,[pkg],[],[]) ⟨⟨si_,fun n hn=>by simp at hn; subst hn; exact .base,si_⟩,n_3 _,fun n hn=>by simp at hn⟩ tu_ rfl ?_; intro ⟨i,N,G,H⟩ _ ⟨hN,hi,hc⟩;dsimp only at hN hi hc ⊢;have hNl:=hN.len;have hal:=allI_len;refine a6H ?_; refine cY (a2p rfl tt rfl t_2 rfl rfl) ?_; refine a9A ?_; refine cC (fun h1=>?_) fun h1=>?_
 ·have hlt:i < N.length:=by simp at h1; omega
  obtain ⟨n,gn⟩:∃ n,N[i]? = some n:=⟨N[i]'hlt,si_⟩;have hffl:=a7W ms fl n;refine a6K ?_; refine a0n ?_; refine cY (Q8 rfl tt tt rfl rfl t_2 t_0 (a2Z rfl) om_ om_) ?_; refine cY (a0i rfl tt rfl t_8 (a2Z rfl) (j8 (by rw [n_8]; exact gn)) rfl) ?_; refine cY (c7 rfl Tryz.call158 j1 (b6N (c1s fl nn va br ms me) n om_) rfl) ?_; refine cY c4e ?_; refine a1n ?_; refine S3 (α:=Nat × List Str × List c5 × List c5) (fun x=>[(0,.ptr 0 0),(5,.vec (4+x.2.2.1.length) 0 x.2.1.length),(6,(.val (.int .i64 (i:Int)))),(27,(.list ((A4 ms fl n).map Fi.cv) (gnn (A4 ms fl n).length) none)),(28,(.val (.int .i64 ((A4 ms fl n).length:Int)))),(29,(.val (.int .i64 (x.1:Int))))]) (fun x=>tst (wst fl nn va br ms me) x.2.2.1 (.vec 1 (x.2.1.map scv)) x.2.2.2) (fun x=>NmI ms fl pkg x.2.1/\(∃ t,x.2.1=N++t)/\x.1<=(A4 ms fl n).length/\∀ f∈(A4 ms fl n).take x.1,∀ s∈a1P ms f,s∈x.2.1) (fun x=>(A4 ms fl n).length - x.1) (0,N,G,H) ⟨hN,⟨[],si_⟩,n_3 _,fun f hf=>by simp at hf⟩ tu_ rfl ?_; intro ⟨q,N1,G1,H1⟩ _ ⟨hN1,hpre,hq,hc1⟩;dsimp only at hN1 hpre hq hc1 ⊢;have hNl1:=hN1.len;refine F2 ?_; refine cC (fun h2=>?_) fun h2=>?_
  ·have hlq:q < (A4 ms fl n).length:=by simp at h2; omega
   obtain ⟨y,hy⟩:∃ y,(A4 ms fl n)[q]? = some y:=⟨(A4 ms fl n)[q]'hlq,si_⟩;have hym:=n_1 hy;refine a1O ?_; refine cY (t6 rfl tt tt rfl rfl a27 a1S om_ (j8 hy) rfl) ?_; refine cY d2Q ?_;refine cD (r6 rfl a34 rfl o4 ?_);refine cD (j3 rfl tt tt rfl c6 a1S o4 b1Z rfl (nb rfl) ?_);refine z_8 ?_; refine B4 10 [0,1,3,7,0,16,63,127,255,0] d5 d5 rfl ?_; refine a5r ?_; refine hY b71 ?_; refine hY b66 ?_; refine hY b5l ?_; refine hY (o9 rfl tt rfl t_8 (by rw [b4J si_]) rfl) ?_; refine hY (P9 (vc:=vcS) (l:=ms) (a:=y.p) b6h rfl tt tt rfl rfl c1T a5l rfl rfl (a40 Src.z rfl _)) ?_; refine hY (a2t rfl tt rfl a7j rfl c2A rfl) ?_; refine hY a4N ?_; refine hY d1j ?_; refine N3 ?_; refine a5q ?_; refine S3 (α:=Nat × List Str × List c5 × List c5) (fun x=>[(0,.ptr 0 0),(5,.vec (4+x.2.2.1.length) 0 x.2.1.length),(6,(.val (.int .i64 (i:Int)))),(27,(.list ((A4 ms fl n).map Fi.cv) (gnn (A4 ms fl n).length) none)),(28,(.val (.int .i64 ((A4 ms fl n).length:Int)))),(29,(.val (.int .i64 (q:Int)))),(40,(.list ((a1P ms y).map scv) (gnn (a1P ms y).length) none)),(41,(.val (.int .i64 ((a1P ms y).length:Int)))),(42,(.val (.int .i64 (x.1:Int))))]) (fun x=>tst (wst fl nn va br ms me) x.2.2.1 (.vec 1 (x.2.1.map scv)) x.2.2.2) (fun x=>NmI ms fl pkg x.2.1/\(∃ t,x.2.1=N1++t)/\x.1<=(a1P ms y).length/\∀ s∈(a1P ms y).take x.1,s∈x.2.1) (fun x=>(a1P ms y).length - x.1) (0,N1,G1,H1++[.box y.cells]) ⟨hN1,⟨[],si_⟩,n_3 _,fun f hf=>by simp at hf⟩ tu_ (d0w _ _) ?_; intro ⟨r,N2,G2,H2⟩ _ ⟨hN2,hpre2,hr,hc2⟩;dsimp only at hN2 hpre2 hr hc2 ⊢;have hNl2:=hN2.len;have hil:(a1P ms y).length<=(allI ms fl).length:=c77 (a3i hym);refine F2 ?_; refine cC (fun h3=>?_) fun h3=>?_
   ·have hlr:r < (a1P ms y).length:=by simp at h3; omega
    obtain ⟨s,hs⟩:∃ s,(a1P ms y)[r]? = some s:=⟨(a1P ms y)[r]'hlr,si_⟩;have hsm:=n_1 hs;have htk:(a1P ms y).take (r+1)=(a1P ms y).take r++[s]:=by rw [b0l,hs]; rfl
    refine a1O ?_; refine cY (t6 rfl tt tt rfl rfl t_2 t_0 om_ (j8 hs) rfl) ?_; refine cY a0T ?_; refine a7J ?_; refine cY (c7 rfl c6V j1 (b15 s (a2Z rfl) om_) rfl) ?_; refine T7 ?_; refine cC (fun h4=>?_) fun h4=>?_
    ·have h4':s∉N2:=by simpa using h4
     obtain ⟨t1,ht1⟩:=hpre;obtain ⟨t2,ht2⟩:=hpre2;have hnN2:n∈N2:=by rw [ht2,ht1]; simp [n_1 gn]
     have hsn:=hN2.snoc hnN2 hym hsm h4';have hsnl:=hsn.len;rw [n_6,b5M] at hsnl;refine R7 ?_; refine cY (A3 [scv s] rfl ⟨tt,tt⟩ t_2 t_0 t_3 rfl rfl rfl rfl rfl rfl rfl rfl rfl) ?_;refine cD (a9k ((N2++[s]).map scv) (N2++[s]).length rfl tt tt rfl R6 t_2 t_0 a8h t_3 rfl (a2Z rfl) H3 si_ V5 H3 si_ si_ ?_);refine a8G ?_;exact ⟨(r+1,N2++[s],G2++.dead::H2,[]),do_,⟨hsn,⟨t2++[s],by rw [ht2,n_9]⟩,do_,fun z hz=>by
      dsimp only at hz ⊢;rw [htk] at hz
      rcases a0y.1 hz with hz | hz
      ·exact b6S _ (hc2 z hz)
      ·simp at hz; subst hz; simp⟩,⟨B0,⟨tt,(congrArg (fun k=>CV.vec k 0 (N2++[s]).length) (c9k rfl))⟩,B0,B0,B0,B0,B0,B0,B0,tt⟩,(c9G rfl)⟩
    ·have h4':s∈N2:=by simpa using h4
     refine a2h ?_;exact ⟨(r+1,N2,G2,H2),do_,⟨hN2,hpre2,do_,fun z hz=>by
      dsimp only at hz ⊢;rw [htk] at hz
      rcases a0y.1 hz with hz | hz
      ·exact hc2 z hz
      ·simp at hz; subst hz; exact h4'⟩,tu_,rfl⟩
   ·have hre:r=(a1P ms y).length:=by simp at h3; omega
    obtain ⟨t1,ht1⟩:=hpre;obtain ⟨t2,ht2⟩:=hpre2;have htk:(A4 ms fl n).take (q+1)=(A4 ms fl n).take q++[y]:=by rw [b0l,hy]; rfl
    refine a8O ?_;exact ⟨(q+1,N2,G2,H2),do_,⟨hN2,⟨t1++t2,by rw [ht2,ht1,n_9]⟩,do_,fun z hz s hs=>by
     dsimp only at hz ⊢;rw [htk] at hz
     rcases a0y.1 hz with hz | hz
     ·rw [ht2]; exact b6S _ (hc1 z hz s hs)
     ·simp at hz; subst hz; exact hc2 s (by rw [hre,Y9 (n_4 _)]; exact hs)⟩,tu_,rfl⟩
  ·have hqe:q=(A4 ms fl n).length:=by simp at h2; omega
   obtain ⟨t1,ht1⟩:=hpre;have htk:N1.take (i+1)=N.take i++[n]:=by
    rw [ht1,List.take_append_of_le_length om_,b0l,gn]; rfl
   refine z6 ?_; refine a4M ?_;exact ⟨(i+1,N1,G1,H1),do_,⟨hN1,by dsimp only; rw [ht1,n_6]; omega,fun z hz f hf s hs=>by
    dsimp only at hz ⊢;rw [htk] at hz
    rcases a0y.1 hz with hz | hz
    ·rw [ht1]; exact b6S _ (hc z hz f hf s hs)
    ·simp at hz; subst hz; exact hc1 f (by rw [hqe,Y9 (n_4 _)]; exact hf) s hs⟩,tu_,rfl⟩
 ·have hie:i=N.length:=by simp at h1; omega
  have hcl:=b3S hN (fun n hn=>hc n (by rw [hie,Y9 (n_4 _)]; exact hn));have hT:=c19 hN.nd hcl;have hpl:(a2f N).length=N.length:=List.length_mergeSort _;have hne:N≠[]:=fun h=>by have:=hN.pk; rw [h] at this; cases this
  refine a9I ?_;refine cD (b9 rfl Tryz.call161 ⟨tt,tt⟩ (c8Q hne om_ (a2Z rfl)) rfl ?_);intro _ _; refine c8 (tst (wst fl nn va br ms me) G (.vec 1 ((a2f N).map scv)) H) (b98 rfl) ?_; refine i7 ?_; refine a04 ?_; refine cY (a2p rfl tt rfl t_2 rfl rfl) ?_; refine a1n ?_; refine S3 (α:=Nat × Str) (fun x=>[(0,.ptr 0 0),(11,(.list (x.2.map bcv) (gnn x.2.length) none)),(58,.vec (4+G.length) 0 N.length),(59,(.val (.int .i64 (N.length:Int)))),(60,(.val (.int .i64 (x.1:Int))))]) (fun _=>tst (wst fl nn va br ms me) G (.vec 1 ((a2f N).map scv)) H) (fun x=>x.1<=N.length/\x.2.length<=x.1*103000000/\c3r ms fl [] (a2f N)=c3r ms fl x.2 ((a2f N).drop x.1)) (fun x=>N.length - x.1) (0,[]) ⟨n_3 _,n_3 _,rfl⟩ tu_ rfl ?_; intro ⟨j,l⟩ _ ⟨hj,hl,hr⟩;dsimp only at hj hl hr ⊢;refine F2 ?_; refine cC (fun h5=>?_) fun h5=>?_
  ·have hlj:j < N.length:=by simp at h5; omega
   obtain ⟨s,hs⟩:∃ s,(a2f N)[j]? = some s:=⟨(a2f N)[j]'om_,si_⟩;rw [c3E hs] at hr;have hsl:=reach_len (hN.rch s ((List.mergeSort_perm N _).mem_iff.1 (n_1 hs)));have hfc:=b9P (ms:=ms) (pkg:=s) om_ hfb;have hp1:=a2X (l:=l) (s:=s) om_;have hp2:=a2X (l:=a1p l s) (s:=a0M ms fl s) om_;have hj2:j*103000000<=600*103000000:=Q3 _ om_;refine a1O ?_; refine cY (Q8 rfl tt tt rfl rfl t_2 t_0 (a2Z rfl) om_ om_) ?_; refine cY (a0i rfl tt rfl t_8 (a2Z rfl) (j8 (by rw [n_8]; exact hs)) rfl) ?_; refine z_2 ?_; refine R7 ?_; refine cY (c7 rfl c0c j1 (a1a l _ s om_ om_ _) rfl) ?_; refine a8a ?_; refine cY (c7 rfl Tryz.call115 j1 (b5j (c1s fl nn va br ms me) s om_ hfb) rfl) ?_; refine cY (c7 rfl c0c j1 (a1a (a1p l s) _ (a0M ms fl s) om_ om_ _) rfl) ?_; refine a8G ?_;exact ⟨(j+1,a1p (a1p l s) (a0M ms fl s)),do_,⟨do_,do_,hr⟩,tu_,rfl⟩
  ·have hje:j=N.length:=by simp at h5; omega
   rw [hje,<- hpl,List.drop_length] at hr;replace hr:c3r ms fl [] (a2f N)=l:=hr;have hj2:j*103000000<=600*103000000:=Q3 _ om_;refine a9I ?_; refine cY c4O ?_; refine cY (I6 rfl rfl tt rfl rfl (by show 1+l.length<=_; omega)) ?_; refine z_7 ?_;exact ⟨_,j5 rfl tt c6,(by rw [b6m,hT,hr]; exact a2W rfl (.old (.val _)))⟩
theorem c9z {va:Bool} (hσ:WAt σ w q1 q2 t fl nn va br ms me) (pkg:Str) (hfl:fl.length<=64) (hfb:∀ f∈fl,f.p.length<=100/\f.b.length<=100000) (allI_len:(allI ms fl).length<=512) (reach_len:∀ {n:Str},Reach ms fl pkg n->n.length<=100000):b8 CC 117 [.ptr w 0,(sv pkg)] σ fun r τ=>r = .ret (sv (b6m ms fl pkg))/\τ=σ :=
 b3k (fun a h=>by simp at h; subst h; exact .val _) (.val _) (c7V fl nn va br ms me pkg hfl hfb allI_len reach_len) hσ
theorem a29 {va:Bool} (hσ:WAt σ w q1 q2 t fl nn va br ms me) (l:List c5):WAt (σ++l) w q1 q2 t fl nn va br ms me:=⟨a1e hσ.hw l,a1e hσ.hs l,a1e hσ.he l,a1e hσ.ht l,hσ.nd⟩
structure WOk (fl:List Fi) (ms:SM) (me:EM):Prop where
 len:fl.length<=64
 fb:∀ f∈fl,f.p.length<=100/\f.b.length<=100000
 src:∀ p s,glk ms p=some s->a7F s
 ent:∀ k e,glk me k=some e->b18 ms e
theorem WOk.find (h:WOk fl ms me) (k:Int) (p o:Str):b18 ms (Y7 true me k p o):=by
 unfold Y7;rw [if_pos rfl]
 split
 ·rename_i x hx;exact h.ent _ _ hx
 ·intro h1; cases h1
theorem WOk.imp (h:WOk fl ms me) (f:Fi):(a1P ms f).length<=8/\∀ s∈a1P ms f,s.length<=24:=by
 unfold a1P;cases hg:glk ms f.p with
 | none=>exact ⟨n_3 _,fun s hs=>by cases hs⟩
 | some x =>
  have:=h.src _ _ hg;exact ⟨this.impl,fun s hs=>D7 (this.imp s hs).1⟩
theorem WOk.allI {fl:List Fi} {ms:SM} {me:EM} (h:WOk fl ms me):(allI ms fl).length<=512:=by
 have:∀ l:List Fi,(Go.Proofs.YtlppbmfecjabeaaGreatDoor.allI ms l).length<=8*l.length:=fun l=>by
  induction l with
  | nil=>exact n_3 _
  | cons x l ih =>
   have:=(h.imp x).1;unfold Go.Proofs.YtlppbmfecjabeaaGreatDoor.allI at ih ⊢;rw [b5u,n_6,n_7];omega
 have h1:=this fl;have h2:=h.len;omega
theorem WOk.reach {fl:List Fi} {ms:SM} {me:EM} (h:WOk fl ms me) {pkg:Str} (hp:pkg.length<=100) {n:Str} (hr:Reach ms fl pkg n):n.length<=100000:=by
 cases hr with
 | base=>omega
 | @step _ f _ _ _ hs=>have:=(h.imp f).2 _ hs; omega
noncomputable def S5 (fl:List Fi) (ms:SM) (me:EM) (ev:List Va) (k:Ky):Str :=
 if k.k=1 then a0V ms (Y7 true me 1 k.a k.b) else if k.k=2 then a0V ms (Y7 true me 2 k.a k.b) else if k.k=3 then a0V ms (Y7 true me 3 [] k.a)
 else if k.k=4 then (if (C7 fl k.a).isSome then [61]++(C7 fl k.a).getD [] else [45]) else if k.k=5 then (if (a6s ev k.a).isSome then [61]++Lib.itoa ((a6s ev k.a).getD 0) else [45])
 else if k.k=6 then a0M ms fl k.a else b6m ms fl k.a
theorem b3y {b:Str} (h:C7 fl s=some b):∃ f∈fl,f.b=b:=by
 unfold C7 at h;rw [Q1] at h;obtain ⟨f,hf,rfl⟩:=h;exact ⟨f,b9V hf,rfl⟩
theorem c7e {ev:List Va} {v:Int} (hev:∀ v∈ev,-9223372036854775808<=v.v/\v.v<=9223372036854775807) (h:a6s ev s=some v) : -9223372036854775808<=v/\v<=9223372036854775807:=by
 unfold a6s at h;rw [Q1] at h;obtain ⟨x,hx,rfl⟩:=h;exact hev x (b9V hx)
theorem d4V (hσ:WAt σ w q1 q2 t fl nn true br ms me) (hok:WOk fl ms me) (k:Ky):b8 CC 105 [.ptr w 0,.agg k.cells] σ fun r τ=>r = .ret (sv (a0V ms (Y7 true me 1 k.a k.b)))/\τ=σ:=by
 refine d4 (c4 Tryz.func105 rfl rfl ?_);refine a2n ?_; refine z_4 ?_; refine cY a5T ?_; refine cY (o9 rfl tt rfl t_8 b1Z rfl) ?_; refine cY a5T ?_; refine cY (o9 rfl tt rfl t_8 b1Z rfl) ?_; refine cY (c7 rfl c5m ⟨tt,rfl,tt,tt,tt⟩ (b3V (a29 hσ _) 1 k.a k.b) rfl) ?_; refine cY c5z ?_;exact b5o
theorem d5V (hσ:WAt σ w q1 q2 t fl nn true br ms me) (hok:WOk fl ms me) (k:Ky):b8 CC 107 [.ptr w 0,.agg k.cells] σ fun r τ=>r = .ret (sv (a0V ms (Y7 true me 2 k.a k.b)))/\τ=σ:=by
 refine d4 (c4 Tryz.func107 rfl rfl ?_);refine a2n ?_; refine z_4 ?_; refine cY a5T ?_; refine cY (o9 rfl tt rfl t_8 b1Z rfl) ?_; refine cY a5T ?_; refine cY (o9 rfl tt rfl t_8 b1Z rfl) ?_; refine cY (c7 rfl c5m ⟨tt,rfl,tt,tt,tt⟩ (b3V (a29 hσ _) 2 k.a k.b) rfl) ?_; refine cY c5z ?_;exact b5o
theorem d5o (hσ:WAt σ w q1 q2 t fl nn true br ms me) (hok:WOk fl ms me) (k:Ky):b8 CC 108 [.ptr w 0,.agg k.cells] σ fun r τ=>r = .ret (sv (a0V ms (Y7 true me 3 [] k.a)))/\τ=σ:=by
 refine d4 (c4 Tryz.func108 rfl rfl ?_);refine a2n ?_; refine z_4 ?_; refine cY a5T ?_; refine cY (o9 rfl tt rfl t_8 b1Z rfl) ?_; refine cY (c7 rfl c5m ⟨tt,rfl,rfl,tt,tt⟩ (b3V (a29 hσ _) 3 [] k.a) rfl) ?_; refine cY c5z ?_;exact b5o
theorem d4t (hσ:WAt σ w q1 q2 t fl nn true br ms me) (hok:WOk fl ms me) (k:Ky):b8 CC 109 [.ptr w 0,.agg k.cells] σ fun r τ=>r = .ret (sv (if (C7 fl k.a).isSome then [61]++(C7 fl k.a).getD [] else [45]))/\τ=σ:=by
 refine d4 (c4 Tryz.func109 rfl rfl ?_);refine a2n ?_; refine z_1 ?_; refine cY a5T ?_; refine cY (o9 rfl tt rfl t_8 b1Z rfl) ?_; refine cY (c7 rfl Tryz.call110 j1 (c9q (a29 hσ _) k.a (by have:=hok.len; omega)) rfl) ?_; refine a2P ?_; refine a4a ?_; refine T7 ?_; refine cC (fun h1=>?_) fun h1=>?_
 ·have u1:(C7 fl k.a).isSome=false:=by simpa using h1
  refine G5 ?_;exact ⟨_,j5 rfl tt c6,_,_,rfl,rfl,a0q (by rw [u1]; rfl)⟩
 ·have u1:(C7 fl k.a).isSome=true:=by simpa using h1
  obtain ⟨b,hb⟩:=b8X.1 u1;obtain ⟨f,hf,hfb⟩:=b3y hb;have hlen:=(hok.fb f hf).2;rw [hb];refine a05 ?_; refine cY (I6 rfl rfl tt rfl rfl (by show 1+b.length<=_; rw [<- hfb]; omega)) ?_; refine z_7 ?_;exact ⟨_,j5 rfl tt c6,_,_,rfl,rfl,a0q (show str ([61]++(some b).getD [])=_ from rfl)⟩
theorem d4K (hσ:WAt σ w q1 q2 t fl nn true br ms me) (hok:WOk fl ms me) (k:Ky):b8 CC 114 [.ptr w 0,.agg k.cells] σ fun r τ=>r = .ret (sv (a0M ms fl k.a))/\τ=σ:=by
 refine d4 (c4 Tryz.func114 rfl rfl ?_);refine a2n ?_; refine z_1 ?_; refine cY a5T ?_; refine cY (o9 rfl tt rfl t_8 b1Z rfl) ?_; refine cY (c7 rfl Tryz.call115 j1 (b5j (a29 hσ _) k.a (by have:=hok.len; omega) hok.fb) rfl) ?_;exact b5o
theorem d43 (hσ:WAt σ w q1 q2 t fl nn true br ms me) (hok:WOk fl ms me) (k:Ky)(hka:k.a.length<=100):b8 CC 116 [.ptr w 0,.agg k.cells] σ fun r τ=>r = .ret (sv (b6m ms fl k.a))/\τ=σ:=by
 refine d4 (c4 Tryz.func116 rfl rfl ?_);refine a2n ?_; refine z_1 ?_; refine cY a5T ?_; refine cY (o9 rfl tt rfl t_8 b1Z rfl) ?_; refine cY (c7 rfl Tryz.call117 j1 (c9z (a29 hσ _) k.a hok.len hok.fb hok.allI (hok.reach hka)) rfl) ?_;exact b5o
theorem d4F {q:Nat} {ev:List Va} (hq:σ[q]? = some (.box (L8 ev nn))) (hev:∀ v∈ev,-9223372036854775808<=v.v/\v.v<=9223372036854775807) (hel:ev.length<=1000000000) (k:Ky):b8 CC 111 [.ptr w 0,.agg k.cells,.ptr q 0] σ fun r τ=>r = .ret (sv (if (a6s ev k.a).isSome then [61]++Lib.itoa ((a6s ev k.a).getD 0) else [45]))/\τ=σ:=by
 refine d4 (c4 Tryz.func111 rfl rfl ?_);refine a2n ?_; refine z_0 ?_; refine cY (Q0 rfl tt rfl b6r b4X (a1e hq _) (nb rfl)) ?_; refine cY a5T ?_; refine cY (o9 rfl tt rfl t_8 b1Z rfl) ?_; refine cY (c7 rfl Tryz.call112 j1 (b14 ev nn k.a hel _) rfl) ?_; refine a2P ?_; refine a4a ?_; refine T7 ?_; refine cC (fun h1=>?_) fun h1=>?_
 ·have u1:(a6s ev k.a).isSome=false:=by simpa using h1
  refine G5 ?_;exact ⟨_,j5 rfl tt c6,_,_,rfl,rfl,a0q (by rw [u1]; rfl)⟩
 ·have u1:(a6s ev k.a).isSome=true:=by simpa using h1
  obtain ⟨v,hv⟩:=b8X.1 u1;have hvr:=c7e hev hv;rw [hv];have hil:=a6O hvr.1 hvr.2;refine a05 ?_; refine cY (c7 rfl c50 ⟨tt,tt⟩ (b9C v hvr.1 hvr.2 _) rfl) ?_; refine cY (I6 rfl rfl tt rfl rfl (by show 1+(Lib.itoa v).length<=_; omega)) ?_; refine z_7 ?_;exact ⟨_,j5 rfl tt c6,_,_,rfl,rfl,a0q (show str ([61]++Lib.itoa v)=_ from rfl)⟩
theorem b8v:∀ {pv:Option Fi} {l:List Fi},rvE pv l=0->(∀ g,pv=some g->∀ f∈l,g.p < f.p)/\l.Pairwise fun a b=>a.p < b.p
 | _,[],_=>⟨fun _ _ f hf=>(by cases hf),List.Pairwise.nil⟩
 | pv,x::l,h=>by
  rw [rvE] at h;split at h
  ·rename_i hs;obtain ⟨h1,h2⟩:=b8v h;have hx:∀ g,pv=some g->g.p < x.p:=fun g hg=>by
    subst hg;unfold G6 at hs;split at hs
    ·cases hs
    ·split at hs
     ·cases hs
     ·rename_i h3;split at hs
      ·cases hs
      ·rename_i h4;simp only [Option.any_some,a5s] at h3 h4;rw [bytesLess_eq,a5s] at h4
       rcases List.le_total g.p x.p with h5 | h5
       ·rcases Decidable.em (g.p < x.p) with h6 | h6
        ·exact h6
        ·exact absurd (List.le_antisymm h5 (List.not_lt.1 h6)).symm h3
       ·rcases Decidable.em (g.p < x.p) with h6 | h6
        ·exact h6
        ·exact absurd (List.le_antisymm h5 (List.not_lt.1 h4)) h3
   refine ⟨fun g hg f hf=>?_,.cons (fun f hf=>h1 x rfl f hf) h2⟩
   rcases Q2.1 hf with rfl | hf
   ·exact hx g hg
   ·exact List.lt_trans (hx g hg) (h1 x rfl f hf)
  ·rename_i hs;exact absurd h hs
structure WI (seen:List Str) (ms:SM) (me:EM):Prop where
 src:∀ p x,glk ms p=some x->a7F x/\p∈seen
 ent:∀ k e,glk me k=some e->1<=e.ct/\b18 ms e
theorem b7Z {ms:SM} {path:Str} {x:Src} (hg:glk ms path=some x) (hx:a7F x):∀ (n k:Nat) (me:EM),x.decls.length - k=n->(∀ k e,glk me k=some e->1<=e.ct/\b18 ms e)->∀ q e,glk (addDs me path x.pkg (x.decls.drop k) k) q=some e->1<=e.ct/\b18 ms e
 | 0,k,me,hn,h,q,e,he=>by
  rw [U5 om_,addDs] at he;exact h q e he
 | n+1,k,me,hn,h,q,e,he=>by
  obtain ⟨d,hd⟩:∃ d,x.decls[k]? = some d:=⟨x.decls[k]'om_,si_⟩;rw [a58 hd] at he;refine b7Z hg hx n (k+1) _ om_ (fun q e he=>?_) q e he;rw [a4q,M7] at he;split at he
  ·injection he with he
   subst he
   split
   ·rename_i f hf;obtain ⟨h1,_⟩:=h _ _ hf;exact ⟨by simp only; omega,fun hc=>by simp only at hc; omega⟩
   ·exact ⟨b35 _,fun _=>⟨x,d,k,hg,hx,rfl,hd⟩⟩
  ·exact h q e he
theorem b18.put {e:En} {path:Str} {x:Src} (h:b18 ms e) (hp:glk ms path=none):b18 (W2 ms path x) e:=fun hc=>by
 obtain ⟨s,d,i,h1,h2⟩:=h hc;refine ⟨s,d,i,?_,h2⟩;rw [M7,if_neg]
 ·exact h1
 ·intro he; rw [he,hp] at h1; cases h1
theorem c42 {seen:List Str} {s:WS} (h:WI seen s.2.1 s.2.2) (hf:f.p∉seen):WI (f.p::seen) (a0Z s f).2.1 (a0Z s f).2.2:=by
 have hw:WI (f.p::seen) s.2.1 s.2.2:=⟨fun p x hp=>⟨(h.src p x hp).1,a9r _ (h.src p x hp).2⟩,h.ent⟩;unfold a0Z
 split
 ·split
  ·exact hw
  ·rename_i x hx;have hn:glk s.2.1 f.p=none:=by
    cases hg:glk s.2.1 f.p with
    | none=>rfl
    | some y=>exact absurd (h.src _ _ hg).2 hf
   have hok:=b3c hx;refine ⟨fun p y hp=>?_,?_⟩
   ·simp only [M7] at hp;split at hp
    ·rename_i e;injection hp with hp
     subst hp;exact ⟨hok,by rw [e]; simp⟩
    ·exact ⟨(h.src p y hp).1,a9r _ (h.src p y hp).2⟩
   ·have hg:glk (W2 s.2.1 f.p x) f.p=some x:=by rw [M7,if_pos rfl]
    have:=b7Z hg hok _ 0 s.2.2 rfl (fun k e he=>⟨(h.ent k e he).1,(h.ent k e he).2.put hn⟩);simpa using this
 ·exact hw
theorem b99:∀ {l:List Fi} {seen:List Str} {s:WS},WI seen s.2.1 s.2.2->(∀ f∈l,f.p∉seen)->(l.Pairwise fun a b=>a.p < b.p)->∃ seen',WI seen' (a9L l s).2.1 (a9L l s).2.2
 | [],seen,s,h,_,_=>⟨seen,h⟩
 | f::l,seen,s,h,hn,hp=>by
  have h1:=c42 h (hn f si_);refine b99 (l:=l) h1 (fun g hg hm=>?_) (a8e.1 hp).2
  rcases Q2.1 hm with hm | hm
  ·have:=(a8e.1 hp).1 g hg;rw [hm] at this;exact absurd this (List.lt_irrefl _)
  ·exact hn g (by simp [hg]) hm
theorem c1i (h:C2 fl=0):WOk fl (H0 fl).2.1 (H0 fl).2.2:=by
 obtain ⟨h1,h2⟩:=b5f h;have h0:rvE none fl=0:=by
  unfold C2 at h;split at h
  ·cases h
  ·exact h
 obtain ⟨seen,h3⟩:=b99 (l:=fl) (seen:=[]) (s:=([],[],[])) ⟨fun p x hp=>(by cases hp),fun k e he=>(by cases he)⟩ (fun f _ hm=>(by cases hm)) (b8v h0).2;rw [H0,if_pos h];exact ⟨h1,fun f hf=>by have:=a1j (h2 f hf).1; have:=(h2 f hf).2; omega,fun p s hp=>(h3.src p s hp).1,fun k e he=>(h3.ent k e he).2⟩
end Go.Proofs.YtlppbmfecjabeaaGreatDoor
