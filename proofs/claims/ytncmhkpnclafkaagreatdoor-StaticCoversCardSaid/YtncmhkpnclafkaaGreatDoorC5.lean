/- Part 5 of what the claim needs: values without addresses, and what the program's functions do with them. -/
import Derived.Test.YtncmhkpnclafkaaGreatDoorC4
set_option linter.all false
set_option maxRecDepth 100000
set_option maxHeartbeats 4000000
namespace Go.Proofs.YtncmhkpnclafkaaGreatDoor
open Go Go.Cl
variable{σ:List b9}{q n k B a w wk:Nat}{s:D}{x:En}{fl:List Fi}{α:Type}{nn:Bool}{d:De}{L:List (D×Src)}{T:List Tok}{wv:CV}{fk:D->List Ky}{fa:D->List En}
theorem c0h(fl:List Fi)(nn:Bool)(s:D)(dr:fl.length<=1000000):b8 CC 31 [.agg (A0 fl nn),(sv s)] [] λr τ=>C9 0 τ r (.ret (.agg (A0 (a4w fl s) (gnn (a4w fl s).length)))) []:=by
 refine qO Tryz.func31 ?_;refine qD (F4 G O j1 i9 ?_);refine c89 ?_;refine u a2E ?_;refine B3 hCC 3 G (α:=List Fi×Nat) (λx=>[(1,(sv s)),(4,.ptr 1 0),(5,.ptr 2 0),(9,(.list (fl.map Fi.cv) nn none)),(10,iv fl.length),(11,iv x.2)]) (λx=>[.box (A0 fl nn),.box (A0 [] false),.box [(.list (x.1.map Fi.cv) (gnn x.1.length) (D6 x.1.length 3))],l8 x.1.length]) (λx=>x.2<=fl.length/\x.1.length<=x.2/\a4w fl s=x.1++a4w (fl.drop x.2) s) (λx=>fl.length -x.2) ⟨([],0),[0,1,2,9],⟨n_4 _,n_4 _,G⟩,⟨G,G⟩,ut_,⟨.inr ⟨_,G,.same G a0H⟩,.inr ⟨_,G,.same G a9v⟩,.inr ⟨_,G,.box ⟨.same G (a0g _ ([]:List Fi) _),O⟩⟩,.inl G,O⟩⟩ ?_;intro⟨aq,i⟩ ⟨hi,hol,hr⟩;dsimp only at hi hol hr⊢;refine qk (qC ?_ ?_)<;> intro h1
 .have ai:i<fl.length:=sm_ h1;obtain⟨y,hb⟩:∃y,fl[i]?=some y:=⟨fl[i]'ai,Q⟩;rw[c5d hb]at hr;refine b9n ?_;refine u b0h ?_;refine qC ?_ ?_<;>intro h2
  .have fO:¬y.p=s:=U h2;rw[H fO]at hr;refine u d8M ?_;refine qD (B6 G O O G Q q_3 b0p b09 b7c a9H G (.inr G) q_8 c9j E9 ((aq++[y]).map Fi.cv) (aq++[y]).length Q Q ?_);refine c9k ?_;exact⟨(aq++[y],i+1),[0,1,2,5],⟨do_,do_,by simp only[n_9,J5,a1D];omega,by rw[hr];simp⟩,⟨G,G⟩,ut_,⟨.inr ⟨_,G,.same G a0H⟩,.inr ⟨_,G,.same G a9v⟩,.inr ⟨_,G,.box ⟨B5.grow (f:=Fi.cv) (λa=>⟨.val _,.val _,O⟩) G,O⟩⟩,.inr ⟨_,G,.same G B0⟩,O⟩⟩
  .have fO:y.p=s:=U h2;rw[W fO]at hr;refine u o3 ?_;exact⟨(aq,i+1),[0,1,2,3],⟨do_,do_,do_,by rw[hr];simp⟩,⟨G,G⟩,ut_,⟨.inr ⟨_,G,.same G a0H⟩,.inr ⟨_,G,.same G a9v⟩,.inr ⟨_,G,.box ⟨B5.grow (f:=Fi.cv) (λa=>⟨.val _,.val _,O⟩) G,O⟩⟩,.inr ⟨_,G,.same G B0⟩,O⟩⟩
 .have aL:fl.length<=i:=sm_ h1;rw[a0V aL]at hr;replace hr:a4w fl s=aq:=by rw[hr];exact a0h _
  refine o6 ?_;refine c5b ?_;exact⟨_,B7 G a3U,(by rw[hr];exact d5f b4i)⟩
theorem b29(fl:List Fi)(nn:Bool)(s:D)(dr:fl.length<=1000000)(σ:List b9):b8 CC 31 [.agg (A0 fl nn),(sv s)] σ λr τ=>r= .ret (.agg (A0 (a4w fl s) (gnn (a4w fl s).length)))/\τ=σ:=
 d1M hCC (λa h=>by simp at h;rcases h with rfl|rfl;exact j5 (cs:=A0 _ _) ⟨F5 _ _,O⟩;exact .val _) (j5 (cs:=A0 _ _) ⟨F5 _ _,O⟩) (c0h fl nn s dr) σ
theorem a23{l:List Int}{n:Int}(hn:1<=n):0<=L8 l k n/\L8 l k n<n:=a98 hn
theorem a7e(n:Nat)(l:List Int)(nn:Bool)(k:Nat):G1 n (r9 l nn k):=x9 ⟨R8 _ _ _,.val _,O⟩
theorem b9J(l:List Int)(nn:Bool)(k:Nat)(bg:k<=900000000)(hl:l.length<=maxLen)(n:Nat)(hn:n<=1000)(al:D)(ha:1<=al.length)(gB:al.length<=1000):b8 CC 75 [.ptr 0 0,iv n,(sv al)] [r9 l nn k] λr τ=>∃a:D×Nat,C9 1 τ r (.ret (sv a.1)) [r9 l nn a.2]/\(a.1.length=n/\k<=a.2/\a.2<=k+n):=by
 refine qO Tryz.func75 ?_;refine B3 hCC 1 G (α:=D×Nat) (λx=>[(0,.ptr 0 0),(1,iv n),(2,(sv al)),(7,(.list (x.1.map bcv) (gnn x.1.length) (D6 x.1.length 1))),(8,iv x.1.length)]) (λx=>[r9 l nn x.2,l8 x.1.length]) (λx=>x.1.length<=n/\x.2=k+x.1.length) (λx=>n-x.1.length) ⟨([],k),[0,9],⟨n_4 _,G⟩,⟨G,G⟩,⟨b8F,b8F,b8F,b8F,b8F,O⟩,uq_⟩ ?_;intro⟨aq,p⟩ ⟨hol,hp⟩;dsimp only at hol hp⊢;refine qk (qC ?_ ?_)<;> intro h1
 .have ai:aq.length <n:=sm_ h1;have hb:=a23 (l:=l) (k:=p) (n:=(al.length:Int)) J;obtain⟨c,hc⟩:∃c,al[(L8 l p (al.length:Int)).toNat]?=some c:=⟨al[(L8 l p (al.length:Int)).toNat]'J,Q⟩;refine u U9 ?_;refine qD (c4 G a7H j2 (J3 l nn p _ 0 G J hl (al.length:Int) J) G ?_);intro _ _;refine u (J2 G O O G G t_8 J hc) ?_;refine u (A6 [bcv c] G ⟨O,O⟩ b2a b4z c42 G G G G G G G G G) ?_;refine qD (B6 G O O G Q q_3 b2a b4z Tryz.typeInfo5 c42 G (.inr G) q_8 (by have hb:Tryz.t5.bytes=1:=G;rw[hb];first|omega|(simp;done)|(simp;omega)) E9 ((aq++[c]).map bcv) (aq++[c]).length Q Q ?_);refine u o3 ?_;exact⟨(aq++[c],p+1),[0,2],⟨by simp only[n_9,J5,a1D];omega,by simp only[n_9,J5,a1D];omega,by simp only[n_9,J5,a1D];omega⟩,⟨G,G⟩,⟨⟨O,ur_⟩,⟨O,ur_⟩,⟨O,ur_⟩,⟨O,ur_⟩,⟨O,(by first|exact ur_|exact .same (n_7 (λx=>iv x) (by simp:(aq.length:Int)+1=((aq++[c]).length:Int))) uo_)⟩,O⟩,uq_⟩
 .have aL:aq.length=n:=sm_ h1;refine o6 ?_;refine u (e2B G O G b2a t_8 b74) ?_;refine c6 ?_;exact⟨_,rE1,⟨(aq,p),a2k G Q6 (.old (.val _)),aL,do_,do_⟩⟩
theorem c4u(l:List Int)(nn:Bool)(k:Nat)(bg:k<=900000000)(hl:l.length<=maxLen)(n:Nat)(hn:n<=1000)(al:D)(ha:1<=al.length)(gB:al.length<=1000)(σ:List b9)(q:Nat)(hq:σ[q]?=some (r9 l nn k)):b8 CC 75 [.ptr q 0,iv n,(sv al)] σ λr τ=>∃a:D×Nat,r= .ret (sv a.1)/\τ=σ.set q (r9 l nn a.2)/\(a.1.length=n/\k<=a.2/\a.2<=k+n):=
 a6L (c:=λa:D×Nat=>sv a.1) (S:=λa=>r9 l nn a.2) hCC (λa h=>by simp at h;rcases h with rfl|rfl<;>exact .val _) (λ_=>.val _) (λ_=>G0 _ _ _) (G0 _ _ _) G (b9J l nn k bg hl n hn al ha gB) σ q hq
theorem d2m(l:List Int)(nn:Bool)(k:Nat)(bg:k<=800000000)(hl:l.length<=maxLen):b8 CC 30 [.ptr 0 0] [r9 l nn k] λr τ=>∃a:D×Nat,C9 1 τ r (.ret (sv a.1)) [r9 l nn a.2]/\(a.1.length<=3/\k<=a.2/\a.2<=k+4):=by
 refine qO Tryz.func30 ?_;refine qD (c4 G a7H m0 (J3 l nn k _ 0 G J hl 4 J) G ?_);intro _ _;have hb:=a23 (l:=l) (k:=k) (n:=4) J;obtain⟨m,hm⟩:∃m:Nat,L8 l k 4=(m:Int):=⟨(L8 l k 4).toNat,J⟩;rw[hm]at hb⊢;refine qD (c4 G Tryz.call75 a3T (c4u l nn (k+1) J hl m J [97,98,0,255,48] I I _ 0 G) G ?_);intro⟨s,p⟩ ⟨hs,gj,cw⟩;dsimp only at hs gj cw⊢;refine c6 ?_;exact⟨_,rE1,⟨(s,p),a2k G Q6 (.old (.val _)),do_,do_,do_⟩⟩
theorem c3q(l:List Int)(nn:Bool)(k:Nat)(bg:k<=800000000)(hl:l.length<=maxLen)(σ:List b9)(q:Nat)(hq:σ[q]?=some (r9 l nn k)):b8 CC 30 [.ptr q 0] σ λr τ=>∃a:D×Nat,r= .ret (sv a.1)/\τ=σ.set q (r9 l nn a.2)/\(a.1.length<=3/\k<=a.2/\a.2<=k+4):=
 a6L (c:=λa:D×Nat=>sv a.1) (S:=λa=>r9 l nn a.2) hCC (λa h=>by simp at h) (λ_=>.val _) (λ_=>G0 _ _ _) (G0 _ _ _) G (d2m l nn k bg hl) σ q hq
def a7c(l:List Int)(nn:Bool)(ps:List D)(d L K B:Nat):Prop:=∀(k:Nat),k<=B->∀(σ:List b9) (q:Nat),σ[q]?=some (r9 l nn k)->b8 CC 77 [.ptr q 0,iv d,.list (ps.map scv) (gnn ps.length) none] σ λr τ=>∃a:D×Nat,r= .ret (sv a.1)/\τ=σ.set q (r9 l nn a.2)/\(a.1.length<=L/\k<=a.2/\a.2<=k+K)
abbrev eob(l:List Int)(nn:Bool)(ps:List D)(d p:Nat):List b9:=[r9 l nn (p),.box [.ptr 0 0],.box [iv d],.box [(.list (ps.map scv) (gnn ps.length) none)]]
theorem b1g{l:List Int}{ps:List D}{d L K:Nat}(hd:d<=10)(ih:a7c l nn ps d L K B)(p:Nat)(hp:p<=B):b8 CC 101 [.ptr 1 0,.ptr 2 0,.ptr 3 0] (eob l nn ps (d+1) p) λr τ=>∃a:D×Nat,r= .ret (sv a.1)/\τ=eob l nn ps (d+1) a.2/\(a.1.length<=L/\p<=a.2/\a.2<=p+K):=by
 refine qO Tryz.func101 ?_;refine u a0D ?_;refine qD (c4 G b89 D0 (by have h:=ih p hp (eob l nn ps (d+1) p) 0 G;rw[show(d:Int)=((d+1:Nat):Int) -1 by omega]at h;exact h) G ?_);intro⟨s,p1⟩ ⟨h1,h2,h3⟩;dsimp only at h1 h2 h3⊢;refine c6 ?_;exact⟨_,rE1,⟨(s,p1),G,G,h1,h2,h3⟩⟩
theorem c8u(l:List Int)(nn:Bool)(k:Nat)(hl:l.length<=maxLen)(d:Nat)(hd:d<=10)(ps:List D)(cE:∀s∈ps,s.length<=10)(bo:ps.length<=2)(L K B:Nat)(hL:L<=1000000)(hK:K<=1000)(bg:k+3*K+10<=B)(hB:B<=900000000)(dU:1<=d->∀p,p<=B->b8 CC 101 [.ptr 1 0,.ptr 2 0,.ptr 3 0] (eob l nn ps d p) λr τ=>∃a:D×Nat,r= .ret (sv a.1)/\τ=eob l nn ps d a.2/\(a.1.length<=L/\p<=a.2/\a.2<=p+K)):b8 CC 77 [.ptr 0 0,iv d,.list (ps.map scv) (gnn ps.length) none] [r9 l nn k] λr τ=>∃a:D×Nat,C9 1 τ r (.ret (sv a.1)) [r9 l nn a.2]/\(a.1.length<=3*L+30/\k<=a.2/\a.2<=k+(3*K+5)):=by
 refine cO Tryz.func77 ?_;refine qs 1 (qD (F4 G O j1 (.inl G) ?_));refine qD (F4 G O j1 (.inl G) ?_);refine qD (F4 G O j1 (.inl G) ?_);refine F7 ?_;refine K5 (α:=Bool×Nat) (λx=>[(3,.ptr 1 0),(4,.ptr 2 0),(5,.ptr 3 0),(15,(.val (.bool x.1)))]) (λx=>[r9 l nn (x.2),.box [.ptr 0 0],.box [iv d],.box [(.list (ps.map scv) (gnn ps.length) none)]]) (λx=>k<=x.2/\x.2<=k+1/\(x.1=false->1<=d)) ?_ ?_
 .
  refine qk (qG (λhg=>l9 G O G c7i G G) ?_);refine b2R (.val (.bool false)) G G O G G (λhg=>c4 G b2w ⟨hg,G,G,O⟩ (K8 l nn k _ 0 G J hl 1 4 J) G ?_) (λhg=>?_)
  .
   intro _ _;refine b58 ?_;exact⟨(_,k+1),(by exact⟨do_,do_,λ_=>sm_ hg⟩),⟨⟨O,G⟩,⟨O,G⟩,⟨O,G⟩,⟨O,G⟩,O⟩,G⟩
  .
   refine b58 ?_;exact⟨(_,k),(by exact⟨do_,do_,λhb=>by exfalso;revert hb hg;cases decide ((d:Int)<=0)<;>simp⟩),⟨⟨O,G⟩,⟨O,G⟩,⟨O,G⟩,⟨O,G⟩,O⟩,G⟩
 .intro ⟨b,p⟩ E0 ⟨gj,cw,iZ⟩;dsimp only at gj cw iZ⊢;refine cC ?_ ?_<;>intro h1
  .refine K5 (α:=Nat) (λ_=>[(3,.ptr 1 0)]) (λx=>[r9 l nn (x),.box [.ptr 0 0],.box [iv d],.box [(.list (ps.map scv) (gnn ps.length) none)]]) (λx=>k<=x/\x<=k+3) ?_ ?_
   .
    refine qs 1 (qD (c4 G a7H m0 (J3 l nn p _ 0 G J hl 9 J) G ?_));intro _ _;refine K5 (α:=Bool) (λb=>[(3,.ptr 1 0),(4,.ptr 2 0),(5,.ptr 3 0),(17,(iv (L8 l p 9))),(18,(.val (.bool b)))]) (λ_=>[r9 l nn (p+1),.box [.ptr 0 0],.box [iv d],.box [(.list (ps.map scv) (gnn ps.length) none)]]) (λ_=>True) ?_ ?_
    .
     refine qk (qC ?_ ?_)<;> intro h2
     .exact ⟨_,O,⟨⟨O,G⟩,⟨O,G⟩,⟨O,G⟩,⟨O,G⟩,⟨O,G⟩,O⟩,G⟩
     .exact ⟨_,O,⟨⟨O,G⟩,⟨O,G⟩,⟨O,G⟩,⟨O,G⟩,⟨O,G⟩,O⟩,G⟩
    .intro b2 E2 _;refine qC ?_ ?_<;>intro h3
     .refine u P0 ?_;refine qC ?_ ?_<;>intro h4
      .obtain ⟨x,ps',rfl⟩:∃x ps',ps=x::ps':=by
        rcases ps with _|⟨x,ps'⟩
        .simp at h4
        .exact ⟨x,ps',G⟩
       refine qD (c4 G a5L j2 (J7 l nn (p+1) _ 0 G J hl (x::ps') Q J) G ?_);intro v hv;have di:=cE v hv;refine c6 ?_;exact⟨_,rE1,⟨(_,p+2),a2k G Q6 (.old (.val _)),(by show List.length _<=_;simp only;omega),do_,do_⟩⟩
      .exact ⟨(p+1),⟨J,J⟩,tu_,G⟩
     .refine qC ?_ ?_<;>intro h5
      .refine cW 2 ?_;refine hY c17 ?_;refine hY c34 ?_;refine d6p ?_;intro v hv;have di:v.length<=8:=P1 (.inr (.inr (.inr (.inl hv))));refine a9K ?_;exact e0I
      .refine qC ?_ ?_<;>intro h6
       .refine cW 2 ?_;refine hY c17 ?_;refine hY c34 ?_;refine d6p ?_;intro v hv;have di:v.length<=8:=P1 (.inr (.inr (.inr (.inl hv))));refine a9K ?_;exact e0I
       .refine qC ?_ ?_<;>intro h7
        .refine cW 2 ?_;refine hY c17 ?_;refine hY (c5 G Tryz.call61 trivial (b1q _) G) ?_;refine a3D ?_;refine qD (c4 G a5L j2 (J7 l nn (p+1) _ 0 G J hl a02 I I) G ?_);intro v hv;have di:v.length<=8:=P1 (.inr (.inr (.inr (.inr hv))));refine a9K ?_;exact e0I
        .refine qC ?_ ?_<;>intro h8
         .refine qD (c4 G b2w a3S (K8 l nn (p+1) _ 0 G J hl 1 5 J) G ?_);intro _ _;refine qC ?_ ?_<;>intro h9
          .refine u (A6 ([0,1,63].map icv) G ⟨G,G,G,O⟩ t_7 t_1 t_9 G G G G G G G G G) ?_;refine qD (c4 G c2A j2 (a47 l nn (p+2) _ 0 G J hl [0,1,63] Q Q) G ?_);intro v hv;obtain⟨m,hm,cc⟩:∃m:Nat,v=(m:Int)/\m<10^17:=by
            simp only[I0,a9B,or_false]at hv;exact⟨v.toNat,J,J⟩
           subst hm;have fm:=a2d 16 m cc;refine u c2h ?_;refine a9K ?_;refine c6 ?_;exact⟨_,rE1,⟨(_,p+3),a2k G Q6 (.old (.val _)),b7C,do_,do_⟩⟩
          .exact ⟨(p+2),⟨J,J⟩,tu_,G⟩
         .exact ⟨(p+1),⟨J,J⟩,tu_,G⟩
   .intro p3 E3 ⟨hp3,hp4⟩;refine qk (u (A6 ([0,1,2,3,10,255,9007199254740992,1073741824].map icv) G ⟨G,G,G,G,G,G,G,G,O⟩ t_7 t_1 t_9 G G G G G G G G G) ?_);refine qD (c4 G c2A j2 (a47 l nn (p3) _ 0 G J hl [0,1,2,3,10,255,9007199254740992,1073741824] Q Q) G ?_);intro v hv;obtain⟨m,hm,cc⟩:∃m:Nat,v=(m:Int)/\m<10^17:=by
     simp only[I0,a9B,or_false]at hv;exact⟨v.toNat,J,J⟩
    subst hm;have fm:=a2d 16 m cc;refine u c2h ?_;refine c6 ?_;exact⟨_,rE1,⟨(_,p3+1),a2k G Q6 (.old (.val _)),(by show List.length _<=_;simp only;omega),do_,do_⟩⟩
  .have ej:1<=d:=iZ (U h1);refine qk ?_;refine qs 1 (u (a3f G D0) ?_);refine F7 ?_;refine qs 1 (qD (c4 G a7H m0 (J3 l nn p _ 0 G J hl 10 J) G ?_));intro _ _;refine K5 (α:=Bool) (λb=>[(3,.ptr 1 0),(7,(.clo 101 [.ptr 1 0,.ptr 2 0,.ptr 3 0])),(64,(iv (L8 l p 10))),(65,(.val (.bool b)))]) (λ_=>[r9 l nn (p+1),.box [.ptr 0 0],.box [iv d],.box [(.list (ps.map scv) (gnn ps.length) none)]]) (λ_=>True) ?_ ?_
   .
    refine qk (qC ?_ ?_)<;> intro bL
    .exact ⟨_,O,⟨⟨O,G⟩,⟨O,G⟩,⟨O,G⟩,⟨O,G⟩,O⟩,G⟩
    .refine qC ?_ ?_<;>intro eY
     .exact ⟨_,O,⟨⟨O,G⟩,⟨O,G⟩,⟨O,G⟩,⟨O,G⟩,O⟩,G⟩
     .exact ⟨_,O,⟨⟨O,G⟩,⟨O,G⟩,⟨O,G⟩,⟨O,G⟩,O⟩,G⟩
   .intro b4 E4 _;refine qC ?_ ?_<;>intro fo
    .refine cF [3] [0,1,4] (tl:=[(2,[2]),(3,[2]),(5,[]),(6,[]),(7,[])]) ?_;refine chf G c7W ?_;refine chf G (c7 G d6n) ?_;refine b3e ?_;refine B1 G G G (c4 G a5L j2 (J7 l nn (p+1) _ 0 G J hl X7 I I) G ?_);intro v hv;have di:v.length<=8:=P1 (.inr (.inl hv));refine⟨⟨C3,O⟩,?_⟩;refine d7e ?_;intro⟨s1,p1⟩ ⟨bc,bE,aR⟩;dsimp only at bc bE aR⊢;refine c66 ?_;refine a5x ?_;refine u (A6 ([0,0,0,1].map icv) G ⟨G,G,G,G,O⟩ t_7 t_1 t_9 G G G G G G G G G) ?_;refine qD (c4 G c2A j2 (a47 l nn (p1) _ 0 G J hl [0,0,0,1] Q Q) G ?_);intro n hn;have hn01:n=0\/n=1:=by
      simp only[I0,a9B,or_false]at hn;omega
     refine L6 (α:=D×Nat×Int) (λx=>[(7,(.clo 101 [.ptr 1 0,.ptr 2 0,.ptr 3 0])),(8,(sv x.1)),(9,iv x.2.2)]) (λx=>[r9 l nn (x.2.1),.box [.ptr 0 0],.box [iv d],.box [(.list (ps.map scv) (gnn ps.length) none)]]) (λx=>(x.2.2=0\/x.2.2=1)/\(x.2.2=1->x.1.length<=L+9/\x.2.1<=k+4+K)/\x.1.length<=2*L+11/\k<=x.2.1/\x.2.1<=k+4+2*K) (λx=>x.2.2.toNat) (_,p1+1,n) ⟨hn01,λ_=>⟨by show List.length _<=_;simp only[n_9,J5,a1D];omega,do_⟩,by show List.length _<=_;simp only[n_9,J5,a1D];omega,do_,do_⟩ ⟨⟨O,G⟩,⟨O,G⟩,⟨O,G⟩,O⟩ G ?_;intro⟨s,p5,n5⟩ E5 ⟨hn5,hn6,hs5,hq5,hq6⟩;dsimp only at hn5 hn6 hs5 hq5 hq6⊢;refine qk (qC ?_ ?_)<;> intro dR
     .have h13':n5=1:=sm_ dR;obtain⟨hs6,hq7⟩:=hn6 h13';refine qD (V2 G O G b6O trivial (by exact dU J (p5) J) G ?_);intro⟨s2,p2⟩ ⟨eh,bS,bk⟩;dsimp only at eh bS bk⊢;refine u b1D ?_;refine u a9a ?_;refine u a0D ?_;exact⟨(_,p2,n5-1),do_,(by exact⟨do_,λh=>by dsimp only at h;omega,by show List.length _<=_;simp only[n_9,J5,a1D];omega,do_,do_⟩),⟨⟨O,G⟩,⟨O,G⟩,⟨O,G⟩,O⟩,G⟩
     .refine o6 ?_;refine u a5Y ?_;refine c6 ?_;exact⟨_,rE1,⟨(_,p5),a2k G Q6 (.old (.val _)),b7C,do_,do_⟩⟩
    .refine qC ?_ ?_<;>intro ie
     .refine qD (V2 G O G b6O trivial (by exact dU J (p+1) J) G ?_);intro⟨s1,p1⟩ ⟨bc,bE,aR⟩;dsimp only at bc bE aR⊢;refine a9K ?_;refine qD (V2 G O G b6O trivial (by exact dU J (p1) J) G ?_);intro⟨s2,p2⟩ ⟨eh,bS,bk⟩;dsimp only at eh bS bk⊢;refine b35 ?_;refine qD (V2 G O G b6O trivial (by exact dU J (p2) J) G ?_);intro⟨s3,p3⟩ ⟨fV,hq3,fD⟩;dsimp only at fV hq3 fD⊢;refine b35 ?_;refine c6 ?_;exact⟨_,rE1,⟨(_,p3),a2k G Q6 (.old (.val _)),b7C,do_,do_⟩⟩
     .refine qC ?_ ?_<;>intro h15
      .refine cF [3,4] [0,1,5] (tl:=[(2,[2]),(3,[2]),(4,[2]),(6,[]),(7,[]),(8,[]),(9,[])]) ?_;refine chf G c7W ?_;refine chf G (c7 G c34) ?_;refine b3e ?_;refine B1 G G G (c4 G a5L j2 (J7 l nn (p+1) _ 0 G J hl a1K I I) G ?_);intro v hv;have di:v.length<=8:=P1 (.inr (.inr (.inr (.inl hv))));refine⟨⟨C3,O⟩,?_⟩;refine b1M G G (λ_=>c7 G b1D) ?_;refine d7e ?_;intro⟨s1,p1⟩ ⟨bc,bE,aR⟩;dsimp only at bc bE aR⊢;refine c66 ?_;refine C7 G G c2Q ⟨O,?_⟩;refine a5x ?_;exact c4X
      .refine qC ?_ ?_<;>intro h16
       .refine qD (V2 G O G b6O trivial (by exact dU J (p+1) J) G ?_);intro⟨s1,p1⟩ ⟨bc,bE,aR⟩;dsimp only at bc bE aR⊢;refine a9K ?_;exact c4X
       .refine qk ?_;refine cF [2,3,7,8] [0,4,5,9] (tl:=[(1,[1,2,3]),(2,[1,2,3]),(3,[1,2,3]),(6,[3]),(7,[3]),(8,[3]),(10,[]),(11,[]),(12,[]),(13,[])]) ?_;refine chf G O0 ?_;refine chf G c7W ?_;refine chf G (c7 G e2k) ?_;refine b3e ?_;refine B1 G G G (V2 G O G b6O trivial (by exact dU J (p+1) J) G ?_);intro⟨s1,p1⟩ ⟨bc,bE,aR⟩;dsimp only at bc bE aR⊢;refine⟨⟨(by exact c7 G c17),(by exact c7 G e2k),C3,O⟩,?_⟩;refine b1M G G (λ_=>c7 G b1D) ?_;refine b1M G G (λ_=>c7 G a5Y) ?_;refine B1 G G G (c4 G a5L j2 (J7 l nn p1 _ 0 G J hl ([[43],[45],[42],[47],[37],[60],[61,61]]:List D) Q Q) G ?_);intro v hv;have di:v.length<=2:=by revert v;decide
        refine⟨⟨C3,O⟩,?_⟩;refine b1M G G (λ_=>c7 G a9a) ?_;refine b1M G G (λ_=>c7 G a5Y) ?_;refine B1 G G G (V2 G O G b6O trivial (by exact dU J (p1+1) J) G ?_);intro⟨s2,p2⟩ ⟨eh,bS,bk⟩;dsimp only at eh bS bk⊢;refine c66 ?_;refine C7 G G c2Q ⟨O,?_⟩;refine a5x ?_;refine c6 ?_;exact⟨_,rE1,⟨(_,p2),a2k G Q6 (.old (.val _)),b7C,do_,do_⟩⟩
theorem a6W{l:List Int}(hl:l.length<=maxLen)(d:Nat)(hd:d<=10)(ps:List D)(cE:∀s∈ps,s.length<=10)(bo:ps.length<=2)(L K B:Nat)(hL:L<=1000000)(hK:K<=1000)(bg:k+3*K+10<=B)(hB:B<=900000000)(dU:1<=d->∀p,p<=B->b8 CC 101 [.ptr 1 0,.ptr 2 0,.ptr 3 0] (eob l nn ps d p) λr τ=>∃a:D×Nat,r= .ret (sv a.1)/\τ=eob l nn ps d a.2/\(a.1.length<=L/\p<=a.2/\a.2<=p+K))(hq:σ[q]?=some (r9 l nn k)):
 b8 CC 77 [.ptr q 0,iv d,.list (ps.map scv) (gnn ps.length) none] σ λr τ=>∃a:D×Nat,r= .ret (sv a.1)/\τ=σ.set q (r9 l nn a.2)/\(a.1.length<=3*L+30/\k<=a.2/\a.2<=k+(3*K+5)):=
 a6L (c:=λa:D×Nat=>sv a.1) (S:=λa=>r9 l nn a.2) hCC (λa h=>by simp at h;rcases h with rfl|rfl;exact .val _;exact C1 _ _) (λ_=>.val _) (λ_=>G0 _ _ _) (G0 _ _ _) G (c8u l nn k hl d hd ps cE bo L K B hL hK bg hB dU) σ q hq
theorem a6P(l:List Int)(nn:Bool)(hl:l.length<=maxLen)(ps:List D)(cE:∀s∈ps,s.length<=10)(bo:ps.length<=2):a7c l nn ps 0 30 5 800000000/\a7c l nn ps 1 120 20 799999000/\a7c l nn ps 2 390 65 799998000/\a7c l nn ps 3 1200 200 799997000:=by
 have e0:a7c l nn ps 0 30 5 800000000:=λk hk σ q hq=>a6W hl 0 J ps cE bo 0 0 900000000 J J J J (λh=>by omega) hq;have e1:a7c l nn ps 1 120 20 799999000:=λk hk σ q hq=>a6W hl 1 J ps cE bo 30 5 800000000 J J J J (λ_ p hp=>b1g J e0 p hp) hq;have e2:a7c l nn ps 2 390 65 799998000:=λk hk σ q hq=>a6W hl 2 J ps cE bo 120 20 799999000 J J J J (λ_ p hp=>b1g J e1 p hp) hq;have e3:a7c l nn ps 3 1200 200 799997000:=λk hk σ q hq=>a6W hl 3 J ps cE bo 390 65 799998000 J J J J (λ_ p hp=>b1g J e2 p hp) hq;exact⟨e0,e1,e2,e3⟩
theorem c74(l:List Int)(nn:Bool)(k:Nat)(bg:k<=700000000)(hl:l.length<=maxLen):b8 CC 35 [.ptr 0 0] [r9 l nn k] λr τ=>∃a:D×Nat,C9 1 τ r (.ret (sv a.1)) [r9 l nn a.2]/\(a.1.length<=1240/\k<=a.2/\a.2<=k+210):=by
 refine cO Tryz.func35 ?_;refine qs 1 ?_;refine K5 (α:=Nat) (λ_=>[(0,.ptr 0 0)]) (λx=>[r9 l nn (x)]) (λx=>x=k+1) ?_ ?_
 .
  refine qs 1 (qD (c4 G a7H m0 (J3 l nn k _ 0 G J hl 8 J) G ?_));intro _ _;refine K5 (α:=Bool) (λb=>[(0,.ptr 0 0),(2,(sv ([]))),(6,(iv (L8 l k 8))),(7,(.val (.bool b)))]) (λ_=>[r9 l nn (k+1)]) (λ_=>True) ?_ ?_
  .
   refine qk (qC ?_ ?_)<;> intro h1
   .exact ⟨_,O,⟨⟨O,G⟩,⟨O,G⟩,⟨O,G⟩,⟨O,G⟩,O⟩,G⟩
   .refine qC ?_ ?_<;>intro h2
    .exact ⟨_,O,⟨⟨O,G⟩,⟨O,G⟩,⟨O,G⟩,⟨O,G⟩,O⟩,G⟩
    .exact ⟨_,O,⟨⟨O,G⟩,⟨O,G⟩,⟨O,G⟩,⟨O,G⟩,O⟩,G⟩
  .intro b E0 _;refine qC ?_ ?_<;>intro h3
   .refine u (c5 G Tryz.call38 trivial (c07 _) G) ?_;refine qD (c4 G a5L j2 (J7 l nn (k+1) _ 0 G J hl a44 I I) G ?_);intro v hv;have di:v.length<=8:=P1 (.inr (.inr (.inl hv)));refine a9K ?_;refine qD (c4 G b89 a3S (by exact(a6P l nn hl ([]:List D) I I).2.2.2 (k+2) J _ 0 G) G ?_);intro⟨s1,p1⟩ ⟨bc,bE,aR⟩;dsimp only at bc bE aR⊢;refine b35 ?_;exact c4X
   .refine qC ?_ ?_<;>intro h4
    .refine u c34 ?_;refine qD (c4 G a5L j2 (J7 l nn (k+1) _ 0 G J hl a1K I I) G ?_);intro v hv;have di:v.length<=8:=P1 (.inr (.inr (.inr (.inl hv))));refine a9K ?_;refine qD (c4 G b89 a3S (by exact(a6P l nn hl ([]:List D) I I).2.2.1 (k+2) J _ 0 G) G ?_);intro⟨s1,p1⟩ ⟨bc,bE,aR⟩;dsimp only at bc bE aR⊢;refine b35 ?_;exact c4X
    .exact ⟨_,G,⟨⟨O,G⟩,O⟩,G⟩
 .intro p E0 hp;subst hp;refine qk (qD (c2c G G G G t_2 t_0 t_4 G ?_));refine qD (c4 G b2w a3S (K8 l nn (k+1) _ 0 G J hl 1 5 J) G ?_);intro _ _;refine qC ?_ ?_<;>intro h5
  .refine u (A6 [scv [98]] G ⟨G,O⟩ t_2 t_0 t_4 G G G G G G G G G) ?_;refine qD (B6 G O O G (show 1=List.length _ from G) q_3 t_2 t_0 a5s t_4 G (.inr G) q_8 a2h E9 (([[97],[98]]:List D).map scv) 2 G G ?_);refine d6F ?_;intro v hv;have di:v.length<=8:=P1 (.inr (.inl hv));refine a9K ?_;refine u P0 ?_;refine qC ?_ ?_<;>intro h6
   .refine u a5Y ?_;refine u a5Y ?_;refine qD (c4 G b89 ⟨O,G,O,O⟩ (by exact(a6P l nn hl ([[97],[98]]:List D) I I).2.2.2 (k+3) J _ 0 G) G ?_);intro⟨s1,p1⟩ ⟨bc,bE,aR⟩;dsimp only at bc bE aR⊢;refine b35 ?_;exact c4X
   .exfalso;simp at h6
  .refine d6F ?_;intro v hv;have di:v.length<=8:=P1 (.inr (.inl hv));refine a9K ?_;refine u P0 ?_;refine qC ?_ ?_<;>intro h7
   .exfalso;simp at h7
   .refine u a5Y ?_;refine qD (c4 G b89 ⟨O,G,O,O⟩ (by exact(a6P l nn hl ([[97]]:List D) I I).2.2.2 (k+3) J _ 0 G) G ?_);intro⟨s1,p1⟩ ⟨bc,bE,aR⟩;dsimp only at bc bE aR⊢;refine b35 ?_;exact c4X
theorem c1C(l:List Int)(nn:Bool)(k:Nat)(bg:k<=700000000)(hl:l.length<=maxLen)(σ:List b9)(q:Nat)(hq:σ[q]?=some (r9 l nn k)):b8 CC 35 [.ptr q 0] σ λr τ=>∃a:D×Nat,r= .ret (sv a.1)/\τ=σ.set q (r9 l nn a.2)/\(a.1.length<=1240/\k<=a.2/\a.2<=k+210):=
 a6L (c:=λa:D×Nat=>sv a.1) (S:=λa=>r9 l nn a.2) hCC (λa h=>by simp at h) (λ_=>.val _) (λ_=>G0 _ _ _) (G0 _ _ _) G (c74 l nn k bg hl) σ q hq
theorem c1h(l:List Int)(nn:Bool)(k:Nat)(bg:k<=600000000)(hl:l.length<=maxLen)(pkg:D)(dA:pkg.length<=8):b8 CC 32 [.ptr 0 0,(sv pkg)] [r9 l nn k] λr τ=>∃a:D×Nat,C9 1 τ r (.ret (sv a.1)) [r9 l nn a.2]/\(a.1.length<=6300/\k<=a.2/\a.2<=k+1070):=by
 refine cO Tryz.func32 ?_;refine qs 2 ?_;refine a9K ?_;refine K5 (α:=D×Nat) (λx=>[(0,.ptr 0 0),(1,(sv pkg)),(5,(sv x.1))]) (λx=>[r9 l nn (x.2)]) (λx=>x.1.length<=40/\x.2=k+1) ?_ ?_
 .
  refine qk (qD (c4 G b2w a3S (K8 l nn k _ 0 G J hl 1 8 J) G ?_));intro _ _;refine qC ?_ ?_<;>intro h1
  .refine u b1D ?_;exact⟨(_,k+1),e1b,⟨⟨O,G⟩,⟨O,G⟩,⟨O,G⟩,O⟩,G⟩
  .exact ⟨(_,k+1),e1b,⟨⟨O,G⟩,⟨O,G⟩,⟨O,G⟩,O⟩,G⟩
 .intro ⟨s,p⟩ E0 ⟨hs,hp⟩;dsimp only at hs hp⊢;subst hp;refine qk (qD (c4 G a7H m0 (J3 l nn (k+1) _ 0 G J hl 3 J) G ?_));intro _ _;have hb1:=a23 (l:=l) (k:=k+1) (n:=3) J;refine B3 hCC 1 G (α:=D×List D×Nat×Int) (λx=>[(0,.ptr 0 0),(1,(sv pkg)),(5,(sv x.1)),(6,(.list (x.2.1.map scv) (gnn x.2.1.length) (D6 x.2.1.length 1))),(7,iv x.2.2.2)]) (λx=>[r9 l nn x.2.2.1,l8 x.2.1.length]) (λx=>0<=x.2.2.2/\x.2.2.2<=2/\x.1.length+20*x.2.2.2<=80/\x.2.1.length+x.2.2.2<=2/\k+2<=x.2.2.1/\x.2.2.1+x.2.2.2<=k+4) (λx=>x.2.2.2.toNat) ⟨(s,[],k+2,L8 l (k+1) 3),[0,9],⟨do_,do_,do_,by dsimp only;simp;omega,do_,do_⟩,⟨G,G⟩,ut_,uq_⟩ ?_;intro⟨s,seen,p,n⟩ ⟨bh,cV,eh,iA,gj,cw⟩;dsimp only at bh cV eh iA gj cw⊢;refine qk (qC ?_ ?_)<;> intro h2
  .have gZ:1<=n:=sm_ h2;refine u (c5 G Tryz.call33 trivial (a54 _) G) ?_;refine qD (c4 G a5L j2 (J7 l nn (p) _ 0 G J hl V8 I I) G ?_);intro v hv;have di:v.length<=8:=P1 (.inl hv);refine u b0h ?_;refine a4g ?_;refine qG (λhg=>c5 G d1y ⟨hg,hg,O⟩ (b1N seen _ v J _) G) ?_;refine qG a3Y ?_;refine u Q8 ?_;refine qC ?_ ?_<;>intro h3
   .refine u (A6 [scv v] G ⟨O,O⟩ t_2 t_0 t_4 G G G G G G G G G) ?_;refine qD (B6 G O O G Q q_3 t_2 t_0 a5s t_4 G (.inr G) q_8 a2h E9 ((seen++[v]).map scv) (seen++[v]).length Q Q ?_);refine a9K ?_;refine u a9a ?_;refine u a0D ?_;exact⟨(s++((([105,109,112,111,114,116,32]:D)++v)++[59,10]),seen++[v],p+1,n-1),[0,2],(by exact⟨do_,do_,do_,by dsimp only;simp only[n_9,J5,a1D];omega,by dsimp only;simp only[n_9,J5,a1D];omega,do_,do_⟩),⟨G,G⟩,ut_,uq_⟩
   .refine u a0D ?_;exact⟨(s,seen,p+1,n-1),[0,1],⟨do_,do_,do_,do_,do_,do_,do_⟩,⟨G,G⟩,ut_,uq_⟩
  .have gZ:n=0:=sm_ h2;subst gZ;refine o6 ?_;refine qD (c4 G a7H m0 (J3 l nn p _ 0 G J hl 5 J) G ?_);intro _ _;have bD:=a23 (l:=l) (k:=p) (n:=5) J;refine u (c3G G G O G G J J) ?_;refine B3 hCC 2 G (α:=D×List D×Nat×Int) (λx=>[(0,.ptr 0 0),(5,(sv x.1)),(9,(.list (x.2.1.map scv) (gnn x.2.1.length) (D6 x.2.1.length 2))),(10,iv x.2.2.2)]) (λx=>[r9 l nn x.2.2.1,l8 seen.length,l8 x.2.1.length]) (λx=>0<=x.2.2.2/\x.2.2.2<=5/\x.1.length+1240*x.2.2.2<=6280/\x.2.1.length+x.2.2.2<=5/\k+3<=x.2.2.1/\x.2.2.1+211*x.2.2.2<=k+1060) (λx=>x.2.2.2.toNat) ⟨(s,[],p+1,1+L8 l p 5),[0,1,9],⟨do_,do_,do_,by dsimp only;simp;omega,do_,do_⟩,⟨G,G⟩,ut_,uq_⟩ ?_;intro⟨s,ck,p2,n⟩ ⟨bh,cV,fV,hhn,hp3,hp4⟩;dsimp only at bh cV fV hhn hp3 hp4⊢;refine qs 1 (qC ?_ ?_)<;> intro h4
   .have gZ:1<=n:=sm_ h4;refine F7 ?_;refine qs 3 (qD (c4 G Tryz.call35 ⟨O,O⟩ (c1C l nn p2 J hl _ 0 G) G ?_));intro⟨dt,p5⟩ ⟨hdt,hq5,hr5⟩;dsimp only at hdt hq5 hr5⊢;refine L6 (α:=Nat) (λi=>[(0,.ptr 0 0),(5,(sv s)),(9,(.list (ck.map scv) (gnn ck.length) (D6 ck.length 2))),(10,iv n),(11,(sv dt)),(12,(sv dt)),(13,iv i)]) (λ_=>[r9 l nn p5,l8 seen.length,l8 ck.length]) (λi=>i<=dt.length) (λi=>dt.length -i) 0 (n_4 _) tu_ G ?_;intro i E3 hi;refine a7q ?_;refine qC ?_ ?_<;>intro h5
    .have ai:i<dt.length:=sm_ h5;obtain⟨c,hc⟩:∃c,dt[i]?=some c:=⟨dt[i]'ai,Q⟩;refine u (J2 G O O G G t_8 J (by rw[a8q];exact hc)) ?_;refine a4g ?_;refine qG (λhg=>J2 G hg hg G G t_8 c2W (by rw[a8q];exact hc)) ?_;refine a5A ?_;refine qC ?_ ?_<;>intro h6
     .refine u (I4 (h:=i) G O G t_8 G X6 a3V a3V) ?_;refine o6 ?_;refine K5 (α:=Bool×Nat) (λx=>[(0,.ptr 0 0),(5,(sv s)),(9,(.list (ck.map scv) (gnn ck.length) (D6 ck.length 2))),(10,iv n),(11,(sv dt)),(12,(sv (dt.take i))),(84,(.val (.bool x.1)))]) (λx=>[r9 l nn x.2,l8 seen.length,l8 ck.length]) (λx=>p5<=x.2/\x.2<=p5+1) ?_ ?_
      .
       refine qk (u (c5 G d1y j2 (b1N ck _ _ J _) G) ?_);refine qG F9 ?_;refine b2R (.val (.bool false)) G G O G G (λhg=>c4 G b2w ⟨hg,G,G,O⟩ (K8 l nn p5 _ 0 G J hl 1 40 J) G ?_) (λhg=>?_)
       .
        intro _ _;exact d7F
       .
        refine b58 ?_;exact⟨(_,p5),⟨do_,do_⟩,⟨⟨O,G⟩,⟨O,G⟩,⟨O,G⟩,⟨O,G⟩,⟨O,G⟩,⟨O,G⟩,⟨O,G⟩,O⟩,G⟩
      .intro ⟨b6,p6⟩ E6 ⟨hq6,hr6⟩;dsimp only at hq6 hr6⊢;refine qC ?_ ?_<;>intro h7
       .refine u (A6 [scv (dt.take i)] G ⟨O,O⟩ t_2 t_0 t_4 G G G G G G G G G) ?_;refine qD (B6 G O O G Q q_3 t_2 t_0 a5s t_4 G (.inr G) q_8 a2h E9 ((ck++[(dt.take i)]).map scv) (ck++[(dt.take i)]).length Q Q ?_);refine u a9a ?_;refine qk (u a0D ?_);exact⟨(s++dt,ck++[(dt.take i)],p6,n-1),[0,1,3],e1M,⟨G,G⟩,ut_,uq_⟩
       .refine qk ?_;exact d7M
     .refine u o3 ?_;exact⟨(i+1),J,ai,tu_,G⟩
    .refine o6 ?_;refine K5 (α:=Bool×Nat) (λx=>[(0,.ptr 0 0),(5,(sv s)),(9,(.list (ck.map scv) (gnn ck.length) (D6 ck.length 2))),(10,iv n),(11,(sv dt)),(12,(sv dt)),(84,(.val (.bool x.1)))]) (λx=>[r9 l nn x.2,l8 seen.length,l8 ck.length]) (λx=>p5<=x.2/\x.2<=p5+1) ?_ ?_
     .
      refine qk (u (c5 G d1y j2 (b1N ck _ _ J _) G) ?_);refine qG F9 ?_;refine b2R (.val (.bool false)) G G O G G (λhg=>c4 G b2w ⟨hg,G,G,O⟩ (K8 l nn p5 _ 0 G J hl 1 40 J) G ?_) (λhg=>?_)
      .
       intro _ _;exact d7F
      .
       refine b58 ?_;exact⟨(_,p5),⟨do_,do_⟩,⟨⟨O,G⟩,⟨O,G⟩,⟨O,G⟩,⟨O,G⟩,⟨O,G⟩,⟨O,G⟩,⟨O,G⟩,O⟩,G⟩
     .intro ⟨b6,p6⟩ E6 ⟨hq6,hr6⟩;dsimp only at hq6 hr6⊢;refine qC ?_ ?_<;>intro h8
      .refine u (A6 [scv dt] G ⟨O,O⟩ t_2 t_0 t_4 G G G G G G G G G) ?_;refine qD (B6 G O O G Q q_3 t_2 t_0 a5s t_4 G (.inr G) q_8 a2h E9 ((ck++[dt]).map scv) (ck++[dt]).length Q Q ?_);refine u a9a ?_;refine qk (u a0D ?_);exact⟨(s++dt,ck++[dt],p6,n-1),[0,1,3],e1M,⟨G,G⟩,ut_,uq_⟩
      .refine qk ?_;exact d7M
   .have gZ:n=0:=sm_ h4;subst gZ;refine o6 ?_;refine qD (c4 G b2w a3S (K8 l nn p2 _ 0 G J hl 1 30 J) G ?_);intro _ _;refine qC ?_ ?_<;>intro h9
    .refine u (A6 (([[102,117,110,99],[125],[34],[116,101,115,116,32,116,32,61,32,49,59],[120]]:List D).map scv) G ⟨G,G,G,G,G,O⟩ t_2 t_0 t_4 G G G G G G G G G) ?_;refine qD (c4 G a5L j2 (J7 l nn (p2+1) _ 0 G J hl ([[102,117,110,99],[125],[34],[116,101,115,116,32,116,32,61,32,49,59],[120]]:List D) Q Q) G ?_);intro v hv;have di:v.length<=11:=by revert v;decide
     refine u a9a ?_;refine c6 ?_;exact⟨_,rE1,⟨(_,p2+2),a2k G Q6 (.old (.val _)),(by show List.length _<=_;simp only[n_9];omega),do_,do_⟩⟩
    .refine c6 ?_;exact⟨_,rE1,⟨(_,p2+1),a2k G Q6 (.old (.val _)),(by show List.length _<=_;simp only;omega),do_,do_⟩⟩
theorem b2Z(l:List Int)(nn:Bool)(k:Nat)(bg:k<=600000000)(hl:l.length<=maxLen)(pkg:D)(dA:pkg.length<=8)(σ:List b9)(q:Nat)(hq:σ[q]?=some (r9 l nn k)):b8 CC 32 [.ptr q 0,(sv pkg)] σ λr τ=>∃a:D×Nat,r= .ret (sv a.1)/\τ=σ.set q (r9 l nn a.2)/\(a.1.length<=6300/\k<=a.2/\a.2<=k+1070):=
 a6L (c:=λa:D×Nat=>sv a.1) (S:=λa=>r9 l nn a.2) hCC (λa h=>by simp at h;subst h;exact .val _) (λ_=>.val _) (λ_=>G0 _ _ _) (G0 _ _ _) G (c1h l nn k bg hl pkg dA) σ q hq
def a1G:List D:=([[97,46,100,97,116],[100,47,98,46,100,97,116],[99]]:List D)
def a3r:List D:=([[97,46,115,114,99],[98,46,115,114,99],[100,47,99,46,115,114,99],[120,46,115,114,99],[97,46,100,97,116],[100,47,98,46,100,97,116],[99],[122,48,46,115,114,99],[122,49,46,115,114,99],[122,50,46,115,114,99]]:List D)
structure L3(B:Nat)(fl:List Fi):Prop where
 srt:c4o fl
 pth:∀f∈fl,f.p∈a3r
 byt:∀f∈fl,f.b.length<=B
theorem L3.nil(B:Nat):L3 B []:=⟨.nil,λf h=>by simp at h,λf h=>by simp at h⟩
theorem L3.mono{C:Nat}(h:L3 B fl)(hc:B<=C):L3 C fl:=⟨h.srt,h.pth,λf hf=>a1F (h.byt f hf) hc⟩
theorem L3.len(h:L3 B fl):fl.length<=10:=by
 have hn:(fl.map Fi.p).Nodup:=by
  rw[c3l,b7R];exact h.srt.imp λ{a b} bZ he=>by rw[he,b4G]at bZ;cases bZ
 have hs:∀x∈fl.map Fi.p,x∈a3r:=λx hx=>by
  obtain⟨f,hf,rfl⟩:=D8.1 hx;exact h.pth f hf
 have:=List.Nodup.length_le_of_subset hn (λx hx=>hs x hx);rw[N0]at this;exact this
theorem b3I{f:Fi}:∀l:List Fi,a8K f true l=l.filter λx=>!decide (x.p=f.p)
 | []=>rfl
 |x::l=>by
  rw[a8K,Bool.true_or,b3I l,b2p];by_cases h:x.p=f.p<;>simp[h]
theorem a6M{f:Fi}{x:Fi}:∀{d:Bool} {l:List Fi},x∈a8K f d l->x=f\/x∈l
 |d,[],h=>by
  cases d<;>simp[a8K]at h
  exact .inl h
 |d,y::l,h=>by
  rw[a8K]at h
  rcases Q9.1 h with h|h
  .split at h<;>simp at h
   exact .inl h
  .rcases Q9.1 h with h|h
   .split at h<;>simp at h
    exact .inr (by rw[h];simp)
   .rcases a6M h with h|h
    .exact .inl h
    .exact .inr (a4a _ h)
theorem b65{f:Fi}:∀{l:List Fi},c4o l->c4o (a8K f false l)
 | [],_=>by simp[a8K,c4o]
 |y::l,h=>by
  obtain⟨h1,h2⟩:=a2N.1 h;rw[a8K];by_cases aT:leF f y=true
  .simp only[aT,Bool.not_false,Bool.and_self,if_true,Bool.or_true,b3I];have hl:c4o (l.filter λx=>!decide (x.p=f.p)):=h2.filter _;have dr:∀g∈l.filter λx=>!decide (x.p=f.p),Op.bytesLess f.p g.p=true:=λg hg=>by
    have hy:=h1 g ((b4A.1 hg).1);unfold leF at aT;simp only[a9J,a5J]at aT
    rcases aT with aT|aT
    .exact a64 aT hy
    .rw [aT];exact hy
   by_cases fO:y.p=f.p
   .rw [W fO,b2j];exact a2N.2 ⟨dr,hl⟩
   .rw [H fO];have hfy:Op.bytesLess f.p y.p=true:=by
     unfold leF at aT;simp only[a9J,a5J]at aT
     rcases aT with aT|aT
     .exact aT
     .exact absurd aT.symm fO
    refine a2N.2 ⟨λg hg=>?_,a2N.2 ⟨λg hg=>h1 g ((b4A.1 hg).1),hl⟩⟩
    rcases I0.1 hg with rfl|hg
    .exact hfy
    .exact dr g hg
  .have eQ:leF f y=false:=U aT;have fO:¬y.p=f.p:=λh=>by rw[leF,h]at eQ;simp at eQ
   simp only[eQ,Bool.and_false,Bool.or_false,H fO];have:Op.bytesLess y.p f.p=true:=by
    unfold leF at eQ;simp only[c3F,b0C]at eQ;exact c8w eQ.1 eQ.2
   refine a2N.2 ⟨λg hg=>?_,b65 h2⟩
   rcases a6M hg with rfl|hg
   .exact this
   .exact h1 g hg
theorem L3.ins(h:L3 B fl){f:Fi}(hp:f.p∈a3r)(hb:f.b.length<=B):L3 B (a5F fl f):=
 ⟨b65 h.srt,λg hg=>by
  rcases a6M hg with rfl|hg
  .exact hp
  .exact h.pth g hg,λg hg=>by
  rcases a6M hg with rfl|hg
  .exact hb
  .exact h.byt g hg⟩
theorem L3.rem(h:L3 B fl)(s:D):L3 B (a4w fl s):=
 ⟨h.srt.filter _,λg hg=>h.pth g ((b4A.1 hg).1),λg hg=>h.byt g ((b4A.1 hg).1)⟩
theorem c3n:∀s∈H7,s∈a3r:=by decide
theorem c3w:∀s∈a1G,s∈a3r:=by decide
theorem Q0(fl:List Fi)(nn:Bool):o8 (.agg (A0 fl nn)):=j5 (cs:=A0 _ _) ⟨F5 _ _,O⟩
theorem a3J{l:List α}{i:Nat}(h:i<l.length):∃y,l[i]?=some y/\y∈l:=⟨l[i],by simp[h],b26 h⟩
theorem b5f(l:List Int)(nn:Bool)(k:Nat)(bg:k<=500000000)(hl:l.length<=maxLen):b8 CC 26 [.ptr 0 0] [r9 l nn k] λr τ=>∃a:List Fi×Nat,C9 1 τ r (.ret (.agg (A0 a.1 (gnn a.1.length)))) [r9 l nn a.2]/\(L3 6300 a.1/\k<=a.2/\a.2<=k+4400):=by
 refine qO Tryz.func26 ?_;refine c89 ?_;refine u (c5 G Tryz.call28 trivial (a7B _) G) ?_;refine u P0 ?_;refine L6 (α:=List Fi×Nat×Nat) (λx=>[(0,.ptr 0 0),(2,.ptr 1 0),(3,.ptr 2 0),(8,(.list (H7.map scv) true none)),(9,iv H7.length),(10,iv x.2.2)]) (λx=>[r9 l nn (x.2.1),.box (A0 [] false),.box (A0 x.1 (gnn x.1.length))]) (λx=>x.2.2<=H7.length/\L3 6300 x.1/\k+0<=x.2.1/\x.2.1<=k+0+x.2.2*1072) (λx=>H7.length -x.2.2) ([],k,0) ⟨n_4 _,.nil _,do_,do_⟩ tu_ G ?_;intro⟨fl,p,i⟩ E0 ⟨hi,hm,gj,cw⟩;dsimp only at hi hm gj cw⊢;have hL:H7.length=4:=G;have hml:=hm.len;refine qs 2 (qC ?_ ?_)<;> intro h1
 .have ai:i<H7.length:=sm_ h1;obtain⟨y,hb,gG⟩:=a3J ai;refine K5 (α:=List Fi×Nat) (λx=>[(0,.ptr 0 0),(2,.ptr 1 0),(3,.ptr 2 0),(8,(.list (H7.map scv) true none)),(9,iv H7.length),(10,iv i)]) (λx=>[r9 l nn (x.2),.box (A0 [] false),.box (A0 x.1 (gnn x.1.length))]) (λx=>L3 6300 x.1/\p<=x.2/\x.2<=p+1072) ?_ ?_
  .
   refine qk (u a4C ?_);refine qD (c4 G b2w a3S (K8 l nn p _ 0 G J hl 3 4 J) G ?_);intro _ _;refine qC ?_ ?_<;>intro h2
   .refine e0F ?_;refine a9F ?_;refine chf G O0 ?_;refine chf G c6G ?_;refine F2 ?_;refine B1 G G G (c4 G a5L j2 (J7 l nn (p+1) _ 0 G J hl V8 I I) G ?_);intro v hv;have di:v.length<=8:=P1 (.inl hv);refine⟨⟨a1y,C3,C3,O⟩,?_⟩;refine B1 G G G (c4 G Tryz.call32 j2 (b2Z l nn (p+2) J hl v di _ 0 G) G ?_);intro⟨s,p3⟩ ⟨hs,bE,bS⟩;dsimp only at hs bE bS⊢;refine d7t ?_;refine z_9 ?_;refine a0Z ?_;exact⟨(a5F fl ⟨y,s⟩,p3),⟨hm.ins (c3n _ gG) hs,do_,do_⟩,tu_,G⟩
   .exact ⟨(fl,p+1),⟨hm,do_,do_⟩,tu_,G⟩
  .intro ⟨fl,p4⟩ E0 ⟨hm,bE,bS⟩;dsimp only at hm bE bS⊢;refine qk (u o3 ?_);exact⟨(fl,p4,i+1),do_,⟨do_,hm,do_,do_⟩,tu_,G⟩
 .refine o6 ?_;refine u e2C ?_;refine u P0 ?_;refine L6 (α:=List Fi×Nat×Nat) (λx=>[(0,.ptr 0 0),(2,.ptr 1 0),(3,.ptr 2 0),(26,(.list (a1G.map scv) true none)),(27,iv a1G.length),(28,iv x.2.2)]) (λx=>[r9 l nn (x.2.1),.box (A0 [] false),.box (A0 x.1 (gnn x.1.length))]) (λx=>x.2.2<=a1G.length/\L3 6300 x.1/\k+0<=x.2.1/\x.2.1<=k+4288+x.2.2*5) (λx=>a1G.length -x.2.2) (fl,p,0) ⟨n_4 _,hm,do_,do_⟩ tu_ G ?_;intro⟨fl,p,i⟩ E0 ⟨hi,hm,gj,cw⟩;dsimp only at hi hm gj cw⊢;have hL:a1G.length=3:=G;have hml:=hm.len;refine qk (qC ?_ ?_)<;> intro h3
  .have ai:i<a1G.length:=sm_ h3;obtain⟨y,hb,gG⟩:=a3J ai;refine u a4C ?_;refine qD (c4 G b2w a3S (K8 l nn p _ 0 G J hl 1 3 J) G ?_);intro _ _;refine qC ?_ ?_<;>intro h4
   .refine cF [] [0,1,2] (tl:=[(3,[0,1]),(4,[0]),(5,[]),(6,[])]) ?_;refine chf G a7P ?_;refine a9F ?_;refine F2 ?_;refine B1 G G G (c4 G Tryz.call30 ⟨O,O⟩ (c3q l nn (p+1) J hl _ 0 G) G ?_);intro⟨s,p3⟩ ⟨hs,bE,bS⟩;dsimp only at hs bE bS⊢;refine d7t ?_;refine z_9 ?_;refine a0Z ?_;refine u o3 ?_;exact⟨(a5F fl ⟨y,s⟩,p3,i+1),do_,⟨do_,hm.ins (c3w _ gG) do_,do_,do_⟩,tu_,G⟩
   .refine u o3 ?_;exact⟨(fl,p+1,i+1),do_,⟨do_,hm,do_,do_⟩,tu_,G⟩
  .refine o6 ?_;refine c5b ?_;exact⟨_,B7 G a3U,⟨(fl,p),a2k G Q6 (.old (Q0 _ _).old),hm,do_,do_⟩⟩
theorem b9k(l:List Int)(nn:Bool)(k:Nat)(bg:k<=500000000)(hl:l.length<=maxLen)(σ:List b9)(q:Nat)(hq:σ[q]?=some (r9 l nn k)):b8 CC 26 [.ptr q 0] σ λr τ=>∃a:List Fi×Nat,r= .ret (.agg (A0 a.1 (gnn a.1.length)))/\τ=σ.set q (r9 l nn a.2)/\(L3 6300 a.1/\k<=a.2/\a.2<=k+4400):=
 a6L (c:=λa:List Fi×Nat=>(.agg (A0 a.1 (gnn a.1.length)))) (S:=λa=>r9 l nn a.2) hCC (λa h=>by simp at h) (λ_=>Q0 _ _) (λ_=>G0 _ _ _) (G0 _ _ _) G (b5f l nn k bg hl) σ q hq
theorem b0M{e:Nat}{c:UInt8}(h:s[e]?=some c)(hae:a<=e):sub s a (e+1)=sub s a e++[c]:=by
 obtain⟨ai,rfl⟩:=n_2.1 h;unfold sub;rw[<- c0a ai,List.drop_append_of_le_length b8O]
theorem sub_self:sub s a a=[]:=by unfold sub;exact a0V b8O
theorem c6z(l:D)(c:UInt8):a4d (l++[c])=min (10*a4d l+((c.toNat:Int) -48)) 9007199254740993:=by
 unfold a4d;rw[b3v];rfl
theorem b3o{e:Nat}{ks:List Int}(h:∀c,s[e]?=some c->inK ks c=false):A3 s e ks=e:=by
 cases hc:s[e]? with
 |none=>exact a78 (U hc)
 |some c=>rw[U3 hc,H (by rw[h c hc];simp)]
theorem d5t:∀x:Fin 256,(j7 (x.val:Int)=8)=(UInt8.ofNat x.val∈a36):=by decide
theorem b84(b:UInt8):j7 b.toNat=8↔b∈a36:=by
 have h:=d5t ⟨b.toNat,b.toNat_lt⟩;simp only at h;rw[h];simp
theorem c3i:preB [61,61] (s.drop a)=true↔s[a]?=some 61/\s[a+1]?=some 61:=by
 unfold preB;rw[b8N];constructor
 .rintro ⟨t,ht⟩;have h0:(s.drop a)[0]?=some 61:=by rw[<- ht];rfl
  have h1:(s.drop a)[1]?=some 61:=by rw[<- ht];rfl
  rw[a7O]at h0 h1;exact⟨h0,h1⟩
 .rintro ⟨h0,h1⟩;obtain⟨l0,e0⟩:=n_2.1 h0;obtain⟨l1,e1⟩:=n_2.1 h1;refine⟨s.drop (a+2),?_⟩;rw[a0v l0,a0v l1,e0,e1];rfl
theorem d3K(h0:s[a]?=some 61)(h1:s[a+1]?=some 61):sub s a (a+2)=[61,61]:=by
 rw[show a+2=(a+1)+1 from G,b0M h1 J,b0M h0 (n_6 _),sub_self];rfl
def b0V(s:D)(a:Nat)(b:UInt8):Tok:=if(C8 s a b).2.2=0 then {(C8 s a b).1 with at_:=(a:Nat)}else⟨0,[],0,0⟩
theorem d1U{b:UInt8}(hn:n<256):((b.toNat:Int)=(n:Int))↔b=UInt8.ofNat n:=by
 constructor
 .intro h;have h2:b.toNat=(UInt8.ofNat n).toNat:=by rw[UInt8.toNat_ofNat',c3U (U hn)];omega
  exact b8d.1 h2
 .rintro rfl;rw[UInt8.toNat_ofNat',c3U (U hn)]
theorem c5w(s:D)(hs:s.length<=1000000000)(a:Nat)(b:UInt8)(hb:s[a]?=some b)(ha:a<s.length):b8 CC 221 [(sv s),iv a] [] λr τ=>∃_:Unit,X0 0 τ r (.ret (.tup [.agg (b0V s a b).cells,(iv ((C8 s a b).2.1)),(iv ((C8 s a b).2.2))]))/\True:=by
 refine qO Tryz.func221 ?_;refine qD (j6 G a2M G i9 ?_);refine u b8Y ?_;refine u (c5 G d0e ⟨O,O⟩ (a4j b _) G) ?_;refine qC ?_ ?_<;>intro h1
 .have hk:j7 b.toNat=1:=U h1;refine u0 hCC (λe:Nat=>[(0,(sv s)),(1,iv a),(4,.ptr 0 0),(5,iv e)]) (λ_=>[.box (Tok.cells ⟨0,[],0,0⟩)]) (λe=>a<=e/\e<=s.length/\A3 s a [1,2,3]=A3 s e [1,2,3]) (λe=>s.length -e) a ⟨n_6 _,J,G⟩ tu_ (au:=[]) G D5 uz_ ?_;intro e ⟨hae,gS,hr⟩;obtain⟨c,hc⟩:∃c:UInt8,e<s.length->s[e]?=some c:=by
   by_cases aT:e<s.length
   .exact ⟨s[e],λ_=>by simp[aT]⟩
   .exact ⟨0,λh=>absurd h aT⟩
  refine a7q ?_;refine d1H ?_;refine qG (λhg=>c5 G c8i ⟨hg,O⟩ (a6E c _) G) ?_;refine u Q8 ?_;refine qC ?_ ?_<;>intro h2
  .have dl:e<s.length/\inK [1,2,3] c=true:=U h2;have hce:=hc dl.1;refine u o3 ?_;exact⟨(e+1),_,⟨J,J,J,by rw[hr,U3 hce,W dl.2]⟩,tu_,G⟩
  .have hse:A3 s a [1,2,3]=e:=by
    rw[hr];refine b3o λc' bA=>?_;have aT:=(n_2.1 bA).1;rw[hc aT]at bA;injection bA with bA
    subst bA;have h3:e<s.length->inK [1,2,3] c=false:=U h2;exact h3 aT
   refine o6 ?_;refine u (a9n G O O G G J J) ?_;refine qC ?_ ?_<;>intro h3
   .have hx:C8 s a b=(⟨0,[],0,0⟩,0,2):=by
     unfold C8;rw[W hk,hse,W (sm_ h3)]
    exact d2S
   .have hx:C8 s a b=(⟨1,sub s a e,0,0⟩,(e:Int),0):=by
     unfold C8;rw[W hk,hse,H (sm_ h3)]
    refine u (I4 (a:=a) (h:=e) G O G t_8 X6 X6 a3V a3V) ?_;refine u d5H ?_;exact c8B
 .have bn:¬j7 b.toNat=1:=U h1;refine qG F9 ?_;refine a2P ?_;refine qC ?_ ?_<;>intro h4
  .have bK:j7 b.toNat=2:=by rw[a4S];simp at h4;omega
   refine u0 hCC (λx:Nat×Int=>[(0,(sv s)),(1,iv a),(4,.ptr 0 0),(5,iv x.1),(8,iv x.2)]) (λ_=>[.box (Tok.cells ⟨0,[],0,0⟩)]) (λx=>a<=x.1/\x.1<=s.length/\A3 s a [2]=A3 s x.1 [2]/\0<=x.2/\x.2<=90071992547409930/\min x.2 9007199254740993=a4d (sub s a x.1)) (λx=>s.length -x.1) (a,0) ⟨n_6 _,do_,G,do_,do_,by rw[sub_self];rfl⟩ tu_ (au:=[]) G D5 uz_ ?_;intro⟨e,n⟩ ⟨hae,gS,hr,dX,bh,dS⟩;dsimp only at hae gS hr dX bh dS⊢;obtain⟨c,hc⟩:∃c:UInt8,e<s.length->s[e]?=some c:=by
    by_cases aT:e<s.length
    .exact ⟨s[e],λ_=>by simp[aT]⟩
    .exact ⟨0,λh=>absurd h aT⟩
   refine qs 1 (u U9 ?_);refine b2S ?_;refine b2S ?_;refine qC ?_ ?_<;>intro h5
   .have iL:e<s.length/\48<=c.toNat/\c.toNat<=57:=by
     simp at h5;omega
    have hce:=hc iL.1;have hk2c:j7 c.toNat=2:=a4S.2 iL.2;have bR:=c6z (sub s a e) c;rw[<- b0M hce hae]at bR;refine K5 (α:=Int) (λn'=>[(0,(sv s)),(1,iv a),(4,.ptr 0 0),(5,iv e),(8,iv n')]) (λ_=>[.box (Tok.cells ⟨0,[],0,0⟩)]) (λn'=>0<=n'/\n'<=90071992547409930/\min n' 9007199254740993=a4d (sub s a (e+1))) ?_ ?_
    .
     refine qk (qC ?_ ?_)<;> intro h6
     .have cV:n<=9007199254740992:=U h6;refine u (b7O G O G G G J J) ?_;refine u (J2 G O O G G t_8 J (by rw[a8q];exact hce)) ?_;refine u Z5 ?_;refine u (b1L G O G b74 c7H (show IntKind.i64.wrap (IntKind.u8.wrap ((c.toNat:Int) -48))=(c.toNat:Int) -48 by rw[wr8 J J,a5B J J])) ?_;refine u a8O ?_;exact⟨_,(by exact⟨J,J,by rw[bR,<- dS];omega⟩),⟨⟨O,G⟩,⟨O,G⟩,⟨O,G⟩,⟨O,G⟩,⟨O,G⟩,O⟩,G⟩
     .have cV:9007199254740992<n:=U h6;exact⟨n,⟨dX,bh,by rw[bR,<- dS];omega⟩,tu_,G⟩
    .intro n' E' ⟨hn0',hn1',hnm'⟩;refine qk (u o3 ?_);exact⟨(e+1,n'),_,⟨do_,do_,do_,by dsimp only;rw[hr,U3 hce,W (by simp[inK,hk2c])],hn0',hn1',hnm'⟩,tu_,G⟩
   .have hse:A3 s a [2]=e:=by
     rw[hr];refine b3o λc' bA=>?_;have aT:=(n_2.1 bA).1;rw[hc aT]at bA;injection bA with bA
     subst bA;have hnk:¬j7 c.toNat=2:=λhk=>by
      have:=a4S.1 hk;simp at h5;omega
     simp[inK,hnk]
    refine o6 ?_;refine qC ?_ ?_<;>intro h7
    .have hx:C8 s a b=(⟨0,[],0,0⟩,0,3):=by
      unfold C8;rw[H bn,W bK,hse,W (by rw[<- dS];simp at h7;omega)]
     exact d2S
    .have hx:C8 s a b=(⟨2,[],n,0⟩,(e:Int),0):=by
      unfold C8;have fx:a4d (sub s a e)=n:=by rw[<- dS];simp at h7;omega
      rw[H bn,W bK,hse,fx,H (sm_ h7)]
     refine u d5H ?_;exact c8B
  .have bK:¬j7 b.toNat=2:=by rw[a4S];simp at h4;omega
   refine qC ?_ ?_<;>intro h8
   .have hb34:b=34:=by
     have:(b.toNat:Int)=((34:Nat):Int):=U h8;exact(d1U (n:=34) J).1 this
    have fK:j7 b.toNat=7:=by rw[hb34];rfl
    refine u o3 ?_;refine u0 hCC (λe:Nat=>[(0,(sv s)),(1,iv a),(4,.ptr 0 0),(5,iv e)]) (λ_=>[.box (Tok.cells ⟨0,[],0,0⟩)]) (λe=>a+1<=e/\e<=s.length/\a3Q (s.drop (a+1))=(a3Q (s.drop e)).map (· +(e- (a+1)))) (λe=>s.length -e) (a+1) ⟨n_6 _,J,Q⟩ tu_ (au:=[]) G D5 uz_ ?_;intro e ⟨hae,gS,hr⟩;obtain⟨c,hc⟩:∃c:UInt8,e<s.length->s[e]?=some c:=by
     by_cases aT:e<s.length
     .exact ⟨s[e],λ_=>by simp[aT]⟩
     .exact ⟨0,λh=>absurd h aT⟩
    refine a7q ?_;refine b2S ?_;refine b2S ?_;refine b2S ?_;refine qC ?_ ?_<;>intro h9
    .have h9':e<s.length/\32<=c.toNat/\c.toNat<=126/\¬c.toNat=34:=by
      simp at h9;omega
     have hce:=hc h9'.1;refine u o3 ?_;exact⟨(e+1),_,⟨J,J,J,by
      rw[hr,a3j hce,W ⟨h9'.2.1,h9'.2.2.1⟩,H h9'.2.2.2,Option.map_map]
      congr 1
      funext x
      simp only[Function.comp];omega⟩,tu_,G⟩
    .refine o6 ?_;refine u U9 ?_;refine d1H ?_;refine a5A ?_;refine qC ?_ ?_<;>intro bL
     .have hx:C8 s a b=(⟨0,[],0,0⟩,0,9):=by
       have hq:a3Q (s.drop (a+1))=none:=by
        rw[hr];by_cases aT:e<s.length
        .rw [a3j (hc aT)];have h9':¬(e<s.length/\32<=c.toNat/\c.toNat<=126/\¬c.toNat=34):=by
          simp at h9;omega
         have h10':¬c.toNat=34:=by
          simp at bL;omega
         rw[H J];rfl
        .rw [b2U J];rfl
       unfold C8;rw[H bn,H bK,W fK,hq]
      exact d2S
     .have h10':e<s.length/\c.toNat=34:=by
       simp at bL;omega
      have hx:C8 s a b=(⟨3,sub s (a+1) e,0,0⟩,(e+1:Int),0):=by
       have hq:a3Q (s.drop (a+1))=some (e- (a+1)):=by
        rw[hr,a3j (hc h10'.1),W J,W h10'.2];simp
       unfold C8;rw[H bn,H bK,W fK,hq];have e1:a+1+(e- (a+1))=e:=by omega
       refine Prod.ext ?_ (Prod.ext ?_ G)
       .simp only[e1]
       .show ((a:Int)+1+((e- (a+1):Nat):Int)+1)=(e:Int)+1;omega
      refine u o3 ?_;refine u (I4 (a:=(a+1)) (h:=e) G O G t_8 X6 X6 a3V a3V) ?_;refine u d5H ?_;refine u o3 ?_;exact c8B
   .have fK:¬j7 b.toNat=7:=by
     intro hk;unfold j7 at hk
     repeat' split at hk
     all_goals first|omega|(simp at h8;omega)
    obtain⟨c1,cK⟩:∃c:UInt8,a+1<s.length->s[a+1]?=some c:=by
     by_cases aT:a+1<s.length
     .exact ⟨s[a+1],λ_=>by simp[aT]⟩
     .exact ⟨0,λh=>absurd h aT⟩
    refine u b8Y ?_;refine qG F9 ?_;refine qG e00 ?_;refine b5h ?_;refine qG a8R ?_;refine u Q8 ?_;refine a4g ?_;refine qG e00 ?_;refine qG (λhg=>J2 G hg hg G G t_8 c2W (by rw[show((a:Int)+1).toNat=a+1 by omega];exact cK (sm_ hg))) ?_;refine a2P ?_;refine qC ?_ ?_<;>intro eY
    .have h11':b=61/\a+1<s.length/\c1=61:=by
      simp at eY;exact⟨(d1U (n:=61) J).1 J,J,(d1U (n:=61) J).1 J⟩
     have bD:s[a]?=some 61:=by rw[hb,h11'.1]
     have fj:s[a+1]?=some 61:=by rw[cK h11'.2.1,h11'.2.2]
     have hx:C8 s a b=(⟨4,[61,61],0,0⟩,(a+2:Int),0):=by
      have hk8:j7 b.toNat=8:=by rw[h11'.1];rfl
      unfold C8;rw[H bn,H bK,H fK,W hk8,W (c3i.2 ⟨bD,fj⟩),d3K bD fj]
     refine u (z8 #[(0,1),(1,1),(2,1),(3,1)] G ⟨G,G,O,O⟩ a8J a2M G ⟨_,G⟩ (λw=>by kernel_rfl) G G) ?_;refine u o3 ?_;exact c8B
    .have gT:¬preB [61,61] (s.drop a)=true:=λhp=>by
      obtain⟨p1,p2⟩:=c3i.1 hp;have aT:=(n_2.1 p2).1;rw[hb]at p1;rw[cK aT]at p2;injection p1 with p1
      injection p2 with p2
      subst p1 p2;simp at eY;omega
     refine c8V a36 G G G G G G G G ⟨G,G,G,G,G,G,G,G,G,G,G,O⟩ b2a b4z c42 b74 G G G G G G G ?_;refine qo (u c7Z ?_);refine u0 hCC (λi:Nat=>[(0,(sv s)),(1,iv a),(4,.ptr 0 0),(156,(.list (a36.map bcv) true none)),(157,iv a36.length),(158,iv i)]) (λ_=>[.box (Tok.cells ⟨0,[],0,0⟩)]) (λi=>i<=a36.length/\∀x∈a36.take i,x≠b) (λi=>a36.length -i) 0 ⟨n_4 _,λx hx=>by simp at hx⟩ tu_ (au:=[]) G D5 uz_ ?_;intro i ⟨hi,hni⟩;have hSL:a36.length=11:=G;refine qk (qC ?_ ?_)<;> intro fo
     .have hli:i<a36.length:=sm_ fo;obtain⟨y,hy,gG⟩:=a3J hli;refine u (A4 G O O G G b2a b4z J (j8 hy) G) ?_;refine u b8Y ?_;refine qC ?_ ?_<;>intro dR
      .have hby:b=y:=by
        have:(b.toNat:Int)=(y.toNat:Int):=U dR;exact b8d.1 J
       have hx:C8 s a b=(⟨4,sub s a (a+1),0,0⟩,(a+1:Int),0):=by
        unfold C8;rw[H bn,H bK,H fK,W ((b84 b).2 (hby▸gG)),H gT]
       refine u o3 ?_;refine u (I4 (a:=a) (h:=(a+1)) G O G t_8 X6 X6 a3V a3V) ?_;refine u d5H ?_;refine u o3 ?_;exact c8B
      .have hby:¬b=y:=λe=>by
        rw[e]at dR;simp at dR
       refine u o3 ?_;exact⟨(i+1),_,⟨J,J,λx hx=>by
        rw[a3a,hy]at hx
        rcases Q9.1 hx with hx|hx
        .exact hni x hx
        .simp at hx;subst hx;exact λe=>hby e.symm⟩,tu_,G⟩
     .have fM:i=a36.length:=sm_ fo;have hx:C8 s a b=(⟨0,[],0,0⟩,0,9):=by
       have hk8:¬j7 b.toNat=8:=λhk=>by
        have hm:=(b84 b).1 hk;rw[fM,a2p (n_6 _)]at hni;exact hni b hm G
       unfold C8;rw[H bn,H bK,H fK,H hk8]
      refine o6 ?_;exact d2S
theorem c7N(s:D)(hs:s.length<=1000000000)(a:Nat)(b:UInt8)(hb:s[a]?=some b)(ha:a<s.length)(σ:List b9):b8 CC 221 [(sv s),iv a] σ λr τ=>r= .ret (.tup [.agg (b0V s a b).cells,(iv ((C8 s a b).2.1)),(iv ((C8 s a b).2.2))])/\τ=σ:=
 (F8 (res:=λ_:Unit=>.ret (.tup [.agg (b0V s a b).cells,(iv ((C8 s a b).2.1)),(iv ((C8 s a b).2.2))])) (P:=λ_=>True) hCC (λc h=>by simp at h;rcases h with rfl|rfl<;>exact .val _) (c5w s hs a b hb ha) (λ_ _=>D3 (cs:=[_,_,_]) ⟨j5 (cs:=[_,_,_,_]) ⟨.val _,.val _,.val _,.val _,O⟩,.val _,.val _,O⟩) σ).mono λr τ ⟨_,h1,h2,_⟩=>⟨h1,h2⟩
theorem d4r{b:UInt8}(h:(C8 s a b).2.2=0):b0V s a b={(C8 s a b).1 with at_:=(a:Nat)}:=by rw[b0V,W h]
theorem c0v(s:D)(hs:s.length<=1000000000):b8 CC 172 [(sv s)] [] λr τ=>∃x:c5x,X0 0 τ r (.ret (c5Y x))/\d5z s x:=by
 refine qO Tryz.func172 ?_;refine u U9 ?_;refine qC ?_ ?_<;>intro h1
 .have ao:16384<s.length:=sm_ h1;have hS:a3i s=none:=by rw[d2e,W ao]
  refine c6 ?_;exact⟨_,o9 (rs:=[.tmp 2,.tmp 3,.tmp 4]) (cs:=[_,_,_]) G b3l (n_5 G),⟨([],false,0,2),by exact .ret (.tups ⟨.old (U8 _ [] false),.old (.val _),.old (.val _),O⟩),.inr ⟨hS,G,G,I⟩⟩⟩
 .refine qD (c4 G Tryz.call220 m0 (c13 s J 0 (n_4 _) _) G ?_);intro n ⟨_,hn,hnr,hnb⟩;have ao:¬16384<s.length:=sm_ h1;have hS:a3i s=a5G s n:=by rw[d2e,H ao,hnr]
  refine B3 hCC 0 G (α:=List Tok×Nat) (λx=>[(0,(sv s)),(2,(.list (x.1.map Tok.cv) (gnn x.1.length) (D6 x.1.length 0))),(3,iv x.2)]) (λx=>[l8 x.1.length]) (λx=>x.2<=s.length/\x.1.length<=x.2/\(∀b,s[x.2]?=some b->j7 b.toNat≠5/\j7 b.toNat≠6)/\a3i s=(a5G s x.2).map (x.1++·)) (λx=>s.length -x.2) ⟨([],n),[9],⟨hn,n_4 _,hnb,by rw[hS];simp⟩,⟨G,G⟩,ut_,uq_⟩ ?_;intro⟨acc,p⟩ ⟨hp,gB,hpb,hr⟩;dsimp only at hp gB hpb hr⊢;refine a7q ?_;refine qC ?_ ?_<;>intro h2
  .have ai:p<s.length:=sm_ h2;obtain⟨b,hb⟩:∃b,s[p]?=some b:=⟨s[p]'ai,Q⟩;obtain⟨hb5,hb6⟩:=hpb b hb;rw[c7O hb hb5 hb6]at hr;refine u (c5 G Tryz.call221 j2 (c7N s J p b hb ai _) G) ?_;refine z_3 ?_;refine qC ?_ ?_<;>intro h3
   .have he:(C8 s p b).2.2≠0:=U h3;rw[W he]at hr;refine c6 ?_;exact⟨_,o9 (rs:=[.tmp 2,.tmp 3,.tmp 4]) (cs:=[_,_,_]) G b3l (n_5 G),⟨([],false,(p:Int),(C8 s p b).2.2),by exact .ret (.tups ⟨.old (U8 _ [] false),.old (.val _),.old (.val _),O⟩),.inr ⟨hr,G,G,he⟩⟩⟩
   .have he:(C8 s p b).2.2=0:=U h3;have fz:¬(C8 s p b).2.2≠0:=λh=>h he;rw[H fz]at hr;obtain⟨q,hq,hpq,gN⟩:=a49 hb fz;have hta:=d4r he;refine u (A6 [Tok.cv (b0V s p b)] G ⟨O,O⟩ b5a a3F a2M G G G G G G G G G) ?_;refine qD (B6 G O O G Q q_3 b5a a3F c3k a2M G (.inr G) q_8 d3s E9 ((acc++[b0V s p b]).map Tok.cv) (acc++[b0V s p b]).length Q Q ?_);refine qD (c4 G Tryz.call220 j2 (by have h:=c13 s J q gN;rw[<- hq]at h;exact h _) G ?_);intro m ⟨hqm,hm,hmr,hmb⟩;exact⟨(acc++[b0V s p b],m),[2],⟨do_,hm,by dsimp only;rw[n_9,c3L];omega,hmb,by
     dsimp only;rw[hr,hq,a8q,hmr,hta,Option.map_map]
     congr 1
     funext t
     simp⟩,⟨G,G⟩,ut_,uq_⟩
  .have aL:p=s.length:=sm_ h2;rw[d2A aL]at hr;refine o6 ?_;refine u U9 ?_;refine u c0T ?_;refine u (A6 [Tok.cv ⟨5,[],0,(s.length:Int)⟩] G ⟨O,O⟩ b5a a3F a2M G G G G G G G G G) ?_;refine qD (B6 G O O G Q q_3 b5a a3F c3k a2M G (.inr G) q_8 d3s E9 ((acc++[(⟨5,[],0,(s.length:Int)⟩:Tok)]).map Tok.cv) (acc++[(⟨5,[],0,(s.length:Int)⟩:Tok)]).length Q Q ?_);refine c6 ?_;exact⟨_,o9 (rs:=[.tmp 2,.tmp 3,.tmp 4]) (cs:=[_,_,_]) G b3l (n_5 G),⟨((acc++[(⟨5,[],0,(s.length:Int)⟩:Tok)]),gnn (acc++[(⟨5,[],0,(s.length:Int)⟩:Tok)]).length,0,0),by exact .ret (.tups ⟨.tok (λr hr c hc=>(C2 (f:=Tok.cv) (λ_=>N8.all ⟨.val _,.val _,.val _,.val _,O⟩) _) r hr c hc),.old (.val _),.old (.val _),O⟩),.inl ⟨by rw[hr,aL];rfl,by rw[n_9];rfl,G,G⟩⟩⟩
theorem c6c(s:D)(hs:s.length<=1000000000)(σ:List b9):b8 CC 172 [(sv s)] σ λr τ=>∃x:c5x,r= .ret (c5Y x)/\τ=σ/\d5z s x:=
 F8 (res:=λx=>.ret (c5Y x)) hCC (λa h=>by simp at h;subst h;exact .val _) (c0v s hs) (λ_ _=>D3 (cs:=[_,_,_]) ⟨a2V _ _,.val _,.val _,O⟩) σ
theorem c83(e:Int):o0 e ([]:List Ex).length = .dead:=by
 unfold o0
 split<;>rfl
theorem c5E{L:Nat}{am:List Nat}{e:Int}{p:Nat}:B5 L am (.list (([]:List Ex).map Ex.cv) (gnn ([]:List Ex).length) (tkE e ([]:List Ex).length k)) (.list (([]:List Ex).map Ex.cv) (gnn ([]:List Ex).length) (tkE e ([]:List Ex).length p)):=by
 have h:∀k,tkE e ([]:List Ex).length k=none:=λk=>by
  unfold tkE
  split<;>rfl
 rw[h,h];exact .old a3l
theorem d2E{w s5:D}{m n5 n7:Nat}{l:List D}{S:Option (List D×Nat)}{e1 e5 e6 e7:Int}(hl:l.length<=8)(hi:isT (tk T m) 1 [105,109,112,111,114,116]=true)(hS:S=a1v (9-l.length) T w m l)(p1:l.length=8->e1≠0)(p2:l.length≠8->e1=0)(q5:Ok e1 ((I7 T (m+1)).map λx=>(x.1.t,x.2)) e5 (s5,n5))
 (p3:e5≠0->e6≠0)(p4:e5=0->s5=w\/s5∈l->e6≠0)(p5:e5=0->¬(s5=w\/s5∈l)->e6=0)(q7:Ok e6 (pIs T n5 4 [59]) e7 n7):(e7=0->l.length <8/\S=a1v (9- (l++[s5]).length) T w n7 (l++[s5]))/\(e7≠0->S=none):=by
 obtain⟨f,hf⟩:∃f,9-l.length=f+1:=⟨8-l.length,J⟩;have gE:9- (l++[s5]).length=f:=by simp;omega
 rw[hf,a1v,W hi]at hS;rw[gE];have d7:e5≠0->e7≠0:=λh=>q7.2 (p3 h);by_cases h8:l.length=8
 .rw [W h8]at hS;exact⟨λh=>absurd h (d7 (q5.2 (p1 h8))),λ_=>hS⟩
 .rw [H h8]at hS;have iN:=p2 h8;subst iN
  rcases q5.zero with⟨g5,hn⟩|⟨g5,hn⟩
  .obtain ⟨x,hx,hg⟩:=M8.1 hn;injection hg with dz cU
   rw[hx,n_8,dz,cU]at hS;by_cases hm:s5=w\/s5∈l
   .rw [W hm]at hS;exact⟨λh=>absurd h (q7.2 (p4 g5 hm)),λ_=>hS⟩
   .rw [H hm]at hS;have g6:=p5 g5 hm;subst g6
    rcases q7.zero with⟨g7,hi7⟩|⟨g7,hi7⟩
    .rw [hi7,n_8]at hS;exact⟨λ_=>⟨J,hS⟩,λh=>absurd g7 h⟩
    .rw [hi7]at hS;exact⟨λh=>absurd h g7,λ_=>hS⟩
  .rw [b3p.1 hn]at hS;exact⟨λh=>absurd h (d7 g5),λ_=>hS⟩
theorem c5l{m:Nat}{ds:List De}{S:Option (List De×Nat)}{a:RD5}(hl:ds.length<=64)(hk:¬(tk T m).k=5)(hS:S=R0 (65-ds.length) T m ds)(q:Ok 0 (a0J T ds m) a.e (a.d,a.n)):(a.e=0->ds.length <64/\S=R0 (65- (ds++[a.d]).length) T a.n (ds++[a.d]))/\(a.e≠0->S=none):=by
 obtain⟨f,hf⟩:∃f,65-ds.length=f+1:=⟨64-ds.length,J⟩;have gE:65- (ds++[a.d]).length=f:=by simp;omega
 rw[hf,R0,H hk]at hS;rw[gE]
 rcases q.zero with⟨g,hd⟩|⟨g,hd⟩
 .rw [hd,n_8]at hS;have:=b4d hd;exact⟨λ_=>⟨J,hS⟩,λh=>absurd g h⟩
 .rw [hd]at hS;exact⟨λh=>absurd h g,λ_=>hS⟩
structure RI5 where
 l:List D
 m:Nat
 at_:Int
 e:Int
variable{l:List D}
structure RJ5 where
 ds:List De
 m:Nat
 at_:Int
 e:Int
 ps:List D
 b:List Ex
variable{m:Nat}
theorem d2L{n1 n2 n3 m2:Nat}{w:D}{ds:List De}{e1 e2 e3 e4 e5:Int}(q1:Ok 0 (pIs T 0 1 [112,97,99,107,97,103,101]) e1 n1)(q2:Ok e1 ((I7 T n1).map λx=>(x.1.t,x.2)) e2 (w,n2))(q3:Ok e2 (pIs T n2 4 [59]) e3 n3)(q4:Ok e3 (a1v 9 T w n3 []) e4 (l,m))(q5:Ok e4 (R0 65 T m []) e5 (ds,m2)):Ok 0 (a05 T) e5 ⟨w,l,ds⟩:=by
 refine q1.bind (q2.bindM (λp hp hg=>?_) λh=>q5.2 (q4.2 (q3.2 h)));obtain⟨t,m'⟩:=p;injection hg with dz cU
 dsimp only at dz cU⊢;subst dz cU;exact q3.bind (q4.bind (q5.bind .some))
theorem c5X(s:D)(hs:s.length<=1000000000):b8 CC 119 [(sv s)] [] λr τ=>∃x:c5R,X0 0 τ r (.ret (c4f x))/\b5I s x:=by
 refine cO Tryz.func119 ?_;refine a7V ?_;refine a2t [.dead] G ?_;refine qs 4 (qD (j6 G a4J G i9 ?_));refine qD (c4 G Tryz.call172 ⟨O,O⟩ (c6c s hs _) G ?_);rintro⟨T,nn,at_,e⟩ hP;dsimp only at hP⊢;refine qC ?_ ?_<;>intro h1
 .have he:e≠0:=U h1;have hl:a3i s=none:=by
   rcases hP with⟨_,_,_,g⟩|⟨g,_⟩
   .exact absurd g he
   .exact g
  refine c4V ?_;exact⟨_,o9 (rs:=[.cell 2 99,.tmp 3,.tmp 4]) (cs:=[_,_,_]) G d4q (n_5 G),⟨((⟨[],[],[]⟩:Src),at_,e),d3Z,.inr ⟨by rw[N1,hl];rfl,G,he⟩⟩⟩
 .have he:e=0:=U h1;obtain⟨hl,rfl,rfl⟩:a3i s=some T/\nn=true/\at_=0:=by
   rcases hP with⟨g1,g2,g3,_⟩|⟨_,_,_,g⟩
   .exact ⟨g1,g2,g3⟩
   .exact absurd he g
  subst he;obtain⟨hc,h0⟩:=b0R hl;have hT:=hc.len;have hW:=hc.w;have aj:N1 s=a05 T:=by rw[N1,hl];rfl
  refine u (z8 #[(0,1),(1,1),(2,1),(3,1),(4,1),(5,1),(6,1)] G ⟨O,O⟩ b4B Tryz.zeroValue225 G ⟨_,G⟩ (λw=>by kernel_rfl) G G) ?_;refine qD (F4 G O j1 i9 ?_);refine a2t [o0 0 ([]:List Ex).length,.box [(sv ([])),.list (([]:List D).map scv) (gnn ([]:List D).length) none,.list (([]:List De).map De.cv) (gnn ([]:List De).length) none],rbx T 0 0 0 [] [] 0] G ?_;refine K5 (α:=Nat×Int×Int) (λ_=>[(2,.ptr 1 0),(6,.ptr 2 0)]) (λa=>[o0 a.2.2 ([]:List Ex).length,.box [(sv ([])),.list (([]:List D).map scv) (gnn ([]:List D).length) none,.list (([]:List De).map De.cv) (gnn ([]:List De).length) none],rbx T a.1 a.2.1 a.2.2 [] [] 0]) (λa=>Ok 0 (pIs T 0 1 [112,97,99,107,97,103,101]) a.2.2 a.1/\a.1 <T.length) ?_ ?_
  .
   refine qk (qD (c4 G a9C m0 (Y1 hT h0 hW [112,97,99,107,97,103,101] (q:=2) (s:=0) ⟨G,G,I⟩) G ?_));rintro⟨v9,m9⟩ ⟨fe,gF,iQ,fg⟩;dsimp only at fe gF iQ fg⊢;refine qN [o0 0 ([]:List Ex).length,.box [(sv ([])),.list (([]:List D).map scv) (gnn ([]:List D).length) none,.list (([]:List De).map De.cv) (gnn ([]:List De).length) none],rbx T m9 0 0 [] [] 0] G (qC ?_ ?_)<;> intro h2
   .have hw:v9=false:=U h2;refine u (c5 G a6S ⟨O,O⟩ (a0k hT fg (q:=2) (s:=0) ⟨G,G,I⟩) G) ?_;refine d6k ?_;rintro⟨x0,y0⟩ bF;dsimp only at bF⊢;refine qN [o0 y0 ([]:List Ex).length,.box [(sv ([])),.list (([]:List D).map scv) (gnn ([]:List D).length) none,.list (([]:List De).map De.cv) (gnn ([]:List De).length) none],rbx T m9 x0 y0 [] [] 0] G ?_;exact⟨(m9,x0,y0),⟨a94 (fe.symm.trans hw) bF,fg⟩,tu_,G⟩
   .have hw:v9=true:=U h2;exact⟨(m9,0,0),⟨by dsimp only;rw[gF hw];exact a9S (fe.symm.trans hw),fg⟩,tu_,G⟩
  .rintro ⟨n1,a1,e1⟩ E1 ⟨q1,y1⟩;dsimp only at q1 y1⊢;refine qk (qD (c4 G c9c ⟨O,O⟩ (a7A hT y1 hW (q:=2) (s:=0) ⟨G,G,I⟩) G ?_));rintro⟨w,n2,a2,e2⟩ ⟨q2,y2⟩;dsimp only at q2 y2⊢;refine qN [o0 e2 ([]:List Ex).length,.box [(sv ([])),.list (([]:List D).map scv) (gnn ([]:List D).length) none,.list (([]:List De).map De.cv) (gnn ([]:List De).length) none],rbx T n2 a2 e2 [] [] 0] G (qD (i0 G O O G j1 t_0 (.inl G) G G (nb G) ?_));refine qD (c4 G a4f m0 (M5 hT y2 hW [59] (q:=2) (s:=0) ⟨G,G,I⟩) G ?_);rintro⟨n3,a3,e3⟩ ⟨q3,y3⟩;dsimp only at q3 y3⊢;refine qN [o0 e3 ([]:List Ex).length,.box [(sv w),.list (([]:List D).map scv) (gnn ([]:List D).length) none,.list (([]:List De).map De.cv) (gnn ([]:List De).length) none],rbx T n3 a3 e3 [] [] 0] G ?_;refine B3 hCC 3 G (α:=RI5) (λ_=>[(2,.ptr 1 0),(6,.ptr 2 0)]) (λa=>[o0 a.e ([]:List Ex).length,.box [(sv w),.list (a.l.map scv) (gnn a.l.length) (D6 a.l.length 3),.list (([]:List De).map De.cv) (gnn ([]:List De).length) none],rbx T a.m a.at_ a.e [] [] 0,l8 a.l.length]) (λa=>(a.e=0->e3=0/\a1v 9 T w n3 []=a1v (9-a.l.length) T w a.m a.l/\a.l.length<=8)/\(a.e≠0->e3=0->a1v 9 T w n3 []=none)/\a.m <T.length/\a.l.length<=9) (λa=>if a.e=0 then 10-a.l.length else 0) ⟨⟨[],n3,a3,e3⟩,[0,1,2,9],⟨λh=>⟨h,G,n_4 _⟩,λh h'=>absurd h' h,y3,n_4 _⟩,⟨G,G⟩,ut_,⟨.inr ⟨_,G,.same G U4⟩,.inr ⟨_,G,.box ⟨.old (.val _),.old a2C,.old (M4 _ [] _),O⟩⟩,.inr ⟨_,G,.same G a9b⟩,.inl G,O⟩⟩ ?_;intro⟨l,m,a5,e⟩ ⟨hI,hN,hm,hl9⟩;dsimp only at hI hN hm hl9⊢;refine qs 1 (qG F9 ?_);refine qG e2K ?_;refine qG c10 ?_;refine a2P ?_;refine qG F9 ?_;refine qG e2K ?_;refine qG d1a ?_;refine qG b2W ?_;refine u Q8 ?_;refine qC ?_ ?_<;>intro h3
   .have hc3:e=0/\isT (tk T m) 1 [105,109,112,111,114,116]=true:=by simpa[isT,and_assoc]using h3
    obtain⟨rfl,hi⟩:=hc3;obtain⟨he3,hS,hl8⟩:=hI G;have cz:=hW m hm (a6o hi I);refine K5 (α:=Int×Int) (λ_=>[(2,.ptr 1 0),(6,.ptr 2 0)]) (λa=>[o0 a.2 ([]:List Ex).length,.box [(sv w),.list (l.map scv) (gnn l.length) (D6 l.length 3),.list (([]:List De).map De.cv) (gnn ([]:List De).length) none],rbx T m a.1 a.2 [] [] 0,l8 l.length]) (λa=>(l.length=8->a.2≠0)/\(l.length≠8->a.2=0)) ?_ ?_
    .
     refine qk (u P0 ?_);refine qC ?_ ?_<;>intro h4
     .have h8:l.length=8:=sm_ h4;refine u (c5 G a6S ⟨O,O⟩ (a0k hT hm (q:=2) (s:=0) ⟨G,G,I⟩) G) ?_;refine d6k ?_;rintro⟨x0,y0⟩ bF;dsimp only at bF⊢;refine qN [o0 y0 ([]:List Ex).length,.box [(sv w),.list (l.map scv) (gnn l.length) (D6 l.length 3),.list (([]:List De).map De.cv) (gnn ([]:List De).length) none],rbx T m x0 y0 [] [] 0,l8 l.length] G ?_;exact⟨(x0,y0),⟨λ_=>bF,λh=>absurd h8 h⟩,tu_,G⟩
     .have h8:¬l.length=8:=sm_ h4;exact⟨(a5,0),⟨λh=>absurd h h8,λ_=>G⟩,tu_,G⟩
    .rintro ⟨a6,e6⟩ E2 ⟨p1,p2⟩;dsimp only at p1 p2⊢;refine qs 3 ?_;refine z_6 ?_;refine u (c5 G a6S ⟨O,O⟩ (a0k hT cz (q:=2) (s:=0) ⟨G,G,I⟩) G) ?_;refine u a34 ?_;refine qD (c4 G c9c ⟨O,O⟩ (a7A hT cz hW (q:=2) (s:=0) ⟨G,G,I⟩) G ?_);rintro⟨s5,n5,a7,e7⟩ ⟨q5,y5⟩;dsimp only at q5 y5⊢;have eX:=X3 l s5;refine qN [o0 e7 ([]:List Ex).length,.box [(sv w),.list (l.map scv) (gnn l.length) (D6 l.length 3),.list (([]:List De).map De.cv) (gnn ([]:List De).length) none],rbx T n5 a7 e7 [] [] 0,l8 l.length] G ?_;refine K5 (α:=Int×Int) (λ_=>[(2,.ptr 1 0),(6,.ptr 2 0),(8,(sv s5))]) (λa=>[o0 a.2 ([]:List Ex).length,.box [(sv w),.list (l.map scv) (gnn l.length) (D6 l.length 3),.list (([]:List De).map De.cv) (gnn ([]:List De).length) none],rbx T n5 a.1 a.2 [] [] 0,l8 l.length]) (λa=>(e7≠0->a.2≠0)/\(e7=0->s5=w\/s5∈l->a.2≠0)/\(e7=0->¬(s5=w\/s5∈l)->a.2=0)) ?_ ?_
     .
      refine qk (qG F9 ?_);refine d7g ?_;refine qG b3M ?_;refine qG b1b ?_;refine qH G G (λhk hg=>i7 G O G a8u G a2Q I) ?_;refine qH G G (λhk hg=>l9 G ⟨hk,hg⟩ G b9G G G) ?_;refine qH G G (λhk hg=>a0Q G O j1) ?_;refine qH G G (λhk hg=>c5 G c6p ⟨⟨hk,hg⟩,⟨hk,hg⟩,O⟩ (b0Y l (gnn l.length) s5 J _) G) ?_;refine qG (λhg=>a75 G hg G (λhp=>⟨hg,hp⟩) V9) ?_;refine u Q8 ?_;refine qC ?_ ?_<;>intro h5
      .have hc5:e7=0/\(s5=w\/s5∈l):=U h5;refine qD (c4 G b0n a3T (a0u _ _ I (q:=2) (s:=0) ⟨G,G,I⟩) G ?_);rintro⟨x0,y0⟩ bF;dsimp only at bF⊢;refine qN [o0 y0 ([]:List Ex).length,.box [(sv w),.list (l.map scv) (gnn l.length) (D6 l.length 3),.list (([]:List De).map De.cv) (gnn ([]:List De).length) none],rbx T n5 x0 y0 [] [] 0,l8 l.length] G ?_;exact⟨(x0,y0),⟨λ_=>bF,λ_ _=>bF,λ_ h=>absurd hc5.2 h⟩,tu_,G⟩
      .have hc5:¬(e7=0/\(s5=w\/s5∈l)):=λh=>by rcases h with⟨h,h'|h'⟩<;>simp[h,h']at h5
       exact⟨(a7,e7),⟨id,λh h'=>absurd ⟨h,h'⟩ hc5,λh _=>h⟩,tu_,G⟩
     .rintro ⟨a8,e8⟩ E3 ⟨p3,p4,p5⟩;dsimp only at p3 p4 p5⊢;refine qk (qD (c4 G a4f m0 (M5 hT y5 hW [59] (q:=2) (s:=0) ⟨G,G,I⟩) G ?_));rintro⟨n9,a9,e9⟩ ⟨q9,y9⟩;dsimp only at q9 y9⊢;have aG:=d2E hl8 hi hS p1 p2 q5 p3 p4 p5 q9;refine qN [o0 e9 ([]:List Ex).length,.box [(sv w),.list (l.map scv) (gnn l.length) (D6 l.length 3),.list (([]:List De).map De.cv) (gnn ([]:List De).length) none],rbx T n9 a9 e9 [] [] 0,l8 l.length] G (u (A6 [scv s5] G ⟨O,O⟩ t_2 t_0 t_4 G G G G G G G G G) ?_);refine qD (B6 G O O G Q q_3 t_2 t_0 a5s t_4 G (.inr G) q_8 a2h E9 ((l++[s5]).map scv) (l++[s5]).length Q Q ?_);refine qD (i0 G O O G j1 a2Q (.inl G) G G (nb G) ?_);exact⟨⟨l++[s5],n9,a9,e9⟩,[0,1,2,4],⟨by
       dsimp only;rw[W G]
       split<;>omega,λh=>⟨he3,(aG.1 h).2,by have:=(aG.1 h).1;dsimp only;omega⟩,λh _=>aG.2 h,y9,do_⟩,⟨G,G⟩,ut_,⟨.inr ⟨_,G,.same G U4⟩,.inr ⟨_,G,.box ⟨.old (.val _),B5.grow (f:=scv) (λ_=>⟨.val _,O⟩) G,.old (M4 _ [] _),O⟩⟩,.inr ⟨_,G,.same G a9b⟩,.inr ⟨_,G,.same G B0⟩,O⟩⟩
   .have hc3:e=0->isT (tk T m) 1 [105,109,112,111,114,116]=false:=λh0=>by
     by_cases hi:isT (tk T m) 1 [105,109,112,111,114,116]=true
     .have:=O8 hi;simp[h0,this.1,this.2]at h3
     .simpa using hi
    have q4:Ok e3 (a1v 9 T w n3 []) e (l,m):=Ok.of (λh=>by
     obtain⟨g3,hS,hl8⟩:=hI h;obtain⟨f,hf⟩:∃f,9-l.length=f+1:=⟨8-l.length,J⟩;exact⟨g3,hS.trans (by rw[hf,a1v,H (by rw[hc3 h];decide)])⟩) hN
    refine o6 ?_;refine B3 hCC 4 G (α:=RJ5) (λ_=>[(2,.ptr 1 0),(6,.ptr 2 0)]) (λa=>[.dead,.box [(sv w),.list (l.map scv) (gnn l.length) none,.list (a.ds.map De.cv) (gnn a.ds.length) (D6 a.ds.length 4)],rbx T a.m a.at_ a.e a.ps a.b 5,.dead,l8 a.ds.length,o0 a.e a.b.length]) (λa=>(a.e=0->e=0/\R0 65 T m []=R0 (65-a.ds.length) T a.m a.ds/\a.ds.length<=64)/\(a.e≠0->e=0->R0 65 T m []=none)/\a.m <T.length/\a.ds.length<=65) (λa=>if a.e=0 then T.length -a.m+1 else 0) ⟨⟨[],m,a5,e,[],[]⟩,[0,1,2,3,9,10],⟨λh=>⟨h,G,n_4 _⟩,λh h'=>absurd h' h,hm,n_4 _⟩,⟨G,G⟩,ut_,⟨.inl G,.inr ⟨_,G,.box ⟨.old (.val _),V4 (f:=scv) (λ_=>⟨.val _,O⟩) _,.old (M4 _ [] _),O⟩⟩,.inr ⟨_,G,.box ⟨.old a04,.old (.val _),.old (.val _),.old (.val _),.old H8,c5E,.old a3l,O⟩⟩,.inl G,.inl G,.inl (c83 _),O⟩⟩ ?_;intro⟨ds,m2,a6,e5,ps,b⟩ ⟨hI2,hN2,cc,ck⟩;dsimp only at hI2 hN2 cc ck⊢;refine qk (qG F9 ?_);refine qG (λhg=>c5 G a6S ⟨hg,O⟩ (a0k hT cc (q:=2) (s:=5) ⟨G,G,I⟩) G) ?_;refine qG c10 ?_;refine a2P ?_;refine qC ?_ ?_<;>intro h6
    .have hc6:e5=0/\¬(tk T m2).k=5:=U h6;obtain⟨rfl,hk⟩:=hc6;obtain⟨he,hS,hd64⟩:=hI2 G;refine cF [] [0,1,2,3] (tl:=[(4,[0,1]),(5,[0,1]),(6,[]),(7,[]),(8,[])]) ?_;refine chf G c1F ?_;refine chf G c8Z ?_;refine chf G O0 ?_;refine chf G b6P ?_;refine F2 ?_;refine B1 G G G (c4 G Tryz.call179 j2 (d4R hc w l ds hd64 cc (q:=2) (s:=5) ⟨G,G,I⟩) G ?_);rintro⟨d,m1,a7,e7,ps7,b7⟩ ⟨k7,y7,w7,z7⟩;dsimp only at k7 y7 w7 z7⊢;have eX:=X3 ds d;have bO:(if e7=0 then T.length -m1+1 else 0)< (if(0:Int)=0 then T.length -m2+1 else 0):=by
      rw[W G]
      split
      .rename_i h0;have:=z7 h0;omega
      .omega
     have aG:=c5l (a:=⟨d,m1,a7,e7,ps7,b7⟩) hd64 hk hS k7;refine a6J [.dead,.box [(sv w),.list (l.map scv) (gnn l.length) none,.list (ds.map De.cv) (gnn ds.length) (D6 ds.length 4)],rbx T m1 a7 e7 ps7 b7 6,.dead,l8 ds.length,.dead,o0 e7 b7.length] G ?_;refine d6a ?_;refine B1 G G G (B6 G O O G Q q_3 a8m a4c Tryz.typeInfo104 b5J G (.inr G) q_8 (by have hb:Tryz.t104.bytes=72:=G;rw[hb];first|omega|(simp;done)|(simp;omega)) E9 ((ds++[d]).map De.cv) (ds++[d]).length Q Q ?_);refine⟨O,?_⟩;refine d6V ?_;refine a8h ?_;exact⟨⟨ds++[d],m1,a7,e7,ps7,b7⟩,[0,1,2,3,7,6],⟨bO,λh=>⟨he,(aG.1 h).2,by have:=(aG.1 h).1;dsimp only;omega⟩,λh _=>aG.2 h,y7,do_⟩,⟨G,G⟩,ut_,⟨.inl G,.inr ⟨_,G,.box ⟨.old (.val _),.old H8,B5.grow (f:=De.cv) (λ_=>⟨.val _,.val _,B9 _ _ _,N4 _ _ _,O⟩) G,O⟩⟩,.inr ⟨_,G,.box ⟨.old a04,.old (.val _),.old (.val _),.old (.val _),.old H8,Z2 G,.old a3l,O⟩⟩,.inl G,.inr ⟨_,G,.same G B0⟩,.inr ⟨_,G,.same G U4⟩,O⟩⟩
    .have q5:Ok e (R0 65 T m []) e5 (ds,m2):=Ok.of (λh=>by
      obtain⟨g3,hS,hd64⟩:=hI2 h;have hk:(tk T m2).k=5:=by
       by_cases hk:(tk T m2).k=5
       .exact hk
       .simp [h,hk]at h6
      obtain⟨f,hf⟩:∃f,65-ds.length=f+1:=⟨64-ds.length,J⟩;exact⟨g3,hS.trans (by rw[hf,R0,W hk])⟩) hN2
     have hfile:=(d2L q1 q2 q3 q4 q5).zero;refine o6 ?_;refine qC ?_ ?_<;>intro h7
     .have he5:e5≠0:=U h7;refine cF [] [0,1,2,3,4,5,6,7,8] (tl:=[(9,[1,2,3,4,5,6,7,8]),(10,[5,6,7,8]),(11,[])]) ?_;refine chf G d9Q ?_;refine chf G O0 ?_;refine chf G a1e ?_;refine chf G (c7 G c9X) ?_;refine chf G b7Z ?_;refine chf G O0 ?_;refine chf G a1e ?_;refine chf G (c7 G b6A) ?_;refine chf G c8n ?_;refine c84 ?_;refine⟨⟨C3,a3q,(by exact c7 G c9X),b7V,C3,a3q,(by exact c7 G b6A),b3n,O⟩,?_⟩;refine C7 G G b1R ⟨⟨C3,a3q,(by exact c7 G b6A),b3n,O⟩,?_⟩;refine a5x ?_;refine c6 ?_;exact⟨_,o9 (rs:=[.cell 2 99,.tmp 3,.tmp 4]) (cs:=[_,_,_]) G d4q (n_5 G),⟨((⟨[],[],[]⟩:Src),a6,e5),d3Z,.inr ⟨by rw[aj];exact(hfile.resolve_left λh=>he5 h.1).2,G,he5⟩⟩⟩
     .have he5:e5=0:=U h7;refine c4V ?_;exact⟨_,o9 (rs:=[.cell 2 99,.tmp 3,.tmp 4]) (cs:=[_,_,_]) G d4q (n_5 G),⟨(⟨w,l,ds⟩,0,0),(by exact .ret (.tups ⟨.aggs ⟨.old (.val _),.old H8,.tok (C2 (f:=De.cv) (λa=>(De.pure a).all) _),O⟩,.old (.val _),.old (.val _),O⟩)),.inl ⟨by rw[aj];exact(hfile.resolve_right λh=>h.1 he5).2,G,G⟩⟩⟩
theorem d2k(s:D)(hs:s.length<=1000000000)(σ:List b9):b8 CC 119 [(sv s)] σ λr τ=>∃x:c5R,r= .ret (c4f x)/\τ=σ/\b5I s x:=
 F8 (res:=λx=>.ret (c4f x)) hCC (λc hc=>by simp at hc;subst hc;exact .val _) (c5X s hs) (λx _=>D3 ⟨j5 x.1.pure,.val _,.val _,O⟩) σ
def a7a(p b:D):Option Src:=if a35 p=true then N1 b else none
def a4U(l:List Fi)(p:D):Option Src:=(if B4 l=0 then r8 l p else none).bind (a7a p)
def o4(l:List Fi):List (D×Src):=l.filterMap λf=>(a7a f.p f.b).map λs=>(f.p,s)
theorem b18{l:List Fi}{i:Nat}{y:Fi}(h:l[i]?=some y):o4 (l.drop i)=(match a7a y.p y.b with|none=>[]|some s=>[(y.p,s)])++o4 (l.drop (i+1)):=by
 obtain⟨ai,rfl⟩:=n_2.1 h;rw[a0v ai];unfold o4;rw[List.filterMap_cons];cases a7a l[i].p l[i].b<;>rfl
abbrev a1H(P:List D)(S:List Src):List CV:=[.list (P.map scv) (gnn P.length) none,.list (S.map Src.cv) (gnn S.length) none]
def b2X(l:List Fi):List D:=if B4 l=0 then(o4 l).map Prod.fst else []
def b3V(l:List Fi):List Src:=if B4 l=0 then(o4 l).map Prod.snd else []
theorem a1P(l:List Src)(nn:Bool):o8 (.list (l.map Src.cv) nn none):=I6 (f:=Src.cv) (λa=>(Src.pure a)) l nn
theorem a7s(n:Nat)(l:List Src)(nn:Bool):Old n (.list (l.map Src.cv) nn none):=(a1P l nn).old
theorem a8M(l:List Fi)(nn:Bool)(p:D)(hl:l.length<=1000000)(hp:p.length<=1000000000)(hb:∀q b,r8 l q=some b->b.length<=1000000000)(σ:List b9):b8 CC 87 [.agg (A0 l nn),(sv p)] σ λr ae=>r= .ret (.tup [.agg ((a4U l p).getD Src.z).cells,.val (.bool (a4U l p).isSome)])/\ae=σ:=by
 refine b8.anyw hCC (by repeat' (first|exact .val _|exact F5 _ _|exact Src.pure _|exact O|refine j5 ?_|refine D3 ?_|refine⟨?_,?_⟩)) (by repeat' (first|exact .val _|exact F5 _ _|exact Src.pure _|exact O|refine j5 ?_|refine D3 ?_|refine⟨?_,?_⟩)) ?_ σ;refine c9 (qO Tryz.func87 ?_);refine qD (F4 G O j1 i9 ?_);refine qD (j6 G a4J G i9 ?_);refine u (c5 G c3g j2 (a72 l nn p hl _) G) ?_;refine qG F9 ?_;refine qG (λhg=>c5 G Tryz.call118 ⟨hg,O⟩ (b2c p hp _) G) ?_;refine qG a3Y ?_;refine u S4 ?_;refine qC ?_ ?_<;>intro h1
 .have h0:a4U l p=none:=by
   unfold a4U a7a;cases hz:(if B4 l=0 then r8 l p else none)with
   |none=>rfl
   |some b=>
    rw[hz]at h1;simp at h1;simp[h1]
  refine u e2M ?_;refine c4V ?_;exact⟨_,o9 (rs:=[.cell 4 99,.tmp 5]) (cs:=[_,_]) G d4w (n_5 G),_,_,G,G,(by rw[h0];exact .tups ⟨.old (j5 (Src.pure Src.z)).old,.old (.val _),O⟩)⟩
 .obtain ⟨b,hz,hs⟩:∃b,(if B4 l=0 then r8 l p else none)=some b/\a35 p=true:=by
   cases hz:(if B4 l=0 then r8 l p else none)with
   |none=>rw[hz]at h1;simp at h1
   |some b=>rw[hz]at h1;simp at h1;exact⟨b,G,h1⟩
  have h0:a4U l p=N1 b:=by rw[a4U,hz,n_8,a7a,W hs]
  refine qD (c4 G Tryz.call119 ⟨O,O⟩ (d2k _ (by
   cases hd:r8 l p with
   |none=>split<;>simp
   |some b=>have:=hb p b hd;split<;>simp<;>omega) _) G ?_)
  rintro⟨x,at_,e⟩ hP;dsimp only at hP⊢;rw[hz]at hP;have hx:((a4U l p).getD Src.z)=x/\(a4U l p).isSome=decide (e=0):=by
   rw[h0]
   rcases hP with⟨g1,_,g3⟩|⟨g1,g2,g3⟩
   .replace g1:N1 b=some x:=g1;rw[g1];exact⟨G,(a2m g3).symm⟩
   .replace g1:N1 b=none:=g1;rw[g1];exact⟨g2.symm,(a1R g3).symm⟩
  refine c0k ?_;refine c4V ?_;exact⟨_,o9 (rs:=[.cell 4 99,.tmp 5]) (cs:=[_,_]) G d4w (n_5 G),_,_,G,G,(by rw[hx.1,hx.2];exact .tups ⟨.old (j5 (Src.pure x)).old,.old (.val _),O⟩)⟩
theorem c9l{l:List Fi}(h:B4 l=0):l.length<=64:=by
 unfold B4 at h;split at h
 .cases h
 .omega
theorem c8h(l:List Fi)(nn:Bool)(hl:l.length<=1000000)(hp:∀f∈l,f.p.length<=1000000000)(hbl:∀q b,r8 l q=some b->b.length<=1000000000)(hd:B4 l=0->∀f∈l,r8 l f.p=some f.b):b8 CC 42 [.agg (A0 l nn)] [] λr τ=>∃_:Unit,X0 0 τ r (.ret (.agg (a1H (b2X l) (b3V l))))/\True:=by
 refine qO Tryz.func42 ?_;refine qD (F4 G O j1 i9 ?_);refine qD (j6 G c6Y G i9 ?_);refine qD (j6 G c6Y G i9 ?_);refine u c8U ?_;refine qC ?_ ?_<;>intro h1
 .have h0:¬B4 l=0:=U h1;refine d8b ?_;exact⟨_,B7 G ⟨O,_,_,_,G,G,.inr ⟨_,c3r,b7b,nb G,G⟩⟩,⟨(),by rw[b2X,b3V,H h0,H h0];exact .ret (.old (j5 (cs:=[.list [] false none,.list [] false none]) ⟨C1 [] false,C1 [] false,O⟩).old),O⟩⟩
 .have h0:B4 l=0:=U h1;have fp:=c9l h0;refine u a2E ?_;refine B3 hCC 3 G (α:=Nat×List D×List Src) (λa=>[(1,.ptr 0 0),(2,.ptr 1 0),(3,.ptr 2 0),(13,(.list (l.map Fi.cv) nn none)),(14,iv l.length),(15,iv a.1)]) (λa=>[.box (A0 l nn),.box [.list [] false none,.list [] false none],.box [.list (a.2.1.map scv) (gnn a.2.1.length) (D6 a.2.1.length 3),.list (a.2.2.map Src.cv) (gnn a.2.2.length) (D6 a.2.2.length 4)],l8 a.2.1.length,l8 a.2.2.length]) (λa=>a.1<=l.length/\a.2.1.length<=a.1/\a.2.2.length<=a.1/\(o4 l).map Prod.fst=a.2.1++(o4 (l.drop a.1)).map Prod.fst/\(o4 l).map Prod.snd=a.2.2++(o4 (l.drop a.1)).map Prod.snd) (λa=>l.length -a.1) ⟨(0,[],[]),[0,1,2,9,10],⟨n_4 _,n_6 _,n_6 _,G,G⟩,⟨G,G⟩,ut_,⟨.inr ⟨_,G,.box ⟨.old Q4,O⟩⟩,.inr ⟨_,G,.box ⟨.old a2C,.old a2C,O⟩⟩,.inr ⟨_,G,.box ⟨.old a2C,.old a2C,O⟩⟩,.inl G,.inl G,O⟩⟩ ?_;intro⟨i,P,Ji⟩ ⟨hi,bo,hql,hr,hq⟩;dsimp only at hi bo hql hr hq⊢;refine qk (qC ?_ ?_)<;> intro h2
  .have ai:(i:Int)<l.length:=U h2;obtain⟨y,hb⟩:=gx_ l i;have hyd:=hd h0 y (n_3 hb);have hsy:a4U l y.p=a7a y.p y.b:=by rw[a4U,W h0,hyd];rfl
   rw[b18 hb]at hr hq;refine b9n ?_;refine u (c5 G Tryz.call87 j2 (a8M l nn y.p hl (hp y (n_3 hb)) hbl _) G) ?_;refine c0k ?_;refine qC ?_ ?_<;>intro h3
   .obtain ⟨s,hs⟩:∃s,a7a y.p y.b=some s:=b27.1 (by rw[<- hsy];exact h3);have hsd:(a4U l y.p).getD Src.z=s:=by rw[hsy,hs];rfl
    rw[hs]at hr hq;replace hr:(o4 l).map Prod.fst=P++(y.p::(o4 (l.drop (i+1))).map Prod.fst):=hr;replace hq:(o4 l).map Prod.snd=Ji++(s::(o4 (l.drop (i+1))).map Prod.snd):=hq;rw[<- hsd]at hq;refine cF [11] [0,1,2,3,4,6,7,8,9] (tl:=[(5,[5,6,7,8]),(11,[5,6,7,8]),(10,[]),(12,[]),(13,[]),(14,[])]) ?_;refine chf G (c7 G b8w) ?_;refine chf G c8L ?_;refine b6X ?_;refine chf G e0O ?_;refine d6E ?_;refine chf G b6P ?_;refine chf G (c7 G e1o) ?_;refine F2 ?_;refine B1 G G G (B6 G O O G Q q_3 t_2 t_0 a5s t_4 G (.inr G) q_8 a2h E9 ((P++[y.p]).map scv) (P++[y.p]).length Q Q ?_);refine⟨⟨(by exact c7 G (i7 G O G d2G G c7E I)),(by exact c7 G (l9 G O G Tryz.isAgg92 G G)),c7G,(by exact c7 G e1o),O⟩,?_⟩;refine b1M G G (λ_=>c7 G b8w) ?_;refine B1 G G G (B6 G O O G Q q_3 b6b a3L Tryz.typeInfo99 a4J G (.inr G) q_8 (by have hb:Tryz.t99.bytes=64:=G;rw[hb];first|omega|(simp;done)|(simp;omega)) E9 ((Ji++[(a4U l y.p).getD Src.z]).map Src.cv) (Ji++[(a4U l y.p).getD Src.z]).length Q Q ?_);refine⟨O,?_⟩;refine B1 G G G (i0 G O O G j1 a2Q (.inl G) G G (nb G) ?_);refine⟨O,?_⟩;refine C7 G G d6M ⟨O,?_⟩;refine B1 G G G (i0 G O O G j1 c7E (.inl G) G G (nb G) ?_);refine a8h ?_;refine u o3 ?_;exact⟨(i+1,P++[y.p],Ji++[(a4U l y.p).getD Src.z]),[0,1,2,7,8],⟨do_,do_,by dsimp only;simp;omega,by dsimp only;simp;omega,by dsimp only;rw[hr,T5];rfl,by dsimp only;rw[hq,T5];rfl⟩,⟨G,G⟩,ut_,⟨.inr ⟨_,G,.box ⟨.old Q4,O⟩⟩,.inr ⟨_,G,.box ⟨.old a2C,.old a2C,O⟩⟩,.inr ⟨_,G,.box ⟨B5.grow (f:=scv) (λ_=>⟨.val _,O⟩) G,B5.grow (f:=Src.cv) (λ_=>⟨.val _,B9 _ _ _,M4 _ _ _,O⟩) G,O⟩⟩,.inr ⟨_,G,.same G B0⟩,.inr ⟨_,G,.same G B0⟩,O⟩⟩
   .have hs:a7a y.p y.b=none:=by rw[<- hsy];simpa using h3
    rw[hs]at hr hq;rw[b2j]at hr hq;refine u o3 ?_;exact⟨(i+1,P,Ji),[0,1,2,3,4],⟨do_,do_,do_,do_,hr,hq⟩,⟨G,G⟩,ut_,⟨.inr ⟨_,G,.box ⟨.old Q4,O⟩⟩,.inr ⟨_,G,.box ⟨.old a2C,.old a2C,O⟩⟩,.inr ⟨_,G,.box ⟨B5.grow (f:=scv) (λ_=>⟨.val _,O⟩) G,B5.grow (f:=Src.cv) (λ_=>⟨.val _,B9 _ _ _,M4 _ _ _,O⟩) G,O⟩⟩,.inr ⟨_,G,.same G B0⟩,.inr ⟨_,G,.same G B0⟩,O⟩⟩
  .have aL:l.length<=i:=sm_ h2;rw[a0V aL]at hr hq;replace hr:(o4 l).map Prod.fst=P:=by rw[hr];exact a0h _
   replace hq:(o4 l).map Prod.snd=Ji:=by rw[hq];exact a0h _
   refine o6 ?_;refine d8b ?_;exact⟨_,B7 G ⟨O,_,_,_,G,G,.inr ⟨_,c3r,b7b,nb G,G⟩⟩,⟨(),by rw[b2X,b3V,W h0,W h0,hr,hq];exact .ret (.aggs ⟨.tok (C2 (f:=scv) (λ_=>N8.all ⟨.val _,O⟩) _),.tok (C2 (f:=Src.cv) (λa=>(Src.pure a).all) _),O⟩),O⟩⟩
theorem d5G(l:List Fi)(nn:Bool)(hl:l.length<=1000000)(hp:∀f∈l,f.p.length<=1000000000)(hbl:∀q b,r8 l q=some b->b.length<=1000000000)(hd:B4 l=0->∀f∈l,r8 l f.p=some f.b)(σ:List b9):b8 CC 42 [.agg (A0 l nn)] σ λr τ=>r= .ret (.agg (a1H (b2X l) (b3V l)))/\τ=σ:=
 (F8 (α:=Unit) (res:=λ_=>.ret (.agg (a1H (b2X l) (b3V l)))) hCC (λc h=>by simp at h;subst h;exact j5 ⟨F5 _ _,O⟩) (c8h l nn hl hp hbl hd) (λ_ _=>j5 ⟨C1 _ _,a1P _ _,O⟩) σ).mono λ_ _ ⟨_,h1,h2,_⟩=>⟨h1,h2⟩
def fiD(k:Int)(o pa pk:D):List De->Nat->En->En
 | [],_,e=>e
 |d::l,j,e=>fiD k o pa pk l (j+1) (if(d.k == k&&decide (d.name=o))=true then(if(e.ct+1 == 1)=true then⟨pk,e.o,e.k,pa,j,e.ct+1⟩else⟨e.p,e.o,e.k,e.pl,e.ix,e.ct+1⟩)else e)
def fiL(k:Int)(p o:D):List (D×Src)->En->En
 | [],e=>e
 |x::l,e=>fiL k p o l (if((k != 3)&& !decide (x.2.pkg=p))=true then e else fiD k o x.1 x.2.pkg x.2.decls 0 e)
def fiE(L:List (D×Src))(k:Int)(p o:D):En:=fiL k p o L ⟨if k=3 then []else p,o,k,[],0,0⟩
theorem d0I{k:Int}{o pa pk:D}{l:List De}{j:Nat}{e:En}(h:l[j]?=some d):fiD k o pa pk (l.drop j) j e=fiD k o pa pk (l.drop (j+1)) (j+1) (if(d.k == k&&decide (d.name=o))=true then(if(e.ct+1 == 1)=true then⟨pk,e.o,e.k,pa,j,e.ct+1⟩else⟨e.p,e.o,e.k,e.pl,e.ix,e.ct+1⟩)else e):=by
 obtain⟨ai,rfl⟩:=n_2.1 h;rw[a0v ai];rfl
theorem d0Q{k:Int}{p o:D}{l:List (D×Src)}{i:Nat}{x:D×Src}{e:En}(h:l[i]?=some x):fiL k p o (l.drop i) e=fiL k p o (l.drop (i+1)) (if((k != 3)&& !decide (x.2.pkg=p))=true then e else fiD k o x.1 x.2.pkg x.2.decls 0 e):=by
 obtain⟨ai,rfl⟩:=n_2.1 h;rw[a0v ai];rfl
theorem d3I{i:Nat}{x:D×Src}(h:L[i]?=some x):(L.map Prod.fst)[i]?=some x.1:=by rw[N6,h];rfl
theorem d4b{i:Nat}{x:D×Src}(h:L[i]?=some x):(L.map Prod.snd)[i]?=some x.2:=by rw[N6,h];rfl
theorem a9u(L:List (D×Src))(k:Int)(p o:D)(hL:L.length<=1000)(hd:∀x∈L,x.2.decls.length<=100000)(σ:List b9):b8 CC 43 [.agg (a1H (L.map Prod.fst) (L.map Prod.snd)),iv k,(sv p),(sv o)] σ λr ae=>r= .ret (.agg (fiE L k p o).cells)/\ae=σ:=by
 refine an_ Tryz.func43 ?_;refine qs 2 (qD (F4 G O j1 i9 ?_));refine qD (j6 G a0z G i9 ?_);refine u e1R ?_;refine z_7 ?_;refine a5n hCC (α:=D) (λ_=>[(1,iv k),(2,(sv p)),(3,(sv o)),(4,.ptr 0 0),(8,.ptr 1 0),(9,.ptr 2 0)]) (λa=>[.box (a1H (L.map Prod.fst) (L.map Prod.snd)),.box En.z.cells,.box (⟨a,o,k,[],0,0⟩:En).cells]) (λa=>a=if k=3 then []else p) D5 uz_ ?_ ?_
 .
  refine qk (qC ?_ ?_)<;> intro h1
  .have hk:k=3:=U h1;refine qD (i0 G O G G j1 t_0 (.inl G) G G (nb G) ?_);exact⟨([]:D),_,(W hk).symm,tu_,G⟩
  .have hk:¬k=3:=U h1;exact⟨p,_,(H hk).symm,tu_,G⟩
 .intro pp fL;have gC:(L.map Prod.snd).length=L.length:=N0 _;refine qk (u (Z3 G O G b6b a7l G) ?_);refine u0 hCC (α:=Nat×En) (λa=>[(1,iv k),(2,(sv p)),(3,(sv o)),(4,.ptr 0 0),(8,.ptr 1 0),(9,.ptr 2 0),(22,(.list ((L.map Prod.snd).map Src.cv) (gnn (L.map Prod.snd).length) none)),(23,(iv ((L.map Prod.snd).length:Int))),(24,iv a.1)]) (λa=>[.box (a1H (L.map Prod.fst) (L.map Prod.snd)),.box En.z.cells,.box a.2.cells]) (λa=>a.1<=L.length/\fiE L k p o=fiL k p o (L.drop a.1) a.2/\0<=a.2.ct/\a.2.ct<=100000*(a.1:Int)) (λa=>L.length -a.1) (0,(⟨pp,o,k,[],0,0⟩:En)) ⟨n_4 _,by rw[fL];rfl,a5E _,a5E _⟩ tu_ (au:=[]) G D5 uz_ ?_;intro⟨i,e⟩ ⟨hi,hr,h0,hc⟩;dsimp only at hi hr h0 hc⊢;refine qk (qC ?_ ?_)<;> intro h2
  .have ai:i<L.length:=sm_ h2;obtain⟨x,hb⟩:∃x,L[i]?=some x:=⟨L[i]'ai,Q⟩;have fZ:=hd x (n_3 hb);rw[d0Q hb]at hr;refine u c7B ?_;refine c0k ?_;refine d7g ?_;refine qG F9 ?_;refine qG (λhg=>a1r G hg hg G G (a7p _ _)) ?_;refine u Q8 ?_;refine qC ?_ ?_<;>intro h3
   .rw [W h3]at hr;exact d7c
   .rw [H (by rw[h3];exact b2z)]at hr;refine u b11 ?_;refine u0 hCC (α:=Nat×En) (λa=>[(1,iv k),(2,(sv p)),(3,(sv o)),(4,.ptr 0 0),(8,.ptr 1 0),(9,.ptr 2 0),(10,iv i),(11,.ptr 3 0),(22,(.list ((L.map Prod.snd).map Src.cv) (gnn (L.map Prod.snd).length) none)),(23,(iv ((L.map Prod.snd).length:Int))),(24,iv i),(38,(.list (x.2.decls.map De.cv) (gnn x.2.decls.length) none)),(39,iv x.2.decls.length),(40,iv a.1)]) (λa=>[.box (a1H (L.map Prod.fst) (L.map Prod.snd)),.box En.z.cells,.box a.2.cells,.box x.2.cells]) (λa=>a.1<=x.2.decls.length/\fiE L k p o=fiL k p o (L.drop (i+1)) (fiD k o x.1 x.2.pkg (x.2.decls.drop a.1) a.1 a.2)/\0<=a.2.ct/\a.2.ct<=100000*(i:Int)+(a.1:Int)) (λa=>x.2.decls.length -a.1) (0,e) ⟨n_4 _,hr,h0,do_⟩ tu_ (au:=[]) G D5 uz_ ?_;intro⟨j,e⟩ ⟨hj,hr,h0,hc⟩;dsimp only at hj hr h0 hc⊢;refine qk (qC ?_ ?_)<;> intro h4
    .have hjt:j<x.2.decls.length:=sm_ h4;obtain⟨d,eH⟩:∃d,x.2.decls[j]?=some d:=⟨x.2.decls[j]'hjt,Q⟩;rw[d0I eH]at hr;refine d7R ?_;refine qG c22 ?_;refine qG a29 ?_;refine b7h ?_;refine qC ?_ ?_<;>intro h5
     .rw [W h5]at hr;refine z_6 ?_;refine qC ?_ ?_<;>intro h6
      .rw [W h6]at hr;refine cF [] [0,1,2,3,4,5,6,7,8] (tl:=[(9,[2,3,4,5,6,7]),(10,[7]),(11,[7]),(12,[]),(13,[])]) ?_;refine chf G (c7 G (i7 G O G a8u G t_0 I)) ?_;refine chf G a88 ?_;refine chf G (c7 G b8w) ?_;refine chf G c8L ?_;refine chf G O0 ?_;refine chf G (c7 G c7R) ?_;refine chf G (c7 G b0F) ?_;refine chf G O0 ?_;refine chf G c7j ?_;refine F2 ?_;refine B1 G G G (i0 G O O G j1 t_0 (.inl G) G G (nb G) ?_);refine⟨⟨(by exact c7 G b8w),(by exact c7 G c12),C3,(by exact c7 G c7R),(by exact c7 G b0F),C3,O⟩,?_⟩;refine C7 G G c7j ⟨⟨C3,O⟩,?_⟩;refine B1 G G G (i0 G O O G j1 t_0 (.inl G) G G (nb G) ?_);refine⟨⟨C3,O⟩,?_⟩;refine C7 G G c7h ⟨O,?_⟩;refine B1 G G G (i0 G O O G j1 t_1 (.inl G) G G (nb G) ?_);refine a8h ?_;refine u o3 ?_;exact⟨(j+1,(⟨x.2.pkg,e.o,e.k,x.1,(j:Int),e.ct+1⟩:En)),_,⟨do_,do_,hr,do_,do_⟩,tu_,G⟩
      .rw [H (by rw[h6];exact b2z)]at hr;refine u o3 ?_;exact⟨(j+1,(⟨e.p,e.o,e.k,e.pl,e.ix,e.ct+1⟩:En)),_,⟨do_,do_,hr,do_,do_⟩,tu_,G⟩
     .rw [H (by rw[h5];exact b2z)]at hr;refine u o3 ?_;exact⟨(j+1,e),_,⟨do_,do_,hr,h0,do_⟩,tu_,G⟩
    .have aL:x.2.decls.length<=j:=sm_ h4;rw[a0V aL]at hr;exact d7c
  .have aL:L.length<=i:=sm_ h2;rw[a0V aL]at hr;replace hr:fiE L k p o=e:=hr;refine o6 ?_;refine z_8 ?_;exact⟨_,B7 G b78,_,_,G,G,(by rw[hr];exact .old (En.pure _).old)⟩
def c5t(x y:En):Bool:=if((x.k == 3) !=(y.k == 3))=true then y.k == 3 else if(x.k == 3)=true then Op.bytesLess x.o y.o else if(!decide (x.p=y.p))=true then Op.bytesLess x.p y.p else if(x.k != y.k)=true then decide (x.k <y.k)else Op.bytesLess x.o y.o
theorem a8Y(x y:En)(σ:List b9):b8 CC 78 [.agg x.cells,.agg y.cells] σ λr ae=>r= .ret (.val (.bool (c5t x y)))/\ae=σ:=by
 refine b8.anyw hCC pu_ pu_ (c9 (qO Tryz.func78 ?_)) σ;refine a9N ?_;refine u (b9l G Tryz.runUnderlying4 trivial trivial G G G) ?_;refine qC ?_ ?_<;>intro h1
 .refine c6 ?_;exact⟨_,rE1,_,_,G,G,j9 (by rw[c5t,W h1])⟩
 .refine qC ?_ ?_<;>intro h2
  .refine b8p ?_;exact⟨_,rE1,_,_,G,G,j9 (by rw[c5t,H c2i,W h2])⟩
  .refine u b0h ?_;refine qC ?_ ?_<;>intro h3
   .refine b8p ?_;exact⟨_,rE1,_,_,G,G,j9 (by rw[c5t,H c2i,H (by rw[h2];exact b2z),W h3])⟩
   .refine qC ?_ ?_<;>intro h4
    .refine c6 ?_;exact⟨_,rE1,_,_,G,G,j9 (by rw[c5t,H c2i,H (by rw[h2];exact b2z),H (by rw[h3];exact b2z),W h4])⟩
    .refine b8p ?_;exact⟨_,rE1,_,_,G,G,j9 (by rw[c5t,H c2i,H (by rw[h2];exact b2z),H (by rw[h3];exact b2z),H (by rw[h4];exact b2z)])⟩
def gV{α:Type}:List α->Nat->CV
 | [],_=>.list [] false none
 |x::l,q=>.vec q 0 (x::l).length
def gO{α:Type}(s:Nat)(f:α->List CV):List α->b9
 | []=>.dead
 |x::l=>.vec s ((x::l).map f)
theorem a2q{l:List α}(h:l≠[])(q:Nat):gV l q= .vec q 0 l.length:=by cases l;exact absurd G h;rfl
theorem c37{s:Nat}{f:α->List CV}{l:List α}(h:l≠[]):gO s f l= .vec s (l.map f):=by cases l;exact absurd G h;rfl
theorem a1J(l:List En):∀r∈l.map En.cells,∀c∈r,o8 c:=λr hr c hc=>(C2 (f:=En.cells) (λ_=>N8.all ⟨.val _,.val _,.val _,.val _,.val _,.val _,O⟩) _) r hr c hc
theorem P5(l:List En)(nn:Bool):o8 (.list (l.map En.cells) nn none):=I6 (f:=En.cells) (λ_=>⟨.val _,.val _,.val _,.val _,.val _,.val _,O⟩) l nn
theorem a6V(n:Nat)(l:List En):G1 n (.vec 6 (l.map En.cells)):=λr hr c hc=>(a1J l r hr c hc).old
theorem b42(n:Nat)(l:List En):G1 n (gO 6 En.cells l):=by
 cases l
 .trivial
 .exact a6V n _
theorem e0x(l:List En)(hq:n<=q)(h:σ[q]?=some (gO 6 En.cells l)):Cls n σ (gV l q) (.list (l.map En.cells) (gnn l.length) none):=by
 by_cases h0:l=[]
 .subst h0;exact .old (P5 [] _).old
 .rw [a2q h0,a8i h0];exact b0N hq (by rw[h,c37 h0]) (a1J l)
theorem e0A(l:List En)(k q:Nat):ShV k q (gV l k) (gV l q):=by
 cases l
 .exact .inl G
 .exact .inr (.inl ⟨_,_,G,G⟩)
theorem b36{L j:Nat}{am:List Nat}(l:List En)(h:am[j]?=some k):B5 L am (gV l k) (gV l j):=by
 cases l
 .exact .same G (P5 [] _).old
 .exact .vec h
theorem d7H(x y:En):∀w,(Op.equal 83 (.agg [.string (str x.p),.string (str x.o),.int .i64 x.k,.string (str x.pl),.int .i64 x.ix,.int .i64 x.ct].toArray) (.agg [.string (str y.p),.string (str y.o),.int .i64 y.k,.string (str y.pl),.int .i64 y.ix,.int .i64 y.ct].toArray)).run CC.P w= .ok (decide (x=y)) w:=λw=>by
 show(Op.equal _ _ _).run Tryz.prog w=_;simp[Op.equal,Op.maxDepth,go_sem,O4];obtain⟨a,b,c,d,e,f⟩:=x;obtain⟨a',b',c',d',e',f'⟩:=y;by_cases h1:a=a'<;>by_cases h2:b=b'<;>by_cases h3:c=c'<;>by_cases h4:d=d'<;>by_cases h5:e=e'<;>by_cases h6:f=f'<;>simp[h1,h2,h3,h4,h5,h6]
def EnP(L:List (D×Src))(e:En):Prop:=∃x∈L,∃d∈x.2.decls,e=fiE L d.k x.2.pkg d.name
theorem c7y:Cls n σ (.list [] false none) (.list (([]:List En).map En.cells) (gnn ([]:List En).length) none):=.old (P5 [] _).old
theorem b3U{l:List Fi}(df:o4 l=L)(nn:Bool)(h0:B4 l=0)(hl:l.length<=1000000)(hp:∀f∈l,f.p.length<=1000000000)(hbl:∀q b,r8 l q=some b->b.length<=1000000000)(hd:B4 l=0->∀f∈l,r8 l f.p=some f.b)(σ:List b9):b8 CC 42 [.agg (A0 l nn)] σ λr τ=>r= .ret (.agg (a1H (L.map Prod.fst) (L.map Prod.snd)))/\τ=σ:=by
 have h:=d5G l nn hl hp hbl hd σ;rw[b2X,b3V,W h0,W h0,df]at h;exact h
theorem d3J(l:List Fi)(nn:Bool)(hl:l.length<=1000000)(hp:∀f∈l,f.p.length<=1000000000)(hbl:∀q b,r8 l q=some b->b.length<=1000000000)(hd:B4 l=0->∀f∈l,r8 l f.p=some f.b)(hLD:B4 l=0->(o4 l).length<=1000/\∀x∈o4 l,x.2.decls.length<=100000):b8 CC 37 [.agg (A0 l nn)] [] λr τ=>∃aq:List En,X0 0 τ r (.ret (.list (aq.map En.cells) (gnn aq.length) none))/\(B4 l=0->(∀e∈aq,EnP (o4 l) e)/\aq.length<=100000000):=by
 refine qO Tryz.func37 ?_;refine qD (F4 G O j1 i9 ?_);refine u c8U ?_;refine qC ?_ ?_<;>intro h1
 .have h0:¬B4 l=0:=U h1;refine c6 ?_;exact⟨_,rE1,⟨[],.ret c7y,λh=>absurd h h0⟩⟩
 .have h0:B4 l=0:=U h1;obtain⟨hL,hD⟩:=hLD h0;have gC:((o4 l).map Prod.snd).length=(o4 l).length:=N0 _;generalize df:o4 l=L at hL hD gC;refine u (c5 G d2F ⟨O,O⟩ (b3U df nn h0 hl hp hbl hd _) G) ?_;refine qD (j6 G c6Y G i9 ?_);refine qD (i0 G O O G j1 b7b i9 G G (nb G) ?_);refine u (Z3 G O G b6b a7l G) ?_;refine B3 hCC 2 G (α:=List En×Nat) (λa=>[(3,gV a.1 2),(4,.ptr 1 0),(17,(.list ((L.map Prod.snd).map Src.cv) (gnn (L.map Prod.snd).length) none)),(18,(iv ((L.map Prod.snd).length:Int))),(19,iv a.2)]) (λa=>[.box (A0 l nn),.box (a1H (L.map Prod.fst) (L.map Prod.snd)),gO 6 En.cells a.1]) (λa=>a.2<=L.length/\(∀e∈a.1,EnP L e)/\a.1.length<=100000*a.2) (λa=>L.length -a.2) ⟨([],0),[0,1,2],⟨n_4 _,λe he=>by simp at he,n_6 _⟩,⟨G,G⟩,q_0,⟨.inr ⟨_,G,.box ⟨.old Q4,O⟩⟩,.inr ⟨_,G,.box ⟨.old H8,.old a3k,O⟩⟩,.inl G,O⟩⟩ ?_;intro⟨aq,i⟩ ⟨hi,hP,hn⟩;dsimp only at hi hP hn⊢;refine qk (qC ?_ ?_)<;> intro h2
  .have ai:i<L.length:=sm_ h2;obtain⟨x,hb⟩:∃x,L[i]?=some x:=⟨L[i]'ai,Q⟩;have hxm:=n_3 hb;have fZ:=hD x hxm;refine u c7B ?_;refine c0k ?_;refine u b11 ?_;refine c5e hCC 4 G 2 3 (gV aq 4) G O (e0A aq 2 4) (α:=List En×Nat) (λa=>[(3,gV a.1 4),(4,.ptr 1 0),(6,.ptr 3 0),(17,(.list ((L.map Prod.snd).map Src.cv) (gnn (L.map Prod.snd).length) none)),(18,(iv ((L.map Prod.snd).length:Int))),(19,iv i),(24,(.list (x.2.decls.map De.cv) (gnn x.2.decls.length) none)),(25,iv x.2.decls.length),(26,iv a.2)]) (λa=>[.box (A0 l nn),.box (a1H (L.map Prod.fst) (L.map Prod.snd)),.dead,.box x.2.cells,gO 6 En.cells a.1]) (λa=>a.2<=x.2.decls.length/\(∀e∈a.1,EnP L e)/\a.1.length<=100000*i+a.2) (λa=>x.2.decls.length -a.2) ⟨(aq,0),[0,1,2,3,4],⟨n_4 _,hP,hn⟩,⟨G,G⟩,⟨U0,U0,U0,U0,U0,U0,U0,U0,U0,O⟩,⟨.inr ⟨_,G,.box ⟨.old Q4,O⟩⟩,.inr ⟨_,G,.box ⟨.old H8,.old a3k,O⟩⟩,.inl G,.inr ⟨_,G,.box ⟨.old (.val _),.old H8,.old (M4 _ _ _),O⟩⟩,.inr ⟨_,G,.same G (b42 _ _)⟩,O⟩⟩ ?_;intro⟨aq,j⟩ ⟨hj,hP,hn⟩;dsimp only at hj hP hn⊢;refine qk (qC ?_ ?_)<;> intro h3
   .have hjt:j<x.2.decls.length:=sm_ h3;obtain⟨d,eH⟩:∃d,x.2.decls[j]?=some d:=⟨x.2.decls[j]'hjt,Q⟩;have ii:=n_3 eH;have hEP:EnP L (fiE L d.k x.2.pkg d.name):=⟨x,hxm,d,ii,G⟩;refine d7R ?_;refine u (c5 G c2d a4s (a9u L d.k x.2.pkg d.name J hD _) G) ?_;by_cases dC:aq=[]
    .subst dC;have hnil:([]:List En).length=0:=G;refine z_7 ?_;refine u0 hCC (α:=Nat) (λk=>[(3,(.list [] false none)),(4,.ptr 1 0),(6,.ptr 3 0),(9,.ptr 6 0),(10,iv k),(17,(.list ((L.map Prod.snd).map Src.cv) (gnn (L.map Prod.snd).length) none)),(18,(iv ((L.map Prod.snd).length:Int))),(19,iv i),(24,(.list (x.2.decls.map De.cv) (gnn x.2.decls.length) none)),(25,iv x.2.decls.length),(26,iv j)]) (λ_=>[.box (A0 l nn),.box (a1H (L.map Prod.fst) (L.map Prod.snd)),.dead,.box x.2.cells,.dead,.box d.cells,.box (fiE L d.k x.2.pkg d.name).cells]) (λk=>k<=([]:List En).length) (λk=>([]:List En).length -k) 0 (n_4 _) tu_ (au:=[]) G D5 uz_ ?_;intro k hk;have hk0:k=0:=U hk;subst hk0;refine qk ?_;refine a9t ?_;refine hY c4a ?_;refine a9k ?_;refine D4 G G O G q_9 ?_;refine d7E ?_;refine D4 G G O G (λhg=>c5 G Tryz.call78 ⟨hg,hg,O⟩ (a8Y (fiE L d.k x.2.pkg d.name) (fiE L d.k x.2.pkg d.name) _) G) ?_;refine a57 ?_;refine cC ?_ ?_<;>intro h4
     .exfalso;simp at h4
     .refine o6 ?_;refine a9t ?_;refine hY c4a ?_;refine a9k ?_;refine D4 G G O G q_9 ?_;refine d7E ?_;refine D4 G G O G (λhg=>a5W G hg hg (xs:=[.string (str (fiE L d.k x.2.pkg d.name).p),.string (str (fiE L d.k x.2.pkg d.name).o),.int .i64 (fiE L d.k x.2.pkg d.name).k,.string (str (fiE L d.k x.2.pkg d.name).pl),.int .i64 (fiE L d.k x.2.pkg d.name).ix,.int .i64 (fiE L d.k x.2.pkg d.name).ct]) (ys:=[.string (str (fiE L d.k x.2.pkg d.name).p),.string (str (fiE L d.k x.2.pkg d.name).o),.int .i64 (fiE L d.k x.2.pkg d.name).k,.string (str (fiE L d.k x.2.pkg d.name).pl),.int .i64 (fiE L d.k x.2.pkg d.name).ix,.int .i64 (fiE L d.k x.2.pkg d.name).ct]) G G Tryz.eqGuardType83 (d7H (fiE L d.k x.2.pkg d.name) (fiE L d.k x.2.pkg d.name))) ?_;refine a57 ?_;refine cC ?_ ?_<;>intro h5
      .exfalso;simp at h5
      .have fq:[(fiE L d.k x.2.pkg d.name)]≠[]:=by simp
       have hNn:[(fiE L d.k x.2.pkg d.name)].length=1:=G;have hN:∀e∈[(fiE L d.k x.2.pkg d.name)],EnP L e:=λe he=>by rw[a0r.1 he];exact hEP
       have hNl:[(fiE L d.k x.2.pkg d.name)].length<=100000*i+(j+1):=by rw[hNn];omega
       refine qk (u e1q ?_);refine qD (b0a 1 G O O G q_3 a1C t_6 c28 a0z G Q (by have hb:Tryz.t83.bytes=72:=G;rw[hb];first|omega|(simp;done)|(simp;omega)) E9 Q ?_);refine cW 7 ?_;refine a4x ?_;refine hY o3 ?_;refine hY (H6 (l:=(0+1)) G O G a1C t_6 G a1l G a1w Q) ?_;refine a4x ?_;refine hY (H6 (l:=0) G O G a1C t_6 G a1l G a1w Q) ?_;refine a3D ?_;refine qD (a5l G O O G G a1C t_6 G J Q Q ?_);refine u (Z0 G O O G G a1C t_6 G J J) ?_;refine qD (U6 [En.cells (fiE L d.k x.2.pkg d.name)] G O O G j1 t_6 i9 G (r:=En.cells (fiE L d.k x.2.pkg d.name)) G G (nb G) (by rfl) G ?_);refine u o3 ?_;exact⟨([(fiE L d.k x.2.pkg d.name)],j+1),[0,1,2,3,7],⟨do_,do_,hN,hNl⟩,⟨G,G⟩,⟨U0,U0,U0,U0,U0,U0,U0,U0,U0,O⟩,⟨.inr ⟨_,G,.box ⟨.old Q4,O⟩⟩,.inr ⟨_,G,.box ⟨.old H8,.old a3k,O⟩⟩,.inl G,.inr ⟨_,G,.box ⟨.old (.val _),.old H8,.old (M4 _ _ _),O⟩⟩,.inr ⟨_,G,.same G (a6V _ [(fiE L d.k x.2.pkg d.name)])⟩,O⟩⟩
    .rw [a2q dC,c37 dC];refine z_7 ?_;refine u0 hCC (α:=Nat) (λk=>[(3,(.vec 4 0 aq.length)),(4,.ptr 1 0),(6,.ptr 3 0),(9,.ptr 6 0),(10,iv k),(17,(.list ((L.map Prod.snd).map Src.cv) (gnn (L.map Prod.snd).length) none)),(18,(iv ((L.map Prod.snd).length:Int))),(19,iv i),(24,(.list (x.2.decls.map De.cv) (gnn x.2.decls.length) none)),(25,iv x.2.decls.length),(26,iv j)]) (λ_=>[.box (A0 l nn),.box (a1H (L.map Prod.fst) (L.map Prod.snd)),.dead,.box x.2.cells,(.vec 6 (aq.map En.cells)),.box d.cells,.box (fiE L d.k x.2.pkg d.name).cells]) (λk=>k<=aq.length) (λk=>aq.length -k) 0 (n_4 _) tu_ (au:=[]) G D5 uz_ ?_;intro k hk;obtain⟨y,hy⟩:∃y,k<aq.length->aq[k]?=some y:=⟨aq.getD k En.z,λh=>by simp[h]⟩;refine qk ?_;refine a9t ?_;refine hY (a0R G O G a1C G G) ?_;refine a9k ?_;refine D4 G G O G e1z ?_;refine D4 G G O G e23 ?_;refine D4 G G O G d1h ?_;refine D4 G G O G (λhg=>c5 G Tryz.call78 ⟨hg,hg,O⟩ (a8Y y (fiE L d.k x.2.pkg d.name) _) G) ?_;refine a57 ?_;refine qC ?_ ?_<;>intro h4
     .have hlt4:k<aq.length:=sm_ h4;refine u o3 ?_;exact⟨(k+1),_,⟨J,J⟩,tu_,G⟩
     .refine o6 ?_;refine a9t ?_;refine hY (a0R G O G a1C G G) ?_;refine a9k ?_;refine D4 G G O G e1z ?_;refine D4 G G O G e23 ?_;refine D4 G G O G d1h ?_;refine D4 G G O G (λhg=>a5W G hg hg (xs:=[.string (str y.p),.string (str y.o),.int .i64 y.k,.string (str y.pl),.int .i64 y.ix,.int .i64 y.ct]) (ys:=[.string (str (fiE L d.k x.2.pkg d.name).p),.string (str (fiE L d.k x.2.pkg d.name).o),.int .i64 (fiE L d.k x.2.pkg d.name).k,.string (str (fiE L d.k x.2.pkg d.name).pl),.int .i64 (fiE L d.k x.2.pkg d.name).ix,.int .i64 (fiE L d.k x.2.pkg d.name).ct]) G G Tryz.eqGuardType83 (d7H y (fiE L d.k x.2.pkg d.name))) ?_;refine a57 ?_;refine qC ?_ ?_<;>intro h5
      .have aB:aq≠[]:=dC;refine b3H ?_;exact⟨(aq,j+1),[0,1,2,3,4],⟨do_,do_,hP,do_⟩,⟨G,G⟩,⟨U0,U0,U0,U0,U0,U0,U0,U0,U0,O⟩,⟨.inr ⟨_,G,.box ⟨.old Q4,O⟩⟩,.inr ⟨_,G,.box ⟨.old H8,.old a3k,O⟩⟩,.inl G,.inr ⟨_,G,.box ⟨.old (.val _),.old H8,.old (M4 _ _ _),O⟩⟩,.inr ⟨_,G,.same (c37 dC).symm (b42 _ _)⟩,O⟩⟩
      .have hNn:(aq.take k++(fiE L d.k x.2.pkg d.name)::aq.drop k).length=aq.length+1:=by simp;omega
       have fq:(aq.take k++(fiE L d.k x.2.pkg d.name)::aq.drop k)≠[]:=by simp
       have hN:∀e∈(aq.take k++(fiE L d.k x.2.pkg d.name)::aq.drop k),EnP L e:=by
        intro e he
        rcases Q9.1 he with he|he
        .exact hP e (a6B he)
        .rcases I0.1 he with rfl|he
         .exact hEP
         .exact hP e (a8G he)
       have hNl:(aq.take k++(fiE L d.k x.2.pkg d.name)::aq.drop k).length<=100000*i+(j+1):=by rw[hNn];omega
       obtain⟨z,hz⟩:∃z,(aq++[(fiE L d.k x.2.pkg d.name)])[k]?=some z:=⟨(aq++[(fiE L d.k x.2.pkg d.name)])[k]'G5,Q⟩;have hrx:(G9 ((aq++[(fiE L d.k x.2.pkg d.name)]).map En.cells) (0+(k+1)) ((((aq++[(fiE L d.k x.2.pkg d.name)]).map En.cells).drop (0+k)).take (aq.length+1- (k+1))))[0+(k:Int).toNat]?=some (En.cells z):=by
        rw[show 0+(k:Int).toNat=k by omega,P4,P4,show aq.length+1- (k+1)=aq.length -k by omega,a8o,a8C,List.map_nil,b3J (U hk)];have:((aq++[(fiE L d.k x.2.pkg d.name)]).map En.cells)[k]?=some (En.cells z):=by rw[N6,hz];rfl
        simpa using this
       have aG:(G9 ((aq++[(fiE L d.k x.2.pkg d.name)]).map En.cells) (0+(k+1)) ((((aq++[(fiE L d.k x.2.pkg d.name)]).map En.cells).drop (0+k)).take (aq.length+1- (k+1)))).set (0+(k:Int).toNat) (En.cells (fiE L d.k x.2.pkg d.name))=(aq.take k++(fiE L d.k x.2.pkg d.name)::aq.drop k).map En.cells:=by
        rw[show 0+(k:Int).toNat=k by omega,P4,P4,show aq.length+1- (k+1)=aq.length -k by omega];have:=b1t (l:=aq.map En.cells) (z:=En.cells (fiE L d.k x.2.pkg d.name)) (y:=En.cells (fiE L d.k x.2.pkg d.name)) (i:=k) (U hk);simpa using this
       refine u e1q ?_;refine qD (a9e ((aq++[(fiE L d.k x.2.pkg d.name)]).map En.cells) (aq.length+1) G O O G q_3 a1C t_6 c28 a0z G G Q Q (by have hb:Tryz.t83.bytes=72:=G;rw[hb];first|omega|(simp;done)|(simp;omega)) E9 Q Q ?_);refine cW 7 ?_;refine a4x ?_;refine hY o3 ?_;refine hY (H6 (l:=(k+1)) G O G a1C t_6 G a1l G a1w Q) ?_;refine a4x ?_;refine hY (H6 (l:=k) G O G a1C t_6 G a1l G a1w Q) ?_;refine a3D ?_;refine qD (a5l G O O G G a1C t_6 G J G5 G5 ?_);refine u (Z0 G O O G G a1C t_6 G J J) ?_;refine qD (U6 ((aq.take k++(fiE L d.k x.2.pkg d.name)::aq.drop k).map En.cells) G O O G j1 t_6 i9 G hrx G (nb G) (by exact aG) G ?_);refine u o3 ?_;exact⟨((aq.take k++(fiE L d.k x.2.pkg d.name)::aq.drop k),j+1),[0,1,2,3,7],⟨do_,do_,hN,hNl⟩,⟨G,G⟩,⟨U0,U0,U0,U0,U0,U0,U0,U0,U0,O⟩,⟨.inr ⟨_,G,.box ⟨.old Q4,O⟩⟩,.inr ⟨_,G,.box ⟨.old H8,.old a3k,O⟩⟩,.inl G,.inr ⟨_,G,.box ⟨.old (.val _),.old H8,.old (M4 _ _ _),O⟩⟩,.inr ⟨_,G,.same (c37 fq).symm (b42 _ _)⟩,O⟩⟩
   .refine b3H ?_;exact⟨(aq,i+1),[0,1,4],⟨do_,do_,hP,do_⟩,⟨G,G⟩,q_0,⟨.inr ⟨_,G,.box ⟨.old Q4,O⟩⟩,.inr ⟨_,G,.box ⟨.old H8,.old a3k,O⟩⟩,.inr ⟨_,G,.same G (b42 _ _)⟩,O⟩⟩
  .refine V5 ?_;exact⟨_,I8 G O G,⟨aq,.ret (e0x (q:=2) aq (n_4 _) G),λ_=>⟨hP,J⟩⟩⟩
theorem b86(l:List Fi)(nn:Bool)(hl:l.length<=1000000)(hp:∀f∈l,f.p.length<=1000000000)(hbl:∀q b,r8 l q=some b->b.length<=1000000000)(hd:B4 l=0->∀f∈l,r8 l f.p=some f.b)(hLD:B4 l=0->(o4 l).length<=1000/\∀x∈o4 l,x.2.decls.length<=100000)(σ:List b9):b8 CC 37 [.agg (A0 l nn)] σ λr τ=>∃aq:List En,r= .ret (.list (aq.map En.cells) (gnn aq.length) none)/\τ=σ/\(B4 l=0->(∀e∈aq,EnP (o4 l) e)/\aq.length<=100000000):=
 F8 (α:=List En) (res:=λaq=>.ret (.list (aq.map En.cells) (gnn aq.length) none)) hCC (λc h=>by simp at h;subst h;exact j5 ⟨F5 _ _,O⟩) (d3J l nn hl hp hbl hd hLD) (λ_ _=>P5 _ _) σ
def En.kc(x:En):CV:=.agg x.cells
def En.kv(x:En):Value:=.agg #[.string (str x.p),.string (str x.o),.int .i64 x.k,.string (str x.pl),.int .i64 x.ix,.int .i64 x.ct]
theorem e0H(x y:En):∀w,(Op.equal 83 x.kv y.kv).run CC.P w= .ok (decide (x=y)) w:=by
 intro w;show(Op.equal _ _ _).run Tryz.prog w=_;simp[Op.equal,Op.maxDepth,go_sem,En.kv,O4];obtain⟨a,b,c,d,e,f⟩:=x;obtain⟨a',b',c',d',e',f'⟩:=y;by_cases h1:a=a'<;>by_cases h2:b=b'<;>by_cases h3:c=c'<;>by_cases h4:d=d'<;>by_cases h5:e=e'<;>by_cases h6:f=f'<;>simp[h1,h2,h3,h4,h5,h6]
theorem c8H:c2F (α:=En) CC.P 83 En.kc En.kv where
 rv _ _ _ _ h:=a09 (l:=[.string (str _),.string (str _),.int .i64 _,.string (str _),.int .i64 _,.int .i64 _]) h
 rv' _ _ a:=by
  refine .agg G (λc hc=>?_) λi c hc=>?_
  .simp at hc
   rcases hc with rfl|rfl|rfl|rfl|rfl|rfl<;>rfl
  .rcases i with _|_|_|_|_|_|i
   all_goals first|(injection hc with hc;subst hc;exact .val _)|cases hc
 check b a w:=by
  have:∀n,(Instr.checkKey b (n+2) 83 a.kv).run Tryz.prog w= .ok () w:=λn=>by simp[Instr.checkKey,En.kv,go_sem]
  exact this 9998
 eq a b w:=e0H a b w
 now:=⟨_,b0K,λa b=>G⟩
 bits a:=by
  have:∀n,Instr.sameBits (n+2) a.kv a.kv=true:=λn=>by simp[Instr.sameBits,En.kv,a9U]
  exact this 9998
theorem d7r:R2 (α:=En) CC.P 83 En.kc En.kv:=c8H.find
def vbB(b:Bool):CV:=.val (.bool b)
structure CS where
 K:List Ky
 V:List En
 i:Nat
 j:Nat
 rn:Bool
variable{S:CS}
abbrev seL(V:List En):List (En×Bool):=V.map λx=>(x,true)
abbrev seO(V:List En):b9:=.map (gm En.kc vbB (seL V))
abbrev wkC(S:CS)(wk:Nat):CV:=.vec wk (S.i -S.j) (S.V.length -S.i)
abbrev cbv(S:CS)(w m tk:Nat)(wv:CV):b9:=.box [.ptr w 0,.list (S.K.map Ky.cv) (gnn S.K.length) (D6 S.K.length tk),.map m,wv,.val (.bool S.rn)]
abbrev cbx(S:CS)(w m tk wk:Nat):b9:=cbv S w m tk (wkC S wk)
abbrev wkO(S:CS):b9:=.vec 6 ((S.V.drop S.j).map En.cells)
def a2L(V:List En)(x:En):List En:=if x∈V then V else V++[x]
def R6(V:List En)(l:List En):List En:=l.foldl a2L V
theorem d3X{V:List En}:(glk (seL V) x).getD false=decide (x∈V):=by
 induction V with
 |nil=>simp[glk]
 |cons y V ih=>
  show(if x=y then some true else glk (seL V) x).getD false=_;by_cases h:x=y
  .simp [h]
  .rw [H h,ih];simp[h]
theorem d4J{V:List En}(h:x∉V):G6 (seL V) x true=seL (V++[x]):=by
 induction V with
 |nil=>rfl
 |cons y V ih=>
  have h1:¬x=y:=λe=>h (e▸b2h);show(if x=y then(y,true)::seL V else(y,true)::G6 (seL V) x true)=_;rw[H h1,ih λe=>h (a4a _ e)];rfl
theorem e1y(l:List (En×Bool))(a:En):((glk l a).map vbB).getD (G2 (.bool false))= .val (.bool ((glk l a).getD false)):=by cases glk l a<;>rfl
theorem c78{V:List En}{y:En}:y∈a2L V x↔y∈V\/y=x:=by
 unfold a2L
 split
 .rename_i h;exact⟨.inl,λe=>e.elim id λe=>e▸h⟩
 .rw [Q9,a0r]
theorem a1Q:∀{l V:List En} {y:En},y∈R6 V l↔y∈V\/y∈l
 | [],_,_=>by simp[R6]
 |x::l,V,y=>by
  show y∈R6 (a2L V x) l↔_;rw[a1Q,c78,I0];exact or_assoc
theorem c91(V:List En)(x:En):V <+:a2L V x:=by
 unfold a2L
 split
 .exact List.prefix_refl _
 .exact List.prefix_append _ _
theorem b22:∀(l V:List En),V <+:R6 V l
 | [],_=>List.prefix_refl _
 |x::l,V=>(c91 V x).trans (b22 l _)
theorem d4i{V:List En}(h:V.Nodup):(a2L V x).Nodup:=by
 unfold a2L
 split
 .exact h
 .rename_i hx;exact List.nodup_append.2 ⟨h,Q,λa ha b hb=>by rw[a0r.1 hb];exact λe=>hx (e▸ha)⟩
theorem b6q:∀{l V:List En},V.Nodup->(R6 V l).Nodup
 | [],_,h=>h
 |_::l,_,h=>b6q (l:=l) (d4i h)
theorem b39(V l m:List En):R6 V (l++m)=R6 (R6 V l) m:=b3v
def ckF(c:MC)(f:Src)(s:D):List Ky:=L5 s (f.pkg::f.imports) (a0B true c.me s (f.pkg::f.imports))
def ctF(c:MC)(f:Src)(s:D):En:=S5 true c.me s (f.pkg::f.imports)
def caF(c:MC)(f:Src)(s:D):List En:=if K0 (ctF c f s)=0 then [H2 (ctF c f s)]else []
def daF(c:MC)(s:D):List En:=if diC c.fl true c.me s=0/\(diE c.fl true c.me s).ct=1 then [diE c.fl true c.me s]else []
def a1u(c:MC)(f:Src)(d:De):List Ky:=(nmS d [3]).flatMap (ckF c f)++(nmS d [6,7,8]).flatMap (H9 c.fl)++(nmS d [9]).map λs=>⟨5,s,[]⟩
def a1p(c:MC)(f:Src)(d:De):List En:=(nmS d [3]).flatMap (caF c f)++(nmS d [6,7,8]).flatMap (daF c)
def a16(d:De):Bool:=d.body.any λe=>e.k == 10
theorem c9V{l:List Ky}:ShV k q (.list (l.map Ky.cv) (gnn l.length) (D6 l.length k)) (.list (l.map Ky.cv) (gnn l.length) (D6 l.length q)):=by
 cases l with
 |nil=>exact .inl G
 |cons x l=>exact .inr (.inr ⟨_,_,G,G⟩)
theorem a9Z{ae:List b9}{tk:Nat}(hk:σ[tk]?=some (l8 S.K.length))(iK:q≠tk)(hq:σ[q]?=some (cbv S w m tk wv))(he:(σ.set tk .dead++[l8 S.K.length]).set q (cbv S w m σ.length wv)=ae):Mv CC σ ae:=
 Mv.box tk q [.ptr w 0,.list (S.K.map Ky.cv) (gnn S.K.length) (D6 S.K.length σ.length),.map m,wv,.val (.bool S.rn)] hk iK hq G (λi c c' h1 h2=>by
  rcases i with _|_|_|_|_|i
  .exact .inl a9q
  .injection h1 with h1;injection h2 with h2;subst h1 h2;exact c9V
  .exact .inl a9q
  .exact .inl a9q
  .exact .inl a9q
  .cases h1) he
theorem a93{ae:List b9}{tk:Nat}(hk:σ[wk]?=some (wkO S))(iK:q≠wk)(hq:σ[q]?=some (cbx S w m tk wk))(he:(σ.set wk .dead++[wkO S]).set q (cbx S w m tk σ.length)=ae):Mv CC σ ae:=
 Mv.box wk q [.ptr w 0,.list (S.K.map Ky.cv) (gnn S.K.length) (D6 S.K.length tk),.map m,wkC S σ.length,.val (.bool S.rn)] hk iK hq G (λi c c' h1 h2=>by
  rcases i with _|_|_|_|_|i
  .exact .inl a9q
  .exact .inl a9q
  .exact .inl a9q
  .injection h1 with h1;injection h2 with h2;subst h1 h2;exact .inr (.inl ⟨_,_,G,G⟩)
  .exact .inl a9q
  .cases h1) he
theorem a0t(n:Nat)(V:List En):G1 n (seO V):=c0B En.pure (λ_=>.val _) n _
theorem a0o(n:Nat)(S:CS):G1 n (wkO S):=λr hr c hc=>(a1J _ r hr c hc).old
structure VI(S:CS)(l:List D)(fk:D->List Ky)(fa:D->List En)(n:Nat)(T:CS):Prop where
 le:n<=l.length
 K:T.K=S.K++(l.take n).flatMap fk
 V:T.V=R6 S.V ((l.take n).flatMap fa)
 i:T.i=S.i
 j:T.j<=S.i
 ip:T.i<=T.V.length
 rn:T.rn=S.rn
 kl:T.K.length<=S.K.length+9*n
 vl:T.V.length<=S.V.length+n
variable{i j:Nat}{V:List En}
theorem VI.zero(hj:S.j<=S.i)(hi:S.i<=S.V.length):VI S l fk fa 0 S:=⟨n_4 _,Q,by simp[R6],G,hj,hi,G,J,J⟩
theorem b82(V:List En)(x:En):V.length<=(a2L V x).length/\(a2L V x).length<=V.length+1:=by
 unfold a2L;split<;>simp
theorem a5e{β:Type}{l:List α}{y:α}(h:l[n]?=some y)(f:α->List β):(l.take (n+1)).flatMap f=(l.take n).flatMap f++f y:=by
 rw[a3a,h,List.flatMap_append];simp
theorem VI.add{T:CS}(h:VI S l fk fa n T){y:D}(hb:l[n]?=some y)(hk:(fk y).length<=9)(ha:fa y=[x])(hj:j<=T.i):VI S l fk fa (n+1) {T with K:=T.K++fk y,V:=a2L T.V x,j:=j} where
 le:=(n_2.1 hb).1
 K:=by rw[a5e hb,<- T5,<- h.K]
 V:=by rw[a5e hb,b39,<- h.V,ha];rfl
 i:=h.i
 j:=by rw[<- h.i];exact hj
 ip:=a1F h.ip (b82 _ _).1
 rn:=h.rn
 kl:=by have:=h.kl;simp only[n_9];omega
 vl:=by have:=h.vl;have:=(b82 T.V x).2;dsimp only;omega
theorem VI.skip{T:CS}(h:VI S l fk fa n T){y:D}(hb:l[n]?=some y)(hk:(fk y).length<=9)(ha:fa y=[]):VI S l fk fa (n+1) {T with K:=T.K++fk y} where
 le:=(n_2.1 hb).1
 K:=by rw[a5e hb,<- T5,<- h.K]
 V:=by rw[a5e hb,ha,a0h];exact h.V
 i:=h.i
 j:=h.j
 ip:=h.ip
 rn:=h.rn
 kl:=by have:=h.kl;simp only[n_9];omega
 vl:=by have:=h.vl;dsimp only;omega
theorem c38(c:MC)(f:Src)(s:D)(h:f.imports.length<=8):(ckF c f s).length<=9:=by
 unfold ckF L5;rw[N0,b1U,J5];omega
theorem c4P(fl:List Fi)(s:D):(H9 fl s).length<=9:=by unfold H9;split<;>simp
theorem VI.done{c:MC}{f:Src}{T1 T2 T3:CS}(h1:VI S (nmS d [3]) (ckF c f) (caF c f) (nmS d [3]).length T1)(h2:VI T1 (nmS d [6,7,8]) (H9 c.fl) (daF c) (nmS d [6,7,8]).length T2)
 (h3:VI T2 (nmS d [9]) (λs=>[⟨5,s,[]⟩]) (λ_=>[]) (nmS d [9]).length T3):T3=⟨S.K++a1u c f d,R6 S.V (a1p c f d),S.i,T3.j,S.rn⟩:=by
 have e1:=h1.K;have e2:=h2.K;have e3:=h3.K;have v1:=h1.V;have v2:=h2.V;have v3:=h3.V;rw[a6O]at e1 e2 e3 v1 v2 v3;have eK:T3.K=S.K++a1u c f d:=by
  rw[e3,e2,e1];unfold a1u;simp only[T5]
  congr 3
  induction nmS d [9]with
  |nil=>rfl
  |cons x l ih=>rw[b87,ih];rfl
 have eV:T3.V=R6 S.V (a1p c f d):=by
  rw[v3,v2,v1,a1p,b39];have:(nmS d [9]).flatMap (λ_:D=>([]:List En))=[]:=by simp
  rw[this];rfl
 rcases T3 with⟨K,V,i,j,rn⟩
 have eI:=h3.i.trans (h2.i.trans h1.i);have eR:=h3.rn.trans (h2.rn.trans h1.rn);simp only at eK eV eI eR;subst eK eV eI eR;rfl
def gi(g:Bool):Int:=if g=true then 1 else 0
abbrev d8H(g:Bool)(p o:D)(k:Int):List CV:=[.val (.bool g),sv p,sv o,iv k]
theorem e0g(g:Bool)(p o:D)(k:Int)(g2:Bool)(p2 o2:D)(k2:Int):∀w,(Op.equal 199 (.agg [.bool g,.string (str p),.string (str o),.int .i64 k].toArray) (.agg [.bool g2,.string (str p2),.string (str o2),.int .i64 k2].toArray)).run CC.P w= .ok (decide (g=g2/\p=p2/\o=o2/\k=k2)) w:=by
 intro w;show(Op.equal _ _ _).run Tryz.prog w=_;simp[Op.equal,Op.maxDepth,go_sem,O4];by_cases h1:g=g2<;>by_cases h2:p=p2<;>by_cases h3:o=o2<;>by_cases h4:k=k2<;>simp[h1,h2,h3,h4]
theorem or3(a b c:Int):(([a,b,c]:List Int).find? λx=>decide (x≠0)).getD 0=if a≠0 then a else if b≠0 then b else c:=by
 by_cases h1:a=0<;>by_cases h2:b=0<;>by_cases h3:c=0<;>simp[List.find?,h1,h2,h3]
theorem a7r(x:En)(σ:List b9):b8 CC 148 [.agg x.cells] σ λr ae=>r= .ret (.agg (d8H (x.k == 3) (if x.k=3 then []else x.p) x.o x.k))/\ae=σ:=by
 refine b8.anyw hCC pu_ pu_ (c9 (qO Tryz.func148 ?_)) σ;refine qD (F4 G O j1 i9 ?_);refine qD (j6 G d1n G i9 ?_);refine u (z8 #[(0,1),(1,1),(2,1),(3,1)] G a4s d1C d1n G ⟨_,G⟩ (λw=>by kernel_rfl) G G) ?_;refine qD (j6 G d1n G i9 ?_);refine qD (i0 G O O G j1 c3N i9 G G (nb G) ?_);refine qC ?_ ?_<;>intro h1
 .have hk:x.k=3:=U h1;refine qD (i0 G O G G j1 t_0 (.inl G) G G (nb G) ?_);refine d6s ?_;exact⟨_,B7 G ⟨O,_,_,_,G,G,.inr ⟨_,Tryz.isAgg199,c3N,nb G,G⟩⟩,_,_,G,G,(O2 (by rw[W hk];rfl) (j5 ⟨.val _,.val _,.val _,.val _,O⟩))⟩
 .have hk:¬x.k=3:=U h1;refine d6s ?_;exact⟨_,B7 G ⟨O,_,_,_,G,G,.inr ⟨_,Tryz.isAgg199,c3N,nb G,G⟩⟩,_,_,G,G,(O2 (by rw[H hk];rfl) (j5 ⟨.val _,.val _,.val _,.val _,O⟩))⟩
theorem b4l(g:Bool)(p o:D)(k:Int)(g2:Bool)(p2 o2:D)(k2:Int)(σ:List b9):b8 CC 147 [.agg (d8H g p o k),.agg (d8H g2 p2 o2 k2)] σ λr ae=>r= .ret (iv (a5I (gi g,p,k,o) (gi g2,p2,k2,o2)))/\ae=σ:=by
 refine b8.anyw hCC pu_ pu_ (c9 (qO Tryz.func147 ?_)) σ;refine a9N ?_;refine u (a5W G O O (xs:=[.bool g,.string (str p),.string (str o),.int .i64 k]) (ys:=[.bool g2,.string (str p2),.string (str o2),.int .i64 k2]) G G Tryz.eqGuardType199 (e0g g p o k g2 p2 o2 k2)) ?_;refine qC ?_ ?_<;>intro h1
 .have he:g=g2/\p=p2/\o=o2/\k=k2:=U h1;refine c6 ?_;exact⟨_,rE1,_,_,G,G,B8 (by obtain⟨rfl,rfl,rfl,rfl⟩:=he;exact((b98.eq _ _).2 G).symm)⟩
 .refine u (b9l G Tryz.runUnderlying4 trivial trivial G G G) ?_;refine qC ?_ ?_<;>intro h2
  .have hg:g≠g2:=U h2;refine qC ?_ ?_<;>intro h3
   .have cU:g2=true:=U h3;have dz:g=false:=by cases g;rfl;exact absurd cU.symm hg
    refine c6 ?_;exact⟨_,rE1,_,_,G,G,B8 (by rw[dz,cU];rfl)⟩
   .have cU:g2=false:=U h3;have dz:g=true:=by cases g;exact absurd cU.symm hg;rfl
    refine c6 ?_;exact⟨_,rE1,_,_,G,G,B8 (by rw[dz,cU];rfl)⟩
  .have hg:g=g2:=U h2;refine cW 18 ?_;refine hY c1U ?_;refine hY W7 ?_;refine hY c1U ?_;refine hY W7 ?_;refine hY (c5 G c35 j2 (T7 p p2 _) G) ?_;refine d6K ?_;refine d6K ?_;refine hY (c5 G Tryz.call170 j2 (a5Z k k2 _) G) ?_;refine hY c1U ?_;refine hY W7 ?_;refine hY c1U ?_;refine hY W7 ?_;refine hY (c5 G c35 j2 (T7 o o2 _) G) ?_;refine hY (A6 (([Go.Lib.compareBytes p p2,X5 k k2,Go.Lib.compareBytes o o2]:List Int).map icv) G D0 t_7 t_1 t_9 G G G G G G G G G) ?_;refine hY (c5 G Tryz.call169 ⟨O,O⟩ (b8h [Go.Lib.compareBytes p p2,X5 k k2,Go.Lib.compareBytes o o2] Q _) G) ?_;refine b6j ?_;refine c6 ?_;exact⟨_,rE1,_,_,G,G,B8 (by
    rw[or3,hg];have z:X5 (gi g2) (gi g2)=0:=(d4h.eq _ _).2 G;simp only[a5I,lxC,z,ne_eq,not_true,if_false])⟩
theorem d5r(x y:En):b8 CC 146 [.agg x.cells,.agg y.cells] [] λr ae=>r= .ret (iv (a5I (plE x) (plE y)))/\ae=[]:=by
 refine c9 (qO Tryz.func146 ?_);refine a9N ?_;refine cW 6 ?_;refine hY a3h ?_;refine hY (c5 G Tryz.call148 ⟨O,O⟩ (a7r x _) G) ?_;refine hY a3h ?_;refine hY (c5 G Tryz.call148 ⟨O,O⟩ (a7r y _) G) ?_;refine hY (c5 G Tryz.call147 j2 (b4l (x.k == 3) (if x.k=3 then []else x.p) x.o x.k (y.k == 3) (if y.k=3 then []else y.p) y.o y.k _) G) ?_;refine b6j ?_;refine c6 ?_;exact⟨_,rE1,_,_,G,G,B8 (by unfold plE gi;simp only[beq_iff_eq])⟩
theorem d0M(fl:List Fi)(nn va:Bool)(br:List D)(ms:SM)(me:EM)(bO:me.length<=1000000):b8 CC 144 [.ptr 1 0] [.box (A0 fl nn),wbx fl nn va br 2 3 4,smO ms,emO me,l8 br.length] λr τ=>∃l:List En,C9 5 τ r (.ret (vcO (l.map En.cells) 5)) [.box (A0 fl nn),wbx fl nn va br 2 3 4,smO ms,.dead,l8 br.length,obO 6 (l.map En.cells)]/\l.Perm (me.map Prod.snd):=by
 refine qO Tryz.func144 ?_;refine qD (b47 G O G d1q G ?_);refine B3 hCC 6 G (α:=List (Nm×En)×List (Nm×En)×List En) (λx=>[(3,(vcO (x.2.2.map En.cells) 6)),(10,.ptr 5 0)]) (λx=>[.box (A0 fl nn),wbx fl nn va br 2 3 4,smO ms,.dead,l8 br.length,.iter (gm Nm.kc vcE x.1) (gm Nm.kc vcE x.2.1),obO 6 (x.2.2.map En.cells)]) (λx=>(x.2.2++x.2.1.map Prod.snd).Perm (me.map Prod.snd)) (λx=>x.2.1.length) ⟨([],me,[]),[0,1,2,3,4,5,9],(List.Perm.refl _),⟨G,G⟩,e2h,uq_⟩ ?_;intro⟨aF,left,aq⟩ hp;dsimp only at hp⊢;have bo:=hp.length_eq;rw[n_9,N0,N0]at bo;refine qk (qD (b9X G O G G (λhz=>?_) (λi x hx=>?_)))
 .
  have eJ:left=[]:=by
   cases left with
   |nil=>rfl
   |cons y l=>cases hz
  subst eJ;refine qC ?_ ?_<;>intro h1
  .cases h1
  .rw [List.map_nil,a0h]at hp;refine V5 ?_;exact⟨_,I8 G O G,⟨aq,⟨[0,1,2,3,4,6],G,G,.ret (a1g _ G),.inr ⟨_,G,.same G a0H⟩,.inr ⟨_,G,.same G a2D⟩,.inr ⟨_,G,.same G W5⟩,.inl G,.inr ⟨_,G,.same G B0⟩,.inr ⟨_,G,.same G (b4C (a1J _))⟩,O⟩,hp⟩⟩
 .
  obtain⟨⟨q,e⟩,hy,rfl⟩:=b9M hx;rw[b0Z];have ai:=(n_2.1 hy).1;refine qC ?_ ?_<;>intro h2
  .refine u (b5g G O G G) ?_;refine z_7 ?_;refine u (A6 [En.cells e] G ⟨O,O⟩ a1C t_6 a0z G G G G G G G G G) ?_;refine qD (d0f ((aq++[e]).map En.cells) G O O G q_3 a1C t_6 c28 a0z G G Q (by have hb:Tryz.t83.bytes=72:=G;rw[hb];simp;omega) G5 b6z ?_);exact⟨([(q,e)],left.eraseIdx i,aq++[e]),[0,1,2,3,4,5,8],⟨by dsimp only;rw[c9p ai];omega,(d0J hy).trans hp⟩,⟨G,G⟩,e2h,uq_⟩
  .cases h2
theorem d2K(fl:List Fi)(nn va:Bool)(br:List D)(ms:SM)(me:EM)(bO:me.length<=1000000):b8 CC 144 [.ptr 1 0] [.box (A0 fl nn),wbx fl nn va br 2 3 4,smO ms,emO me,l8 br.length] λr τ=>∃l:List En,r= .ret (vcO (l.map En.cells) 5)/\τ=[.box (A0 fl nn),wbx fl nn va br 2 3 4,smO ms,.dead,l8 br.length,obO 6 (l.map En.cells)]/\l.Perm (me.map Prod.snd):=
 D7 hCC ((d0M fl nn va br ms me bO).mono λr τ ⟨l,h,hp⟩=>⟨_,_,h,l,G,G,hp⟩)
theorem c4p{l:List En}(ao:l.length<=100000000)(hd:∀x∈l,∀y∈l,plE x=plE y->x=y)(hq:σ[q]?=some (obO 6 (l.map En.cells))):b8 CC 145 [(vcO (l.map En.cells) q).fgt,.val (.func (.func 146) #[] #[])] σ λr τ=>∃m:List En,r= .ret (.tup [])/\τ=σ.set q (obO 6 (m.map En.cells))/\m.Perm l/\m.Pairwise λx y=>a5I (plE y) (plE x)≠-1:=by
 cases l with
 |nil=>exact(c1x false σ).mono λr τ ⟨h1,h2⟩=>⟨[],h1,by rw[h2];exact(a0w hq).symm,.refl _,.nil⟩
 |cons x l=>
  rw[show(vcO ((x::l).map En.cells) q).fgt = .vec q 0 (x::l).length by rw[b4r Q,N0];rfl];refine(c5z Tryz.call146 (λx y=>d5r x y) (l:=x::l) Q ao hd hq).mono λ_ _ ⟨m,h1,h2,h3,h4⟩=>⟨m,h1,?_,h3,h4⟩;rw[h2,c1v (aa:=m.map En.cells) (λe=>by
   have:=h3.length_eq;rw[List.map_eq_nil_iff]at e;rw[e]at this;cases this)]
theorem d4o{a b:List (List CV)}(h:a.length=b.length)(q:Nat):vcO a q=vcO b q:=by
 cases a<;>cases b<;>first|rfl|(simp at h;done)|(simp only[vcO,h])
theorem d5v{l m:List En}(h:l.length=m.length)(k:Nat){τ:List b9}(hk:τ[k]?=some (obO 6 (m.map En.cells))):Cls 0 τ (vcO (l.map En.cells) k) (.list (m.map En.cells) (gnn m.length) none):=by
 rw[d4o (show(l.map En.cells).length=(m.map En.cells).length by rw[N0,N0,h]),show gnn m.length=gnn (m.map En.cells).length by rw[N0]];exact d3V (a1J _) (n_4 _) hk
theorem b4w(fl:List Fi)(nn:Bool)(hl:∀f∈fl,f.p.length<=1000000000)(bO:(w8 fl).2.2.length<=10000):b8 CC 97 [.agg (A0 fl nn)] [] λr τ=>∃m:List En,X0 0 τ r (.ret (.list (m.map En.cells) (gnn m.length) none))/\m.Perm ((w8 fl).2.2.map Prod.snd)/\m.Pairwise λx y=>a5I (plE y) (plE x)≠-1:=by
 refine qO Tryz.func97 ?_;refine qD (F4 G O j1 i9 ?_);refine qD (c4 G c75 ⟨O,O⟩ (b5b fl nn hl _) G ?_);intro _ _;refine qD (c4 G Tryz.call144 ⟨O,O⟩ (d2K fl nn (B4 fl == 0) (w8 fl).1 (w8 fl).2.1 (w8 fl).2.2 J) G ?_);intro l hp;have hll:l.length<=1000000:=by rw[hp.length_eq,N0];omega
 refine qD (c4 G Tryz.call145 j2 (c4p (l:=l) (q:=5) J (λx hx y hy e=>(c2J fl).inj (hp.mem_iff.1 hx) (hp.mem_iff.1 hy) e) G) G ?_);intro m ⟨hm,hs⟩;refine c6 ?_;exact⟨_,I8 G O G,⟨m,.ret (d5v (l:=l) (m:=m) hm.length_eq.symm 5 G),hm.trans hp,hs⟩⟩
theorem b7l(fl:List Fi)(nn:Bool)(hl:∀f∈fl,f.p.length<=1000000000)(bO:(w8 fl).2.2.length<=10000)(σ:List b9):b8 CC 97 [.agg (A0 fl nn)] σ λr τ=>∃m:List En,r= .ret (.list (m.map En.cells) (gnn m.length) none)/\τ=σ/\m.Perm ((w8 fl).2.2.map Prod.snd)/\m.Pairwise λx y=>a5I (plE y) (plE x)≠-1:=
 F8 (res:=λm:List En=>.ret (.list (m.map En.cells) (gnn m.length) none)) (P:=λm=>m.Perm ((w8 fl).2.2.map Prod.snd)/\m.Pairwise λx y=>a5I (plE y) (plE x)≠-1) hCC (λa h=>by simp at h;subst h;exact j5 (cs:=A0 _ _) ⟨F5 _ _,O⟩) (b4w fl nn hl bO) (λm _=>b1r m _) σ
theorem d4U{σ:List α}{b M Jd Jh Ji:α}(hm:m<σ.length)(hw:wk<σ.length):((((σ++[b]).set m M).set wk Jd)++[Jh]).set q Ji=(((σ.set m M).set wk Jd)++[b,Jh]).set q Ji:=by
 have e:((σ++[b]).set m M).set wk Jd=(σ.set m M).set wk Jd++[b]:=by rw[List.set_append_left _ _ hm,List.set_append_left _ _ (U hw)]
 rw[e,T5];rfl
theorem d3N(S:CS)(x:En)(hl:S.V.length<=1000000){tk:Nat}(hq:σ[q]?=some (cbv S w m tk wv))(hm:σ[m]?=some (seO S.V))(hw:(wv= .list [] false none/\S.V=[]/\S.i=0/\S.j=0/\σ[wk]?=some .dead)\/(wv=wkC S wk/\σ[wk]?=some (wkO S)/\S.j<=S.i/\S.i<=S.V.length))(hd:q≠m/\q≠wk/\m≠wk):b8 CC 83 [.ptr q 0,.agg x.cells] σ λr τ=>r= .ret (.tup [])/\((x∉S.V/\∃j,j<=S.i/\τ=((σ.set m (seO (S.V++[x]))).set wk .dead++[.box x.cells,wkO {S with V:=S.V++[x],j:=j}]).set q (cbx {S with V:=S.V++[x],j:=j} w m tk (σ.length+1)))\/(x∈S.V/\τ=σ++[.box x.cells])):=by
 refine cO Tryz.func83 ?_;refine a59 ?_;refine a2n ?_;refine cW 7 ?_;refine a2S ?_;refine d8f ?_;refine hY d9w ?_;refine hY (U2 (kc:=En.kc) (vc:=vbB) (l:=seL S.V) (a:=x) d7r G O O G G Tryz.runUnderlying140 c3C G (K6 hm _) ((e1y _ _).trans (by rw[d3X]))) ?_;refine hY b8L ?_;refine a8N ?_;refine cC ?_ ?_<;>intro h1
 .have hx:x∉S.V:=U h1;have hqb:=(n_2.1 hq).1;have hmb:=(n_2.1 hm).1;have hwb:wk<σ.length:=hw.elim (λh=>(n_2.1 h.2.2.2.2).1) λh=>(n_2.1 h.2.1).1;have hij:S.j<=S.i/\S.i<=S.V.length:=hw.elim (λh=>by omega) λh=>h.2.2;have bS:(((σ++[b9.box x.cells]).set m (b9.map (gm En.kc vbB (G6 (seL S.V) x true)))))[q]?=some (cbv S w m tk wv):=by rw[a1c (Ne.symm hd.1)];exact K6 hq _
  have aK:(((σ++[b9.box x.cells]).set m (b9.map (gm En.kc vbB (G6 (seL S.V) x true)))))[σ.length]?=some (.box x.cells):=by rw[a1c J];exact a00 _ _
  have hq3:∀v,((((σ++[b9.box x.cells]).set m (b9.map (gm En.kc vbB (G6 (seL S.V) x true))))).set wk b9.dead++[v])[q]?=some (cbv S w m tk wv):=λv=>K6 (by rw[a1c (Ne.symm hd.2.1)];exact bS) _;have hw2:(wv= .list [] false none/\(S.V.drop S.j).map En.cells=[]/\S.i -S.j=0/\S.V.length -S.i=0/\(((σ++[b9.box x.cells]).set m (b9.map (gm En.kc vbB (G6 (seL S.V) x true)))))[wk]?=some .dead)\/(wv= .vec wk (S.i -S.j) (S.V.length -S.i)/\(((σ++[b9.box x.cells]).set m (b9.map (gm En.kc vbB (G6 (seL S.V) x true)))))[wk]?=some (.vec 6 ((S.V.drop S.j).map En.cells))/\(S.i -S.j)+(S.V.length -S.i)=((S.V.drop S.j).map En.cells).length):=by
   rcases hw with⟨h1,h2,h3,h4,h5⟩|⟨h1,h2,h3,h4⟩
   .exact .inl ⟨h1,by rw[h2];simp,J,by rw[h2];simp,by rw[a1c hd.2.2];exact K6 h5 _⟩
   .exact .inr ⟨h1,by rw[a1c hd.2.2];exact K6 h2 _,by simp;omega⟩
  refine F7 ?_;refine cW 5 ?_;refine a2S ?_;refine d8f ?_;refine hY d9w ?_;refine a2K ?_;refine cD (p9 (kc:=En.kc) (vc:=vbB) (l:=seL S.V) (a:=x) (b:=true) d7r (.inl G) O O G G G G Tryz.runUnderlying140 (K6 hm _) ?_);refine o7 ?_;refine c6n ?_;refine chf G a1e ?_;refine chf G (c7 G c1M) ?_;refine chf G (c7 G (l9 G O G d1k (by first|exact K6 hq _|exact a00 _ _|exact bS|exact aK|exact hq3 _) G)) ?_;refine chf G (c7 G d9w) ?_;refine chf G (c7 G (A6 [x.cells] G ⟨O,O⟩ a1C t_6 a0z G G G G G G G G G)) ?_;refine F2 ?_;refine B1 G G G (d9e (λj=>((S.V++[x]).drop (S.j+j)).map En.cells) (λj=>S.i - (S.j+j)) ((S.V++[x]).length -S.i) G O O G q_3 a1C t_6 c28 a0z G hw2 Q (by have hb:Tryz.t83.bytes=72:=G;rw[hb];simp;omega) G5 (λj hj=>⟨by rw[List.drop_append_of_le_length J,a8o,<- List.map_drop,List.drop_drop];rfl,J⟩) G5 (λj hj=>?_));refine d2q ?_;refine C7 G G (c7 G c1M) ⟨O,?_⟩;refine B1 G G G (i0 G O O G j1 c2w (.inl G) (by first|exact K6 hq _|exact a00 _ _|exact bS|exact aK|exact hq3 _) G (nb G) ?_);refine a8h ?_;exact⟨_,rE0,⟨G,.inl ⟨hx,S.j+j,J,by rw[d4J hx,d4U hmb hwb];rw[List.length_set,show ∀b:b9,(σ++[b]).length=σ.length+1 from λb=>by simp];rfl⟩⟩⟩
 .have hx:x∈S.V:=U h1;refine A8 ?_;exact⟨_,rE0,⟨G,.inr ⟨hx,G⟩⟩⟩
theorem c1A(S:CS)(x:En)(hl:S.V.length<=1000000){tk:Nat}(hq:σ[q]?=some (cbv S w m tk wv))(hm:σ[m]?=some (seO S.V))(hw:(wv= .list [] false none/\S.V=[]/\S.i=0/\S.j=0/\σ[wk]?=some .dead)\/(wv=wkC S wk/\σ[wk]?=some (wkO S)/\S.j<=S.i/\S.i<=S.V.length))(hd:q≠m/\q≠wk/\m≠wk):b8 CC 83 [.ptr q 0,.agg x.cells] σ λr τ=>∃j,r= .ret (.tup [])/\τ=((σ.set m (seO (a2L S.V x))).set wk .dead++[.box x.cells,wkO {S with V:=a2L S.V x,j:=j}]).set q (cbx {S with V:=a2L S.V x,j:=j} w m tk (σ.length+1))/\j<=S.i :=
 c5f (d3N S x hl hq hm hw hd) λr τ ⟨h1,h2⟩=>by
  rcases h2 with⟨hx,j,hj,eT⟩|⟨hx,eT⟩
  .exact ⟨τ,Mv.refl _,j,h1,by rw[a2L,H hx];exact eT,hj⟩
  .rcases hw with⟨_,h4,_⟩|⟨h3,h4,h5,h6⟩
   .rw [h4]at hx;cases hx
   .subst h3 eT;have hwb:=(n_2.1 h4).1;refine⟨_,a93 (K6 h4 _) hd.2.1 (K6 hq _) G,S.j,h1,?_,h5⟩;rw[a2L,W hx,a0w hm,List.set_append_left _ _ hwb,T5,n_9];rfl
theorem b4R{va:Bool}{br:List D}{ms:SM}{me:EM}{τ rest:List b9}{k e:Int}{ks:List Ky}{tok:Option Nat}(hv:diV fl va me s= .tup [iv k,.agg x.cells,.list (ks.map Ky.cv) true none,iv e])(eT:τ=wbx fl nn va br 1 2 3::smO ms::emO me::l8 br.length::rest):
 ∃_:Unit,X0 4 τ (.ret (.tup [iv k,.agg x.cells,.list (ks.map Ky.cv) true tok,iv e])) (.ret (diV fl va me s))/\a4o 4 τ τ (wst fl nn va br ms me)/\4<=4/\True:=by
 subst eT;rw[hv];exact⟨(),.ret (b54 (.old (.val _)) (.old (En.pure _).old) (V7 λr hr=>by obtain⟨k,_,rfl⟩:=D8.1 hr;exact a1a k) (.old (.val _))),b1A _,n_6 _,O⟩
theorem b90(fl:List Fi)(nn va:Bool)(br:List D)(ms:SM)(me:EM)(s:D)(dr:fl.length<=1000000):b8 CC 111 [.ptr 0 0,(sv s)] (wst fl nn va br ms me) λr τ=>∃_:Unit,X0 4 τ r (.ret (diV fl va me s))/\a4o 4 τ τ (wst fl nn va br ms me)/\4<=4/\True:=by
 refine qO Tryz.func111 ?_;refine qD (j6 G a0z G i9 ?_);refine d6t ?_;refine u (c5 G Tryz.call129 j2 (d3q (w:=0) (q1:=1) (q2:=2) (t:=3) ⟨G,G,G,G,a2c ⟨I,I,I,I,I,I⟩⟩ s dr) G) ?_;refine qC ?_ ?_<;>intro h1
 .have hd:(r8 fl s).isSome=true:=h1;have e1:diV fl va me s= .tup [(iv (1)),.agg (En.z).cells,.list (([⟨4,s,[]⟩]:List Ky).map Ky.cv) true none,(iv (0))]:=by
   unfold diV diK diE H9 diC H2;simp only[hd,if_true]
  refine a8S ?_;exact⟨_,o9 (rs:=[.tmp 4,.cell 5 83,.tmp 6,.tmp 7]) (cs:=[_,_,_,_]) G b50 (n_5 G),(by exact b4R (ks:=[⟨4,s,[]⟩]) (x:=En.z) e1 G)⟩
 .have hd:(r8 fl s).isSome=false:=h1;refine u c6F ?_;refine u e1B ?_;refine qD (B6 (m:=1) G O O G G q_3 t_5 t_3 a9G a0A G (.inr G) q_8 c52 E9 (([⟨4,s,[]⟩,⟨3,s,[]⟩]:List Ky).map Ky.cv) 2 G G ?_);refine u (c5 G c9Z ⟨O,G,G,O,O⟩ (a6N (w:=0) (q1:=1) (q2:=2) (t:=3) ⟨G,G,G,G,a2c ⟨I,I,I,I,I,I⟩⟩ 3 [] s) G) ?_;refine z_7 ?_;refine qC ?_ ?_<;>intro h2
  .have hc:(diX va me s).ct=0:=U h2;have e2:diV fl va me s= .tup [(iv (0)),.agg (En.z).cells,.list (([⟨4,s,[]⟩,⟨3,s,[]⟩]:List Ky).map Ky.cv) true none,(iv (14))]:=by
    unfold diV diK diE H9 diC H2;simp only[hd,hc,if_true,if_false,a8l]
   refine a8S ?_;exact⟨_,o9 (rs:=[.tmp 4,.cell 5 83,.tmp 6,.tmp 7]) (cs:=[_,_,_,_]) G b50 (n_5 G),(by exact b4R (ks:=[⟨4,s,[]⟩,⟨3,s,[]⟩]) (x:=En.z) e2 G)⟩
  .have hc:¬(diX va me s).ct=0:=U h2;refine qC ?_ ?_<;>intro h3
   .have hm:1< (diX va me s).ct:=U h3;have e3:diV fl va me s= .tup [(iv (3)),.agg (En.z).cells,.list (([⟨4,s,[]⟩,⟨3,s,[]⟩]:List Ky).map Ky.cv) true none,(iv (12))]:=by
     unfold diV diK diE H9 diC H2;simp only[hd,hc,hm,if_true,if_false,a8l]
    refine a8S ?_;exact⟨_,o9 (rs:=[.tmp 4,.cell 5 83,.tmp 6,.tmp 7]) (cs:=[_,_,_,_]) G b50 (n_5 G),(by exact b4R (ks:=[⟨4,s,[]⟩,⟨3,s,[]⟩]) (x:=En.z) e3 G)⟩
   .have hm:¬1< (diX va me s).ct:=U h3;have e4:diV fl va me s= .tup [(iv (2)),.agg (diX va me s).cells,.list (([⟨4,s,[]⟩,⟨3,s,[]⟩]:List Ky).map Ky.cv) true none,(iv (0))]:=by
     unfold diV diK diE H9 diC H2;simp only[hd,hc,hm,if_false,a8l]
    refine cF [] [0,1,2] (tl:=[(3,[1]),(4,[]),(5,[])]) ?_;refine chf G b6U ?_;refine chf G O0 ?_;refine chf G c8c ?_;refine c9m ?_;refine⟨⟨C3,O⟩,?_⟩;refine c6b ?_;refine b5o ?_;exact⟨_,o9 (rs:=[.tmp 4,.cell 5 83,.tmp 6,.tmp 7]) (cs:=[_,_,_,_]) G b50 (n_5 G),(by exact b4R (ks:=[⟨4,s,[]⟩,⟨3,s,[]⟩]) (x:=diX va me s) e4 G)⟩
theorem c46{va:Bool}{br:List D}{ms:SM}{me:EM}{q1 q2 t:Nat}(aw:WAt σ w q1 q2 t fl nn va br ms me)(s:D)(dr:fl.length<=1000000):b8 CC 111 [.ptr w 0,(sv s)] σ λr τ=>r= .ret (diV fl va me s)/\τ=σ:=
 (a2f [w,q1,q2,t] hCC G aw.nd (b8g aw) (.cons (.ptr G) (G7 λa h=>by simp at h;subst h;exact .val _)) (c:=λ_:Unit=>diV fl va me s) (P:=λ_=>True) (λ_ _=>b8X fl va me s) (K9 (S:=λ_=>wst fl nn va br ms me) (res:=λ_:Unit=>.ret (diV fl va me s)) (P:=λ_=>True) hCC (b90 fl nn va br ms me s dr))).mono λ_ _ ⟨_,h1,h2,_⟩=>⟨h1,h2⟩
theorem Z6{c:MC}{s:Src}(h:D2 c x=some (s,d)):glk c.ms x.pl=some s/\s.decls[x.ix.toNat]?=some d:=by
 unfold D2 at h;cases hs:glk c.ms x.pl with
 |none=>rw[hs]at h;cases h
 |some s'=>
  rw[hs]at h;cases hd:s'.decls[x.ix.toNat]? with
  |none=>simp[hd]at h
  |some d'=>simp[hd]at h;obtain⟨rfl,rfl⟩:=h;exact⟨G,hd⟩
theorem a6R(v:Int): -256<v.tmod 256/\v.tmod 256<256:=by
 rcases Int.le_total 0 v with h|h
 .rw [b3h h];omega
 .obtain ⟨m,rfl⟩:∃m:Int,v= -m:=⟨-v,J⟩;rw[Int.neg_tmod,b3h J];omega
theorem d2V{a b:Int}(ha:InM a): -9223372036854775808<=a.tdiv b/\a.tdiv b<=9223372036854775807:=by
 have h1:=Int.natAbs_tdiv_le_natAbs a b;obtain⟨h2,h3⟩:=ha;omega
theorem e0J{a b:Int}(ha:InM a)(hb:b≠0):b2i .quo .i64 a b=some (.int .i64 (a.tdiv b)):=by
 have h:=d2V (b:=b) ha;simp only[b2i,H hb];rw[a5B J J]
theorem b4E{g:FuncId}{caps:List CV}{p:Ex->Bool}(l:List Ex)(nn:Bool)(hl:l.length<=1000000)(hg:∀args w,(callFunc g args).run CC.P w= .ok (.enter g args) w)(Jg:∀x∈l,b8 CC g ([.agg x.cells]++caps) σ λr ae=>r= .ret (.val (.bool (p x)))/\ae=σ):b8 CC 203 [(.list (l.map Ex.cv) nn none),.clo g caps] σ λr ae=>r= .ret (iv (ixP p l 0))/\ae=σ:=by
 refine cO Tryz.func203 ?_;refine z_0 ?_;refine a58 ?_;refine z_1 ?_;refine cY b0I ?_;refine a9r ?_;refine L6 (α:=Nat) (λi=>[(0,(.list (l.map Ex.cv) nn none)),(1,(.clo g caps)),(7,iv l.length),(8,iv i)]) (λ_=>σ) (λi=>i<=l.length/\ixP p l 0=ixP p (l.drop i) i) (λi=>l.length -i) 0 ⟨n_4 _,G⟩ tu_ G ?_;intro i E0 ⟨hi,hr⟩;refine a9p ?_;refine cC ?_ ?_<;>intro h1
 .have ai:(i:Int)<l.length:=U h1;obtain⟨y,hb⟩:=gx_ l i;rw[a6G hb]at hr;refine c7k ?_;refine z_1 ?_;refine z_2 ?_;refine a4b ?_;refine cY A2 ?_;refine cY (A4 G O O G G b6d a9Q J (j8 hb) G) ?_;refine cY (X8 G O G c6j a9Q (nb G)) ?_;refine cY c8p ?_;refine o7 ?_;refine cC ?_ ?_<;>intro h2
  .have hx:p y=true:=U h2;rw[W hx]at hr;refine b0O ?_;exact⟨_,rE1,(by exact⟨by rw[hr],G⟩)⟩
  .have hx:¬p y=true:=U h2;rw[H hx]at hr;refine b3x ?_;exact⟨(i+1),J,⟨J,hr⟩,tu_,G⟩
 .have aL:i=l.length:=by
   have:¬(i:Int)<l.length:=U h1;omega
  refine o6 ?_;refine a89 ?_;exact⟨_,rE1,c6s⟩
theorem a9E{g:FuncId}{caps:List CV}{p:Ex->Bool}(l:List Ex)(nn:Bool)(hl:l.length<=1000000)(hg:∀args w,(callFunc g args).run CC.P w= .ok (.enter g args) w)(Jg:∀x∈l,b8 CC g ([.agg x.cells]++caps) σ λr ae=>r= .ret (.val (.bool (p x)))/\ae=σ):b8 CC 163 [(.list (l.map Ex.cv) nn none),.clo g caps] σ λr ae=>r= .ret (.val (.bool (l.any p)))/\ae=σ:=by
 refine cO Tryz.func163 ?_;refine b9I ?_;refine a4b ?_;refine yc G Tryz.call203 j2 (b4E l nn hl hg Jg) ?_;refine cY Z5 ?_;refine a0W ?_;exact⟨_,rE1,(by exact⟨by rw[<- a92 p l 0],G⟩)⟩
theorem b8r(x:Ex)(σ:List b9):b8 CC 164 [.agg x.cells] σ λr ae=>r= .ret (.val (.bool (x.k == 10)))/\ae=σ:=by
 refine an_ Tryz.func164 ?_;refine a59 ?_;refine b9H ?_;refine z_0 ?_;refine b6n ?_;refine cY Z5 ?_;exact c60
theorem c06(x:De)(hl:x.body.length<=1000000)(σ:List b9):b8 CC 107 [.agg x.cells] σ λr ae=>r= .ret (.val (.bool (x.body.any λe=>e.k == 10)))/\ae=σ:=by
 refine an_ Tryz.func107 ?_;refine a59 ?_;refine b9H ?_;refine z_0 ?_;refine cY c3u ?_;refine cY b3D ?_;refine ye G Tryz.call163 j2 (b0G (a9E (caps:=[]) x.body _ hl Tryz.call164 λe _=>b8r e _)) G ?_;exact c60
theorem b6F(l:List Int)(nn:Bool)(x:Int)(hl:l.length<=1000000000)(σ:List b9):b8 CC 256 [(.list (l.map icv) nn none),iv x] σ λr ae=>r= .ret (iv (ixP (λy=>x == y) l 0))/\ae=σ:=by
 refine an_ Tryz.func256 ?_;refine z_0 ?_;refine a58 ?_;refine z_1 ?_;refine cY a7g ?_;refine a9r ?_;refine u0 hCC (α:=Nat) (λi=>[(0,(.list (l.map icv) nn none)),(1,iv x),(7,iv l.length),(8,iv i)]) (λ_=>[]) (λi=>i<=l.length/\ixP (λy=>x == y) l 0=ixP (λy=>x == y) (l.drop i) i) (λi=>l.length -i) 0 ⟨n_4 _,G⟩ tu_ (au:=[]) G D5 uz_ ?_;intro i ⟨hi,hr⟩;refine a9p ?_;refine cC ?_ ?_<;>intro h1
 .have ai:(i:Int)<l.length:=U h1;obtain⟨y,hb⟩:=gx_ l i;rw[a6G hb]at hr;refine c7k ?_;refine z_1 ?_;refine z_2 ?_;refine a4b ?_;refine cY A2 ?_;refine cY (A4 G O O G G t_7 t_1 J (j8 hb) G) ?_;refine cY b8i ?_;refine cY b16 ?_;refine o7 ?_;refine cC ?_ ?_<;>intro h2
  .have hx:(x == y)=true:=U h2;rw[W hx]at hr;refine b0O ?_;exact⟨_,rE1,_,_,G,G,B8 hr.symm⟩
  .have hx:¬(x == y)=true:=U h2;rw[H hx]at hr;refine b3x ?_;exact⟨(i+1),_,⟨J,J,hr⟩,tu_,G⟩
 .have aL:i=l.length:=by
   have:¬(i:Int)<l.length:=U h1;omega
  refine o6 ?_;refine a89 ?_;exact⟨_,rE1,_,_,G,G,B8 (by rw[hr,aL,b5P];rfl)⟩
theorem b1m(l:List Int)(nn:Bool)(x:Int)(hl:l.length<=1000000000)(σ:List b9):b8 CC 206 [(.list (l.map icv) nn none),iv x] σ λr ae=>r= .ret (.val (.bool (l.any λy=>x == y)))/\ae=σ:=by
 refine an_ Tryz.func206 ?_;refine b9I ?_;refine a4b ?_;refine yc G Tryz.call256 j2 (b6F l nn x hl _) ?_;refine cY Z5 ?_;refine a0W ?_;exact⟨_,rE1,_,_,G,G,j9 (a92 (λy=>x == y) l 0)⟩
theorem c4i(x:Ex)(ks:List Int)(nn:Bool)(hl:ks.length<=1000000000)(hq:σ[q]?=some (.box [(.list (ks.map icv) nn none)])):b8 CC 205 ([.agg x.cells]++[.ptr q 0]) σ λr ae=>r= .ret (.tup [sv x.name,(.val (.bool (ks.any λy=>x.k == y)))])/\ae=σ:=by
 refine c9 (cO Tryz.func205 ?_);refine a59 ?_;refine cY b01 ?_;refine a58 ?_;refine cW 8 ?_;refine hY b53 ?_;refine hY (l9 G O G a2j (by first|exact a00 _ _|exact K6 hq _) G) ?_;refine hY (l9 G O G c3D (by first|exact a00 _ _|exact K6 hq _) G) ?_;refine hY c8X ?_;refine hY (l9 G O G a5v (by first|exact a00 _ _|exact K6 hq _) G) ?_;refine hY (c5 G Tryz.call206 j2 (b1m ks nn x.k hl _) G) ?_;refine b7a ?_;refine a8N ?_;refine c6 ?_;exact⟨_,o9 (rs:=[.tmp 3,.tmp 4]) (cs:=[_,_]) G a9o (n_5 G),_,_,G,G,(.tups ⟨.old (.val _),.old (.val _),O⟩)⟩
def ddK:List Ky->List Ky
 | []=>[]
 | [x]=>[x]
 |x::y::l=>if x=y then ddK (y::l)else x::ddK (y::l)
theorem b3G(x y:Ky)(l:List Ky):ddK (x::y::l)=if x=y then ddK (y::l)else x::ddK (y::l):=by rw[ddK]
theorem c19:∀(l:List Ky) (x y:Ky),ddK (l++[x,y])=if x=y then ddK (l++[x])else ddK (l++[x])++[y]
 | [],x,y=>by
  simp only[b2j,b3G];by_cases h:x=y<;>simp[h,ddK]
 | [a],x,y=>by
  simp only[b19,b2j,b3G];by_cases h1:a=x<;>by_cases h2:x=y<;>simp[h1,h2,ddK]
 |a::b::l,x,y=>by
  have h:=c19 (b::l) x y;simp only[b19]at h;simp only[b19,b3G,h];by_cases h1:a=b<;>by_cases h2:x=y<;>simp[h1,h2]
theorem c2R{l:List Ky}{x y:Ky}(hx:l[j]?=some x)(hy:l[j+1]?=some y):ddK (l.take (j+2))=if x=y then ddK (l.take (j+1))else ddK (l.take (j+1))++[y]:=by
 have h1:l.take (j+1)=l.take j++[x]:=by rw[a3a,hx];rfl
 have h2:l.take (j+2)=l.take j++[x,y]:=by rw[show j+2=(j+1)+1 from G,a3a,hy,h1];simp
 rw[h1,h2,c19]
theorem d8K{l:List Ky}:ddK (l.take 1)=l.take 1:=by cases l<;>rfl
theorem c9L{l:List Ky}(h:l.length <2):ddK l=l:=by
 match l,h with
 | [],_=>rfl
 | [x],_=>rfl
theorem b2u(σ:List b9):b8 CC 113 [(.list (([]:List Ky).map Ky.cv) false none)] σ λr ae=>r= .ret (.list (([]:List Ky).map Ky.cv) false none)/\ae=σ:=by
 refine b8.anyw hCC pu_ pu_ (c9 (qO Tryz.func113 ?_)) σ;refine u (c2k G O G t_5 G) ?_;refine qC ?_ ?_<;>intro h1
 .refine c6 ?_;exact⟨_,rE1,_,_,G,G,(O2 (show CV.list [] false none=_ from G) pu_)⟩
 .exfalso;cases h1
theorem b7D(l:List Ky)(hn:l≠[])(hl:l.length<=100000000)(σ:List b9):b8 CC 113 [(.list (l.map Ky.cv) true none)] σ λr ae=>∃_:Unit,r= .ret (.vec σ.length 0 l.length)/\ae=σ++[.vec 3 (l.map Ky.cv)]/\True:=by
 refine qO Tryz.func113 ?_;refine u (c2k G O G t_5 G) ?_;refine qC ?_ ?_<;>intro h1
 .exfalso;cases h1
 .refine qD (e0d G t_5 t_3 (λa0=>?_));refine qD (d2R l.length G O O G q_3 t_5 t_3 a9G a0A G (by simp;exact a8E.2 hn) c52 E9 Q ?_);refine c6 ?_;exact⟨_,rE1,⟨(),G,G,O⟩⟩
theorem b8n(l:List Ky)(hl:l.length<=100000000):b8 CC 116 [.vec 0 0 l.length] [.vec 3 (l.map Ky.cv)] λr τ=>∃rest:List Ky,r= .ret (.vec 0 0 (ddK l).length)/\τ=[.vec 3 ((ddK l++rest).map Ky.cv)]/\True:=by
 refine qO Tryz.func116 ?_;refine u b8S ?_;refine qC ?_ ?_<;>intro h1
 .have ai:l.length <2:=sm_ h1;have eH:=c9L ai;refine c6 ?_;exact⟨_,rE1,⟨[],by rw[eH],by rw[eH];simp,O⟩⟩
 .have aL:2<=l.length:=sm_ h1;refine L6 (α:=Nat) (λk=>[(0,(.vec 0 0 l.length)),(3,iv k)]) (λ_=>[.vec 3 (l.map Ky.cv)]) (λk=>1<=k/\k<=l.length/\ddK (l.take k)=l.take k) (λk=>l.length -k) 1 ⟨n_6 _,J,d8K⟩ tu_ G ?_;intro k E0 ⟨bn,bK,hd⟩;refine qk (u b8S ?_);refine qC ?_ ?_<;>intro h2
  .have ai:k<l.length:=sm_ h2;obtain⟨y,hy⟩:∃y,l[k]?=some y:=⟨l[k]'ai,Q⟩;obtain⟨x,hx⟩:∃x,l[k-1]?=some x:=⟨l[k-1]'J,Q⟩;have ce:=c2R hx (by rw[c1R bn];exact hy);rw[show k-1+2=k+1 by omega,show k-1+1=k by omega,hd]at ce;refine cW 10 ?_;refine a4x ?_;refine hY a86 ?_;refine hY (a08 G O G b2g t_3 G (a6y (j8 hy) J) (nb G)) ?_;refine a4x ?_;refine hY a0D ?_;refine hY a86 ?_;refine hY (a08 G O G b2g t_3 G (a6y (j8 hx) J) (nb G)) ?_;refine hY (a5W G O O (xs:=[.int .i64 y.k,.string (str y.a),.string (str y.b)]) (ys:=[.int .i64 x.k,.string (str x.a),.string (str x.b)]) G G c48 (b3m y x)) ?_;refine a3D ?_;refine qC ?_ ?_<;>intro h3
   .have hyx:x=y:=by
     have gR:y=x:=U h3;exact gR.symm
    rw[W hyx]at ce;refine u (H6 (l:=k) G O G t_5 t_3 G a1l G a1w Q) ?_;refine L6 (α:=List Ky×Nat×Nat) (λa=>[(0,(.vec 0 0 l.length)),(3,iv a.2.1),(4,(.vec 0 (0+k) (l.length -k))),(5,iv a.2.2)]) (λa=>[.vec 3 (a.1.map Ky.cv)]) (λa=>a.1.length=l.length/\1<=a.2.2/\a.2.2<=l.length -k/\a.2.1<=k+a.2.2 -1/\ddK (l.take (k+a.2.2))=a.1.take a.2.1/\∀j,k+a.2.2 -1<=j->a.1[j]?=l[j]?) (λa=>l.length -a.2.2) (l,k,1) ⟨G,n_6 _,do_,do_,ce,λ_ _=>G⟩ tu_ G ?_;intro⟨m,p,q⟩ E1 ⟨hm,bE,bS,hp,ja,jb⟩;dsimp only at hm bE bS hp ja jb⊢;refine qk (u b8S ?_);refine qC ?_ ?_<;>intro h4
    .have hlt2:q<l.length -k:=sm_ h4;obtain⟨z,hz⟩:∃z,l[k+q]?=some z:=⟨l[k+q]'J,Q⟩;obtain⟨Jj,hu⟩:∃Jj,l[k+q-1]?=some Jj:=⟨l[k+q-1]'J,Q⟩;have hzm:m[k+q]?=some z:=(jb _ J).trans hz;have hum:m[k+q-1]?=some Jj:=(jb _ J).trans hu;have dL:=c2R hu (by rw[c1R J];exact hz);rw[show k+q-1+2=k+(q+1) by omega,show k+q-1+1=k+q by omega,ja]at dL;refine cW 10 ?_;refine a4x ?_;refine hY a86 ?_;refine hY (a08 G O G b2g t_3 G (a6y (j8 hzm) J) (nb G)) ?_;refine a4x ?_;refine hY a0D ?_;refine hY a86 ?_;refine hY (a08 G O G b2g t_3 G (a6y (j8 hum) J) (nb G)) ?_;refine hY (e1Z G O O (xs:=[.int .i64 z.k,.string (str z.a),.string (str z.b)]) (ys:=[.int .i64 Jj.k,.string (str Jj.a),.string (str Jj.b)]) G G c48 (b3m z Jj)) ?_;refine a3D ?_;refine qC ?_ ?_<;>intro h5
     .have hzu:¬Jj=z:=by
       have iL:¬z=Jj:=U h5;exact λe=>iL e.symm
      rw[H hzu]at dL;obtain⟨o,ho⟩:=gx_ m p;refine u a86 ?_;refine u (a08 G O G b2g t_3 G (a6y (j8 hzm) J) (nb G)) ?_;refine u a86 ?_;refine qD (U6 ((m.set p z).map Ky.cv) G O O G j1 t_3 i9 G (a6y (j8 ho) J) G (nb G) (by rw[show 0+(p:Int).toNat=p by omega,List.map_set];rfl) G ?_);refine u o3 ?_;refine u o3 ?_;exact⟨(m.set p z,p+1,q+1),do_,⟨U hm,do_,do_,do_,by dsimp only;rw[dL,a3a,List.take_set_of_le (n_6 _),b2E J];rfl,λj hj=>by dsimp only at hj;rw[a1c J];exact jb j J⟩,tu_,G⟩
     .have hzu:Jj=z:=by
       have iL:z=Jj:=U h5;exact iL.symm
      rw[W hzu]at dL;refine u o3 ?_;exact⟨(m,p,q+1),do_,⟨hm,do_,do_,do_,dL,λj hj=>by dsimp only at hj;exact jb j J⟩,tu_,G⟩
    .have eW:q=l.length -k:=sm_ h4;subst eW;rw[show k+(l.length -k)=l.length by omega,a6O]at ja;have bo:(m.take p).length=p:=by rw[b1U];omega
     have fm:(ddK l).length=p:=by rw[ja,bo]
     refine o6 ?_;refine u (H6 (l:=p) G O G t_5 t_3 G a1l G a1w G5) ?_;refine qD (b7I ((m.take p++List.replicate (l.length -p) zK).map Ky.cv) G O G t_5 a0A G (a5m G) G G G5 e2U G ?_);refine u (H6 (h:=p) G O G t_5 t_3 G G a1l a1w G5) ?_;refine c6 ?_;exact⟨_,rE1,⟨List.replicate (l.length -p) zK,by rw[fm];rfl,by rw[ja];rfl,O⟩⟩
   .have hyx:¬x=y:=by
     have gR:¬y=x:=U h3;exact λe=>gR e.symm
    rw[H hyx]at ce;refine u o3 ?_;exact⟨k+1,J,⟨J,J,by rw[ce,a3a,hy];rfl⟩,tu_,G⟩
  .have eW:k=l.length:=sm_ h2;subst eW;rw[a6O]at hd;refine V5 ?_;exact⟨_,rE1,⟨[],by rw[hd],by rw[hd];simp,O⟩⟩
theorem c0C(σ:List b9):b8 CC 116 [(.list (([]:List Ky).map Ky.cv) false none)] σ λr ae=>r= .ret (.list (([]:List Ky).map Ky.cv) false none)/\ae=σ:=by
 refine b8.anyw hCC pu_ pu_ (c9 (qO Tryz.func116 ?_)) σ;refine u a7K ?_;refine cC ?_ ?_<;>intro h1
 .refine qk ?_;exact d6G
 .exfalso;simp at h1
theorem c02(l:List Ky)(hl:l.length<=100000000)(hq:σ[q]?=some (.vec 3 (l.map Ky.cv))):b8 CC 116 [.vec q 0 l.length] σ λr τ=>∃rest:List Ky,r= .ret (.vec q 0 (ddK l).length)/\τ=σ.set q (.vec 3 ((ddK l++rest).map Ky.cv))/\True:=
 a6v (α:=List Ky) (g:=λ_=>false) (rows':=λrest=>(ddK l++rest).map Ky.cv) (off:=λ_=>0) (len:=λ_=>(ddK l).length) (P:=λ_=>True) hCC (R1 l) (args:=[]) (λa h=>by cases h) (λ_ _=>R1 _)
  ((b8n l hl).mono λr τ ⟨rest,h1,h2,_⟩=>⟨rest,by subst h1 h2;exact⟨[0],G,G,.ret (.vec G),.inr ⟨_,G,.same G (a0M _ _)⟩,O⟩,O⟩) hq
theorem b7N(nn:Bool)(σ:List b9):b8 CC 114 [.list [] nn none,.val (.func (.func 115) #[] #[])] σ λr τ=>r= .ret (.tup [])/\τ=σ:=λM w vs hr hn hx=>by
 have hs:vs.size=2:=hn;obtain⟨v,v2,rfl⟩:∃v v2,vs= #[v,v2]:=⟨vs[0]'J,vs[1]'J,Array.ext (by simp[hs]) λi h1 h2=>by
  have:i=0\/i=1:=by omega
  rcases this with rfl|rfl<;>simp⟩
 have h0:RV M w (.list [] nn none) v:=hx 0 _ G;cases h0 with
 |list vals g1 g2 g3 g4 g5 g6 g7 g8 g9 g10=>
  refine(Go.Proofs.AnyF.slices_SortFunc_none Tryz.sortKey _ _ v2 w).mono λe w' ⟨he,hw⟩=>?_;subst he hw;exact⟨_,_,M,Ext.refl M w',hr,.tup G (λi c h=>by simp at h),G,G⟩
def Z8(l:List Ky):List Ky:=ddK (a79 T4 l)
theorem b4e(σ:List b9):b8 CC 85 [(.list (([]:List Ky).map Ky.cv) false none)] σ λr ae=>r= .ret (.list (([]:List Ky).map Ky.cv) false none)/\ae=σ:=by
 refine b8.anyw hCC pu_ pu_ (c9 (qO Tryz.func85 ?_)) σ;refine u (c5 G Tryz.call113 ⟨O,O⟩ (b2u _) G) ?_;refine u (c5 G Tryz.call114 j2 (b7N false _) G) ?_;refine u (c5 G Tryz.call116 ⟨O,O⟩ (c0C _) G) ?_;exact d6G
theorem d4L(l:List Ky)(aB:l≠[])(hl:l.length<=100000000):b8 CC 85 [(.list (l.map Ky.cv) true none)] [] λr ae=>∃aC c c',ae=[]++aC/\r= .ret c/\Cls 0 ae c c'/\c'= .list ((Z8 l).map Ky.cv) true none:=by
 have gC:(a79 T4 l).length=l.length:=b6M _;refine qO Tryz.func85 ?_;refine qD (c4 G Tryz.call113 ⟨O,O⟩ (b7D l aB hl _) G ?_);intro _ _;refine qD (c4 G Tryz.call114 j2 (b6m aB hl G) G ?_);intro _ _;refine qD (c4 G Tryz.call116 ⟨O,O⟩ ((by rw[<- gC];exact c02 (a79 T4 l) J G)) G ?_);intro rest _;refine c6 ?_;exact⟨_,rE1,⟨_,_,_,G,G,(.vecs (n_4 _) G Q (by simp;rfl) (R1 (Z8 l))),G⟩⟩
theorem e0c(l:List Ky)(hl:l.length<=100000000)(σ:List b9):b8 CC 85 [(.list (l.map Ky.cv) (gnn l.length) none)] σ λr τ=>r= .ret (.list ((Z8 l).map Ky.cv) (gnn (Z8 l).length) none)/\τ=σ:=by
 by_cases h:l=[]
 .subst h;rw[show Z8 []=[] by simp[Z8,a79,ddK]];exact b4e σ
 .rw [a8i h];have hn:Z8 l≠[]:=by
   intro e;have hd:∀m:List Ky,m≠[]->ddK m≠[]:=by
    intro m
    induction m with
    |nil=>intro h;exact absurd G h
    |cons a m ih=>
     intro _;cases m with
     |nil=>simp[ddK]
     |cons b m=>
      rw[b3G]
      split
      .exact ih Q
      .simp
   exact hd (a79 T4 l) (λe2=>h (List.length_eq_zero_iff.1 (by rw[<- b6M (l:=l) (le:=λx y=>!(Go.Proofs.ltOf T4) y x)];exact n_7 List.length e2))) e
  rw[a8i hn];exact b8.anyw (args:=[.list (l.map Ky.cv) true none]) hCC ⟨D1 _ _,O⟩ (D1 _ _) ((a3w (d4L l h hl)).mono λr τ ⟨⟨c,h1,h2⟩,h3⟩=>⟨by rw[h1,h2],h3⟩) σ
def okK:List Ex->Nat->List Int->Prop
 | [],_,st=>st.length=1
 |x::l,i,st=>x.args.length<=st.length/\x.args=st.drop (st.length -x.args.length)/\okK l (i+1) (st.take (st.length -x.args.length)++[(i:Int)])
mutual
theorem b7t:∀(t:Tr) (s:Nat) (R:List Ex) (st:List Int),okK (t.flat s++R) s st↔okK R (s+t.size) (st++[((s+t.size -1:Nat):Int)])
 | .n k Jj o nm ch,s,R,st=>by
  rw[Tr.flat,T5,b24 ch s _ st,List.singleton_append,okK,Tr.size];have hl:(st++J1 ch s).length - (J1 ch s).length=st.length:=by rw[n_9];omega
  dsimp only;rw[hl,List.drop_left,List.take_left,n_9,show s+(Q2 ch+1) -1=s+Q2 ch by omega,<- b2b];exact⟨λh=>h.2.2,λh=>⟨J,G,h⟩⟩
theorem b24:∀(l:List Tr) (s:Nat) (R:List Ex) (st:List Int),okK (P6 l s++R) s st↔okK R (s+Q2 l) (st++J1 l s)
 | [],s,R,st=>by rw[P6,Q2,J1,b2j,a0h];rfl
 |t::l,s,R,st=>by rw[P6,T5,b7t t s,b24 l,J1,Q2,T5,List.singleton_append,b2b]
end
theorem c7Q(t:Tr):okK (t.flat 0) 0 []:=by
 have:=(b7t t 0 [] []).2 (by simp[okK]);rwa[a0h]at this
theorem DeG.ar(h:DeG d):∀x∈d.body,a6g d.params.length x.k x.num x.op x.name x.args.length:=λx hx=>by
 obtain⟨t,h1,h2⟩:=h.tree;obtain⟨j,hj⟩:=J6.1 hx;have hl:=(n_2.1 hj).1;rw[h1,Tr.flat_len]at hl;obtain⟨y,z,ch,g⟩:=c3y h2 hl;rw[h1]at hj;obtain rfl:=Option.some.inj (hj.symm.trans g.e);exact g.ok
theorem b8a(a b c d e f:Bool):(a&& (b&&c)&& !(d&& (e ||f)))= !(((!a || !b) || !c) ||(d&& (e ||f))):=by cases a<;>cases b<;>cases c<;>cases d<;>cases e<;>cases f<;>rfl
theorem c7s(a b:Int):decide (a<b)= !decide (b<=a):=by by_cases h:b<=a<;>simp[h]<;>omega
theorem c63(a b:Int):decide (a > b)= !decide (a<=b):=by by_cases h:a<=b<;>simp[h]<;>omega
theorem a3x(l:List Va)(nn:Bool)(σ:List b9):b8 CC 56 [.agg (a1o l nn)] σ λr ae=>r= .ret (.val (.bool (a7m l)))/\ae=σ:=by
 refine b8.anyw hCC pu_ pu_ (c9 (qO Tryz.func56 ?_)) σ;refine c9d ?_;refine qC ?_ ?_<;>intro h1
 .have ao:¬l.length<=16:=sm_ h1;refine c6 ?_;exact⟨_,rE1,_,_,G,G,j9 (by rw[a7m,a1R ao];rfl)⟩
 .have ao:l.length<=16:=sm_ h1;refine u c9M ?_;refine u0 hCC (α:=Nat) (λi=>[(1,.ptr 0 0),(10,(.list (l.map Va.cv) nn none)),(11,iv l.length),(12,iv i)]) (λ_=>[.box (a1o l nn)]) (λi=>i<=l.length/\a7m l=evB (prv l i) (l.drop i)) (λi=>l.length -i) 0 ⟨n_4 _,by rw[a7m,a2m ao];rfl⟩ tu_ (au:=[]) G D5 uz_ ?_;intro i ⟨hi,hr⟩;refine qk (qC ?_ ?_)<;> intro h2
  .have ai:(i:Int)<l.length:=U h2;obtain⟨y,hb⟩:=gx_ l i;obtain⟨p,hp⟩:=b5v (l:=l) (i:=i) J;have fL:0<i->l[i-1]?=some p:=λh=>(hp h).2;rw[b76 hb]at hr;refine u c6P ?_;refine d9K ?_;refine cW 30 ?_;refine d5Y ?_;refine hY (c5 G Tryz.call94 ⟨O,O⟩ (b3d y.n _) G) ?_;refine hY b8L ?_;refine hY A2 ?_;refine c64 ?_;refine D4 G G O G a4F ?_;refine b4c ?_;refine c64 ?_;refine D4 G G O G a4F ?_;refine b4c ?_;refine D4 G G O G F9 ?_;refine D4 G G O G a4F ?_;refine D4 G G O G b1b ?_;refine e1I ?_;refine e0M ?_;refine d7I ?_;refine a41 G G (λh=>h) G (λhk hg=>A4 G ⟨hk,hg⟩ ⟨hk,hg⟩ G G c54 c4J d3m (j8 (hp (by change (_:Bool)=_ at hk;simp at hk hg;omega)).1) G) ?_;refine e1L ?_;refine d6v ?_;refine hY S4 ?_;refine a3D ?_;refine qC ?_ ?_<;>intro h3
   .have u3:a0L (prv l i) y=false:=by rw[a0L,Y2 fL,b8a,<- c7s,<- c63];rw[h3];rfl
    rw[u3,Bool.false_and]at hr;exact d5T
   .have u3:a0L (prv l i) y=true:=by rw[a0L,Y2 fL,b8a,<- c7s,<- c63];rw[h3];rfl
    rw[u3,b6I]at hr;exact b2d
  .exact d7V
theorem b1J(l:List Va)(nn:Bool)(s:D)(hl:l.length<=1000000000)(σ:List b9):b8 CC 139 [.agg (a1o l nn),(sv s)] σ λr ae=>r= .ret (.tup [(iv ((a6j l s).getD 0)),(.val (.bool ((a6j l s).isSome)))])/\ae=σ:=by
 refine b8.anyw hCC pu_ pu_ (c9 (qO Tryz.func139 ?_)) σ;refine c9d ?_;refine u0 hCC (α:=Nat) (λi=>[(1,(sv s)),(9,(.list (l.map Va.cv) nn none)),(10,iv l.length),(11,iv i)]) (λ_=>[.box (a1o l nn)]) (λi=>i<=l.length/\a6j l s=a6j (l.drop i) s) (λi=>l.length -i) 0 ⟨n_4 _,G⟩ tu_ (au:=[]) G D5 uz_ ?_;intro i ⟨hi,hr⟩;refine qk (qC ?_ ?_)<;> intro h1
 .have ai:(i:Int)<l.length:=U h1;obtain⟨y,hb⟩:=gx_ l i;rw[c4T hb]at hr;refine u c6P ?_;refine d9K ?_;refine u a5Q ?_;refine qC ?_ ?_<;>intro h2
  .have u2:y.n=s:=U h2;rw[W u2]at hr;refine c6 ?_;exact⟨_,o9 (rs:=[.tmp 4,.tmp 5]) (cs:=[_,_]) G a9o (n_5 G),_,_,G,G,(by rw[hr];exact .tups ⟨.old (.val _),.old (.val _),O⟩)⟩
  .have u2:¬y.n=s:=U h2;rw[H u2]at hr;exact b2d
 .have aL:l.length<=i:=sm_ h1;rw[a0V aL]at hr;refine V5 ?_;exact⟨_,o9 (rs:=[.tmp 4,.tmp 5]) (cs:=[_,_]) G a9o (n_5 G),_,_,G,G,(by rw[hr];exact .tups ⟨.old (.val _),.old (.val _),O⟩)⟩
def b0z(L:List (D×Src))(e:En):Src×Int:=match L.find? (λx=>decide (x.1=e.pl))with
 |some x=>(x.2,e.ix)
 |none=>(Src.z,0)
theorem c6d{x:D×Src}(h:L[i]?=some x)(e:En):b0z (L.drop i) e=if x.1=e.pl then(x.2,e.ix)else b0z (L.drop (i+1)) e:=by
 obtain⟨ai,rfl⟩:=n_2.1 h;rw[a0v ai];unfold b0z;rw[b9m];by_cases hh:L[i].1=e.pl
 .simp [hh]
 .simp [hh]
theorem b8W(L:List (D×Src))(e:En)(hL:L.length<=1000)(σ:List b9):b8 CC 44 [.agg (a1H (L.map Prod.fst) (L.map Prod.snd)),.agg e.cells] σ λr ae=>r= .ret (.tup [.agg (b0z L e).1.cells,(iv ((b0z L e).2))])/\ae=σ:=by
 refine b8.anyw hCC pu_ pu_ (c9 (qO Tryz.func44 ?_)) σ;refine a9N ?_;refine qD (j6 G a4J G i9 ?_);refine u P0 ?_;refine u0 hCC (α:=Nat) (λi=>[(2,.ptr 0 0),(3,.ptr 1 0),(4,.ptr 2 0),(9,(iv ((L.map Prod.fst).length:Int))),(10,iv i)]) (λ_=>[.box (a1H (L.map Prod.fst) (L.map Prod.snd)),.box e.cells,.box Src.z.cells]) (λi=>i<=L.length/\b0z L e=b0z (L.drop i) e) (λi=>L.length -i) 0 ⟨n_4 _,G⟩ tu_ (au:=[]) G D5 uz_ ?_;intro i ⟨hi,hr⟩;refine qk (qC ?_ ?_)<;> intro h1
 .have ai:i<L.length:=sm_ h1;obtain⟨x,hb⟩:∃x,L[i]?=some x:=⟨L[i]'ai,Q⟩;rw[c6d hb]at hr;refine cW 8 ?_;refine hY b8w ?_;refine hY c12 ?_;refine hY A2 ?_;refine hY c7R ?_;refine hY b0F ?_;refine hY c31 ?_;refine hY W7 ?_;refine hY a5Q ?_;refine a3D ?_;refine qC ?_ ?_<;>intro h2
  .have u2:x.1=e.pl:=U h2;rw[W u2]at hr;refine cF [] [0,1,2,3,4,5,6] (tl:=[(7,[5,6]),(8,[])]) ?_;refine d6E ?_;refine chf G O0 ?_;refine chf G (c7 G c7B) ?_;refine chf G (c7 G (X8 G O G b5G a3L (nb G))) ?_;refine chf G c7h ?_;refine chf G b7Z ?_;refine c84 ?_;refine⟨⟨(by exact c7 G a85),b7V,O⟩,?_⟩;refine a5x ?_;refine c6 ?_;exact⟨_,o9 (rs:=[.cell 4 99,.tmp 5]) (cs:=[_,_]) G d4w (n_5 G),_,_,G,G,(by rw[hr];exact .tups ⟨.old (j5 (Src.pure _)).old,.old (.val _),O⟩)⟩
  .have u2:¬x.1=e.pl:=U h2;rw[H u2]at hr;exact b2d
 .have aL:L.length<=i:=sm_ h1;rw[a0V aL]at hr;refine o6 ?_;refine u e2M ?_;refine c4V ?_;exact⟨_,o9 (rs:=[.cell 4 99,.tmp 5]) (cs:=[_,_]) G d4w (n_5 G),_,_,G,G,(by rw[hr];exact .tups ⟨.old (j5 (Src.pure Src.z)).old,.old (.val _),O⟩)⟩
def d6b(L:List (D×Src))(k:Int)(p o:D):Prop:=¬(fiE L k p o).ct=0->¬1< (fiE L k p o).ct->∃(s:Src) (d:De) (i:Nat),b0z L (fiE L k p o)=(s,(i:Int))/\a1b s/\s.decls[i]?=some d
def e3w(l:D)(fs:List Fi):D:=fs.foldl (λl f=>d5y (d5y l f.p) f.b) l
def c9B(ms:SM)(fl:List Fi)(pkg:D):D:=[61]++e3w [] (d1B ms fl pkg)
end Go.Proofs.YtncmhkpnclafkaaGreatDoor
namespace Go.Proofs
open Go.Shelf
def Tryz.lays190_ren:Go.Shelf.Ren:=⟨λ|190=>185|125=>168|258=>237|128=>216|129=>217|302=>279|303=>280|304=>281|305=>282|306=>283|307=>284|308=>285|309=>286|310=>287|333=>315|329=>258|330=>259|334=>316|335=>317|336=>318|344=>335|n=>n,λ|31=>68|9=>9|3=>3|46=>221|0=>0|51=>253|53=>55|4=>4|183=>247|182=>246|131=>188|5=>5|218=>282|222=>286|228=>312|229=>313|n=>n,λ|n=>n⟩
theorem Tryz.lays190:Go.Proofs.Lays.n190 Tryz.prog Tryz.lays190_ren:={
 mixed:=by kernel_rfl
 f125:=c6V.trans (n_7 some w9)
 f128:=c8R.trans (n_7 some w9)
 f129:=d0K.trans (n_7 some w9)
 f190:=Tryz.func185.trans (n_7 some w9)
 f258:=Tryz.func237.trans (n_7 some w9)
 f302:=Tryz.func279.trans (n_7 some w9)
 f303:=Tryz.func280.trans (n_7 some w9)
 f304:=Tryz.func281.trans (n_7 some w9)
 f305:=Tryz.func282.trans (n_7 some w9)
 f306:=Tryz.func283.trans (n_7 some w9)
 f307:=Tryz.func284.trans (n_7 some w9)
 f308:=Tryz.func285.trans (n_7 some w9)
 f309:=Tryz.func286.trans (n_7 some w9)
 f310:=Tryz.func287.trans (n_7 some w9)
 f329:=c7o.trans (n_7 some w9)
 f330:=d1c.trans (n_7 some w9)
 f333:=Tryz.func315.trans (n_7 some w9)
 f334:=Tryz.func316.trans (n_7 some w9)
 f335:=Tryz.func317.trans (n_7 some w9)
 f336:=Tryz.func318.trans (n_7 some w9)
 f344:=Tryz.func335.trans (n_7 some w9)
 t0:=d0N
 a0:=c9u
 z0:=d0B
 v0:=c9G
 t3:=c2U
 a3:=a5v
 z3:=t_1
 v3:=t_9
 t4:=c9b
 a4:=b9B
 z4:=b4V
 v4:=c3C
 t5:=d0k
 a5:=d1I
 z5:=b4z
 v5:=c42
 t9:=c95
 a9:=a2j
 z9:=t_0
 v9:=t_4
 t31:=Tryz.underlying68
 a31:=b9G
 z31:=a2Q
 v31:=Tryz.zeroValue68
 t46:=c7u
 a46:=c9C
 z46:=c6Z
 v46:=c8Q
 t51:=c8l
 a51:=c7L
 z51:=d0O
 v51:=c6u
 t53:=c1E
 a53:=c3s
 z53:=c2q
 v53:=d2i
 t131:=c7z
 a131:=d0A
 z131:=c7t
 v131:=c8t
 t182:=c9W
 a182:=d1b
 z182:=c8e
 v182:=c72
 t183:=d0g
 a183:=c7F
 z183:=c8y
 v183:=c7q
 t218:=c9x
 a218:=d2B
 z218:=c9q
 v218:=c6r
 t222:=d0r
 a222:=d2f
 z222:=c6k
 v222:=d0C
 t228:=d0V
 a228:=c7n
 z228:=c8W
 v228:=c9I
 t229:=d1z
 a229:=c98
 z229:=d0a
 v229:=c8f}
end Go.Proofs
namespace Go.Proofs.YtncmhkpnclafkaaGreatDoor
open Go Go.Cl
variable{fl:List Fi}{S S1:MS}{c:MC}{x:Ex}{rec:Fr->Int->MS->Rs Int}{F:Fr}{d:De}{s p o path:D}{i B q:Nat}{v:Int}{σ:List b9}{ms:SM}{f:Fi}{e:En}{me:EM}{ks:List Ky}{α:Type}
theorem c8g{k:Nat}{ss:List D}(aB:ss≠[])(ao:ss.length<=1000000)(hk:σ[k]?=some (.vec 1 (ss.map scv))):b8 CC 185 [.vec k 0 ss.length] σ λr τ=>∃_:Unit,r= .ret (.tup [])/\τ=σ.set k (.vec 1 ((a1Y ss).map scv))/\True:=
 (d2n (f:=185) (λblk off cap ss w h1 h2 h3=>b7y Tryz.lays190 blk off cap ss w h1 h2 h3) aB J hk).mono λr τ h=>⟨(),h.1,h.2,O⟩
def e3o(ms:SM)(f:Fi):List D:=((glk ms f.p).getD Src.z).imports
inductive Reach(ms:SM)(fl:List Fi)(pkg:D):D->Prop where
 |base:Reach ms fl pkg pkg
 |step {n:D} {f:Fi} {s:D}:Reach ms fl pkg n->f∈d1B ms fl n->s∈e3o ms f->Reach ms fl pkg s
open Classical in
noncomputable def d8E(ms:SM)(fl:List Fi)(pkg:D):List D:=if h:∃N:List D,N.Nodup/\∀n,n∈N↔Reach ms fl pkg n then a1Y h.choose else []
def e3m(ms:SM)(fl:List Fi)(l:D)(N:List D):D:=N.foldl (λl s=>d5y (d5y l s) (c9B ms fl s)) l
noncomputable def e0X(ms:SM)(fl:List Fi)(pkg:D):D:=[61]++e3m ms fl [] (d8E ms fl pkg)
def d8B(L:List (D×Src)):List D:=L.flatMap λx=>x.2.imports
open Classical in
structure e3E(fl:List Fi)(L:List (D×Src)):Prop where
 hl:fl.length<=1000000
 hL:L.length<=64
 hA:(d8B L).length<=512
 hP:∀x∈L,x.1.length<=1000
 hbl:∀q b,r8 fl q=some b->b.length<=100000
 hd:∀x∈L,x.2.decls.length<=100000
 hi:∀x∈L,∀s∈x.2.imports,s.length<=1000
 ok:∀k p o,d6b L k p o
def er(t:Tok):Tok:=⟨t.k,t.t,t.n,0⟩
structure WOk(fl:List Fi)(ms:SM)(me:EM):Prop where
 len:fl.length<=64
 fb:∀f∈fl,f.p.length<=100/\f.b.length<=100000
 src:∀p s,glk ms p=some s->a1b s
 ent:∀k e,glk me k=some e->b9T ms e
noncomputable def d6g(fl:List Fi)(ms:SM)(me:EM)(ev:List Va)(k:Ky):D:=
 if k.k=1 then a8V ms (p8 true me 1 k.a k.b)else if k.k=2 then a8V ms (p8 true me 2 k.a k.b)else if k.k=3 then a8V ms (p8 true me 3 [] k.a)
 else if k.k=4 then(if(r8 fl k.a).isSome then [61]++(r8 fl k.a).getD []else [45])else if k.k=5 then(if(a6j ev k.a).isSome then [61]++Lib.itoa ((a6j ev k.a).getD 0)else [45])
 else if k.k=6 then c9B ms fl k.a else e0X ms fl k.a
theorem b3j{b:D}(h:r8 fl s=some b):∃f∈fl,f.b=b:=by
 unfold r8 at h;rw[M8]at h;obtain⟨f,hf,rfl⟩:=h;exact⟨f,b8b hf,G⟩
theorem b0X:∀{pv:Option Fi} {l:List Fi},rvE pv l=0->(∀g,pv=some g->∀f∈l,g.p <f.p)/\l.Pairwise λa b=>a.p <b.p
 |_,[],_=>⟨λ_ _ f hf=>(by cases hf),List.Pairwise.nil⟩
 |pv,x::l,h=>by
  rw[rvE]at h;split at h
  .rename_i hs;obtain⟨h1,h2⟩:=b0X h;have hx:∀g,pv=some g->g.p <x.p:=λg hg=>by
    subst hg;unfold I1 at hs;split at hs
    .cases hs
    .split at hs
     .cases hs
     .rename_i h3;split at hs
      .cases hs
      .rename_i h4;simp only[Option.any_some,a5J]at h3 h4;rw[bytesLess_eq,a5J]at h4
       rcases List.le_total g.p x.p with h5|h5
       .rcases Decidable.em (g.p <x.p)with h6|h6
        .exact h6
        .exact absurd (List.le_antisymm h5 (List.not_lt.1 h6)).symm h3
       .rcases Decidable.em (g.p <x.p)with h6|h6
        .exact h6
        .exact absurd (List.le_antisymm h5 (List.not_lt.1 h4)) h3
   refine⟨λg hg f hf=>?_,.cons (λf hf=>h1 x G f hf) h2⟩
   rcases I0.1 hf with rfl|hf
   .exact hx g hg
   .exact List.lt_trans (hx g hg) (h1 x G f hf)
  .rename_i hs;exact absurd h hs
structure WI(seen:List D)(ms:SM)(me:EM):Prop where
 src:∀p x,glk ms p=some x->a1b x/\p∈seen
 ent:∀k e,glk me k=some e->1<=e.ct/\b9T ms e
theorem b6L{ms:SM}{path:D}{x:Src}(hg:glk ms path=some x)(hx:a1b x):∀(n k:Nat) (me:EM),x.decls.length -k=n->(∀k e,glk me k=some e->1<=e.ct/\b9T ms e)->∀q e,glk (addDs me path x.pkg (x.decls.drop k) k) q=some e->1<=e.ct/\b9T ms e
 |0,k,me,hn,h,q,e,he=>by
  rw[a0V J,addDs]at he;exact h q e he
 |n+1,k,me,hn,h,q,e,he=>by
  obtain⟨d,hd⟩:=gx_ x.decls k;rw[a3P hd]at he;refine b6L hg hx n (k+1) _ J (λq e he=>?_) q e he;rw[a0a,G3]at he;split at he
  .injection he with he
   subst he
   split
   .rename_i f hf;obtain⟨h1,_⟩:=h _ _ hf;exact⟨by simp only;omega,λhc=>by simp only at hc;omega⟩
   .exact ⟨a5E _,λ_=>⟨x,d,k,hg,hx,G,hd⟩⟩
  .exact h q e he
theorem b9T.put{x:Src}(h:b9T ms e)(hp:glk ms path=none):b9T (G6 ms path x) e:=λhc=>by
 obtain⟨s,d,i,h1,h2⟩:=h hc;refine⟨s,d,i,?_,h2⟩;rw[G3,H]
 .exact h1
 .intro he;rw[he,hp]at h1;cases h1
theorem d0W{seen:List D}{s:WS}(h:WI seen s.2.1 s.2.2)(hf:f.p∉seen):WI (f.p::seen) (P7 s f).2.1 (P7 s f).2.2:=by
 have hw:WI (f.p::seen) s.2.1 s.2.2:=⟨λp x hp=>⟨(h.src p x hp).1,a4a _ (h.src p x hp).2⟩,h.ent⟩;unfold P7
 split
 .split
  .exact hw
  .rename_i x hx;have hn:glk s.2.1 f.p=none:=by
    cases hg:glk s.2.1 f.p with
    |none=>rfl
    |some y=>exact absurd (h.src _ _ hg).2 hf
   have dM:=a5q hx;refine⟨λp y hp=>?_,?_⟩
   .simp only[G3]at hp;split at hp
    .rename_i e;injection hp with hp
     subst hp;exact⟨dM,by rw[e];simp⟩
    .exact ⟨(h.src p y hp).1,a4a _ (h.src p y hp).2⟩
   .have hg:glk (G6 s.2.1 f.p x) f.p=some x:=by rw[G3,W G]
    have:=b6L hg dM _ 0 s.2.2 G (λk e he=>⟨(h.ent k e he).1,(h.ent k e he).2.put hn⟩);simpa using this
 .exact hw
theorem c2z:∀{l:List Fi} {seen:List D} {s:WS},WI seen s.2.1 s.2.2->(∀f∈l,f.p∉seen)->(l.Pairwise λa b=>a.p <b.p)->∃jc,WI jc (a4X l s).2.1 (a4X l s).2.2
 | [],seen,s,h,_,_=>⟨seen,h⟩
 |f::l,seen,s,h,hn,hp=>by
  have h1:=d0W h (hn f Q);refine c2z (l:=l) h1 (λg hg hm=>?_) (a2N.1 hp).2
  rcases I0.1 hm with hm|hm
  .have:=(a2N.1 hp).1 g hg;rw[hm]at this;exact absurd this (b7n _)
  .exact hn g (by simp[hg]) hm
theorem c3M(h:B4 fl=0):WOk fl (w8 fl).2.1 (w8 fl).2.2:=by
 obtain⟨h1,h2⟩:=U1 h;have h0:rvE none fl=0:=by
  unfold B4 at h;split at h
  .cases h
  .exact h
 obtain⟨seen,h3⟩:=c2z (l:=fl) (seen:=[]) (s:=([],[],[])) ⟨λp x hp=>(by cases hp),λk e he=>(by cases he)⟩ (λf _ hm=>(by cases hm)) (b0X h0).2;rw[w8,W h];exact⟨h1,λf hf=>by have:=a1I (h2 f hf).1;have:=(h2 f hf).2;omega,λp s hp=>(h3.src p s hp).1,λk e he=>(h3.ent k e he).2⟩
theorem c67{k:Ky}(h:N9 k=true):(k.k=1\/k.k=2\/k.k=3\/k.k=4\/k.k=5\/k.k=6\/k.k=7)/\k.a.length<=100:=by
 unfold N9 at h;split at h
 .rename_i h1;simp only[a9J,beq_iff_eq]at h1;simp only[R9]at h;have:=a5r h.1;exact⟨J,J⟩
 .split at h
  .rename_i h1;simp only[a9J,beq_iff_eq]at h1;simp only[R9]at h;have:=a1I h.1;exact⟨J,J⟩
  .split at h
   .rename_i h1;simp only[a9J,beq_iff_eq]at h1;simp only[R9]at h;have:=a5r h.1;exact⟨J,J⟩
   .cases h
def a32(f:Fi):Option Src:=if a35 f.p=true then N1 f.b else none
def deK(x:Src)(d:De):Nm:=A9 d.k x.pkg d.name
def c0c(q:Nm)(f:Fi):List (Src×De):=match a32 f with
 |none=>[]
 |some x=>(x.decls.filter λd=>decide (deK x d=q)).map λd=>(x,d)
def occ(q:Nm)(fl:List Fi):List (Src×De):=fl.flatMap (c0c q)
noncomputable def d0P:List (Src×De)->D
 | []=>[45]
 | [(x,d)]=>[61]++d7i x d
 |_=>[63]
def a7U(ms:SM)(o:Option En):List (Src×De)->Prop
 | []=>o=none
 |(x,d)::t=>∃e,o=some e/\e.ct=1+(t.length:Int)/\glk ms e.pl=some x/\0<=e.ix/\x.decls[e.ix.toNat]?=some d
theorem a7U.add{Jb:Nm->List (Src×De)}(h:∀q,a7U ms (glk me q) (Jb q)){x:Src}(hg:glk ms path=some x)(hd:x.decls[i]?=some d)(q:Nm):a7U ms (glk (a0a me ⟨x.pkg,d.name,d.k,path,(i:Int),1⟩) q) (Jb q++if deK x d=q then [(x,d)]else []):=by
 rw[a0a,G3];show a7U ms (if q=A9 d.k x.pkg d.name then _ else _) _;by_cases hq:deK x d=q
 .rw [W hq];subst hq;have h1:=h (deK x d);rw[W (show deK x d=A9 d.k x.pkg d.name from G)];cases hO:Jb (deK x d)with
  |nil=>
   rw[hO]at h1;have h1:glk me (A9 d.k x.pkg d.name)=none:=h1;simp only[h1];exact⟨_,G,G,hg,Int.natCast_nonneg _,U hd⟩
  |cons y t=>
   obtain⟨y,z⟩:=y;rw[hO]at h1;obtain⟨e,h2,h3,h4,h5,h6⟩:=h1;have h2:glk me (A9 d.k x.pkg d.name)=some e:=h2;simp only[h2];refine⟨_,G,?_,h4,h5,h6⟩;show e.ct+1=1+((t++[(x,d)]).length:Int);rw[h3,n_9];simp only[J5,a1D];omega
 .rw [H hq,a0h];rw[H (λe=>hq e.symm)];exact h q
theorem a7U.addDs{ms:SM}{path:D}{x:Src}(hg:glk ms path=some x):∀(n k:Nat) (me:EM) (Jb:Nm->List (Src×De)),x.decls.length -k=n->(∀q,a7U ms (glk me q) (Jb q))->∀q,a7U ms (glk (addDs me path x.pkg (x.decls.drop k) k) q) (Jb q++(((x.decls.drop k).filter λd=>decide (deK x d=q)).map λd=>(x,d)))
 |0,k,me,Jb,hn,h,q=>by
  rw[a0V J,Go.Proofs.YtncmhkpnclafkaaGreatDoor.addDs];simpa using h q
 |n+1,k,me,Jb,hn,h,q=>by
  obtain⟨d,hd⟩:=gx_ x.decls k;rw[a3P hd];have h1:=a7U.addDs hg n (k+1) _ _ J (λq=>a7U.add h hg hd q) q;have hdr:x.decls.drop k=d::x.decls.drop (k+1):=by
   obtain⟨ai,rfl⟩:=n_2.1 hd;exact a0v ai
  rw[hdr,b2p];by_cases hq:deK x d=q
  .rw [W (U hq),a8C];rw[W hq,T5]at h1;exact h1
  .rw [H (U hq)];rw[H hq,a0h]at h1;exact h1
theorem a7U.put{o:Option En}{l:List (Src×De)}{x:Src}(h:a7U ms o l)(hp:glk ms path=none):a7U (G6 ms path x) o l:=by
 rcases l with _|⟨⟨y,d⟩,t⟩
 .exact h
 .obtain ⟨e,h1,h2,h3,h4⟩:=h;refine⟨e,h1,h2,?_,h4⟩;rw[G3,H]
  .exact h3
  .intro he;rw[he,hp]at h3;cases h3
structure WRd(dn:List Fi)(ms:SM)(me:EM):Prop where
 src:∀f∈dn,glk ms f.p=a32 f
 non:∀p,(∀f∈dn,f.p≠p)->glk ms p=none
 ent:∀q,a7U ms (glk me q) (occ q dn)
theorem WRd.step{dn:List Fi}{s:WS}(h:WRd dn s.2.1 s.2.2)(hf:∀g∈dn,g.p≠f.p):WRd (dn++[f]) (P7 s f).2.1 (P7 s f).2.2:=by
 have hnone:=h.non f.p hf;have hocc:∀q,occ q (dn++[f])=occ q dn++c0c q f:=λq=>by simp[occ]
 cases hs:a32 f with
 |none=>
  have hw:(P7 s f).2=s.2:=by
   unfold P7;unfold a32 at hs
   split
   .rename_i h1;rw[W h1]at hs;rw[hs]
   .rfl
  have e1:(P7 s f).2.1=s.2.1:=by rw[hw]
  have e2:(P7 s f).2.2=s.2.2:=by rw[hw]
  rw[e1,e2];refine⟨λg hg=>?_,λp hp=>h.non p λg hg=>hp g (by simp[hg]),λq=>?_⟩
  .rcases Q9.1 hg with hg|hg
   .exact h.src g hg
   .rw [a0r.1 hg,hs];exact hnone
  .rw [hocc,c0c,hs,a0h];exact h.ent q
 |some x=>
  have hw:(P7 s f).2=(G6 s.2.1 f.p x,addDs s.2.2 f.p x.pkg x.decls 0):=by
   unfold P7;unfold a32 at hs;split at hs
   .rename_i h1;rw[W h1,hs]
   .cases hs
  have e1:(P7 s f).2.1=G6 s.2.1 f.p x:=by rw[hw]
  have e2:(P7 s f).2.2=addDs s.2.2 f.p x.pkg x.decls 0:=by rw[hw]
  rw[e1,e2];refine⟨λg hg=>?_,λp hp=>?_,λq=>?_⟩
  .rw [G3]
   rcases Q9.1 hg with hg|hg
   .rw [H (hf g hg)];exact h.src g hg
   .rw [a0r.1 hg,W G,hs]
  .rw [G3,H (λe=>hp f Q e.symm)];exact h.non p λg hg=>hp g (by simp[hg])
  .rw [hocc,c0c,hs];have hg:glk (G6 s.2.1 f.p x) f.p=some x:=by rw[G3,W G]
   have:=a7U.addDs hg _ 0 s.2.2 (λq=>occ q dn) G (λq=>(h.ent q).put hnone) q;simpa using this
theorem WRd.all:∀{l dn:List Fi} {s:WS},WRd dn s.2.1 s.2.2->(l.Pairwise λa b=>a.p≠b.p)->(∀g∈dn,∀f∈l,g.p≠f.p)->WRd (dn++l) (a4X l s).2.1 (a4X l s).2.2
 | [],dn,s,h,_,_=>by simpa[a4X]using h
 |f::l,dn,s,h,hp,hd=>by
  have h1:=h.step (f:=f) λg hg=>hd g hg f Q;obtain⟨gj,cw⟩:=a2N.1 hp;have:=WRd.all (l:=l) h1 cw (λg hg e he=>by
   rcases Q9.1 hg with hg|hg
   .exact hd g hg e (by simp[he])
   .rw [a0r.1 hg];exact gj e he)
  rw[T5]at this;exact this
theorem d6N(h:B4 fl=0):fl.Pairwise λa b=>a.p≠b.p:=by
 have h0:rvE none fl=0:=by
  unfold B4 at h;split at h
  .cases h
  .exact h
 exact(b0X h0).2.imp λ{a b} bZ he=>by rw[he]at bZ;exact b7n _ bZ
theorem b0d(h:B4 fl=0):WRd fl (w8 fl).2.1 (w8 fl).2.2:=by
 have:=WRd.all (l:=fl) (dn:=[]) (s:=([],[],[])) ⟨λf hf=>by simp at hf,λp _=>G,λq=>G⟩ (d6N h) (λg hg=>by simp at hg);rw[w8,W h];simpa using this
theorem c4e{k:Int}(h:glk me (A9 k p o)=none):(p8 true me k p o).ct=0:=by
 unfold p8;rw[W G,h]
theorem a8I(h:B4 fl=0)(k:Int)(p o:D):a8V (w8 fl).2.1 (p8 true (w8 fl).2.2 k p o)=d0P (occ (A9 k p o) fl):=by
 have h1:=(b0d h).ent (A9 k p o);cases hO:occ (A9 k p o) fl with
 |nil=>
  rw[hO]at h1;unfold a8V;rw[W (c4e h1)];rfl
 |cons y t=>
  obtain⟨x,d⟩:=y;rw[hO]at h1;obtain⟨e,h2,h3,h4,h5,h6⟩:=h1;have he:p8 true (w8 fl).2.2 k p o=e:=by
   unfold p8;rw[W G,h2]
  rw[he];unfold a8V;rw[H J];cases t with
  |nil=>
   rw[W (U h3)];unfold d7n;rw[h4];simp only[n_8,h6,b8V,b8K];rfl
  |cons z t=>
   rw[H (by rw[h3,J5];omega)];rfl
theorem c85:∀{l:List Fi} {pv:Option Fi},(∀f∈l,F6 f.p=true/\f.b.length<=16384)->c4o l->(∀g,pv=some g->∀f∈l,Op.bytesLess g.p f.p=true)->rvE pv l=0
 | [],_,_,_,_=>rfl
 |f::l,pv,h,hs,hp=>by
  obtain⟨h1,h2⟩:=a2N.1 hs;have hf:=h f Q;have e0:I1 pv f=0:=by
   unfold I1;rw[H (by rw[hf.1];simp)];cases pv with
   |none=>
    rw[H Q,H Q,H J]
   |some g=>
    have hg:=hp g G f Q;have aB:¬f.p=g.p:=λe=>by rw[e,b4G]at hg;cases hg
    have hnl:¬Op.bytesLess f.p g.p=true:=λe=>by
     have:=a64 hg e;rw[b4G]at this;cases this
    rw[H (U aB),H (U hnl),H J]
  rw[rvE,W e0];exact c85 (λg hg=>h g (by simp[hg])) h2 λg hg=>by injection hg with hg;subst hg;exact h1
theorem b8M:∀s∈a3r,F6 s=true/\s.length<=1000:=by decide
theorem L3.valid(h:L3 B fl)(hB:B<=16384):B4 fl=0:=by
 have hl:=h.len;unfold B4;rw[H J];exact c85 (λf hf=>⟨(b8M _ (h.pth f hf)).1,a1F (h.byt f hf) hB⟩) h.srt λg hg=>by cases hg
theorem L3.plen(h:L3 B fl):∀f∈fl,f.p.length<=1000000000:=λf hf=>by
 have:=(b8M _ (h.pth f hf)).2;omega
theorem e2c:∀m:Nat,m<3->([122]++a4Y m++[46,115,114,99]:D)∈a3r:=λm hm=>by
 have h3:m=0\/m=1\/m=2:=by omega
 rcases h3 with rfl|rfl|rfl<;>rw[a6Z J]<;>decide
theorem c6R(l:List Int)(nn:Bool)(k:Nat)(bg:k<=500000000)(hl:l.length<=maxLen)(B:Nat)(hB:6300<=B/\B<=1000000)(fl:List Fi)(hm:L3 B fl):b8 CC 8 [.ptr 0 0,(.agg (A0 fl (gnn fl.length)))] [r9 l nn k] λr τ=>∃a:List Fi×Nat,C9 1 τ r (.ret (.agg (A0 a.1 (gnn a.1.length)))) [r9 l nn a.2]/\(L3 (B+1240) a.1/\k<=a.2/\a.2<=k+1080):=by
 refine cO Tryz.func8 ?_;refine qs 2 (qD (F4 G O j1 i9 ?_));refine qD (j6 G b6o G i9 ?_);refine u (c5 G Tryz.call28 trivial (a7B _) G) ?_;refine qD (c4 G a5L j2 (J7 l nn (k) _ 0 G J hl H7 I I) G ?_);intro sp aj;have hspa:=c3n _ aj;have hml:=hm.len;refine a5n hCC (α:=Nat) (λ_=>[(0,.ptr 0 0),(3,.ptr 1 0),(4,.ptr 2 0),(5,(sv sp))]) (λp=>[r9 l nn (p),.box (A0 fl (gnn fl.length)),.box (A0 [] false)]) (λp=>p=k+2) D5 uz_ ?_ ?_
 .
  refine qk (qD (c4 G a7H m0 (J3 l nn (k+1) _ 0 G J hl 9 J) G ?_));intro _ _;refine qC ?_ ?_<;>intro h1
  .refine cF [] [0,1,2,4] (tl:=[(3,[0,3]),(5,[0]),(6,[0]),(7,[]),(8,[])]) ?_;refine c2I ?_;refine chf G (c7 G e2C) ?_;refine b3e ?_;refine B1 G G G (c4 G a5L j2 (J7 l nn (k+2) _ 0 G J hl a1G I I) G ?_);intro v hv;refine⟨⟨a1y,C3,O⟩,?_⟩;refine B1 G G G (c4 G Tryz.call30 ⟨O,O⟩ (c3q l nn (k+3) J hl _ 0 G) G ?_);intro⟨s,p4⟩ ⟨hs,bE,bS⟩;dsimp only at hs bE bS⊢;refine⟨⟨a1y,O⟩,?_⟩;refine C7 G G d4C ⟨⟨a1y,O⟩,?_⟩;refine C7 G G (c7 G (c5 G c01 j2 (a0S fl _ ⟨v,s⟩ J _) G)) ⟨O,?_⟩;refine z_9 ?_;refine b5o ?_;exact⟨_,B7 G a3U,⟨(a5F fl ⟨v,s⟩,p4),a2k G Q6 (.old (Q0 _ _).old),(hm.mono J).ins (c3w _ hv) do_,do_,do_⟩⟩
  .refine qC ?_ ?_<;>intro h2
   .refine cF [] [0,1,2] (tl:=[(3,[0]),(4,[]),(5,[])]) ?_;refine c2I ?_;refine chf G (c7 G (A6 (([[97,46,100,97,116],[100,47,98,46,100,97,116],[99],[97,46,115,114,99],[98,46,115,114,99]]:List D).map scv) G ⟨G,G,G,G,G,O⟩ t_2 t_0 t_4 G G G G G G G G G)) ?_;refine F2 ?_;refine B1 G G G (c4 G a5L j2 (J7 l nn (k+2) _ 0 G J hl ([[97,46,100,97,116],[100,47,98,46,100,97,116],[99],[97,46,115,114,99],[98,46,115,114,99]]:List D) I I) G ?_);intro v hv;refine⟨⟨a1y,O⟩,?_⟩;refine C7 G G (c7 G (c5 G Tryz.call31 j2 (b29 fl _ v J _) G)) ⟨O,?_⟩;refine z_9 ?_;refine b5o ?_;exact⟨_,B7 G a3U,⟨(a4w fl v,k+3),a2k G Q6 (.old (Q0 _ _).old),(hm.mono J).rem v,do_,do_⟩⟩
   .refine qC ?_ ?_<;>intro h3
    .refine e0F ?_;refine a9F ?_;refine chf G O0 ?_;refine chf G c6G ?_;refine d7Z ?_;intro v hv;have di:v.length<=8:=P1 (.inl hv);refine d7B ?_;intro⟨s,p4⟩ ⟨hs,bE,bS⟩;dsimp only at hs bE bS⊢;refine d7a ?_;refine z_9 ?_;exact d8h
    .refine qC ?_ ?_<;>intro h4
     .refine u a2E ?_;refine u0 hCC (λi:Nat=>[(0,.ptr 0 0),(3,.ptr 1 0),(4,.ptr 2 0),(5,(sv sp)),(50,(.list (fl.map Fi.cv) (gnn fl.length) none)),(51,iv fl.length),(52,iv i)]) (λ_=>[r9 l nn (k+2),.box (A0 fl (gnn fl.length)),.box (A0 [] false)]) (λi=>i<=fl.length) (λi=>fl.length -i) 0 (n_4 _) tu_ (au:=[]) G D5 uz_ ?_;intro i hi;refine qk (qC ?_ ?_)<;> intro h5
      .have ai:i<fl.length:=sm_ h5;obtain⟨y,hb,gG⟩:=a3J ai;have hyb:=hm.byt y gG;refine b3O ?_;refine qC ?_ ?_<;>intro h6
       .have cZ:(a4w fl sp).length<=fl.length:=b7p _ _;have hb3:=a23 (l:=l) (k:=k+2) (n:=3) J;obtain⟨m,bV⟩:∃m:Nat,L8 l (k+2) 3=(m:Int):=⟨(L8 l (k+2) 3).toNat,J⟩;have gg:m<3:=by omega
        have hzp:=e2c m gg;have fm:=a2d 0 m J;refine cF [] [0,1,2,3,8,9] (tl:=[(4,[4,5]),(5,[4,5]),(6,[4,5]),(7,[4,5]),(10,[]),(11,[]),(12,[])]) ?_;refine c2I ?_;refine chf G (c7 G (c5 G Tryz.call31 j2 (b29 fl _ sp J _) G)) ?_;refine chf G O0 ?_;refine b6X ?_;refine F2 ?_;refine B1 G G G (c4 G a7H m0 (J3 l nn (k+2) _ 0 G J hl 3 J) G ?_);intro _ _;rw[bV];refine⟨⟨a7J,a27,O⟩,?_⟩;refine C7 G G (c7 G c2h) ⟨⟨a7J,a27,O⟩,?_⟩;refine C7 G G (c7 G b1D) ⟨⟨a7J,a27,O⟩,?_⟩;refine C7 G G c2Q ⟨⟨a7J,a27,O⟩,?_⟩;refine C7 G G d4C ⟨O,?_⟩;refine C7 G G (c7 G (c5 G c01 j2 (a0S (a4w fl sp) _ ⟨[122]++a4Y m++[46,115,114,99],y.b⟩ J _) G)) ⟨O,?_⟩;refine z_9 ?_;refine b5o ?_;exact⟨_,B7 G a3U,⟨(a5F (a4w fl sp) ⟨[122]++a4Y m++[46,115,114,99],y.b⟩,k+3),a2k G Q6 (.old (Q0 _ _).old),((hm.mono J).rem sp).ins hzp do_,do_,do_⟩⟩
       .exact d3R
      .exact c1X
     .refine qC ?_ ?_<;>intro h7
      .refine u a2E ?_;refine u0 hCC (λi:Nat=>[(0,.ptr 0 0),(3,.ptr 1 0),(4,.ptr 2 0),(5,(sv sp)),(76,(.list (fl.map Fi.cv) (gnn fl.length) none)),(77,iv fl.length),(78,iv i)]) (λ_=>[r9 l nn (k+2),.box (A0 fl (gnn fl.length)),.box (A0 [] false)]) (λi=>i<=fl.length) (λi=>fl.length -i) 0 (n_4 _) tu_ (au:=[]) G D5 uz_ ?_;intro i hi;refine qk (qC ?_ ?_)<;> intro h8
       .have ai:i<fl.length:=sm_ h8;obtain⟨y,hb,gG⟩:=a3J ai;have hyb:=hm.byt y gG;refine b3O ?_;refine qC ?_ ?_<;>intro h9
        .have hb3:=a23 (l:=l) (k:=k+2) (n:=100) J;obtain⟨m,bV⟩:∃m:Nat,L8 l (k+2) 100=(m:Int):=⟨(L8 l (k+2) 100).toNat,J⟩;have gg:m<100:=by omega
         have fm:=a2d 1 m J;refine cF [] [0,1,2,7,8] (tl:=[(3,[0,1,3,4]),(4,[0,1,3,4]),(5,[0,1,3,4]),(6,[0,1,3,4]),(9,[0,1]),(10,[0]),(11,[]),(12,[])]) ?_;refine chf G a7P ?_;refine a9F ?_;refine b6X ?_;refine F2 ?_;refine B1 G G G (c4 G a7H m0 (J3 l nn (k+2) _ 0 G J hl 100 J) G ?_);intro _ _;rw[bV];refine⟨⟨a1y,C3,a7J,a27,O⟩,?_⟩;refine C7 G G (c7 G c2h) ⟨⟨a1y,C3,a7J,a27,O⟩,?_⟩;refine C7 G G (c7 G b1D) ⟨⟨a1y,C3,a7J,a27,O⟩,?_⟩;refine C7 G G c2Q ⟨⟨a1y,C3,a7J,a27,O⟩,?_⟩;refine d7K ?_;refine C7 G G (c7 G (c5 G c01 j2 (a0S fl _ ⟨sp,[35,32]++a4Y m++[10,32,32]++y.b⟩ J _) G)) ⟨O,?_⟩;refine z_9 ?_;refine b5o ?_;exact⟨_,B7 G a3U,⟨(a5F fl ⟨sp,[35,32]++a4Y m++[10,32,32]++y.b⟩,k+3),a2k G Q6 (.old (Q0 _ _).old),(hm.mono J).ins (hspa) b7C,do_,do_⟩⟩
        .exact d3R
       .exact c1X
      .refine qC ?_ ?_<;>intro bL
       .refine u a2E ?_;refine u0 hCC (λi:Nat=>[(0,.ptr 0 0),(3,.ptr 1 0),(4,.ptr 2 0),(5,(sv sp)),(102,(.list (fl.map Fi.cv) (gnn fl.length) none)),(103,iv fl.length),(104,iv i)]) (λ_=>[r9 l nn (k+2),.box (A0 fl (gnn fl.length)),.box (A0 [] false)]) (λi=>i<=fl.length) (λi=>fl.length -i) 0 (n_4 _) tu_ (au:=[]) G D5 uz_ ?_;intro i hi;refine qk (qC ?_ ?_)<;> intro eY
        .have ai:i<fl.length:=sm_ eY;obtain⟨y,hb,gG⟩:=a3J ai;have hyb:=hm.byt y gG;refine b3O ?_;refine qC ?_ ?_<;>intro fo
         .refine u a5Y ?_;refine u (z8 #[(0,1),(1,1)] G j2 b6g a9H G ⟨_,G⟩ (λw=>by kernel_rfl) G G) ?_;refine u (c5 G c01 j2 (a0S fl _ ⟨sp,y.b++[102,117,110,99]⟩ J _) G) ?_;refine c5b ?_;exact⟨_,B7 G a3U,⟨(a5F fl ⟨sp,y.b++[102,117,110,99]⟩,k+2),a2k G Q6 (.old (Q0 _ _).old),(hm.mono J).ins (hspa) b7C,do_,do_⟩⟩
         .exact d3R
        .exact c1X
       .exact ⟨(k+2),_,G,tu_,G⟩
 .intro p hp;subst hp;refine a5n hCC (α:=Nat) (λ_=>[(0,.ptr 0 0),(3,.ptr 1 0),(4,.ptr 2 0),(5,(sv sp))]) (λp=>[r9 l nn (p),.box (A0 fl (gnn fl.length)),.box (A0 [] false)]) (λp=>p=k+2) D5 uz_ ?_ ?_
  .
   refine qk (u a2E ?_);refine u0 hCC (λi:Nat=>[(0,.ptr 0 0),(3,.ptr 1 0),(4,.ptr 2 0),(5,(sv sp)),(121,(.list (fl.map Fi.cv) (gnn fl.length) none)),(122,iv fl.length),(123,iv i)]) (λ_=>[r9 l nn (k+2),.box (A0 fl (gnn fl.length)),.box (A0 [] false)]) (λi=>i<=fl.length) (λi=>fl.length -i) 0 (n_4 _) tu_ (au:=[]) G D5 uz_ ?_;intro i hi;refine qk (qC ?_ ?_)<;> intro dR
   .have ai:i<fl.length:=sm_ dR;obtain⟨y,hb,gG⟩:=a3J ai;have hyb:=hm.byt y gG;refine b3O ?_;refine qC ?_ ?_<;>intro ie
    .refine cF [] [0,1,2,3,4] (tl:=[(5,[0,1,2,3]),(6,[0,1]),(7,[0]),(8,[]),(9,[])]) ?_;refine c2I ?_;refine b6X ?_;refine b3e ?_;refine B1 G G G (c4 G Tryz.call35 ⟨O,O⟩ (c1C l nn (k+2) J hl _ 0 G) G ?_);intro⟨s,p4⟩ ⟨hs,bE,bS⟩;dsimp only at hs bE bS⊢;refine⟨⟨a1y,C3,a7J,a27,O⟩,?_⟩;refine d7K ?_;refine C7 G G (c7 G (c5 G c01 j2 (a0S fl _ ⟨sp,y.b++s⟩ J _) G)) ⟨O,?_⟩;refine z_9 ?_;refine b5o ?_;exact⟨_,B7 G a3U,⟨(a5F fl ⟨sp,y.b++s⟩,p4),a2k G Q6 (.old (Q0 _ _).old),(hm.mono J).ins (hspa) (by show List.length _<=_;simp only[n_9];omega),do_,do_⟩⟩
    .exact d3R
   .exact c1X
  .intro p hp;subst hp;refine qk ?_;refine e0F ?_;refine a9F ?_;refine chf G O0 ?_;refine chf G c6G ?_;refine d7Z ?_;intro v hv;have di:v.length<=8:=P1 (.inl hv);refine d7B ?_;intro⟨s,p4⟩ ⟨hs,bE,bS⟩;dsimp only at hs bE bS⊢;refine d7a ?_;refine z_9 ?_;exact d8h
theorem d5N(l:List Int)(nn:Bool)(k:Nat)(bg:k<=500000000)(hl:l.length<=maxLen)(B:Nat)(hB:6300<=B/\B<=1000000)(fl:List Fi)(hm:L3 B fl)(σ:List b9)(q:Nat)(hq:σ[q]?=some (r9 l nn k)):b8 CC 8 [.ptr q 0,(.agg (A0 fl (gnn fl.length)))] σ λr τ=>∃a:List Fi×Nat,r= .ret (.agg (A0 a.1 (gnn a.1.length)))/\τ=σ.set q (r9 l nn a.2)/\(L3 (B+1240) a.1/\k<=a.2/\a.2<=k+1080):=
 a6L (c:=λa:List Fi×Nat=>(.agg (A0 a.1 (gnn a.1.length)))) (S:=λa=>r9 l nn a.2) hCC (λa h=>by simp at h;subst h;exact Q0 _ _) (λ_=>Q0 _ _) (λ_=>G0 _ _ _) (G0 _ _ _) G (c6R l nn k bg hl B hB fl hm) σ q hq
def V6:List D:=[[109],[110]]
structure a8X(ev:List Va):Prop where
 sub:(ev.map Va.n).Sublist V6
 rng:∀v∈ev,-9007199254740992<=v.v/\v.v<=9007199254740992
theorem a8X.len{ev:List Va}(h:a8X ev):ev.length<=2:=by
 have:=h.sub.length_le;rw[N0]at this;exact this
theorem e3s{l:List D}(h:l.Sublist V6):l=[]\/l=[[109]]\/l=[[110]]\/l=[[109],[110]]:=by
 rw[V6]at h
 rcases List.sublist_cons_iff.1 h with h|⟨r,h1,h⟩<;>rcases List.sublist_cons_iff.1 h with h|⟨r',h2,h⟩<;>simp at h<;>subst h<;>simp_all
theorem a8X.valid{ev:List Va}(h:a8X ev):a7m ev=true:=by
 have hl:=h.len;have hr:=h.rng;have d1:C0 [109]=true:=G;have d2:C0 [110]=true:=G
 rcases e3s h.sub with h1|h1|h1|h1
 .have:ev=[]:=U h1;subst this;rfl
 .rcases ev with _|⟨x,_|⟨y,t⟩⟩<;>simp at h1
  have r1:=hr x Q;simp[a7m,evB,a0L,h1,d1,r1.1,r1.2]
 .rcases ev with _|⟨x,_|⟨y,t⟩⟩<;>simp at h1
  have r1:=hr x Q;simp[a7m,evB,a0L,h1,d2,r1.1,r1.2]
 .rcases ev with _|⟨x,_|⟨y,_|⟨z,t⟩⟩⟩<;>simp at h1
  have r1:=hr x Q;have r2:=hr y Q;have d3:Op.bytesLess [110] [109]=false:=G;simp[a7m,evB,a0L,h1.1,h1.2,d1,d2,d3,r1.1,r1.2,r2.1,r2.2]
theorem c9E(ev:List Va)(nn:Bool):o8 (.agg (a1o ev nn)):=j5 (cs:=a1o _ _) ⟨a26 _ _,O⟩
theorem d3u{L:Nat}{am:List Nat}{l:List Va}{nn:Bool}{tok:Option Nat}:B5 L am (.agg [.list (l.map Va.cv) nn tok]) (.agg (a1o l nn)):=
 .agg G λi c c' h h'=>by
  rcases i with _|i
  .injection h with h;injection h' with h';subst h h';exact V4 (f:=Va.cv) Va.pure _
  .cases h
theorem a9D(l:List Int)(nn:Bool)(k:Nat)(bg:k<=500000000)(hl:l.length<=maxLen):b8 CC 9 [.ptr 0 0] [r9 l nn k] λr τ=>∃a:List Va×Nat,C9 1 τ r (.ret (.agg (a1o a.1 (gnn a.1.length)))) [r9 l nn a.2]/\(a8X a.1/\k<=a.2/\a.2<=k+4):=by
 refine qO Tryz.func9 ?_;refine qD (j6 G c2m G i9 ?_);refine qD (j6 G c2m G i9 ?_);refine u (A6 (V6.map scv) G ⟨G,G,O⟩ t_2 t_0 t_4 G G G G G G G G G) ?_;refine u P0 ?_;refine B3 hCC 3 G (α:=List Va×Nat×Nat) (λx=>[(0,.ptr 0 0),(2,.ptr 1 0),(3,.ptr 2 0),(6,(.list (V6.map scv) true none)),(7,iv V6.length),(8,iv x.2.2)]) (λx=>[r9 l nn x.2.1,.box (a1o [] false),.box [(.list (x.1.map Va.cv) (gnn x.1.length) (D6 x.1.length 3))],l8 x.1.length]) (λx=>x.2.2<=V6.length/\x.1.length<=x.2.2/\(x.1.map Va.n).Sublist (V6.take x.2.2)/\(∀v∈x.1,-9007199254740992<=v.v/\v.v<=9007199254740992)/\k<=x.2.1/\x.2.1<=k+x.2.2*2) (λx=>V6.length -x.2.2) ⟨([],k,0),[0,1,2,9],⟨n_4 _,n_4 _,.slnil,(λv hv=>by cases hv),n_6 _,n_6 _⟩,⟨G,G⟩,ut_,⟨.inr ⟨_,G,.same G Q6⟩,.inr ⟨_,G,.same G (x9 ⟨X9 _ ([]:List Va) _,O⟩)⟩,.inr ⟨_,G,.box ⟨.same G (X9 _ ([]:List Va) _),O⟩⟩,.inl G,O⟩⟩ ?_;intro⟨ev,p,i⟩ ⟨hi,gS,hs,hr,gj,cw⟩;dsimp only at hi gS hs hr gj cw⊢;have hL:V6.length=2:=G;refine qk (qC ?_ ?_)<;> intro h1
 .have ai:i<V6.length:=sm_ h1;obtain⟨y,hb,gG⟩:=a3J ai;have htk:V6.take (i+1)=V6.take i++[y]:=by rw[a3a,hb];rfl
  refine u a4C ?_;refine qD (c4 G b2w a3S (K8 l nn p _ 0 G J hl 2 3 J) G ?_);intro _ _;refine qC ?_ ?_<;>intro h2
  .refine cF [] [0,1,2,3,4] (tl:=[(5,[0,1,2]),(6,[0,1]),(7,[0,1]),(8,[]),(9,[]),(10,[])]) ?_;refine chf G (c7 G (i7 G O G b60 G b6N I)) ?_;refine chf G (c7 G (l9 G O G d0X G G)) ?_;refine a9F ?_;refine chf G (c7 G (A6 ([0,1,-1,5,9007199254740992,-9007199254740992].map icv) G ⟨G,G,G,G,G,G,O⟩ t_7 t_1 t_9 G G G G G G G G G)) ?_;refine F2 ?_;refine B1 G G G (c4 G c2A j2 (a47 l nn (p+1) _ 0 G J hl [0,1,-1,5,9007199254740992,-9007199254740992] Q Q) G ?_);intro v hv;have hvr: -9007199254740992<=v/\v<=9007199254740992:=by
    simp only[I0,a9B,or_false]at hv;omega
   refine⟨⟨d1d,d2g,C3,O⟩,?_⟩;refine C7 G G (c7 G (z8 #[(0,1),(1,1)] G j2 b8J c3p G ⟨_,G⟩ (λw=>by kernel_rfl) G G)) ⟨⟨d1d,d2g,O⟩,?_⟩;refine C7 G G (c7 G (A6 [Va.cv (⟨y,v⟩:Va)] G ⟨O,O⟩ c54 c4J c3p G G G G G G G G G)) ⟨⟨d1d,d2g,O⟩,?_⟩;refine B1 G G G (B6 G O O G Q q_3 c54 c4J Tryz.typeInfo79 c3p G (.inr G) q_8 (by have hb:Tryz.t79.bytes=24:=G;rw[hb];first|omega|(simp;done)|(simp;omega)) E9 ((ev++[(⟨y,v⟩:Va)]).map Va.cv) (ev++[(⟨y,v⟩:Va)]).length Q Q ?_);refine⟨O,?_⟩;refine C7 G G (c7 G (i7 G O G b60 G b6N I)) ⟨O,?_⟩;refine B1 G G G (i0 G O O G j1 b6N (.inl G) G G (nb G) ?_);refine a8h ?_;refine u o3 ?_;exact⟨(ev++[(⟨y,v⟩:Va)],p+2,i+1),[0,1,2,4],⟨do_,do_,by simp only[n_9,J5,a1D];omega,by dsimp only;rw[htk,a8o];exact hs.append (.refl _),(λx hx=>by
    rcases Q9.1 hx with hx|hx
    .exact hr x hx
    .rw [a0r.1 hx];exact hvr),do_,do_⟩,⟨G,G⟩,ut_,⟨.inr ⟨_,G,.same G Q6⟩,.inr ⟨_,G,.same G (x9 ⟨X9 _ ([]:List Va) _,O⟩)⟩,.inr ⟨_,G,.box ⟨B5.grow (f:=Va.cv) (λa=>⟨.val _,.val _,O⟩) G,O⟩⟩,.inr ⟨_,G,.same G B0⟩,O⟩⟩
  .refine u o3 ?_;exact⟨(ev,p+1,i+1),[0,1,2,3],⟨do_,do_,do_,by dsimp only;rw[htk];exact hs.trans (List.sublist_append_left _ _),hr,do_,do_⟩,⟨G,G⟩,ut_,⟨.inr ⟨_,G,.same G Q6⟩,.inr ⟨_,G,.same G (x9 ⟨X9 _ ([]:List Va) _,O⟩)⟩,.inr ⟨_,G,.box ⟨B5.grow (f:=Va.cv) (λa=>⟨.val _,.val _,O⟩) G,O⟩⟩,.inr ⟨_,G,.same G B0⟩,O⟩⟩
 .have fM:i=2:=sm_ h1;subst fM;refine o6 ?_;refine qD (i0 G O O G j1 c4q i9 G G (nb G) ?_);refine c6 ?_;exact⟨_,B7 G ⟨O,_,_,_,G,G,.inr ⟨_,d2I,c4q,nb G,G⟩⟩,⟨(ev,p),a2k G Q6 d3u,⟨hs,hr⟩,do_,do_⟩⟩
theorem b1C(l:List Int)(nn:Bool)(k:Nat)(bg:k<=500000000)(hl:l.length<=maxLen)(σ:List b9)(q:Nat)(hq:σ[q]?=some (r9 l nn k)):b8 CC 9 [.ptr q 0] σ λr τ=>∃a:List Va×Nat,r= .ret (.agg (a1o a.1 (gnn a.1.length)))/\τ=σ.set q (r9 l nn a.2)/\(a8X a.1/\k<=a.2/\a.2<=k+4):=
 a6L (c:=λa:List Va×Nat=>(.agg (a1o a.1 (gnn a.1.length)))) (S:=λa=>r9 l nn a.2) hCC (λa h=>by simp at h) (λ_=>c9E _ _) (λ_=>G0 _ _ _) (G0 _ _ _) G (a9D l nn k bg hl) σ q hq
noncomputable def CF(fl:List Fi)(ev:List Va)(k:Ky):D:=d6g fl (w8 fl).2.1 (w8 fl).2.2 ev k
def b9Y(q:Nm)(x:Src):List De:=x.decls.filter λd=>decide (deK x d=q)
theorem a5g(k:Int)(o pa pk:D):∀(l:List De) (j:Nat) (e:En),(fiD k o pa pk l j e).k=e.k/\(fiD k o pa pk l j e).o=e.o/\((fiD k o pa pk l j e).p=e.p\/(fiD k o pa pk l j e).p=pk)/\(fiD k o pa pk l j e).ct=e.ct+((l.filter λd=>d.k == k&&decide (d.name=o)).length:Int)
 | [],_,e=>⟨G,G,.inl G,by simp[fiD]⟩
 |d::l,j,e=>by
  unfold fiD;rw[b2p]
  split
  .split
   .obtain ⟨h1,h2,h3,h4⟩:=a5g k o pa pk l (j+1) ⟨pk,e.o,e.k,pa,j,e.ct+1⟩;exact⟨h1,h2,.inr (h3.elim id id),by rw[h4,J5];simp only;omega⟩
   .obtain ⟨h1,h2,h3,h4⟩:=a5g k o pa pk l (j+1) ⟨e.p,e.o,e.k,e.pl,e.ix,e.ct+1⟩;exact⟨h1,h2,h3,by rw[h4,J5];simp only;omega⟩
  .exact a5g k o pa pk l (j+1) e
theorem b9N{k:Int}{x:Src}(h:k≠3->x.pkg=p):(x.decls.filter λd=>d.k == k&&decide (d.name=o))=b9Y (A9 k p o) x:=by
 unfold b9Y;refine List.filter_congr λd _=>?_;rw[Bool.eq_iff_iff];simp only[R9,beq_iff_eq,a5J,deK,A9,Nm.mk.injEq];constructor
 .rintro ⟨rfl,rfl⟩;refine⟨G,?_,G⟩
  split
  .rfl
  .rename_i h3;exact h h3
 .rintro ⟨h1,_,h3⟩;exact⟨h1,h3⟩
theorem c7r{k:Int}{x:Src}(h:k≠3)(hp:x.pkg≠p):b9Y (A9 k p o) x=[]:=by
 unfold b9Y;rw[List.filter_eq_nil_iff];intro d _ he;simp only[a5J,deK,A9,Nm.mk.injEq]at he;obtain⟨h1,h2,_⟩:=he;rw[h1,H h,H h]at h2;exact hp h2
theorem a8j(k:Int)(p o:D):∀(L:List (D×Src)) (e:En),(k≠3->e.p=p)->(fiL k p o L e).k=e.k/\(fiL k p o L e).o=e.o/\(k≠3->(fiL k p o L e).p=p)/\(fiL k p o L e).ct=e.ct+((L.flatMap λx=>b9Y (A9 k p o) x.2).length:Int)
 | [],e,h=>⟨G,G,h,by simp[fiL]⟩
 |x::L,e,h=>by
  unfold fiL;rw[b87,n_9]
  split
  .rename_i hc;simp only[R9,bne_iff_ne,b69,b0C,ne_eq]at hc;obtain⟨h1,h2,h3,h4⟩:=a8j k p o L e h;exact⟨h1,h2,h3,by rw[h4,c7r hc.1 hc.2];simp⟩
  .rename_i hc;have hp:k≠3->x.2.pkg=p:=λh3=>by
    simp only[R9,bne_iff_ne,b69,b0C,ne_eq,not_and,Decidable.not_not]at hc;exact hc h3
   obtain⟨g1,g2,g3,g4⟩:=a5g k o x.1 x.2.pkg x.2.decls 0 e;obtain⟨h1,h2,h3,h4⟩:=a8j k p o L (fiD k o x.1 x.2.pkg x.2.decls 0 e) λh3=>g3.elim (λe1=>e1.trans (h h3)) λe1=>e1.trans (hp h3);exact⟨h1.trans g1,h2.trans g2,h3,by rw[h4,g4,b9N hp];omega⟩
theorem b9b(q:Nm):∀fl:List Fi,(occ q fl).length=((o4 fl).flatMap λx=>b9Y q x.2).length
 | []=>rfl
 |f::fl=>by
  have ih:=b9b q fl;have e1:occ q (f::fl)=c0c q f++occ q fl:=by simp[occ]
  rw[e1,n_9,ih];unfold c0c o4;rw[List.filterMap_cons,show a7a f.p f.b=a32 f from G];cases a32 f with
  |none=>simp
  |some x=>simp[b9Y]
theorem a7z{x:D×Src}(h:x∈o4 fl):∃f∈fl,a32 f=some x.2:=by
 obtain⟨f,hf,he⟩:=c2u.1 h;rw[M8]at he;obtain⟨s,hs,rfl⟩:=he;exact⟨f,hf,hs⟩
theorem a7T{x:Src}(h:a32 f=some x):a1b x:=by
 unfold a32 at h;split at h
 .exact a5q h
 .cases h
theorem a3R:(o4 fl).length<=fl.length/\∀x∈o4 fl,x.2.decls.length<=100000:=by
 refine⟨List.length_filterMap_le _ _,λx hx=>?_⟩;obtain⟨f,_,hs⟩:=a7z hx;have:=(a7T hs).decl;omega
def c5n(e:En):Ky:=if(e.k == 3)=true then⟨3,e.o,[]⟩else⟨e.k,e.p,e.o⟩
structure EnF(fl:List Fi)(e:En)(q:Nm):Prop where
 key:N9 (c5n e)=true
 cf:∀(ev:List Va) (fs:List Fi),B4 fs=0->CF fs ev (c5n e)=d0P (occ q fs)
 ct:e.ct=((occ q fl).length:Int)
 pos:occ q fl≠[]
theorem c4j(h:EnP (o4 fl) e):∃q,EnF fl e q:=by
 obtain⟨x,hx,d,hd,rfl⟩:=h;obtain⟨f,hf,hs⟩:=a7z hx;have hG:=a7T hs;have hD:=hG.dec d hd;have hi:d.k≠3->(⟨if d.k=3 then []else x.2.pkg,d.name,d.k,[],0,0⟩:En).p=x.2.pkg:=λh3=>H h3;obtain⟨h1,h2,h3,h4⟩:=a8j d.k x.2.pkg d.name (o4 fl) ⟨if d.k=3 then []else x.2.pkg,d.name,d.k,[],0,0⟩ hi;change (fiE (o4 fl) d.k x.2.pkg d.name).k=d.k at h1;change (fiE (o4 fl) d.k x.2.pkg d.name).o=d.name at h2;change d.k≠3->(fiE (o4 fl) d.k x.2.pkg d.name).p=x.2.pkg at h3;change (fiE (o4 fl) d.k x.2.pkg d.name).ct=0+_ at h4;generalize fiE (o4 fl) d.k x.2.pkg d.name=e at h1 h2 h3 h4;have hK:c5n e=if d.k=3 then⟨3,d.name,[]⟩else⟨d.k,x.2.pkg,d.name⟩:=by
  unfold c5n;rw[h1,h2];by_cases h:d.k=3
  .rw [W h,W (U h)]
  .rw [H h,H (U h),h3 h]
 refine⟨A9 d.k x.2.pkg d.name,?_,λev fs hv=>?_,by rw[h4,b9b];omega,λh0=>?_⟩
 .rcases hD.kind with h|h|h
  .rw [hK.trans (H J),h];unfold N9;rw[W Q];simp[hG.pkg.1,(hD.name J).1]
  .rw [hK.trans (H J),h];unfold N9;rw[W Q];simp[hG.pkg.1,(hD.name J).1]
  .rw [hK.trans (W h)];unfold N9;rw[H Q,W Q];simp[hD.path h]
 .unfold CF d6g
  rcases hD.kind with h|h|h
  .rw [hK.trans (H J),h,W G];exact a8I hv 1 _ _
  .rw [hK.trans (H J),h,H Q,W G];exact a8I hv 2 _ _
  .rw [hK.trans (W h),h,H Q,H Q,W G,a8I hv 3 [] d.name];rfl
 .have:(x.2,d)∈occ (A9 d.k x.2.pkg d.name) fl:=by
   refine b4T.2 ⟨f,hf,?_⟩;unfold c0c;rw[hs];exact D8.2 ⟨d,b4A.2 ⟨hd,by simp[deK]⟩,G⟩
  rw[h0]at this;cases this
def PlE(L:List (D×Src))(q:Nm)(e:En):Prop:=0<=e.ct/\(e.ct≠0->∃x∈L,∃(i:Nat) (d:De),x.2.decls[i]?=some d/\e.pl=x.1/\e.ix=(i:Int)/\deK x.2 d=q)
theorem d1P{L:List (D×Src)}{x:D×Src}(hx:x∈L)(k:Int)(p o:D)(hp:k≠3->x.2.pkg=p):∀(l:List De) (j:Nat) (e:En),x.2.decls.drop j=l->PlE L (A9 k p o) e->PlE L (A9 k p o) (fiD k o x.1 x.2.pkg l j e)
 | [],j,e,_,h=>h
 |d::l,j,e,hl,h=>by
  have hj:x.2.decls[j]?=some d:=by
   have:=n_7 (λm:List De=>m[0]?) hl;simpa using this
  rw[fiD];refine d1P hx k p o hp l (j+1) _ (by rw[<- List.tail_drop,hl];rfl) ?_;have h0:=h.1
  split
  .rename_i hh;have hq:deK x.2 d=A9 k p o:=by
    simp only[R9,beq_iff_eq,a5J]at hh;unfold deK A9;rw[hh.1,hh.2];by_cases h3:k=3
    .rw [W h3,W h3]
    .rw [H h3,H h3,hp h3]
   split
   .exact ⟨do_,λ_=>⟨x,hx,j,d,hj,G,G,hq⟩⟩
   .rename_i h1;have h2:e.ct≠0:=λh2=>h1 (by rw[h2];rfl);exact⟨do_,λ_=>h.2 h2⟩
  .exact h
theorem d1x{L:List (D×Src)}(k:Int)(p o:D):∀(M:List (D×Src)) (e:En),(∀x∈M,x∈L)->PlE L (A9 k p o) e->PlE L (A9 k p o) (fiL k p o M e)
 | [],e,_,h=>h
 |x::M,e,hM,h=>by
  rw[fiL];refine d1x k p o M _ (λy hy=>hM y (by simp[hy])) ?_
  split
  .exact h
  .rename_i hc;refine d1P (hM x Q) k p o (λh3=>?_) _ 0 e G h;simp only[R9,bne_iff_ne,b69,b0C,ne_eq,not_and,Decidable.not_not]at hc;exact hc h3
theorem d9i(L:List (D×Src))(k:Int)(p o:D):PlE L (A9 k p o) (fiE L k p o):=d1x k p o L _ (λ_ h=>h) ⟨a5E _,λh=>absurd G h⟩
theorem b1T(h:fl.Pairwise λa b=>a.p <b.p):(o4 fl).Pairwise λx y=>x.1≠y.1:=by
 unfold o4;refine List.Pairwise.filterMap _ (λa b bZ x hx y hy e=>?_) h;rw[M8]at hx hy;obtain⟨_,_,rfl⟩:=hx;obtain⟨_,_,rfl⟩:=hy;replace e:a.p=b.p:=e;rw[e]at bZ;exact b7n _ bZ
theorem b21{L:List (D×Src)}(h:L.Pairwise λx y=>x.1≠y.1){x:D×Src}(hx:x∈L):L.find? (λy=>decide (y.1=x.1))=some x:=by
 induction L with
 |nil=>cases hx
 |cons z l ih=>
  rw[a2N]at h;rw[b9m]
  rcases I0.1 hx with rfl|hx
  .simp
  .rw [show decide (z.1=x.1)=false from a1R (h.1 x hx)];exact ih h.2 hx
theorem c1T(h:B4 fl=0):fl.Pairwise λa b=>a.p <b.p:=by
 unfold B4 at h;split at h
 .cases h
 .exact (b0X h).2
theorem d9F(h:B4 fl=0)(k:Int)(p o:D):d6b (o4 fl) k p o:=λh0 _=>by
 obtain⟨x,hx,i,d,hd,bo,fc,_⟩:=(d9i (o4 fl) k p o).2 h0;obtain⟨f,_,hs⟩:=a7z hx;refine⟨x.2,d,i,?_,a7T hs,hd⟩;unfold b0z;rw[bo,b21 (b1T (c1T h)) hx,fc]
theorem c6A{L:List (D×Src)}(h:∀x∈L,x.2.imports.length<=8):(d8B L).length<=8*L.length:=by
 unfold d8B
 induction L with
 |nil=>exact n_6 _
 |cons x l ih=>
  have h1:=h x Q;have h2:=ih λy hy=>h y (by simp[hy]);rw[b87,n_9,J5];omega
theorem d7h(h:B4 fl=0):e3E fl (o4 fl):=by
 obtain⟨h1,h2⟩:=U1 h;have hs:∀x∈o4 fl,a1b x.2:=λx hx=>by
  obtain⟨f,_,hs⟩:=a7z hx;exact a7T hs
 have hl:=(a3R (fl:=fl)).1;refine⟨J,J,?_,λx hx=>?_,λq b hb=>?_,(a3R (fl:=fl)).2,λx hx s hsm=>?_,λk p o=>d9F h k p o⟩
 .have:=c6A (L:=o4 fl) λx hx=>(hs x hx).impl;omega
 .obtain ⟨f,hf,he⟩:=c2u.1 hx;rw[M8]at he;obtain⟨_,_,rfl⟩:=he;have:=a1I (h2 f hf).1;show f.p.length<=1000;omega
 .obtain ⟨f,hf,rfl⟩:=b3j hb;have:=(h2 f hf).2;omega
 .have:=a5r ((hs x hx).imp s hsm).1;omega
theorem b30(h:fl.Pairwise λa b=>a.p <b.p):∀f∈fl,r8 fl f.p=some f.b:=by
 induction fl with
 |nil=>intro f hf;cases hf
 |cons x l ih=>
  intro f hf;rw[a2N]at h;unfold r8;rw[b9m]
  rcases I0.1 hf with rfl|hf
  .simp
  .have aB:x.p≠f.p:=λe=>by
    have:=h.1 f hf;rw[e]at this;exact b7n _ this
   rw[show decide (x.p=f.p)=false from a1R aB];exact ih h.2 f hf
theorem d2t(nn:Bool)(h:B4 fl=0)(σ:List b9):b8 CC 42 [.agg (A0 fl nn)] σ λr τ=>r= .ret (.agg (a1H ((o4 fl).map Prod.fst) ((o4 fl).map Prod.snd)))/\τ=σ:=by
 have hl:=d7h h;refine b3U G nn h hl.hl (λf hf=>?_) (λq b hb=>by have:=hl.hbl q b hb;omega) (λ_=>b30 (c1T h)) σ;have:=a1I ((U1 h).2 f hf).1;omega
theorem c73{x:D×Src}:x∈o4 fl↔∃f∈fl,a32 f=some x.2/\x.1=f.p:=by
 unfold o4;rw[c2u];constructor
 .rintro ⟨f,hf,he⟩;rw[M8]at he;obtain⟨s,hs,rfl⟩:=he;exact⟨f,hf,hs,G⟩
 .rintro ⟨f,hf,hs,hp⟩;refine⟨f,hf,?_⟩;rw[show a7a f.p f.b=a32 f from G,hs];obtain⟨a,b⟩:=x;cases hp;rfl
theorem a1W(l:List D):∀r∈l.map scv,∀c∈r,o8 c:=λr hr c hc=>(C2 (f:=scv) (λ_=>N8.all ⟨.val _,O⟩) _) r hr c hc
theorem c4W(n:Nat)(l:List D):G1 n (.vec 1 (l.map scv)):=λr hr c hc=>(a1W l r hr c hc).old
theorem b5Y(l:List D)(hl:l.length<=1000000):b8 CC 255 [.vec 0 0 l.length] [.vec 1 (l.map scv)] λr τ=>∃rest:List D,r= .ret (.vec 0 0 (ddS l).length)/\τ=[.vec 1 ((ddS l++rest).map scv)]/\True:=by
 refine qO Tryz.func255 ?_;refine u (a0R G O G t_2 G G) ?_;refine qC ?_ ?_<;>intro h1
 .have ai:l.length <2:=sm_ h1;have eH:=c7X ai;refine c6 ?_;exact⟨_,rE1,⟨[],by rw[eH],by rw[eH];simp,O⟩⟩
 .have aL:2<=l.length:=sm_ h1;refine L6 (α:=Nat) (λk=>[(0,(.vec 0 0 l.length)),(3,iv k)]) (λ_=>[.vec 1 (l.map scv)]) (λk=>1<=k/\k<=l.length/\ddS (l.take k)=l.take k) (λk=>l.length -k) 1 ⟨n_6 _,J,d9Y⟩ tu_ G ?_;intro k E0 ⟨bn,bK,hd⟩;refine qk (u (a0R G O G t_2 G G) ?_);refine qC ?_ ?_<;>intro h2
  .have ai:k<l.length:=sm_ h2;obtain⟨y,hy⟩:∃y,l[k]?=some y:=⟨l[k]'ai,Q⟩;obtain⟨x,hx⟩:∃x,l[k-1]?=some x:=⟨l[k-1]'J,Q⟩;have ce:=c1D hx (by rw[c1R bn];exact hy);rw[show k-1+2=k+1 by omega,show k-1+1=k by omega,hd]at ce;refine cW 10 ?_;refine a4x ?_;refine hY a9f ?_;refine hY (a1M G O G a2j G (a6y (j8 hy) J) G) ?_;refine a4x ?_;refine hY a0D ?_;refine hY a9f ?_;refine hY (a1M G O G a2j G (a6y (j8 hx) J) G) ?_;refine hY a5Q ?_;refine a3D ?_;refine qC ?_ ?_<;>intro h3
   .have hyx:x=y:=by
     have gR:y=x:=U h3;exact gR.symm
    rw[W hyx]at ce;refine u (H6 (l:=k) G O G t_2 t_0 G a1l G a1w Q) ?_;refine L6 (α:=List D×Nat×Nat) (λa=>[(0,(.vec 0 0 l.length)),(3,iv a.2.1),(4,(.vec 0 (0+k) (l.length -k))),(5,iv a.2.2)]) (λa=>[.vec 1 (a.1.map scv)]) (λa=>a.1.length=l.length/\1<=a.2.2/\a.2.2<=l.length -k/\a.2.1<=k+a.2.2 -1/\ddS (l.take (k+a.2.2))=a.1.take a.2.1/\∀j,k+a.2.2 -1<=j->a.1[j]?=l[j]?) (λa=>l.length -a.2.2) (l,k,1) ⟨G,n_6 _,do_,do_,ce,λ_ _=>G⟩ tu_ G ?_;intro⟨m,p,q⟩ E1 ⟨hm,bE,bS,hp,ja,jb⟩;dsimp only at hm bE bS hp ja jb⊢;refine qk (u (a0R G O G t_2 G G) ?_);refine qC ?_ ?_<;>intro h4
    .have hlt2:q<l.length -k:=sm_ h4;obtain⟨z,hz⟩:∃z,l[k+q]?=some z:=⟨l[k+q]'J,Q⟩;obtain⟨Jj,hu⟩:∃Jj,l[k+q-1]?=some Jj:=⟨l[k+q-1]'J,Q⟩;have hzm:m[k+q]?=some z:=(jb _ J).trans hz;have hum:m[k+q-1]?=some Jj:=(jb _ J).trans hu;have dL:=c1D hu (by rw[c1R J];exact hz);rw[show k+q-1+2=k+(q+1) by omega,show k+q-1+1=k+q by omega,ja]at dL;refine cW 10 ?_;refine a4x ?_;refine hY a9f ?_;refine hY (a1M G O G a2j G (a6y (j8 hzm) J) G) ?_;refine a4x ?_;refine hY a0D ?_;refine hY a9f ?_;refine hY (a1M G O G a2j G (a6y (j8 hum) J) G) ?_;refine hY b0h ?_;refine a3D ?_;refine qC ?_ ?_<;>intro h5
     .have hzu:¬Jj=z:=by
       have iL:¬z=Jj:=U h5;exact λe=>iL e.symm
      rw[H hzu]at dL;obtain⟨o,ho⟩:=gx_ m p;refine u a9f ?_;refine u (a1M G O G a2j G (a6y (j8 hzm) J) G) ?_;refine u a9f ?_;refine qD (U6 ((m.set p z).map scv) G O O G j1 t_0 (.inl G) G (a6y (j8 ho) J) G (nb G) (by rw[show 0+(p:Int).toNat=p by omega,List.map_set];rfl) G ?_);refine u o3 ?_;refine u o3 ?_;exact⟨(m.set p z,p+1,q+1),do_,⟨U hm,do_,do_,do_,by dsimp only;rw[dL,a3a,List.take_set_of_le (n_6 _),b2E J];rfl,λj hj=>by dsimp only at hj;rw[a1c J];exact jb j J⟩,tu_,G⟩
     .have hzu:Jj=z:=by
       have iL:z=Jj:=U h5;exact iL.symm
      rw[W hzu]at dL;refine u o3 ?_;exact⟨(m,p,q+1),do_,⟨hm,do_,do_,do_,dL,λj hj=>by dsimp only at hj;exact jb j J⟩,tu_,G⟩
    .have eW:q=l.length -k:=sm_ h4;subst eW;rw[show k+(l.length -k)=l.length by omega,a6O]at ja;have bo:(m.take p).length=p:=by rw[b1U];omega
     have fm:(ddS l).length=p:=by rw[ja,bo]
     refine o6 ?_;refine u (H6 (l:=p) G O G t_2 t_0 G a1l G a1w G5) ?_;refine qD (b7I ((m.take p++List.replicate (l.length -p) ([]:D)).map scv) G O G t_2 t_4 G (a5m G) G G G5 e2U G ?_);refine u (H6 (h:=p) G O G t_2 t_0 G G a1l a1w G5) ?_;refine c6 ?_;exact⟨_,rE1,⟨List.replicate (l.length -p) ([]:D),by rw[fm];rfl,by rw[ja];rfl,O⟩⟩
   .have hyx:¬x=y:=by
     have gR:¬y=x:=U h3;exact λe=>gR e.symm
    rw[H hyx]at ce;refine u o3 ?_;exact⟨k+1,J,⟨J,J,by rw[ce,a3a,hy];rfl⟩,tu_,G⟩
  .have eW:k=l.length:=sm_ h2;subst eW;rw[a6O]at hd;refine V5 ?_;exact⟨_,rE1,⟨[],by rw[hd],by rw[hd];simp,O⟩⟩
theorem d0z(σ:List b9):b8 CC 255 [(.list (([]:List D).map scv) false none)] σ λr ae=>r= .ret (.list (([]:List D).map scv) false none)/\ae=σ:=by
 refine b8.anyw hCC pu_ pu_ (c9 (qO Tryz.func255 ?_)) σ;refine u P0 ?_;refine cC ?_ ?_<;>intro h1
 .refine qk ?_;refine c6 ?_;exact⟨_,rE1,_,_,G,G,(O2 (show CV.list (([]:List D).map scv) false none=_ from G) (by exact C1 [] _))⟩
 .exfalso;simp at h1
theorem c0o(l:List D)(hl:l.length<=1000000)(hq:σ[q]?=some (.vec 1 (l.map scv))):b8 CC 255 [.vec q 0 l.length] σ λr τ=>∃rest:List D,r= .ret (.vec q 0 (ddS l).length)/\τ=σ.set q (.vec 1 ((ddS l++rest).map scv))/\True:=
 a6v (α:=List D) (g:=λ_=>false) (rows':=λrest=>(ddS l++rest).map scv) (off:=λ_=>0) (len:=λ_=>(ddS l).length) (P:=λ_=>True) hCC (a1W l) (args:=[]) (λa h=>by cases h) (λ_ _=>a1W _)
  ((b5Y l hl).mono λr τ ⟨rest,h1,h2,_⟩=>⟨rest,by subst h1 h2;exact⟨[0],G,G,.ret (.vec G),.inr ⟨_,G,.same G (c4W _ _)⟩,O⟩,O⟩) hq
theorem b67(nn:Bool)(σ:List b9):b8 CC 185 [.list [] nn none] σ λr τ=>r= .ret (.tup [])/\τ=σ:=λM w vs hr hn hx=>by
 have hs:vs.size=1:=hn;obtain⟨v,rfl⟩:∃v,vs= #[v]:=⟨vs[0]'J,Array.ext (by simp[hs]) λi h1 h2=>by
  have:i=0:=by omega
  subst this;simp⟩
 have h0:RV M w (.list [] nn none) v:=hx 0 _ G;cases h0 with
 |list vals g1 g2 g3 g4 g5 g6 g7 g8 g9 g10=>
  refine(Go.Proofs.strs_none Tryz.lays190 _ _ w).mono λe w' ⟨he,hw⟩=>?_;subst he hw;exact⟨_,_,M,Ext.refl M w',hr,.tup G (λi c h=>by simp at h),G,G⟩
theorem d3U(l:List D)(hl:l.length<=1000000)(hq:σ[q]?=some (obO 1 (l.map scv))):b8 CC 185 [(vcO (l.map scv) q).fgt] σ λr τ=>∃_:Unit,r= .ret (.tup [])/\τ=σ.set q (obO 1 ((a1Y l).map scv))/\True:=by
 cases l with
 |nil=>exact(b67 false σ).mono λr τ ⟨h1,h2⟩=>⟨(),h1,by rw[h2,show a1Y []=[] by simp[a1Y]];exact(a0w hq).symm,O⟩
 |cons x l=>
  have h:=c8g (ss:=x::l) Q hl hq;rw[show(vcO ((x::l).map scv) q).fgt = .vec q 0 (x::l).length by rw[b4r Q,N0];rfl,c1v (aa:=(a1Y (x::l)).map scv) (by
   intro e;have:=n_7 List.length e;rw[N0,show(a1Y (x::l)).length=(x::l).length from b6M _]at this;simp at this)]
  exact h
theorem c0l{aa:List (List CV)}(l:List D)(hl:l.length<=1000000)(hr:aa.length=l.length)(hq:σ[q]?=some (obO 1 (l.map scv))):b8 CC 255 [(vcO aa q).fgt] σ λr τ=>∃x:CV×b9,r= .ret x.1/\τ=σ.set q x.2/\∀n ρ,n<=q->ρ[q]?=some x.2->Cls n ρ x.1 (.list ((ddS l).map scv) (gnn (ddS l).length) none):=by
 cases l with
 |nil=>
  obtain rfl:aa=[]:=c1t hr;exact(d0z σ).mono λr τ ⟨h1,h2⟩=>⟨(_,.dead),h1,by rw[h2];exact(a0w hq).symm,λn ρ _ _=>.old (C1 ([]:List D) _).old⟩
 |cons x l=>
  rw[show(vcO aa q).fgt = .vec q 0 (x::l).length by rw[b4r (by intro e;rw[e]at hr;simp at hr),hr];rfl];refine(c0o (x::l) hl hq).mono λr τ ⟨rest,h1,h2,_⟩=>⟨(_,_),h1,h2,λn ρ hn hρ=>?_⟩;rw[a8i (e1i Q)];exact .vecs hn hρ Q Q (a1W _)
theorem d5E(x:De)(ks:List Int)(kn:Bool)(hl:x.body.length<=1000000)(hk:ks.length<=1000000000):b8 CC 204 [(.list (x.body.map Ex.cv) (gnn x.body.length) none),.clo 205 [.ptr 1 0]] [.box x.cells,.box [(.list (ks.map icv) kn none)]] λr τ=>∃_:Unit,X0 2 τ r (.ret (nmV x ks))/\a4o 2 τ τ [.box x.cells,.box [(.list (ks.map icv) kn none)]]/\2<=2/\True:=by
 refine qO Tryz.func204 ?_;refine u b0I ?_;refine B3 hCC 2 G (α:=Nat×List D) (λa=>[(1,(.clo 205 [.ptr 1 0])),(5,(vcO (a.2.map scv) 2)),(10,(.list (x.body.map Ex.cv) (gnn x.body.length) none)),(11,iv x.body.length),(12,iv a.1)]) (λa=>[.box x.cells,.box [(.list (ks.map icv) kn none)],obO 1 (a.2.map scv)]) (λa=>a.1<=x.body.length/\a.2=((x.body.take a.1).filter (λe:Ex=>ks.any λy=>e.k == y)).map Ex.name) (λa=>x.body.length -a.1) ⟨(0,[]),[0,1,9],⟨n_4 _,G⟩,⟨G,G⟩,q_7,uq_⟩ ?_;intro⟨i,aq⟩ ⟨hi,ho⟩;dsimp only at hi ho⊢;have hol:aq.length<=i:=by rw[ho,N0];exact a1F (b7p _ _) b8O
 refine qk (qC ?_ ?_)<;> intro h1
 .have ai:i<x.body.length:=sm_ h1;obtain⟨y,hb⟩:∃y,x.body[i]?=some y:=⟨x.body[i]'ai,Q⟩;have aG:((x.body.take (i+1)).filter (λe:Ex=>ks.any λy=>e.k == y)).map Ex.name=aq++(if(λe:Ex=>ks.any λy=>e.k == y) y=true then [y.name]else []):=by
   rw[a3a,hb,List.filter_append,a8o,<- ho];show aq++(List.filter (λe:Ex=>ks.any λy=>e.k == y) [y]).map Ex.name=_;by_cases hy:(λe:Ex=>ks.any λy=>e.k == y) y=true
   .rw [c3m (p:=(λe:Ex=>ks.any λy=>e.k == y)) hy,W hy];rfl
   .rw [c7C (p:=(λe:Ex=>ks.any λy=>e.k == y)) hy,H hy];rfl
  refine u (A4 G O O G G b6d a9Q J (j8 hb) G) ?_;refine d7J ?_;refine u (b31 G O G Tryz.call205 ⟨O,O⟩ (c4i y ks kn hk G) G) ?_;refine qC ?_ ?_<;>intro h2
  .have hp:(λe:Ex=>ks.any λy=>e.k == y) y=true:=by first|exact h2|simpa using h2
   rw[W hp]at aG;refine u (A6 [scv y.name] G ⟨O,O⟩ t_2 t_0 t_4 G G G G G G G G G) ?_;refine qD (d0f ((aq++[y.name]).map scv) G O O G q_3 t_2 t_0 a5s t_4 G G Q (by have hb:Tryz.t9.bytes=16:=G;rw[hb];rw[N0];simp;omega) (by rw[N0];simp;omega) b6z ?_);refine u o3 ?_;exact⟨(i+1,aq++[y.name]),[0,1,4],⟨do_,do_,by dsimp only;exact aG.symm⟩,⟨G,G⟩,q_7,uq_⟩
  .have hp:¬(λe:Ex=>ks.any λy=>e.k == y) y=true:=by intro hh;first|exact h2 hh|(rw[show(ks.any λz=>y.k == z)=true from hh]at h2;cases h2)
   rw[H hp,a0h]at aG;refine u o3 ?_;exact⟨(i+1,aq),[0,1,2],⟨do_,do_,by dsimp only;exact aG.symm⟩,⟨G,G⟩,q_7,uq_⟩
 .have fM:i=x.body.length:=sm_ h1;rw[fM,a2p (n_6 _)]at ho;subst ho;have hL:((x.body.filter (λe:Ex=>ks.any λy=>e.k == y)).map Ex.name).length<=1000000:=a1F (c14 x ks) hl;refine o6 ?_;refine qD (c4 G Tryz.call185 ⟨O,O⟩ (d3U (nmL x ks) hL G) G ?_);intro _ _;refine qD (c4 G Tryz.call255 ⟨O,O⟩ (c0l (aa:=(nmL x ks).map scv) (a1Y (nmL x ks)) (by rw[show(a1Y (nmL x ks)).length=(nmL x ks).length from b6M _];exact hL) (by rw[N0];exact(b6M _).symm) G) G ?_);intro⟨c,ob⟩ hc;refine c6 ?_;exact⟨_,I8 G O G,⟨(),.ret (hc _ _ (n_6 _) G),⟨.same a6K,.same (x9 ⟨R8 _ _ _,O⟩),O⟩,n_6 _,O⟩⟩
theorem e0a(x:De)(ks:List Int)(kn:Bool)(hl:x.body.length<=1000000)(hk:ks.length<=1000000000):b8 CC 204 [(.list (x.body.map Ex.cv) (gnn x.body.length) none),.clo 205 [.ptr 1 0]] [.box x.cells,.box [(.list (ks.map icv) kn none)]] λr τ=>r= .ret (nmV x ks)/\τ=[.box x.cells,.box [(.list (ks.map icv) kn none)]]:=
 (K9 (S:=λ_=>[.box x.cells,.box [(.list (ks.map icv) kn none)]]) (res:=λ_:Unit=>.ret (nmV x ks)) (P:=λ_=>True) hCC (d5E x ks kn hl hk)).mono λ_ _ ⟨_,h1,h2,_⟩=>⟨h1,h2⟩
theorem a6x(x:De)(ks:List Int)(kn:Bool)(hl:x.body.length<=1000000)(hk:ks.length<=1000000000)(σ:List b9):b8 CC 165 [.agg x.cells,(.list (ks.map icv) kn none)] σ λr ae=>r= .ret (nmV x ks)/\ae=σ:=by
 refine b8.anyw hCC pu_ pu_ (c9 (qO Tryz.func165 ?_)) σ;refine d1A ?_;refine u (a3f G ⟨O,O⟩) ?_;refine u (c5 G Tryz.call204 j2 (e0a x ks kn hl hk) G) ?_;exact d3v
theorem b9V(x:De)(hl:x.body.length<=1000000)(σ:List b9):b8 CC 108 [.agg x.cells] σ λr ae=>r= .ret (nmV x [3])/\ae=σ:=by
 refine b8.anyw hCC pu_ pu_ (c9 (qO Tryz.func108 ?_)) σ;refine qD (F4 G O j1 i9 ?_);refine u (A6 (([3]:List Int).map icv) G ⟨G,O⟩ t_7 t_1 t_9 G G G G G G G G G) ?_;refine u (c5 G c77 j2 (a6x x [3] true hl I _) G) ?_;exact d3v
theorem c1k(x:De)(hl:x.body.length<=1000000)(σ:List b9):b8 CC 110 [.agg x.cells] σ λr ae=>r= .ret (nmV x [6,7,8])/\ae=σ:=by
 refine b8.anyw hCC pu_ pu_ (c9 (qO Tryz.func110 ?_)) σ;refine qD (F4 G O j1 i9 ?_);refine u (A6 (([6,7,8]:List Int).map icv) G ⟨G,G,G,O⟩ t_7 t_1 t_9 G G G G G G G G G) ?_;refine u (c5 G c77 j2 (a6x x [6,7,8] true hl I _) G) ?_;exact d3v
theorem b0T(x:De)(hl:x.body.length<=1000000)(σ:List b9):b8 CC 112 [.agg x.cells] σ λr ae=>r= .ret (nmV x [9])/\ae=σ:=by
 refine b8.anyw hCC pu_ pu_ (c9 (qO Tryz.func112 ?_)) σ;refine qD (F4 G O j1 i9 ?_);refine u (A6 (([9]:List Int).map icv) G ⟨G,O⟩ t_7 t_1 t_9 G G G G G G G G G) ?_;refine u (c5 G c77 j2 (a6x x [9] true hl I _) G) ?_;exact d3v
theorem c4v(c:MC)(S:CS)(x:En)(s:Src)(d:De)(fc:0<=x.ix)(hd:D2 c x=some (s,d))(hbl:d.body.length<=256)(him:s.imports.length<=8)(dr:c.fl.length<=1000000)(hj:S.j<=S.i)(hi:S.i<=S.V.length)(hvb:S.V.length<=100000)(hkb:S.K.length<=1000000000):b8 CC 84 [.ptr 8 0,.agg x.cells] [wbx c.fl c.nn true c.br 1 2 3,smO c.ms,emO c.me,l8 c.br.length,.dead,.dead,.dead,seO S.V,cbx S 0 7 12 13,.dead,.dead,.dead,l8 S.K.length,wkO S,(.box x.cells)] λr τ=>∃j,C9 15 τ r (.ret (.tup [])) [wbx c.fl c.nn true c.br 1 2 3,smO c.ms,emO c.me,l8 c.br.length,.dead,.dead,.dead,seO (⟨S.K++a1u c s d,R6 S.V (a1p c s d),S.i,j,S.rn ||a16 d⟩:CS).V,cbx (⟨S.K++a1u c s d,R6 S.V (a1p c s d),S.i,j,S.rn ||a16 d⟩:CS) 0 7 15 16,.dead,.dead,.dead,.dead,.dead,.dead,l8 (S.K++a1u c s d).length,wkO ⟨S.K++a1u c s d,R6 S.V (a1p c s d),S.i,j,S.rn ||a16 d⟩]/\j<=S.i:=by
 obtain⟨ej,eG⟩:=Z6 hd;refine cO Tryz.func84 ?_;refine a59 ?_;refine a2n ?_;refine a21 [] [0,1,3,7,15,31,63,0,128,511,0,2047] [0,1,2,3,4,5,6,7,8,9] (tl:=[(10,[0,1,2,3,4,5,6,7,8,9]),(11,[])]) w9 w9 G (b48 ?_);refine b3Y ?_;refine chr G (c7 G b8E) ?_;refine chr G (c7 G b8m) ?_;refine chr G a1e ?_;refine chr G (c7 G d0c) ?_;refine chr G (c7 G (l9 G O G c6Q G G)) ?_;refine chr G c7j ?_;refine chr G a88 ?_;refine chr G (c7 G e15) ?_;refine a5p ?_;refine B1 G G G (j6 G a4J G i9 ?_);refine⟨⟨C3,a3q,(by exact c7 G b8E),(by exact c7 G b8m),a3q,(by exact c7 G d0c),(by exact c7 G (l9 G O G c6Q G G)),(by exact c7 G c31),a27,(by exact c7 G e15),O⟩,?_⟩;refine B1 G G G (i0 G O O G j1 a3L i9 G G (nb G) ?_);refine a8h ?_;refine z_0 ?_;refine cY c2L ?_;refine cY c2T ?_;refine cY a85 ?_;refine cY a0F ?_;refine cY (A4 G O O G G a8m a4c J (j8 eG) G) ?_;refine d6L ?_;refine d2Q ?_;refine b6S ?_;refine cY d2u ?_;refine cY (l9 G O G b9B G G) ?_;refine cY A2 ?_;refine cG (λhg=>I5 G O G c25 a4c G (nb G)) ?_;refine cG (λhg=>c5 G Tryz.call107 ⟨hg,O⟩ (c06 d J _) G) ?_;refine cY S4 ?_;refine cY a14 ?_;refine cY d2u ?_;refine cD (i0 G O O G j1 b4V (.inl G) G G (nb G) ?_);refine a2n ?_;refine z_0 ?_;refine cY b5T ?_;refine ye G Tryz.call108 ⟨O,O⟩ (b9V d J _) G ?_;refine cY P0 ?_;refine a9r ?_;refine a5c hCC 18 G ((a9Z (S:=({S with rn:=(S.rn ||a16 d)})) (tk:=12) (q:=8) rfl I rfl rfl).trans (a93 (S:=({S with rn:=(S.rn ||a16 d)})) (wk:=13) (q:=8) rfl I rfl rfl)) (α:=Nat×CS) (λa=>[(0,.ptr 8 0),(4,.ptr 16 0),(5,.ptr 17 0),(47,(.list ((nmS d [3]).map scv) (gnn (nmS d [3]).length) none)),(48,(iv ((nmS d [3]).length:Int))),(49,iv a.1)]) (λa=>[wbx c.fl c.nn true c.br 1 2 3,smO c.ms,emO c.me,l8 c.br.length,.dead,.dead,.dead,seO a.2.V,cbx a.2 0 7 18 19,.dead,.dead,.dead,.dead,.dead,.dead,(.box x.cells),(.box s.cells),(.box d.cells),l8 a.2.K.length,wkO a.2]) (λa=>VI ({S with rn:=(S.rn ||a16 d)}) (nmS d [3]) (ckF c s) (caF c s) a.1 a.2) (λa=>(nmS d [3]).length -a.1) ⟨(0,{S with rn:=(S.rn ||a16 d)}),[0,1,2,3,4,5,6,7,8,9,10,11,12,13,14,15,16,17,18,19],VI.zero hj hi,⟨rfl,rfl⟩,ut_,⟨.inr ⟨_,rfl,.same rfl a2D⟩,.inr ⟨_,rfl,.same rfl W5⟩,.inr ⟨_,rfl,.same rfl X2⟩,.inr ⟨_,rfl,.same rfl B0⟩,.inl rfl,.inl rfl,.inl rfl,.inr ⟨_,rfl,.same rfl (a0t _ _)⟩,.inr ⟨_,rfl,.box ⟨.same rfl (.ptr I),B5.grow (f:=Ky.cv) (λ_=>⟨.val _,.val _,.val _,O⟩) G,.same G (.map I),.vec G,.old (.val _),O⟩⟩,.inl G,.inl G,.inl G,.inl G,.inl G,.inl G,.inr ⟨_,G,.same G a82⟩,.inr ⟨_,G,.same G a5R⟩,.inr ⟨_,G,.same G a6K⟩,.inr ⟨_,G,.same G B0⟩,.inr ⟨_,G,.same G (a0o _ _)⟩,O⟩⟩ ?_;intro⟨n,T⟩ hT
 dsimp only at hT⊢;have hvl:=hT.vl;have dH:=hT.kl;have fx:=hT.le;have hn256:(nmS d [3]).length<=256:=a1F (a5h d _) hbl
 try dsimp only at hvl dH
 refine a9p ?_;refine cC ?_ ?_<;>intro h1
 .have ai:n< (nmS d [3]).length:=sm_ h1;obtain⟨y,hb⟩:∃y,(nmS d [3])[n]?=some y:=⟨(nmS d [3])[n]'ai,Q⟩;have hck:=c38 c s y him;refine b34 ?_;refine cY a4C ?_;refine cY b0F ?_;refine a6u ?_;refine a21 [] [0,1,3,7,0,0,63,127,255,255,255,0,2559,7167,16383] [0,1,2,3,4,5,6,7,8,9,10] (tl:=[(11,[0,1,2,3,4,5,6,7,8,9,10]),(12,[9,10]),(13,[10]),(14,[])]) w9 w9 G (b48 ?_);refine b3Y ?_;refine chr G (c7 G b8E) ?_;refine chr G (c7 G b8m) ?_;refine chr G b6P ?_;refine chr G O0 ?_;refine chr G (c7 G e2q) ?_;refine b9a ?_;refine chr G a7d ?_;refine a5p ?_;refine B1 G G G (j6 G a0z G i9 ?_);refine⟨⟨C3,a3q,(by exact c7 G b8E),(by exact c7 G b8m),c7G,C3,(by exact c7 G e2q),C3,Q7,Q7,Q7,O⟩,?_⟩;refine c9T ?_;refine a5x ?_;refine b6S ?_;refine cY b70 ?_;refine cY c2o ?_;refine cY A2 ?_;refine cD (B6 G O O G Q q_3 t_5 t_3 a9G a0A G (.inr G) q_8 (by have hb:Tryz.t49.bytes=40:=G;rw[hb];have h9:(L5 y (s.pkg::s.imports) (a0B true c.me y (s.pkg::s.imports))).length<=9:=hck;simp only[N0];omega) (by have h9:(L5 y (s.pkg::s.imports) (a0B true c.me y (s.pkg::s.imports))).length<=9:=hck;simp only[N0];omega) ((T.K++ckF c s y).map Ky.cv) (T.K++ckF c s y).length b6z (by simp[ckF,L5]) ?_);refine cY a14 ?_;refine c6W ?_;refine o7 ?_;refine a8D ?_;refine cC ?_ ?_<;>intro h2
  .have ij:caF c s y=[H2 (ctF c s y)]:=by rw[caF,W (show K0 (ctF c s y)=0 from(by simpa using h2:K0 (S5 true c.me y (s.pkg::s.imports))=0))]
   refine a5K ?_;refine cY a3h ?_;refine de G c92 j2 (c1A (wv:=wkC T 19) (wk:=19) {T with K:=T.K++ckF c s y} (H2 (ctF c s y)) do_ rfl rfl (.inr ⟨rfl,rfl,a1F hT.j (b7T hT.i.symm),hT.ip⟩) I) rfl ?_;intro j hj;refine o7 ?_;refine b6l ?_;exact⟨(n+1,{T with K:=T.K++ckF c s y,V:=a2L T.V (H2 (ctF c s y)),j:=j}),[0,1,2,3,4,5,6,7,8,9,10,11,12,13,14,15,16,17,21,23],⟨do_,hT.add hb hck ij hj⟩,⟨rfl,rfl⟩,ut_,⟨.inr ⟨_,rfl,.same rfl a2D⟩,.inr ⟨_,rfl,.same rfl W5⟩,.inr ⟨_,rfl,.same rfl X2⟩,.inr ⟨_,rfl,.same rfl B0⟩,.inl rfl,.inl rfl,.inl rfl,.inr ⟨_,rfl,.same rfl (a0t _ _)⟩,.inr ⟨_,rfl,.box ⟨.same rfl (.ptr I),B5.grow (f:=Ky.cv) (λ_=>⟨.val _,.val _,.val _,O⟩) G,.same G (.map I),.vec G,.old (.val _),O⟩⟩,.inl G,.inl G,.inl G,.inl G,.inl G,.inl G,.inr ⟨_,G,.same G a82⟩,.inr ⟨_,G,.same G a5R⟩,.inr ⟨_,G,.same G a6K⟩,.inr ⟨_,G,.same G B0⟩,.inr ⟨_,G,.same G (a0o _ _)⟩,O⟩⟩
  .have ij:caF c s y=[]:=by rw[caF,H (show ¬K0 (ctF c s y)=0 from(by simpa using h2:¬K0 (S5 true c.me y (s.pkg::s.imports))=0))]
   refine b3x ?_;exact⟨(n+1,{T with K:=T.K++ckF c s y}),[0,1,2,3,4,5,6,7,8,9,10,11,12,13,14,15,16,17,21,19],⟨do_,hT.skip hb hck ij⟩,⟨rfl,rfl⟩,ut_,⟨.inr ⟨_,rfl,.same rfl a2D⟩,.inr ⟨_,rfl,.same rfl W5⟩,.inr ⟨_,rfl,.same rfl X2⟩,.inr ⟨_,rfl,.same rfl B0⟩,.inl rfl,.inl rfl,.inl rfl,.inr ⟨_,rfl,.same rfl (a0t _ _)⟩,.inr ⟨_,rfl,.box ⟨.same rfl (.ptr I),B5.grow (f:=Ky.cv) (λ_=>⟨.val _,.val _,.val _,O⟩) G,.same G (.map I),.vec G,.old (.val _),O⟩⟩,.inl G,.inl G,.inl G,.inl G,.inl G,.inl G,.inr ⟨_,G,.same G a82⟩,.inr ⟨_,G,.same G a5R⟩,.inr ⟨_,G,.same G a6K⟩,.inr ⟨_,G,.same G B0⟩,.inr ⟨_,G,.same G (a0o _ _)⟩,O⟩⟩
 .have aB:n=(nmS d [3]).length:=sm_ h1;subst aB;obtain⟨T1,hTT⟩:∃T1,T1=T:=⟨_,G⟩;subst hTT;have gn:=hT;clear hT;refine o6 (F7 ?_);refine z_0 ?_;refine cY b5T ?_;refine ye G Tryz.call110 ⟨O,O⟩ (c1k d J _) G ?_;refine cY P0 ?_;refine a9r ?_;refine a5c hCC 20 G ((a9Z (S:=T1) (tk:=18) (q:=8) G I G G).trans (a93 (S:=T1) (wk:=19) (q:=8) G I G G)) (α:=Nat×CS) (λa=>[(0,.ptr 8 0),(5,.ptr 17 0),(80,(.list ((nmS d [6,7,8]).map scv) (gnn (nmS d [6,7,8]).length) none)),(81,(iv ((nmS d [6,7,8]).length:Int))),(82,iv a.1)]) (λa=>[wbx c.fl c.nn true c.br 1 2 3,smO c.ms,emO c.me,l8 c.br.length,.dead,.dead,.dead,seO a.2.V,cbx a.2 0 7 20 21,.dead,.dead,.dead,.dead,.dead,.dead,(.box x.cells),(.box s.cells),(.box d.cells),.dead,.dead,l8 a.2.K.length,wkO a.2]) (λa=>VI T1 (nmS d [6,7,8]) (H9 c.fl) (daF c) a.1 a.2) (λa=>(nmS d [6,7,8]).length -a.1) ⟨(0,T1),[0,1,2,3,4,5,6,7,8,9,10,11,12,13,14,15,16,17,18,19,20,21],VI.zero (a1F gn.j (b7T gn.i.symm)) gn.ip,⟨G,G⟩,ut_,⟨.inr ⟨_,G,.same G a2D⟩,.inr ⟨_,G,.same G W5⟩,.inr ⟨_,G,.same G X2⟩,.inr ⟨_,G,.same G B0⟩,.inl G,.inl G,.inl G,.inr ⟨_,G,.same G (a0t _ _)⟩,.inr ⟨_,G,.box ⟨.same G (.ptr I),B5.grow (f:=Ky.cv) (λ_=>⟨.val _,.val _,.val _,O⟩) G,.same G (.map I),.vec G,.old (.val _),O⟩⟩,.inl G,.inl G,.inl G,.inl G,.inl G,.inl G,.inr ⟨_,G,.same G a82⟩,.inr ⟨_,G,.same G a5R⟩,.inr ⟨_,G,.same G a6K⟩,.inl G,.inl G,.inr ⟨_,G,.same G B0⟩,.inr ⟨_,G,.same G (a0o _ _)⟩,O⟩⟩ ?_;intro⟨n,T⟩ hT;dsimp only at hT⊢;have hvl2:=hT.vl;have hkl2:=hT.kl;have hnn2:=hT.le;have hn2562:(nmS d [6,7,8]).length<=256:=a1F (a5h d _) hbl
  try dsimp only at hvl2 hkl2
  refine a9p ?_;refine cC ?_ ?_<;>intro h3
  .have ai:n< (nmS d [6,7,8]).length:=sm_ h3;obtain⟨y,hb⟩:∃y,(nmS d [6,7,8])[n]?=some y:=⟨(nmS d [6,7,8])[n]'ai,Q⟩;have hck:=c4P c.fl y;refine b34 ?_;refine cY a4C ?_;refine cY b0F ?_;refine z_2 ?_;refine a2a ?_;refine cY b8E ?_;refine cY b8m ?_;refine cY A2 ?_;refine ye G Tryz.call111 j2 (c46 (w:=0) (q1:=1) (q2:=2) (t:=3) ⟨G,G,G,G,a2c ⟨I,I,I,I,I,I⟩⟩ y dr) G ?_;refine b72 ?_;refine e0S ?_;refine cD (j6 G a0z G i9 ?_);refine cY a07 ?_;refine cD (i0 G O O G j1 t_6 i9 G G (nb G) ?_);refine b2V ?_;refine b6S ?_;refine cY b70 ?_;refine cY c2o ?_;refine cY A2 ?_;refine cD (B6 G O O G Q q_3 t_5 t_3 a9G a0A G (.inr G) q_8 d0j (by simp only[N0];omega) ((T.K++H9 c.fl y).map Ky.cv) (T.K++H9 c.fl y).length (by rw[a8o]) Q ?_);refine cY a14 ?_;refine c6W ?_;refine o7 ?_;refine z_1 ?_;refine cY Z5 ?_;refine cY A2 ?_;refine cG c1V ?_;refine cG a7N ?_;refine b2G ?_;refine o7 ?_;refine cC ?_ ?_<;>intro h4
   .have ff:daF c y=[diE c.fl true c.me y]:=by rw[daF,W (U h4)]
    refine a5K ?_;refine cY a3h ?_;refine de G c92 j2 (c1A (wv:=wkC T 21) (wk:=21) {T with K:=T.K++H9 c.fl y} (diE c.fl true c.me y) do_ rfl rfl (.inr ⟨rfl,rfl,a1F hT.j (b7T hT.i.symm),hT.ip⟩) I) rfl ?_;intro j hj;refine o7 ?_;refine b6l ?_;exact⟨(n+1,{T with K:=T.K++H9 c.fl y,V:=a2L T.V (diE c.fl true c.me y),j:=j}),[0,1,2,3,4,5,6,7,8,9,10,11,12,13,14,15,16,17,18,19,23,25],⟨do_,hT.add hb hck ff hj⟩,⟨rfl,rfl⟩,ut_,⟨.inr ⟨_,rfl,.same rfl a2D⟩,.inr ⟨_,rfl,.same rfl W5⟩,.inr ⟨_,rfl,.same rfl X2⟩,.inr ⟨_,rfl,.same rfl B0⟩,.inl rfl,.inl rfl,.inl rfl,.inr ⟨_,rfl,.same rfl (a0t _ _)⟩,.inr ⟨_,rfl,.box ⟨.same rfl (.ptr I),B5.grow (f:=Ky.cv) (λ_=>⟨.val _,.val _,.val _,O⟩) G,.same G (.map I),.vec G,.old (.val _),O⟩⟩,.inl G,.inl G,.inl G,.inl G,.inl G,.inl G,.inr ⟨_,G,.same G a82⟩,.inr ⟨_,G,.same G a5R⟩,.inr ⟨_,G,.same G a6K⟩,.inl G,.inl G,.inr ⟨_,G,.same G B0⟩,.inr ⟨_,G,.same G (a0o _ _)⟩,O⟩⟩
   .have ff:daF c y=[]:=by rw[daF,H (U h4)]
    refine b3x ?_;exact⟨(n+1,{T with K:=T.K++H9 c.fl y}),[0,1,2,3,4,5,6,7,8,9,10,11,12,13,14,15,16,17,18,19,23,21],⟨do_,hT.skip hb hck ff⟩,⟨rfl,rfl⟩,ut_,⟨.inr ⟨_,rfl,.same rfl a2D⟩,.inr ⟨_,rfl,.same rfl W5⟩,.inr ⟨_,rfl,.same rfl X2⟩,.inr ⟨_,rfl,.same rfl B0⟩,.inl rfl,.inl rfl,.inl rfl,.inr ⟨_,rfl,.same rfl (a0t _ _)⟩,.inr ⟨_,rfl,.box ⟨.same rfl (.ptr I),B5.grow (f:=Ky.cv) (λ_=>⟨.val _,.val _,.val _,O⟩) G,.same G (.map I),.vec G,.old (.val _),O⟩⟩,.inl G,.inl G,.inl G,.inl G,.inl G,.inl G,.inr ⟨_,G,.same G a82⟩,.inr ⟨_,G,.same G a5R⟩,.inr ⟨_,G,.same G a6K⟩,.inl G,.inl G,.inr ⟨_,G,.same G B0⟩,.inr ⟨_,G,.same G (a0o _ _)⟩,O⟩⟩
  .have aB:n=(nmS d [6,7,8]).length:=sm_ h3;subst aB;obtain⟨T2,hTT⟩:∃T2,T2=T:=⟨_,G⟩;subst hTT;have hT2:=hT;clear hT;refine o6 ?_;refine z_0 ?_;refine cY b5T ?_;refine ye G Tryz.call112 ⟨O,O⟩ (b0T d J _) G ?_;refine cY P0 ?_;refine a9r ?_;refine a5c hCC 22 G (a9Z (S:=T2) (tk:=20) (q:=8) G I G G) (α:=Nat×CS) (λa=>[(0,.ptr 8 0),(118,(.list ((nmS d [9]).map scv) (gnn (nmS d [9]).length) none)),(119,(iv ((nmS d [9]).length:Int))),(120,iv a.1)]) (λa=>[wbx c.fl c.nn true c.br 1 2 3,smO c.ms,emO c.me,l8 c.br.length,.dead,.dead,.dead,seO a.2.V,cbx a.2 0 7 22 21,.dead,.dead,.dead,.dead,.dead,.dead,(.box x.cells),(.box s.cells),(.box d.cells),.dead,.dead,.dead,wkO a.2,l8 a.2.K.length]) (λa=>VI T2 (nmS d [9]) (λs=>[⟨5,s,[]⟩]) (λ_=>[]) a.1 a.2) (λa=>(nmS d [9]).length -a.1) ⟨(0,T2),[0,1,2,3,4,5,6,7,8,9,10,11,12,13,14,15,16,17,18,19,20,21,22],VI.zero (a1F hT2.j (b7T hT2.i.symm)) hT2.ip,⟨G,G⟩,ut_,⟨.inr ⟨_,G,.same G a2D⟩,.inr ⟨_,G,.same G W5⟩,.inr ⟨_,G,.same G X2⟩,.inr ⟨_,G,.same G B0⟩,.inl G,.inl G,.inl G,.inr ⟨_,G,.same G (a0t _ _)⟩,.inr ⟨_,G,.box ⟨.same G (.ptr I),B5.grow (f:=Ky.cv) (λ_=>⟨.val _,.val _,.val _,O⟩) G,.same G (.map I),.vec G,.old (.val _),O⟩⟩,.inl G,.inl G,.inl G,.inl G,.inl G,.inl G,.inr ⟨_,G,.same G a82⟩,.inr ⟨_,G,.same G a5R⟩,.inr ⟨_,G,.same G a6K⟩,.inl G,.inl G,.inl G,.inr ⟨_,G,.same G (a0o _ _)⟩,.inr ⟨_,G,.same G B0⟩,O⟩⟩ ?_;intro⟨n,T⟩ hT;dsimp only at hT⊢;have hvl3:=hT.vl;have hkl3:=hT.kl;have hnn3:=hT.le;have hn2563:(nmS d [9]).length<=256:=a1F (a5h d _) hbl
   try dsimp only at hvl3 hkl3
   refine a9p ?_;refine cC ?_ ?_<;>intro h5
   .have ai:n< (nmS d [9]).length:=sm_ h5;obtain⟨y,hb⟩:∃y,(nmS d [9])[n]?=some y:=⟨(nmS d [9])[n]'ai,Q⟩;refine b34 ?_;refine cY a4C ?_;refine cY b0F ?_;refine z_2 ?_;refine a5K ?_;refine cY A2 ?_;refine cY a14 ?_;refine cY b70 ?_;refine cY c2o ?_;refine cY A2 ?_;refine cY c6F ?_;refine cY (A6 [Ky.cv ⟨5,y,[]⟩] G ⟨O,O⟩ t_5 t_3 a0A G G G G G G G G G) ?_;refine cD (B6 G O O G Q q_3 t_5 t_3 a9G a0A G (.inr G) q_8 (by have hb:Tryz.t49.bytes=40:=G;rw[hb];simp;omega) G5 ((T.K++[(⟨5,y,[]⟩:Ky)]).map Ky.cv) (T.K++[(⟨5,y,[]⟩:Ky)]).length b6z Q ?_);refine cY a14 ?_;refine c6W ?_;refine o7 ?_;refine b6l ?_;exact⟨(n+1,{T with K:=T.K++[⟨5,y,[]⟩]}),[0,1,2,3,4,5,6,7,8,9,10,11,12,13,14,15,16,17,18,19,20,21,23],⟨do_,hT.skip hb Q rfl⟩,⟨rfl,rfl⟩,ut_,⟨.inr ⟨_,rfl,.same rfl a2D⟩,.inr ⟨_,rfl,.same rfl W5⟩,.inr ⟨_,rfl,.same rfl X2⟩,.inr ⟨_,rfl,.same rfl B0⟩,.inl rfl,.inl rfl,.inl rfl,.inr ⟨_,rfl,.same rfl (a0t _ _)⟩,.inr ⟨_,rfl,.box ⟨.same rfl (.ptr I),B5.grow (f:=Ky.cv) (λ_=>⟨.val _,.val _,.val _,O⟩) G,.same G (.map I),.vec G,.old (.val _),O⟩⟩,.inl G,.inl G,.inl G,.inl G,.inl G,.inl G,.inr ⟨_,G,.same G a82⟩,.inr ⟨_,G,.same G a5R⟩,.inr ⟨_,G,.same G a6K⟩,.inl G,.inl G,.inl G,.inr ⟨_,G,.same G (a0o _ _)⟩,.inr ⟨_,G,.same G B0⟩,O⟩⟩
   .have aB:n=(nmS d [9]).length:=sm_ h5;subst aB;have hD:T=⟨S.K++a1u c s d,R6 S.V (a1p c s d),S.i,T.j,S.rn ||a16 d⟩:=VI.done gn hT2 hT;have hj3:=hT.j;refine o6 ?_;exact⟨_,rE0,⟨T.j,⟨[0,1,2,3,4,5,6,7,8,9,10,11,12,13,14,22,21],G,G,.ret (.tup G λi x y g1 g2=>by cases g1),by
     rw[show(S.K++a1u c s d).length=T.K.length from n_7 (λx:CS=>x.K.length) hD.symm,<- hD,show R6 S.V (a1p c s d)=T.V from n_7 CS.V hD.symm];exact⟨.inr ⟨_,G,.same G a2D⟩,.inr ⟨_,G,.same G W5⟩,.inr ⟨_,G,.same G X2⟩,.inr ⟨_,G,.same G B0⟩,.inl G,.inl G,.inl G,.inr ⟨_,G,.same G (a0t _ _)⟩,.inr ⟨_,G,.box ⟨.same G (.ptr I),B5.grow (f:=Ky.cv) (λ_=>⟨.val _,.val _,.val _,O⟩) G,.same G (.map I),.vec G,.old (.val _),O⟩⟩,.inl G,.inl G,.inl G,.inl G,.inl G,.inl G,.inr ⟨_,G,.same G B0⟩,.inr ⟨_,G,.same G (a0o _ _)⟩,O⟩⟩,by rw[hT2.i,gn.i]at hj3;exact hj3⟩⟩
theorem c7e(c:MC)(S:CS)(x:En)(s:Src)(d:De)(fc:0<=x.ix)(hd:D2 c x=some (s,d))(hbl:d.body.length<=256)(him:s.imports.length<=8)(dr:c.fl.length<=1000000)(hj:S.j<=S.i)(hi:S.i<=S.V.length)(hvb:S.V.length<=100000)(hkb:S.K.length<=1000000000):b8 CC 84 [.ptr 8 0,.agg x.cells] [wbx c.fl c.nn true c.br 1 2 3,smO c.ms,emO c.me,l8 c.br.length,.dead,.dead,.dead,seO S.V,cbx S 0 7 12 13,.dead,.dead,.dead,l8 S.K.length,wkO S,(.box x.cells)] λr τ=>∃j,r= .ret (.tup [])/\τ=[wbx c.fl c.nn true c.br 1 2 3,smO c.ms,emO c.me,l8 c.br.length,.dead,.dead,.dead,seO (⟨S.K++a1u c s d,R6 S.V (a1p c s d),S.i,j,S.rn ||a16 d⟩:CS).V,cbx (⟨S.K++a1u c s d,R6 S.V (a1p c s d),S.i,j,S.rn ||a16 d⟩:CS) 0 7 15 16,.dead,.dead,.dead,.dead,.dead,.dead,l8 (S.K++a1u c s d).length,wkO ⟨S.K++a1u c s d,R6 S.V (a1p c s d),S.i,j,S.rn ||a16 d⟩]/\j<=S.i :=
 D7 hCC ((c4v c S x s d fc hd hbl him dr hj hi hvb hkb).mono λ_ _ ⟨j,h1,h2⟩=>⟨_,_,h1,j,G,G,h2⟩)
theorem b7f:∀{l:List Ex} {i:Nat} {st:List Int},okK l i st->(∀a∈st,0<=a/\a< (i:Int))->∀{j:Nat} {x:Ex},l[j]?=some x->∀a∈x.args,0<=a/\a< ((i+j:Nat):Int)
 | [],_,_,_,_,_,_,h,_,_=>by cases h
 |y::l,i,st,hk,hs,0,x,h,a,ha=>by
  injection h with h
  subst h;obtain⟨_,h2,_⟩:=hk;rw[h2]at ha;exact hs a (a8G ha)
 |y::l,i,st,hk,hs,j+1,x,h,a,ha=>by
  obtain⟨_,_,h3⟩:=hk;have:=b7f h3 (λb hb=>by
   rcases Q9.1 hb with hb|hb
   .have:=hs b (a6B hb);omega
   .simp at hb;omega) (j:=j) (U h) a ha
  omega
theorem DeG.node(h:DeG d)(hx:d.body[i]?=some x):a6g d.params.length x.k x.num x.op x.name x.args.length/\∀a∈x.args,0<=a/\a< (i:Int):=by
 refine⟨h.ar x (n_3 hx),λa ha=>?_⟩;obtain⟨t,h1,_⟩:=h.tree;have hk:=c7Q t;rw[<- h1]at hk;have:=b7f hk (λb hb=>by cases hb) hx a ha;simpa using this
theorem Gd.pan{e:Int}(h:S.st<=20000):Gd S ((.inr e,S):Rs Int):=⟨a5E _,h,λv hv=>by cases hv⟩
theorem Gd.ret(h:SB S S1)(hv:InM v):Gd S ((.inl v,S1):Rs Int):=⟨h.1,h.2.1,λJj hu=>by
 have:=Sum.inl.inj hu;subst this;exact⟨hv,h.2.2⟩⟩
theorem Gd.panB{e:Int}(h:SB S S1):Gd S ((.inr e,S1):Rs Int):=⟨h.1,h.2.1,λv hv=>by cases hv⟩
theorem Gd.of{o:Rs Int}(h:SB S S1)(hg:Gd S1 o):Gd S o:=⟨Int.le_trans h.1 hg.1,hg.2.1,λv hv=>⟨(hg.2.2 v hv).1,(hg.2.2 v hv).2.trans h.2.2⟩⟩
theorem Gd.bind{S0:MS}{o:Rs Int}{k:Int->MS->Rs Int}(h:SB S S0)(hg:Gd S0 o)(hk:∀v,o.1 = .inl v->InM v->SB S o.2->Gd S (k v o.2)):Gd S (bindM o k):=by
 cases ho:o.1 with
 |inl v=>rw[a0s ho];exact hk v ho (hg.2.2 v ho).1 (h.next hg ho)
 |inr e=>rw[a0q ho];exact⟨Int.le_trans h.1 hg.1,hg.2.1,λv hv=>by cases hv⟩
theorem SB.look(h:SB S S1)(ks:List Ky):SB S (S1.look ks):=h
theorem c50{rec:Int->MS->Rs Int}(h3:x.args.length=3)(hs:S.st<=20000)(HR:c5m rec S x.args):Gd S (a5k rec x S):=by
 obtain⟨a0,a1,a2,e⟩:=d8q h3;have g0:x.args.getD 0 0=a0:=by rw[e];rfl
 have g1:x.args.getD 1 0=a1:=by rw[e];rfl
 have g2:x.args.getD 2 0=a2:=by rw[e];rfl
 rw[a5k,g0,g1,g2];refine Gd.bind (SB.refl hs) (HR a0 (by rw[e];simp) S (SB.refl hs)) λv hv _ hb=>?_
 split
 .exact Gd.of hb (HR a1 (by rw[e];simp) _ hb)
 .exact Gd.of hb (HR a2 (by rw[e];simp) _ hb)
theorem d9c{w:Int}(h:a1q w= .inl v):InM v:=by
 unfold a1q at h;split at h
 .rename_i h1;have:=Sum.inl.inj h;subst this;exact h1
 .cases h
theorem d8V{o a b:Int}(h:biV o a b= .inl v):InM v:=by
 unfold biV at h
 repeat' split at h
 all_goals first|exact d9c h|(cases h;done)|(have:=Sum.inl.inj h;subst this;exact⟨I,I⟩)
theorem c5O{rec:Int->MS->Rs Int}(h2:x.args.length=2)(hs:S.st<=20000)(HR:c5m rec S x.args):Gd S (biS rec x S):=by
 obtain⟨a0,a1,e⟩:=d8s h2;have g0:x.args.getD 0 0=a0:=by rw[e];rfl
 have g1:x.args.getD 1 0=a1:=by rw[e];rfl
 rw[biS,g0,g1];refine Gd.bind (SB.refl hs) (HR a0 (by rw[e];simp) S (SB.refl hs)) λv hv _ hb=>?_;refine Gd.bind hb (HR a1 (by rw[e];simp) _ hb) λw hw _ bD=>?_;cases ho:biV x.op v w with
 |inl Jj=>exact Gd.ret bD (d8V ho)
 |inr Jj=>exact Gd.panB bD
theorem c3e{rec:Int->MS->Rs Int}{S:MS}:∀{l acc:List Int} {S1:MS},(∀v∈acc,InM v)->SB S S1->c5m rec S l->((W3 rec acc l S1).2.st<=20000/\S.st<=(W3 rec acc l S1).2.st)/\∀vs,(W3 rec acc l S1).1 = .inl vs->(∀v∈vs,InM v)/\SB S (W3 rec acc l S1).2
 | [],acc,S1,ha,hb,_=>⟨⟨hb.2.1,hb.1⟩,λvs hv=>by
  have:=Sum.inl.inj hv;subst this;exact⟨ha,hb⟩⟩
 |a::l,acc,S1,ha,hb,HR=>by
  have h1:=HR a b2h S1 hb;rw[W3];cases ho:(rec a S1).1 with
  |inl v=>
   rw[a0s ho];exact c3e (λJj hu=>by
    rcases Q9.1 hu with hu|hu
    .exact ha Jj hu
    .simp at hu;subst hu;exact(h1.2.2 _ ho).1) (hb.next h1 ho) λi hi=>HR i (a4a _ hi)
  |inr e=>rw[a0q ho];exact⟨⟨h1.2.1,Int.le_trans hb.1 h1.1⟩,λvs hv=>by cases hv⟩
theorem d1Z{x:En}{args:List Int}{an:Bool}{s:Src}(hs:S.st<=20000)(hd:D2 c x=some (s,d))(HR:Gd {S with ac:=S.ac+1} (rec ⟨s,d,args,an⟩ ((d.body.length:Int) -1) {S with ac:=S.ac+1})):Gd S (H5 rec c x args an S):=by
 rw[H5,hd]
 split
 .exact Gd.pan hs
 .dsimp only;obtain⟨h1,h2,h3⟩:=HR;cases ho:(rec ⟨s,d,args,an⟩ ((d.body.length:Int) -1) {S with ac:=S.ac+1}).1 with
  |inl v=>
   rw[a0s ho];obtain⟨h4,h5⟩:=h3 v ho;exact⟨h1,h2,λJj hu=>by
    have:=Sum.inl.inj hu;subst this;refine⟨h4,?_⟩;show(rec ⟨s,d,args,an⟩ ((d.body.length:Int) -1) {S with ac:=S.ac+1}).2.ac -1=S.ac;rw[h5];show S.ac+1-1=S.ac;omega⟩
  |inr e=>rw[a0q ho];exact⟨h1,h2,λv hv=>by cases hv⟩
theorem d2J(hs:S.st<=20000)(HR:c5m (rec F) S x.args)(HE:K0 (G8 c F x)=0->∀(l:List Int) (S1:MS),l.length=c8D c (G8 c F x)->(∀v∈l,InM v)->SB S S1->Gd S1 (H5 rec c (G8 c F x) l (gnn l.length) S1)):Gd S (a1A rec c F x S):=by
 rw[a1A]
 split
 .exact Gd.panB (SB.look (SB.refl hs) _)
 .rename_i hc;have dx:K0 (G8 c F x)=0:=Decidable.not_not.1 hc;have hA:=c3e (S:=S) (l:=x.args) (acc:=[]) (S1:=S.look (U5 c F x)) (λv hv=>by cases hv) (SB.look (SB.refl hs) _) HR;cases ho:(W3 (rec F) [] x.args (S.look (U5 c F x))).1 with
  |inl vs=>
   rw[a0s ho];obtain⟨h1,h2⟩:=hA.2 vs ho
   split
   .exact Gd.panB h2
   .rename_i hl;exact Gd.of h2 (HE dx vs _ (Decidable.not_not.1 hl) h1 h2)
  |inr e=>rw[a0q ho];exact⟨hA.1.2,hA.1.1,λv hv=>by cases hv⟩
theorem d5c(v:Int):InM ((v.tmod 256+256).tmod 256):=by
 have h1:=a6R (v.tmod 256+256);exact⟨J,J⟩
theorem d4f(h1:x.args.length=1)(hs:S.st<=20000)(HR:c5m (rec F) S x.args)(HE:diC c.fl true c.me x.name=0->r8 c.fl x.name=none->∀S1:MS,SB S S1->Gd S1 (H5 rec c (diE c.fl true c.me x.name) [] false S1)):Gd S (a0I rec c F x S):=by
 obtain⟨a0,e⟩:=d8a h1;have g0:x.args.getD 0 0=a0:=by rw[e];rfl
 rw[a0I,g0]
 split
 .exact Gd.panB (SB.look (SB.refl hs) _)
 .rename_i hc;have dx:diC c.fl true c.me x.name=0:=Decidable.not_not.1 hc;refine Gd.bind (SB.look (SB.refl hs) _) (HR a0 (by rw[e];simp) _ (SB.look (SB.refl hs) _)) λi hi _ hb=>?_;cases hd:r8 c.fl x.name with
  |some b=>
   dsimp only
   split
   .exact Gd.panB hb
   .refine Gd.ret hb ?_;have:=(b.getD i.toNat 0).toNat_lt;exact⟨J,J⟩
  |none=>
   dsimp only
   split
   .exact Gd.panB hb
   .exact Gd.bind hb (HE dx hd _ hb) λv _ _ bD=>Gd.ret bD (d5c v)
theorem d9A(he:∀v∈c.ev,InM v.v)(h:b6h c s= .inl v):InM v:=by
 unfold b6h a6j at h;cases hf:c.ev.find? λv=>decide (v.n=s)with
 |none=>simp[hf]at h
 |some y=>simp[hf]at h;subst h;exact he y (b8b hf)
theorem d4l(hf:∀f∈c.fl,f.b.length<=100000)(h:a87 c s= .inl v):InM v:=by
 unfold a87 at h;split at h
 .cases h
 .split at h
  .have:=Sum.inl.inj h;subst this;have hl:((r8 c.fl s).getD []).length<=100000:=by
    unfold r8;cases hq:c.fl.find? λf=>decide (f.p=s)with
    |none=>simp
    |some y=>exact hf y (b8b hq)
   exact⟨J,J⟩
  .have:=Sum.inl.inj h;subst this;exact⟨I,I⟩
def EnK(ms:SM)(q:Nm)(e:En):Prop:=q.k=e.k/\q.o=e.o/\1<=e.ct/\(e.ct=1->∃(s:Src) (d:De) (i:Nat),glk ms e.pl=some s/\a1b s/\e.ix=(i:Int)/\s.decls[i]?=some d/\d.k=e.k/\d.name=e.o/\q=A9 d.k s.pkg d.name)
structure WI2(seen:List D)(ms:SM)(me:EM):Prop where
 src:∀p x,glk ms p=some x->a1b x/\p∈seen
 ent:∀k e,glk me k=some e->EnK ms k e
theorem c2l{ms:SM}{path:D}{x:Src}(hg:glk ms path=some x)(hx:a1b x):∀(n k:Nat) (me:EM),x.decls.length -k=n->(∀k e,glk me k=some e->EnK ms k e)->∀q e,glk (addDs me path x.pkg (x.decls.drop k) k) q=some e->EnK ms q e
 |0,k,me,hn,h,q,e,he=>by
  rw[a0V J,addDs]at he;exact h q e he
 |n+1,k,me,hn,h,q,e,he=>by
  obtain⟨d,hd⟩:=gx_ x.decls k;rw[a3P hd]at he;refine c2l hg hx n (k+1) _ J (λq e he=>?_) q e he;rw[a0a,G3]at he;split at he
  .rename_i hq;injection he with he
   subst he
   split
   .rename_i f hf;obtain⟨h1,h2,h3,_⟩:=h _ _ hf;rw[hq];exact⟨h1,h2,by simp only;omega,λhc=>by simp only at hc;omega⟩
   .rw [hq];exact⟨G,G,a5E _,λ_=>⟨x,d,k,hg,hx,G,hd,G,G,G⟩⟩
  .exact h q e he
theorem EnK.put{q:Nm}{x:Src}(h:EnK ms q e)(hp:glk ms path=none):EnK (G6 ms path x) q e:=by
 obtain⟨h1,h2,h3,h4⟩:=h;refine⟨h1,h2,h3,λhc=>?_⟩;obtain⟨s,d,i,h5,h6⟩:=h4 hc;refine⟨s,d,i,?_,h6⟩;rw[G3,H]
 .exact h5
 .intro he;rw[he,hp]at h5;cases h5
theorem d2X{seen:List D}{s:WS}(h:WI2 seen s.2.1 s.2.2)(hf:f.p∉seen):WI2 (f.p::seen) (P7 s f).2.1 (P7 s f).2.2:=by
 have hw:WI2 (f.p::seen) s.2.1 s.2.2:=⟨λp x hp=>⟨(h.src p x hp).1,a4a _ (h.src p x hp).2⟩,h.ent⟩;unfold P7
 split
 .split
  .exact hw
  .rename_i x hx;have hn:glk s.2.1 f.p=none:=by
    cases hg:glk s.2.1 f.p with
    |none=>rfl
    |some y=>exact absurd (h.src _ _ hg).2 hf
   have dM:=a5q hx;refine⟨λp y hp=>?_,?_⟩
   .simp only[G3]at hp;split at hp
    .rename_i e;injection hp with hp
     subst hp;exact⟨dM,by rw[e];simp⟩
    .exact ⟨(h.src p y hp).1,a4a _ (h.src p y hp).2⟩
   .have hg:glk (G6 s.2.1 f.p x) f.p=some x:=by rw[G3,W G]
    have:=c2l hg dM _ 0 s.2.2 G (λk e he=>(h.ent k e he).put hn);simpa using this
 .exact hw
theorem c7x:∀{l:List Fi} {seen:List D} {s:WS},WI2 seen s.2.1 s.2.2->(∀f∈l,f.p∉seen)->(l.Pairwise λa b=>a.p <b.p)->∃jc,WI2 jc (a4X l s).2.1 (a4X l s).2.2
 | [],seen,s,h,_,_=>⟨seen,h⟩
 |f::l,seen,s,h,hn,hp=>by
  have h1:=d2X h (hn f Q);refine c7x (l:=l) h1 (λg hg hm=>?_) (a2N.1 hp).2
  rcases I0.1 hm with hm|hm
  .have:=(a2N.1 hp).1 g hg;rw[hm]at this;exact absurd this (b7n _)
  .exact hn g (by simp[hg]) hm
theorem c7A(h:B4 fl=0):∀q e,glk (w8 fl).2.2 q=some e->EnK (w8 fl).2.1 q e:=by
 have h0:rvE none fl=0:=by
  unfold B4 at h;split at h
  .cases h
  .exact h
 obtain⟨seen,h3⟩:=c7x (l:=fl) (seen:=[]) (s:=([],[],[])) ⟨λp x hp=>(by cases hp),λk e he=>(by cases he)⟩ (λf _ hm=>(by cases hm)) (b0X h0).2;rw[w8,W h];exact h3.ent
structure McG(c:MC):Prop where
 w:WOk c.fl c.ms c.me
 k:∀q e,glk c.me q=some e->EnK c.ms q e
 ev:c.ev.length<=1000000/\∀v∈c.ev,InM v.v
 wd:0<=c.wd/\c.wd <18446744073709551616
variable{k:Int}{ev:List Va}
theorem McG.find(h:McG c)(h1:(p8 true c.me k p o).ct=1):∃(s:Src) (d:De),0<=(p8 true c.me k p o).ix/\D2 c (p8 true c.me k p o)=some (s,d)/\a1b s/\d∈s.decls/\d.k=k/\d.name=o:=by
 unfold p8 at h1⊢;rw[W G]at h1⊢;cases hg:glk c.me (A9 k p o)with
 |none=>rw[hg]at h1;simp at h1
 |some e=>
  rw[hg]at h1;dsimp only at h1⊢;obtain⟨h2,h3,_,h4⟩:=h.k _ _ hg;obtain⟨s,d,i,h5,h6,h7,h8,h9,bL,_⟩:=h4 h1;refine⟨s,d,by rw[h7];exact Int.natCast_nonneg _,?_,h6,n_3 h8,h9.trans h2.symm,bL.trans h3.symm⟩;unfold D2;rw[h5,h7];simp[h8]
theorem McG.ct(h:McG c)(k:Int)(p o:D):0<=(p8 true c.me k p o).ct:=by
 unfold p8;rw[W G];cases hg:glk c.me (A9 k p o)with
 |none=>exact a5E _
 |some e=>have:=(h.k _ _ hg).2.2.1;dsimp only;omega
structure FrG(F:Fr):Prop where
 src:a1b F.f
 de:DeG F.d
 al:F.args.length=F.d.params.length
 ab:∀v∈F.args,InM v
theorem De.root(h:DeG d):∃x,1<=d.body.length/\d.body[((d.body.length:Int) -1).toNat]?=some x:=by
 obtain⟨t,h1,_⟩:=h.tree;have h2:=t.size_pos;have h3:d.body.length=t.size:=by rw[h1,Tr.flat_len]
 exact⟨d.body[((d.body.length:Int) -1).toNat]'J,J,Q⟩
theorem d2T{va:Bool}{name:D}{L:List D}{n:Nat}:a30 va me name L n=En.z\/∃p,a30 va me name L n=p8 va me 1 p name:=by
 cases n with
 |zero=>exact .inl G
 |succ i=>
  rw[a30]
  split
  .rename_i p _;exact .inr ⟨p,G⟩
  .exact .inl G
theorem b2H:∀l:List Tr,l.length<=Q2 l
 | []=>n_6 _
 |t::l=>by
  have:=b2H l;have:=t.size_pos;rw[Q2,J5];omega
theorem De.argl(h:DeG d){j:Nat}(hj:d.body[j]?=some x):x.args.length<=d.body.length:=by
 obtain⟨t,h1,h2⟩:=h.tree;have hl:=(n_2.1 hj).1;have hb:=hl;rw[h1,Tr.flat_len]at hl;obtain⟨y,z,ch,g⟩:=c3y h2 hl;rw[h1]at hj;obtain rfl:=Option.some.inj (hj.symm.trans g.e);have:=g.size;have:=b2H ch;rw[g.args,a6D];omega
theorem b0S(hc:McG c)(h:K0 (G8 c F x)=0):H2 (G8 c F x)=G8 c F x/\∃(s:Src) (d:De),0<=(G8 c F x).ix/\D2 c (G8 c F x)=some (s,d)/\a1b s/\d∈s.decls:=by
 unfold K0 at h;by_cases h0:(G8 c F x).ct=0
 .rw [W h0]at h;exact absurd h I
 .rw [H h0]at h;by_cases h1:1< (G8 c F x).ct
  .rw [W h1]at h;exact absurd h I
  .refine ⟨by unfold H2;rw[H h0,H h1],?_⟩
   rcases d2T (va:=true) (me:=c.me) (name:=x.name) (L:=a9w F) (n:=a0B true c.me x.name (a9w F))with he|⟨p,he⟩
   .exact absurd (show(G8 c F x).ct=0 by unfold G8 S5;rw[he]) h0
   .have e:G8 c F x=p8 true c.me 1 p x.name:=he;rw[e]at h0 h1⊢;have:=hc.ct 1 p x.name;obtain⟨s,d,g1,g2,g3,g4,_⟩:=hc.find (k:=1) (p:=p) (o:=x.name) J;exact⟨s,d,g1,g2,g3,g4⟩
theorem b5r(hc:McG c)(h:diC c.fl true c.me s=0)(hd:r8 c.fl s=none):diE c.fl true c.me s=diX true c.me s/\∃(y:Src) (d:De),0<=(diX true c.me s).ix/\D2 c (diX true c.me s)=some (y,d)/\a1b y/\d∈y.decls/\d.k=3:=by
 have hi:¬(r8 c.fl s).isSome=true:=by rw[hd];decide
 unfold diC at h;rw[H hi]at h;by_cases h0:(diX true c.me s).ct=0
 .rw [W h0]at h;exact absurd h I
 .rw [H h0]at h;by_cases h1:1< (diX true c.me s).ct
  .rw [W h1]at h;exact absurd h I
  .refine ⟨by unfold diE H2;rw[H hi,H h0,H h1],?_⟩;have h2:0<=(diX true c.me s).ct:=hc.ct 3 [] s;obtain⟨y,d,g1,g2,g3,g4,g5,_⟩:=hc.find (k:=3) (p:=[]) (o:=s) (show(diX true c.me s).ct=1 by omega);exact⟨y,d,g1,g2,g3,g4,g5⟩
theorem e3i(hp:C0 p=true)(ho:C0 o=true):N9 ⟨1,p,o⟩=true:=by simp[N9,hp,ho]
def kys(S:MS):List Ky:=S.tr.map Prod.fst
theorem b59{k a:Ky}:∀{l:List (Ky×Bool)},k∈(G6 l a true).map Prod.fst↔k∈l.map Prod.fst\/k=a
 | []=>by simp[G6]
 |(b,d)::l=>by
  rw[G6];split
  .rename_i h;subst h;simp only[a8C,I0];exact⟨λh=>.inl h,λh=>h.elim id λh=>.inl h⟩
  .simp only[a8C,I0,b59 (l:=l),or_assoc]
theorem a2W{k:Ky}:∀{S:MS},k∈kys (S.look ks)↔k∈kys S\/k∈ks:=by
 induction ks with
 |nil=>intro S;simp[MS.look]
 |cons a ks ih=>
  intro S;have h:=ih (S:={S with tr:=G6 S.tr a true});rw[show S.look (a::ks)=MS.look {S with tr:=G6 S.tr a true} ks from rfl,h,show kys {S with tr:=G6 S.tr a true}=(G6 S.tr a true).map Prod.fst from rfl,b59,I0,or_assoc];rfl
theorem b1v:∀{S:MS},(S.look ks).tr.length<=S.tr.length+ks.length:=by
 induction ks with
 |nil=>intro S;exact n_6 _
 |cons a ks ih=>
  intro S;have h:=ih (S:={S with tr:=G6 S.tr a true});have h2:(G6 S.tr a true).length<=S.tr.length+1:=a65;rw[show S.look (a::ks)=MS.look {S with tr:=G6 S.tr a true} ks from rfl,J5];have h':(MS.look {S with tr:=G6 S.tr a true} ks).tr.length<=(G6 S.tr a true).length+ks.length:=h;omega
def TrB(S:MS):Prop:=(∀k∈kys S,N9 k=true)/\(S.tr.length:Int)<=2+9*S.st
def TrS(S:MS):Prop:=(∀k∈kys S,N9 k=true)/\(S.tr.length:Int)+9<=2+9*S.st
def Jf{α:Type}(A:Prop)(S:MS)(o:Rs α):Prop:=(∀k∈kys S,k∈kys o.2)/\(A->TrB o.2)
theorem Jf.ret{A:Prop}{a:α ⊕ Int}(h:A->TrB S):Jf A S ((a,S):Rs α):=⟨λ_ h=>h,h⟩
theorem Jf.bind{β:Type}{A:Prop}{o:Rs α}{k:α->MS->Rs β}(h:Jf A S o)(hk:∀v,Jf (TrB o.2) o.2 (k v o.2)):Jf A S (bindM o k):=by
 cases ho:o.1 with
 |inl v=>rw[a0s ho];exact⟨λq hq=>(hk v).1 q (h.1 q hq),λa=>(hk v).2 (h.2 a)⟩
 |inr e=>rw[a0q ho];exact h
theorem Jf.look{o:Rs α}(hk:∀k∈ks,N9 k=true)(hl:ks.length<=9)(h:Jf (TrB (S.look ks)) (S.look ks) o):Jf (TrS S) S o:=
 ⟨λq hq=>h.1 q (a2W.2 (.inl hq)),λ⟨a,b⟩=>h.2 ⟨λq hq=>(a2W.1 hq).elim (a q) (hk q),by
  have:=b1v (S:=S) (ks:=ks);have e:(S.look ks).st=S.st:=G;omega⟩⟩
theorem TrS.b(h:TrS S):TrB S:=⟨h.1,by have:=h.2;omega⟩
structure FrW(F:Fr):Prop where
 src:a1b F.f
 de:DeG F.d
def HU(rec:Fr->Int->MS->Rs Int):Prop:=∀F,FrW F->∀i S,Jf (TrB S) S (rec F i S)
theorem b77(hc:McG c){x:En}{s:Src}(h:D2 c x=some (s,d)):a1b s/\DeG d:=by
 obtain⟨h1,h2⟩:=Z6 h;have:=hc.w.src _ _ h1;exact⟨this,this.dec d (n_3 h2)⟩
theorem d1e{rec:Int->MS->Rs Int}(HR:∀i S,Jf (TrB S) S (rec i S)):∀(l acc:List Int) (S:MS),Jf (TrB S) S (W3 rec acc l S)
 | [],_,_=>Jf.ret id
 |a::l,_,S=>Jf.bind (HR a S) λ_=>d1e HR l _ _
theorem c2X(hc:McG c)(HR:HU rec)(x:En)(args:List Int)(an:Bool)(S:MS):Jf (TrB S) S (H5 rec c x args an S):=by
 rw[H5]
 split
 .exact Jf.ret id
 .split
  .exact Jf.ret id
  .rename_i y hy;obtain⟨g1,g2⟩:=b77 hc (s:=y.1) (d:=y.2) hy;exact Jf.bind (HR ⟨y.1,y.2,args,an⟩ ⟨g1,g2⟩ _ {S with ac:=S.ac+1}) λv=>Jf.ret id
theorem b5Z(hF:FrW F)(hn:C0 x.name=true):(∀k∈U5 c F x,N9 k=true)/\(U5 c F x).length<=9:=by
 have hi:=hF.src.impl;refine⟨λk hk=>?_,?_⟩
 .obtain ⟨p,hp,rfl⟩:=D8.1 hk;refine e3i ?_ hn
  rcases I0.1 (a6B hp)with rfl|hp
  .exact hF.src.pkg.1
  .exact (hF.src.imp p hp).1
 .unfold U5 L5 a9w;rw[N0,b1U,J5];omega
theorem d8X(hc:McG c)(HR:HU rec)(hF:FrW F)(hn:C0 x.name=true)(S:MS):Jf (TrS S) S (a1A rec c F x S):=by
 obtain⟨h1,h2⟩:=b5Z (c:=c) hF hn;refine Jf.look h1 h2 ?_;rw[a1A]
 split
 .exact Jf.ret id
 .exact Jf.bind (d1e (HR F hF) _ _ _) λvs=>by
   split
   .exact Jf.ret id
   .exact c2X hc HR _ _ _ _
theorem a2F(hs:F6 s=true):(∀k∈H9 fl s,N9 k=true)/\(H9 fl s).length<=9:=by
 have k4:N9 ⟨4,s,[]⟩=true:=by simp[N9,hs]
 have k3:N9 ⟨3,s,[]⟩=true:=by simp[N9,hs]
 unfold H9
 split
 .exact ⟨λk hk=>by simp at hk;subst hk;exact k4,Q⟩
 .exact ⟨λk hk=>by simp at hk;rcases hk with rfl|rfl;exact k4;exact k3,Q⟩
theorem d9h(hc:McG c)(HR:HU rec)(hF:FrW F)(hn:F6 x.name=true)(S:MS):Jf (TrS S) S (a0I rec c F x S):=by
 obtain⟨h1,h2⟩:=a2F (fl:=c.fl) hn;refine Jf.look h1 h2 ?_;rw[a0I]
 split
 .exact Jf.ret id
 .refine Jf.bind (HR F hF _ _) λi=>?_;cases r8 c.fl x.name with
  |some b=>dsimp only;split<;>exact Jf.ret id
  |none=>
   dsimp only;split
   .exact Jf.ret id
   .exact Jf.bind (c2X hc HR _ _ _ _) λv=>Jf.ret id
theorem d8G(hc:McG c)(HR:HU rec)(hF:FrW F)(hx:F.d.body[i]?=some x)(S:MS):Jf (TrS S) S (W6 rec c F x S):=by
 have hn:=(hF.de.node hx).1;have up:∀{o:Rs Int},Jf (TrB S) S o->Jf (TrS S) S o:=λh=>⟨h.1,λa=>h.2 a.b⟩;rw[W6]
 split
 .exact Jf.ret TrS.b
 split
 .exact Jf.ret TrS.b
 split
 .rename_i h;exact d8X hc HR hF (hn.k3 h).1 S
 split
 .exact up (Jf.bind (HR F hF _ _) λa=>Jf.bind (HR F hF _ _) λb=>Jf.ret id)
 split
 .exact up (Jf.bind (HR F hF _ _) λa=>by split<;>exact HR F hF _ _)
 split
 .rename_i h;exact d9h hc HR hF (hn.k678 (.inl h)) S
 split
 .rename_i h;exact Jf.look (a2F (hn.k678 (.inr (.inl h)))).1 (a2F (hn.k678 (.inr (.inl h)))).2 (Jf.ret id)
 split
 .rename_i h;exact Jf.look (a2F (hn.k678 (.inr (.inr h)))).1 (a2F (hn.k678 (.inr (.inr h)))).2 (Jf.ret id)
 split
 .rename_i h;exact Jf.look (λk hk=>by simp at hk;subst hk;simp[N9,hn.k9 h]) Q (Jf.ret id)
 .exact Jf.ret (S:={S with rn:=true}) TrS.b
theorem c0O{c:MC}(hc:McG c):∀n:Nat,HU (evN c n)
 |0=>λF _ i S=>Jf.ret id
 |n+1=>λF hF i S=>by
  rw[evN,W2]
  split
  .exact Jf.ret id
  .split
   .exact Jf.ret id
   .rename_i x hx;obtain⟨h1,h2⟩:=d8G hc (c0O hc n) hF hx {S with st:=S.st+1};exact⟨h1,λa=>h2 ⟨a.1,by have:=a.2;show(S.tr.length:Int)+9<=2+9*(S.st+1);omega⟩⟩
def HGd(rec:Fr->Int->MS->Rs Int)(S:MS):Prop:=∀F:Fr,FrG F->∀(i:Int) (x:Ex),0<=i->F.d.body[i.toNat]?=some x->∀S1:MS,S.st<=S1.st->S1.st<=20000->0<=S1.ac->S1.ac<=64->Gd S1 (rec F i S1)
theorem HGd.ok(h:HGd rec S)(hF:FrG F)(ha:0<=S.ac/\S.ac<=64)(hx:F.d.body[i]?=some x):c5m (rec F) S x.args:=λa hm S1 hb=>by
 obtain⟨h1,h2⟩:=(hF.de.node hx).2 a hm;have hl:=(n_2.1 hx).1;obtain⟨h3,h4,h5⟩:=hb;exact h F hF a (F.d.body[a.toNat]'J) h1 Q S1 h3 h4 J J
theorem c8N(h:HGd rec S)(hb:SB S S1)(ha:0<=S.ac/\S.ac<=64){x:En}{s:Src}(hd:D2 c x=some (s,d))(hs:a1b s)(hm:d∈s.decls)(args:List Int)(an:Bool)(gB:args.length=d.params.length)(bZ:∀v∈args,InM v):Gd S1 (H5 rec c x args an S1):=by
 have hde:=hs.dec d hm;obtain⟨y,hl,hy⟩:=De.root hde;obtain⟨h3,h4,h5⟩:=hb;by_cases aB:S1.ac=64
 .rw [H5,W aB];exact Gd.pan h4
 .exact d1Z h4 hd (h ⟨s,d,args,an⟩ ⟨hs,hde,gB,bZ⟩ _ y J hy {S1 with ac:=S1.ac+1} h3 h4 (by show 0<=S1.ac+1;omega) (by show S1.ac+1<=64;omega))
theorem d4D(hc:McG c)(hF:FrG F)(hx:F.d.body[i]?=some x)(hs:S.st<=20000)(ha:0<=S.ac/\S.ac<=64)(h:HGd rec S):Gd S (W6 rec c F x S):=by
 obtain⟨hn,ap⟩:=hF.de.node hx;have hRc:=h.ok hF ha hx;have cS:=hn.cnt;have ia:=hn.kind;unfold W6
 split
 .rename_i k;exact Gd.ret (SB.refl hs) (hn.k1 k)
 split
 .rename_i k;obtain⟨h0,h1⟩:=hn.k2 k;have ai:x.num.toNat <F.args.length:=by rw[hF.al];omega
  have hv:F.args[x.num.toNat]?=some (F.args.getD x.num.toNat 0):=by simp[ai]
  exact Gd.ret (SB.refl hs) (hF.ab _ (n_3 hv))
 split
 .refine d2J hs hRc λh0 l S1 hl bZ hb=>?_;obtain⟨_,s,d,_,g3,g4,g5⟩:=b0S hc h0;exact c8N h hb ha g3 g4 g5 l _ (hl.trans (by rw[c8D,g3];rfl)) bZ
 split
 .rename_i k;exact c5O (by rw[cS,W k]) hs hRc
 split
 .rename_i k4 k5;exact c50 (by rw[cS,H k4,W k5]) hs hRc
 split
 .rename_i k4 k5 k6;refine d4f (by rw[cS,H k4,H k5,W k6]) hs hRc λh0 hd S1 hb=>?_;obtain⟨g1,s,d,_,g3,g4,g5,g6⟩:=b5r hc h0 hd;rw[g1];exact c8N h hb ha g3 g4 g5 [] false (by rw[(g4.dec d g5).pars (by rw[g6];decide)];rfl) λv hv=>by cases hv
 split
 .cases ho:a87 c x.name with
  |inl v=>exact Gd.ret (SB.look (SB.refl hs) _) (d4l (λf hf=>(hc.w.fb f hf).2) ho)
  |inr v=>exact Gd.panB (SB.look (SB.refl hs) _)
 split
 .refine Gd.ret (SB.look (SB.refl hs) _) ?_;unfold c9F
  split<;>exact⟨I,I⟩
 split
 .cases ho:b6h c x.name with
  |inl v=>exact Gd.ret (SB.look (SB.refl hs) _) (d9A hc.ev.2 ho)
  |inr v=>exact Gd.panB (SB.look (SB.refl hs) _)
 .exact Gd.ret (S1:={S with rn:=true}) (SB.refl hs) ⟨J,J⟩
theorem c7K{c:MC}(hc:McG c):∀(n:Nat) (F:Fr),FrG F->∀(i:Int) (x:Ex),0<=i->F.d.body[i.toNat]?=some x->∀S:MS,S.st<=20000->0<=S.ac->S.ac<=64->Gd S (evN c n F i S)
 |0,_,_,_,_,_,_,_,h2,_,_=>Gd.pan h2
 |n+1,F,hF,i,x,hi,hx,S,h2,h4,h5=>by
  rw[evN,W2,hx];by_cases he:S.st=20000
  .rw [W he];exact Gd.pan h2
  .rw [H he];obtain⟨d1,d2,d3⟩:=d4D hc hF hx (S:={S with st:=S.st+1}) (by show S.st+1<=20000;omega) ⟨h4,h5⟩ (rec:=evN c n) (λF' hF' j y hj hy S1 _ q2 q3 q4=>c7K hc n F' hF' j y hj hy S1 q2 q3 q4);have d1':S.st+1<=(W6 (evN c n) c F x {S with st:=S.st+1}).2.st:=d1;exact⟨by show S.st<=(W6 (evN c n) c F x {S with st:=S.st+1}).2.st;omega,d2,d3⟩
def MS0:MS:=⟨[],0,0,false⟩
structure c0H where
 res:Int×Int×Int
 rn:Bool
 tr:List Ky
 st:Int
abbrev c0H.cells(a:c0H):List CV:=[iv a.res.1,iv a.res.2.1,iv a.res.2.2,.val (.bool a.rn),.list (a.tr.map Ky.cv) (gnn a.tr.length) none,iv a.st]
theorem c0H.pure(a:c0H):o8 (.agg a.cells):=j5 ⟨.val _,.val _,.val _,.val _,D1 _ _,.val _,O⟩
noncomputable def mcR(fl:List Fi)(nn:Bool)(ev:List Va)(en:Bool)(wd:Int):MC:=⟨fl,nn,(w8 fl).1,(w8 fl).2.1,(w8 fl).2.2,ev,en,wd⟩
def T9(c:MC)(p o:D):En:=p8 true c.me 2 p o
def kyT(p o:D):Ky:=⟨2,p,o⟩
def a5u(c:MC)(p o:D):Rs Int:=H5 (evN c 20001) c (T9 c p o) [] false (MS0.look [kyT p o])
theorem d5Q(hm:L3 B fl)(hB:B<=16384)(he:a8X ev){wd:Int}(hw:0<=wd/\wd<18446744073709551616)(nn en:Bool):McG (mcR fl nn ev en wd) where
 w:=c3M (hm.valid hB)
 k:=c7A (hm.valid hB)
 ev:=⟨by show ev.length<=1000000;have:=he.len;omega,he.rng⟩
 wd:=hw
end Go.Proofs.YtncmhkpnclafkaaGreatDoor
