/- Part 3 of what the claim needs: values without addresses, and what the program's functions do with them. -/
import Derived.Shelf.LaysM
import Derived.Shelf.Strconv.Itoa3
import Derived.Test.YtlppbmfecjabeaaGreatDoorD2
set_option linter.all false
set_option maxRecDepth 100000
set_option maxHeartbeats 4000000
namespace Go.Proofs.YtlppbmfecjabeaaGreatDoor
open Go Go.Cl
variable{i q f m d aX parts L np i1 q1 q2:Nat}{σ τ rest:List b9}{α β:Type}{c c':CV}{va x:Bool}{br:List I}{u nm:I}{R:Nat->Nat->Prop}{P:α->Prop}{N:α->Nat}{bad:Prop}{ao:List Nat}{lv kd:Int}{vc:β->CV}
def B0(c:UInt8):I->List I
 | []=>[[]]
 |b::l=>if b=c then []::B0 c l else match B0 c l with
  |x::xs=>(b::x)::xs
  | []=>[[b]]
theorem a0e(c:UInt8)(s:I):B0 c s≠[]:=by
 cases s with
 |nil=>simp[B0]
 |cons b l=>
  rw[B0]
  split
  .simp
  .split<;>simp
theorem a0X(c:UInt8)(s:I):(B0 c s).length=s.count c+1:=by
 induction s with
 |nil=>rfl
 |cons b l ih=>
  rw[B0,List.count_cons];by_cases h:b=c
  .rw [W h,n_9,ih,W (H h)]
  .rw [G h,G (H h)];cases hs:B0 c l with
   |nil=>exact absurd hs (a0e c l)
   |cons x xs=>rw[hs]at ih;simpa using ih
theorem a4Z{c:UInt8}:∀{s:I},Go.Lib.indexByte s c= -1->B0 c s=[s]
 | [],_=>rfl
 |b::l,h=>by
  rw[Go.Lib.indexByte]at h;by_cases hb:b=c
  .rw [W (H hb)]at h;omega
  .rw [G (H hb)]at h;have hl:Go.Lib.indexByte l c= -1:=by
    have:=Go.Lib.indexByte_ge l c;split at h
    .rename_i e;simpa using e
    .omega
   rw[B0,G hb,a4Z hl]
theorem a4G{c:UInt8}:∀{s:I} {m:Nat},Go.Lib.indexByte s c=m->m<s.length/\B0 c s=s.take m::B0 c (s.drop (m+1))
 | [],m,h=>by rw[Go.Lib.indexByte]at h;omega
 |b::l,m,h=>by
  rw[Go.Lib.indexByte]at h;by_cases hb:b=c
  .rw [W (H hb)]at h;have hm:m=0:=by omega
   subst hm;exact⟨Q,by rw[B0,W hb];rfl⟩
  .rw [G (H hb)]at h;have hg:=Go.Lib.indexByte_ge l c;split at h
   .omega
   .rename_i e;have e':Go.Lib.indexByte l c≠-1:=H e;obtain⟨k,hk⟩:∃k:Nat,Go.Lib.indexByte l c=k:=⟨(Go.Lib.indexByte l c).toNat,J⟩;have hmk:m=k+1:=by omega
    subst hmk;obtain⟨h1,h2⟩:=a4G hk;refine⟨by simp;omega,?_⟩;rw[B0,G hb,h2];rfl
theorem c5W(n:Nat){d:List I}{k:Nat}:G7 n (.vec 1 (d.map scv++List.replicate k (scv []))):=λr hr c hc=>by
 rcases W0.1 hr with hr|hr
 .obtain ⟨x,_,rfl⟩:=H9.1 hr;simp[scv]at hc;subst hc;exact .val _
 .have:=List.eq_of_mem_replicate hr;subst this;simp[scv]at hc;subst hc;exact .val _
theorem c6r{d:List I}{k:Nat}(hk:0<k):(d.map scv++List.replicate k (scv []))[0+((d.length:Int)).toNat]?=some (scv []):=by
 rw[P2,a7d,a3i Q];simp[hk]
theorem c9F{d:List I}{n:Nat}{x:I}(hk:d.length <n):(d.map scv++List.replicate (n-d.length) (scv [])).set (0+((d.length:Int)).toNat) (scv x)=(d++[x]).map scv++List.replicate (n- (d++[x]).length) (scv []):=by
 rw[P2,a7d,List.set_append,G Q];obtain⟨j,hj⟩:∃j,n-d.length=j+1:=⟨n-d.length -1,J⟩;have h2:n- (d++[x]).length=j:=by simp;omega
 rw[hj,h2];simp[List.replicate_succ]
theorem a5Q(s:I)(c:UInt8)(hs:s.length<=1000000000)(σ:List b9):b8 CC 207 [(sv s),(sv ([c])),(iv (0)),(iv (-1))] σ λr aa=>r= .ret (.list ((B0 c s).map scv) true none)/\aa=σ:=by
 refine b8.anyw hCC pu_ pu_ ?_ σ;have hcnt:=s.count_le_length (a:=c);have di:([c]:I).length=1:=O;refine c9 (cO Tryz.func207 ?_);refine qs 3 ?_;refine cC ?_ ?_<;>intro h1
 .simp at h1
 .refine qk (V U1 ?_);refine cC ?_ ?_<;>intro h2
  .simp at h2
  .refine qk ?_;refine W3 hCC (α:=Unit) (λ_=>[(0,(sv s)),(1,(sv ([c]))),(2,(iv (0))),(3,(iv (((s.count c:Nat):Int)+1)))]) (λ_=>[]) (λ_=>True) A7 uz_ ?_ ?_
   .
    refine qk ?_;refine cC ?_ ?_<;>intro h3
    .refine qk (V (c4 O Tryz.call262 j7 (a8o s c _) O) ?_);refine V r6 ?_;exact⟨(),_,D,tu_,O⟩
    .simp at h3
   .intro _ _;refine a61 ?_;refine V r6 ?_;refine V (d5s O D D O O) ?_;refine qD (c6L O D D O O (n:=(s.count c+1)) (c:=(s.count c+1)) J J t_2 t_0 a5W t_4 O (a9Z O) O J G0 a5O ?_);refine V a0k ?_;refine m0 hCC (α:=List I×I) (λx=>[(0,(sv x.2)),(1,(sv ([c]))),(2,(iv (0))),(3,(iv ((s.count c:Nat):Int))),(9,.vec 0 0 (s.count c+1)),(10,iv x.1.length)]) (λx=>[.vec 1 (x.1.map scv++List.replicate (s.count c+1-x.1.length) (scv []))]) (λx=>x.1.length<=s.count c/\B0 c s=x.1++B0 c x.2/\x.2.length<=s.length) (λx=>s.count c+1-x.1.length) ([],s) ⟨n_4 _,O,n_6 _⟩ ⟨r7,r7,r7,⟨D,D9 (λz:Int=>(iv z)) J⟩,r7,r7,D⟩ (aj:=[]) O A7 uz_ ?_;intro⟨d,u⟩ ⟨hd,ai,hul⟩;dsimp only at hd ai hul⊢;have am:=a0X c s;rw[ai,n_8,a0X c u]at am;refine qk (qC ?_ ?_)<;> intro h4
    .have gE:d.length <s.count c:=sm_ h4;refine V (c4 O Tryz.call263 j7 (a8I u c _) O) ?_;refine cC ?_ ?_<;>intro h5
     .exfalso;have hneg:Go.Lib.indexByte u c= -1:=by
       have:=Go.Lib.indexByte_ge u c;have h5':Go.Lib.indexByte u c<0:=H h5;omega
      have h6:=a0X c u;rw[a4Z hneg]at h6;simp at h6;omega
     .have hm0:¬Go.Lib.indexByte u c<0:=H h5;obtain⟨m,hm⟩:∃m:Nat,Go.Lib.indexByte u c=m:=⟨(Go.Lib.indexByte u c).toNat,J⟩;obtain⟨hml,hsu⟩:=a4G hm;rw[hm];refine qk (V a5Z ?_);refine V (I9 (h:=m) O D O t_5 O a52 a34 a34) ?_;refine V (T3 O D D O O t_2 t_0 O J J) ?_;refine qD (a0J ((d++[u.take m]).map scv++List.replicate (s.count c+1- (d++[u.take m]).length) (scv [])) O D D O j3 t_0 (.inl O) O (c6r (d:=d) (k:=s.count c+1-d.length) J) O (nb O) (by exact c9F (d:=d) (x:=u.take m) (n:=s.count c+1) J) O ?_);refine V T7 ?_;refine V a5Z ?_;refine V (I9 (a:=(m+1)) O D O t_5 a52 O a34 a34) ?_;refine V r6 ?_;exact⟨(d++[u.take m],u.drop (m+1)),_,⟨by simp;omega,by simp;omega,by rw[ai,hsu];simp,by simp;omega⟩,⟨⟨D,(D9 sv (show(u.take u.length).drop (m+1)=u.drop (m+1) by rw[a9q]))⟩,r7,r7,r7,r7,⟨D,D9 (λz:Int=>(iv z)) Q⟩,D⟩,O⟩
    .have gE:d.length=s.count c:=by
      have:¬(d.length:Int)< ((s.count c:Nat):Int):=H h4;omega
     have hu1:B0 c u=[u]:=by
      apply a4Z;have h6:=a0X c u;have hg:=Go.Lib.indexByte_ge u c
      rcases Int.lt_or_le (Go.Lib.indexByte u c) 0 with h|h
      .omega
      .obtain ⟨m,hm⟩:∃m:Nat,Go.Lib.indexByte u c=m:=⟨(Go.Lib.indexByte u c).toNat,J⟩;obtain⟨_,h7⟩:=a4G hm;have h8:=D9 List.length h7;have h9:=a0e c (u.drop (m+1));have bj:=b2h.2 h9;simp only[n_9]at h8;omega
     rw[hu1]at ai;refine l9 ?_;refine V (T3 O D D O O t_2 t_0 O J J) ?_;refine qD (a0J ((d++[u]).map scv++List.replicate (s.count c+1- (d++[u]).length) (scv [])) O D D O j3 t_0 (.inl O) O (c6r (d:=d) (k:=s.count c+1-d.length) J) O (nb O) (by exact c9F (d:=d) (x:=u) (n:=s.count c+1) J) O ?_);refine V r6 ?_;refine V (a1J (h:=(d.length+1)) O D O t_2 t_0 O O a52 a7f (by first|(simp;done)|(simp;omega))) ?_;refine c6 ?_;exact⟨_,rE1,_,_,O,O,.vecs (n_4 _) O (by first|(simp;done)|(simp;omega)) (by rw[ai,b3S];exact List.take_left' Q) (λr hr c hc=>(C7 (f:=scv) (λ_=>P5.all ⟨.val _,D⟩) _) r hr c hc)⟩
theorem a8y(s:I)(c:UInt8)(hs:s.length<=1000000000)(σ:List b9):b8 CC 162 [(sv s),(sv ([c]))] σ λr aa=>r= .ret (.list ((B0 c s).map scv) true none)/\aa=σ:=by
 refine b8.anyw hCC pu_ pu_ (c9 (qO Tryz.func162 ?_)) σ;refine V (c4 O Tryz.call207 ⟨D,D,O,O,D⟩ (a5Q s c hs _) O) ?_;refine c6 ?_;exact⟨_,rE1,_,_,O,O,(Z7 O (o6 _ _))⟩
def a2X(p:I):Bool:=decide (1<=p.length)&&decide (p.length<=24)&&p.all (inK [1,2,3,4])
def E9(s:I):Bool:=decide (s.length<=80)&&decide ((B0 47 s).length<=8)&& (B0 47 s).all a2X
theorem c3p{c:UInt8}{s:I}:∀p∈B0 c s,p.length<=s.length:=by
 induction s with
 |nil=>intro p hp;simp[B0]at hp;subst hp;simp
 |cons b l ih=>
  intro p hp;rw[B0]at hp;by_cases h:b=c
  .rw [W h]at hp
   rcases J6.1 hp with rfl|hp
   .simp
   .have:=ih p hp;simp;omega
  .rw [G h]at hp;cases hs:B0 c l with
   |nil=>exact absurd hs (a0e c l)
   |cons x xs=>
    rw[hs]at hp ih
    rcases J6.1 hp with rfl|hp
    .have:=ih x Q;simp;omega
    .have:=ih p (by simp[hp]);simp;omega
theorem c2q(p:I){y z:Bool}(h1:x=decide ((p.length:Int)<1))(h2:y=decide ((p.length:Int) > 24))(h3:z= !((A4 p 0 [1,2,3,4]:Int) ==(p.length:Int))):((x ||y) ||z)= !a2X p:=by
 subst h1 h2 h3;have h5:((A4 p 0 [1,2,3,4]:Int) ==(p.length:Int))=p.all (inK [1,2,3,4]):=by
  cases h:p.all (inK [1,2,3,4])with
  |true=>exact a2h (by have:=a7q.2 h;omega)
  |false=>
   refine a2c λe=>?_;have:=a7q.1 (show A4 p 0 [1,2,3,4]=p.length by omega);rw[h]at this;cases this
 rw[h5,a2X];have h6:decide ((p.length:Int)<1)= !decide (1<=p.length):=by by_cases h:1<=p.length<;>simp[h]<;>omega
 have h7:decide ((p.length:Int) > 24)= !decide (p.length<=24):=by by_cases h:p.length<=24<;>simp[h]<;>omega
 rw[h6,h7];simp[Bool.not_and]
theorem a5C(s:I)(hs:s.length<=1000000000)(σ:List b9):b8 CC 118 [(sv s)] σ λr aa=>r= .ret (.val (.bool (E9 s)))/\aa=σ:=by
 refine b8.anyw hCC pu_ pu_ (c9 (qO Tryz.func118 ?_)) σ;refine V (c4 O Tryz.call162 o4 (a8y s 47 hs _) O) ?_;refine V T7 ?_;refine qG D2 ?_;refine qG (λhg=>a0a O hg O t_2 b1M O) ?_;refine a3l ?_;refine qC ?_ ?_<;>intro h1
 .have cA:E9 s=false:=by
   unfold E9;have dy:(decide ((s.length:Int) > 80) ||decide (((B0 47 s).length:Int) > 8))=true:=h1;by_cases h:s.length<=80
   .have h2:¬(B0 47 s).length<=8:=by
     intro h2;have e1:decide ((s.length:Int) > 80)=false:=a2c J;have e2:decide (((B0 47 s).length:Int) > 8)=false:=a2c J;rw[e1,e2]at dy;cases dy
    simp[h2]
   .simp [h]
  exact d3y
 .have cy:s.length<=80/\(B0 47 s).length<=8:=by
   have dy:(decide ((s.length:Int) > 80) ||decide (((B0 47 s).length:Int) > 8))=false:=h1;simp only[b8G,b17]at dy;omega
  refine qD (c5 O c71 trivial (b0U _) O ?_);intro m hm;refine V K6 ?_;refine m0 hCC (α:=Nat) (λi=>[(4,.map 0),(18,(.list ((B0 47 s).map scv) true none)),(19,(iv ((B0 47 s).length:Int))),(20,iv i)]) (λ_=>[.map (gm kb kv m)]) (λi=>i<=(B0 47 s).length/\((B0 47 s).take i).all a2X=true) (λi=>(B0 47 s).length -i) 0 ⟨n_4 _,O⟩ tu_ (aj:=[]) O A7 uz_ ?_;intro i ⟨hi,aK⟩;refine qk (qC ?_ ?_)<;> intro h2
  .have bM:(i:Int)< (B0 47 s).length:=H h2;obtain⟨p,hp⟩:∃p,(B0 47 s)[i]?=some p:=⟨(B0 47 s)[i]'J,Q⟩;have bf:=c3p p (n_2 hp);refine V (z8 O D D O O t_2 t_0 J (o7 hp) O) ?_;refine V T7 ?_;refine b5o ?_;refine a3l ?_;refine a1u ?_;refine qG (λhg=>B4 ([1,2,3,4].map icv) O ⟨O,O,O,O,D⟩ t_3 t_1 t_6 O O O O O O O O O) ?_;refine qG (λhg=>c4 O c5I ⟨hg,O,hg,hg,D⟩ (a7a hm (n_4 _) J U O) O) ?_;refine b5o ?_;refine b0C ?_;refine qC ?_ ?_<;>intro h3
   .have hbad:a2X p=false:=by
     have h3':true= !a2X p:=Eq.trans (Eq.symm h3) (c2q p O O O);simpa using h3'.symm
    have cA:E9 s=false:=by
     unfold E9;have:(B0 47 s).all a2X=false:=by
      rw[c1W];intro hh;have:=a2d.1 hh p (n_2 hp);rw[hbad]at this;cases this
     rw[this];simp
    exact d3y
   .have hgood:a2X p=true:=by
     have h3':false= !a2X p:=Eq.trans (Eq.symm h3) (c2q p O O O);simpa using h3'.symm
    refine V r6 ?_;exact⟨(i+1),_,⟨J,J,by
     obtain⟨ah,he⟩:=n_3.1 hp;rw[<- c0n ah,List.all_append,aK,he];simp[hgood]⟩,tu_,O⟩
  .have aH:(B0 47 s).length<=i:=by
    have:¬(i:Int)< (B0 47 s).length:=H h2;omega
   rw[a1i aH]at aK;refine W5 ?_;exact⟨_,rE1,_,_,O,O,o3 (by rw[E9,aK];simp[cy.1,cy.2])⟩
theorem c7D(c:Int):(decide (c>=97)&&decide (c<=122))=decide (j8 c=1):=by
 by_cases h:97<=c/\c<=122
 .have e:j8 c=1:=by unfold j8;rw[W h]
  simp[e,h.1,h.2]
 .have e:j8 c≠1:=by
   unfold j8;rw[G h]
   repeat' split
   all_goals omega
  have e2:¬(c>=97/\c<=122):=h;simp only[a2c e];by_cases h1:c>=97
  .have h2:¬c<=122:=λh2=>h ⟨h1,h2⟩;simp[h2]
  .simp [h1]
theorem d0S(b:UInt8){y z:Bool}(hx:x=decide (j8 b.toNat=1))(hy:y=(decide ((b.toNat:Int)>=48)&&decide ((b.toNat:Int)<=57)))(hz:z=((b.toNat:Int) == 95)):((x ||y) ||z)=inK [1,2,3] b:=by
 subst hx hy hz;unfold inK;generalize (b.toNat:Int)=c;have h2:(decide (c>=48)&&decide (c<=57))=decide (j8 c=2):=by
  by_cases h:48<=c/\c<=57
  .have e:j8 c=2:=by unfold j8;rw[G J,W h]
   simp[e,h.1,h.2]
  .have e:j8 c≠2:=by
    unfold j8
    repeat' split
    all_goals omega
   simp only[a2c e];by_cases h1:c>=48
   .have h2:¬c<=57:=λh2=>h ⟨h1,h2⟩;simp[h2]
   .simp [h1]
 have h3:(c == 95)=decide (j8 c=3):=by
  by_cases h:c=95
  .subst h;rfl
  .have e:j8 c≠3:=by
    unfold j8
    repeat' split
    all_goals omega
   rw[a2c e];simp[h]
 rw[h2,h3];simp[Bool.or_assoc]
theorem a4X(b:UInt8)(σ:List b9):b8 CC 131 [(.val (.int .u8 (b.toNat:Int)))] σ λr aa=>r= .ret (.val (.bool (decide (j8 b.toNat=1))))/\aa=σ:=by
 refine b8.anyw hCC pu_ pu_ (c9 (qO Tryz.func131 ?_)) σ;refine qG D2 ?_;refine a2g ?_;refine c6 ?_;exact⟨_,rE1,_,_,O,O,o3 (c7D _)⟩
theorem a6s(b:UInt8)(σ:List b9):b8 CC 119 [(.val (.int .u8 (b.toNat:Int)))] σ λr aa=>r= .ret (.val (.bool (inK [1,2,3] b)))/\aa=σ:=by
 refine b8.anyw hCC pu_ pu_ (c9 (qO Tryz.func119 ?_)) σ;refine V (c4 O c7z ⟨D,D⟩ (a4X b _) O) ?_;refine qG D2 ?_;refine b7Z ?_;refine qH O O (λhk hg=>a1j O D j3) ?_;refine d1Z ?_;refine V U8 ?_;refine qG D2 ?_;refine a3l ?_;refine c6 ?_;exact⟨_,rE1,_,_,O,O,o3 (d0S b O O O)⟩
theorem d8G{s:I}(h:(((decide ((s.length:Int)<1)) ||decide ((s.length:Int) > 24)) || !decide (j8 ((s.headD 0).toNat:Int)=1))=true):B5 s=false:=by
 cases s with
 |nil=>rfl
 |cons b l=>
  unfold B5;by_cases h1:(b::l).length<=24
  .have e1:decide (((b::l).length:Int) > 24)=false:=a2c J;have e2:decide (((b::l).length:Int)<1)=false:=a2c N4;rw[e1,e2]at h;have h3:j8 (b.toNat:Int)≠1:=H h;simp[h3]
  .simp only[a2c h1,Bool.false_and]
theorem e0t{s:I}(h:(((decide ((s.length:Int)<1)) ||decide ((s.length:Int) > 24)) || !decide (j8 ((s.headD 0).toNat:Int)=1))=false)(ha:s.all (inK [1,2,3])=true):B5 s=true:=by
 cases s with
 |nil=>simp at h
 |cons b l=>
  simp only[b8G,b17,Bool.not_eq_false']at h;unfold B5;have h1:(b::l).length<=24:=by omega
  have h3:j8 (b.toNat:Int)=1:=H h.2;rw[ha];simp only[a2h h1,a2h h3];rfl
theorem d3A{s:I}{b:UInt8}(hb:s[i]?=some b)(h:inK [1,2,3] b=false):B5 s=false:=by
 cases s with
 |nil=>rfl
 |cons x l=>
  unfold B5;have:(x::l).all (inK [1,2,3])=false:=by
   rw[c1W];intro hh;have:=a2d.1 hh b (n_2 hb);rw[h]at this;cases this
  rw[this];show(_&&false)=false;rw[Bool.and_false]
theorem c6M{s:I}{b:UInt8}{p:UInt8->Bool}(hb:s[i]?=some b)(ha:(s.take i).all p=true)(h:p b=true):(s.take (i+1)).all p=true:=by
 obtain⟨ah,rfl⟩:=n_3.1 hb;rw[<- c0n ah,List.all_append,ha];simp[h]
theorem a1E(s:I)(σ:List b9):b8 CC 85 [(sv s)] σ λr aa=>r= .ret (.val (.bool (B5 s)))/\aa=σ:=by
 refine b8.anyw hCC pu_ pu_ (c9 (qO Tryz.func85 ?_)) σ;refine V T7 ?_;refine b5o ?_;refine a3l ?_;refine qG D2 ?_;refine qG d9a ?_;refine qG (λhg=>c4 O c7z ⟨hg,D⟩ (a4X (s.headD 0) _) O) ?_;refine b8F ?_;refine qC ?_ ?_<;>intro h1
 .have cA:B5 s=false:=d8G h1;exact d3y
 .have cy:=e0t h1;have hs:s.length<=24:=sm_ h1;refine m0 hCC (α:=Nat) (λi=>[(0,(sv s)),(3,iv i)]) (λ_=>[]) (λi=>i<=s.length/\(s.take i).all (inK [1,2,3])=true) (λi=>s.length -i) 0 ⟨n_4 _,O⟩ tu_ (aj:=[]) O A7 uz_ ?_;intro i ⟨hi,aK⟩;refine a61 ?_;refine qC ?_ ?_<;>intro h2
  .have bM:(i:Int)<s.length:=H h2;obtain⟨b,hb⟩:=gx_ s i;refine V b60 ?_;refine V (c4 O c6S ⟨D,D⟩ (a6s b _) O) ?_;refine qC ?_ ?_<;>intro h3
   .have cA:B5 s=false:=d3A hb (H h3);exact d3y
   .refine V r6 ?_;exact⟨(i+1),_,⟨J,J,c6M hb aK (H h3)⟩,tu_,O⟩
  .have aH:s.length<=i:=by
    have:¬(i:Int)<s.length:=H h2;omega
   rw[a1i aH]at aK;refine W5 ?_;exact⟨_,rE1,_,_,O,O,o3 (by rw[cy aK])⟩
theorem d3R(b:UInt8){y:Bool}(hx:x=inK [1,2,3] b)(hy:y=((b.toNat:Int) == 46)):(x ||y)=inK [1,2,3,4] b:=by
 subst hx hy;unfold inK;generalize (b.toNat:Int)=c;have h4:(c == 46)=decide (j8 c=4):=by
  by_cases h:c=46
  .subst h;rfl
  .have e:j8 c≠4:=by
    unfold j8
    repeat' split
    all_goals omega
   rw[a2c e];simp[h]
 rw[h4];simp[Bool.or_assoc]
def a10(aX parts:Nat)(u:I):Bool:=match B0 47 u with
 | []=>false
 |p::ps=>decide (1<=aX+p.length)&&decide (aX+p.length<=24)&&p.all (inK [1,2,3,4])&&ps.all a2X&&decide (parts+ps.length<=8)
theorem b80{s:I}(h:s.length<=80):E9 s=a10 0 1 s:=by
 unfold E9 a10;cases hs:B0 47 s with
 |nil=>exact absurd hs (a0e 47 s)
 |cons p ps=>
  have e1:decide ((p::ps).length<=8)=decide (1+ps.length<=8):=by rw[n_9,b5w]
  rw[e1,a2h h];simp only[b1F,a2X,P2,b6g];cases decide (1+ps.length<=8)<;>simp
theorem d0i:a10 aX parts []=(decide (1<=aX)&&decide (aX<=24)&&decide (parts<=8)):=by
 simp[a10,B0]
theorem b97(h:aX<=24):a10 aX parts (47::u)=(decide (1<=aX)&&a10 0 (parts+1) u):=by
 unfold a10;rw[B0,W O];cases hs:B0 47 u with
 |nil=>exact absurd hs (a0e 47 u)
 |cons p ps=>
  have e:decide (parts+(p::ps).length<=8)=decide (parts+1+ps.length<=8):=b0u.2 N4;simp only[e,b1F,a2X,P2,R1,b1q,a2h h,List.all_nil,Bool.and_true,a98]
theorem d2W{b:UInt8}(hb:b≠47)(hk:inK [1,2,3,4] b=true):a10 aX parts (b::u)=a10 (aX+1) parts u:=by
 unfold a10;rw[B0,G hb];cases hs:B0 47 u with
 |nil=>exact absurd hs (a0e 47 u)
 |cons p ps=>
  have e:aX+(b::p).length=aX+1+p.length:=by simp;omega
  simp only[e,b1F,hk,b6g]
theorem c9W{b:UInt8}(hb:b≠47)(hk:inK [1,2,3,4] b=false):a10 aX parts (b::u)=false:=by
 unfold a10;rw[B0,G hb];cases hs:B0 47 u with
 |nil=>exact absurd hs (a0e 47 u)
 |cons p ps=>simp[hk]
theorem c5s(h:24<aX):a10 aX parts u=false:=by
 unfold a10
 split
 .rfl
 .rename_i p ps _;have:¬aX+p.length<=24:=by omega
  simp[this]
theorem c8F{s:I}{b:UInt8}(h:s[i]?=some b):s.drop i=b::s.drop (i+1):=by
 obtain⟨ah,rfl⟩:=n_3.1 h;exact U5 ah
theorem c8R:(decide ((aX:Int) > 0)&&decide ((parts:Int)<=8))=(decide (1<=aX)&&decide (parts<=8)):=by
 have e1:decide ((aX:Int) > 0)=decide (1<=aX):=b0u.2 J;have e2:decide ((parts:Int)<=8)=decide (parts<=8):=b0u.2 J;rw[e1,e2]
theorem a1I(s:I)(σ:List b9):b8 CC 61 [(sv s)] σ λr aa=>r= .ret (.val (.bool (E9 s)))/\aa=σ:=by
 refine b8.anyw hCC pu_ pu_ (c9 (qO Tryz.func61 ?_)) σ;refine V T7 ?_;refine qC ?_ ?_<;>intro h1
 .have h80:¬s.length<=80:=by
   have:(s.length:Int) > 80:=H h1;omega
  refine c6 ?_;exact⟨_,rE1,_,_,O,O,o3 (by simp[E9,h80])⟩
 .have h80:s.length<=80:=by
   have:¬(s.length:Int) > 80:=H h1;omega
  refine m0 hCC (α:=Nat×Nat×Nat) (λx=>[(0,(sv s)),(3,iv x.2.1),(4,iv x.2.2),(5,iv x.1)]) (λ_=>[]) (λx=>x.1<=s.length/\x.2.2<=24/\x.2.1<=x.1+1/\E9 s=a10 x.2.2 x.2.1 (s.drop x.1)) (λx=>s.length -x.1) (0,1,0) ⟨n_4 _,U,U,b80 h80⟩ tu_ (aj:=[]) O A7 uz_ ?_;intro⟨i,parts,aX⟩ ⟨hi,gc,hpa,aT⟩;dsimp only at hi gc hpa aT⊢;refine a61 ?_;refine qC ?_ ?_<;>intro h2
  .have bM:(i:Int)<s.length:=H h2;obtain⟨b,hb⟩:=gx_ s i;rw[c8F hb]at aT;refine V b60 ?_;refine qC ?_ ?_<;>intro h3
   .have hb47:b=47:=by
     have h47:(b.toNat:Int)=47:=H h3;have h48:(47:UInt8).toNat=47:=O;exact b8H.1 J
    subst hb47;rw[b97 gc]at aT;refine qC ?_ ?_<;>intro h4
    .have dF:aX=0:=by
      have:(aX:Int)=0:=H h4;omega
     subst dF;refine c6 ?_;exact⟨_,rE1,_,_,O,O,o3 (show false=E9 s by rw[aT];rfl)⟩
    .have dF:1<=aX:=by
      have:¬(aX:Int)=0:=H h4;omega
     rw[a2h dF,b6g]at aT;refine V r6 ?_;refine cC ?_ ?_<;>intro h5
     .exfalso;simp at h5
     .refine b1G ?_;exact⟨(i+1,parts+1,0),_,⟨do_,do_,do_,do_,aT⟩,tu_,O⟩
   .have hb47:b≠47:=by
     intro e;subst e;simp at h3
    refine V b60 ?_;refine V (c4 O c6S ⟨D,D⟩ (a6s b _) O) ?_;refine a1u ?_;refine qG d8S ?_;refine a3l ?_;refine qC ?_ ?_<;>intro h6
    .have bL:inK [1,2,3,4] b=true:=Eq.trans (Eq.symm (d3R b O O)) h6;rw[d2W hb47 bL]at aT;refine V r6 ?_;refine qC ?_ ?_<;>intro h7
     .have hbig:24<aX+1:=by
       have:((aX:Int)+1) > 24:=H h7;omega
      refine c6 ?_;exact⟨_,rE1,_,_,O,O,o3 (show false=E9 s by rw[aT,c5s hbig])⟩
     .have hbig:aX+1<=24:=by
       have:¬((aX:Int)+1) > 24:=H h7;omega
      refine V r6 ?_;exact⟨(i+1,parts,aX+1),_,⟨do_,do_,hbig,do_,aT⟩,tu_,O⟩
    .have bL:inK [1,2,3,4] b=false:=Eq.trans (Eq.symm (d3R b O O)) h6;rw[c9W hb47 bL]at aT;refine c6 ?_;exact⟨_,rE1,_,_,O,O,o3 (show false=E9 s from aT.symm)⟩
  .have aH:s.length<=i:=by
    have:¬(i:Int)<s.length:=H h2;omega
   rw[U4 aH,d0i,a2h gc,Bool.and_true]at aT;refine l9 ?_;refine qG D2 ?_;refine a2g ?_;refine c6 ?_;exact⟨_,rE1,_,_,O,O,o3 (Eq.trans c8R aT.symm)⟩
structure Ky where
 k:Int
 a:I
 b:I
deriving DecidableEq
variable{a:Nat}
abbrev Ky.cells(x:Ky):List CV:=[iv x.k,sv x.a,sv x.b]
def Ky.cv(x:Ky):List CV:=x.cells
theorem C1(l:List Ky)(nn:Bool):r9 (.list (l.map Ky.cv) nn none):=M4 (f:=Ky.cv) (λ_=>⟨.val _,.val _,.val _,D⟩) l nn
theorem a97(n:Nat)(l:List Ky)(nn:Bool):Old n (.list (l.map Ky.cv) nn none):=(C1 l nn).old
theorem b4E(n:Nat)(x:Ky):G7 n (.box x.cells):=A0 ⟨.val _,.val _,.val _,D⟩
def S5(x:Ky):Bool:=
 if(x.k == 1 ||x.k == 2)=true then B5 x.a &&B5 x.b else if(x.k == 3 ||x.k == 4)=true then E9 x.a &&decide (x.b=[])else if(x.k == 5 ||x.k == 6 ||x.k == 7)=true then B5 x.a &&decide (x.b=[])else false
theorem b6C(x:Ky)(σ:List b9):b8 CC 36 [.agg x.cells] σ λr aa=>r= .ret (.val (.bool (S5 x)))/\aa=σ:=by
 refine an_ Tryz.func36 ?_;refine qs 1 (qD (F1 O D j3 j1 ?_));refine J2 ?_;refine qs 1 ?_;refine W3 hCC (α:=Bool) (λb=>[(1,.ptr 0 0),(4,iv x.k),(5,(.val (.bool b)))]) (λ_=>[.box x.cells]) (λb=>b=(x.k == 1 ||x.k == 2)) A7 uz_ ?_ ?_
 .
  refine qk (qC ?_ ?_)<;> intro h1
  .exact ⟨(x.k == 1),_,(by simp_all),tu_,O⟩
  .exact ⟨(x.k == 2),_,(by simp_all),tu_,O⟩
 .intro b hb;refine cC ?_ ?_<;>intro h2
  .refine qk (V c1Z ?_);refine b6x ?_;refine qG (λhg=>c4 O c3U ⟨hg,D⟩ (a1E x.b _) O) ?_;refine b4T ?_;exact⟨_,rE1,_,_,O,O,o3 (show(B5 x.a &&B5 x.b)=S5 x by simp_all[S5])⟩
  .refine W3 hCC (α:=Bool) (λb=>[(1,.ptr 0 0),(4,iv x.k),(16,(.val (.bool b)))]) (λ_=>[.box x.cells]) (λb=>b=(x.k == 3 ||x.k == 4)) A7 uz_ ?_ ?_
   .
    refine qk (qC ?_ ?_)<;> intro h3
    .exact ⟨(x.k == 3),_,(by simp_all),tu_,O⟩
    .exact ⟨(x.k == 4),_,(by simp_all),tu_,O⟩
   .intro b2 bY;refine qC ?_ ?_<;>intro h4
    .refine V (c4 O c3A ⟨D,D⟩ (a1I x.a _) O) ?_;refine b6x ?_;refine qG b29 ?_;refine b4T ?_;exact⟨_,rE1,_,_,O,O,o3 (show(E9 x.a &&decide (x.b=[]))=S5 x by simp_all[S5])⟩
    .refine qC ?_ ?_<;>intro h5
     .refine qC ?_ ?_<;>intro h6
      .refine V c1Z ?_;refine b6x ?_;refine qG b29 ?_;refine V S6 ?_;exact d7g
      .refine qk ?_;exact d8e
     .refine qC ?_ ?_<;>intro h7
      .refine qC ?_ ?_<;>intro h8
       .refine V c1Z ?_;refine b6x ?_;refine qG b29 ?_;refine V S6 ?_;exact d7g
       .refine qk ?_;exact d8e
      .refine qC ?_ ?_<;>intro h9
       .refine V c1Z ?_;refine b6x ?_;refine qG b29 ?_;refine V S6 ?_;exact d7g
       .refine qk ?_;exact d8e
theorem b5y{P:Program}(a b:I)(w:World):(Extern.BytealgCompare.compare #[.string (str a),.string (str b)]).run P w= .ok (.int .i64 (Go.Lib.compareBytes a b)) w:=by
 have:=Go.Lib.run_compareString (P:=P) (str a) (str b) w;rw[this];simp[str]
def a2f(a b:Int):Int:=if a<b then -1 else if b<a then 1 else 0
def R2(x y:Ky):Int:=if a2f x.k y.k≠0 then a2f x.k y.k else if Go.Lib.compareBytes x.a y.a≠0 then Go.Lib.compareBytes x.a y.a else Go.Lib.compareBytes x.b y.b
theorem d4A:∀(a b:I),Op.bytesLess a b=decide (Go.Lib.compareBytes a b= -1)
 | [],[]=>rfl
 | [],_::_=>rfl
 |_::_,[]=>by simp[Op.bytesLess,Go.Lib.compareBytes]
 |x::a,y::b=>by
  rw[Op.bytesLess,Go.Lib.compareBytes,d4A a b];by_cases h:x<y
  .simp [h]
  .by_cases h':y<x
   .have:¬x=y:=λe=>h (by rw[e]at h';exact absurd h' Q);simp[h,h',this]
   .have:x=y:=by
     apply b8H.1;rw[b6K]at h h';omega
    subst this;simp
theorem b62:∀(a b:I),Go.Lib.compareBytes a b=0↔a=b
 | [],[]=>by simp[Go.Lib.compareBytes]
 | [],_::_=>by simp[Go.Lib.compareBytes]
 |_::_,[]=>by simp[Go.Lib.compareBytes]
 |x::a,y::b=>by
  rw[Go.Lib.compareBytes];by_cases h:x<y
  .have:¬x=y:=λe=>by rw[e]at h;exact absurd h Q
   simp[h,this]
  .by_cases h':y<x
   .have:¬x=y:=λe=>by rw[e]at h';exact absurd h' Q
    simp[h,h',this]
   .have:x=y:=by
     apply b8H.1;rw[b6K]at h h';omega
    subst this;simp[b62 a b]
theorem b30:∀(a b:I),Go.Lib.compareBytes b a= -Go.Lib.compareBytes a b
 | [],[]=>rfl
 | [],_::_=>rfl
 |_::_,[]=>rfl
 |x::a,y::b=>by
  rw[Go.Lib.compareBytes,Go.Lib.compareBytes,b30 a b];by_cases h:x<y
  .have:¬y<x:=λh'=>by
    rw[b6K]at h h';omega
   simp[h,this]
  .by_cases h':y<x<;>simp[h,h']
theorem b9L:∀(a b:I),Go.Lib.compareBytes a b= -1\/Go.Lib.compareBytes a b=0\/Go.Lib.compareBytes a b=1
 | [],[]=>.inr (.inl O)
 | [],_::_=>.inl O
 |_::_,[]=>.inr (.inr O)
 |x::a,y::b=>by
  rw[Go.Lib.compareBytes]
  split
  .exact .inl O
  .split
   .exact .inr (.inr O)
   .exact b9L a b
theorem b4B(a b:Int):a2f a b=0↔a=b:=by unfold a2f;split<;>(try split)<;>omega
theorem c29(x y:Ky):R2 x y=0↔x=y:=by
 obtain⟨k,a,b⟩:=x;obtain⟨k',a',b'⟩:=y;unfold R2;simp only[Ky.mk.injEq];have h1:=b4B k k';have h2:=b62 a a';have h3:=b62 b b'
 split
 .rename_i h;exact⟨λe=>absurd e h,λ⟨e,_⟩=>h1.2 e⟩
 .rename_i h;have hk:k=k':=h1.1 (H h)
  split
  .rename_i h;exact⟨λe=>absurd e h,λ⟨_,e,_⟩=>h2.2 e⟩
  .rename_i h;have ha:a=a':=h2.1 (H h);rw[h3];exact⟨λe=>⟨hk,ha,e⟩,λ⟨_,_,e⟩=>e⟩
theorem c30(x y:Ky):R2 y x= -R2 x y:=by
 unfold R2;have h1:a2f y.k x.k = -a2f x.k y.k:=by unfold a2f;split<;>split<;>(try split)<;>omega
 rw[h1,b30 x.a y.a,b30 x.b y.b];by_cases h:a2f x.k y.k=0
 .by_cases h':Go.Lib.compareBytes x.a y.a=0<;>simp[h,h']
 .simp [h]
theorem b0X(x y:Ky):R2 x y= -1\/R2 x y=0\/R2 x y=1:=by
 unfold R2
 split
 .unfold a2f
  split
  .exact .inl O
  .split
   .exact .inr (.inr O)
   .exact .inr (.inl O)
 .split
  .exact b9L _ _
  .exact b9L _ _
theorem d9Q(x y:Ky):∀w,(Op.equal 39 (.agg [.int .i64 x.k,.string (str x.a),.string (str x.b)].toArray) (.agg [.int .i64 y.k,.string (str y.a),.string (str y.b)].toArray)).run CC.P w= .ok (decide (x=y)) w:=λw=>by
 show(Op.equal _ _ _).run Tryz.prog w=_;simp[Op.equal,Op.maxDepth,go_sem,U9];obtain⟨a,b,c⟩:=x;obtain⟨a',b',c'⟩:=y;by_cases h1:a=a'<;>by_cases h2:b=b'<;>by_cases h3:c=c'<;>simp[h1,h2,h3]
theorem a8Z(a:Int)(σ:List b9):b8 CC 218 [iv a] σ λr aa=>r= .ret (.val (.bool false))/\aa=σ:=by
 refine b8.anyw hCC pu_ pu_ (c9 (qO Tryz.func218 ?_)) σ;refine c6 ?_;exact⟨_,rE1,_,_,O,O,o3 Q⟩
theorem b15(a b:Int)(σ:List b9):b8 CC 168 [iv a,iv b] σ λr aa=>r= .ret (iv (a2f a b))/\aa=σ:=by
 refine b8.anyw hCC pu_ pu_ (c9 (qO Tryz.func168 ?_)) σ;refine V (c4 O Tryz.call218 ⟨D,D⟩ (a8Z a _) O) ?_;refine V (c4 O Tryz.call218 ⟨D,D⟩ (a8Z b _) O) ?_;refine qC ?_ ?_<;>intro h1
 .cases h1
 .refine qC ?_ ?_<;>intro h3
  .cases h3
  .refine qC ?_ ?_<;>intro h4
   .have ah:a<b:=H h4;refine c6 ?_;exact⟨_,rE1,_,_,O,O,C8 (show(-1:Int)=a2f a b by rw[a2f,W ah])⟩
   .have aH:¬a<b:=H h4;refine qC ?_ ?_<;>intro h5
    .have ah:b<a:=H h5;refine c6 ?_;exact⟨_,rE1,_,_,O,O,C8 (show(1:Int)=a2f a b by rw[a2f,G aH,W ah])⟩
    .have hge2:¬b<a:=H h5;refine c6 ?_;exact⟨_,rE1,_,_,O,O,C8 (show(0:Int)=a2f a b by rw[a2f,G aH,G hge2])⟩
theorem d1L{l:List Int}{x:Int}(hx:l[i]?=some x)(hz:∀y∈l.take i,y=0)(h:x≠0):x=(l.find? λx=>decide (x≠0)).getD 0:=by
 obtain⟨ah,rfl⟩:=n_3.1 hx;have:l.find? (λx=>decide (x≠0))=some l[i]:=by
  rw[List.find?_eq_some_iff_getElem];refine⟨H h,i,ah,O,λj hj=>?_⟩;have:=hz l[j] (n_2 (i:=j) (by rw[a2L,W hj];simp));simp[this]
 rw[this];rfl
theorem d1c{l:List Int}{x:Int}(hx:l[i]?=some x)(hz:∀y∈l.take i,y=0)(h:x=0):∀y∈l.take (i+1),y=0:=by
 obtain⟨ah,rfl⟩:=n_3.1 hx;rw[<- c0n ah];intro y hy
 rcases W0.1 hy with hy|hy
 .exact hz y hy
 .rw [a9t.1 hy];exact h
theorem d2Q{l:List Int}(hz:∀y∈l,y=0):(0:Int)=(l.find? λx=>decide (x≠0)).getD 0:=by
 have:l.find? (λx=>decide (x≠0))=none:=List.find?_eq_none.2 λx hx=>by simp[hz x hx]
 rw[this];rfl
theorem c7r(l:List Int)(hl:l.length<=1000000)(σ:List b9):b8 CC 167 [(.list (l.map icv) true none)] σ λr aa=>r= .ret (iv ((l.find? λx=>decide (x≠0)).getD 0))/\aa=σ:=by
 refine b8.anyw hCC pu_ pu_ (c9 (qO Tryz.func167 ?_)) σ;refine V a1Q ?_;refine m0 hCC (α:=Nat) (λi=>[(3,(iv (0))),(6,(.list (l.map icv) true none)),(7,iv l.length),(8,iv i)]) (λ_=>[]) (λi=>i<=l.length/\∀x∈l.take i,x=0) (λi=>l.length -i) 0 ⟨n_4 _,Q⟩ tu_ (aj:=[]) O A7 uz_ ?_;intro i ⟨hi,hz⟩;refine qk (qC ?_ ?_)<;> intro h1
 .have bM:(i:Int)<l.length:=H h1;obtain⟨x,hx⟩:=gx_ l i;refine V (z8 O D D O O t_3 t_1 J (o7 hx) O) ?_;refine qC ?_ ?_<;>intro h2
  .have hx0:x≠0:=H h2;refine c6 ?_;exact⟨_,rE1,_,_,O,O,C8 (d1L hx hz hx0)⟩
  .have hx0:x=0:=H h2;refine V r6 ?_;exact⟨(i+1),_,⟨J,J,d1c hx hz hx0⟩,tu_,O⟩
 .have aH:l.length<=i:=by
   have:¬(i:Int)<l.length:=H h1;omega
  rw[a1i aH]at hz;refine W5 ?_;exact⟨_,rE1,_,_,O,O,C8 (d2Q hz)⟩
theorem a6G(a b:I)(σ:List b9):b8 CC 219 [(sv a),(sv b)] σ λr aa=>r= .ret (iv (Go.Lib.compareBytes a b))/\aa=σ:=by
 refine b8.anyw hCC pu_ pu_ (c9 (qO Tryz.func219 ?_)) σ;refine V (b9Q (e:=Extern.BytealgCompare.compare) O Tryz.func269 O O O O D D O O (λw=>b5y a b w)) ?_;exact c3t
theorem a2n(a b:I)(σ:List b9):b8 CC 169 [(sv a),(sv b)] σ λr aa=>r= .ret (iv (Go.Lib.compareBytes a b))/\aa=σ:=by
 refine b8.anyw hCC pu_ pu_ (c9 (qO Tryz.func169 ?_)) σ;refine V (c4 O Tryz.call219 j7 (a6G a b _) O) ?_;exact c3t
theorem d6w(x y:Ky):(([a2f x.k y.k,Go.Lib.compareBytes x.a y.a,Go.Lib.compareBytes x.b y.b].find? λx=>decide (x≠0)).getD 0)=R2 x y:=by
 unfold R2;by_cases h1:a2f x.k y.k=0
 .by_cases h2:Go.Lib.compareBytes x.a y.a=0
  .by_cases h3:Go.Lib.compareBytes x.b y.b=0<;>simp[h1,h2,h3]
  .simp [h1,h2]
 .simp [h1]
def ltK(x y:Ky):Bool:=decide (R2 x y= -1)
theorem c6l(x y:Ky):ltK y x=decide (R2 x y=1):=by
 rw[ltK,c30]
 rcases b0X x y with h|h|h<;>simp[h]
def b8O(v n:Int):Int:=if n<=1 then 0 else v%n
theorem a9L{v n:Int}(hn:1<=n):0<=b8O v n/\b8O v n<n:=by
 unfold b8O
 split
 .omega
 .exact ⟨Int.emod_nonneg _ J,Int.emod_lt_of_pos _ J⟩
def b3C(l:List Int)(at_:Nat):Int:=(l[at_]?).getD ((at_:Int)*7%11)
def M9(l:List Int)(at_:Nat)(n:Int):Int:=b8O (b3C l at_) n
abbrev x9(l:List Int)(nn:Bool)(at_:Nat):b9:=.box [.list (l.map icv) nn none,iv at_]
theorem G6(l:List Int)(nn:Bool)(k:Nat):b0G (x9 l nn k):=P5.all ⟨F4 _ _,.val _,D⟩
theorem b3I(v n:Int)(hn:n<=4611686018427387904)(σ:List b9):b8 CC 60 [iv v,iv n] σ λr aa=>r= .ret (iv (b8O v n))/\aa=σ:=by
 refine b8.anyw hCC pu_ pu_ (c9 (qO Tryz.func60 ?_)) σ;refine qC ?_ ?_<;>intro h1
 .have bk:n<=1:=H h1;refine c6 ?_;exact⟨_,rE1,_,_,O,O,C8 (by rw[b8O,W bk])⟩
 .have bk:¬n<=1:=H h1;have ht:v.tmod n=v%n\/v.tmod n+n=v%n/\v.tmod n<0:=by
   rcases Int.le_total 0 v with hv|hv
   .exact .inl (b5x hv)
   .rw [Int.tmod_eq_emod];split
    .exact .inl J
    .right;have:=Int.emod_lt_of_pos v (show 0<n by omega);have h5:(n.natAbs:Int)=n:=by omega
     omega
  have dz:=Int.emod_nonneg v (show n≠0 by omega);have ce:=Int.emod_lt_of_pos v (show 0<n by omega);have fX:=Int.tmod_lt_of_pos v (show 0<n by omega);have hm4: -n<=v.tmod n:=by omega
  refine V (T9 O D D O O (b0W J)) ?_;refine qC ?_ ?_<;>intro h2
  .have ah:v.tmod n<0:=H h2;refine V a5Z ?_;refine c6 ?_;exact⟨_,rE1,_,_,O,O,C8 (by rw[b8O,G bk];omega)⟩
  .have ah:¬v.tmod n<0:=H h2;refine c6 ?_;exact⟨_,rE1,_,_,O,O,C8 (by rw[b8O,G bk];omega)⟩
theorem J1(l:List Int)(nn:Bool)(k:Nat)(σ:List b9)(q:Nat)(hk:σ[q]?=some (x9 l nn k))(aV:k<=1000000000)(hl:l.length<=maxLen)(n:Int)(hn:n<=4611686018427387904):b8 CC 20 [.ptr q 0,iv n] σ λr aa=>∃_:Unit,r= .ret (iv (M9 l k n))/\aa=σ.set q (x9 l nn (k+1))/\True:=by
 have cH:=hl;unfold maxLen at cH;unfold x9 at hk;have hq:q<σ.length:=(n_3.1 hk).1;refine cO Tryz.func20 ?_;refine z_0 ?_;refine cY a54 ?_;refine b8u ?_;refine cY b2R ?_;refine cY b6S ?_;refine cY (c05 O D O O O J J) ?_;refine cY (T9 O D O O O (b9v J J)) ?_;refine b3r ?_;refine J2 ?_;refine cW 10 ?_;refine a3X ?_;refine hY b2R ?_;refine hY b6S ?_;refine a3X ?_;refine d4D ?_;refine hY a1Q ?_;refine hY a51 ?_;refine a1m (A6 ?_);refine cC ?_ ?_<;>intro h1
 .have ah:(k:Int)<l.length:=H h1;obtain⟨v,hv⟩:=gx_ l k;refine cW 11 ?_;refine a3X ?_;refine d4D ?_;refine a3X ?_;refine hY b2R ?_;refine hY b6S ?_;refine hY c1l ?_;refine hY a3r ?_;refine hY a2Z ?_;refine a1m ?_;refine b8u ?_;refine cY b2R ?_;refine cY b6S ?_;refine b5U ?_;refine d6j ?_;refine a4h ?_;refine cY A3 ?_;refine yc O Tryz.call60 j7 (b3I v n hn _) ?_;refine b1l ?_;exact⟨_,rE1,⟨(),by rw[M9,b3C,hv];rfl,O,D⟩⟩
 .have aH:¬(k:Int)<l.length:=H h1;have hv:l[k]?=none:=b9z J;refine D8 ?_;refine a6O ?_;refine cY b2R ?_;refine cY b6S ?_;refine b5U ?_;refine d6j ?_;refine a4h ?_;refine cY A3 ?_;refine yc O Tryz.call60 j7 (b3I _ n hn _) ?_;refine b1l ?_;exact⟨_,rE1,⟨(),by rw[M9,b3C,hv];rfl,O,D⟩⟩
theorem I4(l:List Int)(nn:Bool)(k:Nat)(σ:List b9)(q:Nat)(hk:σ[q]?=some (x9 l nn k))(aV:k<=1000000000)(hl:l.length<=maxLen)(n m:Int)(hn:m<=4611686018427387904):b8 CC 12 [.ptr q 0,iv n,iv m] σ λr aa=>∃_:Unit,r= .ret (.val (.bool (decide (M9 l k m<n))))/\aa=σ.set q (x9 l nn (k+1))/\True:=by
 refine qO Tryz.func12 ?_;refine qD (c5 O a6p j7 (J1 l nn k σ q hk aV hl m hn) O ?_);intro _ _;refine c6 ?_;exact⟨_,rE1,⟨(),O,O,D⟩⟩
theorem a23(l:List Int)(nn:Bool)(k:Nat)(σ:List b9)(q:Nat)(hk:σ[q]?=some (x9 l nn k))(aV:k<=1000000000)(hl:l.length<=maxLen)(ls:List Int)(eJ:ls≠[])(hln:ls.length<=1000):b8 CC 51 [.ptr q 0,.list (ls.map icv) true none] σ λr aa=>∃v:Int,r= .ret (iv v)/\aa=σ.set q (x9 l nn (k+1))/\v∈ls:=by
 have iw:=b2h.2 eJ;have hb:=a9L (v:=b3C l k) (n:=(ls.length:Int)) J;obtain⟨v,hv⟩:∃v,ls[(M9 l k (ls.length:Int)).toNat]?=some v:=⟨ls[(M9 l k (ls.length:Int)).toNat]'(by unfold M9;omega),Q⟩;have gS:0<=M9 l k (ls.length:Int):=hb.1;refine qO Tryz.func51 ?_;refine V a1Q ?_;refine cC ?_ ?_<;>intro h1
 .exfalso;simp at h1;exact eJ h1
 .refine qk (V a1Q ?_);refine qD (c5 O a6p j7 (J1 l nn k σ q hk aV hl (ls.length:Int) J) O ?_);intro _ _;refine V c1l ?_;exact d5u
theorem K7(l:List Int)(nn:Bool)(k:Nat)(σ:List b9)(q:Nat)(hk:σ[q]?=some (x9 l nn k))(aV:k<=1000000000)(hl:l.length<=maxLen)(ls:List I)(eJ:ls≠[])(hln:ls.length<=1000):b8 CC 19 [.ptr q 0,.list (ls.map scv) true none] σ λr aa=>∃v:I,r= .ret (sv v)/\aa=σ.set q (x9 l nn (k+1))/\v∈ls:=by
 have iw:=b2h.2 eJ;have hb:=a9L (v:=b3C l k) (n:=(ls.length:Int)) J;obtain⟨v,hv⟩:∃v,ls[(M9 l k (ls.length:Int)).toNat]?=some v:=⟨ls[(M9 l k (ls.length:Int)).toNat]'(by unfold M9;omega),Q⟩;have gS:0<=M9 l k (ls.length:Int):=hb.1;refine qO Tryz.func19 ?_;refine V K6 ?_;refine cC ?_ ?_<;>intro h1
 .exfalso;simp at h1;exact eJ h1
 .refine qk (V K6 ?_);refine qD (c5 O a6p j7 (J1 l nn k σ q hk aV hl (ls.length:Int) J) O ?_);intro _ _;refine V (z8 O D D O O t_2 t_0 J (o7 hv) O) ?_;exact d5u
def W2:List I:=([[112],[113],[115]]:List I)
theorem a56(σ:List b9):b8 CC 69 [] σ λr aa=>r= .ret (.list (W2.map scv) true none)/\aa=σ:=by
 refine b8.anyw hCC pu_ pu_ (c9 (qO Tryz.func69 ?_)) σ;refine V (B4 (W2.map scv) O ⟨O,O,O,D⟩ t_2 t_0 t_4 O O O O O O O O O) ?_;exact c6O
def X8:List I:=([[102],[103],[104],[107]]:List I)
theorem b1s(σ:List b9):b8 CC 29 [] σ λr aa=>r= .ret (.list (X8.map scv) true none)/\aa=σ:=by
 refine b8.anyw hCC pu_ pu_ (c9 (qO Tryz.func29 ?_)) σ;refine V (B4 (X8.map scv) O ⟨O,O,O,O,D⟩ t_2 t_0 t_4 O O O O O O O O O) ?_;exact c6O
def a5v:List I:=([[116],[117],[118]]:List I)
theorem b9s(σ:List b9):b8 CC 82 [] σ λr aa=>r= .ret (.list (a5v.map scv) true none)/\aa=σ:=by
 refine b8.anyw hCC pu_ pu_ (c9 (qO Tryz.func82 ?_)) σ;refine V (B4 (a5v.map scv) O ⟨O,O,O,D⟩ t_2 t_0 t_4 O O O O O O O O O) ?_;exact c6O
def a1G:List I:=([[97,46,100,97,116],[100,47,98,46,100,97,116],[99],[97,46,115,114,99],[120,46,115,114,99]]:List I)
theorem c0d(σ:List b9):b8 CC 83 [] σ λr aa=>r= .ret (.list (a1G.map scv) true none)/\aa=σ:=by
 refine b8.anyw hCC pu_ pu_ (c9 (qO Tryz.func83 ?_)) σ;refine V (B4 (a1G.map scv) O ⟨O,O,O,O,O,D⟩ t_2 t_0 t_4 O O O O O O O O O) ?_;exact c6O
def a0Y:List I:=([[110],[109]]:List I)
theorem b0O(σ:List b9):b8 CC 84 [] σ λr aa=>r= .ret (.list (a0Y.map scv) true none)/\aa=σ:=by
 refine b8.anyw hCC pu_ pu_ (c9 (qO Tryz.func84 ?_)) σ;refine V (B4 (a0Y.map scv) O ⟨O,O,D⟩ t_2 t_0 t_4 O O O O O O O O O) ?_;exact c6O
theorem Q5{v:I}(h:v∈W2\/v∈X8\/v∈a5v\/v∈a1G\/v∈a0Y):v.length<=8:=by
 rcases h with h|h|h|h|h<;>revert v<;>decide
def sub(s:I)(a e:Nat):I:=(s.take e).drop a
theorem c2e{s:I}{e:Nat}(h:e<=s.length):(sub s a e).length=e-a:=by simp[sub];omega
def preB(p s:I):Bool:=p.isPrefixOf s
def c0c(p s:I):Bool:=decide (p.length<=s.length)&&decide (s.drop (s.length -p.length)=p)
theorem d7U(s p:I){y:Bool}(hx:x=decide ((s.length:Int)>=p.length))(hy:x=true->y=decide ((s.take p.length).drop 0=p)):(x&&y)=preB p s:=by
 subst hx;by_cases h:(s.length:Int)>=p.length
 .rw [hy (a2h h),a2h h,b6g,b3S,preB];by_cases h2:s.take p.length=p
  .have:p.isPrefixOf s=true:=by rw[b7A];exact⟨s.drop p.length,by rw[show p++s.drop p.length=s.take p.length++s.drop p.length by rw[h2]];exact b25 _ _⟩
   simp[h2,this]
  .have:p.isPrefixOf s=false:=by
    cases hq:p.isPrefixOf s with
    |false=>rfl
    |true=>
     rw[b7A]at hq;obtain⟨t,rfl⟩:=hq;exact absurd (List.take_left' O) h2
   simp[h2,this]
 .have:p.isPrefixOf s=false:=by
   cases hq:p.isPrefixOf s with
   |false=>rfl
   |true=>
    rw[b7A]at hq;obtain⟨t,rfl⟩:=hq;exfalso;apply h;simp;omega
  rw[preB,this,a2c h];rfl
theorem d6t(s p:I){y:Bool}(hx:x=decide ((s.length:Int)>=p.length))(hy:x=true->y=decide ((s.take s.length).drop (s.length -p.length)=p)):(x&&y)=c0c p s:=by
 subst hx;unfold c0c;by_cases h:(s.length:Int)>=p.length
 .rw [hy (a2h h),a2h h,a9q,a2h (show p.length<=s.length by omega)]
 .rw [a2c h,a2c (show ¬p.length<=s.length by omega)];rfl
theorem b0y(s p:I)(σ:List b9):b8 CC 275 [(sv s),(sv p)] σ λr aa=>r= .ret (.val (.bool (preB p s)))/\aa=σ:=by
 refine b8.anyw hCC pu_ pu_ (c9 (qO Tryz.func275 ?_)) σ;refine V T7 ?_;refine V T7 ?_;refine a1u ?_;refine qG c0V ?_;refine qG (λhg=>I9 (h:=p.length) O hg O t_5 O ⟨hg,_,_,O,by first|omega|(simp at hg;omega),by first|omega|(simp at hg;omega)⟩ J (sm_ hg)) ?_;refine d3M ?_;refine b4T ?_;exact⟨_,rE1,_,_,O,O,o3 (d7U s p O λ_=>O)⟩
theorem a5K(s p:I)(σ:List b9):b8 CC 234 [(sv s),(sv p)] σ λr aa=>r= .ret (.val (.bool (preB p s)))/\aa=σ:=by
 refine b8.anyw hCC pu_ pu_ (c9 (qO Tryz.func234 ?_)) σ;refine V (c4 O Tryz.call275 j7 (b0y s p _) O) ?_;exact c96
theorem b0q(s p:I)(hs:s.length<=1000000000000)(hp:p.length<=1000000000000)(σ:List b9):b8 CC 188 [(sv s),(sv p)] σ λr aa=>r= .ret (.val (.bool (c0c p s)))/\aa=σ:=by
 refine b8.anyw hCC pu_ pu_ (c9 (qO Tryz.func188 ?_)) σ;refine V T7 ?_;refine V T7 ?_;refine a1u ?_;refine qG c0V ?_;refine b5o ?_;refine qG (λhg=>b6d O hg hg O O c0N c0N) ?_;refine qG (λhg=>I9 (a:=(s.length -p.length)) O hg O t_5 ⟨hg,_,_,O,by first|omega|(simp at hg;omega),by first|omega|(simp at hg;omega)⟩ O (sm_ hg) (n_6 _)) ?_;refine d3M ?_;refine b4T ?_;exact⟨_,rE1,_,_,O,O,o3 (d6t s p O λ_=>O)⟩
theorem a5S(s p:I)(hs:s.length<=1000000000000)(hp:p.length<=1000000000000)(σ:List b9):b8 CC 152 [(sv s),(sv p)] σ λr aa=>r= .ret (.val (.bool (c0c p s)))/\aa=σ:=by
 refine b8.anyw hCC pu_ pu_ (c9 (qO Tryz.func152 ?_)) σ;refine V (c4 O Tryz.call188 j7 (b0q s p hs hp _) O) ?_;exact c96
theorem b9x{s:I}{e:Nat}(h:e<s.length):s[e]?=some (s[e]?.getD 0):=by simp[h]
theorem c1k{p s:I}(h:preB p s=true):p.length<=s.length:=by
 unfold preB at h;rw[b7A]at h;exact h.length_le
structure Tok where
 k:Int
 t:I
 n:Int
 at_:Int
variable{T:List Tok}{t:Tok}
abbrev Tok.cells(x:Tok):List CV:=[iv x.k,sv x.t,iv x.n,iv x.at_]
def Tok.cv(x:Tok):List CV:=x.cells
theorem a3a(l:List Tok)(nn:Bool):r9 (.list (l.map Tok.cv) nn none):=M4 (f:=Tok.cv) (λ_=>⟨.val _,.val _,.val _,.val _,D⟩) l nn
theorem V2(n:Nat)(l:List Tok)(nn:Bool):Old n (.list (l.map Tok.cv) nn none):=(a3a l nn).old
def a4i(l:I):Int:=l.foldl (λn b=>min (10*n+((b.toNat:Int) -48)) 9007199254740993) 0
def a3H:I->Option Nat
 | []=>none
 |b::l=>if 32<=b.toNat/\b.toNat<=126 then(if b.toNat=34 then some 0 else(a3H l).map (· +1))else none
def D1(s:I)(a:Nat)(b:UInt8):Tok×Int×Int:=
 if j8 b.toNat=1 then
  (if 24<A4 s a [1,2,3] -a then(⟨0,[],0,0⟩,0,2)else(⟨1,sub s a (A4 s a [1,2,3]),0,0⟩,A4 s a [1,2,3],0))
 else if j8 b.toNat=2 then
  (if 9007199254740992<a4i (sub s a (A4 s a [2]))then(⟨0,[],0,0⟩,0,3)else(⟨2,[],a4i (sub s a (A4 s a [2])),0⟩,A4 s a [2],0))
 else if j8 b.toNat=7 then
  (match a3H (s.drop (a+1))with
   |none=>(⟨0,[],0,0⟩,0,9)
   |some n=>(⟨3,sub s (a+1) (a+1+n),0,0⟩,a+1+n+1,0))
 else if j8 b.toNat=8 then
  (if preB [61,61] (s.drop a)=true then(⟨4,sub s a (a+2),0,0⟩,a+2,0)else(⟨4,sub s a (a+1),0,0⟩,a+1,0))
 else(⟨0,[],0,0⟩,0,9)
theorem a3m{s:I}{e:Nat}{b:UInt8}(h:s[e]?=some b):a3H (s.drop e)=if 32<=b.toNat/\b.toNat<=126 then(if b.toNat=34 then some 0 else(a3H (s.drop (e+1))).map (· +1))else none:=by
 obtain⟨ah,rfl⟩:=n_3.1 h;rw[U5 ah];rfl
theorem b2I{s:I}{e:Nat}(h:s.length<=e):a3H (s.drop e)=none:=by rw[U4 h];rfl
theorem c4O{l:I}{j:Nat}{b:UInt8}(h:l[j]?=some b):a4i (l.take (j+1))=min (10*a4i (l.take j)+((b.toNat:Int) -48)) 9007199254740993:=by
 obtain⟨ah,rfl⟩:=n_3.1 h;rw[<- c0n ah,a4i,c20];rfl
theorem b3t{l:I}(h:∀b∈l,48<=b.toNat/\b.toNat<=57):0<=a4i l/\a4i l<=9007199254740993:=by
 unfold a4i
 suffices ∀(l:I) (n:Int),0<=n->n<=9007199254740993->(∀b∈l,48<=b.toNat/\b.toNat<=57)->0<=l.foldl (λn b=>min (10*n+((b.toNat:Int) -48)) 9007199254740993) n/\l.foldl (λn b=>min (10*n+((b.toNat:Int) -48)) 9007199254740993) n<=9007199254740993 from this l 0 J J h
 intro l
 induction l with
 |nil=>intro n h0 h1 _;exact⟨h0,h1⟩
 |cons b l ih=>
  intro n h0 h1 h;have hb:=h b Q;exact ih (min (10*n+((b.toNat:Int) -48)) 9007199254740993) J J λc hc=>h c (by simp[hc])
theorem a41{b:UInt8}:j8 b.toNat=2↔48<=b.toNat/\b.toNat<=57:=by
 unfold j8;constructor
 .intro h;split at h
  .omega
  .split at h
   .omega
   .exfalso;revert h;repeat' split
    all_goals omega
 .intro h;rw[G J,W J]
theorem d9E{c:Nat}(h:48<=c/\c<=57):IntKind.i64.wrap (IntKind.u8.wrap ((c:Int) -48))=(c:Int) -48:=by
 obtain⟨h1,h2⟩:=h;simp[IntKind.wrap,IntKind.bits,IntKind.signed];omega
theorem a1T{p:UInt8->Bool}{b:UInt8}:∀{l:I},b∈l.takeWhile p->p b=true
 | [],h=>by simp at h
 |c::l,h=>by
  rw[b53]at h;split at h
  .rename_i hc
   rcases J6.1 h with rfl|h
   .exact hc
   .exact a1T h
  .simp at h
theorem b3b{s:I}:∀b∈sub s a (A4 s a [2]),48<=b.toNat/\b.toNat<=57:=by
 intro b hb;have e:sub s a (A4 s a [2])=(s.drop a).takeWhile (inK [2]):=by
  unfold sub A4;rw[List.drop_take,c9f];have h:=List.takeWhile_prefix (inK [2]) (l:=s.drop a);exact(List.prefix_iff_eq_take.1 h).symm
 rw[e]at hb;have:=a1T hb;simp[inK]at this;exact a41.1 this
theorem c4b(s:I)(a:Nat)(b:UInt8)(hb:s[a]?=some b)(m:List (Int×Int))(hm:KM m)(hs:s.length<=1000000000000):b8 CC 190 [(sv s),iv a,.map 0] [b9.map (gm kb kv m)] λr τ=>∃_:Unit,a03 [b9.map (gm kb kv m)].length τ r (.ret (.tup [.agg (D1 s a b).1.cells,(iv ((D1 s a b).2.1)),(iv ((D1 s a b).2.2))]))/\a5T [b9.map (gm kb kv m)].length τ τ [b9.map (gm kb kv m)]/\[b9.map (gm kb kv m)].length<=[b9.map (gm kb kv m)].length/\True:=by
 have gF:=(n_3.1 hb).1;refine qO Tryz.func190 ?_;refine qD (l8 O t_9 O j1 ?_);refine V b60 ?_;refine V d9t ?_;refine qC ?_ ?_<;>intro h1
 .have bN:j8 b.toNat=1:=by rw[<- hm];simpa using h1
  have ai:=a19 (ks:=[1,2,3]) (show a<=s.length by omega);refine V (B4 ([1,2,3].map icv) O ⟨O,O,O,D⟩ t_3 t_1 t_6 O O O O O O O O O) ?_;refine V (c4 O c5I a36 (a7a hm J hs U O) O) ?_;refine V a8d ?_;refine qC ?_ ?_<;>intro h2
  .have hn:24<A4 s a [1,2,3] -a:=sm_ h2;refine V d2u ?_;refine z_2 ?_;exact⟨_,r8 (rs:=[.cell 6 231,.tmp 7,.tmp 8]) (cs:=[_,_,_]) O b1o (n_5 O),⟨(),.ret (Z7 (by rw[D1,W bN,W hn];rfl) pu_),⟨.same (X4 _ _),D⟩,n_6 _,D⟩⟩
  .have hn:¬24<A4 s a [1,2,3] -a:=sm_ h2;refine V (I9 (a:=a) (h:=(A4 s a [1,2,3])) O D O t_5 a3x a3x J J) ?_;refine V b9M ?_;refine z_2 ?_;exact⟨_,r8 (rs:=[.cell 6 231,.tmp 7,.tmp 8]) (cs:=[_,_,_]) O b1o (n_5 O),⟨(),.ret (Z7 (by rw[D1,W bN,G hn];rfl) pu_),⟨.same (X4 _ _),D⟩,n_6 _,D⟩⟩
 .have bN:¬j8 b.toNat=1:=by rw[<- hm];simpa using h1
  refine qC ?_ ?_<;>intro h3
  .have bW:j8 b.toNat=2:=by rw[<- hm];simpa using h3
   have ai:=a19 (ks:=[2]) (show a<=s.length by omega);have hdg:=b3b (s:=s) (a:=a);have hln:=c2e (a:=a) ai.2;generalize hl:sub s a (A4 s a [2])=ds at hdg hln;refine V (B4 ([2].map icv) O ⟨O,D⟩ t_3 t_1 t_6 O O O O O O O O O) ?_;refine V (c4 O c5I a36 (a7a hm J hs U O) O) ?_;refine V (I9 (a:=a) (h:=(A4 s a [2])) O D O t_5 a3x a3x J J) ?_;refine V (d4Q O D O t_5 a3C b2e (by have:=c2e (a:=a) ai.2;unfold sub at this;omega)) ?_;refine V c6w ?_;refine m0 hCC (α:=Nat) (λj=>[(6,.ptr 1 0),(10,(iv (A4 s a [2]:Int))),(11,(iv (a4i (ds.take j)))),(50,(.list (ds.map bcv) true none)),(51,iv ds.length),(52,iv j)]) (λ_=>[b9.map (gm kb kv m),.box (Tok.cells ⟨0,[],0,0⟩)]) (λj=>j<=ds.length) (λj=>ds.length -j) 0 (n_4 _) ⟨r7,r7,r7,⟨D,(by rw[<- hl];rfl)⟩,⟨D,(by rw[<- hl];rfl)⟩,r7,D⟩ (aj:=[]) O A7 uz_ ?_;intro j hj;refine qk (qC ?_ ?_)<;> intro h4
   .have cg:(j:Int)<ds.length:=H h4;obtain⟨c,hc⟩:=gx_ ds j;have hcd:=hdg c (n_2 hc);have hnb:=b3t (l:=ds.take j) λc hc=>hdg c (a6v hc);refine V (z8 O D D O O a3C a8B J (o7 hc) O) ?_;refine V (c05 O O D O O J J) ?_;refine V a1s ?_;refine V (a2K O D O b2e b7r (show IntKind.i64.wrap (IntKind.u8.wrap ((c.toNat:Int) -48))=(c.toNat:Int) -48 from d9E hcd)) ?_;refine V a5Z ?_;refine V (d5s O D O O O) ?_;refine V r6 ?_;exact⟨(j+1),_,⟨J,J⟩,⟨r7,r7,⟨D,(D9 (λz:Int=>iv z) (c4O hc).symm)⟩,r7,r7,r7,D⟩,O⟩
   .have cg:ds.length<=j:=by
     have:¬(j:Int)<ds.length:=H h4;omega
    rw[a1i cg]at*;refine l9 ?_;refine qC ?_ ?_<;>intro h5
    .have hn:9007199254740992<a4i (sub s a (A4 s a [2])):=by rw[hl];simpa using h5
     refine V d2u ?_;refine z_2 ?_;exact⟨_,r8 (rs:=[.cell 6 231,.tmp 7,.tmp 8]) (cs:=[_,_,_]) O b1o (n_5 O),⟨(),.ret (Z7 (by rw[D1,G bN,W bW,W hn];rfl) pu_),⟨.same (X4 _ _),D⟩,n_6 _,D⟩⟩
    .have hn:¬9007199254740992<a4i (sub s a (A4 s a [2])):=by rw[hl];simpa using h5
     refine V b9M ?_;refine z_2 ?_;exact⟨_,r8 (rs:=[.cell 6 231,.tmp 7,.tmp 8]) (cs:=[_,_,_]) O b1o (n_5 O),⟨(),.ret (Z7 (by rw[D1,G bN,W bW,G hn,hl];rfl) pu_),⟨.same (X4 _ _),D⟩,n_6 _,D⟩⟩
  .have bW:¬j8 b.toNat=2:=by rw[<- hm];simpa using h3
   refine qC ?_ ?_<;>intro h6
   .have fp:j8 b.toNat=7:=by rw[<- hm];simpa using h6
    refine V r6 ?_;refine m0 hCC (α:=Nat) (λe=>[(0,(sv s)),(1,iv a),(6,.ptr 1 0),(14,iv e)]) (λ_=>[b9.map (gm kb kv m),.box (Tok.cells ⟨0,[],0,0⟩)]) (λe=>a+1<=e/\e<=s.length/\a3H (s.drop (a+1))=(a3H (s.drop e)).map (· +(e- (a+1)))) (λe=>s.length -e) (a+1) ⟨n_6 _,J,by cases a3H (s.drop (a+1))<;>simp⟩ tu_ (aj:=[]) O A7 uz_ ?_;intro e ⟨iE,he2,he⟩;refine a61 ?_;refine a1u ?_;refine qG e0D ?_;refine a2g ?_;refine a1u ?_;refine qG e0D ?_;refine a2g ?_;refine qC ?_ ?_<;>intro h7
    .have fS:e<s.length/\32<=(s[e]?.getD 0).toNat/\(s[e]?.getD 0).toNat<=126:=sm_ h7;obtain⟨c,hc,hcd⟩:∃c,s[e]?=some c/\s[e]?.getD 0=c:=⟨s[e]?.getD 0,b9x fS.1,O⟩;rw[hcd]at fS;rw[a3m hc,W fS.2]at he;refine V (J8 O D D O O t_5 J hc) ?_;refine qC ?_ ?_<;>intro h8
     .have h34:c.toNat=34:=sm_ h8;rw[W h34]at he;obtain⟨n,rfl⟩:∃n,e=a+1+n:=⟨e- (a+1),J⟩;have fa:a3H (s.drop (a+1))=some n:=by rw[he];simp
      refine V r6 ?_;refine V (I9 (a:=(a+1)) (h:=(a+1+n)) O D O t_5 a3x a3x J J) ?_;refine V b9M ?_;refine V r6 ?_;refine z_2 ?_;exact⟨_,r8 (rs:=[.cell 6 231,.tmp 7,.tmp 8]) (cs:=[_,_,_]) O b1o (n_5 O),⟨(),.ret (Z7 (by rw[D1,G bN,G bW,W fp,fa];rfl) pu_),⟨.same (X4 _ _),D⟩,n_6 _,D⟩⟩
     .have h34:¬c.toNat=34:=sm_ h8;rw[G h34]at he;refine V r6 ?_;exact⟨(e+1),_,⟨J,J,J,by rw[he];cases a3H (s.drop (e+1))<;>simp;omega⟩,tu_,O⟩
    .have cA:a3H (s.drop e)=none:=by
      rcases a4g e s.length with h|h
      .rw [a3m (b9x h),G];intro hh;simp at h7;omega
      .exact b2I h
     rw[cA]at he;refine l9 ?_;refine V d2u ?_;refine z_2 ?_;exact⟨_,r8 (rs:=[.cell 6 231,.tmp 7,.tmp 8]) (cs:=[_,_,_]) O b1o (n_5 O),⟨(),.ret (Z7 (by rw[D1,G bN,G bW,W fp,he];rfl) pu_),⟨.same (X4 _ _),D⟩,n_6 _,D⟩⟩
   .have fp:¬j8 b.toNat=7:=by rw[<- hm];simpa using h6
    refine qC ?_ ?_<;>intro h9
    .have hk8:j8 b.toNat=8:=by rw[<- hm];simpa using h9
     refine V r6 ?_;refine V (I9 (a:=a) O D O t_5 a3x O J (n_6 _)) ?_;refine V (c4 O Tryz.call234 o4 (a5K ((s.take s.length).drop a) [61,61] _) O) ?_;refine qC ?_ ?_<;>intro bj
     .rw [a9q]at bj;have cu:=c1k bj;rw[b6k]at cu;have cu:2<=s.length -a:=cu;refine V r6 ?_;refine V (I9 (a:=a) (h:=(a+2)) O D O t_5 a3x a3x J J) ?_;refine V b9M ?_;refine z_2 ?_;exact⟨_,r8 (rs:=[.cell 6 231,.tmp 7,.tmp 8]) (cs:=[_,_,_]) O b1o (n_5 O),⟨(),.ret (Z7 (by rw[D1,G bN,G bW,G fp,W hk8,W bj];rfl) pu_),⟨.same (X4 _ _),D⟩,n_6 _,D⟩⟩
     .rw [a9q]at bj;have hp0:¬preB [61,61] (s.drop a)=true:=by rw[bj];decide
      refine V (I9 (a:=a) (h:=(a+1)) O D O t_5 a3x a3x J J) ?_;refine V b9M ?_;refine z_2 ?_;exact⟨_,r8 (rs:=[.cell 6 231,.tmp 7,.tmp 8]) (cs:=[_,_,_]) O b1o (n_5 O),⟨(),.ret (Z7 (by rw[D1,G bN,G bW,G fp,W hk8,G hp0];rfl) pu_),⟨.same (X4 _ _),D⟩,n_6 _,D⟩⟩
    .have hk8:¬j8 b.toNat=8:=by rw[<- hm];simpa using h9
     refine V d2u ?_;refine z_2 ?_;exact⟨_,r8 (rs:=[.cell 6 231,.tmp 7,.tmp 8]) (cs:=[_,_,_]) O b1o (n_5 O),⟨(),.ret (Z7 (by rw[D1,G bN,G bW,G fp,G hk8];rfl) pu_),⟨.same (X4 _ _),D⟩,n_6 _,D⟩⟩
theorem c6W{s:I}{b:UInt8}(hb:s[a]?=some b){m:List (Int×Int)}(hm:KM m)(hs:s.length<=1000000000000)(hq:σ[q]?=some (.map (gm kb kv m))):b8 CC 190 [(sv s),iv a,.map q] σ λr τ=>r= .ret (.tup [.agg (D1 s a b).1.cells,(iv ((D1 s a b).2.1)),(iv ((D1 s a b).2.2))])/\τ=σ:=
 b0z hCC (d0c m) pu_ hq (.cons (.val _) (.cons (.val _) (.cons (.map O) .nil))) (c4b s a b hb m hm hs)
def Q9(s:I)(a:Nat):Nat:=a+((s.drop a).takeWhile (· != 10)).length
theorem c0U:∀(l:I),(Go.Lib.indexByte l 10<0->(l.takeWhile (· != 10)).length=l.length)/\(0<=Go.Lib.indexByte l 10->Go.Lib.indexByte l 10=((l.takeWhile (· != 10)).length:Nat))
 | []=>⟨λ_=>O,λh=>by rw[Go.Lib.indexByte]at h;omega⟩
 |b::l=>by
  have ih:=c0U l;rw[Go.Lib.indexByte,b53];by_cases hb:b=10
  .subst hb;exact⟨λh=>by simp at h,λh=>by simp⟩
  .have h1:(b != 10)=true:=H hb;have h2:(b == 10)=false:=H hb;rw[h1,h2];have hg:=Go.Lib.indexByte_ge l 10;simp only[if_true,if_false,n_9,b7N];by_cases h3:Go.Lib.indexByte l 10= -1
   .rw [h3];have:=ih.1 J;exact⟨λ_=>by simp;omega,λh=>by simp at h⟩
   .rw [G (H h3)];have:=ih.2 J;exact⟨λh=>by omega,λ_=>by omega⟩
theorem a7H{s:I}(h:a<=s.length):Q9 s a<=s.length:=by
 unfold Q9;have:=(List.takeWhile_sublist (· != 10) (l:=s.drop a)).length_le;rw[b6k]at this;omega
theorem b1m{s:I}{b:UInt8}(h:s[a]?=some b)(hb:j8 b.toNat=6):a<Q9 s a:=by
 obtain⟨ah,rfl⟩:=n_3.1 h;unfold Q9;rw[U5 ah,b53];have:(s[a] != 10)=true:=by
  cases hq:(s[a] != 10)with
  |true=>rfl
  |false=>
   have:s[a]=10:=H hq;rw[this]at hb;revert hb;decide
 rw[this];simp
def a0E:Nat->I->Nat->Option (List Tok)
 |0,_,_=>none
 |f+1,s,i=>match s[A4 s i [5]]? with
  |none=>some [⟨5,[],0,(A4 s i [5]:Nat)⟩]
  |some b=>if j8 b.toNat=6 then a0E f s (Q9 s (A4 s i [5]))
   else if(D1 s (A4 s i [5]) b).2.2≠0 then none
   else(a0E f s (D1 s (A4 s i [5]) b).2.1.toNat).map (({(D1 s (A4 s i [5]) b).1 with at_:=(A4 s i [5]:Nat)}:Tok)::·)
def a2P(s:I):Option (List Tok):=if 16384<s.length then none else a0E (s.length+1) s 0
theorem b6p{s:I}(h:i1=A4 s i [5])(h2:s.length<=i1):a0E (f+1) s i=some [⟨5,[],0,(i1:Nat)⟩]:=by
 subst h;rw[a0E,b9z h2]
theorem b67{s:I}{b:UInt8}(h:i1=A4 s i [5])(h2:s[i1]?=some b)(h3:j8 b.toNat=6):a0E (f+1) s i=a0E f s (Q9 s i1):=by
 subst h;rw[a0E,h2];simp only;rw[W h3]
theorem b6F{s:I}{b:UInt8}(h:i1=A4 s i [5])(h2:s[i1]?=some b)(h3:¬j8 b.toNat=6)(h4:(D1 s i1 b).2.2≠0):a0E (f+1) s i=none:=by
 subst h;rw[a0E,h2];simp only;rw[G h3,W h4]
theorem b6c{s:I}{b:UInt8}(h:i1=A4 s i [5])(h2:s[i1]?=some b)(h3:¬j8 b.toNat=6)(h4:¬(D1 s i1 b).2.2≠0):a0E (f+1) s i=(a0E f s (D1 s i1 b).2.1.toNat).map (({(D1 s i1 b).1 with at_:=(i1:Nat)}:Tok)::·):=by
 subst h;rw[a0E,h2];simp only;rw[G h3,G h4]
theorem c1Y:∀{l:I} {n:Nat},a3H l=some n->n<l.length
 | [],n,h=>by cases h
 |b::l,n,h=>by
  rw[a3H]at h;split at h
  .split at h
   .injection h with h;subst h;simp
   .cases hq:a3H l with
    |none=>rw[hq]at h;cases h
    |some k=>rw[hq]at h;injection h with h;subst h;have:=c1Y hq;simp;omega
  .cases h
theorem b5Y{s:I}{b:UInt8}{ks:List Int}(h:s[a]?=some b)(hk:inK ks b=true):a<A4 s a ks:=by
 rw[V0 h,W hk];have:=(a19 (s:=s) (a:=a+1) (ks:=ks) (n_3.1 h).1).1;omega
theorem a5r{s:I}{b:UInt8}(h:s[a]?=some b)(h4:¬(D1 s a b).2.2≠0):∃e:Nat,(D1 s a b).2.1=e/\a<e/\e<=s.length:=by
 have ah:=(n_3.1 h).1;unfold D1 at h4⊢;split at h4
 .rename_i hk;rw[W hk];split at h4
  .simp at h4
  .rename_i hn;rw[G hn];exact⟨_,O,b5Y h (by simp[inK,hk]),(a19 J).2⟩
 .rename_i hk;rw[G hk];split at h4
  .rename_i bW;rw[W bW];split at h4
   .simp at h4
   .rename_i hn;rw[G hn];exact⟨_,O,b5Y h (by simp[inK,bW]),(a19 J).2⟩
  .rename_i bW;rw[G bW];split at h4
   .rename_i fp;rw[W fp];cases hq:a3H (s.drop (a+1))with
    |none=>rw[hq]at h4;simp at h4
    |some n=>
     have:=c1Y hq;rw[b6k]at this;exact⟨a+1+n+1,O,J,J⟩
   .rename_i fp;rw[G fp];split at h4
    .rename_i hk8;rw[W hk8]
     split
     .rename_i hp;have:=c1k hp;rw[b6k]at this;have:2<=s.length -a:=this;exact⟨a+2,O,J,J⟩
     .exact ⟨a+1,O,J,J⟩
    .simp at h4
abbrev c3N:=List Tok×Bool×Int×Int
def d3t(s:I)(x:c3N):Prop:=(a2P s=some x.1/\x.2.1=true/\x.2.2.1=0/\x.2.2.2=0)\/(a2P s=none/\x.1=[]/\x.2.1=false/\x.2.2.2≠0)
abbrev c5v(x:c3N):CV:=.tup [.list (x.1.map Tok.cv) x.2.1 none,iv x.2.2.1,iv x.2.2.2]
theorem c0i(s:I)(hs:s.length<=1000000000000):b8 CC 153 [(sv s)] [] λr τ=>∃x:c3N,a03 0 τ r (.ret (c5v x))/\d3t s x:=by
 refine qO Tryz.func153 ?_;refine c8N 0 (λ_ _ _=>False) O ?_ (λ_ _ _ h=>h.elim);refine a61 ?_;refine qC ?_ ?_<;>intro h1
 .have hl:16384<s.length:=sm_ h1;refine c6 ?_;exact⟨_,r8 (rs:=[.tmp 2,.tmp 3,.tmp 4]) (cs:=[_,_,_]) O b2M (n_5 O),⟨([],false,0,2),by exact .ret (.tups ⟨.old (V2 _ [] false),.old (.val _),.old (.val _),D⟩),.inr ⟨by rw[a2P,W hl],O,O,U⟩⟩⟩
 .have hl:¬16384<s.length:=sm_ h1;refine qD (c5 O c71 trivial (b0U _) O ?_);intro m hm;refine b7f ?_;refine C5 hCC 1 O (α:=List Tok×Nat) (λx=>[(0,(sv s)),(2,(.list (x.1.map Tok.cv) (gnn x.1.length) (G9 x.1.length 1))),(5,.map 0),(6,iv x.2)]) (λx=>[.map (gm kb kv m),p7 x.1.length]) (λx=>x.2<=s.length/\x.1.length<=x.2/\∃f,s.length -x.2 <f/\a2P s=(a0E f s x.2).map (x.1++·)) (λx=>s.length -x.2) ⟨([],0),[0,7],⟨n_4 _,n_6 _,s.length+1,Q,by rw[a2P,G hl];simp⟩,⟨O,O⟩,ut_,(by repeat' (first|exact D|exact .inl O|exact .inr ⟨_,O,.same O F0⟩|exact .inr ⟨_,O,.same (cV _ _ _) F0⟩|exact .inr ⟨_,O,.same O (by repeat' (first|exact D|exact .val _|exact .ptr (nb O)|exact .map (nb O)|exact d3j|refine A0 ?_|refine⟨?_,?_⟩))⟩|exact .inr ⟨_,O,.box (by repeat' (first|exact D|exact .same O uo_|exact .ptr O|exact .map O|exact .vec O|exact D5.grow (f:=Tok.cv) (λ_=>⟨.val _,.val _,.val _,.val _,D⟩) O|refine⟨?_,?_⟩))⟩|refine⟨?_,?_⟩))⟩ ?_;intro⟨acc,i⟩ ⟨hi,ha,f,hf,iF⟩;dsimp only at hi ha hf iF⊢;obtain⟨f,rfl⟩:∃f',f=f'+1:=⟨f-1,J⟩;obtain⟨i1,eK⟩:∃i1,i1=A4 s i [5]:=⟨_,O⟩;have ai:=a19 (ks:=[5]) hi;rw[<- eK]at ai;refine qk (V (B4 ([5].map icv) O ⟨O,D⟩ t_3 t_1 t_6 O O O O O O O O O) ?_);refine V (c4 O c5I a36 ((by have:=a7a (ks:=[5]) (nn:=true) hm hi J U (σ:=[.map (gm kb kv m),p7 acc.length]) (q:=0) O;rw[<- eK]at this;exact this)) O) ?_;refine V T7 ?_;refine qC ?_ ?_<;>intro h2
  .have dj:i1=s.length:=sm_ h2;rw[b6p eK J]at iF;refine V b9M ?_;refine V (B4 [Tok.cv ⟨5,[],0,(i1:Nat)⟩] O ⟨D,D⟩ b4Z a3V t_9 O O O O O O O O O) ?_;refine qD (D6 O D D O Q q_3 b4Z a3V c2N t_9 O (.inr O) q_8 d0M G0 ((acc++[(⟨5,[],0,(i1:Nat)⟩:Tok)]).map Tok.cv) (acc++[(⟨5,[],0,(i1:Nat)⟩:Tok)]).length Q Q ?_);refine c6 ?_;exact⟨_,r8 (rs:=[.tmp 2,.tmp 3,.tmp 4]) (cs:=[_,_,_]) O b2M (n_5 O),⟨(acc++[(⟨5,[],0,(i1:Nat)⟩:Tok)],gnn (acc++[(⟨5,[],0,(i1:Nat)⟩:Tok)]).length,0,0),by exact .ret (.tups ⟨.tok (λr hr c hc=>(C7 (f:=Tok.cv) (λ_=>P5.all ⟨.val _,.val _,.val _,.val _,D⟩) _) r hr c hc),.old (.val _),.old (.val _),D⟩),.inl ⟨iF,by rw[n_8];rfl,O,O⟩⟩⟩
  .have dj:i1<s.length:=by
    have:¬(i1:Int)=s.length:=H h2;omega
   obtain⟨b,hb⟩:=gx_ s i1;refine V b60 ?_;refine V d9t ?_;refine qC ?_ ?_<;>intro h3
   .have hk:j8 b.toNat=6:=by rw[<- hm];simpa using h3
    rw[b67 eK hb hk]at iF;have cH:=b1m hb hk;have dv:=a7H (s:=s) (a:=i1) J;have hib:=c0U ((s.take s.length).drop i1);have gE:((s.take s.length).drop i1).length=s.length -i1:=by simp
    have aR:Q9 s i1=i1+(((s.take s.length).drop i1).takeWhile (· != 10)).length:=by rw[Q9,a9q]
    have hig:=Go.Lib.indexByte_ge ((s.take s.length).drop i1) 10;refine V (I9 (a:=i1) O D O t_5 a3x O J (n_6 _)) ?_;refine V (c4 O Tryz.call189 o4 (a5F ((s.take s.length).drop i1) 10 _) O) ?_;refine cC ?_ ?_<;>intro h4
    .have hneg:Go.Lib.indexByte ((s.take s.length).drop i1) 10<0:=H h4;have:=hib.1 hneg;have hle2:Q9 s i1=s.length:=by omega
     refine a61 ?_;refine V a8d ?_;refine V a5Z ?_;refine l9 ?_;exact⟨(acc,Q9 s i1),[0,1],⟨J,J,by show acc.length<=Q9 s i1;omega,f,by show s.length -Q9 s i1<f;omega,iF⟩,⟨O,O⟩,d8D,(by repeat' (first|exact D|exact .inl O|exact .inr ⟨_,O,.same O F0⟩|exact .inr ⟨_,O,.same (cV _ _ _) F0⟩|exact .inr ⟨_,O,.same O (by repeat' (first|exact D|exact .val _|exact .ptr (nb O)|exact .map (nb O)|exact d3j|refine A0 ?_|refine⟨?_,?_⟩))⟩|exact .inr ⟨_,O,.box (by repeat' (first|exact D|exact .same O uo_|exact .ptr O|exact .map O|exact .vec O|exact D5.grow (f:=Tok.cv) (λ_=>⟨.val _,.val _,.val _,.val _,D⟩) O|refine⟨?_,?_⟩))⟩|refine⟨?_,?_⟩))⟩
    .have hneg:¬Go.Lib.indexByte ((s.take s.length).drop i1) 10<0:=H h4;have:=hib.2 J;rw[this];refine qk (V a5Z ?_);refine l9 ?_;exact⟨(acc,Q9 s i1),[0,1],⟨J,J,by show acc.length<=Q9 s i1;omega,f,by show s.length -Q9 s i1<f;omega,iF⟩,⟨O,O⟩,d8D,(by repeat' (first|exact D|exact .inl O|exact .inr ⟨_,O,.same O F0⟩|exact .inr ⟨_,O,.same (cV _ _ _) F0⟩|exact .inr ⟨_,O,.same O (by repeat' (first|exact D|exact .val _|exact .ptr (nb O)|exact .map (nb O)|exact d3j|refine A0 ?_|refine⟨?_,?_⟩))⟩|exact .inr ⟨_,O,.box (by repeat' (first|exact D|exact .same O uo_|exact .ptr O|exact .map O|exact .vec O|exact D5.grow (f:=Tok.cv) (λ_=>⟨.val _,.val _,.val _,.val _,D⟩) O|refine⟨?_,?_⟩))⟩|refine⟨?_,?_⟩))⟩
   .have hk:¬j8 b.toNat=6:=by rw[<- hm];simpa using h3
    refine V (c4 O Tryz.call190 B7 (c6W hb hm J O) O) ?_;refine z_1 ?_;refine qC ?_ ?_<;>intro h5
    .have he:(D1 s i1 b).2.2≠0:=H h5;rw[b6F eK hb hk he]at iF;refine c6 ?_;exact⟨_,r8 (rs:=[.tmp 2,.tmp 3,.tmp 4]) (cs:=[_,_,_]) O b2M (n_5 O),⟨([],false,i1,(D1 s i1 b).2.2),by exact .ret (.tups ⟨.old (V2 _ [] false),.old (.val _),.old (.val _),D⟩),.inr ⟨iF,O,O,he⟩⟩⟩
    .have he:¬(D1 s i1 b).2.2≠0:=H h5;rw[b6c eK hb hk he]at iF;obtain⟨e,iE,he2,he3⟩:=a5r hb he;rw[iE]at iF⊢;refine qD (i9 O D D O j3 t_1 (.inl O) O O (nb O) ?_);refine V (B4 [Tok.cv ({(D1 s i1 b).1 with at_:=(i1:Nat)}:Tok)] rfl ⟨D,D⟩ b4Z a3V t_9 rfl rfl rfl rfl rfl rfl rfl rfl rfl) ?_;refine qD (D6 O D D O Q q_3 b4Z a3V c2N t_9 O (.inr O) q_8 d0M G0 ((acc++[({(D1 s i1 b).1 with at_:=(i1:Nat)}:Tok)]).map Tok.cv) (acc++[({(D1 s i1 b).1 with at_:=(i1:Nat)}:Tok)]).length Q Q ?_);exact⟨(acc++[({(D1 s i1 b).1 with at_:=(i1:Nat)}:Tok)],e),[0,3],⟨by show s.length -e<s.length -i;omega,he3,by simp;omega,f,by show s.length -e<f;omega,by rw[iF];simp[Function.comp_def]⟩,⟨O,O⟩,ut_,(by repeat' (first|exact D|exact .inl O|exact .inr ⟨_,O,.same O F0⟩|exact .inr ⟨_,O,.same (cV _ _ _) F0⟩|exact .inr ⟨_,O,.same O (by repeat' (first|exact D|exact .val _|exact .ptr (nb O)|exact .map (nb O)|exact d3j|refine A0 ?_|refine⟨?_,?_⟩))⟩|exact .inr ⟨_,O,.box (by repeat' (first|exact D|exact .same O uo_|exact .ptr O|exact .map O|exact .vec O|exact D5.grow (f:=Tok.cv) (λ_=>⟨.val _,.val _,.val _,.val _,D⟩) O|refine⟨?_,?_⟩))⟩|refine⟨?_,?_⟩))⟩
theorem c3g(s:I)(hs:s.length<=1000000000000)(σ:List b9):b8 CC 153 [(sv s)] σ λr τ=>∃x:c3N,r= .ret (c5v x)/\τ=σ/\d3t s x:=
 I0 (res:=λx=>.ret (c5v x)) hCC (λc hc=>by simp at hc;subst hc;exact .val _) (c0i s hs) (λ_ _=>pu_) σ
structure Ex where
 k:Int
 num:Int
 op:Int
 name:I
 args:List Int
deriving DecidableEq
variable{B:α->List Ex}
abbrev Ex.cells(x:Ex):List CV:=[iv x.k,iv x.num,iv x.op,sv x.name,.list (x.args.map icv) (gnn x.args.length) none]
def Ex.cv(x:Ex):List CV:=x.cells
theorem Ex.pure(x:Ex):P5 x.cells:=⟨.val _,.val _,.val _,.val _,F4 _ _,D⟩
theorem F8(l:List Ex)(nn:Bool):r9 (.list (l.map Ex.cv) nn none):=M4 (f:=Ex.cv) Ex.pure l nn
theorem O4(n:Nat)(l:List Ex)(nn:Bool):Old n (.list (l.map Ex.cv) nn none):=(F8 l nn).old
structure De where
 k:Int
 name:I
 params:List I
 body:List Ex
deriving DecidableEq
abbrev De.cells(x:De):List CV:=[iv x.k,sv x.name,.list (x.params.map scv) (gnn x.params.length) none,.list (x.body.map Ex.cv) (gnn x.body.length) none]
def De.cv(x:De):List CV:=x.cells
theorem De.pure(x:De):P5 x.cells:=⟨.val _,.val _,o6 _ _,F8 _ _,D⟩
theorem a1L(l:List De)(nn:Bool):r9 (.list (l.map De.cv) nn none):=M4 (f:=De.cv) De.pure l nn
theorem K9(n:Nat)(l:List De)(nn:Bool):Old n (.list (l.map De.cv) nn none):=(a1L l nn).old
structure Src where
 pkg:I
 imports:List I
 decls:List De
deriving DecidableEq
abbrev Src.cells(x:Src):List CV:=[sv x.pkg,.list (x.imports.map scv) (gnn x.imports.length) none,.list (x.decls.map De.cv) (gnn x.decls.length) none]
def Src.cv(x:Src):List CV:=x.cells
theorem Src.pure(x:Src):P5 x.cells:=⟨.val _,o6 _ _,a1L _ _,D⟩
abbrev pbx(T:List Tok)(n:Nat)(ps:List I)(b:List Ex)(s:Nat):b9:=.box [.list (T.map Tok.cv) true none,iv n,.list (ps.map scv) (gnn ps.length) none,.list (b.map Ex.cv) (gnn b.length) (G9 b.length s)]
abbrev pst(T:List Tok)(n:Nat)(ps:List I)(b:List Ex):List b9:=[pbx T n ps b 1,p7 b.length]
abbrev a6A(T:List Tok)(n:Nat)(ps:List I)(b:List Ex):List b9:=[pbx T n ps b 2,.dead,p7 b.length]
theorem b3T{n:Nat}{ps:List I}{b:List Ex}{s s':Nat}(h:R s s'):I5 R (pbx T n ps b s) (pbx T n ps b s'):=
 .box (.cons (.pure (a3a _ _)) (.cons (.pure (.val _)) (.cons (.pure (o6 _ _)) (.cons (by
  refine .list O (λi r r' h1 h2=>by rw[h1]at h2;injection h2 with h2;rw[h2]) (λi j r r' c c' h1 h2 h3 h4=>?_) ?_
  .rw [h1]at h2;injection h2 with h2;subst h2;rw[h3]at h4;injection h4 with h4;subst h4
   exact .pure (C7 (f:=Ex.cv) (λa=>(Ex.pure a).all) _ r (n_2 h1) c (n_2 h3))
  .cases hb:b.length with
   |zero=>exact .inl ⟨O,O⟩
   |succ m=>exact .inr ⟨s,s',O,O,h⟩) .nil))))
theorem a1d(m:Nat):I5 R (p7 m) (p7 m):=by
 cases m with
 |zero=>exact .dead
 |succ m=>exact .tip _
def PAt(σ:List b9)(q s:Nat)(T:List Tok)(n:Nat)(ps:List I)(b:List Ex):Prop:=σ[q]?=some (pbx T n ps b s)/\σ[s]?=some (p7 b.length)/\q≠s
abbrev a2G(at_ e:Int):CV:=.val (.iface 195 (.agg #[.int .i64 at_,.int .i64 e]))
def a3Q{α:Type}(c:α->CV)(S:α->List b9)(P:α->Prop)(bad:Prop)(r:N8)(τ:List b9):Prop:=
 (∃a,F7 2 τ r (.ret (c a)) (S a)/\P a)\/∃x:Int×Int,F7 2 τ r (.pan (a2G x.1 x.2)) [.dead,.dead]/\(bad/\x.2≠0)
def a4j{α:Type}(c:α->CV)(S:α->List b9)(P:α->Prop)(σ:List b9)(q s:Nat)(bad:Prop)(r:N8)(τ:List b9):Prop:=
 (∃a,r= .ret (c a)/\τ=S a/\P a)\/∃x:Int×Int,r= .pan (a2G x.1 x.2)/\τ=(σ.set q .dead).set s .dead/\(bad/\x.2≠0)
theorem j6{x y:Int}:F7 2 τ (.pan (a2G x y)) (.pan (a2G x y)) [.dead,.dead]:=⟨[0,1],O,O,.pan (.old (.val _)),.inl O,.inl O,D⟩
theorem a4N{f:FuncId}{args:List CV}{c:α->CV}{Z:α->List I}{g:α->Bool}{n:Nat}{ps:List I}{b:List Ex}(aq:∀a∈args,r9 a)(hc:∀a,r9 (c a))
 (h:b8 CC f (.ptr 0 0::args) (pst T n ps b) (a3Q c (λa=>if g a=true then a6A T (N a) (Z a) (B a)else pst T (N a) (Z a) (B a)) P bad)){σ:List b9}{q s:Nat}(au:PAt σ q s T n ps b):
 b8 CC f (.ptr q 0::args) σ (a4j c (λa=>if g a=true then(σ.set q (pbx T (N a) (Z a) (B a) σ.length)).set s .dead++[p7 (B a).length]else(σ.set q (pbx T (N a) (Z a) (B a) s)).set s (p7 (B a).length)) P σ q s bad):=by
 obtain⟨h1,h2,h3⟩:=au;have hq:=(n_3.1 h1).1;have hs:=(n_3.1 h2).1;have h':b8 CC f (.ptr 0 0::args) (pst T n ps b) λr τ=>(∃a,r= .ret (c a)/\τ=(if g a=true then a6A T (N a) (Z a) (B a)else pst T (N a) (Z a) (B a))/\P a)\/∃x:Int×Int,r= .pan (a2G x.1 x.2)/\τ=[.dead,.dead]/\(bad/\x.2≠0):=by
  refine N3 hCC (h.mono λr τ hh=>?_)
  rcases hh with⟨a,k1,k2⟩|⟨x,k1,k2⟩
  .exact ⟨_,_,k1,.inl ⟨a,O,O,k2⟩⟩
  .exact ⟨_,_,k1,.inr ⟨x,O,O,k2⟩⟩
 refine P0 [q,s] hCC O (λi j k g1 g2=>?_) (λi k ob g1 g2=>?_) (.cons (.ptr O) (L9 aq)) h' λr τ hk=>?_
 .rcases i with _|_|i<;>rcases j with _|_|j<;>simp at g1 g2<;>first|rfl|(exfalso;exact h3 (g1.trans g2.symm))|(exfalso;exact h3 (g2.trans g1.symm))
 .rcases i with _|_|i
  .simp at g1 g2;subst g1 g2;exact⟨_,h1,b3T O⟩
  .simp at g1 g2;subst g1 g2;exact⟨_,h2,a1d _⟩
  .simp at g1
 .rcases hk with⟨a,rfl,rfl,hp⟩|⟨x,rfl,rfl,hp⟩
  .refine ⟨by split<;>simp,.ret (c a),(if g a=true then(σ.set q (pbx T (N a) (Z a) (B a) σ.length)).set s .dead++[p7 (B a).length]else(σ.set q (pbx T (N a) (Z a) (B a) s)).set s (p7 (B a).length)),.ret (.pure (hc a)),by split<;>simp,λk hk bS=>?_,λi k x ha hx=>?_,.inl ⟨a,O,O,hp⟩⟩
   .have n1:q≠k:=λe=>bS (by simp[e]);have n2:s≠k:=λe=>bS (by simp[e])
    split
    .rw [X1 (H hk)];simp[n1,n2]
    .simp [n1,n2]
   .split at hx<;>rename_i hg
    .rcases ha with ha|⟨ha,rfl⟩
     .rcases i with _|_|i
      .simp at ha hx;subst ha hx;refine⟨pbx T (N a) (Z a) (B a) σ.length,?_,b3T (.inr ⟨Q,Q⟩)⟩;rw[W hg,X1 (H hq),a5I h3.symm];simp[hq]
      .simp at ha hx;subst ha hx;refine⟨.dead,?_,.dead⟩;rw[W hg,X1 (H hs)];simp[hs]
      .simp at ha
     .rcases i with _|_|_|i
      .simp at ha
      .simp at ha
      .simp at hx;subst hx;refine⟨p7 (B a).length,?_,a1d _⟩;rw[W hg,a3i Q];simp
      .simp at hx
    .rcases ha with ha|⟨ha,rfl⟩
     .rcases i with _|_|i
      .simp at ha hx;subst ha hx;refine⟨pbx T (N a) (Z a) (B a) s,?_,b3T (.inl O)⟩;rw[G hg,a5I h3.symm];simp[hq]
      .simp at ha hx;subst ha hx;refine⟨p7 (B a).length,?_,a1d _⟩;rw[G hg];simp[hs]
      .simp at ha
     .rcases i with _|_|i
      .simp at ha
      .simp at ha
      .simp at hx
  .refine ⟨n_6 _,.pan (a2G x.1 x.2),(σ.set q .dead).set s .dead,.pan (.pure (.val _)),Q,λk hk bS=>?_,λi k y ha hx=>?_,.inr ⟨x,O,O,hp⟩⟩
   .have n1:q≠k:=λe=>bS (by simp[e]);have n2:s≠k:=λe=>bS (by simp[e]);simp[n1,n2]
   .rcases ha with ha|⟨ha,rfl⟩
    .rcases i with _|_|i
     .simp at ha hx;subst ha hx;refine⟨.dead,?_,.dead⟩;rw[a5I h3.symm];simp[hq]
     .simp at ha hx;subst ha hx;refine⟨.dead,?_,.dead⟩;simp[hs]
     .simp at ha
    .rcases i with _|_|i
     .simp at ha
     .simp at ha
     .simp at hx
theorem a3u{n:Nat}{ps:List I}{b:List Ex}{s:Nat}(h:s<L):G7 L (pbx T n ps b s):=A0 ⟨V2 _ _ _,.val _,B8 _ _ _,.list (λi j r c h1 h2=>(C7 (f:=Ex.cv) (λa=>(Ex.pure a).all) _ r (n_2 h1) c (n_2 h2)).old) (λk hk=>by
 cases hb:b.length with
 |zero=>rw[hb]at hk;cases hk
 |succ m=>rw[hb]at hk;injection hk with hk;omega),D⟩
theorem a0P{n:Nat}{ps:List I}{b:List Ex}(eH:τ=pbx T n ps b 1::p7 b.length::rest)(hc:Old 2 c):F7 2 τ (.ret c) (.ret c) (pst T n ps b):=by
 subst eH;exact⟨[0,1],O,O,.ret (.old hc),.inr ⟨_,O,.same O (a3u U)⟩,.inr ⟨_,O,.same O F0⟩,D⟩
theorem Z8{n k:Nat}{ps:List I}{b:List Ex}(h0:τ[0]?=some (pbx T n ps b k))(hk:τ[k]?=some (p7 b.length))(h2:2<=k)(hc:Old 2 c):F7 2 τ (.ret c) (.ret c) (a6A T n ps b):=by
 have k1:a7I 2 [0,1,k]=true:=O;have k2:a0r [0,1,k]=true:=by
  have e0:(k == 0)=false:=by simp;omega
  have e1:(k == 1)=false:=by simp;omega
  have e2:(0 == k)=false:=by simp;omega
  have e3:(1 == k)=false:=by simp;omega
  simp[a0r];omega
 refine⟨[0,1,k],k1,k2,.ret (.old hc),.inr ⟨_,h0,.box ?_⟩,.inl O,.inr ⟨_,hk,.same O F0⟩,D⟩;refine⟨.old a1c,.old (.val _),.old M8,.list (λr hr c hc=>(C7 (f:=Ex.cv) (λa=>(Ex.pure a).all) _ r hr c hc).old) ?_,D⟩;intro j hj;cases hb:b.length with
 |zero=>rw[hb]at hj;cases hj
 |succ m=>rw[hb]at hj;injection hj with hj;subst hj;exact⟨k,O,O⟩
theorem a4o{l:List α}{x:α}(h:l[i]?=some x):l.set i x=l:=by
 apply b2s λj=>?_;have hi:=(n_3.1 h).1;by_cases hj:i=j
 .subst hj;rw[b8U hi,h]
 .rw [a5I hj]
theorem c0m{f:FuncId}{args:List CV}{n:Nat}{ps:List I}{b:List Ex}(aq:∀a∈args,r9 a)(hc:r9 c)
 (h:b8 CC f (.ptr 0 0::args) (pst T n ps b) λr τ=>F7 2 τ r (.ret c) (pst T n ps b)){σ:List b9}{q s:Nat}(au:PAt σ q s T n ps b):b8 CC f (.ptr q 0::args) σ λr τ=>r= .ret c/\τ=σ:=by
 refine(a4N (α:=Unit) (c:=λ_=>c) (N:=λ_=>n) (B:=λ_=>b) (Z:=λ_=>ps) (g:=λ_=>false) (P:=λ_=>True) (bad:=False) aq (λ_=>hc) (h.mono λr τ hh=>.inl ⟨(),hh,D⟩) au).mono λr τ hh=>?_
 rcases hh with⟨_,h1,h2,_⟩|⟨_,_,_,h3,_⟩
 .refine ⟨h1,h2.trans ?_⟩;show(σ.set q _).set s _=σ;rw[a4o au.1,a4o au.2.1]
 .exact h3.elim
theorem a0O{f:FuncId}{args:List CV}{c:α->CV}{n:Nat}{ps:List I}{b:List Ex}(aq:∀a∈args,r9 a)(hc:∀a,r9 (c a))
 (h:b8 CC f (.ptr 0 0::args) (pst T n ps b) (a3Q c (λa=>pst T (N a) ps b) P bad)){σ:List b9}{q s:Nat}(au:PAt σ q s T n ps b):
 b8 CC f (.ptr q 0::args) σ (a4j c (λa=>σ.set q (pbx T (N a) ps b s)) P σ q s bad):=by
 refine(a4N (c:=c) (N:=N) (B:=λ_=>b) (Z:=λ_=>ps) (g:=λ_=>false) (P:=P) (bad:=bad) aq hc (h.mono λr τ hh=>?_) au).mono λr τ hh=>?_
 .rcases hh with⟨a,h1,h2⟩|h
  .exact .inl ⟨a,h1,h2⟩
  .exact .inr h
 .rcases hh with⟨a,h1,h2,h3⟩|h
  .refine .inl ⟨a,h1,h2.trans ?_,h3⟩;refine a4o ?_;rw[a5I au.2.2];exact au.2.1
  .exact .inr h
theorem a2S{f:FuncId}{args:List CV}{c:α->CV}{n:Nat}{ps:List I}{b:List Ex}(aq:∀a∈args,r9 a)(hc:∀a,r9 (c a))
 (h:b8 CC f (.ptr 0 0::args) (pst T n ps b) (a3Q c (λa=>a6A T (N a) ps (B a)) P bad)){σ:List b9}{q s:Nat}(au:PAt σ q s T n ps b):
 b8 CC f (.ptr q 0::args) σ (a4j c (λa=>(σ.set q (pbx T (N a) ps (B a) σ.length)).set s .dead++[p7 (B a).length]) P σ q s bad):=by
 refine(a4N (c:=c) (N:=N) (B:=B) (Z:=λ_=>ps) (g:=λ_=>true) (P:=P) (bad:=bad) aq hc (h.mono λr τ hh=>?_) au).mono λr τ hh=>?_
 .rcases hh with⟨a,h1,h2⟩|h
  .exact .inl ⟨a,h1,h2⟩
  .exact .inr h
 .rcases hh with⟨a,h1,h2,h3⟩|h
  .exact .inl ⟨a,h1,h2,h3⟩
  .exact .inr h
theorem a0z(x:Tok):r9 (.agg x.cells):=j4 ⟨.val _,.val _,.val _,.val _,D⟩
theorem a5i(n:Nat)(x:Tok):Old n (.agg x.cells):=(a0z x).old
def tk(T:List Tok)(n:Nat):Tok:=(T[n]?).getD ⟨5,[],0,0⟩
theorem d7w{n:Nat}(h:n<T.length):T[n]?=some (tk T n):=by simp[tk,h]
def a0V(T:List Tok):Prop:=∀n,n<T.length->(tk T n).k≠5->n+1<T.length
def isT(t:Tok)(k:Int)(s:I):Bool:=(t.k == k)&&decide (t.t=s)
theorem a6o{n:Nat}{k:Int}{s:I}(h:isT (tk T n) k s=true)(hk:k≠5):(tk T n).k≠5:=by
 simp[isT]at h;omega
def F2(T:List Tok)(n:Nat)(k:Int):Option (Tok×Nat):=if(tk T n).k=k then some (tk T n,if k=5 then n else n+1)else none
def pIs(T:List Tok)(n:Nat)(k:Int)(s:I):Option Nat:=if isT (tk T n) k s=true then some (n+1)else none
theorem d0I(t:Tok)(e:Int):b8 CC 195 [.agg t.cells,iv e] [] λr τ=>∃_:Unit,a03 0 τ r (.pan (a2G t.at_ e))/\True:=by
 refine qO Tryz.func195 ?_;refine qD (F1 O D j3 j1 ?_);refine V (B2 #[(0,1),(1,1)] O j7 c41 Tryz.zeroValue195 O ⟨_,O⟩ (λw=>by kernel_rfl) O O) ?_;refine V (b3R (xs:=[.int .i64 t.at_,.int .i64 e]) O D O (b04 c41 O)) ?_;exact a1P O O (b4A O D O (λM w v h=>⟨_,_,p8 h⟩) ⟨(),.pan (.old (.val _)),D⟩)
theorem O1(t:Tok)(e:Int)(σ:List b9):b8 CC 195 [.agg t.cells,iv e] σ λr τ=>∃_:Unit,r= .pan (a2G t.at_ e)/\τ=σ/\True:=
 I0 (res:=λ_=>.pan (a2G t.at_ e)) hCC (λc hc=>by
  simp at hc
  rcases hc with rfl|rfl
  .exact a0z _
  .exact .val _) (d0I t e) (λ_ _=>.val _) σ
theorem c3E(T:List Tok)(n:Nat)(ps:List I)(b:List Ex)(_:T.length<=1000000)(hn:n<T.length):b8 CC 196 [.ptr 0 0] (pst T n ps b) (λr τ=>F7 2 τ r (.ret (.agg (tk T n).cells)) (pst T n ps b)):=by
 refine qO Tryz.func196 ?_;refine qD (l8 O t_9 O j1 ?_);refine cW 10 ?_;refine a3X ?_;refine hY (j2 O D O c3q O Tryz.sizeOf191 U) ?_;refine hY (o5 O D O Tryz.isAgg191 O O) ?_;refine a3X ?_;refine hY c14 ?_;refine hY V3 ?_;refine d4t ?_;refine a2b ?_;refine z_2 ?_;exact⟨_,C4 O b3e,a0P O (a5i _ _)⟩
theorem a3e{n:Nat}{ps:List I}{b:List Ex}(hT:T.length<=1000000)(hn:n<T.length){s:Nat}(au:PAt σ q s T n ps b):b8 CC 196 [.ptr q 0] σ λr τ=>r= .ret (.agg (tk T n).cells)/\τ=σ:=c0m (λ_ h=>by cases h) (a0z _) (c3E T n ps b hT hn) au
theorem d6G(T:List Tok)(n:Nat)(ps:List I)(b:List Ex)(hT:T.length<=1000000)(hn:n<T.length)(k:Int)(u:I):b8 CC 194 [.ptr 0 0,iv k,(sv u)] (pst T n ps b) (λr τ=>F7 2 τ r (.ret (.val (.bool (isT (tk T n) (k) (u))))) (pst T n ps b)):=by
 refine qO Tryz.func194 ?_;refine V b6Q ?_;refine z_1 ?_;refine qG b8L ?_;refine qG a26 ?_;refine d3M ?_;refine b4T ?_;exact⟨_,rE1,(by exact a0P O (.val _))⟩
theorem b3v{n:Nat}{ps:List I}{b:List Ex}(hT:T.length<=1000000)(hn:n<T.length)(k:Int)(u:I){s:Nat}(au:PAt σ q s T n ps b):b8 CC 194 [.ptr q 0,iv k,(sv u)] σ λr τ=>r= .ret (.val (.bool (isT (tk T n) (k) (u))))/\τ=σ:=c0m (λ_ h=>by simp at h;rcases h with rfl|rfl<;>exact .val _) (.val _) (d6G T n ps b hT hn k u) au
theorem c7S(T:List Tok)(n:Nat)(ps:List I)(b:List Ex)(hT:T.length<=1000000)(hn:n<T.length)(hW:a0V T)(u:I):b8 CC 193 [.ptr 0 0,(sv u)] (pst T n ps b) (a3Q (λ_:Nat=>.tup []) (λa=>pst T a ps b) (λa=>pIs T n 4 u=some a/\a<T.length) (pIs T n 4 u=none)):=by
 refine qO Tryz.func193 ?_;refine V (c4 O c4R ⟨D,O,D,D⟩ (b3v hT hn 4 u ⟨O,O,U⟩) O) ?_;refine qC ?_ ?_<;>intro h1
 .have hb:isT (tk T n) 4 u=false:=H h1;refine V b6Q ?_;exact a1P O O (O6 O a4R o4 (O1 _ _ _) O (λ_ _=>.inr ⟨(_,_),j6,by rw[pIs,G (by rw[hb];decide)],Q⟩))
 .have hb:isT (tk T n) 4 u=true:=H h1;refine z_4 ?_;exact⟨_,rE0,d9N⟩
theorem Q0{n:Nat}{ps:List I}{b:List Ex}(hT:T.length<=1000000)(hn:n<T.length)(hW:a0V T)(u:I){s:Nat}(au:PAt σ q s T n ps b):b8 CC 193 [.ptr q 0,(sv u)] σ (a4j (λ_:Nat=>.tup []) (λa=>σ.set q (pbx T a ps b s)) (λa=>pIs T n 4 u=some a/\a<T.length) σ q s (pIs T n 4 u=none)):=
 a0O (c:=λ_:Nat=>.tup []) (N:=λa=>a) (λ_ h=>by simp at h;subst h;exact .val _) (λ_=>B3 trivial) (c7S T n ps b hT hn hW u) au
theorem c89(T:List Tok)(n:Nat)(ps:List I)(b:List Ex)(hT:T.length<=1000000)(hn:n<T.length)(hW:a0V T)(u:I):b8 CC 191 [.ptr 0 0,(sv u)] (pst T n ps b) (a3Q (λ_:Nat=>.tup []) (λa=>pst T a ps b) (λa=>pIs T n 1 u=some a/\a<T.length) (pIs T n 1 u=none)):=by
 refine qO Tryz.func191 ?_;refine V (c4 O c4R ⟨D,O,D,D⟩ (b3v hT hn 1 u ⟨O,O,U⟩) O) ?_;refine qC ?_ ?_<;>intro h1
 .have hb:isT (tk T n) 1 u=false:=H h1;refine V b6Q ?_;exact a1P O O (O6 O a4R o4 (O1 _ _ _) O (λ_ _=>.inr ⟨(_,_),j6,by rw[pIs,G (by rw[hb];decide)],Q⟩))
 .have hb:isT (tk T n) 1 u=true:=H h1;refine z_4 ?_;exact⟨_,rE0,d9N⟩
theorem b4m{n:Nat}{ps:List I}{b:List Ex}(hT:T.length<=1000000)(hn:n<T.length)(hW:a0V T)(u:I){s:Nat}(au:PAt σ q s T n ps b):b8 CC 191 [.ptr q 0,(sv u)] σ (a4j (λ_:Nat=>.tup []) (λa=>σ.set q (pbx T a ps b s)) (λa=>pIs T n 1 u=some a/\a<T.length) σ q s (pIs T n 1 u=none)):=
 a0O (c:=λ_:Nat=>.tup []) (N:=λa=>a) (λ_ h=>by simp at h;subst h;exact .val _) (λ_=>B3 trivial) (c89 T n ps b hT hn hW u) au
theorem b9i(T:List Tok)(n:Nat)(ps:List I)(b:List Ex)(hT:T.length<=1000000)(hn:n<T.length)(hW:a0V T)(u:I):b8 CC 277 [.ptr 0 0,(sv u)] (pst T n ps b) (a3Q (λa:Bool×Nat=>(.val (.bool a.1))) (λa=>pst T a.2 ps b) (λa=>a.1=isT (tk T n) 4 u/\a.2=(if isT (tk T n) 4 u=true then n+1 else n)/\a.2 <T.length) False):=by
 refine qO Tryz.func277 ?_;refine V (c4 O c4R ⟨D,O,D,D⟩ (b3v hT hn 4 u ⟨O,O,U⟩) O) ?_;refine qC ?_ ?_<;>intro h1
 .have hb:isT (tk T n) 4 u=false:=H h1;refine c6 ?_;exact⟨_,rE1,(by exact .inl ⟨(false,n),a0P O (.val _),hb.symm,by rw[G (by rw[hb];decide)],hn⟩)⟩
 .have hb:isT (tk T n) 4 u=true:=H h1;refine z_4 ?_;refine c6 ?_;exact⟨_,rE1,(by exact .inl ⟨(true,n+1),a0P O (.val _),hb.symm,by rw[W hb],hW n hn (a6o hb U)⟩)⟩
theorem a1H{n:Nat}{ps:List I}{b:List Ex}(hT:T.length<=1000000)(hn:n<T.length)(hW:a0V T)(u:I){s:Nat}(au:PAt σ q s T n ps b):b8 CC 277 [.ptr q 0,(sv u)] σ λr τ=>∃a:Bool×Nat,r= .ret (.val (.bool a.1))/\τ=σ.set q (pbx T a.2 ps b s)/\a.1=isT (tk T n) 4 u/\a.2=(if isT (tk T n) 4 u=true then n+1 else n)/\a.2 <T.length :=
 (a0O (c:=λa:Bool×Nat=>(.val (.bool a.1))) (N:=λa:Bool×Nat=>a.2) (λ_ h=>by simp at h;subst h;exact .val _) (λ_=>.val _) (b9i T n ps b hT hn hW u) au).mono λr τ h=>by
  rcases h with h|⟨_,_,_,h,_⟩
  .exact h
  .exact h.elim
theorem c5S(T:List Tok)(n:Nat)(ps:List I)(b:List Ex)(hT:T.length<=1000000)(hn:n<T.length)(hW:a0V T)(k:Int):b8 CC 235 [.ptr 0 0,iv k] (pst T n ps b) (a3Q (λa:Tok×Nat=>.agg a.1.cells) (λa=>pst T a.2 ps b) (λa=>F2 T n k=some a/\a.2 <T.length) (F2 T n k=none)):=by
 refine qO Tryz.func235 ?_;refine qD (l8 O t_9 O j1 ?_);refine V b6Q ?_;refine z_1 ?_;refine qC ?_ ?_<;>intro h1
 .have hk:¬(tk T n).k=k:=H h1;exact a1P O O (O6 O a4R o4 (O1 _ _ _) O (λ_ _=>.inr ⟨(_,_),j6,by rw[F2,G hk],Q⟩))
 .have hk:(tk T n).k=k:=H h1;refine qC ?_ ?_<;>intro h2
  .have h5:¬k=5:=H h2;refine z_4 ?_;refine z_2 ?_;exact⟨_,C4 O b3e,(by exact .inl ⟨(tk T n,n+1),a0P O (a5i _ _),by rw[F2,W hk,G h5],hW n hn (by rw[hk];exact h5)⟩)⟩
  .have h5:k=5:=H h2;refine z_2 ?_;exact⟨_,C4 O b3e,(by exact .inl ⟨(tk T n,n),a0P O (a5i _ _),by rw[F2,W hk,W h5],hn⟩)⟩
theorem a7L{n:Nat}{ps:List I}{b:List Ex}(hT:T.length<=1000000)(hn:n<T.length)(hW:a0V T)(k:Int){s:Nat}(au:PAt σ q s T n ps b):b8 CC 235 [.ptr q 0,iv k] σ (a4j (λa:Tok×Nat=>.agg a.1.cells) (λa=>σ.set q (pbx T a.2 ps b s)) (λa=>F2 T n k=some a/\a.2 <T.length) σ q s (F2 T n k=none)):=
 a0O (c:=λa:Tok×Nat=>.agg a.1.cells) (N:=λa=>a.2) (λ_ h=>by simp at h;subst h;exact .val _) (λ_=>a0z _) (c5S T n ps b hT hn hW k) au
def Q2(u:I):Bool:=decide (u∈([[112,97,99,107,97,103,101],[105,109,112,111,114,116],[102,117,110,99],[116,101,115,116],[103,101,110],[105,102],[116,104,101,110],[101,108,115,101],[114,101,97,100],[115,105,122,101],[104,97,115],[101,110,118],[102,108,105,112]]:List I))
theorem a6a(u:I)(σ:List b9):b8 CC 236 [(sv u)] σ λr aa=>r= .ret (.val (.bool (Q2 u)))/\aa=σ:=by
 refine b8.anyw hCC pu_ pu_ (c9 (qO Tryz.func236 ?_)) σ;refine V U1 ?_;refine qC ?_ ?_<;>intro h1
 .have e:u=[112,97,99,107,97,103,101]:=H h1;refine qC ?_ ?_<;>intro h2
  .refine c6 ?_;exact⟨_,rE1,_,_,O,O,o3 (show true=Q2 u by rw[e];decide)⟩
  .exfalso;rw[h1]at h2;cases h2
 .have e1:¬u=[112,97,99,107,97,103,101]:=H h1;refine V U1 ?_;refine qC ?_ ?_<;>intro h3
  .have e:u=[105,109,112,111,114,116]:=H h3;refine qC ?_ ?_<;>intro h4
   .refine c6 ?_;exact⟨_,rE1,_,_,O,O,o3 (show true=Q2 u by rw[e];decide)⟩
   .exfalso;rw[h3]at h4;cases h4
  .have e2:¬u=[105,109,112,111,114,116]:=H h3;refine V U1 ?_;refine qC ?_ ?_<;>intro h5
   .have e:u=[102,117,110,99]:=H h5;refine qC ?_ ?_<;>intro h6
    .refine c6 ?_;exact⟨_,rE1,_,_,O,O,o3 (show true=Q2 u by rw[e];decide)⟩
    .exfalso;rw[h5]at h6;cases h6
   .have e3:¬u=[102,117,110,99]:=H h5;refine V U1 ?_;refine qC ?_ ?_<;>intro h7
    .have e:u=[116,101,115,116]:=H h7;refine qC ?_ ?_<;>intro h8
     .refine c6 ?_;exact⟨_,rE1,_,_,O,O,o3 (show true=Q2 u by rw[e];decide)⟩
     .exfalso;rw[h7]at h8;cases h8
    .have e4:¬u=[116,101,115,116]:=H h7;refine V U1 ?_;refine qC ?_ ?_<;>intro h9
     .have e:u=[103,101,110]:=H h9;refine qC ?_ ?_<;>intro bj
      .refine c6 ?_;exact⟨_,rE1,_,_,O,O,o3 (show true=Q2 u by rw[e];decide)⟩
      .exfalso;rw[h9]at bj;cases bj
     .have e5:¬u=[103,101,110]:=H h9;refine V U1 ?_;refine qC ?_ ?_<;>intro cX
      .have e:u=[105,102]:=H cX;refine qC ?_ ?_<;>intro dL
       .refine c6 ?_;exact⟨_,rE1,_,_,O,O,o3 (show true=Q2 u by rw[e];decide)⟩
       .exfalso;rw[cX]at dL;cases dL
      .have e6:¬u=[105,102]:=H cX;refine V U1 ?_;refine qC ?_ ?_<;>intro dA
       .have e:u=[116,104,101,110]:=H dA;refine qC ?_ ?_<;>intro gI
        .refine c6 ?_;exact⟨_,rE1,_,_,O,O,o3 (show true=Q2 u by rw[e];decide)⟩
        .exfalso;rw[dA]at gI;cases gI
       .have e7:¬u=[116,104,101,110]:=H dA;refine V U1 ?_;refine qC ?_ ?_<;>intro h15
        .have e:u=[101,108,115,101]:=H h15;refine qC ?_ ?_<;>intro h16
         .refine c6 ?_;exact⟨_,rE1,_,_,O,O,o3 (show true=Q2 u by rw[e];decide)⟩
         .exfalso;rw[h15]at h16;cases h16
        .have e8:¬u=[101,108,115,101]:=H h15;refine V U1 ?_;refine qC ?_ ?_<;>intro h17
         .have e:u=[114,101,97,100]:=H h17;refine qC ?_ ?_<;>intro h18
          .refine c6 ?_;exact⟨_,rE1,_,_,O,O,o3 (show true=Q2 u by rw[e];decide)⟩
          .exfalso;rw[h17]at h18;cases h18
         .have e9:¬u=[114,101,97,100]:=H h17;refine V U1 ?_;refine qC ?_ ?_<;>intro h19
          .have e:u=[115,105,122,101]:=H h19;refine qC ?_ ?_<;>intro h20
           .refine c6 ?_;exact⟨_,rE1,_,_,O,O,o3 (show true=Q2 u by rw[e];decide)⟩
           .exfalso;rw[h19]at h20;cases h20
          .have e10:¬u=[115,105,122,101]:=H h19;refine V U1 ?_;refine qC ?_ ?_<;>intro h21
           .have e:u=[104,97,115]:=H h21;refine qC ?_ ?_<;>intro h22
            .refine c6 ?_;exact⟨_,rE1,_,_,O,O,o3 (show true=Q2 u by rw[e];decide)⟩
            .exfalso;rw[h21]at h22;cases h22
           .have e11:¬u=[104,97,115]:=H h21;refine V U1 ?_;refine qC ?_ ?_<;>intro h23
            .have e:u=[101,110,118]:=H h23;refine qC ?_ ?_<;>intro h24
             .refine c6 ?_;exact⟨_,rE1,_,_,O,O,o3 (show true=Q2 u by rw[e];decide)⟩
             .exfalso;rw[h23]at h24;cases h24
            .have e12:¬u=[101,110,118]:=H h23;refine V U1 ?_;refine qC ?_ ?_<;>intro h25
             .have e:u=[102,108,105,112]:=H h25;refine c6 ?_;exact⟨_,rE1,_,_,O,O,o3 (show true=Q2 u by rw[e];decide)⟩
             .have e13:¬u=[102,108,105,112]:=H h25;refine c6 ?_;exact⟨_,rE1,_,_,O,O,o3 (show false=Q2 u by simp[Q2,e1,e2,e3,e4,e5,e6,e7,e8,e9,e10,e11,e12,e13])⟩
def ixS:List I->I->Nat->Int
 | [],_,_=>-1
 |y::l,x,i=>if y=x then i else ixS l x (i+1)
theorem b0J{l:List I}{y:I}(h:l[i]?=some y)(x:I):ixS (l.drop i) x i=if y=x then(i:Int)else ixS (l.drop (i+1)) x (i+1):=by
 obtain⟨ah,rfl⟩:=n_3.1 h;rw[U5 ah];rfl
theorem a8C(x:I):∀(l:List I) (i:Nat),(x∉l/\ixS l x i= -1)\/(x∈l/\(i:Int)<=ixS l x i/\ixS l x i<i+l.length)
 | [],_=>.inl ⟨Q,O⟩
 |y::l,i=>by
  rw[ixS];by_cases h:y=x
  .rw [W h];exact .inr ⟨by simp[h],J,by simp;omega⟩
  .rw [G h]
   rcases a8C x l (i+1)with⟨h1,h2⟩|⟨h1,h2,h3⟩
   .exact .inl ⟨by simp[h1,Ne.symm h],h2⟩
   .exact .inr ⟨by simp[h1],J,by simp;omega⟩
theorem d1p{l:List I}{x:I}:0<=ixS l x 0↔x∈l:=by
 rcases a8C x l 0 with⟨h1,h2⟩|⟨h1,h2,_⟩
 .rw [h2];simp[h1]
 .simp [h1];omega
theorem a89(l:List I)(nn:Bool)(x:I)(hl:l.length<=1000000000)(σ:List b9):b8 CC 205 [(.list (l.map scv) nn none),(sv x)] σ λr aa=>r= .ret (iv (ixS l x 0))/\aa=σ:=by
 refine b8.anyw hCC pu_ pu_ (c9 (qO Tryz.func205 ?_)) σ;refine V K6 ?_;refine m0 hCC (α:=Nat) (λi=>[(0,(.list (l.map scv) nn none)),(1,(sv x)),(7,iv l.length),(8,iv i)]) (λ_=>[]) (λi=>i<=l.length/\ixS l x 0=ixS (l.drop i) x i) (λi=>l.length -i) 0 ⟨n_4 _,O⟩ tu_ (aj:=[]) O A7 uz_ ?_;intro i ⟨hi,hr⟩;refine qk (qC ?_ ?_)<;> intro h1
 .have ah:(i:Int)<l.length:=H h1;obtain⟨y,hb⟩:=gx_ l i;rw[b0J hb]at hr;refine b3F ?_;refine qC ?_ ?_<;>intro h2
  .have hx:y=x:=(show x=y by simpa using h2).symm;rw[W hx]at hr;refine c6 ?_;exact⟨_,rE1,_,_,O,O,C8 hr.symm⟩
  .have hx:¬y=x:=λe=>by subst e;simp at h2
   rw[G hx]at hr;exact b0P
 .have aH:i=l.length:=by
   have:¬(i:Int)<l.length:=H h1;omega
  refine W5 ?_;exact⟨_,rE1,_,_,O,O,C8 (by rw[hr,aH,c2K];rfl)⟩
theorem a4y(l:List I)(nn:Bool)(x:I)(hl:l.length<=1000000000)(σ:List b9):b8 CC 160 [(.list (l.map scv) nn none),(sv x)] σ λr aa=>r= .ret (.val (.bool (decide (x∈l))))/\aa=σ:=by
 refine b8.anyw hCC pu_ pu_ (c9 (qO Tryz.func160 ?_)) σ;refine V (c4 O Tryz.call205 j7 (a89 l nn x hl _) O) ?_;refine c6 ?_;exact⟨_,rE1,_,_,O,O,o3 (b0u.2 d1p)⟩
theorem a48{n n1:Nat}{k:Int}(h:F2 T n k=some (t,n1)):t=tk T n:=by
 unfold F2 at h;split at h
 .injection h with h;injection h with h _;exact h.symm
 .cases h
def c7T(T:List Tok):Prop:=∀n,(tk T n).t.length<=1000000
def J3(T:List Tok)(n:Nat):Option (Tok×Nat):=(F2 T n 1).bind λx=>if Q2 x.1.t=true then none else some x
def a0H(T:List Tok)(n:Nat):Option (Tok×Nat):=(F2 T n 3).bind λx=>if E9 x.1.t=true then some x else none
theorem c7X(T:List Tok)(n:Nat)(ps:List I)(b:List Ex)(hT:T.length<=1000000)(hn:n<T.length)(hW:a0V T):b8 CC 192 [.ptr 0 0] (pst T n ps b) (a3Q (λa:Tok×Nat=>.agg a.1.cells) (λa=>pst T a.2 ps b) (λa=>J3 T n=some a/\a.2 <T.length) (J3 T n=none)):=by
 refine qO Tryz.func192 ?_;refine qD (l8 O t_9 O j1 ?_);refine qD (j5 O c7v o4 (a7L hT hn hW 1 ⟨O,O,U⟩) O (λx hx=>.inr ⟨x,j6,by rw[J3,hx.1];rfl,hx.2⟩) ?_);rintro⟨t,n1⟩ ⟨ht,bk⟩;have hte:=a48 ht;subst hte;dsimp only at ht bk⊢;refine z_1 ?_;refine V (c4 O Tryz.call236 ⟨D,D⟩ (a6a (tk T n).t _) O) ?_;refine qC ?_ ?_<;>intro h1
 .have hr:Q2 (tk T n).t=true:=H h1;exact a1P O O (O6 O a4R o4 (O1 _ _ _) O (λ_ _=>.inr ⟨(_,_),j6,by rw[J3,ht,n_7,W hr],Q⟩))
 .have hr:Q2 (tk T n).t=false:=H h1;refine z_2 ?_;exact⟨_,C4 O b3e,(by exact .inl ⟨(tk T n,n1),a0P O (a5i _ _),by rw[J3,ht,n_7,G (by rw[hr];decide)],bk⟩)⟩
theorem a9H{n:Nat}{ps:List I}{b:List Ex}(hT:T.length<=1000000)(hn:n<T.length)(hW:a0V T){s:Nat}(au:PAt σ q s T n ps b):b8 CC 192 [.ptr q 0] σ (a4j (λa:Tok×Nat=>.agg a.1.cells) (λa=>σ.set q (pbx T a.2 ps b s)) (λa=>J3 T n=some a/\a.2 <T.length) σ q s (J3 T n=none)):=
 a0O (c:=λa:Tok×Nat=>.agg a.1.cells) (N:=λa=>a.2) (λ_ h=>by cases h) (λ_=>a0z _) (c7X T n ps b hT hn hW) au
theorem c6J(T:List Tok)(n:Nat)(ps:List I)(b:List Ex)(hT:T.length<=1000000)(hn:n<T.length)(hW:a0V T)(hL:c7T T):b8 CC 237 [.ptr 0 0] (pst T n ps b) (a3Q (λa:Tok×Nat=>.agg a.1.cells) (λa=>pst T a.2 ps b) (λa=>a0H T n=some a/\a.2 <T.length) (a0H T n=none)):=by
 refine qO Tryz.func237 ?_;refine qD (l8 O t_9 O j1 ?_);refine qD (j5 O c7v o4 (a7L hT hn hW 3 ⟨O,O,U⟩) O (λx hx=>.inr ⟨x,j6,by rw[a0H,hx.1];rfl,hx.2⟩) ?_);rintro⟨t,n1⟩ ⟨ht,bk⟩;have hte:=a48 ht;subst hte;dsimp only at ht bk⊢;refine z_1 ?_;refine V (c4 O d0J ⟨D,D⟩ (a5C (tk T n).t (by have:=hL n;omega) _) O) ?_;refine qC ?_ ?_<;>intro h1
 .have hr:E9 (tk T n).t=false:=H h1;exact a1P O O (O6 O a4R o4 (O1 _ _ _) O (λ_ _=>.inr ⟨(_,_),j6,by rw[a0H,ht,n_7,G (by rw[hr];decide)],Q⟩))
 .have hr:E9 (tk T n).t=true:=H h1;refine z_2 ?_;exact⟨_,C4 O b3e,(by exact .inl ⟨(tk T n,n1),a0P O (a5i _ _),by rw[a0H,ht,n_7,W hr],bk⟩)⟩
theorem a9U{n:Nat}{ps:List I}{b:List Ex}(hT:T.length<=1000000)(hn:n<T.length)(hW:a0V T)(hL:c7T T){s:Nat}(au:PAt σ q s T n ps b):b8 CC 237 [.ptr q 0] σ (a4j (λa:Tok×Nat=>.agg a.1.cells) (λa=>σ.set q (pbx T a.2 ps b s)) (λa=>a0H T n=some a/\a.2 <T.length) σ q s (a0H T n=none)):=
 a0O (c:=λa:Tok×Nat=>.agg a.1.cells) (N:=λa=>a.2) (λ_ h=>by cases h) (λ_=>a0z _) (c6J T n ps b hT hn hW hL) au
def X0(b:List Ex)(x:Ex):Option (Nat×List Ex):=if b.length=256 then none else some (b.length,b++[x])
theorem c9q(T:List Tok)(n:Nat)(ps:List I)(b:List Ex)(_:T.length<=1000000)(_:n<T.length)(hb:b.length<=256)(t:Tok)(x:Ex):b8 CC 279 [.ptr 0 0,.agg t.cells,.agg x.cells] (pst T n ps b) (a3Q (λa:Nat×List Ex=>(iv a.1)) (λa=>a6A T n ps a.2) (λa=>X0 b x=some a/\a.2.length<=256) (X0 b x=none)):=by
 refine qO Tryz.func279 ?_;refine z_6 ?_;refine V a8V ?_;refine qC ?_ ?_<;>intro h1
 .have h256:b.length=256:=sm_ h1;exact a1P O O (O6 O a4R o4 (O1 _ _ _) O (λ_ _=>.inr ⟨(_,_),j6,by rw[X0,W h256],Q⟩))
 .have h256:¬b.length=256:=sm_ h1;have cH:(b++[x]).length=b.length+1:=by simp
  refine d5g ?_;refine chf O b3m ?_;refine chf O (c7 O (j2 O D O c3q O a9r U)) ?_;refine chf O (c7 O c13) ?_;refine chf O (c7 O c7g) ?_;refine chf O d9G ?_;refine G4 ?_;refine B9 O O O (D6 O D D O Q q_3 b6a b5j Tryz.typeInfo212 b63 O (.inr O) q_8 (by have hb:Tryz.t212.bytes=64:=O;rw[hb];first|omega|(simp;done)|(simp;omega)) G0 ((b++[x]).map Ex.cv) (b++[x]).length Q Q ?_);refine c9o ?_;refine E8 O O (c7 O (j2 O D O c3q O a9r U)) ⟨D,?_⟩;refine d6a ?_;refine V a8V ?_;refine V a0k ?_;refine c6 ?_;exact⟨_,rE1,(by rw[show(((b++[x]).length:Int) -1)=(b.length:Int) by omega];exact .inl ⟨(b.length,b++[x]),Z8 (k:=4) O O U (.val _),by rw[X0,G h256],by show(b++[x]).length<=256;omega⟩)⟩
theorem a0x{n:Nat}{ps:List I}{b:List Ex}(hT:T.length<=1000000)(hn:n<T.length)(hb:b.length<=256)(t:Tok)(x:Ex){s:Nat}(au:PAt σ q s T n ps b):b8 CC 279 [.ptr q 0,.agg t.cells,.agg x.cells] σ (a4j (λa:Nat×List Ex=>(iv a.1)) (λa=>(σ.set q (pbx T n ps a.2 σ.length)).set s .dead++[p7 a.2.length]) (λa=>X0 b x=some a/\a.2.length<=256) σ q s (X0 b x=none)):=
 a2S (c:=λa:Nat×List Ex=>(iv a.1)) (N:=λ_=>n) (B:=λa=>a.2) (λ_ h=>by simp at h;rcases h with rfl|rfl;exact a0z _;exact j4 x.pure) (λ_=>.val _) (c9q T n ps b hT hn hb t x) au
theorem d1G{n:Nat}{ps:List I}{b:List Ex}(eH:τ=pbx T n ps b 1::p7 b.length::rest)(hc:D5 2 [0,1] c c'):F7 2 τ (.ret c) (.ret c') (pst T n ps b):=by
 subst eH;exact⟨[0,1],O,O,.ret hc,.inr ⟨_,O,.same O (a3u U)⟩,.inr ⟨_,O,.same O F0⟩,D⟩
theorem Z3{f:α->List CV}{nn:Bool}{tok:Option Nat}(h:∀a,P5 (f a))(l:List α):D5 L ao (.list (l.map f) nn tok) (.list (l.map f) nn none):=
 .list (λr hr c hc=>(C7 (f:=f) (λa=>(h a).all) _ r hr c hc).old) (λj hj=>by cases hj)
def a2v:Nat->List Tok->Nat->List I->Option (List I×Nat)
 |0,_,_,_=>none
 |f+1,T,n,l=>(J3 T n).bind λx=>if l.length=8 then none else if x.1.t∈l then none else
  if isT (tk T x.2) 4 [44]=true then a2v f T (x.2+1) (l++[x.1.t])else(pIs T x.2 4 [41]).bind λm=>some (l++[x.1.t],m)
def L3(T:List Tok)(n:Nat):Option (List I×Nat):=(pIs T n 4 [40]).bind λm=>if isT (tk T m) 4 [41]=true then some ([],m+1)else a2v 9 T m []
theorem X5(l:List α)(x:α):(l++[x]).length=l.length+1:=by simp
theorem b0B(T:List Tok)(n:Nat)(ps:List I)(b:List Ex)(hT:T.length<=1000000)(hn:n<T.length)(hW:a0V T):b8 CC 240 [.ptr 0 0] (pst T n ps b) (a3Q (λa:List I×Nat=>.list (a.1.map scv) (gnn a.1.length) none) (λa=>pst T a.2 ps b) (λa=>L3 T n=some a/\a.2 <T.length/\a.1.length<=8) (L3 T n=none)):=by
 refine qO Tryz.func240 ?_;refine qD (j5 O a5L o4 (Q0 hT hn hW [40] ⟨O,O,U⟩) O (λx hx=>.inr ⟨x,j6,by rw[L3,hx.1];rfl,hx.2⟩) ?_);rintro n1 ⟨bu,bk⟩;dsimp only at bu bk⊢;refine qD (c5 O c3K o4 (a1H hT bk hW [41] ⟨O,O,U⟩) O ?_);rintro⟨ac,n2⟩ ⟨ha,bT,dX⟩;dsimp only at ha bT dX⊢;refine qC ?_ ?_<;>intro h1
 .have hc:isT (tk T n1) 4 [41]=true:=by rw[<- ha];simpa using h1
  rw[W hc]at bT;refine c6 ?_;exact⟨_,rE1,(by exact .inl ⟨([],n2),a0P O (B8 _ [] false),by rw[L3,bu,n_7,W hc,bT],dX,by show 0<=8;decide⟩)⟩
 .have hc:¬isT (tk T n1) 4 [41]=true:=by rw[<- ha];simpa using h1
  rw[G hc]at bT;refine C5 hCC 2 O (α:=List I×Nat) (λx=>[(0,.ptr 0 0),(3,(.list (x.1.map scv) (gnn x.1.length) (G9 x.1.length 2)))]) (λx=>[pbx T x.2 ps b 1,p7 b.length,p7 x.1.length]) (λx=>x.1.length<=8/\x.2 <T.length/\L3 T n=a2v (9-x.1.length) T x.2 x.1) (λx=>9-x.1.length) ⟨([],n2),[0,1,7],⟨n_4 _,dX,by rw[L3,bu,n_7,G hc,bT];rfl⟩,⟨O,O⟩,ut_,uq_⟩ ?_;intro⟨l,m⟩ ⟨hl,hm,ai⟩;dsimp only at hl hm ai⊢;obtain⟨f,hf⟩:∃f,9-l.length=f+1:=⟨8-l.length,J⟩;rw[hf,a2v]at ai;refine qk (qD (j5 O c1v ⟨D,D⟩ (a9H hT hm hW ⟨O,O,U⟩) O (λx hx=>.inr ⟨x,j6,by rw[ai,hx.1];rfl,hx.2⟩) ?_));rintro⟨t,m1⟩ ⟨ht,dz⟩;dsimp only at ht dz⊢;rw[ht,n_7]at ai;dsimp only at ai;refine z_1 ?_;refine V K6 ?_;refine qC ?_ ?_<;>intro h2
  .have h8:l.length=8:=sm_ h2;rw[W h8]at ai;exact a1P O O (O6 O a4R o4 (O1 _ _ _) O (λ_ _=>.inr ⟨(_,_),j6,ai,Q⟩))
  .have h8:¬l.length=8:=sm_ h2;rw[G h8]at ai;refine V (c4 O Tryz.call160 j7 (a4y l (gnn l.length) t.t J _) O) ?_;refine qC ?_ ?_<;>intro h3
   .have hi:t.t∈l:=H h3;rw[W hi]at ai;exact a1P O O (O6 O a4R o4 (O1 _ _ _) O (λ_ _=>.inr ⟨(_,_),j6,ai,Q⟩))
   .have hi:¬t.t∈l:=H h3;rw[G hi]at ai;have eJ:=X5 l t.t;refine V (B4 [scv t.t] O ⟨D,D⟩ t_2 t_0 t_4 O O O O O O O O O) ?_;refine qD (D6 O D D O Q q_3 t_2 t_0 a5W t_4 O (.inr O) q_8 a5O G0 ((l++[t.t]).map scv) (l++[t.t]).length Q Q ?_);refine qD (c5 O c3K o4 (a1H hT dz hW [44] ⟨O,O,U⟩) O ?_);rintro⟨ac2,m2⟩ ⟨ha2,ce,fY⟩;dsimp only at ha2 ce fY⊢;refine qC ?_ ?_<;>intro h4
    .have dT:¬isT (tk T m1) 4 [44]=true:=by rw[<- ha2];simpa using h4
     rw[G dT]at ce ai;subst ce;refine l9 ?_;refine qD (j5 O a5L o4 (Q0 hT fY hW [41] ⟨O,O,U⟩) O (λx hx=>.inr ⟨x,j6,by rw[ai,hx.1];rfl,hx.2⟩) ?_);rintro m3 ⟨fB,fX⟩;dsimp only at fB fX⊢;refine c6 ?_;exact⟨_,rE1,(by exact .inl ⟨(l++[t.t],m3),d1G O (Z3 (f:=scv) (λ_=>⟨.val _,D⟩) _),by rw[ai,fB];rfl,fX,by show(l++[t.t]).length<=8;omega⟩)⟩
    .have dT:isT (tk T m1) 4 [44]=true:=by rw[<- ha2];simpa using h4
     rw[W dT]at ce ai;subst ce;exact⟨(l++[t.t],m1+1),[0,1,4],⟨do_,do_,fY,by dsimp only;rw[ai,show 9- (l++[t.t]).length=f by omega]⟩,⟨O,O⟩,ut_,uq_⟩
theorem b2g{n:Nat}{ps:List I}{b:List Ex}(hT:T.length<=1000000)(hn:n<T.length)(hW:a0V T){s:Nat}(au:PAt σ q s T n ps b):b8 CC 240 [.ptr q 0] σ (a4j (λa:List I×Nat=>.list (a.1.map scv) (gnn a.1.length) none) (λa=>σ.set q (pbx T a.2 ps b s)) (λa=>L3 T n=some a/\a.2 <T.length/\a.1.length<=8) σ q s (L3 T n=none)):=
 a0O (c:=λa:List I×Nat=>.list (a.1.map scv) (gnn a.1.length) none) (N:=λa=>a.2) (λ_ h=>by cases h) (λ_=>o6 _ _) (b0B T n ps b hT hn hW) au
def H6(op:Int):Int:=if op=6\/op=7 then 1 else if op=1\/op=2 then 2 else 3
def S0:List (Int×I):=[(1,[43]),(2,[45]),(3,[42]),(4,[47]),(5,[37]),(6,[60]),(7,[61,61])]
theorem b4U(op:Int)(σ:List b9):b8 CC 319 [iv op] σ λr aa=>r= .ret (iv (H6 op))/\aa=σ:=by
 refine b8.anyw hCC pu_ pu_ (c9 (qO Tryz.func319 ?_)) σ;refine qC ?_ ?_<;>intro h1
 .have e:op=6:=H h1;refine qC ?_ ?_<;>intro h2
  .refine c6 ?_;exact⟨_,rE1,_,_,O,O,C8 (show(1:Int)=H6 op by rw[H6,W (.inl e)])⟩
  .rw [h1]at h2;cases h2
 .have e6:¬op=6:=H h1;refine qC ?_ ?_<;>intro h6
  .have e:op=7:=H h6;refine c6 ?_;exact⟨_,rE1,_,_,O,O,C8 (show(1:Int)=H6 op by rw[H6,W (.inr e)])⟩
  .have e7:¬op=7:=H h6;refine qC ?_ ?_<;>intro h7
   .have e:op=1:=H h7;refine qC ?_ ?_<;>intro h8
    .refine c6 ?_;exact⟨_,rE1,_,_,O,O,C8 (show(2:Int)=H6 op by rw[H6,G J,W (.inl e)])⟩
    .rw [h7]at h8;cases h8
   .have e1:¬op=1:=H h7;refine qC ?_ ?_<;>intro h9
    .have e:op=2:=H h9;refine c6 ?_;exact⟨_,rE1,_,_,O,O,C8 (show(2:Int)=H6 op by rw[H6,G J,W (.inr e)])⟩
    .have e2:¬op=2:=H h9;refine c6 ?_;exact⟨_,rE1,_,_,O,O,C8 (show(3:Int)=H6 op by rw[H6,G J,G J])⟩
theorem d4Z(m:List (Int×I)):a2M (.map (gm kv sv m)):=λx hx=>by
 obtain⟨y,_,rfl⟩:=H9.1 hx;exact⟨.val _,.val _⟩
theorem c4h:b8 CC 307 [] [] λr τ=>∃_:Unit,a03 [b9.map (gm kv sv S0)].length τ r (.ret (.map 0))/\a5T [b9.map (gm kv sv S0)].length τ τ [b9.map (gm kv sv S0)]/\([]:List b9).length<=[b9.map (gm kv sv S0)].length/\True:=by
 refine qO Tryz.func307 ?_;refine qD (Q4 O ?_);refine qD (j9 (vc:=sv) (l:=S0.take 0) a0C (.inr O) D O O O O O a4W O ?_);refine qD (j9 (vc:=sv) (l:=S0.take 1) a0C (.inr O) D O O O O O a4W O ?_);refine qD (j9 (vc:=sv) (l:=S0.take 2) a0C (.inr O) D O O O O O a4W O ?_);refine qD (j9 (vc:=sv) (l:=S0.take 3) a0C (.inr O) D O O O O O a4W O ?_);refine qD (j9 (vc:=sv) (l:=S0.take 4) a0C (.inr O) D O O O O O a4W O ?_);refine qD (j9 (vc:=sv) (l:=S0.take 5) a0C (.inr O) D O O O O O a4W O ?_);refine qD (j9 (vc:=sv) (l:=S0.take 6) a0C (.inr O) D O O O O O a4W O ?_);refine c6 ?_;exact⟨_,rE1,(by exact⟨(),.ret (.old (.map (Nat.zero_lt_one))),⟨.same (d4Z _).old,D⟩,n_4 _,D⟩)⟩
theorem c50(σ:List b9):b8 CC 307 [] σ λr τ=>∃_:Unit,r= .ret (.map σ.length)/\τ=σ++[.map (gm kv sv S0)]/\True:=
 a0Z (α:=Unit) (obs:=[]) (args:=[]) (res:=λ_=>.ret (.map 0)) (res':=λ_=>.ret (.map σ.length)) (S:=λ_=>[]) (N:=λ_=>[.map (gm kv sv S0)]) (P:=λ_=>True) [] hCC O (λi j k h=>by simp at h) (λi k h=>by simp at h) (λob h=>by cases h) ⟨O,λi c c' h=>by simp at h⟩
  (P4 (res:=λ_=>.ret (.map 0)) (S:=λ_=>[.map (gm kv sv S0)]) (P:=λ_=>True) hCC c4h) (λm _=>⟨O,λob h=>by simp at h;subst h;exact d4Z _⟩) (λm _=>.ret (.map (.inr ⟨n_4 _,O⟩)))
def opM(t:Tok)(lv:Int)(x:Int×I):Bool:=(t.k == 4)&&decide (t.t=x.2)&& (H6 x.1 == lv)
def opS(t:Tok)(lv:Int):Int:=((S0.find? (opM t lv)).map (·.1)).getD 0
theorem d6m:∀x∈S0,∀y∈S0,x.2=y.2->x=y:=by decide
theorem a4P{x:Int×I}(hx:x∈S0)(h:opM t lv x=true):opS t lv=x.1:=by
 unfold opS;cases hf:S0.find? (opM t lv)with
 |none=>exact absurd h (by simpa using List.find?_eq_none.1 hf x hx)
 |some y=>
  have h1:=List.find?_some hf;have h2:=b22 hf;simp[opM]at h h1;have:=d6m x hx y h2 (by rw[<- h.1.2,<- h1.1.2]);rw[this];rfl
theorem b0w(h:∀x∈S0,opM t lv x=false):opS t lv=0:=by
 unfold opS;have:S0.find? (opM t lv)=none:=List.find?_eq_none.2 λx hx=>by simp[h x hx]
 rw[this];rfl
theorem b43{l:List α}{x y:α}(hy:l[i]?=some y)(h:x∈l):x=y\/x∈l.eraseIdx i:=by
 obtain⟨j,hj⟩:=M5.1 h;by_cases ee:j=i
 .subst ee;rw[hy]at hj;injection hj with hj;exact .inl hj.symm
 .exact .inr (c9v.2 ⟨j,ee,hj⟩)
theorem b4H(T:List Tok)(n:Nat)(ps:List I)(b:List Ex)(hT:T.length<=1000000)(hn:n<T.length)(lv:Int):b8 CC 302 [.ptr 0 0,iv lv] (pst T n ps b) (λr τ=>F7 2 τ r (.ret (iv (opS (tk T n) lv))) (pst T n ps b)):=by
 refine qO Tryz.func302 ?_;refine V b6Q ?_;refine z_1 ?_;refine qD (c5 O Tryz.call307 trivial (c50 _) O ?_);intro _ _;refine qD (b4b O D O a4W O ?_);refine m0 hCC (α:=List (Int×I)×List (Int×I)) (λx=>[(1,iv lv),(5,.ptr 2 0),(11,.ptr 4 0)]) (λx=>[pbx T n ps b 1,p7 b.length,.box (tk T n).cells,.dead,.iter (gm kv sv x.1) (gm kv sv x.2)]) (λx=>(∀y∈x.2,y∈S0)/\∀y∈S0,y∉x.2->opM (tk T n) lv y=false) (λx=>x.2.length) ([],S0) ⟨λy h=>h,λy h h2=>absurd h h2⟩ tu_ (aj:=[]) O A7 uz_ ?_;intro⟨aF,left⟩ ⟨eJ,cA⟩;dsimp only at eJ cA⊢;refine qk (qD (b83 O D O O (λhz=>?_) (λi x hx=>?_)))
 .
  have dF:left=[]:=by
   cases left with
   |nil=>rfl
   |cons y l=>cases hz
  subst dF;refine qC ?_ ?_<;>intro h1
  .cases h1
  .have eX:=b0w (λy hy=>cA y hy Q);refine W5 ?_;exact⟨_,rE1,(by rw[eX];exact a0P O (.val _))⟩
 .
  obtain⟨⟨k,s⟩,hy,rfl⟩:=b9w hx;rw[b0V];have bS:=eJ _ (n_2 hy);refine qC ?_ ?_<;>intro h3
  .refine V (b5l O D O O) ?_;refine qG b8L ?_;refine qG a26 ?_;refine b3z ?_;refine qG D2 ?_;refine qG (λhg=>c4 O Tryz.call319 ⟨hg,D⟩ (b4U k _) O) ?_;refine qG D2 ?_;refine qG b2y ?_;refine V S6 ?_;refine qC ?_ ?_<;>intro h4
   .have hm:opM (tk T n) lv (k,s)=true:=h4;have bV:=a4P bS hm;refine c6 ?_;exact⟨_,rE1,(by rw[bV];exact a0P O (.val _))⟩
   .have hm:opM (tk T n) lv (k,s)=false:=h4;exact⟨([(k,s)],left.eraseIdx i),_,⟨by dsimp only;rw[c01 (n_3.1 hy).1];have:=(n_3.1 hy).1;omega,λy hy'=>eJ y (List.mem_of_mem_eraseIdx hy'),λy eR hy2=>by
     by_cases fT:y∈left
     .rcases b43 hy fT with rfl|h
      .exact hm
      .exact absurd h hy2
     .exact cA y eR fT⟩,tu_,O⟩
  .cases h3
theorem b7R{n:Nat}{ps:List I}{b:List Ex}(hT:T.length<=1000000)(hn:n<T.length)(lv:Int){s:Nat}(au:PAt σ q s T n ps b):b8 CC 302 [.ptr q 0,iv lv] σ λr τ=>r= .ret (iv (opS (tk T n) lv))/\τ=σ:=c0m (λ_ h=>by simp at h;subst h;exact .val _) (.val _) (b4H T n ps b hT hn lv) au
abbrev PX:=Nat×Nat×List Ex
variable{y:PX}
structure PF where
 ex:Nat->Nat->List Ex->Option PX
 bin:Nat->Nat->Nat->List Ex->Option PX
 lp:Nat->Nat->Nat->Nat->List Ex->Option PX
 fac:Nat->Nat->List Ex->Option PX
 ag:Nat->Nat->List Ex->List Int->Option (List Int×Nat×List Ex)
def a2t(T:List Tok)(F:PF)(d n:Nat)(b:List Ex):Option (List Int×Nat×List Ex):=
 (pIs T n 4 [40]).bind λn1=>if isT (tk T n1) 4 [41]=true then some ([],n1+1,b)else F.ag d n1 b []
def L2(b:List Ex)(x:Ex)(m:Nat):Option PX:=(X0 b x).bind λw=>some (w.1,m,w.2)
def X2(T:List Tok)(F:PF)(u:I)(d n:Nat)(b:List Ex):Option PX:=
 (pIs T n 4 [40]).bind λn1=>
  if u=[114,101,97,100]then(a0H T n1).bind λs=>(pIs T s.2 4 [44]).bind λn2=>(F.ex (d+1) n2 b).bind λx=>(pIs T x.2.1 4 [41]).bind λm=>L2 x.2.2 ⟨6,0,0,s.1.t,[(x.1:Int)]⟩ m
  else if u=[115,105,122,101]then(a0H T n1).bind λs=>(pIs T s.2 4 [41]).bind λm=>L2 b ⟨7,0,0,s.1.t,[]⟩ m
  else if u=[104,97,115]then(a0H T n1).bind λs=>(pIs T s.2 4 [41]).bind λm=>L2 b ⟨8,0,0,s.1.t,[]⟩ m
  else if u=[101,110,118]then(F2 T n1 3).bind λs=>if B5 s.1.t=true then(pIs T s.2 4 [41]).bind λm=>L2 b ⟨9,0,0,s.1.t,[]⟩ m else none
  else(F2 T n1 2).bind λs=>if 64<=s.1.n then none else(pIs T s.2 4 [41]).bind λm=>L2 b ⟨10,s.1.n,0,[],[]⟩ m
def F9(T:List Tok)(ps:List I)(F:PF):PF where
 ex d n b:=if 32<d then none else if isT (tk T n) 1 [105,102]=true then
  (F.ex (d+1) (n+1) b).bind λx=>(pIs T x.2.1 1 [116,104,101,110]).bind λn2=>(F.ex (d+1) n2 x.2.2).bind λy=>(pIs T y.2.1 1 [101,108,115,101]).bind λn3=>(F.ex (d+1) n3 y.2.2).bind λz=>
   L2 z.2.2 ⟨5,0,0,[],[(x.1:Int),(y.1:Int),(z.1:Int)]⟩ z.2.1
  else F.bin 1 d n b
 bin lv d n b:=if lv=4 then F.fac d n b else(F.bin (lv+1) d n b).bind λx=>F.lp lv d x.1 x.2.1 x.2.2
 lp lv d x n b:=if opS (tk T n) (lv:Int)=0 then some (x,n,b)else(F.bin (lv+1) d (n+1) b).bind λy=>(X0 y.2.2 ⟨4,0,opS (tk T n) (lv:Int),[],[(x:Int),(y.1:Int)]⟩).bind λw=>
  if lv=1 then some (w.1,y.2.1,w.2)else F.lp lv d w.1 y.2.1 w.2
 fac d n b:=
  if(tk T n).k=2 then L2 b ⟨1,(tk T n).n,0,[],[]⟩ (n+1)
  else if isT (tk T n) 4 [45]=true then(F2 T (n+1) 2).bind λy=>L2 b ⟨1,-y.1.n,0,[],[]⟩ y.2
  else if isT (tk T n) 4 [40]=true then(F.ex (d+1) (n+1) b).bind λx=>(pIs T x.2.1 4 [41]).bind λm=>some (x.1,m,x.2.2)
  else if(tk T n).k≠1 then none
  else if(tk T n).t=[114,101,97,100]\/(tk T n).t=[115,105,122,101]\/(tk T n).t=[104,97,115]\/(tk T n).t=[101,110,118]\/(tk T n).t=[102,108,105,112]then X2 T F (tk T n).t d (n+1) b
  else if Q2 (tk T n).t=true then none
  else if isT (tk T (n+1)) 4 [40]=true then(a2t T F d (n+1) b).bind λa=>L2 a.2.2 ⟨3,0,0,(tk T n).t,a.1⟩ a.2.1
  else if ixS ps (tk T n).t 0<0 then none else L2 b ⟨2,ixS ps (tk T n).t 0,0,[],[]⟩ (n+1)
 ag d n b acc:=(F.ex (d+1) n b).bind λx=>if isT (tk T x.2.1) 4 [44]=true then F.ag d (x.2.1+1) x.2.2 (acc++[(x.1:Int)])else(pIs T x.2.1 4 [41]).bind λm=>some (acc++[(x.1:Int)],m,x.2.2)
def A1(T:List Tok)(ps:List I):Nat->PF
 |0=>⟨λ_ _ _=>none,λ_ _ _ _=>none,λ_ _ _ _ _=>none,λ_ _ _=>none,λ_ _ _ _=>none⟩
 |f+1=>F9 T ps (A1 T ps f)
def EC(T:List Tok)(ps:List I)(f:Nat):Prop:=∀(d n:Nat) (b:List Ex),n<T.length->b.length<=256->d<=33->8*(T.length -n)+6<=f->∀(σ:List b9) (q s:Nat),PAt σ q s T n ps b->b8 CC 241 [.ptr q 0,iv d] σ (a4j (λa:PX=>(iv a.1)) (λa:PX=>(σ.set q (pbx T a.2.1 ps a.2.2 σ.length)).set s .dead++[p7 a.2.2.length]) (λa:PX=>(A1 T ps f).ex d n b=some a/\n<a.2.1/\a.2.1 <T.length/\a.2.2.length<=256) σ q s ((A1 T ps f).ex d n b=none))
def BC(T:List Tok)(ps:List I)(f:Nat):Prop:=∀(lv d n:Nat) (b:List Ex),n<T.length->b.length<=256->1<=lv->lv<=4->d<=32->8*(T.length -n)+6<=f+lv->∀(σ:List b9) (q s:Nat),PAt σ q s T n ps b->b8 CC 278 [.ptr q 0,iv lv,iv d] σ (a4j (λa:PX=>(iv a.1)) (λa:PX=>(σ.set q (pbx T a.2.1 ps a.2.2 σ.length)).set s .dead++[p7 a.2.2.length]) (λa:PX=>(A1 T ps f).bin lv d n b=some a/\n<a.2.1/\a.2.1 <T.length/\a.2.2.length<=256) σ q s ((A1 T ps f).bin lv d n b=none))
def FC(T:List Tok)(ps:List I)(f:Nat):Prop:=∀(d n:Nat) (b:List Ex),n<T.length->b.length<=256->d<=32->8*(T.length -n)+1<=f->∀(σ:List b9) (q s:Nat),PAt σ q s T n ps b->b8 CC 301 [.ptr q 0,iv d] σ (a4j (λa:PX=>(iv a.1)) (λa:PX=>(σ.set q (pbx T a.2.1 ps a.2.2 σ.length)).set s .dead++[p7 a.2.2.length]) (λa:PX=>(A1 T ps f).fac d n b=some a/\n<a.2.1/\a.2.1 <T.length/\a.2.2.length<=256) σ q s ((A1 T ps f).fac d n b=none))
structure a0j(T:List Tok)(ps:List I):Prop where
 len:T.length<=1000000
 w:a0V T
 l:c7T T
 ps:ps.length<=1000000
 nn:∀i,0<=(tk T i).n/\(tk T i).n<=9007199254740993
variable{ps:List I}{l:List α}{nn:Bool}
theorem O7{n:Nat}{k:Int}{s:I}(h:pIs T n k s=some m):m=n+1:=by
 unfold pIs at h;split at h
 .injection h with h;exact h.symm
 .cases h
theorem c7t(hc:a0j T ps)(hE:EC T ps f)(hB:BC T ps f)(d n:Nat)(b:List Ex)(hn:n<T.length)(hb:b.length<=256)(bX:d<=33)(hf:8*(T.length -n)+6<=f+1):b8 CC 241 [.ptr 0 0,iv d] (pst T n ps b) (a3Q (λa:PX=>(iv a.1)) (λa=>a6A T a.2.1 ps a.2.2) (λa:PX=>(A1 T ps (f+1)).ex d n b=some a/\n<a.2.1/\a.2.1 <T.length/\a.2.2.length<=256) ((A1 T ps (f+1)).ex d n b=none)):=by
 have hT:=hc.len;have hW:=hc.w;have ai:(A1 T ps (f+1)).ex d n b=(F9 T ps (A1 T ps f)).ex d n b:=O;simp only[F9]at ai;refine qO Tryz.func241 ?_;refine V d5y ?_;refine z_1 ?_;refine qC ?_ ?_<;>intro h1
 .have hd:32<d:=sm_ h1;rw[W hd]at ai;exact a1P O O (O6 O a4R o4 (O1 _ _ _) O (λ_ _=>.inr ⟨(_,_),j6,ai,Q⟩))
 .have hd:¬32<d:=sm_ h1;rw[G hd]at ai;refine V (c4 O c4R a2y (b3v hT hn 1 [105,102] ⟨O,O,n_5 O⟩) O) ?_;refine qC ?_ ?_<;>intro h2
  .have hi:isT (tk T n) 1 [105,102]=false:=H h2;rw[G (by rw[hi];decide)]at ai;refine qD (j5 O c6g ⟨D,O,D,D⟩ (hB 1 d n b hn hb J J J J _ 0 1 ⟨O,O,n_5 O⟩) O (λx hx=>.inr ⟨x,j6,by rw[ai];exact hx.1,hx.2⟩) ?_);rintro⟨i,m,b2⟩ ⟨g1,g2,g3,g4⟩;dsimp only at g1 g2 g3 g4⊢;refine qN [pbx T m ps b2 3,.dead,.box (tk T n).cells,p7 b2.length] O ?_;refine c6 ?_;exact⟨_,rE1,(by exact .inl ⟨(i,m,b2),Z8 (k:=3) O O U (.val _),by rw[ai];exact g1,g2,g3,g4⟩)⟩
  .have hi:isT (tk T n) 1 [105,102]=true:=H h2;rw[W hi]at ai;have bk:=hW n hn (a6o hi U);refine z_4 ?_;refine V r6 ?_;refine qD (j5 O b9q j7 (hE (d+1) (n+1) b bk hb J J _ 0 1 ⟨O,O,n_5 O⟩) O (λx hx=>.inr ⟨x,j6,by rw[ai,hx.1];rfl,hx.2⟩) ?_);rintro⟨i1,n1,b1⟩ ⟨x1,y1,z1,w1⟩;dsimp only at x1 y1 z1 w1⊢;rw[x1,n_7]at ai;dsimp only at ai;refine qN [pbx T n1 ps b1 3,.dead,.box (tk T n).cells,p7 b1.length] O (qD (j5 O c6F o4 (b4m hT z1 hW [116,104,101,110] ⟨O,O,n_5 O⟩) O (λx hx=>.inr ⟨x,j6,by rw[ai,hx.1];rfl,hx.2⟩) ?_));rintro n2 ⟨x2,y2⟩;dsimp only at x2 y2⊢;rw[x2,n_7]at ai;have bT:=O7 x2;refine qN [pbx T n2 ps b1 3,.dead,.box (tk T n).cells,p7 b1.length] O (V r6 ?_);refine qD (j5 O b9q j7 (hE (d+1) n2 b1 y2 w1 J J _ 0 _ ⟨O,O,n_5 O⟩) O (λx hx=>.inr ⟨x,j6,by rw[ai,hx.1];rfl,hx.2⟩) ?_);rintro⟨i3,n3,b3⟩ ⟨x3,y3,z3,w3⟩;dsimp only at x3 y3 z3 w3⊢;rw[x3,n_7]at ai;dsimp only at ai;refine qN [pbx T n3 ps b3 4,.dead,.box (tk T n).cells,.dead,p7 b3.length] O (qD (j5 O c6F o4 (b4m hT z3 hW [101,108,115,101] ⟨O,O,n_5 O⟩) O (λx hx=>.inr ⟨x,j6,by rw[ai,hx.1];rfl,hx.2⟩) ?_));rintro n4 ⟨x4,y4⟩;dsimp only at x4 y4⊢;rw[x4,n_7]at ai;have hn4:=O7 x4;refine qN [pbx T n4 ps b3 4,.dead,.box (tk T n).cells,.dead,p7 b3.length] O (V r6 ?_);refine qD (j5 O b9q j7 (hE (d+1) n4 b3 y4 w3 J J _ 0 _ ⟨O,O,n_5 O⟩) O (λx hx=>.inr ⟨x,j6,by rw[ai,hx.1];rfl,hx.2⟩) ?_);rintro⟨i5,n5,b5⟩ ⟨x5,y5,z5,w5⟩;dsimp only at x5 y5 z5 w5⊢;rw[x5,n_7,L2]at ai;dsimp only at ai;refine qN [pbx T n5 ps b5 5,.dead,.box (tk T n).cells,.dead,.dead,p7 b5.length] O (V (B4 ([(i1:Int),(i3:Int),(i5:Int)].map icv) O B7 t_3 t_1 t_6 O O O O O O O O O) ?_);refine V b1v ?_;refine qD (j5 O b1d B7 (a0x hT z5 w5 (tk T n) ⟨5,0,0,[],[(i1:Int),(i3:Int),(i5:Int)]⟩ ⟨O,O,n_5 O⟩) O (λx hx=>.inr ⟨x,j6,by rw[ai,hx.1];rfl,hx.2⟩) ?_);rintro⟨i6,b6⟩ ⟨x6,y6⟩;dsimp only at x6 y6⊢;rw[x6,n_7]at ai;refine qN [pbx T n5 ps b6 6,.dead,.box (tk T n).cells,.dead,.dead,.dead,p7 b6.length] O ?_;refine c6 ?_;exact⟨_,rE1,(by exact .inl ⟨(i6,n5,b6),Z8 (k:=6) O O U (.val _),ai,do_,z5,y6⟩)⟩
theorem d2B(hc:a0j T ps)(hE:EC T ps f)(hB:BC T ps f):EC T ps (f+1):=λd n b hn hb hd hf σ q s au=>
 a2S (c:=λa:PX=>(iv a.1)) (N:=λa=>a.2.1) (B:=λa=>a.2.2) (λ_ h=>by simp at h;subst h;exact .val _) (λ_=>.val _) (c7t hc hE hB d n b hn hb hd hf) au
def kf(ph:Bool):Nat:=if ph=true then 3 else 2
def of1(ph:Bool)(m:Nat):b9:=if ph=true then .dead else p7 m
def of2(ph:Bool)(m:Nat):b9:=if ph=true then p7 m else .dead
theorem d8p(h:¬opS t lv=0):t.k≠5:=λh5=>h (b0w λx _=>by simp[opM,h5])
theorem a7l{b:List Ex}{k p:Nat}(h:ao[p]?=some k):D5 L ao (.list (b.map Ex.cv) (gnn b.length) (G9 b.length k)) (.list (b.map Ex.cv) (gnn b.length) (G9 b.length p)):=
 .list (λr hr c hc=>(C7 (f:=Ex.cv) (λa=>(Ex.pure a).all) _ r hr c hc).old) (λj hj=>by
  cases hb:b.length with
  |zero=>rw[hb]at hj;cases hj
  |succ m=>rw[hb]at hj;injection hj with hj;subst hj;exact⟨k,O,h⟩)
theorem b9a(hc:a0j T ps)(hB:∀g,g<=f->BC T ps g)(hF:FC T ps f)(lv d n:Nat)(b:List Ex)(hn:n<T.length)(hb:b.length<=256)(cH:1<=lv)(hl4:lv<=4)(bX:d<=32)(hf:8*(T.length -n)+6<=f+1+lv):b8 CC 278 [.ptr 0 0,iv lv,iv d] (pst T n ps b) (a3Q (λa:PX=>(iv a.1)) (λa=>a6A T a.2.1 ps a.2.2) (λa:PX=>(A1 T ps (f+1)).bin lv d n b=some a/\n<a.2.1/\a.2.1 <T.length/\a.2.2.length<=256) ((A1 T ps (f+1)).bin lv d n b=none)):=by
 have hT:=hc.len;have hW:=hc.w;have ai:(A1 T ps (f+1)).bin lv d n b=(F9 T ps (A1 T ps f)).bin lv d n b:=O;simp only[F9]at ai;refine qO Tryz.func278 ?_;refine qC ?_ ?_<;>intro h1
 .have h4:lv=4:=sm_ h1;rw[W h4]at ai;refine qD (j5 O Tryz.call301 j7 (hF d n b hn hb bX J _ 0 1 ⟨O,O,n_5 O⟩) O (λx hx=>.inr ⟨x,j6,by rw[ai];exact hx.1,hx.2⟩) ?_);rintro⟨i,m,b2⟩ ⟨g1,g2,g3,g4⟩;dsimp only at g1 g2 g3 g4⊢;refine qN [pbx T m ps b2 2,.dead,p7 b2.length] O ?_;refine c6 ?_;exact⟨_,rE1,(by exact .inl ⟨(i,m,b2),Z8 (k:=2) O O U (.val _),by rw[ai];exact g1,g2,g3,g4⟩)⟩
 .have h4:¬lv=4:=sm_ h1;rw[G h4]at ai;refine V r6 ?_;refine qD (j5 O c6g B7 (hB f (n_6 _) (lv+1) d n b hn hb J J bX J _ 0 1 ⟨O,O,n_5 O⟩) O (λx hx=>.inr ⟨x,j6,by rw[ai,hx.1];rfl,hx.2⟩) ?_);rintro⟨i1,n1,b1⟩ ⟨x1,y1,z1,w1⟩;dsimp only at x1 y1 z1 w1⊢;rw[x1,n_7]at ai;dsimp only at ai;refine qN [pbx T n1 ps b1 2,.dead,p7 b1.length] O ?_;refine C5 hCC 3 O (α:=Nat×Nat×List Ex×Bool×Nat) (λx=>[(0,.ptr 0 0),(1,iv lv),(2,iv d),(7,iv x.1)]) (λx=>[pbx T x.2.1 ps x.2.2.1 (kf x.2.2.2.1),.dead,of1 x.2.2.2.1 x.2.2.1.length,of2 x.2.2.2.1 x.2.2.1.length]) (λx=>(A1 T ps (f+1)).bin lv d n b=(A1 T ps x.2.2.2.2).lp lv d x.1 x.2.1 x.2.2.1/\n<x.2.1/\x.2.1 <T.length/\x.2.2.1.length<=256/\x.2.2.2.2<=f/\8*(T.length -x.2.1)+3<=x.2.2.2.2) (λx=>T.length -x.2.1) ⟨(i1,n1,b1,false,f),[0,1,2,7],⟨ai,y1,z1,w1,n_6 _,do_⟩,⟨O,O⟩,ut_,uq_⟩ ?_;intro⟨x,m,b2,ph,g⟩ ⟨cZ,cw,hm,bY,hgf,hg⟩;dsimp only at cZ cw hm bY hgf hg⊢;obtain⟨g,rfl⟩:∃g',g=g'+1:=⟨g-1,J⟩;have iG:(A1 T ps (g+1)).lp lv d x m b2=(F9 T ps (A1 T ps g)).lp lv d x m b2:=O;simp only[F9]at iG;rw[iG]at cZ;refine qk (V (c4 O Tryz.call302 j7 (b7R hT hm (lv:Int) (q:=0) (s:=kf ph) b6T) O) ?_);refine qC ?_ ?_<;>intro h2
  .have h0:opS (tk T m) (lv:Int)=0:=H h2;rw[W h0]at cZ;refine c6 ?_;exact⟨_,rE1,(by exact .inl ⟨(x,m,b2),(by cases ph;exact Z8 (k:=2) O O U (.val _);exact Z8 (k:=3) O O U (.val _)),cZ,cw,hm,bY⟩)⟩
  .have h0:¬opS (tk T m) (lv:Int)=0:=H h2;rw[G h0]at cZ;have dz:=hW m hm (d8p h0);refine V (c4 O c5d ⟨D,D⟩ (a3e hT hm (q:=0) (s:=kf ph) b6T) O) ?_;refine z_1 ?_;refine z_4 ?_;refine V r6 ?_;refine qD (j5 O c6g B7 (hB g J (lv+1) d (m+1) b2 dz bY J J bX J _ 0 (kf ph) b6T) O (λx hx=>.inr ⟨x,j6,by rw[cZ,hx.1];rfl,hx.2⟩) ?_);rintro⟨i3,n3,b3⟩ ⟨x3,y3,z3,w3⟩;dsimp only at x3 y3 z3 w3⊢;rw[x3,n_7]at cZ;dsimp only at cZ;refine qN [pbx T n3 ps b3 5,.dead,.dead,.dead,.box (tk T m).cells,p7 b3.length] a0o ?_;refine V (B4 ([(x:Int),(i3:Int)].map icv) O j7 t_3 t_1 t_6 O O O O O O O O O) ?_;refine V c4B ?_;refine qD (j5 O b1d B7 (a0x hT z3 w3 (tk T m) ⟨4,0,opS (tk T m) (lv:Int),[],[(x:Int),(i3:Int)]⟩ ⟨O,O,n_5 O⟩) O (λx hx=>.inr ⟨x,j6,by rw[cZ,hx.1];rfl,hx.2⟩) ?_);rintro⟨i4,b4⟩ ⟨x4,y4⟩;dsimp only at x4 y4⊢;rw[x4,n_7]at cZ;dsimp only at cZ;refine qN [pbx T n3 ps b4 6,.dead,.dead,.dead,.box (tk T m).cells,.dead,p7 b4.length] O (qC ?_ ?_)<;> intro h3
   .have cH:lv=1:=sm_ h3;rw[W cH]at cZ;refine c6 ?_;exact⟨_,rE1,(by exact .inl ⟨(i4,n3,b4),Z8 (k:=6) O O U (.val _),cZ,do_,z3,y4⟩)⟩
   .have cH:¬lv=1:=sm_ h3;rw[G cH]at cZ;exact⟨(i4,n3,b4,true,g),[0,1,2,6],⟨do_,cZ,do_,z3,y4,do_,do_⟩,⟨O,O⟩,ut_,⟨.inr ⟨_,O,.box ⟨.old a1c,.old (.val _),.old M8,a7l O,D⟩⟩,.inl O,.inl O,.inr ⟨_,O,.same O F0⟩,D⟩⟩
theorem c5x(hc:a0j T ps)(hB:∀g,g<=f->BC T ps g)(hF:FC T ps f):BC T ps (f+1):=λlv d n b hn hb cH hl4 hd hf σ q s au=>
 a2S (c:=λa:PX=>(iv a.1)) (N:=λa=>a.2.1) (B:=λa=>a.2.2) (λ_ h=>by simp at h;rcases h with rfl|rfl<;>exact .val _) (λ_=>.val _) (b9a hc hB hF lv d n b hn hb cH hl4 hd hf) au
theorem a4n{n:Nat}{k:Int}(h:F2 T n k=some (t,m))(hk:k≠5):m=n+1:=by
 unfold F2 at h;rw[G hk]at h;split at h
 .injection h with h;injection h with _ h;exact h.symm
 .cases h
theorem a6N{n:Nat}(h:a0H T n=some (t,m)):m=n+1:=by
 unfold a0H at h;cases hq:F2 T n 3 with
 |none=>rw[hq]at h;cases h
 |some x=>
  rw[hq,n_7]at h;split at h
  .injection h with h;subst h;exact a4n hq U
  .cases h
theorem a99{n:Nat}(h:J3 T n=some (t,m)):m=n+1:=by
 unfold J3 at h;cases hq:F2 T n 1 with
 |none=>rw[hq]at h;cases h
 |some x=>
  rw[hq,n_7]at h;split at h
  .cases h
  .injection h with h;subst h;exact a4n hq U
theorem b6O(hc:a0j T ps)(hE:EC T ps f)(t:Tok)(d n:Nat)(b:List Ex)(R:Option PX)(ai:R=X2 T (A1 T ps f) t.t d n b)(hn:n<T.length)(hb:b.length<=256)(bX:d<=32)(hf:8*(T.length -n)+6<=f):b8 CC 317 [.ptr 0 0,.agg t.cells,iv d] (pst T n ps b) (a3Q (λa:PX=>(iv a.1)) (λa=>a6A T a.2.1 ps a.2.2) (λa:PX=>R=some a/\n<a.2.1/\a.2.1 <T.length/\a.2.2.length<=256) (R=none)):=by
 have hT:=hc.len;have hW:=hc.w;unfold X2 at ai;refine qO Tryz.func317 ?_;refine qD (F1 O D j3 j1 ?_);refine qD (j5 O a5L o4 (Q0 hT hn hW [40] ⟨O,O,n_5 O⟩) O (λx hx=>.inr ⟨x,j6,by rw[ai,hx.1];rfl,hx.2⟩) ?_);rintro n1 ⟨sn1,kn1⟩;dsimp only at sn1 kn1⊢;rw[sn1,n_7]at ai;have en1:=O7 sn1;refine qD (l8 O b63 O j1 ?_);refine V U1 ?_;refine qC ?_ ?_<;>intro h1
 .have u1:t.t=[114,101,97,100]:=H h1;rw[W u1]at ai;refine qD (j5 O c24 ⟨D,D⟩ (a9U hT kn1 hW hc.l ⟨O,O,n_5 O⟩) O (λx hx=>.inr ⟨x,j6,by rw[ai,hx.1];rfl,hx.2⟩) ?_);rintro⟨p,n2⟩ ⟨s2,k2⟩;dsimp only at s2 k2⊢;rw[s2,n_7]at ai;dsimp only at ai;have e2:=a6N s2;refine V c27 ?_;refine c7m ?_;refine qD (j5 O a5L o4 (Q0 hT k2 hW [44] ⟨O,O,n_5 O⟩) O (λx hx=>.inr ⟨x,j6,by rw[ai,hx.1];rfl,hx.2⟩) ?_);rintro n3 ⟨sn3,kn3⟩;dsimp only at sn3 kn3⊢;rw[sn3,n_7]at ai;have en3:=O7 sn3;refine V r6 ?_;refine qD (j5 O b9q j7 (hE (d+1) n3 b kn3 hb J J _ 0 1 ⟨O,O,n_5 O⟩) O (λx hx=>.inr ⟨x,j6,by rw[ai,hx.1];rfl,hx.2⟩) ?_);rintro⟨i4,n4,b4⟩ ⟨x4,y4,z4,w4⟩;dsimp only at x4 y4 z4 w4⊢;rw[x4,n_7]at ai;dsimp only at ai;refine V (B4 ([(i4:Int)].map icv) O ⟨D,D⟩ t_3 t_1 t_6 O O O O O O O O O) ?_;refine qD (i9 O D D O j3 c3j (.inl O) O O (nb O) ?_);refine qD (j5 O a5L o4 (Q0 hT z4 hW [41] ⟨O,O,n_5 O⟩) O (λx hx=>.inr ⟨x,j6,by rw[ai,hx.1];rfl,hx.2⟩) ?_);rintro n5 ⟨eL,fG⟩;dsimp only at eL fG⊢;rw[eL,n_7]at ai;have en5:=O7 eL;refine qD (j5 O b1d B7 (a0x hT fG w4 t ⟨6,0,0,p.t,[(i4:Int)]⟩ ⟨O,O,n_5 O⟩) O (λx hx=>.inr ⟨x,j6,by rw[ai,L2,hx.1];rfl,hx.2⟩) ?_);rintro⟨i6,b6⟩ ⟨x6,y6⟩;dsimp only at x6 y6⊢;rw[L2,x6,n_7]at ai;exact b6h
 .have u1:¬t.t=[114,101,97,100]:=H h1;rw[G u1]at ai;refine V U1 ?_;refine qC ?_ ?_<;>intro h2
  .have u2:t.t=[115,105,122,101]:=H h2;rw[W u2]at ai;refine qD (j5 O c24 ⟨D,D⟩ (a9U hT kn1 hW hc.l ⟨O,O,n_5 O⟩) O (λx hx=>.inr ⟨x,j6,by rw[ai,hx.1];rfl,hx.2⟩) ?_);rintro⟨p,n2⟩ ⟨s2,k2⟩;dsimp only at s2 k2⊢;rw[s2,n_7]at ai;dsimp only at ai;have e2:=a6N s2;refine V c27 ?_;refine c7m ?_;refine qD (j5 O a5L o4 (Q0 hT k2 hW [41] ⟨O,O,n_5 O⟩) O (λx hx=>.inr ⟨x,j6,by rw[ai,hx.1];rfl,hx.2⟩) ?_);rintro n5 ⟨eL,fG⟩;dsimp only at eL fG⊢;rw[eL,n_7]at ai;have en5:=O7 eL;refine qD (j5 O b1d B7 (a0x hT fG hb t ⟨7,0,0,p.t,[]⟩ ⟨O,O,n_5 O⟩) O (λx hx=>.inr ⟨x,j6,by rw[ai,L2,hx.1];rfl,hx.2⟩) ?_);rintro⟨i6,b6⟩ ⟨x6,y6⟩;dsimp only at x6 y6⊢;rw[L2,x6,n_7]at ai;exact b6h
  .have u2:¬t.t=[115,105,122,101]:=H h2;rw[G u2]at ai;refine V U1 ?_;refine qC ?_ ?_<;>intro h3
   .have u3:t.t=[104,97,115]:=H h3;rw[W u3]at ai;refine qD (j5 O c24 ⟨D,D⟩ (a9U hT kn1 hW hc.l ⟨O,O,n_5 O⟩) O (λx hx=>.inr ⟨x,j6,by rw[ai,hx.1];rfl,hx.2⟩) ?_);rintro⟨p,n2⟩ ⟨s2,k2⟩;dsimp only at s2 k2⊢;rw[s2,n_7]at ai;dsimp only at ai;have e2:=a6N s2;refine V c27 ?_;refine c7m ?_;refine qD (j5 O a5L o4 (Q0 hT k2 hW [41] ⟨O,O,n_5 O⟩) O (λx hx=>.inr ⟨x,j6,by rw[ai,hx.1];rfl,hx.2⟩) ?_);rintro n5 ⟨eL,fG⟩;dsimp only at eL fG⊢;rw[eL,n_7]at ai;have en5:=O7 eL;refine qD (j5 O b1d B7 (a0x hT fG hb t ⟨8,0,0,p.t,[]⟩ ⟨O,O,n_5 O⟩) O (λx hx=>.inr ⟨x,j6,by rw[ai,L2,hx.1];rfl,hx.2⟩) ?_);rintro⟨i6,b6⟩ ⟨x6,y6⟩;dsimp only at x6 y6⊢;rw[L2,x6,n_7]at ai;exact b6h
   .have u3:¬t.t=[104,97,115]:=H h3;rw[G u3]at ai;refine V U1 ?_;refine qC ?_ ?_<;>intro h4
    .have u4:t.t=[101,110,118]:=H h4;rw[W u4]at ai;refine qD (j5 O c7v o4 (a7L hT kn1 hW 3 ⟨O,O,n_5 O⟩) O (λx hx=>.inr ⟨x,j6,by rw[ai,hx.1];rfl,hx.2⟩) ?_);rintro⟨p,n2⟩ ⟨s2,k2⟩;dsimp only at s2 k2⊢;rw[s2,n_7]at ai;dsimp only at ai;have e2:=a4n s2 U;have hp:=a48 s2;refine z_1 ?_;refine V (c4 O Tryz.call74 ⟨D,D⟩ (a8x p.t _) O) ?_;refine qC ?_ ?_<;>intro h5
     .have hq:B5 p.t=false:=H h5;rw[G (by rw[hq];decide)]at ai;exact a1P O O (O6 O a4R o4 (O1 _ _ _) O (λ_ _=>.inr ⟨(_,_),j6,ai,Q⟩))
     .have hq:B5 p.t=true:=H h5;rw[W hq]at ai;refine c7m ?_;refine qD (j5 O a5L o4 (Q0 hT k2 hW [41] ⟨O,O,n_5 O⟩) O (λx hx=>.inr ⟨x,j6,by rw[ai,hx.1];rfl,hx.2⟩) ?_);rintro n5 ⟨eL,fG⟩;dsimp only at eL fG⊢;rw[eL,n_7]at ai;have en5:=O7 eL;refine qD (j5 O b1d B7 (a0x hT fG hb t ⟨9,0,0,p.t,[]⟩ ⟨O,O,n_5 O⟩) O (λx hx=>.inr ⟨x,j6,by rw[ai,L2,hx.1];rfl,hx.2⟩) ?_);rintro⟨i6,b6⟩ ⟨x6,y6⟩;dsimp only at x6 y6⊢;rw[L2,x6,n_7]at ai;exact b6h
    .have u4:¬t.t=[101,110,118]:=H h4;rw[G u4]at ai;refine qD (j5 O c7v o4 (a7L hT kn1 hW 2 ⟨O,O,n_5 O⟩) O (λx hx=>.inr ⟨x,j6,by rw[ai,hx.1];rfl,hx.2⟩) ?_);rintro⟨p,n2⟩ ⟨s2,k2⟩;dsimp only at s2 k2⊢;rw[s2,n_7]at ai;dsimp only at ai;have e2:=a4n s2 U;have hp:=a48 s2;refine z_1 ?_;refine qC ?_ ?_<;>intro h6
     .have hq:64<=p.n:=H h6;rw[W hq]at ai;exact a1P O O (O6 O a4R o4 (O1 _ _ _) O (λ_ _=>.inr ⟨(_,_),j6,ai,Q⟩))
     .have hq:¬64<=p.n:=H h6;rw[G hq]at ai;refine c7m ?_;refine qD (j5 O a5L o4 (Q0 hT k2 hW [41] ⟨O,O,n_5 O⟩) O (λx hx=>.inr ⟨x,j6,by rw[ai,hx.1];rfl,hx.2⟩) ?_);rintro n5 ⟨eL,fG⟩;dsimp only at eL fG⊢;rw[eL,n_7]at ai;have en5:=O7 eL;refine qD (j5 O b1d B7 (a0x hT fG hb t ⟨10,p.n,0,[],[]⟩ ⟨O,O,n_5 O⟩) O (λx hx=>.inr ⟨x,j6,by rw[ai,L2,hx.1];rfl,hx.2⟩) ?_);rintro⟨i6,b6⟩ ⟨x6,y6⟩;dsimp only at x6 y6⊢;rw[L2,x6,n_7]at ai;exact b6h
def UC(T:List Tok)(ps:List I)(f:Nat):Prop:=∀(t:Tok) (d n:Nat) (b:List Ex),n<T.length->b.length<=256->d<=32->8*(T.length -n)+6<=f->∀(σ:List b9) (q s:Nat),PAt σ q s T n ps b->b8 CC 317 [.ptr q 0,.agg t.cells,iv d] σ (a4j (λa:PX=>(iv a.1)) (λa:PX=>(σ.set q (pbx T a.2.1 ps a.2.2 σ.length)).set s .dead++[p7 a.2.2.length]) (λa:PX=>(X2 T (A1 T ps f) t.t d n b)=some a/\n<a.2.1/\a.2.1 <T.length/\a.2.2.length<=256) σ q s ((X2 T (A1 T ps f) t.t d n b)=none))
theorem b9j(hc:a0j T ps)(hE:EC T ps f):UC T ps f:=λt d n b hn hb hd hf σ q s au=>
 a2S (c:=λa:PX=>(iv a.1)) (N:=λa=>a.2.1) (B:=λa=>a.2.2) (λ_ h=>by simp at h;rcases h with rfl|rfl;exact a0z _;exact .val _) (λ_=>.val _) (b6O hc hE t d n b _ O hn hb hd hf) au
def ka(ph:Bool):Nat:=if ph=true then 2 else 1
def oa1(ph:Bool)(m:Nat):b9:=if ph=true then .dead else p7 m
def oa2(ph:Bool)(m:Nat):b9:=if ph=true then p7 m else .dead
theorem b5a{n k:Nat}{b:List Ex}(h0:τ[0]?=some (pbx T n ps b k))(hk:τ[k]?=some (p7 b.length))(h2:2<=k)(hc:∀ao,D5 2 ao c c'):F7 2 τ (.ret c) (.ret c') (a6A T n ps b):=by
 obtain⟨ao,a1,a2,_,a4⟩:=Z8 h0 hk h2 (Old.val (.int .i64 0));exact⟨ao,a1,a2,.ret (hc ao),a4⟩
theorem d6M{n k:Nat}{b:List Ex}{l:List Int}{x:Int}(h0:τ[0]?=some (pbx T n ps b k))(hk:τ[k]?=some (p7 b.length))(h2:2<=k)(hc:∀ao,D5 2 ao c c'):F7 2 τ (.ret c) (.ret c') (if(!(l++[x]).isEmpty)=true then a6A T n ps b else pst T n ps b):=by
 rw[W Q];exact b5a h0 hk h2 hc
def AC(T:List Tok)(ps:List I)(f:Nat):Prop:=∀(d n:Nat) (b:List Ex),n<T.length->b.length<=256->d<=32->8*(T.length -n)+6<=f->∀(σ:List b9) (q s:Nat),PAt σ q s T n ps b->b8 CC 318 [.ptr q 0,iv d] σ (a4j (λa:List Int×Nat×List Ex=>(.list (a.1.map icv) (gnn a.1.length) none))
 (λa=>if(!a.1.isEmpty)=true then(σ.set q (pbx T a.2.1 ps a.2.2 σ.length)).set s .dead++[p7 a.2.2.length]else(σ.set q (pbx T a.2.1 ps a.2.2 s)).set s (p7 a.2.2.length)) (λa:List Int×Nat×List Ex=>a2t T (A1 T ps f) d n b=some a/\n<a.2.1/\a.2.1 <T.length/\a.2.2.length<=256/\a.1.length<=1000000) σ q s (a2t T (A1 T ps f) d n b=none))
theorem b2j(hc:a0j T ps)(hE:∀g,g<=f->EC T ps g)(d n:Nat)(b:List Ex)(hn:n<T.length)(hb:b.length<=256)(bX:d<=32)(hf:8*(T.length -n)+6<=f):b8 CC 318 [.ptr 0 0,iv d] (pst T n ps b) (a3Q (λa:List Int×Nat×List Ex=>(.list (a.1.map icv) (gnn a.1.length) none)) (λa=>if(!a.1.isEmpty)=true then a6A T a.2.1 ps a.2.2 else pst T a.2.1 ps a.2.2) (λa:List Int×Nat×List Ex=>a2t T (A1 T ps f) d n b=some a/\n<a.2.1/\a.2.1 <T.length/\a.2.2.length<=256/\a.1.length<=1000000) (a2t T (A1 T ps f) d n b=none)):=by
 have hT:=hc.len;have hW:=hc.w;have ai:a2t T (A1 T ps f) d n b=a2t T (A1 T ps f) d n b:=O
 conv at ai=>rhs;unfold a2t
 refine qO Tryz.func318 ?_;refine qD (j5 O a5L o4 (Q0 hT hn hW [40] ⟨O,O,n_5 O⟩) O (λx hx=>.inr ⟨x,j6,by rw[ai,hx.1];rfl,hx.2⟩) ?_);rintro n1 ⟨bu,bk⟩;dsimp only at bu bk⊢;rw[bu,n_7]at ai;have e1:=O7 bu;refine qD (c5 O c3K o4 (a1H hT bk hW [41] ⟨O,O,n_5 O⟩) O ?_);rintro⟨ac,n2⟩ ⟨ha,bT,dX⟩;dsimp only at ha bT dX⊢;refine qC ?_ ?_<;>intro h1
 .have di:isT (tk T n1) 4 [41]=true:=by rw[<- ha];simpa using h1
  rw[W di]at bT ai;refine c6 ?_;exact⟨_,rE1,(by exact .inl ⟨([],n2,b),a0P O (X7 _ [] false),by rw[ai,bT],do_,dX,hb,by show 0<=1000000;decide⟩)⟩
 .have di:¬isT (tk T n1) 4 [41]=true:=by rw[<- ha];simpa using h1
  rw[G di]at bT ai;subst bT;refine C5 hCC 2 O (α:=List Int×Nat×List Ex×Bool×Nat) (λx=>[(0,.ptr 0 0),(1,iv d),(5,(.list (x.1.map icv) (gnn x.1.length) (G9 x.1.length 3)))]) (λx=>[pbx T x.2.1 ps x.2.2.1 (ka x.2.2.2.1),oa1 x.2.2.2.1 x.2.2.1.length,oa2 x.2.2.2.1 x.2.2.1.length,p7 x.1.length]) (λx=>a2t T (A1 T ps f) d n b=(A1 T ps x.2.2.2.2).ag d x.2.1 x.2.2.1 x.1/\x.1.length<=x.2.1/\n<x.2.1/\x.2.1 <T.length/\x.2.2.1.length<=256/\x.2.2.2.2<=f/\8*(T.length -x.2.1)+7<=x.2.2.2.2) (λx=>T.length -x.2.1) ⟨([],n2,b,false,f),[0,1,7,8],⟨ai,n_4 _,do_,dX,hb,n_6 _,do_⟩,⟨O,O⟩,ut_,uq_⟩ ?_;intro⟨l,m,b2,ph,g⟩ ⟨cZ,fF,cw,hm,bY,hgf,hg⟩;dsimp only at cZ fF cw hm bY hgf hg⊢;obtain⟨g,rfl⟩:∃g',g=g'+1:=⟨g-1,J⟩;have iG:(A1 T ps (g+1)).ag d m b2 l=(F9 T ps (A1 T ps g)).ag d m b2 l:=O;simp only[F9]at iG;rw[iG]at cZ;refine b1G ?_;refine qD (j5 O b9q j7 (hE g J (d+1) m b2 hm bY J J _ 0 (ka ph) b6T) O (λx hx=>.inr ⟨x,j6,by rw[cZ,hx.1];rfl,hx.2⟩) ?_);rintro⟨i3,n3,b3⟩ ⟨x3,y3,z3,w3⟩;dsimp only at x3 y3 z3 w3⊢;rw[x3,n_7]at cZ;dsimp only at cZ;refine qN [pbx T n3 ps b3 4,.dead,.dead,p7 l.length,p7 b3.length] a0o ?_;have eJ:=X5 l (i3:Int);refine V (B4 [icv (i3:Int)] O ⟨D,D⟩ t_3 t_1 t_6 O O O O O O O O O) ?_;refine qD (D6 O D D O Q q_3 t_3 t_1 c5r t_6 O (.inr O) q_8 b3i G0 ((l++[(i3:Int)]).map icv) (l++[(i3:Int)]).length Q Q ?_);refine qD (c5 O c3K o4 (a1H hT z3 hW [44] ⟨O,O,n_5 O⟩) O ?_);rintro⟨ac2,m2⟩ ⟨ha2,ce,fY⟩;dsimp only at ha2 ce fY⊢;refine qC ?_ ?_<;>intro h2
  .have dT:¬isT (tk T n3) 4 [44]=true:=by rw[<- ha2];simpa using h2
   rw[G dT]at ce cZ;subst ce;refine l9 ?_;refine qD (j5 O a5L o4 (Q0 hT fY hW [41] ⟨O,O,n_5 O⟩) O (λx hx=>.inr ⟨x,j6,by rw[cZ,hx.1];rfl,hx.2⟩) ?_);rintro m3 ⟨fB,fX⟩;dsimp only at fB fX⊢;have e3:=O7 fB;rw[fB,n_7]at cZ;refine c6 ?_;exact⟨_,rE1,(by exact .inl ⟨(l++[(i3:Int)],m3,b3),d6M (k:=4) O O U (λ_=>Z3 (f:=icv) (λ_=>⟨.val _,D⟩) _),cZ,do_,fX,w3,do_⟩)⟩
  .have dT:isT (tk T n3) 4 [44]=true:=by rw[<- ha2];simpa using h2
   rw[W dT]at ce cZ;subst ce;exact⟨(l++[(i3:Int)],n3+1,b3,true,g),[0,1,4,5],⟨do_,cZ,do_,do_,fY,w3,do_,do_⟩,⟨O,O⟩,ut_,⟨.inr ⟨_,O,.box ⟨.old a1c,.old (.val _),.old M8,a7l O,D⟩⟩,.inl O,.inr ⟨_,O,.same O F0⟩,.inr ⟨_,O,.same O F0⟩,D⟩⟩
theorem b4M(hc:a0j T ps)(hE:∀g,g<=f->EC T ps g):AC T ps f:=λd n b hn hb hd hf σ q s au=>
 a4N (c:=λa:List Int×Nat×List Ex=>(.list (a.1.map icv) (gnn a.1.length) none)) (N:=λa=>a.2.1) (B:=λa=>a.2.2) (Z:=λ_=>ps) (g:=λa=>!a.1.isEmpty) (λ_ h=>by simp at h;subst h;exact .val _) (λ_=>F4 _ _) (b2j hc hE d n b hn hb hd hf) au
theorem a69{C:Ctx}{ae:Array Oper}{qs:List Nat}{Ji:A8->Env->List b9->Prop}{S:List (List b9->Prop)}{l:List (Nat×List Nat)}{fl:List Nat}{E:Env}(τ:List b9)(h:σ=τ)(k:a1h S τ fl/\Q8 C ae qs Ji S l E τ):a1h S σ fl/\Q8 C ae qs Ji S l E σ:=h▸k
def kc(ph:Bool):Nat:=if ph=true then 3 else 1
def oc1(ph:Bool)(m:Nat):b9:=if ph=true then .dead else p7 m
def oc2(ph:Bool)(m:Nat):List b9:=if ph=true then [p7 m]else []
theorem b8V(hc:a0j T ps)(hE:EC T ps f)(hA:AC T ps f)(hU:UC T ps f)(d n:Nat)(b:List Ex)(hn:n<T.length)(hb:b.length<=256)(bX:d<=32)(hf:8*(T.length -n)+1<=f+1):b8 CC 301 [.ptr 0 0,iv d] (pst T n ps b) (a3Q (λa:PX=>(iv a.1)) (λa=>a6A T a.2.1 ps a.2.2) (λa:PX=>(A1 T ps (f+1)).fac d n b=some a/\n<a.2.1/\a.2.1 <T.length/\a.2.2.length<=256) ((A1 T ps (f+1)).fac d n b=none)):=by
 have hT:=hc.len;have hW:=hc.w;have ai:(A1 T ps (f+1)).fac d n b=(F9 T ps (A1 T ps f)).fac d n b:=O;simp only[F9]at ai;refine cO Tryz.func301 ?_;refine z_0 ?_;refine cY a54 ?_;refine a4h ?_;refine ye O c5d ⟨D,D⟩ (a3e hT hn ⟨O,O,n_5 O⟩) O ?_;refine cD (l8 O t_9 O j1 ?_);refine cD (i9 O D D O j3 a3V j1 O O (nb O) ?_);refine a4f ?_;refine a3p ?_;refine z_0 ?_;refine cY c6X ?_;refine cY V3 ?_;refine cY a1s ?_;refine a24 ?_;refine cC ?_ ?_<;>intro h1
 .have u1:(tk T n).k=2:=H h1;rw[W u1]at ai;have bk:=hW n hn (by rw[u1];decide);refine a6O ?_;refine cY c14 ?_;refine cY V3 ?_;refine b5U ?_;refine d4l ?_;refine a4h ?_;refine cY b8M ?_;refine cY c6X ?_;refine cY V3 ?_;refine cY b1v ?_;refine cD (j5 O b1d B7 (a0x hT bk hb (tk T n) ⟨1,(tk T n).n,0,[],[]⟩ ⟨O,O,n_5 O⟩) O (λx hx=>.inr ⟨x,j6,by rw[ai,L2,hx.1];rfl,hx.2⟩) ?_);rintro⟨i6,b6⟩ ⟨x6,y6⟩;dsimp only at x6 y6⊢;rw[L2,x6,n_7]at ai;exact d4h
 .have u1:¬(tk T n).k=2:=H h1;rw[G u1]at ai;refine z_3 ?_;refine de O c3K o4 (a1H hT hn hW [45] ⟨O,O,n_5 O⟩) O ?_;rintro⟨ac,n2⟩ ⟨ha,bT,dX⟩;dsimp only at ha bT dX⊢;refine a24 ?_;refine cC ?_ ?_<;>intro h2
  .have u2:isT (tk T n) 4 [45]=true:=by rw[<- ha];simpa using h2
   rw[W u2]at bT ai;subst bT;refine J2 ?_;refine cF [] [0,1,2] (tl:=[(3,[0,1]),(4,[0,1]),(5,[0,1]),(6,[0,1]),(7,[]),(8,[])]) ?_;refine chf O U7 ?_;refine chf O (c7 O b8M) ?_;refine b6D ?_;refine B9 O O O (j5 O c7v o4 (a7L hT dX hW 2 ⟨O,O,n_5 O⟩) O (λx hx _=>.inr ⟨x,j6,by rw[ai,hx.1];rfl,hx.2⟩) ?_);rintro⟨p,n3⟩ ⟨s2,k2⟩;dsimp only at s2 k2⊢;rw[s2,n_7]at ai;dsimp only at ai;have e2:=a4n s2 U;have hpn:=hc.nn (n+1);rw[<- a48 s2]at hpn;have ew: -p.n=IntKind.i64.wrap (0-p.n):=by rw[a4v J J];omega
   rw[ew]at ai;refine⟨⟨G3,b2u,D⟩,?_⟩;refine E8 O O (c7 O a37) ⟨⟨G3,b2u,D⟩,?_⟩;refine E8 O O (c7 O (b8r O D O)) ⟨⟨G3,b2u,D⟩,?_⟩;refine E8 O O (c7 O b1v) ⟨⟨G3,b2u,D⟩,?_⟩;refine B9 O O O (j5 O b1d B7 (a0x hT k2 hb (tk T n) ⟨1,IntKind.i64.wrap (0-p.n),0,[],[]⟩ ⟨O,O,n_5 O⟩) O (λx hx _=>.inr ⟨x,j6,by rw[ai,L2,hx.1];rfl,hx.2⟩) ?_);rintro⟨i6,b6⟩ ⟨x6,y6⟩;dsimp only at x6 y6⊢;rw[L2,x6,n_7]at ai;refine⟨D,?_⟩;refine b3J ?_;exact⟨_,rE1,(by exact .inl ⟨(i6,n3,b6),Z8 O O (nb O) (.val _),ai,do_,k2,y6⟩)⟩
  .have u2:¬isT (tk T n) 4 [45]=true:=by rw[<- ha];simpa using h2
   rw[G u2]at bT ai;replace bT:=bT.symm;subst bT;refine z_3 ?_;refine de O c3K o4 (a1H hT hn hW [40] ⟨O,O,n_5 O⟩) O ?_;rintro⟨ac3,n3⟩ ⟨ha3,gJ,hn3l⟩;dsimp only at ha3 gJ hn3l⊢;refine a24 ?_;refine cC ?_ ?_<;>intro h3
   .have u3:isT (tk T n) 4 [40]=true:=by rw[<- ha3];simpa using h3
    rw[W u3]at gJ ai;subst gJ;refine z_3 ?_;refine cY A3 ?_;refine cY r6 ?_;refine cD (j5 O b9q j7 (hE (d+1) (n+1) b hn3l hb J J _ 0 1 ⟨O,O,n_5 O⟩) O (λx hx=>.inr ⟨x,j6,by rw[ai,hx.1];rfl,hx.2⟩) ?_);rintro⟨i4,n4,b4⟩ ⟨x4,y4,z4,w4⟩;dsimp only at x4 y4 z4 w4⊢;rw[x4,n_7]at ai;dsimp only at ai;refine G8 [pbx T n4 ps b4 3,.dead,.box (tk T n).cells,p7 b4.length] O ?_;refine a24 ?_;refine z_3 ?_;refine cD (j5 O a5L o4 (Q0 hT z4 hW [41] ⟨O,O,n_5 O⟩) O (λx hx=>.inr ⟨x,j6,by rw[ai,hx.1];rfl,hx.2⟩) ?_);rintro n5 ⟨s5,k5⟩;dsimp only at s5 k5⊢;rw[s5,n_7]at ai;have e5:=O7 s5;refine a4h ?_;refine b1l ?_;exact⟨_,rE1,(by exact .inl ⟨(i4,n5,b4),Z8 O O (nb O) (.val _),ai,do_,k5,w4⟩)⟩
   .have u3:¬isT (tk T n) 4 [40]=true:=by rw[<- ha3];simpa using h3
    rw[G u3]at gJ ai;replace gJ:=gJ.symm;subst gJ;refine z_0 ?_;refine cY c6X ?_;refine cY V3 ?_;refine cY a1s ?_;refine a24 ?_;refine cC ?_ ?_<;>intro h4
    .have u4:(tk T n).k≠1:=H h4;rw[W u4]at ai;refine C6 ?_;exact d6x
    .have u4:(tk T n).k=1:=H h4;rw[G (λh=>h u4)]at ai;have bk:=hW n hn (by rw[u4];decide);refine D8 ?_;refine a6O ?_;refine cY c14 ?_;refine cY V3 ?_;refine b5U ?_;refine d4l ?_;refine a4f ?_;refine z_0 ?_;refine cY b6z ?_;refine cY U0 ?_;refine c1X ?_;refine J2 ?_;refine z_0 ?_;refine b6Z ?_;refine cC ?_ ?_<;>intro h5
     .have u5:(tk T n).t=[114,101,97,100]:=H h5;have uu:(tk T n).t=[114,101,97,100]\/(tk T n).t=[115,105,122,101]\/(tk T n).t=[104,97,115]\/(tk T n).t=[101,110,118]\/(tk T n).t=[102,108,105,112]:=.inl u5;rw[W uu]at ai;refine D8 ?_;refine cC ?_ ?_<;>intro h6
      .refine b2F ?_;refine cD (j5 O c6I B7 (hU (tk T n) d (n+1) b bk hb bX J _ 0 1 ⟨O,O,n_5 O⟩) O (λx hx=>.inr ⟨x,j6,by rw[ai];exact hx.1,hx.2⟩) ?_);rintro⟨i,m,b2⟩ ⟨g1,g2,g3,g4⟩;dsimp only at g1 g2 g3 g4⊢;exact b6A
      .exact absurd u5 (H h6)
     .have u5:¬(tk T n).t=[114,101,97,100]:=H h5;refine z_0 ?_;refine b6Z ?_;refine cC ?_ ?_<;>intro h7
      .have u7:(tk T n).t=[115,105,122,101]:=H h7;have uu:(tk T n).t=[114,101,97,100]\/(tk T n).t=[115,105,122,101]\/(tk T n).t=[104,97,115]\/(tk T n).t=[101,110,118]\/(tk T n).t=[102,108,105,112]:=.inr (.inl u7);rw[W uu]at ai;refine D8 ?_;refine cC ?_ ?_<;>intro h8
       .refine b2F ?_;refine cD (j5 O c6I B7 (hU (tk T n) d (n+1) b bk hb bX J _ 0 1 ⟨O,O,n_5 O⟩) O (λx hx=>.inr ⟨x,j6,by rw[ai];exact hx.1,hx.2⟩) ?_);rintro⟨i,m,b2⟩ ⟨g1,g2,g3,g4⟩;dsimp only at g1 g2 g3 g4⊢;exact b6A
       .exact absurd u7 (H h8)
      .have u7:¬(tk T n).t=[115,105,122,101]:=H h7;refine z_0 ?_;refine b6Z ?_;refine cC ?_ ?_<;>intro h9
       .have u9:(tk T n).t=[104,97,115]:=H h9;have uu:(tk T n).t=[114,101,97,100]\/(tk T n).t=[115,105,122,101]\/(tk T n).t=[104,97,115]\/(tk T n).t=[101,110,118]\/(tk T n).t=[102,108,105,112]:=.inr (.inr (.inl u9));rw[W uu]at ai;refine D8 ?_;refine cC ?_ ?_<;>intro bj
        .refine b2F ?_;refine cD (j5 O c6I B7 (hU (tk T n) d (n+1) b bk hb bX J _ 0 1 ⟨O,O,n_5 O⟩) O (λx hx=>.inr ⟨x,j6,by rw[ai];exact hx.1,hx.2⟩) ?_);rintro⟨i,m,b2⟩ ⟨g1,g2,g3,g4⟩;dsimp only at g1 g2 g3 g4⊢;exact b6A
        .exact absurd u9 (H bj)
       .have u9:¬(tk T n).t=[104,97,115]:=H h9;refine z_0 ?_;refine b6Z ?_;refine cC ?_ ?_<;>intro cX
        .have u11:(tk T n).t=[101,110,118]:=H cX;have uu:(tk T n).t=[114,101,97,100]\/(tk T n).t=[115,105,122,101]\/(tk T n).t=[104,97,115]\/(tk T n).t=[101,110,118]\/(tk T n).t=[102,108,105,112]:=.inr (.inr (.inr (.inl u11)));rw[W uu]at ai;refine D8 ?_;refine cC ?_ ?_<;>intro dL
         .refine b2F ?_;refine cD (j5 O c6I B7 (hU (tk T n) d (n+1) b bk hb bX J _ 0 1 ⟨O,O,n_5 O⟩) O (λx hx=>.inr ⟨x,j6,by rw[ai];exact hx.1,hx.2⟩) ?_);rintro⟨i,m,b2⟩ ⟨g1,g2,g3,g4⟩;dsimp only at g1 g2 g3 g4⊢;exact b6A
         .exact absurd u11 (H dL)
        .have u11:¬(tk T n).t=[101,110,118]:=H cX;refine C6 ?_;refine b6Z ?_;refine cC ?_ ?_<;>intro dA
         .have u13:(tk T n).t=[102,108,105,112]:=H dA;have uu:(tk T n).t=[114,101,97,100]\/(tk T n).t=[115,105,122,101]\/(tk T n).t=[104,97,115]\/(tk T n).t=[101,110,118]\/(tk T n).t=[102,108,105,112]:=.inr (.inr (.inr (.inr (u13))));rw[W uu]at ai;refine b2F ?_;refine cD (j5 O c6I B7 (hU (tk T n) d (n+1) b bk hb bX J _ 0 1 ⟨O,O,n_5 O⟩) O (λx hx=>.inr ⟨x,j6,by rw[ai];exact hx.1,hx.2⟩) ?_);rintro⟨i,m,b2⟩ ⟨g1,g2,g3,g4⟩;dsimp only at g1 g2 g3 g4⊢;exact b6A
         .have h13':¬(tk T n).t=[102,108,105,112]:=H dA;have un:¬((tk T n).t=[114,101,97,100]\/(tk T n).t=[115,105,122,101]\/(tk T n).t=[104,97,115]\/(tk T n).t=[101,110,118]\/(tk T n).t=[102,108,105,112]):=λhh=>by rcases hh with h|h|h|h|h;exact u5 h;exact u7 h;exact u9 h;exact u11 h;exact h13' h
          rw[G un]at ai;refine b8W ?_;refine z_0 ?_;refine cY b6z ?_;refine cY U0 ?_;refine yc O Tryz.call236 ⟨D,D⟩ (a6a (tk T n).t _) ?_;refine A6 ?_;refine cC ?_ ?_<;>intro gI
          .have u14:Q2 (tk T n).t=true:=H gI;rw[W u14]at ai;refine C6 ?_;exact d6x
          .have u14:¬Q2 (tk T n).t=true:=H gI;rw[G u14]at ai;refine b8W ?_;refine z_3 ?_;refine ye O c4R a2y (b3v hT bk 4 [40] ⟨O,O,n_5 O⟩) O ?_;refine A6 ?_;refine cC ?_ ?_<;>intro h15
           .have u15:isT (tk T (n+1)) 4 [40]=true:=H h15;rw[W u15]at ai;refine J2 ?_;refine cF [] [0,1,2,3,4,5] (tl:=[(6,[0,1,2,3]),(7,[0,1]),(8,[]),(9,[])]) ?_;refine chf O U7 ?_;refine chf O (c7 O b8M) ?_;refine chf O (c7 O b6z) ?_;refine chf O b8c ?_;refine a5R ?_;refine G4 ?_;refine B9 O O O (j5 O Tryz.call318 j7 (hA d (n+1) b bk hb bX J _ 0 1 ⟨O,O,n_5 O⟩) O (λx hx _=>.inr ⟨x,j6,by rw[ai,hx.1];rfl,hx.2⟩) ?_);rintro⟨l,m,b2⟩ ⟨g1,g2,g3,g4,_⟩;dsimp only at g1 g2 g3 g4⊢;rw[g1,n_7]at ai;dsimp only at ai;generalize (!l.isEmpty)=ph;refine a69 ([pbx T m ps b2 (kc ph),oc1 ph b2.length,.box (tk T n).cells]++oc2 ph b2.length) a0o ?_;refine⟨⟨G3,b2u,(by exact c7 O b6z),a31,D⟩,?_⟩;refine E8 O O (c7 O c4B) ⟨⟨G3,b2u,D⟩,?_⟩;refine B9 O O O (j5 O b1d B7 (a0x hT g3 g4 (tk T n) ⟨3,0,0,(tk T n).t,l⟩ (q:=0) (s:=kc ph) b6T) O (λx hx _=>.inr ⟨x,j6,by rw[ai,L2,hx.1];rfl,hx.2⟩) ?_);rintro⟨i6,b6⟩ ⟨x6,y6⟩;dsimp only at x6 y6⊢;rw[L2,x6,n_7]at ai;refine⟨D,?_⟩;refine b3J ?_;exact⟨_,rE1,(by exact .inl ⟨(i6,m,b6),(by cases ph;exact Z8 (k:=3) O O U (.val _);exact Z8 (k:=4) O O U (.val _)),ai,do_,g3,y6⟩)⟩
           .have u15:¬isT (tk T (n+1)) 4 [40]=true:=H h15;rw[G u15]at ai;refine b8W ?_;refine cW 8 ?_;refine a3X ?_;refine hY (j2 O D O c3q O a2E U) ?_;refine hY b3K ?_;refine hY b6z ?_;refine hY U0 ?_;refine hY (c4 O Tryz.call205 j7 (a89 ps (gnn ps.length) (tk T n).t (by have:=hc.ps;omega) _) O) ?_;refine hY a2Z ?_;refine a1m ?_;refine a4f ?_;refine z_3 ?_;refine a8b ?_;refine cC ?_ ?_<;>intro h16
            .have u16:ixS ps (tk T n).t 0<0:=H h16;rw[W u16]at ai;refine C6 ?_;exact d6x
            .have u16:¬ixS ps (tk T n).t 0<0:=H h16;rw[G u16]at ai;refine D8 ?_;refine b2F ?_;refine cY b1v ?_;refine cD (j5 O b1d B7 (a0x hT bk hb (tk T n) ⟨2,ixS ps (tk T n).t 0,0,[],[]⟩ ⟨O,O,n_5 O⟩) O (λx hx=>.inr ⟨x,j6,by rw[ai,L2,hx.1];rfl,hx.2⟩) ?_);rintro⟨i6,b6⟩ ⟨x6,y6⟩;dsimp only at x6 y6⊢;rw[L2,x6,n_7]at ai;exact d4h
theorem c4r(hc:a0j T ps)(hE:EC T ps f)(hA:AC T ps f)(hU:UC T ps f):FC T ps (f+1):=λd n b hn hb hd hf σ q s au=>
 a2S (c:=λa:PX=>(iv a.1)) (N:=λa=>a.2.1) (B:=λa=>a.2.2) (λ_ h=>by simp at h;subst h;exact .val _) (λ_=>.val _) (b8V hc hE hA hU d n b hn hb hd hf) au
theorem c9i{T:List Tok}{ps:List I}(hc:a0j T ps):∀f,(∀g,g<=f->EC T ps g)/\(∀g,g<=f->BC T ps g)/\(∀g,g<=f->FC T ps g)
 |0=>by
  refine⟨λg hg d n b hn _ _ hf=>?_,λg hg lv d n b hn _ _ h4 _ hf=>?_,λg hg d n b hn _ _ hf=>?_⟩<;>exfalso<;>omega
 |f+1=>by
  obtain⟨hE,hB,hF⟩:=c9i hc f;have e1:=d2B hc (hE f (n_6 _)) (hB f (n_6 _));have b1:=c5x hc hB (hF f (n_6 _));have f1:=c4r hc (hE f (n_6 _)) (b4M hc hE) (b9j hc (hE f (n_6 _)));have up:∀{P:Nat->Prop},(∀g,g<=f->P g)->P (f+1)->∀g,g<=f+1->P g:=λ{P} h h1 g hg=>by
   rcases a4g f g with ah|aH
   .rw [show g=f+1 by omega];exact h1
   .exact h g aH
  exact⟨up hE e1,up hB b1,up hF f1⟩
def ixP{α:Type}(p:α->Bool):List α->Nat->Int
 | [],_=>-1
 |y::l,i=>if p y=true then i else ixP p l (i+1)
theorem c54{y:α}(h:l[i]?=some y)(p:α->Bool):ixP p (l.drop i) i=if p y=true then(i:Int)else ixP p (l.drop (i+1)) (i+1):=by
 obtain⟨ah,he⟩:=n_3.1 h;rw[U5 ah,he];rfl
theorem c1t{α:Type}(p:α->Bool):∀(l:List α) (i:Nat),decide (0<=ixP p l i)=l.any p
 | [],_=>rfl
 |y::l,i=>by
  rw[ixP,List.any_cons];cases hp:p y with
  |true=>simp
  |false=>simpa using c1t p l (i+1)
theorem b4W{g:FuncId}{aE:List CV}{p:De->Bool}(l:List De)(nn:Bool)(hl:l.length<=1000000)(hg:∀args w,(callFunc g args).run CC.P w= .ok (.enter g args) w)(Jg:∀x∈l,b8 CC g ([.agg x.cells]++aE) σ λr aa=>r= .ret (.val (.bool (p x)))/\aa=σ):b8 CC 276 [(.list (l.map De.cv) nn none),.clo g aE] σ λr aa=>r= .ret (iv (ixP p l 0))/\aa=σ:=by
 refine qO Tryz.func276 ?_;refine V a4k ?_;refine Q6 (α:=Nat) (λi=>[(0,(.list (l.map De.cv) nn none)),(1,(.clo g aE)),(7,iv l.length),(8,iv i)]) (λ_=>σ) (λi=>i<=l.length/\ixP p l 0=ixP p (l.drop i) i) (λi=>l.length -i) 0 ⟨n_4 _,O⟩ tu_ O ?_;intro i E0 ⟨hi,hr⟩;refine qk (qC ?_ ?_)<;> intro h1
 .have ah:(i:Int)<l.length:=H h1;obtain⟨y,hb⟩:=gx_ l i;rw[c54 hb]at hr;refine V d0A ?_;refine V (c5u O D O hg ⟨D,D⟩ (Jg y (n_2 hb)) O) ?_;refine qC ?_ ?_<;>intro h2
  .have hx:p y=true:=H h2;rw[W hx]at hr;refine c6 ?_;exact⟨_,rE1,(by exact⟨by rw[hr],O⟩)⟩
  .have hx:¬p y=true:=H h2;rw[G hx]at hr;refine V r6 ?_;exact⟨(i+1),J,⟨J,hr⟩,tu_,O⟩
 .have aH:i=l.length:=by
   have:¬(i:Int)<l.length:=H h1;omega
  refine W5 ?_;exact⟨_,rE1,(by exact⟨by rw[hr,aH,c2K];rfl,O⟩)⟩
theorem a9k{g:FuncId}{aE:List CV}{p:De->Bool}(l:List De)(nn:Bool)(hl:l.length<=1000000)(hg:∀args w,(callFunc g args).run CC.P w= .ok (.enter g args) w)(Jg:∀x∈l,b8 CC g ([.agg x.cells]++aE) σ λr aa=>r= .ret (.val (.bool (p x)))/\aa=σ):b8 CC 238 [(.list (l.map De.cv) nn none),.clo g aE] σ λr aa=>r= .ret (.val (.bool (l.any p)))/\aa=σ:=by
 refine qO Tryz.func238 ?_;refine V (c4 O Tryz.call276 j7 (b4W l nn hl hg Jg) O) ?_;refine c6 ?_;exact⟨_,rE1,(by exact⟨by rw[<- c1t p l 0],O⟩)⟩
theorem a9K{σ:List α}{x:α}(h:σ[q]?=some x)(l:List α):(σ++l)[q]?=some x:=by
 rw[X1 (n_3.1 h).1];exact h
theorem c2W(σ:List α)(x:α):(σ++[x])[σ.length]?=some x:=by simp
theorem d0G(x:De)(t:Tok)(kd:Int){s:Nat}(hq:σ[q]?=some (.box [iv kd]))(hs:σ[s]?=some (.box t.cells)):b8 CC 239 ([.agg x.cells]++[.ptr q 0,.ptr s 0]) σ λr aa=>r= .ret (.val (.bool ((x.k == kd)&&decide (x.name=t.t))))/\aa=σ:=by
 refine c9 (cO Tryz.func239 ?_);refine b5k ?_;refine cY a54 ?_;refine a7B ?_;refine cY b2H ?_;refine cY d8N ?_;refine cY d8N ?_;refine cY a51 ?_;refine cY A3 ?_;refine cG b8b ?_;refine cG d9V ?_;refine cG b8L ?_;refine cG d9V ?_;refine cG b2v ?_;refine cY S6 ?_;refine b1l ?_;exact⟨_,rE1,_,_,O,O,o3 O⟩
def dkL:List (I×Int):=J5 (J5 (J5 [] [102,117,110,99] 1) [116,101,115,116] 2) [103,101,110] 3
def F3(s:I):Int:=(glk dkL s).getD 0
def d0g(T:List Tok)(ps:List I)(d n:Nat):Option PX:=(A1 T ps (8*T.length+6)).ex d n []
def a2O(T:List Tok)(kd:Int)(n:Nat):Option (Tok×Nat):=if kd=3 then a0H T n else J3 T n
def a3k(T:List Tok)(kd:Int)(n:Nat):Option (List I×Nat):=if kd=1 then L3 T n else some ([],n)
def a0G(T:List Tok)(bs:List De)(n:Nat):Option (De×Nat):=
 if(tk T n).k≠1\/F3 (tk T n).t=0 then none else if bs.length=64 then none else
 (a2O T (F3 (tk T n).t) (n+1)).bind λx=>if(bs.any λd=>(d.k == F3 (tk T n).t)&&decide (d.name=x.1.t))=true then none else
 (a3k T (F3 (tk T n).t) x.2).bind λq=>(pIs T q.2 4 [61]).bind λm=>(d0g T q.1 1 m).bind λy=>(pIs T y.2.1 4 [59]).bind λm2=>some (⟨F3 (tk T n).t,x.1.t,q.1,y.2.2⟩,m2)
theorem b2V{f:FuncId}{args:List CV}{c:α->CV}{Z:α->List I}{n:Nat}{b:List Ex}(aq:∀a∈args,r9 a)(hc:∀a,r9 (c a))
 (h:b8 CC f (.ptr 0 0::args) (pst T n ps b) (a3Q c (λa=>a6A T (N a) (Z a) (B a)) P bad)){σ:List b9}{q s:Nat}(au:PAt σ q s T n ps b):
 b8 CC f (.ptr q 0::args) σ (a4j c (λa=>(σ.set q (pbx T (N a) (Z a) (B a) σ.length)).set s .dead++[p7 (B a).length]) P σ q s bad):=by
 refine(a4N (c:=c) (N:=N) (B:=B) (Z:=Z) (g:=λ_=>true) (P:=P) (bad:=bad) aq hc (h.mono λr τ hh=>?_) au).mono λr τ hh=>?_
 .rcases hh with⟨a,h1,h2⟩|h
  .exact .inl ⟨a,h1,h2⟩
  .exact .inr h
 .rcases hh with⟨a,h1,h2,h3⟩|h
  .exact .inl ⟨a,h1,h2,h3⟩
  .exact .inr h
theorem b7M{n:Nat}(h:a2O T kd n=some (t,m)):m=n+1:=by
 unfold a2O at h;split at h
 .exact a6N h
 .exact a99 h
theorem b5W{T:List Tok}:∀(f n:Nat) (l l':List I) (m:Nat),a2v f T n l=some (l',m)->n<m
 |0,n,l,l',m,h=>by cases h
 |f+1,n,l,l',m,h=>by
  rw[a2v]at h;cases hn:J3 T n with
  |none=>rw[hn]at h;cases h
  |some x=>
   rw[hn,n_7]at h;have e:=a99 (t:=x.1) hn;split at h
   .cases h
   .split at h
    .cases h
    .split at h
     .have:=b5W f _ _ _ _ h;omega
     .cases hi:pIs T x.2 4 [41]with
      |none=>rw[hi]at h;cases h
      |some y=>
       rw[hi,n_7]at h;injection h with h
       injection h with _ h
       have:=O7 hi;omega
theorem b88{n:Nat}{l:List I}(h:L3 T n=some (l,m)):n<m:=by
 unfold L3 at h;cases hi:pIs T n 4 [40]with
 |none=>rw[hi]at h;cases h
 |some y=>
  rw[hi,n_7]at h;have:=O7 hi;split at h
  .injection h with h
   injection h with _ h
   omega
  .have:=b5W _ _ _ _ _ h;omega
theorem b5T{n:Nat}{l:List I}(h:a3k T kd n=some (l,m)):n<=m:=by
 unfold a3k at h;split at h
 .exact Nat.le_of_lt (b88 h)
 .injection h with h
  injection h with _ h
  omega
theorem b9R(k:Int)(nm:I)(ps:List I)(b:List Ex)(tok:Option Nat):D5 L ao (.agg [iv k,sv nm,.list (ps.map scv) (gnn ps.length) none,.list (b.map Ex.cv) (gnn b.length) tok]) (.agg (⟨k,nm,ps,b⟩:De).cells):=
 .agg O λi c c' h h'=>by
  rcases i with _|_|_|_|i
  .injection h with h;injection h' with h';subst h h';exact .old (.val _)
  .injection h with h;injection h' with h';subst h h';exact .old (.val _)
  .injection h with h;injection h' with h';subst h h';exact .old M8
  .injection h with h;injection h' with h';subst h h';exact Z3 (f:=Ex.cv) Ex.pure _
  .cases h
theorem a3D(n:Nat):c6t n (⟨0,[],[],[]⟩:De).cells:=⟨.val _,.val _,B8 _ _ _,O4 _ _ _,D⟩
theorem c8v(hc:a0j T ps)(bs:List De)(gD:bs.length<=64)(n:Nat)(b:List Ex)(hn:n<T.length)(_:b.length<=256):b8 CC 197 [.ptr 0 0,(.list (bs.map De.cv) (gnn bs.length) none)] (pst T n ps b) (a3Q (λa:De×Nat=>(.agg a.1.cells)) (λa=>a6A T a.2 a.1.params a.1.body) (λa:De×Nat=>a0G T bs n=some a/\n<a.2/\a.2 <T.length/\a.1.params.length<=8/\a.1.body.length<=256) (a0G T bs n=none)):=by
 have hT:=hc.len;have hW:=hc.w;have ai:a0G T bs n=a0G T bs n:=O
 conv at ai=>rhs;unfold a0G
 refine cO Tryz.func197 ?_;refine b4j ?_;refine a5e [pbx T n ps b 1,p7 b.length,.dead] O ?_;refine qs 7 (qD (l8 O b2l O j1 ?_));refine qD (Q4 O ?_);refine qD (j9 (vc:=kv) (l:=[]) (a:=[102,117,110,99]) (b:=1) b8e (.inr O) D O O O O O c2V O ?_);refine qD (j9 (vc:=kv) (l:=J5 [] [102,117,110,99] 1) (a:=[116,101,115,116]) (b:=2) b8e (.inr O) D O O O O O c2V O ?_);refine qD (j9 (vc:=kv) (l:=J5 (J5 [] [102,117,110,99] 1) [116,101,115,116] 2) (a:=[103,101,110]) (b:=3) b8e (.inr O) D O O O O O c2V O ?_);refine V d5y ?_;refine z_1 ?_;refine V (S4 (vc:=kv) (l:=dkL) (a:=(tk T n).t) b8e O D D O O c2V t_6 O O (b4a _ _)) ?_;refine qD (l8 O t_6 O (.inl O) ?_);refine qD (i9 O D D O j3 t_1 (.inl O) O O (nb O) ?_);refine qG (λhg=>o5 O D O a7T O O) ?_;refine a3l ?_;refine qC ?_ ?_<;>intro h1
 .have u1:(tk T n).k≠1\/(F3 (tk T n).t)=0:=by simpa[F3]using h1
  rw[W u1]at ai;exact a1P O O (O6 O a4R o4 (O1 _ _ _) O (λ_ _=>.inr ⟨(_,_),j6,ai,Q⟩))
 .have u1:¬((tk T n).k≠1\/(F3 (tk T n).t)=0):=by simpa[F3]using h1
  rw[G u1]at ai;have bk:=hW n hn (λh5=>u1 (.inl (by rw[h5];decide)));refine V a4k ?_;refine qC ?_ ?_<;>intro h2
  .have u2:bs.length=64:=sm_ h2;rw[W u2]at ai;exact a1P O O (O6 O a4R o4 (O1 _ _ _) O (λ_ _=>.inr ⟨(_,_),j6,ai,Q⟩))
  .have u2:¬bs.length=64:=sm_ h2;rw[G u2]at ai;refine z_4 ?_;refine a7x hCC 7 O (α:=Tok×Nat) (λ_=>[(0,.ptr 0 0),(1,(.list (bs.map De.cv) (gnn bs.length) none)),(4,.ptr 3 0),(6,.ptr 5 0),(7,.ptr 6 0)]) (λx=>[pbx T x.2 ps b 1,p7 b.length,.dead,.box (⟨0,[],[],[]⟩:De).cells,.dead,.box x.1.cells,.box [(iv (F3 (tk T n).t))]]) (λx=>a2O T (F3 (tk T n).t) (n+1)=some x/\x.2 <T.length) ?_ ?_
   .
    refine qk (qC ?_ ?_)<;> intro h3
    .have u3:(F3 (tk T n).t)=3:=by simpa[F3]using h3
     have hh:∀m,a2O T (F3 (tk T n).t) m=a0H T m:=λm=>W u3;rw[hh]at ai;refine qD (j5 O c24 ⟨D,D⟩ (a9U hT bk hW hc.l ⟨O,O,n_5 O⟩) O (λx hx=>.inr ⟨x,j6,by rw[ai,hx.1];rfl,hx.2⟩) ?_);rintro⟨x,n2⟩ ⟨g1,g2⟩;dsimp only at g1 g2⊢;refine qD (i9 O D D O j3 a3V j1 O O (nb O) ?_);exact⟨(x,n2),[0,1,2,3,4,5,6],⟨by rw[hh];exact g1,g2⟩,⟨O,O⟩,ut_,uq_⟩
    .have u3:¬(F3 (tk T n).t)=3:=by simpa[F3]using h3
     have hh:∀m,a2O T (F3 (tk T n).t) m=J3 T m:=λm=>G u3;rw[hh]at ai;refine qD (j5 O c1v ⟨D,D⟩ (a9H hT bk hW ⟨O,O,n_5 O⟩) O (λx hx=>.inr ⟨x,j6,by rw[ai,hx.1];rfl,hx.2⟩) ?_);rintro⟨x,n2⟩ ⟨g1,g2⟩;dsimp only at g1 g2⊢;refine qD (i9 O D D O j3 a3V j1 O O (nb O) ?_);exact⟨(x,n2),[0,1,2,3,4,5,6],⟨by rw[hh];exact g1,g2⟩,⟨O,O⟩,ut_,uq_⟩
   .intro ⟨x,n2⟩ ⟨g1,g2⟩;dsimp only at g1 g2⊢;have e2:=b7M g1;rw[g1,n_7]at ai;dsimp only at ai;refine qs 2 (V (a7c O j7) ?_);refine V (c4 O Tryz.call238 j7 (a9k bs _ J Tryz.call239 (λy _=>d0G y x (F3 (tk T n).t) (q:=6) (s:=5) O O)) O) ?_;refine qC ?_ ?_<;>intro h4
    .have u4:(bs.any λd=>(d.k ==(F3 (tk T n).t))&&decide (d.name=x.t))=true:=h4;rw[W u4]at ai;exact a1P O O (O6 O a4R o4 (O1 _ _ _) O (λ_ _=>.inr ⟨(_,_),j6,ai,Q⟩))
    .have u4:¬(bs.any λd=>(d.k ==(F3 (tk T n).t))&&decide (d.name=x.t))=true:=by rw[h4];decide
     rw[G u4]at ai;refine V (B2 #[(0,1),(1,1),(2,1),(3,1)] O j7 a9y b2l O ⟨_,O⟩ (λw=>by kernel_rfl) O O) ?_;refine c0w ?_;refine a7x hCC 8 O (α:=List I×Nat) (λ_=>[(0,.ptr 0 0),(4,.ptr 3 0),(8,.ptr 7 0)]) (λq=>[pbx T q.2 ps b 1,p7 b.length,.dead,.box (⟨0,[],[],[]⟩:De).cells,.dead,.dead,.dead,.box (⟨(F3 (tk T n).t),x.t,q.1,[]⟩:De).cells]) (λq=>a3k T (F3 (tk T n).t) n2=some q/\q.2 <T.length/\q.1.length<=8) ?_ ?_
     .
      refine qk (qC ?_ ?_)<;> intro h5
      .have u5:(F3 (tk T n).t)=1:=by simpa[F3]using h5
       have hq:∀m,a3k T (F3 (tk T n).t) m=L3 T m:=λm=>W u5;rw[hq]at ai;refine qD (j5 O Tryz.call240 ⟨D,D⟩ (b2g hT g2 hW ⟨O,O,n_5 O⟩) O (λx hx=>.inr ⟨x,j6,by rw[ai,hx.1];rfl,hx.2⟩) ?_);rintro⟨pl,n3⟩ ⟨k1,k2,k3⟩;dsimp only at k1 k2 k3⊢;refine qD (i9 O D D O j3 a2E (.inl O) O O (nb O) ?_);exact⟨(pl,n3),[0,1,2,3,4,5,6,7],⟨by rw[hq];exact k1,k2,k3⟩,⟨O,O⟩,ut_,uq_⟩
      .have u5:¬(F3 (tk T n).t)=1:=by simpa[F3]using h5
       have hq:∀m,a3k T (F3 (tk T n).t) m=some ([],m):=λm=>G u5;exact⟨([],n2),[0,1,2,3,4,5,6,7],⟨hq n2,g2,n_4 _⟩,⟨O,O⟩,ut_,uq_⟩
     .intro ⟨pl,n3⟩ ⟨k1,k2,k3⟩;dsimp only at k1 k2 k3⊢;have e3:=b5T k1;rw[k1,n_7]at ai;dsimp only at ai;refine qk (qD (j5 O a5L o4 (Q0 hT k2 hW [61] ⟨O,O,n_5 O⟩) O (λx hx=>.inr ⟨x,j6,by rw[ai,hx.1];rfl,hx.2⟩) ?_));rintro n4 ⟨s4,k4⟩;dsimp only at s4 k4⊢;have e4:=O7 s4;rw[s4,n_7]at ai;have aM:a0j T pl:=⟨hT,hW,hc.l,J,hc.nn⟩;refine qD (i9 O D D O j3 a2E (.inl O) O O (nb O) ?_);refine qD (i9 O D O O j3 a9r (.inl O) O O (nb O) ?_);refine qD (j5 O b9q o4 ((c9i aM (8*T.length+6)).1 _ (n_6 _) 1 n4 [] k4 (n_4 _) U J _ 0 2 ⟨O,O,n_5 O⟩) O (λx hx=>.inr ⟨x,j6,by rw[ai,d0g,hx.1];rfl,hx.2⟩) ?_);rintro⟨i5,n5,b5⟩ ⟨x5,y5,z5,w5⟩;dsimp only at x5 y5 z5 w5⊢;rw[d0g,x5,n_7]at ai;dsimp only at ai;refine qN [pbx T n5 pl b5 8,p7 b.length,.dead,.box (⟨0,[],[],[]⟩:De).cells,.dead,.dead,.dead,.box (⟨(F3 (tk T n).t),x.t,pl,[]⟩:De).cells,p7 b5.length] O (qD (i9 O D D O j3 a9r (.inl O) O O (nb O) ?_));refine qD (j5 O a5L o4 (Q0 hT z5 hW [59] (q:=0) (s:=8) ⟨O,O,n_5 O⟩) O (λx hx=>.inr ⟨x,j6,by rw[ai,hx.1];rfl,hx.2⟩) ?_);rintro n6 ⟨s6,k6⟩;dsimp only at s6 k6⊢;have e6:=O7 s6;rw[s6,n_7]at ai;refine qD (i9 O D D O j3 a5M j1 O O (nb O) ?_);refine c6 ?_;exact⟨_,C4 O c8J,(by exact .inl ⟨(⟨(F3 (tk T n).t),x.t,pl,b5⟩,n6),b5a (k:=8) O O U (λ_=>b9R _ _ _ _ _),ai,do_,k6,k3,w5⟩)⟩
theorem d2F(hc:a0j T ps)(bs:List De)(gD:bs.length<=64){n:Nat}{b:List Ex}(hn:n<T.length)(hb:b.length<=256){s:Nat}(au:PAt σ q s T n ps b):b8 CC 197 [.ptr q 0,(.list (bs.map De.cv) (gnn bs.length) none)] σ (a4j (λa:De×Nat=>(.agg a.1.cells)) (λa=>(σ.set q (pbx T a.2 a.1.params a.1.body σ.length)).set s .dead++[p7 a.1.body.length]) (λa:De×Nat=>a0G T bs n=some a/\n<a.2/\a.2 <T.length/\a.1.params.length<=8/\a.1.body.length<=256) σ q s (a0G T bs n=none)):=
 b2V (c:=(λa:De×Nat=>(.agg a.1.cells))) (N:=λa=>a.2) (Z:=λa=>a.1.params) (B:=λa=>a.1.body) (λ_ h=>by simp at h;subst h;exact a1L _ _) (λa=>j4 a.1.pure) (c8v hc bs gD n b hn hb) au
def a1o:Nat->List Tok->I->Nat->List I->Option (List I×Nat)
 |0,_,_,_,_=>none
 |f+1,T,pkg,n,l=>if isT (tk T n) 1 [105,109,112,111,114,116]=true then(if l.length=8 then none else(J3 T (n+1)).bind λx=>if x.1.t=pkg\/x.1.t∈l then none else(pIs T x.2 4 [59]).bind λm=>a1o f T pkg m (l++[x.1.t]))else some (l,n)
def R9:Nat->List Tok->Nat->List De->Option (List De×Nat)
 |0,_,_,_=>none
 |f+1,T,n,l=>if(tk T n).k=5 then some (l,n)else(a0G T l n).bind λx=>R9 f T x.2 (l++[x.1])
def a09(T:List Tok):Option Src:=(pIs T 0 1 [112,97,99,107,97,103,101]).bind λn1=>(J3 T n1).bind λx=>(pIs T x.2 4 [59]).bind λn2=>(a1o 9 T x.1.t n2 []).bind λy=>(R9 65 T y.2 []).bind λz=>some ⟨x.1.t,y.1,z.1⟩
theorem b2W{bs:List De}{n:Nat}{x:De×Nat}(h:a0G T bs n=some x):bs.length≠64:=λgK=>by
 unfold a0G at h;rw[W gK]at h;split at h<;>cases h
theorem d0Z(pkg:I)(i:List I)(d:List De)(t1 t2:Option Nat):D5 L ao (.agg [sv pkg,.list (i.map scv) (gnn i.length) t1,.list (d.map De.cv) (gnn d.length) t2]) (.agg (⟨pkg,i,d⟩:Src).cells):=
 .agg O λk c c' h h'=>by
  rcases k with _|_|_|k
  .injection h with h;injection h' with h';subst h h';exact .old (.val _)
  .injection h with h;injection h' with h';subst h h';exact Z3 (f:=scv) (λ_=>⟨.val _,D⟩) _
  .injection h with h;injection h' with h';subst h h';exact Z3 (f:=De.cv) De.pure _
  .cases h
theorem c8U(hc:a0j T [])(h0:0<T.length):b8 CC 155 [.ptr 0 0] (pst T 0 [] []) (a3Q (λa:Src×Nat×List I×List Ex=>(.agg a.1.cells)) (λa=>a6A T a.2.1 a.2.2.1 a.2.2.2) (λa:Src×Nat×List I×List Ex=>a09 T=some a.1) (a09 T=none)):=by
 have hT:=hc.len;have hW:=hc.w;have ai:a09 T=a09 T:=O
 conv at ai=>rhs;unfold a09
 refine qO Tryz.func155 ?_;refine qD (l8 O a4S O j1 ?_);refine qD (j5 O c6F o4 (b4m hT h0 hW [112,97,99,107,97,103,101] ⟨O,O,n_5 O⟩) O (λx hx=>.inr ⟨x,j6,by rw[ai,hx.1];rfl,hx.2⟩) ?_);rintro n1 ⟨s1,k1⟩;dsimp only at s1 k1⊢;rw[s1,n_7]at ai;have e1:=O7 s1;refine qD (j5 O c1v ⟨D,D⟩ (a9H hT k1 hW ⟨O,O,n_5 O⟩) O (λx hx=>.inr ⟨x,j6,by rw[ai,hx.1];rfl,hx.2⟩) ?_);rintro⟨w,n2⟩ ⟨s2,k2⟩;dsimp only at s2 k2⊢;have e2:=a99 s2;rw[s2,n_7]at ai;dsimp only at ai;refine V c27 ?_;refine V d9o ?_;refine c4t ?_;refine qD (j5 O a5L o4 (Q0 hT k2 hW [59] ⟨O,O,n_5 O⟩) O (λx hx=>.inr ⟨x,j6,by rw[ai,hx.1];rfl,hx.2⟩) ?_);rintro n3 ⟨s3,k3⟩;dsimp only at s3 k3⊢;rw[s3,n_7]at ai;refine qN [pbx T n3 [] [] 1,.dead,.box (⟨[],[],[]⟩:Src).cells,.box [sv w.t,.list (([]:List I).map scv) (gnn ([]:List I).length) none,.list (([]:List De).map De.cv) (gnn ([]:List De).length) none]] O ?_;refine C5 hCC 4 O (α:=List I×Nat) (λ_=>[(0,.ptr 0 0),(2,.ptr 2 0),(3,.ptr 3 0)]) (λx=>[pbx T x.2 [] [] 1,.dead,.box (⟨[],[],[]⟩:Src).cells,.box [sv w.t,.list (x.1.map scv) (gnn x.1.length) (G9 x.1.length 4),.list (([]:List De).map De.cv) (gnn ([]:List De).length) none],p7 x.1.length]) (λx=>x.1.length<=8/\x.2 <T.length/\a09 T=(a1o (9-x.1.length) T w.t x.2 x.1).bind λy=>(R9 65 T y.2 []).bind λz=>some ⟨w.t,y.1,z.1⟩) (λx=>9-x.1.length) ⟨([],n3),[0,1,2,3,9],⟨n_4 _,k3,ai⟩,⟨O,O⟩,ut_,⟨.inr ⟨_,O,.same O (a3u (nb O))⟩,.inl O,.inr ⟨_,O,.same O c2a⟩,.inr ⟨_,O,.box ⟨.old (.val _),.old a2u,.old (K9 _ [] _),D⟩⟩,.inl O,D⟩⟩ ?_;intro⟨l,m⟩ ⟨hl,hm,ai⟩;dsimp only at hl hm ai⊢;obtain⟨f,hf⟩:∃f,9-l.length=f+1:=⟨8-l.length,J⟩;rw[hf,a1o]at ai;refine qk (V (c4 O c4R a2y (b3v hT hm 1 [105,109,112,111,114,116] ⟨O,O,n_5 O⟩) O) ?_);refine cC ?_ ?_<;>intro h1
 .have u1:isT (tk T m) 1 [105,109,112,111,114,116]=true:=H h1;rw[W u1]at ai;have dz:=hW m hm (a6o u1 U);refine qk (V K6 ?_);refine qC ?_ ?_<;>intro h2
  .have u2:l.length=8:=sm_ h2;rw[W u2]at ai;refine V (c4 O c5d ⟨D,D⟩ (a3e hT hm ⟨O,O,n_5 O⟩) O) ?_;exact a1P O O (O6 O a4R o4 (O1 _ _ _) O (λ_ _=>.inr ⟨(_,_),j6,by rw[ai];rfl,Q⟩))
  .have u2:¬l.length=8:=sm_ h2;rw[G u2]at ai;refine z_4 ?_;refine qD (j5 O c1v ⟨D,D⟩ (a9H hT dz hW ⟨O,O,n_5 O⟩) O (λx hx=>.inr ⟨x,j6,by rw[ai,hx.1];rfl,hx.2⟩) ?_);rintro⟨x,m1⟩ ⟨s4,k4⟩;dsimp only at s4 k4⊢;rw[s4,n_7]at ai;dsimp only at ai;refine qN [pbx T m1 [] [] 1,.dead,.box (⟨[],[],[]⟩:Src).cells,.box [sv w.t,.list (l.map scv) (gnn l.length) (G9 l.length 4),.list (([]:List De).map De.cv) (gnn ([]:List De).length) none],p7 l.length] O ?_;refine z_1 ?_;refine V a6L ?_;refine d5N ?_;refine qG b8L ?_;refine qG a26 ?_;refine qG (λhg=>c4 O Tryz.call160 ⟨hg,hg,D⟩ (a4y l (gnn l.length) x.t J _) O) ?_;refine V U8 ?_;refine qC ?_ ?_<;>intro h3
   .have u3:x.t=w.t\/x.t∈l:=H h3;rw[W u3]at ai;exact a1P O O (O6 O a4R o4 (O1 _ _ _) O (λ_ _=>.inr ⟨(_,_),j6,by rw[ai];rfl,Q⟩))
   .have u3:¬(x.t=w.t\/x.t∈l):=H h3;rw[G u3]at ai;have eJ:=X5 l x.t;refine V (B4 [scv x.t] O ⟨D,D⟩ t_2 t_0 t_4 O O O O O O O O O) ?_;refine qD (D6 O D D O Q q_3 t_2 t_0 a5W t_4 O (.inr O) q_8 a5O G0 ((l++[x.t]).map scv) (l++[x.t]).length Q Q ?_);refine qD (i9 O D D O j3 a2E (.inl O) O O (nb O) ?_);refine qD (j5 O a5L o4 (Q0 hT k4 hW [59] ⟨O,O,n_5 O⟩) O (λx hx=>.inr ⟨x,j6,by rw[ai,hx.1];rfl,hx.2⟩) ?_);rintro m2 ⟨s5,k5⟩;dsimp only at s5 k5⊢;rw[s5,n_7]at ai;exact⟨(l++[x.t],m2),[0,1,2,3,6],⟨do_,do_,k5,by dsimp only;rw[ai,show 9- (l++[x.t]).length=f by omega]⟩,⟨O,O⟩,ut_,⟨.inr ⟨_,O,.same O (a3u (nb O))⟩,.inl O,.inr ⟨_,O,.same O c2a⟩,.inr ⟨_,O,.box ⟨.old (.val _),D5.grow (f:=scv) (λ_=>⟨.val _,D⟩) O,.old (K9 _ [] _),D⟩⟩,.inr ⟨_,O,.same O F0⟩,D⟩⟩
 .have u1:¬isT (tk T m) 1 [105,109,112,111,114,116]=true:=H h1;rw[G u1,n_7]at ai;dsimp only at ai;rename_i im0;obtain⟨im,him⟩:∃im,im=l:=⟨l,O⟩;subst him;refine l9 ?_;refine C5 hCC 5 O (α:=Nat×List De×List I×List Ex) (λ_=>[(0,.ptr 0 0),(2,.ptr 2 0),(3,.ptr 3 0)]) (λx=>[pbx T x.1 x.2.2.1 x.2.2.2 5,.dead,.box (⟨[],[],[]⟩:Src).cells,.box [sv w.t,.list (im.map scv) (gnn im.length) none,.list (x.2.1.map De.cv) (gnn x.2.1.length) (G9 x.2.1.length 6)],.dead,p7 x.2.2.2.length,p7 x.2.1.length]) (λx=>x.2.1.length<=64/\x.1 <T.length/\x.2.2.1.length<=8/\x.2.2.2.length<=256/\a09 T=(R9 (65-x.2.1.length) T x.1 x.2.1).bind λz=>some ⟨w.t,im,z.1⟩) (λx=>T.length -x.1) ⟨(m,[],[],[]),[0,1,2,3,4,9,10],⟨n_4 _,hm,n_4 _,n_4 _,ai⟩,⟨O,O⟩,ut_,⟨.inr ⟨_,O,.box ⟨.old a1c,.old (.val _),.old M8,.old (O4 _ [] _),D⟩⟩,.inl O,.inr ⟨_,O,.same O c2a⟩,.inr ⟨_,O,.box ⟨.old (.val _),Z3 (f:=scv) (λ_=>⟨.val _,D⟩) _,.old (K9 _ [] _),D⟩⟩,.inl O,.inl O,.inl O,D⟩⟩ ?_;intro⟨m,ds,ps,b⟩ ⟨cm,hm,ba,hb,ai⟩;dsimp only at cm hm ba hb ai⊢;obtain⟨f,hf⟩:∃f,65-ds.length=f+1:=⟨64-ds.length,J⟩;rw[hf,R9]at ai;have aM:a0j T ps:=⟨hT,hW,hc.l,J,hc.nn⟩;refine qk (V (c4 O c5d ⟨D,D⟩ (a3e hT hm (q:=0) (s:=5) ⟨O,O,n_5 O⟩) O) ?_);refine V a37 ?_;refine qC ?_ ?_<;>intro h4
  .have u4:¬(tk T m).k=5:=H h4;rw[G u4]at ai;refine cF [] [0,1,2,3,4] (tl:=[(5,[0,1]),(6,[0,1]),(7,[]),(8,[]),(9,[])]) ?_;refine chf O c2g ?_;refine chf O c6y ?_;refine chf O U7 ?_;refine chf O c2g ?_;refine chf O c6y ?_;refine G4 ?_;refine B9 O O O (j5 O Tryz.call197 j7 (d2F aM ds cm hm hb (q:=0) (s:=5) ⟨O,O,n_5 O⟩) O (λx hx _=>.inr ⟨x,j6,by rw[ai,hx.1];rfl,hx.2⟩) ?_);rintro⟨d,m1⟩ ⟨g1,g2,g3,g4,g5⟩;dsimp only at g1 g2 g3 g4 g5⊢;have am:=b2W g1;rw[g1,n_7]at ai;dsimp only at ai;have eJ:=X5 ds d;refine a69 [pbx T m1 d.params d.body 7,.dead,.box (⟨[],[],[]⟩:Src).cells,.box [sv w.t,.list (im.map scv) (gnn im.length) none,.list (ds.map De.cv) (gnn ds.length) (G9 ds.length 6)],.dead,.dead,p7 ds.length,p7 d.body.length] O ?_;refine d6k ?_;refine B9 O O O (D6 O D D O Q q_3 a9h a5M Tryz.typeInfo119 b2l O (.inr O) q_8 (by have hb:Tryz.t119.bytes=72:=O;rw[hb];first|omega|(simp;done)|(simp;omega)) G0 ((ds++[d]).map De.cv) (ds++[d]).length Q Q ?_);refine⟨D,?_⟩;refine d4U ?_;refine a8r ?_;exact⟨(m1,ds++[d],d.params,d.body),[0,1,2,3,4,7,8],⟨do_,do_,g3,g4,g5,by dsimp only;rw[ai,show 65- (ds++[d]).length=f by omega]⟩,⟨O,O⟩,ut_,⟨.inr ⟨_,O,.box ⟨.old a1c,.old (.val _),.old M8,a7l O,D⟩⟩,.inl O,.inr ⟨_,O,.same O c2a⟩,.inr ⟨_,O,.box ⟨.old (.val _),.old M8,D5.grow (f:=De.cv) (λ_=>⟨.val _,.val _,B8 _ _ _,O4 _ _ _,D⟩) O,D⟩⟩,.inl O,.inr ⟨_,O,.same O F0⟩,.inr ⟨_,O,.same O F0⟩,D⟩⟩
  .have u4:(tk T m).k=5:=H h4;rw[W u4,n_7]at ai;refine l9 ?_;refine c4s ?_;exact⟨_,C4 O ⟨D,_,_,_,O,O,.inr ⟨_,b4z,t_8,nb O,O⟩⟩,(by exact .inl ⟨(⟨w.t,im,ds⟩,m,ps,b),b5a (k:=5) O O U (λ_=>d0Z _ _ _ _ _),ai⟩)⟩
theorem d2A(hc:a0j T [])(h0:0<T.length){s:Nat}(au:PAt σ q s T 0 [] []):b8 CC 155 [.ptr q 0] σ (a4j (λa:Src×Nat×List I×List Ex=>(.agg a.1.cells)) (λa=>(σ.set q (pbx T a.2.1 a.2.2.1 a.2.2.2 σ.length)).set s .dead++[p7 a.2.2.2.length]) (λa:Src×Nat×List I×List Ex=>a09 T=some a.1) σ q s (a09 T=none)):=
 b2V (c:=(λa:Src×Nat×List I×List Ex=>(.agg a.1.cells))) (N:=λa=>a.2.1) (Z:=λa=>a.2.2.1) (B:=λa=>a.2.2.2) (λ_ h=>by cases h) (λa=>j4 a.1.pure) (c8U hc h0) au
structure d7s(N:Nat)(t:Tok):Prop where
 len:t.t.length<=N
 n0:0<=t.n
 n1:t.n<=9007199254740993
theorem a9T(s:I)(a e:Nat):(sub s a e).length<=s.length:=by unfold sub;rw[b6k,b0N];omega
theorem c3n{s:I}{b:UInt8}:d7s s.length (D1 s a b).1/\(D1 s a b).1.k≠5:=by
 have z:d7s s.length (⟨0,[],0,0⟩:Tok):=⟨n_4 _,U,U⟩;unfold D1
 split
 .split
  .exact ⟨z,(show(0:Int)≠5 by decide)⟩
  .exact ⟨⟨a9T _ _ _,a7G _,(show(0:Int)<=9007199254740993 by decide)⟩,(show(1:Int)≠5 by decide)⟩
 .split
  .split
   .exact ⟨z,(show(0:Int)≠5 by decide)⟩
   .have:=b3t (b3b (s:=s) (a:=a));exact⟨⟨n_4 _,this.1,this.2⟩,(show(2:Int)≠5 by decide)⟩
  .split
   .split
    .exact ⟨z,(show(0:Int)≠5 by decide)⟩
    .exact ⟨⟨a9T _ _ _,a7G _,(show(0:Int)<=9007199254740993 by decide)⟩,(show(3:Int)≠5 by decide)⟩
   .split
    .split
     .exact ⟨⟨a9T _ _ _,a7G _,(show(0:Int)<=9007199254740993 by decide)⟩,(show(4:Int)≠5 by decide)⟩
     .exact ⟨⟨a9T _ _ _,a7G _,(show(0:Int)<=9007199254740993 by decide)⟩,(show(4:Int)≠5 by decide)⟩
    .exact ⟨z,(show(0:Int)≠5 by decide)⟩
theorem a8L(s:I):∀(f i:Nat) (T:List Tok),a0E f s i=some T->T.length<=f/\(∀t∈T,d7s s.length t)/\∃L e,T=L++[e]/\e.k=5/\∀t∈L,t.k≠5
 |0,i,T,h=>by cases h
 |f+1,i,T,h=>by
  rw[a0E]at h;cases hb:s[A4 s i [5]]? with
  |none=>
   rw[hb]at h;injection h with h
   subst h;refine⟨Q,λt ht=>?_,[],_,O,O,λt ht=>by cases ht⟩;simp at ht;subst ht;exact⟨n_4 _,a7G _,(show(0:Int)<=9007199254740993 by decide)⟩
  |some b=>
   rw[hb]at h;simp only at h;split at h
   .obtain ⟨h1,h2⟩:=a8L s f _ T h;exact⟨J,h2⟩
   .split at h
    .cases h
    .cases hq:a0E f s (D1 s (A4 s i [5]) b).2.1.toNat with
     |none=>rw[hq]at h;cases h
     |some T'=>
      rw[hq]at h;simp only[b2Z,Option.some.injEq]at h;subst h;obtain⟨h1,h2,L,e,h3,h5,h4⟩:=a8L s f _ T' hq;have hg:=c3n (s:=s) (a:=A4 s i [5]) (b:=b);refine⟨H h1,λt ht=>?_,_::L,e,by rw[h3];rfl,h5,λt ht=>?_⟩
      .rcases J6.1 ht with rfl|ht
       .exact ⟨hg.1.len,hg.1.n0,hg.1.n1⟩
       .exact h2 t ht
      .rcases J6.1 ht with rfl|ht
       .exact hg.2
       .exact h4 t ht
theorem b9p(i:Nat):tk T i∈T\/tk T i=⟨5,[],0,0⟩:=by
 unfold tk;cases h:T[i]? with
 |none=>exact .inr O
 |some t=>exact .inl (n_2 h)
theorem b0s{s:I}(h:a2P s=some T):a0j T []/\0<T.length:=by
 unfold a2P at h;split at h
 .cases h
 .rename_i hs;obtain⟨h1,h2,L,e,h3,h5,h4⟩:=a8L s _ _ T h;have h0:0<T.length:=by rw[h3];simp
  refine⟨⟨J,λn hn hk=>?_,λn=>?_,n_4 _,λn=>?_⟩,h0⟩
  .rcases a4g (n+1) T.length with ah|aH
   .exact ah
   .exfalso;have hl:T.length=L.length+1:=by rw[h3];simp
    have:tk T n=e:=by
     unfold tk;rw[h3,show n=L.length by omega];simp
    exact hk (by rw[this];exact h5)
  .rcases b9p (T:=T) n with h|h
   .have:=(h2 _ h).len;omega
   .rw [h];simp
  .rcases b9p (T:=T) n with h|h
   .exact ⟨(h2 _ h).n0,(h2 _ h).n1⟩
   .rw [h];exact⟨U,U⟩
inductive Tr where
 |n (k u o:Int) (nm:I) (ch:List Tr)
mutual
def Tr.size:Tr->Nat
 | .n _ _ _ _ ch=>C2 ch+1
def C2:List Tr->Nat
 | []=>0
 |t::l=>t.size+C2 l
end
def C0:List Tr->Nat->List Int
 | [],_=>[]
 |t::l,s=>((s+t.size -1:Nat):Int)::C0 l (s+t.size)
mutual
def Tr.flat:Tr->Nat->List Ex
 | .n k u o nm ch,s=>L7 ch s++[⟨k,u,o,nm,C0 ch s⟩]
def L7:List Tr->Nat->List Ex
 | [],_=>[]
 |t::l,s=>t.flat s++L7 l (s+t.size)
end
structure P3(np:Nat)(k u o:Int)(nm:I)(c:Nat):Prop where
 kind:1<=k/\k<=10
 num:k≠1->k≠2->k≠10->u=0
 op:k≠4->o=0
 name:k=1\/k=2\/k=4\/k=5\/k=10->nm=[]
 cnt:c=if k=4 then 2 else if k=5 then 3 else if k=6 then 1 else if k=3 then c else 0
 k1:k=1->-9007199254740992<=u/\u<=9007199254740992
 k2:k=2->0<=u/\u<np
 k3:k=3->B5 nm=true/\Q2 nm=false
 k4:k=4->1<=o/\o<=7
 k678:k=6\/k=7\/k=8->E9 nm=true
 k9:k=9->B5 nm=true
 k10:k=10->0<=u/\u<64
mutual
def Tr.wf(np:Nat):Nat->Tr->Prop
 |d,.n k u o nm ch=>d<=32/\P3 np k u o nm ch.length/\wfL np (if k=4 then d else d+1) ch
def wfL(np:Nat):Nat->List Tr->Prop
 |_,[]=>True
 |d,t::l=>t.wf np d/\wfL np d l
end
theorem Tr.size_pos(t:Tr):1<=t.size:=by cases t;rw[Tr.size];omega
mutual
theorem Tr.flat_len:∀(t:Tr) (s:Nat),(t.flat s).length=t.size
 | .n k u o nm ch,s=>by rw[Tr.flat,Tr.size,n_8,V9 ch s];rfl
theorem V9:∀(l:List Tr) (s:Nat),(L7 l s).length=C2 l
 | [],_=>rfl
 |t::l,s=>by rw[L7,C2,n_8,Tr.flat_len t s,V9 l _]
end
theorem b0Y:∀(l:List Tr) (t:Tr) (s:Nat),L7 (l++[t]) s=L7 l s++t.flat (s+C2 l)
 | [],t,s=>by simp[L7,C2]
 |x::l,t,s=>by rw[b1t,L7,L7,b0Y l t,C2,H4,a9x]
theorem a8X:∀(l:List Tr) (t:Tr) (s:Nat),C0 (l++[t]) s=C0 l s++[((s+C2 l+t.size -1:Nat):Int)]
 | [],t,s=>by simp[C0,C2]
 |x::l,t,s=>by rw[b1t,C0,C0,a8X l t,C2,b1t,a9x s]
theorem b7a{np d:Nat}:∀{l:List Tr} {t:Tr},wfL np d l->t.wf np d->wfL np d (l++[t])
 | [],t,_,h=>by simp only[b4Y,wfL];exact⟨h,D⟩
 |x::l,t,h,h2=>by
  rw[wfL]at h;rw[b1t,wfL];exact⟨h.1,b7a h.2 h2⟩
mutual
theorem Tr.wf_mono{np:Nat}:∀(t:Tr) {d e:Nat},e<=d->t.wf np d->t.wf np e
 | .n k u o nm ch,d,e,he,h=>by
  rw[Tr.wf]at h⊢;refine⟨J,h.2.1,b7C ch (d:=if k=4 then d else d+1) ?_ h.2.2⟩
  split<;>omega
theorem b7C{np:Nat}:∀(l:List Tr) {d e:Nat},e<=d->wfL np d l->wfL np e l
 | [],_,_,_,_=>by rw[wfL];trivial
 |t::l,d,e,he,h=>by
  rw[wfL]at h⊢;exact⟨Tr.wf_mono t he h.1,b7C l he h.2⟩
end
def Got(np d:Nat)(b:List Ex)(x:PX):Prop:=∃t:Tr,x.2.2=b++t.flat b.length/\x.1+1=x.2.2.length/\t.wf np d
theorem a4Y{b b1:List Ex}{ch:List Tr}{k u o:Int}{args:List Int}{b2:List Ex}(h1:b1=b++L7 ch b.length)(h2:args=C0 ch b.length)(h3:X0 b1 ⟨k,u,o,nm,args⟩=some (i,b2))(hd:d<=32)(hn:P3 np k u o nm ch.length)(hw:wfL np (if k=4 then d else d+1) ch)(m:Nat):Got np d b (i,m,b2):=by
 unfold X0 at h3;split at h3
 .cases h3
 .injection h3 with h3
  injection h3 with h3 h4
  subst h1 h2 h3 h4;refine⟨.n k u o nm ch,by rw[Tr.flat,H4],by simp;omega,?_⟩;rw[Tr.wf];exact⟨hd,hn,hw⟩
def TG(T:List Tok):Prop:=∀i,((tk T i).k=1->B5 (tk T i).t=true)/\0<=(tk T i).n/\(tk T i).n<=9007199254740992
theorem d3w(h:¬opS t lv=0):1<=opS t lv/\opS t lv<=7:=by
 unfold opS at h⊢;cases hf:S0.find? (opM t lv)with
 |none=>rw[hf]at h;exact absurd O h
 |some y=>
  have h2:=b22 hf;simp only[b2Z,b8S];revert h2;revert y;intro y _ hy;have:∀y∈S0,1<=y.1/\y.1<=7:=by decide
  exact this y hy
theorem a27{b:List Ex}{x:Ex}(h:L2 b x m=some y):X0 b x=some (y.1,y.2.2)/\y.2.1=m:=by
 unfold L2 at h;cases hp:X0 b x with
 |none=>rw[hp]at h;cases h
 |some w=>
  rw[hp,n_7]at h;injection h with h
  subst h;exact⟨O,O⟩
theorem a1R{b:List Ex}{k u o:Int}(h:L2 b ⟨k,u,o,nm,[]⟩ m=some y)(hd:d<=32)(hn:P3 np k u o nm 0):Got np d b y:=by
 obtain⟨h1,h2⟩:=a27 h;have:=a4Y (np:=np) (d:=d) (b:=b) (ch:=[]) (args:=[]) (by rw[L7,a1f]) O h1 hd hn (by rw[wfL];trivial) y.2.1;exact this
theorem d3z{e:Nat}{b:List Ex}{x:PX}{k u o:Int}(hx:Got np e b x)(h:L2 x.2.2 ⟨k,u,o,nm,[(x.1:Int)]⟩ m=some y)(hd:d<=32)(hn:P3 np k u o nm 1)(he:e=if k=4 then d else d+1):Got np d b y:=by
 obtain⟨t,t1,t2,t3⟩:=hx;obtain⟨h1,h2⟩:=a27 h;have hl:=t.flat_len b.length;rw[t1,n_8,hl]at t2;have:=a4Y (np:=np) (d:=d) (b:=b) (ch:=[t]) (args:=[(x.1:Int)]) (by rw[t1,L7,L7,a1f]) (by rw[C0,C0];congr 1;omega) h1 hd hn (by rw[wfL,wfL,<- he];exact⟨t3,D⟩) y.2.1;exact this
theorem c8{o:Option α}{f:α->Option β}{y:β}(h:o.bind f=some y):∃x,o=some x/\f x=some y:=by
 cases o with
 |none=>cases h
 |some x=>exact⟨x,O,h⟩
theorem a7R{n:Nat}{x:Tok×Nat}(h:a0H T n=some x):E9 x.1.t=true:=by
 obtain⟨y,_,h2⟩:=c8 h;split at h2
 .rename_i hp;injection h2 with h2
  subst h2;exact hp
 .cases h2
theorem a6q{n:Nat}{k:Int}{x:Tok×Nat}(h:F2 T n k=some x):x.1=tk T n/\(tk T n).k=k:=by
 unfold F2 at h;split at h
 .rename_i hk;injection h with h
  subst h;exact⟨O,hk⟩
 .cases h
theorem c5B{F:PF}(hF:∀d n b x,F.ex d n b=some x->Got np d b x)(hT:TG T){n:Nat}{b:List Ex}(hd:d<=32)(h:X2 T F u d n b=some y):Got np d b y:=by
 unfold X2 at h;obtain⟨n1,_,h⟩:=c8 h;split at h
 .obtain ⟨s,h1,h⟩:=c8 h;obtain⟨n2,_,h⟩:=c8 h;obtain⟨x,h3,h⟩:=c8 h;obtain⟨m,_,h⟩:=c8 h;exact d3z (hF _ _ _ _ h3) h hd ⟨U,λ_ _ _=>O,λ_=>O,λh=>absurd h U,O,λh=>absurd h U,λh=>absurd h U,λh=>absurd h U,λh=>absurd h U,λ_=>a7R h1,λh=>absurd h U,λh=>absurd h U⟩ O
 .split at h
  .obtain ⟨s,h1,h⟩:=c8 h;obtain⟨m,_,h⟩:=c8 h;exact a1R h hd ⟨U,λ_ _ _=>O,λ_=>O,λh=>absurd h U,O,λh=>absurd h U,λh=>absurd h U,λh=>absurd h U,λh=>absurd h U,λ_=>a7R h1,λh=>absurd h U,λh=>absurd h U⟩
  .split at h
   .obtain ⟨s,h1,h⟩:=c8 h;obtain⟨m,_,h⟩:=c8 h;exact a1R h hd ⟨U,λ_ _ _=>O,λ_=>O,λh=>absurd h U,O,λh=>absurd h U,λh=>absurd h U,λh=>absurd h U,λh=>absurd h U,λ_=>a7R h1,λh=>absurd h U,λh=>absurd h U⟩
   .split at h
    .obtain ⟨s,h1,h⟩:=c8 h;split at h
     .rename_i cw;obtain⟨m,_,h⟩:=c8 h;exact a1R h hd ⟨U,λ_ _ _=>O,λ_=>O,λh=>absurd h U,O,λh=>absurd h U,λh=>absurd h U,λh=>absurd h U,λh=>absurd h U,λh=>absurd h U,λ_=>cw,λh=>absurd h U⟩
     .cases h
    .obtain ⟨s,h1,h⟩:=c8 h;split at h
     .cases h
     .rename_i ah;obtain⟨m,_,h⟩:=c8 h;have hk:=a6q h1;have hg:=(hT n1).2;rw[<- hk.1]at hg;exact a1R h hd ⟨U,λ_ _ h=>absurd O h,λ_=>O,λ_=>O,O,λh=>absurd h U,λh=>absurd h U,λh=>absurd h U,λh=>absurd h U,λh=>absurd h U,λh=>absurd h U,λ_=>⟨hg.1,J⟩⟩
theorem c2C{T:List Tok}{ps:List I}(hT:TG T):∀f:Nat,
 (∀d n b x,(A1 T ps f).ex d n b=some x->Got ps.length d b x) /\
 (∀lv d n b x,d<=32->(A1 T ps f).bin lv d n b=some x->Got ps.length d b x) /\
 (∀lv d n b x,d<=32->(A1 T ps f).fac d n b=some x->lv=0->Got ps.length d b x) /\
 (∀lv d n b0 b (tx:Tr) (i:Nat) x,d<=32->b=b0++tx.flat b0.length->i+1=b.length->tx.wf ps.length d->(A1 T ps f).lp lv d i n b=some x->Got ps.length d b0 x) /\
 (∀d n b0 b (ch:List Tr) acc y,d<=32->b=b0++L7 ch b0.length->acc=C0 ch b0.length->wfL ps.length (d+1) ch->(A1 T ps f).ag d n b acc=some y->∃fZ,y.2.2=b0++L7 fZ b0.length/\y.1=C0 fZ b0.length/\wfL ps.length (d+1) fZ)
 |0=>by
  refine⟨λd n b x h=>?_,λlv d n b x _ h=>?_,λlv d n b x _ h=>?_,λlv d n b0 b tx i x _ _ _ _ h=>?_,λd n b0 b ch acc y _ _ _ _ h=>?_⟩<;>cases h
 |f+1=>by
  obtain⟨hE,hB,hF,hL,hA⟩:=c2C hT f;refine⟨λd n b x h=>?_,λlv d n b x hd h=>?_,λlv d n b y hd h _=>?_,λlv d n b0 b tx i x hd hb hi hw h=>?_,λd n b0 b ch acc y hd hb ha hw h=>?_⟩
  .change (F9 T ps (A1 T ps f)).ex d n b=some x at h;simp only[F9]at h;split at h
   .cases h
   .rename_i hd;split at h
    .obtain ⟨x1,h1,h⟩:=c8 h;obtain⟨n2,_,h⟩:=c8 h;obtain⟨x2,h2,h⟩:=c8 h;obtain⟨n3,_,h⟩:=c8 h;obtain⟨x3,h3,h⟩:=c8 h;obtain⟨t1,a1,a2,a3⟩:=hE _ _ _ _ h1;obtain⟨t2,b1,b2,b3⟩:=hE _ _ _ _ h2;obtain⟨t3,c1,c2,c3⟩:=hE _ _ _ _ h3;have l1:=t1.flat_len b.length;have e1:x1.2.2.length=b.length+t1.size:=by rw[a1,n_8,l1]
     have e2:x2.2.2.length=b.length+t1.size+t2.size:=by rw[b1,n_8,t2.flat_len,e1]
     have e3:x3.2.2.length=b.length+t1.size+t2.size+t3.size:=by rw[c1,n_8,t3.flat_len,e2]
     obtain⟨g1,g2⟩:=a27 h;have:=a4Y (np:=ps.length) (d:=d) (b:=b) (ch:=[t1,t2,t3]) (args:=[(x1.1:Int),(x2.1:Int),(x3.1:Int)]) (by rw[c1,b1,a1];simp only[L7,a1f,H4,n_8,Tr.flat_len,a9x]) (by simp only[C0];congr 1;omega;congr 1;omega;congr 1;omega) g1 J ⟨U,λ_ _ _=>O,λ_=>O,λ_=>O,O,λh=>absurd h U,λh=>absurd h U,λh=>absurd h U,λh=>absurd h U,λh=>absurd h U,λh=>absurd h U,λh=>absurd h U⟩ (by simp only[wfL];exact⟨a3,b3,c3,D⟩) x.2.1;exact this
    .exact hB 1 d n b x J h
  .change (F9 T ps (A1 T ps f)).bin lv d n b=some x at h;simp only[F9]at h;split at h
   .exact hF 0 d n b x hd h O
   .obtain ⟨x1,h1,h⟩:=c8 h;obtain⟨t,a1,a2,a3⟩:=hB _ _ _ _ _ hd h1;exact hL lv d x1.2.1 b x1.2.2 t x1.1 x hd a1 a2 a3 h
  .change (F9 T ps (A1 T ps f)).fac d n b=some y at h;simp only[F9]at h;have hg:=hT n;split at h
   .exact a1R h hd ⟨U,λh=>absurd O h,λ_=>O,λ_=>O,O,λ_=>⟨J,hg.2.2⟩,λh=>absurd h U,λh=>absurd h U,λh=>absurd h U,λh=>absurd h U,λh=>absurd h U,λh=>absurd h U⟩
   .split at h
    .obtain ⟨s,h1,h⟩:=c8 h;have hk:=a6q h1;have hg:=(hT (n+1)).2;rw[<- hk.1]at hg;exact a1R h hd ⟨U,λh=>absurd O h,λ_=>O,λ_=>O,O,λ_=>⟨J,J⟩,λh=>absurd h U,λh=>absurd h U,λh=>absurd h U,λh=>absurd h U,λh=>absurd h U,λh=>absurd h U⟩
    .split at h
     .obtain ⟨x1,h1,h⟩:=c8 h;obtain⟨m,_,h⟩:=c8 h;injection h with h
      subst h;obtain⟨t,a1,a2,a3⟩:=hE _ _ _ _ h1;exact⟨t,a1,a2,t.wf_mono (Nat.le_succ d) a3⟩
     .split at h
      .cases h
      .rename_i bN;split at h
       .exact c5B hE hT hd h
       .split at h
        .cases h
        .rename_i aZ;split at h
         .obtain ⟨a,h1,h⟩:=c8 h;unfold a2t at h1;obtain⟨n1,_,h1⟩:=c8 h1;have fA:∃fZ,a.2.2=b++L7 fZ b.length/\a.1=C0 fZ b.length/\wfL ps.length (d+1) fZ:=by
           split at h1
           .injection h1 with h1
            subst h1;exact⟨[],by simp[L7],O,by rw[wfL];trivial⟩
           .exact hA d n1 b b [] [] a hd (by simp[L7]) O (by rw[wfL];trivial) h1
          obtain⟨ch,c1,c2,c3⟩:=fA;obtain⟨g1,g2⟩:=a27 h;have cw:B5 (tk T n).t=true:=hg.1 (H bN);have:=a4Y (np:=ps.length) (d:=d) (b:=b) (ch:=ch) c1 c2 g1 hd ⟨U,λ_ _ _=>O,λ_=>O,λh=>absurd h U,O,λh=>absurd h U,λh=>absurd h U,λ_=>⟨cw,H aZ⟩,λh=>absurd h U,λh=>absurd h U,λh=>absurd h U,λh=>absurd h U⟩ c3 y.2.1;exact this
         .split at h
          .cases h
          .rename_i hix;refine a1R h hd ⟨U,λ_ h=>absurd O h,λ_=>O,λ_=>O,O,λh=>absurd h U,λ_=>⟨J,?_⟩,λh=>absurd h U,λh=>absurd h U,λh=>absurd h U,λh=>absurd h U,λh=>absurd h U⟩
           rcases a8C (tk T n).t ps 0 with⟨_,g⟩|⟨_,_,g⟩
           .omega
           .simpa using g
  .change (F9 T ps (A1 T ps f)).lp lv d i n b=some x at h;simp only[F9]at h;split at h
   .injection h with h
    subst h;exact⟨tx,hb,hi,hw⟩
   .rename_i bn;obtain⟨y,h1,h⟩:=c8 h;obtain⟨w,h2,h⟩:=c8 h;obtain⟨ty,a1,a2,a3⟩:=hB _ _ _ _ _ hd h1;have e0:b.length=b0.length+tx.size:=by rw[hb,n_8,tx.flat_len]
    have e1:y.2.2.length=b0.length+tx.size+ty.size:=by rw[a1,n_8,ty.flat_len,e0]
    have hnode:Got ps.length d b0 (w.1,y.2.1,w.2):=a4Y (np:=ps.length) (d:=d) (b:=b0) (ch:=[tx,ty]) (args:=[(i:Int),(y.1:Int)]) (by rw[a1,hb];simp only[L7,a1f,H4,n_8,Tr.flat_len]) (by simp only[C0];congr 1;omega;congr 1;omega) h2 hd ⟨U,λ_ _ _=>O,λh=>absurd O h,λ_=>O,O,λh=>absurd h U,λh=>absurd h U,λh=>absurd h U,λ_=>d3w bn,λh=>absurd h U,λh=>absurd h U,λh=>absurd h U⟩ (by simp only[wfL];exact⟨hw,a3,D⟩) y.2.1;split at h
    .injection h with h
     subst h;exact hnode
    .obtain ⟨t,c1,c2,c3⟩:=hnode;exact hL lv d y.2.1 b0 w.2 t w.1 x hd c1 c2 c3 h
  .change (F9 T ps (A1 T ps f)).ag d n b acc=some y at h;simp only[F9]at h;obtain⟨x1,h1,h⟩:=c8 h;obtain⟨t,a1,a2,a3⟩:=hE _ _ _ _ h1;have e0:b.length=b0.length+C2 ch:=by rw[hb,n_8,V9]
   have e1:x1.2.2.length=b0.length+C2 ch+t.size:=by rw[a1,n_8,t.flat_len,e0]
   have c1:x1.2.2=b0++L7 (ch++[t]) b0.length:=by rw[a1,hb,b0Y,H4];simp only[n_8,V9]
   have c2:acc++[(x1.1:Int)]=C0 (ch++[t]) b0.length:=by rw[ha,a8X];congr 2;omega
   have c3:=b7a hw a3;split at h
   .exact hA d _ b0 _ (ch++[t]) _ y hd c1 c2 c3 h
   .obtain ⟨m,_,h⟩:=c8 h;injection h with h
    subst h;exact⟨ch++[t],c1,c2,c3⟩
abbrev c3l:=Src×Int×Int
abbrev c3v(x:c3l):CV:=.tup [.agg x.1.cells,iv x.2.1,iv x.2.2]
def O9(s:I):Option Src:=(a2P s).bind a09
def b4q(s:I)(x:c3l):Prop:=(O9 s=some x.1/\x.2.1=0/\x.2.2=0)\/(O9 s=none/\x.1=⟨[],[],[]⟩/\x.2.2≠0)
theorem b9K{c1 c2 c3:CV}{u:CV}{K:List b9->Prop}(h:K σ):b7P CC 154 [c1,c2,c3] σ false u K:=by
 refine d5d ?_;refine cY (b4X O D O c9C (.inl O)) ?_;refine A6 ?_;refine cC ?_ ?_<;>intro h1
 .cases h1
 .refine D8 ?_;exact h
theorem c0s(a0 e0 x e:Int){K:List b9->Prop}(h:K [.dead,.box (⟨[],[],[]⟩:Src).cells,.box [iv x],.box [iv e],.dead,.box [iv x,iv e]]):b7P CC 154 [.ptr 1 0,.ptr 2 0,.ptr 3 0] [.dead,.box (⟨[],[],[]⟩:Src).cells,.box [iv a0],.box [iv e0],.dead] true (a2G x e) K:=by
 refine d5d ?_;refine d4O ?_;refine cC ?_ ?_<;>intro h1
 .refine z_3 ?_;refine cY (b3D (xs:=[.int .i64 x,.int .i64 e]) O D O c41 O O) ?_;refine cY A3 ?_;refine cY a08 ?_;refine cY a08 ?_;refine cD (l8 O Tryz.zeroValue195 O j1 ?_);refine cD (i9 O D D O j3 Tryz.sizeOf195 j1 O O (nb O) ?_);refine b3r ?_;refine z_3 ?_;refine a67 ?_;refine cC ?_ ?_<;>intro h2
  .cases h2
  .refine D8 ?_;refine cF [] [0,1,2,3,4] (tl:=[(5,[1,2,3,4]),(6,[3,4]),(7,[])]) ?_;refine chf O d7F ?_;refine chf O (c7 O (j2 O D O c41 O t_1 U)) ?_;refine chf O c1w ?_;refine chf O (c7 O c9G) ?_;refine chf O c9Z ?_;refine d2K ?_;refine⟨⟨(by exact c7 O (j2 O D O c41 O t_1 U)),c2D,(by exact c7 O c9G),b2D,D⟩,?_⟩;refine B9 O O O (i9 O D D O j3 t_1 (.inl O) O O (nb O) ?_);refine⟨⟨(by exact c7 O c9G),b2D,D⟩,?_⟩;refine d4p ?_;exact h
 .cases h1
theorem c4u(s:I)(hs:s.length<=1000000000000):b8 CC 102 [(sv s)] [] λr τ=>∃x:c3l,a03 0 τ r (.ret (c3v x))/\b4q s x:=by
 refine a4V (b1O Tryz.func102 O O ?_);show b5C _ _ _ _ _ [.dead];refine b4i ?_;refine C6 ?_;refine cD (l8 O a4S O j1 ?_);refine cD (l8 O t_6 O (.inl O) ?_);refine cD (l8 O Tryz.zeroValue40 O (.inl O) ?_);refine A6 ?_;refine b4i ?_;refine a8t ?_;refine dc O Tryz.call153 ⟨D,D⟩ (c3g s hs _) ?_;rintro⟨T,nn,at_,e⟩ hP;dsimp only at hP⊢;refine cY A3 ?_;refine cY a08 ?_;refine cY a08 ?_;refine cY a08 ?_;refine cY a2Z ?_;refine cD (i9 O D D O j3 t_1 (.inl O) O O (nb O) ?_);refine cD (i9 O D D O j3 b6R (.inl O) O O (nb O) ?_);refine A6 ?_;refine b4i ?_;refine z_0 ?_;refine cY c00 ?_;refine a8b ?_;refine cC ?_ ?_<;>intro h1
 .have he:e≠0:=H h1;have hl:a2P s=none:=by
   rcases hP with⟨_,_,_,g⟩|⟨g,_⟩
   .exact absurd g he
   .exact g
  refine J2 ?_;refine cF [] [0,1,2] (tl:=[(3,[1,2]),(4,[2]),(5,[])]) ?_;refine chf O d7F ?_;refine chf O c1w ?_;refine chf O c9Z ?_;refine d2K ?_;refine⟨⟨c2D,b2D,D⟩,?_⟩;refine B9 O O O (i9 O D D O j3 t_1 (.inl O) O O (nb O) ?_);refine⟨⟨b2D,D⟩,?_⟩;refine d4p ?_;refine c6 ?_;exact⟨_,r8 (rs:=[.cell 2 67,.cell 3 3,.cell 4 40]) (cs:=[_,_,_]) O d7E (n_5 O),⟨((⟨[],[],[]⟩:Src),at_,e),d3P,.inr ⟨by rw[O9,hl];rfl,O,he⟩⟩⟩
 .have he:e=0:=H h1;obtain⟨hl,rfl,rfl⟩:a2P s=some T/\nn=true/\at_=0:=by
   rcases hP with⟨g1,g2,g3,_⟩|⟨_,_,_,g⟩
   .exact ⟨g1,g2,g3⟩
   .exact absurd he g
  subst he;obtain⟨hc,h0⟩:=b0s hl;have ai:O9 s=a09 T:=by rw[O9,hl];rfl
  refine D8 ?_;refine b75 O O O O O U O O Tryz.call154 B7 (λds=>?_);refine b7L ?_;refine cY (B2 #[(0,1),(1,1),(2,1),(3,1)] O ⟨D,D⟩ c3q Tryz.zeroValue199 O ⟨_,O⟩ (λw=>by kernel_rfl) O O) ?_;refine cD (F1 O D j3 j1 ?_);refine a24 ?_;refine b7L ?_;refine cD (j5 O Tryz.call155 ⟨D,D⟩ (d2A hc h0 (q:=4) (s:=0) ⟨O,O,n_5 O⟩) O (λx hx=>c0s _ _ _ _ ⟨_,r8 (rs:=[.cell 2 67,.cell 3 3,.cell 4 40]) (cs:=[_,_,_]) O d7E (n_5 O),⟨((⟨[],[],[]⟩:Src),x.1,x.2),d3P,.inr ⟨by rw[ai];exact hx.1,O,hx.2⟩⟩⟩) ?_);rintro⟨x,m,ps,b⟩ g1;dsimp only at g1⊢;refine cD (i9 O D D O j3 t_8 j1 O O (nb O) ?_);refine cD (i9 O D O O j3 t_1 (.inl O) O O (nb O) ?_);refine cD (i9 O D O O j3 b6R (.inl O) O O (nb O) ?_);refine A6 ?_;refine a5E ?_;exact b9K ⟨_,r8 (rs:=[.cell 2 67,.cell 3 3,.cell 4 40]) (cs:=[_,_,_]) O d7E (n_5 O),⟨(x,0,0),(by exact .ret (.tups ⟨.old (c:=.agg (x).cells) (j4 (Src.pure _)).old,.old (.val _),.old (.val _),D⟩)),.inl ⟨by rw[ai];exact g1,O,O⟩⟩⟩
theorem c6V(s:I)(hs:s.length<=1000000000000)(σ:List b9):b8 CC 102 [(sv s)] σ λr τ=>∃x:c3l,r= .ret (c3v x)/\τ=σ/\b4q s x:=
 I0 (res:=λx=>.ret (c3v x)) hCC (λc hc=>by simp at hc;subst hc;exact .val _) (c4u s hs) (λx _=>B3 ⟨j4 x.1.pure,.val _,.val _,D⟩) σ
mutual
def Tr.sts:Tr->Nat->List Nat
 | .n _ _ _ _ ch,s=>b1Z ch s++[s]
def b1Z:List Tr->Nat->List Nat
 | [],_=>[]
 |t::l,s=>t.sts s++b1Z l (s+t.size)
end
mutual
theorem Tr.sts_len:∀(t:Tr) (s:Nat),(t.sts s).length=t.size
 | .n k u o nm ch,s=>by rw[Tr.sts,Tr.size,n_8,a3f ch s];rfl
theorem a3f:∀(l:List Tr) (s:Nat),(b1Z l s).length=C2 l
 | [],_=>rfl
 |t::l,s=>by rw[b1Z,C2,n_8,Tr.sts_len t s,a3f l _]
end
theorem Z5:∀(l:List Tr) (s:Nat),(C0 l s).length=l.length
 | [],_=>rfl
 |t::l,s=>by rw[C0,n_9,n_9,Z5 l]
theorem Tr.sts_last(t:Tr)(s:Nat):(t.sts s)[t.size -1]?=some s:=by
 cases t with
 |n k u o nm ch=>
  rw[Tr.sts,Tr.size,Nat.add_sub_cancel,a3i (by rw[a3f];exact n_6 _),a3f];simp
def ChS(S:List Nat):List Tr->Nat->Prop
 | [],_=>True
 |c::l,s=>S[s+c.size -1]?=some s/\ChS S l (s+c.size)
structure d8s(E:List Ex)(S:List Nat)(np j:Nat)(x:Ex)(z:Nat)(ch:List Tr):Prop where
 e:E[j]?=some x
 s:S[j]?=some z
 args:x.args=C0 ch z
 size:z+C2 ch=j
 chs:ChS S ch z
 ok:P3 np x.k x.num x.op x.name x.args.length
variable{args:List CV}{e:Nat}
theorem c1c:∀(l:List Tr) (s:Nat) (S0 S1:List Nat),S0.length=s->ChS (S0++b1Z l s++S1) l s
 | [],_,_,_,_=>trivial
 |t::l,s,S0,S1,h=>by
  have hp:=t.size_pos;refine⟨?_,?_⟩
  .rw [b1Z,H4,H4,a3i J,h,show s+t.size -1-s=t.size -1 by omega,X1 (by rw[t.sts_len];omega)];exact t.sts_last s
  .have:=c1c l (s+t.size) (S0++t.sts s) S1 (by rw[n_8,t.sts_len,h]);rw[b1Z,<- H4 S0];exact this
mutual
theorem c6v{np:Nat}:∀(t:Tr) {d:Nat} (s:Nat) (E0 E1:List Ex) (S0 S1:List Nat),E0.length=s->S0.length=s->t.wf np d->∀j,s<=j->j<s+t.size->∃x z ch,d8s (E0++t.flat s++E1) (S0++t.sts s++S1) np j x z ch
 | .n k u o nm ch,d,s,E0,E1,S0,S1,hE,hS,hw,j,h1,h2=>by
  rw[Tr.wf]at hw;rw[Tr.size]at h2;rw[Tr.flat,Tr.sts];by_cases hj:j<s+C2 ch
  .have:=c3e ch s E0 (⟨k,u,o,nm,C0 ch s⟩::E1) S0 (s::S1) hE hS hw.2.2 j h1 hj;simpa[H4]using this
  .have hj:j=s+C2 ch:=by omega
   refine⟨⟨k,u,o,nm,C0 ch s⟩,s,ch,?_,?_,O,J,?_,by rw[Z5];exact hw.2.1⟩
   .rw [<- H4,H4,a3i (by rw[n_8,V9];omega),n_8,V9,hE,hj,Nat.sub_self];rfl
   .rw [<- H4,H4,a3i (by rw[n_8,a3f];omega),n_8,a3f,hS,hj,Nat.sub_self];rfl
   .have:=c1c ch s S0 (s::S1) hS;simpa[H4]using this
theorem c3e{np:Nat}:∀(l:List Tr) {d:Nat} (s:Nat) (E0 E1:List Ex) (S0 S1:List Nat),E0.length=s->S0.length=s->wfL np d l->∀j,s<=j->j<s+C2 l->∃x z ch,d8s (E0++L7 l s++E1) (S0++b1Z l s++S1) np j x z ch
 | [],_,s,_,_,_,_,_,_,_,j,h1,h2=>by rw[C2]at h2;omega
 |t::l,d,s,E0,E1,S0,S1,hE,hS,hw,j,h1,h2=>by
  rw[wfL]at hw;rw[C2]at h2;rw[L7,b1Z];by_cases hj:j<s+t.size
  .have:=c6v t s E0 (L7 l (s+t.size)++E1) S0 (b1Z l (s+t.size)++S1) hE hS hw.1 j h1 hj;simpa[H4]using this
  .have:=c3e l (s+t.size) (E0++t.flat s) E1 (S0++t.sts s) S1 (by rw[n_8,t.flat_len,hE]) (by rw[n_8,t.sts_len,hS]) hw.2 j J J;simpa[H4]using this
end
theorem c1N{t:Tr}(hw:t.wf np d){j:Nat}(h:j<t.size):∃x z ch,d8s (t.flat 0) (t.sts 0) np j x z ch:=by
 have:=c6v t 0 [] [] [] [] O O hw j (n_4 _) J;simpa using this
theorem a6B:∀{l:List Tr} {m:Nat} {c:Tr},l[m]?=some c->C2 (l.take (m+1))=C2 (l.take m)+c.size
 | [],m,c,h=>by simp at h
 |x::l,0,c,h=>by simp at h;subst h;simp[C2]
 |x::l,m+1,c,h=>by
  have:=a6B (l:=l) (m:=m) (c:=c) (H h);rw[a8g,a8g,C2,C2,this];omega
theorem a0U:∀{l:List Tr} {m s:Nat} {c:Tr},l[m]?=some c->(C0 l s)[m]?=some ((s+C2 (l.take m)+c.size -1:Nat):Int)
 | [],m,s,c,h=>by simp at h
 |x::l,0,s,c,h=>by simp at h;subst h;simp[C0,C2]
 |x::l,m+1,s,c,h=>by
  rw[C0,c7K,a0U (l:=l) (m:=m) (c:=c) (H h),a8g,C2,a9x s]
structure DeG(d:De):Prop where
 kind:d.k=1\/d.k=2\/d.k=3
 name:d.k≠3->B5 d.name=true/\Q2 d.name=false
 path:d.k=3->E9 d.name=true
 pars:d.k≠1->d.params=[]
 par:∀s∈d.params,B5 s=true/\Q2 s=false
 parl:d.params.length<=8
 nod:d.params.Nodup
 tree:∃t:Tr,d.body=t.flat 0/\t.wf d.params.length 1
 blen:d.body.length<=256
theorem C9{s:I}(h:B5 s=true):s.length<=24:=by
 unfold B5 at h;cases s with
 |nil=>cases h
 |cons b s=>
  simp only[O5,a1z]at h;exact h.1.1
theorem Q1{s:I}(h:E9 s=true):s.length<=80:=by
 unfold E9 at h;simp only[O5,a1z]at h;exact h.1.1
theorem P3.len{k u o:Int}{c:Nat}(h:P3 np k u o nm c):nm.length<=80:=by
 have hk:=h.kind;by_cases h3:k=3
 .have:=C9 (h.k3 h3).1;omega
 .by_cases h9:k=9
  .have:=C9 (h.k9 h9);omega
  .by_cases h6:k=6\/k=7\/k=8
   .exact Q1 (h.k678 h6)
   .rw [h.name J];simp
theorem a8h:∀(l:List Tr),l.length<=C2 l
 | []=>n_6 _
 |t::l=>by have:=t.size_pos;have:=a8h l;rw[C2,n_9];omega
theorem a2F:∀(l:List Tr) (m:Nat),C2 (l.take m)<=C2 l
 | [],m=>by simp
 |t::l,0=>by simp[C2]
 |t::l,m+1=>by have:=a2F l m;rw[a8g,C2,C2];omega
theorem De.old(x:De)(n:Nat):G7 n (.box x.cells):=A0 ⟨.val _,.val _,B8 _ _ _,O4 _ _ _,D⟩
theorem b0d(n:Nat)(l:List Int):G7 n (.vec 1 (l.map icv)):=λr hr c hc=>by
 obtain⟨a,_,rfl⟩:=H9.1 hr;simp[icv]at hc;subst hc;exact .val _
structure a0i(x:Src):Prop where
 pkg:B5 x.pkg=true/\Q2 x.pkg=false
 imp:∀s∈x.imports,B5 s=true/\Q2 s=false
 impl:x.imports.length<=8
 impn:x.imports.Nodup
 impp:x.pkg∉x.imports
 dec:∀d∈x.decls,DeG d
 decl:x.decls.length<=64
 decn:(x.decls.map λd=>(d.k,d.name)).Nodup
structure Sn where
 k:Int
 s:I
deriving DecidableEq
variable{s:I}
abbrev Sn.cells(x:Sn):List CV:=[iv x.k,sv x.s]
theorem a6z{y:α}(h:l.Nodup)(hy:l[i]?=some y):y∉l.take i:=λhm=>by
 obtain⟨j,hj⟩:=M5.1 hm;rw[a2L]at hj;split at hj
 .rename_i ah;obtain⟨h1,e1⟩:=n_3.1 hy;obtain⟨h2,e2⟩:=n_3.1 hj;exact(List.pairwise_iff_getElem.1 h) j i h2 h1 ah (e2.trans e1.symm)
 .cases hj
theorem Src.old(x:Src)(n:Nat):G7 n (.box x.cells):=A0 ⟨.val _,B8 _ _ _,K9 _ _ _,D⟩
structure Fi where
 p:I
 b:I
deriving DecidableEq
variable{b:List Ex}{fl:List Fi}
abbrev Fi.cells(x:Fi):List CV:=[sv x.p,sv x.b]
def Fi.cv(x:Fi):List CV:=x.cells
theorem Fi.pure(x:Fi):P5 x.cells:=⟨.val _,.val _,D⟩
theorem B6(l:List Fi)(nn:Bool):r9 (.list (l.map Fi.cv) nn none):=M4 (f:=Fi.cv) Fi.pure l nn
theorem a1t(n:Nat)(l:List Fi)(nn:Bool):Old n (.list (l.map Fi.cv) nn none):=(B6 l nn).old
abbrev A9(l:List Fi)(nn:Bool):List CV:=[.list (l.map Fi.cv) nn none]
structure Va where
 n:I
 v:Int
deriving DecidableEq
variable{n:Nat}
abbrev Va.cells(x:Va):List CV:=[sv x.n,iv x.v]
def Va.cv(x:Va):List CV:=x.cells
theorem Va.pure(x:Va):P5 x.cells:=⟨.val _,.val _,D⟩
theorem H3(l:List Va)(nn:Bool):r9 (.list (l.map Va.cv) nn none):=M4 (f:=Va.cv) Va.pure l nn
theorem a1B(n:Nat)(l:List Va)(nn:Bool):Old n (.list (l.map Va.cv) nn none):=(H3 l nn).old
abbrev O2(l:List Va)(nn:Bool):List CV:=[.list (l.map Va.cv) nn none]
def prv{α:Type}(l:List α)(i:Nat):Option α:=if i=0 then none else l[i-1]?
theorem b6l{x:α}(h:l[i]?=some x):prv l (i+1)=some x:=by unfold prv;simp[h]
theorem Z1{p:α}(hp:0<i->l[i-1]?=some p)(q:α->Bool):(prv l i).any q=(decide ((i:Int) > 0)&&q p):=by
 unfold prv;by_cases h:i=0
 .subst h;rfl
 .rw [G h,hp J];have:decide ((i:Int) > 0)=true:=a2h J;rw[this];rfl
theorem b4k(hi:i<l.length):∃p,0<i->l[((i:Int) -1).toNat]?=some p/\l[i-1]?=some p:=by
 refine⟨l[i-1]'J,λh0=>?_⟩;rw[show((i:Int) -1).toNat=i-1 by omega];simp
def I6(pv:Option Fi)(f:Fi):Int:=if E9 f.p=false then 6 else if(pv.any λg=>decide (f.p=g.p))=true then 10 else if(pv.any λg=>Op.bytesLess f.p g.p)=true then 6 else if 16384<f.b.length then 2 else 0
def rvE:Option Fi->List Fi->Int
 |_,[]=>0
 |pv,f::l=>if I6 pv f=0 then rvE (some f) l else I6 pv f
def B1(l:List Fi):Int:=if 64<l.length then 2 else rvE none l
theorem b8f{l:List Fi}{f:Fi}(h:l[i]?=some f):rvE (prv l i) (l.drop i)=if I6 (prv l i) f=0 then rvE (prv l (i+1)) (l.drop (i+1))else I6 (prv l i) f:=by
 obtain⟨ah,rfl⟩:=n_3.1 h;rw[b6l h,U5 ah,rvE]
def a0l(pv:Option Va)(v:Va):Bool:=B5 v.n && (decide (-9007199254740992<=v.v)&&decide (v.v<=9007199254740992))&& !(pv.any λg=>Op.bytesLess v.n g.n ||decide (v.n=g.n))
def evB:Option Va->List Va->Bool
 |_,[]=>true
 |pv,v::l=>a0l pv v&&evB (some v) l
def a2N(l:List Va):Bool:=decide (l.length<=16)&&evB none l
theorem c44{ev:List Va}(h:a2N ev=true):ev.length<=16:=by
 unfold a2N at h;simp only[O5,a1z]at h;exact h.1
theorem b7k{l:List Va}{v:Va}(h:l[i]?=some v):evB (prv l i) (l.drop i)=(a0l (prv l i) v&&evB (prv l (i+1)) (l.drop (i+1))):=by
 obtain⟨ah,rfl⟩:=n_3.1 h;rw[b6l h,U5 ah,evB]
def a38(s:I):Bool:=E9 s&& (decide ((s.length:Int) > 4)&&c0c [46,115,114,99] s)
theorem b81(l:List Fi)(nn:Bool)(hl:∀f∈l,f.p.length<=1000000000)(σ:List b9):b8 CC 100 [.agg (A9 l nn)] σ λr aa=>r= .ret (iv (B1 l))/\aa=σ:=by
 refine b8.anyw hCC pu_ pu_ (c9 (qO Tryz.func100 ?_)) σ;refine qD (F1 O D j3 j1 ?_);refine V a2r ?_;refine qC ?_ ?_<;>intro h1
 .have am:64<l.length:=sm_ h1;exact d3V
 .have am:¬64<l.length:=sm_ h1;refine V a2r ?_;refine m0 hCC (α:=Nat) (λi=>[(1,.ptr 0 0),(10,(.list (l.map Fi.cv) nn none)),(11,iv l.length),(12,iv i)]) (λ_=>[.box (A9 l nn)]) (λi=>i<=l.length/\B1 l=rvE (prv l i) (l.drop i)) (λi=>l.length -i) 0 ⟨n_4 _,by rw[B1,G am];rfl⟩ tu_ (aj:=[]) O A7 uz_ ?_;intro i ⟨hi,hr⟩;refine qk (qC ?_ ?_)<;> intro h2
  .have ah:(i:Int)<l.length:=H h2;obtain⟨y,hb⟩:=gx_ l i;obtain⟨p,hp⟩:=b4k (l:=l) (i:=i) J;have fq:0<i->l[i-1]?=some p:=λh=>(hp h).2;have bf:=hl y (n_2 hb);rw[b8f hb]at hr;refine c3D ?_;refine V (c4 O d0J ⟨D,D⟩ (a5C y.p bf _) O) ?_;refine qC ?_ ?_<;>intro h3
   .have u3:E9 y.p=false:=H h3;have us:I6 (prv l i) y=6:=by rw[I6,W u3]
    rw[us]at hr;exact b6j
   .have u3:¬E9 y.p=false:=H h3;refine cW 15 ?_;refine b6b ?_;refine hY A3 ?_;refine c1b ?_;refine c2L ?_;refine c1C ?_;refine c2r ?_;refine L8 O O D O b2v ?_;refine hY S6 ?_;refine a85 ?_;refine qC ?_ ?_<;>intro h4
    .have u4:((prv l i).any λg=>decide (y.p=g.p))=true:=by rw[Z1 fq];exact h4
     have us:I6 (prv l i) y=10:=by rw[I6,G u3,W u4]
     rw[us]at hr;exact b6j
    .have u4:¬((prv l i).any λg=>decide (y.p=g.p))=true:=by rw[Z1 fq];simpa using h4
     refine cW 15 ?_;refine b6b ?_;refine hY A3 ?_;refine c1b ?_;refine c2L ?_;refine c1C ?_;refine c2r ?_;refine c6G ?_;refine a85 ?_;refine qC ?_ ?_<;>intro h5
     .have u5:((prv l i).any λg=>Op.bytesLess y.p g.p)=true:=by rw[Z1 fq];exact h5
      have us:I6 (prv l i) y=6:=by rw[I6,G u3,G u4,W u5]
      rw[us]at hr;exact b6j
     .have u5:¬((prv l i).any λg=>Op.bytesLess y.p g.p)=true:=by rw[Z1 fq];simpa using h5
      refine V T7 ?_;refine qC ?_ ?_<;>intro h6
      .have u6:16384<y.b.length:=sm_ h6;have us:I6 (prv l i) y=2:=by rw[I6,G u3,G u4,G u5,W u6]
       rw[us]at hr;exact b6j
      .have u6:¬16384<y.b.length:=sm_ h6;have us:I6 (prv l i) y=0:=by rw[I6,G u3,G u4,G u5,G u6]
       rw[us,W O]at hr;exact b0P
  .exact d6l
theorem c2G(a b c d e:Bool):(a&&b&& !(c&& (d ||e)))= !((!a || !b) ||(c&& (d ||e))):=by cases a<;>cases b<;>cases c<;>cases d<;>cases e<;>rfl
theorem c9Q(s:I):((E9 s&&decide ((s.length:Int) > 4))&&c0c [46,115,114,99] s)=a38 s:=by rw[a38,a98]
theorem b2a(s:I)(hs:s.length<=1000000000)(σ:List b9):b8 CC 101 [(sv s)] σ λr aa=>r= .ret (.val (.bool (a38 s)))/\aa=σ:=by
 refine b8.anyw hCC pu_ pu_ (c9 (qO Tryz.func101 ?_)) σ;refine V (c4 O d0J ⟨D,D⟩ (a5C s hs _) O) ?_;refine b5o ?_;refine a2g ?_;refine qG D2 ?_;refine qG (λhg=>c4 O Tryz.call152 ⟨hg,O,D⟩ (a5S s _ J U _) O) ?_;refine b4T ?_;exact⟨_,rE1,_,_,O,O,o3 (c9Q _)⟩
theorem a81(v:Int)(σ:List b9):b8 CC 104 [iv v] σ λr aa=>r= .ret (.val (.bool (decide (-9007199254740992<=v)&&decide (v<=9007199254740992))))/\aa=σ:=by
 refine b8.anyw hCC pu_ pu_ (c9 (qO Tryz.func104 ?_)) σ;refine qG D2 ?_;refine a2g ?_;exact c96
theorem a0F(l:List Va)(nn:Bool)(σ:List b9):b8 CC 57 [.agg (O2 l nn)] σ λr aa=>r= .ret (.val (.bool (a2N l)))/\aa=σ:=by
 refine b8.anyw hCC pu_ pu_ (c9 (qO Tryz.func57 ?_)) σ;refine qD (F1 O D j3 j1 ?_);refine V b61 ?_;refine qC ?_ ?_<;>intro h1
 .have am:¬l.length<=16:=sm_ h1;refine c6 ?_;exact⟨_,rE1,_,_,O,O,o3 (by rw[a2N,a2c am];rfl)⟩
 .have am:l.length<=16:=sm_ h1;refine V b61 ?_;refine m0 hCC (α:=Nat) (λi=>[(1,.ptr 0 0),(10,(.list (l.map Va.cv) nn none)),(11,iv l.length),(12,iv i)]) (λ_=>[.box (O2 l nn)]) (λi=>i<=l.length/\a2N l=evB (prv l i) (l.drop i)) (λi=>l.length -i) 0 ⟨n_4 _,by rw[a2N,a2h am];rfl⟩ tu_ (aj:=[]) O A7 uz_ ?_;intro i ⟨hi,hr⟩;refine qk (qC ?_ ?_)<;> intro h2
  .have ah:(i:Int)<l.length:=H h2;obtain⟨y,hb⟩:=gx_ l i;obtain⟨p,hp⟩:=b4k (l:=l) (i:=i) J;have fq:0<i->l[i-1]?=some p:=λh=>(hp h).2;rw[b7k hb]at hr;refine V c22 ?_;refine d0W ?_;refine cW 26 ?_;refine d4N ?_;refine hY (c4 O Tryz.call74 ⟨D,D⟩ (a8x y.n _) O) ?_;refine hY b5X ?_;refine hY A3 ?_;refine c75 ?_;refine L8 O O D O (λhg=>c4 O Tryz.call104 ⟨hg,D⟩ (a81 y.v _) O) ?_;refine L8 O O D O a4a ?_;refine hY U8 ?_;refine hY A3 ?_;refine L8 O O D O D2 ?_;refine L8 O O D O b1E ?_;refine L8 O O D O a84 ?_;refine d9e ?_;refine d9g ?_;refine d5E ?_;refine a4p O O (λh=>h) O (λhk hg=>z8 O ⟨hk,hg⟩ ⟨hk,hg⟩ O O c3C c31 d1v (o7 (hp (by change (_:Bool)=_ at hk;simp at hk hg;omega)).1) O) ?_;refine d9w ?_;refine d5x ?_;refine hY U8 ?_;refine a2b ?_;refine qC ?_ ?_<;>intro h3
   .have u3:a0l (prv l i) y=false:=by rw[a0l,Z1 fq,c2G];rw[h3];rfl
    rw[u3,Bool.false_and]at hr;exact d4K
   .have u3:a0l (prv l i) y=true:=by rw[a0l,Z1 fq,c2G];rw[h3];rfl
    rw[u3,b6g]at hr;exact b0P
  .exact d5R
def Y2(l:List Va)(s:I):Option Int:=(l.find? λv=>decide (v.n=s)).map Va.v
theorem b2X{l:List Va}{v:Va}(h:l[i]?=some v)(s:I):Y2 (l.drop i) s=if v.n=s then some v.v else Y2 (l.drop (i+1)) s:=by
 obtain⟨ah,rfl⟩:=n_3.1 h;rw[U5 ah];unfold Y2;rw[b5N];by_cases hh:l[i].n=s
 .simp [hh]
 .simp [hh]
theorem b13(l:List Va)(nn:Bool)(s:I)(hl:l.length<=1000000000)(σ:List b9):b8 CC 112 [.agg (O2 l nn),(sv s)] σ λr aa=>r= .ret (.tup [(iv ((Y2 l s).getD 0)),(.val (.bool ((Y2 l s).isSome)))])/\aa=σ:=by
 refine b8.anyw hCC pu_ pu_ (c9 (qO Tryz.func112 ?_)) σ;refine qD (F1 O D j3 j1 ?_);refine d9d ?_;intro i ⟨hi,hr⟩;refine qk (qC ?_ ?_)<;> intro h1
 .have ah:(i:Int)<l.length:=H h1;obtain⟨y,hb⟩:=gx_ l i;rw[b2X hb]at hr;refine V c22 ?_;refine d0W ?_;refine V a6L ?_;refine qC ?_ ?_<;>intro h2
  .have u2:y.n=s:=H h2;rw[W u2]at hr;exact d6b
  .have u2:¬y.n=s:=H h2;rw[G u2]at hr;exact b0P
 .have aH:l.length<=i:=sm_ h1;rw[U4 aH]at hr;exact d4r
structure Nm where
 k:Int
 p:I
 o:I
deriving DecidableEq
abbrev Nm.cells(x:Nm):List CV:=[iv x.k,sv x.p,sv x.o]
def Nm.kc(x:Nm):CV:=.agg x.cells
def Nm.kv(x:Nm):Value:=.agg #[.int .i64 x.k,.string (str x.p),.string (str x.o)]
theorem Nm.pure(x:Nm):r9 x.kc:=j4 ⟨.val _,.val _,.val _,D⟩
def D4(k:Int)(p o:I):Nm:=⟨k,if k=3 then []else p,o⟩
theorem d8x(x y:Nm):∀w,(Op.equal 175 x.kv y.kv).run CC.P w= .ok (decide (x=y)) w:=by
 intro w;show(Op.equal _ _ _).run Tryz.prog w=_;simp[Op.equal,Op.maxDepth,go_sem,Nm.kv,U9];obtain⟨a,b,c⟩:=x;obtain⟨a',b',c'⟩:=y;by_cases h1:a=a'<;>by_cases h2:b=b'<;>by_cases h3:c=c'<;>simp[h1,h2,h3]
theorem e0r{M:A5}{w:World}{x:Nm}{v:Value}(h:RV M w x.kc v):v=x.kv:=a06 (l:=[.int .i64 x.k,.string (str x.p),.string (str x.o)]) h
theorem d7o{M:A5}{w:World}(x:Nm):RV M w x.kc x.kv:=by
 refine .agg O (λc hc=>?_) λi c hc=>?_
 .simp at hc
  rcases hc with rfl|rfl|rfl<;>rfl
 .rcases i with _|_|_|i
  .injection hc with hc;subst hc;exact .val _
  .injection hc with hc;subst hc;exact .val _
  .injection hc with hc;subst hc;exact .val _
  .cases hc
theorem c70:c1P (α:=Nm) CC.P 175 Nm.kc Nm.kv where
 rv _ _ _ _ h:=e0r h
 rv' _ _ a:=d7o a
 check b a w:=by
  have:∀n,(Instr.checkKey b (n+2) 175 a.kv).run Tryz.prog w= .ok () w:=λn=>by simp[Instr.checkKey,Nm.kv,go_sem]
  exact this 9998
 eq a b w:=d8x a b w
 now:=⟨_,c7Z,λa b=>O⟩
 bits a:=by
  have:∀n,Instr.sameBits (n+2) a.kv a.kv=true:=λn=>by simp[Instr.sameBits,Nm.kv,a9N]
  exact this 9998
theorem d1e:R5 (α:=Nm) CC.P 175 Nm.kc Nm.kv:=c70.find
theorem b6w(k:Int)(p o:I)(σ:List b9):b8 CC 133 [iv k,(sv p),(sv o)] σ λr aa=>r= .ret (.agg (D4 k p o).cells)/\aa=σ:=by
 refine b8.anyw hCC pu_ pu_ (c9 (qO Tryz.func133 ?_)) σ;refine qD (l8 O c97 O j1 ?_);refine qC ?_ ?_<;>intro h1
 .have u1:k=3:=H h1;refine d5h ?_;refine c6 ?_;exact⟨_,C4 O ⟨D,_,_,_,O,O,.inr ⟨_,d0e,c7A,nb O,O⟩⟩,_,_,O,O,(by rw[D4,W u1];exact .old ((Nm.pure ⟨k,[],o⟩).old))⟩
 .have u1:¬k=3:=H h1;refine d5h ?_;refine c6 ?_;exact⟨_,C4 O ⟨D,_,_,_,O,O,.inr ⟨_,d0e,c7A,nb O,O⟩⟩,_,_,O,O,(by rw[D4,G u1];exact .old ((Nm.pure ⟨k,p,o⟩).old))⟩
structure En where
 p:I
 o:I
 k:Int
 pl:I
 ix:Int
 ct:Int
deriving DecidableEq
variable{k o:Int}
abbrev En.cells(x:En):List CV:=[sv x.p,sv x.o,iv x.k,sv x.pl,iv x.ix,iv x.ct]
abbrev En.z:En:=⟨[],[],0,[],0,0⟩
theorem En.pure(x:En):r9 (.agg x.cells):=j4 ⟨.val _,.val _,.val _,.val _,.val _,.val _,D⟩
def vcE(x:En):CV:=.agg x.cells
def vcS(x:Src):CV:=.agg x.cells
abbrev Src.z:Src:=⟨[],[],[]⟩
theorem a4C(x:Src):r9 (vcS x):=j4 x.pure
theorem c1q{z:Value}(d:β)(hd:H8 z=vc d)(o:Option β):(o.map vc).getD (H8 z)=vc (o.getD d):=by cases o<;>simp[hd]
theorem b5b{kc:α->CV}(hk:∀a,r9 (kc a))(hv:∀b,r9 (vc b))(n:Nat)(l:List (α×β)):G7 n (.map (gm kc vc l)):=λx hx=>by
 obtain⟨y,_,rfl⟩:=H9.1 hx;exact⟨(hk _).old,(hv _).old⟩
theorem a3N{kc:α->CV}(hk:∀a,r9 (kc a))(hv:∀b,r9 (vc b))(l:List (α×β)):I5 R (.map (gm kc vc l)) (.map (gm kc vc l)):=.map ⟨O,λi x x' h h'=>by
 rw[h]at h';injection h' with h';subst h'
 obtain⟨y,_,rfl⟩:=H9.1 (n_2 h);exact⟨.pure (hk _),.pure (hv _)⟩⟩
abbrev SM:=List (I×Src)
variable{ms:SM}
abbrev EM:=List (Nm×En)
variable{me:EM}
abbrev smO(m:SM):b9:=.map (gm sv vcS m)
abbrev emO(m:EM):b9:=.map (gm Nm.kc vcE m)
theorem a7s(s:I):r9 (sv s):=.val _
abbrev wbx(fl:List Fi)(nn va:Bool)(br:List I)(q1 q2 t:Nat):b9:=.box [.list (fl.map Fi.cv) nn none,.val (.bool va),.map q1,.list (br.map scv) (gnn br.length) (G9 br.length t),.map q2]
abbrev wst(fl:List Fi)(nn va:Bool)(br:List I)(ms:SM)(me:EM):List b9:=[wbx fl nn va br 1 2 3,smO ms,emO me,p7 br.length]
structure WAt(σ:List b9)(w q1 q2 t:Nat)(fl:List Fi)(nn va:Bool)(br:List I)(ms:SM)(me:EM):Prop where
 hw:σ[w]?=some (wbx fl nn va br q1 q2 t)
 hs:σ[q1]?=some (smO ms)
 he:σ[q2]?=some (emO me)
 ht:σ[t]?=some (p7 br.length)
 nd:b46 [w,q1,q2,t]
theorem a3v{b c:Nat}(h:a≠b/\a≠c/\a≠d/\b≠c/\b≠d/\c≠d):b46 [a,b,c,d]:=λi j k h1 h2=>by
 obtain⟨h3,h4,h5,h6,h7,h8⟩:=h
 rcases i with _|_|_|_|i<;>rcases j with _|_|_|_|j<;>simp at h1 h2<;>omega
theorem a91{t p1 p2 u:Nat}(h1:R q1 p1)(h2:R q2 p2)(h3:R t u):I5 R (wbx fl nn va br q1 q2 t) (wbx fl nn va br p1 p2 u):=
 .box (.cons (.pure (B6 _ _)) (.cons (.pure (.val _)) (.cons (.map h1) (.cons (by
  refine .list O (λi r r' h1 h2=>by rw[h1]at h2;injection h2 with h2;rw[h2]) (λi j r r' c c' h1 h2 h3 h4=>?_) ?_
  .rw [h1]at h2;injection h2 with h2;subst h2;rw[h3]at h4;injection h4 with h4;subst h4
   obtain⟨y,_,rfl⟩:=H9.1 (n_2 h1);have hm:=n_2 h3;simp[scv]at hm;subst hm;exact .pure (.val _)
  .cases hb:br.length with
   |zero=>exact .inl ⟨O,O⟩
   |succ m=>exact .inr ⟨t,u,O,O,h3⟩) (.cons (.map h2) .nil)))))
theorem a9R{t:Nat}(h1:q1<L)(h2:q2<L)(h3:t<L):G7 L (wbx fl nn va br q1 q2 t):=A0 ⟨a1t _ _ _,.val _,.map h1,.list (λi j r c h h'=>by
 obtain⟨y,_,rfl⟩:=H9.1 (n_2 h);have hm:=n_2 h';simp[scv]at hm;subst hm;exact .val _) (λk hk=>by
  cases hb:br.length with
  |zero=>rw[hb]at hk;cases hk
  |succ m=>rw[hb]at hk;injection hk with hk;omega),.map h2,D⟩
theorem Y9(n:Nat)(m:SM):G7 n (smO m):=b5b a7s a4C n m
theorem Z2(n:Nat)(m:EM):G7 n (emO m):=b5b Nm.pure En.pure n m
theorem b1u(eH:τ=wbx fl nn va br 1 2 3::smO ms::emO me::p7 br.length::rest)(hc:D5 4 [0,1,2,3] c c'):F7 4 τ (.ret c) (.ret c') (wst fl nn va br ms me):=by
 subst eH;exact⟨[0,1,2,3],O,O,.ret hc,.inr ⟨_,O,.same O (a9R U U U)⟩,.inr ⟨_,O,.same O (Y9 _ _)⟩,.inr ⟨_,O,.same O (Z2 _ _)⟩,.inr ⟨_,O,.same O F0⟩,D⟩
theorem c1G{w t:Nat}(h:WAt σ w q1 q2 t fl nn va br ms me):∀(i k:Nat) (ob:b9),[w,q1,q2,t][i]?=some k->(wst fl nn va br ms me)[i]?=some ob->∃aG,[wbx fl nn va br q1 q2 t,smO ms,emO me,p7 br.length][i]?=some aG/\σ[k]?=some aG/\I5 (λi k=>[w,q1,q2,t][i]?=some k) ob aG:=λi k ob h1 h2=>by
 rcases i with _|_|_|_|i
 .injection h1 with h1;injection h2 with h2;subst h1 h2;exact⟨_,O,h.hw,a91 O O O⟩
 .injection h1 with h1;injection h2 with h2;subst h1 h2;exact⟨_,O,h.hs,a3N a7s a4C _⟩
 .injection h1 with h1;injection h2 with h2;subst h1 h2;exact⟨_,O,h.he,a3N Nm.pure En.pure _⟩
 .injection h1 with h1;injection h2 with h2;subst h1 h2;exact⟨_,O,h.ht,a1d _⟩
 .cases h1
theorem e0W{f:FuncId}{c:α->CV}(aq:∀a∈args,r9 a)(hc:∀a,r9 (c a))
 (h:b8 CC f (.ptr 0 0::args) (wst fl nn va br ms me) λr τ=>∃a,F7 4 τ r (.ret (c a)) (wst fl nn va br ms me)/\P a){σ:List b9}{w q1 q2 t:Nat}(au:WAt σ w q1 q2 t fl nn va br ms me):b8 CC f (.ptr w 0::args) σ λr τ=>∃a,r= .ret (c a)/\τ=σ/\P a:=
 a3I [w,q1,q2,t] hCC O au.nd (c1G au) (.cons (.ptr O) (L9 aq)) (λa _=>hc a) (N3 hCC (h.mono λ_ _ ⟨a,h1,h2⟩=>⟨_,_,h1,a,O,O,h2⟩))
theorem d4j{f:FuncId}(aq:∀a∈args,r9 a)(hc:r9 c)
 (h:b8 CC f (.ptr 0 0::args) (wst fl nn va br ms me) λr τ=>F7 4 τ r (.ret c) (wst fl nn va br ms me)){σ:List b9}{w q1 q2 t:Nat}(au:WAt σ w q1 q2 t fl nn va br ms me):b8 CC f (.ptr w 0::args) σ λr τ=>r= .ret c/\τ=σ:=
 (e0W (α:=Unit) (c:=λ_=>c) (P:=λ_=>True) aq (λ_=>hc) (h.mono λ_ _ hh=>⟨(),hh,D⟩) au).mono λ_ _ ⟨_,h1,h2,_⟩=>⟨h1,h2⟩
def a2e(me:EM)(x:En):EM:=J5 me (D4 x.k x.p x.o) (match glk me (D4 x.k x.p x.o)with|some f=>{f with ct:=f.ct+1} |none=>x)
def C3(va:Bool)(me:EM)(k:Int)(p o:I):En:=if va=true then(match glk me (D4 k p o)with|some x=>x|none=>⟨(D4 k p o).p,o,k,[],0,0⟩)else En.z
def o8(fl:List Fi)(s:I):Option I:=(fl.find? λf=>decide (f.p=s)).map Fi.b
theorem b0T{l:List Fi}{v:Fi}(h:l[i]?=some v)(s:I):o8 (l.drop i) s=if v.p=s then some v.b else o8 (l.drop (i+1)) s:=by
 obtain⟨ah,rfl⟩:=n_3.1 h;rw[U5 ah];unfold o8;rw[b5N];by_cases hh:l[i].p=s
 .simp [hh]
 .simp [hh]
theorem c4A(fl:List Fi)(nn va:Bool)(br:List I)(ms:SM)(me:EM)(x:En)(eM:∀k e,glk me k=some e->0<=e.ct/\e.ct<=1000000):b8 CC 103 [.ptr 0 0,.agg x.cells] (wst fl nn va br ms me) λr τ=>F7 4 τ r (.ret (.tup [])) (wst fl nn va br ms (a2e me x)):=by
 refine cO Tryz.func103 ?_;refine b5k ?_;refine a7B ?_;refine cY a9b ?_;refine cY V3 ?_;refine cY b7d ?_;refine cY U0 ?_;refine cY b7d ?_;refine cY U0 ?_;refine yc O Tryz.call133 B7 (b6w x.k x.p x.o _) ?_;refine d4f ?_;refine a4f ?_;refine d4V ?_;refine b3u ?_;refine chf O (c7 O b3E) ?_;refine chf O (c7 O b3k) ?_;refine chf O (c7 O b24) ?_;refine chf O (c7 O e0c) ?_;refine chf O U7 ?_;refine chf O b06 ?_;refine chf O b06 ?_;refine c9S ?_;refine⟨⟨G3,a82,(by exact c7 O b3E),(by exact c7 O b3k),(by exact c7 O b24),(by exact c7 O e0c),G3,a4t,a4t,D⟩,?_⟩;refine d5W ?_;refine c5q ?_;refine z_3 ?_;refine A6 ?_;refine cC ?_ ?_<;>intro h1
 .obtain ⟨e,he⟩:∃e,glk me (D4 x.k x.p x.o)=some e:=c0C.1 h1;have aR:=eM _ _ he;rw[he];have hle2:0<=((some e).getD En.z).ct/\((some e).getD En.z).ct<=1000000:=aR;refine z_0 ?_;refine cY b05 ?_;refine d2b ?_;refine C6 ?_;refine cY a9b ?_;refine cY V3 ?_;refine cY r6 ?_;refine cY a9b ?_;refine cD (i9 O D D O j3 t_1 (.inl O) O O (nb O) ?_);refine A6 ?_;refine cW 6 ?_;refine a3X ?_;refine hY b3E ?_;refine hY b3k ?_;refine hY b24 ?_;refine hY b05 ?_;refine a1m ?_;refine cD (j9 (vc:=vcE) (l:=me) (a:=(D4 x.k x.p x.o)) (b:={e with ct:=e.ct+1}) d1e (.inl rfl) D D trivial rfl rfl rfl c1e rfl ?_);refine A6 ?_;exact⟨_,rE0,(by have ha:a2e me x=J5 me (D4 x.k x.p x.o) {e with ct:=e.ct+1}:=(by rw[a2e,he]);exact b1u (by rw[ha];rfl) (.old (Old.tup (λi c h=>by cases h))))⟩
 .have he:glk me (D4 x.k x.p x.o)=none:=H h1;refine D8 ?_;refine cW 6 ?_;refine a3X ?_;refine hY b3E ?_;refine hY b3k ?_;refine hY b24 ?_;refine hY b05 ?_;refine a1m ?_;refine cD (j9 (vc:=vcE) (l:=me) (a:=(D4 x.k x.p x.o)) (b:=x) d1e (.inl O) D D trivial O O O c1e O ?_);refine A6 ?_;exact⟨_,rE0,(by have ha:a2e me x=J5 me (D4 x.k x.p x.o) x:=(by rw[a2e,he]);exact b1u (by rw[ha];rfl) (.old (Old.tup (λi c h=>by cases h))))⟩
theorem c6B(fl:List Fi)(nn va:Bool)(br:List I)(ms:SM)(me:EM)(k:Int)(p o:I):b8 CC 90 [.ptr 0 0,iv k,(sv p),(sv o)] (wst fl nn va br ms me) λr τ=>F7 4 τ r (.ret (.agg (C3 va me k p o).cells)) (wst fl nn va br ms me):=by
 refine cO Tryz.func90 ?_;refine z_0 ?_;refine cD (l8 O a4r O j1 ?_);refine a4f ?_;refine a6O ?_;refine d4b ?_;refine a67 ?_;refine cC ?_ ?_<;>intro h1
 .have hv:va=false:=H h1;refine z_0 ?_;refine cY d3C ?_;refine d2b ?_;refine c6 ?_;exact⟨_,C4 O c3d,(by rw[C3,G (by rw[hv];decide)];exact b1u O (.old (c:=.agg En.z.cells) (En.pure _).old))⟩
 .have hv:va=true:=H h1;refine D8 ?_;refine z_3 ?_;refine cY A3 ?_;refine cY A3 ?_;refine yc O Tryz.call133 B7 (b6w k p o _) ?_;refine d4f ?_;refine a4f ?_;refine d4V ?_;refine b3u ?_;refine chf O (c7 O b3E) ?_;refine chf O (c7 O b3k) ?_;refine chf O (c7 O b24) ?_;refine chf O (c7 O d8B) ?_;refine chf O U7 ?_;refine chf O b06 ?_;refine chf O b06 ?_;refine c9S ?_;refine⟨⟨G3,a82,(by exact c7 O b3E),(by exact c7 O b3k),(by exact c7 O b24),(by exact c7 O d8B),G3,a4t,a4t,D⟩,?_⟩;refine d5W ?_;refine c5q ?_;refine z_3 ?_;refine A6 ?_;refine cC ?_ ?_<;>intro h2
  .obtain ⟨e,he⟩:∃e,glk me (D4 k p o)=some e:=c0C.1 h2;rw[he];refine z_0 ?_;refine cY b05 ?_;refine d2b ?_;refine c6 ?_;exact⟨_,C4 O c3d,(by rw[C3,W hv,he];exact b1u O (.old (c:=.agg e.cells) (En.pure _).old))⟩
  .have he:glk me (D4 k p o)=none:=H h2;refine D8 ?_;refine z_0 ?_;refine cY (j2 O D O c7Z O t_0 U) ?_;refine cY U0 ?_;refine cY A3 ?_;refine cY A3 ?_;refine cY d9W ?_;refine d2b ?_;refine c6 ?_;exact⟨_,C4 O c3d,(by rw[C3,W hv,he];exact b1u O (.old (c:=.agg (⟨(D4 k p o).p,o,k,[],0,0⟩:En).cells) (En.pure _).old))⟩
theorem c7U(fl:List Fi)(nn va:Bool)(br:List I)(ms:SM)(me:EM)(s:I)(cl:fl.length<=1000000):b8 CC 110 [.ptr 0 0,(sv s)] (wst fl nn va br ms me) λr τ=>F7 4 τ r (.ret (.tup [sv ((o8 fl s).getD []),.val (.bool (o8 fl s).isSome)])) (wst fl nn va br ms me):=by
 refine qO Tryz.func110 ?_;refine V a2r ?_;refine m0 hCC (α:=Nat) (λi=>[(1,(sv s)),(12,(.list (fl.map Fi.cv) nn none)),(13,iv fl.length),(14,iv i)]) (λ_=>(wst fl nn va br ms me)) (λi=>i<=fl.length/\o8 fl s=o8 (fl.drop i) s) (λi=>fl.length -i) 0 ⟨n_4 _,O⟩ tu_ (aj:=[]) O A7 uz_ ?_;intro i ⟨hi,hr⟩;refine qk (qC ?_ ?_)<;> intro h1
 .have ah:(i:Int)<fl.length:=H h1;obtain⟨y,hb⟩:=gx_ fl i;rw[b0T hb]at hr;refine b3B ?_;refine qC ?_ ?_<;>intro h2
  .have u2:y.p=s:=H h2;rw[W u2]at hr;refine c6 ?_;exact⟨_,r8 (rs:=[.tmp 4,.tmp 5]) (cs:=[_,_]) O a2w (n_5 O),(by rw[hr];exact b1u O (.old (c:=.tup [sv y.b,.val (.bool true)]) (r9.old (.tup (λc hc=>by simp at hc;rcases hc with rfl|rfl<;>exact .val _)))))⟩
  .have u2:¬y.p=s:=H h2;rw[G u2]at hr;exact b0P
 .have aH:fl.length<=i:=sm_ h1;rw[U4 aH]at hr;refine W5 ?_;exact⟨_,r8 (rs:=[.tmp 4,.tmp 5]) (cs:=[_,_]) O a2w (n_5 O),(by rw[hr];exact b1u O (.old (c:=.tup [sv [],.val (.bool false)]) (r9.old (.tup (λc hc=>by simp at hc;rcases hc with rfl|rfl<;>exact .val _)))))⟩
def addDs(me:EM)(path pkg:I):List De->Nat->EM
 | [],_=>me
 |d::ds,k=>addDs (a2e me ⟨pkg,d.name,d.k,path,(k:Int),1⟩) path pkg ds (k+1)
abbrev WS:=List I×SM×EM
def Y6(s:WS)(f:Fi):WS:=if a38 f.p=true then(match O9 f.b with|none=>(s.1++[f.p],s.2.1,s.2.2)|some x=>(s.1,J5 s.2.1 f.p x,addDs s.2.2 f.p x.pkg x.decls 0))else s
def a60(fl:List Fi)(s:WS):WS:=fl.foldl Y6 s
def F5(fl:List Fi):WS:=if B1 fl=0 then a60 fl ([],[],[])else([],[],[])
def CtB(n:Nat)(me:EM):Prop:=∀k e,glk me k=some e->0<=e.ct/\e.ct<=(n:Int)
theorem CtB.add(h:CtB n me){x:En}(hx:x.ct=1):CtB (n+1) (a2e me x):=λk e he=>by
 rw[a2e,I8]at he;split at he
 .injection he with he
  subst he;cases hg:glk me (D4 x.k x.p x.o)with
  |none=>simp only;omega
  |some f=>have:=h _ _ hg;simp only;omega
 .have:=h _ _ he;omega
theorem CtB.nil(n:Nat):CtB n []:=λk e h=>by cases h
theorem CtB.mono(h:CtB n me)(cw:n<=m):CtB m me:=λk e he=>by have:=h k e he;omega
theorem a3G{path pkg:I}{l:List De}{k:Nat}{d:De}(h:l[k]?=some d):addDs me path pkg (l.drop k) k=addDs (a2e me ⟨pkg,d.name,d.k,path,(k:Int),1⟩) path pkg (l.drop (k+1)) (k+1):=by
 obtain⟨ah,rfl⟩:=n_3.1 h;rw[U5 ah,addDs]
theorem c3R{l:List Fi}{f:Fi}(h:l[i]?=some f)(s:WS):a60 (l.drop i) s=a60 (l.drop (i+1)) (Y6 s f):=by
 obtain⟨ah,rfl⟩:=n_3.1 h;unfold a60;rw[U5 ah,List.foldl_cons]
theorem c2c:∀{pv:Option Fi} {l:List Fi},rvE pv l=0->∀f∈l,E9 f.p=true/\f.b.length<=16384
 |_,[],_,f,h=>by cases h
 |pv,x::l,h0,f,h=>by
  rw[rvE]at h0;split at h0
  .rename_i hs
   rcases J6.1 h with rfl|h
   .unfold I6 at hs;split at hs
    .cases hs
    .rename_i hp;split at hs
     .cases hs
     .split at hs
      .cases hs
      .split at hs
       .cases hs
       .exact ⟨H hp,J⟩
   .exact c2c h0 f h
  .rename_i hs;exact absurd h0 hs
theorem a78{l:List Fi}(h:B1 l=0):l.length<=64/\∀f∈l,E9 f.p=true/\f.b.length<=16384:=by
 unfold B1 at h;split at h
 .cases h
 .exact ⟨J,c2c h⟩
theorem b1Q:∀(f:Nat) {T:List Tok} {n:Nat} {l:List De} {x:List De×Nat},R9 f T n l=some x->x.1.length+1<=l.length+f
 |0,T,n,l,x,h=>by cases h
 |f+1,T,n,l,x,h=>by
  rw[R9]at h;split at h
  .injection h with h;subst h;simp only;omega
  .cases hd:a0G T l n with
   |none=>rw[hd]at h;cases h
   |some y=>
    rw[hd,n_7]at h;have:=b1Q f h;rw[n_8,b6I]at this;omega
theorem b2P{x:Src}(h:a09 T=some x):x.decls.length<=64:=by
 unfold a09 at h;cases h1:pIs T 0 1 [112,97,99,107,97,103,101]with
 |none=>rw[h1]at h;cases h
 |some n1=>
  rw[h1,n_7]at h;cases h2:J3 T n1 with
  |none=>rw[h2]at h;cases h
  |some w=>
   rw[h2,n_7]at h;cases h3:pIs T w.2 4 [59]with
   |none=>rw[h3]at h;cases h
   |some n2=>
    rw[h3,n_7]at h;cases h4:a1o 9 T w.1.t n2 []with
    |none=>rw[h4]at h;cases h
    |some y=>
     rw[h4,n_7]at h;cases h5:R9 65 T y.2 []with
     |none=>rw[h5]at h;cases h
     |some z=>
      rw[h5,n_7]at h;injection h with h
      subst h;have:=b1Q _ h5;simp only[R1]at this⊢;omega
theorem b99{x:Src}(h:O9 s=some x):x.decls.length<=64:=by
 unfold O9 at h;cases h1:a2P s with
 |none=>rw[h1]at h;cases h
 |some T=>rw[h1,n_7]at h;exact b2P h
theorem c9d{w t:Nat}(au:WAt σ w q1 q2 t fl nn va br ms me)(x:En)(eM:∀k e,glk me k=some e->0<=e.ct/\e.ct<=1000000):b8 CC 103 [.ptr w 0,.agg x.cells] σ λr τ=>∃_:Unit,r= .ret (.tup [])/\τ=a8i σ [w,q1,q2,t] [wbx fl nn va br q1 q2 t,smO ms,emO (a2e me x),p7 br.length]/\True:=
 a3W (α:=Unit) (obs:=wst fl nn va br ms me) (res:=λ_=>.ret (.tup [])) (res':=λ_=>.ret (.tup [])) (S:=λ_=>wst fl nn va br ms (a2e me x)) (S':=λ_=>[wbx fl nn va br q1 q2 t,smO ms,emO (a2e me x),p7 br.length]) (P:=λ_=>True) [w,q1,q2,t] hCC O au.nd (λi k ob h1 h2=>by
  obtain⟨aG,_,h3,h4⟩:=c1G au i k ob h1 h2;exact⟨aG,h3,h4.symm λ_ _ h=>h⟩) (.cons (.ptr O) (L9 λa ha=>by simp at ha;subst ha;exact En.pure x)) (N3 hCC ((c4A fl nn va br ms me x eM).mono λr τ h=>⟨_,_,h,(),O,O,D⟩)) W9 (λ_ i k y h1 h2=>by
  rcases i with _|_|_|_|i
  .injection h2 with h2;subst h2;exact⟨_,O,a91 O O O⟩
  .injection h2 with h2;subst h2;exact⟨_,O,a3N a7s a4C _⟩
  .injection h2 with h2;subst h2;exact⟨_,O,a3N Nm.pure En.pure _⟩
  .injection h2 with h2;subst h2;exact⟨_,O,a1d _⟩
  .cases h2) λ_=>.ret (.pure (B3 trivial))
theorem d1q(fl:List Fi)(nn:Bool)(hl:∀f∈fl,f.p.length<=1000000000):b8 CC 56 [.agg (A9 fl nn)] [] λr τ=>F7 0 τ r (.ret (.ptr 0 0)) (wst fl nn (B1 fl == 0) (F5 fl).1 (F5 fl).2.1 (F5 fl).2.2):=by
 refine cO Tryz.func56 ?_;refine b5k ?_;refine cY a54 ?_;refine A6 ?_;refine a7x hCC 1 O (α:=Unit) (λ_=>[(1,.ptr 0 0),(3,.ptr 3 0)]) (λ_=>[.box (A9 fl nn),.map [],.map [],.box [.list (fl.map Fi.cv) nn none,.val (.bool (B1 fl == 0)),.map 1,.list [] false none,.map 2]]) (λ_=>True) ?_ λ_ _=>?_
 .refine c0Y [0,0,2,6,0,0,63,127,255] [0,1,2,3] (f:=5) D7 D7 O ?_;refine chf O a7J ?_;refine chf O a7J ?_;refine chf O (c7 O c28) ?_;refine chf O (c7 O a1s) ?_;refine G4 ?_;refine d1t (i:=4) (i':=5) D7 O O O O (Q4 O ?_) (Q4 O ?_)
  .refine ⟨⟨λ_=>by exact c7 O a2B,λ_=>by exact c7 O a2B,λ_=>by exact c7 O c28,λ_=>by exact c7 O a1s,D⟩,?_⟩;refine b1X (i:=5) D7 O O (Q4 O ?_);refine d9q ?_;refine d4k ?_;refine d6R (i:=8) D7 O a9f ?_;exact⟨by kernel_rfl,(),[0,1,2,3],D,⟨O,O⟩,⟨⟨D,.ptr O⟩,⟨D,.ptr O⟩,D⟩,.inr ⟨_,O,.same O P6⟩,.inr ⟨_,O,.same O (λx hx=>by cases hx)⟩,.inr ⟨_,O,.same O (λx hx=>by cases hx)⟩,.inr ⟨_,O,.box ⟨.old a0A,.old (.val _),.map O,.old a2u,.map O,D⟩⟩,D⟩
  .refine ⟨⟨λ_=>by exact c7 O a2B,λ_=>by exact c7 O a2B,λ_=>by exact c7 O c28,λ_=>by exact c7 O a1s,D⟩,?_⟩;refine b1X (i:=4) D7 O O (Q4 O ?_);refine d9q ?_;refine d4k ?_;refine d6R (i:=8) D7 O a9f ?_;exact⟨by kernel_rfl,(),[0,2,1,3],D,⟨O,O⟩,⟨⟨D,.ptr O⟩,⟨D,.ptr O⟩,D⟩,.inr ⟨_,O,.same O P6⟩,.inr ⟨_,O,.same O (λx hx=>by cases hx)⟩,.inr ⟨_,O,.same O (λx hx=>by cases hx)⟩,.inr ⟨_,O,.box ⟨.old a0A,.old (.val _),.map O,.old a2u,.map O,D⟩⟩,D⟩
 refine J2 ?_;refine a6O ?_;refine d4b ?_;refine a67 ?_;refine cC ?_ ?_<;>intro h1
 .have hv:¬B1 fl=0:=H h1;refine z_3 ?_;refine b1l ?_;exact⟨_,rE1,(by rw[F5,G hv];exact⟨[3,1,2,9],O,O,.ret (.ptr O),.inr ⟨_,O,.box ⟨.old a0A,.old (.val _),.map O,.old a2u,.map O,D⟩⟩,.inr ⟨_,O,.same O (Y9 _ _)⟩,.inr ⟨_,O,.same O (Z2 _ _)⟩,.inl O,D⟩)⟩
 .have hv:B1 fl=0:=H h1;obtain⟨cl,hfa⟩:=a78 hv;have ai:F5 fl=a60 fl ([],[],[]):=by rw[F5,W hv]
  refine b8W ?_;refine z_0 ?_;refine cY (j2 O D O Tryz.runUnderlying32 O c8i U) ?_;refine cY (o5 O D O Tryz.isAgg30 O O) ?_;refine cY a2r ?_;refine b8w ?_;refine C5 hCC 4 O (α:=Nat×WS) (λx=>[(3,.ptr 3 0),(26,(.list (fl.map Fi.cv) nn none)),(27,iv fl.length),(28,iv x.1)]) (λx=>[.box (A9 fl nn),smO x.2.2.1,emO x.2.2.2,wbx fl nn (B1 fl == 0) x.2.1 1 2 4,p7 x.2.1.length]) (λx=>x.1<=fl.length/\x.2.1.length<=x.1/\CtB (64*x.1) x.2.2.2/\F5 fl=a60 (fl.drop x.1) x.2) (λx=>fl.length -x.1) ⟨(0,[],[],[]),[0,1,2,3,9],⟨n_4 _,n_4 _,CtB.nil _,ai⟩,⟨O,O⟩,ut_,⟨.inr ⟨_,O,.same O P6⟩,.inr ⟨_,O,.same O (Y9 _ _)⟩,.inr ⟨_,O,.same O (Z2 _ _)⟩,.inr ⟨_,O,.box ⟨.old a0A,.old (.val _),.map O,.old a2u,.map O,D⟩⟩,.inl O,D⟩⟩ ?_;intro⟨i,br,ms,me⟩ ⟨hi,hbr,eM,hr⟩;dsimp only at hi hbr eM hr⊢;refine z_0 ?_;refine b5I ?_;refine cC ?_ ?_<;>intro h2
  .have ah:(i:Int)<fl.length:=H h2;obtain⟨y,hb⟩:=gx_ fl i;have hy:=hfa y (n_2 hb);have fT:=hl y (n_2 hb);rw[c3R hb,Y6]at hr;refine b7D ?_;refine z_0 ?_;refine cY d5e ?_;refine cY (Y7 O D O Tryz.isAgg54 a9v (nb O)) ?_;refine cD (l8 O b0E O j1 ?_);refine cD (i9 O D D O j3 a9v j1 O O (nb O) ?_);refine a4f ?_;refine z_0 ?_;refine cY c2Y ?_;refine cY U0 ?_;refine yc O Tryz.call101 ⟨D,D⟩ (b2a y.p fT _) ?_;refine a67 ?_;refine cC ?_ ?_<;>intro h3
   .have u3:¬a38 y.p=true:=H h3;rw[G u3]at hr;refine l9 ?_;refine a8P ?_;exact⟨(i+1,br,ms,me),[0,1,2,3,4],⟨do_,do_,do_,eM.mono J,hr⟩,⟨O,O⟩,ut_,⟨.inr ⟨_,O,.same O P6⟩,.inr ⟨_,O,.same O (Y9 _ _)⟩,.inr ⟨_,O,.same O (Z2 _ _)⟩,.inr ⟨_,O,.box ⟨.old a0A,.old (.val _),.map O,D5.grow (f:=scv) (λ_=>⟨.val _,D⟩) O,.map O,D⟩⟩,.inr ⟨_,O,.same O F0⟩,D⟩⟩
   .have u3:a38 y.p=true:=H h3;rw[W u3]at hr;refine D8 ?_;refine z_0 ?_;refine cY c2Y ?_;refine cY U0 ?_;refine de O Tryz.call102 ⟨D,D⟩ (c6V y.b J _) O ?_;rintro⟨x,at_,e⟩ hP;dsimp only at hP⊢;refine cY A3 ?_;refine cY a08 ?_;refine cY a08 ?_;refine cY a08 ?_;refine cD (l8 O a4S O j1 ?_);refine cD (i9 O D D O j3 t_8 j1 O O (nb O) ?_);refine cY a2Z ?_;refine b3r ?_;refine z_3 ?_;refine a8b ?_;refine cC ?_ ?_<;>intro h4
    .have he:e≠0:=H h4;have ba:O9 y.b=none:=by
      rcases hP with⟨_,_,g⟩|⟨g,_⟩
      .exact absurd g he
      .exact g
     rw[ba]at hr;simp only at hr;have eJ:=X5 br y.p;refine J2 ?_;refine cF [] [0,1,2,3,4,5,6,7] (tl:=[(8,[0]),(9,[]),(10,[]),(11,[])]) ?_;refine a5R ?_;refine chf O b3m ?_;refine chf O (c7 O (j2 O D O c4U O a2E U)) ?_;refine chf O c7R ?_;refine b7o ?_;refine chf O d9O ?_;refine G4 ?_;refine B9 O O O (D6 O D D O Q q_3 t_2 t_0 a5W t_4 O (.inr O) q_8 a5O G0 ((br++[y.p]).map scv) (br++[y.p]).length Q Q ?_);refine c9o ?_;refine E8 O O (c7 O (j2 O D O c4U O a2E U)) ⟨D,?_⟩;refine B9 O O O (i9 O D D O j3 a2E (.inl O) O O (nb O) ?_);refine a8r ?_;refine l9 ?_;refine a8P ?_;exact⟨(i+1,br++[y.p],ms,me),[0,1,2,3,7],⟨do_,do_,do_,eM.mono J,hr⟩,⟨O,O⟩,ut_,⟨.inr ⟨_,O,.same O P6⟩,.inr ⟨_,O,.same O (Y9 _ _)⟩,.inr ⟨_,O,.same O (Z2 _ _)⟩,.inr ⟨_,O,.box ⟨.old a0A,.old (.val _),.map O,D5.grow (f:=scv) (λ_=>⟨.val _,D⟩) O,.map O,D⟩⟩,.inr ⟨_,O,.same O F0⟩,D⟩⟩
    .have he:e=0:=H h4;have ba:O9 y.b=some x:=by
      rcases hP with⟨g,_⟩|⟨_,_,g⟩
      .exact g
      .exact absurd he g
     rw[ba]at hr;simp only at hr;have gE:=b99 ba;refine b8W ?_;refine cW 7 ?_;refine a3X ?_;refine hY c1m ?_;refine hY c2p ?_;refine hY c2Y ?_;refine hY U0 ?_;refine hY b7K ?_;refine a1m ?_;refine cD (j9 (vc:=vcS) (l:=ms) (a:=y.p) (b:=x) b8e (.inl O) D D trivial O O O c7i O ?_);refine a7B ?_;refine cY b7b ?_;refine cY b7Q ?_;refine cY a4k ?_;refine b8w ?_;refine C5 hCC 7 O (α:=Nat×EM) (λz=>[(3,.ptr 3 0),(26,(.list (fl.map Fi.cv) nn none)),(27,iv fl.length),(28,iv i),(5,.ptr 5 0),(6,.ptr 6 0),(64,(.list (x.decls.map De.cv) (gnn x.decls.length) none)),(65,iv x.decls.length),(66,iv z.1)]) (λz=>[.box (A9 fl nn),smO (J5 ms y.p x),emO z.2,wbx fl nn (B1 fl == 0) br 1 2 4,p7 br.length,.box y.cells,.box x.cells]) (λz=>z.1<=x.decls.length/\CtB (64*i+z.1) z.2/\addDs me y.p x.pkg x.decls 0=addDs z.2 y.p x.pkg (x.decls.drop z.1) z.1) (λz=>x.decls.length -z.1) ⟨(0,me),[0,1,2,3,4,5,6],⟨n_4 _,eM,O⟩,⟨O,O⟩,ut_,⟨.inr ⟨_,O,.same O P6⟩,.inr ⟨_,O,.same O (Y9 _ _)⟩,.inr ⟨_,O,.same O (Z2 _ _)⟩,.inr ⟨_,O,.box ⟨.old a0A,.old (.val _),.map O,D5.grow (f:=scv) (λ_=>⟨.val _,D⟩) O,.map O,D⟩⟩,.inr ⟨_,O,.same O F0⟩,.inr ⟨_,O,.same O b0r⟩,.inr ⟨_,O,.same O (A0 ⟨.val _,B8 _ _ _,K9 _ _ _,D⟩)⟩,D⟩⟩ ?_;intro⟨k,me2⟩ ⟨hk,hct2,bq⟩;dsimp only at hk hct2 bq⊢;refine z_0 ?_;refine b5I ?_;refine cC ?_ ?_<;>intro h5
     .have ge:(k:Int)<x.decls.length:=H h5;obtain⟨d,hd⟩:=gx_ x.decls k;rw[a3G hd]at bq;refine b7D ?_;refine z_3 ?_;refine cY b5Q ?_;refine cY d0n ?_;refine cD (l8 O b2l O j1 ?_);refine cY a2Z ?_;refine c8D ?_;refine a8t ?_;refine cY b5P ?_;refine cY U0 ?_;refine cY c6D ?_;refine cY U0 ?_;refine cY b2H ?_;refine cY V3 ?_;refine cY c2Y ?_;refine cY U0 ?_;refine cY A3 ?_;refine cY (B2 #[(0,1),(1,1),(2,1),(3,1),(4,1),(5,1)] O ⟨D,D,D,D,D,O,D⟩ b6y a4r O ⟨_,O⟩ (λw=>by kernel_rfl) O O) ?_;refine de O Tryz.call103 j7 (c9d (w:=3) (q1:=1) (q2:=2) (t:=4) ⟨O,O,O,O,a3v U⟩ ⟨x.pkg,d.name,d.k,y.p,(k:Int),1⟩ (λa b h=>by have:=hct2 a b h;omega)) O ?_;rintro _ _;refine G8 [.box (A9 fl nn),smO (J5 ms y.p x),emO (a2e me2 ⟨x.pkg,d.name,d.k,y.p,(k:Int),1⟩),wbx fl nn (B1 fl == 0) br 1 2 4,p7 br.length,.box y.cells,.box x.cells,.box d.cells] O ?_;refine A6 ?_;refine a8P ?_;exact⟨(k+1,a2e me2 ⟨x.pkg,d.name,d.k,y.p,(k:Int),1⟩),[0,1,2,3,4,5,6],⟨do_,do_,(hct2.add O).mono J,bq⟩,⟨O,O⟩,ut_,⟨.inr ⟨_,O,.same O P6⟩,.inr ⟨_,O,.same O (Y9 _ _)⟩,.inr ⟨_,O,.same O (Z2 _ _)⟩,.inr ⟨_,O,.box ⟨.old a0A,.old (.val _),.map O,D5.grow (f:=scv) (λ_=>⟨.val _,D⟩) O,.map O,D⟩⟩,.inr ⟨_,O,.same O F0⟩,.inr ⟨_,O,.same O b0r⟩,.inr ⟨_,O,.same O (A0 ⟨.val _,B8 _ _ _,K9 _ _ _,D⟩)⟩,D⟩⟩
     .have ge:x.decls.length<=k:=sm_ h5;rw[U4 ge,addDs]at bq;refine l9 ?_;refine a8P ?_;exact⟨(i+1,br,J5 ms y.p x,me2),[0,1,2,3,4],⟨do_,do_,do_,hct2.mono J,by rw[hr,bq]⟩,⟨O,O⟩,ut_,⟨.inr ⟨_,O,.same O P6⟩,.inr ⟨_,O,.same O (Y9 _ _)⟩,.inr ⟨_,O,.same O (Z2 _ _)⟩,.inr ⟨_,O,.box ⟨.old a0A,.old (.val _),.map O,D5.grow (f:=scv) (λ_=>⟨.val _,D⟩) O,.map O,D⟩⟩,.inr ⟨_,O,.same O F0⟩,D⟩⟩
  .have aH:fl.length<=i:=sm_ h2;rw[U4 aH,a60,List.foldl_nil]at hr;refine l9 ?_;refine z_3 ?_;refine b1l ?_;exact⟨_,rE1,(by rw[hr];exact⟨[3,1,2,4],O,O,.ret (.ptr O),.inr ⟨_,O,.box ⟨.old a0A,.old (.val _),.map O,D5.grow (f:=scv) (λ_=>⟨.val _,D⟩) O,.map O,D⟩⟩,.inr ⟨_,O,.same O (Y9 _ _)⟩,.inr ⟨_,O,.same O (Z2 _ _)⟩,.inr ⟨_,O,.same O F0⟩,D⟩)⟩
abbrev d7v(fl:List Fi)(nn va:Bool)(br:List I)(ms:SM)(me:EM)(n:Nat):List b9:=[wbx fl nn va br (n+1) (n+2) (n+3),smO ms,emO me,p7 br.length]
theorem c7H(fl:List Fi)(nn:Bool)(hl:∀f∈fl,f.p.length<=1000000000)(σ:List b9):b8 CC 56 [.agg (A9 fl nn)] σ λr τ=>∃_:Unit,r= .ret (.ptr σ.length 0)/\τ=σ++d7v fl nn (B1 fl == 0) (F5 fl).1 (F5 fl).2.1 (F5 fl).2.2 σ.length/\True:=
 a6F (α:=Unit) hCC (λa ha=>by simp at ha;subst ha;exact j4 ⟨B6 _ _,D⟩) (res:=λ_=>.ret (.ptr 0 0)) (res':=λ_ n=>.ret (.ptr n 0)) (S:=λ_=>wst fl nn (B1 fl == 0) (F5 fl).1 (F5 fl).2.1 (F5 fl).2.2) (S':=λ_ n=>d7v fl nn (B1 fl == 0) (F5 fl).1 (F5 fl).2.1 (F5 fl).2.2 n) (P:=λ_=>True) (N3 hCC ((d1q fl nn hl).mono λr τ h=>⟨_,_,h,(),O,O,D⟩)) (λ_ _=>O) (λ_ n i x h=>by
  rcases i with _|_|_|_|i
  .injection h with h;subst h;exact⟨_,O,a91 O O O⟩
  .injection h with h;subst h;exact⟨_,O,a3N a7s a4C _⟩
  .injection h with h;subst h;exact⟨_,O,a3N Nm.pure En.pure _⟩
  .injection h with h;subst h;exact⟨_,O,a1d _⟩
  .cases h) (λ_ n=>.ret (.ptr O)) σ
theorem b7w(s:I)(a:Nat)(ks:List Int):sub s a (A4 s a ks)=(s.drop a).takeWhile (inK ks):=by
 unfold sub A4;rw[List.drop_take,c9f];have h:=List.takeWhile_prefix (inK ks) (l:=s.drop a);exact(List.prefix_iff_eq_take.1 h).symm
theorem c3w{b:UInt8}(hb:s[a]?=some b)(hk:j8 b.toNat=1)(hl:¬24<A4 s a [1,2,3] -a):B5 (sub s a (A4 s a [1,2,3]))=true:=by
 have am:(sub s a (A4 s a [1,2,3])).length=A4 s a [1,2,3] -a:=by
  rw[b7w];unfold A4;omega
 rw[b7w]at am⊢;obtain⟨ah,rfl⟩:=n_3.1 hb;have aK:((s.drop a).takeWhile (inK [1,2,3])).all (inK [1,2,3])=true:=a2d.2 λc hc=>a1T hc;rw[U5 ah,b53,W (by simp[inK,hk])]at am aK⊢;unfold B5;simp only[O5,a1z];exact⟨⟨J,hk⟩,aK⟩
theorem d2C{b:UInt8}(hb:s[a]?=some b):((D1 s a b).1.k=1->B5 (D1 s a b).1.t=true)/\(D1 s a b).1.n<=9007199254740992:=by
 have z:((⟨0,[],0,0⟩:Tok).k=1->B5 (⟨0,[],0,0⟩:Tok).t=true)/\(⟨0,[],0,0⟩:Tok).n<=9007199254740992:=⟨λh=>absurd h U,U⟩;unfold D1
 split
 .rename_i hk
  split
  .exact z
  .rename_i hl;exact⟨λ_=>c3w hb hk hl,show(0:Int)<=9007199254740992 by decide⟩
 .split
  .split
   .exact z
   .rename_i hl;exact⟨λh=>absurd h (show ¬(2:Int)=1 by decide),show a4i _<=9007199254740992 by omega⟩
  .split
   .split
    .exact z
    .exact ⟨λh=>absurd h (show ¬(3:Int)=1 by decide),show(0:Int)<=9007199254740992 by decide⟩
   .split
    .split
     .exact ⟨λh=>absurd h (show ¬(4:Int)=1 by decide),show(0:Int)<=9007199254740992 by decide⟩
     .exact ⟨λh=>absurd h (show ¬(4:Int)=1 by decide),show(0:Int)<=9007199254740992 by decide⟩
    .exact z
theorem b3Y(s:I):∀(f i:Nat) (T:List Tok),a0E f s i=some T->∀t∈T,(t.k=1->B5 t.t=true)/\t.n<=9007199254740992
 |0,i,T,h=>by cases h
 |f+1,i,T,h=>by
  rw[a0E]at h;cases hb:s[A4 s i [5]]? with
  |none=>
   rw[hb]at h;injection h with h
   subst h;intro t ht;simp at ht;subst ht;exact⟨λh=>absurd h (show ¬(5:Int)=1 by decide),show(0:Int)<=9007199254740992 by decide⟩
  |some b=>
   rw[hb]at h;simp only at h;split at h
   .exact b3Y s f _ T h
   .split at h
    .cases h
    .cases hq:a0E f s (D1 s (A4 s i [5]) b).2.1.toNat with
     |none=>rw[hq]at h;cases h
     |some T'=>
      rw[hq]at h;simp only[b2Z,Option.some.injEq]at h;subst h;intro t ht
      rcases J6.1 ht with rfl|ht
      .exact d2C hb
      .exact b3Y s f _ T' hq t ht
theorem d0Q(h:a2P s=some T):TG T:=λi=>by
 have hc:=(b0s h).1.nn i;unfold a2P at h;split at h
 .cases h
 .rcases b9p (T:=T) i with h1|h1
  .have:=b3Y s _ _ T h _ h1;exact⟨this.1,hc.1,this.2⟩
  .rw [h1];exact⟨λh=>absurd h U,U,U⟩
theorem b3L{x:Ex}{w:Nat×List Ex}(h:X0 b x=some w)(hb:b.length<=256):w.2.length<=256:=by
 unfold X0 at h;split at h
 .cases h
 .injection h with h
  subst h;simp only[n_8,b6I];omega
theorem Y1{x:Ex}(h:L2 b x m=some y)(hb:b.length<=256):y.2.2.length<=256:=b3L (w:=(y.1,y.2.2)) (a27 h).1 hb
theorem c4e{F:PF}(hF:∀d n b x,b.length<=256->F.ex d n b=some x->x.2.2.length<=256)(hb:b.length<=256)(h:X2 T F u d n b=some y):y.2.2.length<=256:=by
 unfold X2 at h;obtain⟨n1,_,h⟩:=c8 h;split at h
 .obtain ⟨s,h1,h⟩:=c8 h;obtain⟨n2,_,h⟩:=c8 h;obtain⟨x,h3,h⟩:=c8 h;obtain⟨m,_,h⟩:=c8 h;exact Y1 h (hF _ _ _ _ hb h3)
 .split at h
  .obtain ⟨s,h1,h⟩:=c8 h;obtain⟨m,_,h⟩:=c8 h;exact Y1 h hb
  .split at h
   .obtain ⟨s,h1,h⟩:=c8 h;obtain⟨m,_,h⟩:=c8 h;exact Y1 h hb
   .split at h
    .obtain ⟨s,h1,h⟩:=c8 h;split at h
     .obtain ⟨m,_,h⟩:=c8 h;exact Y1 h hb
     .cases h
    .obtain ⟨s,h1,h⟩:=c8 h;split at h
     .cases h
     .obtain ⟨m,_,h⟩:=c8 h;exact Y1 h hb
theorem c02{T:List Tok}{ps:List I}:∀f:Nat,
 (∀d n b x,b.length<=256->(A1 T ps f).ex d n b=some x->x.2.2.length<=256) /\
 (∀lv d n b x,b.length<=256->(A1 T ps f).bin lv d n b=some x->x.2.2.length<=256) /\
 (∀d n b x,b.length<=256->(A1 T ps f).fac d n b=some x->x.2.2.length<=256) /\
 (∀lv d i n b x,b.length<=256->(A1 T ps f).lp lv d i n b=some x->x.2.2.length<=256) /\
 (∀d n b acc y,b.length<=256->(A1 T ps f).ag d n b acc=some y->y.2.2.length<=256)
 |0=>by
  refine⟨λd n b x _ h=>?_,λlv d n b x _ h=>?_,λd n b x _ h=>?_,λlv d i n b x _ h=>?_,λd n b acc y _ h=>?_⟩<;>cases h
 |f+1=>by
  obtain⟨hE,hB,hF,hL,hA⟩:=c02 (T:=T) (ps:=ps) f;refine⟨λd n b x hb h=>?_,λlv d n b x hb h=>?_,λd n b y hb h=>?_,λlv d i n b x hb h=>?_,λd n b acc y hb h=>?_⟩
  .change (F9 T ps (A1 T ps f)).ex d n b=some x at h;simp only[F9]at h;split at h
   .cases h
   .split at h
    .obtain ⟨x1,h1,h⟩:=c8 h;obtain⟨n2,_,h⟩:=c8 h;obtain⟨x2,h2,h⟩:=c8 h;obtain⟨n3,_,h⟩:=c8 h;obtain⟨x3,h3,h⟩:=c8 h;exact Y1 h (hE _ _ _ _ (hE _ _ _ _ (hE _ _ _ _ hb h1) h2) h3)
    .exact hB _ _ _ _ _ hb h
  .change (F9 T ps (A1 T ps f)).bin lv d n b=some x at h;simp only[F9]at h;split at h
   .exact hF _ _ _ _ hb h
   .obtain ⟨x1,h1,h⟩:=c8 h;exact hL _ _ _ _ _ _ (hB _ _ _ _ _ hb h1) h
  .change (F9 T ps (A1 T ps f)).fac d n b=some y at h;simp only[F9]at h;split at h
   .exact Y1 h hb
   .split at h
    .obtain ⟨s,h1,h⟩:=c8 h;exact Y1 h hb
    .split at h
     .obtain ⟨x1,h1,h⟩:=c8 h;obtain⟨m,_,h⟩:=c8 h;injection h with h
      subst h;exact hE _ _ _ x1 hb h1
     .split at h
      .cases h
      .split at h
       .exact c4e hE hb h
       .split at h
        .cases h
        .split at h
         .obtain ⟨a,h1,h⟩:=c8 h;unfold a2t at h1;obtain⟨n1,_,h1⟩:=c8 h1;refine Y1 h ?_;split at h1
          .injection h1 with h1
           subst h1;exact hb
          .exact hA _ _ _ _ _ hb h1
         .split at h
          .cases h
          .exact Y1 h hb
  .change (F9 T ps (A1 T ps f)).lp lv d i n b=some x at h;simp only[F9]at h;split at h
   .injection h with h
    subst h;exact hb
   .obtain ⟨y,h1,h⟩:=c8 h;obtain⟨w,h2,h⟩:=c8 h;have hw:=b3L h2 (hB _ _ _ _ _ hb h1);split at h
    .injection h with h
     subst h;exact hw
    .exact hL _ _ _ _ _ _ hw h
  .change (F9 T ps (A1 T ps f)).ag d n b acc=some y at h;simp only[F9]at h;obtain⟨x1,h1,h⟩:=c8 h;have hx:=hE _ _ _ _ hb h1;split at h
   .exact hA _ _ _ _ _ hx h
   .obtain ⟨m,_,h⟩:=c8 h;injection h with h
    subst h;exact hx
theorem a7S(hT:TG T){x:Tok×Nat}(h:J3 T n=some x):B5 x.1.t=true/\Q2 x.1.t=false:=by
 obtain⟨y,h1,h2⟩:=c8 h;obtain⟨e1,e2⟩:=a6q h1;split at h2
 .cases h2
 .rename_i hr;injection h2 with h2
  subst h2;refine⟨?_,H hr⟩;rw[e1];exact(hT n).1 e2
structure a9c(l:List I):Prop where
 ok:∀s∈l,B5 s=true/\Q2 s=false
 len:l.length<=8
 nod:l.Nodup
theorem a6x{x:α}(h:l.Nodup)(hx:x∉l):(l++[x]).Nodup:=by
 rw[List.nodup_append];exact⟨h,Q,λa ha b hb=>by simp at hb;subst hb;exact λe=>hx (e▸ha)⟩
theorem a9c.snoc{l:List I}{x:I}(h:a9c l)(hx:B5 x=true/\Q2 x=false)(h8:¬l.length=8)(hn:¬x∈l):a9c (l++[x]):=⟨λs hs=>by
 rcases W0.1 hs with hs|hs
 .exact h.ok s hs
 .simp at hs;subst hs;exact hx,by have:=h.len;rw[n_8,b6I];omega,a6x h.nod hn⟩
theorem b6o{T:List Tok}(hT:TG T):∀(f n:Nat) (l:List I) (y:List I×Nat),a9c l->a2v f T n l=some y->a9c y.1
 |0,n,l,y,_,h=>by cases h
 |f+1,n,l,y,hl,h=>by
  rw[a2v]at h;obtain⟨x,h1,h⟩:=c8 h;have hx:=a7S hT h1;split at h
  .cases h
  .rename_i h8;split at h
   .cases h
   .rename_i hn;have hs:=hl.snoc hx h8 hn;split at h
    .exact b6o hT f _ _ y hs h
    .obtain ⟨m,_,h⟩:=c8 h;injection h with h
     subst h;exact hs
theorem a5d:a9c []:=⟨λs h=>(by cases h),n_4 _,List.nodup_nil⟩
theorem c6s(hT:TG T){y:List I×Nat}(h:a3k T kd n=some y):a9c y.1/\(kd≠1->y.1=[]):=by
 unfold a3k at h;split at h
 .rename_i hk;unfold L3 at h;obtain⟨m,_,h⟩:=c8 h;refine⟨?_,λh=>absurd hk h⟩;split at h
  .injection h with h
   subst h;exact a5d
  .exact b6o hT _ _ _ y a5d h
 .injection h with h
  subst h;exact⟨a5d,λ_=>O⟩
theorem c3X(s:I):F3 s=0\/F3 s=1\/F3 s=2\/F3 s=3:=by
 unfold F3 dkL;rw[I8,I8,I8]
 split
 .exact .inr (.inr (.inr O))
 .split
  .exact .inr (.inr (.inl O))
  .split
   .exact .inr (.inl O)
   .exact .inl O
theorem c5Y(hT:TG T){bs:List De}{y:De×Nat}(h:a0G T bs n=some y):DeG y.1/\(bs.any λd=>(d.k == y.1.k)&&decide (d.name=y.1.name))=false:=by
 unfold a0G at h;split at h
 .cases h
 .rename_i h0;split at h
  .cases h
  .obtain ⟨x,h1,h⟩:=c8 h;split at h
   .cases h
   .rename_i hany;obtain⟨q,h2,h⟩:=c8 h;obtain⟨m,_,h⟩:=c8 h;obtain⟨e,h3,h⟩:=c8 h;obtain⟨m2,_,h⟩:=c8 h;injection h with h
    subst h;obtain⟨p1,p2⟩:=c6s hT h2;obtain⟨t,t1,_,t3⟩:=(c2C hT (8*T.length+6)).1 _ _ _ _ h3;have am:=(c02 (8*T.length+6)).1 _ _ _ _ (n_4 _) h3;refine⟨⟨?_,λhk=>?_,λhk=>?_,p2,p1.ok,p1.len,p1.nod,⟨t,by rw[t1];rfl,t3⟩,am⟩,H hany⟩
    .have:=c3X (tk T n).t
     rcases this with g|g|g|g
     .exact absurd (.inr g) h0
     .exact .inl g
     .exact .inr (.inl g)
     .exact .inr (.inr g)
    .unfold a2O at h1;rw[G hk]at h1;exact a7S hT h1
    .unfold a2O at h1;rw[W hk]at h1;exact a7R h1
structure c9P(l:List De):Prop where
 ok:∀d∈l,DeG d
 nod:(l.map λd=>(d.k,d.name)).Nodup
theorem b2U{T:List Tok}(hT:TG T):∀(f n:Nat) (l:List De) (y:List De×Nat),c9P l->R9 f T n l=some y->c9P y.1
 |0,n,l,y,_,h=>by cases h
 |f+1,n,l,y,hl,h=>by
  rw[R9]at h;split at h
  .injection h with h
   subst h;exact hl
  .obtain ⟨x,h1,h⟩:=c8 h;obtain⟨g1,g2⟩:=c5Y hT h1;refine b2U hT f _ _ y ⟨λd hd=>?_,?_⟩ h
   .rcases W0.1 hd with hd|hd
    .exact hl.ok d hd
    .simp at hd;subst hd;exact g1
   .rw [b42];refine a6x hl.nod λhm=>?_;obtain⟨d,hd,he⟩:=H9.1 hm;injection he with e1 e2
    have:=List.any_eq_false.1 g2 d hd;simp[e1,e2]at this
structure d8K(pkg:I)(l:List I):Prop where
 g:a9c l
 p:pkg∉l
theorem b8p{T:List Tok}(hT:TG T){pkg:I}:∀(f n:Nat) (l:List I) (y:List I×Nat),d8K pkg l->a1o f T pkg n l=some y->d8K pkg y.1
 |0,n,l,y,_,h=>by cases h
 |f+1,n,l,y,hl,h=>by
  rw[a1o]at h;split at h
  .split at h
   .cases h
   .rename_i h8;obtain⟨x,h1,h⟩:=c8 h;split at h
    .cases h
    .rename_i cA;obtain⟨m,_,h⟩:=c8 h;refine b8p hT f _ _ y ⟨hl.g.snoc (a7S hT h1) h8 λhm=>cA (.inr hm),λhm=>?_⟩ h
     rcases W0.1 hm with hm|hm
     .exact hl.p hm
     .simp at hm;exact cA (.inl hm.symm)
  .injection h with h
   subst h;exact hl
theorem c63(hT:TG T){x:Src}(h:a09 T=some x):a0i x:=by
 have am:=b2P h;unfold a09 at h;obtain⟨n1,_,h⟩:=c8 h;obtain⟨w,h1,h⟩:=c8 h;obtain⟨n2,_,h⟩:=c8 h;obtain⟨y,h2,h⟩:=c8 h;obtain⟨z,h3,h⟩:=c8 h;injection h with h
 subst h;have hi:=b8p hT _ _ _ _ ⟨a5d,λh=>(by cases h)⟩ h2;have hd:=b2U hT _ _ _ _ (⟨λd h=>(by cases h),List.nodup_nil⟩:c9P []) h3;exact⟨a7S hT h1,hi.g.ok,hi.g.len,hi.g.nod,hi.p,hd.ok,am,hd.nod⟩
theorem a5w{x:Src}(h:O9 s=some x):a0i x:=by
 unfold O9 at h;obtain⟨T,h1,h2⟩:=c8 h;exact c63 (d0Q h1) h2
abbrev tU8:Nat:=5
theorem a8z(l:I):∀r∈l.map bcv,∀c∈r,r9 c:=λr hr c hc=>by
 obtain⟨b,_,rfl⟩:=H9.1 hr;simp[bcv]at hc;subst hc;exact .val _
theorem c85{l:I}{s s':Nat}(h:R s s'):P7 R (a4b l s) (a4b l s'):=by
 refine .list O (λi r r' h1 h2=>by rw[h1]at h2;injection h2 with h2;rw[h2]) (λi j r r' c c' h1 h2 h3 h4=>?_) ?_
 .rw [h1]at h2;injection h2 with h2;subst h2;rw[h3]at h4;injection h4 with h4;subst h4
  exact .pure (a8z l r (n_2 h1) c (n_2 h3))
 .cases hb:l.length with
  |zero=>exact .inl ⟨O,O⟩
  |succ m=>exact .inr ⟨s,s',O,O,h⟩
theorem c3r(t:TypeId)(m:Nat):I5 R (a1W t m) (a1W t m):=by
 cases m with
 |zero=>exact .dead
 |succ m=>exact .tip _
end Go.Proofs.YtlppbmfecjabeaaGreatDoor
namespace Go.Proofs
open Go.Shelf
end Go.Proofs
namespace Go.Proofs.YtlppbmfecjabeaaGreatDoor
open Go Go.Cl
theorem b8n{u n:Nat}(hn:0<n)(h:u<10^n):(Lib.decDigits u).length<=n:=by
 induction n generalizing u with
 |zero=>omega
 |succ n ih=>
  rw[Lib.decDigits]
  split
  .simp
  .rcases b1C n with rfl|hn
   .omega
   .have:=ih (u:=u / 10) hn (by rw[Nat.pow_succ]at h;omega);simp;omega
theorem b0D{n:Int}(h0: -9223372036854775808<=n)(h1:n<=9223372036854775807):(Lib.itoa n).length<=20:=by
 unfold Lib.itoa
 split
 .have:=b8n (u:=n.natAbs) (n:=19) J J;simp;omega
 .have:=b8n (u:=n.toNat) (n:=19) J J;omega
end Go.Proofs.YtlppbmfecjabeaaGreatDoor
