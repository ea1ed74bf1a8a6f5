/- Part 3 of what the claim needs: values without addresses, and what the program's functions do with them. -/
import Derived.Test.YtlppbmfecjabeaaGreatDoorC2
set_option linter.all false
set_option maxRecDepth 100000
set_option maxHeartbeats 4000000
namespace Go.Proofs.YtlppbmfecjabeaaGreatDoor
open Go Go.Cl
variable {σ τ rest:List b9} {s q i f L m long parts i1 s' q1 q2:Nat} {α β:Type} {c c':CV} {e2 e1 lv e':Int} {y:α} {u:Str} {P:α->Prop} {R:Nat->Nat->Prop} {N:α->Nat} {va:Bool} {br:List Str} {sel:List Nat} {bad:Prop} {tok:Option Nat} {vc:β->CV} {A E:α->Int}
def a4u (p:Str):Bool:=decide (1<=p.length) && decide (p.length<=24) && p.all (inK [1,2,3,4])
def H5 (s:Str):Bool:=decide (s.length<=80) && decide ((A7 47 s).length<=8) && (A7 47 s).all a4u
theorem c5z {c:UInt8} {s:Str}:∀ p∈A7 c s,p.length<=s.length:=by
 induction s with
 | nil=>intro p hp;simp [A7] at hp;subst hp;simp
 | cons b l ih =>
  intro p hp;rw [A7] at hp;by_cases h:b=c
  ·rw [if_pos h] at hp
   rcases R5.1 hp with rfl | hp
   ·simp
   ·have:=ih p hp;simp;omega
  ·rw [if_neg h] at hp;cases hs:A7 c l with
   | nil=>exact absurd hs (a0W c l)
   | cons x xs =>
    rw [hs] at hp ih
    rcases R5.1 hp with rfl | hp
    ·have:=ih x si_;simp;omega
    ·have:=ih p (by simp [hp]);simp;omega
theorem c3C (p:Str) {x y z:Bool} (h1:x=decide ((p.length:Int) < 1)) (h2:y=decide ((p.length:Int) > 24)) (h3:z = !((A0 p 0 [1,2,3,4]:Int) == (p.length:Int))):((x || y) || z) = !a4u p:=by
 subst h1 h2 h3;have h5:((A0 p 0 [1,2,3,4]:Int) == (p.length:Int))=p.all (inK [1,2,3,4]):=by
  cases h:p.all (inK [1,2,3,4]) with
  | true=>exact a2d (by have:=a8p.2 h;omega)
  | false =>
   refine a1W fun e=>?_;have:=a8p.1 (show A0 p 0 [1,2,3,4]=p.length by omega);rw [h] at this;cases this
 rw [h5,a4u];have h6:decide ((p.length:Int) < 1) = !decide (1<=p.length):=by by_cases h:1<=p.length <;> simp [h] <;> omega
 have h7:decide ((p.length:Int) > 24) = !decide (p.length<=24):=by by_cases h:p.length<=24 <;> simp [h] <;> omega
 rw [h6,h7];simp [Bool.not_and]
theorem a1I (s:Str) (hs:s.length<=1000000000) (σ:List b9):b8 CC 118 [(sv s)] σ fun r σ'=>r = .ret (.val (.bool (H5 s)))/\σ'=σ:=by
 refine an_ Tryz.func118 ?_;refine U5 ?_;refine yc rfl Tryz.call162 o7 (a8R s 47 hs _) ?_;refine a4y ?_;refine cY X5 ?_;refine a1h ?_;refine cG c99 ?_;refine a7w ?_;refine cC ?_ ?_ <;> intro h1
 ·have hno:H5 s=false:=by
   unfold H5;have h1':(decide ((s.length:Int) > 80) || decide (((A7 47 s).length:Int) > 8))=true:=h1;by_cases h:s.length<=80
   ·have h2:¬ (A7 47 s).length<=8:=by
     intro h2;have e1:decide ((s.length:Int) > 80)=false:=a1W om_;have e2:decide (((A7 47 s).length:Int) > 8)=false:=a1W om_;rw [e1,e2] at h1';cases h1'
    simp [h2]
   ·simp [h]
  exact c13
 ·have hok:s.length<=80/\(A7 47 s).length<=8:=by
   have h1':(decide ((s.length:Int) > 80) || decide (((A7 47 s).length:Int) > 8))=false:=h1;simp only [b8d,decide_eq_false_iff_not] at h1';omega
  refine a1d ?_;refine dc rfl c7U trivial (b0Q _) ?_;intro m hm;refine a4y ?_;refine a1i ?_;refine j5 hCC (α:=Nat) (fun i=>[(4,.map 0),(18,(.list ((A7 47 s).map scv) true none)),(19,(iv ((A7 47 s).length:Int))),(20,iv i)]) (fun _=>[.map (gm kb kv m)]) (fun i=>i<=(A7 47 s).length/\((A7 47 s).take i).all a4u=true) (fun i=>(A7 47 s).length - i) 0 ⟨n_3 _,rfl⟩ tu_ (extra0:=[]) rfl r5 uz_ ?_;intro i ⟨hi,hall⟩;refine C9 ?_;refine cC ?_ ?_ <;> intro h2
  ·have hil:(i:Int) < (A7 47 s).length:=sp_ h2;obtain ⟨p,hp⟩:∃ p,(A7 47 s)[i]? = some p:=⟨(A7 47 s)[i]'om_,si_⟩;have hpl:=c5z p (n_0 hp);refine W7 ?_;refine cY (r8 rfl tt tt rfl rfl t_1 t_0 om_ (j3 hp) rfl) ?_;refine cY U1 ?_;refine O0 ?_;refine cY X5 ?_;refine a1h ?_;refine cG a4r ?_;refine a4D ?_;refine a8T ?_;refine cG (fun hg=>A2 ([1,2,3,4].map icv) rfl ⟨rfl,rfl,rfl,rfl,tt⟩ t_4 t_2 t_6 rfl rfl rfl rfl rfl rfl rfl rfl rfl) ?_;refine cG (fun hg=>j8 rfl c9z ⟨hg,rfl,hg,hg,tt⟩ (a7H hm (n_3 _) om_ de_ rfl) rfl) ?_;refine cG T7 ?_;refine cG a4r ?_;refine a6v ?_;refine cC ?_ ?_ <;> intro h3
   ·have hbad:a4u p=false:=by
     have h3':true = !a4u p:=Eq.trans (Eq.symm h3) (c3C p rfl rfl rfl);simpa using h3'.symm
    have hno:H5 s=false:=by
     unfold H5;have:(A7 47 s).all a4u=false:=by
      rw [b2h];intro hh;have:=a0z.1 hh p (n_0 hp);rw [hbad] at this;cases this
     rw [this];simp
    exact c13
   ·have hgood:a4u p=true:=by
     have h3':false = !a4u p:=Eq.trans (Eq.symm h3) (c3C p rfl rfl rfl);simpa using h3'.symm
    refine a2l ?_;exact ⟨(i+1),_,⟨om_,om_,by
     obtain ⟨hlt,he⟩:=n_1.1 hp;rw [<- b4U hlt,List.all_append,hall,he];simp [hgood]⟩,tu_,rfl⟩
  ·have hge:(A7 47 s).length<=i:=by
    have:¬ (i:Int) < (A7 47 s).length:=sp_ h2;omega
   rw [U3 hge] at hall;refine a1w ?_;exact ⟨_,j2 rfl tt c4,_,_,rfl,rfl,j7 (by rw [H5,hall];simp [hok.1,hok.2])⟩
theorem c7p (c:Int):(decide (c>=97) && decide (c<=122))=decide (k8 c=1):=by
 by_cases h:97<=c/\c<=122
 ·have e:k8 c=1:=by unfold k8;rw [if_pos h]
  simp [e,h.1,h.2]
 ·have e:k8 c≠1:=by
   unfold k8;rw [if_neg h]
   repeat' split
   all_goals omega
  have e2:¬ (c>=97/\c<=122):=h;simp only [a1W e];by_cases h1:c>=97
  ·have h2:¬ c<=122:=fun h2=>h ⟨h1,h2⟩;simp [h2]
  ·simp [h1]
theorem d1S (b:UInt8) {x y z:Bool} (hx:x=decide (k8 b.toNat=1)) (hy:y=(decide ((b.toNat:Int)>=48) && decide ((b.toNat:Int)<=57))) (hz:z=((b.toNat:Int) == 95)):((x || y) || z)=inK [1,2,3] b:=by
 subst hx hy hz;unfold inK;generalize (b.toNat:Int)=c;have h2:(decide (c>=48) && decide (c<=57))=decide (k8 c=2):=by
  by_cases h:48<=c/\c<=57
  ·have e:k8 c=2:=by unfold k8;rw [if_neg om_,if_pos h]
   simp [e,h.1,h.2]
  ·have e:k8 c≠2:=by
    unfold k8
    repeat' split
    all_goals omega
   simp only [a1W e];by_cases h1:c>=48
   ·have h2:¬ c<=57:=fun h2=>h ⟨h1,h2⟩;simp [h2]
   ·simp [h1]
 have h3:(c == 95)=decide (k8 c=3):=by
  by_cases h:c=95
  ·subst h;rfl
  ·have e:k8 c≠3:=by
    unfold k8
    repeat' split
    all_goals omega
   rw [a1W e];simp [h]
 rw [h2,h3];simp [Bool.or_assoc]
theorem a47 (b:UInt8) (σ:List b9):b8 CC 131 [(.val (.int .u8 (b.toNat:Int)))] σ fun r σ'=>r = .ret (.val (.bool (decide (k8 b.toNat=1))))/\σ'=σ:=by
 refine an_ Tryz.func131 ?_;refine U5 ?_;refine a1h ?_;refine a88 ?_;refine z_7 ?_;exact ⟨_,j2 rfl tt c4,_,_,rfl,rfl,j7 (c7p _)⟩
theorem a63 (b:UInt8) (σ:List b9):b8 CC 119 [(.val (.int .u8 (b.toNat:Int)))] σ fun r σ'=>r = .ret (.val (.bool (inK [1,2,3] b)))/\σ'=σ:=by
 refine an_ Tryz.func119 ?_;refine U5 ?_;refine yc rfl d0W ⟨tt,tt⟩ (a47 b _) ?_;refine a3q ?_;refine b8j ?_;refine U2 rfl rfl (fun h=>h) rfl rfl (fun hk hg=>a4a rfl tt c4) ?_;refine c2f ?_;refine cY a1f ?_;refine a3q ?_;refine a4D ?_;refine z_7 ?_;exact ⟨_,j2 rfl tt c4,_,_,rfl,rfl,j7 (d1S b rfl rfl rfl)⟩
theorem d9C {s:Str} (h:(((decide ((s.length:Int) < 1)) || decide ((s.length:Int) > 24)) || !decide (k8 ((s.headD 0).toNat:Int)=1))=true):C8 s=false:=by
 cases s with
 | nil=>rfl
 | cons b l =>
  unfold C8;by_cases h1:(b::l).length<=24
  ·have e1:decide (((b::l).length:Int) > 24)=false:=a1W om_;have e2:decide (((b::l).length:Int) < 1)=false:=a1W Q9;rw [e1,e2] at h;have h3:k8 (b.toNat:Int)≠1:=sp_ h;simp [h3]
  ·simp only [a1W h1,Bool.false_and]
theorem e0l {s:Str} (h:(((decide ((s.length:Int) < 1)) || decide ((s.length:Int) > 24)) || !decide (k8 ((s.headD 0).toNat:Int)=1))=false) (ha:s.all (inK [1,2,3])=true):C8 s=true:=by
 cases s with
 | nil=>simp at h
 | cons b l =>
  simp only [b8d,decide_eq_false_iff_not,Bool.not_eq_false'] at h;unfold C8;have h1:(b::l).length<=24:=by omega
  have h3:k8 (b.toNat:Int)=1:=sp_ h.2;rw [ha];simp only [a2d h1,a2d h3];rfl
theorem d1w {s:Str} {b:UInt8} (hb:s[i]? = some b) (h:inK [1,2,3] b=false):C8 s=false:=by
 cases s with
 | nil=>rfl
 | cons x l =>
  unfold C8;have:(x::l).all (inK [1,2,3])=false:=by
   rw [b2h];intro hh;have:=a0z.1 hh b (n_0 hb);rw [h] at this;cases this
  rw [this];show (_ && false)=false;rw [Bool.and_false]
theorem c8g {s:Str} {b:UInt8} {p:UInt8->Bool} (hb:s[i]? = some b) (ha:(s.take i).all p=true) (h:p b=true):(s.take (i+1)).all p=true:=by
 obtain ⟨hlt,rfl⟩:=n_1.1 hb;rw [<- b4U hlt,List.all_append,ha];simp [h]
theorem a1M (s:Str) (σ:List b9):b8 CC 85 [(sv s)] σ fun r σ'=>r = .ret (.val (.bool (C8 s)))/\σ'=σ:=by
 refine an_ Tryz.func85 ?_;refine Q7 ?_;refine cY X5 ?_;refine a1h ?_;refine cG a4r ?_;refine a4D ?_;refine a3q ?_;refine cG d8w ?_;refine cG (fun hg=>j8 rfl d0W ⟨hg,tt⟩ (a47 (s.headD 0) _) rfl) ?_;refine b2P ?_;refine cC ?_ ?_ <;> intro h1
 ·have hno:C8 s=false:=d9C h1;exact c13
 ·have hok:=e0l h1;have hs:s.length<=24:=sm_ h1;refine z_8 ?_;refine a7q ?_;refine j5 hCC (α:=Nat) (fun i=>[(0,(sv s)),(3,iv i)]) (fun _=>[]) (fun i=>i<=s.length/\(s.take i).all (inK [1,2,3])=true) (fun i=>s.length - i) 0 ⟨n_3 _,rfl⟩ tu_ (extra0:=[]) rfl r5 uz_ ?_;intro i ⟨hi,hall⟩;refine b3F ?_;refine cC ?_ ?_ <;> intro h2
  ·have hil:(i:Int) < s.length:=sp_ h2;obtain ⟨b,hb⟩:=gx_ s i;refine a4O ?_;refine z_5 ?_;refine cY b8N ?_;refine yc rfl c9f ⟨tt,tt⟩ (a63 b _) ?_;refine S4 ?_;refine cC ?_ ?_ <;> intro h3
   ·have hno:C8 s=false:=d1w hb (sp_ h3);exact c13
   ·refine a8q ?_;exact ⟨(i+1),_,⟨om_,om_,c8g hb hall (sp_ h3)⟩,tu_,rfl⟩
  ·have hge:s.length<=i:=by
    have:¬ (i:Int) < s.length:=sp_ h2;omega
   rw [U3 hge] at hall;refine a1w ?_;exact ⟨_,j2 rfl tt c4,_,_,rfl,rfl,j7 (by rw [hok hall])⟩
theorem d4A (b:UInt8) {x y:Bool} (hx:x=inK [1,2,3] b) (hy:y=((b.toNat:Int) == 46)):(x || y)=inK [1,2,3,4] b:=by
 subst hx hy;unfold inK;generalize (b.toNat:Int)=c;have h4:(c == 46)=decide (k8 c=4):=by
  by_cases h:c=46
  ·subst h;rfl
  ·have e:k8 c≠4:=by
    unfold k8
    repeat' split
    all_goals omega
   rw [a1W e];simp [h]
 rw [h4];simp [Bool.or_assoc]
def a15 (long parts:Nat) (u:Str):Bool:=match A7 47 u with
 | []=>false
 | p::ps=>decide (1<=long+p.length) && decide (long+p.length<=24) && p.all (inK [1,2,3,4]) && ps.all a4u && decide (parts+ps.length<=8)
theorem c0z {s:Str} (h:s.length<=80):H5 s=a15 0 1 s:=by
 unfold H5 a15;cases hs:A7 47 s with
 | nil=>exact absurd hs (a0W 47 s)
 | cons p ps =>
  have e1:decide ((p::ps).length<=8)=decide (1+ps.length<=8):=by rw [n_7,b3k]
  rw [e1,a2d h];simp only [List.all_cons,a4u,n_9,b74];cases decide (1+ps.length<=8) <;> simp
theorem c5R:a15 long parts []=(decide (1<=long) && decide (long<=24) && decide (parts<=8)):=by
 simp [a15,A7]
theorem c07 (h:long<=24):a15 long parts (47::u)=(decide (1<=long) && a15 0 (parts+1) u):=by
 unfold a15;rw [A7,if_pos rfl];cases hs:A7 47 u with
 | nil=>exact absurd hs (a0W 47 u)
 | cons p ps =>
  have e:decide (parts+(p::ps).length<=8)=decide (parts+1+ps.length<=8):=decide_eq_decide.2 Q9;simp only [e,List.all_cons,a4u,n_9,I4,a4K,a2d h,List.all_nil,Bool.and_true,c0k]
theorem d2t {b:UInt8} (hb:b≠47) (hk:inK [1,2,3,4] b=true):a15 long parts (b::u)=a15 (long+1) parts u:=by
 unfold a15;rw [A7,if_neg hb];cases hs:A7 47 u with
 | nil=>exact absurd hs (a0W 47 u)
 | cons p ps =>
  have e:long+(b::p).length=long+1+p.length:=by simp;omega
  simp only [e,List.all_cons,hk,b74]
theorem c9d {b:UInt8} (hb:b≠47) (hk:inK [1,2,3,4] b=false):a15 long parts (b::u)=false:=by
 unfold a15;rw [A7,if_neg hb];cases hs:A7 47 u with
 | nil=>exact absurd hs (a0W 47 u)
 | cons p ps=>simp [hk]
theorem c4d (h:24 < long):a15 long parts u=false:=by
 unfold a15
 split
 ·rfl
 ·rename_i p ps _;have:¬ long+p.length<=24:=by omega
  simp [this]
theorem c8H {s:Str} {b:UInt8} (h:s[i]? = some b):s.drop i=b::s.drop (i+1):=by
 obtain ⟨hlt,rfl⟩:=n_1.1 h;exact Q4 hlt
theorem d0n:(decide ((long:Int) > 0) && decide ((parts:Int)<=8))=(decide (1<=long) && decide (parts<=8)):=by
 have e1:decide ((long:Int) > 0)=decide (1<=long):=decide_eq_decide.2 om_;have e2:decide ((parts:Int)<=8)=decide (parts<=8):=decide_eq_decide.2 om_;rw [e1,e2]
theorem a1K (s:Str) (σ:List b9):b8 CC 61 [(sv s)] σ fun r σ'=>r = .ret (.val (.bool (H5 s)))/\σ'=σ:=by
 refine an_ Tryz.func61 ?_;refine a4o ?_;refine a4W ?_;refine a1z ?_;refine b1D ?_;refine cC ?_ ?_ <;> intro h1
 ·have h80:¬ s.length<=80:=by
   have:(s.length:Int) > 80:=sp_ h1;omega
  refine I0 ?_;exact ⟨_,j2 rfl tt c4,_,_,rfl,rfl,j7 (by simp [H5,h80])⟩
 ·have h80:s.length<=80:=by
   have:¬ (s.length:Int) > 80:=sp_ h1;omega
  refine z_8 ?_;refine a7q ?_;refine j5 hCC (α:=Nat × Nat × Nat) (fun x=>[(0,(sv s)),(3,iv x.2.1),(4,iv x.2.2),(5,iv x.1)]) (fun _=>[]) (fun x=>x.1<=s.length/\x.2.2<=24/\x.2.1<=x.1+1/\H5 s=a15 x.2.2 x.2.1 (s.drop x.1)) (fun x=>s.length - x.1) (0,1,0) ⟨n_3 _,de_,de_,c0z h80⟩ tu_ (extra0:=[]) rfl r5 uz_ ?_;intro ⟨i,parts,long⟩ ⟨hi,hlo,hpa,hrest⟩;dsimp only at hi hlo hpa hrest ⊢;refine b3F ?_;refine cC ?_ ?_ <;> intro h2
  ·have hil:(i:Int) < s.length:=sp_ h2;obtain ⟨b,hb⟩:=gx_ s i;rw [c8H hb] at hrest;refine a4O ?_;refine a4A ?_;refine z_5 ?_;refine cY b8N ?_;refine a73 ?_;refine cC ?_ ?_ <;> intro h3
   ·have hb47:b=47:=by
     have h47:(b.toNat:Int)=47:=sp_ h3;have h48:(47:UInt8).toNat=47:=rfl;exact b36.1 om_
    subst hb47;rw [c07 hlo] at hrest;refine a2Q ?_;refine cC ?_ ?_ <;> intro h4
    ·have hl0:long=0:=by
      have:(long:Int)=0:=sp_ h4;omega
     subst hl0;refine I0 ?_;exact ⟨_,j2 rfl tt c4,_,_,rfl,rfl,j7 (show false=H5 s by rw [hrest];rfl)⟩
    ·have hl0:1<=long:=by
      have:¬ (long:Int)=0:=sp_ h4;omega
     rw [a2d hl0,b74] at hrest;refine a6G ?_;refine cY a0v ?_;refine cY Q1 ?_;refine z_3 ?_;refine a3F ?_;refine cC ?_ ?_ <;> intro h5
     ·exfalso;simp at h5
     ·refine a8q ?_;exact ⟨(i+1,parts+1,0),_,⟨do_,do_,do_,do_,hrest⟩,tu_,rfl⟩
   ·have hb47:b≠47:=by
     intro e;subst e;simp at h3
    refine z_5 ?_;refine cY b8N ?_;refine yc rfl c9f ⟨tt,tt⟩ (a63 b _) ?_;refine a8T ?_;refine cG e0a ?_;refine a4D ?_;refine z_1 ?_;refine cC ?_ ?_ <;> intro h6
    ·have hin:inK [1,2,3,4] b=true:=Eq.trans (Eq.symm (d4A b rfl rfl)) h6;rw [d2t hb47 hin] at hrest;refine z_4 ?_;refine cY a0v ?_;refine O0 ?_;refine O1 ?_;refine cC ?_ ?_ <;> intro h7
     ·have hbig:24 < long+1:=by
       have:((long:Int)+1) > 24:=sp_ h7;omega
      refine I0 ?_;exact ⟨_,j2 rfl tt c4,_,_,rfl,rfl,j7 (show false=H5 s by rw [hrest,c4d hbig])⟩
     ·have hbig:long+1<=24:=by
       have:¬ ((long:Int)+1) > 24:=sp_ h7;omega
      refine a8q ?_;exact ⟨(i+1,parts,long+1),_,⟨do_,do_,hbig,do_,hrest⟩,tu_,rfl⟩
    ·have hin:inK [1,2,3,4] b=false:=Eq.trans (Eq.symm (d4A b rfl rfl)) h6;rw [c9d hb47 hin] at hrest;refine I0 ?_;exact ⟨_,j2 rfl tt c4,_,_,rfl,rfl,j7 (show false=H5 s from hrest.symm)⟩
  ·have hge:s.length<=i:=by
    have:¬ (i:Int) < s.length:=sp_ h2;omega
   rw [S8 hge,c5R,a2d hlo,Bool.and_true] at hrest;refine b0t ?_;refine a1h ?_;refine a88 ?_;refine z_7 ?_;exact ⟨_,j2 rfl tt c4,_,_,rfl,rfl,j7 (Eq.trans d0n hrest.symm)⟩
structure Ky where
 k:Int
 a:Str
 b:Str
deriving DecidableEq
variable {a:Nat}
abbrev Ky.cells (x:Ky):List CV:=[iv x.k,sv x.a,sv x.b]
def Ky.cv (x:Ky):List CV:=x.cells
theorem a03 (l:List Ky) (nn:Bool):r9 (.list (l.map Ky.cv) nn none):=N5 (f:=Ky.cv) (fun _=>⟨.val _,.val _,.val _,tt⟩) l nn
theorem a5M (n:Nat) (l:List Ky) (nn:Bool):Old n (.list (l.map Ky.cv) nn none):=(a03 l nn).old
theorem b5l (n:Nat) (x:Ky):I8 n (.box x.cells):=o9 ⟨.val _,.val _,.val _,tt⟩
def a0B (x:Ky):Bool :=
 if (x.k == 1 || x.k == 2)=true then C8 x.a && C8 x.b else if (x.k == 3 || x.k == 4)=true then H5 x.a && decide (x.b=[]) else if (x.k == 5 || x.k == 6 || x.k == 7)=true then C8 x.a && decide (x.b=[]) else false
theorem c0N (x:Ky) (ha:x.a.length<=1000000000) (hb0:x.b.length<=1000000000) (σ:List b9):b8 CC 59 [.agg x.cells] σ fun r σ'=>r = .ret (.val (.bool (a0B x)))/\σ'=σ:=by
 refine an_ Tryz.func59 ?_;refine a2M ?_;refine b8k ?_;refine a4B ?_;refine K8 hCC (α:=Bool) (fun b=>[(1,.ptr 0 0),(4,iv x.k),(5,(.val (.bool b)))]) (fun _=>[.box x.cells]) (fun b=>b=(x.k == 1 || x.k == 2)) r5 uz_ ?_ ?_
 ·
  refine D6 ?_;refine cC ?_ ?_ <;> intro h1
  ·exact d3J
  ·exact d3L
 ·intro b hb;refine cC ?_ ?_ <;> intro h2
  ·refine a6W ?_;refine c1T ?_;refine cG (fun hg=>j8 rfl c5P ⟨hg,tt⟩ (a1L x.b _) rfl) ?_;exact d5b
  ·refine K8 hCC (α:=Bool) (fun b=>[(1,.ptr 0 0),(4,iv x.k),(16,(.val (.bool b)))]) (fun _=>[.box x.cells]) (fun b=>b=(x.k == 3 || x.k == 4)) r5 uz_ ?_ ?_
   ·
    refine D6 ?_;refine cC ?_ ?_ <;> intro h3
    ·exact d5t
    ·exact d6n
   ·intro b2 hb2;refine cC ?_ ?_ <;> intro h4
    ·refine a6W ?_;refine ye rfl c4K ⟨tt,tt⟩ (a1I x.a om_ _) rfl ?_;refine c2u ?_;refine cG b2t ?_;exact d5e
    ·refine a6T ?_;refine cC ?_ ?_ <;> intro h5
     ·refine c9 ?_;refine cC ?_ ?_ <;> intro h6
      ·refine a6W ?_;refine c1T ?_;exact b4Y
      ·exact b4u
     ·refine D6 ?_;refine cC ?_ ?_ <;> intro h7
      ·refine c9 ?_;refine cC ?_ ?_ <;> intro h8
       ·refine a6W ?_;refine c1T ?_;exact b4Y
       ·exact b4u
      ·refine a1o ?_;refine cC ?_ ?_ <;> intro h9
       ·refine a6W ?_;refine c1T ?_;exact b4Y
       ·exact b4u
theorem a9E (x:Ky)  (σ:List b9):b8 CC 36 [.agg x.cells] σ fun r σ'=>r = .ret (.val (.bool (a0B x)))/\σ'=σ:=by
 refine an_ Tryz.func36 ?_;refine a2M ?_;refine b8k ?_;refine a4B ?_;refine K8 hCC (α:=Bool) (fun b=>[(1,.ptr 0 0),(4,iv x.k),(5,(.val (.bool b)))]) (fun _=>[.box x.cells]) (fun b=>b=(x.k == 1 || x.k == 2)) r5 uz_ ?_ ?_
 ·
  refine D6 ?_;refine cC ?_ ?_ <;> intro h1
  ·exact d3J
  ·exact d3L
 ·intro b hb;refine cC ?_ ?_ <;> intro h2
  ·refine a6W ?_;refine c2F ?_;refine cG (fun hg=>j8 rfl c5Q ⟨hg,tt⟩ (a1M x.b _) rfl) ?_;exact d5b
  ·refine K8 hCC (α:=Bool) (fun b=>[(1,.ptr 0 0),(4,iv x.k),(16,(.val (.bool b)))]) (fun _=>[.box x.cells]) (fun b=>b=(x.k == 3 || x.k == 4)) r5 uz_ ?_ ?_
   ·
    refine D6 ?_;refine cC ?_ ?_ <;> intro h3
    ·exact d5t
    ·exact d6n
   ·intro b2 hb2;refine cC ?_ ?_ <;> intro h4
    ·refine a6W ?_;refine yc rfl c34 ⟨tt,tt⟩ (a1K x.a _) ?_;refine c2u ?_;refine cG b2t ?_;exact d5e
    ·refine a6T ?_;refine cC ?_ ?_ <;> intro h5
     ·refine c9 ?_;refine cC ?_ ?_ <;> intro h6
      ·refine a6W ?_;refine c2F ?_;exact b4Y
      ·exact b4u
     ·refine D6 ?_;refine cC ?_ ?_ <;> intro h7
      ·refine c9 ?_;refine cC ?_ ?_ <;> intro h8
       ·refine a6W ?_;refine c2F ?_;exact b4Y
       ·exact b4u
      ·refine a1o ?_;refine cC ?_ ?_ <;> intro h9
       ·refine a6W ?_;refine c2F ?_;exact b4Y
       ·exact b4u
def b7t (v n:Int):Int:=if n<=1 then 0 else v%n
theorem a6d {v n:Int} (hn:1<=n):0<=b7t v n/\b7t v n < n:=by
 unfold b7t
 split
 ·omega
 ·exact ⟨Int.emod_nonneg _ om_,Int.emod_lt_of_pos _ om_⟩
def b00 (l:List Int) (at_:Nat):Int:=(l[at_]?).getD ((at_:Int)*7%11)
def C7 (l:List Int) (at_:Nat) (n:Int):Int:=b7t (b00 l at_) n
abbrev p9 (l:List Int) (nn:Bool) (at_:Nat):b9:=.box [.list (l.map icv) nn none,iv at_]
theorem B8 (l:List Int) (nn:Bool) (k:Nat):a6D (p9 l nn k):=S9.all ⟨N3 _ _,.val _,tt⟩
theorem b3q (v n:Int) (hn:n<=4611686018427387904) (σ:List b9):b8 CC 60 [iv v,iv n] σ fun r σ'=>r = .ret (iv (b7t v n))/\σ'=σ:=by
 refine an_ Tryz.func60 ?_;refine z_6 ?_;refine a2Q ?_;refine cC ?_ ?_ <;> intro h1
 ·have hn1:n<=1:=sp_ h1;refine I0 ?_;exact ⟨_,j2 rfl tt c4,_,_,rfl,rfl,G4 (by rw [b7t,if_pos hn1])⟩
 ·have hn1:¬ n<=1:=sp_ h1;have ht:v.tmod n=v%n\/v.tmod n+n=v%n/\v.tmod n < 0:=by
   rcases Int.le_total 0 v with hv | hv
   ·exact .inl (c8P hv)
   ·rw [Int.tmod_eq_emod];split
    ·exact .inl om_
    ·right;have:=Int.emod_lt_of_pos v (show 0 < n by omega);have h5:(n.natAbs:Int)=n:=by omega
     omega
  have hm1:=Int.emod_nonneg v (show n≠0 by omega);have hm2:=Int.emod_lt_of_pos v (show 0 < n by omega);have hm3:=Int.tmod_lt_of_pos v (show 0 < n by omega);have hm4 : -n<=v.tmod n:=by omega
  refine a95 ?_;refine cY (a08 rfl tt tt rfl rfl (c6a om_)) ?_;refine b1w ?_;refine cC ?_ ?_ <;> intro h2
  ·have hlt:v.tmod n < 0:=sp_ h2;refine X0 ?_;refine cY a4s ?_;refine O0 ?_;refine z_7 ?_;exact ⟨_,j2 rfl tt c4,_,_,rfl,rfl,G4 (by rw [b7t,if_neg hn1];omega)⟩
  ·have hlt:¬ v.tmod n < 0:=sp_ h2;refine a1m ?_;refine z_7 ?_;exact ⟨_,j2 rfl tt c4,_,_,rfl,rfl,G4 (by rw [b7t,if_neg hn1];omega)⟩
theorem H6 (l:List Int) (nn:Bool) (k:Nat) (σ:List b9) (q:Nat) (hk:σ[q]? = some (p9 l nn k)) (hat:k<=1000000000) (hl:l.length<=maxLen) (n:Int) (hn:n<=4611686018427387904):b8 CC 20 [.ptr q 0,iv n] σ fun r σ'=>∃ _:Unit,r = .ret (iv (C7 l k n))/\σ'=σ.set q (p9 l nn (k+1))/\True:=by
 have hl1:=hl;unfold maxLen at hl1;unfold p9 at hk;have hq:q < σ.length:=(n_1.1 hk).1;refine cO Tryz.func20 ?_;refine z_6 ?_;refine a4P ?_;refine cY b4j ?_;refine cY b7c ?_;refine cY (b7M rfl tt rfl rfl rfl om_ om_) ?_;refine cY (a08 rfl tt rfl rfl rfl (c08 om_ om_)) ?_;refine b2i ?_;refine A5 ?_;refine b4Z ?_;refine hY b4j ?_;refine hY b7c ?_;refine a5d ?_;refine d6D ?_;refine hY a7Y ?_;refine hY a5P ?_;refine a4L ?_;refine cC ?_ ?_ <;> intro h1
 ·have hlt:(k:Int) < l.length:=sp_ h1;obtain ⟨v,hv⟩:=gx_ l k;refine cW 11 ?_;refine a5d ?_;refine d6D ?_;refine a5d ?_;refine hY b4j ?_;refine hY b7c ?_;refine hY c1X ?_;refine hY a1a ?_;refine b7N ?_;refine L7 ?_;refine cY K2 ?_;refine cY b4j ?_;refine cY b7c ?_;refine d0I ?_;refine d5i ?_;refine b2a ?_;refine yc rfl Tryz.call60 i7 (b3q v n hn _) ?_;refine z_7 ?_;exact ⟨_,j2 rfl tt c4,⟨(),by rw [C7,b00,hv];rfl,rfl,tt⟩⟩
 ·have hge:¬ (k:Int) < l.length:=sp_ h1;have hv:l[k]? = none:=c0u om_;refine a6Q ?_;refine cY b4j ?_;refine cY b7c ?_;refine d0I ?_;refine d5i ?_;refine b2a ?_;refine yc rfl Tryz.call60 i7 (b3q _ n hn _) ?_;refine z_7 ?_;exact ⟨_,j2 rfl tt c4,⟨(),by rw [C7,b00,hv];rfl,rfl,tt⟩⟩
theorem G5 (l:List Int) (nn:Bool) (k:Nat) (σ:List b9) (q:Nat) (hk:σ[q]? = some (p9 l nn k)) (hat:k<=1000000000) (hl:l.length<=maxLen) (n m:Int) (hn:m<=4611686018427387904):b8 CC 12 [.ptr q 0,iv n,iv m] σ fun r σ'=>∃ _:Unit,r = .ret (.val (.bool (decide (C7 l k m < n))))/\σ'=σ.set q (p9 l nn (k+1))/\True:=by
 refine cO Tryz.func12 ?_;refine a11 ?_;refine dc rfl a5K i7 (H6 l nn k σ q hk hat hl m hn) ?_;intro _ _;refine b9k ?_;refine z_7 ?_;exact ⟨_,j2 rfl tt c4,⟨(),rfl,rfl,tt⟩⟩
theorem a3G (l:List Int) (nn:Bool) (k:Nat) (σ:List b9) (q:Nat) (hk:σ[q]? = some (p9 l nn k)) (hat:k<=1000000000) (hl:l.length<=maxLen) (ls:List Int) (hls:ls≠[]) (hln:ls.length<=1000):b8 CC 51 [.ptr q 0,.list (ls.map icv) true none] σ fun r σ'=>∃ v:Int,r = .ret (iv v)/\σ'=σ.set q (p9 l nn (k+1))/\v∈ls:=by
 have hpos:=a85.2 hls;have hb:=a6d (v:=b00 l k) (n:=(ls.length:Int)) om_;obtain ⟨v,hv⟩:∃ v,ls[(C7 l k (ls.length:Int)).toNat]? = some v:=⟨ls[(C7 l k (ls.length:Int)).toNat]'(by unfold C7;omega),si_⟩;have hb':0<=C7 l k (ls.length:Int):=hb.1;refine cO Tryz.func51 ?_;refine Q7 ?_;refine cY a7Y ?_;refine O1 ?_;refine cC ?_ ?_ <;> intro h1
 ·exfalso;simp at h1;exact hls h1
 ·refine a6J ?_;refine cY a7Y ?_;refine de rfl a5K i7 (H6 l nn k σ q hk hat hl (ls.length:Int) om_) rfl ?_;intro _ _;refine cY c1X ?_;refine cY a1a ?_;exact d6d
theorem F3 (l:List Int) (nn:Bool) (k:Nat) (σ:List b9) (q:Nat) (hk:σ[q]? = some (p9 l nn k)) (hat:k<=1000000000) (hl:l.length<=maxLen) (ls:List Str) (hls:ls≠[]) (hln:ls.length<=1000):b8 CC 19 [.ptr q 0,.list (ls.map scv) true none] σ fun r σ'=>∃ v:Str,r = .ret (sv v)/\σ'=σ.set q (p9 l nn (k+1))/\v∈ls:=by
 have hpos:=a85.2 hls;have hb:=a6d (v:=b00 l k) (n:=(ls.length:Int)) om_;obtain ⟨v,hv⟩:∃ v,ls[(C7 l k (ls.length:Int)).toNat]? = some v:=⟨ls[(C7 l k (ls.length:Int)).toNat]'(by unfold C7;omega),si_⟩;have hb':0<=C7 l k (ls.length:Int):=hb.1;refine cO Tryz.func19 ?_;refine Q7 ?_;refine a8j ?_;refine cC ?_ ?_ <;> intro h1
 ·exfalso;simp at h1;exact hls h1
 ·refine a6J ?_;refine cY a0K ?_;refine de rfl a5K i7 (H6 l nn k σ q hk hat hl (ls.length:Int) om_) rfl ?_;intro _ _;refine cY (r8 rfl tt tt rfl rfl t_1 t_0 om_ (j3 hv) rfl) ?_;refine cY U1 ?_;exact d6d
def R3:List Str:=([[112],[113],[115]]:List Str)
theorem a2P  (σ:List b9):b8 CC 69 [] σ fun r σ'=>r = .ret (.list (R3.map scv) true none)/\σ'=σ:=by
 refine an_ Tryz.func69 ?_;refine a4o ?_;refine cY (A2 (R3.map scv) rfl ⟨rfl,rfl,rfl,tt⟩ t_1 t_0 t_3 rfl rfl rfl rfl rfl rfl rfl rfl rfl) ?_;exact d0r
def W8:List Str:=([[102],[103],[104],[107]]:List Str)
theorem a5j  (σ:List b9):b8 CC 29 [] σ fun r σ'=>r = .ret (.list (W8.map scv) true none)/\σ'=σ:=by
 refine an_ Tryz.func29 ?_;refine a4o ?_;refine cY (A2 (W8.map scv) rfl ⟨rfl,rfl,rfl,rfl,tt⟩ t_1 t_0 t_3 rfl rfl rfl rfl rfl rfl rfl rfl rfl) ?_;exact d0r
def a3u:List Str:=([[116],[117],[118]]:List Str)
theorem b2d  (σ:List b9):b8 CC 82 [] σ fun r σ'=>r = .ret (.list (a3u.map scv) true none)/\σ'=σ:=by
 refine an_ Tryz.func82 ?_;refine a4o ?_;refine cY (A2 (a3u.map scv) rfl ⟨rfl,rfl,rfl,tt⟩ t_1 t_0 t_3 rfl rfl rfl rfl rfl rfl rfl rfl rfl) ?_;exact d0r
def a0P:List Str:=([[97,46,100,97,116],[100,47,98,46,100,97,116],[99],[97,46,115,114,99],[120,46,115,114,99]]:List Str)
theorem a14  (σ:List b9):b8 CC 83 [] σ fun r σ'=>r = .ret (.list (a0P.map scv) true none)/\σ'=σ:=by
 refine an_ Tryz.func83 ?_;refine a4o ?_;refine cY (A2 (a0P.map scv) rfl ⟨rfl,rfl,rfl,rfl,rfl,tt⟩ t_1 t_0 t_3 rfl rfl rfl rfl rfl rfl rfl rfl rfl) ?_;exact d0r
def X4:List Str:=([[110],[109]]:List Str)
theorem a5I  (σ:List b9):b8 CC 84 [] σ fun r σ'=>r = .ret (.list (X4.map scv) true none)/\σ'=σ:=by
 refine an_ Tryz.func84 ?_;refine a4o ?_;refine cY (A2 (X4.map scv) rfl ⟨rfl,rfl,tt⟩ t_1 t_0 t_3 rfl rfl rfl rfl rfl rfl rfl rfl rfl) ?_;exact d0r
theorem H7 {v:Str} (h:v∈R3\/v∈W8\/v∈a3u\/v∈a0P\/v∈X4):v.length<=8:=by
 rcases h with h | h | h | h | h <;> revert v <;> decide
def b2B (x:Ky):Prop:=x.a.length<=8/\x.b.length<=8
theorem d1u (l:List Int) (nn:Bool) (k:Nat) (hat:k<=900000000) (hl:l.length<=maxLen):b8 CC 35 [.ptr 0 0] [p9 l nn k] fun r σ'=>∃ (a:Ky × Nat) (rest:List b9) (c0:CV),σ'=p9 l nn a.2::rest/\r = .ret c0/\Cls 1 σ' c0 (.agg a.1.cells)/\b2B a.1/\(k<=a.2/\a.2<=k+3):=by
 have hb:=a6d (v:=b00 l k) (n:=7) om_;have hb1:0<=C7 l k 7:=hb.1;have hb2:C7 l k 7 < 7:=hb.2;refine cO Tryz.func35 ?_;refine z_0 ?_;refine cD (x8 rfl a7o rfl p8 ?_);refine L7 ?_;refine de rfl a5K o7 (H6 l nn k _ 0 rfl om_ hl 7 om_) rfl ?_;intro _ _;refine cY (b7y rfl rfl tt rfl rfl om_ om_) ?_;refine cY j1 ?_;refine yc rfl c8n trivial (a2P _) ?_;refine de rfl a2n i7 (F3 l nn (k+1) _ 0 rfl om_ hl R3 de_ de_) rfl ?_;intro v hv;refine cY (A9 #[(0,1),(1,1),(2,1)] rfl i7 c4x a7o rfl ⟨_,rfl⟩ (fun w=>by kernel_rfl) rfl rfl) ?_;refine c8J ?_;refine T5 ?_;refine b8k ?_;refine a2m ?_;refine cC ?_ ?_ <;> intro h1
 ·refine z_4 ?_;refine c71 ?_;intro u hu;refine b3Q ?_;refine a1n ?_;exact ⟨_,B6 rfl b6Q,⟨(⟨(1+C7 l k 7),v,u⟩,k+3),_,_,rfl,rfl,W1 rfl pu_,⟨(H7 (.inl hv)),(H7 (.inr (.inl hu)))⟩,do_⟩⟩
 ·refine D6 ?_;refine cC ?_ ?_ <;> intro h2
  ·refine z_4 ?_;refine yc rfl Tryz.call82 trivial (b2d _) ?_;refine de rfl a2n i7 (F3 l nn (k+2) _ 0 rfl om_ hl a3u de_ de_) rfl ?_;intro u hu;refine b3Q ?_;refine a1n ?_;exact ⟨_,B6 rfl b6Q,⟨(⟨(1+C7 l k 7),v,u⟩,k+3),_,_,rfl,rfl,W1 rfl pu_,⟨(H7 (.inl hv)),(H7 (.inr (.inr (.inl hu))))⟩,do_⟩⟩
  ·refine a6T ?_;refine cC ?_ ?_ <;> intro h3
   ·refine c9 ?_;refine cC ?_ ?_ <;> intro h4
    ·refine z_4 ?_;refine d4g ?_;intro u hu;refine b3Q ?_;exact d3z
    ·refine D6 ?_;refine cC ?_ ?_ <;> intro h5
     ·refine z_4 ?_;refine d5Z ?_;intro u hu;refine b3Q ?_;exact d3V
     ·refine a1d ?_;refine d7z ?_;exact d4J
   ·refine a1o ?_;refine cC ?_ ?_ <;> intro h6
    ·refine z_4 ?_;refine d4g ?_;intro u hu;refine b3Q ?_;exact d3z
    ·refine D6 ?_;refine cC ?_ ?_ <;> intro h7
     ·refine z_4 ?_;refine d5Z ?_;intro u hu;refine b3Q ?_;exact d3V
     ·refine a1d ?_;refine d7z ?_;exact d4J
theorem d7q (l:List Int) (nn:Bool) (k:Nat) (hat:k<=900000000) (hl:l.length<=maxLen) (σ:List b9) (q:Nat) (hk:σ[q]? = some (p9 l nn k)):b8 CC 35 [.ptr q 0] σ fun r σ'=>∃ a:Ky × Nat,r = .ret (.agg a.1.cells)/\σ'=σ.set q (p9 l nn a.2)/\(b2B a.1/\(k<=a.2/\a.2<=k+3)) :=
 a2Z (ob:=p9 l nn k) (c:=fun a:Ky × Nat=>.agg a.1.cells) (S:=fun a=>p9 l nn a.2) hCC (fun _ h=>by cases h) (fun _=>pu_) (fun _=>B8 _ _ _) (B8 _ _ _) rfl
  (a6V (c:=fun a:Ky × Nat=>.agg a.1.cells) (S:=fun a=>p9 l nn a.2) hCC (fun _=>B8 _ _ _) (d1u l nn k hat hl)) σ q hk
def a8I (l:List Ky):Prop:=∀ x∈l,b2B x
theorem a8I.snoc {l:List Ky} {x:Ky} (h:a8I l) (hx:b2B x):a8I (l++[x]):=fun y hy=>by
 rcases X1.1 hy with hy | hy
 ·exact h y hy
 ·rw [c0J.1 hy];exact hx
theorem d1b (l:List Int) (nn:Bool) (k:Nat) (hat:k<=800000000) (hl:l.length<=maxLen):b8 CC 13 [.ptr 0 0] [p9 l nn k] fun r σ'=>∃ (a:List Ky × Nat) (rest:List b9) (c0:CV),σ'=p9 l nn a.2::rest/\r = .ret c0/\Cls 1 σ' c0 (.list (a.1.map Ky.cv) (gnn a.1.length) none)/\a.1.length<=8/\a8I a.1/\(k<=a.2/\a.2<=k+60):=by
 have hb:=a6d (v:=b00 l k) (n:=8) om_;have hb1:0<=C7 l k 8:=hb.1;have hb2:C7 l k 8 < 8:=hb.2;refine cO Tryz.func13 ?_;refine z_6 ?_;refine Q7 ?_;refine de rfl a5K o7 (H6 l nn k _ 0 rfl om_ hl 8 om_) rfl ?_;intro _ _;refine b13 ?_;refine B2 hCC 1 rfl (α:=List Ky × Nat) (fun x=>[(0,.ptr 0 0),(3,(.list (x.1.map Ky.cv) (gnn x.1.length) (G9 x.1.length 1))),(4,(iv (C7 l k 8 - (x.1.length:Int))))]) (fun x=>[p9 l nn x.2,u0 x.1.length]) (fun x=>(x.1.length:Int)<=C7 l k 8/\(k+1<=x.2/\x.2<=k+1+7*x.1.length)/\a8I x.1) (fun x=>8 - x.1.length) ⟨([],k+1),[0,7],⟨sp_ hb1,si_,fun x hx=>by simp at hx⟩,⟨rfl,rfl⟩,⟨a1g,a1g,⟨tt,(by first|exact ur_|exact .same (congrArg (fun x=>iv x) (by simp:C7 l k 8=C7 l k 8 - ((([]:List Ky).length:Nat):Int))) uo_)⟩,tt⟩,(by repeat' (first|exact tt|exact .inl rfl|exact .inr ⟨_,rfl,.same rfl C3⟩|exact .inr ⟨_,rfl,.same (gobj_snoc _ _ _) C3⟩|exact .inr ⟨_,rfl,.same rfl (by repeat' (first|exact tt|exact .val _|exact .ptr (nb rfl)|exact .map (nb rfl)|exact b8A | refine o9 ?_ | refine ⟨?_,?_⟩))⟩|exact .inr ⟨_,rfl,.box (by repeat' (first|exact tt|exact .same rfl uo_|exact .ptr rfl|exact .map rfl|exact .vec rfl|exact D2.grow (f:=Ky.cv) (fun _=>⟨.val _,.val _,.val _,tt⟩) rfl | refine ⟨?_,?_⟩))⟩ | refine ⟨?_,?_⟩))⟩ ?_;intro ⟨acc,p⟩ ⟨hi,⟨hp1,hp2⟩,hs⟩;dsimp only at hi hp1 hp2 hs ⊢;refine a2Q ?_;refine cC ?_ ?_ <;> intro h1
 ·have hlt:(acc.length:Int) < C7 l k 8:=sm_ h1;refine X9 ?_;refine de rfl Tryz.call35 ⟨tt,tt⟩ (d7q l nn p om_ hl _ 0 rfl) rfl ?_;rintro ⟨x,p2⟩ ⟨hx,hq1,hq2⟩;dsimp only at hx hq1 hq2 ⊢;refine c8J ?_;refine a9l ?_;refine de rfl a5K o7 (H6 l nn p2 _ 0 rfl om_ hl 20 om_) rfl ?_;intro _ _;refine a2m ?_;refine cC ?_ ?_ <;> intro h2
  ·refine z_4 ?_;refine cY (A2 ([0,8,-1].map icv) rfl ⟨rfl,rfl,rfl,tt⟩ t_4 t_2 t_6 rfl rfl rfl rfl rfl rfl rfl rfl rfl) ?_;refine de rfl d0K i7 (a3G l nn (p2+1) _ 0 rfl om_ hl [0,8,-1] si_ si_) rfl ?_;intro v hv;refine cY d4M ?_;refine b9Z ?_;refine z_4 ?_;refine cY a3a ?_;refine cY (A2 [Ky.cv ({ x with k:=v})] rfl ⟨tt,tt⟩ a7h a4J a7o rfl rfl rfl rfl rfl rfl rfl rfl rfl) ?_;refine cD (C5 rfl tt tt rfl si_ q_2 a7h a4J c1U a7o rfl (.inr rfl) q_8 d2c E7 ((acc++[{ x with k:=v}]).map Ky.cv) (acc++[{ x with k:=v}]).length si_ si_ ?_);refine a9m ?_;exact ⟨(acc++[{ x with k:=v}],p2+2),[0,3],⟨by simp;omega,by simp;omega,by simp;omega,hs.snoc ⟨hx.1,hx.2⟩⟩,⟨rfl,rfl⟩,⟨a1g,a1g,⟨tt,(by first|exact ur_|exact .same (congrArg (fun x=>iv x) (by simp;omega:C7 l k 8 - (acc.length:Int) - 1=C7 l k 8 - ((acc++[{ x with k:=v}]).length:Int))) uo_)⟩,tt⟩,(by repeat' (first|exact tt|exact .inl rfl|exact .inr ⟨_,rfl,.same rfl C3⟩|exact .inr ⟨_,rfl,.same (gobj_snoc _ _ _) C3⟩|exact .inr ⟨_,rfl,.same rfl (by repeat' (first|exact tt|exact .val _|exact .ptr (nb rfl)|exact .map (nb rfl)|exact b8A | refine o9 ?_ | refine ⟨?_,?_⟩))⟩|exact .inr ⟨_,rfl,.box (by repeat' (first|exact tt|exact .same rfl uo_|exact .ptr rfl|exact .map rfl|exact .vec rfl|exact D2.grow (f:=Ky.cv) (fun _=>⟨.val _,.val _,.val _,tt⟩) rfl | refine ⟨?_,?_⟩))⟩ | refine ⟨?_,?_⟩))⟩
  ·refine D6 ?_;refine cC ?_ ?_ <;> intro h3
   ·refine z_4 ?_;refine cY (A2 (([[],[65],[97,46,98],[120,47,121]]:List Str).map scv) rfl ⟨rfl,rfl,rfl,rfl,tt⟩ t_1 t_0 t_3 rfl rfl rfl rfl rfl rfl rfl rfl rfl) ?_;refine de rfl a2n i7 (F3 l nn (p2+1) _ 0 rfl om_ hl ([[],[65],[97,46,98],[120,47,121]]:List Str) si_ si_) rfl ?_;intro v hv;have hv8:v.length<=8:=by revert v;decide
    refine d7e ?_;refine b1y ?_;refine cY a3a ?_;refine cY (A2 [Ky.cv ({ x with a:=v})] rfl ⟨tt,tt⟩ a7h a4J a7o rfl rfl rfl rfl rfl rfl rfl rfl rfl) ?_;refine cD (C5 rfl tt tt rfl si_ q_2 a7h a4J c1U a7o rfl (.inr rfl) q_8 d2c E7 ((acc++[{ x with a:=v}]).map Ky.cv) (acc++[{ x with a:=v}]).length si_ si_ ?_);refine a9m ?_;exact ⟨(acc++[{ x with a:=v}],p2+2),[0,3],⟨by simp;omega,by simp;omega,by simp;omega,hs.snoc ⟨hv8,hx.2⟩⟩,⟨rfl,rfl⟩,⟨a1g,a1g,⟨tt,(by first|exact ur_|exact .same (congrArg (fun x=>iv x) (by simp;omega:C7 l k 8 - (acc.length:Int) - 1=C7 l k 8 - ((acc++[{ x with a:=v}]).length:Int))) uo_)⟩,tt⟩,(by repeat' (first|exact tt|exact .inl rfl|exact .inr ⟨_,rfl,.same rfl C3⟩|exact .inr ⟨_,rfl,.same (gobj_snoc _ _ _) C3⟩|exact .inr ⟨_,rfl,.same rfl (by repeat' (first|exact tt|exact .val _|exact .ptr (nb rfl)|exact .map (nb rfl)|exact b8A | refine o9 ?_ | refine ⟨?_,?_⟩))⟩|exact .inr ⟨_,rfl,.box (by repeat' (first|exact tt|exact .same rfl uo_|exact .ptr rfl|exact .map rfl|exact .vec rfl|exact D2.grow (f:=Ky.cv) (fun _=>⟨.val _,.val _,.val _,tt⟩) rfl | refine ⟨?_,?_⟩))⟩ | refine ⟨?_,?_⟩))⟩
   ·refine D6 ?_;refine cC ?_ ?_ <;> intro h4
    ·refine z_4 ?_;refine cY (A2 (([[],[66],[102]]:List Str).map scv) rfl ⟨rfl,rfl,rfl,tt⟩ t_1 t_0 t_3 rfl rfl rfl rfl rfl rfl rfl rfl rfl) ?_;refine de rfl a2n i7 (F3 l nn (p2+1) _ 0 rfl om_ hl ([[],[66],[102]]:List Str) si_ si_) rfl ?_;intro v hv;have hv8:v.length<=8:=by revert v;decide
     refine d7e ?_;refine b1y ?_;refine cY a3a ?_;refine cY (A2 [Ky.cv ({ x with b:=v})] rfl ⟨tt,tt⟩ a7h a4J a7o rfl rfl rfl rfl rfl rfl rfl rfl rfl) ?_;refine cD (C5 rfl tt tt rfl si_ q_2 a7h a4J c1U a7o rfl (.inr rfl) q_8 d2c E7 ((acc++[{ x with b:=v}]).map Ky.cv) (acc++[{ x with b:=v}]).length si_ si_ ?_);refine a9m ?_;exact ⟨(acc++[{ x with b:=v}],p2+2),[0,3],⟨by simp;omega,by simp;omega,by simp;omega,hs.snoc ⟨hx.1,hv8⟩⟩,⟨rfl,rfl⟩,⟨a1g,a1g,⟨tt,(by first|exact ur_|exact .same (congrArg (fun x=>iv x) (by simp;omega:C7 l k 8 - (acc.length:Int) - 1=C7 l k 8 - ((acc++[{ x with b:=v}]).length:Int))) uo_)⟩,tt⟩,(by repeat' (first|exact tt|exact .inl rfl|exact .inr ⟨_,rfl,.same rfl C3⟩|exact .inr ⟨_,rfl,.same (gobj_snoc _ _ _) C3⟩|exact .inr ⟨_,rfl,.same rfl (by repeat' (first|exact tt|exact .val _|exact .ptr (nb rfl)|exact .map (nb rfl)|exact b8A | refine o9 ?_ | refine ⟨?_,?_⟩))⟩|exact .inr ⟨_,rfl,.box (by repeat' (first|exact tt|exact .same rfl uo_|exact .ptr rfl|exact .map rfl|exact .vec rfl|exact D2.grow (f:=Ky.cv) (fun _=>⟨.val _,.val _,.val _,tt⟩) rfl | refine ⟨?_,?_⟩))⟩ | refine ⟨?_,?_⟩))⟩
    ·refine a6G ?_;refine cY a3a ?_;refine cY (A2 [Ky.cv (x)] rfl ⟨tt,tt⟩ a7h a4J a7o rfl rfl rfl rfl rfl rfl rfl rfl rfl) ?_;refine cD (C5 rfl tt tt rfl si_ q_2 a7h a4J c1U a7o rfl (.inr rfl) q_8 d2c E7 ((acc++[x]).map Ky.cv) (acc++[x]).length si_ si_ ?_);refine a9m ?_;exact ⟨(acc++[x],p2+1),[0,3],⟨by simp;omega,by simp;omega,by simp;omega,hs.snoc hx⟩,⟨rfl,rfl⟩,⟨a1g,a1g,⟨tt,(by first|exact ur_|exact .same (congrArg (fun x=>iv x) (by simp;omega:C7 l k 8 - (acc.length:Int) - 1=C7 l k 8 - ((acc++[x]).length:Int))) uo_)⟩,tt⟩,(by repeat' (first|exact tt|exact .inl rfl|exact .inr ⟨_,rfl,.same rfl C3⟩|exact .inr ⟨_,rfl,.same (gobj_snoc _ _ _) C3⟩|exact .inr ⟨_,rfl,.same rfl (by repeat' (first|exact tt|exact .val _|exact .ptr (nb rfl)|exact .map (nb rfl)|exact b8A | refine o9 ?_ | refine ⟨?_,?_⟩))⟩|exact .inr ⟨_,rfl,.box (by repeat' (first|exact tt|exact .same rfl uo_|exact .ptr rfl|exact .map rfl|exact .vec rfl|exact D2.grow (f:=Ky.cv) (fun _=>⟨.val _,.val _,.val _,tt⟩) rfl | refine ⟨?_,?_⟩))⟩ | refine ⟨?_,?_⟩))⟩
 ·refine a2y ?_;exact ⟨_,j2 rfl tt c4,⟨(acc,p),_,_,rfl,rfl,.tok (fun r hr c hc=>(C4 (f:=Ky.cv) (fun _=>S9.all ⟨.val _,.val _,.val _,tt⟩) _) r hr c hc),by show acc.length<=8;omega,hs,by show k<=p;omega,by show p<=k+60;omega⟩⟩
theorem d1X (l:List Int) (nn:Bool) (k:Nat) (hat:k<=800000000) (hl:l.length<=maxLen) (σ:List b9) (q:Nat) (hk:σ[q]? = some (p9 l nn k)):b8 CC 13 [.ptr q 0] σ fun r σ'=>∃ a:List Ky × Nat,r = .ret (.list (a.1.map Ky.cv) (gnn a.1.length) none)/\σ'=σ.set q (p9 l nn a.2)/\(a.1.length<=8/\a8I a.1/\(k<=a.2/\a.2<=k+60)) :=
 a2Z (ob:=p9 l nn k) (c:=fun a:List Ky × Nat=>.list (a.1.map Ky.cv) (gnn a.1.length) none) (S:=fun a=>p9 l nn a.2) hCC (fun _ h=>by cases h) (fun _=>a03 _ _) (fun _=>B8 _ _ _) (B8 _ _ _) rfl
  (a6V (c:=fun a:List Ky × Nat=>.list (a.1.map Ky.cv) (gnn a.1.length) none) (S:=fun a=>p9 l nn a.2) hCC (fun _=>B8 _ _ _) (d1b l nn k hat hl)) σ q hk
def sub (s:Str) (a e:Nat):Str:=(s.take e).drop a
theorem c2Y {s:Str} {e:Nat} (h:e<=s.length):(sub s a e).length=e - a:=by simp [sub];omega
def preB (p s:Str):Bool:=p.isPrefixOf s
def b93 (p s:Str):Bool:=decide (p.length<=s.length) && decide (s.drop (s.length - p.length)=p)
theorem d6L (s p:Str) {x y:Bool} (hx:x=decide ((s.length:Int)>=p.length)) (hy:x=true->y=decide ((s.take p.length).drop 0=p)):(x && y)=preB p s:=by
 subst hx;by_cases h:(s.length:Int)>=p.length
 ·rw [hy (a2d h),a2d h,b74,a8G,preB];by_cases h2:s.take p.length=p
  ·have:p.isPrefixOf s=true:=by rw [b68];exact ⟨s.drop p.length,by rw [show p++s.drop p.length=s.take p.length++s.drop p.length by rw [h2]];exact c40 _ _⟩
   simp [h2,this]
  ·have:p.isPrefixOf s=false:=by
    cases hq:p.isPrefixOf s with
    | false=>rfl
    | true =>
     rw [b68] at hq;obtain ⟨t,rfl⟩:=hq;exact absurd (List.take_left' rfl) h2
   simp [h2,this]
 ·have:p.isPrefixOf s=false:=by
   cases hq:p.isPrefixOf s with
   | false=>rfl
   | true =>
    rw [b68] at hq;obtain ⟨t,rfl⟩:=hq;exfalso;apply h;simp;omega
  rw [preB,this,a1W h];rfl
theorem d8g (s p:Str) {x y:Bool} (hx:x=decide ((s.length:Int)>=p.length)) (hy:x=true->y=decide ((s.take s.length).drop (s.length - p.length)=p)):(x && y)=b93 p s:=by
 subst hx;unfold b93;by_cases h:(s.length:Int)>=p.length
 ·rw [hy (a2d h),a2d h,a7O,a2d (show p.length<=s.length by omega)]
 ·rw [a1W h,a1W (show ¬ p.length<=s.length by omega)];rfl
theorem b01 (s p:Str) (σ:List b9):b8 CC 275 [(sv s),(sv p)] σ fun r σ'=>r = .ret (.val (.bool (preB p s)))/\σ'=σ:=by
 refine an_ Tryz.func275 ?_;refine U5 ?_;refine b38 ?_;refine cY X5 ?_;refine a9H ?_;refine cG a4r ?_;refine cG (fun hg=>J7 (h:=p.length) rfl hg rfl t_5 rfl ⟨hg,_,_,rfl,by first|omega|(simp at hg;omega),by first|omega|(simp at hg;omega)⟩ om_ (sm_ hg)) ?_;refine b9I ?_;refine a3j ?_;exact ⟨_,j2 rfl tt c4,_,_,rfl,rfl,j7 (d6L s p rfl fun _=>rfl)⟩
theorem a6u (s p:Str) (σ:List b9):b8 CC 234 [(sv s),(sv p)] σ fun r σ'=>r = .ret (.val (.bool (preB p s)))/\σ'=σ:=by
 refine an_ Tryz.func234 ?_;refine a11 ?_;refine yc rfl Tryz.call275 i7 (b01 s p _) ?_;exact c9c
theorem b2H (s p:Str) (hs:s.length<=1000000000000) (hp:p.length<=1000000000000) (σ:List b9):b8 CC 188 [(sv s),(sv p)] σ fun r σ'=>r = .ret (.val (.bool (b93 p s)))/\σ'=σ:=by
 refine an_ Tryz.func188 ?_;refine U5 ?_;refine b38 ?_;refine cY X5 ?_;refine a9H ?_;refine cG a4r ?_;refine cG T7 ?_;refine cG a4r ?_;refine cG (fun hg=>b1v rfl hg hg rfl rfl b2f b2f) ?_;refine cG (fun hg=>J7 (a:=(s.length - p.length)) rfl hg rfl t_5 ⟨hg,_,_,rfl,by first|omega|(simp at hg;omega),by first|omega|(simp at hg;omega)⟩ rfl (sm_ hg) (n_4 _)) ?_;refine b9I ?_;refine a3j ?_;exact ⟨_,j2 rfl tt c4,_,_,rfl,rfl,j7 (d8g s p rfl fun _=>rfl)⟩
theorem a6g (s p:Str) (hs:s.length<=1000000000000) (hp:p.length<=1000000000000) (σ:List b9):b8 CC 152 [(sv s),(sv p)] σ fun r σ'=>r = .ret (.val (.bool (b93 p s)))/\σ'=σ:=by
 refine an_ Tryz.func152 ?_;refine a11 ?_;refine yc rfl Tryz.call188 i7 (b2H s p hs hp _) ?_;exact c9c
theorem c0y {s:Str} {e:Nat} (h:e < s.length):s[e]? = some (s[e]?.getD 0):=by simp [h]
theorem c3k {p s:Str} (h:preB p s=true):p.length<=s.length:=by
 unfold preB at h;rw [b68] at h;exact h.length_le
structure Tok where
 k:Int
 t:Str
 n:Int
 at_:Int
variable {T:List Tok} {t:Tok}
abbrev Tok.cells (x:Tok):List CV:=[iv x.k,sv x.t,iv x.n,iv x.at_]
def Tok.cv (x:Tok):List CV:=x.cells
theorem a26 (l:List Tok) (nn:Bool):r9 (.list (l.map Tok.cv) nn none):=N5 (f:=Tok.cv) (fun _=>⟨.val _,.val _,.val _,.val _,tt⟩) l nn
theorem V2 (n:Nat) (l:List Tok) (nn:Bool):Old n (.list (l.map Tok.cv) nn none):=(a26 l nn).old
def a4E (l:Str):Int:=l.foldl (fun n b=>min (10*n+((b.toNat:Int) - 48)) 9007199254740993) 0
def a3S:Str->Option Nat
 | []=>none
 | b::l=>if 32<=b.toNat/\b.toNat<=126 then (if b.toNat=34 then some 0 else (a3S l).map (· + 1)) else none
def D7 (s:Str) (a:Nat) (b:UInt8):Tok × Int × Int :=
 if k8 b.toNat=1 then
  (if 24 < A0 s a [1,2,3] - a then (⟨0,[],0,0⟩,0,2) else (⟨1,sub s a (A0 s a [1,2,3]),0,0⟩,A0 s a [1,2,3],0))
 else if k8 b.toNat=2 then
  (if 9007199254740992 < a4E (sub s a (A0 s a [2])) then (⟨0,[],0,0⟩,0,3) else (⟨2,[],a4E (sub s a (A0 s a [2])),0⟩,A0 s a [2],0))
 else if k8 b.toNat=7 then
  (match a3S (s.drop (a+1)) with
   | none=>(⟨0,[],0,0⟩,0,9)
   | some n=>(⟨3,sub s (a+1) (a+1+n),0,0⟩,a+1+n+1,0))
 else if k8 b.toNat=8 then
  (if preB [61,61] (s.drop a)=true then (⟨4,sub s a (a+2),0,0⟩,a+2,0) else (⟨4,sub s a (a+1),0,0⟩,a+1,0))
 else (⟨0,[],0,0⟩,0,9)
theorem a3d {s:Str} {e:Nat} {b:UInt8} (h:s[e]? = some b):a3S (s.drop e)=if 32<=b.toNat/\b.toNat<=126 then (if b.toNat=34 then some 0 else (a3S (s.drop (e+1))).map (· + 1)) else none:=by
 obtain ⟨hlt,rfl⟩:=n_1.1 h;rw [Q4 hlt];rfl
theorem b3R {s:Str} {e:Nat} (h:s.length<=e):a3S (s.drop e)=none:=by rw [S8 h];rfl
theorem c4o {l:Str} {j:Nat} {b:UInt8} (h:l[j]? = some b):a4E (l.take (j+1))=min (10*a4E (l.take j)+((b.toNat:Int) - 48)) 9007199254740993:=by
 obtain ⟨hlt,rfl⟩:=n_1.1 h;rw [<- b4U hlt,a4E,List.foldl_append];rfl
theorem b3A {l:Str} (h:∀ b∈l,48<=b.toNat/\b.toNat<=57):0<=a4E l/\a4E l<=9007199254740993:=by
 unfold a4E
 suffices ∀ (l:Str) (n:Int),0<=n->n<=9007199254740993->(∀ b∈l,48<=b.toNat/\b.toNat<=57)->0<=l.foldl (fun n b=>min (10*n+((b.toNat:Int) - 48)) 9007199254740993) n/\l.foldl (fun n b=>min (10*n+((b.toNat:Int) - 48)) 9007199254740993) n<=9007199254740993 from this l 0 om_ om_ h
 intro l
 induction l with
 | nil=>intro n h0 h1 _;exact ⟨h0,h1⟩
 | cons b l ih =>
  intro n h0 h1 h;have hb:=h b si_;exact ih (min (10*n+((b.toNat:Int) - 48)) 9007199254740993) om_ om_ fun c hc=>h c (by simp [hc])
theorem a5u {b:UInt8}:k8 b.toNat=2↔48<=b.toNat/\b.toNat<=57:=by
 unfold k8;constructor
 ·intro h;split at h
  ·omega
  ·split at h
   ·omega
   ·exfalso;revert h;repeat' split
    all_goals omega
 ·intro h;rw [if_neg om_,if_pos om_]
theorem d9T {c:Nat} (h:48<=c/\c<=57):IntKind.i64.wrap (IntKind.u8.wrap ((c:Int) - 48))=(c:Int) - 48:=by
 obtain ⟨h1,h2⟩:=h;simp [IntKind.wrap,IntKind.bits,IntKind.signed];omega
theorem a17 {p:UInt8->Bool} {b:UInt8}:∀ {l:Str},b∈l.takeWhile p->p b=true
 | [],h=>by simp at h
 | c::l,h=>by
  rw [b8g] at h;split at h
  ·rename_i hc
   rcases R5.1 h with rfl | h
   ·exact hc
   ·exact a17 h
  ·simp at h
theorem b4O {s:Str}:∀ b∈sub s a (A0 s a [2]),48<=b.toNat/\b.toNat<=57:=by
 intro b hb;have e:sub s a (A0 s a [2])=(s.drop a).takeWhile (inK [2]):=by
  unfold sub A0;rw [List.drop_take,Nat.add_sub_cancel_left];have h:=List.takeWhile_prefix (inK [2]) (l:=s.drop a);exact (List.prefix_iff_eq_take.1 h).symm
 rw [e] at hb;have:=a17 hb;simp [inK] at this;exact a5u.1 this
theorem c4n (s:Str) (a:Nat) (b:UInt8) (hb:s[a]? = some b) (m:List (Int × Int)) (hm:KM m) (hs:s.length<=1000000000000):b8 CC 190 [(sv s),iv a,.map 0] [b9.map (gm kb kv m)] fun r τ=>∃ _:Unit,a1e [b9.map (gm kb kv m)].length τ r (.ret (.tup [.agg (D7 s a b).1.cells,(iv ((D7 s a b).2.1)),(iv ((D7 s a b).2.2))]))/\a8V [b9.map (gm kb kv m)].length τ τ [b9.map (gm kb kv m)]/\[b9.map (gm kb kv m)].length<=[b9.map (gm kb kv m)].length/\True:=by
 have hal:=(n_1.1 hb).1;refine cO Tryz.func190 ?_;refine b0N ?_;refine a4W ?_;refine A5 ?_;refine a0M ?_;refine cY b8N ?_;refine cY d8W ?_;refine a2m ?_;refine cC ?_ ?_ <;> intro h1
 ·have hk1:k8 b.toNat=1:=by rw [<- hm];simpa using h1
  have hsp:=a1S (ks:=[1,2,3]) (show a<=s.length by omega);refine a0M ?_;refine cY (A2 ([1,2,3].map icv) rfl ⟨rfl,rfl,rfl,tt⟩ t_4 t_2 t_6 rfl rfl rfl rfl rfl rfl rfl rfl rfl) ?_;refine ye rfl c9z a1v (a7H hm om_ hs de_ rfl) rfl ?_;refine z_1 ?_;refine a1Q ?_;refine cY a9w ?_;refine O1 ?_;refine cC ?_ ?_ <;> intro h2
  ·have hn:24 < A0 s a [1,2,3] - a:=sm_ h2;refine z_0 ?_;refine c16 ?_;refine a3P ?_;exact ⟨_,j9 (rs:=[.cell 6 231,.tmp 7,.tmp 8]) (cs:=[_,_,_]) rfl b0R (n_2 rfl),⟨(),.ret (W1 (by rw [D7,if_pos hk1,if_pos hn];rfl) pu_),⟨.same (W5 _ _),tt⟩,n_4 _,tt⟩⟩
  ·have hn:¬ 24 < A0 s a [1,2,3] - a:=sm_ h2;refine a6J ?_;refine cY (J7 (a:=a) (h:=(A0 s a [1,2,3])) rfl tt rfl t_5 a30 a30 om_ om_) ?_;refine cY c0W ?_;refine b4f ?_;refine a9Q ?_;exact ⟨_,j9 (rs:=[.cell 6 231,.tmp 7,.tmp 8]) (cs:=[_,_,_]) rfl b0R (n_2 rfl),⟨(),.ret (W1 (by rw [D7,if_pos hk1,if_neg hn];rfl) pu_),⟨.same (W5 _ _),tt⟩,n_4 _,tt⟩⟩
 ·have hk1:¬ k8 b.toNat=1:=by rw [<- hm];simpa using h1
  refine D6 ?_;refine cC ?_ ?_ <;> intro h3
  ·have hk2:k8 b.toNat=2:=by rw [<- hm];simpa using h3
   have hsp:=a1S (ks:=[2]) (show a<=s.length by omega);have hdg:=b4O (s:=s) (a:=a);have hln:=c2Y (a:=a) hsp.2;generalize hl:sub s a (A0 s a [2])=ds at hdg hln;refine a0M ?_;refine cY (A2 ([2].map icv) rfl ⟨rfl,tt⟩ t_4 t_2 t_6 rfl rfl rfl rfl rfl rfl rfl rfl rfl) ?_;refine ye rfl c9z a1v (a7H hm om_ hs de_ rfl) rfl ?_;refine z_1 ?_;refine b41 ?_;refine a0M ?_;refine cY (J7 (a:=a) (h:=(A0 s a [2])) rfl tt rfl t_5 a30 a30 om_ om_) ?_;refine cY (d4l rfl tt rfl t_5 t_7 b28 (by have:=c2Y (a:=a) hsp.2;unfold sub at this;omega)) ?_;refine cY a9r ?_;refine Z0 ?_;refine j5 hCC (α:=Nat) (fun j=>[(6,.ptr 1 0),(10,(iv (A0 s a [2]:Int))),(11,(iv (a4E (ds.take j)))),(50,(.list (ds.map bcv) true none)),(51,iv ds.length),(52,iv j)]) (fun _=>[b9.map (gm kb kv m),.box (Tok.cells ⟨0,[],0,0⟩)]) (fun j=>j<=ds.length) (fun j=>ds.length - j) 0 (n_3 _) ⟨m0,m0,m0,⟨tt,(by rw [<- hl];rfl)⟩,⟨tt,(by rw [<- hl];rfl)⟩,m0,tt⟩ (extra0:=[]) rfl r5 uz_ ?_;intro j hj;refine C9 ?_;refine cC ?_ ?_ <;> intro h4
   ·have hjl:(j:Int) < ds.length:=sp_ h4;obtain ⟨c,hc⟩:=gx_ ds j;have hcd:=hdg c (n_0 hc);have hnb:=b3A (l:=ds.take j) fun c hc=>hdg c (b2c hc);refine W7 ?_;refine cY (r8 rfl tt tt rfl rfl t_7 t_9 om_ (j3 hc) rfl) ?_;refine cY (T0 rfl tt rfl c6r rfl) ?_;refine a9T ?_;refine cY (b7M rfl rfl tt rfl rfl om_ om_) ?_;refine cY j1 ?_;refine cY S7 ?_;refine cY (a7a rfl tt rfl b28 d0U (show IntKind.i64.wrap (IntKind.u8.wrap ((c.toNat:Int) - 48))=(c.toNat:Int) - 48 from d9T hcd)) ?_;refine cY a4s ?_;refine cY (d5O rfl tt rfl rfl rfl) ?_;refine a1j ?_;exact ⟨(j+1),_,⟨om_,om_⟩,⟨m0,m0,⟨tt,(congrArg (fun z:Int=>iv z) (c4o hc).symm)⟩,m0,m0,m0,tt⟩,rfl⟩
   ·have hjl:ds.length<=j:=by
     have:¬ (j:Int) < ds.length:=sp_ h4;omega
    rw [U3 hjl] at *;refine A4 ?_;refine a2Q ?_;refine cC ?_ ?_ <;> intro h5
    ·have hn:9007199254740992 < a4E (sub s a (A0 s a [2])):=by rw [hl];simpa using h5
     refine z_0 ?_;refine c16 ?_;refine a3P ?_;exact ⟨_,j9 (rs:=[.cell 6 231,.tmp 7,.tmp 8]) (cs:=[_,_,_]) rfl b0R (n_2 rfl),⟨(),.ret (W1 (by rw [D7,if_neg hk1,if_pos hk2,if_pos hn];rfl) pu_),⟨.same (W5 _ _),tt⟩,n_4 _,tt⟩⟩
    ·have hn:¬ 9007199254740992 < a4E (sub s a (A0 s a [2])):=by rw [hl];simpa using h5
     refine a1m ?_;refine cY c0W ?_;refine b4f ?_;refine a9Q ?_;exact ⟨_,j9 (rs:=[.cell 6 231,.tmp 7,.tmp 8]) (cs:=[_,_,_]) rfl b0R (n_2 rfl),⟨(),.ret (W1 (by rw [D7,if_neg hk1,if_pos hk2,if_neg hn,hl];rfl) pu_),⟨.same (W5 _ _),tt⟩,n_4 _,tt⟩⟩
  ·have hk2:¬ k8 b.toNat=2:=by rw [<- hm];simpa using h3
   refine D6 ?_;refine cC ?_ ?_ <;> intro h6
   ·have hk7:k8 b.toNat=7:=by rw [<- hm];simpa using h6
    refine a1z ?_;refine b78 ?_;refine F5 ?_;refine j5 hCC (α:=Nat) (fun e=>[(0,(sv s)),(1,iv a),(6,.ptr 1 0),(14,iv e)]) (fun _=>[b9.map (gm kb kv m),.box (Tok.cells ⟨0,[],0,0⟩)]) (fun e=>a+1<=e/\e<=s.length/\a3S (s.drop (a+1))=(a3S (s.drop e)).map (· + (e - (a+1)))) (fun e=>s.length - e) (a+1) ⟨n_4 _,om_,by cases a3S (s.drop (a+1)) <;> simp⟩ tu_ (extra0:=[]) rfl r5 uz_ ?_;intro e ⟨he1,he2,he⟩;refine d6i ?_;refine cG d9j ?_;refine b1h ?_;refine cG d9j ?_;refine a9A ?_;refine cC ?_ ?_ <;> intro h7
    ·have hel:e < s.length/\32<=(s[e]?.getD 0).toNat/\(s[e]?.getD 0).toNat<=126:=sm_ h7;obtain ⟨c,hc,hcd⟩:∃ c,s[e]? = some c/\s[e]?.getD 0=c:=⟨s[e]?.getD 0,c0y hel.1,rfl⟩;rw [hcd] at hel;rw [a3d hc,if_pos hel.2] at he;refine a4O ?_;refine z_5 ?_;refine cY (L6 rfl tt tt rfl rfl t_5 om_ hc) ?_;refine O1 ?_;refine cC ?_ ?_ <;> intro h8
     ·have h34:c.toNat=34:=sm_ h8;rw [if_pos h34] at he;obtain ⟨n,rfl⟩:∃ n,e=a+1+n:=⟨e - (a+1),om_⟩;have he':a3S (s.drop (a+1))=some n:=by rw [he];simp
      refine z_5 ?_;refine c0n ?_;refine cY (J7 (a:=(a+1)) (h:=(a+1+n)) rfl tt rfl t_5 a30 a30 om_ om_) ?_;refine cY c0W ?_;refine a9P ?_;refine d0L ?_;refine a9Q ?_;exact ⟨_,j9 (rs:=[.cell 6 231,.tmp 7,.tmp 8]) (cs:=[_,_,_]) rfl b0R (n_2 rfl),⟨(),.ret (W1 (by rw [D7,if_neg hk1,if_neg hk2,if_pos hk7,he'];rfl) pu_),⟨.same (W5 _ _),tt⟩,n_4 _,tt⟩⟩
     ·have h34:¬ c.toNat=34:=sm_ h8;rw [if_neg h34] at he;refine a8q ?_;exact ⟨(e+1),_,⟨om_,om_,om_,by rw [he];cases a3S (s.drop (e+1)) <;> simp;omega⟩,tu_,rfl⟩
    ·have hno:a3S (s.drop e)=none:=by
      rcases a0c e s.length with h | h
      ·rw [a3d (c0y h),if_neg];intro hh;simp at h7;omega
      ·exact b3R h
     rw [hno] at he;refine U9 ?_;refine c16 ?_;refine a3P ?_;exact ⟨_,j9 (rs:=[.cell 6 231,.tmp 7,.tmp 8]) (cs:=[_,_,_]) rfl b0R (n_2 rfl),⟨(),.ret (W1 (by rw [D7,if_neg hk1,if_neg hk2,if_pos hk7,he];rfl) pu_),⟨.same (W5 _ _),tt⟩,n_4 _,tt⟩⟩
   ·have hk7:¬ k8 b.toNat=7:=by rw [<- hm];simpa using h6
    refine D6 ?_;refine cC ?_ ?_ <;> intro h9
    ·have hk8:k8 b.toNat=8:=by rw [<- hm];simpa using h9
     refine z_2 ?_;refine b78 ?_;refine a1Q ?_;refine cY (J7 (a:=a) rfl tt rfl t_5 a30 rfl om_ (n_4 _)) ?_;refine yc rfl Tryz.call234 o7 (a6u ((s.take s.length).drop a) [61,61] _) ?_;refine c8 ?_;refine cC ?_ ?_ <;> intro h10
     ·rw [a7O] at h10;have hp2:=c3k h10;rw [b9x] at hp2;have hp2:2<=s.length - a:=hp2;refine a74 ?_;refine a0M ?_;refine cY (J7 (a:=a) (h:=(a+2)) rfl tt rfl t_5 a30 a30 om_ om_) ?_;refine cY c0W ?_;refine b4f ?_;refine a9Q ?_;exact ⟨_,j9 (rs:=[.cell 6 231,.tmp 7,.tmp 8]) (cs:=[_,_,_]) rfl b0R (n_2 rfl),⟨(),.ret (W1 (by rw [D7,if_neg hk1,if_neg hk2,if_neg hk7,if_pos hk8,if_pos h10];rfl) pu_),⟨.same (W5 _ _),tt⟩,n_4 _,tt⟩⟩
     ·rw [a7O] at h10;have hp0:¬ preB [61,61] (s.drop a)=true:=by rw [h10];decide
      refine a6J ?_;refine cY (J7 (a:=a) (h:=(a+1)) rfl tt rfl t_5 a30 a30 om_ om_) ?_;refine cY c0W ?_;refine b4f ?_;refine a9Q ?_;exact ⟨_,j9 (rs:=[.cell 6 231,.tmp 7,.tmp 8]) (cs:=[_,_,_]) rfl b0R (n_2 rfl),⟨(),.ret (W1 (by rw [D7,if_neg hk1,if_neg hk2,if_neg hk7,if_pos hk8,if_neg hp0];rfl) pu_),⟨.same (W5 _ _),tt⟩,n_4 _,tt⟩⟩
    ·have hk8:¬ k8 b.toNat=8:=by rw [<- hm];simpa using h9
     refine a1d ?_;refine c16 ?_;refine a3P ?_;exact ⟨_,j9 (rs:=[.cell 6 231,.tmp 7,.tmp 8]) (cs:=[_,_,_]) rfl b0R (n_2 rfl),⟨(),.ret (W1 (by rw [D7,if_neg hk1,if_neg hk2,if_neg hk7,if_neg hk8];rfl) pu_),⟨.same (W5 _ _),tt⟩,n_4 _,tt⟩⟩
theorem d0l {s:Str} {b:UInt8} (hb:s[a]? = some b) {m:List (Int × Int)} (hm:KM m) (hs:s.length<=1000000000000) (hq:σ[q]? = some (.map (gm kb kv m))):b8 CC 190 [(sv s),iv a,.map q] σ fun r τ=>r = .ret (.tup [.agg (D7 s a b).1.cells,(iv ((D7 s a b).2.1)),(iv ((D7 s a b).2.2))])/\τ=σ :=
 b1X hCC (c7m m) pu_ hq (.cons (.val _) (.cons (.val _) (.cons (.map rfl) .nil))) (c4n s a b hb m hm hs)
def Q3 (s:Str) (a:Nat):Nat:=a+((s.drop a).takeWhile (· != 10)).length
theorem c3f:∀ (l:Str),(Go.Lib.indexByte l 10 < 0->(l.takeWhile (· != 10)).length=l.length)/\(0<=Go.Lib.indexByte l 10->Go.Lib.indexByte l 10=((l.takeWhile (· != 10)).length:Nat))
 | []=>⟨fun _=>rfl,fun h=>by rw [Go.Lib.indexByte] at h;omega⟩
 | b::l=>by
  have ih:=c3f l;rw [Go.Lib.indexByte,b8g];by_cases hb:b=10
  ·subst hb;exact ⟨fun h=>by simp at h,fun h=>by simp⟩
  ·have h1:(b != 10)=true:=sp_ hb;have h2:(b == 10)=false:=sp_ hb;rw [h1,h2];have hg:=Go.Lib.indexByte_ge l 10;simp only [if_true,if_false,n_7,c0a];by_cases h3:Go.Lib.indexByte l 10 = -1
   ·rw [h3];have:=ih.1 om_;exact ⟨fun _=>by simp;omega,fun h=>by simp at h⟩
   ·rw [if_neg (sp_ h3)];have:=ih.2 om_;exact ⟨fun h=>by omega,fun _=>by omega⟩
theorem a72 {s:Str} (h:a<=s.length):Q3 s a<=s.length:=by
 unfold Q3;have:=(List.takeWhile_sublist (· != 10) (l:=s.drop a)).length_le;rw [b9x] at this;omega
theorem b1S {s:Str} {b:UInt8} (h:s[a]? = some b) (hb:k8 b.toNat=6):a < Q3 s a:=by
 obtain ⟨hlt,rfl⟩:=n_1.1 h;unfold Q3;rw [Q4 hlt,b8g];have:(s[a] != 10)=true:=by
  cases hq:(s[a] != 10) with
  | true=>rfl
  | false =>
   have:s[a]=10:=sp_ hq;rw [this] at hb;revert hb;decide
 rw [this];simp
def a0C:Nat->Str->Nat->Option (List Tok)
 | 0,_,_=>none
 | f+1,s,i=>match s[A0 s i [5]]? with
  | none=>some [⟨5,[],0,(A0 s i [5]:Nat)⟩]
  | some b=>if k8 b.toNat=6 then a0C f s (Q3 s (A0 s i [5]))
   else if (D7 s (A0 s i [5]) b).2.2≠0 then none
   else (a0C f s (D7 s (A0 s i [5]) b).2.1.toNat).map (({ (D7 s (A0 s i [5]) b).1 with at_:=(A0 s i [5]:Nat)}:Tok)::·)
def a3B (s:Str):Option (List Tok):=if 16384 < s.length then none else a0C (s.length+1) s 0
theorem b8a {s:Str} (h:i1=A0 s i [5]) (h2:s.length<=i1):a0C (f+1) s i=some [⟨5,[],0,(i1:Nat)⟩]:=by
 subst h;rw [a0C,c0u h2]
theorem b64 {s:Str} {b:UInt8} (h:i1=A0 s i [5]) (h2:s[i1]? = some b) (h3:k8 b.toNat=6):a0C (f+1) s i=a0C f s (Q3 s i1):=by
 subst h;rw [a0C,h2];simp only;rw [if_pos h3]
theorem b6P {s:Str} {b:UInt8} (h:i1=A0 s i [5]) (h2:s[i1]? = some b) (h3:¬ k8 b.toNat=6) (h4:(D7 s i1 b).2.2≠0):a0C (f+1) s i=none:=by
 subst h;rw [a0C,h2];simp only;rw [if_neg h3,if_pos h4]
theorem b7w {s:Str} {b:UInt8} (h:i1=A0 s i [5]) (h2:s[i1]? = some b) (h3:¬ k8 b.toNat=6) (h4:¬ (D7 s i1 b).2.2≠0):a0C (f+1) s i=(a0C f s (D7 s i1 b).2.1.toNat).map (({ (D7 s i1 b).1 with at_:=(i1:Nat)}:Tok)::·):=by
 subst h;rw [a0C,h2];simp only;rw [if_neg h3,if_neg h4]
theorem c1y:∀ {l:Str} {n:Nat},a3S l=some n->n < l.length
 | [],n,h=>by cases h
 | b::l,n,h=>by
  rw [a3S] at h;split at h
  ·split at h
   ·injection h with h;subst h;simp
   ·cases hq:a3S l with
    | none=>rw [hq] at h;cases h
    | some k=>rw [hq] at h;injection h with h;subst h;have:=c1y hq;simp;omega
  ·cases h
theorem b6m {s:Str} {b:UInt8} {ks:List Int} (h:s[a]? = some b) (hk:inK ks b=true):a < A0 s a ks:=by
 rw [V1 h,if_pos hk];have:=(a1S (s:=s) (a:=a+1) (ks:=ks) (n_1.1 h).1).1;omega
theorem a55 {s:Str} {b:UInt8} (h:s[a]? = some b) (h4:¬ (D7 s a b).2.2≠0):∃ e:Nat,(D7 s a b).2.1=e/\a < e/\e<=s.length:=by
 have hlt:=(n_1.1 h).1;unfold D7 at h4 ⊢;split at h4
 ·rename_i hk;rw [if_pos hk];split at h4
  ·simp at h4
  ·rename_i hn;rw [if_neg hn];exact ⟨_,rfl,b6m h (by simp [inK,hk]),(a1S om_).2⟩
 ·rename_i hk;rw [if_neg hk];split at h4
  ·rename_i hk2;rw [if_pos hk2];split at h4
   ·simp at h4
   ·rename_i hn;rw [if_neg hn];exact ⟨_,rfl,b6m h (by simp [inK,hk2]),(a1S om_).2⟩
  ·rename_i hk2;rw [if_neg hk2];split at h4
   ·rename_i hk7;rw [if_pos hk7];cases hq:a3S (s.drop (a+1)) with
    | none=>rw [hq] at h4;simp at h4
    | some n =>
     have:=c1y hq;rw [b9x] at this;exact ⟨a+1+n+1,rfl,om_,om_⟩
   ·rename_i hk7;rw [if_neg hk7];split at h4
    ·rename_i hk8;rw [if_pos hk8]
     split
     ·rename_i hp;have:=c3k hp;rw [b9x] at this;have:2<=s.length - a:=this;exact ⟨a+2,rfl,om_,om_⟩
     ·exact ⟨a+1,rfl,om_,om_⟩
    ·simp at h4
abbrev c43:=List Tok × Bool × Int × Int
def d1p (s:Str) (x:c43):Prop:=(a3B s=some x.1/\x.2.1=true/\x.2.2.1=0/\x.2.2.2=0)\/(a3B s=none/\x.1=[]/\x.2.1=false/\x.2.2.2≠0)
abbrev c3V (x:c43):CV:=.tup [.list (x.1.map Tok.cv) x.2.1 none,iv x.2.2.1,iv x.2.2.2]
theorem c1h (s:Str) (hs:s.length<=1000000000000):b8 CC 153 [(sv s)] [] fun r τ=>∃ x:c43,a1e 0 τ r (.ret (c3V x))/\d1p s x:=by
 refine cO Tryz.func153 ?_;refine z_0 ?_;refine cY a2H ?_;refine a4W ?_;refine d0M 0 (fun _ _ _=>False) rfl ?_ (fun _ _ _ h=>h.elim);refine a1z ?_;refine b1D ?_;refine cC ?_ ?_ <;> intro h1
 ·have hl:16384 < s.length:=sm_ h1;refine z_0 ?_;refine cY a2H ?_;refine a3P ?_;exact ⟨_,j9 (rs:=[.tmp 2,.tmp 3,.tmp 4]) (cs:=[_,_,_]) rfl c4B (n_2 rfl),⟨([],false,0,2),by exact .ret (.tups ⟨.old (V2 _ [] false),.old (.val _),.old (.val _),tt⟩),.inr ⟨by rw [a3B,if_pos hl],rfl,rfl,de_⟩⟩⟩
 ·have hl:¬ 16384 < s.length:=sm_ h1;refine a1d ?_;refine dc rfl c7U trivial (b0Q _) ?_;intro m hm;refine z_1 ?_;refine b41 ?_;refine c8z ?_;refine F5 ?_;refine B2 hCC 1 rfl (α:=List Tok × Nat) (fun x=>[(0,(sv s)),(2,(.list (x.1.map Tok.cv) (gnn x.1.length) (G9 x.1.length 1))),(5,.map 0),(6,iv x.2)]) (fun x=>[.map (gm kb kv m),u0 x.1.length]) (fun x=>x.2<=s.length/\x.1.length<=x.2/\∃ f,s.length - x.2 < f/\a3B s=(a0C f s x.2).map (x.1++·)) (fun x=>s.length - x.2) ⟨([],0),[0,7],⟨n_3 _,n_4 _,s.length+1,si_,by rw [a3B,if_neg hl];simp⟩,⟨rfl,rfl⟩,ut_,(by repeat' (first|exact tt|exact .inl rfl|exact .inr ⟨_,rfl,.same rfl C3⟩|exact .inr ⟨_,rfl,.same (gobj_snoc _ _ _) C3⟩|exact .inr ⟨_,rfl,.same rfl (by repeat' (first|exact tt|exact .val _|exact .ptr (nb rfl)|exact .map (nb rfl)|exact d3k | refine o9 ?_ | refine ⟨?_,?_⟩))⟩|exact .inr ⟨_,rfl,.box (by repeat' (first|exact tt|exact .same rfl uo_|exact .ptr rfl|exact .map rfl|exact .vec rfl|exact D2.grow (f:=Tok.cv) (fun _=>⟨.val _,.val _,.val _,.val _,tt⟩) rfl | refine ⟨?_,?_⟩))⟩ | refine ⟨?_,?_⟩))⟩ ?_;intro ⟨acc,i⟩ ⟨hi,ha,f,hf,hlx⟩;dsimp only at hi ha hf hlx ⊢;obtain ⟨f,rfl⟩:∃ f',f=f'+1:=⟨f - 1,om_⟩;obtain ⟨i1,hi1⟩:∃ i1,i1=A0 s i [5]:=⟨_,rfl⟩;have hsp:=a1S (ks:=[5]) hi;rw [<- hi1] at hsp;refine F5 ?_;refine a0M ?_;refine cY (A2 ([5].map icv) rfl ⟨rfl,tt⟩ t_4 t_2 t_6 rfl rfl rfl rfl rfl rfl rfl rfl rfl) ?_;refine ye rfl c9z a1v ((by have:=a7H (ks:=[5]) (nn:=true) hm hi om_ de_ (σ:=[.map (gm kb kv m),u0 acc.length]) (q:=0) rfl;rw [<- hi1] at this;exact this)) rfl ?_;refine b43 ?_;refine z_5 ?_;refine cY X5 ?_;refine cY a5P ?_;refine z_1 ?_;refine cC ?_ ?_ <;> intro h2
  ·have hend:i1=s.length:=sm_ h2;rw [b8a hi1 om_] at hlx;refine z_5 ?_;refine cY c0W ?_;refine cY (A2 [Tok.cv ⟨5,[],0,(i1:Nat)⟩] rfl ⟨tt,tt⟩ b5c a3s a7M rfl rfl rfl rfl rfl rfl rfl rfl rfl) ?_;refine cD (C5 rfl tt tt rfl si_ q_2 b5c a3s c3l a7M rfl (.inr rfl) q_8 d3b E7 ((acc++[(⟨5,[],0,(i1:Nat)⟩:Tok)]).map Tok.cv) (acc++[(⟨5,[],0,(i1:Nat)⟩:Tok)]).length si_ si_ ?_);refine cY Q1 ?_;refine a3P ?_;exact ⟨_,j9 (rs:=[.tmp 2,.tmp 3,.tmp 4]) (cs:=[_,_,_]) rfl c4B (n_2 rfl),⟨(acc++[(⟨5,[],0,(i1:Nat)⟩:Tok)],gnn (acc++[(⟨5,[],0,(i1:Nat)⟩:Tok)]).length,0,0),by exact .ret (.tups ⟨.tok (fun r hr c hc=>(C4 (f:=Tok.cv) (fun _=>S9.all ⟨.val _,.val _,.val _,.val _,tt⟩) _) r hr c hc),.old (.val _),.old (.val _),tt⟩),.inl ⟨hlx,by rw [n_5];rfl,rfl,rfl⟩⟩⟩
  ·have hend:i1 < s.length:=by
    have:¬ (i1:Int)=s.length:=sp_ h2;omega
   obtain ⟨b,hb⟩:=gx_ s i1;refine a0M ?_;refine cY b8N ?_;refine cY d8W ?_;refine a73 ?_;refine cC ?_ ?_ <;> intro h3
   ·have hk:k8 b.toNat=6:=by rw [<- hm];simpa using h3
    rw [b64 hi1 hb hk] at hlx;have hl1:=b1S hb hk;have hl2:=a72 (s:=s) (a:=i1) om_;have hib:=c3f ((s.take s.length).drop i1);have hdl:((s.take s.length).drop i1).length=s.length - i1:=by simp
    have hle:Q3 s i1=i1+(((s.take s.length).drop i1).takeWhile (· != 10)).length:=by rw [Q3,a7O]
    have hig:=Go.Lib.indexByte_ge ((s.take s.length).drop i1) 10;refine z_5 ?_;refine cY (J7 (a:=i1) rfl tt rfl t_5 a30 rfl om_ (n_4 _)) ?_;refine yc rfl Tryz.call189 o7 (a6m ((s.take s.length).drop i1) 10 _) ?_;refine b1w ?_;refine cC ?_ ?_ <;> intro h4
    ·have hneg:Go.Lib.indexByte ((s.take s.length).drop i1) 10 < 0:=sp_ h4;have:=hib.1 hneg;have hle2:Q3 s i1=s.length:=by omega
     refine z_4 ?_;refine b38 ?_;refine cY a9w ?_;refine a7L ?_;refine cY a4s ?_;refine z_1 ?_;refine A4 ?_;exact ⟨(acc,Q3 s i1),[0,1],⟨om_,om_,by show acc.length<=Q3 s i1;omega,f,by show s.length - Q3 s i1 < f;omega,hlx⟩,⟨rfl,rfl⟩,d8H,(by repeat' (first|exact tt|exact .inl rfl|exact .inr ⟨_,rfl,.same rfl C3⟩|exact .inr ⟨_,rfl,.same (gobj_snoc _ _ _) C3⟩|exact .inr ⟨_,rfl,.same rfl (by repeat' (first|exact tt|exact .val _|exact .ptr (nb rfl)|exact .map (nb rfl)|exact d3k | refine o9 ?_ | refine ⟨?_,?_⟩))⟩|exact .inr ⟨_,rfl,.box (by repeat' (first|exact tt|exact .same rfl uo_|exact .ptr rfl|exact .map rfl|exact .vec rfl|exact D2.grow (f:=Tok.cv) (fun _=>⟨.val _,.val _,.val _,.val _,tt⟩) rfl | refine ⟨?_,?_⟩))⟩ | refine ⟨?_,?_⟩))⟩
    ·have hneg:¬ Go.Lib.indexByte ((s.take s.length).drop i1) 10 < 0:=sp_ h4;have:=hib.2 om_;rw [this];refine a95 ?_;refine cY a4s ?_;refine z_1 ?_;refine A4 ?_;exact ⟨(acc,Q3 s i1),[0,1],⟨om_,om_,by show acc.length<=Q3 s i1;omega,f,by show s.length - Q3 s i1 < f;omega,hlx⟩,⟨rfl,rfl⟩,d8H,(by repeat' (first|exact tt|exact .inl rfl|exact .inr ⟨_,rfl,.same rfl C3⟩|exact .inr ⟨_,rfl,.same (gobj_snoc _ _ _) C3⟩|exact .inr ⟨_,rfl,.same rfl (by repeat' (first|exact tt|exact .val _|exact .ptr (nb rfl)|exact .map (nb rfl)|exact d3k | refine o9 ?_ | refine ⟨?_,?_⟩))⟩|exact .inr ⟨_,rfl,.box (by repeat' (first|exact tt|exact .same rfl uo_|exact .ptr rfl|exact .map rfl|exact .vec rfl|exact D2.grow (f:=Tok.cv) (fun _=>⟨.val _,.val _,.val _,.val _,tt⟩) rfl | refine ⟨?_,?_⟩))⟩ | refine ⟨?_,?_⟩))⟩
   ·have hk:¬ k8 b.toNat=6:=by rw [<- hm];simpa using h3
    refine a6J ?_;refine ye rfl Tryz.call190 C0 (d0l hb hm om_ rfl) rfl ?_;refine b4r ?_;refine a62 ?_;refine b2R ?_;refine cC ?_ ?_ <;> intro h5
    ·have he:(D7 s i1 b).2.2≠0:=sp_ h5;rw [b6P hi1 hb hk he] at hlx;refine z_5 ?_;refine cY a2H ?_;refine cY Q1 ?_;refine z_7 ?_;exact ⟨_,j9 (rs:=[.tmp 2,.tmp 3,.tmp 4]) (cs:=[_,_,_]) rfl c4B (n_2 rfl),⟨([],false,i1,(D7 s i1 b).2.2),by exact .ret (.tups ⟨.old (V2 _ [] false),.old (.val _),.old (.val _),tt⟩),.inr ⟨hlx,rfl,rfl,he⟩⟩⟩
    ·have he:¬ (D7 s i1 b).2.2≠0:=sp_ h5;rw [b7w hi1 hb hk he] at hlx;obtain ⟨e,he1,he2,he3⟩:=a55 hb he;rw [he1] at hlx ⊢;refine a1m ?_;refine cY d6c ?_;refine b9Z ?_;refine z_4 ?_;refine cY a4i ?_;refine cY (A2 [Tok.cv ({ (D7 s i1 b).1 with at_:=(i1:Nat)}:Tok)] rfl ⟨tt,tt⟩ b5c a3s a7M rfl rfl rfl rfl rfl rfl rfl rfl rfl) ?_;refine cD (C5 rfl tt tt rfl si_ q_2 b5c a3s c3l a7M rfl (.inr rfl) q_8 d3b E7 ((acc++[({ (D7 s i1 b).1 with at_:=(i1:Nat)}:Tok)]).map Tok.cv) (acc++[({ (D7 s i1 b).1 with at_:=(i1:Nat)}:Tok)]).length si_ si_ ?_);refine cY j1 ?_;refine b25 ?_;exact ⟨(acc++[({ (D7 s i1 b).1 with at_:=(i1:Nat)}:Tok)],e),[0,3],⟨by show s.length - e < s.length - i;omega,he3,by simp;omega,f,by show s.length - e < f;omega,by rw [hlx];simp [Function.comp_def]⟩,⟨rfl,rfl⟩,ut_,(by repeat' (first|exact tt|exact .inl rfl|exact .inr ⟨_,rfl,.same rfl C3⟩|exact .inr ⟨_,rfl,.same (gobj_snoc _ _ _) C3⟩|exact .inr ⟨_,rfl,.same rfl (by repeat' (first|exact tt|exact .val _|exact .ptr (nb rfl)|exact .map (nb rfl)|exact d3k | refine o9 ?_ | refine ⟨?_,?_⟩))⟩|exact .inr ⟨_,rfl,.box (by repeat' (first|exact tt|exact .same rfl uo_|exact .ptr rfl|exact .map rfl|exact .vec rfl|exact D2.grow (f:=Tok.cv) (fun _=>⟨.val _,.val _,.val _,.val _,tt⟩) rfl | refine ⟨?_,?_⟩))⟩ | refine ⟨?_,?_⟩))⟩
theorem c5L (s:Str) (hs:s.length<=1000000000000) (σ:List b9):b8 CC 153 [(sv s)] σ fun r τ=>∃ x:c43,r = .ret (c3V x)/\τ=σ/\d1p s x :=
 F6 (res:=fun x=>.ret (c3V x)) hCC (fun c hc=>by simp at hc;subst hc;exact .val _) (c1h s hs) (fun _ _=>pu_) σ
structure Ex where
 k:Int
 num:Int
 op:Int
 name:Str
 args:List Int
deriving DecidableEq
variable {args:List CV} {B:α->List Ex}
abbrev Ex.cells (x:Ex):List CV:=[iv x.k,iv x.num,iv x.op,sv x.name,.list (x.args.map icv) (gnn x.args.length) none]
def Ex.cv (x:Ex):List CV:=x.cells
theorem Ex.pure (x:Ex):S9 x.cells:=⟨.val _,.val _,.val _,.val _,N3 _ _,tt⟩
theorem a0t (l:List Ex) (nn:Bool):r9 (.list (l.map Ex.cv) nn none):=N5 (f:=Ex.cv) Ex.pure l nn
theorem N6 (n:Nat) (l:List Ex) (nn:Bool):Old n (.list (l.map Ex.cv) nn none):=(a0t l nn).old
structure De where
 k:Int
 name:Str
 params:List Str
 body:List Ex
deriving DecidableEq
abbrev De.cells (x:De):List CV:=[iv x.k,sv x.name,.list (x.params.map scv) (gnn x.params.length) none,.list (x.body.map Ex.cv) (gnn x.body.length) none]
def De.cv (x:De):List CV:=x.cells
theorem De.pure (x:De):S9 x.cells:=⟨.val _,.val _,C2 _ _,a0t _ _,tt⟩
theorem a42 (l:List De) (nn:Bool):r9 (.list (l.map De.cv) nn none):=N5 (f:=De.cv) De.pure l nn
theorem R6 (n:Nat) (l:List De) (nn:Bool):Old n (.list (l.map De.cv) nn none):=(a42 l nn).old
structure Src where
 pkg:Str
 imports:List Str
 decls:List De
deriving DecidableEq
abbrev Src.cells (x:Src):List CV:=[sv x.pkg,.list (x.imports.map scv) (gnn x.imports.length) none,.list (x.decls.map De.cv) (gnn x.decls.length) none]
def Src.cv (x:Src):List CV:=x.cells
theorem Src.pure (x:Src):S9 x.cells:=⟨.val _,C2 _ _,a42 _ _,tt⟩
abbrev pbx (T:List Tok) (n:Nat) (ps:List Str) (b:List Ex) (s:Nat):b9:=.box [.list (T.map Tok.cv) true none,iv n,.list (ps.map scv) (gnn ps.length) none,.list (b.map Ex.cv) (gnn b.length) (G9 b.length s)]
abbrev pst (T:List Tok) (n:Nat) (ps:List Str) (b:List Ex):List b9:=[pbx T n ps b 1,u0 b.length]
abbrev a7n (T:List Tok) (n:Nat) (ps:List Str) (b:List Ex):List b9:=[pbx T n ps b 2,.dead,u0 b.length]
theorem b5T {n:Nat} {ps:List Str} {b:List Ex} (h:R s s'):J4 R (pbx T n ps b s) (pbx T n ps b s') :=
 .box (.cons (.pure (a26 _ _)) (.cons (.pure (.val _)) (.cons (.pure (C2 _ _)) (.cons (by
  refine .list rfl (fun i r r' h1 h2=>by rw [h1] at h2;injection h2 with h2;rw [h2]) (fun i j r r' c c' h1 h2 h3 h4=>?_) ?_
  ·rw [h1] at h2;injection h2 with h2;subst h2;rw [h3] at h4;injection h4 with h4;subst h4
   exact .pure (C4 (f:=Ex.cv) (fun a=>(Ex.pure a).all) _ r (n_0 h1) c (n_0 h3))
  ·cases hb:b.length with
   | zero=>exact .inl ⟨rfl,rfl⟩
   | succ m=>exact .inr ⟨s,s',rfl,rfl,h⟩) .nil))))
theorem a12 (m:Nat):J4 R (u0 m) (u0 m):=by
 cases m with
 | zero=>exact .dead
 | succ m=>exact .tip _
def PAt (σ:List b9) (q s:Nat) (T:List Tok) (n:Nat) (ps:List Str) (b:List Ex):Prop:=σ[q]? = some (pbx T n ps b s)/\σ[s]? = some (u0 b.length)/\q≠s
abbrev a2W (at_ e:Int):CV:=.val (.iface 195 (.agg #[.int .i64 at_,.int .i64 e]))
def a3L {α:Type} (c:α->CV) (S:α->List b9) (P:α->Prop) (bad:Prop) (r:X7) (τ:List b9):Prop :=
 (∃ a,F1 2 τ r (.ret (c a)) (S a)/\P a)\/∃ x:Int × Int,F1 2 τ r (.pan (a2W x.1 x.2)) [.dead,.dead]/\(bad/\x.2≠0)
def a4C {α:Type} (c:α->CV) (S:α->List b9) (P:α->Prop) (σ:List b9) (q s:Nat) (bad:Prop) (r:X7) (τ:List b9):Prop :=
 (∃ a,r = .ret (c a)/\τ=S a/\P a)\/∃ x:Int × Int,r = .pan (a2W x.1 x.2)/\τ=(σ.set q .dead).set s .dead/\(bad/\x.2≠0)
theorem l9 {x y:Int}:F1 2 τ (.pan (a2W x y)) (.pan (a2W x y)) [.dead,.dead]:=⟨[0,1],rfl,rfl,.pan (.old (.val _)),.inl rfl,.inl rfl,tt⟩
theorem a5R {f:FuncId} {c:α->CV} {Z:α->List Str} {g:α->Bool} {n:Nat} {ps:List Str} {b:List Ex} (hargs:∀ a∈args,r9 a) (hc:∀ a,r9 (c a))
 (h:b8 CC f (.ptr 0 0::args) (pst T n ps b) (a3L c (fun a=>if g a=true then a7n T (N a) (Z a) (B a) else pst T (N a) (Z a) (B a)) P bad)) {σ:List b9} {q s:Nat} (hσ:PAt σ q s T n ps b) :
 b8 CC f (.ptr q 0::args) σ (a4C c (fun a=>if g a=true then (σ.set q (pbx T (N a) (Z a) (B a) σ.length)).set s .dead++[u0 (B a).length] else (σ.set q (pbx T (N a) (Z a) (B a) s)).set s (u0 (B a).length)) P σ q s bad):=by
 obtain ⟨h1,h2,h3⟩:=hσ;have hq:=(n_1.1 h1).1;have hs:=(n_1.1 h2).1;have h':b8 CC f (.ptr 0 0::args) (pst T n ps b) fun r τ=>(∃ a,r = .ret (c a)/\τ=(if g a=true then a7n T (N a) (Z a) (B a) else pst T (N a) (Z a) (B a))/\P a)\/∃ x:Int × Int,r = .pan (a2W x.1 x.2)/\τ=[.dead,.dead]/\(bad/\x.2≠0):=by
  refine L2 hCC (h.mono fun r τ hh=>?_)
  rcases hh with ⟨a,k1,k2⟩ | ⟨x,k1,k2⟩
  ·exact ⟨_,_,k1,.inl ⟨a,rfl,rfl,k2⟩⟩
  ·exact ⟨_,_,k1,.inr ⟨x,rfl,rfl,k2⟩⟩
 refine J5 [q,s] hCC rfl (fun i j k g1 g2=>?_) (fun i k ob g1 g2=>?_) (.cons (.ptr rfl) (N0 hargs)) h' fun r τ hk=>?_
 ·rcases i with _ | _ | i <;> rcases j with _ | _ | j <;> simp at g1 g2 <;> first|rfl|(exfalso;exact h3 (g1.trans g2.symm))|(exfalso;exact h3 (g2.trans g1.symm))
 ·rcases i with _ | _ | i
  ·simp at g1 g2;subst g1 g2;exact ⟨_,h1,b5T rfl⟩
  ·simp at g1 g2;subst g1 g2;exact ⟨_,h2,a12 _⟩
  ·simp at g1
 ·rcases hk with ⟨a,rfl,rfl,hp⟩ | ⟨x,rfl,rfl,hp⟩
  ·refine ⟨by split <;> simp,.ret (c a),(if g a=true then (σ.set q (pbx T (N a) (Z a) (B a) σ.length)).set s .dead++[u0 (B a).length] else (σ.set q (pbx T (N a) (Z a) (B a) s)).set s (u0 (B a).length)),.ret (.pure (hc a)),by split <;> simp,fun k hk hks=>?_,fun i k x ha hx=>?_,.inl ⟨a,rfl,rfl,hp⟩⟩
   ·have n1:q≠k:=fun e=>hks a28;have n2:s≠k:=fun e=>hks a28
    split
    ·rw [M5 (sp_ hk)];simp [n1,n2]
    ·simp [n1,n2]
   ·split at hx <;> rename_i hg
    ·rcases ha with ha | ⟨ha,rfl⟩
     ·rcases i with _ | _ | i
      ·simp at ha hx;subst ha hx;refine ⟨pbx T (N a) (Z a) (B a) σ.length,?_,b5T (.inr ⟨si_,si_⟩)⟩;rw [if_pos hg,M5 (sp_ hq),a2V h3.symm];simp [hq]
      ·simp at ha hx;subst ha hx;refine ⟨.dead,?_,.dead⟩;rw [if_pos hg,M5 (sp_ hs)];simp [hs]
      ·simp at ha
     ·rcases i with _ | _ | _ | i
      ·simp at ha
      ·simp at ha
      ·simp at hx;subst hx;refine ⟨u0 (B a).length,?_,a12 _⟩;rw [if_pos hg,a0y si_];simp
      ·simp at hx
    ·rcases ha with ha | ⟨ha,rfl⟩
     ·rcases i with _ | _ | i
      ·simp at ha hx;subst ha hx;refine ⟨pbx T (N a) (Z a) (B a) s,?_,b5T (.inl rfl)⟩;rw [if_neg hg,a2V h3.symm];simp [hq]
      ·simp at ha hx;subst ha hx;refine ⟨u0 (B a).length,?_,a12 _⟩;rw [if_neg hg];simp [hs]
      ·simp at ha
     ·rcases i with _ | _ | i
      ·simp at ha
      ·simp at ha
      ·simp at hx
  ·refine ⟨n_4 _,.pan (a2W x.1 x.2),(σ.set q .dead).set s .dead,.pan (.pure (.val _)),si_,fun k hk hks=>?_,fun i k y ha hx=>?_,.inr ⟨x,rfl,rfl,hp⟩⟩
   ·have n1:q≠k:=fun e=>hks a28;have n2:s≠k:=fun e=>hks a28;simp [n1,n2]
   ·rcases ha with ha | ⟨ha,rfl⟩
    ·rcases i with _ | _ | i
     ·simp at ha hx;subst ha hx;refine ⟨.dead,?_,.dead⟩;rw [a2V h3.symm];simp [hq]
     ·simp at ha hx;subst ha hx;refine ⟨.dead,?_,.dead⟩;simp [hs]
     ·simp at ha
    ·rcases i with _ | _ | i
     ·simp at ha
     ·simp at ha
     ·simp at hx
theorem a35 {n:Nat} {ps:List Str} {b:List Ex} (h:s < L):I8 L (pbx T n ps b s):=o9 ⟨V2 _ _ _,.val _,B3 _ _ _,.list (fun i j r c h1 h2=>(C4 (f:=Ex.cv) (fun a=>(Ex.pure a).all) _ r (n_0 h1) c (n_0 h2)).old) (fun k hk=>by
 cases hb:b.length with
 | zero=>rw [hb] at hk;cases hk
 | succ m=>rw [hb] at hk;injection hk with hk;omega),tt⟩
theorem a0N {n:Nat} {ps:List Str} {b:List Ex} (hτ:τ=pbx T n ps b 1::u0 b.length::rest) (hc:Old 2 c):F1 2 τ (.ret c) (.ret c) (pst T n ps b):=by
 subst hτ;exact ⟨[0,1],rfl,rfl,.ret (.old hc),.inr ⟨_,rfl,.same rfl (a35 de_)⟩,.inr ⟨_,rfl,.same rfl C3⟩,tt⟩
theorem a8c {L:Nat} {sel:List Nat}:∀ {l:List CV},b5g L l->b9N L sel l l
 | [],_=>trivial
 | _::_,⟨h,t⟩=>⟨.old h,a8c t⟩
theorem Y8 {n k:Nat} {ps:List Str} {b:List Ex} (h0:τ[0]? = some (pbx T n ps b k)) (hk:τ[k]? = some (u0 b.length)) (h2:2<=k) (hc:Old 2 c):F1 2 τ (.ret c) (.ret c) (a7n T n ps b):=by
 have k1:a6A 2 [0,1,k]=true:=rfl;have k2:Y7 [0,1,k]=true:=by
  have e0:(k == 0)=false:=by simp;omega
  have e1:(k == 1)=false:=by simp;omega
  have e2:(0 == k)=false:=by simp;omega
  have e3:(1 == k)=false:=by simp;omega
  simp [Y7];omega
 refine ⟨[0,1,k],k1,k2,.ret (.old hc),.inr ⟨_,h0,.box ?_⟩,.inl rfl,.inr ⟨_,hk,.same rfl C3⟩,tt⟩;refine ⟨.old a2A,.old (.val _),.old a0G,.list (fun r hr c hc=>(C4 (f:=Ex.cv) (fun a=>(Ex.pure a).all) _ r hr c hc).old) ?_,tt⟩;intro j hj;cases hb:b.length with
 | zero=>rw [hb] at hj;cases hj
 | succ m=>rw [hb] at hj;injection hj with hj;subst hj;exact ⟨k,rfl,rfl⟩
theorem a2e {l:List α} {x:α} (h:l[i]? = some x):l.set i x=l:=by
 apply c45 fun j=>?_;have hi:=(n_1.1 h).1;by_cases hj:i=j
 ·subst hj;rw [b3a hi,h]
 ·rw [a2V hj]
theorem c0Z {f:FuncId} {n:Nat} {ps:List Str} {b:List Ex} (hargs:∀ a∈args,r9 a) (hc:r9 c)
 (h:b8 CC f (.ptr 0 0::args) (pst T n ps b) fun r τ=>F1 2 τ r (.ret c) (pst T n ps b)) {σ:List b9} {q s:Nat} (hσ:PAt σ q s T n ps b):b8 CC f (.ptr q 0::args) σ fun r τ=>r = .ret c/\τ=σ:=by
 refine (a5R (α:=Unit) (c:=fun _=>c) (N:=fun _=>n) (B:=fun _=>b) (Z:=fun _=>ps) (g:=fun _=>false) (P:=fun _=>True) (bad:=False) hargs (fun _=>hc) (h.mono fun r τ hh=>.inl ⟨(),hh,tt⟩) hσ).mono fun r τ hh=>?_
 rcases hh with ⟨_,h1,h2,_⟩ | ⟨_,_,_,h3,_⟩
 ·refine ⟨h1,h2.trans ?_⟩;show (σ.set q _).set s _=σ;rw [a2e hσ.1,a2e hσ.2.1]
 ·exact h3.elim
theorem a0O {f:FuncId} {c:α->CV} {n:Nat} {ps:List Str} {b:List Ex} (hargs:∀ a∈args,r9 a) (hc:∀ a,r9 (c a))
 (h:b8 CC f (.ptr 0 0::args) (pst T n ps b) (a3L c (fun a=>pst T (N a) ps b) P bad)) {σ:List b9} {q s:Nat} (hσ:PAt σ q s T n ps b) :
 b8 CC f (.ptr q 0::args) σ (a4C c (fun a=>σ.set q (pbx T (N a) ps b s)) P σ q s bad):=by
 refine (a5R (c:=c) (N:=N) (B:=fun _=>b) (Z:=fun _=>ps) (g:=fun _=>false) (P:=P) (bad:=bad) hargs hc (h.mono fun r τ hh=>?_) hσ).mono fun r τ hh=>?_
 ·rcases hh with ⟨a,h1,h2⟩ | h
  ·exact .inl ⟨a,h1,h2⟩
  ·exact .inr h
 ·rcases hh with ⟨a,h1,h2,h3⟩ | h
  ·refine .inl ⟨a,h1,h2.trans ?_,h3⟩;refine a2e ?_;rw [a2V hσ.2.2];exact hσ.2.1
  ·exact .inr h
theorem a3g {f:FuncId} {c:α->CV} {n:Nat} {ps:List Str} {b:List Ex} (hargs:∀ a∈args,r9 a) (hc:∀ a,r9 (c a))
 (h:b8 CC f (.ptr 0 0::args) (pst T n ps b) (a3L c (fun a=>a7n T (N a) ps (B a)) P bad)) {σ:List b9} {q s:Nat} (hσ:PAt σ q s T n ps b) :
 b8 CC f (.ptr q 0::args) σ (a4C c (fun a=>(σ.set q (pbx T (N a) ps (B a) σ.length)).set s .dead++[u0 (B a).length]) P σ q s bad):=by
 refine (a5R (c:=c) (N:=N) (B:=B) (Z:=fun _=>ps) (g:=fun _=>true) (P:=P) (bad:=bad) hargs hc (h.mono fun r τ hh=>?_) hσ).mono fun r τ hh=>?_
 ·rcases hh with ⟨a,h1,h2⟩ | h
  ·exact .inl ⟨a,h1,h2⟩
  ·exact .inr h
 ·rcases hh with ⟨a,h1,h2,h3⟩ | h
  ·exact .inl ⟨a,h1,h2,h3⟩
  ·exact .inr h
theorem a0r (x:Tok):r9 (.agg x.cells):=o3 ⟨.val _,.val _,.val _,.val _,tt⟩
theorem a50 (n:Nat) (x:Tok):Old n (.agg x.cells):=(a0r x).old
def tk (T:List Tok) (n:Nat):Tok:=(T[n]?).getD ⟨5,[],0,0⟩
theorem d6N {n:Nat} (h:n < T.length):T[n]? = some (tk T n):=by simp [tk,h]
def a00 (T:List Tok):Prop:=∀ n,n < T.length->(tk T n).k≠5->n+1 < T.length
def isT (t:Tok) (k:Int) (s:Str):Bool:=(t.k == k) && decide (t.t=s)
theorem a7j {n:Nat} {k:Int} {s:Str} (h:isT (tk T n) k s=true) (hk:k≠5):(tk T n).k≠5:=by
 simp [isT] at h;omega
def F8 (T:List Tok) (n:Nat) (k:Int):Option (Tok × Nat):=if (tk T n).k=k then some (tk T n,if k=5 then n else n+1) else none
def pIs (T:List Tok) (n:Nat) (k:Int) (s:Str):Option Nat:=if isT (tk T n) k s=true then some (n+1) else none
theorem d0z (t:Tok) (e:Int):b8 CC 195 [.agg t.cells,iv e] [] fun r τ=>∃ _:Unit,a1e 0 τ r (.pan (a2W t.at_ e))/\True:=by
 refine cO Tryz.func195 ?_;refine a65 ?_;refine c8 (r3 ?_);refine a2z ?_;refine cY j1 ?_;refine cY (A9 #[(0,1),(1,1)] rfl i7 c37 Tryz.zeroValue195 rfl ⟨_,rfl⟩ (fun w=>by kernel_rfl) rfl rfl) ?_;refine cY (c4A (xs:=[.int .i64 t.at_,.int .i64 e]) rfl tt rfl (c1b c37 rfl)) ?_;exact b0e rfl rfl (d1D rfl tt rfl (fun M w v h=>⟨_,_,r2 h⟩) ⟨(),.pan (.old (.val _)),tt⟩)
theorem a1F (t:Tok) (e:Int) (σ:List b9):b8 CC 195 [.agg t.cells,iv e] σ fun r τ=>∃ _:Unit,r = .pan (a2W t.at_ e)/\τ=σ/\True :=
 F6 (res:=fun _=>.pan (a2W t.at_ e)) hCC (fun c hc=>by
  simp at hc
  rcases hc with rfl | rfl
  ·exact a0r _
  ·exact .val _) (d0z t e) (fun _ _=>.val _) σ
theorem c4M (T:List Tok) (n:Nat) (ps:List Str) (b:List Ex) (_:T.length<=1000000) (hn:n < T.length):b8 CC 196 [.ptr 0 0] (pst T n ps b) (fun r τ=>F1 2 τ r (.ret (.agg (tk T n).cells)) (pst T n ps b)):=by
 refine cO Tryz.func196 ?_;refine b0N ?_;refine z_9 ?_;refine b4Z ?_;refine hY (j4 rfl tt rfl c42 rfl Tryz.sizeOf191 de_) ?_;refine hY (o5 rfl tt rfl Tryz.isAgg191 rfl rfl) ?_;refine a5d ?_;refine hY c6c ?_;refine hY a0H ?_;refine d4n ?_;refine d5s ?_;refine a1n ?_;exact ⟨_,B6 rfl b3W,a0N rfl (a50 _ _)⟩
theorem a3b {n:Nat} {ps:List Str} {b:List Ex} (hT:T.length<=1000000) (hn:n < T.length) (hσ:PAt σ q s T n ps b):b8 CC 196 [.ptr q 0] σ fun r τ=>r = .ret (.agg (tk T n).cells)/\τ=σ:=c0Z (fun _ h=>by cases h) (a0r _) (c4M T n ps b hT hn) hσ
theorem d6T (T:List Tok) (n:Nat) (ps:List Str) (b:List Ex) (hT:T.length<=1000000) (hn:n < T.length) (k:Int) (u:Str):b8 CC 194 [.ptr 0 0,iv k,(sv u)] (pst T n ps b) (fun r τ=>F1 2 τ r (.ret (.val (.bool (isT (tk T n) (k) (u))))) (pst T n ps b)):=by
 refine cO Tryz.func194 ?_;refine U5 ?_;refine c8N ?_;refine S5 ?_;refine a2z ?_;refine b9k ?_;refine cY j1 ?_;refine cG b6k ?_;refine b3T ?_;refine a3j ?_;exact ⟨_,j2 rfl tt c4,(by exact a0N rfl (.val _))⟩
theorem b6C {n:Nat} {ps:List Str} {b:List Ex} (hT:T.length<=1000000) (hn:n < T.length) (k:Int) (u:Str) (hσ:PAt σ q s T n ps b):b8 CC 194 [.ptr q 0,iv k,(sv u)] σ fun r τ=>r = .ret (.val (.bool (isT (tk T n) (k) (u))))/\τ=σ:=c0Z (fun _ h=>by simp at h;rcases h with rfl | rfl <;> exact .val _) (.val _) (d6T T n ps b hT hn k u) hσ
theorem d0g (T:List Tok) (n:Nat) (ps:List Str) (b:List Ex) (hT:T.length<=1000000) (hn:n < T.length) (hW:a00 T) (u:Str):b8 CC 193 [.ptr 0 0,(sv u)] (pst T n ps b) (a3L (fun _:Nat=>.tup []) (fun a=>pst T a ps b) (fun a=>pIs T n 4 u=some a/\a < T.length) (pIs T n 4 u=none)):=by
 refine cO Tryz.func193 ?_;refine d4W ?_;refine S4 ?_;refine cC ?_ ?_ <;> intro h1
 ·have hb:isT (tk T n) 4 u=false:=sp_ h1;refine d4C ?_;exact b0e rfl rfl (a1B rfl b5A o7 (a1F _ _ _) rfl (fun _ _=>.inr ⟨(_,_),l9,by rw [pIs,if_neg (by rw [hb];decide)],si_⟩))
 ·have hb:isT (tk T n) 4 u=true:=sp_ h1;refine a6G ?_;refine cY K2 ?_;exact d3B
theorem P2 {n:Nat} {ps:List Str} {b:List Ex} (hT:T.length<=1000000) (hn:n < T.length) (hW:a00 T) (u:Str) (hσ:PAt σ q s T n ps b):b8 CC 193 [.ptr q 0,(sv u)] σ (a4C (fun _:Nat=>.tup []) (fun a=>σ.set q (pbx T a ps b s)) (fun a=>pIs T n 4 u=some a/\a < T.length) σ q s (pIs T n 4 u=none)) :=
 a0O (c:=fun _:Nat=>.tup []) (N:=fun a=>a) (fun _ h=>by simp at h;subst h;exact .val _) (fun _=>B9 trivial) (d0g T n ps b hT hn hW u) hσ
theorem c9J (T:List Tok) (n:Nat) (ps:List Str) (b:List Ex) (hT:T.length<=1000000) (hn:n < T.length) (hW:a00 T) (u:Str):b8 CC 191 [.ptr 0 0,(sv u)] (pst T n ps b) (a3L (fun _:Nat=>.tup []) (fun a=>pst T a ps b) (fun a=>pIs T n 1 u=some a/\a < T.length) (pIs T n 1 u=none)):=by
 refine cO Tryz.func191 ?_;refine a1Q ?_;refine ye rfl c7b ⟨tt,rfl,tt,tt⟩ (b6C hT hn 1 u ⟨rfl,rfl,de_⟩) rfl ?_;refine S4 ?_;refine cC ?_ ?_ <;> intro h1
 ·have hb:isT (tk T n) 1 u=false:=sp_ h1;refine d4C ?_;exact b0e rfl rfl (a1B rfl b5A o7 (a1F _ _ _) rfl (fun _ _=>.inr ⟨(_,_),l9,by rw [pIs,if_neg (by rw [hb];decide)],si_⟩))
 ·have hb:isT (tk T n) 1 u=true:=sp_ h1;refine a6G ?_;refine cY K2 ?_;exact d3B
theorem b48 {n:Nat} {ps:List Str} {b:List Ex} (hT:T.length<=1000000) (hn:n < T.length) (hW:a00 T) (u:Str) (hσ:PAt σ q s T n ps b):b8 CC 191 [.ptr q 0,(sv u)] σ (a4C (fun _:Nat=>.tup []) (fun a=>σ.set q (pbx T a ps b s)) (fun a=>pIs T n 1 u=some a/\a < T.length) σ q s (pIs T n 1 u=none)) :=
 a0O (c:=fun _:Nat=>.tup []) (N:=fun a=>a) (fun _ h=>by simp at h;subst h;exact .val _) (fun _=>B9 trivial) (c9J T n ps b hT hn hW u) hσ
theorem c0P (T:List Tok) (n:Nat) (ps:List Str) (b:List Ex) (hT:T.length<=1000000) (hn:n < T.length) (hW:a00 T) (u:Str):b8 CC 277 [.ptr 0 0,(sv u)] (pst T n ps b) (a3L (fun a:Bool × Nat=>(.val (.bool a.1))) (fun a=>pst T a.2 ps b) (fun a=>a.1=isT (tk T n) 4 u/\a.2=(if isT (tk T n) 4 u=true then n+1 else n)/\a.2 < T.length) False):=by
 refine cO Tryz.func277 ?_;refine z_6 ?_;refine d4W ?_;refine S4 ?_;refine cC ?_ ?_ <;> intro h1
 ·have hb:isT (tk T n) 4 u=false:=sp_ h1;refine I0 ?_;exact ⟨_,j2 rfl tt c4,(by exact .inl ⟨(false,n),a0N rfl (.val _),hb.symm,by rw [if_neg (by rw [hb];decide)],hn⟩)⟩
 ·have hb:isT (tk T n) 4 u=true:=sp_ h1;refine a6Q ?_;refine a9K ?_;refine I0 ?_;exact ⟨_,j2 rfl tt c4,(by exact .inl ⟨(true,n+1),a0N rfl (.val _),hb.symm,by rw [if_pos hb],hW n hn (a7j hb de_)⟩)⟩
theorem a1O {n:Nat} {ps:List Str} {b:List Ex} (hT:T.length<=1000000) (hn:n < T.length) (hW:a00 T) (u:Str) (hσ:PAt σ q s T n ps b):b8 CC 277 [.ptr q 0,(sv u)] σ fun r τ=>∃ a:Bool × Nat,r = .ret (.val (.bool a.1))/\τ=σ.set q (pbx T a.2 ps b s)/\a.1=isT (tk T n) 4 u/\a.2=(if isT (tk T n) 4 u=true then n+1 else n)/\a.2 < T.length :=
 (a0O (c:=fun a:Bool × Nat=>(.val (.bool a.1))) (N:=fun a:Bool × Nat=>a.2) (fun _ h=>by simp at h;subst h;exact .val _) (fun _=>.val _) (c0P T n ps b hT hn hW u) hσ).mono fun r τ h=>by
  rcases h with h | ⟨_,_,_,h,_⟩
  ·exact h
  ·exact h.elim
theorem c9V (T:List Tok) (n:Nat) (ps:List Str) (b:List Ex) (hT:T.length<=1000000) (hn:n < T.length) (hW:a00 T) (k:Int):b8 CC 235 [.ptr 0 0,iv k] (pst T n ps b) (a3L (fun a:Tok × Nat=>.agg a.1.cells) (fun a=>pst T a.2 ps b) (fun a=>F8 T n k=some a/\a.2 < T.length) (F8 T n k=none)):=by
 refine cO Tryz.func235 ?_;refine b0N ?_;refine L7 ?_;refine c8N ?_;refine T5 ?_;refine a2z ?_;refine b65 ?_;refine cC ?_ ?_ <;> intro h1
 ·have hk:¬ (tk T n).k=k:=sp_ h1;refine b9D ?_;exact b0e rfl rfl (a1B rfl b5A o7 (a1F _ _ _) rfl (fun _ _=>.inr ⟨(_,_),l9,by rw [F8,if_neg hk],si_⟩))
 ·have hk:(tk T n).k=k:=sp_ h1;refine z_8 ?_;refine a3F ?_;refine cC ?_ ?_ <;> intro h2
  ·have h5:¬ k=5:=sp_ h2;refine z_4 ?_;refine cY K2 ?_;refine a9K ?_;refine z_0 ?_;refine b88 ?_;refine a1n ?_;exact ⟨_,B6 rfl b3W,(by exact .inl ⟨(tk T n,n+1),a0N rfl (a50 _ _),by rw [F8,if_pos hk,if_neg h5],hW n hn (by rw [hk];exact h5)⟩)⟩
  ·have h5:k=5:=sp_ h2;refine a1d ?_;refine b88 ?_;refine a1n ?_;exact ⟨_,B6 rfl b3W,(by exact .inl ⟨(tk T n,n),a0N rfl (a50 _ _),by rw [F8,if_pos hk,if_pos h5],hn⟩)⟩
theorem a78 {n:Nat} {ps:List Str} {b:List Ex} (hT:T.length<=1000000) (hn:n < T.length) (hW:a00 T) (k:Int) (hσ:PAt σ q s T n ps b):b8 CC 235 [.ptr q 0,iv k] σ (a4C (fun a:Tok × Nat=>.agg a.1.cells) (fun a=>σ.set q (pbx T a.2 ps b s)) (fun a=>F8 T n k=some a/\a.2 < T.length) σ q s (F8 T n k=none)) :=
 a0O (c:=fun a:Tok × Nat=>.agg a.1.cells) (N:=fun a=>a.2) (fun _ h=>by simp at h;subst h;exact .val _) (fun _=>a0r _) (c9V T n ps b hT hn hW k) hσ
def P5 (u:Str):Bool:=decide (u∈([[112,97,99,107,97,103,101],[105,109,112,111,114,116],[102,117,110,99],[116,101,115,116],[103,101,110],[105,102],[116,104,101,110],[101,108,115,101],[114,101,97,100],[115,105,122,101],[104,97,115],[101,110,118],[102,108,105,112]]:List Str))
theorem a2S (u:Str) (σ:List b9):b8 CC 236 [(sv u)] σ fun r σ'=>r = .ret (.val (.bool (P5 u)))/\σ'=σ:=by
 refine an_ Tryz.func236 ?_;refine Q7 ?_;refine a4B ?_;refine a0Y ?_;refine b9y ?_;refine cC ?_ ?_ <;> intro h1
 ·have e:u=[112,97,99,107,97,103,101]:=sp_ h1;refine c9 ?_;refine cC ?_ ?_ <;> intro h2
  ·refine I0 ?_;exact ⟨_,j2 rfl tt c4,_,_,rfl,rfl,j7 (show true=P5 u by rw [e];decide)⟩
  ·exfalso;rw [h1] at h2;cases h2
 ·have e1:¬ u=[112,97,99,107,97,103,101]:=sp_ h1;refine a0F ?_;refine cC ?_ ?_ <;> intro h3
  ·have e:u=[105,109,112,111,114,116]:=sp_ h3;refine c9 ?_;refine cC ?_ ?_ <;> intro h4
   ·refine I0 ?_;exact ⟨_,j2 rfl tt c4,_,_,rfl,rfl,j7 (show true=P5 u by rw [e];decide)⟩
   ·exfalso;rw [h3] at h4;cases h4
  ·have e2:¬ u=[105,109,112,111,114,116]:=sp_ h3;refine a0F ?_;refine cC ?_ ?_ <;> intro h5
   ·have e:u=[102,117,110,99]:=sp_ h5;refine c9 ?_;refine cC ?_ ?_ <;> intro h6
    ·refine I0 ?_;exact ⟨_,j2 rfl tt c4,_,_,rfl,rfl,j7 (show true=P5 u by rw [e];decide)⟩
    ·exfalso;rw [h5] at h6;cases h6
   ·have e3:¬ u=[102,117,110,99]:=sp_ h5;refine a0F ?_;refine cC ?_ ?_ <;> intro h7
    ·have e:u=[116,101,115,116]:=sp_ h7;refine c9 ?_;refine cC ?_ ?_ <;> intro h8
     ·refine I0 ?_;exact ⟨_,j2 rfl tt c4,_,_,rfl,rfl,j7 (show true=P5 u by rw [e];decide)⟩
     ·exfalso;rw [h7] at h8;cases h8
    ·have e4:¬ u=[116,101,115,116]:=sp_ h7;refine a0F ?_;refine cC ?_ ?_ <;> intro h9
     ·have e:u=[103,101,110]:=sp_ h9;refine c9 ?_;refine cC ?_ ?_ <;> intro h10
      ·refine I0 ?_;exact ⟨_,j2 rfl tt c4,_,_,rfl,rfl,j7 (show true=P5 u by rw [e];decide)⟩
      ·exfalso;rw [h9] at h10;cases h10
     ·have e5:¬ u=[103,101,110]:=sp_ h9;refine a0F ?_;refine cC ?_ ?_ <;> intro h11
      ·have e:u=[105,102]:=sp_ h11;refine c9 ?_;refine cC ?_ ?_ <;> intro h12
       ·refine I0 ?_;exact ⟨_,j2 rfl tt c4,_,_,rfl,rfl,j7 (show true=P5 u by rw [e];decide)⟩
       ·exfalso;rw [h11] at h12;cases h12
      ·have e6:¬ u=[105,102]:=sp_ h11;refine a0F ?_;refine cC ?_ ?_ <;> intro h13
       ·have e:u=[116,104,101,110]:=sp_ h13;refine c9 ?_;refine cC ?_ ?_ <;> intro h14
        ·refine I0 ?_;exact ⟨_,j2 rfl tt c4,_,_,rfl,rfl,j7 (show true=P5 u by rw [e];decide)⟩
        ·exfalso;rw [h13] at h14;cases h14
       ·have e7:¬ u=[116,104,101,110]:=sp_ h13;refine a0F ?_;refine cC ?_ ?_ <;> intro h15
        ·have e:u=[101,108,115,101]:=sp_ h15;refine c9 ?_;refine cC ?_ ?_ <;> intro h16
         ·refine I0 ?_;exact ⟨_,j2 rfl tt c4,_,_,rfl,rfl,j7 (show true=P5 u by rw [e];decide)⟩
         ·exfalso;rw [h15] at h16;cases h16
        ·have e8:¬ u=[101,108,115,101]:=sp_ h15;refine a0F ?_;refine cC ?_ ?_ <;> intro h17
         ·have e:u=[114,101,97,100]:=sp_ h17;refine c9 ?_;refine cC ?_ ?_ <;> intro h18
          ·refine I0 ?_;exact ⟨_,j2 rfl tt c4,_,_,rfl,rfl,j7 (show true=P5 u by rw [e];decide)⟩
          ·exfalso;rw [h17] at h18;cases h18
         ·have e9:¬ u=[114,101,97,100]:=sp_ h17;refine a0F ?_;refine cC ?_ ?_ <;> intro h19
          ·have e:u=[115,105,122,101]:=sp_ h19;refine c9 ?_;refine cC ?_ ?_ <;> intro h20
           ·refine I0 ?_;exact ⟨_,j2 rfl tt c4,_,_,rfl,rfl,j7 (show true=P5 u by rw [e];decide)⟩
           ·exfalso;rw [h19] at h20;cases h20
          ·have e10:¬ u=[115,105,122,101]:=sp_ h19;refine a0F ?_;refine cC ?_ ?_ <;> intro h21
           ·have e:u=[104,97,115]:=sp_ h21;refine c9 ?_;refine cC ?_ ?_ <;> intro h22
            ·refine I0 ?_;exact ⟨_,j2 rfl tt c4,_,_,rfl,rfl,j7 (show true=P5 u by rw [e];decide)⟩
            ·exfalso;rw [h21] at h22;cases h22
           ·have e11:¬ u=[104,97,115]:=sp_ h21;refine a0F ?_;refine cC ?_ ?_ <;> intro h23
            ·have e:u=[101,110,118]:=sp_ h23;refine c9 ?_;refine cC ?_ ?_ <;> intro h24
             ·refine I0 ?_;exact ⟨_,j2 rfl tt c4,_,_,rfl,rfl,j7 (show true=P5 u by rw [e];decide)⟩
             ·exfalso;rw [h23] at h24;cases h24
            ·have e12:¬ u=[101,110,118]:=sp_ h23;refine r3 ?_;refine b9y ?_;refine cC ?_ ?_ <;> intro h25
             ·have e:u=[102,108,105,112]:=sp_ h25;refine I0 ?_;exact ⟨_,j2 rfl tt c4,_,_,rfl,rfl,j7 (show true=P5 u by rw [e];decide)⟩
             ·have e13:¬ u=[102,108,105,112]:=sp_ h25;refine a9F ?_;exact ⟨_,j2 rfl tt c4,_,_,rfl,rfl,j7 (show false=P5 u by simp [P5,e1,e2,e3,e4,e5,e6,e7,e8,e9,e10,e11,e12,e13])⟩
def ixS:List Str->Str->Nat->Int
 | [],_,_=>-1
 | y::l,x,i=>if y=x then i else ixS l x (i+1)
theorem b1p {l:List Str} {y:Str} (h:l[i]? = some y) (x:Str):ixS (l.drop i) x i=if y=x then (i:Int) else ixS (l.drop (i+1)) x (i+1):=by
 obtain ⟨hlt,rfl⟩:=n_1.1 h;rw [Q4 hlt];rfl
theorem a82 (x:Str):∀ (l:List Str) (i:Nat),(x∉l/\ixS l x i = -1)\/(x∈l/\(i:Int)<=ixS l x i/\ixS l x i < i+l.length)
 | [],_=>.inl ⟨si_,rfl⟩
 | y::l,i=>by
  rw [ixS];by_cases h:y=x
  ·rw [if_pos h];exact .inr ⟨by simp [h],om_,by simp;omega⟩
  ·rw [if_neg h]
   rcases a82 x l (i+1) with ⟨h1,h2⟩ | ⟨h1,h2,h3⟩
   ·exact .inl ⟨by simp [h1,Ne.symm h],h2⟩
   ·exact .inr ⟨by simp [h1],om_,by simp;omega⟩
theorem d1I {l:List Str} {x:Str}:0<=ixS l x 0↔x∈l:=by
 rcases a82 x l 0 with ⟨h1,h2⟩ | ⟨h1,h2,_⟩
 ·rw [h2];simp [h1]
 ·simp [h1];omega
theorem a96 (l:List Str) (nn:Bool) (x:Str) (hl:l.length<=1000000000) (σ:List b9):b8 CC 205 [(.list (l.map scv) nn none),(sv x)] σ fun r σ'=>r = .ret (iv (ixS l x 0))/\σ'=σ:=by
 refine an_ Tryz.func205 ?_;refine Q7 ?_;refine a1i ?_;refine j5 hCC (α:=Nat) (fun i=>[(0,(.list (l.map scv) nn none)),(1,(sv x)),(7,iv l.length),(8,iv i)]) (fun _=>[]) (fun i=>i<=l.length/\ixS l x 0=ixS (l.drop i) x i) (fun i=>l.length - i) 0 ⟨n_3 _,rfl⟩ tu_ (extra0:=[]) rfl r5 uz_ ?_;intro i ⟨hi,hr⟩;refine C9 ?_;refine cC ?_ ?_ <;> intro h1
 ·have hlt:(i:Int) < l.length:=sp_ h1;obtain ⟨y,hb⟩:=gx_ l i;rw [b1p hb] at hr;refine X9 ?_;refine z_1 ?_;refine a0M ?_;refine b1K ?_;refine b9b ?_;refine cC ?_ ?_ <;> intro h2
  ·have hx:y=x:=(show x=y by simpa using h2).symm;rw [if_pos hx] at hr;exact d5c
  ·have hx:¬ y=x:=fun e=>by subst e;simp at h2
   rw [if_neg hx] at hr;exact a89
 ·have hge:i=l.length:=by
   have:¬ (i:Int) < l.length:=sp_ h1;omega
  refine a1w ?_;exact ⟨_,j2 rfl tt c4,_,_,rfl,rfl,G4 (by rw [hr,hge,b7S];rfl)⟩
theorem a7C (l:List Str) (nn:Bool) (x:Str) (hl:l.length<=1000000000):b8 CC 160 [(.list (l.map scv) nn none),(sv x)] [] fun r σ'=>r = .ret (.val (.bool (decide (x∈l))))/\σ'=[]:=by
 refine D5 (cO Tryz.func160 ?_);refine a11 ?_;refine yc rfl Tryz.call205 i7 (a96 l nn x hl _) ?_;refine cY S7 ?_;refine z_7 ?_;exact ⟨_,j2 rfl tt c4,_,_,rfl,rfl,j7 (decide_eq_decide.2 d1I)⟩
theorem a0d (l:List Str) (nn:Bool) (x:Str) (hl:l.length<=1000000000) (σ:List b9):b8 CC 160 [(.list (l.map scv) nn none),(sv x)] σ fun r σ'=>r = .ret (.val (.bool (decide (x∈l))))/\σ'=σ :=
 b8.anyw hCC pu_ pu_ (a7C l nn x hl) σ
theorem a5w {n n1:Nat} {k:Int} (h:F8 T n k=some (t,n1)):t=tk T n:=by
 unfold F8 at h;split at h
 ·injection h with h;injection h with h _;exact h.symm
 ·cases h
def c73 (T:List Tok):Prop:=∀ n,(tk T n).t.length<=1000000
def J1 (T:List Tok) (n:Nat):Option (Tok × Nat):=(F8 T n 1).bind fun x=>if P5 x.1.t=true then none else some x
def a0L (T:List Tok) (n:Nat):Option (Tok × Nat):=(F8 T n 3).bind fun x=>if H5 x.1.t=true then some x else none
theorem c6l (T:List Tok) (n:Nat) (ps:List Str) (b:List Ex) (hT:T.length<=1000000) (hn:n < T.length) (hW:a00 T):b8 CC 192 [.ptr 0 0] (pst T n ps b) (a3L (fun a:Tok × Nat=>.agg a.1.cells) (fun a=>pst T a.2 ps b) (fun a=>J1 T n=some a/\a.2 < T.length) (J1 T n=none)):=by
 refine cO Tryz.func192 ?_;refine b0N ?_;refine L7 ?_;refine cD (o6 rfl c9e o7 (a78 hT hn hW 1 ⟨rfl,rfl,de_⟩) rfl (fun x hx=>.inr ⟨x,l9,by rw [J1,hx.1];rfl,hx.2⟩) ?_);rintro ⟨t,n1⟩ ⟨ht,hn1⟩;have hte:=a5w ht;subst hte;dsimp only at ht hn1 ⊢;refine a62 ?_;refine b4J ?_;refine yc rfl c8r ⟨tt,tt⟩ (a2S (tk T n).t _) ?_;refine c8 ?_;refine cC ?_ ?_ <;> intro h1
 ·have hr:P5 (tk T n).t=true:=sp_ h1;refine b9D ?_;exact b0e rfl rfl (a1B rfl b5A o7 (a1F _ _ _) rfl (fun _ _=>.inr ⟨(_,_),l9,by rw [J1,ht,n_6,if_pos hr],si_⟩))
 ·have hr:P5 (tk T n).t=false:=sp_ h1;refine a1d ?_;refine b88 ?_;refine a1n ?_;exact ⟨_,B6 rfl b3W,(by exact .inl ⟨(tk T n,n1),a0N rfl (a50 _ _),by rw [J1,ht,n_6,if_neg (by rw [hr];decide)],hn1⟩)⟩
theorem b0A {n:Nat} {ps:List Str} {b:List Ex} (hT:T.length<=1000000) (hn:n < T.length) (hW:a00 T) (hσ:PAt σ q s T n ps b):b8 CC 192 [.ptr q 0] σ (a4C (fun a:Tok × Nat=>.agg a.1.cells) (fun a=>σ.set q (pbx T a.2 ps b s)) (fun a=>J1 T n=some a/\a.2 < T.length) σ q s (J1 T n=none)) :=
 a0O (c:=fun a:Tok × Nat=>.agg a.1.cells) (N:=fun a=>a.2) (fun _ h=>by cases h) (fun _=>a0r _) (c6l T n ps b hT hn hW) hσ
theorem c7L (T:List Tok) (n:Nat) (ps:List Str) (b:List Ex) (hT:T.length<=1000000) (hn:n < T.length) (hW:a00 T) (hL:c73 T):b8 CC 237 [.ptr 0 0] (pst T n ps b) (a3L (fun a:Tok × Nat=>.agg a.1.cells) (fun a=>pst T a.2 ps b) (fun a=>a0L T n=some a/\a.2 < T.length) (a0L T n=none)):=by
 refine cO Tryz.func237 ?_;refine b0N ?_;refine L7 ?_;refine cD (o6 rfl c9e o7 (a78 hT hn hW 3 ⟨rfl,rfl,de_⟩) rfl (fun x hx=>.inr ⟨x,l9,by rw [a0L,hx.1];rfl,hx.2⟩) ?_);rintro ⟨t,n1⟩ ⟨ht,hn1⟩;have hte:=a5w ht;subst hte;dsimp only at ht hn1 ⊢;refine a62 ?_;refine b4J ?_;refine ye rfl c4K ⟨tt,tt⟩ (a1I (tk T n).t (by have:=hL n;omega) _) rfl ?_;refine S4 ?_;refine cC ?_ ?_ <;> intro h1
 ·have hr:H5 (tk T n).t=false:=sp_ h1;refine b9D ?_;exact b0e rfl rfl (a1B rfl b5A o7 (a1F _ _ _) rfl (fun _ _=>.inr ⟨(_,_),l9,by rw [a0L,ht,n_6,if_neg (by rw [hr];decide)],si_⟩))
 ·have hr:H5 (tk T n).t=true:=sp_ h1;refine a1d ?_;refine b88 ?_;refine a1n ?_;exact ⟨_,B6 rfl b3W,(by exact .inl ⟨(tk T n,n1),a0N rfl (a50 _ _),by rw [a0L,ht,n_6,if_pos hr],hn1⟩)⟩
theorem b0E {n:Nat} {ps:List Str} {b:List Ex} (hT:T.length<=1000000) (hn:n < T.length) (hW:a00 T) (hL:c73 T) (hσ:PAt σ q s T n ps b):b8 CC 237 [.ptr q 0] σ (a4C (fun a:Tok × Nat=>.agg a.1.cells) (fun a=>σ.set q (pbx T a.2 ps b s)) (fun a=>a0L T n=some a/\a.2 < T.length) σ q s (a0L T n=none)) :=
 a0O (c:=fun a:Tok × Nat=>.agg a.1.cells) (N:=fun a=>a.2) (fun _ h=>by cases h) (fun _=>a0r _) (c7L T n ps b hT hn hW hL) hσ
def V9 (b:List Ex) (x:Ex):Option (Nat × List Ex):=if b.length=256 then none else some (b.length,b++[x])
theorem c6d (T:List Tok) (n:Nat) (ps:List Str) (b:List Ex) (_:T.length<=1000000) (_:n < T.length) (hb:b.length<=256) (t:Tok) (x:Ex):b8 CC 279 [.ptr 0 0,.agg t.cells,.agg x.cells] (pst T n ps b) (a3L (fun a:Nat × List Ex=>(iv a.1)) (fun a=>a7n T n ps a.2) (fun a=>V9 b x=some a/\a.2.length<=256) (V9 b x=none)):=by
 refine cO Tryz.func279 ?_;refine a8l ?_;refine z_3 ?_;refine b4x ?_;refine cY b4H ?_;refine cY a6B ?_;refine cY b1P ?_;refine O1 ?_;refine cC ?_ ?_ <;> intro h1
 ·have h256:b.length=256:=sm_ h1;refine b9D ?_;exact b0e rfl rfl (a1B rfl b5A o7 (a1F _ _ _) rfl (fun _ _=>.inr ⟨(_,_),l9,by rw [V9,if_pos h256],si_⟩))
 ·have h256:¬ b.length=256:=sm_ h1;have hl1:(b++[x]).length=b.length+1:=by simp
  refine z_8 ?_;refine d6p ?_;refine chf rfl b63 ?_;refine chf rfl (c7 rfl b4H) ?_;refine chf rfl (c7 rfl a6B) ?_;refine chf rfl (c7 rfl a5B) ?_;refine chf rfl d9v ?_;refine F9 ?_;refine A6 rfl rfl rfl rfl (C5 rfl tt tt rfl si_ q_2 b22 a80 Tryz.typeInfo212 b5Q rfl (.inr rfl) q_8 (by have hb:Tryz.t212.bytes=64:=rfl;rw [hb];first|omega|(simp;done)|(simp;omega)) E7 ((b++[x]).map Ex.cv) (b++[x]).length si_ si_ ?_);refine d0Y ?_;refine D9 rfl rfl rfl (c7 rfl b4H) ⟨tt,?_⟩;refine d4f ?_;refine a4P ?_;refine cY b4H ?_;refine cY a6B ?_;refine cY b1P ?_;refine cY a24 ?_;refine z_7 ?_;exact ⟨_,j2 rfl tt c4,(by rw [show (((b++[x]).length:Int) - 1)=(b.length:Int) by omega];exact .inl ⟨(b.length,b++[x]),Y8 (k:=4) rfl rfl de_ (.val _),by rw [V9,if_neg h256],by show (b++[x]).length<=256;omega⟩)⟩
theorem a0k {n:Nat} {ps:List Str} {b:List Ex} (hT:T.length<=1000000) (hn:n < T.length) (hb:b.length<=256) (t:Tok) (x:Ex) (hσ:PAt σ q s T n ps b):b8 CC 279 [.ptr q 0,.agg t.cells,.agg x.cells] σ (a4C (fun a:Nat × List Ex=>(iv a.1)) (fun a=>(σ.set q (pbx T n ps a.2 σ.length)).set s .dead++[u0 a.2.length]) (fun a=>V9 b x=some a/\a.2.length<=256) σ q s (V9 b x=none)) :=
 a3g (c:=fun a:Nat × List Ex=>(iv a.1)) (N:=fun _=>n) (B:=fun a=>a.2) (fun _ h=>by simp at h;rcases h with rfl | rfl;exact a0r _;exact o3 x.pure) (fun _=>.val _) (c6d T n ps b hT hn hb t x) hσ
theorem d1Y {n:Nat} {ps:List Str} {b:List Ex} (hτ:τ=pbx T n ps b 1::u0 b.length::rest) (hc:D2 2 [0,1] c c'):F1 2 τ (.ret c) (.ret c') (pst T n ps b):=by
 subst hτ;exact ⟨[0,1],rfl,rfl,.ret hc,.inr ⟨_,rfl,.same rfl (a35 de_)⟩,.inr ⟨_,rfl,.same rfl C3⟩,tt⟩
theorem Y4 {f:α->List CV} {nn:Bool} (h:∀ a,S9 (f a)) (l:List α):D2 L sel (.list (l.map f) nn tok) (.list (l.map f) nn none) :=
 .list (fun r hr c hc=>(C4 (f:=f) (fun a=>(h a).all) _ r hr c hc).old) (fun j hj=>by cases hj)
def a2F:Nat->List Tok->Nat->List Str->Option (List Str × Nat)
 | 0,_,_,_=>none
 | f+1,T,n,l=>(J1 T n).bind fun x=>if l.length=8 then none else if x.1.t∈l then none else
  if isT (tk T x.2) 4 [44]=true then a2F f T (x.2+1) (l++[x.1.t]) else (pIs T x.2 4 [41]).bind fun m=>some (l++[x.1.t],m)
def K6 (T:List Tok) (n:Nat):Option (List Str × Nat):=(pIs T n 4 [40]).bind fun m=>if isT (tk T m) 4 [41]=true then some ([],m+1) else a2F 9 T m []
theorem U4 (l:List α) (x:α):(l++[x]).length=l.length+1:=by simp
theorem b2q (T:List Tok) (n:Nat) (ps:List Str) (b:List Ex) (hT:T.length<=1000000) (hn:n < T.length) (hW:a00 T):b8 CC 240 [.ptr 0 0] (pst T n ps b) (a3L (fun a:List Str × Nat=>.list (a.1.map scv) (gnn a.1.length) none) (fun a=>pst T a.2 ps b) (fun a=>K6 T n=some a/\a.2 < T.length/\a.1.length<=8) (K6 T n=none)):=by
 refine cO Tryz.func240 ?_;refine z_6 ?_;refine U5 ?_;refine cD (o6 rfl a6q o7 (P2 hT hn hW [40] ⟨rfl,rfl,de_⟩) rfl (fun x hx=>.inr ⟨x,l9,by rw [K6,hx.1];rfl,hx.2⟩) ?_);rintro n1 ⟨hs1,hn1⟩;dsimp only at hs1 hn1 ⊢;refine a9l ?_;refine de rfl c5w o7 (a1O hT hn1 hW [41] ⟨rfl,rfl,de_⟩) rfl ?_;rintro ⟨ac,n2⟩ ⟨ha,hn2,hn2l⟩;dsimp only at ha hn2 hn2l ⊢;refine c8 ?_;refine cC ?_ ?_ <;> intro h1
 ·have hc:isT (tk T n1) 4 [41]=true:=by rw [<- ha];simpa using h1
  rw [if_pos hc] at hn2;refine I0 ?_;exact ⟨_,j2 rfl tt c4,(by exact .inl ⟨([],n2),a0N rfl (B3 _ [] false),by rw [K6,hs1,n_6,if_pos hc,hn2],hn2l,by show 0<=8;decide⟩)⟩
 ·have hc:¬ isT (tk T n1) 4 [41]=true:=by rw [<- ha];simpa using h1
  rw [if_neg hc] at hn2;refine a4O ?_;refine B2 hCC 2 rfl (α:=List Str × Nat) (fun x=>[(0,.ptr 0 0),(3,(.list (x.1.map scv) (gnn x.1.length) (G9 x.1.length 2)))]) (fun x=>[pbx T x.2 ps b 1,u0 b.length,u0 x.1.length]) (fun x=>x.1.length<=8/\x.2 < T.length/\K6 T n=a2F (9 - x.1.length) T x.2 x.1) (fun x=>9 - x.1.length) ⟨([],n2),[0,1,7],⟨n_3 _,hn2l,by rw [K6,hs1,n_6,if_neg hc,hn2];rfl⟩,⟨rfl,rfl⟩,ut_,uq_⟩ ?_;intro ⟨l,m⟩ ⟨hl,hm,hsp⟩;dsimp only at hl hm hsp ⊢;obtain ⟨f,hf⟩:∃ f,9 - l.length=f+1:=⟨8 - l.length,om_⟩;rw [hf,a2F] at hsp;refine F5 ?_;refine z_2 ?_;refine cD (o6 rfl c1F ⟨tt,tt⟩ (b0A hT hm hW ⟨rfl,rfl,de_⟩) rfl (fun x hx=>.inr ⟨x,l9,by rw [hsp,hx.1];rfl,hx.2⟩) ?_);rintro ⟨t,m1⟩ ⟨ht,hm1⟩;dsimp only at ht hm1 ⊢;rw [ht,n_6] at hsp;dsimp only at hsp;refine a62 ?_;refine a9l ?_;refine a8j ?_;refine cC ?_ ?_ <;> intro h2
  ·have h8:l.length=8:=sm_ h2;rw [if_pos h8] at hsp;exact a5k
  ·have h8:¬ l.length=8:=sm_ h2;rw [if_neg h8] at hsp;refine a5L ?_;refine a6Z ?_;refine ye rfl c7d i7 (a0d l (gnn l.length) t.t om_ _) rfl ?_;refine c8 ?_;refine cC ?_ ?_ <;> intro h3
   ·have hi:t.t∈l:=sp_ h3;rw [if_pos hi] at hsp;exact a5k
   ·have hi:¬ t.t∈l:=sp_ h3;rw [if_neg hi] at hsp;have hls:=U4 l t.t;refine a1m ?_;refine a6Z ?_;refine cY (A2 [scv t.t] rfl ⟨tt,tt⟩ t_1 t_0 t_3 rfl rfl rfl rfl rfl rfl rfl rfl rfl) ?_;refine cD (C5 rfl tt tt rfl si_ q_2 t_1 t_0 a3y t_3 rfl (.inr rfl) q_8 a36 E7 ((l++[t.t]).map scv) (l++[t.t]).length si_ si_ ?_);refine O0 ?_;refine de rfl c5w o7 (a1O hT hm1 hW [44] ⟨rfl,rfl,de_⟩) rfl ?_;rintro ⟨ac2,m2⟩ ⟨ha2,hm2,hm2l⟩;dsimp only at ha2 hm2 hm2l ⊢;refine S4 ?_;refine cC ?_ ?_ <;> intro h4
    ·have hc2:¬ isT (tk T m1) 4 [44]=true:=by rw [<- ha2];simpa using h4
     rw [if_neg hc2] at hm2 hsp;subst hm2;refine b0t ?_;refine cD (o6 rfl a6q o7 (P2 hT hm2l hW [41] ⟨rfl,rfl,de_⟩) rfl (fun x hx=>.inr ⟨x,l9,by rw [hsp,hx.1];rfl,hx.2⟩) ?_);rintro m3 ⟨hs3,hm3⟩;dsimp only at hs3 hm3 ⊢;refine L7 ?_;refine z_7 ?_;exact ⟨_,j2 rfl tt c4,(by exact .inl ⟨(l++[t.t],m3),d1Y rfl (Y4 (f:=scv) (fun _=>⟨.val _,tt⟩) _),by rw [hsp,hs3];rfl,hm3,by show (l++[t.t]).length<=8;omega⟩)⟩
    ·have hc2:isT (tk T m1) 4 [44]=true:=by rw [<- ha2];simpa using h4
     rw [if_pos hc2] at hm2 hsp;subst hm2;refine c9 ?_;exact ⟨(l++[t.t],m1+1),[0,1,4],⟨do_,do_,hm2l,by dsimp only;rw [hsp,show 9 - (l++[t.t]).length=f by omega]⟩,⟨rfl,rfl⟩,ut_,uq_⟩
theorem b3d {n:Nat} {ps:List Str} {b:List Ex} (hT:T.length<=1000000) (hn:n < T.length) (hW:a00 T) (hσ:PAt σ q s T n ps b):b8 CC 240 [.ptr q 0] σ (a4C (fun a:List Str × Nat=>.list (a.1.map scv) (gnn a.1.length) none) (fun a=>σ.set q (pbx T a.2 ps b s)) (fun a=>K6 T n=some a/\a.2 < T.length/\a.1.length<=8) σ q s (K6 T n=none)) :=
 a0O (c:=fun a:List Str × Nat=>.list (a.1.map scv) (gnn a.1.length) none) (N:=fun a=>a.2) (fun _ h=>by cases h) (fun _=>C2 _ _) (b2q T n ps b hT hn hW) hσ
def F0 (op:Int):Int:=if op=6\/op=7 then 1 else if op=1\/op=2 then 2 else 3
def S0:List (Int × Str):=[(1,[43]),(2,[45]),(3,[42]),(4,[47]),(5,[37]),(6,[60]),(7,[61,61])]
theorem a8f (op:Int) (σ:List b9):b8 CC 319 [iv op] σ fun r σ'=>r = .ret (iv (F0 op))/\σ'=σ:=by
 refine an_ Tryz.func319 ?_;refine Q7 ?_;refine a4B ?_;refine a6T ?_;refine cC ?_ ?_ <;> intro h1
 ·have e:op=6:=sp_ h1;refine c9 ?_;refine cC ?_ ?_ <;> intro h2
  ·refine I0 ?_;exact ⟨_,j2 rfl tt c4,_,_,rfl,rfl,G4 (show (1:Int)=F0 op by rw [F0,if_pos (.inl e)])⟩
  ·rw [h1] at h2;cases h2
 ·have e6:¬ op=6:=sp_ h1;refine a1o ?_;refine cC ?_ ?_ <;> intro h6
  ·have e:op=7:=sp_ h6;refine I0 ?_;exact ⟨_,j2 rfl tt c4,_,_,rfl,rfl,G4 (show (1:Int)=F0 op by rw [F0,if_pos (.inr e)])⟩
  ·have e7:¬ op=7:=sp_ h6;refine a6T ?_;refine cC ?_ ?_ <;> intro h7
   ·have e:op=1:=sp_ h7;refine c9 ?_;refine cC ?_ ?_ <;> intro h8
    ·refine I0 ?_;exact ⟨_,j2 rfl tt c4,_,_,rfl,rfl,G4 (show (2:Int)=F0 op by rw [F0,if_neg om_,if_pos (.inl e)])⟩
    ·rw [h7] at h8;cases h8
   ·have e1:¬ op=1:=sp_ h7;refine a1o ?_;refine cC ?_ ?_ <;> intro h9
    ·have e:op=2:=sp_ h9;refine I0 ?_;exact ⟨_,j2 rfl tt c4,_,_,rfl,rfl,G4 (show (2:Int)=F0 op by rw [F0,if_neg om_,if_pos (.inr e)])⟩
    ·have e2:¬ op=2:=sp_ h9;refine a9F ?_;exact ⟨_,j2 rfl tt c4,_,_,rfl,rfl,G4 (show (3:Int)=F0 op by rw [F0,if_neg om_,if_neg om_])⟩
theorem d3n (m:List (Int × Str)):a3V (.map (gm kv sv m)):=fun x hx=>by
 obtain ⟨y,_,rfl⟩:=K5.1 hx;exact ⟨.val _,.val _⟩
theorem c5q:b8 CC 307 [] [] fun r τ=>∃ _:Unit,a1e [b9.map (gm kv sv S0)].length τ r (.ret (.map 0))/\a8V [b9.map (gm kv sv S0)].length τ τ [b9.map (gm kv sv S0)]/\([]:List b9).length<=[b9.map (gm kv sv S0)].length/\True:=by
 refine cO Tryz.func307 ?_;refine a4o ?_;refine cD (Z5 rfl ?_);refine cD (l8 (vc:=sv) (l:=S0.take 0) a0A (.inr rfl) tt rfl rfl rfl rfl rfl a2s rfl ?_);refine cD (l8 (vc:=sv) (l:=S0.take 1) a0A (.inr rfl) tt rfl rfl rfl rfl rfl a2s rfl ?_);refine cD (l8 (vc:=sv) (l:=S0.take 2) a0A (.inr rfl) tt rfl rfl rfl rfl rfl a2s rfl ?_);refine cD (l8 (vc:=sv) (l:=S0.take 3) a0A (.inr rfl) tt rfl rfl rfl rfl rfl a2s rfl ?_);refine cD (l8 (vc:=sv) (l:=S0.take 4) a0A (.inr rfl) tt rfl rfl rfl rfl rfl a2s rfl ?_);refine cD (l8 (vc:=sv) (l:=S0.take 5) a0A (.inr rfl) tt rfl rfl rfl rfl rfl a2s rfl ?_);refine cD (l8 (vc:=sv) (l:=S0.take 6) a0A (.inr rfl) tt rfl rfl rfl rfl rfl a2s rfl ?_);refine cY j1 ?_;refine z_7 ?_;exact ⟨_,j2 rfl tt c4,(by exact ⟨(),.ret (.old (.map (Nat.zero_lt_one))),⟨.same (d3n _).old,tt⟩,n_3 _,tt⟩)⟩
theorem b7F (σ:List b9):b8 CC 307 [] σ fun r τ=>∃ _:Unit,r = .ret (.map σ.length)/\τ=σ++[.map (gm kv sv S0)]/\True :=
 a05 (α:=Unit) (obs:=[]) (args:=[]) (res:=fun _=>.ret (.map 0)) (res':=fun _=>.ret (.map σ.length)) (S:=fun _=>[]) (N:=fun _=>[.map (gm kv sv S0)]) (P:=fun _=>True) [] hCC rfl (fun i j k h=>by simp at h) (fun i k h=>by simp at h) (fun ob h=>by cases h) ⟨rfl,fun i c c' h=>by simp at h⟩
  (a04 (res:=fun _=>.ret (.map 0)) (S:=fun _=>[.map (gm kv sv S0)]) (P:=fun _=>True) hCC c5q) (fun m _=>⟨rfl,fun ob h=>by simp at h;subst h;exact d3n _⟩) (fun m _=>.ret (.map (.inr ⟨n_3 _,rfl⟩)))
def opM (t:Tok) (lv:Int) (x:Int × Str):Bool:=(t.k == 4) && decide (t.t=x.2) && (F0 x.1 == lv)
def opS (t:Tok) (lv:Int):Int:=((S0.find? (opM t lv)).map (·.1)).getD 0
theorem d6Q:∀ x∈S0,∀ y∈S0,x.2=y.2->x=y:=by decide
theorem a5c {x:Int × Str} (hx:x∈S0) (h:opM t lv x=true):opS t lv=x.1:=by
 unfold opS;cases hf:S0.find? (opM t lv) with
 | none=>exact absurd h (by simpa using List.find?_eq_none.1 hf x hx)
 | some y =>
  have h1:=List.find?_some hf;have h2:=b9v hf;simp [opM] at h h1;have:=d6Q x hx y h2 (by rw [<- h.1.2,<- h1.1.2]);rw [this];rfl
theorem b2b (h:∀ x∈S0,opM t lv x=false):opS t lv=0:=by
 unfold opS;have:S0.find? (opM t lv)=none:=List.find?_eq_none.2 fun x hx=>by simp [h x hx]
 rw [this];rfl
theorem b50 {l:List α} {x:α} (hy:l[i]? = some y) (h:x∈l):x=y\/x∈l.eraseIdx i:=by
 obtain ⟨j,hj⟩:=L3.1 h;by_cases hji:j=i
 ·subst hji;rw [hy] at hj;injection hj with hj;exact .inl hj.symm
 ·exact .inr (c7f.2 ⟨j,hji,hj⟩)
theorem b5Y (T:List Tok) (n:Nat) (ps:List Str) (b:List Ex) (hT:T.length<=1000000) (hn:n < T.length) (lv:Int):b8 CC 302 [.ptr 0 0,iv lv] (pst T n ps b) (fun r τ=>F1 2 τ r (.ret (iv (opS (tk T n) lv))) (pst T n ps b)):=by
 refine cO Tryz.func302 ?_;refine U5 ?_;refine c8N ?_;refine T5 ?_;refine dc rfl Tryz.call307 trivial (b7F _) ?_;intro _ _;refine cD (c2H rfl tt rfl a2s rfl ?_);refine a4B ?_;refine j5 hCC (α:=List (Int × Str) × List (Int × Str)) (fun x=>[(1,iv lv),(5,.ptr 2 0),(11,.ptr 4 0)]) (fun x=>[pbx T n ps b 1,u0 b.length,.box (tk T n).cells,.dead,.iter (gm kv sv x.1) (gm kv sv x.2)]) (fun x=>(∀ y∈x.2,y∈S0)/\∀ y∈S0,y∉x.2->opM (tk T n) lv y=false) (fun x=>x.2.length) ([],S0) ⟨fun y h=>h,fun y h h2=>absurd h h2⟩ tu_ (extra0:=[]) rfl r5 uz_ ?_;intro ⟨cur,left⟩ ⟨hls,hno⟩;dsimp only at hls hno ⊢;refine z_0 ?_;refine cD (c8p rfl tt rfl rfl (fun hz=>?_) (fun i x hx=>?_))
 ·
  have hl0:left=[]:=by
   cases left with
   | nil=>rfl
   | cons y l=>cases hz
  subst hl0;refine cY a5p ?_;refine z_9 ?_;refine cC ?_ ?_ <;> intro h1
  ·cases h1
  ·have hz0:=b2b (fun y hy=>hno y hy si_);refine a1w ?_;exact ⟨_,j2 rfl tt c4,(by rw [hz0];exact a0N rfl (.val _))⟩
 ·
  obtain ⟨⟨k,s⟩,hy,rfl⟩:=c6v hx;rw [b6B];have hks:=hls _ (n_0 hy);refine cY a5p ?_;refine z_9 ?_;refine cC ?_ ?_ <;> intro h3
  ·refine a21 ?_;refine z_0 ?_;refine cY (c2B rfl tt rfl rfl) ?_;refine d6I ?_;refine b25 ?_;refine z_0 ?_;refine a2z ?_;refine a6s ?_;refine cG b6k ?_;refine b3T ?_;refine c2T ?_;refine cG (fun hg=>j8 rfl Tryz.call319 ⟨hg,tt⟩ (a8f k _) rfl) ?_;refine cG T7 ?_;refine cG b2Q ?_;refine a4M ?_;refine cC ?_ ?_ <;> intro h4
   ·have hm:opM (tk T n) lv (k,s)=true:=h4;have hz1:=a5c hks hm;refine a9S ?_;exact ⟨_,j2 rfl tt c4,(by rw [hz1];exact a0N rfl (.val _))⟩
   ·have hm:opM (tk T n) lv (k,s)=false:=h4;refine c9 ?_;exact ⟨([(k,s)],left.eraseIdx i),_,⟨by dsimp only;rw [List.length_eraseIdx_of_lt (n_1.1 hy).1];have:=(n_1.1 hy).1;omega,fun y hy'=>hls y (List.mem_of_mem_eraseIdx hy'),fun y hy1 hy2=>by
     by_cases hyl:y∈left
     ·rcases b50 hy hyl with rfl | h
      ·exact hm
      ·exact absurd h hy2
     ·exact hno y hy1 hyl⟩,tu_,rfl⟩
  ·cases h3
theorem b8V {n:Nat} {ps:List Str} {b:List Ex} (hT:T.length<=1000000) (hn:n < T.length) (lv:Int) (hσ:PAt σ q s T n ps b):b8 CC 302 [.ptr q 0,iv lv] σ fun r τ=>r = .ret (iv (opS (tk T n) lv))/\τ=σ:=c0Z (fun _ h=>by simp at h;subst h;exact .val _) (.val _) (b5Y T n ps b hT hn lv) hσ
abbrev PX:=Nat × Nat × List Ex
structure PF where
 ex:Nat->Nat->List Ex->Option PX
 bin:Nat->Nat->Nat->List Ex->Option PX
 lp:Nat->Nat->Nat->Nat->List Ex->Option PX
 fac:Nat->Nat->List Ex->Option PX
 ag:Nat->Nat->List Ex->List Int->Option (List Int × Nat × List Ex)
def a2B (T:List Tok) (F:PF) (d n:Nat) (b:List Ex):Option (List Int × Nat × List Ex) :=
 (pIs T n 4 [40]).bind fun n1=>if isT (tk T n1) 4 [41]=true then some ([],n1+1,b) else F.ag d n1 b []
def K4 (b:List Ex) (x:Ex) (m:Nat):Option PX:=(V9 b x).bind fun w=>some (w.1,m,w.2)
def W6 (T:List Tok) (F:PF) (u:Str) (d n:Nat) (b:List Ex):Option PX :=
 (pIs T n 4 [40]).bind fun n1 =>
  if u=[114,101,97,100] then (a0L T n1).bind fun s=>(pIs T s.2 4 [44]).bind fun n2=>(F.ex (d+1) n2 b).bind fun x=>(pIs T x.2.1 4 [41]).bind fun m=>K4 x.2.2 ⟨6,0,0,s.1.t,[(x.1:Int)]⟩ m
  else if u=[115,105,122,101] then (a0L T n1).bind fun s=>(pIs T s.2 4 [41]).bind fun m=>K4 b ⟨7,0,0,s.1.t,[]⟩ m
  else if u=[104,97,115] then (a0L T n1).bind fun s=>(pIs T s.2 4 [41]).bind fun m=>K4 b ⟨8,0,0,s.1.t,[]⟩ m
  else if u=[101,110,118] then (F8 T n1 3).bind fun s=>if C8 s.1.t=true then (pIs T s.2 4 [41]).bind fun m=>K4 b ⟨9,0,0,s.1.t,[]⟩ m else none
  else (F8 T n1 2).bind fun s=>if 64<=s.1.n then none else (pIs T s.2 4 [41]).bind fun m=>K4 b ⟨10,s.1.n,0,[],[]⟩ m
def G0 (T:List Tok) (ps:List Str) (F:PF):PF where
 ex d n b:=if 32 < d then none else if isT (tk T n) 1 [105,102]=true then
  (F.ex (d+1) (n+1) b).bind fun x=>(pIs T x.2.1 1 [116,104,101,110]).bind fun n2=>(F.ex (d+1) n2 x.2.2).bind fun y=>(pIs T y.2.1 1 [101,108,115,101]).bind fun n3=>(F.ex (d+1) n3 y.2.2).bind fun z =>
   K4 z.2.2 ⟨5,0,0,[],[(x.1:Int),(y.1:Int),(z.1:Int)]⟩ z.2.1
  else F.bin 1 d n b
 bin lv d n b:=if lv=4 then F.fac d n b else (F.bin (lv+1) d n b).bind fun x=>F.lp lv d x.1 x.2.1 x.2.2
 lp lv d x n b:=if opS (tk T n) (lv:Int)=0 then some (x,n,b) else (F.bin (lv+1) d (n+1) b).bind fun y=>(V9 y.2.2 ⟨4,0,opS (tk T n) (lv:Int),[],[(x:Int),(y.1:Int)]⟩).bind fun w =>
  if lv=1 then some (w.1,y.2.1,w.2) else F.lp lv d w.1 y.2.1 w.2
 fac d n b :=
  if (tk T n).k=2 then K4 b ⟨1,(tk T n).n,0,[],[]⟩ (n+1)
  else if isT (tk T n) 4 [45]=true then (F8 T (n+1) 2).bind fun y=>K4 b ⟨1,-y.1.n,0,[],[]⟩ y.2
  else if isT (tk T n) 4 [40]=true then (F.ex (d+1) (n+1) b).bind fun x=>(pIs T x.2.1 4 [41]).bind fun m=>some (x.1,m,x.2.2)
  else if (tk T n).k≠1 then none
  else if (tk T n).t=[114,101,97,100]\/(tk T n).t=[115,105,122,101]\/(tk T n).t=[104,97,115]\/(tk T n).t=[101,110,118]\/(tk T n).t=[102,108,105,112] then W6 T F (tk T n).t d (n+1) b
  else if P5 (tk T n).t=true then none
  else if isT (tk T (n+1)) 4 [40]=true then (a2B T F d (n+1) b).bind fun a=>K4 a.2.2 ⟨3,0,0,(tk T n).t,a.1⟩ a.2.1
  else if ixS ps (tk T n).t 0 < 0 then none else K4 b ⟨2,ixS ps (tk T n).t 0,0,[],[]⟩ (n+1)
 ag d n b acc:=(F.ex (d+1) n b).bind fun x=>if isT (tk T x.2.1) 4 [44]=true then F.ag d (x.2.1+1) x.2.2 (acc++[(x.1:Int)]) else (pIs T x.2.1 4 [41]).bind fun m=>some (acc++[(x.1:Int)],m,x.2.2)
def z8 (T:List Tok) (ps:List Str):Nat->PF
 | 0=>⟨fun _ _ _=>none,fun _ _ _ _=>none,fun _ _ _ _ _=>none,fun _ _ _=>none,fun _ _ _ _=>none⟩
 | f+1=>G0 T ps (z8 T ps f)
def EC (T:List Tok) (ps:List Str) (f:Nat):Prop:=∀ (d n:Nat) (b:List Ex),n < T.length->b.length<=256->d<=33->8*(T.length - n)+6<=f->∀ (σ:List b9) (q s:Nat),PAt σ q s T n ps b->b8 CC 241 [.ptr q 0,iv d] σ (a4C (fun a:PX=>(iv a.1)) (fun a:PX=>(σ.set q (pbx T a.2.1 ps a.2.2 σ.length)).set s .dead++[u0 a.2.2.length]) (fun a:PX=>(z8 T ps f).ex d n b=some a/\n < a.2.1/\a.2.1 < T.length/\a.2.2.length<=256) σ q s ((z8 T ps f).ex d n b=none))
def BC (T:List Tok) (ps:List Str) (f:Nat):Prop:=∀ (lv d n:Nat) (b:List Ex),n < T.length->b.length<=256->1<=lv->lv<=4->d<=32->8*(T.length - n)+6<=f+lv->∀ (σ:List b9) (q s:Nat),PAt σ q s T n ps b->b8 CC 278 [.ptr q 0,iv lv,iv d] σ (a4C (fun a:PX=>(iv a.1)) (fun a:PX=>(σ.set q (pbx T a.2.1 ps a.2.2 σ.length)).set s .dead++[u0 a.2.2.length]) (fun a:PX=>(z8 T ps f).bin lv d n b=some a/\n < a.2.1/\a.2.1 < T.length/\a.2.2.length<=256) σ q s ((z8 T ps f).bin lv d n b=none))
def FC (T:List Tok) (ps:List Str) (f:Nat):Prop:=∀ (d n:Nat) (b:List Ex),n < T.length->b.length<=256->d<=32->8*(T.length - n)+1<=f->∀ (σ:List b9) (q s:Nat),PAt σ q s T n ps b->b8 CC 301 [.ptr q 0,iv d] σ (a4C (fun a:PX=>(iv a.1)) (fun a:PX=>(σ.set q (pbx T a.2.1 ps a.2.2 σ.length)).set s .dead++[u0 a.2.2.length]) (fun a:PX=>(z8 T ps f).fac d n b=some a/\n < a.2.1/\a.2.1 < T.length/\a.2.2.length<=256) σ q s ((z8 T ps f).fac d n b=none))
structure a0b (T:List Tok) (ps:List Str):Prop where
 len:T.length<=1000000
 w:a00 T
 l:c73 T
 ps:ps.length<=1000000
 nn:∀ i,0<=(tk T i).n/\(tk T i).n<=9007199254740993
variable {ps:List Str} {nn:Bool} {l:List α}
theorem O4 {n:Nat} {k:Int} {s:Str} (h:pIs T n k s=some m):m=n+1:=by
 unfold pIs at h;split at h
 ·injection h with h;exact h.symm
 ·cases h
theorem c98 (hc:a0b T ps) (hE:EC T ps f) (hB:BC T ps f) (d n:Nat) (b:List Ex) (hn:n < T.length) (hb:b.length<=256) (hd0:d<=33) (hf:8*(T.length - n)+6<=f+1):b8 CC 241 [.ptr 0 0,iv d] (pst T n ps b) (a3L (fun a:PX=>(iv a.1)) (fun a=>a7n T a.2.1 ps a.2.2) (fun a:PX=>(z8 T ps (f+1)).ex d n b=some a/\n < a.2.1/\a.2.1 < T.length/\a.2.2.length<=256) ((z8 T ps (f+1)).ex d n b=none)):=by
 have hT:=hc.len;have hW:=hc.w;have hsp:(z8 T ps (f+1)).ex d n b=(G0 T ps (z8 T ps f)).ex d n b:=rfl;simp only [G0] at hsp;refine cO Tryz.func241 ?_;refine U5 ?_;refine c5V ?_;refine z_9 ?_;refine a3F ?_;refine cC ?_ ?_ <;> intro h1
 ·have hd:32 < d:=sm_ h1;rw [if_pos hd] at hsp;exact a5k
 ·have hd:¬ 32 < d:=sm_ h1;rw [if_neg hd] at hsp;refine a5L ?_;refine ye rfl c7b a2J (b6C hT hn 1 [105,102] ⟨rfl,rfl,n_2 rfl⟩) rfl ?_;refine S4 ?_;refine cC ?_ ?_ <;> intro h2
  ·have hi:isT (tk T n) 1 [105,102]=false:=sp_ h2;rw [if_neg (by rw [hi];decide)] at hsp;refine z_5 ?_;refine cD (o6 rfl c9N ⟨tt,rfl,tt,tt⟩ (hB 1 d n b hn hb om_ om_ om_ om_ _ 0 1 ⟨rfl,rfl,n_2 rfl⟩) rfl (fun x hx=>.inr ⟨x,l9,by rw [hsp];exact hx.1,hx.2⟩) ?_);rintro ⟨i,m,b2⟩ ⟨g1,g2,g3,g4⟩;dsimp only at g1 g2 g3 g4 ⊢;refine d6q ?_;exact ⟨_,j2 rfl tt c4,(by exact .inl ⟨(i,m,b2),Y8 (k:=3) rfl rfl de_ (.val _),by rw [hsp];exact g1,g2,g3,g4⟩)⟩
  ·have hi:isT (tk T n) 1 [105,102]=true:=sp_ h2;rw [if_pos hi] at hsp;have hn1:=hW n hn (a7j hi de_);refine a6Q ?_;refine a9K ?_;refine a4x ?_;refine cD (o6 rfl c1c i7 (hE (d+1) (n+1) b hn1 hb om_ om_ _ 0 1 ⟨rfl,rfl,n_2 rfl⟩) rfl (fun x hx=>.inr ⟨x,l9,by rw [hsp,hx.1];rfl,hx.2⟩) ?_);rintro ⟨i1,n1,b1⟩ ⟨x1,y1,z1,w1⟩;dsimp only at x1 y1 z1 w1 ⊢;rw [x1,n_6] at hsp;dsimp only at hsp;refine c5 [pbx T n1 ps b1 3,.dead,.box (tk T n).cells,u0 b1.length] rfl ?_;refine O0 ?_;refine cD (o6 rfl c7u o7 (b48 hT z1 hW [116,104,101,110] ⟨rfl,rfl,n_2 rfl⟩) rfl (fun x hx=>.inr ⟨x,l9,by rw [hsp,hx.1];rfl,hx.2⟩) ?_);rintro n2 ⟨x2,y2⟩;dsimp only at x2 y2 ⊢;rw [x2,n_6] at hsp;have hn2:=O4 x2;refine c5 [pbx T n2 ps b1 3,.dead,.box (tk T n).cells,u0 b1.length] rfl ?_;refine c8 ?_;refine a4x ?_;refine cD (o6 rfl c1c i7 (hE (d+1) n2 b1 y2 w1 om_ om_ _ 0 _ ⟨rfl,rfl,n_2 rfl⟩) rfl (fun x hx=>.inr ⟨x,l9,by rw [hsp,hx.1];rfl,hx.2⟩) ?_);rintro ⟨i3,n3,b3⟩ ⟨x3,y3,z3,w3⟩;dsimp only at x3 y3 z3 w3 ⊢;rw [x3,n_6] at hsp;dsimp only at hsp;refine c5 [pbx T n3 ps b3 4,.dead,.box (tk T n).cells,.dead,u0 b3.length] rfl ?_;refine O0 ?_;refine cD (o6 rfl c7u o7 (b48 hT z3 hW [101,108,115,101] ⟨rfl,rfl,n_2 rfl⟩) rfl (fun x hx=>.inr ⟨x,l9,by rw [hsp,hx.1];rfl,hx.2⟩) ?_);rintro n4 ⟨x4,y4⟩;dsimp only at x4 y4 ⊢;rw [x4,n_6] at hsp;have hn4:=O4 x4;refine c5 [pbx T n4 ps b3 4,.dead,.box (tk T n).cells,.dead,u0 b3.length] rfl ?_;refine c8 ?_;refine a4x ?_;refine cD (o6 rfl c1c i7 (hE (d+1) n4 b3 y4 w3 om_ om_ _ 0 _ ⟨rfl,rfl,n_2 rfl⟩) rfl (fun x hx=>.inr ⟨x,l9,by rw [hsp,hx.1];rfl,hx.2⟩) ?_);rintro ⟨i5,n5,b5⟩ ⟨x5,y5,z5,w5⟩;dsimp only at x5 y5 z5 w5 ⊢;rw [x5,n_6,K4] at hsp;dsimp only at hsp;refine c5 [pbx T n5 ps b5 5,.dead,.box (tk T n).cells,.dead,.dead,u0 b5.length] rfl ?_;refine O0 ?_;refine cY a4i ?_;refine a4Q ?_;refine cY j1 ?_;refine cY (A2 ([(i1:Int),(i3:Int),(i5:Int)].map icv) rfl C0 t_4 t_2 t_6 rfl rfl rfl rfl rfl rfl rfl rfl rfl) ?_;refine cY c06 ?_;refine cD (o6 rfl b16 C0 (a0k hT z5 w5 (tk T n) ⟨5,0,0,[],[(i1:Int),(i3:Int),(i5:Int)]⟩ ⟨rfl,rfl,n_2 rfl⟩) rfl (fun x hx=>.inr ⟨x,l9,by rw [hsp,hx.1];rfl,hx.2⟩) ?_);rintro ⟨i6,b6⟩ ⟨x6,y6⟩;dsimp only at x6 y6 ⊢;rw [x6,n_6] at hsp;refine c5 [pbx T n5 ps b6 6,.dead,.box (tk T n).cells,.dead,.dead,.dead,u0 b6.length] rfl ?_;refine z_7 ?_;exact ⟨_,j2 rfl tt c4,(by exact .inl ⟨(i6,n5,b6),Y8 (k:=6) rfl rfl de_ (.val _),hsp,do_,z5,y6⟩)⟩
theorem d2w (hc:a0b T ps) (hE:EC T ps f) (hB:BC T ps f):EC T ps (f+1):=fun d n b hn hb hd hf σ q s hσ =>
 a3g (c:=fun a:PX=>(iv a.1)) (N:=fun a=>a.2.1) (B:=fun a=>a.2.2) (fun _ h=>by simp at h;subst h;exact .val _) (fun _=>.val _) (c98 hc hE hB d n b hn hb hd hf) hσ
def kf (ph:Bool):Nat:=if ph=true then 3 else 2
def of1 (ph:Bool) (m:Nat):b9:=if ph=true then .dead else u0 m
def of2 (ph:Bool) (m:Nat):b9:=if ph=true then u0 m else .dead
theorem d6W (h:¬ opS t lv=0):t.k≠5:=fun h5=>h (b2b fun x _=>by simp [opM,h5])
theorem a8k {b:List Ex} {k p:Nat} (h:sel[p]? = some k):D2 L sel (.list (b.map Ex.cv) (gnn b.length) (G9 b.length k)) (.list (b.map Ex.cv) (gnn b.length) (G9 b.length p)) :=
 .list (fun r hr c hc=>(C4 (f:=Ex.cv) (fun a=>(Ex.pure a).all) _ r hr c hc).old) (fun j hj=>by
  cases hb:b.length with
  | zero=>rw [hb] at hj;cases hj
  | succ m=>rw [hb] at hj;injection hj with hj;subst hj;exact ⟨k,rfl,h⟩)
theorem c0p (hc:a0b T ps) (hB:∀ g,g<=f->BC T ps g) (hF:FC T ps f) (lv d n:Nat) (b:List Ex) (hn:n < T.length) (hb:b.length<=256) (hl1:1<=lv) (hl4:lv<=4) (hd0:d<=32) (hf:8*(T.length - n)+6<=f+1+lv):b8 CC 278 [.ptr 0 0,iv lv,iv d] (pst T n ps b) (a3L (fun a:PX=>(iv a.1)) (fun a=>a7n T a.2.1 ps a.2.2) (fun a:PX=>(z8 T ps (f+1)).bin lv d n b=some a/\n < a.2.1/\a.2.1 < T.length/\a.2.2.length<=256) ((z8 T ps (f+1)).bin lv d n b=none)):=by
 have hT:=hc.len;have hW:=hc.w;have hsp:(z8 T ps (f+1)).bin lv d n b=(G0 T ps (z8 T ps f)).bin lv d n b:=rfl;simp only [G0] at hsp;refine cO Tryz.func278 ?_;refine z_6 ?_;refine a2Q ?_;refine cC ?_ ?_ <;> intro h1
 ·have h4:lv=4:=sm_ h1;rw [if_pos h4] at hsp;refine z_5 ?_;refine cD (o6 rfl Tryz.call301 i7 (hF d n b hn hb hd0 om_ _ 0 1 ⟨rfl,rfl,n_2 rfl⟩) rfl (fun x hx=>.inr ⟨x,l9,by rw [hsp];exact hx.1,hx.2⟩) ?_);rintro ⟨i,m,b2⟩ ⟨g1,g2,g3,g4⟩;dsimp only at g1 g2 g3 g4 ⊢;refine c5 [pbx T m ps b2 2,.dead,u0 b2.length] rfl ?_;refine z_7 ?_;exact ⟨_,j2 rfl tt c4,(by exact .inl ⟨(i,m,b2),Y8 (k:=2) rfl rfl de_ (.val _),by rw [hsp];exact g1,g2,g3,g4⟩)⟩
 ·have h4:¬ lv=4:=sm_ h1;rw [if_neg h4] at hsp;refine a95 ?_;refine c0n ?_;refine cD (o6 rfl c9N C0 (hB f (n_4 _) (lv+1) d n b hn hb om_ om_ hd0 om_ _ 0 1 ⟨rfl,rfl,n_2 rfl⟩) rfl (fun x hx=>.inr ⟨x,l9,by rw [hsp,hx.1];rfl,hx.2⟩) ?_);rintro ⟨i1,n1,b1⟩ ⟨x1,y1,z1,w1⟩;dsimp only at x1 y1 z1 w1 ⊢;rw [x1,n_6] at hsp;dsimp only at hsp;refine c5 [pbx T n1 ps b1 2,.dead,u0 b1.length] rfl ?_;refine b13 ?_;refine B2 hCC 3 rfl (α:=Nat × Nat × List Ex × Bool × Nat) (fun x=>[(0,.ptr 0 0),(1,iv lv),(2,iv d),(7,iv x.1)]) (fun x=>[pbx T x.2.1 ps x.2.2.1 (kf x.2.2.2.1),.dead,of1 x.2.2.2.1 x.2.2.1.length,of2 x.2.2.2.1 x.2.2.1.length]) (fun x=>(z8 T ps (f+1)).bin lv d n b=(z8 T ps x.2.2.2.2).lp lv d x.1 x.2.1 x.2.2.1/\n < x.2.1/\x.2.1 < T.length/\x.2.2.1.length<=256/\x.2.2.2.2<=f/\8*(T.length - x.2.1)+3<=x.2.2.2.2) (fun x=>T.length - x.2.1) ⟨(i1,n1,b1,false,f),[0,1,2,7],⟨hsp,y1,z1,w1,n_4 _,do_⟩,⟨rfl,rfl⟩,ut_,uq_⟩ ?_;intro ⟨x,m,b2,ph,g⟩ ⟨hlp,hnm,hm,hb2,hgf,hg⟩;dsimp only at hlp hnm hm hb2 hgf hg ⊢;obtain ⟨g,rfl⟩:∃ g',g=g'+1:=⟨g - 1,om_⟩;have hlp2:(z8 T ps (g+1)).lp lv d x m b2=(G0 T ps (z8 T ps g)).lp lv d x m b2:=rfl;simp only [G0] at hlp2;rw [hlp2] at hlp;refine F5 ?_;refine z_5 ?_;refine ye rfl Tryz.call302 i7 (b8V hT hm (lv:Int) (q:=0) (s:=kf ph) b6n) rfl ?_;refine b1w ?_;refine cC ?_ ?_ <;> intro h2
  ·have h0:opS (tk T m) (lv:Int)=0:=sp_ h2;rw [if_pos h0] at hlp;refine a9S ?_;exact ⟨_,j2 rfl tt c4,(by exact .inl ⟨(x,m,b2),(by cases ph;exact Y8 (k:=2) rfl rfl de_ (.val _);exact Y8 (k:=3) rfl rfl de_ (.val _)),hlp,hnm,hm,hb2⟩)⟩
  ·have h0:¬ opS (tk T m) (lv:Int)=0:=sp_ h2;rw [if_neg h0] at hlp;have hm1:=hW m hm (d6W h0);refine a1m ?_;refine ye rfl c32 ⟨tt,tt⟩ (a3b hT hm (q:=0) (s:=kf ph) b6n) rfl ?_;refine a62 ?_;refine L7 ?_;refine cY K2 ?_;refine a9K ?_;refine z_5 ?_;refine c0n ?_;refine cD (o6 rfl c9N C0 (hB g om_ (lv+1) d (m+1) b2 hm1 hb2 om_ om_ hd0 om_ _ 0 (kf ph) b6n) rfl (fun x hx=>.inr ⟨x,l9,by rw [hlp,hx.1];rfl,hx.2⟩) ?_);rintro ⟨i3,n3,b3⟩ ⟨x3,y3,z3,w3⟩;dsimp only at x3 y3 z3 w3 ⊢;rw [x3,n_6] at hlp;dsimp only at hlp;refine c5 [pbx T n3 ps b3 5,.dead,.dead,.dead,.box (tk T m).cells,u0 b3.length] N8 ?_;refine O0 ?_;refine cY a4i ?_;refine a4Q ?_;refine cY j1 ?_;refine cY (A2 ([(x:Int),(i3:Int)].map icv) rfl i7 t_4 t_2 t_6 rfl rfl rfl rfl rfl rfl rfl rfl rfl) ?_;refine cY d7o ?_;refine cD (o6 rfl b16 C0 (a0k hT z3 w3 (tk T m) ⟨4,0,opS (tk T m) (lv:Int),[],[(x:Int),(i3:Int)]⟩ ⟨rfl,rfl,n_2 rfl⟩) rfl (fun x hx=>.inr ⟨x,l9,by rw [hlp,hx.1];rfl,hx.2⟩) ?_);rintro ⟨i4,b4⟩ ⟨x4,y4⟩;dsimp only at x4 y4 ⊢;rw [x4,n_6] at hlp;dsimp only at hlp;refine c5 [pbx T n3 ps b4 6,.dead,.dead,.dead,.box (tk T m).cells,.dead,u0 b4.length] rfl ?_;refine O0 ?_;refine O1 ?_;refine cC ?_ ?_ <;> intro h3
   ·have hl1:lv=1:=sm_ h3;rw [if_pos hl1] at hlp;refine a9S ?_;exact ⟨_,j2 rfl tt c4,(by exact .inl ⟨(i4,n3,b4),Y8 (k:=6) rfl rfl de_ (.val _),hlp,do_,z3,y4⟩)⟩
   ·have hl1:¬ lv=1:=sm_ h3;rw [if_neg hl1] at hlp;refine c9 ?_;exact ⟨(i4,n3,b4,true,g),[0,1,2,6],⟨do_,hlp,do_,z3,y4,do_,do_⟩,⟨rfl,rfl⟩,ut_,⟨.inr ⟨_,rfl,.box ⟨.old a2A,.old (.val _),.old a0G,a8k rfl,tt⟩⟩,.inl rfl,.inl rfl,.inr ⟨_,rfl,.same rfl C3⟩,tt⟩⟩
theorem c5v (hc:a0b T ps) (hB:∀ g,g<=f->BC T ps g) (hF:FC T ps f):BC T ps (f+1):=fun lv d n b hn hb hl1 hl4 hd hf σ q s hσ =>
 a3g (c:=fun a:PX=>(iv a.1)) (N:=fun a=>a.2.1) (B:=fun a=>a.2.2) (fun _ h=>by simp at h;rcases h with rfl | rfl <;> exact .val _) (fun _=>.val _) (c0p hc hB hF lv d n b hn hb hl1 hl4 hd hf) hσ
theorem a5z {n:Nat} {k:Int} (h:F8 T n k=some (t,m)) (hk:k≠5):m=n+1:=by
 unfold F8 at h;rw [if_neg hk] at h;split at h
 ·injection h with h;injection h with _ h;exact h.symm
 ·cases h
theorem a8v {n:Nat} (h:a0L T n=some (t,m)):m=n+1:=by
 unfold a0L at h;cases hq:F8 T n 3 with
 | none=>rw [hq] at h;cases h
 | some x =>
  rw [hq,n_6] at h;split at h
  ·injection h with h;subst h;exact a5z hq de_
  ·cases h
theorem b1j {n:Nat} (h:J1 T n=some (t,m)):m=n+1:=by
 unfold J1 at h;cases hq:F8 T n 1 with
 | none=>rw [hq] at h;cases h
 | some x =>
  rw [hq,n_6] at h;split at h
  ·cases h
  ·injection h with h;subst h;exact a5z hq de_
theorem b89 (hc:a0b T ps) (hE:EC T ps f) (t:Tok) (d n:Nat) (b:List Ex) (R:Option PX) (hsp:R=W6 T (z8 T ps f) t.t d n b) (hn:n < T.length) (hb:b.length<=256) (hd0:d<=32) (hf:8*(T.length - n)+6<=f):b8 CC 317 [.ptr 0 0,.agg t.cells,iv d] (pst T n ps b) (a3L (fun a:PX=>(iv a.1)) (fun a=>a7n T a.2.1 ps a.2.2) (fun a:PX=>R=some a/\n < a.2.1/\a.2.1 < T.length/\a.2.2.length<=256) (R=none)):=by
 have hT:=hc.len;have hW:=hc.w;unfold W6 at hsp;refine cO Tryz.func317 ?_;refine b0X ?_;refine cD (o6 rfl a6q o7 (P2 hT hn hW [40] ⟨rfl,rfl,n_2 rfl⟩) rfl (fun x hx=>.inr ⟨x,l9,by rw [hsp,hx.1];rfl,hx.2⟩) ?_);rintro n1 ⟨sn1,kn1⟩;dsimp only at sn1 kn1 ⊢;rw [sn1,n_6] at hsp;have en1:=O4 sn1;refine S5 ?_;refine cD (x8 rfl b5Q rfl p8 ?_);refine b4J ?_;refine a4B ?_;refine a0F ?_;refine cC ?_ ?_ <;> intro h1
 ·have u1:t.t=[114,101,97,100]:=sp_ h1;rw [if_pos u1] at hsp;refine z_2 ?_;refine cD (o6 rfl c2b ⟨tt,tt⟩ (b0E hT kn1 hW hc.l ⟨rfl,rfl,n_2 rfl⟩) rfl (fun x hx=>.inr ⟨x,l9,by rw [hsp,hx.1];rfl,hx.2⟩) ?_);rintro ⟨p,n2⟩ ⟨s2,k2⟩;dsimp only at s2 k2 ⊢;rw [s2,n_6] at hsp;dsimp only at hsp;have e2:=a8v s2;refine cY c2Q ?_;refine b6T ?_;refine L7 ?_;refine cD (o6 rfl a6q o7 (P2 hT k2 hW [44] ⟨rfl,rfl,n_2 rfl⟩) rfl (fun x hx=>.inr ⟨x,l9,by rw [hsp,hx.1];rfl,hx.2⟩) ?_);rintro n3 ⟨sn3,kn3⟩;dsimp only at sn3 kn3 ⊢;rw [sn3,n_6] at hsp;have en3:=O4 sn3;refine c8 ?_;refine X0 ?_;refine cY a0v ?_;refine cD (o6 rfl c1c i7 (hE (d+1) n3 b kn3 hb om_ om_ _ 0 1 ⟨rfl,rfl,n_2 rfl⟩) rfl (fun x hx=>.inr ⟨x,l9,by rw [hsp,hx.1];rfl,hx.2⟩) ?_);rintro ⟨i4,n4,b4⟩ ⟨x4,y4,z4,w4⟩;dsimp only at x4 y4 z4 w4 ⊢;rw [x4,n_6] at hsp;dsimp only at hsp;refine cY (A2 ([(i4:Int)].map icv) rfl ⟨tt,tt⟩ t_4 t_2 t_6 rfl rfl rfl rfl rfl rfl rfl rfl rfl) ?_;refine cY d0x ?_;refine cD (j6 rfl tt tt rfl c4 b6R (.inl rfl) rfl rfl (nb rfl) ?_);refine L7 ?_;refine cD (o6 rfl a6q o7 (P2 hT z4 hW [41] ⟨rfl,rfl,n_2 rfl⟩) rfl (fun x hx=>.inr ⟨x,l9,by rw [hsp,hx.1];rfl,hx.2⟩) ?_);rintro n5 ⟨sn5,kn5⟩;dsimp only at sn5 kn5 ⊢;rw [sn5,n_6] at hsp;have en5:=O4 sn5;refine L7 ?_;refine b6y ?_;refine cD (o6 rfl b16 C0 (a0k hT kn5 w4 t ⟨6,0,0,p.t,[(i4:Int)]⟩ ⟨rfl,rfl,n_2 rfl⟩) rfl (fun x hx=>.inr ⟨x,l9,by rw [hsp,K4,hx.1];rfl,hx.2⟩) ?_);rintro ⟨i6,b6⟩ ⟨x6,y6⟩;dsimp only at x6 y6 ⊢;rw [K4,x6,n_6] at hsp;exact b8b
 ·have u1:¬ t.t=[114,101,97,100]:=sp_ h1;rw [if_neg u1] at hsp;refine a0F ?_;refine cC ?_ ?_ <;> intro h2
  ·have u2:t.t=[115,105,122,101]:=sp_ h2;rw [if_pos u2] at hsp;refine z_4 ?_;refine cD (o6 rfl c2b ⟨tt,tt⟩ (b0E hT kn1 hW hc.l ⟨rfl,rfl,n_2 rfl⟩) rfl (fun x hx=>.inr ⟨x,l9,by rw [hsp,hx.1];rfl,hx.2⟩) ?_);rintro ⟨p,n2⟩ ⟨s2,k2⟩;dsimp only at s2 k2 ⊢;rw [s2,n_6] at hsp;dsimp only at hsp;have e2:=a8v s2;refine cY c2Q ?_;refine b6T ?_;refine L7 ?_;refine cD (o6 rfl a6q o7 (P2 hT k2 hW [41] ⟨rfl,rfl,n_2 rfl⟩) rfl (fun x hx=>.inr ⟨x,l9,by rw [hsp,hx.1];rfl,hx.2⟩) ?_);rintro n5 ⟨sn5,kn5⟩;dsimp only at sn5 kn5 ⊢;rw [sn5,n_6] at hsp;have en5:=O4 sn5;refine L7 ?_;refine b6y ?_;refine cD (o6 rfl b16 C0 (a0k hT kn5 hb t ⟨7,0,0,p.t,[]⟩ ⟨rfl,rfl,n_2 rfl⟩) rfl (fun x hx=>.inr ⟨x,l9,by rw [hsp,K4,hx.1];rfl,hx.2⟩) ?_);rintro ⟨i6,b6⟩ ⟨x6,y6⟩;dsimp only at x6 y6 ⊢;rw [K4,x6,n_6] at hsp;exact b8b
  ·have u2:¬ t.t=[115,105,122,101]:=sp_ h2;rw [if_neg u2] at hsp;refine a0F ?_;refine cC ?_ ?_ <;> intro h3
   ·have u3:t.t=[104,97,115]:=sp_ h3;rw [if_pos u3] at hsp;refine z_4 ?_;refine cD (o6 rfl c2b ⟨tt,tt⟩ (b0E hT kn1 hW hc.l ⟨rfl,rfl,n_2 rfl⟩) rfl (fun x hx=>.inr ⟨x,l9,by rw [hsp,hx.1];rfl,hx.2⟩) ?_);rintro ⟨p,n2⟩ ⟨s2,k2⟩;dsimp only at s2 k2 ⊢;rw [s2,n_6] at hsp;dsimp only at hsp;have e2:=a8v s2;refine cY c2Q ?_;refine b6T ?_;refine L7 ?_;refine cD (o6 rfl a6q o7 (P2 hT k2 hW [41] ⟨rfl,rfl,n_2 rfl⟩) rfl (fun x hx=>.inr ⟨x,l9,by rw [hsp,hx.1];rfl,hx.2⟩) ?_);rintro n5 ⟨sn5,kn5⟩;dsimp only at sn5 kn5 ⊢;rw [sn5,n_6] at hsp;have en5:=O4 sn5;refine L7 ?_;refine b6y ?_;refine cD (o6 rfl b16 C0 (a0k hT kn5 hb t ⟨8,0,0,p.t,[]⟩ ⟨rfl,rfl,n_2 rfl⟩) rfl (fun x hx=>.inr ⟨x,l9,by rw [hsp,K4,hx.1];rfl,hx.2⟩) ?_);rintro ⟨i6,b6⟩ ⟨x6,y6⟩;dsimp only at x6 y6 ⊢;rw [K4,x6,n_6] at hsp;exact b8b
   ·have u3:¬ t.t=[104,97,115]:=sp_ h3;rw [if_neg u3] at hsp;refine a0F ?_;refine cC ?_ ?_ <;> intro h4
    ·have u4:t.t=[101,110,118]:=sp_ h4;rw [if_pos u4] at hsp;refine z_2 ?_;refine cD (o6 rfl c9e o7 (a78 hT kn1 hW 3 ⟨rfl,rfl,n_2 rfl⟩) rfl (fun x hx=>.inr ⟨x,l9,by rw [hsp,hx.1];rfl,hx.2⟩) ?_);rintro ⟨p,n2⟩ ⟨s2,k2⟩;dsimp only at s2 k2 ⊢;rw [s2,n_6] at hsp;dsimp only at hsp;have e2:=a5z s2 de_;have hp:=a5w s2;refine a62 ?_;refine b4J ?_;refine yc rfl c5P ⟨tt,tt⟩ (a1L p.t _) ?_;refine S4 ?_;refine cC ?_ ?_ <;> intro h5
     ·have hq:C8 p.t=false:=sp_ h5;rw [if_neg (by rw [hq];decide)] at hsp;exact a5k
     ·have hq:C8 p.t=true:=sp_ h5;rw [if_pos hq] at hsp;refine c9 (r3 ?_);refine a6Z ?_;refine b6T ?_;refine L7 ?_;refine cD (o6 rfl a6q o7 (P2 hT k2 hW [41] ⟨rfl,rfl,n_2 rfl⟩) rfl (fun x hx=>.inr ⟨x,l9,by rw [hsp,hx.1];rfl,hx.2⟩) ?_);rintro n5 ⟨sn5,kn5⟩;dsimp only at sn5 kn5 ⊢;rw [sn5,n_6] at hsp;have en5:=O4 sn5;refine L7 ?_;refine b6y ?_;refine cD (o6 rfl b16 C0 (a0k hT kn5 hb t ⟨9,0,0,p.t,[]⟩ ⟨rfl,rfl,n_2 rfl⟩) rfl (fun x hx=>.inr ⟨x,l9,by rw [hsp,K4,hx.1];rfl,hx.2⟩) ?_);rintro ⟨i6,b6⟩ ⟨x6,y6⟩;dsimp only at x6 y6 ⊢;rw [K4,x6,n_6] at hsp;exact b8b
    ·have u4:¬ t.t=[101,110,118]:=sp_ h4;rw [if_neg u4] at hsp;refine z_2 ?_;refine cD (o6 rfl c9e o7 (a78 hT kn1 hW 2 ⟨rfl,rfl,n_2 rfl⟩) rfl (fun x hx=>.inr ⟨x,l9,by rw [hsp,hx.1];rfl,hx.2⟩) ?_);rintro ⟨p,n2⟩ ⟨s2,k2⟩;dsimp only at s2 k2 ⊢;rw [s2,n_6] at hsp;dsimp only at hsp;have e2:=a5z s2 de_;have hp:=a5w s2;refine a62 ?_;refine T5 ?_;refine a2z ?_;refine O1 ?_;refine cC ?_ ?_ <;> intro h6
     ·have hq:64<=p.n:=sp_ h6;rw [if_pos hq] at hsp;exact a5k
     ·have hq:¬ 64<=p.n:=sp_ h6;rw [if_neg hq] at hsp;refine c9 (r3 ?_);refine a2z ?_;refine b6T ?_;refine L7 ?_;refine cD (o6 rfl a6q o7 (P2 hT k2 hW [41] ⟨rfl,rfl,n_2 rfl⟩) rfl (fun x hx=>.inr ⟨x,l9,by rw [hsp,hx.1];rfl,hx.2⟩) ?_);rintro n5 ⟨sn5,kn5⟩;dsimp only at sn5 kn5 ⊢;rw [sn5,n_6] at hsp;have en5:=O4 sn5;refine L7 ?_;refine b6y ?_;refine cD (o6 rfl b16 C0 (a0k hT kn5 hb t ⟨10,p.n,0,[],[]⟩ ⟨rfl,rfl,n_2 rfl⟩) rfl (fun x hx=>.inr ⟨x,l9,by rw [hsp,K4,hx.1];rfl,hx.2⟩) ?_);rintro ⟨i6,b6⟩ ⟨x6,y6⟩;dsimp only at x6 y6 ⊢;rw [K4,x6,n_6] at hsp;exact b8b
def UC (T:List Tok) (ps:List Str) (f:Nat):Prop:=∀ (t:Tok) (d n:Nat) (b:List Ex),n < T.length->b.length<=256->d<=32->8*(T.length - n)+6<=f->∀ (σ:List b9) (q s:Nat),PAt σ q s T n ps b->b8 CC 317 [.ptr q 0,.agg t.cells,iv d] σ (a4C (fun a:PX=>(iv a.1)) (fun a:PX=>(σ.set q (pbx T a.2.1 ps a.2.2 σ.length)).set s .dead++[u0 a.2.2.length]) (fun a:PX=>(W6 T (z8 T ps f) t.t d n b)=some a/\n < a.2.1/\a.2.1 < T.length/\a.2.2.length<=256) σ q s ((W6 T (z8 T ps f) t.t d n b)=none))
theorem c09 (hc:a0b T ps) (hE:EC T ps f):UC T ps f:=fun t d n b hn hb hd hf σ q s hσ =>
 a3g (c:=fun a:PX=>(iv a.1)) (N:=fun a=>a.2.1) (B:=fun a=>a.2.2) (fun _ h=>by simp at h;rcases h with rfl | rfl;exact a0r _;exact .val _) (fun _=>.val _) (b89 hc hE t d n b _ rfl hn hb hd hf) hσ
def ka (ph:Bool):Nat:=if ph=true then 2 else 1
def oa1 (ph:Bool) (m:Nat):b9:=if ph=true then .dead else u0 m
def oa2 (ph:Bool) (m:Nat):b9:=if ph=true then u0 m else .dead
theorem b5K {n k:Nat} {b:List Ex} (h0:τ[0]? = some (pbx T n ps b k)) (hk:τ[k]? = some (u0 b.length)) (h2:2<=k) (hc:∀ sel,D2 2 sel c c'):F1 2 τ (.ret c) (.ret c') (a7n T n ps b):=by
 obtain ⟨sel,a1,a2,_,a4⟩:=Y8 h0 hk h2 (Old.val (.int .i64 0));exact ⟨sel,a1,a2,.ret (hc sel),a4⟩
theorem d7A {n k:Nat} {b:List Ex} {l:List Int} {x:Int} (h0:τ[0]? = some (pbx T n ps b k)) (hk:τ[k]? = some (u0 b.length)) (h2:2<=k) (hc:∀ sel,D2 2 sel c c'):F1 2 τ (.ret c) (.ret c') (if (!(l++[x]).isEmpty)=true then a7n T n ps b else pst T n ps b):=by
 rw [if_pos si_];exact b5K h0 hk h2 hc
def AC (T:List Tok) (ps:List Str) (f:Nat):Prop:=∀ (d n:Nat) (b:List Ex),n < T.length->b.length<=256->d<=32->8*(T.length - n)+6<=f->∀ (σ:List b9) (q s:Nat),PAt σ q s T n ps b->b8 CC 318 [.ptr q 0,iv d] σ (a4C (fun a:List Int × Nat × List Ex=>(.list (a.1.map icv) (gnn a.1.length) none))
 (fun a=>if (!a.1.isEmpty)=true then (σ.set q (pbx T a.2.1 ps a.2.2 σ.length)).set s .dead++[u0 a.2.2.length] else (σ.set q (pbx T a.2.1 ps a.2.2 s)).set s (u0 a.2.2.length)) (fun a:List Int × Nat × List Ex=>a2B T (z8 T ps f) d n b=some a/\n < a.2.1/\a.2.1 < T.length/\a.2.2.length<=256/\a.1.length<=1000000) σ q s (a2B T (z8 T ps f) d n b=none))
theorem b2Z (hc:a0b T ps) (hE:∀ g,g<=f->EC T ps g) (d n:Nat) (b:List Ex) (hn:n < T.length) (hb:b.length<=256) (hd0:d<=32) (hf:8*(T.length - n)+6<=f):b8 CC 318 [.ptr 0 0,iv d] (pst T n ps b) (a3L (fun a:List Int × Nat × List Ex=>(.list (a.1.map icv) (gnn a.1.length) none)) (fun a=>if (!a.1.isEmpty)=true then a7n T a.2.1 ps a.2.2 else pst T a.2.1 ps a.2.2) (fun a:List Int × Nat × List Ex=>a2B T (z8 T ps f) d n b=some a/\n < a.2.1/\a.2.1 < T.length/\a.2.2.length<=256/\a.1.length<=1000000) (a2B T (z8 T ps f) d n b=none)):=by
 have hT:=hc.len;have hW:=hc.w;have hsp:a2B T (z8 T ps f) d n b=a2B T (z8 T ps f) d n b:=rfl
 conv at hsp=>rhs;unfold a2B
 refine cO Tryz.func318 ?_;refine z_6 ?_;refine U5 ?_;refine cD (o6 rfl a6q o7 (P2 hT hn hW [40] ⟨rfl,rfl,n_2 rfl⟩) rfl (fun x hx=>.inr ⟨x,l9,by rw [hsp,hx.1];rfl,hx.2⟩) ?_);rintro n1 ⟨hs1,hn1⟩;dsimp only at hs1 hn1 ⊢;rw [hs1,n_6] at hsp;have e1:=O4 hs1;refine a9l ?_;refine de rfl c5w o7 (a1O hT hn1 hW [41] ⟨rfl,rfl,n_2 rfl⟩) rfl ?_;rintro ⟨ac,n2⟩ ⟨ha,hn2,hn2l⟩;dsimp only at ha hn2 hn2l ⊢;refine c8 ?_;refine cC ?_ ?_ <;> intro h1
 ·have hc1:isT (tk T n1) 4 [41]=true:=by rw [<- ha];simpa using h1
  rw [if_pos hc1] at hn2 hsp;refine I0 ?_;exact ⟨_,j2 rfl tt c4,(by exact .inl ⟨([],n2,b),a0N rfl (Q0 _ [] false),by rw [hsp,hn2],do_,hn2l,hb,by show 0<=1000000;decide⟩)⟩
 ·have hc1:¬ isT (tk T n1) 4 [41]=true:=by rw [<- ha];simpa using h1
  rw [if_neg hc1] at hn2 hsp;subst hn2;refine a4O ?_;refine B2 hCC 2 rfl (α:=List Int × Nat × List Ex × Bool × Nat) (fun x=>[(0,.ptr 0 0),(1,iv d),(5,(.list (x.1.map icv) (gnn x.1.length) (G9 x.1.length 3)))]) (fun x=>[pbx T x.2.1 ps x.2.2.1 (ka x.2.2.2.1),oa1 x.2.2.2.1 x.2.2.1.length,oa2 x.2.2.2.1 x.2.2.1.length,u0 x.1.length]) (fun x=>a2B T (z8 T ps f) d n b=(z8 T ps x.2.2.2.2).ag d x.2.1 x.2.2.1 x.1/\x.1.length<=x.2.1/\n < x.2.1/\x.2.1 < T.length/\x.2.2.1.length<=256/\x.2.2.2.2<=f/\8*(T.length - x.2.1)+7<=x.2.2.2.2) (fun x=>T.length - x.2.1) ⟨([],n2,b,false,f),[0,1,7,8],⟨hsp,n_3 _,do_,hn2l,hb,n_4 _,do_⟩,⟨rfl,rfl⟩,ut_,uq_⟩ ?_;intro ⟨l,m,b2,ph,g⟩ ⟨hlp,hlm,hnm,hm,hb2,hgf,hg⟩;dsimp only at hlp hlm hnm hm hb2 hgf hg ⊢;obtain ⟨g,rfl⟩:∃ g',g=g'+1:=⟨g - 1,om_⟩;have hlp2:(z8 T ps (g+1)).ag d m b2 l=(G0 T ps (z8 T ps g)).ag d m b2 l:=rfl;simp only [G0] at hlp2;rw [hlp2] at hlp;refine F5 ?_;refine a0M ?_;refine cY a0v ?_;refine cD (o6 rfl c1c i7 (hE g om_ (d+1) m b2 hm hb2 om_ om_ _ 0 (ka ph) b6n) rfl (fun x hx=>.inr ⟨x,l9,by rw [hlp,hx.1];rfl,hx.2⟩) ?_);rintro ⟨i3,n3,b3⟩ ⟨x3,y3,z3,w3⟩;dsimp only at x3 y3 z3 w3 ⊢;rw [x3,n_6] at hlp;dsimp only at hlp;refine c5 [pbx T n3 ps b3 4,.dead,.dead,u0 l.length,u0 b3.length] N8 ?_;have hls:=U4 l (i3:Int);refine cY (A2 [icv (i3:Int)] rfl ⟨tt,tt⟩ t_4 t_2 t_6 rfl rfl rfl rfl rfl rfl rfl rfl rfl) ?_;refine cD (C5 rfl tt tt rfl si_ q_2 t_4 t_2 b95 t_6 rfl (.inr rfl) q_8 c7F E7 ((l++[(i3:Int)]).map icv) (l++[(i3:Int)]).length si_ si_ ?_);refine O0 ?_;refine de rfl c5w o7 (a1O hT z3 hW [44] ⟨rfl,rfl,n_2 rfl⟩) rfl ?_;rintro ⟨ac2,m2⟩ ⟨ha2,hm2,hm2l⟩;dsimp only at ha2 hm2 hm2l ⊢;refine S4 ?_;refine cC ?_ ?_ <;> intro h2
  ·have hc2:¬ isT (tk T n3) 4 [44]=true:=by rw [<- ha2];simpa using h2
   rw [if_neg hc2] at hm2 hlp;subst hm2;refine b0t ?_;refine cD (o6 rfl a6q o7 (P2 hT hm2l hW [41] ⟨rfl,rfl,n_2 rfl⟩) rfl (fun x hx=>.inr ⟨x,l9,by rw [hlp,hx.1];rfl,hx.2⟩) ?_);rintro m3 ⟨hs3,hm3⟩;dsimp only at hs3 hm3 ⊢;have e3:=O4 hs3;rw [hs3,n_6] at hlp;refine L7 ?_;refine z_7 ?_;exact ⟨_,j2 rfl tt c4,(by exact .inl ⟨(l++[(i3:Int)],m3,b3),d7A (k:=4) rfl rfl de_ (fun _=>Y4 (f:=icv) (fun _=>⟨.val _,tt⟩) _),hlp,do_,hm3,w3,do_⟩)⟩
  ·have hc2:isT (tk T n3) 4 [44]=true:=by rw [<- ha2];simpa using h2
   rw [if_pos hc2] at hm2 hlp;subst hm2;refine c9 ?_;exact ⟨(l++[(i3:Int)],n3+1,b3,true,g),[0,1,4,5],⟨do_,hlp,do_,do_,hm2l,w3,do_,do_⟩,⟨rfl,rfl⟩,ut_,⟨.inr ⟨_,rfl,.box ⟨.old a2A,.old (.val _),.old a0G,a8k rfl,tt⟩⟩,.inl rfl,.inr ⟨_,rfl,.same rfl C3⟩,.inr ⟨_,rfl,.same rfl C3⟩,tt⟩⟩
theorem b5X (hc:a0b T ps) (hE:∀ g,g<=f->EC T ps g):AC T ps f:=fun d n b hn hb hd hf σ q s hσ =>
 a5R (c:=fun a:List Int × Nat × List Ex=>(.list (a.1.map icv) (gnn a.1.length) none)) (N:=fun a=>a.2.1) (B:=fun a=>a.2.2) (Z:=fun _=>ps) (g:=fun a=>!a.1.isEmpty) (fun _ h=>by simp at h;subst h;exact .val _) (fun _=>N3 _ _) (b2Z hc hE d n b hn hb hd hf) hσ
theorem a1E {C:Ctx} {ops:Array Oper} {al qs:List Nat} {Q:G6->Env->List b9->Prop} {S:List (List b9->Prop)} {l:List (Nat × List Nat)} {fl:List Nat} {E:Env} (τ:List b9) (h:σ=τ) (k:a0S S τ fl/\P6 C ops al qs Q S l E τ):a0S S σ fl/\P6 C ops al qs Q S l E σ:=h ▸ k
def kc (ph:Bool):Nat:=if ph=true then 3 else 1
def oc1 (ph:Bool) (m:Nat):b9:=if ph=true then .dead else u0 m
def oc2 (ph:Bool) (m:Nat):List b9:=if ph=true then [u0 m] else []
theorem c0M (hc:a0b T ps) (hE:EC T ps f) (hA:AC T ps f) (hU:UC T ps f) (d n:Nat) (b:List Ex) (hn:n < T.length) (hb:b.length<=256) (hd0:d<=32) (hf:8*(T.length - n)+1<=f+1):b8 CC 301 [.ptr 0 0,iv d] (pst T n ps b) (a3L (fun a:PX=>(iv a.1)) (fun a=>a7n T a.2.1 ps a.2.2) (fun a:PX=>(z8 T ps (f+1)).fac d n b=some a/\n < a.2.1/\a.2.1 < T.length/\a.2.2.length<=256) ((z8 T ps (f+1)).fac d n b=none)):=by
 have hT:=hc.len;have hW:=hc.w;have hsp:(z8 T ps (f+1)).fac d n b=(G0 T ps (z8 T ps f)).fac d n b:=rfl;simp only [G0] at hsp;refine cO Tryz.func301 ?_;refine U5 ?_;refine c5V ?_;refine z_9 ?_;refine F5 ?_;refine z_0 ?_;refine a2z ?_;refine a73 ?_;refine cC ?_ ?_ <;> intro h1
 ·have u1:(tk T n).k=2:=sp_ h1;rw [if_pos u1] at hsp;have hn1:=hW n hn (by rw [u1];decide);refine a4P ?_;refine a9K ?_;refine z_2 ?_;refine cY a4i ?_;refine a2z ?_;refine cY c06 ?_;refine cD (o6 rfl b16 C0 (a0k hT hn1 hb (tk T n) ⟨1,(tk T n).n,0,[],[]⟩ ⟨rfl,rfl,n_2 rfl⟩) rfl (fun x hx=>.inr ⟨x,l9,by rw [hsp,K4,hx.1];rfl,hx.2⟩) ?_);rintro ⟨i6,b6⟩ ⟨x6,y6⟩;dsimp only at x6 y6 ⊢;rw [K4,x6,n_6] at hsp;exact d4L
 ·have u1:¬ (tk T n).k=2:=sp_ h1;rw [if_neg u1] at hsp;refine z_2 ?_;refine de rfl c5w o7 (a1O hT hn hW [45] ⟨rfl,rfl,n_2 rfl⟩) rfl ?_;rintro ⟨ac,n2⟩ ⟨ha,hn2,hn2l⟩;dsimp only at ha hn2 hn2l ⊢;refine z_1 ?_;refine cC ?_ ?_ <;> intro h2
  ·have u2:isT (tk T n) 4 [45]=true:=by rw [<- ha];simpa using h2
   rw [if_pos u2] at hn2 hsp;subst hn2;refine A5 ?_;refine cF [] [] [0,1,2,3,4,5,6,7,8] 3 [[0,1],[0,1],[0,1],[0,1],[],[]] trivial ?_;refine chf rfl W9 ?_;refine chf rfl (c7 rfl a4i) ?_;refine a9L ?_;refine A6 rfl rfl rfl rfl (o6 rfl c9e o7 (a78 hT hn2l hW 2 ⟨rfl,rfl,n_2 rfl⟩) rfl (fun x hx _=>.inr ⟨x,l9,by rw [hsp,hx.1];rfl,hx.2⟩) ?_);rintro ⟨p,n3⟩ ⟨s2,k2⟩;dsimp only at s2 k2 ⊢;rw [s2,n_6] at hsp;dsimp only at hsp;have e2:=a5z s2 de_;have hpn:=hc.nn (n+1);rw [<- a5w s2] at hpn;have ew : -p.n=IntKind.i64.wrap (0 - p.n):=by rw [b0g om_ om_];omega
   rw [ew] at hsp;refine ⟨⟨E8,b3M,tt⟩,?_⟩;refine D9 rfl rfl rfl (c7 rfl a4z) ⟨⟨E8,b3M,tt⟩,?_⟩;refine D9 rfl rfl rfl (c7 rfl (c9w rfl tt rfl)) ⟨⟨E8,b3M,tt⟩,?_⟩;refine D9 rfl rfl rfl (c7 rfl c06) ⟨⟨E8,b3M,tt⟩,?_⟩;refine A6 rfl rfl rfl rfl (o6 rfl b16 C0 (a0k hT k2 hb (tk T n) ⟨1,IntKind.i64.wrap (0 - p.n),0,[],[]⟩ ⟨rfl,rfl,n_2 rfl⟩) rfl (fun x hx _=>.inr ⟨x,l9,by rw [hsp,K4,hx.1];rfl,hx.2⟩) ?_);rintro ⟨i6,b6⟩ ⟨x6,y6⟩;dsimp only at x6 y6 ⊢;rw [K4,x6,n_6] at hsp;refine ⟨tt,?_⟩;refine b1R ?_;exact ⟨_,j2 rfl tt c4,(by exact .inl ⟨(i6,n3,b6),Y8 rfl rfl (nb rfl) (.val _),hsp,do_,k2,y6⟩)⟩
  ·have u2:¬ isT (tk T n) 4 [45]=true:=by rw [<- ha];simpa using h2
   rw [if_neg u2] at hn2 hsp;replace hn2:=hn2.symm;subst hn2;refine z_2 ?_;refine de rfl c5w o7 (a1O hT hn hW [40] ⟨rfl,rfl,n_2 rfl⟩) rfl ?_;rintro ⟨ac3,n3⟩ ⟨ha3,hn3,hn3l⟩;dsimp only at ha3 hn3 hn3l ⊢;refine z_1 ?_;refine cC ?_ ?_ <;> intro h3
   ·have u3:isT (tk T n) 4 [40]=true:=by rw [<- ha3];simpa using h3
    rw [if_pos u3] at hn3 hsp;subst hn3;refine a4x ?_;refine cD (o6 rfl c1c i7 (hE (d+1) (n+1) b hn3l hb om_ om_ _ 0 1 ⟨rfl,rfl,n_2 rfl⟩) rfl (fun x hx=>.inr ⟨x,l9,by rw [hsp,hx.1];rfl,hx.2⟩) ?_);rintro ⟨i4,n4,b4⟩ ⟨x4,y4,z4,w4⟩;dsimp only at x4 y4 z4 w4 ⊢;rw [x4,n_6] at hsp;dsimp only at hsp;refine c5 [pbx T n4 ps b4 3,.dead,.box (tk T n).cells,u0 b4.length] rfl ?_;refine O0 ?_;refine cD (o6 rfl a6q o7 (P2 hT z4 hW [41] ⟨rfl,rfl,n_2 rfl⟩) rfl (fun x hx=>.inr ⟨x,l9,by rw [hsp,hx.1];rfl,hx.2⟩) ?_);rintro n5 ⟨s5,k5⟩;dsimp only at s5 k5 ⊢;rw [s5,n_6] at hsp;have e5:=O4 s5;refine L7 ?_;refine z_7 ?_;exact ⟨_,j2 rfl tt c4,(by exact .inl ⟨(i4,n5,b4),Y8 rfl rfl (nb rfl) (.val _),hsp,do_,k5,w4⟩)⟩
   ·have u3:¬ isT (tk T n) 4 [40]=true:=by rw [<- ha3];simpa using h3
    rw [if_neg u3] at hn3 hsp;replace hn3:=hn3.symm;subst hn3;refine z_0 ?_;refine a2z ?_;refine a73 ?_;refine cC ?_ ?_ <;> intro h4
    ·have u4:(tk T n).k≠1:=sp_ h4;rw [if_pos u4] at hsp;exact a5k
    ·have u4:(tk T n).k=1:=sp_ h4;rw [if_neg (fun h=>h u4)] at hsp;have hn1:=hW n hn (by rw [u4];decide);refine a6Q ?_;refine d4e ?_;refine cD (j6 rfl tt tt rfl c4 t_2 (.inl rfl) rfl rfl (nb rfl) ?_);refine b4J ?_;refine a4B ?_;refine a0Y ?_;refine b9y ?_;refine cC ?_ ?_ <;> intro h5
     ·have u5:(tk T n).t=[114,101,97,100]:=sp_ h5;have uu:(tk T n).t=[114,101,97,100]\/(tk T n).t=[115,105,122,101]\/(tk T n).t=[104,97,115]\/(tk T n).t=[101,110,118]\/(tk T n).t=[102,108,105,112]:=.inl u5;rw [if_pos uu] at hsp;refine c9 ?_;refine cC ?_ ?_ <;> intro h6
      ·refine z_2 ?_;refine b3S ?_;refine cD (o6 rfl d1c C0 (hU (tk T n) d (n+1) b hn1 hb hd0 om_ _ 0 1 ⟨rfl,rfl,n_2 rfl⟩) rfl (fun x hx=>.inr ⟨x,l9,by rw [hsp];exact hx.1,hx.2⟩) ?_);rintro ⟨i,m,b2⟩ ⟨g1,g2,g3,g4⟩;dsimp only at g1 g2 g3 g4 ⊢;exact b6O
      ·exact absurd u5 (sp_ h6)
     ·have u5:¬ (tk T n).t=[114,101,97,100]:=sp_ h5;refine a0F ?_;refine cC ?_ ?_ <;> intro h7
      ·have u7:(tk T n).t=[115,105,122,101]:=sp_ h7;have uu:(tk T n).t=[114,101,97,100]\/(tk T n).t=[115,105,122,101]\/(tk T n).t=[104,97,115]\/(tk T n).t=[101,110,118]\/(tk T n).t=[102,108,105,112]:=.inr (.inl u7);rw [if_pos uu] at hsp;refine c9 ?_;refine cC ?_ ?_ <;> intro h8
       ·refine z_2 ?_;refine b3S ?_;refine cD (o6 rfl d1c C0 (hU (tk T n) d (n+1) b hn1 hb hd0 om_ _ 0 1 ⟨rfl,rfl,n_2 rfl⟩) rfl (fun x hx=>.inr ⟨x,l9,by rw [hsp];exact hx.1,hx.2⟩) ?_);rintro ⟨i,m,b2⟩ ⟨g1,g2,g3,g4⟩;dsimp only at g1 g2 g3 g4 ⊢;exact b6O
       ·exact absurd u7 (sp_ h8)
      ·have u7:¬ (tk T n).t=[115,105,122,101]:=sp_ h7;refine a0F ?_;refine cC ?_ ?_ <;> intro h9
       ·have u9:(tk T n).t=[104,97,115]:=sp_ h9;have uu:(tk T n).t=[114,101,97,100]\/(tk T n).t=[115,105,122,101]\/(tk T n).t=[104,97,115]\/(tk T n).t=[101,110,118]\/(tk T n).t=[102,108,105,112]:=.inr (.inr (.inl u9));rw [if_pos uu] at hsp;refine c9 ?_;refine cC ?_ ?_ <;> intro h10
        ·refine z_2 ?_;refine b3S ?_;refine cD (o6 rfl d1c C0 (hU (tk T n) d (n+1) b hn1 hb hd0 om_ _ 0 1 ⟨rfl,rfl,n_2 rfl⟩) rfl (fun x hx=>.inr ⟨x,l9,by rw [hsp];exact hx.1,hx.2⟩) ?_);rintro ⟨i,m,b2⟩ ⟨g1,g2,g3,g4⟩;dsimp only at g1 g2 g3 g4 ⊢;exact b6O
        ·exact absurd u9 (sp_ h10)
       ·have u9:¬ (tk T n).t=[104,97,115]:=sp_ h9;refine a0F ?_;refine cC ?_ ?_ <;> intro h11
        ·have u11:(tk T n).t=[101,110,118]:=sp_ h11;have uu:(tk T n).t=[114,101,97,100]\/(tk T n).t=[115,105,122,101]\/(tk T n).t=[104,97,115]\/(tk T n).t=[101,110,118]\/(tk T n).t=[102,108,105,112]:=.inr (.inr (.inr (.inl u11)));rw [if_pos uu] at hsp;refine c9 ?_;refine cC ?_ ?_ <;> intro h12
         ·refine z_2 ?_;refine b3S ?_;refine cD (o6 rfl d1c C0 (hU (tk T n) d (n+1) b hn1 hb hd0 om_ _ 0 1 ⟨rfl,rfl,n_2 rfl⟩) rfl (fun x hx=>.inr ⟨x,l9,by rw [hsp];exact hx.1,hx.2⟩) ?_);rintro ⟨i,m,b2⟩ ⟨g1,g2,g3,g4⟩;dsimp only at g1 g2 g3 g4 ⊢;exact b6O
         ·exact absurd u11 (sp_ h12)
        ·have u11:¬ (tk T n).t=[101,110,118]:=sp_ h11;refine r3 ?_;refine b9y ?_;refine cC ?_ ?_ <;> intro h13
         ·have u13:(tk T n).t=[102,108,105,112]:=sp_ h13;have uu:(tk T n).t=[114,101,97,100]\/(tk T n).t=[115,105,122,101]\/(tk T n).t=[104,97,115]\/(tk T n).t=[101,110,118]\/(tk T n).t=[102,108,105,112]:=.inr (.inr (.inr (.inr (u13))));rw [if_pos uu] at hsp;refine z_2 ?_;refine b3S ?_;refine cD (o6 rfl d1c C0 (hU (tk T n) d (n+1) b hn1 hb hd0 om_ _ 0 1 ⟨rfl,rfl,n_2 rfl⟩) rfl (fun x hx=>.inr ⟨x,l9,by rw [hsp];exact hx.1,hx.2⟩) ?_);rintro ⟨i,m,b2⟩ ⟨g1,g2,g3,g4⟩;dsimp only at g1 g2 g3 g4 ⊢;exact b6O
         ·have h13':¬ (tk T n).t=[102,108,105,112]:=sp_ h13;have un:¬ ((tk T n).t=[114,101,97,100]\/(tk T n).t=[115,105,122,101]\/(tk T n).t=[104,97,115]\/(tk T n).t=[101,110,118]\/(tk T n).t=[102,108,105,112]):=fun hh=>by rcases hh with h | h | h | h | h;exact u5 h;exact u7 h;exact u9 h;exact u11 h;exact h13' h
          rw [if_neg un] at hsp;refine a0E ?_;refine a6Z ?_;refine yc rfl c8r ⟨tt,tt⟩ (a2S (tk T n).t _) ?_;refine c8 ?_;refine cC ?_ ?_ <;> intro h14
          ·have u14:P5 (tk T n).t=true:=sp_ h14;rw [if_pos u14] at hsp;exact a5k
          ·have u14:¬ P5 (tk T n).t=true:=sp_ h14;rw [if_neg u14] at hsp;refine a5L ?_;refine ye rfl c7b a2J (b6C hT hn1 4 [40] ⟨rfl,rfl,n_2 rfl⟩) rfl ?_;refine c8 ?_;refine cC ?_ ?_ <;> intro h15
           ·have u15:isT (tk T (n+1)) 4 [40]=true:=sp_ h15;rw [if_pos u15] at hsp;refine A5 ?_;refine cF [] [] [0,1,2,3,4,5,6,7,8,9] 6 [[0,1,2,3],[0,1],[],[]] trivial ?_;refine chf rfl W9 ?_;refine chf rfl (c7 rfl a4i) ?_;refine chf rfl (c7 rfl c2P) ?_;refine chf rfl d0d ?_;refine a60 ?_;refine F9 ?_;refine A6 rfl rfl rfl rfl (o6 rfl Tryz.call318 i7 (hA d (n+1) b hn1 hb hd0 om_ _ 0 1 ⟨rfl,rfl,n_2 rfl⟩) rfl (fun x hx _=>.inr ⟨x,l9,by rw [hsp,hx.1];rfl,hx.2⟩) ?_);rintro ⟨l,m,b2⟩ ⟨g1,g2,g3,g4,_⟩;dsimp only at g1 g2 g3 g4 ⊢;rw [g1,n_6] at hsp;dsimp only at hsp;generalize (!l.isEmpty)=ph;refine a1E ([pbx T m ps b2 (kc ph),oc1 ph b2.length,.box (tk T n).cells]++oc2 ph b2.length) N8 ?_;refine ⟨⟨E8,b3M,(by exact c7 rfl c2P),a5V,tt⟩,?_⟩;refine D9 rfl rfl rfl (c7 rfl d7o) ⟨⟨E8,b3M,tt⟩,?_⟩;refine A6 rfl rfl rfl rfl (o6 rfl b16 C0 (a0k hT g3 g4 (tk T n) ⟨3,0,0,(tk T n).t,l⟩ (q:=0) (s:=kc ph) b6n) rfl (fun x hx _=>.inr ⟨x,l9,by rw [hsp,K4,hx.1];rfl,hx.2⟩) ?_);rintro ⟨i6,b6⟩ ⟨x6,y6⟩;dsimp only at x6 y6 ⊢;rw [K4,x6,n_6] at hsp;refine ⟨tt,?_⟩;refine b1R ?_;exact ⟨_,j2 rfl tt c4,(by exact .inl ⟨(i6,m,b6),(by cases ph;exact Y8 (k:=3) rfl rfl de_ (.val _);exact Y8 (k:=4) rfl rfl de_ (.val _)),hsp,do_,g3,y6⟩)⟩
           ·have u15:¬ isT (tk T (n+1)) 4 [40]=true:=sp_ h15;rw [if_neg u15] at hsp;refine z_8 ?_;refine cW 8 ?_;refine a5d ?_;refine hY (j4 rfl tt rfl c42 rfl a2U de_) ?_;refine hY a2D ?_;refine hY c2P ?_;refine hY V7 ?_;refine hY (j8 rfl Tryz.call205 i7 (a96 ps (gnn ps.length) (tk T n).t (by have:=hc.ps;omega) _) rfl) ?_;refine b7N ?_;refine z_9 ?_;refine a3F ?_;refine cC ?_ ?_ <;> intro h16
            ·have u16:ixS ps (tk T n).t 0 < 0:=sp_ h16;rw [if_pos u16] at hsp;exact a5k
            ·have u16:¬ ixS ps (tk T n).t 0 < 0:=sp_ h16;rw [if_neg u16] at hsp;refine a1m ?_;refine b3S ?_;refine cY c06 ?_;refine cD (o6 rfl b16 C0 (a0k hT hn1 hb (tk T n) ⟨2,ixS ps (tk T n).t 0,0,[],[]⟩ ⟨rfl,rfl,n_2 rfl⟩) rfl (fun x hx=>.inr ⟨x,l9,by rw [hsp,K4,hx.1];rfl,hx.2⟩) ?_);rintro ⟨i6,b6⟩ ⟨x6,y6⟩;dsimp only at x6 y6 ⊢;rw [K4,x6,n_6] at hsp;exact d4L
theorem c5f (hc:a0b T ps) (hE:EC T ps f) (hA:AC T ps f) (hU:UC T ps f):FC T ps (f+1):=fun d n b hn hb hd hf σ q s hσ =>
 a3g (c:=fun a:PX=>(iv a.1)) (N:=fun a=>a.2.1) (B:=fun a=>a.2.2) (fun _ h=>by simp at h;subst h;exact .val _) (fun _=>.val _) (c0M hc hE hA hU d n b hn hb hd hf) hσ
theorem d0a {T:List Tok} {ps:List Str} (hc:a0b T ps):∀ f,(∀ g,g<=f->EC T ps g)/\(∀ g,g<=f->BC T ps g)/\(∀ g,g<=f->FC T ps g)
 | 0=>by
  refine ⟨fun g hg d n b hn _ _ hf=>?_,fun g hg lv d n b hn _ _ h4 _ hf=>?_,fun g hg d n b hn _ _ hf=>?_⟩ <;> exfalso <;> omega
 | f+1=>by
  obtain ⟨hE,hB,hF⟩:=d0a hc f;have e1:=d2w hc (hE f (n_4 _)) (hB f (n_4 _));have b1:=c5v hc hB (hF f (n_4 _));have f1:=c5f hc (hE f (n_4 _)) (b5X hc hE) (c09 hc (hE f (n_4 _)));have up:∀ {P:Nat->Prop},(∀ g,g<=f->P g)->P (f+1)->∀ g,g<=f+1->P g:=fun {P} h h1 g hg=>by
   rcases a0c f g with hlt | hge
   ·rw [show g=f+1 by omega];exact h1
   ·exact h g hge
  exact ⟨up hE e1,up hB b1,up hF f1⟩
def ixP {α:Type} (p:α->Bool):List α->Nat->Int
 | [],_=>-1
 | y::l,i=>if p y=true then i else ixP p l (i+1)
theorem d0R (h:l[i]? = some y) (p:α->Bool):ixP p (l.drop i) i=if p y=true then (i:Int) else ixP p (l.drop (i+1)) (i+1):=by
 obtain ⟨hlt,he⟩:=n_1.1 h;rw [Q4 hlt,he];rfl
theorem c1n {α:Type} (p:α->Bool):∀ (l:List α) (i:Nat),decide (0<=ixP p l i)=l.any p
 | [],_=>rfl
 | y::l,i=>by
  rw [ixP,List.any_cons];cases hp:p y with
  | true=>simp
  | false=>simpa using c1n p l (i+1)
theorem b57 {g:FuncId} {caps:List CV} {p:De->Bool} (l:List De) (nn:Bool) (hl:l.length<=1000000) (hg:∀ args w,(callFunc g args).run CC.P w = .ok (.enter g args) w) (H:∀ x∈l,b8 CC g ([.agg x.cells]++caps) σ fun r σ'=>r = .ret (.val (.bool (p x)))/\σ'=σ):b8 CC 276 [(.list (l.map De.cv) nn none),.clo g caps] σ fun r σ'=>r = .ret (iv (ixP p l 0))/\σ'=σ:=by
 refine cO Tryz.func276 ?_;refine Q7 ?_;refine cY c78 ?_;refine Z0 ?_;refine K3 (α:=Nat) (fun i=>[(0,(.list (l.map De.cv) nn none)),(1,(.clo g caps)),(7,iv l.length),(8,iv i)]) (fun _=>σ) (fun i=>i<=l.length/\ixP p l 0=ixP p (l.drop i) i) (fun i=>l.length - i) 0 ⟨n_3 _,rfl⟩ tu_ rfl ?_;intro i E0 ⟨hi,hr⟩;refine C9 ?_;refine cC ?_ ?_ <;> intro h1
 ·have hlt:(i:Int) < l.length:=sp_ h1;obtain ⟨y,hb⟩:=gx_ l i;rw [d0R hb] at hr;refine X9 ?_;refine z_1 ?_;refine a0M ?_;refine cY c7S ?_;refine cY b0K ?_;refine cY (b3U rfl tt rfl hg ⟨tt,tt⟩ (H y (n_0 hb)) rfl) ?_;refine c8 ?_;refine cC ?_ ?_ <;> intro h2
  ·have hx:p y=true:=sp_ h2;rw [if_pos hx] at hr;refine a9S ?_;exact ⟨_,j2 rfl tt c4,(by exact ⟨by rw [hr],rfl⟩)⟩
  ·have hx:¬ p y=true:=sp_ h2;rw [if_neg hx] at hr;refine a2l ?_;exact ⟨(i+1),om_,⟨om_,hr⟩,tu_,rfl⟩
 ·have hge:i=l.length:=by
   have:¬ (i:Int) < l.length:=sp_ h1;omega
  refine a1w ?_;exact ⟨_,j2 rfl tt c4,(by exact ⟨by rw [hr,hge,b7S];rfl,rfl⟩)⟩
theorem b0r {g:FuncId} {caps:List CV} {p:De->Bool} (l:List De) (nn:Bool) (hl:l.length<=1000000) (hg:∀ args w,(callFunc g args).run CC.P w = .ok (.enter g args) w) (H:∀ x∈l,b8 CC g ([.agg x.cells]++caps) σ fun r σ'=>r = .ret (.val (.bool (p x)))/\σ'=σ):b8 CC 238 [(.list (l.map De.cv) nn none),.clo g caps] σ fun r σ'=>r = .ret (.val (.bool (l.any p)))/\σ'=σ:=by
 refine cO Tryz.func238 ?_;refine a11 ?_;refine yc rfl Tryz.call276 i7 (b57 l nn hl hg H) ?_;refine cY S7 ?_;refine z_7 ?_;exact ⟨_,j2 rfl tt c4,(by exact ⟨by rw [<- c1n p l 0],rfl⟩)⟩
theorem a1G {σ:List α} {x:α} (h:σ[q]? = some x) (l:List α):(σ++l)[q]? = some x:=by
 rw [M5 (n_1.1 h).1];exact h
theorem c15 (σ:List α) (x:α):(σ++[x])[σ.length]? = some x:=by simp
theorem d0w (x:De) (t:Tok) (kd:Int) (hq:σ[q]? = some (.box [iv kd])) (hs:σ[s]? = some (.box t.cells)):b8 CC 239 ([.agg x.cells]++[.ptr q 0,.ptr s 0]) σ fun r σ'=>r = .ret (.val (.bool ((x.k == kd) && decide (x.name=t.t))))/\σ'=σ:=by
 refine D5 (cO Tryz.func239 ?_);refine a3J ?_;refine z_0 ?_;refine cY c1C ?_;refine cY d9o ?_;refine cY d9o ?_;refine cY a5P ?_;refine cY j1 ?_;refine cG b7W ?_;refine cG d8A ?_;refine cG b6k ?_;refine cG d8A ?_;refine cG b4t ?_;exact d4r
def dkL:List (Str × Int):=X6 (X6 (X6 [] [102,117,110,99] 1) [116,101,115,116] 2) [103,101,110] 3
def F7 (s:Str):Int:=(glk dkL s).getD 0
def c7j (T:List Tok) (ps:List Str) (d n:Nat):Option PX:=(z8 T ps (8*T.length+6)).ex d n []
def a23 (T:List Tok) (kd:Int) (n:Nat):Option (Tok × Nat):=if kd=3 then a0L T n else J1 T n
def a3c (T:List Tok) (kd:Int) (n:Nat):Option (List Str × Nat):=if kd=1 then K6 T n else some ([],n)
def a0I (T:List Tok) (bs:List De) (n:Nat):Option (De × Nat) :=
 if (tk T n).k≠1\/F7 (tk T n).t=0 then none else if bs.length=64 then none else
 (a23 T (F7 (tk T n).t) (n+1)).bind fun x=>if (bs.any fun d=>(d.k == F7 (tk T n).t) && decide (d.name=x.1.t))=true then none else
 (a3c T (F7 (tk T n).t) x.2).bind fun q=>(pIs T q.2 4 [61]).bind fun m=>(c7j T q.1 1 m).bind fun y=>(pIs T y.2.1 4 [59]).bind fun m2=>some (⟨F7 (tk T n).t,x.1.t,q.1,y.2.2⟩,m2)
theorem b3z {f:FuncId} {c:α->CV} {Z:α->List Str} {n:Nat} {b:List Ex} (hargs:∀ a∈args,r9 a) (hc:∀ a,r9 (c a))
 (h:b8 CC f (.ptr 0 0::args) (pst T n ps b) (a3L c (fun a=>a7n T (N a) (Z a) (B a)) P bad)) {σ:List b9} {q s:Nat} (hσ:PAt σ q s T n ps b) :
 b8 CC f (.ptr q 0::args) σ (a4C c (fun a=>(σ.set q (pbx T (N a) (Z a) (B a) σ.length)).set s .dead++[u0 (B a).length]) P σ q s bad):=by
 refine (a5R (c:=c) (N:=N) (B:=B) (Z:=Z) (g:=fun _=>true) (P:=P) (bad:=bad) hargs hc (h.mono fun r τ hh=>?_) hσ).mono fun r τ hh=>?_
 ·rcases hh with ⟨a,h1,h2⟩ | h
  ·exact .inl ⟨a,h1,h2⟩
  ·exact .inr h
 ·rcases hh with ⟨a,h1,h2,h3⟩ | h
  ·exact .inl ⟨a,h1,h2,h3⟩
  ·exact .inr h
theorem b9t {kd:Int} {n:Nat} (h:a23 T kd n=some (t,m)):m=n+1:=by
 unfold a23 at h;split at h
 ·exact a8v h
 ·exact b1j h
theorem b60 {T:List Tok}:∀ (f n:Nat) (l l':List Str) (m:Nat),a2F f T n l=some (l',m)->n < m
 | 0,n,l,l',m,h=>by cases h
 | f+1,n,l,l',m,h=>by
  rw [a2F] at h;cases hn:J1 T n with
  | none=>rw [hn] at h;cases h
  | some x =>
   rw [hn,n_6] at h;have e:=b1j (t:=x.1) hn;split at h
   ·cases h
   ·split at h
    ·cases h
    ·split at h
     ·have:=b60 f _ _ _ _ h;omega
     ·cases hi:pIs T x.2 4 [41] with
      | none=>rw [hi] at h;cases h
      | some y =>
       rw [hi,n_6] at h;injection h with h
       injection h with _ h
       have:=O4 hi;omega
theorem c0L {n:Nat} {l:List Str} (h:K6 T n=some (l,m)):n < m:=by
 unfold K6 at h;cases hi:pIs T n 4 [40] with
 | none=>rw [hi] at h;cases h
 | some y =>
  rw [hi,n_6] at h;have:=O4 hi;split at h
  ·injection h with h
   injection h with _ h
   omega
  ·have:=b60 _ _ _ _ _ h;omega
theorem b6t {kd:Int} {n:Nat} {l:List Str} (h:a3c T kd n=some (l,m)):n<=m:=by
 unfold a3c at h;split at h
 ·exact Nat.le_of_lt (c0L h)
 ·injection h with h
  injection h with _ h
  omega
theorem c0E (k:Int) (nm:Str) (ps:List Str) (b:List Ex) (tok:Option Nat):D2 L sel (.agg [iv k,sv nm,.list (ps.map scv) (gnn ps.length) none,.list (b.map Ex.cv) (gnn b.length) tok]) (.agg (⟨k,nm,ps,b⟩:De).cells) :=
 .agg rfl fun i c c' h h'=>by
  rcases i with _ | _ | _ | _ | i
  ·injection h with h;injection h' with h';subst h h';exact .old (.val _)
  ·injection h with h;injection h' with h';subst h h';exact .old (.val _)
  ·injection h with h;injection h' with h';subst h h';exact .old a0G
  ·injection h with h;injection h' with h';subst h h';exact Y4 (f:=Ex.cv) Ex.pure _
  ·cases h
theorem a34 (n:Nat):b5g n (⟨0,[],[],[]⟩:De).cells:=⟨.val _,.val _,B3 _ _ _,N6 _ _ _,tt⟩
theorem c76 (hc:a0b T ps) (bs:List De) (hbs:bs.length<=64) (n:Nat) (b:List Ex) (hn:n < T.length) (_:b.length<=256):b8 CC 197 [.ptr 0 0,(.list (bs.map De.cv) (gnn bs.length) none)] (pst T n ps b) (a3L (fun a:De × Nat=>(.agg a.1.cells)) (fun a=>a7n T a.2 a.1.params a.1.body) (fun a:De × Nat=>a0I T bs n=some a/\n < a.2/\a.2 < T.length/\a.1.params.length<=8/\a.1.body.length<=256) (a0I T bs n=none)):=by
 have hT:=hc.len;have hW:=hc.w;have hsp:a0I T bs n=a0I T bs n:=rfl
 conv at hsp=>rhs;unfold a0I
 refine cO Tryz.func197 ?_;refine b5b ?_;refine K9 [pbx T n ps b 1,u0 b.length,.dead] rfl ?_;refine z_0 ?_;refine cD (x8 rfl b02 rfl p8 ?_);refine S5 ?_;refine cD (Z5 rfl ?_);refine cD (l8 (vc:=kv) (l:=[]) (a:=[102,117,110,99]) (b:=1) b7z (.inr rfl) tt rfl rfl rfl rfl rfl c2j rfl ?_);refine cD (l8 (vc:=kv) (l:=X6 [] [102,117,110,99] 1) (a:=[116,101,115,116]) (b:=2) b7z (.inr rfl) tt rfl rfl rfl rfl rfl c2j rfl ?_);refine cD (l8 (vc:=kv) (l:=X6 (X6 [] [102,117,110,99] 1) [116,101,115,116] 2) (a:=[103,101,110]) (b:=3) b7z (.inr rfl) tt rfl rfl rfl rfl rfl c2j rfl ?_);refine cY j1 ?_;refine O0 ?_;refine c5V ?_;refine L7 ?_;refine a6Z ?_;refine cY (R2 (vc:=kv) (l:=dkL) (a:=(tk T n).t) b7z rfl tt tt rfl rfl c2j t_6 rfl rfl (b6c _ _)) ?_;refine cD (x8 rfl t_6 rfl (.inl rfl) ?_);refine cD (j6 rfl tt tt rfl c4 t_2 (.inl rfl) rfl rfl (nb rfl) ?_);refine T5 ?_;refine a2z ?_;refine a6s ?_;refine cG (fun hg=>o5 rfl tt rfl a2Y rfl rfl) ?_;refine a7w ?_;refine cC ?_ ?_ <;> intro h1
 ·have u1:(tk T n).k≠1\/(F7 (tk T n).t)=0:=by simpa [F7] using h1
  rw [if_pos u1] at hsp;exact a5k
 ·have u1:¬ ((tk T n).k≠1\/(F7 (tk T n).t)=0):=by simpa [F7] using h1
  rw [if_neg u1] at hsp;have hn1:=hW n hn (fun h5=>u1 (.inl (by rw [h5];decide)));refine a5L ?_;refine cY c78 ?_;refine O1 ?_;refine cC ?_ ?_ <;> intro h2
  ·have u2:bs.length=64:=sm_ h2;rw [if_pos u2] at hsp;exact a5k
  ·have u2:¬ bs.length=64:=sm_ h2;rw [if_neg u2] at hsp;refine a6Q ?_;refine a9K ?_;refine b55 hCC 7 rfl (α:=Tok × Nat) (fun _=>[(0,.ptr 0 0),(1,(.list (bs.map De.cv) (gnn bs.length) none)),(4,.ptr 3 0),(6,.ptr 5 0),(7,.ptr 6 0)]) (fun x=>[pbx T x.2 ps b 1,u0 b.length,.dead,.box (⟨0,[],[],[]⟩:De).cells,.dead,.box x.1.cells,.box [(iv (F7 (tk T n).t))]]) (fun x=>a23 T (F7 (tk T n).t) (n+1)=some x/\x.2 < T.length) ?_ ?_
   ·
    refine z_0 ?_;refine cY a0H ?_;refine O1 ?_;refine cC ?_ ?_ <;> intro h3
    ·have u3:(F7 (tk T n).t)=3:=by simpa [F7] using h3
     have hh:∀ m,a23 T (F7 (tk T n).t) m=a0L T m:=fun m=>if_pos u3;rw [hh] at hsp;refine z_4 ?_;refine cD (o6 rfl c2b ⟨tt,tt⟩ (b0E hT hn1 hW hc.l ⟨rfl,rfl,n_2 rfl⟩) rfl (fun x hx=>.inr ⟨x,l9,by rw [hsp,hx.1];rfl,hx.2⟩) ?_);rintro ⟨x,n2⟩ ⟨g1,g2⟩;dsimp only at g1 g2 ⊢;refine d4E ?_;exact ⟨(x,n2),[0,1,2,3,4,5,6],⟨by rw [hh];exact g1,g2⟩,⟨rfl,rfl⟩,ut_,uq_⟩
    ·have u3:¬ (F7 (tk T n).t)=3:=by simpa [F7] using h3
     have hh:∀ m,a23 T (F7 (tk T n).t) m=J1 T m:=fun m=>if_neg u3;rw [hh] at hsp;refine z_4 ?_;refine cD (o6 rfl c1F ⟨tt,tt⟩ (b0A hT hn1 hW ⟨rfl,rfl,n_2 rfl⟩) rfl (fun x hx=>.inr ⟨x,l9,by rw [hsp,hx.1];rfl,hx.2⟩) ?_);rintro ⟨x,n2⟩ ⟨g1,g2⟩;dsimp only at g1 g2 ⊢;refine d4E ?_;exact ⟨(x,n2),[0,1,2,3,4,5,6],⟨by rw [hh];exact g1,g2⟩,⟨rfl,rfl⟩,ut_,uq_⟩
   ·intro ⟨x,n2⟩ ⟨g1,g2⟩;dsimp only at g1 g2 ⊢;have e2:=b9t g1;rw [g1,n_6] at hsp;dsimp only at hsp;refine a1z ?_;refine cY (b1O rfl i7) ?_;refine ye rfl Tryz.call238 i7 (b0r bs _ om_ Tryz.call239 (fun y _=>d0w y x (F7 (tk T n).t) (q:=6) (s:=5) rfl rfl)) rfl ?_;refine c8 ?_;refine cC ?_ ?_ <;> intro h4
    ·have u4:(bs.any fun d=>(d.k == (F7 (tk T n).t)) && decide (d.name=x.t))=true:=h4;rw [if_pos u4] at hsp;exact a5k
    ·have u4:¬ (bs.any fun d=>(d.k == (F7 (tk T n).t)) && decide (d.name=x.t))=true:=by rw [h4];decide
     rw [if_neg u4] at hsp;refine a1d ?_;refine cY a0H ?_;refine a6Z ?_;refine cY (A9 #[(0,1),(1,1),(2,1),(3,1)] rfl i7 b1n b02 rfl ⟨_,rfl⟩ (fun w=>by kernel_rfl) rfl rfl) ?_;refine b5O ?_;refine c8 ?_;refine b55 hCC 8 rfl (α:=List Str × Nat) (fun _=>[(0,.ptr 0 0),(4,.ptr 3 0),(8,.ptr 7 0)]) (fun q=>[pbx T q.2 ps b 1,u0 b.length,.dead,.box (⟨0,[],[],[]⟩:De).cells,.dead,.dead,.dead,.box (⟨(F7 (tk T n).t),x.t,q.1,[]⟩:De).cells]) (fun q=>a3c T (F7 (tk T n).t) n2=some q/\q.2 < T.length/\q.1.length<=8) ?_ ?_
     ·
      refine z_0 ?_;refine cY a0H ?_;refine O1 ?_;refine cC ?_ ?_ <;> intro h5
      ·have u5:(F7 (tk T n).t)=1:=by simpa [F7] using h5
       have hq:∀ m,a3c T (F7 (tk T n).t) m=K6 T m:=fun m=>if_pos u5;rw [hq] at hsp;refine z_4 ?_;refine cD (o6 rfl Tryz.call240 ⟨tt,tt⟩ (b3d hT g2 hW ⟨rfl,rfl,n_2 rfl⟩) rfl (fun x hx=>.inr ⟨x,l9,by rw [hsp,hx.1];rfl,hx.2⟩) ?_);rintro ⟨pl,n3⟩ ⟨k1,k2,k3⟩;dsimp only at k1 k2 k3 ⊢;refine b9h ?_;exact ⟨(pl,n3),[0,1,2,3,4,5,6,7],⟨by rw [hq];exact k1,k2,k3⟩,⟨rfl,rfl⟩,ut_,uq_⟩
      ·have u5:¬ (F7 (tk T n).t)=1:=by simpa [F7] using h5
       have hq:∀ m,a3c T (F7 (tk T n).t) m=some ([],m):=fun m=>if_neg u5;refine c9 ?_;exact ⟨([],n2),[0,1,2,3,4,5,6,7],⟨hq n2,g2,n_3 _⟩,⟨rfl,rfl⟩,ut_,uq_⟩
     ·intro ⟨pl,n3⟩ ⟨k1,k2,k3⟩;dsimp only at k1 k2 k3 ⊢;have e3:=b6t k1;rw [k1,n_6] at hsp;dsimp only at hsp;refine z_2 ?_;refine cD (o6 rfl a6q o7 (P2 hT k2 hW [61] ⟨rfl,rfl,n_2 rfl⟩) rfl (fun x hx=>.inr ⟨x,l9,by rw [hsp,hx.1];rfl,hx.2⟩) ?_);rintro n4 ⟨s4,k4⟩;dsimp only at s4 k4 ⊢;have e4:=O4 s4;rw [s4,n_6] at hsp;have hc':a0b T pl:=⟨hT,hW,hc.l,om_,hc.nn⟩;refine b2a ?_;refine a6p ?_;refine cY K2 ?_;refine cY (j4 rfl tt rfl c42 rfl a2U de_) ?_;refine cD (j6 rfl tt tt rfl c4 a2U (.inl rfl) rfl rfl (nb rfl) ?_);refine cY K2 ?_;refine cY b4H ?_;refine cD (j6 rfl tt rfl rfl c4 b2W (.inl rfl) rfl rfl (nb rfl) ?_);refine L7 ?_;refine cD (o6 rfl c1c o7 ((d0a hc' (8*T.length+6)).1 _ (n_4 _) 1 n4 [] k4 (n_3 _) de_ om_ _ 0 2 ⟨rfl,rfl,n_2 rfl⟩) rfl (fun x hx=>.inr ⟨x,l9,by rw [hsp,c7j,hx.1];rfl,hx.2⟩) ?_);rintro ⟨i5,n5,b5⟩ ⟨x5,y5,z5,w5⟩;dsimp only at x5 y5 z5 w5 ⊢;rw [c7j,x5,n_6] at hsp;dsimp only at hsp;refine c5 [pbx T n5 pl b5 8,u0 b.length,.dead,.box (⟨0,[],[],[]⟩:De).cells,.dead,.dead,.dead,.box (⟨(F7 (tk T n).t),x.t,pl,[]⟩:De).cells,u0 b5.length] rfl ?_;refine L7 ?_;refine cY K2 ?_;refine cY b4H ?_;refine cY a6B ?_;refine d4t ?_;refine L7 ?_;refine cD (o6 rfl a6q o7 (P2 hT z5 hW [59] (q:=0) (s:=8) ⟨rfl,rfl,n_2 rfl⟩) rfl (fun x hx=>.inr ⟨x,l9,by rw [hsp,hx.1];rfl,hx.2⟩) ?_);rintro n6 ⟨s6,k6⟩;dsimp only at s6 k6 ⊢;have e6:=O4 s6;rw [s6,n_6] at hsp;refine S5 ?_;refine c93 ?_;refine a1n ?_;exact ⟨_,B6 rfl c6Z,(by exact .inl ⟨(⟨(F7 (tk T n).t),x.t,pl,b5⟩,n6),b5K (k:=8) rfl rfl de_ (fun _=>c0E _ _ _ _ _),hsp,do_,k6,k3,w5⟩)⟩
theorem d2L (hc:a0b T ps) (bs:List De) (hbs:bs.length<=64) {n:Nat} {b:List Ex} (hn:n < T.length) (hb:b.length<=256) (hσ:PAt σ q s T n ps b):b8 CC 197 [.ptr q 0,(.list (bs.map De.cv) (gnn bs.length) none)] σ (a4C (fun a:De × Nat=>(.agg a.1.cells)) (fun a=>(σ.set q (pbx T a.2 a.1.params a.1.body σ.length)).set s .dead++[u0 a.1.body.length]) (fun a:De × Nat=>a0I T bs n=some a/\n < a.2/\a.2 < T.length/\a.1.params.length<=8/\a.1.body.length<=256) σ q s (a0I T bs n=none)) :=
 b3z (c:=(fun a:De × Nat=>(.agg a.1.cells))) (N:=fun a=>a.2) (Z:=fun a=>a.1.params) (B:=fun a=>a.1.body) (fun _ h=>by simp at h;subst h;exact a42 _ _) (fun a=>o3 a.1.pure) (c76 hc bs hbs n b hn hb) hσ
def a1s:Nat->List Tok->Str->Nat->List Str->Option (List Str × Nat)
 | 0,_,_,_,_=>none
 | f+1,T,pkg,n,l=>if isT (tk T n) 1 [105,109,112,111,114,116]=true then (if l.length=8 then none else (J1 T (n+1)).bind fun x=>if x.1.t=pkg\/x.1.t∈l then none else (pIs T x.2 4 [59]).bind fun m=>a1s f T pkg m (l++[x.1.t])) else some (l,n)
def R4:Nat->List Tok->Nat->List De->Option (List De × Nat)
 | 0,_,_,_=>none
 | f+1,T,n,l=>if (tk T n).k=5 then some (l,n) else (a0I T l n).bind fun x=>R4 f T x.2 (l++[x.1])
def a1c (T:List Tok):Option Src:=(pIs T 0 1 [112,97,99,107,97,103,101]).bind fun n1=>(J1 T n1).bind fun x=>(pIs T x.2 4 [59]).bind fun n2=>(a1s 9 T x.1.t n2 []).bind fun y=>(R4 65 T y.2 []).bind fun z=>some ⟨x.1.t,y.1,z.1⟩
theorem b4c {bs:List De} {n:Nat} {x:De × Nat} (h:a0I T bs n=some x):bs.length≠64:=fun h64=>by
 unfold a0I at h;rw [if_pos h64] at h;split at h <;> cases h
theorem d3g (pkg:Str) (i:List Str) (d:List De) (t1 t2:Option Nat):D2 L sel (.agg [sv pkg,.list (i.map scv) (gnn i.length) t1,.list (d.map De.cv) (gnn d.length) t2]) (.agg (⟨pkg,i,d⟩:Src).cells) :=
 .agg rfl fun k c c' h h'=>by
  rcases k with _ | _ | _ | k
  ·injection h with h;injection h' with h';subst h h';exact .old (.val _)
  ·injection h with h;injection h' with h';subst h h';exact Y4 (f:=scv) (fun _=>⟨.val _,tt⟩) _
  ·injection h with h;injection h' with h';subst h h';exact Y4 (f:=De.cv) De.pure _
  ·cases h
theorem c6C (hc:a0b T []) (h0:0 < T.length):b8 CC 155 [.ptr 0 0] (pst T 0 [] []) (a3L (fun a:Src × Nat × List Str × List Ex=>(.agg a.1.cells)) (fun a=>a7n T a.2.1 a.2.2.1 a.2.2.2) (fun a:Src × Nat × List Str × List Ex=>a1c T=some a.1) (a1c T=none)):=by
 have hT:=hc.len;have hW:=hc.w;have hsp:a1c T=a1c T:=rfl
 conv at hsp=>rhs;unfold a1c
 refine cO Tryz.func155 ?_;refine z_0 ?_;refine cD (x8 rfl a5h rfl p8 ?_);refine L7 ?_;refine cD (o6 rfl c7u o7 (b48 hT h0 hW [112,97,99,107,97,103,101] ⟨rfl,rfl,n_2 rfl⟩) rfl (fun x hx=>.inr ⟨x,l9,by rw [hsp,hx.1];rfl,hx.2⟩) ?_);rintro n1 ⟨s1,k1⟩;dsimp only at s1 k1 ⊢;rw [s1,n_6] at hsp;have e1:=O4 s1;refine L7 ?_;refine cD (o6 rfl c1F ⟨tt,tt⟩ (b0A hT k1 hW ⟨rfl,rfl,n_2 rfl⟩) rfl (fun x hx=>.inr ⟨x,l9,by rw [hsp,hx.1];rfl,hx.2⟩) ?_);rintro ⟨w,n2⟩ ⟨s2,k2⟩;dsimp only at s2 k2 ⊢;have e2:=b1j s2;rw [s2,n_6] at hsp;dsimp only at hsp;refine cY c2Q ?_;refine cY d8p ?_;refine c7O ?_;refine L7 ?_;refine cD (o6 rfl a6q o7 (P2 hT k2 hW [59] ⟨rfl,rfl,n_2 rfl⟩) rfl (fun x hx=>.inr ⟨x,l9,by rw [hsp,hx.1];rfl,hx.2⟩) ?_);rintro n3 ⟨s3,k3⟩;dsimp only at s3 k3 ⊢;rw [s3,n_6] at hsp;refine c5 [pbx T n3 [] [] 1,.dead,.box (⟨[],[],[]⟩:Src).cells,.box [sv w.t,.list (([]:List Str).map scv) (gnn ([]:List Str).length) none,.list (([]:List De).map De.cv) (gnn ([]:List De).length) none]] rfl ?_;refine z_9 ?_;refine F5 ?_;refine B2 hCC 4 rfl (α:=List Str × Nat) (fun _=>[(0,.ptr 0 0),(2,.ptr 2 0),(3,.ptr 3 0)]) (fun x=>[pbx T x.2 [] [] 1,.dead,.box (⟨[],[],[]⟩:Src).cells,.box [sv w.t,.list (x.1.map scv) (gnn x.1.length) (G9 x.1.length 4),.list (([]:List De).map De.cv) (gnn ([]:List De).length) none],u0 x.1.length]) (fun x=>x.1.length<=8/\x.2 < T.length/\a1c T=(a1s (9 - x.1.length) T w.t x.2 x.1).bind fun y=>(R4 65 T y.2 []).bind fun z=>some ⟨w.t,y.1,z.1⟩) (fun x=>9 - x.1.length) ⟨([],n3),[0,1,2,3,9],⟨n_3 _,k3,hsp⟩,⟨rfl,rfl⟩,ut_,⟨.inr ⟨_,rfl,.same rfl (a35 (nb rfl))⟩,.inl rfl,.inr ⟨_,rfl,.same rfl c2s⟩,.inr ⟨_,rfl,.box ⟨.old (.val _),.old a4p,.old (R6 _ [] _),tt⟩⟩,.inl rfl,tt⟩⟩ ?_;intro ⟨l,m⟩ ⟨hl,hm,hsp⟩;dsimp only at hl hm hsp ⊢;obtain ⟨f,hf⟩:∃ f,9 - l.length=f+1:=⟨8 - l.length,om_⟩;rw [hf,a1s] at hsp;refine a1z ?_;refine ye rfl c7b a2J (b6C hT hm 1 [105,109,112,111,114,116] ⟨rfl,rfl,n_2 rfl⟩) rfl ?_;refine c8 ?_;refine cC ?_ ?_ <;> intro h1
 ·have u1:isT (tk T m) 1 [105,109,112,111,114,116]=true:=sp_ h1;rw [if_pos u1] at hsp;have hm1:=hW m hm (a7j u1 de_);refine a21 ?_;refine a0Y ?_;refine a4l ?_;refine a8j ?_;refine cC ?_ ?_ <;> intro h2
  ·have u2:l.length=8:=sm_ h2;rw [if_pos u2] at hsp;refine z_4 ?_;refine ye rfl c32 ⟨tt,tt⟩ (a3b hT hm ⟨rfl,rfl,n_2 rfl⟩) rfl ?_;exact b0e rfl rfl (a1B rfl b5A o7 (a1F _ _ _) rfl (fun _ _=>.inr ⟨(_,_),l9,by rw [hsp];rfl,si_⟩))
  ·have u2:¬ l.length=8:=sm_ h2;rw [if_neg u2] at hsp;refine a6Q ?_;refine a9K ?_;refine z_2 ?_;refine cD (o6 rfl c1F ⟨tt,tt⟩ (b0A hT hm1 hW ⟨rfl,rfl,n_2 rfl⟩) rfl (fun x hx=>.inr ⟨x,l9,by rw [hsp,hx.1];rfl,hx.2⟩) ?_);rintro ⟨x,m1⟩ ⟨s4,k4⟩;dsimp only at s4 k4 ⊢;rw [s4,n_6] at hsp;dsimp only at hsp;refine c5 [pbx T m1 [] [] 1,.dead,.box (⟨[],[],[]⟩:Src).cells,.box [sv w.t,.list (l.map scv) (gnn l.length) (G9 l.length 4),.list (([]:List De).map De.cv) (gnn ([]:List De).length) none],u0 l.length] rfl ?_;refine a62 ?_;refine b4J ?_;refine a7X ?_;refine cY b3u ?_;refine cY j1 ?_;refine c9l ?_;refine cG b6k ?_;refine cG a2E ?_;refine cG (fun hg=>j8 rfl c7d ⟨hg,hg,tt⟩ (a0d l (gnn l.length) x.t om_ _) rfl) ?_;refine a8t ?_;refine cC ?_ ?_ <;> intro h3
   ·have u3:x.t=w.t\/x.t∈l:=sp_ h3;rw [if_pos u3] at hsp;refine b9D ?_;exact b0e rfl rfl (a1B rfl b5A o7 (a1F _ _ _) rfl (fun _ _=>.inr ⟨(_,_),l9,by rw [hsp];rfl,si_⟩))
   ·have u3:¬ (x.t=w.t\/x.t∈l):=sp_ h3;rw [if_neg u3] at hsp;have hls:=U4 l x.t;refine a1d ?_;refine a4l ?_;refine a6Z ?_;refine cY (A2 [scv x.t] rfl ⟨tt,tt⟩ t_1 t_0 t_3 rfl rfl rfl rfl rfl rfl rfl rfl rfl) ?_;refine cD (C5 rfl tt tt rfl si_ q_2 t_1 t_0 a3y t_3 rfl (.inr rfl) q_8 a36 E7 ((l++[x.t]).map scv) (l++[x.t]).length si_ si_ ?_);refine cY c2z ?_;refine d7Y ?_;refine z_4 ?_;refine cD (o6 rfl a6q o7 (P2 hT k4 hW [59] ⟨rfl,rfl,n_2 rfl⟩) rfl (fun x hx=>.inr ⟨x,l9,by rw [hsp,hx.1];rfl,hx.2⟩) ?_);rintro m2 ⟨s5,k5⟩;dsimp only at s5 k5 ⊢;rw [s5,n_6] at hsp;refine c8 ?_;exact ⟨(l++[x.t],m2),[0,1,2,3,6],⟨do_,do_,k5,by dsimp only;rw [hsp,show 9 - (l++[x.t]).length=f by omega]⟩,⟨rfl,rfl⟩,ut_,⟨.inr ⟨_,rfl,.same rfl (a35 (nb rfl))⟩,.inl rfl,.inr ⟨_,rfl,.same rfl c2s⟩,.inr ⟨_,rfl,.box ⟨.old (.val _),D2.grow (f:=scv) (fun _=>⟨.val _,tt⟩) rfl,.old (R6 _ [] _),tt⟩⟩,.inr ⟨_,rfl,.same rfl C3⟩,tt⟩⟩
 ·have u1:¬ isT (tk T m) 1 [105,109,112,111,114,116]=true:=sp_ h1;rw [if_neg u1,n_6] at hsp;dsimp only at hsp;rename_i im0;obtain ⟨im,him⟩:∃ im,im=l:=⟨l,rfl⟩;subst him;refine A4 ?_;refine a4A ?_;refine B2 hCC 5 rfl (α:=Nat × List De × List Str × List Ex) (fun _=>[(0,.ptr 0 0),(2,.ptr 2 0),(3,.ptr 3 0)]) (fun x=>[pbx T x.1 x.2.2.1 x.2.2.2 5,.dead,.box (⟨[],[],[]⟩:Src).cells,.box [sv w.t,.list (im.map scv) (gnn im.length) none,.list (x.2.1.map De.cv) (gnn x.2.1.length) (G9 x.2.1.length 6)],.dead,u0 x.2.2.2.length,u0 x.2.1.length]) (fun x=>x.2.1.length<=64/\x.1 < T.length/\x.2.2.1.length<=8/\x.2.2.2.length<=256/\a1c T=(R4 (65 - x.2.1.length) T x.1 x.2.1).bind fun z=>some ⟨w.t,im,z.1⟩) (fun x=>T.length - x.1) ⟨(m,[],[],[]),[0,1,2,3,4,9,10],⟨n_3 _,hm,n_3 _,n_3 _,hsp⟩,⟨rfl,rfl⟩,ut_,⟨.inr ⟨_,rfl,.box ⟨.old a2A,.old (.val _),.old a0G,.old (N6 _ [] _),tt⟩⟩,.inl rfl,.inr ⟨_,rfl,.same rfl c2s⟩,.inr ⟨_,rfl,.box ⟨.old (.val _),Y4 (f:=scv) (fun _=>⟨.val _,tt⟩) _,.old (R6 _ [] _),tt⟩⟩,.inl rfl,.inl rfl,.inl rfl,tt⟩⟩ ?_;intro ⟨m,ds,ps,b⟩ ⟨hds,hm,hps,hb,hsp⟩;dsimp only at hds hm hps hb hsp ⊢;obtain ⟨f,hf⟩:∃ f,65 - ds.length=f+1:=⟨64 - ds.length,om_⟩;rw [hf,R4] at hsp;have hc':a0b T ps:=⟨hT,hW,hc.l,om_,hc.nn⟩;refine a1z ?_;refine ye rfl c32 ⟨tt,tt⟩ (a3b hT hm (q:=0) (s:=5) ⟨rfl,rfl,n_2 rfl⟩) rfl ?_;refine cY a4z ?_;refine O1 ?_;refine cC ?_ ?_ <;> intro h4
  ·have u4:¬ (tk T m).k=5:=sp_ h4;rw [if_neg u4] at hsp;refine a21 ?_;refine cF [] [] [0,1,2,3,4,5,6,7,8,9] 5 [[0,1],[0,1],[],[],[]] trivial ?_;refine chf rfl c3r ?_;refine chf rfl c7z ?_;refine chf rfl W9 ?_;refine chf rfl c3r ?_;refine chf rfl c7z ?_;refine F9 ?_;refine A6 rfl rfl rfl rfl (o6 rfl Tryz.call197 i7 (d2L hc' ds hds hm hb (q:=0) (s:=5) ⟨rfl,rfl,n_2 rfl⟩) rfl (fun x hx _=>.inr ⟨x,l9,by rw [hsp,hx.1];rfl,hx.2⟩) ?_);rintro ⟨d,m1⟩ ⟨g1,g2,g3,g4,g5⟩;dsimp only at g1 g2 g3 g4 g5 ⊢;have hlen:=b4c g1;rw [g1,n_6] at hsp;dsimp only at hsp;have hls:=U4 ds d;refine a1E [pbx T m1 d.params d.body 7,.dead,.box (⟨[],[],[]⟩:Src).cells,.box [sv w.t,.list (im.map scv) (gnn im.length) none,.list (ds.map De.cv) (gnn ds.length) (G9 ds.length 6)],.dead,.dead,u0 ds.length,u0 d.body.length] rfl ?_;refine d6z ?_;refine A6 rfl rfl rfl rfl (C5 rfl tt tt rfl si_ q_2 b2w a68 Tryz.typeInfo119 b02 rfl (.inr rfl) q_8 (by have hb:Tryz.t119.bytes=72:=rfl;rw [hb];first|omega|(simp;done)|(simp;omega)) E7 ((ds++[d]).map De.cv) (ds++[d]).length si_ si_ ?_);refine ⟨tt,?_⟩;refine d6E ?_;refine a2C ?_;exact ⟨(m1,ds++[d],d.params,d.body),[0,1,2,3,4,7,8],⟨do_,do_,g3,g4,g5,by dsimp only;rw [hsp,show 65 - (ds++[d]).length=f by omega]⟩,⟨rfl,rfl⟩,ut_,⟨.inr ⟨_,rfl,.box ⟨.old a2A,.old (.val _),.old a0G,a8k rfl,tt⟩⟩,.inl rfl,.inr ⟨_,rfl,.same rfl c2s⟩,.inr ⟨_,rfl,.box ⟨.old (.val _),.old a0G,D2.grow (f:=De.cv) (fun _=>⟨.val _,.val _,B3 _ _ _,N6 _ _ _,tt⟩) rfl,tt⟩⟩,.inl rfl,.inr ⟨_,rfl,.same rfl C3⟩,.inr ⟨_,rfl,.same rfl C3⟩,tt⟩⟩
  ·have u4:(tk T m).k=5:=sp_ h4;rw [if_pos u4,n_6] at hsp;refine U9 ?_;refine d5f ?_;refine a1n ?_;exact ⟨_,B6 rfl ⟨tt,_,_,_,rfl,rfl,.inr ⟨_,c0g,a2R,nb rfl,rfl⟩⟩,(by exact .inl ⟨(⟨w.t,im,ds⟩,m,ps,b),b5K (k:=5) rfl rfl de_ (fun _=>d3g _ _ _ _ _),hsp⟩)⟩
theorem d3h (hc:a0b T []) (h0:0 < T.length) (hσ:PAt σ q s T 0 [] []):b8 CC 155 [.ptr q 0] σ (a4C (fun a:Src × Nat × List Str × List Ex=>(.agg a.1.cells)) (fun a=>(σ.set q (pbx T a.2.1 a.2.2.1 a.2.2.2 σ.length)).set s .dead++[u0 a.2.2.2.length]) (fun a:Src × Nat × List Str × List Ex=>a1c T=some a.1) σ q s (a1c T=none)) :=
 b3z (c:=(fun a:Src × Nat × List Str × List Ex=>(.agg a.1.cells))) (N:=fun a=>a.2.1) (Z:=fun a=>a.2.2.1) (B:=fun a=>a.2.2.2) (fun _ h=>by cases h) (fun a=>o3 a.1.pure) (c6C hc h0) hσ
structure d7G (N:Nat) (t:Tok):Prop where
 len:t.t.length<=N
 n0:0<=t.n
 n1:t.n<=9007199254740993
theorem b0z (s:Str) (a e:Nat):(sub s a e).length<=s.length:=by unfold sub;rw [b9x,a7Z];omega
theorem c4N {s:Str} {b:UInt8}:d7G s.length (D7 s a b).1/\(D7 s a b).1.k≠5:=by
 have z:d7G s.length (⟨0,[],0,0⟩:Tok):=⟨n_3 _,de_,de_⟩;unfold D7
 split
 ·split
  ·exact ⟨z,(show (0:Int)≠5 by decide)⟩
  ·exact ⟨⟨b0z _ _ _,b3b _,(show (0:Int)<=9007199254740993 by decide)⟩,(show (1:Int)≠5 by decide)⟩
 ·split
  ·split
   ·exact ⟨z,(show (0:Int)≠5 by decide)⟩
   ·have:=b3A (b4O (s:=s) (a:=a));exact ⟨⟨n_3 _,this.1,this.2⟩,(show (2:Int)≠5 by decide)⟩
  ·split
   ·split
    ·exact ⟨z,(show (0:Int)≠5 by decide)⟩
    ·exact ⟨⟨b0z _ _ _,b3b _,(show (0:Int)<=9007199254740993 by decide)⟩,(show (3:Int)≠5 by decide)⟩
   ·split
    ·split
     ·exact ⟨⟨b0z _ _ _,b3b _,(show (0:Int)<=9007199254740993 by decide)⟩,(show (4:Int)≠5 by decide)⟩
     ·exact ⟨⟨b0z _ _ _,b3b _,(show (0:Int)<=9007199254740993 by decide)⟩,(show (4:Int)≠5 by decide)⟩
    ·exact ⟨z,(show (0:Int)≠5 by decide)⟩
theorem a9j (s:Str):∀ (f i:Nat) (T:List Tok),a0C f s i=some T->T.length<=f/\(∀ t∈T,d7G s.length t)/\∃ L e,T=L++[e]/\e.k=5/\∀ t∈L,t.k≠5
 | 0,i,T,h=>by cases h
 | f+1,i,T,h=>by
  rw [a0C] at h;cases hb:s[A0 s i [5]]? with
  | none =>
   rw [hb] at h;injection h with h
   subst h;refine ⟨si_,fun t ht=>?_,[],_,rfl,rfl,fun t ht=>by cases ht⟩;simp at ht;subst ht;exact ⟨n_3 _,b3b _,(show (0:Int)<=9007199254740993 by decide)⟩
  | some b =>
   rw [hb] at h;simp only at h;split at h
   ·obtain ⟨h1,h2⟩:=a9j s f _ T h;exact ⟨om_,h2⟩
   ·split at h
    ·cases h
    ·cases hq:a0C f s (D7 s (A0 s i [5]) b).2.1.toNat with
     | none=>rw [hq] at h;cases h
     | some T' =>
      rw [hq] at h;simp only [b3w,Option.some.injEq] at h;subst h;obtain ⟨h1,h2,L,e,h3,h5,h4⟩:=a9j s f _ T' hq;have hg:=c4N (s:=s) (a:=A0 s i [5]) (b:=b);refine ⟨sp_ h1,fun t ht=>?_,_::L,e,by rw [h3];rfl,h5,fun t ht=>?_⟩
      ·rcases R5.1 ht with rfl | ht
       ·exact ⟨hg.1.len,hg.1.n0,hg.1.n1⟩
       ·exact h2 t ht
      ·rcases R5.1 ht with rfl | ht
       ·exact hg.2
       ·exact h4 t ht
theorem b9S (i:Nat):tk T i∈T\/tk T i=⟨5,[],0,0⟩:=by
 unfold tk;cases h:T[i]? with
 | none=>exact .inr rfl
 | some t=>exact .inl (n_0 h)
theorem b0U {s:Str} (h:a3B s=some T):a0b T []/\0 < T.length:=by
 unfold a3B at h;split at h
 ·cases h
 ·rename_i hs;obtain ⟨h1,h2,L,e,h3,h5,h4⟩:=a9j s _ _ T h;have h0:0 < T.length:=by rw [h3];simp
  refine ⟨⟨om_,fun n hn hk=>?_,fun n=>?_,n_3 _,fun n=>?_⟩,h0⟩
  ·rcases a0c (n+1) T.length with hlt | hge
   ·exact hlt
   ·exfalso;have hl:T.length=L.length+1:=by rw [h3];simp
    have:tk T n=e:=by
     unfold tk;rw [h3,show n=L.length by omega];simp
    exact hk (by rw [this];exact h5)
  ·rcases b9S (T:=T) n with h | h
   ·have:=(h2 _ h).len;omega
   ·rw [h];simp
  ·rcases b9S (T:=T) n with h | h
   ·exact ⟨(h2 _ h).n0,(h2 _ h).n1⟩
   ·rw [h];exact ⟨de_,de_⟩
abbrev c3N:=Src × Int × Int
abbrev c5K (x:c3N):CV:=.tup [.agg x.1.cells,iv x.2.1,iv x.2.2]
def P4 (s:Str):Option Src:=(a3B s).bind a1c
def b5L (s:Str) (x:c3N):Prop:=(P4 s=some x.1/\x.2.1=0/\x.2.2=0)\/(P4 s=none/\x.1=⟨[],[],[]⟩/\x.2.2≠0)
theorem b9M {c1 c2 c3:CV} {u:CV} {K:List b9->Prop} (h:K σ):c5o CC 154 [c1,c2,c3] σ false u K:=by
 refine d3A ?_;refine cY (c2X rfl tt rfl Tryz.runUnderlying20 (.inl rfl)) ?_;refine c8 ?_;refine cC ?_ ?_ <;> intro h1
 ·cases h1
 ·refine c9 ?_;exact h
theorem b9L (a0 e0 x e:Int) {K:List b9->Prop} (h:K [.dead,.box (⟨[],[],[]⟩:Src).cells,.box [iv x],.box [iv e],.dead,.box [iv x,iv e]]):c5o CC 154 [.ptr 1 0,.ptr 2 0,.ptr 3 0] [.dead,.box (⟨[],[],[]⟩:Src).cells,.box [iv a0],.box [iv e0],.dead] true (a2W x e) K:=by
 refine d3A ?_;refine cY (c2X rfl tt rfl Tryz.runUnderlying20 (.inr ⟨_,_,rfl⟩)) ?_;refine c8 ?_;refine cC ?_ ?_ <;> intro h1
 ·refine z_2 ?_;refine cY (c4X (xs:=[.int .i64 x,.int .i64 e]) rfl tt rfl c37 rfl rfl) ?_;refine b1C ?_;refine cD (x8 rfl Tryz.zeroValue195 rfl p8 ?_);refine cD (j6 rfl tt tt rfl c4 Tryz.sizeOf195 p8 rfl rfl (nb rfl) ?_);refine a4y ?_;refine S4 ?_;refine cC ?_ ?_ <;> intro h2
  ·cases h2
  ·refine c9 ?_;refine cF [] [] [0,1,2,3,4,5,6,7] 5 [[1,2,3,4],[3,4],[]] trivial ?_;refine chf rfl d7k ?_;refine chf rfl (c7 rfl (j4 rfl tt rfl c37 rfl t_2 de_)) ?_;refine chf rfl b1m ?_;refine chf rfl (c7 rfl d0p) ?_;refine chf rfl c81 ?_;refine c1W ?_;refine ⟨⟨(by exact c7 rfl (j4 rfl tt rfl c37 rfl t_2 de_)),b1k,(by exact c7 rfl d0p),b3Z,tt⟩,?_⟩;refine A6 rfl rfl rfl rfl (j6 rfl tt tt rfl c4 t_2 (.inl rfl) rfl rfl (nb rfl) ?_);refine ⟨⟨(by exact c7 rfl d0p),b3Z,tt⟩,?_⟩;refine d5U ?_;exact h
 ·cases h1
theorem c4L (s:Str) (hs:s.length<=1000000000000):b8 CC 102 [(sv s)] [] fun r τ=>∃ x:c3N,a1e 0 τ r (.ret (c5K x))/\b5L s x:=by
 refine a0a (c0r Tryz.func102 rfl rfl ?_);show b7h _ _ _ _ _ [.dead];refine c1a ?_;refine r3 ?_;refine cD (x8 rfl a5h rfl p8 ?_);refine cD (x8 rfl t_6 rfl (.inl rfl) ?_);refine cD (x8 rfl Tryz.zeroValue40 rfl (.inl rfl) ?_);refine c8 ?_;refine c1a ?_;refine z_4 ?_;refine dc rfl Tryz.call153 ⟨tt,tt⟩ (c5L s hs _) ?_;rintro ⟨T,nn,at_,e⟩ hP;dsimp only at hP ⊢;refine b4r ?_;refine cY Q1 ?_;refine cD (j6 rfl tt tt rfl c4 t_2 (.inl rfl) rfl rfl (nb rfl) ?_);refine d5z ?_;refine c1a ?_;refine z_0 ?_;refine cY d6w ?_;refine O1 ?_;refine cC ?_ ?_ <;> intro h1
 ·have he:e≠0:=sp_ h1;have hl:a3B s=none:=by
   rcases hP with ⟨_,_,_,g⟩ | ⟨g,_⟩
   ·exact absurd g he
   ·exact g
  refine A5 ?_;refine cF [] [] [0,1,2,3,4,5] 3 [[1,2],[2],[]] trivial ?_;refine chf rfl d7k ?_;refine chf rfl b1m ?_;refine chf rfl c81 ?_;refine c1W ?_;refine ⟨⟨b1k,b3Z,tt⟩,?_⟩;refine A6 rfl rfl rfl rfl (j6 rfl tt tt rfl c4 t_2 (.inl rfl) rfl rfl (nb rfl) ?_);refine ⟨⟨b3Z,tt⟩,?_⟩;refine d5U ?_;refine W2 ?_;exact ⟨_,j9 (rs:=[.cell 2 67,.cell 3 3,.cell 4 40]) (cs:=[_,_,_]) rfl d7P (n_2 rfl),⟨((⟨[],[],[]⟩:Src),at_,e),d1m,.inr ⟨by rw [P4,hl];rfl,rfl,he⟩⟩⟩
 ·have he:e=0:=sp_ h1;obtain ⟨hl,rfl,rfl⟩:a3B s=some T/\nn=true/\at_=0:=by
   rcases hP with ⟨g1,g2,g3,_⟩ | ⟨_,_,_,g⟩
   ·exact ⟨g1,g2,g3⟩
   ·exact absurd he g
  subst he;obtain ⟨hc,h0⟩:=b0U hl;have hsp:P4 s=a1c T:=by rw [P4,hl];rfl
  refine c9 ?_;refine c8B rfl rfl rfl rfl rfl de_ rfl rfl Tryz.call154 C0 (fun ds=>?_);refine c1M ?_;refine b1F ?_;refine cY j1 ?_;refine cY (A9 #[(0,1),(1,1),(2,1),(3,1)] rfl ⟨tt,tt⟩ c42 Tryz.zeroValue199 rfl ⟨_,rfl⟩ (fun w=>by kernel_rfl) rfl rfl) ?_;refine cD (a5v rfl tt c4 p8 ?_);refine z_1 ?_;refine c1M ?_;refine b1F ?_;refine cY j1 ?_;refine cD (o6 rfl Tryz.call155 ⟨tt,tt⟩ (d3h hc h0 (q:=4) (s:=0) ⟨rfl,rfl,n_2 rfl⟩) rfl (fun x hx=>b9L _ _ _ _ ⟨_,j9 (rs:=[.cell 2 67,.cell 3 3,.cell 4 40]) (cs:=[_,_,_]) rfl d7P (n_2 rfl),⟨((⟨[],[],[]⟩:Src),x.1,x.2),d1m,.inr ⟨by rw [hsp];exact hx.1,rfl,hx.2⟩⟩⟩) ?_);rintro ⟨x,m,ps,b⟩ g1;dsimp only at g1 ⊢;refine cD (j6 rfl tt tt rfl c4 a2R p8 rfl rfl (nb rfl) ?_);refine cD (j6 rfl tt rfl rfl c4 t_2 (.inl rfl) rfl rfl (nb rfl) ?_);refine cD (j6 rfl tt rfl rfl c4 c4p (.inl rfl) rfl rfl (nb rfl) ?_);refine c8 ?_;refine d1n ?_;exact b9M ⟨_,j9 (rs:=[.cell 2 67,.cell 3 3,.cell 4 40]) (cs:=[_,_,_]) rfl d7P (n_2 rfl),⟨(x,0,0),(by exact .ret (.tups ⟨.old (c:=.agg (x).cells) (o3 (Src.pure _)).old,.old (.val _),.old (.val _),tt⟩)),.inl ⟨by rw [hsp];exact g1,rfl,rfl⟩⟩⟩
theorem d0S (s:Str) (hs:s.length<=1000000000000) (σ:List b9):b8 CC 102 [(sv s)] σ fun r τ=>∃ x:c3N,r = .ret (c5K x)/\τ=σ/\b5L s x :=
 F6 (res:=fun x=>.ret (c5K x)) hCC (fun c hc=>by simp at hc;subst hc;exact .val _) (c4L s hs) (fun x _=>B9 ⟨o3 x.1.pure,.val _,.val _,tt⟩) σ
structure Fi where
 p:Str
 b:Str
deriving DecidableEq
variable {fl:List Fi}
abbrev Fi.cells (x:Fi):List CV:=[sv x.p,sv x.b]
def Fi.cv (x:Fi):List CV:=x.cells
theorem Fi.pure (x:Fi):S9 x.cells:=⟨.val _,.val _,tt⟩
theorem G8 (l:List Fi) (nn:Bool):r9 (.list (l.map Fi.cv) nn none):=N5 (f:=Fi.cv) Fi.pure l nn
theorem H0 (n:Nat) (l:List Fi) (nn:Bool):Old n (.list (l.map Fi.cv) nn none):=(G8 l nn).old
abbrev A8 (l:List Fi) (nn:Bool):List CV:=[.list (l.map Fi.cv) nn none]
structure Va where
 n:Str
 v:Int
deriving DecidableEq
abbrev Va.cells (x:Va):List CV:=[sv x.n,iv x.v]
def Va.cv (x:Va):List CV:=x.cells
theorem Va.pure (x:Va):S9 x.cells:=⟨.val _,.val _,tt⟩
theorem S2 (l:List Va) (nn:Bool):r9 (.list (l.map Va.cv) nn none):=N5 (f:=Va.cv) Va.pure l nn
theorem I9 (n:Nat) (l:List Va) (nn:Bool):Old n (.list (l.map Va.cv) nn none):=(S2 l nn).old
abbrev G3 (l:List Va) (nn:Bool):List CV:=[.list (l.map Va.cv) nn none]
def prv {α:Type} (l:List α) (i:Nat):Option α:=if i=0 then none else l[i - 1]?
theorem b9o {x:α} (h:l[i]? = some x):prv l (i+1)=some x:=by unfold prv;simp [h]
theorem Y3 {p:α} (hp:0 < i->l[i - 1]? = some p) (q:α->Bool):(prv l i).any q=(decide ((i:Int) > 0) && q p):=by
 unfold prv;by_cases h:i=0
 ·subst h;rfl
 ·rw [if_neg h,hp om_];have:decide ((i:Int) > 0)=true:=a2d om_;rw [this];rfl
theorem b56 (hi:i < l.length):∃ p,0 < i->l[((i:Int) - 1).toNat]? = some p/\l[i - 1]? = some p:=by
 refine ⟨l[i - 1]'om_,fun h0=>?_⟩;rw [show ((i:Int) - 1).toNat=i - 1 by omega];simp
def J6 (pv:Option Fi) (f:Fi):Int:=if H5 f.p=false then 6 else if (pv.any fun g=>decide (f.p=g.p))=true then 10 else if (pv.any fun g=>Op.bytesLess f.p g.p)=true then 6 else if 16384 < f.b.length then 2 else 0
def rvE:Option Fi->List Fi->Int
 | _,[]=>0
 | pv,f::l=>if J6 pv f=0 then rvE (some f) l else J6 pv f
def B7 (l:List Fi):Int:=if 64 < l.length then 2 else rvE none l
theorem b8P {l:List Fi} {f:Fi} (h:l[i]? = some f):rvE (prv l i) (l.drop i)=if J6 (prv l i) f=0 then rvE (prv l (i+1)) (l.drop (i+1)) else J6 (prv l i) f:=by
 obtain ⟨hlt,rfl⟩:=n_1.1 h;rw [b9o h,Q4 hlt,rvE]
def a1V (pv:Option Va) (v:Va):Bool:=C8 v.n && (decide (-9007199254740992<=v.v) && decide (v.v<=9007199254740992)) && !(pv.any fun g=>Op.bytesLess v.n g.n || decide (v.n=g.n))
def evB:Option Va->List Va->Bool
 | _,[]=>true
 | pv,v::l=>a1V pv v && evB (some v) l
def a2r (l:List Va):Bool:=decide (l.length<=16) && evB none l
theorem a83 {ev:List Va} (h:a2r ev=true):ev.length<=16:=by
 unfold a2r at h;simp only [a0i,a2t] at h;exact h.1
theorem b9G {l:List Va} {v:Va} (h:l[i]? = some v):evB (prv l i) (l.drop i)=(a1V (prv l i) v && evB (prv l (i+1)) (l.drop (i+1))):=by
 obtain ⟨hlt,rfl⟩:=n_1.1 h;rw [b9o h,Q4 hlt,evB]
def a4v (s:Str):Bool:=H5 s && (decide ((s.length:Int) > 4) && b93 [46,115,114,99] s)
theorem c0c (l:List Fi) (nn:Bool) (hl:∀ f∈l,f.p.length<=1000000000) (σ:List b9):b8 CC 100 [.agg (A8 l nn)] σ fun r σ'=>r = .ret (iv (B7 l))/\σ'=σ:=by
 refine an_ Tryz.func100 ?_;refine a2M ?_;refine d0Z ?_;refine O1 ?_;refine cC ?_ ?_ <;> intro h1
 ·have hlen:64 < l.length:=sm_ h1;exact d4b
 ·have hlen:¬ 64 < l.length:=sm_ h1;refine a0E ?_;refine a3f ?_;refine j5 hCC (α:=Nat) (fun i=>[(1,.ptr 0 0),(10,(.list (l.map Fi.cv) nn none)),(11,iv l.length),(12,iv i)]) (fun _=>[.box (A8 l nn)]) (fun i=>i<=l.length/\B7 l=rvE (prv l i) (l.drop i)) (fun i=>l.length - i) 0 ⟨n_3 _,by rw [B7,if_neg hlen];rfl⟩ tu_ (extra0:=[]) rfl r5 uz_ ?_;intro i ⟨hi,hr⟩;refine C9 ?_;refine cC ?_ ?_ <;> intro h2
  ·have hlt:(i:Int) < l.length:=sp_ h2;obtain ⟨y,hb⟩:=gx_ l i;obtain ⟨p,hp⟩:=b56 (l:=l) (i:=i) om_;have hpp:0 < i->l[i - 1]? = some p:=fun h=>(hp h).2;have hpl:=hl y (n_0 hb);rw [b8P hb] at hr;refine X9 ?_;refine c7W ?_;refine cD (x8 rfl a6r rfl p8 ?_);refine d4h ?_;refine a4B ?_;refine z_0 ?_;refine a6n ?_;refine yc rfl c4K ⟨tt,tt⟩ (a1I y.p hpl _) ?_;refine cY a6L ?_;refine z_1 ?_;refine cC ?_ ?_ <;> intro h3
   ·have u3:H5 y.p=false:=sp_ h3;have us:J6 (prv l i) y=6:=by rw [J6,if_pos u3]
    rw [us] at hr;exact b6e
   ·have u3:¬ H5 y.p=false:=sp_ h3;refine A5 ?_;refine cW 15 ?_;refine b7a ?_;refine hY j1 ?_;refine c20 ?_;refine c19 ?_;refine c2R ?_;refine c2C ?_;refine T3 rfl rfl tt rfl b4t ?_;refine hY a4t ?_;refine a9G ?_;refine cC ?_ ?_ <;> intro h4
    ·have u4:((prv l i).any fun g=>decide (y.p=g.p))=true:=by rw [Y3 hpp];exact h4
     have us:J6 (prv l i) y=10:=by rw [J6,if_neg u3,if_pos u4]
     rw [us] at hr;exact b6e
    ·have u4:¬ ((prv l i).any fun g=>decide (y.p=g.p))=true:=by rw [Y3 hpp];simpa using h4
     refine A5 ?_;refine cW 15 ?_;refine b7a ?_;refine hY j1 ?_;refine c20 ?_;refine c19 ?_;refine c2R ?_;refine c2C ?_;refine c74 ?_;refine a9G ?_;refine cC ?_ ?_ <;> intro h5
     ·have u5:((prv l i).any fun g=>Op.bytesLess y.p g.p)=true:=by rw [Y3 hpp];exact h5
      have us:J6 (prv l i) y=6:=by rw [J6,if_neg u3,if_neg u4,if_pos u5]
      rw [us] at hr;exact b6e
     ·have u5:¬ ((prv l i).any fun g=>Op.bytesLess y.p g.p)=true:=by rw [Y3 hpp];simpa using h5
      refine z_0 ?_;refine a6n ?_;refine cY X5 ?_;refine a73 ?_;refine cC ?_ ?_ <;> intro h6
      ·have u6:16384 < y.b.length:=sm_ h6;have us:J6 (prv l i) y=2:=by rw [J6,if_neg u3,if_neg u4,if_neg u5,if_pos u6]
       rw [us] at hr;exact b6e
      ·have u6:¬ 16384 < y.b.length:=sm_ h6;have us:J6 (prv l i) y=0:=by rw [J6,if_neg u3,if_neg u4,if_neg u5,if_neg u6]
       rw [us,if_pos rfl] at hr;exact a89
  ·exact d6s
theorem c3K (a b c d e:Bool):(a && b && !(c && (d || e))) = !((!a || !b) || (c && (d || e))):=by cases a <;> cases b <;> cases c <;> cases d <;> cases e <;> rfl
theorem c7y (s:Str):((H5 s && decide ((s.length:Int) > 4)) && b93 [46,115,114,99] s)=a4v s:=by rw [a4v,c0k]
theorem b21 (s:Str) (hs:s.length<=1000000000) (σ:List b9):b8 CC 101 [(sv s)] σ fun r σ'=>r = .ret (.val (.bool (a4v s)))/\σ'=σ:=by
 refine an_ Tryz.func101 ?_;refine U5 ?_;refine yc rfl c4K ⟨tt,tt⟩ (a1I s hs _) ?_;refine a3q ?_;refine cG a4r ?_;refine b4b ?_;refine cG (fun hg=>j8 rfl Tryz.call152 ⟨hg,rfl,tt⟩ (a6g s _ om_ de_ _) rfl) ?_;refine a3j ?_;exact ⟨_,j2 rfl tt c4,_,_,rfl,rfl,j7 (c7y _)⟩
theorem b8u (v:Int) (σ:List b9):b8 CC 104 [iv v] σ fun r σ'=>r = .ret (.val (.bool (decide (-9007199254740992<=v) && decide (v<=9007199254740992))))/\σ'=σ:=by
 refine an_ Tryz.func104 ?_;refine U5 ?_;refine a1h ?_;refine a88 ?_;exact c9c
theorem a4H (l:List Va) (nn:Bool) (σ:List b9):b8 CC 57 [.agg (G3 l nn)] σ fun r σ'=>r = .ret (.val (.bool (a2r l)))/\σ'=σ:=by
 refine an_ Tryz.func57 ?_;refine a2M ?_;refine b4P ?_;refine O1 ?_;refine cC ?_ ?_ <;> intro h1
 ·have hlen:¬ l.length<=16:=sm_ h1;refine I0 ?_;exact ⟨_,j2 rfl tt c4,_,_,rfl,rfl,j7 (by rw [a2r,a1W hlen];rfl)⟩
 ·have hlen:l.length<=16:=sm_ h1;refine a0E ?_;refine b4P ?_;refine Z0 ?_;refine j5 hCC (α:=Nat) (fun i=>[(1,.ptr 0 0),(10,(.list (l.map Va.cv) nn none)),(11,iv l.length),(12,iv i)]) (fun _=>[.box (G3 l nn)]) (fun i=>i<=l.length/\a2r l=evB (prv l i) (l.drop i)) (fun i=>l.length - i) 0 ⟨n_3 _,by rw [a2r,a2d hlen];rfl⟩ tu_ (extra0:=[]) rfl r5 uz_ ?_;intro i ⟨hi,hr⟩;refine C9 ?_;refine cC ?_ ?_ <;> intro h2
  ·have hlt:(i:Int) < l.length:=sp_ h2;obtain ⟨y,hb⟩:=gx_ l i;obtain ⟨p,hp⟩:=b56 (l:=l) (i:=i) om_;have hpp:0 < i->l[i - 1]? = some p:=fun h=>(hp h).2;rw [b9G hb] at hr;refine X9 ?_;refine cY c3w ?_;refine c7H ?_;refine d3D ?_;refine z_9 ?_;refine cW 26 ?_;refine hY c2Z ?_;refine hY V7 ?_;refine hY (j8 rfl c5P ⟨tt,tt⟩ (a1L y.n _) rfl) ?_;refine hY a6L ?_;refine hY j1 ?_;refine c6X ?_;refine T3 rfl rfl tt rfl (fun hg=>j8 rfl Tryz.call104 ⟨hg,tt⟩ (b8u y.v _) rfl) ?_;refine T3 rfl rfl tt rfl a6C ?_;refine hY a1f ?_;refine c3n ?_;refine T3 rfl rfl tt rfl b1a ?_;refine T3 rfl rfl tt rfl a9U ?_;refine d4o ?_;refine d3C ?_;refine d5y ?_;refine a5A rfl rfl (fun h=>h) rfl (fun hk hg=>r8 rfl ⟨hk,hg⟩ ⟨hk,hg⟩ rfl rfl c5G b6M d2V (j3 (hp (by change (_:Bool)=_ at hk;simp at hk hg;omega)).1) rfl) ?_;refine d3W ?_;refine d4Y ?_;refine hY a1f ?_;refine a4L ?_;refine cC ?_ ?_ <;> intro h3
   ·have u3:a1V (prv l i) y=false:=by rw [a1V,Y3 hpp,c3K];rw [h3];rfl
    rw [u3,Bool.false_and] at hr;exact d5l
   ·have u3:a1V (prv l i) y=true:=by rw [a1V,Y3 hpp,c3K];rw [h3];rfl
    rw [u3,b74] at hr;exact a89
  ·exact d5u
def a1b (l:List Va) (s:Str):Option Int:=(l.find? fun v=>decide (v.n=s)).map Va.v
theorem b33 {l:List Va} {v:Va} (h:l[i]? = some v) (s:Str):a1b (l.drop i) s=if v.n=s then some v.v else a1b (l.drop (i+1)) s:=by
 obtain ⟨hlt,rfl⟩:=n_1.1 h;rw [Q4 hlt];unfold a1b;rw [b7p];by_cases hh:l[i].n=s
 ·simp [hh]
 ·simp [hh]
theorem b2Y (l:List Va) (nn:Bool) (s:Str) (hl:l.length<=1000000000) (σ:List b9):b8 CC 112 [.agg (G3 l nn),(sv s)] σ fun r σ'=>r = .ret (.tup [(iv ((a1b l s).getD 0)),(.val (.bool ((a1b l s).isSome)))])/\σ'=σ:=by
 refine an_ Tryz.func112 ?_;refine a65 ?_;refine b18 ?_;refine b4P ?_;refine d3K ?_;intro i ⟨hi,hr⟩;refine C9 ?_;refine cC ?_ ?_ <;> intro h1
 ·have hlt:(i:Int) < l.length:=sp_ h1;obtain ⟨y,hb⟩:=gx_ l i;rw [b33 hb] at hr;refine W7 ?_;refine cY c3w ?_;refine d5B ?_;refine S5 ?_;refine cY c2Z ?_;refine cY V7 ?_;refine b8Y ?_;refine cC ?_ ?_ <;> intro h2
  ·have u2:y.n=s:=sp_ h2;rw [if_pos u2] at hr;refine z_0 ?_;refine d6m ?_;exact d4x
  ·have u2:¬ y.n=s:=sp_ h2;rw [if_neg u2] at hr;exact a89
 ·have hge:l.length<=i:=sm_ h1;rw [S8 hge] at hr;refine U9 ?_;exact d4X
structure Nm where
 k:Int
 p:Str
 o:Str
deriving DecidableEq
abbrev Nm.cells (x:Nm):List CV:=[iv x.k,sv x.p,sv x.o]
def Nm.kc (x:Nm):CV:=.agg x.cells
def Nm.kv (x:Nm):Value:=.agg #[.int .i64 x.k,.string (str x.p),.string (str x.o)]
theorem Nm.pure (x:Nm):r9 x.kc:=o3 ⟨.val _,.val _,.val _,tt⟩
def G7 (k:Int) (p o:Str):Nm:=⟨k,if k=3 then [] else p,o⟩
theorem d9R (x y:Nm):∀ w,(Op.equal 175 x.kv y.kv).run CC.P w = .ok (decide (x=y)) w:=by
 intro w;show (Op.equal _ _ _).run Tryz.prog w=_;simp [Op.equal,Op.maxDepth,go_sem,Nm.kv,a0U];obtain ⟨a,b,c⟩:=x;obtain ⟨a',b',c'⟩:=y;by_cases h1:a=a' <;> by_cases h2:b=b' <;> by_cases h3:c=c' <;> simp [h1,h2,h3]
theorem d9A {M:z6} {w:World} {x:Nm} {v:Value} (h:RV M w x.kc v):v=x.kv:=a7S (l:=[.int .i64 x.k,.string (str x.p),.string (str x.o)]) h
theorem d7n {M:z6} {w:World} (x:Nm):RV M w x.kc x.kv:=by
 refine .agg rfl (fun c hc=>?_) fun i c hc=>?_
 ·simp at hc
  rcases hc with rfl | rfl | rfl <;> rfl
 ·rcases i with _ | _ | _ | i
  ·injection hc with hc;subst hc;exact .val _
  ·injection hc with hc;subst hc;exact .val _
  ·injection hc with hc;subst hc;exact .val _
  ·cases hc
theorem c8d:c55 (α:=Nm) CC.P 175 Nm.kc Nm.kv where
 rv _ _ _ _ h:=d9A h
 rv' _ _ a:=d7n a
 check b a w:=by
  have:∀ n,(Instr.checkKey b (n+2) 175 a.kv).run Tryz.prog w = .ok () w:=fun n=>by simp [Instr.checkKey,Nm.kv,go_sem]
  exact this 9998
 eq a b w:=d9R a b w
 now:=⟨_,c8G,fun a b=>rfl⟩
 bits a:=by
  have:∀ n,Instr.sameBits (n+2) a.kv a.kv=true:=fun n=>by simp [Instr.sameBits,Nm.kv,b5U]
  exact this 9998
theorem d2h:T6 (α:=Nm) CC.P 175 Nm.kc Nm.kv:=c8d.find
theorem b7O (k:Int) (p o:Str) (σ:List b9):b8 CC 133 [iv k,(sv p),(sv o)] σ fun r σ'=>r = .ret (.agg (G7 k p o).cells)/\σ'=σ:=by
 refine an_ Tryz.func133 ?_;refine z_0 ?_;refine cD (x8 rfl c8a rfl p8 ?_);refine z_9 ?_;refine a3F ?_;refine cC ?_ ?_ <;> intro h1
 ·have u1:k=3:=sp_ h1;refine b42 ?_;refine a0M ?_;refine d4d ?_;refine a1n ?_;exact ⟨_,B6 rfl ⟨tt,_,_,_,rfl,rfl,.inr ⟨_,c7A,c8s,nb rfl,rfl⟩⟩,_,_,rfl,rfl,(by rw [G7,if_pos u1];exact .old ((Nm.pure ⟨k,[],o⟩).old))⟩
 ·have u1:¬ k=3:=sp_ h1;refine a6J ?_;refine d4d ?_;refine a1n ?_;exact ⟨_,B6 rfl ⟨tt,_,_,_,rfl,rfl,.inr ⟨_,c7A,c8s,nb rfl,rfl⟩⟩,_,_,rfl,rfl,(by rw [G7,if_neg u1];exact .old ((Nm.pure ⟨k,p,o⟩).old))⟩
structure En where
 p:Str
 o:Str
 k:Int
 pl:Str
 ix:Int
 ct:Int
deriving DecidableEq
variable {k:Nat} {o:Option α}
abbrev En.cells (x:En):List CV:=[sv x.p,sv x.o,iv x.k,sv x.pl,iv x.ix,iv x.ct]
abbrev En.z:En:=⟨[],[],0,[],0,0⟩
theorem En.pure (x:En):r9 (.agg x.cells):=o3 ⟨.val _,.val _,.val _,.val _,.val _,.val _,tt⟩
def vcE (x:En):CV:=.agg x.cells
def vcS (x:Src):CV:=.agg x.cells
abbrev Src.z:Src:=⟨[],[],[]⟩
variable {z:Int × Nat × List Ex}
theorem a7E (x:Src):r9 (vcS x):=o3 x.pure
theorem a52 {z:Value} (d:β) (hd:H9 z=vc d) (o:Option β):(o.map vc).getD (H9 z)=vc (o.getD d):=by cases o <;> simp [hd]
theorem c8Z {kc:α->CV} (hk:∀ a,r9 (kc a)) (hv:∀ b,r9 (vc b)) (n:Nat) (l:List (α × β)):I8 n (.map (gm kc vc l)):=fun x hx=>by
 obtain ⟨y,_,rfl⟩:=K5.1 hx;exact ⟨(hk _).old,(hv _).old⟩
theorem a8K {kc:α->CV} (hk:∀ a,r9 (kc a)) (hv:∀ b,r9 (vc b)) (l:List (α × β)):J4 R (.map (gm kc vc l)) (.map (gm kc vc l)):=.map ⟨rfl,fun i x x' h h'=>by
 rw [h] at h';injection h' with h';subst h'
 obtain ⟨y,_,rfl⟩:=K5.1 (n_0 h);exact ⟨.pure (hk _),.pure (hv _)⟩⟩
abbrev SM:=List (Str × Src)
variable {ms:SM}
abbrev EM:=List (Nm × En)
variable {me:EM}
abbrev smO (m:SM):b9:=.map (gm sv vcS m)
abbrev emO (m:EM):b9:=.map (gm Nm.kc vcE m)
theorem b0x (s:Str):r9 (sv s):=.val _
abbrev wbx (fl:List Fi) (nn va:Bool) (br:List Str) (q1 q2 t:Nat):b9:=.box [.list (fl.map Fi.cv) nn none,.val (.bool va),.map q1,.list (br.map scv) (gnn br.length) (G9 br.length t),.map q2]
abbrev wst (fl:List Fi) (nn va:Bool) (br:List Str) (ms:SM) (me:EM):List b9:=[wbx fl nn va br 1 2 3,smO ms,emO me,u0 br.length]
structure WAt (σ:List b9) (w q1 q2 t:Nat) (fl:List Fi) (nn va:Bool) (br:List Str) (ms:SM) (me:EM):Prop where
 hw:σ[w]? = some (wbx fl nn va br q1 q2 t)
 hs:σ[q1]? = some (smO ms)
 he:σ[q2]? = some (emO me)
 ht:σ[t]? = some (u0 br.length)
 nd:b5v [w,q1,q2,t]
theorem b5k {b c d:Nat} (h:a≠b/\a≠c/\a≠d/\b≠c/\b≠d/\c≠d):b5v [a,b,c,d]:=fun i j k h1 h2=>by
 obtain ⟨h3,h4,h5,h6,h7,h8⟩:=h
 rcases i with _ | _ | _ | _ | i <;> rcases j with _ | _ | _ | _ | j <;> simp at h1 h2 <;> omega
theorem b5G {t p1 p2 u:Nat} (h1:R q1 p1) (h2:R q2 p2) (h3:R t u):J4 R (wbx fl nn va br q1 q2 t) (wbx fl nn va br p1 p2 u) :=
 .box (.cons (.pure (G8 _ _)) (.cons (.pure (.val _)) (.cons (.map h1) (.cons (by
  refine .list rfl (fun i r r' h1 h2=>by rw [h1] at h2;injection h2 with h2;rw [h2]) (fun i j r r' c c' h1 h2 h3 h4=>?_) ?_
  ·rw [h1] at h2;injection h2 with h2;subst h2;rw [h3] at h4;injection h4 with h4;subst h4
   obtain ⟨y,_,rfl⟩:=K5.1 (n_0 h1);have hm:=n_0 h3;simp [scv] at hm;subst hm;exact .pure (.val _)
  ·cases hb:br.length with
   | zero=>exact .inl ⟨rfl,rfl⟩
   | succ m=>exact .inr ⟨t,u,rfl,rfl,h3⟩) (.cons (.map h2) .nil)))))
theorem b5F {t:Nat} (h1:q1 < L) (h2:q2 < L) (h3:t < L):I8 L (wbx fl nn va br q1 q2 t):=o9 ⟨H0 _ _ _,.val _,.map h1,.list (fun i j r c h h'=>by
 obtain ⟨y,_,rfl⟩:=K5.1 (n_0 h);have hm:=n_0 h';simp [scv] at hm;subst hm;exact .val _) (fun k hk=>by
  cases hb:br.length with
  | zero=>rw [hb] at hk;cases hk
  | succ m=>rw [hb] at hk;injection hk with hk;omega),.map h2,tt⟩
theorem a0g (n:Nat) (m:SM):I8 n (smO m):=c8Z b0x a7E n m
theorem a0u (n:Nat) (m:EM):I8 n (emO m):=c8Z Nm.pure En.pure n m
theorem a3n (hτ:τ=wbx fl nn va br 1 2 3::smO ms::emO me::u0 br.length::rest) (hc:D2 4 [0,1,2,3] c c'):F1 4 τ (.ret c) (.ret c') (wst fl nn va br ms me):=by
 subst hτ;exact ⟨[0,1,2,3],rfl,rfl,.ret hc,.inr ⟨_,rfl,.same rfl (b5F de_ de_ de_)⟩,.inr ⟨_,rfl,.same rfl (a0g _ _)⟩,.inr ⟨_,rfl,.same rfl (a0u _ _)⟩,.inr ⟨_,rfl,.same rfl C3⟩,tt⟩
theorem d6l {w t:Nat} (h:WAt σ w q1 q2 t fl nn va br ms me):∀ (i k:Nat) (ob:b9),[w,q1,q2,t][i]? = some k->(wst fl nn va br ms me)[i]? = some ob->∃ ob',[wbx fl nn va br q1 q2 t,smO ms,emO me,u0 br.length][i]? = some ob'/\σ[k]? = some ob'/\J4 (fun i k=>[w,q1,q2,t][i]? = some k) ob ob':=fun i k ob h1 h2=>by
 rcases i with _ | _ | _ | _ | i
 ·injection h1 with h1;injection h2 with h2;subst h1 h2;exact ⟨_,rfl,h.hw,b5G rfl rfl rfl⟩
 ·injection h1 with h1;injection h2 with h2;subst h1 h2;exact ⟨_,rfl,h.hs,a8K b0x a7E _⟩
 ·injection h1 with h1;injection h2 with h2;subst h1 h2;exact ⟨_,rfl,h.he,a8K Nm.pure En.pure _⟩
 ·injection h1 with h1;injection h2 with h2;subst h1 h2;exact ⟨_,rfl,h.ht,a12 _⟩
 ·cases h1
theorem e0C {f:FuncId} {c:α->CV} (hargs:∀ a∈args,r9 a) (hc:∀ a,r9 (c a))
 (h:b8 CC f (.ptr 0 0::args) (wst fl nn va br ms me) fun r τ=>∃ a,F1 4 τ r (.ret (c a)) (wst fl nn va br ms me)/\P a) {σ:List b9} {w q1 q2 t:Nat} (hσ:WAt σ w q1 q2 t fl nn va br ms me):b8 CC f (.ptr w 0::args) σ fun r τ=>∃ a,r = .ret (c a)/\τ=σ/\P a :=
 b1f [w,q1,q2,t] hCC rfl hσ.nd (d6l hσ) (.cons (.ptr rfl) (N0 hargs)) (fun a _=>hc a) (L2 hCC (h.mono fun _ _ ⟨a,h1,h2⟩=>⟨_,_,h1,a,rfl,rfl,h2⟩))
theorem b4e {f:FuncId} (hargs:∀ a∈args,r9 a) (hc:r9 c)
 (h:b8 CC f (.ptr 0 0::args) (wst fl nn va br ms me) fun r τ=>F1 4 τ r (.ret c) (wst fl nn va br ms me)) {σ:List b9} {w q1 q2 t:Nat} (hσ:WAt σ w q1 q2 t fl nn va br ms me):b8 CC f (.ptr w 0::args) σ fun r τ=>r = .ret c/\τ=σ :=
 (e0C (α:=Unit) (c:=fun _=>c) (P:=fun _=>True) hargs (fun _=>hc) (h.mono fun _ _ hh=>⟨(),hh,tt⟩) hσ).mono fun _ _ ⟨_,h1,h2,_⟩=>⟨h1,h2⟩
def a5O (me:EM) (x:En):EM:=X6 me (G7 x.k x.p x.o) (match glk me (G7 x.k x.p x.o) with | some f=>{ f with ct:=f.ct+1} | none=>x)
def a0w (va:Bool) (me:EM) (k:Int) (p o:Str):En:=if va=true then (match glk me (G7 k p o) with | some x=>x | none=>⟨(G7 k p o).p,o,k,[],0,0⟩) else En.z
def B5 (fl:List Fi) (s:Str):Option Str:=(fl.find? fun f=>decide (f.p=s)).map Fi.b
theorem b1N {l:List Fi} {v:Fi} (h:l[i]? = some v) (s:Str):B5 (l.drop i) s=if v.p=s then some v.b else B5 (l.drop (i+1)) s:=by
 obtain ⟨hlt,rfl⟩:=n_1.1 h;rw [Q4 hlt];unfold B5;rw [b7p];by_cases hh:l[i].p=s
 ·simp [hh]
 ·simp [hh]
theorem c3Q (fl:List Fi) (nn va:Bool) (br:List Str) (ms:SM) (me:EM) (x:En) (hct:∀ k e,glk me k=some e->0<=e.ct/\e.ct<=1000000):b8 CC 103 [.ptr 0 0,.agg x.cells] (wst fl nn va br ms me) fun r τ=>F1 4 τ r (.ret (.tup [])) (wst fl nn va br ms (a5O me x)):=by
 refine cO Tryz.func103 ?_;refine a65 ?_;refine S5 ?_;refine b0M ?_;refine cY b0W ?_;refine cY V7 ?_;refine cY b0W ?_;refine cY V7 ?_;refine yc rfl Tryz.call133 C0 (b7O x.k x.p x.o _) ?_;refine d5J ?_;refine z_9 ?_;refine d3U ?_;refine a6N ?_;refine chf rfl (c7 rfl b4A) ?_;refine chf rfl (c7 rfl b34) ?_;refine chf rfl (c7 rfl b4o) ?_;refine chf rfl (c7 rfl d8V) ?_;refine chf rfl W9 ?_;refine chf rfl b32 ?_;refine chf rfl b32 ?_;refine F9 ?_;refine A6 rfl rfl rfl rfl (x8 rfl b3l rfl p8 ?_);refine ⟨⟨E8,a2k,(by exact c7 rfl b4A),(by exact c7 rfl b34),(by exact c7 rfl b4o),(by exact c7 rfl d8V),E8,a9I,a9I,tt⟩,?_⟩;refine d6r ?_;refine c0w ?_;refine z_2 ?_;refine c8 ?_;refine cC ?_ ?_ <;> intro h1
 ·obtain ⟨e,he⟩:∃ e,glk me (G7 x.k x.p x.o)=some e:=b8w.1 h1;have hle:=hct _ _ he;rw [he];have hle2:0<=((some e).getD En.z).ct/\((some e).getD En.z).ct<=1000000:=hle;refine z_0 ?_;refine cY b4l ?_;refine cD (j6 rfl tt tt rfl c4 c41 p8 rfl rfl (nb rfl) ?_);refine c8 (r3 ?_);refine b0M ?_;refine cY a0v ?_;refine cY b2G ?_;refine b9Z ?_;refine cW 6 ?_;refine a5d ?_;refine hY b4A ?_;refine hY b34 ?_;refine hY b4o ?_;refine hY b4l ?_;refine P8 ?_;refine cD (l8 (vc:=vcE) (l:=me) (a:=(G7 x.k x.p x.o)) (b:={ e with ct:=e.ct+1}) d2h (.inl rfl) tt tt trivial rfl rfl rfl c1S rfl ?_);refine c8 ?_;exact ⟨_,j9 (rs:=[]) (cs:=[]) rfl tt (n_2 rfl),(by have ha:a5O me x=X6 me (G7 x.k x.p x.o) { e with ct:=e.ct+1}:=(by rw [a5O,he]);exact a3n (by rw [ha];rfl) (.old (Old.tup (fun i c h=>by cases h))))⟩
 ·have he:glk me (G7 x.k x.p x.o)=none:=sp_ h1;refine c9 ?_;refine cW 6 ?_;refine a5d ?_;refine hY b4A ?_;refine hY b34 ?_;refine hY b4o ?_;refine hY b4l ?_;refine P8 ?_;refine cD (l8 (vc:=vcE) (l:=me) (a:=(G7 x.k x.p x.o)) (b:=x) d2h (.inl rfl) tt tt trivial rfl rfl rfl c1S rfl ?_);refine c8 ?_;exact ⟨_,j9 (rs:=[]) (cs:=[]) rfl tt (n_2 rfl),(by have ha:a5O me x=X6 me (G7 x.k x.p x.o) x:=(by rw [a5O,he]);exact a3n (by rw [ha];rfl) (.old (Old.tup (fun i c h=>by cases h))))⟩
theorem c8C (fl:List Fi) (nn va:Bool) (br:List Str) (ms:SM) (me:EM) (k:Int) (p o:Str):b8 CC 90 [.ptr 0 0,iv k,(sv p),(sv o)] (wst fl nn va br ms me) fun r τ=>F1 4 τ r (.ret (.agg (a0w va me k p o).cells)) (wst fl nn va br ms me):=by
 refine cO Tryz.func90 ?_;refine z_0 ?_;refine cD (x8 rfl b3l rfl p8 ?_);refine z_9 ?_;refine a4P ?_;refine c7k ?_;refine S4 ?_;refine cC ?_ ?_ <;> intro h1
 ·have hv:va=false:=sp_ h1;refine z_0 ?_;refine cY (A9 #[(0,1),(1,1),(2,1),(3,1),(4,1),(5,1)] rfl tt c9k b3l rfl ⟨_,rfl⟩ (fun w=>by kernel_rfl) rfl rfl) ?_;refine c1R ?_;exact ⟨_,B6 rfl c1w,(by rw [a0w,if_neg (by rw [hv];decide)];exact a3n rfl (.old (c:=.agg En.z.cells) (En.pure _).old))⟩
 ·have hv:va=true:=sp_ h1;refine a6J ?_;refine yc rfl Tryz.call133 C0 (b7O k p o _) ?_;refine d5J ?_;refine z_9 ?_;refine d3U ?_;refine a6N ?_;refine chf rfl (c7 rfl b4A) ?_;refine chf rfl (c7 rfl b34) ?_;refine chf rfl (c7 rfl b4o) ?_;refine chf rfl (c7 rfl d9f) ?_;refine chf rfl W9 ?_;refine chf rfl b32 ?_;refine chf rfl b32 ?_;refine F9 ?_;refine A6 rfl rfl rfl rfl (x8 rfl b3l rfl p8 ?_);refine ⟨⟨E8,a2k,(by exact c7 rfl b4A),(by exact c7 rfl b34),(by exact c7 rfl b4o),(by exact c7 rfl d9f),E8,a9I,a9I,tt⟩,?_⟩;refine d6r ?_;refine c0w ?_;refine z_2 ?_;refine c8 ?_;refine cC ?_ ?_ <;> intro h2
  ·obtain ⟨e,he⟩:∃ e,glk me (G7 k p o)=some e:=b8w.1 h2;rw [he];refine z_0 ?_;refine cY b4l ?_;refine c1R ?_;exact ⟨_,B6 rfl c1w,(by rw [a0w,if_pos hv,he];exact a3n rfl (.old (c:=.agg e.cells) (En.pure _).old))⟩
  ·have he:glk me (G7 k p o)=none:=sp_ h2;refine a1d ?_;refine cY (j4 rfl tt rfl c8G rfl t_0 de_) ?_;refine cY V7 ?_;refine a4Q ?_;refine cY d8E ?_;refine c1R ?_;exact ⟨_,B6 rfl c1w,(by rw [a0w,if_pos hv,he];exact a3n rfl (.old (c:=.agg (⟨(G7 k p o).p,o,k,[],0,0⟩:En).cells) (En.pure _).old))⟩
theorem c9Q (fl:List Fi) (nn va:Bool) (br:List Str) (ms:SM) (me:EM) (s:Str) (hfl:fl.length<=1000000):b8 CC 110 [.ptr 0 0,(sv s)] (wst fl nn va br ms me) fun r τ=>F1 4 τ r (.ret (.tup [sv ((B5 fl s).getD []),.val (.bool (B5 fl s).isSome)])) (wst fl nn va br ms me):=by
 refine cO Tryz.func110 ?_;refine z_0 ?_;refine a4W ?_;refine b4x ?_;refine cY (j4 rfl tt rfl b85 rfl b0i de_) ?_;refine a3f ?_;refine j5 hCC (α:=Nat) (fun i=>[(1,(sv s)),(12,(.list (fl.map Fi.cv) nn none)),(13,iv fl.length),(14,iv i)]) (fun _=>(wst fl nn va br ms me)) (fun i=>i<=fl.length/\B5 fl s=B5 (fl.drop i) s) (fun i=>fl.length - i) 0 ⟨n_3 _,rfl⟩ tu_ (extra0:=[]) rfl r5 uz_ ?_;intro i ⟨hi,hr⟩;refine C9 ?_;refine cC ?_ ?_ <;> intro h1
 ·have hlt:(i:Int) < fl.length:=sp_ h1;obtain ⟨y,hb⟩:=gx_ fl i;rw [b1N hb] at hr;refine b4y ?_;refine cC ?_ ?_ <;> intro h2
  ·have u2:y.p=s:=sp_ h2;rw [if_pos u2] at hr;refine z_0 ?_;refine a6n ?_;refine a4m ?_;exact ⟨_,j9 (rs:=[.tmp 4,.tmp 5]) (cs:=[_,_]) rfl S6 (n_2 rfl),(by rw [hr];exact a3n rfl (.old (c:=.tup [sv y.b,.val (.bool true)]) (r9.old (.tup (fun c hc=>by simp at hc;rcases hc with rfl | rfl <;> exact .val _)))))⟩
  ·have u2:¬ y.p=s:=sp_ h2;rw [if_neg u2] at hr;exact a89
 ·have hge:fl.length<=i:=sm_ h1;rw [S8 hge] at hr;refine U9 ?_;refine a3P ?_;exact ⟨_,j9 (rs:=[.tmp 4,.tmp 5]) (cs:=[_,_]) rfl S6 (n_2 rfl),(by rw [hr];exact a3n rfl (.old (c:=.tup [sv [],.val (.bool false)]) (r9.old (.tup (fun c hc=>by simp at hc;rcases hc with rfl | rfl <;> exact .val _)))))⟩
theorem a3Q (l:List Fi) (nn:Bool) (σ:List b9):b8 CC 52 [.agg (A8 l nn)] σ fun r σ'=>r = .ret (iv (B7 l))/\σ'=σ:=by
 refine an_ Tryz.func52 ?_;refine a2M ?_;refine d0Z ?_;refine O1 ?_;refine cC ?_ ?_ <;> intro h1
 ·have hlen:64 < l.length:=sm_ h1;exact d4b
 ·have hlen:¬ 64 < l.length:=sm_ h1;refine a0E ?_;refine a3f ?_;refine j5 hCC (α:=Nat) (fun i=>[(1,.ptr 0 0),(10,(.list (l.map Fi.cv) nn none)),(11,iv l.length),(12,iv i)]) (fun _=>[.box (A8 l nn)]) (fun i=>i<=l.length/\B7 l=rvE (prv l i) (l.drop i)) (fun i=>l.length - i) 0 ⟨n_3 _,by rw [B7,if_neg hlen];rfl⟩ tu_ (extra0:=[]) rfl r5 uz_ ?_;intro i ⟨hi,hr⟩;refine C9 ?_;refine cC ?_ ?_ <;> intro h2
  ·have hlt:(i:Int) < l.length:=sp_ h2;obtain ⟨y,hb⟩:=gx_ l i;obtain ⟨p,hp⟩:=b56 (l:=l) (i:=i) om_;have hpp:0 < i->l[i - 1]? = some p:=fun h=>(hp h).2;rw [b8P hb] at hr;refine X9 ?_;refine c7W ?_;refine cD (x8 rfl a6r rfl p8 ?_);refine d4h ?_;refine T5 ?_;refine a6n ?_;refine yc rfl c34 ⟨tt,tt⟩ (a1K y.p _) ?_;refine S4 ?_;refine cC ?_ ?_ <;> intro h3
   ·have u3:H5 y.p=false:=sp_ h3;have us:J6 (prv l i) y=6:=by rw [J6,if_pos u3]
    rw [us] at hr;exact b6e
   ·have u3:¬ H5 y.p=false:=sp_ h3;refine z_8 ?_;refine A5 ?_;refine cW 14 ?_;refine b7a ?_;refine hY j1 ?_;refine c20 ?_;refine c19 ?_;refine c2R ?_;refine c2C ?_;refine T3 rfl rfl tt rfl b4t ?_;refine hY a4t ?_;refine a4L ?_;refine cC ?_ ?_ <;> intro h4
    ·have u4:((prv l i).any fun g=>decide (y.p=g.p))=true:=by rw [Y3 hpp];exact h4
     have us:J6 (prv l i) y=10:=by rw [J6,if_neg u3,if_pos u4]
     rw [us] at hr;exact b6e
    ·have u4:¬ ((prv l i).any fun g=>decide (y.p=g.p))=true:=by rw [Y3 hpp];simpa using h4
     refine z_8 ?_;refine A5 ?_;refine cW 14 ?_;refine b7a ?_;refine hY j1 ?_;refine c20 ?_;refine c19 ?_;refine c2R ?_;refine c2C ?_;refine c74 ?_;refine a4L ?_;refine cC ?_ ?_ <;> intro h5
     ·have u5:((prv l i).any fun g=>Op.bytesLess y.p g.p)=true:=by rw [Y3 hpp];exact h5
      have us:J6 (prv l i) y=6:=by rw [J6,if_neg u3,if_neg u4,if_pos u5]
      rw [us] at hr;exact b6e
     ·have u5:¬ ((prv l i).any fun g=>Op.bytesLess y.p g.p)=true:=by rw [Y3 hpp];simpa using h5
      refine a1d ?_;refine a6n ?_;refine b1D ?_;refine cC ?_ ?_ <;> intro h6
      ·have u6:16384 < y.b.length:=sm_ h6;have us:J6 (prv l i) y=2:=by rw [J6,if_neg u3,if_neg u4,if_neg u5,if_pos u6]
       rw [us] at hr;exact b6e
      ·have u6:¬ 16384 < y.b.length:=sm_ h6;have us:J6 (prv l i) y=0:=by rw [J6,if_neg u3,if_neg u4,if_neg u5,if_neg u6]
       rw [us,if_pos rfl] at hr;exact a89
  ·exact d6s
theorem c4T (s:Str):((H5 s && decide ((s.length:Int) > 4)) && decide (((s.take s.length).drop (s.length - 4))=[46,115,114,99]))=a4v s:=by
 rw [a4v,c0k,a7O];by_cases h:(s.length:Int) > 4
 ·have h4:([46,115,114,99]:Str).length=4:=rfl;have h5:decide ((4:Nat)<=s.length)=true:=a2d om_;rw [b93,h4,h5,b74]
 ·rw [a1W h];rfl
theorem b3m (s:Str) (hs:s.length<=1000000000) (σ:List b9):b8 CC 24 [(sv s)] σ fun r σ'=>r = .ret (.val (.bool (a4v s)))/\σ'=σ:=by
 refine an_ Tryz.func24 ?_;refine U5 ?_;refine yc rfl c34 ⟨tt,tt⟩ (a1K s _) ?_;refine a3q ?_;refine cG a4r ?_;refine b1h ?_;refine cG a4r ?_;refine cG d1N ?_;refine cG (fun hg=>J7 (a:=(s.length - 4)) rfl hg rfl t_5 ⟨hg,_,_,rfl,by first|omega|(simp at hg;omega),by first|omega|(simp at hg;omega)⟩ rfl (sm_ hg) (sm_ hg)) ?_;refine cG b2t ?_;refine a3j ?_;exact ⟨_,j2 rfl tt c4,_,_,rfl,rfl,j7 (c4T _)⟩
theorem a8Q (l:List Fi) (nn:Bool) (p:Str) (hl:l.length<=1000000) (σ:List b9):b8 CC 87 [.agg (A8 l nn),(sv p)] σ fun r σ'=>r = .ret (.tup [sv ((if B7 l=0 then B5 l p else none).getD []),.val (.bool (if B7 l=0 then B5 l p else none).isSome)])/\σ'=σ:=by
 refine an_ Tryz.func87 ?_;refine a65 ?_;refine b18 ?_;refine cY X3 ?_;refine yc rfl c3B ⟨tt,tt⟩ (a3Q l nn _) ?_;refine O1 ?_;refine cC ?_ ?_ <;> intro h1
 ·have h0:¬ B7 l=0:=sp_ h1;refine z_0 ?_;refine a3P ?_;exact ⟨_,j9 (rs:=[.tmp 4,.tmp 5]) (cs:=[_,_]) rfl S6 (n_2 rfl),_,_,rfl,rfl,(by rw [if_neg h0];exact .tups ⟨.old (.val _),.old (.val _),tt⟩)⟩
 ·have h0:B7 l=0:=sp_ h1;refine a0E ?_;refine a3f ?_;refine j5 hCC (α:=Nat) (fun i=>[(1,(sv p)),(12,(.list (l.map Fi.cv) nn none)),(13,iv l.length),(14,iv i)]) (fun _=>[.box (A8 l nn)]) (fun i=>i<=l.length/\B5 l p=B5 (l.drop i) p) (fun i=>l.length - i) 0 ⟨n_3 _,rfl⟩ tu_ (extra0:=[]) rfl r5 uz_ ?_;intro i ⟨hi,hr⟩;refine C9 ?_;refine cC ?_ ?_ <;> intro h2
  ·have hlt:(i:Int) < l.length:=sp_ h2;obtain ⟨y,hb⟩:=gx_ l i;rw [b1N hb] at hr;refine b4y ?_;refine cC ?_ ?_ <;> intro h3
   ·have u2:y.p=p:=sp_ h3;rw [if_pos u2] at hr;refine z_0 ?_;refine a6n ?_;refine a4m ?_;exact ⟨_,j9 (rs:=[.tmp 4,.tmp 5]) (cs:=[_,_]) rfl S6 (n_2 rfl),_,_,rfl,rfl,(by rw [if_pos h0,hr];exact .tups ⟨.old (.val _),.old (.val _),tt⟩)⟩
   ·have u2:¬ y.p=p:=sp_ h3;rw [if_neg u2] at hr;exact a89
  ·have hge:l.length<=i:=sm_ h2;rw [S8 hge] at hr;refine U9 ?_;refine a3P ?_;exact ⟨_,j9 (rs:=[.tmp 4,.tmp 5]) (cs:=[_,_]) rfl S6 (n_2 rfl),_,_,rfl,rfl,(by rw [if_pos h0,hr];exact .tups ⟨.old (.val _),.old (.val _),tt⟩)⟩
def tkE (e:Int) (m s:Nat):Option Nat:=if e=0 then G9 m s else none
def p7 (e:Int) (m:Nat):b9:=if e=0 then u0 m else .dead
abbrev rbx (T:List Tok) (n:Nat) (at_ e:Int) (ps:List Str) (b:List Ex) (s:Nat):b9:=.box [.list (T.map Tok.cv) true none,iv n,iv at_,iv e,.list (ps.map scv) (gnn ps.length) none,.list (b.map Ex.cv) (gnn b.length) (tkE e b.length s),.list [] false none]
abbrev rst (T:List Tok) (n:Nat) (at_ e:Int) (ps:List Str) (b:List Ex):List b9:=[rbx T n at_ e ps b 1,p7 e b.length]
abbrev a61 (T:List Tok) (n:Nat) (at_ e:Int) (ps:List Str) (b:List Ex):List b9:=[rbx T n at_ e ps b 2,.dead,p7 e b.length]
theorem c5D {b:List Ex} {e:Int} (h:R s s'):Q5 R (.list (b.map Ex.cv) (gnn b.length) (tkE e b.length s)) (.list (b.map Ex.cv) (gnn b.length) (tkE e b.length s')):=by
 refine .list rfl (fun i r r' h1 h2=>by rw [h1] at h2;injection h2 with h2;rw [h2]) (fun i j r r' c c' h1 h2 h3 h4=>?_) ?_
 ·rw [h1] at h2;injection h2 with h2;subst h2;rw [h3] at h4;injection h4 with h4;subst h4
  exact .pure (C4 (f:=Ex.cv) (fun a=>(Ex.pure a).all) _ r (n_0 h1) c (n_0 h3))
 ·unfold tkE
  split
  ·cases hb:b.length with
   | zero=>exact .inl ⟨rfl,rfl⟩
   | succ m=>exact .inr ⟨s,s',rfl,rfl,h⟩
  ·exact .inl ⟨rfl,rfl⟩
theorem a7B {n:Nat} {at_ e:Int} {b:List Ex} (h:R s s'):J4 R (rbx T n at_ e ps b s) (rbx T n at_ e ps b s') :=
 .box (.cons (.pure (a26 _ _)) (.cons (.pure (.val _)) (.cons (.pure (.val _)) (.cons (.pure (.val _)) (.cons (.pure (C2 _ _)) (.cons (c5D h) (.cons (.pure (a0t [] false)) .nil)))))))
theorem a49 (e:Int) (m:Nat):J4 R (p7 e m) (p7 e m):=by
 unfold p7
 split
 ·exact a12 m
 ·exact .dead
def RAt (σ:List b9) (q s:Nat) (T:List Tok) (n:Nat) (at_ e:Int) (ps:List Str) (b:List Ex):Prop:=σ[q]? = some (rbx T n at_ e ps b s)/\σ[s]? = some (p7 e b.length)/\q≠s
theorem a8Z {f:FuncId} {c:α->CV} {g:α->Bool} {n:Nat} {at_ e:Int} {b:List Ex} (hargs:∀ a∈args,r9 a) (hc:∀ a,r9 (c a))
 (h:b8 CC f (.ptr 0 0::args) (rst T n at_ e ps b) fun r τ=>∃ a,F1 2 τ r (.ret (c a)) (if g a=true then a61 T (N a) (A a) (E a) ps (B a) else rst T (N a) (A a) (E a) ps (B a))/\P a) {σ:List b9} {q s:Nat} (hσ:RAt σ q s T n at_ e ps b) :
 b8 CC f (.ptr q 0::args) σ fun r τ=>∃ a,r = .ret (c a)/\τ=(if g a=true then (σ.set q (rbx T (N a) (A a) (E a) ps (B a) σ.length)).set s .dead++[p7 (E a) (B a).length] else (σ.set q (rbx T (N a) (A a) (E a) ps (B a) s)).set s (p7 (E a) (B a).length))/\P a:=by
 obtain ⟨h1,h2,h3⟩:=hσ;have hq:=(n_1.1 h1).1;have hs:=(n_1.1 h2).1;have h':b8 CC f (.ptr 0 0::args) (rst T n at_ e ps b) fun r τ=>∃ a,r = .ret (c a)/\τ=(if g a=true then a61 T (N a) (A a) (E a) ps (B a) else rst T (N a) (A a) (E a) ps (B a))/\P a :=
  L2 hCC (h.mono fun r τ ⟨a,k1,k2⟩=>⟨_,_,k1,a,rfl,rfl,k2⟩)
 refine J5 [q,s] hCC rfl (fun i j k g1 g2=>?_) (fun i k ob g1 g2=>?_) (.cons (.ptr rfl) (N0 hargs)) h' fun r τ hk=>?_
 ·rcases i with _ | _ | i <;> rcases j with _ | _ | j <;> simp at g1 g2 <;> first|rfl|(exfalso;exact h3 (g1.trans g2.symm))|(exfalso;exact h3 (g2.trans g1.symm))
 ·rcases i with _ | _ | i
  ·simp at g1 g2;subst g1 g2;exact ⟨_,h1,a7B rfl⟩
  ·simp at g1 g2;subst g1 g2;exact ⟨_,h2,a49 _ _⟩
  ·simp at g1
 ·obtain ⟨a,rfl,rfl,hp⟩:=hk;refine ⟨by split <;> simp,.ret (c a),(if g a=true then (σ.set q (rbx T (N a) (A a) (E a) ps (B a) σ.length)).set s .dead++[p7 (E a) (B a).length] else (σ.set q (rbx T (N a) (A a) (E a) ps (B a) s)).set s (p7 (E a) (B a).length)),.ret (.pure (hc a)),by split <;> simp,fun k hk hks=>?_,fun i k x ha hx=>?_,a,rfl,rfl,hp⟩
  ·have n1:q≠k:=fun e=>hks a28;have n2:s≠k:=fun e=>hks a28
   split
   ·rw [M5 (sp_ hk)];simp [n1,n2]
   ·simp [n1,n2]
  ·split at hx <;> rename_i hg
   ·rcases ha with ha | ⟨ha,rfl⟩
    ·rcases i with _ | _ | i
     ·simp at ha hx;subst ha hx;refine ⟨rbx T (N a) (A a) (E a) ps (B a) σ.length,?_,a7B (.inr ⟨si_,si_⟩)⟩;rw [if_pos hg,M5 (sp_ hq),a2V h3.symm];simp [hq]
     ·simp at ha hx;subst ha hx;refine ⟨.dead,?_,.dead⟩;rw [if_pos hg,M5 (sp_ hs)];simp [hs]
     ·simp at ha
    ·rcases i with _ | _ | _ | i
     ·simp at ha
     ·simp at ha
     ·simp at hx;subst hx;refine ⟨p7 (E a) (B a).length,?_,a49 _ _⟩;rw [if_pos hg,a0y si_];simp
     ·simp at hx
   ·rcases ha with ha | ⟨ha,rfl⟩
    ·rcases i with _ | _ | i
     ·simp at ha hx;subst ha hx;refine ⟨rbx T (N a) (A a) (E a) ps (B a) s,?_,a7B (.inl rfl)⟩;rw [if_neg hg,a2V h3.symm];simp [hq]
     ·simp at ha hx;subst ha hx;refine ⟨p7 (E a) (B a).length,?_,a49 _ _⟩;rw [if_neg hg];simp [hs]
     ·simp at ha
    ·rcases i with _ | _ | i
     ·simp at ha
     ·simp at ha
     ·simp at hx
def Ok {α:Type} (e:Int) (o:Option α) (e':Int) (y:α):Prop:=(e=0->(o=some y/\e'=0)\/(o=none/\e'≠0))/\(e≠0->e'≠0)
theorem Ok.bind {e:Int} {f:α->Option β} {z:β} (h:Ok e o e1 y) (k:Ok e1 (f y) e2 z):Ok e (o.bind f) e2 z:=by
 refine ⟨fun h0=>?_,fun h0=>k.2 (h.2 h0)⟩
 rcases h.1 h0 with ⟨rfl,h1⟩ | ⟨rfl,h1⟩
 ·exact k.1 h1
 ·exact .inr ⟨rfl,k.2 h1⟩
theorem Ok.none {e:Int} (h:e'≠0):Ok e (Option.none:Option α) e' y:=⟨fun _=>.inr ⟨rfl,h⟩,fun _=>h⟩
theorem Ok.some {e:Int}:Ok e (Option.some y) e y:=⟨fun h=>.inl ⟨rfl,h⟩,fun h=>h⟩
theorem Ok.dead {e:Int} (h:e≠0) (h':e'≠0):Ok e o e' y:=⟨fun h0=>absurd h0 h,fun _=>h'⟩
theorem d2f {b:List Ex} {e:Int} (h:s < L):Old L (.list (b.map Ex.cv) (gnn b.length) (tkE e b.length s)) :=
 .list (fun i j r c h1 h2=>(C4 (f:=Ex.cv) (fun a=>(Ex.pure a).all) _ r (n_0 h1) c (n_0 h2)).old) (fun k hk=>by
  unfold tkE at hk;split at hk
  ·cases hb:b.length with
   | zero=>rw [hb] at hk;cases hk
   | succ m=>rw [hb] at hk;injection hk with hk;omega
  ·cases hk)
theorem b1H (n:Nat) (e:Int) (m:Nat):I8 n (p7 e m):=by
 unfold p7
 split
 ·exact a4X _ _
 ·trivial
theorem b5B {n:Nat} {at_ e:Int} {b:List Ex} (h:s < L):I8 L (rbx T n at_ e ps b s):=o9 ⟨V2 _ _ _,.val _,.val _,.val _,B3 _ _ _,d2f h,N6 _ [] false,tt⟩
theorem a18 {n:Nat} {at_ e:Int} {b:List Ex} (hτ:τ=rbx T n at_ e ps b 1::p7 e b.length::rest) (hc:Old 2 c):F1 2 τ (.ret c) (.ret c) (rst T n at_ e ps b):=by
 subst hτ;exact ⟨[0,1],rfl,rfl,.ret (.old hc),.inr ⟨_,rfl,.same rfl (b5B de_)⟩,.inr ⟨_,rfl,.same rfl Z7⟩,tt⟩
theorem d8f {n:Nat} {at_ e:Int} {b:List Ex} (he:e≠0) (h0:τ[0]? = some (.box [.list (T.map Tok.cv) true none,iv n,iv at_,iv e,.list (ps.map scv) (gnn ps.length) none,.list (b.map Ex.cv) (gnn b.length) tok,.list [] false none])) (hc:Old 2 c):F1 2 τ (.ret c) (.ret c) (rst T n at_ e ps b):=by
 have ht:∀ m s,tkE e m s=none:=fun m s=>if_neg he;have hp:p7 e b.length = .dead:=if_neg he;refine ⟨[0,1],rfl,rfl,.ret (.old hc),.inr ⟨_,h0,.box ⟨.old a2A,.old (.val _),.old (.val _),.old (.val _),.old a0G,.list (fun r hr c hc=>(C4 (f:=Ex.cv) (fun a=>(Ex.pure a).all) _ r hr c hc).old) (fun j hj=>by rw [ht] at hj;cases hj),.old a6R,tt⟩⟩,.inl hp,tt⟩
theorem d2g {f:FuncId} {n:Nat} {at_ e:Int} {b:List Ex} (hargs:∀ a∈args,r9 a) (hc:r9 c)
 (h:b8 CC f (.ptr 0 0::args) (rst T n at_ e ps b) fun r τ=>F1 2 τ r (.ret c) (rst T n at_ e ps b)) {σ:List b9} {q s:Nat} (hσ:RAt σ q s T n at_ e ps b):b8 CC f (.ptr q 0::args) σ fun r τ=>r = .ret c/\τ=σ:=by
 refine (a8Z (α:=Unit) (c:=fun _=>c) (N:=fun _=>n) (A:=fun _=>at_) (E:=fun _=>e) (B:=fun _=>b) (g:=fun _=>false) (P:=fun _=>True) hargs (fun _=>hc) (h.mono fun r τ hh=>⟨(),hh,tt⟩) hσ).mono fun r τ hh=>?_;obtain ⟨_,h1,h2,_⟩:=hh;refine ⟨h1,h2.trans ?_⟩;show (σ.set q _).set s _=σ;rw [a2e hσ.1,a2e hσ.2.1]
abbrev rS0 (σ:List b9) (q s:Nat) (T:List Tok) (n:Nat) (at_ e:Int) (ps:List Str) (b:List Ex):List b9:=(σ.set q (rbx T n at_ e ps b s)).set s (p7 e b.length)
theorem Z3 {f:FuncId} {c:α->CV} {n:Nat} {at_ e:Int} {b:List Ex} (hargs:∀ a∈args,r9 a) (hc:∀ a,r9 (c a))
 (h:b8 CC f (.ptr 0 0::args) (rst T n at_ e ps b) fun r τ=>∃ a,F1 2 τ r (.ret (c a)) (rst T (N a) (A a) (E a) ps b)/\P a) {σ:List b9} {q s:Nat} (hσ:RAt σ q s T n at_ e ps b) :
 b8 CC f (.ptr q 0::args) σ fun r τ=>∃ a,r = .ret (c a)/\τ=rS0 σ q s T (N a) (A a) (E a) ps b/\P a :=
 a8Z (c:=c) (N:=N) (A:=A) (E:=E) (B:=fun _=>b) (g:=fun _=>false) (P:=P) hargs hc (h.mono fun _ _ ⟨a,h1,h2⟩=>⟨a,h1,h2⟩) hσ
theorem d1F (T:List Tok) (n:Nat) (at_ e:Int) (ps:List Str) (b:List Ex) (_:T.length<=1000000) (hn:n < T.length):b8 CC 183 [.ptr 0 0] (rst T n at_ e ps b) (fun r τ=>F1 2 τ r (.ret (.agg (tk T n).cells)) (rst T n at_ e ps b)):=by
 refine cO Tryz.func183 ?_;refine b0N ?_;refine z_9 ?_;refine b4Z ?_;refine hY (j4 rfl tt rfl b83 rfl Tryz.sizeOf191 de_) ?_;refine hY (o5 rfl tt rfl Tryz.isAgg191 rfl rfl) ?_;refine a5d ?_;refine hY b4X ?_;refine hY a0H ?_;refine d4n ?_;refine d5s ?_;refine a1n ?_;exact ⟨_,B6 rfl b3W,a18 rfl (a50 _ _)⟩
theorem Y9 {n:Nat} {at_ e:Int} {b:List Ex} (hT:T.length<=1000000) (hn:n < T.length) (hσ:RAt σ q s T n at_ e ps b):b8 CC 183 [.ptr q 0] σ fun r τ=>r = .ret (.agg (tk T n).cells)/\τ=σ:=d2g (fun _ h=>by cases h) (a0r _) (d1F T n at_ e ps b hT hn) hσ
theorem d0A (T:List Tok) (n:Nat) (at_ e:Int) (ps:List Str) (b:List Ex) (x y:Int) (hy:y≠0):b8 CC 182 [.ptr 0 0,iv x,iv y] (rst T n at_ e ps b) (fun r τ=>∃ a:Int × Int,F1 2 τ r (.ret (.tup [])) (rst T n a.1 a.2 ps b)/\a.2≠0):=by
 refine cO Tryz.func182 ?_;refine a6K ?_;refine O1 ?_;refine cC ?_ ?_ <;> intro h1
 ·have he:e=0:=sp_ h1;refine X0 ?_;refine a4Q ?_;refine cY K2 ?_;refine cY b4X ?_;refine cD (j6 rfl tt tt rfl c4 t_2 (.inl rfl) rfl rfl (nb rfl) ?_);refine cY K2 ?_;refine cY b7H ?_;refine d5z ?_;exact ⟨_,j9 (rs:=[]) (cs:=[]) rfl tt (n_2 rfl),(by exact ⟨(x,y),d8f hy rfl (.tup fun i c h=>by simp at h),hy⟩)⟩
 ·have he:e≠0:=sp_ h1;refine c9 ?_;exact ⟨_,j9 (rs:=[]) (cs:=[]) rfl tt (n_2 rfl),(by exact ⟨(at_,e),a18 rfl (.tup fun i c h=>by simp at h),he⟩)⟩
theorem a2G {n:Nat} {at_ e:Int} {b:List Ex} (x y:Int) (hy:y≠0) (hσ:RAt σ q s T n at_ e ps b):b8 CC 182 [.ptr q 0,iv x,iv y] σ fun r τ=>∃ a:Int × Int,r = .ret (.tup [])/\τ=rS0 σ q s T n a.1 a.2 ps b/\a.2≠0 :=
 Z3 (c:=fun _:Int × Int=>.tup []) (N:=fun _=>n) (A:=fun a=>a.1) (E:=fun a=>a.2) (fun _ h=>by simp at h;rcases h with rfl | rfl <;> exact .val _) (fun _=>B9 trivial) (d0A T n at_ e ps b x y hy) hσ
def sgB (T:List Tok) (n:Nat) (e:Int) (k:Int) (u:Str):Bool:=decide (e=0) && isT (tk T n) k u
theorem T8 {n:Nat} {e k:Int} (h:sgB T n e k u=true):e=0/\isT (tk T n) k u=true:=by
 simpa [sgB] using h
theorem b0G {n:Nat} {e k:Int} (h:sgB T n e k u=true):Ok e (pIs T n k u) e (n+1):=by
 obtain ⟨h1,h2⟩:=T8 h;rw [pIs,if_pos h2];exact .some
theorem c1J {n:Nat} {e k:Int} {y:Nat} (h:sgB T n e k u=false) (h2:e2≠0):Ok e (pIs T n k u) e2 y:=by
 by_cases he:e=0
 ·have:isT (tk T n) k u=false:=by simpa [sgB,he] using h
  rw [pIs,if_neg (by rw [this];decide)];exact .none h2
 ·exact .dead he h2
theorem c77 (T:List Tok) (n:Nat) (at_ e:Int) (ps:List Str) (b:List Ex) (hT:T.length<=1000000) (hn:n < T.length) (_:a00 T) (u:Str):b8 CC 230 [.ptr 0 0,(sv u)] (rst T n at_ e ps b) (fun r τ=>F1 2 τ r (.ret (.val (.bool (sgB T n e 4 u)))) (rst T (if (sgB T n e 4 u)=true then n+1 else n) at_ e ps b)):=by
 refine cO Tryz.func230 ?_;refine Q7 ?_;refine cY K2 ?_;refine d1L ?_;refine a1h ?_;refine cG c25 ?_;refine cG c3s ?_;refine b4b ?_;refine cG c25 ?_;refine cG c6T ?_;refine b9I ?_;refine a4M ?_;refine cC ?_ ?_ <;> intro h1
 ·have hv:(sgB T n e 4 u)=true:=by simpa [sgB,isT,c0k] using h1
  rw [hv,if_pos rfl];refine a4P ?_;refine b4K ?_;exact c1u
 ·have hv:(sgB T n e 4 u)=false:=by simpa [sgB,isT,c0k] using h1
  rw [hv,if_neg de_];refine c9 ?_;exact c1u
theorem V4 {n:Nat} {at_ e:Int} {b:List Ex} (hT:T.length<=1000000) (hn:n < T.length) (hW:a00 T) (u:Str) (hσ:RAt σ q s T n at_ e ps b):b8 CC 230 [.ptr q 0,(sv u)] σ fun r τ=>∃ a:Bool × Nat,r = .ret (.val (.bool a.1))/\τ=rS0 σ q s T a.2 at_ e ps b/\(a.1=(sgB T n e 4 u)/\(a.1=true->a.2=n+1)/\(a.1=false->a.2=n)/\a.2 < T.length) :=
 Z3 (c:=fun a:Bool × Nat=>.val (.bool a.1)) (N:=fun a=>a.2) (A:=fun _=>at_) (E:=fun _=>e) (fun _ h=>by simp at h;subst h;exact .val _) (fun _=>.val _) ((c77 T n at_ e ps b hT hn hW u).mono fun r τ h=>⟨((sgB T n e 4 u),if (sgB T n e 4 u)=true then n+1 else n),h,rfl,fun h=>if_pos h,fun h=>if_neg (by dsimp only at h;rw [h];decide),by
  dsimp only
  split
  ·rename_i h2;exact hW n hn (a7j (T8 h2).2 de_)
  ·exact hn⟩) hσ
theorem c8Y (T:List Tok) (n:Nat) (at_ e:Int) (ps:List Str) (b:List Ex) (hT:T.length<=1000000) (hn:n < T.length) (_:a00 T) (u:Str):b8 CC 181 [.ptr 0 0,(sv u)] (rst T n at_ e ps b) (fun r τ=>F1 2 τ r (.ret (.val (.bool (sgB T n e 1 u)))) (rst T (if (sgB T n e 1 u)=true then n+1 else n) at_ e ps b)):=by
 refine cO Tryz.func181 ?_;refine Q7 ?_;refine cY K2 ?_;refine d1L ?_;refine a1h ?_;refine cG c25 ?_;refine cG c3s ?_;refine b4b ?_;refine cG c25 ?_;refine cG c6T ?_;refine b9I ?_;refine a4M ?_;refine cC ?_ ?_ <;> intro h1
 ·have hv:(sgB T n e 1 u)=true:=by simpa [sgB,isT,c0k] using h1
  rw [hv,if_pos rfl];refine a4P ?_;refine b4K ?_;exact c1u
 ·have hv:(sgB T n e 1 u)=false:=by simpa [sgB,isT,c0k] using h1
  rw [hv,if_neg de_];refine c9 ?_;exact c1u
theorem Y1 {n:Nat} {at_ e:Int} {b:List Ex} (hT:T.length<=1000000) (hn:n < T.length) (hW:a00 T) (u:Str) (hσ:RAt σ q s T n at_ e ps b):b8 CC 181 [.ptr q 0,(sv u)] σ fun r τ=>∃ a:Bool × Nat,r = .ret (.val (.bool a.1))/\τ=rS0 σ q s T a.2 at_ e ps b/\(a.1=(sgB T n e 1 u)/\(a.1=true->a.2=n+1)/\(a.1=false->a.2=n)/\a.2 < T.length) :=
 Z3 (c:=fun a:Bool × Nat=>.val (.bool a.1)) (N:=fun a=>a.2) (A:=fun _=>at_) (E:=fun _=>e) (fun _ h=>by simp at h;subst h;exact .val _) (fun _=>.val _) ((c8Y T n at_ e ps b hT hn hW u).mono fun r τ h=>⟨((sgB T n e 1 u),if (sgB T n e 1 u)=true then n+1 else n),h,rfl,fun h=>if_pos h,fun h=>if_neg (by dsimp only at h;rw [h];decide),by
  dsimp only
  split
  ·rename_i h2;exact hW n hn (a7j (T8 h2).2 de_)
  ·exact hn⟩) hσ
theorem c7B (T:List Tok) (n:Nat) (at_ e:Int) (ps:List Str) (b:List Ex) (hT:T.length<=1000000) (hn:n < T.length) (hW:a00 T) (u:Str):b8 CC 185 [.ptr 0 0,(sv u)] (rst T n at_ e ps b) (fun r τ=>∃ a:Nat × Int × Int,F1 2 τ r (.ret (.tup [])) (rst T a.1 a.2.1 a.2.2 ps b)/\(Ok e (pIs T n 4 u) a.2.2 a.1/\a.1 < T.length)):=by
 refine cO Tryz.func185 ?_;refine z_5 ?_;refine de rfl a8E i7 (V4 hT hn hW u ⟨rfl,rfl,de_⟩) rfl ?_;rintro ⟨v,m⟩ ⟨hv,hm1,hm2,hm⟩;dsimp only at hv hm1 hm2 hm ⊢;refine c5 [rbx T m at_ e ps b 1,p7 e b.length] rfl ?_;refine S4 ?_;refine cC ?_ ?_ <;> intro h1
 ·have hvf:v=false:=sp_ h1;rw [hvf] at hv;refine X0 ?_;refine ye rfl a7k ⟨tt,tt⟩ (Y9 hT hm ⟨rfl,rfl,de_⟩) rfl ?_;refine d4R ?_;rintro ⟨x,y⟩ hy;dsimp only at hy ⊢;refine c5 [rbx T m x y ps b 1,p7 y b.length] rfl ?_;refine c8 ?_;exact ⟨_,j9 (rs:=[]) (cs:=[]) rfl tt (n_2 rfl),(by exact ⟨(m,x,y),a18 rfl (.tup fun i c h=>by simp at h),c1J hv.symm hy,hm⟩)⟩
 ·have hvt:v=true:=sp_ h1;rw [hvt] at hv;refine c9 ?_;exact ⟨_,j9 (rs:=[]) (cs:=[]) rfl tt (n_2 rfl),(by exact ⟨(m,at_,e),a18 rfl (.tup fun i c h=>by simp at h),by dsimp only;rw [hm1 hvt];exact b0G hv.symm,hm⟩)⟩
theorem L8 {n:Nat} {at_ e:Int} {b:List Ex} (hT:T.length<=1000000) (hn:n < T.length) (hW:a00 T) (u:Str) (hσ:RAt σ q s T n at_ e ps b):b8 CC 185 [.ptr q 0,(sv u)] σ fun r τ=>∃ a:Nat × Int × Int,r = .ret (.tup [])/\τ=rS0 σ q s T a.1 a.2.1 a.2.2 ps b/\(Ok e (pIs T n 4 u) a.2.2 a.1/\a.1 < T.length) :=
 Z3 (c:=fun _:Nat × Int × Int=>.tup []) (N:=fun a=>a.1) (A:=fun a=>a.2.1) (E:=fun a=>a.2.2) (fun _ h=>by simp at h;subst h;exact .val _) (fun _=>B9 trivial) (c7B T n at_ e ps b hT hn hW u) hσ
abbrev a8a:List Str:=[[112,97,99,107,97,103,101],[105,109,112,111,114,116],[102,117,110,99],[116,101,115,116],[103,101,110],[105,102],[116,104,101,110],[101,108,115,101],[114,101,97,100],[115,105,122,101],[104,97,115],[101,110,118],[102,108,105,112]]
theorem b7X {l:List Str} {w:Str} (h:l[i]? = some w) (hd:decide (u∈l)=decide (u∈l.drop i)) (hne:¬ w=u):decide (u∈l)=decide (u∈l.drop (i+1)):=by
 obtain ⟨hlt,rfl⟩:=n_1.1 h;rw [hd,Q4 hlt];have:¬ u=l[i]:=fun e=>hne e.symm;exact decide_eq_decide.2 ⟨fun h=>(R5.1 h).resolve_left this,b5h _⟩
theorem a7x (l:List Str) (nn:Bool) (u:Str) (hl:l.length<=1000000) (σ:List b9):b8 CC 186 [(.list (l.map scv) nn none),(sv u)] σ fun r σ'=>r = .ret (.val (.bool (decide (u∈l))))/\σ'=σ:=by
 refine an_ Tryz.func186 ?_;refine Q7 ?_;refine d3v ?_;intro i ⟨hi,hd⟩;refine C9 ?_;refine cC ?_ ?_ <;> intro h1
 ·have hlt:i < l.length:=sm_ h1;obtain ⟨w,hb⟩:∃ w,l[i]? = some w:=⟨l[i]'hlt,si_⟩;refine a6S ?_;refine a7L ?_;refine b9b ?_;refine cC ?_ ?_ <;> intro h2
  ·have hw:w=u:=sp_ h2;exact d5a
  ·have hw:¬ w=u:=sp_ h2;exact d6B
 ·have hge:l.length<=i:=sm_ h1;refine a1w ?_;exact ⟨_,j2 rfl tt c4,_,_,rfl,rfl,j7 (show false=decide (u∈l) by rw [hd,S8 hge];simp)⟩
theorem a6U (u:Str) (σ:List b9):b8 CC 229 [(sv u)] σ fun r σ'=>r = .ret (.val (.bool (P5 u)))/\σ'=σ:=by
 refine an_ Tryz.func229 ?_;refine a9y ?_;refine cY (A2 (a8a.map scv) rfl ⟨rfl,rfl,rfl,rfl,rfl,rfl,rfl,rfl,rfl,rfl,rfl,rfl,rfl,tt⟩ t_1 t_0 t_3 rfl rfl rfl rfl rfl rfl rfl rfl rfl) ?_;refine a1i ?_;refine j5 hCC (α:=Nat) (fun i=>[(0,(sv u)),(5,(.list (a8a.map scv) true none)),(6,iv a8a.length),(7,iv i)]) (fun _=>[]) (fun i=>i<=a8a.length/\decide (u∈a8a)=decide (u∈a8a.drop i)) (fun i=>a8a.length - i) 0 ⟨n_3 _,rfl⟩ tu_ (extra0:=[]) rfl r5 uz_ ?_;intro i ⟨hi,hd⟩;have hL:a8a.length=13:=rfl;refine C9 ?_;refine cC ?_ ?_ <;> intro h1
 ·have hlt:i < a8a.length:=sm_ h1;obtain ⟨w,hb⟩:∃ w,a8a[i]? = some w:=⟨a8a[i]'hlt,a2b hlt⟩;refine a6S ?_;refine a7L ?_;refine b9b ?_;refine cC ?_ ?_ <;> intro h2
  ·have hw:u=w:=sp_ h2;refine I0 ?_;exact ⟨_,j2 rfl tt c4,_,_,rfl,rfl,j7 (show true=decide (u∈a8a) from (a2d (hw ▸ n_0 hb)).symm)⟩
  ·have hw:¬ u=w:=sp_ h2;refine a2l ?_;exact ⟨(i+1),_,⟨om_,om_,b7X hb hd (fun e=>hw e.symm)⟩,tu_,rfl⟩
 ·have hge:a8a.length<=i:=sm_ h1;refine a1w ?_;exact ⟨_,j2 rfl tt c4,_,_,rfl,rfl,j7 (show false=decide (u∈a8a) by rw [hd,S8 hge];simp)⟩
def a1p (T:List Tok) (path:Bool) (n:Nat):Option (Tok × Nat):=(F8 T n 3).bind fun x=>if (if path=true then H5 x.1.t else C8 x.1.t)=true then some x else none
theorem a3W (T:List Tok) (n:Nat):a1p T true n=a0L T n:=by simp [a1p,a0L]
theorem c4f {n:Nat} {e:Int} {y:Str × Nat} (h:e≠0\/(tk T n).k≠1\/P5 (tk T n).t=true) (h2:e2≠0):Ok e ((J1 T n).map fun x=>(x.1.t,x.2)) e2 y:=by
 by_cases he:e=0
 ·have hn:J1 T n=none:=by
   unfold J1 F8
   split
   ·rename_i hk
    rcases h with h | h | h
    ·exact absurd he h
    ·exact absurd hk h
    ·simp [h]
   ·rfl
  rw [hn];exact .none h2
 ·exact .dead he h2
theorem c5n {n:Nat} {e:Int} (h:(tk T n).k=1/\P5 (tk T n).t=false):Ok e ((J1 T n).map fun x=>(x.1.t,x.2)) e ((tk T n).t,n+1):=by
 have hn:J1 T n=some (tk T n,n+1):=by
  unfold J1 F8;rw [if_pos h.1];simp [h.2]
 rw [hn];exact .some
theorem c50 (T:List Tok) (n:Nat) (at_ e:Int) (ps:List Str) (b:List Ex) (hT:T.length<=1000000) (hn:n < T.length) (hW:a00 T):b8 CC 184 [.ptr 0 0] (rst T n at_ e ps b) (fun r τ=>∃ a:Str × Nat × Int × Int,F1 2 τ r (.ret (sv a.1)) (rst T a.2.1 a.2.2.1 a.2.2.2 ps b)/\(Ok e ((J1 T n).map fun x=>(x.1.t,x.2)) a.2.2.2 (a.1,a.2.1)/\a.2.1 < T.length)):=by
 refine cO Tryz.func184 ?_;refine b6U ?_;refine a62 ?_;refine z_9 ?_;refine a6K ?_;refine a6s ?_;refine cG c52 ?_;refine cG b4L ?_;refine a4D ?_;refine cY j1 ?_;refine cG b6k ?_;refine cG a2E ?_;refine cG (fun hg=>j8 rfl Tryz.call229 ⟨hg,tt⟩ (a6U _ _) rfl) ?_;refine a8t ?_;refine cC ?_ ?_ <;> intro h1
 ·have hv:e≠0\/(tk T n).k≠1\/P5 (tk T n).t=true:=by simpa [or_assoc] using h1
  refine z_2 ?_;refine c8k ?_;rintro ⟨x,y⟩ hy;dsimp only at hy ⊢;refine c6Q ?_;refine I0 ?_;exact ⟨_,j2 rfl tt c4,(by exact ⟨([],n,x,y),a18 rfl (.val _),c4f hv hy,hn⟩)⟩
 ·have hv:e=0/\(tk T n).k=1/\P5 (tk T n).t=false:=by simpa [and_assoc] using h1
  refine a6Q ?_;refine b4K ?_;refine z_0 ?_;refine a6Z ?_;refine z_7 ?_;exact ⟨_,j2 rfl tt c4,(by exact ⟨((tk T n).t,n+1,at_,e),a18 rfl (.val _),c5n hv.2,hW n hn (by rw [hv.2.1];decide)⟩)⟩
theorem a7G {n:Nat} {at_ e:Int} {b:List Ex} (hT:T.length<=1000000) (hn:n < T.length) (hW:a00 T) (hσ:RAt σ q s T n at_ e ps b):b8 CC 184 [.ptr q 0] σ fun r τ=>∃ a:Str × Nat × Int × Int,r = .ret (sv a.1)/\τ=rS0 σ q s T a.2.1 a.2.2.1 a.2.2.2 ps b/\(Ok e ((J1 T n).map fun x=>(x.1.t,x.2)) a.2.2.2 (a.1,a.2.1)/\a.2.1 < T.length) :=
 Z3 (c:=fun a:Str × Nat × Int × Int=>(sv a.1)) (N:=fun a=>a.2.1) (A:=fun a=>a.2.2.1) (E:=fun a=>a.2.2.2) (fun _ h=>by simp at h;try (subst h;exact .val _)) (fun _=>.val _) (c50 T n at_ e ps b hT hn hW) hσ
theorem c4P {n:Nat} {e:Int} {path:Bool} {y:Str × Nat} (h:e≠0\/(tk T n).k≠3\/(if path=true then H5 (tk T n).t else C8 (tk T n).t)=false) (h2:e2≠0):Ok e ((a1p T path n).map fun x=>(x.1.t,x.2)) e2 y:=by
 by_cases he:e=0
 ·have hn:a1p T path n=none:=by
   unfold a1p F8
   split
   ·rename_i hk
    rcases h with h | h | h
    ·exact absurd he h
    ·exact absurd hk h
    ·cases path <;> simp_all
   ·rfl
  rw [hn];exact .none h2
 ·exact .dead he h2
theorem c44 {n:Nat} {e:Int} {path:Bool} (h:(tk T n).k=3/\(if path=true then H5 (tk T n).t else C8 (tk T n).t)=true):Ok e ((a1p T path n).map fun x=>(x.1.t,x.2)) e ((tk T n).t,n+1):=by
 have hn:a1p T path n=some (tk T n,n+1):=by
  unfold a1p F8;rw [if_pos h.1];have h2:=h.2;cases path <;> simp_all
 rw [hn];exact .some
theorem d0T (T:List Tok) (n:Nat) (at_ e:Int) (ps:List Str) (b:List Ex) (hT:T.length<=1000000) (hn:n < T.length) (hW:a00 T) (path:Bool) (hL:c73 T):b8 CC 231 [.ptr 0 0,(.val (.bool path))] (rst T n at_ e ps b) (fun r τ=>∃ a:Str × Nat × Int × Int,F1 2 τ r (.ret (sv a.1)) (rst T a.2.1 a.2.2.1 a.2.2.2 ps b)/\(Ok e ((a1p T path n).map fun x=>(x.1.t,x.2)) a.2.2.2 (a.1,a.2.1)/\a.2.1 < T.length)):=by
 refine cO Tryz.func231 ?_;refine b6U ?_;refine a62 ?_;refine z_9 ?_;refine a6K ?_;refine a6s ?_;refine cG c52 ?_;refine cG b4L ?_;refine a4D ?_;refine a3q ?_;refine cG a9U ?_;refine d5X ?_;refine U2 rfl rfl (fun h=>h) rfl rfl (fun hk hg=>j8 rfl c34 ⟨⟨hk,hg⟩,tt⟩ (a1K _ _) rfl) ?_;refine c2d ?_;refine cY a1f ?_;refine a3q ?_;refine cG a6C ?_;refine cG a9U ?_;refine d5X ?_;refine U2 rfl rfl (fun h=>h) rfl rfl (fun hk hg=>j8 rfl c5Q ⟨⟨hk,hg⟩,tt⟩ (a1M _ _) rfl) ?_;refine c2d ?_;refine a8t ?_;refine cC ?_ ?_ <;> intro h1
 ·have hv:e≠0\/(tk T n).k≠3\/(if path=true then H5 (tk T n).t else C8 (tk T n).t)=false:=by
   cases path <;> simpa [or_assoc] using h1
  refine z_2 ?_;refine c8k ?_;rintro ⟨x,y⟩ hy;dsimp only at hy ⊢;refine c6Q ?_;refine I0 ?_;exact ⟨_,j2 rfl tt c4,(by exact ⟨([],n,x,y),a18 rfl (.val _),c4P hv hy,hn⟩)⟩
 ·have hv:e=0/\(tk T n).k=3/\(if path=true then H5 (tk T n).t else C8 (tk T n).t)=true:=by
   cases path <;> simpa [and_assoc] using h1
  refine a6Q ?_;refine b4K ?_;refine z_0 ?_;refine a6Z ?_;refine z_7 ?_;exact ⟨_,j2 rfl tt c4,(by exact ⟨((tk T n).t,n+1,at_,e),a18 rfl (.val _),c44 hv.2,hW n hn (by rw [hv.2.1];decide)⟩)⟩
theorem b0D {n:Nat} {at_ e:Int} {b:List Ex} (hT:T.length<=1000000) (hn:n < T.length) (hW:a00 T) (path:Bool) (hL:c73 T) (hσ:RAt σ q s T n at_ e ps b):b8 CC 231 [.ptr q 0,(.val (.bool path))] σ fun r τ=>∃ a:Str × Nat × Int × Int,r = .ret (sv a.1)/\τ=rS0 σ q s T a.2.1 a.2.2.1 a.2.2.2 ps b/\(Ok e ((a1p T path n).map fun x=>(x.1.t,x.2)) a.2.2.2 (a.1,a.2.1)/\a.2.1 < T.length) :=
 Z3 (c:=fun a:Str × Nat × Int × Int=>(sv a.1)) (N:=fun a=>a.2.1) (A:=fun a=>a.2.2.1) (E:=fun a=>a.2.2.2) (fun _ h=>by simp at h;try (subst h;exact .val _)) (fun _=>.val _) (d0T T n at_ e ps b hT hn hW path hL) hσ
theorem b9e {n:Nat} {e:Int} {y:Int × Nat} (h:e≠0\/(tk T n).k≠2) (h2:e2≠0):Ok e ((F8 T n 2).map fun x=>(x.1.n,x.2)) e2 y:=by
 by_cases he:e=0
 ·have hn:F8 T n 2=none:=by
   unfold F8
   split
   ·rename_i hk
    rcases h with h | h
    ·exact absurd he h
    ·exact absurd hk h
   ·rfl
  rw [hn];exact .none h2
 ·exact .dead he h2
theorem b77 {n:Nat} {e:Int} (h:(tk T n).k=2):Ok e ((F8 T n 2).map fun x=>(x.1.n,x.2)) e ((tk T n).n,n+1):=by
 have hn:F8 T n 2=some (tk T n,n+1):=by
  unfold F8;rw [if_pos h];rfl
 rw [hn];exact .some
theorem c1e (T:List Tok) (n:Nat) (at_ e:Int) (ps:List Str) (b:List Ex) (hT:T.length<=1000000) (hn:n < T.length) (hW:a00 T) (hN:∀ i,0<=(tk T i).n/\(tk T i).n<=9007199254740993):b8 CC 322 [.ptr 0 0] (rst T n at_ e ps b) (fun r τ=>∃ a:Int × Nat × Int × Int,F1 2 τ r (.ret (iv a.1)) (rst T a.2.1 a.2.2.1 a.2.2.2 ps b)/\(Ok e ((F8 T n 2).map fun x=>(x.1.n,x.2)) a.2.2.2 (a.1,a.2.1)/\a.2.1 < T.length/\-9007199254740993<=a.1/\a.1<=9007199254740993)):=by
 refine cO Tryz.func322 ?_;refine b6U ?_;refine a62 ?_;refine z_9 ?_;refine a6K ?_;refine a6s ?_;refine cG c52 ?_;refine cG b4L ?_;refine a7w ?_;refine cC ?_ ?_ <;> intro h1
 ·have hv:e≠0\/(tk T n).k≠2:=sp_ h1;refine z_2 ?_;refine c8k ?_;rintro ⟨x,y⟩ hy;dsimp only at hy ⊢;refine c6Q ?_;refine I0 ?_;exact ⟨_,j2 rfl tt c4,(by exact ⟨(0,n,x,y),a18 rfl (.val _),b9e hv hy,hn,do_,do_⟩)⟩
 ·have hv:e=0/\(tk T n).k=2:=sp_ h1;refine a6Q ?_;refine b4K ?_;refine z_0 ?_;refine a2z ?_;refine z_7 ?_;exact ⟨_,j2 rfl tt c4,(by exact ⟨((tk T n).n,n+1,at_,e),a18 rfl (.val _),b77 hv.2,hW n hn (by rw [hv.2];decide),by have:=hN n;dsimp only;omega,by have:=hN n;dsimp only;omega⟩)⟩
theorem a9g {n:Nat} {at_ e:Int} {b:List Ex} (hT:T.length<=1000000) (hn:n < T.length) (hW:a00 T) (hN:∀ i,0<=(tk T i).n/\(tk T i).n<=9007199254740993) (hσ:RAt σ q s T n at_ e ps b):b8 CC 322 [.ptr q 0] σ fun r τ=>∃ a:Int × Nat × Int × Int,r = .ret (iv a.1)/\τ=rS0 σ q s T a.2.1 a.2.2.1 a.2.2.2 ps b/\(Ok e ((F8 T n 2).map fun x=>(x.1.n,x.2)) a.2.2.2 (a.1,a.2.1)/\a.2.1 < T.length/\-9007199254740993<=a.1/\a.1<=9007199254740993) :=
 Z3 (c:=fun a:Int × Nat × Int × Int=>(iv a.1)) (N:=fun a=>a.2.1) (A:=fun a=>a.2.2.1) (E:=fun a=>a.2.2.2) (fun _ h=>by cases h) (fun _=>.val _) (c1e T n at_ e ps b hT hn hW hN) hσ
theorem c8U {n:Nat} {at_:Int} {b:List Ex} (h0:τ[0]? = some (.box [.list (T.map Tok.cv) true none,iv n,iv at_,iv 0,.list (ps.map scv) (gnn ps.length) none,.list (b.map Ex.cv) (gnn b.length) (G9 b.length k),.list [] false none])) (hk:τ[k]? = some (u0 b.length)) (h2:2<=k) (hc:Old 2 c):F1 2 τ (.ret c) (.ret c) (a61 T n at_ 0 ps b):=by
 have k1:a6A 2 [0,1,k]=true:=rfl;have k2:Y7 [0,1,k]=true:=by
  simp [Y7];omega
 refine ⟨[0,1,k],k1,k2,.ret (.old hc),.inr ⟨_,h0,.box ?_⟩,.inl rfl,.inr ⟨_,hk,.same rfl C3⟩,tt⟩;refine ⟨.old a2A,.old (.val _),.old (.val _),.old (.val _),.old a0G,.list (fun r hr c hc=>(C4 (f:=Ex.cv) (fun a=>(Ex.pure a).all) _ r hr c hc).old) ?_,.old a6R,tt⟩;intro j hj;have hj':G9 b.length 2=some j:=hj;cases hb:b.length with
 | zero=>rw [hb] at hj';cases hj'
 | succ m=>rw [hb] at hj';injection hj' with hj';subst hj';exact ⟨k,rfl,rfl⟩
theorem a5Y {n:Nat} {at_ e:Int} {b:List Ex} (he:e≠0) (h0:τ[0]? = some (.box [.list (T.map Tok.cv) true none,iv n,iv at_,iv e,.list (ps.map scv) (gnn ps.length) none,.list (b.map Ex.cv) (gnn b.length) tok,.list [] false none])) (hc:Old 2 c):F1 2 τ (.ret c) (.ret c) (a61 T n at_ e ps b):=by
 have ht:∀ m s,tkE e m s=none:=fun m s=>if_neg he;have hp:p7 e b.length = .dead:=if_neg he;refine ⟨[0,1,τ.length+2],rfl,by simp [Y7],.ret (.old hc),.inr ⟨_,h0,.box ⟨.old a2A,.old (.val _),.old (.val _),.old (.val _),.old a0G,.list (fun r hr c hc=>(C4 (f:=Ex.cv) (fun a=>(Ex.pure a).all) _ r hr c hc).old) (fun j hj=>by rw [ht] at hj;cases hj),.old a6R,tt⟩⟩,.inl rfl,.inl hp,tt⟩
abbrev rS1 (σ:List b9) (q s:Nat) (T:List Tok) (n:Nat) (at_ e:Int) (ps:List Str) (b:List Ex):List b9:=(σ.set q (rbx T n at_ e ps b σ.length)).set s .dead++[p7 e b.length]
theorem a1R {f:FuncId} {c:α->CV} {n:Nat} {at_ e:Int} {b:List Ex} (hargs:∀ a∈args,r9 a) (hc:∀ a,r9 (c a))
 (h:b8 CC f (.ptr 0 0::args) (rst T n at_ e ps b) fun r τ=>∃ a,F1 2 τ r (.ret (c a)) (a61 T (N a) (A a) (E a) ps (B a))/\P a) {σ:List b9} {q s:Nat} (hσ:RAt σ q s T n at_ e ps b) :
 b8 CC f (.ptr q 0::args) σ fun r τ=>∃ a,r = .ret (c a)/\τ=rS1 σ q s T (N a) (A a) (E a) ps (B a)/\P a :=
 a8Z (c:=c) (N:=N) (A:=A) (E:=E) (B:=B) (g:=fun _=>true) (P:=P) hargs hc (h.mono fun _ _ ⟨a,h1,h2⟩=>⟨a,h1,h2⟩) hσ
abbrev a9k (w:Nat × List Ex):Int × List Ex:=((w.1:Int),w.2)
theorem c2k {e:Int} {b:List Ex} {x:Ex} {y:Int × List Ex} (h:(e=0->(b.length=256/\e2≠0)\/(b.length≠256/\e2=0))/\(e≠0->e2≠0)) (hy:e2=0->y=((b.length:Int),b++[x])):Ok e ((V9 b x).map a9k) e2 y:=by
 refine ⟨fun h0=>?_,h.2⟩;unfold V9
 rcases h.1 h0 with ⟨h1,h2⟩ | ⟨h1,h2⟩
 ·rw [if_pos h1];exact .inr ⟨rfl,h2⟩
 ·rw [if_neg h1,hy h2];exact .inl ⟨rfl,h2⟩
theorem c66 (T:List Tok) (n:Nat) (at_ e:Int) (ps:List Str) (b:List Ex) (hb:b.length<=256) (x:Ex) (z:Int):b8 CC 272 [.ptr 0 0,.agg x.cells,iv z] (rst T n at_ e ps b) (fun r τ=>∃ a:Int × Int × Int × List Ex,F1 2 τ r (.ret (iv a.1)) (a61 T n a.2.1 a.2.2.1 ps a.2.2.2)/\(Ok e ((V9 b x).map a9k) a.2.2.1 (a.1,a.2.2.2)/\a.2.2.2.length<=256/\-1<=a.1/\a.1<=256)):=by
 refine cO Tryz.func272 ?_;refine a3J ?_;refine M7 (α:=Int × Int) (fun _=>[(0,.ptr 0 0),(4,.ptr 2 0)]) (fun a=>[rbx T n a.1 a.2 ps b 1,p7 a.2 b.length,.box x.cells]) (fun a=>(e=0->(b.length=256/\a.2≠0)\/(b.length≠256/\a.2=0))/\(e≠0->a.2≠0)) ?_ ?_
 ·
  refine a6K ?_;refine a1h ?_;refine cG (fun hg=>b8t rfl hg rfl) ?_;refine cG (fun hg=>j4 rfl hg rfl b83 rfl b2W de_) ?_;refine b9B ?_;refine a9A ?_;refine cC ?_ ?_ <;> intro h1
  ·have hv:e=0/\b.length=256:=sm_ h1;refine c7C ?_;rintro ⟨x1,y1⟩ hy;dsimp only at hy ⊢;refine c5 [rbx T n x1 y1 ps b 1,p7 y1 b.length,.box x.cells] rfl ?_;refine c8 ?_;exact ⟨(x1,y1),⟨fun _=>.inl ⟨hv.2,hy⟩,fun _=>hy⟩,tu_,rfl⟩
  ·have hv:¬ (e=0/\b.length=256):=fun h=>by simp [h.1,h.2] at h1
   refine c9 ?_;exact ⟨(at_,e),⟨fun h0=>.inr ⟨fun h=>hv ⟨h0,h⟩,h0⟩,fun h=>h⟩,tu_,rfl⟩
 ·rintro ⟨x1,y1⟩ E1 hp;dsimp only at hp ⊢;refine a9Y ?_;refine O1 ?_;refine cC ?_ ?_ <;> intro h2
  ·obtain rfl:y1=0:=sp_ h2;have hbl:(b++[x]).length=b.length+1:=by simp
   have hl:b.length≠256:=by
    by_cases h0:e=0
    ·rcases hp.1 h0 with ⟨_,h⟩ | ⟨h,_⟩
     ·exact absurd rfl h
     ·exact h
    ·exact absurd rfl (hp.2 h0)
   refine K9 [.box [.list (T.map Tok.cv) true none,iv n,iv x1,iv 0,.list (ps.map scv) (gnn ps.length) none,.list (b.map Ex.cv) (gnn b.length) (G9 b.length 1),.list [] false none],u0 b.length,.box x.cells] rfl ?_;refine d6p ?_;refine chf rfl b63 ?_;refine chf rfl (c7 rfl b3v) ?_;refine chf rfl (c7 rfl a6B) ?_;refine chf rfl (c7 rfl a5B) ?_;refine chf rfl d9v ?_;refine F9 ?_;refine A6 rfl rfl rfl rfl (C5 rfl tt tt rfl si_ q_2 b22 a80 Tryz.typeInfo212 b5Q rfl (.inr rfl) q_8 (by have hb:Tryz.t212.bytes=64:=rfl;rw [hb];first|omega|(simp;done)|(simp;omega)) E7 ((b++[x]).map Ex.cv) (b++[x]).length si_ si_ ?_);refine d0Y ?_;refine D9 rfl rfl rfl (c7 rfl b3v) ⟨tt,?_⟩;refine d4f ?_;refine a4P ?_;refine cY b3v ?_;refine cY a6B ?_;refine cY b1P ?_;refine cY a24 ?_;refine z_7 ?_;exact ⟨_,j2 rfl tt c4,(by exact ⟨(((b++[x]).length:Int) - 1,x1,0,b++[x]),c8U (k:=3) rfl rfl de_ (.val _),c2k hp (fun _=>by simp),by simp;omega,do_,by simp;omega⟩)⟩
  ·have hy1:y1≠0:=sp_ h2;refine a6Q ?_;refine cY b3v ?_;refine cY a6B ?_;refine cY b1P ?_;refine cY a24 ?_;refine z_7 ?_;exact ⟨_,j2 rfl tt c4,(by exact ⟨((b.length:Int) - 1,x1,y1,b),a5Y hy1 rfl (.val _),c2k hp (fun h=>absurd h hy1),hb,do_,do_⟩)⟩
theorem d2I (x:Ex):r9 (.agg x.cells):=o3 (Ex.pure x)
theorem M3 {n:Nat} {at_ e:Int} {b:List Ex} (hb:b.length<=256) (x:Ex) (z:Int) (hσ:RAt σ q s T n at_ e ps b):b8 CC 272 [.ptr q 0,.agg x.cells,iv z] σ fun r τ=>∃ a:Int × Int × Int × List Ex,r = .ret (iv a.1)/\τ=rS1 σ q s T n a.2.1 a.2.2.1 ps a.2.2.2/\(Ok e ((V9 b x).map a9k) a.2.2.1 (a.1,a.2.2.2)/\a.2.2.2.length<=256/\-1<=a.1/\a.1<=256) :=
 a1R (c:=fun a:Int × Int × Int × List Ex=>(iv a.1)) (N:=fun _=>n) (A:=fun a=>a.2.1) (E:=fun a=>a.2.2.1) (B:=fun a=>a.2.2.2) (fun _ h=>by
  simp at h
  rcases h with rfl | rfl
  ·exact d2I x
  ·exact .val _) (fun _=>.val _) (c66 T n at_ e ps b hb x z) hσ
structure RX where
 x:Int
 n:Nat
 at_:Int
 e:Int
 b:List Ex
variable {n:Nat} {b:List Ex} {e at_ x:Int}
abbrev cx (p:PX):Int × Nat × List Ex:=((p.1:Int),p.2.1,p.2.2)
theorem Ok.alive (h:Ok e o e' y) (h0:e'=0):e=0/\o=Option.some y:=by
 by_cases he:e=0
 ·rcases h.1 he with ⟨h1,_⟩ | ⟨_,h1⟩
  ·exact ⟨he,h1⟩
  ·exact absurd h0 h1
 ·exact absurd h0 (h.2 he)
theorem Ok.bindM {γ:Type} {g:α->γ} {y:γ} {f:α->Option β} {z:β} (h:Ok e (o.map g) e1 y) (k:∀ p,o=Option.some p->g p=y->Ok e1 (f p) e2 z) (kd:e1≠0->e2≠0):Ok e (o.bind f) e2 z:=by
 refine ⟨fun h0=>?_,fun h0=>kd (h.2 h0)⟩
 rcases h.1 h0 with ⟨h1,h2⟩ | ⟨h1,h2⟩
 ·obtain ⟨p,hp,hg⟩:=O3.1 h1;rw [hp];exact (k p hp hg).1 h2
 ·rw [b4a.1 h1];exact .inr ⟨rfl,kd h2⟩
def RXP (T:List Tok) (n:Nat) (e:Int) (o:Option PX) (a:RX):Prop:=Ok e (o.map cx) a.e (a.x,a.n,a.b)/\a.n < T.length/\a.b.length<=256/\(a.e=0->n < a.n)/\-1<=a.x/\a.x<=256
def REC (T:List Tok) (ps:List Str) (f:Nat):Prop:=∀ (d n:Nat) (at_ e:Int) (b:List Ex),n < T.length->b.length<=256->d<=33->(e=0->8*(T.length - n)+6<=f)->∀ (σ:List b9) (q s:Nat),RAt σ q s T n at_ e ps b->b8 CC 232 [.ptr q 0,iv d] σ fun r τ=>∃ a:RX,r = .ret (iv a.x)/\τ=rS1 σ q s T a.n a.at_ a.e ps a.b/\RXP T n e ((z8 T ps f).ex d n b) a
def RSC (T:List Tok) (ps:List Str) (f:Nat):Prop:=∀ (d n:Nat) (at_:Int) (b:List Ex),n < T.length->b.length<=256->d<=32->8*(T.length - n)+6<=f+2->∀ (σ:List b9) (q s:Nat),RAt σ q s T n at_ 0 ps b->b8 CC 273 [.ptr q 0,iv d] σ fun r τ=>∃ a:RX,r = .ret (iv a.x)/\τ=rS1 σ q s T a.n a.at_ a.e ps a.b/\RXP T n 0 ((z8 T ps f).bin 2 d n b) a
def RTC (T:List Tok) (ps:List Str) (f:Nat):Prop:=∀ (d n:Nat) (at_:Int) (b:List Ex),n < T.length->b.length<=256->d<=32->8*(T.length - n)+6<=f+3->∀ (σ:List b9) (q s:Nat),RAt σ q s T n at_ 0 ps b->b8 CC 300 [.ptr q 0,iv d] σ fun r τ=>∃ a:RX,r = .ret (iv a.x)/\τ=rS1 σ q s T a.n a.at_ a.e ps a.b/\RXP T n 0 ((z8 T ps f).bin 3 d n b) a
def RFC (T:List Tok) (ps:List Str) (f:Nat):Prop:=∀ (d n:Nat) (at_:Int) (b:List Ex),n < T.length->b.length<=256->d<=32->8*(T.length - n)+1<=f->∀ (σ:List b9) (q s:Nat),RAt σ q s T n at_ 0 ps b->b8 CC 316 [.ptr q 0,iv d] σ fun r τ=>∃ a:RX,r = .ret (iv a.x)/\τ=rS1 σ q s T a.n a.at_ a.e ps a.b/\RXP T n 0 ((z8 T ps f).fac d n b) a
theorem RXP.dead {at2:Int} {o:Option PX} (h:e=0->o=Option.none) (h2:e2≠0) (hm:m < T.length) (hb:b.length<=256) (hx : -1<=x/\x<=256):RXP T n e o ⟨x,m,at2,e2,b⟩:=by
 refine ⟨⟨fun h0=>.inr ⟨by rw [h h0];rfl,h2⟩,fun _=>h2⟩,hm,hb,fun h0=>absurd h0 h2,hx.1,hx.2⟩
theorem a13 {b2:List Ex} {y:Ex} (h:Ok e ((V9 b y).map a9k) e2 (x,b2)):Ok e ((K4 b y m).map cx) e2 (x,m,b2):=by
 have e1:(K4 b y m).map cx=((V9 b y).map a9k).map fun w=>(w.1,m,w.2):=by
  unfold K4;cases V9 b y <;> rfl
 rw [e1];refine ⟨fun h0=>?_,h.2⟩
 rcases h.1 h0 with ⟨h1,h2⟩ | ⟨h1,h2⟩
 ·rw [h1];exact .inl ⟨rfl,h2⟩
 ·rw [h1];exact .inr ⟨rfl,h2⟩
theorem e0L {d:Nat}:(z8 T ps (f+1+1)).bin 1 d n b=((z8 T ps (f+1)).bin 2 d n b).bind fun x=>if opS (tk T x.2.1) 1=0 then some x else ((z8 T ps f).bin 2 d (x.2.1+1) x.2.2).bind fun y=>K4 y.2.2 ⟨4,0,opS (tk T x.2.1) 1,[],[(x.1:Int),(y.1:Int)]⟩ y.2.1:=by
 have h:(z8 T ps (f+1+1)).bin 1 d n b=(G0 T ps (z8 T ps (f+1))).bin 1 d n b:=rfl;rw [h];simp only [G0];rw [if_neg de_];rfl
theorem d8l (t:Tok):opS t 1=if isT t 4 [60]=true then 6 else if isT t 4 [61,61]=true then 7 else 0:=by
 by_cases h1:isT t 4 [60]=true
 ·rw [if_pos h1];exact a5c (x:=(6,[60])) de_ (by simpa [opM,isT,F0] using h1)
 ·rw [if_neg h1];by_cases h2:isT t 4 [61,61]=true
  ·rw [if_pos h2];exact a5c (x:=(7,[61,61])) de_ (by simpa [opM,isT,F0] using h2)
  ·rw [if_neg h2];refine b2b fun x hx=>?_;simp only [S0,R5,b2M,or_false] at hx
   rcases hx with rfl | rfl | rfl | rfl | rfl | rfl | rfl <;> simp_all [opM,isT,F0]
theorem T4 (h0:τ[0]? = some (rbx T n at_ e ps b k)) (hk:τ[k]? = some (p7 e b.length)) (h2:2<=k) (hc:Old 2 c):F1 2 τ (.ret c) (.ret c) (a61 T n at_ e ps b):=by
 by_cases he:e=0
 ·subst he;exact c8U h0 hk h2 hc
 ·exact a5Y he h0 hc
theorem a3r {p:Nat} (h:sel[p]? = some k):D2 L sel (.list (b.map Ex.cv) (gnn b.length) (tkE e b.length k)) (.list (b.map Ex.cv) (gnn b.length) (tkE e b.length p)):=by
 unfold tkE
 split
 ·exact a8k h
 ·exact .list (fun r hr c hc=>(C4 (f:=Ex.cv) (fun a=>(Ex.pure a).all) _ r hr c hc).old) (fun j hj=>by cases hj)
theorem Ok.bindP {f:α->Option PX} (h:Ok e o e1 y) (k:Ok e1 ((f y).map cx) e2 z):Ok e ((o.bind f).map cx) e2 z:=by
 have h1:(o.bind f).map cx=o.bind fun a=>(f a).map cx:=by cases o <;> rfl
 rw [h1];exact h.bind k
theorem Ok.bindX {o:Option PX} {f:PX->Option PX} (h:Ok e (o.map cx) e1 (x,n,b)) (k:∀ i:Nat,(i:Int)=x->Ok e1 ((f (i,n,b)).map cx) e2 z) (kd:e1≠0->e2≠0):Ok e ((o.bind f).map cx) e2 z:=by
 have h1:(o.bind f).map cx=o.bind fun a=>(f a).map cx:=by cases o <;> rfl
 rw [h1];refine h.bindM (fun p hp hg=>?_) kd;obtain ⟨i,m,c⟩:=p;obtain ⟨h1,h2,h3⟩:(i:Int)=x/\m=n/\c=b:=by simpa [cx] using hg
 subst h2 h3;exact k i h1
theorem Ok.bindT {o:Option (Tok × Nat)} {f:Tok × Nat->Option PX} {s:Str} (h:Ok e (o.map fun x=>(x.1.t,x.2)) e1 (s,n)) (k:∀ t:Tok,t.t=s->Ok e1 ((f (t,n)).map cx) e2 z) (kd:e1≠0->e2≠0):Ok e ((o.bind f).map cx) e2 z:=by
 have h1:(o.bind f).map cx=o.bind fun a=>(f a).map cx:=by cases o <;> rfl
 rw [h1];refine h.bindM (fun p hp hg=>?_) kd;obtain ⟨t,m⟩:=p;obtain ⟨h1,h2⟩:t.t=s/\m=n:=sp_ hg;subst h2;exact k t h1
theorem Ok.bindI {o:Option (Tok × Nat)} {f:Tok × Nat->Option PX} {s:Int} (h:Ok e (o.map fun x=>(x.1.n,x.2)) e1 (s,n)) (k:∀ t:Tok,t.n=s->Ok e1 ((f (t,n)).map cx) e2 z) (kd:e1≠0->e2≠0):Ok e ((o.bind f).map cx) e2 z:=by
 have h1:(o.bind f).map cx=o.bind fun a=>(f a).map cx:=by cases o <;> rfl
 rw [h1];refine h.bindM (fun p hp hg=>?_) kd;obtain ⟨t,m⟩:=p;obtain ⟨h1,h2⟩:t.n=s/\m=n:=sp_ hg;subst h2;exact k t h1
theorem Ok.zero (h:Ok 0 o e y):(e=0/\o=Option.some y)\/(e≠0/\o=Option.none):=by
 rcases h.1 rfl with ⟨h1,h2⟩ | ⟨h1,h2⟩
 ·exact .inl ⟨h2,h1⟩
 ·exact .inr ⟨h2,h1⟩
theorem b53 {o:Option PX} (h:o.map cx=some (x,n,b)):∃ i:Nat,(i:Int)=x/\o=some (i,n,b):=by
 obtain ⟨⟨i,m,c⟩,hp,hg⟩:=O3.1 h;obtain ⟨h1,h2,h3⟩:(i:Int)=x/\m=n/\c=b:=by simpa [cx] using hg
 subst h2 h3;exact ⟨i,h1,hp⟩
theorem b5H {o:Option PX} (h:o.map cx=none):o=none:=b4a.1 h
end Go.Proofs.YtlppbmfecjabeaaGreatDoor
