/- Part 4 of what the claim needs: values without addresses, and what the program's functions do with them. -/
import Derived.Test.YtlppbmfecjabeaaGreatDoorC3
set_option linter.all false
set_option maxRecDepth 100000
set_option maxHeartbeats 4000000
namespace Go.Proofs.YtlppbmfecjabeaaGreatDoor
open Go Go.Cl
variable {T:List Tok} {i f a np n2 f0 n' B n3 n1 n7 L z:Nat} {e1 e' e3 e2 o e5 e4 e6 e7:Int} {α:Type} {F:PF} {S:List Nat} {u nm:Str} {fl:List Fi} {t:Tok} {y:α} {me:EM} {nn:Bool} {b1:List Ex} {σ:List b9}
theorem d2T {ps:List Str} {d n:Nat} {b:List Ex} (hd:32 < d):(z8 T ps f).ex d n b=none:=by
 cases f with
 | zero=>rfl
 | succ f=>exact if_pos hd
theorem d8O (h:isT t 4 [60]=false) (h':isT t 4 [61,61]=false):opS t 1=0:=by
 rw [d8l];simp [h,h']
theorem d1l {x1 c:Int} {r:Option PX} (hi:(i:Int)=x1) (h:e1=0->c=0):Ok e1 ((if c=0 then some (i,n1,b1) else r).map cx) e1 (x1,n1,b1):=by
 by_cases he:e1=0
 ·rw [if_pos (h he),<- hi];exact .some
 ·exact .dead he he
theorem Q8 {n:Nat} {k:Int} {v:Bool} (h:v=sgB T n 0 k u) (hv:v=false):isT (tk T n) k u=false:=by
 subst hv;simpa [sgB] using h.symm
theorem c8h {ps:List Str} (hc:a0b T ps) (d n:Nat) (at_ e:Int) (b:List Ex) (hn:n < T.length) (hb:b.length<=256) (hd0:d<=33) (hx:e=0->∃ f,f0=f+3/\8*(T.length - n)+6<=f+3/\REC T ps (f+2)/\RSC T ps (f+1)/\RSC T ps f):b8 CC 232 [.ptr 0 0,iv d] (rst T n at_ e ps b) (fun r τ=>∃ a:RX,F1 2 τ r (.ret (iv a.x)) (a61 T a.n a.at_ a.e ps a.b)/\RXP T n e ((z8 T ps f0).ex d n b) a):=by
 have hT:=hc.len;have hW:=hc.w;refine cO Tryz.func232 ?_;refine b6U ?_;refine cY a4z ?_;refine b1w ?_;refine cC ?_ ?_ <;> intro h1
 ·have hd:32 < d:=sm_ h1;refine c7C ?_;rintro ⟨x0,y0⟩ hy0;dsimp only at hy0 ⊢;refine c5 [rbx T n x0 y0 ps b 1,p7 y0 b.length] rfl ?_;refine z_9 ?_;refine a6K ?_;refine O1 ?_;refine cC ?_ ?_ <;> intro h2
  ·refine I0 ?_;exact ⟨_,j2 rfl tt c4,(by exact ⟨⟨0,n,x0,y0,b⟩,a5Y hy0 rfl (.val _),.dead (fun _=>d2T hd) hy0 hn hb ⟨de_,de_⟩⟩)⟩
  ·exact absurd (show y0=0 by simpa using h2) hy0
 ·have hd:¬ 32 < d:=sm_ h1;refine z_8 ?_;refine a6K ?_;refine O1 ?_;refine cC ?_ ?_ <;> intro h8
  ·have he:e≠0:=sp_ h8;refine I0 ?_;exact ⟨_,j2 rfl tt c4,(by exact ⟨⟨0,n,at_,e,b⟩,a5Y he rfl (.val _),.dead (fun h0=>absurd h0 he) he hn hb ⟨de_,de_⟩⟩)⟩
  ·obtain rfl:e=0:=sp_ h8;obtain ⟨f,rfl,hf,hE,hS1,hS0⟩:=hx rfl;have hsp:(z8 T ps (f+3)).ex d n b=(G0 T ps (z8 T ps (f+2))).ex d n b:=rfl;simp only [G0] at hsp;rw [if_neg hd] at hsp;refine a5L ?_;refine de rfl b0l o7 (Y1 hT hn hW [105,102] ⟨rfl,rfl,de_⟩) rfl ?_;rintro ⟨v8,m8⟩ ⟨hv8,hs8,hf8,hm8⟩;dsimp only at hv8 hs8 hf8 hm8 ⊢;refine c5 [rbx T m8 at_ 0 ps b 1,p7 0 b.length] rfl ?_;refine c8 ?_;refine cC ?_ ?_ <;> intro h9
   ·have hi:v8=true:=sp_ h9;have hm:=hs8 hi;subst m8;have hi2:=(T8 (hv8.symm.trans hi)).2;rw [if_pos hi2] at hsp;refine a4x ?_;refine de rfl b7T i7 (hE (d+1) (n+1) at_ 0 b hm8 hb om_ (fun _=>by omega) _ 0 1 ⟨rfl,rfl,de_⟩) rfl ?_;rintro ⟨x1,n1,a1,e1,b1⟩ ⟨k1,y1,w1,z1,l1,u1⟩;dsimp only at k1 y1 w1 z1 l1 u1 ⊢;refine c5 [rbx T n1 a1 e1 ps b1 2,.dead,p7 e1 b1.length] rfl ?_;refine z_1 ?_;refine M7 (α:=Nat × Int × Int) (fun _=>[(0,.ptr 0 0),(1,iv d),(5,(iv ((tk T n).at_))),(6,iv x1)]) (fun a=>[rbx T a.1 a.2.1 a.2.2 ps b1 2,.dead,p7 a.2.2 b1.length]) (fun a=>Ok e1 (pIs T n1 1 [116,104,101,110]) a.2.2 a.1/\a.1 < T.length) ?_ ?_
    ·
     refine z_2 ?_;refine de rfl b0l o7 (Y1 hT y1 hW [116,104,101,110] ⟨rfl,rfl,de_⟩) rfl ?_;rintro ⟨v9,m9⟩ ⟨hv9,hs9,hf9,hm9⟩;dsimp only at hv9 hs9 hf9 hm9 ⊢;refine c5 [rbx T m9 a1 e1 ps b1 2,.dead,p7 e1 b1.length] rfl ?_;refine S4 ?_;refine cC ?_ ?_ <;> intro h10
     ·have hw:v9=false:=sp_ h10;refine X0 ?_;refine d4T ?_;rintro ⟨x0,y0⟩ hy0;dsimp only at hy0 ⊢;refine c5 [rbx T m9 x0 y0 ps b1 2,.dead,p7 y0 b1.length] rfl ?_;exact c9K
     ·have hw:v9=true:=sp_ h10;refine c9 ?_;exact ⟨(m9,a1,e1),⟨by dsimp only;rw [hs9 hw];exact b0G (hv9.symm.trans hw),hm9⟩,tu_,rfl⟩
    ·rintro ⟨n2,a2,e2⟩ E2 ⟨q2,y2⟩;dsimp only at q2 y2 ⊢;have g2:e2=0->n2=n1+1/\e1=0:=fun h0=>⟨O4 (q2.alive h0).2,(q2.alive h0).1⟩;refine a4x ?_;refine de rfl b7T i7 (hE (d+1) n2 a2 e2 b1 y2 w1 om_ (fun h0=>by have:=g2 h0;have:=z1 this.2;omega) _ 0 2 ⟨rfl,rfl,de_⟩) rfl ?_;rintro ⟨x3,n3,a3,e3,b3⟩ ⟨k3,y3,w3,z3,l3,u3⟩;dsimp only at k3 y3 w3 z3 l3 u3 ⊢;refine c6w ?_;refine M7 (α:=Nat × Int × Int) (fun _=>[(0,.ptr 0 0),(1,iv d),(5,(iv ((tk T n).at_))),(6,iv x1),(7,iv x3)]) (fun a=>[rbx T a.1 a.2.1 a.2.2 ps b3 3,.dead,.dead,p7 a.2.2 b3.length]) (fun a=>Ok e3 (pIs T n3 1 [101,108,115,101]) a.2.2 a.1/\a.1 < T.length) ?_ ?_
     ·
      refine z_2 ?_;refine de rfl b0l o7 (Y1 hT y3 hW [101,108,115,101] ⟨rfl,rfl,de_⟩) rfl ?_;rintro ⟨v9,m9⟩ ⟨hv9,hs9,hf9,hm9⟩;dsimp only at hv9 hs9 hf9 hm9 ⊢;refine c5 [rbx T m9 a3 e3 ps b3 3,.dead,.dead,p7 e3 b3.length] rfl ?_;refine S4 ?_;refine cC ?_ ?_ <;> intro h11
      ·have hw:v9=false:=sp_ h11;refine X0 ?_;refine d4T ?_;rintro ⟨x0,y0⟩ hy0;dsimp only at hy0 ⊢;refine c5 [rbx T m9 x0 y0 ps b3 3,.dead,.dead,p7 y0 b3.length] rfl ?_;exact c9K
      ·have hw:v9=true:=sp_ h11;refine c9 ?_;exact ⟨(m9,a3,e3),⟨by dsimp only;rw [hs9 hw];exact b0G (hv9.symm.trans hw),hm9⟩,tu_,rfl⟩
     ·rintro ⟨n4,a4,e4⟩ E4 ⟨q4,y4⟩;dsimp only at q4 y4 ⊢;have g4:e4=0->n4=n3+1/\e3=0:=fun h0=>⟨O4 (q4.alive h0).2,(q4.alive h0).1⟩;refine a4x ?_;refine de rfl b7T i7 (hE (d+1) n4 a4 e4 b3 y4 w3 om_ (fun h0=>by have q:=g4 h0;have:=z3 q.2;have q:=g2 (k3.alive q.2).1;have:=z1 q.2;omega) _ 0 3 ⟨rfl,rfl,de_⟩) rfl ?_;rintro ⟨x5,n5,a5,e5,b5⟩ ⟨k5,y5,w5,z5,l5,u5⟩;dsimp only at k5 y5 w5 z5 l5 u5 ⊢;refine c5 [rbx T n5 a5 e5 ps b5 4,.dead,.dead,.dead,p7 e5 b5.length] rfl ?_;refine z_1 ?_;refine a0M ?_;refine cY j1 ?_;refine cY (A2 ([x1,x3,x5].map icv) rfl C0 t_4 t_2 t_6 rfl rfl rfl rfl rfl rfl rfl rfl rfl) ?_;refine b7Y ?_;refine de rfl a4I C0 (M3 w5 ⟨5,0,0,[],[x1,x3,x5]⟩ _ ⟨rfl,rfl,de_⟩) rfl ?_;rintro ⟨x6,a6,e6,b6⟩ ⟨k6,w6,l6,u6⟩;dsimp only at k6 w6 l6 u6 ⊢;refine c5 [rbx T n5 a6 e6 ps b6 5,.dead,.dead,.dead,.dead,p7 e6 b6.length] rfl ?_;refine z_7 ?_;exact ⟨_,j2 rfl tt c4,(by exact ⟨⟨x6,n5,a6,e6,b6⟩,T4 (k:=5) rfl rfl de_ (.val _),⟨by rw [hsp];exact k1.bindX (fun i hi=>q2.bindP (k3.bindX (fun j hj=>q4.bindP (k5.bindX (fun l hl=>a13 (by rw [hi,hj,hl];exact k6)) k6.2)) fun h=>k6.2 (k5.2 (q4.2 h)))) fun h=>k6.2 (k5.2 (q4.2 (k3.2 (q2.2 h)))),y5,w6,fun h0=>by have h5:=(k6.alive h0).1;have q5:=z5 h5;have q:=g4 (k5.alive h5).1;have:=z3 q.2;have q:=g2 (k3.alive q.2).1;have:=z1 q.2;dsimp only at h0 ⊢;omega,l6,u6⟩⟩)⟩
   ·have hi:v8=false:=sp_ h9;have hm:=hf8 hi;subst m8;rw [if_neg (by rw [Q8 hv8 hi];decide)] at hsp;replace hsp:=hsp.trans e0L;refine a95 ?_;refine de rfl c7T i7 (hS1 d n at_ b hn hb om_ om_ _ 0 1 ⟨rfl,rfl,de_⟩) rfl ?_;rintro ⟨x1,n1,a1,e1,b1⟩ ⟨k1,y1,w1,z1,l1,u1⟩;dsimp only at k1 y1 w1 z1 l1 u1 ⊢;refine c5 [rbx T n1 a1 e1 ps b1 2,.dead,p7 e1 b1.length] rfl ?_;refine O0 ?_;refine d3q ?_;refine cY a2H ?_;refine a4y ?_;refine de rfl a8E o7 (V4 hT y1 hW [60] ⟨rfl,rfl,de_⟩) rfl ?_;rintro ⟨v2,m2⟩ ⟨hv2,hs2,hf2,hm2⟩;dsimp only at hv2 hs2 hf2 hm2 ⊢;refine c5 [rbx T m2 a1 e1 ps b1 2,.dead,p7 e1 b1.length] rfl ?_;refine c8 ?_;refine cC ?_ ?_ <;> intro h12
    ·have hi2:v2=true:=sp_ h12;obtain ⟨he1,hi3⟩:=T8 (hv2.symm.trans hi2);subst e1;have hm:=hs2 hi2;subst m2;have hop:opS (tk T n1) 1=6:=by rw [d8l,if_pos hi3]
     refine b0Z ?_;refine de rfl c7T i7 (hS0 d (n1+1) a1 b1 hm2 w1 om_ (by have:=z1 rfl;omega) _ 0 2 ⟨rfl,rfl,de_⟩) rfl ?_;rintro ⟨x3,n3,a3,e3,b3⟩ ⟨k3,y3,w3,z3,l3,u3⟩;dsimp only at k3 y3 w3 z3 l3 u3 ⊢;refine c6w ?_;refine a0M ?_;refine cY j1 ?_;refine cY d9x ?_;refine a98 ?_;refine de rfl a4I C0 (M3 w3 ⟨4,0,6,[],[x1,x3]⟩ _ ⟨rfl,rfl,de_⟩) rfl ?_;rintro ⟨x6,a6,e6,b6⟩ ⟨k6,w6,l6,u6⟩;dsimp only at k6 w6 l6 u6 ⊢;refine d3Z ?_;exact ⟨_,j2 rfl tt c4,q_0⟩
    ·have hi2:v2=false:=sp_ h12;have hm:=hf2 hi2;subst m2;refine z_2 ?_;refine de rfl a8E o7 (V4 hT y1 hW [61,61] ⟨rfl,rfl,de_⟩) rfl ?_;rintro ⟨v4,m4⟩ ⟨hv4,hs4,hf4,hm4⟩;dsimp only at hv4 hs4 hf4 hm4 ⊢;refine c5 [rbx T m4 a1 e1 ps b1 2,.dead,p7 e1 b1.length] rfl ?_;refine c8 ?_;refine cC ?_ ?_ <;> intro h13
     ·have hi4:v4=true:=sp_ h13;obtain ⟨he1,hi3⟩:=T8 (hv4.symm.trans hi4);subst e1;have hm:=hs4 hi4;subst m4;have hop:opS (tk T n1) 1=7:=by rw [d8l,if_neg (by rw [Q8 hv2 hi2];decide),if_pos hi3]
      refine b0Z ?_;refine de rfl c7T i7 (hS0 d (n1+1) a1 b1 hm4 w1 om_ (by have:=z1 rfl;omega) _ 0 2 ⟨rfl,rfl,de_⟩) rfl ?_;rintro ⟨x3,n3,a3,e3,b3⟩ ⟨k3,y3,w3,z3,l3,u3⟩;dsimp only at k3 y3 w3 z3 l3 u3 ⊢;refine c6w ?_;refine a0M ?_;refine cY j1 ?_;refine cY d9x ?_;refine a98 ?_;refine de rfl a4I C0 (M3 w3 ⟨4,0,7,[],[x1,x3]⟩ _ ⟨rfl,rfl,de_⟩) rfl ?_;rintro ⟨x6,a6,e6,b6⟩ ⟨k6,w6,l6,u6⟩;dsimp only at k6 w6 l6 u6 ⊢;refine d3Z ?_;exact ⟨_,j2 rfl tt c4,q_0⟩
     ·have hi4:v4=false:=sp_ h13;have hm:=hf4 hi4;subst m4;have hend:e1=0->opS (tk T n1) 1=0:=fun h0=>by subst h0;exact d8O (Q8 hv2 hi2) (Q8 hv4 hi4)
      refine a9S ?_;exact ⟨_,j2 rfl tt c4,(by exact ⟨⟨x1,n1,a1,e1,b1⟩,T4 (k:=2) rfl rfl de_ (.val _),⟨by rw [hsp];exact k1.bindX (fun i hi=>d1l hi hend) id,y1,w1,z1,l1,u1⟩⟩)⟩
theorem d1f {ps:List Str} (hc:a0b T ps) (H:∀ g,g < f0->REC T ps g/\RSC T ps g):REC T ps f0:=fun d n at_ e b hn hb hd hf σ q s hσ =>
 a1R (c:=fun a:RX=>(iv a.x)) (N:=fun a=>a.n) (A:=fun a=>a.at_) (E:=fun a=>a.e) (B:=fun a=>a.b) (fun _ h=>by simp at h;subst h;exact .val _) (fun _=>.val _) (c8h hc d n at_ e b hn hb hd (fun h0=>by
  have h1:=hf h0;obtain ⟨f,rfl⟩:∃ f,f0=f+3:=⟨f0 - 3,om_⟩;exact ⟨f,rfl,h1,(H (f+2) om_).1,(H (f+1) om_).2,(H f om_).2⟩)) hσ
def ot1 (ph:Bool) (e:Int) (m:Nat):b9:=if ph=true then .dead else p7 e m
def ot2 (ph:Bool) (e:Int) (m:Nat):b9:=if ph=true then p7 e m else .dead
structure RL where
 x:Int
 m:Nat
 at_:Int
 e:Int
 b:List Ex
 ph:Bool
 g:Nat
variable {x:Int}
theorem d8B {ps:List Str} {d n lv:Nat} {b:List Ex} (h:lv≠4):(z8 T ps (f+1)).bin lv d n b=((z8 T ps f).bin (lv+1) d n b).bind fun x=>(z8 T ps f).lp lv d x.1 x.2.1 x.2.2:=by
 have h':(z8 T ps (f+1)).bin lv d n b=(G0 T ps (z8 T ps f)).bin lv d n b:=rfl;rw [h'];simp only [G0];rw [if_neg h]
theorem d8N {ps:List Str} {d n:Nat} {b:List Ex}:(z8 T ps (f+1)).bin 4 d n b=(z8 T ps f).fac d n b:=rfl
theorem lpS {ps:List Str} {g d x n lv:Nat} {b:List Ex} (h:lv≠1):(z8 T ps (g+1)).lp lv d x n b=if opS (tk T n) (lv:Int)=0 then some (x,n,b) else ((z8 T ps g).bin (lv+1) d (n+1) b).bind fun y=>(V9 y.2.2 ⟨4,0,opS (tk T n) (lv:Int),[],[(x:Int),(y.1:Int)]⟩).bind fun w=>(z8 T ps g).lp lv d w.1 y.2.1 w.2:=by
 have h':(z8 T ps (g+1)).lp lv d x n b=(G0 T ps (z8 T ps g)).lp lv d x n b:=rfl;rw [h'];simp only [G0,if_neg h]
theorem d7l (t:Tok):opS t 2=if isT t 4 [43]=true then 1 else if isT t 4 [45]=true then 2 else 0:=by
 by_cases h1:isT t 4 [43]=true
 ·rw [if_pos h1];exact a5c (x:=(1,[43])) de_ (by simpa [opM,isT,F0] using h1)
 ·rw [if_neg h1];by_cases h2:isT t 4 [45]=true
  ·rw [if_pos h2];exact a5c (x:=(2,[45])) de_ (by simpa [opM,isT,F0] using h2)
  ·rw [if_neg h2];refine b2b fun x hx=>?_;simp only [S0,R5,b2M,or_false] at hx
   rcases hx with rfl | rfl | rfl | rfl | rfl | rfl | rfl <;> simp_all [opM,isT,F0]
theorem op3 (t:Tok):opS t 3=if isT t 4 [42]=true then 3 else if isT t 4 [47]=true then 4 else if isT t 4 [37]=true then 5 else 0:=by
 by_cases h1:isT t 4 [42]=true
 ·rw [if_pos h1];exact a5c (x:=(3,[42])) de_ (by simpa [opM,isT,F0] using h1)
 ·rw [if_neg h1];by_cases h2:isT t 4 [47]=true
  ·rw [if_pos h2];exact a5c (x:=(4,[47])) de_ (by simpa [opM,isT,F0] using h2)
  ·rw [if_neg h2];by_cases h3:isT t 4 [37]=true
   ·rw [if_pos h3];exact a5c (x:=(5,[37])) de_ (by simpa [opM,isT,F0] using h3)
   ·rw [if_neg h3];refine b2b fun x hx=>?_;simp only [S0,R5,b2M,or_false] at hx
    rcases hx with rfl | rfl | rfl | rfl | rfl | rfl | rfl <;> simp_all [opM,isT,F0]
theorem c0H {o:Option (Nat × List Ex)} {b:List Ex} (h:o.map a9k=some (x,b)):∃ i:Nat,(i:Int)=x/\o=some (i,b):=by
 obtain ⟨⟨i,c⟩,hp,hg⟩:=O3.1 h;obtain ⟨h1,h2⟩:(i:Int)=x/\c=b:=by simpa [a9k] using hg
 subst h2;exact ⟨i,h1,hp⟩
theorem b06 {S o:Option PX} {K:Nat->Nat->List Ex->Option PX} {x1:Int} (hs:S=o.bind fun y=>K y.1 y.2.1 y.2.2) (k:Ok 0 (o.map cx) e1 (x1,n1,b1)):(e1=0->∃ i:Nat,(i:Int)=x1/\S=K i n1 b1)/\(e1≠0->S=none):=by
 rcases k.zero with ⟨h3,ho⟩ | ⟨h3,ho⟩
 ·obtain ⟨j,hj,ho⟩:=b53 ho;exact ⟨fun _=>⟨j,hj,by rw [hs,ho];rfl⟩,fun h=>absurd h3 h⟩
 ·exact ⟨fun h=>absurd h h3,fun _=>by rw [hs,b5H ho];rfl⟩
theorem a3i {S o:Option PX} {N:PX->Option (Nat × List Ex)} {K:Nat->Nat->List Ex->Option PX} {x3 x4:Int} {b3 b4:List Ex} (hs:S=o.bind fun y=>(N y).bind fun w=>K w.1 y.2.1 w.2) (k3:Ok 0 (o.map cx) e3 (x3,n3,b3)) (k4:∀ j:Nat,(j:Int)=x3->Ok e3 ((N (j,n3,b3)).map a9k) e4 (x4,b4)) (k40:e3≠0->e4≠0) :
 (e4=0->e3=0/\∃ w:Nat,(w:Int)=x4/\S=K w n3 b4)/\(e4≠0->S=none):=by
 rcases k3.zero with ⟨h3,ho⟩ | ⟨h3,ho⟩
 ·obtain ⟨j,hj,ho⟩:=b53 ho;subst h3
  rcases (k4 j hj).zero with ⟨h4,hn⟩ | ⟨h4,hn⟩
  ·obtain ⟨w,hw,hn⟩:=c0H hn;exact ⟨fun _=>⟨rfl,w,hw,by rw [hs,ho,n_6,hn];rfl⟩,fun h=>absurd h4 h⟩
  ·exact ⟨fun h=>absurd h h4,fun _=>by rw [hs,ho,n_6,b4a.1 hn];rfl⟩
 ·exact ⟨fun h=>absurd h (k40 h3),fun _=>by rw [hs,b5H ho];rfl⟩
theorem b8s {n m:Nat} {at_:Int} {S:Option PX} {b:List Ex} (hS:S=some (i,m,b)) (hi:(i:Int)=x) (hm:m < T.length) (hb:b.length<=256) (hn:n < m) (h1 : -1<=x) (h2:x<=256):RXP T n 0 S ⟨x,m,at_,0,b⟩:=by
 subst hS hi;exact ⟨.some,hm,hb,fun _=>hn,h1,h2⟩
theorem d1Z {ps:List Str} (hc:a0b T ps) (hB:∀ g,g<=f->RTC T ps g) (d n:Nat) (at_:Int) (b:List Ex) (hn:n < T.length) (hb:b.length<=256) (hd0:d<=32) (hf:8*(T.length - n)+6<=f+1+2):b8 CC 273 [.ptr 0 0,iv d] (rst T n at_ 0 ps b) (fun r τ=>∃ a:RX,F1 2 τ r (.ret (iv a.x)) (a61 T a.n a.at_ a.e ps a.b)/\RXP T n 0 ((z8 T ps (f+1)).bin 2 d n b) a):=by
 have hT:=hc.len;have hW:=hc.w;have hsp:=d8B (T:=T) (ps:=ps) (f:=f) (d:=d) (n:=n) (lv:=2) (b:=b) de_;refine cO Tryz.func273 ?_;refine a11 ?_;refine de rfl c86 i7 (hB f om_ d n at_ b hn hb hd0 om_ _ 0 1 ⟨rfl,rfl,de_⟩) rfl ?_;rintro ⟨x1,n1,a1,e1,b1⟩ ⟨k1,y1,w1,z1,l1,u1⟩;dsimp only at k1 y1 w1 z1 l1 u1 ⊢;refine c5 [rbx T n1 a1 e1 ps b1 2,.dead,p7 e1 b1.length] rfl ?_;have hfu:e1=0->8*(T.length - n1)+3<=f:=fun h0=>by have:=z1 h0;omega
 have hst:=b06 (K:=fun i m c=>(z8 T ps f).lp 2 d i m c) hsp k1;refine b43 ?_;refine B2 hCC 3 rfl (α:=RL) (fun a=>[(0,.ptr 0 0),(1,iv d),(5,iv a.x)]) (fun a=>[rbx T a.m a.at_ a.e ps a.b (kf a.ph),.dead,ot1 a.ph a.e a.b.length,ot2 a.ph a.e a.b.length]) (fun a=>(a.e=0->∃ i:Nat,(i:Int)=a.x/\(z8 T ps (f+1)).bin 2 d n b=(z8 T ps a.g).lp 2 d i a.m a.b/\n < a.m/\8*(T.length - a.m)+3<=a.g)/\(a.e≠0->(z8 T ps (f+1)).bin 2 d n b=none)/\a.m < T.length/\a.b.length<=256/\-1<=a.x/\a.x<=256/\a.g<=f) (fun a=>if a.e=0 then T.length - a.m+1 else 0) ⟨⟨x1,n1,a1,e1,b1,false,f⟩,[0,1,2,7],⟨fun h0=>(hst.1 h0).elim fun i hi=>⟨i,hi.1,hi.2,z1 h0,hfu h0⟩,hst.2,y1,w1,l1,u1,n_4 _⟩,⟨rfl,rfl⟩,ut_,uq_⟩ ?_;intro ⟨x,m,a2,e,b2,ph,g⟩ ⟨hI,hN,hm,hb2,hx1,hx2,hgf⟩;dsimp only at hI hN hm hb2 hx1 hx2 hgf ⊢;refine a9Y ?_;refine O1 ?_;refine cC ?_ ?_ <;> intro h1
 ·obtain rfl:e=0:=sp_ h1;obtain ⟨i,hi,hS,hnm,hg⟩:=hI rfl;clear hI;obtain ⟨g,rfl⟩:∃ g',g=g'+1:=⟨g - 1,om_⟩;rw [lpS de_] at hS;refine a21 ?_;refine z_2 ?_;refine ye rfl a7k ⟨tt,tt⟩ (Y9 hT hm (q:=0) (s:=kf ph) a0J) rfl ?_;refine cY a4z ?_;refine cY a2H ?_;refine a4y ?_;refine de rfl a8E o7 (V4 hT hm hW [43] (q:=0) (s:=kf ph) a0J) rfl ?_;rintro ⟨v10,m10⟩ ⟨hv10,hs10,hf10,hm10⟩;dsimp only at hv10 hs10 hf10 hm10 ⊢;refine c5 [rbx T m10 a2 0 ps b2 (kf ph),.dead,ot1 ph 0 b2.length,ot2 ph 0 b2.length] N8 ?_;refine c8 ?_;refine cC ?_ ?_ <;> intro h2
  ·have hi10:v10=true:=sp_ h2;have hq:=(T8 (hv10.symm.trans hi10)).2;have hmm:=hs10 hi10;subst m10;have hop:opS (tk T m) (2:Nat)=1:=by
    show opS (tk T m) 2=1;rw [d7l,if_pos hq]
   rw [if_neg (by rw [hop];decide),hop] at hS;refine b0Z ?_;refine de rfl c86 i7 (hB g om_ d (m+1) a2 b2 hm10 hb2 hd0 om_ _ 0 (kf ph) a0J) rfl ?_;rintro ⟨x3,n3,a3,e3,b3⟩ ⟨k3,y3,w3,z3,l3,u3⟩;dsimp only at k3 y3 w3 z3 l3 u3 ⊢;refine c5 [rbx T n3 a3 e3 ps b3 4,.dead,.dead,.dead,p7 e3 b3.length] N8 ?_;refine b6A ?_;refine a98 ?_;refine de rfl a4I C0 (M3 w3 ⟨4,0,1,[],[x,x3]⟩ _ ⟨rfl,rfl,de_⟩) rfl ?_;rintro ⟨x4,a4,e4,b4⟩ ⟨k4,w4,l4,u4⟩;dsimp only at k4 w4 l4 u4 ⊢;refine c5 [rbx T n3 a4 e4 ps b4 5,.dead,.dead,.dead,.dead,p7 e4 b4.length] rfl ?_;have hfu:e3=0->n < n3/\8*(T.length - n3)+3<=g:=fun h0=>by have:=z3 h0;omega
   have hme:(if e4=0 then T.length - n3+1 else 0) < (if (0:Int)=0 then T.length - m+1 else 0):=by
    rw [if_pos rfl]
    split
    ·rename_i h0;have:=z3 (k4.alive h0).1;omega
    ·omega
   have hst:=a3i (K:=fun i m c=>(z8 T ps g).lp 2 d i m c) hS k3 (fun j hj=>by rw [hi,hj];exact k4) k4.2;exact d8I
  ·have hi10:v10=false:=sp_ h2;have hmm:=hf10 hi10;subst m10;refine z_2 ?_;refine de rfl a8E o7 (V4 hT hm hW [45] (q:=0) (s:=kf ph) a0J) rfl ?_;rintro ⟨v11,m11⟩ ⟨hv11,hs11,hf11,hm11⟩;dsimp only at hv11 hs11 hf11 hm11 ⊢;refine c5 [rbx T m11 a2 0 ps b2 (kf ph),.dead,ot1 ph 0 b2.length,ot2 ph 0 b2.length] N8 ?_;refine c8 ?_;refine cC ?_ ?_ <;> intro h3
   ·have hi11:v11=true:=sp_ h3;have hq:=(T8 (hv11.symm.trans hi11)).2;have hmm:=hs11 hi11;subst m11;have hop:opS (tk T m) (2:Nat)=2:=by
     show opS (tk T m) 2=2;rw [d7l,if_neg b6S,if_pos hq]
    rw [if_neg (by rw [hop];decide),hop] at hS;refine b0Z ?_;refine de rfl c86 i7 (hB g om_ d (m+1) a2 b2 hm11 hb2 hd0 om_ _ 0 (kf ph) a0J) rfl ?_;rintro ⟨x3,n3,a3,e3,b3⟩ ⟨k3,y3,w3,z3,l3,u3⟩;dsimp only at k3 y3 w3 z3 l3 u3 ⊢;refine c5 [rbx T n3 a3 e3 ps b3 4,.dead,.dead,.dead,p7 e3 b3.length] N8 ?_;refine b6A ?_;refine a98 ?_;refine de rfl a4I C0 (M3 w3 ⟨4,0,2,[],[x,x3]⟩ _ ⟨rfl,rfl,de_⟩) rfl ?_;rintro ⟨x4,a4,e4,b4⟩ ⟨k4,w4,l4,u4⟩;dsimp only at k4 w4 l4 u4 ⊢;refine c5 [rbx T n3 a4 e4 ps b4 5,.dead,.dead,.dead,.dead,p7 e4 b4.length] rfl ?_;have hfu:e3=0->n < n3/\8*(T.length - n3)+3<=g:=fun h0=>by have:=z3 h0;omega
    have hme:(if e4=0 then T.length - n3+1 else 0) < (if (0:Int)=0 then T.length - m+1 else 0):=by
     rw [if_pos rfl]
     split
     ·rename_i h0;have:=z3 (k4.alive h0).1;omega
     ·omega
    have hst:=a3i (K:=fun i m c=>(z8 T ps g).lp 2 d i m c) hS k3 (fun j hj=>by rw [hi,hj];exact k4) k4.2;exact d8I
   ·have hi11:v11=false:=sp_ h3;have hmm:=hf11 hi11;subst m11;refine a2y ?_;exact ⟨_,j2 rfl tt c4,(by exact ⟨⟨x,m,a2,0,b2⟩,d8L,b8s (hS.trans (if_pos (by show opS (tk T m) 2=0;rw [d7l,if_neg b6S,if_neg (by rw [Q8 hv11 hi11];decide)]))) hi hm hb2 hnm hx1 hx2⟩)⟩
 ·have he:e≠0:=sp_ h1;refine a2y ?_;exact ⟨_,j2 rfl tt c4,d9I⟩
theorem d7C {ps:List Str} (hc:a0b T ps) (H:∀ g,g < f0->RTC T ps g):RSC T ps f0:=fun d n at_ b hn hb hd hf σ q s hσ=>by
 obtain ⟨f,rfl⟩:∃ f,f0=f+1:=⟨f0 - 1,om_⟩;exact a1R (c:=fun a:RX=>(iv a.x)) (N:=fun a=>a.n) (A:=fun a=>a.at_) (E:=fun a=>a.e) (B:=fun a=>a.b) (fun _ h=>by simp at h;subst h;exact .val _) (fun _=>.val _) (d1Z hc (fun g hg=>H g om_) d n at_ b hn hb hd hf) hσ
theorem c6F {ps:List Str} (hc:a0b T ps) (hB:∀ g,g<=f->RFC T ps g) (d n:Nat) (at_:Int) (b:List Ex) (hn:n < T.length) (hb:b.length<=256) (hd0:d<=32) (hf:8*(T.length - n)+6<=f+2+3):b8 CC 300 [.ptr 0 0,iv d] (rst T n at_ 0 ps b) (fun r τ=>∃ a:RX,F1 2 τ r (.ret (iv a.x)) (a61 T a.n a.at_ a.e ps a.b)/\RXP T n 0 ((z8 T ps (f+2)).bin 3 d n b) a):=by
 have hT:=hc.len;have hW:=hc.w;have hsp:=d8B (T:=T) (ps:=ps) (f:=f+1) (d:=d) (n:=n) (lv:=3) (b:=b) de_;rw [d8N] at hsp;refine cO Tryz.func300 ?_;refine a11 ?_;refine de rfl c1p i7 (hB f om_ d n at_ b hn hb hd0 om_ _ 0 1 ⟨rfl,rfl,de_⟩) rfl ?_;rintro ⟨x1,n1,a1,e1,b1⟩ ⟨k1,y1,w1,z1,l1,u1⟩;dsimp only at k1 y1 w1 z1 l1 u1 ⊢;refine c5 [rbx T n1 a1 e1 ps b1 2,.dead,p7 e1 b1.length] rfl ?_;have hfu:e1=0->8*(T.length - n1)+3<=(f+1):=fun h0=>by have:=z1 h0;omega
 have hst:=b06 (K:=fun i m c=>(z8 T ps (f+1)).lp 3 d i m c) hsp k1;refine b43 ?_;refine B2 hCC 3 rfl (α:=RL) (fun a=>[(0,.ptr 0 0),(1,iv d),(5,iv a.x)]) (fun a=>[rbx T a.m a.at_ a.e ps a.b (kf a.ph),.dead,ot1 a.ph a.e a.b.length,ot2 a.ph a.e a.b.length]) (fun a=>(a.e=0->∃ i:Nat,(i:Int)=a.x/\(z8 T ps (f+2)).bin 3 d n b=(z8 T ps a.g).lp 3 d i a.m a.b/\n < a.m/\8*(T.length - a.m)+3<=a.g)/\(a.e≠0->(z8 T ps (f+2)).bin 3 d n b=none)/\a.m < T.length/\a.b.length<=256/\-1<=a.x/\a.x<=256/\a.g<=f+1) (fun a=>if a.e=0 then T.length - a.m+1 else 0) ⟨⟨x1,n1,a1,e1,b1,false,(f+1)⟩,[0,1,2,7],⟨fun h0=>(hst.1 h0).elim fun i hi=>⟨i,hi.1,hi.2,z1 h0,hfu h0⟩,hst.2,y1,w1,l1,u1,n_4 _⟩,⟨rfl,rfl⟩,ut_,uq_⟩ ?_;intro ⟨x,m,a2,e,b2,ph,g⟩ ⟨hI,hN,hm,hb2,hx1,hx2,hgf⟩;dsimp only at hI hN hm hb2 hx1 hx2 hgf ⊢;refine a9Y ?_;refine O1 ?_;refine cC ?_ ?_ <;> intro h1
 ·obtain rfl:e=0:=sp_ h1;obtain ⟨i,hi,hS,hnm,hg⟩:=hI rfl;clear hI;obtain ⟨g,rfl⟩:∃ g',g=g'+1:=⟨g - 1,om_⟩;rw [lpS de_] at hS;obtain ⟨g,rfl⟩:∃ g',g=g'+1:=⟨g - 1,om_⟩;rw [d8N] at hS;refine a21 ?_;refine z_2 ?_;refine ye rfl a7k ⟨tt,tt⟩ (Y9 hT hm (q:=0) (s:=kf ph) a0J) rfl ?_;refine cY a4z ?_;refine cY a2H ?_;refine a4y ?_;refine de rfl a8E o7 (V4 hT hm hW [42] (q:=0) (s:=kf ph) a0J) rfl ?_;rintro ⟨v10,m10⟩ ⟨hv10,hs10,hf10,hm10⟩;dsimp only at hv10 hs10 hf10 hm10 ⊢;refine c5 [rbx T m10 a2 0 ps b2 (kf ph),.dead,ot1 ph 0 b2.length,ot2 ph 0 b2.length] N8 ?_;refine c8 ?_;refine cC ?_ ?_ <;> intro h2
  ·have hi10:v10=true:=sp_ h2;have hq:=(T8 (hv10.symm.trans hi10)).2;have hmm:=hs10 hi10;subst m10;have hop:opS (tk T m) (3:Nat)=3:=by
    show opS (tk T m) 3=3;rw [op3,if_pos hq]
   rw [if_neg (by rw [hop];decide),hop] at hS;refine b0Z ?_;refine de rfl c1p i7 (hB g om_ d (m+1) a2 b2 hm10 hb2 hd0 om_ _ 0 (kf ph) a0J) rfl ?_;rintro ⟨x3,n3,a3,e3,b3⟩ ⟨k3,y3,w3,z3,l3,u3⟩;dsimp only at k3 y3 w3 z3 l3 u3 ⊢;refine c5 [rbx T n3 a3 e3 ps b3 4,.dead,.dead,.dead,p7 e3 b3.length] N8 ?_;refine b6A ?_;refine a98 ?_;refine de rfl a4I C0 (M3 w3 ⟨4,0,3,[],[x,x3]⟩ _ ⟨rfl,rfl,de_⟩) rfl ?_;rintro ⟨x4,a4,e4,b4⟩ ⟨k4,w4,l4,u4⟩;dsimp only at k4 w4 l4 u4 ⊢;refine c5 [rbx T n3 a4 e4 ps b4 5,.dead,.dead,.dead,.dead,p7 e4 b4.length] rfl ?_;have hfu:e3=0->n < n3/\8*(T.length - n3)+3<=(g+1):=fun h0=>by have:=z3 h0;omega
   have hme:(if e4=0 then T.length - n3+1 else 0) < (if (0:Int)=0 then T.length - m+1 else 0):=by
    rw [if_pos rfl]
    split
    ·rename_i h0;have:=z3 (k4.alive h0).1;omega
    ·omega
   have hst:=a3i (K:=fun i m c=>(z8 T ps (g+1)).lp 3 d i m c) hS k3 (fun j hj=>by rw [hi,hj];exact k4) k4.2;exact d7X
  ·have hi10:v10=false:=sp_ h2;have hmm:=hf10 hi10;subst m10;refine z_2 ?_;refine de rfl a8E o7 (V4 hT hm hW [47] (q:=0) (s:=kf ph) a0J) rfl ?_;rintro ⟨v11,m11⟩ ⟨hv11,hs11,hf11,hm11⟩;dsimp only at hv11 hs11 hf11 hm11 ⊢;refine c5 [rbx T m11 a2 0 ps b2 (kf ph),.dead,ot1 ph 0 b2.length,ot2 ph 0 b2.length] N8 ?_;refine c8 ?_;refine cC ?_ ?_ <;> intro h3
   ·have hi11:v11=true:=sp_ h3;have hq:=(T8 (hv11.symm.trans hi11)).2;have hmm:=hs11 hi11;subst m11;have hop:opS (tk T m) (3:Nat)=4:=by
     show opS (tk T m) 3=4;rw [op3,if_neg b6S,if_pos hq]
    rw [if_neg (by rw [hop];decide),hop] at hS;refine b0Z ?_;refine de rfl c1p i7 (hB g om_ d (m+1) a2 b2 hm11 hb2 hd0 om_ _ 0 (kf ph) a0J) rfl ?_;rintro ⟨x3,n3,a3,e3,b3⟩ ⟨k3,y3,w3,z3,l3,u3⟩;dsimp only at k3 y3 w3 z3 l3 u3 ⊢;refine c5 [rbx T n3 a3 e3 ps b3 4,.dead,.dead,.dead,p7 e3 b3.length] N8 ?_;refine b6A ?_;refine a98 ?_;refine de rfl a4I C0 (M3 w3 ⟨4,0,4,[],[x,x3]⟩ _ ⟨rfl,rfl,de_⟩) rfl ?_;rintro ⟨x4,a4,e4,b4⟩ ⟨k4,w4,l4,u4⟩;dsimp only at k4 w4 l4 u4 ⊢;refine c5 [rbx T n3 a4 e4 ps b4 5,.dead,.dead,.dead,.dead,p7 e4 b4.length] rfl ?_;have hfu:e3=0->n < n3/\8*(T.length - n3)+3<=(g+1):=fun h0=>by have:=z3 h0;omega
    have hme:(if e4=0 then T.length - n3+1 else 0) < (if (0:Int)=0 then T.length - m+1 else 0):=by
     rw [if_pos rfl]
     split
     ·rename_i h0;have:=z3 (k4.alive h0).1;omega
     ·omega
    have hst:=a3i (K:=fun i m c=>(z8 T ps (g+1)).lp 3 d i m c) hS k3 (fun j hj=>by rw [hi,hj];exact k4) k4.2;exact d7X
   ·have hi11:v11=false:=sp_ h3;have hmm:=hf11 hi11;subst m11;refine z_2 ?_;refine de rfl a8E o7 (V4 hT hm hW [37] (q:=0) (s:=kf ph) a0J) rfl ?_;rintro ⟨v12,m12⟩ ⟨hv12,hs12,hf12,hm12⟩;dsimp only at hv12 hs12 hf12 hm12 ⊢;refine c5 [rbx T m12 a2 0 ps b2 (kf ph),.dead,ot1 ph 0 b2.length,ot2 ph 0 b2.length] N8 ?_;refine c8 ?_;refine cC ?_ ?_ <;> intro h4
    ·have hi12:v12=true:=sp_ h4;have hq:=(T8 (hv12.symm.trans hi12)).2;have hmm:=hs12 hi12;subst m12;have hop:opS (tk T m) (3:Nat)=5:=by
      show opS (tk T m) 3=5;rw [op3,if_neg b6S,if_neg (by rw [Q8 hv11 hi11];decide),if_pos hq]
     rw [if_neg (by rw [hop];decide),hop] at hS;refine b0Z ?_;refine de rfl c1p i7 (hB g om_ d (m+1) a2 b2 hm12 hb2 hd0 om_ _ 0 (kf ph) a0J) rfl ?_;rintro ⟨x3,n3,a3,e3,b3⟩ ⟨k3,y3,w3,z3,l3,u3⟩;dsimp only at k3 y3 w3 z3 l3 u3 ⊢;refine c5 [rbx T n3 a3 e3 ps b3 4,.dead,.dead,.dead,p7 e3 b3.length] N8 ?_;refine b6A ?_;refine a98 ?_;refine de rfl a4I C0 (M3 w3 ⟨4,0,5,[],[x,x3]⟩ _ ⟨rfl,rfl,de_⟩) rfl ?_;rintro ⟨x4,a4,e4,b4⟩ ⟨k4,w4,l4,u4⟩;dsimp only at k4 w4 l4 u4 ⊢;refine c5 [rbx T n3 a4 e4 ps b4 5,.dead,.dead,.dead,.dead,p7 e4 b4.length] rfl ?_;have hfu:e3=0->n < n3/\8*(T.length - n3)+3<=(g+1):=fun h0=>by have:=z3 h0;omega
     have hme:(if e4=0 then T.length - n3+1 else 0) < (if (0:Int)=0 then T.length - m+1 else 0):=by
      rw [if_pos rfl]
      split
      ·rename_i h0;have:=z3 (k4.alive h0).1;omega
      ·omega
     have hst:=a3i (K:=fun i m c=>(z8 T ps (g+1)).lp 3 d i m c) hS k3 (fun j hj=>by rw [hi,hj];exact k4) k4.2;exact d7X
    ·have hi12:v12=false:=sp_ h4;have hmm:=hf12 hi12;subst m12;refine a2y ?_;exact ⟨_,j2 rfl tt c4,(by exact ⟨⟨x,m,a2,0,b2⟩,d8L,b8s (hS.trans (if_pos (by show opS (tk T m) 3=0;rw [op3,if_neg b6S,if_neg (by rw [Q8 hv11 hi11];decide),if_neg (by rw [Q8 hv12 hi12];decide)]))) hi hm hb2 hnm hx1 hx2⟩)⟩
 ·have he:e≠0:=sp_ h1;refine a2y ?_;exact ⟨_,j2 rfl tt c4,d9I⟩
theorem d1K {ps:List Str} (hc:a0b T ps) (H:∀ g,g < f0->RFC T ps g):RTC T ps f0:=fun d n at_ b hn hb hd hf σ q s hσ=>by
 obtain ⟨f,rfl⟩:∃ f,f0=f+2:=⟨f0 - 2,om_⟩;exact a1R (c:=fun a:RX=>(iv a.x)) (N:=fun a=>a.n) (A:=fun a=>a.at_) (E:=fun a=>a.e) (B:=fun a=>a.b) (fun _ h=>by simp at h;subst h;exact .val _) (fun _=>.val _) (c6F hc (fun g hg=>H g om_) d n at_ b hn hb hd hf) hσ
theorem P0 {k:Int} {s:Str} (h:isT t k s=true):t.k=k/\t.t=s:=by simpa [isT] using h
theorem b08 {ps:List Str} {d n:Nat} {b:List Ex}:(z8 T ps (f+1)).fac d n b=(G0 T ps (z8 T ps f)).fac d n b:=rfl
theorem d2C {ps:List Str} {d n:Nat} {b:List Ex} (h:(tk T n).k=2):(z8 T ps (f+1)).fac d n b=K4 b ⟨1,(tk T n).n,0,[],[]⟩ (n+1):=by
 rw [b08];simp only [G0];rw [if_pos h]
theorem d1r {ps:List Str} {d n:Nat} {b:List Ex} (h:isT (tk T n) 4 [45]=true):(z8 T ps (f+1)).fac d n b=(F8 T (n+1) 2).bind fun y=>K4 b ⟨1,-y.1.n,0,[],[]⟩ y.2:=by
 rw [b08];simp only [G0];rw [if_neg (by rw [(P0 h).1];decide),if_pos h]
theorem d1s {ps:List Str} {d n:Nat} {b:List Ex} (h:isT (tk T n) 4 [40]=true):(z8 T ps (f+1)).fac d n b=((z8 T ps f).ex (d+1) (n+1) b).bind fun x=>(pIs T x.2.1 4 [41]).bind fun m=>some (x.1,m,x.2.2):=by
 rw [b08];simp only [G0];rw [if_neg (by rw [(P0 h).1];decide),if_neg (by simp [isT,(P0 h).2]),if_pos h]
theorem a5X {ps:List Str} {d n:Nat} {b:List Ex} (h:isT (tk T n) 1 u=true) (hu:u=[114,101,97,100]\/u=[115,105,122,101]\/u=[104,97,115]\/u=[101,110,118]\/u=[102,108,105,112]):(z8 T ps (f+1)).fac d n b=W6 T (z8 T ps f) u d (n+1) b:=by
 obtain ⟨hk,ht⟩:=P0 h;rw [b08];simp only [G0];rw [if_neg (by rw [hk];decide),if_neg (by simp [isT,hk]),if_neg (by simp [isT,hk]),if_neg (by simp [hk]),ht,if_pos hu]
theorem a5t {k:Int} {s:Str} (h:isT t k s=false) (hk:t.k=k):¬ t.t=s:=by
 intro e;simp [isT,hk,e] at h
theorem c6J {ps:List Str} {d n:Nat} {b:List Ex} (h1:¬ (tk T n).k=2) (h2:isT (tk T n) 4 [45]=false) (h3:isT (tk T n) 4 [40]=false) (h4:isT (tk T n) 1 [114,101,97,100]=false) (h5:isT (tk T n) 1 [115,105,122,101]=false) (h6:isT (tk T n) 1 [104,97,115]=false) (h7:isT (tk T n) 1 [101,110,118]=false) (h8:isT (tk T n) 1 [102,108,105,112]=false) :
 (z8 T ps (f+1)).fac d n b=(J1 T n).bind fun s=>if isT (tk T s.2) 4 [40]=true then (a2B T (z8 T ps f) d s.2 b).bind fun a=>K4 a.2.2 ⟨3,0,0,s.1.t,a.1⟩ a.2.1 else if ixS ps s.1.t 0 < 0 then none else K4 b ⟨2,ixS ps s.1.t 0,0,[],[]⟩ s.2:=by
 rw [b08];simp only [G0];rw [if_neg h1,if_neg (by rw [h2];decide),if_neg (by rw [h3];decide)];by_cases hk:(tk T n).k=1
 ·rw [if_neg (fun h=>h hk),if_neg (by
   rintro (h | h | h | h | h)
   ·exact a5t h4 hk h
   ·exact a5t h5 hk h
   ·exact a5t h6 hk h
   ·exact a5t h7 hk h
   ·exact a5t h8 hk h)]
  by_cases hr:P5 (tk T n).t=true
  ·rw [if_pos hr];simp [J1,F8,hk,hr]
  ·rw [if_neg hr];simp [J1,F8,hk,hr]
 ·rw [if_pos hk];simp [J1,F8,hk]
theorem d1E {d n:Nat} {b:List Ex}:W6 T F [114,101,97,100] d n b=(pIs T n 4 [40]).bind fun n1=>(a1p T true n1).bind fun s=>(pIs T s.2 4 [44]).bind fun n2=>(F.ex (d+1) n2 b).bind fun x=>(pIs T x.2.1 4 [41]).bind fun m=>K4 x.2.2 ⟨6,0,0,s.1.t,[(x.1:Int)]⟩ m:=by
 simp only [a3W];rfl
theorem d2R {d n:Nat} {b:List Ex}:W6 T F [115,105,122,101] d n b=(pIs T n 4 [40]).bind fun n1=>(a1p T true n1).bind fun s=>(pIs T s.2 4 [41]).bind fun m=>K4 b ⟨7,0,0,s.1.t,[]⟩ m:=by
 simp only [a3W];rfl
theorem d6P {d n:Nat} {b:List Ex}:W6 T F [104,97,115] d n b=(pIs T n 4 [40]).bind fun n1=>(a1p T true n1).bind fun s=>(pIs T s.2 4 [41]).bind fun m=>K4 b ⟨8,0,0,s.1.t,[]⟩ m:=by
 simp only [a3W];rfl
theorem d7Z {d n:Nat} {b:List Ex}:W6 T F [101,110,118] d n b=(pIs T n 4 [40]).bind fun n1=>(a1p T false n1).bind fun s=>(pIs T s.2 4 [41]).bind fun m=>K4 b ⟨9,0,0,s.1.t,[]⟩ m:=by
 have e:W6 T F [101,110,118] d n b=(pIs T n 4 [40]).bind fun n1=>(F8 T n1 3).bind fun s=>if C8 s.1.t=true then (pIs T s.2 4 [41]).bind fun m=>K4 b ⟨9,0,0,s.1.t,[]⟩ m else none:=rfl
 rw [e];refine congrArg _ (funext fun n1=>?_);unfold a1p;cases F8 T n1 3 with
 | none=>rfl
 | some s =>
  simp only [n_6];by_cases h:C8 s.1.t=true
  ·simp [h]
  ·simp [h]
theorem c3F {d n:Nat} {b:List Ex}:W6 T F [102,108,105,112] d n b=(pIs T n 4 [40]).bind fun n1=>(F8 T n1 2).bind fun s=>if 64<=s.1.n then none else (pIs T s.2 4 [41]).bind fun m=>K4 b ⟨10,s.1.n,0,[],[]⟩ m:=rfl
theorem K0 {n:Nat} {k e:Int} (q:Ok e (pIs T n k u) e' n') (h:e'=0):e=0/\n'=n+1:=⟨(q.alive h).1,O4 (q.alive h).2⟩
theorem b0S {n:Nat} {k:Int} {x:Tok × Nat} (hk:k≠5) (h:F8 T n k=some x):x=(tk T n,n+1)/\(tk T n).k=k:=by
 unfold F8 at h;by_cases h1:(tk T n).k=k
 ·rw [if_pos h1,if_neg hk] at h;injection h with h
  exact ⟨h.symm,h1⟩
 ·rw [if_neg h1] at h;cases h
theorem c6Y {n:Nat} {e:Int} (q:Ok e ((F8 T n 2).map fun x=>(x.1.n,x.2)) e' (x,n')) (h:e'=0):e=0/\n'=n+1:=by
 obtain ⟨h1,h2⟩:=q.alive h;obtain ⟨p,hp,hg⟩:=O3.1 h2;obtain ⟨rfl,_⟩:=b0S de_ hp;injection hg with _ hg
 exact ⟨h1,hg.symm⟩
theorem d7f {n:Nat} (q:Ok 0 ((F8 T n 2).map fun x=>(x.1.n,x.2)) e' (x,n')) (hk:(tk T n).k=2):e'=0/\x=(tk T n).n/\n'=n+1:=by
 have hp:F8 T n 2=some (tk T n,n+1):=by
  unfold F8;rw [if_pos hk,if_neg de_]
 rw [hp] at q
 rcases q.zero with ⟨h1,h2⟩ | ⟨_,h2⟩
 ·injection h2 with h2
  injection h2 with h3 h4
  exact ⟨h1,h3.symm,h4.symm⟩
 ·cases h2
theorem a7v {n:Nat} {e:Int} {p:Bool} {x:Str} (q:Ok e ((a1p T p n).map fun x=>(x.1.t,x.2)) e' (x,n')) (h:e'=0):e=0/\n'=n+1:=by
 obtain ⟨h1,h2⟩:=q.alive h;obtain ⟨t,hp,hg⟩:=O3.1 h2;obtain ⟨y,hy,hz⟩:=c79.1 hp;obtain ⟨rfl,_⟩:=b0S de_ hy;by_cases hc:(if p=true then H5 (tk T n).t else C8 (tk T n).t)=true
 ·rw [if_pos hc] at hz;injection hz with hz
  subst hz;injection hg with _ hg
  exact ⟨h1,hg.symm⟩
 ·rw [if_neg hc] at hz;cases hz
theorem b0y {n:Nat} {e:Int} {x:Str} (q:Ok e ((J1 T n).map fun x=>(x.1.t,x.2)) e' (x,n')) (h:e'=0):e=0/\n'=n+1/\x=(tk T n).t/\J1 T n=some (tk T n,n+1):=by
 obtain ⟨h1,h2⟩:=q.alive h;obtain ⟨t,hp,hg⟩:=O3.1 h2;obtain ⟨y,hy,hz⟩:=c79.1 hp;obtain ⟨rfl,_⟩:=b0S de_ hy;by_cases hc:P5 (tk T n).t=true
 ·rw [if_pos hc] at hz;cases hz
 ·rw [if_neg hc] at hz;injection hz with hz
  subst hz;injection hg with hg1 hg
  exact ⟨h1,hg.symm,hg1.symm,hp⟩
def a5s (T:List Tok) (ps:List Str) (d g m:Nat) (b:List Ex) (l:List Int):Option (List Int × Nat × List Ex) :=
 if l=[] then (if isT (tk T m) 4 [41]=true then some ([],m+1,b) else (z8 T ps g).ag d m b [])
 else if isT (tk T m) 4 [44]=true then (z8 T ps g).ag d (m+1) b l else (pIs T m 4 [41]).bind fun m'=>some (l,m',b)
theorem c4C {ps:List Str} {d n:Nat} {b:List Ex} (h:isT (tk T n) 4 [40]=true):a2B T (z8 T ps f) d n b=a5s T ps d f (n+1) b []:=by
 unfold a2B pIs a5s;rw [if_pos h,n_6,if_pos rfl]
theorem c5I {ps:List Str} {d g m:Nat} {b:List Ex} {l:List Int} (h:isT (tk T m) 4 [41]=true):a5s T ps d g m b l=some (l,m+1,b):=by
 unfold a5s;by_cases hl:l=[]
 ·rw [if_pos hl,if_pos h,hl]
 ·rw [if_neg hl,if_neg (by simp [isT,(P0 h).2]),pIs,if_pos h];rfl
theorem c1i {ps:List Str} {d g m:Nat} {b:List Ex} {l:List Int} (h:isT (tk T m) 4 [41]=false) (hl:l≠[]):a5s T ps d g m b l=(pIs T m 4 [44]).bind fun m'=>(z8 T ps g).ag d m' b l:=by
 unfold a5s;rw [if_neg hl];unfold pIs;by_cases h4:isT (tk T m) 4 [44]=true
 ·rw [if_pos h4,if_pos h4];rfl
 ·rw [if_neg h4,if_neg h4,if_neg (by rw [h];decide)];rfl
theorem b9m {ps:List Str} {d g m:Nat} {b:List Ex} (h:isT (tk T m) 4 [41]=false):a5s T ps d g m b []=(some m).bind fun m'=>(z8 T ps g).ag d m' b []:=by
 unfold a5s;rw [if_pos rfl,if_neg (by rw [h];decide)];rfl
theorem agS {ps:List Str} {g d n:Nat} {b:List Ex} {l:List Int}:(z8 T ps (g+1)).ag d n b l=((z8 T ps g).ex (d+1) n b).bind fun x=>a5s T ps d g x.2.1 x.2.2 (l++[(x.1:Int)]):=by
 show ((z8 T ps g).ex (d+1) n b).bind _=_;refine congrArg _ (funext fun x=>?_);unfold a5s;exact (if_neg si_).symm
theorem b7g {S:Option PX} {o:Option Nat} {X:Nat->Option PX} {R:PX->Option (List Int × Nat × List Ex)} {P:List Int × Nat × List Ex->Option PX} {x3:Int} {b3:List Ex} (hs:S=(o.bind fun m=>(X m).bind R).bind P) (q:Ok 0 o e2 n2) (k:Ok e2 ((X n2).map cx) e3 (x3,n3,b3)) :
 (e3=0->e2=0/\∃ j:Nat,(j:Int)=x3/\S=(R (j,n3,b3)).bind P)/\(e3≠0->S=none):=by
 rcases q.zero with ⟨h2,ho⟩ | ⟨h2,ho⟩
 ·subst h2
  rcases k.zero with ⟨h3,hX⟩ | ⟨h3,hX⟩
  ·obtain ⟨j,hj,hX⟩:=b53 hX;exact ⟨fun _=>⟨rfl,j,hj,by rw [hs,ho,n_6,hX];rfl⟩,fun h=>absurd h3 h⟩
  ·exact ⟨fun h=>absurd h h3,fun _=>by rw [hs,ho,n_6,b5H hX];rfl⟩
 ·exact ⟨fun h=>absurd h (k.2 h2),fun _=>by rw [hs,ho];rfl⟩
structure RG where
 l:List Int
 m:Nat
 at_:Int
 e:Int
 b:List Ex
 ph:Bool
 g:Nat
variable {g:Nat}
def kg5 (ph:Bool):Nat:=if ph=true then 4 else 1
theorem c0B {ps:List Str} (hc:a0b T ps) (hE:∀ g,g<=f->REC T ps g) (d n:Nat) (at_:Int) (b:List Ex) (hn:n < T.length) (hb:b.length<=256) (hd0:d<=32) (hf:8*(T.length - n)+1<=f+1):b8 CC 316 [.ptr 0 0,iv d] (rst T n at_ 0 ps b) (fun r τ=>∃ a:RX,F1 2 τ r (.ret (iv a.x)) (a61 T a.n a.at_ a.e ps a.b)/\RXP T n 0 ((z8 T ps (f+1)).fac d n b) a):=by
 have hT:=hc.len;have hW:=hc.w;refine cO Tryz.func316 ?_;refine b6U ?_;refine a62 ?_;refine S5 ?_;refine a2z ?_;refine b43 ?_;refine a6K ?_;refine a73 ?_;refine cC ?_ ?_ <;> intro h1
 ·simp at h1
 ·refine z_0 ?_;refine a2z ?_;refine a73 ?_;refine cC ?_ ?_ <;> intro h2
  ·have hk:(tk T n).k=2:=sp_ h2;refine z_5 ?_;refine de rfl c8D ⟨tt,tt⟩ (a9g hT hn hW hc.nn ⟨rfl,rfl,de_⟩) rfl ?_;rintro ⟨x1,n1,a1,e1⟩ ⟨q1,y1,l1,u1⟩;dsimp only at q1 y1 l1 u1 ⊢;refine c5 [rbx T n1 a1 e1 ps b 1,p7 e1 b.length,.box (tk T n).cells] rfl ?_;obtain ⟨rfl,rfl,rfl⟩:=d7f q1 hk;refine b7Y ?_;refine de rfl a4I C0 (M3 hb ⟨1,(tk T n).n,0,[],[]⟩ _ ⟨rfl,rfl,de_⟩) rfl ?_;rintro ⟨x6,a6,e6,b6⟩ ⟨k6,w6,l6,u6⟩;dsimp only at k6 w6 l6 u6 ⊢;refine c5 [rbx T (n+1) a6 e6 ps b6 3,.dead,.box (tk T n).cells,p7 e6 b6.length] rfl ?_;refine z_7 ?_;exact ⟨_,j2 rfl tt c4,(by exact ⟨⟨x6,n+1,a6,e6,b6⟩,T4 (k:=3) rfl rfl de_ (.val _),⟨by rw [d2C hk];exact a13 k6,do_,w6,fun h0=>by dsimp only;omega,l6,u6⟩⟩)⟩
  ·have hk:¬ (tk T n).k=2:=sp_ h2;refine z_2 ?_;refine de rfl a8E o7 (V4 hT hn hW [45] ⟨rfl,rfl,de_⟩) rfl ?_;rintro ⟨v1,m1⟩ ⟨hv1,hs1,hf1,hm1⟩;dsimp only at hv1 hs1 hf1 hm1 ⊢;refine c5 [rbx T m1 at_ 0 ps b 1,p7 0 b.length,.box (tk T n).cells] rfl ?_;refine z_1 ?_;refine cC ?_ ?_ <;> intro h3
   ·have hi1:v1=true:=sp_ h3;have hq:=(T8 (hv1.symm.trans hi1)).2;have hmm:=hs1 hi1;subst m1;refine z_5 ?_;refine de rfl c8D ⟨tt,tt⟩ (a9g hT hm1 hW hc.nn ⟨rfl,rfl,de_⟩) rfl ?_;rintro ⟨x2,n2,a2,e2⟩ ⟨q2,y2,l2,u2⟩;dsimp only at q2 y2 l2 u2 ⊢;refine c5 [rbx T n2 a2 e2 ps b 1,p7 e2 b.length,.box (tk T n).cells] rfl ?_;have ew : -x2=IntKind.i64.wrap (0 - x2):=by rw [b0g om_ om_];omega
    refine cY (c9w rfl tt rfl) ?_;refine b7Y ?_;refine de rfl a4I C0 (M3 hb ⟨1,IntKind.i64.wrap (0 - x2),0,[],[]⟩ _ ⟨rfl,rfl,de_⟩) rfl ?_;rintro ⟨x6,a6,e6,b6⟩ ⟨k6,w6,l6,u6⟩;dsimp only at k6 w6 l6 u6 ⊢;refine c5 [rbx T n2 a6 e6 ps b6 3,.dead,.box (tk T n).cells,p7 e6 b6.length] rfl ?_;refine z_7 ?_;exact ⟨_,j2 rfl tt c4,(by exact ⟨⟨x6,n2,a6,e6,b6⟩,T4 (k:=3) rfl rfl de_ (.val _),⟨by rw [d1r hq];exact q2.bindI (fun t ht=>a13 (by rw [ht,ew];exact k6)) k6.2,do_,w6,fun h0=>by have:=(c6Y q2 (k6.alive h0).1).2;dsimp only;omega,l6,u6⟩⟩)⟩
   ·have hi1:v1=false:=sp_ h3;have hg1:=Q8 hv1 hi1;have hmm:=hf1 hi1;subst m1;refine z_2 ?_;refine de rfl a8E o7 (V4 hT hn hW [40] ⟨rfl,rfl,de_⟩) rfl ?_;rintro ⟨v2,m2⟩ ⟨hv2,hs2,hf2,hm2⟩;dsimp only at hv2 hs2 hf2 hm2 ⊢;refine c5 [rbx T m2 at_ 0 ps b 1,p7 0 b.length,.box (tk T n).cells] rfl ?_;refine z_1 ?_;refine cC ?_ ?_ <;> intro h4
    ·have hi2:v2=true:=sp_ h4;have hq:=(T8 (hv2.symm.trans hi2)).2;have hmm:=hs2 hi2;subst m2;refine a4x ?_;refine de rfl b7T i7 (hE f (n_4 _) (d+1) (n+1) at_ 0 b hm2 hb om_ (fun _=>by omega) _ 0 1 ⟨rfl,rfl,de_⟩) rfl ?_;rintro ⟨x3,n3,a3,e3,b3⟩ ⟨k3,y3,w3,z3,l3,u3⟩;dsimp only at k3 y3 w3 z3 l3 u3 ⊢;refine c5 [rbx T n3 a3 e3 ps b3 3,.dead,.box (tk T n).cells,p7 e3 b3.length] rfl ?_;refine O0 ?_;refine de rfl a4G o7 (L8 hT y3 hW [41] ⟨rfl,rfl,de_⟩) rfl ?_;rintro ⟨n4,a4,e4⟩ ⟨q4,y4⟩;dsimp only at q4 y4 ⊢;refine c5 [rbx T n4 a4 e4 ps b3 3,.dead,.box (tk T n).cells,p7 e4 b3.length] rfl ?_;refine L7 ?_;refine z_7 ?_;exact ⟨_,j2 rfl tt c4,(by exact ⟨⟨x3,n4,a4,e4,b3⟩,T4 (k:=3) rfl rfl de_ (.val _),⟨by rw [d1s hq];exact k3.bindX (fun i hi=>q4.bindP (by rw [<- hi];exact .some)) q4.2,y4,w3,fun h0=>by have g:=K0 q4 h0;have:=z3 g.1;dsimp only;omega,l3,u3⟩⟩)⟩
    ·have hi2:v2=false:=sp_ h4;have hg2:=Q8 hv2 hi2;have hmm:=hf2 hi2;subst m2;refine z_2 ?_;refine de rfl b0l o7 (Y1 hT hn hW [114,101,97,100] ⟨rfl,rfl,de_⟩) rfl ?_;rintro ⟨v3,m3⟩ ⟨hv3,hs3,hf3,hm3⟩;dsimp only at hv3 hs3 hf3 hm3 ⊢;refine c5 [rbx T m3 at_ 0 ps b 1,p7 0 b.length,.box (tk T n).cells] rfl ?_;refine z_1 ?_;refine cC ?_ ?_ <;> intro h5
     ·have hi3:v3=true:=sp_ h5;have hq:=(T8 (hv3.symm.trans hi3)).2;have hmm:=hs3 hi3;subst m3;refine z_2 ?_;refine de rfl a4G o7 (L8 hT hm3 hW [40] ⟨rfl,rfl,de_⟩) rfl ?_;rintro ⟨n1,a1,e1⟩ ⟨q1,y1⟩;dsimp only at q1 y1 ⊢;refine d3R ?_;refine de rfl c3J o7 (b0D hT y1 hW true hc.l ⟨rfl,rfl,de_⟩) rfl ?_;rintro ⟨s2,n2,a2,e2⟩ ⟨q2,y2⟩;dsimp only at q2 y2 ⊢;refine d6f ?_;refine de rfl a4G o7 (L8 hT y2 hW [44] ⟨rfl,rfl,de_⟩) rfl ?_;rintro ⟨n3,a3,e3⟩ ⟨q3,y3⟩;dsimp only at q3 y3 ⊢;refine c4u ?_;refine a4x ?_;refine de rfl b7T i7 (hE f (n_4 _) (d+1) n3 a3 e3 b y3 hb om_ (fun h0=>by have g:=K0 q3 h0;have g':=a7v q2 g.1;have:=K0 q1 g'.1;omega) _ 0 1 ⟨rfl,rfl,de_⟩) rfl ?_;rintro ⟨x4,n4,a4,e4,b4⟩ ⟨k4,y4,w4,z4,l4,u4⟩;dsimp only at k4 y4 w4 z4 l4 u4 ⊢;refine c5 [rbx T n4 a4 e4 ps b4 3,.dead,.box (tk T n).cells,p7 e4 b4.length] rfl ?_;refine O0 ?_;refine de rfl a4G o7 (L8 hT y4 hW [41] ⟨rfl,rfl,de_⟩) rfl ?_;rintro ⟨n5,a5,e5⟩ ⟨q5,y5⟩;dsimp only at q5 y5 ⊢;refine c5 [rbx T n5 a5 e5 ps b4 3,.dead,.box (tk T n).cells,p7 e5 b4.length] rfl ?_;refine c8 ?_;refine a0M ?_;refine cY (A2 ([x4].map icv) rfl ⟨tt,tt⟩ t_4 t_2 t_6 rfl rfl rfl rfl rfl rfl rfl rfl rfl) ?_;refine a98 ?_;refine de rfl a4I C0 (M3 w4 ⟨6,0,0,s2,[x4]⟩ _ ⟨rfl,rfl,de_⟩) rfl ?_;rintro ⟨x6,a6,e6,b6⟩ ⟨k6,w6,l6,u6⟩;dsimp only at k6 w6 l6 u6 ⊢;refine c5 [rbx T n5 a6 e6 ps b6 4,.dead,.box (tk T n).cells,.dead,p7 e6 b6.length] rfl ?_;refine z_7 ?_;exact ⟨_,j2 rfl tt c4,(by exact ⟨⟨x6,n5,a6,e6,b6⟩,T4 (k:=4) rfl rfl de_ (.val _),⟨by rw [a5X hq de_,d1E];exact q1.bindP (q2.bindT (fun t ht=>q3.bindP (k4.bindX (fun i hi=>q5.bindP (a13 (by rw [ht,hi];exact k6))) fun h=>k6.2 (q5.2 h))) fun h=>k6.2 (q5.2 (k4.2 (q3.2 h)))),do_,w6,fun h0=>by have g5:=K0 q5 (k6.alive h0).1;have:=z4 g5.1;have g3:=K0 q3 (k4.alive g5.1).1;have g2:=a7v q2 g3.1;have:=K0 q1 g2.1;dsimp only;omega,l6,u6⟩⟩)⟩
     ·have hi3:v3=false:=sp_ h5;have hg3:=Q8 hv3 hi3;have hmm:=hf3 hi3;subst m3;refine a1z ?_;refine de rfl b0l o7 (Y1 hT hn hW [115,105,122,101] ⟨rfl,rfl,de_⟩) rfl ?_;rintro ⟨v4,m4⟩ ⟨hv4,hs4,hf4,hm4⟩;dsimp only at hv4 hs4 hf4 hm4 ⊢;refine c5 [rbx T m4 at_ 0 ps b 1,p7 0 b.length,.box (tk T n).cells] rfl ?_;refine z_1 ?_;refine cC ?_ ?_ <;> intro h6
      ·have hi4:v4=true:=sp_ h6;have hq:=(T8 (hv4.symm.trans hi4)).2;have hmm:=hs4 hi4;subst m4;have hw:=(P0 hq).2;refine c9 ?_;refine cC ?_ ?_ <;> intro h7
       ·refine a9y ?_;refine a6Z ?_;refine b3O ?_;refine cC ?_ ?_ <;> intro h8
        ·simp [hw] at h8
        ·refine z_0 ?_;refine a6Z ?_;refine b3O ?_;refine cC ?_ ?_ <;> intro h9
         ·simp [hw] at h9
         ·refine a1m ?_;refine de rfl a4G o7 (L8 hT hm4 hW [40] ⟨rfl,rfl,de_⟩) rfl ?_;rintro ⟨n1,a1,e1⟩ ⟨q1,y1⟩;dsimp only at q1 y1 ⊢;refine d0B ?_;refine z_5 ?_;refine d3u ?_;rintro ⟨s2,n2,a2,e2⟩ ⟨q2,y2⟩;dsimp only at q2 y2 ⊢;refine c9O ?_;rintro ⟨n3,a3,e3⟩ ⟨q3,y3⟩;dsimp only at q3 y3 ⊢;refine c4u ?_;refine a0M ?_;refine cY d7x ?_;refine cY j1 ?_;refine de rfl a4I C0 (M3 hb ⟨7,0,0,s2,[]⟩ _ ⟨rfl,rfl,de_⟩) rfl ?_;rintro ⟨x6,a6,e6,b6⟩ ⟨k6,w6,l6,u6⟩;dsimp only at k6 w6 l6 u6 ⊢;refine c2J ?_;exact ⟨_,j2 rfl tt c4,(by exact ⟨⟨x6,n3,a6,e6,b6⟩,T4 (k:=3) rfl rfl de_ (.val _),⟨by rw [a5X hq de_,d2R];exact q1.bindP (q2.bindT (fun t ht=>q3.bindP (a13 (by rw [ht];exact k6))) fun h=>k6.2 (q3.2 h)),do_,w6,fun h0=>by have g3:=K0 q3 (k6.alive h0).1;have g2:=a7v q2 g3.1;have:=K0 q1 g2.1;dsimp only;omega,l6,u6⟩⟩)⟩
       ·rw [hi4] at h7;cases h7
      ·have hi4:v4=false:=sp_ h6;have hg4:=Q8 hv4 hi4;have hmm:=hf4 hi4;subst m4;refine z_2 ?_;refine de rfl b0l o7 (Y1 hT hn hW [104,97,115] ⟨rfl,rfl,de_⟩) rfl ?_;rintro ⟨v5,m5⟩ ⟨hv5,hs5,hf5,hm5⟩;dsimp only at hv5 hs5 hf5 hm5 ⊢;refine c5 [rbx T m5 at_ 0 ps b 1,p7 0 b.length,.box (tk T n).cells] rfl ?_;refine z_1 ?_;refine cC ?_ ?_ <;> intro h19
       ·have hi5:v5=true:=sp_ h19;have hq:=(T8 (hv5.symm.trans hi5)).2;have hmm:=hs5 hi5;subst m5;have hw:=(P0 hq).2;refine c9 ?_;refine cC ?_ ?_ <;> intro h20
        ·refine a9y ?_;refine a6Z ?_;refine b3O ?_;refine cC ?_ ?_ <;> intro h21
         ·refine b42 ?_;refine z_2 ?_;refine de rfl a4G o7 (L8 hT hm5 hW [40] ⟨rfl,rfl,de_⟩) rfl ?_;rintro ⟨n1,a1,e1⟩ ⟨q1,y1⟩;dsimp only at q1 y1 ⊢;refine d0B ?_;refine z_5 ?_;refine d3u ?_;rintro ⟨s2,n2,a2,e2⟩ ⟨q2,y2⟩;dsimp only at q2 y2 ⊢;refine c9O ?_;rintro ⟨n3,a3,e3⟩ ⟨q3,y3⟩;dsimp only at q3 y3 ⊢;refine c4u ?_;refine a0M ?_;refine cY d7x ?_;refine cY j1 ?_;refine de rfl a4I C0 (M3 hb ⟨8,0,0,s2,[]⟩ _ ⟨rfl,rfl,de_⟩) rfl ?_;rintro ⟨x6,a6,e6,b6⟩ ⟨k6,w6,l6,u6⟩;dsimp only at k6 w6 l6 u6 ⊢;refine c2J ?_;exact ⟨_,j2 rfl tt c4,(by exact ⟨⟨x6,n3,a6,e6,b6⟩,T4 (k:=3) rfl rfl de_ (.val _),⟨by rw [a5X hq de_,d6P];exact q1.bindP (q2.bindT (fun t ht=>q3.bindP (a13 (by rw [ht];exact k6))) fun h=>k6.2 (q3.2 h)),do_,w6,fun h0=>by have g3:=K0 q3 (k6.alive h0).1;have g2:=a7v q2 g3.1;have:=K0 q1 g2.1;dsimp only;omega,l6,u6⟩⟩)⟩
         ·simp [hw] at h21
        ·rw [hi5] at h20;cases h20
       ·have hi5:v5=false:=sp_ h19;have hg5:=Q8 hv5 hi5;have hmm:=hf5 hi5;subst m5;refine z_4 ?_;refine de rfl b0l o7 (Y1 hT hn hW [101,110,118] ⟨rfl,rfl,de_⟩) rfl ?_;rintro ⟨v6,m6⟩ ⟨hv6,hs6,hf6,hm6⟩;dsimp only at hv6 hs6 hf6 hm6 ⊢;refine c5 [rbx T m6 at_ 0 ps b 1,p7 0 b.length,.box (tk T n).cells] rfl ?_;refine z_1 ?_;refine cC ?_ ?_ <;> intro h32
        ·have hi6:v6=true:=sp_ h32;have hq:=(T8 (hv6.symm.trans hi6)).2;have hmm:=hs6 hi6;subst m6;have hw:=(P0 hq).2;refine a9y ?_;refine a6Z ?_;refine b3O ?_;refine cC ?_ ?_ <;> intro h33
         ·simp [hw] at h33
         ·refine z_0 ?_;refine a6Z ?_;refine b3O ?_;refine cC ?_ ?_ <;> intro h34
          ·refine b42 ?_;refine z_2 ?_;refine de rfl a4G o7 (L8 hT hm6 hW [40] ⟨rfl,rfl,de_⟩) rfl ?_;rintro ⟨n1,a1,e1⟩ ⟨q1,y1⟩;dsimp only at q1 y1 ⊢;refine d0B ?_;refine z_5 ?_;refine cY S7 ?_;refine de rfl c3J i7 (b0D hT y1 hW false hc.l ⟨rfl,rfl,de_⟩) rfl ?_;rintro ⟨s2,n2,a2,e2⟩ ⟨q2,y2⟩;dsimp only at q2 y2 ⊢;refine c9O ?_;rintro ⟨n3,a3,e3⟩ ⟨q3,y3⟩;dsimp only at q3 y3 ⊢;refine c4u ?_;refine a0M ?_;refine cY d7x ?_;refine cY j1 ?_;refine de rfl a4I C0 (M3 hb ⟨9,0,0,s2,[]⟩ _ ⟨rfl,rfl,de_⟩) rfl ?_;rintro ⟨x6,a6,e6,b6⟩ ⟨k6,w6,l6,u6⟩;dsimp only at k6 w6 l6 u6 ⊢;refine c2J ?_;exact ⟨_,j2 rfl tt c4,(by exact ⟨⟨x6,n3,a6,e6,b6⟩,T4 (k:=3) rfl rfl de_ (.val _),⟨by rw [a5X hq de_,d7Z];exact q1.bindP (q2.bindT (fun t ht=>q3.bindP (a13 (by rw [ht];exact k6))) fun h=>k6.2 (q3.2 h)),do_,w6,fun h0=>by have g3:=K0 q3 (k6.alive h0).1;have g2:=a7v q2 g3.1;have:=K0 q1 g2.1;dsimp only;omega,l6,u6⟩⟩)⟩
          ·simp [hw] at h34
        ·have hi6:v6=false:=sp_ h32;have hg6:=Q8 hv6 hi6;have hmm:=hf6 hi6;subst m6;refine z_2 ?_;refine de rfl b0l o7 (Y1 hT hn hW [102,108,105,112] ⟨rfl,rfl,de_⟩) rfl ?_;rintro ⟨v7,m7⟩ ⟨hv7,hs7,hf7,hm7⟩;dsimp only at hv7 hs7 hf7 hm7 ⊢;refine c5 [rbx T m7 at_ 0 ps b 1,p7 0 b.length,.box (tk T n).cells] rfl ?_;refine z_1 ?_;refine cC ?_ ?_ <;> intro h35
         ·have hi7:v7=true:=sp_ h35;have hq:=(T8 (hv7.symm.trans hi7)).2;have hmm:=hs7 hi7;subst m7;refine z_2 ?_;refine de rfl a4G o7 (L8 hT hm7 hW [40] ⟨rfl,rfl,de_⟩) rfl ?_;rintro ⟨n1,a1,e1⟩ ⟨q1,y1⟩;dsimp only at q1 y1 ⊢;refine d3R ?_;refine d3q ?_;refine O0 ?_;refine de rfl c8D ⟨tt,tt⟩ (a9g hT y1 hW hc.nn ⟨rfl,rfl,de_⟩) rfl ?_;rintro ⟨x2,n2,a2,e2⟩ ⟨q2,y2,l2,u2⟩;dsimp only at q2 y2 l2 u2 ⊢;refine c5 [rbx T n2 a2 e2 ps b 1,p7 e2 b.length,.box (tk T n).cells] rfl ?_;refine b1w ?_;refine cC ?_ ?_ <;> intro h36
          ·have hge:64<=x2:=sp_ h36;refine c7C ?_;rintro ⟨x0,y0⟩ hy0;dsimp only at hy0 ⊢;refine c5 [rbx T n2 x0 y0 ps b 1,p7 y0 b.length,.box (tk T n).cells] rfl ?_;refine L7 ?_;refine de rfl a4G o7 (L8 hT y2 hW [41] ⟨rfl,rfl,de_⟩) rfl ?_;rintro ⟨n3,a3,e3⟩ ⟨q3,y3⟩;dsimp only at q3 y3 ⊢;refine c4u ?_;refine z_5 ?_;refine d6j ?_;rintro ⟨x6,a6,e6,b6⟩ ⟨k6,w6,l6,u6⟩;dsimp only at k6 w6 l6 u6 ⊢;refine c5 [rbx T n3 a6 e6 ps b6 3,.dead,.box (tk T n).cells,p7 e6 b6.length] rfl ?_;have he6:=k6.2 (q3.2 hy0);refine z_7 ?_;exact ⟨_,j2 rfl tt c4,(by exact ⟨⟨x6,n3,a6,e6,b6⟩,T4 (k:=3) rfl rfl de_ (.val _),⟨by rw [a5X hq de_,c3F];exact q1.bindP (q2.bindI (fun t ht=>by dsimp only;rw [if_pos (by rw [ht];exact hge)];exact .none he6) fun _=>he6),do_,w6,fun h0=>absurd h0 he6,l6,u6⟩⟩)⟩
          ·have hge:¬ 64<=x2:=sp_ h36;refine a1m ?_;refine de rfl a4G o7 (L8 hT y2 hW [41] ⟨rfl,rfl,de_⟩) rfl ?_;rintro ⟨n3,a3,e3⟩ ⟨q3,y3⟩;dsimp only at q3 y3 ⊢;refine c4u ?_;refine z_5 ?_;refine d6j ?_;rintro ⟨x6,a6,e6,b6⟩ ⟨k6,w6,l6,u6⟩;dsimp only at k6 w6 l6 u6 ⊢;refine c2J ?_;exact ⟨_,j2 rfl tt c4,(by exact ⟨⟨x6,n3,a6,e6,b6⟩,T4 (k:=3) rfl rfl de_ (.val _),⟨by rw [a5X hq de_,c3F];exact q1.bindP (q2.bindI (fun t ht=>by dsimp only;rw [if_neg (by rw [ht];exact hge)];exact q3.bindP (a13 (by rw [ht];exact k6))) fun h=>k6.2 (q3.2 h)),do_,w6,fun h0=>by have g3:=K0 q3 (k6.alive h0).1;have g2:=c6Y q2 g3.1;have:=K0 q1 g2.1;dsimp only;omega,l6,u6⟩⟩)⟩
         ·have hi7:v7=false:=sp_ h35;have hg7:=Q8 hv7 hi7;have hmm:=hf7 hi7;subst m7;have hsp:=c6J (ps:=ps) (f:=f) (d:=d) (b:=b) hk hg1 hg2 hg3 hg4 hg5 hg6 hg7;refine a1m ?_;refine de rfl b7E ⟨tt,tt⟩ (a7G hT hn hW ⟨rfl,rfl,de_⟩) rfl ?_;rintro ⟨s1,n1,a1,e1⟩ ⟨q1,y1⟩;dsimp only at q1 y1 ⊢;refine c5 [rbx T n1 a1 e1 ps b 1,p7 e1 b.length,.box (tk T n).cells] rfl ?_;refine a4y ?_;refine de rfl a8E o7 (V4 hT y1 hW [40] ⟨rfl,rfl,de_⟩) rfl ?_;rintro ⟨v8,m8⟩ ⟨hv8,hs8,hf8,hm8⟩;dsimp only at hv8 hs8 hf8 hm8 ⊢;refine c5 [rbx T m8 a1 e1 ps b 1,p7 e1 b.length,.box (tk T n).cells] rfl ?_;refine S4 ?_;refine cC ?_ ?_ <;> intro h37
          ·have hi8:v8=false:=sp_ h37;have hmm:=hf8 hi8;subst m8;refine b4x ?_;refine cY c9S ?_;refine cY a2D ?_;refine a1i ?_;refine K3 (α:=Nat) (fun j=>[(0,.ptr 0 0),(6,(iv ((tk T n).at_))),(14,(sv s1)),(137,(.list (ps.map scv) (gnn ps.length) none)),(138,iv ps.length),(139,iv j)]) (fun _=>[rbx T n1 a1 e1 ps b 1,p7 e1 b.length,.box (tk T n).cells]) (fun j=>j<=ps.length/\(e1=0->ixS ps s1 0=ixS (ps.drop j) s1 j)) (fun j=>ps.length - j) 0 ⟨n_3 _,fun _=>rfl⟩ tu_ rfl ?_;intro j E5 ⟨hj,hjx⟩;have hps:=hc.ps;refine C9 ?_;refine cC ?_ ?_ <;> intro h38
           ·have hlt:j < ps.length:=sm_ h38;obtain ⟨w,hbw⟩:∃ w,ps[j]? = some w:=⟨ps[j]'hlt,si_⟩;refine X9 ?_;refine cY (r8 rfl tt tt rfl rfl t_1 t_0 om_ (j3 hbw) rfl) ?_;refine cY U1 ?_;refine b25 ?_;refine z_5 ?_;refine cY b3u ?_;refine a3q ?_;refine cG (fun hg=>b8t rfl hg rfl) ?_;refine cG (fun hg=>j4 rfl hg rfl b83 rfl c4p de_) ?_;refine cG (fun hg=>o5 rfl hg rfl b9r rfl rfl) ?_;refine a9A ?_;refine cC ?_ ?_ <;> intro h39
            ·obtain ⟨hw,he1⟩:w=s1/\e1=0:=sp_ h39;subst he1;obtain ⟨_,hn1,hs1,hpn⟩:=b0y q1 rfl;have hix:ixS ps s1 0=j:=by rw [hjx rfl,b1p hbw,if_pos hw]
             refine z_5 ?_;refine b7Y ?_;refine de rfl a4I C0 (M3 hb ⟨2,(j:Int),0,[],[]⟩ _ ⟨rfl,rfl,de_⟩) rfl ?_;rintro ⟨x6,a6,e6,b6⟩ ⟨k6,w6,l6,u6⟩;dsimp only at k6 w6 l6 u6 ⊢;refine c5 [rbx T n1 a6 e6 ps b6 3,.dead,.box (tk T n).cells,p7 e6 b6.length] rfl ?_;refine z_7 ?_;exact ⟨_,j2 rfl tt c4,(by exact ⟨⟨x6,n1,a6,e6,b6⟩,T4 (k:=3) rfl rfl de_ (.val _),⟨by rw [hsp,hpn,n_6];dsimp only;rw [<- hn1,<- hs1,if_neg (by rw [Q8 hv8 hi8];decide),hix,if_neg om_];exact a13 k6,do_,w6,fun h0=>by dsimp only;omega,l6,u6⟩⟩)⟩
            ·have hno:e1=0->¬ w=s1:=fun h0 hw=>by simp [hw,h0] at h39
             refine a2l ?_;exact ⟨(j+1),om_,⟨om_,fun h0=>by rw [hjx h0,b1p hbw,if_neg (hno h0)]⟩,tu_,rfl⟩
           ·have hge:ps.length<=j:=sm_ h38;refine A4 ?_;refine z_5 ?_;refine de rfl b9c a7P (a2G _ _ de_ ⟨rfl,rfl,de_⟩) rfl ?_;rintro ⟨x0,y0⟩ hy0;dsimp only at hy0 ⊢;refine c5 [rbx T n1 x0 y0 ps b 1,p7 y0 b.length,.box (tk T n).cells] rfl ?_;refine c8 ?_;refine I0 ?_;exact ⟨_,j2 rfl tt c4,(by exact ⟨⟨0,n1,x0,y0,b⟩,a5Y hy0 rfl (.val _),.dead (fun _=>by
             rcases q1.zero with ⟨h0,_⟩ | ⟨_,h0⟩
             ·subst h0;obtain ⟨_,hn1,hs1,hpn⟩:=b0y q1 rfl;rw [hsp,hpn,n_6];dsimp only;rw [<- hn1,<- hs1,if_neg (by rw [Q8 hv8 hi8];decide),hjx rfl,S8 hge];rfl
             ·rw [hsp,b4a.1 h0];rfl) hy0 y1 hb ⟨de_,de_⟩⟩)⟩
          ·have hi8:v8=true:=sp_ h37;obtain ⟨he1,hq8⟩:=T8 (hv8.symm.trans hi8);subst e1;have hmm:=hs8 hi8;subst m8;obtain ⟨_,hn1,hs1,hpn⟩:=b0y q1 rfl;rw [hpn,n_6] at hsp;dsimp only at hsp;rw [<- hn1,<- hs1,if_pos hq8,c4C hq8] at hsp;refine a1m ?_;refine cY c06 ?_;refine c9g ?_;refine z_9 ?_;refine F5 ?_;refine B2 hCC 4 rfl (α:=RG) (fun a=>[(0,.ptr 0 0),(1,iv d),(6,(iv ((tk T n).at_))),(17,.ptr 3 0)]) (fun a=>[rbx T a.m a.at_ a.e ps a.b (kg5 a.ph),ot1 a.ph a.e a.b.length,.dead,.box [(iv (3)),(iv (0)),(iv (0)),(sv s1),.list (a.l.map icv) (gnn a.l.length) (G9 a.l.length 5)],ot2 a.ph a.e a.b.length,u0 a.l.length]) (fun a=>(a.e=0->(z8 T ps (f+1)).fac d n b=(a5s T ps d a.g a.m a.b a.l).bind (fun a:List Int × Nat × List Ex=>K4 a.2.2 ⟨3,0,0,s1,a.1⟩ a.2.1)/\n < a.m/\a.l.length<=a.m/\8*(T.length - a.m)+7<=a.g)/\(a.e≠0->(z8 T ps (f+1)).fac d n b=none)/\a.m < T.length/\a.b.length<=256/\a.l.length<=T.length/\a.g<=f) (fun a=>if a.e=0 then T.length - a.m+1 else 0) ⟨⟨[],n1+1,a1,0,b,false,f⟩,[0,1,2,3,7,8],⟨fun _=>⟨hsp,do_,n_3 _,do_⟩,fun h=>absurd rfl h,hm8,hb,n_3 _,n_4 _⟩,⟨rfl,rfl⟩,ut_,uq_⟩ ?_;intro ⟨l,m,a2,e,b2,ph,g⟩ ⟨hI,hN,hm,hb2,hlT,hgf⟩;dsimp only at hI hN hm hb2 hlT hgf ⊢;refine a9Y ?_;refine a1h ?_;refine b1E (.val (.bool false)) rfl rfl tt rfl rfl (fun hg=>C1 rfl a8E ⟨hg,rfl,tt⟩ (V4 hT hm hW [41] (q:=0) (s:=kg5 ph) a0J) rfl ?_) (fun hg=>?_)
           ·
            obtain rfl:e=0:=sp_ hg;obtain ⟨hS,hnm,hlm,hgm⟩:=hI rfl;rintro ⟨v9,m9⟩ ⟨hv9,hs9,hf9,hm9⟩;dsimp only at hv9 hs9 hf9 hm9 ⊢;refine c5 [rbx T m9 a2 0 ps b2 (kg5 ph),ot1 ph 0 b2.length,.dead,.box [(iv (3)),(iv (0)),(iv (0)),(sv s1),.list (l.map icv) (gnn l.length) (G9 l.length 5)],ot2 ph 0 b2.length,u0 l.length] N8 ?_;refine b9F ?_;refine cC ?_ ?_ <;> intro h40
            ·have hi9:v9=false:=sp_ h40;have hg9:=Q8 hv9 hi9;have hmm:=hf9 hi9;subst m9;obtain ⟨g,rfl⟩:∃ g',g=g'+1:=⟨g - 1,om_⟩;refine a21 ?_;refine a0Y ?_;refine a6y ?_;refine O1 ?_;refine cC ?_ ?_ <;> intro h41
             ·have hl:l≠[]:=by intro hl;subst hl;simp at h41
              rw [c1i hg9 hl] at hS;simp only [agS] at hS;refine z_4 ?_;refine de rfl a4G o7 (L8 hT hm hW [44] (q:=0) (s:=kg5 ph) a0J) rfl ?_;rintro ⟨n2,a4,e2⟩ ⟨q2,y2⟩;dsimp only at q2 y2 ⊢;refine c5 [rbx T n2 a4 e2 ps b2 (kg5 ph),ot1 ph e2 b2.length,.dead,.box [(iv (3)),(iv (0)),(iv (0)),(sv s1),.list (l.map icv) (gnn l.length) (G9 l.length 5)],ot2 ph e2 b2.length,u0 l.length] N8 ?_;refine c8 ?_;refine d5v ?_;refine chf rfl (c7 rfl c1Y) ?_;refine a60 ?_;refine chf rfl (c7 rfl a0v) ?_;refine F9 ?_;refine A6 rfl rfl rfl rfl (C1 rfl b7T i7 (hE g om_ (d+1) n2 a4 e2 b2 y2 hb2 om_ (fun h0=>by have:=K0 q2 h0;omega) _ 0 (kg5 ph) a0J) rfl ?_);rintro ⟨x3,n3,a3,e3,b3⟩ ⟨k3,y3,w3,z3,l3,u3⟩;dsimp only at k3 y3 w3 z3 l3 u3 ⊢;have hls:=U4 l x3;have hfu:e3=0->m < n3/\n < n3/\(l++[x3]).length<=n3/\8*(T.length - n3)+7<=g:=fun h0=>by have:=z3 h0;have hq:=K0 q2 (k3.alive h0).1;omega
              have hme:(if e3=0 then T.length - n3+1 else 0) < (if (0:Int)=0 then T.length - m+1 else 0):=by
               rw [if_pos rfl]
               split
               ·rename_i h0;have:=hfu h0;omega
               ·omega
              have hl2:(l++[x3]).length<=T.length/\g<=f:=by omega
              have hst:=b7g hS q2 k3;refine a1E [rbx T n3 a3 e3 ps b3 6,.dead,.dead,.box [(iv (3)),(iv (0)),(iv (0)),(sv s1),.list (l.map icv) (gnn l.length) (G9 l.length 5)],.dead,u0 l.length,p7 e3 b3.length] N8 ?_;refine d6k ?_;refine A6 rfl rfl rfl rfl (C5 rfl tt tt rfl si_ q_2 t_4 t_2 b95 t_6 rfl (.inr rfl) q_8 c7F E7 ((l++[x3]).map icv) (l++[x3]).length si_ si_ ?_);refine ⟨tt,?_⟩;refine d6F ?_;refine a2C ?_;exact ⟨⟨l++[x3],n3,a3,e3,b3,true,g⟩,[0,1,2,3,6,7],⟨hme,fun h0=>(hst.1 h0).2.elim fun j hj=>⟨by rw [hj.2,<- hj.1],(hfu h0).2⟩,hst.2,y3,w3,hl2⟩,⟨rfl,rfl⟩,ut_,⟨.inr ⟨_,rfl,.box ⟨.old a2A,.old (.val _),.old (.val _),.old (.val _),.old a0G,a3r rfl,.old a6R,tt⟩⟩,.inl rfl,.inl rfl,.inr ⟨_,rfl,.box ⟨.old (.val _),.old (.val _),.old (.val _),.old (.val _),D2.grow (f:=icv) (fun _=>⟨.val _,tt⟩) rfl,tt⟩⟩,.inr ⟨_,rfl,.same rfl Z7⟩,.inr ⟨_,rfl,.same rfl C3⟩,tt⟩⟩
             ·have hl:l=[]:=by
               cases l with
               | nil=>rfl
               | cons x l=>simp at h41 <;> omega
              subst hl;rw [b9m hg9] at hS;simp only [agS] at hS;have q2:Ok 0 (some m) 0 m:=.some;refine c9 ?_;refine d5v ?_;refine chf rfl (c7 rfl c1Y) ?_;refine a60 ?_;refine chf rfl (c7 rfl a0v) ?_;refine F9 ?_;refine A6 rfl rfl rfl rfl (C1 rfl b7T i7 (hE g om_ (d+1) m a2 0 b2 hm hb2 om_ (fun _=>by omega) _ 0 (kg5 ph) a0J) rfl ?_);rintro ⟨x3,n3,a3,e3,b3⟩ ⟨k3,y3,w3,z3,l3,u3⟩;dsimp only at k3 y3 w3 z3 l3 u3 ⊢;have hls:=U4 ([]:List Int) x3;have hfu:e3=0->m < n3/\n < n3/\(([]:List Int)++[x3]).length<=n3/\8*(T.length - n3)+7<=g:=fun h0=>by have:=z3 h0;omega
              have hme:(if e3=0 then T.length - n3+1 else 0) < (if (0:Int)=0 then T.length - m+1 else 0):=by
               rw [if_pos rfl]
               split
               ·rename_i h0;have:=hfu h0;omega
               ·omega
              have hl2:(([]:List Int)++[x3]).length<=T.length/\g<=f:=by omega
              have hst:=b7g hS q2 k3;refine a1E [rbx T n3 a3 e3 ps b3 6,.dead,.dead,.box [(iv (3)),(iv (0)),(iv (0)),(sv s1),.list ([].map icv) (gnn ([]:List Int).length) (G9 ([]:List Int).length 5)],.dead,u0 ([]:List Int).length,p7 e3 b3.length] N8 ?_;refine d6k ?_;refine A6 rfl rfl rfl rfl (C5 rfl tt tt rfl si_ q_2 t_4 t_2 b95 t_6 rfl (.inr rfl) q_8 c7F E7 (([]++[x3]).map icv) ([]++[x3]).length si_ si_ ?_);refine ⟨tt,?_⟩;refine d6F ?_;refine a2C ?_;exact ⟨⟨[]++[x3],n3,a3,e3,b3,true,g⟩,[0,1,2,3,6,7],⟨hme,fun h0=>(hst.1 h0).2.elim fun j hj=>⟨by rw [hj.2,<- hj.1],(hfu h0).2⟩,hst.2,y3,w3,hl2⟩,⟨rfl,rfl⟩,ut_,⟨.inr ⟨_,rfl,.box ⟨.old a2A,.old (.val _),.old (.val _),.old (.val _),.old a0G,a3r rfl,.old a6R,tt⟩⟩,.inl rfl,.inl rfl,.inr ⟨_,rfl,.box ⟨.old (.val _),.old (.val _),.old (.val _),.old (.val _),D2.grow (f:=icv) (fun _=>⟨.val _,tt⟩) rfl,tt⟩⟩,.inr ⟨_,rfl,.same rfl Z7⟩,.inr ⟨_,rfl,.same rfl C3⟩,tt⟩⟩
            ·have hi9:v9=true:=sp_ h40;obtain ⟨_,hq9⟩:=T8 (hv9.symm.trans hi9);have hmm:=hs9 hi9;subst m9;rw [c5I hq9,n_6] at hS;refine b0t ?_;refine cY a5B ?_;refine cY j1 ?_;refine de rfl a4I C0 (M3 hb2 ⟨3,0,0,s1,l⟩ _ (q:=0) (s:=kg5 ph) a0J) rfl ?_;rintro ⟨x6,a6,e6,b6⟩ ⟨k6,w6,l6,u6⟩;dsimp only at k6 w6 l6 u6 ⊢;refine c5 [rbx T (m+1) a6 e6 ps b6 6,.dead,.dead,.box [(iv (3)),(iv (0)),(iv (0)),(sv s1),.list (l.map icv) (gnn l.length) (G9 l.length 5)],.dead,u0 l.length,p7 e6 b6.length] N8 ?_;refine z_7 ?_;exact ⟨_,j2 rfl tt c4,(by exact ⟨⟨x6,m+1,a6,e6,b6⟩,T4 (k:=6) rfl rfl de_ (.val _),⟨by rw [hS];exact a13 k6,do_,w6,fun h0=>by dsimp only;omega,l6,u6⟩⟩)⟩
           ·
            refine b9F ?_;refine cC ?_ ?_ <;> intro h42
            ·have he:e≠0:=sp_ hg;simp [he] at h42
            ·have he:e≠0:=sp_ hg;refine b0t ?_;refine cY a5B ?_;refine cY j1 ?_;refine de rfl a4I C0 (M3 hb2 ⟨3,0,0,s1,l⟩ _ (q:=0) (s:=kg5 ph) a0J) rfl ?_;rintro ⟨x6,a6,e6,b6⟩ ⟨k6,w6,l6,u6⟩;dsimp only at k6 w6 l6 u6 ⊢;refine c5 [rbx T m a6 e6 ps b6 6,.dead,.dead,.box [(iv (3)),(iv (0)),(iv (0)),(sv s1),.list (l.map icv) (gnn l.length) (G9 l.length 5)],.dead,u0 l.length,p7 e6 b6.length] N8 ?_;refine z_7 ?_;exact ⟨_,j2 rfl tt c4,(by exact ⟨⟨x6,m,a6,e6,b6⟩,T4 (k:=6) rfl rfl de_ (.val _),.dead (fun _=>hN he) (k6.2 he) hm w6 ⟨l6,u6⟩⟩)⟩
theorem c4y {ps:List Str} (hc:a0b T ps) (H:∀ g,g < f0->REC T ps g):RFC T ps f0:=fun d n at_ b hn hb hd hf σ q s hσ=>by
 obtain ⟨f,rfl⟩:∃ f,f0=f+1:=⟨f0 - 1,om_⟩;exact a1R (c:=fun a:RX=>(iv a.x)) (N:=fun a=>a.n) (A:=fun a=>a.at_) (E:=fun a=>a.e) (B:=fun a=>a.b) (fun _ h=>by simp at h;subst h;exact .val _) (fun _=>.val _) (c0B hc (fun g hg=>H g om_) d n at_ b hn hb hd hf) hσ
theorem d7L {ps:List Str} (hc:a0b T ps):∀ f,REC T ps f/\RSC T ps f/\RTC T ps f/\RFC T ps f:=fun f=>by
 induction f using Nat.strongRecOn with
 | ind f H =>
  exact ⟨d1f hc fun g hg=>⟨(H g hg).1,(H g hg).2.1⟩,d7C hc fun g hg=>(H g hg).2.2.1,d1K hc fun g hg=>(H g hg).2.2.2,c4y hc fun g hg=>(H g hg).1⟩
theorem c5F {l:List De} {p:De->Bool} {y:De} (h:l[i]? = some y) (hd:l.any p=(l.drop i).any p) (hy:p y=false):l.any p=(l.drop (i+1)).any p:=by
 obtain ⟨hlt,rfl⟩:=n_1.1 h;rw [hd,Q4 hlt,List.any_cons,hy,b6o]
theorem b3L {l:List De} {p:De->Bool} {y:De} (h:l[i]? = some y) (hy:p y=true):l.any p=true:=c2i.2 ⟨y,n_0 h,hy⟩
theorem c0G (f:Src) (k:Int) (u:Str) (hl:f.decls.length<=1000000) (σ:List b9):b8 CC 224 [.agg f.cells,iv k,(sv u)] σ fun r σ'=>r = .ret (.val (.bool (f.decls.any fun d=>(d.k == k) && decide (d.name=u))))/\σ'=σ:=by
 refine an_ Tryz.func224 ?_;refine a2M ?_;refine a6I ?_;refine j5 hCC (α:=Nat) (fun i=>[(1,iv k),(2,(sv u)),(10,(.list (f.decls.map De.cv) (gnn f.decls.length) none)),(11,iv f.decls.length),(12,iv i)]) (fun _=>[.box f.cells]) (fun i=>i<=f.decls.length/\(f.decls.any fun d=>(d.k == k) && decide (d.name=u))=((f.decls.drop i).any fun d=>(d.k == k) && decide (d.name=u))) (fun i=>f.decls.length - i) 0 ⟨n_3 _,rfl⟩ tu_ (extra0:=[]) rfl r5 uz_ ?_;intro i ⟨hi,hd⟩;refine C9 ?_;refine cC ?_ ?_ <;> intro h1
 ·have hlt:i < f.decls.length:=sm_ h1;obtain ⟨w,hb⟩:∃ w,f.decls[i]? = some w:=⟨f.decls[i]'hlt,si_⟩;refine W7 ?_;refine cY c7S ?_;refine cY b0K ?_;refine b5O ?_;refine S5 ?_;refine a4k ?_;refine b9k ?_;refine cY j1 ?_;refine cG b7W ?_;refine b3T ?_;refine a4M ?_;refine cC ?_ ?_ <;> intro h2
  ·have hw:((w.k == k) && decide (w.name=u))=true:=sp_ h2;refine I0 ?_;exact ⟨_,j2 rfl tt c4,_,_,rfl,rfl,j7 (show true=(f.decls.any fun d=>(d.k == k) && decide (d.name=u)) from (b3L hb hw).symm)⟩
  ·have hw:((w.k == k) && decide (w.name=u))=false:=sp_ h2;exact d4Z
 ·have hge:f.decls.length<=i:=sm_ h1;refine a1w ?_;exact ⟨_,j2 rfl tt c4,_,_,rfl,rfl,j7 (show false=(f.decls.any fun d=>(d.k == k) && decide (d.name=u)) by rw [hd,S8 hge];rfl)⟩
theorem c2K {τ:List b9} {n k:Nat} {at_ e:Int} {ps:List Str} {b:List Ex} {c c':CV} (h0:τ[0]? = some (rbx T n at_ e ps b k)) (hk:τ[k]? = some (p7 e b.length)) (h2:2<=k) (hc:∀ sel,D2 2 sel c c'):F1 2 τ (.ret c) (.ret c') (a61 T n at_ e ps b):=by
 obtain ⟨sel,a1,a2,_,a4⟩:=T4 h0 hk h2 (Old.val (.int .i64 0));exact ⟨sel,a1,a2,.ret (hc sel),a4⟩
theorem c0V {f:FuncId} {args:List CV} {c:α->CV} {N:α->Nat} {A E:α->Int} {Z:α->List Str} {B:α->List Ex} {P:α->Prop} {n:Nat} {at_ e:Int} {ps:List Str} {b:List Ex} (hargs:∀ a∈args,r9 a) (hc:∀ a,r9 (c a))
 (h:b8 CC f (.ptr 0 0::args) (rst T n at_ e ps b) fun r τ=>∃ a,F1 2 τ r (.ret (c a)) (a61 T (N a) (A a) (E a) (Z a) (B a))/\P a) {σ:List b9} {q s:Nat} (hσ:RAt σ q s T n at_ e ps b) :
 b8 CC f (.ptr q 0::args) σ fun r τ=>∃ a,r = .ret (c a)/\τ=rS1 σ q s T (N a) (A a) (E a) (Z a) (B a)/\P a:=by
 obtain ⟨h1,h2,h3⟩:=hσ;have hq:=(n_1.1 h1).1;have hs:=(n_1.1 h2).1;have h':b8 CC f (.ptr 0 0::args) (rst T n at_ e ps b) fun r τ=>∃ a,r = .ret (c a)/\τ=a61 T (N a) (A a) (E a) (Z a) (B a)/\P a :=
  L2 hCC (h.mono fun r τ ⟨a,k1,k2⟩=>⟨_,_,k1,a,rfl,rfl,k2⟩)
 refine J5 [q,s] hCC rfl (fun i j k g1 g2=>?_) (fun i k ob g1 g2=>?_) (.cons (.ptr rfl) (N0 hargs)) h' fun r τ hk=>?_
 ·rcases i with _ | _ | i <;> rcases j with _ | _ | j <;> simp at g1 g2 <;> first|rfl|(exfalso;exact h3 (g1.trans g2.symm))|(exfalso;exact h3 (g2.trans g1.symm))
 ·rcases i with _ | _ | i
  ·simp at g1 g2;subst g1 g2;exact ⟨_,h1,a7B rfl⟩
  ·simp at g1 g2;subst g1 g2;exact ⟨_,h2,a49 _ _⟩
  ·simp at g1
 ·obtain ⟨a,rfl,rfl,hp⟩:=hk;refine ⟨si_,.ret (c a),rS1 σ q s T (N a) (A a) (E a) (Z a) (B a),.ret (.pure (hc a)),si_,fun k hk hks=>?_,fun i k x ha hx=>?_,a,rfl,rfl,hp⟩
  ·have n1:q≠k:=fun e=>hks a28;have n2:s≠k:=fun e=>hks a28;rw [M5 (sp_ hk)];simp [n1,n2]
  ·rcases ha with ha | ⟨ha,rfl⟩
   ·rcases i with _ | _ | i
    ·simp at ha hx;subst ha hx;refine ⟨rbx T (N a) (A a) (E a) (Z a) (B a) σ.length,?_,a7B (.inr ⟨si_,si_⟩)⟩;rw [M5 (sp_ hq),a2V h3.symm];simp [hq]
    ·simp at ha hx;subst ha hx;refine ⟨.dead,?_,.dead⟩;rw [M5 (sp_ hs)];simp [hs]
    ·simp at ha
   ·rcases i with _ | _ | _ | i
    ·simp at ha
    ·simp at ha
    ·simp at hx;subst hx;refine ⟨p7 (E a) (B a).length,?_,a49 _ _⟩;rw [a0y si_];simp
    ·simp at hx
theorem d2p:F7 [102,117,110,99]=1:=by decide
theorem d2o:F7 [116,101,115,116]=2:=by decide
theorem d2b:F7 [103,101,110]=3:=by decide
theorem d1G (h1:¬ u=[102,117,110,99]) (h2:¬ u=[116,101,115,116]) (h3:¬ u=[103,101,110]):F7 u=0:=by
 have e:dkL=[([102,117,110,99],1),([116,101,115,116],2),([103,101,110],3)]:=by decide
 rw [F7,e];simp only [glk,if_neg h1,if_neg h2,if_neg h3];rfl
theorem d8t {n:Nat} (h1:isT (tk T n) 1 [102,117,110,99]=false) (h2:isT (tk T n) 1 [116,101,115,116]=false) (h3:isT (tk T n) 1 [103,101,110]=false):(tk T n).k≠1\/F7 (tk T n).t=0:=by
 by_cases hk:(tk T n).k=1
 ·exact .inr (d1G (a5t h1 hk) (a5t h2 hk) (a5t h3 hk))
 ·exact .inl hk
theorem Ok.of {e:Int} {o:Option α} (h1:e'=0->e=0/\o=Option.some y) (h2:e'≠0->e=0->o=Option.none):Ok e o e' y :=
 ⟨fun h=>by
  by_cases h':e'=0
  ·exact .inl ⟨(h1 h').2,h'⟩
  ·exact .inr ⟨h2 h' h,h'⟩,fun h h'=>h (h1 h').1⟩
theorem Ok.pre {e:Int} {o:Option α} (h:Ok e1 o e' y) (h1:e=0->e1=0) (h2:e≠0->e1≠0):Ok e o e' y:=⟨fun h0=>h.1 (h1 h0),fun h0=>h.2 (h2 h0)⟩
def a6O (T:List Tok) (m:Nat) (l:List Str):Option (List Str × Nat) :=
 if l=[] then (if isT (tk T m) 4 [41]=true then Option.some ([],m+1) else a2F 9 T m [])
 else if isT (tk T m) 4 [44]=true then a2F (9 - l.length) T (m+1) l else (pIs T m 4 [41]).bind fun m'=>Option.some (l,m')
theorem c4j {n m:Nat} (h:pIs T n 4 [40]=some m):K6 T n=a6O T m []:=by
 rw [K6,h,n_6,a6O,if_pos rfl]
theorem c3Z {m:Nat} {l:List Str} (h:isT (tk T m) 4 [41]=true):a6O T m l=some (l,m+1):=by
 unfold a6O;by_cases hl:l=[]
 ·rw [if_pos hl,if_pos h,hl]
 ·rw [if_neg hl,if_neg (by simp [isT,(P0 h).2]),pIs,if_pos h];rfl
def b5N (T:List Tok) (m:Nat) (l:List Str):Option Nat:=if l=[] then some m else pIs T m 4 [44]
theorem b96 {m:Nat} {l:List Str} (h:isT (tk T m) 4 [41]=false):a6O T m l=(b5N T m l).bind fun m'=>a2F (9 - l.length) T m' l:=by
 unfold a6O b5N;by_cases hl:l=[]
 ·subst hl;rw [if_pos rfl,if_pos rfl,if_neg (by rw [h];decide)];rfl
 ·rw [if_neg hl,if_neg hl];unfold pIs;by_cases h4:isT (tk T m) 4 [44]=true
  ·rw [if_pos h4,if_pos h4];rfl
  ·rw [if_neg h4,if_neg h4,if_neg (by rw [h];decide)];rfl
theorem d8o {m:Nat} {l:List Str} (hl:l.length<=8):a2F (9 - l.length) T m l=(J1 T m).bind fun x=>if l.length=8 then none else if x.1.t∈l then none else a6O T x.2 (l++[x.1.t]):=by
 obtain ⟨f,hf⟩:∃ f,9 - l.length=f+1:=⟨8 - l.length,om_⟩;rw [hf,a2F];refine congrArg _ (funext fun x=>?_);by_cases h8:l.length=8
 ·rw [if_pos h8,if_pos h8]
 ·rw [if_neg h8,if_neg h8];by_cases hm:x.1.t∈l
  ·rw [if_pos hm,if_pos hm]
  ·rw [if_neg hm,if_neg hm];unfold a6O;rw [show 9 - (l++[x.1.t]).length=f by simp;omega];exact (if_neg si_).symm
theorem a5H {m:Nat} {l:List Str} {S:Option (List Str × Nat)} {s3:Str} (hl:l.length<=8) (hS:S=(b5N T m l).bind fun m'=>a2F (9 - l.length) T m' l) (q2:Ok 0 (b5N T m l) e2 n2) (q3:Ok e2 ((J1 T n2).map fun x=>(x.1.t,x.2)) e3 (s3,n3))
 (h1:l.length=8\/s3∈l->e4≠0) (h2:¬ l.length=8->¬ s3∈l->e4=e3) (h3:e3≠0->e4≠0):(e4=0->e3=0/\e2=0/\l.length < 8/\S=a6O T n3 (l++[s3]))/\(e4≠0->S=none):=by
 rcases q2.zero with ⟨g2,ho⟩ | ⟨g2,ho⟩
 ·subst g2;rw [ho,n_6,d8o hl] at hS
  rcases q3.zero with ⟨g3,hn⟩ | ⟨g3,hn⟩
  ·obtain ⟨x,hx,hg⟩:=O3.1 hn;injection hg with hg1 hg2
   rw [hx,n_6,hg1,hg2] at hS;by_cases h8:l.length=8
   ·rw [if_pos h8] at hS;exact ⟨fun h=>absurd h (h1 (.inl h8)),fun _=>hS⟩
   ·rw [if_neg h8] at hS;by_cases hm:s3∈l
    ·rw [if_pos hm] at hS;exact ⟨fun h=>absurd h (h1 (.inr hm)),fun _=>hS⟩
    ·rw [if_neg hm] at hS;exact ⟨fun _=>⟨g3,rfl,om_,hS⟩,fun h=>absurd (by rw [h2 h8 hm,g3]) h⟩
  ·rw [b4a.1 hn] at hS;exact ⟨fun h=>absurd h (h3 g3),fun _=>hS⟩
 ·rw [ho] at hS;exact ⟨fun h=>absurd h (h3 (q3.2 g2)),fun _=>hS⟩
structure RP5 where
 l:List Str
 m:Nat
 at_:Int
 e:Int
structure RD5 where
 d:De
 n:Nat
 at_:Int
 e:Int
 ps:List Str
 b:List Ex
variable {d:Nat}
def RDP (T:List Tok) (bs:List De) (n:Nat) (a:RD5):Prop:=Ok 0 (a0I T bs n) a.e (a.d,a.n)/\a.n < T.length/\a.b.length<=256/\(a.e=0->n < a.n)
theorem d7W {m:Nat} {l:List Str} (q:Ok 0 (b5N T m l) e2 n2) (h:e2=0):m<=n2:=by
 have h1:=(q.alive h).2;unfold b5N at h1;by_cases hl:l=[]
 ·rw [if_pos hl] at h1;injection h1 with h1
  omega
 ·rw [if_neg hl] at h1;have:=O4 h1;omega
theorem d3j {bs:List De} {n m n6 n8:Nat} {kd e8 x7:Int} {s2:Str} {l:List Str} {b7:List Ex} (hu:¬ ((tk T n).k≠1\/F7 (tk T n).t=0)) (hkd:kd=F7 (tk T n).t) (p1:bs.length=64->e1≠0) (p2:bs.length≠64->e1=0) (q2:Ok e1 ((a23 T kd (n+1)).map fun x=>(x.1.t,x.2)) e2 (s2,n2))
 (p3:e2≠0->e3≠0) (p4:e2=0->(bs.any fun d=>(d.k == kd) && decide (d.name=s2))=true->e3≠0) (p5:e2=0->(bs.any fun d=>(d.k == kd) && decide (d.name=s2))=false->e3=0) (q5:Ok e3 (a3c T kd n2) e5 (l,m)) (q6:Ok e5 (pIs T m 4 [61]) e6 n6) (k7:Ok e6 (((z8 T l (8*T.length+6)).ex 1 n6 []).map cx) e7 (x7,n7,b7)) (q8:Ok e7 (pIs T n7 4 [59]) e8 n8) :
 Ok 0 (a0I T bs n) e8 (⟨kd,s2,l,b7⟩,n8):=by
 have d8:e3≠0->e8≠0:=fun h=>q8.2 (k7.2 (q6.2 (q5.2 h)));rw [a0I,if_neg hu,<- hkd];by_cases h64:bs.length=64
 ·rw [if_pos h64];exact .none (d8 (p3 (q2.2 (p1 h64))))
 ·rw [if_neg h64];have he1:=p2 h64;subst he1;refine q2.bindM (fun p hp hg=>?_) fun h=>d8 (p3 h);obtain ⟨t,m2⟩:=p;injection hg with hg1 hg2
  dsimp only at hg1 hg2 ⊢;subst hg1 hg2;by_cases hin:(bs.any fun d=>(d.k == kd) && decide (d.name=t.t))=true
  ·rw [if_pos hin];by_cases h2:e2=0
   ·exact .none (d8 (p4 h2 hin))
   ·exact .none (d8 (p3 h2))
  ·rw [if_neg hin];refine Ok.pre ?_ (fun h=>p5 h (sp_ hin)) p3;refine q5.bind (q6.bind ?_);refine k7.bindM (fun p hp hg=>?_) q8.2;obtain ⟨i,n7',b7'⟩:=p;injection hg with hg1 hg2
   injection hg2 with hg2 hg3
   dsimp only at hg2 hg3 ⊢;subst hg2 hg3;exact q8.bind .some
theorem d2P {bs:List De} {n m n6 n8:Nat} {kd e8 x7:Int} {s2:Str} {l:List Str} {b7:List Ex} (_:kd=F7 (tk T n).t) (_:bs.length=64->e1≠0) (_:bs.length≠64->e1=0) (q2:Ok e1 ((a23 T kd (n+1)).map fun x=>(x.1.t,x.2)) e2 (s2,n2))
 (p3:e2≠0->e3≠0) (_:e2=0->(bs.any fun d=>(d.k == kd) && decide (d.name=s2))=true->e3≠0) (_:e2=0->(bs.any fun d=>(d.k == kd) && decide (d.name=s2))=false->e3=0) (q5:Ok e3 (a3c T kd n2) e5 (l,m)) (q6:Ok e5 (pIs T m 4 [61]) e6 n6) (k7:Ok e6 (((z8 T l (8*T.length+6)).ex 1 n6 []).map cx) e7 (x7,n7,b7)) (z7:e7=0->n6 < n7) (q8:Ok e7 (pIs T n7 4 [59]) e8 n8) (h0:e8=0) :
 n < n8:=by
 have g8:=K0 q8 h0;have g7:=(k7.alive g8.1).1;have g6:=K0 q6 g7;have g5:=q5.alive g6.1;have h2:e2=0:=Classical.byContradiction fun h=>p3 h g5.1;obtain ⟨p,hp,hg⟩:=O3.1 (q2.alive h2).2;obtain ⟨t,m2⟩:=p;injection hg with _ hg2
 dsimp only at hg2;subst hg2;have:=b9t hp;have:=b6t g5.2;have:=z7 g8.1;omega
theorem c9b {ps:List Str} (hc:a0b T []) (pk:Str) (im:List Str) (bs:List De) (hbs:bs.length<=64) (n:Nat) (at_:Int) (b:List Ex) (hn:n < T.length):b8 CC 187 [.ptr 0 0,.agg (⟨pk,im,bs⟩:Src).cells] (rst T n at_ 0 ps b) (fun r τ=>∃ a:RD5,F1 2 τ r (.ret (.agg a.d.cells)) (a61 T a.n a.at_ a.e a.ps a.b)/\RDP T bs n a):=by
 have hT:=hc.len;have hW:=hc.w;refine cO Tryz.func187 ?_;refine b5b ?_;refine K9 [rbx T n at_ 0 ps b 1,p7 0 b.length,.dead] rfl ?_;refine a65 ?_;refine cD (x8 rfl b02 rfl p8 ?_);refine S5 ?_;refine cD (x8 rfl b02 rfl p8 ?_);refine b2a ?_;refine cY K2 ?_;refine cY c9S ?_;refine cD (j6 rfl tt rfl rfl c4 a2U (.inl rfl) rfl rfl (nb rfl) ?_);refine cY K2 ?_;refine cY b3v ?_;refine cD (j6 rfl tt rfl rfl c4 b2W (.inl rfl) rfl rfl (nb rfl) ?_);refine c8 ?_;refine K9 [rbx T n at_ 0 [] [] 2,p7 0 b.length,p7 0 ([]:List Ex).length,.box (⟨pk,im,bs⟩:Src).cells,.box (⟨0,[],[],[]⟩:De).cells,.box (⟨0,[],[],[]⟩:De).cells] rfl ?_;refine z_2 ?_;refine ye rfl a7k ⟨tt,tt⟩ (Y9 hT hn (q:=0) (s:=2) ⟨rfl,rfl,de_⟩) rfl ?_;refine cY a4z ?_;refine z_1 ?_;refine M7 (α:=Int) (fun _=>[(0,.ptr 0 0),(3,.ptr 3 0),(4,.ptr 4 0),(5,.ptr 5 0),(6,(iv ((tk T n).at_)))]) (fun kd=>[rbx T (n+1) at_ 0 [] [] 2,p7 0 b.length,p7 0 ([]:List Ex).length,.box (⟨pk,im,bs⟩:Src).cells,.box (⟨0,[],[],[]⟩:De).cells,.box (⟨kd,[],[],[]⟩:De).cells]) (fun kd=>kd=F7 (tk T n).t/\(tk T n).k=1/\(kd=1\/kd=2\/kd=3)/\n+1 < T.length) ?_ ?_
 ·
  refine z_2 ?_;refine de rfl b0l o7 (Y1 hT hn hW [102,117,110,99] (q:=0) (s:=2) ⟨rfl,rfl,de_⟩) rfl ?_;rintro ⟨v1,m1⟩ ⟨hv1,hs1,hf1,hm1⟩;dsimp only at hv1 hs1 hf1 hm1 ⊢;refine c5 [rbx T m1 at_ 0 [] [] 2,p7 0 b.length,p7 0 ([]:List Ex).length,.box (⟨pk,im,bs⟩:Src).cells,.box (⟨0,[],[],[]⟩:De).cells,.box (⟨0,[],[],[]⟩:De).cells] rfl ?_;refine c8 ?_;refine cC ?_ ?_ <;> intro h1
  ·have hi1:v1=true:=sp_ h1;have hq:=(T8 (hv1.symm.trans hi1)).2;have hmm:=hs1 hi1;subst m1;refine r3 ?_;refine c82 ?_;refine c8 ?_;exact ⟨(1:Int),⟨by rw [(P0 hq).2,d2p],(P0 hq).1,de_,hm1⟩,tu_,rfl⟩
  ·have hi1:v1=false:=sp_ h1;have hg1:=Q8 hv1 hi1;have hmm:=hf1 hi1;subst m1;refine z_2 ?_;refine de rfl b0l o7 (Y1 hT hn hW [116,101,115,116] (q:=0) (s:=2) ⟨rfl,rfl,de_⟩) rfl ?_;rintro ⟨v2,m2⟩ ⟨hv2,hs2,hf2,hm2⟩;dsimp only at hv2 hs2 hf2 hm2 ⊢;refine c5 [rbx T m2 at_ 0 [] [] 2,p7 0 b.length,p7 0 ([]:List Ex).length,.box (⟨pk,im,bs⟩:Src).cells,.box (⟨0,[],[],[]⟩:De).cells,.box (⟨0,[],[],[]⟩:De).cells] rfl ?_;refine c8 ?_;refine cC ?_ ?_ <;> intro h2
   ·have hi2:v2=true:=sp_ h2;have hq:=(T8 (hv2.symm.trans hi2)).2;have hmm:=hs2 hi2;subst m2;refine r3 ?_;refine c82 ?_;refine c8 ?_;exact ⟨(2:Int),⟨by rw [(P0 hq).2,d2o],(P0 hq).1,de_,hm2⟩,tu_,rfl⟩
   ·have hi2:v2=false:=sp_ h2;have hg2:=Q8 hv2 hi2;have hmm:=hf2 hi2;subst m2;refine z_2 ?_;refine de rfl b0l o7 (Y1 hT hn hW [103,101,110] (q:=0) (s:=2) ⟨rfl,rfl,de_⟩) rfl ?_;rintro ⟨v3,m3⟩ ⟨hv3,hs3,hf3,hm3⟩;dsimp only at hv3 hs3 hf3 hm3 ⊢;refine c5 [rbx T m3 at_ 0 [] [] 2,p7 0 b.length,p7 0 ([]:List Ex).length,.box (⟨pk,im,bs⟩:Src).cells,.box (⟨0,[],[],[]⟩:De).cells,.box (⟨0,[],[],[]⟩:De).cells] rfl ?_;refine c8 ?_;refine cC ?_ ?_ <;> intro h3
    ·have hi3:v3=true:=sp_ h3;have hq:=(T8 (hv3.symm.trans hi3)).2;have hmm:=hs3 hi3;subst m3;refine r3 ?_;refine c82 ?_;refine c8 ?_;exact ⟨(3:Int),⟨by rw [(P0 hq).2,d2b],(P0 hq).1,de_,hm3⟩,tu_,rfl⟩
    ·have hi3:v3=false:=sp_ h3;have hg3:=Q8 hv3 hi3;have hmm:=hf3 hi3;subst m3;refine z_5 ?_;refine de rfl b9c a7P (a2G _ _ de_ (q:=0) (s:=2) ⟨rfl,rfl,de_⟩) rfl ?_;rintro ⟨x0,y0⟩ hy0;dsimp only at hy0 ⊢;refine c5 [rbx T n x0 y0 [] [] 2,p7 0 b.length,p7 y0 ([]:List Ex).length,.box (⟨pk,im,bs⟩:Src).cells,.box (⟨0,[],[],[]⟩:De).cells,.box (⟨0,[],[],[]⟩:De).cells] rfl ?_;refine S5 ?_;refine c93 ?_;refine a1n ?_;exact ⟨_,B6 rfl c6Z,(by exact ⟨⟨⟨0,[],[],[]⟩,n,x0,y0,[],[]⟩,c2K (k:=2) rfl rfl de_ (fun _=>c0E _ _ _ _ _),⟨by rw [a0I,if_pos (d8t (Q8 hv1 hi1) (Q8 hv2 hi2) (Q8 hv3 hi3))];exact .none hy0,hn,n_3 _,fun h0=>absurd h0 hy0⟩⟩)⟩
 ·rintro kd E1 ⟨hkd,hk1,hk3,hn1⟩;have hu1:¬ ((tk T n).k≠1\/F7 (tk T n).t=0):=by rw [<- hkd];omega
  refine M7 (α:=Int × Int) (fun _=>[(0,.ptr 0 0),(3,.ptr 3 0),(4,.ptr 4 0),(5,.ptr 5 0)]) (fun a=>[rbx T (n+1) a.1 a.2 [] [] 2,p7 0 b.length,p7 a.2 ([]:List Ex).length,.box (⟨pk,im,bs⟩:Src).cells,.box (⟨0,[],[],[]⟩:De).cells,.box (⟨kd,[],[],[]⟩:De).cells]) (fun a=>(bs.length=64->a.2≠0)/\(bs.length≠64->a.2=0)) ?_ ?_
  ·
   refine z_0 ?_;refine d3x ?_;refine O1 ?_;refine cC ?_ ?_ <;> intro h4
   ·have h64:bs.length=64:=sm_ h4;refine b87 ?_;rintro ⟨x0,y0⟩ hy0;dsimp only at hy0 ⊢;refine c5 [rbx T (n+1) x0 y0 [] [] 2,p7 0 b.length,p7 y0 ([]:List Ex).length,.box (⟨pk,im,bs⟩:Src).cells,.box (⟨0,[],[],[]⟩:De).cells,.box (⟨kd,[],[],[]⟩:De).cells] rfl ?_;refine c8 ?_;exact ⟨(x0,y0),⟨fun _=>hy0,fun h=>absurd h64 h⟩,tu_,rfl⟩
   ·have h64:¬ bs.length=64:=sm_ h4;refine c9 ?_;exact ⟨(at_,0),⟨fun h=>absurd h h64,fun _=>rfl⟩,tu_,rfl⟩
  ·rintro ⟨a1,e1⟩ E2 ⟨p1,p2⟩;dsimp only at p1 p2 ⊢;refine z_2 ?_;refine ye rfl a7k ⟨tt,tt⟩ (Y9 hT hn1 (q:=0) (s:=2) ⟨rfl,rfl,de_⟩) rfl ?_;refine cY a4z ?_;refine z_1 ?_;refine M7 (α:=Str × Nat × Int × Int) (fun _=>[(0,.ptr 0 0),(3,.ptr 3 0),(4,.ptr 4 0),(5,.ptr 5 0),(6,(iv ((tk T (n+1)).at_)))]) (fun a=>[rbx T a.2.1 a.2.2.1 a.2.2.2 [] [] 2,p7 0 b.length,p7 a.2.2.2 ([]:List Ex).length,.box (⟨pk,im,bs⟩:Src).cells,.box (⟨0,[],[],[]⟩:De).cells,.box (⟨kd,a.1,[],[]⟩:De).cells]) (fun a=>Ok e1 ((a23 T kd (n+1)).map fun x=>(x.1.t,x.2)) a.2.2.2 (a.1,a.2.1)/\a.2.1 < T.length) ?_ ?_
   ·
    refine z_0 ?_;refine a4k ?_;refine O1 ?_;refine cC ?_ ?_ <;> intro h5
    ·have hk:kd=3:=sp_ h5;have hh:∀ m,a23 T kd m=a0L T m:=fun m=>if_pos hk;refine z_4 ?_;refine de rfl c3J o7 (b0D hT hn1 hW true hc.l (q:=0) (s:=2) ⟨rfl,rfl,de_⟩) rfl ?_;rintro ⟨s2,n2,a2,e2⟩ ⟨q2,y2⟩;dsimp only at q2 y2 ⊢;rw [a3W] at q2;refine d4F ?_;refine d6o ?_;exact ⟨(s2,n2,a2,e2),⟨by rw [hh];exact q2,y2⟩,tu_,rfl⟩
    ·have hk:¬ kd=3:=sp_ h5;have hh:∀ m,a23 T kd m=J1 T m:=fun m=>if_neg hk;refine z_4 ?_;refine de rfl b7E ⟨tt,tt⟩ (a7G hT hn1 hW (q:=0) (s:=2) ⟨rfl,rfl,de_⟩) rfl ?_;rintro ⟨s2,n2,a2,e2⟩ ⟨q2,y2⟩;dsimp only at q2 y2 ⊢;refine d4F ?_;refine d6o ?_;exact ⟨(s2,n2,a2,e2),⟨by rw [hh];exact q2,y2⟩,tu_,rfl⟩
   ·rintro ⟨s2,n2,a2,e2⟩ E3 ⟨q2,y2⟩;dsimp only at q2 y2 ⊢;refine M7 (α:=Int × Int) (fun _=>[(0,.ptr 0 0),(4,.ptr 4 0),(5,.ptr 5 0)]) (fun a=>[rbx T n2 a.1 a.2 [] [] 2,p7 0 b.length,p7 a.2 ([]:List Ex).length,.box (⟨pk,im,bs⟩:Src).cells,.box (⟨0,[],[],[]⟩:De).cells,.box (⟨kd,s2,[],[]⟩:De).cells]) (fun a=>(e2≠0->a.2≠0)/\(e2=0->(bs.any fun d=>(d.k == kd) && decide (d.name=s2))=true->a.2≠0)/\(e2=0->(bs.any fun d=>(d.k == kd) && decide (d.name=s2))=false->a.2=0)) ?_ ?_
    ·
     refine a6K ?_;refine a6s ?_;refine cG (fun hg=>R8 rfl tt rfl c0g a2R rfl (nb rfl)) ?_;refine b6q ?_;refine cG b7W ?_;refine cG a2E ?_;refine cG (fun hg=>j8 rfl Tryz.call224 ⟨hg,hg,hg,tt⟩ (c0G ⟨pk,im,bs⟩ kd s2 (by show bs.length<=1000000;omega) _) rfl) ?_;refine a4M ?_;refine cC ?_ ?_ <;> intro h6
     ·have ht:e2=0/\(bs.any fun d=>(d.k == kd) && decide (d.name=s2))=true:=sp_ h6;refine b87 ?_;rintro ⟨x0,y0⟩ hy0;dsimp only at hy0 ⊢;refine c5 [rbx T n2 x0 y0 [] [] 2,p7 0 b.length,p7 y0 ([]:List Ex).length,.box (⟨pk,im,bs⟩:Src).cells,.box (⟨0,[],[],[]⟩:De).cells,.box (⟨kd,s2,[],[]⟩:De).cells] rfl ?_;refine c8 ?_;exact ⟨(x0,y0),⟨fun _=>hy0,fun _ _=>hy0,fun _ h=>by rw [ht.2] at h;cases h⟩,tu_,rfl⟩
     ·have ht:¬ (e2=0/\(bs.any fun d=>(d.k == kd) && decide (d.name=s2))=true):=fun h=>by simp [h.1,h.2] at h6
      refine c9 ?_;exact ⟨(a2,e2),⟨fun h=>h,fun h0 h=>absurd ⟨h0,h⟩ ht,fun h0 _=>h0⟩,tu_,rfl⟩
    ·rintro ⟨a3,e3⟩ E4 ⟨p3,p4,p5⟩;dsimp only at p3 p4 p5 ⊢;refine b55 hCC 6 rfl (α:=RP5) (fun _=>[(0,.ptr 0 0),(4,.ptr 4 0),(5,.ptr 5 0)]) (fun a=>[rbx T a.m a.at_ a.e [] [] 2,p7 0 b.length,p7 a.e ([]:List Ex).length,.dead,.box (⟨0,[],[],[]⟩:De).cells,.box (⟨kd,s2,a.l,[]⟩:De).cells]) (fun a=>Ok e3 (a3c T kd n2) a.e (a.l,a.m)/\a.m < T.length/\a.l.length<=9) ?_ ?_
     ·
      refine z_0 ?_;refine a4k ?_;refine O1 ?_;refine cC ?_ ?_ <;> intro h7
      ·have hk:kd=1:=sp_ h7;have hp:a3c T kd n2=K6 T n2:=if_pos hk;rw [hp];refine z_2 ?_;refine de rfl a4G o7 (L8 hT y2 hW [40] (q:=0) (s:=2) ⟨rfl,rfl,de_⟩) rfl ?_;rintro ⟨n4,a4,e4⟩ ⟨q4,y4⟩;dsimp only at q4 y4 ⊢;refine c5 [rbx T n4 a4 e4 [] [] 2,p7 0 b.length,p7 e4 ([]:List Ex).length,.box (⟨pk,im,bs⟩:Src).cells,.box (⟨0,[],[],[]⟩:De).cells,.box (⟨kd,s2,[],[]⟩:De).cells] rfl ?_;refine a4B ?_;refine B2 hCC 6 rfl (α:=RP5) (fun _=>[(0,.ptr 0 0),(4,.ptr 4 0),(5,.ptr 5 0)]) (fun a=>[rbx T a.m a.at_ a.e [] [] 2,p7 0 b.length,p7 a.e ([]:List Ex).length,.dead,.box (⟨0,[],[],[]⟩:De).cells,.box [iv kd,(sv s2),.list (a.l.map scv) (gnn a.l.length) (G9 a.l.length 6),.list [] false none],u0 a.l.length]) (fun a=>(a.e=0->e3=0/\K6 T n2=a6O T a.m a.l/\n2 < a.m/\a.l.length<=8)/\(a.e≠0->e3=0->K6 T n2=none)/\a.m < T.length/\a.l.length<=9) (fun a=>if a.e=0 then 10 - a.l.length else 0) ⟨⟨[],n4,a4,e4⟩,[0,1,2,3,4,5,10],⟨fun h0=>⟨(K0 q4 h0).1,c4j (q4.alive h0).2,by have:=(K0 q4 h0).2;dsimp only;omega,n_3 _⟩,fun h0 h3=>by
        subst h3
        rcases q4.zero with ⟨h,_⟩ | ⟨_,h⟩
        ·exact absurd h h0
        ·rw [K6,h];rfl,y4,n_3 _⟩,⟨rfl,rfl⟩,ut_,uq_⟩ ?_
       intro ⟨l,m,a5,e⟩ ⟨hI,hN,hm,hl9⟩;dsimp only at hI hN hm hl9 ⊢;refine a9Y ?_;refine a1h ?_;refine b1E (.val (.bool false)) rfl rfl tt rfl rfl (fun hg=>C1 rfl a8E ⟨hg,rfl,tt⟩ (V4 hT hm hW [41] (q:=0) (s:=2) ⟨rfl,rfl,de_⟩) rfl ?_) (fun hg=>?_)
       ·
        obtain rfl:e=0:=sp_ hg;obtain ⟨he3,hS,hnm,hl8⟩:=hI rfl;rintro ⟨v9,m9⟩ ⟨hv9,hs9,hf9,hm9⟩;dsimp only at hv9 hs9 hf9 hm9 ⊢;refine c5 [rbx T m9 a5 0 [] [] 2,p7 0 b.length,p7 0 ([]:List Ex).length,.dead,.box (⟨0,[],[],[]⟩:De).cells,.box [iv kd,(sv s2),.list (l.map scv) (gnn l.length) (G9 l.length 6),.list [] false none],u0 l.length] rfl ?_;refine b9F ?_;refine cC ?_ ?_ <;> intro h8
        ·have hi9:v9=false:=sp_ h8;have hg9:=Q8 hv9 hi9;have hmm:=hf9 hi9;subst m9;rw [b96 hg9] at hS;refine a21 ?_;refine M7 (α:=Nat × Int × Int) (fun _=>[(0,.ptr 0 0),(4,.ptr 4 0),(5,.ptr 5 0)]) (fun a=>[rbx T a.1 a.2.1 a.2.2 [] [] 2,p7 0 b.length,p7 a.2.2 ([]:List Ex).length,.dead,.box (⟨0,[],[],[]⟩:De).cells,.box [iv kd,(sv s2),.list (l.map scv) (gnn l.length) (G9 l.length 6),.list [] false none],u0 l.length]) (fun a=>Ok 0 (b5N T m l) a.2.2 a.1/\a.1 < T.length) ?_ ?_
         ·
          refine z_0 ?_;refine a6p ?_;refine a8j ?_;refine cC ?_ ?_ <;> intro h9
          ·have hl:l≠[]:=by intro hl;subst hl;simp at h9
           refine z_4 ?_;refine de rfl a4G o7 (L8 hT hm hW [44] (q:=0) (s:=2) ⟨rfl,rfl,de_⟩) rfl ?_;rintro ⟨n5,a6,e5⟩ ⟨q5,y5⟩;dsimp only at q5 y5 ⊢;refine c5 [rbx T n5 a6 e5 [] [] 2,p7 0 b.length,p7 e5 ([]:List Ex).length,.dead,.box (⟨0,[],[],[]⟩:De).cells,.box [iv kd,(sv s2),.list (l.map scv) (gnn l.length) (G9 l.length 6),.list [] false none],u0 l.length] rfl ?_;refine c8 ?_;exact ⟨(n5,a6,e5),⟨by rw [b5N,if_neg hl];exact q5,y5⟩,tu_,rfl⟩
          ·have hl:l=[]:=by
            cases l with
            | nil=>rfl
            | cons x l=>simp at h9 <;> omega
           refine c9 ?_;exact ⟨(m,a5,0),⟨by rw [b5N,if_pos hl];exact .some,hm⟩,tu_,rfl⟩
         ·rintro ⟨n5,a6,e5⟩ E5 ⟨q5,y5⟩;dsimp only at q5 y5 ⊢;refine z_2 ?_;refine ye rfl a7k ⟨tt,tt⟩ (Y9 hT y5 (q:=0) (s:=2) ⟨rfl,rfl,de_⟩) rfl ?_;refine cY a4z ?_;refine O0 ?_;refine de rfl b7E ⟨tt,tt⟩ (a7G hT y5 hW (q:=0) (s:=2) ⟨rfl,rfl,de_⟩) rfl ?_;rintro ⟨s6,n6,a7,e6⟩ ⟨q6,y6⟩;dsimp only at q6 y6 ⊢;have hls:=U4 l s6;refine c5 [rbx T n6 a7 e6 [] [] 2,p7 0 b.length,p7 e6 ([]:List Ex).length,.dead,.box (⟨0,[],[],[]⟩:De).cells,.box [iv kd,(sv s2),.list (l.map scv) (gnn l.length) (G9 l.length 6),.list [] false none],u0 l.length] rfl ?_;refine z_1 ?_;refine a0Y ?_;refine a6p ?_;refine a8j ?_;refine cC ?_ ?_ <;> intro h10
          ·have h8:l.length=8:=sm_ h10;refine b87 ?_;rintro ⟨x0,y0⟩ hy0;dsimp only at hy0 ⊢;refine c5 [rbx T n6 x0 y0 [] [] 2,p7 0 b.length,p7 y0 ([]:List Ex).length,.dead,.box (⟨0,[],[],[]⟩:De).cells,.box [iv kd,(sv s2),.list (l.map scv) (gnn l.length) (G9 l.length 6),.list [] false none],u0 l.length] rfl ?_;refine T5 ?_;refine b17 ?_;refine ye rfl b8x i7 (a7x l (gnn l.length) s6 om_ _) rfl ?_;refine c8 ?_;refine cC ?_ ?_ <;> intro h11
           ·refine b87 ?_;rintro ⟨x1,y1⟩ hy1;dsimp only at hy1 ⊢;refine d3G ?_;refine r3 ?_;refine b17 ?_;refine cY d1H ?_;refine cD (C5 rfl tt tt rfl si_ q_2 t_1 t_0 a3y t_3 rfl (.inr rfl) q_8 a36 E7 ((l++[s6]).map scv) (l++[s6]).length si_ si_ ?_);refine b9h ?_;exact ⟨⟨l++[s6],n6,x1,y1⟩,[0,1,2,3,4,5,7],⟨by
             dsimp only;rw [if_neg hy1,if_pos rfl];omega,fun h=>absurd h hy1,fun h _=>(a5H hl8 hS q5 q6 (e4:=y1) (fun _=>hy1) (fun h h'=>absurd h8 h) (fun _=>hy1)).2 h,y6,do_⟩,⟨rfl,rfl⟩,ut_,⟨.inr ⟨_,rfl,.same rfl a91⟩,.inr ⟨_,rfl,.same rfl Z7⟩,.inr ⟨_,rfl,.same rfl Z7⟩,.inl rfl,.inr ⟨_,rfl,.same rfl (o9 (a34 _))⟩,.inr ⟨_,rfl,.box ⟨.old (.val _),.old (.val _),D2.grow (f:=scv) (fun _=>⟨.val _,tt⟩) rfl,.old (N6 _ [] _),tt⟩⟩,.inr ⟨_,rfl,.same rfl C3⟩,tt⟩⟩
           ·refine c9 (r3 ?_);refine b17 ?_;refine cY d1H ?_;refine cD (C5 rfl tt tt rfl si_ q_2 t_1 t_0 a3y t_3 rfl (.inr rfl) q_8 a36 E7 ((l++[s6]).map scv) (l++[s6]).length si_ si_ ?_);refine b9h ?_;exact ⟨⟨l++[s6],n6,x0,y0⟩,[0,1,2,3,4,5,7],⟨by
             dsimp only;rw [if_neg hy0,if_pos rfl];omega,fun h=>absurd h hy0,fun h _=>(a5H hl8 hS q5 q6 (e4:=y0) (fun _=>hy0) (fun h h'=>absurd h8 h) (fun _=>hy0)).2 h,y6,do_⟩,⟨rfl,rfl⟩,ut_,⟨.inr ⟨_,rfl,.same rfl a91⟩,.inr ⟨_,rfl,.same rfl Z7⟩,.inr ⟨_,rfl,.same rfl Z7⟩,.inl rfl,.inr ⟨_,rfl,.same rfl (o9 (a34 _))⟩,.inr ⟨_,rfl,.box ⟨.old (.val _),.old (.val _),D2.grow (f:=scv) (fun _=>⟨.val _,tt⟩) rfl,.old (N6 _ [] _),tt⟩⟩,.inr ⟨_,rfl,.same rfl C3⟩,tt⟩⟩
          ·have h8:¬ l.length=8:=sm_ h10;refine a0E ?_;refine b17 ?_;refine ye rfl b8x i7 (a7x l (gnn l.length) s6 om_ _) rfl ?_;refine c8 ?_;refine cC ?_ ?_ <;> intro h12
           ·have hin:s6∈l:=sp_ h12;refine b87 ?_;rintro ⟨x1,y1⟩ hy1;dsimp only at hy1 ⊢;refine d3G ?_;refine r3 ?_;refine b17 ?_;refine cY d1H ?_;refine cD (C5 rfl tt tt rfl si_ q_2 t_1 t_0 a3y t_3 rfl (.inr rfl) q_8 a36 E7 ((l++[s6]).map scv) (l++[s6]).length si_ si_ ?_);refine b9h ?_;exact ⟨⟨l++[s6],n6,x1,y1⟩,[0,1,2,3,4,5,7],⟨by
             dsimp only;rw [if_neg hy1,if_pos rfl];omega,fun h=>absurd h hy1,fun h _=>(a5H hl8 hS q5 q6 (e4:=y1) (fun _=>hy1) (fun _ h'=>absurd hin h') (fun _=>hy1)).2 h,y6,do_⟩,⟨rfl,rfl⟩,ut_,⟨.inr ⟨_,rfl,.same rfl a91⟩,.inr ⟨_,rfl,.same rfl Z7⟩,.inr ⟨_,rfl,.same rfl Z7⟩,.inl rfl,.inr ⟨_,rfl,.same rfl (o9 (a34 _))⟩,.inr ⟨_,rfl,.box ⟨.old (.val _),.old (.val _),D2.grow (f:=scv) (fun _=>⟨.val _,tt⟩) rfl,.old (N6 _ [] _),tt⟩⟩,.inr ⟨_,rfl,.same rfl C3⟩,tt⟩⟩
           ·have hin:¬ s6∈l:=sp_ h12;refine c9 (r3 ?_);refine b17 ?_;refine cY d1H ?_;refine cD (C5 rfl tt tt rfl si_ q_2 t_1 t_0 a3y t_3 rfl (.inr rfl) q_8 a36 E7 ((l++[s6]).map scv) (l++[s6]).length si_ si_ ?_);refine b9h ?_;exact ⟨⟨l++[s6],n6,a7,e6⟩,[0,1,2,3,4,5,7],⟨by
             dsimp only;rw [if_pos rfl]
             split <;> omega,fun h=>by obtain ⟨_,g5,g8,hS'⟩:=(a5H hl8 hS q5 q6 (e4:=e6) (fun h=>absurd h (by rintro (h | h) <;> contradiction)) (fun _ _=>rfl) id).1 h;have:=(b0y q6 h).2.1;have:=d7W q5 g5;exact ⟨he3,hS',do_,do_⟩,fun h _=>(a5H hl8 hS q5 q6 (e4:=e6) (fun h=>absurd h (by rintro (h | h) <;> contradiction)) (fun _ _=>rfl) id).2 h,y6,do_⟩,⟨rfl,rfl⟩,ut_,⟨.inr ⟨_,rfl,.same rfl a91⟩,.inr ⟨_,rfl,.same rfl Z7⟩,.inr ⟨_,rfl,.same rfl Z7⟩,.inl rfl,.inr ⟨_,rfl,.same rfl (o9 (a34 _))⟩,.inr ⟨_,rfl,.box ⟨.old (.val _),.old (.val _),D2.grow (f:=scv) (fun _=>⟨.val _,tt⟩) rfl,.old (N6 _ [] _),tt⟩⟩,.inr ⟨_,rfl,.same rfl C3⟩,tt⟩⟩
        ·have hi9:v9=true:=sp_ h8;obtain ⟨_,hq9⟩:=T8 (hv9.symm.trans hi9);have hmm:=hs9 hi9;subst m9;rw [c3Z hq9] at hS;refine A4 ?_;exact ⟨⟨l,m+1,a5,0⟩,[0,1,2,3,4,5],⟨Ok.of (fun _=>⟨he3,hS⟩) fun h=>absurd rfl h,hm9,hl9⟩,⟨rfl,rfl⟩,ut_,⟨.inr ⟨_,rfl,.same rfl a91⟩,.inr ⟨_,rfl,.same rfl Z7⟩,.inr ⟨_,rfl,.same rfl Z7⟩,.inl rfl,.inr ⟨_,rfl,.same rfl (o9 (a34 _))⟩,.inr ⟨_,rfl,.box ⟨.old (.val _),.old (.val _),Y4 (f:=scv) (fun _=>⟨.val _,tt⟩) _,.old (N6 _ [] _),tt⟩⟩,tt⟩⟩
       ·
        refine b9F ?_;refine cC ?_ ?_ <;> intro h13
        ·have he:e≠0:=sp_ hg;simp [he] at h13
        ·have he:e≠0:=sp_ hg;refine A4 ?_;exact ⟨⟨l,m,a5,e⟩,[0,1,2,3,4,5],⟨Ok.of (fun h=>absurd h he) (fun h h3=>hN h h3),hm,hl9⟩,⟨rfl,rfl⟩,ut_,⟨.inr ⟨_,rfl,.same rfl a91⟩,.inr ⟨_,rfl,.same rfl Z7⟩,.inr ⟨_,rfl,.same rfl Z7⟩,.inl rfl,.inr ⟨_,rfl,.same rfl (o9 (a34 _))⟩,.inr ⟨_,rfl,.box ⟨.old (.val _),.old (.val _),Y4 (f:=scv) (fun _=>⟨.val _,tt⟩) _,.old (N6 _ [] _),tt⟩⟩,tt⟩⟩
      ·have hk:¬ kd=1:=sp_ h7;have hp:a3c T kd n2=some ([],n2):=if_neg hk;refine c9 ?_;exact ⟨⟨[],n2,a3,e3⟩,[0,1,2,3,4,5],⟨by rw [hp];exact .some,y2,n_3 _⟩,⟨rfl,rfl⟩,ut_,uq_⟩
     ·rintro ⟨l,m,a5,e5⟩ ⟨q5,y5,hl9⟩;dsimp only at q5 y5 hl9 ⊢;have hc':a0b T l:=⟨hT,hW,hc.l,om_,hc.nn⟩;refine z_2 ?_;refine a6p ?_;refine cY K2 ?_;refine cY c9S ?_;refine cD (j6 rfl tt tt rfl c4 a2U (.inl rfl) rfl rfl (nb rfl) ?_);refine L7 ?_;refine de rfl a4G o7 (L8 hT y5 hW [61] (q:=0) (s:=2) ⟨rfl,rfl,de_⟩) rfl ?_;rintro ⟨n6,a6,e6⟩ ⟨q6,y6⟩;dsimp only at q6 y6 ⊢;refine c5 [rbx T n6 a6 e6 l [] 2,p7 0 b.length,p7 e6 ([]:List Ex).length,.dead,.box (⟨0,[],[],[]⟩:De).cells,.box (⟨kd,s2,l,[]⟩:De).cells] rfl ?_;refine L7 ?_;refine de rfl b7T o7 ((d7L hc' (8*T.length+6)).1 1 n6 a6 e6 [] y6 (n_3 _) de_ (fun _=>by omega) _ 0 2 ⟨rfl,rfl,de_⟩) rfl ?_;rintro ⟨x7,n7,a7,e7,b7⟩ ⟨k7,y7,w7,z7,l7,u7⟩;dsimp only at k7 y7 w7 z7 l7 u7 ⊢;refine c5 [rbx T n7 a7 e7 l b7 6,p7 0 b.length,.dead,.dead,.box (⟨0,[],[],[]⟩:De).cells,.box (⟨kd,s2,l,[]⟩:De).cells,p7 e7 b7.length] rfl ?_;refine L7 ?_;refine de rfl a4G o7 (L8 hT y7 hW [59] (q:=0) (s:=6) ⟨rfl,rfl,de_⟩) rfl ?_;rintro ⟨n8,a8,e8⟩ ⟨q8,y8⟩;dsimp only at q8 y8 ⊢;refine c5 [rbx T n8 a8 e8 l b7 6,p7 0 b.length,.dead,.dead,.box (⟨0,[],[],[]⟩:De).cells,.box (⟨kd,s2,l,[]⟩:De).cells,p7 e8 b7.length] rfl ?_;refine L7 ?_;refine cY K2 ?_;refine cY b3v ?_;refine cY a6B ?_;refine d4t ?_;refine S5 ?_;refine c93 ?_;refine a1n ?_;exact ⟨_,B6 rfl c6Z,(by exact ⟨⟨⟨kd,s2,l,b7⟩,n8,a8,e8,l,b7⟩,c2K (k:=6) rfl rfl de_ (fun _=>c0E _ _ _ _ _),⟨d3j hu1 hkd p1 p2 q2 p3 p4 p5 q5 q6 k7 q8,y8,w7,fun h0=>d2P hkd p1 p2 q2 p3 p4 p5 q5 q6 k7 z7 q8 h0⟩⟩)⟩
theorem d1j {ps:List Str} (hc:a0b T []) (pk:Str) (im:List Str) (bs:List De) (hbs:bs.length<=64) {n:Nat} {at_:Int} {b:List Ex} (hn:n < T.length) {q s:Nat} (hσ:RAt σ q s T n at_ 0 ps b):b8 CC 187 [.ptr q 0,.agg (⟨pk,im,bs⟩:Src).cells] σ fun r τ=>∃ a:RD5,r = .ret (.agg a.d.cells)/\τ=rS1 σ q s T a.n a.at_ a.e a.ps a.b/\RDP T bs n a :=
 c0V (c:=fun a:RD5=>.agg a.d.cells) (N:=fun a=>a.n) (A:=fun a=>a.at_) (E:=fun a=>a.e) (Z:=fun a=>a.ps) (B:=fun a=>a.b) (fun _ h=>by simp at h;subst h;exact o3 (Src.pure _)) (fun a=>o3 a.d.pure) (c9b hc pk im bs hbs n at_ b hn) hσ
theorem b2l (s:Str):∀ (n f f' i:Nat),s.length - i < n->i<=s.length->s.length < f+i->s.length < f'+i->a0C f s i=a0C f' s i
 | 0,_,_,_,h,_,_,_=>by omega
 | n+1,f,f',i,h,hi,hf,hf'=>by
  obtain ⟨f,rfl⟩:∃ g,f=g+1:=⟨f - 1,om_⟩;obtain ⟨f',rfl⟩:∃ g,f'=g+1:=⟨f' - 1,om_⟩;have h1:=(a1S (s:=s) (a:=i) (ks:=[5]) hi);rw [a0C,a0C];cases hb:s[A0 s i [5]]? with
  | none=>rfl
  | some b =>
   have hlt:=(n_1.1 hb).1;simp only;by_cases h6:k8 b.toNat=6
   ·rw [if_pos h6,if_pos h6];have h2:=b1S hb h6;have h3:=a72 (s:=s) (a:=A0 s i [5]) om_;exact b2l s n f f' _ om_ h3 om_ om_
   ·rw [if_neg h6,if_neg h6];by_cases h4:(D7 s (A0 s i [5]) b).2.2≠0
    ·rw [if_pos h4,if_pos h4]
    ·rw [if_neg h4,if_neg h4];obtain ⟨e,he,h5,h7⟩:=a55 hb h4;rw [he,a2p];rw [b2l s n f f' e om_ h7 om_ om_]
def a6f (s:Str) (i:Nat):Option (List Tok):=a0C (s.length+1 - i) s i
theorem a3U {s:Str} (hi:i<=s.length) (hf:s.length < f+i):a0C f s i=a6f s i:=b2l s (s.length+1 - i) f _ i om_ hi hf om_
theorem d0V (s:Str):a3B s=if 16384 < s.length then none else a6f s 0:=by
 unfold a3B
 split
 ·rfl
 ·exact a3U (n_3 _) om_
theorem d0s {s:Str} (h:i=s.length):a6f s i=some [⟨5,[],0,(i:Nat)⟩]:=by
 subst h;unfold a6f;rw [show s.length+1 - s.length=0+1 by omega,b8a (a8J (n_4 _)).symm (n_4 _)]
theorem b9T {s:Str} {b:UInt8} (h:s[i]? = some b) (hk:k8 b.toNat=5):a6f s i=a6f s (i+1):=by
 have hlt:=(n_1.1 h).1;rw [<- a3U (f:=s.length+1) om_ om_,<- a3U (f:=s.length+1) (i:=i+1) om_ om_];have:A0 s i [5]=A0 s (i+1) [5]:=by rw [V1 h,if_pos (by simp [inK,hk])]
 rw [a0C,a0C,this]
theorem c9a {s:Str} {b:UInt8} (h:s[i]? = some b) (hk:k8 b.toNat=6):a6f s i=a6f s (Q3 s i):=by
 have hlt:=(n_1.1 h).1;have h1:i=A0 s i [5]:=by rw [V1 h,if_neg (by simp [inK,hk])]
 have h3:=a72 (s:=s) (a:=i) om_;rw [<- a3U (f:=s.length+1+1) (i:=i) om_ om_,b64 h1 h hk];exact a3U h3 om_
theorem c69 {s:Str} {b:UInt8} (h:s[i]? = some b) (h5:k8 b.toNat≠5) (h6:k8 b.toNat≠6):a6f s i=if (D7 s i b).2.2≠0 then none else (a6f s (D7 s i b).2.1.toNat).map (({ (D7 s i b).1 with at_:=(i:Nat)}:Tok)::·):=by
 have hlt:=(n_1.1 h).1;have h1:i=A0 s i [5]:=by rw [V1 h,if_neg (by simp [inK,h5])]
 rw [<- a3U (f:=s.length+1+1) (i:=i) om_ om_];by_cases h4:(D7 s i b).2.2≠0
 ·rw [b6P h1 h h6 h4,if_pos h4]
 ·obtain ⟨e,he,h7,h8⟩:=a55 h h4;rw [b7w h1 h h6 h4,if_neg h4,he,a2p];rw [a3U h8 om_]
def SkP (s:Str) (i n:Nat):Prop:=i<=n/\n<=s.length/\a6f s i=a6f s n/\∀ b,s[n]? = some b->k8 b.toNat≠5/\k8 b.toNat≠6
theorem c3G (b:UInt8):(((((b.toNat:Int) == 32) || ((b.toNat:Int) == 9)) || ((b.toNat:Int) == 10)) || ((b.toNat:Int) == 13))=decide (k8 b.toNat=5):=by
 generalize (b.toNat:Int)=c;by_cases h:c=9\/c=10\/c=13\/c=32
 ·unfold k8;rw [if_neg om_,if_neg om_,if_neg om_,if_neg om_,if_pos h]
  rcases h with h | h | h | h <;> subst h <;> rfl
 ·have hk:k8 c≠5:=by
   unfold k8
   repeat' split
   all_goals omega
  rw [a1W hk];simp;omega
theorem c9L (b:UInt8):((b.toNat:Int) == 35)=decide (k8 b.toNat=6):=by
 generalize (b.toNat:Int)=c;by_cases h:c=35
 ·subst h;rfl
 ·have hk:k8 c≠6:=by
   unfold k8
   repeat' split
   all_goals omega
  rw [a1W hk];simpa using h
theorem c94 {s:Str} {b:UInt8} (h:s[a]? = some b) (hb:b≠10):Q3 s a=Q3 s (a+1):=by
 obtain ⟨hlt,rfl⟩:=n_1.1 h;unfold Q3;rw [Q4 hlt,b8g,if_pos (sp_ hb),n_7];omega
theorem c6O {s:Str} {b:UInt8} (h:s[a]? = some b) (hb:b=10):Q3 s a=a:=by
 obtain ⟨hlt,rfl⟩:=n_1.1 h;unfold Q3;rw [Q4 hlt,b8g,if_neg (sp_ hb)];rfl
theorem c3M {s:Str} (h:s.length<=a):Q3 s a=a:=by
 unfold Q3;rw [S8 h];rfl
theorem d4K {b:UInt8}:((b.toNat:Int)=10)↔b=10:=by
 constructor
 ·intro h;have:b.toNat=(10:UInt8).toNat:=by have e:(10:UInt8).toNat=10:=rfl;omega
  exact b36.1 this
 ·rintro rfl;rfl
theorem c9F (s:Str) (hs:s.length<=1000000000) (i:Nat) (hi:i<=s.length):b8 CC 227 [(sv s),iv i] [] fun r τ=>∃ n:Nat,r = .ret (iv n)/\τ=[]/\SkP s i n:=by
 refine cO Tryz.func227 ?_;refine z_6 ?_;refine a4A ?_;refine j5 hCC (fun n:Nat=>[(0,(sv s)),(1,iv n)]) (fun _=>[]) (fun n=>i<=n/\n<=s.length/\a6f s i=a6f s n) (fun n=>s.length - n) i ⟨n_4 _,hi,rfl⟩ tu_ (extra0:=[]) rfl r5 uz_ ?_;intro n ⟨hin,hn,hr⟩;refine b3F ?_;refine cC ?_ ?_ <;> intro h1
 ·have hlt:n < s.length:=sm_ h1;obtain ⟨b,hb⟩:∃ b,s[n]? = some b:=⟨s[n]'hlt,si_⟩;refine a21 ?_;refine F5 ?_;refine z_5 ?_;refine cY b8H ?_;refine cY S7 ?_;refine a8T ?_;refine cG d7R ?_;refine a4D ?_;refine a8T ?_;refine cG d7R ?_;refine a4D ?_;refine a8T ?_;refine cG d7R ?_;refine a4D ?_;refine z_1 ?_;refine cC ?_ ?_ <;> intro h2
  ·have hk:k8 b.toNat=5:=by rw [c3G] at h2;simpa using h2
   refine a74 ?_;exact ⟨(n+1),_,⟨om_,om_,om_,by rw [hr,b9T hb hk]⟩,tu_,rfl⟩
  ·have hk5:k8 b.toNat≠5:=by rw [c3G] at h2;simpa using h2
   refine z_5 ?_;refine cY b8H ?_;refine a73 ?_;refine cC ?_ ?_ <;> intro h3
   ·have hk6:k8 b.toNat=6:=by rw [c9L] at h3;simpa using h3
    have hle:=b1S hb hk6;have hl2:=a72 (s:=s) (a:=n) om_;refine F5 ?_;refine j5 hCC (fun m:Nat=>[(0,(sv s)),(1,iv m)]) (fun _=>[]) (fun m=>n<=m/\m<=s.length/\Q3 s n=Q3 s m) (fun m=>s.length - m) n ⟨n_4 _,hn,rfl⟩ tu_ (extra0:=[]) rfl r5 uz_ ?_;intro m ⟨hnm,hm,hr2⟩;obtain ⟨c,hc⟩:∃ c:UInt8,m < s.length->s[m]? = some c:=by
     by_cases hlm:m < s.length
     ·exact ⟨s[m],fun _=>by simp [hlm]⟩
     ·exact ⟨0,fun h=>absurd h hlm⟩
    refine b6X ?_;refine a9A ?_;refine cC ?_ ?_ <;> intro h4
    ·have h4':m < s.length/\¬ (c.toNat:Int)=10:=sp_ h4;have hcm:=hc h4'.1;have hc10:c≠10:=fun e=>h4'.2 (d4K.2 e);refine a21 ?_;refine a74 ?_;exact ⟨(m+1),_,⟨om_,om_,om_,by rw [hr2,c94 hcm hc10]⟩,tu_,rfl⟩
    ·have hme:Q3 s n=m:=by
      rw [hr2];by_cases hlm:m < s.length
      ·have h4':(c.toNat:Int)=10:=by
        have:m < s.length->(c.toNat:Int)=10:=sp_ h4;exact this hlm
       exact c6O (hc hlm) (d4K.1 h4')
      ·exact c3M om_
     refine A4 ?_;exact ⟨m,_,⟨om_,om_,om_,by rw [hr,c9a hb hk6,hme]⟩,tu_,rfl⟩
   ·have hk6:k8 b.toNat≠6:=by rw [c9L] at h3;simpa using h3
    refine a9S ?_;exact ⟨_,j2 rfl tt c4,⟨n,rfl,rfl,hin,hn,hr,fun b' hb'=>by rw [hb] at hb';injection hb' with hb';subst hb';exact ⟨hk5,hk6⟩⟩⟩
 ·have hge:n=s.length:=sm_ h1;refine a2y ?_;exact ⟨_,j2 rfl tt c4,⟨n,rfl,rfl,hin,hn,hr,fun b hb=>by have:=(n_1.1 hb).1;omega⟩⟩
theorem c3x (s:Str) (hs:s.length<=1000000000) (i:Nat) (hi:i<=s.length) (σ:List b9):b8 CC 227 [(sv s),iv i] σ fun r τ=>∃ n:Nat,r = .ret (iv n)/\τ=σ/\SkP s i n :=
 d3P (c:=fun n:Nat=>(iv n)) hCC (fun a h=>by simp at h;rcases h with rfl | rfl <;> exact .val _) (fun _=>.val _) ((c9F s hs i hi).mono fun r τ ⟨n,h1,h2,h3⟩=>⟨n,by rw [h1];exact d3a (.old (.val _)),h3⟩) σ
def addDs (me:EM) (path pkg:Str):List De->Nat->EM
 | [],_=>me
 | d::ds,k=>addDs (a5O me ⟨pkg,d.name,d.k,path,(k:Int),1⟩) path pkg ds (k+1)
abbrev WS:=List Str × SM × EM
def a1r (s:WS) (f:Fi):WS:=if a4v f.p=true then (match P4 f.b with | none=>(s.1++[f.p],s.2.1,s.2.2) | some x=>(s.1,X6 s.2.1 f.p x,addDs s.2.2 f.p x.pkg x.decls 0)) else s
def b0f (fl:List Fi) (s:WS):WS:=fl.foldl a1r s
def H4 (fl:List Fi):WS:=if B7 fl=0 then b0f fl ([],[],[]) else ([],[],[])
def CtB (n:Nat) (me:EM):Prop:=∀ k e,glk me k=some e->0<=e.ct/\e.ct<=(n:Int)
theorem CtB.add {n:Nat} (h:CtB n me) {x:En} (hx:x.ct=1):CtB (n+1) (a5O me x):=fun k e he=>by
 rw [a5O,N7] at he;split at he
 ·injection he with he
  subst he;cases hg:glk me (G7 x.k x.p x.o) with
  | none=>simp only;omega
  | some f=>have:=h _ _ hg;simp only;omega
 ·have:=h _ _ he;omega
theorem CtB.nil (n:Nat):CtB n []:=fun k e h=>by cases h
theorem CtB.mono {n m:Nat} (h:CtB n me) (hnm:n<=m):CtB m me:=fun k e he=>by have:=h k e he;omega
theorem a7i {path pkg:Str} {l:List De} {k:Nat} {d:De} (h:l[k]? = some d):addDs me path pkg (l.drop k) k=addDs (a5O me ⟨pkg,d.name,d.k,path,(k:Int),1⟩) path pkg (l.drop (k+1)) (k+1):=by
 obtain ⟨hlt,rfl⟩:=n_1.1 h;rw [Q4 hlt,addDs]
theorem c4h {l:List Fi} {f:Fi} (h:l[i]? = some f) (s:WS):b0f (l.drop i) s=b0f (l.drop (i+1)) (a1r s f):=by
 obtain ⟨hlt,rfl⟩:=n_1.1 h;unfold b0f;rw [Q4 hlt,List.foldl_cons]
theorem c3b:∀ {pv:Option Fi} {l:List Fi},rvE pv l=0->∀ f∈l,H5 f.p=true/\f.b.length<=16384
 | _,[],_,f,h=>by cases h
 | pv,x::l,h0,f,h=>by
  rw [rvE] at h0;split at h0
  ·rename_i hs
   rcases R5.1 h with rfl | h
   ·unfold J6 at hs;split at hs
    ·cases hs
    ·rename_i hp;split at hs
     ·cases hs
     ·split at hs
      ·cases hs
      ·split at hs
       ·cases hs
       ·exact ⟨sp_ hp,om_⟩
   ·exact c3b h0 f h
  ·rename_i hs;exact absurd h0 hs
theorem a7r {l:List Fi} (h:B7 l=0):l.length<=64/\∀ f∈l,H5 f.p=true/\f.b.length<=16384:=by
 unfold B7 at h;split at h
 ·cases h
 ·exact ⟨om_,c3b h⟩
theorem b1L:∀ (f:Nat) {T:List Tok} {n:Nat} {l:List De} {x:List De × Nat},R4 f T n l=some x->x.1.length+1<=l.length+f
 | 0,T,n,l,x,h=>by cases h
 | f+1,T,n,l,x,h=>by
  rw [R4] at h;split at h
  ·injection h with h;subst h;simp only;omega
  ·cases hd:a0I T l n with
   | none=>rw [hd] at h;cases h
   | some y =>
    rw [hd,n_6] at h;have:=b1L f h;rw [n_5,b3I] at this;omega
theorem b3E {x:Src} (h:a1c T=some x):x.decls.length<=64:=by
 unfold a1c at h;cases h1:pIs T 0 1 [112,97,99,107,97,103,101] with
 | none=>rw [h1] at h;cases h
 | some n1 =>
  rw [h1,n_6] at h;cases h2:J1 T n1 with
  | none=>rw [h2] at h;cases h
  | some w =>
   rw [h2,n_6] at h;cases h3:pIs T w.2 4 [59] with
   | none=>rw [h3] at h;cases h
   | some n2 =>
    rw [h3,n_6] at h;cases h4:a1s 9 T w.1.t n2 [] with
    | none=>rw [h4] at h;cases h
    | some y =>
     rw [h4,n_6] at h;cases h5:R4 65 T y.2 [] with
     | none=>rw [h5] at h;cases h
     | some z =>
      rw [h5,n_6] at h;injection h with h
      subst h;have:=b1L _ h5;simp only [I4] at this ⊢;omega
theorem c0S {s:Str} {x:Src} (h:P4 s=some x):x.decls.length<=64:=by
 unfold P4 at h;cases h1:a3B s with
 | none=>rw [h1] at h;cases h
 | some T=>rw [h1,n_6] at h;exact b3E h
theorem c6U {va:Bool} {br:List Str} {ms:SM} {w q1 q2 t:Nat} (hσ:WAt σ w q1 q2 t fl nn va br ms me) (x:En) (hct:∀ k e,glk me k=some e->0<=e.ct/\e.ct<=1000000):b8 CC 103 [.ptr w 0,.agg x.cells] σ fun r τ=>∃ _:Unit,r = .ret (.tup [])/\τ=b1z σ [w,q1,q2,t] [wbx fl nn va br q1 q2 t,smO ms,emO (a5O me x),u0 br.length]/\True :=
 b5f (α:=Unit) (obs:=wst fl nn va br ms me) (res:=fun _=>.ret (.tup [])) (res':=fun _=>.ret (.tup [])) (S:=fun _=>wst fl nn va br ms (a5O me x)) (S':=fun _=>[wbx fl nn va br q1 q2 t,smO ms,emO (a5O me x),u0 br.length]) (P:=fun _=>True) [w,q1,q2,t] hCC rfl hσ.nd (fun i k ob h1 h2=>by
  obtain ⟨ob',_,h3,h4⟩:=d6l hσ i k ob h1 h2;exact ⟨ob',h3,h4.symm fun _ _ h=>h⟩) (.cons (.ptr rfl) (N0 fun a ha=>by simp at ha;subst ha;exact En.pure x)) (L2 hCC ((c3Q fl nn va br ms me x hct).mono fun r τ h=>⟨_,_,h,(),rfl,rfl,tt⟩)) a1u (fun _ i k y h1 h2=>by
  rcases i with _ | _ | _ | _ | i
  ·injection h2 with h2;subst h2;exact ⟨_,rfl,b5G rfl rfl rfl⟩
  ·injection h2 with h2;subst h2;exact ⟨_,rfl,a8K b0x a7E _⟩
  ·injection h2 with h2;subst h2;exact ⟨_,rfl,a8K Nm.pure En.pure _⟩
  ·injection h2 with h2;subst h2;exact ⟨_,rfl,a12 _⟩
  ·cases h2) fun _=>.ret (.pure (B9 trivial))
theorem d3f (fl:List Fi) (nn:Bool) (hl:∀ f∈fl,f.p.length<=1000000000):b8 CC 56 [.agg (A8 fl nn)] [] fun r τ=>F1 0 τ r (.ret (.ptr 0 0)) (wst fl nn (B7 fl == 0) (H4 fl).1 (H4 fl).2.1 (H4 fl).2.2):=by
 refine cO Tryz.func56 ?_;refine a3J ?_;refine A5 ?_;refine cF [5] [] [0,1,2,3,4,5,6,7,8] 4 [[0,1,2,3],[0,1,2,3],[],[],[]] ⟨⟨_,_,_,rfl,.inr ⟨_,rfl,rfl⟩,rfl,rfl⟩,tt⟩ ?_;refine chf rfl a9N ?_;refine chf rfl a9N ?_;refine chf rfl (c7 rfl c89) ?_;refine chf rfl (c7 rfl S7) ?_;refine F9 ?_;refine A6 rfl rfl rfl rfl (Z5 rfl ?_);refine ⟨⟨X8,X8,(by exact c7 rfl c89),(by exact c7 rfl S7),tt⟩,?_⟩;refine e0k rfl rfl rfl rfl ?_;refine ⟨⟨X8,X8,(by exact c7 rfl c89),(by exact c7 rfl S7),tt⟩,?_⟩;refine D9 rfl rfl rfl (c7 rfl (A9 #[(0,1),(1,1),(2,1),(3,1),(4,1)] rfl a1v b85 Tryz.zeroValue112 rfl ⟨_,rfl⟩ (fun w=>by kernel_rfl) rfl rfl)) ⟨tt,?_⟩;refine A6 rfl rfl rfl rfl (a5v rfl tt c4 p8 ?_);refine ⟨tt,?_⟩;refine c0w ?_;refine b4x ?_;refine c7k ?_;refine S4 ?_;refine cC ?_ ?_ <;> intro h1
 ·have hv:¬ B7 fl=0:=sp_ h1;refine a9S ?_;exact ⟨_,j2 rfl tt c4,(by rw [H4,if_neg hv];exact ⟨[3,1,2,9],rfl,rfl,.ret (.ptr rfl),.inr ⟨_,rfl,.box ⟨.old a4T,.old (.val _),.map rfl,.old a4p,.map rfl,tt⟩⟩,.inr ⟨_,rfl,.same rfl (a0g _ _)⟩,.inr ⟨_,rfl,.same rfl (a0u _ _)⟩,.inl rfl,tt⟩)⟩
 ·have hv:B7 fl=0:=sp_ h1;obtain ⟨hfl,hfa⟩:=a7r hv;have hsp:H4 fl=b0f fl ([],[],[]):=by rw [H4,if_pos hv]
  refine a0E ?_;refine a3f ?_;refine B2 hCC 4 rfl (α:=Nat × WS) (fun x=>[(3,.ptr 3 0),(26,(.list (fl.map Fi.cv) nn none)),(27,iv fl.length),(28,iv x.1)]) (fun x=>[.box (A8 fl nn),smO x.2.2.1,emO x.2.2.2,wbx fl nn (B7 fl == 0) x.2.1 1 2 4,u0 x.2.1.length]) (fun x=>x.1<=fl.length/\x.2.1.length<=x.1/\CtB (64*x.1) x.2.2.2/\H4 fl=b0f (fl.drop x.1) x.2) (fun x=>fl.length - x.1) ⟨(0,[],[],[]),[0,1,2,3,9],⟨n_3 _,n_3 _,CtB.nil _,hsp⟩,⟨rfl,rfl⟩,ut_,⟨.inr ⟨_,rfl,.same rfl a2L⟩,.inr ⟨_,rfl,.same rfl (a0g _ _)⟩,.inr ⟨_,rfl,.same rfl (a0u _ _)⟩,.inr ⟨_,rfl,.box ⟨.old a4T,.old (.val _),.map rfl,.old a4p,.map rfl,tt⟩⟩,.inl rfl,tt⟩⟩ ?_;intro ⟨i,br,ms,me⟩ ⟨hi,hbr,hct,hr⟩;dsimp only at hi hbr hct hr ⊢;refine C9 ?_;refine cC ?_ ?_ <;> intro h2
  ·have hlt:(i:Int) < fl.length:=sp_ h2;obtain ⟨y,hb⟩:=gx_ fl i;have hy:=hfa y (n_0 hb);have hyl:=hl y (n_0 hb);rw [c4h hb,a1r] at hr;refine b7R ?_;refine T5 ?_;refine a6n ?_;refine yc rfl Tryz.call101 ⟨tt,tt⟩ (b21 y.p hyl _) ?_;refine S4 ?_;refine cC ?_ ?_ <;> intro h3
   ·have u3:¬ a4v y.p=true:=sp_ h3;rw [if_neg u3] at hr;refine a9B ?_;exact ⟨(i+1,br,ms,me),[0,1,2,3,4],⟨do_,do_,do_,hct.mono om_,hr⟩,⟨rfl,rfl⟩,ut_,⟨.inr ⟨_,rfl,.same rfl a2L⟩,.inr ⟨_,rfl,.same rfl (a0g _ _)⟩,.inr ⟨_,rfl,.same rfl (a0u _ _)⟩,.inr ⟨_,rfl,.box ⟨.old a4T,.old (.val _),.map rfl,D2.grow (f:=scv) (fun _=>⟨.val _,tt⟩) rfl,.map rfl,tt⟩⟩,.inr ⟨_,rfl,.same rfl C3⟩,tt⟩⟩
   ·have u3:a4v y.p=true:=sp_ h3;rw [if_pos u3] at hr;refine a1d ?_;refine a6n ?_;refine de rfl Tryz.call102 ⟨tt,tt⟩ (d0S y.b om_ _) rfl ?_;rintro ⟨x,at_,e⟩ hP;dsimp only at hP ⊢;refine b4r ?_;refine c7O ?_;refine b2R ?_;refine cC ?_ ?_ <;> intro h4
    ·have he:e≠0:=sp_ h4;have hps:P4 y.b=none:=by
      rcases hP with ⟨_,_,g⟩ | ⟨g,_⟩
      ·exact absurd g he
      ·exact g
     rw [hps] at hr;simp only at hr;have hls:=U4 br y.p;refine A5 ?_;refine cF [] [] [0,1,2,3,4,5,6,7,8,9,10,11] 8 [[0],[],[],[]] trivial ?_;refine a60 ?_;refine chf rfl b63 ?_;refine chf rfl (c7 rfl (j4 rfl tt rfl b85 rfl a2U de_)) ?_;refine chf rfl c51 ?_;refine b3C ?_;refine chf rfl d9K ?_;refine F9 ?_;refine A6 rfl rfl rfl rfl (C5 rfl tt tt rfl si_ q_2 t_1 t_0 a3y t_3 rfl (.inr rfl) q_8 a36 E7 ((br++[y.p]).map scv) (br++[y.p]).length si_ si_ ?_);refine d0Y ?_;refine D9 rfl rfl rfl (c7 rfl (j4 rfl tt rfl b85 rfl a2U de_)) ⟨tt,?_⟩;refine A6 rfl rfl rfl rfl (j6 rfl tt tt rfl c4 a2U (.inl rfl) rfl rfl (nb rfl) ?_);refine a2C ?_;refine a9B ?_;exact ⟨(i+1,br++[y.p],ms,me),[0,1,2,3,7],⟨do_,do_,do_,hct.mono om_,hr⟩,⟨rfl,rfl⟩,ut_,⟨.inr ⟨_,rfl,.same rfl a2L⟩,.inr ⟨_,rfl,.same rfl (a0g _ _)⟩,.inr ⟨_,rfl,.same rfl (a0u _ _)⟩,.inr ⟨_,rfl,.box ⟨.old a4T,.old (.val _),.map rfl,D2.grow (f:=scv) (fun _=>⟨.val _,tt⟩) rfl,.map rfl,tt⟩⟩,.inr ⟨_,rfl,.same rfl C3⟩,tt⟩⟩
    ·have he:e=0:=sp_ h4;have hps:P4 y.b=some x:=by
      rcases hP with ⟨g,_⟩ | ⟨_,_,g⟩
      ·exact g
      ·exact absurd he g
     rw [hps] at hr;simp only at hr;have hdl:=c0S hps;refine z_8 ?_;refine cW 7 ?_;refine a5d ?_;refine hY b7I ?_;refine hY b9g ?_;refine hY b8q ?_;refine hY V7 ?_;refine hY a75 ?_;refine P8 ?_;refine cD (l8 (vc:=vcS) (l:=ms) (a:=y.p) (b:=x) b7z (.inl rfl) tt tt trivial rfl rfl rfl c3o rfl ?_);refine S5 ?_;refine a6I ?_;refine B2 hCC 7 rfl (α:=Nat × EM) (fun z=>[(3,.ptr 3 0),(26,(.list (fl.map Fi.cv) nn none)),(27,iv fl.length),(28,iv i),(5,.ptr 5 0),(6,.ptr 6 0),(64,(.list (x.decls.map De.cv) (gnn x.decls.length) none)),(65,iv x.decls.length),(66,iv z.1)]) (fun z=>[.box (A8 fl nn),smO (X6 ms y.p x),emO z.2,wbx fl nn (B7 fl == 0) br 1 2 4,u0 br.length,.box y.cells,.box x.cells]) (fun z=>z.1<=x.decls.length/\CtB (64*i+z.1) z.2/\addDs me y.p x.pkg x.decls 0=addDs z.2 y.p x.pkg (x.decls.drop z.1) z.1) (fun z=>x.decls.length - z.1) ⟨(0,me),[0,1,2,3,4,5,6],⟨n_3 _,hct,rfl⟩,⟨rfl,rfl⟩,ut_,⟨.inr ⟨_,rfl,.same rfl a2L⟩,.inr ⟨_,rfl,.same rfl (a0g _ _)⟩,.inr ⟨_,rfl,.same rfl (a0u _ _)⟩,.inr ⟨_,rfl,.box ⟨.old a4T,.old (.val _),.map rfl,D2.grow (f:=scv) (fun _=>⟨.val _,tt⟩) rfl,.map rfl,tt⟩⟩,.inr ⟨_,rfl,.same rfl C3⟩,.inr ⟨_,rfl,.same rfl b2I⟩,.inr ⟨_,rfl,.same rfl (o9 ⟨.val _,B3 _ _ _,R6 _ _ _,tt⟩)⟩,tt⟩⟩ ?_;intro ⟨k,me2⟩ ⟨hk,hct2,hr2⟩;dsimp only at hk hct2 hr2 ⊢;refine C9 ?_;refine cC ?_ ?_ <;> intro h5
     ·have hkt:(k:Int) < x.decls.length:=sp_ h5;obtain ⟨d,hd⟩:=gx_ x.decls k;rw [a7i hd] at hr2;refine X9 ?_;refine b2T ?_;refine c64 ?_;refine b1y ?_;refine a7X ?_;refine a6M ?_;refine a4k ?_;refine a6n ?_;refine cY j1 ?_;refine cY (A9 #[(0,1),(1,1),(2,1),(3,1),(4,1),(5,1)] rfl ⟨tt,tt,tt,tt,tt,rfl,tt⟩ c9k b3l rfl ⟨_,rfl⟩ (fun w=>by kernel_rfl) rfl rfl) ?_;refine de rfl Tryz.call103 i7 (c6U (w:=3) (q1:=1) (q2:=2) (t:=4) ⟨rfl,rfl,rfl,rfl,b5k de_⟩ ⟨x.pkg,d.name,d.k,y.p,(k:Int),1⟩ (fun a b h=>by have:=hct2 a b h;omega)) rfl ?_;rintro _ _;refine c5 [.box (A8 fl nn),smO (X6 ms y.p x),emO (a5O me2 ⟨x.pkg,d.name,d.k,y.p,(k:Int),1⟩),wbx fl nn (B7 fl == 0) br 1 2 4,u0 br.length,.box y.cells,.box x.cells,.box d.cells] rfl ?_;refine a5e ?_;exact ⟨(k+1,a5O me2 ⟨x.pkg,d.name,d.k,y.p,(k:Int),1⟩),[0,1,2,3,4,5,6],⟨do_,do_,(hct2.add rfl).mono om_,hr2⟩,⟨rfl,rfl⟩,ut_,⟨.inr ⟨_,rfl,.same rfl a2L⟩,.inr ⟨_,rfl,.same rfl (a0g _ _)⟩,.inr ⟨_,rfl,.same rfl (a0u _ _)⟩,.inr ⟨_,rfl,.box ⟨.old a4T,.old (.val _),.map rfl,D2.grow (f:=scv) (fun _=>⟨.val _,tt⟩) rfl,.map rfl,tt⟩⟩,.inr ⟨_,rfl,.same rfl C3⟩,.inr ⟨_,rfl,.same rfl b2I⟩,.inr ⟨_,rfl,.same rfl (o9 ⟨.val _,B3 _ _ _,R6 _ _ _,tt⟩)⟩,tt⟩⟩
     ·have hkt:x.decls.length<=k:=sm_ h5;rw [S8 hkt,addDs] at hr2;refine a9B ?_;exact ⟨(i+1,br,X6 ms y.p x,me2),[0,1,2,3,4],⟨do_,do_,do_,hct2.mono om_,by rw [hr,hr2]⟩,⟨rfl,rfl⟩,ut_,⟨.inr ⟨_,rfl,.same rfl a2L⟩,.inr ⟨_,rfl,.same rfl (a0g _ _)⟩,.inr ⟨_,rfl,.same rfl (a0u _ _)⟩,.inr ⟨_,rfl,.box ⟨.old a4T,.old (.val _),.map rfl,D2.grow (f:=scv) (fun _=>⟨.val _,tt⟩) rfl,.map rfl,tt⟩⟩,.inr ⟨_,rfl,.same rfl C3⟩,tt⟩⟩
  ·have hge:fl.length<=i:=sm_ h2;rw [S8 hge,b0f,List.foldl_nil] at hr;refine a2y ?_;exact ⟨_,j2 rfl tt c4,(by rw [hr];exact ⟨[3,1,2,4],rfl,rfl,.ret (.ptr rfl),.inr ⟨_,rfl,.box ⟨.old a4T,.old (.val _),.map rfl,D2.grow (f:=scv) (fun _=>⟨.val _,tt⟩) rfl,.map rfl,tt⟩⟩,.inr ⟨_,rfl,.same rfl (a0g _ _)⟩,.inr ⟨_,rfl,.same rfl (a0u _ _)⟩,.inr ⟨_,rfl,.same rfl C3⟩,tt⟩)⟩
abbrev d9X (fl:List Fi) (nn va:Bool) (br:List Str) (ms:SM) (me:EM) (n:Nat):List b9:=[wbx fl nn va br (n+1) (n+2) (n+3),smO ms,emO me,u0 br.length]
theorem d8m (fl:List Fi) (nn:Bool) (hl:∀ f∈fl,f.p.length<=1000000000) (σ:List b9):b8 CC 56 [.agg (A8 fl nn)] σ fun r τ=>∃ _:Unit,r = .ret (.ptr σ.length 0)/\τ=σ++d9X fl nn (B7 fl == 0) (H4 fl).1 (H4 fl).2.1 (H4 fl).2.2 σ.length/\True :=
 a4g (α:=Unit) hCC (fun a ha=>by simp at ha;subst ha;exact o3 ⟨G8 _ _,tt⟩) (res:=fun _=>.ret (.ptr 0 0)) (res':=fun _ n=>.ret (.ptr n 0)) (S:=fun _=>wst fl nn (B7 fl == 0) (H4 fl).1 (H4 fl).2.1 (H4 fl).2.2) (S':=fun _ n=>d9X fl nn (B7 fl == 0) (H4 fl).1 (H4 fl).2.1 (H4 fl).2.2 n) (P:=fun _=>True) (L2 hCC ((d3f fl nn hl).mono fun r τ h=>⟨_,_,h,(),rfl,rfl,tt⟩)) (fun _ _=>rfl) (fun _ n i x h=>by
  rcases i with _ | _ | _ | _ | i
  ·injection h with h;subst h;exact ⟨_,rfl,b5G rfl rfl rfl⟩
  ·injection h with h;subst h;exact ⟨_,rfl,a8K b0x a7E _⟩
  ·injection h with h;subst h;exact ⟨_,rfl,a8K Nm.pure En.pure _⟩
  ·injection h with h;subst h;exact ⟨_,rfl,a12 _⟩
  ·cases h) (fun _ n=>.ret (.ptr rfl)) σ
theorem d0C:∀ a:Str,Op.bytesLess a a=false
 | []=>rfl
 | x::a=>by simp [Op.bytesLess,d0C a]
theorem b9a:∀ {a b c:Str},Op.bytesLess a b=true->Op.bytesLess b c=true->Op.bytesLess a c=true
 | [],[],_,h,_=>by cases h
 | [],_::_,[],_,h=>by cases h
 | [],_::_,_::_,_,_=>rfl
 | _::_,[],_,h,_=>by cases h
 | _::_,_::_,[],_,h=>by cases h
 | x::a,y::b,z::c,h1,h2=>by
  simp only [Op.bytesLess,a6j,a2t,a0i,beq_iff_eq] at h1 h2 ⊢
  rcases h1 with h1 | ⟨h1,h1'⟩ <;> rcases h2 with h2 | ⟨h2,h2'⟩
  ·exact .inl (UInt8.lt_trans h1 h2)
  ·exact .inl (h2 ▸ h1)
  ·exact .inl (h1 ▸ h2)
  ·exact .inr ⟨h1.trans h2,b9a h1' h2'⟩
theorem d0o:∀ {a b:Str},Op.bytesLess a b=false->a≠b->Op.bytesLess b a=true
 | [],[],_,h=>absurd rfl h
 | [],_::_,h,_=>by cases h
 | _::_,[],_,_=>rfl
 | x::a,y::b,h1,h2=>by
  simp only [Op.bytesLess,b8d,decide_eq_false_iff_not,Bool.and_eq_false_iff,beq_eq_false_iff_ne,a6j,a2t,a0i,beq_iff_eq] at h1 ⊢;by_cases hxy:x=y
  ·subst hxy;refine .inr ⟨rfl,d0o (h1.2.resolve_left fun h=>h rfl) fun h=>h2 (by rw [h])⟩
  ·have:=h1.1;exact .inl (by
    rcases Nat.lt_or_gt_of_ne (fun h=>hxy (b36.1 h):x.toNat≠y.toNat) with h | h
    ·exact absurd (UInt8.lt_iff_toNat_lt.2 h) this
    ·exact UInt8.lt_iff_toNat_lt.2 h)
def c9j (l:List Fi):Prop:=l.Pairwise fun f g=>Op.bytesLess f.p g.p=true
def I6:List Str:=([[97,46,115,114,99],[98,46,115,114,99],[100,47,99,46,115,114,99],[120,46,115,114,99]]:List Str)
theorem a7Q  (σ:List b9):b8 CC 66 [] σ fun r σ'=>r = .ret (.list (I6.map scv) true none)/\σ'=σ:=by
 refine an_ Tryz.func66 ?_;refine a4o ?_;refine cY (A2 (I6.map scv) rfl ⟨rfl,rfl,rfl,rfl,tt⟩ t_1 t_0 t_3 rfl rfl rfl rfl rfl rfl rfl rfl rfl) ?_;refine z_7 ?_;exact ⟨_,j2 rfl tt c4,_,_,rfl,rfl,W1 rfl pu_⟩
theorem b1T (l:List Str) (nn:Bool) (s:Str) (hl:l.length<=1000000000) (σ:List b9):b8 CC 120 [(.list (l.map scv) nn none),(sv s)] σ fun r σ'=>r = .ret (.val (.bool (decide (s∈l))))/\σ'=σ:=by
 refine an_ Tryz.func120 ?_;refine b41 ?_;refine a7q ?_;refine j5 hCC (fun i:Nat=>[(0,(.list (l.map scv) nn none)),(1,(sv s)),(5,iv i)]) (fun _=>[]) (fun i=>i<=l.length/\decide (s∈l)=decide (s∈l.drop i)) (fun i=>l.length - i) 0 ⟨n_3 _,rfl⟩ tu_ (extra0:=[]) rfl r5 uz_ ?_;intro i ⟨hi,hr⟩;refine a1Q ?_;refine cY a0K ?_;refine a7N ?_;refine cC ?_ ?_ <;> intro h1
 ·have hlt:i < l.length:=sm_ h1;obtain ⟨y,hb⟩:∃ y,l[i]? = some y:=⟨l[i]'hlt,si_⟩;have hdr:l.drop i=y::l.drop (i+1):=by
   obtain ⟨hlt,rfl⟩:=n_1.1 hb;exact Q4 hlt
  rw [hdr] at hr;refine a4O ?_;refine z_5 ?_;refine b1K ?_;refine b8Y ?_;refine cC ?_ ?_ <;> intro h2
  ·have hys:y=s:=sp_ h2;refine I0 ?_;exact ⟨_,j2 rfl tt c4,_,_,rfl,rfl,j7 (by rw [hr,hys];simp)⟩
  ·have hys:¬ y=s:=sp_ h2;refine a8q ?_;exact ⟨(i+1),_,⟨om_,om_,by
    rw [hr];have:(s=y)=False:=by simpa using fun h=>hys h.symm
    simp [this]⟩,tu_,rfl⟩
 ·have hge:l.length<=i:=sm_ h1;rw [S8 hge] at hr;refine a1w ?_;exact ⟨_,j2 rfl tt c4,_,_,rfl,rfl,j7 c7K⟩
def a40 (n:Nat):Str:=if h:n < 10 then [UInt8.ofNat (48+n)] else a40 (n / 10)++[UInt8.ofNat (48+n%10)]
termination_by n
decreasing_by omega
theorem a7V {n:Nat} (h:n < 10):a40 n=[UInt8.ofNat (48+n)]:=by rw [a40,dif_pos h]
theorem d2a {n:Nat} (h:¬ n < 10):a40 n=a40 (n / 10)++a40 (n%10):=by rw [a40,dif_neg h,a7V (a6o _ om_)]
theorem a2f:∀ (m n:Nat),n < 10^(m+1)->(a40 n).length<=m+1
 | 0,n,h=>by rw [a7V (sp_ h)];simp
 | m+1,n,h=>by
  by_cases hn:n < 10
  ·rw [a7V hn];simp
  ·rw [a40,dif_neg hn,n_5];have:=a2f m (n / 10) (by rw [Nat.div_lt_iff_lt_mul om_];rw [Nat.pow_succ] at h;exact h);simp only [n_7,I4];omega
theorem e0q:∀ n:Nat,n < 10->(([48,49,50,51,52,53,54,55,56,57]:Str).take (n+1)).drop n=[UInt8.ofNat (48+n)]:=by decide
theorem a76 {n:Nat} (h:b8 CC 72 [iv n] [] fun r σ'=>r = .ret (sv (a40 n))/\σ'=[]) (σ:List b9):b8 CC 72 [iv n] σ fun r σ'=>r = .ret (sv (a40 n))/\σ'=σ :=
 b8.anyw hCC pu_ pu_ h σ
theorem a2K (n:Nat) (hn:n<=4611686018427387904) (σ:List b9):b8 CC 72 [iv n] σ fun r σ'=>r = .ret (sv (a40 n))/\σ'=σ:=by
 refine b8.anyw hCC pu_ pu_ ?_ σ
 induction n using Nat.strongRecOn
 rename_i n ih;refine D5 (cO Tryz.func72 ?_);refine z_6 ?_;refine a2Q ?_;refine cC ?_ ?_ <;> intro h1
 ·have hn9:n < 10:=sm_ h1;refine a4x ?_;refine cY q_3 ?_;refine z_7 ?_;exact ⟨_,j2 rfl tt c4,_,_,rfl,rfl,D4 (by rw [a7V hn9];exact congrArg str (e0q n hn9))⟩
 ·have hn9:¬ n < 10:=sm_ h1;have hd:Int.tdiv (n:Int) 10=((n / 10:Nat):Int):=by rfl
  have hm:Int.tmod (n:Int) 10=((n%10:Nat):Int):=by rfl
  have g1:=a2f 18 (n / 10) om_;have g2:=a2f 18 (n%10) om_;have e1:IntKind.i64.wrap ((n:Int).tdiv 10)=((n / 10:Nat):Int):=by rw [hd];exact b0g om_ om_
  have e2:(n:Int).tmod 10=((n%10:Nat):Int):=by exact hm
  refine a1m ?_;refine cY (a08 rfl tt rfl rfl rfl (rfl)) ?_;refine ye rfl c49 ⟨tt,tt⟩ (by have h:=a76 (ih (n / 10) om_ om_) [];rw [<- e1] at h;exact h) rfl ?_;refine cY j1 ?_;refine cY (a08 rfl tt rfl rfl rfl (rfl)) ?_;refine ye rfl c49 ⟨tt,tt⟩ (by have h:=a76 (ih (n%10) om_ om_) [];rw [<- e2] at h;exact h) rfl ?_;refine cY a2j ?_;refine z_7 ?_;exact ⟨_,j2 rfl tt c4,_,_,rfl,rfl,D4 (congrArg str (d2a hn9).symm)⟩
def leF (f x:Fi):Bool:=Op.bytesLess f.p x.p || decide (f.p=x.p)
def a87 (f:Fi):Bool->List Fi->List Fi
 | d,[]=>if d then [] else [f]
 | d,x::l=>(if !d && leF f x then [f] else [])++((if x.p=f.p then [] else [x])++a87 f (d || leF f x) l)
def a6t (l:List Fi) (f:Fi):List Fi:=a87 f false l
def a44 (l:List Fi) (s:Str):List Fi:=l.filter fun x=>!decide (x.p=s)
theorem c4I {f:Fi} {l:List Fi} {y:Fi} (h:l[i]? = some y) (d:Bool):a87 f d (l.drop i)=(if !d && leF f y then [f] else [])++((if y.p=f.p then [] else [y])++a87 f (d || leF f y) (l.drop (i+1))):=by
 obtain ⟨hlt,rfl⟩:=n_1.1 h;rw [Q4 hlt];rfl
theorem c5b {s:Str} {l:List Fi} {y:Fi} (h:l[i]? = some y):a44 (l.drop i) s=(if y.p=s then [] else [y])++a44 (l.drop (i+1)) s:=by
 obtain ⟨hlt,rfl⟩:=n_1.1 h;rw [Q4 hlt,a44,b0s];by_cases h:(l[i]).p=s
 ·simp [h,a44]
 ·simp [h,a44]
theorem b5S {sel:List Nat} {l:List Fi} {tok:Option Nat}:D2 L sel (.agg [.list (l.map Fi.cv) nn tok]) (.agg (A8 l nn)) :=
 .agg rfl fun i c c' h h'=>by
  rcases i with _ | i
  ·injection h with h;injection h' with h';subst h h';exact Y4 (f:=Fi.cv) Fi.pure _
  ·cases h
theorem c0h (fl:List Fi) (nn:Bool) (f:Fi) (hfl:fl.length<=1000000):b8 CC 67 [.agg (A8 fl nn),.agg f.cells] [] fun r τ=>F1 0 τ r (.ret (.agg (A8 (a6t fl f) (gnn (a6t fl f).length)))) []:=by
 refine cO Tryz.func67 ?_;refine a8l ?_;refine c8x ?_;refine c8 ?_;refine a9y ?_;refine a3f ?_;refine B2 hCC 4 rfl (α:=List Fi × Bool × Nat) (fun x=>[(3,.ptr 1 0),(4,.ptr 2 0),(5,.ptr 3 0),(6,(.val (.bool x.2.1))),(10,(.list (fl.map Fi.cv) nn none)),(11,iv fl.length),(12,iv x.2.2)]) (fun x=>[.box (A8 fl nn),.box f.cells,.box (A8 [] false),.box [(.list (x.1.map Fi.cv) (gnn x.1.length) (G9 x.1.length 4))],u0 x.1.length]) (fun x=>x.2.2<=fl.length/\x.1.length<=x.2.2+1/\(x.2.1=false->x.1.length<=x.2.2)/\a6t fl f=x.1++a87 f x.2.1 (fl.drop x.2.2)) (fun x=>fl.length - x.2.2) ⟨([],false,0),[0,1,2,3,9],⟨n_3 _,n_3 _,fun _=>n_3 _,rfl⟩,⟨rfl,rfl⟩,ut_,⟨.inr ⟨_,rfl,.same rfl a2L⟩,.inr ⟨_,rfl,.same rfl b2I⟩,.inr ⟨_,rfl,.same rfl a9D⟩,.inr ⟨_,rfl,.box ⟨.same rfl (H0 _ ([]:List Fi) _),tt⟩⟩,.inl rfl,tt⟩⟩ ?_;intro ⟨out,d,i⟩ ⟨hi,hol,hod,hr⟩;dsimp only at hi hol hod hr ⊢;refine C9 ?_;refine cC ?_ ?_ <;> intro h1
 ·have hlt:i < fl.length:=sm_ h1;obtain ⟨y,hb⟩:∃ y,fl[i]? = some y:=⟨fl[i]'hlt,si_⟩;rw [c4I hb] at hr;refine b7R ?_;refine a9l ?_;refine cY a6L ?_;refine cY j1 ?_;refine cG c7V ?_;refine cG a2E ?_;refine cG c7V ?_;refine cG a2E ?_;refine cG (fun hg=>a2T rfl hg hg rfl rfl (b7n _ _)) ?_;refine a4M ?_;refine cC ?_ ?_ <;> intro h2
  ·have h2':d=false/\leF f y=true:=by
    have h2:(!d && leF f y)=true:=h2;simpa using h2
   obtain ⟨hd,hle⟩:=h2';subst hd;rw [hle] at hr;have hol2:=hod rfl;refine z_0 ?_;refine b7Q ?_;refine cY d8R ?_;refine cD (C5 rfl tt tt rfl si_ q_2 a8M a41 c5C a6r rfl (.inr rfl) q_8 c5m E7 ((out++[f]).map Fi.cv) (out++[f]).length si_ si_ ?_);refine b8Q ?_;refine c8 ?_;refine b42 ?_;refine z_0 ?_;refine a6n ?_;refine a6n ?_;refine cY a9V ?_;refine c8 ?_;refine cC ?_ ?_ <;> intro h3
   ·have hyp:¬ y.p=f.p:=sp_ h3;rw [if_neg hyp] at hr;refine r3 ?_;refine b7Q ?_;refine cY d2i ?_;refine cD (C5 rfl tt tt rfl si_ q_2 a8M a41 c5C a6r rfl (.inr rfl) q_8 c5m E7 ((out++[f]++[y]).map Fi.cv) (out++[f]++[y]).length si_ si_ ?_);refine b8Q ?_;refine a5e ?_;exact ⟨(out++[f]++[y],true,i+1),[0,1,2,3,7],⟨do_,do_,by simp only [n_5,n_7,I4];omega,(fun h=>by cases h),by rw [hr];simp⟩,⟨rfl,rfl⟩,ut_,⟨.inr ⟨_,rfl,.same rfl a2L⟩,.inr ⟨_,rfl,.same rfl b2I⟩,.inr ⟨_,rfl,.same rfl a9D⟩,.inr ⟨_,rfl,.box ⟨D2.grow (f:=Fi.cv) (fun a=>⟨.val _,.val _,tt⟩) rfl,tt⟩⟩,.inr ⟨_,rfl,.same rfl C3⟩,tt⟩⟩
   ·have hyp:y.p=f.p:=sp_ h3;rw [if_pos hyp] at hr;refine a2l ?_;exact ⟨(out++[f],true,i+1),[0,1,2,3,6],⟨do_,do_,by simp only [n_5,n_7,I4];omega,(fun h=>by cases h),by rw [hr];simp⟩,⟨rfl,rfl⟩,ut_,⟨.inr ⟨_,rfl,.same rfl a2L⟩,.inr ⟨_,rfl,.same rfl b2I⟩,.inr ⟨_,rfl,.same rfl a9D⟩,.inr ⟨_,rfl,.box ⟨D2.grow (f:=Fi.cv) (fun a=>⟨.val _,.val _,tt⟩) rfl,tt⟩⟩,.inr ⟨_,rfl,.same rfl C3⟩,tt⟩⟩
  ·have hd:(!d && leF f y)=false:=by
    have h2:(!d && leF f y)=false:=h2;simpa using h2
   have hd2:(d || leF f y)=d:=by cases d <;> simp_all
   rw [hd,hd2] at hr;refine a1d ?_;refine a6n ?_;refine a6n ?_;refine cY a9V ?_;refine c8 ?_;refine cC ?_ ?_ <;> intro h4
   ·have hyp:¬ y.p=f.p:=sp_ h4;rw [if_neg hyp] at hr;refine r3 ?_;refine b7Q ?_;refine cY d2i ?_;refine cD (C5 rfl tt tt rfl si_ q_2 a8M a41 c5C a6r rfl (.inr rfl) q_8 c5m E7 ((out++[y]).map Fi.cv) (out++[y]).length si_ si_ ?_);refine b8Q ?_;refine a5e ?_;exact ⟨(out++[y],d,i+1),[0,1,2,3,6],⟨do_,do_,by simp only [n_5,n_7,I4];omega,(fun h=>by have:=hod h;simp only [n_5,n_7,I4];omega),by rw [hr];simp⟩,⟨rfl,rfl⟩,ut_,⟨.inr ⟨_,rfl,.same rfl a2L⟩,.inr ⟨_,rfl,.same rfl b2I⟩,.inr ⟨_,rfl,.same rfl a9D⟩,.inr ⟨_,rfl,.box ⟨D2.grow (f:=Fi.cv) (fun a=>⟨.val _,.val _,tt⟩) rfl,tt⟩⟩,.inr ⟨_,rfl,.same rfl C3⟩,tt⟩⟩
   ·have hyp:y.p=f.p:=sp_ h4;rw [if_pos hyp] at hr;refine a2l ?_;exact ⟨(out,d,i+1),[0,1,2,3,4],⟨do_,do_,do_,(fun h=>by have:=hod h;dsimp only;omega),by rw [hr];simp⟩,⟨rfl,rfl⟩,ut_,⟨.inr ⟨_,rfl,.same rfl a2L⟩,.inr ⟨_,rfl,.same rfl b2I⟩,.inr ⟨_,rfl,.same rfl a9D⟩,.inr ⟨_,rfl,.box ⟨D2.grow (f:=Fi.cv) (fun a=>⟨.val _,.val _,tt⟩) rfl,tt⟩⟩,.inr ⟨_,rfl,.same rfl C3⟩,tt⟩⟩
 ·have hge:fl.length<=i:=sm_ h1;rw [S8 hge] at hr;refine A4 ?_;refine a1z ?_;refine S4 ?_;refine cC ?_ ?_ <;> intro h5
  ·have hd:d=false:=sp_ h5;subst hd;replace hr:a6t fl f=out++[f]:=hr;refine r3 ?_;refine b7Q ?_;refine cY d8R ?_;refine cD (C5 rfl tt tt rfl si_ q_2 a8M a41 c5C a6r rfl (.inr rfl) q_8 c5m E7 ((out++[f]).map Fi.cv) (out++[f]).length si_ si_ ?_);refine b8Q ?_;refine S5 ?_;refine cY X3 ?_;refine b8o ?_;exact ⟨_,B6 rfl a48,(by rw [hr];exact d3a b5S)⟩
  ·have hd:d=true:=sp_ h5;subst hd;replace hr:a6t fl f=out:=by rw [hr];exact a2q _
   refine a1d ?_;refine cY X3 ?_;refine b8o ?_;exact ⟨_,B6 rfl a48,(by rw [hr];exact d3a b5S)⟩
theorem a0Q (fl:List Fi) (nn:Bool) (f:Fi) (hfl:fl.length<=1000000) (σ:List b9):b8 CC 67 [.agg (A8 fl nn),.agg f.cells] σ fun r τ=>r = .ret (.agg (A8 (a6t fl f) (gnn (a6t fl f).length)))/\τ=σ :=
 d0G hCC (fun a h=>by simp at h;rcases h with rfl | rfl;exact o3 (cs:=A8 _ _) ⟨G8 _ _,tt⟩;exact o3 (Fi.pure _)) (o3 (cs:=A8 _ _) ⟨G8 _ _,tt⟩) (c0h fl nn f hfl) σ
theorem c0F (fl:List Fi) (nn:Bool) (s:Str) (hfl:fl.length<=1000000):b8 CC 71 [.agg (A8 fl nn),(sv s)] [] fun r τ=>F1 0 τ r (.ret (.agg (A8 (a44 fl s) (gnn (a44 fl s).length)))) []:=by
 refine cO Tryz.func71 ?_;refine a65 ?_;refine c8x ?_;refine T5 ?_;refine a3f ?_;refine B2 hCC 3 rfl (α:=List Fi × Nat) (fun x=>[(1,(sv s)),(4,.ptr 1 0),(5,.ptr 2 0),(9,(.list (fl.map Fi.cv) nn none)),(10,iv fl.length),(11,iv x.2)]) (fun x=>[.box (A8 fl nn),.box (A8 [] false),.box [(.list (x.1.map Fi.cv) (gnn x.1.length) (G9 x.1.length 3))],u0 x.1.length]) (fun x=>x.2<=fl.length/\x.1.length<=x.2/\a44 fl s=x.1++a44 (fl.drop x.2) s) (fun x=>fl.length - x.2) ⟨([],0),[0,1,2,9],⟨n_3 _,n_3 _,rfl⟩,⟨rfl,rfl⟩,ut_,⟨.inr ⟨_,rfl,.same rfl a2L⟩,.inr ⟨_,rfl,.same rfl a9D⟩,.inr ⟨_,rfl,.box ⟨.same rfl (H0 _ ([]:List Fi) _),tt⟩⟩,.inl rfl,tt⟩⟩ ?_;intro ⟨out,i⟩ ⟨hi,hol,hr⟩;dsimp only at hi hol hr ⊢;refine C9 ?_;refine cC ?_ ?_ <;> intro h1
 ·have hlt:i < fl.length:=sm_ h1;obtain ⟨y,hb⟩:∃ y,fl[i]? = some y:=⟨fl[i]'hlt,si_⟩;rw [c5b hb] at hr;refine d6a ?_;refine cY j1 ?_;refine cY a9V ?_;refine c8 ?_;refine cC ?_ ?_ <;> intro h2
  ·have hyp:¬ y.p=s:=sp_ h2;rw [if_neg hyp] at hr;refine r3 ?_;refine b7Q ?_;refine cY d2i ?_;refine cD (C5 rfl tt tt rfl si_ q_2 a8M a41 c5C a6r rfl (.inr rfl) q_8 c5m E7 ((out++[y]).map Fi.cv) (out++[y]).length si_ si_ ?_);refine b8Q ?_;refine a5e ?_;exact ⟨(out++[y],i+1),[0,1,2,5],⟨do_,do_,by simp only [n_5,n_7,I4];omega,by rw [hr];simp⟩,⟨rfl,rfl⟩,ut_,⟨.inr ⟨_,rfl,.same rfl a2L⟩,.inr ⟨_,rfl,.same rfl a9D⟩,.inr ⟨_,rfl,.box ⟨D2.grow (f:=Fi.cv) (fun a=>⟨.val _,.val _,tt⟩) rfl,tt⟩⟩,.inr ⟨_,rfl,.same rfl C3⟩,tt⟩⟩
  ·have hyp:y.p=s:=sp_ h2;rw [if_pos hyp] at hr;refine a2l ?_;exact ⟨(out,i+1),[0,1,2,3],⟨do_,do_,do_,by rw [hr];simp⟩,⟨rfl,rfl⟩,ut_,⟨.inr ⟨_,rfl,.same rfl a2L⟩,.inr ⟨_,rfl,.same rfl a9D⟩,.inr ⟨_,rfl,.box ⟨D2.grow (f:=Fi.cv) (fun a=>⟨.val _,.val _,tt⟩) rfl,tt⟩⟩,.inr ⟨_,rfl,.same rfl C3⟩,tt⟩⟩
 ·have hge:fl.length<=i:=sm_ h1;rw [S8 hge] at hr;replace hr:a44 fl s=out:=by rw [hr];exact a2q _
  refine U9 ?_;refine cY X3 ?_;refine b8o ?_;exact ⟨_,B6 rfl a48,(by rw [hr];exact d3a b5S)⟩
theorem b3y (fl:List Fi) (nn:Bool) (s:Str) (hfl:fl.length<=1000000) (σ:List b9):b8 CC 71 [.agg (A8 fl nn),(sv s)] σ fun r τ=>r = .ret (.agg (A8 (a44 fl s) (gnn (a44 fl s).length)))/\τ=σ :=
 d0G hCC (fun a h=>by simp at h;rcases h with rfl | rfl;exact o3 (cs:=A8 _ _) ⟨G8 _ _,tt⟩;exact .val _) (o3 (cs:=A8 _ _) ⟨G8 _ _,tt⟩) (c0F fl nn s hfl) σ
theorem a3v {l:List Int} {k:Nat} {n:Int} (hn:1<=n):0<=C7 l k n/\C7 l k n < n:=a6d hn
theorem H3 (n:Nat) (l:List Int) (nn:Bool) (k:Nat):I8 n (p9 l nn k):=o9 ⟨Q0 _ _ _,.val _,tt⟩
theorem b91 (l:List Int) (nn:Bool) (k:Nat) (hat:k<=900000000) (hl:l.length<=maxLen) (n:Nat) (hn:n<=1000) (al:Str) (ha:1<=al.length) (hal:al.length<=1000):b8 CC 121 [.ptr 0 0,iv n,(sv al)] [p9 l nn k] fun r τ=>∃ a:Str × Nat,F1 1 τ r (.ret (sv a.1)) [p9 l nn a.2]/\(a.1.length=n/\k<=a.2/\a.2<=k+n):=by
 refine cO Tryz.func121 ?_;refine z_6 ?_;refine b41 ?_;refine a7q ?_;refine B2 hCC 1 rfl (α:=Str × Nat) (fun x=>[(0,.ptr 0 0),(1,iv n),(2,(sv al)),(7,(.list (x.1.map bcv) (gnn x.1.length) (G9 x.1.length 1))),(8,iv x.1.length)]) (fun x=>[p9 l nn x.2,u0 x.1.length]) (fun x=>x.1.length<=n/\x.2=k+x.1.length) (fun x=>n - x.1.length) ⟨([],k),[0,9],⟨n_3 _,rfl⟩,⟨rfl,rfl⟩,⟨b8c,b8c,b8c,b8c,b8c,tt⟩,uq_⟩ ?_;intro ⟨out,p⟩ ⟨hol,hp⟩;dsimp only at hol hp ⊢;refine a1Q ?_;refine a7N ?_;refine cC ?_ ?_ <;> intro h1
 ·have hlt:out.length < n:=sm_ h1;have hb:=a3v (l:=l) (k:=p) (n:=(al.length:Int)) om_;obtain ⟨c,hc⟩:∃ c,al[(C7 l p (al.length:Int)).toNat]? = some c:=⟨al[(C7 l p (al.length:Int)).toNat]'om_,si_⟩;refine a4O ?_;refine X0 ?_;refine a4Q ?_;refine cY X5 ?_;refine de rfl a5K i7 (H6 l nn p _ 0 rfl om_ hl (al.length:Int) om_) rfl ?_;intro _ _;refine cY (L6 rfl tt tt rfl rfl t_5 om_ hc) ?_;refine cY d9W ?_;refine cD (C5 rfl tt tt rfl si_ q_2 t_7 t_9 b1V a4N rfl (.inr rfl) q_8 (by have hb:Tryz.t5.bytes=1:=rfl;rw [hb];first|omega|(simp;done)|(simp;omega)) E7 ((out++[c]).map bcv) (out++[c]).length si_ si_ ?_);refine a9T ?_;refine b78 ?_;exact ⟨(out++[c],p+1),[0,2],⟨by simp only [n_5,n_7,I4];omega,by simp only [n_5,n_7,I4];omega,by simp only [n_5,n_7,I4];omega⟩,⟨rfl,rfl⟩,⟨a1g,a1g,a1g,a1g,⟨tt,(by first|exact ur_|exact .same (congrArg (fun x=>iv x) (by simp:(out.length:Int)+1=((out++[c]).length:Int))) uo_)⟩,tt⟩,uq_⟩
 ·have hge:out.length=n:=sm_ h1;refine b9d ?_;refine z_7 ?_;exact ⟨_,j2 rfl tt c4,⟨(out,p),a1x rfl P9 (.old (.val _)),hge,do_,do_⟩⟩
theorem c3W (l:List Int) (nn:Bool) (k:Nat) (hat:k<=900000000) (hl:l.length<=maxLen) (n:Nat) (hn:n<=1000) (al:Str) (ha:1<=al.length) (hal:al.length<=1000) (σ:List b9) (q:Nat) (hq:σ[q]? = some (p9 l nn k)):b8 CC 121 [.ptr q 0,iv n,(sv al)] σ fun r τ=>∃ a:Str × Nat,r = .ret (sv a.1)/\τ=σ.set q (p9 l nn a.2)/\(a.1.length=n/\k<=a.2/\a.2<=k+n) :=
 a8r (c:=fun a:Str × Nat=>sv a.1) (S:=fun a=>p9 l nn a.2) hCC (fun a h=>by simp at h;rcases h with rfl | rfl <;> exact .val _) (fun _=>.val _) (fun _=>B8 _ _ _) (B8 _ _ _) rfl (b91 l nn k hat hl n hn al ha hal) σ q hq
theorem c9H (l:List Int) (nn:Bool) (k:Nat) (hat:k<=800000000) (hl:l.length<=maxLen):b8 CC 70 [.ptr 0 0] [p9 l nn k] fun r τ=>∃ a:Str × Nat,F1 1 τ r (.ret (sv a.1)) [p9 l nn a.2]/\(a.1.length<=3/\k<=a.2/\a.2<=k+4):=by
 refine cO Tryz.func70 ?_;refine a11 ?_;refine de rfl a5K o7 (H6 l nn k _ 0 rfl om_ hl 4 om_) rfl ?_;intro _ _;have hb:=a3v (l:=l) (k:=k) (n:=4) om_;obtain ⟨m,hm⟩:∃ m:Nat,C7 l k 4=(m:Int):=⟨(C7 l k 4).toNat,om_⟩;rw [hm] at hb ⊢;refine de rfl Tryz.call121 a7P (c3W l nn (k+1) om_ hl m om_ [97,98,0,255,48] de_ de_ _ 0 rfl) rfl ?_;intro ⟨s,p⟩ ⟨hs,hp1,hp2⟩;dsimp only at hs hp1 hp2 ⊢;refine z_7 ?_;exact ⟨_,j2 rfl tt c4,⟨(s,p),a1x rfl P9 (.old (.val _)),do_,do_,do_⟩⟩
theorem c1r (l:List Int) (nn:Bool) (k:Nat) (hat:k<=800000000) (hl:l.length<=maxLen) (σ:List b9) (q:Nat) (hq:σ[q]? = some (p9 l nn k)):b8 CC 70 [.ptr q 0] σ fun r τ=>∃ a:Str × Nat,r = .ret (sv a.1)/\τ=σ.set q (p9 l nn a.2)/\(a.1.length<=3/\k<=a.2/\a.2<=k+4) :=
 a8r (c:=fun a:Str × Nat=>sv a.1) (S:=fun a=>p9 l nn a.2) hCC (fun a h=>by simp at h) (fun _=>.val _) (fun _=>B8 _ _ _) (B8 _ _ _) rfl (c9H l nn k hat hl) σ q hq
def a8u (l:List Int) (nn:Bool) (ps:List Str) (d L K B:Nat):Prop:=∀ (k:Nat),k<=B->∀ (σ:List b9) (q:Nat),σ[q]? = some (p9 l nn k)->b8 CC 122 [.ptr q 0,iv d,.list (ps.map scv) (gnn ps.length) none] σ fun r τ=>∃ a:Str × Nat,r = .ret (sv a.1)/\τ=σ.set q (p9 l nn a.2)/\(a.1.length<=L/\k<=a.2/\a.2<=k+K)
abbrev eob (l:List Int) (nn:Bool) (ps:List Str) (d p:Nat):List b9:=[p9 l nn (p),.box [.ptr 0 0],.box [iv d],.box [(.list (ps.map scv) (gnn ps.length) none)]]
theorem b1o {l:List Int} {ps:List Str} {K:Nat} (hd:d<=10) (ih:a8u l nn ps d L K B) (p:Nat) (hp:p<=B):b8 CC 163 [.ptr 1 0,.ptr 2 0,.ptr 3 0] (eob l nn ps (d+1) p) fun r τ=>∃ a:Str × Nat,r = .ret (sv a.1)/\τ=eob l nn ps (d+1) a.2/\(a.1.length<=L/\p<=a.2/\a.2<=p+K):=by
 refine cO Tryz.func163 ?_;refine a4o ?_;refine cY a4h ?_;refine cY a0H ?_;refine cY a24 ?_;refine cY a2D ?_;refine de rfl b71 C0 (by have h:=ih p hp (eob l nn ps (d+1) p) 0 rfl;rw [show (d:Int)=((d+1:Nat):Int) - 1 by omega] at h;exact h) rfl ?_;intro ⟨s,p1⟩ ⟨h1,h2,h3⟩;dsimp only at h1 h2 h3 ⊢;refine z_7 ?_;exact ⟨_,j2 rfl tt c4,⟨(s,p1),rfl,rfl,h1,h2,h3⟩⟩
theorem c6V (l:List Int) (nn:Bool) (k:Nat) (hl:l.length<=maxLen) (d:Nat) (hd:d<=10) (ps:List Str) (hps:∀ s∈ps,s.length<=10) (hpl:ps.length<=2) (L K B:Nat) (hL:L<=1000000) (hK:K<=1000) (hat:k+3*K+10<=B) (hB:B<=900000000) (hclo:1<=d->∀ p,p<=B->b8 CC 163 [.ptr 1 0,.ptr 2 0,.ptr 3 0] (eob l nn ps d p) fun r τ=>∃ a:Str × Nat,r = .ret (sv a.1)/\τ=eob l nn ps d a.2/\(a.1.length<=L/\p<=a.2/\a.2<=p+K)):b8 CC 122 [.ptr 0 0,iv d,.list (ps.map scv) (gnn ps.length) none] [p9 l nn k] fun r τ=>∃ a:Str × Nat,F1 1 τ r (.ret (sv a.1)) [p9 l nn a.2]/\(a.1.length<=3*L+30/\k<=a.2/\a.2<=k+(3*K+5)):=by
 refine cO Tryz.func122 ?_;refine z_0 ?_;refine cD (a5v rfl tt c4 (.inl rfl) ?_);refine cD (a5v rfl tt c4 (.inl rfl) ?_);refine cD (a5v rfl tt c4 (.inl rfl) ?_);refine z_3 ?_;refine A5 ?_;refine M7 (α:=Bool × Nat) (fun x=>[(3,.ptr 1 0),(4,.ptr 2 0),(5,.ptr 3 0),(15,(.val (.bool x.1)))]) (fun x=>[p9 l nn (x.2),.box [.ptr 0 0],.box [iv d],.box [(.list (ps.map scv) (gnn ps.length) none)]]) (fun x=>k<=x.2/\x.2<=k+1/\(x.1=false->1<=d)) ?_ ?_
 ·
  refine r3 ?_;refine cY a0H ?_;refine a6s ?_;refine cG (fun hg=>o5 rfl tt rfl c6L rfl rfl) ?_;refine b1E (.val (.bool false)) rfl rfl tt rfl rfl (fun hg=>C1 rfl a8h ⟨hg,rfl,rfl,tt⟩ (G5 l nn k _ 0 rfl om_ hl 1 4 om_) rfl ?_) (fun hg=>?_)
  ·
   intro _ _;refine a8t ?_;exact ⟨(_,k+1),(by exact ⟨do_,do_,fun _=>sm_ hg⟩),⟨⟨tt,rfl⟩,⟨tt,rfl⟩,⟨tt,rfl⟩,⟨tt,rfl⟩,tt⟩,rfl⟩
  ·
   refine a8t ?_;exact ⟨(_,k),(by exact ⟨do_,do_,fun hb=>by exfalso;revert hb hg;cases decide ((d:Int)<=0) <;> simp⟩),⟨⟨tt,rfl⟩,⟨tt,rfl⟩,⟨tt,rfl⟩,⟨tt,rfl⟩,tt⟩,rfl⟩
 ·intro ⟨b,p⟩ E0 ⟨hp1,hp2,hbd⟩;dsimp only at hp1 hp2 hbd ⊢;refine cC ?_ ?_ <;> intro h1
  ·refine M7 (α:=Nat) (fun _=>[(3,.ptr 1 0)]) (fun x=>[p9 l nn (x),.box [.ptr 0 0],.box [iv d],.box [(.list (ps.map scv) (gnn ps.length) none)]]) (fun x=>k<=x/\x<=k+3) ?_ ?_
   ·
    refine z_0 ?_;refine cY a4h ?_;refine de rfl a5K o7 (H6 l nn p _ 0 rfl om_ hl 9 om_) rfl ?_;intro _ _;refine a4B ?_;refine M7 (α:=Bool) (fun b=>[(3,.ptr 1 0),(4,.ptr 2 0),(5,.ptr 3 0),(17,(iv (C7 l p 9))),(18,(.val (.bool b)))]) (fun _=>[p9 l nn (p+1),.box [.ptr 0 0],.box [iv d],.box [(.list (ps.map scv) (gnn ps.length) none)]]) (fun _=>True) ?_ ?_
    ·
     refine D6 ?_;refine cC ?_ ?_ <;> intro h2
     ·refine c9 ?_;exact ⟨_,tt,⟨⟨tt,rfl⟩,⟨tt,rfl⟩,⟨tt,rfl⟩,⟨tt,rfl⟩,⟨tt,rfl⟩,tt⟩,rfl⟩
     ·refine a1o ?_;exact ⟨_,tt,⟨⟨tt,rfl⟩,⟨tt,rfl⟩,⟨tt,rfl⟩,⟨tt,rfl⟩,⟨tt,rfl⟩,tt⟩,rfl⟩
    ·intro b2 E2 _;refine cC ?_ ?_ <;> intro h3
     ·refine z_0 ?_;refine cY a2D ?_;refine a8j ?_;refine cC ?_ ?_ <;> intro h4
      ·obtain ⟨x,ps',rfl⟩:∃ x ps',ps=x::ps':=by
        rcases ps with _ | ⟨x,ps'⟩
        ·simp at h4
        ·exact ⟨x,ps',rfl⟩
       refine z_0 ?_;refine cY a4h ?_;refine cY a2D ?_;refine de rfl a2n i7 (F3 l nn (p+1) _ 0 rfl om_ hl (x::ps') si_ om_) rfl ?_;intro v hv;have hv8:=hps v hv;refine z_7 ?_;exact ⟨_,j2 rfl tt c4,⟨(_,p+2),a1x rfl P9 (.old (.val _)),(by show List.length _<=_;simp only;omega),do_,do_⟩⟩
      ·refine c9 ?_;exact ⟨(p+1),⟨om_,om_⟩,tu_,rfl⟩
     ·refine D6 ?_;refine cC ?_ ?_ <;> intro h5
      ·refine A5 ?_;refine cW 2 ?_;refine hY a4h ?_;refine hY (j8 rfl b9q trivial (a14 _) rfl) ?_;refine d5K ?_;intro v hv;have hv8:v.length<=8:=H7 (.inr (.inr (.inr (.inl hv))));refine a8y ?_;exact c7x
      ·refine D6 ?_;refine cC ?_ ?_ <;> intro h6
       ·refine A5 ?_;refine cW 2 ?_;refine hY a4h ?_;refine hY (j8 rfl b9q trivial (a14 _) rfl) ?_;refine d5K ?_;intro v hv;have hv8:v.length<=8:=H7 (.inr (.inr (.inr (.inl hv))));refine a8y ?_;exact c7x
       ·refine D6 ?_;refine cC ?_ ?_ <;> intro h7
        ·refine A5 ?_;refine cW 2 ?_;refine hY a4h ?_;refine hY (j8 rfl Tryz.call84 trivial (a5I _) rfl) ?_;refine P8 ?_;refine de rfl a2n i7 (F3 l nn (p+1) _ 0 rfl om_ hl X4 de_ de_) rfl ?_;intro v hv;have hv8:v.length<=8:=H7 (.inr (.inr (.inr (.inr hv))));refine a8y ?_;exact c7x
        ·refine D6 ?_;refine cC ?_ ?_ <;> intro h8
         ·refine z_0 ?_;refine cY a4h ?_;refine de rfl a8h a2J (G5 l nn (p+1) _ 0 rfl om_ hl 1 5 om_) rfl ?_;intro _ _;refine c8 ?_;refine cC ?_ ?_ <;> intro h9
          ·refine z_0 ?_;refine cY a4h ?_;refine cY (A2 ([0,1,63].map icv) rfl ⟨rfl,rfl,rfl,tt⟩ t_4 t_2 t_6 rfl rfl rfl rfl rfl rfl rfl rfl rfl) ?_;refine de rfl d0K i7 (a3G l nn (p+2) _ 0 rfl om_ hl [0,1,63] si_ si_) rfl ?_;intro v hv;obtain ⟨m,hm,hm2⟩:∃ m:Nat,v=(m:Int)/\m < 10^17:=by
            simp only [R5,b2M,or_false] at hv;exact ⟨v.toNat,om_,om_⟩
           subst hm;have hdl:=a2f 16 m hm2;refine ye rfl c49 ⟨tt,tt⟩ (a2K m om_ _) rfl ?_;refine a8y ?_;refine z_7 ?_;exact ⟨_,j2 rfl tt c4,⟨(_,p+3),a1x rfl P9 (.old (.val _)),b49,do_,do_⟩⟩
          ·refine c9 ?_;exact ⟨(p+2),⟨om_,om_⟩,tu_,rfl⟩
         ·refine c9 ?_;exact ⟨(p+1),⟨om_,om_⟩,tu_,rfl⟩
   ·intro p3 E3 ⟨hp3,hp4⟩;refine z_0 ?_;refine cY a4h ?_;refine cY (A2 ([0,1,2,3,10,255,9007199254740992,1073741824].map icv) rfl ⟨rfl,rfl,rfl,rfl,rfl,rfl,rfl,rfl,tt⟩ t_4 t_2 t_6 rfl rfl rfl rfl rfl rfl rfl rfl rfl) ?_;refine de rfl d0K i7 (a3G l nn (p3) _ 0 rfl om_ hl [0,1,2,3,10,255,9007199254740992,1073741824] si_ si_) rfl ?_;intro v hv;obtain ⟨m,hm,hm2⟩:∃ m:Nat,v=(m:Int)/\m < 10^17:=by
     simp only [R5,b2M,or_false] at hv;exact ⟨v.toNat,om_,om_⟩
    subst hm;have hdl:=a2f 16 m hm2;refine ye rfl c49 ⟨tt,tt⟩ (a2K m om_ _) rfl ?_;refine z_7 ?_;exact ⟨_,j2 rfl tt c4,⟨(_,p3+1),a1x rfl P9 (.old (.val _)),(by show List.length _<=_;simp only;omega),do_,do_⟩⟩
  ·have hd1:1<=d:=hbd (sp_ h1);refine a1d ?_;refine cY (b1O rfl C0) ?_;refine z_1 ?_;refine a0Y ?_;refine cY a4h ?_;refine de rfl a5K o7 (H6 l nn p _ 0 rfl om_ hl 10 om_) rfl ?_;intro _ _;refine a4B ?_;refine M7 (α:=Bool) (fun b=>[(3,.ptr 1 0),(7,(.clo 163 [.ptr 1 0,.ptr 2 0,.ptr 3 0])),(64,(iv (C7 l p 10))),(65,(.val (.bool b)))]) (fun _=>[p9 l nn (p+1),.box [.ptr 0 0],.box [iv d],.box [(.list (ps.map scv) (gnn ps.length) none)]]) (fun _=>True) ?_ ?_
   ·
    refine D6 ?_;refine cC ?_ ?_ <;> intro h10
    ·exact c1L
    ·refine D6 ?_;refine cC ?_ ?_ <;> intro h11
     ·exact c1L
     ·refine a1o ?_;exact ⟨_,tt,⟨⟨tt,rfl⟩,⟨tt,rfl⟩,⟨tt,rfl⟩,⟨tt,rfl⟩,tt⟩,rfl⟩
   ·intro b4 E4 _;refine cC ?_ ?_ <;> intro h12
    ·refine A5 ?_;refine cF [] [3] [0,1,4,2,3,5,6,7] 3 [[2],[2],[],[],[]] trivial ?_;refine chf rfl d0N ?_;refine chf rfl (c7 rfl (j8 rfl Tryz.call29 trivial (a5j _) rfl)) ?_;refine a9L ?_;refine A6 rfl rfl rfl rfl (C1 rfl a2n i7 (F3 l nn (p+1) _ 0 rfl om_ hl W8 de_ de_) rfl ?_);intro v hv;have hv8:v.length<=8:=H7 (.inr (.inl hv));refine ⟨⟨E8,tt⟩,?_⟩;refine d5R ?_;intro ⟨s1,p1⟩ ⟨hs1,hq1,hr1⟩;dsimp only at hs1 hq1 hr1 ⊢;refine c6K ?_;refine c0w ?_;refine a0Y ?_;refine cY a4h ?_;refine cY (A2 ([0,0,0,1].map icv) rfl ⟨rfl,rfl,rfl,rfl,tt⟩ t_4 t_2 t_6 rfl rfl rfl rfl rfl rfl rfl rfl rfl) ?_;refine de rfl d0K i7 (a3G l nn (p1) _ 0 rfl om_ hl [0,0,0,1] si_ si_) rfl ?_;intro n hn;have hn01:n=0\/n=1:=by
      simp only [R5,b2M,or_false] at hn;omega
     refine b13 ?_;refine K3 (α:=Str × Nat × Int) (fun x=>[(7,(.clo 163 [.ptr 1 0,.ptr 2 0,.ptr 3 0])),(8,(sv x.1)),(9,iv x.2.2)]) (fun x=>[p9 l nn (x.2.1),.box [.ptr 0 0],.box [iv d],.box [(.list (ps.map scv) (gnn ps.length) none)]]) (fun x=>(x.2.2=0\/x.2.2=1)/\(x.2.2=1->x.1.length<=L+9/\x.2.1<=k+4+K)/\x.1.length<=2*L+11/\k<=x.2.1/\x.2.1<=k+4+2*K) (fun x=>x.2.2.toNat) (_,p1+1,n) ⟨hn01,fun _=>⟨by show List.length _<=_;simp only [n_5,n_7,I4];omega,do_⟩,by show List.length _<=_;simp only [n_5,n_7,I4];omega,do_,do_⟩ ⟨⟨tt,rfl⟩,⟨tt,rfl⟩,⟨tt,rfl⟩,tt⟩ rfl ?_;intro ⟨s,p5,n5⟩ E5 ⟨hn5,hn6,hs5,hq5,hq6⟩;dsimp only at hn5 hn6 hs5 hq5 hq6 ⊢;refine a2Q ?_;refine cC ?_ ?_ <;> intro h13
     ·have h13':n5=1:=sm_ h13;obtain ⟨hs6,hq7⟩:=hn6 h13';refine a4O ?_;refine X0 ?_;refine cD (Z1 rfl tt rfl c0R trivial (by exact hclo om_ (p5) om_) rfl ?_);intro ⟨s2,p2⟩ ⟨hs2,hq2,hr2⟩;dsimp only at hs2 hq2 hr2 ⊢;refine cY a5n ?_;refine cY a2j ?_;refine a9m ?_;exact ⟨(_,p2,n5 - 1),do_,(by exact ⟨do_,fun h=>by dsimp only at h;omega,by show List.length _<=_;simp only [n_5,n_7,I4];omega,do_,do_⟩),⟨⟨tt,rfl⟩,⟨tt,rfl⟩,⟨tt,rfl⟩,tt⟩,rfl⟩
     ·refine b0t ?_;refine cY V8 ?_;refine z_7 ?_;exact ⟨_,j2 rfl tt c4,⟨(_,p5),a1x rfl P9 (.old (.val _)),b49,do_,do_⟩⟩
    ·refine D6 ?_;refine cC ?_ ?_ <;> intro h14
     ·refine d3y ?_;intro ⟨s1,p1⟩ ⟨hs1,hq1,hr1⟩;dsimp only at hs1 hq1 hr1 ⊢;refine a8y ?_;refine cY j1 ?_;refine cD (Z1 rfl tt rfl c0R trivial (by exact hclo om_ (p1) om_) rfl ?_);intro ⟨s2,p2⟩ ⟨hs2,hq2,hr2⟩;dsimp only at hs2 hq2 hr2 ⊢;refine b2L ?_;refine cY j1 ?_;refine cD (Z1 rfl tt rfl c0R trivial (by exact hclo om_ (p2) om_) rfl ?_);intro ⟨s3,p3⟩ ⟨hs3,hq3,hr3⟩;dsimp only at hs3 hq3 hr3 ⊢;refine b2L ?_;refine z_7 ?_;exact ⟨_,j2 rfl tt c4,⟨(_,p3),a1x rfl P9 (.old (.val _)),b49,do_,do_⟩⟩
     ·refine D6 ?_;refine cC ?_ ?_ <;> intro h15
      ·refine A5 ?_;refine cF [] [3,4] [0,1,5,2,3,4,6,7,8,9] 3 [[2],[2],[2],[],[],[],[]] trivial ?_;refine chf rfl d0N ?_;refine chf rfl (c7 rfl (j8 rfl b9q trivial (a14 _) rfl)) ?_;refine a9L ?_;refine A6 rfl rfl rfl rfl (C1 rfl a2n i7 (F3 l nn (p+1) _ 0 rfl om_ hl a0P de_ de_) rfl ?_);intro v hv;have hv8:v.length<=8:=H7 (.inr (.inr (.inr (.inl hv))));refine ⟨⟨E8,tt⟩,?_⟩;refine b1M rfl rfl (fun _=>c7 rfl a5n) ?_;refine d5R ?_;intro ⟨s1,p1⟩ ⟨hs1,hq1,hr1⟩;dsimp only at hs1 hq1 hr1 ⊢;refine c6K ?_;refine D9 rfl rfl rfl c3z ⟨tt,?_⟩;refine b1R ?_;exact ⟨_,j2 rfl tt c4,⟨(_,p1),a1x rfl P9 (.old (.val _)),b49,do_,do_⟩⟩
      ·refine D6 ?_;refine cC ?_ ?_ <;> intro h16
       ·refine d3y ?_;intro ⟨s1,p1⟩ ⟨hs1,hq1,hr1⟩;dsimp only at hs1 hq1 hr1 ⊢;refine a8y ?_;exact c9u
       ·refine z_8 ?_;refine cF [] [2,3,7,8] [0,4,5,9,1,2,3,6,7,8,10,11,12,13] 4 [[1,2,3],[1,2,3],[1,2,3],[3],[3],[3],[],[],[],[]] trivial ?_;refine chf rfl W9 ?_;refine chf rfl d0N ?_;refine chf rfl (c7 rfl d8z) ?_;refine a9L ?_;refine A6 rfl rfl rfl rfl (Z1 rfl tt rfl c0R trivial (by exact hclo om_ (p+1) om_) rfl ?_);intro ⟨s1,p1⟩ ⟨hs1,hq1,hr1⟩;dsimp only at hs1 hq1 hr1 ⊢;refine ⟨⟨(by exact c7 rfl a4h),(by exact c7 rfl d8z),E8,tt⟩,?_⟩;refine b1M rfl rfl (fun _=>c7 rfl a5n) ?_;refine b1M rfl rfl (fun _=>c7 rfl V8) ?_;refine A6 rfl rfl rfl rfl (C1 rfl a2n i7 (F3 l nn p1 _ 0 rfl om_ hl ([[43],[45],[42],[47],[37],[60],[61,61]]:List Str) si_ si_) rfl ?_);intro v hv;have hv8:v.length<=2:=by revert v;decide
        refine ⟨⟨E8,tt⟩,?_⟩;refine b1M rfl rfl (fun _=>c7 rfl a2j) ?_;refine b1M rfl rfl (fun _=>c7 rfl V8) ?_;refine A6 rfl rfl rfl rfl (Z1 rfl tt rfl c0R trivial (by exact hclo om_ (p1+1) om_) rfl ?_);intro ⟨s2,p2⟩ ⟨hs2,hq2,hr2⟩;dsimp only at hs2 hq2 hr2 ⊢;refine c6K ?_;refine D9 rfl rfl rfl c3z ⟨tt,?_⟩;refine b1R ?_;exact ⟨_,j2 rfl tt c4,⟨(_,p2),a1x rfl P9 (.old (.val _)),b49,do_,do_⟩⟩
theorem a7F {l:List Int} {k:Nat} (hl:l.length<=maxLen) (d:Nat) (hd:d<=10) (ps:List Str) (hps:∀ s∈ps,s.length<=10) (hpl:ps.length<=2) (L K B:Nat) (hL:L<=1000000) (hK:K<=1000) (hat:k+3*K+10<=B) (hB:B<=900000000) (hclo:1<=d->∀ p,p<=B->b8 CC 163 [.ptr 1 0,.ptr 2 0,.ptr 3 0] (eob l nn ps d p) fun r τ=>∃ a:Str × Nat,r = .ret (sv a.1)/\τ=eob l nn ps d a.2/\(a.1.length<=L/\p<=a.2/\a.2<=p+K)) {q:Nat} (hq:σ[q]? = some (p9 l nn k)) :
 b8 CC 122 [.ptr q 0,iv d,.list (ps.map scv) (gnn ps.length) none] σ fun r τ=>∃ a:Str × Nat,r = .ret (sv a.1)/\τ=σ.set q (p9 l nn a.2)/\(a.1.length<=3*L+30/\k<=a.2/\a.2<=k+(3*K+5)) :=
 a8r (c:=fun a:Str × Nat=>sv a.1) (S:=fun a=>p9 l nn a.2) hCC (fun a h=>by simp at h;rcases h with rfl | rfl;exact .val _;exact C2 _ _) (fun _=>.val _) (fun _=>B8 _ _ _) (B8 _ _ _) rfl (c6V l nn k hl d hd ps hps hpl L K B hL hK hat hB hclo) σ q hq
theorem a7u (l:List Int) (nn:Bool) (hl:l.length<=maxLen) (ps:List Str) (hps:∀ s∈ps,s.length<=10) (hpl:ps.length<=2):a8u l nn ps 0 30 5 800000000/\a8u l nn ps 1 120 20 799999000/\a8u l nn ps 2 390 65 799998000/\a8u l nn ps 3 1200 200 799997000:=by
 have e0:a8u l nn ps 0 30 5 800000000:=fun k hk σ q hq=>a7F hl 0 om_ ps hps hpl 0 0 900000000 om_ om_ om_ om_ (fun h=>by omega) hq;have e1:a8u l nn ps 1 120 20 799999000:=fun k hk σ q hq=>a7F hl 1 om_ ps hps hpl 30 5 800000000 om_ om_ om_ om_ (fun _ p hp=>b1o om_ e0 p hp) hq;have e2:a8u l nn ps 2 390 65 799998000:=fun k hk σ q hq=>a7F hl 2 om_ ps hps hpl 120 20 799999000 om_ om_ om_ om_ (fun _ p hp=>b1o om_ e1 p hp) hq;have e3:a8u l nn ps 3 1200 200 799997000:=fun k hk σ q hq=>a7F hl 3 om_ ps hps hpl 390 65 799998000 om_ om_ om_ om_ (fun _ p hp=>b1o om_ e2 p hp) hq;exact ⟨e0,e1,e2,e3⟩
theorem c6n (l:List Int) (nn:Bool) (k:Nat) (hat:k<=700000000) (hl:l.length<=maxLen):b8 CC 73 [.ptr 0 0] [p9 l nn k] fun r τ=>∃ a:Str × Nat,F1 1 τ r (.ret (sv a.1)) [p9 l nn a.2]/\(a.1.length<=1240/\k<=a.2/\a.2<=k+210):=by
 refine cO Tryz.func73 ?_;refine z_6 ?_;refine M7 (α:=Nat) (fun _=>[(0,.ptr 0 0)]) (fun x=>[p9 l nn (x)]) (fun x=>x=k+1) ?_ ?_
 ·
  refine z_2 ?_;refine de rfl a5K o7 (H6 l nn k _ 0 rfl om_ hl 8 om_) rfl ?_;intro _ _;refine a4B ?_;refine M7 (α:=Bool) (fun b=>[(0,.ptr 0 0),(2,(sv ([]))),(6,(iv (C7 l k 8))),(7,(.val (.bool b)))]) (fun _=>[p9 l nn (k+1)]) (fun _=>True) ?_ ?_
  ·
   refine D6 ?_;refine cC ?_ ?_ <;> intro h1
   ·exact c1L
   ·refine D6 ?_;refine cC ?_ ?_ <;> intro h2
    ·exact c1L
    ·refine a1o ?_;exact ⟨_,tt,⟨⟨tt,rfl⟩,⟨tt,rfl⟩,⟨tt,rfl⟩,⟨tt,rfl⟩,tt⟩,rfl⟩
  ·intro b E0 _;refine cC ?_ ?_ <;> intro h3
   ·refine z_2 ?_;refine yc rfl Tryz.call82 trivial (b2d _) ?_;refine de rfl a2n i7 (F3 l nn (k+1) _ 0 rfl om_ hl a3u de_ de_) rfl ?_;intro v hv;have hv8:v.length<=8:=H7 (.inr (.inr (.inl hv)));refine a8y ?_;refine cY j1 ?_;refine de rfl b71 a2J (by exact (a7u l nn hl ([]:List Str) de_ de_).2.2.2 (k+2) om_ _ 0 rfl) rfl ?_;intro ⟨s1,p1⟩ ⟨hs1,hq1,hr1⟩;dsimp only at hs1 hq1 hr1 ⊢;refine b2L ?_;exact c9u
   ·refine D6 ?_;refine cC ?_ ?_ <;> intro h4
    ·refine z_2 ?_;refine yc rfl b9q trivial (a14 _) ?_;refine de rfl a2n i7 (F3 l nn (k+1) _ 0 rfl om_ hl a0P de_ de_) rfl ?_;intro v hv;have hv8:v.length<=8:=H7 (.inr (.inr (.inr (.inl hv))));refine a8y ?_;refine cY j1 ?_;refine de rfl b71 a2J (by exact (a7u l nn hl ([]:List Str) de_ de_).2.2.1 (k+2) om_ _ 0 rfl) rfl ?_;intro ⟨s1,p1⟩ ⟨hs1,hq1,hr1⟩;dsimp only at hs1 hq1 hr1 ⊢;refine b2L ?_;exact c9u
    ·refine c9 ?_;exact ⟨_,rfl,⟨⟨tt,rfl⟩,tt⟩,rfl⟩
 ·intro p E0 hp;subst hp;refine z_0 ?_;refine cD (d1h rfl rfl rfl rfl t_1 t_0 t_3 rfl ?_);refine a4y ?_;refine de rfl a8h a2J (G5 l nn (k+1) _ 0 rfl om_ hl 1 5 om_) rfl ?_;intro _ _;refine c8 ?_;refine cC ?_ ?_ <;> intro h5
  ·refine z_4 ?_;refine cY (A2 [scv [98]] rfl ⟨rfl,tt⟩ t_1 t_0 t_3 rfl rfl rfl rfl rfl rfl rfl rfl rfl) ?_;refine cD (C5 rfl tt tt rfl (show 1=List.length _ from rfl) q_2 t_1 t_0 a3y t_3 rfl (.inr rfl) q_8 a36 E7 (([[97],[98]]:List Str).map scv) 2 rfl rfl ?_);refine O0 ?_;refine c71 ?_;intro v hv;have hv8:v.length<=8:=H7 (.inr (.inl hv));refine a8y ?_;refine a4y ?_;refine a8j ?_;refine cC ?_ ?_ <;> intro h6
   ·refine z_4 ?_;refine cY V8 ?_;refine O0 ?_;refine cY V8 ?_;refine a4Q ?_;refine de rfl b71 ⟨tt,rfl,tt,tt⟩ (by exact (a7u l nn hl ([[97],[98]]:List Str) de_ de_).2.2.2 (k+3) om_ _ 0 rfl) rfl ?_;intro ⟨s1,p1⟩ ⟨hs1,hq1,hr1⟩;dsimp only at hs1 hq1 hr1 ⊢;refine b2L ?_;exact c9u
   ·exfalso;simp at h6
  ·refine a1m ?_;refine c71 ?_;intro v hv;have hv8:v.length<=8:=H7 (.inr (.inl hv));refine a8y ?_;refine a4y ?_;refine a8j ?_;refine cC ?_ ?_ <;> intro h7
   ·exfalso;simp at h7
   ·refine a1m ?_;refine cY V8 ?_;refine a4Q ?_;refine de rfl b71 ⟨tt,rfl,tt,tt⟩ (by exact (a7u l nn hl ([[97]]:List Str) de_ de_).2.2.2 (k+3) om_ _ 0 rfl) rfl ?_;intro ⟨s1,p1⟩ ⟨hs1,hq1,hr1⟩;dsimp only at hs1 hq1 hr1 ⊢;refine b2L ?_;exact c9u
theorem c3p (l:List Int) (nn:Bool) (k:Nat) (hat:k<=700000000) (hl:l.length<=maxLen) (σ:List b9) (q:Nat) (hq:σ[q]? = some (p9 l nn k)):b8 CC 73 [.ptr q 0] σ fun r τ=>∃ a:Str × Nat,r = .ret (sv a.1)/\τ=σ.set q (p9 l nn a.2)/\(a.1.length<=1240/\k<=a.2/\a.2<=k+210) :=
 a8r (c:=fun a:Str × Nat=>sv a.1) (S:=fun a=>p9 l nn a.2) hCC (fun a h=>by simp at h) (fun _=>.val _) (fun _=>B8 _ _ _) (B8 _ _ _) rfl (c6n l nn k hat hl) σ q hq
theorem c02 (l:List Int) (nn:Bool) (k:Nat) (hat:k<=600000000) (hl:l.length<=maxLen) (pkg:Str) (hpk:pkg.length<=8):b8 CC 68 [.ptr 0 0,(sv pkg)] [p9 l nn k] fun r τ=>∃ a:Str × Nat,F1 1 τ r (.ret (sv a.1)) [p9 l nn a.2]/\(a.1.length<=6300/\k<=a.2/\a.2<=k+1070):=by
 refine cO Tryz.func68 ?_;refine U5 ?_;refine a9X ?_;refine M7 (α:=Str × Nat) (fun x=>[(0,.ptr 0 0),(1,(sv pkg)),(5,(sv x.1))]) (fun x=>[p9 l nn (x.2)]) (fun x=>x.1.length<=40/\x.2=k+1) ?_ ?_
 ·
  refine z_2 ?_;refine de rfl a8h a2J (G5 l nn k _ 0 rfl om_ hl 1 8 om_) rfl ?_;intro _ _;refine c8 ?_;refine cC ?_ ?_ <;> intro h1
  ·refine z_4 ?_;refine cY a5n ?_;refine z_1 ?_;exact ⟨(_,k+1),e0f,⟨⟨tt,rfl⟩,⟨tt,rfl⟩,⟨tt,rfl⟩,tt⟩,rfl⟩
  ·refine c9 ?_;exact ⟨(_,k+1),e0f,⟨⟨tt,rfl⟩,⟨tt,rfl⟩,⟨tt,rfl⟩,tt⟩,rfl⟩
 ·intro ⟨s,p⟩ E0 ⟨hs,hp⟩;dsimp only at hs hp ⊢;subst hp;refine Q7 ?_;refine de rfl a5K o7 (H6 l nn (k+1) _ 0 rfl om_ hl 3 om_) rfl ?_;intro _ _;have hb1:=a3v (l:=l) (k:=k+1) (n:=3) om_;refine b13 ?_;refine B2 hCC 1 rfl (α:=Str × List Str × Nat × Int) (fun x=>[(0,.ptr 0 0),(1,(sv pkg)),(5,(sv x.1)),(6,(.list (x.2.1.map scv) (gnn x.2.1.length) (G9 x.2.1.length 1))),(7,iv x.2.2.2)]) (fun x=>[p9 l nn x.2.2.1,u0 x.2.1.length]) (fun x=>0<=x.2.2.2/\x.2.2.2<=2/\x.1.length+20*x.2.2.2<=80/\x.2.1.length+x.2.2.2<=2/\k+2<=x.2.2.1/\x.2.2.1+x.2.2.2<=k+4) (fun x=>x.2.2.2.toNat) ⟨(s,[],k+2,C7 l (k+1) 3),[0,9],⟨do_,do_,do_,by dsimp only;simp;omega,do_,do_⟩,⟨rfl,rfl⟩,ut_,uq_⟩ ?_;intro ⟨s,seen,p,n⟩ ⟨hn1,hn2,hs2,hsn,hp1,hp2⟩;dsimp only at hn1 hn2 hs2 hsn hp1 hp2 ⊢;refine a2Q ?_;refine cC ?_ ?_ <;> intro h2
  ·have hn3:1<=n:=sm_ h2;refine X9 ?_;refine yc rfl c8n trivial (a2P _) ?_;refine de rfl a2n i7 (F3 l nn (p) _ 0 rfl om_ hl R3 de_ de_) rfl ?_;intro v hv;have hv8:v.length<=8:=H7 (.inl hv);refine a7L ?_;refine cY a9V ?_;refine a8T ?_;refine cG (fun hg=>j8 rfl c91 ⟨hg,hg,tt⟩ (b1T seen _ v om_ _) rfl) ?_;refine b9F ?_;refine cC ?_ ?_ <;> intro h3
   ·refine z_5 ?_;refine cY (A2 [scv v] rfl ⟨tt,tt⟩ t_1 t_0 t_3 rfl rfl rfl rfl rfl rfl rfl rfl rfl) ?_;refine cD (C5 rfl tt tt rfl si_ q_2 t_1 t_0 a3y t_3 rfl (.inr rfl) q_8 a36 E7 ((seen++[v]).map scv) (seen++[v]).length si_ si_ ?_);refine a7W ?_;refine a8y ?_;refine cY a2j ?_;refine a9m ?_;exact ⟨(s++((([105,109,112,111,114,116,32]:Str)++v)++[59,10]),seen++[v],p+1,n - 1),[0,2],(by exact ⟨do_,do_,do_,by dsimp only;simp only [n_5,n_7,I4];omega,by dsimp only;simp only [n_5,n_7,I4];omega,do_,do_⟩),⟨rfl,rfl⟩,ut_,uq_⟩
   ·refine a6G ?_;refine a7z ?_;exact ⟨(s,seen,p+1,n - 1),[0,1],⟨do_,do_,do_,do_,do_,do_,do_⟩,⟨rfl,rfl⟩,ut_,uq_⟩
  ·have hn3:n=0:=sm_ h2;subst hn3;refine A4 ?_;refine Q7 ?_;refine de rfl a5K o7 (H6 l nn p _ 0 rfl om_ hl 5 om_) rfl ?_;intro _ _;have hb2:=a3v (l:=l) (k:=p) (n:=5) om_;refine cY (b7y rfl rfl tt rfl rfl om_ om_) ?_;refine b13 ?_;refine B2 hCC 2 rfl (α:=Str × List Str × Nat × Int) (fun x=>[(0,.ptr 0 0),(5,(sv x.1)),(9,(.list (x.2.1.map scv) (gnn x.2.1.length) (G9 x.2.1.length 2))),(10,iv x.2.2.2)]) (fun x=>[p9 l nn x.2.2.1,u0 seen.length,u0 x.2.1.length]) (fun x=>0<=x.2.2.2/\x.2.2.2<=5/\x.1.length+1240*x.2.2.2<=6280/\x.2.1.length+x.2.2.2<=5/\k+3<=x.2.2.1/\x.2.2.1+211*x.2.2.2<=k+1060) (fun x=>x.2.2.2.toNat) ⟨(s,[],p+1,1+C7 l p 5),[0,1,9],⟨do_,do_,do_,by dsimp only;simp;omega,do_,do_⟩,⟨rfl,rfl⟩,ut_,uq_⟩ ?_;intro ⟨s,hds,p2,n⟩ ⟨hn1,hn2,hs3,hhn,hp3,hp4⟩;dsimp only at hn1 hn2 hs3 hhn hp3 hp4 ⊢;refine a2Q ?_;refine cC ?_ ?_ <;> intro h4
   ·have hn3:1<=n:=sm_ h4;refine X9 ?_;refine de rfl Tryz.call73 ⟨tt,tt⟩ (c3p l nn p2 om_ hl _ 0 rfl) rfl ?_;intro ⟨dt,p5⟩ ⟨hdt,hq5,hr5⟩;dsimp only at hdt hq5 hr5 ⊢;refine O0 ?_;refine b2i ?_;refine a7q ?_;refine K3 (α:=Nat) (fun i=>[(0,.ptr 0 0),(5,(sv s)),(9,(.list (hds.map scv) (gnn hds.length) (G9 hds.length 2))),(10,iv n),(11,(sv dt)),(12,(sv dt)),(13,iv i)]) (fun _=>[p9 l nn p5,u0 seen.length,u0 hds.length]) (fun i=>i<=dt.length) (fun i=>dt.length - i) 0 (n_3 _) tu_ rfl ?_;intro i E3 hi;refine b3F ?_;refine cC ?_ ?_ <;> intro h5
    ·have hlt:i < dt.length:=sm_ h5;obtain ⟨c,hc⟩:∃ c,dt[i]? = some c:=⟨dt[i]'hlt,si_⟩;refine a4O ?_;refine z_5 ?_;refine cY (L6 rfl tt tt rfl rfl t_5 om_ (by rw [a2p];exact hc)) ?_;refine cY S7 ?_;refine a8T ?_;refine cG (fun hg=>L6 rfl hg hg rfl rfl t_5 b2f (by rw [a2p];exact hc)) ?_;refine a7w ?_;refine cC ?_ ?_ <;> intro h6
     ·refine z_5 ?_;refine cY (J7 (h:=i) rfl tt rfl t_5 rfl a30 a4n a4n) ?_;refine z_1 ?_;refine A4 ?_;refine M7 (α:=Bool × Nat) (fun x=>[(0,.ptr 0 0),(5,(sv s)),(9,(.list (hds.map scv) (gnn hds.length) (G9 hds.length 2))),(10,iv n),(11,(sv dt)),(12,(sv (dt.take i))),(84,(.val (.bool x.1)))]) (fun x=>[p9 l nn x.2,u0 seen.length,u0 hds.length]) (fun x=>p5<=x.2/\x.2<=p5+1) ?_ ?_
      ·
       refine X0 ?_;refine ye rfl c91 i7 (b1T hds _ _ om_ _) rfl ?_;refine cY a6L ?_;refine a3q ?_;refine b1E (.val (.bool false)) rfl rfl tt rfl rfl (fun hg=>C1 rfl a8h ⟨hg,rfl,rfl,tt⟩ (G5 l nn p5 _ 0 rfl om_ hl 1 40 om_) rfl ?_) (fun hg=>?_)
       ·
        intro _ _;exact d5F
       ·
        refine a8t ?_;exact ⟨(_,p5),⟨do_,do_⟩,⟨⟨tt,rfl⟩,⟨tt,rfl⟩,⟨tt,rfl⟩,⟨tt,rfl⟩,⟨tt,rfl⟩,⟨tt,rfl⟩,⟨tt,rfl⟩,tt⟩,rfl⟩
      ·intro ⟨b6,p6⟩ E6 ⟨hq6,hr6⟩;dsimp only at hq6 hr6 ⊢;refine cC ?_ ?_ <;> intro h7
       ·refine z_5 ?_;refine cY (A2 [scv (dt.take i)] rfl ⟨tt,tt⟩ t_1 t_0 t_3 rfl rfl rfl rfl rfl rfl rfl rfl rfl) ?_;refine cD (C5 rfl tt tt rfl si_ q_2 t_1 t_0 a3y t_3 rfl (.inr rfl) q_8 a36 E7 ((hds++[(dt.take i)]).map scv) (hds++[(dt.take i)]).length si_ si_ ?_);refine a7W ?_;refine cY a2j ?_;refine a9m ?_;exact ⟨(s++dt,hds++[(dt.take i)],p6,n - 1),[0,1,3],d9D,⟨rfl,rfl⟩,ut_,uq_⟩
       ·refine a6G ?_;exact d6b
     ·refine a8q ?_;exact ⟨(i+1),om_,hlt,tu_,rfl⟩
    ·refine A4 ?_;refine M7 (α:=Bool × Nat) (fun x=>[(0,.ptr 0 0),(5,(sv s)),(9,(.list (hds.map scv) (gnn hds.length) (G9 hds.length 2))),(10,iv n),(11,(sv dt)),(12,(sv dt)),(84,(.val (.bool x.1)))]) (fun x=>[p9 l nn x.2,u0 seen.length,u0 hds.length]) (fun x=>p5<=x.2/\x.2<=p5+1) ?_ ?_
     ·
      refine X0 ?_;refine ye rfl c91 i7 (b1T hds _ _ om_ _) rfl ?_;refine cY a6L ?_;refine a3q ?_;refine b1E (.val (.bool false)) rfl rfl tt rfl rfl (fun hg=>C1 rfl a8h ⟨hg,rfl,rfl,tt⟩ (G5 l nn p5 _ 0 rfl om_ hl 1 40 om_) rfl ?_) (fun hg=>?_)
      ·
       intro _ _;exact d5F
      ·
       refine a8t ?_;exact ⟨(_,p5),⟨do_,do_⟩,⟨⟨tt,rfl⟩,⟨tt,rfl⟩,⟨tt,rfl⟩,⟨tt,rfl⟩,⟨tt,rfl⟩,⟨tt,rfl⟩,⟨tt,rfl⟩,tt⟩,rfl⟩
     ·intro ⟨b6,p6⟩ E6 ⟨hq6,hr6⟩;dsimp only at hq6 hr6 ⊢;refine cC ?_ ?_ <;> intro h8
      ·refine z_5 ?_;refine cY (A2 [scv dt] rfl ⟨tt,tt⟩ t_1 t_0 t_3 rfl rfl rfl rfl rfl rfl rfl rfl rfl) ?_;refine cD (C5 rfl tt tt rfl si_ q_2 t_1 t_0 a3y t_3 rfl (.inr rfl) q_8 a36 E7 ((hds++[dt]).map scv) (hds++[dt]).length si_ si_ ?_);refine a7W ?_;refine cY a2j ?_;refine a9m ?_;exact ⟨(s++dt,hds++[dt],p6,n - 1),[0,1,3],d9D,⟨rfl,rfl⟩,ut_,uq_⟩
      ·refine a6G ?_;exact d6b
   ·have hn3:n=0:=sm_ h4;subst hn3;refine A4 ?_;refine a1z ?_;refine de rfl a8h a2J (G5 l nn p2 _ 0 rfl om_ hl 1 30 om_) rfl ?_;intro _ _;refine c8 ?_;refine cC ?_ ?_ <;> intro h9
    ·refine X0 ?_;refine cY (A2 (([[102,117,110,99],[125],[34],[116,101,115,116,32,116,32,61,32,49,59],[120]]:List Str).map scv) rfl ⟨rfl,rfl,rfl,rfl,rfl,tt⟩ t_1 t_0 t_3 rfl rfl rfl rfl rfl rfl rfl rfl rfl) ?_;refine de rfl a2n i7 (F3 l nn (p2+1) _ 0 rfl om_ hl ([[102,117,110,99],[125],[34],[116,101,115,116,32,116,32,61,32,49,59],[120]]:List Str) si_ si_) rfl ?_;intro v hv;have hv8:v.length<=11:=by revert v;decide
     refine cY a2j ?_;refine O0 ?_;refine z_7 ?_;exact ⟨_,j2 rfl tt c4,⟨(_,p2+2),a1x rfl P9 (.old (.val _)),(by show List.length _<=_;simp only [n_5];omega),do_,do_⟩⟩
    ·refine a1m ?_;refine z_7 ?_;exact ⟨_,j2 rfl tt c4,⟨(_,p2+1),a1x rfl P9 (.old (.val _)),(by show List.length _<=_;simp only;omega),do_,do_⟩⟩
theorem b35 (l:List Int) (nn:Bool) (k:Nat) (hat:k<=600000000) (hl:l.length<=maxLen) (pkg:Str) (hpk:pkg.length<=8) (σ:List b9) (q:Nat) (hq:σ[q]? = some (p9 l nn k)):b8 CC 68 [.ptr q 0,(sv pkg)] σ fun r τ=>∃ a:Str × Nat,r = .ret (sv a.1)/\τ=σ.set q (p9 l nn a.2)/\(a.1.length<=6300/\k<=a.2/\a.2<=k+1070) :=
 a8r (c:=fun a:Str × Nat=>sv a.1) (S:=fun a=>p9 l nn a.2) hCC (fun a h=>by simp at h;subst h;exact .val _) (fun _=>.val _) (fun _=>B8 _ _ _) (B8 _ _ _) rfl (c02 l nn k hat hl pkg hpk) σ q hq
def a1y:List Str:=([[97,46,100,97,116],[100,47,98,46,100,97,116],[99]]:List Str)
def a3N:List Str:=([[97,46,115,114,99],[98,46,115,114,99],[100,47,99,46,115,114,99],[120,46,115,114,99],[97,46,100,97,116],[100,47,98,46,100,97,116],[99],[122,48,46,115,114,99],[122,49,46,115,114,99],[122,50,46,115,114,99]]:List Str)
structure Q6 (B:Nat) (fl:List Fi):Prop where
 srt:c9j fl
 pth:∀ f∈fl,f.p∈a3N
 byt:∀ f∈fl,f.b.length<=B
theorem Q6.nil (B:Nat):Q6 B []:=⟨.nil,fun f h=>by simp at h,fun f h=>by simp at h⟩
theorem Q6.mono {C:Nat} (h:Q6 B fl) (hc:B<=C):Q6 C fl:=⟨h.srt,h.pth,fun f hf=>Nat.le_trans (h.byt f hf) hc⟩
theorem Q6.len (h:Q6 B fl):fl.length<=10:=by
 have hn:(fl.map Fi.p).Nodup:=by
  rw [List.nodup_iff_pairwise_ne,List.pairwise_map];exact h.srt.imp fun {a b} hab he=>by rw [he,d0C] at hab;cases hab
 have hs:∀ x∈fl.map Fi.p,x∈a3N:=fun x hx=>by
  obtain ⟨f,hf,rfl⟩:=K5.1 hx;exact h.pth f hf
 have:=List.Nodup.length_le_of_subset hn (fun x hx=>hs x hx);rw [a2O] at this;exact this
theorem b4n {f:Fi}:∀ l:List Fi,a87 f true l=l.filter fun x=>!decide (x.p=f.p)
 | []=>rfl
 | x::l=>by
  rw [a87,Bool.true_or,b4n l,b0s];by_cases h:x.p=f.p <;> simp [h]
theorem a8i {f:Fi} {x:Fi}:∀ {d:Bool} {l:List Fi},x∈a87 f d l->x=f\/x∈l
 | d,[],h=>by
  cases d <;> simp [a87] at h
  exact .inl h
 | d,y::l,h=>by
  rw [a87] at h
  rcases X1.1 h with h | h
  ·split at h <;> simp at h
   exact .inl h
  ·rcases X1.1 h with h | h
   ·split at h <;> simp at h
    exact .inr (by rw [h];simp)
   ·rcases a8i h with h | h
    ·exact .inl h
    ·exact .inr (b5h _ h)
theorem b79 {f:Fi}:∀ {l:List Fi},c9j l->c9j (a87 f false l)
 | [],_=>by simp [a87,c9j]
 | y::l,h=>by
  obtain ⟨h1,h2⟩:=b12.1 h;rw [a87];by_cases hle:leF f y=true
  ·simp only [hle,Bool.not_false,Bool.and_self,if_true,Bool.or_true,b4n];have hl:c9j (l.filter fun x=>!decide (x.p=f.p)):=h2.filter _;have hfl:∀ g∈l.filter fun x=>!decide (x.p=f.p),Op.bytesLess f.p g.p=true:=fun g hg=>by
    have hy:=h1 g ((b5r.1 hg).1);unfold leF at hle;simp only [a6j,a2t] at hle
    rcases hle with hle | hle
    ·exact b9a hle hy
    ·rw [hle];exact hy
   by_cases hyp:y.p=f.p
   ·rw [if_pos hyp,a7t];exact b12.2 ⟨hfl,hl⟩
   ·rw [if_neg hyp];have hfy:Op.bytesLess f.p y.p=true:=by
     unfold leF at hle;simp only [a6j,a2t] at hle
     rcases hle with hle | hle
     ·exact hle
     ·exact absurd hle.symm hyp
    refine b12.2 ⟨fun g hg=>?_,b12.2 ⟨fun g hg=>h1 g ((b5r.1 hg).1),hl⟩⟩
    rcases R5.1 hg with rfl | hg
    ·exact hfy
    ·exact hfl g hg
  ·have hle':leF f y=false:=sp_ hle;have hyp:¬ y.p=f.p:=fun h=>by rw [leF,h] at hle';simp at hle'
   simp only [hle',Bool.and_false,Bool.or_false,if_neg hyp];have:Op.bytesLess y.p f.p=true:=by
    unfold leF at hle';simp only [b8d,decide_eq_false_iff_not] at hle';exact d0o hle'.1 hle'.2
   refine b12.2 ⟨fun g hg=>?_,b79 h2⟩
   rcases a8i hg with rfl | hg
   ·exact this
   ·exact h1 g hg
theorem Q6.ins (h:Q6 B fl) {f:Fi} (hp:f.p∈a3N) (hb:f.b.length<=B):Q6 B (a6t fl f) :=
 ⟨b79 h.srt,fun g hg=>by
  rcases a8i hg with rfl | hg
  ·exact hp
  ·exact h.pth g hg,fun g hg=>by
  rcases a8i hg with rfl | hg
  ·exact hb
  ·exact h.byt g hg⟩
theorem Q6.rem (h:Q6 B fl) (s:Str):Q6 B (a44 fl s) :=
 ⟨h.srt.filter _,fun g hg=>h.pth g ((b5r.1 hg).1),fun g hg=>h.byt g ((b5r.1 hg).1)⟩
theorem c14:∀ s∈I6,s∈a3N:=by decide
theorem c3m:∀ s∈a1y,s∈a3N:=by decide
theorem S3 (fl:List Fi) (nn:Bool):r9 (.agg (A8 fl nn)):=o3 (cs:=A8 _ _) ⟨G8 _ _,tt⟩
theorem Z2 {l:List α} (h:i < l.length):∃ y,l[i]? = some y/\y∈l:=⟨l[i],by simp [h],c5x h⟩
theorem b5P (l:List Int) (nn:Bool) (k:Nat) (hat:k<=500000000) (hl:l.length<=maxLen):b8 CC 27 [.ptr 0 0] [p9 l nn k] fun r τ=>∃ a:List Fi × Nat,F1 1 τ r (.ret (.agg (A8 a.1 (gnn a.1.length)))) [p9 l nn a.2]/\(Q6 6300 a.1/\k<=a.2/\a.2<=k+4400):=by
 refine cO Tryz.func27 ?_;refine z_0 ?_;refine c8x ?_;refine T5 ?_;refine yc rfl Tryz.call66 trivial (a7Q _) ?_;refine a1i ?_;refine K3 (α:=List Fi × Nat × Nat) (fun x=>[(0,.ptr 0 0),(2,.ptr 1 0),(3,.ptr 2 0),(8,(.list (I6.map scv) true none)),(9,iv I6.length),(10,iv x.2.2)]) (fun x=>[p9 l nn (x.2.1),.box (A8 [] false),.box (A8 x.1 (gnn x.1.length))]) (fun x=>x.2.2<=I6.length/\Q6 6300 x.1/\k+0<=x.2.1/\x.2.1<=k+0+x.2.2*1072) (fun x=>I6.length - x.2.2) ([],k,0) ⟨n_3 _,.nil _,do_,do_⟩ tu_ rfl ?_;intro ⟨fl,p,i⟩ E0 ⟨hi,hm,hp1,hp2⟩;dsimp only at hi hm hp1 hp2 ⊢;have hL:I6.length=4:=rfl;have hml:=hm.len;refine C9 ?_;refine cC ?_ ?_ <;> intro h1
 ·have hlt:i < I6.length:=sm_ h1;obtain ⟨y,hb,hym⟩:=Z2 hlt;refine c9 ?_;refine M7 (α:=List Fi × Nat) (fun x=>[(0,.ptr 0 0),(2,.ptr 1 0),(3,.ptr 2 0),(8,(.list (I6.map scv) true none)),(9,iv I6.length),(10,iv i)]) (fun x=>[p9 l nn (x.2),.box (A8 [] false),.box (A8 x.1 (gnn x.1.length))]) (fun x=>Q6 6300 x.1/\p<=x.2/\x.2<=p+1072) ?_ ?_
  ·
   refine F5 ?_;refine z_0 ?_;refine b1K ?_;refine O0 ?_;refine de rfl a8h a2J (G5 l nn p _ 0 rfl om_ hl 3 4 om_) rfl ?_;intro _ _;refine c8 ?_;refine cC ?_ ?_ <;> intro h2
   ·refine c54 ?_;refine a60 ?_;refine chf rfl W9 ?_;refine chf rfl c72 ?_;refine F9 ?_;refine A6 rfl rfl rfl rfl (C1 rfl a2n i7 (F3 l nn (p+1) _ 0 rfl om_ hl R3 de_ de_) rfl ?_);intro v hv;have hv8:v.length<=8:=H7 (.inl hv);refine ⟨⟨X8,E8,E8,tt⟩,?_⟩;refine A6 rfl rfl rfl rfl (C1 rfl Tryz.call68 i7 (b35 l nn (p+2) om_ hl v hv8 _ 0 rfl) rfl ?_);intro ⟨s,p3⟩ ⟨hs,hq1,hq2⟩;dsimp only at hs hq1 hq2 ⊢;refine d5C ?_;refine a7T ?_;exact ⟨(a6t fl ⟨y,s⟩,p3),⟨hm.ins (c14 _ hym) hs,do_,do_⟩,tu_,rfl⟩
   ·refine c9 ?_;exact ⟨(fl,p+1),⟨hm,do_,do_⟩,tu_,rfl⟩
  ·intro ⟨fl,p4⟩ E0 ⟨hm,hq1,hq2⟩;dsimp only at hm hq1 hq2 ⊢;refine b0I ?_;exact ⟨(fl,p4,i+1),do_,⟨do_,hm,do_,do_⟩,tu_,rfl⟩
 ·refine a9O ?_;refine cY e0h ?_;refine a1i ?_;refine K3 (α:=List Fi × Nat × Nat) (fun x=>[(0,.ptr 0 0),(2,.ptr 1 0),(3,.ptr 2 0),(26,(.list (a1y.map scv) true none)),(27,iv a1y.length),(28,iv x.2.2)]) (fun x=>[p9 l nn (x.2.1),.box (A8 [] false),.box (A8 x.1 (gnn x.1.length))]) (fun x=>x.2.2<=a1y.length/\Q6 6300 x.1/\k+0<=x.2.1/\x.2.1<=k+4288+x.2.2*5) (fun x=>a1y.length - x.2.2) (fl,p,0) ⟨n_3 _,hm,do_,do_⟩ tu_ rfl ?_;intro ⟨fl,p,i⟩ E0 ⟨hi,hm,hp1,hp2⟩;dsimp only at hi hm hp1 hp2 ⊢;have hL:a1y.length=3:=rfl;have hml:=hm.len;refine C9 ?_;refine cC ?_ ?_ <;> intro h3
  ·have hlt:i < a1y.length:=sm_ h3;obtain ⟨y,hb,hym⟩:=Z2 hlt;refine a6S ?_;refine O0 ?_;refine de rfl a8h a2J (G5 l nn p _ 0 rfl om_ hl 1 3 om_) rfl ?_;intro _ _;refine c8 ?_;refine cC ?_ ?_ <;> intro h4
   ·refine cF [] [] [0,1,2,3,4,5,6] 3 [[0,1],[0],[],[]] trivial ?_;refine chf rfl a9N ?_;refine a60 ?_;refine F9 ?_;refine A6 rfl rfl rfl rfl (C1 rfl Tryz.call70 ⟨tt,tt⟩ (c1r l nn (p+1) om_ hl _ 0 rfl) rfl ?_);intro ⟨s,p3⟩ ⟨hs,hq1,hq2⟩;dsimp only at hs hq1 hq2 ⊢;refine d5C ?_;refine a7T ?_;refine b0I ?_;exact ⟨(a6t fl ⟨y,s⟩,p3,i+1),do_,⟨do_,hm.ins (c3m _ hym) do_,do_,do_⟩,tu_,rfl⟩
   ·refine a2l ?_;exact ⟨(fl,p+1,i+1),do_,⟨do_,hm,do_,do_⟩,tu_,rfl⟩
  ·refine U9 ?_;refine cY X3 ?_;refine b8o ?_;exact ⟨_,B6 rfl a48,⟨(fl,p),a1x rfl P9 (.old (S3 _ _).old),hm,do_,do_⟩⟩
theorem b81 (l:List Int) (nn:Bool) (k:Nat) (hat:k<=500000000) (hl:l.length<=maxLen) (σ:List b9) (q:Nat) (hq:σ[q]? = some (p9 l nn k)):b8 CC 27 [.ptr q 0] σ fun r τ=>∃ a:List Fi × Nat,r = .ret (.agg (A8 a.1 (gnn a.1.length)))/\τ=σ.set q (p9 l nn a.2)/\(Q6 6300 a.1/\k<=a.2/\a.2<=k+4400) :=
 a8r (c:=fun a:List Fi × Nat=>(.agg (A8 a.1 (gnn a.1.length)))) (S:=fun a=>p9 l nn a.2) hCC (fun a h=>by simp at h) (fun _=>S3 _ _) (fun _=>B8 _ _ _) (B8 _ _ _) rfl (b5P l nn k hat hl) σ q hq
theorem b2g {s:Str} {e:Nat} {c:UInt8} (h:s[e]? = some c) (hae:a<=e):sub s a (e+1)=sub s a e++[c]:=by
 obtain ⟨hlt,rfl⟩:=n_1.1 h;unfold sub;rw [<- b4U hlt,List.drop_append_of_le_length a5U]
theorem sub_self {s:Str}:sub s a a=[]:=by unfold sub;exact S8 a5U
theorem c8e (l:Str) (c:UInt8):a4E (l++[c])=min (10*a4E l+((c.toNat:Int) - 48)) 9007199254740993:=by
 unfold a4E;rw [List.foldl_append];rfl
theorem b4F {s:Str} {e:Nat} {ks:List Int} (h:∀ c,s[e]? = some c->inK ks c=false):A0 s e ks=e:=by
 cases hc:s[e]? with
 | none=>exact a8J (sp_ hc)
 | some c=>rw [V1 hc,if_neg (by rw [h c hc];simp)]
theorem d2q:∀ x:Fin 256,(k8 (x.val:Int)=8)=(UInt8.ofNat x.val∈a4w):=by decide
theorem b8W (b:UInt8):k8 b.toNat=8↔b∈a4w:=by
 have h:=d2q ⟨b.toNat,b.toNat_lt⟩;simp only at h;rw [h];simp
theorem c3E {s:Str}:preB [61,61] (s.drop a)=true↔s[a]? = some 61/\s[a+1]? = some 61:=by
 unfold preB;rw [b68];constructor
 ·rintro ⟨t,ht⟩;have h0:(s.drop a)[0]? = some 61:=by rw [<- ht];rfl
  have h1:(s.drop a)[1]? = some 61:=by rw [<- ht];rfl
  rw [a66] at h0 h1;exact ⟨h0,h1⟩
 ·rintro ⟨h0,h1⟩;obtain ⟨l0,e0⟩:=n_1.1 h0;obtain ⟨l1,e1⟩:=n_1.1 h1;refine ⟨s.drop (a+2),?_⟩;rw [Q4 l0,Q4 l1,e0,e1];rfl
theorem d2j {s:Str} (h0:s[a]? = some 61) (h1:s[a+1]? = some 61):sub s a (a+2)=[61,61]:=by
 rw [show a+2=(a+1)+1 from rfl,b2g h1 om_,b2g h0 (n_4 _),sub_self];rfl
def b1Y (s:Str) (a:Nat) (b:UInt8):Tok:=if (D7 s a b).2.2=0 then { (D7 s a b).1 with at_:=(a:Nat)} else ⟨0,[],0,0⟩
theorem c7n {b:UInt8} {n:Nat} (hn:n < 256):((b.toNat:Int)=(n:Int))↔b=UInt8.ofNat n:=by
 constructor
 ·intro h;have h2:b.toNat=(UInt8.ofNat n).toNat:=by rw [UInt8.toNat_ofNat',b9X (sp_ hn)];omega
  exact b36.1 h2
 ·rintro rfl;rw [UInt8.toNat_ofNat',b9X (sp_ hn)]
theorem c3Y (s:Str) (hs:s.length<=1000000000) (a:Nat) (b:UInt8) (hb:s[a]? = some b) (ha:a < s.length):b8 CC 228 [(sv s),iv a] [] fun r τ=>∃ _:Unit,a1e 0 τ r (.ret (.tup [.agg (b1Y s a b).cells,(iv ((D7 s a b).2.1)),(iv ((D7 s a b).2.2))]))/\True:=by
 refine cO Tryz.func228 ?_;refine b0N ?_;refine a4W ?_;refine z_2 ?_;refine z_1 ?_;refine a1Q ?_;refine cY b8H ?_;refine b13 ?_;refine z_2 ?_;refine yc rfl d0W ⟨tt,tt⟩ (a47 b _) ?_;refine z_1 ?_;refine cC ?_ ?_ <;> intro h1
 ·have hk:k8 b.toNat=1:=sp_ h1;refine a4A ?_;refine j5 hCC (fun e:Nat=>[(0,(sv s)),(1,iv a),(4,.ptr 0 0),(5,iv e)]) (fun _=>[.box (Tok.cells ⟨0,[],0,0⟩)]) (fun e=>a<=e/\e<=s.length/\A0 s a [1,2,3]=A0 s e [1,2,3]) (fun e=>s.length - e) a ⟨n_4 _,om_,rfl⟩ tu_ (extra0:=[]) rfl r5 uz_ ?_;intro e ⟨hae,hel,hr⟩;obtain ⟨c,hc⟩:∃ c:UInt8,e < s.length->s[e]? = some c:=by
   by_cases hle:e < s.length
   ·exact ⟨s[e],fun _=>by simp [hle]⟩
   ·exact ⟨0,fun h=>absurd h hle⟩
  refine b6X ?_;refine cG (fun hg=>j8 rfl c9f ⟨hg,tt⟩ (a63 c _) rfl) ?_;refine a4M ?_;refine cC ?_ ?_ <;> intro h2
  ·have h2':e < s.length/\inK [1,2,3] c=true:=sp_ h2;have hce:=hc h2'.1;refine a21 ?_;refine a74 ?_;exact ⟨(e+1),_,⟨om_,om_,om_,by rw [hr,V1 hce,if_pos h2'.2]⟩,tu_,rfl⟩
  ·have hse:A0 s a [1,2,3]=e:=by
    rw [hr];refine b4F fun c' hc'=>?_;have hle:=(n_1.1 hc').1;rw [hc hle] at hc';injection hc' with hc'
    subst hc';have h3:e < s.length->inK [1,2,3] c=false:=sp_ h2;exact h3 hle
   refine A4 ?_;refine a1Q ?_;refine cY a9w ?_;refine O1 ?_;refine cC ?_ ?_ <;> intro h3
   ·have hx:D7 s a b=(⟨0,[],0,0⟩,0,2):=by
     unfold D7;rw [if_pos hk,hse,if_pos (sm_ h3)]
    refine z_0 ?_;refine b88 ?_;exact c1x
   ·have hx:D7 s a b=(⟨1,sub s a e,0,0⟩,(e:Int),0):=by
     unfold D7;rw [if_pos hk,hse,if_neg (sm_ h3)]
    refine a6J ?_;refine cY (J7 (a:=a) (h:=e) rfl tt rfl t_5 a30 a30 a4n a4n) ?_;refine cY j1 ?_;refine cY d1y ?_;refine b4f ?_;exact b9j
 ·have hk1:¬ k8 b.toNat=1:=sp_ h1;refine z_2 ?_;refine a1h ?_;refine a88 ?_;refine z_1 ?_;refine cC ?_ ?_ <;> intro h4
  ·have hk2:k8 b.toNat=2:=by rw [a5u];simp at h4;omega
   refine z_6 ?_;refine a4A ?_;refine j5 hCC (fun x:Nat × Int=>[(0,(sv s)),(1,iv a),(4,.ptr 0 0),(5,iv x.1),(8,iv x.2)]) (fun _=>[.box (Tok.cells ⟨0,[],0,0⟩)]) (fun x=>a<=x.1/\x.1<=s.length/\A0 s a [2]=A0 s x.1 [2]/\0<=x.2/\x.2<=90071992547409930/\min x.2 9007199254740993=a4E (sub s a x.1)) (fun x=>s.length - x.1) (a,0) ⟨n_4 _,do_,rfl,do_,do_,by rw [sub_self];rfl⟩ tu_ (extra0:=[]) rfl r5 uz_ ?_;intro ⟨e,n⟩ ⟨hae,hel,hr,hn0,hn1,hnm⟩;dsimp only at hae hel hr hn0 hn1 hnm ⊢;obtain ⟨c,hc⟩:∃ c:UInt8,e < s.length->s[e]? = some c:=by
    by_cases hle:e < s.length
    ·exact ⟨s[e],fun _=>by simp [hle]⟩
    ·exact ⟨0,fun h=>absurd h hle⟩
   refine b6X ?_;refine b1h ?_;refine cG d1C ?_;refine a9A ?_;refine cC ?_ ?_ <;> intro h5
   ·have h5':e < s.length/\48<=c.toNat/\c.toNat<=57:=by
     simp at h5;omega
    have hce:=hc h5'.1;have hk2c:k8 c.toNat=2:=a5u.2 h5'.2;have hns:=c8e (sub s a e) c;rw [<- b2g hce hae] at hns;refine a21 ?_;refine M7 (α:=Int) (fun n'=>[(0,(sv s)),(1,iv a),(4,.ptr 0 0),(5,iv e),(8,iv n')]) (fun _=>[.box (Tok.cells ⟨0,[],0,0⟩)]) (fun n'=>0<=n'/\n'<=90071992547409930/\min n' 9007199254740993=a4E (sub s a (e+1))) ?_ ?_
    ·
     refine a3F ?_;refine cC ?_ ?_ <;> intro h6
     ·have hn2:n<=9007199254740992:=sp_ h6;refine z_4 ?_;refine cY (b7M rfl tt rfl rfl rfl om_ om_) ?_;refine a4Q ?_;refine cY (L6 rfl tt tt rfl rfl t_5 om_ (by rw [a2p];exact hce)) ?_;refine cY S7 ?_;refine cY (a7a rfl tt rfl b28 d0U (show IntKind.i64.wrap (IntKind.u8.wrap ((c.toNat:Int) - 48))=(c.toNat:Int) - 48 by rw [wr8 om_ om_,b0g om_ om_])) ?_;refine cY a4s ?_;refine z_1 ?_;exact ⟨_,(by exact ⟨om_,om_,by rw [hns,<- hnm];omega⟩),⟨⟨tt,rfl⟩,⟨tt,rfl⟩,⟨tt,rfl⟩,⟨tt,rfl⟩,⟨tt,rfl⟩,tt⟩,rfl⟩
     ·have hn2:9007199254740992 < n:=sp_ h6;refine c9 ?_;exact ⟨n,⟨hn0,hn1,by rw [hns,<- hnm];omega⟩,tu_,rfl⟩
    ·intro n' E' ⟨hn0',hn1',hnm'⟩;refine a74 ?_;exact ⟨(e+1,n'),_,⟨do_,do_,do_,by dsimp only;rw [hr,V1 hce,if_pos (by simp [inK,hk2c])],hn0',hn1',hnm'⟩,tu_,rfl⟩
   ·have hse:A0 s a [2]=e:=by
     rw [hr];refine b4F fun c' hc'=>?_;have hle:=(n_1.1 hc').1;rw [hc hle] at hc';injection hc' with hc'
     subst hc';have hnk:¬ k8 c.toNat=2:=fun hk=>by
      have:=a5u.1 hk;simp at h5;omega
     simp [inK,hnk]
    refine A4 ?_;refine a2Q ?_;refine cC ?_ ?_ <;> intro h7
    ·have hx:D7 s a b=(⟨0,[],0,0⟩,0,3):=by
      unfold D7;rw [if_neg hk1,if_pos hk2,hse,if_pos (by rw [<- hnm];simp at h7;omega)]
     refine z_0 ?_;refine b88 ?_;exact c1x
    ·have hx:D7 s a b=(⟨2,[],n,0⟩,(e:Int),0):=by
      unfold D7;have hnn:a4E (sub s a e)=n:=by rw [<- hnm];simp at h7;omega
      rw [if_neg hk1,if_pos hk2,hse,hnn,if_neg (sm_ h7)]
     refine a95 ?_;refine cY d1y ?_;refine b4f ?_;exact b9j
  ·have hk2:¬ k8 b.toNat=2:=by rw [a5u];simp at h4;omega
   refine z_2 ?_;refine a73 ?_;refine cC ?_ ?_ <;> intro h8
   ·have hb34:b=34:=by
     have:(b.toNat:Int)=((34:Nat):Int):=sp_ h8;exact (c7n (n:=34) om_).1 this
    have hk7:k8 b.toNat=7:=by rw [hb34];rfl
    refine z_2 ?_;refine b78 ?_;refine a4A ?_;refine j5 hCC (fun e:Nat=>[(0,(sv s)),(1,iv a),(4,.ptr 0 0),(5,iv e)]) (fun _=>[.box (Tok.cells ⟨0,[],0,0⟩)]) (fun e=>a+1<=e/\e<=s.length/\a3S (s.drop (a+1))=(a3S (s.drop e)).map (· + (e - (a+1)))) (fun e=>s.length - e) (a+1) ⟨n_4 _,om_,si_⟩ tu_ (extra0:=[]) rfl r5 uz_ ?_;intro e ⟨hae,hel,hr⟩;obtain ⟨c,hc⟩:∃ c:UInt8,e < s.length->s[e]? = some c:=by
     by_cases hle:e < s.length
     ·exact ⟨s[e],fun _=>by simp [hle]⟩
     ·exact ⟨0,fun h=>absurd h hle⟩
    refine b6X ?_;refine b1h ?_;refine cG d1C ?_;refine b1h ?_;refine cG d1C ?_;refine a9A ?_;refine cC ?_ ?_ <;> intro h9
    ·have h9':e < s.length/\32<=c.toNat/\c.toNat<=126/\¬ c.toNat=34:=by
      simp at h9;omega
     have hce:=hc h9'.1;refine a21 ?_;refine a74 ?_;exact ⟨(e+1),_,⟨om_,om_,om_,by
      rw [hr,a3d hce,if_pos ⟨h9'.2.1,h9'.2.2.1⟩,if_neg h9'.2.2.2,Option.map_map]
      congr 1
      funext x
      simp only [Function.comp];omega⟩,tu_,rfl⟩
    ·refine A4 ?_;refine b6X ?_;refine a7w ?_;refine cC ?_ ?_ <;> intro h10
     ·have hx:D7 s a b=(⟨0,[],0,0⟩,0,9):=by
       have hq:a3S (s.drop (a+1))=none:=by
        rw [hr];by_cases hle:e < s.length
        ·rw [a3d (hc hle)];have h9':¬ (e < s.length/\32<=c.toNat/\c.toNat<=126/\¬ c.toNat=34):=by
          simp at h9;omega
         have h10':¬ c.toNat=34:=by
          simp at h10;omega
         rw [if_neg om_];rfl
        ·rw [b3R om_];rfl
       unfold D7;rw [if_neg hk1,if_neg hk2,if_pos hk7,hq]
      refine z_0 ?_;refine b88 ?_;exact c1x
     ·have h10':e < s.length/\c.toNat=34:=by
       simp at h10;omega
      have hx:D7 s a b=(⟨3,sub s (a+1) e,0,0⟩,(e+1:Int),0):=by
       have hq:a3S (s.drop (a+1))=some (e - (a+1)):=by
        rw [hr,a3d (hc h10'.1),if_pos om_,if_pos h10'.2];simp
       unfold D7;rw [if_neg hk1,if_neg hk2,if_pos hk7,hq];have e1:a+1+(e - (a+1))=e:=by omega
       refine Prod.ext ?_ (Prod.ext ?_ rfl)
       ·simp only [e1]
       ·show ((a:Int)+1+((e - (a+1):Nat):Int)+1)=(e:Int)+1;omega
      refine a95 ?_;refine c0n ?_;refine cY (J7 (a:=(a+1)) (h:=e) rfl tt rfl t_5 a30 a30 a4n a4n) ?_;refine cY j1 ?_;refine cY d1y ?_;refine a9P ?_;refine d0L ?_;exact b9j
   ·have hk7:¬ k8 b.toNat=7:=by
     intro hk;unfold k8 at hk
     repeat' split at hk
     all_goals first|omega|(simp at h8;omega)
    obtain ⟨c1,hc1⟩:∃ c:UInt8,a+1 < s.length->s[a+1]? = some c:=by
     by_cases hle:a+1 < s.length
     ·exact ⟨s[a+1],fun _=>by simp [hle]⟩
     ·exact ⟨0,fun h=>absurd h hle⟩
    refine z_8 ?_;refine z_5 ?_;refine cY b8H ?_;refine a1h ?_;refine cG d9h ?_;refine cG T7 ?_;refine cG a4r ?_;refine cG b2Q ?_;refine cY a4t ?_;refine a8T ?_;refine cG d9h ?_;refine cG (fun hg=>L6 rfl hg hg rfl rfl t_5 b2f (by rw [show ((a:Int)+1).toNat=a+1 by omega];exact hc1 (sm_ hg))) ?_;refine a9A ?_;refine cC ?_ ?_ <;> intro h11
    ·have h11':b=61/\a+1 < s.length/\c1=61:=by
      simp at h11;exact ⟨(c7n (n:=61) om_).1 om_,om_,(c7n (n:=61) om_).1 om_⟩
     have hb2:s[a]? = some 61:=by rw [hb,h11'.1]
     have hc2:s[a+1]? = some 61:=by rw [hc1 h11'.2.1,h11'.2.2]
     have hx:D7 s a b=(⟨4,[61,61],0,0⟩,(a+2:Int),0):=by
      have hk8:k8 b.toNat=8:=by rw [h11'.1];rfl
      unfold D7;rw [if_neg hk1,if_neg hk2,if_neg hk7,if_pos hk8,if_pos (c3E.2 ⟨hb2,hc2⟩),d2j hb2 hc2]
     refine z_2 ?_;refine cY (A9 #[(0,1),(1,1),(2,1),(3,1)] rfl ⟨rfl,rfl,tt,tt⟩ a9c a7M rfl ⟨_,rfl⟩ (fun w=>by kernel_rfl) rfl rfl) ?_;refine a9P ?_;refine d0L ?_;exact b9j
    ·have hpre:¬ preB [61,61] (s.drop a)=true:=fun hp=>by
      obtain ⟨p1,p2⟩:=c3E.1 hp;have hle:=(n_1.1 p2).1;rw [hb] at p1;rw [hc1 hle] at p2;injection p1 with p1
      injection p2 with p2
      subst p1 p2;simp at h11;omega
     refine a0E ?_;refine c6P a4w rfl rfl rfl rfl rfl rfl rfl rfl ⟨rfl,rfl,rfl,rfl,rfl,rfl,rfl,rfl,rfl,rfl,rfl,tt⟩ t_7 t_9 a4N b28 rfl rfl rfl rfl rfl rfl rfl ?_;refine cY a9r ?_;refine Z0 ?_;refine j5 hCC (fun i:Nat=>[(0,(sv s)),(1,iv a),(4,.ptr 0 0),(156,(.list (a4w.map bcv) true none)),(157,iv a4w.length),(158,iv i)]) (fun _=>[.box (Tok.cells ⟨0,[],0,0⟩)]) (fun i=>i<=a4w.length/\∀ x∈a4w.take i,x≠b) (fun i=>a4w.length - i) 0 ⟨n_3 _,fun x hx=>by simp at hx⟩ tu_ (extra0:=[]) rfl r5 uz_ ?_;intro i ⟨hi,hni⟩;have hSL:a4w.length=11:=rfl;refine C9 ?_;refine cC ?_ ?_ <;> intro h12
     ·have hli:i < a4w.length:=sm_ h12;obtain ⟨y,hy,hym⟩:=Z2 hli;refine W7 ?_;refine cY (r8 rfl tt tt rfl rfl t_7 t_9 om_ (j3 hy) rfl) ?_;refine cY (T0 rfl tt rfl c6r rfl) ?_;refine a7L ?_;refine cY b8H ?_;refine b65 ?_;refine cC ?_ ?_ <;> intro h13
      ·have hby:b=y:=by
        have:(b.toNat:Int)=(y.toNat:Int):=sp_ h13;exact b36.1 om_
       have hx:D7 s a b=(⟨4,sub s a (a+1),0,0⟩,(a+1:Int),0):=by
        unfold D7;rw [if_neg hk1,if_neg hk2,if_neg hk7,if_pos ((b8W b).2 (hby ▸ hym)),if_neg hpre]
       refine a0M ?_;refine cY a0v ?_;refine cY (J7 (a:=a) (h:=(a+1)) rfl tt rfl t_5 a30 a30 a4n a4n) ?_;refine cY j1 ?_;refine cY d1y ?_;refine a9P ?_;refine d0L ?_;exact b9j
      ·have hby:¬ b=y:=fun e=>by
        rw [e] at h13;simp at h13
       refine a2l ?_;exact ⟨(i+1),_,⟨om_,om_,fun x hx=>by
        rw [a4F,hy] at hx
        rcases X1.1 hx with hx | hx
        ·exact hni x hx
        ·simp at hx;subst hx;exact fun e=>hby e.symm⟩,tu_,rfl⟩
     ·have hie:i=a4w.length:=sm_ h12;have hx:D7 s a b=(⟨0,[],0,0⟩,0,9):=by
       have hk8:¬ k8 b.toNat=8:=fun hk=>by
        have hm:=(b8W b).1 hk;rw [hie,U3 (n_4 _)] at hni;exact hni b hm rfl
       unfold D7;rw [if_neg hk1,if_neg hk2,if_neg hk7,if_neg hk8]
      refine U9 ?_;refine b88 ?_;exact c1x
theorem c96 (s:Str) (hs:s.length<=1000000000) (a:Nat) (b:UInt8) (hb:s[a]? = some b) (ha:a < s.length) (σ:List b9):b8 CC 228 [(sv s),iv a] σ fun r τ=>r = .ret (.tup [.agg (b1Y s a b).cells,(iv ((D7 s a b).2.1)),(iv ((D7 s a b).2.2))])/\τ=σ :=
 (F6 (res:=fun _:Unit=>.ret (.tup [.agg (b1Y s a b).cells,(iv ((D7 s a b).2.1)),(iv ((D7 s a b).2.2))])) (P:=fun _=>True) hCC (fun c h=>by simp at h;rcases h with rfl | rfl <;> exact .val _) (c3Y s hs a b hb ha) (fun _ _=>B9 (cs:=[_,_,_]) ⟨o3 (cs:=[_,_,_,_]) ⟨.val _,.val _,.val _,.val _,tt⟩,.val _,.val _,tt⟩) σ).mono fun r τ ⟨_,h1,h2,_⟩=>⟨h1,h2⟩
theorem d2G {s:Str} {b:UInt8} (h:(D7 s a b).2.2=0):b1Y s a b={ (D7 s a b).1 with at_:=(a:Nat)}:=by rw [b1Y,if_pos h]
theorem c0I (s:Str) (hs:s.length<=1000000000):b8 CC 180 [(sv s)] [] fun r τ=>∃ x:c43,a1e 0 τ r (.ret (c3V x))/\d1p s x:=by
 refine cO Tryz.func180 ?_;refine z_0 ?_;refine cY a2H ?_;refine a4W ?_;refine a1z ?_;refine b1D ?_;refine cC ?_ ?_ <;> intro h1
 ·have hlen:16384 < s.length:=sm_ h1;have hS:a3B s=none:=by rw [d0V,if_pos hlen]
  refine z_0 ?_;refine cY a2H ?_;refine a3P ?_;exact ⟨_,j9 (rs:=[.tmp 2,.tmp 3,.tmp 4]) (cs:=[_,_,_]) rfl c4B (n_2 rfl),⟨([],false,0,2),by exact .ret (.tups ⟨.old (V2 _ [] false),.old (.val _),.old (.val _),tt⟩),.inr ⟨hS,rfl,rfl,de_⟩⟩⟩
 ·refine a1m ?_;refine de rfl Tryz.call227 o7 (c3x s om_ 0 (n_3 _) _) rfl ?_;intro n ⟨_,hn,hnr,hnb⟩;have hlen:¬ 16384 < s.length:=sm_ h1;have hS:a3B s=a6f s n:=by rw [d0V,if_neg hlen,hnr]
  refine b43 ?_;refine B2 hCC 0 rfl (α:=List Tok × Nat) (fun x=>[(0,(sv s)),(2,(.list (x.1.map Tok.cv) (gnn x.1.length) (G9 x.1.length 0))),(3,iv x.2)]) (fun x=>[u0 x.1.length]) (fun x=>x.2<=s.length/\x.1.length<=x.2/\(∀ b,s[x.2]? = some b->k8 b.toNat≠5/\k8 b.toNat≠6)/\a3B s=(a6f s x.2).map (x.1++·)) (fun x=>s.length - x.2) ⟨([],n),[9],⟨hn,n_3 _,hnb,by rw [hS];simp⟩,⟨rfl,rfl⟩,ut_,uq_⟩ ?_;intro ⟨acc,p⟩ ⟨hp,hal,hpb,hr⟩;dsimp only at hp hal hpb hr ⊢;refine b3F ?_;refine cC ?_ ?_ <;> intro h2
  ·have hlt:p < s.length:=sm_ h2;obtain ⟨b,hb⟩:∃ b,s[p]? = some b:=⟨s[p]'hlt,si_⟩;obtain ⟨hb5,hb6⟩:=hpb b hb;rw [c69 hb hb5 hb6] at hr;refine a21 ?_;refine z_5 ?_;refine ye rfl Tryz.call228 i7 (c96 s om_ p b hb hlt _) rfl ?_;refine b4r ?_;refine a62 ?_;refine b2R ?_;refine cC ?_ ?_ <;> intro h3
   ·have he:(D7 s p b).2.2≠0:=sp_ h3;rw [if_pos he] at hr;refine z_5 ?_;refine cY a2H ?_;refine cY Q1 ?_;refine z_7 ?_;exact ⟨_,j9 (rs:=[.tmp 2,.tmp 3,.tmp 4]) (cs:=[_,_,_]) rfl c4B (n_2 rfl),⟨([],false,(p:Int),(D7 s p b).2.2),by exact .ret (.tups ⟨.old (V2 _ [] false),.old (.val _),.old (.val _),tt⟩),.inr ⟨hr,rfl,rfl,he⟩⟩⟩
   ·have he:(D7 s p b).2.2=0:=sp_ h3;have he':¬ (D7 s p b).2.2≠0:=fun h=>h he;rw [if_neg he'] at hr;obtain ⟨q,hq,hpq,hqs⟩:=a55 hb he';have hta:=d2G he;refine a1m ?_;refine cY a4i ?_;refine cY (A2 [Tok.cv (b1Y s p b)] rfl ⟨tt,tt⟩ b5c a3s a7M rfl rfl rfl rfl rfl rfl rfl rfl rfl) ?_;refine cD (C5 rfl tt tt rfl si_ q_2 b5c a3s c3l a7M rfl (.inr rfl) q_8 d3b E7 ((acc++[b1Y s p b]).map Tok.cv) (acc++[b1Y s p b]).length si_ si_ ?_);refine a7W ?_;refine de rfl Tryz.call227 i7 (by have h:=c3x s om_ q hqs;rw [<- hq] at h;exact h _) rfl ?_;intro m ⟨hqm,hm,hmr,hmb⟩;refine z_1 ?_;exact ⟨(acc++[b1Y s p b],m),[2],⟨do_,hm,by dsimp only;rw [n_5,b3I];omega,hmb,by
     dsimp only;rw [hr,hq,a2p,hmr,hta,Option.map_map]
     congr 1
     funext t
     simp⟩,⟨rfl,rfl⟩,ut_,uq_⟩
  ·have hge:p=s.length:=sm_ h2;rw [d0s hge] at hr;refine A4 ?_;refine z_5 ?_;refine cY X5 ?_;refine cY c0W ?_;refine cY (A2 [Tok.cv ⟨5,[],0,(s.length:Int)⟩] rfl ⟨tt,tt⟩ b5c a3s a7M rfl rfl rfl rfl rfl rfl rfl rfl rfl) ?_;refine cD (C5 rfl tt tt rfl si_ q_2 b5c a3s c3l a7M rfl (.inr rfl) q_8 d3b E7 ((acc++[(⟨5,[],0,(s.length:Int)⟩:Tok)]).map Tok.cv) (acc++[(⟨5,[],0,(s.length:Int)⟩:Tok)]).length si_ si_ ?_);refine cY Q1 ?_;refine a3P ?_;exact ⟨_,j9 (rs:=[.tmp 2,.tmp 3,.tmp 4]) (cs:=[_,_,_]) rfl c4B (n_2 rfl),⟨((acc++[(⟨5,[],0,(s.length:Int)⟩:Tok)]),gnn (acc++[(⟨5,[],0,(s.length:Int)⟩:Tok)]).length,0,0),by exact .ret (.tups ⟨.tok (fun r hr c hc=>(C4 (f:=Tok.cv) (fun _=>S9.all ⟨.val _,.val _,.val _,.val _,tt⟩) _) r hr c hc),.old (.val _),.old (.val _),tt⟩),.inl ⟨by rw [hr,hge];rfl,by rw [n_5];rfl,rfl,rfl⟩⟩⟩
theorem c5N (s:Str) (hs:s.length<=1000000000) (σ:List b9):b8 CC 180 [(sv s)] σ fun r τ=>∃ x:c43,r = .ret (c3V x)/\τ=σ/\d1p s x :=
 F6 (res:=fun x=>.ret (c3V x)) hCC (fun a h=>by simp at h;subst h;exact .val _) (c0I s hs) (fun _ _=>B9 (cs:=[_,_,_]) ⟨a26 _ _,.val _,.val _,tt⟩) σ
theorem c8T (e:Int):p7 e ([]:List Ex).length = .dead:=by
 unfold p7
 split <;> rfl
theorem c46 {sel:List Nat} {e:Int} {k p:Nat}:D2 L sel (.list (([]:List Ex).map Ex.cv) (gnn ([]:List Ex).length) (tkE e ([]:List Ex).length k)) (.list (([]:List Ex).map Ex.cv) (gnn ([]:List Ex).length) (tkE e ([]:List Ex).length p)):=by
 have h:∀ k,tkE e ([]:List Ex).length k=none:=fun k=>by
  unfold tkE
  split <;> rfl
 rw [h,h];exact .old a6R
theorem c6W {w s5:Str} {m n5:Nat} {l:List Str} {S:Option (List Str × Nat)} (hl:l.length<=8) (hi:isT (tk T m) 1 [105,109,112,111,114,116]=true) (hS:S=a1s (9 - l.length) T w m l) (p1:l.length=8->e1≠0) (p2:l.length≠8->e1=0) (q5:Ok e1 ((J1 T (m+1)).map fun x=>(x.1.t,x.2)) e5 (s5,n5))
 (p3:e5≠0->e6≠0) (p4:e5=0->s5=w\/s5∈l->e6≠0) (p5:e5=0->¬ (s5=w\/s5∈l)->e6=0) (q7:Ok e6 (pIs T n5 4 [59]) e7 n7):(e7=0->l.length < 8/\S=a1s (9 - (l++[s5]).length) T w n7 (l++[s5]))/\(e7≠0->S=none):=by
 obtain ⟨f,hf⟩:∃ f,9 - l.length=f+1:=⟨8 - l.length,om_⟩;have hf2:9 - (l++[s5]).length=f:=by simp;omega
 rw [hf,a1s,if_pos hi] at hS;rw [hf2];have d7:e5≠0->e7≠0:=fun h=>q7.2 (p3 h);by_cases h8:l.length=8
 ·rw [if_pos h8] at hS;exact ⟨fun h=>absurd h (d7 (q5.2 (p1 h8))),fun _=>hS⟩
 ·rw [if_neg h8] at hS;have he1:=p2 h8;subst he1
  rcases q5.zero with ⟨g5,hn⟩ | ⟨g5,hn⟩
  ·obtain ⟨x,hx,hg⟩:=O3.1 hn;injection hg with hg1 hg2
   rw [hx,n_6,hg1,hg2] at hS;by_cases hm:s5=w\/s5∈l
   ·rw [if_pos hm] at hS;exact ⟨fun h=>absurd h (q7.2 (p4 g5 hm)),fun _=>hS⟩
   ·rw [if_neg hm] at hS;have g6:=p5 g5 hm;subst g6
    rcases q7.zero with ⟨g7,hi7⟩ | ⟨g7,hi7⟩
    ·rw [hi7,n_6] at hS;exact ⟨fun _=>⟨om_,hS⟩,fun h=>absurd g7 h⟩
    ·rw [hi7] at hS;exact ⟨fun h=>absurd h g7,fun _=>hS⟩
  ·rw [b4a.1 hn] at hS;exact ⟨fun h=>absurd h (d7 g5),fun _=>hS⟩
theorem c33 {m:Nat} {ds:List De} {S:Option (List De × Nat)} {a:RD5} (hl:ds.length<=64) (hk:¬ (tk T m).k=5) (hS:S=R4 (65 - ds.length) T m ds) (q:Ok 0 (a0I T ds m) a.e (a.d,a.n)):(a.e=0->ds.length < 64/\S=R4 (65 - (ds++[a.d]).length) T a.n (ds++[a.d]))/\(a.e≠0->S=none):=by
 obtain ⟨f,hf⟩:∃ f,65 - ds.length=f+1:=⟨64 - ds.length,om_⟩;have hf2:65 - (ds++[a.d]).length=f:=by simp;omega
 rw [hf,R4,if_neg hk] at hS;rw [hf2]
 rcases q.zero with ⟨g,hd⟩ | ⟨g,hd⟩
 ·rw [hd,n_6] at hS;have:=b4c hd;exact ⟨fun _=>⟨om_,hS⟩,fun h=>absurd g h⟩
 ·rw [hd] at hS;exact ⟨fun h=>absurd h g,fun _=>hS⟩
structure RI5 where
 l:List Str
 m:Nat
 at_:Int
 e:Int
variable {l:List Str}
structure RJ5 where
 ds:List De
 m:Nat
 at_:Int
 e:Int
 ps:List Str
 b:List Ex
variable {b:List Ex} {ps:List Str} {m:Nat} {at_:Int}
theorem d2B {m2:Nat} {w:Str} {ds:List De} (q1:Ok 0 (pIs T 0 1 [112,97,99,107,97,103,101]) e1 n1) (q2:Ok e1 ((J1 T n1).map fun x=>(x.1.t,x.2)) e2 (w,n2)) (q3:Ok e2 (pIs T n2 4 [59]) e3 n3) (q4:Ok e3 (a1s 9 T w n3 []) e4 (l,m)) (q5:Ok e4 (R4 65 T m []) e5 (ds,m2)):Ok 0 (a1c T) e5 ⟨w,l,ds⟩:=by
 refine q1.bind (q2.bindM (fun p hp hg=>?_) fun h=>q5.2 (q4.2 (q3.2 h)));obtain ⟨t,m'⟩:=p;injection hg with hg1 hg2
 dsimp only at hg1 hg2 ⊢;subst hg1 hg2;exact q3.bind (q4.bind (q5.bind .some))
theorem c4g (s:Str) (hs:s.length<=1000000000):b8 CC 151 [(sv s)] [] fun r τ=>∃ x:c3N,a1e 0 τ r (.ret (c5K x))/\b5L s x:=by
 refine cO Tryz.func151 ?_;refine b5b ?_;refine K9 [.dead] rfl ?_;refine z_0 ?_;refine cD (x8 rfl a5h rfl p8 ?_);refine a4W ?_;refine z_2 ?_;refine dc rfl Tryz.call180 ⟨tt,tt⟩ (c5N s hs _) ?_;rintro ⟨T,nn,at_,e⟩ hP;dsimp only at hP ⊢;refine b4r ?_;refine cY Q1 ?_;refine b2R ?_;refine cC ?_ ?_ <;> intro h1
 ·have he:e≠0:=sp_ h1;have hl:a3B s=none:=by
   rcases hP with ⟨_,_,_,g⟩ | ⟨g,_⟩
   ·exact absurd g he
   ·exact g
  refine b3V ?_;refine a4Q ?_;refine cD (j6 rfl tt tt rfl c4 a2R p8 rfl rfl (nb rfl) ?_);refine cY Q1 ?_;refine z_7 ?_;exact ⟨_,j9 (rs:=[.cell 2 67,.tmp 3,.tmp 4]) (cs:=[_,_,_]) rfl d6M (n_2 rfl),⟨((⟨[],[],[]⟩:Src),at_,e),d1m,.inr ⟨by rw [P4,hl];rfl,rfl,he⟩⟩⟩
 ·have he:e=0:=sp_ h1;obtain ⟨hl,rfl,rfl⟩:a3B s=some T/\nn=true/\at_=0:=by
   rcases hP with ⟨g1,g2,g3,_⟩ | ⟨_,_,_,g⟩
   ·exact ⟨g1,g2,g3⟩
   ·exact absurd he g
  subst he;obtain ⟨hc,h0⟩:=b0U hl;have hT:=hc.len;have hW:=hc.w;have hsp:P4 s=a1c T:=by rw [P4,hl];rfl
  refine a1m ?_;refine cY (A9 #[(0,1),(1,1),(2,1),(3,1),(4,1),(5,1),(6,1)] rfl ⟨tt,tt⟩ b83 Tryz.zeroValue228 rfl ⟨_,rfl⟩ (fun w=>by kernel_rfl) rfl rfl) ?_;refine cD (a5v rfl tt c4 p8 ?_);refine z_1 ?_;refine K9 [p7 0 ([]:List Ex).length,.box [(sv ([])),.list (([]:List Str).map scv) (gnn ([]:List Str).length) none,.list (([]:List De).map De.cv) (gnn ([]:List De).length) none],rbx T 0 0 0 [] [] 0] rfl ?_;refine M7 (α:=Nat × Int × Int) (fun _=>[(2,.ptr 1 0),(6,.ptr 2 0)]) (fun a=>[p7 a.2.2 ([]:List Ex).length,.box [(sv ([])),.list (([]:List Str).map scv) (gnn ([]:List Str).length) none,.list (([]:List De).map De.cv) (gnn ([]:List De).length) none],rbx T a.1 a.2.1 a.2.2 [] [] 0]) (fun a=>Ok 0 (pIs T 0 1 [112,97,99,107,97,103,101]) a.2.2 a.1/\a.1 < T.length) ?_ ?_
  ·
   refine z_2 ?_;refine de rfl b0l o7 (Y1 hT h0 hW [112,97,99,107,97,103,101] (q:=2) (s:=0) ⟨rfl,rfl,de_⟩) rfl ?_;rintro ⟨v9,m9⟩ ⟨hv9,hs9,hf9,hm9⟩;dsimp only at hv9 hs9 hf9 hm9 ⊢;refine c5 [p7 0 ([]:List Ex).length,.box [(sv ([])),.list (([]:List Str).map scv) (gnn ([]:List Str).length) none,.list (([]:List De).map De.cv) (gnn ([]:List De).length) none],rbx T m9 0 0 [] [] 0] rfl ?_;refine S4 ?_;refine cC ?_ ?_ <;> intro h2
   ·have hw:v9=false:=sp_ h2;refine X0 ?_;refine ye rfl a7k ⟨tt,tt⟩ (Y9 hT hm9 (q:=2) (s:=0) ⟨rfl,rfl,de_⟩) rfl ?_;refine d3X ?_;rintro ⟨x0,y0⟩ hy0;dsimp only at hy0 ⊢;refine c5 [p7 y0 ([]:List Ex).length,.box [(sv ([])),.list (([]:List Str).map scv) (gnn ([]:List Str).length) none,.list (([]:List De).map De.cv) (gnn ([]:List De).length) none],rbx T m9 x0 y0 [] [] 0] rfl ?_;exact c9K
   ·have hw:v9=true:=sp_ h2;refine c9 ?_;exact ⟨(m9,0,0),⟨by dsimp only;rw [hs9 hw];exact b0G (hv9.symm.trans hw),hm9⟩,tu_,rfl⟩
  ·rintro ⟨n1,a1,e1⟩ E1 ⟨q1,y1⟩;dsimp only at q1 y1 ⊢;refine z_2 ?_;refine de rfl b7E ⟨tt,tt⟩ (a7G hT y1 hW (q:=2) (s:=0) ⟨rfl,rfl,de_⟩) rfl ?_;rintro ⟨w,n2,a2,e2⟩ ⟨q2,y2⟩;dsimp only at q2 y2 ⊢;refine c5 [p7 e2 ([]:List Ex).length,.box [(sv ([])),.list (([]:List Str).map scv) (gnn ([]:List Str).length) none,.list (([]:List De).map De.cv) (gnn ([]:List De).length) none],rbx T n2 a2 e2 [] [] 0] rfl ?_;refine cY c1H ?_;refine cD (j6 rfl tt tt rfl c4 t_0 (.inl rfl) rfl rfl (nb rfl) ?_);refine L7 ?_;refine de rfl a4G o7 (L8 hT y2 hW [59] (q:=2) (s:=0) ⟨rfl,rfl,de_⟩) rfl ?_;rintro ⟨n3,a3,e3⟩ ⟨q3,y3⟩;dsimp only at q3 y3 ⊢;refine c5 [p7 e3 ([]:List Ex).length,.box [(sv w),.list (([]:List Str).map scv) (gnn ([]:List Str).length) none,.list (([]:List De).map De.cv) (gnn ([]:List De).length) none],rbx T n3 a3 e3 [] [] 0] rfl ?_;refine z_9 ?_;refine F5 ?_;refine B2 hCC 3 rfl (α:=RI5) (fun _=>[(2,.ptr 1 0),(6,.ptr 2 0)]) (fun a=>[p7 a.e ([]:List Ex).length,.box [(sv w),.list (a.l.map scv) (gnn a.l.length) (G9 a.l.length 3),.list (([]:List De).map De.cv) (gnn ([]:List De).length) none],rbx T a.m a.at_ a.e [] [] 0,u0 a.l.length]) (fun a=>(a.e=0->e3=0/\a1s 9 T w n3 []=a1s (9 - a.l.length) T w a.m a.l/\a.l.length<=8)/\(a.e≠0->e3=0->a1s 9 T w n3 []=none)/\a.m < T.length/\a.l.length<=9) (fun a=>if a.e=0 then 10 - a.l.length else 0) ⟨⟨[],n3,a3,e3⟩,[0,1,2,9],⟨fun h=>⟨h,rfl,n_3 _⟩,fun h h'=>absurd h' h,y3,n_3 _⟩,⟨rfl,rfl⟩,ut_,⟨.inr ⟨_,rfl,.same rfl Z7⟩,.inr ⟨_,rfl,.box ⟨.old (.val _),.old a4p,.old (R6 _ [] _),tt⟩⟩,.inr ⟨_,rfl,.same rfl a91⟩,.inl rfl,tt⟩⟩ ?_;intro ⟨l,m,a5,e⟩ ⟨hI,hN,hm,hl9⟩;dsimp only at hI hN hm hl9 ⊢;refine a9Y ?_;refine a1h ?_;refine cG d8r ?_;refine cG c3s ?_;refine b4b ?_;refine cG d8r ?_;refine cG c6T ?_;refine cG b2t ?_;refine a4M ?_;refine cC ?_ ?_ <;> intro h3
   ·have hc3:e=0/\isT (tk T m) 1 [105,109,112,111,114,116]=true:=by simpa [isT,and_assoc] using h3
    obtain ⟨rfl,hi⟩:=hc3;obtain ⟨he3,hS,hl8⟩:=hI rfl;have hm1:=hW m hm (a7j hi de_);refine a21 ?_;refine M7 (α:=Int × Int) (fun _=>[(2,.ptr 1 0),(6,.ptr 2 0)]) (fun a=>[p7 a.2 ([]:List Ex).length,.box [(sv w),.list (l.map scv) (gnn l.length) (G9 l.length 3),.list (([]:List De).map De.cv) (gnn ([]:List De).length) none],rbx T m a.1 a.2 [] [] 0,u0 l.length]) (fun a=>(l.length=8->a.2≠0)/\(l.length≠8->a.2=0)) ?_ ?_
    ·
     refine z_0 ?_;refine a4l ?_;refine a8j ?_;refine cC ?_ ?_ <;> intro h4
     ·have h8:l.length=8:=sm_ h4;refine X0 ?_;refine ye rfl a7k ⟨tt,tt⟩ (Y9 hT hm (q:=2) (s:=0) ⟨rfl,rfl,de_⟩) rfl ?_;refine d3X ?_;rintro ⟨x0,y0⟩ hy0;dsimp only at hy0 ⊢;refine c5 [p7 y0 ([]:List Ex).length,.box [(sv w),.list (l.map scv) (gnn l.length) (G9 l.length 3),.list (([]:List De).map De.cv) (gnn ([]:List De).length) none],rbx T m x0 y0 [] [] 0,u0 l.length] rfl ?_;refine c8 ?_;exact ⟨(x0,y0),⟨fun _=>hy0,fun h=>absurd h8 h⟩,tu_,rfl⟩
     ·have h8:¬ l.length=8:=sm_ h4;refine c9 ?_;exact ⟨(a5,0),⟨fun h=>absurd h h8,fun _=>rfl⟩,tu_,rfl⟩
    ·rintro ⟨a6,e6⟩ E2 ⟨p1,p2⟩;dsimp only at p1 p2 ⊢;refine a4P ?_;refine b4K ?_;refine z_2 ?_;refine ye rfl a7k ⟨tt,tt⟩ (Y9 hT hm1 (q:=2) (s:=0) ⟨rfl,rfl,de_⟩) rfl ?_;refine cY a4z ?_;refine O0 ?_;refine de rfl b7E ⟨tt,tt⟩ (a7G hT hm1 hW (q:=2) (s:=0) ⟨rfl,rfl,de_⟩) rfl ?_;rintro ⟨s5,n5,a7,e7⟩ ⟨q5,y5⟩;dsimp only at q5 y5 ⊢;have hls:=U4 l s5;refine c5 [p7 e7 ([]:List Ex).length,.box [(sv w),.list (l.map scv) (gnn l.length) (G9 l.length 3),.list (([]:List De).map De.cv) (gnn ([]:List De).length) none],rbx T n5 a7 e7 [] [] 0,u0 l.length] rfl ?_;refine z_1 ?_;refine M7 (α:=Int × Int) (fun _=>[(2,.ptr 1 0),(6,.ptr 2 0),(8,(sv s5))]) (fun a=>[p7 a.2 ([]:List Ex).length,.box [(sv w),.list (l.map scv) (gnn l.length) (G9 l.length 3),.list (([]:List De).map De.cv) (gnn ([]:List De).length) none],rbx T n5 a.1 a.2 [] [] 0,u0 l.length]) (fun a=>(e7≠0->a.2≠0)/\(e7=0->s5=w\/s5∈l->a.2≠0)/\(e7=0->¬ (s5=w\/s5∈l)->a.2=0)) ?_ ?_
     ·
      refine a6K ?_;refine a1h ?_;refine cG c5S ?_;refine cG a2E ?_;refine cG b4t ?_;refine cG a9U ?_;refine U2 rfl rfl (fun h=>h) rfl rfl (fun hk hg=>j4 rfl tt rfl a8x rfl a2U de_) ?_;refine U2 rfl rfl (fun h=>h) rfl rfl (fun hk hg=>o5 rfl ⟨hk,hg⟩ rfl b51 rfl rfl) ?_;refine U2 rfl rfl (fun h=>h) rfl rfl (fun hk hg=>a4a rfl tt c4) ?_;refine U2 rfl rfl (fun h=>h) rfl rfl (fun hk hg=>j8 rfl b8x ⟨⟨hk,hg⟩,⟨hk,hg⟩,tt⟩ (a7x l (gnn l.length) s5 om_ _) rfl) ?_;refine cG (fun hg=>b4z rfl hg rfl (fun hp=>⟨hg,hp⟩) a1u) ?_;refine a4M ?_;refine cC ?_ ?_ <;> intro h5
      ·have hc5:e7=0/\(s5=w\/s5∈l):=sp_ h5;refine X0 ?_;refine de rfl b9c a7P (a2G _ _ de_ (q:=2) (s:=0) ⟨rfl,rfl,de_⟩) rfl ?_;rintro ⟨x0,y0⟩ hy0;dsimp only at hy0 ⊢;refine c5 [p7 y0 ([]:List Ex).length,.box [(sv w),.list (l.map scv) (gnn l.length) (G9 l.length 3),.list (([]:List De).map De.cv) (gnn ([]:List De).length) none],rbx T n5 x0 y0 [] [] 0,u0 l.length] rfl ?_;refine c8 ?_;exact ⟨(x0,y0),⟨fun _=>hy0,fun _ _=>hy0,fun _ h=>absurd hc5.2 h⟩,tu_,rfl⟩
      ·have hc5:¬ (e7=0/\(s5=w\/s5∈l)):=fun h=>by rcases h with ⟨h,h' | h'⟩ <;> simp [h,h'] at h5
       refine c9 ?_;exact ⟨(a7,e7),⟨id,fun h h'=>absurd ⟨h,h'⟩ hc5,fun h _=>h⟩,tu_,rfl⟩
     ·rintro ⟨a8,e8⟩ E3 ⟨p3,p4,p5⟩;dsimp only at p3 p4 p5 ⊢;refine z_2 ?_;refine de rfl a4G o7 (L8 hT y5 hW [59] (q:=2) (s:=0) ⟨rfl,rfl,de_⟩) rfl ?_;rintro ⟨n9,a9,e9⟩ ⟨q9,y9⟩;dsimp only at q9 y9 ⊢;have hst:=c6W hl8 hi hS p1 p2 q5 p3 p4 p5 q9;refine c5 [p7 e9 ([]:List Ex).length,.box [(sv w),.list (l.map scv) (gnn l.length) (G9 l.length 3),.list (([]:List De).map De.cv) (gnn ([]:List De).length) none],rbx T n9 a9 e9 [] [] 0,u0 l.length] rfl ?_;refine c8 (r3 ?_);refine a4l ?_;refine cY j1 ?_;refine cY (A2 [scv s5] rfl ⟨tt,tt⟩ t_1 t_0 t_3 rfl rfl rfl rfl rfl rfl rfl rfl rfl) ?_;refine cD (C5 rfl tt tt rfl si_ q_2 t_1 t_0 a3y t_3 rfl (.inr rfl) q_8 a36 E7 ((l++[s5]).map scv) (l++[s5]).length si_ si_ ?_);refine cY c2z ?_;refine d7Y ?_;exact ⟨⟨l++[s5],n9,a9,e9⟩,[0,1,2,4],⟨by
       dsimp only;rw [if_pos rfl]
       split <;> omega,fun h=>⟨he3,(hst.1 h).2,by have:=(hst.1 h).1;dsimp only;omega⟩,fun h _=>hst.2 h,y9,do_⟩,⟨rfl,rfl⟩,ut_,⟨.inr ⟨_,rfl,.same rfl Z7⟩,.inr ⟨_,rfl,.box ⟨.old (.val _),D2.grow (f:=scv) (fun _=>⟨.val _,tt⟩) rfl,.old (R6 _ [] _),tt⟩⟩,.inr ⟨_,rfl,.same rfl a91⟩,.inr ⟨_,rfl,.same rfl C3⟩,tt⟩⟩
   ·have hc3:e=0->isT (tk T m) 1 [105,109,112,111,114,116]=false:=fun h0=>by
     by_cases hi:isT (tk T m) 1 [105,109,112,111,114,116]=true
     ·have:=P0 hi;simp [h0,this.1,this.2] at h3
     ·simpa using hi
    have q4:Ok e3 (a1s 9 T w n3 []) e (l,m):=Ok.of (fun h=>by
     obtain ⟨g3,hS,hl8⟩:=hI h;obtain ⟨f,hf⟩:∃ f,9 - l.length=f+1:=⟨8 - l.length,om_⟩;exact ⟨g3,hS.trans (by rw [hf,a1s,if_neg (by rw [hc3 h];decide)])⟩) hN
    refine A4 ?_;refine a4A ?_;refine B2 hCC 4 rfl (α:=RJ5) (fun _=>[(2,.ptr 1 0),(6,.ptr 2 0)]) (fun a=>[.dead,.box [(sv w),.list (l.map scv) (gnn l.length) none,.list (a.ds.map De.cv) (gnn a.ds.length) (G9 a.ds.length 4)],rbx T a.m a.at_ a.e a.ps a.b 5,.dead,u0 a.ds.length,p7 a.e a.b.length]) (fun a=>(a.e=0->e=0/\R4 65 T m []=R4 (65 - a.ds.length) T a.m a.ds/\a.ds.length<=64)/\(a.e≠0->e=0->R4 65 T m []=none)/\a.m < T.length/\a.ds.length<=65) (fun a=>if a.e=0 then T.length - a.m+1 else 0) ⟨⟨[],m,a5,e,[],[]⟩,[0,1,2,3,9,10],⟨fun h=>⟨h,rfl,n_3 _⟩,fun h h'=>absurd h' h,hm,n_3 _⟩,⟨rfl,rfl⟩,ut_,⟨.inl rfl,.inr ⟨_,rfl,.box ⟨.old (.val _),Y4 (f:=scv) (fun _=>⟨.val _,tt⟩) _,.old (R6 _ [] _),tt⟩⟩,.inr ⟨_,rfl,.box ⟨.old a2A,.old (.val _),.old (.val _),.old (.val _),.old a0G,c46,.old a6R,tt⟩⟩,.inl rfl,.inl rfl,.inl (c8T _),tt⟩⟩ ?_;intro ⟨ds,m2,a6,e5,ps,b⟩ ⟨hI2,hN2,hm2,hds⟩;dsimp only at hI2 hN2 hm2 hds ⊢;refine a9Y ?_;refine a1h ?_;refine cG (fun hg=>j8 rfl a7k ⟨hg,tt⟩ (Y9 hT hm2 (q:=2) (s:=5) ⟨rfl,rfl,de_⟩) rfl) ?_;refine cG c3s ?_;refine a9A ?_;refine cC ?_ ?_ <;> intro h6
    ·have hc6:e5=0/\¬ (tk T m2).k=5:=sp_ h6;obtain ⟨rfl,hk⟩:=hc6;obtain ⟨he,hS,hd64⟩:=hI2 rfl;refine a21 ?_;refine cF [] [] [0,1,2,3,4,5,6,7,8] 4 [[0,1],[0,1],[],[],[]] trivial ?_;refine chf rfl c3r ?_;refine chf rfl c7z ?_;refine chf rfl W9 ?_;refine chf rfl (c7 rfl a75) ?_;refine F9 ?_;refine A6 rfl rfl rfl rfl (C1 rfl Tryz.call187 i7 (d1j hc w l ds hd64 hm2 (q:=2) (s:=5) ⟨rfl,rfl,de_⟩) rfl ?_);rintro ⟨d,m1,a7,e7,ps7,b7⟩ ⟨k7,y7,w7,z7⟩;dsimp only at k7 y7 w7 z7 ⊢;have hls:=U4 ds d;have hme:(if e7=0 then T.length - m1+1 else 0) < (if (0:Int)=0 then T.length - m2+1 else 0):=by
      rw [if_pos rfl]
      split
      ·rename_i h0;have:=z7 h0;omega
      ·omega
     have hst:=c33 (a:=⟨d,m1,a7,e7,ps7,b7⟩) hd64 hk hS k7;refine a1E [.dead,.box [(sv w),.list (l.map scv) (gnn l.length) none,.list (ds.map De.cv) (gnn ds.length) (G9 ds.length 4)],rbx T m1 a7 e7 ps7 b7 6,.dead,u0 ds.length,.dead,p7 e7 b7.length] rfl ?_;refine d6z ?_;refine A6 rfl rfl rfl rfl (C5 rfl tt tt rfl si_ q_2 b2w a68 Tryz.typeInfo119 b02 rfl (.inr rfl) q_8 (by have hb:Tryz.t119.bytes=72:=rfl;rw [hb];first|omega|(simp;done)|(simp;omega)) E7 ((ds++[d]).map De.cv) (ds++[d]).length si_ si_ ?_);refine ⟨tt,?_⟩;refine d6E ?_;refine a2C ?_;exact ⟨⟨ds++[d],m1,a7,e7,ps7,b7⟩,[0,1,2,3,7,6],⟨hme,fun h=>⟨he,(hst.1 h).2,by have:=(hst.1 h).1;dsimp only;omega⟩,fun h _=>hst.2 h,y7,do_⟩,⟨rfl,rfl⟩,ut_,⟨.inl rfl,.inr ⟨_,rfl,.box ⟨.old (.val _),.old a0G,D2.grow (f:=De.cv) (fun _=>⟨.val _,.val _,B3 _ _ _,N6 _ _ _,tt⟩) rfl,tt⟩⟩,.inr ⟨_,rfl,.box ⟨.old a2A,.old (.val _),.old (.val _),.old (.val _),.old a0G,a3r rfl,.old a6R,tt⟩⟩,.inl rfl,.inr ⟨_,rfl,.same rfl C3⟩,.inr ⟨_,rfl,.same rfl Z7⟩,tt⟩⟩
    ·have q5:Ok e (R4 65 T m []) e5 (ds,m2):=Ok.of (fun h=>by
      obtain ⟨g3,hS,hd64⟩:=hI2 h;have hk:(tk T m2).k=5:=by
       by_cases hk:(tk T m2).k=5
       ·exact hk
       ·simp [h,hk] at h6
      obtain ⟨f,hf⟩:∃ f,65 - ds.length=f+1:=⟨64 - ds.length,om_⟩;exact ⟨g3,hS.trans (by rw [hf,R4,if_pos hk])⟩) hN2
     have hfile:=(d2B q1 q2 q3 q4 q5).zero;refine A4 ?_;refine a9Y ?_;refine O1 ?_;refine cC ?_ ?_ <;> intro h7
     ·have he5:e5≠0:=sp_ h7;refine A5 ?_;refine cF [] [] [0,1,2,3,4,5,6,7,8,9,10,11] 9 [[1,2,3,4,5,6,7,8],[5,6,7,8],[]] trivial ?_;refine chf rfl d7k ?_;refine a6N ?_;refine chf rfl (c7 rfl b4X) ?_;refine chf rfl b1m ?_;refine a6N ?_;refine chf rfl (c7 rfl b7H) ?_;refine chf rfl c81 ?_;refine c1W ?_;refine ⟨⟨E8,a2k,(by exact c7 rfl b4X),b1k,E8,a2k,(by exact c7 rfl b7H),b3Z,tt⟩,?_⟩;refine D9 rfl rfl rfl c7r ⟨⟨E8,a2k,(by exact c7 rfl b7H),b3Z,tt⟩,?_⟩;refine b1R ?_;exact ⟨_,j9 (rs:=[.cell 2 67,.tmp 3,.tmp 4]) (cs:=[_,_,_]) rfl d6M (n_2 rfl),⟨((⟨[],[],[]⟩:Src),a6,e5),d1m,.inr ⟨by rw [hsp];exact (hfile.resolve_left fun h=>he5 h.1).2,rfl,he5⟩⟩⟩
     ·have he5:e5=0:=sp_ h7;refine a1d ?_;refine d5f ?_;refine a3P ?_;exact ⟨_,j9 (rs:=[.cell 2 67,.tmp 3,.tmp 4]) (cs:=[_,_,_]) rfl d6M (n_2 rfl),⟨(⟨w,l,ds⟩,0,0),(by exact .ret (.tups ⟨.aggs ⟨.old (.val _),.old a0G,.tok (C4 (f:=De.cv) (fun a=>(De.pure a).all) _),tt⟩,.old (.val _),.old (.val _),tt⟩)),.inl ⟨by rw [hsp];exact (hfile.resolve_right fun h=>h.1 he5).2,rfl,rfl⟩⟩⟩
theorem c57 (s:Str) (hs:s.length<=1000000000) (σ:List b9):b8 CC 151 [(sv s)] σ fun r τ=>∃ x:c3N,r = .ret (c5K x)/\τ=σ/\b5L s x :=
 F6 (res:=fun x=>.ret (c5K x)) hCC (fun c hc=>by simp at hc;subst hc;exact .val _) (c4g s hs) (fun x _=>B9 ⟨o3 x.1.pure,.val _,.val _,tt⟩) σ
def b0j (p b:Str):Option Src:=if a4v p=true then P4 b else none
def a7m (l:List Fi) (p:Str):Option Src:=(if B7 l=0 then B5 l p else none).bind (b0j p)
def B0 (l:List Fi):List (Str × Src):=l.filterMap fun f=>(b0j f.p f.b).map fun s=>(f.p,s)
theorem c1d {l:List Fi} {y:Fi} (h:l[i]? = some y):B0 (l.drop i)=(match b0j y.p y.b with | none=>[] | some s=>[(y.p,s)])++B0 (l.drop (i+1)):=by
 obtain ⟨hlt,rfl⟩:=n_1.1 h;rw [Q4 hlt];unfold B0;rw [List.filterMap_cons];cases b0j l[i].p l[i].b <;> rfl
abbrev a0x (P:List Str) (S:List Src):List CV:=[.list (P.map scv) (gnn P.length) none,.list (S.map Src.cv) (gnn S.length) none]
def b4T (l:List Fi):List Str:=if B7 l=0 then (B0 l).map Prod.fst else []
def b39 (l:List Fi):List Src:=if B7 l=0 then (B0 l).map Prod.snd else []
theorem a5W (l:List Src) (nn:Bool):r9 (.list (l.map Src.cv) nn none):=N5 (f:=Src.cv) (fun a=>(Src.pure a)) l nn
theorem b62 (n:Nat) (l:List Src) (nn:Bool):Old n (.list (l.map Src.cv) nn none):=(a5W l nn).old
theorem b8v (l:List Fi) (nn:Bool) (p:Str) (hl:l.length<=1000000) (hp:p.length<=1000000000) (hb:∀ q b,B5 l q=some b->b.length<=1000000000) (σ:List b9):b8 CC 99 [.agg (A8 l nn),(sv p)] σ fun r σ'=>r = .ret (.tup [.agg ((a7m l p).getD Src.z).cells,.val (.bool (a7m l p).isSome)])/\σ'=σ:=by
 refine b8.anyw hCC (by repeat' (first|exact .val _|exact G8 _ _|exact Src.pure _|exact tt | refine o3 ?_ | refine B9 ?_ | refine ⟨?_,?_⟩)) (by repeat' (first|exact .val _|exact G8 _ _|exact Src.pure _|exact tt | refine o3 ?_ | refine B9 ?_ | refine ⟨?_,?_⟩)) ?_ σ;refine D5 (cO Tryz.func99 ?_);refine a65 ?_;refine cD (x8 rfl a5h rfl p8 ?_);refine z_3 ?_;refine b04 ?_;refine cY j1 ?_;refine yc rfl c8c i7 (a8Q l nn p hl _) ?_;refine a1T ?_;refine a1z ?_;refine cY a6L ?_;refine a3q ?_;refine cG (fun hg=>j8 rfl Tryz.call24 ⟨hg,tt⟩ (b3m p hp _) rfl) ?_;refine b2P ?_;refine cC ?_ ?_ <;> intro h1
 ·have h0:a7m l p=none:=by
   unfold a7m b0j;cases hz:(if B7 l=0 then B5 l p else none) with
   | none=>rfl
   | some b =>
    rw [hz] at h1;simp at h1;simp [h1]
  refine z_0 ?_;refine d3F ?_;refine a9Q ?_;exact ⟨_,j9 (rs:=[.cell 4 67,.tmp 5]) (cs:=[_,_]) rfl d1e (n_2 rfl),_,_,rfl,rfl,(by rw [h0];exact .tups ⟨.old (o3 (Src.pure Src.z)).old,.old (.val _),tt⟩)⟩
 ·obtain ⟨b,hz,hs⟩:∃ b,(if B7 l=0 then B5 l p else none)=some b/\a4v p=true:=by
   cases hz:(if B7 l=0 then B5 l p else none) with
   | none=>rw [hz] at h1;simp at h1
   | some b=>rw [hz] at h1;simp at h1;exact ⟨b,rfl,h1⟩
  have h0:a7m l p=P4 b:=by rw [a7m,hz,n_6,b0j,if_pos hs]
  refine a1m ?_;refine cD (C1 rfl Tryz.call151 ⟨tt,tt⟩ (c57 _ (by
   cases hd:B5 l p with
   | none=>split <;> simp
   | some b=>have:=hb p b hd;split <;> simp <;> omega) _) rfl ?_)
  rintro ⟨x,at_,e⟩ hP;dsimp only at hP ⊢;rw [hz] at hP;have hx:((a7m l p).getD Src.z)=x/\(a7m l p).isSome=decide (e=0):=by
   rw [h0]
   rcases hP with ⟨g1,_,g3⟩ | ⟨g1,g2,g3⟩
   ·replace g1:P4 b=some x:=g1;rw [g1];exact ⟨rfl,(a2d g3).symm⟩
   ·replace g1:P4 b=none:=g1;rw [g1];exact ⟨g2.symm,(a1W g3).symm⟩
  refine b4r ?_;refine c7O ?_;refine b25 ?_;refine b3V ?_;refine cY j1 ?_;refine cY S7 ?_;refine cD (j6 rfl tt tt rfl c4 a2R p8 rfl rfl (nb rfl) ?_);refine z_7 ?_;exact ⟨_,j9 (rs:=[.cell 4 67,.tmp 5]) (cs:=[_,_]) rfl d1e (n_2 rfl),_,_,rfl,rfl,(by rw [hx.1,hx.2];exact .tups ⟨.old (o3 (Src.pure x)).old,.old (.val _),tt⟩)⟩
theorem c9C {l:List Fi} (h:B7 l=0):l.length<=64:=by
 unfold B7 at h;split at h
 ·cases h
 ·omega
theorem d0v (l:List Fi) (nn:Bool) (hl:l.length<=1000000) (hp:∀ f∈l,f.p.length<=1000000000) (hbl:∀ q b,B5 l q=some b->b.length<=1000000000) (hd:B7 l=0->∀ f∈l,B5 l f.p=some f.b):b8 CC 55 [.agg (A8 l nn)] [] fun r τ=>∃ _:Unit,a1e 0 τ r (.ret (.agg (a0x (b4T l) (b39 l))))/\True:=by
 refine cO Tryz.func55 ?_;refine a65 ?_;refine cD (x8 rfl c87 rfl p8 ?_);refine S5 ?_;refine cD (x8 rfl c87 rfl p8 ?_);refine T5 ?_;refine cY X3 ?_;refine yc rfl c3B ⟨tt,tt⟩ (a3Q l nn _) ?_;refine O1 ?_;refine cC ?_ ?_ <;> intro h1
 ·have h0:¬ B7 l=0:=sp_ h1;refine z_0 ?_;refine d5A ?_;refine a1n ?_;exact ⟨_,B6 rfl ⟨tt,_,_,_,rfl,rfl,.inr ⟨_,c60,b73,nb rfl,rfl⟩⟩,⟨(),by rw [b4T,b39,if_neg h0,if_neg h0];exact .ret (.old (o3 (cs:=[.list [] false none,.list [] false none]) ⟨C2 [] false,C2 [] false,tt⟩).old),tt⟩⟩
 ·have h0:B7 l=0:=sp_ h1;have h64:=c9C h0;refine a0E ?_;refine a3f ?_;refine B2 hCC 3 rfl (α:=Nat × List Str × List Src) (fun a=>[(1,.ptr 0 0),(2,.ptr 1 0),(3,.ptr 2 0),(13,(.list (l.map Fi.cv) nn none)),(14,iv l.length),(15,iv a.1)]) (fun a=>[.box (A8 l nn),.box [.list [] false none,.list [] false none],.box [.list (a.2.1.map scv) (gnn a.2.1.length) (G9 a.2.1.length 3),.list (a.2.2.map Src.cv) (gnn a.2.2.length) (G9 a.2.2.length 4)],u0 a.2.1.length,u0 a.2.2.length]) (fun a=>a.1<=l.length/\a.2.1.length<=a.1/\a.2.2.length<=a.1/\(B0 l).map Prod.fst=a.2.1++(B0 (l.drop a.1)).map Prod.fst/\(B0 l).map Prod.snd=a.2.2++(B0 (l.drop a.1)).map Prod.snd) (fun a=>l.length - a.1) ⟨(0,[],[]),[0,1,2,9,10],⟨n_3 _,n_4 _,n_4 _,rfl,rfl⟩,⟨rfl,rfl⟩,ut_,⟨.inr ⟨_,rfl,.box ⟨.old a4T,tt⟩⟩,.inr ⟨_,rfl,.box ⟨.old a4p,.old a4p,tt⟩⟩,.inr ⟨_,rfl,.box ⟨.old a4p,.old a4p,tt⟩⟩,.inl rfl,.inl rfl,tt⟩⟩ ?_;intro ⟨i,P,Q⟩ ⟨hi,hpl,hql,hr,hq⟩;dsimp only at hi hpl hql hr hq ⊢;refine C9 ?_;refine cC ?_ ?_ <;> intro h2
  ·have hlt:(i:Int) < l.length:=sp_ h2;obtain ⟨y,hb⟩:=gx_ l i;have hyd:=hd h0 y (n_0 hb);have hsy:a7m l y.p=b0j y.p y.b:=by rw [a7m,if_pos h0,hyd];rfl
   rw [c1d hb] at hr hq;refine d3I ?_;refine cY X3 ?_;refine a6n ?_;refine yc rfl Tryz.call99 i7 (b8v l nn y.p hl (hp y (n_0 hb)) hbl _) ?_;refine b1C ?_;refine c7O ?_;refine O0 ?_;refine c8 ?_;refine cC ?_ ?_ <;> intro h3
   ·obtain ⟨s,hs⟩:∃ s,b0j y.p y.b=some s:=b8w.1 (by rw [<- hsy];exact h3);have hsd:(a7m l y.p).getD Src.z=s:=by rw [hsy,hs];rfl
    rw [hs] at hr hq;replace hr:(B0 l).map Prod.fst=P++(y.p::(B0 (l.drop (i+1))).map Prod.fst):=hr;replace hq:(B0 l).map Prod.snd=Q++(s::(B0 (l.drop (i+1))).map Prod.snd):=hq;rw [<- hsd] at hq;refine cF [] [11] [0,1,2,3,4,6,7,8,9,5,11,10,12,13,14] 9 [[5,6,7,8],[5,6,7,8],[],[],[],[]] trivial ?_;refine chf rfl (c7 rfl a9x) ?_;refine chf rfl c51 ?_;refine b3C ?_;refine chf rfl d9K ?_;refine chf rfl c6R ?_;refine chf rfl (c7 rfl b40) ?_;refine chf rfl (c7 rfl a75) ?_;refine chf rfl (c7 rfl d9a) ?_;refine F9 ?_;refine A6 rfl rfl rfl rfl (C5 rfl tt tt rfl si_ q_2 t_1 t_0 a3y t_3 rfl (.inr rfl) q_8 a36 E7 ((P++[y.p]).map scv) (P++[y.p]).length si_ si_ ?_);refine ⟨⟨(by exact c7 rfl c2D),(by exact c7 rfl b40),(by exact c7 rfl a75),(by exact c7 rfl d9a),tt⟩,?_⟩;refine b1M rfl rfl (fun _=>c7 rfl a9x) ?_;refine A6 rfl rfl rfl rfl (C5 rfl tt tt rfl si_ q_2 b61 a2R Tryz.typeInfo67 a5h rfl (.inr rfl) q_8 (by have hb:Tryz.t67.bytes=64:=rfl;rw [hb];first|omega|(simp;done)|(simp;omega)) E7 ((Q++[(a7m l y.p).getD Src.z]).map Src.cv) (Q++[(a7m l y.p).getD Src.z]).length si_ si_ ?_);refine ⟨tt,?_⟩;refine A6 rfl rfl rfl rfl (j6 rfl tt tt rfl c4 a2U (.inl rfl) rfl rfl (nb rfl) ?_);refine ⟨tt,?_⟩;refine D9 rfl rfl rfl c6R ⟨tt,?_⟩;refine A6 rfl rfl rfl rfl (j6 rfl tt tt rfl c4 c6t (.inl rfl) rfl rfl (nb rfl) ?_);refine a2C ?_;refine b0I ?_;exact ⟨(i+1,P++[y.p],Q++[(a7m l y.p).getD Src.z]),[0,1,2,7,8],⟨do_,do_,by dsimp only;simp;omega,by dsimp only;simp;omega,by dsimp only;rw [hr,n_8];rfl,by dsimp only;rw [hq,n_8];rfl⟩,⟨rfl,rfl⟩,ut_,⟨.inr ⟨_,rfl,.box ⟨.old a4T,tt⟩⟩,.inr ⟨_,rfl,.box ⟨.old a4p,.old a4p,tt⟩⟩,.inr ⟨_,rfl,.box ⟨D2.grow (f:=scv) (fun _=>⟨.val _,tt⟩) rfl,D2.grow (f:=Src.cv) (fun _=>⟨.val _,B3 _ _ _,R6 _ _ _,tt⟩) rfl,tt⟩⟩,.inr ⟨_,rfl,.same rfl C3⟩,.inr ⟨_,rfl,.same rfl C3⟩,tt⟩⟩
   ·have hs:b0j y.p y.b=none:=by rw [<- hsy];simpa using h3
    rw [hs] at hr hq;rw [a7t] at hr hq;refine a2l ?_;exact ⟨(i+1,P,Q),[0,1,2,3,4],⟨do_,do_,do_,do_,hr,hq⟩,⟨rfl,rfl⟩,ut_,⟨.inr ⟨_,rfl,.box ⟨.old a4T,tt⟩⟩,.inr ⟨_,rfl,.box ⟨.old a4p,.old a4p,tt⟩⟩,.inr ⟨_,rfl,.box ⟨D2.grow (f:=scv) (fun _=>⟨.val _,tt⟩) rfl,D2.grow (f:=Src.cv) (fun _=>⟨.val _,B3 _ _ _,R6 _ _ _,tt⟩) rfl,tt⟩⟩,.inr ⟨_,rfl,.same rfl C3⟩,.inr ⟨_,rfl,.same rfl C3⟩,tt⟩⟩
  ·have hge:l.length<=i:=sm_ h2;rw [S8 hge] at hr hq;replace hr:(B0 l).map Prod.fst=P:=by rw [hr];exact a2q _
   replace hq:(B0 l).map Prod.snd=Q:=by rw [hq];exact a2q _
   refine U9 ?_;refine d5A ?_;refine a1n ?_;exact ⟨_,B6 rfl ⟨tt,_,_,_,rfl,rfl,.inr ⟨_,c60,b73,nb rfl,rfl⟩⟩,⟨(),by rw [b4T,b39,if_pos h0,if_pos h0,hr,hq];exact .ret (.aggs ⟨.tok (C4 (f:=scv) (fun _=>S9.all ⟨.val _,tt⟩) _),.tok (C4 (f:=Src.cv) (fun a=>(Src.pure a).all) _),tt⟩),tt⟩⟩
theorem d1W (l:List Fi) (nn:Bool) (hl:l.length<=1000000) (hp:∀ f∈l,f.p.length<=1000000000) (hbl:∀ q b,B5 l q=some b->b.length<=1000000000) (hd:B7 l=0->∀ f∈l,B5 l f.p=some f.b) (σ:List b9):b8 CC 55 [.agg (A8 l nn)] σ fun r τ=>r = .ret (.agg (a0x (b4T l) (b39 l)))/\τ=σ :=
 (F6 (α:=Unit) (res:=fun _=>.ret (.agg (a0x (b4T l) (b39 l)))) hCC (fun c h=>by simp at h;subst h;exact o3 ⟨G8 _ _,tt⟩) (d0v l nn hl hp hbl hd) (fun _ _=>o3 ⟨C2 _ _,a5W _ _,tt⟩) σ).mono fun _ _ ⟨_,h1,h2,_⟩=>⟨h1,h2⟩
inductive Tr where
 | n (k u o:Int) (nm:Str) (ch:List Tr)
variable {n:Nat}
mutual
def Tr.size:Tr->Nat
 | .n _ _ _ _ ch=>w8 ch+1
def w8:List Tr->Nat
 | []=>0
 | t::l=>t.size+w8 l
end
def o0:List Tr->Nat->List Int
 | [],_=>[]
 | t::l,s=>((s+t.size - 1:Nat):Int)::o0 l (s+t.size)
mutual
def Tr.flat:Tr->Nat->List Ex
 | .n k u o nm ch,s=>J2 ch s++[⟨k,u,o,nm,o0 ch s⟩]
def J2:List Tr->Nat->List Ex
 | [],_=>[]
 | t::l,s=>t.flat s++J2 l (s+t.size)
end
structure U8 (np:Nat) (k u o:Int) (nm:Str) (c:Nat):Prop where
 kind:1<=k/\k<=10
 num:k≠1->k≠2->k≠10->u=0
 op:k≠4->o=0
 name:k=1\/k=2\/k=4\/k=5\/k=10->nm=[]
 cnt:c=if k=4 then 2 else if k=5 then 3 else if k=6 then 1 else if k=3 then c else 0
 k1:k=1->-9007199254740992<=u/\u<=9007199254740992
 k2:k=2->0<=u/\u < np
 k3:k=3->C8 nm=true/\P5 nm=false
 k4:k=4->1<=o/\o<=7
 k678:k=6\/k=7\/k=8->H5 nm=true
 k9:k=9->C8 nm=true
 k10:k=10->0<=u/\u < 64
mutual
def Tr.wf (np:Nat):Nat->Tr->Prop
 | d,.n k u o nm ch=>d<=32/\U8 np k u o nm ch.length/\wfL np (if k=4 then d else d+1) ch
def wfL (np:Nat):Nat->List Tr->Prop
 | _,[]=>True
 | d,t::l=>t.wf np d/\wfL np d l
end
theorem Tr.size_pos (t:Tr):1<=t.size:=by cases t;rw [Tr.size];omega
mutual
theorem Tr.flat_len:∀ (t:Tr) (s:Nat),(t.flat s).length=t.size
 | .n k u o nm ch,s=>by rw [Tr.flat,Tr.size,n_5,P7 ch s];rfl
theorem P7:∀ (l:List Tr) (s:Nat),(J2 l s).length=w8 l
 | [],_=>rfl
 | t::l,s=>by rw [J2,w8,n_5,Tr.flat_len t s,P7 l _]
end
theorem b2o:∀ (l:List Tr) (t:Tr) (s:Nat),J2 (l++[t]) s=J2 l s++t.flat (s+w8 l)
 | [],t,s=>by simp [J2,w8]
 | x::l,t,s=>by rw [b4i,J2,J2,b2o l t,w8,n_8,b0k]
theorem a9v:∀ (l:List Tr) (t:Tr) (s:Nat),o0 (l++[t]) s=o0 l s++[((s+w8 l+t.size - 1:Nat):Int)]
 | [],t,s=>by simp [o0,w8]
 | x::l,t,s=>by rw [b4i,o0,o0,a9v l t,w8,b4i,b0k s]
theorem b7U {np d:Nat}:∀ {l:List Tr} {t:Tr},wfL np d l->t.wf np d->wfL np d (l++[t])
 | [],t,_,h=>by simp only [a7t,wfL];exact ⟨h,tt⟩
 | x::l,t,h,h2=>by
  rw [wfL] at h;rw [b4i,wfL];exact ⟨h.1,b7U h.2 h2⟩
mutual
theorem Tr.wf_mono {np:Nat}:∀ (t:Tr) {d e:Nat},e<=d->t.wf np d->t.wf np e
 | .n k u o nm ch,d,e,he,h=>by
  rw [Tr.wf] at h ⊢;refine ⟨om_,h.2.1,b8X ch (d:=if k=4 then d else d+1) ?_ h.2.2⟩
  split <;> omega
theorem b8X {np:Nat}:∀ (l:List Tr) {d e:Nat},e<=d->wfL np d l->wfL np e l
 | [],_,_,_,_=>by rw [wfL];trivial
 | t::l,d,e,he,h=>by
  rw [wfL] at h ⊢;exact ⟨Tr.wf_mono t he h.1,b8X l he h.2⟩
end
def Got (np d:Nat) (b:List Ex) (x:PX):Prop:=∃ t:Tr,x.2.2=b++t.flat b.length/\x.1+1=x.2.2.length/\t.wf np d
theorem a5J {ch:List Tr} {k u:Int} {args:List Int} {b2:List Ex} (h1:b1=b++J2 ch b.length) (h2:args=o0 ch b.length) (h3:V9 b1 ⟨k,u,o,nm,args⟩=some (i,b2)) (hd:d<=32) (hn:U8 np k u o nm ch.length) (hw:wfL np (if k=4 then d else d+1) ch) (m:Nat):Got np d b (i,m,b2):=by
 unfold V9 at h3;split at h3
 ·cases h3
 ·injection h3 with h3
  injection h3 with h3 h4
  subst h1 h2 h3 h4;refine ⟨.n k u o nm ch,by rw [Tr.flat,n_8],by simp;omega,?_⟩;rw [Tr.wf];exact ⟨hd,hn,hw⟩
def TG (T:List Tok):Prop:=∀ i,((tk T i).k=1->C8 (tk T i).t=true)/\0<=(tk T i).n/\(tk T i).n<=9007199254740992
theorem d3c {lv:Int} (h:¬ opS t lv=0):1<=opS t lv/\opS t lv<=7:=by
 unfold opS at h ⊢;cases hf:S0.find? (opM t lv) with
 | none=>rw [hf] at h;exact absurd rfl h
 | some y =>
  have h2:=b9v hf;simp only [b3w,a7R];revert h2;revert y;intro y _ hy;have:∀ y∈S0,1<=y.1/\y.1<=7:=by decide
  exact this y hy
theorem a27 {x:Ex} {y:PX} (h:K4 b x m=some y):V9 b x=some (y.1,y.2.2)/\y.2.1=m:=by
 unfold K4 at h;cases hp:V9 b x with
 | none=>rw [hp] at h;cases h
 | some w =>
  rw [hp,n_6] at h;injection h with h
  subst h;exact ⟨rfl,rfl⟩
theorem a1Y {k u:Int} {y:PX} (h:K4 b ⟨k,u,o,nm,[]⟩ m=some y) (hd:d<=32) (hn:U8 np k u o nm 0):Got np d b y:=by
 obtain ⟨h1,h2⟩:=a27 h;have:=a5J (np:=np) (d:=d) (b:=b) (ch:=[]) (args:=[]) (by rw [J2,a2q]) rfl h1 hd hn (by rw [wfL];trivial) y.2.1;exact this
theorem d1A {e:Nat} {x:PX} {k u:Int} {y:PX} (hx:Got np e b x) (h:K4 x.2.2 ⟨k,u,o,nm,[(x.1:Int)]⟩ m=some y) (hd:d<=32) (hn:U8 np k u o nm 1) (he:e=if k=4 then d else d+1):Got np d b y:=by
 obtain ⟨t,t1,t2,t3⟩:=hx;obtain ⟨h1,h2⟩:=a27 h;have hl:=t.flat_len b.length;rw [t1,n_5,hl] at t2;have:=a5J (np:=np) (d:=d) (b:=b) (ch:=[t]) (args:=[(x.1:Int)]) (by rw [t1,J2,J2,a2q]) (by rw [o0,o0];congr 1;omega) h1 hd hn (by rw [wfL,wfL,<- he];exact ⟨t3,tt⟩) y.2.1;exact this
theorem c6 {β:Type} {o:Option α} {f:α->Option β} {y:β} (h:o.bind f=some y):∃ x,o=some x/\f x=some y:=by
 cases o with
 | none=>cases h
 | some x=>exact ⟨x,rfl,h⟩
theorem a8m {x:Tok × Nat} (h:a0L T n=some x):H5 x.1.t=true:=by
 obtain ⟨y,_,h2⟩:=c6 h;split at h2
 ·rename_i hp;injection h2 with h2
  subst h2;exact hp
 ·cases h2
theorem a7c {k:Int} {x:Tok × Nat} (h:F8 T n k=some x):x.1=tk T n/\(tk T n).k=k:=by
 unfold F8 at h;split at h
 ·rename_i hk;injection h with h
  subst h;exact ⟨rfl,hk⟩
 ·cases h
theorem c4v (hF:∀ d n b x,F.ex d n b=some x->Got np d b x) (hT:TG T) {y:PX} (hd:d<=32) (h:W6 T F u d n b=some y):Got np d b y:=by
 unfold W6 at h;obtain ⟨n1,_,h⟩:=c6 h;split at h
 ·obtain ⟨s,h1,h⟩:=c6 h;obtain ⟨n2,_,h⟩:=c6 h;obtain ⟨x,h3,h⟩:=c6 h;obtain ⟨m,_,h⟩:=c6 h;exact d1A (hF _ _ _ _ h3) h hd ⟨de_,fun _ _ _=>rfl,fun _=>rfl,fun h=>absurd h de_,rfl,fun h=>absurd h de_,fun h=>absurd h de_,fun h=>absurd h de_,fun h=>absurd h de_,fun _=>a8m h1,fun h=>absurd h de_,fun h=>absurd h de_⟩ rfl
 ·split at h
  ·obtain ⟨s,h1,h⟩:=c6 h;obtain ⟨m,_,h⟩:=c6 h;exact a1Y h hd ⟨de_,fun _ _ _=>rfl,fun _=>rfl,fun h=>absurd h de_,rfl,fun h=>absurd h de_,fun h=>absurd h de_,fun h=>absurd h de_,fun h=>absurd h de_,fun _=>a8m h1,fun h=>absurd h de_,fun h=>absurd h de_⟩
  ·split at h
   ·obtain ⟨s,h1,h⟩:=c6 h;obtain ⟨m,_,h⟩:=c6 h;exact a1Y h hd ⟨de_,fun _ _ _=>rfl,fun _=>rfl,fun h=>absurd h de_,rfl,fun h=>absurd h de_,fun h=>absurd h de_,fun h=>absurd h de_,fun h=>absurd h de_,fun _=>a8m h1,fun h=>absurd h de_,fun h=>absurd h de_⟩
   ·split at h
    ·obtain ⟨s,h1,h⟩:=c6 h;split at h
     ·rename_i hnm;obtain ⟨m,_,h⟩:=c6 h;exact a1Y h hd ⟨de_,fun _ _ _=>rfl,fun _=>rfl,fun h=>absurd h de_,rfl,fun h=>absurd h de_,fun h=>absurd h de_,fun h=>absurd h de_,fun h=>absurd h de_,fun h=>absurd h de_,fun _=>hnm,fun h=>absurd h de_⟩
     ·cases h
    ·obtain ⟨s,h1,h⟩:=c6 h;split at h
     ·cases h
     ·rename_i hlt;obtain ⟨m,_,h⟩:=c6 h;have hk:=a7c h1;have hg:=(hT n1).2;rw [<- hk.1] at hg;exact a1Y h hd ⟨de_,fun _ _ h=>absurd rfl h,fun _=>rfl,fun _=>rfl,rfl,fun h=>absurd h de_,fun h=>absurd h de_,fun h=>absurd h de_,fun h=>absurd h de_,fun h=>absurd h de_,fun h=>absurd h de_,fun _=>⟨hg.1,om_⟩⟩
theorem c3e {T:List Tok} {ps:List Str} (hT:TG T):∀ f:Nat,
 (∀ d n b x,(z8 T ps f).ex d n b=some x->Got ps.length d b x) /\
 (∀ lv d n b x,d<=32->(z8 T ps f).bin lv d n b=some x->Got ps.length d b x) /\
 (∀ lv d n b x,d<=32->(z8 T ps f).fac d n b=some x->lv=0->Got ps.length d b x) /\
 (∀ lv d n b0 b (tx:Tr) (i:Nat) x,d<=32->b=b0++tx.flat b0.length->i+1=b.length->tx.wf ps.length d->(z8 T ps f).lp lv d i n b=some x->Got ps.length d b0 x) /\
 (∀ d n b0 b (ch:List Tr) acc y,d<=32->b=b0++J2 ch b0.length->acc=o0 ch b0.length->wfL ps.length (d+1) ch->(z8 T ps f).ag d n b acc=some y->∃ ch',y.2.2=b0++J2 ch' b0.length/\y.1=o0 ch' b0.length/\wfL ps.length (d+1) ch')
 | 0=>by
  refine ⟨fun d n b x h=>?_,fun lv d n b x _ h=>?_,fun lv d n b x _ h=>?_,fun lv d n b0 b tx i x _ _ _ _ h=>?_,fun d n b0 b ch acc y _ _ _ _ h=>?_⟩ <;> cases h
 | f+1=>by
  obtain ⟨hE,hB,hF,hL,hA⟩:=c3e hT f;refine ⟨fun d n b x h=>?_,fun lv d n b x hd h=>?_,fun lv d n b y hd h _=>?_,fun lv d n b0 b tx i x hd hb hi hw h=>?_,fun d n b0 b ch acc y hd hb ha hw h=>?_⟩
  ·change (G0 T ps (z8 T ps f)).ex d n b=some x at h;simp only [G0] at h;split at h
   ·cases h
   ·rename_i hd;split at h
    ·obtain ⟨x1,h1,h⟩:=c6 h;obtain ⟨n2,_,h⟩:=c6 h;obtain ⟨x2,h2,h⟩:=c6 h;obtain ⟨n3,_,h⟩:=c6 h;obtain ⟨x3,h3,h⟩:=c6 h;obtain ⟨t1,a1,a2,a3⟩:=hE _ _ _ _ h1;obtain ⟨t2,b1,b2,b3⟩:=hE _ _ _ _ h2;obtain ⟨t3,c1,c2,c3⟩:=hE _ _ _ _ h3;have l1:=t1.flat_len b.length;have e1:x1.2.2.length=b.length+t1.size:=by rw [a1,n_5,l1]
     have e2:x2.2.2.length=b.length+t1.size+t2.size:=by rw [b1,n_5,t2.flat_len,e1]
     have e3:x3.2.2.length=b.length+t1.size+t2.size+t3.size:=by rw [c1,n_5,t3.flat_len,e2]
     obtain ⟨g1,g2⟩:=a27 h;have:=a5J (np:=ps.length) (d:=d) (b:=b) (ch:=[t1,t2,t3]) (args:=[(x1.1:Int),(x2.1:Int),(x3.1:Int)]) (by rw [c1,b1,a1];simp only [J2,a2q,n_8,n_5,Tr.flat_len,b0k]) (by simp only [o0];congr 1;omega;congr 1;omega;congr 1;omega) g1 om_ ⟨de_,fun _ _ _=>rfl,fun _=>rfl,fun _=>rfl,rfl,fun h=>absurd h de_,fun h=>absurd h de_,fun h=>absurd h de_,fun h=>absurd h de_,fun h=>absurd h de_,fun h=>absurd h de_,fun h=>absurd h de_⟩ (by simp only [wfL];exact ⟨a3,b3,c3,tt⟩) x.2.1;exact this
    ·exact hB 1 d n b x om_ h
  ·change (G0 T ps (z8 T ps f)).bin lv d n b=some x at h;simp only [G0] at h;split at h
   ·exact hF 0 d n b x hd h rfl
   ·obtain ⟨x1,h1,h⟩:=c6 h;obtain ⟨t,a1,a2,a3⟩:=hB _ _ _ _ _ hd h1;exact hL lv d x1.2.1 b x1.2.2 t x1.1 x hd a1 a2 a3 h
  ·change (G0 T ps (z8 T ps f)).fac d n b=some y at h;simp only [G0] at h;have hg:=hT n;split at h
   ·exact a1Y h hd ⟨de_,fun h=>absurd rfl h,fun _=>rfl,fun _=>rfl,rfl,fun _=>⟨om_,hg.2.2⟩,fun h=>absurd h de_,fun h=>absurd h de_,fun h=>absurd h de_,fun h=>absurd h de_,fun h=>absurd h de_,fun h=>absurd h de_⟩
   ·split at h
    ·obtain ⟨s,h1,h⟩:=c6 h;have hk:=a7c h1;have hg:=(hT (n+1)).2;rw [<- hk.1] at hg;exact a1Y h hd ⟨de_,fun h=>absurd rfl h,fun _=>rfl,fun _=>rfl,rfl,fun _=>⟨om_,om_⟩,fun h=>absurd h de_,fun h=>absurd h de_,fun h=>absurd h de_,fun h=>absurd h de_,fun h=>absurd h de_,fun h=>absurd h de_⟩
    ·split at h
     ·obtain ⟨x1,h1,h⟩:=c6 h;obtain ⟨m,_,h⟩:=c6 h;injection h with h
      subst h;obtain ⟨t,a1,a2,a3⟩:=hE _ _ _ _ h1;exact ⟨t,a1,a2,t.wf_mono (Nat.le_succ d) a3⟩
     ·split at h
      ·cases h
      ·rename_i hk1;split at h
       ·exact c4v hE hT hd h
       ·split at h
        ·cases h
        ·rename_i hrs;split at h
         ·obtain ⟨a,h1,h⟩:=c6 h;unfold a2B at h1;obtain ⟨n1,_,h1⟩:=c6 h1;have hch:∃ ch',a.2.2=b++J2 ch' b.length/\a.1=o0 ch' b.length/\wfL ps.length (d+1) ch':=by
           split at h1
           ·injection h1 with h1
            subst h1;exact ⟨[],by simp [J2],rfl,by rw [wfL];trivial⟩
           ·exact hA d n1 b b [] [] a hd (by simp [J2]) rfl (by rw [wfL];trivial) h1
          obtain ⟨ch,c1,c2,c3⟩:=hch;obtain ⟨g1,g2⟩:=a27 h;have hnm:C8 (tk T n).t=true:=hg.1 (sp_ hk1);have:=a5J (np:=ps.length) (d:=d) (b:=b) (ch:=ch) c1 c2 g1 hd ⟨de_,fun _ _ _=>rfl,fun _=>rfl,fun h=>absurd h de_,rfl,fun h=>absurd h de_,fun h=>absurd h de_,fun _=>⟨hnm,sp_ hrs⟩,fun h=>absurd h de_,fun h=>absurd h de_,fun h=>absurd h de_,fun h=>absurd h de_⟩ c3 y.2.1;exact this
         ·split at h
          ·cases h
          ·rename_i hix;refine a1Y h hd ⟨de_,fun _ h=>absurd rfl h,fun _=>rfl,fun _=>rfl,rfl,fun h=>absurd h de_,fun _=>⟨om_,?_⟩,fun h=>absurd h de_,fun h=>absurd h de_,fun h=>absurd h de_,fun h=>absurd h de_,fun h=>absurd h de_⟩
           rcases a82 (tk T n).t ps 0 with ⟨_,g⟩ | ⟨_,_,g⟩
           ·omega
           ·simpa using g
  ·change (G0 T ps (z8 T ps f)).lp lv d i n b=some x at h;simp only [G0] at h;split at h
   ·injection h with h
    subst h;exact ⟨tx,hb,hi,hw⟩
   ·rename_i hop;obtain ⟨y,h1,h⟩:=c6 h;obtain ⟨w,h2,h⟩:=c6 h;obtain ⟨ty,a1,a2,a3⟩:=hB _ _ _ _ _ hd h1;have e0:b.length=b0.length+tx.size:=by rw [hb,n_5,tx.flat_len]
    have e1:y.2.2.length=b0.length+tx.size+ty.size:=by rw [a1,n_5,ty.flat_len,e0]
    have hnode:Got ps.length d b0 (w.1,y.2.1,w.2):=a5J (np:=ps.length) (d:=d) (b:=b0) (ch:=[tx,ty]) (args:=[(i:Int),(y.1:Int)]) (by rw [a1,hb];simp only [J2,a2q,n_8,n_5,Tr.flat_len]) (by simp only [o0];congr 1;omega;congr 1;omega) h2 hd ⟨de_,fun _ _ _=>rfl,fun h=>absurd rfl h,fun _=>rfl,rfl,fun h=>absurd h de_,fun h=>absurd h de_,fun h=>absurd h de_,fun _=>d3c hop,fun h=>absurd h de_,fun h=>absurd h de_,fun h=>absurd h de_⟩ (by simp only [wfL];exact ⟨hw,a3,tt⟩) y.2.1;split at h
    ·injection h with h
     subst h;exact hnode
    ·obtain ⟨t,c1,c2,c3⟩:=hnode;exact hL lv d y.2.1 b0 w.2 t w.1 x hd c1 c2 c3 h
  ·change (G0 T ps (z8 T ps f)).ag d n b acc=some y at h;simp only [G0] at h;obtain ⟨x1,h1,h⟩:=c6 h;obtain ⟨t,a1,a2,a3⟩:=hE _ _ _ _ h1;have e0:b.length=b0.length+w8 ch:=by rw [hb,n_5,P7]
   have e1:x1.2.2.length=b0.length+w8 ch+t.size:=by rw [a1,n_5,t.flat_len,e0]
   have c1:x1.2.2=b0++J2 (ch++[t]) b0.length:=by rw [a1,hb,b2o,n_8];simp only [n_5,P7]
   have c2:acc++[(x1.1:Int)]=o0 (ch++[t]) b0.length:=by rw [ha,a9v];congr 2;omega
   have c3:=b7U hw a3;split at h
   ·exact hA d _ b0 _ (ch++[t]) _ y hd c1 c2 c3 h
   ·obtain ⟨m,_,h⟩:=c6 h;injection h with h
    subst h;exact ⟨ch++[t],c1,c2,c3⟩
theorem a0X (s:Str) (hs:s.length<=1000000000000) (σ:List b9):b8 CC 280 [(sv s)] σ fun r σ'=>r = .ret (.val (.bool (C8 s && !P5 s)))/\σ'=σ:=by
 refine an_ Tryz.func280 ?_;refine U5 ?_;refine yc rfl c5P ⟨tt,tt⟩ (a1L s _) ?_;refine a3q ?_;refine cG (fun hg=>j8 rfl c8r ⟨hg,tt⟩ (a2S s _) rfl) ?_;refine cG a6C ?_;exact d4r
theorem U8.cnt0 {k u:Int} {c:Nat} (h:U8 np k u o nm c) (h3:k≠3) (h4:k≠4) (h5:k≠5) (h6:k≠6):c=0:=by
 have:=h.cnt;rw [if_neg h4,if_neg h5,if_neg h6,if_neg h3] at this;exact this
theorem b90 (x:Ex) (np:Nat) (h:U8 np x.k x.num x.op x.name x.args.length) (hnm:x.name.length<=1000000) (hal:x.args.length<=1000000) (σ:List b9):b8 CC 303 [.agg x.cells,iv np] σ fun r σ'=>r = .ret (.val (.bool true))/\σ'=σ:=by
 refine an_ Tryz.func303 ?_;refine a3J ?_;refine A5 ?_;refine cW 8 ?_;refine b67 ?_;refine hY a7Y ?_;refine b4h ?_;refine hY S7 ?_;refine hY Q1 ?_;refine b7N ?_;refine z_9 ?_;refine cW 8 ?_;refine b6z ?_;refine hY c53 ?_;refine b4h ?_;refine hY S7 ?_;refine hY Q1 ?_;refine b7N ?_;refine T5 ?_;refine a8S ?_;refine a2m ?_;refine cC ?_ ?_ <;> intro h1
 ·have u1:x.k=1:=sp_ h1;have e1:=h.op om_;have e2:=h.name (.inl u1);have e3:=h.cnt0 om_ om_ om_ om_;have e4:=h.k1 u1;refine b2e ?_;refine b1B ?_;refine b1B ?_;refine z_7 ?_;exact ⟨_,j2 rfl tt c4,_,_,rfl,rfl,j7 (by simp [e1,e2,e3];omega)⟩
 ·have u1:¬ x.k=1:=sp_ h1;refine D6 ?_;refine cC ?_ ?_ <;> intro h2
  ·have u2:x.k=2:=sp_ h2;have e1:=h.op om_;have e2:=h.name (.inr (.inl u2));have e3:=h.cnt0 om_ om_ om_ om_;have e4:=h.k2 u2;refine b2e ?_;refine b1B ?_;refine b0Y ?_;refine cG T7 ?_;refine cG b2Q ?_;refine a3j ?_;exact ⟨_,j2 rfl tt c4,_,_,rfl,rfl,j7 (by simp [e1,e2,e3];omega)⟩
  ·have u2:¬ x.k=2:=sp_ h2;refine D6 ?_;refine cC ?_ ?_ <;> intro h3
   ·have u3:x.k=3:=sp_ h3;have e1:=h.op om_;have e2:=h.num om_ om_ om_;have e4:=h.k3 u3;refine c7v ?_;refine cY a4t ?_;refine cY j1 ?_;refine cG c1D ?_;refine cG a2E ?_;refine cG (fun hg=>j8 rfl c38 ⟨hg,tt⟩ (a0X x.name om_ _) rfl) ?_;refine a3j ?_;exact ⟨_,j2 rfl tt c4,_,_,rfl,rfl,j7 (by simp [e1,e2,e4])⟩
   ·have u3:¬ x.k=3:=sp_ h3;refine D6 ?_;refine cC ?_ ?_ <;> intro h4
    ·have u4:x.k=4:=sp_ h4;have e1:=h.num om_ om_ om_;have e2:=h.name (.inr (.inr (.inl u4)));have e3:x.args.length=2:=by rw [h.cnt,if_pos u4]
     have e4:=h.k4 u4;refine b2e ?_;refine b1B ?_;refine b1B ?_;refine z_7 ?_;exact ⟨_,j2 rfl tt c4,_,_,rfl,rfl,j7 (by simp [e1,e2,e3];omega)⟩
    ·have u4:¬ x.k=4:=sp_ h4;refine D6 ?_;refine cC ?_ ?_ <;> intro h5
     ·have u5:x.k=5:=sp_ h5;have e1:=h.op om_;have e5:=h.num om_ om_ om_;have e2:=h.name (.inr (.inr (.inr (.inl u5))));have e3:x.args.length=3:=by rw [h.cnt,if_neg om_,if_pos u5]
      refine c7v ?_;refine c2T ?_;refine c6B ?_;refine z_7 ?_;exact ⟨_,j2 rfl tt c4,_,_,rfl,rfl,j7 (by simp [e1,e2,e3,e5])⟩
     ·have u5:¬ x.k=5:=sp_ h5;refine D6 ?_;refine cC ?_ ?_ <;> intro h6
      ·have u6:x.k=6:=sp_ h6;have e1:=h.op om_;have e2:=h.num om_ om_ om_;have e3:x.args.length=1:=by rw [h.cnt,if_neg om_,if_neg om_,if_pos u6]
       have e4:=h.k678 (.inl u6);refine b2e ?_;refine cY j1 ?_;refine cG c1D ?_;refine cG a2E ?_;exact d3p
      ·have u6:¬ x.k=6:=sp_ h6;refine K8 hCC (α:=Bool) (fun b=>[(2,.ptr 0 0),(5,iv x.args.length),(6,(.val (.bool (x.num == 0)))),(7,(.val (.bool (decide (x.name=[]))))),(8,(.val (.bool (x.op == 0)))),(22,iv x.k),(123,(.val (.bool b)))]) (fun _=>[.box x.cells]) (fun b=>b=(x.k == 7 || x.k == 8)) r5 uz_ ?_ ?_
       ·
        refine D6 ?_;refine cC ?_ ?_ <;> intro h7
        ·refine c9 ?_;exact ⟨(x.k == 7),_,(by simp_all),tu_,rfl⟩
        ·refine a1o ?_;exact ⟨(x.k == 8),_,(by simp_all),tu_,rfl⟩
       ·intro b hb;refine cC ?_ ?_ <;> intro h8
        ·have u8:x.k=7\/x.k=8:=by subst hb;simpa using h8
         have e1:=h.op om_;have e2:=h.num om_ om_ om_;have e3:=h.cnt0 om_ om_ om_ om_;have e4:=h.k678 (.inr u8);refine b2e ?_;refine cY j1 ?_;refine cG c1D ?_;refine cG a2E ?_;exact d3p
        ·have u8:¬ (x.k=7\/x.k=8):=by subst hb;simpa using h8
         refine D6 ?_;refine cC ?_ ?_ <;> intro h9
         ·have u9:x.k=9:=sp_ h9;have e1:=h.op om_;have e2:=h.num om_ om_ om_;have e3:=h.cnt0 om_ om_ om_ om_;have e4:=h.k9 u9;refine b2e ?_;refine cY j1 ?_;refine cG c1D ?_;refine cG a2E ?_;refine cG (fun hg=>j8 rfl c5P ⟨hg,tt⟩ (a1L x.name _) rfl) ?_;exact d4P
         ·have u9:¬ x.k=9:=sp_ h9;refine D6 ?_;refine cC ?_ ?_ <;> intro h10
          ·have u10:x.k=10:=sp_ h10;have e1:=h.op om_;have e2:=h.name (.inr (.inr (.inr (.inr u10))));have e3:=h.cnt0 om_ om_ om_ om_;have e4:=h.k10 u10;refine b2e ?_;refine b1B ?_;refine b1B ?_;refine z_7 ?_;exact ⟨_,j2 rfl tt c4,_,_,rfl,rfl,j7 (by simp [e1,e2,e3];omega)⟩
          ·have u10:¬ x.k=10:=sp_ h10;have:=h.kind;exfalso;omega
mutual
def Tr.sts:Tr->Nat->List Nat
 | .n _ _ _ _ ch,s=>b3i ch s++[s]
def b3i:List Tr->Nat->List Nat
 | [],_=>[]
 | t::l,s=>t.sts s++b3i l (s+t.size)
end
mutual
theorem Tr.sts_len:∀ (t:Tr) (s:Nat),(t.sts s).length=t.size
 | .n k u o nm ch,s=>by rw [Tr.sts,Tr.size,n_5,a3k ch s];rfl
theorem a3k:∀ (l:List Tr) (s:Nat),(b3i l s).length=w8 l
 | [],_=>rfl
 | t::l,s=>by rw [b3i,w8,n_5,Tr.sts_len t s,a3k l _]
end
theorem R0:∀ (l:List Tr) (s:Nat),(o0 l s).length=l.length
 | [],_=>rfl
 | t::l,s=>by rw [o0,n_7,n_7,R0 l]
theorem Tr.sts_last (t:Tr) (s:Nat):(t.sts s)[t.size - 1]? = some s:=by
 cases t with
 | n k u o nm ch =>
  rw [Tr.sts,Tr.size,c3t,a0y (by rw [a3k];exact n_4 _),a3k];simp
def ChS (S:List Nat):List Tr->Nat->Prop
 | [],_=>True
 | c::l,s=>S[s+c.size - 1]? = some s/\ChS S l (s+c.size)
structure d6J (E:List Ex) (S:List Nat) (np j:Nat) (x:Ex) (z:Nat) (ch:List Tr):Prop where
 e:E[j]? = some x
 s:S[j]? = some z
 args:x.args=o0 ch z
 size:z+w8 ch=j
 chs:ChS S ch z
 ok:U8 np x.k x.num x.op x.name x.args.length
variable {e:Int}
theorem c2p:∀ (l:List Tr) (s:Nat) (S0 S1:List Nat),S0.length=s->ChS (S0++b3i l s++S1) l s
 | [],_,_,_,_=>trivial
 | t::l,s,S0,S1,h=>by
  have hp:=t.size_pos;refine ⟨?_,?_⟩
  ·rw [b3i,n_8,n_8,a0y om_,h,show s+t.size - 1 - s=t.size - 1 by omega,M5 (by rw [t.sts_len];omega)];exact t.sts_last s
  ·have:=c2p l (s+t.size) (S0++t.sts s) S1 (by rw [n_5,t.sts_len,h]);rw [b3i,<- n_8 S0];exact this
mutual
theorem d1a {np:Nat}:∀ (t:Tr) {d:Nat} (s:Nat) (E0 E1:List Ex) (S0 S1:List Nat),E0.length=s->S0.length=s->t.wf np d->∀ j,s<=j->j < s+t.size->∃ x z ch,d6J (E0++t.flat s++E1) (S0++t.sts s++S1) np j x z ch
 | .n k u o nm ch,d,s,E0,E1,S0,S1,hE,hS,hw,j,h1,h2=>by
  rw [Tr.wf] at hw;rw [Tr.size] at h2;rw [Tr.flat,Tr.sts];by_cases hj:j < s+w8 ch
  ·have:=c2V ch s E0 (⟨k,u,o,nm,o0 ch s⟩::E1) S0 (s::S1) hE hS hw.2.2 j h1 hj;simpa [n_8] using this
  ·have hj:j=s+w8 ch:=by omega
   refine ⟨⟨k,u,o,nm,o0 ch s⟩,s,ch,?_,?_,rfl,om_,?_,by rw [R0];exact hw.2.1⟩
   ·rw [<- n_8,n_8,a0y (by rw [n_5,P7];omega),n_5,P7,hE,hj,b5J];rfl
   ·rw [<- n_8,n_8,a0y (by rw [n_5,a3k];omega),n_5,a3k,hS,hj,b5J];rfl
   ·have:=c2p ch s S0 (s::S1) hS;simpa [n_8] using this
theorem c2V {np:Nat}:∀ (l:List Tr) {d:Nat} (s:Nat) (E0 E1:List Ex) (S0 S1:List Nat),E0.length=s->S0.length=s->wfL np d l->∀ j,s<=j->j < s+w8 l->∃ x z ch,d6J (E0++J2 l s++E1) (S0++b3i l s++S1) np j x z ch
 | [],_,s,_,_,_,_,_,_,_,j,h1,h2=>by rw [w8] at h2;omega
 | t::l,d,s,E0,E1,S0,S1,hE,hS,hw,j,h1,h2=>by
  rw [wfL] at hw;rw [w8] at h2;rw [J2,b3i];by_cases hj:j < s+t.size
  ·have:=d1a t s E0 (J2 l (s+t.size)++E1) S0 (b3i l (s+t.size)++S1) hE hS hw.1 j h1 hj;simpa [n_8] using this
  ·have:=c2V l (s+t.size) (E0++t.flat s) E1 (S0++t.sts s) S1 (by rw [n_5,t.flat_len,hE]) (by rw [n_5,t.sts_len,hS]) hw.2 j om_ om_;simpa [n_8] using this
end
theorem b6a {t:Tr} (hw:t.wf np d) {j:Nat} (h:j < t.size):∃ x z ch,d6J (t.flat 0) (t.sts 0) np j x z ch:=by
 have:=d1a t 0 [] [] [] [] rfl rfl hw j (n_3 _) om_;simpa using this
theorem a32:∀ {l:List Tr} {m:Nat} {c:Tr},l[m]? = some c->w8 (l.take (m+1))=w8 (l.take m)+c.size
 | [],m,c,h=>by simp at h
 | x::l,0,c,h=>by simp at h;subst h;simp [w8]
 | x::l,m+1,c,h=>by
  have:=a32 (l:=l) (m:=m) (c:=c) (sp_ h);rw [b0c,b0c,w8,w8,this];omega
theorem L4:∀ {l:List Tr} {m s:Nat} {c:Tr},l[m]? = some c->(o0 l s)[m]? = some ((s+w8 (l.take m)+c.size - 1:Nat):Int)
 | [],m,s,c,h=>by simp at h
 | x::l,0,s,c,h=>by simp at h;subst h;simp [o0,w8]
 | x::l,m+1,s,c,h=>by
  rw [o0,c2S,L4 (l:=l) (m:=m) (c:=c) (sp_ h),b0c,w8,b0k s]
theorem c3y {S:List Nat}:∀ {l:List Tr} {m s:Nat} {c:Tr},ChS S l s->l[m]? = some c->S[s+w8 (l.take m)+c.size - 1]? = some (s+w8 (l.take m))
 | [],m,s,c,_,h=>by simp at h
 | x::l,0,s,c,h,hc=>by simp at hc;subst hc;simpa [w8] using h.1
 | x::l,m+1,s,c,h,hc=>by
  have:=c3y (l:=l) (m:=m) (c:=c) h.2 (sp_ hc);rw [b0c,w8,<- b0k s];exact this
def a3X (S:List Nat) (n i:Nat):List Int:=(S.take i).map (fun z:Nat=>(z:Int))++List.replicate (n - i) 0
theorem c8Q (hS:S.length=n) (hi:i<=n):(a3X S n i).length=n:=by
 unfold a3X;rw [n_5,a2O,a7Z,List.length_replicate];omega
theorem d2U {j:Nat} {v:Int} (hj:j < i) (hz:S[j]? = some z):((a3X S n i).set i v)[j]? = some (z:Int):=by
 rw [a2V om_];unfold a3X;have hl:=(n_1.1 hz).1;rw [M5 c3a,O9,a2o,if_pos hj,hz];rfl
theorem c22 {v:Int} (hS:S.length=n) (hi:i < n):((a3X S n i).set i v)[i]? = some v:=by
 rw [b3a (by rw [c8Q hS om_];exact hi)]
theorem c4G (hS:S.length=n) (hz:S[i]? = some z):(a3X S n i).set i (z:Int)=a3X S n (i+1):=by
 have hi:i < n:=by rw [<- hS];exact (n_1.1 hz).1
 unfold a3X;have e:n - i=(n - (i+1))+1:=by omega
 rw [e,List.replicate_succ,b3t _ _ c3a,a2O,a7Z,c4U om_,b5J,List.set_cons_zero,a4F,hz];simp
theorem c5l (hj:i < n) (hz:S[i]? = some z):(a3X S n n)[i]? = some (z:Int):=by
 unfold a3X;have hl:=(n_1.1 hz).1;rw [M5 c3a,O9,a2o,if_pos hj,hz];rfl
structure DeG (d:De):Prop where
 kind:d.k=1\/d.k=2\/d.k=3
 name:d.k≠3->C8 d.name=true/\P5 d.name=false
 path:d.k=3->H5 d.name=true
 pars:d.k≠1->d.params=[]
 par:∀ s∈d.params,C8 s=true/\P5 s=false
 parl:d.params.length<=8
 nod:d.params.Nodup
 tree:∃ t:Tr,d.body=t.flat 0/\t.wf d.params.length 1
 blen:d.body.length<=256
theorem B4 {s:Str} (h:C8 s=true):s.length<=24:=by
 unfold C8 at h;cases s with
 | nil=>cases h
 | cons b s =>
  simp only [a0i,a2t] at h;exact h.1.1
theorem L1 {s:Str} (h:H5 s=true):s.length<=80:=by
 unfold H5 at h;simp only [a0i,a2t] at h;exact h.1.1
theorem U8.len {k u:Int} {c:Nat} (h:U8 np k u o nm c):nm.length<=80:=by
 have hk:=h.kind;by_cases h3:k=3
 ·have:=B4 (h.k3 h3).1;omega
 ·by_cases h9:k=9
  ·have:=B4 (h.k9 h9);omega
  ·by_cases h6:k=6\/k=7\/k=8
   ·exact L1 (h.k678 h6)
   ·rw [h.name om_];simp
theorem a3x:∀ (l:List Tr),l.length<=w8 l
 | []=>n_4 _
 | t::l=>by have:=t.size_pos;have:=a3x l;rw [w8,n_7];omega
theorem a07:∀ (l:List Tr) (m:Nat),w8 (l.take m)<=w8 l
 | [],m=>by simp
 | t::l,0=>by simp [w8]
 | t::l,m+1=>by have:=a07 l m;rw [b0c,w8,w8];omega
theorem c70 (hS:S.length=n) (hi:i < n):(a3X S n i)[i]? = some 0:=by
 unfold a3X;rw [a0y c3a,a2O,a7Z,c4U om_,b5J,d1d,if_pos om_]
theorem De.old (x:De) (n:Nat):I8 n (.box x.cells):=o9 ⟨.val _,.val _,B3 _ _ _,N6 _ _ _,tt⟩
theorem Ex.old (x:Ex) (n:Nat):I8 n (.box x.cells):=o9 ⟨.val _,.val _,.val _,.val _,Q0 _ _ _,tt⟩
theorem b1l (n:Nat) (l:List Int):I8 n (.vec 1 (l.map icv)):=fun r hr c hc=>by
 obtain ⟨a,_,rfl⟩:=K5.1 hr;simp [icv] at hc;subst hc;exact .val _
theorem a8o (l:List Int) (i:Nat) (v:Int):(l.map icv).set i [iv v]=(l.set i v).map icv:=by rw [List.map_set];rfl
theorem b29 (d:De) (h:DeG d) (σ:List b9):b8 CC 281 [.agg d.cells] σ fun r σ'=>r = .ret (.val (.bool true))/\σ'=σ:=by
 refine an_ Tryz.func281 ?_;refine a3J ?_;refine K8 hCC (α:=Unit) (fun _=>[(1,.ptr 0 0)]) (fun _=>[.box d.cells]) (fun _=>True) r5 uz_ ?_ ?_
 ·
  refine z_0 ?_;refine a4k ?_;refine a4B ?_;refine a6T ?_;refine cC ?_ ?_ <;> intro h1
  ·have u1:d.k=1:=sp_ h1;have hnm:=h.name om_;refine c9 ?_;refine cC ?_ ?_ <;> intro h2
   ·refine z_0 ?_;refine a6M ?_;refine ye rfl c38 ⟨tt,tt⟩ (a0X d.name b3Y _) rfl ?_;refine S4 ?_;refine cC ?_ ?_ <;> intro h3
    ·exfalso;simp [hnm] at h3
    ·exact c6g
   ·exfalso;simp [u1] at h2
  ·have u1:¬ d.k=1:=sp_ h1;refine a1o ?_;refine cC ?_ ?_ <;> intro h4
   ·have u4:d.k=2:=sp_ h4;have hnm:=h.name om_;refine z_0 ?_;refine a6M ?_;refine ye rfl c38 ⟨tt,tt⟩ (a0X d.name b3Y _) rfl ?_;refine S4 ?_;refine cC ?_ ?_ <;> intro h5
    ·exfalso;simp [hnm] at h5
    ·exact c6g
   ·have u4:¬ d.k=2:=sp_ h4;refine D6 ?_;refine cC ?_ ?_ <;> intro h6
    ·have u6:d.k=3:=sp_ h6;have hnm:=h.path u6;refine z_0 ?_;refine a6M ?_;refine ye rfl c4K ⟨tt,tt⟩ (a1I d.name (by have:=L1 hnm;omega) _) rfl ?_;refine S4 ?_;refine cC ?_ ?_ <;> intro h7
     ·exfalso;simp [hnm] at h7
     ·exact c6g
    ·exfalso;have:=h.kind;simp at h6;omega
 ·intro _ _;refine a0Y ?_;refine a6p ?_;refine a1i ?_;refine j5 hCC (α:=Nat) (fun i=>[(1,.ptr 0 0),(25,(.list (d.params.map scv) (gnn d.params.length) none)),(26,iv d.params.length),(27,iv i)]) (fun _=>[.box d.cells]) (fun i=>i<=d.params.length) (fun i=>d.params.length - i) 0 (n_3 _) tu_ (extra0:=[]) rfl r5 uz_ ?_;intro i hi;have hpl:=h.parl;refine C9 ?_;refine cC ?_ ?_ <;> intro h8
  ·have hlt:(i:Int) < d.params.length:=sp_ h8;obtain ⟨y,hb⟩:=gx_ d.params i;have hnm:=h.par y (n_0 hb);have hk1:d.k=1:=by
    rcases Classical.em (d.k=1) with e | e
    ·exact e
    ·have:=h.pars e;rw [this] at hb;simp at hb
   refine a6S ?_;refine z_1 ?_;refine z_0 ?_;refine a4k ?_;refine a1h ?_;refine cG (fun hg=>j8 rfl c38 ⟨hg,tt⟩ (a0X y b3Y _) rfl) ?_;refine b2P ?_;refine cC ?_ ?_ <;> intro h9
   ·exfalso;simp [hnm,hk1] at h9
   ·exact a69
  ·obtain ⟨t,hbody,hwf⟩:=h.tree;have hbl:d.body.length=t.size:=by rw [hbody,t.flat_len]
   have hsl:(t.sts 0).length=d.body.length:=by rw [t.sts_len,hbl]
   have hb256:=h.blen;have htp:=t.size_pos;refine U9 ?_;refine b07 ?_;refine cD (b9U rfl tt tt rfl rfl (n:=d.body.length) (c:=d.body.length) rfl rfl t_4 t_2 b95 t_6 rfl (a6a rfl) rfl om_ om_ (by have hb:Tryz.t3.bytes=8:=rfl;rw [hb];omega) ?_);refine z_1 ?_;refine K9 [.box d.cells,.vec 1 ((a3X (t.sts 0) d.body.length 0).map icv)] (by unfold a3X;simp [List.map_replicate];exact .inr rfl) ?_;refine a0Y ?_;refine b07 ?_;refine Z0 ?_;refine j5 hCC (α:=Nat) (fun i=>[(1,.ptr 0 0),(5,.vec 1 0 d.body.length),(45,(.list (d.body.map Ex.cv) (gnn d.body.length) none)),(46,iv d.body.length),(47,iv i)]) (fun i=>[.box d.cells,.vec 1 ((a3X (t.sts 0) d.body.length i).map icv)]) (fun i=>i<=d.body.length) (fun i=>d.body.length - i) 0 (n_3 _) tu_ (extra0:=[]) rfl r5 uz_ ?_;intro i hi;refine C9 ?_;refine cC ?_ ?_ <;> intro h10
   ·have hlt:(i:Int) < d.body.length:=sp_ h10;obtain ⟨x,z,ch,hnd⟩:=b6a hwf (j:=i) om_;have hal:x.args.length=ch.length:=by rw [hnd.args,R0]
    have hcl:=a3x ch;have hsz:=hnd.size;have hzi:z+w8 (ch.take ch.length)=i:=by rw [a7O];exact hsz
    refine X9 ?_;refine cY (r8 rfl tt tt rfl rfl b22 a80 om_ (j3 (by rw [hbody];exact hnd.e)) rfl) ?_;refine c3j ?_;refine c2G ?_;refine T5 ?_;refine cY a5B ?_;refine a6p ?_;refine cY a0K ?_;refine ye rfl Tryz.call303 i7 (b90 x d.params.length hnd.ok (by have:=hnd.ok.len;omega) om_ _) rfl ?_;refine S4 ?_;refine cC ?_ ?_ <;> intro h11
    ·exfalso;simp at h11
    ·have hcur:=c70 (S:=t.sts 0) (i:=i) hsl om_;refine a6J ?_;refine cY a4j ?_;refine cD (O7 (((a3X (t.sts 0) d.body.length i).set i ((z+w8 (ch.take ch.length):Nat):Int)).map icv) rfl tt tt rfl c4 t_2 (.inl rfl) rfl (by simpa using j3 (f:=icv) hcur) rfl (nb rfl) (by rw [hzi];simp only [n_9,a2p];exact a8o _ _ _) rfl ?_);refine S5 ?_;refine a6y ?_;refine a7z ?_;refine F5 ?_;refine j5 hCC (α:=Nat) (fun m=>[(1,.ptr 0 0),(5,.vec 1 0 d.body.length),(6,iv i),(7,.ptr 2 0),(8,(iv ((m:Int) - 1))),(45,(.list (d.body.map Ex.cv) (gnn d.body.length) none)),(46,iv d.body.length),(47,iv i)]) (fun m=>[.box d.cells,.vec 1 (((a3X (t.sts 0) d.body.length i).set i ((z+w8 (ch.take m):Nat):Int)).map icv),.box x.cells]) (fun m=>m<=ch.length) (fun m=>m) ch.length (n_4 _) ⟨m0,m0,m0,m0,⟨tt,(congrArg (fun z:Nat=>(iv ((z:Int) - 1))) hal)⟩,m0,m0,m0,tt⟩ (extra0:=[]) rfl r5 uz_ ?_;intro m hm;refine a2Q ?_;refine cC ?_ ?_ <;> intro h12
     ·have hmp:(0:Int)<=(m:Int) - 1:=sp_ h12;obtain ⟨m,rfl⟩:∃ m',m=m'+1:=⟨m - 1,om_⟩;obtain ⟨c,hc⟩:=gx_ ch m;have hst:=a32 hc;have hcp:=c.size_pos;have hle:=a07 ch (m+1);refine a4O ?_;refine A5 (A5 ?_);refine cW 19 ?_;refine b67 ?_;refine hY j1 ?_;refine hY d9F ?_;refine b8G ?_;refine hY a4j ?_;refine hY (M9 rfl tt rfl a2Y rfl (by simpa using j3 (f:=icv) (c22 hsl om_)) rfl) ?_;refine hY a24 ?_;refine hY a5P ?_;refine hY j1 ?_;refine T3 rfl rfl tt rfl (fun hg=>j4 rfl tt rfl a7l rfl b6R de_) ?_;refine T3 rfl rfl tt rfl (fun hg=>o5 rfl hg rfl b8S rfl rfl) ?_;refine T3 rfl rfl tt rfl T7 ?_;refine T3 rfl rfl tt rfl (fun hg=>r8 rfl hg hg rfl rfl t_4 t_2 b2f (j3 (by rw [show (((m+1:Nat):Int) - 1).toNat=m by omega,hnd.args];exact L4 hc)) rfl) ?_;refine T3 rfl rfl tt rfl (fun hg=>T0 rfl hg rfl a2Y rfl) ?_;refine c90 ?_;refine a4L ?_;refine cC ?_ ?_ <;> intro h13
      ·exfalso;simp at h13;omega
      ·refine a9p ?_;refine cY j1 ?_;refine a9z ?_;refine cY j1 ?_;refine cY d9F ?_;refine cY a1a ?_;refine cY a4j ?_;refine cY (M9 rfl tt rfl a2Y rfl (by simpa using j3 (f:=icv) (d2U (n:=d.body.length) (i:=i) (v:=((z+w8 (ch.take (m+1)):Nat):Int)) om_ (c3y hnd.chs hc))) rfl) ?_;refine cY a4j ?_;refine cD (O7 (((a3X (t.sts 0) d.body.length i).set i ((z+w8 (ch.take m):Nat):Int)).map icv) rfl tt tt rfl c4 t_2 (.inl rfl) rfl (by simpa using j3 (f:=icv) (c22 hsl om_)) rfl (nb rfl) (by simp only [n_9,a2p];refine (a8o _ _ _).trans ?_;rw [List.set_set,Int.natCast_add]) rfl ?_);refine b1y ?_;refine a7z ?_;exact ⟨m,_,⟨om_,om_⟩,⟨m0,m0,m0,m0,⟨tt,(congrArg (fun z:Int=>(iv z)) om_)⟩,m0,m0,m0,tt⟩,rfl⟩
     ·have hm0:m=0:=sm_ h12;subst hm0;refine K9 [.box d.cells,.vec 1 ((a3X (t.sts 0) d.body.length (i+1)).map icv),.box x.cells] (by rw [<- c4G hsl hnd.s];rfl) ?_;exact c8K
   ·have hin:i=d.body.length:=sm_ h10;have hroot:(t.sts 0)[d.body.length - 1]? = some 0:=by rw [hbl];exact t.sts_last 0
    refine U9 ?_;refine b07 ?_;refine a1h ?_;refine cG b7A ?_;refine b9B ?_;refine cG d1N ?_;refine cG (fun hg=>Z4 rfl hg hg rfl rfl t_4 t_2 rfl b2f b2f) ?_;refine cG (fun hg=>M9 rfl hg rfl a2Y rfl (by rw [hin,show 0+((d.body.length:Int) - 1).toNat=d.body.length - 1 by omega];exact j3 (f:=icv) (c5l om_ hroot)) rfl) ?_;refine a88 ?_;refine z_7 ?_;exact ⟨_,j2 rfl tt c4,_,_,rfl,rfl,j7 Q9⟩
structure a3z (x:Src):Prop where
 pkg:C8 x.pkg=true/\P5 x.pkg=false
 imp:∀ s∈x.imports,C8 s=true/\P5 s=false
 impl:x.imports.length<=8
 impn:x.imports.Nodup
 impp:x.pkg∉x.imports
 dec:∀ d∈x.decls,DeG d
 decl:x.decls.length<=64
 decn:(x.decls.map fun d=>(d.k,d.name)).Nodup
structure Sn where
 k:Int
 s:Str
deriving DecidableEq
variable {s:Str} {k:Int}
abbrev Sn.cells (x:Sn):List CV:=[iv x.k,sv x.s]
def Sn.cv (x:Sn):List CV:=x.cells
theorem b6l (l:List Sn) (nn:Bool):r9 (.list (l.map Sn.cv) nn none):=N5 (f:=Sn.cv) (fun _=>⟨.val _,.val _,tt⟩) l nn
theorem c2o (n:Nat) (l:List Sn) (nn:Bool):Old n (.list (l.map Sn.cv) nn none):=(b6l l nn).old
theorem e0i (x y:Sn):∀ w,(Op.equal 305 (.agg [.int .i64 x.k,.string (str x.s)].toArray) (.agg [.int .i64 y.k,.string (str y.s)].toArray)).run CC.P w = .ok (decide (x=y)) w:=fun w=>by
 show (Op.equal _ _ _).run Tryz.prog w=_;simp [Op.equal,Op.maxDepth,go_sem,a0U];obtain ⟨a,b⟩:=x;obtain ⟨a',b'⟩:=y;by_cases h1:a=a' <;> by_cases h2:b=b' <;> simp [h1,h2]
theorem a2a {l:List α} (h:l.Nodup) (hy:l[i]? = some y):y∉l.take i:=fun hm=>by
 obtain ⟨j,hj⟩:=L3.1 hm;rw [a2o] at hj;split at hj
 ·rename_i hlt;obtain ⟨h1,e1⟩:=n_1.1 hy;obtain ⟨h2,e2⟩:=n_1.1 hj;exact (List.pairwise_iff_getElem.1 h) j i h2 h1 hlt (e2.trans e1.symm)
 ·cases hj
def ixG {α:Type} [DecidableEq α]:List α->α->Nat->Int
 | [],_,_=>-1
 | y::l,x,i=>if x=y then i else ixG l x (i+1)
theorem c6q [DecidableEq α] {l:List α} (h:l[i]? = some y) (x:α):ixG (l.drop i) x i=if x=y then (i:Int) else ixG (l.drop (i+1)) x (i+1):=by
 obtain ⟨hlt,he⟩:=n_1.1 h;rw [Q4 hlt,he];rfl
theorem c2O {α:Type} [DecidableEq α] {x:α}:∀ {l:List α} {i:Nat},0<=ixG l x i↔x∈l
 | [],i=>by simp [ixG]
 | y::l,i=>by
  rw [ixG];by_cases h:x=y
  ·subst h;simp
  ·rw [if_neg h,c2O (l:=l) (i:=i+1)];simp [h]
theorem a7y (l:List Str) (nn:Bool) (i:Nat) (x:Str) (hl:l.length<=1000000000) (σ:List b9):b8 CC 160 [.list (((l.map scv).take i).drop 0) nn none,sv x] σ fun r σ'=>r = .ret (.val (.bool (decide (x∈l.take i))))/\σ'=σ:=by
 have:=a0d (l.take i) nn x a5U σ;rw [a8G,<- b3x];exact this
theorem a9R (l:List Str) (nn:Bool) (hl:l.length<=1000000) (hn:l.Nodup) (σ:List b9):b8 CC 282 [(.list (l.map scv) nn none)] σ fun r σ'=>r = .ret (.val (.bool false))/\σ'=σ:=by
 refine an_ Tryz.func282 ?_;refine Q7 ?_;refine a1i ?_;refine j5 hCC (α:=Nat) (fun i=>[(0,(.list (l.map scv) nn none)),(5,(.list (l.map scv) nn none)),(6,iv l.length),(7,iv i)]) (fun _=>[]) (fun i=>i<=l.length) (fun i=>l.length - i) 0 (n_3 _) tu_ (extra0:=[]) rfl r5 uz_ ?_;intro i hi;refine C9 ?_;refine cC ?_ ?_ <;> intro h1
 ·have hlt:(i:Int) < l.length:=sp_ h1;obtain ⟨y,hb⟩:=gx_ l i;refine X9 ?_;refine b1K ?_;refine b25 ?_;refine z_5 ?_;refine cY (a3R (h:=i) rfl tt rfl t_1 t_0 b2v rfl a94 a9q b4W) ?_;refine cY j1 ?_;refine ye rfl c7d i7 (a7y l _ i y om_ _) rfl ?_;refine c8 ?_;refine cC ?_ ?_ <;> intro h2
  ·exfalso;exact a2a hn hb (sp_ h2)
  ·exact a69
 ·exact c18
theorem c0A (l:List Sn) (nn:Bool) (x:Sn) (hl:l.length<=1000000) (σ:List b9):b8 CC 320 [(.list (l.map Sn.cv) nn none),.agg x.cells] σ fun r σ'=>r = .ret (iv (ixG l x 0))/\σ'=σ:=by
 refine an_ Tryz.func320 ?_;refine a3J ?_;refine a1z ?_;refine cY (a0j rfl tt rfl b98 b1s rfl) ?_;refine Z0 ?_;refine j5 hCC (α:=Nat) (fun i=>[(0,(.list (l.map Sn.cv) nn none)),(3,.ptr 0 0),(7,iv l.length),(8,iv i)]) (fun _=>[.box x.cells]) (fun i=>i<=l.length/\ixG l x 0=ixG (l.drop i) x i) (fun i=>l.length - i) 0 ⟨n_3 _,rfl⟩ tu_ (extra0:=[]) rfl r5 uz_ ?_;intro i ⟨hi,hr⟩;refine C9 ?_;refine cC ?_ ?_ <;> intro h1
 ·have hlt:(i:Int) < l.length:=sp_ h1;obtain ⟨y,hb⟩:=gx_ l i;rw [c6q hb] at hr;refine X9 ?_;refine b2i ?_;refine cW 6 ?_;refine hY c7Z ?_;refine a8w ?_;refine hY (r8 rfl tt tt rfl rfl b98 b5o om_ (j3 hb) rfl) ?_;refine hY (a0m rfl tt rfl c80 b5o (nb rfl)) ?_;refine hY (d9J rfl tt tt (xs:=[.int .i64 x.k,.string (str x.s)]) (ys:=[.int .i64 y.k,.string (str y.s)]) rfl rfl Tryz.eqGuardType305 (e0i x y)) ?_;refine a4L ?_;refine cC ?_ ?_ <;> intro h2
  ·have u2:x=y:=sp_ h2;rw [if_pos u2] at hr;exact d5c
  ·have u2:¬ x=y:=sp_ h2;rw [if_neg u2] at hr;exact a89
 ·have hge:l.length<=i:=sm_ h1;rw [S8 hge] at hr;refine A4 ?_;exact b6e
theorem b2X (l:List Sn) (nn:Bool) (x:Sn) (hl:l.length<=1000000) (σ:List b9):b8 CC 304 [(.list (l.map Sn.cv) nn none),.agg x.cells] σ fun r σ'=>r = .ret (.val (.bool (decide (x∈l))))/\σ'=σ:=by
 refine an_ Tryz.func304 ?_;refine b0X ?_;refine cY c7Z ?_;refine yc rfl Tryz.call320 i7 (c0A l nn x hl _) ?_;refine cY S7 ?_;refine z_7 ?_;exact ⟨_,j2 rfl tt c4,_,_,rfl,rfl,j7 (decide_eq_decide.2 c2O)⟩
theorem a8F (l:List Sn) (nn:Bool) (i:Nat) (x:Sn) (hl:l.length<=1000000) (σ:List b9):b8 CC 304 [.list (((l.map Sn.cv).take i).drop 0) nn none,.agg x.cells] σ fun r σ'=>r = .ret (.val (.bool (decide (x∈l.take i))))/\σ'=σ:=by
 have:=b2X (l.take i) nn x a5U σ;rw [a8G,<- b3x];exact this
theorem c0i (l:List Sn) (nn:Bool) (hl:l.length<=1000000) (hn:l.Nodup) (σ:List b9):b8 CC 283 [(.list (l.map Sn.cv) nn none)] σ fun r σ'=>r = .ret (.val (.bool false))/\σ'=σ:=by
 refine an_ Tryz.func283 ?_;refine Q7 ?_;refine cY (a0j rfl tt rfl b98 b1s rfl) ?_;refine Z0 ?_;refine j5 hCC (α:=Nat) (fun i=>[(0,(.list (l.map Sn.cv) nn none)),(5,(.list (l.map Sn.cv) nn none)),(6,iv l.length),(7,iv i)]) (fun _=>[]) (fun i=>i<=l.length) (fun i=>l.length - i) 0 (n_3 _) tu_ (extra0:=[]) rfl r5 uz_ ?_;intro i hi;refine C9 ?_;refine cC ?_ ?_ <;> intro h1
 ·have hlt:(i:Int) < l.length:=sp_ h1;obtain ⟨y,hb⟩:=gx_ l i;refine X9 ?_;refine cY (r8 rfl tt tt rfl rfl b98 b5o om_ (j3 hb) rfl) ?_;refine cY (a0m rfl tt rfl c80 b5o (nb rfl)) ?_;refine cD (x8 rfl c3A rfl p8 ?_);refine cY Q1 ?_;refine cD (j6 rfl tt tt rfl c4 b5o p8 rfl rfl (nb rfl) ?_);refine z_9 ?_;refine cW 5 ?_;refine a8w ?_;refine hY (a3R (h:=i) rfl tt rfl b98 b5o b2v rfl a94 a9q b4W) ?_;refine hY c7Z ?_;refine hY (j8 rfl Tryz.call304 i7 (a8F l _ i y om_ _) rfl) ?_;refine a4L ?_;refine cC ?_ ?_ <;> intro h2
  ·exfalso;exact a2a hn hb (sp_ h2)
  ·exact a69
 ·exact c18
theorem b7J (x:Src) (h:a3z x) (σ:List b9):b8 CC 242 [.agg x.cells] σ fun r σ'=>r = .ret (.val (.bool true))/\σ'=σ:=by
 refine an_ Tryz.func242 ?_;refine a2M ?_;refine a7X ?_;refine ye rfl c38 ⟨tt,tt⟩ (a0X x.pkg (by have:=B4 h.pkg.1;omega) _) rfl ?_;refine S4 ?_;refine cC ?_ ?_ <;> intro h1
 ·exfalso;simp [h.pkg] at h1
 ·have hil:=h.impl;have hdl:=h.decl;refine a0E ?_;refine a4l ?_;refine a1i ?_;refine j5 hCC (α:=Nat) (fun i=>[(1,.ptr 0 0),(12,(.list (x.imports.map scv) (gnn x.imports.length) none)),(13,iv x.imports.length),(14,iv i)]) (fun _=>[.box x.cells]) (fun i=>i<=x.imports.length) (fun i=>x.imports.length - i) 0 (n_3 _) tu_ (extra0:=[]) rfl r5 uz_ ?_;intro i hi;refine C9 ?_;refine cC ?_ ?_ <;> intro h2
  ·have hlt:(i:Int) < x.imports.length:=sp_ h2;obtain ⟨y,hb⟩:=gx_ x.imports i;have hnm:=h.imp y (n_0 hb);refine a6S ?_;refine O0 ?_;refine ye rfl c38 ⟨tt,tt⟩ (a0X y b3Y _) rfl ?_;refine S4 ?_;refine cC ?_ ?_ <;> intro h3
   ·exfalso;simp [hnm] at h3
   ·exact a69
  ·refine a9O ?_;refine a6I ?_;refine j5 hCC (α:=Nat) (fun i=>[(23,(.list (x.decls.map De.cv) (gnn x.decls.length) none)),(24,iv x.decls.length),(25,iv i)]) (fun _=>[.box x.cells]) (fun i=>i<=x.decls.length) (fun i=>x.decls.length - i) 0 (n_3 _) tu_ (extra0:=[]) rfl r5 uz_ ?_;intro i hi;refine C9 ?_;refine cC ?_ ?_ <;> intro h4
   ·have hlt:(i:Int) < x.decls.length:=sp_ h4;obtain ⟨d,hd⟩:=gx_ x.decls i;have hg:=h.dec d (n_0 hd);refine W7 ?_;refine b2T ?_;refine b5O ?_;refine S5 ?_;refine cY d6y ?_;refine yc rfl Tryz.call281 ⟨tt,tt⟩ (b29 d hg _) ?_;refine S4 ?_;refine cC ?_ ?_ <;> intro h5
    ·exfalso;simp at h5
    ·exact a69
   ·exact c18
end Go.Proofs.YtlppbmfecjabeaaGreatDoor
