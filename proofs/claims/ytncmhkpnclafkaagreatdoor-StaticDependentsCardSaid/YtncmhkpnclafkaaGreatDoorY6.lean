/- Part 6 of what the claim needs: values without addresses, and what the program's functions do with them. -/
import Derived.Test.YtncmhkpnclafkaaGreatDoorY5
set_option linter.all false
set_option maxRecDepth 100000
set_option maxHeartbeats 4000000
namespace Go.Proofs.YtncmhkpnclafkaaGreatDoor
open Go Go.Cl
variable{fl:List Fi}{σ:List b9}{c:MC}{q w m n tk wk b q1 q2 t B:Nat}{p o s:I}{l:List Ky}{d:De}{x y e v:En}{me:EM}{ev:List Va}{ms:SM}{k:Int}{ks:List Int}{g:FuncId}{caps:List CV}{nn:Bool}{br:List I}{wv:CV}{fk:I->List Ky}{fa:I->List En}
def ddK:List Ky->List Ky
 | []=>[]
 | [x]=>[x]
 |x::y::l=>if x=y then ddK (y::l)else x::ddK (y::l)
theorem b3Q(x y:Ky)(l:List Ky):ddK (x::y::l)=if x=y then ddK (y::l)else x::ddK (y::l):=by rw[ddK]
theorem c3u:∀(l:List Ky) (x y:Ky),ddK (l++[x,y])=if x=y then ddK (l++[x])else ddK (l++[x])++[y]
 | [],x,y=>by
  simp only[a7j,b3Q];by_cases h:x=y<;>simp[h,ddK]
 | [a],x,y=>by
  simp only[b13,a7j,b3Q];by_cases h1:a=x<;>by_cases h2:x=y<;>simp[h1,h2,ddK]
 |a::b::l,x,y=>by
  have h:=c3u (b::l) x y;simp only[b13]at h;simp only[b13,b3Q,h];by_cases h1:a=b<;>by_cases h2:x=y<;>simp[h1,h2]
theorem c2G{j:Nat}{x y:Ky}(hx:l[j]?=some x)(hy:l[j+1]?=some y):ddK (l.take (j+2))=if x=y then ddK (l.take (j+1))else ddK (l.take (j+1))++[y]:=by
 have h1:l.take (j+1)=l.take j++[x]:=by rw[Z2,hx];rfl
 have h2:l.take (j+2)=l.take j++[x,y]:=by rw[show j+2=(j+1)+1 from O,Z2,hy,h1];simp
 rw[h1,h2,c3u]
theorem e0s:ddK (l.take 1)=l.take 1:=by cases l<;>rfl
theorem c85(h:l.length <2):ddK l=l:=by
 match l,h with
 | [],_=>rfl
 | [x],_=>rfl
theorem b27(σ:List b9):b8 CC 113 [(.list (([]:List Ky).map Ky.cv) false none)] σ λr aa=>r= .ret (.list (([]:List Ky).map Ky.cv) false none)/\aa=σ:=by
 refine b8.anyw hCC pu_ pu_ (c7 (qO Tryz.func113 ?_)) σ;refine qY (c21 O J O a0k O) ?_;refine qC ?_ ?_<;>intro h1
 .refine c6 ?_;exact⟨_,rE1,_,_,O,O,(J5 (show CV.list [] false none=_ from O) pu_)⟩
 .exfalso;cases h1
theorem b7f(l:List Ky)(hn:l≠[])(hl:l.length<=100000000)(σ:List b9):b8 CC 113 [(.list (l.map Ky.cv) true none)] σ λr aa=>∃_:Unit,r= .ret (.vec σ.length 0 l.length)/\aa=σ++[.vec 3 (l.map Ky.cv)]/\True:=by
 refine qO Tryz.func113 ?_;refine qY (c21 O J O a0k O) ?_;refine qC ?_ ?_<;>intro h1
 .exfalso;cases h1
 .refine qD (e03 O a0k t_9 (λa0=>?_));refine qD (d5G l.length O J J O q_3 a0k t_9 c5t a21 O (by simp;exact a6M.2 hn) (by have hb:Tryz.t49.bytes=40:=O;rw[hb];first|omega|(simp;done)|(simp;omega)) G6 U ?_);exact c79
theorem c0a(l:List Ky)(hl:l.length<=100000000):b8 CC 116 [.vec 0 0 l.length] [.vec 3 (l.map Ky.cv)] λr τ=>∃rest:List Ky,r= .ret (.vec 0 0 (ddK l).length)/\τ=[.vec 3 ((ddK l++rest).map Ky.cv)]/\True:=by
 refine qO Tryz.func116 ?_;refine qY (a0W O J O a0k O O) ?_;refine qC ?_ ?_<;>intro h1
 .have af:l.length <2:=sm_ h1;have fU:=c85 af;refine c6 ?_;exact⟨_,rE1,⟨[],by rw[fU],by rw[fU];simp,J⟩⟩
 .have aH:2<=l.length:=sm_ h1;refine J8 (α:=Nat) (λk=>[(0,(.vec 0 0 l.length)),(3,iv k)]) (λ_=>[.vec 3 (l.map Ky.cv)]) (λk=>1<=k/\k<=l.length/\ddK (l.take k)=l.take k) (λk=>l.length -k) 1 ⟨n_6 _,G,e0s⟩ tu_ O ?_;intro k E0 ⟨bB,cc,hd⟩;refine qk (qY (a0W O J O a0k O O) ?_);refine qC ?_ ?_<;>intro h2
  .have af:k<l.length:=sm_ h2;obtain⟨y,hy⟩:∃y,l[k]?=some y:=⟨l[k]'af,U⟩;obtain⟨x,hx⟩:∃x,l[k-1]?=some x:=⟨l[k-1]'G,U⟩;have cm:=c2G hx (by rw[c5o bB];exact hy);rw[show k-1+2=k+1 by omega,show k-1+1=k by omega,hd]at cm;refine cW 10 ?_;refine a3s ?_;refine hY b4U ?_;refine hY (a2a O J O b5S t_9 O (a7O (j5 hy) G) (nb O)) ?_;refine a3s ?_;refine hY V4 ?_;refine hY b4U ?_;refine hY (a2a O J O b5S t_9 O (a7O (j5 hx) G) (nb O)) ?_;refine hY (b05 O J J (xs:=[.int .i64 y.k,.string (str y.a),.string (str y.b)]) (ys:=[.int .i64 x.k,.string (str x.a),.string (str x.b)]) O O c47 (c4K y x)) ?_;refine a0T ?_;refine qC ?_ ?_<;>intro h3
   .have hyx:x=y:=by
     have gW:y=x:=D h3;exact gW.symm
    rw[Q hyx]at cm;refine qY (O8 (l:=k) O J O a0k t_9 O a18 O a1U U) ?_;refine J8 (α:=List Ky×Nat×Nat) (λa=>[(0,(.vec 0 0 l.length)),(3,iv a.2.1),(4,(.vec 0 (0+k) (l.length -k))),(5,iv a.2.2)]) (λa=>[.vec 3 (a.1.map Ky.cv)]) (λa=>a.1.length=l.length/\1<=a.2.2/\a.2.2<=l.length -k/\a.2.1<=k+a.2.2 -1/\ddK (l.take (k+a.2.2))=a.1.take a.2.1/\∀j,k+a.2.2 -1<=j->a.1[j]?=l[j]?) (λa=>l.length -a.2.2) (l,k,1) ⟨O,n_6 _,do_,do_,cm,λ_ _=>O⟩ tu_ O ?_;intro⟨m,p,q⟩ E1 ⟨hm,bW,ce,hp,jf,jg⟩;dsimp only at hm bW ce hp jf jg⊢;refine qk (qY (a0W O J O a0k O O) ?_);refine qC ?_ ?_<;>intro h4
    .have gS:q<l.length -k:=sm_ h4;obtain⟨z,hz⟩:∃z,l[k+q]?=some z:=⟨l[k+q]'G,U⟩;obtain⟨u,hu⟩:∃u,l[k+q-1]?=some u:=⟨l[k+q-1]'G,U⟩;have hzm:m[k+q]?=some z:=(jg _ G).trans hz;have hum:m[k+q-1]?=some u:=(jg _ G).trans hu;have cJ:=c2G hu (by rw[c5o G];exact hz);rw[show k+q-1+2=k+(q+1) by omega,show k+q-1+1=k+q by omega,jf]at cJ;refine cW 10 ?_;refine a3s ?_;refine hY b4U ?_;refine hY (a2a O J O b5S t_9 O (a7O (j5 hzm) G) (nb O)) ?_;refine a3s ?_;refine hY V4 ?_;refine hY b4U ?_;refine hY (a2a O J O b5S t_9 O (a7O (j5 hum) G) (nb O)) ?_;refine hY (d8c O J J (xs:=[.int .i64 z.k,.string (str z.a),.string (str z.b)]) (ys:=[.int .i64 u.k,.string (str u.a),.string (str u.b)]) O O c47 (c4K z u)) ?_;refine a0T ?_;refine qC ?_ ?_<;>intro h5
     .have hzu:¬u=z:=by
       have iP:¬z=u:=D h5;exact λe=>iP e.symm
      rw[W hzu]at cJ;obtain⟨o,ho⟩:=gx_ m p;refine qY b4U ?_;refine qY (a2a O J O b5S t_9 O (a7O (j5 hzm) G) (nb O)) ?_;refine qY b4U ?_;refine qD (N5 ((m.set p z).map Ky.cv) O J J O j2 t_9 j4 O (a7O (j5 ho) G) O (nb O) (by rw[show 0+(p:Int).toNat=p by omega,List.map_set];rfl) O ?_);refine qY o7 ?_;refine qY o7 ?_;exact⟨(m.set p z,p+1,q+1),do_,⟨D hm,do_,do_,do_,by dsimp only;rw[cJ,Z2,List.take_set_of_le (n_6 _),b0e G];rfl,λj hj=>by dsimp only at hj;rw[a0S G];exact jg j G⟩,tu_,O⟩
     .have hzu:u=z:=by
       have iP:z=u:=D h5;exact iP.symm
      rw[Q hzu]at cJ;refine qY o7 ?_;exact⟨(m,p,q+1),do_,⟨hm,do_,do_,do_,cJ,λj hj=>by dsimp only at hj;exact jg j G⟩,tu_,O⟩
    .have fp:q=l.length -k:=sm_ h4;subst fp;rw[show k+(l.length -k)=l.length by omega,a57]at jf;have bc:(m.take p).length=p:=by rw[a7Y];omega
     have dT:(ddK l).length=p:=by rw[jf,bc]
     refine j8 ?_;refine qY (O8 (l:=p) O J O a0k t_9 O a18 O a1U H6) ?_;refine qD (b84 ((m.take p++List.replicate (l.length -p) zK).map Ky.cv) O J O a0k a21 O (a2J O) O O H6 e2j O ?_);refine qY (O8 (h:=p) O J O a0k t_9 O O a18 a1U H6) ?_;refine c6 ?_;exact⟨_,rE1,⟨List.replicate (l.length -p) zK,by rw[dT];rfl,by rw[jf];rfl,J⟩⟩
   .have hyx:¬x=y:=by
     have gW:¬y=x:=D h3;exact λe=>gW e.symm
    rw[W hyx]at cm;refine qY o7 ?_;exact⟨k+1,G,⟨G,G,by rw[cm,Z2,hy];rfl⟩,tu_,O⟩
  .have fp:k=l.length:=sm_ h2;subst fp;rw[a57]at hd;refine a0i ?_;exact⟨_,rE1,⟨[],by rw[hd],by rw[hd];simp,J⟩⟩
theorem c1h(σ:List b9):b8 CC 116 [(.list (([]:List Ky).map Ky.cv) false none)] σ λr aa=>r= .ret (.list (([]:List Ky).map Ky.cv) false none)/\aa=σ:=by
 refine b8.anyw hCC pu_ pu_ (c7 (qO Tryz.func116 ?_)) σ;refine qY b8O ?_;refine cC ?_ ?_<;>intro h1
 .refine qk ?_;exact d7q
 .exfalso;simp at h1
theorem c1r(l:List Ky)(hl:l.length<=100000000)(hq:σ[q]?=some (.vec 3 (l.map Ky.cv))):b8 CC 116 [.vec q 0 l.length] σ λr τ=>∃rest:List Ky,r= .ret (.vec q 0 (ddK l).length)/\τ=σ.set q (.vec 3 ((ddK l++rest).map Ky.cv))/\True:=
 b1K (α:=List Ky) (g:=λ_=>false) (rows':=λrest=>(ddK l++rest).map Ky.cv) (off:=λ_=>0) (len:=λ_=>(ddK l).length) (P:=λ_=>True) hCC (a6N l) (args:=[]) (λa h=>by cases h) (λ_ _=>a6N _)
  ((c0a l hl).mono λr τ ⟨rest,h1,h2,_⟩=>⟨rest,by subst h1 h2;exact⟨[0],O,O,.ret (.vec O),.inr ⟨_,O,.same O (c58 _ _)⟩,J⟩,J⟩) hq
theorem b9I(nn:Bool)(σ:List b9):b8 CC 114 [.list [] nn none,.val (.func (.func 115) #[] #[])] σ λr τ=>r= .ret (.tup [])/\τ=σ:=λM w vs hr hn hx=>by
 have hs:vs.size=2:=hn;obtain⟨v,v2,rfl⟩:∃v v2,vs= #[v,v2]:=⟨vs[0]'G,vs[1]'G,Array.ext (by simp[hs]) λi h1 h2=>by
  have:i=0\/i=1:=by omega
  rcases this with rfl|rfl<;>simp⟩
 have h0:RV M w (.list [] nn none) v:=hx 0 _ O;cases h0 with
 |list vals g1 g2 g3 g4 g5 g6 g7 g8 g9 g10=>
  refine(Go.Proofs.AnyF.slices_SortFunc_none Tryz.sortKey _ _ v2 w).mono λe w' ⟨he,hw⟩=>?_;subst he hw;exact⟨_,_,M,Ext.refl M w',hr,.tup O (λi c h=>by simp at h),O,O⟩
def P8(l:List Ky):List Ky:=ddK (a8U Z8 l)
theorem b6D(σ:List b9):b8 CC 85 [(.list (([]:List Ky).map Ky.cv) false none)] σ λr aa=>r= .ret (.list (([]:List Ky).map Ky.cv) false none)/\aa=σ:=by
 refine b8.anyw hCC pu_ pu_ (c7 (qO Tryz.func85 ?_)) σ;refine qY (c5 O Tryz.call113 ⟨J,J⟩ (b27 _) O) ?_;refine qY (c5 O Tryz.call114 i7 (b9I false _) O) ?_;refine qY (c5 O Tryz.call116 ⟨J,J⟩ (c1h _) O) ?_;exact d7q
theorem d4j(l:List Ky)(ax:l≠[])(hl:l.length<=100000000):b8 CC 85 [(.list (l.map Ky.cv) true none)] [] λr aa=>∃az c c',aa=[]++az/\r= .ret c/\Cls 0 aa c c'/\c'= .list ((P8 l).map Ky.cv) true none:=by
 have dV:(a8U Z8 l).length=l.length:=b6p _;refine qO Tryz.func85 ?_;refine qD (c4 O Tryz.call113 ⟨J,J⟩ (b7f l ax hl _) O ?_);intro _ _;refine qD (c4 O Tryz.call114 i7 (b9o ax hl O) O ?_);intro _ _;refine qD (c4 O Tryz.call116 ⟨J,J⟩ ((by rw[<- dV];exact c1r (a8U Z8 l) G O)) O ?_);intro rest _;refine c6 ?_;exact⟨_,rE1,⟨_,_,_,O,O,(.vecs (n_5 _) O U (by simp;rfl) (a6N (P8 l))),O⟩⟩
theorem d9x(l:List Ky)(hl:l.length<=100000000)(σ:List b9):b8 CC 85 [(.list (l.map Ky.cv) (gnn l.length) none)] σ λr τ=>r= .ret (.list ((P8 l).map Ky.cv) (gnn (P8 l).length) none)/\τ=σ:=by
 by_cases h:l=[]
 .subst h;rw[show P8 []=[] by simp[P8,a8U,ddK]];exact b6D σ
 .rw [b54 h];have hn:P8 l≠[]:=by
   intro e;have hd:∀m:List Ky,m≠[]->ddK m≠[]:=by
    intro m
    induction m with
    |nil=>intro h;exact absurd O h
    |cons a m ih=>
     intro _;cases m with
     |nil=>simp[ddK]
     |cons b m=>
      rw[b3Q]
      split
      .exact ih U
      .simp
   exact hd (a8U Z8 l) (λe2=>h (List.length_eq_zero_iff.1 (by rw[<- b6p (l:=l) (le:=λx y=>!(Go.Proofs.ltOf Z8) y x)];exact n_7 List.length e2))) e
  rw[b54 hn];exact b8.anyw (args:=[.list (l.map Ky.cv) true none]) hCC ⟨G7 _ _,J⟩ (G7 _ _) ((a7T (d4j l h hl)).mono λr τ ⟨⟨c,h1,h2⟩,h3⟩=>⟨by rw[h1,h2],h3⟩) σ
abbrev fv(f:FuncId):CV:=.val (.func (.func f) #[] #[])
def a0b(b:Nat):List (Int×CV):=[(1,fv 124),(2,fv 126),(3,fv 127),(4,fv 128),(5,.clo 130 [.ptr b 0]),(6,fv 133),(7,fv 135)]
abbrev cmO(b:Nat):b9:=.map (gm kv (λc:CV=>c) (a0b b))
def cfv(b:Nat)(k:Int):CV:=(glk (a0b b) k).getD (I0 .nilFunc)
theorem d6D{L:Nat}(h:b<L):F7 L (cmO b):=λx hx=>by
 obtain⟨y,hy,rfl⟩:=D6.1 hx;refine⟨.val _,?_⟩;simp only[a0b,J2,b0l,or_false]at hy
 rcases hy with rfl|rfl|rfl|rfl|rfl|rfl|rfl
 .exact .val _
 .exact .val _
 .exact .val _
 .exact .val _
 .refine .clo λi c hi=>?_
  rcases i with _|i
  .injection hi with hi;subst hi;exact .ptr h
  .cases hi
 .exact .val _
 .exact .val _
theorem d6o{R:Nat->Nat->Prop}{b':Nat}(h:R b b'):I7 R (cmO b) (cmO b'):=.map ⟨O,λi x x' h1 h2=>by
 rcases i with _|_|_|_|_|_|_|i
 .injection h1 with h1;injection h2 with h2;subst h1 h2;exact⟨.pure (.val _),.pure (.val _)⟩
 .injection h1 with h1;injection h2 with h2;subst h1 h2;exact⟨.pure (.val _),.pure (.val _)⟩
 .injection h1 with h1;injection h2 with h2;subst h1 h2;exact⟨.pure (.val _),.pure (.val _)⟩
 .injection h1 with h1;injection h2 with h2;subst h1 h2;exact⟨.pure (.val _),.pure (.val _)⟩
 .injection h1 with h1;injection h2 with h2;subst h1 h2
  refine⟨.pure (.val _),.clo O λi c c' g g'=>?_⟩
  rcases i with _|i
  .injection g with g;injection g' with g';subst g g';exact .ptr h
  .cases g
 .injection h1 with h1;injection h2 with h2;subst h1 h2;exact⟨.pure (.val _),.pure (.val _)⟩
 .injection h1 with h1;injection h2 with h2;subst h1 h2;exact⟨.pure (.val _),.pure (.val _)⟩
 .cases h1⟩
theorem b6q(ev:List Va)(en:Bool):b8 CC 93 [.agg (a0n ev en)] [] λr τ=>∃_:Unit,r= .ret (.map 1)/\τ=[.box (a0n ev en),cmO 0]/\True:=by
 refine qO Tryz.func93 ?_;refine qD (H3 O J j2 j4 ?_);refine qD (R9 O ?_);refine qD (k8 (vc:=λc:CV=>c) (l:=(a0b 0).take 0) (a:=1) (b:=((a0b 0).getD 0 (0,fv 0)).2) a0D (.inr O) J O J O O O c0r O ?_);refine qD (k8 (vc:=λc:CV=>c) (l:=(a0b 0).take 1) (a:=2) (b:=((a0b 0).getD 1 (0,fv 0)).2) a0D (.inr O) J O J O O O c0r O ?_);refine qD (k8 (vc:=λc:CV=>c) (l:=(a0b 0).take 2) (a:=3) (b:=((a0b 0).getD 2 (0,fv 0)).2) a0D (.inr O) J O J O O O c0r O ?_);refine qD (k8 (vc:=λc:CV=>c) (l:=(a0b 0).take 3) (a:=4) (b:=((a0b 0).getD 3 (0,fv 0)).2) a0D (.inr O) J O J O O O c0r O ?_);refine qY (a3v O ⟨J,J⟩) ?_;refine qD (k8 (vc:=λc:CV=>c) (l:=(a0b 0).take 4) (a:=5) (b:=((a0b 0).getD 4 (0,fv 0)).2) a0D (.inr O) J O J O O O c0r O ?_);refine qD (k8 (vc:=λc:CV=>c) (l:=(a0b 0).take 5) (a:=6) (b:=((a0b 0).getD 5 (0,fv 0)).2) a0D (.inr O) J O J O O O c0r O ?_);refine qD (k8 (vc:=λc:CV=>c) (l:=(a0b 0).take 6) (a:=7) (b:=((a0b 0).getD 6 (0,fv 0)).2) a0D (.inr O) J O J O O O c0r O ?_);refine c6 ?_;exact⟨_,rE1,(by exact⟨(),O,O,J⟩)⟩
theorem b7k(ev:List Va)(en:Bool)(σ:List b9):b8 CC 93 [.agg (a0n ev en)] σ λr τ=>∃_:Unit,r= .ret (.map (σ.length+1))/\τ=σ++[.box (a0n ev en),cmO σ.length]/\True:=
 a6U (α:=Unit) hCC (λa ha=>by simp at ha;subst ha;exact o0 ⟨a1j _ _,J⟩) (res:=λ_=>.ret (.map 1)) (res':=λ_ m=>.ret (.map (m+1))) (S:=λ_=>[.box (a0n ev en),cmO 0]) (S':=λ_ m=>[.box (a0n ev en),cmO m]) (P:=λ_=>True) (b6q ev en) (λ_ _=>O) (λ_ m i x h=>by
  rcases i with _|_|i
  .injection h with h;subst h;exact⟨_,O,.box (H9 (λc hc=>by simp at hc;subst hc;exact a1j _ _))⟩
  .injection h with h;subst h;exact⟨_,O,d6o U⟩
  .cases h) (λ_ m=>.ret (.map O)) σ
theorem b9e{k:Ky}(h:I1 k=true):(k.k=1\/k.k=2\/k.k=3\/k.k=4\/k.k=5\/k.k=6\/k.k=7)/\k.a.length<=100:=by
 unfold I1 at h;split at h
 .rename_i h1;simp only[a80,beq_iff_eq]at h1;simp only[T5]at h;have:=H8 h.1;exact⟨G,G⟩
 .split at h
  .rename_i h1;simp only[a80,beq_iff_eq]at h1;simp only[T5]at h;have:=a1K h.1;exact⟨G,G⟩
  .split at h
   .rename_i h1;simp only[a80,beq_iff_eq]at h1;simp only[T5]at h;have:=H8 h.1;exact⟨G,G⟩
   .cases h
theorem d9L(ao:WAt σ w q1 q2 t fl nn true br ms me)(bz:WOk fl ms me){en:Bool}(hb:σ[b]?=some (.box (a0n ev en)))(iK:∀v∈ev,-9223372036854775808<=v.v/\v.v<=9223372036854775807)(gC:ev.length<=1000000000){k:Ky}(hk:I1 k=true):
 c4M CC (cfv b k.k) [.ptr w 0,.agg k.cells] σ (sv (a0e fl ms me ev k)):=by
 obtain⟨gT,hka⟩:=b9e hk
 rcases gT with h|h|h|h|h|h|h
 .refine .inl ⟨124,by rw[h];rfl,Tryz.call124,?_⟩;rw[a0e,Q h];exact e19 ao bz k
 .refine .inl ⟨126,by rw[h];rfl,Tryz.call126,?_⟩;rw[a0e,W G,Q h];exact e2J ao bz k
 .refine .inl ⟨127,by rw[h];rfl,Tryz.call127,?_⟩;rw[a0e,W G,W G,Q h];exact e2N ao bz k
 .refine .inl ⟨128,by rw[h];rfl,Tryz.call128,?_⟩;rw[a0e,W G,W G,W G,Q h];exact e2d ao bz k
 .refine .inr ⟨130,[.ptr b 0],by rw[h];rfl,Tryz.call130,?_⟩;rw[a0e,W G,W G,W G,W G,Q h];exact e25 hb iK gC k
 .refine .inl ⟨133,by rw[h];rfl,Tryz.call133,?_⟩;rw[a0e,W G,W G,W G,W G,W G,Q h];exact e1R ao bz k
 .refine .inl ⟨135,by rw[h];rfl,Tryz.call135,?_⟩;rw[a0e,W G,W G,W G,W G,W G,W G];exact e1z ao bz k hka
noncomputable def a1C(fl:List Fi)(ev:List Va)(l:List Ky):Option (List I):=
 if C7 fl=0/\b0n ev=true/\l.all I1=true then some (l.map (a0e fl (A6 fl).2.1 (A6 fl).2.2 ev))else none
def c23(o:Option (List I)):CV:=.tup [.list ((o.getD []).map scv) (gnn (o.getD []).length) none,iv (if o.isSome then 0 else 1)]
theorem e0r(b:Nat)(k:Int):((glk (a0b b) k).map λc:CV=>c).getD (I0 .nilFunc)=cfv b k:=by unfold cfv;cases glk (a0b b) k<;>rfl
theorem c5s{p:Ky->Bool}{i:Nat}{y:Ky}(h:l[i]?=some y)(ha:(l.take i).all p=true)(hy:p y=true):(l.take (i+1)).all p=true:=by
 rw[Z2,h,List.all_append,ha];simp[hy]
theorem c9V{p:Ky->Bool}{i:Nat}{y:Ky}(h:l[i]?=some y)(hy:p y=false):l.all p≠true:=λhh=>by
 rw[a6b]at hh;rw[hh y (n_3 h)]at hy;cases hy
theorem b5p(fl:List Fi)(nn:Bool)(bK:∀f∈fl,f.p.length<=1000000000)(ev:List Va)(en:Bool)(ie:∀v∈ev,-9223372036854775808<=v.v/\v.v<=9223372036854775807)(l:List Ky)(nk:Bool)(hl:l.length<=1000000000)(hk:∀k∈l,k.a.length<=1000000000/\k.b.length<=1000000000):b8 CC 54 [.agg (A0 fl nn),.agg (a0n ev en),.list (l.map Ky.cv) nk none] [] λr τ=>∃_:Unit,X8 0 τ r (.ret (c23 (a1C fl ev l)))/\True:=by
 refine qO Tryz.func54 ?_;refine c6R ?_;refine qD (c4 O Tryz.call39 ⟨J,J⟩ (c9Q fl nn bK _) O ?_);intro _ _;refine qG c8f ?_;refine qG (λhg=>c5 O d1r ⟨hg,J⟩ (V1 ev en _) O) ?_;refine qG a2D ?_;refine qY U4 ?_;refine cC ?_ ?_<;>intro h1
 .have hv:¬(C7 fl=0/\b0n ev=true/\l.all I1=true):=by
   rintro⟨u1,u2,_⟩;simp[u1,u2]at h1
  refine qk ?_;refine c6 ?_;exact⟨_,r8 (rs:=[.tmp 6,.tmp 7]) (cs:=[_,_]) O a0d (n_4 O),(by rw[a1C,W hv];exact⟨(),.ret (.tups ⟨.old (C4 _ ([]:List I) _),.old (.val _),J⟩),J⟩)⟩
 .have hv:C7 fl=0/\b0n ev=true:=D h1;have bz:=b6h hv.1;have hva:(C7 fl == 0)=true:=by simp[hv.1]
  rw[hva];refine qk (qD (c4 O Tryz.call93 ⟨J,J⟩ (b7k ev en _) O ?_));intro _ _;refine qY b8O ?_;refine A5 hCC 8 O (α:=Nat) (λi=>[(8,.ptr 2 0),(9,.map 7),(10,(.list (((l.take i).map (a0e fl (A6 fl).2.1 (A6 fl).2.2 ev)).map scv) (gnn ((l.take i).map (a0e fl (A6 fl).2.1 (A6 fl).2.2 ev)).length) (F1 ((l.take i).map (a0e fl (A6 fl).2.1 (A6 fl).2.2 ev)).length 8))),(27,(.list (l.map Ky.cv) nk none)),(28,iv l.length),(29,iv i)]) (λi=>[.box (A0 fl nn),.box (a0n ev en),wbx fl nn true (A6 fl).1 3 4 5,smO (A6 fl).2.1,emO (A6 fl).2.2,m0 (A6 fl).1.length,.box (a0n ev en),cmO 6,m0 ((l.take i).map (a0e fl (A6 fl).2.1 (A6 fl).2.2 ev)).length]) (λi=>i<=l.length/\(l.take i).all I1=true) (λi=>l.length -i) ⟨0,[0,1,2,3,4,5,6,7,13],⟨n_5 _,O⟩,⟨O,O⟩,ut_,uq_⟩ ?_;intro i ⟨hi,bk⟩;refine qk (qC ?_ ?_)<;> intro h2
  .have af:i<l.length:=sm_ h2;obtain⟨y,hy⟩:∃y,l[i]?=some y:=⟨l[i]'af,U⟩;have fj:=hk y (n_3 hy);refine qY (r6 O J J O O a0k t_9 G (j5 hy) O) ?_;refine qD (o6 O a21 O j4 ?_);refine qD (j1 O J J O j2 t_9 j4 O O (nb O) ?_);refine qY (c5 O Tryz.call64 ⟨J,J⟩ (b0X y fj.1 fj.2 _) O) ?_;refine qC ?_ ?_<;>intro h3
   .have db:¬(C7 fl=0/\b0n ev=true/\l.all I1=true):=λu=>c9V hy (D h3) u.2.2;refine c6 ?_;exact⟨_,r8 (rs:=[.tmp 6,.tmp 7]) (cs:=[_,_]) O a0d (n_4 O),(by rw[a1C,W db];exact⟨(),.ret (.tups ⟨.old (C4 _ ([]:List I) _),.old (.val _),J⟩),J⟩)⟩
   .have hyk:I1 y=true:=D h3;have htk1:l.take (i+1)=l.take i++[y]:=by rw[Z2,hy];rfl
    refine qY (N3 (vc:=λc:CV=>c) (l:=a0b 6) (a:=y.k) a0D O J J O O c0r Tryz.zeroValue153 O O (e0r 6 y.k)) ?_;refine qY (c62 O J O i7 (by exact d9L (w:=2) (q1:=3) (q2:=4) (t:=5) (b:=6) ⟨O,O,O,O,a1s ⟨H,H,H,H,H,H⟩⟩ bz O ie (a1u (c5A hv.2) (nb O)) hyk) O) ?_;refine qY (A9 [scv ((a0e fl (A6 fl).2.1 (A6 fl).2.2 ev) y)] O ⟨J,J⟩ t_2 t_0 t_3 O O O O O O O O O) ?_;refine qD (C8 O J J O U q_3 t_2 t_0 a4M t_3 O (.inr O) q_7 a6h G6 (((l.take (i+1)).map (a0e fl (A6 fl).2.1 (A6 fl).2.2 ev)).map scv) ((l.take (i+1)).map (a0e fl (A6 fl).2.1 (A6 fl).2.2 ev)).length (by rw[htk1,a3M,a3M];rfl) (by rw[htk1];simp) ?_);refine qY o7 ?_;exact⟨(i+1),[0,1,2,3,4,5,6,7,10],⟨G,G,c5s hy bk hyk⟩,⟨O,O⟩,ut_,uq_⟩
  .have aH:l.length<=i:=sm_ h2;have hta:l.take i=l:=U2 aH;refine a0i ?_;exact⟨_,r8 (rs:=[.tmp 6,.tmp 7]) (cs:=[_,_]) O a0d (n_4 O),(by rw[a1C,Q ⟨hv.1,hv.2,by rw[<- hta];exact bk⟩,hta];exact⟨(),.ret (.tups ⟨.tok (λr hr c hc=>(C6 (f:=scv) (λ_=>O4.all ⟨.val _,J⟩) _) r hr c hc),.old (.val _),J⟩),J⟩)⟩
theorem c0U(o:Option (List I)):p9 (c23 o):=C5 (cs:=[_,_]) ⟨F2 _ _,.val _,J⟩
theorem a9V(fl:List Fi)(nn:Bool)(bK:∀f∈fl,f.p.length<=1000000000)(ev:List Va)(en:Bool)(ie:∀v∈ev,-9223372036854775808<=v.v/\v.v<=9223372036854775807)(l:List Ky)(nk:Bool)(hl:l.length<=1000000000)(hk:∀k∈l,k.a.length<=1000000000/\k.b.length<=1000000000)(σ:List b9):b8 CC 54 [.agg (A0 fl nn),.agg (a0n ev en),.list (l.map Ky.cv) nk none] σ λr τ=>r= .ret (c23 (a1C fl ev l))/\τ=σ:=
 (D8 (res:=λ_:Unit=>.ret (c23 (a1C fl ev l))) (P:=λ_=>True) hCC (λa h=>by simp at h;rcases h with rfl|rfl|rfl;exact o0 (cs:=A0 _ _) ⟨D9 _ _,J⟩;exact o0 (cs:=a0n _ _) ⟨a1j _ _,J⟩;exact G7 _ _) (b5p fl nn bK ev en ie l nk hl hk) (λ_ _=>c0U _) σ).mono λr τ ⟨_,h1,h2,_⟩=>⟨h1,h2⟩
theorem c5x{k:List Ky}{l:List I}(h:a1C fl ev k=some l):l=k.map (a0e fl (A6 fl).2.1 (A6 fl).2.2 ev):=by
 unfold a1C at h;split at h
 .injection h with h;exact h.symm
 .cases h
def a6J:List I->List I->Int->Int
 |x::l,y::m,i=>if x=y then a6J l m (i+1)else i
 |_,_,_=>-1
noncomputable def a4l(fl:List Fi)(ev:List Va)(k:List Ky)(ts:List I):Option Int:=match a1C fl ev k with
 |some l=>if k.length=ts.length then some (a6J l ts 0)else none
 |none=>none
def d2p(o:Option Int):CV:=.tup [iv (o.getD 0),iv (if o.isSome then 0 else 1)]
theorem c1w{l m:List I}{i:Nat}{x y:I}(hx:l[i]?=some x)(hy:m[i]?=some y)(j:Int):a6J (l.drop i) (m.drop i) j=if x=y then a6J (l.drop (i+1)) (m.drop (i+1)) (j+1)else j:=by
 obtain⟨h1,rfl⟩:=n_2.1 hx;obtain⟨h2,rfl⟩:=n_2.1 hy;rw[Y0 h1,Y0 h2,a6J]
theorem c7g(fl:List Fi)(nn:Bool)(bK:∀f∈fl,f.p.length<=1000000000)(ev:List Va)(en:Bool)(ie:∀v∈ev,-9223372036854775808<=v.v/\v.v<=9223372036854775807)(k:List Ky)(nk:Bool)(hl:k.length<=1000000000)(hk:∀x∈k,x.a.length<=1000000000/\x.b.length<=1000000000)(ts:List I)(nt:Bool):b8 CC 55 [.agg (A0 fl nn),.agg (a0n ev en),.list (k.map Ky.cv) nk none,.list (ts.map scv) nt none] [] λr τ=>∃_:Unit,X8 0 τ r (.ret (d2p (a4l fl ev k ts)))/\True:=by
 refine qO Tryz.func55 ?_;refine c6R ?_;refine qY (c5 O Tryz.call54 E7 (a9V fl nn bK ev en ie k nk hl hk _) O) ?_;refine qG C9 ?_;refine qG (λhg=>X5 O hg O a0k a49 O) ?_;refine qG C9 ?_;refine qG (λhg=>X5 O hg O t_2 a49 O) ?_;refine qG a9q ?_;refine qY U4 ?_;refine qC ?_ ?_<;>intro h1
 .have hn:a4l fl ev k ts=none:=by
   unfold a4l;cases h:a1C fl ev k with
   |none=>rfl
   |some l=>
    rw[h]at h1;have fC:¬k.length=ts.length:=sm_ h1;exact W fC
  refine c6 ?_;exact⟨_,r8 (rs:=[.tmp 8,.tmp 9]) (cs:=[_,_]) O a0d (n_4 O),(by rw[hn];exact⟨(),.ret (.old (.tup λi c hi=>by rcases i with _|_|i<;>first|(injection hi with hi;subst hi;exact .val _)|cases hi)),J⟩)⟩
 .obtain ⟨l,hs⟩:∃l,a1C fl ev k=some l:=by
   cases h:a1C fl ev k with
   |none=>rw[h]at h1;simp at h1
   |some l=>exact⟨_,O⟩
  rw[hs]at h1⊢;have fC:k.length=ts.length:=sm_ h1;have gX:l.length=k.length:=by rw[c5x hs];simp
  have hh:a4l fl ev k ts=some (a6J l ts 0):=by unfold a4l;rw[hs];exact Q fC
  refine qY P5 ?_;refine o4 hCC (λi:Nat=>[(3,(.list (ts.map scv) nt none)),(30,(.list (l.map scv) (gnn l.length) none)),(31,iv l.length),(32,iv i)]) (λ_=>[.box (A0 fl nn),.box (a0n ev en)]) (λi=>i<=l.length/\a6J l ts 0=a6J (l.drop i) (ts.drop i) i) (λi=>l.length -i) 0 ⟨n_5 _,O⟩ tu_ (am:=[]) O B5 uz_ ?_;intro i ⟨hi,hr⟩;refine qk (qC ?_ ?_)<;> intro h2
  .have af:i<l.length:=sm_ h2;obtain⟨x,hx,_⟩:=a2n af;obtain⟨y,hy,_⟩:=a2n (l:=ts) (i:=i) G;rw[c1w hx hy]at hr;refine qY (r6 O J J O O t_2 t_0 G (j5 hx) O) ?_;refine qY c9n ?_;refine qY b1n ?_;refine qC ?_ ?_<;>intro h3
   .have fq:¬x=y:=D h3;rw[W fq]at hr;refine c6 ?_;exact⟨_,r8 (rs:=[.tmp 8,.tmp 9]) (cs:=[_,_]) O a0d (n_4 O),e2H⟩
   .have fq:x=y:=D h3;rw[Q fq]at hr;exact b5O
  .have aH:l.length<=i:=sm_ h2;rw[Y4 aH]at hr;refine a0i ?_;exact⟨_,r8 (rs:=[.tmp 8,.tmp 9]) (cs:=[_,_]) O a0d (n_4 O),e2H⟩
theorem c8M(fl:List Fi)(nn:Bool)(bK:∀f∈fl,f.p.length<=1000000000)(ev:List Va)(en:Bool)(ie:∀v∈ev,-9223372036854775808<=v.v/\v.v<=9223372036854775807)(k:List Ky)(nk:Bool)(hl:k.length<=1000000000)(hk:∀x∈k,x.a.length<=1000000000/\x.b.length<=1000000000)(ts:List I)(nt:Bool)(σ:List b9):b8 CC 55 [.agg (A0 fl nn),.agg (a0n ev en),.list (k.map Ky.cv) nk none,.list (ts.map scv) nt none] σ λr τ=>r= .ret (d2p (a4l fl ev k ts))/\τ=σ:=
 (D8 (res:=λ_:Unit=>.ret (d2p (a4l fl ev k ts))) (P:=λ_=>True) hCC (λa h=>by simp at h;rcases h with rfl|rfl|rfl|rfl;exact o0 (cs:=A0 _ _) ⟨D9 _ _,J⟩;exact o0 (cs:=a0n _ _) ⟨a1j _ _,J⟩;exact G7 _ _;exact F2 _ _) (c7g fl nn bK ev en ie k nk hl hk ts nt) (λ_ _=>C5 (cs:=[_,_]) ⟨.val _,.val _,J⟩) σ).mono λr τ ⟨_,h1,h2,_⟩=>⟨h1,h2⟩
def a6F(f:Fi):Option Src:=if a4v f.p=true then O5 f.b else none
def deK(x:Src)(d:De):Nm:=C0 d.k x.pkg d.name
def c2a(q:Nm)(f:Fi):List (Src×De):=match a6F f with
 |none=>[]
 |some x=>(x.decls.filter λd=>decide (deK x d=q)).map λd=>(x,d)
def occ(q:Nm)(fl:List Fi):List (Src×De):=fl.flatMap (c2a q)
noncomputable def d3l:List (Src×De)->I
 | []=>[45]
 | [(x,d)]=>[61]++a6o x d
 |_=>[63]
def a8p(ms:SM)(o:Option En):List (Src×De)->Prop
 | []=>o=none
 |(x,d)::t=>∃e,o=some e/\e.ct=1+(t.length:Int)/\glk ms e.pl=some x/\0<=e.ix/\x.decls[e.ix.toNat]?=some d
theorem a8p.add{Ja:Nm->List (Src×De)}(h:∀q,a8p ms (glk me q) (Ja q)){path:I}{x:Src}{i:Nat}(hg:glk ms path=some x)(hd:x.decls[i]?=some d)(q:Nm):a8p ms (glk (a0l me ⟨x.pkg,d.name,d.k,path,(i:Int),1⟩) q) (Ja q++if deK x d=q then [(x,d)]else []):=by
 rw[a0l,G8];show a8p ms (if q=C0 d.k x.pkg d.name then _ else _) _;by_cases hq:deK x d=q
 .rw [Q hq];subst hq;have h1:=h (deK x d);rw[Q (show deK x d=C0 d.k x.pkg d.name from O)];cases hO:Ja (deK x d)with
  |nil=>
   rw[hO]at h1;have h1:glk me (C0 d.k x.pkg d.name)=none:=h1;simp only[h1];exact⟨_,O,O,hg,Int.natCast_nonneg _,D hd⟩
  |cons y t=>
   obtain⟨y,z⟩:=y;rw[hO]at h1;obtain⟨e,h2,h3,h4,h5,h6⟩:=h1;have h2:glk me (C0 d.k x.pkg d.name)=some e:=h2;simp only[h2];refine⟨_,O,?_,h4,h5,h6⟩;show e.ct+1=1+((t++[(x,d)]).length:Int);rw[h3,n_8];simp only[D3,K8];omega
 .rw [W hq,Z7];rw[W (λe=>hq e.symm)];exact h q
theorem a8p.addDs{ms:SM}{path:I}{x:Src}(hg:glk ms path=some x):∀(n k:Nat) (me:EM) (Ja:Nm->List (Src×De)),x.decls.length -k=n->(∀q,a8p ms (glk me q) (Ja q))->∀q,a8p ms (glk (addDs me path x.pkg (x.decls.drop k) k) q) (Ja q++(((x.decls.drop k).filter λd=>decide (deK x d=q)).map λd=>(x,d)))
 |0,k,me,Ja,hn,h,q=>by
  rw[Y4 G,Go.Proofs.YtncmhkpnclafkaaGreatDoor.addDs];simpa using h q
 |n+1,k,me,Ja,hn,h,q=>by
  obtain⟨d,hd⟩:=gx_ x.decls k;rw[a3Q hd];have h1:=a8p.addDs hg n (k+1) _ _ G (λq=>a8p.add h hg hd q) q;have hdr:x.decls.drop k=d::x.decls.drop (k+1):=by
   obtain⟨af,rfl⟩:=n_2.1 hd;exact Y0 af
  rw[hdr,b2n];by_cases hq:deK x d=q
  .rw [Q (D hq),a8C];rw[Q hq,H5]at h1;exact h1
  .rw [W (D hq)];rw[W hq,Z7]at h1;exact h1
theorem a8p.put{o:Option En}{l:List (Src×De)}{path:I}{x:Src}(h:a8p ms o l)(hp:glk ms path=none):a8p (L5 ms path x) o l:=by
 rcases l with _|⟨⟨y,d⟩,t⟩
 .exact h
 .obtain ⟨e,h1,h2,h3,h4⟩:=h;refine⟨e,h1,h2,?_,h4⟩;rw[G8,W]
  .exact h3
  .intro he;rw[he,hp]at h3;cases h3
structure WRd(dn:List Fi)(ms:SM)(me:EM):Prop where
 src:∀f∈dn,glk ms f.p=a6F f
 non:∀p,(∀f∈dn,f.p≠p)->glk ms p=none
 ent:∀q,a8p ms (glk me q) (occ q dn)
theorem WRd.step{dn:List Fi}{s:WS}{f:Fi}(h:WRd dn s.2.1 s.2.2)(hf:∀g∈dn,g.p≠f.p):WRd (dn++[f]) (S5 s f).2.1 (S5 s f).2.2:=by
 have hnone:=h.non f.p hf;have hocc:∀q,occ q (dn++[f])=occ q dn++c2a q f:=λq=>by simp[occ]
 cases hs:a6F f with
 |none=>
  have hw:(S5 s f).2=s.2:=by
   unfold S5;unfold a6F at hs
   split
   .rename_i h1;rw[Q h1]at hs;rw[hs]
   .rfl
  have e1:(S5 s f).2.1=s.2.1:=by rw[hw]
  have e2:(S5 s f).2.2=s.2.2:=by rw[hw]
  rw[e1,e2];refine⟨λg hg=>?_,λp hp=>h.non p λg hg=>hp g (by simp[hg]),λq=>?_⟩
  .rcases T9.1 hg with hg|hg
   .exact h.src g hg
   .rw [a2T.1 hg,hs];exact hnone
  .rw [hocc,c2a,hs,Z7];exact h.ent q
 |some x=>
  have hw:(S5 s f).2=(L5 s.2.1 f.p x,addDs s.2.2 f.p x.pkg x.decls 0):=by
   unfold S5;unfold a6F at hs;split at hs
   .rename_i h1;rw[Q h1,hs]
   .cases hs
  have e1:(S5 s f).2.1=L5 s.2.1 f.p x:=by rw[hw]
  have e2:(S5 s f).2.2=addDs s.2.2 f.p x.pkg x.decls 0:=by rw[hw]
  rw[e1,e2];refine⟨λg hg=>?_,λp hp=>?_,λq=>?_⟩
  .rw [G8]
   rcases T9.1 hg with hg|hg
   .rw [W (hf g hg)];exact h.src g hg
   .rw [a2T.1 hg,Q O,hs]
  .rw [G8,W (λe=>hp f U e.symm)];exact h.non p λg hg=>hp g (by simp[hg])
  .rw [hocc,c2a,hs];have hg:glk (L5 s.2.1 f.p x) f.p=some x:=by rw[G8,Q O]
   have:=a8p.addDs hg _ 0 s.2.2 (λq=>occ q dn) O (λq=>(h.ent q).put hnone) q;simpa using this
theorem WRd.all:∀{l dn:List Fi} {s:WS},WRd dn s.2.1 s.2.2->(l.Pairwise λa b=>a.p≠b.p)->(∀g∈dn,∀f∈l,g.p≠f.p)->WRd (dn++l) (a4I l s).2.1 (a4I l s).2.2
 | [],dn,s,h,_,_=>by simpa[a4I]using h
 |f::l,dn,s,h,hp,hd=>by
  have h1:=h.step (f:=f) λg hg=>hd g hg f U;obtain⟨gu,cB⟩:=a1D.1 hp;have:=WRd.all (l:=l) h1 cB (λg hg e he=>by
   rcases T9.1 hg with hg|hg
   .exact hd g hg e (by simp[he])
   .rw [a2T.1 hg];exact gu e he)
  rw[H5]at this;exact this
theorem d9a(h:C7 fl=0):fl.Pairwise λa b=>a.p≠b.p:=by
 have h0:rvE none fl=0:=by
  unfold C7 at h;split at h
  .cases h
  .exact h
 exact(b5H h0).2.imp λ{a b} df he=>by rw[he]at df;exact List.lt_irrefl _ df
theorem d6c(h:C7 fl=0):WRd fl (A6 fl).2.1 (A6 fl).2.2:=by
 have:=WRd.all (l:=fl) (dn:=[]) (s:=([],[],[])) ⟨λf hf=>by simp at hf,λp _=>O,λq=>O⟩ (d9a h) (λg hg=>by simp at hg);rw[A6,Q h];simpa using this
theorem c6U(h:glk me (C0 k p o)=none):(B3 true me k p o).ct=0:=by
 unfold B3;rw[Q O,h]
theorem a9m(h:C7 fl=0)(k:Int)(p o:I):a1B (A6 fl).2.1 (B3 true (A6 fl).2.2 k p o)=d3l (occ (C0 k p o) fl):=by
 have h1:=(d6c h).ent (C0 k p o);cases hO:occ (C0 k p o) fl with
 |nil=>
  rw[hO]at h1;unfold a1B;rw[Q (c6U h1)];rfl
 |cons y t=>
  obtain⟨x,d⟩:=y;rw[hO]at h1;obtain⟨e,h2,h3,h4,h5,h6⟩:=h1;have he:B3 true (A6 fl).2.2 k p o=e:=by
   unfold B3;rw[Q O,h2]
  rw[he];unfold a1B;rw[W G];cases t with
  |nil=>
   rw[Q (D h3)];unfold c3J;rw[h4];simp only[n_9,h6,b95,a84];rfl
  |cons z t=>
   rw[W (by rw[h3,D3];omega)];rfl
theorem d3C:∀{l:List Fi} {pv:Option Fi},(∀f∈l,F8 f.p=true/\f.b.length<=16384)->c7d l->(∀g,pv=some g->∀f∈l,Op.bytesLess g.p f.p=true)->rvE pv l=0
 | [],_,_,_,_=>rfl
 |f::l,pv,h,hs,hp=>by
  obtain⟨h1,h2⟩:=a1D.1 hs;have hf:=h f U;have e0:J6 pv f=0:=by
   unfold J6;rw[W (by rw[hf.1];simp)];cases pv with
   |none=>
    rw[W U,W U,W G]
   |some g=>
    have hg:=hp g O f U;have ax:¬f.p=g.p:=λe=>by rw[e,b50]at hg;cases hg
    have hnl:¬Op.bytesLess f.p g.p=true:=λe=>by
     have:=a7k hg e;rw[b50]at this;cases this
    rw[W (D ax),W (D hnl),W G]
  rw[rvE,Q e0];exact d3C (λg hg=>h g (by simp[hg])) h2 λg hg=>by injection hg with hg;subst hg;exact h1
theorem b8u:∀s∈a3P,F8 s=true/\s.length<=1000:=by decide
theorem O3.valid(h:O3 B fl)(hB:B<=16384):C7 fl=0:=by
 have hl:=h.len;unfold C7;rw[W G];exact d3C (λf hf=>⟨(b8u _ (h.pth f hf)).1,a1u (h.byt f hf) hB⟩) h.srt λg hg=>by cases hg
theorem O3.plen(h:O3 B fl):∀f∈fl,f.p.length<=1000000000:=λf hf=>by
 have:=(b8u _ (h.pth f hf)).2;omega
theorem e1u:∀m:Nat,m<3->([122]++a5h m++[46,115,114,99]:I)∈a3P:=λm hm=>by
 have h3:m=0\/m=1\/m=2:=by omega
 rcases h3 with rfl|rfl|rfl<;>rw[a7x G]<;>decide
theorem d2u(l:List Int)(nn:Bool)(k:Nat)(aU:k<=500000000)(hl:l.length<=maxLen)(B:Nat)(hB:6300<=B/\B<=1000000)(fl:List Fi)(hm:O3 B fl):b8 CC 8 [.ptr 0 0,(.agg (A0 fl (gnn fl.length)))] [w8 l nn k] λr τ=>∃a:List Fi×Nat,F0 1 τ r (.ret (.agg (A0 a.1 (gnn a.1.length)))) [w8 l nn a.2]/\(O3 (B+1240) a.1/\k<=a.2/\a.2<=k+1080):=by
 refine cO Tryz.func8 ?_;refine qs 2 (qD (H3 O J j2 j4 ?_));refine qD (o6 O c6y O j4 ?_);refine qY (c5 O Tryz.call28 trivial (a7z _) O) ?_;refine qD (c4 O a3a i7 (G9 l nn (k) _ 0 O G hl J3 H H) O ?_);intro sp ah;have hspa:=c35 _ ah;have hml:=hm.len;refine a07 hCC (α:=Nat) (λ_=>[(0,.ptr 0 0),(3,.ptr 1 0),(4,.ptr 2 0),(5,(sv sp))]) (λp=>[w8 l nn (p),.box (A0 fl (gnn fl.length)),.box (A0 [] false)]) (λp=>p=k+2) B5 uz_ ?_ ?_
 .
  refine qk (qD (c4 O a6K o3 (K0 l nn (k+1) _ 0 O G hl 9 G) O ?_));intro _ _;refine qC ?_ ?_<;>intro h1
  .refine cF [] [0,1,2,4] (tl:=[(3,[0,3]),(5,[0]),(6,[0]),(7,[]),(8,[])]) ?_;refine c1K ?_;refine chf O (c8 O e2x) ?_;refine b8h ?_;refine B6 O O O (c4 O a3a i7 (G9 l nn (k+2) _ 0 O G hl a1I H H) O ?_);intro v hv;refine⟨⟨a11,D7,J⟩,?_⟩;refine B6 O O O (c4 O Tryz.call30 ⟨J,J⟩ (c2R l nn (k+3) G hl _ 0 O) O ?_);intro⟨s,p4⟩ ⟨hs,bW,ce⟩;dsimp only at hs bW ce⊢;refine⟨⟨a11,J⟩,?_⟩;refine E8 O O d4p ⟨⟨a11,J⟩,?_⟩;refine E8 O O (c8 O (c5 O c1t i7 (a0L fl _ ⟨v,s⟩ G _) O)) ⟨J,?_⟩;refine b1a ?_;refine c6 ?_;exact⟨_,B1 O a4j,⟨(a6f fl ⟨v,s⟩,p4),a2V O X3 (.old (R7 _ _).old),(hm.mono G).ins (c2Y _ hv) do_,do_,do_⟩⟩
  .refine qC ?_ ?_<;>intro h2
   .refine cF [] [0,1,2] (tl:=[(3,[0]),(4,[]),(5,[])]) ?_;refine c1K ?_;refine chf O (c8 O (A9 (([[97,46,100,97,116],[100,47,98,46,100,97,116],[99],[97,46,115,114,99],[98,46,115,114,99]]:List I).map scv) O ⟨O,O,O,O,O,J⟩ t_2 t_0 t_3 O O O O O O O O O)) ?_;refine H4 ?_;refine B6 O O O (c4 O a3a i7 (G9 l nn (k+2) _ 0 O G hl ([[97,46,100,97,116],[100,47,98,46,100,97,116],[99],[97,46,115,114,99],[98,46,115,114,99]]:List I) H H) O ?_);intro v hv;refine⟨⟨a11,J⟩,?_⟩;refine E8 O O (c8 O (c5 O Tryz.call31 i7 (b3Z fl _ v G _) O)) ⟨J,?_⟩;refine b1a ?_;refine c6 ?_;exact⟨_,B1 O a4j,⟨(a4U fl v,k+3),a2V O X3 (.old (R7 _ _).old),(hm.mono G).rem v,do_,do_⟩⟩
   .refine qC ?_ ?_<;>intro h3
    .refine d2R ?_;refine b7Q ?_;refine chf O d3x ?_;refine d7b ?_;intro v hv;have dy:v.length<=8:=R1 (.inl hv);refine d7t ?_;intro⟨s,p4⟩ ⟨hs,bW,ce⟩;dsimp only at hs bW ce⊢;refine d4N ?_;refine d8z ?_;exact d9e
    .refine qC ?_ ?_<;>intro h4
     .refine qY a08 ?_;refine o4 hCC (λi:Nat=>[(0,.ptr 0 0),(3,.ptr 1 0),(4,.ptr 2 0),(5,(sv sp)),(50,(.list (fl.map Fi.cv) (gnn fl.length) none)),(51,iv fl.length),(52,iv i)]) (λ_=>[w8 l nn (k+2),.box (A0 fl (gnn fl.length)),.box (A0 [] false)]) (λi=>i<=fl.length) (λi=>fl.length -i) 0 (n_5 _) tu_ (am:=[]) O B5 uz_ ?_;intro i hi;refine qk (qC ?_ ?_)<;> intro h5
      .have af:i<fl.length:=sm_ h5;obtain⟨y,hb,fy⟩:=a2n af;have hyb:=hm.byt y fy;refine b3I ?_;refine qC ?_ ?_<;>intro h6
       .have cQ:(a4U fl sp).length<=fl.length:=b76 _ _;have hb3:=a3r (l:=l) (k:=k+2) (n:=3) G;obtain⟨m,bA⟩:∃m:Nat,H7 l (k+2) 3=(m:Int):=⟨(H7 l (k+2) 3).toNat,G⟩;have gr:m<3:=by omega
        have hzp:=e1u m gr;have dT:=a14 0 m G;refine cF [] [0,1,2,3,8,9] (tl:=[(4,[4,5]),(5,[4,5]),(6,[4,5]),(7,[4,5]),(10,[]),(11,[]),(12,[])]) ?_;refine c1K ?_;refine chf O (c8 O (c5 O Tryz.call31 i7 (b3Z fl _ sp G _) O)) ?_;refine chf O S8 ?_;refine b4E ?_;refine H4 ?_;refine B6 O O O (c4 O a6K o3 (K0 l nn (k+2) _ 0 O G hl 3 G) O ?_);intro _ _;rw[bA];refine⟨⟨a6E,a4q,J⟩,?_⟩;refine E8 O O (c8 O c48) ⟨⟨a6E,a4q,J⟩,?_⟩;refine E8 O O (c8 O b1e) ⟨⟨a6E,a4q,J⟩,?_⟩;refine E8 O O c3Q ⟨⟨a6E,a4q,J⟩,?_⟩;refine E8 O O d4p ⟨J,?_⟩;refine E8 O O (c8 O (c5 O c1t i7 (a0L (a4U fl sp) _ ⟨[122]++a5h m++[46,115,114,99],y.b⟩ G _) O)) ⟨J,?_⟩;refine b1a ?_;refine c6 ?_;exact⟨_,B1 O a4j,⟨(a6f (a4U fl sp) ⟨[122]++a5h m++[46,115,114,99],y.b⟩,k+3),a2V O X3 (.old (R7 _ _).old),((hm.mono G).rem sp).ins hzp do_,do_,do_⟩⟩
       .exact b8j
      .exact c4A
     .refine qC ?_ ?_<;>intro h7
      .refine qY a08 ?_;refine o4 hCC (λi:Nat=>[(0,.ptr 0 0),(3,.ptr 1 0),(4,.ptr 2 0),(5,(sv sp)),(76,(.list (fl.map Fi.cv) (gnn fl.length) none)),(77,iv fl.length),(78,iv i)]) (λ_=>[w8 l nn (k+2),.box (A0 fl (gnn fl.length)),.box (A0 [] false)]) (λi=>i<=fl.length) (λi=>fl.length -i) 0 (n_5 _) tu_ (am:=[]) O B5 uz_ ?_;intro i hi;refine qk (qC ?_ ?_)<;> intro h8
       .have af:i<fl.length:=sm_ h8;obtain⟨y,hb,fy⟩:=a2n af;have hyb:=hm.byt y fy;refine b3I ?_;refine qC ?_ ?_<;>intro h9
        .have hb3:=a3r (l:=l) (k:=k+2) (n:=100) G;obtain⟨m,bA⟩:∃m:Nat,H7 l (k+2) 100=(m:Int):=⟨(H7 l (k+2) 100).toNat,G⟩;have gr:m<100:=by omega
         have dT:=a14 1 m G;refine cF [] [0,1,2,7,8] (tl:=[(3,[0,1,3,4]),(4,[0,1,3,4]),(5,[0,1,3,4]),(6,[0,1,3,4]),(9,[0,1]),(10,[0]),(11,[]),(12,[])]) ?_;refine c1K ?_;refine chf O S8 ?_;refine b4E ?_;refine H4 ?_;refine B6 O O O (c4 O a6K o3 (K0 l nn (k+2) _ 0 O G hl 100 G) O ?_);intro _ _;rw[bA];refine⟨⟨a11,D7,a6E,a4q,J⟩,?_⟩;refine E8 O O (c8 O c48) ⟨⟨a11,D7,a6E,a4q,J⟩,?_⟩;refine E8 O O (c8 O b1e) ⟨⟨a11,D7,a6E,a4q,J⟩,?_⟩;refine E8 O O c3Q ⟨⟨a11,D7,a6E,a4q,J⟩,?_⟩;refine d8F ?_;refine E8 O O (c8 O (c5 O c1t i7 (a0L fl _ ⟨sp,[35,32]++a5h m++[10,32,32]++y.b⟩ G _) O)) ⟨J,?_⟩;refine b1a ?_;refine c6 ?_;exact⟨_,B1 O a4j,⟨(a6f fl ⟨sp,[35,32]++a5h m++[10,32,32]++y.b⟩,k+3),a2V O X3 (.old (R7 _ _).old),(hm.mono G).ins (hspa) b67,do_,do_⟩⟩
        .exact b8j
       .exact c4A
      .refine qC ?_ ?_<;>intro bp
       .refine qY a08 ?_;refine o4 hCC (λi:Nat=>[(0,.ptr 0 0),(3,.ptr 1 0),(4,.ptr 2 0),(5,(sv sp)),(102,(.list (fl.map Fi.cv) (gnn fl.length) none)),(103,iv fl.length),(104,iv i)]) (λ_=>[w8 l nn (k+2),.box (A0 fl (gnn fl.length)),.box (A0 [] false)]) (λi=>i<=fl.length) (λi=>fl.length -i) 0 (n_5 _) tu_ (am:=[]) O B5 uz_ ?_;intro i hi;refine qk (qC ?_ ?_)<;> intro eF
        .have af:i<fl.length:=sm_ eF;obtain⟨y,hb,fy⟩:=a2n af;have hyb:=hm.byt y fy;refine b3I ?_;refine qC ?_ ?_<;>intro eG
         .refine qY a6H ?_;refine qY (A1 #[(0,1),(1,1)] O i7 b63 a68 O ⟨_,O⟩ (λw=>by kernel_rfl) O O) ?_;refine qY (c5 O c1t i7 (a0L fl _ ⟨sp,y.b++[102,117,110,99]⟩ G _) O) ?_;refine d3R ?_;exact⟨_,B1 O a4j,⟨(a6f fl ⟨sp,y.b++[102,117,110,99]⟩,k+2),a2V O X3 (.old (R7 _ _).old),(hm.mono G).ins (hspa) b67,do_,do_⟩⟩
         .exact b8j
        .exact c4A
       .exact ⟨(k+2),_,O,tu_,O⟩
 .intro p hp;subst hp;refine a07 hCC (α:=Nat) (λ_=>[(0,.ptr 0 0),(3,.ptr 1 0),(4,.ptr 2 0),(5,(sv sp))]) (λp=>[w8 l nn (p),.box (A0 fl (gnn fl.length)),.box (A0 [] false)]) (λp=>p=k+2) B5 uz_ ?_ ?_
  .
   refine qk (qY a08 ?_);refine o4 hCC (λi:Nat=>[(0,.ptr 0 0),(3,.ptr 1 0),(4,.ptr 2 0),(5,(sv sp)),(121,(.list (fl.map Fi.cv) (gnn fl.length) none)),(122,iv fl.length),(123,iv i)]) (λ_=>[w8 l nn (k+2),.box (A0 fl (gnn fl.length)),.box (A0 [] false)]) (λi=>i<=fl.length) (λi=>fl.length -i) 0 (n_5 _) tu_ (am:=[]) O B5 uz_ ?_;intro i hi;refine qk (qC ?_ ?_)<;> intro eH
   .have af:i<fl.length:=sm_ eH;obtain⟨y,hb,fy⟩:=a2n af;have hyb:=hm.byt y fy;refine b3I ?_;refine qC ?_ ?_<;>intro h14
    .refine cF [] [0,1,2,3,4] (tl:=[(5,[0,1,2,3]),(6,[0,1]),(7,[0]),(8,[]),(9,[])]) ?_;refine c1K ?_;refine b4E ?_;refine b8h ?_;refine B6 O O O (c4 O Tryz.call35 ⟨J,J⟩ (c39 l nn (k+2) G hl _ 0 O) O ?_);intro⟨s,p4⟩ ⟨hs,bW,ce⟩;dsimp only at hs bW ce⊢;refine⟨⟨a11,D7,a6E,a4q,J⟩,?_⟩;refine d8F ?_;refine E8 O O (c8 O (c5 O c1t i7 (a0L fl _ ⟨sp,y.b++s⟩ G _) O)) ⟨J,?_⟩;refine b1a ?_;refine c6 ?_;exact⟨_,B1 O a4j,⟨(a6f fl ⟨sp,y.b++s⟩,p4),a2V O X3 (.old (R7 _ _).old),(hm.mono G).ins (hspa) (by show List.length _<=_;simp only[n_8];omega),do_,do_⟩⟩
    .exact b8j
   .exact c4A
  .intro p hp;subst hp;refine qk ?_;refine d2R ?_;refine b7Q ?_;refine chf O d3x ?_;refine d7b ?_;intro v hv;have dy:v.length<=8:=R1 (.inl hv);refine d7t ?_;intro⟨s,p4⟩ ⟨hs,bW,ce⟩;dsimp only at hs bW ce⊢;refine d4N ?_;refine d8z ?_;exact d9e
theorem d5e(l:List Int)(nn:Bool)(k:Nat)(aU:k<=500000000)(hl:l.length<=maxLen)(B:Nat)(hB:6300<=B/\B<=1000000)(fl:List Fi)(hm:O3 B fl)(σ:List b9)(q:Nat)(hq:σ[q]?=some (w8 l nn k)):b8 CC 8 [.ptr q 0,(.agg (A0 fl (gnn fl.length)))] σ λr τ=>∃a:List Fi×Nat,r= .ret (.agg (A0 a.1 (gnn a.1.length)))/\τ=σ.set q (w8 l nn a.2)/\(O3 (B+1240) a.1/\k<=a.2/\a.2<=k+1080):=
 a9y (c:=λa:List Fi×Nat=>(.agg (A0 a.1 (gnn a.1.length)))) (S:=λa=>w8 l nn a.2) hCC (λa h=>by simp at h;subst h;exact R7 _ _) (λ_=>R7 _ _) (λ_=>G3 _ _ _) (G3 _ _ _) O (d2u l nn k aU hl B hB fl hm) σ q hq
def d5g:List I:=[[109],[110]]
structure c4l(ev:List Va):Prop where
 sub:(ev.map Va.n).Sublist d5g
 rng:∀v∈ev,-9007199254740992<=v.v/\v.v<=9007199254740992
theorem c4l.len(h:c4l ev):ev.length<=2:=by
 have:=h.sub.length_le;rw[K6]at this;exact this
structure e1U where
 res:Int×Int×Int
 rn:Bool
 tr:List Ky
 st:Int
abbrev e1U.cells(a:e1U):List CV:=[iv a.res.1,iv a.res.2.1,iv a.res.2.2,.val (.bool a.rn),.list (a.tr.map Ky.cv) (gnn a.tr.length) none,iv a.st]
noncomputable def mcR(fl:List Fi)(nn:Bool)(ev:List Va)(en:Bool)(wd:Int):MC:=⟨fl,nn,(A6 fl).1,(A6 fl).2.1,(A6 fl).2.2,ev,en,wd⟩
def a0w(c:MC)(p o:I):En:=B3 true c.me 2 p o
def kyT(p o:I):Ky:=⟨2,p,o⟩
theorem e15(hm:O3 B fl)(hB:B<=16384)(he:c4l ev){wd:Int}(hw:0<=wd/\wd<18446744073709551616)(nn en:Bool):McG (mcR fl nn ev en wd) where
 w:=b6h (hm.valid hB)
 k:=c8U (hm.valid hB)
 ev:=⟨by show ev.length<=1000000;have:=he.len;omega,he.rng⟩
 wd:=hw
structure d4c(fl:List Fi):Prop where
 pl:∀f∈fl,f.p.length<=1000000000
 len:fl.length<=64
 es:(A6 fl).2.2.length<=10000
 ss:(A6 fl).2.1.length<=64
 im:∀x∈(A6 fl).2.1,x.2.imports.length<=8
 ky:∀k∈KU fl,k.a.length<=1000000000/\k.b.length<=1000000000
def b2S(l:List Ky):Prop:=l.Pairwise λx y=>ltK x y=true
theorem b96{a b:List Ky}(ha:b2S a)(hb:b2S b)(h:∀x,x∈a↔x∈b):a=b:=by
 have nd:∀{l:List Ky},b2S l->l.Nodup:=λhl=>hl.imp λ{x y} fq e=>by
  subst e;rw[a8j]at fq;cases fq
 refine List.Perm.eq_of_pairwise (le:=λx y=>ltK x y=true) (λx y _ _ h1 h2=>?_) ha hb ((d2O (nd ha) (nd hb)).2 h);have:=a3o h1 h2;rw[a8j]at this;cases this
theorem b3Y(y k:Ky)(l:List Ky):a6Q (y::l) k=if ltK y k=true then y::a6Q l k else if y=k then y::l else k::y::l:=by
 unfold a6Q;rw[show b26 k (y::l)=if ltK y k=true then b26 k l+1 else 0 from O];by_cases h:ltK y k=true
 .simp only[h,if_true,c42,a6Y,List.drop_succ_cons]
  split<;>simp
 .simp only[h,if_false,b09,List.getElem?_cons_zero,Option.some.injEq,List.take_zero,b0k,a7j]
theorem b1C{k x:Ky}:∀{l:List Ky},x∈a6Q l k↔x=k\/x∈l
 | []=>by simp[a6Q,b26]
 |y::l=>by
  have ih:=b1C (k:=k) (x:=x) (l:=l);rw[b3Y]
  split
  .rw [J2,ih,J2];constructor
   .rintro (h|h|h)
    .exact .inr (.inl h)
    .exact .inl h
    .exact .inr (.inr h)
   .rintro (h|h|h)
    .exact .inr (.inl h)
    .exact .inl h
    .exact .inr (.inr h)
  .split
   .rename_i h;subst h;rw[J2];constructor
    .exact .inr
    .rintro (h|h)
     .exact .inl h
     .exact h
   .rw [J2]
theorem b9v{k:Ky}:∀{l:List Ky},b2S l->b2S (a6Q l k)
 | [],_=>by simp[a6Q,b26,b2S]
 |y::l,h=>by
  obtain⟨h1,h2⟩:=a1D.1 h;rw[b3Y]
  split
  .rename_i hy;refine a1D.2 ⟨λx hx=>?_,b9v h2⟩
   rcases b1C.1 hx with rfl|hx
   .exact hy
   .exact h1 x hx
  .rename_i hy
   split
   .exact h
   .rename_i ax;have hk:ltK k y=true:=by
     cases e:ltK k y
     .exact absurd (a8f (D hy) e) ax
     .rfl
    refine a1D.2 ⟨λx hx=>?_,h⟩
    rcases J2.1 hx with rfl|hx
    .exact hk
    .exact a3o hk (h1 x hx)
theorem a0U(l:List Ky):b2S (c6z l)/\∀x,x∈c6z l↔x∈l:=by
 have h:∀(l a:List Ky),b2S a->b2S (l.foldl a6Q a)/\∀x,x∈l.foldl a6Q a↔x∈a\/x∈l:=by
  intro l
  induction l with
  |nil=>intro a ha;exact⟨ha,λx=>by simp⟩
  |cons y l ih=>
   intro a ha;obtain⟨h1,h2⟩:=ih (a6Q a y) (b9v ha);refine⟨h1,λx=>?_⟩;rw[b4Z,h2,b1C,J2];constructor
   .rintro ((h|h)|h)
    .exact .inr (.inl h)
    .exact .inl h
    .exact .inr (.inr h)
   .rintro (h|h|h)
    .exact .inl (.inr h)
    .exact .inl (.inl h)
    .exact .inr h
 obtain⟨h1,h2⟩:=h l [] List.Pairwise.nil;exact⟨h1,λx=>by rw[c6z,h2];simp⟩
theorem b5C{x:Ky}:∀{l:List Ky},x∈ddK l↔x∈l
 | []=>by simp[ddK]
 | [a]=>by simp[ddK]
 |a::b::l=>by
  have ih:=b5C (x:=x) (l:=b::l);rw[b3Q]
  split
  .rename_i h;subst h;rw[ih];simp
  .rw [J2,ih];simp
theorem c4r:∀{l:List Ky},(l.Pairwise λx y=>ltK y x=false)->b2S (ddK l)
 | [],_=>.nil
 | [a],_=>List.pairwise_singleton _ _
 |a::b::l,h=>by
  obtain⟨h1,h2⟩:=a1D.1 h;have ih:=c4r h2;rw[b3Q]
  split
  .exact ih
  .rename_i ax;refine a1D.2 ⟨λy hy=>?_,ih⟩;have iH:=b5C.1 hy;cases e:ltK a y
   .have ea:=a8f e (h1 y iH);subst ea
    rcases J2.1 iH with e2|hl
    .exact absurd e2 ax
    .have h3:=(a1D.1 h2).1 a hl;have h4:=h1 b b0r;exact absurd (a8f h3 h4) ax
   .rfl
theorem a1O(l:List Ky):P8 l=c6z l:=by
 obtain⟨h1,h2⟩:=a0U l;refine b96 (c4r ?_) h1 λx=>?_
 .have hp:=c37 (le:=λx y=>!(Go.Proofs.ltOf Z8) y x) (λa b c h k=>?_) (λa b=>?_) l
  .exact hp.imp λ{x y} h=>by simpa[a5u]using h
  .simp only[b9E,a5u]at*;exact(show ltK c a=false from by
    rw[<- a5u]at*;exact d8Y.ntrans c b a k h)
  .simp only[a80,b9E,a5u];cases e:ltK b a
   .exact .inl O
   .right
    cases e2:ltK a b
    .rfl
    .have:=a3o e e2;rw[a8j]at this;cases this
 .rw [h2,P8,b5C];exact(b3U _ _).mem_iff
theorem d0J{a b:List Ky}(h:∀x,x∈a↔x∈b):P8 a=P8 b:=by
 rw[a1O,a1O];exact b96 (a0U a).1 (a0U b).1 λx=>by rw[(a0U a).2,(a0U b).2,h]
theorem b04(l:List Ky):(P8 l).length<=l.length:=by rw[a1O];exact c73 l
structure EnV(q:Nm)(e:En):Prop where
 key:q=C0 e.k e.p e.o
 kind:e.k=1\/e.k=2\/e.k=3
 pkg:B9 e.p=true
 own:e.k≠3->B9 e.o=true
 pth:e.k=3->F8 e.o=true
theorem d9E(hx:EnV (C0 x.k x.p x.o) x)(h:∀y∈me,EnV y.1 y.2):∀y∈a0l me x,EnV y.1 y.2:=λy hy=>by
 unfold a0l at hy
 rcases a7m hy with rfl|hy
 .dsimp only
  split
  .rename_i f hf;have:=h _ (b2A hf);exact⟨this.key,this.kind,this.pkg,this.own,this.pth⟩
  .exact hx
 .exact h y hy
theorem c2S{path pkg:I}(hp:B9 pkg=true):∀(l:List De) (k:Nat) (me:EM),(∀d∈l,DeG d)->(∀y∈me,EnV y.1 y.2)->(∀y∈addDs me path pkg l k,EnV y.1 y.2)/\(addDs me path pkg l k).length<=me.length+l.length
 | [],k,me,_,h=>⟨h,n_6 _⟩
 |d::l,k,me,hd,h=>by
  have hg:=hd d b0r;obtain⟨h1,h2⟩:=c2S hp l (k+1) (a0l me ⟨pkg,d.name,d.k,path,k,1⟩) (λe he=>hd e (a13 _ he)) (d9E ⟨O,hg.kind,hp,λh3=>(hg.name h3).1,hg.path⟩ h);refine⟨h1,a1u h2 ?_⟩;have h3:(a0l me ⟨pkg,d.name,d.k,path,k,1⟩).length<=me.length+1:=b2I;rw[D3];omega
structure WV(n:Nat)(s:WS):Prop where
 src:∀x∈s.2.1,a09 x.2
 ent:∀x∈s.2.2,EnV x.1 x.2
 sl:s.2.1.length<=n
 el:s.2.2.length<=64*n
theorem WV.step{s:WS}(h:WV n s)(f:Fi):WV (n+1) (S5 s f):=by
 unfold S5;have gC:=h.el;have dV:=h.sl
 split
 .cases hp:O5 f.b with
  |none=>exact⟨h.src,h.ent,Nat.le_succ_of_le dV,do_⟩
  |some x=>
   have hx:=a5P hp;obtain⟨h1,h2⟩:=c2S (path:=f.p) hx.pkg.1 x.decls 0 s.2.2 hx.dec h.ent;have hd:=hx.decl;have:=b2I (a:=f.p) (c:=x) (l:=s.2.1);refine⟨λy hy=>?_,h1,do_,do_⟩
   rcases a7m hy with rfl|hy
   .exact hx
   .exact h.src y hy
 .exact ⟨h.src,h.ent,Nat.le_succ_of_le dV,G⟩
theorem c8T:∀{l:List Fi} {n:Nat} {s:WS},WV n s->WV (n+l.length) (a4I l s)
 | [],n,s,h=>h
 |f::l,n,s,h=>by
  have:=c8T (l:=l) (h.step f);rw[show n+1+l.length=n+(f::l).length by simp;omega]at this;exact this
theorem d0k(fl:List Fi):WV fl.length (A6 fl):=by
 unfold A6
 split
 .simpa using c8T (l:=fl) (n:=0) (s:=([],[],[])) ⟨λx h=>by simp at h,λx h=>by simp at h,n_6 _,n_6 _⟩
 .exact ⟨λx h=>by simp at h,λx h=>by simp at h,n_5 _,n_5 _⟩
theorem d6L{q:Nm}(h:EnV q e):I1 (d9G e)=true:=by
 unfold d9G
 rcases h.kind with hk|hk|hk
 .rw [Q hk];simp[I1,h.pkg,h.own G]
 .rw [W G,Q hk];simp[I1,h.pkg,h.own G]
 .rw [W G,W G];simp[I1,h.pth hk]
theorem d5Y{x:Src}(h:a09 x):∀k∈e1D x,I1 k=true:=λk hk=>by
 obtain⟨s,hs,hk⟩:=b3c.1 hk;have hn:B9 s=true:=by
  rcases J2.1 hs with rfl|hs
  .exact h.pkg.1
  .exact (h.imp s hs).1
 simp only[e2k,J2,b0l,or_false]at hk
 rcases hk with rfl|rfl<;>simp[I1,hn]
theorem e1v(h:C7 fl=0):∀k∈KU fl,I1 k=true:=λk hk=>by
 obtain⟨h1,h2⟩:=a7q h;have hv:=d0k fl;unfold KU at hk
 rcases T9.1 hk with hk|hk
 .rcases T9.1 hk with hk|hk
  .obtain ⟨f,hf,rfl⟩:=D6.1 hk;simp[d8h,I1,(h2 f hf).1]
  .obtain ⟨e,he,rfl⟩:=D6.1 hk;obtain⟨x,hx,rfl⟩:=D6.1 he;exact d6L (hv.ent x hx)
 .obtain ⟨x,hx,hk⟩:=b3c.1 hk;obtain⟨y,hy,rfl⟩:=D6.1 hx;exact d5Y (hv.src y hy) k hk
theorem a7L{k:Ky}(h:I1 k=true):k.a.length<=100/\k.b.length<=100:=by
 obtain⟨h1,h2⟩:=b9e h;refine⟨h2,?_⟩;unfold I1 at h;split at h
 .have:=H8 (Bool.and_eq_true_iff.1 h).2;omega
 .split at h
  .have:=b4J (Bool.and_eq_true_iff.1 h).2;rw[this];exact n_5 _
  .split at h
   .have:=b4J (Bool.and_eq_true_iff.1 h).2;rw[this];exact n_5 _
   .cases h
theorem d4c.of(h:C7 fl=0):d4c fl:=by
 obtain⟨h1,h2⟩:=a7q h;have hv:=d0k fl;have h3:=hv.el;have h4:=hv.sl;exact⟨λf hf=>by have:=a1K (h2 f hf).1;omega,h1,G,G,λx hx=>(hv.src x hx).impl,λk hk=>by have:=a7L (e1v h k hk);omega⟩
def er(t:Tok):Tok:=⟨t.k,t.t,t.n,0⟩
noncomputable def CF(fl:List Fi)(ev:List Va)(k:Ky):I:=a0e fl (A6 fl).2.1 (A6 fl).2.2 ev k
def c0n(q:Nm)(x:Src):List De:=x.decls.filter λd=>decide (deK x d=q)
theorem a5W(k:Int)(o pa pk:I):∀(l:List De) (j:Nat) (e:En),(fiD k o pa pk l j e).k=e.k/\(fiD k o pa pk l j e).o=e.o/\((fiD k o pa pk l j e).p=e.p\/(fiD k o pa pk l j e).p=pk)/\(fiD k o pa pk l j e).ct=e.ct+((l.filter λd=>d.k == k&&decide (d.name=o)).length:Int)
 | [],_,e=>⟨O,O,.inl O,by simp[fiD]⟩
 |d::l,j,e=>by
  unfold fiD;rw[b2n]
  split
  .split
   .obtain ⟨h1,h2,h3,h4⟩:=a5W k o pa pk l (j+1) ⟨pk,e.o,e.k,pa,j,e.ct+1⟩;exact⟨h1,h2,.inr (h3.elim id id),by rw[h4,D3];simp only;omega⟩
   .obtain ⟨h1,h2,h3,h4⟩:=a5W k o pa pk l (j+1) ⟨e.p,e.o,e.k,e.pl,e.ix,e.ct+1⟩;exact⟨h1,h2,h3,by rw[h4,D3];simp only;omega⟩
  .exact a5W k o pa pk l (j+1) e
theorem c1C{x:Src}(h:k≠3->x.pkg=p):(x.decls.filter λd=>d.k == k&&decide (d.name=o))=c0n (C0 k p o) x:=by
 unfold c0n;refine List.filter_congr λd _=>?_;rw[Bool.eq_iff_iff];simp only[T5,beq_iff_eq,a2t,deK,C0,Nm.mk.injEq];constructor
 .rintro ⟨rfl,rfl⟩;refine⟨O,?_,O⟩
  split
  .rfl
  .rename_i h3;exact h h3
 .rintro ⟨h1,_,h3⟩;exact⟨h1,h3⟩
theorem c74{x:Src}(h:k≠3)(hp:x.pkg≠p):c0n (C0 k p o) x=[]:=by
 unfold c0n;rw[List.filter_eq_nil_iff];intro d _ he;simp only[a2t,deK,C0,Nm.mk.injEq]at he;obtain⟨h1,h2,_⟩:=he;rw[h1,W h,W h]at h2;exact hp h2
theorem a5B(k:Int)(p o:I):∀(L:List (I×Src)) (e:En),(k≠3->e.p=p)->(fiL k p o L e).k=e.k/\(fiL k p o L e).o=e.o/\(k≠3->(fiL k p o L e).p=p)/\(fiL k p o L e).ct=e.ct+((L.flatMap λx=>c0n (C0 k p o) x.2).length:Int)
 | [],e,h=>⟨O,O,h,by simp[fiL]⟩
 |x::L,e,h=>by
  unfold fiL;rw[b35,n_8]
  split
  .rename_i hc;simp only[T5,bne_iff_ne,b9E,b1d,ne_eq]at hc;obtain⟨h1,h2,h3,h4⟩:=a5B k p o L e h;exact⟨h1,h2,h3,by rw[h4,c74 hc.1 hc.2];simp⟩
  .rename_i hc;have hp:k≠3->x.2.pkg=p:=λh3=>by
    simp only[T5,bne_iff_ne,b9E,b1d,ne_eq,not_and,Decidable.not_not]at hc;exact hc h3
   obtain⟨g1,g2,g3,g4⟩:=a5W k o x.1 x.2.pkg x.2.decls 0 e;obtain⟨h1,h2,h3,h4⟩:=a5B k p o L (fiD k o x.1 x.2.pkg x.2.decls 0 e) λh3=>g3.elim (λe1=>e1.trans (h h3)) λe1=>e1.trans (hp h3);exact⟨h1.trans g1,h2.trans g2,h3,by rw[h4,g4,c1C hp];omega⟩
theorem c0o(q:Nm):∀fl:List Fi,(occ q fl).length=((B8 fl).flatMap λx=>c0n q x.2).length
 | []=>rfl
 |f::fl=>by
  have ih:=c0o q fl;have e1:occ q (f::fl)=c2a q f++occ q fl:=by simp[occ]
  rw[e1,n_8,ih];unfold c2a B8;rw[List.filterMap_cons,show a9c f.p f.b=a6F f from O];cases a6F f with
  |none=>simp
  |some x=>simp[c0n]
theorem b6R{x:I×Src}(h:x∈B8 fl):∃f∈fl,a6F f=some x.2:=by
 obtain⟨f,hf,he⟩:=List.mem_filterMap.1 h;rw[Q3]at he;obtain⟨s,hs,rfl⟩:=he;exact⟨f,hf,hs⟩
theorem b90{f:Fi}{x:Src}(h:a6F f=some x):a09 x:=by
 unfold a6F at h;split at h
 .exact a5P h
 .cases h
theorem c5c:(B8 fl).length<=fl.length/\∀x∈B8 fl,x.2.decls.length<=100000:=by
 refine⟨List.length_filterMap_le _ _,λx hx=>?_⟩;obtain⟨f,_,hs⟩:=b6R hx;have:=(b90 hs).decl;omega
def c6Q(e:En):Ky:=if(e.k == 3)=true then⟨3,e.o,[]⟩else⟨e.k,e.p,e.o⟩
structure EnF(fl:List Fi)(e:En)(q:Nm):Prop where
 key:I1 (c6Q e)=true
 cf:∀(ev:List Va) (fs:List Fi),C7 fs=0->CF fs ev (c6Q e)=d3l (occ q fs)
 ct:e.ct=((occ q fl).length:Int)
 pos:occ q fl≠[]
theorem b3q(h:EnP (B8 fl) e):∃q,EnF fl e q:=by
 obtain⟨x,hx,d,hd,rfl⟩:=h;obtain⟨f,hf,hs⟩:=b6R hx;have hG:=b90 hs;have hD:=hG.dec d hd;have hi:d.k≠3->(⟨if d.k=3 then []else x.2.pkg,d.name,d.k,[],0,0⟩:En).p=x.2.pkg:=λh3=>W h3;obtain⟨h1,h2,h3,h4⟩:=a5B d.k x.2.pkg d.name (B8 fl) ⟨if d.k=3 then []else x.2.pkg,d.name,d.k,[],0,0⟩ hi;change (fiE (B8 fl) d.k x.2.pkg d.name).k=d.k at h1;change (fiE (B8 fl) d.k x.2.pkg d.name).o=d.name at h2;change d.k≠3->(fiE (B8 fl) d.k x.2.pkg d.name).p=x.2.pkg at h3;change (fiE (B8 fl) d.k x.2.pkg d.name).ct=0+_ at h4;generalize fiE (B8 fl) d.k x.2.pkg d.name=e at h1 h2 h3 h4;have hK:c6Q e=if d.k=3 then⟨3,d.name,[]⟩else⟨d.k,x.2.pkg,d.name⟩:=by
  unfold c6Q;rw[h1,h2];by_cases h:d.k=3
  .rw [Q h,Q (D h)]
  .rw [W h,W (D h),h3 h]
 refine⟨C0 d.k x.2.pkg d.name,?_,λev fs hv=>?_,by rw[h4,c0o];omega,λh0=>?_⟩
 .rcases hD.kind with h|h|h
  .rw [hK.trans (W G),h];unfold I1;rw[Q U];simp[hG.pkg.1,(hD.name G).1]
  .rw [hK.trans (W G),h];unfold I1;rw[Q U];simp[hG.pkg.1,(hD.name G).1]
  .rw [hK.trans (Q h)];unfold I1;rw[W U,Q U];simp[hD.path h]
 .unfold CF a0e
  rcases hD.kind with h|h|h
  .rw [hK.trans (W G),h,Q O];exact a9m hv 1 _ _
  .rw [hK.trans (W G),h,W U,Q O];exact a9m hv 2 _ _
  .rw [hK.trans (Q h),h,W U,W U,Q O,a9m hv 3 [] d.name];rfl
 .have:(x.2,d)∈occ (C0 d.k x.2.pkg d.name) fl:=by
   refine b3c.2 ⟨f,hf,?_⟩;unfold c2a;rw[hs];exact D6.2 ⟨d,a7e.2 ⟨hd,by simp[deK]⟩,O⟩
  rw[h0]at this;cases this
def nmC(x:I×I):List CV:=[sv x.1,sv x.2]
theorem Y3(x:I×I):O4 (nmC x):=⟨.val _,.val _,J⟩
def e0p(fl:List Fi)(x:I×I):Prop:=(B3 true (A6 fl).2.2 2 x.1 x.2).ct=1/\I1 (kyT x.1 x.2)=true
theorem d5J(h0:C7 fl=0)(h:EnP (B8 fl) e)(hk:e.k=2)(hc:e.ct=1):e0p fl (e.p,e.o):=by
 obtain⟨q,hq⟩:=b3q h;have h1:=hq.key;have h2:=hq.cf [] fl h0;have h3:=hq.ct;have ek:c6Q e=kyT e.p e.o:=by unfold c6Q kyT;rw[W (by rw[hk];decide),hk]
 rw[ek]at h1 h2;refine⟨?_,h1⟩;have h4:a1B (A6 fl).2.1 (B3 true (A6 fl).2.2 2 e.p e.o)=d3l (occ q fl):=h2;have hl:(occ q fl).length=1:=by omega
 obtain⟨y,hy⟩:∃y,occ q fl=[y]:=by
  match eL:occ q fl,hl with
  | [y],_=>exact⟨y,O⟩
 rw[hy]at h4;unfold a1B at h4;show(B3 true (A6 fl).2.2 2 e.p e.o).ct=1;by_cases a:(B3 true (A6 fl).2.2 2 e.p e.o).ct=0
 .rw [Q a]at h4;exact absurd h4 (by simp[d3l])
 .rw [W a]at h4;by_cases b:(B3 true (A6 fl).2.2 2 e.p e.o).ct=1
  .exact b
  .rw [W b]at h4;exact absurd h4 (by simp[d3l])
theorem b5f{va:Bool}{τ rest:List b9}{e:Int}{ks:List Ky}{tok:Option Nat}(hv:diV fl va me s= .tup [iv k,.agg x.cells,.list (ks.map Ky.cv) true none,iv e])(gp:τ=wbx fl nn va br 1 2 3::smO ms::emO me::m0 br.length::rest):
 ∃_:Unit,X8 4 τ (.ret (.tup [iv k,.agg x.cells,.list (ks.map Ky.cv) true tok,iv e])) (.ret (diV fl va me s))/\a3X 4 τ τ (wst fl nn va br ms me)/\4<=4/\True:=by
 subst gp;rw[hv];exact⟨(),.ret (c9e (.old (.val _)) (.old (En.pure _).old) (a0P λr hr=>by obtain⟨k,_,rfl⟩:=D6.1 hr;exact a5m k) (.old (.val _))),b1f _,n_6 _,J⟩
theorem c1I(fl:List Fi)(nn va:Bool)(br:List I)(ms:SM)(me:EM)(s:I)(bK:fl.length<=1000000):b8 CC 111 [.ptr 0 0,(sv s)] (wst fl nn va br ms me) λr τ=>∃_:Unit,X8 4 τ r (.ret (diV fl va me s))/\a3X 4 τ τ (wst fl nn va br ms me)/\4<=4/\True:=by
 refine qO Tryz.func111 ?_;refine qD (o6 O a1q O j4 ?_);refine qY e0t ?_;refine qD (c4E O J O ⟨O,O,O⟩ a0k t_9 a21 ?_);refine qY (c5 O Tryz.call129 i7 (c4k (w:=0) (q1:=1) (q2:=2) (t:=3) ⟨O,O,O,O,a1s ⟨H,H,H,H,H,H⟩⟩ s bK) O) ?_;refine qC ?_ ?_<;>intro h1
 .have hd:(E9 fl s).isSome=true:=h1;have e1:diV fl va me s= .tup [(iv (1)),.agg (En.z).cells,.list (([⟨4,s,[]⟩]:List Ky).map Ky.cv) true none,(iv (0))]:=by
   unfold diV diK diE a3e diC a1h;simp only[hd,if_true]
  refine qY d6Y ?_;refine d6f ?_;exact⟨_,r8 (rs:=[.tmp 4,.cell 5 83,.tmp 6,.tmp 7]) (cs:=[_,_,_,_]) O d5i (n_4 O),(by exact b5f (ks:=[⟨4,s,[]⟩]) (x:=En.z) e1 O)⟩
 .have hd:(E9 fl s).isSome=false:=h1;refine qY e0t ?_;refine qY (A9 [Ky.cv (⟨3,s,[]⟩:Ky)] O ⟨J,J⟩ a0k t_9 a21 O O O O O O O O O) ?_;refine qD (C8 (m:=1) O J J O O q_3 a0k t_9 c5t a21 O (.inr O) q_7 (by have hb:Tryz.t49.bytes=40:=O;rw[hb];first|omega|(simp;done)|(simp;omega)) G6 (([⟨4,s,[]⟩,⟨3,s,[]⟩]:List Ky).map Ky.cv) 2 O O ?_);refine qY (c5 O c68 ⟨J,O,O,J,J⟩ (a5O (w:=0) (q1:=1) (q2:=2) (t:=3) ⟨O,O,O,O,a1s ⟨H,H,H,H,H,H⟩⟩ 3 [] s) O) ?_;refine d8T ?_;refine qC ?_ ?_<;>intro h2
  .have hc:(diX va me s).ct=0:=D h2;have e2:diV fl va me s= .tup [(iv (0)),.agg (En.z).cells,.list (([⟨4,s,[]⟩,⟨3,s,[]⟩]:List Ky).map Ky.cv) true none,(iv (14))]:=by
    unfold diV diK diE a3e diC a1h;simp only[hd,hc,if_true,if_false,b09]
   refine qY d6Y ?_;refine d6f ?_;exact⟨_,r8 (rs:=[.tmp 4,.cell 5 83,.tmp 6,.tmp 7]) (cs:=[_,_,_,_]) O d5i (n_4 O),(by exact b5f (ks:=[⟨4,s,[]⟩,⟨3,s,[]⟩]) (x:=En.z) e2 O)⟩
  .have hc:¬(diX va me s).ct=0:=D h2;refine qC ?_ ?_<;>intro h3
   .have hm:1< (diX va me s).ct:=D h3;have e3:diV fl va me s= .tup [(iv (3)),.agg (En.z).cells,.list (([⟨4,s,[]⟩,⟨3,s,[]⟩]:List Ky).map Ky.cv) true none,(iv (12))]:=by
     unfold diV diK diE a3e diC a1h;simp only[hd,hc,hm,if_true,if_false,b09]
    refine qY d6Y ?_;refine d6f ?_;exact⟨_,r8 (rs:=[.tmp 4,.cell 5 83,.tmp 6,.tmp 7]) (cs:=[_,_,_,_]) O d5i (n_4 O),(by exact b5f (ks:=[⟨4,s,[]⟩,⟨3,s,[]⟩]) (x:=En.z) e3 O)⟩
   .have hm:¬1< (diX va me s).ct:=D h3;have e4:diV fl va me s= .tup [(iv (2)),.agg (diX va me s).cells,.list (([⟨4,s,[]⟩,⟨3,s,[]⟩]:List Ky).map Ky.cv) true none,(iv (0))]:=by
     unfold diV diK diE a3e diC a1h;simp only[hd,hc,hm,if_false,b09]
    refine cF [] [0,1,2] (tl:=[(3,[1]),(4,[]),(5,[])]) ?_;refine chf O (c8 O a1A) ?_;refine chf O S8 ?_;refine chf O d8I ?_;refine d6Q ?_;refine⟨⟨D7,J⟩,?_⟩;refine c45 ?_;refine a4h (c6 ?_);exact⟨_,r8 (rs:=[.tmp 4,.cell 5 83,.tmp 6,.tmp 7]) (cs:=[_,_,_,_]) O d5i (n_4 O),(by exact b5f (ks:=[⟨4,s,[]⟩,⟨3,s,[]⟩]) (x:=diX va me s) e4 O)⟩
theorem c54{va:Bool}(ao:WAt σ w q1 q2 t fl nn va br ms me)(s:I)(bK:fl.length<=1000000):b8 CC 111 [.ptr w 0,(sv s)] σ λr τ=>r= .ret (diV fl va me s)/\τ=σ:=
 (a2k [w,q1,q2,t] hCC O ao.nd (b9X ao) (.cons (.ptr O) (H9 λa h=>by simp at h;subst h;exact .val _)) (c:=λ_:Unit=>diV fl va me s) (P:=λ_=>True) (λ_ _=>c8s fl va me s) (M4 (S:=λ_=>wst fl nn va br ms me) (res:=λ_:Unit=>.ret (diV fl va me s)) (P:=λ_=>True) hCC (c1I fl nn va br ms me s bK))).mono λ_ _ ⟨_,h1,h2,_⟩=>⟨h1,h2⟩
def b28(me:EM):Prop:=∀q e,glk me q=some e->1<=e.ct
theorem b28.add(hp:b28 me)(hx:x.ct=1):b28 (a0l me x):=λq e h=>by
 rw[a0l,G8]at h;split at h
 .injection h with h
  subst h
  split
  .rename_i f hf;have:=hp _ _ hf;dsimp only;omega
  .omega
 .exact hp q e h
theorem d2X(hp:b28 me){pa pk:I}{j:Nat}(du:k≠3->pk=p):B3 true (a0l me ⟨pk,d.name,d.k,pa,(j:Int),1⟩) k p o=if(d.k == k&&decide (d.name=o))=true then(if((B3 true me k p o).ct+1 == 1)=true then⟨pk,(B3 true me k p o).o,(B3 true me k p o).k,pa,j,(B3 true me k p o).ct+1⟩else⟨(B3 true me k p o).p,(B3 true me k p o).o,(B3 true me k p o).k,(B3 true me k p o).pl,(B3 true me k p o).ix,(B3 true me k p o).ct+1⟩)else B3 true me k p o:=by
 have hq:C0 k p o=C0 d.k pk d.name↔(d.k == k&&decide (d.name=o))=true:=by
  simp only[C0,Nm.mk.injEq,T5,beq_iff_eq,a2t];constructor
  .rintro ⟨h1,_,h3⟩;exact⟨h1.symm,h3.symm⟩
  .rintro ⟨h1,h3⟩;refine⟨h1.symm,?_,h3.symm⟩;rw[h1];by_cases h:k=3
   .rw [Q h,Q h]
   .rw [W h,W h,du h]
 unfold B3 a0l;rw[Q O,Q O,G8];dsimp only;by_cases hk:(d.k == k&&decide (d.name=o))=true
 .have e:=hq.2 hk;rw[Q hk,Q e,<- e];dsimp only;cases hg:glk me (C0 k p o)with
  |none=>
   simp only[T5,beq_iff_eq,a2t]at hk;dsimp only;rw[Q H,hk.1,hk.2];rfl
  |some f=>
   have h1:=hp _ _ hg;dsimp only;rw[W H6]
 .rw [W hk,W λe=>hk (hq.1 e)]
theorem b9c{k:Int}{p o pa pk:I}(du:k≠3->pk=p):∀(l:List De) (j:Nat) (me:EM),b28 me->B3 true (addDs me pa pk l j) k p o=fiD k o pa pk l j (B3 true me k p o)/\b28 (addDs me pa pk l j)
 | [],_,_,hp=>⟨O,hp⟩
 |d::l,j,me,hp=>by
  obtain⟨h1,h2⟩:=b9c du l (j+1) (a0l me ⟨pk,d.name,d.k,pa,(j:Int),1⟩) (hp.add O);refine⟨?_,h2⟩;rw[fiD,<- d2X hp du];exact h1
theorem b8D{k:Int}{p o pa pk:I}(hk:k≠3)(du:pk≠p):∀(l:List De) (j:Nat) (me:EM),b28 me->B3 true (addDs me pa pk l j) k p o=B3 true me k p o/\b28 (addDs me pa pk l j)
 | [],_,_,hp=>⟨O,hp⟩
 |d::l,j,me,hp=>by
  obtain⟨h1,h2⟩:=b8D hk du l (j+1) (a0l me ⟨pk,d.name,d.k,pa,(j:Int),1⟩) (hp.add O);refine⟨h1.trans ?_,h2⟩;have hq:¬C0 k p o=C0 d.k pk d.name:=λe=>by
   simp only[C0,Nm.mk.injEq]at e;obtain⟨e1,e2,_⟩:=e;rw[<- e1,W hk,W hk]at e2;exact du e2.symm
  unfold B3 a0l;rw[Q O,Q O,G8,W hq]
theorem b8b{k:Int}{p o:I}:∀(l:List Fi) (s:WS),b28 s.2.2->B3 true (a4I l s).2.2 k p o=fiL k p o (B8 l) (B3 true s.2.2 k p o)
 | [],s,_=>rfl
 |f::l,s,hp=>by
  have hs:=b1N (l:=f::l) (i:=0) O;rw[b0k,List.drop_succ_cons,b0k]at hs;have key:B3 true (S5 s f).2.2 k p o=fiL k p o (match a9c f.p f.b with|none=>[]|some x=>[(f.p,x)]) (B3 true s.2.2 k p o)/\b28 (S5 s f).2.2:=by
   unfold S5 a9c
   split
   .cases hb:O5 f.b with
    |none=>exact⟨O,hp⟩
    |some x=>
     dsimp only[fiL];by_cases hk:((k != 3)&& !decide (x.pkg=p))=true
     .rw [Q hk];simp at hk;exact b8D hk.1 hk.2 _ _ _ hp
     .rw [W hk];simp at hk;exact b9c hk _ _ _ hp
   .exact ⟨O,hp⟩
  have ih:=b8b (k:=k) (p:=p) (o:=o) l (S5 s f) key.2;rw[hs];refine ih.trans ?_;rw[key.1];cases a9c f.p f.b with
  |none=>rfl
  |some x=>rfl
theorem b9C(h:C7 fl=0)(k:Int)(p o:I):fiE (B8 fl) k p o=B3 true (A6 fl).2.2 k p o:=by
 rw[A6,Q h];exact(b8b fl ([],[],[]) λq e h=>by cases h).symm
theorem b7C(x y:En):a28 x y=decide (a2s (plE x) (plE y)= -1):=by
 have z:∀a:Int,V6 a a=0:=λa=>(c0d.eq a a).2 O;have b:∀a c:I,Op.bytesLess a c=decide (Go.Lib.compareBytes a c= -1):=d2N;unfold a28 a2s lxC plE;by_cases hx:x.k=3<;>by_cases hy:y.k=3
 .simp [hx,hy,z,(b6a.eq ([]:I) []).2 O,b]
 .have:V6 1 0=1:=O;simp[hx,hy,this]
 .have:V6 0 1= -1:=O;simp[hx,hy,this]
 .simp only[hx,hy,z,b,if_false,ne_eq,not_true,beq_iff_eq,bne_iff_ne,b9E,b1d];have ex:(x.k == 3)=false:=by simp[hx]
  have ey:(y.k == 3)=false:=by simp[hy]
  by_cases hp:x.p=y.p
  .have hc:=(b6a.eq x.p y.p).2 hp;by_cases hk:x.k=y.k
   .have hk0:=(c0d.eq x.k y.k).2 hk;simp[hp,hk,hc,hk0,hy,z,(b6a.eq y.p y.p).2 O]
   .have hk0:¬V6 x.k y.k=0:=λe=>hk ((c0d.eq _ _).1 e);simp[hp,hk,hk0,hx,hy,(b6a.eq y.p y.p).2 O,b49];exact λh=>absurd (ex.trans ey.symm) h
  .have hc:¬Go.Lib.compareBytes x.p y.p=0:=λe=>hp ((b6a.eq _ _).1 e);simp[hp,hc,hx,hy];exact λh=>absurd (ex.trans ey.symm) h
theorem b0C{e x:En}:∀{out:List En},x∈a01 out e↔x∈out\/x=e
 | []=>by simp[a01]
 |y::out=>by
  rw[a01]
  split
  .rw [J2,b0C,J2,or_assoc]
  .split
   .rename_i h;constructor
    .exact .inl
    .rintro (h1|h1)
     .exact h1
     .rw [h1,<- h];exact b0r
   .rw [J2];exact⟨λh=>h.symm,λh=>h.symm⟩
abbrev LtP(x y:En):Prop:=a2s (plE x) (plE y)= -1
theorem c4q{e:En}:∀{out:List En},out.Pairwise LtP->(∀y∈out,plE y=plE e->y=e)->(a01 out e).Pairwise LtP
 | [],_,_=>by simp[a01]
 |y::out,h,hd=>by
  rw[a1D]at h;rw[a01]
  split
  .rename_i hb;rw[b7C,a2t]at hb;rw[a1D];refine⟨λz hz=>?_,c4q h.2 λz hz=>hd z (a13 _ hz)⟩
   rcases b0C.1 hz with hz|rfl
   .exact h.1 z hz
   .exact hb
  .rename_i hb;rw[b7C,a2t]at hb
   split
   .exact a1D.2 h
   .rename_i ax;have hey:LtP e y:=by
     have a:=b2M.anti (plE y) (plE e)
     rcases b2M.val (plE y) (plE e)with v|v|v
     .exact absurd v hb
     .exact absurd (hd y b0r ((b2M.eq _ _).1 v)) ax
     .show a2s (plE e) (plE y)= -1;omega
    rw[a1D];refine⟨λz hz=>?_,a1D.2 h⟩
    rcases J2.1 hz with rfl|hz
    .exact hey
    .exact b2M.tr _ _ _ hey (h.1 z hz)
theorem b8P(Jc:En->Prop)(hG:∀x y,Jc x->Jc y->plE x=plE y->x=y):∀{l out:List En},(∀x∈l,Jc x)->(∀x∈out,Jc x)->out.Pairwise LtP->(l.foldl a01 out).Pairwise LtP/\∀x,x∈l.foldl a01 out↔x∈out\/x∈l
 | [],out,_,_,h=>⟨h,U⟩
 |e::l,out,hl,ho,h=>by
  have he:=hl e b0r;obtain⟨h1,h2⟩:=b8P Jc hG (l:=l) (out:=a01 out e) (λx hx=>hl x (a13 _ hx)) (λx hx=>(b0C.1 hx).elim (ho x) λh=>h▸he) (c4q h λy hy hp=>hG y e (ho y hy) he hp);refine⟨h1,λx=>?_⟩;rw[b4Z,h2,b0C,J2,or_assoc]
theorem c4g(h0:C7 fl=0)(h:EnP (B8 fl) e):e∈(A6 fl).2.2.map Prod.snd:=by
 obtain⟨q,hq⟩:=b3q h;have dU:1<=e.ct:=by
  have:=hq.ct;have:=a6M.2 hq.pos;omega
 obtain⟨x,hx,d,hd,rfl⟩:=h;rw[b9C h0]at dU⊢;unfold B3 at dU⊢;rw[Q O]at dU⊢;cases hg:glk (A6 fl).2.2 (C0 d.k x.2.pkg d.name)with
 |none=>rw[hg]at dU;exact absurd (show(1:Int)<=0 from dU) H
 |some f=>exact D6.2 ⟨_,b2A hg,O⟩
theorem d6N(h0:C7 fl=0):(c2c (B8 fl)).Pairwise LtP/\∀e,e∈c2c (B8 fl)↔EnP (B8 fl) e:=by
 have hm:∀e,e∈(B8 fl).flatMap (deE (B8 fl))↔EnP (B8 fl) e:=λe=>by
  rw[b3c];constructor
  .rintro ⟨x,hx,he⟩;obtain⟨d,hd,rfl⟩:=D6.1 he;exact⟨x,hx,d,hd,O⟩
  .rintro ⟨x,hx,d,hd,rfl⟩;exact⟨x,hx,D6.2 ⟨d,hd,O⟩⟩
 obtain⟨h1,h2⟩:=b8P (EnP (B8 fl)) (λx y hx hy hp=>(b5w fl).inj (c4g h0 hx) (c4g h0 hy) hp) (l:=(B8 fl).flatMap (deE (B8 fl))) (out:=[]) (λx hx=>(hm x).1 hx) (λx hx=>by cases hx) .nil;exact⟨h1,λe=>by rw[c2c,h2,hm];simp⟩
theorem e07(hx:x.k=2)(hy:y.k=2):a2s (plE x) (plE y)=c7b (x.p,x.o) (y.p,y.o):=by
 have z:∀a:Int,V6 a a=0:=λa=>(c0d.eq a a).2 O;unfold plE;rw[hx,hy,W H,W H,W H];unfold a2s lxC;simp only[z,ne_eq,not_true,if_false];rfl
theorem d9N(h0:C7 fl=0):TsP (A6 fl).2.2 (tsL (c2c (B8 fl))):=by
 obtain⟨h1,h2⟩:=d6N h0;refine⟨λx=>?_,?_⟩
 .unfold tsL;rw[D6];constructor
  .rintro ⟨e,he,rfl⟩;obtain⟨g1,g2⟩:=a7e.1 he;simp only[tsB,T5,beq_iff_eq]at g2;exact(d5J h0 ((h2 e).1 g1) g2.1 g2.2).1
  .intro hx;have ay:=hx;rw[<- b9C h0]at ay;have hi:(2:Int)≠3->(⟨if(2:Int)=3 then []else x.1,x.2,2,[],0,0⟩:En).p=x.1:=λh3=>(W h3:(if(2:Int)=3 then([]:I)else x.1)=x.1);obtain⟨f1,f2,f3,f4⟩:=a5B 2 x.1 x.2 (B8 fl) ⟨if(2:Int)=3 then []else x.1,x.2,2,[],0,0⟩ hi;change (fiE (B8 fl) 2 x.1 x.2).k=2 at f1;change (fiE (B8 fl) 2 x.1 x.2).o=x.2 at f2;change (2:Int)≠3->(fiE (B8 fl) 2 x.1 x.2).p=x.1 at f3;change (fiE (B8 fl) 2 x.1 x.2).ct=0+_ at f4;obtain⟨d,hd⟩:=List.exists_mem_of_ne_nil ((B8 fl).flatMap λy=>c0n (C0 2 x.1 x.2) y.2) (λe=>by rw[e]at f4;simp at f4;omega);obtain⟨y,hy,hdy⟩:=b3c.1 hd;obtain⟨he,hq⟩:=a7e.1 hdy;simp only[a2t,deK,C0,Nm.mk.injEq]at hq;obtain⟨k1,k2,k3⟩:=hq;rw[W (by rw[k1];decide),W H]at k2;refine⟨fiE (B8 fl) 2 x.1 x.2,a7e.2 ⟨(h2 _).2 ⟨y,hy,d,he,by rw[k1,k2,k3]⟩,?_⟩,by rw[f2,f3 H]⟩;simp only[tsB,T5,beq_iff_eq];exact⟨f1,ay⟩
 .unfold tsL;rw[b3M];refine(a4f (P:=λx=>x∈(c2c (B8 fl)).filter tsB) (λx hx=>hx) (h1.sublist List.filter_sublist)).imp λ{x y} ⟨hx,hy,fq⟩=>?_;have gx:=(a7e.1 hx).2;have gy:=(a7e.1 hy).2;simp only[tsB,T5,beq_iff_eq]at gx gy;rw[<- e07 gx.1 gy.1];exact fq
def ddS:List I->List I
 | []=>[]
 | [x]=>[x]
 |x::y::l=>if x=y then ddS (y::l)else x::ddS (y::l)
theorem c8g(x y:I)(l:List I):ddS (x::y::l)=if x=y then ddS (y::l)else x::ddS (y::l):=by rw[ddS]
theorem c2I:∀(l:List I) (x y:I),ddS (l++[x,y])=if x=y then ddS (l++[x])else ddS (l++[x])++[y]
 | [],x,y=>by
  simp only[a7j,c8g];by_cases h:x=y<;>simp[h,ddS]
 | [a],x,y=>by
  simp only[b13,a7j,c8g];by_cases h1:a=x<;>by_cases h2:x=y<;>simp[h1,h2,ddS]
 |a::b::l,x,y=>by
  have h:=c2I (b::l) x y;simp only[b13]at h;simp only[b13,c8g,h];by_cases h1:a=b<;>by_cases h2:x=y<;>simp[h1,h2]
theorem c30{l:List I}{j:Nat}{x y:I}(hx:l[j]?=some x)(hy:l[j+1]?=some y):ddS (l.take (j+2))=if x=y then ddS (l.take (j+1))else ddS (l.take (j+1))++[y]:=by
 have h1:l.take (j+1)=l.take j++[x]:=by rw[Z2,hx];rfl
 have h2:l.take (j+2)=l.take j++[x,y]:=by rw[show j+2=(j+1)+1 from O,Z2,hy,h1];simp
 rw[h1,h2,c2I]
theorem d9r{l:List I}:ddS (l.take 1)=l.take 1:=by cases l<;>rfl
theorem c9B{l:List I}(h:l.length <2):ddS l=l:=by
 match l,h with
 | [],_=>rfl
 | [x],_=>rfl
theorem b5l:∀{l:List I} {x:I},x∈ddS l↔x∈l
 | [],_=>Iff.rfl
 | [_],_=>Iff.rfl
 |a::b::l,x=>by
  rw[ddS]
  split
  .rename_i h;subst h;rw[b5l (l:=a::l)];simp
  .rw [J2,b5l (l:=b::l),J2 (l:=b::l)]
theorem e2W{l:List I}(h:l≠[]):ddS l≠[]:=λe=>by
 obtain⟨x,hx⟩:=List.exists_mem_of_ne_nil l h;have:=b5l.2 hx;rw[e]at this;cases this
def nmL(x:De)(ks:List Int):List I:=(x.body.filter λe=>ks.any λy=>e.k == y).map Ex.name
def nmS(x:De)(ks:List Int):List I:=ddS (W9 (nmL x ks))
theorem d5Q{x:De}:s∈nmL x ks↔∃e∈x.body,e.k∈ks/\e.name=s:=by
 unfold nmL;simp only[D6,a7e,c3p,beq_iff_eq];constructor
 .rintro ⟨e,⟨h1,y,h2,h3⟩,h4⟩;exact⟨e,h1,h3▸h2,h4⟩
 .rintro ⟨e,h1,h2,h3⟩;exact⟨e,⟨h1,_,h2,O⟩,h3⟩
theorem b6E{x:De}:s∈nmS x ks↔∃e∈x.body,e.k∈ks/\e.name=s:=b5l.trans ((b3U _ _).mem_iff.trans d5Q)
theorem c3U(x:De)(ks:List Int):(nmL x ks).length<=x.body.length:=by unfold nmL;rw[K6];exact b76 _ _
theorem d1U:∀l:List I,(ddS l).length<=l.length
 | []=>n_6 _
 | [_]=>n_6 _
 |a::b::l=>by
  have h:=d1U (b::l);rw[ddS]
  split
  .exact a1u h U
  .rw [D3,D3];omega
theorem a5I(x:De)(ks:List Int):(nmS x ks).length<=x.body.length:=a1u (d1U _) (by rw[show(W9 (nmL x ks)).length=(nmL x ks).length from b6p _];exact c3U x ks)
abbrev nmV(x:De)(ks:List Int):CV:=.list ((nmS x ks).map scv) (gnn (nmS x ks).length) none
def En.kc(x:En):CV:=.agg x.cells
def En.kv(x:En):Value:=.agg #[.string (str x.p),.string (str x.o),.int .i64 x.k,.string (str x.pl),.int .i64 x.ix,.int .i64 x.ct]
theorem e0Y(x y:En):∀w,(Op.equal 83 x.kv y.kv).run CC.P w= .ok (decide (x=y)) w:=by
 intro w;show(Op.equal _ _ _).run Tryz.prog w=_;simp[Op.equal,Op.maxDepth,go_sem,En.kv,Q4];obtain⟨a,b,c,d,e,f⟩:=x;obtain⟨a',b',c',d',e',f'⟩:=y;by_cases h1:a=a'<;>by_cases h2:b=b'<;>by_cases h3:c=c'<;>by_cases h4:d=d'<;>by_cases h5:e=e'<;>by_cases h6:f=f'<;>simp[h1,h2,h3,h4,h5,h6]
theorem d2E:c4a (α:=En) CC.P 83 En.kc En.kv where
 rv _ _ _ _ h:=a1n (l:=[.string (str _),.string (str _),.int .i64 _,.string (str _),.int .i64 _,.int .i64 _]) h
 rv' _ _ a:=by
  refine .agg O (λc hc=>?_) λi c hc=>?_
  .simp at hc
   rcases hc with rfl|rfl|rfl|rfl|rfl|rfl<;>rfl
  .rcases i with _|_|_|_|_|_|i
   all_goals first|(injection hc with hc;subst hc;exact .val _)|cases hc
 check b a w:=by
  have:∀n,(Instr.checkKey b (n+2) 83 a.kv).run Tryz.prog w= .ok () w:=λn=>by simp[Instr.checkKey,En.kv,go_sem]
  exact this 9998
 eq a b w:=e0Y a b w
 now:=⟨_,b5g,λa b=>O⟩
 bits a:=by
  have:∀n,Instr.sameBits (n+2) a.kv a.kv=true:=λn=>by simp[Instr.sameBits,En.kv,b0E]
  exact this 9998
theorem d8A:T6 (α:=En) CC.P 83 En.kc En.kv:=d2E.find
def vbB(b:Bool):CV:=.val (.bool b)
structure CS where
 K:List Ky
 V:List En
 i:Nat
 j:Nat
 rn:Bool
variable{S T:CS}
abbrev seL(V:List En):List (En×Bool):=V.map λx=>(x,true)
abbrev seO(V:List En):b9:=.map (gm En.kc vbB (seL V))
abbrev wkC(S:CS)(wk:Nat):CV:=.vec wk (S.i -S.j) (S.V.length -S.i)
abbrev cbv(S:CS)(w m tk:Nat)(wv:CV):b9:=.box [.ptr w 0,.list (S.K.map Ky.cv) (gnn S.K.length) (F1 S.K.length tk),.map m,wv,.val (.bool S.rn)]
abbrev cbx(S:CS)(w m tk wk:Nat):b9:=cbv S w m tk (wkC S wk)
abbrev wkO(S:CS):b9:=.vec 6 ((S.V.drop S.j).map En.cells)
def a2M(V:List En)(x:En):List En:=if x∈V then V else V++[x]
def U3(V:List En)(l:List En):List En:=l.foldl a2M V
theorem d6V{V:List En}:(glk (seL V) x).getD false=decide (x∈V):=by
 induction V with
 |nil=>simp[glk]
 |cons y V ih=>
  show(if x=y then some true else glk (seL V) x).getD false=_;by_cases h:x=y
  .simp [h]
  .rw [W h,ih];simp[h]
theorem d6R{V:List En}(h:x∉V):L5 (seL V) x true=seL (V++[x]):=by
 induction V with
 |nil=>rfl
 |cons y V ih=>
  have h1:¬x=y:=λe=>h (e▸b0r);show(if x=y then(y,true)::seL V else(y,true)::L5 (seL V) x true)=_;rw[W h1,ih λe=>h (a13 _ e)];rfl
theorem e2q(l:List (En×Bool))(a:En):((glk l a).map vbB).getD (I0 (.bool false))= .val (.bool ((glk l a).getD false)):=by cases glk l a<;>rfl
theorem d1z{V:List En}:y∈a2M V x↔y∈V\/y=x:=by
 unfold a2M
 split
 .rename_i h;exact⟨.inl,λe=>e.elim id λe=>e▸h⟩
 .rw [T9,a2T]
theorem a1P:∀{l V:List En} {y:En},y∈U3 V l↔y∈V\/y∈l
 | [],_,_=>by simp[U3]
 |x::l,V,y=>by
  show y∈U3 (a2M V x) l↔_;rw[a1P,d1z,J2];exact or_assoc
theorem d3V(V:List En)(x:En):V <+:a2M V x:=by
 unfold a2M
 split
 .exact List.prefix_refl _
 .exact List.prefix_append _ _
theorem b3u:∀(l V:List En),V <+:U3 V l
 | [],_=>List.prefix_refl _
 |x::l,V=>(d3V V x).trans (b3u l _)
theorem d5z{V:List En}(h:V.Nodup):(a2M V x).Nodup:=by
 unfold a2M
 split
 .exact h
 .rename_i hx;exact c4Q.2 ⟨h,U,λa ha b hb=>by rw[a2T.1 hb];exact λe=>hx (e▸ha)⟩
theorem b71:∀{l V:List En},V.Nodup->(U3 V l).Nodup
 | [],_,h=>h
 |_::l,_,h=>b71 (l:=l) (d5z h)
theorem b4a(V l m:List En):U3 V (l++m)=U3 (U3 V l) m:=c4w
def ckF(c:MC)(f:Src)(s:I):List Ky:=W1 s (f.pkg::f.imports) (a4r true c.me s (f.pkg::f.imports))
def ctF(c:MC)(f:Src)(s:I):En:=a1g true c.me s (f.pkg::f.imports)
def caF(c:MC)(f:Src)(s:I):List En:=if a4m (ctF c f s)=0 then [a1h (ctF c f s)]else []
def daF(c:MC)(s:I):List En:=if diC c.fl true c.me s=0/\(diE c.fl true c.me s).ct=1 then [diE c.fl true c.me s]else []
def a1d(c:MC)(f:Src)(d:De):List Ky:=(nmS d [3]).flatMap (ckF c f)++(nmS d [6,7,8]).flatMap (a3e c.fl)++(nmS d [9]).map λs=>⟨5,s,[]⟩
def a1H(c:MC)(f:Src)(d:De):List En:=(nmS d [3]).flatMap (caF c f)++(nmS d [6,7,8]).flatMap (daF c)
def a19(d:De):Bool:=d.body.any λe=>e.k == 10
theorem c9G{k:Nat}:ShV k q (.list (l.map Ky.cv) (gnn l.length) (F1 l.length k)) (.list (l.map Ky.cv) (gnn l.length) (F1 l.length q)):=by
 cases l with
 |nil=>exact .inl O
 |cons x l=>exact .inr (.inr ⟨_,_,O,O⟩)
theorem b0I{aa:List b9}(hk:σ[tk]?=some (m0 S.K.length))(hqk:q≠tk)(hq:σ[q]?=some (cbv S w m tk wv))(he:(σ.set tk .dead++[m0 S.K.length]).set q (cbv S w m σ.length wv)=aa):Mv CC σ aa:=
 Mv.box tk q [.ptr w 0,.list (S.K.map Ky.cv) (gnn S.K.length) (F1 S.K.length σ.length),.map m,wv,.val (.bool S.rn)] hk hqk hq O (λi c c' h1 h2=>by
  rcases i with _|_|_|_|_|i
  .exact .inl a9I
  .injection h1 with h1;injection h2 with h2;subst h1 h2;exact c9G
  .exact .inl a9I
  .exact .inl a9I
  .exact .inl a9I
  .cases h1) he
theorem b0L{aa:List b9}(hk:σ[wk]?=some (wkO S))(hqk:q≠wk)(hq:σ[q]?=some (cbx S w m tk wk))(he:(σ.set wk .dead++[wkO S]).set q (cbx S w m tk σ.length)=aa):Mv CC σ aa:=
 Mv.box wk q [.ptr w 0,.list (S.K.map Ky.cv) (gnn S.K.length) (F1 S.K.length tk),.map m,wkC S σ.length,.val (.bool S.rn)] hk hqk hq O (λi c c' h1 h2=>by
  rcases i with _|_|_|_|_|i
  .exact .inl a9I
  .exact .inl a9I
  .exact .inl a9I
  .injection h1 with h1;injection h2 with h2;subst h1 h2;exact .inr (.inl ⟨_,_,O,O⟩)
  .exact .inl a9I
  .cases h1) he
theorem a0B(n:Nat)(V:List En):F7 n (seO V):=c06 En.pure (λ_=>.val _) n _
theorem a0r(n:Nat)(S:CS):F7 n (wkO S):=λr hr c hc=>(a1J _ r hr c hc).old
structure VI(S:CS)(l:List I)(fk:I->List Ky)(fa:I->List En)(n:Nat)(T:CS):Prop where
 le:n<=l.length
 K:T.K=S.K++(l.take n).flatMap fk
 V:T.V=U3 S.V ((l.take n).flatMap fa)
 i:T.i=S.i
 j:T.j<=S.i
 ip:T.i<=T.V.length
 rn:T.rn=S.rn
 kl:T.K.length<=S.K.length+9*n
 vl:T.V.length<=S.V.length+n
variable{V:List En}
theorem VI.zero{l:List I}(hj:S.j<=S.i)(hi:S.i<=S.V.length):VI S l fk fa 0 S:=⟨n_5 _,U,by simp[U3],O,hj,hi,O,G,G⟩
theorem b80(V:List En)(x:En):V.length<=(a2M V x).length/\(a2M V x).length<=V.length+1:=by
 unfold a2M;split<;>simp
theorem a5V{α β:Type}{l:List α}{y:α}(h:l[n]?=some y)(f:α->List β):(l.take (n+1)).flatMap f=(l.take n).flatMap f++f y:=by
 rw[Z2,h,List.flatMap_append];simp
theorem VI.add{l:List I}(h:VI S l fk fa n T){y:I}(hb:l[n]?=some y)(hk:(fk y).length<=9)(ha:fa y=[x]){j:Nat}(hj:j<=T.i):VI S l fk fa (n+1) {T with K:=T.K++fk y,V:=a2M T.V x,j:=j} where
 le:=(n_2.1 hb).1
 K:=by rw[a5V hb,<- H5,<- h.K]
 V:=by rw[a5V hb,b4a,<- h.V,ha];rfl
 i:=h.i
 j:=by rw[<- h.i];exact hj
 ip:=a1u h.ip (b80 _ _).1
 rn:=h.rn
 kl:=by have:=h.kl;simp only[n_8];omega
 vl:=by have:=h.vl;have:=(b80 T.V x).2;dsimp only;omega
theorem VI.skip{l:List I}(h:VI S l fk fa n T){y:I}(hb:l[n]?=some y)(hk:(fk y).length<=9)(ha:fa y=[]):VI S l fk fa (n+1) {T with K:=T.K++fk y} where
 le:=(n_2.1 hb).1
 K:=by rw[a5V hb,<- H5,<- h.K]
 V:=by rw[a5V hb,ha,Z7];exact h.V
 i:=h.i
 j:=h.j
 ip:=h.ip
 rn:=h.rn
 kl:=by have:=h.kl;simp only[n_8];omega
 vl:=by have:=h.vl;dsimp only;omega
theorem c4u(c:MC)(f:Src)(s:I)(h:f.imports.length<=8):(ckF c f s).length<=9:=by
 unfold ckF W1;rw[K6,a7Y,D3];omega
theorem c5R(fl:List Fi)(s:I):(a3e fl s).length<=9:=by unfold a3e;split<;>simp
theorem VI.done{f:Src}{T1 T2 T3:CS}(h1:VI S (nmS d [3]) (ckF c f) (caF c f) (nmS d [3]).length T1)(h2:VI T1 (nmS d [6,7,8]) (a3e c.fl) (daF c) (nmS d [6,7,8]).length T2)
 (h3:VI T2 (nmS d [9]) (λs=>[⟨5,s,[]⟩]) (λ_=>[]) (nmS d [9]).length T3):T3=⟨S.K++a1d c f d,U3 S.V (a1H c f d),S.i,T3.j,S.rn⟩:=by
 have e1:=h1.K;have e2:=h2.K;have e3:=h3.K;have v1:=h1.V;have v2:=h2.V;have v3:=h3.V;rw[a57]at e1 e2 e3 v1 v2 v3;have eK:T3.K=S.K++a1d c f d:=by
  rw[e3,e2,e1];unfold a1d;simp only[H5]
  congr 3
  induction nmS d [9]with
  |nil=>rfl
  |cons x l ih=>rw[b35,ih];rfl
 have eV:T3.V=U3 S.V (a1H c f d):=by
  rw[v3,v2,v1,a1H,b4a];have:(nmS d [9]).flatMap (λ_:I=>([]:List En))=[]:=by simp
  rw[this];rfl
 rcases T3 with⟨K,V,i,j,rn⟩
 have eI:=h3.i.trans (h2.i.trans h1.i);have eR:=h3.rn.trans (h2.rn.trans h1.rn);simp only at eK eV eI eR;subst eK eV eI eR;rfl
def gi(g:Bool):Int:=if g=true then 1 else 0
abbrev e0J(g:Bool)(p o:I)(k:Int):List CV:=[.val (.bool g),sv p,sv o,iv k]
theorem d9s(g:Bool)(p o:I)(k:Int)(g2:Bool)(p2 o2:I)(k2:Int):∀w,(Op.equal 199 (.agg [.bool g,.string (str p),.string (str o),.int .i64 k].toArray) (.agg [.bool g2,.string (str p2),.string (str o2),.int .i64 k2].toArray)).run CC.P w= .ok (decide (g=g2/\p=p2/\o=o2/\k=k2)) w:=by
 intro w;show(Op.equal _ _ _).run Tryz.prog w=_;simp[Op.equal,Op.maxDepth,go_sem,Q4];by_cases h1:g=g2<;>by_cases h2:p=p2<;>by_cases h3:o=o2<;>by_cases h4:k=k2<;>simp[h1,h2,h3,h4]
theorem or3(a b c:Int):(([a,b,c]:List Int).find? λx=>decide (x≠0)).getD 0=if a≠0 then a else if b≠0 then b else c:=by
 by_cases h1:a=0<;>by_cases h2:b=0<;>by_cases h3:c=0<;>simp[List.find?,h1,h2,h3]
theorem a8z(x:En)(σ:List b9):b8 CC 148 [.agg x.cells] σ λr aa=>r= .ret (.agg (e0J (x.k == 3) (if x.k=3 then []else x.p) x.o x.k))/\aa=σ:=by
 refine an_ Tryz.func148 ?_;refine z_8 ?_;refine cD (o6 O c93 O j4 ?_);refine a7E ?_;refine a75 ?_;refine cY a0c ?_;refine a9v ?_;refine a9v ?_;refine a75 ?_;refine cY (A1 #[(0,1),(1,1),(2,1),(3,1)] O a6I c5h c93 O ⟨_,O⟩ (λw=>by kernel_rfl) O O) ?_;refine cD (o6 O c93 O j4 ?_);refine cD (j1 O J J O j2 b7K j4 O O (nb O) ?_);refine a74 ?_;refine cY c4D ?_;refine cY a8A ?_;refine p7 ?_;refine cC ?_ ?_<;>intro h1
 .have hk:x.k=3:=D h1;refine C2 ?_;refine cY b9P ?_;refine cD (j1 O J O O j2 t_0 (.inl O) O O (nb O) ?_);refine a7E ?_;refine d9b ?_;refine p7 (c6 ?_);exact⟨_,B1 O ⟨J,_,_,_,O,O,.inr ⟨_,c9R,b7K,nb O,O⟩⟩,_,_,O,O,(J5 (by rw[Q hk];rfl) (o0 ⟨.val _,.val _,.val _,.val _,J⟩))⟩
 .have hk:¬x.k=3:=D h1;refine w9 ?_;refine z_0 ?_;refine d9b ?_;refine p7 (c6 ?_);exact⟨_,B1 O ⟨J,_,_,_,O,O,.inr ⟨_,c9R,b7K,nb O,O⟩⟩,_,_,O,O,(J5 (by rw[W hk];rfl) (o0 ⟨.val _,.val _,.val _,.val _,J⟩))⟩
theorem b5L(g:Bool)(p o:I)(k:Int)(g2:Bool)(p2 o2:I)(k2:Int)(σ:List b9):b8 CC 147 [.agg (e0J g p o k),.agg (e0J g2 p2 o2 k2)] σ λr aa=>r= .ret (iv (a2s (gi g,p,k,o) (gi g2,p2,k2,o2)))/\aa=σ:=by
 refine an_ Tryz.func147 ?_;refine c5k ?_;refine z_5 ?_;refine F6 (J9 ?_);refine z_0 ?_;refine cY d3n ?_;refine cY d3n ?_;refine cY (b05 O J J (xs:=[.bool g,.string (str p),.string (str o),.int .i64 k]) (ys:=[.bool g2,.string (str p2),.string (str o2),.int .i64 k2]) O O Tryz.eqGuardType199 (d9s g p o k g2 p2 o2 k2)) ?_;refine z_1 ?_;refine cC ?_ ?_<;>intro h1
 .have he:g=g2/\p=p2/\o=o2/\k=k2:=D h1;refine a4H ?_;exact⟨_,rE1,_,_,O,O,B4 (by obtain⟨rfl,rfl,rfl,rfl⟩:=he;exact((b2M.eq _ _).2 O).symm)⟩
 .refine z_0 ?_;refine cY c4D ?_;refine cY a8A ?_;refine cY c4D ?_;refine cY a8A ?_;refine cY (b7B O Tryz.runUnderlying4 trivial trivial O O O) ?_;refine z_1 ?_;refine cC ?_ ?_<;>intro h2
  .have hg:g≠g2:=D h2;refine a6r ?_;refine cY c4D ?_;refine cY a8A ?_;refine p7 ?_;refine cC ?_ ?_<;>intro h3
   .have dg:g2=true:=D h3;have dG:g=false:=by cases g;rfl;exact absurd dg.symm hg
    refine a4H ?_;exact⟨_,rE1,_,_,O,O,B4 (by rw[dG,dg];rfl)⟩
   .have dg:g2=false:=D h3;have dG:g=true:=by cases g;exact absurd dg.symm hg;rfl
    refine w9 ?_;refine a4H ?_;exact⟨_,rE1,_,_,O,O,B4 (by rw[dG,dg];rfl)⟩
  .have hg:g=g2:=D h2;refine b9M ?_;refine cW 18 ?_;refine hY b9P ?_;refine hY M6 ?_;refine hY b9P ?_;refine hY M6 ?_;refine hY (c5 O c3K i7 (V3 p p2 _) O) ?_;refine d9j ?_;refine d9j ?_;refine hY (c5 O Tryz.call170 i7 (a6u k k2 _) O) ?_;refine hY b9P ?_;refine hY M6 ?_;refine hY b9P ?_;refine hY M6 ?_;refine hY (c5 O c3K i7 (V3 o o2 _) O) ?_;refine hY (A9 (([Go.Lib.compareBytes p p2,V6 k k2,Go.Lib.compareBytes o o2]:List Int).map icv) O E7 t_4 t_1 t_7 O O O O O O O O O) ?_;refine hY (c5 O Tryz.call169 ⟨J,J⟩ (b8Y [Go.Lib.compareBytes p p2,V6 k k2,Go.Lib.compareBytes o o2] U _) O) ?_;refine hY a0H ?_;refine a6g ?_;refine c6 ?_;exact⟨_,rE1,_,_,O,O,B4 (by
    rw[or3,hg];have z:V6 (gi g2) (gi g2)=0:=(c0d.eq _ _).2 O;simp only[a2s,lxC,z,ne_eq,not_true,if_false])⟩
theorem d5R(x y:En):b8 CC 146 [.agg x.cells,.agg y.cells] [] λr aa=>r= .ret (iv (a2s (plE x) (plE y)))/\aa=[]:=by
 refine c7 (cO Tryz.func146 ?_);refine c5k ?_;refine z_5 ?_;refine F6 ?_;refine cW 6 ?_;refine hY a1A ?_;refine hY (c5 O Tryz.call148 ⟨J,J⟩ (a8z x _) O) ?_;refine hY a1A ?_;refine hY (c5 O Tryz.call148 ⟨J,J⟩ (a8z y _) O) ?_;refine hY (c5 O Tryz.call147 i7 (b5L (x.k == 3) (if x.k=3 then []else x.p) x.o x.k (y.k == 3) (if y.k=3 then []else y.p) y.o y.k _) O) ?_;refine hY a0H ?_;refine a6g ?_;refine c6 ?_;exact⟨_,rE1,_,_,O,O,B4 (by unfold plE gi;simp only[beq_iff_eq])⟩
theorem c84(fl:List Fi)(nn va:Bool)(br:List I)(ms:SM)(me:EM)(bw:me.length<=1000000):b8 CC 144 [.ptr 1 0] [.box (A0 fl nn),wbx fl nn va br 2 3 4,smO ms,emO me,m0 br.length] λr τ=>∃l:List En,F0 5 τ r (.ret (vcO (l.map En.cells) 5)) [.box (A0 fl nn),wbx fl nn va br 2 3 4,smO ms,.dead,m0 br.length,obO 6 (l.map En.cells)]/\l.Perm (me.map Prod.snd):=by
 refine cO Tryz.func144 ?_;refine a5n ?_;refine a9o ?_;refine cY W2 ?_;refine cY b2v ?_;refine cY b2C ?_;refine cD (b6b O J O b79 O ?_);refine b9q ?_;refine A5 hCC 6 O (α:=List (Nm×En)×List (Nm×En)×List En) (λx=>[(3,(vcO (x.2.2.map En.cells) 6)),(10,.ptr 5 0)]) (λx=>[.box (A0 fl nn),wbx fl nn va br 2 3 4,smO ms,.dead,m0 br.length,.iter (gm Nm.kc vcE x.1) (gm Nm.kc vcE x.2.1),obO 6 (x.2.2.map En.cells)]) (λx=>(x.2.2++x.2.1.map Prod.snd).Perm (me.map Prod.snd)) (λx=>x.2.1.length) ⟨([],me,[]),[0,1,2,3,4,5,9],(List.Perm.refl _),⟨O,O⟩,e1G,uq_⟩ ?_;intro⟨aD,left,out⟩ hp;dsimp only at hp⊢;have bc:=hp.length_eq;rw[n_8,K6,K6]at bc;refine z_0 ?_;refine cD (c2t O J O O (λhz=>?_) (λi x hx=>?_))
 .
  have fc:left=[]:=by
   cases left with
   |nil=>rfl
   |cons y l=>cases hz
  subst fc;refine cY a9Q ?_;refine a56 ?_;refine cC ?_ ?_<;>intro h1
  .cases h1
  .rw [List.map_nil,Z7]at hp;refine b34 ?_;exact⟨_,b2R O J O,⟨out,⟨[0,1,2,3,4,6],O,O,.ret (a1o _ O),.inr ⟨_,O,.same O a0G⟩,.inr ⟨_,O,.same O a2E⟩,.inr ⟨_,O,.same O X4⟩,.inl O,.inr ⟨_,O,.same O B0⟩,.inr ⟨_,O,.same O (b5z (a1J _))⟩,J⟩,hp⟩⟩
 .
  obtain⟨⟨q,e⟩,hy,rfl⟩:=c1G hx;rw[b1g];have af:=(n_2.1 hy).1;refine cY a9Q ?_;refine a56 ?_;refine cC ?_ ?_<;>intro h2
  .refine w9 (J9 ?_);refine z_0 ?_;refine cY (b5t O J O O) ?_;refine cY a9Q ?_;refine c6L ?_;refine z_9 ?_;refine cY a1A ?_;refine cY (A9 [En.cells e] O ⟨J,J⟩ a1X t_6 a1q O O O O O O O O O) ?_;refine cD (c7Z ((out++[e]).map En.cells) O J J O q_3 a1X t_6 c4G a1q O O U (by have hb:Tryz.t83.bytes=72:=O;rw[hb];simp;omega) H6 (by rw[a3M];rfl) ?_);refine z_1 ?_;exact⟨([(q,e)],left.eraseIdx i,out++[e]),[0,1,2,3,4,5,8],⟨by dsimp only;rw[c90 af];omega,(c71 hy).trans hp⟩,⟨O,O⟩,e1G,uq_⟩
  .cases h2
theorem d4n(fl:List Fi)(nn va:Bool)(br:List I)(ms:SM)(me:EM)(bw:me.length<=1000000):b8 CC 144 [.ptr 1 0] [.box (A0 fl nn),wbx fl nn va br 2 3 4,smO ms,emO me,m0 br.length] λr τ=>∃l:List En,r= .ret (vcO (l.map En.cells) 5)/\τ=[.box (A0 fl nn),wbx fl nn va br 2 3 4,smO ms,.dead,m0 br.length,obO 6 (l.map En.cells)]/\l.Perm (me.map Prod.snd):=
 K2 hCC ((c84 fl nn va br ms me bw).mono λr τ ⟨l,h,hp⟩=>⟨_,_,h,l,O,O,hp⟩)
theorem c7o{l:List En}(aj:l.length<=100000000)(hd:∀x∈l,∀y∈l,plE x=plE y->x=y)(hq:σ[q]?=some (obO 6 (l.map En.cells))):b8 CC 145 [(vcO (l.map En.cells) q).fgt,.val (.func (.func 146) #[] #[])] σ λr τ=>∃m:List En,r= .ret (.tup [])/\τ=σ.set q (obO 6 (m.map En.cells))/\m.Perm l/\m.Pairwise λx y=>a2s (plE y) (plE x)≠-1:=by
 cases l with
 |nil=>exact(c1z false σ).mono λr τ ⟨h1,h2⟩=>⟨[],h1,by rw[h2];exact(a1W hq).symm,.refl _,.nil⟩
 |cons x l=>
  rw[show(vcO ((x::l).map En.cells) q).fgt = .vec q 0 (x::l).length by rw[b5e U,K6];rfl];refine(c5C Tryz.call146 (λx y=>d5R x y) (l:=x::l) U aj hd hq).mono λ_ _ ⟨m,h1,h2,h3,h4⟩=>⟨m,h1,?_,h3,h4⟩;rw[h2,c2d (Y:=m.map En.cells) (λe=>by
   have:=h3.length_eq;rw[List.map_eq_nil_iff]at e;rw[e]at this;cases this)]
theorem d5N{a b:List (List CV)}(h:a.length=b.length)(q:Nat):vcO a q=vcO b q:=by
 cases a<;>cases b<;>first|rfl|(simp at h;done)|(simp only[vcO,h])
theorem d6H{l m:List En}(h:l.length=m.length)(k:Nat){τ:List b9}(hk:τ[k]?=some (obO 6 (m.map En.cells))):Cls 0 τ (vcO (l.map En.cells) k) (.list (m.map En.cells) (gnn m.length) none):=by
 rw[d5N (show(l.map En.cells).length=(m.map En.cells).length by rw[K6,K6,h]),show gnn m.length=gnn (m.map En.cells).length by rw[K6]];exact d6w (a1J _) (n_5 _) hk
theorem b6w(fl:List Fi)(nn:Bool)(hl:∀f∈fl,f.p.length<=1000000000)(bw:(A6 fl).2.2.length<=10000):b8 CC 97 [.agg (A0 fl nn)] [] λr τ=>∃m:List En,X8 0 τ r (.ret (.list (m.map En.cells) (gnn m.length) none))/\m.Perm ((A6 fl).2.2.map Prod.snd)/\m.Pairwise λx y=>a2s (plE y) (plE x)≠-1:=by
 refine cO Tryz.func97 ?_;refine a6k ?_;refine c9o ?_;intro _ _;refine de O Tryz.call144 ⟨J,J⟩ (d4n fl nn (C7 fl == 0) (A6 fl).1 (A6 fl).2.1 (A6 fl).2.2 G) O ?_;intro l hp;have hll:l.length<=1000000:=by rw[hp.length_eq,K6];omega
 refine z_1 ?_;refine z_2 ?_;refine de O Tryz.call145 i7 (c7o (l:=l) (q:=5) G (λx hx y hy e=>(b5w fl).inj (hp.mem_iff.1 hx) (hp.mem_iff.1 hy) e) O) O ?_;intro m ⟨hm,hs⟩;refine a82 ?_;refine a4z ?_;exact⟨_,b2R O J O,⟨m,.ret (d6H (l:=l) (m:=m) hm.length_eq.symm 5 O),hm.trans hp,hs⟩⟩
theorem b8J(fl:List Fi)(nn:Bool)(hl:∀f∈fl,f.p.length<=1000000000)(bw:(A6 fl).2.2.length<=10000)(σ:List b9):b8 CC 97 [.agg (A0 fl nn)] σ λr τ=>∃m:List En,r= .ret (.list (m.map En.cells) (gnn m.length) none)/\τ=σ/\m.Perm ((A6 fl).2.2.map Prod.snd)/\m.Pairwise λx y=>a2s (plE y) (plE x)≠-1:=
 D8 (res:=λm:List En=>.ret (.list (m.map En.cells) (gnn m.length) none)) (P:=λm=>m.Perm ((A6 fl).2.2.map Prod.snd)/\m.Pairwise λx y=>a2s (plE y) (plE x)≠-1) hCC (λa h=>by simp at h;subst h;exact o0 (cs:=A0 _ _) ⟨D9 _ _,J⟩) (b6w fl nn hl bw) (λm _=>b2p m _) σ
theorem c0I(l:List Fi)(nn:Bool)(hl:l.length<=1000000)(hp:∀f∈l,f.p.length<=1000000000)(dw:∀q b,E9 l q=some b->b.length<=1000000000)(hd:C7 l=0->∀f∈l,E9 l f.p=some f.b)(hLD:C7 l=0->(B8 l).length<=1000/\∀x∈B8 l,x.2.decls.length<=100000)(h0:C7 l=0):b8 CC 11 [.agg (A0 l nn)] [] λr τ=>∃ts:List (I×I),X8 0 τ r (.ret (.list (ts.map nmC) (gnn ts.length) none))/\TsP (A6 l).2.2 ts/\ts.length<=100000000:=by
 refine cO Tryz.func11 ?_;refine a6k ?_;refine b2K ?_;refine a5r ?_;refine dc O Tryz.call37 ⟨J,J⟩ (d6I l nn hl hp dw hd hLD _) ?_;intro m hm;obtain⟨hm,hml⟩:=hm h0;refine cY c5d ?_;refine a2S ?_;refine A5 hCC 1 O (α:=Nat×List (I×I)) (λa=>[(3,(.list (a.2.map nmC) (gnn a.2.length) (F1 a.2.length 1))),(7,(.list (m.map En.cells) (gnn m.length) none)),(8,iv m.length),(9,iv a.1)]) (λa=>[.box (A0 l nn),m0 a.2.length]) (λa=>a.1<=m.length/\a.2=tsL (m.take a.1)) (λa=>m.length -a.1) ⟨(0,[]),[0,9],⟨n_5 _,O⟩,⟨O,O⟩,q_1,uq_⟩ ?_;intro⟨i,out⟩ ⟨hi,ho⟩;dsimp only at hi ho⊢;have jc:out.length<=i:=by rw[ho];unfold tsL;rw[K6];exact a1u (b76 _ _) a9r
 refine a2P ?_;refine cC ?_ ?_<;>intro h1
 .have af:i<m.length:=sm_ h1;obtain⟨y,hb⟩:∃y,m[i]?=some y:=⟨m[i]'af,U⟩;have aF:tsL (m.take (i+1))=out++(if tsB y=true then [(y.p,y.o)]else []):=by
   unfold tsL at ho⊢;rw[Z2,hb,b4r,a3M,<- ho];show out++(List.filter tsB [y]).map _=_;by_cases hy:tsB y=true
   .rw [b1Q hy,Q hy];rfl
   .rw [b7O hy,W hy];rfl
  refine a5p ?_;refine d8H ?_;refine c6L ?_;refine z_0 ?_;refine a75 ?_;refine b0b ?_;refine cG d3A ?_;refine cG a7t ?_;refine cG a3h ?_;refine b0T ?_;refine cC ?_ ?_<;>intro h2
  .have ht:tsB y=true:=by simpa[tsB]using h2
   rw[Q ht]at aF;refine z_9 ?_;refine a9v ?_;refine a9v ?_;refine cY e21 ?_;refine cY e2u ?_;refine cD (C8 O J J O U q_3 b6i a96 c9c b7e O (.inr O) q_7 d9B G6 ((out++[(y.p,y.o)]).map nmC) (out++[(y.p,y.o)]).length U U ?_);refine z_1 ?_;refine a8F ?_;exact⟨(i+1,out++[(y.p,y.o)]),[0,3],⟨do_,do_,by dsimp only;exact aF.symm⟩,⟨O,O⟩,ut_,uq_⟩
  .have ht:¬tsB y=true:=by intro hh;simp[tsB]at hh;simp[hh]at h2
   rw[W ht,Z7]at aF;refine a9h ?_;exact⟨(i+1,out),[0,1],⟨do_,do_,by dsimp only;exact aF.symm⟩,⟨O,O⟩,ut_,uq_⟩
 .have gN:i=m.length:=sm_ h1;rw[gN,U2 (n_6 _)]at ho;subst ho;refine b34 ?_;exact⟨_,b2R O J O,⟨tsL m,.ret (a0P (λr hr=>by obtain⟨x,_,rfl⟩:=D6.1 hr;exact Y3 x)),by rw[hm];exact d9N h0,G⟩⟩
theorem c7p(l:List Fi)(nn:Bool)(hl:l.length<=1000000)(hp:∀f∈l,f.p.length<=1000000000)(dw:∀q b,E9 l q=some b->b.length<=1000000000)(hd:C7 l=0->∀f∈l,E9 l f.p=some f.b)(hLD:C7 l=0->(B8 l).length<=1000/\∀x∈B8 l,x.2.decls.length<=100000)(h0:C7 l=0)(σ:List b9):b8 CC 11 [.agg (A0 l nn)] σ λr τ=>∃ts:List (I×I),r= .ret (.list (ts.map nmC) (gnn ts.length) none)/\τ=σ/\TsP (A6 l).2.2 ts/\ts.length<=100000000:=
 D8 (res:=λts:List (I×I)=>.ret (.list (ts.map nmC) (gnn ts.length) none)) (P:=λts=>TsP (A6 l).2.2 ts/\ts.length<=100000000) hCC (λa h=>by simp at h;subst h;exact o0 (cs:=A0 _ _) ⟨D9 _ _,J⟩) (c0I l nn hl hp dw hd hLD h0) (λ_ _=>F3 (f:=nmC) Y3 _ _) σ
theorem d4l{α:Type}{σ:List α}{b M Je Jg Jh:α}(hm:m<σ.length)(hw:wk<σ.length):((((σ++[b]).set m M).set wk Je)++[Jg]).set q Jh=(((σ.set m M).set wk Je)++[b,Jg]).set q Jh:=by
 have e:((σ++[b]).set m M).set wk Je=(σ.set m M).set wk Je++[b]:=by rw[c2X _ _ hm,c2X _ _ (D hw)]
 rw[e,H5];rfl
theorem d4O(S:CS)(x:En)(hl:S.V.length<=1000000)(hq:σ[q]?=some (cbv S w m tk wv))(hm:σ[m]?=some (seO S.V))(hw:(wv= .list [] false none/\S.V=[]/\S.i=0/\S.j=0/\σ[wk]?=some .dead)\/(wv=wkC S wk/\σ[wk]?=some (wkO S)/\S.j<=S.i/\S.i<=S.V.length))(hd:q≠m/\q≠wk/\m≠wk):b8 CC 83 [.ptr q 0,.agg x.cells] σ λr τ=>r= .ret (.tup [])/\((x∉S.V/\∃j,j<=S.i/\τ=((σ.set m (seO (S.V++[x]))).set wk .dead++[.box x.cells,wkO {S with V:=S.V++[x],j:=j}]).set q (cbx {S with V:=S.V++[x],j:=j} w m tk (σ.length+1)))\/(x∈S.V/\τ=σ++[.box x.cells])):=by
 refine cO Tryz.func83 ?_;refine z_8 ?_;refine a56 ?_;refine cW 7 ?_;refine a2W ?_;refine d8G ?_;refine hY d9Q ?_;refine hY (N3 (kc:=En.kc) (vc:=vbB) (l:=seL S.V) (a:=x) d8A O J J O O Tryz.runUnderlying140 c0b O (I2 hm _) ((e2q _ _).trans (by rw[d6V]))) ?_;refine hY c0x ?_;refine a6g ?_;refine cC ?_ ?_<;>intro h1
 .have hx:x∉S.V:=D h1;have hqb:=(n_2.1 hq).1;have hmb:=(n_2.1 hm).1;have hwb:wk<σ.length:=hw.elim (λh=>(n_2.1 h.2.2.2.2).1) λh=>(n_2.1 h.2.1).1;have hij:S.j<=S.i/\S.i<=S.V.length:=hw.elim (λh=>by omega) λh=>h.2.2;have ce:(((σ++[b9.box x.cells]).set m (b9.map (gm En.kc vbB (L5 (seL S.V) x true)))))[q]?=some (cbv S w m tk wv):=by rw[a0S (Ne.symm hd.1)];exact I2 hq _
  have aE:(((σ++[b9.box x.cells]).set m (b9.map (gm En.kc vbB (L5 (seL S.V) x true)))))[σ.length]?=some (.box x.cells):=by rw[a0S G];exact a03 _ _
  have hq3:∀v,((((σ++[b9.box x.cells]).set m (b9.map (gm En.kc vbB (L5 (seL S.V) x true))))).set wk b9.dead++[v])[q]?=some (cbv S w m tk wv):=λv=>I2 (by rw[a0S (Ne.symm hd.2.1)];exact ce) _;have hw2:(wv= .list [] false none/\(S.V.drop S.j).map En.cells=[]/\S.i -S.j=0/\S.V.length -S.i=0/\(((σ++[b9.box x.cells]).set m (b9.map (gm En.kc vbB (L5 (seL S.V) x true)))))[wk]?=some .dead)\/(wv= .vec wk (S.i -S.j) (S.V.length -S.i)/\(((σ++[b9.box x.cells]).set m (b9.map (gm En.kc vbB (L5 (seL S.V) x true)))))[wk]?=some (.vec 6 ((S.V.drop S.j).map En.cells))/\(S.i -S.j)+(S.V.length -S.i)=((S.V.drop S.j).map En.cells).length):=by
   rcases hw with⟨h1,h2,h3,h4,h5⟩|⟨h1,h2,h3,h4⟩
   .exact .inl ⟨h1,by rw[h2];simp,G,by rw[h2];simp,by rw[a0S hd.2.2];exact I2 h5 _⟩
   .exact .inr ⟨h1,by rw[a0S hd.2.2];exact I2 h2 _,by simp;omega⟩
  refine F6 ?_;refine cW 5 ?_;refine a2W ?_;refine d8G ?_;refine hY d9Q ?_;refine a29 ?_;refine cD (k8 (kc:=En.kc) (vc:=vbB) (l:=seL S.V) (a:=x) (b:=true) d8A (.inl O) J J O O O O Tryz.runUnderlying140 (I2 hm _) ?_);refine p7 ?_;refine d0o ?_;refine a7n ?_;refine chf O (c8 O c4C) ?_;refine chf O (c8 O (j9 O J O d3t (by first|exact I2 hq _|exact a03 _ _|exact ce|exact aE|exact hq3 _) O)) ?_;refine chf O (c8 O d9Q) ?_;refine chf O (c8 O (A9 [x.cells] O ⟨J,J⟩ a1X t_6 a1q O O O O O O O O O)) ?_;refine H4 ?_;refine B6 O O O (e0h (λj=>((S.V++[x]).drop (S.j+j)).map En.cells) (λj=>S.i - (S.j+j)) ((S.V++[x]).length -S.i) O J J O q_3 a1X t_6 c4G a1q O hw2 U (by have hb:Tryz.t83.bytes=72:=O;rw[hb];simp;omega) H6 (λj hj=>⟨by rw[List.drop_append_of_le_length G,a3M,<- List.map_drop,List.drop_drop];rfl,G⟩) H6 (λj hj=>?_));refine c4x ?_;refine E8 O O (c8 O c4C) ⟨J,?_⟩;refine B6 O O O (j1 O J J O j2 c3k (.inl O) (by first|exact I2 hq _|exact a03 _ _|exact ce|exact aE|exact hq3 _) O (nb O) ?_);refine a9k ?_;exact⟨_,rE0,⟨O,.inl ⟨hx,S.j+j,G,by rw[d6R hx,d4l hmb hwb];rw[List.length_set,show ∀b:b9,(σ++[b]).length=σ.length+1 from λb=>by simp];rfl⟩⟩⟩
 .have hx:x∈S.V:=D h1;refine w9 ?_;exact⟨_,rE0,⟨O,.inr ⟨hx,O⟩⟩⟩
theorem c0Q(S:CS)(x:En)(hl:S.V.length<=1000000)(hq:σ[q]?=some (cbv S w m tk wv))(hm:σ[m]?=some (seO S.V))(hw:(wv= .list [] false none/\S.V=[]/\S.i=0/\S.j=0/\σ[wk]?=some .dead)\/(wv=wkC S wk/\σ[wk]?=some (wkO S)/\S.j<=S.i/\S.i<=S.V.length))(hd:q≠m/\q≠wk/\m≠wk):b8 CC 83 [.ptr q 0,.agg x.cells] σ λr τ=>∃j,r= .ret (.tup [])/\τ=((σ.set m (seO (a2M S.V x))).set wk .dead++[.box x.cells,wkO {S with V:=a2M S.V x,j:=j}]).set q (cbx {S with V:=a2M S.V x,j:=j} w m tk (σ.length+1))/\j<=S.i :=
 c7y (d4O S x hl hq hm hw hd) λr τ ⟨h1,h2⟩=>by
  rcases h2 with⟨hx,j,hj,gp⟩|⟨hx,gp⟩
  .exact ⟨τ,Mv.refl _,j,h1,by rw[a2M,W hx];exact gp,hj⟩
  .rcases hw with⟨_,h4,_⟩|⟨h3,h4,h5,h6⟩
   .rw [h4]at hx;cases hx
   .subst h3 gp;have hwb:=(n_2.1 h4).1;refine⟨_,b0L (I2 h4 _) hd.2.1 (I2 hq _) O,S.j,h1,?_,h5⟩;rw[a2M,Q hx,a1W hm,c2X _ _ hwb,H5,n_8];rfl
theorem b5J{p:Ex->Bool}(l:List Ex)(nn:Bool)(hl:l.length<=1000000)(hg:∀args w,(callFunc g args).run CC.P w= .ok (.enter g args) w)(Jf:∀x∈l,b8 CC g ([.agg x.cells]++caps) σ λr aa=>r= .ret (.val (.bool (p x)))/\aa=σ):b8 CC 203 [(.list (l.map Ex.cv) nn none),.clo g caps] σ λr aa=>r= .ret (iv (ixP p l 0))/\aa=σ:=by
 refine cO Tryz.func203 ?_;refine a9o ?_;refine cY a4k ?_;refine a2S ?_;refine J8 (α:=Nat) (λi=>[(0,(.list (l.map Ex.cv) nn none)),(1,(.clo g caps)),(7,iv l.length),(8,iv i)]) (λ_=>σ) (λi=>i<=l.length/\ixP p l 0=ixP p (l.drop i) i) (λi=>l.length -i) 0 ⟨n_5 _,O⟩ tu_ O ?_;intro i E0 ⟨hi,hr⟩;refine a2P ?_;refine cC ?_ ?_<;>intro h1
 .have af:(i:Int)<l.length:=D h1;obtain⟨y,hb⟩:=gx_ l i;rw[a7r hb]at hr;refine b2t ?_;refine z_2 ?_;refine z_1 ?_;refine b1P ?_;refine d7I ?_;refine cY d1g ?_;refine p7 ?_;refine cC ?_ ?_<;>intro h2
  .have hx:p y=true:=D h2;rw[Q hx]at hr;exact d7U
  .have hx:¬p y=true:=D h2;rw[W hx]at hr;exact d7O
 .have aH:i=l.length:=by
   have:¬(i:Int)<l.length:=D h1;omega
  refine j8 ?_;refine a4H ?_;exact⟨_,rE1,d2t⟩
theorem b0i{p:Ex->Bool}(l:List Ex)(nn:Bool)(hl:l.length<=1000000)(hg:∀args w,(callFunc g args).run CC.P w= .ok (.enter g args) w)(Jf:∀x∈l,b8 CC g ([.agg x.cells]++caps) σ λr aa=>r= .ret (.val (.bool (p x)))/\aa=σ):b8 CC 163 [(.list (l.map Ex.cv) nn none),.clo g caps] σ λr aa=>r= .ret (.val (.bool (l.any p)))/\aa=σ:=by
 refine cO Tryz.func163 ?_;refine a5n ?_;refine a1Y ?_;refine yc O Tryz.call203 i7 (b5J l nn hl hg Jf) ?_;refine cY a0c ?_;exact d8L
theorem b8M(x:Ex)(σ:List b9):b8 CC 164 [.agg x.cells] σ λr aa=>r= .ret (.val (.bool (x.k == 10)))/\aa=σ:=by
 refine an_ Tryz.func164 ?_;refine a6k ?_;refine z_0 ?_;refine cY b1m ?_;refine cY a1l ?_;refine cY a0c ?_;exact c9w
theorem c1H(x:De)(hl:x.body.length<=1000000)(σ:List b9):b8 CC 107 [.agg x.cells] σ λr aa=>r= .ret (.val (.bool (x.body.any λe=>e.k == 10)))/\aa=σ:=by
 refine an_ Tryz.func107 ?_;refine a6k ?_;refine b2i ?_;refine ye O Tryz.call163 i7 (b2O (b0i (caps:=[]) x.body _ hl Tryz.call164 λe _=>b8M e _)) O ?_;exact c9w
theorem b7R(l:List Int)(nn:Bool)(x:Int)(hl:l.length<=1000000000)(σ:List b9):b8 CC 256 [(.list (l.map icv) nn none),iv x] σ λr aa=>r= .ret (iv (ixP (λy=>x == y) l 0))/\aa=σ:=by
 refine an_ Tryz.func256 ?_;refine a9o ?_;refine cY a4V ?_;refine a2S ?_;refine o4 hCC (α:=Nat) (λi=>[(0,(.list (l.map icv) nn none)),(1,iv x),(7,iv l.length),(8,iv i)]) (λ_=>[]) (λi=>i<=l.length/\ixP (λy=>x == y) l 0=ixP (λy=>x == y) (l.drop i) i) (λi=>l.length -i) 0 ⟨n_5 _,O⟩ tu_ (am:=[]) O B5 uz_ ?_;intro i ⟨hi,hr⟩;refine a2P ?_;refine cC ?_ ?_<;>intro h1
 .have af:(i:Int)<l.length:=D h1;obtain⟨y,hb⟩:=gx_ l i;rw[a7r hb]at hr;refine b2t ?_;refine z_2 ?_;refine z_1 ?_;refine b1P ?_;refine cY (r6 O J J O O t_4 t_1 G a5z O) ?_;refine cY b3A ?_;refine cY a7v ?_;refine p7 ?_;refine cC ?_ ?_<;>intro h2
  .have hx:(x == y)=true:=D h2;rw[Q hx]at hr;refine b9W ?_;exact⟨_,rE1,_,_,O,O,B4 hr.symm⟩
  .have hx:¬(x == y)=true:=D h2;rw[W hx]at hr;exact d8O
 .have aH:i=l.length:=by
   have:¬(i:Int)<l.length:=D h1;omega
  refine j8 ?_;refine a4H ?_;exact⟨_,rE1,_,_,O,O,B4 (by rw[hr,aH,b8V];rfl)⟩
theorem b18(l:List Int)(nn:Bool)(x:Int)(hl:l.length<=1000000000)(σ:List b9):b8 CC 206 [(.list (l.map icv) nn none),iv x] σ λr aa=>r= .ret (.val (.bool (l.any λy=>x == y)))/\aa=σ:=by
 refine an_ Tryz.func206 ?_;refine a5n ?_;refine a1Y ?_;refine yc O Tryz.call256 i7 (b7R l nn x hl _) ?_;refine cY a0c ?_;refine a4z ?_;exact⟨_,rE1,_,_,O,O,j6 (b0G (λy=>x == y) l 0)⟩
theorem c69(x:Ex)(ks:List Int)(nn:Bool)(hl:ks.length<=1000000000)(hq:σ[q]?=some (.box [(.list (ks.map icv) nn none)])):b8 CC 205 ([.agg x.cells]++[.ptr q 0]) σ λr aa=>r= .ret (.tup [sv x.name,(.val (.bool (ks.any λy=>x.k == y)))])/\aa=σ:=by
 refine c7 (cO Tryz.func205 ?_);refine z_8 ?_;refine cY a7p ?_;refine z_5 ?_;refine F6 ?_;refine cW 8 ?_;refine hY b8Q ?_;refine hY (j9 O J O t_8 (by first|exact a03 _ _|exact I2 hq _) O) ?_;refine hY (j9 O J O c7u (by first|exact a03 _ _|exact I2 hq _) O) ?_;refine hY b1m ?_;refine hY (j9 O J O a2u (by first|exact a03 _ _|exact I2 hq _) O) ?_;refine hY (c5 O Tryz.call206 i7 (b18 ks nn x.k hl _) O) ?_;refine c0l ?_;refine a6g ?_;refine c6 ?_;exact⟨_,r8 (rs:=[.tmp 3,.tmp 4]) (cs:=[_,_]) O a0d (n_4 O),_,_,O,O,(.tups ⟨.old (.val _),.old (.val _),J⟩)⟩
theorem a2e(l:List I):∀r∈l.map scv,∀c∈r,p9 c:=λr hr c hc=>(C6 (f:=scv) (λ_=>O4.all ⟨.val _,J⟩) _) r hr c hc
theorem c7h(n:Nat)(l:List I):F7 n (.vec 1 (l.map scv)):=λr hr c hc=>(a2e l r hr c hc).old
theorem b8m(l:List I)(hl:l.length<=1000000):b8 CC 255 [.vec 0 0 l.length] [.vec 1 (l.map scv)] λr τ=>∃rest:List I,r= .ret (.vec 0 0 (ddS l).length)/\τ=[.vec 1 ((ddS l++rest).map scv)]/\True:=by
 refine cO Tryz.func255 ?_;refine a9o ?_;refine cY b75 ?_;refine a5s ?_;refine cC ?_ ?_<;>intro h1
 .have af:l.length <2:=sm_ h1;have fU:=c9B af;refine b9W ?_;exact⟨_,rE1,⟨[],by rw[fU],by rw[fU];simp,J⟩⟩
 .have aH:2<=l.length:=sm_ h1;refine b9M ?_;refine a5n ?_;refine J9 ?_;refine J8 (α:=Nat) (λk=>[(0,(.vec 0 0 l.length)),(3,iv k)]) (λ_=>[.vec 1 (l.map scv)]) (λk=>1<=k/\k<=l.length/\ddS (l.take k)=l.take k) (λk=>l.length -k) 1 ⟨n_6 _,G,d9r⟩ tu_ O ?_;intro k E0 ⟨bB,cc,hd⟩;refine F6 ?_;refine a1Y ?_;refine cY b75 ?_;refine cY a7v ?_;refine p7 ?_;refine cC ?_ ?_<;>intro h2
  .have af:k<l.length:=sm_ h2;obtain⟨y,hy⟩:∃y,l[k]?=some y:=⟨l[k]'af,U⟩;obtain⟨x,hx⟩:∃x,l[k-1]?=some x:=⟨l[k-1]'G,U⟩;have cm:=c30 hx (by rw[c5o bB];exact hy);rw[show k-1+2=k+1 by omega,show k-1+1=k by omega,hd]at cm;refine b2t ?_;refine F6 ?_;refine cW 10 ?_;refine a3s ?_;refine hY a9Y ?_;refine hY (P0 O J O t_8 O (a7O (j5 hy) G) O) ?_;refine a3s ?_;refine hY V4 ?_;refine hY a9Y ?_;refine hY (P0 O J O t_8 O (a7O (j5 hx) G) O) ?_;refine hY a8e ?_;refine a6g ?_;refine cC ?_ ?_<;>intro h3
   .have hyx:x=y:=by
     have gW:y=x:=D h3;exact gW.symm
    rw[Q hyx]at cm;refine a1Y ?_;refine cY (O8 (l:=k) O J O t_2 t_0 O a18 O a1U U) ?_;refine b4x ?_;refine a5n ?_;refine J9 ?_;refine J8 (α:=List I×Nat×Nat) (λa=>[(0,(.vec 0 0 l.length)),(3,iv a.2.1),(4,(.vec 0 (0+k) (l.length -k))),(5,iv a.2.2)]) (λa=>[.vec 1 (a.1.map scv)]) (λa=>a.1.length=l.length/\1<=a.2.2/\a.2.2<=l.length -k/\a.2.1<=k+a.2.2 -1/\ddS (l.take (k+a.2.2))=a.1.take a.2.1/\∀j,k+a.2.2 -1<=j->a.1[j]?=l[j]?) (λa=>l.length -a.2.2) (l,k,1) ⟨O,n_6 _,do_,do_,cm,λ_ _=>O⟩ tu_ O ?_;intro⟨m,p,q⟩ E1 ⟨hm,bW,ce,hp,jf,jg⟩;dsimp only at hm bW ce hp jf jg⊢;refine F6 ?_;refine a1Y ?_;refine cY b75 ?_;refine cY a7v ?_;refine p7 ?_;refine cC ?_ ?_<;>intro h4
    .have gS:q<l.length -k:=sm_ h4;obtain⟨z,hz⟩:∃z,l[k+q]?=some z:=⟨l[k+q]'G,U⟩;obtain⟨u,hu⟩:∃u,l[k+q-1]?=some u:=⟨l[k+q-1]'G,U⟩;have hzm:m[k+q]?=some z:=(jg _ G).trans hz;have hum:m[k+q-1]?=some u:=(jg _ G).trans hu;have cJ:=c30 hu (by rw[c5o G];exact hz);rw[show k+q-1+2=k+(q+1) by omega,show k+q-1+1=k+q by omega,jf]at cJ;refine b2t ?_;refine F6 ?_;refine cW 10 ?_;refine a3s ?_;refine hY a9Y ?_;refine hY (P0 O J O t_8 O (a7O (j5 hzm) G) O) ?_;refine a3s ?_;refine hY V4 ?_;refine hY a9Y ?_;refine hY (P0 O J O t_8 O (a7O (j5 hum) G) O) ?_;refine hY b1n ?_;refine a6g ?_;refine cC ?_ ?_<;>intro h5
     .have hzu:¬u=z:=by
       have iP:¬z=u:=D h5;exact λe=>iP e.symm
      rw[W hzu]at cJ;obtain⟨o,ho⟩:=gx_ m p;refine b1P ?_;refine cY D2 ?_;refine cY a9Y ?_;refine cY (P0 O J O t_8 O (a7O (j5 hzm) G) O) ?_;refine cY a9Y ?_;refine cD (N5 ((m.set p z).map scv) O J J O j2 t_0 (.inl O) O (a7O (j5 ho) G) O (nb O) (by rw[show 0+(p:Int).toNat=p by omega,List.map_set];rfl) O ?_);refine p7 ?_;refine b10 ?_;refine b10 ?_;exact⟨(m.set p z,p+1,q+1),do_,⟨D hm,do_,do_,do_,by dsimp only;rw[cJ,Z2,List.take_set_of_le (n_6 _),b0e G];rfl,λj hj=>by dsimp only at hj;rw[a0S G];exact jg j G⟩,tu_,O⟩
     .have hzu:u=z:=by
       have iP:z=u:=D h5;exact iP.symm
      rw[Q hzu]at cJ;refine w9 ?_;refine b10 ?_;exact⟨(m,p,q+1),do_,⟨hm,do_,do_,do_,cJ,λj hj=>by dsimp only at hj;exact jg j G⟩,tu_,O⟩
    .have fp:q=l.length -k:=sm_ h4;subst fp;rw[show k+(l.length -k)=l.length by omega,a57]at jf;have bc:(m.take p).length=p:=by rw[a7Y];omega
     have dT:(ddS l).length=p:=by rw[jf,bc]
     refine j8 ?_;refine a1Y ?_;refine cY (O8 (l:=p) O J O t_2 t_0 O a18 O a1U H6) ?_;refine cD (b84 ((m.take p++List.replicate (l.length -p) ([]:I)).map scv) O J O t_2 t_3 O (a2J O) O O H6 e2j O ?_);refine p7 ?_;refine a1Y ?_;refine cY (O8 (h:=p) O J O t_2 t_0 O O a18 a1U H6) ?_;refine a4z ?_;exact⟨_,rE1,⟨List.replicate (l.length -p) ([]:I),by rw[dT];rfl,by rw[jf];rfl,J⟩⟩
   .have hyx:¬x=y:=by
     have gW:¬y=x:=D h3;exact λe=>gW e.symm
    rw[W hyx]at cm;refine w9 ?_;refine b10 ?_;exact⟨k+1,G,⟨G,G,by rw[cm,Z2,hy];rfl⟩,tu_,O⟩
  .have fp:k=l.length:=sm_ h2;subst fp;rw[a57]at hd;refine b34 ?_;exact⟨_,rE1,⟨[],by rw[hd],by rw[hd];simp,J⟩⟩
theorem d2o(σ:List b9):b8 CC 255 [(.list (([]:List I).map scv) false none)] σ λr aa=>r= .ret (.list (([]:List I).map scv) false none)/\aa=σ:=by
 refine an_ Tryz.func255 ?_;refine a9o ?_;refine cY P5 ?_;refine a5s ?_;refine cC ?_ ?_<;>intro h1
 .refine b9W ?_;exact⟨_,rE1,_,_,O,O,(J5 (show CV.list (([]:List I).map scv) false none=_ from O) (by exact F2 [] _))⟩
 .exfalso;simp at h1
theorem c13(l:List I)(hl:l.length<=1000000)(hq:σ[q]?=some (.vec 1 (l.map scv))):b8 CC 255 [.vec q 0 l.length] σ λr τ=>∃rest:List I,r= .ret (.vec q 0 (ddS l).length)/\τ=σ.set q (.vec 1 ((ddS l++rest).map scv))/\True:=
 b1K (α:=List I) (g:=λ_=>false) (rows':=λrest=>(ddS l++rest).map scv) (off:=λ_=>0) (len:=λ_=>(ddS l).length) (P:=λ_=>True) hCC (a2e l) (args:=[]) (λa h=>by cases h) (λ_ _=>a2e _)
  ((b8m l hl).mono λr τ ⟨rest,h1,h2,_⟩=>⟨rest,by subst h1 h2;exact⟨[0],O,O,.ret (.vec O),.inr ⟨_,O,.same O (c7h _ _)⟩,J⟩,J⟩) hq
theorem b7E(nn:Bool)(σ:List b9):b8 CC 185 [.list [] nn none] σ λr τ=>r= .ret (.tup [])/\τ=σ:=λM w vs hr hn hx=>by
 have hs:vs.size=1:=hn;obtain⟨v,rfl⟩:∃v,vs= #[v]:=⟨vs[0]'G,Array.ext (by simp[hs]) λi h1 h2=>by
  have:i=0:=by omega
  subst this;simp⟩
 have h0:RV M w (.list [] nn none) v:=hx 0 _ O;cases h0 with
 |list vals g1 g2 g3 g4 g5 g6 g7 g8 g9 g10=>
  refine(Go.Proofs.strs_none Tryz.lays190 _ _ w).mono λe w' ⟨he,hw⟩=>?_;subst he hw;exact⟨_,_,M,Ext.refl M w',hr,.tup O (λi c h=>by simp at h),O,O⟩
theorem d4w(l:List I)(hl:l.length<=1000000)(hq:σ[q]?=some (obO 1 (l.map scv))):b8 CC 185 [(vcO (l.map scv) q).fgt] σ λr τ=>∃_:Unit,r= .ret (.tup [])/\τ=σ.set q (obO 1 ((W9 l).map scv))/\True:=by
 cases l with
 |nil=>exact(b7E false σ).mono λr τ ⟨h1,h2⟩=>⟨(),h1,by rw[h2,show W9 []=[] by simp[W9]];exact(a1W hq).symm,J⟩
 |cons x l=>
  have h:=b7x (ss:=x::l) U hl hq;rw[show(vcO ((x::l).map scv) q).fgt = .vec q 0 (x::l).length by rw[b5e U,K6];rfl,c2d (Y:=(W9 (x::l)).map scv) (by
   intro e;have:=n_7 List.length e;rw[K6,show(W9 (x::l)).length=(x::l).length from b6p _]at this;simp at this)]
  exact h
theorem c0F{Y:List (List CV)}(l:List I)(hl:l.length<=1000000)(hr:Y.length=l.length)(hq:σ[q]?=some (obO 1 (l.map scv))):b8 CC 255 [(vcO Y q).fgt] σ λr τ=>∃x:CV×b9,r= .ret x.1/\τ=σ.set q x.2/\∀n ρ,n<=q->ρ[q]?=some x.2->Cls n ρ x.1 (.list ((ddS l).map scv) (gnn (ddS l).length) none):=by
 cases l with
 |nil=>
  obtain rfl:Y=[]:=c1p hr;exact(d2o σ).mono λr τ ⟨h1,h2⟩=>⟨(_,.dead),h1,by rw[h2];exact(a1W hq).symm,λn ρ _ _=>.old (F2 ([]:List I) _).old⟩
 |cons x l=>
  rw[show(vcO Y q).fgt = .vec q 0 (x::l).length by rw[b5e (by intro e;rw[e]at hr;simp at hr),hr];rfl];refine(c13 (x::l) hl hq).mono λr τ ⟨rest,h1,h2,_⟩=>⟨(_,_),h1,h2,λn ρ hn hρ=>?_⟩;rw[b54 (e2W U)];exact .vecs hn hρ U U (a2e _)
theorem d5U(x:De)(ks:List Int)(kn:Bool)(hl:x.body.length<=1000000)(hk:ks.length<=1000000000):b8 CC 204 [(.list (x.body.map Ex.cv) (gnn x.body.length) none),.clo 205 [.ptr 1 0]] [.box x.cells,.box [(.list (ks.map icv) kn none)]] λr τ=>∃_:Unit,X8 2 τ r (.ret (nmV x ks))/\a3X 2 τ τ [.box x.cells,.box [(.list (ks.map icv) kn none)]]/\2<=2/\True:=by
 refine cO Tryz.func204 ?_;refine a5n ?_;refine a9o ?_;refine cY a4k ?_;refine a2S ?_;refine A5 hCC 2 O (α:=Nat×List I) (λa=>[(1,(.clo 205 [.ptr 1 0])),(5,(vcO (a.2.map scv) 2)),(10,(.list (x.body.map Ex.cv) (gnn x.body.length) none)),(11,iv x.body.length),(12,iv a.1)]) (λa=>[.box x.cells,.box [(.list (ks.map icv) kn none)],obO 1 (a.2.map scv)]) (λa=>a.1<=x.body.length/\a.2=((x.body.take a.1).filter (λe:Ex=>ks.any λy=>e.k == y)).map Ex.name) (λa=>x.body.length -a.1) ⟨(0,[]),[0,1,9],⟨n_5 _,O⟩,⟨O,O⟩,q_6,uq_⟩ ?_;intro⟨i,out⟩ ⟨hi,ho⟩;dsimp only at hi ho⊢;have jc:out.length<=i:=by rw[ho,K6];exact a1u (b76 _ _) a9r
 refine a2P ?_;refine cC ?_ ?_<;>intro h1
 .have af:i<x.body.length:=sm_ h1;obtain⟨y,hb⟩:∃y,x.body[i]?=some y:=⟨x.body[i]'af,U⟩;have aF:((x.body.take (i+1)).filter (λe:Ex=>ks.any λy=>e.k == y)).map Ex.name=out++(if(λe:Ex=>ks.any λy=>e.k == y) y=true then [y.name]else []):=by
   rw[Z2,hb,b4r,a3M,<- ho];show out++(List.filter (λe:Ex=>ks.any λy=>e.k == y) [y]).map Ex.name=_;by_cases hy:(λe:Ex=>ks.any λy=>e.k == y) y=true
   .rw [b1Q (p:=(λe:Ex=>ks.any λy=>e.k == y)) hy,Q hy];rfl
   .rw [b7O (p:=(λe:Ex=>ks.any λy=>e.k == y)) hy,W hy];rfl
  refine a5p ?_;refine d7I ?_;refine cD (o6 O b2Y O j4 ?_);refine cD (j1 O J J O j2 a9d j4 O O (nb O) ?_);refine a82 ?_;refine cY c3D ?_;refine cY (a8O O J O Tryz.call205 ⟨J,J⟩ (c69 y ks kn hk O) O) ?_;refine b3w ?_;refine z_2 ?_;refine p7 ?_;refine cC ?_ ?_<;>intro h2
  .have hp:(λe:Ex=>ks.any λy=>e.k == y) y=true:=by first|exact h2|simpa using h2
   rw[Q hp]at aF;refine a9A ?_;refine cY (A9 [scv y.name] O ⟨J,J⟩ t_2 t_0 t_3 O O O O O O O O O) ?_;refine cD (c7Z ((out++[y.name]).map scv) O J J O q_3 t_2 t_0 a4M t_3 O O U (by have hb:Tryz.t9.bytes=16:=O;rw[hb];rw[K6];simp;omega) (by rw[K6];simp;omega) (by rw[a3M];rfl) ?_);refine z_1 ?_;refine a8F ?_;exact⟨(i+1,out++[y.name]),[0,1,4],⟨do_,do_,by dsimp only;exact aF.symm⟩,⟨O,O⟩,q_6,uq_⟩
  .have hp:¬(λe:Ex=>ks.any λy=>e.k == y) y=true:=by intro hh;first|exact h2 hh|(rw[show(ks.any λz=>y.k == z)=true from hh]at h2;cases h2)
   rw[W hp,Z7]at aF;refine a9h ?_;exact⟨(i+1,out),[0,1,2],⟨do_,do_,by dsimp only;exact aF.symm⟩,⟨O,O⟩,q_6,uq_⟩
 .have gN:i=x.body.length:=sm_ h1;rw[gN,U2 (n_6 _)]at ho;subst ho;have hL:((x.body.filter (λe:Ex=>ks.any λy=>e.k == y)).map Ex.name).length<=1000000:=a1u (c3U x ks) hl;refine j8 ?_;refine z_2 ?_;refine de O Tryz.call185 ⟨J,J⟩ (d4w (nmL x ks) hL O) O ?_;intro _ _;refine a82 ?_;refine de O Tryz.call255 ⟨J,J⟩ (c0F (Y:=(nmL x ks).map scv) (W9 (nmL x ks)) (by rw[show(W9 (nmL x ks)).length=(nmL x ks).length from b6p _];exact hL) (by rw[K6];exact(b6p _).symm) O) O ?_;intro⟨c,ob⟩ hc;refine a4z ?_;exact⟨_,b2R O J O,⟨(),.ret (hc _ _ (n_6 _) O),⟨.same a7H,.same (A3 ⟨P7 _ _ _,J⟩),J⟩,n_6 _,J⟩⟩
theorem e0e(x:De)(ks:List Int)(kn:Bool)(hl:x.body.length<=1000000)(hk:ks.length<=1000000000):b8 CC 204 [(.list (x.body.map Ex.cv) (gnn x.body.length) none),.clo 205 [.ptr 1 0]] [.box x.cells,.box [(.list (ks.map icv) kn none)]] λr τ=>r= .ret (nmV x ks)/\τ=[.box x.cells,.box [(.list (ks.map icv) kn none)]]:=
 (M4 (S:=λ_=>[.box x.cells,.box [(.list (ks.map icv) kn none)]]) (res:=λ_:Unit=>.ret (nmV x ks)) (P:=λ_=>True) hCC (d5U x ks kn hl hk)).mono λ_ _ ⟨_,h1,h2,_⟩=>⟨h1,h2⟩
theorem a7c(x:De)(ks:List Int)(kn:Bool)(hl:x.body.length<=1000000)(hk:ks.length<=1000000000)(σ:List b9):b8 CC 165 [.agg x.cells,(.list (ks.map icv) kn none)] σ λr aa=>r= .ret (nmV x ks)/\aa=σ:=by
 refine an_ Tryz.func165 ?_;refine z_8 ?_;refine cD (H3 O J j2 (.inl O) ?_);refine z_5 ?_;refine b2i ?_;refine cY (a3v O ⟨J,J⟩) ?_;refine yc O Tryz.call204 i7 (e0e x ks kn hl hk) ?_;exact d5W
theorem c1U(x:De)(hl:x.body.length<=1000000)(σ:List b9):b8 CC 108 [.agg x.cells] σ λr aa=>r= .ret (nmV x [3])/\aa=σ:=by
 refine an_ Tryz.func108 ?_;refine a6k ?_;refine z_0 ?_;refine cY a9Z ?_;refine cY (A9 (([3]:List Int).map icv) O ⟨O,J⟩ t_4 t_1 t_7 O O O O O O O O O) ?_;refine ye O c8O i7 (a7c x [3] true hl H _) O ?_;exact d5W
theorem c1W(x:De)(hl:x.body.length<=1000000)(σ:List b9):b8 CC 110 [.agg x.cells] σ λr aa=>r= .ret (nmV x [6,7,8])/\aa=σ:=by
 refine an_ Tryz.func110 ?_;refine a6k ?_;refine z_0 ?_;refine cY a9Z ?_;refine cY (A9 (([6,7,8]:List Int).map icv) O ⟨O,O,O,J⟩ t_4 t_1 t_7 O O O O O O O O O) ?_;refine ye O c8O i7 (a7c x [6,7,8] true hl H _) O ?_;exact d5W
theorem b0V(x:De)(hl:x.body.length<=1000000)(σ:List b9):b8 CC 112 [.agg x.cells] σ λr aa=>r= .ret (nmV x [9])/\aa=σ:=by
 refine an_ Tryz.func112 ?_;refine a6k ?_;refine z_0 ?_;refine cY a9Z ?_;refine cY (A9 (([9]:List Int).map icv) O ⟨O,J⟩ t_4 t_1 t_7 O O O O O O O O O) ?_;refine ye O c8O i7 (a7c x [9] true hl H _) O ?_;exact d5W
theorem c67(c:MC)(S:CS)(x:En)(s:Src)(d:De)(hix:0<=x.ix)(hd:N6 c x=some (s,d))(dw:d.body.length<=256)(him:s.imports.length<=8)(bK:c.fl.length<=1000000)(hj:S.j<=S.i)(hi:S.i<=S.V.length)(hvb:S.V.length<=100000)(hkb:S.K.length<=1000000000):b8 CC 84 [.ptr 8 0,.agg x.cells] [wbx c.fl c.nn true c.br 1 2 3,smO c.ms,emO c.me,m0 c.br.length,.dead,.dead,.dead,seO S.V,cbx S 0 7 12 13,.dead,.dead,.dead,m0 S.K.length,wkO S,(.box x.cells)] λr τ=>∃j,F0 15 τ r (.ret (.tup [])) [wbx c.fl c.nn true c.br 1 2 3,smO c.ms,emO c.me,m0 c.br.length,.dead,.dead,.dead,seO (⟨S.K++a1d c s d,U3 S.V (a1H c s d),S.i,j,S.rn ||a19 d⟩:CS).V,cbx (⟨S.K++a1d c s d,U3 S.V (a1H c s d),S.i,j,S.rn ||a19 d⟩:CS) 0 7 15 16,.dead,.dead,.dead,.dead,.dead,.dead,m0 (S.K++a1d c s d).length,wkO ⟨S.K++a1d c s d,U3 S.V (a1H c s d),S.i,j,S.rn ||a19 d⟩]/\j<=S.i:=by
 obtain⟨hd1,hd2⟩:=a9u hd;refine cO Tryz.func84 ?_;refine z_8 ?_;refine a56 ?_;refine b2G [] [0,1,3,7,15,31,63,0,128,511,0,2047] [0,1,2,3,4,5,6,7,8,9] (tl:=[(10,[0,1,2,3,4,5,6,7,8,9]),(11,[])]) o9 o9 O (c8e ?_);refine chr O S8 ?_;refine chr O b9d ?_;refine chr O (c8 O b7b) ?_;refine chr O (c8 O b7H) ?_;refine chr O b9d ?_;refine chr O (c8 O b2F) ?_;refine chr O (c8 O b1t) ?_;refine chr O c7S ?_;refine chr O c3b ?_;refine chr O (c8 O e1X) ?_;refine c4z ?_;refine B6 O O O (o6 O a4C O j4 ?_);refine⟨⟨D7,a0I,(by exact c8 O b7b),(by exact c8 O b7H),a0I,(by exact c8 O b2F),(by exact c8 O b1t),(by exact c8 O d2B),a4q,(by exact c8 O e1X),J⟩,?_⟩;refine B6 O O O (j1 O J J O j2 a35 j4 O O (nb O) ?_);refine a9k ?_;refine z_0 ?_;refine cY c3Y ?_;refine cY c2u ?_;refine a75 ?_;refine cY (r6 O J J O O a7D a30 G (j5 hd2) O) ?_;refine d1c ?_;refine d5V ?_;refine b4u ?_;refine cY d2S ?_;refine cY a8A ?_;refine cY D2 ?_;refine cG (λhg=>I8 O J O c4Z a30 O (nb O)) ?_;refine cG (λhg=>c5 O Tryz.call107 ⟨hg,J⟩ (c1H d G _) O) ?_;refine cY U4 ?_;refine cY W2 ?_;refine cY d2S ?_;refine cD (j1 O J J O j2 b8a (.inl O) O O (nb O) ?_);refine a74 ?_;refine cY a9Z ?_;refine ye O Tryz.call108 ⟨J,J⟩ (c1U d G _) O ?_;refine cY P5 ?_;refine a2S ?_;refine a5M hCC 18 O ((b0I (S:=({S with rn:=(S.rn ||a19 d)})) (tk:=12) (q:=8) rfl H rfl rfl).trans (b0L (S:=({S with rn:=(S.rn ||a19 d)})) (wk:=13) (q:=8) rfl H rfl rfl)) (α:=Nat×CS) (λa=>[(0,.ptr 8 0),(4,.ptr 16 0),(5,.ptr 17 0),(47,(.list ((nmS d [3]).map scv) (gnn (nmS d [3]).length) none)),(48,(iv ((nmS d [3]).length:Int))),(49,iv a.1)]) (λa=>[wbx c.fl c.nn true c.br 1 2 3,smO c.ms,emO c.me,m0 c.br.length,.dead,.dead,.dead,seO a.2.V,cbx a.2 0 7 18 19,.dead,.dead,.dead,.dead,.dead,.dead,(.box x.cells),(.box s.cells),(.box d.cells),m0 a.2.K.length,wkO a.2]) (λa=>VI ({S with rn:=(S.rn ||a19 d)}) (nmS d [3]) (ckF c s) (caF c s) a.1 a.2) (λa=>(nmS d [3]).length -a.1) ⟨(0,{S with rn:=(S.rn ||a19 d)}),[0,1,2,3,4,5,6,7,8,9,10,11,12,13,14,15,16,17,18,19],VI.zero hj hi,⟨rfl,rfl⟩,ut_,⟨.inr ⟨_,rfl,.same rfl a2E⟩,.inr ⟨_,rfl,.same rfl X4⟩,.inr ⟨_,rfl,.same rfl Y2⟩,.inr ⟨_,rfl,.same rfl B0⟩,.inl rfl,.inl rfl,.inl rfl,.inr ⟨_,rfl,.same rfl (a0B _ _)⟩,.inr ⟨_,rfl,.box ⟨.same rfl (.ptr H),C3.grow (f:=Ky.cv) (λ_=>⟨.val _,.val _,.val _,J⟩) O,.same O (.map H),.vec O,.old (.val _),J⟩⟩,.inl O,.inl O,.inl O,.inl O,.inl O,.inl O,.inr ⟨_,O,.same O a9w⟩,.inr ⟨_,O,.same O a6G⟩,.inr ⟨_,O,.same O a7H⟩,.inr ⟨_,O,.same O B0⟩,.inr ⟨_,O,.same O (a0r _ _)⟩,J⟩⟩ ?_;intro⟨n,T⟩ hT
 dsimp only at hT⊢;have hvl:=hT.vl;have fh:=hT.kl;have dY:=hT.le;have hn256:(nmS d [3]).length<=256:=a1u (a5I d _) dw
 try dsimp only at hvl fh
 refine a2P ?_;refine cC ?_ ?_<;>intro h1
 .have af:n< (nmS d [3]).length:=sm_ h1;obtain⟨y,hb⟩:∃y,(nmS d [3])[n]?=some y:=⟨(nmS d [3])[n]'af,U⟩;have hck:=c4u c s y him;refine a5p ?_;refine cY a4u ?_;refine cY a9z ?_;refine b4x ?_;refine b2G [] [0,1,3,7,0,0,63,127,255,255,255,0,2559,7167,16383] [0,1,2,3,4,5,6,7,8,9,10] (tl:=[(11,[0,1,2,3,4,5,6,7,8,9,10]),(12,[9,10]),(13,[10]),(14,[])]) o9 o9 O (c8e ?_);refine chr O S8 ?_;refine chr O b9d ?_;refine chr O (c8 O b7b) ?_;refine chr O (c8 O b7H) ?_;refine chr O c8j ?_;refine chr O S8 ?_;refine chr O (c8 O e2a) ?_;refine chr O S8 ?_;refine chr O a8w ?_;refine chr O a8w ?_;refine chr O a8w ?_;refine c4z ?_;refine B6 O O O (o6 O a1q O j4 ?_);refine⟨⟨D7,a0I,(by exact c8 O b7b),(by exact c8 O b7H),(by exact c8 O c9s),D7,(by exact c8 O e2a),D7,a2G,a2G,a2G,J⟩,?_⟩;refine B6 O O O (j1 O J J O j2 t_6 j4 O O (nb O) ?_);refine⟨⟨a2G,a2G,J⟩,?_⟩;refine E8 O O b2Q ⟨⟨a2G,J⟩,?_⟩;refine b0f ?_;refine b4u ?_;refine cY b8o ?_;refine cY b6N ?_;refine cY D2 ?_;refine cD (C8 O J J O U q_3 a0k t_9 c5t a21 O (.inr O) q_7 (by have hb:Tryz.t49.bytes=40:=O;rw[hb];have h9:(W1 y (s.pkg::s.imports) (a4r true c.me y (s.pkg::s.imports))).length<=9:=hck;simp only[K6];omega) (by have h9:(W1 y (s.pkg::s.imports) (a4r true c.me y (s.pkg::s.imports))).length<=9:=hck;simp only[K6];omega) ((T.K++ckF c s y).map Ky.cv) (T.K++ckF c s y).length (by rw[a3M];rfl) (by simp[ckF,W1]) ?_);refine cY W2 ?_;refine d0U ?_;refine a82 ?_;refine a5s ?_;refine cC ?_ ?_<;>intro h2
  .have hca:caF c s y=[a1h (ctF c s y)]:=by rw[caF,Q (show a4m (ctF c s y)=0 from(by simpa using h2:a4m (a1g true c.me y (s.pkg::s.imports))=0))]
   refine z_9 ?_;refine cY a1A ?_;refine de O c8W i7 (c0Q (wv:=wkC T 19) (wk:=19) {T with K:=T.K++ckF c s y} (a1h (ctF c s y)) do_ rfl rfl (.inr ⟨rfl,rfl,a1u hT.j (b6T hT.i.symm),hT.ip⟩) H) rfl ?_;intro j hj;refine b46 ?_;exact⟨(n+1,{T with K:=T.K++ckF c s y,V:=a2M T.V (a1h (ctF c s y)),j:=j}),[0,1,2,3,4,5,6,7,8,9,10,11,12,13,14,15,16,17,21,23],⟨do_,hT.add hb hck hca hj⟩,⟨rfl,rfl⟩,ut_,⟨.inr ⟨_,rfl,.same rfl a2E⟩,.inr ⟨_,rfl,.same rfl X4⟩,.inr ⟨_,rfl,.same rfl Y2⟩,.inr ⟨_,rfl,.same rfl B0⟩,.inl rfl,.inl rfl,.inl rfl,.inr ⟨_,rfl,.same rfl (a0B _ _)⟩,.inr ⟨_,rfl,.box ⟨.same rfl (.ptr H),C3.grow (f:=Ky.cv) (λ_=>⟨.val _,.val _,.val _,J⟩) O,.same O (.map H),.vec O,.old (.val _),J⟩⟩,.inl O,.inl O,.inl O,.inl O,.inl O,.inl O,.inr ⟨_,O,.same O a9w⟩,.inr ⟨_,O,.same O a6G⟩,.inr ⟨_,O,.same O a7H⟩,.inr ⟨_,O,.same O B0⟩,.inr ⟨_,O,.same O (a0r _ _)⟩,J⟩⟩
  .have hca:caF c s y=[]:=by rw[caF,W (show ¬a4m (ctF c s y)=0 from(by simpa using h2:¬a4m (a1g true c.me y (s.pkg::s.imports))=0))]
   refine a9h ?_;exact⟨(n+1,{T with K:=T.K++ckF c s y}),[0,1,2,3,4,5,6,7,8,9,10,11,12,13,14,15,16,17,21,19],⟨do_,hT.skip hb hck hca⟩,⟨rfl,rfl⟩,ut_,⟨.inr ⟨_,rfl,.same rfl a2E⟩,.inr ⟨_,rfl,.same rfl X4⟩,.inr ⟨_,rfl,.same rfl Y2⟩,.inr ⟨_,rfl,.same rfl B0⟩,.inl rfl,.inl rfl,.inl rfl,.inr ⟨_,rfl,.same rfl (a0B _ _)⟩,.inr ⟨_,rfl,.box ⟨.same rfl (.ptr H),C3.grow (f:=Ky.cv) (λ_=>⟨.val _,.val _,.val _,J⟩) O,.same O (.map H),.vec O,.old (.val _),J⟩⟩,.inl O,.inl O,.inl O,.inl O,.inl O,.inl O,.inr ⟨_,O,.same O a9w⟩,.inr ⟨_,O,.same O a6G⟩,.inr ⟨_,O,.same O a7H⟩,.inr ⟨_,O,.same O B0⟩,.inr ⟨_,O,.same O (a0r _ _)⟩,J⟩⟩
 .have ax:n=(nmS d [3]).length:=sm_ h1;subst ax;obtain⟨T1,hTT⟩:∃T1,T1=T:=⟨_,O⟩;subst hTT;have hT1:=hT;clear hT;refine j8 ?_;refine a6r ?_;refine cY a9Z ?_;refine ye O Tryz.call110 ⟨J,J⟩ (c1W d G _) O ?_;refine cY P5 ?_;refine a2S ?_;refine a5M hCC 20 O ((b0I (S:=T1) (tk:=18) (q:=8) O H O O).trans (b0L (S:=T1) (wk:=19) (q:=8) O H O O)) (α:=Nat×CS) (λa=>[(0,.ptr 8 0),(5,.ptr 17 0),(80,(.list ((nmS d [6,7,8]).map scv) (gnn (nmS d [6,7,8]).length) none)),(81,(iv ((nmS d [6,7,8]).length:Int))),(82,iv a.1)]) (λa=>[wbx c.fl c.nn true c.br 1 2 3,smO c.ms,emO c.me,m0 c.br.length,.dead,.dead,.dead,seO a.2.V,cbx a.2 0 7 20 21,.dead,.dead,.dead,.dead,.dead,.dead,(.box x.cells),(.box s.cells),(.box d.cells),.dead,.dead,m0 a.2.K.length,wkO a.2]) (λa=>VI T1 (nmS d [6,7,8]) (a3e c.fl) (daF c) a.1 a.2) (λa=>(nmS d [6,7,8]).length -a.1) ⟨(0,T1),[0,1,2,3,4,5,6,7,8,9,10,11,12,13,14,15,16,17,18,19,20,21],VI.zero (a1u hT1.j (b6T hT1.i.symm)) hT1.ip,⟨O,O⟩,ut_,⟨.inr ⟨_,O,.same O a2E⟩,.inr ⟨_,O,.same O X4⟩,.inr ⟨_,O,.same O Y2⟩,.inr ⟨_,O,.same O B0⟩,.inl O,.inl O,.inl O,.inr ⟨_,O,.same O (a0B _ _)⟩,.inr ⟨_,O,.box ⟨.same O (.ptr H),C3.grow (f:=Ky.cv) (λ_=>⟨.val _,.val _,.val _,J⟩) O,.same O (.map H),.vec O,.old (.val _),J⟩⟩,.inl O,.inl O,.inl O,.inl O,.inl O,.inl O,.inr ⟨_,O,.same O a9w⟩,.inr ⟨_,O,.same O a6G⟩,.inr ⟨_,O,.same O a7H⟩,.inl O,.inl O,.inr ⟨_,O,.same O B0⟩,.inr ⟨_,O,.same O (a0r _ _)⟩,J⟩⟩ ?_;intro⟨n,T⟩ hT;dsimp only at hT⊢;have hvl2:=hT.vl;have hkl2:=hT.kl;have hnn2:=hT.le;have hn2562:(nmS d [6,7,8]).length<=256:=a1u (a5I d _) dw
  try dsimp only at hvl2 hkl2
  refine a2P ?_;refine cC ?_ ?_<;>intro h3
  .have af:n< (nmS d [6,7,8]).length:=sm_ h3;obtain⟨y,hb⟩:∃y,(nmS d [6,7,8])[n]?=some y:=⟨(nmS d [6,7,8])[n]'af,U⟩;have hck:=c5R c.fl y;refine a5p ?_;refine cY a4u ?_;refine cY a9z ?_;refine z_1 ?_;refine a8t ?_;refine cY b7b ?_;refine cY b7H ?_;refine cY D2 ?_;refine ye O Tryz.call111 i7 (c54 (w:=0) (q1:=1) (q2:=2) (t:=3) ⟨O,O,O,O,a1s ⟨H,H,H,H,H,H⟩⟩ y bK) O ?_;refine b7W ?_;refine d9R ?_;refine cD (o6 O a1q O j4 ?_);refine cY a0H ?_;refine cD (j1 O J J O j2 t_6 j4 O O (nb O) ?_);refine b4m ?_;refine b4u ?_;refine cY b8o ?_;refine cY b6N ?_;refine cY D2 ?_;refine cD (C8 O J J O U q_3 a0k t_9 c5t a21 O (.inr O) q_7 (by have hb:Tryz.t49.bytes=40:=O;rw[hb];simp only[K6];omega) (by simp only[K6];omega) ((T.K++a3e c.fl y).map Ky.cv) (T.K++a3e c.fl y).length (by rw[a3M]) U ?_);refine cY W2 ?_;refine d0U ?_;refine a82 ?_;refine b0b ?_;refine cG d3A ?_;refine cG a7t ?_;refine cG a3h ?_;refine b0T ?_;refine cC ?_ ?_<;>intro h4
   .have hda:daF c y=[diE c.fl true c.me y]:=by rw[daF,Q (D h4)]
    refine z_9 ?_;refine cY a1A ?_;refine de O c8W i7 (c0Q (wv:=wkC T 21) (wk:=21) {T with K:=T.K++a3e c.fl y} (diE c.fl true c.me y) do_ rfl rfl (.inr ⟨rfl,rfl,a1u hT.j (b6T hT.i.symm),hT.ip⟩) H) rfl ?_;intro j hj;refine b46 ?_;exact⟨(n+1,{T with K:=T.K++a3e c.fl y,V:=a2M T.V (diE c.fl true c.me y),j:=j}),[0,1,2,3,4,5,6,7,8,9,10,11,12,13,14,15,16,17,18,19,23,25],⟨do_,hT.add hb hck hda hj⟩,⟨rfl,rfl⟩,ut_,⟨.inr ⟨_,rfl,.same rfl a2E⟩,.inr ⟨_,rfl,.same rfl X4⟩,.inr ⟨_,rfl,.same rfl Y2⟩,.inr ⟨_,rfl,.same rfl B0⟩,.inl rfl,.inl rfl,.inl rfl,.inr ⟨_,rfl,.same rfl (a0B _ _)⟩,.inr ⟨_,rfl,.box ⟨.same rfl (.ptr H),C3.grow (f:=Ky.cv) (λ_=>⟨.val _,.val _,.val _,J⟩) O,.same O (.map H),.vec O,.old (.val _),J⟩⟩,.inl O,.inl O,.inl O,.inl O,.inl O,.inl O,.inr ⟨_,O,.same O a9w⟩,.inr ⟨_,O,.same O a6G⟩,.inr ⟨_,O,.same O a7H⟩,.inl O,.inl O,.inr ⟨_,O,.same O B0⟩,.inr ⟨_,O,.same O (a0r _ _)⟩,J⟩⟩
   .have hda:daF c y=[]:=by rw[daF,W (D h4)]
    refine a9h ?_;exact⟨(n+1,{T with K:=T.K++a3e c.fl y}),[0,1,2,3,4,5,6,7,8,9,10,11,12,13,14,15,16,17,18,19,23,21],⟨do_,hT.skip hb hck hda⟩,⟨rfl,rfl⟩,ut_,⟨.inr ⟨_,rfl,.same rfl a2E⟩,.inr ⟨_,rfl,.same rfl X4⟩,.inr ⟨_,rfl,.same rfl Y2⟩,.inr ⟨_,rfl,.same rfl B0⟩,.inl rfl,.inl rfl,.inl rfl,.inr ⟨_,rfl,.same rfl (a0B _ _)⟩,.inr ⟨_,rfl,.box ⟨.same rfl (.ptr H),C3.grow (f:=Ky.cv) (λ_=>⟨.val _,.val _,.val _,J⟩) O,.same O (.map H),.vec O,.old (.val _),J⟩⟩,.inl O,.inl O,.inl O,.inl O,.inl O,.inl O,.inr ⟨_,O,.same O a9w⟩,.inr ⟨_,O,.same O a6G⟩,.inr ⟨_,O,.same O a7H⟩,.inl O,.inl O,.inr ⟨_,O,.same O B0⟩,.inr ⟨_,O,.same O (a0r _ _)⟩,J⟩⟩
  .have ax:n=(nmS d [6,7,8]).length:=sm_ h3;subst ax;obtain⟨T2,hTT⟩:∃T2,T2=T:=⟨_,O⟩;subst hTT;have hT2:=hT;clear hT;refine j8 ?_;refine z_0 ?_;refine cY a9Z ?_;refine ye O Tryz.call112 ⟨J,J⟩ (b0V d G _) O ?_;refine cY P5 ?_;refine a2S ?_;refine a5M hCC 22 O (b0I (S:=T2) (tk:=20) (q:=8) O H O O) (α:=Nat×CS) (λa=>[(0,.ptr 8 0),(118,(.list ((nmS d [9]).map scv) (gnn (nmS d [9]).length) none)),(119,(iv ((nmS d [9]).length:Int))),(120,iv a.1)]) (λa=>[wbx c.fl c.nn true c.br 1 2 3,smO c.ms,emO c.me,m0 c.br.length,.dead,.dead,.dead,seO a.2.V,cbx a.2 0 7 22 21,.dead,.dead,.dead,.dead,.dead,.dead,(.box x.cells),(.box s.cells),(.box d.cells),.dead,.dead,.dead,wkO a.2,m0 a.2.K.length]) (λa=>VI T2 (nmS d [9]) (λs=>[⟨5,s,[]⟩]) (λ_=>[]) a.1 a.2) (λa=>(nmS d [9]).length -a.1) ⟨(0,T2),[0,1,2,3,4,5,6,7,8,9,10,11,12,13,14,15,16,17,18,19,20,21,22],VI.zero (a1u hT2.j (b6T hT2.i.symm)) hT2.ip,⟨O,O⟩,ut_,⟨.inr ⟨_,O,.same O a2E⟩,.inr ⟨_,O,.same O X4⟩,.inr ⟨_,O,.same O Y2⟩,.inr ⟨_,O,.same O B0⟩,.inl O,.inl O,.inl O,.inr ⟨_,O,.same O (a0B _ _)⟩,.inr ⟨_,O,.box ⟨.same O (.ptr H),C3.grow (f:=Ky.cv) (λ_=>⟨.val _,.val _,.val _,J⟩) O,.same O (.map H),.vec O,.old (.val _),J⟩⟩,.inl O,.inl O,.inl O,.inl O,.inl O,.inl O,.inr ⟨_,O,.same O a9w⟩,.inr ⟨_,O,.same O a6G⟩,.inr ⟨_,O,.same O a7H⟩,.inl O,.inl O,.inl O,.inr ⟨_,O,.same O (a0r _ _)⟩,.inr ⟨_,O,.same O B0⟩,J⟩⟩ ?_;intro⟨n,T⟩ hT;dsimp only at hT⊢;have hvl3:=hT.vl;have hkl3:=hT.kl;have hnn3:=hT.le;have hn2563:(nmS d [9]).length<=256:=a1u (a5I d _) dw
   try dsimp only at hvl3 hkl3
   refine a2P ?_;refine cC ?_ ?_<;>intro h5
   .have af:n< (nmS d [9]).length:=sm_ h5;obtain⟨y,hb⟩:∃y,(nmS d [9])[n]?=some y:=⟨(nmS d [9])[n]'af,U⟩;refine a5p ?_;refine cY a4u ?_;refine cY a9z ?_;refine z_1 ?_;refine a9A ?_;refine cY W2 ?_;refine cY b8o ?_;refine cY b6N ?_;refine cY D2 ?_;refine cY e0t ?_;refine cY (A9 [Ky.cv ⟨5,y,[]⟩] O ⟨J,J⟩ a0k t_9 a21 O O O O O O O O O) ?_;refine cD (C8 O J J O U q_3 a0k t_9 c5t a21 O (.inr O) q_7 (by have hb:Tryz.t49.bytes=40:=O;rw[hb];simp;omega) H6 ((T.K++[(⟨5,y,[]⟩:Ky)]).map Ky.cv) (T.K++[(⟨5,y,[]⟩:Ky)]).length (by rw[a3M];rfl) U ?_);refine cY W2 ?_;refine d0U ?_;refine b46 ?_;exact⟨(n+1,{T with K:=T.K++[⟨5,y,[]⟩]}),[0,1,2,3,4,5,6,7,8,9,10,11,12,13,14,15,16,17,18,19,20,21,23],⟨do_,hT.skip hb U rfl⟩,⟨rfl,rfl⟩,ut_,⟨.inr ⟨_,rfl,.same rfl a2E⟩,.inr ⟨_,rfl,.same rfl X4⟩,.inr ⟨_,rfl,.same rfl Y2⟩,.inr ⟨_,rfl,.same rfl B0⟩,.inl rfl,.inl rfl,.inl rfl,.inr ⟨_,rfl,.same rfl (a0B _ _)⟩,.inr ⟨_,rfl,.box ⟨.same rfl (.ptr H),C3.grow (f:=Ky.cv) (λ_=>⟨.val _,.val _,.val _,J⟩) O,.same O (.map H),.vec O,.old (.val _),J⟩⟩,.inl O,.inl O,.inl O,.inl O,.inl O,.inl O,.inr ⟨_,O,.same O a9w⟩,.inr ⟨_,O,.same O a6G⟩,.inr ⟨_,O,.same O a7H⟩,.inl O,.inl O,.inl O,.inr ⟨_,O,.same O (a0r _ _)⟩,.inr ⟨_,O,.same O B0⟩,J⟩⟩
   .have ax:n=(nmS d [9]).length:=sm_ h5;subst ax;have hD:T=⟨S.K++a1d c s d,U3 S.V (a1H c s d),S.i,T.j,S.rn ||a19 d⟩:=VI.done hT1 hT2 hT;have hj3:=hT.j;refine j8 ?_;exact⟨_,rE0,⟨T.j,⟨[0,1,2,3,4,5,6,7,8,9,10,11,12,13,14,22,21],O,O,.ret (.tup O λi x y g1 g2=>by cases g1),by
     rw[show(S.K++a1d c s d).length=T.K.length from n_7 (λx:CS=>x.K.length) hD.symm,<- hD,show U3 S.V (a1H c s d)=T.V from n_7 CS.V hD.symm];exact⟨.inr ⟨_,O,.same O a2E⟩,.inr ⟨_,O,.same O X4⟩,.inr ⟨_,O,.same O Y2⟩,.inr ⟨_,O,.same O B0⟩,.inl O,.inl O,.inl O,.inr ⟨_,O,.same O (a0B _ _)⟩,.inr ⟨_,O,.box ⟨.same O (.ptr H),C3.grow (f:=Ky.cv) (λ_=>⟨.val _,.val _,.val _,J⟩) O,.same O (.map H),.vec O,.old (.val _),J⟩⟩,.inl O,.inl O,.inl O,.inl O,.inl O,.inl O,.inr ⟨_,O,.same O B0⟩,.inr ⟨_,O,.same O (a0r _ _)⟩,J⟩⟩,by rw[hT2.i,hT1.i]at hj3;exact hj3⟩⟩
theorem c9k(c:MC)(S:CS)(x:En)(s:Src)(d:De)(hix:0<=x.ix)(hd:N6 c x=some (s,d))(dw:d.body.length<=256)(him:s.imports.length<=8)(bK:c.fl.length<=1000000)(hj:S.j<=S.i)(hi:S.i<=S.V.length)(hvb:S.V.length<=100000)(hkb:S.K.length<=1000000000):b8 CC 84 [.ptr 8 0,.agg x.cells] [wbx c.fl c.nn true c.br 1 2 3,smO c.ms,emO c.me,m0 c.br.length,.dead,.dead,.dead,seO S.V,cbx S 0 7 12 13,.dead,.dead,.dead,m0 S.K.length,wkO S,(.box x.cells)] λr τ=>∃j,r= .ret (.tup [])/\τ=[wbx c.fl c.nn true c.br 1 2 3,smO c.ms,emO c.me,m0 c.br.length,.dead,.dead,.dead,seO (⟨S.K++a1d c s d,U3 S.V (a1H c s d),S.i,j,S.rn ||a19 d⟩:CS).V,cbx (⟨S.K++a1d c s d,U3 S.V (a1H c s d),S.i,j,S.rn ||a19 d⟩:CS) 0 7 15 16,.dead,.dead,.dead,.dead,.dead,.dead,m0 (S.K++a1d c s d).length,wkO ⟨S.K++a1d c s d,U3 S.V (a1H c s d),S.i,j,S.rn ||a19 d⟩]/\j<=S.i :=
 K2 hCC ((c67 c S x s d hix hd dw him bK hj hi hvb hkb).mono λ_ _ ⟨j,h1,h2⟩=>⟨_,_,h1,j,O,O,h2⟩)
inductive Rch(c:MC)(p o:I):En->Prop where
 |base:Rch c p o (a0w c p o)
 |step {v y:En} {s:Src} {d:De}:Rch c p o v->N6 c v=some (s,d)->y∈a1H c s d->Rch c p o y
structure a0a(c:MC)(p o:I)(K:List Ky)(rn:Bool):Prop where
 mem:∀k,k∈K↔k=kyT p o\/∃v,Rch c p o v/\∃s d,N6 c v=some (s,d)/\k∈a1d c s d
 rn:rn=true↔∃v,Rch c p o v/\∃s d,N6 c v=some (s,d)/\a19 d=true
 len:K.length<=40000000
def a7Z(c:MC)(v:En):Prop:=(∃k a b,v=B3 true c.me k a b)/\v.ct=1
theorem c17(me:EM)(name:I)(L:List I):a1g true me name L=En.z\/∃p,a1g true me name L=B3 true me 1 p name:=by
 unfold a1g;cases a4r true me name L with
 |zero=>exact .inl O
 |succ i=>
  rw[b2B];cases L[i]? with
  |none=>exact .inl O
  |some p=>exact .inr ⟨p,O⟩
theorem c5U(hc:McG c){f:Src}(h:y∈caF c f s):a7Z c y:=by
 unfold caF at h;split at h
 .rename_i h0;have hy:=a2T.1 h
  rcases c17 c.me s (f.pkg::f.imports)with hz|⟨q,hq⟩
  .exfalso;rw[show ctF c f s=En.z from hz]at h0;exact absurd h0 H
  .have eL:ctF c f s=B3 true c.me 1 q s:=hq;have h1:=hc.ct 1 q s;rw[<- eL]at h1;unfold a4m at h0;split at h0
   .exact absurd h0 H
   .split at h0
    .exact absurd h0 H
    .rename_i h2 h3;have cw:(ctF c f s).ct=1:=by omega
     rw[a1h,W h2,W h3]at hy;rw[hy];exact⟨⟨1,q,s,eL⟩,cw⟩
 .cases h
theorem c6n(h:y∈daF c s):a7Z c y:=by
 unfold daF at h;split at h
 .rename_i h0;have hy:=a2T.1 h;rw[hy];refine⟨?_,h0.2⟩;have h1:=h0.2;unfold diE at h1⊢;split at h1
  .exact absurd h1 H
  .rename_i h2;rw[W h2];unfold a1h at h1⊢;split at h1
   .exact absurd h1 H
   .rename_i h3;split at h1
    .exact absurd h1 H
    .rename_i h4;rw[W h3,W h4];exact⟨3,[],s,O⟩
 .cases h
theorem b7V(hc:McG c){s:Src}(h:y∈a1H c s d):a7Z c y:=by
 unfold a1H at h
 rcases T9.1 h with h|h
 .obtain ⟨n,_,h⟩:=b3c.1 h;exact c5U hc h
 .obtain ⟨n,_,h⟩:=b3c.1 h;exact c6n h
theorem a7Z.decl(hc:McG c)(h:a7Z c v):∃(s:Src) (d:De),0<=v.ix/\N6 c v=some (s,d)/\a09 s/\d∈s.decls:=by
 obtain⟨⟨k,a,b,rfl⟩,h1⟩:=h;obtain⟨s,d,h2,h3,h4,h5,_⟩:=hc.find h1;exact⟨s,d,h2,h3,h4,h5⟩
theorem a7Z.mem(h:a7Z c v):v∈c.me.map Prod.snd:=by
 obtain⟨⟨k,a,b,rfl⟩,h1⟩:=h;unfold B3 at h1⊢;rw[Q O]at h1⊢;cases hg:glk c.me (C0 k a b)with
 |none=>rw[hg]at h1;exact absurd (show(0:Int)=1 from h1) H
 |some e=>exact D6.2 ⟨_,b2A hg,O⟩
structure CI(c:MC)(p o:I)(T:CS):Prop where
 nd:T.V.Nodup
 good:∀v∈T.V,a7Z c v
 rch:∀v∈T.V,Rch c p o v
 bas:a0w c p o∈T.V
 cl:∀v∈T.V.take T.i,∀s d,N6 c v=some (s,d)->∀y∈a1H c s d,y∈T.V
 K:∀k,k∈T.K↔k=kyT p o\/∃v∈T.V.take T.i,∃s d,N6 c v=some (s,d)/\k∈a1d c s d
 rn:T.rn=true↔∃v∈T.V.take T.i,∃s d,N6 c v=some (s,d)/\a19 d=true
 i:T.i<=T.V.length
 j:T.j<=T.i
 kl:T.K.length<=1+3100*T.i
variable{j i:Nat}{K:List Ky}{rn:Bool}
theorem CI.len(h:CI c p o T):T.V.length<=c.me.length:=by
 have:=List.Nodup.length_le_of_subset h.nd λv hv=>(h.good v hv).mem;rwa[K6]at this
theorem CI.zero(h:(a0w c p o).ct=1):CI c p o ⟨[kyT p o],[a0w c p o],0,0,false⟩ where
 nd:=by simp
 good:=λv hv=>by rw[a2T.1 hv];exact⟨⟨2,p,o,O⟩,h⟩
 rch:=λv hv=>by rw[a2T.1 hv];exact .base
 bas:=a2T.2 O
 cl:=λv hv=>by cases hv
 K:=λk=>by simp
 rn:=by simp
 i:=n_5 _
 j:=n_6 _
 kl:=by simp
theorem c6q(fl:List Fi)(s:I):(a3e fl s).length<=2:=by unfold a3e;split<;>simp
theorem flat_len{α β:Type}{f:α->List β}{b:Nat}(hf:∀x,(f x).length<=b):∀l:List α,(l.flatMap f).length<=b*l.length
 | []=>n_5 _
 |x::l=>by
  rw[b35,n_8,D3,Nat.mul_succ];have:=hf x;have:=flat_len hf l;omega
theorem c9Y{s:Src}(hs:a09 s)(hd:d∈s.decls):(a1d c s d).length<=3100:=by
 have hb:=(hs.dec d hd).blen;have h1:=flat_len (λx=>c4u c s x hs.impl) (nmS d [3]);have h2:=flat_len (λx=>c6q c.fl x) (nmS d [6,7,8]);have l1:=a5I d [3];have l2:=a5I d [6,7,8];have l3:=a5I d [9];unfold a1d;rw[n_8,n_8,K6];omega
theorem CI.step(hc:McG c)(h:CI c p o T)(hv:T.V[T.i]?=some v){s:Src}(hd:N6 c v=some (s,d))(hs:a09 s)(hm:d∈s.decls)(hj:j<=T.i+1):CI c p o ⟨T.K++a1d c s d,U3 T.V (a1H c s d),T.i+1,j,T.rn ||a19 d⟩:=by
 have cH:=b3u (a1H c s d) T.V;have af:=(n_2.1 hv).1;have hvm:=n_3 hv;have htk:(U3 T.V (a1H c s d)).take (T.i+1)=T.V.take T.i++[v]:=by
  obtain⟨t,ht⟩:=cH;rw[<- ht,List.take_append_of_le_length G,Z2,hv];rfl
 have gg:∀{P:Src->De->Prop},(∃u∈T.V.take T.i++[v],∃s d,N6 c u=some (s,d)/\P s d)↔(∃u∈T.V.take T.i,∃s d,N6 c u=some (s,d)/\P s d)\/P s d:=λ{P}=>by
  constructor
  .rintro ⟨u,hu,s',d',h1,h2⟩
   rcases T9.1 hu with hu|hu
   .exact .inl ⟨u,hu,s',d',h1,h2⟩
   .rw [a2T.1 hu,hd]at h1;injection h1 with h1;injection h1 with h1 h3
    subst h1 h3;exact .inr h2
  .rintro (⟨u,hu,h1⟩|h1)
   .exact ⟨u,b4F _ hu,h1⟩
   .exact ⟨v,List.mem_append_right _ (a2T.2 O),s,d,hd,h1⟩
 refine⟨b71 h.nd,λu hu=>?_,λu hu=>?_,a1P.2 (.inl h.bas),λu hu s' d' h1 y hy=>?_,λk=>?_,?_,?_,hj,?_⟩
 .rcases a1P.1 hu with hu|hu
  .exact h.good u hu
  .exact b7V hc hu
 .rcases a1P.1 hu with hu|hu
  .exact h.rch u hu
  .exact .step (h.rch v hvm) hd hu
 .rw [htk]at hu
  rcases T9.1 hu with hu|hu
  .exact a1P.2 (.inl (h.cl u hu s' d' h1 y hy))
  .rw [a2T.1 hu,hd]at h1;injection h1 with h1;injection h1 with h1 h3
   subst h1 h3;exact a1P.2 (.inr hy)
 .rw [htk,T9,h.K k,gg,or_assoc]
 .rw [htk,gg,a80,h.rn]
 .show T.i+1<=(U3 T.V (a1H c s d)).length;have:=cH.length_le;omega
 .have h1:=h.kl;have h2:=c9Y (c:=c) hs hm;show(T.K++a1d c s d).length<=_;rw[n_8];show _<=1+3100*(T.i+1);omega
theorem CI.done(h:CI c p o T)(hi:T.V.length<=T.i)(hl:c.me.length<=10000):a0a c p o T.K T.rn:=by
 have cy:=h.cl;have hK:=h.K;have hr:=h.rn;rw[U2 hi]at cy hK hr;have bk:∀v,Rch c p o v->v∈T.V:=λv hv=>by
  induction hv with
  |base=>exact h.bas
  |step _ hd hy ih=>exact cy _ ih _ _ hd _ hy
 have fQ:∀{P:Src->De->Prop},(∃v∈T.V,∃s d,N6 c v=some (s,d)/\P s d)↔∃v,Rch c p o v/\∃s d,N6 c v=some (s,d)/\P s d:=λ{P}=>
  ⟨λ⟨v,hv,h1⟩=>⟨v,h.rch v hv,h1⟩,λ⟨v,hv,h1⟩=>⟨v,bk v hv,h1⟩⟩
 refine⟨λk=>by rw[hK k,fQ],by rw[hr,fQ],?_⟩;have h1:=h.kl;have h2:=h.len;have h3:=h.i;omega
theorem a0a.uniq{K':List Ky}{rn':Bool}(h:a0a c p o K rn)(h':a0a c p o K' rn'):P8 K=P8 K'/\rn=rn':=
 ⟨d0J λk=>(h.mem k).trans (h'.mem k).symm,by
  have:=h.rn.trans h'.rn.symm;cases rn<;>cases rn'<;>simp_all⟩
abbrev b6B(K:List Ky)(rn:Bool):CV:=.tup [.list ((P8 K).map Ky.cv) (gnn (P8 K).length) none,.val (.bool rn),iv 0]
theorem b3t(K:List Ky)(rn:Bool):p9 (b6B K rn):=C5 ⟨G7 _ _,.val _,.val _,J⟩
theorem e0U(c:MC)(hc:McG c)(bK:c.fl.length<=1000000)(bw:c.me.length<=10000)(p o:I)(cw:(a0w c p o).ct=1):b8 CC 40 [.ptr 0 0,.agg [sv p,sv o]] (wst c.fl c.nn true c.br c.ms c.me) λr τ=>∃x:List Ky×Bool,X8 4 τ r (.ret (b6B x.1 x.2))/\a3X 4 τ τ (wst c.fl c.nn true c.br c.ms c.me)/\4<=4/\a0a c p o x.1 x.2:=by
 refine cO Tryz.func40 ?_;refine z_8 ?_;refine cY a7p ?_;refine cY a7p ?_;refine z_5 ?_;refine z_2 ?_;refine cY c3z ?_;refine cY M6 ?_;refine cY c3z ?_;refine cY M6 ?_;refine ye O c68 ⟨J,O,J,J,J⟩ (a5O (w:=0) (q1:=1) (q2:=2) (t:=3) (fl:=c.fl) (nn:=c.nn) (va:=true) (br:=c.br) (ms:=c.ms) (me:=c.me) ⟨O,O,O,O,a1s ⟨H,H,H,H,H,H⟩⟩ 2 p o) O ?_;refine cD (o6 O a1q O j4 ?_);refine cD (j1 O J J O j2 t_6 j4 O O (nb O) ?_);refine a74 ?_;refine a75 ?_;refine a5s ?_;refine cC ?_ ?_<;>intro h1
 .exact absurd cw (show ¬(a0w c p o).ct=1 from(by simpa using h1:¬(B3 true c.me 2 p o).ct=1))
 .refine b3J ?_;refine cY c3z ?_;refine cY M6 ?_;refine cY c3z ?_;refine cY M6 ?_;refine cY e1d ?_;refine cD (c4E O J O ⟨O,O,O⟩ a0k t_9 a21 ?_);refine cD (R9 O ?_);refine cY (A1 #[(0,1),(1,1),(2,1),(3,1),(4,1)] O E7 c6W Tryz.zeroValue142 O ⟨_,O⟩ (λw=>by kernel_rfl) O O) ?_;refine cD (H3 O J j2 j4 ?_);refine b4x ?_;refine b0K ?_;refine z_9 ?_;refine cY a1A ?_;refine de O c8W i7 (c0Q (q:=8) (wk:=9) (m:=7) (w:=0) (tk:=6) (⟨[kyT p o],[],0,0,false⟩:CS) (a0w c p o) (n_5 _) O O (.inl ⟨O,O,O,O,O⟩) H) O ?_;intro j hj;obtain rfl:j=0:=by have:j<=0:=hj;omega
  refine K9 ((λV:List En=>[wbx c.fl c.nn true c.br 1 2 3,smO c.ms,emO c.me,m0 c.br.length,.box [sv p,sv o],.box (a0w c p o).cells,m0 1,seO V,cbx (⟨[kyT p o],V,0,0,false⟩:CS) 0 7 6 11,.dead,.box (a0w c p o).cells,wkO (⟨[kyT p o],V,0,0,false⟩:CS)]) [(a0w c p o)]) (n_7 (λV:List En=>[wbx c.fl c.nn true c.br 1 2 3,smO c.ms,emO c.me,m0 c.br.length,.box [sv p,sv o],.box (a0w c p o).cells,m0 1,seO V,cbx (⟨[kyT p o],V,0,0,false⟩:CS) 0 7 6 11,.dead,.box (a0w c p o).cells,wkO (⟨[kyT p o],V,0,0,false⟩:CS)]) (show a2M [] (a0w c p o)=[(a0w c p o)] by simp[a2M])) ?_;refine a56 ?_;refine J9 ?_;refine a5M hCC 12 O ((b0I (S:=⟨[kyT p o],[(a0w c p o)],0,0,false⟩) (tk:=6) (q:=8) O H O O).trans (b0L (S:=⟨[kyT p o],[(a0w c p o)],0,0,false⟩) (wk:=11) (q:=8) O H O O)) (α:=CS) (λ_=>[(8,.ptr 8 0)]) (λT=>[wbx c.fl c.nn true c.br 1 2 3,smO c.ms,emO c.me,m0 c.br.length,.dead,.dead,.dead,seO T.V,cbx T 0 7 12 13,.dead,.dead,.dead,m0 T.K.length,wkO T]) (λT=>CI c p o T) (λT=>c.me.length -T.i) ⟨⟨[kyT p o],[(a0w c p o)],0,0,false⟩,[0,1,2,3,4,5,6,7,8,9,10,11,12,13],CI.zero cw,⟨O,O⟩,ut_,⟨.inr ⟨_,O,.same O a2E⟩,.inr ⟨_,O,.same O X4⟩,.inr ⟨_,O,.same O Y2⟩,.inr ⟨_,O,.same O B0⟩,.inl O,.inl O,.inl O,.inr ⟨_,O,.same O (a0B _ _)⟩,.inr ⟨_,O,.box ⟨.same O (.ptr H),C3.grow (f:=Ky.cv) (λ_=>⟨.val _,.val _,.val _,J⟩) O,.same O (.map H),.vec O,.old (.val _),J⟩⟩,.inl O,.inl O,.inl O,.inr ⟨_,O,.same O B0⟩,.inr ⟨_,O,.same O (a0r _ _)⟩,J⟩⟩ ?_;intro T hT;have hTl:=hT.len;have hTj:=hT.j;refine c05 ?_;refine cY W2 ?_;refine d3U ?_;refine cY (a0W O J O a1X O O) ?_;refine a5s ?_;refine cC ?_ ?_<;>intro h2
  .have af:T.i <T.V.length:=sm_ h2;obtain⟨v,hv⟩:∃v,T.V[T.i]?=some v:=⟨T.V[T.i]'af,U⟩;obtain⟨s,d,hix,hda,hsg,hdm⟩:=(hT.good v (n_3 hv)).decl hc;have bT:(T.V.drop T.j)[T.i -T.j]?=some v:=by rw[a6d,Nat.add_sub_cancel' hTj];exact hv
   have fh:=hT.kl;refine w9 (J9 ?_);refine a8t ?_;refine d3U ?_;refine cY (X1 O J O O O a1X t_6 O G G) ?_;refine cY (a2a O J O b1x t_6 O (a7O (j5 bT) G) (nb O)) ?_;refine c6L ?_;refine b4u ?_;refine d3U ?_;refine cY (O8 (l:=1) O J O a1X t_6 O ⟨O,_,_,O,G,G⟩ O a1U H6) ?_;refine cY W2 ?_;refine cY c4C ?_;refine cD (j1 O J J O j2 c3k (.inl O) O O (nb O) ?_);refine p7 ?_;refine z_9 ?_;refine cY a1A ?_;refine K9 ((λa b=>[wbx c.fl c.nn true c.br 1 2 3,smO c.ms,emO c.me,m0 c.br.length,.dead,.dead,.dead,seO T.V,.box [.ptr 0 0,.list (T.K.map Ky.cv) (gnn T.K.length) (F1 T.K.length 12),.map 7,.vec 13 a b,.val (.bool T.rn)],.dead,.dead,.dead,m0 T.K.length,wkO T,.box v.cells]) (T.i+1-T.j) (T.V.length - (T.i+1))) (congr (n_7 (λa b=>[wbx c.fl c.nn true c.br 1 2 3,smO c.ms,emO c.me,m0 c.br.length,.dead,.dead,.dead,seO T.V,.box [.ptr 0 0,.list (T.K.map Ky.cv) (gnn T.K.length) (F1 T.K.length 12),.map 7,.vec 13 a b,.val (.bool T.rn)],.dead,.dead,.dead,m0 T.K.length,wkO T,.box v.cells]) (show T.i -T.j+1=T.i+1-T.j by omega)) (show T.V.length -T.i -1=T.V.length - (T.i+1) by omega)) ?_;refine de O Tryz.call84 i7 (c9k c {T with i:=T.i+1} v s d hix hda (hsg.dec d hdm).blen hsg.impl bK do_ af do_ do_) rfl ?_;intro j hj;refine p7 ?_;exact⟨⟨T.K++a1d c s d,U3 T.V (a1H c s d),T.i+1,j,T.rn ||a19 d⟩,[0,1,2,3,4,5,6,7,8,9,10,11,15,16],⟨do_,hT.step hc hv hda hsg hdm hj⟩,⟨O,O⟩,ut_,⟨.inr ⟨_,O,.same O a2E⟩,.inr ⟨_,O,.same O X4⟩,.inr ⟨_,O,.same O Y2⟩,.inr ⟨_,O,.same O B0⟩,.inl O,.inl O,.inl O,.inr ⟨_,O,.same O (a0B _ _)⟩,.inr ⟨_,O,.box ⟨.same O (.ptr H),C3.grow (f:=Ky.cv) (λ_=>⟨.val _,.val _,.val _,J⟩) O,.same O (.map H),.vec O,.old (.val _),J⟩⟩,.inl O,.inl O,.inl O,.inr ⟨_,O,.same O B0⟩,.inr ⟨_,O,.same O (a0r _ _)⟩,J⟩⟩
  .have aH:T.V.length<=T.i:=sm_ h2;have hP:=hT.done aH bw;refine j8 (F6 ?_);refine cW 12 ?_;refine a2W ?_;refine hY b8o ?_;refine hY b6N ?_;refine hY (c5 O Tryz.call85 ⟨J,J⟩ (d9x T.K (by have:=hP.len;omega) _) O) ?_;refine a2W ?_;refine hY d2S ?_;refine hY a8A ?_;refine c0l ?_;refine hY a7p ?_;refine a6g ?_;refine c6 ?_;exact⟨_,r8 (rs:=[.tmp 4,.tmp 5,.tmp 6]) (cs:=[_,_,_]) O ⟨⟨J,O⟩,⟨J,O⟩,⟨J,O⟩,J⟩ (n_4 O),⟨(T.K,T.rn),.ret (.tups ⟨.old (G7 _ _).old,.old (.val _),.old (.val _),J⟩),b1f _,n_6 _,hP⟩⟩
theorem d8J(c:MC)(hc:McG c)(bK:c.fl.length<=1000000)(bw:c.me.length<=10000)(p o:I)(cw:(a0w c p o).ct=1)(ao:WAt σ w q1 q2 t c.fl c.nn true c.br c.ms c.me):b8 CC 40 [.ptr w 0,.agg [sv p,sv o]] σ λr τ=>∃x:List Ky×Bool,r= .ret (b6B x.1 x.2)/\τ=σ/\a0a c p o x.1 x.2 :=
 a2k [w,q1,q2,t] hCC O ao.nd (b9X ao) (.cons (.ptr O) (H9 λa h=>by simp at h;subst h;exact o0 ⟨.val _,.val _,J⟩)) (c:=λx:List Ky×Bool=>b6B x.1 x.2) (P:=λx=>a0a c p o x.1 x.2) (λ_ _=>b3t _ _)
  (M4 (S:=λ_=>(wst c.fl c.nn true c.br c.ms c.me)) (res:=λx:List Ky×Bool=>.ret (b6B x.1 x.2)) (P:=λx=>a0a c p o x.1 x.2) hCC (e0U c hc bK bw p o cw))
theorem b6V(fl:List Fi)(nn:Bool)(ev:List Va)(en:Bool)(wd:Int)(hl:∀f∈fl,f.p.length<=1000000000)(hv:C7 fl=0)(hm:fl.length<=1000000)(hc:McG (mcR fl nn ev en wd))(bw:(A6 fl).2.2.length<=10000)(p o:I)(cw:(a0w (mcR fl nn ev en wd) p o).ct=1):b8 CC 13 [.agg (A0 fl nn),.agg [sv p,sv o]] [] λr τ=>∃x:List Ky×Bool,X8 0 τ r (.ret (b6B x.1 x.2))/\a0a (mcR fl nn ev en wd) p o x.1 x.2:=by
 have hv0:(C7 fl == 0)=true:=by rw[hv];rfl
 refine cO Tryz.func13 ?_;refine c5k ?_;refine cY a7p ?_;refine cY a7p ?_;refine z_5 ?_;refine c9o ?_;intro _ _;refine z_1 ?_;refine c05 ?_;refine cY W2 ?_;refine cY d3B ?_;refine cY a8A ?_;refine b2y ?_;refine cC ?_ ?_<;>intro h1
 .exfalso;simp[hv]at h1
 .refine b3J ?_;refine cY b8g ?_;refine de O Tryz.call40 i7 (d8J (mcR fl nn ev en wd) hc hm bw p o cw (w:=2) (q1:=3) (q2:=4) (t:=5) ⟨by rw[hv0];rfl,O,O,O,a1s ⟨H,H,H,H,H,H⟩⟩) O ?_;intro⟨K,rn⟩ hP;dsimp only at hP⊢;refine d9R ?_;refine b4p ?_;refine cY a0H ?_;refine a4z ?_;exact⟨_,r8 (rs:=[.tmp 4,.tmp 5,.tmp 6]) (cs:=[_,_,_]) O ⟨⟨J,O⟩,⟨J,O⟩,⟨J,O⟩,J⟩ (n_4 O),⟨(K,rn),.ret (.tups ⟨.old (G7 _ _).old,.old (.val _),.old (.val _),J⟩),hP⟩⟩
theorem a6R(fl:List Fi)(nn:Bool)(ev:List Va)(en:Bool)(wd:Int)(hl:∀f∈fl,f.p.length<=1000000000)(hv:C7 fl=0)(hm:fl.length<=1000000)(hc:McG (mcR fl nn ev en wd))(bw:(A6 fl).2.2.length<=10000)(p o:I)(cw:(a0w (mcR fl nn ev en wd) p o).ct=1)(σ:List b9):b8 CC 13 [.agg (A0 fl nn),.agg [sv p,sv o]] σ λr τ=>∃x:List Ky×Bool,r= .ret (b6B x.1 x.2)/\τ=σ/\a0a (mcR fl nn ev en wd) p o x.1 x.2 :=
 D8 (res:=λx:List Ky×Bool=>.ret (b6B x.1 x.2)) (P:=λx=>a0a (mcR fl nn ev en wd) p o x.1 x.2) hCC (λa h=>by
  simp at h
  rcases h with rfl|rfl
  .exact o0 (cs:=A0 _ _) ⟨D9 _ _,J⟩
  .exact o0 ⟨.val _,.val _,J⟩) (b6V fl nn ev en wd hl hv hm hc bw p o cw) (λ_ _=>b3t _ _) σ
theorem b5d{p:Ky->Bool}(l:List Ky)(nn:Bool)(hl:l.length<=1000000000)(hg:∀args w,(callFunc g args).run CC.P w= .ok (.enter g args) w)(Jf:∀x∈l,b8 CC g ([.agg x.cells]++caps) σ λr aa=>r= .ret (.val (.bool (p x)))/\aa=σ):b8 CC 96 [(.list (l.map Ky.cv) nn none),.clo g caps] σ λr aa=>r= .ret (iv (ixP p l 0))/\aa=σ:=by
 refine cO Tryz.func96 ?_;refine a9o ?_;refine cY b8O ?_;refine a2S ?_;refine J8 (α:=Nat) (λi=>[(0,(.list (l.map Ky.cv) nn none)),(1,(.clo g caps)),(7,iv l.length),(8,iv i)]) (λ_=>σ) (λi=>i<=l.length/\ixP p l 0=ixP p (l.drop i) i) (λi=>l.length -i) 0 ⟨n_5 _,O⟩ tu_ O ?_;intro i E0 ⟨hi,hr⟩;refine a2P ?_;refine cC ?_ ?_<;>intro h1
 .have af:(i:Int)<l.length:=D h1;obtain⟨y,hb⟩:=gx_ l i;rw[a7r hb]at hr;refine b2t ?_;refine z_2 ?_;refine z_1 ?_;refine b1P ?_;refine d8x ?_;refine cY d1g ?_;refine p7 ?_;refine cC ?_ ?_<;>intro h2
  .have hx:p y=true:=D h2;rw[Q hx]at hr;exact d7U
  .have hx:¬p y=true:=D h2;rw[W hx]at hr;exact d7O
 .have aH:i=l.length:=by
   have:¬(i:Int)<l.length:=D h1;omega
  refine j8 ?_;refine a4H ?_;exact⟨_,rE1,d2t⟩
theorem a4t{p:Ky->Bool}(l:List Ky)(nn:Bool)(hl:l.length<=1000000000)(hg:∀args w,(callFunc g args).run CC.P w= .ok (.enter g args) w)(Jf:∀x∈l,b8 CC g ([.agg x.cells]++caps) σ λr aa=>r= .ret (.val (.bool (p x)))/\aa=σ):b8 CC 62 [(.list (l.map Ky.cv) nn none),.clo g caps] σ λr aa=>r= .ret (.val (.bool (l.any p)))/\aa=σ:=by
 refine cO Tryz.func62 ?_;refine a5n ?_;refine a1Y ?_;refine yc O Tryz.call96 i7 (b5d l nn hl hg Jf) ?_;refine cY a0c ?_;exact d8L
theorem c6G(k:Ky)(hk:k.a.length<=1000000000/\k.b.length<=1000000000)(σ:List b9):b8 CC 63 [.agg k.cells] σ λr aa=>r= .ret (.val (.bool (!I1 k)))/\aa=σ:=by
 refine an_ Tryz.func63 ?_;refine a6k ?_;refine c2y ?_;refine yc O Tryz.call64 ⟨J,J⟩ (b0X k hk.1 hk.2 _) ?_;refine cY c0x ?_;exact c9w
theorem d2Z(ks:List Ky)(kn:Bool)(hl:ks.length<=1000000000)(k:Ky):b8 CC 65 [.agg k.cells,.ptr 0 0] [.box [(.list (ks.map Ky.cv) kn none)]] λr τ=>∃_:Unit,X8 1 τ r (.ret (.val (.bool (ks.any λx=>x == k))))/\a3X 1 τ τ [.box [(.list (ks.map Ky.cv) kn none)]]/\1<=1/\True:=by
 refine cO Tryz.func65 ?_;refine a6k ?_;refine a6r ?_;refine cY b6N ?_;refine cY b8O ?_;refine a2S ?_;refine o4 hCC (α:=Nat) (λi=>[(2,.ptr 1 0),(6,(.list (ks.map Ky.cv) kn none)),(7,iv ks.length),(8,iv i)]) (λ_=>[.box [(.list (ks.map Ky.cv) kn none)],.box k.cells]) (λi=>i<=ks.length/\(ks.any λx=>x == k)=((ks.drop i).any λx=>x == k)) (λi=>ks.length -i) 0 ⟨n_5 _,O⟩ tu_ (am:=[]) O B5 uz_ ?_;intro i ⟨hi,hr⟩;refine a2P ?_;refine cC ?_ ?_<;>intro h1
 .have af:i<ks.length:=sm_ h1;obtain⟨y,hb⟩:∃y,ks[i]?=some y:=⟨ks[i]'af,U⟩;rw[a5F hb,List.any_cons]at hr;refine a5p ?_;refine d8x ?_;refine c4h ?_;refine c2y ?_;refine cY c4i ?_;refine cY e1Y ?_;refine p7 ?_;refine cC ?_ ?_<;>intro h2
  .have hy:y=k:=D h2;rw[show(y == k)=true by simp[hy],Bool.true_or]at hr;refine a4H ?_;exact⟨_,b2R O J O,⟨(),(by rw[hr];exact .ret (.old (.val _))),⟨.same (A3 ⟨(G7 _ _).old,J⟩),(by trivial)⟩,n_6 _,J⟩⟩
  .have hy:¬y=k:=D h2;rw[show(y == k)=false by simp[hy],Bool.false_or]at hr;exact d8O
 .have aH:i=ks.length:=sm_ h1;rw[aH,b8V]at hr;refine j8 ?_;refine a4H ?_;exact⟨_,b2R O J O,⟨(),(by rw[hr];exact .ret (.old (.val _))),⟨.same (A3 ⟨(G7 _ _).old,J⟩),(by trivial)⟩,n_6 _,J⟩⟩
theorem d5P(ks:List Ky)(kn:Bool)(hl:ks.length<=1000000000)(k:Ky)(hq:σ[q]?=some (.box [(.list (ks.map Ky.cv) kn none)])):b8 CC 65 ([.agg k.cells]++[.ptr q 0]) σ λr τ=>r= .ret (.val (.bool (ks.any λx=>x == k)))/\τ=σ:=
 a62 hCC (show a2Z (.box [(.list (ks.map Ky.cv) kn none)])from λc hc=>by simp at hc;subst hc;exact G7 _ _) (.val _) hq (.cons (.pure (o0 ⟨.val _,.val _,.val _,J⟩)) (.cons (.ptr O) .nil)) (d2Z ks kn hl k)
theorem c7e(fl:List Fi)(nn:Bool)(hl:∀f∈fl,f.p.length<=1000000000)(bw:(A6 fl).2.2.length<=10000):b8 CC 66 [.agg (A0 fl nn)] [] λr τ=>∃ts:List (I×I),X8 0 τ r (.ret (.list (ts.map nmC) (gnn ts.length) none))/\TsP (A6 fl).2.2 ts/\ts.length<=10000:=by
 refine cO Tryz.func66 ?_;refine a6k ?_;refine b2K ?_;refine a5r ?_;refine dc O Tryz.call97 ⟨J,J⟩ (b8J fl nn hl bw _) ?_;intro m ⟨hp,hs⟩;have hml:m.length<=10000:=by rw[hp.length_eq,K6];exact bw
 refine cY c5d ?_;refine a2S ?_;refine A5 hCC 1 O (α:=Nat×List (I×I)) (λa=>[(3,(.list (a.2.map nmC) (gnn a.2.length) (F1 a.2.length 1))),(7,(.list (m.map En.cells) (gnn m.length) none)),(8,iv m.length),(9,iv a.1)]) (λa=>[.box (A0 fl nn),m0 a.2.length]) (λa=>a.1<=m.length/\a.2=tsL (m.take a.1)) (λa=>m.length -a.1) ⟨(0,[]),[0,9],⟨n_5 _,O⟩,⟨O,O⟩,q_1,uq_⟩ ?_;intro⟨i,out⟩ ⟨hi,ho⟩;dsimp only at hi ho⊢;have jc:out.length<=i:=by rw[ho];unfold tsL;rw[K6];exact a1u (b76 _ _) a9r
 refine a2P ?_;refine cC ?_ ?_<;>intro h1
 .have af:i<m.length:=sm_ h1;obtain⟨y,hb⟩:∃y,m[i]?=some y:=⟨m[i]'af,U⟩;have aF:tsL (m.take (i+1))=out++(if tsB y=true then [(y.p,y.o)]else []):=by
   unfold tsL at ho⊢;rw[Z2,hb,b4r,a3M,<- ho];show out++(List.filter tsB [y]).map _=_;by_cases hy:tsB y=true
   .rw [b1Q hy,Q hy];rfl
   .rw [b7O hy,W hy];rfl
  refine a5p ?_;refine d8H ?_;refine c6L ?_;refine z_0 ?_;refine a75 ?_;refine b0b ?_;refine cG d3A ?_;refine cG a7t ?_;refine cG a3h ?_;refine b0T ?_;refine cC ?_ ?_<;>intro h2
  .have ht:tsB y=true:=by simpa[tsB]using h2
   rw[Q ht]at aF;refine z_9 ?_;refine a9v ?_;refine a9v ?_;refine cY e21 ?_;refine cY e2u ?_;refine cD (C8 O J J O U q_3 b6i a96 c9c b7e O (.inr O) q_7 d9B G6 ((out++[(y.p,y.o)]).map nmC) (out++[(y.p,y.o)]).length U U ?_);refine z_1 ?_;refine a8F ?_;exact⟨(i+1,out++[(y.p,y.o)]),[0,3],⟨do_,do_,by dsimp only;exact aF.symm⟩,⟨O,O⟩,ut_,uq_⟩
  .have ht:¬tsB y=true:=by intro hh;simp[tsB]at hh;simp[hh]at h2
   rw[W ht,Z7]at aF;refine a9h ?_;exact⟨(i+1,out),[0,1],⟨do_,do_,by dsimp only;exact aF.symm⟩,⟨O,O⟩,ut_,uq_⟩
 .have gN:i=m.length:=sm_ h1;rw[gN,U2 (n_6 _)]at ho;subst ho;refine b34 ?_;exact⟨_,b2R O J O,⟨tsL m,.ret (a0P (λr hr=>by obtain⟨x,_,rfl⟩:=D6.1 hr;exact Y3 x)),e1F (b5w fl) hp hs,G⟩⟩
theorem a4K(l:List (I×I))(nn:Bool):p9 (.list (l.map nmC) nn none):=F3 (f:=nmC) Y3 l nn
theorem d0m(fl:List Fi)(nn:Bool)(hl:∀f∈fl,f.p.length<=1000000000)(bw:(A6 fl).2.2.length<=10000)(σ:List b9):b8 CC 66 [.agg (A0 fl nn)] σ λr τ=>∃ts:List (I×I),r= .ret (.list (ts.map nmC) (gnn ts.length) none)/\τ=σ/\TsP (A6 fl).2.2 ts/\ts.length<=10000:=
 D8 (res:=λts:List (I×I)=>.ret (.list (ts.map nmC) (gnn ts.length) none)) (P:=λts=>TsP (A6 fl).2.2 ts/\ts.length<=10000) hCC (λa h=>by simp at h;subst h;exact o0 (cs:=A0 _ _) ⟨D9 _ _,J⟩) (c7e fl nn hl bw) (λ_ _=>a4K _ _) σ
open Classical in
noncomputable def clK(c:MC)(x:I×I):List Ky:=if h:∃K:List Ky,∃rn,a0a c x.1 x.2 K rn then P8 h.choose else []
theorem c1u{x:I×I}(h:a0a c x.1 x.2 K rn):clK c x=P8 K:=by
 have gg:∃K:List Ky,∃rn,a0a c x.1 x.2 K rn:=⟨K,rn,h⟩;unfold clK;rw[dif_pos gg];obtain⟨rn',h'⟩:=gg.choose_spec;exact(h'.uniq h).1
noncomputable def X6(c:MC)(ks:List Ky)(x:I×I):Bool:=(clK c x).any λk=>ks.any λq=>q == k
theorem b1U(fl:List Fi)(nn:Bool)(ev:List Va)(en:Bool)(wd:Int)(hl:∀f∈fl,f.p.length<=1000000000)(hv:C7 fl=0)(hm:fl.length<=1000000)(hc:McG (mcR fl nn ev en wd))(bw:(A6 fl).2.2.length<=10000)(ks:List Ky)(kn:Bool)(fh:ks.length<=1000000000)(bm:∀k∈ks,I1 k=true):b8 CC 19 [.agg (A0 fl nn),(.list (ks.map Ky.cv) kn none)] [] λr τ=>∃ts:List (I×I),X8 0 τ r (.ret (.tup [.list ((ts.filter (X6 (mcR fl nn ev en wd) ks)).map nmC) (gnn (ts.filter (X6 (mcR fl nn ev en wd) ks)).length) none,iv 0]))/\TsP (A6 fl).2.2 ts:=by
 have hv0:(C7 fl == 0)=true:=by rw[hv];rfl
 refine cO Tryz.func19 ?_;refine z_8 ?_;refine cD (H3 O J j2 (.inl O) ?_);refine cY a7p ?_;refine z_5 ?_;refine c9o ?_;intro _ _;refine z_1 ?_;refine c05 ?_;refine cY W2 ?_;refine cY d3B ?_;refine cY a8A ?_;refine cY c0x ?_;refine cY D2 ?_;refine cG (λhg=>j9 O J O c0s O O) ?_;refine cG (λhg=>c5 O Tryz.call62 ⟨hg,J,J⟩ (b2O (a4t (caps:=[]) (p:=λk=>!I1 k) ks kn fh Tryz.call63 λk hk=>c6G k (by have:=a7L (bm k hk);omega) _)) O) ?_;refine b6W ?_;refine cC ?_ ?_<;>intro h1
 .exfalso;rw[hv0]at h1;simp at h1;obtain⟨k,hk,hb⟩:=h1;rw[bm k hk]at hb;cases hb
 .refine w9 ?_;refine z_0 ?_;refine cY (a3v O ⟨J,J⟩) ?_;refine z_1 ?_;refine b2K ?_;refine a5r ?_;refine dc O Tryz.call66 ⟨J,J⟩ (d0m fl nn hl bw _) ?_;intro ts ⟨fL,htl⟩;refine cY c3Z ?_;refine a2S ?_;refine A5 hCC 6 O (α:=Nat×List (I×I)) (λa=>[(6,.ptr 2 0),(7,(.clo 65 [.ptr 1 0])),(8,(.list (a.2.map nmC) (gnn a.2.length) (F1 a.2.length 6))),(27,(.list (ts.map nmC) (gnn ts.length) none)),(28,iv ts.length),(29,iv a.1)]) (λa=>[.box (A0 fl nn),.box [(.list (ks.map Ky.cv) kn none)],wbx fl nn (C7 fl == 0) (A6 fl).1 3 4 5,smO (A6 fl).2.1,emO (A6 fl).2.2,m0 (A6 fl).1.length,m0 a.2.length]) (λa=>a.1<=ts.length/\a.2=(ts.take a.1).filter (X6 (mcR fl nn ev en wd) ks)) (λa=>ts.length -a.1) ⟨(0,[]),[0,1,2,3,4,5,9],⟨n_5 _,O⟩,⟨O,O⟩,⟨b4q,b4q,b4q,b4q,b4q,b4q,J⟩,uq_⟩ ?_;intro⟨i,out⟩ ⟨hi,ho⟩;dsimp only at hi ho⊢;have jc:out.length<=i:=by rw[ho];exact a1u (b76 _ _) a9r
  refine a2P ?_;refine cC ?_ ?_<;>intro h2
  .have af:i<ts.length:=sm_ h2;obtain⟨x,hb⟩:∃x,ts[i]?=some x:=⟨ts[i]'af,U⟩;have cw:(a0w (mcR fl nn ev en wd) x.1 x.2).ct=1:=(fL.mem x).1 (n_3 hb);have aF:(ts.take (i+1)).filter (X6 (mcR fl nn ev en wd) ks)=out++(if X6 (mcR fl nn ev en wd) ks x=true then [x]else []):=by
    rw[Z2,hb,b4r,<- ho];show out++List.filter _ [x]=_;by_cases hy:X6 (mcR fl nn ev en wd) ks x=true
    .rw [b1Q hy,Q hy];rfl
    .rw [b7O hy,W hy];rfl
   refine a5p ?_;refine d8V ?_;refine d7P ?_;refine a82 ?_;refine cY b8g ?_;refine de O Tryz.call40 i7 (d8J (mcR fl nn ev en wd) hc hm bw x.1 x.2 cw (w:=2) (q1:=3) (q2:=4) (t:=5) ⟨by rw[hv0];rfl,O,O,O,a1s ⟨H,H,H,H,H,H⟩⟩) O ?_;intro⟨K,rn⟩ hP;dsimp only at hP⊢;have hK:=c1u hP;have hKl:=a1u (b04 K) hP.len;refine b7W ?_;refine b4p ?_;refine b4m ?_;refine a1Y ?_;refine ye O Tryz.call62 i7 (a4t (caps:=[.ptr 1 0]) (p:=λk=>ks.any λq=>q == k) (P8 K) _ G Tryz.call65 λk hk=>d5P ks kn fh k O) O ?_;refine p7 ?_;refine cC ?_ ?_<;>intro h3
   .have ha:X6 (mcR fl nn ev en wd) ks x=true:=by unfold X6;rw[hK];simpa using h3
    rw[Q ha]at aF;refine z_9 ?_;refine cY b8g ?_;refine cY (A9 [nmC x] O ⟨J,J⟩ b6i a96 b7e O O O O O O O O O) ?_;refine cD (C8 O J J O U q_3 b6i a96 c9c b7e O (.inr O) q_7 d9B G6 ((out++[x]).map nmC) (out++[x]).length U U ?_);refine z_1 ?_;refine a8F ?_;exact⟨(i+1,out++[x]),[0,1,2,3,4,5,8],⟨do_,do_,by dsimp only;exact aF.symm⟩,⟨O,O⟩,ut_,uq_⟩
   .have ha:¬X6 (mcR fl nn ev en wd) ks x=true:=by unfold X6;rw[hK];simpa using h3
    rw[W ha,Z7]at aF;refine a9h ?_;exact⟨(i+1,out),[0,1,2,3,4,5,6],⟨do_,do_,by dsimp only;exact aF.symm⟩,⟨O,O⟩,ut_,uq_⟩
  .have gN:i=ts.length:=sm_ h2;rw[gN,U2 (n_6 _)]at ho;subst ho;refine j8 ?_;refine z_2 ?_;refine cY a0H ?_;refine z_5 ?_;refine c6 ?_;exact⟨_,r8 (rs:=[.tmp 4,.tmp 5]) (cs:=[_,_]) O ⟨⟨J,O⟩,⟨J,O⟩,J⟩ (n_4 O),⟨ts,.ret (.tups ⟨a0P (λr hr=>by obtain⟨x,_,rfl⟩:=D6.1 hr;exact Y3 x),.old (.val _),J⟩),fL⟩⟩
theorem a6p(fl:List Fi)(nn:Bool)(ev:List Va)(en:Bool)(wd:Int)(hl:∀f∈fl,f.p.length<=1000000000)(hv:C7 fl=0)(hm:fl.length<=1000000)(hc:McG (mcR fl nn ev en wd))(bw:(A6 fl).2.2.length<=10000)(ks:List Ky)(kn:Bool)(fh:ks.length<=1000000000)(bm:∀k∈ks,I1 k=true)(σ:List b9):b8 CC 19 [.agg (A0 fl nn),(.list (ks.map Ky.cv) kn none)] σ λr τ=>∃ts:List (I×I),r= .ret (.tup [.list ((ts.filter (X6 (mcR fl nn ev en wd) ks)).map nmC) (gnn (ts.filter (X6 (mcR fl nn ev en wd) ks)).length) none,iv 0])/\τ=σ/\TsP (A6 fl).2.2 ts:=
 D8 (res:=λts:List (I×I)=>.ret (.tup [.list ((ts.filter (X6 (mcR fl nn ev en wd) ks)).map nmC) (gnn (ts.filter (X6 (mcR fl nn ev en wd) ks)).length) none,iv 0])) (P:=λts=>TsP (A6 fl).2.2 ts) hCC (λa h=>by
  simp at h
  rcases h with rfl|rfl
  .exact o0 (cs:=A0 _ _) ⟨D9 _ _,J⟩
  .exact G7 _ _) (b1U fl nn ev en wd hl hv hm hc bw ks kn fh bm) (λ_ _=>C5 (cs:=[_,_]) ⟨a4K _ _,.val _,J⟩) σ
theorem c6O(l:List Int)(nn:Bool)(k:Nat)(aU:k<=400000000)(hl:l.length<=maxLen):b8 CC 7 [.ptr 0 0] [w8 l nn k] λr τ=>∃a:List Fi×Nat,F0 1 τ r (.ret (.agg (A0 a.1 (gnn a.1.length)))) [w8 l nn a.2]/\(O3 8780 a.1/\k<=a.2/\a.2<=k+8000):=by
 refine cO Tryz.func7 ?_;refine z_0 ?_;refine cD (o6 O c6y O j4 ?_);refine a82 ?_;refine de O Tryz.call26 ⟨J,J⟩ (b7u l nn k G hl _ 0 O) O ?_;intro⟨fl,p⟩ ⟨hm,gu,cB⟩;dsimp only at hm gu cB⊢;refine e0P ?_;refine a56 ?_;refine z_2 ?_;refine de O a6K o3 (K0 l nn p _ 0 O G hl 3 G) O ?_;intro _ _;have ca:=a7X (v:=b2a l p) (n:=3) G;obtain⟨ni,hni⟩:∃ni:Nat,H7 l p 3=(ni:Int):=⟨(H7 l p 3).toNat,by unfold H7;omega⟩;have bZ:ni<=2:=by unfold H7 at hni;omega
 rw[hni];refine z_1 ?_;refine J9 ?_;refine A5 hCC 3 O (α:=Nat×List Fi×Nat) (λa=>[(0,.ptr 0 0),(2,.ptr 1 0),(3,.ptr 2 0),(4,iv a.1)]) (λa=>[w8 l nn a.2.2,.box (A0 [] false),.box (A0 a.2.1 (gnn a.2.1.length))]) (λa=>a.1<=2/\O3 (6300+1240*(2-a.1)) a.2.1/\k<=a.2.2/\a.2.2<=k+5001+1090*(2-a.1)) (λa=>a.1) ⟨(ni,fl,p+1),[0,1,2],⟨bZ,hm.mono G,do_,do_⟩,⟨O,O⟩,ut_,⟨.inr ⟨_,O,.same O X3⟩,.inr ⟨_,O,.box ⟨.same O (Y8 _ ([]:List Fi) _),J⟩⟩,.inr ⟨_,O,.same O a0G⟩,J⟩⟩ ?_;intro⟨i,gl,q3⟩ ⟨hi,hs,hq6,hq7⟩;dsimp only at hi hs hq6 hq7⊢;refine a9n ?_;refine cC ?_ ?_<;>intro h1
 .have af:0<i:=sm_ h1;refine b2t ?_;refine z_9 ?_;refine cY a8m ?_;refine de O Tryz.call8 i7 (d5e l nn q3 G hl (6300+1240*(2-i)) ⟨G,G⟩ gl hs _ 0 O) O ?_;intro⟨gl2,q4⟩ ⟨dh,hq8,hq9⟩;dsimp only at dh hq8 hq9⊢;refine d7S ?_;refine z_9 ?_;refine cY V4 ?_;refine z_1 ?_;exact⟨(i-1,gl2,q4),[0,1,2],⟨do_,do_,by dsimp only;exact dh.mono G,do_,do_⟩,⟨O,O⟩,⟨⟨J,ur_⟩,⟨J,ur_⟩,⟨J,ur_⟩,⟨J,(by first|exact ur_|exact .same (n_7 (λz:Int=>(iv z)) (show(i:Int) -1=((i-1:Nat):Int) by omega)) uo_)⟩,J⟩,uq_⟩
 .have h0:i=0:=sm_ h1;subst h0;refine j8 ?_;refine a5r ?_;refine d7S ?_;refine c6 ?_;exact⟨_,B1 O a4j,⟨(gl,q3),a2V O X3 (.old (R7 _ _).old),hs.mono G,do_,do_⟩⟩
theorem c7P(l:List Int)(nn:Bool)(k:Nat)(aU:k<=400000000)(hl:l.length<=maxLen)(σ:List b9)(q:Nat)(hq:σ[q]?=some (w8 l nn k)):b8 CC 7 [.ptr q 0] σ λr τ=>∃a:List Fi×Nat,r= .ret (.agg (A0 a.1 (gnn a.1.length)))/\τ=σ.set q (w8 l nn a.2)/\(O3 8780 a.1/\k<=a.2/\a.2<=k+8000):=
 a9y (c:=λa:List Fi×Nat=>.agg (A0 a.1 (gnn a.1.length))) (S:=λa=>w8 l nn a.2) hCC (λa h=>by simp at h) (λ_=>R7 _ _) (λ_=>G3 _ _ _) (G3 _ _ _) O (c6O l nn k aU hl) σ q hq
def aw7:List Fi:=[⟨[97,46,115,114,99],[112,97,99,107,97,103,101,32,112,59,32,102,117,110,99,32,102,40,120,41,32,61,32,120,59,32,116,101,115,116,32,116,32,61,32,105,102,32,48,32,116,104,101,110,32,102,40,101,110,118,40,34,110,34,41,41,32,101,108,115,101,32,102,108,105,112,40,48,41,59]⟩]
noncomputable abbrev a4i:MC:=mcR aw7 true [] false 0
def b5Z:De:=⟨1,[102],[[120]],[⟨2,0,0,[],[]⟩]⟩
def b6e:De:=⟨2,[116],[],[⟨1,0,0,[],[]⟩,⟨9,0,0,[110],[]⟩,⟨3,0,0,[102],[1]⟩,⟨10,0,0,[],[]⟩,⟨5,0,0,[],[0,2,3]⟩]⟩
def b0h:Src:=⟨[112],[],[b5Z,b6e]⟩
def c09:EM:=[(⟨1,[112],[102]⟩,(⟨[112],[102],1,[97,46,115,114,99],0,1⟩:En)),(⟨2,[112],[116]⟩,(⟨[112],[116],2,[97,46,115,114,99],1,1⟩:En))]
def e1h:List Ky:=[⟨2,[112],[116]⟩,⟨1,[112],[102]⟩,⟨5,[110],[]⟩]
def e2F:List Ky:=[⟨1,[112],[102]⟩,⟨2,[112],[116]⟩,⟨5,[110],[]⟩]
theorem b1S:C7 aw7=0:=by kernel_rfl
theorem d8E:(A6 aw7).2=([([97,46,115,114,99],b0h)],c09):=by kernel_rfl
theorem d1a:a4i.ms=[([97,46,115,114,99],b0h)]:=n_7 Prod.fst d8E
theorem a60:(A6 aw7).2.2=c09:=n_7 Prod.snd d8E
theorem b1A:McG a4i where
 w:=b6h b1S
 k:=c8U b1S
 ev:=⟨n_5 _,λv hv=>by cases hv⟩
 wd:=⟨b0a _,H⟩
theorem d9c:a0w a4i [112] [116]=(⟨[112],[116],2,[97,46,115,114,99],1,1⟩:En):=by
 unfold a0w B3;rw[Q O,show a4i.me=c09 from a60];rfl
theorem d2q:N6 a4i (⟨[112],[116],2,[97,46,115,114,99],1,1⟩:En)=some (b0h,b6e):=by unfold N6;rw[d1a];rfl
theorem d9O:N6 a4i (⟨[112],[102],1,[97,46,115,114,99],0,1⟩:En)=some (b0h,b5Z):=by unfold N6;rw[d1a];rfl
theorem e3c:W9 []=[]:=by simp[W9]
theorem e28(a:I):W9 [a]=[a]:=by simp[W9]
theorem c1k(h:nmL d ks=[]):nmS d ks=[]:=by unfold nmS;rw[h,e3c];rfl
theorem e0R{a:I}(h:nmL d ks=[a]):nmS d ks=[a]:=by unfold nmS;rw[h,e28];rfl
theorem e2s:a1g true a4i.me [102] [[112]]=(⟨[112],[102],1,[97,46,115,114,99],0,1⟩:En):=by rw[show a4i.me=c09 from a60];rfl
theorem d9n:a1d a4i b0h b6e=[⟨1,[112],[102]⟩,⟨5,[110],[]⟩]:=by
 unfold a1d;rw[e0R (d:=b6e) (ks:=[3]) (a:=[102]) O,c1k (d:=b6e) (ks:=[6,7,8]) O,e0R (d:=b6e) (ks:=[9]) (a:=[110]) O];unfold ckF;rw[show a4i.me=c09 from a60];rfl
theorem e0B:a1H a4i b0h b6e=[(⟨[112],[102],1,[97,46,115,114,99],0,1⟩:En)]:=by
 unfold a1H;rw[e0R (d:=b6e) (ks:=[3]) (a:=[102]) O,c1k (d:=b6e) (ks:=[6,7,8]) O];unfold caF ctF;simp only[b35,List.flatMap_nil,Z7];rw[show b0h.pkg::b0h.imports=[[112]]from O,e2s];rfl
theorem d9M:a1d a4i b0h b5Z=[]:=by unfold a1d;rw[c1k (d:=b5Z) (ks:=[3]) O,c1k (d:=b5Z) (ks:=[6,7,8]) O,c1k (d:=b5Z) (ks:=[9]) O];rfl
theorem d9q:a1H a4i b0h b5Z=[]:=by unfold a1H;rw[c1k (d:=b5Z) (ks:=[3]) O,c1k (d:=b5Z) (ks:=[6,7,8]) O];rfl
theorem b48:(a0w a4i [112] [116]).ct=1:=by rw[d9c]
theorem b9p:a0a a4i [112] [116] e1h true:=by
 have hs:=(d4b b1A d2q).1;have h0:=CI.zero (c:=a4i) (p:=[112]) (o:=[116]) b48;rw[d9c]at h0;have h1:=h0.step b1A (v:=(⟨[112],[116],2,[97,46,115,114,99],1,1⟩:En)) O d2q hs (by simp[b0h]) (j:=0) (n_5 _);rw[d9n,e0B,show U3 [(⟨[112],[116],2,[97,46,115,114,99],1,1⟩:En)] [(⟨[112],[102],1,[97,46,115,114,99],0,1⟩:En)]=[(⟨[112],[116],2,[97,46,115,114,99],1,1⟩:En),(⟨[112],[102],1,[97,46,115,114,99],0,1⟩:En)]from by decide]at h1;have h2:=h1.step b1A (v:=(⟨[112],[102],1,[97,46,115,114,99],0,1⟩:En)) O d9O hs (by simp[b0h]) (j:=0) (n_5 _);rw[d9M,d9q]at h2;exact h2.done H (by rw[show a4i.me=c09 from a60];decide)
theorem c41:P8 e1h=e2F:=by rw[a1O];decide
theorem d2a:∀f∈aw7,f.p.length<=1000000000:=λf hf=>by simp[aw7]at hf;subst hf;decide
theorem c8m:(A6 aw7).2.2.length<=10000:=by rw[a60];decide
theorem d9A{ts:List (I×I)}(h:TsP (A6 aw7).2.2 ts):ts=[([112],[116])]:=by
 refine h.uniq ⟨λx=>?_,U⟩;unfold B3;rw[Q O,a60];obtain⟨a,b⟩:=x;have e:C0 2 a b=⟨2,a,b⟩:=O;rw[e,a2T];unfold c09;rw[glk,W (λh=>by injection h with h;exact absurd h H),glk];by_cases hh:(⟨2,a,b⟩:Nm)=⟨2,[112],[116]⟩
 .rw [Q hh];injection hh with _ h1 h2
  subst h1 h2;exact⟨λ_=>O,λ_=>O⟩
 .rw [W hh,glk];exact⟨λh=>by injection h with h1 h2;subst h1 h2;exact absurd O hh,λh=>absurd (show(0:Int)=1 from h) H⟩
theorem d4r:X6 a4i [⟨5,[110],[]⟩] ([112],[116])=true:=by
 unfold X6;rw[c1u (x:=([112],[116])) b9p,c41];rfl
theorem e0v(σ:List b9):b8 CC 13 [.agg (A0 aw7 true),.agg [sv [112],sv [116]]] σ λr τ=>r= .ret (.tup [.list (e2F.map Ky.cv) true none,.val (.bool true),iv 0])/\τ=σ:=
 (a6R aw7 true [] false 0 d2a b1S H b1A c8m [112] [116] b48 σ).mono λr τ ⟨x,h1,h2,h3⟩=>⟨by
  obtain⟨e1,e2⟩:=h3.uniq b9p;rw[h1];unfold b6B;rw[e1,e2,c41];rfl,h2⟩
theorem d9y(σ:List b9):b8 CC 19 [.agg (A0 aw7 true),.list (([⟨5,[110],[]⟩]:List Ky).map Ky.cv) true none] σ λr τ=>r= .ret (.tup [.list (([([112],[116])]:List (I×I)).map nmC) true none,iv 0])/\τ=σ:=
 (a6p aw7 true [] false 0 d2a b1S H b1A c8m [⟨5,[110],[]⟩] true H H σ).mono λr τ ⟨ts,h1,h2,h3⟩=>⟨by
  rw[h1,d9A h3,show([([112],[116])]:List (I×I)).filter (X6 a4i [⟨5,[110],[]⟩])=[([112],[116])] by rw[b1Q d4r];rfl];rfl,h2⟩
theorem a5X(h:C7 fl=0)(he:b0n ev=true)(hl:∀k∈l,I1 k=true):a1C fl ev l=some (l.map (a0e fl (A6 fl).2.1 (A6 fl).2.2 ev)):=by
 rw[a1C,Q ⟨h,he,a6b.2 hl⟩]
theorem d6q{s:Src}(hs:a09 s)(hd:d∈s.decls):∀k∈a1d c s d,I1 k=true:=λk hk=>by
 have ha:=(hs.dec d hd).ar;unfold a1d at hk
 rcases T9.1 hk with hk|hk
 .rcases T9.1 hk with hk|hk
  .obtain ⟨n,hn,hk⟩:=b3c.1 hk;obtain⟨e,he,h1,rfl⟩:=b6E.1 hn;have h3:e.k=3:=D h1;exact(c9F (c:=c) (F:=⟨s,d,[],false⟩) (x:=e) ⟨hs,hs.dec d hd⟩ ((ha e he).k3 h3).1).1 k hk
  .obtain ⟨n,hn,hk⟩:=b3c.1 hk;obtain⟨e,he,h1,rfl⟩:=b6E.1 hn;exact(d4B (fl:=c.fl) ((ha e he).k678 (D h1))).1 k hk
 .obtain ⟨n,hn,rfl⟩:=D6.1 hk;obtain⟨e,he,h1,rfl⟩:=b6E.1 hn;have:=(ha e he).k9 (D h1);simp[I1,this]
theorem Rch.good(hc:McG c)(cw:(a0w c p o).ct=1)(h:Rch c p o v):a7Z c v:=by
 induction h with
 |base=>exact⟨⟨2,p,o,O⟩,cw⟩
 |step _ _ hy _=>exact b7V hc hy
theorem a0a.keys(hc:McG c)(cw:(a0w c p o).ct=1)(hk:I1 (kyT p o)=true)(h:a0a c p o K rn):∀k∈P8 K,I1 k=true:=λk aC=>by
 rw[a1O]at aC
 rcases(h.mem k).1 (((a0U K).2 k).1 aC)with rfl|⟨v,hv,s,d,hd,hkv⟩
 .exact hk
 .obtain ⟨s',d',h1,h2,h3,h4⟩:=(hv.good hc cw).decl hc;rw[hd]at h2;injection h2 with h2;injection h2 with h2 h5
  subst h2 h5;exact d6q h3 h4 k hkv
noncomputable def c2i(fl:List Fi)(ev:List Va)(gl:List Fi)(ew:List Va)(l:List Ky):Bool:=match a1C fl ev l with
 |none=>false
 |some ts=>match a4l gl ew l ts with
  |none=>false
  |some n=>decide (n= -1)
structure c7I(fl:List Fi)(ev:List Va):Prop where
 pl:∀f∈fl,f.p.length<=1000000000
 rv:C7 fl=0
 len:fl.length<=1000000
 es:(A6 fl).2.2.length<=10000
 eb:b0n ev=true
 vr:∀v∈ev,-9223372036854775808<=v.v/\v.v<=9223372036854775807
theorem b1L(fl:List Fi)(nn:Bool)(ev:List Va)(en:Bool)(gl:List Fi)(gn:Bool)(ew:List Va)(wn:Bool)(wd:Int)(ha:c7I fl ev)(hb:c7I gl ew)(hc:McG (mcR fl nn ev en wd))(p o:I)(cw:(a0w (mcR fl nn ev en wd) p o).ct=1)(fC:I1 (kyT p o)=true):b8 CC 16 [.agg (A0 fl nn),.agg (a0n ev en),.agg (A0 gl gn),.agg (a0n ew wn),.agg [sv p,sv o]] [] λr τ=>∃x:List Ky×Bool,X8 0 τ r (.ret (.tup [.val (.bool (c2i fl ev gl ew (P8 x.1))),iv 0]))/\a0a (mcR fl nn ev en wd) p o x.1 x.2:=by
 refine cO Tryz.func16 ?_;refine c5k ?_;refine cD (H3 O J j2 j4 ?_);refine cD (H3 O J j2 j4 ?_);refine cD (H3 O J j2 j4 ?_);refine cY a7p ?_;refine z_5 ?_;refine F6 ?_;refine a5r ?_;refine yc O d2F ⟨J,J⟩ (a7b fl nn ha.pl _) ?_;refine b0b ?_;refine cG (λhg=>I8 O J O b9i b20 O (nb O)) ?_;refine cG (λhg=>c5 O d2F ⟨hg,J⟩ (a7b gl gn hb.pl _) O) ?_;refine cG a3h ?_;refine cY U4 ?_;refine cY D2 ?_;refine cG c8f ?_;refine cG (λhg=>c5 O d1r ⟨hg,J⟩ (V1 ev en _) O) ?_;refine cG a2D ?_;refine cY U4 ?_;refine cY D2 ?_;refine cG c8f ?_;refine cG (λhg=>c5 O d1r ⟨hg,J⟩ (V1 ew wn _) O) ?_;refine cG a2D ?_;refine b6W ?_;refine cC ?_ ?_<;>intro h1
 .exfalso;simp[ha.rv,hb.rv,ha.eb,hb.eb]at h1
 .refine w9 ?_;refine a5r ?_;refine cY b8g ?_;refine dc O c7L i7 (a6R fl nn ev en wd ha.pl ha.rv ha.len hc ha.es p o cw _) ?_;intro⟨K,rn⟩ hP;dsimp only at hP⊢;have hK:=hP.keys hc cw fC;have hKl:=a1u (b04 K) hP.len;obtain⟨ts,fL⟩:∃ts,a1C fl ev (P8 K)=some ts:=⟨_,a5X ha.rv ha.eb hK⟩;obtain⟨n,hn⟩:∃n,a4l gl ew (P8 K) ts=some n:=by
   have aj:(P8 K).length=ts.length:=by
    rw[a5X ha.rv ha.eb hK]at fL;injection fL with fL
    rw[<- fL,K6]
   cases hh:a4l gl ew (P8 K) ts with
   |some n=>exact⟨n,O⟩
   |none=>
    exfalso;rw[a4l,a5X hb.rv hb.eb hK]at hh;simp[aj]at hh
  have hcc:=a9V fl nn ha.pl ev en ha.vr (P8 K) (gnn (P8 K).length) G (λk hk=>by have:=a7L (hK k hk);omega);rw[fL]at hcc;have hhh:=c8M gl gn hb.pl ew wn hb.vr (P8 K) (gnn (P8 K).length) G (λk hk=>by have:=a7L (hK k hk);omega) ts (gnn ts.length);rw[hn]at hhh;refine b7W ?_;refine b4p ?_;refine b4m ?_;refine a9n ?_;refine cC ?_ ?_<;>intro h2
  .exfalso;simp at h2
  .refine w9 ?_;refine a5r ?_;refine cY (I8 O J O c4H c3I O (nb O)) ?_;refine cY D2 ?_;refine yc O Tryz.call54 E7 (hcc _) ?_;refine b3w ?_;refine a9n ?_;refine cC ?_ ?_<;>intro h3
   .exfalso;simp at h3
   .refine w9 ?_;refine a5r ?_;refine cY (I8 O J O c4H c3I O (nb O)) ?_;refine cY D2 ?_;refine cY D2 ?_;refine yc O Tryz.call55 a6I (hhh _) ?_;refine b3w ?_;refine z_2 ?_;refine b0b ?_;refine c2J ?_;refine cY a0H ?_;refine a4z ?_;exact⟨_,r8 (rs:=[.tmp 10,.tmp 11]) (cs:=[_,_]) O ⟨⟨J,O⟩,⟨J,O⟩,J⟩ (n_4 O),⟨(K,rn),(by
     have hu:c2i fl ev gl ew (P8 K)=decide (n= -1):=by simp only[c2i,fL,hn]
     rw[hu];exact .ret (.tups ⟨J5 (n_7 (λz:Bool=>(CV.val (.bool z))) (show _=decide (n= -1) by first|rfl|simp|(simp;rfl))) (.val _),.old (.val _),J⟩)),hP⟩⟩
theorem b25(fl:List Fi)(nn:Bool)(ev:List Va)(en:Bool)(gl:List Fi)(gn:Bool)(ew:List Va)(wn:Bool)(wd:Int)(ha:c7I fl ev)(hb:c7I gl ew)(hc:McG (mcR fl nn ev en wd))(p o:I)(cw:(a0w (mcR fl nn ev en wd) p o).ct=1)(fC:I1 (kyT p o)=true)(σ:List b9):b8 CC 16 [.agg (A0 fl nn),.agg (a0n ev en),.agg (A0 gl gn),.agg (a0n ew wn),.agg [sv p,sv o]] σ λr τ=>∃x:List Ky×Bool,r= .ret (.tup [.val (.bool (c2i fl ev gl ew (P8 x.1))),iv 0])/\τ=σ/\a0a (mcR fl nn ev en wd) p o x.1 x.2 :=
 D8 (res:=λx:List Ky×Bool=>.ret (.tup [.val (.bool (c2i fl ev gl ew (P8 x.1))),iv 0])) (P:=λx=>a0a (mcR fl nn ev en wd) p o x.1 x.2) hCC (λa h=>by
  simp at h
  rcases h with rfl|rfl|rfl|rfl|rfl
  .exact o0 (cs:=A0 _ _) ⟨D9 _ _,J⟩
  .exact o0 (cs:=a0n _ _) ⟨a1j _ _,J⟩
  .exact o0 (cs:=A0 _ _) ⟨D9 _ _,J⟩
  .exact o0 (cs:=a0n _ _) ⟨a1j _ _,J⟩
  .exact o0 ⟨.val _,.val _,J⟩) (b1L fl nn ev en gl gn ew wn wd ha hb hc p o cw fC) (λ_ _=>C5 (cs:=[_,_]) ⟨.val _,.val _,J⟩) σ
theorem c18:c7I aw7 []:=⟨λf hf=>by simp[aw7]at hf;subst hf;decide,b1S,H,by rw[a60];decide,O,λv hv=>by cases hv⟩
theorem b4M:∀(l:List I) (j:Int),a6J l l j= -1
 | [],_=>rfl
 |x::l,j=>by rw[a6J,Q O];exact b4M l _
theorem c9h(h:c7I fl ev)(hl:∀k∈l,I1 k=true):c2i fl ev fl ev l=true:=by
 unfold c2i a4l;rw[a5X h.rv h.eb hl];simp[b4M]
theorem e0L(σ:List b9):b8 CC 16 [.agg (A0 aw7 true),.agg (a0n [] false),.agg (A0 aw7 true),.agg (a0n [] false),.agg [sv [112],sv [116]]] σ λr τ=>r= .ret (.tup [.val (.bool true),iv 0])/\τ=σ:=
 (b25 aw7 true [] false aw7 true [] false 0 c18 c18 b1A [112] [116] b48 O σ).mono λr τ ⟨x,h1,h2,h3⟩=>⟨by
  rw[h1,c9h c18 (h3.keys b1A b48 O)],h2⟩
theorem b9u(σ:List b9):b8 CC 21 [] σ λr aa=>r= .ret (.val (.bool true))/\aa=σ:=by
 refine an_ Tryz.func21 ?_;refine a5n ?_;refine z_0 ?_;refine cY (A1 #[(0,1),(1,1)] O ⟨O,O,J⟩ b63 a68 O ⟨_,O⟩ (λw=>by kernel_rfl) O O) ?_;refine cY (A9 (aw7.map Fi.cv) O ⟨J,J⟩ a8S a41 a68 O O O O O O O O O) ?_;refine cY (A1 #[(0,1)] O ⟨J,J⟩ d2h c6y O ⟨_,O⟩ (λw=>by kernel_rfl) O O) ?_;refine e0P ?_;refine p7 ?_;refine a5r ?_;refine cY e1w ?_;refine ye O c7L i7 (by exact e0v _) O ?_;refine b7W ?_;refine b4p ?_;refine b4m ?_;refine a5r ?_;refine cY (A1 #[(0,1),(1,1),(2,1)] O ⟨O,O,J⟩ c0D a21 O ⟨_,O⟩ (λw=>by kernel_rfl) O O) ?_;refine cY (A9 (([⟨5,[110],[]⟩]:List Ky).map Ky.cv) O ⟨J,J⟩ a0k t_9 a21 O O O O O O O O O) ?_;refine ye O Tryz.call19 i7 (by exact d9y _) O ?_;refine b3w ?_;refine a5r ?_;refine cY e2g ?_;refine cY a8m ?_;refine cY e2g ?_;refine cY e1w ?_;refine ye O Tryz.call16 ⟨J,J,J,J,J,J⟩ (by exact e0L _) O ?_;refine b3w ?_;refine z_2 ?_;refine b0b ?_;refine c2J ?_;refine c2J ?_;refine cG C9 ?_;refine cG (λhg=>X5 O hg O a0k a49 O) ?_;refine c1o ?_;refine e0d ?_;refine cG C9 ?_;refine cG (λhg=>X5 O hg O b6i a49 O) ?_;refine c1o ?_;refine cG C9 ?_;refine c6N ?_;exact⟨_,rE1,_,_,O,O,j6 (by rfl)⟩
theorem b7Z{f:Fi}:∀{fl:List Fi},(fl.Pairwise λa b=>a.p≠b.p)->f∈fl->E9 fl f.p=some f.b
 | [],_,h=>by cases h
 |y::fl,hp,h=>by
  obtain⟨h1,h2⟩:=a1D.1 hp;unfold E9
  rcases J2.1 h with rfl|h
  .rw [List.find?_cons_of_pos U];rfl
  .rw [List.find?_cons_of_neg (by simpa using h1 f h)];exact b7Z h2 h
theorem d3m{k:Ky}{x:I×I}:X6 c [k] x=true↔k∈clK c x:=by
 unfold X6;simp only[List.any_cons,List.any_nil,Bool.or_false,beq_iff_eq,c3p];exact⟨λ⟨y,hy,e⟩=>e▸hy,λh=>⟨k,h,O⟩⟩
theorem c0Z(l:List Ky):(P8 l).Nodup:=by
 rw[a1O];exact(a0U l).1.imp λ{a b} h e=>by subst e;exact absurd h (by simp[a8j])
theorem d3D{y:Ky}(h:l.Nodup)(hb:l[i]?=some y):¬y∈l.take i:=λhm=>by
 have h2:=b4i i l;rw[a5F hb]at h2;rw[<- h2,c4Q]at h;exact h.2.2 y hm y b0r O
theorem c8p{l:List (I×I)}{x:I×I}{A:I×I->Bool}(hb:l[j]?=some x):((l.take (j+1)).filter A).length=((l.take j).filter A).length+(if A x=true then 1 else 0):=by
 rw[Z2,hb,b4r,n_8];show _+(List.filter A [x]).length=_;by_cases h:A x=true
 .rw [b1Q h,Q h];rfl
 .rw [b7O h,W h];rfl
theorem e01{l:List (I×I)}{x:I×I}{A:I×I->Bool}(hb:l[j]?=some x)(h:A x=true):(l.filter A)[((l.take j).filter A).length]?=some x/\((l.take j).filter A).length < (l.filter A).length:=by
 have h2:=b4i j l;rw[a5F hb]at h2;have h3:l.filter A=(l.take j).filter A++x::(l.drop (j+1)).filter A:=by
  rw[<- b1Q h,<- b4r,h2]
 rw[h3];exact⟨by rw[a1c (n_6 _),b9b];rfl,by rw[n_8,D3];omega⟩
theorem d5j:c4l []:=⟨List.nil_sublist _,λ_ h=>by cases h⟩
theorem d9l(x:I×I):∀w,(Op.equal 40 (.agg [.string (str x.1),.string (str x.2)].toArray) (.agg [.string (str x.1),.string (str x.2)].toArray)).run CC.P w= .ok true w:=λw=>by
 show(Op.equal _ _ _).run Tryz.prog w=_;simp[Op.equal,Op.maxDepth,go_sem]
theorem a4T(l:List Int)(nn:Bool)(hl:l.length<=maxLen):b8 CC 6 [.list (l.map icv) nn none] [] λr τ=>∃_:Unit,X8 0 τ r (.ret (.val (.bool true)))/\True:=by
 refine cO Tryz.func6 ?_;refine a5n ?_;refine z_2 ?_;refine cY (A1 #[(0,1),(1,1)] O ⟨J,J⟩ d2D Tryz.zeroValue32 O ⟨_,O⟩ (λw=>by kernel_rfl) O O) ?_;refine cD (H3 O J j2 j4 ?_);refine z_1 ?_;refine z_2 ?_;refine de O Tryz.call7 ⟨J,J⟩ (c7P l nn 0 G hl _ 0 O) O ?_;intro⟨fl,q0⟩ ⟨hm,bW,ce⟩;dsimp only at hm bW ce⊢;have aZ:=hm.valid G;have hc:=e15 hm G d5j (wd:=0) G (gnn fl.length) false;refine e0P ?_;refine a56 ?_;refine a5n ?_;refine J9 ?_;refine A5 hCC 2 O (α:=Nat×Nat) (λa=>[(3,.ptr 0 0),(4,.ptr 1 0),(5,iv a.1)]) (λa=>[w8 l nn a.2,.box (A0 fl (gnn fl.length))]) (λa=>a.1<=6/\a.2<=8000+3*a.1) (λa=>6-a.1) ⟨(0,q0),[0,1],⟨do_,do_⟩,⟨O,O⟩,ut_,uq_⟩ ?_;intro⟨i,q1⟩ ⟨hi,hq3⟩;dsimp only at hi hq3⊢;refine a9n ?_;refine cC ?_ ?_<;>intro h1
 .have af:i<6:=sm_ h1;refine b2t ?_;refine z_2 ?_;refine de O Tryz.call18 ⟨J,J⟩ (d5F l nn q1 G hl _ 0 O) O ?_;intro⟨k,q2⟩ ⟨hk,hq4,hq5⟩;dsimp only at hk hq4 hq5⊢;refine c4h ?_;refine a5r ?_;refine cY c4i ?_;refine cY (A9 [Ky.cv k] O ⟨J,J⟩ a0k t_9 a21 O O O O O O O O O) ?_;refine de O Tryz.call19 i7 (a6p fl (gnn fl.length) [] false 0 hm.plen aZ (by have:=hm.len;omega) hc (d4c.of aZ).es [k] true U (λz hz=>by simp at hz;subst hz;exact hk) _) O ?_;intro ts fL;refine b3w ?_;refine a9n ?_;refine cC ?_ ?_<;>intro h2
  .exfalso;simp at h2
  .refine w9 ?_;refine b2K ?_;refine a5r ?_;refine de O Tryz.call11 ⟨J,J⟩ (c7p fl (gnn fl.length) (by have:=hm.len;omega) hm.plen (λp b hd=>by obtain⟨f,hf,hb⟩:=b4V hd;rw[<- hb];have:=hm.byt f hf;omega) (λ_ f hf=>b7Z (d9a aZ) hf) (λ_=>⟨by have:=(c5c (fl:=fl)).1;have:=hm.len;omega,c5c.2⟩) aZ _) O ?_;intro ts2 ⟨hts2,htl⟩;obtain rfl:=fL.uniq hts2;have hFl:(ts.filter (X6 (mcR fl (gnn fl.length) [] false 0) [k])).length<=ts.length:=b76 _ _;have hFj:∀j,((ts.take j).filter (X6 (mcR fl (gnn fl.length) [] false 0) [k])).length<=(ts.filter (X6 (mcR fl (gnn fl.length) [] false 0) [k])).length:=λj=>((List.take_sublist j ts).filter _).length_le;refine cY c3Z ?_;refine a2S ?_;refine o4 hCC (α:=Nat) (λj=>[(3,.ptr 0 0),(4,.ptr 1 0),(5,iv i),(6,.ptr 2 0),(7,(.list ((ts.filter (X6 (mcR fl (gnn fl.length) [] false 0) [k])).map nmC) (gnn (ts.filter (X6 (mcR fl (gnn fl.length) [] false 0) [k])).length) none)),(9,(iv ((((ts.take j).filter (X6 (mcR fl (gnn fl.length) [] false 0) [k])).length:Nat):Int))),(38,(.list (ts.map nmC) (gnn ts.length) none)),(39,iv ts.length),(40,iv j)]) (λ_=>[w8 l nn q2,.box (A0 fl (gnn fl.length)),.box k.cells]) (λj=>j<=ts.length) (λj=>ts.length -j) 0 (n_5 _) tu_ (am:=[]) O B5 uz_ ?_;intro j hj;refine a2P ?_;refine cC ?_ ?_<;>intro h3
   .have gS:j<ts.length:=sm_ h3;obtain⟨x,hb,hxm⟩:=a2n gS;have cw:(a0w (mcR fl (gnn fl.length) [] false 0) x.1 x.2).ct=1:=(fL.mem x).1 hxm;refine a5p ?_;refine d8V ?_;refine d7P ?_;refine p7 ?_;refine a5r ?_;refine cY b8g ?_;refine de O c7L i7 (a6R fl (gnn fl.length) [] false 0 hm.plen aZ (by have:=hm.len;omega) hc (d4c.of aZ).es x.1 x.2 cw _) O ?_;intro⟨K,rn⟩ hP;dsimp only at hP⊢;have hK:=c1u hP;have hKl:=a1u (b04 K) hP.len;have cb:(P8 K).Nodup:=c0Z K;have aF:((ts.take (j+1)).filter (X6 (mcR fl (gnn fl.length) [] false 0) [k])).length=((ts.take j).filter (X6 (mcR fl (gnn fl.length) [] false 0) [k])).length+(if k∈P8 K then 1 else 0):=by rw[c8p hb];simp only[d3m,hK]
    refine b7W ?_;refine b4p ?_;refine b4m ?_;refine a9n ?_;refine cC ?_ ?_<;>intro h4
    .exfalso;simp at h4
    .refine b3J ?_;refine cY b8O ?_;refine a2S ?_;refine o4 hCC (α:=Nat×Nat) (λa=>[(3,.ptr 0 0),(4,.ptr 1 0),(5,iv i),(6,.ptr 2 0),(7,(.list ((ts.filter (X6 (mcR fl (gnn fl.length) [] false 0) [k])).map nmC) (gnn (ts.filter (X6 (mcR fl (gnn fl.length) [] false 0) [k])).length) none)),(9,iv a.2),(11,.ptr 3 0),(38,(.list (ts.map nmC) (gnn ts.length) none)),(39,iv ts.length),(40,iv j),(53,(.list ((P8 K).map Ky.cv) (gnn (P8 K).length) none)),(54,(iv ((P8 K).length:Int))),(55,iv a.1)]) (λ_=>[w8 l nn q2,.box (A0 fl (gnn fl.length)),.box k.cells,.box (nmC x)]) (λa=>a.1<=(P8 K).length/\a.2=((ts.take j).filter (X6 (mcR fl (gnn fl.length) [] false 0) [k])).length+(if k∈(P8 K).take a.1 then 1 else 0)) (λa=>(P8 K).length -a.1) (0,((ts.take j).filter (X6 (mcR fl (gnn fl.length) [] false 0) [k])).length) ⟨n_5 _,U⟩ tu_ (am:=[]) O B5 uz_ ?_;intro⟨i2,n2⟩ ⟨cK,bZ⟩;dsimp only at cK bZ⊢;have bS:=hFj j;have hnl:n2<=100000001:=by split at bZ<;>omega
     refine a2P ?_;refine cC ?_ ?_<;>intro h5
     .have hlt3:i2< (P8 K).length:=sm_ h5;obtain⟨y,cg,fy⟩:=a2n hlt3;refine a5p ?_;refine cY (r6 O J J O O a0k t_9 G (j5 cg) O) ?_;refine cY d7g ?_;refine c4h ?_;refine c2y ?_;refine cY c4i ?_;refine cY e1Y ?_;refine p7 ?_;refine cC ?_ ?_<;>intro h6
      .have hy:y=k:=D h6;subst hy;rw[Q fy]at aF;have fW:n2=((ts.take j).filter (X6 (mcR fl (gnn fl.length) [] false 0) [y])).length:=by rw[bZ,W (d3D cb cg)];rfl
       obtain⟨hb3,hlt4⟩:=e01 hb (A:=X6 (mcR fl (gnn fl.length) [] false 0) [y]) (by rw[d3m,hK];exact fy);rw[<- fW]at hb3 hlt4;refine a9t ?_;refine cW 12 ?_;refine a3s ?_;refine hY c3Z ?_;refine b3G ?_;refine d0S ?_;refine O1 O O J O (λhg=>r6 O hg hg O O b6i a96 a9M (j5 hb3) O) ?_;refine O1 O O J O (λhg=>U5 O hg O c3g a96 (nb O)) ?_;refine O1 O O J O (λhg=>I8 O J O c3g a96 O (nb O)) ?_;refine O1 O O J O (λhg=>d8c O hg hg (xs:=[.string (str x.1),.string (str x.2)]) (ys:=[.string (str x.1),.string (str x.2)]) O O Tryz.eqGuardType40 (d9l x)) ?_;refine hY U4 ?_;refine a6g ?_;refine cC ?_ ?_<;>intro h7
       .exfalso;simp at h7;omega
       .refine w9 ?_;refine b10 ?_;refine a8F ?_;exact⟨(i2+1,n2+1),_,⟨do_,do_,by dsimp only;rw[Q (by rw[Z2,cg];simp),fW]⟩,tu_,O⟩
      .have hy:¬y=k:=D h6;refine a9h ?_;exact⟨(i2+1,n2),_,⟨do_,do_,by dsimp only;rw[bZ,Z2,cg];simp[Ne.symm hy]⟩,tu_,O⟩
     .have aH:i2=(P8 K).length:=sm_ h5;rw[aH,U2 (n_6 _),<- aF]at bZ;refine j8 ?_;refine a8F ?_;exact⟨(j+1),_,⟨G,G⟩,⟨B7,B7,B7,B7,B7,⟨J,(n_7 (λz:Int=>(iv z)) (n_7 (λn:Nat=>(n:Int)) bZ))⟩,B7,B7,B7,J⟩,O⟩
   .have hje:j=ts.length:=sm_ h3;rw[hje,U2 (n_6 _)]at*;refine j8 ?_;refine a1Y ?_;refine cY c3Z ?_;refine cY a7v ?_;refine p7 ?_;refine cC ?_ ?_<;>intro h8
    .exfalso;simp at h8
    .refine w9 ?_;refine b10 ?_;exact⟨(i+1,q2),[0,1],⟨do_,do_,do_⟩,⟨O,O⟩,ut_,(by repeat' (first|exact J|exact .inl O|exact .inr ⟨_,O,.same O B0⟩|exact .inr ⟨_,O,.same (co _ _ _) B0⟩|exact .inr ⟨_,O,.same O (by repeat' (first|exact J|exact .val _|exact .ptr (nb O)|exact .map (nb O)|exact a5j _ _ _ _|exact Y8 _ _ _|exact(a4K _ _).old|exact(G7 _ _).old |refine A3 ?_|refine⟨?_,?_⟩))⟩|exact .inr ⟨_,O,.box (by repeat' (first|exact J|exact .same O uo_|exact .ptr O|exact .map O|exact .vec O|refine⟨?_,?_⟩))⟩|refine⟨?_,?_⟩))⟩
 .refine j8 ?_;refine z_0 ?_;refine yc O Tryz.call21 trivial (b9u _) ?_;refine a4z ?_;exact⟨_,rE1,(by exact⟨(),.ret (.old (.val _)),J⟩)⟩
theorem a54(l:List Int)(nn:Bool)(hl:l.length<=maxLen)(σ:List b9):b8 CC 6 [.list (l.map icv) nn none] σ λr τ=>r= .ret (.val (.bool true))/\τ=σ:=
 (D8 (res:=λ_:Unit=>.ret (.val (.bool true))) (P:=λ_=>True) hCC (λa h=>by simp at h;subst h;exact a0X _ _) (a4T l nn hl) (λ_ _=>.val _) σ).mono λr τ ⟨_,h1,h2,_⟩=>⟨h1,h2⟩
end Go.Proofs.YtncmhkpnclafkaaGreatDoor
