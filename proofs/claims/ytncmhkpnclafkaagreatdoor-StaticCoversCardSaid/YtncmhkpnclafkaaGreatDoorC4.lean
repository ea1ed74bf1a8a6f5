/- Part 4 of what the claim needs: values without addresses, and what the program's functions do with them. -/
import Derived.Test.YtncmhkpnclafkaaGreatDoorC3
import Derived.Lib.ItoaNum
set_option linter.all false
set_option maxRecDepth 100000
set_option maxHeartbeats 4000000
namespace Go.Proofs.YtncmhkpnclafkaaGreatDoor
open Go Go.Cl
variable{n i:Nat}{me:EM}{l:List Ky}{α:Type}
def a0x:List Ky->Nat->CV
 | [],_=>.list [] false none
 |_::l,q=>.vec q 0 (l.length+1)
def D9:List Ky->b9
 | []=>.dead
 |x::l=>.vec 3 ((x::l).map Ky.cv)
theorem a2B(h:l≠[])(q:Nat):a0x l q= .vec q 0 l.length:=by cases l;exact absurd G h;rfl
theorem a2y(h:l≠[]):D9 l= .vec 3 (l.map Ky.cv):=by cases l;exact absurd G h;rfl
theorem a96(l:List Ky)(k:Ky):J8 l k≠[]:=by
 unfold J8
 split
 .rename_i h;intro e;rw[e]at h;cases h
 .simp
theorem R1(l:List Ky):∀r∈l.map Ky.cv,∀c∈r,o8 c:=λr hr c hc=>(C2 (f:=Ky.cv) (λ_=>N8.all ⟨.val _,.val _,.val _,O⟩) _) r hr c hc
theorem a0w{l:List α}{x:α}(h:l[i]?=some x):l.set i x=l:=by
 apply b2J;intro j;rw[a9P]
 split
 .rename_i e;subst e;rw[W (n_2.1 h).1,h]
 .rfl
theorem c1s(l:List Ky)(k:Ky)(hl:l.length<=100000000)(σ:List b9)(q:Nat)(hq:σ[q]?=some (D9 l)):b8 CC 73 [a0x l q,.agg k.cells] σ λr τ=>∃g:Bool,r= .ret (.vec (if g=true then σ.length else q) 0 (J8 l k).length)/\τ=(if g=true then σ.set q .dead++[.vec 3 ((J8 l k).map Ky.cv)]else σ)/\(g=false->J8 l k=l):=by
 by_cases h0:l=[]
 .subst h0;have dN:σ[q]?=some .dead:=hq;have hs:σ.set q .dead=σ:=a0w dN;have h:=a6w (α:=Unit) (res:=λ_=>.ret (.vec 0 0 1)) (res':=λ_ n=>.ret (.vec n 0 1)) (S:=λ_=>[.vec 3 ([k].map Ky.cv)]) (S':=λ_ _=>[.vec 3 ([k].map Ky.cv)]) (P:=λ_=>True) hCC (λa h=>by
   simp at h;rcases h with rfl|rfl
   .exact D1 [] false
   .exact j5 ⟨.val _,.val _,.val _,O⟩) (D7 hCC ((c4k k).mono λr τ hh=>⟨_,_,hh,(),G,G,O⟩)) (λ_ _=>G) (λ_ n i x hx=>by
   rcases i with _|i
   .injection hx with hx;subst hx;exact⟨_,G,a7o (R1 [k])⟩
   .cases hx) (λ_ n=>.ret (.vec Q)) σ
  exact h.mono λr τ ⟨_,h1,h2,_⟩=>⟨true,by rw[h1];rfl,by rw[h2,hs];rfl,λe=>by cases e⟩
 .rw [a2y h0]at hq;rw[a2B h0];have h:=a6v (α:=Bool) (g:=λg=>g) (rows':=λg=>if g=true then(J8 l k).map Ky.cv else l.map Ky.cv) (off:=λ_=>0) (len:=λ_=>(J8 l k).length) (P:=λg=>g=false->J8 l k=l) hCC (R1 l) (args:=[.agg k.cells]) (λa h=>by
   simp at h;subst h;exact j5 ⟨.val _,.val _,.val _,O⟩) (λg _=>by cases g<;>exact R1 _) ((c5k l k hl).mono λr τ ⟨g,h1,h2⟩=>⟨g,by cases g<;>exact h1,h2⟩) hq
  refine h.mono λr τ ⟨g,h1,h2,h3⟩=>⟨g,h1,?_,h3⟩;cases g
  .have e:σ.set q (.vec 3 (l.map Ky.cv))=σ:=a0w hq;rw[h2];exact e
  .rw [h2];rfl
theorem d3c(l:List Ky)(q:Nat):(a0x l q).fgt=a0x l q:=by cases l<;>rfl
theorem a9i(l:List Ky)(k:Ky)(hl:l.length<=100000000)(σ:List b9)(q:Nat)(hq:σ[q]?=some (D9 l)):b8 CC 73 [(a0x l q).fgt,.agg k.cells] σ λr τ=>∃g:Bool,r= .ret (.vec (if g=true then σ.length else q) 0 (J8 l k).length)/\τ=(if g=true then σ.set q .dead++[.vec 3 ((J8 l k).map Ky.cv)]else σ)/\(g=false->J8 l k=l):=by
 rw[d3c];exact c1s l k hl σ q hq
def a5P(l:List Ky):List Ky:=l.foldl J8 []
theorem c4b{y:Ky}(h:l[i]?=some y):(l.take (i+1)).foldl J8 []=J8 ((l.take i).foldl J8 []) y:=by
 rw[a3a,h,b3v];rfl
theorem b61(l:List Ky)(k:Ky):(J8 l k).length<=l.length+1:=by
 unfold J8
 split
 .omega
 .have:=c2r k l;simp;omega
theorem b0N{f:α->List CV}{σ:List b9}{k s:Nat}{l:List α}(hk:n<=k)(hs:σ[k]?=some (.vec s (l.map f)))(hp:∀r∈l.map f,∀c∈r,o8 c):Cls n σ (.vec k 0 l.length) (.list (l.map f) true none):=
 .vec hk hs Q Q (λi r r' h1 h2=>by
  have h3:(l.map f)[i]?=some r:=by simpa[a2p]using h1
  rw[h3]at h2;injection h2 with h2;rw[h2]) (λi j r r' c c' h1 h2 h3 h4=>by
  have h5:(l.map f)[i]?=some r:=by simpa[a2p]using h1
  rw[h5]at h2;injection h2 with h2;subst h2
  rw[h3]at h4;injection h4 with h4;subst h4
  exact .old (hp r (n_3 h5) c (n_3 h3)).old)
theorem a8i{l:List α}(h:l≠[]):gnn l.length=true:=by cases l;exact absurd G h;rfl
theorem d4H(l:List Ky):Cls 0 [D9 l] (a0x l 0) (.list (l.map Ky.cv) (gnn l.length) none):=by
 by_cases h:l=[]
 .subst h;exact .old (P3 _ ([]:List Ky) _)
 .rw [a2B h,a2y h,a8i h];exact b0N (n_4 _) G (R1 l)
theorem d2j(l:List Ky)(nn:Bool)(hl:l.length<=100000000):b8 CC 23 [(.list (l.map Ky.cv) nn none)] [] λr ae=>∃aC c c',ae=[]++aC/\r= .ret c/\Cls 0 ae c c'/\c'= .list ((a5P l).map Ky.cv) (gnn (a5P l).length) none:=by
 refine qO Tryz.func23 ?_;refine u a7K ?_;refine B3 hCC 0 G (α:=List Ky×Nat) (λx=>[(3,a0x x.1 0),(6,(.list (l.map Ky.cv) nn none)),(7,iv l.length),(8,iv x.2)]) (λx=>[D9 x.1]) (λx=>x.2<=l.length/\x.1=(l.take x.2).foldl J8 []/\x.1.length<=x.2) (λx=>l.length -x.2) ⟨([],0),[0],⟨n_4 _,G,n_6 _⟩,⟨G,G⟩,q_1,uq_⟩ ?_;intro⟨aq,i⟩ ⟨hi,ho,hn⟩;dsimp only at hi ho hn⊢;refine qk (qC ?_ ?_)<;> intro h1
 .have ai:i<l.length:=sm_ h1;obtain⟨y,hb⟩:∃y,l[i]?=some y:=⟨l[i]'ai,Q⟩;refine u c26 ?_;refine d9P ?_;refine qD (c4 G Tryz.call73 j2 (a9i aq y J _ 0 G) G ?_);intro g hg;have aB:=a96 aq y;have hln:=b61 aq y;have aG:J8 aq y=(l.take (i+1)).foldl J8 []:=by rw[c4b hb,<- ho]
  refine u o3 ?_;exact⟨(J8 aq y,i+1),[if g=true then 2 else 0],⟨do_,do_,aG,do_⟩,⟨G,G⟩,q_1,⟨.inr (by cases g;exact⟨_,G,.same (by rw[hg G]) (by rw[a2y aB];exact a0M _ _)⟩;exact⟨_,G,.same (a2y aB).symm (by rw[a2y aB];exact a0M _ _)⟩),O⟩⟩
 .have aL:l.length<=i:=sm_ h1;have hs:a5P l=aq:=by rw[ho,a2p aL];rfl
  refine V5 ?_;exact⟨_,rE1,⟨_,_,_,G,G,(by exact d4H aq),by rw[hs]⟩⟩
theorem b5O(l:List Ky):(a5P l).length<=l.length:=by
 have h:∀(l a:List Ky),(l.foldl J8 a).length<=a.length+l.length:=by
  intro l
  induction l with
  |nil=>intro a;simp
  |cons y l ih=>
   intro a;have h1:=ih (J8 a y);have h2:=b61 a y;simp only[List.foldl_cons,J5];omega
 have:=h l [];unfold a5P;simpa using this
theorem d3h(l:List Ky)(nn:Bool)(hl:l.length<=100000000)(σ:List b9):b8 CC 23 [(.list (l.map Ky.cv) nn none)] σ λr τ=>r= .ret (.list ((a5P l).map Ky.cv) (gnn (a5P l).length) none)/\τ=σ:=
 b8.anyw (args:=[.list (l.map Ky.cv) nn none]) hCC ⟨D1 _ _,O⟩ (D1 _ _) ((a3w (d2j l nn hl)).mono λr τ ⟨⟨c,h1,h2⟩,h3⟩=>⟨by rw[h1,h2],h3⟩) σ
def addDs(me:EM)(path pkg:D):List De->Nat->EM
 | [],_=>me
 |d::ds,k=>addDs (a0a me ⟨pkg,d.name,d.k,path,(k:Int),1⟩) path pkg ds (k+1)
abbrev WS:=List D×SM×EM
def P7(s:WS)(f:Fi):WS:=if a35 f.p=true then(match N1 f.b with|none=>(s.1++[f.p],s.2.1,s.2.2)|some x=>(s.1,G6 s.2.1 f.p x,addDs s.2.2 f.p x.pkg x.decls 0))else s
def a4X(fl:List Fi)(s:WS):WS:=fl.foldl P7 s
def w8(fl:List Fi):WS:=if B4 fl=0 then a4X fl ([],[],[])else([],[],[])
def CtB(n:Nat)(me:EM):Prop:=∀k e,glk me k=some e->0<=e.ct/\e.ct<=(n:Int)
theorem CtB.add(h:CtB n me){x:En}(hx:x.ct=1):CtB (n+1) (a0a me x):=λk e he=>by
 rw[a0a,G3]at he;split at he
 .injection he with he
  subst he;cases hg:glk me (A9 x.k x.p x.o)with
  |none=>simp only;omega
  |some f=>have:=h _ _ hg;simp only;omega
 .have:=h _ _ he;omega
theorem CtB.nil(n:Nat):CtB n []:=λk e h=>by cases h
theorem CtB.mono{m:Nat}(h:CtB n me)(dS:n<=m):CtB m me:=λk e he=>by have:=h k e he;omega
theorem a3P{path pkg:D}{l:List De}{k:Nat}{d:De}(h:l[k]?=some d):addDs me path pkg (l.drop k) k=addDs (a0a me ⟨pkg,d.name,d.k,path,(k:Int),1⟩) path pkg (l.drop (k+1)) (k+1):=by
 obtain⟨ai,rfl⟩:=n_2.1 h;rw[a0v ai,addDs]
theorem c51{l:List Fi}{f:Fi}(h:l[i]?=some f)(s:WS):a4X (l.drop i) s=a4X (l.drop (i+1)) (P7 s f):=by
 obtain⟨ai,rfl⟩:=n_2.1 h;unfold a4X;rw[a0v ai,List.foldl_cons]
theorem c2t:∀{pv:Option Fi} {l:List Fi},rvE pv l=0->∀f∈l,F6 f.p=true/\f.b.length<=16384
 |_,[],_,f,h=>by cases h
 |pv,x::l,h0,f,h=>by
  rw[rvE]at h0;split at h0
  .rename_i hs
   rcases I0.1 h with rfl|h
   .unfold I1 at hs;split at hs
    .cases hs
    .rename_i hp;split at hs
     .cases hs
     .split at hs
      .cases hs
      .split at hs
       .cases hs
       .exact ⟨U hp,J⟩
   .exact c2t h0 f h
  .rename_i hs;exact absurd h0 hs
theorem U1{l:List Fi}(h:B4 l=0):l.length<=64/\∀f∈l,F6 f.p=true/\f.b.length<=16384:=by
 unfold B4 at h;split at h
 .cases h
 .exact ⟨J,c2t h⟩
theorem b0g:∀(f:Nat) {T:List Tok} {n:Nat} {l:List De} {x:List De×Nat},R0 f T n l=some x->x.1.length+1<=l.length+f
 |0,T,n,l,x,h=>by cases h
 |f+1,T,n,l,x,h=>by
  rw[R0]at h;split at h
  .injection h with h;subst h;simp only;omega
  .cases hd:a0J T l n with
   |none=>rw[hd]at h;cases h
   |some y=>
    rw[hd,n_8]at h;have:=b0g f h;rw[n_9,c3L]at this;omega
theorem b2T{T:List Tok}{x:Src}(h:a05 T=some x):x.decls.length<=64:=by
 unfold a05 at h;cases h1:pIs T 0 1 [112,97,99,107,97,103,101]with
 |none=>rw[h1]at h;cases h
 |some n1=>
  rw[h1,n_8]at h;cases h2:I7 T n1 with
  |none=>rw[h2]at h;cases h
  |some w=>
   rw[h2,n_8]at h;cases h3:pIs T w.2 4 [59]with
   |none=>rw[h3]at h;cases h
   |some n2=>
    rw[h3,n_8]at h;cases h4:a1v 9 T w.1.t n2 []with
    |none=>rw[h4]at h;cases h
    |some y=>
     rw[h4,n_8]at h;cases h5:R0 65 T y.2 []with
     |none=>rw[h5]at h;cases h
     |some z=>
      rw[h5,n_8]at h;injection h with h
      subst h;have:=b0g _ h5;simp only[a1D]at this⊢;omega
theorem b9F{s:D}{x:Src}(h:N1 s=some x):x.decls.length<=64:=by
 unfold N1 at h;cases h1:a3i s with
 |none=>rw[h1]at h;cases h
 |some T=>rw[h1,n_8]at h;exact b2T h
theorem c6T{fl:List Fi}{nn va:Bool}{br:List D}{ms:SM}{σ:List b9}{w q1 q2 t:Nat}(aw:WAt σ w q1 q2 t fl nn va br ms me)(x:En)(cX:∀k e,glk me k=some e->0<=e.ct/\e.ct<=1000000):b8 CC 81 [.ptr w 0,.agg x.cells] σ λr τ=>∃_:Unit,r= .ret (.tup [])/\τ=a8n σ [w,q1,q2,t] [wbx fl nn va br q1 q2 t,smO ms,emO (a0a me x),l8 br.length]/\True:=
 a3u (α:=Unit) (obs:=wst fl nn va br ms me) (res:=λ_=>.ret (.tup [])) (res':=λ_=>.ret (.tup [])) (S:=λ_=>wst fl nn va br ms (a0a me x)) (S':=λ_=>[wbx fl nn va br q1 q2 t,smO ms,emO (a0a me x),l8 br.length]) (P:=λ_=>True) [w,q1,q2,t] hCC G aw.nd (λi k ob h1 h2=>by
  obtain⟨aH,_,h3,h4⟩:=b8g aw i k ob h1 h2;exact⟨aH,h3,h4.symm λ_ _ h=>h⟩) (.cons (.ptr G) (G7 λa ha=>by simp at ha;subst ha;exact En.pure x)) (D7 hCC ((c5c fl nn va br ms me x cX).mono λr τ h=>⟨_,_,h,(),G,G,O⟩)) V9 (λ_ i k y h1 h2=>by
  rcases i with _|_|_|_|i
  .injection h2 with h2;subst h2;exact⟨_,G,b5D G G G⟩
  .injection h2 with h2;subst h2;exact⟨_,G,a8f b0f a7y _⟩
  .injection h2 with h2;subst h2;exact⟨_,G,a8f Nm.pure En.pure _⟩
  .injection h2 with h2;subst h2;exact⟨_,G,a2e _⟩
  .cases h2) λ_=>.ret (.pure (D3 trivial))
theorem d4a(fl:List Fi)(nn:Bool)(hl:∀f∈fl,f.p.length<=1000000000):b8 CC 39 [.agg (A0 fl nn)] [] λr τ=>C9 0 τ r (.ret (.ptr 0 0)) (wst fl nn (B4 fl == 0) (w8 fl).1 (w8 fl).2.1 (w8 fl).2.2):=by
 refine cO Tryz.func39 ?_;refine d1p ?_;refine b0b hCC 1 G (α:=Unit) (λ_=>[(1,.ptr 0 0),(3,.ptr 3 0)]) (λ_=>[.box (A0 fl nn),.map [],.map [],.box [.list (fl.map Fi.cv) nn none,.val (.bool (B4 fl == 0)),.map 1,.list [] false none,.map 2]]) (λ_=>True) ?_ λ_ _=>?_
 .refine d3l [0,0,2,6,0,0,63,127,255] [0,1,2,3] (f:=5) w9 w9 G ?_;refine chf G a7P ?_;refine chf G a7P ?_;refine chf G (c7 G c2D) ?_;refine chf G (c7 G Z5) ?_;refine F2 ?_;refine e3F (i:=4) (i':=5) w9 G G G G (S8 G ?_) (S8 G ?_)
  .refine ⟨⟨λ_=>by exact c7 G a4v,λ_=>by exact c7 G a4v,λ_=>by exact c7 G c2D,λ_=>by exact c7 G Z5,O⟩,?_⟩;refine d9g (i:=5) w9 G G (S8 G ?_);refine d6w ?_;refine d6P ?_;refine d9B (i:=8) w9 G b1R ?_;exact⟨by kernel_rfl,(),[0,1,2,3],O,⟨G,G⟩,⟨⟨O,.ptr G⟩,⟨O,.ptr G⟩,O⟩,.inr ⟨_,G,.same G a0H⟩,.inr ⟨_,G,.same G (λx hx=>by cases hx)⟩,.inr ⟨_,G,.same G (λx hx=>by cases hx)⟩,.inr ⟨_,G,.box ⟨.old Q4,.old (.val _),.map G,.old a2C,.map G,O⟩⟩,O⟩
  .refine ⟨⟨λ_=>by exact c7 G a4v,λ_=>by exact c7 G a4v,λ_=>by exact c7 G c2D,λ_=>by exact c7 G Z5,O⟩,?_⟩;refine d9g (i:=4) w9 G G (S8 G ?_);refine d6w ?_;refine d6P ?_;refine d9B (i:=8) w9 G b1R ?_;exact⟨by kernel_rfl,(),[0,2,1,3],O,⟨G,G⟩,⟨⟨O,.ptr G⟩,⟨O,.ptr G⟩,O⟩,.inr ⟨_,G,.same G a0H⟩,.inr ⟨_,G,.same G (λx hx=>by cases hx)⟩,.inr ⟨_,G,.same G (λx hx=>by cases hx)⟩,.inr ⟨_,G,.box ⟨.old Q4,.old (.val _),.map G,.old a2C,.map G,O⟩⟩,O⟩
 refine qk (qC ?_ ?_)<;> intro h1
 .have hv:¬B4 fl=0:=U h1;refine c6 ?_;exact⟨_,rE1,(by rw[w8,H hv];exact⟨[3,1,2,9],G,G,.ret (.ptr G),.inr ⟨_,G,.box ⟨.old Q4,.old (.val _),.map G,.old a2C,.map G,O⟩⟩,.inr ⟨_,G,.same G W5⟩,.inr ⟨_,G,.same G X2⟩,.inl G,O⟩)⟩
 .have hv:B4 fl=0:=U h1;obtain⟨dr,hfa⟩:=U1 hv;have aj:w8 fl=a4X fl ([],[],[]):=by rw[w8,W hv]
  refine u a2E ?_;refine B3 hCC 4 G (α:=Nat×WS) (λx=>[(3,.ptr 3 0),(26,(.list (fl.map Fi.cv) nn none)),(27,iv fl.length),(28,iv x.1)]) (λx=>[.box (A0 fl nn),smO x.2.2.1,emO x.2.2.2,wbx fl nn (B4 fl == 0) x.2.1 1 2 4,l8 x.2.1.length]) (λx=>x.1<=fl.length/\x.2.1.length<=x.1/\CtB (64*x.1) x.2.2.2/\w8 fl=a4X (fl.drop x.1) x.2) (λx=>fl.length -x.1) ⟨(0,[],[],[]),[0,1,2,3,9],⟨n_4 _,n_4 _,CtB.nil _,aj⟩,⟨G,G⟩,ut_,⟨.inr ⟨_,G,.same G a0H⟩,.inr ⟨_,G,.same G W5⟩,.inr ⟨_,G,.same G X2⟩,.inr ⟨_,G,.box ⟨.old Q4,.old (.val _),.map G,.old a2C,.map G,O⟩⟩,.inl G,O⟩⟩ ?_;intro⟨i,br,ms,me⟩ ⟨hi,hbr,cX,hr⟩;dsimp only at hi hbr cX hr⊢;refine qk (qC ?_ ?_)<;> intro h2
  .have ai:(i:Int)<fl.length:=U h2;obtain⟨y,hb⟩:=gx_ fl i;have hy:=hfa y (n_3 hb);have gW:=hl y (n_3 hb);rw[c51 hb,P7]at hr;refine b9n ?_;refine u (c5 G Tryz.call79 ⟨O,O⟩ (b2A y.p gW _) G) ?_;refine qC ?_ ?_<;>intro h3
   .have u3:¬a35 y.p=true:=U h3;rw[H u3]at hr;refine b3H ?_;exact⟨(i+1,br,ms,me),[0,1,2,3,4],⟨do_,do_,do_,cX.mono J,hr⟩,⟨G,G⟩,ut_,⟨.inr ⟨_,G,.same G a0H⟩,.inr ⟨_,G,.same G W5⟩,.inr ⟨_,G,.same G X2⟩,.inr ⟨_,G,.box ⟨.old Q4,.old (.val _),.map G,B5.grow (f:=scv) (λ_=>⟨.val _,O⟩) G,.map G,O⟩⟩,.inr ⟨_,G,.same G B0⟩,O⟩⟩
   .have u3:a35 y.p=true:=U h3;rw[W u3]at hr;refine qD (c4 G Tryz.call80 ⟨O,O⟩ (c7d y.b J _) G ?_);rintro⟨x,at_,e⟩ hP;dsimp only at hP⊢;refine c0k ?_;refine cC ?_ ?_<;>intro h4
    .have he:e≠0:=U h4;have cE:N1 y.b=none:=by
      rcases hP with⟨_,_,g⟩|⟨g,_⟩
      .exact absurd g he
      .exact g
     rw[cE]at hr;simp only at hr;have eX:=X3 br y.p;refine qk ?_;refine cF [] [0,1,2,3,4,5,6,7] (tl:=[(8,[0]),(9,[]),(10,[]),(11,[])]) ?_;refine a9F ?_;refine chf G a1e ?_;refine chf G (c7 G (i7 G O G c5s G a2Q I)) ?_;refine chf G c8L ?_;refine b6X ?_;refine chf G e0O ?_;refine F2 ?_;refine B1 G G G (B6 G O O G Q q_3 t_2 t_0 a5s t_4 G (.inr G) q_8 a2h E9 ((br++[y.p]).map scv) (br++[y.p]).length Q Q ?_);refine d2q ?_;refine C7 G G (c7 G (i7 G O G c5s G a2Q I)) ⟨O,?_⟩;refine B1 G G G (i0 G O O G j1 a2Q (.inl G) G G (nb G) ?_);refine a8h ?_;refine b3H ?_;exact⟨(i+1,br++[y.p],ms,me),[0,1,2,3,7],⟨do_,do_,do_,cX.mono J,hr⟩,⟨G,G⟩,ut_,⟨.inr ⟨_,G,.same G a0H⟩,.inr ⟨_,G,.same G W5⟩,.inr ⟨_,G,.same G X2⟩,.inr ⟨_,G,.box ⟨.old Q4,.old (.val _),.map G,B5.grow (f:=scv) (λ_=>⟨.val _,O⟩) G,.map G,O⟩⟩,.inr ⟨_,G,.same G B0⟩,O⟩⟩
    .have he:e=0:=U h4;have cE:N1 y.b=some x:=by
      rcases hP with⟨g,_⟩|⟨_,_,g⟩
      .exact g
      .exact absurd he g
     rw[cE]at hr;simp only at hr;have fm:=b9F cE;refine qk ?_;refine cW 7 ?_;refine a2S ?_;refine hY d0c ?_;refine hY (l9 G O G c6Q G G) ?_;refine hY (i7 G O G b6g G t_0 I) ?_;refine hY W7 ?_;refine hY c1W ?_;refine a3D ?_;refine qD (p9 (vc:=vcS) (l:=ms) (a:=y.p) (b:=x) b9Q (.inl G) O O trivial G G G Tryz.runUnderlying86 G ?_);refine u b11 ?_;refine B3 hCC 7 G (α:=Nat×EM) (λz=>[(3,.ptr 3 0),(26,(.list (fl.map Fi.cv) nn none)),(27,iv fl.length),(28,iv i),(5,.ptr 5 0),(6,.ptr 6 0),(64,(.list (x.decls.map De.cv) (gnn x.decls.length) none)),(65,iv x.decls.length),(66,iv z.1)]) (λz=>[.box (A0 fl nn),smO (G6 ms y.p x),emO z.2,wbx fl nn (B4 fl == 0) br 1 2 4,l8 br.length,.box y.cells,.box x.cells]) (λz=>z.1<=x.decls.length/\CtB (64*i+z.1) z.2/\addDs me y.p x.pkg x.decls 0=addDs z.2 y.p x.pkg (x.decls.drop z.1) z.1) (λz=>x.decls.length -z.1) ⟨(0,me),[0,1,2,3,4,5,6],⟨n_4 _,cX,G⟩,⟨G,G⟩,ut_,⟨.inr ⟨_,G,.same G a0H⟩,.inr ⟨_,G,.same G W5⟩,.inr ⟨_,G,.same G X2⟩,.inr ⟨_,G,.box ⟨.old Q4,.old (.val _),.map G,B5.grow (f:=scv) (λ_=>⟨.val _,O⟩) G,.map G,O⟩⟩,.inr ⟨_,G,.same G B0⟩,.inr ⟨_,G,.same G b1l⟩,.inr ⟨_,G,.same G a5R⟩,O⟩⟩ ?_;intro⟨k,me2⟩ ⟨hk,hct2,bk⟩;dsimp only at hk hct2 bk⊢;refine qk (qC ?_ ?_)<;> intro h5
     .have gq:(k:Int)<x.decls.length:=U h5;obtain⟨d,hd⟩:=gx_ x.decls k;rw[a3P hd]at bk;refine u (A4 G O O G G a8m a4c J (j8 hd) G) ?_;refine d5F ?_;refine u (z8 #[(0,1),(1,1),(2,1),(3,1),(4,1),(5,1)] G ⟨O,O,O,O,O,G,O⟩ b0K a0z G ⟨_,G⟩ (λw=>by kernel_rfl) G G) ?_;refine qD (c4 G Tryz.call81 j2 (c6T (w:=3) (q1:=1) (q2:=2) (t:=4) ⟨G,G,G,G,a2c I⟩ ⟨x.pkg,d.name,d.k,y.p,(k:Int),1⟩ (λa b h=>by have:=hct2 a b h;omega)) G ?_);rintro _ _;refine qN [.box (A0 fl nn),smO (G6 ms y.p x),emO (a0a me2 ⟨x.pkg,d.name,d.k,y.p,(k:Int),1⟩),wbx fl nn (B4 fl == 0) br 1 2 4,l8 br.length,.box y.cells,.box x.cells,.box d.cells] G (u o3 ?_);exact⟨(k+1,a0a me2 ⟨x.pkg,d.name,d.k,y.p,(k:Int),1⟩),[0,1,2,3,4,5,6],⟨do_,do_,(hct2.add G).mono J,bk⟩,⟨G,G⟩,ut_,⟨.inr ⟨_,G,.same G a0H⟩,.inr ⟨_,G,.same G W5⟩,.inr ⟨_,G,.same G X2⟩,.inr ⟨_,G,.box ⟨.old Q4,.old (.val _),.map G,B5.grow (f:=scv) (λ_=>⟨.val _,O⟩) G,.map G,O⟩⟩,.inr ⟨_,G,.same G B0⟩,.inr ⟨_,G,.same G b1l⟩,.inr ⟨_,G,.same G a5R⟩,O⟩⟩
     .have gq:x.decls.length<=k:=sm_ h5;rw[a0V gq,addDs]at bk;refine b3H ?_;exact⟨(i+1,br,G6 ms y.p x,me2),[0,1,2,3,4],⟨do_,do_,do_,hct2.mono J,by rw[hr,bk]⟩,⟨G,G⟩,ut_,⟨.inr ⟨_,G,.same G a0H⟩,.inr ⟨_,G,.same G W5⟩,.inr ⟨_,G,.same G X2⟩,.inr ⟨_,G,.box ⟨.old Q4,.old (.val _),.map G,B5.grow (f:=scv) (λ_=>⟨.val _,O⟩) G,.map G,O⟩⟩,.inr ⟨_,G,.same G B0⟩,O⟩⟩
  .have aL:fl.length<=i:=sm_ h2;rw[a0V aL,a4X,List.foldl_nil]at hr;refine V5 ?_;exact⟨_,rE1,(by rw[hr];exact⟨[3,1,2,4],G,G,.ret (.ptr G),.inr ⟨_,G,.box ⟨.old Q4,.old (.val _),.map G,B5.grow (f:=scv) (λ_=>⟨.val _,O⟩) G,.map G,O⟩⟩,.inr ⟨_,G,.same G W5⟩,.inr ⟨_,G,.same G X2⟩,.inr ⟨_,G,.same G B0⟩,O⟩)⟩
abbrev d9G(fl:List Fi)(nn va:Bool)(br:List D)(ms:SM)(me:EM)(n:Nat):List b9:=[wbx fl nn va br (n+1) (n+2) (n+3),smO ms,emO me,l8 br.length]
theorem b5b(fl:List Fi)(nn:Bool)(hl:∀f∈fl,f.p.length<=1000000000)(σ:List b9):b8 CC 39 [.agg (A0 fl nn)] σ λr τ=>∃_:Unit,r= .ret (.ptr σ.length 0)/\τ=σ++d9G fl nn (B4 fl == 0) (w8 fl).1 (w8 fl).2.1 (w8 fl).2.2 σ.length/\True:=
 a6w (α:=Unit) hCC (λa ha=>by simp at ha;subst ha;exact j5 ⟨F5 _ _,O⟩) (res:=λ_=>.ret (.ptr 0 0)) (res':=λ_ n=>.ret (.ptr n 0)) (S:=λ_=>wst fl nn (B4 fl == 0) (w8 fl).1 (w8 fl).2.1 (w8 fl).2.2) (S':=λ_ n=>d9G fl nn (B4 fl == 0) (w8 fl).1 (w8 fl).2.1 (w8 fl).2.2 n) (P:=λ_=>True) (D7 hCC ((d4a fl nn hl).mono λr τ h=>⟨_,_,h,(),G,G,O⟩)) (λ_ _=>G) (λ_ n i x h=>by
  rcases i with _|_|_|_|i
  .injection h with h;subst h;exact⟨_,G,b5D G G G⟩
  .injection h with h;subst h;exact⟨_,G,a8f b0f a7y _⟩
  .injection h with h;subst h;exact⟨_,G,a8f Nm.pure En.pure _⟩
  .injection h with h;subst h;exact⟨_,G,a2e _⟩
  .cases h) (λ_ n=>.ret (.ptr G)) σ
theorem b4G:∀a:D,Op.bytesLess a a=false
 | []=>rfl
 |x::a=>by simp[Op.bytesLess,b4G a]
theorem a64:∀{a b c:D},Op.bytesLess a b=true->Op.bytesLess b c=true->Op.bytesLess a c=true
 | [],[],_,h,_=>by cases h
 | [],_::_,[],_,h=>by cases h
 | [],_::_,_::_,_,_=>rfl
 |_::_,[],_,h,_=>by cases h
 |_::_,_::_,[],_,h=>by cases h
 |x::a,y::b,z::c,h1,h2=>by
  simp only[Op.bytesLess,a9J,a5J,R9,beq_iff_eq]at h1 h2⊢
  rcases h1 with h1|⟨h1,dP⟩<;>rcases h2 with h2|⟨h2,dl⟩
  .exact .inl (UInt8.lt_trans h1 h2)
  .exact .inl (h2▸h1)
  .exact .inl (h1▸h2)
  .exact .inr ⟨h1.trans h2,a64 dP dl⟩
theorem c8w:∀{a b:D},Op.bytesLess a b=false->a≠b->Op.bytesLess b a=true
 | [],[],_,h=>absurd G h
 | [],_::_,h,_=>by cases h
 |_::_,[],_,_=>rfl
 |x::a,y::b,h1,h2=>by
  simp only[Op.bytesLess,c3F,b0C,Bool.and_eq_false_iff,beq_eq_false_iff_ne,a9J,a5J,R9,beq_iff_eq]at h1⊢;by_cases fU:x=y
  .subst fU;refine .inr ⟨G,c8w (h1.2.resolve_left λh=>h G) λh=>h2 (by rw[h])⟩
  .have:=h1.1;exact .inl (by
    rcases Nat.lt_or_gt_of_ne (λh=>fU (b8d.1 h):x.toNat≠y.toNat)with h|h
    .exact absurd (b56.2 h) this
    .exact b56.2 h)
def c4o(l:List Fi):Prop:=l.Pairwise λf g=>Op.bytesLess f.p g.p=true
def H7:List D:=([[97,46,115,114,99],[98,46,115,114,99],[100,47,99,46,115,114,99],[120,46,115,114,99]]:List D)
theorem a7B(σ:List b9):b8 CC 28 [] σ λr ae=>r= .ret (.list (H7.map scv) true none)/\ae=σ:=by
 refine b8.anyw hCC pu_ pu_ (c9 (qO Tryz.func28 ?_)) σ;refine u (A6 (H7.map scv) G ⟨G,G,G,G,O⟩ t_2 t_0 t_4 G G G G G G G G G) ?_;refine c6 ?_;exact⟨_,rE1,_,_,G,G,O2 G pu_⟩
theorem b1N(l:List D)(nn:Bool)(s:D)(hl:l.length<=1000000000)(σ:List b9):b8 CC 76 [(.list (l.map scv) nn none),(sv s)] σ λr ae=>r= .ret (.val (.bool (decide (s∈l))))/\ae=σ:=by
 refine b8.anyw hCC pu_ pu_ (c9 (qO Tryz.func76 ?_)) σ;refine u0 hCC (λi:Nat=>[(0,(.list (l.map scv) nn none)),(1,(sv s)),(5,iv i)]) (λ_=>[]) (λi=>i<=l.length/\decide (s∈l)=decide (s∈l.drop i)) (λi=>l.length -i) 0 ⟨n_4 _,G⟩ tu_ (au:=[]) G D5 uz_ ?_;intro i ⟨hi,hr⟩;refine qk (u P0 ?_);refine qC ?_ ?_<;>intro h1
 .have ai:i<l.length:=sm_ h1;obtain⟨y,hb⟩:∃y,l[i]?=some y:=⟨l[i]'ai,Q⟩;have hdr:l.drop i=y::l.drop (i+1):=by
   obtain⟨ai,rfl⟩:=n_2.1 hb;exact a0v ai
  rw[hdr]at hr;refine u a4C ?_;refine u a5Q ?_;refine qC ?_ ?_<;>intro h2
  .have hys:y=s:=U h2;refine c6 ?_;exact⟨_,rE1,_,_,G,G,j9 (by rw[hr,hys];simp)⟩
  .have hys:¬y=s:=U h2;refine u o3 ?_;exact⟨(i+1),_,⟨J,J,by
    rw[hr];have:(s=y)=False:=by simpa using λh=>hys h.symm
    simp[this]⟩,tu_,G⟩
 .have aL:l.length<=i:=sm_ h1;rw[a0V aL]at hr;refine V5 ?_;exact⟨_,rE1,_,_,G,G,j9 c1Y⟩
def a4Y(n:Nat):D:=if h:n<10 then [UInt8.ofNat (48+n)]else a4Y (n / 10)++[UInt8.ofNat (48+n%10)]
termination_by n
decreasing_by omega
theorem a6Z(h:n<10):a4Y n=[UInt8.ofNat (48+n)]:=by rw[a4Y,dif_pos h]
theorem d3z(h:¬n<10):a4Y n=a4Y (n / 10)++a4Y (n%10):=by rw[a4Y,dif_neg h,a6Z (a63 _ J)]
theorem a2d:∀(m n:Nat),n<10^(m+1)->(a4Y n).length<=m+1
 |0,n,h=>by rw[a6Z (U h)];simp
 |m+1,n,h=>by
  by_cases hn:n<10
  .rw [a6Z hn];simp
  .rw [a4Y,dif_neg hn,n_9];have:=a2d m (n / 10) (by rw[Nat.div_lt_iff_lt_mul J];rw[Nat.pow_succ]at h;exact h);simp only[J5,a1D];omega
theorem e3d:∀n:Nat,n<10->(([48,49,50,51,52,53,54,55,56,57]:D).take (n+1)).drop n=[UInt8.ofNat (48+n)]:=by decide
theorem a7u(h:b8 CC 34 [iv n] [] λr ae=>r= .ret (sv (a4Y n))/\ae=[])(σ:List b9):b8 CC 34 [iv n] σ λr ae=>r= .ret (sv (a4Y n))/\ae=σ:=
 b8.anyw hCC pu_ pu_ h σ
theorem b7r(n:Nat)(hn:n<=4611686018427387904)(σ:List b9):b8 CC 34 [iv n] σ λr ae=>r= .ret (sv (a4Y n))/\ae=σ:=by
 refine b8.anyw hCC pu_ pu_ ?_ σ
 induction n using Nat.strongRecOn
 rename_i n ih;refine c9 (qO Tryz.func34 ?_);refine qC ?_ ?_<;>intro h1
 .have hn9:n<10:=sm_ h1;refine u o3 ?_;refine u (I4 (a:=n) (h:=(n+1)) G G G t_8 X6 X6 J (by show n+1<=10;omega)) ?_;refine c6 ?_;exact⟨_,rE1,_,_,G,G,c2a (by rw[a6Z hn9];exact n_7 str (e3d n hn9))⟩
 .have hn9:¬n<10:=sm_ h1;have hd:Int.tdiv (n:Int) 10=((n / 10:Nat):Int):=by rfl
  have hm:Int.tmod (n:Int) 10=((n%10:Nat):Int):=by rfl
  have g1:=a2d 18 (n / 10) J;have g2:=a2d 18 (n%10) J;have e1:IntKind.i64.wrap ((n:Int).tdiv 10)=((n / 10:Nat):Int):=by rw[hd];exact a5B J J
  have e2:(n:Int).tmod 10=((n%10:Nat):Int):=by exact hm
  refine u (a0e G O G G G (G)) ?_;refine u (c5 G d1S ⟨O,O⟩ (by have h:=a7u (ih (n / 10) J J) [];rw[<- e1]at h;exact h) G) ?_;refine u (a0e G O G G G (G)) ?_;refine u (c5 G d1S ⟨O,O⟩ (by have h:=a7u (ih (n%10) J J) [];rw[<- e2]at h;exact h) G) ?_;refine u a9a ?_;refine c6 ?_;exact⟨_,rE1,_,_,G,G,c2a (n_7 str (d3z hn9).symm)⟩
end Go.Proofs.YtncmhkpnclafkaaGreatDoor
namespace Go.Proofs
open Go.Shelf
def Tryz.sortKey_ren:Go.Shelf.Ren:=⟨λ|6=>114|15=>168|14=>167|28=>216|29=>217|20=>208|21=>209|22=>210|23=>211|24=>212|25=>213|26=>214|27=>215|46=>257|47=>258|48=>259|49=>260|50=>261|57=>298|n=>n,λ|22=>29|24=>49|25=>179|3=>3|39=>221|0=>0|53=>253|55=>55|4=>4|46=>247|45=>246|50=>188|5=>5|9=>9|66=>282|70=>286|76=>312|77=>313|n=>n,λ|n=>n⟩
theorem Tryz.sortKey:Go.Proofs.SlLaysF0.n6 Tryz.prog Tryz.sortKey_ren:={
 mixed:=by kernel_rfl
 f6:=⟨Tryz.f114.name,I,Tryz.func114.trans (n_7 some w9)⟩
 f14:=⟨Tryz.f167.name,I,Tryz.func167.trans (n_7 some w9)⟩
 f15:=c6V.trans (n_7 some w9)
 f20:=⟨Tryz.f208.name,I,Tryz.func208.trans (n_7 some w9)⟩
 f21:=⟨Tryz.f209.name,I,Tryz.func209.trans (n_7 some w9)⟩
 f22:=⟨Tryz.f210.name,I,Tryz.func210.trans (n_7 some w9)⟩
 f23:=⟨Tryz.f211.name,I,Tryz.func211.trans (n_7 some w9)⟩
 f24:=⟨Tryz.f212.name,I,Tryz.func212.trans (n_7 some w9)⟩
 f25:=⟨Tryz.f213.name,I,Tryz.func213.trans (n_7 some w9)⟩
 f26:=⟨Tryz.f214.name,I,Tryz.func214.trans (n_7 some w9)⟩
 f27:=⟨Tryz.f215.name,I,Tryz.func215.trans (n_7 some w9)⟩
 f28:=c8R.trans (n_7 some w9)
 f29:=d0K.trans (n_7 some w9)
 f46:=⟨Tryz.f257.name,I,Tryz.func257.trans (n_7 some w9)⟩
 f47:=c7o.trans (n_7 some w9)
 f48:=d1c.trans (n_7 some w9)
 f49:=⟨Tryz.f260.name,I,Tryz.func260.trans (n_7 some w9)⟩
 f50:=⟨Tryz.f261.name,I,Tryz.func261.trans (n_7 some w9)⟩
 f57:=⟨Tryz.f298.name,I,Tryz.func298.trans (n_7 some w9)⟩
 t0:=d0N
 a0:=c9u
 z0:=d0B
 v0:=c9G
 t3:=c2U
 a3:=a5v
 z3:=t_1
 v3:=t_9
 t4:=c9b
 a4:=b9B
 z4:=b4V
 v4:=c3C
 t5:=d0k
 a5:=d1I
 z5:=b4z
 v5:=c42
 t9:=c95
 a9:=a2j
 z9:=t_0
 v9:=t_4
 t22:=Tryz.underlying29
 a22:=d0L
 z22:=b9s
 v22:=Tryz.zeroValue29
 t25:=Tryz.underlying179
 a25:=Tryz.isAgg179
 z25:=Tryz.sizeOf179
 v25:=Tryz.zeroValue179
 t39:=c7u
 a39:=c9C
 z39:=c6Z
 v39:=c8Q
 t45:=c9W
 a45:=d1b
 z45:=c8e
 v45:=c72
 t46:=d0g
 a46:=c7F
 z46:=c8y
 v46:=c7q
 t50:=c7z
 a50:=d0A
 z50:=c7t
 v50:=c8t
 t53:=c8l
 a53:=c7L
 z53:=d0O
 v53:=c6u
 t55:=c1E
 a55:=c3s
 z55:=c2q
 v55:=d2i
 t66:=c9x
 a66:=d2B
 z66:=c9q
 v66:=c6r
 t70:=d0r
 a70:=d2f
 z70:=c6k
 v70:=d0C
 t76:=d0V
 a76:=c7n
 z76:=c8W
 v76:=c9I
 t77:=d1z
 a77:=c98
 z77:=d0a
 v77:=c8f}
end Go.Proofs
namespace Go.Proofs.YtncmhkpnclafkaaGreatDoor
open Go Go.Cl
variable{x y:Ky}
instance:Inhabited Ky:=⟨⟨0,[],[]⟩⟩
abbrev d4K(x:Ky):List Value:=[.int .i64 x.k,.string (str x.a),.string (str x.b)]
theorem b4g{a b:D}:Op.bytesLess a b=true↔Go.Lib.compareBytes a b= -1:=by rw[c2E];simp
theorem b1x{a b c:D}(h:Go.Lib.compareBytes a b= -1)(k:Go.Lib.compareBytes b c= -1):Go.Lib.compareBytes a c= -1:=b4g.1 (a64 (b4g.2 h) (b4g.2 k))
theorem c1J{a b:Int}:X5 a b= -1↔a<b:=by unfold X5;split<;>(try split)<;>omega
theorem d3n:T4 x y= -1↔x.k <y.k\/(x.k=y.k/\(Go.Lib.compareBytes x.a y.a = -1\/(x.a=y.a/\Go.Lib.compareBytes x.b y.b = -1))):=by
 unfold T4;by_cases h1:X5 x.k y.k=0
 .have e1:=(a3K _ _).1 h1;rw[H (by simp[h1])];by_cases h2:Go.Lib.compareBytes x.a y.a=0
  .have e2:=(a80 _ _).1 h2;rw[H (by simp[h2])];constructor
   .intro h;exact .inr ⟨e1,.inr ⟨e2,h⟩⟩
   .rintro (h|⟨-,h|⟨-,h⟩⟩)
    .omega
    .omega
    .exact h
  .rw [W h2];constructor
   .intro h;exact .inr ⟨e1,.inl h⟩
   .rintro (h|⟨-,h|⟨h,-⟩⟩)
    .omega
    .exact h
    .exact absurd ((a80 _ _).2 h) h2
 .rw [W h1,c1J];constructor
  .intro h;exact .inl h
  .rintro (h|⟨h,-⟩)
   .exact h
   .exact absurd ((a3K _ _).2 h) h1
theorem c1e{z:Ky}(h:T4 x y= -1)(k:T4 y z= -1):T4 x z= -1:=by
 rw[d3n]at*
 rcases h with h|⟨h1,h|⟨h2,h⟩⟩<;>rcases k with k|⟨k1,k|⟨k2,k⟩⟩
 .exact .inl J
 .exact .inl J
 .exact .inl J
 .exact .inl J
 .exact .inr ⟨J,.inl (b1x h k)⟩
 .exact .inr ⟨J,.inl (k2▸h)⟩
 .exact .inl J
 .exact .inr ⟨J,.inl (h2▸k)⟩
 .exact .inr ⟨J,.inr ⟨h2.trans k2,b1x h k⟩⟩
theorem a4y(x y:Ky):Go.Proofs.ltOf T4 x y=ltK x y:=by
 unfold Go.Proofs.ltOf ltK
 rcases b1B x y with h|h|h<;>simp[h]
theorem a3o{z:Ky}(h:ltK x y=true)(k:ltK y z=true):ltK x z=true:=by
 simp only[ltK,a5J]at*;exact c1e h k
theorem a7h(h:ltK x y=false)(k:ltK y x=false):x=y:=by
 rw[c9n]at k;simp only[ltK,b0C]at h k
 rcases b1B x y with e|e|e
 .exact absurd e h
 .exact (b5k x y).1 e
 .exact absurd e k
theorem a7F(x:Ky):ltK x x=false:=by simp[ltK,(b5k x x).2 G]
theorem d8i:Go.Sort.SWO (Go.Proofs.ltOf T4) where
 irrefl x:=by rw[a4y];exact a7F x
 trans x y z h k:=by rw[a4y]at*;exact a3o h k
 ntrans x y z h k:=by
  rw[a4y]at*;cases h2:ltK x z
  .rfl
  .cases h3:ltK y x
   .have:=a7h h h3;subst this;exact h2.symm.trans k
   .exact (a3o h3 h2).symm.trans k
theorem b3T:∀g cells,CC.glob g=some cells->∀c∈cells,∃v,c=CV.val v:=λg cells h c hc=>by
 have:cells=c5v:=by
  simp only[CC]at h;split at h
  .exact (Option.some.inj h).symm
  .cases h
 subst this;obtain⟨z,_,rfl⟩:=D8.1 hc;exact⟨_,G⟩
theorem b6m{σ:List b9}{k:Nat}{l:List Ky}(aB:l≠[])(ao:l.length<=100000000)(hk:σ[k]?=some (.vec 3 (l.map Ky.cv))):b8 CC 114 [.vec k 0 l.length,.val (.func (.func 115) #[] #[])] σ λr τ=>∃_:Unit,r= .ret (.tup [])/\τ=σ.set k (.vec 3 ((a79 T4 l).map Ky.cv))/\True:=
 (b37 (C:=CC) (f:=114) (g:=115) (enc:=d4K) (s:=3) (cf:=T4) J V9 (λx v hv=>by simp[d4K]at hv;rcases hv with rfl|rfl|rfl<;>rfl)
  (λblk off cap d w h1 h2 h3 h4=>Go.Proofs.AnyQ.slices_SortFunc_total Tryz.sortKey 3 b2g t_3 d4K V9 (λx v hv=>by simp[d4K]at hv;rcases hv with rfl|rfl|rfl<;>rfl) T4 d8i 115 #[] blk off cap d w Tryz.call115 h1 h2 h3 h4 (λx y e1 e2=>by rw[a4y]at e1 e2;exact a7h e1 e2))
  (λx y=>c0q x y) b3T aB J hk).mono λr τ h=>⟨(),h.1,h.2,O⟩
end Go.Proofs.YtncmhkpnclafkaaGreatDoor
namespace Go.Proofs
open Go.Shelf
def Tryz.sortEn_ren:Go.Shelf.Ren:=⟨λ|6=>145|15=>168|14=>190|28=>216|29=>217|20=>241|21=>242|22=>243|23=>244|24=>245|25=>246|26=>247|27=>248|46=>293|47=>258|48=>259|49=>294|50=>295|57=>321|n=>n,λ|22=>80|24=>83|25=>201|3=>3|39=>221|0=>0|53=>253|55=>55|4=>4|46=>247|45=>246|50=>188|5=>5|9=>9|66=>282|70=>286|76=>312|77=>313|n=>n,λ|n=>n⟩
theorem Tryz.sortEn:Go.Proofs.SlLaysF0.n6 Tryz.prog Tryz.sortEn_ren:={
 mixed:=by kernel_rfl
 f6:=⟨Tryz.f145.name,I,Tryz.func145.trans (n_7 some w9)⟩
 f14:=⟨Tryz.f190.name,I,Tryz.func190.trans (n_7 some w9)⟩
 f15:=c6V.trans (n_7 some w9)
 f20:=⟨Tryz.f241.name,I,Tryz.func241.trans (n_7 some w9)⟩
 f21:=⟨Tryz.f242.name,I,Tryz.func242.trans (n_7 some w9)⟩
 f22:=⟨Tryz.f243.name,I,Tryz.func243.trans (n_7 some w9)⟩
 f23:=⟨Tryz.f244.name,I,Tryz.func244.trans (n_7 some w9)⟩
 f24:=⟨Tryz.f245.name,I,Tryz.func245.trans (n_7 some w9)⟩
 f25:=⟨Tryz.f246.name,I,Tryz.func246.trans (n_7 some w9)⟩
 f26:=⟨Tryz.f247.name,I,Tryz.func247.trans (n_7 some w9)⟩
 f27:=⟨Tryz.f248.name,I,Tryz.func248.trans (n_7 some w9)⟩
 f28:=c8R.trans (n_7 some w9)
 f29:=d0K.trans (n_7 some w9)
 f46:=⟨Tryz.f293.name,I,Tryz.func293.trans (n_7 some w9)⟩
 f47:=c7o.trans (n_7 some w9)
 f48:=d1c.trans (n_7 some w9)
 f49:=⟨Tryz.f294.name,I,Tryz.func294.trans (n_7 some w9)⟩
 f50:=⟨Tryz.f295.name,I,Tryz.func295.trans (n_7 some w9)⟩
 f57:=⟨Tryz.f321.name,I,Tryz.func321.trans (n_7 some w9)⟩
 t0:=d0N
 a0:=c9u
 z0:=d0B
 v0:=c9G
 t3:=c2U
 a3:=a5v
 z3:=t_1
 v3:=t_9
 t4:=c9b
 a4:=b9B
 z4:=b4V
 v4:=c3C
 t5:=d0k
 a5:=d1I
 z5:=b4z
 v5:=c42
 t9:=c95
 a9:=a2j
 z9:=t_0
 v9:=t_4
 t22:=Tryz.underlying80
 a22:=d1k
 z22:=c2w
 v22:=Tryz.zeroValue80
 t25:=Tryz.underlying201
 a25:=Tryz.isAgg201
 z25:=Tryz.sizeOf201
 v25:=Tryz.zeroValue201
 t39:=c7u
 a39:=c9C
 z39:=c6Z
 v39:=c8Q
 t45:=c9W
 a45:=d1b
 z45:=c8e
 v45:=c72
 t46:=d0g
 a46:=c7F
 z46:=c8y
 v46:=c7q
 t50:=c7z
 a50:=d0A
 z50:=c7t
 v50:=c8t
 t53:=c8l
 a53:=c7L
 z53:=d0O
 v53:=c6u
 t55:=c1E
 a55:=c3s
 z55:=c2q
 v55:=d2i
 t66:=c9x
 a66:=d2B
 z66:=c9q
 v66:=c6r
 t70:=d0r
 a70:=d2f
 z70:=c6k
 v70:=d0C
 t76:=d0V
 a76:=c7n
 z76:=c8W
 v76:=c9I
 t77:=d1z
 a77:=c98
 z77:=d0a
 v77:=c8f}
end Go.Proofs
namespace Go.Proofs.YtncmhkpnclafkaaGreatDoor
open Go Go.Cl
variable{T:List Tok}{α β γ:Type}{e2 e1 e' e3 kd:Int}{σ τ:List b9}{i q np a f0 n' n2 L j w q1 q2 n3:Nat}{Jj nm:D}{o:Option α}{c c':CV}{y:α}{F:PF}{P:α->Prop}{t:Tok}{va:Bool}{tok:Option Nat}{N:α->Nat}{A E:α->Int}{z:Int×Nat×List Ex}{S:Option PX}{b1:List Ex}{bs:List De}{R:Nat->Nat->Prop}{B:α->List Ex}
structure TWc{α:Type}(c:α->α->Int):Prop where
 eq:∀x y,c x y=0↔x=y
 anti:∀x y,c y x= -c x y
 tr:∀x y z,c x y= -1->c y z= -1->c x z= -1
 val:∀x y,c x y= -1\/c x y=0\/c x y=1
def lxC{α β:Type}(c:α->α->Int)(d:β->β->Int)(x y:α×β):Int:=if c x.1 y.1≠0 then c x.1 y.1 else d x.2 y.2
theorem TWc.lex{c:α->α->Int}{d:β->β->Int}(h:TWc c)(k:TWc d):TWc (lxC c d) where
 eq x y:=by
  unfold lxC;by_cases h0:c x.1 y.1=0
  .rw [H (by simp[h0]),k.eq];have:=(h.eq _ _).1 h0;constructor
   .intro e;exact Prod.ext this e
   .intro e;rw[e]
  .rw [W h0];exact⟨λe=>absurd e h0,λe=>absurd ((h.eq _ _).2 (by rw[e])) h0⟩
 anti x y:=by
  unfold lxC;have:=h.anti x.1 y.1;by_cases h0:c x.1 y.1=0
  .rw [H G5,H (by simp[h0])];exact k.anti _ _
  .rw [W J,W h0];exact this
 tr x y z h1 h2:=by
  unfold lxC at*;by_cases a:c x.1 y.1=0
  .rw [H (by simp[a])]at h1;rw[(h.eq _ _).1 a];by_cases b:c y.1 z.1=0
   .rw [H (by simp[b])]at h2⊢;exact k.tr _ _ _ h1 h2
   .rw [W b]at h2⊢;exact h2
  .rw [W a]at h1;by_cases b:c y.1 z.1=0
   .rw [<- (h.eq _ _).1 b,W a];exact h1
   .rw [W b]at h2;have:=h.tr _ _ _ h1 h2;rw[W J];exact this
 val x y:=by
  unfold lxC
  split
  .exact h.val _ _
  .exact k.val _ _
theorem d4h:TWc X5 where
 eq:=a3K
 anti x y:=by unfold X5;split<;>split<;>(try split)<;>(try omega)
 tr x y z h k:=by rw[c1J]at*;omega
 val x y:=by unfold X5;split<;>(try split)<;>simp
theorem d3t:TWc Go.Lib.compareBytes where
 eq:=a80
 anti:=a97
 tr _ _ _ h k:=b1x h k
 val:=b4L
theorem TWc.swo{c:α->α->Int}(h:TWc c)(f:γ->α):Go.Sort.SWO (Go.Proofs.ltOf λx y=>c (f x) (f y)):=by
 have e:∀x y:γ,(Go.Proofs.ltOf λx y=>c (f x) (f y)) x y=decide (c (f x) (f y)= -1):=λx y=>by
  unfold Go.Proofs.ltOf
  rcases h.val (f x) (f y)with h|h|h<;>simp[h]
 refine⟨λx=>?_,λx y z h1 h2=>?_,λx y z h1 h2=>?_⟩
 .rw [e,(h.eq _ _).2 G];rfl
 .rw [e]at*;simp only[a5J]at*;exact h.tr _ _ _ h1 h2
 .rw [e]at*;simp only[b0C]at*;have a1:=h.anti (f x) (f z)
  rcases h.val (f x) (f y)with b|b|b
  .exact absurd b h1
  .rw [(h.eq _ _).1 b];exact h2
  .rcases h.val (f y) (f z)with d|d|d
   .exact absurd d h2
   .rw [<- (h.eq _ _).1 d];omega
   .intro e;have b':c (f y) (f x)= -1:=by have:=h.anti (f x) (f y);omega
    exact absurd (h.tr _ _ _ b' e) J
theorem TWc.tot{c:α->α->Int}(h:TWc c)(f:γ->α){x y:γ}(h1:(Go.Proofs.ltOf λx y=>c (f x) (f y)) x y=false)(h2:(Go.Proofs.ltOf λx y=>c (f x) (f y)) y x=false):f x=f y:=by
 unfold Go.Proofs.ltOf at h1 h2;simp only[b0C]at h1 h2;have:=h.anti (f x) (f y);exact(h.eq _ _).1 J
theorem TWc.srt{c:α->α->Int}(h:TWc c)(f:γ->α)(l:List γ):(a79 (λx y=>c (f x) (f y)) l).Pairwise λx y=>c (f y) (f x)≠-1:=by
 have sw:=h.swo f;refine List.Pairwise.imp (R:=λx y=>(!(Go.Proofs.ltOf λx y=>c (f x) (f y)) y x)=true) (λ{x y} fU e=>?_) (List.pairwise_mergeSort (λx y z h1 h2=>?_) (λx y=>?_) l)
 .simp [Go.Proofs.ltOf,e]at fU
 .simp only[b69]at*;exact sw.ntrans _ _ _ h2 h1
 .cases e1:(Go.Proofs.ltOf λx y=>c (f x) (f y)) y x with
  |false=>rfl
  |true=>
   cases e2:(Go.Proofs.ltOf λx y=>c (f x) (f y)) x y with
   |false=>rfl
   |true=>
    have:=sw.trans _ _ _ e1 e2;rw[sw.irrefl]at this;cases this
abbrev Plc:=Int×D×Int×D
def plE(x:En):Plc:=(if x.k=3 then 1 else 0,if x.k=3 then []else x.p,x.k,x.o)
def a5I:Plc->Plc->Int:=lxC X5 (lxC Go.Lib.compareBytes (lxC X5 Go.Lib.compareBytes))
theorem b98:TWc a5I:=d4h.lex (d3t.lex (d4h.lex d3t))
abbrev c6l(x:En):List Value:=[.string (str x.p),.string (str x.o),.int .i64 x.k,.string (str x.pl),.int .i64 x.ix,.int .i64 x.ct]
theorem c5z{g:FuncId}(hg:∀args w,(callFunc g args).run CC.P w= .ok (.enter g args) w)(hc:∀x y:En,b8 CC g [.agg x.cells,.agg y.cells] [] λr τ=>r= .ret (iv (a5I (plE x) (plE y)))/\τ=[]){l:List En}(aB:l≠[])(ao:l.length<=100000000)(hd:∀x∈l,∀y∈l,plE x=plE y->x=y){k:Nat}(hk:σ[k]?=some (.vec 6 (l.map En.cells))):
 b8 CC 145 [.vec k 0 l.length,.val (.func (.func g) #[] #[])] σ λr τ=>∃m:List En,r= .ret (.tup [])/\τ=σ.set k (.vec 6 (m.map En.cells))/\m.Perm l/\m.Pairwise λx y=>a5I (plE y) (plE x)≠-1:=by
 haveI:Inhabited {x // x∈l}:=⟨⟨l.head aB,List.head_mem aB⟩⟩
 have hmap:∀m:List {x // x∈l},(m.map λx=>(c6l x.1).map CV.val)=(m.map Subtype.val).map En.cells:=λm=>by rw[List.map_map];rfl
 have ha:(l.attach.map Subtype.val)=l:=by simp
 have h:=b37 (C:=CC) (f:=145) (g:=g) (enc:=λx:{x // x∈l}=>c6l x.1) (s:=6) (cf:=λx y=>a5I (plE x.1) (plE y.1)) J V9 (λx v hv=>by simp[c6l]at hv;rcases hv with rfl|rfl|rfl|rfl|rfl|rfl<;>rfl)
  (λblk off cap d w h1 h2 h3 h4=>Go.Proofs.AnyQ.slices_SortFunc_total Tryz.sortEn 6 b1e t_6 (λx:{x // x∈l}=>c6l x.1) V9 (λx v hv=>by simp[c6l]at hv;rcases hv with rfl|rfl|rfl|rfl|rfl|rfl<;>rfl) _ (b98.swo λx:{x // x∈l}=>plE x.1) g #[] blk off cap d w hg h1 h2 h3 h4 (λx y e1 e2=>Subtype.ext (hd x.1 x.2 y.1 y.2 (b98.tot (λx:{x // x∈l}=>plE x.1) e1 e2))))
  (λx y=>hc x.1 y.1) b3T (l:=l.attach) (U aB) G5 (by rw[hmap,ha];exact hk)
 rw[List.length_attach]at h;refine h.mono λr τ ⟨h1,h2⟩=>⟨(a79 (λx y:{x // x∈l}=>a5I (plE x.1) (plE y.1)) l.attach).map Subtype.val,h1,by rw[h2,hmap],?_,?_⟩
 .have hp:=(List.mergeSort_perm l.attach λx y=>!(Go.Proofs.ltOf λx y:{x // x∈l}=>a5I (plE x.1) (plE y.1)) y x).map Subtype.val;rw[ha]at hp;exact hp
 .rw [b7R];exact b98.srt (λx:{x // x∈l}=>plE x.1) l.attach
theorem c1x{g:FuncId}(nn:Bool)(σ:List b9):b8 CC 145 [.list [] nn none,.val (.func (.func g) #[] #[])] σ λr τ=>r= .ret (.tup [])/\τ=σ:=λM w vs hr hn hx=>by
 have hs:vs.size=2:=hn;obtain⟨v,v2,rfl⟩:∃v v2,vs= #[v,v2]:=⟨vs[0]'J,vs[1]'J,Array.ext (by simp[hs]) λi h1 h2=>by
  have:i=0\/i=1:=by omega
  rcases this with rfl|rfl<;>simp⟩
 have h0:RV M w (.list [] nn none) v:=hx 0 _ G;cases h0 with
 |list vals g1 g2 g3 g4 g5 g6 g7 g8 g9 g10=>
  refine(Go.Proofs.AnyF.slices_SortFunc_none Tryz.sortEn _ _ v2 w).mono λe w' ⟨he,hw⟩=>?_;subst he hw;exact⟨_,_,M,Ext.refl M w',hr,.tup G (λi c h=>by simp at h),G,G⟩
theorem c6f(a:En):N8 a.cells:=⟨.val _,.val _,.val _,.val _,.val _,.val _,O⟩
theorem a1a(a:Ky):N8 (Ky.cv a):=⟨.val _,.val _,.val _,O⟩
theorem b1r(l:List En)(nn:Bool):o8 (.list (l.map En.cells) nn none):=I6 (f:=En.cells) c6f l nn
def d8j(f:Fi):Ky:=⟨4,f.p,[]⟩
def d9v(e:En):Ky:=if e.k=1 then⟨1,e.p,e.o⟩else if e.k=2 then⟨2,e.p,e.o⟩else⟨3,e.o,[]⟩
def e22(s:D):List Ky:=[⟨6,s,[]⟩,⟨7,s,[]⟩]
def e20(x:Src):List Ky:=(x.pkg::x.imports).flatMap e22
def KU(fl:List Fi):List Ky:=fl.map d8j++((w8 fl).2.2.map Prod.snd).map d9v++((w8 fl).2.1.map Prod.snd).flatMap e20
theorem c8A{l:List α}{s:α}(h:l[j]?=some s)(g:α->β):(l.take (j+1)).map g=(l.take j).map g++[g s]:=by
 rw[a3a,h,a8o];rfl
inductive Tr where
 |n (k Jj o:Int) (nm:D) (ch:List Tr)
mutual
def Tr.size:Tr->Nat
 | .n _ _ _ _ ch=>Q2 ch+1
def Q2:List Tr->Nat
 | []=>0
 |t::l=>t.size+Q2 l
end
def J1:List Tr->Nat->List Int
 | [],_=>[]
 |t::l,s=>((s+t.size -1:Nat):Int)::J1 l (s+t.size)
mutual
def Tr.flat:Tr->Nat->List Ex
 | .n k Jj o nm ch,s=>P6 ch s++[⟨k,Jj,o,nm,J1 ch s⟩]
def P6:List Tr->Nat->List Ex
 | [],_=>[]
 |t::l,s=>t.flat s++P6 l (s+t.size)
end
structure a6g(np:Nat)(k Jj o:Int)(nm:D)(c:Nat):Prop where
 kind:1<=k/\k<=10
 num:k≠1->k≠2->k≠10->Jj=0
 op:k≠4->o=0
 name:k=1\/k=2\/k=4\/k=5\/k=10->nm=[]
 cnt:c=if k=4 then 2 else if k=5 then 3 else if k=6 then 1 else if k=3 then c else 0
 k1:k=1->-9007199254740992<=Jj/\Jj<=9007199254740992
 k2:k=2->0<=Jj/\Jj<np
 k3:k=3->C0 nm=true/\T0 nm=false
 k4:k=4->1<=o/\o<=7
 k678:k=6\/k=7\/k=8->F6 nm=true
 k9:k=9->C0 nm=true
 k10:k=10->0<=Jj/\Jj<64
mutual
def Tr.wf(np:Nat):Nat->Tr->Prop
 |d,.n k Jj o nm ch=>d<=32/\a6g np k Jj o nm ch.length/\wfL np (if k=4 then d else d+1) ch
def wfL(np:Nat):Nat->List Tr->Prop
 |_,[]=>True
 |d,t::l=>t.wf np d/\wfL np d l
end
theorem Tr.size_pos(t:Tr):1<=t.size:=by cases t;rw[Tr.size];omega
mutual
theorem Tr.flat_len:∀(t:Tr) (s:Nat),(t.flat s).length=t.size
 | .n k Jj o nm ch,s=>by rw[Tr.flat,Tr.size,n_9,a1O ch s];rfl
theorem a1O:∀(l:List Tr) (s:Nat),(P6 l s).length=Q2 l
 | [],_=>rfl
 |t::l,s=>by rw[P6,Q2,n_9,Tr.flat_len t s,a1O l _]
end
theorem b04:∀(l:List Tr) (t:Tr) (s:Nat),P6 (l++[t]) s=P6 l s++t.flat (s+Q2 l)
 | [],t,s=>by simp[P6,Q2]
 |x::l,t,s=>by rw[b19,P6,P6,b04 l t,Q2,T5,b2b]
theorem a8P:∀(l:List Tr) (t:Tr) (s:Nat),J1 (l++[t]) s=J1 l s++[((s+Q2 l+t.size -1:Nat):Int)]
 | [],t,s=>by simp[J1,Q2]
 |x::l,t,s=>by rw[b19,J1,J1,a8P l t,Q2,b19,b2b s]
theorem b7o{np d:Nat}:∀{l:List Tr} {t:Tr},wfL np d l->t.wf np d->wfL np d (l++[t])
 | [],t,_,h=>by simp only[b2j,wfL];exact⟨h,O⟩
 |x::l,t,h,h2=>by
  rw[wfL]at h;rw[b19,wfL];exact⟨h.1,b7o h.2 h2⟩
mutual
theorem Tr.wf_mono{np:Nat}:∀(t:Tr) {d e:Nat},e<=d->t.wf np d->t.wf np e
 | .n k Jj o nm ch,d,e,he,h=>by
  rw[Tr.wf]at h⊢;refine⟨J,h.2.1,b63 ch (d:=if k=4 then d else d+1) ?_ h.2.2⟩
  split<;>omega
theorem b63{np:Nat}:∀(l:List Tr) {d e:Nat},e<=d->wfL np d l->wfL np e l
 | [],_,_,_,_=>by rw[wfL];trivial
 |t::l,d,e,he,h=>by
  rw[wfL]at h⊢;exact⟨Tr.wf_mono t he h.1,b63 l he h.2⟩
end
def Got(np d:Nat)(b:List Ex)(x:PX):Prop:=∃t:Tr,x.2.2=b++t.flat b.length/\x.1+1=x.2.2.length/\t.wf np d
theorem a4Q{d:Nat}{b:List Ex}{ch:List Tr}{k Jj o:Int}{args:List Int}{b2:List Ex}(h1:b1=b++P6 ch b.length)(h2:args=J1 ch b.length)(h3:W0 b1 ⟨k,Jj,o,nm,args⟩=some (i,b2))(hd:d<=32)(hn:a6g np k Jj o nm ch.length)(hw:wfL np (if k=4 then d else d+1) ch)(m:Nat):Got np d b (i,m,b2):=by
 unfold W0 at h3;split at h3
 .cases h3
 .injection h3 with h3
  injection h3 with h3 h4
  subst h1 h2 h3 h4;refine⟨.n k Jj o nm ch,by rw[Tr.flat,T5],by simp;omega,?_⟩;rw[Tr.wf];exact⟨hd,hn,hw⟩
def TG(T:List Tok):Prop:=∀i,((tk T i).k=1->C0 (tk T i).t=true)/\0<=(tk T i).n/\(tk T i).n<=9007199254740992
theorem d5o{lv:Int}(h:¬opS t lv=0):1<=opS t lv/\opS t lv<=7:=by
 unfold opS at h⊢;cases hf:S0.find? (opM t lv)with
 |none=>rw[hf]at h;exact absurd G h
 |some y=>
  have h2:=b8b hf;simp only[b8V,b8K];revert h2;revert y;intro y _ hy;have:∀y∈S0,1<=y.1/\y.1<=7:=by decide
  exact this y hy
theorem a3g{b:List Ex}{x:Ex}{m:Nat}{y:PX}(h:K4 b x m=some y):W0 b x=some (y.1,y.2.2)/\y.2.1=m:=by
 unfold K4 at h;cases hp:W0 b x with
 |none=>rw[hp]at h;cases h
 |some w=>
  rw[hp,n_8]at h;injection h with h
  subst h;exact⟨G,G⟩
theorem a2g{d:Nat}{b:List Ex}{k Jj o:Int}{m:Nat}{y:PX}(h:K4 b ⟨k,Jj,o,nm,[]⟩ m=some y)(hd:d<=32)(hn:a6g np k Jj o nm 0):Got np d b y:=by
 obtain⟨h1,h2⟩:=a3g h;have:=a4Q (np:=np) (d:=d) (b:=b) (ch:=[]) (args:=[]) (by rw[P6,a0h]) G h1 hd hn (by rw[wfL];trivial) y.2.1;exact this
theorem d3E{d e:Nat}{b:List Ex}{x:PX}{k Jj o:Int}{m:Nat}{y:PX}(hx:Got np e b x)(h:K4 x.2.2 ⟨k,Jj,o,nm,[(x.1:Int)]⟩ m=some y)(hd:d<=32)(hn:a6g np k Jj o nm 1)(he:e=if k=4 then d else d+1):Got np d b y:=by
 obtain⟨t,t1,t2,t3⟩:=hx;obtain⟨h1,h2⟩:=a3g h;have hl:=t.flat_len b.length;rw[t1,n_9,hl]at t2;have:=a4Q (np:=np) (d:=d) (b:=b) (ch:=[t]) (args:=[(x.1:Int)]) (by rw[t1,P6,P6,a0h]) (by rw[J1,J1];congr 1;omega) h1 hd hn (by rw[wfL,wfL,<- he];exact⟨t3,O⟩) y.2.1;exact this
theorem c8{f:α->Option β}{y:β}(h:o.bind f=some y):∃x,o=some x/\f x=some y:=by
 cases o with
 |none=>cases h
 |some x=>exact⟨x,G,h⟩
theorem a7j{n:Nat}{x:Tok×Nat}(h:a0E T n=some x):F6 x.1.t=true:=by
 obtain⟨y,_,h2⟩:=c8 h;split at h2
 .rename_i hp;injection h2 with h2
  subst h2;exact hp
 .cases h2
theorem a6i{n:Nat}{k:Int}{x:Tok×Nat}(h:E8 T n k=some x):x.1=tk T n/\(tk T n).k=k:=by
 unfold E8 at h;split at h
 .rename_i hk;injection h with h
  subst h;exact⟨G,hk⟩
 .cases h
theorem c5V(hF:∀d n b x,F.ex d n b=some x->Got np d b x)(hT:TG T){d n:Nat}{b:List Ex}{y:PX}(hd:d<=32)(h:W8 T F Jj d n b=some y):Got np d b y:=by
 unfold W8 at h;obtain⟨n1,_,h⟩:=c8 h;split at h
 .obtain ⟨s,h1,h⟩:=c8 h;obtain⟨n2,_,h⟩:=c8 h;obtain⟨x,h3,h⟩:=c8 h;obtain⟨m,_,h⟩:=c8 h;exact d3E (hF _ _ _ _ h3) h hd ⟨I,λ_ _ _=>G,λ_=>G,λh=>absurd h I,G,λh=>absurd h I,λh=>absurd h I,λh=>absurd h I,λh=>absurd h I,λ_=>a7j h1,λh=>absurd h I,λh=>absurd h I⟩ G
 .split at h
  .obtain ⟨s,h1,h⟩:=c8 h;obtain⟨m,_,h⟩:=c8 h;exact a2g h hd ⟨I,λ_ _ _=>G,λ_=>G,λh=>absurd h I,G,λh=>absurd h I,λh=>absurd h I,λh=>absurd h I,λh=>absurd h I,λ_=>a7j h1,λh=>absurd h I,λh=>absurd h I⟩
  .split at h
   .obtain ⟨s,h1,h⟩:=c8 h;obtain⟨m,_,h⟩:=c8 h;exact a2g h hd ⟨I,λ_ _ _=>G,λ_=>G,λh=>absurd h I,G,λh=>absurd h I,λh=>absurd h I,λh=>absurd h I,λh=>absurd h I,λ_=>a7j h1,λh=>absurd h I,λh=>absurd h I⟩
   .split at h
    .obtain ⟨s,h1,h⟩:=c8 h;split at h
     .rename_i dS;obtain⟨m,_,h⟩:=c8 h;exact a2g h hd ⟨I,λ_ _ _=>G,λ_=>G,λh=>absurd h I,G,λh=>absurd h I,λh=>absurd h I,λh=>absurd h I,λh=>absurd h I,λh=>absurd h I,λ_=>dS,λh=>absurd h I⟩
     .cases h
    .obtain ⟨s,h1,h⟩:=c8 h;split at h
     .cases h
     .rename_i ai;obtain⟨m,_,h⟩:=c8 h;have hk:=a6i h1;have hg:=(hT n1).2;rw[<- hk.1]at hg;exact a2g h hd ⟨I,λ_ _ h=>absurd G h,λ_=>G,λ_=>G,G,λh=>absurd h I,λh=>absurd h I,λh=>absurd h I,λh=>absurd h I,λh=>absurd h I,λh=>absurd h I,λ_=>⟨hg.1,J⟩⟩
theorem c2p{T:List Tok}{ps:List D}(hT:TG T):∀f:Nat,
 (∀d n b x,(z6 T ps f).ex d n b=some x->Got ps.length d b x) /\
 (∀lv d n b x,d<=32->(z6 T ps f).bin lv d n b=some x->Got ps.length d b x) /\
 (∀lv d n b x,d<=32->(z6 T ps f).fac d n b=some x->lv=0->Got ps.length d b x) /\
 (∀lv d n b0 b (tx:Tr) (i:Nat) x,d<=32->b=b0++tx.flat b0.length->i+1=b.length->tx.wf ps.length d->(z6 T ps f).lp lv d i n b=some x->Got ps.length d b0 x) /\
 (∀d n b0 b (ch:List Tr) acc y,d<=32->b=b0++P6 ch b0.length->acc=J1 ch b0.length->wfL ps.length (d+1) ch->(z6 T ps f).ag d n b acc=some y->∃ch',y.2.2=b0++P6 ch' b0.length/\y.1=J1 ch' b0.length/\wfL ps.length (d+1) ch')
 |0=>by
  refine⟨λd n b x h=>?_,λlv d n b x _ h=>?_,λlv d n b x _ h=>?_,λlv d n b0 b tx i x _ _ _ _ h=>?_,λd n b0 b ch acc y _ _ _ _ h=>?_⟩<;>cases h
 |f+1=>by
  obtain⟨hE,hB,hF,hL,hA⟩:=c2p hT f;refine⟨λd n b x h=>?_,λlv d n b x hd h=>?_,λlv d n b y hd h _=>?_,λlv d n b0 b tx i x hd hb hi hw h=>?_,λd n b0 b ch acc y hd hb ha hw h=>?_⟩
  .change (F3 T ps (z6 T ps f)).ex d n b=some x at h;simp only[F3]at h;split at h
   .cases h
   .rename_i hd;split at h
    .obtain ⟨x1,h1,h⟩:=c8 h;obtain⟨n2,_,h⟩:=c8 h;obtain⟨x2,h2,h⟩:=c8 h;obtain⟨n3,_,h⟩:=c8 h;obtain⟨x3,h3,h⟩:=c8 h;obtain⟨t1,a1,a2,a3⟩:=hE _ _ _ _ h1;obtain⟨t2,b1,b2,b3⟩:=hE _ _ _ _ h2;obtain⟨t3,c1,c2,c3⟩:=hE _ _ _ _ h3;have l1:=t1.flat_len b.length;have e1:x1.2.2.length=b.length+t1.size:=by rw[a1,n_9,l1]
     have e2:x2.2.2.length=b.length+t1.size+t2.size:=by rw[b1,n_9,t2.flat_len,e1]
     have e3:x3.2.2.length=b.length+t1.size+t2.size+t3.size:=by rw[c1,n_9,t3.flat_len,e2]
     obtain⟨g1,g2⟩:=a3g h;have:=a4Q (np:=ps.length) (d:=d) (b:=b) (ch:=[t1,t2,t3]) (args:=[(x1.1:Int),(x2.1:Int),(x3.1:Int)]) (by rw[c1,b1,a1];simp only[P6,a0h,T5,n_9,Tr.flat_len,b2b]) (by simp only[J1];congr 1;omega;congr 1;omega;congr 1;omega) g1 J ⟨I,λ_ _ _=>G,λ_=>G,λ_=>G,G,λh=>absurd h I,λh=>absurd h I,λh=>absurd h I,λh=>absurd h I,λh=>absurd h I,λh=>absurd h I,λh=>absurd h I⟩ (by simp only[wfL];exact⟨a3,b3,c3,O⟩) x.2.1;exact this
    .exact hB 1 d n b x J h
  .change (F3 T ps (z6 T ps f)).bin lv d n b=some x at h;simp only[F3]at h;split at h
   .exact hF 0 d n b x hd h G
   .obtain ⟨x1,h1,h⟩:=c8 h;obtain⟨t,a1,a2,a3⟩:=hB _ _ _ _ _ hd h1;exact hL lv d x1.2.1 b x1.2.2 t x1.1 x hd a1 a2 a3 h
  .change (F3 T ps (z6 T ps f)).fac d n b=some y at h;simp only[F3]at h;have hg:=hT n;split at h
   .exact a2g h hd ⟨I,λh=>absurd G h,λ_=>G,λ_=>G,G,λ_=>⟨J,hg.2.2⟩,λh=>absurd h I,λh=>absurd h I,λh=>absurd h I,λh=>absurd h I,λh=>absurd h I,λh=>absurd h I⟩
   .split at h
    .obtain ⟨s,h1,h⟩:=c8 h;have hk:=a6i h1;have hg:=(hT (n+1)).2;rw[<- hk.1]at hg;exact a2g h hd ⟨I,λh=>absurd G h,λ_=>G,λ_=>G,G,λ_=>⟨J,J⟩,λh=>absurd h I,λh=>absurd h I,λh=>absurd h I,λh=>absurd h I,λh=>absurd h I,λh=>absurd h I⟩
    .split at h
     .obtain ⟨x1,h1,h⟩:=c8 h;obtain⟨m,_,h⟩:=c8 h;injection h with h
      subst h;obtain⟨t,a1,a2,a3⟩:=hE _ _ _ _ h1;exact⟨t,a1,a2,t.wf_mono (Nat.le_succ d) a3⟩
     .split at h
      .cases h
      .rename_i bn;split at h
       .exact c5V hE hT hd h
       .split at h
        .cases h
        .rename_i aX;split at h
         .obtain ⟨a,h1,h⟩:=c8 h;unfold a2x at h1;obtain⟨n1,_,h1⟩:=c8 h1;have gu:∃ch',a.2.2=b++P6 ch' b.length/\a.1=J1 ch' b.length/\wfL ps.length (d+1) ch':=by
           split at h1
           .injection h1 with h1
            subst h1;exact⟨[],by simp[P6],G,by rw[wfL];trivial⟩
           .exact hA d n1 b b [] [] a hd (by simp[P6]) G (by rw[wfL];trivial) h1
          obtain⟨ch,c1,c2,c3⟩:=gu;obtain⟨g1,g2⟩:=a3g h;have dS:C0 (tk T n).t=true:=hg.1 (U bn);have:=a4Q (np:=ps.length) (d:=d) (b:=b) (ch:=ch) c1 c2 g1 hd ⟨I,λ_ _ _=>G,λ_=>G,λh=>absurd h I,G,λh=>absurd h I,λh=>absurd h I,λ_=>⟨dS,U aX⟩,λh=>absurd h I,λh=>absurd h I,λh=>absurd h I,λh=>absurd h I⟩ c3 y.2.1;exact this
         .split at h
          .cases h
          .rename_i fc;refine a2g h hd ⟨I,λ_ h=>absurd G h,λ_=>G,λ_=>G,G,λh=>absurd h I,λ_=>⟨J,?_⟩,λh=>absurd h I,λh=>absurd h I,λh=>absurd h I,λh=>absurd h I,λh=>absurd h I⟩
           rcases a7Z (tk T n).t ps 0 with⟨_,g⟩|⟨_,_,g⟩
           .omega
           .simpa using g
  .change (F3 T ps (z6 T ps f)).lp lv d i n b=some x at h;simp only[F3]at h;split at h
   .injection h with h
    subst h;exact⟨tx,hb,hi,hw⟩
   .rename_i bj;obtain⟨y,h1,h⟩:=c8 h;obtain⟨w,h2,h⟩:=c8 h;obtain⟨ty,a1,a2,a3⟩:=hB _ _ _ _ _ hd h1;have e0:b.length=b0.length+tx.size:=by rw[hb,n_9,tx.flat_len]
    have e1:y.2.2.length=b0.length+tx.size+ty.size:=by rw[a1,n_9,ty.flat_len,e0]
    have hnode:Got ps.length d b0 (w.1,y.2.1,w.2):=a4Q (np:=ps.length) (d:=d) (b:=b0) (ch:=[tx,ty]) (args:=[(i:Int),(y.1:Int)]) (by rw[a1,hb];simp only[P6,a0h,T5,n_9,Tr.flat_len]) (by simp only[J1];congr 1;omega;congr 1;omega) h2 hd ⟨I,λ_ _ _=>G,λh=>absurd G h,λ_=>G,G,λh=>absurd h I,λh=>absurd h I,λh=>absurd h I,λ_=>d5o bj,λh=>absurd h I,λh=>absurd h I,λh=>absurd h I⟩ (by simp only[wfL];exact⟨hw,a3,O⟩) y.2.1;split at h
    .injection h with h
     subst h;exact hnode
    .obtain ⟨t,c1,c2,c3⟩:=hnode;exact hL lv d y.2.1 b0 w.2 t w.1 x hd c1 c2 c3 h
  .change (F3 T ps (z6 T ps f)).ag d n b acc=some y at h;simp only[F3]at h;obtain⟨x1,h1,h⟩:=c8 h;obtain⟨t,a1,a2,a3⟩:=hE _ _ _ _ h1;have e0:b.length=b0.length+Q2 ch:=by rw[hb,n_9,a1O]
   have e1:x1.2.2.length=b0.length+Q2 ch+t.size:=by rw[a1,n_9,t.flat_len,e0]
   have c1:x1.2.2=b0++P6 (ch++[t]) b0.length:=by rw[a1,hb,b04,T5];simp only[n_9,a1O]
   have c2:acc++[(x1.1:Int)]=J1 (ch++[t]) b0.length:=by rw[ha,a8P];congr 2;omega
   have c3:=b7o hw a3;split at h
   .exact hA d _ b0 _ (ch++[t]) _ y hd c1 c2 c3 h
   .obtain ⟨m,_,h⟩:=c8 h;injection h with h
    subst h;exact⟨ch++[t],c1,c2,c3⟩
mutual
def Tr.sts:Tr->Nat->List Nat
 | .n _ _ _ _ ch,s=>b2y ch s++[s]
def b2y:List Tr->Nat->List Nat
 | [],_=>[]
 |t::l,s=>t.sts s++b2y l (s+t.size)
end
mutual
theorem Tr.sts_len:∀(t:Tr) (s:Nat),(t.sts s).length=t.size
 | .n k Jj o nm ch,s=>by rw[Tr.sts,Tr.size,n_9,a2Z ch s];rfl
theorem a2Z:∀(l:List Tr) (s:Nat),(b2y l s).length=Q2 l
 | [],_=>rfl
 |t::l,s=>by rw[b2y,Q2,n_9,Tr.sts_len t s,a2Z l _]
end
theorem a6D:∀(l:List Tr) (s:Nat),(J1 l s).length=l.length
 | [],_=>rfl
 |t::l,s=>by rw[J1,J5,J5,a6D l]
theorem Tr.sts_last(t:Tr)(s:Nat):(t.sts s)[t.size -1]?=some s:=by
 cases t with
 |n k Jj o nm ch=>
  rw[Tr.sts,Tr.size,Nat.add_sub_cancel,a5O (by rw[a2Z];exact n_6 _),a2Z];simp
def ChS(S:List Nat):List Tr->Nat->Prop
 | [],_=>True
 |c::l,s=>S[s+c.size -1]?=some s/\ChS S l (s+c.size)
structure d9r(E:List Ex)(S:List Nat)(np j:Nat)(x:Ex)(z:Nat)(ch:List Tr):Prop where
 e:E[j]?=some x
 s:S[j]?=some z
 args:x.args=J1 ch z
 size:z+Q2 ch=j
 chs:ChS S ch z
 ok:a6g np x.k x.num x.op x.name x.args.length
theorem c2j:∀(l:List Tr) (s:Nat) (S0 S1:List Nat),S0.length=s->ChS (S0++b2y l s++S1) l s
 | [],_,_,_,_=>trivial
 |t::l,s,S0,S1,h=>by
  have hp:=t.size_pos;refine⟨?_,?_⟩
  .rw [b2y,T5,T5,a5O J,h,show s+t.size -1-s=t.size -1 by omega,T6 (by rw[t.sts_len];omega)];exact t.sts_last s
  .have:=c2j l (s+t.size) (S0++t.sts s) S1 (by rw[n_9,t.sts_len,h]);rw[b2y,<- T5 S0];exact this
mutual
theorem d0b{np:Nat}:∀(t:Tr) {d:Nat} (s:Nat) (E0 E1:List Ex) (S0 S1:List Nat),E0.length=s->S0.length=s->t.wf np d->∀j,s<=j->j<s+t.size->∃x z ch,d9r (E0++t.flat s++E1) (S0++t.sts s++S1) np j x z ch
 | .n k Jj o nm ch,d,s,E0,E1,S0,S1,hE,hS,hw,j,h1,h2=>by
  rw[Tr.wf]at hw;rw[Tr.size]at h2;rw[Tr.flat,Tr.sts];by_cases hj:j<s+Q2 ch
  .have:=c11 ch s E0 (⟨k,Jj,o,nm,J1 ch s⟩::E1) S0 (s::S1) hE hS hw.2.2 j h1 hj;simpa[T5]using this
  .have hj:j=s+Q2 ch:=by omega
   refine⟨⟨k,Jj,o,nm,J1 ch s⟩,s,ch,?_,?_,G,J,?_,by rw[a6D];exact hw.2.1⟩
   .rw [<- T5,T5,a5O (by rw[n_9,a1O];omega),n_9,a1O,hE,hj,Nat.sub_self];rfl
   .rw [<- T5,T5,a5O (by rw[n_9,a2Z];omega),n_9,a2Z,hS,hj,Nat.sub_self];rfl
   .have:=c2j ch s S0 (s::S1) hS;simpa[T5]using this
theorem c11{np:Nat}:∀(l:List Tr) {d:Nat} (s:Nat) (E0 E1:List Ex) (S0 S1:List Nat),E0.length=s->S0.length=s->wfL np d l->∀j,s<=j->j<s+Q2 l->∃x z ch,d9r (E0++P6 l s++E1) (S0++b2y l s++S1) np j x z ch
 | [],_,s,_,_,_,_,_,_,_,j,h1,h2=>by rw[Q2]at h2;omega
 |t::l,d,s,E0,E1,S0,S1,hE,hS,hw,j,h1,h2=>by
  rw[wfL]at hw;rw[Q2]at h2;rw[P6,b2y];by_cases hj:j<s+t.size
  .have:=d0b t s E0 (P6 l (s+t.size)++E1) S0 (b2y l (s+t.size)++S1) hE hS hw.1 j h1 hj;simpa[T5]using this
  .have:=c11 l (s+t.size) (E0++t.flat s) E1 (S0++t.sts s) S1 (by rw[n_9,t.flat_len,hE]) (by rw[n_9,t.sts_len,hS]) hw.2 j J J;simpa[T5]using this
end
theorem c3y{d:Nat}{t:Tr}(hw:t.wf np d)(h:j<t.size):∃x z ch,d9r (t.flat 0) (t.sts 0) np j x z ch:=by
 have:=d0b t 0 [] [] [] [] G G hw j (n_4 _) J;simpa using this
structure DeG(d:De):Prop where
 kind:d.k=1\/d.k=2\/d.k=3
 name:d.k≠3->C0 d.name=true/\T0 d.name=false
 path:d.k=3->F6 d.name=true
 pars:d.k≠1->d.params=[]
 par:∀s∈d.params,C0 s=true/\T0 s=false
 parl:d.params.length<=8
 nod:d.params.Nodup
 tree:∃t:Tr,d.body=t.flat 0/\t.wf d.params.length 1
 blen:d.body.length<=256
theorem a5r{s:D}(h:C0 s=true):s.length<=24:=by
 unfold C0 at h;cases s with
 |nil=>cases h
 |cons b s=>
  simp only[R9,a5J]at h;exact h.1.1
theorem a1I{s:D}(h:F6 s=true):s.length<=80:=by
 unfold F6 at h;simp only[R9,a5J]at h;exact h.1.1
structure a1b(x:Src):Prop where
 pkg:C0 x.pkg=true/\T0 x.pkg=false
 imp:∀s∈x.imports,C0 s=true/\T0 s=false
 impl:x.imports.length<=8
 impn:x.imports.Nodup
 impp:x.pkg∉x.imports
 dec:∀d∈x.decls,DeG d
 decl:x.decls.length<=64
 decn:(x.decls.map λd=>(d.k,d.name)).Nodup
structure Sn where
 k:Int
 s:D
deriving DecidableEq
variable{s:D}{k:Int}
abbrev Sn.cells(x:Sn):List CV:=[iv x.k,sv x.s]
theorem d5X(x y:Sn):∀w,(Op.equal 318 (.agg [.int .i64 x.k,.string (str x.s)].toArray) (.agg [.int .i64 y.k,.string (str y.s)].toArray)).run CC.P w= .ok (decide (x=y)) w:=λw=>by
 show(Op.equal _ _ _).run Tryz.prog w=_;simp[Op.equal,Op.maxDepth,go_sem,O4];obtain⟨a,b⟩:=x;obtain⟨a',b'⟩:=y;by_cases h1:a=a'<;>by_cases h2:b=b'<;>simp[h1,h2]
theorem b73(s:D)(a:Nat)(ks:List Int):sub s a (A3 s a ks)=(s.drop a).takeWhile (inK ks):=by
 unfold sub A3;rw[List.drop_take,d1w];have h:=List.takeWhile_prefix (inK ks) (l:=s.drop a);exact(List.prefix_iff_eq_take.1 h).symm
theorem c5P{b:UInt8}(hb:s[a]?=some b)(hk:j7 b.toNat=1)(hl:¬24<A3 s a [1,2,3] -a):C0 (sub s a (A3 s a [1,2,3]))=true:=by
 have ao:(sub s a (A3 s a [1,2,3])).length=A3 s a [1,2,3] -a:=by
  rw[b73];unfold A3;omega
 rw[b73]at ao⊢;obtain⟨ai,rfl⟩:=n_2.1 hb;have bx:((s.drop a).takeWhile (inK [1,2,3])).all (inK [1,2,3])=true:=a6h.2 λc hc=>a13 hc;rw[a0v ai,b8q,W (by simp[inK,hk])]at ao bx⊢;unfold C0;simp only[R9,a5J];exact⟨⟨J,hk⟩,bx⟩
theorem d4O{b:UInt8}(hb:s[a]?=some b):((C8 s a b).1.k=1->C0 (C8 s a b).1.t=true)/\(C8 s a b).1.n<=9007199254740992:=by
 have z:((⟨0,[],0,0⟩:Tok).k=1->C0 (⟨0,[],0,0⟩:Tok).t=true)/\(⟨0,[],0,0⟩:Tok).n<=9007199254740992:=⟨λh=>absurd h I,I⟩;unfold C8
 split
 .rename_i hk
  split
  .exact z
  .rename_i hl;exact⟨λ_=>c5P hb hk hl,show(0:Int)<=9007199254740992 by decide⟩
 .split
  .split
   .exact z
   .rename_i hl;exact⟨λh=>absurd h (show ¬(2:Int)=1 by decide),show a4d _<=9007199254740992 by omega⟩
  .split
   .split
    .exact z
    .exact ⟨λh=>absurd h (show ¬(3:Int)=1 by decide),show(0:Int)<=9007199254740992 by decide⟩
   .split
    .split
     .exact ⟨λh=>absurd h (show ¬(4:Int)=1 by decide),show(0:Int)<=9007199254740992 by decide⟩
     .exact ⟨λh=>absurd h (show ¬(4:Int)=1 by decide),show(0:Int)<=9007199254740992 by decide⟩
    .exact z
theorem b4n(s:D):∀(f i:Nat) (T:List Tok),a0y f s i=some T->∀t∈T,(t.k=1->C0 t.t=true)/\t.n<=9007199254740992
 |0,i,T,h=>by cases h
 |f+1,i,T,h=>by
  rw[a0y]at h;cases hb:s[A3 s i [5]]? with
  |none=>
   rw[hb]at h;injection h with h
   subst h;intro t ht;simp at ht;subst ht;exact⟨λh=>absurd h (show ¬(5:Int)=1 by decide),show(0:Int)<=9007199254740992 by decide⟩
  |some b=>
   rw[hb]at h;simp only at h;split at h
   .exact b4n s f _ T h
   .split at h
    .cases h
    .cases hq:a0y f s (C8 s (A3 s i [5]) b).2.1.toNat with
     |none=>rw[hq]at h;cases h
     |some T'=>
      rw[hq]at h;simp only[b8V,Option.some.injEq]at h;subst h;intro t ht
      rcases I0.1 ht with rfl|ht
      .exact d4O hb
      .exact b4n s f _ T' hq t ht
theorem d5j(h:a3i s=some T):TG T:=λi=>by
 have hc:=(b0R h).1.nn i;unfold a3i at h;split at h
 .cases h
 .rcases c0u (T:=T) i with h1|h1
  .have:=b4n s _ _ T h _ h1;exact⟨this.1,hc.1,this.2⟩
  .rw [h1];exact⟨λh=>absurd h I,I,I⟩
theorem b3q{b:List Ex}{x:Ex}{w:Nat×List Ex}(h:W0 b x=some w)(hb:b.length<=256):w.2.length<=256:=by
 unfold W0 at h;split at h
 .cases h
 .injection h with h
  subst h;simp only[n_9,c3L];omega
theorem X1{b:List Ex}{x:Ex}{m:Nat}{y:PX}(h:K4 b x m=some y)(hb:b.length<=256):y.2.2.length<=256:=b3q (w:=(y.1,y.2.2)) (a3g h).1 hb
theorem c53(hF:∀d n b x,b.length<=256->F.ex d n b=some x->x.2.2.length<=256){d n:Nat}{b:List Ex}{y:PX}(hb:b.length<=256)(h:W8 T F Jj d n b=some y):y.2.2.length<=256:=by
 unfold W8 at h;obtain⟨n1,_,h⟩:=c8 h;split at h
 .obtain ⟨s,h1,h⟩:=c8 h;obtain⟨n2,_,h⟩:=c8 h;obtain⟨x,h3,h⟩:=c8 h;obtain⟨m,_,h⟩:=c8 h;exact X1 h (hF _ _ _ _ hb h3)
 .split at h
  .obtain ⟨s,h1,h⟩:=c8 h;obtain⟨m,_,h⟩:=c8 h;exact X1 h hb
  .split at h
   .obtain ⟨s,h1,h⟩:=c8 h;obtain⟨m,_,h⟩:=c8 h;exact X1 h hb
   .split at h
    .obtain ⟨s,h1,h⟩:=c8 h;split at h
     .obtain ⟨m,_,h⟩:=c8 h;exact X1 h hb
     .cases h
    .obtain ⟨s,h1,h⟩:=c8 h;split at h
     .cases h
     .obtain ⟨m,_,h⟩:=c8 h;exact X1 h hb
theorem c23{T:List Tok}{ps:List D}:∀f:Nat,
 (∀d n b x,b.length<=256->(z6 T ps f).ex d n b=some x->x.2.2.length<=256) /\
 (∀lv d n b x,b.length<=256->(z6 T ps f).bin lv d n b=some x->x.2.2.length<=256) /\
 (∀d n b x,b.length<=256->(z6 T ps f).fac d n b=some x->x.2.2.length<=256) /\
 (∀lv d i n b x,b.length<=256->(z6 T ps f).lp lv d i n b=some x->x.2.2.length<=256) /\
 (∀d n b acc y,b.length<=256->(z6 T ps f).ag d n b acc=some y->y.2.2.length<=256)
 |0=>by
  refine⟨λd n b x _ h=>?_,λlv d n b x _ h=>?_,λd n b x _ h=>?_,λlv d i n b x _ h=>?_,λd n b acc y _ h=>?_⟩<;>cases h
 |f+1=>by
  obtain⟨hE,hB,hF,hL,hA⟩:=c23 (T:=T) (ps:=ps) f;refine⟨λd n b x hb h=>?_,λlv d n b x hb h=>?_,λd n b y hb h=>?_,λlv d i n b x hb h=>?_,λd n b acc y hb h=>?_⟩
  .change (F3 T ps (z6 T ps f)).ex d n b=some x at h;simp only[F3]at h;split at h
   .cases h
   .split at h
    .obtain ⟨x1,h1,h⟩:=c8 h;obtain⟨n2,_,h⟩:=c8 h;obtain⟨x2,h2,h⟩:=c8 h;obtain⟨n3,_,h⟩:=c8 h;obtain⟨x3,h3,h⟩:=c8 h;exact X1 h (hE _ _ _ _ (hE _ _ _ _ (hE _ _ _ _ hb h1) h2) h3)
    .exact hB _ _ _ _ _ hb h
  .change (F3 T ps (z6 T ps f)).bin lv d n b=some x at h;simp only[F3]at h;split at h
   .exact hF _ _ _ _ hb h
   .obtain ⟨x1,h1,h⟩:=c8 h;exact hL _ _ _ _ _ _ (hB _ _ _ _ _ hb h1) h
  .change (F3 T ps (z6 T ps f)).fac d n b=some y at h;simp only[F3]at h;split at h
   .exact X1 h hb
   .split at h
    .obtain ⟨s,h1,h⟩:=c8 h;exact X1 h hb
    .split at h
     .obtain ⟨x1,h1,h⟩:=c8 h;obtain⟨m,_,h⟩:=c8 h;injection h with h
      subst h;exact hE _ _ _ x1 hb h1
     .split at h
      .cases h
      .split at h
       .exact c53 hE hb h
       .split at h
        .cases h
        .split at h
         .obtain ⟨a,h1,h⟩:=c8 h;unfold a2x at h1;obtain⟨n1,_,h1⟩:=c8 h1;refine X1 h ?_;split at h1
          .injection h1 with h1
           subst h1;exact hb
          .exact hA _ _ _ _ _ hb h1
         .split at h
          .cases h
          .exact X1 h hb
  .change (F3 T ps (z6 T ps f)).lp lv d i n b=some x at h;simp only[F3]at h;split at h
   .injection h with h
    subst h;exact hb
   .obtain ⟨y,h1,h⟩:=c8 h;obtain⟨w,h2,h⟩:=c8 h;have hw:=b3q h2 (hB _ _ _ _ _ hb h1);split at h
    .injection h with h
     subst h;exact hw
    .exact hL _ _ _ _ _ _ hw h
  .change (F3 T ps (z6 T ps f)).ag d n b acc=some y at h;simp only[F3]at h;obtain⟨x1,h1,h⟩:=c8 h;have hx:=hE _ _ _ _ hb h1;split at h
   .exact hA _ _ _ _ _ hx h
   .obtain ⟨m,_,h⟩:=c8 h;injection h with h
    subst h;exact hx
theorem a62(hT:TG T){n:Nat}{x:Tok×Nat}(h:I7 T n=some x):C0 x.1.t=true/\T0 x.1.t=false:=by
 obtain⟨y,h1,h2⟩:=c8 h;obtain⟨e1,e2⟩:=a6i h1;split at h2
 .cases h2
 .rename_i hr;injection h2 with h2
  subst h2;refine⟨?_,U hr⟩;rw[e1];exact(hT n).1 e2
structure a9j(l:List D):Prop where
 ok:∀s∈l,C0 s=true/\T0 s=false
 len:l.length<=8
 nod:l.Nodup
theorem b1V{l:List α}{x:α}(h:l.Nodup)(hx:x∉l):(l++[x]).Nodup:=by
 rw[List.nodup_append];exact⟨h,Q,λa ha b hb=>by simp at hb;subst hb;exact λe=>hx (e▸ha)⟩
theorem a9j.snoc{l:List D}{x:D}(h:a9j l)(hx:C0 x=true/\T0 x=false)(h8:¬l.length=8)(hn:¬x∈l):a9j (l++[x]):=⟨λs hs=>by
 rcases Q9.1 hs with hs|hs
 .exact h.ok s hs
 .simp at hs;subst hs;exact hx,by have:=h.len;rw[n_9,c3L];omega,b1V h.nod hn⟩
theorem b7m{T:List Tok}(hT:TG T):∀(f n:Nat) (l:List D) (y:List D×Nat),a9j l->a2z f T n l=some y->a9j y.1
 |0,n,l,y,_,h=>by cases h
 |f+1,n,l,y,hl,h=>by
  rw[a2z]at h;obtain⟨x,h1,h⟩:=c8 h;have hx:=a62 hT h1;split at h
  .cases h
  .rename_i h8;split at h
   .cases h
   .rename_i hn;have hs:=hl.snoc hx h8 hn;split at h
    .exact b7m hT f _ _ y hs h
    .obtain ⟨m,_,h⟩:=c8 h;injection h with h
     subst h;exact hs
theorem a48:a9j []:=⟨λs h=>(by cases h),n_4 _,List.nodup_nil⟩
theorem c9v(hT:TG T){n:Nat}{y:List D×Nat}(h:a20 T kd n=some y):a9j y.1/\(kd≠1->y.1=[]):=by
 unfold a20 at h;split at h
 .rename_i hk;unfold K2 at h;obtain⟨m,_,h⟩:=c8 h;refine⟨?_,λh=>absurd hk h⟩;split at h
  .injection h with h
   subst h;exact a48
  .exact b7m hT _ _ _ y a48 h
 .injection h with h
  subst h;exact⟨a48,λ_=>G⟩
theorem c5i(s:D):E7 s=0\/E7 s=1\/E7 s=2\/E7 s=3:=by
 unfold E7 dkL;rw[G3,G3,G3]
 split
 .exact .inr (.inr (.inr G))
 .split
  .exact .inr (.inr (.inl G))
  .split
   .exact .inr (.inl G)
   .exact .inl G
theorem c7p(hT:TG T){n:Nat}{y:De×Nat}(h:a0J T bs n=some y):DeG y.1/\(bs.any λd=>(d.k == y.1.k)&&decide (d.name=y.1.name))=false:=by
 unfold a0J at h;split at h
 .cases h
 .rename_i h0;split at h
  .cases h
  .obtain ⟨x,h1,h⟩:=c8 h;split at h
   .cases h
   .rename_i hany;obtain⟨q,h2,h⟩:=c8 h;obtain⟨m,_,h⟩:=c8 h;obtain⟨e,h3,h⟩:=c8 h;obtain⟨m2,_,h⟩:=c8 h;injection h with h
    subst h;obtain⟨p1,p2⟩:=c9v hT h2;obtain⟨t,t1,_,t3⟩:=(c2p hT (8*T.length+6)).1 _ _ _ _ h3;have ao:=(c23 (8*T.length+6)).1 _ _ _ _ (n_4 _) h3;refine⟨⟨?_,λhk=>?_,λhk=>?_,p2,p1.ok,p1.len,p1.nod,⟨t,by rw[t1];rfl,t3⟩,ao⟩,U hany⟩
    .have:=c5i (tk T n).t
     rcases this with g|g|g|g
     .exact absurd (.inr g) h0
     .exact .inl g
     .exact .inr (.inl g)
     .exact .inr (.inr g)
    .unfold a3e at h1;rw[H hk]at h1;exact a62 hT h1
    .unfold a3e at h1;rw[W hk]at h1;exact a7j h1
structure c6H(l:List De):Prop where
 ok:∀d∈l,DeG d
 nod:(l.map λd=>(d.k,d.name)).Nodup
theorem b3N{T:List Tok}(hT:TG T):∀(f n:Nat) (l:List De) (y:List De×Nat),c6H l->R0 f T n l=some y->c6H y.1
 |0,n,l,y,_,h=>by cases h
 |f+1,n,l,y,hl,h=>by
  rw[R0]at h;split at h
  .injection h with h
   subst h;exact hl
  .obtain ⟨x,h1,h⟩:=c8 h;obtain⟨g1,g2⟩:=c7p hT h1;refine b3N hT f _ _ y ⟨λd hd=>?_,?_⟩ h
   .rcases Q9.1 hd with hd|hd
    .exact hl.ok d hd
    .simp at hd;subst hd;exact g1
   .rw [a8o];refine b1V hl.nod λhm=>?_;obtain⟨d,hd,he⟩:=D8.1 hm;injection he with e1 e2
    have:=List.any_eq_false.1 g2 d hd;simp[e1,e2]at this
structure e2g(pkg:D)(l:List D):Prop where
 g:a9j l
 p:pkg∉l
theorem b7X{T:List Tok}(hT:TG T){pkg:D}:∀(f n:Nat) (l:List D) (y:List D×Nat),e2g pkg l->a1v f T pkg n l=some y->e2g pkg y.1
 |0,n,l,y,_,h=>by cases h
 |f+1,n,l,y,hl,h=>by
  rw[a1v]at h;split at h
  .split at h
   .cases h
   .rename_i h8;obtain⟨x,h1,h⟩:=c8 h;split at h
    .cases h
    .rename_i cH;obtain⟨m,_,h⟩:=c8 h;refine b7X hT f _ _ y ⟨hl.g.snoc (a62 hT h1) h8 λhm=>cH (.inr hm),λhm=>?_⟩ h
     rcases Q9.1 hm with hm|hm
     .exact hl.p hm
     .simp at hm;exact cH (.inl hm.symm)
  .injection h with h
   subst h;exact hl
theorem c7J(hT:TG T){x:Src}(h:a05 T=some x):a1b x:=by
 have ao:=b2T h;unfold a05 at h;obtain⟨n1,_,h⟩:=c8 h;obtain⟨w,h1,h⟩:=c8 h;obtain⟨n2,_,h⟩:=c8 h;obtain⟨y,h2,h⟩:=c8 h;obtain⟨z,h3,h⟩:=c8 h;injection h with h
 subst h;have hi:=b7X hT _ _ _ _ ⟨a48,λh=>(by cases h)⟩ h2;have hd:=b3N hT _ _ _ _ (⟨λd h=>(by cases h),List.nodup_nil⟩:c6H []) h3;exact⟨a62 hT h1,hi.g.ok,hi.g.len,hi.g.nod,hi.p,hd.ok,ao,hd.nod⟩
theorem a5q{x:Src}(h:N1 s=some x):a1b x:=by
 unfold N1 at h;obtain⟨T,h1,h2⟩:=c8 h;exact c7J (d5j h1) h2
def e3k(k o:Int):Int:=if k=5 then 0 else if k=4 then a0K o else 4
def sgn(o:Int):D:=(glk S0 o).getD []
def e2T(k:Int):D:=if k=7 then [115,105,122,101]else if k=8 then [104,97,115]else if k=9 then [101,110,118]else []
def d2s(sep:D):List D->D
 | []=>[]
 | [x]=>x
 |x::y::l=>x++sep++d2s sep (y::l)
def ndT(ps:List D)(k Jj o:Int)(nm:D)(cs:List D):D:=
 if k=1 then Lib.itoa Jj else if k=2 then ps.getD Jj.toNat []else if k=4 then cs.getD 0 []++([32]++sgn o++[32])++cs.getD 1 []else if k=5 then [105,102,32]++cs.getD 0 []++[32,116,104,101,110,32]++cs.getD 1 []++[32,101,108,115,101,32]++cs.getD 2 []
 else if k=3 then nm++[40]++d2s [44,32] cs++[41]else if k=6 then [114,101,97,100,40,34]++nm++[34,44,32]++cs.getD 0 []++[41]else if k=10 then [102,108,105,112,40]++Lib.itoa Jj++[41]else e2T k++([40,34]++nm++[34,41])
def e02(k o:Int):List Int:=if k=4 then [if a0K o=1 then a0K o+1 else a0K o,a0K o+1]else []
mutual
def Tr.txt(ps:List D):Tr->Int->D
 | .n k Jj o nm ch,pl=>if e3k k o<pl then [40]++ndT ps k Jj o nm (e0B ps ch (e02 k o))++[41]else ndT ps k Jj o nm (e0B ps ch (e02 k o))
def e0B(ps:List D):List Tr->List Int->List D
 | [],_=>[]
 |t::l,fR=>t.txt ps (fR.headD 0)::e0B ps l fR.tail
end
open Classical in
noncomputable def e2X(d:De):D:=if h:∃t:Tr,d.body=t.flat 0/\t.wf d.params.length 1 then h.choose.txt d.params 0 else []
def e3f(l:List D):D:=(l.map λs=>[105,109,112,111,114,116,32]++s++[59,10]).flatten
def e2p(d:De):D:=if d.k=1 then [102,117,110,99,32]++d.name++[40]++d2s [44,32] d.params++[41,32,61,32]else if d.k=2 then [116,101,115,116,32]++d.name++[32,61,32]else [103,101,110,32,34]++d.name++[34,32,61,32]
noncomputable def d7i(x:Src)(d:De):D:=([112,97,99,107,97,103,101,32]++x.pkg++[59,10])++e3f x.imports++e2p d++(e2X d++[59,10])
def e1X(n:Nat):D:=if h:n<128 then [UInt8.ofNat n]else UInt8.ofNat (n%128+128)::e1X (n / 128)
termination_by n
decreasing_by omega
def d5y(l s:D):D:=l++e1X s.length++s
theorem a6N{fl:List Fi}{nn:Bool}{br:List D}{ms:SM}{me:EM}{t:Nat}(aw:WAt σ w q1 q2 t fl nn va br ms me)(k:Int)(p o:D):b8 CC 82 [.ptr w 0,iv k,(sv p),(sv o)] σ λr τ=>r= .ret (.agg (p8 va me k p o).cells)/\τ=σ:=
 d7l (λa h=>by simp at h;rcases h with rfl|rfl|rfl<;>exact .val _) (En.pure _) (d1o fl nn va br ms me k p o) aw
theorem d3q{fl:List Fi}{nn:Bool}{br:List D}{ms:SM}{me:EM}{t:Nat}(aw:WAt σ w q1 q2 t fl nn va br ms me)(s:D)(dr:fl.length<=1000000):b8 CC 129 [.ptr w 0,(sv s)] σ λr τ=>r= .ret (.tup [sv ((r8 fl s).getD []),.val (.bool (r8 fl s).isSome)])/\τ=σ:=
 d7l (λa h=>by simp at h;subst h;exact .val _) (D3 (cs:=[sv _,.val _]) ⟨.val _,.val _,O⟩) (c8z fl nn va br ms me s dr) aw
def d1B(ms:SM)(fl:List Fi)(pkg:D):List Fi:=fl.filter λf=>(glk ms f.p).isSome &&decide (((glk ms f.p).getD Src.z).pkg=pkg)
noncomputable def d7n(ms:SM)(x:En):D:=((glk ms x.pl).bind λs=>(s.decls[x.ix.toNat]?).map λd=>d7i s d).getD []
noncomputable def a8V(ms:SM)(x:En):D:=if x.ct=0 then [45]else if x.ct=1 then [61]++d7n ms x else [63]
def b9T(ms:SM)(x:En):Prop:=x.ct=1->∃(s:Src) (d:De) (i:Nat),glk ms x.pl=some s/\a1b s/\x.ix=(i:Int)/\s.decls[i]?=some d
theorem b7v(x:Src)(σ:List b9):b8 CC 166 [.agg x.cells] σ λr τ=>∃_:Unit,r= .ret (.clo 207 [.ptr σ.length 0])/\τ=σ++[.box x.cells]/\True:=by
 refine qO Tryz.func166 ?_;refine qD (F4 G O j1 i9 ?_);refine u (a3f G ⟨O,O⟩) ?_;refine c6 ?_;exact⟨_,I8 G O G,(),G,G,O⟩
theorem d5d(x:Src){k kb:Nat}(Jc:Nat->List b9->Prop)(Jx:List b9->Prop)(hb:∀i τ,Jc i τ->τ[kb]?=some (.box x.cells))(hy:∀i s τ,(x.pkg::x.imports)[i]?=some s->Jc i τ->a8d CC k [sv s] τ λr dQ=>(r= .ret (.val (.bool true))/\Jc (i+1) dQ)\/(r= .ret (.val (.bool false))/\Jx dQ))(hl:x.imports.length<=1000000){τ0:List b9}(h0:Jc 0 τ0):b8 CC 207 [.yld k,.ptr kb 0] τ0 λr τ=>(∃c,r= .ret c)/\(Jc (x.imports.length+1) τ\/Jx τ):=by
 refine cO Tryz.func207 ?_;refine F7 (F7 ?_);refine b8f (k:=k) (cargs:=[sv x.pkg]) (pre:=[_,_,_]) (post:=[_]) G G G G (nb G) G ?_;refine cY A2 ?_;refine cY (i7 G O G a8u G t_0 I) ?_;refine cY (l9 G O G a2j (hb 0 _ h0) G) ?_;refine o7 ?_;refine⟨O,G,⟨O,O⟩,G,(hy 0 x.pkg _ G h0).mono λr τ h=>?_⟩
 rcases h with⟨rfl,h⟩|⟨rfl,h⟩
 .refine b0j ?_;refine a2A O G (λh1=>by cases h1) (λh1=>?_);refine A8 ?_;refine z_0 ?_;refine cY (i7 G O G a8u G a2Q I) ?_;refine cY (l9 G O G b9G (hb 1 _ h) G) ?_;refine cY P0 ?_;refine a9r ?_;refine L6 (α:=Nat×List b9) (λa=>[(0,.yld k),(11,.list (x.imports.map scv) (gnn x.imports.length) none),(12,iv x.imports.length),(13,iv a.1)]) Prod.snd (λa=>a.1<=x.imports.length/\Jc (a.1+1) a.2) (λa=>x.imports.length -a.1) (0,τ) ⟨n_4 _,h⟩ tu_ G ?_;intro⟨i,τ1⟩ E0 ⟨hi,hj⟩;dsimp only at hi hj⊢;refine a9p ?_;refine cC ?_ ?_<;>intro h1
  .have ai:i<x.imports.length:=sm_ h1;obtain⟨y,hb1⟩:∃y,x.imports[i]?=some y:=⟨x.imports[i]'ai,Q⟩;refine b34 ?_;refine cY (A4 G O O G G t_2 t_0 J (j8 hb1) G) ?_;refine cY b0F ?_;refine a6u ?_;refine b8f (k:=k) (cargs:=[sv y]) (pre:=[_,_]) (post:=[_]) G G G G (nb G) G ?_;refine cY A2 ?_;refine e2w ?_;refine⟨O,G,⟨O,O⟩,G,(hy (i+1) y _ (U hb1) hj).mono λr τ2 h=>?_⟩
   rcases h with⟨rfl,h⟩|⟨rfl,h⟩
   .refine b0j ?_;refine a2A O G (λh1=>by cases h1) (λh1=>?_);refine b3x ?_;exact⟨(i+1,τ2),do_,⟨do_,h⟩,tu_,G⟩
   .refine b0j ?_;refine a2A O G (λh1=>?_) (λh1=>by cases h1);refine c6 ?_;exact⟨_,rE0,⟨_,G⟩,.inr h⟩
  .have fM:i=x.imports.length:=sm_ h1;subst fM;refine o6 ?_;exact⟨_,rE0,⟨_,G⟩,.inl hj⟩
 .refine b0j ?_;refine a2A O G (λh1=>?_) (λh1=>by cases h1);refine c6 ?_;exact⟨_,rE0,⟨_,G⟩,.inr h⟩
def cN(P:D->Bool):List D->Nat
 | []=>0
 |p::l=>if P p=true then 1 else cN P l+1
theorem c1w{P:D->Bool}:∀{l:List D},(∀p∈l,P p=false)->cN P l=l.length
 | [],_=>rfl
 |p::l,h=>by
  rw[cN,H (by rw[h p b2h];decide),c1w λq hq=>h q (a4a _ hq)];rfl
theorem c8o{P:D->Bool}:∀{l:List D} {i:Nat} {y:D},l[i]?=some y->P y=true->(∀p∈l.take i,P p=false)->cN P l=i+1
 | [],i,y,h,_,_=>by cases h
 |p::l,0,y,h,hy,_=>by injection h with h;subst h;rw[cN,W hy]
 |p::l,i+1,y,h,hy,hn=>by
  rw[cN,H (by rw[hn p Q];decide),c8o (l:=l) (i:=i) (U h) hy λq hq=>hn q (by rw[List.take_succ_cons];exact a4a _ hq)]
def fE(va:Bool)(me:EM)(name p:D):En:=p8 va me 1 p name
def a0p(va:Bool)(me:EM)(name p:D):Bool:=decide (0< (fE va me name p).ct)
def a30(va:Bool)(me:EM)(name:D)(L:List D):Nat->En
 |0=>En.z
 |i+1=>match L[i]? with
  |some p=>fE va me name p
  |none=>En.z
def a0B(va:Bool)(me:EM)(name:D)(L:List D):Nat:=cN (a0p va me name) L
def S5(va:Bool)(me:EM)(name:D)(L:List D):En:=a30 va me name L (a0B va me name L)
def L5(name:D)(L:List D)(i:Nat):List Ky:=(L.take i).map λp=>⟨1,p,name⟩
def H2(x:En):En:=if x.ct=0 then En.z else if 1<x.ct then En.z else x
def K0(x:En):Int:=if x.ct=0 then 11 else if 1<x.ct then 12 else 0
def a3X(va:Bool)(me:EM)(name:D)(L:List D):CV:=.tup [.agg (H2 (S5 va me name L)).cells,.list ((L5 name L (a0B va me name L)).map Ky.cv) (gnn (a0B va me name L)) none,iv (K0 (S5 va me name L))]
abbrev cSt(fl:List Fi)(nn va:Bool)(br:List D)(ms:SM)(me:EM)(x:Src)(name:D)(ks:List Ky)(i:Nat)(e:En)(Jd ob:b9):List b9:=[wbx fl nn va br 1 2 3,smO ms,emO me,l8 br.length,.box [.ptr 0 0],.box x.cells,.box [sv name],.box En.z.cells,.box [.list (ks.map Ky.cv) (gnn i) (D6 i (13+i))],.box e.cells,.box x.cells,Jd,ob]++(List.replicate i .dead++[l8 i])
theorem d8S{E:Env}{o:Oper}{t e:TypeId}{x y:Operand}{aa new:List (List CV)}{s:Nat}{ti:TypeInfo}{z:Value}{K:L7->List b9->Prop}{pre:List b9}(hq:pre.length=q)(ho:o.op = .call {callee:=.builtin .append,args:=#[x,y],argTypes:=#[t,t]})(hx:E.valid x)(hy:E.valid y)(ex:E.val CC x= .list aa (gnn i) (D6 i (q+i)))(hm:i=aa.length)
 (aO:∀M w v,Rel CC M (pre++(List.replicate i .dead++[l8 i])) w->RV M w (E.val CC y) v->Go.Cl.Src CC M w new s v)(hu:∀w,(underlying t).run CC.P w= .ok (.slice e) w)(hs:∀w,(sizeOf e).run CC.P w= .ok s w)(cg:∀w,(typeInfo e).run CC.P w= .ok ti w)(hz:∀w,(zeroValue e).run CC.P w= .ok z w)(bp:z.cells.size=s)
 (aX:∀r∈aa,r.length=s)(hn:new.length=1)(hb:(aa.length+1)*ti.bytes<=140737488355328)(aN:aa.length+1<=9223372036854775807)(rows':List (List CV))(he:aa++new=rows')
 (hk:K (.ret (.list rows' (gnn (i+1)) (D6 (i+1) (q+(i+1))))) (pre++(List.replicate (i+1) .dead++[l8 (i+1)]))):C5 CC (pre++(List.replicate i .dead++[l8 i])) E o K:=by
 have hl:(pre++(List.replicate i b9.dead++[l8 i])).length=q+(i+1):=by simp[hq]
 have bc:(pre++(List.replicate i b9.dead++[l8 i])).set (q+i) .dead++[l8 (i+1)]=pre++(List.replicate (i+1) .dead++[l8 (i+1)]):=by
  rw[List.set_append_right _ _ J,List.set_append_right _ _ G5,List.length_replicate,hq,show q+i-q-i=0 by omega,T5,T5,List.replicate_succ',T5];rfl
 refine B6 (m:=i) (p:=q+i) ho hx hy ex hm aO hu hs cg hz bp (.inr ?_) aX (by rw[hn];exact hb) (by rw[hn];exact aN) rows' (i+1) he J ?_
 .rw [a5O J,a5O G5];simp[hq]
 .rw [hl,bc];exact hk
theorem c9H{P:D->Bool}{L:List D}{y:D}(h:L[i]?=some y)(hy:P y=false)(hn:∀p∈L.take i,P p=false):∀p∈L.take (i+1),P p=false:=λp hp=>by
 rw[a3a,h]at hp
 rcases Q9.1 hp with hp|hp
 .exact hn p hp
 .simp at hp;subst hp;exact hy
theorem a9m{name:D}{L:List D}{y:D}(h:L[i]?=some y):L5 name L (i+1)=L5 name L i++[⟨1,y,name⟩]:=c8A h _
theorem V7{n:Nat}{aa:List (List CV)}{nn:Bool}(h:∀r∈aa,N8 r):Cls n σ (.list aa nn tok) (.list aa nn none):=
 .list G (λi r r' h1 h2=>by rw[h1]at h2;injection h2 with h2;rw[h2]) λi j r r' c c' h1 h2 h3 h4=>by
  rw[h1]at h2;injection h2 with h2;subst h2
  rw[h3]at h4;injection h4 with h4;subst h4
  exact .old ((h r (n_3 h1)).all c (n_3 h3)).old
theorem a7X{n:Nat}{a a' b b':CV}(h1:Cls n σ a a')(h2:Cls n σ b b')(h3:Cls n σ c c'):Cls n σ (.tup [a,b,c]) (.tup [a',b',c']):=.tup G λi x y g1 g2=>by
 rcases i with _|_|_|i
 .injection g1 with g1;injection g2 with g2;subst g1 g2;exact h1
 .injection g1 with g1;injection g2 with g2;subst g1 g2;exact h2
 .injection g1 with g1;injection g2 with g2;subst g1 g2;exact h3
 .cases g1
theorem b1A(rest:List b9){fl:List Fi}{nn:Bool}{br:List D}{ms:SM}{me:EM}:a4o 4 τ (wbx fl nn va br 1 2 3::smO ms::emO me::l8 br.length::rest) (wst fl nn va br ms me):=⟨.same a2D,.same W5,.same X2,.same B0,by cases rest<;>trivial⟩
theorem b9C(fl:List Fi)(nn va:Bool)(br:List D)(ms:SM)(me:EM)(x:Src)(name:D)(hl:x.imports.length<=1000000):b8 CC 109 [.ptr 0 0,.agg x.cells,sv name] (wst fl nn va br ms me) λr τ=>∃_:Unit,X0 4 τ r (.ret (a3X va me name (x.pkg::x.imports)))/\a4o 4 τ τ (wst fl nn va br ms me)/\4<=4/\True:=by
 refine c0s (kD:=11) Tryz.func109 G G ?_;refine b1j ?_;refine C4 ?_;refine qD (F4 G O j1 (.inl G) ?_);refine d1A ?_;refine qD (j6 G a0z G i9 ?_);refine⟨G,d0h (b1j ?_)⟩;refine C4 ?_;refine qD (j6 G Tryz.zeroValue29 G (.inl G) ?_);refine⟨G,b1j ?_⟩;refine C4 ?_;refine qD (j6 G a0z G i9 ?_);refine⟨G,b1j ?_⟩;refine b8P ?_;refine⟨G,?_⟩;refine d4A λE0 hE0=>?_;refine d4k (λE' ae=>∃ob:b9,E'.is [(6,.ptr 7 0),(9,.ptr 8 0),(10,.ptr 9 0)]/\ae=cSt fl nn va br ms me x name (L5 name (x.pkg::x.imports) (a0B va me name (x.pkg::x.imports))) (a0B va me name (x.pkg::x.imports)) (S5 va me name (x.pkg::x.imports)) (.blk (.deferred (some []))) ob) ?_ ?_
 .subst hE0;refine b1j ?_;refine C4 ?_;refine qo (qD (c4 G Tryz.call166 ⟨O,O⟩ (b7v x _) G ?_));intro _ _;refine⟨G,d0n ?_⟩;refine d1O trivial G Tryz.call207 (cs:=[(3,.ptr 4 0),(5,.ptr 6 0),(9,.ptr 8 0),(10,.ptr 9 0)]) tu_ λo h1 h2 h3 h4 h5=>a9d ?_;have ho:({o with state:=.ready,pending:=none}:Loop)=o:=by cases o;simp at h1 h2;rw[h1,h2]
  refine(d5d x (k:=12) (kb:=10) (λi τ=>i<=x.imports.length+1/\(∀p∈(x.pkg::x.imports).take i,a0p va me name p=false)/\τ=cSt fl nn va br ms me x name (L5 name (x.pkg::x.imports) i) i (a30 va me name (x.pkg::x.imports) i) (.blk (.deferred (some []))) (.lp o 42 [(3,.ptr 4 0),(5,.ptr 6 0),(9,.ptr 8 0),(10,.ptr 9 0)]))
   (λτ=>∃i y,(x.pkg::x.imports)[i]?=some y/\a0p va me name y=true/\(∀p∈(x.pkg::x.imports).take i,a0p va me name p=false)/\τ=cSt fl nn va br ms me x name (L5 name (x.pkg::x.imports) (i+1)) (i+1) (a30 va me name (x.pkg::x.imports) (i+1)) (.blk (.deferred (some []))) (.lp {o with state:=.done,pending:=some (.exit 0)} 42 [(3,.ptr 4 0),(5,.ptr 6 0),(9,.ptr 8 0),(10,.ptr 9 0)])) (λi τ ⟨_,_,h⟩=>by rw[h];rfl) ?_ hl ⟨n_4 _,λp hp=>by simp at hp,G⟩).mono ?_
  .rintro i y _ hy ⟨hi,cH,rfl⟩;have hli:(L5 name (x.pkg::x.imports) i).length=i:=by
    have:=(n_2.1 hy).1;unfold L5;rw[N0,b1U];omega
   have ai:=(n_2.1 hy).1;simp only[J5]at ai;have aT:a30 va me name (x.pkg::x.imports) (i+1)=fE va me name y:=by rw[a30,hy]
   refine c59 (t:=14) (o:=o) G h1 h3 G ?_;refine d6z h4 ?_;refine a5b G ?_;refine qo ?_;refine⟨G,G,?_⟩;refine d6z h5 ?_;refine c9K (c0b ?_);refine a5b G ?_;refine qo (u d5k ?_);refine u (A6 [Ky.cv (⟨1,y,name⟩:Ky)] G ⟨O,O⟩ t_5 t_3 a0A G G G G G G G G G) ?_;refine qN (cSt fl nn va br ms me x name (L5 name (x.pkg::x.imports) i) i (a30 va me name (x.pkg::x.imports) i) (.blk (.deferred (some []))) (.lp {o with state:=.busy} 42 [(3,.ptr 4 0),(5,.ptr 6 0),(9,.ptr 8 0),(10,.ptr 9 0)])) rfl (qD (d8S (q:=13) (i:=i) rfl rfl O O rfl (by rw[N0,hli]) (a68 rfl (by first|exact a2U (by intro a;rfl) _|(intro r hr;simp at hr;subst hr;rfl))) t_5 t_3 a9G a0A G (by first|exact a2U (by intro a;rfl) _|(intro r hr;simp at hr;subst hr;rfl)) G (by have hb:Tryz.t49.bytes=40:=G;rw[hb,N0,hli];omega) (by rw[N0,hli];omega) ((L5 name (x.pkg::x.imports) (i+1)).map Ky.cv) (by rw[a9m hy,a8o];rfl) ?_));refine qD (i0 G O O G j1 b9s (.inl G) G G (nb G) ?_);refine c0b ?_;refine a5b G ?_;refine qo (u (c5 G c9Z ⟨O,G,O,O,O⟩ (a6N (w:=0) (q1:=1) (q2:=2) (t:=3) ⟨G,G,G,G,a2c ⟨I,I,I,I,I,I⟩⟩ 1 y name) G) ?_);refine qD (i0 G O O G j1 t_6 i9 G G (nb G) ?_);refine c0b ?_;refine a5b G ?_;refine qo ?_;refine d4m O G (λhh=>?_) (λhh=>?_)
   .have hf:a0p va me name y=true:=by unfold a0p fE;simpa using hh
    refine d3b ?_;refine⟨G,.inr ⟨G,i,y,hy,hf,cH,?_⟩⟩;rw[aT];rfl
   .have hf:a0p va me name y=false:=by unfold a0p fE;simpa using hh
    refine d3C ?_;refine⟨G,.inl ⟨G,J,c9H hy hf cH,?_⟩⟩;rw[aT,ho];rfl
  .rintro r τ ⟨hr,⟨-,cH,rfl⟩|⟨i,y,hy,hf,cH,rfl⟩⟩
   .rw [a2p Q]at cH;have hN:a0B va me name (x.pkg::x.imports)=x.imports.length+1:=c1w cH;refine⟨hr,o,G,by rw[h1];decide,?_⟩;rw[h2];refine⟨G,.lp {o with state:=.exhausted,pending:=none} 42 [(3,.ptr 4 0),(5,.ptr 6 0),(9,.ptr 8 0),(10,.ptr 9 0)],tu_,?_⟩;unfold S5;rw[hN];rfl
   .have hN:a0B va me name (x.pkg::x.imports)=i+1:=c8o hy hf cH;refine⟨hr,{o with state:=.done,pending:=some (.exit 0)},rfl,(by intro h;cases h),?_⟩;refine⟨G,.lp {o with state:=.exhausted,pending:=some (.exit 0)} 42 [(3,.ptr 4 0),(5,.ptr 6 0),(9,.ptr 8 0),(10,.ptr 9 0)],tu_,?_⟩;unfold S5;rw[hN];rfl
 .rintro E σ ⟨ob,hE,rfl⟩ ds;refine c65 hE ?_;refine a5d ?_;refine c5H ?_;refine a5d ?_;refine a3G ?_;refine qo ?_;refine b8U O G (λhh=>?_) (λhh=>?_)
  .have hx:(S5 va me name (x.pkg::x.imports)).ct=0:=U hh;refine d8A ?_;refine chf G e06 ?_;refine chf G b7j ?_;refine c9m ?_;refine⟨⟨c3j,O⟩,?_⟩;refine c6b ?_;refine a0Z ?_;refine b0c ?_;exact⟨G,_,o9 (rs:=[.cell 6 83,.tmp 7,.tmp 8]) (cs:=[_,_,_]) G c5G (n_5 G),(),.ret (a7X (O2 (n_7 (λe:En=>CV.agg e.cells) (show En.z=H2 _ from(W hx).symm)) (En.pure _)) (V7 λr hr=>by obtain⟨k,_,rfl⟩:=D8.1 hr;exact a1a k) (B8 (show(11:Int)=K0 _ from(W hx).symm))),b1A _,n_6 _,O⟩
  .have hx:¬(S5 va me name (x.pkg::x.imports)).ct=0:=U hh;refine a5d ?_;refine a3G ?_;refine qo ?_;refine b8U O G (λhh=>?_) (λhh=>?_)
   .have hy:1< (S5 va me name (x.pkg::x.imports)).ct:=U hh;refine d8A ?_;refine chf G e06 ?_;refine chf G b7j ?_;refine c9m ?_;refine⟨⟨c3j,O⟩,?_⟩;refine c6b ?_;refine a0Z ?_;refine b0c ?_;exact⟨G,_,o9 (rs:=[.cell 6 83,.tmp 7,.tmp 8]) (cs:=[_,_,_]) G c5G (n_5 G),(),.ret (a7X (O2 (n_7 (λe:En=>CV.agg e.cells) (show En.z=H2 _ by rw[H2,H hx,W hy])) (En.pure _)) (V7 λr hr=>by obtain⟨k,_,rfl⟩:=D8.1 hr;exact a1a k) (B8 (show(12:Int)=K0 _ by rw[K0,H hx,W hy]))),b1A _,n_6 _,O⟩
   .have hy:¬1< (S5 va me name (x.pkg::x.imports)).ct:=U hh;refine c8M ?_;refine d8A ?_;refine chf G b6U ?_;refine chf G b7j ?_;refine c9m ?_;refine⟨⟨c3j,O⟩,?_⟩;refine c6b ?_;refine a0Z ?_;refine b0c ?_;exact⟨G,_,o9 (rs:=[.cell 6 83,.tmp 7,.tmp 8]) (cs:=[_,_,_]) G c5G (n_5 G),(),.ret (a7X (O2 (n_7 (λe:En=>CV.agg e.cells) (show S5 va me name (x.pkg::x.imports)=H2 _ by rw[H2,H hx,H hy])) (En.pure _)) (V7 λr hr=>by obtain⟨k,_,rfl⟩:=D8.1 hr;exact a1a k) (B8 (show(0:Int)=K0 _ by rw[K0,H hx,H hy]))),b1A _,n_6 _,O⟩
theorem c5C{fl:List Fi}{nn:Bool}{br:List D}{ms:SM}{me:EM}{t:Nat}(aw:WAt σ w q1 q2 t fl nn va br ms me)(x:Src)(name:D)(hl:x.imports.length<=1000000):b8 CC 109 [.ptr w 0,.agg x.cells,sv name] σ λr τ=>r= .ret (a3X va me name (x.pkg::x.imports))/\τ=σ:=
 (a2f [w,q1,q2,t] hCC G aw.nd (b8g aw) (.cons (.ptr G) (G7 λa h=>by simp at h;rcases h with rfl|rfl;exact j5 x.pure;exact .val _)) (c:=λ_:Unit=>a3X va me name (x.pkg::x.imports)) (P:=λ_=>True) (λ_ _=>D3 (cs:=[_,_,_]) ⟨En.pure _,.list λr hr c hc=>by
  obtain⟨k,_,rfl⟩:=D8.1 hr;exact(a1a k).all c hc,.val _,O⟩) (K9 (S:=λ_=>wst fl nn va br ms me) (res:=λ_:Unit=>.ret (a3X va me name (x.pkg::x.imports))) (P:=λ_=>True) hCC (b9C fl nn va br ms me x name hl))).mono λ_ _ ⟨_,h1,h2,_⟩=>⟨h1,h2⟩
theorem a61{α β:Type} [DecidableEq α]{a:α}{c:β}{x:α×β}:∀{l:List (α×β)},x∈G6 l a c->x=(a,c)\/x∈l
 | [],h=>.inl (by simpa[G6]using h)
 |(b,d)::l,h=>by
  rw[G6]at h;split at h
  .rename_i bZ;subst bZ
   rcases I0.1 h with h|h
   .exact .inl h
   .exact .inr (a4a _ h)
  .rcases I0.1 h with h|h
   .exact .inr (h▸b2h)
   .exact (a61 h).imp id (a4a _)
theorem a65{α β:Type} [DecidableEq α]{a:α}{c:β}:∀{l:List (α×β)},(G6 l a c).length<=l.length+1
 | []=>n_6 _
 |(b,d)::l=>by
  rw[G6]
  split
  .simp
  .have:=a65 (a:=a) (c:=c) (l:=l);simp only[J5];omega
theorem b41 [DecidableEq α]{l:List (α×β)}{a:α}{c:β}(h:glk l a=some c):(a,c)∈l:=by
 obtain⟨i,hi,_⟩:=a67 h;exact n_3 hi
structure MS where
 tr:List (Ky×Bool)
 st:Int
 ac:Int
 rn:Bool
structure MC where
 fl:List Fi
 nn:Bool
 br:List D
 ms:SM
 me:EM
 ev:List Va
 en:Bool
 wd:Int
variable{me:EM}{nn:Bool}{fl:List Fi}{br:List D}{ms:SM}
def bindM{α β:Type}(o:(α ⊕ Int)×MS)(k:α->MS->(β ⊕ Int)×MS):(β ⊕ Int)×MS:=match o with
 |(.inl a,S)=>k a S
 |(.inr e,S)=>(.inr e,S)
theorem a0s{o:(α ⊕ Int)×MS}{a:α}(h:o.1 = .inl a)(k:α->MS->(β ⊕ Int)×MS):bindM o k=k a o.2:=by
 obtain⟨x,S⟩:=o;subst h;rfl
theorem a0q{o:(α ⊕ Int)×MS}{e:Int}(h:o.1 = .inr e)(k:α->MS->(β ⊕ Int)×MS):bindM o k=(.inr e,o.2):=by
 obtain⟨x,S⟩:=o;subst h;rfl
theorem c33{l:List α}{a:α}(h:l[i]?=some a):l.drop i=a::l.drop (i+1):=by
 obtain⟨hl,rfl⟩:=n_2.1 h;exact a0v hl
structure Fr where
 f:Src
 d:De
 args:List Int
 an:Bool
variable{f:Nat}{args:List CV}
abbrev Fr.cells(F:Fr):List CV:=[sv F.f.pkg,.list (F.f.imports.map scv) (gnn F.f.imports.length) none,.list (F.f.decls.map De.cv) (gnn F.f.decls.length) none,iv F.d.k,sv F.d.name,.list (F.d.params.map scv) (gnn F.d.params.length) none,.list (F.d.body.map Ex.cv) (gnn F.d.body.length) none,.list (F.args.map icv) F.an none]
theorem Ex.pureA(x:Ex):o8 (.agg x.cells):=j5 x.pure
def ivc(v:Int):CV:=iv v
def MS.look(S:MS)(ks:List Ky):MS:={S with tr:=ks.foldl (λt k=>G6 t k true) S.tr}
abbrev diX(va:Bool)(me:EM)(s:D):En:=p8 va me 3 [] s
def diK(fl:List Fi)(va:Bool)(me:EM)(s:D):Int:=if(r8 fl s).isSome=true then 1 else if(diX va me s).ct=0 then 0 else if 1< (diX va me s).ct then 3 else 2
def diE(fl:List Fi)(va:Bool)(me:EM)(s:D):En:=if(r8 fl s).isSome=true then En.z else H2 (diX va me s)
def H9(fl:List Fi)(s:D):List Ky:=if(r8 fl s).isSome=true then [⟨4,s,[]⟩]else [⟨4,s,[]⟩,⟨3,s,[]⟩]
def diC(fl:List Fi)(va:Bool)(me:EM)(s:D):Int:=if(r8 fl s).isSome=true then 0 else if(diX va me s).ct=0 then 14 else if 1< (diX va me s).ct then 12 else 0
def diV(fl:List Fi)(va:Bool)(me:EM)(s:D):CV:=.tup [iv (diK fl va me s),.agg (diE fl va me s).cells,.list ((H9 fl s).map Ky.cv) true none,iv (diC fl va me s)]
theorem b54{n:Nat}{a a' b b' d d':CV}(h1:Cls n σ a a')(h2:Cls n σ b b')(h3:Cls n σ c c')(h4:Cls n σ d d'):Cls n σ (.tup [a,b,c,d]) (.tup [a',b',c',d']):=.tup G λi x y g1 g2=>by
 rcases i with _|_|_|_|i
 .injection g1 with g1;injection g2 with g2;subst g1 g2;exact h1
 .injection g1 with g1;injection g2 with g2;subst g1 g2;exact h2
 .injection g1 with g1;injection g2 with g2;subst g1 g2;exact h3
 .injection g1 with g1;injection g2 with g2;subst g1 g2;exact h4
 .cases g1
theorem b8X(fl:List Fi)(va:Bool)(me:EM)(s:D):o8 (diV fl va me s):=D3 ⟨.val _,En.pure _,D1 _ _,.val _,O⟩
def b6h(c:MC)(s:D):Int ⊕ Int:=match a6j c.ev s with
 |some v=>.inl v
 |none=>.inr 15
def a87(c:MC)(s:D):Int ⊕ Int:=if diC c.fl true c.me s≠0 then .inr (diC c.fl true c.me s)else if(r8 c.fl s).isSome=true then .inl ((r8 c.fl s).getD []).length else .inl 1
def c9F(c:MC)(s:D):Int:=if(diC c.fl true c.me s != 14)=true then 1 else 0
abbrev Rs(α:Type):=(α ⊕ Int)×MS
def D2(c:MC)(x:En):Option (Src×De):=(glk c.ms x.pl).bind λs=>(s.decls[x.ix.toNat]?).map λd=>(s,d)
def W3(rec:Int->MS->Rs Int):List Int->List Int->MS->Rs (List Int)
 |acc,[],S=>(.inl acc,S)
 |acc,a::l,S=>bindM (rec a S) λv S1=>W3 rec (acc++[v]) l S1
def H5(rec:Fr->Int->MS->Rs Int)(c:MC)(x:En)(args:List Int)(an:Bool)(S:MS):Rs Int:=
 if S.ac=64 then(.inr 17,S)else match D2 c x with
 |none=>(.inl 0,S)
 |some y=>bindM (rec ⟨y.1,y.2,args,an⟩ ((y.2.body.length:Int) -1) {S with ac:=S.ac+1}) λv S2=>(.inl v,{S2 with ac:=S2.ac -1})
def a9w(F:Fr):List D:=F.f.pkg::F.f.imports
def G8(c:MC)(F:Fr)(x:Ex):En:=S5 true c.me x.name (a9w F)
def U5(c:MC)(F:Fr)(x:Ex):List Ky:=L5 x.name (a9w F) (a0B true c.me x.name (a9w F))
def c8D(c:MC)(x:En):Nat:=((D2 c x).map λy=>y.2.params.length).getD 0
def a1A(rec:Fr->Int->MS->Rs Int)(c:MC)(F:Fr)(x:Ex)(S:MS):Rs Int:=
 if K0 (G8 c F x)≠0 then(.inr (K0 (G8 c F x)),S.look (U5 c F x))else
 bindM (W3 (rec F) [] x.args (S.look (U5 c F x))) λvs S2=>if vs.length≠c8D c (G8 c F x)then(.inr 13,S2)else H5 rec c (G8 c F x) vs (gnn vs.length) S2
def a1q(v:Int):Int ⊕ Int:=if(-9007199254740992<=v/\v<=9007199254740992)then .inl v else .inr 3
def biV(o a b:Int):Int ⊕ Int:=
 if o=1 then a1q (a+b)else if o=2 then a1q (a-b)else
 if o=3 then(if b≠0/\9007199254740992 / max b (-b)<max a (-a)then .inr 3 else a1q (a*b))else
 if o=4 then(if b=0 then .inr 4 else a1q (a.tdiv b))else if o=5 then(if b=0 then .inr 4 else a1q (a.tmod b))else
 if o=6 then .inl (if a<b then 1 else 0)else .inl (if a=b then 1 else 0)
def biS(rec:Int->MS->Rs Int)(x:Ex)(S:MS):Rs Int:=bindM (rec (x.args.getD 0 0) S) λa S1=>bindM (rec (x.args.getD 1 0) S1) λb S2=>(biV x.op a b,S2)
def a5k(rec:Int->MS->Rs Int)(x:Ex)(S:MS):Rs Int:=bindM (rec (x.args.getD 0 0) S) λv S1=>if v≠0 then rec (x.args.getD 1 0) S1 else rec (x.args.getD 2 0) S1
def a0I(rec:Fr->Int->MS->Rs Int)(c:MC)(F:Fr)(x:Ex)(S:MS):Rs Int:=
 if diC c.fl true c.me x.name≠0 then(.inr (diC c.fl true c.me x.name),S.look (H9 c.fl x.name))else
 bindM (rec F (x.args.getD 0 0) (S.look (H9 c.fl x.name))) λi S2=>
  if i<0\/(match r8 c.fl x.name with|some b=>(b.length:Int)|none=>1)<=i then(.inr 3,S2)else match r8 c.fl x.name with
  |some b=>(.inl ((b.getD i.toNat 0).toNat:Int),S2)
  |none=>bindM (H5 rec c (diE c.fl true c.me x.name) [] false S2) λv S3=>(.inl ((v.tmod 256+256).tmod 256),S3)
def W6(rec:Fr->Int->MS->Rs Int)(c:MC)(F:Fr)(x:Ex)(S:MS):Rs Int:=
 if x.k=1 then(.inl x.num,S)else if x.k=2 then(.inl (F.args.getD x.num.toNat 0),S)else if x.k=3 then a1A rec c F x S else if x.k=4 then biS (rec F) x S else
 if x.k=5 then a5k (rec F) x S else if x.k=6 then a0I rec c F x S else if x.k=7 then(a87 c x.name,S.look (H9 c.fl x.name))else if x.k=8 then(.inl (c9F c x.name),S.look (H9 c.fl x.name))else
 if x.k=9 then(b6h c x.name,S.look [⟨5,x.name,[]⟩])else(.inl (c.wd / 2^x.num.toNat%2),{S with rn:=true})
def W2(rec:Fr->Int->MS->Rs Int)(c:MC)(F:Fr)(i:Int)(S:MS):Rs Int:=
 if S.st=20000 then(.inr 16,S)else match F.d.body[i.toNat]? with
 |none=>(.inl 0,S)
 |some x=>W6 rec c F x {S with st:=S.st+1}
def evN(c:MC):Nat->Fr->Int->MS->Rs Int
 |0,_,_,S=>(.inr 16,S)
 |n+1,F,i,S=>W2 (evN c n) c F i S
def InM(v:Int):Prop:=-9007199254740992<=v/\v<=9007199254740992
def SB(S0 S:MS):Prop:=S0.st<=S.st/\S.st<=20000/\S.ac=S0.ac
def Gd(S:MS)(o:Rs Int):Prop:=S.st<=o.2.st/\o.2.st<=20000/\∀v,o.1 = .inl v->InM v/\o.2.ac=S.ac
def c5m(rec:Int->MS->Rs Int)(S0:MS)(L:List Int):Prop:=∀i∈L,∀S:MS,SB S0 S->Gd S (rec i S)
theorem SB.refl{S:MS}(h:S.st<=20000):SB S S:=⟨a5E _,h,G⟩
theorem SB.next{S0 S:MS}{o:Rs Int}{v:Int}(h:SB S0 S)(hg:Gd S o)(hv:o.1 = .inl v):SB S0 o.2:=⟨Int.le_trans h.1 hg.1,hg.2.1,(hg.2.2 v hv).2.trans h.2.2⟩
theorem d8q{l:List Int}(h:l.length=3):∃a b d,l=[a,b,d]:=by
 rcases l with _|⟨a,_|⟨b,_|⟨d,_|⟨e,l⟩⟩⟩⟩<;>simp at h
 exact⟨a,b,d,G⟩
theorem d8s{l:List Int}(h:l.length=2):∃a b,l=[a,b]:=by
 rcases l with _|⟨a,_|⟨b,_|⟨d,l⟩⟩⟩<;>simp at h
 exact⟨a,b,G⟩
theorem d8a{l:List Int}(h:l.length=1):∃a,l=[a]:=by
 rcases l with _|⟨a,_|⟨b,l⟩⟩<;>simp at h
 exact⟨a,G⟩
theorem b7d{α β:Type} [DecidableEq α]{a:α}{c:β}:∀{l:List (α×β)},(G6 l a c).map Prod.fst=if a∈l.map Prod.fst then l.map Prod.fst else l.map Prod.fst++[a]
 | []=>by simp[G6]
 |(b,d)::l=>by
  rw[G6];by_cases h:a=b
  .subst h;simp
  .rw [H h,a8C,b7d (l:=l)];by_cases h2:a∈l.map Prod.fst
   .rw [W h2,W (by rw[a8C];exact a4a _ h2)];rfl
   .rw [H h2,H (by rw[a8C,I0];exact λe=>e.elim h h2)];rfl
theorem d4c [DecidableEq α]{a:α}{c:β}{l:List (α×β)}(h:(l.map Prod.fst).Nodup):((G6 l a c).map Prod.fst).Nodup:=by
 rw[b7d]
 split
 .exact h
 .rename_i hn;exact List.nodup_append.2 ⟨h,Q,λx hx y hy=>by rw[a0r.1 hy];exact λe=>hn (e▸hx)⟩
theorem b5C{α β:Type} [DecidableEq α]{a:α}{c:β}:∀{l:List (α×β)},(l.map Prod.fst).Nodup->(a,c)∈l->glk l a=some c
 | [],_,h=>by cases h
 |(b,d)::l,hn,h=>by
  rw[a8C,List.nodup_cons]at hn;rw[glk]
  rcases I0.1 h with h|h
  .injection h with h1 h2;rw[W h1,h2]
  .rw [H]
   .exact b5C hn.2 h
   .intro e;exact hn.1 (e▸D8.2 ⟨_,h,G⟩)
structure a5y(me:EM):Prop where
 nd:(me.map Prod.fst).Nodup
 key:∀q e,(q,e)∈me->q=A9 e.k e.p e.o
theorem a5y.add(h:a5y me)(x:En):a5y (a0a me x):=by
 refine⟨d4c h.nd,λq e he=>?_⟩
 rcases a61 he with h1|h1
 .injection h1 with h1 h2
  subst h1 h2;cases hg:glk me (A9 x.k x.p x.o)with
  |none=>rfl
  |some f=>exact(h.key _ f (b41 hg):A9 x.k x.p x.o=A9 f.k f.p f.o)
 .exact h.key q e h1
theorem a5y.adds{path pkg:D}:∀{l:List De} {k:Nat} {me:EM},a5y me->a5y (addDs me path pkg l k)
 | [],_,_,h=>h
 |_::l,k,_,h=>a5y.adds (l:=l) (k:=k+1) (h.add _)
theorem a5y.steps:∀{l:List Fi} {s:WS},a5y s.2.2->a5y (a4X l s).2.2
 | [],_,h=>h
 |f::l,s,h=>by
  refine a5y.steps (l:=l) (s:=P7 s f) ?_;unfold P7
  split
  .split
   .exact h
   .exact h.adds
  .exact h
theorem c2J(fl:List Fi):a5y (w8 fl).2.2:=by
 unfold w8
 split
 .exact a5y.steps ⟨Q,λq e h=>by cases h⟩
 .exact ⟨Q,λq e h=>by cases h⟩
theorem d8L{x y:En}(h:plE x=plE y):A9 x.k x.p x.o=A9 y.k y.p y.o:=by
 unfold plE at h;injection h with _ h
 injection h with h1 h
 injection h with h2 h3
 unfold A9;rw[h1,h2,h3]
theorem a5y.inj(h:a5y me){x y:En}(hx:x∈me.map Prod.snd)(hy:y∈me.map Prod.snd)(he:plE x=plE y):x=y:=by
 obtain⟨⟨q,x⟩,h1,rfl⟩:=D8.1 hx;obtain⟨⟨q',y⟩,h2,rfl⟩:=D8.1 hy;have e1:=h.key _ _ h1;have e2:=h.key _ _ h2;have e3:q=q':=e1.trans ((d8L he).trans e2.symm);subst e3;have:=(b5C h.nd h1).symm.trans (b5C h.nd h2);injection this
def tsB(x:En):Bool:=x.k == 2&&x.ct == 1
def tsL(m:List En):List (D×D):=(m.filter tsB).map λx=>(x.p,x.o)
def c62:D×D->D×D->Int:=lxC Go.Lib.compareBytes Go.Lib.compareBytes
theorem e2n:TWc c62:=d3t.lex d3t
structure TsP(me:EM)(aq:List (D×D)):Prop where
 mem:∀x,x∈aq↔(p8 true me 2 x.1 x.2).ct=1
 srt:aq.Pairwise λx y=>c62 x y= -1
theorem TsP.uniq{a b:List (D×D)}(ha:TsP me a)(hb:TsP me b):a=b:=by
 have nd:∀{l:List (D×D)},(l.Pairwise λx y=>c62 x y= -1)->l.Nodup:=λhl=>hl.imp λ{x y} fU e=>by
  rw[(e2n.eq x y).2 e]at fU;cases fU
 refine List.Perm.eq_of_pairwise (le:=λx y=>c62 x y= -1) (λx y _ _ h1 h2=>?_) ha.srt hb.srt ((List.perm_ext_iff_of_nodup (nd ha.srt) (nd hb.srt)).2 λx=>(ha.mem x).trans (hb.mem x).symm);have:=e2n.anti x y;omega
theorem a6X{R:α->α->Prop}{l:List α}(hp:∀x∈l,P x)(h:l.Pairwise R):l.Pairwise λx y=>P x/\P y/\R x y:=by
 induction l with
 |nil=>exact .nil
 |cons x l ih=>
  rw[a2N]at h⊢;exact⟨λy hy=>⟨hp x b2h,hp y (a4a _ hy),h.1 y hy⟩,ih (λy hy=>hp y (a4a _ hy)) h.2⟩
theorem e0U(h:a5y me){m:List En}(hp:m.Perm (me.map Prod.snd))(hs:m.Pairwise λx y=>a5I (plE y) (plE x)≠-1):TsP me (tsL m):=by
 have hf:∀x∈m.filter tsB,x∈me.map Prod.snd/\x.k=2/\x.ct=1:=λx hx=>by
  obtain⟨h1,h2⟩:=b4A.1 hx;simp only[tsB,R9,beq_iff_eq]at h2;exact⟨hp.mem_iff.1 h1,h2⟩
 have hglk:∀x∈me.map Prod.snd,glk me (A9 x.k x.p x.o)=some x:=λx hx=>by
  obtain⟨⟨q,x⟩,h1,rfl⟩:=D8.1 hx;have:=h.key _ _ h1;subst this;exact b5C h.nd h1
 refine⟨λx=>?_,?_⟩
 .unfold tsL;rw[D8];constructor
  .rintro ⟨e,he,rfl⟩;obtain⟨h1,h2,h3⟩:=hf e he;have hg:=hglk e h1;rw[h2]at hg;unfold p8;rw[W G,hg];exact h3
  .intro hx;unfold p8 at hx;rw[W G]at hx;cases hg:glk me (A9 2 x.1 x.2)with
   |none=>rw[hg]at hx;exact absurd (show(0:Int)=1 from hx) I
   |some e=>
    rw[hg]at hx;have hi:=b41 hg;have hk:=h.key _ _ hi;unfold A9 at hk;injection hk with k1 k2 k3
    rw[H I,H (by rw[<- k1];decide)]at k2;refine⟨e,b4A.2 ⟨hp.mem_iff.2 (D8.2 ⟨_,hi,G⟩),?_⟩,by rw[<- k2,<- k3]⟩;simp only[tsB,R9,beq_iff_eq];exact⟨k1.symm,hx⟩
 .unfold tsL;rw[b7R];have ez:m.Nodup:=hp.symm.nodup_iff.1 (by
   refine(c3l.1 h.nd |> λhn=>?_);rw[c3l,b7R];rw[b7R]at hn;refine(a6X (P:=λx=>x∈me) (λx hx=>hx) hn).imp λ{a b} ⟨ha,hb,bZ⟩ e=>bZ ?_;rw[h.key a.1 a.2 ha,h.key b.1 b.2 hb,e])
  have eh:=List.Pairwise.and hs (c3l.1 ez);refine(a6X (P:=λx=>x∈m.filter tsB) (λx hx=>hx) (eh.sublist List.filter_sublist)).imp λ{x y} ⟨hx,hy,fU,aB⟩=>?_;obtain⟨x1,x2,x3⟩:=hf x hx;obtain⟨y1,y2,y3⟩:=hf y hy;have hne2:plE x≠plE y:=λe=>aB (h.inj x1 y1 e);have e1:plE x=(0,x.p,2,x.o):=by unfold plE;rw[x2,H I,H I]
  have e2:plE y=(0,y.p,2,y.o):=by unfold plE;rw[y2,H I,H I]
  have c1:a5I (plE x) (plE y)= -1:=by
   have a:=b98.anti (plE x) (plE y)
   rcases b98.val (plE x) (plE y)with b|b|b
   .exact b
   .exact absurd ((b98.eq _ _).1 b) hne2
   .omega
  rw[e1,e2]at c1;have z:∀a:Int,X5 a a=0:=λa=>(d4h.eq a a).2 G;unfold a5I lxC at c1;simp only[z,ne_eq,not_true,if_false]at c1;unfold c62 lxC;exact c1
def ddS:List D->List D
 | []=>[]
 | [x]=>[x]
 |x::y::l=>if x=y then ddS (y::l)else x::ddS (y::l)
theorem c7Y(x y:D)(l:List D):ddS (x::y::l)=if x=y then ddS (y::l)else x::ddS (y::l):=by rw[ddS]
theorem c3V:∀(l:List D) (x y:D),ddS (l++[x,y])=if x=y then ddS (l++[x])else ddS (l++[x])++[y]
 | [],x,y=>by
  simp only[b2j,c7Y];by_cases h:x=y<;>simp[h,ddS]
 | [a],x,y=>by
  simp only[b19,b2j,c7Y];by_cases h1:a=x<;>by_cases h2:x=y<;>simp[h1,h2,ddS]
 |a::b::l,x,y=>by
  have h:=c3V (b::l) x y;simp only[b19]at h;simp only[b19,c7Y,h];by_cases h1:a=b<;>by_cases h2:x=y<;>simp[h1,h2]
theorem c1D{l:List D}{x y:D}(hx:l[j]?=some x)(hy:l[j+1]?=some y):ddS (l.take (j+2))=if x=y then ddS (l.take (j+1))else ddS (l.take (j+1))++[y]:=by
 have h1:l.take (j+1)=l.take j++[x]:=by rw[a3a,hx];rfl
 have h2:l.take (j+2)=l.take j++[x,y]:=by rw[show j+2=(j+1)+1 from G,a3a,hy,h1];simp
 rw[h1,h2,c3V]
theorem d9Y{l:List D}:ddS (l.take 1)=l.take 1:=by cases l<;>rfl
theorem c7X{l:List D}(h:l.length <2):ddS l=l:=by
 match l,h with
 | [],_=>rfl
 | [x],_=>rfl
theorem b5m:∀{l:List D} {x:D},x∈ddS l↔x∈l
 | [],_=>Iff.rfl
 | [_],_=>Iff.rfl
 |a::b::l,x=>by
  rw[ddS]
  split
  .rename_i h;subst h;rw[b5m (l:=a::l)];simp
  .rw [I0,b5m (l:=b::l),I0 (l:=b::l)]
theorem e1i{l:List D}(h:l≠[]):ddS l≠[]:=λe=>by
 obtain⟨x,hx⟩:=List.exists_mem_of_ne_nil l h;have:=b5m.2 hx;rw[e]at this;cases this
def nmL(x:De)(ks:List Int):List D:=(x.body.filter λe=>ks.any λy=>e.k == y).map Ex.name
def nmS(x:De)(ks:List Int):List D:=ddS (a1Y (nmL x ks))
theorem d5a{x:De}{ks:List Int}:s∈nmL x ks↔∃e∈x.body,e.k∈ks/\e.name=s:=by
 unfold nmL;simp only[D8,b4A,c1K,beq_iff_eq];constructor
 .rintro ⟨e,⟨h1,y,h2,h3⟩,h4⟩;exact⟨e,h1,h3▸h2,h4⟩
 .rintro ⟨e,h1,h2,h3⟩;exact⟨e,⟨h1,_,h2,G⟩,h3⟩
theorem a7Q{x:De}{ks:List Int}:s∈nmS x ks↔∃e∈x.body,e.k∈ks/\e.name=s:=b5m.trans ((List.mergeSort_perm _ _).mem_iff.trans d5a)
theorem c14(x:De)(ks:List Int):(nmL x ks).length<=x.body.length:=by unfold nmL;rw[N0];exact b7p _ _
theorem d1v:∀l:List D,(ddS l).length<=l.length
 | []=>n_6 _
 | [_]=>n_6 _
 |a::b::l=>by
  have h:=d1v (b::l);rw[ddS]
  split
  .exact a1F h Q
  .rw [J5,J5];omega
theorem a5h(x:De)(ks:List Int):(nmS x ks).length<=x.body.length:=a1F (d1v _) (by rw[show(a1Y (nmL x ks)).length=(nmL x ks).length from b6M _];exact c14 x ks)
abbrev nmV(x:De)(ks:List Int):CV:=.list ((nmS x ks).map scv) (gnn (nmS x ks).length) none
def tkE(e:Int)(m s:Nat):Option Nat:=if e=0 then D6 m s else none
def o0(e:Int)(m:Nat):b9:=if e=0 then l8 m else .dead
abbrev rbx(T:List Tok)(n:Nat)(at_ e:Int)(ps:List D)(b:List Ex)(s:Nat):b9:=.box [.list (T.map Tok.cv) true none,iv n,iv at_,iv e,.list (ps.map scv) (gnn ps.length) none,.list (b.map Ex.cv) (gnn b.length) (tkE e b.length s),.list [] false none]
abbrev rst(T:List Tok)(n:Nat)(at_ e:Int)(ps:List D)(b:List Ex):List b9:=[rbx T n at_ e ps b 1,o0 e b.length]
abbrev a6l(T:List Tok)(n:Nat)(at_ e:Int)(ps:List D)(b:List Ex):List b9:=[rbx T n at_ e ps b 2,.dead,o0 e b.length]
theorem c5Z{b:List Ex}{e:Int}{s s':Nat}(h:R s s'):O1 R (.list (b.map Ex.cv) (gnn b.length) (tkE e b.length s)) (.list (b.map Ex.cv) (gnn b.length) (tkE e b.length s')):=by
 refine .list G (λi r r' h1 h2=>by rw[h1]at h2;injection h2 with h2;rw[h2]) (λi j r r' c c' h1 h2 h3 h4=>?_) ?_
 .rw [h1]at h2;injection h2 with h2;subst h2;rw[h3]at h4;injection h4 with h4;subst h4
  exact .pure (C2 (f:=Ex.cv) (λa=>(Ex.pure a).all) _ r (n_3 h1) c (n_3 h3))
 .unfold tkE
  split
  .cases hb:b.length with
   |zero=>exact .inl ⟨G,G⟩
   |succ m=>exact .inr ⟨s,s',G,G,h⟩
  .exact .inl ⟨G,G⟩
theorem a7L{n:Nat}{at_ e:Int}{ps:List D}{b:List Ex}{s s':Nat}(h:R s s'):H3 R (rbx T n at_ e ps b s) (rbx T n at_ e ps b s'):=
 .box (.cons (.pure (a2V _ _)) (.cons (.pure (.val _)) (.cons (.pure (.val _)) (.cons (.pure (.val _)) (.cons (.pure (C1 _ _)) (.cons (c5Z h) (.cons (.pure (a17 [] false)) .nil)))))))
theorem a4V(e:Int)(m:Nat):H3 R (o0 e m) (o0 e m):=by
 unfold o0
 split
 .exact a2e m
 .exact .dead
def RAt(σ:List b9)(q s:Nat)(T:List Tok)(n:Nat)(at_ e:Int)(ps:List D)(b:List Ex):Prop:=σ[q]?=some (rbx T n at_ e ps b s)/\σ[s]?=some (o0 e b.length)/\q≠s
theorem a8k{f:FuncId}{c:α->CV}{g:α->Bool}{n:Nat}{at_ e:Int}{ps:List D}{b:List Ex}(ap:∀a∈args,o8 a)(hc:∀a,o8 (c a))
 (h:b8 CC f (.ptr 0 0::args) (rst T n at_ e ps b) λr τ=>∃a,C9 2 τ r (.ret (c a)) (if g a=true then a6l T (N a) (A a) (E a) ps (B a)else rst T (N a) (A a) (E a) ps (B a))/\P a){σ:List b9}{q s:Nat}(aw:RAt σ q s T n at_ e ps b):
 b8 CC f (.ptr q 0::args) σ λr τ=>∃a,r= .ret (c a)/\τ=(if g a=true then(σ.set q (rbx T (N a) (A a) (E a) ps (B a) σ.length)).set s .dead++[o0 (E a) (B a).length]else(σ.set q (rbx T (N a) (A a) (E a) ps (B a) s)).set s (o0 (E a) (B a).length))/\P a:=by
 obtain⟨h1,h2,h3⟩:=aw;have hq:=(n_2.1 h1).1;have hs:=(n_2.1 h2).1;have h':b8 CC f (.ptr 0 0::args) (rst T n at_ e ps b) λr τ=>∃a,r= .ret (c a)/\τ=(if g a=true then a6l T (N a) (A a) (E a) ps (B a)else rst T (N a) (A a) (E a) ps (B a))/\P a:=
  D7 hCC (h.mono λr τ ⟨a,k1,k2⟩=>⟨_,_,k1,a,G,G,k2⟩)
 refine I9 [q,s] hCC G (λi j k g1 g2=>?_) (λi k ob g1 g2=>?_) (.cons (.ptr G) (G7 ap)) h' λr τ hk=>?_
 .rcases i with _|_|i<;>rcases j with _|_|j<;>simp at g1 g2<;>first|rfl|(exfalso;exact h3 (g1.trans g2.symm))|(exfalso;exact h3 (g2.trans g1.symm))
 .rcases i with _|_|i
  .simp at g1 g2;subst g1 g2;exact⟨_,h1,a7L G⟩
  .simp at g1 g2;subst g1 g2;exact⟨_,h2,a4V _ _⟩
  .simp at g1
 .obtain ⟨a,rfl,rfl,hp⟩:=hk;refine⟨by split<;>simp,.ret (c a),(if g a=true then(σ.set q (rbx T (N a) (A a) (E a) ps (B a) σ.length)).set s .dead++[o0 (E a) (B a).length]else(σ.set q (rbx T (N a) (A a) (E a) ps (B a) s)).set s (o0 (E a) (B a).length)),.ret (.pure (hc a)),by split<;>simp,λk hk bi=>?_,λi k x ha hx=>?_,a,G,G,hp⟩
  .have n1:q≠k:=λe=>bi a2v;have n2:s≠k:=λe=>bi a2v
   split
   .rw [T6 (U hk)];simp[n1,n2]
   .simp [n1,n2]
  .split at hx<;>rename_i hg
   .rcases ha with ha|⟨ha,rfl⟩
    .rcases i with _|_|i
     .simp at ha hx;subst ha hx;refine⟨rbx T (N a) (A a) (E a) ps (B a) σ.length,?_,a7L (.inr ⟨Q,Q⟩)⟩;rw[W hg,T6 (U hq),a1c h3.symm];simp[hq]
     .simp at ha hx;subst ha hx;refine⟨.dead,?_,.dead⟩;rw[W hg,T6 (U hs)];simp[hs]
     .simp at ha
    .rcases i with _|_|_|i
     .simp at ha
     .simp at ha
     .simp at hx;subst hx;refine⟨o0 (E a) (B a).length,?_,a4V _ _⟩;rw[W hg,a5O Q];simp
     .simp at hx
   .rcases ha with ha|⟨ha,rfl⟩
    .rcases i with _|_|i
     .simp at ha hx;subst ha hx;refine⟨rbx T (N a) (A a) (E a) ps (B a) s,?_,a7L (.inl G)⟩;rw[H hg,a1c h3.symm];simp[hq]
     .simp at ha hx;subst ha hx;refine⟨o0 (E a) (B a).length,?_,a4V _ _⟩;rw[H hg];simp[hs]
     .simp at ha
    .rcases i with _|_|i
     .simp at ha
     .simp at ha
     .simp at hx
def Ok{α:Type}(e:Int)(o:Option α)(e':Int)(y:α):Prop:=(e=0->(o=some y/\e'=0)\/(o=none/\e'≠0))/\(e≠0->e'≠0)
theorem Ok.bind{e:Int}{f:α->Option β}{z:β}(h:Ok e o e1 y)(k:Ok e1 (f y) e2 z):Ok e (o.bind f) e2 z:=by
 refine⟨λh0=>?_,λh0=>k.2 (h.2 h0)⟩
 rcases h.1 h0 with⟨rfl,h1⟩|⟨rfl,h1⟩
 .exact k.1 h1
 .exact .inr ⟨G,k.2 h1⟩
theorem Ok.none{e:Int}(h:e'≠0):Ok e (Option.none:Option α) e' y:=⟨λ_=>.inr ⟨G,h⟩,λ_=>h⟩
theorem Ok.some{e:Int}:Ok e (Option.some y) e y:=⟨λh=>.inl ⟨G,h⟩,λh=>h⟩
theorem Ok.dead{e:Int}(h:e≠0)(h':e'≠0):Ok e o e' y:=⟨λh0=>absurd h0 h,λ_=>h'⟩
theorem d4B{b:List Ex}{e:Int}{s:Nat}(h:s<L):Old L (.list (b.map Ex.cv) (gnn b.length) (tkE e b.length s)):=
 .list (λi j r c h1 h2=>(C2 (f:=Ex.cv) (λa=>(Ex.pure a).all) _ r (n_3 h1) c (n_3 h2)).old) (λk hk=>by
  unfold tkE at hk;split at hk
  .cases hb:b.length with
   |zero=>rw[hb]at hk;cases hk
   |succ m=>rw[hb]at hk;injection hk with hk;omega
  .cases hk)
theorem b1E(n:Nat)(e:Int)(m:Nat):G1 n (o0 e m):=by
 unfold o0
 split
 .exact a4L _ _
 .trivial
theorem b4F{n:Nat}{at_ e:Int}{ps:List D}{b:List Ex}{s:Nat}(h:s<L):G1 L (rbx T n at_ e ps b s):=x9 ⟨U8 _ _ _,.val _,.val _,.val _,B9 _ _ _,d4B h,N4 _ [] false,O⟩
theorem a18{rest:List b9}{n:Nat}{at_ e:Int}{ps:List D}{b:List Ex}(eT:τ=rbx T n at_ e ps b 1::o0 e b.length::rest)(hc:Old 2 c):C9 2 τ (.ret c) (.ret c) (rst T n at_ e ps b):=by
 subst eT;exact⟨[0,1],G,G,.ret (.old hc),.inr ⟨_,G,.same G (b4F I)⟩,.inr ⟨_,G,.same G U4⟩,O⟩
theorem d8y{n:Nat}{at_ e:Int}{ps:List D}{b:List Ex}(he:e≠0)(h0:τ[0]?=some (.box [.list (T.map Tok.cv) true none,iv n,iv at_,iv e,.list (ps.map scv) (gnn ps.length) none,.list (b.map Ex.cv) (gnn b.length) tok,.list [] false none]))(hc:Old 2 c):C9 2 τ (.ret c) (.ret c) (rst T n at_ e ps b):=by
 have ht:∀m s,tkE e m s=none:=λm s=>H he;have hp:o0 e b.length = .dead:=H he;refine⟨[0,1],G,G,.ret (.old hc),.inr ⟨_,h0,.box ⟨.old a04,.old (.val _),.old (.val _),.old (.val _),.old H8,.list (λr hr c hc=>(C2 (f:=Ex.cv) (λa=>(Ex.pure a).all) _ r hr c hc).old) (λj hj=>by rw[ht]at hj;cases hj),.old a3l,O⟩⟩,.inl hp,O⟩
theorem d3L{f:FuncId}{n:Nat}{at_ e:Int}{ps:List D}{b:List Ex}(ap:∀a∈args,o8 a)(hc:o8 c)
 (h:b8 CC f (.ptr 0 0::args) (rst T n at_ e ps b) λr τ=>C9 2 τ r (.ret c) (rst T n at_ e ps b)){σ:List b9}{q s:Nat}(aw:RAt σ q s T n at_ e ps b):b8 CC f (.ptr q 0::args) σ λr τ=>r= .ret c/\τ=σ:=by
 refine(a8k (α:=Unit) (c:=λ_=>c) (N:=λ_=>n) (A:=λ_=>at_) (E:=λ_=>e) (B:=λ_=>b) (g:=λ_=>false) (P:=λ_=>True) ap (λ_=>hc) (h.mono λr τ hh=>⟨(),hh,O⟩) aw).mono λr τ hh=>?_;obtain⟨_,h1,h2,_⟩:=hh;refine⟨h1,h2.trans ?_⟩;show(σ.set q _).set s _=σ;rw[a4H aw.1,a4H aw.2.1]
abbrev rS0(σ:List b9)(q s:Nat)(T:List Tok)(n:Nat)(at_ e:Int)(ps:List D)(b:List Ex):List b9:=(σ.set q (rbx T n at_ e ps b s)).set s (o0 e b.length)
theorem Y4{f:FuncId}{c:α->CV}{n:Nat}{at_ e:Int}{ps:List D}{b:List Ex}(ap:∀a∈args,o8 a)(hc:∀a,o8 (c a))
 (h:b8 CC f (.ptr 0 0::args) (rst T n at_ e ps b) λr τ=>∃a,C9 2 τ r (.ret (c a)) (rst T (N a) (A a) (E a) ps b)/\P a){σ:List b9}{q s:Nat}(aw:RAt σ q s T n at_ e ps b):
 b8 CC f (.ptr q 0::args) σ λr τ=>∃a,r= .ret (c a)/\τ=rS0 σ q s T (N a) (A a) (E a) ps b/\P a:=
 a8k (c:=c) (N:=N) (A:=A) (E:=E) (B:=λ_=>b) (g:=λ_=>false) (P:=P) ap hc (h.mono λ_ _ ⟨a,h1,h2⟩=>⟨a,h1,h2⟩) aw
theorem d3Q(T:List Tok)(n:Nat)(at_ e:Int)(ps:List D)(b:List Ex)(_:T.length<=1000000)(hn:n<T.length):b8 CC 175 [.ptr 0 0] (rst T n at_ e ps b) (λr τ=>C9 2 τ r (.ret (.agg (tk T n).cells)) (rst T n at_ e ps b)):=by
 refine qO Tryz.func175 ?_;refine qD (j6 G a2M G i9 ?_);refine cW 10 ?_;refine a2S ?_;refine hY (i7 G O G b4B G Tryz.sizeOf162 I) ?_;refine hY (l9 G O G Tryz.isAgg162 G G) ?_;refine a2S ?_;refine hY c9X ?_;refine hY a0F ?_;refine d7N ?_;refine a3D ?_;refine z_4 ?_;exact⟨_,B7 G b3S,a18 G (a5j _ _)⟩
theorem a0k{n:Nat}{at_ e:Int}{ps:List D}{b:List Ex}(hT:T.length<=1000000)(hn:n<T.length){s:Nat}(aw:RAt σ q s T n at_ e ps b):b8 CC 175 [.ptr q 0] σ λr τ=>r= .ret (.agg (tk T n).cells)/\τ=σ:=d3L (λ_ h=>by cases h) (a0j _) (d3Q T n at_ e ps b hT hn) aw
theorem c9Y(T:List Tok)(n:Nat)(at_ e:Int)(ps:List D)(b:List Ex)(x y:Int)(hy:y≠0):b8 CC 174 [.ptr 0 0,iv x,iv y] (rst T n at_ e ps b) (λr τ=>∃a:Int×Int,C9 2 τ r (.ret (.tup [])) (rst T n a.1 a.2 ps b)/\a.2≠0):=by
 refine qO Tryz.func174 ?_;refine qC ?_ ?_<;>intro h1
 .have he:e=0:=U h1;refine qD (i0 G O O G j1 t_1 (.inl G) G G (nb G) ?_);refine qD (i0 G O O G j1 b4Z (.inl G) G G (nb G) ?_);exact⟨_,rE0,(by exact⟨(x,y),d8y hy G (.tup λi c h=>by simp at h),hy⟩)⟩
 .have he:e≠0:=U h1;exact⟨_,rE0,(by exact⟨(at_,e),a18 G (.tup λi c h=>by simp at h),he⟩)⟩
theorem a0u{n:Nat}{at_ e:Int}{ps:List D}{b:List Ex}(x y:Int)(hy:y≠0){s:Nat}(aw:RAt σ q s T n at_ e ps b):b8 CC 174 [.ptr q 0,iv x,iv y] σ λr τ=>∃a:Int×Int,r= .ret (.tup [])/\τ=rS0 σ q s T n a.1 a.2 ps b/\a.2≠0:=
 Y4 (c:=λ_:Int×Int=>.tup []) (N:=λ_=>n) (A:=λa=>a.1) (E:=λa=>a.2) (λ_ h=>by simp at h;rcases h with rfl|rfl<;>exact .val _) (λ_=>D3 trivial) (c9Y T n at_ e ps b x y hy) aw
def sgB(T:List Tok)(n:Nat)(e:Int)(k:Int)(Jj:D):Bool:=decide (e=0)&&isT (tk T n) k Jj
theorem T8{n:Nat}{e:Int}(h:sgB T n e k Jj=true):e=0/\isT (tk T n) k Jj=true:=by
 simpa[sgB]using h
theorem a9S{n:Nat}{e:Int}(h:sgB T n e k Jj=true):Ok e (pIs T n k Jj) e (n+1):=by
 obtain⟨h1,h2⟩:=T8 h;rw[pIs,W h2];exact .some
theorem a94{n:Nat}{e:Int}{y:Nat}(h:sgB T n e k Jj=false)(h2:e2≠0):Ok e (pIs T n k Jj) e2 y:=by
 by_cases he:e=0
 .have:isT (tk T n) k Jj=false:=by simpa[sgB,he]using h
  rw[pIs,H (by rw[this];decide)];exact .none h2
 .exact .dead he h2
theorem c6X(T:List Tok)(n:Nat)(at_ e:Int)(ps:List D)(b:List Ex)(hT:T.length<=1000000)(hn:n<T.length)(_:a0X T)(Jj:D):b8 CC 223 [.ptr 0 0,(sv Jj)] (rst T n at_ e ps b) (λr τ=>C9 2 τ r (.ret (.val (.bool (sgB T n e 4 Jj)))) (rst T (if(sgB T n e 4 Jj)=true then n+1 else n) at_ e ps b)):=by
 refine qO Tryz.func223 ?_;refine qG F9 ?_;refine qG c1S ?_;refine qG c10 ?_;refine a2P ?_;refine qG F9 ?_;refine qG c1S ?_;refine qG d1a ?_;refine b7h ?_;refine cC ?_ ?_<;>intro h1
 .have hv:(sgB T n e 4 Jj)=true:=by simpa[sgB,isT,b1k]using h1
  rw[hv,W G];refine qk ?_;refine z_6 ?_;exact d5e
 .have hv:(sgB T n e 4 Jj)=false:=by simpa[sgB,isT,b1k]using h1
  rw[hv,H I];refine qk ?_;exact d5e
theorem V3{n:Nat}{at_ e:Int}{ps:List D}{b:List Ex}(hT:T.length<=1000000)(hn:n<T.length)(hW:a0X T)(Jj:D){s:Nat}(aw:RAt σ q s T n at_ e ps b):b8 CC 223 [.ptr q 0,(sv Jj)] σ λr τ=>∃a:Bool×Nat,r= .ret (.val (.bool a.1))/\τ=rS0 σ q s T a.2 at_ e ps b/\(a.1=(sgB T n e 4 Jj)/\(a.1=true->a.2=n+1)/\(a.1=false->a.2=n)/\a.2 <T.length):=
 Y4 (c:=λa:Bool×Nat=>.val (.bool a.1)) (N:=λa=>a.2) (A:=λ_=>at_) (E:=λ_=>e) (λ_ h=>by simp at h;subst h;exact .val _) (λ_=>.val _) ((c6X T n at_ e ps b hT hn hW Jj).mono λr τ h=>⟨((sgB T n e 4 Jj),if(sgB T n e 4 Jj)=true then n+1 else n),h,G,λh=>W h,λh=>H (by dsimp only at h;rw[h];decide),by
  dsimp only
  split
  .rename_i h2;exact hW n hn (a6o (T8 h2).2 I)
  .exact hn⟩) aw
theorem d2d(T:List Tok)(n:Nat)(at_ e:Int)(ps:List D)(b:List Ex)(hT:T.length<=1000000)(hn:n<T.length)(_:a0X T)(Jj:D):b8 CC 173 [.ptr 0 0,(sv Jj)] (rst T n at_ e ps b) (λr τ=>C9 2 τ r (.ret (.val (.bool (sgB T n e 1 Jj)))) (rst T (if(sgB T n e 1 Jj)=true then n+1 else n) at_ e ps b)):=by
 refine qO Tryz.func173 ?_;refine qG F9 ?_;refine qG c1S ?_;refine qG c10 ?_;refine a2P ?_;refine qG F9 ?_;refine qG c1S ?_;refine qG d1a ?_;refine b7h ?_;refine cC ?_ ?_<;>intro h1
 .have hv:(sgB T n e 1 Jj)=true:=by simpa[sgB,isT,b1k]using h1
  rw[hv,W G];refine qk ?_;refine z_6 ?_;exact d5e
 .have hv:(sgB T n e 1 Jj)=false:=by simpa[sgB,isT,b1k]using h1
  rw[hv,H I];refine qk ?_;exact d5e
theorem Y1{n:Nat}{at_ e:Int}{ps:List D}{b:List Ex}(hT:T.length<=1000000)(hn:n<T.length)(hW:a0X T)(Jj:D){s:Nat}(aw:RAt σ q s T n at_ e ps b):b8 CC 173 [.ptr q 0,(sv Jj)] σ λr τ=>∃a:Bool×Nat,r= .ret (.val (.bool a.1))/\τ=rS0 σ q s T a.2 at_ e ps b/\(a.1=(sgB T n e 1 Jj)/\(a.1=true->a.2=n+1)/\(a.1=false->a.2=n)/\a.2 <T.length):=
 Y4 (c:=λa:Bool×Nat=>.val (.bool a.1)) (N:=λa=>a.2) (A:=λ_=>at_) (E:=λ_=>e) (λ_ h=>by simp at h;subst h;exact .val _) (λ_=>.val _) ((d2d T n at_ e ps b hT hn hW Jj).mono λr τ h=>⟨((sgB T n e 1 Jj),if(sgB T n e 1 Jj)=true then n+1 else n),h,G,λh=>W h,λh=>H (by dsimp only at h;rw[h];decide),by
  dsimp only
  split
  .rename_i h2;exact hW n hn (a6o (T8 h2).2 I)
  .exact hn⟩) aw
theorem c7f(T:List Tok)(n:Nat)(at_ e:Int)(ps:List D)(b:List Ex)(hT:T.length<=1000000)(hn:n<T.length)(hW:a0X T)(Jj:D):b8 CC 177 [.ptr 0 0,(sv Jj)] (rst T n at_ e ps b) (λr τ=>∃a:Nat×Int×Int,C9 2 τ r (.ret (.tup [])) (rst T a.1 a.2.1 a.2.2 ps b)/\(Ok e (pIs T n 4 Jj) a.2.2 a.1/\a.1 <T.length)):=by
 refine qO Tryz.func177 ?_;refine qD (c4 G a8x j2 (V3 hT hn hW Jj ⟨G,G,I⟩) G ?_);rintro⟨v,m⟩ ⟨hv,cz,cc,hm⟩;dsimp only at hv cz cc hm⊢;refine qN [rbx T m at_ e ps b 1,o0 e b.length] G (qC ?_ ?_)<;> intro h1
 .have hvf:v=false:=U h1;rw[hvf]at hv;refine u (c5 G a6S ⟨O,O⟩ (a0k hT hm ⟨G,G,I⟩) G) ?_;refine d6O ?_;rintro⟨x,y⟩ hy;dsimp only at hy⊢;refine qN [rbx T m x y ps b 1,o0 y b.length] G ?_;exact⟨_,rE0,(by exact⟨(m,x,y),a18 G (.tup λi c h=>by simp at h),a94 hv.symm hy,hm⟩)⟩
 .have hvt:v=true:=U h1;rw[hvt]at hv;exact⟨_,rE0,(by exact⟨(m,at_,e),a18 G (.tup λi c h=>by simp at h),by dsimp only;rw[cz hvt];exact a9S hv.symm,hm⟩)⟩
theorem M5{n:Nat}{at_ e:Int}{ps:List D}{b:List Ex}(hT:T.length<=1000000)(hn:n<T.length)(hW:a0X T)(Jj:D){s:Nat}(aw:RAt σ q s T n at_ e ps b):b8 CC 177 [.ptr q 0,(sv Jj)] σ λr τ=>∃a:Nat×Int×Int,r= .ret (.tup [])/\τ=rS0 σ q s T a.1 a.2.1 a.2.2 ps b/\(Ok e (pIs T n 4 Jj) a.2.2 a.1/\a.1 <T.length):=
 Y4 (c:=λ_:Nat×Int×Int=>.tup []) (N:=λa=>a.1) (A:=λa=>a.2.1) (E:=λa=>a.2.2) (λ_ h=>by simp at h;subst h;exact .val _) (λ_=>D3 trivial) (c7f T n at_ e ps b hT hn hW Jj) aw
abbrev a7D:List D:=[[112,97,99,107,97,103,101],[105,109,112,111,114,116],[102,117,110,99],[116,101,115,116],[103,101,110],[105,102],[116,104,101,110],[101,108,115,101],[114,101,97,100],[115,105,122,101],[104,97,115],[101,110,118],[102,108,105,112]]
theorem b7q{l:List D}{w:D}(h:l[i]?=some w)(hd:decide (Jj∈l)=decide (Jj∈l.drop i))(aB:¬w=Jj):decide (Jj∈l)=decide (Jj∈l.drop (i+1)):=by
 obtain⟨ai,rfl⟩:=n_2.1 h;rw[hd,a0v ai];have:¬Jj=l[i]:=λe=>aB e.symm;exact b3u.2 ⟨λh=>(I0.1 h).resolve_left this,a4a _⟩
theorem b0Y(l:List D)(nn:Bool)(Jj:D)(hl:l.length<=1000000)(σ:List b9):b8 CC 178 [(.list (l.map scv) nn none),(sv Jj)] σ λr ae=>r= .ret (.val (.bool (decide (Jj∈l))))/\ae=σ:=by
 refine b8.anyw hCC pu_ pu_ (c9 (qO Tryz.func178 ?_)) σ;refine u P0 ?_;refine u0 hCC (α:=Nat) (λi=>[(1,(sv Jj)),(7,(.list (l.map scv) nn none)),(8,iv l.length),(9,iv i)]) (λ_=>[]) (λi=>i<=l.length/\decide (Jj∈l)=decide (Jj∈l.drop i)) (λi=>l.length -i) 0 ⟨n_4 _,G⟩ tu_ (au:=[]) G D5 uz_ ?_;intro i ⟨hi,hd⟩;refine qk (qC ?_ ?_)<;> intro h1
 .have ai:i<l.length:=sm_ h1;obtain⟨w,hb⟩:∃w,l[i]?=some w:=⟨l[i]'ai,Q⟩;refine u a4C ?_;refine u a5Q ?_;refine qC ?_ ?_<;>intro h2
  .have hw:w=Jj:=U h2;refine c6 ?_;exact⟨_,rE1,_,_,G,G,j9 (show true=decide (Jj∈l)from(a2m (hw▸n_3 hb)).symm)⟩
  .have hw:¬w=Jj:=U h2;refine u o3 ?_;exact⟨(i+1),_,⟨J,J,b7q hb hd hw⟩,tu_,G⟩
 .have aL:l.length<=i:=sm_ h1;refine V5 ?_;exact⟨_,rE1,_,_,G,G,j9 (show false=decide (Jj∈l) by rw[hd,a0V aL];simp)⟩
theorem b2x(Jj:D)(σ:List b9):b8 CC 222 [(sv Jj)] σ λr ae=>r= .ret (.val (.bool (T0 Jj)))/\ae=σ:=by
 refine b8.anyw hCC pu_ pu_ (c9 (qO Tryz.func222 ?_)) σ;refine u (A6 (a7D.map scv) G ⟨G,G,G,G,G,G,G,G,G,G,G,G,G,O⟩ t_2 t_0 t_4 G G G G G G G G G) ?_;refine u P0 ?_;refine u0 hCC (α:=Nat) (λi=>[(0,(sv Jj)),(5,(.list (a7D.map scv) true none)),(6,iv a7D.length),(7,iv i)]) (λ_=>[]) (λi=>i<=a7D.length/\decide (Jj∈a7D)=decide (Jj∈a7D.drop i)) (λi=>a7D.length -i) 0 ⟨n_4 _,G⟩ tu_ (au:=[]) G D5 uz_ ?_;intro i ⟨hi,hd⟩;have hL:a7D.length=13:=G;refine qk (qC ?_ ?_)<;> intro h1
 .have ai:i<a7D.length:=sm_ h1;obtain⟨w,hb⟩:∃w,a7D[i]?=some w:=⟨a7D[i]'ai,a2o ai⟩;refine u a4C ?_;refine u a5Q ?_;refine qC ?_ ?_<;>intro h2
  .have hw:Jj=w:=U h2;refine c6 ?_;exact⟨_,rE1,_,_,G,G,j9 (show true=decide (Jj∈a7D)from(a2m (hw▸n_3 hb)).symm)⟩
  .have hw:¬Jj=w:=U h2;refine u o3 ?_;exact⟨(i+1),_,⟨J,J,b7q hb hd (λe=>hw e.symm)⟩,tu_,G⟩
 .have aL:a7D.length<=i:=sm_ h1;refine V5 ?_;exact⟨_,rE1,_,_,G,G,j9 (show false=decide (Jj∈a7D) by rw[hd,a0V aL];simp)⟩
def a1B(T:List Tok)(path:Bool)(n:Nat):Option (Tok×Nat):=(E8 T n 3).bind λx=>if(if path=true then F6 x.1.t else C0 x.1.t)=true then some x else none
theorem a3O(T:List Tok)(n:Nat):a1B T true n=a0E T n:=by simp[a1B,a0E]
theorem c5F{n:Nat}{e:Int}{y:D×Nat}(h:e≠0\/(tk T n).k≠1\/T0 (tk T n).t=true)(h2:e2≠0):Ok e ((I7 T n).map λx=>(x.1.t,x.2)) e2 y:=by
 by_cases he:e=0
 .have hn:I7 T n=none:=by
   unfold I7 E8
   split
   .rename_i hk
    rcases h with h|h|h
    .exact absurd he h
    .exact absurd hk h
    .simp [h]
   .rfl
  rw[hn];exact .none h2
 .exact .dead he h2
theorem c5u{n:Nat}{e:Int}(h:(tk T n).k=1/\T0 (tk T n).t=false):Ok e ((I7 T n).map λx=>(x.1.t,x.2)) e ((tk T n).t,n+1):=by
 have hn:I7 T n=some (tk T n,n+1):=by
  unfold I7 E8;rw[W h.1];simp[h.2]
 rw[hn];exact .some
theorem c9P(T:List Tok)(n:Nat)(at_ e:Int)(ps:List D)(b:List Ex)(hT:T.length<=1000000)(hn:n<T.length)(hW:a0X T):b8 CC 176 [.ptr 0 0] (rst T n at_ e ps b) (λr τ=>∃a:D×Nat×Int×Int,C9 2 τ r (.ret (sv a.1)) (rst T a.2.1 a.2.2.1 a.2.2.2 ps b)/\(Ok e ((I7 T n).map λx=>(x.1.t,x.2)) a.2.2.2 (a.1,a.2.1)/\a.2.1 <T.length)):=by
 refine qO Tryz.func176 ?_;refine u b6t ?_;refine z_3 ?_;refine qG c6w ?_;refine qG a7N ?_;refine a5A ?_;refine qG b6V ?_;refine qG a29 ?_;refine qG (λhg=>c5 G Tryz.call222 ⟨hg,O⟩ (b2x _ _) G) ?_;refine u S4 ?_;refine qC ?_ ?_<;>intro h1
 .have hv:e≠0\/(tk T n).k≠1\/T0 (tk T n).t=true:=by simpa[or_assoc]using h1
  refine qD (c4 G b0n a3T (a0u _ _ I ⟨G,G,I⟩) G ?_);rintro⟨x,y⟩ hy;dsimp only at hy⊢;refine d0Y ?_;exact⟨_,rE1,(by exact⟨([],n,x,y),a18 G (.val _),c5F hv hy,hn⟩)⟩
 .have hv:e=0/\(tk T n).k=1/\T0 (tk T n).t=false:=by simpa[and_assoc]using h1
  refine z_6 ?_;refine c6 ?_;exact⟨_,rE1,(by exact⟨((tk T n).t,n+1,at_,e),a18 G (.val _),c5u hv.2,hW n hn (by rw[hv.2.1];decide)⟩)⟩
theorem a7A{n:Nat}{at_ e:Int}{ps:List D}{b:List Ex}(hT:T.length<=1000000)(hn:n<T.length)(hW:a0X T){s:Nat}(aw:RAt σ q s T n at_ e ps b):b8 CC 176 [.ptr q 0] σ λr τ=>∃a:D×Nat×Int×Int,r= .ret (sv a.1)/\τ=rS0 σ q s T a.2.1 a.2.2.1 a.2.2.2 ps b/\(Ok e ((I7 T n).map λx=>(x.1.t,x.2)) a.2.2.2 (a.1,a.2.1)/\a.2.1 <T.length):=
 Y4 (c:=λa:D×Nat×Int×Int=>(sv a.1)) (N:=λa=>a.2.1) (A:=λa=>a.2.2.1) (E:=λa=>a.2.2.2) (λ_ h=>by simp at h;try(subst h;exact .val _)) (λ_=>.val _) (c9P T n at_ e ps b hT hn hW) aw
theorem c45{n:Nat}{e:Int}{path:Bool}{y:D×Nat}(h:e≠0\/(tk T n).k≠3\/(if path=true then F6 (tk T n).t else C0 (tk T n).t)=false)(h2:e2≠0):Ok e ((a1B T path n).map λx=>(x.1.t,x.2)) e2 y:=by
 by_cases he:e=0
 .have hn:a1B T path n=none:=by
   unfold a1B E8
   split
   .rename_i hk
    rcases h with h|h|h
    .exact absurd he h
    .exact absurd hk h
    .cases path<;>simp_all
   .rfl
  rw[hn];exact .none h2
 .exact .dead he h2
theorem c5M{n:Nat}{e:Int}{path:Bool}(h:(tk T n).k=3/\(if path=true then F6 (tk T n).t else C0 (tk T n).t)=true):Ok e ((a1B T path n).map λx=>(x.1.t,x.2)) e ((tk T n).t,n+1):=by
 have hn:a1B T path n=some (tk T n,n+1):=by
  unfold a1B E8;rw[W h.1];have h2:=h.2;cases path<;>simp_all
 rw[hn];exact .some
theorem d0q(T:List Tok)(n:Nat)(at_ e:Int)(ps:List D)(b:List Ex)(hT:T.length<=1000000)(hn:n<T.length)(hW:a0X T)(path:Bool)(hL:d2a T):b8 CC 224 [.ptr 0 0,(.val (.bool path))] (rst T n at_ e ps b) (λr τ=>∃a:D×Nat×Int×Int,C9 2 τ r (.ret (sv a.1)) (rst T a.2.1 a.2.2.1 a.2.2.2 ps b)/\(Ok e ((a1B T path n).map λx=>(x.1.t,x.2)) a.2.2.2 (a.1,a.2.1)/\a.2.1 <T.length)):=by
 refine qO Tryz.func224 ?_;refine u b6t ?_;refine z_3 ?_;refine qG c6w ?_;refine qG a7N ?_;refine a5A ?_;refine qG F9 ?_;refine qG b1b ?_;refine d6i ?_;refine qH G G (λhk hg=>c5 G d2D ⟨⟨hk,hg⟩,O⟩ (a8B _ _) G) ?_;refine qH G G (λhk hg=>b1Z G ⟨hk,hg⟩ G) ?_;refine qG b7A ?_;refine u S4 ?_;refine qG F9 ?_;refine qG a3Y ?_;refine qG b1b ?_;refine d6i ?_;refine qH G G (λhk hg=>c5 G Tryz.call94 ⟨⟨hk,hg⟩,O⟩ (b3d _ _) G) ?_;refine qH G G (λhk hg=>b1Z G ⟨hk,hg⟩ G) ?_;refine qG b7A ?_;refine u S4 ?_;refine qC ?_ ?_<;>intro h1
 .have hv:e≠0\/(tk T n).k≠3\/(if path=true then F6 (tk T n).t else C0 (tk T n).t)=false:=by
   cases path<;>simpa[or_assoc]using h1
  refine qD (c4 G b0n a3T (a0u _ _ I ⟨G,G,I⟩) G ?_);rintro⟨x,y⟩ hy;dsimp only at hy⊢;refine d0Y ?_;exact⟨_,rE1,(by exact⟨([],n,x,y),a18 G (.val _),c45 hv hy,hn⟩)⟩
 .have hv:e=0/\(tk T n).k=3/\(if path=true then F6 (tk T n).t else C0 (tk T n).t)=true:=by
   cases path<;>simpa[and_assoc]using h1
  refine z_6 ?_;refine c6 ?_;exact⟨_,rE1,(by exact⟨((tk T n).t,n+1,at_,e),a18 G (.val _),c5M hv.2,hW n hn (by rw[hv.2.1];decide)⟩)⟩
theorem a91{n:Nat}{at_ e:Int}{ps:List D}{b:List Ex}(hT:T.length<=1000000)(hn:n<T.length)(hW:a0X T)(path:Bool)(hL:d2a T){s:Nat}(aw:RAt σ q s T n at_ e ps b):b8 CC 224 [.ptr q 0,(.val (.bool path))] σ λr τ=>∃a:D×Nat×Int×Int,r= .ret (sv a.1)/\τ=rS0 σ q s T a.2.1 a.2.2.1 a.2.2.2 ps b/\(Ok e ((a1B T path n).map λx=>(x.1.t,x.2)) a.2.2.2 (a.1,a.2.1)/\a.2.1 <T.length):=
 Y4 (c:=λa:D×Nat×Int×Int=>(sv a.1)) (N:=λa=>a.2.1) (A:=λa=>a.2.2.1) (E:=λa=>a.2.2.2) (λ_ h=>by simp at h;try(subst h;exact .val _)) (λ_=>.val _) (d0q T n at_ e ps b hT hn hW path hL) aw
theorem b62{n:Nat}{e:Int}{y:Int×Nat}(h:e≠0\/(tk T n).k≠2)(h2:e2≠0):Ok e ((E8 T n 2).map λx=>(x.1.n,x.2)) e2 y:=by
 by_cases he:e=0
 .have hn:E8 T n 2=none:=by
   unfold E8
   split
   .rename_i hk
    rcases h with h|h
    .exact absurd he h
    .exact absurd hk h
   .rfl
  rw[hn];exact .none h2
 .exact .dead he h2
theorem b9f{n:Nat}{e:Int}(h:(tk T n).k=2):Ok e ((E8 T n 2).map λx=>(x.1.n,x.2)) e ((tk T n).n,n+1):=by
 have hn:E8 T n 2=some (tk T n,n+1):=by
  unfold E8;rw[W h];rfl
 rw[hn];exact .some
theorem b9u(T:List Tok)(n:Nat)(at_ e:Int)(ps:List D)(b:List Ex)(hT:T.length<=1000000)(hn:n<T.length)(hW:a0X T)(hN:∀i,0<=(tk T i).n/\(tk T i).n<=9007199254740993):b8 CC 336 [.ptr 0 0] (rst T n at_ e ps b) (λr τ=>∃a:Int×Nat×Int×Int,C9 2 τ r (.ret (iv a.1)) (rst T a.2.1 a.2.2.1 a.2.2.2 ps b)/\(Ok e ((E8 T n 2).map λx=>(x.1.n,x.2)) a.2.2.2 (a.1,a.2.1)/\a.2.1 <T.length/\-9007199254740993<=a.1/\a.1<=9007199254740993)):=by
 refine qO Tryz.func336 ?_;refine u b6t ?_;refine z_3 ?_;refine qG c6w ?_;refine qG a7N ?_;refine a5A ?_;refine qC ?_ ?_<;>intro h1
 .have hv:e≠0\/(tk T n).k≠2:=U h1;refine qD (c4 G b0n a3T (a0u _ _ I ⟨G,G,I⟩) G ?_);rintro⟨x,y⟩ hy;dsimp only at hy⊢;refine d0Y ?_;exact⟨_,rE1,(by exact⟨(0,n,x,y),a18 G (.val _),b62 hv hy,hn,do_,do_⟩)⟩
 .have hv:e=0/\(tk T n).k=2:=U h1;refine z_6 ?_;refine c6 ?_;exact⟨_,rE1,(by exact⟨((tk T n).n,n+1,at_,e),a18 G (.val _),b9f hv.2,hW n hn (by rw[hv.2];decide),by have:=hN n;dsimp only;omega,by have:=hN n;dsimp only;omega⟩)⟩
theorem a8A{n:Nat}{at_ e:Int}{ps:List D}{b:List Ex}(hT:T.length<=1000000)(hn:n<T.length)(hW:a0X T)(hN:∀i,0<=(tk T i).n/\(tk T i).n<=9007199254740993){s:Nat}(aw:RAt σ q s T n at_ e ps b):b8 CC 336 [.ptr q 0] σ λr τ=>∃a:Int×Nat×Int×Int,r= .ret (iv a.1)/\τ=rS0 σ q s T a.2.1 a.2.2.1 a.2.2.2 ps b/\(Ok e ((E8 T n 2).map λx=>(x.1.n,x.2)) a.2.2.2 (a.1,a.2.1)/\a.2.1 <T.length/\-9007199254740993<=a.1/\a.1<=9007199254740993):=
 Y4 (c:=λa:Int×Nat×Int×Int=>(iv a.1)) (N:=λa=>a.2.1) (A:=λa=>a.2.2.1) (E:=λa=>a.2.2.2) (λ_ h=>by cases h) (λ_=>.val _) (b9u T n at_ e ps b hT hn hW hN) aw
theorem d2h{n k:Nat}{at_:Int}{ps:List D}{b:List Ex}(h0:τ[0]?=some (.box [.list (T.map Tok.cv) true none,iv n,iv at_,iv 0,.list (ps.map scv) (gnn ps.length) none,.list (b.map Ex.cv) (gnn b.length) (D6 b.length k),.list [] false none]))(hk:τ[k]?=some (l8 b.length))(h2:2<=k)(hc:Old 2 c):C9 2 τ (.ret c) (.ret c) (a6l T n at_ 0 ps b):=by
 have k1:a7I 2 [0,1,k]=true:=G;have k2:Y9 [0,1,k]=true:=by
  simp[Y9];omega
 refine⟨[0,1,k],k1,k2,.ret (.old hc),.inr ⟨_,h0,.box ?_⟩,.inl G,.inr ⟨_,hk,.same G B0⟩,O⟩;refine⟨.old a04,.old (.val _),.old (.val _),.old (.val _),.old H8,.list (λr hr c hc=>(C2 (f:=Ex.cv) (λa=>(Ex.pure a).all) _ r hr c hc).old) ?_,.old a3l,O⟩;intro j hj;have dj:D6 b.length 2=some j:=hj;cases hb:b.length with
 |zero=>rw[hb]at dj;cases dj
 |succ m=>rw[hb]at dj;injection dj with dj;subst dj;exact⟨k,G,G⟩
theorem a5f{n:Nat}{at_ e:Int}{ps:List D}{b:List Ex}(he:e≠0)(h0:τ[0]?=some (.box [.list (T.map Tok.cv) true none,iv n,iv at_,iv e,.list (ps.map scv) (gnn ps.length) none,.list (b.map Ex.cv) (gnn b.length) tok,.list [] false none]))(hc:Old 2 c):C9 2 τ (.ret c) (.ret c) (a6l T n at_ e ps b):=by
 have ht:∀m s,tkE e m s=none:=λm s=>H he;have hp:o0 e b.length = .dead:=H he;refine⟨[0,1,τ.length+2],G,by simp[Y9],.ret (.old hc),.inr ⟨_,h0,.box ⟨.old a04,.old (.val _),.old (.val _),.old (.val _),.old H8,.list (λr hr c hc=>(C2 (f:=Ex.cv) (λa=>(Ex.pure a).all) _ r hr c hc).old) (λj hj=>by rw[ht]at hj;cases hj),.old a3l,O⟩⟩,.inl G,.inl hp,O⟩
abbrev rS1(σ:List b9)(q s:Nat)(T:List Tok)(n:Nat)(at_ e:Int)(ps:List D)(b:List Ex):List b9:=(σ.set q (rbx T n at_ e ps b σ.length)).set s .dead++[o0 e b.length]
theorem a15{f:FuncId}{c:α->CV}{n:Nat}{at_ e:Int}{ps:List D}{b:List Ex}(ap:∀a∈args,o8 a)(hc:∀a,o8 (c a))
 (h:b8 CC f (.ptr 0 0::args) (rst T n at_ e ps b) λr τ=>∃a,C9 2 τ r (.ret (c a)) (a6l T (N a) (A a) (E a) ps (B a))/\P a){σ:List b9}{q s:Nat}(aw:RAt σ q s T n at_ e ps b):
 b8 CC f (.ptr q 0::args) σ λr τ=>∃a,r= .ret (c a)/\τ=rS1 σ q s T (N a) (A a) (E a) ps (B a)/\P a:=
 a8k (c:=c) (N:=N) (A:=A) (E:=E) (B:=B) (g:=λ_=>true) (P:=P) ap hc (h.mono λ_ _ ⟨a,h1,h2⟩=>⟨a,h1,h2⟩) aw
abbrev a8W(w:Nat×List Ex):Int×List Ex:=((w.1:Int),w.2)
theorem c2f{e:Int}{b:List Ex}{x:Ex}{y:Int×List Ex}(h:(e=0->(b.length=256/\e2≠0)\/(b.length≠256/\e2=0))/\(e≠0->e2≠0))(hy:e2=0->y=((b.length:Int),b++[x])):Ok e ((W0 b x).map a8W) e2 y:=by
 refine⟨λh0=>?_,h.2⟩;unfold W0
 rcases h.1 h0 with⟨h1,h2⟩|⟨h1,h2⟩
 .rw [W h1];exact .inr ⟨G,h2⟩
 .rw [H h1,hy h2];exact .inl ⟨G,h2⟩
theorem d0l(T:List Tok)(n:Nat)(at_ e:Int)(ps:List D)(b:List Ex)(hb:b.length<=256)(x:Ex)(z:Int):b8 CC 263 [.ptr 0 0,.agg x.cells,iv z] (rst T n at_ e ps b) (λr τ=>∃a:Int×Int×Int×List Ex,C9 2 τ r (.ret (iv a.1)) (a6l T n a.2.1 a.2.2.1 ps a.2.2.2)/\(Ok e ((W0 b x).map a8W) a.2.2.1 (a.1,a.2.2.2)/\a.2.2.2.length<=256/\-1<=a.1/\a.1<=256)):=by
 refine cO Tryz.func263 ?_;refine d1p ?_;refine K5 (α:=Int×Int) (λ_=>[(0,.ptr 0 0),(4,.ptr 2 0)]) (λa=>[rbx T n a.1 a.2 ps b 1,o0 a.2 b.length,.box x.cells]) (λa=>(e=0->(b.length=256/\a.2≠0)\/(b.length≠256/\a.2=0))/\(e≠0->a.2≠0)) ?_ ?_
 .
  refine qk (qG F9 ?_);refine qG (λhg=>b0x G hg G) ?_;refine qG (λhg=>i7 G hg G b4B G b2D I) ?_;refine qG (λhg=>l9 G hg G Tryz.isAgg102 G G) ?_;refine qG (λhg=>Z3 G hg G b6d a7l G) ?_;refine a2P ?_;refine qC ?_ ?_<;>intro h1
  .have hv:e=0/\b.length=256:=sm_ h1;refine qD (c4 G b0n a3T (a0u _ _ I ⟨G,G,I⟩) G ?_);rintro⟨x1,y1⟩ hy;dsimp only at hy⊢;refine qN [rbx T n x1 y1 ps b 1,o0 y1 b.length,.box x.cells] G ?_;exact⟨(x1,y1),⟨λ_=>.inl ⟨hv.2,hy⟩,λ_=>hy⟩,tu_,G⟩
  .have hv:¬(e=0/\b.length=256):=λh=>by simp[h.1,h.2]at h1
   exact⟨(at_,e),⟨λh0=>.inr ⟨λh=>hv ⟨h0,h⟩,h0⟩,λh=>h⟩,tu_,G⟩
 .rintro ⟨x1,y1⟩ E1 hp;dsimp only at hp⊢;refine qk ?_;refine cC ?_ ?_<;>intro h2
  .obtain rfl:y1=0:=U h2;have hbl:(b++[x]).length=b.length+1:=by simp
   have hl:b.length≠256:=by
    by_cases h0:e=0
    .rcases hp.1 h0 with⟨_,h⟩|⟨h,_⟩
     .exact absurd G h
     .exact h
    .exact absurd G (hp.2 h0)
   refine a2t [.box [.list (T.map Tok.cv) true none,iv n,iv x1,iv 0,.list (ps.map scv) (gnn ps.length) none,.list (b.map Ex.cv) (gnn b.length) (D6 b.length 1),.list [] false none],l8 b.length,.box x.cells] G ?_;refine c6n ?_;refine chf G a1e ?_;refine chf G (c7 G c2C) ?_;refine chf G (c7 G b3D) ?_;refine chf G (c7 G c3R) ?_;refine chf G e0Z ?_;refine F2 ?_;refine B1 G G G (B6 G O O G Q q_3 b6d a9Q Tryz.typeInfo146 b4S G (.inr G) q_8 (by have hb:Tryz.t146.bytes=64:=G;rw[hb];first|omega|(simp;done)|(simp;omega)) E9 ((b++[x]).map Ex.cv) (b++[x]).length Q Q ?_);refine d2q ?_;refine C7 G G (c7 G c2C) ⟨O,?_⟩;refine d7Q ?_;refine u b0I ?_;refine u a0D ?_;refine c6 ?_;exact⟨_,rE1,(by exact⟨(((b++[x]).length:Int) -1,x1,0,b++[x]),d2h (k:=3) G G I (.val _),c2f hp (λ_=>by simp),by simp;omega,do_,by simp;omega⟩)⟩
  .have fi:y1≠0:=U h2;refine qk (u b0I ?_);refine u a0D ?_;refine c6 ?_;exact⟨_,rE1,(by exact⟨((b.length:Int) -1,x1,y1,b),a5f fi G (.val _),c2f hp (λh=>absurd h fi),hb,do_,do_⟩)⟩
theorem d4S(x:Ex):o8 (.agg x.cells):=j5 (Ex.pure x)
theorem M7{n:Nat}{at_ e:Int}{ps:List D}{b:List Ex}(hb:b.length<=256)(x:Ex)(z:Int){s:Nat}(aw:RAt σ q s T n at_ e ps b):b8 CC 263 [.ptr q 0,.agg x.cells,iv z] σ λr τ=>∃a:Int×Int×Int×List Ex,r= .ret (iv a.1)/\τ=rS1 σ q s T n a.2.1 a.2.2.1 ps a.2.2.2/\(Ok e ((W0 b x).map a8W) a.2.2.1 (a.1,a.2.2.2)/\a.2.2.2.length<=256/\-1<=a.1/\a.1<=256):=
 a15 (c:=λa:Int×Int×Int×List Ex=>(iv a.1)) (N:=λ_=>n) (A:=λa=>a.2.1) (E:=λa=>a.2.2.1) (B:=λa=>a.2.2.2) (λ_ h=>by
  simp at h
  rcases h with rfl|rfl
  .exact d4S x
  .exact .val _) (λ_=>.val _) (d0l T n at_ e ps b hb x z) aw
theorem a6k(l:List Fi)(nn:Bool)(σ:List b9):b8 CC 41 [.agg (A0 l nn)] σ λr ae=>r= .ret (iv (B4 l))/\ae=σ:=by
 refine b8.anyw hCC pu_ pu_ (c9 (qO Tryz.func41 ?_)) σ;refine qD (F4 G O j1 i9 ?_);refine u a2E ?_;refine qC ?_ ?_<;>intro h1
 .have ao:64<l.length:=sm_ h1;exact d6I
 .have ao:¬64<l.length:=sm_ h1;refine u a2E ?_;refine u0 hCC (α:=Nat) (λi=>[(1,.ptr 0 0),(10,(.list (l.map Fi.cv) nn none)),(11,iv l.length),(12,iv i)]) (λ_=>[.box (A0 l nn)]) (λi=>i<=l.length/\B4 l=rvE (prv l i) (l.drop i)) (λi=>l.length -i) 0 ⟨n_4 _,by rw[B4,H ao];rfl⟩ tu_ (au:=[]) G D5 uz_ ?_;intro i ⟨hi,hr⟩;refine qk (qC ?_ ?_)<;> intro h2
  .have ai:(i:Int)<l.length:=U h2;obtain⟨y,hb⟩:=gx_ l i;obtain⟨p,hp⟩:=b5v (l:=l) (i:=i) J;have fL:0<i->l[i-1]?=some p:=λh=>(hp h).2;rw[b8R hb]at hr;refine b9n ?_;refine u (c5 G d2D ⟨O,O⟩ (a8B y.p _) G) ?_;refine qC ?_ ?_<;>intro h3
   .have u3:F6 y.p=false:=U h3;have us:I1 (prv l i) y=6:=by rw[I1,W u3]
    rw[us]at hr;exact b6B
   .have u3:¬F6 y.p=false:=U h3;refine cW 14 ?_;refine hY A2 ?_;refine hY Z5 ?_;refine hY A2 ?_;refine c3x ?_;refine c3Y ?_;refine c3B ?_;refine d2x ?_;refine D4 G G O G b3M ?_;refine a57 ?_;refine qC ?_ ?_<;>intro h4
    .have u4:((prv l i).any λg=>decide (y.p=g.p))=true:=by rw[Y2 fL];exact h4
     have us:I1 (prv l i) y=10:=by rw[I1,H u3,W u4]
     rw[us]at hr;exact b6B
    .have u4:¬((prv l i).any λg=>decide (y.p=g.p))=true:=by rw[Y2 fL];simpa using h4
     refine cW 14 ?_;refine hY A2 ?_;refine hY Z5 ?_;refine hY A2 ?_;refine c3x ?_;refine c3Y ?_;refine c3B ?_;refine d7P ?_;refine a57 ?_;refine qC ?_ ?_<;>intro h5
     .have u5:((prv l i).any λg=>Op.bytesLess y.p g.p)=true:=by rw[Y2 fL];exact h5
      have us:I1 (prv l i) y=6:=by rw[I1,H u3,H u4,W u5]
      rw[us]at hr;exact b6B
     .have u5:¬((prv l i).any λg=>Op.bytesLess y.p g.p)=true:=by rw[Y2 fL];simpa using h5
      refine u U9 ?_;refine qC ?_ ?_<;>intro h6
      .have u6:16384<y.b.length:=sm_ h6;have us:I1 (prv l i) y=2:=by rw[I1,H u3,H u4,H u5,W u6]
       rw[us]at hr;exact b6B
      .have u6:¬16384<y.b.length:=sm_ h6;have us:I1 (prv l i) y=0:=by rw[I1,H u3,H u4,H u5,H u6]
       rw[us,W G]at hr;exact b2d
  .exact d5U
theorem c4n(s:D):((F6 s&&decide ((s.length:Int) > 4))&&decide (((s.take s.length).drop (s.length -4))=[46,115,114,99]))=a35 s:=by
 rw[a35,b1k,a6O];by_cases h:(s.length:Int) > 4
 .have h4:([46,115,114,99]:D).length=4:=G;have h5:decide ((4:Nat)<=s.length)=true:=a2m J;rw[c0f,h4,h5,b6I]
 .rw [a1R h];rfl
theorem b2c(s:D)(hs:s.length<=1000000000)(σ:List b9):b8 CC 118 [(sv s)] σ λr ae=>r= .ret (.val (.bool (a35 s)))/\ae=σ:=by
 refine b8.anyw hCC pu_ pu_ (c9 (qO Tryz.func118 ?_)) σ;refine u (c5 G d2D ⟨O,O⟩ (a8B s _) G) ?_;refine b5h ?_;refine a2P ?_;refine a4g ?_;refine qG c30 ?_;refine qG e2r ?_;refine qG (λhg=>I4 (a:=(s.length -4)) G hg G t_8 ⟨hg,_,_,G,by first|omega|(simp at hg;omega),by first|omega|(simp at hg;omega)⟩ G (sm_ hg) (sm_ hg)) ?_;refine qG b2W ?_;refine a84 ?_;exact⟨_,rE1,_,_,G,G,j9 (c4n _)⟩
theorem a72(l:List Fi)(nn:Bool)(p:D)(hl:l.length<=1000000)(σ:List b9):b8 CC 89 [.agg (A0 l nn),(sv p)] σ λr ae=>r= .ret (.tup [sv ((if B4 l=0 then r8 l p else none).getD []),.val (.bool (if B4 l=0 then r8 l p else none).isSome)])/\ae=σ:=by
 refine b8.anyw hCC pu_ pu_ (c9 (qO Tryz.func89 ?_)) σ;refine qD (F4 G O j1 i9 ?_);refine u c8U ?_;refine qC ?_ ?_<;>intro h1
 .have h0:¬B4 l=0:=U h1;refine c6 ?_;exact⟨_,o9 (rs:=[.tmp 4,.tmp 5]) (cs:=[_,_]) G a9o (n_5 G),_,_,G,G,(by rw[H h0];exact .tups ⟨.old (.val _),.old (.val _),O⟩)⟩
 .have h0:B4 l=0:=U h1;refine u a2E ?_;refine u0 hCC (α:=Nat) (λi=>[(1,(sv p)),(12,(.list (l.map Fi.cv) nn none)),(13,iv l.length),(14,iv i)]) (λ_=>[.box (A0 l nn)]) (λi=>i<=l.length/\r8 l p=r8 (l.drop i) p) (λi=>l.length -i) 0 ⟨n_4 _,G⟩ tu_ (au:=[]) G D5 uz_ ?_;intro i ⟨hi,hr⟩;refine qk (qC ?_ ?_)<;> intro h2
  .have ai:(i:Int)<l.length:=U h2;obtain⟨y,hb⟩:=gx_ l i;rw[b07 hb]at hr;refine b3O ?_;refine qC ?_ ?_<;>intro h3
   .have u2:y.p=p:=U h3;rw[W u2]at hr;refine c6 ?_;exact⟨_,o9 (rs:=[.tmp 4,.tmp 5]) (cs:=[_,_]) G a9o (n_5 G),_,_,G,G,(by rw[W h0,hr];exact .tups ⟨.old (.val _),.old (.val _),O⟩)⟩
   .have u2:¬y.p=p:=U h3;rw[H u2]at hr;exact b2d
  .have aL:l.length<=i:=sm_ h2;rw[a0V aL]at hr;refine V5 ?_;exact⟨_,o9 (rs:=[.tmp 4,.tmp 5]) (cs:=[_,_]) G a9o (n_5 G),_,_,G,G,(by rw[W h0,hr];exact .tups ⟨.old (.val _),.old (.val _),O⟩)⟩
structure RX where
 x:Int
 n:Nat
 at_:Int
 e:Int
 b:List Ex
abbrev cx(p:PX):Int×Nat×List Ex:=((p.1:Int),p.2.1,p.2.2)
theorem Ok.alive{e:Int}(h:Ok e o e' y)(h0:e'=0):e=0/\o=Option.some y:=by
 by_cases he:e=0
 .rcases h.1 he with⟨h1,_⟩|⟨_,h1⟩
  .exact ⟨he,h1⟩
  .exact absurd h0 h1
 .exact absurd h0 (h.2 he)
theorem Ok.bindM{e:Int}{g:α->γ}{y:γ}{f:α->Option β}{z:β}(h:Ok e (o.map g) e1 y)(k:∀p,o=Option.some p->g p=y->Ok e1 (f p) e2 z)(kd:e1≠0->e2≠0):Ok e (o.bind f) e2 z:=by
 refine⟨λh0=>?_,λh0=>kd (h.2 h0)⟩
 rcases h.1 h0 with⟨h1,h2⟩|⟨h1,h2⟩
 .obtain ⟨p,hp,hg⟩:=M8.1 h1;rw[hp];exact(k p hp hg).1 h2
 .rw [b3p.1 h1];exact .inr ⟨G,kd h2⟩
def RXP(T:List Tok)(n:Nat)(e:Int)(o:Option PX)(a:RX):Prop:=Ok e (o.map cx) a.e (a.x,a.n,a.b)/\a.n <T.length/\a.b.length<=256/\(a.e=0->n<a.n)/\-1<=a.x/\a.x<=256
def REC(T:List Tok)(ps:List D)(f:Nat):Prop:=∀(d n:Nat) (at_ e:Int) (b:List Ex),n<T.length->b.length<=256->d<=33->(e=0->8*(T.length -n)+6<=f)->∀(σ:List b9) (q s:Nat),RAt σ q s T n at_ e ps b->b8 CC 226 [.ptr q 0,iv d] σ λr τ=>∃a:RX,r= .ret (iv a.x)/\τ=rS1 σ q s T a.n a.at_ a.e ps a.b/\RXP T n e ((z6 T ps f).ex d n b) a
def RSC(T:List Tok)(ps:List D)(f:Nat):Prop:=∀(d n:Nat) (at_:Int) (b:List Ex),n<T.length->b.length<=256->d<=32->8*(T.length -n)+6<=f+2->∀(σ:List b9) (q s:Nat),RAt σ q s T n at_ 0 ps b->b8 CC 264 [.ptr q 0,iv d] σ λr τ=>∃a:RX,r= .ret (iv a.x)/\τ=rS1 σ q s T a.n a.at_ a.e ps a.b/\RXP T n 0 ((z6 T ps f).bin 2 d n b) a
def RTC(T:List Tok)(ps:List D)(f:Nat):Prop:=∀(d n:Nat) (at_:Int) (b:List Ex),n<T.length->b.length<=256->d<=32->8*(T.length -n)+6<=f+3->∀(σ:List b9) (q s:Nat),RAt σ q s T n at_ 0 ps b->b8 CC 299 [.ptr q 0,iv d] σ λr τ=>∃a:RX,r= .ret (iv a.x)/\τ=rS1 σ q s T a.n a.at_ a.e ps a.b/\RXP T n 0 ((z6 T ps f).bin 3 d n b) a
def RFC(T:List Tok)(ps:List D)(f:Nat):Prop:=∀(d n:Nat) (at_:Int) (b:List Ex),n<T.length->b.length<=256->d<=32->8*(T.length -n)+1<=f->∀(σ:List b9) (q s:Nat),RAt σ q s T n at_ 0 ps b->b8 CC 326 [.ptr q 0,iv d] σ λr τ=>∃a:RX,r= .ret (iv a.x)/\τ=rS1 σ q s T a.n a.at_ a.e ps a.b/\RXP T n 0 ((z6 T ps f).fac d n b) a
theorem RXP.dead{n m:Nat}{e x at2:Int}{o:Option PX}{b:List Ex}(h:e=0->o=Option.none)(h2:e2≠0)(hm:m<T.length)(hb:b.length<=256)(hx: -1<=x/\x<=256):RXP T n e o ⟨x,m,at2,e2,b⟩:=by
 refine⟨⟨λh0=>.inr ⟨by rw[h h0];rfl,h2⟩,λ_=>h2⟩,hm,hb,λh0=>absurd h0 h2,hx.1,hx.2⟩
theorem a10{e x:Int}{b b2:List Ex}{y:Ex}{m:Nat}(h:Ok e ((W0 b y).map a8W) e2 (x,b2)):Ok e ((K4 b y m).map cx) e2 (x,m,b2):=by
 have e1:(K4 b y m).map cx=((W0 b y).map a8W).map λw=>(w.1,m,w.2):=by
  unfold K4;cases W0 b y<;>rfl
 rw[e1];refine⟨λh0=>?_,h.2⟩
 rcases h.1 h0 with⟨h1,h2⟩|⟨h1,h2⟩
 .rw [h1];exact .inl ⟨G,h2⟩
 .rw [h1];exact .inr ⟨G,h2⟩
theorem e3r{ps:List D}{d n:Nat}{b:List Ex}:(z6 T ps (f+1+1)).bin 1 d n b=((z6 T ps (f+1)).bin 2 d n b).bind λx=>if opS (tk T x.2.1) 1=0 then some x else((z6 T ps f).bin 2 d (x.2.1+1) x.2.2).bind λy=>K4 y.2.2 ⟨4,0,opS (tk T x.2.1) 1,[],[(x.1:Int),(y.1:Int)]⟩ y.2.1:=by
 have h:(z6 T ps (f+1+1)).bin 1 d n b=(F3 T ps (z6 T ps (f+1))).bin 1 d n b:=G;rw[h];simp only[F3];rw[H I];rfl
theorem e0k(t:Tok):opS t 1=if isT t 4 [60]=true then 6 else if isT t 4 [61,61]=true then 7 else 0:=by
 by_cases h1:isT t 4 [60]=true
 .rw [W h1];exact a4i (x:=(6,[60])) I (by simpa[opM,isT,a0K]using h1)
 .rw [H h1];by_cases h2:isT t 4 [61,61]=true
  .rw [W h2];exact a4i (x:=(7,[61,61])) I (by simpa[opM,isT,a0K]using h2)
  .rw [H h2];refine b13 λx hx=>?_;simp only[S0,I0,a9B,or_false]at hx
   rcases hx with rfl|rfl|rfl|rfl|rfl|rfl|rfl<;>simp_all[opM,isT,a0K]
theorem S9{n k:Nat}{at_ e:Int}{ps:List D}{b:List Ex}(h0:τ[0]?=some (rbx T n at_ e ps b k))(hk:τ[k]?=some (o0 e b.length))(h2:2<=k)(hc:Old 2 c):C9 2 τ (.ret c) (.ret c) (a6l T n at_ e ps b):=by
 by_cases he:e=0
 .subst he;exact d2h h0 hk h2 hc
 .exact a5f he h0 hc
theorem Z2{am:List Nat}{b:List Ex}{e:Int}{k p:Nat}(h:am[p]?=some k):B5 L am (.list (b.map Ex.cv) (gnn b.length) (tkE e b.length k)) (.list (b.map Ex.cv) (gnn b.length) (tkE e b.length p)):=by
 unfold tkE
 split
 .exact a60 h
 .exact .list (λr hr c hc=>(C2 (f:=Ex.cv) (λa=>(Ex.pure a).all) _ r hr c hc).old) (λj hj=>by cases hj)
theorem Ok.bindP{e:Int}{f:α->Option PX}(h:Ok e o e1 y)(k:Ok e1 ((f y).map cx) e2 z):Ok e ((o.bind f).map cx) e2 z:=by
 have h1:(o.bind f).map cx=o.bind λa=>(f a).map cx:=by cases o<;>rfl
 rw[h1];exact h.bind k
theorem Ok.bindX{e x:Int}{o:Option PX}{f:PX->Option PX}{n:Nat}{b:List Ex}(h:Ok e (o.map cx) e1 (x,n,b))(k:∀i:Nat,(i:Int)=x->Ok e1 ((f (i,n,b)).map cx) e2 z)(kd:e1≠0->e2≠0):Ok e ((o.bind f).map cx) e2 z:=by
 have h1:(o.bind f).map cx=o.bind λa=>(f a).map cx:=by cases o<;>rfl
 rw[h1];refine h.bindM (λp hp hg=>?_) kd;obtain⟨i,m,c⟩:=p;obtain⟨h1,h2,h3⟩:(i:Int)=x/\m=n/\c=b:=by simpa[cx]using hg
 subst h2 h3;exact k i h1
theorem Ok.bindT{e:Int}{o:Option (Tok×Nat)}{f:Tok×Nat->Option PX}{n:Nat}(h:Ok e (o.map λx=>(x.1.t,x.2)) e1 (s,n))(k:∀t:Tok,t.t=s->Ok e1 ((f (t,n)).map cx) e2 z)(kd:e1≠0->e2≠0):Ok e ((o.bind f).map cx) e2 z:=by
 have h1:(o.bind f).map cx=o.bind λa=>(f a).map cx:=by cases o<;>rfl
 rw[h1];refine h.bindM (λp hp hg=>?_) kd;obtain⟨t,m⟩:=p;obtain⟨h1,h2⟩:t.t=s/\m=n:=U hg;subst h2;exact k t h1
theorem Ok.bindI{e:Int}{o:Option (Tok×Nat)}{f:Tok×Nat->Option PX}{n:Nat}{s:Int}(h:Ok e (o.map λx=>(x.1.n,x.2)) e1 (s,n))(k:∀t:Tok,t.n=s->Ok e1 ((f (t,n)).map cx) e2 z)(kd:e1≠0->e2≠0):Ok e ((o.bind f).map cx) e2 z:=by
 have h1:(o.bind f).map cx=o.bind λa=>(f a).map cx:=by cases o<;>rfl
 rw[h1];refine h.bindM (λp hp hg=>?_) kd;obtain⟨t,m⟩:=p;obtain⟨h1,h2⟩:t.n=s/\m=n:=U hg;subst h2;exact k t h1
theorem Ok.zero{e:Int}(h:Ok 0 o e y):(e=0/\o=Option.some y)\/(e≠0/\o=Option.none):=by
 rcases h.1 G with⟨h1,h2⟩|⟨h1,h2⟩
 .exact .inl ⟨h2,h1⟩
 .exact .inr ⟨h2,h1⟩
theorem b44{o:Option PX}{x:Int}{n:Nat}{b:List Ex}(h:o.map cx=some (x,n,b)):∃i:Nat,(i:Int)=x/\o=some (i,n,b):=by
 obtain⟨⟨i,m,c⟩,hp,hg⟩:=M8.1 h;obtain⟨h1,h2,h3⟩:(i:Int)=x/\m=n/\c=b:=by simpa[cx]using hg
 subst h2 h3;exact⟨i,h1,hp⟩
theorem b4N{o:Option PX}(h:o.map cx=none):o=none:=b3p.1 h
theorem d5s{ps:List D}{d n:Nat}{b:List Ex}(hd:32<d):(z6 T ps f).ex d n b=none:=by
 cases f with
 |zero=>rfl
 |succ f=>exact W hd
theorem e2N(h:isT t 4 [60]=false)(h':isT t 4 [61,61]=false):opS t 1=0:=by
 rw[e0k];simp[h,h']
theorem d4u{x1 c:Int}{n1:Nat}{r:Option PX}(hi:(i:Int)=x1)(h:e1=0->c=0):Ok e1 ((if c=0 then some (i,n1,b1)else r).map cx) e1 (x1,n1,b1):=by
 by_cases he:e1=0
 .rw [W (h he),<- hi];exact .some
 .exact .dead he he
theorem Q5{n:Nat}{v:Bool}(h:v=sgB T n 0 k Jj)(hv:v=false):isT (tk T n) k Jj=false:=by
 subst hv;simpa[sgB]using h.symm
theorem c8T{ps:List D}(hc:Z9 T ps)(d n:Nat)(at_ e:Int)(b:List Ex)(hn:n<T.length)(hb:b.length<=256)(ca:d<=33)(hx:e=0->∃f,f0=f+3/\8*(T.length -n)+6<=f+3/\REC T ps (f+2)/\RSC T ps (f+1)/\RSC T ps f):b8 CC 226 [.ptr 0 0,iv d] (rst T n at_ e ps b) (λr τ=>∃a:RX,C9 2 τ r (.ret (iv a.x)) (a6l T a.n a.at_ a.e ps a.b)/\RXP T n e ((z6 T ps f0).ex d n b) a):=by
 have hT:=hc.len;have hW:=hc.w;refine qO Tryz.func226 ?_;refine u b6t ?_;refine u a34 ?_;refine qC ?_ ?_<;>intro h1
 .have hd:32<d:=sm_ h1;refine qD (c4 G b0n a3T (a0u _ _ I ⟨G,G,I⟩) G ?_);rintro⟨x0,y0⟩ bF;dsimp only at bF⊢;refine qN [rbx T n x0 y0 ps b 1,o0 y0 b.length] G (qC ?_ ?_)<;> intro h2
  .refine c6 ?_;exact⟨_,rE1,(by exact⟨⟨0,n,x0,y0,b⟩,a5f bF G (.val _),.dead (λ_=>d5s hd) bF hn hb ⟨I,I⟩⟩)⟩
  .exact absurd (show y0=0 by simpa using h2) bF
 .have hd:¬32<d:=sm_ h1;refine qC ?_ ?_<;>intro h8
  .have he:e≠0:=U h8;refine c6 ?_;exact⟨_,rE1,(by exact⟨⟨0,n,at_,e,b⟩,a5f he G (.val _),.dead (λh0=>absurd h0 he) he hn hb ⟨I,I⟩⟩)⟩
  .obtain rfl:e=0:=U h8;obtain⟨f,rfl,hf,hE,hS1,hS0⟩:=hx G;have aj:(z6 T ps (f+3)).ex d n b=(F3 T ps (z6 T ps (f+2))).ex d n b:=G;simp only[F3]at aj;rw[H hd]at aj;refine qD (c4 G a9C m0 (Y1 hT hn hW [105,102] ⟨G,G,I⟩) G ?_);rintro⟨v8,m8⟩ ⟨di,hs8,hf8,hm8⟩;dsimp only at di hs8 hf8 hm8⊢;refine qN [rbx T m8 at_ 0 ps b 1,o0 0 b.length] G ?_;refine cC ?_ ?_<;>intro h9
   .have hi:v8=true:=U h9;have hm:=hs8 hi;subst m8;have da:=(T8 (di.symm.trans hi)).2;rw[W da]at aj;refine qs 1 (u o3 ?_);refine qD (c4 G b7W j2 (hE (d+1) (n+1) at_ 0 b hm8 hb J (λ_=>by omega) _ 0 1 ⟨G,G,I⟩) G ?_);rintro⟨x1,n1,a1,e1,b1⟩ ⟨k1,y1,w1,z1,l1,u1⟩;dsimp only at k1 y1 w1 z1 l1 u1⊢;refine qN [rbx T n1 a1 e1 ps b1 2,.dead,o0 e1 b1.length] G ?_;refine K5 (α:=Nat×Int×Int) (λ_=>[(0,.ptr 0 0),(1,iv d),(5,(iv ((tk T n).at_))),(6,iv x1)]) (λa=>[rbx T a.1 a.2.1 a.2.2 ps b1 2,.dead,o0 a.2.2 b1.length]) (λa=>Ok e1 (pIs T n1 1 [116,104,101,110]) a.2.2 a.1/\a.1 <T.length) ?_ ?_
    .
     refine qk (qD (c4 G a9C m0 (Y1 hT y1 hW [116,104,101,110] ⟨G,G,I⟩) G ?_));rintro⟨v9,m9⟩ ⟨fe,gF,iQ,fg⟩;dsimp only at fe gF iQ fg⊢;refine qN [rbx T m9 a1 e1 ps b1 2,.dead,o0 e1 b1.length] G (qC ?_ ?_)<;> intro bL
     .have hw:v9=false:=U bL;refine d7p ?_;rintro⟨x0,y0⟩ bF;dsimp only at bF⊢;refine qN [rbx T m9 x0 y0 ps b1 2,.dead,o0 y0 b1.length] G ?_;exact⟨(m9,x0,y0),⟨a94 (fe.symm.trans hw) bF,fg⟩,tu_,G⟩
     .have hw:v9=true:=U bL;exact⟨(m9,a1,e1),⟨by dsimp only;rw[gF hw];exact a9S (fe.symm.trans hw),fg⟩,tu_,G⟩
    .rintro ⟨n2,a2,e2⟩ E2 ⟨q2,y2⟩;dsimp only at q2 y2⊢;have g2:e2=0->n2=n1+1/\e1=0:=λh0=>⟨O3 (q2.alive h0).2,(q2.alive h0).1⟩;refine qs 1 (u o3 ?_);refine qD (c4 G b7W j2 (hE (d+1) n2 a2 e2 b1 y2 w1 J (λh0=>by have:=g2 h0;have:=z1 this.2;omega) _ 0 2 ⟨G,G,I⟩) G ?_);rintro⟨x3,n3,a3,e3,b3⟩ ⟨k3,y3,w3,z3,l3,u3⟩;dsimp only at k3 y3 w3 z3 l3 u3⊢;refine qN [rbx T n3 a3 e3 ps b3 3,.dead,.dead,o0 e3 b3.length] G ?_;refine K5 (α:=Nat×Int×Int) (λ_=>[(0,.ptr 0 0),(1,iv d),(5,(iv ((tk T n).at_))),(6,iv x1),(7,iv x3)]) (λa=>[rbx T a.1 a.2.1 a.2.2 ps b3 3,.dead,.dead,o0 a.2.2 b3.length]) (λa=>Ok e3 (pIs T n3 1 [101,108,115,101]) a.2.2 a.1/\a.1 <T.length) ?_ ?_
     .
      refine qk (qD (c4 G a9C m0 (Y1 hT y3 hW [101,108,115,101] ⟨G,G,I⟩) G ?_));rintro⟨v9,m9⟩ ⟨fe,gF,iQ,fg⟩;dsimp only at fe gF iQ fg⊢;refine qN [rbx T m9 a3 e3 ps b3 3,.dead,.dead,o0 e3 b3.length] G (qC ?_ ?_)<;> intro eY
      .have hw:v9=false:=U eY;refine d7p ?_;rintro⟨x0,y0⟩ bF;dsimp only at bF⊢;refine qN [rbx T m9 x0 y0 ps b3 3,.dead,.dead,o0 y0 b3.length] G ?_;exact⟨(m9,x0,y0),⟨a94 (fe.symm.trans hw) bF,fg⟩,tu_,G⟩
      .have hw:v9=true:=U eY;exact⟨(m9,a3,e3),⟨by dsimp only;rw[gF hw];exact a9S (fe.symm.trans hw),fg⟩,tu_,G⟩
     .rintro ⟨n4,a4,e4⟩ E4 ⟨q4,y4⟩;dsimp only at q4 y4⊢;have g4:e4=0->n4=n3+1/\e3=0:=λh0=>⟨O3 (q4.alive h0).2,(q4.alive h0).1⟩;refine qk (u o3 ?_);refine qD (c4 G b7W j2 (hE (d+1) n4 a4 e4 b3 y4 w3 J (λh0=>by have q:=g4 h0;have:=z3 q.2;have q:=g2 (k3.alive q.2).1;have:=z1 q.2;omega) _ 0 3 ⟨G,G,I⟩) G ?_);rintro⟨x5,n5,a5,e5,b5⟩ ⟨k5,y5,w5,z5,l5,u5⟩;dsimp only at k5 y5 w5 z5 l5 u5⊢;refine qN [rbx T n5 a5 e5 ps b5 4,.dead,.dead,.dead,o0 e5 b5.length] G (u (A6 ([x1,x3,x5].map icv) G D0 t_7 t_1 t_9 G G G G G G G G G) ?_);refine u b0l ?_;refine qD (c4 G a4e D0 (M7 w5 ⟨5,0,0,[],[x1,x3,x5]⟩ _ ⟨G,G,I⟩) G ?_);rintro⟨x6,a6,e6,b6⟩ ⟨k6,w6,l6,u6⟩;dsimp only at k6 w6 l6 u6⊢;refine qN [rbx T n5 a6 e6 ps b6 5,.dead,.dead,.dead,.dead,o0 e6 b6.length] G ?_;refine c6 ?_;exact⟨_,rE1,(by exact⟨⟨x6,n5,a6,e6,b6⟩,S9 (k:=5) G G I (.val _),⟨by rw[aj];exact k1.bindX (λi hi=>q2.bindP (k3.bindX (λj hj=>q4.bindP (k5.bindX (λl hl=>a10 (by rw[hi,hj,hl];exact k6)) k6.2)) λh=>k6.2 (k5.2 (q4.2 h)))) λh=>k6.2 (k5.2 (q4.2 (k3.2 (q2.2 h)))),y5,w6,λh0=>by have h5:=(k6.alive h0).1;have q5:=z5 h5;have q:=g4 (k5.alive h5).1;have:=z3 q.2;have q:=g2 (k3.alive q.2).1;have:=z1 q.2;dsimp only at h0⊢;omega,l6,u6⟩⟩)⟩
   .have hi:v8=false:=U h9;have hm:=hf8 hi;subst m8;rw[H (by rw[Q5 di hi];decide)]at aj;replace aj:=aj.trans e3r;refine qk (qD (c4 G d2p j2 (hS1 d n at_ b hn hb J J _ 0 1 ⟨G,G,I⟩) G ?_));rintro⟨x1,n1,a1,e1,b1⟩ ⟨k1,y1,w1,z1,l1,u1⟩;dsimp only at k1 y1 w1 z1 l1 u1⊢;refine qN [rbx T n1 a1 e1 ps b1 2,.dead,o0 e1 b1.length] G ?_;refine d6R ?_;refine qD (c4 G a8x m0 (V3 hT y1 hW [60] ⟨G,G,I⟩) G ?_);rintro⟨v2,m2⟩ ⟨cL,eh,gE,cc⟩;dsimp only at cL eh gE cc⊢;refine qN [rbx T m2 a1 e1 ps b1 2,.dead,o0 e1 b1.length] G (qC ?_ ?_)<;> intro fo
    .have da:v2=true:=U fo;obtain⟨iN,fW⟩:=T8 (cL.symm.trans da);subst e1;have hm:=eh da;subst m2;have bj:opS (tk T n1) 1=6:=by rw[e0k,W fW]
     refine qD (c4 G d2p j2 (hS0 d (n1+1) a1 b1 cc w1 J (by have:=z1 G;omega) _ 0 2 ⟨G,G,I⟩) G ?_);rintro⟨x3,n3,a3,e3,b3⟩ ⟨k3,y3,w3,z3,l3,u3⟩;dsimp only at k3 y3 w3 z3 l3 u3⊢;refine qN [rbx T n3 a3 e3 ps b3 3,.dead,.dead,o0 e3 b3.length] G (u e2Y ?_);refine u c5a ?_;refine qD (c4 G a4e D0 (M7 w3 ⟨4,0,6,[],[x1,x3]⟩ _ ⟨G,G,I⟩) G ?_);rintro⟨x6,a6,e6,b6⟩ ⟨k6,w6,l6,u6⟩;dsimp only at k6 w6 l6 u6⊢;refine d6d ?_;exact⟨_,rE1,q_2⟩
    .have da:v2=false:=U fo;have hm:=gE da;subst m2;refine qD (c4 G a8x m0 (V3 hT y1 hW [61,61] ⟨G,G,I⟩) G ?_);rintro⟨v4,m4⟩ ⟨hv4,hs4,hf4,hm4⟩;dsimp only at hv4 hs4 hf4 hm4⊢;refine qN [rbx T m4 a1 e1 ps b1 2,.dead,o0 e1 b1.length] G (qC ?_ ?_)<;> intro dR
     .have ig:v4=true:=U dR;obtain⟨iN,fW⟩:=T8 (hv4.symm.trans ig);subst e1;have hm:=hs4 ig;subst m4;have bj:opS (tk T n1) 1=7:=by rw[e0k,H (by rw[Q5 cL da];decide),W fW]
      refine qD (c4 G d2p j2 (hS0 d (n1+1) a1 b1 hm4 w1 J (by have:=z1 G;omega) _ 0 2 ⟨G,G,I⟩) G ?_);rintro⟨x3,n3,a3,e3,b3⟩ ⟨k3,y3,w3,z3,l3,u3⟩;dsimp only at k3 y3 w3 z3 l3 u3⊢;refine qN [rbx T n3 a3 e3 ps b3 3,.dead,.dead,o0 e3 b3.length] G (u e2Y ?_);refine u c5a ?_;refine qD (c4 G a4e D0 (M7 w3 ⟨4,0,7,[],[x1,x3]⟩ _ ⟨G,G,I⟩) G ?_);rintro⟨x6,a6,e6,b6⟩ ⟨k6,w6,l6,u6⟩;dsimp only at k6 w6 l6 u6⊢;refine d6d ?_;exact⟨_,rE1,q_2⟩
     .have ig:v4=false:=U dR;have hm:=hf4 ig;subst m4;have du:e1=0->opS (tk T n1) 1=0:=λh0=>by subst h0;exact e2N (Q5 cL da) (Q5 hv4 ig)
      refine c6 ?_;exact⟨_,rE1,(by exact⟨⟨x1,n1,a1,e1,b1⟩,S9 (k:=2) G G I (.val _),⟨by rw[aj];exact k1.bindX (λi hi=>d4u hi du) id,y1,w1,z1,l1,u1⟩⟩)⟩
theorem d4t{ps:List D}(hc:Z9 T ps)(Jg:∀g,g<f0->REC T ps g/\RSC T ps g):REC T ps f0:=λd n at_ e b hn hb hd hf σ q s aw=>
 a15 (c:=λa:RX=>(iv a.x)) (N:=λa=>a.n) (A:=λa=>a.at_) (E:=λa=>a.e) (B:=λa=>a.b) (λ_ h=>by simp at h;subst h;exact .val _) (λ_=>.val _) (c8T hc d n at_ e b hn hb hd (λh0=>by
  have h1:=hf h0;obtain⟨f,rfl⟩:∃f,f0=f+3:=⟨f0-3,J⟩;exact⟨f,G,h1,(Jg (f+2) J).1,(Jg (f+1) J).2,(Jg f J).2⟩)) aw
def ot1(ph:Bool)(e:Int)(m:Nat):b9:=if ph=true then .dead else o0 e m
def ot2(ph:Bool)(e:Int)(m:Nat):b9:=if ph=true then o0 e m else .dead
structure RL where
 x:Int
 m:Nat
 at_:Int
 e:Int
 b:List Ex
 ph:Bool
 g:Nat
variable{x:Int}
theorem e2G{ps:List D}{d n lv:Nat}{b:List Ex}(h:lv≠4):(z6 T ps (f+1)).bin lv d n b=((z6 T ps f).bin (lv+1) d n b).bind λx=>(z6 T ps f).lp lv d x.1 x.2.1 x.2.2:=by
 have h':(z6 T ps (f+1)).bin lv d n b=(F3 T ps (z6 T ps f)).bin lv d n b:=G;rw[h'];simp only[F3];rw[H h]
theorem e1P{ps:List D}{d n:Nat}{b:List Ex}:(z6 T ps (f+1)).bin 4 d n b=(z6 T ps f).fac d n b:=G
theorem lpS{ps:List D}{g d x n lv:Nat}{b:List Ex}(h:lv≠1):(z6 T ps (g+1)).lp lv d x n b=if opS (tk T n) (lv:Int)=0 then some (x,n,b)else((z6 T ps g).bin (lv+1) d (n+1) b).bind λy=>(W0 y.2.2 ⟨4,0,opS (tk T n) (lv:Int),[],[(x:Int),(y.1:Int)]⟩).bind λw=>(z6 T ps g).lp lv d w.1 y.2.1 w.2:=by
 have h':(z6 T ps (g+1)).lp lv d x n b=(F3 T ps (z6 T ps g)).lp lv d x n b:=G;rw[h'];simp only[F3,H h]
theorem e0C(t:Tok):opS t 2=if isT t 4 [43]=true then 1 else if isT t 4 [45]=true then 2 else 0:=by
 by_cases h1:isT t 4 [43]=true
 .rw [W h1];exact a4i (x:=(1,[43])) I (by simpa[opM,isT,a0K]using h1)
 .rw [H h1];by_cases h2:isT t 4 [45]=true
  .rw [W h2];exact a4i (x:=(2,[45])) I (by simpa[opM,isT,a0K]using h2)
  .rw [H h2];refine b13 λx hx=>?_;simp only[S0,I0,a9B,or_false]at hx
   rcases hx with rfl|rfl|rfl|rfl|rfl|rfl|rfl<;>simp_all[opM,isT,a0K]
theorem op3(t:Tok):opS t 3=if isT t 4 [42]=true then 3 else if isT t 4 [47]=true then 4 else if isT t 4 [37]=true then 5 else 0:=by
 by_cases h1:isT t 4 [42]=true
 .rw [W h1];exact a4i (x:=(3,[42])) I (by simpa[opM,isT,a0K]using h1)
 .rw [H h1];by_cases h2:isT t 4 [47]=true
  .rw [W h2];exact a4i (x:=(4,[47])) I (by simpa[opM,isT,a0K]using h2)
  .rw [H h2];by_cases h3:isT t 4 [37]=true
   .rw [W h3];exact a4i (x:=(5,[37])) I (by simpa[opM,isT,a0K]using h3)
   .rw [H h3];refine b13 λx hx=>?_;simp only[S0,I0,a9B,or_false]at hx
    rcases hx with rfl|rfl|rfl|rfl|rfl|rfl|rfl<;>simp_all[opM,isT,a0K]
theorem c1q{o:Option (Nat×List Ex)}{b:List Ex}(h:o.map a8W=some (x,b)):∃i:Nat,(i:Int)=x/\o=some (i,b):=by
 obtain⟨⟨i,c⟩,hp,hg⟩:=M8.1 h;obtain⟨h1,h2⟩:(i:Int)=x/\c=b:=by simpa[a8W]using hg
 subst h2;exact⟨i,h1,hp⟩
theorem b0Q{o:Option PX}{K:Nat->Nat->List Ex->Option PX}{x1:Int}{n1:Nat}(hs:S=o.bind λy=>K y.1 y.2.1 y.2.2)(k:Ok 0 (o.map cx) e1 (x1,n1,b1)):(e1=0->∃i:Nat,(i:Int)=x1/\S=K i n1 b1)/\(e1≠0->S=none):=by
 rcases k.zero with⟨h3,ho⟩|⟨h3,ho⟩
 .obtain ⟨j,hj,ho⟩:=b44 ho;exact⟨λ_=>⟨j,hj,by rw[hs,ho];rfl⟩,λh=>absurd h3 h⟩
 .exact ⟨λh=>absurd h h3,λ_=>by rw[hs,b4N ho];rfl⟩
theorem a24{o:Option PX}{N:PX->Option (Nat×List Ex)}{K:Nat->Nat->List Ex->Option PX}{e4 x3 x4:Int}{b3 b4:List Ex}(hs:S=o.bind λy=>(N y).bind λw=>K w.1 y.2.1 w.2)(k3:Ok 0 (o.map cx) e3 (x3,n3,b3))(k4:∀j:Nat,(j:Int)=x3->Ok e3 ((N (j,n3,b3)).map a8W) e4 (x4,b4))(k40:e3≠0->e4≠0):
 (e4=0->e3=0/\∃w:Nat,(w:Int)=x4/\S=K w n3 b4)/\(e4≠0->S=none):=by
 rcases k3.zero with⟨h3,ho⟩|⟨h3,ho⟩
 .obtain ⟨j,hj,ho⟩:=b44 ho;subst h3
  rcases(k4 j hj).zero with⟨h4,hn⟩|⟨h4,hn⟩
  .obtain ⟨w,hw,hn⟩:=c1q hn;exact⟨λ_=>⟨G,w,hw,by rw[hs,ho,n_8,hn];rfl⟩,λh=>absurd h4 h⟩
  .exact ⟨λh=>absurd h h4,λ_=>by rw[hs,ho,n_8,b3p.1 hn];rfl⟩
 .exact ⟨λh=>absurd h (k40 h3),λ_=>by rw[hs,b4N ho];rfl⟩
theorem b8y{n m:Nat}{at_:Int}{b:List Ex}(hS:S=some (i,m,b))(hi:(i:Int)=x)(hm:m<T.length)(hb:b.length<=256)(hn:n<m)(h1: -1<=x)(h2:x<=256):RXP T n 0 S ⟨x,m,at_,0,b⟩:=by
 subst hS hi;exact⟨.some,hm,hb,λ_=>hn,h1,h2⟩
theorem d3f{ps:List D}(hc:Z9 T ps)(hB:∀g,g<=f->RTC T ps g)(d n:Nat)(at_:Int)(b:List Ex)(hn:n<T.length)(hb:b.length<=256)(ca:d<=32)(hf:8*(T.length -n)+6<=f+1+2):b8 CC 264 [.ptr 0 0,iv d] (rst T n at_ 0 ps b) (λr τ=>∃a:RX,C9 2 τ r (.ret (iv a.x)) (a6l T a.n a.at_ a.e ps a.b)/\RXP T n 0 ((z6 T ps (f+1)).bin 2 d n b) a):=by
 have hT:=hc.len;have hW:=hc.w;have aj:=e2G (T:=T) (ps:=ps) (f:=f) (d:=d) (n:=n) (lv:=2) (b:=b) I;refine qO Tryz.func264 ?_;refine qD (c4 G d1g j2 (hB f J d n at_ b hn hb ca J _ 0 1 ⟨G,G,I⟩) G ?_);rintro⟨x1,n1,a1,e1,b1⟩ ⟨k1,y1,w1,z1,l1,u1⟩;dsimp only at k1 y1 w1 z1 l1 u1⊢;refine qN [rbx T n1 a1 e1 ps b1 2,.dead,o0 e1 b1.length] G ?_;have dY:e1=0->8*(T.length -n1)+3<=f:=λh0=>by have:=z1 h0;omega
 have aG:=b0Q (K:=λi m c=>(z6 T ps f).lp 2 d i m c) aj k1;refine B3 hCC 3 G (α:=RL) (λa=>[(0,.ptr 0 0),(1,iv d),(5,iv a.x)]) (λa=>[rbx T a.m a.at_ a.e ps a.b (kf a.ph),.dead,ot1 a.ph a.e a.b.length,ot2 a.ph a.e a.b.length]) (λa=>(a.e=0->∃i:Nat,(i:Int)=a.x/\(z6 T ps (f+1)).bin 2 d n b=(z6 T ps a.g).lp 2 d i a.m a.b/\n<a.m/\8*(T.length -a.m)+3<=a.g)/\(a.e≠0->(z6 T ps (f+1)).bin 2 d n b=none)/\a.m <T.length/\a.b.length<=256/\-1<=a.x/\a.x<=256/\a.g<=f) (λa=>if a.e=0 then T.length -a.m+1 else 0) ⟨⟨x1,n1,a1,e1,b1,false,f⟩,[0,1,2,7],⟨λh0=>(aG.1 h0).elim λi hi=>⟨i,hi.1,hi.2,z1 h0,dY h0⟩,aG.2,y1,w1,l1,u1,n_6 _⟩,⟨G,G⟩,ut_,uq_⟩ ?_;intro⟨x,m,a2,e,b2,ph,g⟩ ⟨hI,hN,hm,bD,bP,aK,hgf⟩;dsimp only at hI hN hm bD bP aK hgf⊢;refine qk (qC ?_ ?_)<;> intro h1
 .obtain rfl:e=0:=U h1;obtain⟨i,hi,hS,dS,hg⟩:=hI G;clear hI;obtain⟨g,rfl⟩:∃g',g=g'+1:=⟨g-1,J⟩;rw[lpS I]at hS;refine u e2x ?_;refine u a34 ?_;refine qD (c4 G a8x m0 (V3 hT hm hW [43] (q:=0) (s:=kf ph) a1x) G ?_);rintro⟨v10,m10⟩ ⟨gH,iR,iS,iT⟩;dsimp only at gH iR iS iT⊢;refine qN [rbx T m10 a2 0 ps b2 (kf ph),.dead,ot1 ph 0 b2.length,ot2 ph 0 b2.length] a0c ?_;refine qC ?_ ?_<;>intro h2
  .have dT:v10=true:=U h2;have hq:=(T8 (gH.symm.trans dT)).2;have bV:=iR dT;subst m10;have bj:opS (tk T m) (2:Nat)=1:=by
    show opS (tk T m) 2=1;rw[e0C,W hq]
   rw[H (by rw[bj];decide),bj]at hS;refine qD (c4 G d1g j2 (hB g J d (m+1) a2 b2 iT bD ca J _ 0 (kf ph) a1x) G ?_);rintro⟨x3,n3,a3,e3,b3⟩ ⟨k3,y3,w3,z3,l3,u3⟩;dsimp only at k3 y3 w3 z3 l3 u3⊢;refine qN [rbx T n3 a3 e3 ps b3 4,.dead,.dead,.dead,o0 e3 b3.length] a0c ?_;refine b6G ?_;refine qD (c4 G a4e D0 (M7 w3 ⟨4,0,1,[],[x,x3]⟩ _ ⟨G,G,I⟩) G ?_);rintro⟨x4,a4,e4,b4⟩ ⟨k4,w4,l4,u4⟩;dsimp only at k4 w4 l4 u4⊢;refine qN [rbx T n3 a4 e4 ps b4 5,.dead,.dead,.dead,.dead,o0 e4 b4.length] G ?_;have dY:e3=0->n<n3/\8*(T.length -n3)+3<=g:=λh0=>by have:=z3 h0;omega
   have bO:(if e4=0 then T.length -n3+1 else 0)< (if(0:Int)=0 then T.length -m+1 else 0):=by
    rw[W G]
    split
    .rename_i h0;have:=z3 (k4.alive h0).1;omega
    .omega
   have aG:=a24 (K:=λi m c=>(z6 T ps g).lp 2 d i m c) hS k3 (λj hj=>by rw[hi,hj];exact k4) k4.2;exact⟨⟨x4,n3,a4,e4,b4,true,g⟩,[0,1,2,5],⟨bO,λh0=>(aG.1 h0).2.elim λi hi=>⟨i,hi.1,hi.2,dY (aG.1 h0).1⟩,aG.2,y3,w4,l4,u4,do_⟩,⟨G,G⟩,ut_,⟨.inr ⟨_,G,.box ⟨.old a04,.old (.val _),.old (.val _),.old (.val _),.old H8,Z2 G,.old a3l,O⟩⟩,.inl G,.inl G,.inr ⟨_,G,.same G U4⟩,O⟩⟩
  .have dT:v10=false:=U h2;have bV:=iS dT;subst m10;refine qD (c4 G a8x m0 (V3 hT hm hW [45] (q:=0) (s:=kf ph) a1x) G ?_);rintro⟨v11,m11⟩ ⟨fN,iU,iV,iW⟩;dsimp only at fN iU iV iW⊢;refine qN [rbx T m11 a2 0 ps b2 (kf ph),.dead,ot1 ph 0 b2.length,ot2 ph 0 b2.length] a0c ?_;refine qC ?_ ?_<;>intro h3
   .have dB:v11=true:=U h3;have hq:=(T8 (fN.symm.trans dB)).2;have bV:=iU dB;subst m11;have bj:opS (tk T m) (2:Nat)=2:=by
     show opS (tk T m) 2=2;rw[e0C,H b8B,W hq]
    rw[H (by rw[bj];decide),bj]at hS;refine qD (c4 G d1g j2 (hB g J d (m+1) a2 b2 iW bD ca J _ 0 (kf ph) a1x) G ?_);rintro⟨x3,n3,a3,e3,b3⟩ ⟨k3,y3,w3,z3,l3,u3⟩;dsimp only at k3 y3 w3 z3 l3 u3⊢;refine qN [rbx T n3 a3 e3 ps b3 4,.dead,.dead,.dead,o0 e3 b3.length] a0c ?_;refine b6G ?_;refine qD (c4 G a4e D0 (M7 w3 ⟨4,0,2,[],[x,x3]⟩ _ ⟨G,G,I⟩) G ?_);rintro⟨x4,a4,e4,b4⟩ ⟨k4,w4,l4,u4⟩;dsimp only at k4 w4 l4 u4⊢;refine qN [rbx T n3 a4 e4 ps b4 5,.dead,.dead,.dead,.dead,o0 e4 b4.length] G ?_;have dY:e3=0->n<n3/\8*(T.length -n3)+3<=g:=λh0=>by have:=z3 h0;omega
    have bO:(if e4=0 then T.length -n3+1 else 0)< (if(0:Int)=0 then T.length -m+1 else 0):=by
     rw[W G]
     split
     .rename_i h0;have:=z3 (k4.alive h0).1;omega
     .omega
    have aG:=a24 (K:=λi m c=>(z6 T ps g).lp 2 d i m c) hS k3 (λj hj=>by rw[hi,hj];exact k4) k4.2;exact⟨⟨x4,n3,a4,e4,b4,true,g⟩,[0,1,2,5],⟨bO,λh0=>(aG.1 h0).2.elim λi hi=>⟨i,hi.1,hi.2,dY (aG.1 h0).1⟩,aG.2,y3,w4,l4,u4,do_⟩,⟨G,G⟩,ut_,⟨.inr ⟨_,G,.box ⟨.old a04,.old (.val _),.old (.val _),.old (.val _),.old H8,Z2 G,.old a3l,O⟩⟩,.inl G,.inl G,.inr ⟨_,G,.same G U4⟩,O⟩⟩
   .have dB:v11=false:=U h3;have bV:=iV dB;subst m11;refine V5 ?_;exact⟨_,rE1,(by exact⟨⟨x,m,a2,0,b2⟩,e1T,b8y (hS.trans (W (by show opS (tk T m) 2=0;rw[e0C,H b8B,H (by rw[Q5 fN dB];decide)]))) hi hm bD dS bP aK⟩)⟩
 .have he:e≠0:=U h1;refine V5 ?_;exact⟨_,rE1,e2I⟩
theorem d9o{ps:List D}(hc:Z9 T ps)(Jg:∀g,g<f0->RTC T ps g):RSC T ps f0:=λd n at_ b hn hb hd hf σ q s aw=>by
 obtain⟨f,rfl⟩:∃f,f0=f+1:=⟨f0-1,J⟩;exact a15 (c:=λa:RX=>(iv a.x)) (N:=λa=>a.n) (A:=λa=>a.at_) (E:=λa=>a.e) (B:=λa=>a.b) (λ_ h=>by simp at h;subst h;exact .val _) (λ_=>.val _) (d3f hc (λg hg=>Jg g J) d n at_ b hn hb hd hf) aw
theorem c9i{ps:List D}(hc:Z9 T ps)(hB:∀g,g<=f->RFC T ps g)(d n:Nat)(at_:Int)(b:List Ex)(hn:n<T.length)(hb:b.length<=256)(ca:d<=32)(hf:8*(T.length -n)+6<=f+2+3):b8 CC 299 [.ptr 0 0,iv d] (rst T n at_ 0 ps b) (λr τ=>∃a:RX,C9 2 τ r (.ret (iv a.x)) (a6l T a.n a.at_ a.e ps a.b)/\RXP T n 0 ((z6 T ps (f+2)).bin 3 d n b) a):=by
 have hT:=hc.len;have hW:=hc.w;have aj:=e2G (T:=T) (ps:=ps) (f:=f+1) (d:=d) (n:=n) (lv:=3) (b:=b) I;rw[e1P]at aj;refine qO Tryz.func299 ?_;refine qD (c4 G c2G j2 (hB f J d n at_ b hn hb ca J _ 0 1 ⟨G,G,I⟩) G ?_);rintro⟨x1,n1,a1,e1,b1⟩ ⟨k1,y1,w1,z1,l1,u1⟩;dsimp only at k1 y1 w1 z1 l1 u1⊢;refine qN [rbx T n1 a1 e1 ps b1 2,.dead,o0 e1 b1.length] G ?_;have dY:e1=0->8*(T.length -n1)+3<=(f+1):=λh0=>by have:=z1 h0;omega
 have aG:=b0Q (K:=λi m c=>(z6 T ps (f+1)).lp 3 d i m c) aj k1;refine B3 hCC 3 G (α:=RL) (λa=>[(0,.ptr 0 0),(1,iv d),(5,iv a.x)]) (λa=>[rbx T a.m a.at_ a.e ps a.b (kf a.ph),.dead,ot1 a.ph a.e a.b.length,ot2 a.ph a.e a.b.length]) (λa=>(a.e=0->∃i:Nat,(i:Int)=a.x/\(z6 T ps (f+2)).bin 3 d n b=(z6 T ps a.g).lp 3 d i a.m a.b/\n<a.m/\8*(T.length -a.m)+3<=a.g)/\(a.e≠0->(z6 T ps (f+2)).bin 3 d n b=none)/\a.m <T.length/\a.b.length<=256/\-1<=a.x/\a.x<=256/\a.g<=f+1) (λa=>if a.e=0 then T.length -a.m+1 else 0) ⟨⟨x1,n1,a1,e1,b1,false,(f+1)⟩,[0,1,2,7],⟨λh0=>(aG.1 h0).elim λi hi=>⟨i,hi.1,hi.2,z1 h0,dY h0⟩,aG.2,y1,w1,l1,u1,n_6 _⟩,⟨G,G⟩,ut_,uq_⟩ ?_;intro⟨x,m,a2,e,b2,ph,g⟩ ⟨hI,hN,hm,bD,bP,aK,hgf⟩;dsimp only at hI hN hm bD bP aK hgf⊢;refine qk (qC ?_ ?_)<;> intro h1
 .obtain rfl:e=0:=U h1;obtain⟨i,hi,hS,dS,hg⟩:=hI G;clear hI;obtain⟨g,rfl⟩:∃g',g=g'+1:=⟨g-1,J⟩;rw[lpS I]at hS;obtain⟨g,rfl⟩:∃g',g=g'+1:=⟨g-1,J⟩;rw[e1P]at hS;refine u e2x ?_;refine u a34 ?_;refine qD (c4 G a8x m0 (V3 hT hm hW [42] (q:=0) (s:=kf ph) a1x) G ?_);rintro⟨v10,m10⟩ ⟨gH,iR,iS,iT⟩;dsimp only at gH iR iS iT⊢;refine qN [rbx T m10 a2 0 ps b2 (kf ph),.dead,ot1 ph 0 b2.length,ot2 ph 0 b2.length] a0c ?_;refine qC ?_ ?_<;>intro h2
  .have dT:v10=true:=U h2;have hq:=(T8 (gH.symm.trans dT)).2;have bV:=iR dT;subst m10;have bj:opS (tk T m) (3:Nat)=3:=by
    show opS (tk T m) 3=3;rw[op3,W hq]
   rw[H (by rw[bj];decide),bj]at hS;refine qD (c4 G c2G j2 (hB g J d (m+1) a2 b2 iT bD ca J _ 0 (kf ph) a1x) G ?_);rintro⟨x3,n3,a3,e3,b3⟩ ⟨k3,y3,w3,z3,l3,u3⟩;dsimp only at k3 y3 w3 z3 l3 u3⊢;refine qN [rbx T n3 a3 e3 ps b3 4,.dead,.dead,.dead,o0 e3 b3.length] a0c ?_;refine b6G ?_;refine qD (c4 G a4e D0 (M7 w3 ⟨4,0,3,[],[x,x3]⟩ _ ⟨G,G,I⟩) G ?_);rintro⟨x4,a4,e4,b4⟩ ⟨k4,w4,l4,u4⟩;dsimp only at k4 w4 l4 u4⊢;refine qN [rbx T n3 a4 e4 ps b4 5,.dead,.dead,.dead,.dead,o0 e4 b4.length] G ?_;have dY:e3=0->n<n3/\8*(T.length -n3)+3<=(g+1):=λh0=>by have:=z3 h0;omega
   have bO:(if e4=0 then T.length -n3+1 else 0)< (if(0:Int)=0 then T.length -m+1 else 0):=by
    rw[W G]
    split
    .rename_i h0;have:=z3 (k4.alive h0).1;omega
    .omega
   have aG:=a24 (K:=λi m c=>(z6 T ps (g+1)).lp 3 d i m c) hS k3 (λj hj=>by rw[hi,hj];exact k4) k4.2;exact⟨⟨x4,n3,a4,e4,b4,true,g+1⟩,[0,1,2,5],⟨bO,λh0=>(aG.1 h0).2.elim λi hi=>⟨i,hi.1,hi.2,dY (aG.1 h0).1⟩,aG.2,y3,w4,l4,u4,do_⟩,⟨G,G⟩,ut_,⟨.inr ⟨_,G,.box ⟨.old a04,.old (.val _),.old (.val _),.old (.val _),.old H8,Z2 G,.old a3l,O⟩⟩,.inl G,.inl G,.inr ⟨_,G,.same G U4⟩,O⟩⟩
  .have dT:v10=false:=U h2;have bV:=iS dT;subst m10;refine qD (c4 G a8x m0 (V3 hT hm hW [47] (q:=0) (s:=kf ph) a1x) G ?_);rintro⟨v11,m11⟩ ⟨fN,iU,iV,iW⟩;dsimp only at fN iU iV iW⊢;refine qN [rbx T m11 a2 0 ps b2 (kf ph),.dead,ot1 ph 0 b2.length,ot2 ph 0 b2.length] a0c ?_;refine qC ?_ ?_<;>intro h3
   .have dB:v11=true:=U h3;have hq:=(T8 (fN.symm.trans dB)).2;have bV:=iU dB;subst m11;have bj:opS (tk T m) (3:Nat)=4:=by
     show opS (tk T m) 3=4;rw[op3,H b8B,W hq]
    rw[H (by rw[bj];decide),bj]at hS;refine qD (c4 G c2G j2 (hB g J d (m+1) a2 b2 iW bD ca J _ 0 (kf ph) a1x) G ?_);rintro⟨x3,n3,a3,e3,b3⟩ ⟨k3,y3,w3,z3,l3,u3⟩;dsimp only at k3 y3 w3 z3 l3 u3⊢;refine qN [rbx T n3 a3 e3 ps b3 4,.dead,.dead,.dead,o0 e3 b3.length] a0c ?_;refine b6G ?_;refine qD (c4 G a4e D0 (M7 w3 ⟨4,0,4,[],[x,x3]⟩ _ ⟨G,G,I⟩) G ?_);rintro⟨x4,a4,e4,b4⟩ ⟨k4,w4,l4,u4⟩;dsimp only at k4 w4 l4 u4⊢;refine qN [rbx T n3 a4 e4 ps b4 5,.dead,.dead,.dead,.dead,o0 e4 b4.length] G ?_;have dY:e3=0->n<n3/\8*(T.length -n3)+3<=(g+1):=λh0=>by have:=z3 h0;omega
    have bO:(if e4=0 then T.length -n3+1 else 0)< (if(0:Int)=0 then T.length -m+1 else 0):=by
     rw[W G]
     split
     .rename_i h0;have:=z3 (k4.alive h0).1;omega
     .omega
    have aG:=a24 (K:=λi m c=>(z6 T ps (g+1)).lp 3 d i m c) hS k3 (λj hj=>by rw[hi,hj];exact k4) k4.2;exact⟨⟨x4,n3,a4,e4,b4,true,g+1⟩,[0,1,2,5],⟨bO,λh0=>(aG.1 h0).2.elim λi hi=>⟨i,hi.1,hi.2,dY (aG.1 h0).1⟩,aG.2,y3,w4,l4,u4,do_⟩,⟨G,G⟩,ut_,⟨.inr ⟨_,G,.box ⟨.old a04,.old (.val _),.old (.val _),.old (.val _),.old H8,Z2 G,.old a3l,O⟩⟩,.inl G,.inl G,.inr ⟨_,G,.same G U4⟩,O⟩⟩
   .have dB:v11=false:=U h3;have bV:=iV dB;subst m11;refine qD (c4 G a8x m0 (V3 hT hm hW [37] (q:=0) (s:=kf ph) a1x) G ?_);rintro⟨v12,m12⟩ ⟨hv12,hs12,hf12,hm12⟩;dsimp only at hv12 hs12 hf12 hm12⊢;refine qN [rbx T m12 a2 0 ps b2 (kf ph),.dead,ot1 ph 0 b2.length,ot2 ph 0 b2.length] a0c ?_;refine qC ?_ ?_<;>intro h4
    .have iX:v12=true:=U h4;have hq:=(T8 (hv12.symm.trans iX)).2;have bV:=hs12 iX;subst m12;have bj:opS (tk T m) (3:Nat)=5:=by
      show opS (tk T m) 3=5;rw[op3,H b8B,H (by rw[Q5 fN dB];decide),W hq]
     rw[H (by rw[bj];decide),bj]at hS;refine qD (c4 G c2G j2 (hB g J d (m+1) a2 b2 hm12 bD ca J _ 0 (kf ph) a1x) G ?_);rintro⟨x3,n3,a3,e3,b3⟩ ⟨k3,y3,w3,z3,l3,u3⟩;dsimp only at k3 y3 w3 z3 l3 u3⊢;refine qN [rbx T n3 a3 e3 ps b3 4,.dead,.dead,.dead,o0 e3 b3.length] a0c ?_;refine b6G ?_;refine qD (c4 G a4e D0 (M7 w3 ⟨4,0,5,[],[x,x3]⟩ _ ⟨G,G,I⟩) G ?_);rintro⟨x4,a4,e4,b4⟩ ⟨k4,w4,l4,u4⟩;dsimp only at k4 w4 l4 u4⊢;refine qN [rbx T n3 a4 e4 ps b4 5,.dead,.dead,.dead,.dead,o0 e4 b4.length] G ?_;have dY:e3=0->n<n3/\8*(T.length -n3)+3<=(g+1):=λh0=>by have:=z3 h0;omega
     have bO:(if e4=0 then T.length -n3+1 else 0)< (if(0:Int)=0 then T.length -m+1 else 0):=by
      rw[W G]
      split
      .rename_i h0;have:=z3 (k4.alive h0).1;omega
      .omega
     have aG:=a24 (K:=λi m c=>(z6 T ps (g+1)).lp 3 d i m c) hS k3 (λj hj=>by rw[hi,hj];exact k4) k4.2;exact⟨⟨x4,n3,a4,e4,b4,true,g+1⟩,[0,1,2,5],⟨bO,λh0=>(aG.1 h0).2.elim λi hi=>⟨i,hi.1,hi.2,dY (aG.1 h0).1⟩,aG.2,y3,w4,l4,u4,do_⟩,⟨G,G⟩,ut_,⟨.inr ⟨_,G,.box ⟨.old a04,.old (.val _),.old (.val _),.old (.val _),.old H8,Z2 G,.old a3l,O⟩⟩,.inl G,.inl G,.inr ⟨_,G,.same G U4⟩,O⟩⟩
    .have iX:v12=false:=U h4;have bV:=hf12 iX;subst m12;refine V5 ?_;exact⟨_,rE1,(by exact⟨⟨x,m,a2,0,b2⟩,e1T,b8y (hS.trans (W (by show opS (tk T m) 3=0;rw[op3,H b8B,H (by rw[Q5 fN dB];decide),H (by rw[Q5 hv12 iX];decide)]))) hi hm bD dS bP aK⟩)⟩
 .have he:e≠0:=U h1;refine V5 ?_;exact⟨_,rE1,e2I⟩
theorem d3T{ps:List D}(hc:Z9 T ps)(Jg:∀g,g<f0->RFC T ps g):RTC T ps f0:=λd n at_ b hn hb hd hf σ q s aw=>by
 obtain⟨f,rfl⟩:∃f,f0=f+2:=⟨f0-2,J⟩;exact a15 (c:=λa:RX=>(iv a.x)) (N:=λa=>a.n) (A:=λa=>a.at_) (E:=λa=>a.e) (B:=λa=>a.b) (λ_ h=>by simp at h;subst h;exact .val _) (λ_=>.val _) (c9i hc (λg hg=>Jg g J) d n at_ b hn hb hd hf) aw
theorem O8(h:isT t k s=true):t.k=k/\t.t=s:=by simpa[isT]using h
theorem b0v{ps:List D}{d n:Nat}{b:List Ex}:(z6 T ps (f+1)).fac d n b=(F3 T ps (z6 T ps f)).fac d n b:=G
theorem d5L{ps:List D}{d n:Nat}{b:List Ex}(h:(tk T n).k=2):(z6 T ps (f+1)).fac d n b=K4 b ⟨1,(tk T n).n,0,[],[]⟩ (n+1):=by
 rw[b0v];simp only[F3];rw[W h]
theorem d2U{ps:List D}{d n:Nat}{b:List Ex}(h:isT (tk T n) 4 [45]=true):(z6 T ps (f+1)).fac d n b=(E8 T (n+1) 2).bind λy=>K4 b ⟨1,-y.1.n,0,[],[]⟩ y.2:=by
 rw[b0v];simp only[F3];rw[H (by rw[(O8 h).1];decide),W h]
theorem d4n{ps:List D}{d n:Nat}{b:List Ex}(h:isT (tk T n) 4 [40]=true):(z6 T ps (f+1)).fac d n b=((z6 T ps f).ex (d+1) (n+1) b).bind λx=>(pIs T x.2.1 4 [41]).bind λm=>some (x.1,m,x.2.2):=by
 rw[b0v];simp only[F3];rw[H (by rw[(O8 h).1];decide),H (by simp[isT,(O8 h).2]),W h]
theorem a5a{ps:List D}{d n:Nat}{b:List Ex}(h:isT (tk T n) 1 Jj=true)(hu:Jj=[114,101,97,100]\/Jj=[115,105,122,101]\/Jj=[104,97,115]\/Jj=[101,110,118]\/Jj=[102,108,105,112]):(z6 T ps (f+1)).fac d n b=W8 T (z6 T ps f) Jj d (n+1) b:=by
 obtain⟨hk,ht⟩:=O8 h;rw[b0v];simp only[F3];rw[H (by rw[hk];decide),H (by simp[isT,hk]),H (by simp[isT,hk]),H (by simp[hk]),ht,W hu]
theorem a4t(h:isT t k s=false)(hk:t.k=k):¬t.t=s:=by
 intro e;simp[isT,hk,e]at h
theorem c82{ps:List D}{d n:Nat}{b:List Ex}(h1:¬(tk T n).k=2)(h2:isT (tk T n) 4 [45]=false)(h3:isT (tk T n) 4 [40]=false)(h4:isT (tk T n) 1 [114,101,97,100]=false)(h5:isT (tk T n) 1 [115,105,122,101]=false)(h6:isT (tk T n) 1 [104,97,115]=false)(h7:isT (tk T n) 1 [101,110,118]=false)(h8:isT (tk T n) 1 [102,108,105,112]=false):
 (z6 T ps (f+1)).fac d n b=(I7 T n).bind λs=>if isT (tk T s.2) 4 [40]=true then(a2x T (z6 T ps f) d s.2 b).bind λa=>K4 a.2.2 ⟨3,0,0,s.1.t,a.1⟩ a.2.1 else if ixS ps s.1.t 0<0 then none else K4 b ⟨2,ixS ps s.1.t 0,0,[],[]⟩ s.2:=by
 rw[b0v];simp only[F3];rw[H h1,H (by rw[h2];decide),H (by rw[h3];decide)];by_cases hk:(tk T n).k=1
 .rw [H (λh=>h hk),H (by
   rintro(h|h|h|h|h)
   .exact a4t h4 hk h
   .exact a4t h5 hk h
   .exact a4t h6 hk h
   .exact a4t h7 hk h
   .exact a4t h8 hk h)]
  by_cases hr:T0 (tk T n).t=true
  .rw [W hr];simp[I7,E8,hk,hr]
  .rw [H hr];simp[I7,E8,hk,hr]
 .rw [W hk];simp[I7,E8,hk]
theorem d4p{d n:Nat}{b:List Ex}:W8 T F [114,101,97,100] d n b=(pIs T n 4 [40]).bind λn1=>(a1B T true n1).bind λs=>(pIs T s.2 4 [44]).bind λn2=>(F.ex (d+1) n2 b).bind λx=>(pIs T x.2.1 4 [41]).bind λm=>K4 x.2.2 ⟨6,0,0,s.1.t,[(x.1:Int)]⟩ m:=by
 simp only[a3O];rfl
theorem d5A{d n:Nat}{b:List Ex}:W8 T F [115,105,122,101] d n b=(pIs T n 4 [40]).bind λn1=>(a1B T true n1).bind λs=>(pIs T s.2 4 [41]).bind λm=>K4 b ⟨7,0,0,s.1.t,[]⟩ m:=by
 simp only[a3O];rfl
theorem e0q{d n:Nat}{b:List Ex}:W8 T F [104,97,115] d n b=(pIs T n 4 [40]).bind λn1=>(a1B T true n1).bind λs=>(pIs T s.2 4 [41]).bind λm=>K4 b ⟨8,0,0,s.1.t,[]⟩ m:=by
 simp only[a3O];rfl
theorem d8U{d n:Nat}{b:List Ex}:W8 T F [101,110,118] d n b=(pIs T n 4 [40]).bind λn1=>(a1B T false n1).bind λs=>(pIs T s.2 4 [41]).bind λm=>K4 b ⟨9,0,0,s.1.t,[]⟩ m:=by
 have e:W8 T F [101,110,118] d n b=(pIs T n 4 [40]).bind λn1=>(E8 T n1 3).bind λs=>if C0 s.1.t=true then(pIs T s.2 4 [41]).bind λm=>K4 b ⟨9,0,0,s.1.t,[]⟩ m else none:=G
 rw[e];refine n_7 _ (funext λn1=>?_);unfold a1B;cases E8 T n1 3 with
 |none=>rfl
 |some s=>
  simp only[n_8];by_cases h:C0 s.1.t=true
  .simp [h]
  .simp [h]
theorem c3f{d n:Nat}{b:List Ex}:W8 T F [102,108,105,112] d n b=(pIs T n 4 [40]).bind λn1=>(E8 T n1 2).bind λs=>if 64<=s.1.n then none else(pIs T s.2 4 [41]).bind λm=>K4 b ⟨10,s.1.n,0,[],[]⟩ m:=G
theorem J4{n:Nat}{e:Int}(q:Ok e (pIs T n k Jj) e' n')(h:e'=0):e=0/\n'=n+1:=⟨(q.alive h).1,O3 (q.alive h).2⟩
theorem b1I{n:Nat}{x:Tok×Nat}(hk:k≠5)(h:E8 T n k=some x):x=(tk T n,n+1)/\(tk T n).k=k:=by
 unfold E8 at h;by_cases h1:(tk T n).k=k
 .rw [W h1,H hk]at h;injection h with h
  exact⟨h.symm,h1⟩
 .rw [H h1]at h;cases h
theorem c7l{n:Nat}{e:Int}(q:Ok e ((E8 T n 2).map λx=>(x.1.n,x.2)) e' (x,n'))(h:e'=0):e=0/\n'=n+1:=by
 obtain⟨h1,h2⟩:=q.alive h;obtain⟨p,hp,hg⟩:=M8.1 h2;obtain⟨rfl,_⟩:=b1I I hp;injection hg with _ hg
 exact⟨h1,hg.symm⟩
theorem d8I{n:Nat}(q:Ok 0 ((E8 T n 2).map λx=>(x.1.n,x.2)) e' (x,n'))(hk:(tk T n).k=2):e'=0/\x=(tk T n).n/\n'=n+1:=by
 have hp:E8 T n 2=some (tk T n,n+1):=by
  unfold E8;rw[W hk,H I]
 rw[hp]at q
 rcases q.zero with⟨h1,h2⟩|⟨_,h2⟩
 .injection h2 with h2
  injection h2 with h3 h4
  exact⟨h1,h3.symm,h4.symm⟩
 .cases h2
theorem a7k{n:Nat}{e:Int}{p:Bool}{x:D}(q:Ok e ((a1B T p n).map λx=>(x.1.t,x.2)) e' (x,n'))(h:e'=0):e=0/\n'=n+1:=by
 obtain⟨h1,h2⟩:=q.alive h;obtain⟨t,hp,hg⟩:=M8.1 h2;obtain⟨y,hy,hz⟩:=c7m.1 hp;obtain⟨rfl,_⟩:=b1I I hy;by_cases hc:(if p=true then F6 (tk T n).t else C0 (tk T n).t)=true
 .rw [W hc]at hz;injection hz with hz
  subst hz;injection hg with _ hg
  exact⟨h1,hg.symm⟩
 .rw [H hc]at hz;cases hz
theorem a9V{n:Nat}{e:Int}{x:D}(q:Ok e ((I7 T n).map λx=>(x.1.t,x.2)) e' (x,n'))(h:e'=0):e=0/\n'=n+1/\x=(tk T n).t/\I7 T n=some (tk T n,n+1):=by
 obtain⟨h1,h2⟩:=q.alive h;obtain⟨t,hp,hg⟩:=M8.1 h2;obtain⟨y,hy,hz⟩:=c7m.1 hp;obtain⟨rfl,_⟩:=b1I I hy;by_cases hc:T0 (tk T n).t=true
 .rw [W hc]at hz;cases hz
 .rw [H hc]at hz;injection hz with hz
  subst hz;injection hg with dz hg
  exact⟨h1,hg.symm,dz.symm,hp⟩
def a4m(T:List Tok)(ps:List D)(d g m:Nat)(b:List Ex)(l:List Int):Option (List Int×Nat×List Ex):=
 if l=[]then(if isT (tk T m) 4 [41]=true then some ([],m+1,b)else(z6 T ps g).ag d m b [])
 else if isT (tk T m) 4 [44]=true then(z6 T ps g).ag d (m+1) b l else(pIs T m 4 [41]).bind λm'=>some (l,m',b)
theorem c5Q{ps:List D}{d n:Nat}{b:List Ex}(h:isT (tk T n) 4 [40]=true):a2x T (z6 T ps f) d n b=a4m T ps d f (n+1) b []:=by
 unfold a2x pIs a4m;rw[W h,n_8,W G]
theorem c5B{ps:List D}{d g m:Nat}{b:List Ex}{l:List Int}(h:isT (tk T m) 4 [41]=true):a4m T ps d g m b l=some (l,m+1,b):=by
 unfold a4m;by_cases hl:l=[]
 .rw [W hl,W h,hl]
 .rw [H hl,H (by simp[isT,(O8 h).2]),pIs,W h];rfl
theorem c0I{ps:List D}{d g m:Nat}{b:List Ex}{l:List Int}(h:isT (tk T m) 4 [41]=false)(hl:l≠[]):a4m T ps d g m b l=(pIs T m 4 [44]).bind λm'=>(z6 T ps g).ag d m' b l:=by
 unfold a4m;rw[H hl];unfold pIs;by_cases h4:isT (tk T m) 4 [44]=true
 .rw [W h4,W h4];rfl
 .rw [H h4,H h4,H (by rw[h];decide)];rfl
theorem b9j{ps:List D}{d g m:Nat}{b:List Ex}(h:isT (tk T m) 4 [41]=false):a4m T ps d g m b []=(some m).bind λm'=>(z6 T ps g).ag d m' b []:=by
 unfold a4m;rw[W G,H (by rw[h];decide)];rfl
theorem agS{ps:List D}{g d n:Nat}{b:List Ex}{l:List Int}:(z6 T ps (g+1)).ag d n b l=((z6 T ps g).ex (d+1) n b).bind λx=>a4m T ps d g x.2.1 x.2.2 (l++[(x.1:Int)]):=by
 show((z6 T ps g).ex (d+1) n b).bind _=_;refine n_7 _ (funext λx=>?_);unfold a4m;exact(H Q).symm
theorem b9g{o:Option Nat}{X:Nat->Option PX}{R:PX->Option (List Int×Nat×List Ex)}{P:List Int×Nat×List Ex->Option PX}{x3:Int}{b3:List Ex}(hs:S=(o.bind λm=>(X m).bind R).bind P)(q:Ok 0 o e2 n2)(k:Ok e2 ((X n2).map cx) e3 (x3,n3,b3)):
 (e3=0->e2=0/\∃j:Nat,(j:Int)=x3/\S=(R (j,n3,b3)).bind P)/\(e3≠0->S=none):=by
 rcases q.zero with⟨h2,ho⟩|⟨h2,ho⟩
 .subst h2
  rcases k.zero with⟨h3,hX⟩|⟨h3,hX⟩
  .obtain ⟨j,hj,hX⟩:=b44 hX;exact⟨λ_=>⟨G,j,hj,by rw[hs,ho,n_8,hX];rfl⟩,λh=>absurd h3 h⟩
  .exact ⟨λh=>absurd h h3,λ_=>by rw[hs,ho,n_8,b4N hX];rfl⟩
 .exact ⟨λh=>absurd h (k.2 h2),λ_=>by rw[hs,ho];rfl⟩
structure RG where
 l:List Int
 m:Nat
 at_:Int
 e:Int
 b:List Ex
 ph:Bool
 g:Nat
variable{g:Nat}
def kg5(ph:Bool):Nat:=if ph=true then 4 else 1
theorem c0Q{ps:List D}(hc:Z9 T ps)(hE:∀g,g<=f->REC T ps g)(d n:Nat)(at_:Int)(b:List Ex)(hn:n<T.length)(hb:b.length<=256)(ca:d<=32)(hf:8*(T.length -n)+1<=f+1):b8 CC 326 [.ptr 0 0,iv d] (rst T n at_ 0 ps b) (λr τ=>∃a:RX,C9 2 τ r (.ret (iv a.x)) (a6l T a.n a.at_ a.e ps a.b)/\RXP T n 0 ((z6 T ps (f+1)).fac d n b) a):=by
 have hT:=hc.len;have hW:=hc.w;refine qO Tryz.func326 ?_;refine u b6t ?_;refine z_3 ?_;refine cC ?_ ?_<;>intro h1
 .simp at h1
 .refine qk (qC ?_ ?_)<;> intro h2
  .have hk:(tk T n).k=2:=U h2;refine qD (c4 G d0S ⟨O,O⟩ (a8A hT hn hW hc.nn ⟨G,G,I⟩) G ?_);rintro⟨x1,n1,a1,e1⟩ ⟨q1,y1,l1,u1⟩;dsimp only at q1 y1 l1 u1⊢;refine qN [rbx T n1 a1 e1 ps b 1,o0 e1 b.length,.box (tk T n).cells] G ?_;obtain⟨rfl,rfl,rfl⟩:=d8I q1 hk;refine u b0l ?_;refine qD (c4 G a4e D0 (M7 hb ⟨1,(tk T n).n,0,[],[]⟩ _ ⟨G,G,I⟩) G ?_);rintro⟨x6,a6,e6,b6⟩ ⟨k6,w6,l6,u6⟩;dsimp only at k6 w6 l6 u6⊢;refine qN [rbx T (n+1) a6 e6 ps b6 3,.dead,.box (tk T n).cells,o0 e6 b6.length] G ?_;refine c6 ?_;exact⟨_,rE1,(by exact⟨⟨x6,n+1,a6,e6,b6⟩,S9 (k:=3) G G I (.val _),⟨by rw[d5L hk];exact a10 k6,do_,w6,λh0=>by dsimp only;omega,l6,u6⟩⟩)⟩
  .have hk:¬(tk T n).k=2:=U h2;refine qD (c4 G a8x m0 (V3 hT hn hW [45] ⟨G,G,I⟩) G ?_);rintro⟨v1,m1⟩ ⟨dO,bc,cI,cz⟩;dsimp only at dO bc cI cz⊢;refine qN [rbx T m1 at_ 0 ps b 1,o0 0 b.length,.box (tk T n).cells] G (qC ?_ ?_)<;> intro h3
   .have eE:v1=true:=U h3;have hq:=(T8 (dO.symm.trans eE)).2;have bV:=bc eE;subst m1;refine qD (c4 G d0S ⟨O,O⟩ (a8A hT cz hW hc.nn ⟨G,G,I⟩) G ?_);rintro⟨x2,n2,a2,e2⟩ ⟨q2,y2,l2,u2⟩;dsimp only at q2 y2 l2 u2⊢;refine qN [rbx T n2 a2 e2 ps b 1,o0 e2 b.length,.box (tk T n).cells] G ?_;have ew: -x2=IntKind.i64.wrap (0-x2):=by rw[a5B J J];omega
    refine u (c3S G O G) ?_;refine u b0l ?_;refine qD (c4 G a4e D0 (M7 hb ⟨1,IntKind.i64.wrap (0-x2),0,[],[]⟩ _ ⟨G,G,I⟩) G ?_);rintro⟨x6,a6,e6,b6⟩ ⟨k6,w6,l6,u6⟩;dsimp only at k6 w6 l6 u6⊢;refine qN [rbx T n2 a6 e6 ps b6 3,.dead,.box (tk T n).cells,o0 e6 b6.length] G ?_;refine c6 ?_;exact⟨_,rE1,(by exact⟨⟨x6,n2,a6,e6,b6⟩,S9 (k:=3) G G I (.val _),⟨by rw[d2U hq];exact q2.bindI (λt ht=>a10 (by rw[ht,ew];exact k6)) k6.2,do_,w6,λh0=>by have:=(c7l q2 (k6.alive h0).1).2;dsimp only;omega,l6,u6⟩⟩)⟩
   .have eE:v1=false:=U h3;have dz:=Q5 dO eE;have bV:=cI eE;subst m1;refine qD (c4 G a8x m0 (V3 hT hn hW [40] ⟨G,G,I⟩) G ?_);rintro⟨v2,m2⟩ ⟨cL,eh,gE,cc⟩;dsimp only at cL eh gE cc⊢;refine qN [rbx T m2 at_ 0 ps b 1,o0 0 b.length,.box (tk T n).cells] G (qC ?_ ?_)<;> intro h4
    .have da:v2=true:=U h4;have hq:=(T8 (cL.symm.trans da)).2;have bV:=eh da;subst m2;refine u o3 ?_;refine qD (c4 G b7W j2 (hE f (n_6 _) (d+1) (n+1) at_ 0 b cc hb J (λ_=>by omega) _ 0 1 ⟨G,G,I⟩) G ?_);rintro⟨x3,n3,a3,e3,b3⟩ ⟨k3,y3,w3,z3,l3,u3⟩;dsimp only at k3 y3 w3 z3 l3 u3⊢;refine qN [rbx T n3 a3 e3 ps b3 3,.dead,.box (tk T n).cells,o0 e3 b3.length] G (qD (c4 G a4f m0 (M5 hT y3 hW [41] ⟨G,G,I⟩) G ?_));rintro⟨n4,a4,e4⟩ ⟨q4,y4⟩;dsimp only at q4 y4⊢;refine qN [rbx T n4 a4 e4 ps b3 3,.dead,.box (tk T n).cells,o0 e4 b3.length] G ?_;refine c6 ?_;exact⟨_,rE1,(by exact⟨⟨x3,n4,a4,e4,b3⟩,S9 (k:=3) G G I (.val _),⟨by rw[d4n hq];exact k3.bindX (λi hi=>q4.bindP (by rw[<- hi];exact .some)) q4.2,y4,w3,λh0=>by have g:=J4 q4 h0;have:=z3 g.1;dsimp only;omega,l3,u3⟩⟩)⟩
    .have da:v2=false:=U h4;have cU:=Q5 cL da;have bV:=gE da;subst m2;refine qD (c4 G a9C m0 (Y1 hT hn hW [114,101,97,100] ⟨G,G,I⟩) G ?_);rintro⟨v3,m3⟩ ⟨hv3,fV,hf3,gg⟩;dsimp only at hv3 fV hf3 gg⊢;refine qN [rbx T m3 at_ 0 ps b 1,o0 0 b.length,.box (tk T n).cells] G (qC ?_ ?_)<;> intro h5
     .have fW:v3=true:=U h5;have hq:=(T8 (hv3.symm.trans fW)).2;have bV:=fV fW;subst m3;refine qD (c4 G a4f m0 (M5 hT gg hW [40] ⟨G,G,I⟩) G ?_);rintro⟨n1,a1,e1⟩ ⟨q1,y1⟩;dsimp only at q1 y1⊢;refine qN [rbx T n1 a1 e1 ps b 1,o0 e1 b.length,.box (tk T n).cells] G (qD (c4 G c27 m0 (a91 hT y1 hW true hc.l ⟨G,G,I⟩) G ?_));rintro⟨s2,n2,a2,e2⟩ ⟨q2,y2⟩;dsimp only at q2 y2⊢;refine qN [rbx T n2 a2 e2 ps b 1,o0 e2 b.length,.box (tk T n).cells] G (qD (c4 G a4f m0 (M5 hT y2 hW [44] ⟨G,G,I⟩) G ?_));rintro⟨n3,a3,e3⟩ ⟨q3,y3⟩;dsimp only at q3 y3⊢;refine qN [rbx T n3 a3 e3 ps b 1,o0 e3 b.length,.box (tk T n).cells] G (u o3 ?_);refine qD (c4 G b7W j2 (hE f (n_6 _) (d+1) n3 a3 e3 b y3 hb J (λh0=>by have g:=J4 q3 h0;have g':=a7k q2 g.1;have:=J4 q1 g'.1;omega) _ 0 1 ⟨G,G,I⟩) G ?_);rintro⟨x4,n4,a4,e4,b4⟩ ⟨k4,y4,w4,z4,l4,u4⟩;dsimp only at k4 y4 w4 z4 l4 u4⊢;refine qN [rbx T n4 a4 e4 ps b4 3,.dead,.box (tk T n).cells,o0 e4 b4.length] G (qD (c4 G a4f m0 (M5 hT y4 hW [41] ⟨G,G,I⟩) G ?_));rintro⟨n5,a5,e5⟩ ⟨q5,y5⟩;dsimp only at q5 y5⊢;refine qN [rbx T n5 a5 e5 ps b4 3,.dead,.box (tk T n).cells,o0 e5 b4.length] G (u (A6 ([x4].map icv) G ⟨O,O⟩ t_7 t_1 t_9 G G G G G G G G G) ?_);refine u c5a ?_;refine qD (c4 G a4e D0 (M7 w4 ⟨6,0,0,s2,[x4]⟩ _ ⟨G,G,I⟩) G ?_);rintro⟨x6,a6,e6,b6⟩ ⟨k6,w6,l6,u6⟩;dsimp only at k6 w6 l6 u6⊢;refine qN [rbx T n5 a6 e6 ps b6 4,.dead,.box (tk T n).cells,.dead,o0 e6 b6.length] G ?_;refine c6 ?_;exact⟨_,rE1,(by exact⟨⟨x6,n5,a6,e6,b6⟩,S9 (k:=4) G G I (.val _),⟨by rw[a5a hq I,d4p];exact q1.bindP (q2.bindT (λt ht=>q3.bindP (k4.bindX (λi hi=>q5.bindP (a10 (by rw[ht,hi];exact k6))) λh=>k6.2 (q5.2 h))) λh=>k6.2 (q5.2 (k4.2 (q3.2 h)))),do_,w6,λh0=>by have g5:=J4 q5 (k6.alive h0).1;have:=z4 g5.1;have g3:=J4 q3 (k4.alive g5.1).1;have g2:=a7k q2 g3.1;have:=J4 q1 g2.1;dsimp only;omega,l6,u6⟩⟩)⟩
     .have fW:v3=false:=U h5;have hg3:=Q5 hv3 fW;have bV:=hf3 fW;subst m3;refine qD (c4 G a9C m0 (Y1 hT hn hW [115,105,122,101] ⟨G,G,I⟩) G ?_);rintro⟨v4,m4⟩ ⟨hv4,hs4,hf4,hm4⟩;dsimp only at hv4 hs4 hf4 hm4⊢;refine qN [rbx T m4 at_ 0 ps b 1,o0 0 b.length,.box (tk T n).cells] G (qC ?_ ?_)<;> intro h6
      .have ig:v4=true:=U h6;have hq:=(T8 (hv4.symm.trans ig)).2;have bV:=hs4 ig;subst m4;have hw:=(O8 hq).2;refine qC ?_ ?_<;>intro h7
       .refine u O5 ?_;refine qC ?_ ?_<;>intro h8
        .simp [hw]at h8
        .refine u O5 ?_;refine qC ?_ ?_<;>intro h9
         .simp [hw]at h9
         .refine qD (c4 G a4f m0 (M5 hT hm4 hW [40] ⟨G,G,I⟩) G ?_);rintro⟨n1,a1,e1⟩ ⟨q1,y1⟩;dsimp only at q1 y1⊢;refine d6B ?_;rintro⟨s2,n2,a2,e2⟩ ⟨q2,y2⟩;dsimp only at q2 y2⊢;refine d8T ?_;rintro⟨n3,a3,e3⟩ ⟨q3,y3⟩;dsimp only at q3 y3⊢;refine c8q ?_;refine qD (c4 G a4e D0 (M7 hb ⟨7,0,0,s2,[]⟩ _ ⟨G,G,I⟩) G ?_);rintro⟨x6,a6,e6,b6⟩ ⟨k6,w6,l6,u6⟩;dsimp only at k6 w6 l6 u6⊢;refine d3M ?_;exact⟨_,rE1,(by exact⟨⟨x6,n3,a6,e6,b6⟩,S9 (k:=3) G G I (.val _),⟨by rw[a5a hq I,d5A];exact q1.bindP (q2.bindT (λt ht=>q3.bindP (a10 (by rw[ht];exact k6))) λh=>k6.2 (q3.2 h)),do_,w6,λh0=>by have g3:=J4 q3 (k6.alive h0).1;have g2:=a7k q2 g3.1;have:=J4 q1 g2.1;dsimp only;omega,l6,u6⟩⟩)⟩
       .rw [ig]at h7;cases h7
      .have ig:v4=false:=U h6;have hg4:=Q5 hv4 ig;have bV:=hf4 ig;subst m4;refine qD (c4 G a9C m0 (Y1 hT hn hW [104,97,115] ⟨G,G,I⟩) G ?_);rintro⟨v5,m5⟩ ⟨hv5,hs5,hf5,hm5⟩;dsimp only at hv5 hs5 hf5 hm5⊢;refine qN [rbx T m5 at_ 0 ps b 1,o0 0 b.length,.box (tk T n).cells] G (qC ?_ ?_)<;> intro h19
       .have hi5:v5=true:=U h19;have hq:=(T8 (hv5.symm.trans hi5)).2;have bV:=hs5 hi5;subst m5;have hw:=(O8 hq).2;refine qC ?_ ?_<;>intro h20
        .refine u O5 ?_;refine qC ?_ ?_<;>intro h21
         .refine qD (c4 G a4f m0 (M5 hT hm5 hW [40] ⟨G,G,I⟩) G ?_);rintro⟨n1,a1,e1⟩ ⟨q1,y1⟩;dsimp only at q1 y1⊢;refine d6B ?_;rintro⟨s2,n2,a2,e2⟩ ⟨q2,y2⟩;dsimp only at q2 y2⊢;refine d8T ?_;rintro⟨n3,a3,e3⟩ ⟨q3,y3⟩;dsimp only at q3 y3⊢;refine c8q ?_;refine qD (c4 G a4e D0 (M7 hb ⟨8,0,0,s2,[]⟩ _ ⟨G,G,I⟩) G ?_);rintro⟨x6,a6,e6,b6⟩ ⟨k6,w6,l6,u6⟩;dsimp only at k6 w6 l6 u6⊢;refine d3M ?_;exact⟨_,rE1,(by exact⟨⟨x6,n3,a6,e6,b6⟩,S9 (k:=3) G G I (.val _),⟨by rw[a5a hq I,e0q];exact q1.bindP (q2.bindT (λt ht=>q3.bindP (a10 (by rw[ht];exact k6))) λh=>k6.2 (q3.2 h)),do_,w6,λh0=>by have g3:=J4 q3 (k6.alive h0).1;have g2:=a7k q2 g3.1;have:=J4 q1 g2.1;dsimp only;omega,l6,u6⟩⟩)⟩
         .simp [hw]at h21
        .rw [hi5]at h20;cases h20
       .have hi5:v5=false:=U h19;have hg5:=Q5 hv5 hi5;have bV:=hf5 hi5;subst m5;refine qD (c4 G a9C m0 (Y1 hT hn hW [101,110,118] ⟨G,G,I⟩) G ?_);rintro⟨v6,m6⟩ ⟨hv6,hs6,hf6,hm6⟩;dsimp only at hv6 hs6 hf6 hm6⊢;refine qN [rbx T m6 at_ 0 ps b 1,o0 0 b.length,.box (tk T n).cells] G (qC ?_ ?_)<;> intro h32
        .have hi6:v6=true:=U h32;have hq:=(T8 (hv6.symm.trans hi6)).2;have bV:=hs6 hi6;subst m6;have hw:=(O8 hq).2;refine u O5 ?_;refine qC ?_ ?_<;>intro h33
         .simp [hw]at h33
         .refine u O5 ?_;refine qC ?_ ?_<;>intro h34
          .refine qD (c4 G a4f m0 (M5 hT hm6 hW [40] ⟨G,G,I⟩) G ?_);rintro⟨n1,a1,e1⟩ ⟨q1,y1⟩;dsimp only at q1 y1⊢;refine qN [rbx T n1 a1 e1 ps b 1,o0 e1 b.length,.box (tk T n).cells] G (qD (c4 G c27 j2 (a91 hT y1 hW false hc.l ⟨G,G,I⟩) G ?_));rintro⟨s2,n2,a2,e2⟩ ⟨q2,y2⟩;dsimp only at q2 y2⊢;refine d8T ?_;rintro⟨n3,a3,e3⟩ ⟨q3,y3⟩;dsimp only at q3 y3⊢;refine c8q ?_;refine qD (c4 G a4e D0 (M7 hb ⟨9,0,0,s2,[]⟩ _ ⟨G,G,I⟩) G ?_);rintro⟨x6,a6,e6,b6⟩ ⟨k6,w6,l6,u6⟩;dsimp only at k6 w6 l6 u6⊢;refine d3M ?_;exact⟨_,rE1,(by exact⟨⟨x6,n3,a6,e6,b6⟩,S9 (k:=3) G G I (.val _),⟨by rw[a5a hq I,d8U];exact q1.bindP (q2.bindT (λt ht=>q3.bindP (a10 (by rw[ht];exact k6))) λh=>k6.2 (q3.2 h)),do_,w6,λh0=>by have g3:=J4 q3 (k6.alive h0).1;have g2:=a7k q2 g3.1;have:=J4 q1 g2.1;dsimp only;omega,l6,u6⟩⟩)⟩
          .simp [hw]at h34
        .have hi6:v6=false:=U h32;have hg6:=Q5 hv6 hi6;have bV:=hf6 hi6;subst m6;refine qD (c4 G a9C m0 (Y1 hT hn hW [102,108,105,112] ⟨G,G,I⟩) G ?_);rintro⟨v7,m7⟩ ⟨hv7,hs7,hf7,hm7⟩;dsimp only at hv7 hs7 hf7 hm7⊢;refine qN [rbx T m7 at_ 0 ps b 1,o0 0 b.length,.box (tk T n).cells] G (qC ?_ ?_)<;> intro h35
         .have hi7:v7=true:=U h35;have hq:=(T8 (hv7.symm.trans hi7)).2;have bV:=hs7 hi7;subst m7;refine qD (c4 G a4f m0 (M5 hT hm7 hW [40] ⟨G,G,I⟩) G ?_);rintro⟨n1,a1,e1⟩ ⟨q1,y1⟩;dsimp only at q1 y1⊢;refine qN [rbx T n1 a1 e1 ps b 1,o0 e1 b.length,.box (tk T n).cells] G ?_;refine d6R ?_;refine qD (c4 G d0S ⟨O,O⟩ (a8A hT y1 hW hc.nn ⟨G,G,I⟩) G ?_);rintro⟨x2,n2,a2,e2⟩ ⟨q2,y2,l2,u2⟩;dsimp only at q2 y2 l2 u2⊢;refine qN [rbx T n2 a2 e2 ps b 1,o0 e2 b.length,.box (tk T n).cells] G (qC ?_ ?_)<;> intro h36
          .have aL:64<=x2:=U h36;refine qD (c4 G b0n a3T (a0u _ _ I ⟨G,G,I⟩) G ?_);rintro⟨x0,y0⟩ bF;dsimp only at bF⊢;refine qN [rbx T n2 x0 y0 ps b 1,o0 y0 b.length,.box (tk T n).cells] G (qD (c4 G a4f m0 (M5 hT y2 hW [41] ⟨G,G,I⟩) G ?_));rintro⟨n3,a3,e3⟩ ⟨q3,y3⟩;dsimp only at q3 y3⊢;refine d6l ?_;rintro⟨x6,a6,e6,b6⟩ ⟨k6,w6,l6,u6⟩;dsimp only at k6 w6 l6 u6⊢;refine qN [rbx T n3 a6 e6 ps b6 3,.dead,.box (tk T n).cells,o0 e6 b6.length] G ?_;have he6:=k6.2 (q3.2 bF);refine c6 ?_;exact⟨_,rE1,(by exact⟨⟨x6,n3,a6,e6,b6⟩,S9 (k:=3) G G I (.val _),⟨by rw[a5a hq I,c3f];exact q1.bindP (q2.bindI (λt ht=>by dsimp only;rw[W (by rw[ht];exact aL)];exact .none he6) λ_=>he6),do_,w6,λh0=>absurd h0 he6,l6,u6⟩⟩)⟩
          .have aL:¬64<=x2:=U h36;refine qD (c4 G a4f m0 (M5 hT y2 hW [41] ⟨G,G,I⟩) G ?_);rintro⟨n3,a3,e3⟩ ⟨q3,y3⟩;dsimp only at q3 y3⊢;refine d6l ?_;rintro⟨x6,a6,e6,b6⟩ ⟨k6,w6,l6,u6⟩;dsimp only at k6 w6 l6 u6⊢;refine d3M ?_;exact⟨_,rE1,(by exact⟨⟨x6,n3,a6,e6,b6⟩,S9 (k:=3) G G I (.val _),⟨by rw[a5a hq I,c3f];exact q1.bindP (q2.bindI (λt ht=>by dsimp only;rw[H (by rw[ht];exact aL)];exact q3.bindP (a10 (by rw[ht];exact k6))) λh=>k6.2 (q3.2 h)),do_,w6,λh0=>by have g3:=J4 q3 (k6.alive h0).1;have g2:=c7l q2 g3.1;have:=J4 q1 g2.1;dsimp only;omega,l6,u6⟩⟩)⟩
         .have hi7:v7=false:=U h35;have hg7:=Q5 hv7 hi7;have bV:=hf7 hi7;subst m7;have aj:=c82 (ps:=ps) (f:=f) (d:=d) (b:=b) hk dz cU hg3 hg4 hg5 hg6 hg7;refine qD (c4 G c9c ⟨O,O⟩ (a7A hT hn hW ⟨G,G,I⟩) G ?_);rintro⟨s1,n1,a1,e1⟩ ⟨q1,y1⟩;dsimp only at q1 y1⊢;refine qN [rbx T n1 a1 e1 ps b 1,o0 e1 b.length,.box (tk T n).cells] G (qD (c4 G a8x m0 (V3 hT y1 hW [40] ⟨G,G,I⟩) G ?_));rintro⟨v8,m8⟩ ⟨di,hs8,hf8,hm8⟩;dsimp only at di hs8 hf8 hm8⊢;refine qN [rbx T m8 a1 e1 ps b 1,o0 e1 b.length,.box (tk T n).cells] G ?_;refine cC ?_ ?_<;>intro h37
          .have hi8:v8=false:=U h37;have bV:=hf8 hi8;subst m8;refine qk (u P0 ?_);refine L6 (α:=Nat) (λj=>[(0,.ptr 0 0),(6,(iv ((tk T n).at_))),(14,(sv s1)),(137,(.list (ps.map scv) (gnn ps.length) none)),(138,iv ps.length),(139,iv j)]) (λ_=>[rbx T n1 a1 e1 ps b 1,o0 e1 b.length,.box (tk T n).cells]) (λj=>j<=ps.length/\(e1=0->ixS ps s1 0=ixS (ps.drop j) s1 j)) (λj=>ps.length -j) 0 ⟨n_4 _,λ_=>G⟩ tu_ G ?_;intro j E5 ⟨hj,hjx⟩;have cE:=hc.ps;refine qk (qC ?_ ?_)<;> intro h38
           .have ai:j<ps.length:=sm_ h38;obtain⟨w,cJ⟩:∃w,ps[j]?=some w:=⟨ps[j]'ai,Q⟩;refine u (A4 G O O G G t_2 t_0 J (j8 cJ) G) ?_;refine u a5Q ?_;refine qG F9 ?_;refine qG (λhg=>b0x G hg G) ?_;refine qG (λhg=>i7 G hg G b4B G b4Z I) ?_;refine qG (λhg=>l9 G hg G c6N G G) ?_;refine a2P ?_;refine qC ?_ ?_<;>intro h39
            .obtain ⟨hw,iN⟩:w=s1/\e1=0:=U h39;subst iN;obtain⟨_,bh,bc,hpn⟩:=a9V q1 G;have fc:ixS ps s1 0=j:=by rw[hjx G,b02 cJ,W hw]
             refine u b0l ?_;refine qD (c4 G a4e D0 (M7 hb ⟨2,(j:Int),0,[],[]⟩ _ ⟨G,G,I⟩) G ?_);rintro⟨x6,a6,e6,b6⟩ ⟨k6,w6,l6,u6⟩;dsimp only at k6 w6 l6 u6⊢;refine qN [rbx T n1 a6 e6 ps b6 3,.dead,.box (tk T n).cells,o0 e6 b6.length] G ?_;refine c6 ?_;exact⟨_,rE1,(by exact⟨⟨x6,n1,a6,e6,b6⟩,S9 (k:=3) G G I (.val _),⟨by rw[aj,hpn,n_8];dsimp only;rw[<- bh,<- bc,H (by rw[Q5 di hi8];decide),fc,H J];exact a10 k6,do_,w6,λh0=>by dsimp only;omega,l6,u6⟩⟩)⟩
            .have cH:e1=0->¬w=s1:=λh0 hw=>by simp[hw,h0]at h39
             refine u o3 ?_;exact⟨(j+1),J,⟨J,λh0=>by rw[hjx h0,b02 cJ,H (cH h0)]⟩,tu_,G⟩
           .have aL:ps.length<=j:=sm_ h38;refine o6 ?_;refine qD (c4 G b0n a3T (a0u _ _ I ⟨G,G,I⟩) G ?_);rintro⟨x0,y0⟩ bF;dsimp only at bF⊢;refine qN [rbx T n1 x0 y0 ps b 1,o0 y0 b.length,.box (tk T n).cells] G ?_;refine c6 ?_;exact⟨_,rE1,(by exact⟨⟨0,n1,x0,y0,b⟩,a5f bF G (.val _),.dead (λ_=>by
             rcases q1.zero with⟨h0,_⟩|⟨_,h0⟩
             .subst h0;obtain⟨_,bh,bc,hpn⟩:=a9V q1 G;rw[aj,hpn,n_8];dsimp only;rw[<- bh,<- bc,H (by rw[Q5 di hi8];decide),hjx G,a0V aL];rfl
             .rw [aj,b3p.1 h0];rfl) bF y1 hb ⟨I,I⟩⟩)⟩
          .have hi8:v8=true:=U h37;obtain⟨iN,hq8⟩:=T8 (di.symm.trans hi8);subst e1;have bV:=hs8 hi8;subst m8;obtain⟨_,bh,bc,hpn⟩:=a9V q1 G;rw[hpn,n_8]at aj;dsimp only at aj;rw[<- bh,<- bc,W hq8,c5Q hq8]at aj;refine qk (u b0l ?_);refine d7J ?_;refine B3 hCC 4 G (α:=RG) (λa=>[(0,.ptr 0 0),(1,iv d),(6,(iv ((tk T n).at_))),(17,.ptr 3 0)]) (λa=>[rbx T a.m a.at_ a.e ps a.b (kg5 a.ph),ot1 a.ph a.e a.b.length,.dead,.box [(iv (3)),(iv (0)),(iv (0)),(sv s1),.list (a.l.map icv) (gnn a.l.length) (D6 a.l.length 5)],ot2 a.ph a.e a.b.length,l8 a.l.length]) (λa=>(a.e=0->(z6 T ps (f+1)).fac d n b=(a4m T ps d a.g a.m a.b a.l).bind (λa:List Int×Nat×List Ex=>K4 a.2.2 ⟨3,0,0,s1,a.1⟩ a.2.1)/\n<a.m/\a.l.length<=a.m/\8*(T.length -a.m)+7<=a.g)/\(a.e≠0->(z6 T ps (f+1)).fac d n b=none)/\a.m <T.length/\a.b.length<=256/\a.l.length<=T.length/\a.g<=f) (λa=>if a.e=0 then T.length -a.m+1 else 0) ⟨⟨[],n1+1,a1,0,b,false,f⟩,[0,1,2,3,7,8],⟨λ_=>⟨aj,do_,n_4 _,do_⟩,λh=>absurd G h,hm8,hb,n_4 _,n_6 _⟩,⟨G,G⟩,ut_,uq_⟩ ?_;intro⟨l,m,a2,e,b2,ph,g⟩ ⟨hI,hN,hm,bD,hlT,hgf⟩;dsimp only at hI hN hm bD hlT hgf⊢;refine qk (qG F9 ?_);refine b2R (.val (.bool false)) G G O G G (λhg=>c4 G a8x ⟨hg,G,O⟩ (V3 hT hm hW [41] (q:=0) (s:=kg5 ph) a1x) G ?_) (λhg=>?_)
           .
            obtain rfl:e=0:=U hg;obtain⟨hS,dS,hlm,hgm⟩:=hI G;rintro⟨v9,m9⟩ ⟨fe,gF,iQ,fg⟩;dsimp only at fe gF iQ fg⊢;refine qo ?_;refine qN [rbx T m9 a2 0 ps b2 (kg5 ph),ot1 ph 0 b2.length,.dead,.box [(iv (3)),(iv (0)),(iv (0)),(sv s1),.list (l.map icv) (gnn l.length) (D6 l.length 5)],ot2 ph 0 b2.length,l8 l.length] a0c ?_;refine qG a3Y ?_;refine u Q8 ?_;refine qC ?_ ?_<;>intro h40
            .have iY:v9=false:=U h40;have hg9:=Q5 fe iY;have bV:=iQ iY;subst m9;obtain⟨g,rfl⟩:∃g',g=g'+1:=⟨g-1,J⟩;refine u a7g ?_;refine qC ?_ ?_<;>intro h41
             .have hl:l≠[]:=by intro hl;subst hl;simp at h41
              rw[c0I hg9 hl]at hS;simp only[agS]at hS;refine qD (c4 G a4f m0 (M5 hT hm hW [44] (q:=0) (s:=kg5 ph) a1x) G ?_);rintro⟨n2,a4,e2⟩ ⟨q2,y2⟩;dsimp only at q2 y2⊢;refine qN [rbx T n2 a4 e2 ps b2 (kg5 ph),ot1 ph e2 b2.length,.dead,.box [(iv (3)),(iv (0)),(iv (0)),(sv s1),.list (l.map icv) (gnn l.length) (D6 l.length 5)],ot2 ph e2 b2.length,l8 l.length] a0c ?_;refine d7T ?_;refine chf G (c7 G c3E) ?_;refine a9F ?_;refine chf G (c7 G o3) ?_;refine F2 ?_;refine B1 G G G (c4 G b7W j2 (hE g J (d+1) n2 a4 e2 b2 y2 bD J (λh0=>by have:=J4 q2 h0;omega) _ 0 (kg5 ph) a1x) G ?_);rintro⟨x3,n3,a3,e3,b3⟩ ⟨k3,y3,w3,z3,l3,u3⟩;dsimp only at k3 y3 w3 z3 l3 u3⊢;have eX:=X3 l x3;have dY:e3=0->m<n3/\n<n3/\(l++[x3]).length<=n3/\8*(T.length -n3)+7<=g:=λh0=>by have:=z3 h0;have hq:=J4 q2 (k3.alive h0).1;omega
              have bO:(if e3=0 then T.length -n3+1 else 0)< (if(0:Int)=0 then T.length -m+1 else 0):=by
               rw[W G]
               split
               .rename_i h0;have:=dY h0;omega
               .omega
              have dE:(l++[x3]).length<=T.length/\g<=f:=by omega
              have aG:=b9g hS q2 k3;refine a6J [rbx T n3 a3 e3 ps b3 6,.dead,.dead,.box [(iv (3)),(iv (0)),(iv (0)),(sv s1),.list (l.map icv) (gnn l.length) (D6 l.length 5)],.dead,l8 l.length,o0 e3 b3.length] a0c ?_;refine d7k ?_;refine B1 G G G (B6 G O O G Q q_3 t_7 t_1 c2M t_9 G (.inr G) q_8 c2K E9 ((l++[x3]).map icv) (l++[x3]).length Q Q ?_);refine⟨O,?_⟩;refine d7S ?_;refine a8h ?_;exact⟨⟨l++[x3],n3,a3,e3,b3,true,g⟩,[0,1,2,3,6,7],⟨bO,λh0=>(aG.1 h0).2.elim λj hj=>⟨by rw[hj.2,<- hj.1],(dY h0).2⟩,aG.2,y3,w3,dE⟩,⟨G,G⟩,ut_,⟨.inr ⟨_,G,.box ⟨.old a04,.old (.val _),.old (.val _),.old (.val _),.old H8,Z2 G,.old a3l,O⟩⟩,.inl G,.inl G,.inr ⟨_,G,.box ⟨.old (.val _),.old (.val _),.old (.val _),.old (.val _),B5.grow (f:=icv) (λ_=>⟨.val _,O⟩) G,O⟩⟩,.inr ⟨_,G,.same G U4⟩,.inr ⟨_,G,.same G B0⟩,O⟩⟩
             .have hl:l=[]:=by
               cases l with
               |nil=>rfl
               |cons x l=>simp at h41<;>omega
              subst hl;rw[b9j hg9]at hS;simp only[agS]at hS;have q2:Ok 0 (some m) 0 m:=.some;refine d7T ?_;refine chf G (c7 G c3E) ?_;refine a9F ?_;refine chf G (c7 G o3) ?_;refine F2 ?_;refine B1 G G G (c4 G b7W j2 (hE g J (d+1) m a2 0 b2 hm bD J (λ_=>by omega) _ 0 (kg5 ph) a1x) G ?_);rintro⟨x3,n3,a3,e3,b3⟩ ⟨k3,y3,w3,z3,l3,u3⟩;dsimp only at k3 y3 w3 z3 l3 u3⊢;have eX:=X3 ([]:List Int) x3;have dY:e3=0->m<n3/\n<n3/\(([]:List Int)++[x3]).length<=n3/\8*(T.length -n3)+7<=g:=λh0=>by have:=z3 h0;omega
              have bO:(if e3=0 then T.length -n3+1 else 0)< (if(0:Int)=0 then T.length -m+1 else 0):=by
               rw[W G]
               split
               .rename_i h0;have:=dY h0;omega
               .omega
              have dE:(([]:List Int)++[x3]).length<=T.length/\g<=f:=by omega
              have aG:=b9g hS q2 k3;refine a6J [rbx T n3 a3 e3 ps b3 6,.dead,.dead,.box [(iv (3)),(iv (0)),(iv (0)),(sv s1),.list ([].map icv) (gnn ([]:List Int).length) (D6 ([]:List Int).length 5)],.dead,l8 ([]:List Int).length,o0 e3 b3.length] a0c ?_;refine d7k ?_;refine B1 G G G (B6 G O O G Q q_3 t_7 t_1 c2M t_9 G (.inr G) q_8 c2K E9 (([]++[x3]).map icv) ([]++[x3]).length Q Q ?_);refine⟨O,?_⟩;refine d7S ?_;refine a8h ?_;exact⟨⟨[]++[x3],n3,a3,e3,b3,true,g⟩,[0,1,2,3,6,7],⟨bO,λh0=>(aG.1 h0).2.elim λj hj=>⟨by rw[hj.2,<- hj.1],(dY h0).2⟩,aG.2,y3,w3,dE⟩,⟨G,G⟩,ut_,⟨.inr ⟨_,G,.box ⟨.old a04,.old (.val _),.old (.val _),.old (.val _),.old H8,Z2 G,.old a3l,O⟩⟩,.inl G,.inl G,.inr ⟨_,G,.box ⟨.old (.val _),.old (.val _),.old (.val _),.old (.val _),B5.grow (f:=icv) (λ_=>⟨.val _,O⟩) G,O⟩⟩,.inr ⟨_,G,.same G U4⟩,.inr ⟨_,G,.same G B0⟩,O⟩⟩
            .have iY:v9=true:=U h40;obtain⟨_,hq9⟩:=T8 (fe.symm.trans iY);have bV:=gF iY;subst m9;rw[c5B hq9,n_8]at hS;refine o6 ?_;refine qD (c4 G a4e D0 (M7 bD ⟨3,0,0,s1,l⟩ _ (q:=0) (s:=kg5 ph) a1x) G ?_);rintro⟨x6,a6,e6,b6⟩ ⟨k6,w6,l6,u6⟩;dsimp only at k6 w6 l6 u6⊢;refine qN [rbx T (m+1) a6 e6 ps b6 6,.dead,.dead,.box [(iv (3)),(iv (0)),(iv (0)),(sv s1),.list (l.map icv) (gnn l.length) (D6 l.length 5)],.dead,l8 l.length,o0 e6 b6.length] a0c ?_;refine c6 ?_;exact⟨_,rE1,(by exact⟨⟨x6,m+1,a6,e6,b6⟩,S9 (k:=6) G G I (.val _),⟨by rw[hS];exact a10 k6,do_,w6,λh0=>by dsimp only;omega,l6,u6⟩⟩)⟩
           .
            refine qo (qG a3Y ?_);refine u Q8 ?_;refine qC ?_ ?_<;>intro h42
            .have he:e≠0:=U hg;simp[he]at h42
            .have he:e≠0:=U hg;refine o6 ?_;refine qD (c4 G a4e D0 (M7 bD ⟨3,0,0,s1,l⟩ _ (q:=0) (s:=kg5 ph) a1x) G ?_);rintro⟨x6,a6,e6,b6⟩ ⟨k6,w6,l6,u6⟩;dsimp only at k6 w6 l6 u6⊢;refine qN [rbx T m a6 e6 ps b6 6,.dead,.dead,.box [(iv (3)),(iv (0)),(iv (0)),(sv s1),.list (l.map icv) (gnn l.length) (D6 l.length 5)],.dead,l8 l.length,o0 e6 b6.length] a0c ?_;refine c6 ?_;exact⟨_,rE1,(by exact⟨⟨x6,m,a6,e6,b6⟩,S9 (k:=6) G G I (.val _),.dead (λ_=>hN he) (k6.2 he) hm w6 ⟨l6,u6⟩⟩)⟩
theorem c4H{ps:List D}(hc:Z9 T ps)(Jg:∀g,g<f0->REC T ps g):RFC T ps f0:=λd n at_ b hn hb hd hf σ q s aw=>by
 obtain⟨f,rfl⟩:∃f,f0=f+1:=⟨f0-1,J⟩;exact a15 (c:=λa:RX=>(iv a.x)) (N:=λa=>a.n) (A:=λa=>a.at_) (E:=λa=>a.e) (B:=λa=>a.b) (λ_ h=>by simp at h;subst h;exact .val _) (λ_=>.val _) (c0Q hc (λg hg=>Jg g J) d n at_ b hn hb hd hf) aw
theorem d9N{ps:List D}(hc:Z9 T ps):∀f,REC T ps f/\RSC T ps f/\RTC T ps f/\RFC T ps f:=λf=>by
 induction f using Nat.strongRecOn with
 |ind f Jg=>
  exact⟨d4t hc λg hg=>⟨(Jg g hg).1,(Jg g hg).2.1⟩,d9o hc λg hg=>(Jg g hg).2.2.1,d3T hc λg hg=>(Jg g hg).2.2.2,c4H hc λg hg=>(Jg g hg).1⟩
theorem c4B{l:List De}{p:De->Bool}{y:De}(h:l[i]?=some y)(hd:l.any p=(l.drop i).any p)(hy:p y=false):l.any p=(l.drop (i+1)).any p:=by
 obtain⟨ai,rfl⟩:=n_2.1 h;rw[hd,a0v ai,List.any_cons,hy,Bool.false_or]
theorem c5T{l:List De}{p:De->Bool}{y:De}(h:l[i]?=some y)(hy:p y=true):l.any p=true:=c1K.2 ⟨y,n_3 h,hy⟩
theorem c0w(f:Src)(k:Int)(Jj:D)(hl:f.decls.length<=1000000)(σ:List b9):b8 CC 225 [.agg f.cells,iv k,(sv Jj)] σ λr ae=>r= .ret (.val (.bool (f.decls.any λd=>(d.k == k)&&decide (d.name=Jj))))/\ae=σ:=by
 refine b8.anyw hCC pu_ pu_ (c9 (qO Tryz.func225 ?_)) σ;refine qD (F4 G O j1 i9 ?_);refine u b11 ?_;refine u0 hCC (α:=Nat) (λi=>[(1,iv k),(2,(sv Jj)),(10,(.list (f.decls.map De.cv) (gnn f.decls.length) none)),(11,iv f.decls.length),(12,iv i)]) (λ_=>[.box f.cells]) (λi=>i<=f.decls.length/\(f.decls.any λd=>(d.k == k)&&decide (d.name=Jj))=((f.decls.drop i).any λd=>(d.k == k)&&decide (d.name=Jj))) (λi=>f.decls.length -i) 0 ⟨n_4 _,G⟩ tu_ (au:=[]) G D5 uz_ ?_;intro i ⟨hi,hd⟩;refine qk (qC ?_ ?_)<;> intro h1
 .have ai:i<f.decls.length:=sm_ h1;obtain⟨w,hb⟩:∃w,f.decls[i]?=some w:=⟨f.decls[i]'ai,Q⟩;refine u (A4 G O O G G a8m a4c J (j8 hb) G) ?_;refine d5F ?_;refine qG c22 ?_;refine qG a29 ?_;refine b7h ?_;refine qC ?_ ?_<;>intro h2
  .have hw:((w.k == k)&&decide (w.name=Jj))=true:=U h2;refine c6 ?_;exact⟨_,rE1,_,_,G,G,j9 (show true=(f.decls.any λd=>(d.k == k)&&decide (d.name=Jj))from(c5T hb hw).symm)⟩
  .have hw:((w.k == k)&&decide (w.name=Jj))=false:=U h2;refine u o3 ?_;exact⟨(i+1),_,⟨J,J,c4B hb hd hw⟩,tu_,G⟩
 .have aL:f.decls.length<=i:=sm_ h1;refine V5 ?_;exact⟨_,rE1,_,_,G,G,j9 (show false=(f.decls.any λd=>(d.k == k)&&decide (d.name=Jj)) by rw[hd,a0V aL];rfl)⟩
theorem c1N{n k:Nat}{at_ e:Int}{ps:List D}{b:List Ex}(h0:τ[0]?=some (rbx T n at_ e ps b k))(hk:τ[k]?=some (o0 e b.length))(h2:2<=k)(hc:∀am,B5 2 am c c'):C9 2 τ (.ret c) (.ret c') (a6l T n at_ e ps b):=by
 obtain⟨am,a1,a2,_,a4⟩:=S9 h0 hk h2 (Old.val (.int .i64 0));exact⟨am,a1,a2,.ret (hc am),a4⟩
theorem c0F{f:FuncId}{c:α->CV}{Z:α->List D}{n:Nat}{at_ e:Int}{ps:List D}{b:List Ex}(ap:∀a∈args,o8 a)(hc:∀a,o8 (c a))
 (h:b8 CC f (.ptr 0 0::args) (rst T n at_ e ps b) λr τ=>∃a,C9 2 τ r (.ret (c a)) (a6l T (N a) (A a) (E a) (Z a) (B a))/\P a){σ:List b9}{q s:Nat}(aw:RAt σ q s T n at_ e ps b):
 b8 CC f (.ptr q 0::args) σ λr τ=>∃a,r= .ret (c a)/\τ=rS1 σ q s T (N a) (A a) (E a) (Z a) (B a)/\P a:=by
 obtain⟨h1,h2,h3⟩:=aw;have hq:=(n_2.1 h1).1;have hs:=(n_2.1 h2).1;have h':b8 CC f (.ptr 0 0::args) (rst T n at_ e ps b) λr τ=>∃a,r= .ret (c a)/\τ=a6l T (N a) (A a) (E a) (Z a) (B a)/\P a:=
  D7 hCC (h.mono λr τ ⟨a,k1,k2⟩=>⟨_,_,k1,a,G,G,k2⟩)
 refine I9 [q,s] hCC G (λi j k g1 g2=>?_) (λi k ob g1 g2=>?_) (.cons (.ptr G) (G7 ap)) h' λr τ hk=>?_
 .rcases i with _|_|i<;>rcases j with _|_|j<;>simp at g1 g2<;>first|rfl|(exfalso;exact h3 (g1.trans g2.symm))|(exfalso;exact h3 (g2.trans g1.symm))
 .rcases i with _|_|i
  .simp at g1 g2;subst g1 g2;exact⟨_,h1,a7L G⟩
  .simp at g1 g2;subst g1 g2;exact⟨_,h2,a4V _ _⟩
  .simp at g1
 .obtain ⟨a,rfl,rfl,hp⟩:=hk;refine⟨Q,.ret (c a),rS1 σ q s T (N a) (A a) (E a) (Z a) (B a),.ret (.pure (hc a)),Q,λk hk bi=>?_,λi k x ha hx=>?_,a,G,G,hp⟩
  .have n1:q≠k:=λe=>bi a2v;have n2:s≠k:=λe=>bi a2v;rw[T6 (U hk)];simp[n1,n2]
  .rcases ha with ha|⟨ha,rfl⟩
   .rcases i with _|_|i
    .simp at ha hx;subst ha hx;refine⟨rbx T (N a) (A a) (E a) (Z a) (B a) σ.length,?_,a7L (.inr ⟨Q,Q⟩)⟩;rw[T6 (U hq),a1c h3.symm];simp[hq]
    .simp at ha hx;subst ha hx;refine⟨.dead,?_,.dead⟩;rw[T6 (U hs)];simp[hs]
    .simp at ha
   .rcases i with _|_|_|i
    .simp at ha
    .simp at ha
    .simp at hx;subst hx;refine⟨o0 (E a) (B a).length,?_,a4V _ _⟩;rw[a5O Q];simp
    .simp at hx
theorem d3a:E7 [102,117,110,99]=1:=by decide
theorem d4M:E7 [116,101,115,116]=2:=by decide
theorem d2M:E7 [103,101,110]=3:=by decide
theorem d3j(h1:¬Jj=[102,117,110,99])(h2:¬Jj=[116,101,115,116])(h3:¬Jj=[103,101,110]):E7 Jj=0:=by
 have e:dkL=[([102,117,110,99],1),([116,101,115,116],2),([103,101,110],3)]:=by decide
 rw[E7,e];simp only[glk,H h1,H h2,H h3];rfl
theorem e07{n:Nat}(h1:isT (tk T n) 1 [102,117,110,99]=false)(h2:isT (tk T n) 1 [116,101,115,116]=false)(h3:isT (tk T n) 1 [103,101,110]=false):(tk T n).k≠1\/E7 (tk T n).t=0:=by
 by_cases hk:(tk T n).k=1
 .exact .inr (d3j (a4t h1 hk) (a4t h2 hk) (a4t h3 hk))
 .exact .inl hk
theorem Ok.of{e:Int}(h1:e'=0->e=0/\o=Option.some y)(h2:e'≠0->e=0->o=Option.none):Ok e o e' y:=
 ⟨λh=>by
  by_cases h':e'=0
  .exact .inl ⟨(h1 h').2,h'⟩
  .exact .inr ⟨h2 h' h,h'⟩,λh h'=>h (h1 h').1⟩
theorem Ok.pre{e:Int}(h:Ok e1 o e' y)(h1:e=0->e1=0)(h2:e≠0->e1≠0):Ok e o e' y:=⟨λh0=>h.1 (h1 h0),λh0=>h.2 (h2 h0)⟩
def a56(T:List Tok)(m:Nat)(l:List D):Option (List D×Nat):=
 if l=[]then(if isT (tk T m) 4 [41]=true then Option.some ([],m+1)else a2z 9 T m [])
 else if isT (tk T m) 4 [44]=true then a2z (9-l.length) T (m+1) l else(pIs T m 4 [41]).bind λm'=>Option.some (l,m')
theorem c5r{n m:Nat}(h:pIs T n 4 [40]=some m):K2 T n=a56 T m []:=by
 rw[K2,h,n_8,a56,W G]
theorem c4z{m:Nat}{l:List D}(h:isT (tk T m) 4 [41]=true):a56 T m l=some (l,m+1):=by
 unfold a56;by_cases hl:l=[]
 .rw [W hl,W h,hl]
 .rw [H hl,H (by simp[isT,(O8 h).2]),pIs,W h];rfl
def b5F(T:List Tok)(m:Nat)(l:List D):Option Nat:=if l=[]then some m else pIs T m 4 [44]
theorem b9R{m:Nat}{l:List D}(h:isT (tk T m) 4 [41]=false):a56 T m l=(b5F T m l).bind λm'=>a2z (9-l.length) T m' l:=by
 unfold a56 b5F;by_cases hl:l=[]
 .subst hl;rw[W G,W G,H (by rw[h];decide)];rfl
 .rw [H hl,H hl];unfold pIs;by_cases h4:isT (tk T m) 4 [44]=true
  .rw [W h4,W h4];rfl
  .rw [H h4,H h4,H (by rw[h];decide)];rfl
theorem e28{m:Nat}{l:List D}(hl:l.length<=8):a2z (9-l.length) T m l=(I7 T m).bind λx=>if l.length=8 then none else if x.1.t∈l then none else a56 T x.2 (l++[x.1.t]):=by
 obtain⟨f,hf⟩:∃f,9-l.length=f+1:=⟨8-l.length,J⟩;rw[hf,a2z];refine n_7 _ (funext λx=>?_);by_cases h8:l.length=8
 .rw [W h8,W h8]
 .rw [H h8,H h8];by_cases hm:x.1.t∈l
  .rw [W hm,W hm]
  .rw [H hm,H hm];unfold a56;rw[show 9- (l++[x.1.t]).length=f by simp;omega];exact(H Q).symm
theorem a4G{m:Nat}{l:List D}{S:Option (List D×Nat)}{e4:Int}{s3:D}(hl:l.length<=8)(hS:S=(b5F T m l).bind λm'=>a2z (9-l.length) T m' l)(q2:Ok 0 (b5F T m l) e2 n2)(q3:Ok e2 ((I7 T n2).map λx=>(x.1.t,x.2)) e3 (s3,n3))
 (h1:l.length=8\/s3∈l->e4≠0)(h2:¬l.length=8->¬s3∈l->e4=e3)(h3:e3≠0->e4≠0):(e4=0->e3=0/\e2=0/\l.length <8/\S=a56 T n3 (l++[s3]))/\(e4≠0->S=none):=by
 rcases q2.zero with⟨g2,ho⟩|⟨g2,ho⟩
 .subst g2;rw[ho,n_8,e28 hl]at hS
  rcases q3.zero with⟨g3,hn⟩|⟨g3,hn⟩
  .obtain ⟨x,hx,hg⟩:=M8.1 hn;injection hg with dz cU
   rw[hx,n_8,dz,cU]at hS;by_cases h8:l.length=8
   .rw [W h8]at hS;exact⟨λh=>absurd h (h1 (.inl h8)),λ_=>hS⟩
   .rw [H h8]at hS;by_cases hm:s3∈l
    .rw [W hm]at hS;exact⟨λh=>absurd h (h1 (.inr hm)),λ_=>hS⟩
    .rw [H hm]at hS;exact⟨λ_=>⟨g3,G,J,hS⟩,λh=>absurd (by rw[h2 h8 hm,g3]) h⟩
  .rw [b3p.1 hn]at hS;exact⟨λh=>absurd h (h3 g3),λ_=>hS⟩
 .rw [ho]at hS;exact⟨λh=>absurd h (h3 (q3.2 g2)),λ_=>hS⟩
structure RP5 where
 l:List D
 m:Nat
 at_:Int
 e:Int
variable{m:Nat}{l:List D}
structure RD5 where
 d:De
 n:Nat
 at_:Int
 e:Int
 ps:List D
 b:List Ex
variable{n d:Nat}{b:List Ex}{e at_:Int}{ps:List D}
def RDP(T:List Tok)(bs:List De)(n:Nat)(a:RD5):Prop:=Ok 0 (a0J T bs n) a.e (a.d,a.n)/\a.n <T.length/\a.b.length<=256/\(a.e=0->n<a.n)
theorem e0y(q:Ok 0 (b5F T m l) e2 n2)(h:e2=0):m<=n2:=by
 have h1:=(q.alive h).2;unfold b5F at h1;by_cases hl:l=[]
 .rw [W hl]at h1;injection h1 with h1
  omega
 .rw [H hl]at h1;have:=O3 h1;omega
theorem d4v{n6 n7 n8:Nat}{e5 e6 e7 e8 x7:Int}{s2:D}{b7:List Ex}(hu:¬((tk T n).k≠1\/E7 (tk T n).t=0))(hkd:kd=E7 (tk T n).t)(p1:bs.length=64->e1≠0)(p2:bs.length≠64->e1=0)(q2:Ok e1 ((a3e T kd (n+1)).map λx=>(x.1.t,x.2)) e2 (s2,n2))
 (p3:e2≠0->e3≠0)(p4:e2=0->(bs.any λd=>(d.k == kd)&&decide (d.name=s2))=true->e3≠0)(p5:e2=0->(bs.any λd=>(d.k == kd)&&decide (d.name=s2))=false->e3=0)(q5:Ok e3 (a20 T kd n2) e5 (l,m))(q6:Ok e5 (pIs T m 4 [61]) e6 n6)(k7:Ok e6 (((z6 T l (8*T.length+6)).ex 1 n6 []).map cx) e7 (x7,n7,b7))(q8:Ok e7 (pIs T n7 4 [59]) e8 n8):
 Ok 0 (a0J T bs n) e8 (⟨kd,s2,l,b7⟩,n8):=by
 have d8:e3≠0->e8≠0:=λh=>q8.2 (k7.2 (q6.2 (q5.2 h)));rw[a0J,H hu,<- hkd];by_cases fp:bs.length=64
 .rw [W fp];exact .none (d8 (p3 (q2.2 (p1 fp))))
 .rw [H fp];have iN:=p2 fp;subst iN;refine q2.bindM (λp hp hg=>?_) λh=>d8 (p3 h);obtain⟨t,m2⟩:=p;injection hg with dz cU
  dsimp only at dz cU⊢;subst dz cU;by_cases bW:(bs.any λd=>(d.k == kd)&&decide (d.name=t.t))=true
  .rw [W bW];by_cases h2:e2=0
   .exact .none (d8 (p4 h2 bW))
   .exact .none (d8 (p3 h2))
  .rw [H bW];refine Ok.pre ?_ (λh=>p5 h (U bW)) p3;refine q5.bind (q6.bind ?_);refine k7.bindM (λp hp hg=>?_) q8.2;obtain⟨i,n7',b7'⟩:=p;injection hg with dz cU
   injection cU with cU hg3
   dsimp only at cU hg3⊢;subst cU hg3;exact q8.bind .some
theorem d5u{n6 n7 n8:Nat}{e5 e6 e7 e8 x7:Int}{s2:D}{b7:List Ex}(_:kd=E7 (tk T n).t)(_:bs.length=64->e1≠0)(_:bs.length≠64->e1=0)(q2:Ok e1 ((a3e T kd (n+1)).map λx=>(x.1.t,x.2)) e2 (s2,n2))
 (p3:e2≠0->e3≠0)(_:e2=0->(bs.any λd=>(d.k == kd)&&decide (d.name=s2))=true->e3≠0)(_:e2=0->(bs.any λd=>(d.k == kd)&&decide (d.name=s2))=false->e3=0)(q5:Ok e3 (a20 T kd n2) e5 (l,m))(q6:Ok e5 (pIs T m 4 [61]) e6 n6)(k7:Ok e6 (((z6 T l (8*T.length+6)).ex 1 n6 []).map cx) e7 (x7,n7,b7))(z7:e7=0->n6<n7)(q8:Ok e7 (pIs T n7 4 [59]) e8 n8)(h0:e8=0):
 n<n8:=by
 have g8:=J4 q8 h0;have g7:=(k7.alive g8.1).1;have g6:=J4 q6 g7;have g5:=q5.alive g6.1;have h2:e2=0:=Classical.byContradiction λh=>p3 h g5.1;obtain⟨p,hp,hg⟩:=M8.1 (q2.alive h2).2;obtain⟨t,m2⟩:=p;injection hg with _ cU
 dsimp only at cU;subst cU;have:=b7K hp;have:=b68 g5.2;have:=z7 g8.1;omega
theorem c6C(hc:Z9 T [])(pk:D)(im:List D)(bs:List De)(gP:bs.length<=64)(n:Nat)(at_:Int)(b:List Ex)(hn:n<T.length):b8 CC 179 [.ptr 0 0,.agg (⟨pk,im,bs⟩:Src).cells] (rst T n at_ 0 ps b) (λr τ=>∃a:RD5,C9 2 τ r (.ret (.agg a.d.cells)) (a6l T a.n a.at_ a.e a.ps a.b)/\RDP T bs n a):=by
 have hT:=hc.len;have hW:=hc.w;refine cO Tryz.func179 ?_;refine a7V ?_;refine a2t [rbx T n at_ 0 ps b 1,o0 0 b.length,.dead] G ?_;refine a59 ?_;refine cD (j6 G b5J G i9 ?_);refine o7 ?_;refine z_0 ?_;refine cD (j6 G b5J G i9 ?_);refine o7 ?_;refine b6S ?_;refine cY (i7 G O G b4B G a2Q I) ?_;refine cD (i0 G O G G j1 a2Q (.inl G) G G (nb G) ?_);refine cY a14 ?_;refine cY c2C ?_;refine cD (i0 G O G G j1 b2D (.inl G) G G (nb G) ?_);refine o7 ?_;refine a2t [rbx T n at_ 0 [] [] 2,o0 0 b.length,o0 0 ([]:List Ex).length,.box (⟨pk,im,bs⟩:Src).cells,.box (⟨0,[],[],[]⟩:De).cells,.box (⟨0,[],[],[]⟩:De).cells] G ?_;refine z_1 ?_;refine ye G a6S ⟨O,O⟩ (a0k hT hn (q:=0) (s:=2) ⟨G,G,I⟩) G ?_;refine cY a34 ?_;refine z_2 ?_;refine K5 (α:=Int) (λ_=>[(0,.ptr 0 0),(3,.ptr 3 0),(4,.ptr 4 0),(5,.ptr 5 0),(6,(iv ((tk T n).at_)))]) (λkd=>[rbx T (n+1) at_ 0 [] [] 2,o0 0 b.length,o0 0 ([]:List Ex).length,.box (⟨pk,im,bs⟩:Src).cells,.box (⟨0,[],[],[]⟩:De).cells,.box (⟨kd,[],[],[]⟩:De).cells]) (λkd=>kd=E7 (tk T n).t/\(tk T n).k=1/\(kd=1\/kd=2\/kd=3)/\n+1<T.length) ?_ ?_
 .
  refine z_1 ?_;refine de G a9C m0 (Y1 hT hn hW [102,117,110,99] (q:=0) (s:=2) ⟨G,G,I⟩) G ?_;rintro⟨v1,m1⟩ ⟨dO,bc,cI,cz⟩;dsimp only at dO bc cI cz⊢;refine A1 [rbx T m1 at_ 0 [] [] 2,o0 0 b.length,o0 0 ([]:List Ex).length,.box (⟨pk,im,bs⟩:Src).cells,.box (⟨0,[],[],[]⟩:De).cells,.box (⟨0,[],[],[]⟩:De).cells] G ?_;refine o7 ?_;refine cC ?_ ?_<;>intro h1
  .have eE:v1=true:=U h1;have hq:=(T8 (dO.symm.trans eE)).2;have bV:=bc eE;subst m1;refine C4 ?_;refine c9Q ?_;refine o7 ?_;exact⟨(1:Int),⟨by rw[(O8 hq).2,d3a],(O8 hq).1,I,cz⟩,tu_,G⟩
  .have eE:v1=false:=U h1;have dz:=Q5 dO eE;have bV:=cI eE;subst m1;refine z_1 ?_;refine de G a9C m0 (Y1 hT hn hW [116,101,115,116] (q:=0) (s:=2) ⟨G,G,I⟩) G ?_;rintro⟨v2,m2⟩ ⟨cL,eh,gE,cc⟩;dsimp only at cL eh gE cc⊢;refine A1 [rbx T m2 at_ 0 [] [] 2,o0 0 b.length,o0 0 ([]:List Ex).length,.box (⟨pk,im,bs⟩:Src).cells,.box (⟨0,[],[],[]⟩:De).cells,.box (⟨0,[],[],[]⟩:De).cells] G ?_;refine o7 ?_;refine cC ?_ ?_<;>intro h2
   .have da:v2=true:=U h2;have hq:=(T8 (cL.symm.trans da)).2;have bV:=eh da;subst m2;refine C4 ?_;refine c9Q ?_;refine o7 ?_;exact⟨(2:Int),⟨by rw[(O8 hq).2,d4M],(O8 hq).1,I,cc⟩,tu_,G⟩
   .have da:v2=false:=U h2;have cU:=Q5 cL da;have bV:=gE da;subst m2;refine z_1 ?_;refine de G a9C m0 (Y1 hT hn hW [103,101,110] (q:=0) (s:=2) ⟨G,G,I⟩) G ?_;rintro⟨v3,m3⟩ ⟨hv3,fV,hf3,gg⟩;dsimp only at hv3 fV hf3 gg⊢;refine A1 [rbx T m3 at_ 0 [] [] 2,o0 0 b.length,o0 0 ([]:List Ex).length,.box (⟨pk,im,bs⟩:Src).cells,.box (⟨0,[],[],[]⟩:De).cells,.box (⟨0,[],[],[]⟩:De).cells] G ?_;refine o7 ?_;refine cC ?_ ?_<;>intro h3
    .have fW:v3=true:=U h3;have hq:=(T8 (hv3.symm.trans fW)).2;have bV:=fV fW;subst m3;refine C4 ?_;refine c9Q ?_;refine o7 ?_;exact⟨(3:Int),⟨by rw[(O8 hq).2,d2M],(O8 hq).1,I,gg⟩,tu_,G⟩
    .have fW:v3=false:=U h3;have hg3:=Q5 hv3 fW;have bV:=hf3 fW;subst m3;refine z_1 ?_;refine c4h ?_;rintro⟨x0,y0⟩ bF;dsimp only at bF⊢;refine A1 [rbx T n x0 y0 [] [] 2,o0 0 b.length,o0 y0 ([]:List Ex).length,.box (⟨pk,im,bs⟩:Src).cells,.box (⟨0,[],[],[]⟩:De).cells,.box (⟨0,[],[],[]⟩:De).cells] G ?_;refine o7 ?_;refine z_0 ?_;refine cY b5T ?_;refine d2Q ?_;refine c6 ?_;exact⟨_,B7 G c8b,(by exact⟨⟨⟨0,[],[],[]⟩,n,x0,y0,[],[]⟩,c1N (k:=2) G G I (λ_=>b93 _ _ _ _ _),⟨by rw[a0J,W (e07 (Q5 dO eE) (Q5 cL da) (Q5 hv3 fW))];exact .none bF,hn,n_4 _,λh0=>absurd h0 bF⟩⟩)⟩
 .rintro kd E1 ⟨hkd,bn,hk3,bh⟩;have hu1:¬((tk T n).k≠1\/E7 (tk T n).t=0):=by rw[<- hkd];omega
  refine K5 (α:=Int×Int) (λ_=>[(0,.ptr 0 0),(3,.ptr 3 0),(4,.ptr 4 0),(5,.ptr 5 0)]) (λa=>[rbx T (n+1) a.1 a.2 [] [] 2,o0 0 b.length,o0 a.2 ([]:List Ex).length,.box (⟨pk,im,bs⟩:Src).cells,.box (⟨0,[],[],[]⟩:De).cells,.box (⟨kd,[],[],[]⟩:De).cells]) (λa=>(bs.length=64->a.2≠0)/\(bs.length≠64->a.2=0)) ?_ ?_
  .
   refine z_0 ?_;refine cY c2L ?_;refine cY c2T ?_;refine cY b11 ?_;refine b94 ?_;refine cC ?_ ?_<;>intro h4
   .have fp:bs.length=64:=sm_ h4;refine a5K ?_;refine c4h ?_;rintro⟨x0,y0⟩ bF;dsimp only at bF⊢;refine A1 [rbx T (n+1) x0 y0 [] [] 2,o0 0 b.length,o0 y0 ([]:List Ex).length,.box (⟨pk,im,bs⟩:Src).cells,.box (⟨0,[],[],[]⟩:De).cells,.box (⟨kd,[],[],[]⟩:De).cells] G ?_;refine o7 ?_;exact⟨(x0,y0),⟨λ_=>bF,λh=>absurd fp h⟩,tu_,G⟩
   .have fp:¬bs.length=64:=sm_ h4;refine A8 ?_;exact⟨(at_,0),⟨λh=>absurd h fp,λ_=>G⟩,tu_,G⟩
  .rintro ⟨a1,e1⟩ E2 ⟨p1,p2⟩;dsimp only at p1 p2⊢;refine z_1 ?_;refine ye G a6S ⟨O,O⟩ (a0k hT bh (q:=0) (s:=2) ⟨G,G,I⟩) G ?_;refine cY a34 ?_;refine z_2 ?_;refine K5 (α:=D×Nat×Int×Int) (λ_=>[(0,.ptr 0 0),(3,.ptr 3 0),(4,.ptr 4 0),(5,.ptr 5 0),(6,(iv ((tk T (n+1)).at_)))]) (λa=>[rbx T a.2.1 a.2.2.1 a.2.2.2 [] [] 2,o0 0 b.length,o0 a.2.2.2 ([]:List Ex).length,.box (⟨pk,im,bs⟩:Src).cells,.box (⟨0,[],[],[]⟩:De).cells,.box (⟨kd,a.1,[],[]⟩:De).cells]) (λa=>Ok e1 ((a3e T kd (n+1)).map λx=>(x.1.t,x.2)) a.2.2.2 (a.1,a.2.1)/\a.2.1 <T.length) ?_ ?_
   .
    refine z_0 ?_;refine cY c2g ?_;refine b3k ?_;refine cC ?_ ?_<;>intro h5
    .have hk:kd=3:=U h5;have hh:∀m,a3e T kd m=a0E T m:=λm=>W hk;refine a5K ?_;refine de G c27 m0 (a91 hT bh hW true hc.l (q:=0) (s:=2) ⟨G,G,I⟩) G ?_;rintro⟨s2,n2,a2,e2⟩ ⟨q2,y2⟩;dsimp only at q2 y2⊢;rw[a3O]at q2;refine e2l ?_;refine d7b ?_;exact⟨(s2,n2,a2,e2),⟨by rw[hh];exact q2,y2⟩,tu_,G⟩
    .have hk:¬kd=3:=U h5;have hh:∀m,a3e T kd m=I7 T m:=λm=>H hk;refine a5K ?_;refine de G c9c ⟨O,O⟩ (a7A hT bh hW (q:=0) (s:=2) ⟨G,G,I⟩) G ?_;rintro⟨s2,n2,a2,e2⟩ ⟨q2,y2⟩;dsimp only at q2 y2⊢;refine e2l ?_;refine d7b ?_;exact⟨(s2,n2,a2,e2),⟨by rw[hh];exact q2,y2⟩,tu_,G⟩
   .rintro ⟨s2,n2,a2,e2⟩ E3 ⟨q2,y2⟩;dsimp only at q2 y2⊢;refine K5 (α:=Int×Int) (λ_=>[(0,.ptr 0 0),(4,.ptr 4 0),(5,.ptr 5 0)]) (λa=>[rbx T n2 a.1 a.2 [] [] 2,o0 0 b.length,o0 a.2 ([]:List Ex).length,.box (⟨pk,im,bs⟩:Src).cells,.box (⟨0,[],[],[]⟩:De).cells,.box (⟨kd,s2,[],[]⟩:De).cells]) (λa=>(e2≠0->a.2≠0)/\(e2=0->(bs.any λd=>(d.k == kd)&&decide (d.name=s2))=true->a.2≠0)/\(e2=0->(bs.any λd=>(d.k == kd)&&decide (d.name=s2))=false->a.2=0)) ?_ ?_
    .
     refine a2a ?_;refine cY b6A ?_;refine cY d0x ?_;refine cY Z5 ?_;refine cY A2 ?_;refine cG (λhg=>I5 G O G b5G a3L G (nb G)) ?_;refine cG (λhg=>i7 G O G b2k G t_1 I) ?_;refine cG a7N ?_;refine cG c22 ?_;refine cG a29 ?_;refine cG (λhg=>c5 G Tryz.call225 ⟨hg,hg,hg,O⟩ (c0w ⟨pk,im,bs⟩ kd s2 (by show bs.length<=1000000;omega) _) G) ?_;refine cY Q8 ?_;refine o7 ?_;refine cC ?_ ?_<;>intro h6
     .have ht:e2=0/\(bs.any λd=>(d.k == kd)&&decide (d.name=s2))=true:=U h6;refine a5K ?_;refine c4h ?_;rintro⟨x0,y0⟩ bF;dsimp only at bF⊢;refine A1 [rbx T n2 x0 y0 [] [] 2,o0 0 b.length,o0 y0 ([]:List Ex).length,.box (⟨pk,im,bs⟩:Src).cells,.box (⟨0,[],[],[]⟩:De).cells,.box (⟨kd,s2,[],[]⟩:De).cells] G ?_;refine o7 ?_;exact⟨(x0,y0),⟨λ_=>bF,λ_ _=>bF,λ_ h=>by rw[ht.2]at h;cases h⟩,tu_,G⟩
     .have ht:¬(e2=0/\(bs.any λd=>(d.k == kd)&&decide (d.name=s2))=true):=λh=>by simp[h.1,h.2]at h6
      refine A8 ?_;exact⟨(a2,e2),⟨λh=>h,λh0 h=>absurd ⟨h0,h⟩ ht,λh0 _=>h0⟩,tu_,G⟩
    .rintro ⟨a3,e3⟩ E4 ⟨p3,p4,p5⟩;dsimp only at p3 p4 p5⊢;refine b0b hCC 6 G (α:=RP5) (λ_=>[(0,.ptr 0 0),(4,.ptr 4 0),(5,.ptr 5 0)]) (λa=>[rbx T a.m a.at_ a.e [] [] 2,o0 0 b.length,o0 a.e ([]:List Ex).length,.dead,.box (⟨0,[],[],[]⟩:De).cells,.box (⟨kd,s2,a.l,[]⟩:De).cells]) (λa=>Ok e3 (a20 T kd n2) a.e (a.l,a.m)/\a.m <T.length/\a.l.length<=9) ?_ ?_
     .
      refine z_0 ?_;refine cY c2g ?_;refine b3k ?_;refine cC ?_ ?_<;>intro h7
      .have hk:kd=1:=U h7;have hp:a20 T kd n2=K2 T n2:=W hk;rw[hp];refine z_1 ?_;refine de G a4f m0 (M5 hT y2 hW [40] (q:=0) (s:=2) ⟨G,G,I⟩) G ?_;rintro⟨n4,a4,e4⟩ ⟨q4,y4⟩;dsimp only at q4 y4⊢;refine A1 [rbx T n4 a4 e4 [] [] 2,o0 0 b.length,o0 e4 ([]:List Ex).length,.box (⟨pk,im,bs⟩:Src).cells,.box (⟨0,[],[],[]⟩:De).cells,.box (⟨kd,s2,[],[]⟩:De).cells] G ?_;refine d2O ?_;refine B3 hCC 6 G (α:=RP5) (λ_=>[(0,.ptr 0 0),(4,.ptr 4 0),(5,.ptr 5 0)]) (λa=>[rbx T a.m a.at_ a.e [] [] 2,o0 0 b.length,o0 a.e ([]:List Ex).length,.dead,.box (⟨0,[],[],[]⟩:De).cells,.box [iv kd,(sv s2),.list (a.l.map scv) (gnn a.l.length) (D6 a.l.length 6),.list [] false none],l8 a.l.length]) (λa=>(a.e=0->e3=0/\K2 T n2=a56 T a.m a.l/\n2<a.m/\a.l.length<=8)/\(a.e≠0->e3=0->K2 T n2=none)/\a.m <T.length/\a.l.length<=9) (λa=>if a.e=0 then 10-a.l.length else 0) ⟨⟨[],n4,a4,e4⟩,[0,1,2,3,4,5,10],⟨λh0=>⟨(J4 q4 h0).1,c5r (q4.alive h0).2,by have:=(J4 q4 h0).2;dsimp only;omega,n_4 _⟩,λh0 h3=>by
        subst h3
        rcases q4.zero with⟨h,_⟩|⟨_,h⟩
        .exact absurd h h0
        .rw [K2,h];rfl,y4,n_4 _⟩,⟨G,G⟩,ut_,uq_⟩ ?_
       intro⟨l,m,a5,e⟩ ⟨hI,hN,hm,hl9⟩;dsimp only at hI hN hm hl9⊢;refine F7 ?_;refine a2a ?_;refine cY b6A ?_;refine cY d0x ?_;refine b5R ?_;refine b2R (.val (.bool false)) G G O G G (λhg=>c4 G a8x ⟨hg,G,O⟩ (V3 hT hm hW [41] (q:=0) (s:=2) ⟨G,G,I⟩) G ?_) (λhg=>?_)
       .
        obtain rfl:e=0:=U hg;obtain⟨he3,hS,dS,hl8⟩:=hI G;rintro⟨v9,m9⟩ ⟨fe,gF,iQ,fg⟩;dsimp only at fe gF iQ fg⊢;refine A1 [rbx T m9 a5 0 [] [] 2,o0 0 b.length,o0 0 ([]:List Ex).length,.dead,.box (⟨0,[],[],[]⟩:De).cells,.box [iv kd,(sv s2),.list (l.map scv) (gnn l.length) (D6 l.length 6),.list [] false none],l8 l.length] G ?_;refine cG a3Y ?_;refine cY Q8 ?_;refine o7 ?_;refine cC ?_ ?_<;>intro h8
        .have iY:v9=false:=U h8;have hg9:=Q5 fe iY;have bV:=iQ iY;subst m9;rw[b9R hg9]at hS;refine A8 (a1Z ?_);refine K5 (α:=Nat×Int×Int) (λ_=>[(0,.ptr 0 0),(4,.ptr 4 0),(5,.ptr 5 0)]) (λa=>[rbx T a.1 a.2.1 a.2.2 [] [] 2,o0 0 b.length,o0 a.2.2 ([]:List Ex).length,.dead,.box (⟨0,[],[],[]⟩:De).cells,.box [iv kd,(sv s2),.list (l.map scv) (gnn l.length) (D6 l.length 6),.list [] false none],l8 l.length]) (λa=>Ok 0 (b5F T m l) a.2.2 a.1/\a.1 <T.length) ?_ ?_
         .
          refine z_0 ?_;refine d5O ?_;refine cY P0 ?_;refine b94 ?_;refine cC ?_ ?_<;>intro h9
          .have hl:l≠[]:=by intro hl;subst hl;simp at h9
           refine a5K ?_;refine de G a4f m0 (M5 hT hm hW [44] (q:=0) (s:=2) ⟨G,G,I⟩) G ?_;rintro⟨n5,a6,e5⟩ ⟨q5,y5⟩;dsimp only at q5 y5⊢;refine A1 [rbx T n5 a6 e5 [] [] 2,o0 0 b.length,o0 e5 ([]:List Ex).length,.dead,.box (⟨0,[],[],[]⟩:De).cells,.box [iv kd,(sv s2),.list (l.map scv) (gnn l.length) (D6 l.length 6),.list [] false none],l8 l.length] G ?_;refine o7 ?_;exact⟨(n5,a6,e5),⟨by rw[b5F,H hl];exact q5,y5⟩,tu_,G⟩
          .have hl:l=[]:=by
            cases l with
            |nil=>rfl
            |cons x l=>simp at h9<;>omega
           refine A8 ?_;exact⟨(m,a5,0),⟨by rw[b5F,W hl];exact .some,hm⟩,tu_,G⟩
         .rintro ⟨n5,a6,e5⟩ E5 ⟨q5,y5⟩;dsimp only at q5 y5⊢;refine z_1 ?_;refine ye G a6S ⟨O,O⟩ (a0k hT y5 (q:=0) (s:=2) ⟨G,G,I⟩) G ?_;refine cY a34 ?_;refine z_2 ?_;refine z_1 ?_;refine de G c9c ⟨O,O⟩ (a7A hT y5 hW (q:=0) (s:=2) ⟨G,G,I⟩) G ?_;rintro⟨s6,n6,a7,e6⟩ ⟨q6,y6⟩;dsimp only at q6 y6⊢;have eX:=X3 l s6;refine A1 [rbx T n6 a7 e6 [] [] 2,o0 0 b.length,o0 e6 ([]:List Ex).length,.dead,.box (⟨0,[],[],[]⟩:De).cells,.box [iv kd,(sv s2),.list (l.map scv) (gnn l.length) (D6 l.length 6),.list [] false none],l8 l.length] G ?_;refine a6u ?_;refine z_0 ?_;refine d5O ?_;refine cY P0 ?_;refine b94 ?_;refine cC ?_ ?_<;>intro bL
          .have h8:l.length=8:=sm_ bL;refine a5K ?_;refine c4h ?_;rintro⟨x0,y0⟩ bF;dsimp only at bF⊢;refine A1 [rbx T n6 x0 y0 [] [] 2,o0 0 b.length,o0 y0 ([]:List Ex).length,.dead,.box (⟨0,[],[],[]⟩:De).cells,.box [iv kd,(sv s2),.list (l.map scv) (gnn l.length) (D6 l.length 6),.list [] false none],l8 l.length] G ?_;refine a2n ?_;refine z_0 ?_;refine b3K ?_;refine ye G c6p j2 (b0Y l (gnn l.length) s6 J _) G ?_;refine o7 ?_;refine cC ?_ ?_<;>intro eY
           .refine a5K ?_;refine c4h ?_;rintro⟨x1,y1⟩ fi;dsimp only at fi⊢;refine e1k ?_;refine C4 ?_;refine b3K ?_;refine cY d4j ?_;refine cD (B6 G O O G Q q_3 t_2 t_0 a5s t_4 G (.inr G) q_8 a2h E9 ((l++[s6]).map scv) (l++[s6]).length Q Q ?_);refine cY b9c ?_;refine c7g ?_;exact⟨⟨l++[s6],n6,x1,y1⟩,[0,1,2,3,4,5,7],⟨by
             dsimp only;rw[H fi,W G];omega,λh=>absurd h fi,λh _=>(a4G hl8 hS q5 q6 (e4:=y1) (λ_=>fi) (λh h'=>absurd h8 h) (λ_=>fi)).2 h,y6,do_⟩,⟨G,G⟩,ut_,⟨.inr ⟨_,G,.same G a9b⟩,.inr ⟨_,G,.same G U4⟩,.inr ⟨_,G,.same G U4⟩,.inl G,.inr ⟨_,G,.same G (x9 (a3s _))⟩,.inr ⟨_,G,.box ⟨.old (.val _),.old (.val _),B5.grow (f:=scv) (λ_=>⟨.val _,O⟩) G,.old (N4 _ [] _),O⟩⟩,.inr ⟨_,G,.same G B0⟩,O⟩⟩
           .refine A8 (C4 ?_);refine b3K ?_;refine cY d4j ?_;refine cD (B6 G O O G Q q_3 t_2 t_0 a5s t_4 G (.inr G) q_8 a2h E9 ((l++[s6]).map scv) (l++[s6]).length Q Q ?_);refine cY b9c ?_;refine c7g ?_;exact⟨⟨l++[s6],n6,x0,y0⟩,[0,1,2,3,4,5,7],⟨by
             dsimp only;rw[H bF,W G];omega,λh=>absurd h bF,λh _=>(a4G hl8 hS q5 q6 (e4:=y0) (λ_=>bF) (λh h'=>absurd h8 h) (λ_=>bF)).2 h,y6,do_⟩,⟨G,G⟩,ut_,⟨.inr ⟨_,G,.same G a9b⟩,.inr ⟨_,G,.same G U4⟩,.inr ⟨_,G,.same G U4⟩,.inl G,.inr ⟨_,G,.same G (x9 (a3s _))⟩,.inr ⟨_,G,.box ⟨.old (.val _),.old (.val _),B5.grow (f:=scv) (λ_=>⟨.val _,O⟩) G,.old (N4 _ [] _),O⟩⟩,.inr ⟨_,G,.same G B0⟩,O⟩⟩
          .have h8:¬l.length=8:=sm_ bL;refine a5M ?_;refine z_0 ?_;refine b3K ?_;refine ye G c6p j2 (b0Y l (gnn l.length) s6 J _) G ?_;refine o7 ?_;refine cC ?_ ?_<;>intro fo
           .have bW:s6∈l:=U fo;refine a5K ?_;refine c4h ?_;rintro⟨x1,y1⟩ fi;dsimp only at fi⊢;refine e1k ?_;refine C4 ?_;refine b3K ?_;refine cY d4j ?_;refine cD (B6 G O O G Q q_3 t_2 t_0 a5s t_4 G (.inr G) q_8 a2h E9 ((l++[s6]).map scv) (l++[s6]).length Q Q ?_);refine cY b9c ?_;refine c7g ?_;exact⟨⟨l++[s6],n6,x1,y1⟩,[0,1,2,3,4,5,7],⟨by
             dsimp only;rw[H fi,W G];omega,λh=>absurd h fi,λh _=>(a4G hl8 hS q5 q6 (e4:=y1) (λ_=>fi) (λ_ h'=>absurd bW h') (λ_=>fi)).2 h,y6,do_⟩,⟨G,G⟩,ut_,⟨.inr ⟨_,G,.same G a9b⟩,.inr ⟨_,G,.same G U4⟩,.inr ⟨_,G,.same G U4⟩,.inl G,.inr ⟨_,G,.same G (x9 (a3s _))⟩,.inr ⟨_,G,.box ⟨.old (.val _),.old (.val _),B5.grow (f:=scv) (λ_=>⟨.val _,O⟩) G,.old (N4 _ [] _),O⟩⟩,.inr ⟨_,G,.same G B0⟩,O⟩⟩
           .have bW:¬s6∈l:=U fo;refine A8 (C4 ?_);refine b3K ?_;refine cY d4j ?_;refine cD (B6 G O O G Q q_3 t_2 t_0 a5s t_4 G (.inr G) q_8 a2h E9 ((l++[s6]).map scv) (l++[s6]).length Q Q ?_);refine cY b9c ?_;refine c7g ?_;exact⟨⟨l++[s6],n6,a7,e6⟩,[0,1,2,3,4,5,7],⟨by
             dsimp only;rw[W G]
             split<;>omega,λh=>by obtain⟨_,g5,g8,hS'⟩:=(a4G hl8 hS q5 q6 (e4:=e6) (λh=>absurd h (by rintro(h|h)<;>contradiction)) (λ_ _=>G) id).1 h;have:=(a9V q6 h).2.1;have:=e0y q5 g5;exact⟨he3,hS',do_,do_⟩,λh _=>(a4G hl8 hS q5 q6 (e4:=e6) (λh=>absurd h (by rintro(h|h)<;>contradiction)) (λ_ _=>G) id).2 h,y6,do_⟩,⟨G,G⟩,ut_,⟨.inr ⟨_,G,.same G a9b⟩,.inr ⟨_,G,.same G U4⟩,.inr ⟨_,G,.same G U4⟩,.inl G,.inr ⟨_,G,.same G (x9 (a3s _))⟩,.inr ⟨_,G,.box ⟨.old (.val _),.old (.val _),B5.grow (f:=scv) (λ_=>⟨.val _,O⟩) G,.old (N4 _ [] _),O⟩⟩,.inr ⟨_,G,.same G B0⟩,O⟩⟩
        .have iY:v9=true:=U h8;obtain⟨_,hq9⟩:=T8 (fe.symm.trans iY);have bV:=gF iY;subst m9;rw[c4z hq9]at hS;refine o6 ?_;exact⟨⟨l,m+1,a5,0⟩,[0,1,2,3,4,5],⟨Ok.of (λ_=>⟨he3,hS⟩) λh=>absurd G h,fg,hl9⟩,⟨G,G⟩,ut_,⟨.inr ⟨_,G,.same G a9b⟩,.inr ⟨_,G,.same G U4⟩,.inr ⟨_,G,.same G U4⟩,.inl G,.inr ⟨_,G,.same G (x9 (a3s _))⟩,.inr ⟨_,G,.box ⟨.old (.val _),.old (.val _),V4 (f:=scv) (λ_=>⟨.val _,O⟩) _,.old (N4 _ [] _),O⟩⟩,O⟩⟩
       .
        refine cG a3Y ?_;refine cY Q8 ?_;refine o7 ?_;refine cC ?_ ?_<;>intro dR
        .have he:e≠0:=U hg;simp[he]at dR
        .have he:e≠0:=U hg;refine o6 ?_;exact⟨⟨l,m,a5,e⟩,[0,1,2,3,4,5],⟨Ok.of (λh=>absurd h he) (λh h3=>hN h h3),hm,hl9⟩,⟨G,G⟩,ut_,⟨.inr ⟨_,G,.same G a9b⟩,.inr ⟨_,G,.same G U4⟩,.inr ⟨_,G,.same G U4⟩,.inl G,.inr ⟨_,G,.same G (x9 (a3s _))⟩,.inr ⟨_,G,.box ⟨.old (.val _),.old (.val _),V4 (f:=scv) (λ_=>⟨.val _,O⟩) _,.old (N4 _ [] _),O⟩⟩,O⟩⟩
      .have hk:¬kd=1:=U h7;have hp:a20 T kd n2=some ([],n2):=H hk;refine A8 ?_;exact⟨⟨[],n2,a3,e3⟩,[0,1,2,3,4,5],⟨by rw[hp];exact .some,y2,n_4 _⟩,⟨G,G⟩,ut_,uq_⟩
     .rintro ⟨l,m,a5,e5⟩ ⟨q5,y5,hl9⟩;dsimp only at q5 y5 hl9⊢;have bA:Z9 T l:=⟨hT,hW,hc.l,J,hc.nn⟩;refine z_1 ?_;refine d5O ?_;refine cY a14 ?_;refine cY (i7 G O G b4B G a2Q I) ?_;refine c7g ?_;refine z_1 ?_;refine de G a4f m0 (M5 hT y5 hW [61] (q:=0) (s:=2) ⟨G,G,I⟩) G ?_;rintro⟨n6,a6,e6⟩ ⟨q6,y6⟩;dsimp only at q6 y6⊢;refine A1 [rbx T n6 a6 e6 l [] 2,o0 0 b.length,o0 e6 ([]:List Ex).length,.dead,.box (⟨0,[],[],[]⟩:De).cells,.box (⟨kd,s2,l,[]⟩:De).cells] G ?_;refine o7 ?_;refine z_1 ?_;refine de G b7W m0 ((d9N bA (8*T.length+6)).1 1 n6 a6 e6 [] y6 (n_4 _) I (λ_=>by omega) _ 0 2 ⟨G,G,I⟩) G ?_;rintro⟨x7,n7,a7,e7,b7⟩ ⟨k7,y7,w7,z7,l7,u7⟩;dsimp only at k7 y7 w7 z7 l7 u7⊢;refine A1 [rbx T n7 a7 e7 l b7 6,o0 0 b.length,.dead,.dead,.box (⟨0,[],[],[]⟩:De).cells,.box (⟨kd,s2,l,[]⟩:De).cells,o0 e7 b7.length] G ?_;refine o7 ?_;refine z_1 ?_;refine de G a4f m0 (M5 hT y7 hW [59] (q:=0) (s:=6) ⟨G,G,I⟩) G ?_;rintro⟨n8,a8,e8⟩ ⟨q8,y8⟩;dsimp only at q8 y8⊢;refine A1 [rbx T n8 a8 e8 l b7 6,o0 0 b.length,.dead,.dead,.box (⟨0,[],[],[]⟩:De).cells,.box (⟨kd,s2,l,[]⟩:De).cells,o0 e8 b7.length] G ?_;refine o7 ?_;refine a2a ?_;refine cY c2C ?_;refine cY b3D ?_;refine cY c3u ?_;refine cD (i0 G O O G j1 b2D (.inl G) G G (nb G) ?_);refine o7 ?_;refine z_0 ?_;refine cY b5T ?_;refine d2Q ?_;refine c6 ?_;exact⟨_,B7 G c8b,(by exact⟨⟨⟨kd,s2,l,b7⟩,n8,a8,e8,l,b7⟩,c1N (k:=6) G G I (λ_=>b93 _ _ _ _ _),⟨d4v hu1 hkd p1 p2 q2 p3 p4 p5 q5 q6 k7 q8,y8,w7,λh0=>d5u hkd p1 p2 q2 p3 p4 p5 q5 q6 k7 z7 q8 h0⟩⟩)⟩
theorem d4R(hc:Z9 T [])(pk:D)(im:List D)(bs:List De)(gP:bs.length<=64)(hn:n<T.length){s:Nat}(aw:RAt σ q s T n at_ 0 ps b):b8 CC 179 [.ptr q 0,.agg (⟨pk,im,bs⟩:Src).cells] σ λr τ=>∃a:RD5,r= .ret (.agg a.d.cells)/\τ=rS1 σ q s T a.n a.at_ a.e a.ps a.b/\RDP T bs n a:=
 c0F (c:=λa:RD5=>.agg a.d.cells) (N:=λa=>a.n) (A:=λa=>a.at_) (E:=λa=>a.e) (Z:=λa=>a.ps) (B:=λa=>a.b) (λ_ h=>by simp at h;subst h;exact j5 (Src.pure _)) (λa=>j5 a.d.pure) (c6C hc pk im bs gP n at_ b hn) aw
theorem b0J(s:D):∀(n f f' i:Nat),s.length -i<n->i<=s.length->s.length <f+i->s.length <f'+i->a0y f s i=a0y f' s i
 |0,_,_,_,h,_,_,_=>by omega
 |n+1,f,f',i,h,hi,hf,gJ=>by
  obtain⟨f,rfl⟩:∃g,f=g+1:=⟨f-1,J⟩;obtain⟨f',rfl⟩:∃g,f'=g+1:=⟨f'-1,J⟩;have h1:=(a19 (s:=s) (a:=i) (ks:=[5]) hi);rw[a0y,a0y];cases hb:s[A3 s i [5]]? with
  |none=>rfl
  |some b=>
   have ai:=(n_2.1 hb).1;simp only;by_cases h6:j7 b.toNat=6
   .rw [W h6,W h6];have h2:=b0L hb h6;have h3:=a7Y (s:=s) (a:=A3 s i [5]) J;exact b0J s n f f' _ J h3 J J
   .rw [H h6,H h6];by_cases h4:(C8 s (A3 s i [5]) b).2.2≠0
    .rw [W h4,W h4]
    .rw [H h4,H h4];obtain⟨e,he,h5,h7⟩:=a49 hb h4;rw[he,a8q];rw[b0J s n f f' e J h7 J J]
def a5G(s:D)(i:Nat):Option (List Tok):=a0y (s.length+1-i) s i
theorem a3y(hi:i<=s.length)(hf:s.length <f+i):a0y f s i=a5G s i:=b0J s (s.length+1-i) f _ i J hi hf J
theorem d2e(s:D):a3i s=if 16384<s.length then none else a5G s 0:=by
 unfold a3i
 split
 .rfl
 .exact a3y (n_4 _) J
theorem d2A(h:i=s.length):a5G s i=some [⟨5,[],0,(i:Nat)⟩]:=by
 subst h;unfold a5G;rw[show s.length+1-s.length=0+1 by omega,b6e (a78 (n_6 _)).symm (n_6 _)]
theorem c1g{b:UInt8}(h:s[i]?=some b)(hk:j7 b.toNat=5):a5G s i=a5G s (i+1):=by
 have ai:=(n_2.1 h).1;rw[<- a3y (f:=s.length+1) J J,<- a3y (f:=s.length+1) (i:=i+1) J J];have:A3 s i [5]=A3 s (i+1) [5]:=by rw[U3 h,W (by simp[inK,hk])]
 rw[a0y,a0y,this]
theorem d0H{b:UInt8}(h:s[i]?=some b)(hk:j7 b.toNat=6):a5G s i=a5G s (P2 s i):=by
 have ai:=(n_2.1 h).1;have h1:i=A3 s i [5]:=by rw[U3 h,H (by simp[inK,hk])]
 have h3:=a7Y (s:=s) (a:=i) J;rw[<- a3y (f:=s.length+1+1) (i:=i) J J,b6f h1 h hk];exact a3y h3 J
theorem c7O{b:UInt8}(h:s[i]?=some b)(h5:j7 b.toNat≠5)(h6:j7 b.toNat≠6):a5G s i=if(C8 s i b).2.2≠0 then none else(a5G s (C8 s i b).2.1.toNat).map (({(C8 s i b).1 with at_:=(i:Nat)}:Tok)::·):=by
 have ai:=(n_2.1 h).1;have h1:i=A3 s i [5]:=by rw[U3 h,H (by simp[inK,h5])]
 rw[<- a3y (f:=s.length+1+1) (i:=i) J J];by_cases h4:(C8 s i b).2.2≠0
 .rw [b6c h1 h h6 h4,W h4]
 .obtain ⟨e,he,h7,h8⟩:=a49 h h4;rw[b8D h1 h h6 h4,H h4,he,a8q];rw[a3y h8 J]
def SkP(s:D)(i n:Nat):Prop:=i<=n/\n<=s.length/\a5G s i=a5G s n/\∀b,s[n]?=some b->j7 b.toNat≠5/\j7 b.toNat≠6
theorem c1I(b:UInt8):(((((b.toNat:Int) == 32) ||((b.toNat:Int) == 9)) ||((b.toNat:Int) == 10)) ||((b.toNat:Int) == 13))=decide (j7 b.toNat=5):=by
 generalize (b.toNat:Int)=c;by_cases h:c=9\/c=10\/c=13\/c=32
 .unfold j7;rw[H J,H J,H J,H J,W h]
  rcases h with h|h|h|h<;>subst h<;>rfl
 .have hk:j7 c≠5:=by
   unfold j7
   repeat' split
   all_goals omega
  rw[a1R hk];simp;omega
theorem c8k(b:UInt8):((b.toNat:Int) == 35)=decide (j7 b.toNat=6):=by
 generalize (b.toNat:Int)=c;by_cases h:c=35
 .subst h;rfl
 .have hk:j7 c≠6:=by
   unfold j7
   repeat' split
   all_goals omega
  rw[a1R hk];simpa using h
theorem c70{b:UInt8}(h:s[a]?=some b)(hb:b≠10):P2 s a=P2 s (a+1):=by
 obtain⟨ai,rfl⟩:=n_2.1 h;unfold P2;rw[a0v ai,b8q,W (U hb),J5];omega
theorem c7V{b:UInt8}(h:s[a]?=some b)(hb:b=10):P2 s a=a:=by
 obtain⟨ai,rfl⟩:=n_2.1 h;unfold P2;rw[a0v ai,b8q,H (U hb)];rfl
theorem c5N(h:s.length<=a):P2 s a=a:=by
 unfold P2;rw[a0V h];rfl
theorem d6S{b:UInt8}:((b.toNat:Int)=10)↔b=10:=by
 constructor
 .intro h;have:b.toNat=(10:UInt8).toNat:=by have e:(10:UInt8).toNat=10:=G;omega
  exact b8d.1 this
 .rintro rfl;rfl
theorem c9h(s:D)(hs:s.length<=1000000000)(i:Nat)(hi:i<=s.length):b8 CC 220 [(sv s),iv i] [] λr τ=>∃n:Nat,r= .ret (iv n)/\τ=[]/\SkP s i n:=by
 refine qO Tryz.func220 ?_;refine u0 hCC (λn:Nat=>[(0,(sv s)),(1,iv n)]) (λ_=>[]) (λn=>i<=n/\n<=s.length/\a5G s i=a5G s n) (λn=>s.length -n) i ⟨n_6 _,hi,G⟩ tu_ (au:=[]) G D5 uz_ ?_;intro n ⟨bW,hn,hr⟩;refine a7q ?_;refine qC ?_ ?_<;>intro h1
 .have ai:n<s.length:=sm_ h1;obtain⟨b,hb⟩:∃b,s[n]?=some b:=⟨s[n]'ai,Q⟩;refine u b8Y ?_;refine a4g ?_;refine qG e0E ?_;refine a5A ?_;refine a4g ?_;refine qG e0E ?_;refine a5A ?_;refine a4g ?_;refine qG e0E ?_;refine a5A ?_;refine qC ?_ ?_<;>intro h2
  .have hk:j7 b.toNat=5:=by rw[c1I]at h2;simpa using h2
   refine u o3 ?_;exact⟨(n+1),_,⟨J,J,J,by rw[hr,c1g hb hk]⟩,tu_,G⟩
  .have hk5:j7 b.toNat≠5:=by rw[c1I]at h2;simpa using h2
   refine u b8Y ?_;refine qC ?_ ?_<;>intro h3
   .have hk6:j7 b.toNat=6:=by rw[c8k]at h3;simpa using h3
    have aT:=b0L hb hk6;have dE:=a7Y (s:=s) (a:=n) J;refine u0 hCC (λm:Nat=>[(0,(sv s)),(1,iv m)]) (λ_=>[]) (λm=>n<=m/\m<=s.length/\P2 s n=P2 s m) (λm=>s.length -m) n ⟨n_6 _,hn,G⟩ tu_ (au:=[]) G D5 uz_ ?_;intro m ⟨dS,hm,bk⟩;obtain⟨c,hc⟩:∃c:UInt8,m<s.length->s[m]?=some c:=by
     by_cases hlm:m<s.length
     .exact ⟨s[m],λ_=>by simp[hlm]⟩
     .exact ⟨0,λh=>absurd h hlm⟩
    refine a7q ?_;refine b2S ?_;refine qC ?_ ?_<;>intro h4
    .have h4':m<s.length/\¬(c.toNat:Int)=10:=U h4;have hcm:=hc h4'.1;have hc10:c≠10:=λe=>h4'.2 (d6S.2 e);refine u o3 ?_;exact⟨(m+1),_,⟨J,J,J,by rw[bk,c70 hcm hc10]⟩,tu_,G⟩
    .have bO:P2 s n=m:=by
      rw[bk];by_cases hlm:m<s.length
      .have h4':(c.toNat:Int)=10:=by
        have:m<s.length->(c.toNat:Int)=10:=U h4;exact this hlm
       exact c7V (hc hlm) (d6S.1 h4')
      .exact c5N J
     refine o6 ?_;exact⟨m,_,⟨J,J,J,by rw[hr,d0H hb hk6,bO]⟩,tu_,G⟩
   .have hk6:j7 b.toNat≠6:=by rw[c8k]at h3;simpa using h3
    refine c6 ?_;exact⟨_,rE1,⟨n,G,G,bW,hn,hr,λb' hb'=>by rw[hb]at hb';injection hb' with hb';subst hb';exact⟨hk5,hk6⟩⟩⟩
 .have aL:n=s.length:=sm_ h1;refine V5 ?_;exact⟨_,rE1,⟨n,G,G,bW,hn,hr,λb hb=>by have:=(n_2.1 hb).1;omega⟩⟩
theorem c13(s:D)(hs:s.length<=1000000000)(i:Nat)(hi:i<=s.length)(σ:List b9):b8 CC 220 [(sv s),iv i] σ λr τ=>∃n:Nat,r= .ret (iv n)/\τ=σ/\SkP s i n:=
 d7m (c:=λn:Nat=>(iv n)) hCC (λa h=>by simp at h;rcases h with rfl|rfl<;>exact .val _) (λ_=>.val _) ((c9h s hs i hi).mono λr τ ⟨n,h1,h2,h3⟩=>⟨n,by rw[h1];exact d5f (.old (.val _)),h3⟩) σ
def leF(f x:Fi):Bool:=Op.bytesLess f.p x.p ||decide (f.p=x.p)
def a8K(f:Fi):Bool->List Fi->List Fi
 |d,[]=>if d then []else [f]
 |d,x::l=>(if !d&&leF f x then [f]else [])++((if x.p=f.p then []else [x])++a8K f (d ||leF f x) l)
def a5F(l:List Fi)(f:Fi):List Fi:=a8K f false l
def a4w(l:List Fi)(s:D):List Fi:=l.filter λx=>!decide (x.p=s)
theorem c4C{f:Fi}{l:List Fi}{y:Fi}(h:l[i]?=some y)(d:Bool):a8K f d (l.drop i)=(if !d&&leF f y then [f]else [])++((if y.p=f.p then []else [y])++a8K f (d ||leF f y) (l.drop (i+1))):=by
 obtain⟨ai,rfl⟩:=n_2.1 h;rw[a0v ai];rfl
theorem c5d{l:List Fi}{y:Fi}(h:l[i]?=some y):a4w (l.drop i) s=(if y.p=s then []else [y])++a4w (l.drop (i+1)) s:=by
 obtain⟨ai,rfl⟩:=n_2.1 h;rw[a0v ai,a4w,b2p];by_cases h:(l[i]).p=s
 .simp [h,a4w]
 .simp [h,a4w]
theorem b4i{am:List Nat}{l:List Fi}:B5 L am (.agg [.list (l.map Fi.cv) nn tok]) (.agg (A0 l nn)):=
 .agg G λi c c' h h'=>by
  rcases i with _|i
  .injection h with h;injection h' with h';subst h h';exact V4 (f:=Fi.cv) Fi.pure _
  .cases h
theorem c0S(fl:List Fi)(nn:Bool)(f:Fi)(dr:fl.length<=1000000):b8 CC 29 [.agg (A0 fl nn),.agg f.cells] [] λr τ=>C9 0 τ r (.ret (.agg (A0 (a5F fl f) (gnn (a5F fl f).length)))) []:=by
 refine qO Tryz.func29 ?_;refine a9N ?_;refine c89 ?_;refine u a2E ?_;refine B3 hCC 4 G (α:=List Fi×Bool×Nat) (λx=>[(3,.ptr 1 0),(4,.ptr 2 0),(5,.ptr 3 0),(6,(.val (.bool x.2.1))),(10,(.list (fl.map Fi.cv) nn none)),(11,iv fl.length),(12,iv x.2.2)]) (λx=>[.box (A0 fl nn),.box f.cells,.box (A0 [] false),.box [(.list (x.1.map Fi.cv) (gnn x.1.length) (D6 x.1.length 4))],l8 x.1.length]) (λx=>x.2.2<=fl.length/\x.1.length<=x.2.2+1/\(x.2.1=false->x.1.length<=x.2.2)/\a5F fl f=x.1++a8K f x.2.1 (fl.drop x.2.2)) (λx=>fl.length -x.2.2) ⟨([],false,0),[0,1,2,3,9],⟨n_4 _,n_4 _,λ_=>n_4 _,G⟩,⟨G,G⟩,ut_,⟨.inr ⟨_,G,.same G a0H⟩,.inr ⟨_,G,.same G b1l⟩,.inr ⟨_,G,.same G a9v⟩,.inr ⟨_,G,.box ⟨.same G (a0g _ ([]:List Fi) _),O⟩⟩,.inl G,O⟩⟩ ?_;intro⟨aq,d,i⟩ ⟨hi,hol,hod,hr⟩;dsimp only at hi hol hod hr⊢;refine qk (qC ?_ ?_)<;> intro h1
 .have ai:i<fl.length:=sm_ h1;obtain⟨y,hb⟩:∃y,fl[i]?=some y:=⟨fl[i]'ai,Q⟩;rw[c4C hb]at hr;refine b9n ?_;refine qG d0m ?_;refine qG a29 ?_;refine qG d0m ?_;refine qG a29 ?_;refine qG (λhg=>a1r G hg hg G G (b8x _ _)) ?_;refine u Q8 ?_;refine qC ?_ ?_<;>intro h2
  .have dl:d=false/\leF f y=true:=by
    have h2:(!d&&leF f y)=true:=h2;simpa using h2
   obtain⟨hd,aT⟩:=dl;subst hd;rw[aT]at hr;have hol2:=hod G;refine u e2o ?_;refine qD (B6 G O O G Q q_3 b0p b09 b7c a9H G (.inr G) q_8 c9j E9 ((aq++[f]).map Fi.cv) (aq++[f]).length Q Q ?_);refine qD (i0 G O O G j1 c3o (.inl G) G G (nb G) ?_);refine u b0h ?_;refine qC ?_ ?_<;>intro h3
   .have fO:¬y.p=f.p:=U h3;rw[H fO]at hr;refine u d8M ?_;refine qD (B6 G O O G Q q_3 b0p b09 b7c a9H G (.inr G) q_8 c9j E9 ((aq++[f]++[y]).map Fi.cv) (aq++[f]++[y]).length Q Q ?_);refine c9k ?_;exact⟨(aq++[f]++[y],true,i+1),[0,1,2,3,7],⟨do_,do_,by simp only[n_9,J5,a1D];omega,(λh=>by cases h),by rw[hr];simp⟩,⟨G,G⟩,ut_,⟨.inr ⟨_,G,.same G a0H⟩,.inr ⟨_,G,.same G b1l⟩,.inr ⟨_,G,.same G a9v⟩,.inr ⟨_,G,.box ⟨B5.grow (f:=Fi.cv) (λa=>⟨.val _,.val _,O⟩) G,O⟩⟩,.inr ⟨_,G,.same G B0⟩,O⟩⟩
   .have fO:y.p=f.p:=U h3;rw[W fO]at hr;refine u o3 ?_;exact⟨(aq++[f],true,i+1),[0,1,2,3,6],⟨do_,do_,by simp only[n_9,J5,a1D];omega,(λh=>by cases h),by rw[hr];simp⟩,⟨G,G⟩,ut_,⟨.inr ⟨_,G,.same G a0H⟩,.inr ⟨_,G,.same G b1l⟩,.inr ⟨_,G,.same G a9v⟩,.inr ⟨_,G,.box ⟨B5.grow (f:=Fi.cv) (λa=>⟨.val _,.val _,O⟩) G,O⟩⟩,.inr ⟨_,G,.same G B0⟩,O⟩⟩
  .have hd:(!d&&leF f y)=false:=by
    have h2:(!d&&leF f y)=false:=h2;simpa using h2
   have eG:(d ||leF f y)=d:=by cases d<;>simp_all
   rw[hd,eG]at hr;refine u b0h ?_;refine qC ?_ ?_<;>intro h4
   .have fO:¬y.p=f.p:=U h4;rw[H fO]at hr;refine u d8M ?_;refine qD (B6 G O O G Q q_3 b0p b09 b7c a9H G (.inr G) q_8 c9j E9 ((aq++[y]).map Fi.cv) (aq++[y]).length Q Q ?_);refine c9k ?_;exact⟨(aq++[y],d,i+1),[0,1,2,3,6],⟨do_,do_,by simp only[n_9,J5,a1D];omega,(λh=>by have:=hod h;simp only[n_9,J5,a1D];omega),by rw[hr];simp⟩,⟨G,G⟩,ut_,⟨.inr ⟨_,G,.same G a0H⟩,.inr ⟨_,G,.same G b1l⟩,.inr ⟨_,G,.same G a9v⟩,.inr ⟨_,G,.box ⟨B5.grow (f:=Fi.cv) (λa=>⟨.val _,.val _,O⟩) G,O⟩⟩,.inr ⟨_,G,.same G B0⟩,O⟩⟩
   .have fO:y.p=f.p:=U h4;rw[W fO]at hr;refine u o3 ?_;exact⟨(aq,d,i+1),[0,1,2,3,4],⟨do_,do_,do_,(λh=>by have:=hod h;dsimp only;omega),by rw[hr];simp⟩,⟨G,G⟩,ut_,⟨.inr ⟨_,G,.same G a0H⟩,.inr ⟨_,G,.same G b1l⟩,.inr ⟨_,G,.same G a9v⟩,.inr ⟨_,G,.box ⟨B5.grow (f:=Fi.cv) (λa=>⟨.val _,.val _,O⟩) G,O⟩⟩,.inr ⟨_,G,.same G B0⟩,O⟩⟩
 .have aL:fl.length<=i:=sm_ h1;rw[a0V aL]at hr;refine o6 ?_;refine qC ?_ ?_<;>intro h5
  .have hd:d=false:=U h5;subst hd;replace hr:a5F fl f=aq++[f]:=hr;refine u e2o ?_;refine qD (B6 G O O G Q q_3 b0p b09 b7c a9H G (.inr G) q_8 c9j E9 ((aq++[f]).map Fi.cv) (aq++[f]).length Q Q ?_);refine qD (i0 G O O G j1 c3o (.inl G) G G (nb G) ?_);refine c5b ?_;exact⟨_,B7 G a3U,(by rw[hr];exact d5f b4i)⟩
  .have hd:d=true:=U h5;subst hd;replace hr:a5F fl f=aq:=by rw[hr];exact a0h _
   refine c5b ?_;exact⟨_,B7 G a3U,(by rw[hr];exact d5f b4i)⟩
theorem a0S(fl:List Fi)(nn:Bool)(f:Fi)(dr:fl.length<=1000000)(σ:List b9):b8 CC 29 [.agg (A0 fl nn),.agg f.cells] σ λr τ=>r= .ret (.agg (A0 (a5F fl f) (gnn (a5F fl f).length)))/\τ=σ:=
 d1M hCC (λa h=>by simp at h;rcases h with rfl|rfl;exact j5 (cs:=A0 _ _) ⟨F5 _ _,O⟩;exact j5 (Fi.pure _)) (j5 (cs:=A0 _ _) ⟨F5 _ _,O⟩) (c0S fl nn f dr) σ
end Go.Proofs.YtncmhkpnclafkaaGreatDoor
