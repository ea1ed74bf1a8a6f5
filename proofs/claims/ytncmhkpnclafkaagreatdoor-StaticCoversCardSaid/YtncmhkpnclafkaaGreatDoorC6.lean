/- Part 6 of what the claim needs: values without addresses, and what the program's functions do with them. -/
import Derived.Test.YtncmhkpnclafkaaGreatDoorC5
set_option linter.all false
set_option maxRecDepth 100000
set_option maxHeartbeats 4000000
namespace Go.Proofs.YtncmhkpnclafkaaGreatDoor
open Go Go.Cl
variable{S S1:MS}{σ τ:List b9}{e d a b:Int}{p o name:D}{fl:List Fi}{q k t n q':Nat}{x y:En}{s:Src}{rec:Fr->Int->MS->Rs Int}{α:Type}{ks:List Ky}{va:Bool}{R:Nat->Nat->Prop}{F:Fr}{L acc:List Int}{T:CS}{tok:Option Nat}{f:FuncId}{args:List CV}
structure b3f(c:MC)(V:En->Prop)(K:Ky->Prop)(R:Prop)(s:Src)(d:De):Prop where
 call:∀e∈d.body,e.k=3->(∀k∈L5 e.name (s.pkg::s.imports) (a0B true c.me e.name (s.pkg::s.imports)),K k)/\(K0 (S5 true c.me e.name (s.pkg::s.imports))=0->V (S5 true c.me e.name (s.pkg::s.imports)))
 data:∀e∈d.body,(e.k=6\/e.k=7\/e.k=8)->(∀k∈H9 c.fl e.name,K k)/\(diC c.fl true c.me e.name=0->r8 c.fl e.name=none->V (diE c.fl true c.me e.name))
 env:∀e∈d.body,e.k=9->K ⟨5,e.name,[]⟩
 flip:∀e∈d.body,e.k=10->R
 kinds:∀e∈d.body,1<=e.k/\e.k<=10
def e1E(K:Ky->Prop)(R:Prop)(S:MS):Prop:=(∀k∈kys S,K k)/\(S.rn=true->R)
def Cov{α:Type}(K:Ky->Prop)(R:Prop)(S:MS)(o:Rs α):Prop:=e1E K R S->e1E K R o.2
section
variable{c:MC}{V:En->Prop}{K:Ky->Prop}{R:Prop}
theorem Cov.ret{a:α ⊕ Int}:Cov K R S ((a,S):Rs α):=id
theorem Cov.bind{β:Type}{o:Rs α}{k:α->MS->Rs β}(h:Cov K R S o)(hk:∀v,Cov K R o.2 (k v o.2)):Cov K R S (bindM o k):=λhS=>by
 cases ho:o.1 with
 |inl v=>rw[a0s ho];exact hk v (h hS)
 |inr e=>rw[a0q ho];exact h hS
theorem Cov.look{o:Rs α}(hk:∀k∈ks,K k)(h:Cov K R (S.look ks) o):Cov K R S o:=λhS=>
 h ⟨λk aJ=>(a2W.1 aJ).elim (hS.1 k) (hk k),hS.2⟩
def HC(c:MC)(V:En->Prop)(K:Ky->Prop)(R:Prop)(rec:Fr->Int->MS->Rs Int):Prop:=∀F,b3f c V K R F.f F.d->∀i S,Cov K R S (rec F i S)
theorem d0s{rec:Int->MS->Rs Int}(h:∀i S,Cov K R S (rec i S)):∀(l acc:List Int) (S:MS),Cov K R S (W3 rec acc l S)
 | [],_,_=>Cov.ret
 |a::l,_,S=>Cov.bind (h a S) λ_=>d0s h l _ _
theorem b4P(hV:∀x,V x->∀s d,D2 c x=some (s,d)->b3f c V K R s d)(h:HC c V K R rec)(hx:V x)(args:List Int)(an:Bool)(S:MS):Cov K R S (H5 rec c x args an S):=by
 rw[H5]
 split
 .exact Cov.ret
 .split
  .exact Cov.ret
  .rename_i y hy;refine Cov.bind (k:=λv S2=>(.inl v,{S2 with ac:=S2.ac -1})) (λhS=>?_) λv hS=>hS;exact h ⟨y.1,y.2,args,an⟩ (hV x hx y.1 y.2 hy) _ {S with ac:=S.ac+1} hS
theorem d9E(hV:∀x,V x->∀s d,D2 c x=some (s,d)->b3f c V K R s d)(h:HC c V K R rec)(hF:b3f c V K R F.f F.d){x:Ex}(hx:x∈F.d.body)(S:MS):Cov K R S (W6 rec c F x S):=by
 rw[W6]
 split
 .exact Cov.ret
 split
 .exact Cov.ret
 split
 .rename_i k3;obtain⟨g1,g2⟩:=hF.call x hx k3;refine Cov.look (ks:=U5 c F x) g1 ?_;rw[a1A]
  split
  .exact Cov.ret
  .rename_i hz;have hz':K0 (G8 c F x)=0:=Classical.not_not.1 hz;exact Cov.bind (d0s (h F hF) _ _ _) λvs=>by
    split
    .exact Cov.ret
    .exact b4P hV h (g2 hz') _ _ _
 split
 .exact Cov.bind (h F hF _ _) λa=>Cov.bind (h F hF _ _) λb=>Cov.ret
 split
 .exact Cov.bind (h F hF _ _) λa=>by split<;>exact h F hF _ _
 split
 .rename_i k6;obtain⟨g1,g2⟩:=hF.data x hx (.inl k6);refine Cov.look (ks:=H9 c.fl x.name) g1 ?_;rw[a0I]
  split
  .exact Cov.ret
  .rename_i hz;have hz':diC c.fl true c.me x.name=0:=Classical.not_not.1 hz;refine Cov.bind (h F hF _ _) λi=>?_;cases hd:r8 c.fl x.name with
   |some b=>dsimp only;split<;>exact Cov.ret
   |none=>
    dsimp only;split
    .exact Cov.ret
    .exact Cov.bind (b4P hV h (g2 hz' hd) _ _ _) λv=>Cov.ret
 split
 .rename_i k7;exact Cov.look (hF.data x hx (.inr (.inl k7))).1 Cov.ret
 split
 .rename_i k8;exact Cov.look (hF.data x hx (.inr (.inr k8))).1 Cov.ret
 split
 .rename_i k9;exact Cov.look (ks:=[⟨5,x.name,[]⟩]) (λk hk=>by rw[a0r.1 hk];exact hF.env x hx k9) Cov.ret
 .have hk:=hF.kinds x hx;have k10:x.k=10:=by omega
  exact λhS=>⟨hS.1,λ_=>hF.flip x hx k10⟩
theorem c2y(hV:∀x,V x->∀s d,D2 c x=some (s,d)->b3f c V K R s d):∀n:Nat,HC c V K R (evN c n)
 |0=>λF _ i S=>Cov.ret
 |n+1=>λF hF i S=>by
  rw[evN,W2]
  split
  .exact Cov.ret
  .split
   .exact Cov.ret
   .rename_i x hx;exact λhS=>d9E hV (c2y hV n) hF (n_3 hx) {S with st:=S.st+1} hS
theorem d4E(hV:∀x,V x->∀s d,D2 c x=some (s,d)->b3f c V K R s d)(hx:V (T9 c p o))(hk:K (kyT p o)):(∀k∈kys (a5u c p o).2,K k)/\((a5u c p o).2.rn=true->R):=
 b4P hV (c2y hV 20001) hx [] false (MS0.look [kyT p o]) ⟨λk h=>(a2W.1 h).elim (λh=>by cases h) λh=>by rw[a0r.1 h];exact hk,λh=>by cases h⟩
end
structure d9M(fl:List Fi):Prop where
 pl:∀f∈fl,f.p.length<=1000000000
 len:fl.length<=64
 es:(w8 fl).2.2.length<=10000
 ss:(w8 fl).2.1.length<=64
 im:∀x∈(w8 fl).2.1,x.2.imports.length<=8
 ky:∀k∈KU fl,k.a.length<=1000000000/\k.b.length<=1000000000
def b2t(l:List Ky):Prop:=l.Pairwise λx y=>ltK x y=true
theorem b1w{a b:List Ky}(ha:b2t a)(hb:b2t b)(h:∀x,x∈a↔x∈b):a=b:=by
 have nd:∀{l:List Ky},b2t l->l.Nodup:=λhl=>hl.imp λ{x y} fU e=>by
  subst e;rw[a7F]at fU;cases fU
 refine List.Perm.eq_of_pairwise (le:=λx y=>ltK x y=true) (λx y _ _ h1 h2=>?_) ha hb ((List.perm_ext_iff_of_nodup (nd ha) (nd hb)).2 h);have:=a3o h1 h2;rw[a7F]at this;cases this
theorem b32(y k:Ky)(l:List Ky):J8 (y::l) k=if ltK y k=true then y::J8 l k else if y=k then y::l else k::y::l:=by
 unfold J8;rw[show a6e k (y::l)=if ltK y k=true then a6e k l+1 else 0 from G];by_cases h:ltK y k=true
 .simp only[h,if_true,List.getElem?_cons_succ,List.take_succ_cons,List.drop_succ_cons]
  split<;>simp
 .simp only[h,if_false,a8l,List.getElem?_cons_zero,Option.some.injEq,List.take_zero,b40,b2j]
theorem b0E{k x:Ky}:∀{l:List Ky},x∈J8 l k↔x=k\/x∈l
 | []=>by simp[J8,a6e]
 |y::l=>by
  have ih:=b0E (k:=k) (x:=x) (l:=l);rw[b32]
  split
  .rw [I0,ih,I0];constructor
   .rintro (h|h|h)
    .exact .inr (.inl h)
    .exact .inl h
    .exact .inr (.inr h)
   .rintro (h|h|h)
    .exact .inr (.inl h)
    .exact .inl h
    .exact .inr (.inr h)
  .split
   .rename_i h;subst h;rw[I0];constructor
    .exact .inr
    .rintro (h|h)
     .exact .inl h
     .exact h
   .rw [I0]
theorem b7U{k:Ky}:∀{l:List Ky},b2t l->b2t (J8 l k)
 | [],_=>by simp[J8,a6e,b2t]
 |y::l,h=>by
  obtain⟨h1,h2⟩:=a2N.1 h;rw[b32]
  split
  .rename_i hy;refine a2N.2 ⟨λx hx=>?_,b7U h2⟩
   rcases b0E.1 hx with rfl|hx
   .exact hy
   .exact h1 x hx
  .rename_i hy
   split
   .exact h
   .rename_i aB;have hk:ltK k y=true:=by
     cases e:ltK k y
     .exact absurd (a7h (U hy) e) aB
     .rfl
    refine a2N.2 ⟨λx hx=>?_,h⟩
    rcases I0.1 hx with rfl|hx
    .exact hk
    .exact a3o hk (h1 x hx)
theorem L2(l:List Ky):b2t (a5P l)/\∀x,x∈a5P l↔x∈l:=by
 have h:∀(l a:List Ky),b2t a->b2t (l.foldl J8 a)/\∀x,x∈l.foldl J8 a↔x∈a\/x∈l:=by
  intro l
  induction l with
  |nil=>intro a ha;exact⟨ha,λx=>by simp⟩
  |cons y l ih=>
   intro a ha;obtain⟨h1,h2⟩:=ih (J8 a y) (b7U ha);refine⟨h1,λx=>?_⟩;rw[List.foldl_cons,h2,b0E,I0];constructor
   .rintro ((h|h)|h)
    .exact .inr (.inl h)
    .exact .inl h
    .exact .inr (.inr h)
   .rintro (h|h|h)
    .exact .inl (.inr h)
    .exact .inl (.inl h)
    .exact .inr h
 obtain⟨h1,h2⟩:=h l [] List.Pairwise.nil;exact⟨h1,λx=>by rw[a5P,h2];simp⟩
theorem b4I{x:Ky}:∀{l:List Ky},x∈ddK l↔x∈l
 | []=>by simp[ddK]
 | [a]=>by simp[ddK]
 |a::b::l=>by
  have ih:=b4I (x:=x) (l:=b::l);rw[b3G]
  split
  .rename_i h;subst h;rw[ih];simp
  .rw [I0,ih];simp
theorem c3W:∀{l:List Ky},(l.Pairwise λx y=>ltK y x=false)->b2t (ddK l)
 | [],_=>.nil
 | [a],_=>List.pairwise_singleton _ _
 |a::b::l,h=>by
  obtain⟨h1,h2⟩:=a2N.1 h;have ih:=c3W h2;rw[b3G]
  split
  .exact ih
  .rename_i aB;refine a2N.2 ⟨λy hy=>?_,ih⟩;have hy':=b4I.1 hy;cases e:ltK a y
   .have ea:=a7h e (h1 y hy');subst ea
    rcases I0.1 hy' with e2|hl
    .exact absurd e2 aB
    .have h3:=(a2N.1 h2).1 a hl;have h4:=h1 b b2h;exact absurd (a7h h3 h4) aB
   .rfl
theorem a0T(l:List Ky):Z8 l=a5P l:=by
 obtain⟨h1,h2⟩:=L2 l;refine b1w (c3W ?_) h1 λx=>?_
 .have hp:=List.pairwise_mergeSort (le:=λx y=>!(Go.Proofs.ltOf T4) y x) (λa b c h k=>?_) (λa b=>?_) l
  .exact hp.imp λ{x y} h=>by simpa[a4y]using h
  .simp only[b69,a4y]at*;exact(show ltK c a=false from by
    rw[<- a4y]at*;exact d8i.ntrans c b a k h)
  .simp only[a9J,b69,a4y];cases e:ltK b a
   .exact .inl G
   .right
    cases e2:ltK a b
    .rfl
    .have:=a3o e e2;rw[a7F]at this;cases this
 .rw [h2,Z8,b4I];exact(List.mergeSort_perm _ _).mem_iff
theorem b52{a b:List Ky}(h:∀x,x∈a↔x∈b):Z8 a=Z8 b:=by
 rw[a0T,a0T];exact b1w (L2 a).1 (L2 b).1 λx=>by rw[(L2 a).2,(L2 b).2,h]
theorem b6W(l:List Ky):(Z8 l).length<=l.length:=by rw[a0T];exact b5O l
structure EnV(q:Nm)(e:En):Prop where
 key:q=A9 e.k e.p e.o
 kind:e.k=1\/e.k=2\/e.k=3
 pkg:C0 e.p=true
 own:e.k≠3->C0 e.o=true
 pth:e.k=3->F6 e.o=true
theorem d9a{me:EM}(hx:EnV (A9 x.k x.p x.o) x)(h:∀y∈me,EnV y.1 y.2):∀y∈a0a me x,EnV y.1 y.2:=λy hy=>by
 unfold a0a at hy
 rcases a61 hy with rfl|hy
 .dsimp only
  split
  .rename_i f hf;have:=h _ (b41 hf);exact⟨this.key,this.kind,this.pkg,this.own,this.pth⟩
  .exact hx
 .exact h y hy
theorem c3Q{path pkg:D}(hp:C0 pkg=true):∀(l:List De) (k:Nat) (me:EM),(∀d∈l,DeG d)->(∀y∈me,EnV y.1 y.2)->(∀y∈addDs me path pkg l k,EnV y.1 y.2)/\(addDs me path pkg l k).length<=me.length+l.length
 | [],k,me,_,h=>⟨h,n_6 _⟩
 |d::l,k,me,hd,h=>by
  have hg:=hd d b2h;obtain⟨h1,h2⟩:=c3Q hp l (k+1) (a0a me ⟨pkg,d.name,d.k,path,k,1⟩) (λe he=>hd e (a4a _ he)) (d9a ⟨G,hg.kind,hp,λh3=>(hg.name h3).1,hg.path⟩ h);refine⟨h1,a1F h2 ?_⟩;have h3:(a0a me ⟨pkg,d.name,d.k,path,k,1⟩).length<=me.length+1:=a65;rw[J5];omega
structure WV(n:Nat)(s:WS):Prop where
 src:∀x∈s.2.1,a1b x.2
 ent:∀x∈s.2.2,EnV x.1 x.2
 sl:s.2.1.length<=n
 el:s.2.2.length<=64*n
theorem WV.step{s:WS}(h:WV n s)(f:Fi):WV (n+1) (P7 s f):=by
 unfold P7;have gS:=h.el;have gC:=h.sl
 split
 .cases hp:N1 f.b with
  |none=>exact⟨h.src,h.ent,Nat.le_succ_of_le gC,do_⟩
  |some x=>
   have hx:=a5q hp;obtain⟨h1,h2⟩:=c3Q (path:=f.p) hx.pkg.1 x.decls 0 s.2.2 hx.dec h.ent;have hd:=hx.decl;have:=a65 (a:=f.p) (c:=x) (l:=s.2.1);refine⟨λy hy=>?_,h1,do_,do_⟩
   rcases a61 hy with rfl|hy
   .exact hx
   .exact h.src y hy
 .exact ⟨h.src,h.ent,Nat.le_succ_of_le gC,J⟩
theorem c8O:∀{l:List Fi} {n:Nat} {s:WS},WV n s->WV (n+l.length) (a4X l s)
 | [],n,s,h=>h
 |f::l,n,s,h=>by
  have:=c8O (l:=l) (h.step f);rw[show n+1+l.length=n+(f::l).length by simp;omega]at this;exact this
theorem d1V(fl:List Fi):WV fl.length (w8 fl):=by
 unfold w8
 split
 .simpa using c8O (l:=fl) (n:=0) (s:=([],[],[])) ⟨λx h=>by simp at h,λx h=>by simp at h,n_6 _,n_6 _⟩
 .exact ⟨λx h=>by simp at h,λx h=>by simp at h,n_4 _,n_4 _⟩
theorem d2N{q:Nm}{e:En}(h:EnV q e):N9 (d9v e)=true:=by
 unfold d9v
 rcases h.kind with hk|hk|hk
 .rw [W hk];simp[N9,h.pkg,h.own J]
 .rw [H J,W hk];simp[N9,h.pkg,h.own J]
 .rw [H J,H J];simp[N9,h.pth hk]
theorem d2P{x:Src}(h:a1b x):∀k∈e20 x,N9 k=true:=λk hk=>by
 obtain⟨s,hs,hk⟩:=b4T.1 hk;have hn:C0 s=true:=by
  rcases I0.1 hs with rfl|hs
  .exact h.pkg.1
  .exact (h.imp s hs).1
 simp only[e22,I0,a9B,or_false]at hk
 rcases hk with rfl|rfl<;>simp[N9,hn]
theorem e1S(h:B4 fl=0):∀k∈KU fl,N9 k=true:=λk hk=>by
 obtain⟨h1,h2⟩:=U1 h;have hv:=d1V fl;unfold KU at hk
 rcases Q9.1 hk with hk|hk
 .rcases Q9.1 hk with hk|hk
  .obtain ⟨f,hf,rfl⟩:=D8.1 hk;simp[d8j,N9,(h2 f hf).1]
  .obtain ⟨e,he,rfl⟩:=D8.1 hk;obtain⟨x,hx,rfl⟩:=D8.1 he;exact d2N (hv.ent x hx)
 .obtain ⟨x,hx,hk⟩:=b4T.1 hk;obtain⟨y,hy,rfl⟩:=D8.1 hx;exact d2P (hv.src y hy) k hk
theorem b6Y{k:Ky}(h:N9 k=true):k.a.length<=100/\k.b.length<=100:=by
 obtain⟨h1,h2⟩:=c67 h;refine⟨h2,?_⟩;unfold N9 at h;split at h
 .have:=a5r (Bool.and_eq_true_iff.1 h).2;omega
 .split at h
  .have:=of_decide_eq_true (Bool.and_eq_true_iff.1 h).2;rw[this];exact n_4 _
  .split at h
   .have:=of_decide_eq_true (Bool.and_eq_true_iff.1 h).2;rw[this];exact n_4 _
   .cases h
theorem d9M.of(h:B4 fl=0):d9M fl:=by
 obtain⟨h1,h2⟩:=U1 h;have hv:=d1V fl;have h3:=hv.el;have h4:=hv.sl;exact⟨λf hf=>by have:=a1I (h2 f hf).1;omega,h1,J,J,λx hx=>(hv.src x hx).impl,λk hk=>by have:=b6Y (e1S h k hk);omega⟩
inductive Rch(c:MC)(p o:D):En->Prop where
 |base:Rch c p o (T9 c p o)
 |step {v y:En} {s:Src} {d:De}:Rch c p o v->D2 c v=some (s,d)->y∈a1p c s d->Rch c p o y
structure a1n(c:MC)(p o:D)(K:List Ky)(rn:Bool):Prop where
 mem:∀k,k∈K↔k=kyT p o\/∃v,Rch c p o v/\∃s d,D2 c v=some (s,d)/\k∈a1u c s d
 rn:rn=true↔∃v,Rch c p o v/\∃s d,D2 c v=some (s,d)/\a16 d=true
 len:K.length<=40000000
def a7x(c:MC)(v:En):Prop:=(∃k a b,v=p8 true c.me k a b)/\v.ct=1
theorem c0i(me:EM)(name:D)(L:List D):S5 true me name L=En.z\/∃p,S5 true me name L=p8 true me 1 p name:=by
 unfold S5;cases a0B true me name L with
 |zero=>exact .inl G
 |succ i=>
  rw[a30];cases L[i]? with
  |none=>exact .inl G
  |some p=>exact .inr ⟨p,G⟩
theorem c5L{c:MC}(hc:McG c){f:Src}{s:D}(h:y∈caF c f s):a7x c y:=by
 unfold caF at h;split at h
 .rename_i h0;have hy:=a0r.1 h
  rcases c0i c.me s (f.pkg::f.imports)with hz|⟨q,hq⟩
  .exfalso;rw[show ctF c f s=En.z from hz]at h0;exact absurd h0 I
  .have dN:ctF c f s=p8 true c.me 1 q s:=hq;have h1:=hc.ct 1 q s;rw[<- dN]at h1;unfold K0 at h0;split at h0
   .exact absurd h0 I
   .split at h0
    .exact absurd h0 I
    .rename_i h2 h3;have cX:(ctF c f s).ct=1:=by omega
     rw[H2,H h2,H h3]at hy;rw[hy];exact⟨⟨1,q,s,dN⟩,cX⟩
 .cases h
theorem c5g{c:MC}{s:D}(h:y∈daF c s):a7x c y:=by
 unfold daF at h;split at h
 .rename_i h0;have hy:=a0r.1 h;rw[hy];refine⟨?_,h0.2⟩;have h1:=h0.2;unfold diE at h1⊢;split at h1
  .exact absurd h1 I
  .rename_i h2;rw[H h2];unfold H2 at h1⊢;split at h1
   .exact absurd h1 I
   .rename_i h3;split at h1
    .exact absurd h1 I
    .rename_i h4;rw[H h3,H h4];exact⟨3,[],s,G⟩
 .cases h
theorem b9d{c:MC}(hc:McG c){d:De}(h:y∈a1p c s d):a7x c y:=by
 unfold a1p at h
 rcases Q9.1 h with h|h
 .obtain ⟨n,_,h⟩:=b4T.1 h;exact c5L hc h
 .obtain ⟨n,_,h⟩:=b4T.1 h;exact c5g h
theorem a7x.decl{c:MC}(hc:McG c){v:En}(h:a7x c v):∃(s:Src) (d:De),0<=v.ix/\D2 c v=some (s,d)/\a1b s/\d∈s.decls:=by
 obtain⟨⟨k,a,b,rfl⟩,h1⟩:=h;obtain⟨s,d,h2,h3,h4,h5,_⟩:=hc.find h1;exact⟨s,d,h2,h3,h4,h5⟩
theorem a7x.mem{c:MC}{v:En}(h:a7x c v):v∈c.me.map Prod.snd:=by
 obtain⟨⟨k,a,b,rfl⟩,h1⟩:=h;unfold p8 at h1⊢;rw[W G]at h1⊢;cases hg:glk c.me (A9 k a b)with
 |none=>rw[hg]at h1;exact absurd (show(0:Int)=1 from h1) I
 |some e=>exact D8.2 ⟨_,b41 hg,G⟩
structure CI(c:MC)(p o:D)(T:CS):Prop where
 nd:T.V.Nodup
 good:∀v∈T.V,a7x c v
 rch:∀v∈T.V,Rch c p o v
 bas:T9 c p o∈T.V
 cl:∀v∈T.V.take T.i,∀s d,D2 c v=some (s,d)->∀y∈a1p c s d,y∈T.V
 K:∀k,k∈T.K↔k=kyT p o\/∃v∈T.V.take T.i,∃s d,D2 c v=some (s,d)/\k∈a1u c s d
 rn:T.rn=true↔∃v∈T.V.take T.i,∃s d,D2 c v=some (s,d)/\a16 d=true
 i:T.i<=T.V.length
 j:T.j<=T.i
 kl:T.K.length<=1+3100*T.i
variable{i j:Nat}{rn:Bool}
theorem CI.len{c:MC}(h:CI c p o T):T.V.length<=c.me.length:=by
 have:=List.Nodup.length_le_of_subset h.nd λv hv=>(h.good v hv).mem;rwa[N0]at this
theorem CI.zero{c:MC}(h:(T9 c p o).ct=1):CI c p o ⟨[kyT p o],[T9 c p o],0,0,false⟩ where
 nd:=by simp
 good:=λv hv=>by rw[a0r.1 hv];exact⟨⟨2,p,o,G⟩,h⟩
 rch:=λv hv=>by rw[a0r.1 hv];exact .base
 bas:=a0r.2 G
 cl:=λv hv=>by cases hv
 K:=λk=>by simp
 rn:=by simp
 i:=n_4 _
 j:=n_6 _
 kl:=by simp
theorem c4y(fl:List Fi)(s:D):(H9 fl s).length<=2:=by unfold H9;split<;>simp
theorem flat_len{α β:Type}{f:α->List β}{b:Nat}(hf:∀x,(f x).length<=b):∀l:List α,(l.flatMap f).length<=b*l.length
 | []=>n_4 _
 |x::l=>by
  rw[b87,n_9,J5,Nat.mul_succ];have:=hf x;have:=flat_len hf l;omega
theorem c9a{c:MC}{d:De}(hs:a1b s)(hd:d∈s.decls):(a1u c s d).length<=3100:=by
 have hb:=(hs.dec d hd).blen;have h1:=flat_len (λx=>c38 c s x hs.impl) (nmS d [3]);have h2:=flat_len (λx=>c4y c.fl x) (nmS d [6,7,8]);have l1:=a5h d [3];have l2:=a5h d [6,7,8];have l3:=a5h d [9];unfold a1u;rw[n_9,n_9,N0];omega
theorem CI.step{c:MC}(hc:McG c)(h:CI c p o T){v:En}(hv:T.V[T.i]?=some v){d:De}(hd:D2 c v=some (s,d))(hs:a1b s)(hm:d∈s.decls)(hj:j<=T.i+1):CI c p o ⟨T.K++a1u c s d,R6 T.V (a1p c s d),T.i+1,j,T.rn ||a16 d⟩:=by
 have gT:=b22 (a1p c s d) T.V;have ai:=(n_2.1 hv).1;have hvm:=n_3 hv;have htk:(R6 T.V (a1p c s d)).take (T.i+1)=T.V.take T.i++[v]:=by
  obtain⟨t,ht⟩:=gT;rw[<- ht,List.take_append_of_le_length J,a3a,hv];rfl
 have hex:∀{P:Src->De->Prop},(∃Jj∈T.V.take T.i++[v],∃s d,D2 c Jj=some (s,d)/\P s d)↔(∃Jj∈T.V.take T.i,∃s d,D2 c Jj=some (s,d)/\P s d)\/P s d:=λ{P}=>by
  constructor
  .rintro ⟨Jj,hu,s',d',h1,h2⟩
   rcases Q9.1 hu with hu|hu
   .exact .inl ⟨Jj,hu,s',d',h1,h2⟩
   .rw [a0r.1 hu,hd]at h1;injection h1 with h1;injection h1 with h1 h3
    subst h1 h3;exact .inr h2
  .rintro (⟨Jj,hu,h1⟩|h1)
   .exact ⟨Jj,b3s _ hu,h1⟩
   .exact ⟨v,b8T _ (a0r.2 G),s,d,hd,h1⟩
 refine⟨b6q h.nd,λJj hu=>?_,λJj hu=>?_,a1Q.2 (.inl h.bas),λJj hu s' d' h1 y hy=>?_,λk=>?_,?_,?_,hj,?_⟩
 .rcases a1Q.1 hu with hu|hu
  .exact h.good Jj hu
  .exact b9d hc hu
 .rcases a1Q.1 hu with hu|hu
  .exact h.rch Jj hu
  .exact .step (h.rch v hvm) hd hu
 .rw [htk]at hu
  rcases Q9.1 hu with hu|hu
  .exact a1Q.2 (.inl (h.cl Jj hu s' d' h1 y hy))
  .rw [a0r.1 hu,hd]at h1;injection h1 with h1;injection h1 with h1 h3
   subst h1 h3;exact a1Q.2 (.inr hy)
 .rw [htk,Q9,h.K k,hex,or_assoc]
 .rw [htk,hex,a9J,h.rn]
 .show T.i+1<=(R6 T.V (a1p c s d)).length;have:=gT.length_le;omega
 .have h1:=h.kl;have h2:=c9a (c:=c) hs hm;show(T.K++a1u c s d).length<=_;rw[n_9];show _<=1+3100*(T.i+1);omega
theorem CI.done{c:MC}(h:CI c p o T)(hi:T.V.length<=T.i)(hl:c.me.length<=10000):a1n c p o T.K T.rn:=by
 have cr:=h.cl;have hK:=h.K;have hr:=h.rn;rw[a2p hi]at cr hK hr;have bx:∀v,Rch c p o v->v∈T.V:=λv hv=>by
  induction hv with
  |base=>exact h.bas
  |step _ hd hy ih=>exact cr _ ih _ _ hd _ hy
 have fJ:∀{P:Src->De->Prop},(∃v∈T.V,∃s d,D2 c v=some (s,d)/\P s d)↔∃v,Rch c p o v/\∃s d,D2 c v=some (s,d)/\P s d:=λ{P}=>
  ⟨λ⟨v,hv,h1⟩=>⟨v,h.rch v hv,h1⟩,λ⟨v,hv,h1⟩=>⟨v,bx v hv,h1⟩⟩
 refine⟨λk=>by rw[hK k,fJ],by rw[hr,fJ],?_⟩;have h1:=h.kl;have h2:=h.len;have h3:=h.i;omega
theorem a1n.uniq{c:MC}{K K':List Ky}{rn':Bool}(h:a1n c p o K rn)(h':a1n c p o K' rn'):Z8 K=Z8 K'/\rn=rn':=
 ⟨b52 λk=>(h.mem k).trans (h'.mem k).symm,by
  have:=h.rn.trans h'.rn.symm;cases rn<;>cases rn'<;>simp_all⟩
theorem c7S{c:MC}(hc:McG c)(cX:(T9 c p o).ct=1){K:List Ky}(h:a1n c p o K rn):(∀k∈kys (a5u c p o).2,k∈K)/\((a5u c p o).2.rn=true->rn=true):=by
 have iM:∀v,Rch c p o v->a7x c v:=λv hv=>by
  induction hv with
  |base=>exact⟨⟨2,p,o,G⟩,cX⟩
  |step _ _ hy _=>exact b9d hc hy
 refine d4E (V:=Rch c p o) (K:=λk=>k∈K) (R:=rn=true) (λx hx s d hd=>?_) .base ((h.mem _).2 (.inl G));obtain⟨s',d',h1,h2,h3,h4⟩:=(iM x hx).decl hc;rw[hd]at h2;injection h2 with h2;injection h2 with h2 h5
 subst h2 h5;have hK:∀k∈a1u c s d,k∈K:=λk hk=>(h.mem k).2 (.inr ⟨x,hx,s,d,hd,hk⟩);have hA:∀y∈a1p c s d,Rch c p o y:=λy hy=>.step hx hd hy;refine⟨λe he hk=>⟨λk aJ=>hK k ?_,λh0=>?_⟩,λe he hk=>⟨λk aJ=>hK k ?_,λh0 ca=>?_⟩,λe he hk=>hK _ ?_,λe he hk=>h.rn.2 ⟨x,hx,s,d,hd,?_⟩,λe he=>?_⟩
 .exact b3s _ (b3s _ (b4T.2 ⟨e.name,a7Q.2 ⟨e,he,by rw[hk];simp,G⟩,aJ⟩))
 .obtain ⟨g1,_⟩:=b0S (F:=⟨s,d,[],false⟩) hc h0;refine hA _ (b3s _ (b4T.2 ⟨e.name,a7Q.2 ⟨e,he,by rw[hk];simp,G⟩,?_⟩));rw[caF,W (show K0 (ctF c s e.name)=0 from h0)];exact a0r.2 g1.symm
 .exact b3s _ (b8T _ (b4T.2 ⟨e.name,a7Q.2 ⟨e,he,by rcases hk with hk|hk|hk<;>rw[hk]<;>simp,G⟩,aJ⟩))
 .obtain ⟨g1,s2,d2,g2,g3,g4,g5,g6⟩:=b5r hc h0 ca;refine hA _ (b8T _ (b4T.2 ⟨e.name,a7Q.2 ⟨e,he,by rcases hk with hk|hk|hk<;>rw[hk]<;>simp,G⟩,?_⟩));have hct1:(diE c.fl true c.me e.name).ct=1:=by
   have h5:diC c.fl true c.me e.name=0:=h0;unfold diC at h5;rw[H (by rw[ca];decide)]at h5;have h7:=hc.ct 3 [] e.name;rw[g1];split at h5
   .exact absurd h5 I
   .split at h5
    .exact absurd h5 I
    .show (p8 true c.me 3 [] e.name).ct=1;rename_i u1 u2;have eC:¬(p8 true c.me 3 [] e.name).ct=0:=u1;have u2':¬1< (p8 true c.me 3 [] e.name).ct:=u2;omega
  rw[daF,W ⟨h0,hct1⟩];exact a0r.2 G
 .exact b8T _ (D8.2 ⟨e.name,a7Q.2 ⟨e,he,by rw[hk];simp,G⟩,G⟩)
 .exact c1K.2 ⟨e,he,by rw[hk];rfl⟩
 .exact ((h3.dec d h4).ar e he).kind
abbrev b43(K:List Ky)(rn:Bool):CV:=.tup [.list ((Z8 K).map Ky.cv) (gnn (Z8 K).length) none,.val (.bool rn),iv 0]
theorem b3i(K:List Ky)(rn:Bool):o8 (b43 K rn):=D3 ⟨D1 _ _,.val _,.val _,O⟩
theorem d9p(c:MC)(hc:McG c)(dr:c.fl.length<=1000000)(bO:c.me.length<=10000)(p o:D)(cX:(T9 c p o).ct=1):b8 CC 40 [.ptr 0 0,.agg [sv p,sv o]] (wst c.fl c.nn true c.br c.ms c.me) λr τ=>∃x:List Ky×Bool,X0 4 τ r (.ret (b43 x.1 x.2))/\a4o 4 τ τ (wst c.fl c.nn true c.br c.ms c.me)/\4<=4/\a1n c p o x.1 x.2:=by
 refine cO Tryz.func40 ?_;refine a59 ?_;refine cY b01 ?_;refine cY b01 ?_;refine b9H ?_;refine z_1 ?_;refine a9c ?_;refine a9c ?_;refine ye G c9Z ⟨O,G,O,O,O⟩ (a6N (w:=0) (q1:=1) (q2:=2) (t:=3) (fl:=c.fl) (nn:=c.nn) (va:=true) (br:=c.br) (ms:=c.ms) (me:=c.me) ⟨G,G,G,G,a2c ⟨I,I,I,I,I,I⟩⟩ 2 p o) G ?_;refine d8m ?_;refine a2n ?_;refine z_0 ?_;refine cY a85 ?_;refine b3k ?_;refine cC ?_ ?_<;>intro h1
 .exact absurd cX (show ¬(T9 c p o).ct=1 from(by simpa using h1:¬(p8 true c.me 2 p o).ct=1))
 .refine A8 ?_;refine z_1 ?_;refine a9c ?_;refine a9c ?_;refine cY d5k ?_;refine cD (c39 G O G ⟨G,G,G⟩ t_5 t_3 a0A ?_);refine cD (S8 G ?_);refine cY (z8 #[(0,1),(1,1),(2,1),(3,1),(4,1)] G D0 c5q Tryz.zeroValue142 G ⟨_,G⟩ (λw=>by kernel_rfl) G G) ?_;refine cD (F4 G O j1 i9 ?_);refine a6u ?_;refine a7V ?_;refine a5K ?_;refine cY a3h ?_;refine de G c92 j2 (c1A (q:=8) (wk:=9) (m:=7) (w:=0) (tk:=6) (⟨[kyT p o],[],0,0,false⟩:CS) (T9 c p o) (n_4 _) G G (.inl ⟨G,G,G,G,G⟩) I) G ?_;intro j hj;obtain rfl:j=0:=by have:j<=0:=hj;omega
  refine A1 ((λV:List En=>[wbx c.fl c.nn true c.br 1 2 3,smO c.ms,emO c.me,l8 c.br.length,.box [sv p,sv o],.box (T9 c p o).cells,l8 1,seO V,cbx (⟨[kyT p o],V,0,0,false⟩:CS) 0 7 6 11,.dead,.box (T9 c p o).cells,wkO (⟨[kyT p o],V,0,0,false⟩:CS)]) [(T9 c p o)]) (n_7 (λV:List En=>[wbx c.fl c.nn true c.br 1 2 3,smO c.ms,emO c.me,l8 c.br.length,.box [sv p,sv o],.box (T9 c p o).cells,l8 1,seO V,cbx (⟨[kyT p o],V,0,0,false⟩:CS) 0 7 6 11,.dead,.box (T9 c p o).cells,wkO (⟨[kyT p o],V,0,0,false⟩:CS)]) (show a2L [] (T9 c p o)=[(T9 c p o)] by simp[a2L])) ?_;refine a2n ?_;refine a1Z ?_;refine a5c hCC 12 G ((a9Z (S:=⟨[kyT p o],[(T9 c p o)],0,0,false⟩) (tk:=6) (q:=8) G I G G).trans (a93 (S:=⟨[kyT p o],[(T9 c p o)],0,0,false⟩) (wk:=11) (q:=8) G I G G)) (α:=CS) (λ_=>[(8,.ptr 8 0)]) (λT=>[wbx c.fl c.nn true c.br 1 2 3,smO c.ms,emO c.me,l8 c.br.length,.dead,.dead,.dead,seO T.V,cbx T 0 7 12 13,.dead,.dead,.dead,l8 T.K.length,wkO T]) (λT=>CI c p o T) (λT=>c.me.length -T.i) ⟨⟨[kyT p o],[(T9 c p o)],0,0,false⟩,[0,1,2,3,4,5,6,7,8,9,10,11,12,13],CI.zero cX,⟨G,G⟩,ut_,⟨.inr ⟨_,G,.same G a2D⟩,.inr ⟨_,G,.same G W5⟩,.inr ⟨_,G,.same G X2⟩,.inr ⟨_,G,.same G B0⟩,.inl G,.inl G,.inl G,.inr ⟨_,G,.same G (a0t _ _)⟩,.inr ⟨_,G,.box ⟨.same G (.ptr I),B5.grow (f:=Ky.cv) (λ_=>⟨.val _,.val _,.val _,O⟩) G,.same G (.map I),.vec G,.old (.val _),O⟩⟩,.inl G,.inl G,.inl G,.inr ⟨_,G,.same G B0⟩,.inr ⟨_,G,.same G (a0o _ _)⟩,O⟩⟩ ?_;intro T hT;have hTl:=hT.len;have hTj:=hT.j;refine F7 ?_;refine a2a ?_;refine d1N ?_;refine cY (a0R G O G a1C G G) ?_;refine b94 ?_;refine cC ?_ ?_<;>intro h2
  .have ai:T.i <T.V.length:=sm_ h2;obtain⟨v,hv⟩:∃v,T.V[T.i]?=some v:=⟨T.V[T.i]'ai,Q⟩;obtain⟨s,d,fc,ff,jd,ii⟩:=(hT.good v (n_3 hv)).decl hc;have bT:(T.V.drop T.j)[T.i -T.j]?=some v:=by rw[a7O,Nat.add_sub_cancel' hTj];exact hv
   have dH:=hT.kl;refine A8 (a1Z ?_);refine a2a ?_;refine d1N ?_;refine cY (Z0 G O G G G a1C t_6 G J J) ?_;refine cY (a08 G O G b1e t_6 G (a6y (j8 bT) J) (nb G)) ?_;refine cD (j6 G a0z G i9 ?_);refine c86 ?_;refine b6S ?_;refine d1N ?_;refine cY (H6 (l:=1) G O G a1C t_6 G ⟨G,_,_,G,J,J⟩ G a1w G5) ?_;refine cY a14 ?_;refine cY c1M ?_;refine cD (i0 G O O G j1 c2w (.inl G) G G (nb G) ?_);refine o7 ?_;refine a5K ?_;refine cY a3h ?_;refine A1 ((λa b=>[wbx c.fl c.nn true c.br 1 2 3,smO c.ms,emO c.me,l8 c.br.length,.dead,.dead,.dead,seO T.V,.box [.ptr 0 0,.list (T.K.map Ky.cv) (gnn T.K.length) (D6 T.K.length 12),.map 7,.vec 13 a b,.val (.bool T.rn)],.dead,.dead,.dead,l8 T.K.length,wkO T,.box v.cells]) (T.i+1-T.j) (T.V.length - (T.i+1))) (congr (n_7 (λa b=>[wbx c.fl c.nn true c.br 1 2 3,smO c.ms,emO c.me,l8 c.br.length,.dead,.dead,.dead,seO T.V,.box [.ptr 0 0,.list (T.K.map Ky.cv) (gnn T.K.length) (D6 T.K.length 12),.map 7,.vec 13 a b,.val (.bool T.rn)],.dead,.dead,.dead,l8 T.K.length,wkO T,.box v.cells]) (show T.i -T.j+1=T.i+1-T.j by omega)) (show T.V.length -T.i -1=T.V.length - (T.i+1) by omega)) ?_;refine de G Tryz.call84 j2 (c7e c {T with i:=T.i+1} v s d fc ff (jd.dec d ii).blen jd.impl dr do_ ai do_ do_) rfl ?_;intro j hj;refine o7 ?_;exact⟨⟨T.K++a1u c s d,R6 T.V (a1p c s d),T.i+1,j,T.rn ||a16 d⟩,[0,1,2,3,4,5,6,7,8,9,10,11,15,16],⟨do_,hT.step hc hv ff jd ii hj⟩,⟨G,G⟩,ut_,⟨.inr ⟨_,G,.same G a2D⟩,.inr ⟨_,G,.same G W5⟩,.inr ⟨_,G,.same G X2⟩,.inr ⟨_,G,.same G B0⟩,.inl G,.inl G,.inl G,.inr ⟨_,G,.same G (a0t _ _)⟩,.inr ⟨_,G,.box ⟨.same G (.ptr I),B5.grow (f:=Ky.cv) (λ_=>⟨.val _,.val _,.val _,O⟩) G,.same G (.map I),.vec G,.old (.val _),O⟩⟩,.inl G,.inl G,.inl G,.inr ⟨_,G,.same G B0⟩,.inr ⟨_,G,.same G (a0o _ _)⟩,O⟩⟩
  .have aL:T.V.length<=T.i:=sm_ h2;have hP:=hT.done aL bO;refine o6 (F7 ?_);refine cW 12 ?_;refine a2S ?_;refine hY b70 ?_;refine hY c2o ?_;refine hY (c5 G Tryz.call85 ⟨O,O⟩ (e0c T.K (by have:=hP.len;omega) _) G) ?_;refine a2S ?_;refine hY d2u ?_;refine hY (l9 G O G b9B G G) ?_;refine b7a ?_;refine hY b01 ?_;refine a8N ?_;refine c6 ?_;exact⟨_,o9 (rs:=[.tmp 4,.tmp 5,.tmp 6]) (cs:=[_,_,_]) G ⟨⟨O,G⟩,⟨O,G⟩,⟨O,G⟩,O⟩ (n_5 G),⟨(T.K,T.rn),.ret (.tups ⟨.old (D1 _ _).old,.old (.val _),.old (.val _),O⟩),b1A _,n_6 _,hP⟩⟩
theorem d6X(c:MC)(hc:McG c)(dr:c.fl.length<=1000000)(bO:c.me.length<=10000)(p o:D)(cX:(T9 c p o).ct=1){w q1 q2:Nat}(aw:WAt σ w q1 q2 t c.fl c.nn true c.br c.ms c.me):b8 CC 40 [.ptr w 0,.agg [sv p,sv o]] σ λr τ=>∃x:List Ky×Bool,r= .ret (b43 x.1 x.2)/\τ=σ/\a1n c p o x.1 x.2 :=
 a2f [w,q1,q2,t] hCC G aw.nd (b8g aw) (.cons (.ptr G) (G7 λa h=>by simp at h;subst h;exact j5 ⟨.val _,.val _,O⟩)) (c:=λx:List Ky×Bool=>b43 x.1 x.2) (P:=λx=>a1n c p o x.1 x.2) (λ_ _=>b3i _ _)
  (K9 (S:=λ_=>(wst c.fl c.nn true c.br c.ms c.me)) (res:=λx:List Ky×Bool=>.ret (b43 x.1 x.2)) (P:=λx=>a1n c p o x.1 x.2) hCC (d9p c hc dr bO p o cX))
theorem b8u(fl:List Fi)(nn:Bool)(ev:List Va)(en:Bool)(wd:Int)(hl:∀f∈fl,f.p.length<=1000000000)(hv:B4 fl=0)(hm:fl.length<=1000000)(hc:McG (mcR fl nn ev en wd))(bO:(w8 fl).2.2.length<=10000)(p o:D)(cX:(T9 (mcR fl nn ev en wd) p o).ct=1):b8 CC 13 [.agg (A0 fl nn),.agg [sv p,sv o]] [] λr τ=>∃x:List Ky×Bool,X0 0 τ r (.ret (b43 x.1 x.2))/\a1n (mcR fl nn ev en wd) p o x.1 x.2:=by
 have hv0:(B4 fl == 0)=true:=by rw[hv];rfl
 refine qO Tryz.func13 ?_;refine a9N ?_;refine qD (c4 G c75 ⟨O,O⟩ (b5b fl nn hl _) G ?_);intro _ _;refine qC ?_ ?_<;>intro h1
 .exfalso;simp[hv]at h1
 .refine qD (c4 G Tryz.call40 j2 (d6X (mcR fl nn ev en wd) hc hm bO p o cX (w:=2) (q1:=3) (q2:=4) (t:=5) ⟨by rw[hv0];rfl,G,G,G,a2c ⟨I,I,I,I,I,I⟩⟩) G ?_);intro⟨K,rn⟩ hP;dsimp only at hP⊢;refine c6 ?_;exact⟨_,o9 (rs:=[.tmp 4,.tmp 5,.tmp 6]) (cs:=[_,_,_]) G ⟨⟨O,G⟩,⟨O,G⟩,⟨O,G⟩,O⟩ (n_5 G),⟨(K,rn),.ret (.tups ⟨.old (D1 _ _).old,.old (.val _),.old (.val _),O⟩),hP⟩⟩
theorem b1Q(fl:List Fi)(nn:Bool)(ev:List Va)(en:Bool)(wd:Int)(hl:∀f∈fl,f.p.length<=1000000000)(hv:B4 fl=0)(hm:fl.length<=1000000)(hc:McG (mcR fl nn ev en wd))(bO:(w8 fl).2.2.length<=10000)(p o:D)(cX:(T9 (mcR fl nn ev en wd) p o).ct=1)(σ:List b9):b8 CC 13 [.agg (A0 fl nn),.agg [sv p,sv o]] σ λr τ=>∃x:List Ky×Bool,r= .ret (b43 x.1 x.2)/\τ=σ/\a1n (mcR fl nn ev en wd) p o x.1 x.2 :=
 F8 (res:=λx:List Ky×Bool=>.ret (b43 x.1 x.2)) (P:=λx=>a1n (mcR fl nn ev en wd) p o x.1 x.2) hCC (λa h=>by
  simp at h
  rcases h with rfl|rfl
  .exact j5 (cs:=A0 _ _) ⟨F5 _ _,O⟩
  .exact j5 ⟨.val _,.val _,O⟩) (b8u fl nn ev en wd hl hv hm hc bO p o cX) (λ_ _=>b3i _ _) σ
theorem c0z(va:Bool)(me:EM)(name:D)(L:List D):o8 (a3X va me name L):=D3 (cs:=[_,_,_]) ⟨En.pure _,.list λr hr c hc=>by
 obtain⟨k,_,rfl⟩:=D8.1 hr;exact(a1a k).all c hc,.val _,O⟩
def nmC(x:D×D):List CV:=[sv x.1,sv x.2]
theorem a2T(x:D×D):N8 (nmC x):=⟨.val _,.val _,O⟩
def b0m(fl:List Fi)(x:D×D):Prop:=(p8 true (w8 fl).2.2 2 x.1 x.2).ct=1/\N9 (kyT x.1 x.2)=true
theorem d3g{e:En}(h0:B4 fl=0)(h:EnP (o4 fl) e)(hk:e.k=2)(hc:e.ct=1):b0m fl (e.p,e.o):=by
 obtain⟨q,hq⟩:=c4j h;have h1:=hq.key;have h2:=hq.cf [] fl h0;have h3:=hq.ct;have ek:c5n e=kyT e.p e.o:=by unfold c5n kyT;rw[H (by rw[hk];decide),hk]
 rw[ek]at h1 h2;refine⟨?_,h1⟩;have h4:a8V (w8 fl).2.1 (p8 true (w8 fl).2.2 2 e.p e.o)=d0P (occ q fl):=h2;have hl:(occ q fl).length=1:=by omega
 obtain⟨y,hy⟩:∃y,occ q fl=[y]:=by
  match dN:occ q fl,hl with
  | [y],_=>exact⟨y,G⟩
 rw[hy]at h4;unfold a8V at h4;show(p8 true (w8 fl).2.2 2 e.p e.o).ct=1;by_cases a:(p8 true (w8 fl).2.2 2 e.p e.o).ct=0
 .rw [W a]at h4;exact absurd h4 (by simp[d0P])
 .rw [H a]at h4;by_cases b:(p8 true (w8 fl).2.2 2 e.p e.o).ct=1
  .exact b
  .rw [H b]at h4;exact absurd h4 (by simp[d0P])
theorem c4w(l:List Fi)(nn:Bool)(hl:l.length<=1000000)(hp:∀f∈l,f.p.length<=1000000000)(hbl:∀q b,r8 l q=some b->b.length<=1000000000)(hd:B4 l=0->∀f∈l,r8 l f.p=some f.b)(hLD:B4 l=0->(o4 l).length<=1000/\∀x∈o4 l,x.2.decls.length<=100000)(h0:B4 l=0):b8 CC 11 [.agg (A0 l nn)] [] λr τ=>∃aq:List (D×D),C9 0 τ r (.ret (.list (aq.map nmC) (gnn aq.length) none)) []/\((∀x∈aq,b0m l x)/\aq.length<=100000000):=by
 refine qO Tryz.func11 ?_;refine qD (F4 G O j1 i9 ?_);refine qD (c4 G Tryz.call37 ⟨O,O⟩ (b86 l nn hl hp hbl hd hLD _) G ?_);intro es hes;obtain⟨hes,gS⟩:=hes h0;refine u c4a ?_;refine B3 hCC 1 G (α:=Nat×List (D×D)) (λa=>[(3,(.list (a.2.map nmC) (gnn a.2.length) (D6 a.2.length 1))),(7,(.list (es.map En.cells) (gnn es.length) none)),(8,iv es.length),(9,iv a.1)]) (λa=>[.box (A0 l nn),l8 a.2.length]) (λa=>a.1<=es.length/\a.2.length<=a.1/\∀x∈a.2,b0m l x) (λa=>es.length -a.1) ⟨(0,[]),[0,9],⟨n_4 _,n_6 _,λ_ h=>by cases h⟩,⟨G,G⟩,⟨d4G,d4G,d4G,d4G,O⟩,uq_⟩ ?_;intro⟨i,aq⟩ ⟨hi,hol,ho⟩;dsimp only at hi hol ho⊢;refine qk (qC ?_ ?_)<;> intro h1
 .have ai:i<es.length:=sm_ h1;obtain⟨e,hb⟩:∃e,es[i]?=some e:=⟨es[i]'ai,Q⟩;have hE:=hes e (n_3 hb);refine d8u ?_;refine qG c1V ?_;refine qG a7N ?_;refine a2P ?_;refine qC ?_ ?_<;>intro h2
  .have hk:e.k=2/\e.ct=1:=U h2;have hT:=d3g h0 hE hk.1 hk.2;refine u e2A ?_;refine u (A6 [nmC (e.p,e.o)] G ⟨O,O⟩ b0y a9y b2r G G G G G G G G G) ?_;refine qD (B6 G O O G Q q_3 b0y a9y c7c b2r G (.inr G) q_8 d1l E9 ((aq++[(e.p,e.o)]).map nmC) (aq++[(e.p,e.o)]).length Q Q ?_);refine u o3 ?_;exact⟨(i+1,aq++[(e.p,e.o)]),[0,3],⟨do_,do_,by simp;omega,λx hx=>by rcases Q9.1 hx with hx|hx;exact ho x hx;simp at hx;subst hx;exact hT⟩,⟨G,G⟩,ut_,uq_⟩
  .refine u o3 ?_;exact⟨(i+1,aq),[0,1],⟨do_,do_,do_,ho⟩,⟨G,G⟩,ut_,uq_⟩
 .refine V5 ?_;exact⟨_,rE1,⟨aq,⟨[],G,G,.ret (V4 (f:=nmC) a2T _),O⟩,ho,J⟩⟩
theorem c9g(l:List Fi)(nn:Bool)(hl:l.length<=1000000)(hp:∀f∈l,f.p.length<=1000000000)(hbl:∀q b,r8 l q=some b->b.length<=1000000000)(hd:B4 l=0->∀f∈l,r8 l f.p=some f.b)(hLD:B4 l=0->(o4 l).length<=1000/\∀x∈o4 l,x.2.decls.length<=100000)(h0:B4 l=0)(σ:List b9):b8 CC 11 [.agg (A0 l nn)] σ λr τ=>∃aq:List (D×D),r= .ret (.list (aq.map nmC) (gnn aq.length) none)/\τ=σ/\((∀x∈aq,b0m l x)/\aq.length<=100000000):=
 (a6w (res:=λaq:List (D×D)=>.ret (.list (aq.map nmC) (gnn aq.length) none)) (res':=λaq _=>.ret (.list (aq.map nmC) (gnn aq.length) none)) (S:=λ_=>[]) (S':=λ_ _=>[]) hCC (λc h=>by simp at h;subst h;exact j5 ⟨F5 _ _,O⟩) (D7 hCC ((c4w l nn hl hp hbl hd hLD h0).mono λr τ ⟨a,h1,h2⟩=>⟨_,_,h1,a,G,G,h2⟩)) (λ_ _=>G) (λa n i x hx=>by cases hx) (λa n=>.ret (.pure (I6 (f:=nmC) a2T _ _))) σ).mono λr τ ⟨a,h1,h2,h3⟩=>⟨a,h1,h2.trans (a0h _),h3⟩
theorem b5w{g:FuncId}{caps:List CV}{p:Ky->Bool}(l:List Ky)(nn:Bool)(hl:l.length<=1000000000)(hg:∀args w,(callFunc g args).run CC.P w= .ok (.enter g args) w)(Jg:∀x∈l,b8 CC g ([.agg x.cells]++caps) σ λr ae=>r= .ret (.val (.bool (p x)))/\ae=σ):b8 CC 96 [(.list (l.map Ky.cv) nn none),.clo g caps] σ λr ae=>r= .ret (iv (ixP p l 0))/\ae=σ:=by
 refine qO Tryz.func96 ?_;refine u a7K ?_;refine L6 (α:=Nat) (λi=>[(0,(.list (l.map Ky.cv) nn none)),(1,(.clo g caps)),(7,iv l.length),(8,iv i)]) (λ_=>σ) (λi=>i<=l.length/\ixP p l 0=ixP p (l.drop i) i) (λi=>l.length -i) 0 ⟨n_4 _,G⟩ tu_ G ?_;intro i E0 ⟨hi,hr⟩;refine qk (qC ?_ ?_)<;> intro h1
 .have ai:(i:Int)<l.length:=U h1;obtain⟨y,hb⟩:=gx_ l i;rw[a6G hb]at hr;refine u c26 ?_;refine u c8p ?_;refine qC ?_ ?_<;>intro h2
  .have hx:p y=true:=U h2;rw[W hx]at hr;exact d8r
  .have hx:¬p y=true:=U h2;rw[H hx]at hr;exact d7O
 .have aL:i=l.length:=by
   have:¬(i:Int)<l.length:=U h1;omega
  refine V5 ?_;exact⟨_,rE1,c6s⟩
theorem a33{g:FuncId}{caps:List CV}{p:Ky->Bool}(l:List Ky)(nn:Bool)(hl:l.length<=1000000000)(hg:∀args w,(callFunc g args).run CC.P w= .ok (.enter g args) w)(Jg:∀x∈l,b8 CC g ([.agg x.cells]++caps) σ λr ae=>r= .ret (.val (.bool (p x)))/\ae=σ):b8 CC 62 [(.list (l.map Ky.cv) nn none),.clo g caps] σ λr ae=>r= .ret (.val (.bool (l.any p)))/\ae=σ:=by
 refine qO Tryz.func62 ?_;refine u (c5 G Tryz.call96 j2 (b5w l nn hl hg Jg) G) ?_;exact d7A
theorem c4s(k:Ky)(hk:k.a.length<=1000000000/\k.b.length<=1000000000)(σ:List b9):b8 CC 63 [.agg k.cells] σ λr ae=>r= .ret (.val (.bool (!N9 k)))/\ae=σ:=by
 refine b8.anyw hCC pu_ pu_ (c9 (qO Tryz.func63 ?_)) σ;refine qD (F4 G O j1 i9 ?_);refine u (c5 G Tryz.call64 ⟨O,O⟩ (c05 k hk.1 hk.2 _) G) ?_;exact d3r
theorem d1X(ks:List Ky)(kn:Bool)(hl:ks.length<=1000000000)(k:Ky):b8 CC 65 [.agg k.cells,.ptr 0 0] [.box [(.list (ks.map Ky.cv) kn none)]] λr τ=>∃_:Unit,X0 1 τ r (.ret (.val (.bool (ks.any λx=>x == k))))/\a4o 1 τ τ [.box [(.list (ks.map Ky.cv) kn none)]]/\1<=1/\True:=by
 refine qO Tryz.func65 ?_;refine qD (F4 G O j1 i9 ?_);refine u a7K ?_;refine u0 hCC (α:=Nat) (λi=>[(2,.ptr 1 0),(6,(.list (ks.map Ky.cv) kn none)),(7,iv ks.length),(8,iv i)]) (λ_=>[.box [(.list (ks.map Ky.cv) kn none)],.box k.cells]) (λi=>i<=ks.length/\(ks.any λx=>x == k)=((ks.drop i).any λx=>x == k)) (λi=>ks.length -i) 0 ⟨n_4 _,G⟩ tu_ (au:=[]) G D5 uz_ ?_;intro i ⟨hi,hr⟩;refine qk (qC ?_ ?_)<;> intro h1
 .have ai:i<ks.length:=sm_ h1;obtain⟨y,hb⟩:∃y,ks[i]?=some y:=⟨ks[i]'ai,Q⟩;rw[c33 hb,List.any_cons]at hr;refine u c26 ?_;refine d9P ?_;refine u (a5W G O O (xs:=[.int .i64 y.k,.string (str y.a),.string (str y.b)]) (ys:=[.int .i64 k.k,.string (str k.a),.string (str k.b)]) G G c48 (b3m y k)) ?_;refine qC ?_ ?_<;>intro h2
  .have hy:y=k:=U h2;rw[show(y == k)=true by simp[hy],Bool.true_or]at hr;refine c6 ?_;exact⟨_,I8 G O G,⟨(),(by rw[hr];exact .ret (.old (.val _))),⟨.same (x9 ⟨(D1 _ _).old,O⟩),(by trivial)⟩,n_6 _,O⟩⟩
  .have hy:¬y=k:=U h2;rw[show(y == k)=false by simp[hy],Bool.false_or]at hr;exact b2d
 .have aL:i=ks.length:=sm_ h1;rw[aL,b5P]at hr;refine V5 ?_;exact⟨_,I8 G O G,⟨(),(by rw[hr];exact .ret (.old (.val _))),⟨.same (x9 ⟨(D1 _ _).old,O⟩),(by trivial)⟩,n_6 _,O⟩⟩
theorem d4Z(ks:List Ky)(kn:Bool)(hl:ks.length<=1000000000)(k:Ky)(hq:σ[q]?=some (.box [(.list (ks.map Ky.cv) kn none)])):b8 CC 65 ([.agg k.cells]++[.ptr q 0]) σ λr τ=>r= .ret (.val (.bool (ks.any λx=>x == k)))/\τ=σ:=
 a6C hCC (show a2I (.box [(.list (ks.map Ky.cv) kn none)])from λc hc=>by simp at hc;subst hc;exact D1 _ _) (.val _) hq (.cons (.pure (j5 ⟨.val _,.val _,.val _,O⟩)) (.cons (.ptr G) .nil)) (d1X ks kn hl k)
theorem c4Z(fl:List Fi)(nn:Bool)(hl:∀f∈fl,f.p.length<=1000000000)(bO:(w8 fl).2.2.length<=10000):b8 CC 66 [.agg (A0 fl nn)] [] λr τ=>∃ts:List (D×D),X0 0 τ r (.ret (.list (ts.map nmC) (gnn ts.length) none))/\TsP (w8 fl).2.2 ts/\ts.length<=10000:=by
 refine qO Tryz.func66 ?_;refine qD (F4 G O j1 i9 ?_);refine qD (c4 G Tryz.call97 ⟨O,O⟩ (b7l fl nn hl bO _) G ?_);intro m ⟨hp,hs⟩;have hml:m.length<=10000:=by rw[hp.length_eq,N0];exact bO
 refine u c4a ?_;refine B3 hCC 1 G (α:=Nat×List (D×D)) (λa=>[(3,(.list (a.2.map nmC) (gnn a.2.length) (D6 a.2.length 1))),(7,(.list (m.map En.cells) (gnn m.length) none)),(8,iv m.length),(9,iv a.1)]) (λa=>[.box (A0 fl nn),l8 a.2.length]) (λa=>a.1<=m.length/\a.2=tsL (m.take a.1)) (λa=>m.length -a.1) ⟨(0,[]),[0,9],⟨n_4 _,G⟩,⟨G,G⟩,⟨a5V,a5V,a5V,a5V,O⟩,uq_⟩ ?_;intro⟨i,aq⟩ ⟨hi,ho⟩;dsimp only at hi ho⊢;have hol:aq.length<=i:=by rw[ho];unfold tsL;rw[N0];exact a1F (b7p _ _) b8O
 refine qk (qC ?_ ?_)<;> intro h1
 .have ai:i<m.length:=sm_ h1;obtain⟨y,hb⟩:∃y,m[i]?=some y:=⟨m[i]'ai,Q⟩;have aG:tsL (m.take (i+1))=aq++(if tsB y=true then [(y.p,y.o)]else []):=by
   unfold tsL at ho⊢;rw[a3a,hb,List.filter_append,a8o,<- ho];show aq++(List.filter tsB [y]).map _=_;by_cases hy:tsB y=true
   .rw [c3m hy,W hy];rfl
   .rw [c7C hy,H hy];rfl
  refine d8u ?_;refine qG c1V ?_;refine qG a7N ?_;refine a2P ?_;refine qC ?_ ?_<;>intro h2
  .have ht:tsB y=true:=by simpa[tsB]using h2
   rw[W ht]at aG;refine u e2A ?_;refine u (A6 [nmC (y.p,y.o)] G ⟨O,O⟩ b0y a9y b2r G G G G G G G G G) ?_;refine qD (B6 G O O G Q q_3 b0y a9y c7c b2r G (.inr G) q_8 d1l E9 ((aq++[(y.p,y.o)]).map nmC) (aq++[(y.p,y.o)]).length Q Q ?_);refine u o3 ?_;exact⟨(i+1,aq++[(y.p,y.o)]),[0,3],⟨do_,do_,by dsimp only;exact aG.symm⟩,⟨G,G⟩,ut_,uq_⟩
  .have ht:¬tsB y=true:=by intro hh;simp[tsB]at hh;simp[hh]at h2
   rw[H ht,a0h]at aG;refine u o3 ?_;exact⟨(i+1,aq),[0,1],⟨do_,do_,by dsimp only;exact aG.symm⟩,⟨G,G⟩,ut_,uq_⟩
 .have fM:i=m.length:=sm_ h1;rw[fM,a2p (n_6 _)]at ho;subst ho;refine V5 ?_;exact⟨_,I8 G O G,⟨tsL m,.ret (V7 (λr hr=>by obtain⟨x,_,rfl⟩:=D8.1 hr;exact a2T x)),e0U (c2J fl) hp hs,J⟩⟩
theorem a7W(l:List (D×D))(nn:Bool):o8 (.list (l.map nmC) nn none):=I6 (f:=nmC) a2T l nn
theorem d2w(fl:List Fi)(nn:Bool)(hl:∀f∈fl,f.p.length<=1000000000)(bO:(w8 fl).2.2.length<=10000)(σ:List b9):b8 CC 66 [.agg (A0 fl nn)] σ λr τ=>∃ts:List (D×D),r= .ret (.list (ts.map nmC) (gnn ts.length) none)/\τ=σ/\TsP (w8 fl).2.2 ts/\ts.length<=10000:=
 F8 (res:=λts:List (D×D)=>.ret (.list (ts.map nmC) (gnn ts.length) none)) (P:=λts=>TsP (w8 fl).2.2 ts/\ts.length<=10000) hCC (λa h=>by simp at h;subst h;exact j5 (cs:=A0 _ _) ⟨F5 _ _,O⟩) (c4Z fl nn hl bO) (λ_ _=>a7W _ _) σ
open Classical in
noncomputable def clK(c:MC)(x:D×D):List Ky:=if h:∃K:List Ky,∃rn,a1n c x.1 x.2 K rn then Z8 h.choose else []
theorem d1G{c:MC}{x:D×D}{K:List Ky}(h:a1n c x.1 x.2 K rn):clK c x=Z8 K:=by
 have hex:∃K:List Ky,∃rn,a1n c x.1 x.2 K rn:=⟨K,rn,h⟩;unfold clK;rw[dif_pos hex];obtain⟨rn',h'⟩:=hex.choose_spec;exact(h'.uniq h).1
noncomputable def a4E(c:MC)(ks:List Ky)(x:D×D):Bool:=(clK c x).any λk=>ks.any λq=>q == k
theorem b15(fl:List Fi)(nn:Bool)(ev:List Va)(en:Bool)(wd:Int)(hl:∀f∈fl,f.p.length<=1000000000)(hv:B4 fl=0)(hm:fl.length<=1000000)(hc:McG (mcR fl nn ev en wd))(bO:(w8 fl).2.2.length<=10000)(ks:List Ky)(kn:Bool)(dH:ks.length<=1000000000)(bi:∀k∈ks,N9 k=true):b8 CC 19 [.agg (A0 fl nn),(.list (ks.map Ky.cv) kn none)] [] λr τ=>∃ts:List (D×D),X0 0 τ r (.ret (.tup [.list ((ts.filter (a4E (mcR fl nn ev en wd) ks)).map nmC) (gnn (ts.filter (a4E (mcR fl nn ev en wd) ks)).length) none,iv 0]))/\TsP (w8 fl).2.2 ts:=by
 have hv0:(B4 fl == 0)=true:=by rw[hv];rfl
 refine qO Tryz.func19 ?_;refine d1A ?_;refine qD (c4 G c75 ⟨O,O⟩ (b5b fl nn hl _) G ?_);intro _ _;refine qG (λhg=>l9 G O G d0L G G) ?_;refine qG (λhg=>c5 G Tryz.call62 ⟨hg,O,O⟩ (b0G (a33 (caps:=[]) (p:=λk=>!N9 k) ks kn dH Tryz.call63 λk hk=>c4s k (by have:=b6Y (bi k hk);omega) _)) G) ?_;refine u S4 ?_;refine cC ?_ ?_<;>intro h1
 .exfalso;rw[hv0]at h1;simp at h1;obtain⟨k,hk,hb⟩:=h1;rw[bi k hk]at hb;cases hb
 .refine qk (u (a3f G ⟨O,O⟩) ?_);refine qD (c4 G Tryz.call66 ⟨O,O⟩ (d2w fl nn hl bO _) G ?_);intro ts ⟨hts,htl⟩;refine u (Z3 G O G b0y a7l G) ?_;refine B3 hCC 6 G (α:=Nat×List (D×D)) (λa=>[(6,.ptr 2 0),(7,(.clo 65 [.ptr 1 0])),(8,(.list (a.2.map nmC) (gnn a.2.length) (D6 a.2.length 6))),(27,(.list (ts.map nmC) (gnn ts.length) none)),(28,iv ts.length),(29,iv a.1)]) (λa=>[.box (A0 fl nn),.box [(.list (ks.map Ky.cv) kn none)],wbx fl nn (B4 fl == 0) (w8 fl).1 3 4 5,smO (w8 fl).2.1,emO (w8 fl).2.2,l8 (w8 fl).1.length,l8 a.2.length]) (λa=>a.1<=ts.length/\a.2=(ts.take a.1).filter (a4E (mcR fl nn ev en wd) ks)) (λa=>ts.length -a.1) ⟨(0,[]),[0,1,2,3,4,5,9],⟨n_4 _,G⟩,⟨G,G⟩,⟨a5V,a5V,a5V,a5V,a5V,a5V,O⟩,uq_⟩ ?_;intro⟨i,aq⟩ ⟨hi,ho⟩;dsimp only at hi ho⊢;have hol:aq.length<=i:=by rw[ho];exact a1F (b7p _ _) b8O
  refine qk (qC ?_ ?_)<;> intro h2
  .have ai:i<ts.length:=sm_ h2;obtain⟨x,hb⟩:∃x,ts[i]?=some x:=⟨ts[i]'ai,Q⟩;have cX:(T9 (mcR fl nn ev en wd) x.1 x.2).ct=1:=(hts.mem x).1 (n_3 hb);have aG:(ts.take (i+1)).filter (a4E (mcR fl nn ev en wd) ks)=aq++(if a4E (mcR fl nn ev en wd) ks x=true then [x]else []):=by
    rw[a3a,hb,List.filter_append,<- ho];show aq++List.filter _ [x]=_;by_cases hy:a4E (mcR fl nn ev en wd) ks x=true
    .rw [c3m hy,W hy];rfl
    .rw [c7C hy,H hy];rfl
   refine u (A4 G O O G G b0y a9y J (j8 hb) G) ?_;refine qD (j6 G b2r G i9 ?_);refine qD (i0 G O O G j1 a9y i9 G G (nb G) ?_);refine qD (c4 G Tryz.call40 j2 (d6X (mcR fl nn ev en wd) hc hm bO x.1 x.2 cX (w:=2) (q1:=3) (q2:=4) (t:=5) ⟨by rw[hv0];rfl,G,G,G,a2c ⟨I,I,I,I,I,I⟩⟩) G ?_);intro⟨K,rn⟩ hP;dsimp only at hP⊢;have hK:=d1G hP;have hKl:=a1F (b6W K) hP.len;refine u (c5 G Tryz.call62 j2 (a33 (caps:=[.ptr 1 0]) (p:=λk=>ks.any λq=>q == k) (Z8 K) _ J Tryz.call65 λk hk=>d4Z ks kn dH k G) G) ?_;refine qC ?_ ?_<;>intro h3
   .have ha:a4E (mcR fl nn ev en wd) ks x=true:=by unfold a4E;rw[hK];simpa using h3
    rw[W ha]at aG;refine u (A6 [nmC x] G ⟨O,O⟩ b0y a9y b2r G G G G G G G G G) ?_;refine qD (B6 G O O G Q q_3 b0y a9y c7c b2r G (.inr G) q_8 d1l E9 ((aq++[x]).map nmC) (aq++[x]).length Q Q ?_);refine u o3 ?_;exact⟨(i+1,aq++[x]),[0,1,2,3,4,5,8],⟨do_,do_,by dsimp only;exact aG.symm⟩,⟨G,G⟩,ut_,uq_⟩
   .have ha:¬a4E (mcR fl nn ev en wd) ks x=true:=by unfold a4E;rw[hK];simpa using h3
    rw[H ha,a0h]at aG;refine u o3 ?_;exact⟨(i+1,aq),[0,1,2,3,4,5,6],⟨do_,do_,by dsimp only;exact aG.symm⟩,⟨G,G⟩,ut_,uq_⟩
  .have fM:i=ts.length:=sm_ h2;rw[fM,a2p (n_6 _)]at ho;subst ho;refine V5 ?_;exact⟨_,o9 (rs:=[.tmp 4,.tmp 5]) (cs:=[_,_]) G ⟨⟨O,G⟩,⟨O,G⟩,O⟩ (n_5 G),⟨ts,.ret (.tups ⟨V7 (λr hr=>by obtain⟨x,_,rfl⟩:=D8.1 hr;exact a2T x),.old (.val _),O⟩),hts⟩⟩
theorem b2s(fl:List Fi)(nn:Bool)(ev:List Va)(en:Bool)(wd:Int)(hl:∀f∈fl,f.p.length<=1000000000)(hv:B4 fl=0)(hm:fl.length<=1000000)(hc:McG (mcR fl nn ev en wd))(bO:(w8 fl).2.2.length<=10000)(ks:List Ky)(kn:Bool)(dH:ks.length<=1000000000)(bi:∀k∈ks,N9 k=true)(σ:List b9):b8 CC 19 [.agg (A0 fl nn),(.list (ks.map Ky.cv) kn none)] σ λr τ=>∃ts:List (D×D),r= .ret (.tup [.list ((ts.filter (a4E (mcR fl nn ev en wd) ks)).map nmC) (gnn (ts.filter (a4E (mcR fl nn ev en wd) ks)).length) none,iv 0])/\τ=σ/\TsP (w8 fl).2.2 ts:=
 F8 (res:=λts:List (D×D)=>.ret (.tup [.list ((ts.filter (a4E (mcR fl nn ev en wd) ks)).map nmC) (gnn (ts.filter (a4E (mcR fl nn ev en wd) ks)).length) none,iv 0])) (P:=λts=>TsP (w8 fl).2.2 ts) hCC (λa h=>by
  simp at h
  rcases h with rfl|rfl
  .exact j5 (cs:=A0 _ _) ⟨F5 _ _,O⟩
  .exact D1 _ _) (b15 fl nn ev en wd hl hv hm hc bO ks kn dH bi) (λ_ _=>D3 (cs:=[_,_]) ⟨a7W _ _,.val _,O⟩) σ
def aw7:List Fi:=[⟨[97,46,115,114,99],[112,97,99,107,97,103,101,32,112,59,32,102,117,110,99,32,102,40,120,41,32,61,32,120,59,32,116,101,115,116,32,116,32,61,32,105,102,32,48,32,116,104,101,110,32,102,40,101,110,118,40,34,110,34,41,41,32,101,108,115,101,32,102,108,105,112,40,48,41,59]⟩]
noncomputable abbrev a3B:MC:=mcR aw7 true [] false 0
def a6q:De:=⟨1,[102],[[120]],[⟨2,0,0,[],[]⟩]⟩
def a6F:De:=⟨2,[116],[],[⟨1,0,0,[],[]⟩,⟨9,0,0,[110],[]⟩,⟨3,0,0,[102],[1]⟩,⟨10,0,0,[],[]⟩,⟨5,0,0,[],[0,2,3]⟩]⟩
def a2i:Src:=⟨[112],[],[a6q,a6F]⟩
def b0D:EM:=[(⟨1,[112],[102]⟩,(⟨[112],[102],1,[97,46,115,114,99],0,1⟩:En)),(⟨2,[112],[116]⟩,(⟨[112],[116],2,[97,46,115,114,99],1,1⟩:En))]
def e2y:List Ky:=[⟨2,[112],[116]⟩,⟨1,[112],[102]⟩,⟨5,[110],[]⟩]
def d2Z:List Ky:=[⟨1,[112],[102]⟩,⟨2,[112],[116]⟩,⟨5,[110],[]⟩]
theorem a8s:B4 aw7=0:=by kernel_rfl
theorem d6W:(w8 aw7).2=([([97,46,115,114,99],a2i)],b0D):=by kernel_rfl
theorem c6S:a3B.ms=[([97,46,115,114,99],a2i)]:=n_7 Prod.fst d6W
theorem a71:(w8 aw7).2.2=b0D:=n_7 Prod.snd d6W
theorem b7S:McG a3B where
 w:=c3M a8s
 k:=c7A a8s
 ev:=⟨n_4 _,λv hv=>by cases hv⟩
 wd:=⟨a5E _,I⟩
theorem d7x:T9 a3B [112] [116]=(⟨[112],[116],2,[97,46,115,114,99],1,1⟩:En):=by
 unfold T9 p8;rw[W G,show a3B.me=b0D from a71];rfl
theorem c7v:D2 a3B (⟨[112],[116],2,[97,46,115,114,99],1,1⟩:En)=some (a2i,a6F):=by unfold D2;rw[c6S];rfl
theorem d8Z:D2 a3B (⟨[112],[102],1,[97,46,115,114,99],0,1⟩:En)=some (a2i,a6q):=by unfold D2;rw[c6S];rfl
theorem e3j:a1Y []=[]:=by simp[a1Y]
theorem e3c(a:D):a1Y [a]=[a]:=by simp[a1Y]
theorem c0X{d:De}{ks:List Int}(h:nmL d ks=[]):nmS d ks=[]:=by unfold nmS;rw[h,e3j];rfl
theorem d9D{d:De}{ks:List Int}{a:D}(h:nmL d ks=[a]):nmS d ks=[a]:=by unfold nmS;rw[h,e3c];rfl
theorem e2d:S5 true a3B.me [102] [[112]]=(⟨[112],[102],1,[97,46,115,114,99],0,1⟩:En):=by rw[show a3B.me=b0D from a71];rfl
theorem d9j:a1u a3B a2i a6F=[⟨1,[112],[102]⟩,⟨5,[110],[]⟩]:=by
 unfold a1u;rw[d9D (d:=a6F) (ks:=[3]) (a:=[102]) G,c0X (d:=a6F) (ks:=[6,7,8]) G,d9D (d:=a6F) (ks:=[9]) (a:=[110]) G];unfold ckF;rw[show a3B.me=b0D from a71];rfl
theorem e0m:a1p a3B a2i a6F=[(⟨[112],[102],1,[97,46,115,114,99],0,1⟩:En)]:=by
 unfold a1p;rw[d9D (d:=a6F) (ks:=[3]) (a:=[102]) G,c0X (d:=a6F) (ks:=[6,7,8]) G];unfold caF ctF;simp only[b87,List.flatMap_nil,a0h];rw[show a2i.pkg::a2i.imports=[[112]]from G,e2d];rfl
theorem e0e:a1u a3B a2i a6q=[]:=by unfold a1u;rw[c0X (d:=a6q) (ks:=[3]) G,c0X (d:=a6q) (ks:=[6,7,8]) G,c0X (d:=a6q) (ks:=[9]) G];rfl
theorem d9T:a1p a3B a2i a6q=[]:=by unfold a1p;rw[c0X (d:=a6q) (ks:=[3]) G,c0X (d:=a6q) (ks:=[6,7,8]) G];rfl
theorem d0i:(T9 a3B [112] [116]).ct=1:=by rw[d7x]
theorem b7z:a1n a3B [112] [116] e2y true:=by
 have hs:=(b77 b7S c7v).1;have h0:=CI.zero (c:=a3B) (p:=[112]) (o:=[116]) d0i;rw[d7x]at h0;have h1:=h0.step b7S (v:=(⟨[112],[116],2,[97,46,115,114,99],1,1⟩:En)) G c7v hs (by simp[a2i]) (j:=0) (n_4 _);rw[d9j,e0m,show R6 [(⟨[112],[116],2,[97,46,115,114,99],1,1⟩:En)] [(⟨[112],[102],1,[97,46,115,114,99],0,1⟩:En)]=[(⟨[112],[116],2,[97,46,115,114,99],1,1⟩:En),(⟨[112],[102],1,[97,46,115,114,99],0,1⟩:En)]from by decide]at h1;have h2:=h1.step b7S (v:=(⟨[112],[102],1,[97,46,115,114,99],0,1⟩:En)) G d8Z hs (by simp[a2i]) (j:=0) (n_4 _);rw[e0e,d9T]at h2;exact h2.done I (by rw[show a3B.me=b0D from a71];decide)
theorem c2e:Z8 e2y=d2Z:=by rw[a0T];decide
theorem b1h:∀f∈aw7,f.p.length<=1000000000:=λf hf=>by simp[aw7]at hf;subst hf;decide
theorem c9R:(w8 aw7).2.2.length<=10000:=by rw[a71];decide
theorem d8R{ts:List (D×D)}(h:TsP (w8 aw7).2.2 ts):ts=[([112],[116])]:=by
 refine h.uniq ⟨λx=>?_,Q⟩;unfold p8;rw[W G,a71];obtain⟨a,b⟩:=x;have e:A9 2 a b=⟨2,a,b⟩:=G;rw[e,a0r];unfold b0D;rw[glk,H (λh=>by injection h with h;exact absurd h I),glk];by_cases hh:(⟨2,a,b⟩:Nm)=⟨2,[112],[116]⟩
 .rw [W hh];injection hh with _ h1 h2
  subst h1 h2;exact⟨λ_=>G,λ_=>G⟩
 .rw [H hh,glk];exact⟨λh=>by injection h with h1 h2;subst h1 h2;exact absurd G hh,λh=>absurd (show(0:Int)=1 from h) I⟩
theorem d4x:a4E a3B [⟨5,[110],[]⟩] ([112],[116])=true:=by
 unfold a4E;rw[d1G (x:=([112],[116])) b7z,c2e];rfl
theorem d1m(σ:List b9):b8 CC 13 [.agg (A0 aw7 true),.agg [sv [112],sv [116]]] σ λr τ=>r= .ret (.tup [.list (d2Z.map Ky.cv) true none,.val (.bool true),iv 0])/\τ=σ:=
 (b1Q aw7 true [] false 0 b1h a8s I b7S c9R [112] [116] d0i σ).mono λr τ ⟨x,h1,h2,h3⟩=>⟨by
  obtain⟨e1,e2⟩:=h3.uniq b7z;rw[h1];unfold b43;rw[e1,e2,c2e];rfl,h2⟩
theorem e0i(σ:List b9):b8 CC 19 [.agg (A0 aw7 true),.list (([⟨5,[110],[]⟩]:List Ky).map Ky.cv) true none] σ λr τ=>r= .ret (.tup [.list (([([112],[116])]:List (D×D)).map nmC) true none,iv 0])/\τ=σ:=
 (b2s aw7 true [] false 0 b1h a8s I b7S c9R [⟨5,[110],[]⟩] true I I σ).mono λr τ ⟨ts,h1,h2,h3⟩=>⟨by
  rw[h1,d8R h3,show([([112],[116])]:List (D×D)).filter (a4E a3B [⟨5,[110],[]⟩])=[([112],[116])] by rw[c3m d4x];rfl];rfl,h2⟩
def d8W:Src:=⟨[112],[],[a6q]⟩
def e17:De:=⟨1,[102],[],a6F.body⟩
def d8Q:Src:=⟨[112],[],[e17]⟩
theorem d8P(σ:List b9):b8 CC 39 [.agg (A0 aw7 true)] σ λr τ=>∃_:Unit,r= .ret (.ptr σ.length 0)/\τ=σ++d9G aw7 true true [] [([97,46,115,114,99],a2i)] b0D σ.length/\True:=by
 have h:=b5b aw7 true b1h σ;rw[show w8 aw7=([],[([97,46,115,114,99],a2i)],b0D) by kernel_rfl,show(B4 aw7 == 0)=true by rw[a8s];rfl]at h;exact h
theorem d9I{C:Ctx}{E:Env}{σ:List b9}{o:Oper}{f:FuncId}{fn:Func}{c:Code}{caps:List CV}{cx:Operand}{xs:Array Operand}{ts:Array TypeId}{K:L7 → List b9 → Prop}(ho:o.op = .call {callee:=.value cx,args:=xs,argTypes:=ts})(hc:E.valid cx)(ec:E.val C cx= .clo f caps)(hv:E.valids xs.toList)(hf:C.P.funcs[f]?=some fn)(hb:fn.body =some c)(hn:(fn.name == "runtime.NumGoroutine")=false)(hl:Nat.ble ((E.vals C xs.toList ++caps).map CV.fgt).length fn.ntmps =true)
 (h:qc C fn.ntmps 999 999 c (Fin C fn K) (Env.args ((E.vals C xs.toList++caps).map CV.fgt)) σ):C5 C σ E o K:=
 a8r ho hc ec (a0l hf hb hn) (Env.valids_mem hv) (Env.vals_map _) (Y8 (qO hf h hb hl))
theorem e0K{aa:List (List CV)}{nn:Bool}(l:List D)(h:aa=l.map scv):Cls n σ (.list aa nn tok) (.list (l.map scv) nn none):=h▸V7 λr hr=>by obtain⟨x,_,e⟩:=D8.1 (h▸hr);rw[<- e];exact⟨.val _,O⟩
theorem e3e{C:Ctx}{E:Env}{o:Oper}{t:TypeId}{K:L7->List b9->Prop}(ho:o.op = .makeMap t none)(hk:K (.ret (.map σ.length)) (σ++[.map (gm kv (λc:CV=>c) [])])):C5 C σ E o K:=S8 ho hk
theorem d7s{p:Prop}(h:p:=by repeat' (first|exact .val _|exact C1 [] _|exact C1 _ _|exact a17 _ _|exact D1 _ _|exact F5 _ _|exact N2 _ _|exact a26 _ _|exact O|exact j5 (Src.pure _)|refine j5 ?_|refine D3 ?_|refine⟨?_,?_⟩)):p:=h
theorem K7{q:Prop}(h:q:=by
 intro h1 h2 h3 h4 h5 h6 σ;refine b8.anyw hCC d7s d7s ?_ σ;refine c9 (qO G ?_)
 repeat first
  |((first|refine k_h ?_|refine k_f rfl rfl ?_|refine k_t rfl rfl rfl ?_|refine e3x rfl rfl O rfl ?_|(refine qD ?_;refine k_d ?_)|(refine x_g G G O G G ?_;refine k_d ?_));(first
   |refine k_y (a0Q rfl (Env.vb_ok rfl) rfl) ?_
   |refine k_y (a1T rfl (Env.vb_ok rfl) rfl) ?_
   |refine k_e (a0e rfl (Env.vb_ok rfl) (Env.vb_ok rfl) rfl rfl rfl) a1z ?_
   |refine k_e (b1Z rfl (Env.vb_ok rfl) rfl) a1z ?_
   |refine k_e (a1r rfl (Env.vb_ok rfl) (Env.vb_ok rfl) rfl rfl (by first|exact a4O _ _|exact a7p _ _)) a1z ?_
   |refine k_e (Z3 rfl (Env.vb_ok rfl) rfl (F1 rfl) rfl rfl) a1z ?_
   |refine k_e (c0Z rfl (Env.vb_ok rfl) rfl (F1 rfl)) a1z ?_
   |refine k_e (x_pickt rfl (Env.vb_ok rfl) rfl) a1z ?_
   |refine k_e (x_pickf rfl (Env.vb_ok rfl) rfl) a1z ?_
   |refine k_e (a75 rfl (Env.vb_ok rfl) rfl e1Y V9) a1z ?_
   |refine k_e (a6z rfl (Env.vb_ok rfl) rfl e1Y V9) a1z ?_
   |refine k_e (i7 rfl (Env.vb_ok rfl) rfl (F1 rfl) rfl (I3 rfl) I) a1z ?_
   |refine k_y (l9 rfl (Env.vb_ok rfl) rfl (a1U rfl) rfl rfl) ?_
   |refine k_y (I5 rfl (Env.vb_ok rfl) rfl (a1U rfl) (I3 rfl) rfl (nb rfl)) ?_
   |refine k_e (a0U rfl (Env.vb_ok rfl) rfl (F1 rfl) rfl (I3 rfl) I) a1z ?_
   |refine k_y (Z1 rfl (Env.vb_ok rfl) rfl (a1U rfl) rfl) ?_
   |refine k_y (X8 rfl (Env.vb_ok rfl) rfl (a1U rfl) (I3 rfl) (nb rfl)) ?_
   |refine k_y (A4 rfl (Env.vb_ok rfl) (Env.vb_ok rfl) rfl rfl (F1 rfl) (I3 rfl) I rfl rfl) ?_
   |refine k_e (a28 rfl (Env.vb_ok rfl) rfl rfl) a1z ?_
   |refine k_y (Z0 rfl (Env.vb_ok rfl) (Env.vb_ok rfl) rfl rfl (F1 rfl) (I3 rfl) rfl I I) ?_
   |refine k_y (a1M rfl (Env.vb_ok rfl) rfl (a1U rfl) rfl rfl rfl) ?_
   |refine k_y (c4g rfl (Env.vb_ok rfl) rfl (F1 rfl)) ?_
   |refine k_y (d0w rfl (Env.vb_ok rfl) rfl (F1 rfl)) ?_
   |refine k_y (c47 rfl (Env.vb_ok rfl) (Env.vb_ok rfl) rfl rfl _ rfl rfl) ?_
   |refine k_y (b9S rfl (Env.vb_ok rfl) rfl rfl (nb rfl) _ rfl rfl rfl) ?_
   |refine k_y (b5l rfl (Env.vb_ok rfl) rfl rfl _ rfl rfl rfl w9) ?_
   |refine k_y (d9z (e:=Extern.AbiNoEscape.same) rfl rfl rfl rfl rfl rfl (Env.vb_ok rfl) rfl (λv w=>rfl)) ?_
   |refine k_y (c5 rfl (a0l rfl rfl rfl) (L9 rfl) (h1 _) rfl) ?_
   |refine k_y (c5 rfl (a0l rfl rfl rfl) (L9 rfl) (h2 _) rfl) ?_
   |refine k_y (c5 rfl (a0l rfl rfl rfl) (L9 rfl) (h3 _) rfl) ?_
   |refine k_y (c5 rfl (a0l rfl rfl rfl) (L9 rfl) (h4 _) rfl) ?_
   |refine k_y (c5 rfl (a0l rfl rfl rfl) (L9 rfl) (h5 _) rfl) ?_
   |refine k_y (c5 rfl (a0l rfl rfl rfl) (L9 rfl) (h6 _) rfl) ?_
   |refine k_e (a5W rfl (Env.vb_ok rfl) (Env.vb_ok rfl) (xs:=[.int .i64 (⟨1,[102]⟩:Sn).k,.string (str (⟨1,[102]⟩:Sn).s)]) (ys:=[.int .i64 (⟨2,[116]⟩:Sn).k,.string (str (⟨2,[116]⟩:Sn).s)]) rfl rfl Tryz.eqGuardType318 (d5X (⟨1,[102]⟩:Sn) (⟨2,[116]⟩:Sn))) a1z ?_
   |refine k_e (a5W rfl (Env.vb_ok rfl) (Env.vb_ok rfl) (xs:=[.int .i64 (⟨2,[116]⟩:Sn).k,.string (str (⟨2,[116]⟩:Sn).s)]) (ys:=[.int .i64 (⟨1,[102]⟩:Sn).k,.string (str (⟨1,[102]⟩:Sn).s)]) rfl rfl Tryz.eqGuardType318 (d5X (⟨2,[116]⟩:Sn) (⟨1,[102]⟩:Sn))) a1z ?_
   |refine k_y (b0x rfl (Env.vb_ok rfl) rfl) ?_
   |refine k_y (b8e rfl (Env.vb_ok rfl) rfl (b2v _ _)) ?_
   |refine k_y (y_sliceData0 rfl (Env.vb_ok rfl) rfl) ?_
   |refine k_y (a8p rfl (Env.vb_ok rfl) (Env.vb_ok rfl) rfl rfl (nb rfl)) ?_
   |refine k_y (J2 rfl (Env.vb_ok rfl) (Env.vb_ok rfl) rfl rfl (F1 rfl) I rfl) ?_
   |refine k_e (e2v rfl (Env.vb_ok rfl) (Env.vb_ok rfl) rfl rfl) a1z ?_
   |refine k_y (U2 (vc:=λc:CV=>c) (a:=_) a4M G (Env.vb_ok G) (Env.vb_ok G) G G (F1 G) (a1d G G) G G G) ?_
   |refine k_y (U2 (vc:=vcS) (l:=[([97,46,115,114,99],a2i)]) (a:=_) b9Q rfl (Env.vb_ok rfl) (Env.vb_ok rfl) rfl rfl (F1 rfl) (a1d rfl rfl) rfl rfl rfl) ?_
   |refine k_y (a3f rfl (L9 rfl)) ?_
   |refine k_y (b1L rfl (Env.vb_ok rfl) rfl (F1 rfl) (F1 rfl) rfl) ?_
   |refine k_y (I4 rfl (Env.vb_ok rfl) rfl (F1 rfl) c15 c15 (nb rfl) (nb rfl)) ?_
   |refine k_y a14 ?_
   |refine k_e (i7 rfl O rfl (F1 rfl) rfl (I3 rfl) I) a1z ?_
   |refine k_y (l9 rfl O rfl (a1U rfl) rfl rfl) ?_
   |refine k_y (a1T rfl O rfl) ?_
   |refine k_y (d3O rfl (by repeat' (first|exact O|exact rfl|exact Env.vb_ok rfl|refine⟨?_,?_⟩)) rfl rfl rfl rfl ⟨_,rfl⟩ rfl rfl rfl) ?_
   |refine k_y (d4N rfl (Env.vb_ok rfl) rfl rfl rfl rfl c15 c15 rfl rfl) ?_
   |refine k_y (e0Q rfl (by repeat' (first|exact O|exact rfl|exact Env.vb_ok rfl|refine⟨?_,?_⟩)) rfl rfl rfl rfl rfl rfl rfl rfl rfl rfl rfl rfl rfl) ?_))
  |((first|refine qD ?_|refine B1 rfl rfl rfl ?_|refine x_g rfl rfl O rfl rfl ?_);(first
   |refine d9C rfl (Env.vb_ok rfl) j1 b75 ?_
   |refine i0 rfl (Env.vb_ok rfl) (Env.vb_ok rfl) rfl j1 (I3 rfl) b75 rfl rfl (nb rfl) ?_
   |refine a11 rfl rfl (h1 _) (L9 rfl) rfl rfl rfl ?_
   |refine a11 rfl rfl (h2 _) (L9 rfl) rfl rfl rfl ?_
   |refine a11 rfl rfl (h3 _) (L9 rfl) rfl rfl rfl ?_
   |refine a11 rfl rfl (h4 _) (L9 rfl) rfl rfl rfl ?_
   |refine a11 rfl rfl (h5 _) (L9 rfl) rfl rfl rfl ?_
   |refine a11 rfl rfl (h6 _) (L9 rfl) rfl rfl rfl ?_
   |refine a11 rfl rfl (a3p _ _) (L9 rfl) rfl rfl rfl ?_
   |refine a11 rfl rfl (a3b _ I _) (L9 rfl) rfl rfl rfl ?_
   |refine c6t rfl (Env.vb_ok rfl) (Env.vb_ok rfl) rfl (e0b rfl) rfl (.inr rfl) rfl rfl rfl rfl c6o rfl (b2v _ _) rfl rfl ?_
   |refine c6t rfl (Env.vb_ok rfl) (Env.vb_ok rfl) rfl (λM w v hr h=>(a68 G (a6H G) M w v hr h).any) G (.inl G) G G G G c6o G (b2v _ _) G G ?_
   |refine e0j rfl (Env.vb_ok rfl) (Env.vb_ok rfl) rfl rfl rfl rfl rfl rfl rfl (b2v _ _) rfl w9 ?_
   |refine ik rfl (Env.vb_ok rfl) (Env.vb_ok rfl) rfl rfl ?_
   |refine c7T rfl (a1d rfl rfl) rfl b75 ?_
   |refine e2F rfl (Env.vb_ok rfl) (Env.vb_ok rfl) rfl rfl rfl rfl rfl rfl rfl c6o rfl rfl (b2v _ _) rfl rfl ?_
   |refine e2s rfl rfl (d8P _) (L9 rfl) rfl rfl rfl (λ_ _=>?_)
   |refine a11 rfl rfl (a0G [] false _) (L9 rfl) rfl rfl rfl ?_
   |refine a11 rfl rfl (a6N (w:=2) (q1:=3) (q2:=4) (t:=5) (fl:=aw7) (nn:=true) (va:=true) (br:=[]) (ms:=[([97,46,115,114,99],a2i)]) (me:=b0D) ⟨rfl,rfl,rfl,rfl,a2c ⟨I,I,I,I,I,I⟩⟩ 2 [112] [116]) (L9 rfl) rfl rfl rfl ?_
   |refine a11 rfl rfl (a6N (w:=2) (q1:=3) (q2:=4) (t:=5) (fl:=aw7) (nn:=true) (va:=true) (br:=[]) (ms:=[([97,46,115,114,99],a2i)]) (me:=b0D) ⟨rfl,rfl,rfl,rfl,a2c ⟨I,I,I,I,I,I⟩⟩ 1 [112] [102]) (L9 rfl) rfl rfl rfl ?_
   |refine e0L rfl (Env.vb_ok rfl) rfl (L9 rfl) rfl rfl rfl rfl ?_
   |refine d9I rfl (Env.vb_ok rfl) rfl (L9 rfl) rfl rfl rfl rfl ?_
   |refine e3e rfl ?_
   |refine p9 (vc:=λc:CV=>c) (b:=_) a4M (.inr G) (Env.vb_ok G) (Env.vb_ok G) (Env.vb_ok G) G G G (F1 G) G ?_
   |refine d8Y rfl (by first|exact L9 rfl|repeat' (first|exact O|exact rfl|exact Env.vb_ok rfl|refine⟨?_,?_⟩)) rfl rfl rfl rfl ?_
   |refine c9r rfl (Env.vb_ok rfl) (Env.vb_ok rfl) rfl rfl rfl rfl (F1 rfl) (I3 rfl) (b1d rfl) (a1d rfl rfl) rfl b75 rfl I I I ?_
   |refine b3E rfl (Env.vb_ok rfl) (Env.vb_ok rfl) rfl j1 (I3 rfl) b75 rfl rfl rfl (nb rfl) ?_))
  |refine qCt ?_ (Env.vb_ok rfl) rfl
  |refine qCf ?_ (Env.vb_ok rfl) rfl
  |refine qX ?_
  |refine e0o 60 ?_
  |refine c6 ?_
  |refine c09 (c:=.val (.bool true)) rfl O rfl ?_
  |refine c09 (c:=.val (.bool false)) rfl O rfl ?_
  |refine c09 rfl O rfl ?_
  |refine d9y rfl O O rfl rfl ?_
  |refine x_res0 rfl ?_
  |refine d3S rfl ?_
  |refine x_n rfl rfl O rfl rfl rfl ?_
  |refine k_hn rfl rfl O rfl rfl ?_
  |refine a2K ?_
  |refine o7 ?_
  |refine k_w 0 (by decide+kernel) ?_
  |refine k_w 1 (by decide+kernel) ?_
  |refine k_w 2 (by decide+kernel) ?_
  |refine k_w 3 (by decide+kernel) ?_
  |refine a21 [] [0,1,3,7,0,16,48,112,15,511] [0,1,2,4,5,6,7] (tl:=[(3,[3,4,5,6]),(8,[3,4,5,6]),(9,[])]) w9 (by decide+kernel) rfl ?_
  |refine k_w 6 (by decide+kernel) ?_
  |refine F2 ?_
  |refine a0Z ?_
  |refine And.intro (by repeat' (first|exact O|refine⟨?_,?_⟩|exact c7 rfl (y_c (a0Q rfl O rfl) rfl)|exact c7 rfl (y_c a14 rfl)|exact c7 rfl (y_c (i7 rfl O rfl (F1 rfl) rfl (I3 rfl) I) rfl)|exact c7 rfl (l9 rfl O rfl (a1U rfl) rfl rfl))) ?_
 conv=>whnf
 first|exact⟨_,_,G,G,O2 G (by first|exact .val _|exact D3 (cs:=[_,_]) ⟨.val _,.val _,O⟩|exact D3 (cs:=[_,_]) ⟨C1 _ _,.val _,O⟩)⟩|exact⟨_,_,G,G,.tups ⟨e0K _ G,.old (.val _),O⟩⟩
 all_goals first|exact Env.vb_ok G|exact O):q:=h
section
attribute [local irreducible] F0 CWp C5 j4 U7 YK Cl.Fin
set_option maxRecDepth 10000
set_option maxHeartbeats 40000000
abbrev b1u:Prop:=∀σ,b8 CC 304 [sv [102]] σ λr τ=>r= .ret (.val (.bool true))/\τ=σ
theorem d2H:b1u:=(K7:True->True->True->True->True->True->b1u) O O trivial trivial trivial trivial
abbrev c0d:Prop:=∀σ,b8 CC 304 [sv [116]] σ λr τ=>r= .ret (.val (.bool true))/\τ=σ
theorem e03:c0d:=(K7:True->True->True->True->True->True->c0d) O O trivial trivial trivial trivial
abbrev c0E:Prop:=∀σ,b8 CC 304 [sv [120]] σ λr τ=>r= .ret (.val (.bool true))/\τ=σ
theorem e14:c0E:=(K7:True->True->True->True->True->True->c0E) O O trivial trivial trivial trivial
abbrev b14:Prop:=∀σ,b8 CC 304 [sv [112]] σ λr τ=>r= .ret (.val (.bool true))/\τ=σ
theorem d1Y:b14:=(K7:True->True->True->True->True->True->b14) O O trivial trivial trivial trivial
abbrev c0y:Prop:=∀σ,b8 CC 328 [CV.agg (Ex.cells ⟨2,0,0,[],[]⟩),iv 1] σ λr τ=>r= .ret (.val (.bool true))/\τ=σ
theorem e2S:c0y:=(K7:True->True->True->True->True->True->c0y) O O trivial trivial trivial trivial
abbrev b4K:Prop:=∀σ,b8 CC 328 [CV.agg (Ex.cells ⟨1,0,0,[],[]⟩),iv 0] σ λr τ=>r= .ret (.val (.bool true))/\τ=σ
theorem d7f:b4K:=(K7:True->True->True->True->True->True->b4K) O O trivial trivial trivial trivial
abbrev b4x:Prop:=∀σ,b8 CC 328 [CV.agg (Ex.cells ⟨9,0,0,[110],[]⟩),iv 0] σ λr τ=>r= .ret (.val (.bool true))/\τ=σ
theorem d6Q:b4x:=(K7:True->True->True->True->True->True->b4x) O O trivial trivial trivial trivial
abbrev b5i:Prop:=∀σ,b8 CC 328 [CV.agg (Ex.cells ⟨3,0,0,[102],[1]⟩),iv 0] σ λr τ=>r= .ret (.val (.bool true))/\τ=σ
theorem d6T:b5i:=(K7:b1u->True->True->True->True->True->b5i) d2H trivial trivial trivial trivial trivial
abbrev b45:Prop:=∀σ,b8 CC 328 [CV.agg (Ex.cells ⟨10,0,0,[],[]⟩),iv 0] σ λr τ=>r= .ret (.val (.bool true))/\τ=σ
theorem d6H:b45:=(K7:True->True->True->True->True->True->b45) O O trivial trivial trivial trivial
abbrev b5c:Prop:=∀σ,b8 CC 328 [CV.agg (Ex.cells ⟨5,0,0,[],[0,2,3]⟩),iv 0] σ λr τ=>r= .ret (.val (.bool true))/\τ=σ
theorem d7w:b5c:=(K7:True->True->True->True->True->True->b5c) O O trivial trivial trivial trivial
abbrev b5E:Prop:=∀σ,b8 CC 305 [.agg a6q.cells] σ λr τ=>r= .ret (.val (.bool true))/\τ=σ
theorem d8l:b5E:=(K7:b1u->c0E->c0y->True->True->True->b5E) d2H e14 e2S trivial trivial trivial
abbrev c0J:Prop:=∀σ,b8 CC 305 [.agg a6F.cells] σ λr τ=>r= .ret (.val (.bool true))/\τ=σ
theorem e2J:c0J:=(K7:c0d->b4K->b4x->b5i->b45->b5c->c0J) e03 d7f d6Q d6T d6H d7w
abbrev c0e:Prop:=∀σ,b8 CC 305 [.agg e17.cells] σ λr τ=>r= .ret (.val (.bool true))/\τ=σ
theorem e2u:c0e:=(K7:b1u->b4K->b4x->b5i->b45->b5c->c0e) d2H d7f d6Q d6T d6H d7w
abbrev b9q:Prop:=∀σ,b8 CC 270 [.agg a2i.cells] σ λr τ=>r= .ret (.val (.bool false))/\τ=σ
theorem e24:b9q:=(K7:True->True->True->True->True->True->b9q) O O trivial trivial trivial trivial
abbrev c0L:Prop:=∀σ,b8 CC 271 [.agg a2i.cells] σ λr τ=>r= .ret (.val (.bool false))/\τ=σ
theorem e1n:c0L:=(K7:True->True->True->True->True->True->c0L) O O trivial trivial trivial trivial
abbrev c0x:Prop:=∀σ,b8 CC 270 [.agg d8W.cells] σ λr τ=>r= .ret (.val (.bool false))/\τ=σ
theorem e1H:c0x:=(K7:True->True->True->True->True->True->c0x) O O trivial trivial trivial trivial
abbrev c1o:Prop:=∀σ,b8 CC 271 [.agg d8W.cells] σ λr τ=>r= .ret (.val (.bool false))/\τ=σ
theorem e1U:c1o:=(K7:True->True->True->True->True->True->c1o) O O trivial trivial trivial trivial
abbrev c1b:Prop:=∀σ,b8 CC 270 [.agg d8Q.cells] σ λr τ=>r= .ret (.val (.bool false))/\τ=σ
theorem e2j:c1b:=(K7:True->True->True->True->True->True->c1b) O O trivial trivial trivial trivial
abbrev c0R:Prop:=∀σ,b8 CC 271 [.agg d8Q.cells] σ λr τ=>r= .ret (.val (.bool false))/\τ=σ
theorem e18:c0R:=(K7:True->True->True->True->True->True->c0R) O O trivial trivial trivial trivial
abbrev b4s:Prop:=∀σ,b8 CC 230 [.agg a2i.cells] σ λr τ=>r= .ret (iv 0)/\τ=σ
theorem d5V:b4s:=(K7:b14->b5E->c0J->b9q->c0L->True->b4s) d1Y d8l e2J e24 e1n trivial
abbrev c0j:Prop:=∀σ,b8 CC 230 [.agg d8W.cells] σ λr τ=>r= .ret (iv 0)/\τ=σ
theorem e01:c0j:=(K7:b14->b5E->c0x->c1o->True->True->c0j) d1Y d8l e1H e1U trivial trivial
abbrev c1n:Prop:=∀σ,b8 CC 230 [.agg d8Q.cells] σ λr τ=>r= .ret (iv 0)/\τ=σ
theorem e05:c1n:=(K7:b14->c0e->c1b->c0R->True->True->c1n) d1Y e2u e2j e18 trivial trivial
abbrev c1d:Prop:=∀σ,b8 CC 132 [iv 0] σ λr τ=>r= .ret (sv [48])/\τ=σ
theorem e0T:c1d:=(K7:True->True->True->True->True->True->c1d) O O trivial trivial trivial trivial
abbrev b9z:Prop:=∀σ,b8 CC 233 [.list (([[120]]:List D).map scv) true none,sv [44,32]] σ λr τ=>r= .ret (sv [120])/\τ=σ
theorem e0N:b9z:=(K7:True->True->True->True->True->True->b9z) O O trivial trivial trivial trivial
end
section
attribute [local irreducible] F0 CWp C5 j4 U7 YK Cl.Fin
set_option maxRecDepth 10000
set_option maxHeartbeats 40000000
abbrev c1i:Prop:=∀σ,b8 CC 272 [(.list (a6q.body.map Ex.cv) true none),(.list (a6q.params.map scv) true none)] σ λr τ=>r= .ret (.tup [sv [120],iv 1])/\τ=σ
theorem e1t:c1i:=(K7:True->True->True->True->True->True->c1i) O O trivial trivial trivial trivial
abbrev c0G:Prop:=∀σ,b8 CC 272 [(.list (a6F.body.map Ex.cv) true none),(.list (a6F.params.map scv) false none)] σ λr τ=>r= .ret (.tup [sv [105,102,32,48,32,116,104,101,110,32,102,40,101,110,118,40,34,110,34,41,41,32,101,108,115,101,32,102,108,105,112,40,48,41],iv 3])/\τ=σ
theorem e1A:c0G:=(K7:c1d->True->True->True->True->True->c0G) e0T trivial trivial trivial trivial trivial
abbrev b9D:Prop:=∀σ,b8 CC 231 [(.list (a6q.body.map Ex.cv) true none),(.list (a6q.params.map scv) true none)] σ λr τ=>r= .ret (.tup [sv [120],iv 0])/\τ=σ
theorem e25:b9D:=(K7:c0j->c1i->True->True->True->True->b9D) e01 e1t trivial trivial trivial trivial
abbrev c0t:Prop:=∀σ,b8 CC 231 [(.list (a6F.body.map Ex.cv) true none),(.list (a6F.params.map scv) false none)] σ λr τ=>r= .ret (.tup [sv [105,102,32,48,32,116,104,101,110,32,102,40,101,110,118,40,34,110,34,41,41,32,101,108,115,101,32,102,108,105,112,40,48,41],iv 0])/\τ=σ
theorem e1j:c0t:=(K7:c1n->c0G->True->True->True->True->c0t) e05 e1A trivial trivial trivial trivial
abbrev c0p:Prop:=∀σ,b8 CC 181 [.agg a2i.cells,iv 0] σ λr τ=>r= .ret (.tup [sv [112,97,99,107,97,103,101,32,112,59,10,102,117,110,99,32,102,40,120,41,32,61,32,120,59,10],iv 0])/\τ=σ
theorem e2P:c0p:=(K7:b4s->b9D->b9z->True->True->True->c0p) d5V e25 e0N trivial trivial trivial
abbrev c03:Prop:=∀σ,b8 CC 181 [.agg a2i.cells,iv 1] σ λr τ=>r= .ret (.tup [sv [112,97,99,107,97,103,101,32,112,59,10,116,101,115,116,32,116,32,61,32,105,102,32,48,32,116,104,101,110,32,102,40,101,110,118,40,34,110,34,41,41,32,101,108,115,101,32,102,108,105,112,40,48,41,59,10],iv 0])/\τ=σ
theorem e1F:c03:=(K7:b4s->c0t->True->True->True->True->c03) d5V e1j trivial trivial trivial trivial
abbrev c1u:Prop:=∀σ,b8 CC 54 [.agg (A0 aw7 true),.agg (a1o [] false),(.list (d2Z.map Ky.cv) true none)] σ λr τ=>r= .ret (.tup [.list (([[61,112,97,99,107,97,103,101,32,112,59,10,102,117,110,99,32,102,40,120,41,32,61,32,120,59,10],[61,112,97,99,107,97,103,101,32,112,59,10,116,101,115,116,32,116,32,61,32,105,102,32,48,32,116,104,101,110,32,102,40,101,110,118,40,34,110,34,41,41,32,101,108,115,101,32,102,108,105,112,40,48,41,59,10],[45]]:List D).map scv) true none,iv 0])/\τ=σ
theorem d6h:c1u:=(K7:c0p->c03->True->True->True->True->c1u) e2P e1F trivial trivial trivial trivial
abbrev c7P:Prop:=∀σ,b8 CC 55 [.agg (A0 aw7 true),.agg (a1o [] false),(.list (d2Z.map Ky.cv) true none),.list (([[61,112,97,99,107,97,103,101,32,112,59,10,102,117,110,99,32,102,40,120,41,32,61,32,120,59,10],[61,112,97,99,107,97,103,101,32,112,59,10,116,101,115,116,32,116,32,61,32,105,102,32,48,32,116,104,101,110,32,102,40,101,110,118,40,34,110,34,41,41,32,101,108,115,101,32,102,108,105,112,40,48,41,59,10],[45]]:List D).map scv) true none] σ λr τ=>r= .ret (.tup [iv (-1),iv 0])/\τ=σ
theorem e1m:c7P:=(K7:c1u->True->True->True->True->True->c7P) d6h trivial trivial trivial trivial trivial
end
theorem d4X:a7m []=true:=G
theorem d2z(σ:List b9):b8 CC 16 [.agg (A0 aw7 true),.agg (a1o [] false),.agg (A0 aw7 true),.agg (a1o [] false),.agg [sv [112],sv [116]]] σ λr ae=>r= .ret (.tup [.val (.bool true),iv 0])/\ae=σ:=by
 refine an_ Tryz.func16 ?_;refine a59 ?_;refine c97 ?_;refine c97 ?_;refine cY b01 ?_;refine a58 ?_;refine a8a ?_;refine yc G c8j ⟨O,O⟩ (a6b aw7 true b1h _) ?_;refine cY Z5 ?_;refine cY A2 ?_;refine cG (λhg=>I5 G O G b83 a7w G (nb G)) ?_;refine cG (λhg=>c5 G c8j ⟨hg,O⟩ (a6b aw7 true b1h _) G) ?_;refine cG a4F ?_;refine cY S4 ?_;refine cY A2 ?_;refine d7U ?_;refine cG a3Y ?_;refine cY S4 ?_;refine cY A2 ?_;refine d7U ?_;refine cG a3Y ?_;refine cY S4 ?_;refine o7 ?_;refine cC ?_ ?_<;>intro h1
 .exfalso;simp[a8s,d4X]at h1
 .refine A8 ?_;refine a8a ?_;refine cY d2l ?_;refine ye G c6h j2 (by exact d1m _) G ?_;refine b5N ?_;refine cY a07 ?_;refine cY a07 ?_;refine a6u ?_;refine a8D ?_;refine cC ?_ ?_<;>intro h2
  .exfalso;simp at h2
  .refine A8 ?_;refine a8a ?_;refine cY b6R ?_;refine cY A2 ?_;refine ye G Tryz.call54 D0 (by exact d6h _) G ?_;refine b72 ?_;refine cY a07 ?_;refine a6u ?_;refine a8D ?_;refine cC ?_ ?_<;>intro h3
   .exfalso;simp at h3
   .refine A8 ?_;refine a8a ?_;refine cY b6R ?_;refine cY A2 ?_;refine cY A2 ?_;refine ye G Tryz.call55 a4s (by exact e1m _) G ?_;refine b72 ?_;refine b2V ?_;refine z_1 ?_;refine b5R ?_;refine b2G ?_;refine cY A2 ?_;refine cY a07 ?_;refine a0W ?_;exact⟨_,o9 (rs:=[.tmp 10,.tmp 11]) (cs:=[.val (.bool true),iv 0]) G ⟨⟨O,G⟩,⟨O,G⟩,O⟩ (n_5 G),_,_,G,G,(O2 G (D3 (cs:=[_,_]) ⟨.val _,.val _,O⟩))⟩
theorem b9U(σ:List b9):b8 CC 21 [] σ λr ae=>r= .ret (.val (.bool true))/\ae=σ:=by
 refine an_ Tryz.func21 ?_;refine b9I ?_;refine z_0 ?_;refine cY (z8 #[(0,1),(1,1)] G ⟨G,G,O⟩ b6g a9H G ⟨_,G⟩ (λw=>by kernel_rfl) G G) ?_;refine cY (A6 (aw7.map Fi.cv) G ⟨O,O⟩ b0p b09 a9H G G G G G G G G G) ?_;refine cY (z8 #[(0,1)] G ⟨O,O⟩ Tryz.runUnderlying25 b6o G ⟨_,G⟩ (λw=>by kernel_rfl) G G) ?_;refine cD (j6 G b6o G i9 ?_);refine cD (i0 G O O G j1 a7w i9 G G (nb G) ?_);refine o7 ?_;refine a8a ?_;refine cY e2D ?_;refine ye G c6h j2 (by exact d1m _) G ?_;refine b5N ?_;refine cY a07 ?_;refine b2V ?_;refine a8a ?_;refine cY (z8 #[(0,1),(1,1),(2,1)] G ⟨G,G,O⟩ b9Z a0A G ⟨_,G⟩ (λw=>by kernel_rfl) G G) ?_;refine cY (A6 (([⟨5,[110],[]⟩]:List Ky).map Ky.cv) G ⟨O,O⟩ t_5 t_3 a0A G G G G G G G G G) ?_;refine ye G Tryz.call19 j2 (by exact e0i _) G ?_;refine b72 ?_;refine b2V ?_;refine a8a ?_;refine cY e1p ?_;refine cY a4v ?_;refine cY e1p ?_;refine cY e2D ?_;refine ye G Tryz.call16 a4T (by exact d2z _) G ?_;refine b72 ?_;refine b2V ?_;refine z_1 ?_;refine b5R ?_;refine b2G ?_;refine c5I ?_;refine b2G ?_;refine c5I ?_;refine cG (λhg=>Z3 G hg G t_5 a7l G) ?_;refine b2G ?_;refine c5I ?_;refine cY Q8 ?_;refine c5I ?_;refine cG (λhg=>Z3 G hg G b0y a7l G) ?_;refine b2G ?_;refine c5I ?_;refine cY Q8 ?_;refine a0W ?_;exact⟨_,rE1,_,_,G,G,j9 (by rfl)⟩
def b2l(me:EM):Prop:=∀q e,glk me q=some e->1<=e.ct
theorem b2l.add{me:EM}(hp:b2l me)(hx:x.ct=1):b2l (a0a me x):=λq e h=>by
 rw[a0a,G3]at h;split at h
 .injection h with h
  subst h
  split
  .rename_i f hf;have:=hp _ _ hf;dsimp only;omega
  .omega
 .exact hp q e h
theorem c80{me:EM}(hp:b2l me){k:Int}{pa pk:D}{d:De}(dA:k≠3->pk=p):p8 true (a0a me ⟨pk,d.name,d.k,pa,(j:Int),1⟩) k p o=if(d.k == k&&decide (d.name=o))=true then(if((p8 true me k p o).ct+1 == 1)=true then⟨pk,(p8 true me k p o).o,(p8 true me k p o).k,pa,j,(p8 true me k p o).ct+1⟩else⟨(p8 true me k p o).p,(p8 true me k p o).o,(p8 true me k p o).k,(p8 true me k p o).pl,(p8 true me k p o).ix,(p8 true me k p o).ct+1⟩)else p8 true me k p o:=by
 have hq:A9 k p o=A9 d.k pk d.name↔(d.k == k&&decide (d.name=o))=true:=by
  simp only[A9,Nm.mk.injEq,R9,beq_iff_eq,a5J];constructor
  .rintro ⟨h1,_,h3⟩;exact⟨h1.symm,h3.symm⟩
  .rintro ⟨h1,h3⟩;refine⟨h1.symm,?_,h3.symm⟩;rw[h1];by_cases h:k=3
   .rw [W h,W h]
   .rw [H h,H h,dA h]
 unfold p8 a0a;rw[W G,W G,G3];dsimp only;by_cases hk:(d.k == k&&decide (d.name=o))=true
 .have e:=hq.2 hk;rw[W hk,W e,<- e];dsimp only;cases hg:glk me (A9 k p o)with
  |none=>
   simp only[R9,beq_iff_eq,a5J]at hk;dsimp only;rw[W I,hk.1,hk.2];rfl
  |some f=>
   have h1:=hp _ _ hg;dsimp only;rw[H G5]
 .rw [H hk,H λe=>hk (hq.1 e)]
theorem b6w{k:Int}{p o pa pk:D}(dA:k≠3->pk=p):∀(l:List De) (j:Nat) (me:EM),b2l me->p8 true (addDs me pa pk l j) k p o=fiD k o pa pk l j (p8 true me k p o)/\b2l (addDs me pa pk l j)
 | [],_,_,hp=>⟨G,hp⟩
 |d::l,j,me,hp=>by
  obtain⟨h1,h2⟩:=b6w dA l (j+1) (a0a me ⟨pk,d.name,d.k,pa,(j:Int),1⟩) (hp.add G);refine⟨?_,h2⟩;rw[fiD,<- c80 hp dA];exact h1
theorem b88{k:Int}{p o pa pk:D}(hk:k≠3)(dA:pk≠p):∀(l:List De) (j:Nat) (me:EM),b2l me->p8 true (addDs me pa pk l j) k p o=p8 true me k p o/\b2l (addDs me pa pk l j)
 | [],_,_,hp=>⟨G,hp⟩
 |d::l,j,me,hp=>by
  obtain⟨h1,h2⟩:=b88 hk dA l (j+1) (a0a me ⟨pk,d.name,d.k,pa,(j:Int),1⟩) (hp.add G);refine⟨h1.trans ?_,h2⟩;have hq:¬A9 k p o=A9 d.k pk d.name:=λe=>by
   simp only[A9,Nm.mk.injEq]at e;obtain⟨e1,e2,_⟩:=e;rw[<- e1,H hk,H hk]at e2;exact dA e2.symm
  unfold p8 a0a;rw[W G,W G,G3,H hq]
theorem b6T{k:Int}{p o:D}:∀(l:List Fi) (s:WS),b2l s.2.2->p8 true (a4X l s).2.2 k p o=fiL k p o (o4 l) (p8 true s.2.2 k p o)
 | [],s,_=>rfl
 |f::l,s,hp=>by
  have hs:=b18 (l:=f::l) (i:=0) G;rw[b40,List.drop_succ_cons,b40]at hs;have key:p8 true (P7 s f).2.2 k p o=fiL k p o (match a7a f.p f.b with|none=>[]|some x=>[(f.p,x)]) (p8 true s.2.2 k p o)/\b2l (P7 s f).2.2:=by
   unfold P7 a7a
   split
   .cases hb:N1 f.b with
    |none=>exact⟨G,hp⟩
    |some x=>
     dsimp only[fiL];by_cases hk:((k != 3)&& !decide (x.pkg=p))=true
     .rw [W hk];simp at hk;exact b88 hk.1 hk.2 _ _ _ hp
     .rw [H hk];simp at hk;exact b6w hk _ _ _ hp
   .exact ⟨G,hp⟩
  have ih:=b6T (k:=k) (p:=p) (o:=o) l (P7 s f) key.2;rw[hs];refine ih.trans ?_;rw[key.1];cases a7a f.p f.b with
  |none=>rfl
  |some x=>rfl
theorem c76(h:B4 fl=0)(k:Int)(p o:D):fiE (o4 fl) k p o=p8 true (w8 fl).2.2 k p o:=by
 rw[w8,W h];exact(b6T fl ([],[],[]) λq e h=>by cases h).symm
theorem d3A(h:B4 fl=0){e:En}(hs:glk (w8 fl).2.1 e.pl=some s):b0z (o4 fl) e=(s,e.ix):=by
 have hw:=b0d h;have hm:∃f∈fl,f.p=e.pl:=by
  refine Classical.byContradiction λhn=>?_;have:=hw.non e.pl λf hf hp=>hn ⟨f,hf,hp⟩;rw[this]at hs;cases hs
 obtain⟨f,hf,hp⟩:=hm;have hx:=hw.src f hf;rw[hp,hs]at hx;have hl:(e.pl,s)∈o4 fl:=c73.2 ⟨f,hf,hx.symm,hp.symm⟩;unfold b0z;rw[show(o4 fl).find? (λx=>decide (x.1=e.pl))=some (e.pl,s)from b21 (b1T (c1T h)) hl]
theorem b1G(h:B4 fl=0)(k:Int)(p o:D)(σ:List b9):b8 CC 43 [.agg (a1H ((o4 fl).map Prod.fst) ((o4 fl).map Prod.snd)),iv k,sv p,sv o] σ λr τ=>r= .ret (.agg (p8 true (w8 fl).2.2 k p o).cells)/\τ=σ:=by
 have h1:=a9u (o4 fl) k p o (by have:=(a3R (fl:=fl)).1;have:=(U1 h).1;omega) a3R.2 σ;rwa[c76 h]at h1
theorem c18{me:EM}{L:List D}(hp:L[i]?=some p)(hn:∀q∈L.take i,a0p va me name q=false)(hf:a0p va me name p=true):
 a3X va me name L= .tup [.agg (H2 (p8 va me 1 p name)).cells,.list ((L5 name L (i+1)).map Ky.cv) (gnn (i+1)) none,iv (K0 (p8 va me 1 p name))]:=by
 have h1:a0B va me name L=i+1:=c8o hp hf hn;have h2:S5 va me name L=p8 va me 1 p name:=by unfold S5;rw[h1,a30,hp];rfl
 unfold a3X;rw[h1,h2]
theorem d2Y{me:EM}{l:List D}(hn:∀q∈p::l,a0p va me name q=false)(hz:∀q,0<=(p8 va me 1 q name).ct):
 a3X va me name (p::l)= .tup [.agg En.z.cells,.list ((L5 name (p::l) (l.length+1)).map Ky.cv) (gnn (l.length+1)) none,iv 11]:=by
 have h1:a0B va me name (p::l)=l.length+1:=c1w hn;have h0:(S5 va me name (p::l)).ct=0:=by
  unfold S5;rw[h1,a30]
  split
  .rename_i q hq;have h3:=of_decide_eq_false (hn q (n_3 hq));have h4:=hz q;exact Int.le_antisymm (Int.not_lt.1 h3) h4
  .rfl
 unfold a3X H2 K0;rw[h1,W h0,W h0]
theorem b0P{v:CV}{nn:Bool}(hv:v= .tup [.agg x.cells,.list (ks.map Ky.cv) nn none,iv e]):∃_:Unit,X0 0 τ (.ret (.tup [.agg x.cells,.list (ks.map Ky.cv) nn tok,iv e])) (.ret v)/\True:=by
 rw[hv];exact⟨(),.ret (a7X (.old (En.pure _).old) (V7 λr hr=>by obtain⟨k,_,rfl⟩:=D8.1 hr;exact a1a k) (.old (.val _))),O⟩
theorem a9W{v:CV}{k:Int}(hv:v= .tup [iv k,.agg x.cells,.list (ks.map Ky.cv) true none,iv e]):∃_:Unit,X0 0 τ (.ret (.tup [iv k,.agg x.cells,.list (ks.map Ky.cv) true tok,iv e])) (.ret v)/\True:=by
 rw[hv];exact⟨(),.ret (b54 (.old (.val _)) (.old (En.pure _).old) (V7 λr hr=>by obtain⟨k,_,rfl⟩:=D8.1 hr;exact a1a k) (.old (.val _))),O⟩
theorem c1a{L:List D}(h:i<=L.length):(L5 name L i).length=i:=by unfold L5;rw[N0,b1U];omega
theorem b0s(h:B4 fl=0)(k:Int)(p o:D):0<=(p8 true (w8 fl).2.2 k p o).ct:=by
 have hw:=(b0d h).ent (A9 k p o);unfold p8;rw[W G];cases ho:occ (A9 k p o) fl with
 |nil=>rw[ho]at hw;rw[show glk (w8 fl).2.2 (A9 k p o)=none from hw];exact a5E _
 |cons z t=>
  obtain⟨s,d⟩:=z;rw[ho]at hw;obtain⟨e,h1,h2,_⟩:=hw;rw[h1];show 0<=e.ct;omega
theorem c04(fl:List Fi)(hv:B4 fl=0)(x:Src)(hxi:x.imports.length<=1000)(name:D):b8 CC 47 [.agg (a1H ((o4 fl).map Prod.fst) ((o4 fl).map Prod.snd)),.agg x.cells,sv name] [] λr τ=>∃_:Unit,X0 0 τ r (.ret (a3X true (w8 fl).2.2 name (x.pkg::x.imports)))/\True:=by
 refine qO Tryz.func47 ?_;refine a9N ?_;refine qD (j6 G a0z G i9 ?_);refine qD (c2c G O G G t_2 t_0 t_4 G ?_);refine qD (B6 (m:=1) G O O G G q_3 t_2 t_0 a5s t_4 G (.inr G) q_8 a2h E9 ((x.pkg::x.imports).map scv) (x.imports.length+1) G G5 ?_);refine u P0 ?_;refine B3 hCC 5 G (α:=Nat×List Ky) (λa=>[(2,(sv name)),(3,.ptr 0 0),(6,.ptr 2 0),(9,(.list (a.2.map Ky.cv) (gnn a.2.length) (D6 a.2.length 5))),(18,(.list ((x.pkg::x.imports).map scv) (gnn (x.imports.length+1)) none)),(19,(iv ((x.pkg::x.imports).length:Int))),(20,iv a.1)]) (λa=>[.box (a1H ((o4 fl).map Prod.fst) ((o4 fl).map Prod.snd)),.box x.cells,.box En.z.cells,.dead,.dead,l8 a.2.length]) (λa=>a.1<=(x.pkg::x.imports).length/\a.2=L5 name (x.pkg::x.imports) a.1/\∀q∈(x.pkg::x.imports).take a.1,a0p true (w8 fl).2.2 name q=false) (λa=>(x.pkg::x.imports).length -a.1) ⟨(0,[]),[0,1,2,3,4,99],⟨n_4 _,G,λq hq=>by simp at hq⟩,⟨G,G⟩,ut_,uq_⟩ ?_;intro⟨i,ks⟩ ⟨hi,bi,hn⟩;dsimp only at hi bi hn⊢;have dH:ks.length=i:=by rw[bi];exact c1a hi
 have bo:(x.pkg::x.imports).length=x.imports.length+1:=G;refine qk (qC ?_ ?_)<;> intro h1
 .have ai:i< (x.pkg::x.imports).length:=by simp at h1⊢;omega
  obtain⟨p,hb⟩:∃p,(x.pkg::x.imports)[i]?=some p:=⟨(x.pkg::x.imports)[i]'ai,Q⟩;have hks2:=a9m (name:=name) hb;rw[<- bi]at hks2;refine u a4C ?_;refine u d5k ?_;refine u (A6 [Ky.cv (⟨1,p,name⟩:Ky)] G ⟨O,O⟩ t_5 t_3 a0A G G G G G G G G G) ?_;refine qD (B6 G O O G Q q_3 t_5 t_3 a9G a0A G (.inr G) q_8 c52 E9 ((ks++[(⟨1,p,name⟩:Ky)]).map Ky.cv) (ks++[(⟨1,p,name⟩:Ky)]).length b6z Q ?_);refine u (c5 G c2d ⟨O,G,O,O,O⟩ (b1G hv 1 p name _) G) ?_;refine z_7 ?_;refine qC ?_ ?_<;>intro h2
  .have hc:(p8 true (w8 fl).2.2 1 p name).ct=1:=U h2;have ij:=c18 hb hn (show a0p true (w8 fl).2.2 name p=true from a2m (show 0< (p8 true (w8 fl).2.2 1 p name).ct by omega));rw[H2,K0,H (show ¬(p8 true (w8 fl).2.2 1 p name).ct=0 by omega),H (show ¬1< (p8 true (w8 fl).2.2 1 p name).ct by omega),H (show ¬(p8 true (w8 fl).2.2 1 p name).ct=0 by omega),H (show ¬1< (p8 true (w8 fl).2.2 1 p name).ct by omega),hks2,<- show(ks++[(⟨1,p,name⟩:Ky)]).length=i+1 by simp[dH]]at ij;refine z_8 ?_;exact⟨_,o9 (rs:=[.cell 6 83,.tmp 7,.tmp 8]) (cs:=[_,_,_]) G c5G (n_5 G),(by exact b0P (x:=(p8 true (w8 fl).2.2 1 p name)) (ks:=ks++[(⟨1,p,name⟩:Ky)]) ij)⟩
  .have hc:¬(p8 true (w8 fl).2.2 1 p name).ct=1:=U h2;refine qC ?_ ?_<;>intro h3
   .have hc3:1< (p8 true (w8 fl).2.2 1 p name).ct:=U h3;have ij:=c18 hb hn (show a0p true (w8 fl).2.2 name p=true from a2m (show 0< (p8 true (w8 fl).2.2 1 p name).ct by omega));rw[H2,K0,H (show ¬(p8 true (w8 fl).2.2 1 p name).ct=0 by omega),W hc3,H (show ¬(p8 true (w8 fl).2.2 1 p name).ct=0 by omega),W hc3,hks2,<- show(ks++[(⟨1,p,name⟩:Ky)]).length=i+1 by simp[dH]]at ij;refine a8S ?_;exact⟨_,o9 (rs:=[.cell 6 83,.tmp 7,.tmp 8]) (cs:=[_,_,_]) G c5G (n_5 G),(by exact b0P (x:=En.z) (ks:=ks++[(⟨1,p,name⟩:Ky)]) ij)⟩
   .have hc3:¬1< (p8 true (w8 fl).2.2 1 p name).ct:=U h3;have dx:=b0s hv 1 p name;refine u o3 ?_;exact⟨(i+1,ks++[(⟨1,p,name⟩:Ky)]),[0,1,2,3,4,6],⟨do_,do_,hks2.symm,λq hq=>by
     dsimp only at hq;rw[a3a,hb,Q9]at hq
     rcases hq with hq|hq
     .exact hn q hq
     .simp at hq;subst hq;exact a1R (show ¬0< (p8 true (w8 fl).2.2 1 q name).ct by omega)⟩,⟨G,G⟩,ut_,uq_⟩
 .have fM:i=(x.pkg::x.imports).length:=by simp at h1⊢;omega
  rw[fM,a2p (n_6 _)]at hn;have ij:=d2Y hn (λq=>b0s hv 1 q name);rw[bo]at fM;rw[<- fM,<- bi,<- dH]at ij;refine o6 ?_;refine a8S ?_;exact⟨_,o9 (rs:=[.cell 6 83,.tmp 7,.tmp 8]) (cs:=[_,_,_]) G c5G (n_5 G),(by exact b0P (x:=En.z) (ks:=ks) ij)⟩
theorem c4t(fl:List Fi)(hv:B4 fl=0)(x:Src)(hxi:x.imports.length<=1000)(name:D)(σ:List b9):b8 CC 47 [.agg (a1H ((o4 fl).map Prod.fst) ((o4 fl).map Prod.snd)),.agg x.cells,sv name] σ λr τ=>r= .ret (a3X true (w8 fl).2.2 name (x.pkg::x.imports))/\τ=σ:=
 (F8 (res:=λ_:Unit=>.ret (a3X true (w8 fl).2.2 name (x.pkg::x.imports))) (P:=λ_=>True) hCC (λa h=>by simp at h;rcases h with rfl|rfl|rfl;exact j5 ⟨C1 _ _,a1P _ _,O⟩;exact j5 (Src.pure _);exact .val _) (c04 fl hv x hxi name) (λ_ _=>c0z _ _ _ _) σ).mono λr τ ⟨_,h1,h2,_⟩=>⟨h1,h2⟩
theorem c0Y(fl:List Fi)(nn:Bool)(hv:B4 fl=0)(s:D):b8 CC 50 [.agg (A0 fl nn),.agg (a1H ((o4 fl).map Prod.fst) ((o4 fl).map Prod.snd)),sv s] [] λr τ=>∃_:Unit,X0 0 τ r (.ret (diV fl true (w8 fl).2.2 s))/\True:=by
 refine qO Tryz.func50 ?_;refine a9N ?_;refine qD (j6 G a0z G i9 ?_);refine d6t ?_;refine u (c5 G c3g j2 (a72 fl nn s (by have:=(U1 hv).1;omega) _) G) ?_;refine qC ?_ ?_<;>intro h1
 .have hd:(r8 fl s).isSome=true:=by rw[W hv]at h1;exact h1
  have e1:diV fl true (w8 fl).2.2 s= .tup [(iv (1)),.agg (En.z).cells,.list (([⟨4,s,[]⟩]:List Ky).map Ky.cv) true none,(iv (0))]:=by
   unfold diV diK diE H9 diC H2;simp only[hd,if_true]
  refine a8S ?_;exact⟨_,o9 (rs:=[.tmp 6,.cell 7 83,.tmp 8,.tmp 9]) (cs:=[_,_,_,_]) G b50 (n_5 G),(by exact a9W (x:=En.z) (ks:=[⟨4,s,[]⟩]) e1)⟩
 .have hd:(r8 fl s).isSome=false:=by rw[W hv]at h1;exact h1
  refine u c6F ?_;refine u e1B ?_;refine qD (B6 (m:=1) G O O G G q_3 t_5 t_3 a9G a0A G (.inr G) q_8 c52 E9 (([⟨4,s,[]⟩,⟨3,s,[]⟩]:List Ky).map Ky.cv) 2 G G ?_);refine u (c5 G c2d ⟨O,G,G,O,O⟩ (b1G hv 3 [] s _) G) ?_;refine z_7 ?_;refine qC ?_ ?_<;>intro h2
  .have cK:(diX true (w8 fl).2.2 s).ct=1:=U h2;have hc:¬(diX true (w8 fl).2.2 s).ct=0:=by omega
   have hm:¬1< (diX true (w8 fl).2.2 s).ct:=by omega
   have e4:diV fl true (w8 fl).2.2 s= .tup [(iv (2)),.agg (diX true (w8 fl).2.2 s).cells,.list (([⟨4,s,[]⟩,⟨3,s,[]⟩]:List Ky).map Ky.cv) true none,(iv (0))]:=by
    unfold diV diK diE H9 diC H2;simp only[hd,hc,hm,if_false,a8l]
   refine cF [] [0,1,2] (tl:=[(3,[1]),(4,[]),(5,[])]) ?_;refine chf G b6U ?_;refine chf G O0 ?_;refine chf G c8c ?_;refine c9m ?_;refine⟨⟨C3,O⟩,?_⟩;refine c6b ?_;refine b5o ?_;exact⟨_,o9 (rs:=[.tmp 6,.cell 7 83,.tmp 8,.tmp 9]) (cs:=[_,_,_,_]) G b50 (n_5 G),(by exact a9W (x:=diX true (w8 fl).2.2 s) (ks:=[⟨4,s,[]⟩,⟨3,s,[]⟩]) e4)⟩
  .have cK:¬(diX true (w8 fl).2.2 s).ct=1:=U h2;refine qC ?_ ?_<;>intro h3
   .have hm:1< (diX true (w8 fl).2.2 s).ct:=U h3;have hc:¬(diX true (w8 fl).2.2 s).ct=0:=by omega
    have e3:diV fl true (w8 fl).2.2 s= .tup [(iv (3)),.agg (En.z).cells,.list (([⟨4,s,[]⟩,⟨3,s,[]⟩]:List Ky).map Ky.cv) true none,(iv (12))]:=by
     unfold diV diK diE H9 diC H2;simp only[hd,hc,hm,if_true,if_false,a8l]
    refine a8S ?_;exact⟨_,o9 (rs:=[.tmp 6,.cell 7 83,.tmp 8,.tmp 9]) (cs:=[_,_,_,_]) G b50 (n_5 G),(by exact a9W (x:=En.z) (ks:=[⟨4,s,[]⟩,⟨3,s,[]⟩]) e3)⟩
   .have hm:¬1< (diX true (w8 fl).2.2 s).ct:=U h3;have hz:0<=(diX true (w8 fl).2.2 s).ct:=b0s hv 3 [] s;have hc:(diX true (w8 fl).2.2 s).ct=0:=by omega
    have e2:diV fl true (w8 fl).2.2 s= .tup [(iv (0)),.agg (En.z).cells,.list (([⟨4,s,[]⟩,⟨3,s,[]⟩]:List Ky).map Ky.cv) true none,(iv (14))]:=by
     unfold diV diK diE H9 diC H2;simp only[hd,hc,if_true,if_false,a8l]
    refine a8S ?_;exact⟨_,o9 (rs:=[.tmp 6,.cell 7 83,.tmp 8,.tmp 9]) (cs:=[_,_,_,_]) G b50 (n_5 G),(by exact a9W (x:=En.z) (ks:=[⟨4,s,[]⟩,⟨3,s,[]⟩]) e2)⟩
theorem c56(fl:List Fi)(nn:Bool)(hv:B4 fl=0)(s:D)(σ:List b9):b8 CC 50 [.agg (A0 fl nn),.agg (a1H ((o4 fl).map Prod.fst) ((o4 fl).map Prod.snd)),sv s] σ λr τ=>r= .ret (diV fl true (w8 fl).2.2 s)/\τ=σ:=
 (F8 (res:=λ_:Unit=>.ret (diV fl true (w8 fl).2.2 s)) (P:=λ_=>True) hCC (λa h=>by simp at h;rcases h with rfl|rfl|rfl;exact j5 (cs:=A0 _ _) ⟨F5 _ _,O⟩;exact j5 ⟨C1 _ _,a1P _ _,O⟩;exact .val _) (c0Y fl nn hv s) (λ_ _=>b8X _ _ _ _) σ).mono λr τ ⟨_,h1,h2,_⟩=>⟨h1,h2⟩
theorem c1P(l:List Ky)(k q:Nat):ShV k q (a0x l k) (a0x l q):=by
 cases l with
 |nil=>exact .inl G
 |cons x l=>exact .inr (.inl ⟨_,_,G,G⟩)
theorem a1m(n:Nat)(l:List Ky):G1 n (D9 l):=by
 cases l with
 |nil=>exact O
 |cons x l=>exact a0M n (x::l)
theorem a2G{L:Nat}{am:List Nat}(l:List Ky)(h:am[j]?=some k):B5 L am (a0x l k) (a0x l j):=by
 cases l with
 |nil=>exact .old (P3 _ ([]:List Ky) _)
 |cons x l=>exact .vec h
theorem b7e(l:List Ky)(k:Ky)(hl:l.length<=1000000){l':List Ky}(bz:J8 l k=l')(σ:List b9)(q:Nat)(hq:σ[q]?=some (D9 l)):b8 CC 73 [(a0x l q).fgt,.agg k.cells] σ λr τ=>∃_:Unit,r= .ret (a0x l' σ.length)/\τ=σ.set q .dead++[D9 l']/\True:=by
 subst bz;refine b8v (a9i l k (a1F hl I) σ q hq) (λr τ ⟨g,h1,h2,h3⟩=>?_) (λc τ ⟨g,h1,_⟩=>by cases h1);rw[a2B (a96 l k),a2y (a96 l k)];cases g
 .refine .inr ⟨q,D9 l,0,_,by rw[h2];exact hq,h1,(),?_,?_,O⟩
  .rw [h2];rfl
  .have e:=h3 G;rw[h2,e];show σ.set q .dead++[D9 l]=_;rw[a2y (e▸a96 l k)]
 .exact .inl ⟨(),h1,h2,O⟩
theorem b0A(l:List Ky):H3 R (D9 l) (D9 l):=by
 cases l with
 |nil=>exact .dead
 |cons x l=>exact a7o (R1 (x::l))
def trk(S:MS):List Ky:=a5P (kys S)
theorem b7J(S:MS)(ks:List Ky):trk (S.look ks)=ks.foldl J8 (trk S):=by
 have h:ks.foldl J8 (trk S)=a5P (kys S++ks):=by unfold trk a5P;rw[b3v]
 rw[h];exact b1w (L2 _).1 (L2 _).1 λk=>(L2 _).2 k |>.trans (a2W.trans (Q9.symm.trans ((L2 _).2 k).symm))
def Ne0{α:Type}(o:Rs α):Prop:=∀e,o.1 = .inr e->e≠0
theorem Ne0.l{a:α}:Ne0 ((.inl a,S):Rs α):=λe h=>by cases h
variable{l:List Ky}
theorem Ne0.r(h:e≠0):Ne0 ((.inr e,S):Rs α):=λe' h'=>by injection h' with h';subst h';exact h
theorem Ne0.bind{β:Type}{o:Rs α}{k:α->MS->Rs β}(h:Ne0 o)(hk:∀v S,Ne0 (k v S)):Ne0 (bindM o k):=by
 obtain⟨x,S⟩:=o;cases x with
 |inl a=>exact hk a S
 |inr e=>exact λe' h'=>h e' (by injection h' with h';rw[h'])
theorem Ne0.ite{p:Prop} [Decidable p]{a b:Rs α}(h1:Ne0 a)(h2:Ne0 b):Ne0 (if p then a else b):=by split;exact h1;exact h2
theorem c3J{rec:Int->MS->Rs Int}(h:∀i S,Ne0 (rec i S)):∀(l acc:List Int) (S:MS),Ne0 (W3 rec acc l S)
 | [],_,_=>Ne0.l
 |a::l,_,S=>(h a S).bind λ_ S=>c3J h l _ S
theorem b6i{c:MC}(h:∀F i S,Ne0 (rec F i S))(x:En)(args:List Int)(an:Bool)(S:MS):Ne0 (H5 rec c x args an S):=by
 unfold H5
 split
 .exact Ne0.r I
 .split
  .exact Ne0.l
  .exact (h _ _ _).bind λ_ _=>Ne0.l
theorem d9x{a:Int ⊕ Int}(h:∀e,a= .inr e->e≠0):Ne0 ((a,S):Rs Int):=h
theorem e0D(v e:Int)(h:a1q v= .inr e):e≠0:=by
 unfold a1q at h;split at h
 .cases h
 .injection h with h;subst h;decide
theorem e2f(o a b:Int)(S:MS):Ne0 ((biV o a b,S):Rs Int):=d9x λe h=>by
 unfold biV at h
 repeat' split at h
 all_goals first|exact e0D _ _ h|(injection h with h;subst h;decide)|cases h
theorem d5J{c:MC}(h:∀F i S,Ne0 (rec F i S))(F:Fr)(x:Ex)(S:MS):Ne0 (W6 rec c F x S):=by
 unfold W6
 split
 .exact Ne0.l
 split
 .exact Ne0.l
 split
 .unfold a1A
  split
  .rename_i hc;exact Ne0.r hc
  .refine (c3J (h F) _ _ _).bind λvs S2=>?_
   split
   .exact Ne0.r I
   .exact b6i h _ _ _ _
 split
 .unfold biS;exact(h _ _ _).bind λ_ _=>(h _ _ _).bind λ_ _=>e2f _ _ _ _
 split
 .unfold a5k;refine(h _ _ _).bind λ_ _=>?_
  split<;>exact h _ _ _
 split
 .unfold a0I
  split
  .rename_i hc;exact Ne0.r hc
  .refine (h _ _ _).bind λ_ _=>Ne0.ite (Ne0.r I) ?_
   split
   .exact Ne0.l
   .exact (b6i h _ _ _ _).bind λ_ _=>Ne0.l
 split
 .unfold a87
  split
  .rename_i hc;exact Ne0.r hc
  .split<;>exact Ne0.l
 split
 .exact Ne0.l
 split
 .unfold b6h
  split
  .exact Ne0.l
  .exact Ne0.r I
 .exact Ne0.l
theorem c0V(c:MC):∀(n:Nat) (F:Fr) (i:Int) (S:MS),Ne0 (evN c n F i S)
 |0,_,_,_=>Ne0.r I
 |n+1,F,i,S=>by
  rw[evN,W2]
  split
  .exact Ne0.r I
  .split
   .exact Ne0.l
   .exact d5J (c0V c n) _ _ _
def vlF:Int ⊕ Int->Int
 | .inl a=>a
 | .inr _=>0
def erF:Int ⊕ Int->Int
 | .inl _=>0
 | .inr e=>e
abbrev rgm(c:MC)(S:MS)(e d:Int)(q:Nat):b9:=.box [.list (c.fl.map Fi.cv) c.nn none,.list (((o4 c.fl).map Prod.fst).map scv) (gnn ((o4 c.fl).map Prod.fst).length) none,.list (((o4 c.fl).map Prod.snd).map Src.cv) (gnn ((o4 c.fl).map Prod.snd).length) none,.list (c.ev.map Va.cv) c.en none,.val (.int .u64 c.wd),iv 0,iv 0,iv 0,.val (.bool S.rn),a0x (trk S) q,iv S.st,iv e,iv d]
abbrev rgs(c:MC)(S:MS)(e d:Int):List b9:=[rgm c S e d 1,D9 (trk S)]
abbrev RSt:=Int×MS×Int×Int
variable{K:RSt->Prop}
def a5H(o:Rs Int)(d:Int):RSt:=(vlF o.1,o.2,erF o.1,d)
theorem b81(l:List Ky)(h:R q q'):O1 R (a0x l q) (a0x l q'):=by
 cases l with
 |nil=>exact .pure (D1 ([]:List Ky) _)
 |cons x l=>exact .vec h
theorem c2b{c:MC}(h:R q q'):H3 R (rgm c S e d q) (rgm c S e d q'):=
 .box (.cons (.pure (F5 _ _)) (.cons (.pure (C1 _ _)) (.cons (.pure (a1P _ _)) (.cons (.pure (a26 _ _)) (.cons (.pure (.val _)) (.cons (.pure (.val _)) (.cons (.pure (.val _)) (.cons (.pure (.val _)) (.cons (.pure (.val _)) (.cons (b81 _ h) (.cons (.pure (.val _)) (.cons (.pure (.val _)) (.cons (.pure (.val _)) .nil)))))))))))))
theorem a95{c:MC}(h:R q q')(i:Nat)(ob:b9)(ho:[rgm c S e d q,D9 (trk S)][i]?=some ob):∃aH,[rgm c S e d q',D9 (trk S)][i]?=some aH/\H3 R ob aH:=by
 rcases i with _|_|i
 .injection ho with ho;subst ho;exact⟨_,G,c2b h⟩
 .injection ho with ho;subst ho;exact⟨_,G,b0A _⟩
 .cases ho
def RS(f:FuncId)(args:List CV)(c:MC)(S:MS)(e d:Int)(K:RSt->Prop):Prop:=b8 CC f (.ptr 0 0::args) (rgs c S e d) λr τ=>∃x:RSt,C9 2 τ r (.ret (ivc x.1)) (rgs c x.2.1 x.2.2.1 x.2.2.2)/\K x
theorem RS.at{c:MC}(h:RS f args c S e d K)(ap:∀a∈args,o8 a)(hqt:q≠t)(h1:σ[q]?=some (rgm c S e d t))(h2:σ[t]?=some (D9 (trk S))):
 b8 CC f (.ptr q 0::args) σ λr τ=>∃x:RSt,r= .ret (ivc x.1)/\τ=a8n σ [q,t] [rgm c x.2.1 x.2.2.1 x.2.2.2 t,D9 (trk x.2.1)]/\K x:=
 a3u (α:=RSt) (obs:=rgs c S e d) (res:=λx=>.ret (ivc x.1)) (res':=λx=>.ret (ivc x.1)) (S:=λx=>rgs c x.2.1 x.2.2.1 x.2.2.2) (S':=λx=>[rgm c x.2.1 x.2.2.1 x.2.2.2 t,D9 (trk x.2.1)]) (P:=K) [q,t] hCC G (a1X (by simp[Y9,hqt])) (λi k ob g1 g2=>by
  obtain⟨aH,g3,g4⟩:=a95 (R:=λi k=>[q,t][i]?=some k) (q':=t) G i ob g2;refine⟨aH,?_,g4.symm λ_ _ h=>h⟩
  rcases i with _|_|i
  .injection g1 with g1;injection g3 with g3;subst g1 g3;exact h1
  .injection g1 with g1;injection g3 with g3;subst g1 g3;exact h2
  .cases g1) (.cons (.ptr G) (G7 ap)) (D7 hCC (h.mono λ_ _ ⟨x,g1,g2⟩=>⟨_,_,g1,x,G,G,g2⟩)) V9 (λx i k ob g1 g2=>a95 (R:=λi k=>[q,t][i]?=some k) G i ob g2) λ_=>.ret (.pure (.val _))
def RE(f:FuncId)(args:List CV)(c:MC)(S:MS)(e d:Int)(K:RSt->Prop):Prop:=b8 CC f (.ptr 0 0::args) (rgs c S e d) λr τ=>∃x:RSt,(C9 2 τ r (.ret (ivc x.1)) [rgm c x.2.1 x.2.2.1 x.2.2.2 2,.dead,D9 (trk x.2.1)]\/C9 2 τ r (.ret (ivc x.1)) (rgs c x.2.1 x.2.2.1 x.2.2.2))/\K x
def RC(f:FuncId)(args:List CV)(c:MC)(S:MS)(e d:Int)(K:RSt->Prop):Prop:=b8 CC f (.ptr 0 0::args) (rgs c S e d) λr τ=>∃x:RSt,r= .ret (ivc x.1)/\τ=[rgm c x.2.1 x.2.2.1 x.2.2.2 2,.dead,D9 (trk x.2.1)]/\K x
theorem RE.c{f:FuncId}{args:List CV}{c:MC}{S:MS}{e d:Int}{K:RSt->Prop}(h:RE f args c S e d K):RC f args c S e d K:=
 b5q (D7 (K:=λr τ=>∃x:RSt,r= .ret (ivc x.1)/\(τ=[rgm c x.2.1 x.2.2.1 x.2.2.2 2,.dead,D9 (trk x.2.1)]\/τ=rgs c x.2.1 x.2.2.1 x.2.2.2)/\K x) hCC (h.mono λr τ ⟨x,h1,h2⟩=>h1.elim (λh1=>⟨_,_,h1,x,G,.inl G,h2⟩) λh1=>⟨_,_,h1,x,G,.inr G,h2⟩)) (λr τ ⟨x,h1,h2,h3⟩=>by
  rcases h2 with h2|h2
  .exact .inl ⟨x,h1,h2,h3⟩
  .refine .inr ⟨_,1,0,D9 (trk x.2.1),[.list (c.fl.map Fi.cv) c.nn none,.list (((o4 c.fl).map Prod.fst).map scv) (gnn ((o4 c.fl).map Prod.fst).length) none,.list (((o4 c.fl).map Prod.snd).map Src.cv) (gnn ((o4 c.fl).map Prod.snd).length) none,.list (c.ev.map Va.cv) c.en none,.val (.int .u64 c.wd),iv 0,iv 0,iv 0,.val (.bool x.2.1.rn),a0x (trk x.2.1) 1,iv x.2.1.st,iv x.2.2.1,iv x.2.2.2],[.list (c.fl.map Fi.cv) c.nn none,.list (((o4 c.fl).map Prod.fst).map scv) (gnn ((o4 c.fl).map Prod.fst).length) none,.list (((o4 c.fl).map Prod.snd).map Src.cv) (gnn ((o4 c.fl).map Prod.snd).length) none,.list (c.ev.map Va.cv) c.en none,.val (.int .u64 c.wd),iv 0,iv 0,iv 0,.val (.bool x.2.1.rn),a0x (trk x.2.1) 2,iv x.2.1.st,iv x.2.2.1,iv x.2.2.2],h1,by rw[h2];rfl,I,by rw[h2];rfl,G,λi y y' g1 g2=>?_,x,h1,by rw[h2];rfl,h3⟩;rw[h2]
   rcases i with _|_|_|_|_|_|_|_|_|_|_|_|_|i
   iterate 9 (injection g1 with g1;injection g2 with g2;exact .inl (g1.symm.trans g2))
   .injection g1 with g1;injection g2 with g2;subst g1 g2;exact c1P _ _ _
   iterate 3 (injection g1 with g1;injection g2 with g2;exact .inl (g1.symm.trans g2))
   .cases g1) (λc τ ⟨x,h1,_⟩=>by cases h1)
variable{c:MC}
theorem c7D{res:RSt->CV}(dy:∀x,o8 (res x))(h:b8 CC f (.ptr 0 0::args) (rgs c S e d) λr τ=>∃x:RSt,r= .ret (res x)/\τ=[rgm c x.2.1 x.2.2.1 x.2.2.2 2,.dead,D9 (trk x.2.1)]/\K x)(ap:∀a∈args,o8 a)(hqt:q≠t)(h1:σ[q]?=some (rgm c S e d t))(h2:σ[t]?=some (D9 (trk S))):
 b8 CC f (.ptr q 0::args) σ λr τ=>∃x:RSt,r= .ret (res x)/\τ=(σ.set q (rgm c x.2.1 x.2.2.1 x.2.2.2 σ.length)).set t .dead++[D9 (trk x.2.1)]/\K x:=by
 have hq:q<σ.length:=(n_2.1 h1).1;have ht:t<σ.length:=(n_2.1 h2).1;refine I9 [q,t] hCC G (a1X (by simp[Y9,hqt])) (λi k ob g1 g2=>by
  obtain⟨aH,g3,g4⟩:=a95 (R:=λi k=>[q,t][i]?=some k) (q':=t) G i ob g2;refine⟨aH,?_,g4.symm λ_ _ h=>h⟩
  rcases i with _|_|i
  .injection g1 with g1;injection g3 with g3;subst g1 g3;exact h1
  .injection g1 with g1;injection g3 with g3;subst g1 g3;exact h2
  .cases g1) (.cons (.ptr G) (G7 ap)) h λr τ ⟨x,e1,e2,e3⟩=>?_
 subst e1 e2;refine⟨(show 2<=3 by decide),_,(σ.set q (rgm c x.2.1 x.2.2.1 x.2.2.2 σ.length)).set t .dead++[D9 (trk x.2.1)],.ret (.pure (dy x)),Q,λk hk bi=>?_,λi k y ha hy=>?_,x,G,G,e3⟩
 .have hkq:q≠k:=λe=>bi a2v;have gq:t≠k:=λe=>bi a2v;rw[T6 (U hk),a1c gq,a1c hkq]
 .have hn:Y6 [q,t] σ.length 2 σ.length:=.inr ⟨n_6 _,G⟩
  rcases i with _|_|_|i
  .injection hy with hy;subst hy
   have hk:k=q:=by rcases ha with ha|⟨ha,_⟩;injection ha with ha;exact ha.symm;exact absurd (show 2<=0 from ha) I
   subst hk;refine⟨_,?_,c2b hn⟩;rw[T6 (U hq),a1c (Ne.symm hqt),b2E hq]
  .injection hy with hy;subst hy
   have hk:k=t:=by rcases ha with ha|⟨ha,_⟩;injection ha with ha;exact ha.symm;exact absurd (show 2<=1 from ha) I
   subst hk;refine⟨.dead,?_,.dead⟩;rw[T6 (U ht),b2E (U ht)]
  .injection hy with hy;subst hy
   have hk:k=σ.length:=by rcases ha with ha|⟨_,ha⟩;cases ha;exact ha
   subst hk;refine⟨_,?_,b0A _⟩;rw[a5O Q];simp
  .cases hy
theorem RC.at(h:RC f args c S e d K)(ap:∀a∈args,o8 a)(hqt:q≠t)(h1:σ[q]?=some (rgm c S e d t))(h2:σ[t]?=some (D9 (trk S))):
 b8 CC f (.ptr q 0::args) σ λr τ=>∃x:RSt,r= .ret (ivc x.1)/\τ=(σ.set q (rgm c x.2.1 x.2.2.1 x.2.2.2 σ.length)).set t .dead++[D9 (trk x.2.1)]/\K x:=c7D (res:=λx=>ivc x.1) (λ_=>.val _) h ap hqt h1 h2
theorem a1i(v:Int)(S:MS)(e d:Int)(rest:List b9)(hK:K (v,S,e,d))(eT:τ=rgs c S e d++rest):∃x:RSt,C9 2 τ (.ret (ivc v)) (.ret (ivc x.1)) (rgs c x.2.1 x.2.2.1 x.2.2.2)/\K x:=by
 subst eT;exact⟨(v,S,e,d),⟨[0,1],G,G,.ret (.old (.val _)),.inr ⟨_,G,.box ⟨.old Q4,.old H8,.old a3k,.old (X9 _ _ _),.old (.val _),.old (.val _),.old (.val _),.old (.val _),.old (.val _),a2G _ G,.old (.val _),.old (.val _),.old (.val _),O⟩⟩,.inr ⟨_,G,.same G (a1m _ _)⟩,O⟩,hK⟩
theorem b2O(v:Int)(S:MS)(e d:Int)(rest:List b9)(hK:K (v,S,e,d))(eT:τ=rgs c S e d++rest):∃x:RSt,(C9 2 τ (.ret (ivc v)) (.ret (ivc x.1)) [rgm c x.2.1 x.2.2.1 x.2.2.2 2,.dead,D9 (trk x.2.1)]\/C9 2 τ (.ret (ivc v)) (.ret (ivc x.1)) (rgs c x.2.1 x.2.2.1 x.2.2.2))/\K x:=by
 obtain⟨x,h1,h2⟩:=a1i v S e d rest hK eT;exact⟨x,.inr h1,h2⟩
theorem W1(v:Int)(S:MS)(e d:Int)(n:Nat)(hK:K (v,S,e,d))(h0:τ[0]?=some (rgm c S e d n))(h2:τ[n]?=some (D9 (trk S)))(hn:Y9 [0,1,n]=true:=by rfl):∃x:RSt,(C9 2 τ (.ret (ivc v)) (.ret (ivc x.1)) [rgm c x.2.1 x.2.2.1 x.2.2.2 2,.dead,D9 (trk x.2.1)]\/C9 2 τ (.ret (ivc v)) (.ret (ivc x.1)) (rgs c x.2.1 x.2.2.1 x.2.2.2))/\K x:=
 ⟨(v,S,e,d),.inl ⟨[0,1,n],G,hn,.ret (.old (.val _)),.inr ⟨_,h0,.box ⟨.old Q4,.old H8,.old a3k,.old (X9 _ _ _),.old (.val _),.old (.val _),.old (.val _),.old (.val _),.old (.val _),a2G _ G,.old (.val _),.old (.val _),.old (.val _),O⟩⟩,.inl G,.inr ⟨_,h2,.same G (a1m _ _)⟩,O⟩,hK⟩
theorem a1k{x:CV}(h:o8 x):∀a∈[x],o8 a:=λa ha=>by rw[a0r.1 ha];exact h
theorem d6f{x y:CV}(h:o8 x)(h':o8 y):∀a∈[x,y],o8 a:=λa ha=>by
 rcases I0.1 ha with rfl|ha
 .exact h
 .exact a1k h' a ha
theorem S6(c:MC)(S:MS)(d:Int)(e:Int):RS 98 [iv e] c S 0 d (λx=>x=(0,S,e,d)):=by
 unfold RS;refine qO Tryz.func98 ?_;refine cC ?_ ?_<;>intro h1
 .refine qk (qD (i0 G O O G j1 b4Z (.inl G) G G (nb G) ?_));refine c6 ?_;exact⟨_,I8 G O G,a1i 0 S e d [] G G⟩
 .exfalso;simp at h1
theorem a9l(c:MC)(S:MS)(d:Int)(v:Int):RS 191 [iv v] c S 0 d (λx=>x=(vlF (a1q v),S,erF (a1q v),d)):=by
 unfold RS;refine qO Tryz.func191 ?_;refine qG F9 ?_;refine a5A ?_;refine qC ?_ ?_<;>intro h1
 .have hr:a1q v= .inr 3:=H λh=>by
   simp at h1;omega
  refine qD (c4 G a9M m0 (RS.at (q:=0) (t:=1) (S6 c S d 3) (a1k (.val _)) I G G) G ?_);intro x hx;subst hx;refine qN (rgs c S 3 d) G ?_;refine c6 ?_;exact⟨_,I8 G O G,a1i 0 S 3 d [] c1Y G⟩
 .have hr:a1q v= .inl v:=W (sm_ h1);refine c6 ?_;exact⟨_,I8 G O G,a1i v S 0 d [] c1Y G⟩
def b5x(a b:Int):Int ⊕ Int:=if b≠0/\9007199254740992 / max b (-b)<max a (-a)then .inr 3 else a1q (a*b)
theorem d1s(h0:b≠0)(h:9007199254740992 / max b (-b)<max a (-a)):b5x a b= .inr 3:=W ⟨h0,h⟩
theorem b4j(h:a=0\/b=0\/max a (-a)<=9007199254740992 / max b (-b)):b5x a b= .inl (a*b)/\-9223372036854775808<=a*b/\a*b<=9223372036854775807:=by
 by_cases hb:b=0
 .subst hb;refine⟨(H λh=>h.1 G).trans ?_,Q,Q⟩;rw[Int.mul_zero];rfl
 have hp:0<max b (-b):=by omega
 have h1:max a (-a)<=9007199254740992 / max b (-b):=by
  rcases h with rfl|h|h
  .simp;exact Int.ediv_nonneg I J
  .exact absurd h hb
  .exact h
 have h2:=(Int.le_ediv_iff_mul_le hp).1 h1;have e1:max a (-a)=(a.natAbs:Int):=by omega
 have e2:max b (-b)=(b.natAbs:Int):=by omega
 rw[e1,e2]at h2;have e3:((a*b).natAbs:Int)=(a.natAbs:Int)*(b.natAbs:Int):=by rw[Int.natAbs_mul];rfl
 rw[<- e3]at h2;refine⟨(H λh=>Int.not_lt.2 h1 h.2).trans ?_,J,J⟩;rw[a1q,W J]
theorem b7E(c:MC)(S:MS)(d:Int)(a b:Int)(ha:InM a)(hb:InM b):RS 192 [iv a,iv b] c S 0 d (λx=>x=(vlF (b5x a b),S,erF (b5x a b),d)):=by
 unfold RS;refine cO Tryz.func192 ?_;refine qs 3 (qG F9 ?_);refine a5A ?_;refine qC ?_ ?_<;>intro h1
 .have hz:a=0\/b=0:=U h1;have hm:b5x a b= .inl 0:=by
   rw[(b4j (hz.imp id .inl)).1]
   rcases hz with rfl|rfl<;>simp
  refine c6 ?_;exact⟨_,I8 G O G,a1i 0 S 0 d [] (by rw[hm];rfl) G⟩
 .have hz:¬a=0/\¬b=0:=U h1;obtain⟨ha0,ge⟩:=hz;obtain⟨je,ha2⟩:=ha;obtain⟨hb1,bD⟩:=hb;have wb:IntKind.i64.wrap (-b)= -b:=a5B J J;have wa0:IntKind.i64.wrap (0-a)= -a:=by rw[a5B J J];omega
  have wb0:IntKind.i64.wrap (0-b)= -b:=by rw[a5B J J];omega
  refine K5 (α:=Int) (λx=>[(0,.ptr 0 0),(1,iv a),(2,iv b),(7,iv x),(8,iv b)]) (λ_=>rgs c S 0 d) (λx=>x=max a (-a)) ?_ ?_
  .
   refine qk (qC ?_ ?_)<;> intro h2
   .refine u (c3S G O G) ?_;exact⟨(-a),(sm_ h2),⟨M9,M9,M9,⟨O,n_7 (λz:Int=>(iv z)) (show IntKind.i64.wrap (0-a)= -a from wa0)⟩,M9,O⟩,G⟩
   .exact ⟨a,(sm_ h2),tu_,G⟩
  .intro x _ hx;subst hx;refine qk (qC ?_ ?_)<;> intro h3
   .have hbn:b<0:=U h3;have hmx:max b (-b)= -b:=by omega
    refine u (c3S G O G) ?_;refine u (a0e G G O G G (c6L I (by rw[wb0];omega) I)) ?_;refine qC ?_ ?_<;>intro h4
    .have hm:=d1s ge (a:=a) (by rw[hmx,Int.ediv_neg];simp[wb]at h4;omega);refine qD (c4 G a9M m0 (RS.at (q:=0) (t:=1) (S6 c S d 3) (a1k (.val _)) I G G) G ?_);intro x hx;subst hx;refine qN (rgs c S 3 d) G ?_;refine c6 ?_;exact⟨_,I8 G O G,a1i 0 S 3 d [] (by rw[hm];rfl) G⟩
    .obtain ⟨hm,cz,cc⟩:=b4j (a:=a) (b:=b) (.inr (.inr (by rw[hmx,Int.ediv_neg];simp[wb]at h4;omega)));refine u (b7O G O O G G J J) ?_;refine c6 ?_;exact⟨_,I8 G O G,a1i (a*b) S 0 d [] (by rw[hm];rfl) G⟩
   .have hbn:¬b<0:=U h3;have hmx:max b (-b)=b:=by omega
    refine u (a0e G G O G G (c6L I J I)) ?_;refine qC ?_ ?_<;>intro h5
    .have hm:=d1s ge (a:=a) (by rw[hmx];simp[wb]at h5;omega);refine qD (c4 G a9M m0 (RS.at (q:=0) (t:=1) (S6 c S d 3) (a1k (.val _)) I G G) G ?_);intro x hx;subst hx;refine qN (rgs c S 3 d) G ?_;refine c6 ?_;exact⟨_,I8 G O G,a1i 0 S 3 d [] (by rw[hm];rfl) G⟩
    .obtain ⟨hm,cz,cc⟩:=b4j (a:=a) (b:=b) (.inr (.inr (by rw[hmx];simp[wb]at h5;omega)));refine u (b7O G O O G G J J) ?_;refine c6 ?_;exact⟨_,I8 G O G,a1i (a*b) S 0 d [] (by rw[hm];rfl) G⟩
theorem c00(c:MC)(S:MS)(d:Int)(o a b:Int)(ho:1<=o/\o<=7)(ha:InM a)(hb:InM b):RS 150 [iv o,iv a,iv b] c S 0 d (λx=>x=(vlF (biV o a b),S,erF (biV o a b),d)):=by
 unfold RS;have eE:=ha.1;have da:=ha.2;have hj1:=hb.1;have hj2:=hb.2;refine qO Tryz.func150 ?_;refine qC ?_ ?_<;>intro h1
 .have n1:o=1:=U h1;have hm:biV o a b=a1q (a+b):=by rw[biV,W n1]
  refine u a8O ?_;refine qD (c4 G Tryz.call191 j2 (RS.at (q:=0) (t:=1) (a9l c S d (a+b)) (a1k (.val _)) I G G) G ?_);intro x hx;subst hx;refine qN (rgs c S (erF (a1q (a+b))) d) G ?_;refine c6 ?_;exact⟨_,I8 G O G,a1i (vlF (a1q (a+b))) S (erF (a1q (a+b))) d [] a8Q G⟩
 .have n1:¬o=1:=U h1;refine qC ?_ ?_<;>intro h2
  .have n2:o=2:=U h2;have hm:biV o a b=a1q (a-b):=by rw[biV,H n1,W n2]
   refine u (a9n G O O G G J J) ?_;refine qD (c4 G Tryz.call191 j2 (RS.at (q:=0) (t:=1) (a9l c S d (a-b)) (a1k (.val _)) I G G) G ?_);intro x hx;subst hx;refine qN (rgs c S (erF (a1q (a-b))) d) G ?_;refine c6 ?_;exact⟨_,I8 G O G,a1i (vlF (a1q (a-b))) S (erF (a1q (a-b))) d [] a8Q G⟩
  .have n2:¬o=2:=U h2;refine qC ?_ ?_<;>intro h3
   .have n3:o=3:=U h3;have hm:biV o a b=b5x a b:=by rw[biV,H n1,H n2,W n3];rfl
    refine qD (c4 G Tryz.call192 D0 (RS.at (q:=0) (t:=1) (b7E c S d a b ha hb) (d6f (.val _) (.val _)) I G G) G ?_);intro x hx;subst hx;refine qN (rgs c S (erF (b5x a b)) d) G ?_;refine c6 ?_;exact⟨_,I8 G O G,a1i (vlF (b5x a b)) S (erF (b5x a b)) d [] a8Q G⟩
   .have n3:¬o=3:=U h3;refine qC ?_ ?_<;>intro h4
    .have n6:o=6:=U h4;have n4:¬o=4:=by omega
     have n5:¬o=5:=by omega
     refine qC ?_ ?_<;>intro h5
     .have hm:biV o a b= .inl 1:=by rw[biV,H n1,H n2,H n3,H n4,H n5,W n6,W (U h5)]
      exact d6q
     .have hm:biV o a b= .inl 0:=by rw[biV,H n1,H n2,H n3,H n4,H n5,W n6,H (U h5)]
      exact d6j
    .have n6:¬o=6:=U h4;refine qC ?_ ?_<;>intro h6
     .have n7:o=7:=U h6;have n4:¬o=4:=by omega
      have n5:¬o=5:=by omega
      refine qC ?_ ?_<;>intro h7
      .have hm:biV o a b= .inl 1:=by rw[biV,H n1,H n2,H n3,H n4,H n5,H n6,W (U h7)]
       exact d6q
      .have hm:biV o a b= .inl 0:=by rw[biV,H n1,H n2,H n3,H n4,H n5,H n6,H (U h7)]
       exact d6j
     .have n7:¬o=7:=U h6;have n45:o=4\/o=5:=by omega
      refine qC ?_ ?_<;>intro h8
      .have ge:b=0:=U h8;have hm:biV o a b= .inr 4:=by
        rw[biV,H n1,H n2,H n3]
        rcases n45 with n4|n5
        .rw [W n4,W ge]
        .rw [H J,W n5,W ge]
       refine qD (c4 G a9M m0 (RS.at (q:=0) (t:=1) (S6 c S d 4) (a1k (.val _)) I G G) G ?_);intro x hx;subst hx;refine qN (rgs c S 4 d) G ?_;refine c6 ?_;exact⟨_,I8 G O G,a1i 0 S 4 d [] a8Q G⟩
      .have ge:¬b=0:=U h8;obtain⟨je,ha2⟩:=ha;have hq:=Int.natAbs_tdiv_le_natAbs a b;refine qC ?_ ?_<;>intro h9
       .have n4:o=4:=U h9;have hm:biV o a b= .inl (a.tdiv b):=by rw[biV,H n1,H n2,H n3,W n4,H ge,a1q,W J]
        refine u (a0e G O O G G (e0J ⟨je,ha2⟩ ge)) ?_;refine c6 ?_;exact⟨_,I8 G O G,a1i (a.tdiv b) S 0 d [] a8Q G⟩
       .have n4:¬o=4:=U h9;have n5:o=5:=n45.resolve_left n4;have bS:=Int.natAbs_tmod a b;have hq3:=Nat.mod_le a.natAbs b.natAbs;have hm:biV o a b= .inl (a.tmod b):=by rw[biV,H n1,H n2,H n3,H n4,W n5,H ge,a1q,W J]
        refine u (a0e G O O G G (b4f ge)) ?_;refine c6 ?_;exact⟨_,I8 G O G,a1i (a.tmod b) S 0 d [] a8Q G⟩
theorem c2Z{L:Nat}:∀(i:Nat) (y y':CV),([.list (c.fl.map Fi.cv) c.nn none,.list (((o4 c.fl).map Prod.fst).map scv) (gnn ((o4 c.fl).map Prod.fst).length) none,.list (((o4 c.fl).map Prod.snd).map Src.cv) (gnn ((o4 c.fl).map Prod.snd).length) none,.list (c.ev.map Va.cv) c.en none,.val (.int .u64 c.wd),iv 0,iv 0,iv 0,.val (.bool S.rn),a0x (trk S) k,iv S.st,iv e,iv d]:List CV)[i]?=some y->([.list (c.fl.map Fi.cv) c.nn none,.list (((o4 c.fl).map Prod.fst).map scv) (gnn ((o4 c.fl).map Prod.fst).length) none,.list (((o4 c.fl).map Prod.snd).map Src.cv) (gnn ((o4 c.fl).map Prod.snd).length) none,.list (c.ev.map Va.cv) c.en none,.val (.int .u64 c.wd),iv 0,iv 0,iv 0,.val (.bool S.rn),a0x (trk S) L,iv S.st,iv e,iv d]:List CV)[i]?=some y'->ShV k L y y':=λi y y' g1 g2=>by
 rcases i with _|_|_|_|_|_|_|_|_|_|_|_|_|i
 iterate 9 (injection g1 with g1;injection g2 with g2;exact .inl (g1.symm.trans g2))
 .injection g1 with g1;injection g2 with g2;subst g1 g2;exact c1P _ _ _
 iterate 3 (injection g1 with g1;injection g2 with g2;exact .inl (g1.symm.trans g2))
 .cases g1
theorem c6B{C:Ctx}{E:Env}{o:Oper}{t:TypeId}{x y:Operand}{off:Nat}{cells:List CV}{t0:Option TypeId}{K:L7->List b9->Prop}(ho:o.op = .store t x y)(hx:E.valid x)(hy:E.valid y)(ex:E.val C x= .ptr k off)(ey:E.val C y=a0x l n)(hs:∀w,(sizeOf t).run C.P w= .ok 1 w)
 (hk:σ[k]?=some (.boxT t0 cells))(ai:off+1<=cells.length)(h:K (.ret (.val undef)) (σ.set k (.boxT t0 (M6 cells off [a0x l n])))):C5 C σ E o K:=
 i0 ho hx hy ex ey hs (.inl (by cases l<;>rfl)) hk (by cases l<;>rfl) ai (by rw[show(a0x l n).cells=[a0x l n] by cases l<;>rfl];exact h)
theorem b9w{a:List Ky}{y:Ky}(h:l[i]?=some y):(l.take (i+1)).foldl J8 a=J8 ((l.take i).foldl J8 a) y:=by
 rw[a3a,h,b3v];rfl
theorem c9w(c:MC)(S:MS)(e d:Int)(ks:List Ky)(nn:Bool)(hS:S.tr.length<=500000)(hk:ks.length<=1000):b8 CC 70 [.ptr 0 0,.list (ks.map Ky.cv) nn none] (rgs c S e d) λr τ=>∃_:Unit,C9 2 τ r (.ret (.tup [])) [rgm c (S.look ks) e d 2,.dead,D9 (trk (S.look ks))]/\True:=by
 refine qO Tryz.func70 ?_;refine u a7K ?_;refine b25 hCC 2 G 1 0 [.list (c.fl.map Fi.cv) c.nn none,.list (((o4 c.fl).map Prod.fst).map scv) (gnn ((o4 c.fl).map Prod.fst).length) none,.list (((o4 c.fl).map Prod.snd).map Src.cv) (gnn ((o4 c.fl).map Prod.snd).length) none,.list (c.ev.map Va.cv) c.en none,.val (.int .u64 c.wd),iv 0,iv 0,iv 0,.val (.bool S.rn),a0x (trk S) 2,iv S.st,iv e,iv d] G G G G c2Z (α:=Nat) (λi=>[(0,.ptr 0 0),(6,(.list (ks.map Ky.cv) nn none)),(7,iv ks.length),(8,iv i)]) (λi=>[rgm c (S.look (ks.take i)) e d 2,.dead,D9 (trk (S.look (ks.take i)))]) (λi=>i<=ks.length) (λi=>ks.length -i) ⟨0,[0,1,2],(n_4 _),⟨G,G⟩,q_4,⟨.inr ⟨_,G,.box ⟨.old Q4,.old H8,.old a3k,.old (X9 _ _ _),.old (.val _),.old (.val _),.old (.val _),.old (.val _),.old (.val _),a2G _ G,.old (.val _),.old (.val _),.old (.val _),O⟩⟩,.inl G,.inr ⟨_,G,.same G (a1m _ _)⟩,O⟩⟩ ?_;intro i hi;have htl:(trk (S.look (ks.take i))).length<=1000000:=by
  have h1:=b5O (kys (S.look (ks.take i)));have h2:=b1v (S:=S) (ks:=ks.take i);unfold kys at h1;rw[N0]at h1;rw[b1U]at h2;unfold trk kys;omega
 refine qk ?_;refine cC ?_ ?_<;>intro h1
 .have ai:i<ks.length:=sm_ h1;obtain⟨k,hb⟩:∃k,ks[i]?=some k:=⟨ks[i]'ai,Q⟩;obtain⟨l',bz⟩:∃l',J8 (trk (S.look (ks.take i))) k=l':=⟨_,G⟩;have aG:trk (S.look (ks.take (i+1)))=l':=by rw[b7J,b9w hb,<- b7J];exact bz
  refine qk (u c26 ?_);refine d9P ?_;refine cF [] [0,1,2,3,4,5,6] (tl:=[(7,[0]),(8,[]),(9,[]),(10,[]),(11,[])]) ?_;refine a9F ?_;refine chf G a1e ?_;refine chf G (c7 G b3B) ?_;refine chf G d1E ?_;refine chf G b7j ?_;refine chf G (c7 G (I5 G O G b2g t_3 G (nb G))) ?_;refine F2 ?_;refine B1 G G G (c4 G Tryz.call73 j2 (b7e (trk (S.look (ks.take i))) k htl bz _ 2 G) G ?_);intro _ _;refine d2q ?_;refine C7 G G (c7 G b3B) ⟨O,?_⟩;refine C7 G G d1E ⟨O,?_⟩;refine B1 G G G (c6B (l:=l') (n:=4) G O O G G b9s G (nb G) ?_);refine a8h ?_;refine u o3 ?_;exact⟨(i+1),[0,1,4],⟨J,J⟩,⟨G,G⟩,q_4,⟨.inr ⟨_,G,.box ⟨.old Q4,.old H8,.old a3k,.old (X9 _ _ _),.old (.val _),.old (.val _),.old (.val _),.old (.val _),.old (.val _),(by rw[aG];exact a2G _ G),.old (.val _),.old (.val _),.old (.val _),O⟩⟩,.inl G,.inr ⟨_,G,.same (by rw[aG]) (a1m _ _)⟩,O⟩⟩
 .have fM:i=ks.length:=sm_ h1;rw[fM,a2p (n_6 _)];refine o6 ?_;exact⟨_,rE0,⟨(),⟨[0,1,2],G,G,.ret (.tups trivial),.inr ⟨_,G,.box ⟨.old Q4,.old H8,.old a3k,.old (X9 _ _ _),.old (.val _),.old (.val _),.old (.val _),.old (.val _),.old (.val _),a2G _ G,.old (.val _),.old (.val _),.old (.val _),O⟩⟩,.inl G,.inr ⟨_,G,.same G (a1m _ _)⟩,O⟩,O⟩⟩
theorem a6Q(c:MC)(S:MS)(e d:Int)(ks:List Ky)(nn:Bool)(hS:S.tr.length<=500000)(hk:ks.length<=1000)(hqt:q≠t)(h1:σ[q]?=some (rgm c S e d t))(h2:σ[t]?=some (D9 (trk S))):
 b8 CC 70 [.ptr q 0,.list (ks.map Ky.cv) nn none] σ λr τ=>∃_:Unit,r= .ret (.tup [])/\τ=(σ.set q (rgm c (S.look ks) e d σ.length)).set t .dead++[D9 (trk (S.look ks))]/\True:=
 (c7D (K:=λx=>x=(0,S.look ks,e,d)) (res:=λ_=>.tup []) (λ_=>D3 trivial) (D7 hCC ((c9w c S e d ks nn hS hk).mono λr τ ⟨_,h,_⟩=>⟨_,_,h,(0,S.look ks,e,d),G,G,G⟩)) (a1k (D1 _ _)) hqt h1 h2).mono λr τ ⟨x,g1,g2,g3⟩=>⟨(),g1,by subst g3;exact g2,O⟩
abbrev b8C(F:Fr)(i:Int):List CV:=[.agg F.f.cells,.list (F.d.body.map Ex.cv) (gnn F.d.body.length) none,iv i,.list (F.args.map icv) F.an none]
theorem Z4(F:Fr)(i:Int):∀a∈b8C F i,o8 a:=λa h=>by
 simp only[b8C,I0,a9B,or_false]at h
 rcases h with rfl|rfl|rfl|rfl
 .exact j5 (Src.pure _)
 .exact a17 _ _
 .exact .val _
 .exact N2 _ _
def VOk(c:MC)(rec:Int->MS->Rs Int)(F:Fr)(i:Int)(S:MS):Prop:=∀d:Int,S.ac=d->RC 99 (b8C F i) c S 0 d (λx=>x=a5H (rec i S) d)
theorem c5A{args:List Int}{an:Bool}{d:De}{dp:Int}{o:Rs Int}(hd:D2 c x=some (s,d))(h:S.ac≠64)(ho:rec ⟨s,d,args,an⟩ ((d.body.length:Int) -1) {S with ac:=S.ac+1}=o):∃S':MS,a5H (H5 rec c x args an S) dp=(vlF o.1,S',erF o.1,dp)/\(∀q e d',rgm c S' e d' q=rgm c o.2 e d' q)/\trk S'=trk o.2:=by
 rw[H5,H h,hd];dsimp only;rw[ho];obtain⟨a,S2⟩:=o;cases a with
 |inl v=>exact⟨{S2 with ac:=S2.ac -1},rfl,λ_ _ _=>G,G⟩
 |inr e=>exact⟨S2,G,λ_ _ _=>G,G⟩
theorem d2o(c:MC)(rec:Fr->Int->MS->Rs Int)(x:En)(args:List Int)(an:Bool)(s:Src)(dc:De)(k:Nat)(S:MS)(d:Int)(eF:S.ac=d)(ff:0<=d/\d<=64)(hd:D2 c x=some (s,dc))(hdc:s.decls[k]?=some dc)(hbl:dc.body.length<=1000000)(HV:S.ac≠64->VOk c (rec ⟨s,dc,args,an⟩) ⟨s,dc,args,an⟩ ((dc.body.length:Int) -1) {S with ac:=S.ac+1}):RE 72 [.agg s.cells,iv k,.list (args.map icv) an none] c S 0 d (λy=>y=a5H (H5 rec c x args an S) d):=by
 unfold RE;refine cO Tryz.func72 ?_;refine a59 ?_;refine a58 ?_;refine a2a ?_;refine cY b79 ?_;refine b3k ?_;refine cC ?_ ?_<;>intro h1
 .have fp:S.ac=64:=by rw[eF];simpa using h1
  have ho:H5 rec c x args an S=(.inr 17,S):=by rw[H5,W fp]
  refine z_1 ?_;refine de G a9M m0 (RS.at (q:=0) (t:=1) (S6 c S d 17) (a1k (.val _)) I G G) G ?_;intro x hx;subst hx;refine A1 (rgs c S 17 d++[.box s.cells]) G ?_;refine a0W ?_;exact⟨_,I8 G O G,b2O 0 S 17 d [.box s.cells] (by rw[ho];rfl) G⟩
 .have fp:S.ac≠64:=by rw[eF];simpa using h1
  obtain⟨o,ho⟩:∃o,rec ⟨s,dc,args,an⟩ ((dc.body.length:Int) -1) {S with ac:=S.ac+1}=o:=⟨_,rfl⟩;obtain⟨S',e1,e2,e3⟩:=c5A (dp:=d) hd fp ho;have hv:=HV fp (d+1) (by show S.ac+1=d+1;omega);rw[ho]at hv;refine A8 ?_;refine a2a ?_;refine cY b79 ?_;refine cY a0F ?_;refine b4b ?_;refine cY b79 ?_;refine d2C ?_;refine z_0 ?_;refine cY c2L ?_;refine cY c2T ?_;refine cY A2 ?_;refine cY (A4 G O O G G a8m a4c J (j8 hdc) G) ?_;refine d6L ?_;refine d2Q ?_;refine z_1 ?_;refine cY c1W ?_;refine cY c3u ?_;refine cY b3D ?_;refine cY c3u ?_;refine cY b3D ?_;refine cY b0I ?_;refine cY a0D ?_;refine cY A2 ?_;refine de G b7x a4T (RC.at (q:=0) (t:=1) hv (Z4 _ _) I G G) G ?_;intro x hx;subst hx;refine A1 [rgm c o.2 (erF o.1) (d+1) 4,.dead,.box s.cells,.box dc.cells,D9 (trk o.2)] G ?_;refine z_2 ?_;refine a2a ?_;refine cY b79 ?_;refine cY a0F ?_;refine cY a0D ?_;refine cY a14 ?_;refine cY b79 ?_;refine d2C ?_;refine b0O ?_;exact⟨_,I8 G O G,W1 (vlF o.1) S' (erF o.1) d 4 e1.symm (by rw[e2];exact n_7 some (n_7 (λz=>rgm c o.2 (erF o.1) z 4) (show d+1-1=d by omega))) (by rw[e3];rfl)⟩
structure RW(c:MC):Prop where
 g:McG c
 v:B4 c.fl=0
 ms:c.ms=(w8 c.fl).2.1
 me:c.me=(w8 c.fl).2.2
variable{me:EM}{v:En}
def a5X(o:Rs Int)(S:MS)(e d:Int):RSt:=if e=0 then a5H o d else(0,S,e,d)
def HVk(c:MC)(rec:Fr->Int->MS->Rs Int)(S:MS):Prop:=∀F:Fr,FrG F->∀(i:Int) (x:Ex),0<=i->F.d.body[i.toNat]?=some x->∀S1:MS,S.st<=S1.st->S1.st<=20000->0<=S1.ac->S1.ac<=64->TrB S1->VOk c (rec F) F i S1
theorem HVk.ok(h:HVk c rec S)(hF:FrG F)(ha:0<=S.ac/\S.ac<=64){x:Ex}(hx:F.d.body[i]?=some x)(hm:a∈x.args)(hb:SB S S1)(ht:TrB S1):VOk c (rec F) F a S1:=by
 obtain⟨h1,h2⟩:=(hF.de.node hx).2 a hm;have hl:=(n_2.1 hx).1;obtain⟨h3,h4,h5⟩:=hb;exact h F hF a (F.d.body[a.toNat]'J) h1 Q S1 h3 h4 J J ht
theorem TrS.len(h:TrS S)(hs:S.st<=20000):S.tr.length<=500000:=by have:=h.2;omega
theorem TrS.look(h:TrS S)(hk:∀k∈ks,N9 k=true)(hl:ks.length<=9):TrB (S.look ks):=(Jf.look (α:=Int) (o:=(.inl 0,S.look ks)) hk hl (Jf.ret id)).2 h
def a6s(rec:Int->MS->Rs Int)(L:List Int)(S0:MS)(k:Nat)(acc:List Int)(S1:MS)(e:Int):Prop:=
 k<=L.length/\acc.length=k/\((e=0/\SB S0 S1/\TrB S1/\(∀v∈acc,InM v)/\W3 rec [] L S0=W3 rec acc (L.drop k) S1)\/(e≠0/\W3 rec [] L S0=(.inr e,S1)))
theorem a6s.next{rec:Int->MS->Rs Int}{S0:MS}(h:a6s rec L S0 k acc S1 e)(ha:L[k]?=some a)(hg:SB S0 S1->Gd S1 (rec a S1))(hu:Jf (TrB S1) S1 (rec a S1))(hn:Ne0 (rec a S1)):a6s rec L S0 (k+1) (acc++[(a5X (rec a S1) S1 e d).1]) (a5X (rec a S1) S1 e d).2.1 (a5X (rec a S1) S1 e d).2.2.1/\(a5X (rec a S1) S1 e d).2.2.2=d:=by
 obtain⟨h1,h2,h3⟩:=h;have hl:=(n_2.1 ha).1;unfold a5X
 rcases h3 with⟨h3,h4,h5,h6,h7⟩|⟨h3,h4⟩
 .rw [W h3];refine⟨⟨J,by simp;omega,?_⟩,G⟩;rw[c33 ha]at h7;have h7':W3 rec [] L S0=bindM (rec a S1) λv S1=>W3 rec (acc++[v]) (L.drop (k+1)) S1:=h7;obtain⟨g1,g2,g3⟩:=hg h4;cases ho:(rec a S1).1 with
  |inl v=>
   rw[a0s ho]at h7';have e1:a5H (rec a S1) d=(v,(rec a S1).2,0,d):=by unfold a5H;rw[ho];rfl
   rw[e1];refine .inl ⟨G,h4.next ⟨g1,g2,g3⟩ ho,hu.2 h5,λw hw=>?_,h7'⟩
   rcases Q9.1 hw with hw|hw
   .exact h6 w hw
   .rw [a0r.1 hw];exact(g3 v ho).1
  |inr q=>
   rw[a0q ho]at h7';have e1:a5H (rec a S1) d=(0,(rec a S1).2,q,d):=by unfold a5H;rw[ho];rfl
   rw[e1];exact .inr ⟨hn q ho,h7'⟩
 .rw [H h3];exact⟨⟨J,by simp;omega,.inr ⟨h3,h4⟩⟩,G⟩
theorem a6s.done{rec:Int->MS->Rs Int}{S0:MS}(h:a6s rec L S0 L.length acc S1 e):(e=0->SB S0 S1/\TrB S1/\(∀v∈acc,InM v)/\W3 rec [] L S0=(.inl acc,S1))/\(e≠0->W3 rec [] L S0=(.inr e,S1)):=by
 obtain⟨_,h2,h3⟩:=h
 rcases h3 with⟨h3,h4,h5,h6,h7⟩|⟨h3,h4⟩
 .rw [b5P]at h7;exact⟨λ_=>⟨h4,h5,h6,h7⟩,λh=>absurd h3 h⟩
 .exact ⟨λh=>absurd h h3,λ_=>h4⟩
theorem a6s.ok0(h:a6s (rec F) L (S.look ks) k acc S1 e)(eF:S.ac=d)(HV:HVk c rec S)(hF:FrG F)(ha:0<=S.ac/\S.ac<=64){x:Ex}(hx:F.d.body[i]?=some x)(hm:a∈x.args)(he:e=0):S1.ac=d/\VOk c (rec F) F a S1:=by
 rcases h.2.2 with⟨_,h4,h5,_⟩|⟨h3,_⟩
 .exact ⟨h4.2.2.trans eF,HV.ok hF ha hx hm h4 h5⟩
 .exact absurd he h3
theorem b1z(HV:HVk c rec S)(hb:SB S S1)(ht:TrB S1)(eF:S.ac=d)(ff:0<=d/\d<=64){dc:De}(hd:D2 c x=some (s,dc))(hx:0<=x.ix)(hs:a1b s)(hm:dc∈s.decls)(args:List Int)(an:Bool)(gB:args.length=dc.params.length)(bZ:∀v∈args,InM v):RC 72 [.agg s.cells,iv x.ix,.list (args.map icv) an none] c S1 0 d (λy=>y=a5H (H5 rec c x args an S1) d):=by
 obtain⟨ej,eG⟩:=Z6 hd;have hde:=hs.dec dc hm;obtain⟨y,hl,hy⟩:=De.root hde;obtain⟨h3,h4,h5⟩:=hb;have fc:x.ix=((x.ix.toNat:Nat):Int):=by omega
 rw[fc];exact(d2o c rec x args an s dc x.ix.toNat S1 d (h5.trans eF) ff hd eG (by have:=hde.blen;omega) λaB=>HV ⟨s,dc,args,an⟩ ⟨hs,hde,gB,bZ⟩ _ y J hy {S1 with ac:=S1.ac+1} h3 h4 (by show 0<=S1.ac+1;omega) (by show S1.ac+1<=64;omega) ht).c
theorem c3X(hc:RW c)(hs:glk c.ms x.pl=some s)(σ:List b9):b8 CC 44 [.agg (a1H ((o4 c.fl).map Prod.fst) ((o4 c.fl).map Prod.snd)),.agg x.cells] σ λr τ=>r= .ret (.tup [.agg s.cells,iv x.ix])/\τ=σ:=by
 have h:=b8W (o4 c.fl) x (by have:=(a3R (fl:=c.fl)).1;have:=(U1 hc.v).1;omega) σ;rw[d3A hc.v (s:=s) (by rw[<- hc.ms];exact hs)]at h;exact h
theorem c0P(c:MC)(F:Fr)(i:Int)(S:MS)(e d:Int)(he:e≠0):RE 99 (b8C F i) c S e d (λx=>x=(0,S,e,d)):=by
 unfold RE b8C;refine qO Tryz.func99 ?_;refine qD (F4 G O j1 i9 ?_);refine qC ?_ ?_<;>intro h1
 .refine c6 ?_;exact⟨_,I8 G O G,b2O 0 S e d [.box F.f.cells] G G⟩
 .exact absurd (U h1) he
theorem b1o{rec:Int->MS->Rs Int}{i:Int}(h:e=0->S.ac=d/\VOk c rec F i S):RC 99 (b8C F i) c S e d (λx=>x=a5X (rec i S) S e d):=by
 unfold a5X;by_cases he:e=0
 .subst he;rw[W G];exact(h G).2 d (h G).1
 .rw [H he];exact(c0P c F i S e d he).c
theorem b5Q(n:Nat)(s:Src):G1 n (.box s.cells):=x9 ⟨.val _,(C1 _ _).old,(a4B _ _).old,O⟩
theorem c1O(n:Nat)(x:Ex):G1 n (.box x.cells):=x9 ⟨.val _,.val _,.val _,.val _,(N2 _ _).old,O⟩
theorem c3T(n:Nat)(x:En):G1 n (.box x.cells):=x9 ⟨.val _,.val _,.val _,.val _,.val _,.val _,O⟩
theorem b38(F:Fr)(x:Ex):∀a∈([.agg F.f.cells,.list (F.d.body.map Ex.cv) (gnn F.d.body.length) none,.agg x.cells,.list (F.args.map icv) F.an none]:List CV),o8 a:=λa h=>by
 simp only[I0,a9B,or_false]at h
 rcases h with rfl|rfl|rfl|rfl
 .exact j5 (Src.pure _)
 .exact a17 _ _
 .exact Ex.pureA _
 .exact N2 _ _
theorem a6c(s:Src)(k:Int)(l:List Int)(nn:Bool):∀a∈([.agg s.cells,iv k,.list (l.map icv) nn none]:List CV),o8 a:=λa h=>by
 simp only[I0,a9B,or_false]at h
 rcases h with rfl|rfl|rfl
 .exact j5 (Src.pure _)
 .exact .val _
 .exact N2 _ _
theorem c8s(c:MC)(hc:RW c)(rec:Fr->Int->MS->Rs Int)(F:Fr)(hF:FrG F)(i:Nat)(x:Ex)(hx:F.d.body[i]?=some x)(hk3:x.k=3)(S:MS)(d:Int)(eF:S.ac=d)(ff:0<=d/\d<=64)(hs:S.st<=20000)(hT:TrS S)(HG:HGd rec S)(hU:HU rec)(hN:∀F i S,Ne0 (rec F i S))(HV:HVk c rec S):RE 149 [.agg F.f.cells,.list (F.d.body.map Ex.cv) (gnn F.d.body.length) none,.agg x.cells,.list (F.args.map icv) F.an none] c S 0 d (λy=>y=a5H (a1A rec c F x S) d):=by
 unfold RE;have hn:=(hF.de.node hx).1;obtain⟨bn,bK⟩:=b5Z (c:=c) ⟨hF.src,hF.de⟩ (hn.k3 hk3).1;have ha:0<=S.ac/\S.ac<=64:=by rw[eF];exact ff
 have hal8:x.args.length<=256:=a1F (De.argl hF.de hx) hF.de.blen;have hTK:TrB (S.look (U5 c F x)):=hT.look bn bK;have hCI:∀σ,b8 CC 47 [.agg (a1H ((o4 c.fl).map Prod.fst) ((o4 c.fl).map Prod.snd)),.agg F.f.cells,sv x.name] σ λr τ=>r= .ret (.tup [.agg (H2 (G8 c F x)).cells,.list ((U5 c F x).map Ky.cv) (gnn (a0B true c.me x.name (a9w F))) none,iv (K0 (G8 c F x))])/\τ=σ:=λσ=>by
  have h:=c4t c.fl hc.v F.f (by have:=hF.src.impl;omega) x.name σ;rw[<- hc.me]at h;exact h
 refine cO Tryz.func149 ?_;refine a59 ?_;refine cD (F4 G O j1 i9 ?_);refine a58 ?_;refine cF [] [0,1,2,3,4,5,6,7,8,9,10,11] (tl:=[(12,[0,1,2,3,4,5,6,7,8,9,10,11]),(13,[10,11]),(14,[11]),(15,[])]) ?_;refine chf G O0 ?_;refine chf G a1e ?_;refine chf G c6K ?_;refine chf G d2b ?_;refine chf G b6P ?_;refine chf G c3d ?_;refine chf G a88 ?_;refine chf G (c7 G (c5 G Tryz.call47 D0 (hCI _) G)) ?_;refine c3I ?_;refine chf G a7d ?_;refine chf G a7d ?_;refine d0U ?_;refine⟨⟨C3,a3q,c2n,c1G,c7G,d5Z,a27,(by exact c7 G (c5 G Tryz.call47 D0 (hCI _) G)),C3,Q7,Q7,Q7,O⟩,?_⟩;refine c9T ?_;refine a5x ?_;refine a4b ?_;refine de G b5S j2 (a6Q (q:=0) (t:=1) c S 0 d (U5 c F x) (gnn (a0B true c.me x.name (a9w F))) (hT.len hs) J I G G) G ?_;intro _ _;refine A1 [rgm c (S.look (U5 c F x)) 0 d 5,.dead,.box F.f.cells,.box x.cells,.box (H2 (G8 c F x)).cells,D9 (trk (S.look (U5 c F x)))] G ?_;refine a2n ?_;refine a8D ?_;refine cC ?_ ?_<;>intro h1
 .have eU:K0 (G8 c F x)≠0:=U h1;have eo:a1A rec c F x S=(.inr (K0 (G8 c F x)),(S.look (U5 c F x))):=by rw[a1A,W eU]
  refine a4b ?_;refine de G a9M j2 (RS.at (q:=0) (t:=5) (S6 c (S.look (U5 c F x)) d (K0 (G8 c F x))) (a1k (.val _)) I G G) G ?_;intro y hy;subst hy;refine A1 [rgm c (S.look (U5 c F x)) (K0 (G8 c F x)) d 5,.dead,.box F.f.cells,.box x.cells,.box (H2 (G8 c F x)).cells,D9 (trk (S.look (U5 c F x)))] G ?_;refine a0W ?_;exact⟨_,I8 G O G,W1 0 (S.look (U5 c F x)) (K0 (G8 c F x)) d 5 W4 G G⟩
 .have eU:K0 (G8 c F x)=0:=U h1;have hcc':¬K0 (G8 c F x)≠0:=λh=>h eU;obtain⟨fP,s,dc,fc,hd,jd,ii⟩:=b0S hc.g eU;obtain⟨ej,eG⟩:=Z6 hd;refine A8 ?_;refine z_0 ?_;refine a58 ?_;refine z_0 ?_;refine cY d7u ?_;refine cY c3E ?_;refine cY a7g ?_;refine a9r ?_;refine b25 hCC 6 G 5 0 [.list (c.fl.map Fi.cv) c.nn none,.list (((o4 c.fl).map Prod.fst).map scv) (gnn ((o4 c.fl).map Prod.fst).length) none,.list (((o4 c.fl).map Prod.snd).map Src.cv) (gnn ((o4 c.fl).map Prod.snd).length) none,.list (c.ev.map Va.cv) c.en none,.val (.int .u64 c.wd),iv 0,iv 0,iv 0,.val (.bool (S.look (U5 c F x)).rn),a0x (trk (S.look (U5 c F x))) 6,iv ((S.look (U5 c F x)).st),iv 0,iv d] G G G G c2Z (α:=Nat×List Int×MS×Int) (λa=>[(0,.ptr 0 0),(2,(.list (F.d.body.map Ex.cv) (gnn F.d.body.length) none)),(4,(.list (F.args.map icv) F.an none)),(6,.ptr 2 0),(11,.ptr 4 0),(14,(.list (a.2.1.map icv) (gnn a.2.1.length) (D6 a.2.1.length 7))),(40,(.list (x.args.map icv) (gnn x.args.length) none)),(41,iv x.args.length),(42,iv a.1)]) (λa=>[rgm c a.2.2.1 a.2.2.2 d 6,.dead,.box F.f.cells,.box x.cells,.box (H2 (G8 c F x)).cells,.dead,D9 (trk a.2.2.1),l8 (a.2.1).length]) (λa=>a6s (rec F) x.args (S.look (U5 c F x)) a.1 a.2.1 a.2.2.1 a.2.2.2) (λa=>x.args.length -a.1) ⟨(0,[],(S.look (U5 c F x)),0),[0,1,2,3,4,5,6,99],⟨n_4 _,G,.inl ⟨G,SB.refl hs,hTK,λ_ h=>(by cases h),G⟩⟩,⟨G,G⟩,ut_,⟨.inr ⟨_,G,.box ⟨.old Q4,.old H8,.old a3k,.old (X9 _ _ _),.old (.val _),.old (.val _),.old (.val _),.old (.val _),.old (.val _),a2G _ G,.old (.val _),.old (.val _),.old (.val _),O⟩⟩,.inl G,.inr ⟨_,G,.same G (b5Q _ _)⟩,.inr ⟨_,G,.same G (c1O _ _)⟩,.inr ⟨_,G,.same G (c3T _ _)⟩,.inl G,.inr ⟨_,G,.same G (a1m _ _)⟩,.inl G,O⟩⟩ ?_;intro⟨k,acc,S1,e⟩ hI;dsimp only at hI⊢;have hk:=hI.1;have gB:=hI.2.1;refine a9p ?_;refine cC ?_ ?_<;>intro h2
  .have ai:k<x.args.length:=sm_ h2;obtain⟨a,hb1⟩:∃a,x.args[k]?=some a:=⟨x.args[k]'ai,Q⟩;have bw:a∈x.args:=n_3 hb1;obtain⟨o,ho⟩:∃o,rec F a S1=o:=⟨_,G⟩;obtain⟨hI2,eH⟩:=hI.next (d:=d) hb1 (λhb=>HG.ok hF ha hx a bw S1 hb) (hU F ⟨hF.src,hF.de⟩ a S1) (hN F a S1);obtain⟨v,S2,e2,d2,hq⟩:∃v S2 e2 d2,a5X (rec F a S1) S1 e d=(v,S2,e2,d2):=⟨_,_,_,_,G⟩;rw[hq]at hI2 eH;replace eH:d=d2:=eH.symm;subst eH;refine b34 ?_;refine cY (A4 G O O G G t_7 t_1 J (j8 hb1) G) ?_;refine cY b8i ?_;refine z_2 ?_;refine a5K ?_;refine cY A2 ?_;refine b33 ?_;refine cY A2 ?_;refine cY A2 ?_;refine de G b7x a4T (RC.at (q:=0) (t:=6) (b1o (rec:=rec F) (F:=F) (i:=a) (S:=S1) (e:=e) (d:=d) λhe=>hI.ok0 eF HV hF ha hx bw he) (Z4 _ _) I G G) G ?_;intro y hy;rw[hq]at hy;subst hy;refine A1 [rgm c S2 e2 d 8,.dead,.box F.f.cells,.box x.cells,.box (H2 (G8 c F x)).cells,.dead,.dead,l8 acc.length,D9 (trk S2)] G ?_;refine cY (A6 [icv v] G ⟨O,O⟩ t_7 t_1 t_9 G G G G G G G G G) ?_;refine cD (B6 G O O G Q q_3 t_7 t_1 c2M t_9 G (.inr G) q_8 c2K E9 ((acc++[v]).map icv) (acc++[v]).length Q Q ?_);refine z_2 ?_;refine b6l ?_;exact⟨(k+1,acc++[v],S2,e2),[0,1,2,3,4,5,8,9],⟨do_,hI2⟩,⟨G,G⟩,ut_,⟨.inr ⟨_,G,.box ⟨.old Q4,.old H8,.old a3k,.old (X9 _ _ _),.old (.val _),.old (.val _),.old (.val _),.old (.val _),.old (.val _),a2G _ G,.old (.val _),.old (.val _),.old (.val _),O⟩⟩,.inl G,.inr ⟨_,G,.same G (b5Q _ _)⟩,.inr ⟨_,G,.same G (c1O _ _)⟩,.inr ⟨_,G,.same G (c3T _ _)⟩,.inl G,.inr ⟨_,G,.same G (a1m _ _)⟩,.inr ⟨_,G,.same G B0⟩,O⟩⟩
  .have aL:k=x.args.length:=sm_ h2;subst aL;obtain⟨hz,hnz⟩:=hI.done;refine o6 (F7 ?_);refine a2a ?_;refine b8A ?_;refine cC ?_ ?_<;>intro h3
   .have he:e≠0:=U h3;have eo:a1A rec c F x S=(.inr e,S1):=by rw[a1A,H hcc',hnz he];rfl
    refine a89 ?_;exact⟨_,I8 G O G,W1 0 S1 e d 6 W4 G G⟩
   .have he:e=0:=U h3;subst he;obtain⟨hSB,hTB,hAB,hAR⟩:=hz G;have hnp:c8D c (G8 c F x)=dc.params.length:=by rw[c8D,hd];rfl
    have eo:a1A rec c F x S=if acc.length≠dc.params.length then(.inr 13,S1)else H5 rec c (G8 c F x) acc (gnn acc.length) S1:=by rw[a1A,H hcc',hAR,<- hnp];rfl
    have hDI:=λσ=>c3X hc (x:=H2 (G8 c F x)) (by rw[fP];exact ej) σ;have hix2:0<=(H2 (G8 c F x)).ix:=by rw[fP];exact fc
    refine a5M ?_;refine d9f ?_;refine chf G a1e ?_;refine chf G c6K ?_;refine chf G d2b ?_;refine chf G b6U ?_;refine chf G (c7 G (c5 G c2s j2 (hDI _) G)) ?_;refine c3I ?_;refine chf G a7d ?_;refine F2 ?_;refine B1 G G G (j6 G a4J G i9 ?_);refine⟨⟨C3,a3q,c2n,c1G,(by exact c7 G a3h),(by exact c7 G (c5 G c2s j2 (hDI _) G)),C3,Q7,Q7,O⟩,?_⟩;refine d6A ?_;refine a5x ?_;refine F7 ?_;refine z_0 ?_;refine cY c2L ?_;refine cY c2T ?_;refine cY A2 ?_;refine cY (A4 G O O G G a8m a4c J (j8 (show s.decls[_]?=some dc by rw[fP];exact eG)) G) ?_;refine cY (a0U G O G b2k G a2Q I) ?_;refine cY (Z1 G O G b9G G) ?_;refine cY P0 ?_;refine cY A2 ?_;refine cY a7g ?_;refine cY b16 ?_;refine o7 ?_;refine cC ?_ ?_<;>intro h4
    .have aB:acc.length≠dc.params.length:=sm_ h4;rw[W aB]at eo;refine z_1 ?_;refine de G a9M m0 (RS.at (q:=0) (t:=6) (S6 c S1 d 13) (a1k (.val _)) I G G) G ?_;intro y hy;subst hy;refine A1 [rgm c S1 13 d 6,.dead,.box F.f.cells,.box x.cells,.box (H2 (G8 c F x)).cells,.dead,D9 (trk S1),l8 acc.length,.box s.cells] G ?_;refine a0W ?_;exact⟨_,I8 G O G,W1 0 S1 13 d 6 W4 G G⟩
    .have aB:acc.length=dc.params.length:=sm_ h4;rw[H λh=>h aB]at eo;obtain⟨o,ho⟩:∃o,H5 rec c (G8 c F x) acc (gnn acc.length) S1=o:=⟨_,G⟩;have iZ:=b1z HV hSB hTB eF ff (x:=H2 (G8 c F x)) (by rw[fP];exact hd) hix2 jd ii acc (gnn acc.length) aB hAB;rw[show H5 rec c (H2 (G8 c F x)) acc (gnn acc.length) S1=o by rw[fP];exact ho]at iZ;rw[ho]at eo;refine A8 ?_;refine z_1 ?_;refine b33 ?_;refine cY A2 ?_;refine de G d0o a4s (RC.at (q:=0) (t:=6) iZ (a6c _ _ _ _) I G G) G ?_;intro y hy;subst hy;refine A1 [rgm c o.2 (erF o.1) d 9,.dead,.box F.f.cells,.box x.cells,.box (H2 (G8 c F x)).cells,.dead,.dead,l8 acc.length,.box s.cells,D9 (trk o.2)] G ?_;refine a0W ?_;exact⟨_,I8 G O G,W1 (vlF o.1) o.2 (erF o.1) d 9 W4 G G⟩
theorem d7C{o:Int ⊕ Int}(h:erF o≠0):∃q,o= .inr q:=by
 cases o with
 |inl v=>exact absurd G h
 |inr q=>exact⟨q,G⟩
theorem d6e{o:Int ⊕ Int}(hn:Ne0 (o,S))(h:erF o=0):∃v,o= .inl v:=by
 cases o with
 |inl v=>exact⟨v,G⟩
 |inr q=>exact absurd h (hn q G)
theorem b0i{s:D}(h:(r8 fl s).isSome=true):diK fl va me s=1:=W h
theorem b0t{s:D}(h:r8 fl s=none)(h0:diC fl va me s=0):diK fl va me s=2:=by
 have hi:¬(r8 fl s).isSome=true:=by rw[h];decide
 unfold diC at h0;unfold diK;rw[H hi]at h0⊢;split at h0
 .cases h0
 .rename_i h1;rw[H h1];split at h0
  .cases h0
  .rename_i h2;rw[H h2]
def szV(c:MC)(s:D):Int:=match r8 c.fl s with
 |some b=>(b.length:Int)
 |none=>1
theorem d9q{Jj:Int}(h:Jj.tmod 256<0):(Jj.tmod 256+256).tmod 256=Jj.tmod 256+256:=by
 have h2:=a6R Jj;rw[b3h J];omega
theorem e0G{Jj:Int}(h:¬Jj.tmod 256<0):(Jj.tmod 256+256).tmod 256=Jj.tmod 256:=by
 have h2:=a6R Jj;rw[b3h J];omega
theorem c3P(hc:RW c)(s:D)(σ:List b9):b8 CC 50 [.agg [.list (c.fl.map Fi.cv) c.nn none],.agg (a1H ((o4 c.fl).map Prod.fst) ((o4 c.fl).map Prod.snd)),sv s] σ λr τ=>r= .ret (.tup [iv (diK c.fl true c.me s),.agg (diE c.fl true c.me s).cells,.list ((H9 c.fl s).map Ky.cv) true none,iv (diC c.fl true c.me s)])/\τ=σ:=by
 have h:=c56 c.fl c.nn hc.v s σ;rw[<- hc.me]at h;exact h
theorem c3O(hc:RW c)(s:D)(σ:List b9):b8 CC 89 [.agg [.list (c.fl.map Fi.cv) c.nn none],sv s] σ λr τ=>r= .ret (.tup [sv ((r8 c.fl s).getD []),.val (.bool (r8 c.fl s).isSome)])/\τ=σ:=by
 have h:=a72 c.fl c.nn s (by have:=(U1 hc.v).1;omega) σ;rw[W hc.v]at h;exact h
theorem c94(c:MC)(hc:RW c)(rec:Fr->Int->MS->Rs Int)(F:Fr)(hF:FrG F)(i:Nat)(x:Ex)(hx:F.d.body[i]?=some x)(hk6:x.k=6)(S:MS)(d:Int)(eF:S.ac=d)(ff:0<=d/\d<=64)(hs:S.st<=20000)(hT:TrS S)(HG:HGd rec S)(hU:HU rec)(hN:∀F i S,Ne0 (rec F i S))(HV:HVk c rec S):RE 151 [.agg F.f.cells,.list (F.d.body.map Ex.cv) (gnn F.d.body.length) none,.agg x.cells,.list (F.args.map icv) F.an none] c S 0 d (λy=>y=a5H (a0I rec c F x S) d):=by
 unfold RE;have hn:=(hF.de.node hx).1;obtain⟨bn,bK⟩:=a2F (fl:=c.fl) (hn.k678 (.inl hk6));have ha:0<=S.ac/\S.ac<=64:=by rw[eF];exact ff
 have hTK:TrB (S.look (H9 c.fl x.name)):=hT.look bn bK;have cS:=hn.cnt;rw[H J,H J,W hk6]at cS;obtain⟨a0,e0⟩:=d8a cS;have g0:x.args.getD 0 0=a0:=by rw[e0];rfl
 have hDI:=c3P hc x.name;have hFi:=c3O hc x.name;refine cO Tryz.func151 ?_;refine a59 ?_;refine cD (F4 G O j1 i9 ?_);refine a58 ?_;refine d9W ?_;refine chr G a1e ?_;refine chr G d0d ?_;refine chr G a7P ?_;refine b3Y ?_;refine c2P ?_;refine chr G c3d ?_;refine chr G a88 ?_;refine chr G c87 ?_;refine b9a ?_;refine d5b ?_;refine a5p ?_;refine d1T ?_;refine c9T ?_;refine a5x ?_;refine a4b ?_;refine de G b5S j2 (a6Q (q:=0) (t:=1) c S 0 d (H9 c.fl x.name) true (hT.len hs) J I G G) G ?_;intro _ _;refine A1 [rgm c (S.look (H9 c.fl x.name)) 0 d 5,.dead,.box F.f.cells,.box x.cells,.box (diE c.fl true c.me x.name).cells,D9 (trk (S.look (H9 c.fl x.name)))] G ?_;refine a2n ?_;refine a8D ?_;refine cC ?_ ?_<;>intro h1
 .have eU:diC c.fl true c.me x.name≠0:=U h1;have eo:a0I rec c F x S=(.inr (diC c.fl true c.me x.name),(S.look (H9 c.fl x.name))):=by rw[a0I,W eU]
  refine a4b ?_;refine de G a9M j2 (RS.at (q:=0) (t:=5) (S6 c (S.look (H9 c.fl x.name)) d (diC c.fl true c.me x.name)) (a1k (.val _)) I G G) G ?_;intro y hy;subst hy;refine A1 [rgm c (S.look (H9 c.fl x.name)) (diC c.fl true c.me x.name) d 5,.dead,.box F.f.cells,.box x.cells,.box (diE c.fl true c.me x.name).cells,D9 (trk (S.look (H9 c.fl x.name)))] G ?_;refine a0W ?_;exact⟨_,I8 G O G,W1 0 (S.look (H9 c.fl x.name)) (diC c.fl true c.me x.name) d 5 W4 G G⟩
 .have eU:diC c.fl true c.me x.name=0:=U h1;have hcc':¬diC c.fl true c.me x.name≠0:=λh=>h eU;have ge:SB S (S.look (H9 c.fl x.name)):=SB.refl hs;have hm0:a0∈x.args:=by rw[e0];exact b2h
  have hv0:=HV.ok hF ha hx hm0 ge hTK d eF;have hg0:=HG.ok hF ha hx a0 hm0 (S.look (H9 c.fl x.name)) ge;have dX:=hN F a0 (S.look (H9 c.fl x.name));have hu0:=(hU F ⟨hF.src,hF.de⟩ a0 (S.look (H9 c.fl x.name))).2 hTK;obtain⟨o1,S2,ho⟩:∃o1 S2,rec F a0 (S.look (H9 c.fl x.name))=(o1,S2):=⟨_,_,G⟩;rw[ho]at hv0 hg0 dX hu0;replace hu0:TrB S2:=hu0;have eo:a0I rec c F x S=bindM (o1,S2) λv S2=>if v<0\/szV c x.name<=v then(.inr 3,S2)else match r8 c.fl x.name with
   |some b=>(.inl ((b.getD v.toNat 0).toNat:Int),S2)
   |none=>bindM (H5 rec c (diE c.fl true c.me x.name) [] false S2) λv S3=>(.inl ((v.tmod 256+256).tmod 256),S3):=by
   rw[a0I,H hcc',g0,ho];rfl
  refine a5M ?_;refine b3P ?_;refine hY (A4 G O G G G t_7 t_1 J (j8 (show x.args[0]?=some a0 by rw[e0];rfl)) G) ?_;refine b3X ?_;refine de G b7x a4T (RC.at (q:=0) (t:=5) hv0 (Z4 _ _) I G G) G ?_;intro y hy;subst hy;refine A1 [rgm c S2 (erF o1) d 6,.dead,.box F.f.cells,.box x.cells,.box (diE c.fl true c.me x.name).cells,.dead,D9 (trk S2)] G ?_;refine a6u ?_;refine a2a ?_;refine b8A ?_;refine cC ?_ ?_<;>intro h2
  .obtain ⟨q,rfl⟩:∃q,o1= .inr q:=d7C (U h2);replace eo:a0I rec c F x S=(.inr q,S2):=eo;refine a89 ?_;exact⟨_,I8 G O G,W1 0 S2 q d 6 W4 G G⟩
  .obtain ⟨v,rfl⟩:∃v,o1= .inl v:=d6e dX (U h2);have bD:SB S S2:=ge.next (o:=(.inl v,S2)) hg0 G;have hvl:vlF (.inl v:Int ⊕ Int)=v:=G;replace eo:a0I rec c F x S=if v<0\/szV c x.name<=v then(.inr 3,S2)else match r8 c.fl x.name with
    |some b=>(.inl ((b.getD v.toNat 0).toNat:Int),S2)
    |none=>bindM (H5 rec c (diE c.fl true c.me x.name) [] false S2) λv S3=>(.inl ((v.tmod 256+256).tmod 256),S3):=eo
   refine a5M ?_;refine cW 12 ?_;refine a2S ?_;refine d7z ?_;refine hY b53 ?_;refine hY W7 ?_;refine hY (c5 G c3g j2 (hFi _) G) ?_;refine hY A2 ?_;refine hY a7E ?_;refine hY a7E ?_;refine b7a ?_;refine a8N ?_;refine z_1 ?_;refine cY U9 ?_;refine z_2 ?_;refine K5 (α:=Int) (λz=>[(0,.ptr 0 0),(11,(iv (diK c.fl true c.me x.name))),(12,.ptr 4 0),(15,iv v),(16,(sv ((r8 c.fl x.name).getD []))),(18,iv z)]) (λ_=>[rgm c S2 0 d 6,.dead,.box F.f.cells,.box x.cells,.box (diE c.fl true c.me x.name).cells,.dead,D9 (trk S2)]) (λz=>z=szV c x.name) ?_ ?_
   .
    refine a8D ?_;refine cC ?_ ?_<;>intro h3
    .have hd:r8 c.fl x.name=none:=by
      cases h:r8 c.fl x.name with
      |none=>rfl
      |some b=>rw[b0i (by rw[h];rfl)]at h3;exact absurd h3 I
     refine C4 ?_;refine b9H ?_;exact⟨1,(by rw[szV,hd]),tu_,G⟩
    .have hd:(r8 c.fl x.name).isSome=true:=by
      cases h:r8 c.fl x.name with
      |none=>rw[b0t h eU]at h3;exact absurd h3 I
      |some b=>rfl
     refine A8 ?_;exact⟨(((r8 c.fl x.name).getD []).length:Int),(by obtain⟨b,hb⟩:=b27.1 hd;rw[szV,hb];rfl),tu_,G⟩
   .intro z _ hz;subst hz;refine F7 ?_;refine z_1 ?_;refine b5R ?_;refine cG F9 ?_;refine cG a8R ?_;refine cY S4 ?_;refine o7 ?_;refine cC ?_ ?_<;>intro h4
    .rw [W (U h4)]at eo;refine z_1 ?_;refine de G a9M m0 (RS.at (q:=0) (t:=6) (S6 c S2 d 3) (a1k (.val _)) I G G) G ?_;intro y hy;subst hy;refine A1 [rgm c S2 3 d 6,.dead,.box F.f.cells,.box x.cells,.box (diE c.fl true c.me x.name).cells,.dead,D9 (trk S2)] G ?_;refine a0W ?_;exact⟨_,I8 G O G,W1 0 S2 3 d 6 W4 G G⟩
    .have h4':¬(v<0\/szV c x.name<=v):=sm_ h4;rw[H h4']at eo;refine a5M ?_;refine a8D ?_;refine cC ?_ ?_<;>intro h5
     .obtain ⟨bs,gP⟩:∃bs,r8 c.fl x.name=some bs:=by
       cases h:r8 c.fl x.name with
       |none=>rw[b0t h eU]at h5;exact absurd h5 I
       |some b=>exact⟨b,G⟩
      rw[gP]at eo;dsimp only at eo;have aP:szV c x.name=(bs.length:Int):=by rw[szV,gP]
      rw[aP]at h4';obtain⟨j,rfl⟩:∃j:Nat,v=(j:Int):=⟨v.toNat,J⟩;obtain⟨b,hb3⟩:=gx_ bs j;have hb4:=b.toNat_lt;have eb:bs.getD (j:Int).toNat 0=b:=by simp[hb3]
      rw[eb]at eo;refine a4b ?_;refine cY (J2 G O O G G t_8 J (show((r8 c.fl x.name).getD [])[j]?=some b by rw[gP];exact hb3)) ?_;refine cY (b1L G O G b74 c7H (a5B J J)) ?_;refine a0W ?_;exact⟨_,I8 G O G,W1 (b.toNat:Int) S2 0 d 6 W4 G G⟩
     .have hd:r8 c.fl x.name=none:=by
       cases h:r8 c.fl x.name with
       |none=>rfl
       |some b=>rw[b0i (by rw[h];rfl)]at h5;exact absurd h5 I
      rw[hd]at eo;dsimp only at eo;obtain⟨g1,s,dc,fc,hdA,jd,ii,hdk⟩:=b5r hc.g eU hd;rw[<- g1]at fc hdA;have iZ:=b1z HV bD hu0 eF ff hdA fc jd ii [] false (by rw[(jd.dec dc ii).pars (by rw[hdk];decide)];rfl) (λv hv=>by cases hv);obtain⟨b1,S3,ho3⟩:∃b1 S3,H5 rec c (diE c.fl true c.me x.name) [] false S2=(b1,S3):=⟨_,_,G⟩;rw[ho3]at iZ eo;have hbd2:=a6R (vlF b1);have hDD:=c3X hc (Z6 hdA).1;refine a5M ?_;refine a21 [] [0,1,3,7,0,31,63,127,127,0,767,2047] [0,1,2,3,4,5,6,7,8] (tl:=[(9,[0,1,2,3,4,5,6,7,8]),(10,[8]),(11,[])]) w9 w9 G (b48 ?_);refine b3Y ?_;refine c2P ?_;refine chr G b6U ?_;refine chr G (c7 G (c5 G c2s j2 (hDD _) G)) ?_;refine b9a ?_;refine a5p ?_;refine B1 G G G (j6 G a4J G i9 ?_);refine⟨⟨C3,a3q,c2n,c1G,(by exact c7 G a3h),(by exact c7 G (c5 G c2s j2 (hDD _) G)),C3,Q7,Q7,O⟩,?_⟩;refine d6A ?_;refine a5x ?_;refine z_1 ?_;refine b33 ?_;refine de G d0o ⟨O,O,O,G,O⟩ (RC.at (q:=0) (t:=6) iZ (a6c _ _ [] _) I G G) G ?_;intro y hy;subst hy;refine A1 [rgm c S3 (erF b1) d 8,.dead,.box F.f.cells,.box x.cells,.box (diE c.fl true c.me x.name).cells,.dead,.dead,.box s.cells,D9 (trk S3)] G ?_;refine cY (a0e G O G G G (b4f I)) ?_;refine a6u ?_;refine a8D ?_;refine cC ?_ ?_<;>intro h6
      .obtain ⟨Jj,rfl⟩:∃Jj,b1= .inl Jj:=by
        cases b1 with
        |inl Jj=>exact⟨Jj,G⟩
        |inr q=>
         have hz:(a5H (.inr q,S3) d).1=0:=G;rw[hz]at h6;exact absurd h6 I
       have ci:(a5H (.inl Jj,S3) d).1.tmod 256=Jj.tmod 256:=G;have hbd3:=a6R Jj;have h6':Jj.tmod 256<0:=of_decide_eq_true h6;replace eo:a0I rec c F x S=(.inl ((Jj.tmod 256+256).tmod 256),S3):=eo;rw[d9q h6']at eo;refine a5K ?_;refine cY o3 ?_;refine z_2 ?_;refine b0O ?_;exact⟨_,I8 G O G,W1 (Jj.tmod 256+256) S3 0 d 8 W4 G G⟩
      .have e6:a5H (a0I rec c F x S) d=((vlF b1).tmod 256,S3,erF b1,d):=by
        rw[eo];cases b1 with
        |inl Jj=>
         show((Jj.tmod 256+256).tmod 256,S3,(0:Int),d)=(Jj.tmod 256,S3,0,d);rw[e0G (show ¬Jj.tmod 256<0 from of_decide_eq_false h6)]
        |inr q=>rfl
       refine A8 ?_;refine b0O ?_;exact⟨_,I8 G O G,W1 ((vlF b1).tmod 256) S3 (erF b1) d 8 e6.symm G G⟩
theorem TrB.step(h:TrB S):TrS {S with st:=S.st+1}:=⟨h.1,by have:=h.2;show(S.tr.length:Int)+9<=2+9*(S.st+1);omega⟩
theorem a6s.zero{rec:Int->MS->Rs Int}(hs:S.st<=20000)(ht:TrB S):a6s rec L S 0 [] S 0:=⟨n_4 _,G,.inl ⟨G,SB.refl hs,ht,λ_ h=>(by cases h),G⟩⟩
theorem d3i{rec:Int->MS->Rs Int}{x:Ex}{a0 a1:Int}(e:x.args=[a0,a1])(S:MS):biS rec x S=bindM (W3 rec [] x.args S) λl S2=>(biV x.op (l.getD 0 0) (l.getD 1 0),S2):=by
 have g0:x.args.getD 0 0=a0:=by rw[e];rfl
 have g1:x.args.getD 1 0=a1:=by rw[e];rfl
 rw[biS,g0,g1,e];cases h0:(rec a0 S).1 with
 |inr q=>rw[a0q h0,W3,a0q h0];rfl
 |inl a=>
  rw[a0s h0,W3,a0s h0,W3];cases h1:(rec a1 (rec a0 S).2).1 with
  |inr q=>rw[a0q h1,a0q h1];rfl
  |inl b=>rw[a0s h1,a0s h1];rfl
theorem b6s{s:D}:diK fl va me s=0↔diC fl va me s=14:=by
 unfold diK diC
 split
 .decide
 .split
  .decide
  .split<;>decide
theorem d8g(h:(a != b)=false):a=b:=U h
theorem e1J{x y z:CV}(h:o8 x)(h':o8 y)(h'':o8 z):∀a∈[x,y,z],o8 a:=λa ha=>by
 rcases I0.1 ha with rfl|ha
 .exact h
 .exact d6f h' h'' a ha
theorem d8z(h:0<=a/\a<18446744073709551616)(n:Nat):0<=a / 2^n/\a / 2^n<18446744073709551616:=
 ⟨Int.ediv_nonneg h.1 (Int.pow_nonneg J),Int.lt_of_le_of_lt (Int.ediv_le_self _ h.1) h.2⟩
theorem b3w(c:MC)(hc:RW c)(rec:Fr->Int->MS->Rs Int)(F:Fr)(hF:FrG F)(i:Nat)(x:Ex)(hx:F.d.body[i]?=some x)(S:MS)(d:Int)(eF:S.ac=d)(ff:0<=d/\d<=64)(hs:S.st<=20000)(hT:TrB S)(HG:HGd rec {S with st:=S.st+1})(hU:HU rec)(hN:∀F i S,Ne0 (rec F i S))(HV:HVk c rec {S with st:=S.st+1}):RE 99 (b8C F (i:Int)) c S 0 d (λy=>y=a5H (W2 rec c F (i:Int) S) d):=by
 unfold RE b8C;have hn:=(hF.de.node hx).1;have bX:i<1000:=by have:=(n_2.1 hx).1;have:=hF.de.blen;omega
 have gn:=hT.step;obtain⟨S1,hS1⟩:∃S1:MS,S1={S with st:=S.st+1}:=⟨_,rfl⟩;rw[<- hS1]at HG HV gn;have fQ:S1.ac=d:=by rw[hS1];exact eF
 have je:0<=S1.ac/\S1.ac<=64:=by rw[fQ];exact ff
 have hDI:=c3P hc x.name;have hFi:=c3O hc x.name;refine cO Tryz.func99 ?_;refine a59 ?_;refine a58 ?_;refine a2a ?_;refine b8A ?_;refine cC ?_ ?_<;>intro h1
 .exfalso;simp at h1
 .refine a5M ?_;refine a2a ?_;refine cY b3B ?_;refine cY c8I ?_;refine b3k ?_;refine cC ?_ ?_<;>intro h2
  .have aG:S.st=20000:=U h2;refine z_1 ?_;refine de G a9M m0 (RS.at (q:=0) (t:=1) (S6 c S d 16) (a1k (.val _)) I G G) G ?_;intro y hy;subst hy;refine A1 (rgs c S 16 d++[.box F.f.cells]) G ?_;refine a0W ?_;exact⟨_,I8 G O G,b2O 0 S 16 d [.box F.f.cells] (by rw[W2,W aG];rfl) G⟩
  .have aG:¬S.st=20000:=U h2;have hst0:0<=S.st:=by have:=hT.2;omega
   have bc:S1.st<=20000:=by rw[hS1];show S.st+1<=20000;omega
   have eN:W2 rec c F (i:Int) S=W6 rec c F x S1:=by rw[W2,H aG,a8q,hx,hS1]
   refine A8 ?_;refine a2a ?_;refine cY b3B ?_;refine cY c8I ?_;refine cY a0F ?_;refine b4b ?_;refine cY b3B ?_;refine cY c8I ?_;refine d2C ?_;refine a4b ?_;refine cY (A4 G O O G G b6d a9Q J (j8 hx) G) ?_;refine cY (X8 G O G c6j a9Q (nb G)) ?_;refine cD (j6 G b4S G i9 ?_);refine cD (i0 G O O G j1 a9Q i9 G G (nb G) ?_);refine o7 ?_;refine a2t [rgm c S1 0 d 1,D9 (trk S1),.box F.f.cells,.box x.cells] (by rw[hS1];rfl) ?_;refine F7 ?_;refine z_0 ?_;refine b6n ?_;refine d2O ?_;refine a7v ?_;refine cC ?_ ?_<;>intro h3
   .have k1:x.k=1:=U h3;have eo:W2 rec c F (i:Int) S=(.inl x.num,S1):=by rw[eN,W6,W k1]
    refine z_0 ?_;refine b6n ?_;refine a0W ?_;exact⟨_,I8 G O G,b2O x.num S1 0 d [.box F.f.cells,.box x.cells] W4 G⟩
   .have k1:¬x.k=1:=U h3;refine a7v ?_;refine cC ?_ ?_<;>intro h4
    .have k2:x.k=2:=U h4;have eo:W2 rec c F (i:Int) S=(.inl (F.args.getD x.num.toNat 0),S1):=by rw[eN,W6,H k1,W k2]
     obtain⟨n0,n1⟩:=hn.k2 k2;obtain⟨j,hj⟩:∃j:Nat,x.num=(j:Int):=⟨x.num.toNat,J⟩;have ai:j<F.args.length:=by rw[hF.al];omega
     obtain⟨v,hv⟩:∃v,F.args[j]?=some v:=⟨F.args[j]'ai,Q⟩;have cL:F.args.getD x.num.toNat 0=v:=by rw[hj];simp[hv]
     rw[cL]at eo;refine z_1 ?_;refine b6n ?_;refine cY (A4 G O O G G t_7 t_1 J (by rw[hj];exact j8 hv) G) ?_;refine cY b8i ?_;refine a0W ?_;exact⟨_,I8 G O G,b2O v S1 0 d [.box F.f.cells,.box x.cells] W4 G⟩
    .have k2:¬x.k=2:=U h4;refine a7v ?_;refine cC ?_ ?_<;>intro h5
     .have k3:x.k=3:=U h5;have eo:W2 rec c F (i:Int) S=a1A rec c F x S1:=by rw[eN,W6,H k1,H k2,W k3]
      have cr:=(c8s c hc rec F hF i x hx k3 S1 d fQ ff bc gn HG hU hN HV).c;obtain⟨o,ho⟩:∃o,a1A rec c F x S1=o:=⟨_,G⟩;rw[ho]at cr eo;refine z_1 ?_;refine b33 ?_;refine cY c3R ?_;refine cY A2 ?_;refine de G Tryz.call149 a4T (RC.at (q:=0) (t:=1) cr (b38 _ _) I G G) G ?_;intro y hy;subst hy;exact d7v
     .have k3:¬x.k=3:=U h5;refine a7v ?_;refine cC ?_ ?_<;>intro h6
      .have k4:x.k=4:=U h6;have eo:W2 rec c F (i:Int) S=biS (rec F) x S1:=by rw[eN,W6,H k1,H k2,H k3,W k4]
       have cS:=hn.cnt;rw[W k4]at cS;obtain⟨a0,a1,ee⟩:=d8s cS;have hm0:a0∈x.args:=by rw[ee];simp
       have cz:a1∈x.args:=by rw[ee];simp
       have hI0:a6s (rec F) x.args S1 0 [] S1 0:=a6s.zero bc gn.b;rw[d3i ee]at eo;obtain⟨hI1,ej⟩:=hI0.next (d:=d) (a:=a0) (by rw[ee];rfl) (λhb=>HG.ok hF je hx a0 hm0 S1 hb) (hU F ⟨hF.src,hF.de⟩ a0 S1) (hN F a0 S1);obtain⟨v1,S2,e2,d1,bE⟩:∃w T q Jj,a5X (rec F a0 S1) S1 0 d=(w,T,q,Jj):=⟨_,_,_,_,G⟩;rw[bE]at hI1 ej;replace ej:d=d1:=ej.symm;subst ej;obtain⟨hI2,eG⟩:=hI1.next (d:=d) (a:=a1) (by rw[ee];rfl) (λhb=>HG.ok hF je hx a1 cz S2 hb) (hU F ⟨hF.src,hF.de⟩ a1 S2) (hN F a1 S2);obtain⟨v2,S3,e3,d2,bS⟩:∃w T q Jj,a5X (rec F a1 S2) S2 e2 d=(w,T,q,Jj):=⟨_,_,_,_,G⟩;rw[bS]at hI2 eG;replace eG:d=d2:=eG.symm;subst eG;have hI3:a6s (rec F) x.args S1 x.args.length ([]++[v1]++[v2]) S3 e3:=by rw[cS];exact hI2
       obtain⟨hz,hnz⟩:=hI3.done;refine F7 ?_;refine b3P ?_;refine hY e1K ?_;refine b3X ?_;refine de G b7x a4T (RC.at (q:=0) (t:=1) (b1o (rec:=rec F) (F:=F) (i:=a0) (S:=S1) (e:=0) (d:=d) λhe=>a6s.ok0 (S:=S1) (ks:=[]) hI0 fQ HV hF je hx hm0 he) (Z4 _ _) I G G) G ?_;intro y hy;rw[bE]at hy;subst hy;refine A1 [rgm c S2 e2 d 4,.dead,.box F.f.cells,.box x.cells,D9 (trk S2)] G ?_;refine a6u ?_;refine b3P ?_;refine hY e2W ?_;refine b3X ?_;refine de G b7x a4T (RC.at (q:=0) (t:=4) (b1o (rec:=rec F) (F:=F) (i:=a1) (S:=S2) (e:=e2) (d:=d) λhe=>a6s.ok0 (S:=S1) (ks:=[]) hI1 fQ HV hF je hx cz he) (Z4 _ _) I G G) G ?_;intro y hy;rw[bS]at hy;subst hy;refine A1 [rgm c S3 e3 d 5,.dead,.box F.f.cells,.box x.cells,.dead,D9 (trk S3)] G ?_;refine a6u ?_;refine a2a ?_;refine b8A ?_;refine cC ?_ ?_<;>intro h7
       .have he3:e3≠0:=U h7;rw[hnz he3]at eo;refine a89 ?_;exact⟨_,I8 G O G,W1 0 S3 e3 d 5 W4 G G⟩
       .have he3:e3=0:=U h7;subst he3;obtain⟨_,_,hAB,hAR⟩:=hz G;rw[hAR]at eo;replace eo:W2 rec c F (i:Int) S=(biV x.op v1 v2,S3):=eo;have hb1:InM v1:=hAB v1 Q;have bD:InM v2:=hAB v2 Q;refine A8 ?_;refine z_1 ?_;refine b6n ?_;refine cY A2 ?_;refine cY A2 ?_;refine de G Tryz.call150 a4s (RS.at (q:=0) (t:=5) (c00 c S3 d x.op v1 v2 (hn.k4 k4) hb1 bD) (e1J (.val _) (.val _) (.val _)) I G G) G ?_;intro y hy;subst hy;refine A1 [rgm c S3 (erF (biV x.op v1 v2)) d 5,.dead,.box F.f.cells,.box x.cells,.dead,D9 (trk S3)] G ?_;refine a0W ?_;exact⟨_,I8 G O G,W1 (vlF (biV x.op v1 v2)) S3 (erF (biV x.op v1 v2)) d 5 W4 G G⟩
      .have k4:¬x.k=4:=U h6;refine a7v ?_;refine cC ?_ ?_<;>intro h8
       .have k5:x.k=5:=U h8;have eo:W2 rec c F (i:Int) S=a5k (rec F) x S1:=by rw[eN,W6,H k1,H k2,H k3,H k4,W k5]
        have cS:=hn.cnt;rw[H k4,W k5]at cS;obtain⟨a0,a1,a2,ee⟩:=d8q cS;have g0:x.args.getD 0 0=a0:=by rw[ee];rfl
        have g1:x.args.getD 1 0=a1:=by rw[ee];rfl
        have g2:x.args.getD 2 0=a2:=by rw[ee];rfl
        have hm0:a0∈x.args:=by rw[ee];simp
        have cz:a1∈x.args:=by rw[ee];simp
        have cc:a2∈x.args:=by rw[ee];simp
        have hv0:=HV.ok hF je hx hm0 (SB.refl bc) gn.b d fQ;have hg0:=HG.ok hF je hx a0 hm0 S1 (SB.refl bc);have dX:=hN F a0 S1;have hu0:=(hU F ⟨hF.src,hF.de⟩ a0 S1).2 gn.b;obtain⟨o1,S2,ho⟩:∃o1 S2,rec F a0 S1=(o1,S2):=⟨_,_,G⟩;rw[ho]at hv0 hg0 dX hu0;replace hu0:TrB S2:=hu0;rw[a5k,g0,g1,g2,ho]at eo;refine F7 ?_;refine b3P ?_;refine hY e1K ?_;refine b3X ?_;refine de G b7x a4T (RC.at (q:=0) (t:=1) hv0 (Z4 _ _) I G G) G ?_;intro y hy;subst hy;refine A1 [rgm c S2 (erF o1) d 4,.dead,.box F.f.cells,.box x.cells,D9 (trk S2)] G ?_;refine a6u ?_;refine a2a ?_;refine b8A ?_;refine cC ?_ ?_<;>intro h9
        .obtain ⟨q,rfl⟩:∃q,o1= .inr q:=d7C (U h9);replace eo:W2 rec c F (i:Int) S=(.inr q,S2):=eo;refine a89 ?_;exact⟨_,I8 G O G,W1 0 S2 q d 4 W4 G G⟩
        .obtain ⟨v,rfl⟩:∃v,o1= .inl v:=d6e dX (U h9);have bD:SB S1 S2:=(SB.refl bc).next (o:=(.inl v,S2)) hg0 G;replace eo:W2 rec c F (i:Int) S=if v≠0 then rec F a1 S2 else rec F a2 S2:=eo
         refine a5M ?_;refine a8D ?_;refine cC ?_ ?_<;>intro bL
         .have hv:v≠0:=bne_iff_ne.1 (show(v != 0)=true from bL);rw[W hv]at eo;have dO:=HV.ok hF je hx cz bD hu0 d (bD.2.2.trans fQ);obtain⟨o,ho2⟩:∃o,rec F a1 S2=o:=⟨_,G⟩;rw[ho2]at dO eo;refine F7 ?_;refine b3P ?_;refine hY e2W ?_;refine b3X ?_;refine de G b7x a4T (RC.at (q:=0) (t:=4) dO (Z4 _ _) I G G) G ?_;intro y hy;subst hy;exact d7d
         .have hv:¬v≠0:=λh=>h (d8g (show(v != 0)=false from bL));rw[H hv]at eo;have cL:=HV.ok hF je hx cc bD hu0 d (bD.2.2.trans fQ);obtain⟨o,ho2⟩:∃o,rec F a2 S2=o:=⟨_,G⟩;rw[ho2]at cL eo;refine a5M ?_;refine b3P ?_;refine hY (A4 G O G G G t_7 t_1 J (j8 (show x.args[2]?=some a2 by rw[ee];rfl)) G) ?_;refine b3X ?_;refine de G b7x a4T (RC.at (q:=0) (t:=4) cL (Z4 _ _) I G G) G ?_;intro y hy;subst hy;exact d7d
       .have k5:¬x.k=5:=U h8;refine a7v ?_;refine cC ?_ ?_<;>intro eY
        .have k6:x.k=6:=U eY;have eo:W2 rec c F (i:Int) S=a0I rec c F x S1:=by rw[eN,W6,H k1,H k2,H k3,H k4,H k5,W k6]
         have cr:=(c94 c hc rec F hF i x hx k6 S1 d fQ ff bc gn HG hU hN HV).c;obtain⟨o,ho⟩:∃o,a0I rec c F x S1=o:=⟨_,G⟩;rw[ho]at cr eo;refine z_1 ?_;refine b33 ?_;refine cY c3R ?_;refine cY A2 ?_;refine de G Tryz.call151 a4T (RC.at (q:=0) (t:=1) cr (b38 _ _) I G G) G ?_;intro y hy;subst hy;exact d7v
        .have k6:¬x.k=6:=U eY;refine a7v ?_;refine cC ?_ ?_<;>intro fo
         .have k7:x.k=7:=U fo;have eo:W2 rec c F (i:Int) S=(a87 c x.name,(S1.look (H9 c.fl x.name))):=by rw[eN,W6,H k1,H k2,H k3,H k4,H k5,H k6,W k7]
          obtain⟨bn,bK⟩:=a2F (fl:=c.fl) (hn.k678 (.inr (.inl k7)));refine F7 ?_;refine d9W ?_;refine chr G a1e ?_;refine chr G d0d ?_;refine chr G a7P ?_;refine b3Y ?_;refine c2P ?_;refine chr G c3d ?_;refine chr G a88 ?_;refine chr G c87 ?_;refine b9a ?_;refine d5b ?_;refine a5p ?_;refine d1T ?_;refine c9T ?_;refine a5x ?_;refine d7X ?_;intro _ _;refine d8k ?_;refine a8D ?_;refine cC ?_ ?_<;>intro dR
          .have eU:diC c.fl true c.me x.name≠0:=U dR;rw[a87,W eU]at eo;refine a4b ?_;refine de G a9M j2 (RS.at (q:=0) (t:=5) (S6 c (S1.look (H9 c.fl x.name)) d (diC c.fl true c.me x.name)) (a1k (.val _)) I G G) G ?_;intro y hy;subst hy;refine A1 [rgm c (S1.look (H9 c.fl x.name)) (diC c.fl true c.me x.name) d 5,.dead,.box F.f.cells,.box x.cells,.box (diE c.fl true c.me x.name).cells,D9 (trk (S1.look (H9 c.fl x.name)))] G ?_;refine a0W ?_;exact⟨_,I8 G O G,W1 0 (S1.look (H9 c.fl x.name)) (diC c.fl true c.me x.name) d 5 W4 G G⟩
          .have eU:diC c.fl true c.me x.name=0:=U dR;rw[a87,H λh=>h eU]at eo;refine a5M ?_;refine a8D ?_;refine cC ?_ ?_<;>intro ie
           .have hd:r8 c.fl x.name=none:=by
             cases h:r8 c.fl x.name with
             |none=>rfl
             |some b=>rw[b0i (by rw[h];rfl)]at ie;exact absurd ie I
            rw[H (by rw[hd];decide)]at eo;exact d6u
           .have hd:(r8 c.fl x.name).isSome=true:=by
             cases h:r8 c.fl x.name with
             |none=>rw[b0t h eU]at ie;exact absurd ie I
             |some b=>rfl
            rw[W hd]at eo;refine a5M ?_;refine cW 12 ?_;refine a2S ?_;refine d7z ?_;refine hY b53 ?_;refine hY W7 ?_;refine hY (c5 G c3g j2 (hFi _) G) ?_;refine hY A2 ?_;refine hY a7E ?_;refine hY a7E ?_;refine b7a ?_;refine a8N ?_;refine z_1 ?_;refine cY U9 ?_;refine a0W ?_;exact⟨_,I8 G O G,W1 (((r8 c.fl x.name).getD []).length:Int) (S1.look (H9 c.fl x.name)) 0 d 5 W4 G G⟩
         .have k7:¬x.k=7:=U fo;refine a7v ?_;refine cC ?_ ?_<;>intro h15
          .have k8:x.k=8:=U h15;have eo:W2 rec c F (i:Int) S=(.inl (c9F c x.name),(S1.look (H9 c.fl x.name))):=by rw[eN,W6,H k1,H k2,H k3,H k4,H k5,H k6,H k7,W k8]
           obtain⟨bn,bK⟩:=a2F (fl:=c.fl) (hn.k678 (.inr (.inr k8)));refine F7 ?_;refine d9W ?_;refine chr G a1e ?_;refine chr G d0d ?_;refine chr G a7P ?_;refine b3Y ?_;refine c2P ?_;refine chr G c3d ?_;refine chr G a88 ?_;refine chr G c87 ?_;refine b9a ?_;refine d5b ?_;refine a5p ?_;refine d1T ?_;refine c9T ?_;refine a5x ?_;refine d7X ?_;intro _ _;refine d8k ?_;refine a8D ?_;refine cC ?_ ?_<;>intro h16
           .have hd:¬diC c.fl true c.me x.name=14:=λh=>bne_iff_ne.1 h16 (b6s.2 h);rw[c9F,W (U hd)]at eo;exact d6u
           .have hd:diC c.fl true c.me x.name=14:=b6s.1 (d8g h16);rw[c9F,H (U hd)]at eo;refine A8 ?_;refine a89 ?_;exact⟨_,I8 G O G,W1 0 (S1.look (H9 c.fl x.name)) 0 d 5 W4 G G⟩
          .have k8:¬x.k=8:=U h15;refine a7v ?_;refine cC ?_ ?_<;>intro h17
           .have k9:x.k=9:=U h17;have eo:W2 rec c F (i:Int) S=(b6h c x.name,(S1.look [⟨5,x.name,[]⟩])):=by rw[eN,W6,H k1,H k2,H k3,H k4,H k5,H k6,H k7,H k8,W k9]
            refine z_1 ?_;refine cY b53 ?_;refine cY W7 ?_;refine cY c6F ?_;refine cY (A6 [Ky.cv (⟨5,x.name,[]⟩:Ky)] G ⟨O,O⟩ t_5 t_3 a0A G G G G G G G G G) ?_;refine de G b5S j2 (a6Q (q:=0) (t:=1) c S1 0 d [⟨5,x.name,[]⟩] true (gn.len bc) Q I G G) G ?_;intro _ _;refine A1 [rgm c (S1.look [⟨5,x.name,[]⟩]) 0 d 4,.dead,.box F.f.cells,.box x.cells,D9 (trk (S1.look [⟨5,x.name,[]⟩]))] G ?_;refine a2n ?_;refine cW 12 ?_;refine a2S ?_;refine hY (i7 G O G b1X G c4q I) ?_;refine hY b6R ?_;refine hY b53 ?_;refine hY W7 ?_;refine hY (c5 G Tryz.call139 j2 (b1J c.ev c.en x.name (by have:=hc.g.ev.1;omega) _) G) ?_;refine hY A2 ?_;refine hY a7E ?_;refine hY a7E ?_;refine b7a ?_;refine a2K ?_;refine a2n ?_;refine z_1 ?_;refine b0j ?_;refine cC ?_ ?_<;>intro h18
            .have hv:a6j c.ev x.name=none:=U h18;rw[b6h,hv]at eo;dsimp only at eo;refine z_1 ?_;refine de G a9M m0 (RS.at (q:=0) (t:=4) (S6 c (S1.look [⟨5,x.name,[]⟩]) d 15) (a1k (.val _)) I G G) G ?_;intro y hy;subst hy;refine A1 [rgm c (S1.look [⟨5,x.name,[]⟩]) 15 d 4,.dead,.box F.f.cells,.box x.cells,D9 (trk (S1.look [⟨5,x.name,[]⟩]))] G ?_;refine a0W ?_;exact⟨_,I8 G O G,W1 0 (S1.look [⟨5,x.name,[]⟩]) 15 d 4 W4 G G⟩
            .obtain ⟨v,hv⟩:∃v,a6j c.ev x.name=some v:=by
              cases h:a6j c.ev x.name with
              |none=>rw[h]at h18;exact absurd h18 I
              |some v=>exact⟨v,G⟩
             rw[b6h,hv]at eo;dsimp only at eo;refine A8 ?_;refine b0O ?_;exact⟨_,I8 G O G,W1 ((a6j c.ev x.name).getD 0) (S1.look [⟨5,x.name,[]⟩]) 0 d 4 (by rw[eo,hv];rfl) G G⟩
           .have k9:¬x.k=9:=U h17;have k10:x.k=10:=by have:=hn.kind;omega
            obtain⟨n0,n1⟩:=hn.k10 k10;obtain⟨j,hj⟩:∃j:Nat,x.num=(j:Int):=⟨x.num.toNat,J⟩;have fp:j<64:=by omega
            have hq:=d8z hc.g.wd j;have eo:W2 rec c F (i:Int) S=(.inl (c.wd / 2^j%2),{S1 with rn:=true}):=by rw[eN,W6,H k1,H k2,H k3,H k4,H k5,H k6,H k7,H k8,H k9];rw[hj];rfl
            refine A8 ?_;refine a2a ?_;refine cY b3B ?_;refine cY (i7 G O G b7k G b4V I) ?_;refine cD (i0 G O G G j1 b4V (.inl G) G G (nb G) ?_);refine a2n ?_;refine cW 10 ?_;refine a2S ?_;refine hY (i7 G O G b1X G c2q I) ?_;refine hY (l9 G O G c3s G G) ?_;refine hY c8X ?_;refine hY a0F ?_;refine hY (d8O (n:=j) G O O G (n_7 (λz:Int=>iv z) hj) (Nat.le_of_lt fp) G) ?_;refine hY (d4y G O G G G hq) ?_;refine hY (b1L G O G Tryz.runUnderlying55 c7H (a5B J J)) ?_;refine hY a07 ?_;refine a8N ?_;refine c6 ?_;exact⟨_,I8 G O G,b2O (c.wd / 2^j%2) {S1 with rn:=true} 0 d [.box F.f.cells,.box x.cells] W4 rfl⟩
theorem c6E{c:MC}(hc:RW c):∀(n:Nat) (F:Fr),FrG F->∀(i:Int) (x:Ex),0<=i->F.d.body[i.toNat]?=some x->∀S:MS,S.st<=20000->20000-S.st<=(n:Int)->0<=S.ac->S.ac<=64->TrB S->VOk c (evN c (n+1) F) F i S
 |0,F,hF,i,x,hi,hx,S,h1,h2,h3,h4,hT=>λd eF=>by
  have he:S.st=20000:=by omega
  have e1:((i.toNat:Nat):Int)=i:=by omega
  have h:=b3w c hc (evN c 0) F hF i.toNat x hx S d eF ⟨J,J⟩ h1 hT (λF' _ j y _ _ S1 q1 q2=>absurd (show S.st+1<=S1.st from q1) J) (c0O hc.g 0) (c0V c 0) (λF' _ j y _ _ S1 q1 q2=>absurd (show S.st+1<=S1.st from q1) J);rw[e1]at h;exact h.c
 |n+1,F,hF,i,x,hi,hx,S,h1,h2,h3,h4,hT=>λd eF=>by
  have e1:((i.toNat:Nat):Int)=i:=by omega
  have h:=b3w c hc (evN c (n+1)) F hF i.toNat x hx S d eF ⟨J,J⟩ h1 hT (λF' hF' j y hj hy S1 _ q2 q3 q4=>c7K hc.g (n+1) F' hF' j y hj hy S1 q2 q3 q4) (c0O hc.g (n+1)) (c0V c (n+1)) (λF' hF' j y hj hy S1 q1 q2 q3 q4 q5=>c6E hc n F' hF' j y hj hy S1 q2 (by have q1':S.st+1<=S1.st:=q1;omega) q3 q4 q5);rw[e1]at h;exact h.c
theorem d4Q(hc:RW c){dc:De}(hd:D2 c x=some (s,dc))(hx:0<=x.ix)(hs:a1b s)(hm:dc∈s.decls)(args:List Int)(an:Bool)(gB:args.length=dc.params.length)(bZ:∀v∈args,InM v)(h1:0<=S.st/\S.st<=20000)(h2:S.ac=0)(hT:TrB S):RC 72 [.agg s.cells,iv x.ix,.list (args.map icv) an none] c S 0 0 (λy=>y=a5H (H5 (evN c 20001) c x args an S) 0):=
 b1z (S:=S) (λF hF i y hi hy S1 q1 q2 q3 q4 q5=>c6E hc 20000 F hF i y hi hy S1 q2 J q3 q4 q5) (SB.refl h1.2) hT h2 ⟨I,I⟩ hd hx hs hm args an gB bZ
theorem e0n(h:B4 fl=0)(hs:glk (w8 fl).2.1 p=some s):a4U fl p=some s/\p.length<=1000:=by
 have hw:=b0d h;obtain⟨f,hf,hp⟩:∃f∈fl,f.p=p:=by
  refine Classical.byContradiction λhn=>?_;have:=hw.non p λf hf hp=>hn ⟨f,hf,hp⟩;rw[this]at hs;cases hs
 subst hp;have hx:=hw.src f hf;rw[hs]at hx;refine⟨?_,?_⟩
 .unfold a4U;rw[W h,b30 (c1T h) f hf];exact hx.symm
 .have:=a1I ((U1 h).2 f hf).1;omega
theorem c4Q(fl:List Fi)(nn:Bool)(h:B4 fl=0)(k:Int)(p o:D)(σ:List b9):b8 CC 68 [.agg (A0 fl nn),iv k,(sv p),(sv o)] σ λr ae=>r= .ret (.agg (p8 true (w8 fl).2.2 k p o).cells)/\ae=σ:=by
 refine b8.anyw hCC pu_ pu_ (c9 (qO Tryz.func68 ?_)) σ;refine qD (F4 G O j1 i9 ?_);refine qD (j6 G a0z G i9 ?_);refine u (c5 G c9f ⟨O,O⟩ (a6k fl nn _) G) ?_;refine qC ?_ ?_<;>intro h1
 .exfalso;simp[h]at h1
 .refine u (c5 G d2F ⟨O,O⟩ (d2t nn h _) G) ?_;refine u (c5 G c2d a4s (b1G h k p o _) G) ?_;refine z_8 ?_;exact⟨_,B7 G b78,_,_,G,G,(.old (En.pure _).old)⟩
theorem c4E(fl:List Fi)(nn:Bool)(h:B4 fl=0)(e:En)(s:Src)(d:De)(hs:glk (w8 fl).2.1 e.pl=some s)(h0:0<=e.ix)(hd:s.decls[e.ix.toNat]?=some d)(hk:d.k=e.k)(hn:d.name=e.o)(σ:List b9):b8 CC 69 [.agg (A0 fl nn),.agg e.cells] σ λr ae=>r= .ret (.tup [.agg s.cells,iv e.ix,(.val (.bool true))])/\ae=σ:=by
 refine b8.anyw hCC pu_ pu_ ?_ σ;obtain⟨hsF,bo⟩:=e0n h hs;obtain⟨i,hi⟩:∃i:Nat,e.ix=(i:Int):=⟨e.ix.toNat,J⟩;have eG:s.decls[i]?=some d:=by rw[<- hd,hi];rfl
 have ai:=(n_2.1 eG).1;have hSo:∀σ,b8 CC 87 [.agg (A0 fl nn),sv e.pl] σ λr τ=>r= .ret (.tup [.agg s.cells,.val (.bool true)])/\τ=σ:=λσ=>by
  have hk:=d7h h;have g:=a8M fl nn e.pl hk.hl J (λq b hb=>by have:=hk.hbl q b hb;omega) σ;rw[hsF]at g;exact g
 refine c9 (qO Tryz.func69 ?_);refine a9N ?_;refine qD (j6 G a4J G i9 ?_);refine u (c5 G Tryz.call87 j2 (hSo _) G) ?_;refine c0k ?_;refine cW 39 ?_;refine hY A2 ?_;refine hY b8L ?_;refine hY A2 ?_;refine c6J ?_;refine D4 G G O G a4F ?_;refine b4c ?_;refine c6J ?_;refine e0l ?_;refine D4 G G O G (λhg=>Z3 G hg G a8m a7l G) ?_;refine D4 G G O G a8R ?_;refine b4c ?_;refine e0l ?_;refine c6J ?_;refine D4 G G O G e2z ?_;refine D4 G G O G (λhg=>a0U G hg G b2k G t_1 I) ?_;refine D4 G G O G (λhg=>Z1 G hg G a5v G) ?_;refine c6J ?_;refine D4 G G O G a8R ?_;refine b4c ?_;refine e0l ?_;refine c6J ?_;refine D4 G G O G e2z ?_;refine D4 G G O G (λhg=>a0U G hg G b2k G t_0 I) ?_;refine D4 G G O G d6Z ?_;refine D4 G G O G (λhg=>i7 G O G b0K G t_0 I) ?_;refine D4 G G O G a29 ?_;refine D4 G G O G (λhg=>a1r G hg hg G G (a7p _ _)) ?_;refine hY S4 ?_;refine a3D ?_;refine qC ?_ ?_<;>intro h1
 .exfalso;simp[hk,hn,hi]at h1;omega
 .refine cF [] [0,1,2] (tl:=[(3,[1,2]),(4,[]),(5,[])]) ?_;refine chf G b6P ?_;refine chf G c7h ?_;refine chf G b7Z ?_;refine c84 ?_;refine⟨⟨(by exact c7 G a85),b7V,O⟩,?_⟩;refine c6b ?_;refine b5o ?_;exact⟨_,o9 (rs:=[.cell 4 99,.tmp 5,.tmp 6]) (cs:=[_,_,_]) G d4q (n_5 G),_,_,G,G,(.tups ⟨.old (j5 (Src.pure _)).old,.old (.val _),.old (.val _),O⟩)⟩
theorem c8J{L:Nat}{am:List Nat}{cs aW:List CV}(h:b6a L am cs aW):B5 L am (.agg cs) (.agg aW):=.agg h.len h.get
def b2C(v e:Int):Int×Int×Int:=if e≠0 then(3,0,e)else if v=0 then(2,0,0)else(1,v,0)
abbrev b99(r:Int×Int×Int)(S:MS)(q:Nat):List CV:=[iv r.1,iv r.2.1,iv r.2.2,.val (.bool S.rn),a0x (trk S) q,iv S.st]
theorem b2n(c:MC)(S:MS)(e d v:Int):b8 CC 71 [.ptr 0 0,iv v] (rgs c S e d) λr τ=>∃_:Unit,C9 2 τ r (.ret (.agg (b99 (b2C v e) S 1))) [.dead,D9 (trk S)]/\True:=by
 refine qO Tryz.func71 ?_;refine qD (j6 G d1F G i9 ?_);refine qC ?_ ?_<;>intro h1
 .have hr:b2C v e=(3,0,e):=W (U h1);refine u e2b ?_;refine d8w ?_;exact c6q
 .have he:¬e≠0:=U h1;refine qC ?_ ?_<;>intro h2
  .have hr:b2C v e=(2,0,0):=by rw[b2C,H he,W (U h2)]
   refine u (z8 #[(0,1),(1,1),(2,1)] G ⟨G,O⟩ Tryz.runUnderlying57 Tryz.zeroValue57 G ⟨_,G⟩ (λw=>by kernel_rfl) G G) ?_;refine d8w ?_;exact c6q
  .have hr:b2C v e=(1,v,0):=by rw[b2C,H he,H (U h2)]
   refine u e2b ?_;refine d8w ?_;exact c6q
theorem c79(hk:n<=k)(hs:σ[k]?=some (D9 l)):Cls n σ (a0x l k) (.list (l.map Ky.cv) (gnn l.length) none):=by
 by_cases h:l=[]
 .subst h;exact .old (P3 _ ([]:List Ky) _)
 .rw [a2y h]at hs;rw[a2B h,a8i h];exact b0N hk hs (R1 l)
theorem e1V(h:McG c)(k:Int)(p o:D):(p8 true c.me k p o).k=k/\(p8 true c.me k p o).o=o:=by
 unfold p8;rw[W G];cases hg:glk c.me (A9 k p o)with
 |none=>exact⟨G,G⟩
 |some e=>obtain⟨h1,h2,_⟩:=h.k _ _ hg;exact⟨h1.symm,h2.symm⟩
def b1F(c:MC)(p o:D):c0H:=⟨b2C (vlF (a5u c p o).1) (erF (a5u c p o).1),(a5u c p o).2.rn,trk (a5u c p o).2,(a5u c p o).2.st⟩
theorem d0D(r:Int×Int×Int)(S:MS)(h:R q q'):O1 R (.agg (b99 r S q)) (.agg (b99 r S q')):=.agg G λi x y g1 g2=>by
 rcases i with _|_|_|_|_|_|i
 all_goals first|(injection g1 with g1;injection g2 with g2;subst g1 g2;first|exact .val _|exact b81 _ h)|cases g1
theorem b5n(v:Int)(hqt:q≠t)(h1:σ[q]?=some (rgm c S e d t))(h2:σ[t]?=some (D9 (trk S))):b8 CC 71 [.ptr q 0,iv v] σ λr τ=>∃_:Unit,r= .ret (.agg (b99 (b2C v e) S t))/\τ=a8n σ [q,t] [.dead,D9 (trk S)]/\True:=
 a3u (α:=Unit) (obs:=rgs c S e d) (res:=λ_=>.ret (.agg (b99 (b2C v e) S 1))) (res':=λ_=>.ret (.agg (b99 (b2C v e) S t))) (S:=λ_=>[.dead,D9 (trk S)]) (S':=λ_=>[.dead,D9 (trk S)]) (P:=λ_=>True) [q,t] hCC G (a1X (by simp[Y9,hqt])) (λi k ob g1 g2=>by
  obtain⟨aH,g3,g4⟩:=a95 (R:=λi k=>[q,t][i]?=some k) (q':=t) G i ob g2;refine⟨aH,?_,g4.symm λ_ _ h=>h⟩
  rcases i with _|_|i
  .injection g1 with g1;injection g3 with g3;subst g1 g3;exact h1
  .injection g1 with g1;injection g3 with g3;subst g1 g3;exact h2
  .cases g1) (.cons (.ptr G) (G7 (a1k (.val _)))) (D7 hCC ((b2n c S e d v).mono λr τ ⟨_,h,_⟩=>⟨_,_,h,(),G,G,O⟩)) V9 (λ_ i k x g1 g2=>by
   rcases i with _|_|i
   .injection g2 with g2;subst g2;exact⟨_,G,.dead⟩
   .injection g2 with g2;subst g2;exact⟨_,G,b0A _⟩
   .cases g2) λ_=>.ret (d0D _ _ G)
theorem d3w(r:Int×Int×Int)(S:MS)(hs:σ[k]?=some (D9 (trk S))):Cls 0 σ (.agg (b99 r S k)) (.agg (⟨r,S.rn,trk S,S.st⟩:c0H).cells):=
 .aggs ⟨.old (.val _),.old (.val _),.old (.val _),.old (.val _),c79 (n_4 _) hs,.old (.val _),O⟩
theorem c6m(fl:List Fi)(nn:Bool)(ev:List Va)(en:Bool)(wd:Int)(p o:D)(ba:B4 fl=0)(henv:a7m ev=true)(hG:McG (mcR fl nn ev en wd))(gq:N9 (kyT p o)=true)(cX:(T9 (mcR fl nn ev en wd) p o).ct=1):b8 CC 22 [.agg (A0 fl nn),.agg (a1o ev en),.val (.int .u64 wd),.agg [sv p,sv o]] [] λr τ=>∃_:Unit,X0 0 τ r (.ret (.tup [.agg (b1F (mcR fl nn ev en wd) p o).cells,iv 0]))/\True:=by
 have hRW:RW (mcR fl nn ev en wd):=⟨hG,ba,G,G⟩;obtain⟨s,dc,fc,hdA,jd,ii,hdk,hdn⟩:=hG.find (k:=2) (p:=p) (o:=o) cX;obtain⟨ej,eG⟩:=Z6 hdA;have hko:=e1V hG 2 p o;have hTB:TrB (MS0.look [kyT p o]):=⟨λk hk=>(a2W.1 hk).elim (λh=>by cases h) λh=>by simp at h;subst h;exact gq,by
  have:=b1v (S:=MS0) (ks:=[kyT p o]);have e:MS0.tr.length=0:=G;simp only[J5,a1D]at this;show((MS0.look [kyT p o]).tr.length:Int)<=2+9*0;omega⟩
 have iZ:=d4Q hRW (x:=(T9 (mcR fl nn ev en wd) p o)) hdA fc jd ii [] false (by rw[(jd.dec dc ii).pars (by rw[hdk];decide)];rfl) (λv hv=>by cases hv) (S:=MS0.look [kyT p o]) ⟨a5E 0,(by decide:(0:Int)<=20000)⟩ G hTB;rw[show H5 (evN (mcR fl nn ev en wd) 20001) (mcR fl nn ev en wd) (T9 (mcR fl nn ev en wd) p o) [] false (MS0.look [kyT p o])=a5u (mcR fl nn ev en wd) p o from G]at iZ;refine cO Tryz.func22 ?_;refine a59 ?_;refine c97 ?_;refine cD (j6 G d1F G i9 ?_);refine a58 ?_;refine a8a ?_;refine yc G c9f ⟨O,O⟩ (a6k fl nn _) ?_;refine cY Z5 ?_;refine cY A2 ?_;refine cG d8e ?_;refine cG (λhg=>c5 G Tryz.call56 ⟨hg,O⟩ (a3x ev en _) G) ?_;refine cG a3Y ?_;refine cY S4 ?_;refine o7 ?_;refine cC ?_ ?_<;>intro h1
 .exfalso;simp[ba,henv]at h1
 .refine A8 ?_;refine a8a ?_;refine a9c ?_;refine a9c ?_;refine yc G Tryz.call68 ⟨O,G,O,O,O⟩ (c4Q fl nn ba 2 p o _) ?_;refine d8m ?_;refine a2n ?_;refine z_0 ?_;refine cY a85 ?_;refine b3k ?_;refine cC ?_ ?_<;>intro h2
  .exact absurd cX (show ¬(p8 true (w8 fl).2.2 2 p o).ct=1 by simpa using h2)
  .refine A8 ?_;refine a8a ?_;refine cY a3h ?_;refine yc G Tryz.call69 j2 (c4E fl nn ba (T9 (mcR fl nn ev en wd) p o) s dc ej fc eG (hdk.trans hko.1.symm) (hdn.trans hko.2.symm) _) ?_;refine b5N ?_;refine cD (j6 G a4J G i9 ?_);refine cD (i0 G O O G j1 a3L i9 G G (nb G) ?_);refine cY a07 ?_;refine a6u ?_;refine cW 6 ?_;refine hY a4v ?_;refine hY a4v ?_;refine hY (c5 G d2F ⟨O,O⟩ (d2t nn ba _) G) ?_;refine hY b6R ?_;refine hY A2 ?_;refine hY (z8 #[(0,1),(1,2),(3,1),(4,1),(5,6),(11,1),(12,1)] G a4s b1X Tryz.zeroValue124 G ⟨_,G⟩ (λw=>by kernel_rfl) G G) ?_;refine a2K ?_;refine c9z ?_;refine a7V ?_;refine a2t [.box (A0 fl nn),.box (a1o ev en),.box [sv p,sv o],.box [iv 0,iv 0,iv 0,.val (.bool false),.list [] false none,iv 0],.box (T9 (mcR fl nn ev en wd) p o).cells,.box s.cells,rgm (mcR fl nn ev en wd) MS0 0 0 7,D9 (trk MS0)] G ?_;refine z_1 ?_;refine a9c ?_;refine a9c ?_;refine cY d5k ?_;refine cY (A6 [Ky.cv (kyT p o)] G ⟨O,O⟩ t_5 t_3 a0A G G G G G G G G G) ?_;refine de G b5S j2 (a6Q (q:=6) (t:=7) (mcR fl nn ev en wd) MS0 0 0 [kyT p o] true (n_4 _) Q I G G) G ?_;intro _ _;refine A1 [.box (A0 fl nn),.box (a1o ev en),.box [sv p,sv o],.box [iv 0,iv 0,iv 0,.val (.bool false),.list [] false none,iv 0],.box (T9 (mcR fl nn ev en wd) p o).cells,.box s.cells,rgm (mcR fl nn ev en wd) (MS0.look [kyT p o]) 0 0 8,.dead,D9 (trk (MS0.look [kyT p o]))] G ?_;refine o7 ?_;refine a4b ?_;refine b33 ?_;refine de G d0o ⟨O,O,O,G,O⟩ (RC.at (q:=6) (t:=8) iZ (a6c _ _ [] _) I G G) G ?_;intro y hy;subst hy;refine A1 [.box (A0 fl nn),.box (a1o ev en),.box [sv p,sv o],.box [iv 0,iv 0,iv 0,.val (.bool false),.list [] false none,iv 0],.box (T9 (mcR fl nn ev en wd) p o).cells,.box s.cells,rgm (mcR fl nn ev en wd) (a5u (mcR fl nn ev en wd) p o).2 (erF (a5u (mcR fl nn ev en wd) p o).1) 0 9,.dead,.dead,D9 (trk (a5u (mcR fl nn ev en wd) p o).2)] G ?_;refine de G Tryz.call71 j2 (b5n (q:=6) (t:=9) (vlF (a5u (mcR fl nn ev en wd) p o).1) I G G) G ?_;intro _ _;refine A1 [.box (A0 fl nn),.box (a1o ev en),.box [sv p,sv o],.box [iv 0,iv 0,iv 0,.val (.bool false),.list [] false none,iv 0],.box (T9 (mcR fl nn ev en wd) p o).cells,.box s.cells,.dead,.dead,.dead,D9 (trk (a5u (mcR fl nn ev en wd) p o).2)] G ?_;refine cD (i0 G O O G j1 b6Q i9 G G (nb G) ?_);refine b9H ?_;refine c6 ?_;exact⟨_,o9 (rs:=[.cell 8 59,.tmp 9]) (cs:=[_,_]) G ⟨d7q,M9,O⟩ (n_5 G),⟨(),.ret (.tups ⟨d3w _ _ G,.old (.val _),O⟩),O⟩⟩
theorem c6I{B:Nat}{ev:List Va}(hm:L3 B fl)(hB:B<=16384)(he:a8X ev){wd:Int}(hw:0<=wd/\wd<18446744073709551616){x:D×D}(hx:b0m fl x)(nn en:Bool)(σ:List b9):b8 CC 22 [.agg (A0 fl nn),.agg (a1o ev en),.val (.int .u64 wd),.agg (nmC x)] σ λr τ=>r= .ret (.tup [.agg (b1F (mcR fl nn ev en wd) x.1 x.2).cells,iv 0])/\τ=σ:=
 (F8 (res:=λ_:Unit=>.ret (.tup [.agg (b1F (mcR fl nn ev en wd) x.1 x.2).cells,iv 0])) (P:=λ_=>True) hCC (λa h=>by
  simp at h
  rcases h with rfl|rfl|rfl|rfl
  .exact j5 (cs:=A0 _ _) ⟨F5 _ _,O⟩
  .exact j5 (cs:=a1o _ _) ⟨a26 _ _,O⟩
  .exact .val _
  .exact j5 (cs:=nmC x) ⟨.val _,.val _,O⟩) (c6m fl nn ev en wd x.1 x.2 (hm.valid hB) he.valid (d5Q hm hB he hw nn en) hx.2 hx.1) (λ_ _=>D3 (cs:=[_,_]) ⟨c0H.pure _,.val _,O⟩) σ).mono λr τ ⟨_,h1,h2,_⟩=>⟨h1,h2⟩
theorem d2W(hc:McG c)(cX:(T9 c p o).ct=1){K:List Ky}(h:a1n c p o K rn):(a5P (Z8 K++(b1F c p o).tr)).length=(Z8 K).length/\((b1F c p o).rn=true->rn=true)/\(Z8 K).length<=40000000/\(b1F c p o).tr.length<=40000000:=by
 obtain⟨h1,h2⟩:=c7S hc cX h;have hm:∀k,k∈(b1F c p o).tr->k∈K:=λk hk=>h1 k ((L2 _).2 k |>.1 hk);have e:a5P (Z8 K++(b1F c p o).tr)=Z8 K:=by
  rw[<- a0T];refine b52 λk=>?_;rw[Q9,a0T,(L2 K).2 k];exact⟨λh=>h.elim id (hm k),.inl⟩
 have hl:(Z8 K).length<=40000000:=a1F (b6W K) h.len;refine⟨by rw[e],h2,hl,a1F ?_ hl⟩;have hs:=(L2 (kys (a5u c p o).2)).1;refine List.Nodup.length_le_of_subset (hs.imp λ{x y} fU e=>by subst e;rw[a7F]at fU;cases fU) λk hk=>?_;rw[a0T];exact((L2 K).2 k).2 (hm k hk)
theorem c5J(l:List Int)(nn:Bool)(k:Nat)(bg:k<=400000000)(hl:l.length<=maxLen):b8 CC 7 [.ptr 0 0] [r9 l nn k] λr τ=>∃a:List Fi×Nat,C9 1 τ r (.ret (.agg (A0 a.1 (gnn a.1.length)))) [r9 l nn a.2]/\(L3 8780 a.1/\k<=a.2/\a.2<=k+8000):=by
 refine qO Tryz.func7 ?_;refine qD (j6 G b6o G i9 ?_);refine qD (c4 G Tryz.call26 ⟨O,O⟩ (b9k l nn k J hl _ 0 G) G ?_);intro⟨fl,p⟩ ⟨hm,gj,cw⟩;dsimp only at hm gj cw⊢;refine qD (j6 G b6o G i9 ?_);refine qD (i0 G O O G j1 a7w i9 G G (nb G) ?_);refine qD (c4 G a7H m0 (J3 l nn p _ 0 G J hl 3 J) G ?_);intro _ _;have cg:=a98 (v:=b2I l p) (n:=3) J;obtain⟨ni,hni⟩:∃ni:Nat,L8 l p 3=(ni:Int):=⟨(L8 l p 3).toNat,by unfold L8;omega⟩;have cV:ni<=2:=by unfold L8 at hni;omega
 rw[hni];refine B3 hCC 3 G (α:=Nat×List Fi×Nat) (λa=>[(0,.ptr 0 0),(2,.ptr 1 0),(3,.ptr 2 0),(4,iv a.1)]) (λa=>[r9 l nn a.2.2,.box (A0 [] false),.box (A0 a.2.1 (gnn a.2.1.length))]) (λa=>a.1<=2/\L3 (6300+1240*(2-a.1)) a.2.1/\k<=a.2.2/\a.2.2<=k+5001+1090*(2-a.1)) (λa=>a.1) ⟨(ni,fl,p+1),[0,1,2],⟨cV,hm.mono J,do_,do_⟩,⟨G,G⟩,ut_,⟨.inr ⟨_,G,.same G Q6⟩,.inr ⟨_,G,.box ⟨.same G (a0g _ ([]:List Fi) _),O⟩⟩,.inr ⟨_,G,.same G a0H⟩,O⟩⟩ ?_;intro⟨i,gl,q3⟩ ⟨hi,hs,hq6,hq7⟩;dsimp only at hi hs hq6 hq7⊢;refine qk (qC ?_ ?_)<;> intro h1
 .have ai:0<i:=sm_ h1;refine qD (c4 G Tryz.call8 j2 (d5N l nn q3 J hl (6300+1240*(2-i)) ⟨J,J⟩ gl hs _ 0 G) G ?_);intro⟨gl2,q4⟩ ⟨eh,hq8,hq9⟩;dsimp only at eh hq8 hq9⊢;refine qD (i0 G O O G j1 a7w i9 G G (nb G) ?_);refine u a0D ?_;exact⟨(i-1,gl2,q4),[0,1,2],⟨do_,do_,by dsimp only;exact eh.mono J,do_,do_⟩,⟨G,G⟩,⟨⟨O,ur_⟩,⟨O,ur_⟩,⟨O,ur_⟩,⟨O,(by first|exact ur_|exact .same (n_7 (λz:Int=>(iv z)) (show(i:Int) -1=((i-1:Nat):Int) by omega)) uo_)⟩,O⟩,uq_⟩
 .have h0:i=0:=sm_ h1;subst h0;refine o6 ?_;refine c5b ?_;exact⟨_,B7 G a3U,⟨(gl,q3),a2k G Q6 (.old (Q0 _ _).old),hs.mono J,do_,do_⟩⟩
theorem c61(l:List Int)(nn:Bool)(k:Nat)(bg:k<=400000000)(hl:l.length<=maxLen)(σ:List b9)(q:Nat)(hq:σ[q]?=some (r9 l nn k)):b8 CC 7 [.ptr q 0] σ λr τ=>∃a:List Fi×Nat,r= .ret (.agg (A0 a.1 (gnn a.1.length)))/\τ=σ.set q (r9 l nn a.2)/\(L3 8780 a.1/\k<=a.2/\a.2<=k+8000):=
 a6L (c:=λa:List Fi×Nat=>.agg (A0 a.1 (gnn a.1.length))) (S:=λa=>r9 l nn a.2) hCC (λa h=>by simp at h) (λ_=>Q0 _ _) (λ_=>G0 _ _ _) (G0 _ _ _) G (c5J l nn k bg hl) σ q hq
theorem b7B{f:Fi}:∀{fl:List Fi},(fl.Pairwise λa b=>a.p≠b.p)->f∈fl->r8 fl f.p=some f.b
 | [],_,h=>by cases h
 |y::fl,hp,h=>by
  obtain⟨h1,h2⟩:=a2N.1 hp;unfold r8
  rcases I0.1 h with rfl|h
  .rw [List.find?_cons_of_pos Q];rfl
  .rw [List.find?_cons_of_neg (by simpa using h1 f h)];exact b7B h2 h
theorem a8F(l:List Int)(nn:Bool)(hl:l.length<=maxLen)(wd:Int)(hw:0<=wd/\wd<18446744073709551616):b8 CC 4 [.list (l.map icv) nn none,(.val (.int .u64 wd))] [] λr τ=>∃_:Unit,X0 0 τ r (.ret (.val (.bool true)))/\True:=by
 refine cO Tryz.func4 ?_;refine b9I ?_;refine z_1 ?_;refine cY (z8 #[(0,1),(1,1)] G ⟨O,O⟩ c6v Tryz.zeroValue32 G ⟨_,G⟩ (λw=>by kernel_rfl) G G) ?_;refine c9z ?_;refine z_1 ?_;refine de G Tryz.call7 ⟨O,O⟩ (c61 l nn 0 J hl _ 0 G) G ?_;intro⟨fl,q0⟩ ⟨hm,bE,bS⟩;dsimp only at hm bE bS⊢;refine cY A2 ?_;refine de G Tryz.call9 ⟨O,O⟩ (b1C l nn q0 J hl _ 0 G) G ?_;intro⟨ev,q1⟩ ⟨he,hq3,hq4⟩;dsimp only at he hq3 hq4⊢;have ba:=hm.valid J;have hc:=d5Q hm J he hw (gnn fl.length) (gnn ev.length);refine cD (j6 G b6o G i9 ?_);refine cD (j6 G c2m G i9 ?_);refine cD (i0 G O O G j1 a7w i9 G G (nb G) ?_);refine cD (i0 G O O G j1 c4q i9 G G (nb G) ?_);refine a2n ?_;refine a8a ?_;refine de G Tryz.call11 ⟨O,O⟩ (c9g fl (gnn fl.length) (by have:=hm.len;omega) hm.plen (λp b hd=>by obtain⟨f,hf,hb⟩:=b3j hd;rw[<- hb];have:=hm.byt f hf;omega) (λ_ f hf=>b7B (d6N ba) hf) (λ_=>⟨by have:=(a3R (fl:=fl)).1;have:=hm.len;omega,a3R.2⟩) ba _) G ?_;intro ts ⟨hts,htl⟩;refine cY (Z3 G O G b0y a7l G) ?_;refine a9r ?_;refine u0 hCC (α:=Nat) (λi=>[(1,(.val (.int .u64 wd))),(6,.ptr 1 0),(7,.ptr 2 0),(23,(.list (ts.map nmC) (gnn ts.length) none)),(24,iv ts.length),(25,iv i)]) (λ_=>[r9 l nn q1,.box (A0 fl (gnn fl.length)),.box (a1o ev (gnn ev.length))]) (λi=>i<=ts.length) (λi=>ts.length -i) 0 (n_4 _) tu_ (au:=[]) G D5 uz_ ?_;intro j hj;refine a9p ?_;refine cC ?_ ?_<;>intro h1
 .have ai:j<ts.length:=sm_ h1;obtain⟨x,hb,hxm⟩:=a3J ai;have hx:=hts x hxm;refine b34 ?_;refine cY (A4 G O O G G b0y a9y J (j8 hb) G) ?_;refine cY (X8 G O G Tryz.isAgg40 a9y (nb G)) ?_;refine cD (j6 G b2r G i9 ?_);refine cD (i0 G O O G j1 a9y i9 G G (nb G) ?_);refine o7 ?_;refine a8a ?_;refine cY d2l ?_;refine de G c6h j2 (b1Q fl (gnn fl.length) ev (gnn ev.length) wd hm.plen ba (by have:=hm.len;omega) hc (d9M.of ba).es x.1 x.2 hx.1 _) G ?_;intro⟨K,rn⟩ hP;dsimp only at hP⊢;obtain⟨gU,hrn,hKl,htrl⟩:=d2W hc hx.1 hP;refine b5N ?_;refine cY a07 ?_;refine b2V ?_;refine a8a ?_;refine cY b6R ?_;refine cY A2 ?_;refine cY d2l ?_;refine ye G Tryz.call22 a4s (c6I hm J he hw hx _ _ _) G ?_;refine b72 ?_;refine cD (j6 G d1F G i9 ?_);refine cD (i0 G O O G j1 b6Q i9 G G (nb G) ?_);refine a6u ?_;refine z_1 ?_;refine b5R ?_;refine cG a4F ?_;refine cY S4 ?_;refine cY A2 ?_;refine cG (λhg=>i7 G O G b7k G b4V I) ?_;refine cG (λhg=>l9 G hg G b9B G G) ?_;refine cG b1b ?_;refine c8m G G (λh=>h) G G (λhk hg=>a0Q G O j1) ?_;refine c8m G G (λh=>h) G G (λhk hg=>b1Z G ⟨hk,hg⟩ G) ?_;refine cG b7A ?_;refine cY S4 ?_;refine o7 ?_;refine cC ?_ ?_<;>intro h2
  .exfalso;simp at h2;rw[hrn h2.1]at h2;cases h2.2
  .refine a5M ?_;refine cF [] [0,2,3,7,8] (tl:=[(1,[1,2,3,4]),(4,[3,4]),(5,[3,4]),(6,[3,4]),(9,[])]) ?_;refine chf G O0 ?_;refine chf G d1E ?_;refine chf G b7j ?_;refine chf G O0 ?_;refine chf G (c7 G a7K) ?_;refine F2 ?_;refine B1 G G G (d3Y G G O G q_3 t_5 t_3 a9G a0A G d0j (by simp only[N0];omega) (Z8 K).length Q ?_);refine⟨⟨(by exact c7 G (i7 G O G b7k G b9s I)),c3j,C3,d4I,O⟩,?_⟩;refine B1 G G G (B6 G O O G Q q_3 t_5 t_3 a9G a0A G (.inr G) q_8 d0j (by simp only[N0];omega) ((Z8 K++(b1F (mcR fl (gnn fl.length) ev (gnn ev.length) wd) x.1 x.2).tr).map Ky.cv) (Z8 K++(b1F (mcR fl (gnn fl.length) ev (gnn ev.length) wd) x.1 x.2).tr).length (by rw[a8o]) Q ?_);refine⟨⟨C3,d4I,O⟩,?_⟩;refine C7 G G (c7 G (c5 G Tryz.call23 ⟨O,O⟩ (d3h (Z8 K++(b1F (mcR fl (gnn fl.length) ev (gnn ev.length) wd) x.1 x.2).tr) _ (by rw[n_9];omega) _) G)) ⟨⟨C3,d4I,O⟩,?_⟩;refine C7 G G (c7 G a7K) ⟨⟨C3,d4I,O⟩,?_⟩;refine C7 G G (c7 G b16) ⟨O,?_⟩;refine a0Z ?_;refine cC ?_ ?_<;>intro h3
   .exfalso;rw[gU]at h3;simp at h3
   .refine b3x ?_;exact⟨(j+1),_,⟨J,J⟩,tu_,G⟩
 .refine o6 ?_;refine z_0 ?_;refine yc G Tryz.call21 trivial (b9U _) ?_;refine a0W ?_;exact⟨_,rE1,(by exact⟨(),.ret (.old (.val _)),O⟩)⟩
theorem a9R(l:List Int)(nn:Bool)(hl:l.length<=maxLen)(wd:Int)(hw:0<=wd/\wd<18446744073709551616)(σ:List b9):b8 CC 4 [.list (l.map icv) nn none,(.val (.int .u64 wd))] σ λr τ=>r= .ret (.val (.bool true))/\τ=σ:=
 (F8 (res:=λ_:Unit=>.ret (.val (.bool true))) (P:=λ_=>True) hCC (λa h=>by
  simp at h
  rcases h with rfl|rfl
  .exact N2 _ _
  .exact .val _) (a8F l nn hl wd hw) (λ_ _=>.val _) σ).mono λr τ ⟨_,h1,h2,_⟩=>⟨h1,h2⟩
end Go.Proofs.YtncmhkpnclafkaaGreatDoor
