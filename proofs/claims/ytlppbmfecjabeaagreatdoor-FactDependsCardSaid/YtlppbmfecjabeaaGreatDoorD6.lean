/- Part 6 of what the claim needs: values without addresses, and what the program's functions do with them. -/
import Derived.Test.YtlppbmfecjabeaaGreatDoorD5
set_option linter.all false
set_option maxRecDepth 100000
set_option maxHeartbeats 4000000
namespace Go.Proofs.YtlppbmfecjabeaaGreatDoor
open Go Go.Cl
variable{fl:List Fi}{i k j:Nat}{p o s n:I}{L:List (I×Src)}{c:MC}{B N:List I}{F F':Fr}{x:Ex}{ev:List Va}{d:De}{Je Jg σ:List b9}{α β:Type}{v v':b9}{S:MS}{rec:Fr->Int->MS->Rs Int}{ms:SM}{me:EM}{y:En}{ks:List Ky}{C:Ctx}{E:Env}{t:TypeId}{wd:Int}
def a0m(f:Fi):Option Src:=if a38 f.p=true then O9 f.b else none
def deK(x:Src)(d:De):Nm:=D4 d.k x.pkg d.name
def b5v(q:Nm)(f:Fi):List (Src×De):=match a0m f with
 |none=>[]
 |some x=>(x.decls.filter λd=>decide (deK x d=q)).map λd=>(x,d)
def occ(q:Nm)(fl:List Fi):List (Src×De):=fl.flatMap (b5v q)
noncomputable def c4V:List (Src×De)->I
 | []=>[45]
 | [(x,d)]=>[61]++a33 x d
 |_=>[63]
def a7X(ms:SM)(o:Option En):List (Src×De)->Prop
 | []=>o=none
 |(x,d)::t=>∃e,o=some e/\e.ct=1+(t.length:Int)/\glk ms e.pl=some x/\0<=e.ix/\x.decls[e.ix.toNat]?=some d
theorem a7X.add{Ja:Nm->List (Src×De)}(h:∀q,a7X ms (glk me q) (Ja q)){path:I}{x:Src}(hg:glk ms path=some x)(hd:x.decls[i]?=some d)(q:Nm):a7X ms (glk (a2e me ⟨x.pkg,d.name,d.k,path,(i:Int),1⟩) q) (Ja q++if deK x d=q then [(x,d)]else []):=by
 rw[a2e,I8];show a7X ms (if q=D4 d.k x.pkg d.name then _ else _) _;by_cases hq:deK x d=q
 .rw [W hq];subst hq;have h1:=h (deK x d);rw[W (show deK x d=D4 d.k x.pkg d.name from O)];cases hO:Ja (deK x d)with
  |nil=>
   rw[hO]at h1;have h1:glk me (D4 d.k x.pkg d.name)=none:=h1;simp only[h1];exact⟨_,O,O,hg,Int.natCast_nonneg _,H hd⟩
  |cons y t=>
   obtain⟨y,z⟩:=y;rw[hO]at h1;obtain⟨e,h2,h3,h4,h5,h6⟩:=h1;have h2:glk me (D4 d.k x.pkg d.name)=some e:=h2;simp only[h2];refine⟨_,O,?_,h4,h5,h6⟩;show e.ct+1=1+((t++[(x,d)]).length:Int);rw[h3,n_8];simp only[n_9,R1];omega
 .rw [G hq,a1f];rw[G (λe=>hq e.symm)];exact h q
theorem a7X.addDs{ms:SM}{path:I}{x:Src}(hg:glk ms path=some x):∀(n k:Nat) (me:EM) (Ja:Nm->List (Src×De)),x.decls.length -k=n->(∀q,a7X ms (glk me q) (Ja q))->∀q,a7X ms (glk (addDs me path x.pkg (x.decls.drop k) k) q) (Ja q++(((x.decls.drop k).filter λd=>decide (deK x d=q)).map λd=>(x,d)))
 |0,k,me,Ja,hn,h,q=>by
  rw[U4 J,Go.Proofs.YtlppbmfecjabeaaGreatDoor.addDs];simpa using h q
 |n+1,k,me,Ja,hn,h,q=>by
  obtain⟨d,hd⟩:=gx_ x.decls k;rw[a3G hd];have h1:=a7X.addDs hg n (k+1) _ _ J (λq=>a7X.add h hg hd q) q;have hdr:x.decls.drop k=d::x.decls.drop (k+1):=by
   obtain⟨ah,rfl⟩:=n_3.1 hd;exact U5 ah
  rw[hdr,b0I];by_cases hq:deK x d=q
  .rw [W (H hq),a8w];rw[W hq,H4]at h1;exact h1
  .rw [G (H hq)];rw[G hq,a1f]at h1;exact h1
theorem a7X.put{o:Option En}{l:List (Src×De)}{path:I}{x:Src}(h:a7X ms o l)(hp:glk ms path=none):a7X (J5 ms path x) o l:=by
 rcases l with _|⟨⟨y,d⟩,t⟩
 .exact h
 .obtain ⟨e,h1,h2,h3,h4⟩:=h;refine⟨e,h1,h2,?_,h4⟩;rw[I8,G]
  .exact h3
  .intro he;rw[he,hp]at h3;cases h3
structure WRd(dn:List Fi)(ms:SM)(me:EM):Prop where
 src:∀f∈dn,glk ms f.p=a0m f
 non:∀p,(∀f∈dn,f.p≠p)->glk ms p=none
 ent:∀q,a7X ms (glk me q) (occ q dn)
theorem WRd.step{dn:List Fi}{s:WS}{f:Fi}(h:WRd dn s.2.1 s.2.2)(hf:∀g∈dn,g.p≠f.p):WRd (dn++[f]) (Y6 s f).2.1 (Y6 s f).2.2:=by
 have hnone:=h.non f.p hf;have hocc:∀q,occ q (dn++[f])=occ q dn++b5v q f:=λq=>by simp[occ]
 cases hs:a0m f with
 |none=>
  have hw:(Y6 s f).2=s.2:=by
   unfold Y6;unfold a0m at hs
   split
   .rename_i h1;rw[W h1]at hs;rw[hs]
   .rfl
  have e1:(Y6 s f).2.1=s.2.1:=by rw[hw]
  have e2:(Y6 s f).2.2=s.2.2:=by rw[hw]
  rw[e1,e2];refine⟨λg hg=>?_,λp hp=>h.non p λg hg=>hp g (by simp[hg]),λq=>?_⟩
  .rcases W0.1 hg with hg|hg
   .exact h.src g hg
   .rw [a9t.1 hg,hs];exact hnone
  .rw [hocc,b5v,hs,a1f];exact h.ent q
 |some x=>
  have hw:(Y6 s f).2=(J5 s.2.1 f.p x,addDs s.2.2 f.p x.pkg x.decls 0):=by
   unfold Y6;unfold a0m at hs;split at hs
   .rename_i h1;rw[W h1,hs]
   .cases hs
  have e1:(Y6 s f).2.1=J5 s.2.1 f.p x:=by rw[hw]
  have e2:(Y6 s f).2.2=addDs s.2.2 f.p x.pkg x.decls 0:=by rw[hw]
  rw[e1,e2];refine⟨λg hg=>?_,λp hp=>?_,λq=>?_⟩
  .rw [I8]
   rcases W0.1 hg with hg|hg
   .rw [G (hf g hg)];exact h.src g hg
   .rw [a9t.1 hg,W O,hs]
  .rw [I8,G (λe=>hp f Q e.symm)];exact h.non p λg hg=>hp g (by simp[hg])
  .rw [hocc,b5v,hs];have hg:glk (J5 s.2.1 f.p x) f.p=some x:=by rw[I8,W O]
   have:=a7X.addDs hg _ 0 s.2.2 (λq=>occ q dn) O (λq=>(h.ent q).put hnone) q;simpa using this
theorem WRd.all:∀{l dn:List Fi} {s:WS},WRd dn s.2.1 s.2.2->(l.Pairwise λa b=>a.p≠b.p)->(∀g∈dn,∀f∈l,g.p≠f.p)->WRd (dn++l) (a60 l s).2.1 (a60 l s).2.2
 | [],dn,s,h,_,_=>by simpa[a60]using h
 |f::l,dn,s,h,hp,hd=>by
  have h1:=h.step (f:=f) λg hg=>hd g hg f Q;obtain⟨ga,cu⟩:=a6m.1 hp;have:=WRd.all (l:=l) h1 cu (λg hg e he=>by
   rcases W0.1 hg with hg|hg
   .exact hd g hg e (by simp[he])
   .rw [a9t.1 hg];exact ga e he)
  rw[H4]at this;exact this
theorem d5Y(h:B1 fl=0):fl.Pairwise λa b=>a.p≠b.p:=by
 have h0:rvE none fl=0:=by
  unfold B1 at h;split at h
  .cases h
  .exact h
 exact(b0k h0).2.imp λ{a b} ck he=>by rw[he]at ck;exact b8A _ ck
theorem a9P(h:B1 fl=0):WRd fl (F5 fl).2.1 (F5 fl).2.2:=by
 have:=WRd.all (l:=fl) (dn:=[]) (s:=([],[],[])) ⟨λf hf=>by simp at hf,λp _=>O,λq=>O⟩ (d5Y h) (λg hg=>by simp at hg);rw[F5,W h];simpa using this
theorem c3J{k:Int}(h:glk me (D4 k p o)=none):(C3 true me k p o).ct=0:=by
 unfold C3;rw[W O,h]
theorem a5c(h:B1 fl=0)(k:Int)(p o:I):Y5 (F5 fl).2.1 (C3 true (F5 fl).2.2 k p o)=c4V (occ (D4 k p o) fl):=by
 have h1:=(a9P h).ent (D4 k p o);cases hO:occ (D4 k p o) fl with
 |nil=>
  rw[hO]at h1;unfold Y5;rw[W (c3J h1)];rfl
 |cons y t=>
  obtain⟨x,d⟩:=y;rw[hO]at h1;obtain⟨e,h2,h3,h4,h5,h6⟩:=h1;have he:C3 true (F5 fl).2.2 k p o=e:=by
   unfold C3;rw[W O,h2]
  rw[he];unfold Y5;rw[G J];cases t with
  |nil=>
   rw[W (H h3)];unfold c15;rw[h4];simp only[n_7,h6,b2Z,b8S];rfl
  |cons z t=>
   rw[G (by rw[h3,n_9];omega)];rfl
theorem a6u(h:B1 fl=0)(pkg:I):a8u (F5 fl).2.1 fl pkg=fl.filter λf=>decide ((a0m f).map Src.pkg=some pkg):=by
 unfold a8u;refine List.filter_congr λf hf=>?_;rw[(a9P h).src f hf];cases a0m f<;>simp
theorem c7B:∀{l:List Fi} {pv:Option Fi},(∀f∈l,E9 f.p=true/\f.b.length<=16384)->c3T l->(∀g,pv=some g->∀f∈l,Op.bytesLess g.p f.p=true)->rvE pv l=0
 | [],_,_,_,_=>rfl
 |f::l,pv,h,hs,hp=>by
  obtain⟨h1,h2⟩:=a6m.1 hs;have hf:=h f Q;have e0:I6 pv f=0:=by
   unfold I6;rw[G (by rw[hf.1];simp)];cases pv with
   |none=>
    rw[G Q,G Q,G J]
   |some g=>
    have hg:=hp g O f Q;have aB:¬f.p=g.p:=λe=>by rw[e,b38]at hg;cases hg
    have fJ:¬Op.bytesLess f.p g.p=true:=λe=>by
     have:=a7O hg e;rw[b38]at this;cases this
    rw[G (H aB),G (H fJ),G J]
  rw[rvE,W e0];exact c7B (λg hg=>h g (by simp[hg])) h2 λg hg=>by injection hg with hg;subst hg;exact h1
theorem b7h:∀s∈a3E,E9 s=true/\s.length<=1000:=by decide
theorem K5.valid{B:Nat}(h:K5 B fl)(hB:B<=16384):B1 fl=0:=by
 have hl:=h.len;unfold B1;rw[G J];exact c7B (λf hf=>⟨(b7h _ (h.pth f hf)).1,Nat.le_trans (h.byt f hf) hB⟩) h.srt λg hg=>by cases hg
theorem K5.plen{B:Nat}(h:K5 B fl):∀f∈fl,f.p.length<=1000000000:=λf hf=>by
 have:=(b7h _ (h.pth f hf)).2;omega
theorem b1e{α β:Type} [DecidableEq α]{a:α}{c:β}{x:α×β}:∀{l:List (α×β)},x∈J5 l a c->x=(a,c)\/x∈l
 | [],h=>.inl (by simpa[J5]using h)
 |(b,d)::l,h=>by
  rw[J5]at h;split at h
  .rename_i ck;subst ck
   rcases J6.1 h with h|h
   .exact .inl h
   .exact .inr (X6 _ h)
  .rcases J6.1 h with h|h
   .exact .inr (h▸a1l)
   .exact (b1e h).imp id (X6 _)
theorem a7A{α β:Type} [DecidableEq α]{a:α}{c:β}:∀{l:List (α×β)},(J5 l a c).length<=l.length+1
 | []=>n_6 _
 |(b,d)::l=>by
  rw[J5]
  split
  .simp
  .have:=a7A (a:=a) (c:=c) (l:=l);simp only[n_9];omega
theorem d8t [DecidableEq α]{l:List (α×β)}{a:α}{c:β}(h:glk l a=some c):(a,c)∈l:=by
 obtain⟨i,hi,_⟩:=a7F h;exact n_2 hi
structure EnV(q:Nm)(e:En):Prop where
 key:q=D4 e.k e.p e.o
 kind:e.k=1\/e.k=2\/e.k=3
 pkg:B5 e.p=true
 own:e.k≠3->B5 e.o=true
 pth:e.k=3->E9 e.o=true
variable{pkg:I}
theorem d7G{x:En}(hx:EnV (D4 x.k x.p x.o) x)(h:∀y∈me,EnV y.1 y.2):∀y∈a2e me x,EnV y.1 y.2:=λy hy=>by
 unfold a2e at hy
 rcases b1e hy with rfl|hy
 .dsimp only
  split
  .rename_i f hf;have:=h _ (d8t hf);exact⟨this.key,this.kind,this.pkg,this.own,this.pth⟩
  .exact hx
 .exact h y hy
theorem c1y{path pkg:I}(hp:B5 pkg=true):∀(l:List De) (k:Nat) (me:EM),(∀d∈l,DeG d)->(∀y∈me,EnV y.1 y.2)->(∀y∈addDs me path pkg l k,EnV y.1 y.2)/\(addDs me path pkg l k).length<=me.length+l.length
 | [],k,me,_,h=>⟨h,n_6 _⟩
 |d::l,k,me,hd,h=>by
  have hg:=hd d a1l;obtain⟨h1,h2⟩:=c1y hp l (k+1) (a2e me ⟨pkg,d.name,d.k,path,k,1⟩) (λe he=>hd e (X6 _ he)) (d7G ⟨O,hg.kind,hp,λh3=>(hg.name h3).1,hg.path⟩ h);refine⟨h1,Nat.le_trans h2 ?_⟩;have h3:(a2e me ⟨pkg,d.name,d.k,path,k,1⟩).length<=me.length+1:=a7A;rw[n_9];omega
structure WV(n:Nat)(s:WS):Prop where
 src:∀x∈s.2.1,a0i x.2
 ent:∀x∈s.2.2,EnV x.1 x.2
 sl:s.2.1.length<=n
 el:s.2.2.length<=64*n
theorem WV.step{n:Nat}{s:WS}(h:WV n s)(f:Fi):WV (n+1) (Y6 s f):=by
 unfold Y6;have fS:=h.el;have ez:=h.sl
 split
 .cases hp:O9 f.b with
  |none=>exact⟨h.src,h.ent,Nat.le_succ_of_le ez,do_⟩
  |some x=>
   have hx:=a5w hp;obtain⟨h1,h2⟩:=c1y (path:=f.p) hx.pkg.1 x.decls 0 s.2.2 hx.dec h.ent;have hd:=hx.decl;have:=a7A (a:=f.p) (c:=x) (l:=s.2.1);refine⟨λy hy=>?_,h1,do_,do_⟩
   rcases b1e hy with rfl|hy
   .exact hx
   .exact h.src y hy
 .exact ⟨h.src,h.ent,Nat.le_succ_of_le ez,J⟩
theorem c5E{ms':SM}{x:En}(h:Y5 ms x=Y5 ms' y):(x.ct=0↔y.ct=0)/\(x.ct=1↔y.ct=1):=by
 unfold Y5 at h;by_cases a:x.ct=0<;>by_cases b:x.ct=1<;>by_cases c:y.ct=0<;>by_cases d:y.ct=1<;>first|omega|(exfalso;revert h;simp[a,b,c,d])
theorem b7I{P P':I->Bool}:∀{L:List I},(∀p∈L.take (cN P L),P p=P' p)->cN P' L=cN P L
 | [],_=>rfl
 |p::L,h=>by
  rw[cN,cN];have h0:=h p (by rw[cN];split<;>simp);by_cases hp:P p=true
  .rw [W hp,W (h0▸hp)]
  .rw [G hp,G (h0▸hp),b7I λq hq=>h q ?_];rw[cN,G hp,a8g];exact X6 _ hq
theorem d5r{P:I->Bool}:∀(L:List I),cN P L<=L.length
 | []=>n_6 _
 |p::L=>by
  have:=d5r (P:=P) L;rw[cN,n_9]
  split<;>omega
theorem d6o{P:I->Bool}{L:List I}:0<cN P (p::L):=by
 rw[cN];split<;>omega
theorem e0Y(hp:B5 p=true)(ho:B5 o=true):S5 ⟨1,p,o⟩=true:=by simp[S5,hp,ho]
def kys(S:MS):List Ky:=S.tr.map Prod.fst
theorem b8y{k a:Ky}:∀{l:List (Ky×Bool)},k∈(J5 l a true).map Prod.fst↔k∈l.map Prod.fst\/k=a
 | []=>by simp[J5]
 |(b,d)::l=>by
  rw[J5];split
  .rename_i h;subst h;simp only[a8w,J6];exact⟨λh=>.inl h,λh=>h.elim id λh=>.inl h⟩
  .simp only[a8w,J6,b8y (l:=l),or_assoc]
theorem Y0{k:Ky}:∀{S:MS},k∈kys (S.look ks)↔k∈kys S\/k∈ks:=by
 induction ks with
 |nil=>intro S;simp[MS.look]
 |cons a ks ih=>
  intro S;have h:=ih (S:={S with tr:=J5 S.tr a true});rw[show S.look (a::ks)=MS.look {S with tr:=J5 S.tr a true} ks from rfl,h,show kys {S with tr:=J5 S.tr a true}=(J5 S.tr a true).map Prod.fst from rfl,b8y,J6,or_assoc];rfl
theorem b0a:∀{S:MS},(S.look ks).tr.length<=S.tr.length+ks.length:=by
 induction ks with
 |nil=>intro S;exact n_6 _
 |cons a ks ih=>
  intro S;have h:=ih (S:={S with tr:=J5 S.tr a true});have h2:(J5 S.tr a true).length<=S.tr.length+1:=a7A;rw[show S.look (a::ks)=MS.look {S with tr:=J5 S.tr a true} ks from rfl,n_9];have h':(MS.look {S with tr:=J5 S.tr a true} ks).tr.length<=(J5 S.tr a true).length+ks.length:=h;omega
def TrB(S:MS):Prop:=(∀k∈kys S,S5 k=true)/\(S.tr.length:Int)<=2+9*S.st
def TrS(S:MS):Prop:=(∀k∈kys S,S5 k=true)/\(S.tr.length:Int)+9<=2+9*S.st
def Jf{α:Type}(A:Prop)(S:MS)(o:Rs α):Prop:=(∀k∈kys S,k∈kys o.2)/\(A->TrB o.2)
theorem Jf.ret{A:Prop}{a:α ⊕ Int}(h:A->TrB S):Jf A S ((a,S):Rs α):=⟨λ_ h=>h,h⟩
theorem Jf.bind{A:Prop}{o:Rs α}{k:α->MS->Rs β}(h:Jf A S o)(hk:∀v,Jf (TrB o.2) o.2 (k v o.2)):Jf A S (bindM o k):=by
 cases ho:o.1 with
 |inl v=>rw[N6 ho];exact⟨λq hq=>(hk v).1 q (h.1 q hq),λa=>(hk v).2 (h.2 a)⟩
 |inr e=>rw[R8 ho];exact h
theorem Jf.look{o:Rs α}(hk:∀k∈ks,S5 k=true)(hl:ks.length<=9)(h:Jf (TrB (S.look ks)) (S.look ks) o):Jf (TrS S) S o:=
 ⟨λq hq=>h.1 q (Y0.2 (.inl hq)),λ⟨a,b⟩=>h.2 ⟨λq hq=>(Y0.1 hq).elim (a q) (hk q),by
  have:=b0a (S:=S) (ks:=ks);have e:(S.look ks).st=S.st:=O;omega⟩⟩
theorem TrS.b(h:TrS S):TrB S:=⟨h.1,by have:=h.2;omega⟩
variable{b:b9}
structure FrW(F:Fr):Prop where
 src:a0i F.f
 de:DeG F.d
def HU(rec:Fr->Int->MS->Rs Int):Prop:=∀F,FrW F->∀i S,Jf (TrB S) S (rec F i S)
theorem c8q(hc:McG c){x:En}{s:Src}(h:O8 c x=some (s,d)):a0i s/\DeG d:=by
 obtain⟨h1,h2⟩:=a2l h;have:=hc.w.src _ _ h1;exact⟨this,this.dec d (n_2 h2)⟩
theorem b4d{rec:Int->MS->Rs Int}(HR:∀i S,Jf (TrB S) S (rec i S)):∀(l acc:List Int) (S:MS),Jf (TrB S) S (a01 rec acc l S)
 | [],_,_=>Jf.ret id
 |a::l,_,S=>Jf.bind (HR a S) λ_=>b4d HR l _ _
theorem a2q(hc:McG c)(HR:HU rec)(x:En)(args:List Int)(an:Bool)(S:MS):Jf (TrB S) S (J0 rec c x args an S):=by
 rw[J0]
 split
 .exact Jf.ret id
 .split
  .exact Jf.ret id
  .rename_i y hy;obtain⟨g1,g2⟩:=c8q hc (s:=y.1) (d:=y.2) hy;exact Jf.bind (HR ⟨y.1,y.2,args,an⟩ ⟨g1,g2⟩ _ {S with ac:=S.ac+1}) λv=>Jf.ret id
theorem c67(hF:FrW F)(hn:B5 x.name=true):(∀k∈T6 c F x,S5 k=true)/\(T6 c F x).length<=9:=by
 have hi:=hF.src.impl;refine⟨λk hk=>?_,?_⟩
 .obtain ⟨p,hp,rfl⟩:=H9.1 hk;refine e0Y ?_ hn
  rcases J6.1 (a6v hp)with rfl|hp
  .exact hF.src.pkg.1
  .exact (hF.src.imp p hp).1
 .unfold T6 a0S Y3;rw[a02,b0N,n_9];omega
theorem d6L(hc:McG c)(HR:HU rec)(hF:FrW F)(hn:B5 x.name=true)(S:MS):Jf (TrS S) S (a07 rec c F x S):=by
 obtain⟨h1,h2⟩:=c67 (c:=c) hF hn;refine Jf.look h1 h2 ?_;rw[a07]
 split
 .exact Jf.ret id
 .exact Jf.bind (b4d (HR F hF) _ _ _) λvs=>by
   split
   .exact Jf.ret id
   .exact a2q hc HR _ _ _ _
theorem a64(hs:E9 s=true):(∀k∈K8 fl s,S5 k=true)/\(K8 fl s).length<=9:=by
 have k4:S5 ⟨4,s,[]⟩=true:=by simp[S5,hs]
 have k3:S5 ⟨3,s,[]⟩=true:=by simp[S5,hs]
 unfold K8
 split
 .exact ⟨λk hk=>by simp at hk;subst hk;exact k4,Q⟩
 .exact ⟨λk hk=>by simp at hk;rcases hk with rfl|rfl;exact k4;exact k3,Q⟩
theorem d6T(hc:McG c)(HR:HU rec)(hF:FrW F)(hn:E9 x.name=true)(S:MS):Jf (TrS S) S (a1q rec c F x S):=by
 obtain⟨h1,h2⟩:=a64 (fl:=c.fl) hn;refine Jf.look h1 h2 ?_;rw[a1q]
 split
 .exact Jf.ret id
 .refine Jf.bind (HR F hF _ _) λi=>?_;cases o8 c.fl x.name with
  |some b=>dsimp only;split<;>exact Jf.ret id
  |none=>
   dsimp only;split
   .exact Jf.ret id
   .exact Jf.bind (a2q hc HR _ _ _ _) λv=>Jf.ret id
theorem d6Q(hc:McG c)(HR:HU rec)(hF:FrW F)(hx:F.d.body[i]?=some x)(S:MS):Jf (TrS S) S (N0 rec c F x S):=by
 have hn:=(hF.de.node hx).1;have up:∀{o:Rs Int},Jf (TrB S) S o->Jf (TrS S) S o:=λh=>⟨h.1,λa=>h.2 a.b⟩;rw[N0]
 split
 .exact Jf.ret TrS.b
 split
 .exact Jf.ret TrS.b
 split
 .rename_i h;exact d6L hc HR hF (hn.k3 h).1 S
 split
 .exact up (Jf.bind (HR F hF _ _) λa=>Jf.bind (HR F hF _ _) λb=>Jf.ret id)
 split
 .exact up (Jf.bind (HR F hF _ _) λa=>by split<;>exact HR F hF _ _)
 split
 .rename_i h;exact d6T hc HR hF (hn.k678 (.inl h)) S
 split
 .rename_i h;exact Jf.look (a64 (hn.k678 (.inr (.inl h)))).1 (a64 (hn.k678 (.inr (.inl h)))).2 (Jf.ret id)
 split
 .rename_i h;exact Jf.look (a64 (hn.k678 (.inr (.inr h)))).1 (a64 (hn.k678 (.inr (.inr h)))).2 (Jf.ret id)
 split
 .rename_i h;exact Jf.look (λk hk=>by simp at hk;subst hk;simp[S5,hn.k9 h]) Q (Jf.ret id)
 .exact Jf.ret (S:={S with rn:=true}) TrS.b
theorem a8e{c:MC}(hc:McG c):∀n:Nat,HU (evN c n)
 |0=>λF _ i S=>Jf.ret id
 |n+1=>λF hF i S=>by
  rw[evN,b8C]
  split
  .exact Jf.ret id
  .split
   .exact Jf.ret id
   .rename_i x hx;obtain⟨h1,h2⟩:=d6Q hc (a8e hc n) hF hx {S with st:=S.st+1};exact⟨h1,λa=>h2 ⟨a.1,by have:=a.2;show(S.tr.length:Int)+9<=2+9*(S.st+1);omega⟩⟩
def Sm(c c':MC)(k:Ky):Prop:=a1X c.fl c.ms c.me c.ev k=a1X c'.fl c'.ms c'.me c'.ev k
def FS(F F':Fr):Prop:=F.f.pkg=F'.f.pkg/\F.f.imports=F'.f.imports/\F.d=F'.d/\F.args=F'.args
def Bn{α:Type}(c c':MC)(o o':Rs α):Prop:=(∀k∈kys o.2,Sm c c' k)->o'=o
section
variable{c':MC}{dr:Fr->Int->MS->Rs Int}
theorem Bn.bind{o o':Rs α}{k k':α->MS->Rs β}(h:Bn c c' o o')(hm:∀v,∀q∈kys o.2,q∈kys (k v o.2).2)(hk:∀v,Bn c c' (k v o.2) (k' v o.2)):Bn c c' (bindM o k) (bindM o' k'):=by
 intro aK;cases ho:o.1 with
 |inl v=>
  rw[N6 ho]at aK⊢;rw[h λq hq=>aK q (hm v q hq),N6 ho];exact hk v aK
 |inr e=>
  rw[R8 ho]at aK⊢;rw[h aK,R8 ho]
def HB(c c':MC)(rec dr:Fr->Int->MS->Rs Int):Prop:=∀F F',FrW F->FS F F'->∀i S,Bn c c' (rec F i S) (dr F' i S)
theorem c72{F F':Fr}(HR:HU rec)(hF:FrW F)(hb:∀i S,Bn c c' (rec F i S) (dr F' i S)):∀(l acc:List Int) (S:MS),Bn c c' (a01 (rec F) acc l S) (a01 (dr F') acc l S)
 | [],_,_=>λ_=>O
 |a::l,acc,S=>Bn.bind (hb a S) (λv=>(b4d (HR F hF) l _ _).1) λv=>c72 HR hF hb l _ _
theorem b4K(HR:HU rec)(hb:HB c c' rec dr){x:En}{s s':Src}(hs:a0i s)(hd:DeG d)(h1:O8 c x=some (s,d))(h2:O8 c' y=some (s',d))(h3:s.pkg=s'.pkg)(h4:s.imports=s'.imports)(args:List Int)(an:Bool)(S:MS):Bn c c' (J0 rec c x args an S) (J0 dr c' y args an S):=by
 rw[J0,J0,h1,h2]
 split
 .exact λ_=>O
 .exact Bn.bind (hb ⟨s,d,args,an⟩ ⟨s',d,args,an⟩ ⟨hs,hd⟩ ⟨h3,h4,O,O⟩ _ _) (λv q hq=>hq) λv _=>O
theorem b6P{x:En}{s:Src}(h:O8 c x=some (s,d)):c15 c.ms x=a33 s d:=by
 obtain⟨h1,h2⟩:=a2l h;unfold c15;rw[h1];simp[h2]
theorem a7K(hc:McG c)(aM:McG c'){k:Int}(h:Y5 c.ms (C3 true c.me k p o)=Y5 c'.ms (C3 true c'.me k p o)):((C3 true c.me k p o).ct=0↔(C3 true c'.me k p o).ct=0)/\((C3 true c.me k p o).ct=1↔(C3 true c'.me k p o).ct=1)/\((C3 true c.me k p o).ct=1 ->
 ∃s s' d,O8 c (C3 true c.me k p o)=some (s,d)/\O8 c' (C3 true c'.me k p o)=some (s',d)/\s.pkg=s'.pkg/\s.imports=s'.imports/\a0i s/\DeG d):=by
 obtain⟨h0,h1⟩:=c5E h;refine⟨h0,h1,λe=>?_⟩;have e':=h1.1 e;obtain⟨s,d,_,g1,g2,g3,_⟩:=hc.find e;obtain⟨s',d',_,f1,f2,f3,_⟩:=aM.find e';unfold Y5 at h;rw[G J,W e,G J,W e',b6P g1,b6P f1]at h;obtain⟨a1,a2,rfl⟩:=c4z g2 f2 (g2.dec d g3) (f2.dec d' f3) (c5U h);exact⟨s,s',d,g1,f1,a1,a2,g2,g2.dec d g3⟩
theorem c7Y:a1X c.fl c.ms c.me c.ev ⟨1,p,o⟩=Y5 c.ms (C3 true c.me 1 p o):=O
theorem d0b:a1X c.fl c.ms c.me c.ev ⟨2,p,o⟩=Y5 c.ms (C3 true c.me 2 p o):=O
theorem c7a:a1X c.fl c.ms c.me c.ev ⟨3,s,[]⟩=Y5 c.ms (C3 true c.me 3 [] s):=O
theorem c64:a1X c.fl c.ms c.me c.ev ⟨4,s,[]⟩=if(o8 c.fl s).isSome then [61]++(o8 c.fl s).getD []else [45]:=O
theorem c7O:a1X c.fl c.ms c.me c.ev ⟨5,s,[]⟩=if(Y2 c.ev s).isSome then [61]++Lib.itoa ((Y2 c.ev s).getD 0)else [45]:=O
theorem c5z(hc:McG c)(aM:McG c')(hf:FS F F')(hK:∀k∈T6 c F x,Sm c c' k):T6 c' F' x=T6 c F x/\∃p,E7 c F x=C3 true c.me 1 p x.name/\E7 c' F' x=C3 true c'.me 1 p x.name/\Y5 c.ms (C3 true c.me 1 p x.name)=Y5 c'.ms (C3 true c'.me 1 p x.name):=by
 have hL:Y3 F'=Y3 F:=by unfold Y3;rw[hf.1,hf.2.1]
 unfold T6 E7 a3d at*;rw[hL];have iw:0<a1p true c.me x.name (Y3 F):=d6o;have aR:a1p true c.me x.name (Y3 F)<=(Y3 F).length:=d5r _;have hd:∀p∈(Y3 F).take (a1p true c.me x.name (Y3 F)),Y5 c.ms (C3 true c.me 1 p x.name)=Y5 c'.ms (C3 true c'.me 1 p x.name):=λp hp=>by
  have:=hK ⟨1,p,x.name⟩ (H9.2 ⟨p,hp,O⟩);unfold Sm at this;rw[c7Y,c7Y]at this;exact this
 have hN:a1p true c'.me x.name (Y3 F)=a1p true c.me x.name (Y3 F):=b7I λp hp=>by
  have h0:=(a7K hc aM (hd p hp)).1;have h1:=hc.ct 1 p x.name;have h2:=aM.ct 1 p x.name;unfold a3M fE;exact b0u.2 ⟨λh=>by omega,λh=>by omega⟩
 rw[hN];refine⟨O,?_⟩;generalize a1p true c.me x.name (Y3 F)=n at*;obtain⟨i,rfl⟩:∃i,n=i+1:=⟨n-1,J⟩;obtain⟨p,hp⟩:∃p,(Y3 F)[i]?=some p:=⟨_,a1C J⟩;have bo:p∈(Y3 F).take (i+1):=by rw[a8n,hp];simp
 refine⟨p,?_,?_,hd p bo⟩<;>(rw[a6c,hp];rfl)
theorem c3s{x:En}(h0:x.ct=0↔y.ct=0)(h1:x.ct=1↔y.ct=1)(hx:0<=x.ct)(hy:0<=y.ct):W8 y=W8 x:=by
 unfold W8;by_cases a:x.ct=0
 .rw [W a,W (h0.1 a)]
 .rw [G a,G λh=>a (h0.2 h)];by_cases b:x.ct=1
  .have:=h1.1 b;rw[G J,G J]
  .have:¬y.ct=1:=λh=>b (h1.2 h);have:¬y.ct=0:=λh=>a (h0.2 h);rw[W J,W J]
theorem d6X(hc:McG c)(aM:McG c')(HR:HU rec)(hb:HB c c' rec dr)(hF:FrW F)(hf:FS F F')(hn:B5 x.name=true)(S:MS):Bn c c' (a07 rec c F x S) (a07 dr c' F' x S):=by
 intro aK;have hU:∀q∈kys (S.look (T6 c F x)),q∈kys (a07 rec c F x S).2:=by
  rw[a07]
  split
  .exact λ_ h=>h
  .exact (Jf.bind (A:=TrB (S.look (T6 c F x))) (b4d (HR F hF) _ _ _) λvs=>by
    split
    .exact Jf.ret id
    .exact a2q hc HR _ _ _ _).1
 obtain⟨hk,p,e1,e2,e3⟩:=c5z hc aM hf (x:=x) λk hk=>aK k (hU k (Y0.2 (.inr hk)));obtain⟨h0,h1,h2⟩:=a7K hc aM e3;have hcc:W8 (E7 c' F' x)=W8 (E7 c F x):=by rw[e1,e2];exact c3s h0 h1 (hc.ct ..) (aM.ct ..)
 revert aK;rw[a07,a07,hk,hcc]
 split
 .exact λ_=>O
 .rename_i hz;have h1:(C3 true c.me 1 p x.name).ct=1:=by
   rw[e1]at hz;have:=hc.ct 1 p x.name;unfold W8 at hz;by_cases a:(C3 true c.me 1 p x.name).ct=0
   .rw [W a]at hz;exact absurd U hz
   .rw [G a]at hz;by_cases b:1< (C3 true c.me 1 p x.name).ct
    .rw [W b]at hz;exact absurd U hz
    .omega
  obtain⟨s,s',d,g1,g2,g3,g4,g5,g6⟩:=h2 h1;have hp:a9z c' (E7 c' F' x)=a9z c (E7 c F x):=by rw[a9z,a9z,e1,e2,g1,g2];rfl
  rw[hp];refine Bn.bind (c72 HR hF (hb F F' hF hf) _ _ _) (λv=>?_) λv=>?_
  .split
   .exact λ_ h=>h
   .exact (a2q hc HR _ _ _ _).1
  .split
   .exact λ_=>O
   .rw [e1,e2];exact b4K HR hb g5 g6 g1 g2 g3 g4 _ _ _
theorem c3W(h:Sm c c' ⟨4,s,[]⟩):o8 c'.fl s=o8 c.fl s:=by
 unfold Sm at h;rw[c64,c64]at h;cases a:o8 c.fl s<;>cases b:o8 c'.fl s<;>rw[a,b]at h<;>simp at h
 .rw [h]
theorem b4y(hc:McG c)(aM:McG c')(hK:∀k∈K8 c.fl s,Sm c c' k):o8 c'.fl s=o8 c.fl s/\K8 c'.fl s=K8 c.fl s/\diC c'.fl true c'.me s=diC c.fl true c.me s/\(diC c.fl true c.me s=0->o8 c.fl s=none->∃t t' d,O8 c (diE c.fl true c.me s)=some (t,d)/\O8 c' (diE c'.fl true c'.me s)=some (t',d)/\t.pkg=t'.pkg/\t.imports=t'.imports/\a0i t/\DeG d):=by
 have hd:=c3W (hK ⟨4,s,[]⟩ (by unfold K8;split<;>simp));have hk:K8 c'.fl s=K8 c.fl s:=by unfold K8;rw[hd]
 by_cases hs:(o8 c.fl s).isSome=true
 .refine ⟨hd,hk,by unfold diC;rw[hd,W hs,W hs],λ_ h=>?_⟩;rw[h]at hs;cases hs
 .have h3:=hK ⟨3,s,[]⟩ (by unfold K8;rw[G hs];simp);unfold Sm at h3;rw[c7a,c7a]at h3;obtain⟨h0,h1,h2⟩:=a7K hc aM h3;have a1:=hc.ct 3 [] s;have a2:=aM.ct 3 [] s;have hC:diC c'.fl true c'.me s=diC c.fl true c.me s:=by
   unfold diC diX;rw[hd,G hs,G hs];by_cases a:(C3 true c.me 3 [] s).ct=0
   .rw [W a,W (h0.1 a)]
   .rw [G a,G λh=>a (h0.2 h)];by_cases b:(C3 true c.me 3 [] s).ct=1
    .have:=h1.1 b;rw[G J,G J]
    .have:¬(C3 true c'.me 3 [] s).ct=1:=λh=>b (h1.2 h);have:¬(C3 true c'.me 3 [] s).ct=0:=λh=>a (h0.2 h);rw[W J,W J]
  refine⟨hd,hk,hC,λhz hn=>?_⟩;rw[(b37 hc hz hn).1,(b37 aM (hC.trans hz) (hd.trans hn)).1];refine h2 ?_;unfold diC diX at hz;rw[G hs]at hz;by_cases a:(C3 true c.me 3 [] s).ct=0
  .rw [W a]at hz;exact absurd hz U
  .rw [G a]at hz;by_cases b:1< (C3 true c.me 3 [] s).ct
   .rw [W b]at hz;exact absurd hz U
   .omega
theorem d7B(hc:McG c)(aM:McG c')(HR:HU rec)(hb:HB c c' rec dr)(hF:FrW F)(hf:FS F F')(S:MS):Bn c c' (a1q rec c F x S) (a1q dr c' F' x S):=by
 intro aK;have bW:∀(i:Int) (S2:MS),∀q∈kys S2,q∈kys (if i<0\/(match o8 c.fl x.name with|some b=>(b.length:Int)|none=>1)<=i then((.inr 3,S2):Rs Int)else match o8 c.fl x.name with
  |some b=>(.inl ((b.getD i.toNat 0).toNat:Int),S2)
  |none=>bindM (J0 rec c (diE c.fl true c.me x.name) [] false S2) λv S3=>(.inl ((v.tmod 256+256).tmod 256),S3)).2:=λi S2=>by
  cases o8 c.fl x.name with
  |some b=>dsimp only;split<;>exact λ_ h=>h
  |none=>
   dsimp only;split
   .exact λ_ h=>h
   .exact (Jf.bind (A:=TrB S2) (a2q hc HR _ _ _ _) λv=>Jf.ret id).1
 have hU:∀q∈kys (S.look (K8 c.fl x.name)),q∈kys (a1q rec c F x S).2:=by
  rw[a1q]
  split
  .exact λ_ h=>h
  .intro q hq;cases ho:(rec F (x.args.getD 0 0) (S.look (K8 c.fl x.name))).1 with
   |inl v=>rw[N6 ho];exact bW _ _ _ ((HR F hF _ _).1 q hq)
   |inr e=>rw[R8 ho];exact(HR F hF _ _).1 q hq
 obtain⟨hd,hk,hC,hE⟩:=b4y hc aM (s:=x.name) λk hk=>aK k (hU k (Y0.2 (.inr hk)));revert aK;rw[a1q,a1q,hk,hC,hd]
 split
 .exact λ_=>O
 .rename_i hz;refine Bn.bind (hb F F' hF hf _ _) (λv=>bW _ _) λi=>?_;cases hdd:o8 c.fl x.name with
  |some b=>dsimp only;split<;>exact λ_=>O
  |none=>
   obtain⟨t,t',d,g1,g2,g3,g4,g5,g6⟩:=hE (Decidable.not_not.1 hz) hdd;dsimp only;split
   .exact λ_=>O
   .exact Bn.bind (b4K HR hb g5 g6 g1 g2 g3 g4 _ _ _) (λv q hq=>hq) λv _=>O
theorem d6H(hc:McG c)(aM:McG c')(hw:c'.wd=c.wd)(HR:HU rec)(hb:HB c c' rec dr)(hF:FrW F)(hf:FS F F')(hx:F.d.body[i]?=some x)(S:MS):Bn c c' (N0 rec c F x S) (N0 dr c' F' x S):=by
 have hn:=(hF.de.node hx).1;have look1:∀{o:Int ⊕ Int},(∀k∈kys ((o,S.look (K8 c.fl x.name)):Rs Int).2,Sm c c' k)->∀k∈K8 c.fl x.name,Sm c c' k:=λh k hk=>h k (Y0.2 (.inr hk));rw[N0,N0,<- hf.2.2.2,hw]
 split
 .exact λ_=>O
 split
 .exact λ_=>O
 split
 .rename_i h;exact d6X hc aM HR hb hF hf (hn.k3 h).1 S
 split
 .exact Bn.bind (hb F F' hF hf _ _) (λv=>(Jf.bind (A:=TrB _) (HR F hF _ _) λb=>Jf.ret id).1) λa=>Bn.bind (hb F F' hF hf _ _) (λv q hq=>hq) λb _=>O
 split
 .exact Bn.bind (hb F F' hF hf _ _) (λv=>by split<;>exact(HR F hF _ _).1) λa=>by split<;>exact hb F F' hF hf _ _
 split
 .exact d7B hc aM HR hb hF hf S
 split
 .intro h;obtain⟨hd,hk,hC,_⟩:=b4y hc aM (look1 h);rw[a4K,a4K,hd,hk,hC]
 split
 .intro h;obtain⟨hd,hk,hC,_⟩:=b4y hc aM (look1 h);rw[c0a,c0a,hk,hC]
 split
 .intro h;have h5:=h ⟨5,x.name,[]⟩ (Y0.2 (.inr Q));unfold Sm at h5;rw[c7O,c7O]at h5;have hv:Y2 c'.ev x.name=Y2 c.ev x.name:=by
   cases a:Y2 c.ev x.name<;>cases b:Y2 c'.ev x.name<;>rw[a,b]at h5<;>simp at h5
   .have hnw:NW []:=λ_ _ e=>by cases e
    rw[(b8X hnw hnw (D9 (λz:I=>z++[]) h5)).1]
  rw[b19,b19,hv]
 .exact λ_=>O
theorem c19(hc:McG c)(aM:McG c')(hw:c'.wd=c.wd):∀n:Nat,HB c c' (evN c n) (evN c' n)
 |0=>λF F' _ _ i S _=>O
 |n+1=>λF F' hF hf i S=>by
  rw[evN,evN,b8C,b8C,<- hf.2.2.1]
  split
  .exact λ_=>O
  .split
   .exact λ_=>O
   .rename_i x hx;exact d6H hc aM hw (a8e hc n) (c19 hc aM hw n) hF hf hx _
theorem c6b(hc:McG c)(aM:McG c')(hw:c'.wd=c.wd)(h1:(b18 c p o).ct=1)(aK:∀k∈kys (a1y c p o).2,Sm c c' k):(b18 c' p o).ct=1/\a1y c' p o=a1y c p o:=by
 have hk:kyT p o∈kys (a1y c p o).2:=(a2q hc (a8e hc _) _ _ _ _).1 _ (Y0.2 (.inr Q));have h2:=aK _ hk;unfold Sm kyT at h2;rw[d0b,d0b]at h2;obtain⟨_,e1,e2⟩:=a7K hc aM h2;obtain⟨s,s',d,g1,g2,g3,g4,g5,g6⟩:=e2 h1;exact⟨e1.1 h1,b4K (a8e hc _) (c19 hc aM hw _) g5 g6 g1 g2 g3 g4 _ _ _ aK⟩
end
def er(t:Tok):Tok:=⟨t.k,t.t,t.n,0⟩
theorem e0S:∀m:Nat,m<3->([122]++a4E m++[46,115,114,99]:I)∈a3E:=λm hm=>by
 have h3:m=0\/m=1\/m=2:=by omega
 rcases h3 with rfl|rfl|rfl<;>rw[a6X J]<;>decide
theorem c53(l:List Int)(nn:Bool)(k:Nat)(aV:k<=500000000)(hl:l.length<=maxLen)(B:Nat)(hB:6300<=B/\B<=1000000)(fl:List Fi)(hm:K5 B fl):b8 CC 28 [.ptr 0 0,(.agg (A9 fl (gnn fl.length)))] [x9 l nn k] λr τ=>∃a:List Fi×Nat,F7 1 τ r (.ret (.agg (A9 a.1 (gnn a.1.length)))) [x9 l nn a.2]/\(K5 (B+1240) a.1/\k<=a.2/\a.2<=k+1080):=by
 refine cO Tryz.func28 ?_;refine c88 ?_;refine qD (l8 O b14 O j1 ?_);refine V (c4 O Tryz.call66 trivial (a7h _) O) ?_;refine qD (c5 O a5V j7 (K7 l nn (k) _ 0 O J hl I3 U U) O ?_);intro sp ai;have hspa:=c2T _ ai;have hml:=hm.len;refine W3 hCC (α:=Nat) (λ_=>[(0,.ptr 0 0),(3,.ptr 1 0),(4,.ptr 2 0),(5,(sv sp))]) (λp=>[x9 l nn (p),.box (A9 fl (gnn fl.length)),.box (A9 [] false)]) (λp=>p=k+2) A7 uz_ ?_ ?_
 .
  refine qk (qD (c5 O a6p o4 (J1 l nn (k+1) _ 0 O J hl 9 J) O ?_));intro _ _;refine qC ?_ ?_<;>intro h1
  .refine cF [] [0,1,2,4] (tl:=[(3,[0,3]),(5,[0]),(6,[0]),(7,[]),(8,[])]) ?_;refine c1T ?_;refine chf O (c7 O d8E) ?_;refine b6D ?_;refine B9 O O O (c5 O a5V j7 (K7 l nn (k+2) _ 0 O J hl a1v U U) O ?_);intro v hv;refine⟨⟨a00,G3,D⟩,?_⟩;refine B9 O O O (c5 O Tryz.call70 ⟨D,D⟩ (c16 l nn (k+3) J hl _ 0 O) O ?_);intro⟨s,p4⟩ ⟨hs,bQ,cS⟩;dsimp only at hs bQ cS⊢;refine⟨⟨a00,D⟩,?_⟩;refine E8 O O d3d ⟨⟨a00,D⟩,?_⟩;refine E8 O O (c7 O (c4 O b9g j7 (a0Q fl _ ⟨v,s⟩ J _) O)) ⟨D,?_⟩;refine b1r ?_;refine c6 ?_;exact⟨_,C4 O a4w,⟨(a5G fl ⟨v,s⟩,p4),a16 O L6 (.old (T0 _ _).old),(hm.mono J).ins (c0M _ hv) do_,do_,do_⟩⟩
  .refine qC ?_ ?_<;>intro h2
   .refine cF [] [0,1,2] (tl:=[(3,[0]),(4,[]),(5,[])]) ?_;refine c1T ?_;refine chf O (c7 O (B4 (([[97,46,100,97,116],[100,47,98,46,100,97,116],[99],[97,46,115,114,99],[98,46,115,114,99]]:List I).map scv) O ⟨O,O,O,O,O,D⟩ t_2 t_0 t_4 O O O O O O O O O)) ?_;refine G4 ?_;refine B9 O O O (c5 O a5V j7 (K7 l nn (k+2) _ 0 O J hl ([[97,46,100,97,116],[100,47,98,46,100,97,116],[99],[97,46,115,114,99],[98,46,115,114,99]]:List I) U U) O ?_);intro v hv;refine⟨⟨a00,D⟩,?_⟩;refine E8 O O (c7 O (c4 O Tryz.call71 j7 (b3G fl _ v J _) O)) ⟨D,?_⟩;refine b1r ?_;refine c6 ?_;exact⟨_,C4 O a4w,⟨(a43 fl v,k+3),a16 O L6 (.old (T0 _ _).old),(hm.mono J).rem v,do_,do_⟩⟩
   .refine qC ?_ ?_<;>intro h3
    .refine d7Y ?_;refine a5R ?_;refine chf O U7 ?_;refine chf O c9D ?_;refine d3Y ?_;intro v hv;have db:v.length<=8:=Q5 (.inl hv);refine d5p ?_;intro⟨s,p4⟩ ⟨hs,bQ,cS⟩;dsimp only at hs bQ cS⊢;refine d2V ?_;refine d4u ?_;exact d5G
    .refine qC ?_ ?_<;>intro h4
     .refine V a2r ?_;refine m0 hCC (λi:Nat=>[(0,.ptr 0 0),(3,.ptr 1 0),(4,.ptr 2 0),(5,(sv sp)),(50,(.list (fl.map Fi.cv) (gnn fl.length) none)),(51,iv fl.length),(52,iv i)]) (λ_=>[x9 l nn (k+2),.box (A9 fl (gnn fl.length)),.box (A9 [] false)]) (λi=>i<=fl.length) (λi=>fl.length -i) 0 (n_4 _) tu_ (aj:=[]) O A7 uz_ ?_;intro i hi;refine qk (qC ?_ ?_)<;> intro h5
      .have ah:i<fl.length:=sm_ h5;obtain⟨y,hb,fx⟩:=a15 ah;have hyb:=hm.byt y fx;refine b3B ?_;refine qC ?_ ?_<;>intro h6
       .have cz:(a43 fl sp).length<=fl.length:=List.length_filter_le _ _;have hb3:=a3c (l:=l) (k:=k+2) (n:=3) J;obtain⟨m,bH⟩:∃m:Nat,M9 l (k+2) 3=(m:Int):=⟨(M9 l (k+2) 3).toNat,J⟩;have fX:m<3:=by omega
        have hzp:=e0S m fX;have gE:=a11 0 m J;refine cF [] [0,1,2,3,8,9] (tl:=[(4,[4,5]),(5,[4,5]),(6,[4,5]),(7,[4,5]),(10,[]),(11,[]),(12,[])]) ?_;refine c1T ?_;refine chf O (c7 O (c4 O Tryz.call71 j7 (b3G fl _ sp J _) O)) ?_;refine chf O U7 ?_;refine b7o ?_;refine G4 ?_;refine B9 O O O (c5 O a6p o4 (J1 l nn (k+2) _ 0 O J hl 3 J) O ?_);intro _ _;rw[bH];refine⟨⟨a7m,a31,D⟩,?_⟩;refine E8 O O (c7 O c2v) ⟨⟨a7m,a31,D⟩,?_⟩;refine E8 O O (c7 O a4l) ⟨⟨a7m,a31,D⟩,?_⟩;refine E8 O O c0R ⟨⟨a7m,a31,D⟩,?_⟩;refine E8 O O d3d ⟨D,?_⟩;refine E8 O O (c7 O (c4 O b9g j7 (a0Q (a43 fl sp) _ ⟨[122]++a4E m++[46,115,114,99],y.b⟩ J _) O)) ⟨D,?_⟩;refine b1r ?_;refine c6 ?_;exact⟨_,C4 O a4w,⟨(a5G (a43 fl sp) ⟨[122]++a4E m++[46,115,114,99],y.b⟩,k+3),a16 O L6 (.old (T0 _ _).old),((hm.mono J).rem sp).ins hzp do_,do_,do_⟩⟩
       .exact b2n
      .exact c1a
     .refine qC ?_ ?_<;>intro h7
      .refine V a2r ?_;refine m0 hCC (λi:Nat=>[(0,.ptr 0 0),(3,.ptr 1 0),(4,.ptr 2 0),(5,(sv sp)),(76,(.list (fl.map Fi.cv) (gnn fl.length) none)),(77,iv fl.length),(78,iv i)]) (λ_=>[x9 l nn (k+2),.box (A9 fl (gnn fl.length)),.box (A9 [] false)]) (λi=>i<=fl.length) (λi=>fl.length -i) 0 (n_4 _) tu_ (aj:=[]) O A7 uz_ ?_;intro i hi;refine qk (qC ?_ ?_)<;> intro h8
       .have ah:i<fl.length:=sm_ h8;obtain⟨y,hb,fx⟩:=a15 ah;have hyb:=hm.byt y fx;refine b3B ?_;refine qC ?_ ?_<;>intro h9
        .have hb3:=a3c (l:=l) (k:=k+2) (n:=100) J;obtain⟨m,bH⟩:∃m:Nat,M9 l (k+2) 100=(m:Int):=⟨(M9 l (k+2) 100).toNat,J⟩;have fX:m<100:=by omega
         have gE:=a11 1 m J;refine cF [] [0,1,2,7,8] (tl:=[(3,[0,1,3,4]),(4,[0,1,3,4]),(5,[0,1,3,4]),(6,[0,1,3,4]),(9,[0,1]),(10,[0]),(11,[]),(12,[])]) ?_;refine chf O a7J ?_;refine a5R ?_;refine b7o ?_;refine G4 ?_;refine B9 O O O (c5 O a6p o4 (J1 l nn (k+2) _ 0 O J hl 100 J) O ?_);intro _ _;rw[bH];refine⟨⟨a00,G3,a7m,a31,D⟩,?_⟩;refine E8 O O (c7 O c2v) ⟨⟨a00,G3,a7m,a31,D⟩,?_⟩;refine E8 O O (c7 O a4l) ⟨⟨a00,G3,a7m,a31,D⟩,?_⟩;refine E8 O O c0R ⟨⟨a00,G3,a7m,a31,D⟩,?_⟩;refine d3S ?_;refine E8 O O (c7 O (c4 O b9g j7 (a0Q fl _ ⟨sp,[35,32]++a4E m++[10,32,32]++y.b⟩ J _) O)) ⟨D,?_⟩;refine b1r ?_;refine c6 ?_;exact⟨_,C4 O a4w,⟨(a5G fl ⟨sp,[35,32]++a4E m++[10,32,32]++y.b⟩,k+3),a16 O L6 (.old (T0 _ _).old),(hm.mono J).ins (hspa) b8i,do_,do_⟩⟩
        .exact b2n
       .exact c1a
      .refine qC ?_ ?_<;>intro bj
       .refine V a2r ?_;refine m0 hCC (λi:Nat=>[(0,.ptr 0 0),(3,.ptr 1 0),(4,.ptr 2 0),(5,(sv sp)),(102,(.list (fl.map Fi.cv) (gnn fl.length) none)),(103,iv fl.length),(104,iv i)]) (λ_=>[x9 l nn (k+2),.box (A9 fl (gnn fl.length)),.box (A9 [] false)]) (λi=>i<=fl.length) (λi=>fl.length -i) 0 (n_4 _) tu_ (aj:=[]) O A7 uz_ ?_;intro i hi;refine qk (qC ?_ ?_)<;> intro cX
        .have ah:i<fl.length:=sm_ cX;obtain⟨y,hb,fx⟩:=a15 ah;have hyb:=hm.byt y fx;refine b3B ?_;refine qC ?_ ?_<;>intro dL
         .refine V W7 ?_;refine V (B2 #[(0,1),(1,1)] O j7 c0j b0E O ⟨_,O⟩ (λw=>by kernel_rfl) O O) ?_;refine V (c4 O b9g j7 (a0Q fl _ ⟨sp,y.b++[102,117,110,99]⟩ J _) O) ?_;refine c83 ?_;exact⟨_,C4 O a4w,⟨(a5G fl ⟨sp,y.b++[102,117,110,99]⟩,k+2),a16 O L6 (.old (T0 _ _).old),(hm.mono J).ins (hspa) b8i,do_,do_⟩⟩
         .exact b2n
        .exact c1a
       .exact ⟨(k+2),_,O,tu_,O⟩
 .intro p hp;subst hp;refine W3 hCC (α:=Nat) (λ_=>[(0,.ptr 0 0),(3,.ptr 1 0),(4,.ptr 2 0),(5,(sv sp))]) (λp=>[x9 l nn (p),.box (A9 fl (gnn fl.length)),.box (A9 [] false)]) (λp=>p=k+2) A7 uz_ ?_ ?_
  .
   refine qk (V a2r ?_);refine m0 hCC (λi:Nat=>[(0,.ptr 0 0),(3,.ptr 1 0),(4,.ptr 2 0),(5,(sv sp)),(121,(.list (fl.map Fi.cv) (gnn fl.length) none)),(122,iv fl.length),(123,iv i)]) (λ_=>[x9 l nn (k+2),.box (A9 fl (gnn fl.length)),.box (A9 [] false)]) (λi=>i<=fl.length) (λi=>fl.length -i) 0 (n_4 _) tu_ (aj:=[]) O A7 uz_ ?_;intro i hi;refine qk (qC ?_ ?_)<;> intro dA
   .have ah:i<fl.length:=sm_ dA;obtain⟨y,hb,fx⟩:=a15 ah;have hyb:=hm.byt y fx;refine b3B ?_;refine qC ?_ ?_<;>intro gI
    .refine cF [] [0,1,2,3,4] (tl:=[(5,[0,1,2,3]),(6,[0,1]),(7,[0]),(8,[]),(9,[])]) ?_;refine c1T ?_;refine b7o ?_;refine b6D ?_;refine B9 O O O (c5 O Tryz.call73 ⟨D,D⟩ (c2w l nn (k+2) J hl _ 0 O) O ?_);intro⟨s,p4⟩ ⟨hs,bQ,cS⟩;dsimp only at hs bQ cS⊢;refine⟨⟨a00,G3,a7m,a31,D⟩,?_⟩;refine d3S ?_;refine E8 O O (c7 O (c4 O b9g j7 (a0Q fl _ ⟨sp,y.b++s⟩ J _) O)) ⟨D,?_⟩;refine b1r ?_;refine c6 ?_;exact⟨_,C4 O a4w,⟨(a5G fl ⟨sp,y.b++s⟩,p4),a16 O L6 (.old (T0 _ _).old),(hm.mono J).ins (hspa) (by show List.length _<=_;simp only[n_8];omega),do_,do_⟩⟩
    .exact b2n
   .exact c1a
  .intro p hp;subst hp;refine qk ?_;refine d7Y ?_;refine a5R ?_;refine chf O U7 ?_;refine chf O c9D ?_;refine d3Y ?_;intro v hv;have db:v.length<=8:=Q5 (.inl hv);refine d5p ?_;intro⟨s,p4⟩ ⟨hs,bQ,cS⟩;dsimp only at hs bQ cS⊢;refine d2V ?_;refine d4u ?_;exact d5G
theorem a5k(l:List Int)(nn:Bool)(k:Nat)(aV:k<=500000000)(hl:l.length<=maxLen)(B:Nat)(hB:6300<=B/\B<=1000000)(fl:List Fi)(hm:K5 B fl)(σ:List b9)(q:Nat)(hq:σ[q]?=some (x9 l nn k)):b8 CC 28 [.ptr q 0,(.agg (A9 fl (gnn fl.length)))] σ λr τ=>∃a:List Fi×Nat,r= .ret (.agg (A9 a.1 (gnn a.1.length)))/\τ=σ.set q (x9 l nn a.2)/\(K5 (B+1240) a.1/\k<=a.2/\a.2<=k+1080):=
 a7v (c:=λa:List Fi×Nat=>(.agg (A9 a.1 (gnn a.1.length)))) (S:=λa=>x9 l nn a.2) hCC (λa h=>by simp at h;subst h;exact T0 _ _) (λ_=>T0 _ _) (λ_=>G6 _ _ _) (G6 _ _ _) O (c53 l nn k aV hl B hB fl hm) σ q hq
def W1:List I:=[[109],[110]]
structure a2Y(ev:List Va):Prop where
 sub:(ev.map Va.n).Sublist W1
 rng:∀v∈ev,-9007199254740992<=v.v/\v.v<=9007199254740992
theorem a2Y.len(h:a2Y ev):ev.length<=2:=by
 have:=h.sub.length_le;rw[a02]at this;exact this
theorem e1d{l:List I}(h:l.Sublist W1):l=[]\/l=[[109]]\/l=[[110]]\/l=[[109],[110]]:=by
 rw[W1]at h
 rcases List.sublist_cons_iff.1 h with h|⟨r,h1,h⟩<;>rcases List.sublist_cons_iff.1 h with h|⟨r',h2,h⟩<;>simp at h<;>subst h<;>simp_all
theorem a2Y.valid(h:a2Y ev):a2N ev=true:=by
 have hl:=h.len;have hr:=h.rng;have d1:B5 [109]=true:=O;have d2:B5 [110]=true:=O
 rcases e1d h.sub with h1|h1|h1|h1
 .have:ev=[]:=H h1;subst this;rfl
 .rcases ev with _|⟨x,_|⟨y,t⟩⟩<;>simp at h1
  have r1:=hr x Q;simp[a2N,evB,a0l,h1,d1,r1.1,r1.2]
 .rcases ev with _|⟨x,_|⟨y,t⟩⟩<;>simp at h1
  have r1:=hr x Q;simp[a2N,evB,a0l,h1,d2,r1.1,r1.2]
 .rcases ev with _|⟨x,_|⟨y,_|⟨z,t⟩⟩⟩<;>simp at h1
  have r1:=hr x Q;have r2:=hr y Q;have d3:Op.bytesLess [110] [109]=false:=O;simp[a2N,evB,a0l,h1.1,h1.2,d1,d2,d3,r1.1,r1.2,r2.1,r2.2]
theorem b8k(ev:List Va)(nn:Bool):r9 (.agg (O2 ev nn)):=j4 (cs:=O2 _ _) ⟨H3 _ _,D⟩
theorem d3D{L:Nat}{ao:List Nat}{l:List Va}{nn:Bool}{tok:Option Nat}:D5 L ao (.agg [.list (l.map Va.cv) nn tok]) (.agg (O2 l nn)):=
 .agg O λi c c' h h'=>by
  rcases i with _|i
  .injection h with h;injection h' with h';subst h h';exact Z3 (f:=Va.cv) Va.pure _
  .cases h
theorem a9w(l:List Int)(nn:Bool)(k:Nat)(aV:k<=500000000)(hl:l.length<=maxLen):b8 CC 33 [.ptr 0 0] [x9 l nn k] λr τ=>∃a:List Va×Nat,F7 1 τ r (.ret (.agg (O2 a.1 (gnn a.1.length)))) [x9 l nn a.2]/\(a2Y a.1/\k<=a.2/\a.2<=k+4):=by
 refine qO Tryz.func33 ?_;refine qD (l8 O b8z O j1 ?_);refine qD (l8 O b8z O j1 ?_);refine V (B4 (W1.map scv) O ⟨O,O,D⟩ t_2 t_0 t_4 O O O O O O O O O) ?_;refine V K6 ?_;refine C5 hCC 3 O (α:=List Va×Nat×Nat) (λx=>[(0,.ptr 0 0),(2,.ptr 1 0),(3,.ptr 2 0),(6,(.list (W1.map scv) true none)),(7,iv W1.length),(8,iv x.2.2)]) (λx=>[x9 l nn x.2.1,.box (O2 [] false),.box [(.list (x.1.map Va.cv) (gnn x.1.length) (G9 x.1.length 3))],p7 x.1.length]) (λx=>x.2.2<=W1.length/\x.1.length<=x.2.2/\(x.1.map Va.n).Sublist (W1.take x.2.2)/\(∀v∈x.1,-9007199254740992<=v.v/\v.v<=9007199254740992)/\k<=x.2.1/\x.2.1<=k+x.2.2*2) (λx=>W1.length -x.2.2) ⟨([],k,0),[0,1,2,9],⟨n_4 _,n_4 _,.slnil,(λv hv=>by cases hv),n_6 _,n_6 _⟩,⟨O,O⟩,ut_,⟨.inr ⟨_,O,.same O L6⟩,.inr ⟨_,O,.same O (A0 ⟨a1B _ ([]:List Va) _,D⟩)⟩,.inr ⟨_,O,.box ⟨.same O (a1B _ ([]:List Va) _),D⟩⟩,.inl O,D⟩⟩ ?_;intro⟨ev,p,i⟩ ⟨hi,fS,hs,hr,ga,cu⟩;dsimp only at hi fS hs hr ga cu⊢;have hL:W1.length=2:=O;refine qk (qC ?_ ?_)<;> intro h1
 .have ah:i<W1.length:=sm_ h1;obtain⟨y,hb,fx⟩:=a15 ah;have htk:W1.take (i+1)=W1.take i++[y]:=by rw[a8n,hb];rfl
  refine V a9e ?_;refine qD (c5 O a9C a2y (I4 l nn p _ 0 O J hl 2 3 J) O ?_);intro _ _;refine qC ?_ ?_<;>intro h2
  .refine cF [] [0,1,2,3,4] (tl:=[(5,[0,1,2]),(6,[0,1]),(7,[0,1]),(8,[]),(9,[]),(10,[])]) ?_;refine chf O (c7 O (j2 O D O c2R O b8q U)) ?_;refine chf O (c7 O (o5 O D O c65 O O)) ?_;refine a5R ?_;refine chf O (c7 O (B4 ([0,1,-1,5,9007199254740992,-9007199254740992].map icv) O ⟨O,O,O,O,O,O,D⟩ t_3 t_1 t_6 O O O O O O O O O)) ?_;refine G4 ?_;refine B9 O O O (c5 O b5z j7 (a23 l nn (p+1) _ 0 O J hl [0,1,-1,5,9007199254740992,-9007199254740992] Q Q) O ?_);intro v hv;have hvr: -9007199254740992<=v/\v<=9007199254740992:=by
    simp only[J6,a5J,or_false]at hv;omega
   refine⟨⟨c9y,d0D,G3,D⟩,?_⟩;refine E8 O O (c7 O (B2 #[(0,1),(1,1)] O j7 b7i c1R O ⟨_,O⟩ (λw=>by kernel_rfl) O O)) ⟨⟨c9y,d0D,D⟩,?_⟩;refine E8 O O (c7 O (B4 [Va.cv (⟨y,v⟩:Va)] O ⟨D,D⟩ c3C c31 c1R O O O O O O O O O)) ⟨⟨c9y,d0D,D⟩,?_⟩;refine B9 O O O (D6 O D D O Q q_3 c3C c31 Tryz.typeInfo129 c1R O (.inr O) q_8 (by have hb:Tryz.t129.bytes=24:=O;rw[hb];first|omega|(simp;done)|(simp;omega)) G0 ((ev++[(⟨y,v⟩:Va)]).map Va.cv) (ev++[(⟨y,v⟩:Va)]).length Q Q ?_);refine⟨D,?_⟩;refine E8 O O (c7 O (j2 O D O c2R O b8q U)) ⟨D,?_⟩;refine B9 O O O (i9 O D D O j3 b8q (.inl O) O O (nb O) ?_);refine a8r ?_;refine V r6 ?_;exact⟨(ev++[(⟨y,v⟩:Va)],p+2,i+1),[0,1,2,4],⟨do_,do_,by simp only[n_8,n_9,R1];omega,by dsimp only;rw[htk,b42];exact hs.append (.refl _),(λx hx=>by
    rcases W0.1 hx with hx|hx
    .exact hr x hx
    .rw [a9t.1 hx];exact hvr),do_,do_⟩,⟨O,O⟩,ut_,⟨.inr ⟨_,O,.same O L6⟩,.inr ⟨_,O,.same O (A0 ⟨a1B _ ([]:List Va) _,D⟩)⟩,.inr ⟨_,O,.box ⟨D5.grow (f:=Va.cv) (λa=>⟨.val _,.val _,D⟩) O,D⟩⟩,.inr ⟨_,O,.same O F0⟩,D⟩⟩
  .refine V r6 ?_;exact⟨(ev,p+1,i+1),[0,1,2,3],⟨do_,do_,do_,by dsimp only;rw[htk];exact hs.trans (List.sublist_append_left _ _),hr,do_,do_⟩,⟨O,O⟩,ut_,⟨.inr ⟨_,O,.same O L6⟩,.inr ⟨_,O,.same O (A0 ⟨a1B _ ([]:List Va) _,D⟩)⟩,.inr ⟨_,O,.box ⟨D5.grow (f:=Va.cv) (λa=>⟨.val _,.val _,D⟩) O,D⟩⟩,.inr ⟨_,O,.same O F0⟩,D⟩⟩
 .have hie:i=2:=sm_ h1;subst hie;refine l9 ?_;refine qD (i9 O D D O j3 b1D j1 O O (nb O) ?_);refine c6 ?_;exact⟨_,C4 O ⟨D,_,_,_,O,O,.inr ⟨_,b8m,b1D,nb O,O⟩⟩,⟨(ev,p),a16 O L6 d3D,⟨hs,hr⟩,do_,do_⟩⟩
theorem a12(l:List Int)(nn:Bool)(k:Nat)(aV:k<=500000000)(hl:l.length<=maxLen)(σ:List b9)(q:Nat)(hq:σ[q]?=some (x9 l nn k)):b8 CC 33 [.ptr q 0] σ λr τ=>∃a:List Va×Nat,r= .ret (.agg (O2 a.1 (gnn a.1.length)))/\τ=σ.set q (x9 l nn a.2)/\(a2Y a.1/\k<=a.2/\a.2<=k+4):=
 a7v (c:=λa:List Va×Nat=>(.agg (O2 a.1 (gnn a.1.length)))) (S:=λa=>x9 l nn a.2) hCC (λa h=>by simp at h) (λ_=>b8k _ _) (λ_=>G6 _ _ _) (G6 _ _ _) O (a9w l nn k aV hl) σ q hq
theorem b4n(fl:List Fi)(ev:List Va):r9 (.tup [.agg (A9 fl (gnn fl.length)),.agg (O2 ev (gnn ev.length))]):=B3 (cs:=[_,_]) ⟨T0 _ _,b8k _ _,D⟩
theorem c4D(l:List Int)(nn:Bool)(k:Nat)(aV:k<=400000000)(hl:l.length<=maxLen):b8 CC 11 [.ptr 0 0] [x9 l nn k] λr τ=>∃a:(List Fi×List Va)×Nat,F7 1 τ r (.ret (.tup [.agg (A9 a.1.1 (gnn a.1.1.length)),.agg (O2 a.1.2 (gnn a.1.2.length))])) [x9 l nn a.2]/\(K5 7540 a.1.1/\a2Y a.1.2/\k<=a.2/\a.2<=k+5500):=by
 refine qO Tryz.func11 ?_;refine d4z ?_;refine qD (c5 O Tryz.call27 ⟨D,D⟩ (b8s l nn k J hl _ 0 O) O ?_);intro⟨fl,p⟩ ⟨hm,ga,cu⟩;dsimp only at hm ga cu⊢;refine qD (l8 O b14 O j1 ?_);refine qD (i9 O D D O j3 a9o j1 O O (nb O) ?_);refine qD (c5 O a9C a2y (I4 l nn p _ 0 O J hl 1 2 J) O ?_);intro _ _;refine qC ?_ ?_<;>intro h1
 .refine qD (c5 O c3x j7 (a5k l nn (p+1) J hl 6300 ⟨J,J⟩ fl hm _ 0 O) O ?_);intro⟨fl2,p2⟩ ⟨ce,bQ,cS⟩;dsimp only at ce bQ cS⊢;refine qD (i9 O D D O j3 a9o j1 O O (nb O) ?_);refine cF [] [0,1] (tl:=[(2,[0]),(3,[]),(4,[])]) ?_;refine chf O a7J ?_;refine b6D ?_;refine B9 O O O (c5 O c5L ⟨D,D⟩ (a12 l nn p2 J hl _ 0 O) O ?_);intro⟨ev,p3⟩ ⟨he,aQ,bq⟩;dsimp only at he aQ bq⊢;refine⟨⟨a00,D⟩,?_⟩;refine z_8 ?_;refine d4o ?_;refine c6 ?_;exact⟨_,r8 (rs:=[.cell 2 32,.cell 3 25]) (cs:=[_,_]) O e0s (n_5 O),⟨((fl2,ev),p3),a16 O L6 (.old (b4n _ _).old),ce,he,do_,do_⟩⟩
 .refine cF [] [0,1] (tl:=[(2,[0]),(3,[]),(4,[])]) ?_;refine chf O a7J ?_;refine b6D ?_;refine B9 O O O (c5 O c5L ⟨D,D⟩ (a12 l nn (p+1) J hl _ 0 O) O ?_);intro⟨ev,p3⟩ ⟨he,aQ,bq⟩;dsimp only at he aQ bq⊢;refine⟨⟨a00,D⟩,?_⟩;refine z_8 ?_;refine d4o ?_;refine c6 ?_;exact⟨_,r8 (rs:=[.cell 2 32,.cell 3 25]) (cs:=[_,_]) O e0s (n_5 O),⟨((fl,ev),p3),a16 O L6 (.old (b4n _ _).old),hm.mono J,he,do_,do_⟩⟩
theorem c6k(l:List Int)(nn:Bool)(k:Nat)(aV:k<=400000000)(hl:l.length<=maxLen)(σ:List b9)(q:Nat)(hq:σ[q]?=some (x9 l nn k)):b8 CC 11 [.ptr q 0] σ λr τ=>∃a:(List Fi×List Va)×Nat,r= .ret (.tup [.agg (A9 a.1.1 (gnn a.1.1.length)),.agg (O2 a.1.2 (gnn a.1.2.length))])/\τ=σ.set q (x9 l nn a.2)/\(K5 7540 a.1.1/\a2Y a.1.2/\k<=a.2/\a.2<=k+5500):=
 a7v (c:=λa:(List Fi×List Va)×Nat=>(.tup [.agg (A9 a.1.1 (gnn a.1.1.length)),.agg (O2 a.1.2 (gnn a.1.2.length))])) (S:=λa=>x9 l nn a.2) hCC (λa h=>by simp at h) (λ_=>b4n _ _) (λ_=>G6 _ _ _) (G6 _ _ _) O (c4D l nn k aV hl) σ q hq
noncomputable def CF(fl:List Fi)(ev:List Va)(k:Ky):I:=a1X fl (F5 fl).2.1 (F5 fl).2.2 ev k
def b9G(q:Nm)(x:Src):List De:=x.decls.filter λd=>decide (deK x d=q)
theorem a5m(k:Int)(o pa pk:I):∀(l:List De) (j:Nat) (e:En),(fiD k o pa pk l j e).k=e.k/\(fiD k o pa pk l j e).o=e.o/\((fiD k o pa pk l j e).p=e.p\/(fiD k o pa pk l j e).p=pk)/\(fiD k o pa pk l j e).ct=e.ct+((l.filter λd=>d.k == k&&decide (d.name=o)).length:Int)
 | [],_,e=>⟨O,O,.inl O,by simp[fiD]⟩
 |d::l,j,e=>by
  unfold fiD;rw[b0I]
  split
  .split
   .obtain ⟨h1,h2,h3,h4⟩:=a5m k o pa pk l (j+1) ⟨pk,e.o,e.k,pa,j,e.ct+1⟩;exact⟨h1,h2,.inr (h3.elim id id),by rw[h4,n_9];simp only;omega⟩
   .obtain ⟨h1,h2,h3,h4⟩:=a5m k o pa pk l (j+1) ⟨e.p,e.o,e.k,e.pl,e.ix,e.ct+1⟩;exact⟨h1,h2,h3,by rw[h4,n_9];simp only;omega⟩
  .exact a5m k o pa pk l (j+1) e
theorem b9y{k:Int}{x:Src}(h:k≠3->x.pkg=p):(x.decls.filter λd=>d.k == k&&decide (d.name=o))=b9G (D4 k p o) x:=by
 unfold b9G;refine List.filter_congr λd _=>?_;rw[Bool.eq_iff_iff];simp only[O5,beq_iff_eq,a1z,deK,D4,Nm.mk.injEq];constructor
 .rintro ⟨rfl,rfl⟩;refine⟨O,?_,O⟩
  split
  .rfl
  .rename_i h3;exact h h3
 .rintro ⟨h1,_,h3⟩;exact⟨h1,h3⟩
theorem c8Q{k:Int}{x:Src}(h:k≠3)(hp:x.pkg≠p):b9G (D4 k p o) x=[]:=by
 unfold b9G;rw[List.filter_eq_nil_iff];intro d _ he;simp only[a1z,deK,D4,Nm.mk.injEq]at he;obtain⟨h1,h2,_⟩:=he;rw[h1,G h,G h]at h2;exact hp h2
theorem a5l(k:Int)(p o:I):∀(L:List (I×Src)) (e:En),(k≠3->e.p=p)->(fiL k p o L e).k=e.k/\(fiL k p o L e).o=e.o/\(k≠3->(fiL k p o L e).p=p)/\(fiL k p o L e).ct=e.ct+((L.flatMap λx=>b9G (D4 k p o) x.2).length:Int)
 | [],e,h=>⟨O,O,h,by simp[fiL]⟩
 |x::L,e,h=>by
  unfold fiL;rw[c1J,n_8]
  split
  .rename_i hc;simp only[O5,bne_iff_ne,b50,b17,ne_eq]at hc;obtain⟨h1,h2,h3,h4⟩:=a5l k p o L e h;exact⟨h1,h2,h3,by rw[h4,c8Q hc.1 hc.2];simp⟩
  .rename_i hc;have hp:k≠3->x.2.pkg=p:=λh3=>by
    simp only[O5,bne_iff_ne,b50,b17,ne_eq,not_and,Decidable.not_not]at hc;exact hc h3
   obtain⟨g1,g2,g3,g4⟩:=a5m k o x.1 x.2.pkg x.2.decls 0 e;obtain⟨h1,h2,h3,h4⟩:=a5l k p o L (fiD k o x.1 x.2.pkg x.2.decls 0 e) λh3=>g3.elim (λe1=>e1.trans (h h3)) λe1=>e1.trans (hp h3);exact⟨h1.trans g1,h2.trans g2,h3,by rw[h4,g4,b9y hp];omega⟩
theorem b1p(q:Nm):∀fl:List Fi,(occ q fl).length=((z6 fl).flatMap λx=>b9G q x.2).length
 | []=>rfl
 |f::fl=>by
  have ih:=b1p q fl;have e1:occ q (f::fl)=b5v q f++occ q fl:=by simp[occ]
  rw[e1,n_8,ih];unfold b5v z6;rw[List.filterMap_cons,show a9i f.p f.b=a0m f from O];cases a0m f with
  |none=>simp
  |some x=>simp[b9G]
theorem a4q{x:I×Src}(h:x∈z6 fl):∃f∈fl,a0m f=some x.2:=by
 obtain⟨f,hf,he⟩:=c0L.1 h;rw[M6]at he;obtain⟨s,hs,rfl⟩:=he;exact⟨f,hf,hs⟩
theorem a7M{f:Fi}{x:Src}(h:a0m f=some x):a0i x:=by
 unfold a0m at h;split at h
 .exact a5w h
 .cases h
theorem a92:(z6 fl).length<=fl.length/\∀x∈z6 fl,x.2.decls.length<=100000:=by
 refine⟨List.length_filterMap_le _ _,λx hx=>?_⟩;obtain⟨f,_,hs⟩:=a4q hx;have:=(a7M hs).decl;omega
def c5g(e:En):Ky:=if(e.k == 3)=true then⟨3,e.o,[]⟩else⟨e.k,e.p,e.o⟩
structure EnF(fl:List Fi)(e:En)(q:Nm):Prop where
 key:S5 (c5g e)=true
 cf:∀(ev:List Va) (fs:List Fi),B1 fs=0->CF fs ev (c5g e)=c4V (occ q fs)
 ct:e.ct=((occ q fl).length:Int)
 pos:occ q fl≠[]
theorem c39{e:En}(h:EnP (z6 fl) e):∃q,EnF fl e q:=by
 obtain⟨x,hx,d,hd,rfl⟩:=h;obtain⟨f,hf,hs⟩:=a4q hx;have hG:=a7M hs;have hD:=hG.dec d hd;have hi:d.k≠3->(⟨if d.k=3 then []else x.2.pkg,d.name,d.k,[],0,0⟩:En).p=x.2.pkg:=λh3=>G h3;obtain⟨h1,h2,h3,h4⟩:=a5l d.k x.2.pkg d.name (z6 fl) ⟨if d.k=3 then []else x.2.pkg,d.name,d.k,[],0,0⟩ hi;change (fiE (z6 fl) d.k x.2.pkg d.name).k=d.k at h1;change (fiE (z6 fl) d.k x.2.pkg d.name).o=d.name at h2;change d.k≠3->(fiE (z6 fl) d.k x.2.pkg d.name).p=x.2.pkg at h3;change (fiE (z6 fl) d.k x.2.pkg d.name).ct=0+_ at h4;generalize fiE (z6 fl) d.k x.2.pkg d.name=e at h1 h2 h3 h4;have hK:c5g e=if d.k=3 then⟨3,d.name,[]⟩else⟨d.k,x.2.pkg,d.name⟩:=by
  unfold c5g;rw[h1,h2];by_cases h:d.k=3
  .rw [W h,W (H h)]
  .rw [G h,G (H h),h3 h]
 refine⟨D4 d.k x.2.pkg d.name,?_,λev fs hv=>?_,by rw[h4,b1p];omega,λh0=>?_⟩
 .rcases hD.kind with h|h|h
  .rw [hK.trans (G J),h];unfold S5;rw[W Q];simp[hG.pkg.1,(hD.name J).1]
  .rw [hK.trans (G J),h];unfold S5;rw[W Q];simp[hG.pkg.1,(hD.name J).1]
  .rw [hK.trans (W h)];unfold S5;rw[G Q,W Q];simp[hD.path h]
 .unfold CF a1X
  rcases hD.kind with h|h|h
  .rw [hK.trans (G J),h,W O];exact a5c hv 1 _ _
  .rw [hK.trans (G J),h,G Q,W O];exact a5c hv 2 _ _
  .rw [hK.trans (W h),h,G Q,G Q,W O,a5c hv 3 [] d.name];rfl
 .have:(x.2,d)∈occ (D4 d.k x.2.pkg d.name) fl:=by
   refine c2P.2 ⟨f,hf,?_⟩;unfold b5v;rw[hs];exact H9.2 ⟨d,b1Y.2 ⟨hd,by simp[deK]⟩,O⟩
  rw[h0]at this;cases this
def nmC(x:I×I):List CV:=[sv x.1,sv x.2]
theorem b0m(x:I×I):P5 (nmC x):=⟨.val _,.val _,D⟩
def a6i(fl:List Fi)(x:I×I):Prop:=(C3 true (F5 fl).2.2 2 x.1 x.2).ct=1/\S5 (kyT x.1 x.2)=true
theorem d2f{e:En}(h0:B1 fl=0)(h:EnP (z6 fl) e)(hk:e.k=2)(hc:e.ct=1):a6i fl (e.p,e.o):=by
 obtain⟨q,hq⟩:=c39 h;have h1:=hq.key;have h2:=hq.cf [] fl h0;have h3:=hq.ct;have ek:c5g e=kyT e.p e.o:=by unfold c5g kyT;rw[G (by rw[hk];decide),hk]
 rw[ek]at h1 h2;refine⟨?_,h1⟩;have h4:Y5 (F5 fl).2.1 (C3 true (F5 fl).2.2 2 e.p e.o)=c4V (occ q fl):=h2;have hl:(occ q fl).length=1:=by omega
 obtain⟨y,hy⟩:∃y,occ q fl=[y]:=by
  match dZ:occ q fl,hl with
  | [y],_=>exact⟨y,O⟩
 rw[hy]at h4;unfold Y5 at h4;show(C3 true (F5 fl).2.2 2 e.p e.o).ct=1;by_cases a:(C3 true (F5 fl).2.2 2 e.p e.o).ct=0
 .rw [W a]at h4;exact absurd h4 (by simp[c4V])
 .rw [G a]at h4;by_cases b:(C3 true (F5 fl).2.2 2 e.p e.o).ct=1
  .exact b
  .rw [G b]at h4;exact absurd h4 (by simp[c4V])
theorem d6q(a:Int×Int×Int):∀w,(Op.equal 93 (.agg [.int .i64 a.1,.int .i64 a.2.1,.int .i64 a.2.2].toArray) (.agg [.int .i64 a.1,.int .i64 a.2.1,.int .i64 a.2.2].toArray)).run CC.P w= .ok true w:=λw=>by
 show(Op.equal _ _ _).run Tryz.prog w=_;simp[Op.equal,Op.maxDepth,go_sem]
theorem c4G(l:List Fi)(nn:Bool)(hl:l.length<=1000000)(hp:∀f∈l,f.p.length<=1000000000)(hbl:∀q b,o8 l q=some b->b.length<=1000000000)(hd:B1 l=0->∀f∈l,o8 l f.p=some f.b)(hLD:B1 l=0->(z6 l).length<=1000/\∀x∈z6 l,x.2.decls.length<=100000)(h0:B1 l=0):b8 CC 48 [.agg (A9 l nn)] [] λr τ=>∃out:List (I×I),F7 0 τ r (.ret (.list (out.map nmC) (gnn out.length) none)) []/\((∀x∈out,a6i l x)/\out.length<=100000000):=by
 refine qO Tryz.func48 ?_;refine qD (F1 O D j3 j1 ?_);refine qD (c5 O Tryz.call25 ⟨D,D⟩ (b72 l nn hl hp hbl hd hLD _) O ?_);intro es hes;obtain⟨hes,fS⟩:=hes h0;refine V c9K ?_;refine C5 hCC 1 O (α:=Nat×List (I×I)) (λa=>[(3,(.list (a.2.map nmC) (gnn a.2.length) (G9 a.2.length 1))),(7,(.list (es.map En.cells) (gnn es.length) none)),(8,iv es.length),(9,iv a.1)]) (λa=>[.box (A9 l nn),p7 a.2.length]) (λa=>a.1<=es.length/\a.2.length<=a.1/\∀x∈a.2,a6i l x) (λa=>es.length -a.1) ⟨(0,[]),[0,9],⟨n_4 _,n_6 _,λ_ h=>by cases h⟩,⟨O,O⟩,⟨d1f,d1f,d1f,d1f,D⟩,uq_⟩ ?_;intro⟨i,out⟩ ⟨hi,hol,ho⟩;dsimp only at hi hol ho⊢;refine qk (qC ?_ ?_)<;> intro h1
 .have ah:i<es.length:=sm_ h1;obtain⟨e,hb⟩:∃e,es[i]?=some e:=⟨es[i]'ah,Q⟩;have hE:=hes e (n_2 hb);refine V (z8 O D D O O a5a t_7 J (o7 hb) O) ?_;refine z_7 ?_;refine qG (λhg=>j2 O D O b6y O t_1 U) ?_;refine qG a32 ?_;refine a2g ?_;refine qC ?_ ?_<;>intro h2
  .have hk:e.k=2/\e.ct=1:=H h2;have hT:=d2f h0 hE hk.1 hk.2;refine V (B2 #[(0,1),(1,1)] O j7 Tryz.runUnderlying91 c25 O ⟨_,O⟩ (λw=>by kernel_rfl) O O) ?_;refine V (B4 [nmC (e.p,e.o)] O ⟨D,D⟩ c1H c1E c25 O O O O O O O O O) ?_;refine qD (D6 O D D O Q q_3 c1H c1E Tryz.typeInfo91 c25 O (.inr O) q_8 (by have hb:Tryz.t91.bytes=32:=O;rw[hb];first|omega|(simp;done)|(simp;omega)) G0 ((out++[(e.p,e.o)]).map nmC) (out++[(e.p,e.o)]).length Q Q ?_);refine V r6 ?_;exact⟨(i+1,out++[(e.p,e.o)]),[0,3],⟨do_,do_,by simp;omega,λx hx=>by rcases W0.1 hx with hx|hx;exact ho x hx;simp at hx;subst hx;exact hT⟩,⟨O,O⟩,ut_,uq_⟩
  .refine V r6 ?_;exact⟨(i+1,out),[0,1],⟨do_,do_,do_,ho⟩,⟨O,O⟩,ut_,uq_⟩
 .refine W5 ?_;exact⟨_,rE1,⟨out,⟨[],O,O,.ret (Z3 (f:=nmC) b0m _),D⟩,ho,J⟩⟩
theorem c9I(l:List Fi)(nn:Bool)(hl:l.length<=1000000)(hp:∀f∈l,f.p.length<=1000000000)(hbl:∀q b,o8 l q=some b->b.length<=1000000000)(hd:B1 l=0->∀f∈l,o8 l f.p=some f.b)(hLD:B1 l=0->(z6 l).length<=1000/\∀x∈z6 l,x.2.decls.length<=100000)(h0:B1 l=0)(σ:List b9):b8 CC 48 [.agg (A9 l nn)] σ λr τ=>∃out:List (I×I),r= .ret (.list (out.map nmC) (gnn out.length) none)/\τ=σ/\((∀x∈out,a6i l x)/\out.length<=100000000):=
 (a6F (res:=λout:List (I×I)=>.ret (.list (out.map nmC) (gnn out.length) none)) (res':=λout _=>.ret (.list (out.map nmC) (gnn out.length) none)) (S:=λ_=>[]) (S':=λ_ _=>[]) hCC (λc h=>by simp at h;subst h;exact j4 ⟨B6 _ _,D⟩) (N3 hCC ((c4G l nn hl hp hbl hd hLD h0).mono λr τ ⟨a,h1,h2⟩=>⟨_,_,h1,a,O,O,h2⟩)) (λ_ _=>O) (λa n i x hx=>by cases hx) (λa n=>.ret (.pure (M4 (f:=nmC) b0m _ _))) σ).mono λr τ ⟨a,h1,h2,h3⟩=>⟨a,h1,h2.trans (a1f _),h3⟩
theorem b0o(a:a6P)(hl:a.tr.length<=1000000)(σ:List b9):b8 CC 50 [.agg a.cells,.agg a.cells] σ λr aa=>r= .ret (.val (.bool true))/\aa=σ:=by
 refine b8.anyw hCC pu_ pu_ (c9 (qO Tryz.func50 ?_)) σ;refine z_6 ?_;refine V (d5A O D D (xs:=[.int .i64 a.res.1,.int .i64 a.res.2.1,.int .i64 a.res.2.2]) (ys:=[.int .i64 a.res.1,.int .i64 a.res.2.1,.int .i64 a.res.2.2]) O O Tryz.eqGuardType93 (d6q a.res)) ?_;refine d5J ?_;refine d5J ?_;refine qG (λhg=>b6q O Tryz.runUnderlying4 hg hg O O O) ?_;refine V U8 ?_;refine d4X ?_;refine d4X ?_;refine b0C ?_;refine d5f ?_;refine qG c7N ?_;refine d5f ?_;refine qG c7N ?_;refine b0C ?_;refine cC ?_ ?_<;>intro h1
 .simp at h1
 .refine qk (V c9c ?_);refine m0 hCC (α:=Nat) (λi=>[(2,.ptr 0 0),(3,.ptr 1 0),(36,iv a.tr.length),(37,iv i)]) (λ_=>[.box a.cells,.box a.cells]) (λi=>i<=a.tr.length) (λi=>a.tr.length -i) 0 (n_4 _) tu_ (aj:=[]) O A7 (λa ha=>by repeat' (first|exact D|exact .val _|exact .ptr (nb O)|exact .map (nb O)|exact(a6P.pure a).old|exact a97 _ _ _|refine A0 ⟨.val _,.val _,.val _,.val _,?_,.val _,D⟩|refine A0 ?_|refine⟨?_,?_⟩)) ?_;intro i hi;refine qk (qC ?_ ?_)<;> intro h2
  .have ah:i<a.tr.length:=sm_ h2;obtain⟨k,hb⟩:∃k,a.tr[i]?=some k:=⟨a.tr[i]'ah,Q⟩;refine cW 11 ?_;refine d6c ?_;refine hY A3 ?_;refine hY c9a ?_;refine hY (Y7 O D O c5J a3Z (nb O)) ?_;refine d6c ?_;refine hY A3 ?_;refine hY c9a ?_;refine hY (Y7 O D O c5J a3Z (nb O)) ?_;refine hY (d5A O D D (xs:=[.int .i64 k.k,.string (str k.a),.string (str k.b)]) (ys:=[.int .i64 k.k,.string (str k.a),.string (str k.b)]) O O Tryz.eqGuardType39 (d9Q k k)) ?_;refine a2b ?_;refine cC ?_ ?_<;>intro h3
   .simp at h3
   .refine qk ?_;exact b2n
  .refine W5 ?_;exact⟨_,rE1,_,_,O,O,o3 O⟩
theorem d8h{o:Oper}{t':TypeId}{x y:Operand}{k k':IntKind}{a:Int}{n:Nat}(ho:o.op = .binOp .shl t x y t')(hx:E.valid x)(hy:E.valid y)(ex:E.val C x= .val (.int k a))(ey:E.val C y= .val (.int k' (n:Int)))(hk:n<=k.bits):Go.Cl.Yields C σ E o (.val (.int k (k.wrap (a*2^n)))):=
 i8 λM w ρ _ h=>by
  have h1:=h x w8 hx;have h2:=h y w8 hy;rw[ex]at h1;rw[ey]at h2;refine⟨.int k (k.wrap (a*2^n)),?_,.val _⟩;have e:min n k.bits=n:=by omega
  have e3:¬(n:Int)<0:=by omega
  simp[execOp,ho,p8 h1,p8 h2,eqGuard,binOp,Op.shift,e,e3]
def b9r(a b:Int):Int:=((BitVec.ofInt 64 a ^^^ BitVec.ofInt 64 b).toNat:Int)
theorem d7m(a b:Int):0<=b9r a b/\b9r a b<18446744073709551616:=by
 have:=(BitVec.ofInt 64 a ^^^ BitVec.ofInt 64 b).isLt;unfold b9r;omega
theorem d7X{o:Oper}{t':TypeId}{x y:Operand}{a b:Int}(ho:o.op = .binOp .xor t x y t')(hx:E.valid x)(hy:E.valid y)(ex:E.val C x= .val (.int .u64 a))(ey:E.val C y= .val (.int .u64 b)):Go.Cl.Yields C σ E o (.val (.int .u64 (b9r a b))):=
 i8 λM w ρ _ h=>by
  have h1:=h x w8 hx;have h2:=h y w8 hy;rw[ex]at h1;rw[ey]at h2;have e4:(Op.intBits .xor .u64 a b).run C.P w= .ok (.int .u64 (b9r a b)) w:=by
   unfold Op.intBits;simp only[Sem.run_pure];rw[show IntKind.u64.wrap ((BitVec.ofInt IntKind.u64.bits a ^^^ BitVec.ofInt IntKind.u64.bits b).toNat:Int)=b9r a b from d9c (n:=(BitVec.ofInt 64 a ^^^ BitVec.ofInt 64 b).toNat) (BitVec.isLt _)]
  exact⟨.int .u64 (b9r a b),by simp[execOp,ho,p8 h1,p8 h2,eqGuard,binOp,e4],.val _⟩
theorem d2T(l:List Int)(nn:Bool)(k:Nat)(aV:k<=500000000)(hl:l.length<=maxLen)(σ:List b9)(q:Nat)(hq:σ[q]?=some (x9 l nn k)):b8 CC 47 [.ptr q 0] σ λr τ=>∃wd:Int,r= .ret (.val (.int .u64 wd))/\τ=σ.set q (x9 l nn (k+2))/\0<=wd/\wd<18446744073709551616:=by
 refine qO Tryz.func47 ?_;refine V (B4 (([0,1,2,3,4611686018427387904,-1]:List Int).map icv) O ⟨O,O,O,O,O,O,D⟩ t_3 t_1 t_6 O O O O O O O O O) ?_;refine qD (c5 O b5z j7 (a23 l nn k σ q hq J hl [0,1,2,3,4611686018427387904,-1] Q Q) O ?_);intro v _;refine V d0H ?_;refine qD (c5 O a6p o4 (J1 l nn (k+1) _ q (by rw[b8U (n_3.1 hq).1]) J hl 1073741824 U) O ?_);intro _ _;refine V d0H ?_;refine V (d8h (n:=7) O D O O O U) ?_;refine V (d7X O D D O O) ?_;refine c6 ?_;exact⟨_,rE1,(by exact⟨_,O,by rw[List.set_set],d7m _ _⟩)⟩
theorem c9w{B:Nat}(hm:K5 B fl)(hB:B<=16384)(he:a2Y ev)(hw:0<=wd/\wd<18446744073709551616)(nn en:Bool):McG (mcR fl nn ev en wd) where
 w:=d3H (hm.valid hB)
 k:=d6S (hm.valid hB)
 ev:=⟨by show ev.length<=1000000;have:=he.len;omega,he.rng⟩
 wd:=hw
theorem c7F(hc:McG c)(hk:S5 (kyT p o)=true):(∀k∈kys (a1y c p o).2,S5 k=true)/\kyT p o∈kys (a1y c p o).2:=by
 obtain⟨h1,h2⟩:=a2q hc (a8e hc 20001) (b18 c p o) [] false (MS0.look [kyT p o]);refine⟨(h2 ⟨λk aL=>?_,?_⟩).1,h1 _ (Y0.2 (.inr Q))⟩
 .rcases Y0.1 aL with h|h
  .cases h
  .simp at h;subst h;exact hk
 .have:=b0a (S:=MS0) (ks:=[kyT p o]);show((MS0.look [kyT p o]).tr.length:Int)<=2+9*0;have e:MS0.tr.length=0:=O;simp only[n_9,R1]at this;omega
theorem d3i(hc:McG c)(hk:S5 (kyT p o)=true)(hg:Gd (MS0.look [kyT p o]) (a1y c p o)):(a1y c p o).2.tr.length<=1000000:=by
 obtain⟨_,h2⟩:=a2q hc (a8e hc 20001) (b18 c p o) [] false (MS0.look [kyT p o]);have h3:=(h2 ⟨λk aL=>by
  rcases Y0.1 aL with h|h
  .cases h
  .simp at h;subst h;exact hk,by
  have:=b0a (S:=MS0) (ks:=[kyT p o]);show((MS0.look [kyT p o]).tr.length:Int)<=2+9*0;have e:MS0.tr.length=0:=O;simp only[n_9,R1]at this;omega⟩).2
 have h4:=hg.2.1;have h5:((a1y c p o).2.tr.length:Int)<=2+9*(a1y c p o).2.st:=h3;omega
theorem b7H{k:Ky}:k∈(a5X c p o).tr↔k∈kys (a1y c p o).2:=(b0t _ _).mem_iff
theorem d0d:(a5X c p o).tr.length=(a1y c p o).2.tr.length:=by
 show(a3g R2 ((a1y c p o).2.tr.map Prod.fst)).length=_;rw[show(a3g R2 ((a1y c p o).2.tr.map Prod.fst)).length=((a1y c p o).2.tr.map Prod.fst).length from c0H _,a02]
theorem c1h{B:Nat}(hm:K5 B fl)(hB:B<=16384)(he:a2Y ev)(hw:0<=wd/\wd<18446744073709551616){x:I×I}(hx:a6i fl x)(nn en:Bool):(a5X (mcR fl nn ev en wd) x.1 x.2).tr.length<=1000000/\∀σ:List b9,b8 CC 49 [.agg (A9 fl nn),.agg (O2 ev en),.val (.int .u64 wd),.agg (nmC x)] σ λr τ=>r= .ret (.tup [.agg (a5X (mcR fl nn ev en wd) x.1 x.2).cells,iv 0])/\τ=σ:=by
 have hc:=c9w hm hB he hw nn en;have h1:(C3 true (mcR fl nn ev en wd).me 2 x.1 x.2).ct=1:=hx.1;obtain⟨s,d,g1,g2,g3,g4,g5,_⟩:=hc.find h1;have aP:(MS0.look [kyT x.1 x.2]).st=0:=O;have hac:(MS0.look [kyT x.1 x.2]).ac=0:=O;have hE:=b4w (c:=mcR fl nn ev en wd) (rec:=evN (mcR fl nn ev en wd) 20001) (S:=MS0.look [kyT x.1 x.2]) (λF hF i y hi hy S1 a1 a2 a3 a4=>c7x hc 20001 F hF i y hi hy S1 J a2 J a3 a4) (SB.refl J) ⟨J,J⟩ g1 g2 g3 g4 [] false (by rw[(g3.dec d g4).pars J];rfl) (λv hv=>by cases hv);have htl:=d3i hc hx.2 hE.2;have htr:(a1y (mcR fl nn ev en wd) x.1 x.2).2.tr≠[]:=λh=>by
  have:=(c7F hc hx.2).2;unfold kys at this;rw[h]at this;cases this
 refine⟨by rw[d0d];exact htl,λσ=>(I0 (res:=λ_:Unit=>.ret (.tup [.agg (a5X (mcR fl nn ev en wd) x.1 x.2).cells,iv 0])) (P:=λ_=>True) hCC (λa h=>?_) (d1F fl nn hm.plen ev en wd x.1 x.2 (hm.valid hB) he.valid hx.1 hE.1 htr htl) (λ_ _=>B3 (cs:=[_,_]) ⟨a6P.pure _,.val _,D⟩) σ).mono λr τ ⟨_,h1,h2,_⟩=>⟨h1,h2⟩⟩;simp at h
 rcases h with rfl|rfl|rfl|rfl
 .exact j4 (cs:=A9 _ _) ⟨B6 _ _,D⟩
 .exact j4 (cs:=O2 _ _) ⟨H3 _ _,D⟩
 .exact .val _
 .exact j4 (cs:=nmC x) ⟨.val _,.val _,D⟩
theorem b2N(h:B1 fl=0)(he:a2N ev=true){l:List Ky}(hl:∀k∈l,S5 k=true):a13 fl ev l=some (l.map (a1X fl (F5 fl).2.1 (F5 fl).2.2 ev)):=by
 rw[a13,W ⟨h,he,a2d.2 hl⟩]
theorem c2d:∀{l m:List I} {j:Int},0<=j->l.length=m.length->a6b l m j= -1->l=m
 | [],[],_,_,_,_=>rfl
 |x::l,y::m,j,hj,hl,h=>by
  rw[a6b]at h;split at h
  .rename_i e;rw[e,c2d J (H hl) h]
  .omega
theorem b8h{α β:Type}{f g:α->β}:∀{l:List α},l.map f=l.map g->∀x∈l,f x=g x
 | [],_,x,hx=>by cases hx
 |y::l,h,x,hx=>by
  injection h with h1 h2
  rcases J6.1 hx with rfl|hx
  .exact h1
  .exact b8h h2 x hx
theorem d1D{B B':Nat}{gl:List Fi}{ew:List Va}(hm:K5 B fl)(hB:B<=16384)(he:a2Y ev)(hs:K5 B' gl)(hB':B'<=16384)(hew:a2Y ew)(hw:0<=wd/\wd<18446744073709551616){x:I×I}(hx:a6i fl x)(nn en nn' en':Bool):
 ∃ts,a13 fl ev (a5X (mcR fl nn ev en wd) x.1 x.2).tr=some ts/\∃n,a72 gl ew (a5X (mcR fl nn ev en wd) x.1 x.2).tr ts=some n/\(n= -1->a6i gl x/\a5X (mcR gl nn' ew en' wd) x.1 x.2=a5X (mcR fl nn ev en wd) x.1 x.2):=by
 have hc:=c9w hm hB he hw nn en;have aM:=c9w hs hB' hew hw nn' en';have hk:∀k∈(a5X (mcR fl nn ev en wd) x.1 x.2).tr,S5 k=true:=λk h=>(c7F hc hx.2).1 k (b7H.1 h);refine⟨_,b2N (hm.valid hB) he.valid hk,_,by rw[a72,b2N (hs.valid hB') hew.valid hk];simp only[a02,if_true];rfl,λh=>?_⟩;have h1:=b8h (c2d (a7G 0) Q h);obtain⟨h2,h3⟩:=c6b hc aM (show wd=wd from O) (p:=x.1) (o:=x.2) hx.1 λk hk=>(h1 k (b7H.2 hk)).symm;exact⟨⟨h2,hx.2⟩,by unfold a5X;rw[h3]⟩
def awT:I:=[112,97,99,107,97,103,101,32,112,59,10,116,101,115,116,32,116,32,61,32,49,59,10]
def awP:Src:=⟨[112],[],[⟨1,[102],[],[⟨1,1,0,[],[]⟩]⟩]⟩
theorem d8r(σ:List b9):b8 CC 56 [.agg (A9 awF true)] σ λr τ=>∃_:Unit,r= .ret (.ptr σ.length 0)/\τ=σ++d7v awF true true [] [([97,46,115,114,99],awS)] [(⟨2,[112],[116]⟩,⟨[112],[116],2,[97,46,115,114,99],0,1⟩)] σ.length/\True:=by
 have h:=c7H awF true U σ;rw[show F5 awF=([],[([97,46,115,114,99],awS)],[(⟨2,[112],[116]⟩,⟨[112],[116],2,[97,46,115,114,99],0,1⟩)]) by kernel_rfl,show(B1 awF == 0)=true by kernel_rfl]at h;exact h
theorem e0Z{o:Oper}{K:N8->List b9->Prop}(ho:o.op = .makeMap t none)(hk:K (.ret (.map σ.length)) (σ++[.map (gm kv (λc:CV=>c) [])])):D3 C σ E o K:=Q4 ho hk
abbrev d8W:Prop:=∀σ,b8 CC 113 [iv 1] σ λr τ=>r= .ret (sv [49])/\τ=σ
abbrev d8T:Prop:=b8 CC 113 [iv 1] [] λr τ=>r= .ret (sv [49])/\τ=[]
abbrev e0q:Prop:=∀σ,b8 CC 198 [.agg awS.cells] σ λr τ=>r= .ret (iv 0)/\τ=σ
abbrev e0x:Prop:=b8 CC 198 [.agg awS.cells] [] λr τ=>r= .ret (iv 0)/\τ=[]
abbrev d8M:Prop:=∀σ,b8 CC 198 [.agg awP.cells] σ λr τ=>r= .ret (iv 0)/\τ=σ
abbrev e0w:Prop:=b8 CC 198 [.agg awP.cells] [] λr τ=>r= .ret (iv 0)/\τ=[]
abbrev d9U:Prop:=∀σ,b8 CC 199 [(.list (awD.body.map Ex.cv) true none),(.list [] false none)] σ λr τ=>r= .ret (.tup [sv [49],iv 0])/\τ=σ
abbrev d9x:Prop:=b8 CC 199 [(.list (awD.body.map Ex.cv) true none),(.list [] false none)] [] λr τ=>r= .ret (.tup [sv [49],iv 0])/\τ=[]
abbrev e0N:Prop:=∀σ,b8 CC 156 [.agg awS.cells,iv 0] σ λr τ=>r= .ret (.tup [sv awT,iv 0])/\τ=σ
abbrev e0i:Prop:=b8 CC 156 [.agg awS.cells,iv 0] [] λr τ=>r= .ret (.tup [sv awT,iv 0])/\τ=[]
abbrev e0M:Prop:=∀σ,b8 CC 14 [.agg (A9 awF true),.agg (O2 [] false),CV.agg (Ky.cells ⟨2,[112],[116]⟩)] σ λr τ=>r= .ret (.tup [sv (61::awT),iv 0])/\τ=σ
abbrev e0j:Prop:=b8 CC 14 [.agg (A9 awF true),.agg (O2 [] false),CV.agg (Ky.cells ⟨2,[112],[116]⟩)] [] λr τ=>r= .ret (.tup [sv (61::awT),iv 0])/\τ=[]
abbrev e0m:Prop:=∀σ,b8 CC 14 [.agg (A9 awF true),.agg (O2 [] false),CV.agg (Ky.cells ⟨4,[97,46,100,97,116],[]⟩)] σ λr τ=>r= .ret (.tup [sv [61,45],iv 0])/\τ=σ
abbrev d9P:Prop:=b8 CC 14 [.agg (A9 awF true),.agg (O2 [] false),CV.agg (Ky.cells ⟨4,[97,46,100,97,116],[]⟩)] [] λr τ=>r= .ret (.tup [sv [61,45],iv 0])/\τ=[]
abbrev e0H:Prop:=∀σ,b8 CC 21 [.agg (A9 awF true),.agg (O2 [] false),.list ([(⟨4,[99],[]⟩:Ky)].map Ky.cv) true none,.list ([([45]:I)].map scv) true none] σ λr τ=>r= .ret (.tup [iv (-1),iv 0])/\τ=σ
abbrev d9X:Prop:=b8 CC 21 [.agg (A9 awF true),.agg (O2 [] false),.list ([(⟨4,[99],[]⟩:Ky)].map Ky.cv) true none,.list ([([45]:I)].map scv) true none] [] λr τ=>r= .ret (.tup [iv (-1),iv 0])/\τ=[]
abbrev d9S:Prop:=b8 CC 23 [] [] λr τ=>r= .ret (.val (.bool true))/\τ=[]
section
attribute [local irreducible] G5 CWp D3 Yields a0f YK Cl.Fin
theorem d1k:(True->True->True->d8T) /\
 (True->True->True->e0x) /\
 (True->True->True->e0w) /\
 (d8M->d8W->True->d9x) /\
 (e0q->d9U->True->e0i) /\
 (True->True->e0N->e0j) /\
 (True->True->True->d9P) /\
 (True->True->True->d9X) /\
 (e0M->e0m->e0H->d9S):=by
 refine⟨?_,?_,?_,?_,?_,?_,?_,?_,?_⟩<;>(
  intro hA hB hC;refine c9 (qO O ?_)
  repeat first
   |((first|refine k_h ?_|refine k_f rfl rfl ?_|refine k_t rfl rfl rfl ?_|refine k_hg rfl rfl D rfl ?_|(refine qD ?_;refine k_d ?_)|(refine x_g O O D O O ?_;refine k_d ?_));(first
    |refine k_y (a1j rfl (Env.vb_ok rfl) rfl) ?_
    |refine k_y (a1U rfl (Env.vb_ok rfl) rfl) ?_
    |refine k_e (T9 rfl (Env.vb_ok rfl) (Env.vb_ok rfl) rfl rfl rfl) a2o ?_
    |refine k_e (b6e rfl (Env.vb_ok rfl) rfl) a2o ?_
    |refine k_e (a1g rfl (Env.vb_ok rfl) (Env.vb_ok rfl) rfl rfl (by first|exact a4O _ _|exact a75 _ _)) a2o ?_
    |refine k_e (a0a rfl (Env.vb_ok rfl) rfl (F6 rfl) rfl rfl) a2o ?_
    |refine k_e (b9B rfl (Env.vb_ok rfl) rfl (F6 rfl)) a2o ?_
    |refine k_e (x_pickt rfl (Env.vb_ok rfl) rfl) a2o ?_
    |refine k_e (x_pickf rfl (Env.vb_ok rfl) rfl) a2o ?_
    |refine k_e (a8F rfl (Env.vb_ok rfl) rfl e0g W9) a2o ?_
    |refine k_e (a6K rfl (Env.vb_ok rfl) rfl e0g W9) a2o ?_
    |refine k_e (j2 rfl (Env.vb_ok rfl) rfl (F6 rfl) rfl (I7 rfl) U) a2o ?_
    |refine k_y (o5 rfl (Env.vb_ok rfl) rfl (a1O rfl) rfl rfl) ?_
    |refine k_y (J7 rfl (Env.vb_ok rfl) rfl (a1O rfl) (I7 rfl) rfl (nb rfl)) ?_
    |refine k_e (a2U rfl (Env.vb_ok rfl) rfl (F6 rfl) rfl (I7 rfl) U) a2o ?_
    |refine k_y (a0L rfl (Env.vb_ok rfl) rfl (a1O rfl) rfl) ?_
    |refine k_y (Y7 rfl (Env.vb_ok rfl) rfl (a1O rfl) (I7 rfl) (nb rfl)) ?_
    |refine k_y (z8 rfl (Env.vb_ok rfl) (Env.vb_ok rfl) rfl rfl (F6 rfl) (I7 rfl) U rfl rfl) ?_
    |refine k_e (a2W rfl (Env.vb_ok rfl) rfl rfl) a2o ?_
    |refine k_y (T3 rfl (Env.vb_ok rfl) (Env.vb_ok rfl) rfl rfl (F6 rfl) (I7 rfl) rfl U U) ?_
    |refine k_y (a1K rfl (Env.vb_ok rfl) rfl (a1O rfl) rfl rfl rfl) ?_
    |refine k_y (c5b rfl (Env.vb_ok rfl) rfl (F6 rfl)) ?_
    |refine k_y (c56 rfl (Env.vb_ok rfl) rfl (F6 rfl)) ?_
    |refine k_y (c4f rfl (Env.vb_ok rfl) (Env.vb_ok rfl) rfl rfl _ rfl rfl) ?_
    |refine k_y (b9X rfl (Env.vb_ok rfl) rfl rfl (nb rfl) _ rfl rfl rfl) ?_
    |refine k_y (b5h rfl (Env.vb_ok rfl) rfl rfl _ rfl rfl rfl D7) ?_
    |refine k_y (d7e (e:=Extern.AbiNoEscape.same) rfl rfl rfl rfl rfl rfl (Env.vb_ok rfl) rfl (λv w=>rfl)) ?_
    |refine k_y (b07 rfl (Env.vb_ok rfl) rfl) ?_
    |refine k_y (b7z rfl (Env.vb_ok rfl) rfl (a9j _ _)) ?_
    |refine k_y (y_sliceData0 rfl (Env.vb_ok rfl) rfl) ?_
    |refine k_y (a1e rfl (Env.vb_ok rfl) (Env.vb_ok rfl) rfl rfl (nb rfl)) ?_
    |refine k_y (J8 rfl (Env.vb_ok rfl) (Env.vb_ok rfl) rfl rfl (F6 rfl) U rfl) ?_
    |refine k_e (b6W rfl (Env.vb_ok rfl) (Env.vb_ok rfl) rfl rfl) a2o ?_
    |refine k_y (c4 rfl (a5y rfl rfl rfl) (a0B rfl) (hB _) rfl) ?_
    |refine k_y (S4 (vc:=λc:CV=>c) (a:=_) a0C O (Env.vb_ok O) (Env.vb_ok O) O O (F6 O) (a04 O O) O O O) ?_
    |refine k_y (S4 (vc:=vcS) (l:=[([97,46,115,114,99],awS)]) (a:=_) b8e rfl (Env.vb_ok rfl) (Env.vb_ok rfl) rfl rfl (F6 rfl) (a04 rfl rfl) rfl rfl rfl) ?_
    |refine k_y (c4 rfl (a5y rfl rfl rfl) (a0B rfl) (hC _) rfl) ?_
    |refine k_y (a7c rfl (a0B rfl)) ?_
    |refine k_y (a2K rfl (Env.vb_ok rfl) rfl (F6 rfl) (F6 rfl) rfl) ?_
    |refine k_y (I9 rfl (Env.vb_ok rfl) rfl (F6 rfl) c1D c1D (nb rfl) (nb rfl)) ?_
    |refine k_y a57 ?_
    |refine k_e (j2 rfl D rfl (F6 rfl) rfl (I7 rfl) U) a2o ?_
    |refine k_y (o5 rfl D rfl (a1O rfl) rfl rfl) ?_
    |refine k_y (a1U rfl D rfl) ?_
    |refine k_y (d3l rfl (by repeat' (first|exact D|exact rfl|exact Env.vb_ok rfl|refine⟨?_,?_⟩)) rfl rfl rfl rfl ⟨_,rfl⟩ rfl rfl rfl) ?_
    |refine k_y (d1C rfl (Env.vb_ok rfl) rfl rfl rfl rfl c1D c1D rfl rfl) ?_
    |refine k_y (e0Q rfl (by repeat' (first|exact D|exact rfl|exact Env.vb_ok rfl|refine⟨?_,?_⟩)) rfl rfl rfl rfl rfl rfl rfl rfl rfl rfl rfl rfl rfl) ?_))
   |((first|refine qD ?_|refine B9 rfl rfl rfl ?_|refine x_g rfl rfl D rfl rfl ?_);(first
    |refine d7C rfl (Env.vb_ok rfl) j3 b7t ?_
    |refine i9 rfl (Env.vb_ok rfl) (Env.vb_ok rfl) rfl j3 (I7 rfl) b7t rfl rfl (nb rfl) ?_
    |refine a6l rfl rfl (a8x _ _) (a0B rfl) rfl rfl rfl ?_
    |refine a6l rfl rfl (a5C _ U _) (a0B rfl) rfl rfl rfl ?_
    |refine d0a rfl (Env.vb_ok rfl) (Env.vb_ok rfl) rfl (c7u rfl) rfl (.inr rfl) rfl rfl rfl rfl c7b rfl (a9j _ _) rfl rfl ?_
    |refine d0a rfl (Env.vb_ok rfl) (Env.vb_ok rfl) rfl (λM w v hr h=>(a20 O (a7z O) M w v hr h).any) O (.inl O) O O O O c7b O (a9j _ _) O O ?_
    |refine d8w rfl (Env.vb_ok rfl) (Env.vb_ok rfl) rfl rfl rfl rfl rfl rfl rfl (a9j _ _) rfl D7 ?_
    |refine gU rfl (Env.vb_ok rfl) (Env.vb_ok rfl) rfl rfl ?_
    |refine c6K rfl (a04 rfl rfl) rfl b7t ?_
    |refine d9A rfl (Env.vb_ok rfl) (Env.vb_ok rfl) rfl rfl rfl rfl rfl rfl rfl c7b rfl rfl (a9j _ _) rfl rfl ?_
    |refine a6l rfl rfl (hA _) (a0B rfl) rfl rfl rfl ?_
    |refine a6l rfl rfl (hB _) (a0B rfl) rfl rfl rfl ?_
    |refine e0h rfl rfl (d8r _) (a0B rfl) rfl rfl rfl (λ_ _=>?_)
    |refine a6l rfl rfl (a0F [] false _) (a0B rfl) rfl rfl rfl ?_
    |refine a6l rfl rfl (a9S (w:=5) (q1:=6) (q2:=7) (t:=8) (fl:=awF) (nn:=true) (va:=true) (br:=[]) (ms:=[([97,46,115,114,99],awS)]) (me:=[(⟨2,[112],[116]⟩,⟨[112],[116],2,[97,46,115,114,99],0,1⟩)]) ⟨rfl,rfl,rfl,rfl,a3v ⟨U,U,U,U,U,U⟩⟩ 2 [112] [116]) (a0B rfl) rfl rfl rfl ?_
    |refine a6l rfl rfl (hC _) (a0B rfl) rfl rfl rfl ?_
    |refine d8O rfl (Env.vb_ok rfl) rfl (a0B rfl) rfl rfl rfl rfl ?_
    |refine e0Z rfl ?_
    |refine j9 (vc:=λc:CV=>c) (b:=_) a0C (.inr O) (Env.vb_ok O) (Env.vb_ok O) (Env.vb_ok O) O O O (F6 O) O ?_
    |refine d7Z rfl (by first|exact a0B rfl|repeat' (first|exact D|exact rfl|exact Env.vb_ok rfl|refine⟨?_,?_⟩)) rfl rfl rfl rfl ?_
    |refine c6L rfl (Env.vb_ok rfl) (Env.vb_ok rfl) rfl rfl rfl rfl (F6 rfl) (I7 rfl) (b1L rfl) (a04 rfl rfl) rfl b7t rfl U U U ?_
    |refine b2S rfl (Env.vb_ok rfl) (Env.vb_ok rfl) rfl j3 (I7 rfl) b7t rfl rfl rfl (nb rfl) ?_))
   |refine qCt ?_ (Env.vb_ok rfl) rfl
   |refine qCf ?_ (Env.vb_ok rfl) rfl
   |refine qX ?_
   |refine d6V 60 ?_
   |refine c6 ?_
   |refine b84 (c:=.val (.bool true)) rfl D rfl ?_
   |refine b84 (c:=.val (.bool false)) rfl D rfl ?_
   |refine b84 rfl D rfl ?_
   |refine d6v rfl D D rfl rfl ?_
   |refine x_res0 rfl ?_
   |refine d2G rfl ?_
   |refine x_n rfl rfl D rfl rfl rfl ?_
   |refine k_hn rfl rfl D rfl rfl ?_
   |refine a1m ?_
   |refine A6 ?_
   |refine k_w 0 (by decide+kernel) ?_
   |refine k_w 1 (by decide+kernel) ?_
   |refine k_w 2 (by decide+kernel) ?_
   |refine k_w 3 (by decide+kernel) ?_
   |refine b7q [] [0,1,3,7,0,16,48,112,15,511] [0,1,2,4,5,6,7] (tl:=[(3,[3,4,5,6]),(8,[3,4,5,6]),(9,[])]) D7 (by decide+kernel) rfl ?_
   |refine k_w 6 (by decide+kernel) ?_
   |refine G4 ?_
   |refine a2s ?_
   |refine And.intro (by repeat' (first|exact D|refine⟨?_,?_⟩|exact c7 rfl (y_c (a1j rfl D rfl) rfl)|exact c7 rfl (y_c a57 rfl)|exact c7 rfl (y_c (j2 rfl D rfl (F6 rfl) rfl (I7 rfl) U) rfl)|exact c7 rfl (o5 rfl D rfl (a1O rfl) rfl rfl))) ?_
  conv=>whnf
  exact⟨_,_,O,O,Z7 O (by first|exact .val _|exact B3 (cs:=[_,_]) ⟨.val _,.val _,D⟩)⟩
  all_goals first|exact Env.vb_ok O|exact D)
end
theorem c0B(σ:List b9):b8 CC 23 [] σ λr aa=>r= .ret (.val (.bool true))/\aa=σ:=by
 obtain⟨h0,h1,h2,h3,h4,h5,h6,h7,h8⟩:=d1k;have i0:d8W:=b8.anyw hCC (by repeat' (first|exact .val _|exact o6 [] _|exact o6 _ _|exact F8 _ _|exact C1 _ _|exact B6 _ _|exact H3 _ _|exact D|exact j4 (Src.pure _)|refine j4 ?_|refine B3 ?_|refine⟨?_,?_⟩)) (.val _) (h0 trivial trivial trivial);have i1:e0q:=b8.anyw hCC (by repeat' (first|exact .val _|exact o6 [] _|exact o6 _ _|exact F8 _ _|exact C1 _ _|exact B6 _ _|exact H3 _ _|exact D|exact j4 (Src.pure _)|refine j4 ?_|refine B3 ?_|refine⟨?_,?_⟩)) (.val _) (h1 trivial trivial trivial);have i2:d8M:=b8.anyw hCC (by repeat' (first|exact .val _|exact o6 [] _|exact o6 _ _|exact F8 _ _|exact C1 _ _|exact B6 _ _|exact H3 _ _|exact D|exact j4 (Src.pure _)|refine j4 ?_|refine B3 ?_|refine⟨?_,?_⟩)) (.val _) (h2 trivial trivial trivial);have i3:d9U:=b8.anyw hCC (by repeat' (first|exact .val _|exact o6 [] _|exact o6 _ _|exact F8 _ _|exact C1 _ _|exact B6 _ _|exact H3 _ _|exact D|exact j4 (Src.pure _)|refine j4 ?_|refine B3 ?_|refine⟨?_,?_⟩)) (by repeat' (first|exact .val _|exact o6 [] _|exact o6 _ _|exact F8 _ _|exact C1 _ _|exact B6 _ _|exact H3 _ _|exact D|exact j4 (Src.pure _)|refine j4 ?_|refine B3 ?_|refine⟨?_,?_⟩)) (h3 i2 i0 trivial);have i4:e0N:=b8.anyw hCC (by repeat' (first|exact .val _|exact o6 [] _|exact o6 _ _|exact F8 _ _|exact C1 _ _|exact B6 _ _|exact H3 _ _|exact D|exact j4 (Src.pure _)|refine j4 ?_|refine B3 ?_|refine⟨?_,?_⟩)) (by repeat' (first|exact .val _|exact o6 [] _|exact o6 _ _|exact F8 _ _|exact C1 _ _|exact B6 _ _|exact H3 _ _|exact D|exact j4 (Src.pure _)|refine j4 ?_|refine B3 ?_|refine⟨?_,?_⟩)) (h4 i1 i3 trivial);have i5:e0M:=b8.anyw hCC (by repeat' (first|exact .val _|exact o6 [] _|exact o6 _ _|exact F8 _ _|exact C1 _ _|exact B6 _ _|exact H3 _ _|exact D|exact j4 (Src.pure _)|refine j4 ?_|refine B3 ?_|refine⟨?_,?_⟩)) (by repeat' (first|exact .val _|exact o6 [] _|exact o6 _ _|exact F8 _ _|exact C1 _ _|exact B6 _ _|exact H3 _ _|exact D|exact j4 (Src.pure _)|refine j4 ?_|refine B3 ?_|refine⟨?_,?_⟩)) (h5 trivial trivial i4);have i6:e0m:=b8.anyw hCC (by repeat' (first|exact .val _|exact o6 [] _|exact o6 _ _|exact F8 _ _|exact C1 _ _|exact B6 _ _|exact H3 _ _|exact D|exact j4 (Src.pure _)|refine j4 ?_|refine B3 ?_|refine⟨?_,?_⟩)) (by repeat' (first|exact .val _|exact o6 [] _|exact o6 _ _|exact F8 _ _|exact C1 _ _|exact B6 _ _|exact H3 _ _|exact D|exact j4 (Src.pure _)|refine j4 ?_|refine B3 ?_|refine⟨?_,?_⟩)) (h6 trivial trivial trivial)
 have i7:e0H:=b8.anyw hCC (by repeat' (first|exact .val _|exact o6 [] _|exact o6 _ _|exact F8 _ _|exact C1 _ _|exact B6 _ _|exact H3 _ _|exact D|exact j4 (Src.pure _)|refine j4 ?_|refine B3 ?_|refine⟨?_,?_⟩)) (by repeat' (first|exact .val _|exact o6 [] _|exact o6 _ _|exact F8 _ _|exact C1 _ _|exact B6 _ _|exact H3 _ _|exact D|exact j4 (Src.pure _)|refine j4 ?_|refine B3 ?_|refine⟨?_,?_⟩)) (h7 trivial trivial trivial);exact b8.anyw (args:=[]) hCC trivial (.val _) (h8 i5 i6 i7) σ
theorem b8a(a b c d e f:Bool):(a&& (b&&c)&& !(d&& (e ||f)))= !(((!a || !b) || !c) ||(d&& (e ||f))):=by cases a<;>cases b<;>cases c<;>cases d<;>cases e<;>cases f<;>rfl
theorem b2t(x:Src)(d:De):([112,97,99,107,97,103,101,32]++x.pkg++[59,10])++a0n x.imports++b6J d=a33 x d:=by unfold a33 b6J;simp only[H4]
theorem c9m{x:Src}(h:a0i x)(hd:x.decls[i]?=some d):(([112,97,99,107,97,103,101,32]++x.pkg++[59,10])++a0n x.imports).length+(b6J d).length<=9223372036854775807:=by
 have:=b2Q h (h.dec d (n_2 hd));rw[<- b2t,n_8]at this;omega
theorem d0t(a b:Int):decide (a<b)= !decide (b<=a):=by by_cases h:b<=a<;>simp[h]<;>omega
theorem c8f(a b:Int):decide (a > b)= !decide (a<=b):=by by_cases h:a<=b<;>simp[h]<;>omega
theorem a3O(l:List Va)(nn:Bool)(σ:List b9):b8 CC 53 [.agg (O2 l nn)] σ λr aa=>r= .ret (.val (.bool (a2N l)))/\aa=σ:=by
 refine b8.anyw hCC pu_ pu_ (c9 (qO Tryz.func53 ?_)) σ;refine qD (F1 O D j3 j1 ?_);refine V b61 ?_;refine qC ?_ ?_<;>intro h1
 .have am:¬l.length<=16:=sm_ h1;refine c6 ?_;exact⟨_,rE1,_,_,O,O,o3 (by rw[a2N,a2c am];rfl)⟩
 .have am:l.length<=16:=sm_ h1;refine V b61 ?_;refine m0 hCC (α:=Nat) (λi=>[(1,.ptr 0 0),(10,(.list (l.map Va.cv) nn none)),(11,iv l.length),(12,iv i)]) (λ_=>[.box (O2 l nn)]) (λi=>i<=l.length/\a2N l=evB (prv l i) (l.drop i)) (λi=>l.length -i) 0 ⟨n_4 _,by rw[a2N,a2h am];rfl⟩ tu_ (aj:=[]) O A7 uz_ ?_;intro i ⟨hi,hr⟩;refine qk (qC ?_ ?_)<;> intro h2
  .have ah:(i:Int)<l.length:=H h2;obtain⟨y,hb⟩:=gx_ l i;obtain⟨p,hp⟩:=b4k (l:=l) (i:=i) J;have fq:0<i->l[i-1]?=some p:=λh=>(hp h).2;rw[b7k hb]at hr;refine V c22 ?_;refine d0W ?_;refine cW 30 ?_;refine d4N ?_;refine hY (c4 O c3U ⟨D,D⟩ (a1E y.n _) O) ?_;refine hY b5X ?_;refine hY A3 ?_;refine c75 ?_;refine L8 O O D O b1E ?_;refine hY U8 ?_;refine hY A3 ?_;refine c75 ?_;refine L8 O O D O b1E ?_;refine hY U8 ?_;refine hY A3 ?_;refine L8 O O D O D2 ?_;refine L8 O O D O b1E ?_;refine L8 O O D O a84 ?_;refine d9e ?_;refine d9g ?_;refine d5E ?_;refine a4p O O (λh=>h) O (λhk hg=>z8 O ⟨hk,hg⟩ ⟨hk,hg⟩ O O c3C c31 d1v (o7 (hp (by change (_:Bool)=_ at hk;simp at hk hg;omega)).1) O) ?_;refine d9w ?_;refine d5x ?_;refine hY U8 ?_;refine a2b ?_;refine qC ?_ ?_<;>intro h3
   .have u3:a0l (prv l i) y=false:=by rw[a0l,Z1 fq,b8a,<- d0t,<- c8f];rw[h3];rfl
    rw[u3,Bool.false_and]at hr;exact d4K
   .have u3:a0l (prv l i) y=true:=by rw[a0l,Z1 fq,b8a,<- d0t,<- c8f];rw[h3];rfl
    rw[u3,b6g]at hr;exact b0P
  .exact d5R
theorem b1x(l:List Va)(nn:Bool)(s:I)(hl:l.length<=1000000000)(σ:List b9):b8 CC 89 [.agg (O2 l nn),(sv s)] σ λr aa=>r= .ret (.tup [(iv ((Y2 l s).getD 0)),(.val (.bool ((Y2 l s).isSome)))])/\aa=σ:=by
 refine b8.anyw hCC pu_ pu_ (c9 (qO Tryz.func89 ?_)) σ;refine qD (F1 O D j3 j1 ?_);refine d9d ?_;intro i ⟨hi,hr⟩;refine qk (qC ?_ ?_)<;> intro h1
 .have ah:(i:Int)<l.length:=H h1;obtain⟨y,hb⟩:=gx_ l i;rw[b2X hb]at hr;refine V c22 ?_;refine d0W ?_;refine V a6L ?_;refine qC ?_ ?_<;>intro h2
  .have u2:y.n=s:=H h2;rw[W u2]at hr;exact d6b
  .have u2:¬y.n=s:=H h2;rw[G u2]at hr;exact b0P
 .have aH:l.length<=i:=sm_ h1;rw[U4 aH]at hr;exact d4r
theorem c37(x:Src)(h:a0i x)(i:Nat)(d:De)(hd:x.decls[i]?=some d)(σ:List b9):b8 CC 147 [.agg x.cells,iv i] σ λr aa=>r= .ret (.tup [(sv (a33 x d)),(iv (0))])/\aa=σ:=by
 refine b8.anyw hCC pu_ pu_ (c9 (qO Tryz.func147 ?_)) σ;refine qD (F1 O D j3 j1 ?_);refine V (c4 O Tryz.call177 ⟨D,D⟩ (b9A x h _) O) ?_;refine cC ?_ ?_<;>intro h1
 .exfalso;simp at h1
 .refine qk (qG D2 ?_);refine d4w ?_;refine qG (λhg=>a0a O hg O a9h b1M O) ?_;refine b0C ?_;refine cC ?_ ?_<;>intro h2
  .exfalso;have ah:=(n_3.1 hd).1;simp at h2;omega
  .have ah:=(n_3.1 hd).1;have gE:=h.decl;refine qk ?_;refine cW 11 ?_;refine hY b7K ?_;refine hY (c4 O Tryz.call178 ⟨D,D⟩ (c4M x h _) O) ?_;refine hY b7b ?_;refine hY b7Q ?_;refine hY A3 ?_;refine hY b5Q ?_;refine hY d0n ?_;refine hY (c4 O Tryz.call179 ⟨D,D⟩ (c4y d (h.dec d (n_2 hd)) _) O) ?_;refine hY (a1e O D D O O (c9m h hd)) ?_;refine hY a2Z ?_;refine hY a54 ?_;refine a2b ?_;refine c6 ?_;exact⟨_,r8 (rs:=[.tmp 4,.tmp 5]) (cs:=[_,_]) O a2w (n_5 O),_,_,O,O,(by rw[b2t];exact .tups ⟨.old (.val _),.old (.val _),D⟩)⟩
def a7u(L:List (I×Src))(e:En):Src×Int:=match L.find? (λx=>decide (x.1=e.pl))with
 |some x=>(x.2,e.ix)
 |none=>(Src.z,0)
theorem c4w{x:I×Src}(h:L[i]?=some x)(e:En):a7u (L.drop i) e=if x.1=e.pl then(x.2,e.ix)else a7u (L.drop (i+1)) e:=by
 obtain⟨ah,rfl⟩:=n_3.1 h;rw[U5 ah];unfold a7u;rw[b5N];by_cases hh:L[i].1=e.pl
 .simp [hh]
 .simp [hh]
theorem b5K(L:List (I×Src))(e:En)(hL:L.length<=1000)(σ:List b9):b8 CC 146 [.agg (Y4 (L.map Prod.fst) (L.map Prod.snd)),.agg e.cells] σ λr aa=>r= .ret (.tup [.agg (a7u L e).1.cells,(iv ((a7u L e).2))])/\aa=σ:=by
 refine b8.anyw hCC pu_ pu_ (c9 (qO Tryz.func146 ?_)) σ;refine z_6 ?_;refine qD (l8 O a4S O j1 ?_);refine V K6 ?_;refine m0 hCC (α:=Nat) (λi=>[(2,.ptr 0 0),(3,.ptr 1 0),(4,.ptr 2 0),(9,(iv ((L.map Prod.fst).length:Int))),(10,iv i)]) (λ_=>[.box (Y4 (L.map Prod.fst) (L.map Prod.snd)),.box e.cells,.box Src.z.cells]) (λi=>i<=L.length/\a7u L e=a7u (L.drop i) e) (λi=>L.length -i) 0 ⟨n_4 _,O⟩ tu_ (aj:=[]) O A7 uz_ ?_;intro i ⟨hi,hr⟩;refine qk (qC ?_ ?_)<;> intro h1
 .have ah:i<L.length:=sm_ h1;obtain⟨x,hb⟩:∃x,L[i]?=some x:=⟨L[i]'ah,Q⟩;rw[c4w hb]at hr;refine cW 8 ?_;refine hY b0g ?_;refine hY b3K ?_;refine hY A3 ?_;refine hY b5q ?_;refine hY a68 ?_;refine hY b7d ?_;refine hY U0 ?_;refine hY a6L ?_;refine a2b ?_;refine qC ?_ ?_<;>intro h2
  .have u2:x.1=e.pl:=H h2;rw[W u2]at hr;refine cF [] [0,1,2,3,4,5,6] (tl:=[(7,[5,6]),(8,[])]) ?_;refine chf O c7V ?_;refine chf O (c7 O c2Q) ?_;refine chf O U7 ?_;refine chf O (c7 O d2t) ?_;refine chf O (c7 O (Y7 O D O b4z t_8 (nb O))) ?_;refine chf O (c7 O a9b) ?_;refine chf O c1w ?_;refine d2K ?_;refine⟨⟨(by exact c7 O a9b),c2D,D⟩,?_⟩;refine b3J ?_;exact⟨_,r8 (rs:=[.cell 4 67,.tmp 5]) (cs:=[_,_]) O d3o (n_5 O),_,_,O,O,(by rw[hr];exact .tups ⟨.old (j4 (Src.pure _)).old,.old (.val _),D⟩)⟩
  .have u2:¬x.1=e.pl:=H h2;rw[G u2]at hr;exact b0P
 .have aH:L.length<=i:=sm_ h1;rw[U4 aH]at hr;refine l9 ?_;refine V d9Y ?_;refine c4s ?_;exact⟨_,r8 (rs:=[.cell 4 67,.tmp 5]) (cs:=[_,_]) O d3o (n_5 O),_,_,O,O,(by rw[hr];exact .tups ⟨.old (j4 (Src.pure Src.z)).old,.old (.val _),D⟩)⟩
theorem d7f(m:Nat):a7C .rem .u64 (m:Int) 128=some (.int .u64 ((m%128:Nat):Int)):=by
 have h:(m:Int).tmod 128=((m%128:Nat):Int):=by rw[b5x J];omega
 simp[a7C,h]
theorem d7M(m:Nat)(h:m<18446744073709551616):a7C .quo .u64 (m:Int) 128=some (.int .u64 ((m / 128:Nat):Int)):=by
 have h':(m:Int).tdiv 128=((m / 128:Nat):Int):=by rw[Int.tdiv_eq_ediv_of_nonneg J];omega
 simp[a7C,h',IntKind.wrap,IntKind.signed,IntKind.bits];omega
theorem d2j(m:Nat):CV.list [[CV.val (.int .u8 (IntKind.u8.wrap (((m%128:Nat):Int)+128)))]] true none= .list [bcv (UInt8.ofNat (m%128+128))] true none:=by
 have h:IntKind.u8.wrap (((m%128:Nat):Int)+128)=((m%128+128:Nat):Int):=by
  simp[IntKind.wrap,IntKind.signed,IntKind.bits];omega
 rw[h,bcv,d4y J]
theorem b8I(l:I)(nn:Bool)(n:Nat)(hl:l.length<=100000000000000)(hn:n<18446744073709551616):b8 CC 150 [(.list (l.map bcv) nn none),.val (.int .u64 (n:Int))] [.dead] λr τ=>F7 1 τ r (.ret (a4b (l++a2R n) 1)) [.dead,a1W tU8 (l++a2R n).length]:=by
 refine qO Tryz.func150 ?_;refine qD (b3X (l:=[]) (new:=l) (p:=0) O O D O (λM w v hr h=>(a20 O (by intro r hr;obtain⟨b,_,rfl⟩:=H9.1 hr;rfl) M w v hr h).any) a3C a8B b5H b12 O (.inl a3C) O O (by first|omega|(simp;omega)) ?_);refine Q6 (α:=I×Nat×Nat) (λx=>[(1,(.val (.int .u64 (x.2.1:Int)))),(5,(a4b x.1 x.2.2))]) (λx=>b2i x.2.2 (a1W tU8 x.1.length)) (λx=>l++a2R n=x.1++a2R x.2.1/\x.2.1<=n) (λx=>x.2.1) (l,n,1) ⟨O,n_6 _⟩ tu_ O ?_;intro⟨b,m,k⟩ _ ⟨hb,hmn⟩;dsimp only at hb hmn⊢;have am:b.length<=l.length+10:=by
  have h1:=D9 List.length hb;have h2:=b00 (n:=n) (k:=9) J;simp only[n_8]at h1;omega
 refine qk (qC ?_ ?_)<;> intro h1
 .have h128:¬m<128:=by have:=of_decide_eq_true h1;omega
  rw[a5A m,G h128]at hb;refine V (T9 O D O O O ((d7f m))) ?_;refine V (a2K O D O c3P b2e ((e0K (m%128)).trans (by rw[b9c J]))) ?_;refine V a1s ?_;refine V (B4 [[.val (.int .u8 (IntKind.u8.wrap (((m%128:Nat):Int)+128)))]] O ⟨D,D⟩ a3C a8B b12 O O O O O O O O O) ?_;refine qD (b3X (l:=b) (new:=[UInt8.ofNat (m%128+128)]) (p:=k) O D D O (b51 (d2j m)) a3C a8B b5H b12 O (.inl a3C) O (b1h _ _) (by first|omega|(simp;omega)) ?_);refine V (T9 O D O O O ((d7M m J))) ?_;exact⟨(b++[UInt8.ofNat (m%128+128)],m / 128,k+1),(show m / 128<m by omega),(show l++a2R n=(b++[UInt8.ofNat (m%128+128)])++a2R (m / 128)/\m / 128<=n from⟨by rw[hb];simp,J⟩),⟨r7,⟨D,(D9 (a4b _) (b7s k _))⟩,D⟩,(b5V _ _ _)⟩
 .have h128:m<128:=by have:=of_decide_eq_false h1;omega
  rw[a5A m,W h128]at hb;refine l9 ?_;refine V (a2K O D O c3P b2e ((e0K m).trans (by rw[b9c J]))) ?_;refine V (B4 [[.val (.int .u8 (m:Int))]] O ⟨D,D⟩ a3C a8B b12 O O O O O O O O O) ?_;refine qD (b3X (l:=b) (new:=[UInt8.ofNat m]) (p:=k) O D D O (b51 (d0F h128)) a3C a8B b5H b12 O (.inl a3C) O (b1h _ _) (by first|omega|(simp;omega)) ?_);refine c6 ?_;exact⟨_,rE1,(by rw[hb];exact c8x)⟩
theorem b9b(l:I)(nn:Bool)(n:Nat)(hl:l.length<=100000000000000)(hn:n<18446744073709551616)(σ:List b9):b8 CC 150 [(.list (l.map bcv) nn none),.val (.int .u64 (n:Int))] σ λr τ=>∃_:Unit,r= .ret (a4b (l++a2R n) (σ.length+1))/\τ=σ++[.dead,a1W tU8 (l++a2R n).length]/\True:=
 a6F (α:=Unit) hCC (λa ha=>by simp at ha;rcases ha with rfl|rfl;exact a3z _ _;exact .val _) (res:=λ_=>.ret (a4b (l++a2R n) 1)) (res':=λ_ m=>.ret (a4b (l++a2R n) (m+1))) (S:=λ_=>[.dead,a1W tU8 (l++a2R n).length]) (S':=λ_ _=>[.dead,a1W tU8 (l++a2R n).length]) (P:=λ_=>True)
  (a4V (N3 hCC ((b8I l nn n hl hn).mono λr τ h=>⟨_,_,h,(),O,O,D⟩))) (λ_ _=>O) (λ_ m i x h=>by
   rcases i with _|_|i
   .injection h with h;subst h;exact⟨_,O,.dead⟩
   .injection h with h;subst h;exact⟨_,O,c3r _ _⟩
   .cases h) (λ_ m=>.ret (c85 O)) σ
theorem a1A(l:I)(nn:Bool)(s:I)(hl:l.length<=100000000000)(hs:s.length<=100000000000)(σ:List b9):b8 CC 98 [(.list (l.map bcv) nn none),(sv s)] σ λr aa=>r= .ret (.list ((T5 l s).map bcv) (gnn (T5 l s).length) none)/\aa=σ:=by
 refine b8.anyw hCC pu_ pu_ (c9 (qO Tryz.func98 ?_)) σ;refine V T7 ?_;refine V (a2K O D O b7r c3P (b3y J)) ?_;refine qD (c5 O Tryz.call150 j7 (b9b l nn s.length J J _) O ?_);have hpu:=b00 (n:=s.length) (k:=9) J;intro _ _;refine qD (b3X (l:=(l++a2R s.length)) (new:=s) (p:=1) O D D O (c7u O) a3C a8B b5H b12 O (.inr t_5) O O (by simp only[n_8];omega) ?_);refine c6 ?_;exact⟨_,rE1,_,_,O,O,(by exact c3o (l:=l++a2R s.length++s) (k:=2) O)⟩
def a3P(fl:List Fi)(pkg:I)(L:List (I×Src))(o:I):I:=L.foldl (λo x=>if x.2.pkg=pkg then T5 (T5 o x.1) ((if B1 fl=0 then o8 fl x.1 else none).getD [])else o) o
theorem c5c{x:I×Src}(h:L[i]?=some x)(o:I):a3P fl pkg (L.drop i) o=a3P fl pkg (L.drop (i+1)) (if x.2.pkg=pkg then T5 (T5 o x.1) ((if B1 fl=0 then o8 fl x.1 else none).getD [])else o):=by
 obtain⟨ah,rfl⟩:=n_3.1 h;rw[U5 ah];rfl
theorem a5u{l:I}(h:s.length<=1000000000):(T5 l s).length<=l.length+s.length+10:=by
 have:=b00 (n:=s.length) (k:=9) J;unfold T5;simp only[n_8];omega
def c8X(L:List (I×Src))(k:Int)(p o:I):Prop:=¬(fiE L k p o).ct=0->¬1< (fiE L k p o).ct->∃(s:Src) (d:De) (i:Nat),a7u L (fiE L k p o)=(s,(i:Int))/\a0i s/\s.decls[i]?=some d
noncomputable def b1w(L:List (I×Src))(k:Int)(p o:I):I:=if(fiE L k p o).ct=0 then [45]else if 1< (fiE L k p o).ct then [63]else
 match(a7u L (fiE L k p o)).1.decls[(a7u L (fiE L k p o)).2.toNat]? with
 |some d=>[61]++a33 (a7u L (fiE L k p o)).1 d
 |none=>[61]
theorem a8O(fl:List Fi)(nn:Bool)(L:List (I×Src))(pkg:I)(hl:fl.length<=1000000)(hL:L.length<=1000)(hP:∀x∈L,x.1.length<=1000)(hbl:∀q b,o8 fl q=some b->b.length<=100000)(σ:List b9):b8 CC 96 [.agg (A9 fl nn),.agg (Y4 (L.map Prod.fst) (L.map Prod.snd)),(sv pkg)] σ λr aa=>r= .ret (sv ([61]++a3P fl pkg L []))/\aa=σ:=by
 refine an_ Tryz.func96 ?_;refine b5k ?_;refine d0k ?_;refine a7B ?_;refine cY a54 ?_;refine a4f ?_;refine z_0 ?_;refine cY (j2 O D O c2b O c26 U) ?_;refine cY c2Q ?_;refine cY c2S ?_;refine b8w ?_;refine m0 hCC (α:=Nat×I) (λa=>[(2,(sv pkg)),(3,.ptr 0 0),(4,.ptr 1 0),(7,(.list (a.2.map bcv) (gnn a.2.length) none)),(13,(.list ((L.map Prod.snd).map Src.cv) (gnn (L.map Prod.snd).length) none)),(14,(iv ((L.map Prod.snd).length:Int))),(15,iv a.1)]) (λ_=>[.box (A9 fl nn),.box (Y4 (L.map Prod.fst) (L.map Prod.snd))]) (λa=>a.1<=L.length/\a3P fl pkg L []=a3P fl pkg (L.drop a.1) a.2/\a.2.length<=200000*a.1) (λa=>L.length -a.1) (0,[]) ⟨n_4 _,O,n_6 _⟩ tu_ (aj:=[]) O A7 uz_ ?_;rintro⟨i,o⟩ ⟨hi,hr,ho⟩;dsimp only at hi hr ho⊢;refine z_0 ?_;refine b5I ?_;refine cC ?_ ?_<;>intro h1
 .have ah:i<L.length:=sm_ h1;obtain⟨x,hb⟩:∃x,L[i]?=some x:=⟨L[i]'ah,Q⟩;rw[c5c hb]at hr;have bv:=hP x (n_2 hb);have hda:((if B1 fl=0 then o8 fl x.1 else none).getD []).length<=100000:=by
   split
   .cases hdf:o8 fl x.1 with
    |none=>exact n_4 _
    |some b=>exact hbl _ _ hdf
   .exact n_4 _
  refine b7D ?_;refine z_3 ?_;refine cY d2t ?_;refine cY (Y7 O D O b4z t_8 (nb O)) ?_;refine cD (l8 O a4S O j1 ?_);refine cY a2Z ?_;refine cD (i9 O D D O j3 t_8 j1 O O (nb O) ?_);refine a7B ?_;refine cY b5P ?_;refine cY U0 ?_;refine cY A3 ?_;refine cY a6L ?_;refine A6 ?_;refine cC ?_ ?_<;>intro h2
  .have u2:x.2.pkg=pkg:=H h2;rw[W u2]at hr;have bQ:=a5u (l:=o) (s:=x.1) J;have cS:=a5u (l:=T5 o x.1) (s:=((if B1 fl=0 then o8 fl x.1 else none).getD [])) J;refine J2 ?_;refine cW 12 ?_;refine hY a2B ?_;refine hY b0g ?_;refine hY b3K ?_;refine hY A3 ?_;refine hY b5q ?_;refine hY a68 ?_;refine hY (c4 O c6z j7 (a8p fl nn x.1 hl _) O) ?_;refine hY A3 ?_;refine hY a08 ?_;refine hY a08 ?_;refine hY a2Z ?_;refine hY a2Z ?_;refine a1m (A6 ?_);refine a8t ?_;refine cY b0g ?_;refine cY b3K ?_;refine cY A3 ?_;refine cY b5q ?_;refine cY a68 ?_;refine ye O c1f j7 (a1A o _ x.1 J J _) O ?_;refine cY A3 ?_;refine ye O c1f j7 (a1A (T5 o x.1) _ ((if B1 fl=0 then o8 fl x.1 else none).getD []) J J _) O ?_;refine a24 ?_;refine a8P ?_;exact⟨(i+1,T5 (T5 o x.1) ((if B1 fl=0 then o8 fl x.1 else none).getD [])),_,⟨do_,do_,hr,do_⟩,tu_,O⟩
  .have u2:¬x.2.pkg=pkg:=H h2;rw[G u2]at hr;refine D8 ?_;refine a8P ?_;exact⟨(i+1,o),_,⟨do_,do_,hr,do_⟩,tu_,O⟩
 .have aH:L.length<=i:=sm_ h1;rw[U4 aH]at hr;refine l9 ?_;refine z_3 ?_;refine cY c6f ?_;refine cY (a1e O O D O O N4) ?_;refine b1l ?_;exact⟨_,rE1,_,_,O,O,I2 (D9 str c7M)⟩
theorem a3Y(L:List (I×Src))(k:Int)(p o:I)(hL:L.length<=1000)(hd:∀x∈L,x.2.decls.length<=100000)(cy:c8X L k p o)(σ:List b9):b8 CC 94 [.agg (Y4 (L.map Prod.fst) (L.map Prod.snd)),iv k,(sv p),(sv o)] σ λr aa=>r= .ret (sv (b1w L k p o))/\aa=σ:=by
 refine b8.anyw hCC pu_ pu_ (c9 (qO Tryz.func94 ?_)) σ;refine qD (F1 O D j3 j1 ?_);refine V (c4 O Tryz.call62 a36 (a8W L k p o hL hd _) O) ?_;refine z_7 ?_;refine qC ?_ ?_<;>intro h1
 .have u1:(fiE L k p o).ct=0:=H h1;refine c6 ?_;exact⟨_,a1w O D O,_,_,O,O,I2 (D9 str (show([45]:I)=b1w L k p o by unfold b1w;rw[W u1]))⟩
 .have u1:¬(fiE L k p o).ct=0:=H h1;refine qC ?_ ?_<;>intro h2
  .have u2:1< (fiE L k p o).ct:=H h2;refine c6 ?_;exact⟨_,a1w O D O,_,_,O,O,I2 (D9 str (show([63]:I)=b1w L k p o by unfold b1w;rw[G u1,W u2]))⟩
  .have u2:¬1< (fiE L k p o).ct:=sm_ h2;obtain⟨s,d,i,hD,hs,hdi⟩:=cy u1 u2;have hDI:∀σ,b8 CC 146 [.agg (Y4 (L.map Prod.fst) (L.map Prod.snd)),.agg (fiE L k p o).cells] σ λr aa=>r= .ret (.tup [.agg s.cells,iv i])/\aa=σ:=λσ=>by
    have h:=b5K L (fiE L k p o) hL σ;rw[hD]at h;exact h
   refine V (c4 O Tryz.call146 j7 (hDI _) O) ?_;refine c4t ?_;refine V (c4 O Tryz.call147 j7 (c37 s hs i d hdi _) O) ?_;refine V (a1e O O D O O (by have:=b2Q hs (hs.dec d (n_2 hdi));simp;omega)) ?_;refine c6 ?_;exact⟨_,a1w O D O,_,_,O,O,I2 (D9 str (by unfold b1w;rw[G u1,G u2,hD];dsimp only;rw[a7d,hdi]))⟩
theorem d1w(l:List I)(nn:Bool)(u:I)(hl:l.length<=1000000):b8 CC 149 [(.list (l.map scv) nn none),(sv u)] [] λr aa=>r= .ret (.val (.bool (decide (u∈l))))/\aa=[]:=by
 refine c9 (qO Tryz.func149 ?_);refine e0l ?_;intro i ⟨hi,hd⟩;refine qk (qC ?_ ?_)<;> intro h1
 .have ah:i<l.length:=sm_ h1;obtain⟨w,hb⟩:∃w,l[i]?=some w:=⟨l[i]'ah,Q⟩;refine b3F ?_;refine qC ?_ ?_<;>intro h2
  .have hw:w=u:=H h2;exact d4a
  .have hw:¬w=u:=H h2;exact d5a
 .have aH:l.length<=i:=sm_ h1;refine W5 ?_;exact⟨_,rE1,_,_,O,O,o3 (show false=decide (u∈l) by rw[hd,U4 aH];simp)⟩
inductive a6r(L:List (I×Src))(pkg:I):I->Prop where
 |base:a6r L pkg pkg
 |step {n:I} {x:I×Src} {s:I}:a6r L pkg n->x∈L->x.2.pkg=n->s∈x.2.imports->a6r L pkg s
def b0L(L:List (I×Src)):List I:=L.flatMap λx=>x.2.imports
theorem c09(h:a6r L pkg n):n∈pkg::b0L L:=by
 cases h with
 |base=>simp
 |step _ hf _ hs=>exact X6 _ (c2P.2 ⟨_,hf,hs⟩)
structure NmL(L:List (I×Src))(pkg:I)(N:List I):Prop where
 nd:N.Nodup
 rch:∀n∈N,a6r L pkg n
 pk:pkg∈N
theorem NmL.len(h:NmL L pkg N):N.length<=1+(b0L L).length:=by
 have:=List.Nodup.length_le_of_subset h.nd (λn hn=>c09 (h.rch n hn));simpa[b5w]using this
theorem NmL.snoc{x:I×Src}(h:NmL L pkg N)(hn:x.2.pkg∈N)(hf:x∈L)(hs:s∈x.2.imports)(hsN:s∉N):NmL L pkg (N++[s]) where
 nd:=a6x h.nd hsN
 rch:=λm hm=>by
  rcases W0.1 hm with hm|hm
  .exact h.rch m hm
  .simp at hm;subst hm;exact .step (h.rch _ hn) hf O hs
 pk:=b70 _ h.pk
theorem b65(h:NmL L pkg N)(hc:∀n∈N,∀x∈L,x.2.pkg=n->∀s∈x.2.imports,s∈N)(n:I):n∈N↔a6r L pkg n:=
 ⟨h.rch n,λhr=>by
  induction hr with
  |base=>exact h.pk
  |step _ hf hp hs ih=>exact hc _ ih _ hf hp _ hs⟩
def swk(B:List I)(i k:Nat)(x:I):List I:=B.take k++x::((B.take i).drop k++B.drop (i+1))
theorem b7O{x:I}(h:B[i]?=some x):swk B i i x=B:=by
 obtain⟨ah,rfl⟩:=n_3.1 h;rw[swk,U4 N4,b4Y,<- U5 ah,b25]
theorem a9W{y:I}(h:B[j]?=some y)(hj:j+1<=i):B.take (j+1)=B.take j++[y]/\(B.take i).drop j=y::(B.take i).drop (j+1):=by
 obtain⟨ah,rfl⟩:=n_3.1 h;refine⟨by rw[a8n,a1C ah];rfl,?_⟩;rw[U5 a7e,List.getElem_take]
theorem d1a{x:I}(hk:k<=i)(hi:i<B.length):(swk B i k x).length=B.length:=by
 simp only[swk,n_8,n_9,b6k,b0N];omega
theorem c0o{x:I}(hk:k<=i)(hi:i<B.length):(swk B i k x)[k]?=some x:=by
 rw[swk,a3i a7e,b0N,show k-min k B.length=0 by omega];rfl
theorem b39{x y:I}(hj:j<k)(h:B[j]?=some y):(swk B i k x)[j]?=some y:=by
 have:=(n_3.1 h).1;rw[swk,X1 a7e,a2L,W hj,h]
theorem c7d{x y:I}(h:B[j]?=some y)(hj:j+1<=i):((swk B i (j+1) x).set (j+1) y).set j x=swk B i j x:=by
 obtain⟨h1,h2⟩:=a9W h hj;have ah:=(n_3.1 h).1;have hl:(B.take j).length=j:=by rw[b0N];omega
 unfold swk;rw[h1,h2,H4,b20 _ _ (by rw[hl];omega),hl,show j+1-j=1 by omega,b20 _ _ (by rw[hl];exact n_6 _),hl,Nat.sub_self];rfl
theorem d1S{x:I}(hB:(B.take i).Pairwise (·<=·))(hg:∀z∈(B.take i).drop k,x<=z)(hx:k=0\/∃y,B[k-1]?=some y/\y<=x)(hk:k<=i):(B.take k++x::(B.take i).drop k).Pairwise (·<=·):=by
 have he:B.take i=B.take k++(B.take i).drop k:=by
  have:=b25 k (B.take i);rw[List.take_take,Nat.min_eq_left hk]at this;exact this.symm
 rw[he,List.pairwise_append]at hB;obtain⟨p1,p2,p3⟩:=hB;refine List.pairwise_append.2 ⟨p1,a6m.2 ⟨hg,p2⟩,λa ha b hb=>?_⟩
 rcases J6.1 hb with rfl|hb
 .rcases hx with rfl|⟨y,hy,hyx⟩
  .simp at ha
  .by_cases hk0:k=0
   .subst hk0;simp at ha
   .obtain ⟨k,rfl⟩:∃k',k=k'+1:=⟨k-1,J⟩;rw[Nat.add_sub_cancel]at hy;rw[(a9W hy hk).1,List.pairwise_append]at p1;rw[(a9W hy hk).1]at ha
    rcases W0.1 ha with ha|ha
    .exact List.le_trans (p1.2.2 a ha y Q) hyx
    .simp at ha;subst ha;exact hyx
 .exact p3 a ha b hb
theorem d6Z{A:List I}(hp:A.Perm N)(hs:A.Pairwise (·<=·)):A=b2m N:=by
 have tr:∀(a b c:I),decide (a<=b)=true->decide (b<=c)=true->decide (a<=c)=true:=λa b c h1 h2=>by
  simp only[a1z]at h1 h2⊢;exact List.le_trans h1 h2
 have to:∀(a b:I),(decide (a<=b) ||decide (b<=a))=true:=λa b=>by
  simp only[b2p,a1z];exact List.le_total a b
 refine List.Perm.eq_of_pairwise (le:=λa b=>decide (a<=b)=true) (λa b _ _ h1 h2=>?_) (hs.imp λh=>H h) (c17 tr to N) (hp.trans (b0t N _).symm);simp only[a1z]at h1 h2;exact c0Q h1 h2
theorem c5P{x:I}(h:B[i]?=some x)(hk:k<=i):(swk B i k x).Perm B:=by
 have e1:B=B.take k++((B.take i).drop k++x::B.drop (i+1)):=by
  have h1:=b7O h;have h2:=b25 k (B.take i);rw[List.take_take,Nat.min_eq_left hk]at h2;rw[swk,U4 a7e,b4Y]at h1;rw[<- H4,h2,h1]
 refine List.Perm.trans ?_ (List.Perm.of_eq e1.symm);exact List.Perm.append_left _ List.perm_middle.symm
theorem d0x{x:I}(hk:k<=i)(hi:i<B.length):(swk B i k x).take (i+1)=B.take k++x::(B.take i).drop k:=by
 have hl:(B.take k++x::(B.take i).drop k).length=i+1:=by simp only[n_8,n_9,b6k,b0N];omega
 rw[swk,show B.take k++x::((B.take i).drop k++B.drop (i+1))=(B.take k++x::(B.take i).drop k)++B.drop (i+1) by simp,d0p J,a1i J]
theorem a0K:(tst [b] Je v Jg)[1+Je.length]?=some v:=by
 rw[tst,a3i N4];simp[b5w]
theorem b9H:(tst [b] Je v Jg).set (1+Je.length) v'=tst [b] Je v' Jg:=by
 rw[tst,b20 _ _ N4];simp[b5w,tst]
theorem c86:(tst [b] Je v Jg).set (1+Je.length) .dead++[v']=tst [b] (Je++.dead::Jg) v' []:=by
 rw[b9H];simp[tst]
theorem d8i:(tst [b] Je v Jg).length=1+(Je++b9.dead::Jg).length:=by
 simp[tst];omega
theorem d1m{s:Nat}{Y:List (List CV)}{p:Nat}{c:List CV}(h:(tst [b] Je (.vec s Y) Jg)[p]?=some (.box c)):(tst [b] (Je++.dead::Jg) v' [])[p]?=some (.box c):=by
 have hp:1+Je.length≠p:=λe=>by rw[<- e,a0K]at h;cases h
 rw[<- c86 (v:=.vec s Y),X1 (by rw[List.length_set];exact(n_3.1 h).1),a5I hp];exact h
theorem d6J(a:b9):(tst [b] Je v (Jg++[a]))[(tst [b] Je v Jg).length]?=some a:=by
 have:tst [b] Je v (Jg++[a])=tst [b] Je v Jg++[a]:=by simp[tst]
 rw[this,a3i (n_6 _),Nat.sub_self];rfl
theorem c9u(s:I)(hk:σ[k]?=some (.vec 1 (N.map scv)))(hl:N.length<=1000000):b8 CC 149 [.vec k 0 N.length,sv s] σ λr aa=>r= .ret (.val (.bool (decide (s∈N))))/\aa=σ:=by
 have h:=d1w N true s J;refine b1W (len:=N.length) (Y:=N.map scv) hCC (λa ha=>by simp at ha;subst ha;exact .val _) (λr hr c hc=>?_) Q hk ?_
 .obtain ⟨x,_,rfl⟩:=H9.1 hr;simp[scv]at hc;subst hc;exact .val _
 .rw [show((N.map scv).drop 0).take N.length=N.map scv from by rw[b3S,a1i Q]];exact h
theorem c2j(l:List I)(i:Nat)(s:I):(l.map scv).set i [sv s]=(l.set i s).map scv:=by rw[List.map_set];rfl
theorem c90{x:I×Src}(h:x∈L):x.2.imports.length<=(b0L L).length:=by
 unfold b0L
 induction L with
 |nil=>cases h
 |cons y l ih=>
  rw[c1J,n_8]
  rcases J6.1 h with rfl|h
  .omega
  .have:=ih h;omega
theorem c45(L:List (I×Src))(pkg:I)(hL:L.length<=1000)(hA:(b0L L).length<=100000):b8 CC 97 [.agg (Y4 (L.map Prod.fst) (L.map Prod.snd)),(sv pkg)] [] λr τ=>∃N:List I,a03 0 τ r (.ret (.list ((b2m N).map scv) true none))/\(N.Nodup/\∀n,n∈N↔a6r L pkg n):=by
 refine qO Tryz.func97 ?_;refine qD (F1 O D j3 j1 ?_);refine qD (d3x O D O O t_2 t_0 t_4 O ?_);refine Q6 (α:=Nat×List I×List b9×List b9) (λx=>[(2,.ptr 0 0),(5,.vec (1+x.2.2.1.length) 0 x.2.1.length),(6,iv x.1)]) (λx=>tst [.box (Y4 (L.map Prod.fst) (L.map Prod.snd))] x.2.2.1 (.vec 1 (x.2.1.map scv)) x.2.2.2) (λx=>NmL L pkg x.2.1/\x.1<=x.2.1.length/\∀n∈x.2.1.take x.1,∀y∈L,y.2.pkg=n->∀s∈y.2.imports,s∈x.2.1) (λx=>1+(b0L L).length -x.1) (0,[pkg],[],[]) ⟨⟨Q,λn hn=>by simp at hn;subst hn;exact .base,Q⟩,n_4 _,λn hn=>by simp at hn⟩ tu_ O ?_;intro⟨i,N,Je,Jg⟩ _ ⟨hN,hi,hc⟩;dsimp only at hN hi hc⊢;have hNl:=hN.len;refine qk (V (a0M O D O t_2 O O) ?_);refine qC ?_ ?_<;>intro h1
 .have ah:i<N.length:=sm_ h1;obtain⟨n,gn⟩:∃n,N[i]?=some n:=⟨N[i]'ah,Q⟩;refine V c2S ?_;refine Q6 (α:=Nat×List I×List b9×List b9) (λx=>[(2,.ptr 0 0),(5,.vec (1+x.2.2.1.length) 0 x.2.1.length),(6,iv i),(22,(.list ((L.map Prod.snd).map Src.cv) (gnn (L.map Prod.snd).length) none)),(23,(iv ((L.map Prod.snd).length:Int))),(24,iv x.1)]) (λx=>tst [.box (Y4 (L.map Prod.fst) (L.map Prod.snd))] x.2.2.1 (.vec 1 (x.2.1.map scv)) x.2.2.2) (λx=>NmL L pkg x.2.1/\(∃t,x.2.1=N++t)/\x.1<=L.length/\∀y∈L.take x.1,y.2.pkg=n->∀s∈y.2.imports,s∈x.2.1) (λx=>L.length -x.1) (0,N,Je,Jg) ⟨hN,⟨[],Q⟩,n_4 _,λy hy=>by simp at hy⟩ tu_ O ?_;intro⟨q,N1,G1,H1⟩ _ ⟨hN1,fk,hq,di⟩;dsimp only at hN1 fk hq di⊢;have hNl1:=hN1.len;refine qs 2 (qC ?_ ?_)<;> intro h2
  .have hlq:q<L.length:=sm_ h2;obtain⟨y,hy⟩:∃y,L[q]?=some y:=⟨L[q]'hlq,Q⟩;have fx:=n_2 hy;have hyi:=c90 fx;refine J2 ?_;refine qs 1 (V (z8 O D D O O b7U t_8 J (o7 (c2I hy)) O) ?_);refine qD (l8 O a4S O j1 ?_);refine qD (i9 O D D O j3 t_8 j1 List.getElem?_concat_length O (nb O) ?_);refine z_0 ?_;refine cY (j2 O D O a79 O a2E U) ?_;refine V (o5 O D O b7J (by rw[b8U Q]) O) ?_;refine V K6 ?_;refine qk ?_;refine Q6 (α:=Nat×List I×List b9×List b9) (λx=>[(2,.ptr 0 0),(5,.vec (1+x.2.2.1.length) 0 x.2.1.length),(6,iv i),(8,.ptr (tst [.box (Y4 (L.map Prod.fst) (L.map Prod.snd))] G1 (.vec 1 (N1.map scv)) H1).length 0),(22,(.list ((L.map Prod.snd).map Src.cv) (gnn (L.map Prod.snd).length) none)),(23,(iv ((L.map Prod.snd).length:Int))),(24,iv q),(29,(.list (y.2.imports.map scv) (gnn y.2.imports.length) none)),(30,iv y.2.imports.length),(31,iv x.1)]) (λx=>tst [.box (Y4 (L.map Prod.fst) (L.map Prod.snd))] x.2.2.1 (.vec 1 (x.2.1.map scv)) x.2.2.2) (λx=>NmL L pkg x.2.1/\(∃t,x.2.1=N1++t)/\x.1<=y.2.imports.length/\(∀s∈y.2.imports.take x.1,y.2.pkg=n->s∈x.2.1)/\(tst [.box (Y4 (L.map Prod.fst) (L.map Prod.snd))] x.2.2.1 (.vec 1 (x.2.1.map scv)) x.2.2.2)[(tst [.box (Y4 (L.map Prod.fst) (L.map Prod.snd))] G1 (.vec 1 (N1.map scv)) H1).length]?=some (.box y.2.cells)) (λx=>y.2.imports.length -x.1) (0,N1,G1,H1++[.box y.2.cells]) ⟨hN1,⟨[],Q⟩,n_4 _,λs hs=>by simp at hs,d6J _⟩ tu_ (d3s _ _) ?_;intro⟨r,N2,G2,H2⟩ _ ⟨hN2,iU,hr,dT,hbx⟩;dsimp only at hN2 iU hr dT hbx⊢;have hNl2:=hN2.len;refine qk (qC ?_ ?_)<;> intro h3
   .have gP:r<y.2.imports.length:=sm_ h3;obtain⟨s,hs⟩:∃s,y.2.imports[r]?=some s:=⟨y.2.imports[r]'gP,Q⟩;have hsm:=n_2 hs;have htk:y.2.imports.take (r+1)=y.2.imports.take r++[s]:=by rw[a8n,hs];rfl
    obtain⟨t1,ht1⟩:=fk;obtain⟨t2,ht2⟩:=iU;have gn2:N2[i]?=some n:=by rw[ht2,ht1,H4,X1 ah];exact gn
    have hiN2:i<N2.length:=(n_3.1 gn2).1;refine V (z8 O D D O O t_2 t_0 J (o7 hs) O) ?_;refine cW 13 ?_;refine hY b5P ?_;refine hY (o5 O D O a2J hbx O) ?_;refine a5N ?_;refine hY (T3 O D D O O t_2 t_0 a0K J J) ?_;refine hY (a1K O D O a2J a0K (o7 (by rw[P2];exact gn2)) O) ?_;refine hY a6L ?_;refine b2w ?_;refine L8 O O D O (λhg=>c4 O Tryz.call149 ⟨hg,hg,D⟩ (c9u s a0K J) O) ?_;refine L8 O O D O a4a ?_;refine b2L ?_;refine qC ?_ ?_<;>intro h4
    .have fC:y.2.pkg=n/\s∉N2:=H h4;have fe:=hN2.snoc (fC.1 ▸n_2 gn2) fx hsm fC.2;have hsnl:=fe.len;rw[n_8,b6I]at hsnl;refine V (B4 [scv s] O ⟨D,D⟩ t_2 t_0 t_4 O O O O O O O O O) ?_;refine qD (a2z ((N2++[s]).map scv) (N2++[s]).length O D D O q_3 t_2 t_0 a5W t_4 O a0K G0 Q a5O G0 Q Q ?_);refine V r6 ?_;exact⟨(r+1,N2++[s],G2++.dead::H2,[]),do_,⟨fe,⟨t2++[s],by rw[ht2,H4]⟩,do_,λz hz hp=>by
      dsimp only at hz⊢;rw[htk]at hz
      rcases W0.1 hz with hz|hz
      .exact b70 _ (dT z hz hp)
      .simp at hz;subst hz;simp,d1m hbx⟩,⟨r7,⟨D,(D9 (λk=>CV.vec k 0 (N2++[s]).length) d8i)⟩,r7,r7,r7,r7,r7,r7,r7,r7,D⟩,c86⟩
    .have fC:y.2.pkg=n->s∈N2:=H h4;refine V r6 ?_;exact⟨(r+1,N2,G2,H2),do_,⟨hN2,⟨t2,ht2⟩,do_,λz hz hp=>by
      dsimp only at hz⊢;rw[htk]at hz
      rcases W0.1 hz with hz|hz
      .exact dT z hz hp
      .simp at hz;subst hz;exact fC hp,hbx⟩,tu_,O⟩
   .have hre:r=y.2.imports.length:=sm_ h3;obtain⟨t1,ht1⟩:=fk;obtain⟨t2,ht2⟩:=iU;have htk:L.take (q+1)=L.take q++[y]:=by rw[a8n,hy];rfl
    refine l9 ?_;refine b1G ?_;exact⟨(q+1,N2,G2,H2),do_,⟨hN2,⟨t1++t2,by rw[ht2,ht1,H4]⟩,do_,λz hz hp s hs=>by
     dsimp only at hz⊢;rw[htk]at hz
     rcases W0.1 hz with hz|hz
     .rw [ht2];exact b70 _ (di z hz hp s hs)
     .simp at hz;subst hz;exact dT s (by rw[hre,a1i (n_6 _)];exact hs) hp⟩,tu_,O⟩
  .have hqe:q=L.length:=sm_ h2;obtain⟨t1,ht1⟩:=fk;have htk:N1.take (i+1)=N.take i++[n]:=by
    rw[ht1,d0p J,a8n,gn];rfl
   refine b5Z ?_;exact⟨(i+1,N1,G1,H1),do_,⟨hN1,by dsimp only;rw[ht1,n_8];omega,λz hz f hf hp s hs=>by
    dsimp only at hz⊢;rw[htk]at hz
    rcases W0.1 hz with hz|hz
    .rw [ht1];exact b70 _ (hc z hz f hf hp s hs)
    .simp at hz;subst hz;exact di f (by rw[hqe,a1i (n_6 _)];exact hf) hp s hs⟩,tu_,O⟩
 .have hie:i=N.length:=sm_ h1;have dw:=b65 hN (λn hn=>hc n (by rw[hie,a1i (n_6 _)];exact hn));refine l9 ?_;refine V (a0M O D O t_2 O O) ?_;refine Q6 (α:=Nat×List I) (λx=>[(5,.vec (1+Je.length) 0 N.length),(55,iv N.length),(56,iv x.1)]) (λx=>tst [.box (Y4 (L.map Prod.fst) (L.map Prod.snd))] Je (.vec 1 (x.2.map scv)) Jg) (λx=>x.1<=N.length/\x.2.Perm N/\(x.2.take x.1).Pairwise (·<=·)) (λx=>N.length -x.1) (0,N) ⟨n_4 _,List.Perm.refl _,Q⟩ tu_ O ?_;intro⟨m,B⟩ _ ⟨hm,hP,hS⟩;dsimp only at hm hP hS⊢;have hBl:=hP.length_eq;refine qk (qC ?_ ?_)<;> intro h5
  .have fF:m<B.length:=sm_ h5;obtain⟨x0,hx0⟩:∃x,B[m]?=some x:=⟨B[m]'fF,Q⟩;refine Q6 (α:=Nat) (λk=>[(5,.vec (1+Je.length) 0 N.length),(12,iv k),(55,iv N.length),(56,iv m)]) (λk=>tst [.box (Y4 (L.map Prod.fst) (L.map Prod.snd))] Je (.vec 1 ((swk B m k x0).map scv)) Jg) (λk=>k<=m/\∀z∈(B.take m).drop k,x0<=z) (λk=>k) m ⟨n_6 _,λz hz=>by rw[U4 a7e]at hz;cases hz⟩ tu_ (by rw[b7O hx0]) ?_;intro k _ ⟨hkm,hgt⟩;have ez:=d1a (x:=x0) hkm fF;obtain⟨y,hy⟩:∃y,0<k->B[k-1]?=some y:=⟨B.getD (k-1) [],λh=>by rw[a9A,a1C J];rfl⟩;refine qk ?_;refine cW 14 ?_;refine b6b ?_;refine b2w ?_;refine L8 O O D O e0o ?_;refine L8 O O D O (λhg=>a1K O hg O a2J a0K (o7 (by rw[P2];exact c0o hkm fF)) O) ?_;refine d9F ?_;refine L8 O O D O d0O ?_;refine L8 O O D O e0o ?_;refine L8 O O D O (λhg=>a1K O hg O a2J a0K (o7 (by rw[P2,show((k:Int) -1).toNat=k-1 by omega];exact b39 (sm_ hg) (hy (sm_ hg)))) O) ?_;refine c6G ?_;refine a2b ?_;refine qC ?_ ?_<;>intro h6
   .have u6:0<k/\Op.bytesLess x0 y=true:=H h6;have hyk:=hy u6.1;obtain⟨j,rfl⟩:∃j,k=j+1:=⟨k-1,J⟩;rw[Nat.add_sub_cancel]at hyk;have hj1:(((j+1:Nat):Int) -1).toNat=j:=by omega
    have hxy:x0<=y:=by have:=u6.2;rw[bytesLess_eq,a1z]at this;exact Std.le_of_lt this
    refine cF [] [0,1,2,3,4,5,6,7,8,9,10,11,12,13,14] (tl:=[(15,[2,3,4]),(16,[]),(17,[])]) ?_;refine a5R ?_;refine a5R ?_;refine chf O (c7 O a0k) ?_;refine a5R ?_;refine chf O (c7 O a0k) ?_;refine chf O c1V ?_;refine chf O d9j ?_;refine a5R ?_;refine chf O c1V ?_;refine chf O d9j ?_;refine chf O c1V ?_;refine G4 ?_;refine B9 O O O (a0J (((swk B m (j+1) x0).set (j+1) y).map scv) O D D O j3 t_0 (.inl O) a0K (o7 (by rw[P2];exact c0o hkm fF)) O (nb O) (by simp only[P2,a7d];exact c2j _ _ _) b9H ?_);refine⟨⟨G3,G3,(by exact c7 O a0k),D⟩,?_⟩;refine E8 O O c1V ⟨D,?_⟩;refine B9 O O O (a0J ((swk B m j x0).map scv) O D D O j3 t_0 (.inl O) a0K (o7 (by rw[P2,hj1,a5I J];exact b39 J hyk)) O (nb O) (by rw[P2,hj1];refine(c2j _ _ _).trans ?_;rw[c7d hyk hkm]) b9H ?_);refine a8r ?_;refine V a0k ?_;exact⟨j,J,⟨J,λz hz=>by rw[(a9W hyk hkm).2]at hz;rcases J6.1 hz with rfl|hz;exact hxy;exact hgt z hz⟩,⟨r7,⟨D,(D9 (λz:Int=>iv z) J)⟩,r7,r7,D⟩,O⟩
   .have u6:k=0\/∃y,B[k-1]?=some y/\y<=x0:=by
     rcases b1C k with h0|h0
     .exact .inl h0
     .refine .inr ⟨y,hy h0,?_⟩;have hb:Op.bytesLess x0 y=false:=by simpa[h0]using h6
      rw[bytesLess_eq,b17]at hb;exact List.not_lt.1 hb
    refine b5Z ?_;exact⟨(m+1,swk B m k x0),do_,⟨do_,(c5P hx0 hkm).trans hP,by dsimp only;rw[d0x hkm fF];exact d1S hS hgt u6 hkm⟩,tu_,O⟩
  .have da:m=N.length:=sm_ h5;rw[da,<- hBl,a1i (n_6 _)]at hS;obtain rfl:=d6Z hP hS;refine W5 ?_;exact⟨_,rE1,⟨N,.ret (by rw[<- hBl];exact b6N J a0K (λr hr c hc=>by obtain⟨x,_,rfl⟩:=H9.1 hr;simp[scv]at hc;subst hc;exact .val _)),hN.nd,dw⟩⟩
open Classical in
noncomputable def a0c(L:List (I×Src))(pkg:I):List I:=if h:∃N:List I,N.Nodup/\∀n,n∈N↔a6r L pkg n then b2m h.choose else []
theorem b6G(hN:N.Nodup)(h:∀n,n∈N↔a6r L pkg n):a0c L pkg=b2m N:=by
 have dM:∃N:List I,N.Nodup/\∀n,n∈N↔a6r L pkg n:=⟨N,hN,h⟩;unfold a0c;rw[dif_pos dM];exact a9a dM.choose_spec.1 hN λn=>(dM.choose_spec.2 n).trans (h n).symm
theorem c5o(h:n∈a0c L pkg):a6r L pkg n:=by
 unfold a0c at h;split at h
 .rename_i dM;exact(dM.choose_spec.2 n).1 ((b0t _ _).mem_iff.1 h)
 .cases h
theorem c4i(L:List (I×Src))(pkg:I):(a0c L pkg).length<=1+(b0L L).length:=by
 unfold a0c
 split
 .rename_i dM;have h1:(b2m dM.choose).length=dM.choose.length:=c0H _;have h2:=List.Nodup.length_le_of_subset dM.choose_spec.1 (λn hn=>c09 ((dM.choose_spec.2 n).1 hn));rw[h1];simpa[b5w]using h2
 .exact n_4 _
theorem d0l(L:List (I×Src))(pkg:I)(hL:L.length<=1000)(hA:(b0L L).length<=100000)(σ:List b9):b8 CC 97 [.agg (Y4 (L.map Prod.fst) (L.map Prod.snd)),sv pkg] σ λr τ=>r= .ret (.list ((a0c L pkg).map scv) true none)/\τ=σ:=
 (I0 (res:=λN:List I=>.ret (.list ((b2m N).map scv) true none)) (P:=λN=>N.Nodup/\∀n,n∈N↔a6r L pkg n) hCC (λa h=>by
  simp at h
  rcases h with rfl|rfl
  .exact j4 ⟨o6 _ _,a5t _ _,D⟩
  .exact .val _) (c45 L pkg hL hA) (λ_ _=>o6 _ _) σ).mono λr τ ⟨N,h1,h2,h3,h4⟩=>⟨by rw[h1,b6G h3 h4],h2⟩
def b9W(fl:List Fi)(L:List (I×Src))(N:List I)(o:I):I:=N.foldl (λo q=>T5 (T5 o q) ([61]++a3P fl q L [])) o
theorem c4N{q:I}(h:N[i]?=some q)(o:I):b9W fl L (N.drop i) o=b9W fl L (N.drop (i+1)) (T5 (T5 o q) ([61]++a3P fl q L [])):=by
 obtain⟨ah,rfl⟩:=n_3.1 h;rw[U5 ah];rfl
theorem b6m{fl:List Fi}{pkg:I}(hbl:∀q b,o8 fl q=some b->b.length<=100000):∀(L:List (I×Src)) (o:I),(∀x∈L,x.1.length<=1000)->(a3P fl pkg L o).length<=o.length+200000*L.length
 | [],o,_=>n_6 _
 |x::l,o,hP=>by
  have hx:=hP x Q;have ih:=b6m (pkg:=pkg) hbl l (if x.2.pkg=pkg then T5 (T5 o x.1) ((if B1 fl=0 then o8 fl x.1 else none).getD [])else o) λy hy=>hP y (by simp[hy]);have hd:((if B1 fl=0 then o8 fl x.1 else none).getD []).length<=100000:=by
   split
   .cases hdf:o8 fl x.1 with
    |none=>exact n_4 _
    |some b=>exact hbl _ _ hdf
   .exact n_4 _
  have q1:=a5u (l:=o) (s:=x.1) J;have q2:=a5u (l:=T5 o x.1) (s:=(if B1 fl=0 then o8 fl x.1 else none).getD []) J;have e:a3P fl pkg (x::l) o=a3P fl pkg l (if x.2.pkg=pkg then T5 (T5 o x.1) ((if B1 fl=0 then o8 fl x.1 else none).getD [])else o):=O;rw[e,n_9];have h2:(if x.2.pkg=pkg then T5 (T5 o x.1) ((if B1 fl=0 then o8 fl x.1 else none).getD [])else o).length<=o.length+200000:=by
   split<;>omega
  omega
noncomputable def inR(fl:List Fi)(L:List (I×Src))(ev:List Va)(k:Ky):I:=
 if k.k=1 then b1w L 1 k.a k.b else if k.k=2 then b1w L 2 k.a k.b else if k.k=3 then b1w L 3 [] k.a else
 if k.k=4 then(if(if B1 fl=0 then o8 fl k.a else none).isSome=true then [61]++(if B1 fl=0 then o8 fl k.a else none).getD []else [45])else
 if k.k=5 then(if(Y2 ev k.a).isSome=true then [61]++Lib.itoa ((Y2 ev k.a).getD 0)else [45])else
 if k.k=6 then [61]++a3P fl k.a L []else [61]++b9W fl L (a0c L k.a) []
structure d1n(fl:List Fi)(L:List (I×Src)):Prop where
 hl:fl.length<=1000000
 hL:L.length<=64
 hA:(b0L L).length<=512
 hP:∀x∈L,x.1.length<=1000
 hbl:∀q b,o8 fl q=some b->b.length<=100000
 hd:∀x∈L,x.2.decls.length<=100000
 hi:∀x∈L,∀s∈x.2.imports,s.length<=1000
 ok:∀k p o,c8X L k p o
theorem d1n.rch(h:d1n fl L)(hp:pkg.length<=1000)(hr:a6r L pkg n):n.length<=1000:=by
 cases hr with
 |base=>exact hp
 |step _ hx _ hs=>exact h.hi _ hx _ hs
theorem c68(fl:List Fi)(nn:Bool)(L:List (I×Src))(ev:List Va)(en:Bool)(k:Ky)(h:d1n fl L)(fS:ev.length<=1000000000)(hev:∀v,Y2 ev k.a=some v->-9007199254740992<=v/\v<=9007199254740992)(hka:k.a.length<=1000)(σ:List b9):b8 CC 54 [.agg (A9 fl nn),.agg (Y4 (L.map Prod.fst) (L.map Prod.snd)),.agg (O2 ev en),.agg k.cells] σ λr aa=>r= .ret (sv (inR fl L ev k))/\aa=σ:=by
 refine b8.anyw hCC pu_ pu_ (c9 (qO Tryz.func54 ?_)) σ;refine z_6 ?_;refine z_6 ?_;refine qC ?_ ?_<;>intro h1
 .have w1:k.k=1:=H h1;refine V (c4 O d0w ⟨D,O,D,D,D⟩ (a3Y L 1 k.a k.b (by have:=h.hL;omega) h.hd (h.ok _ _ _) _) O) ?_;refine c6 ?_;exact⟨_,a1w O D O,_,_,O,O,I2 (D9 str (show _=inR fl L ev k by unfold inR;rw[W w1]))⟩
 .have w1:¬k.k=1:=H h1;refine qC ?_ ?_<;>intro h2
  .have w2:k.k=2:=H h2;refine V (c4 O d0w ⟨D,O,D,D,D⟩ (a3Y L 2 k.a k.b (by have:=h.hL;omega) h.hd (h.ok _ _ _) _) O) ?_;refine c6 ?_;exact⟨_,a1w O D O,_,_,O,O,I2 (D9 str (show _=inR fl L ev k by unfold inR;rw[G w1,W w2]))⟩
  .have w2:¬k.k=2:=H h2;refine qC ?_ ?_<;>intro h3
   .have w3:k.k=3:=H h3;refine V (c4 O d0w ⟨D,O,O,D,D⟩ (a3Y L 3 [] k.a (by have:=h.hL;omega) h.hd (h.ok _ _ _) _) O) ?_;refine c6 ?_;exact⟨_,a1w O D O,_,_,O,O,I2 (D9 str (show _=inR fl L ev k by unfold inR;rw[G w1,G w2,W w3]))⟩
   .have w3:¬k.k=3:=H h3;refine qC ?_ ?_<;>intro h4
    .have w4:k.k=4:=H h4;refine V (c4 O c6z j7 (a8p fl nn k.a h.hl _) O) ?_;refine qC ?_ ?_<;>intro h5
     .have v4:(if B1 fl=0 then o8 fl k.a else none).isSome=true:=h5;have gE:((if B1 fl=0 then o8 fl k.a else none).getD []).length<=100000:=by
       split
       .cases hdf:o8 fl k.a with
        |none=>exact n_4 _
        |some b=>exact h.hbl _ _ hdf
       .exact n_4 _
      refine V (a1e O O D O O N4) ?_;refine c6 ?_;exact⟨_,a1w O D O,_,_,O,O,I2 (D9 str (show _=inR fl L ev k by unfold inR;rw[G w1,G w2,G w3,W w4,W v4]))⟩
     .have v4:¬(if B1 fl=0 then o8 fl k.a else none).isSome=true:=by rw[show(if B1 fl=0 then o8 fl k.a else none).isSome=false from h5];decide
      refine c6 ?_;exact⟨_,a1w O D O,_,_,O,O,I2 (D9 str (show _=inR fl L ev k by unfold inR;rw[G w1,G w2,G w3,W w4,G v4]))⟩
    .have w4:¬k.k=4:=H h4;refine qC ?_ ?_<;>intro h6
     .have w5:k.k=5:=H h6;refine V (c4 O Tryz.call89 j7 (b1x ev en k.a fS _) O) ?_;refine qC ?_ ?_<;>intro h7
      .have v5:(Y2 ev k.a).isSome=true:=h7;obtain⟨z,hz⟩:=c0C.1 v5;have hzr:=hev z hz;have eX:(Y2 ev k.a).getD 0=z:=by rw[hz];rfl
       have hit:=b0D (n:=z) J J;refine V (c4 O c52 ⟨D,D⟩ (a4I _ (by rw[eX];exact hzr.1) (by rw[eX];exact hzr.2) _) O) ?_;refine V (a1e O O D O O (by rw[eX];simp;omega)) ?_;refine c6 ?_;exact⟨_,a1w O D O,_,_,O,O,I2 (D9 str (show _=inR fl L ev k by unfold inR;rw[G w1,G w2,G w3,G w4,W w5,W v5]))⟩
      .have v5:¬(Y2 ev k.a).isSome=true:=by rw[show(Y2 ev k.a).isSome=false from h7];decide
       refine c6 ?_;exact⟨_,a1w O D O,_,_,O,O,I2 (D9 str (show _=inR fl L ev k by unfold inR;rw[G w1,G w2,G w3,G w4,W w5,G v5]))⟩
     .have w5:¬k.k=5:=H h6;refine qC ?_ ?_<;>intro h8
      .have w6:k.k=6:=H h8;refine V (c4 O Tryz.call96 B7 (a8O fl nn L k.a h.hl (by have:=h.hL;omega) h.hP h.hbl _) O) ?_;refine c6 ?_;exact⟨_,a1w O D O,_,_,O,O,I2 (D9 str (show _=inR fl L ev k by unfold inR;rw[G w1,G w2,G w3,G w4,G w5,W w6]))⟩
      .have w6:¬k.k=6:=H h8;have htl:=c4i L k.a;have hA:=h.hA;have hL:=h.hL;refine V (c4 O Tryz.call97 j7 (d0l L k.a J J _) O) ?_;refine V K6 ?_;refine m0 hCC (α:=Nat×I) (λa=>[(4,.ptr 0 0),(5,.ptr 1 0),(13,(.list (a.2.map bcv) (gnn a.2.length) none)),(75,(.list ((a0c L k.a).map scv) true none)),(76,(iv ((a0c L k.a).length:Int))),(77,iv a.1)]) (λ_=>[.box (A9 fl nn),.box (Y4 (L.map Prod.fst) (L.map Prod.snd)),.box (O2 ev en),.box k.cells]) (λa=>a.1<=(a0c L k.a).length/\b9W fl L (a0c L k.a) []=b9W fl L ((a0c L k.a).drop a.1) a.2/\a.2.length<=20000000*a.1) (λa=>(a0c L k.a).length -a.1) (0,[]) ⟨n_4 _,O,n_6 _⟩ tu_ (aj:=[]) O A7 uz_ ?_;rintro⟨i,o⟩ ⟨hi,hr,ho⟩;dsimp only at hi hr ho⊢;refine qk (qC ?_ ?_)<;> intro h9
       .have ah:i< (a0c L k.a).length:=sm_ h9;obtain⟨q,hb⟩:∃q,(a0c L k.a)[i]?=some q:=⟨(a0c L k.a)[i]'ah,Q⟩;rw[c4N hb]at hr;have hq:=h.rch hka (c5o (n_2 hb));have hfi:=b6m (pkg:=q) h.hbl L [] h.hP;have hfj:([61]++a3P fl q L []).length<=12800001:=by simp at hfi⊢;omega
        have q1:=a5u (l:=o) (s:=q) J;have q2:=a5u (l:=T5 o q) (s:=[61]++a3P fl q L []) J;refine V a9e ?_;refine cW 9 ?_;refine a5N ?_;refine hY (c4 O c1f j7 (a1A o _ q J J _) O) ?_;refine hY a2B ?_;refine hY (J7 O D O c9X b5u O (nb O)) ?_;refine hY A3 ?_;refine hY (c4 O Tryz.call96 B7 (a8O fl nn L q h.hl J h.hP h.hbl _) O) ?_;refine hY (c4 O c1f j7 (a1A (T5 o q) _ ([61]++a3P fl q L []) J J _) O) ?_;refine a85 ?_;refine V r6 ?_;exact⟨(i+1,T5 (T5 o q) ([61]++a3P fl q L [])),_,⟨do_,do_,hr,do_⟩,tu_,O⟩
       .have aH:(a0c L k.a).length<=i:=sm_ h9;rw[U4 aH]at hr;refine l9 ?_;refine V c6f ?_;refine V (a1e O O D O O N4) ?_;refine c6 ?_;exact⟨_,a1w O D O,_,_,O,O,I2 (D9 str (show _=inR fl L ev k by unfold inR;rw[G w1,G w2,G w3,G w4,G w5,G w6];rw[hr];rfl))⟩
def PlE(L:List (I×Src))(q:Nm)(e:En):Prop:=0<=e.ct/\(e.ct≠0->∃x∈L,∃(i:Nat) (d:De),x.2.decls[i]?=some d/\e.pl=x.1/\e.ix=(i:Int)/\deK x.2 d=q)
theorem c62{L:List (I×Src)}{x:I×Src}(hx:x∈L)(k:Int)(p o:I)(hp:k≠3->x.2.pkg=p):∀(l:List De) (j:Nat) (e:En),x.2.decls.drop j=l->PlE L (D4 k p o) e->PlE L (D4 k p o) (fiD k o x.1 x.2.pkg l j e)
 | [],j,e,_,h=>h
 |d::l,j,e,hl,h=>by
  have hj:x.2.decls[j]?=some d:=by
   have:=D9 (λm:List De=>m[0]?) hl;simpa using this
  rw[fiD];refine c62 hx k p o hp l (j+1) _ (by rw[<- List.tail_drop,hl];rfl) ?_;have h0:=h.1
  split
  .rename_i hh;have hq:deK x.2 d=D4 k p o:=by
    simp only[O5,beq_iff_eq,a1z]at hh;unfold deK D4;rw[hh.1,hh.2];by_cases h3:k=3
    .rw [W h3,W h3]
    .rw [G h3,G h3,hp h3]
   split
   .exact ⟨do_,λ_=>⟨x,hx,j,d,hj,O,O,hq⟩⟩
   .rename_i h1;have h2:e.ct≠0:=λh2=>h1 (by rw[h2];rfl);exact⟨do_,λ_=>h.2 h2⟩
  .exact h
theorem c5V{L:List (I×Src)}(k:Int)(p o:I):∀(M:List (I×Src)) (e:En),(∀x∈M,x∈L)->PlE L (D4 k p o) e->PlE L (D4 k p o) (fiL k p o M e)
 | [],e,_,h=>h
 |x::M,e,hM,h=>by
  rw[fiL];refine c5V k p o M _ (λy hy=>hM y (by simp[hy])) ?_
  split
  .exact h
  .rename_i hc;refine c62 (hM x Q) k p o (λh3=>?_) _ 0 e O h;simp only[O5,bne_iff_ne,b50,b17,ne_eq,not_and,Decidable.not_not]at hc;exact hc h3
theorem c8h(L:List (I×Src))(k:Int)(p o:I):PlE L (D4 k p o) (fiE L k p o):=c5V k p o L _ (λ_ h=>h) ⟨a7G _,λh=>absurd O h⟩
theorem b1S(h:fl.Pairwise λa b=>a.p <b.p):(z6 fl).Pairwise λx y=>x.1≠y.1:=by
 unfold z6;refine List.Pairwise.filterMap _ (λa b ck x hx y hy e=>?_) h;rw[M6]at hx hy;obtain⟨_,_,rfl⟩:=hx;obtain⟨_,_,rfl⟩:=hy;replace e:a.p=b.p:=e;rw[e]at ck;exact b8A _ ck
theorem b3l(h:L.Pairwise λx y=>x.1≠y.1){x:I×Src}(hx:x∈L):L.find? (λy=>decide (y.1=x.1))=some x:=by
 induction L with
 |nil=>cases hx
 |cons z l ih=>
  rw[a6m]at h;rw[b5N]
  rcases J6.1 hx with rfl|hx
  .simp
  .rw [show decide (z.1=x.1)=false from a2c (h.1 x hx)];exact ih h.2 hx
theorem c2h(h:B1 fl=0):fl.Pairwise λa b=>a.p <b.p:=by
 unfold B1 at h;split at h
 .cases h
 .exact (b0k h).2
theorem d7q(h:B1 fl=0)(k:Int)(p o:I):c8X (z6 fl) k p o:=λh0 _=>by
 obtain⟨x,hx,i,d,hd,bf,hix,_⟩:=(c8h (z6 fl) k p o).2 h0;obtain⟨f,_,hs⟩:=a4q hx;refine⟨x.2,d,i,?_,a7M hs,hd⟩;unfold a7u;rw[bf,b3l (b1S (c2h h)) hx,hix]
theorem c9Y(h:∀x∈L,x.2.imports.length<=8):(b0L L).length<=8*L.length:=by
 unfold b0L
 induction L with
 |nil=>exact n_6 _
 |cons x l ih=>
  have h1:=h x Q;have h2:=ih λy hy=>h y (by simp[hy]);rw[c1J,n_8,n_9];omega
theorem d5j(h:B1 fl=0):d1n fl (z6 fl):=by
 obtain⟨h1,h2⟩:=a78 h;have hs:∀x∈z6 fl,a0i x.2:=λx hx=>by
  obtain⟨f,_,hs⟩:=a4q hx;exact a7M hs
 have hl:=(a92 (fl:=fl)).1;refine⟨J,J,?_,λx hx=>?_,λq b hb=>?_,(a92 (fl:=fl)).2,λx hx s hsm=>?_,λk p o=>d7q h k p o⟩
 .have:=c9Y (L:=z6 fl) λx hx=>(hs x hx).impl;omega
 .obtain ⟨f,hf,he⟩:=c0L.1 hx;rw[M6]at he;obtain⟨_,_,rfl⟩:=he;have:=Q1 (h2 f hf).1;show f.p.length<=1000;omega
 .obtain ⟨f,hf,rfl⟩:=b2E hb;have:=(h2 f hf).2;omega
 .have:=C9 ((hs x hx).imp s hsm).1;omega
theorem c1S:∀{l:List Va} {pv:Option Va},evB pv l=true->∀v∈l,-9007199254740992<=v.v/\v.v<=9007199254740992
 | [],_,_,_,h=>by cases h
 |x::l,pv,h,v,hv=>by
  rw[evB,O5]at h
  rcases J6.1 hv with rfl|hv
  .have h1:=h.1;unfold a0l at h1;simp only[O5,a1z]at h1;exact h1.1.2
  .exact c1S h.2 v hv
theorem d3e(h:a2N ev=true){z:Int}(hz:Y2 ev s=some z): -9007199254740992<=z/\z<=9007199254740992:=by
 unfold Y2 at hz;rw[M6]at hz;obtain⟨x,hx,rfl⟩:=hz;exact c1S (c2B.1 h).2 x (b22 hx)
theorem d2g{k:Ky}(h:S5 k=true):k.a.length<=1000:=by
 unfold S5 at h;split at h
 .have:=C9 (c2B.1 h).1;omega
 .split at h
  .have:=Q1 (c2B.1 h).1;omega
  .split at h
   .have:=C9 (c2B.1 h).1;omega
   .cases h
theorem b3f(h:fl.Pairwise λa b=>a.p <b.p):∀f∈fl,o8 fl f.p=some f.b:=by
 induction fl with
 |nil=>intro f hf;cases hf
 |cons x l ih=>
  intro f hf;rw[a6m]at h;unfold o8;rw[b5N]
  rcases J6.1 hf with rfl|hf
  .simp
  .have aB:x.p≠f.p:=λe=>by
    have:=h.1 f hf;rw[e]at this;exact b8A _ this
   rw[show decide (x.p=f.p)=false from a2c aB];exact ih h.2 f hf
theorem d7u(nn:Bool)(h:B1 fl=0)(σ:List b9):b8 CC 55 [.agg (A9 fl nn)] σ λr τ=>r= .ret (.agg (Y4 ((z6 fl).map Prod.fst) ((z6 fl).map Prod.snd)))/\τ=σ:=by
 have hl:=d5j h;refine b2O O nn h hl.hl (λf hf=>?_) (λq b hb=>by have:=hl.hbl q b hb;omega) (λ_=>b3f (c2h h)) σ;have:=Q1 ((a78 h).2 f hf).1;omega
theorem d8u(k:Int)(p o:I):(fiE (z6 fl) k p o).ct=((occ (D4 k p o) fl).length:Int):=by
 have h:=(a5l k p o (z6 fl) ⟨if k=3 then []else p,o,k,[],0,0⟩ (λh3=>G h3)).2.2.2;rw[b1p];show(fiL k p o (z6 fl) _).ct=_;rw[h];simp
theorem d7T{q:Nm}{x:I×Src}(hx:x∈z6 fl)(hd:x.2.decls[i]?=some d)(hq:deK x.2 d=q):(x.2,d)∈occ q fl:=by
 obtain⟨f,hf,hs⟩:=a4q hx;refine c2P.2 ⟨f,hf,?_⟩;unfold b5v;rw[hs];exact H9.2 ⟨d,b1Y.2 ⟨n_2 hd,a2h hq⟩,O⟩
theorem d0C(h:B1 fl=0)(k:Int)(p o:I):b1w (z6 fl) k p o=c4V (occ (D4 k p o) fl):=by
 have eM:=d8u (fl:=fl) k p o;have bf:=(c8h (z6 fl) k p o).2;unfold b1w;cases ho:occ (D4 k p o) fl with
 |nil=>
  rw[ho]at eM;rw[W (by rw[eM];rfl)];rfl
 |cons y t=>
  rw[ho]at eM;rw[n_9]at eM;rw[G J];cases t with
  |cons z t=>
   rw[n_9]at eM;rw[W J];obtain⟨a,b⟩:=y;rfl
  |nil=>
   rw[R1]at eM;rw[G J];obtain⟨x,hx,i,d,hd,h1,h2,hq⟩:=bf J;have hm:=d7T hx hd hq;rw[ho,a9t]at hm;subst hm;have hD:a7u (z6 fl) (fiE (z6 fl) k p o)=(x.2,(i:Int)):=by
    unfold a7u;rw[h1,b3l (b1S (c2h h)) hx,h2]
   rw[hD];dsimp only;rw[a7d,hd];rfl
theorem b6X{fl:List Fi}(h:B1 fl=0)(pkg:I):∀(M:List Fi) (o:I),(∀f∈M,f∈fl)->a3P fl pkg (z6 M) o=d6z o (M.filter λf=>decide ((a0m f).map Src.pkg=some pkg))
 | [],_,_=>rfl
 |f::M,o,hM=>by
  have hd:=b3f (c2h h) f (hM f Q);have ih:=λo=>b6X h pkg M o λg hg=>hM g (by simp[hg]);rw[b0I];have e:z6 (f::M)=(match a0m f with|none=>[]|some s=>[(f.p,s)])++z6 M:=by
   unfold z6;rw[List.filterMap_cons,show a9i f.p f.b=a0m f from O];cases a0m f<;>rfl
  rw[e];cases hs:a0m f with
  |none=>
   rw[G Q];exact ih o
  |some s=>
   show a3P fl pkg (z6 M) (if s.pkg=pkg then T5 (T5 o f.p) ((if B1 fl=0 then o8 fl f.p else none).getD [])else o)=_;rw[ih];by_cases hp:s.pkg=pkg
   .rw [W hp,W h,hd,W (by simp[hp])];rfl
   .rw [G hp,G (by simp[hp])]
theorem c07(h:B1 fl=0)(pkg o:I):a3P fl pkg (z6 fl) o=d6z o (a8u (F5 fl).2.1 fl pkg):=by
 rw[a6u h];exact b6X h pkg fl o λ_ hf=>hf
theorem b6t{x:I×Src}:x∈z6 fl↔∃f∈fl,a0m f=some x.2/\x.1=f.p:=by
 unfold z6;rw[c0L];constructor
 .rintro ⟨f,hf,he⟩;rw[M6]at he;obtain⟨s,hs,rfl⟩:=he;exact⟨f,hf,hs,O⟩
 .rintro ⟨f,hf,hs,hp⟩;refine⟨f,hf,?_⟩;rw[show a9i f.p f.b=a0m f from O,hs];obtain⟨a,b⟩:=x;cases hp;rfl
theorem c1n{fl:List Fi}(h:B1 fl=0)(pkg n:I):a6r (z6 fl) pkg n↔Reach (F5 fl).2.1 fl pkg n:=by
 constructor
 .intro hr
  induction hr with
  |base=>exact .base
  |step _ hx hp hs ih=>
   obtain⟨f,hf,h1,_⟩:=b6t.1 hx;refine .step ih (f:=f) ?_ ?_
   .rw [a6u h];refine b1Y.2 ⟨hf,a2h ?_⟩;rw[h1,b2Z,hp]
   .unfold b9N;rw[(a9P h).src f hf,h1];exact hs
 .intro hr
  induction hr with
  |base=>exact .base
  | @step m f s _ hf hs ih=>
   rw[a6u h]at hf;obtain⟨hf,h1⟩:=b1Y.1 hf;have h1:=of_decide_eq_true h1;rw[M6]at h1;obtain⟨x,h2,h3⟩:=h1;unfold b9N at hs;rw[(a9P h).src f hf,h2]at hs;exact .step ih (x:=(f.p,x)) (b6t.2 ⟨f,hf,h2,O⟩) h3 hs
theorem c58(h:B1 fl=0)(pkg:I):a0c (z6 fl) pkg=b1B (F5 fl).2.1 fl pkg:=by
 by_cases dM:∃N:List I,N.Nodup/\∀n,n∈N↔a6r (z6 fl) pkg n
 .obtain ⟨N,h1,h2⟩:=dM;rw[b6G h1 h2,c4E h1 λn=>(h2 n).trans (c1n h pkg n)]
 .unfold a0c b1B;rw[dif_neg dM,dif_neg λ⟨N,h1,h2⟩=>dM ⟨N,h1,λn=>(h2 n).trans (c1n h pkg n).symm⟩]
theorem c3f{fl:List Fi}(h:B1 fl=0):∀(N:List I) (o:I),b9W fl (z6 fl) N o=d6O (F5 fl).2.1 fl o N
 | [],_=>rfl
 |q::N,o=>by
  show b9W fl (z6 fl) N (T5 (T5 o q) ([61]++a3P fl q (z6 fl) []))=d6O (F5 fl).2.1 fl (T5 (T5 o q) (b9u (F5 fl).2.1 fl q)) N;rw[c3f h N,c07 h];rfl
theorem d6Y(h:B1 fl=0)(ev:List Va)(k:Ky):inR fl (z6 fl) ev k=a1X fl (F5 fl).2.1 (F5 fl).2.2 ev k:=by
 unfold inR a1X;simp only[d0C h,a5c h,W h,c07 h,c3f h,c58 h];rfl
theorem b2k(fl:List Fi)(nn:Bool)(ev:List Va)(en:Bool)(l:List Ky)(nk:Bool)(hl:l.length<=1000000000):b8 CC 17 [.agg (A9 fl nn),.agg (O2 ev en),.list (l.map Ky.cv) nk none] [] λr τ=>∃_:Unit,a03 0 τ r (.ret (c2i (a13 fl ev l)))/\True:=by
 refine qO Tryz.func17 ?_;refine z_6 ?_;refine V (c4 O Tryz.call52 ⟨D,D⟩ (b0K fl nn _) O) ?_;refine qG (λhg=>J7 O D O b8m b1D O (nb O)) ?_;refine qG (λhg=>c4 O Tryz.call53 ⟨hg,D⟩ (a3O ev en _) O) ?_;refine b8F ?_;refine qC ?_ ?_<;>intro h1
 .have hv:¬(B1 fl=0/\a2N ev=true/\l.all S5=true):=by
   rintro⟨u1,u2,_⟩;simp[u1,u2]at h1
  refine c6 ?_;exact⟨_,r8 (rs:=[.tmp 6,.tmp 7]) (cs:=[_,_]) O a2w (n_5 O),(by rw[a13,G hv];exact⟨(),.ret (.tups ⟨.old (B8 _ ([]:List I) _),.old (.val _),D⟩),D⟩)⟩
 .have hv:B1 fl=0/\a2N ev=true:=H h1;obtain⟨v1,v2⟩:=hv;have hG:a1X fl (F5 fl).2.1 (F5 fl).2.2 ev=inR fl (z6 fl) ev:=funext λk=>(d6Y v1 ev k).symm;refine V (c4 O Tryz.call55 ⟨D,D⟩ (d7u nn v1 _) O) ?_;refine d4x ?_;refine V c9c ?_;refine C5 hCC 3 O (α:=Nat) (λi=>[(3,.ptr 0 0),(4,.ptr 1 0),(8,.ptr 2 0),(9,(.list (((l.take i).map (inR fl (z6 fl) ev)).map scv) (gnn ((l.take i).map (inR fl (z6 fl) ev)).length) (G9 ((l.take i).map (inR fl (z6 fl) ev)).length 3))),(22,(.list (l.map Ky.cv) nk none)),(23,iv l.length),(24,iv i)]) (λi=>[.box (A9 fl nn),.box (O2 ev en),.box (Y4 ((z6 fl).map Prod.fst) ((z6 fl).map Prod.snd)),p7 ((l.take i).map (inR fl (z6 fl) ev)).length]) (λi=>i<=l.length/\(l.take i).all S5=true) (λi=>l.length -i) ⟨0,[0,1,2,9],⟨n_4 _,O⟩,⟨O,O⟩,ut_,uq_⟩ ?_;intro i ⟨hi,aK⟩;refine qk (qC ?_ ?_)<;> intro h2
  .have ah:i<l.length:=sm_ h2;obtain⟨y,hy⟩:∃y,l[i]?=some y:=⟨l[i]'ah,Q⟩;refine V (z8 O D D O O a8c a3Z J (o7 hy) O) ?_;refine d5P ?_;refine V (c4 O Tryz.call36 ⟨D,D⟩ (b6C y _) O) ?_;refine qC ?_ ?_<;>intro h3
   .have cB:¬(B1 fl=0/\a2N ev=true/\l.all S5=true):=λu=>c6x hy (H h3) u.2.2;refine c6 ?_;exact⟨_,r8 (rs:=[.tmp 6,.tmp 7]) (cs:=[_,_]) O a2w (n_5 O),(by rw[a13,G cB];exact⟨(),.ret (.tups ⟨.old (B8 _ ([]:List I) _),.old (.val _),D⟩),D⟩)⟩
   .have hyk:S5 y=true:=H h3;have htk1:l.take (i+1)=l.take i++[y]:=by rw[a8n,hy];rfl
    refine V (c4 O Tryz.call54 a36 (c68 fl nn (z6 fl) ev en y (d5j v1) (by have:=c44 v2;omega) (λz hz=>d3e v2 hz) (d2g hyk) _) O) ?_;refine V (B4 [scv ((inR fl (z6 fl) ev) y)] O ⟨D,D⟩ t_2 t_0 t_4 O O O O O O O O O) ?_;refine qD (D6 O D D O Q q_3 t_2 t_0 a5W t_4 O (.inr O) q_8 a5O G0 (((l.take (i+1)).map (inR fl (z6 fl) ev)).map scv) ((l.take (i+1)).map (inR fl (z6 fl) ev)).length (by rw[htk1,b42,b42];rfl) (by rw[htk1];simp) ?_);refine V r6 ?_;exact⟨(i+1),[0,1,2,5],⟨J,J,c5A hy aK hyk⟩,⟨O,O⟩,ut_,uq_⟩
  .have aH:l.length<=i:=sm_ h2;have hta:l.take i=l:=a1i aH;refine W5 ?_;exact⟨_,r8 (rs:=[.tmp 6,.tmp 7]) (cs:=[_,_]) O a2w (n_5 O),(by rw[a13,W ⟨v1,v2,by rw[<- hta];exact aK⟩,hG,hta];exact⟨(),.ret (.tups ⟨.tok (λr hr c hc=>(C7 (f:=scv) (λ_=>P5.all ⟨.val _,D⟩) _) r hr c hc),.old (.val _),D⟩),D⟩)⟩
theorem a7Z(fl:List Fi)(nn:Bool)(ev:List Va)(en:Bool)(l:List Ky)(nk:Bool)(hl:l.length<=1000000000)(σ:List b9):b8 CC 17 [.agg (A9 fl nn),.agg (O2 ev en),.list (l.map Ky.cv) nk none] σ λr τ=>r= .ret (c2i (a13 fl ev l))/\τ=σ:=
 (I0 (res:=λ_:Unit=>.ret (c2i (a13 fl ev l))) (P:=λ_=>True) hCC (λa h=>by simp at h;rcases h with rfl|rfl|rfl;exact j4 (cs:=A9 _ _) ⟨B6 _ _,D⟩;exact j4 (cs:=O2 _ _) ⟨H3 _ _,D⟩;exact C1 _ _) (b2k fl nn ev en l nk hl) (λ_ _=>b98 _) σ).mono λr τ ⟨_,h1,h2,_⟩=>⟨h1,h2⟩
theorem b95(fl:List Fi)(nn:Bool)(ev:List Va)(en:Bool)(k:List Ky)(nk:Bool)(hl:k.length<=1000000000)(ts:List I)(nt:Bool):b8 CC 22 [.agg (A9 fl nn),.agg (O2 ev en),.list (k.map Ky.cv) nk none,.list (ts.map scv) nt none] [] λr τ=>∃_:Unit,a03 0 τ r (.ret (c8Y (a72 fl ev k ts)))/\True:=by
 refine qO Tryz.func22 ?_;refine z_6 ?_;refine V (c4 O Tryz.call17 B7 (a7Z fl nn ev en k nk hl _) O) ?_;refine qG D2 ?_;refine qG c7N ?_;refine qG D2 ?_;refine qG (λhg=>a0a O hg O t_2 b1M O) ?_;refine b0C ?_;refine qC ?_ ?_<;>intro h1
 .have hn:a72 fl ev k ts=none:=by
   unfold a72;cases h:a13 fl ev k with
   |none=>rfl
   |some l=>
    rw[h]at h1;have ge:¬k.length=ts.length:=sm_ h1;exact G ge
  refine c6 ?_;exact⟨_,r8 (rs:=[.tmp 8,.tmp 9]) (cs:=[_,_]) O a2w (n_5 O),(by rw[hn];exact⟨(),.ret (.old (.tup λi c hi=>by rcases i with _|_|i<;>first|(injection hi with hi;subst hi;exact .val _)|cases hi)),D⟩)⟩
 .obtain ⟨l,hs⟩:∃l,a13 fl ev k=some l:=by
   cases h:a13 fl ev k with
   |none=>rw[h]at h1;simp at h1
   |some l=>exact⟨_,O⟩
  rw[hs]at h1⊢;have ge:k.length=ts.length:=sm_ h1;have fm:l.length=k.length:=by rw[c3i hs];simp
  have hh:a72 fl ev k ts=some (a6b l ts 0):=by unfold a72;rw[hs];exact W ge
  refine V K6 ?_;refine m0 hCC (α:=Nat) (λi=>[(3,(.list (ts.map scv) nt none)),(10,(.list (l.map scv) (gnn l.length) none)),(30,iv l.length),(31,iv i)]) (λ_=>[.box (A9 fl nn),.box (O2 ev en)]) (λi=>i<=l.length/\a6b l ts 0=a6b (l.drop i) (ts.drop i) i) (λi=>l.length -i) 0 ⟨n_4 _,O⟩ tu_ (aj:=[]) O A7 uz_ ?_;intro i ⟨hi,hr⟩;refine qk (qC ?_ ?_)<;> intro h2
  .have ah:i<l.length:=sm_ h2;obtain⟨x,hx,_⟩:=a15 ah;obtain⟨y,hy,_⟩:=a15 (l:=ts) (i:=i) J;rw[b82 hx hy]at hr;refine cW 9 ?_;refine a5N ?_;refine hY (z8 O D D O O t_2 t_0 J (o7 hx) O) ?_;refine hY a68 ?_;refine a5N ?_;refine hY c5G ?_;refine hY a68 ?_;refine hY b2T ?_;refine a2b ?_;refine qC ?_ ?_<;>intro h3
   .have hxy:¬x=y:=H h3;rw[G hxy]at hr;refine c6 ?_;exact⟨_,r8 (rs:=[.tmp 8,.tmp 9]) (cs:=[_,_]) O a2w (n_5 O),d8Y⟩
   .have hxy:x=y:=H h3;rw[W hxy]at hr;exact b0P
  .have aH:l.length<=i:=sm_ h2;rw[U4 aH]at hr;refine W5 ?_;exact⟨_,r8 (rs:=[.tmp 8,.tmp 9]) (cs:=[_,_]) O a2w (n_5 O),d8Y⟩
theorem c4k(fl:List Fi)(nn:Bool)(ev:List Va)(en:Bool)(k:List Ky)(nk:Bool)(hl:k.length<=1000000000)(ts:List I)(nt:Bool)(σ:List b9):b8 CC 22 [.agg (A9 fl nn),.agg (O2 ev en),.list (k.map Ky.cv) nk none,.list (ts.map scv) nt none] σ λr τ=>r= .ret (c8Y (a72 fl ev k ts))/\τ=σ:=
 (I0 (res:=λ_:Unit=>.ret (c8Y (a72 fl ev k ts))) (P:=λ_=>True) hCC (λa h=>by simp at h;rcases h with rfl|rfl|rfl|rfl;exact j4 (cs:=A9 _ _) ⟨B6 _ _,D⟩;exact j4 (cs:=O2 _ _) ⟨H3 _ _,D⟩;exact C1 _ _;exact o6 _ _) (b95 fl nn ev en k nk hl ts nt) (λ_ _=>B3 (cs:=[_,_]) ⟨.val _,.val _,D⟩) σ).mono λr τ ⟨_,h1,h2,_⟩=>⟨h1,h2⟩
theorem b6n{f:Fi}:∀{fl:List Fi},(fl.Pairwise λa b=>a.p≠b.p)->f∈fl->o8 fl f.p=some f.b
 | [],_,h=>by cases h
 |y::fl,hp,h=>by
  obtain⟨h1,h2⟩:=a6m.1 hp;unfold o8
  rcases J6.1 h with rfl|h
  .rw [List.find?_cons_of_pos Q];rfl
  .rw [List.find?_cons_of_neg (by simpa using h1 f h)];exact b6n h2 h
theorem d2k(n:Nat)(l:List (I×I))(nn:Bool):Old n (.list (l.map nmC) nn none):=(M4 (f:=nmC) b0m l nn).old
section
variable{ae:Array Oper}{Ji:A8->Env->List b9->Prop}{Lf L:Array Bool}{B:Env->List b9->Prop}{T:Nat->List b9->Prop}{f:Nat}
theorem e01{i i' i'':Nat}{o o' o'':Oper}(hr:(match Region.ready .any ae L with
 | [j,j',j'']=>Nat.beq j i&& (Nat.beq j' i'&&Nat.beq j'' i'')
 |_=>false)=true)(ho:ae[i]?=some o)(ho':ae[i']?=some o')(ho'':ae[i'']?=some o'')(hg:o.guard=none)(hg':o'.guard=none)(hg'':o''.guard=none)(h:D3 C σ E o λr aa=>match r with| .ret c=>T i aa/\CA C ae Ji Lf B T f (L.setIfInBounds i true) (E.put o.dst c True) aa| .pan c=>∀E',Ji (.pan c) E' aa)
 (h':D3 C σ E o' λr aa=>match r with| .ret c=>T i' aa/\CA C ae Ji Lf B T f (L.setIfInBounds i' true) (E.put o'.dst c True) aa| .pan c=>∀E',Ji (.pan c) E' aa)
 (h'':D3 C σ E o'' λr aa=>match r with| .ret c=>T i'' aa/\CA C ae Ji Lf B T f (L.setIfInBounds i'' true) (E.put o''.dst c True) aa| .pan c=>∀E',Ji (.pan c) E' aa):CA C ae Ji Lf B T (f+1) L E σ:=by
 have bl:Region.ready .any ae L=[i,i',i'']:=by
  split at hr
  .rename_i j j' j'' hj;simp only[O5]at hr;rw[hj,a2a hr.1,a2a hr.2.1,a2a hr.2.2]
  .cases hr
 refine⟨by rw[bl];exact a9j _ _,λj hj=>?_⟩;rw[bl]at hj;simp only[J6,a5J,or_false]at hj
 rcases hj with rfl|rfl|rfl
 .exact ⟨o,ho,.inr (.inl ⟨hg,h⟩)⟩
 .exact ⟨o',ho',.inr (.inl ⟨hg',h'⟩)⟩
 .exact ⟨o'',ho'',.inr (.inl ⟨hg'',h''⟩)⟩
end
theorem a9l(l:List Int)(nn:Bool)(hl:l.length<=maxLen):b8 CC 10 [.list (l.map icv) nn none] [] λr τ=>∃_:Unit,a03 0 τ r (.ret (.val (.bool true)))/\True:=by
 refine cO Tryz.func10 ?_;refine qs 4 (V (B2 #[(0,1),(1,1)] O ⟨D,D⟩ c9z Tryz.zeroValue29 O ⟨_,O⟩ (λw=>by kernel_rfl) O O) ?_);refine qD (F1 O D j3 j1 ?_);refine qD (c5 O Tryz.call11 ⟨D,D⟩ (c6k l nn 0 J hl _ 0 O) O ?_);intro⟨⟨fl,ev⟩,q0⟩ ⟨hm,he,bQ,cS⟩;dsimp only at hm he bQ cS⊢;refine d4z ?_;refine qD (i9 O D D O j3 a9o j1 O O (nb O) ?_);refine qD (i9 O D D O j3 b1D j1 O O (nb O) ?_);refine qD (c5 O Tryz.call47 ⟨D,D⟩ (d2T l nn q0 J hl _ 0 O) O ?_);intro wd hw;refine a7x hCC 3 O (α:=List Fi×Nat) (λ_=>[(3,.ptr 0 0),(4,.ptr 1 0),(5,.ptr 2 0),(6,(.val (.int .u64 wd))),(7,.ptr 3 0),(8,.ptr 4 0)]) (λa=>[x9 l nn a.2,.box (A9 fl (gnn fl.length)),.box (O2 ev (gnn ev.length)),.box (A9 a.1 (gnn a.1.length)),.box (O2 ev (gnn ev.length))]) (λa=>K5 8780 a.1/\q0<=a.2/\a.2<=q0+1082) ?_ ?_
 .refine c0Y [0,0,3,0,0,0,55,127] [0,1,3] (f:=5) D7 D7 O ?_;refine chf O U7 ?_;refine chf O a7J ?_;refine chf O (c7 O a2V) ?_;refine G4 ?_;refine e01 (i:=2) (i':=4) (i'':=5) D7 O O O O O O (c5 O c3x j7 (a5k l nn (q0+2) J hl 7540 ⟨J,J⟩ fl hm _ 0 O) O ?_) (l8 O b14 O j1 ?_) (l8 O b8z O j1 ?_)
  .intro ⟨gl,q1⟩ ⟨hs,eC,dY⟩;refine⟨⟨λh=>absurd h U,λh=>absurd h U,λ_=>by exact c7 O a2V,D⟩,?_⟩;refine d1t (i:=4) (i':=5) D7 O O O O (l8 O b14 O j1 ?_) (l8 O b8z O j1 ?_)
   .refine ⟨⟨λ_=>by exact c7 O A3,λ_=>by exact c7 O a2B,λ_=>by exact c7 O a2V,D⟩,?_⟩;refine b1X (i:=5) D7 O O (l8 O b8z O j1 ?_);refine d2N ?_;refine c3L ?_;exact⟨by kernel_rfl,(gl,q1),[0,1,2,3,4],⟨hs,by dsimp only at eC dY⊢;omega,by dsimp only at eC dY⊢;omega⟩,⟨O,O⟩,c3m,.inr ⟨_,O,.same O L6⟩,.inr ⟨_,O,.same O P6⟩,.inr ⟨_,O,.same O a35⟩,.inr ⟨_,O,.same O P6⟩,.inr ⟨_,O,.same O a35⟩,D⟩
   .refine ⟨⟨λ_=>by exact c7 O A3,λ_=>by exact c7 O a2B,λ_=>by exact c7 O a2V,D⟩,?_⟩;refine b1X (i:=4) D7 O O (l8 O b14 O j1 ?_);refine d2N ?_;refine c3L ?_;exact⟨by kernel_rfl,(gl,q1),[0,1,2,4,3],⟨hs,by dsimp only at eC dY⊢;omega,by dsimp only at eC dY⊢;omega⟩,⟨O,O⟩,c3m,.inr ⟨_,O,.same O L6⟩,.inr ⟨_,O,.same O P6⟩,.inr ⟨_,O,.same O a35⟩,.inr ⟨_,O,.same O P6⟩,.inr ⟨_,O,.same O a35⟩,D⟩
  .refine ⟨⟨λ_=>by exact c7 O A3,λ_=>by exact c7 O a2B,λ_=>by exact c7 O a2V,D⟩,?_⟩;refine d1t (i:=2) (i':=5) D7 O O O O (c5 O c3x j7 (a5k l nn (q0+2) J hl 7540 ⟨J,J⟩ fl hm _ 0 O) O ?_) (l8 O b8z O j1 ?_)
   .intro ⟨gl,q1⟩ ⟨hs,eC,dY⟩;refine⟨⟨λh=>absurd h U,λh=>absurd h U,λ_=>by exact c7 O a2V,D⟩,?_⟩;refine b1X (i:=5) D7 O O (l8 O b8z O j1 ?_);refine d2N ?_;refine c3L ?_;exact⟨by kernel_rfl,(gl,q1),[0,1,2,3,4],⟨hs,by dsimp only at eC dY⊢;omega,by dsimp only at eC dY⊢;omega⟩,⟨O,O⟩,c3m,.inr ⟨_,O,.same O L6⟩,.inr ⟨_,O,.same O P6⟩,.inr ⟨_,O,.same O a35⟩,.inr ⟨_,O,.same O P6⟩,.inr ⟨_,O,.same O a35⟩,D⟩
   .refine d9l ?_;intro⟨gl,q1⟩ ⟨hs,eC,dY⟩;refine d4P ?_;refine c3L ?_;exact⟨by kernel_rfl,(gl,q1),[0,1,2,3,4],⟨hs,by dsimp only at eC dY⊢;omega,by dsimp only at eC dY⊢;omega⟩,⟨O,O⟩,c3m,.inr ⟨_,O,.same O L6⟩,.inr ⟨_,O,.same O P6⟩,.inr ⟨_,O,.same O a35⟩,.inr ⟨_,O,.same O P6⟩,.inr ⟨_,O,.same O a35⟩,D⟩
  .refine ⟨⟨λ_=>by exact c7 O A3,λ_=>by exact c7 O a2B,λ_=>by exact c7 O a2V,D⟩,?_⟩;refine d1t (i:=2) (i':=4) D7 O O O O (c5 O c3x j7 (a5k l nn (q0+2) J hl 7540 ⟨J,J⟩ fl hm _ 0 O) O ?_) (l8 O b14 O j1 ?_)
   .intro ⟨gl,q1⟩ ⟨hs,eC,dY⟩;refine⟨⟨λh=>absurd h U,λh=>absurd h U,λ_=>by exact c7 O a2V,D⟩,?_⟩;refine b1X (i:=4) D7 O O (l8 O b14 O j1 ?_);refine d2N ?_;refine c3L ?_;exact⟨by kernel_rfl,(gl,q1),[0,1,2,4,3],⟨hs,by dsimp only at eC dY⊢;omega,by dsimp only at eC dY⊢;omega⟩,⟨O,O⟩,c3m,.inr ⟨_,O,.same O L6⟩,.inr ⟨_,O,.same O P6⟩,.inr ⟨_,O,.same O a35⟩,.inr ⟨_,O,.same O P6⟩,.inr ⟨_,O,.same O a35⟩,D⟩
   .refine d9l ?_;intro⟨gl,q1⟩ ⟨hs,eC,dY⟩;refine d4P ?_;refine c3L ?_;exact⟨by kernel_rfl,(gl,q1),[0,1,2,4,3],⟨hs,by dsimp only at eC dY⊢;omega,by dsimp only at eC dY⊢;omega⟩,⟨O,O⟩,c3m,.inr ⟨_,O,.same O L6⟩,.inr ⟨_,O,.same O P6⟩,.inr ⟨_,O,.same O a35⟩,.inr ⟨_,O,.same O P6⟩,.inr ⟨_,O,.same O a35⟩,D⟩
 .rintro ⟨gl,q1⟩ ⟨hs,eC,dY⟩;dsimp only at hs eC dY⊢;refine W3 hCC (α:=List Va×Nat) (λ_=>[(3,.ptr 0 0),(4,.ptr 1 0),(5,.ptr 2 0),(6,(.val (.int .u64 wd))),(7,.ptr 3 0),(8,.ptr 4 0)]) (λa=>[x9 l nn a.2,.box (A9 fl (gnn fl.length)),.box (O2 ev (gnn ev.length)),.box (A9 gl (gnn gl.length)),.box (O2 a.1 (gnn a.1.length))]) (λa=>a2Y a.1/\a.2<=7000) A7 uz_ ?_ ?_
  .
   refine qk (qD (c5 O a9C a2y (I4 l nn q1 _ 0 O J hl 1 3 J) O ?_));intro _ _;refine qC ?_ ?_<;>intro h1
   .refine qD (c5 O c5L ⟨D,D⟩ (a12 l nn (q1+1) J hl _ 0 O) O ?_);intro⟨ew,q2⟩ ⟨hew,hq5,hq6⟩;dsimp only at hew hq5 hq6⊢;refine qD (i9 O D D O j3 b1D j1 O O (nb O) ?_);exact⟨(ew,q2),_,⟨hew,do_⟩,tu_,O⟩
   .exact ⟨(ev,q1+1),_,⟨he,do_⟩,tu_,O⟩
  .rintro ⟨ew,q2⟩ ⟨hew,hq5⟩;dsimp only at hew hq5⊢;refine qk (qD (c5 O a6p o4 (J1 l nn q2 _ 0 O J hl 3 J) O ?_));intro _ _;have dm:=a9L (v:=b3C l q2) (n:=3) J;obtain⟨ni,hni⟩:∃ni:Nat,M9 l q2 3=(ni:Int):=⟨(M9 l q2 3).toNat,by unfold M9;omega⟩;have bT:ni<=2:=by unfold M9 at hni;omega
   rw[hni];refine m0 hCC (α:=Nat×List Fi×Nat) (λa=>[(3,.ptr 0 0),(4,.ptr 1 0),(5,.ptr 2 0),(6,(.val (.int .u64 wd))),(7,.ptr 3 0),(8,.ptr 4 0),(9,iv a.1)]) (λa=>[x9 l nn a.2.2,.box (A9 fl (gnn fl.length)),.box (O2 ev (gnn ev.length)),.box (A9 a.2.1 (gnn a.2.1.length)),.box (O2 ew (gnn ew.length))]) (λa=>a.1<=2/\K5 (8780+1240*(2-a.1)) a.2.1/\a.2.2<=7001+1080*(2-a.1)) (λa=>a.1) (ni,gl,q2+1) ⟨bT,hs.mono J,do_⟩ tu_ (aj:=[]) O A7 uz_ ?_;intro⟨i,gl,q3⟩ ⟨hi,hs,hq7⟩;dsimp only at hi hs hq7⊢;refine qk (qC ?_ ?_)<;> intro h2
   .have ah:0<i:=sm_ h2;refine qD (c5 O c3x j7 (a5k l nn q3 J hl (8780+1240*(2-i)) ⟨J,J⟩ gl hs _ 0 O) O ?_);intro⟨gl2,q4⟩ ⟨eO,hq8,hq9⟩;dsimp only at eO hq8 hq9⊢;refine qD (i9 O D D O j3 a9o j1 O O (nb O) ?_);refine V a0k ?_;exact⟨(i-1,gl2,q4),_,⟨do_,do_,by dsimp only;exact eO.mono J,do_⟩,⟨r7,r7,r7,r7,r7,r7,⟨D,D9 (λz:Int=>(iv z)) (show(i:Int) -1=((i-1:Nat):Int) by omega)⟩,D⟩,O⟩
   .have bg:=hm.valid J;refine l9 ?_;refine qD (c5 O Tryz.call48 ⟨D,D⟩ (c9I fl (gnn fl.length) (by have:=hm.len;omega) hm.plen (λp b hd=>by obtain⟨f,hf,hb⟩:=b2E hd;rw[<- hb];have:=hm.byt f hf;omega) (λ_ f hf=>b6n (d5Y bg) hf) (λ_=>⟨by have:=(a92 (fl:=fl)).1;have:=hm.len;omega,a92.2⟩) bg _) O ?_);intro ts ⟨hts,htl⟩;refine V (a0a O D O c1H b1M O) ?_;refine m0 hCC (α:=Nat) (λi=>[(4,.ptr 1 0),(5,.ptr 2 0),(6,(.val (.int .u64 wd))),(7,.ptr 3 0),(8,.ptr 4 0),(47,(.list (ts.map nmC) (gnn ts.length) none)),(48,iv ts.length),(49,iv i)]) (λ_=>[x9 l nn q3,.box (A9 fl (gnn fl.length)),.box (O2 ev (gnn ev.length)),.box (A9 gl (gnn gl.length)),.box (O2 ew (gnn ew.length))]) (λi=>i<=ts.length) (λi=>ts.length -i) 0 (n_4 _) tu_ (aj:=[]) O A7 uz_ ?_;intro j hj;refine qk (qC ?_ ?_)<;> intro h3
    .have ah:j<ts.length:=sm_ h3;obtain⟨x,hb,hxm⟩:=a15 ah;have hx:=hts x hxm;obtain⟨cz,ay⟩:=c1h hm J he hw hx (gnn fl.length) (gnn ev.length);obtain⟨ttz,eM,n,hho,hdep⟩:=d1D hm J he hs J hew hw hx (gnn fl.length) (gnn ev.length) (gnn gl.length) (gnn ew.length);have hcc:=a7Z fl (gnn fl.length) ev (gnn ev.length) (a5X (mcR fl (gnn fl.length) ev (gnn ev.length) wd) x.1 x.2).tr (gnn (a5X (mcR fl (gnn fl.length) ev (gnn ev.length) wd) x.1 x.2).tr.length) J;rw[eM]at hcc;have hhc:=c4k gl (gnn gl.length) ew (gnn ew.length) (a5X (mcR fl (gnn fl.length) ev (gnn ev.length) wd) x.1 x.2).tr (gnn (a5X (mcR fl (gnn fl.length) ev (gnn ev.length) wd) x.1 x.2).tr.length) J ttz (gnn ttz.length);rw[hho]at hhc;refine V (z8 O D D O O c1H c1E J (o7 hb) O) ?_;refine qD (l8 O c25 O j1 ?_);refine qD (i9 O D D O j3 c1E j1 O O (nb O) ?_);refine V (c4 O Tryz.call49 a36 (ay _) O) ?_;refine d4I ?_;refine cC ?_ ?_<;>intro h4
     .exfalso;simp at h4
     .refine qk (V (c4 O Tryz.call17 B7 (hcc _) O) ?_);refine V (c4 O Tryz.call22 a36 (hhc _) O) ?_;refine qG D2 ?_;refine a3l ?_;refine cC ?_ ?_<;>intro h5
      .exfalso;simp at h5
      .refine qk (qC ?_ ?_)<;> intro h6
       .refine l9 ?_;exact c78
       .have hn:n= -1:=H h6;obtain⟨hgx,ie⟩:=hdep hn;obtain⟨_,eA⟩:=c1h hs J hew hw hgx (gnn gl.length) (gnn ew.length);rw[ie]at eA;refine V (c4 O Tryz.call49 a36 (eA _) O) ?_;refine d4I ?_;refine qG (λhg=>J7 O D O c12 b87 O (nb O)) ?_;refine qG (λhg=>J7 O D O c12 b87 O (nb O)) ?_;refine qG (λhg=>c4 O Tryz.call50 ⟨hg,hg,D⟩ (b0o _ cz _) O) ?_;refine b8F ?_;refine cC ?_ ?_<;>intro h7
        .exfalso;simp at h7
        .refine qk ?_;exact c78
    .refine l9 ?_;refine V (c4 O Tryz.call23 trivial (c0B _) O) ?_;refine c6 ?_;exact⟨_,rE1,(by exact⟨(),.ret (.old (.val _)),D⟩)⟩
theorem b0v(l:List Int)(nn:Bool)(hl:l.length<=maxLen)(σ:List b9):b8 CC 10 [.list (l.map icv) nn none] σ λr τ=>r= .ret (.val (.bool true))/\τ=σ:=
 (I0 (res:=λ_:Unit=>.ret (.val (.bool true))) (P:=λ_=>True) hCC (λa h=>by simp at h;subst h;exact F4 _ _) (a9l l nn hl) (λ_ _=>.val _) σ).mono λr τ ⟨_,h1,h2,_⟩=>⟨h1,h2⟩
end Go.Proofs.YtlppbmfecjabeaaGreatDoor
