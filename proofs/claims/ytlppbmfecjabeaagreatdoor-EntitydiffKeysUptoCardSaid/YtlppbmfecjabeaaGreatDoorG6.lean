/- Part 6 of what the claim needs: values without addresses, and what the program's functions do with them. -/
import Derived.Test.YtlppbmfecjabeaaGreatDoorG5
set_option linter.all false
set_option maxRecDepth 100000
set_option maxHeartbeats 4000000
namespace Go.Proofs.YtlppbmfecjabeaaGreatDoor
open Go Go.Cl
variable{fl:List Fi}{ms:SM}{me:EM}{nn:Bool}{σ:List b9}{w q1 q2 t i L b:Nat}{br:List U}{ev:List Va}{x:Src}{p s path o:U}{k:Int}{f:Fi}
theorem a4e{va:Bool}(ao:WAt σ w q1 q2 t fl nn va br ms me)(l:List b9):WAt (σ++l) w q1 q2 t fl nn va br ms me:=⟨a1W ao.hw l,a1W ao.hs l,a1W ao.he l,a1W ao.ht l,ao.nd⟩
structure WOk(fl:List Fi)(ms:SM)(me:EM):Prop where
 len:fl.length<=64
 fb:∀f∈fl,f.p.length<=100/\f.b.length<=100000
 src:∀p s,glk ms p=some s->a10 s
 ent:∀k e,glk me k=some e->b3x ms e
theorem WOk.find(h:WOk fl ms me)(k:Int)(p o:U):b3x ms (a0q true me k p o):=by
 unfold a0q;rw[F J]
 split
 .rename_i x hx;exact h.ent _ _ hx
 .intro h1;cases h1
theorem WOk.imp(h:WOk fl ms me)(f:Fi):(a1I ms f).length<=8/\∀s∈a1I ms f,s.length<=24:=by
 unfold a1I;cases hg:glk ms f.p with
 |none=>exact⟨n_4 _,λs hs=>by cases hs⟩
 |some x=>
  have:=h.src _ _ hg;exact⟨this.impl,λs hs=>B9 (this.imp s hs).1⟩
theorem WOk.allI{fl:List Fi}{ms:SM}{me:EM}(h:WOk fl ms me):(allI ms fl).length<=512:=by
 have:∀l:List Fi,(Go.Proofs.YtlppbmfecjabeaaGreatDoor.allI ms l).length<=8*l.length:=λl=>by
  induction l with
  |nil=>exact n_4 _
  |cons x l ih=>
   have:=(h.imp x).1;unfold Go.Proofs.YtlppbmfecjabeaaGreatDoor.allI at ih⊢;rw[a5A,n_6,C5];omega
 have h1:=this fl;have h2:=h.len;omega
theorem WOk.reach{fl:List Fi}{ms:SM}{me:EM}(h:WOk fl ms me){pkg:U}(hp:pkg.length<=100){n:U}(hr:Reach ms fl pkg n):n.length<=100000:=by
 cases hr with
 |base=>omega
 | @step _ f _ _ _ hs=>have:=(h.imp f).2 _ hs;omega
noncomputable def R7(fl:List Fi)(ms:SM)(me:EM)(ev:List Va)(k:Ky):U:=
 if k.k=1 then a04 ms (a0q true me 1 k.a k.b)else if k.k=2 then a04 ms (a0q true me 2 k.a k.b)else if k.k=3 then a04 ms (a0q true me 3 [] k.a)
 else if k.k=4 then(if(C1 fl k.a).isSome then [61]++(C1 fl k.a).getD []else [45])else if k.k=5 then(if(P3 ev k.a).isSome then [61]++Lib.itoa ((P3 ev k.a).getD 0)else [45])
 else if k.k=6 then R5 ms fl k.a else a63 ms fl k.a
theorem b4Z{b:U}(h:C1 fl s=some b):∃f∈fl,f.b=b:=by
 unfold C1 at h;rw[P2]at h;obtain⟨f,hf,rfl⟩:=h;exact⟨f,c0D hf,J⟩
theorem c8V{v:Int}(fS:∀v∈ev,-9223372036854775808<=v.v/\v.v<=9223372036854775807)(h:P3 ev s=some v): -9223372036854775808<=v/\v<=9223372036854775807:=by
 unfold P3 at h;rw[P2]at h;obtain⟨x,hx,rfl⟩:=h;exact fS x (c0D hx)
theorem e2u(ao:WAt σ w q1 q2 t fl nn true br ms me)(bo:WOk fl ms me)(k:Ky):b8 CC 105 [.ptr w 0,.agg k.cells] σ λr τ=>r= .ret (sv (a04 ms (a0q true me 1 k.a k.b)))/\τ=σ:=by
 refine c7 (cO Tryz.func105 ?_);refine b3E ?_;refine a78 ?_;refine cY a3K ?_;refine cY (o6 J O J Y4 b3f J) ?_;refine cY a3K ?_;refine W (o6 J O J Y4 b3f J) ?_;refine W (c4 J d3n ⟨O,J,O,O,O⟩ (b66 (a4e ao _) 1 k.a k.b) J) ?_;refine W d3w ?_;exact d3J
theorem e02(ao:WAt σ w q1 q2 t fl nn true br ms me)(bo:WOk fl ms me)(k:Ky):b8 CC 107 [.ptr w 0,.agg k.cells] σ λr τ=>r= .ret (sv (a04 ms (a0q true me 2 k.a k.b)))/\τ=σ:=by
 refine c7 (cO Tryz.func107 ?_);refine b3E ?_;refine a78 ?_;refine cY a3K ?_;refine cY (o6 J O J Y4 b3f J) ?_;refine cY a3K ?_;refine W (o6 J O J Y4 b3f J) ?_;refine W (c4 J d3n ⟨O,J,O,O,O⟩ (b66 (a4e ao _) 2 k.a k.b) J) ?_;refine W d3w ?_;exact d3J
theorem e1U(ao:WAt σ w q1 q2 t fl nn true br ms me)(bo:WOk fl ms me)(k:Ky):b8 CC 108 [.ptr w 0,.agg k.cells] σ λr τ=>r= .ret (sv (a04 ms (a0q true me 3 [] k.a)))/\τ=σ:=by
 refine c7 (cO Tryz.func108 ?_);refine b3E ?_;refine a78 ?_;refine cY a3K ?_;refine W (o6 J O J Y4 b3f J) ?_;refine W (c4 J d3n ⟨O,J,J,O,O⟩ (b66 (a4e ao _) 3 [] k.a) J) ?_;refine W d3w ?_;exact d3J
theorem e2d(ao:WAt σ w q1 q2 t fl nn true br ms me)(bo:WOk fl ms me)(k:Ky):b8 CC 109 [.ptr w 0,.agg k.cells] σ λr τ=>r= .ret (sv (if(C1 fl k.a).isSome then [61]++(C1 fl k.a).getD []else [45]))/\τ=σ:=by
 refine c7 (cO Tryz.func109 ?_);refine b3E ?_;refine z_4 ?_;refine cY a3K ?_;refine W (o6 J O J Y4 b3f J) ?_;refine W (c4 J Tryz.call110 i7 (d5Y (a4e ao _) k.a (by have:=bo.len;omega)) J) ?_;refine qk ?_;refine cC ?_ ?_<;>intro h1
 .have u1:(C1 fl k.a).isSome=false:=I h1;refine b4S ?_;exact⟨_,rE1,_,_,J,J,D9 (by rw[u1];rfl)⟩
 .have u1:(C1 fl k.a).isSome=true:=I h1;obtain⟨b,hb⟩:=b8M.1 u1;obtain⟨f,hf,gW⟩:=b4Z hb;have ak:=(bo.fb f hf).2;rw[hb];refine qk (W (I2 J J O J J (by show 1+b.length<=_;rw[<- gW];omega)) ?_);refine c6 ?_;exact⟨_,rE1,_,_,J,J,D9 (show str ([61]++(some b).getD [])=_ from J)⟩
theorem e17(ao:WAt σ w q1 q2 t fl nn true br ms me)(bo:WOk fl ms me)(k:Ky):b8 CC 114 [.ptr w 0,.agg k.cells] σ λr τ=>r= .ret (sv (R5 ms fl k.a))/\τ=σ:=by
 refine c7 (cO Tryz.func114 ?_);refine b3E ?_;refine z_4 ?_;refine cY a3K ?_;refine W (o6 J O J Y4 b3f J) ?_;refine W (c4 J Tryz.call115 i7 (b7W (a4e ao _) k.a (by have:=bo.len;omega) bo.fb) J) ?_;exact d3J
theorem e2H(ao:WAt σ w q1 q2 t fl nn true br ms me)(bo:WOk fl ms me)(k:Ky)(hka:k.a.length<=100):b8 CC 116 [.ptr w 0,.agg k.cells] σ λr τ=>r= .ret (sv (a63 ms fl k.a))/\τ=σ:=by
 refine c7 (cO Tryz.func116 ?_);refine b3E ?_;refine z_4 ?_;refine cY a3K ?_;refine W (o6 J O J Y4 b3f J) ?_;refine W (c4 J Tryz.call117 i7 (d6S (a4e ao _) k.a bo.len bo.fb bo.allI (bo.reach hka)) J) ?_;exact d3J
theorem e14{q:Nat}(hq:σ[q]?=some (.box (E7 ev nn)))(fS:∀v∈ev,-9223372036854775808<=v.v/\v.v<=9223372036854775807)(dR:ev.length<=1000000000)(k:Ky):b8 CC 111 [.ptr w 0,.agg k.cells,.ptr q 0] σ λr τ=>r= .ret (sv (if(P3 ev k.a).isSome then [61]++Lib.itoa ((P3 ev k.a).getD 0)else [45]))/\τ=σ:=by
 refine c7 (cO Tryz.func111 ?_);refine b3E ?_;refine z_0 ?_;refine cY (O4 J O J b86 b6r (a1W hq _) (nb J)) ?_;refine cY a3K ?_;refine W (o6 J O J Y4 b3f J) ?_;refine W (c4 J Tryz.call112 i7 (b3F ev nn k.a dR _) J) ?_;refine qk ?_;refine cC ?_ ?_<;>intro h1
 .have u1:(P3 ev k.a).isSome=false:=I h1;refine b4S ?_;exact⟨_,rE1,_,_,J,J,D9 (by rw[u1];rfl)⟩
 .have u1:(P3 ev k.a).isSome=true:=I h1;obtain⟨v,hv⟩:=b8M.1 u1;have hvr:=c8V fS hv;rw[hv];have bm:=a5F hvr.1 hvr.2;refine qk (W (c4 J d1L ⟨O,O⟩ (c1j v hvr.1 hvr.2 _) J) ?_);refine W (I2 J J O J J (by show 1+(Lib.itoa v).length<=_;omega)) ?_;refine c6 ?_;exact⟨_,rE1,_,_,J,J,D9 (show str ([61]++Lib.itoa v)=_ from J)⟩
theorem b6L:∀{pv:Option Fi} {l:List Fi},rvE pv l=0->(∀g,pv=some g->∀f∈l,g.p <f.p)/\l.Pairwise λa b=>a.p <b.p
 |_,[],_=>⟨λ_ _ f hf=>(by cases hf),List.Pairwise.nil⟩
 |pv,x::l,h=>by
  rw[rvE]at h;split at h
  .rename_i hs;obtain⟨h1,h2⟩:=b6L h;have hx:∀g,pv=some g->g.p <x.p:=λg hg=>by
    subst hg;unfold L6 at hs;split at hs
    .cases hs
    .split at hs
     .cases hs
     .rename_i h3;split at hs
      .cases hs
      .rename_i h4;simp only[Option.any_some,a1G]at h3 h4;rw[bytesLess_eq,a1G]at h4
       rcases List.le_total g.p x.p with h5|h5
       .rcases Decidable.em (g.p <x.p)with h6|h6
        .exact h6
        .exact absurd (c27 h5 (List.not_lt.1 h6)).symm h3
       .rcases Decidable.em (g.p <x.p)with h6|h6
        .exact h6
        .exact absurd (c27 h5 (List.not_lt.1 h4)) h3
   refine⟨λg hg f hf=>?_,.cons (λf hf=>h1 x J f hf) h2⟩
   rcases J0.1 hf with rfl|hf
   .exact hx g hg
   .exact List.lt_trans (hx g hg) (h1 x J f hf)
  .rename_i hs;exact absurd h hs
structure WI(seen:List U)(ms:SM)(me:EM):Prop where
 src:∀p x,glk ms p=some x->a10 x/\p∈seen
 ent:∀k e,glk me k=some e->1<=e.ct/\b3x ms e
theorem b7R{ms:SM}{path:U}{x:Src}(hg:glk ms path=some x)(hx:a10 x):∀(n k:Nat) (me:EM),x.decls.length -k=n->(∀k e,glk me k=some e->1<=e.ct/\b3x ms e)->∀q e,glk (addDs me path x.pkg (x.decls.drop k) k) q=some e->1<=e.ct/\b3x ms e
 |0,k,me,hn,h,q,e,he=>by
  rw[T6 X,addDs]at he;exact h q e he
 |n+1,k,me,hn,h,q,e,he=>by
  obtain⟨d,hd⟩:=gx_ x.decls k;rw[a7u hd]at he;refine b7R hg hx n (k+1) _ X (λq e he=>?_) q e he;rw[a3e,Q1]at he;split at he
  .injection he with he
   subst he
   split
   .rename_i f hf;obtain⟨h1,_⟩:=h _ _ hf;exact⟨by simp only;omega,λhc=>by simp only at hc;omega⟩
   .exact ⟨b33 _,λ_=>⟨x,d,k,hg,hx,J,hd⟩⟩
  .exact h q e he
theorem b3x.put{e:En}(h:b3x ms e)(hp:glk ms path=none):b3x (V8 ms path x) e:=λhc=>by
 obtain⟨s,d,i,h1,h2⟩:=h hc;refine⟨s,d,i,?_,h2⟩;rw[Q1,D]
 .exact h1
 .intro he;rw[he,hp]at h1;cases h1
theorem d2U{seen:List U}{s:WS}(h:WI seen s.2.1 s.2.2)(hf:f.p∉seen):WI (f.p::seen) (a0w s f).2.1 (a0w s f).2.2:=by
 have hw:WI (f.p::seen) s.2.1 s.2.2:=⟨λp x hp=>⟨(h.src p x hp).1,a6D _ (h.src p x hp).2⟩,h.ent⟩;unfold a0w
 split
 .split
  .exact hw
  .rename_i x hx;have hn:glk s.2.1 f.p=none:=by
    cases hg:glk s.2.1 f.p with
    |none=>rfl
    |some y=>exact absurd (h.src _ _ hg).2 hf
   have bo:=a9t hx;refine⟨λp y hp=>?_,?_⟩
   .simp only[Q1]at hp;split at hp
    .rename_i e;injection hp with hp
     subst hp;exact⟨bo,by rw[e];simp⟩
    .exact ⟨(h.src p y hp).1,a6D _ (h.src p y hp).2⟩
   .have hg:glk (V8 s.2.1 f.p x) f.p=some x:=by rw[Q1,F J]
    have:=b7R hg bo _ 0 s.2.2 J (λk e he=>⟨(h.ent k e he).1,(h.ent k e he).2.put hn⟩);simpa using this
 .exact hw
theorem c4Q:∀{l:List Fi} {seen:List U} {s:WS},WI seen s.2.1 s.2.2->(∀f∈l,f.p∉seen)->(l.Pairwise λa b=>a.p <b.p)->∃seen',WI seen' (a8d l s).2.1 (a8d l s).2.2
 | [],seen,s,h,_,_=>⟨seen,h⟩
 |f::l,seen,s,h,hn,hp=>by
  have h1:=d2U h (hn f H);refine c4Q (l:=l) h1 (λg hg hm=>?_) (a5N.1 hp).2
  rcases J0.1 hm with hm|hm
  .have:=(a5N.1 hp).1 g hg;rw[hm]at this;exact absurd this (List.lt_irrefl _)
  .exact hn g (by simp[hg]) hm
theorem c3Q(h:x8 fl=0):WOk fl (A5 fl).2.1 (A5 fl).2.2:=by
 obtain⟨h1,h2⟩:=X5 h;have h0:rvE none fl=0:=by
  unfold x8 at h;split at h
  .cases h
  .exact h
 obtain⟨seen,h3⟩:=c4Q (l:=fl) (seen:=[]) (s:=([],[],[])) ⟨λp x hp=>(by cases hp),λk e he=>(by cases he)⟩ (λf _ hm=>(by cases hm)) (b6L h0).2;rw[A5,F h];exact⟨h1,λf hf=>by have:=M5 (h2 f hf).1;have:=(h2 f hf).2;omega,λp s hp=>(h3.src p s hp).1,λk e he=>(h3.ent k e he).2⟩
abbrev fv(f:FuncId):CV:=.val (.func (.func f) #[] #[])
def a0x(b:Nat):List (Int×CV):=[(1,fv 105),(2,fv 107),(3,fv 108),(4,fv 109),(5,.clo 111 [.ptr b 0]),(6,fv 114),(7,fv 116)]
abbrev cmO(b:Nat):b9:=.map (gm kv (λc:CV=>c) (a0x b))
def cfv(b:Nat)(k:Int):CV:=(glk (a0x b) k).getD (I5 .nilFunc)
theorem d5h(h:b<L):I6 L (cmO b):=λx hx=>by
 obtain⟨y,hy,rfl⟩:=D5.1 hx;refine⟨.val _,?_⟩;simp only[a0x,J0,a6A,or_false]at hy
 rcases hy with rfl|rfl|rfl|rfl|rfl|rfl|rfl
 .exact .val _
 .exact .val _
 .exact .val _
 .exact .val _
 .refine .clo λi c hi=>?_
  rcases i with _|i
  .injection hi with hi;subst hi;exact .ptr h
  .cases hi
 .exact .val _
 .exact .val _
theorem d4M{R:Nat->Nat->Prop}{b':Nat}(h:R b b'):I8 R (cmO b) (cmO b'):=.map ⟨J,λi x x' h1 h2=>by
 rcases i with _|_|_|_|_|_|_|i
 .injection h1 with h1;injection h2 with h2;subst h1 h2;exact⟨.pure (.val _),.pure (.val _)⟩
 .injection h1 with h1;injection h2 with h2;subst h1 h2;exact⟨.pure (.val _),.pure (.val _)⟩
 .injection h1 with h1;injection h2 with h2;subst h1 h2;exact⟨.pure (.val _),.pure (.val _)⟩
 .injection h1 with h1;injection h2 with h2;subst h1 h2;exact⟨.pure (.val _),.pure (.val _)⟩
 .injection h1 with h1;injection h2 with h2;subst h1 h2
  refine⟨.pure (.val _),.clo J λi c c' g g'=>?_⟩
  rcases i with _|i
  .injection g with g;injection g' with g';subst g g';exact .ptr h
  .cases g
 .injection h1 with h1;injection h2 with h2;subst h1 h2;exact⟨.pure (.val _),.pure (.val _)⟩
 .injection h1 with h1;injection h2 with h2;subst h1 h2;exact⟨.pure (.val _),.pure (.val _)⟩
 .cases h1⟩
theorem b7g(ev:List Va)(en:Bool):b8 CC 58 [.agg (E7 ev en)] [] λr τ=>∃_:Unit,r= .ret (.map 1)/\τ=[.box (E7 ev en),cmO 0]/\True:=by
 refine qO Tryz.func58 ?_;refine qD (I0 J O j3 j5 ?_);refine qD (V3 J ?_);refine qD (o3 (vc:=λc:CV=>c) (l:=(a0x 0).take 0) (a:=1) (b:=((a0x 0).getD 0 (0,fv 0)).2) a0X (.inr J) O J O J J J b85 J ?_);refine qD (o3 (vc:=λc:CV=>c) (l:=(a0x 0).take 1) (a:=2) (b:=((a0x 0).getD 1 (0,fv 0)).2) a0X (.inr J) O J O J J J b85 J ?_);refine qD (o3 (vc:=λc:CV=>c) (l:=(a0x 0).take 2) (a:=3) (b:=((a0x 0).getD 2 (0,fv 0)).2) a0X (.inr J) O J O J J J b85 J ?_);refine qD (o3 (vc:=λc:CV=>c) (l:=(a0x 0).take 3) (a:=4) (b:=((a0x 0).getD 3 (0,fv 0)).2) a0X (.inr J) O J O J J J b85 J ?_);refine W (a8Y J ⟨O,O⟩) ?_;refine qD (o3 (vc:=λc:CV=>c) (l:=(a0x 0).take 4) (a:=5) (b:=((a0x 0).getD 4 (0,fv 0)).2) a0X (.inr J) O J O J J J b85 J ?_);refine qD (o3 (vc:=λc:CV=>c) (l:=(a0x 0).take 5) (a:=6) (b:=((a0x 0).getD 5 (0,fv 0)).2) a0X (.inr J) O J O J J J b85 J ?_);refine qD (o3 (vc:=λc:CV=>c) (l:=(a0x 0).take 6) (a:=7) (b:=((a0x 0).getD 6 (0,fv 0)).2) a0X (.inr J) O J O J J J b85 J ?_);refine c6 ?_;exact⟨_,rE1,(by exact⟨(),J,J,O⟩)⟩
theorem b9W(ev:List Va)(en:Bool)(σ:List b9):b8 CC 58 [.agg (E7 ev en)] σ λr τ=>∃_:Unit,r= .ret (.map (σ.length+1))/\τ=σ++[.box (E7 ev en),cmO σ.length]/\True:=
 W8 (α:=Unit) hCC (λa ha=>by simp at ha;subst ha;exact r6 ⟨a2q _ _,O⟩) (res:=λ_=>.ret (.map 1)) (res':=λ_ m=>.ret (.map (m+1))) (S:=λ_=>[.box (E7 ev en),cmO 0]) (S':=λ_ m=>[.box (E7 ev en),cmO m]) (P:=λ_=>True) (b7g ev en) (λ_ _=>J) (λ_ m i x h=>by
  rcases i with _|_|i
  .injection h with h;subst h;exact⟨_,J,.box (L9 (λc hc=>by simp at hc;subst hc;exact a2q _ _))⟩
  .injection h with h;subst h;exact⟨_,J,d4M H⟩
  .cases h) (λ_ m=>.ret (.map J)) σ
theorem b2Y{k:Ky}(h:Q9 k=true):(k.k=1\/k.k=2\/k.k=3\/k.k=4\/k.k=5\/k.k=6\/k.k=7)/\k.a.length<=100:=by
 unfold Q9 at h;split at h
 .rename_i h1;simp only[a8Z,beq_iff_eq]at h1;simp only[T7]at h;have:=B9 h.1;exact⟨X,X⟩
 .split at h
  .rename_i h1;simp only[a8Z,beq_iff_eq]at h1;simp only[T7]at h;have:=M5 h.1;exact⟨X,X⟩
  .split at h
   .rename_i h1;simp only[a8Z,beq_iff_eq]at h1;simp only[T7]at h;have:=B9 h.1;exact⟨X,X⟩
   .cases h
theorem e0D(ao:WAt σ w q1 q2 t fl nn true br ms me)(bo:WOk fl ms me){en:Bool}(hb:σ[b]?=some (.box (E7 ev en)))(fS:∀v∈ev,-9223372036854775808<=v.v/\v.v<=9223372036854775807)(dR:ev.length<=1000000000){k:Ky}(hk:Q9 k=true):
 c3l CC (cfv b k.k) [.ptr w 0,.agg k.cells] σ (sv (R7 fl ms me ev k)):=by
 obtain⟨gH,hka⟩:=b2Y hk
 rcases gH with h|h|h|h|h|h|h
 .refine .inl ⟨105,by rw[h];rfl,Tryz.call105,?_⟩;rw[R7,F h];exact e2u ao bo k
 .refine .inl ⟨107,by rw[h];rfl,Tryz.call107,?_⟩;rw[R7,D X,F h];exact e02 ao bo k
 .refine .inl ⟨108,by rw[h];rfl,Tryz.call108,?_⟩;rw[R7,D X,D X,F h];exact e1U ao bo k
 .refine .inl ⟨109,by rw[h];rfl,Tryz.call109,?_⟩;rw[R7,D X,D X,D X,F h];exact e2d ao bo k
 .refine .inr ⟨111,[.ptr b 0],by rw[h];rfl,Tryz.call111,?_⟩;rw[R7,D X,D X,D X,D X,F h];exact e14 hb fS dR k
 .refine .inl ⟨114,by rw[h];rfl,Tryz.call114,?_⟩;rw[R7,D X,D X,D X,D X,D X,F h];exact e17 ao bo k
 .refine .inl ⟨116,by rw[h];rfl,Tryz.call116,?_⟩;rw[R7,D X,D X,D X,D X,D X,D X];exact e2H ao bo k hka
noncomputable def F6(fl:List Fi)(ev:List Va)(l:List Ky):Option (List U):=
 if x8 fl=0/\J9 ev=true/\l.all Q9=true then some (l.map (R7 fl (A5 fl).2.1 (A5 fl).2.2 ev))else none
def c3S(o:Option (List U)):CV:=.tup [.list ((o.getD []).map scv) (gnn (o.getD []).length) none,iv (if o.isSome then 0 else 1)]
theorem d9t(b:Nat)(k:Int):((glk (a0x b) k).map λc:CV=>c).getD (I5 .nilFunc)=cfv b k:=by unfold cfv;cases glk (a0x b) k<;>rfl
theorem c61{p:Ky->Bool}{l:List Ky}{y:Ky}(h:l[i]?=some y)(ha:(l.take i).all p=true)(hy:p y=true):(l.take (i+1)).all p=true:=by
 rw[a1H,h,List.all_append,ha];simp[hy]
theorem c9g{p:Ky->Bool}{l:List Ky}{y:Ky}(h:l[i]?=some y)(hy:p y=false):l.all p≠true:=λhh=>by
 rw[a40]at hh;rw[hh y (n_2 h)]at hy;cases hy
theorem b6h(fl:List Fi)(nn:Bool)(cP:∀f∈fl,f.p.length<=1000000000)(ev:List Va)(en:Bool)(hvr:∀v∈ev,-9223372036854775808<=v.v/\v.v<=9223372036854775807)(l:List Ky)(nk:Bool)(hl:l.length<=1000000000)(hk:∀k∈l,k.a.length<=1000000000/\k.b.length<=1000000000):b8 CC 16 [.agg (o4 fl nn),.agg (E7 ev en),.list (l.map Ky.cv) nk none] [] λr τ=>∃_:Unit,a1t 0 τ r (.ret (c3S (F6 fl ev l)))/\True:=by
 refine qO Tryz.func16 ?_;refine z_7 ?_;refine qD (c5 J Tryz.call56 ⟨O,O⟩ (d3m fl nn cP _) J ?_);intro _ _;refine qG d3N ?_;refine qG (λhg=>c4 J d1R ⟨hg,O⟩ (V5 ev en _) J) ?_;refine a9R ?_;refine cC ?_ ?_<;>intro h1
 .have hv:¬(x8 fl=0/\J9 ev=true/\l.all Q9=true):=by
   rintro⟨u1,u2,_⟩;simp[u1,u2]at h1
  refine b4S ?_;exact⟨_,r3 (rs:=[.tmp 6,.tmp 7]) (cs:=[_,_]) J T8 (n_5 J),(by rw[F6,D hv];exact⟨(),.ret (.tups ⟨.old (A6 _ ([]:List U) _),.old (.val _),O⟩),O⟩)⟩
 .have hv:x8 fl=0/\J9 ev=true:=I h1;have bo:=c3Q hv.1;have hva:(x8 fl == 0)=true:=by simp[hv.1]
  rw[hva];refine qk (qD (c5 J Tryz.call58 ⟨O,O⟩ (b9W ev en _) J ?_));intro _ _;refine W a4W ?_;refine A2 hCC 8 J (α:=Nat) (λi=>[(8,.ptr 2 0),(9,.map 7),(10,(.list (((l.take i).map (R7 fl (A5 fl).2.1 (A5 fl).2.2 ev)).map scv) (gnn ((l.take i).map (R7 fl (A5 fl).2.1 (A5 fl).2.2 ev)).length) (C3 ((l.take i).map (R7 fl (A5 fl).2.1 (A5 fl).2.2 ev)).length 8))),(27,(.list (l.map Ky.cv) nk none)),(28,iv l.length),(29,iv i)]) (λi=>[.box (o4 fl nn),.box (E7 ev en),wbx fl nn true (A5 fl).1 3 4 5,smO (A5 fl).2.1,emO (A5 fl).2.2,o5 (A5 fl).1.length,.box (E7 ev en),cmO 6,o5 ((l.take i).map (R7 fl (A5 fl).2.1 (A5 fl).2.2 ev)).length]) (λi=>i<=l.length/\(l.take i).all Q9=true) (λi=>l.length -i) ⟨0,[0,1,2,3,4,5,6,7,13],⟨n_4 _,J⟩,⟨J,J⟩,ut_,uq_⟩ ?_;intro i ⟨hi,bv⟩;refine qk (qC ?_ ?_)<;> intro h2
  .have ab:i<l.length:=sm_ h2;obtain⟨y,hy⟩:∃y,l[i]?=some y:=⟨l[i]'ab,H⟩;have dY:=hk y (n_2 hy);refine W (p9 J O O J J t_5 t_3 X (j1 hy) J) ?_;refine d3u ?_;refine W (c4 J Tryz.call59 ⟨O,O⟩ (c2A y dY.1 dY.2 _) J) ?_;refine qC ?_ ?_<;>intro h3
   .have cE:¬(x8 fl=0/\J9 ev=true/\l.all Q9=true):=λu=>c9g hy (I h3) u.2.2;refine c6 ?_;exact⟨_,r3 (rs:=[.tmp 6,.tmp 7]) (cs:=[_,_]) J T8 (n_5 J),(by rw[F6,D cE];exact⟨(),.ret (.tups ⟨.old (A6 _ ([]:List U) _),.old (.val _),O⟩),O⟩)⟩
   .have hyk:Q9 y=true:=I h3;have htk1:l.take (i+1)=l.take i++[y]:=by rw[a1H,hy];rfl
    refine W (U4 (vc:=λc:CV=>c) (l:=a0x 6) (a:=y.k) a0X J O O J J b85 Tryz.zeroValue115 J J (d9t 6 y.k)) ?_;refine W (c53 J O J i7 (by exact e0D (w:=2) (q1:=3) (q2:=4) (t:=5) (b:=6) ⟨J,J,J,J,b1G ⟨G,G,G,G,G,G⟩⟩ bo J hvr (a82 (c7r hv.2) (nb J)) hyk) J) ?_;refine W (B1 [scv ((R7 fl (A5 fl).2.1 (A5 fl).2.2 ev) y)] J ⟨O,O⟩ t_2 t_0 t_4 J J J J J J J J J) ?_;refine qD (A4 J O O J H q_5 t_2 t_0 a3p t_4 J (.inr J) K2 Z6 B7 (((l.take (i+1)).map (R7 fl (A5 fl).2.1 (A5 fl).2.2 ev)).map scv) ((l.take (i+1)).map (R7 fl (A5 fl).2.1 (A5 fl).2.2 ev)).length (by rw[htk1,a3j,a3j];rfl) (by rw[htk1];simp) ?_);refine W j9 ?_;exact⟨(i+1),[0,1,2,3,4,5,6,7,10],⟨X,X,c61 hy bv hyk⟩,⟨J,J⟩,ut_,uq_⟩
  .have aF:l.length<=i:=sm_ h2;have hta:l.take i=l:=R3 aF;refine z_9 ?_;exact⟨_,r3 (rs:=[.tmp 6,.tmp 7]) (cs:=[_,_]) J T8 (n_5 J),(by rw[F6,F ⟨hv.1,hv.2,by rw[<- hta];exact bv⟩,hta];exact⟨(),.ret (.tups ⟨.tok (λr hr c hc=>(C0 (f:=scv) (λ_=>O0.all ⟨.val _,O⟩) _) r hr c hc),.old (.val _),O⟩),O⟩)⟩
theorem c1W(o:Option (List U)):r5 (c3S o):=D7 (cs:=[_,_]) ⟨F3 _ _,.val _,O⟩
theorem a28(fl:List Fi)(nn:Bool)(cP:∀f∈fl,f.p.length<=1000000000)(ev:List Va)(en:Bool)(hvr:∀v∈ev,-9223372036854775808<=v.v/\v.v<=9223372036854775807)(l:List Ky)(nk:Bool)(hl:l.length<=1000000000)(hk:∀k∈l,k.a.length<=1000000000/\k.b.length<=1000000000)(σ:List b9):b8 CC 16 [.agg (o4 fl nn),.agg (E7 ev en),.list (l.map Ky.cv) nk none] σ λr τ=>r= .ret (c3S (F6 fl ev l))/\τ=σ:=
 (F5 (res:=λ_:Unit=>.ret (c3S (F6 fl ev l))) (P:=λ_=>True) hCC (λa h=>by simp at h;rcases h with rfl|rfl|rfl;exact r6 (cs:=o4 _ _) ⟨K6 _ _,O⟩;exact r6 (cs:=E7 _ _) ⟨a2q _ _,O⟩;exact V1 _ _) (b6h fl nn cP ev en hvr l nk hl hk) (λ_ _=>c1W _) σ).mono λr τ ⟨_,h1,h2,_⟩=>⟨h1,h2⟩
theorem c71{k:List Ky}{l:List U}(h:F6 fl ev k=some l):l=k.map (R7 fl (A5 fl).2.1 (A5 fl).2.2 ev):=by
 unfold F6 at h;split at h
 .injection h with h;exact h.symm
 .cases h
theorem c9f{d:De}(h:DeG d){u o:Int}{nm:U}(hb:d.body=[⟨k,u,o,nm,[]⟩]):X1 d=(Tr.n k u o nm []).txt d.params 0:=by
 obtain⟨t,h1,h2,h3⟩:=a8n h;rw[h3];rw[hb]at h1;have hl:=Tr.flat_len t 0;rw[<- h1]at hl
 rcases t with⟨k',u',o',nm',ch⟩
 have dh:ch=[]:=by
  rcases ch with _|⟨c,ch⟩
  .rfl
  .have:=c.size_pos;simp only[Tr.size,A0,C5,J6]at hl;omega
 subst dh;simp only[Tr.flat,K9,o7,a1D,List.cons.injEq,Ex.mk.injEq,and_true]at h1;obtain⟨rfl,rfl,rfl,rfl⟩:=h1;rfl
def Z0(f:Fi):Option Src:=if a4T f.p=true then Q8 f.b else none
def deK(x:Src)(d:De):Nm:=F1 d.k x.pkg d.name
def b8U(q:Nm)(f:Fi):List (Src×De):=match Z0 f with
 |none=>[]
 |some x=>(x.decls.filter λd=>decide (deK x d=q)).map λd=>(x,d)
def occ(q:Nm)(fl:List Fi):List (Src×De):=fl.flatMap (b8U q)
noncomputable def e03:List (Src×De)->U
 | []=>[45]
 | [(x,d)]=>[61]++a1L x d
 |_=>[63]
def a8S(ms:SM)(o:Option En):List (Src×De)->Prop
 | []=>o=none
 |(x,d)::t=>∃e,o=some e/\e.ct=1+(t.length:Int)/\glk ms e.pl=some x/\0<=e.ix/\x.decls[e.ix.toNat]?=some d
theorem a8S.add{Jb:Nm->List (Src×De)}(h:∀q,a8S ms (glk me q) (Jb q)){d:De}(hg:glk ms path=some x)(hd:x.decls[i]?=some d)(q:Nm):a8S ms (glk (a3e me ⟨x.pkg,d.name,d.k,path,(i:Int),1⟩) q) (Jb q++if deK x d=q then [(x,d)]else []):=by
 rw[a3e,Q1];show a8S ms (if q=F1 d.k x.pkg d.name then _ else _) _;by_cases hq:deK x d=q
 .rw [F hq];subst hq;have h1:=h (deK x d);rw[F (show deK x d=F1 d.k x.pkg d.name from J)];cases hO:Jb (deK x d)with
  |nil=>
   rw[hO]at h1;have h1:glk me (F1 d.k x.pkg d.name)=none:=h1;simp only[h1];exact⟨_,J,J,hg,Int.natCast_nonneg _,I hd⟩
  |cons y t=>
   obtain⟨y,z⟩:=y;rw[hO]at h1;obtain⟨e,h2,h3,h4,h5,h6⟩:=h1;have h2:glk me (F1 d.k x.pkg d.name)=some e:=h2;simp only[h2];refine⟨_,J,?_,h4,h5,h6⟩;show e.ct+1=1+((t++[(x,d)]).length:Int);rw[h3,n_6];simp only[C5,J6];omega
 .rw [D hq,a0z];rw[D (λe=>hq e.symm)];exact h q
theorem a8S.addDs{ms:SM}{path:U}{x:Src}(hg:glk ms path=some x):∀(n k:Nat) (me:EM) (Jb:Nm->List (Src×De)),x.decls.length -k=n->(∀q,a8S ms (glk me q) (Jb q))->∀q,a8S ms (glk (addDs me path x.pkg (x.decls.drop k) k) q) (Jb q++(((x.decls.drop k).filter λd=>decide (deK x d=q)).map λd=>(x,d)))
 |0,k,me,Jb,hn,h,q=>by
  rw[T6 X,Go.Proofs.YtlppbmfecjabeaaGreatDoor.addDs];simpa using h q
 |n+1,k,me,Jb,hn,h,q=>by
  obtain⟨d,hd⟩:=gx_ x.decls k;rw[a7u hd];have h1:=a8S.addDs hg n (k+1) _ _ X (λq=>a8S.add h hg hd q) q;have hdr:x.decls.drop k=d::x.decls.drop (k+1):=by
   obtain⟨ab,rfl⟩:=n_3.1 hd;exact R0 ab
  rw[hdr,a7o];by_cases hq:deK x d=q
  .rw [F (I hq),b0t];rw[F hq,C7]at h1;exact h1
  .rw [D (I hq)];rw[D hq,a0z]at h1;exact h1
theorem a8S.put{o:Option En}{l:List (Src×De)}(h:a8S ms o l)(hp:glk ms path=none):a8S (V8 ms path x) o l:=by
 rcases l with _|⟨⟨y,d⟩,t⟩
 .exact h
 .obtain ⟨e,h1,h2,h3,h4⟩:=h;refine⟨e,h1,h2,?_,h4⟩;rw[Q1,D]
  .exact h3
  .intro he;rw[he,hp]at h3;cases h3
structure WRd(dn:List Fi)(ms:SM)(me:EM):Prop where
 src:∀f∈dn,glk ms f.p=Z0 f
 non:∀p,(∀f∈dn,f.p≠p)->glk ms p=none
 ent:∀q,a8S ms (glk me q) (occ q dn)
theorem WRd.step{dn:List Fi}{s:WS}(h:WRd dn s.2.1 s.2.2)(hf:∀g∈dn,g.p≠f.p):WRd (dn++[f]) (a0w s f).2.1 (a0w s f).2.2:=by
 have hnone:=h.non f.p hf;have hocc:∀q,occ q (dn++[f])=occ q dn++b8U q f:=λq=>by simp[occ]
 cases hs:Z0 f with
 |none=>
  have hw:(a0w s f).2=s.2:=by
   unfold a0w;unfold Z0 at hs
   split
   .rename_i h1;rw[F h1]at hs;rw[hs]
   .rfl
  have e1:(a0w s f).2.1=s.2.1:=by rw[hw]
  have e2:(a0w s f).2.2=s.2.2:=by rw[hw]
  rw[e1,e2];refine⟨λg hg=>?_,λp hp=>h.non p λg hg=>hp g (by simp[hg]),λq=>?_⟩
  .rcases J5.1 hg with hg|hg
   .exact h.src g hg
   .rw [b0s.1 hg,hs];exact hnone
  .rw [hocc,b8U,hs,a0z];exact h.ent q
 |some x=>
  have hw:(a0w s f).2=(V8 s.2.1 f.p x,addDs s.2.2 f.p x.pkg x.decls 0):=by
   unfold a0w;unfold Z0 at hs;split at hs
   .rename_i h1;rw[F h1,hs]
   .cases hs
  have e1:(a0w s f).2.1=V8 s.2.1 f.p x:=by rw[hw]
  have e2:(a0w s f).2.2=addDs s.2.2 f.p x.pkg x.decls 0:=by rw[hw]
  rw[e1,e2];refine⟨λg hg=>?_,λp hp=>?_,λq=>?_⟩
  .rw [Q1]
   rcases J5.1 hg with hg|hg
   .rw [D (hf g hg)];exact h.src g hg
   .rw [b0s.1 hg,F J,hs]
  .rw [Q1,D (λe=>hp f H e.symm)];exact h.non p λg hg=>hp g (by simp[hg])
  .rw [hocc,b8U,hs];have hg:glk (V8 s.2.1 f.p x) f.p=some x:=by rw[Q1,F J]
   have:=a8S.addDs hg _ 0 s.2.2 (λq=>occ q dn) J (λq=>(h.ent q).put hnone) q;simpa using this
theorem WRd.all:∀{l dn:List Fi} {s:WS},WRd dn s.2.1 s.2.2->(l.Pairwise λa b=>a.p≠b.p)->(∀g∈dn,∀f∈l,g.p≠f.p)->WRd (dn++l) (a8d l s).2.1 (a8d l s).2.2
 | [],dn,s,h,_,_=>by simpa[a8d]using h
 |f::l,dn,s,h,hp,hd=>by
  have h1:=h.step (f:=f) λg hg=>hd g hg f H;obtain⟨fj,cl⟩:=a5N.1 hp;have:=WRd.all (l:=l) h1 cl (λg hg e he=>by
   rcases J5.1 hg with hg|hg
   .exact hd g hg e (by simp[he])
   .rw [b0s.1 hg];exact fj e he)
  rw[C7]at this;exact this
theorem e1J(h:x8 fl=0):fl.Pairwise λa b=>a.p≠b.p:=by
 have h0:rvE none fl=0:=by
  unfold x8 at h;split at h
  .cases h
  .exact h
 exact(b6L h0).2.imp λ{a b} cI he=>by rw[he]at cI;exact List.lt_irrefl _ cI
theorem a7N(h:x8 fl=0):WRd fl (A5 fl).2.1 (A5 fl).2.2:=by
 have:=WRd.all (l:=fl) (dn:=[]) (s:=([],[],[])) ⟨λf hf=>by simp at hf,λp _=>J,λq=>J⟩ (e1J h) (λg hg=>by simp at hg);rw[A5,F h];simpa using this
theorem b35(h:glk me (F1 k p o)=none):(a0q true me k p o).ct=0:=by
 unfold a0q;rw[F J,h]
theorem c6c(h:x8 fl=0)(k:Int)(p o:U):a04 (A5 fl).2.1 (a0q true (A5 fl).2.2 k p o)=e03 (occ (F1 k p o) fl):=by
 have h1:=(a7N h).ent (F1 k p o);cases hO:occ (F1 k p o) fl with
 |nil=>
  rw[hO]at h1;unfold a04;rw[F (b35 h1)];rfl
 |cons y t=>
  obtain⟨x,d⟩:=y;rw[hO]at h1;obtain⟨e,h2,h3,h4,h5,h6⟩:=h1;have he:a0q true (A5 fl).2.2 k p o=e:=by
   unfold a0q;rw[F J,h2]
  rw[he];unfold a04;rw[D X];cases t with
  |nil=>
   rw[F (I h3)];unfold c0B;rw[h4];simp only[n_9,h6,b83,a9B];rfl
  |cons z t=>
   rw[D (by rw[h3,C5];omega)];rfl
theorem a7x(h:x8 fl=0)(pkg:U):B6 (A5 fl).2.1 fl pkg=fl.filter λf=>decide ((Z0 f).map Src.pkg=some pkg):=by
 unfold B6;refine List.filter_congr λf hf=>?_;rw[(a7N h).src f hf];cases Z0 f<;>simp
theorem a6l{n m:Nat}(hn:n<256)(hm:m<256)(h:UInt8.ofNat n=UInt8.ofNat m):n=m:=by
 have:=n_8 UInt8.toNat h;rw[b7A,b7A]at this;have e1:n%2^8=n:=b52 X;have e2:m%2^8=m:=b52 X;omega
theorem d1Q:∀(n m:Nat) (r t:U),V9 n++r=V9 m++t->n=m/\r=t:=λn=>by
 induction n using Nat.strongRecOn with
 |ind n ih=>
  intro m r t h;rw[Y9 n,Y9 m]at h;split at h
  .rename_i hn;split at h
   .rename_i hm;simp only[b0G,a1D,List.cons.injEq]at h;exact⟨a6l X X h.1,h.2⟩
   .rename_i hm;simp only[b0G,a1D,List.cons.injEq]at h;have:=a6l X X h.1;omega
  .rename_i hn;split at h
   .rename_i hm;simp only[b0G,a1D,List.cons.injEq]at h;have:=a6l X X h.1;omega
   .rename_i hm;simp only[b0G,List.cons.injEq]at h;have h1:=a6l X X h.1;obtain⟨h2,h3⟩:=ih (n / 128) X (m / 128) r t h.2;exact⟨X,h3⟩
theorem d6k(n:Nat):V9 n≠[]:=by
 rw[Y9]
 split<;>simp
def b0V(s:U):U:=V9 s.length++s
theorem b8Q(l s:U):H6 l s=l++b0V s:=by unfold H6 b0V;rw[C7]
theorem c0b{s' r r':U}(h:b0V s++r=b0V s'++r'):s=s'/\r=r':=by
 unfold b0V at h;rw[C7,C7]at h;obtain⟨h1,h2⟩:=d1Q _ _ _ _ h;exact List.append_inj h2 h1
theorem c32(s:U):b0V s≠[]:=λh=>d6k _ (List.append_eq_nil_iff.1 h).1
theorem b2j(ms:SM)(fl:List Fi):∀(N:List U) (l:U),b0S ms fl l N=l++N.flatMap λs=>b0V s++b0V (R5 ms fl s)
 | [],l=>by simp[b0S]
 |s::N,l=>by
  have:b0S ms fl l (s::N)=b0S ms fl (H6 (H6 l s) (R5 ms fl s)) N:=J;rw[this,b2j ms fl N,b8Q,b8Q,a5A];simp
theorem b9O{g g':U->U}:∀{l m:List U},(l.flatMap λs=>b0V s++b0V (g s))=(m.flatMap λs=>b0V s++b0V (g' s))->l=m/\∀s∈l,g s=g' s
 | [],[],_=>⟨J,λs hs=>by simp at hs⟩
 | [],f::m,h=>by
  rw[a5A,C7]at h;exact absurd (List.append_eq_nil_iff.1 h.symm).1 (c32 _)
 |f::l,[],h=>by
  rw[a5A,C7]at h;exact absurd (List.append_eq_nil_iff.1 h).1 (c32 _)
 |x::l,y::m,h=>by
  rw[a5A,a5A,C7,C7]at h;obtain⟨h1,h2⟩:=c0b h;obtain⟨h3,h4⟩:=c0b h2;obtain⟨h5,h6⟩:=b9O h4;subst h1 h5;exact⟨J,λs hs=>by
   rcases J0.1 hs with rfl|hs
   .exact h3
   .exact h6 s hs⟩
theorem b7S(P:U->Prop):∀l:List U,∃N:List U,N.Nodup/\∀n,n∈N↔n∈l/\P n
 | []=>⟨[],H,λn=>by simp⟩
 |x::l=>by
  obtain⟨N,h1,h2⟩:=b7S P l;by_cases hx:P x/\x∉N
  .refine ⟨x::N,List.nodup_cons.2 ⟨hx.2,h1⟩,λn=>?_⟩;simp only[J0,h2];constructor
   .rintro (rfl|⟨a,b⟩)
    .exact ⟨.inl J,hx.1⟩
    .exact ⟨.inr a,b⟩
   .rintro ⟨rfl|a,b⟩
    .exact .inl J
    .exact .inr ⟨a,b⟩
  .refine ⟨N,h1,λn=>?_⟩;rw[h2,J0];constructor
   .rintro ⟨a,b⟩;exact⟨.inr a,b⟩
   .rintro ⟨rfl|a,b⟩
    .exact (h2 n).1 (Classical.byContradiction λh=>hx ⟨b,h⟩)
    .exact ⟨a,b⟩
theorem c2x(ms:SM)(fl:List Fi)(pkg n:U):n∈a4G ms fl pkg↔Reach ms fl pkg n:=by
 obtain⟨N,h1,h2⟩:=b7S (Reach ms fl pkg) (pkg::allI ms fl);have h3:∀n,n∈N↔Reach ms fl pkg n:=λn=>(h2 n).trans ⟨λh=>h.2,λh=>⟨b8P h,h⟩⟩;rw[a6e h1 h3,<- h3];exact(b2Q N _).mem_iff
theorem c6B{ms':SM}{fs:List Fi}(h:a63 ms fl p=a63 ms' fs p):a4G ms fl p=a4G ms' fs p/\∀s∈a4G ms fl p,R5 ms fl s=R5 ms' fs s:=by
 unfold a63 at h;rw[b2j,b2j,a1D,a1D]at h;exact b9O (List.append_cancel_left h)
theorem d0u:∀s∈a4i,I1 s=true/\s.length<=1000:=by decide
theorem Q2.plen{B:Nat}(h:Q2 B fl):∀f∈fl,f.p.length<=1000000000:=λf hf=>by
 have:=(d0u _ (h.pth f hf)).2;omega
theorem b9Q{fs:List Fi}(h:R7 fl (A5 fl).2.1 (A5 fl).2.2 ev ⟨7,p,[]⟩=R7 fs (A5 fs).2.1 (A5 fs).2.2 ev ⟨7,p,[]⟩):R7 fl (A5 fl).2.1 (A5 fl).2.2 ev ⟨6,p,[]⟩=R7 fs (A5 fs).2.1 (A5 fs).2.2 ev ⟨6,p,[]⟩:=
 (c6B h).2 p ((c2x _ _ _ _).2 .base)
theorem e1Y:∀m:Nat,m<3->([122]++a6b m++[46,115,114,99]:U)∈a4i:=λm hm=>by
 have h3:m=0\/m=1\/m=2:=by omega
 rcases h3 with rfl|rfl|rfl<;>rw[a74 X]<;>decide
theorem d0C(l:List Int)(nn:Bool)(k:Nat)(aV:k<=500000000)(hl:l.length<=maxLen)(B:Nat)(hB:6300<=B/\B<=1000000)(fl:List Fi)(hm:Q2 B fl):b8 CC 28 [.ptr 0 0,(.agg (o4 fl (gnn fl.length)))] [x9 l nn k] λr τ=>∃a:List Fi×Nat,D2 1 τ r (.ret (.agg (o4 a.1 (gnn a.1.length)))) [x9 l nn a.2]/\(Q2 (B+1240) a.1/\k<=a.2/\a.2<=k+1080):=by
 refine cO Tryz.func28 ?_;refine c86 ?_;refine qD (p7 J c1B J j5 ?_);refine W (c4 J Tryz.call66 trivial (a8W _) J) ?_;refine qD (c5 J a6J i7 (N4 l nn (k) _ 0 J X hl J8 G G) J ?_);intro sp ah;have hspa:=c5C _ ah;have gX:=hm.len;refine S3 hCC (α:=Nat) (λ_=>[(0,.ptr 0 0),(3,.ptr 1 0),(4,.ptr 2 0),(5,(sv sp))]) (λp=>[x9 l nn (p),.box (o4 fl (gnn fl.length)),.box (o4 [] false)]) (λp=>p=k+2) z8 uz_ ?_ ?_
 .
  refine qk (qD (c5 J a7G o8 (M4 l nn (k+1) _ 0 J X hl 9 X) J ?_));intro _ _;refine qC ?_ ?_<;>intro h1
  .refine cF [] [0,1,2,4] (tl:=[(3,[0,3]),(5,[0]),(6,[0]),(7,[]),(8,[])]) ?_;refine b8q ?_;refine chf J (c8 J e2Q) ?_;refine b5P ?_;refine B0 J J J (c5 J a6J i7 (N4 l nn (k+2) _ 0 J X hl a1Q G G) J ?_);intro v hv;refine⟨⟨a05,F4,O⟩,?_⟩;refine B0 J J J (c5 J Tryz.call70 ⟨O,O⟩ (c3e l nn (k+3) X hl _ 0 J) J ?_);intro⟨s,p4⟩ ⟨hs,bY,cN⟩;dsimp only at hs bY cN⊢;refine⟨⟨a05,O⟩,?_⟩;refine E9 J J d6D ⟨⟨a05,O⟩,?_⟩;refine E9 J J (c8 J (c4 J c1Q i7 (a1a fl _ ⟨v,s⟩ X _) J)) ⟨O,?_⟩;refine b5B ?_;exact⟨_,F2 J a3T,⟨(a6O fl ⟨v,s⟩,p4),a2G J U8 (.old (S5 _ _).old),(hm.mono X).ins (c5W _ hv) Q,Q,Q⟩⟩
  .refine qC ?_ ?_<;>intro h2
   .refine cF [] [0,1,2] (tl:=[(3,[0]),(4,[]),(5,[])]) ?_;refine b8q ?_;refine chf J (c8 J (B1 (([[97,46,100,97,116],[100,47,98,46,100,97,116],[99],[97,46,115,114,99],[98,46,115,114,99]]:List U).map scv) J ⟨J,J,J,J,J,O⟩ t_2 t_0 t_4 J J J J J J J J J)) ?_;refine C8 ?_;refine B0 J J J (c5 J a6J i7 (N4 l nn (k+2) _ 0 J X hl ([[97,46,100,97,116],[100,47,98,46,100,97,116],[99],[97,46,115,114,99],[98,46,115,114,99]]:List U) G G) J ?_);intro v hv;refine⟨⟨a05,O⟩,?_⟩;refine E9 J J (c8 J (c4 J Tryz.call71 i7 (b4D fl _ v X _) J)) ⟨O,?_⟩;refine b5B ?_;exact⟨_,F2 J a3T,⟨(a5C fl v,k+3),a2G J U8 (.old (S5 _ _).old),(hm.mono X).rem v,Q,Q⟩⟩
   .refine qC ?_ ?_<;>intro h3
    .refine d9I ?_;refine a7l ?_;refine chf J W7 ?_;refine chf J d2h ?_;refine d8p ?_;intro v hv;have dm:v.length<=8:=T4 (.inl hv);refine d8T ?_;intro⟨s,p4⟩ ⟨hs,bY,cN⟩;dsimp only at hs bY cN⊢;refine d5H ?_;refine d8q ?_;exact d8C
    .refine qC ?_ ?_<;>intro h4
     .refine W a0E ?_;refine j8 hCC (λi:Nat=>[(0,.ptr 0 0),(3,.ptr 1 0),(4,.ptr 2 0),(5,(sv sp)),(50,(.list (fl.map Fi.cv) (gnn fl.length) none)),(51,iv fl.length),(52,iv i)]) (λ_=>[x9 l nn (k+2),.box (o4 fl (gnn fl.length)),.box (o4 [] false)]) (λi=>i<=fl.length) (λi=>fl.length -i) 0 (n_4 _) tu_ (ai:=[]) J z8 uz_ ?_;intro i hi;refine qk (qC ?_ ?_)<;> intro h5
      .have ab:i<fl.length:=sm_ h5;obtain⟨y,hb,eS⟩:=a3n ab;have hyb:=hm.byt y eS;refine b39 ?_;refine qC ?_ ?_<;>intro h6
       .have cq:(a5C fl sp).length<=fl.length:=a9M _ _;have hb3:=a2h (l:=l) (k:=k+2) (n:=3) X;obtain⟨m,bB⟩:∃m:Nat,Q0 l (k+2) 3=(m:Int):=⟨(Q0 l (k+2) 3).toNat,X⟩;have gh:m<3:=by omega
        have hzp:=e1Y m gh;have eN:=a2m 0 m X;refine cF [] [0,1,2,3,8,9] (tl:=[(4,[4,5]),(5,[4,5]),(6,[4,5]),(7,[4,5]),(10,[]),(11,[]),(12,[])]) ?_;refine b8q ?_;refine chf J (c8 J (c4 J Tryz.call71 i7 (b4D fl _ sp X _) J)) ?_;refine chf J W7 ?_;refine b5x ?_;refine C8 ?_;refine B0 J J J (c5 J a7G o8 (M4 l nn (k+2) _ 0 J X hl 3 X) J ?_);intro _ _;rw[bB];refine⟨⟨a6T,a5T,O⟩,?_⟩;refine E9 J J (c8 J c5L) ⟨⟨a6T,a5T,O⟩,?_⟩;refine E9 J J (c8 J a5D) ⟨⟨a6T,a5T,O⟩,?_⟩;refine E9 J J c3T ⟨⟨a6T,a5T,O⟩,?_⟩;refine E9 J J d6D ⟨O,?_⟩;refine E9 J J (c8 J (c4 J c1Q i7 (a1a (a5C fl sp) _ ⟨[122]++a6b m++[46,115,114,99],y.b⟩ X _) J)) ⟨O,?_⟩;refine b5B ?_;exact⟨_,F2 J a3T,⟨(a6O (a5C fl sp) ⟨[122]++a6b m++[46,115,114,99],y.b⟩,k+3),a2G J U8 (.old (S5 _ _).old),((hm.mono X).rem sp).ins hzp Q,Q,Q⟩⟩
       .exact b6u
      .exact c24
     .refine qC ?_ ?_<;>intro h7
      .refine W a0E ?_;refine j8 hCC (λi:Nat=>[(0,.ptr 0 0),(3,.ptr 1 0),(4,.ptr 2 0),(5,(sv sp)),(76,(.list (fl.map Fi.cv) (gnn fl.length) none)),(77,iv fl.length),(78,iv i)]) (λ_=>[x9 l nn (k+2),.box (o4 fl (gnn fl.length)),.box (o4 [] false)]) (λi=>i<=fl.length) (λi=>fl.length -i) 0 (n_4 _) tu_ (ai:=[]) J z8 uz_ ?_;intro i hi;refine qk (qC ?_ ?_)<;> intro h8
       .have ab:i<fl.length:=sm_ h8;obtain⟨y,hb,eS⟩:=a3n ab;have hyb:=hm.byt y eS;refine b39 ?_;refine qC ?_ ?_<;>intro h9
        .have hb3:=a2h (l:=l) (k:=k+2) (n:=100) X;obtain⟨m,bB⟩:∃m:Nat,Q0 l (k+2) 100=(m:Int):=⟨(Q0 l (k+2) 100).toNat,X⟩;have gh:m<100:=by omega
         have eN:=a2m 1 m X;refine cF [] [0,1,2,7,8] (tl:=[(3,[0,1,3,4]),(4,[0,1,3,4]),(5,[0,1,3,4]),(6,[0,1,3,4]),(9,[0,1]),(10,[0]),(11,[]),(12,[])]) ?_;refine chf J a2l ?_;refine a7l ?_;refine b5x ?_;refine C8 ?_;refine B0 J J J (c5 J a7G o8 (M4 l nn (k+2) _ 0 J X hl 100 X) J ?_);intro _ _;rw[bB];refine⟨⟨a05,F4,a6T,a5T,O⟩,?_⟩;refine E9 J J (c8 J c5L) ⟨⟨a05,F4,a6T,a5T,O⟩,?_⟩;refine E9 J J (c8 J a5D) ⟨⟨a05,F4,a6T,a5T,O⟩,?_⟩;refine E9 J J c3T ⟨⟨a05,F4,a6T,a5T,O⟩,?_⟩;refine d6V ?_;refine E9 J J (c8 J (c4 J c1Q i7 (a1a fl _ ⟨sp,[35,32]++a6b m++[10,32,32]++y.b⟩ X _) J)) ⟨O,?_⟩;refine b5B ?_;exact⟨_,F2 J a3T,⟨(a6O fl ⟨sp,[35,32]++a6b m++[10,32,32]++y.b⟩,k+3),a2G J U8 (.old (S5 _ _).old),(hm.mono X).ins (hspa) c0g,Q,Q⟩⟩
        .exact b6u
       .exact c24
      .refine qC ?_ ?_<;>intro bb
       .refine W a0E ?_;refine j8 hCC (λi:Nat=>[(0,.ptr 0 0),(3,.ptr 1 0),(4,.ptr 2 0),(5,(sv sp)),(102,(.list (fl.map Fi.cv) (gnn fl.length) none)),(103,iv fl.length),(104,iv i)]) (λ_=>[x9 l nn (k+2),.box (o4 fl (gnn fl.length)),.box (o4 [] false)]) (λi=>i<=fl.length) (λi=>fl.length -i) 0 (n_4 _) tu_ (ai:=[]) J z8 uz_ ?_;intro i hi;refine qk (qC ?_ ?_)<;> intro cB
        .have ab:i<fl.length:=sm_ cB;obtain⟨y,hb,eS⟩:=a3n ab;have hyb:=hm.byt y eS;refine b39 ?_;refine qC ?_ ?_<;>intro cX
         .refine W Z2 ?_;refine W (B4 #[(0,1),(1,1)] J i7 b7q a6H J ⟨_,J⟩ (λw=>by kernel_rfl) J J) ?_;refine W (c4 J c1Q i7 (a1a fl _ ⟨sp,y.b++[102,117,110,99]⟩ X _) J) ?_;refine d3F ?_;exact⟨_,F2 J a3T,⟨(a6O fl ⟨sp,y.b++[102,117,110,99]⟩,k+2),a2G J U8 (.old (S5 _ _).old),(hm.mono X).ins (hspa) c0g,Q,Q⟩⟩
         .exact b6u
        .exact c24
       .exact ⟨(k+2),_,J,tu_,J⟩
 .intro p hp;subst hp;refine S3 hCC (α:=Nat) (λ_=>[(0,.ptr 0 0),(3,.ptr 1 0),(4,.ptr 2 0),(5,(sv sp))]) (λp=>[x9 l nn (p),.box (o4 fl (gnn fl.length)),.box (o4 [] false)]) (λp=>p=k+2) z8 uz_ ?_ ?_
  .
   refine qk (W a0E ?_);refine j8 hCC (λi:Nat=>[(0,.ptr 0 0),(3,.ptr 1 0),(4,.ptr 2 0),(5,(sv sp)),(121,(.list (fl.map Fi.cv) (gnn fl.length) none)),(122,iv fl.length),(123,iv i)]) (λ_=>[x9 l nn (k+2),.box (o4 fl (gnn fl.length)),.box (o4 [] false)]) (λi=>i<=fl.length) (λi=>fl.length -i) 0 (n_4 _) tu_ (ai:=[]) J z8 uz_ ?_;intro i hi;refine qk (qC ?_ ?_)<;> intro dw
   .have ab:i<fl.length:=sm_ dw;obtain⟨y,hb,eS⟩:=a3n ab;have hyb:=hm.byt y eS;refine b39 ?_;refine qC ?_ ?_<;>intro gN
    .refine cF [] [0,1,2,3,4] (tl:=[(5,[0,1,2,3]),(6,[0,1]),(7,[0]),(8,[]),(9,[])]) ?_;refine b8q ?_;refine b5x ?_;refine b5P ?_;refine B0 J J J (c5 J Tryz.call73 ⟨O,O⟩ (c4I l nn (k+2) X hl _ 0 J) J ?_);intro⟨s,p4⟩ ⟨hs,bY,cN⟩;dsimp only at hs bY cN⊢;refine⟨⟨a05,F4,a6T,a5T,O⟩,?_⟩;refine d6V ?_;refine E9 J J (c8 J (c4 J c1Q i7 (a1a fl _ ⟨sp,y.b++s⟩ X _) J)) ⟨O,?_⟩;refine b5B ?_;exact⟨_,F2 J a3T,⟨(a6O fl ⟨sp,y.b++s⟩,p4),a2G J U8 (.old (S5 _ _).old),(hm.mono X).ins (hspa) (by show List.length _<=_;simp only[n_6];omega),Q,Q⟩⟩
    .exact b6u
   .exact c24
  .intro p hp;subst hp;refine qk ?_;refine d9I ?_;refine a7l ?_;refine chf J W7 ?_;refine chf J d2h ?_;refine d8p ?_;intro v hv;have dm:v.length<=8:=T4 (.inl hv);refine d8T ?_;intro⟨s,p4⟩ ⟨hs,bY,cN⟩;dsimp only at hs bY cN⊢;refine d5H ?_;refine d8q ?_;exact d8C
theorem d5p(l:List Int)(nn:Bool)(k:Nat)(aV:k<=500000000)(hl:l.length<=maxLen)(B:Nat)(hB:6300<=B/\B<=1000000)(fl:List Fi)(hm:Q2 B fl)(σ:List b9)(q:Nat)(hq:σ[q]?=some (x9 l nn k)):b8 CC 28 [.ptr q 0,(.agg (o4 fl (gnn fl.length)))] σ λr τ=>∃a:List Fi×Nat,r= .ret (.agg (o4 a.1 (gnn a.1.length)))/\τ=σ.set q (x9 l nn a.2)/\(Q2 (B+1240) a.1/\k<=a.2/\a.2<=k+1080):=
 a8N (c:=λa:List Fi×Nat=>(.agg (o4 a.1 (gnn a.1.length)))) (S:=λa=>x9 l nn a.2) hCC (λa h=>by simp at h;subst h;exact S5 _ _) (λ_=>S5 _ _) (λ_=>H7 _ _ _) (H7 _ _ _) J (d0C l nn k aV hl B hB fl hm) σ q hq
def Y3:List U:=[[109],[110]]
structure b3w(ev:List Va):Prop where
 sub:(ev.map Va.n).Sublist Y3
 rng:∀v∈ev,-9007199254740992<=v.v/\v.v<=9007199254740992
theorem b3w.len(h:b3w ev):ev.length<=2:=by
 have:=h.sub.length_le;rw[L7]at this;exact this
theorem e27{l:List U}(h:l.Sublist Y3):l=[]\/l=[[109]]\/l=[[110]]\/l=[[109],[110]]:=by
 rw[Y3]at h
 rcases List.sublist_cons_iff.1 h with h|⟨r,h1,h⟩<;>rcases List.sublist_cons_iff.1 h with h|⟨r',h2,h⟩<;>simp at h<;>subst h<;>simp_all
theorem b3w.valid(h:b3w ev):J9 ev=true:=by
 have hl:=h.len;have hr:=h.rng;have d1:C4 [109]=true:=J;have d2:C4 [110]=true:=J
 rcases e27 h.sub with h1|h1|h1|h1
 .have:ev=[]:=I h1;subst this;rfl
 .rcases ev with _|⟨x,_|⟨y,t⟩⟩<;>simp at h1
  have r1:=hr x H;simp[J9,evB,a0p,h1,d1,r1.1,r1.2]
 .rcases ev with _|⟨x,_|⟨y,t⟩⟩<;>simp at h1
  have r1:=hr x H;simp[J9,evB,a0p,h1,d2,r1.1,r1.2]
 .rcases ev with _|⟨x,_|⟨y,_|⟨z,t⟩⟩⟩<;>simp at h1
  have r1:=hr x H;have r2:=hr y H;have d3:Op.bytesLess [110] [109]=false:=J;simp[J9,evB,a0p,h1.1,h1.2,d1,d2,d3,r1.1,r1.2,r2.1,r2.2]
theorem c9a(ev:List Va)(nn:Bool):r5 (.agg (E7 ev nn)):=r6 (cs:=E7 _ _) ⟨a2q _ _,O⟩
theorem d6e{am:List Nat}{l:List Va}{tok:Option Nat}:C6 L am (.agg [.list (l.map Va.cv) nn tok]) (.agg (E7 l nn)):=
 .agg J λi c c' h h'=>by
  rcases i with _|i
  .injection h with h;injection h' with h';subst h h';exact H5 (f:=Va.cv) Va.pure _
  .cases h
theorem b0A(l:List Int)(nn:Bool)(k:Nat)(aV:k<=500000000)(hl:l.length<=maxLen):b8 CC 33 [.ptr 0 0] [x9 l nn k] λr τ=>∃a:List Va×Nat,D2 1 τ r (.ret (.agg (E7 a.1 (gnn a.1.length)))) [x9 l nn a.2]/\(b3w a.1/\k<=a.2/\a.2<=k+4):=by
 refine qO Tryz.func33 ?_;refine d8I ?_;refine W (B1 (Y3.map scv) J ⟨J,J,O⟩ t_2 t_0 t_4 J J J J J J J J J) ?_;refine W I7 ?_;refine A2 hCC 3 J (α:=List Va×Nat×Nat) (λx=>[(0,.ptr 0 0),(2,.ptr 1 0),(3,.ptr 2 0),(6,(.list (Y3.map scv) true none)),(7,iv Y3.length),(8,iv x.2.2)]) (λx=>[x9 l nn x.2.1,.box (E7 [] false),.box [(.list (x.1.map Va.cv) (gnn x.1.length) (C3 x.1.length 3))],o5 x.1.length]) (λx=>x.2.2<=Y3.length/\x.1.length<=x.2.2/\(x.1.map Va.n).Sublist (Y3.take x.2.2)/\(∀v∈x.1,-9007199254740992<=v.v/\v.v<=9007199254740992)/\k<=x.2.1/\x.2.1<=k+x.2.2*2) (λx=>Y3.length -x.2.2) ⟨([],k,0),[0,1,2,9],⟨n_4 _,n_4 _,.slnil,(λv hv=>by cases hv),n_7 _,n_7 _⟩,⟨J,J⟩,ut_,⟨.inr ⟨_,J,.same J U8⟩,.inr ⟨_,J,.same J (z6 ⟨a27 _ ([]:List Va) _,O⟩)⟩,.inr ⟨_,J,.box ⟨.same J (a27 _ ([]:List Va) _),O⟩⟩,.inl J,O⟩⟩ ?_;intro⟨ev,p,i⟩ ⟨hi,dR,hs,hr,fj,cl⟩;dsimp only at hi dR hs hr fj cl⊢;have hL:Y3.length=2:=J;refine qk (qC ?_ ?_)<;> intro h1
 .have ab:i<Y3.length:=sm_ h1;obtain⟨y,hb,eS⟩:=a3n ab;have fV:Y3.take (i+1)=Y3.take i++[y]:=by rw[a1H,hb];rfl
  refine W a64 ?_;refine qD (c5 J b0M a2N (J7 l nn p _ 0 J X hl 2 3 X) J ?_);intro _ _;refine qC ?_ ?_<;>intro h2
  .refine cF [] [0,1,2,3,4] (tl:=[(5,[0,1,2]),(6,[0,1]),(7,[0,1]),(8,[]),(9,[]),(10,[])]) ?_;refine chf J c4z ?_;refine chf J d2c ?_;refine a7l ?_;refine chf J (c8 J (B1 ([0,1,-1,5,9007199254740992,-9007199254740992].map icv) J ⟨J,J,J,J,J,J,O⟩ t_6 t_1 t_8 J J J J J J J J J)) ?_;refine C8 ?_;refine B0 J J J (c5 J c3O i7 (a6c l nn (p+1) _ 0 J X hl [0,1,-1,5,9007199254740992,-9007199254740992] H H) J ?_);intro v hv;have hvr: -9007199254740992<=v/\v<=9007199254740992:=by
    simp only[J0,a6A,or_false]at hv;omega
   refine⟨⟨c5y,c3U,F4,O⟩,?_⟩;refine E9 J J (c8 J (B4 #[(0,1),(1,1)] J i7 b9N c75 J ⟨_,J⟩ (λw=>by kernel_rfl) J J)) ⟨⟨c5y,c3U,O⟩,?_⟩;refine E9 J J (c8 J (B1 [Va.cv (⟨y,v⟩:Va)] J ⟨O,O⟩ c0u b7n c75 J J J J J J J J J)) ⟨⟨c5y,c3U,O⟩,?_⟩;refine B0 J J J (A4 J O O J H q_5 c0u b7n d2H c75 J (.inr J) K2 d1A B7 ((ev++[(⟨y,v⟩:Va)]).map Va.cv) (ev++[(⟨y,v⟩:Va)]).length H H ?_);refine⟨O,?_⟩;refine E9 J J c4z ⟨O,?_⟩;refine B0 J J J (j2 J O O J j3 c5F (.inl J) J J (nb J) ?_);refine a84 ?_;refine W j9 ?_;exact⟨(ev++[(⟨y,v⟩:Va)],p+2,i+1),[0,1,2,4],⟨Q,Q,by simp only[n_6,C5,J6];omega,by dsimp only;rw[fV,a3j];exact hs.append (.refl _),(λx hx=>by
    rcases J5.1 hx with hx|hx
    .exact hr x hx
    .rw [b0s.1 hx];exact hvr),Q,Q⟩,⟨J,J⟩,ut_,⟨.inr ⟨_,J,.same J U8⟩,.inr ⟨_,J,.same J (z6 ⟨a27 _ ([]:List Va) _,O⟩)⟩,.inr ⟨_,J,.box ⟨C6.grow (f:=Va.cv) (λa=>⟨.val _,.val _,O⟩) J,O⟩⟩,.inr ⟨_,J,.same J D8⟩,O⟩⟩
  .refine W j9 ?_;exact⟨(ev,p+1,i+1),[0,1,2,3],⟨Q,Q,Q,by dsimp only;rw[fV];exact hs.trans (List.sublist_append_left _ _),hr,Q,Q⟩,⟨J,J⟩,ut_,⟨.inr ⟨_,J,.same J U8⟩,.inr ⟨_,J,.same J (z6 ⟨a27 _ ([]:List Va) _,O⟩)⟩,.inr ⟨_,J,.box ⟨C6.grow (f:=Va.cv) (λa=>⟨.val _,.val _,O⟩) J,O⟩⟩,.inr ⟨_,J,.same J D8⟩,O⟩⟩
 .have cQ:i=2:=sm_ h1;subst cQ;refine j6 ?_;refine qD (j2 J O O J j3 b6r j5 J J (nb J) ?_);refine c6 ?_;exact⟨_,F2 J ⟨O,_,_,_,J,J,.inr ⟨_,b86,b6r,nb J,J⟩⟩,⟨(ev,p),a2G J U8 d6e,⟨hs,hr⟩,Q,Q⟩⟩
theorem a5M(l:List Int)(nn:Bool)(k:Nat)(aV:k<=500000000)(hl:l.length<=maxLen)(σ:List b9)(q:Nat)(hq:σ[q]?=some (x9 l nn k)):b8 CC 33 [.ptr q 0] σ λr τ=>∃a:List Va×Nat,r= .ret (.agg (E7 a.1 (gnn a.1.length)))/\τ=σ.set q (x9 l nn a.2)/\(b3w a.1/\k<=a.2/\a.2<=k+4):=
 a8N (c:=λa:List Va×Nat=>(.agg (E7 a.1 (gnn a.1.length)))) (S:=λa=>x9 l nn a.2) hCC (λa h=>by simp at h) (λ_=>c9a _ _) (λ_=>H7 _ _ _) (H7 _ _ _) J (b0A l nn k aV hl) σ q hq
def c19(q:Nm)(x:Src):List De:=x.decls.filter λd=>decide (deK x d=q)
theorem a6y(k:Int)(o pa pk:U):∀(l:List De) (j:Nat) (e:En),(fiD k o pa pk l j e).k=e.k/\(fiD k o pa pk l j e).o=e.o/\((fiD k o pa pk l j e).p=e.p\/(fiD k o pa pk l j e).p=pk)/\(fiD k o pa pk l j e).ct=e.ct+((l.filter λd=>d.k == k&&decide (d.name=o)).length:Int)
 | [],_,e=>⟨J,J,.inl J,by simp[fiD]⟩
 |d::l,j,e=>by
  unfold fiD;rw[a7o]
  split
  .split
   .obtain ⟨h1,h2,h3,h4⟩:=a6y k o pa pk l (j+1) ⟨pk,e.o,e.k,pa,j,e.ct+1⟩;exact⟨h1,h2,.inr (h3.elim id id),by rw[h4,C5];simp only;omega⟩
   .obtain ⟨h1,h2,h3,h4⟩:=a6y k o pa pk l (j+1) ⟨e.p,e.o,e.k,e.pl,e.ix,e.ct+1⟩;exact⟨h1,h2,h3,by rw[h4,C5];simp only;omega⟩
  .exact a6y k o pa pk l (j+1) e
theorem c1S(h:k≠3->x.pkg=p):(x.decls.filter λd=>d.k == k&&decide (d.name=o))=c19 (F1 k p o) x:=by
 unfold c19;refine List.filter_congr λd _=>?_;rw[Bool.eq_iff_iff];simp only[T7,beq_iff_eq,a1G,deK,F1,Nm.mk.injEq];constructor
 .rintro ⟨rfl,rfl⟩;refine⟨J,?_,J⟩
  split
  .rfl
  .rename_i h3;exact h h3
 .rintro ⟨h1,_,h3⟩;exact⟨h1,h3⟩
theorem d1o(h:k≠3)(hp:x.pkg≠p):c19 (F1 k p o) x=[]:=by
 unfold c19;rw[c3R];intro d _ he;simp only[a1G,deK,F1,Nm.mk.injEq]at he;obtain⟨h1,h2,_⟩:=he;rw[h1,D h,D h]at h2;exact hp h2
theorem a9s(k:Int)(p o:U):∀(L:List (U×Src)) (e:En),(k≠3->e.p=p)->(fiL k p o L e).k=e.k/\(fiL k p o L e).o=e.o/\(k≠3->(fiL k p o L e).p=p)/\(fiL k p o L e).ct=e.ct+((L.flatMap λx=>c19 (F1 k p o) x.2).length:Int)
 | [],e,h=>⟨J,J,h,by simp[fiL]⟩
 |x::L,e,h=>by
  unfold fiL;rw[a5A,n_6]
  split
  .rename_i hc;simp only[T7,bne_iff_ne,c02,b3R,ne_eq]at hc;obtain⟨h1,h2,h3,h4⟩:=a9s k p o L e h;exact⟨h1,h2,h3,by rw[h4,d1o hc.1 hc.2];simp⟩
  .rename_i hc;have hp:k≠3->x.2.pkg=p:=λh3=>by
    simp only[T7,bne_iff_ne,c02,b3R,ne_eq,not_and,Decidable.not_not]at hc;exact hc h3
   obtain⟨g1,g2,g3,g4⟩:=a6y k o x.1 x.2.pkg x.2.decls 0 e;obtain⟨h1,h2,h3,h4⟩:=a9s k p o L (fiD k o x.1 x.2.pkg x.2.decls 0 e) λh3=>g3.elim (λe1=>e1.trans (h h3)) λe1=>e1.trans (hp h3);exact⟨h1.trans g1,h2.trans g2,h3,by rw[h4,g4,c1S hp];omega⟩
theorem b99(q:Nm):∀fl:List Fi,(occ q fl).length=((r8 fl).flatMap λx=>c19 q x.2).length
 | []=>rfl
 |f::fl=>by
  have ih:=b99 q fl;have e1:occ q (f::fl)=b8U q f++occ q fl:=by simp[occ]
  rw[e1,n_6,ih];unfold b8U r8;rw[List.filterMap_cons,show b0N f.p f.b=Z0 f from J];cases Z0 f with
  |none=>simp
  |some x=>simp[c19]
theorem a7L{x:U×Src}(h:x∈r8 fl):∃f∈fl,Z0 f=some x.2:=by
 obtain⟨f,hf,he⟩:=c5T.1 h;rw[P2]at he;obtain⟨s,hs,rfl⟩:=he;exact⟨f,hf,hs⟩
theorem a8E(h:Z0 f=some x):a10 x:=by
 unfold Z0 at h;split at h
 .exact a9t h
 .cases h
theorem b08:(r8 fl).length<=fl.length/\∀x∈r8 fl,x.2.decls.length<=100000:=by
 refine⟨List.length_filterMap_le _ _,λx hx=>?_⟩;obtain⟨f,_,hs⟩:=a7L hx;have:=(a8E hs).decl;omega
def PlE(L:List (U×Src))(q:Nm)(e:En):Prop:=0<=e.ct/\(e.ct≠0->∃x∈L,∃(i:Nat) (d:De),x.2.decls[i]?=some d/\e.pl=x.1/\e.ix=(i:Int)/\deK x.2 d=q)
theorem c8v{L:List (U×Src)}{x:U×Src}(hx:x∈L)(k:Int)(p o:U)(hp:k≠3->x.2.pkg=p):∀(l:List De) (j:Nat) (e:En),x.2.decls.drop j=l->PlE L (F1 k p o) e->PlE L (F1 k p o) (fiD k o x.1 x.2.pkg l j e)
 | [],j,e,_,h=>h
 |d::l,j,e,hl,h=>by
  have hj:x.2.decls[j]?=some d:=by
   have:=n_8 (λm:List De=>m[0]?) hl;simpa using this
  rw[fiD];refine c8v hx k p o hp l (j+1) _ (by rw[<- List.tail_drop,hl];rfl) ?_;have h0:=h.1
  split
  .rename_i hh;have hq:deK x.2 d=F1 k p o:=by
    simp only[T7,beq_iff_eq,a1G]at hh;unfold deK F1;rw[hh.1,hh.2];by_cases h3:k=3
    .rw [F h3,F h3]
    .rw [D h3,D h3,hp h3]
   split
   .exact ⟨Q,λ_=>⟨x,hx,j,d,hj,J,J,hq⟩⟩
   .rename_i h1;have h2:e.ct≠0:=λh2=>h1 (by rw[h2];rfl);exact⟨Q,λ_=>h.2 h2⟩
  .exact h
theorem d3d{L:List (U×Src)}(k:Int)(p o:U):∀(M:List (U×Src)) (e:En),(∀x∈M,x∈L)->PlE L (F1 k p o) e->PlE L (F1 k p o) (fiL k p o M e)
 | [],e,_,h=>h
 |x::M,e,hM,h=>by
  rw[fiL];refine d3d k p o M _ (λy hy=>hM y (by simp[hy])) ?_
  split
  .exact h
  .rename_i hc;refine c8v (hM x H) k p o (λh3=>?_) _ 0 e J h;simp only[T7,bne_iff_ne,c02,b3R,ne_eq,not_and,Decidable.not_not]at hc;exact hc h3
theorem d3B(L:List (U×Src))(k:Int)(p o:U):PlE L (F1 k p o) (fiE L k p o):=d3d k p o L _ (λ_ h=>h) ⟨b33 _,λh=>absurd J h⟩
theorem b1v(h:fl.Pairwise λa b=>a.p <b.p):(r8 fl).Pairwise λx y=>x.1≠y.1:=by
 unfold r8;refine List.Pairwise.filterMap _ (λa b cI x hx y hy e=>?_) h;rw[P2]at hx hy;obtain⟨_,_,rfl⟩:=hx;obtain⟨_,_,rfl⟩:=hy;replace e:a.p=b.p:=e;rw[e]at cI;exact List.lt_irrefl _ cI
theorem b4O{L:List (U×Src)}(h:L.Pairwise λx y=>x.1≠y.1){x:U×Src}(hx:x∈L):L.find? (λy=>decide (y.1=x.1))=some x:=by
 induction L with
 |nil=>cases hx
 |cons z l ih=>
  rw[a5N]at h;rw[b9B]
  rcases J0.1 hx with rfl|hx
  .simp
  .rw [show decide (z.1=x.1)=false from a1S (h.1 x hx)];exact ih h.2 hx
theorem c48(h:x8 fl=0):fl.Pairwise λa b=>a.p <b.p:=by
 unfold x8 at h;split at h
 .cases h
 .exact (b6L h).2
theorem e0O(h:x8 fl=0)(k:Int)(p o:U):d1N (r8 fl) k p o:=λh0 _=>by
 obtain⟨x,hx,i,d,hd,ba,hix,_⟩:=(d3B (r8 fl) k p o).2 h0;obtain⟨f,_,hs⟩:=a7L hx;refine⟨x.2,d,i,?_,a8E hs,hd⟩;unfold a7T;rw[ba,b4O (b1v (c48 h)) hx,hix]
theorem d2y{L:List (U×Src)}(h:∀x∈L,x.2.imports.length<=8):(b2m L).length<=8*L.length:=by
 unfold b2m
 induction L with
 |nil=>exact n_7 _
 |cons x l ih=>
  have h1:=h x H;have h2:=ih λy hy=>h y (by simp[hy]);rw[a5A,n_6,C5];omega
theorem d0T(h:x8 fl=0):d6w fl (r8 fl):=by
 obtain⟨h1,h2⟩:=X5 h;have hs:∀x∈r8 fl,a10 x.2:=λx hx=>by
  obtain⟨f,_,hs⟩:=a7L hx;exact a8E hs
 have hl:=(b08 (fl:=fl)).1;refine⟨X,X,?_,λx hx=>?_,λq b hb=>?_,(b08 (fl:=fl)).2,λx hx s hsm=>?_,λk p o=>e0O h k p o⟩
 .have:=d2y (L:=r8 fl) λx hx=>(hs x hx).impl;omega
 .obtain ⟨f,hf,he⟩:=c5T.1 hx;rw[P2]at he;obtain⟨_,_,rfl⟩:=he;have:=M5 (h2 f hf).1;show f.p.length<=1000;omega
 .obtain ⟨f,hf,rfl⟩:=b4Z hb;have:=(h2 f hf).2;omega
 .have:=B9 ((hs x hx).imp s hsm).1;omega
theorem c4i:∀{l:List Va} {pv:Option Va},evB pv l=true->∀v∈l,-9007199254740992<=v.v/\v.v<=9007199254740992
 | [],_,_,_,h=>by cases h
 |x::l,pv,h,v,hv=>by
  rw[evB,T7]at h
  rcases J0.1 hv with rfl|hv
  .have h1:=h.1;unfold a0p at h1;simp only[T7,a1G]at h1;exact h1.1.2
  .exact c4i h.2 v hv
theorem d4m{k:Ky}(h:Q9 k=true):k.a.length<=1000:=by
 unfold Q9 at h;split at h
 .have:=B9 (b0P.1 h).1;omega
 .split at h
  .have:=M5 (b0P.1 h).1;omega
  .split at h
   .have:=B9 (b0P.1 h).1;omega
   .cases h
theorem b5s(h:fl.Pairwise λa b=>a.p <b.p):∀f∈fl,C1 fl f.p=some f.b:=by
 induction fl with
 |nil=>intro f hf;cases hf
 |cons x l ih=>
  intro f hf;rw[a5N]at h;unfold C1;rw[b9B]
  rcases J0.1 hf with rfl|hf
  .simp
  .have ay:x.p≠f.p:=λe=>by
    have:=h.1 f hf;rw[e]at this;exact List.lt_irrefl _ this
   rw[show decide (x.p=f.p)=false from a1S ay];exact ih h.2 f hf
theorem d0o(nn:Bool)(h:x8 fl=0)(σ:List b9):b8 CC 55 [.agg (o4 fl nn)] σ λr τ=>r= .ret (.agg (V4 ((r8 fl).map Prod.fst) ((r8 fl).map Prod.snd)))/\τ=σ:=by
 have hl:=d0T h;refine c6g J nn h hl.hl (λf hf=>?_) (λq b hb=>by have:=hl.hbl q b hb;omega) (λ_=>b5s (c48 h)) σ;have:=M5 ((X5 h).2 f hf).1;omega
def a9a(x:Src)(d:De):Ky:=if d.k=2 then⟨2,x.pkg,d.name⟩else if d.k=3 then⟨3,d.name,[]⟩else⟨1,x.pkg,d.name⟩
def srU(x:U×Src):List Ky:=b14 x.2++x.2.decls.map (a9a x.2)
def U3(fl:List Fi)(L:List (U×Src)):List Ky:=fl.map O1++L.flatMap srU
theorem b1O{α:Type}{l:List α}{a:α}(h:l[i]?=some a):l.drop i=a::l.drop (i+1):=by
 obtain⟨ab,rfl⟩:=n_3.1 h;exact R0 ab
theorem b8C(x:Src):(b14 x).length=2*(x.imports.length+1):=by
 unfold b14;rw[a5A,n_6];have h:∀l:List U,(l.flatMap a1j).length=2*l.length:=λl=>by
  induction l with
  |nil=>rfl
  |cons y l ih=>rw[a5A,n_6,ih];simp[a1j];omega
 rw[h];simp[a1j];omega
theorem a3F(l:List Ky)(k:Ky):H0 (l++[k])=N3 (H0 l) k:=by unfold H0;rw[b7m];rfl
theorem b53(l:List Ky)(k q:Nat):ShV k q (a1b l k) (a1b l q):=by
 cases l with
 |nil=>exact .inl J
 |cons x l=>exact .inr (.inl ⟨_,_,J,J⟩)
theorem a1w(n:Nat)(l:List Ky):I6 n (a2d l):=by
 cases l with
 |nil=>exact O
 |cons x l=>exact a1h n (x::l)
theorem J2{k j:Nat}{am:List Nat}(l:List Ky)(h:am[j]?=some k):C6 L am (a1b l k) (a1b l j):=by
 cases l with
 |nil=>exact .old a7A
 |cons x l=>exact .vec h
theorem Y2(l:List Ky)(k:Ky)(hl:l.length<=1000000){l':List Ky}(bg:N3 l k=l')(σ:List b9)(q:Nat)(hq:σ[q]?=some (a2d l)):b8 CC 86 [(a1b l q).fgt,.agg k.cells] σ λr τ=>∃_:Unit,r= .ret (a1b l' σ.length)/\τ=σ.set q .dead++[a2d l']/\True:=by
 subst bg;refine b7D (a97 l k hl σ q hq) (λr τ ⟨g,h1,h2,h3⟩=>?_) (λc τ ⟨g,h1,_⟩=>by cases h1);rw[a3b (b03 l k),a2P (b03 l k)];cases g
 .refine .inr ⟨q,a2d l,0,_,by rw[h2];exact hq,h1,(),?_,?_,O⟩
  .rw [h2];rfl
  .have e:=h3 J;rw[h2,e];show σ.set q .dead++[a2d l]=_;rw[a2P (e▸b03 l k)]
 .exact .inl ⟨(),h1,h2,O⟩
theorem b3M(fl:List Fi)(nn:Bool)(L:List (U×Src))(hU:(U3 fl L).length<=1000000)(hL:L.length<=1000000):b8 CC 88 [.agg (o4 fl nn),.agg (V4 (L.map Prod.fst) (L.map Prod.snd))] [] λr τ=>D2 0 τ r (.ret (a1b (H0 (U3 fl L)) 0)) [a2d (H0 (U3 fl L))]:=by
 refine qO Tryz.func88 ?_;refine z_7 ?_;refine W a0E ?_;refine A2 hCC 2 J (α:=List Ky×Nat) (λa=>[(3,.ptr 1 0),(5,a1b (H0 a.1) 2),(16,(.list (fl.map Fi.cv) nn none)),(17,iv fl.length),(18,iv a.2)]) (λa=>[.box (o4 fl nn),.box (V4 (L.map Prod.fst) (L.map Prod.snd)),a2d (H0 a.1)]) (λa=>a.1=(fl.take a.2).map O1/\a.2<=fl.length) (λa=>fl.length -a.2) ⟨([],0),[0,1,9],⟨J,n_4 _⟩,⟨J,J⟩,q_0,uq_⟩ ?_;intro⟨pre,i⟩ ⟨ho,hi⟩;dsimp only at ho hi⊢;have ck:fl.length<=1000000:=by
  have h1:fl.length<=(U3 fl L).length:=by unfold U3;simp
  omega
 have gD:pre.length<=1000000:=by
  rw[ho,L7,a4Y];omega
 refine qk (qC ?_ ?_)<;> intro h1
 .have ab:i<fl.length:=sm_ h1;obtain⟨y,hb⟩:∃y,fl[i]?=some y:=⟨fl[i]'ab,H⟩;obtain⟨l',bg⟩:∃l',N3 (H0 pre) (O1 y)=l':=⟨_,J⟩;have aE:H0 (pre++[O1 y])=l':=by rw[a3F];exact bg
  refine b3N ?_;refine W b3V ?_;refine qD (c5 J b9v i7 (Y2 (H0 pre) (O1 y) b4B bg _ 2 J) J ?_);intro _ _;refine W j9 ?_;exact⟨(pre++[O1 y],i+1),[0,1,4],⟨Q,by dsimp only;rw[ho,a3A hb],Q⟩,⟨J,J⟩,q_0,⟨.inr ⟨_,J,.same J K3⟩,.inr ⟨_,J,.same J a8P⟩,.inr ⟨_,J,.same (by rw[aE]) (a1w _ _)⟩,O⟩⟩
 .have cQ:i=fl.length:=sm_ h1;rw[cQ,R3 (n_7 _)]at ho;subst ho;refine j6 ?_;refine W c3x ?_;refine a13 hCC 3 J 2 5 (a1b (H0 (fl.map O1)) 3) J O (b53 _ _ _) (α:=List Ky×Nat) (λa=>[(5,a1b (H0 a.1) 3),(29,(.list ((L.map Prod.snd).map Src.cv) (gnn (L.map Prod.snd).length) none)),(30,(iv ((L.map Prod.snd).length:Int))),(31,iv a.2)]) (λa=>[.box (o4 fl nn),.box (V4 (L.map Prod.fst) (L.map Prod.snd)),.dead,a2d (H0 a.1)]) (λa=>a.1++(L.drop a.2).flatMap srU=U3 fl L/\a.2<=L.length) (λa=>L.length -a.2) ⟨(fl.map O1,0),[0,1,2,3],⟨J,n_4 _⟩,⟨J,J⟩,q_1,uq_⟩ ?_;intro⟨pre,i⟩ ⟨hr,hi⟩;dsimp only at hr hi⊢;refine qk (qC ?_ ?_)<;> intro h2
  .have ab:i<L.length:=sm_ h2;obtain⟨x,hb⟩:∃x,L[i]?=some x:=⟨L[i]'ab,H⟩;rw[b1O hb,a5A,srU,C7]at hr;have hxl:x.2.imports.length<=1000000/\x.2.decls.length<=1000000:=by
    have h:=n_8 List.length hr;have h2:=b8C x.2;rw[n_6,n_6,n_6,L7]at h;omega
   refine W c5N ?_;refine d8G ?_;refine qD (A4 (m:=1) J O O J J q_5 t_2 t_0 a3p t_4 J (.inr J) K2 Z6 B7 ((x.2.pkg::x.2.imports).map scv) (x.2.imports.length+1) J (by have:=hxl.1;simp;omega) ?_);refine W I7 ?_;refine a13 hCC 7 J 3 5 (a1b (H0 pre) 7) J O (b53 _ _ _) (α:=List Ky×Nat) (λa=>[(5,a1b (H0 a.1) 7),(9,.ptr 4 0),(29,(.list ((L.map Prod.snd).map Src.cv) (gnn (L.map Prod.snd).length) none)),(30,(iv ((L.map Prod.snd).length:Int))),(31,iv i),(40,(.list ((x.2.pkg::x.2.imports).map scv) (gnn (x.2.imports.length+1)) none)),(41,(iv ((x.2.pkg::x.2.imports).length:Int))),(42,iv a.2)]) (λa=>[.box (o4 fl nn),.box (V4 (L.map Prod.fst) (L.map Prod.snd)),.dead,.dead,.box x.2.cells,.dead,.dead,a2d (H0 a.1)]) (λa=>a.1++(((x.2.pkg::x.2.imports).drop a.2).flatMap a1j++(x.2.decls.map (a9a x.2)++(L.drop (i+1)).flatMap srU))=U3 fl L/\a.2<=(x.2.pkg::x.2.imports).length) (λa=>(x.2.pkg::x.2.imports).length -a.2) ⟨(pre,0),[0,1,2,3,4,5,6,7],⟨hr,n_4 _⟩,⟨J,J⟩,⟨O3,O3,O3,O3,O3,O3,O3,O3,O⟩,uq_⟩ ?_;clear hr;intro⟨pre,j⟩ ⟨hr,hj⟩;dsimp only at hr hj⊢;have gD:pre.length<=1000000:=by have:=n_8 List.length hr;rw[n_6]at this;omega
   refine qk (qC ?_ ?_)<;> intro h3
   .have bd:=hxl.1;have aM:(x.2.pkg::x.2.imports).length=x.2.imports.length+1:=J;have hjt:j< (x.2.pkg::x.2.imports).length:=by simp at h3⊢;omega
    obtain⟨s,hs⟩:∃s,(x.2.pkg::x.2.imports)[j]?=some s:=⟨(x.2.pkg::x.2.imports)[j]'hjt,H⟩;rw[b1O hs,a5A,C7]at hr;obtain⟨l1,cp⟩:∃l',N3 (H0 pre) ⟨6,s,[]⟩=l':=⟨_,J⟩;obtain⟨l2,cb⟩:∃l',N3 l1 ⟨7,s,[]⟩=l':=⟨_,J⟩;have aE:H0 (pre++a1j s)=l2:=by rw[show pre++a1j s=(pre++[⟨6,s,[]⟩])++[⟨7,s,[]⟩] by simp[a1j],a3F,a3F,cp,cb]
    have bf:l1.length<=1000000:=by
     have h4:=a0a (pre++[⟨6,s,[]⟩]);have h5:=n_8 List.length hr;rw[a3F,cp]at h4;simp[a1j]at h4 h5;omega
    refine W c5v ?_;refine W b3V ?_;refine qD (c5 J b9v i7 (Y2 (H0 pre) ⟨6,s,[]⟩ b4B cp _ 7 J) J ?_);intro _ _;refine W b3V ?_;refine qD (c5 J b9v i7 (Y2 l1 ⟨7,s,[]⟩ bf cb _ 8 J) J ?_);intro _ _;refine W j9 ?_;exact⟨(pre++a1j s,j+1),[0,1,2,3,4,5,6,9],⟨Q,by dsimp only;rw[C7];exact hr,Q⟩,⟨J,J⟩,⟨O3,O3,O3,O3,O3,O3,O3,O3,O⟩,⟨.inr ⟨_,J,.same J K3⟩,.inr ⟨_,J,.same J a8P⟩,.inl J,.inl J,.inr ⟨_,J,.same J b4n⟩,.inl J,.inl J,.inr ⟨_,J,.same (by rw[aE]) (a1w _ _)⟩,O⟩⟩
   .have hje:(x.2.pkg::x.2.imports).length<=j:=by simp at h3⊢;omega
    rw[T6 hje,List.flatMap_nil,a1D]at hr;refine j6 ?_;refine W a4S ?_;refine a13 hCC 8 J 7 5 (a1b (H0 pre) 8) J O (b53 _ _ _) (α:=List Ky×Nat) (λa=>[(5,a1b (H0 a.1) 8),(9,.ptr 4 0),(29,(.list ((L.map Prod.snd).map Src.cv) (gnn (L.map Prod.snd).length) none)),(30,(iv ((L.map Prod.snd).length:Int))),(31,iv i),(56,(.list (x.2.decls.map De.cv) (gnn x.2.decls.length) none)),(57,iv x.2.decls.length),(58,iv a.2)]) (λa=>[.box (o4 fl nn),.box (V4 (L.map Prod.fst) (L.map Prod.snd)),.dead,.dead,.box x.2.cells,.dead,.dead,.dead,a2d (H0 a.1)]) (λa=>a.1++((x.2.decls.drop a.2).map (a9a x.2)++(L.drop (i+1)).flatMap srU)=U3 fl L/\a.2<=x.2.decls.length) (λa=>x.2.decls.length -a.2) ⟨(pre,0),[0,1,2,3,4,5,6,7,8],⟨hr,n_4 _⟩,⟨J,J⟩,⟨O3,O3,O3,O3,O3,O3,O3,O3,O⟩,uq_⟩ ?_;clear hr gD;intro⟨pre,m⟩ ⟨hr,hm⟩;dsimp only at hr hm⊢;have gD:pre.length<=1000000:=by have:=n_8 List.length hr;rw[n_6]at this;omega
    refine qk (qC ?_ ?_)<;> intro h4
    .have bd:=hxl.2;have hmt:m<x.2.decls.length:=sm_ h4;obtain⟨d,hd⟩:∃d,x.2.decls[m]?=some d:=⟨x.2.decls[m]'hmt,H⟩;rw[b1O hd,b0t]at hr;obtain⟨l',bg⟩:∃l',N3 (H0 pre) (a9a x.2 d)=l':=⟨_,J⟩;have aE:H0 (pre++[a9a x.2 d])=l':=by rw[a3F];exact bg
     refine b1Z ?_;refine W e0C ?_;refine d3u ?_;refine qC ?_ ?_<;>intro h5
     .have hk:a9a x.2 d=⟨2,x.2.pkg,d.name⟩:=F (I h5);refine qD (j2 J O J J j3 t_1 (.inl J) J J (nb J) ?_);refine qD (c5 J b9v i7 (Y2 (H0 pre) ⟨2,x.2.pkg,d.name⟩ b4B (hk▸bg) _ 8 J) J ?_);intro _ _;refine W j9 ?_;exact⟨(pre++[a9a x.2 d],m+1),[0,1,2,3,4,5,6,7,11],⟨Q,by dsimp only;rw[C7];exact hr,Q⟩,⟨J,J⟩,⟨O3,O3,O3,O3,O3,O3,O3,O3,O⟩,⟨.inr ⟨_,J,.same J K3⟩,.inr ⟨_,J,.same J a8P⟩,.inl J,.inl J,.inr ⟨_,J,.same J b4n⟩,.inl J,.inl J,.inl J,.inr ⟨_,J,.same (by rw[aE]) (a1w _ _)⟩,O⟩⟩
     .have bK:¬d.k=2:=I h5;refine qC ?_ ?_<;>intro h6
      .have hk:a9a x.2 d=⟨3,d.name,[]⟩:=(D bK).trans (F (I h6));refine W b3V ?_;refine qD (j2 J O O J j3 t_3 j5 J J (nb J) ?_);refine qD (c5 J b9v i7 (Y2 (H0 pre) ⟨3,d.name,[]⟩ b4B (hk▸bg) _ 8 J) J ?_);intro _ _;refine W j9 ?_;exact⟨(pre++[a9a x.2 d],m+1),[0,1,2,3,4,5,6,7,11],⟨Q,by dsimp only;rw[C7];exact hr,Q⟩,⟨J,J⟩,⟨O3,O3,O3,O3,O3,O3,O3,O3,O⟩,⟨.inr ⟨_,J,.same J K3⟩,.inr ⟨_,J,.same J a8P⟩,.inl J,.inl J,.inr ⟨_,J,.same J b4n⟩,.inl J,.inl J,.inl J,.inr ⟨_,J,.same (by rw[aE]) (a1w _ _)⟩,O⟩⟩
      .have hk:a9a x.2 d=⟨1,x.2.pkg,d.name⟩:=(D bK).trans (D (I h6));refine qD (c5 J b9v i7 (Y2 (H0 pre) ⟨1,x.2.pkg,d.name⟩ b4B (hk▸bg) _ 8 J) J ?_);intro _ _;refine W j9 ?_;exact⟨(pre++[a9a x.2 d],m+1),[0,1,2,3,4,5,6,7,11],⟨Q,by dsimp only;rw[C7];exact hr,Q⟩,⟨J,J⟩,⟨O3,O3,O3,O3,O3,O3,O3,O3,O⟩,⟨.inr ⟨_,J,.same J K3⟩,.inr ⟨_,J,.same J a8P⟩,.inl J,.inl J,.inr ⟨_,J,.same J b4n⟩,.inl J,.inl J,.inl J,.inr ⟨_,J,.same (by rw[aE]) (a1w _ _)⟩,O⟩⟩
    .have bR:x.2.decls.length<=m:=sm_ h4;rw[T6 bR,b4R,a1D]at hr;refine b6N ?_;exact⟨(pre,i+1),[0,1,2,8],⟨Q,hr,Q⟩,⟨J,J⟩,q_1,uq_⟩
  .have cQ:L.length<=i:=sm_ h2;rw[T6 cQ,List.flatMap_nil,a0z]at hr;subst hr;refine z_9 ?_;exact⟨_,a1V J O J,⟨[3],J,J,.ret (J2 _ J),.inr ⟨_,J,.same J (a1w _ _)⟩,O⟩⟩
theorem d2D{R:Nat->Nat->Prop}(l:List Ky):I8 R (a2d l) (a2d l):=by
 cases l with
 |nil=>exact .dead
 |cons x l=>exact a8V (U1 (x::l))
theorem b7y{f:FuncId}{args:List CV}{Jd:List Ky}(ha:∀a∈args,r5 a)(h:b8 CC f args [] λr τ=>D2 0 τ r (.ret (a1b Jd 0)) [a2d Jd])(σ:List b9):b8 CC f args σ λr τ=>∃_:Unit,r= .ret (.list (Jd.map Ky.cv) (gnn Jd.length) (C3 Jd.length σ.length))/\τ=σ++[o5 Jd.length]/\True:=
 c2p (W8 (α:=Unit) (res:=λ_=>.ret (a1b Jd 0)) (res':=λ_ n=>.ret (a1b Jd n)) (S:=λ_=>[a2d Jd]) (S':=λ_ _=>[a2d Jd]) (P:=λ_=>True) hCC ha (G5 hCC (h.mono λr τ hh=>⟨_,_,hh,(),J,J,O⟩)) (λ_ _=>J) (λ_ n i x hx=>by
  rcases i with _|i
  .injection hx with hx;subst hx;exact⟨_,J,d2D _⟩
  .cases hx) (λ_ n=>.ret (by cases Jd with
  |nil=>exact .pure (V1 ([]:List Ky) _)
  |cons x l=>exact .vec H)) σ) (λr τ ⟨_,h1,h2,_⟩=>by
  cases Jd with
  |nil=>exact .inl ⟨(),h1,h2,O⟩
  |cons x l=>exact .inr ⟨σ.length,3,(x::l).map Ky.cv,H,by rw[h2];simp[a2d],by rw[h1];simp[a1b],(),J,by rw[h2];simp[o5],O⟩) (λc τ ⟨_,h1,_⟩=>by cases h1)
theorem a8f(fl:List Fi)(nn:Bool)(L:List (U×Src))(hU:(U3 fl L).length<=1000000)(hL:L.length<=1000000)(σ:List b9):b8 CC 88 [.agg (o4 fl nn),.agg (V4 (L.map Prod.fst) (L.map Prod.snd))] σ λr τ=>∃_:Unit,r= .ret (.list ((H0 (U3 fl L)).map Ky.cv) (gnn (H0 (U3 fl L)).length) (C3 (H0 (U3 fl L)).length σ.length))/\τ=σ++[o5 (H0 (U3 fl L)).length]/\True:=
 b7y (λa h=>by
  simp at h;rcases h with rfl|rfl
  .exact r6 (cs:=o4 _ _) ⟨K6 _ _,O⟩
  .exact r6 ⟨F3 _ _,a3U _ _,O⟩) (b3M fl nn L hU hL) σ
def B5(v:Va):Ky:=⟨5,v.n,[]⟩
theorem I3(fl:List Fi)(nn:Bool):r5 (.agg (o4 fl nn)):=r6 (cs:=o4 _ _) ⟨K6 _ _,O⟩
theorem P6(ev:List Va)(nn:Bool):r5 (.agg (E7 ev nn)):=r6 (cs:=E7 _ _) ⟨a2q _ _,O⟩
structure a0Y(fl:List Fi):Prop where
 pl:∀f∈fl,f.p.length<=1000000000
 len:fl.length<=64
 es:(A5 fl).2.2.length<=10000
 ss:(A5 fl).2.1.length<=64
 im:∀x∈(A5 fl).2.1,x.2.imports.length<=8
 ky:∀k∈KU fl,k.a.length<=1000000000/\k.b.length<=1000000000
theorem b3C(ev:List Va)(en:Bool)(fS:ev.length<=1000000):b8 CC 80 [.agg (E7 ev en)] [] λr τ=>∃_:Unit,D2 0 τ r (.ret (.list ((ev.map B5).map Ky.cv) (gnn (ev.map B5).length) (C3 (ev.map B5).length 0))) [o5 (ev.map B5).length]/\True:=by
 refine qO Tryz.func80 ?_;refine d1U ?_;refine A2 hCC 1 J (α:=Nat×List Ky) (λa=>[(3,(.list (a.2.map Ky.cv) (gnn a.2.length) (C3 a.2.length 1))),(7,(.list (ev.map Va.cv) en none)),(8,iv ev.length),(9,iv a.1)]) (λa=>[.box (E7 ev en),o5 a.2.length]) (λa=>a.1<=ev.length/\a.2=(ev.take a.1).map B5) (λa=>ev.length -a.1) ⟨(0,[]),[0,9],⟨n_4 _,J⟩,⟨J,J⟩,ut_,uq_⟩ ?_;intro⟨i,aw⟩ ⟨hi,ho⟩;dsimp only at hi ho⊢;have eQ:aw.length<=i:=by rw[ho,L7,a4Y];omega
 refine qk (qC ?_ ?_)<;> intro h1
 .have ab:i<ev.length:=sm_ h1;obtain⟨y,hb⟩:∃y,ev[i]?=some y:=⟨ev[i]'ab,H⟩;refine b4r ?_;refine W b3V ?_;refine W (B1 [Ky.cv (B5 y)] J ⟨O,O⟩ t_5 t_3 t_9 J J J J J J J J J) ?_;refine qD (A4 J O O J H q_5 t_5 t_3 a4r t_9 J (.inr J) K2 a03 B7 ((aw++[B5 y]).map Ky.cv) (aw++[B5 y]).length H H ?_);refine W j9 ?_;exact⟨(i+1,aw++[B5 y]),[0,3],⟨Q,Q,by dsimp only;rw[ho,a3A hb]⟩,⟨J,J⟩,ut_,uq_⟩
 .have cQ:i=ev.length:=sm_ h1;rw[cQ,R3 (n_7 _)]at ho;subst ho;refine z_9 ?_;exact⟨_,rE1,⟨(),⟨[1],J,J,.ret (C6.grow (f:=Ky.cv) (λ_=>⟨.val _,.val _,.val _,O⟩) J),.inr ⟨_,J,.same J D8⟩,O⟩,O⟩⟩
theorem a8p(ev:List Va)(en:Bool)(fS:ev.length<=1000000)(σ:List b9):b8 CC 80 [.agg (E7 ev en)] σ λr τ=>∃_:Unit,r= .ret (.list ((ev.map B5).map Ky.cv) (gnn (ev.map B5).length) (C3 (ev.map B5).length σ.length))/\τ=σ++[o5 (ev.map B5).length]/\True:=
 a1U (L:=λ_:Unit=>ev.map B5) (λa h=>by simp at h;subst h;exact P6 _ _) a5P (b3C ev en fS) σ
theorem c1q(fl:List Fi)(nn:Bool)(h1:a0Y fl)(fs:List Fi)(ns:Bool)(h2:a0Y fs):b8 CC 77 [.agg (o4 fl nn),.agg (o4 fs ns),.val (.func (.func 78) #[] #[])] [] λr τ=>∃l:List Ky,D2 0 τ r (.ret (.list (l.map Ky.cv) (gnn l.length) (C3 l.length 0))) [o5 l.length]/\((∀k,k∈l↔k∈KU fl++KU fs)/\l.length<=40000):=by
 refine qO Tryz.func77 ?_;refine z_7 ?_;refine d7H ?_;refine b8q ?_;refine chf J a2l ?_;refine C8 ?_;refine B0 J J J (a6s J O J Tryz.call78 ⟨O,O⟩ (c5e fl nn h1.pl h1.len h1.es h1.ss h1.im _) J ?_);intro l1 ⟨bZ,cp⟩;refine⟨⟨F4,a05,O⟩,?_⟩;refine B0 J J J (a6s J O J Tryz.call78 ⟨O,O⟩ (c5e fs ns h2.pl h2.len h2.es h2.ss h2.im _) J ?_);intro l2 ⟨ce,cb⟩;refine⟨O,?_⟩;refine B0 J J J (A4 J O O J H q_5 t_5 t_3 a4r t_9 J (.inr J) K2 a03 B7 ((l1++l2).map Ky.cv) (l1++l2).length (by rw[a3j]) H ?_);refine⟨O,?_⟩;refine b0m ?_;exact⟨_,a1V J O J,⟨l1++l2,⟨[4],J,J,.ret (C6.grow (f:=Ky.cv) (λ_=>⟨.val _,.val _,.val _,O⟩) J),.inr ⟨_,J,.same J D8⟩,O⟩,λk=>by rw[J5,J5,bZ,ce],by rw[n_6];omega⟩⟩
theorem b4G(fl:List Fi)(nn:Bool)(h1:a0Y fl)(fs:List Fi)(ns:Bool)(h2:a0Y fs)(σ:List b9):b8 CC 77 [.agg (o4 fl nn),.agg (o4 fs ns),.val (.func (.func 78) #[] #[])] σ λr τ=>∃l:List Ky,r= .ret (.list (l.map Ky.cv) (gnn l.length) (C3 l.length σ.length))/\τ=σ++[o5 l.length]/\((∀k,k∈l↔k∈KU fl++KU fs)/\l.length<=40000):=
 a1U (L:=λl=>l) (λa h=>by simp at h;rcases h with rfl|rfl|rfl;exact I3 _ _;exact I3 _ _;exact .val _) a5P (c1q fl nn h1 fs ns h2) σ
theorem c1V(ev:List Va)(en:Bool)(h1:ev.length<=1000000)(ew:List Va)(ne:Bool)(h2:ew.length<=1000000):b8 CC 79 [.agg (E7 ev en),.agg (E7 ew ne),.val (.func (.func 80) #[] #[])] [] λr τ=>∃_:Unit,D2 0 τ r (.ret (.list ((ev.map B5++ew.map B5).map Ky.cv) (gnn (ev.map B5++ew.map B5).length) (C3 (ev.map B5++ew.map B5).length 0))) [o5 (ev.map B5++ew.map B5).length]/\True:=by
 refine qO Tryz.func79 ?_;refine z_7 ?_;refine d7H ?_;refine chf J c3m ?_;refine chf J W7 ?_;refine chf J c3m ?_;refine C8 ?_;refine B0 J J J (a6s J O J Tryz.call80 ⟨O,O⟩ (a8p ev en h1 _) J ?_);intro _ _;refine⟨⟨F4,(by exact c8 J a2w),O⟩,?_⟩;refine B0 J J J (a6s J O J Tryz.call80 ⟨O,O⟩ (a8p ew ne h2 _) J ?_);intro _ _;refine⟨O,?_⟩;refine B0 J J J (A4 J O O J H q_5 t_5 t_3 a4r t_9 J (.inr J) K2 a03 B7 ((ev.map B5++ew.map B5).map Ky.cv) (ev.map B5++ew.map B5).length (by rw[a3j]) H ?_);refine⟨O,?_⟩;refine b0m ?_;exact⟨_,a1V J O J,⟨(),⟨[4],J,J,.ret (C6.grow (f:=Ky.cv) (λ_=>⟨.val _,.val _,.val _,O⟩) J),.inr ⟨_,J,.same J D8⟩,O⟩,O⟩⟩
theorem a87(ev:List Va)(en:Bool)(h1:ev.length<=1000000)(ew:List Va)(ne:Bool)(h2:ew.length<=1000000)(σ:List b9):b8 CC 79 [.agg (E7 ev en),.agg (E7 ew ne),.val (.func (.func 80) #[] #[])] σ λr τ=>∃_:Unit,r= .ret (.list ((ev.map B5++ew.map B5).map Ky.cv) (gnn (ev.map B5++ew.map B5).length) (C3 (ev.map B5++ew.map B5).length σ.length))/\τ=σ++[o5 (ev.map B5++ew.map B5).length]/\True:=
 a1U (L:=λ_:Unit=>ev.map B5++ew.map B5) (λa h=>by simp at h;rcases h with rfl|rfl|rfl;exact P6 _ _;exact P6 _ _;exact .val _) a5P (c1V ev en h1 ew ne h2) σ
end Go.Proofs.YtlppbmfecjabeaaGreatDoor
namespace Go.Proofs
open Go.Shelf
def Tryz.sortKey_ren:Go.Shelf.Ren:=⟨λ|6=>127|15=>166|14=>165|28=>216|29=>217|20=>208|21=>209|22=>210|23=>211|24=>212|25=>213|26=>214|27=>215|46=>264|47=>265|48=>266|49=>267|50=>268|57=>299|n=>n,λ|22=>36|24=>39|25=>171|3=>3|39=>141|0=>0|53=>262|55=>86|4=>4|46=>256|45=>255|50=>139|5=>5|9=>9|66=>292|70=>296|76=>320|77=>321|n=>n,λ|n=>n⟩
theorem Tryz.sortKey:Go.Proofs.SlLaysF0.n6 Tryz.prog Tryz.sortKey_ren:={
 mixed:=by kernel_rfl
 f6:=⟨Tryz.f127.name,G,Tryz.func127.trans (n_8 some l8)⟩
 f14:=⟨Tryz.f165.name,G,Tryz.func165.trans (n_8 some l8)⟩
 f15:=Tryz.func166.trans (n_8 some l8)
 f20:=⟨Tryz.f208.name,G,Tryz.func208.trans (n_8 some l8)⟩
 f21:=⟨Tryz.f209.name,G,Tryz.func209.trans (n_8 some l8)⟩
 f22:=⟨Tryz.f210.name,G,Tryz.func210.trans (n_8 some l8)⟩
 f23:=⟨Tryz.f211.name,G,Tryz.func211.trans (n_8 some l8)⟩
 f24:=⟨Tryz.f212.name,G,Tryz.func212.trans (n_8 some l8)⟩
 f25:=⟨Tryz.f213.name,G,Tryz.func213.trans (n_8 some l8)⟩
 f26:=⟨Tryz.f214.name,G,Tryz.func214.trans (n_8 some l8)⟩
 f27:=⟨Tryz.f215.name,G,Tryz.func215.trans (n_8 some l8)⟩
 f28:=Tryz.func216.trans (n_8 some l8)
 f29:=d3I.trans (n_8 some l8)
 f46:=⟨Tryz.f264.name,G,Tryz.func264.trans (n_8 some l8)⟩
 f47:=Tryz.func265.trans (n_8 some l8)
 f48:=Tryz.func266.trans (n_8 some l8)
 f49:=⟨Tryz.f267.name,G,Tryz.func267.trans (n_8 some l8)⟩
 f50:=⟨Tryz.f268.name,G,Tryz.func268.trans (n_8 some l8)⟩
 f57:=⟨Tryz.f299.name,G,Tryz.func299.trans (n_8 some l8)⟩
 t0:=d3W
 a0:=d1t
 z0:=c8U
 v0:=d1E
 t3:=b8r
 a3:=a2K
 z3:=t_1
 v3:=t_8
 t4:=c3V
 a4:=c31
 z4:=c3k
 v4:=d2V
 t5:=d2L
 a5:=d3x
 z5:=a1P
 v5:=a4D
 t9:=c65
 a9:=Y4
 z9:=t_0
 v9:=t_4
 t22:=Tryz.underlying36
 a22:=d1s
 z22:=c9K
 v22:=c2d
 t25:=Tryz.underlying171
 a25:=Tryz.isAgg171
 z25:=Tryz.sizeOf171
 v25:=Tryz.zeroValue171
 t39:=c8H
 a39:=c9Z
 z39:=d2n
 v39:=d1e
 t45:=Tryz.underlying255
 a45:=Tryz.isAgg255
 z45:=Tryz.sizeOf255
 v45:=Tryz.zeroValue255
 t46:=Tryz.underlying256
 a46:=Tryz.isAgg256
 z46:=Tryz.sizeOf256
 v46:=Tryz.zeroValue256
 t50:=Tryz.underlying139
 a50:=Tryz.isAgg139
 z50:=Tryz.sizeOf139
 v50:=Tryz.zeroValue139
 t53:=d3j
 a53:=d1C
 z53:=c9v
 v53:=d0B
 t55:=d0a
 a55:=c8m
 z55:=d0E
 v55:=d0Y
 t66:=Tryz.underlying292
 a66:=Tryz.isAgg292
 z66:=Tryz.sizeOf292
 v66:=Tryz.zeroValue292
 t70:=Tryz.underlying296
 a70:=Tryz.isAgg296
 z70:=Tryz.sizeOf296
 v70:=Tryz.zeroValue296
 t76:=Tryz.underlying320
 a76:=Tryz.isAgg320
 z76:=Tryz.sizeOf320
 v76:=Tryz.zeroValue320
 t77:=Tryz.underlying321
 a77:=Tryz.isAgg321
 z77:=Tryz.sizeOf321
 v77:=Tryz.zeroValue321}
end Go.Proofs
namespace Go.Proofs.YtlppbmfecjabeaaGreatDoor
open Go Go.Cl
variable{fl fs:List Fi}{ev ea eb ew:List Va}{k y x:Ky}{l:List Ky}{i n:Nat}{σ:List b9}{a s:U}{α:Type}
instance:Inhabited Ky:=⟨⟨0,[],[]⟩⟩
abbrev d4Q(x:Ky):List Value:=[.int .i64 x.k,.string (str x.a),.string (str x.b)]
theorem b51{b:U}:Op.bytesLess a b=true↔Go.Lib.compareBytes a b= -1:=by rw[c4U];simp
theorem c00{b c:U}(h:Go.Lib.compareBytes a b= -1)(k:Go.Lib.compareBytes b c= -1):Go.Lib.compareBytes a c= -1:=b51.1 (b10 (b51.2 h) (b51.2 k))
theorem d5q{a b:Int}:a2n a b= -1↔a<b:=by unfold a2n;split<;>(try split)<;>omega
theorem d6p:V6 x y= -1↔x.k <y.k\/(x.k=y.k/\(Go.Lib.compareBytes x.a y.a = -1\/(x.a=y.a/\Go.Lib.compareBytes x.b y.b = -1))):=by
 unfold V6;by_cases h1:a2n x.k y.k=0
 .have e1:=(a6h _ _).1 h1;rw[D (by simp[h1])];by_cases h2:Go.Lib.compareBytes x.a y.a=0
  .have e2:=(b1C _ _).1 h2;rw[D (by simp[h2])];constructor
   .intro h;exact .inr ⟨e1,.inr ⟨e2,h⟩⟩
   .rintro (h|⟨-,h|⟨-,h⟩⟩)
    .omega
    .omega
    .exact h
  .rw [F h2];constructor
   .intro h;exact .inr ⟨e1,.inl h⟩
   .rintro (h|⟨-,h|⟨h,-⟩⟩)
    .omega
    .exact h
    .exact absurd ((b1C _ _).2 h) h2
 .rw [F h1,d5q];constructor
  .intro h;exact .inl h
  .rintro (h|⟨h,-⟩)
   .exact h
   .exact absurd ((a6h _ _).2 h) h1
theorem c2w{z:Ky}(h:V6 x y= -1)(k:V6 y z= -1):V6 x z= -1:=by
 rw[d6p]at*
 rcases h with h|⟨h1,h|⟨h2,h⟩⟩<;>rcases k with k|⟨k1,k|⟨k2,k⟩⟩
 .exact .inl X
 .exact .inl X
 .exact .inl X
 .exact .inl X
 .exact .inr ⟨X,.inl (c00 h k)⟩
 .exact .inr ⟨X,.inl (k2▸h)⟩
 .exact .inl X
 .exact .inr ⟨X,.inl (h2▸k)⟩
 .exact .inr ⟨X,.inr ⟨h2.trans k2,c00 h k⟩⟩
theorem a5K(x y:Ky):Go.Proofs.ltOf V6 x y=ltK x y:=by
 unfold Go.Proofs.ltOf ltK
 rcases b2q x y with h|h|h<;>simp[h]
theorem a35{z:Ky}(h:ltK x y=true)(k:ltK y z=true):ltK x z=true:=by
 simp only[ltK,a1G]at*;exact c2w h k
theorem a8w(h:ltK x y=false)(k:ltK y x=false):x=y:=by
 rw[c8Y]at k;simp only[ltK,b3R]at h k
 rcases b2q x y with e|e|e
 .exact absurd e h
 .exact (b62 x y).1 e
 .exact absurd e k
theorem b06(x:Ky):ltK x x=false:=by simp[ltK,(b62 x x).2 J]
theorem d7K:Go.Sort.SWO (Go.Proofs.ltOf V6) where
 irrefl x:=by rw[a5K];exact b06 x
 trans x y z h k:=by rw[a5K]at*;exact a35 h k
 ntrans x y z h k:=by
  rw[a5K]at*;cases h2:ltK x z
  .rfl
  .cases h3:ltK y x
   .have:=a8w h h3;subst this;exact h2.symm.trans k
   .exact (a35 h3 h2).symm.trans k
theorem c7t:∀g cells,CC.glob g=some cells->∀c∈cells,∃v,c=CV.val v:=λg cells h c hc=>by
 have:cells=c1r:=by
  simp only[CC]at h;split at h
  .exact (Option.some.inj h).symm
  .cases h
 subst this;obtain⟨z,_,rfl⟩:=D5.1 hc;exact⟨_,J⟩
theorem c0x{k:Nat}(ay:l≠[])(ak:l.length<=1000000)(hk:σ[k]?=some (.vec 3 (l.map Ky.cv))):b8 CC 127 [.vec k 0 l.length,.val (.func (.func 128) #[] #[])] σ λr τ=>∃_:Unit,r= .ret (.tup [])/\τ=σ.set k (.vec 3 ((b2i V6 l).map Ky.cv))/\True:=
 (c52 (C:=CC) (f:=127) (g:=128) (enc:=d4Q) (s:=3) (cf:=V6) X a0b (λx v hv=>by simp[d4Q]at hv;rcases hv with rfl|rfl|rfl<;>rfl)
  (λblk off cap d w h1 h2 h3 h4=>Go.Proofs.AnyQ.slices_SortFunc_total Tryz.sortKey 3 b3m t_3 d4Q a0b (λx v hv=>by simp[d4Q]at hv;rcases hv with rfl|rfl|rfl<;>rfl) V6 d7K 128 #[] blk off cap d w Tryz.call128 h1 h2 h3 h4 (λx y e1 e2=>by rw[a5K]at e1 e2;exact a8w e1 e2))
  (λx y=>c2m x y) c7t ay X hk).mono λr τ h=>⟨(),h.1,h.2,O⟩
def ddK:List Ky->List Ky
 | []=>[]
 | [x]=>[x]
 |x::y::l=>if x=y then ddK (y::l)else x::ddK (y::l)
theorem b43(x y:Ky)(l:List Ky):ddK (x::y::l)=if x=y then ddK (y::l)else x::ddK (y::l):=by rw[ddK]
theorem c3o:∀(l:List Ky) (x y:Ky),ddK (l++[x,y])=if x=y then ddK (l++[x])else ddK (l++[x])++[y]
 | [],x,y=>by
  simp only[a1D,b43];by_cases h:x=y<;>simp[h,ddK]
 | [a],x,y=>by
  simp only[b0G,a1D,b43];by_cases h1:a=x<;>by_cases h2:x=y<;>simp[h1,h2,ddK]
 |a::b::l,x,y=>by
  have h:=c3o (b::l) x y;simp only[b0G]at h;simp only[b0G,b43,h];by_cases h1:a=b<;>by_cases h2:x=y<;>simp[h1,h2]
theorem c5a{j:Nat}(hx:l[j]?=some x)(hy:l[j+1]?=some y):ddK (l.take (j+2))=if x=y then ddK (l.take (j+1))else ddK (l.take (j+1))++[y]:=by
 have h1:l.take (j+1)=l.take j++[x]:=by rw[a1H,hx];rfl
 have h2:l.take (j+2)=l.take j++[x,y]:=by rw[show j+2=(j+1)+1 from J,a1H,hy,h1];simp
 rw[h1,h2,c3o]
theorem e0q:ddK (l.take 1)=l.take 1:=by cases l<;>rfl
theorem d0U(h:l.length <2):ddK l=l:=by
 match l,h with
 | [],_=>rfl
 | [x],_=>rfl
theorem b3O(σ:List b9):b8 CC 126 [(.list (([]:List Ky).map Ky.cv) false none)] σ λr aa=>r= .ret (.list (([]:List Ky).map Ky.cv) false none)/\aa=σ:=by
 refine b8.anyw hCC pu_ pu_ (c7 (qO Tryz.func126 ?_)) σ;refine W (c5r J O J t_5 J) ?_;refine qC ?_ ?_<;>intro h1
 .refine c6 ?_;exact⟨_,rE1,_,_,J,J,(a1d (show CV.list [] false none=_ from J) pu_)⟩
 .exfalso;cases h1
theorem b7p(l:List Ky)(hn:l≠[])(hl:l.length<=1000000)(σ:List b9):b8 CC 126 [(.list (l.map Ky.cv) true none)] σ λr aa=>∃_:Unit,r= .ret (.vec σ.length 0 l.length)/\aa=σ++[.vec 3 (l.map Ky.cv)]/\True:=by
 refine qO Tryz.func126 ?_;refine W (c5r J O J t_5 J) ?_;refine qC ?_ ?_<;>intro h1
 .exfalso;cases h1
 .refine qD (e0V J t_5 t_3 (λa0=>?_));refine qD (d6x l.length J O O J q_5 t_5 t_3 a4r t_9 J (by simp;exact a81.2 hn) a03 B7 H ?_);exact d2K
theorem b8e(l:List Ky)(hl:l.length<=1000000):b8 CC 129 [.vec 0 0 l.length] [.vec 3 (l.map Ky.cv)] λr τ=>∃rest:List Ky,r= .ret (.vec 0 0 (ddK l).length)/\τ=[.vec 3 ((ddK l++rest).map Ky.cv)]/\True:=by
 refine qO Tryz.func129 ?_;refine W b8y ?_;refine qC ?_ ?_<;>intro h1
 .have ab:l.length <2:=sm_ h1;have hdd:=d0U ab;refine c6 ?_;exact⟨_,rE1,⟨[],by rw[hdd],by rw[hdd];simp,O⟩⟩
 .have aF:2<=l.length:=sm_ h1;refine H3 (α:=Nat) (λk=>[(0,(.vec 0 0 l.length)),(3,iv k)]) (λ_=>[.vec 3 (l.map Ky.cv)]) (λk=>1<=k/\k<=l.length/\ddK (l.take k)=l.take k) (λk=>l.length -k) 1 ⟨n_7 _,X,e0q⟩ tu_ J ?_;intro k E0 ⟨bw,bK,hd⟩;refine qk (W b8y ?_);refine qC ?_ ?_<;>intro h2
  .have ab:k<l.length:=sm_ h2;obtain⟨y,hy⟩:∃y,l[k]?=some y:=⟨l[k]'ab,H⟩;obtain⟨x,hx⟩:∃x,l[k-1]?=some x:=⟨l[k-1]'X,H⟩;have fN:=c5a hx (by rw[Nat.sub_add_cancel bw];exact hy);rw[show k-1+2=k+1 by omega,show k-1+1=k by omega,hd]at fN;refine cW 10 ?_;refine a3c ?_;refine hY b0j ?_;refine hY (a3r J O J b3m t_3 J (c06 (j1 hy) X) (nb J)) ?_;refine a3c ?_;refine hY X7 ?_;refine hY b0j ?_;refine hY (a3r J O J b3m t_3 J (c06 (j1 hx) X) (nb J)) ?_;refine hY (b5h J O O (xs:=[.int .i64 y.k,.string (str y.a),.string (str y.b)]) (ys:=[.int .i64 x.k,.string (str x.a),.string (str x.b)]) J J c1h (b3k y x)) ?_;refine W1 ?_;refine qC ?_ ?_<;>intro h3
   .have hyx:x=y:=by
     have h3':y=x:=I h3;exact h3'.symm
    rw[F hyx]at fN;refine W (Y6 (l:=k) J O J t_5 t_3 J a2A J a2c H) ?_;refine H3 (α:=List Ky×Nat×Nat) (λa=>[(0,(.vec 0 0 l.length)),(3,iv a.2.1),(4,(.vec 0 (0+k) (l.length -k))),(5,iv a.2.2)]) (λa=>[.vec 3 (a.1.map Ky.cv)]) (λa=>a.1.length=l.length/\1<=a.2.2/\a.2.2<=l.length -k/\a.2.1<=k+a.2.2 -1/\ddK (l.take (k+a.2.2))=a.1.take a.2.1/\∀j,k+a.2.2 -1<=j->a.1[j]?=l[j]?) (λa=>l.length -a.2.2) (l,k,1) ⟨J,n_7 _,Q,Q,fN,λ_ _=>J⟩ tu_ J ?_;intro⟨m,p,q⟩ E1 ⟨hm,bY,cN,hp,hmd,hmj⟩;dsimp only at hm bY cN hp hmd hmj⊢;refine qk (W b8y ?_);refine qC ?_ ?_<;>intro h4
    .have hlt2:q<l.length -k:=sm_ h4;obtain⟨z,hz⟩:∃z,l[k+q]?=some z:=⟨l[k+q]'X,H⟩;obtain⟨u,hu⟩:∃u,l[k+q-1]?=some u:=⟨l[k+q-1]'X,H⟩;have hzm:m[k+q]?=some z:=(hmj _ X).trans hz;have hum:m[k+q-1]?=some u:=(hmj _ X).trans hu;have iP:=c5a hu (by rw[Nat.sub_add_cancel X];exact hz);rw[show k+q-1+2=k+(q+1) by omega,show k+q-1+1=k+q by omega,hmd]at iP;refine cW 10 ?_;refine a3c ?_;refine hY b0j ?_;refine hY (a3r J O J b3m t_3 J (c06 (j1 hzm) X) (nb J)) ?_;refine a3c ?_;refine hY X7 ?_;refine hY b0j ?_;refine hY (a3r J O J b3m t_3 J (c06 (j1 hum) X) (nb J)) ?_;refine hY (d7b J O O (xs:=[.int .i64 z.k,.string (str z.a),.string (str z.b)]) (ys:=[.int .i64 u.k,.string (str u.a),.string (str u.b)]) J J c1h (b3k z u)) ?_;refine W1 ?_;refine qC ?_ ?_<;>intro h5
     .have hzu:¬u=z:=by
       have h5':¬z=u:=I h5;exact λe=>h5' e.symm
      rw[D hzu]at iP;obtain⟨o,ho⟩:=gx_ m p;refine W b0j ?_;refine W (a3r J O J b3m t_3 J (c06 (j1 hzm) X) (nb J)) ?_;refine W b0j ?_;refine qD (M8 ((m.set p z).map Ky.cv) J O O J j3 t_3 j5 J (c06 (j1 ho) X) J (nb J) (by rw[show 0+(p:Int).toNat=p by omega,List.map_set];rfl) J ?_);refine W j9 ?_;refine W j9 ?_;exact⟨(m.set p z,p+1,q+1),Q,⟨I hm,Q,Q,Q,by dsimp only;rw[iP,a1H,List.take_set_of_le (n_7 _),b0L X];rfl,λj hj=>by dsimp only at hj;rw[a2M X];exact hmj j X⟩,tu_,J⟩
     .have hzu:u=z:=by
       have h5':z=u:=I h5;exact h5'.symm
      rw[F hzu]at iP;refine W j9 ?_;exact⟨(m,p,q+1),Q,⟨hm,Q,Q,Q,iP,λj hj=>by dsimp only at hj;exact hmj j X⟩,tu_,J⟩
    .have iA:q=l.length -k:=sm_ h4;subst iA;rw[show k+(l.length -k)=l.length by omega,a6K]at hmd;have ba:(m.take p).length=p:=by rw[a4Y];omega
     have eN:(ddK l).length=p:=by rw[hmd,ba]
     refine j6 ?_;refine W (Y6 (l:=p) J O J t_5 t_3 J a2A J a2c K5) ?_;refine qD (c8C ((m.take p++List.replicate (l.length -p) zK).map Ky.cv) J O J t_5 t_9 J (a4h J) J J K5 (by rw[a3j,List.map_replicate];unfold J3;rw[T6 K5,a0z,K0,<- b2n];rfl) J ?_);refine W (Y6 (h:=p) J O J t_5 t_3 J J a2A a2c K5) ?_;refine c6 ?_;exact⟨_,rE1,⟨List.replicate (l.length -p) zK,by rw[eN];rfl,by rw[hmd];rfl,O⟩⟩
   .have hyx:¬x=y:=by
     have h3':¬y=x:=I h3;exact λe=>h3' e.symm
    rw[D hyx]at fN;refine W j9 ?_;exact⟨k+1,X,⟨X,X,by rw[fN,a1H,hy];rfl⟩,tu_,J⟩
  .have iA:k=l.length:=sm_ h2;subst iA;rw[a6K]at hd;refine z_9 ?_;exact⟨_,rE1,⟨[],by rw[hd],by rw[hd];simp,O⟩⟩
theorem c2Q(σ:List b9):b8 CC 129 [(.list (([]:List Ky).map Ky.cv) false none)] σ λr aa=>r= .ret (.list (([]:List Ky).map Ky.cv) false none)/\aa=σ:=by
 refine b8.anyw hCC pu_ pu_ (c7 (qO Tryz.func129 ?_)) σ;refine W a4W ?_;refine cC ?_ ?_<;>intro h1
 .refine qk ?_;exact d8a
 .exfalso;simp at h1
theorem c1o(l:List Ky)(hl:l.length<=1000000){q:Nat}(hq:σ[q]?=some (.vec 3 (l.map Ky.cv))):b8 CC 129 [.vec q 0 l.length] σ λr τ=>∃rest:List Ky,r= .ret (.vec q 0 (ddK l).length)/\τ=σ.set q (.vec 3 ((ddK l++rest).map Ky.cv))/\True:=
 b3q (α:=List Ky) (g:=λ_=>false) (rows':=λrest=>(ddK l++rest).map Ky.cv) (off:=λ_=>0) (len:=λ_=>(ddK l).length) (P:=λ_=>True) hCC (U1 l) (args:=[]) (λa h=>by cases h) (λ_ _=>U1 _)
  ((b8e l hl).mono λr τ ⟨rest,h1,h2,_⟩=>⟨rest,by subst h1 h2;exact⟨[0],J,J,.ret (.vec J),.inr ⟨_,J,.same J (a1h _ _)⟩,O⟩,O⟩) hq
theorem b8G(nn:Bool)(σ:List b9):b8 CC 127 [.list [] nn none,.val (.func (.func 128) #[] #[])] σ λr τ=>r= .ret (.tup [])/\τ=σ:=λM w vs hr hn hx=>by
 have hs:vs.size=2:=hn;obtain⟨v,v2,rfl⟩:∃v v2,vs= #[v,v2]:=⟨vs[0]'X,vs[1]'X,Array.ext (by simp[hs]) λi h1 h2=>by
  have:i=0\/i=1:=by omega
  rcases this with rfl|rfl<;>simp⟩
 have h0:RV M w (.list [] nn none) v:=hx 0 _ J;cases h0 with
 |list vals g1 g2 g3 g4 g5 g6 g7 g8 g9 g10=>
  refine(Go.Proofs.AnyF.slices_SortFunc_none Tryz.sortKey _ _ v2 w).mono λe w' ⟨he,hw⟩=>?_;subst he hw;exact⟨_,_,M,Ext.refl M w',hr,.tup J (λi c h=>by simp at h),J,J⟩
def L4(l:List Ky):List Ky:=ddK (b2i V6 l)
theorem b6Q(σ:List b9):b8 CC 76 [(.list (([]:List Ky).map Ky.cv) false none)] σ λr aa=>r= .ret (.list (([]:List Ky).map Ky.cv) false none)/\aa=σ:=by
 refine b8.anyw hCC pu_ pu_ (c7 (qO Tryz.func76 ?_)) σ;refine W (c4 J Tryz.call126 ⟨O,O⟩ (b3O _) J) ?_;refine W (c4 J Tryz.call127 i7 (b8G false _) J) ?_;refine W (c4 J Tryz.call129 ⟨O,O⟩ (c2Q _) J) ?_;exact d8a
theorem d5W(l:List Ky)(ay:l≠[])(hl:l.length<=1000000):b8 CC 76 [(.list (l.map Ky.cv) true none)] [] λr aa=>∃az c c',aa=[]++az/\r= .ret c/\Cls 0 aa c c'/\c'= .list ((L4 l).map Ky.cv) true none:=by
 have dS:(b2i V6 l).length=l.length:=b4j _;refine qO Tryz.func76 ?_;refine qD (c5 J Tryz.call126 ⟨O,O⟩ (b7p l ay hl _) J ?_);intro _ _;refine qD (c5 J Tryz.call127 i7 (c0x ay hl J) J ?_);intro _ _;refine qD (c5 J Tryz.call129 ⟨O,O⟩ ((by rw[<- dS];exact c1o (b2i V6 l) X J)) J ?_);intro rest _;refine c6 ?_;exact⟨_,rE1,⟨_,_,_,J,J,(.vecs (n_4 _) J H (by simp;rfl) (U1 (L4 l))),J⟩⟩
theorem d9p(l:List Ky)(hl:l.length<=1000000)(σ:List b9):b8 CC 76 [(.list (l.map Ky.cv) (gnn l.length) none)] σ λr τ=>r= .ret (.list ((L4 l).map Ky.cv) (gnn (L4 l).length) none)/\τ=σ:=by
 by_cases h:l=[]
 .subst h;rw[show L4 []=[] by simp[L4,b2i,ddK]];exact b6Q σ
 .rw [b6c h];have hn:L4 l≠[]:=by
   intro e;have hd:∀m:List Ky,m≠[]->ddK m≠[]:=by
    intro m
    induction m with
    |nil=>intro h;exact absurd J h
    |cons a m ih=>
     intro _;cases m with
     |nil=>simp[ddK]
     |cons b m=>
      rw[b43]
      split
      .exact ih H
      .simp
   exact hd (b2i V6 l) (λe2=>h (List.length_eq_zero_iff.1 (by rw[<- b4j (l:=l) (le:=λx y=>!(Go.Proofs.ltOf V6) y x)];exact n_8 List.length e2))) e
  rw[b6c hn];exact b8.anyw (args:=[.list (l.map Ky.cv) true none]) hCC ⟨V1 _ _,O⟩ (V1 _ _) ((a4s (d5W l h hl)).mono λr τ ⟨⟨c,h1,h2⟩,h3⟩=>⟨by rw[h1,h2],h3⟩) σ
def b26(l:List Ky):Prop:=l.Pairwise λx y=>ltK x y=true
theorem a57{a b:List Ky}(ha:b26 a)(hb:b26 b)(h:∀x,x∈a↔x∈b):a=b:=by
 have nd:∀{l:List Ky},b26 l->l.Nodup:=λhl=>hl.imp λ{x y} gg e=>by
  subst e;rw[b06]at gg;cases gg
 refine List.Perm.eq_of_pairwise (le:=λx y=>ltK x y=true) (λx y _ _ h1 h2=>?_) ha hb ((List.perm_ext_iff_of_nodup (nd ha) (nd hb)).2 h);have:=a35 h1 h2;rw[b06]at this;cases this
theorem b34(y k:Ky)(l:List Ky):N3 (y::l) k=if ltK y k=true then y::N3 l k else if y=k then y::l else k::y::l:=by
 unfold N3;rw[show a65 k (y::l)=if ltK y k=true then a65 k l+1 else 0 from J];by_cases h:ltK y k=true
 .simp only[h,if_true,c5J,a88,List.drop_succ_cons]
  split<;>simp
 .simp only[h,if_false,b8x,List.getElem?_cons_zero,Option.some.injEq,List.take_zero,b0Q,a1D]
theorem b3j{k x:Ky}:∀{l:List Ky},x∈N3 l k↔x=k\/x∈l
 | []=>by simp[N3,a65]
 |y::l=>by
  have ih:=b3j (k:=k) (x:=x) (l:=l);rw[b34]
  split
  .rw [J0,ih,J0];constructor
   .rintro (h|h|h)
    .exact .inr (.inl h)
    .exact .inl h
    .exact .inr (.inr h)
   .rintro (h|h|h)
    .exact .inr (.inl h)
    .exact .inl h
    .exact .inr (.inr h)
  .split
   .rename_i h;subst h;rw[J0];constructor
    .exact .inr
    .rintro (h|h)
     .exact .inl h
     .exact h
   .rw [J0]
theorem b82{k:Ky}:∀{l:List Ky},b26 l->b26 (N3 l k)
 | [],_=>by simp[N3,a65,b26]
 |y::l,h=>by
  obtain⟨h1,h2⟩:=a5N.1 h;rw[b34]
  split
  .rename_i hy;refine a5N.2 ⟨λx hx=>?_,b82 h2⟩
   rcases b3j.1 hx with rfl|hx
   .exact hy
   .exact h1 x hx
  .rename_i hy
   split
   .exact h
   .rename_i ay;have hk:ltK k y=true:=by
     cases e:ltK k y
     .exact absurd (a8w (I hy) e) ay
     .rfl
    refine a5N.2 ⟨λx hx=>?_,h⟩
    rcases J0.1 hx with rfl|hx
    .exact hk
    .exact a35 hk (h1 x hx)
theorem H8(l:List Ky):b26 (H0 l)/\∀x,x∈H0 l↔x∈l:=by
 have h:∀(l a:List Ky),b26 a->b26 (l.foldl N3 a)/\∀x,x∈l.foldl N3 a↔x∈a\/x∈l:=by
  intro l
  induction l with
  |nil=>intro a ha;exact⟨ha,λx=>by simp⟩
  |cons y l ih=>
   intro a ha;obtain⟨h1,h2⟩:=ih (N3 a y) (b82 ha);refine⟨h1,λx=>?_⟩;rw[b3p,h2,b3j,J0];constructor
   .rintro ((h|h)|h)
    .exact .inr (.inl h)
    .exact .inl h
    .exact .inr (.inr h)
   .rintro (h|h|h)
    .exact .inl (.inr h)
    .exact .inl (.inl h)
    .exact .inr h
 obtain⟨h1,h2⟩:=h l [] List.Pairwise.nil;exact⟨h1,λx=>by rw[H0,h2];simp⟩
theorem b6e{x:Ky}:∀{l:List Ky},x∈ddK l↔x∈l
 | []=>by simp[ddK]
 | [a]=>by simp[ddK]
 |a::b::l=>by
  have ih:=b6e (x:=x) (l:=b::l);rw[b43]
  split
  .rename_i h;subst h;rw[ih];simp
  .rw [J0,ih];simp
theorem c20:∀{l:List Ky},(l.Pairwise λx y=>ltK y x=false)->b26 (ddK l)
 | [],_=>.nil
 | [a],_=>List.pairwise_singleton _ _
 |a::b::l,h=>by
  obtain⟨h1,h2⟩:=a5N.1 h;have ih:=c20 h2;rw[b43]
  split
  .exact ih
  .rename_i ay;refine a5N.2 ⟨λy hy=>?_,ih⟩;have ip:=b6e.1 hy;cases e:ltK a y
   .have ea:=a8w e (h1 y ip);subst ea
    rcases J0.1 ip with e2|hl
    .exact absurd e2 ay
    .have h3:=(a5N.1 h2).1 a hl;have h4:=h1 b b1P;exact absurd (a8w h3 h4) ay
   .rfl
theorem a17(l:List Ky):L4 l=H0 l:=by
 obtain⟨h1,h2⟩:=H8 l;refine a57 (c20 ?_) h1 λx=>?_
 .have hp:=c5d (le:=λx y=>!(Go.Proofs.ltOf V6) y x) (λa b c h k=>?_) (λa b=>?_) l
  .exact hp.imp λ{x y} h=>by simpa[a5K]using h
  .simp only[c02,a5K]at*;exact(show ltK c a=false from by
    rw[<- a5K]at*;exact d7K.ntrans c b a k h)
  .simp only[a8Z,c02,a5K];cases e:ltK b a
   .exact .inl J
   .right
    cases e2:ltK a b
    .rfl
    .have:=a35 e e2;rw[b06]at this;cases this
 .rw [h2,L4,b6e];exact(b2Q _ _).mem_iff
def a3x:List Ky->List U->List U->List Ky
 |k::l,x::xs,y::ys=>if x=y then a3x l xs ys else k::a3x l xs ys
 |_,_,_=>[]
theorem c2y{xs ys:List U}{x y:U}(hk:l[i]?=some k)(hx:xs[i]?=some x)(hy:ys[i]?=some y):a3x (l.drop i) (xs.drop i) (ys.drop i)=(if decide (x≠y)=true then [k]else [])++a3x (l.drop (i+1)) (xs.drop (i+1)) (ys.drop (i+1)):=by
 obtain⟨h1,rfl⟩:=n_3.1 hk;obtain⟨h2,rfl⟩:=n_3.1 hx;obtain⟨h3,rfl⟩:=n_3.1 hy;rw[R0 h1,R0 h2,R0 h3,a3x];by_cases h:xs[i]=ys[i]
 .rw [F h];simp[h]
 .rw [D h];simp[h]
abbrev aSt(fl:List Fi)(nn:Bool)(ev:List Va)(en:Bool)(fs:List Fi)(ns:Bool)(ew:List Va)(ne:Bool)(L:List Ky)(x y:List U)(aw:List Ky)(p:Nat):List b9:=[.box (o4 fl nn),.box (E7 ev en),.box (o4 fs ns),.box (E7 ew ne),.dead,.dead,.dead,.box [.list (L.map Ky.cv) (gnn L.length) none],.box [.list (x.map scv) (gnn x.length) none],.box [.list (y.map scv) (gnn y.length) none],.box [.list (aw.map Ky.cv) (gnn aw.length) (C3 aw.length p)]]
theorem d9s(fl:List Fi)(nn:Bool)(ev:List Va)(en:Bool)(fs:List Fi)(ns:Bool)(ew:List Va)(ne:Bool){L:List Ky}{x y:List U}(aw:List Ky)(i:Nat)(hk:L[i]?=some k){u v:U}(hx:x[i]?=some u)(hy:y[i]?=some v)(eQ:aw.length<=1000000):b8 CC 81 ([iv i]++[.ptr 8 0,.ptr 9 0,.ptr 10 0,.ptr 7 0]) (aSt fl nn ev en fs ns ew ne L x y aw 11++[o5 aw.length]) λr τ=>∃g:Bool,r= .ret (.tup [])/\τ=(if g=true then aSt fl nn ev en fs ns ew ne L x y (aw++[k]) 12++[.dead,o5 (aw++[k]).length]else aSt fl nn ev en fs ns ew ne L x y aw 11++[o5 aw.length])/\g=decide (u≠v):=by
 refine qO Tryz.func81 ?_;refine cW 9 ?_;refine hY a5L ?_;refine hY A8 ?_;refine d8H ?_;refine hY a5L ?_;refine hY A8 ?_;refine hY b4m ?_;refine hY a5u ?_;refine hY a90 ?_;refine W1 ?_;refine qC ?_ ?_<;>intro h1
 .have ay:decide (u≠v)=true:=I h1;refine cW 6 ?_;refine hY (o6 J O J d1s J J) ?_;refine hY (o6 J O J d1s J J) ?_;refine hY A8 ?_;refine hY (p9 J O O J J t_5 t_3 X (j1 hk) J) ?_;refine hY c4L ?_;refine hY e1Q ?_;refine W1 ?_;refine qD (A4 J O O J H q_5 t_5 t_3 a4r t_9 J (.inr J) K2 a03 B7 ((aw++[k]).map Ky.cv) (aw++[k]).length (by rw[a3j];rfl) H ?_);refine qD (j2 J O O J j3 c9K (.inl J) J J (nb J) ?_);exact⟨_,rE0,⟨true,J,J,ay.symm⟩⟩
 .have ay:decide (u≠v)=false:=I h1;exact⟨_,rE0,⟨false,J,J,ay.symm⟩⟩
theorem d3i:Old 11 (.clo 81 [.ptr 8 0,.ptr 9 0,.ptr 10 0,.ptr 7 0]):=.clo λi c hc=>by
 rcases i with _|_|_|_|i<;>first|(injection hc with hc;subst hc;exact .ptr (nb J))|cases hc
noncomputable def b0u(fl:List Fi)(ev:List Va)(fs:List Fi)(ew:List Va):Option (List Ky):=
 if(F6 fl ev []).isSome=true/\(F6 fs ew []).isSome=true then(F6 fl ev (L4 (KU fl++KU fs++(ev.map B5++ew.map B5)))).bind λx=>(F6 fs ew (L4 (KU fl++KU fs++(ev.map B5++ew.map B5)))).map λy=>a3x (L4 (KU fl++KU fs++(ev.map B5++ew.map B5))) x y else none
def a3z(o:Option (List Ky)):CV:=.tup [.list ((o.getD []).map Ky.cv) (gnn (o.getD []).length) none,iv (if o.isSome then 0 else 1)]
theorem b80{k:List Ky}{l:List U}(h:F6 fl ev k=some l):l.length=k.length:=by rw[c71 h,L7]
theorem c9X{a b:List Ky}(h:∀x,x∈a↔x∈b):L4 a=L4 b:=by
 rw[a17,a17];exact a57 (H8 a).1 (H8 b).1 λx=>by rw[(H8 a).2,(H8 b).2,h]
theorem c8p(l:List Ky):(L4 l).length<=l.length:=by rw[a17];exact a0a l
theorem d4n(fl:List Fi)(nn:Bool)(ev:List Va)(en:Bool)(fs:List Fi)(ns:Bool)(ew:List Va)(ne:Bool)(p1:∀f∈fl,f.p.length<=1000000000)(p2:∀f∈fs,f.p.length<=1000000000)(aG:∀v∈ev,-9223372036854775808<=v.v/\v.v<=9223372036854775807)(aX:∀v∈ew,-9223372036854775808<=v.v/\v.v<=9223372036854775807)(qq:(F6 fl ev []).isSome=true->(F6 fs ew []).isSome=true->a0Y fl/\a0Y fs/\((∀v∈ev,v.n.length<=1000000000)/\ev.length<=10000)/\(∀v∈ew,v.n.length<=1000000000)/\ew.length<=10000):b8 CC 34 [.agg (o4 fl nn),.agg (E7 ev en),.agg (o4 fs ns),.agg (E7 ew ne)] [] λr τ=>∃_:Unit,a1t 0 τ r (.ret (a3z (b0u fl ev fs ew)))/\True:=by
 have hnil:([]:List Ky).length<=1000000000:=n_4 _;have hnk:∀k∈([]:List Ky),k.a.length<=1000000000/\k.b.length<=1000000000:=λk hk=>by simp at hk
 refine cO Tryz.func34 ?_;refine qs 3 ?_;refine z_7 ?_;refine z_7 ?_;refine W (c4 J c4b a21 (a28 fl nn p1 ev en aG [] false hnil hnk _) J) ?_;refine qC ?_ ?_<;>intro h1
 .have bW:¬(F6 fl ev []).isSome=true:=by intro u;simp[u]at h1
  refine c6 ?_;exact⟨_,r3 (rs:=[.tmp 8,.tmp 9]) (cs:=[_,_]) J T8 (n_5 J),(by rw[b0u,D (λu=>bW u.1),D bW];exact⟨(),.ret (.tups ⟨.old a7A,.old (.val _),O⟩),O⟩)⟩
 .have bW:(F6 fl ev []).isSome=true:=by
   cases hq:(F6 fl ev []).isSome with
   |true=>rfl
   |false=>simp[hq]at h1
  refine W (c4 J c4b a21 (a28 fs ns p2 ew ne aX [] false hnil hnk _) J) ?_;refine qC ?_ ?_<;>intro h2
  .have cr:¬(F6 fs ew []).isSome=true:=by intro u;simp[u]at h2
   refine c6 ?_;exact⟨_,r3 (rs:=[.tmp 8,.tmp 9]) (cs:=[_,_]) J T8 (n_5 J),(by rw[b0u,D (λu=>cr u.2),D cr];exact⟨(),.ret (.tups ⟨.old a7A,.old (.val _),O⟩),O⟩)⟩
  .have cr:(F6 fs ew []).isSome=true:=by
    cases hq:(F6 fs ew []).isSome with
    |true=>rfl
    |false=>simp[hq]at h2
   obtain⟨q1,q2,⟨eu,fK⟩,cE,he2⟩:=qq bW cr;have gX:∀l1:List Ky,(∀k,k∈l1↔k∈KU fl++KU fs)->∀k,k∈l1++(ev.map B5++ew.map B5)↔k∈(KU fl++KU fs++(ev.map B5++ew.map B5)):=λl1 h k=>by rw[J5,h,J5 (s:=KU fl++KU fs)]
   refine a6m hCC 4 J (α:=List Ky) (λ_=>[(4,.ptr 0 0),(5,.ptr 1 0),(6,.ptr 2 0),(7,.ptr 3 0),(14,.ptr 7 0)]) (λl=>[.box (o4 fl nn),.box (E7 ev en),.box (o4 fs ns),.box (E7 ew ne),.dead,.dead,.dead,.box [.list ((L4 l).map Ky.cv) (gnn (L4 l).length) none]]) (λl=>l.length<=100000/\∀k,k∈l↔k∈(KU fl++KU fs++(ev.map B5++ew.map B5))) ?_ ?_
   .refine b6J [0,0,3,0,0,31,63,127,0,511] [0,1,3,4] (f:=6) l8 l8 J ?_;refine chf J a2l ?_;refine chf J a2l ?_;refine chf J c3m ?_;refine chf J c3m ?_;refine C8 ?_;refine c6v (i:=2) (i':=8) l8 J J J J (c5 J Tryz.call77 D6 (b4G fl nn q1 fs ns q2 _) J ?_) (p7 J c2d J (.inl J) ?_)
    .intro l1 ⟨bZ,cp⟩;refine⟨⟨λh=>absurd h G,λh=>absurd h G,λ_=>by exact c8 J a2w,λ_=>by exact c8 J a2w,O⟩,?_⟩;refine c6v (i:=5) (i':=8) l8 J J J J (c5 J d0S D6 (a87 ev en X ew ne X _) J ?_) (p7 J c2d J (.inl J) ?_)
     .intro _ _;have gr:(l1++(ev.map B5++ew.map B5)).length<=100000:=by rw[n_6,n_6,L7,L7];omega
      refine⟨⟨λh=>absurd h G,λh=>absurd h G,λh=>absurd h G,λh=>absurd h G,O⟩,?_⟩;refine c6v (i:=6) (i':=8) l8 J J J J (A4 J O O J H q_5 t_5 t_3 a4r t_9 J (.inr J) K2 a03 B7 ((l1++(ev.map B5++ew.map B5)).map Ky.cv) (l1++(ev.map B5++ew.map B5)).length H H ?_) (p7 J c2d J (.inl J) ?_)
      .refine ⟨⟨λh=>absurd h G,λh=>absurd h G,λh=>absurd h G,λh=>absurd h G,O⟩,?_⟩;refine c6v (i:=7) (i':=8) l8 J J J J (d_y d8A ?_) (p7 J c2d J (.inl J) ?_)
       .refine ⟨⟨λh=>absurd h G,λh=>absurd h G,λh=>absurd h G,λh=>absurd h G,O⟩,?_⟩;refine a6N (i:=8) l8 J J (p7 J c2d J (.inl J) ?_);refine⟨⟨λ_=>by exact c8 J T1,λ_=>by exact c8 J T1,λ_=>by exact c8 J a2w,λ_=>by exact c8 J a2w,O⟩,?_⟩;exact e1f
       .refine ⟨⟨λ_=>by exact c8 J T1,λ_=>by exact c8 J T1,λ_=>by exact c8 J a2w,λ_=>by exact c8 J a2w,O⟩,?_⟩;refine e2T ?_;exact e1f
      .refine ⟨⟨λ_=>by exact c8 J T1,λ_=>by exact c8 J T1,λ_=>by exact c8 J a2w,λ_=>by exact c8 J a2w,O⟩,?_⟩;refine a6N (i:=6) l8 J J (A4 J O O J H q_5 t_5 t_3 a4r t_9 J (.inr J) K2 a03 B7 ((l1++(ev.map B5++ew.map B5)).map Ky.cv) (l1++(ev.map B5++ew.map B5)).length H H ?_);refine d9Q ?_;refine d6H ?_;exact⟨by kernel_rfl,(l1++(ev.map B5++ew.map B5)),[0,1,2,3,4,5,7,6],⟨gr,gX l1 bZ⟩,⟨J,J⟩,c21,.inr ⟨_,J,.same J K3⟩,.inr ⟨_,J,.same J a2U⟩,.inr ⟨_,J,.same J K3⟩,.inr ⟨_,J,.same J a2U⟩,.inl J,.inl J,.inl J,.inr ⟨_,J,.same J b5b⟩,O⟩
     .refine ⟨⟨λ_=>by exact c8 J T1,λ_=>by exact c8 J T1,λ_=>by exact c8 J a2w,λ_=>by exact c8 J a2w,O⟩,?_⟩;refine a6N (i:=5) l8 J J (c5 J d0S D6 (a87 ev en X ew ne X _) J ?_);intro _ _;have gr:(l1++(ev.map B5++ew.map B5)).length<=100000:=by rw[n_6,n_6,L7,L7];omega
      refine⟨⟨λh=>absurd h G,λh=>absurd h G,λh=>absurd h G,λh=>absurd h G,O⟩,?_⟩;refine a6N (i:=6) l8 J J (A4 J O O J H q_5 t_5 t_3 a4r t_9 J (.inr J) K2 a03 B7 ((l1++(ev.map B5++ew.map B5)).map Ky.cv) (l1++(ev.map B5++ew.map B5)).length H H ?_);refine d9Q ?_;refine d6H ?_;exact⟨by kernel_rfl,(l1++(ev.map B5++ew.map B5)),[0,1,2,3,4,6,7,5],⟨gr,gX l1 bZ⟩,⟨J,J⟩,c21,.inr ⟨_,J,.same J K3⟩,.inr ⟨_,J,.same J a2U⟩,.inr ⟨_,J,.same J K3⟩,.inr ⟨_,J,.same J a2U⟩,.inl J,.inl J,.inl J,.inr ⟨_,J,.same J b5b⟩,O⟩
    .refine ⟨⟨λ_=>by exact c8 J T1,λ_=>by exact c8 J T1,λ_=>by exact c8 J a2w,λ_=>by exact c8 J a2w,O⟩,?_⟩;refine a6N (i:=2) l8 J J (c5 J Tryz.call77 D6 (b4G fl nn q1 fs ns q2 _) J ?_);intro l1 ⟨bZ,cp⟩;refine⟨⟨λh=>absurd h G,λh=>absurd h G,λ_=>by exact c8 J a2w,λ_=>by exact c8 J a2w,O⟩,?_⟩;refine a6N (i:=5) l8 J J (c5 J d0S D6 (a87 ev en X ew ne X _) J ?_);intro _ _;have gr:(l1++(ev.map B5++ew.map B5)).length<=100000:=by rw[n_6,n_6,L7,L7];omega
     refine⟨⟨λh=>absurd h G,λh=>absurd h G,λh=>absurd h G,λh=>absurd h G,O⟩,?_⟩;refine a6N (i:=6) l8 J J (A4 J O O J H q_5 t_5 t_3 a4r t_9 J (.inr J) K2 a03 B7 ((l1++(ev.map B5++ew.map B5)).map Ky.cv) (l1++(ev.map B5++ew.map B5)).length H H ?_);refine d9Q ?_;refine d6H ?_;exact⟨by kernel_rfl,(l1++(ev.map B5++ew.map B5)),[0,1,2,3,5,6,7,4],⟨gr,gX l1 bZ⟩,⟨J,J⟩,c21,.inr ⟨_,J,.same J K3⟩,.inr ⟨_,J,.same J a2U⟩,.inr ⟨_,J,.same J K3⟩,.inr ⟨_,J,.same J a2U⟩,.inl J,.inl J,.inl J,.inr ⟨_,J,.same J b5b⟩,O⟩
   intro l ⟨gr,gX⟩;have gL:L4 (KU fl++KU fs++(ev.map B5++ew.map B5))=L4 l:=c9X λk=>(gX k).symm;have hLl:(L4 l).length<=100000:=a82 (c8p l) gr;have hLb:(L4 l).length<=1000000000:=by omega
   have hLk:∀k∈L4 l,k.a.length<=1000000000/\k.b.length<=1000000000:=λk hk=>by
    rw[a17,(H8 l).2,gX,J5,J5,J5]at hk
    rcases hk with(hk|hk)|hk|hk
    .exact q1.ky k hk
    .exact q2.ky k hk
    .obtain ⟨v,hv,rfl⟩:=D5.1 hk;exact⟨eu v hv,n_4 _⟩
    .obtain ⟨v,hv,rfl⟩:=D5.1 hk;exact⟨cE v hv,n_4 _⟩
   have hAS:b0u fl ev fs ew=(F6 fl ev (L4 l)).bind λx=>(F6 fs ew (L4 l)).map λy=>a3x (L4 l) x y:=by rw[b0u,F ⟨bW,cr⟩,gL]
   refine qk (W (c4 J c4b D6 (a28 fl nn q1.pl ev en aG (L4 l) (gnn (L4 l).length) hLb hLk _) J) ?_);refine d8R ?_;refine cC ?_ ?_<;>intro h3
   .have hx:F6 fl ev (L4 l)=none:=by
     cases hq:F6 fl ev (L4 l)with
     |none=>rfl
     |some _=>simp[hq]at h3
    refine b4S ?_;exact⟨_,r3 (rs:=[.tmp 8,.tmp 9]) (cs:=[_,_]) J T8 (n_5 J),(by rw[hAS,hx];exact⟨(),.ret (.tups ⟨.old a7A,.old (.val _),O⟩),O⟩)⟩
   .obtain ⟨x,hx⟩:∃x,F6 fl ev (L4 l)=some x:=by
     cases hq:F6 fl ev (L4 l)with
     |none=>simp[hq]at h3
     |some x=>exact⟨x,J⟩
    rw[hx];have hxl:=b80 hx;refine L5 [.box (o4 fl nn),.box (E7 ev en),.box (o4 fs ns),.box (E7 ew ne),.dead,.dead,.dead,.box [.list ((L4 l).map Ky.cv) (gnn (L4 l).length) none],.box [.list (x.map scv) (gnn x.length) none]] J ?_;refine qk (W (c4 J c4b D6 (a28 fs ns q2.pl ew ne aX (L4 l) (gnn (L4 l).length) hLb hLk _) J) ?_);refine d8R ?_;refine cC ?_ ?_<;>intro h4
    .have hy:F6 fs ew (L4 l)=none:=by
      cases hq:F6 fs ew (L4 l)with
      |none=>rfl
      |some _=>simp[hq]at h4
     refine b4S ?_;exact⟨_,r3 (rs:=[.tmp 8,.tmp 9]) (cs:=[_,_]) J T8 (n_5 J),(by rw[hAS,hx,hy];exact⟨(),.ret (.tups ⟨.old a7A,.old (.val _),O⟩),O⟩)⟩
    .obtain ⟨y,hy⟩:∃y,F6 fs ew (L4 l)=some y:=by
      cases hq:F6 fs ew (L4 l)with
      |none=>simp[hq]at h4
      |some y=>exact⟨y,J⟩
     rw[hy];have dY:=b80 hy;refine L5 [.box (o4 fl nn),.box (E7 ev en),.box (o4 fs ns),.box (E7 ew ne),.dead,.dead,.dead,.box [.list ((L4 l).map Ky.cv) (gnn (L4 l).length) none],.box [.list (x.map scv) (gnn x.length) none],.box [.list (y.map scv) (gnn y.length) none]] J ?_;refine qk (qD (p7 J c2d J (.inl J) ?_));refine W (a8Y J a1x) ?_;refine W a4W ?_;refine A2 hCC 11 J (α:=Nat×List Ky) (λa=>[(18,.ptr 10 0),(19,(.clo 81 [.ptr 8 0,.ptr 9 0,.ptr 10 0,.ptr 7 0])),(69,(iv ((L4 l).length:Int))),(70,iv a.1)]) (λa=>aSt fl nn ev en fs ns ew ne (L4 l) x y a.2 11++[o5 a.2.length]) (λa=>a.1<=(L4 l).length/\a3x (L4 l) x y=a.2++a3x ((L4 l).drop a.1) (x.drop a.1) (y.drop a.1)/\a.2.length<=a.1) (λa=>(L4 l).length -a.1) ⟨(0,[]),[0,1,2,3,4,5,6,7,8,9,10,99],⟨n_4 _,J,n_7 _⟩,⟨J,J⟩,ut_,uq_⟩ ?_;intro⟨i,aw⟩ ⟨hi,hr,eQ⟩;dsimp only at hi hr eQ⊢;refine qk (qC ?_ ?_)<;> intro h5
     .have ab:i< (L4 l).length:=sm_ h5;obtain⟨k,hk⟩:∃k,(L4 l)[i]?=some k:=⟨(L4 l)[i]'ab,H⟩;obtain⟨u,hu⟩:=gx_ x i;obtain⟨v,hv⟩:=gx_ y i;rw[c2y hk hu hv]at hr;refine qD (U7 J O J Tryz.call81 ⟨O,O⟩ (d9s fl nn ev en fs ns ew ne aw i hk hu hv X) J ?_);intro g hg;rw[<- hg]at hr;cases g
      .refine qN (aSt fl nn ev en fs ns ew ne (L4 l) x y aw 11++[o5 aw.length]) J (W j9 ?_);exact⟨(i+1,aw),[0,1,2,3,4,5,6,7,8,9,10,11],⟨Q,Q,by dsimp only;exact hr,Q⟩,⟨J,J⟩,ut_,⟨.inr ⟨_,J,.same J K3⟩,.inr ⟨_,J,.same J a2U⟩,.inr ⟨_,J,.same J K3⟩,.inr ⟨_,J,.same J a2U⟩,.inl J,.inl J,.inl J,.inr ⟨_,J,.same J b5b⟩,.inr ⟨_,J,.same J (z6 ⟨A6 _ _ _,O⟩)⟩,.inr ⟨_,J,.same J (z6 ⟨A6 _ _ _,O⟩)⟩,.inr ⟨_,J,.box ⟨C6.grow (f:=Ky.cv) (λ_=>⟨.val _,.val _,.val _,O⟩) J,O⟩⟩,.inr ⟨_,J,.same J D8⟩,O⟩⟩
      .refine qN (aSt fl nn ev en fs ns ew ne (L4 l) x y (aw++[k]) 12++[.dead,o5 (aw++[k]).length]) J (W j9 ?_);exact⟨(i+1,aw++[k]),[0,1,2,3,4,5,6,7,8,9,10,12],⟨Q,Q,by dsimp only;rw[hr,C7];rfl,by dsimp only;rw[n_6,b6x];omega⟩,⟨J,J⟩,ut_,⟨.inr ⟨_,J,.same J K3⟩,.inr ⟨_,J,.same J a2U⟩,.inr ⟨_,J,.same J K3⟩,.inr ⟨_,J,.same J a2U⟩,.inl J,.inl J,.inl J,.inr ⟨_,J,.same J b5b⟩,.inr ⟨_,J,.same J (z6 ⟨A6 _ _ _,O⟩)⟩,.inr ⟨_,J,.same J (z6 ⟨A6 _ _ _,O⟩)⟩,.inr ⟨_,J,.box ⟨C6.grow (f:=Ky.cv) (λ_=>⟨.val _,.val _,.val _,O⟩) J,O⟩⟩,.inr ⟨_,J,.same J D8⟩,O⟩⟩
     .have cQ:i=(L4 l).length:=sm_ h5;rw[cQ,a9T]at hr;replace hr:a3x (L4 l) x y=aw:=by rw[hr];simp[a3x]
      refine z_9 ?_;exact⟨_,r3 (rs:=[.tmp 8,.tmp 9]) (cs:=[_,_]) J T8 (n_5 J),(by rw[hAS,hx,n_9,hy,b83,hr];exact⟨(),.ret (.tups ⟨.tok (λr hr c hc=>(C0 (f:=Ky.cv) (λb=>O0.all (a5P b)) _) r hr c hc),.old (.val _),O⟩),O⟩)⟩
theorem a1e(o:Option (List Ky)):r5 (a3z o):=D7 (cs:=[_,_]) ⟨V1 _ _,.val _,O⟩
theorem c5t(fl:List Fi)(nn:Bool)(ev:List Va)(en:Bool)(fs:List Fi)(ns:Bool)(ew:List Va)(ne:Bool)(p1:∀f∈fl,f.p.length<=1000000000)(p2:∀f∈fs,f.p.length<=1000000000)(aG:∀v∈ev,-9223372036854775808<=v.v/\v.v<=9223372036854775807)(aX:∀v∈ew,-9223372036854775808<=v.v/\v.v<=9223372036854775807)(qq:(F6 fl ev []).isSome=true->(F6 fs ew []).isSome=true->a0Y fl/\a0Y fs/\((∀v∈ev,v.n.length<=1000000000)/\ev.length<=10000)/\(∀v∈ew,v.n.length<=1000000000)/\ew.length<=10000)(σ:List b9):b8 CC 34 [.agg (o4 fl nn),.agg (E7 ev en),.agg (o4 fs ns),.agg (E7 ew ne)] σ λr τ=>r= .ret (a3z (b0u fl ev fs ew))/\τ=σ:=
 (F5 (res:=λ_:Unit=>.ret (a3z (b0u fl ev fs ew))) (P:=λ_=>True) hCC (λa h=>by simp at h;rcases h with rfl|rfl|rfl|rfl;exact I3 _ _;exact P6 _ _;exact I3 _ _;exact P6 _ _) (d4n fl nn ev en fs ns ew ne p1 p2 aG aX qq) (λ_ _=>a1e _) σ).mono λr τ ⟨_,h1,h2,_⟩=>⟨h1,h2⟩
noncomputable def chS(fl fs:List Fi):Option (List Ky):=b0u fl [] fs []
def pkF(l:List Ky):List U:=(l.filter λk=>k.k == 6).map Ky.a
theorem b9a(h:l[i]?=some y):pkF (l.drop i)=(if(y.k == 6)=true then [y.a]else [])++pkF (l.drop (i+1)):=by
 obtain⟨h1,rfl⟩:=n_3.1 h;rw[R0 h1];unfold pkF;rw[a7o]
 split<;>rfl
def pkR(o:Option (List Ky)):CV:=.tup [.list ((pkF (o.getD [])).map scv) (gnn (pkF (o.getD [])).length) none,iv (if o.isSome then 0 else 1)]
theorem e1m:∀v∈([]:List Va),v.n.length<=1000000000:=λv h=>by simp at h
theorem e1v:∀v∈([]:List Va),-9223372036854775808<=v.v/\v.v<=9223372036854775807:=λv h=>by simp at h
theorem d4Z(fl:List Fi)(nn:Bool)(fs:List Fi)(ns:Bool)(p1:∀f∈fl,f.p.length<=1000000000)(p2:∀f∈fs,f.p.length<=1000000000)(qq:(F6 fl [] []).isSome=true->(F6 fs [] []).isSome=true->a0Y fl/\a0Y fs)(σ:List b9):b8 CC 34 [.agg (o4 fl nn),.agg (E7 [] false),.agg (o4 fs ns),.agg (E7 [] false)] σ λr τ=>r= .ret (a3z (chS fl fs))/\τ=σ:=c5t fl nn [] false fs ns [] false p1 p2 e1v e1v (λa b=>⟨(qq a b).1,(qq a b).2,⟨e1m,n_4 _⟩,e1m,n_4 _⟩) σ
theorem a3d(fl:List Fi)(nn:Bool)(fs:List Fi)(ns:Bool)(p1:∀f∈fl,f.p.length<=1000000000)(p2:∀f∈fs,f.p.length<=1000000000)(qq:(F6 fl [] []).isSome=true->(F6 fs [] []).isSome=true->a0Y fl/\a0Y fs)(σ:List b9):b8 CC 38 [(.agg (o4 fl nn)),(.agg (o4 fs ns))] σ λr aa=>r= .ret (a3z (chS fl fs))/\aa=σ:=by
 refine b8.anyw (args:=[_,_]) hCC ⟨I3 _ _,I3 _ _,O⟩ (a1e _) ?_ σ;refine c7 (qO Tryz.func38 ?_);refine z_7 ?_;refine W d6M ?_;refine W d6M ?_;refine W (c4 J c8X a1x (d4Z fl nn fs ns p1 p2 qq _) J) ?_;exact d8P
theorem b67(fl:List Fi)(nn:Bool)(fs:List Fi)(ns:Bool)(p1:∀f∈fl,f.p.length<=1000000000)(p2:∀f∈fs,f.p.length<=1000000000)(qq:(F6 fl [] []).isSome=true->(F6 fs [] []).isSome=true->a0Y fl/\a0Y fs)(bO:∀l,chS fl fs=some l->l.length<=1000000):b8 CC 45 [.agg (o4 fl nn),.agg (o4 fs ns)] [] λr τ=>∃_:Unit,a1t 0 τ r (.ret (pkR (chS fl fs)))/\True:=by
 refine qO Tryz.func45 ?_;refine z_7 ?_;refine W (c4 J c3a i7 (a3d fl nn fs ns p1 p2 qq _) J) ?_;refine cC ?_ ?_<;>intro h1
 .have hc:chS fl fs=none:=by
   cases hq:chS fl fs with
   |none=>rfl
   |some _=>simp[hq]at h1
  refine qk ?_;exact d8s
 .obtain ⟨l,hc⟩:∃l,chS fl fs=some l:=by
   cases hq:chS fl fs with
   |none=>simp[hq]at h1
   |some l=>exact⟨l,J⟩
  have gr:=bO l hc;rw[hc];refine qk (W a4W ?_);refine A2 hCC 2 J (α:=Nat×List U) (λa=>[(8,(.list (a.2.map scv) (gnn a.2.length) (C3 a.2.length 2))),(20,(.list (l.map Ky.cv) (gnn l.length) none)),(21,iv l.length),(22,iv a.1)]) (λa=>[.box (o4 fl nn),.box (o4 fs ns),o5 a.2.length]) (λa=>a.1<=l.length/\pkF l=a.2++pkF (l.drop a.1)/\a.2.length<=a.1) (λa=>l.length -a.1) ⟨(0,[]),[0,1,99],⟨n_4 _,J,n_7 _⟩,⟨J,J⟩,ut_,uq_⟩ ?_;intro⟨i,aw⟩ ⟨hi,hr,eQ⟩;dsimp only at hi hr eQ⊢;refine qk (qC ?_ ?_)<;> intro h2
  .have ab:i<l.length:=sm_ h2;obtain⟨y,hb⟩:∃y,l[i]?=some y:=⟨l[i]'ab,H⟩;rw[b9a hb]at hr;refine W c5n ?_;refine d3u ?_;refine qC ?_ ?_<;>intro h3
   .rw [F (I h3)]at hr;refine W e2x ?_;refine qD (A4 J O O J H q_5 t_2 t_0 a3p t_4 J (.inr J) K2 Z6 B7 ((aw++[y.a]).map scv) (aw++[y.a]).length (by rw[a3j];rfl) H ?_);refine W j9 ?_;exact⟨(i+1,aw++[y.a]),[0,1,4],⟨Q,Q,by dsimp only;rw[hr,C7],by dsimp only;rw[n_6,b6x];omega⟩,⟨J,J⟩,ut_,uq_⟩
   .rw [D (I h3),a1D]at hr;refine W j9 ?_;exact⟨(i+1,aw),[0,1,2],⟨Q,Q,hr,Q⟩,⟨J,J⟩,ut_,uq_⟩
  .have cQ:i=l.length:=sm_ h2;rw[cQ,a9T]at hr;replace hr:pkF l=aw:=by rw[hr];simp[pkF]
   exact d7Z
theorem b8B(o:Option (List Ky)):r5 (pkR o):=D7 (cs:=[_,_]) ⟨F3 _ _,.val _,O⟩
theorem a8X(fl:List Fi)(nn:Bool)(fs:List Fi)(ns:Bool)(p1:∀f∈fl,f.p.length<=1000000000)(p2:∀f∈fs,f.p.length<=1000000000)(qq:(F6 fl [] []).isSome=true->(F6 fs [] []).isSome=true->a0Y fl/\a0Y fs)(bO:∀l,chS fl fs=some l->l.length<=1000000)(σ:List b9):b8 CC 45 [.agg (o4 fl nn),.agg (o4 fs ns)] σ λr τ=>r= .ret (pkR (chS fl fs))/\τ=σ:=
 (F5 (res:=λ_:Unit=>.ret (pkR (chS fl fs))) (P:=λ_=>True) hCC (λa h=>by simp at h;rcases h with rfl|rfl;exact I3 _ _;exact I3 _ _) (b67 fl nn fs ns p1 p2 qq bO) (λ_ _=>b8B _) σ).mono λr τ ⟨_,h1,h2,_⟩=>⟨h1,h2⟩
theorem a8l(fl:List Fi)(nn:Bool)(fs:List Fi)(ns:Bool)(q1:a0Y fl)(q2:a0Y fs)(σ:List b9):b8 CC 38 [(.agg (o4 fl nn)),(.agg (o4 fs ns))] σ λr aa=>r= .ret (a3z (chS fl fs))/\aa=σ:=
 a3d fl nn fs ns q1.pl q2.pl (λ_ _=>⟨q1,q2⟩) σ
theorem c0X(fl:List Fi)(nn:Bool)(fs:List Fi)(ns:Bool)(q1:a0Y fl)(q2:a0Y fs)(bO:∀l,chS fl fs=some l->l.length<=1000000)(σ:List b9):b8 CC 45 [.agg (o4 fl nn),.agg (o4 fs ns)] σ λr τ=>r= .ret (pkR (chS fl fs))/\τ=σ:=
 a8X fl nn fs ns q1.pl q2.pl (λ_ _=>⟨q1,q2⟩) bO σ
noncomputable def unR(fl fs:List Fi):List Ky:=H0 (H0 (U3 fl (r8 fl))++H0 (U3 fs (r8 fs)))
noncomputable def chN(fl fs:List Fi)(k:Ky):Bool:=decide (inR fl (r8 fl) [] k≠inR fs (r8 fs) [] k)
noncomputable def chR(fl fs:List Fi):Option (List Ky):=if x8 fl=0/\x8 fs=0 then some ((unR fl fs).filter (chN fl fs))else none
theorem b4F{l:List α}{y:α}(p:α->Bool)(h:l[i]?=some y):(l.take (i+1)).filter p=(l.take i).filter p++if p y=true then [y]else []:=by
 rw[a1H,h,List.filter_append];show _++[y].filter p=_;rw[a7o];split<;>rfl
structure W6(fl:List Fi):Prop where
 hU:(U3 fl (r8 fl)).length<=100000
 hL:(r8 fl).length<=1000000
 ka:∀k∈U3 fl (r8 fl),k.a.length<=1000
theorem d7W(h1:W6 fl)(h2:W6 fs):(unR fl fs).length<=200000/\∀k∈unR fl fs,k.a.length<=1000:=by
 have m:=H8;have l1:=a0a (U3 fl (r8 fl));have l2:=a0a (U3 fs (r8 fs));have l3:=a0a (H0 (U3 fl (r8 fl))++H0 (U3 fs (r8 fs)));have b1:=h1.hU;have b2:=h2.hU;rw[n_6]at l3;refine⟨by unfold unR;omega,λk hk=>?_⟩;unfold unR at hk;rw[(m _).2,J5,(m _).2,(m _).2]at hk;exact hk.elim (h1.ka k) (h2.ka k)
theorem e1T:∀(s:U) (v:Int),P3 [] s=some v->-9007199254740992<=v/\v<=9007199254740992:=λs v h=>by cases h
def chV(l:List Ky)(e:Int)(q:Nat):CV:=.tup [.list (l.map Ky.cv) (gnn l.length) (C3 l.length q),iv e]
noncomputable def d6q(o:Option (List Ky))(q:Nat):CV:=chV (o.getD []) (if o.isSome then 0 else 1) q
theorem b6V(fl:List Fi)(nn:Bool)(fs:List Fi)(ns:Bool)(q1:x8 fl=0->W6 fl)(q2:x8 fs=0->W6 fs):b8 CC 41 [.agg (o4 fl nn),.agg (o4 fs ns)] [] λr τ=>D2 0 τ r (.ret (d6q (chR fl fs) 0)) [o5 ((chR fl fs).getD []).length]:=by
 refine cO Tryz.func41 ?_;refine b58 ?_;refine cD (I0 J O j3 j5 ?_);refine cY a5X ?_;refine cY a5X ?_;refine a7D ?_;refine cY T1 ?_;refine yc J c4W ⟨O,O⟩ (a4B fl nn _) ?_;refine cY a0d ?_;refine cY A8 ?_;refine cG (λhg=>O4 J O J c03 a9H J (nb J)) ?_;refine cG (λhg=>c4 J c4W ⟨hg,O⟩ (a4B fs ns _) J) ?_;refine cG a6P ?_;refine cY S6 ?_;refine w9 ?_;refine cC ?_ ?_<;>intro h1
 .have hc:chR fl fs=none:=D λh=>by simp[h.1,h.2]at h1
  refine z_0 ?_;refine cY a5X ?_;refine b2H ?_;refine c6 ?_;exact⟨_,r3 (rs:=[.tmp 4,.tmp 5]) (cs:=[_,_]) J ⟨⟨O,J⟩,⟨O,J⟩,O⟩ (n_5 J),(by rw[hc];exact⟨[99],J,J,.ret (.tups ⟨.old a7A,.old (.val _),O⟩),.inl J,O⟩)⟩
 .have hv:x8 fl=0/\x8 fs=0:=by
   simp at h1;exact h1
  have hc:chR fl fs=some ((unR fl fs).filter (chN fl fs)):=F hv;obtain⟨hul,hua⟩:=d7W (q1 hv.1) (q2 hv.2);have b1:=(q1 hv.1).hU;have b2:=(q2 hv.2).hU;have b3:=(q1 hv.1).hL;have b4:=(q2 hv.2).hL;have b5:=a0a (U3 fl (r8 fl));have b6:=a0a (U3 fs (r8 fs));refine C2 ?_;refine a6m hCC 2 J (α:=Unit) (λ_=>[(2,.ptr 0 0),(3,.ptr 1 0),(6,.ptr 2 0),(7,.ptr 3 0)]) (λ_=>[.box (o4 fl nn),.box (o4 fs ns),.box (V4 ((r8 fl).map Prod.fst) ((r8 fl).map Prod.snd)),.box (V4 ((r8 fs).map Prod.fst) ((r8 fs).map Prod.snd))]) (λ_=>True) ?_ λ_ _=>?_
  .refine b6J [0,1,0,7,0,0,63,127] [0,1,2,3] (f:=4) l8 l8 J ?_;refine chf J a2l ?_;refine chf J (c8 J c3r) ?_;refine chf J a2l ?_;refine chf J (c8 J c3X) ?_;refine C8 ?_;refine c6v (i:=4) (i':=5) l8 J J J J (p7 J c7q J j5 ?_) (p7 J c7q J j5 ?_)
   .refine ⟨⟨λ_=>by exact c8 J T1,λ_=>by exact c8 J c3r,λ_=>by exact c8 J T1,λ_=>by exact c8 J c3X,O⟩,?_⟩;refine a6N (i:=5) l8 J J (p7 J c7q J j5 ?_);refine e1F ?_;refine d8B ?_;exact⟨by kernel_rfl,(),[0,1,2,3],O,⟨J,J⟩,⟨a4Q,a4Q,a4Q,a4Q,O⟩,.inr ⟨_,J,.same J K3⟩,.inr ⟨_,J,.same J K3⟩,.inr ⟨_,J,.same J a8P⟩,.inr ⟨_,J,.same J a8P⟩,O⟩
   .refine ⟨⟨λ_=>by exact c8 J T1,λ_=>by exact c8 J c3r,λ_=>by exact c8 J T1,λ_=>by exact c8 J c3X,O⟩,?_⟩;refine a6N (i:=4) l8 J J (p7 J c7q J j5 ?_);refine e1F ?_;refine d8B ?_;exact⟨by kernel_rfl,(),[0,1,3,2],O,⟨J,J⟩,⟨a4Q,a4Q,a4Q,a4Q,O⟩,.inr ⟨_,J,.same J K3⟩,.inr ⟨_,J,.same J K3⟩,.inr ⟨_,J,.same J a8P⟩,.inr ⟨_,J,.same J a8P⟩,O⟩
  refine z_0 ?_;refine cY a5X ?_;refine a85 ?_;refine G4 ?_;refine cF [] [0,1,3,4,9] (tl:=[(2,[2,3,4]),(5,[4]),(6,[4]),(7,[4]),(8,[4])]) ?_;refine chf J a2l ?_;refine chf J (c8 J b4A) ?_;refine chf J a2l ?_;refine chf J (c8 J b4A) ?_;refine chf J (c8 J c4H) ?_;refine C8 ?_;refine B0 J J J (c5 J Tryz.call88 i7 (a8f fl nn (r8 fl) X b3 _) J ?_);intro _ _;refine⟨⟨a05,(by exact c8 J b4A),b0g,O⟩,?_⟩;refine B0 J J J (c5 J Tryz.call88 i7 (a8f fs ns (r8 fs) X b4 _) J ?_);intro _ _;refine⟨⟨b0g,O⟩,?_⟩;refine B0 J J J (A4 J O O J H q_5 t_5 t_3 a4r t_9 J (.inr J) K2 a03 B7 (((H0 (U3 fl (r8 fl)))++(H0 (U3 fs (r8 fs)))).map Ky.cv) ((H0 (U3 fl (r8 fl)))++(H0 (U3 fs (r8 fs)))).length (by rw[a3j]) H ?_);refine⟨⟨b0g,O⟩,?_⟩;refine E9 J J (c8 J (c4 J Tryz.call39 ⟨O,O⟩ (c3H ((H0 (U3 fl (r8 fl)))++(H0 (U3 fs (r8 fs)))) _ (by rw[n_6];omega) _) J)) ⟨⟨b0g,O⟩,?_⟩;refine E9 J J (c8 J a4W) ⟨⟨b0g,O⟩,?_⟩;refine a8r (a1A ?_);refine A2 hCC 7 J (α:=Nat×List Ky) (λa=>[(2,.ptr 0 0),(3,.ptr 1 0),(6,.ptr 2 0),(7,.ptr 3 0),(8,(.list (a.2.map Ky.cv) (gnn a.2.length) (C3 a.2.length 7))),(30,(.list ((unR fl fs).map Ky.cv) (gnn (unR fl fs).length) none)),(31,(iv ((unR fl fs).length:Int))),(32,iv a.1)]) (λa=>[.box (o4 fl nn),.box (o4 fs ns),.box (V4 ((r8 fl).map Prod.fst) ((r8 fl).map Prod.snd)),.box (V4 ((r8 fs).map Prod.fst) ((r8 fs).map Prod.snd)),.dead,.dead,.dead,o5 a.2.length]) (λa=>a.1<=(unR fl fs).length/\a.2=((unR fl fs).take a.1).filter (chN fl fs)) (λa=>(unR fl fs).length -a.1) ⟨(0,[]),[0,1,2,3,4,5,6,99],⟨n_4 _,J⟩,⟨J,J⟩,ut_,uq_⟩ ?_;intro⟨i,aw⟩ ⟨hi,ho⟩;dsimp only at hi ho⊢;have eQ:aw.length<=i:=by rw[ho];exact a82 (a9M _ _) a3J
  refine b13 ?_;refine cC ?_ ?_<;>intro h2
  .have ab:i< (unR fl fs).length:=sm_ h2;obtain⟨k,hb⟩:∃k,(unR fl fs)[i]?=some k:=⟨(unR fl fs)[i]'ab,H⟩;have hka:=hua k (n_2 hb);have aE:=b4F (chN fl fs) hb;rw[<- ho]at aE;refine a8C ?_;refine z_0 ?_;refine cY c5n ?_;refine cY c4L ?_;refine cD (p7 J t_9 J j5 ?_);refine cD (j2 J O O J j3 t_3 j5 J J (nb J) ?_);refine a85 ?_;refine cW 11 ?_;refine hY T1 ?_;refine hY b4A ?_;refine hY d6M ?_;refine hY c93 ?_;refine hY (c4 J Tryz.call54 a1x (c1a fl nn (r8 fl) [] false k (d0T hv.1) (n_4 _) (e1T _) hka _) J) ?_;refine hY T1 ?_;refine hY b4A ?_;refine hY d6M ?_;refine hY c93 ?_;refine hY (c4 J Tryz.call54 a1x (c1a fs ns (r8 fs) [] false k (d0T hv.2) (n_4 _) (e1T _) hka _) J) ?_;refine hY a90 ?_;refine a7k (w9 ?_);refine cC ?_ ?_<;>intro h3
   .have u3:chN fl fs k=true:=by simpa[chN]using h3
    rw[F u3]at aE;refine a42 ?_;refine cY c93 ?_;refine cY e1Q ?_;refine cD (A4 J O O J H q_5 t_5 t_3 a4r t_9 J (.inr J) K2 a03 B7 ((aw++[k]).map Ky.cv) (aw++[k]).length (by rw[a3j];rfl) H ?_);refine z_5 ?_;refine a8Q ?_;exact⟨(i+1,aw++[k]),[0,1,2,3,4,5,6,9],⟨Q,Q,aE.symm⟩,⟨J,J⟩,ut_,uq_⟩
   .have u3:¬chN fl fs k=true:=by simpa[chN]using h3
    rw[D u3,a0z]at aE;refine C2 ?_;refine a8Q ?_;exact⟨(i+1,aw),[0,1,2,3,4,5,6,7],⟨Q,Q,aE.symm⟩,⟨J,J⟩,ut_,uq_⟩
  .have cQ:(unR fl fs).length<=i:=sm_ h2;rw[R3 cQ]at ho;subst ho;rw[hc];refine j6 ?_;refine z_4 ?_;refine cY a4R ?_;refine b2H ?_;refine c6 ?_;exact⟨_,r3 (rs:=[.tmp 4,.tmp 5]) (cs:=[_,_]) J ⟨⟨O,J⟩,⟨O,J⟩,O⟩ (n_5 J),⟨[7],J,J,.ret (.tups ⟨(C6.grow (f:=Ky.cv) (λ_=>⟨.val _,.val _,.val _,O⟩) J),.old (.val _),O⟩),.inr ⟨_,J,.same J D8⟩,O⟩⟩
theorem a9W(fl:List Fi)(nn:Bool)(fs:List Fi)(ns:Bool)(q1:x8 fl=0->W6 fl)(q2:x8 fs=0->W6 fs)(σ:List b9):b8 CC 41 [.agg (o4 fl nn),.agg (o4 fs ns)] σ λr τ=>∃_:Unit,r= .ret (d6q (chR fl fs) σ.length)/\τ=σ++[o5 ((chR fl fs).getD []).length]/\True:=
 W8 (α:=Unit) (res:=λ_=>.ret (d6q (chR fl fs) 0)) (res':=λ_ n=>.ret (d6q (chR fl fs) n)) (S:=λ_=>[o5 ((chR fl fs).getD []).length]) (S':=λ_ _=>[o5 ((chR fl fs).getD []).length]) (P:=λ_=>True) hCC (λa h=>by simp at h;rcases h with rfl|rfl;exact I3 _ _;exact I3 _ _) (G5 hCC ((b6V fl nn fs ns q1 q2).mono λr τ hh=>⟨_,_,hh,(),J,J,O⟩)) (λ_ _=>J) (λ_ n i x hx=>by
  rcases i with _|i
  .injection hx with hx;subst hx;exact⟨_,J,a0e _⟩
  .cases hx) (λ_ n=>.ret (.tup J λi c c' h1 h2=>by
  rcases i with _|_|i
  .injection h1 with h1;injection h2 with h2;subst h1 h2;exact c5P (λr hr c hc=>(C0 (f:=Ky.cv) (λ_=>O0.all ⟨.val _,.val _,.val _,O⟩) _) r hr c hc) H
  .injection h1 with h1;injection h2 with h2;subst h1 h2;exact .pure (.val _)
  .cases h1)) σ
def neV(ea eb:List Va)(v:Va):Bool:=decide (P3 ea v.n≠P3 eb v.n)
def enR(ea eb:List Va):List Ky:=H0 (((ea++eb).filter (neV ea eb)).map B5)
def enO(ea eb:List Va):Option (List Ky):=if J9 ea=true/\J9 eb=true then some (enR ea eb)else none
theorem c8L{k:Nat}(hk:n<=k)(hs:σ[k]?=some (a2d l)):Cls n σ (a1b l k) (.list (l.map Ky.cv) (gnn l.length) none):=by
 by_cases h:l=[]
 .subst h;exact .old a7A
 .rw [a2P h]at hs;rw[a3b h,b6c h];exact b2B hk hs (U1 l)
theorem a8h(ea:List Va)(na:Bool)(eb:List Va)(cA:Bool):b8 CC 43 [.agg (E7 ea na),.agg (E7 eb cA)] [] λr τ=>∃_:Unit,a1t 0 τ r (.ret (a3z (enO ea eb)))/\True:=by
 refine qO Tryz.func43 ?_;refine z_7 ?_;refine W (c4 J Tryz.call53 ⟨O,O⟩ (a0S ea na _) J) ?_;refine qG d3N ?_;refine qG (λhg=>c4 J Tryz.call53 ⟨hg,O⟩ (a0S eb cA _) J) ?_;refine a9R ?_;refine qC ?_ ?_<;>intro h1
 .have hc:enO ea eb=none:=D λh=>by simp[h.1,h.2]at h1
  refine c6 ?_;exact⟨_,r3 (rs:=[.tmp 4,.tmp 5]) (cs:=[_,_]) J ⟨⟨O,J⟩,⟨O,J⟩,O⟩ (n_5 J),d7o⟩
 .have hv:J9 ea=true/\J9 eb=true:=by
   simp at h1;exact h1
  have hc:enO ea eb=some (enR ea eb):=F hv;have bf:ea.length<=16:=by have h:=hv.1;unfold J9 at h;simp at h;exact h.1
  have cg:eb.length<=16:=by have h:=hv.2;unfold J9 at h;simp at h;exact h.1
  refine cF [] [0,1,3,4,7] (tl:=[(2,[2,3,4]),(5,[4]),(6,[4])]) ?_;refine chf J c4z ?_;refine chf J d2c ?_;refine chf J c4z ?_;refine chf J d2c ?_;refine chf J (c8 J c4H) ?_;refine C8 ?_;refine B0 J J J (d4I J J O J q_5 c0u b7n d2H c75 J d1A B7 ea.length H ?_);refine⟨⟨c5y,c3U,b0g,O⟩,?_⟩;refine B0 J J J (A4 J O O J H q_5 c0u b7n d2H c75 J (.inr J) K2 d1A B7 ((ea++eb).map Va.cv) (ea++eb).length (by rw[a3j]) H ?_);refine⟨⟨b0g,O⟩,?_⟩;refine E9 J J (c8 J b9E) ⟨⟨b0g,O⟩,?_⟩;refine a8r ?_;refine A2 hCC 4 J (α:=List Ky×Nat) (λa=>[(2,.ptr 0 0),(3,.ptr 1 0),(6,a1b (H0 a.1) 4),(26,(.list ((ea++eb).map Va.cv) (gnn (ea++eb).length) none)),(27,(iv ((ea++eb).length:Int))),(28,iv a.2)]) (λa=>[.box (E7 ea na),.box (E7 eb cA),.dead,.dead,a2d (H0 a.1)]) (λa=>a.1=(((ea++eb).take a.2).filter (neV ea eb)).map B5/\a.2<=(ea++eb).length) (λa=>(ea++eb).length -a.2) ⟨([],0),[0,1,2,3,99],⟨J,n_4 _⟩,⟨J,J⟩,⟨a43,a43,a43,a43,a43,a43,O⟩,uq_⟩ ?_;intro⟨pre,i⟩ ⟨ho,hi⟩;dsimp only at ho hi⊢;have dV:(ea++eb).length<=32:=by rw[n_6];omega
  have gD:pre.length<=32:=by rw[ho,L7];exact a82 (a9M _ _) a3J
  refine qk ?_;refine cC ?_ ?_<;>intro h2
  .have ab:i< (ea++eb).length:=by simp at h2⊢;omega
   obtain⟨v,hb⟩:∃v,(ea++eb)[i]?=some v:=⟨(ea++eb)[i]'ab,H⟩;have hfs:=b4F (neV ea eb) hb;obtain⟨l',bg⟩:∃l',N3 (H0 pre) (B5 v)=l':=⟨_,J⟩;have aE:H0 (pre++[B5 v])=l':=by rw[a3F];exact bg
   refine qk ?_;refine b4r ?_;refine W (c4 J c8T i7 (a2z ea na v.n X _) J) ?_;refine W (c4 J c8T i7 (a2z eb cA v.n X _) J) ?_;refine W (d3H J Tryz.runUnderlying4 trivial trivial J J J) ?_;refine a1y ?_;refine a93 ?_;refine qC ?_ ?_<;>intro h3
   .have u3:neV ea eb v=true:=by
     unfold neV;revert h3;cases P3 ea v.n<;>cases P3 eb v.n<;>simp
    rw[F u3]at hfs;refine W b3V ?_;refine qD (c5 J b9v i7 (Y2 (H0 pre) (B5 v) b4B bg _ 4 J) J ?_);intro _ _;refine W j9 ?_;exact⟨(pre++[B5 v],i+1),[0,1,2,3,6],⟨Q,by dsimp only;rw[hfs,ho,a3j];rfl,Q⟩,⟨J,J⟩,⟨a43,a43,a43,a43,a43,a43,O⟩,⟨.inr ⟨_,J,.same J a2U⟩,.inr ⟨_,J,.same J a2U⟩,.inl J,.inl J,.inr ⟨_,J,.same (by rw[aE]) (a1w _ _)⟩,O⟩⟩
   .have u3:¬neV ea eb v=true:=by
     unfold neV;revert h3;cases P3 ea v.n<;>cases P3 eb v.n<;>simp
    rw[D u3,a0z]at hfs;refine W j9 ?_;exact⟨(pre,i+1),[0,1,2,3,4],⟨Q,by dsimp only;rw[hfs,ho],Q⟩,⟨J,J⟩,⟨a43,a43,a43,a43,a43,a43,O⟩,uq_⟩
  .have cQ:(ea++eb).length<=i:=by simp at h2⊢;omega
   rw[R3 cQ]at ho;subst ho;rw[hc];refine z_9 ?_;exact⟨_,r3 (rs:=[.tmp 4,.tmp 5]) (cs:=[_,_]) J ⟨⟨O,J⟩,⟨O,J⟩,O⟩ (n_5 J),(by exact⟨(),.ret (.tups ⟨c8L (n_4 _) J,.old (.val _),O⟩),O⟩)⟩
theorem a3P(ea:List Va)(na:Bool)(eb:List Va)(cA:Bool)(σ:List b9):b8 CC 43 [.agg (E7 ea na),.agg (E7 eb cA)] σ λr τ=>r= .ret (a3z (enO ea eb))/\τ=σ:=
 (F5 (res:=λ_:Unit=>.ret (a3z (enO ea eb))) (P:=λ_=>True) hCC (λa h=>by simp at h;rcases h with rfl|rfl;exact P6 _ _;exact P6 _ _) (a8h ea na eb cA) (λ_ _=>a1e _) σ).mono λr τ ⟨_,h1,h2,_⟩=>⟨h1,h2⟩
noncomputable def alR(fl fs:List Fi)(ea eb:List Va):Option (List Ky):=if x8 fl=0/\x8 fs=0/\J9 ea=true/\J9 eb=true then some (H0 ((chR fl fs).getD []++enR ea eb))else none
theorem c5u(q1:x8 fl=0->W6 fl)(q2:x8 fs=0->W6 fs):((chR fl fs).getD []).length<=200000:=by
 unfold chR
 split
 .rename_i h;exact a82 (a9M _ _) (d7W (q1 h.1) (q2 h.2)).1
 .exact n_4 _
theorem d5R(h1:J9 ea=true)(h2:J9 eb=true):(enR ea eb).length<=32:=by
 have bf:ea.length<=16:=by unfold J9 at h1;simp at h1;exact h1.1
 have cg:eb.length<=16:=by unfold J9 at h2;simp at h2;exact h2.1
 have h3:=a0a (((ea++eb).filter (neV ea eb)).map B5);have h4:=a9M (neV ea eb) (ea++eb);unfold enR;rw[L7]at h3;rw[n_6]at h4;omega
theorem c89(fl:List Fi)(nn:Bool)(fs:List Fi)(ns:Bool)(q1:x8 fl=0->W6 fl)(q2:x8 fs=0->W6 fs)(ea:List Va)(na:Bool)(eb:List Va)(cA:Bool):b8 CC 44 [.agg (o4 fl nn),.agg (E7 ea na),.agg (o4 fs ns),.agg (E7 eb cA)] [] λr τ=>∃_:Unit,a1t 0 τ r (.ret (a3z (alR fl fs ea eb)))/\True:=by
 refine qO Tryz.func44 ?_;refine z_7 ?_;refine d8w ?_;intro _ _;refine W (c4 J Tryz.call43 i7 (a3P ea na eb cA _) J) ?_;refine qG D4 ?_;refine a38 ?_;refine cC ?_ ?_<;>intro h1
 .have hc:alR fl fs ea eb=none:=D λh=>by simp[chR,enO,h.1,h.2.1,h.2.2.1,h.2.2.2]at h1
  refine b4S ?_;exact⟨_,r3 (rs:=[.tmp 8,.tmp 9]) (cs:=[_,_]) J ⟨⟨O,J⟩,⟨O,J⟩,O⟩ (n_5 J),d7o⟩
 .have hv:x8 fl=0/\x8 fs=0/\J9 ea=true/\J9 eb=true:=by
   by_cases u1:x8 fl=0/\x8 fs=0
   .by_cases u2:J9 ea=true/\J9 eb=true
    .exact ⟨u1.1,u1.2,u2.1,u2.2⟩
    .simp [enO,D u2]at h1
   .simp [chR,D u1]at h1
  have hc:alR fl fs ea eb=some (H0 (((chR fl fs).getD [])++enR ea eb)):=F hv;have cp:=c5u q1 q2;have cb:=d5R hv.2.2.1 hv.2.2.2;have he:enO ea eb=some (enR ea eb):=F hv.2.2;have dR:((enO ea eb).getD []).length<=32:=by rw[he];exact cb
  rw[hc];refine qk (qD (A4 J O O J H q_5 t_5 t_3 a4r t_9 J (.inr J) K2 a03 B7 ((((chR fl fs).getD [])++enR ea eb).map Ky.cv) (((chR fl fs).getD [])++enR ea eb).length (by rw[a3j,he];rfl) (by rw[he];simp) ?_));refine W (c4 J Tryz.call39 ⟨O,O⟩ (c3H (((chR fl fs).getD [])++enR ea eb) _ (by rw[n_6];omega) _) J) ?_;refine c6 ?_;exact⟨_,r3 (rs:=[.tmp 8,.tmp 9]) (cs:=[_,_]) J ⟨⟨O,J⟩,⟨O,J⟩,O⟩ (n_5 J),(by exact⟨(),.ret (.tups ⟨.old (F7 _ _ _),.old (.val _),O⟩),O⟩)⟩
theorem d6s(fl:List Fi)(nn:Bool)(fs:List Fi)(ns:Bool)(q1:x8 fl=0->W6 fl)(q2:x8 fs=0->W6 fs)(ea:List Va)(na:Bool)(eb:List Va)(cA:Bool)(σ:List b9):b8 CC 44 [.agg (o4 fl nn),.agg (E7 ea na),.agg (o4 fs ns),.agg (E7 eb cA)] σ λr τ=>r= .ret (a3z (alR fl fs ea eb))/\τ=σ:=
 (F5 (res:=λ_:Unit=>.ret (a3z (alR fl fs ea eb))) (P:=λ_=>True) hCC (λa h=>by simp at h;rcases h with rfl|rfl|rfl|rfl;exact I3 _ _;exact P6 _ _;exact I3 _ _;exact P6 _ _) (c89 fl nn fs ns q1 q2 ea na eb cA) (λ_ _=>a1e _) σ).mono λr τ ⟨_,h1,h2,_⟩=>⟨h1,h2⟩
theorem b3K(fl:List Fi)(nn:Bool)(fs:List Fi)(ns:Bool)(q1:x8 fl=0->W6 fl)(q2:x8 fs=0->W6 fs):b8 CC 46 [.agg (o4 fl nn),.agg (o4 fs ns)] [] λr τ=>∃_:Unit,a1t 0 τ r (.ret (pkR (chR fl fs)))/\True:=by
 refine qO Tryz.func46 ?_;refine d8w ?_;intro _ _;refine qC ?_ ?_<;>intro h1
 .have hc:chR fl fs=none:=by
   cases hq:chR fl fs with
   |none=>rfl
   |some _=>simp[hq]at h1
  exact d8s
 .have gr:=c5u q1 q2;obtain⟨l,hc⟩:∃l,chR fl fs=some l:=by
   cases hq:chR fl fs with
   |none=>simp[hq]at h1
   |some l=>exact⟨l,J⟩
  rw[hc]at gr⊢;have gr:l.length<=200000:=gr;refine W a4W ?_;refine A2 hCC 3 J (α:=Nat×List U) (λa=>[(8,(.list (a.2.map scv) (gnn a.2.length) (C3 a.2.length 3))),(20,(.list (l.map Ky.cv) (gnn l.length) none)),(21,iv l.length),(22,iv a.1)]) (λa=>[.box (o4 fl nn),.box (o4 fs ns),.dead,o5 a.2.length]) (λa=>a.1<=l.length/\pkF l=a.2++pkF (l.drop a.1)/\a.2.length<=a.1) (λa=>l.length -a.1) ⟨(0,[]),[0,1,2,99],⟨n_4 _,J,n_7 _⟩,⟨J,J⟩,ut_,uq_⟩ ?_;intro⟨i,aw⟩ ⟨hi,hr,eQ⟩;dsimp only at hi hr eQ⊢;refine qk (qC ?_ ?_)<;> intro h2
  .have ab:i<l.length:=sm_ h2;obtain⟨y,hb⟩:∃y,l[i]?=some y:=⟨l[i]'ab,H⟩;rw[b9a hb]at hr;refine W c5n ?_;refine d3u ?_;refine qC ?_ ?_<;>intro h3
   .rw [F (I h3)]at hr;refine W e2x ?_;refine qD (A4 J O O J H q_5 t_2 t_0 a3p t_4 J (.inr J) K2 Z6 B7 ((aw++[y.a]).map scv) (aw++[y.a]).length (by rw[a3j];rfl) H ?_);refine W j9 ?_;exact⟨(i+1,aw++[y.a]),[0,1,2,5],⟨Q,Q,by dsimp only;rw[hr,C7],by dsimp only;rw[n_6,b6x];omega⟩,⟨J,J⟩,ut_,uq_⟩
   .rw [D (I h3),a1D]at hr;refine W j9 ?_;exact⟨(i+1,aw),[0,1,2,3],⟨Q,Q,hr,Q⟩,⟨J,J⟩,ut_,uq_⟩
  .have cQ:i=l.length:=sm_ h2;rw[cQ,a9T]at hr;replace hr:pkF l=aw:=by rw[hr];simp[pkF]
   exact d7Z
theorem b54(fl:List Fi)(nn:Bool)(fs:List Fi)(ns:Bool)(q1:x8 fl=0->W6 fl)(q2:x8 fs=0->W6 fs)(σ:List b9):b8 CC 46 [.agg (o4 fl nn),.agg (o4 fs ns)] σ λr τ=>r= .ret (pkR (chR fl fs))/\τ=σ:=
 (F5 (res:=λ_:Unit=>.ret (pkR (chR fl fs))) (P:=λ_=>True) hCC (λa h=>by simp at h;rcases h with rfl|rfl;exact I3 _ _;exact I3 _ _) (b3K fl nn fs ns q1 q2) (λ_ _=>b8B _) σ).mono λr τ ⟨_,h1,h2,_⟩=>⟨h1,h2⟩
theorem a8B{α β:Type} [DecidableEq α]{a:α}{c:β}{x:α×β}:∀{l:List (α×β)},x∈V8 l a c->x=(a,c)\/x∈l
 | [],h=>.inl (by simpa[V8]using h)
 |(b,d)::l,h=>by
  rw[V8]at h;split at h
  .rename_i cI;subst cI
   rcases J0.1 h with h|h
   .exact .inl h
   .exact .inr (a6D _ h)
  .rcases J0.1 h with h|h
   .exact .inr (h▸b1P)
   .exact (a8B h).imp id (a6D _)
theorem b3i{α β:Type} [DecidableEq α]{a:α}{c:β}:∀{l:List (α×β)},(V8 l a c).length<=l.length+1
 | []=>n_7 _
 |(b,d)::l=>by
  rw[V8]
  split
  .simp
  .have:=b3i (a:=a) (c:=c) (l:=l);simp only[C5];omega
theorem b6B{β:Type} [DecidableEq α]{l:List (α×β)}{a:α}{c:β}(h:glk l a=some c):(a,c)∈l:=by
 obtain⟨i,hi,_⟩:=a8L h;exact n_2 hi
structure EnV(q:Nm)(e:En):Prop where
 key:q=F1 e.k e.p e.o
 kind:e.k=1\/e.k=2\/e.k=3
 pkg:C4 e.p=true
 own:e.k≠3->C4 e.o=true
 pth:e.k=3->I1 e.o=true
theorem e0S{me:EM}{x:En}(hx:EnV (F1 x.k x.p x.o) x)(h:∀y∈me,EnV y.1 y.2):∀y∈a3e me x,EnV y.1 y.2:=λy hy=>by
 unfold a3e at hy
 rcases a8B hy with rfl|hy
 .dsimp only
  split
  .rename_i f hf;have:=h _ (b6B hf);exact⟨this.key,this.kind,this.pkg,this.own,this.pth⟩
  .exact hx
 .exact h y hy
theorem c4g{path pkg:U}(hp:C4 pkg=true):∀(l:List De) (k:Nat) (me:EM),(∀d∈l,DeG d)->(∀y∈me,EnV y.1 y.2)->(∀y∈addDs me path pkg l k,EnV y.1 y.2)/\(addDs me path pkg l k).length<=me.length+l.length
 | [],k,me,_,h=>⟨h,n_7 _⟩
 |d::l,k,me,hd,h=>by
  have hg:=hd d b1P;obtain⟨h1,h2⟩:=c4g hp l (k+1) (a3e me ⟨pkg,d.name,d.k,path,k,1⟩) (λe he=>hd e (a6D _ he)) (e0S ⟨J,hg.kind,hp,λh3=>(hg.name h3).1,hg.path⟩ h);refine⟨h1,a82 h2 ?_⟩;have h3:(a3e me ⟨pkg,d.name,d.k,path,k,1⟩).length<=me.length+1:=b3i;rw[C5];omega
structure WV(n:Nat)(s:WS):Prop where
 src:∀x∈s.2.1,a10 x.2
 ent:∀x∈s.2.2,EnV x.1 x.2
 sl:s.2.1.length<=n
 el:s.2.2.length<=64*n
theorem WV.step{s:WS}(h:WV n s)(f:Fi):WV (n+1) (a0w s f):=by
 unfold a0w;have dR:=h.el;have dS:=h.sl
 split
 .cases hp:Q8 f.b with
  |none=>exact⟨h.src,h.ent,Nat.le_succ_of_le dS,Q⟩
  |some x=>
   have hx:=a9t hp;obtain⟨h1,h2⟩:=c4g (path:=f.p) hx.pkg.1 x.decls 0 s.2.2 hx.dec h.ent;have hd:=hx.decl;have:=b3i (a:=f.p) (c:=x) (l:=s.2.1);refine⟨λy hy=>?_,h1,Q,Q⟩
   rcases a8B hy with rfl|hy
   .exact hx
   .exact h.src y hy
 .exact ⟨h.src,h.ent,Nat.le_succ_of_le dS,X⟩
theorem c8w:∀{l:List Fi} {n:Nat} {s:WS},WV n s->WV (n+l.length) (a8d l s)
 | [],n,s,h=>h
 |f::l,n,s,h=>by
  have:=c8w (l:=l) (h.step f);rw[show n+1+l.length=n+(f::l).length by simp;omega]at this;exact this
theorem b1z(fl:List Fi):WV fl.length (A5 fl):=by
 unfold A5
 split
 .simpa using c8w (l:=fl) (n:=0) (s:=([],[],[])) ⟨λx h=>by simp at h,λx h=>by simp at h,n_7 _,n_7 _⟩
 .exact ⟨λx h=>by simp at h,λx h=>by simp at h,n_4 _,n_4 _⟩
theorem d5e{q:Nm}{e:En}(h:EnV q e):Q9 (a47 e)=true:=by
 unfold a47
 rcases h.kind with hk|hk|hk
 .rw [F hk];simp[Q9,h.pkg,h.own X]
 .rw [D X,F hk];simp[Q9,h.pkg,h.own X]
 .rw [D X,D X];simp[Q9,h.pth hk]
theorem c4K{x:Src}(h:a10 x):∀k∈b14 x,Q9 k=true:=λk hk=>by
 obtain⟨s,hs,hk⟩:=a6L.1 hk;have hn:C4 s=true:=by
  rcases J0.1 hs with rfl|hs
  .exact h.pkg.1
  .exact (h.imp s hs).1
 simp only[a1j,J0,a6A,or_false]at hk
 rcases hk with rfl|rfl<;>simp[Q9,hn]
theorem d1n(h:x8 fl=0):∀k∈KU fl,Q9 k=true:=λk hk=>by
 obtain⟨h1,h2⟩:=X5 h;have hv:=b1z fl;unfold KU at hk
 rcases J5.1 hk with hk|hk
 .rcases J5.1 hk with hk|hk
  .obtain ⟨f,hf,rfl⟩:=D5.1 hk;simp[O1,Q9,(h2 f hf).1]
  .obtain ⟨e,he,rfl⟩:=D5.1 hk;obtain⟨x,hx,rfl⟩:=D5.1 he;exact d5e (hv.ent x hx)
 .obtain ⟨x,hx,hk⟩:=a6L.1 hk;obtain⟨y,hy,rfl⟩:=D5.1 hx;exact c4K (hv.src y hy) k hk
theorem d3a(h:Q9 k=true):k.a.length<=100/\k.b.length<=100:=by
 obtain⟨h1,h2⟩:=b2Y h;refine⟨h2,?_⟩;unfold Q9 at h;split at h
 .have:=B9 (b0P.1 h).2;omega
 .split at h
  .have:=a6B (b0P.1 h).2;rw[this];exact n_4 _
  .split at h
   .have:=a6B (b0P.1 h).2;rw[this];exact n_4 _
   .cases h
theorem d2M(h:Q9 k=true)(h1:k.k≠1)(h2:k.k≠2):k.b=[]:=by
 unfold Q9 at h;rw[D (by simp[h1,h2])]at h;split at h
 .exact a6B (b0P.1 h).2
 .split at h
  .exact a6B (b0P.1 h).2
  .cases h
theorem a0Y.of(h:x8 fl=0):a0Y fl:=by
 obtain⟨h1,h2⟩:=X5 h;have hv:=b1z fl;have h3:=hv.el;have h4:=hv.sl;exact⟨λf hf=>by have:=M5 (h2 f hf).1;omega,h1,X,X,λx hx=>(hv.src x hx).impl,λk hk=>by have:=d3a (d1n h k hk);omega⟩
def e1r(k:Ky):U:=if k.k=6 then [61]else if k.k=7 then [61]++H6 (H6 [] k.a) [61]else [45]
noncomputable def a1E(fl:List Fi)(ev:List Va)(k:Ky):U:=R7 fl (A5 fl).2.1 (A5 fl).2.2 ev k
theorem b2L(h:(⟨6,a,[]⟩:Ky)∉KU fl):B6 (A5 fl).2.1 fl a=[]:=by
 unfold B6;rw[c3R];intro f hf hh;rw[b0P]at hh;cases hg:glk (A5 fl).2.1 f.p with
 |none=>rw[hg]at hh;cases hh.1
 |some x=>
  rw[hg]at hh;have hx:x.pkg=a:=a6B hh.2;refine h (b7e _ (a6L.2 ⟨x,D5.2 ⟨_,b6B hg,J⟩,a6L.2 ⟨x.pkg,b1P,?_⟩⟩));rw[hx];simp[a1j]
theorem b1S{k:Int}{p o:U}(hk:k=1\/k=2\/k=3)(h:(if k=3 then(⟨3,o,[]⟩:Ky)else⟨k,p,o⟩)∉KU fl):glk (A5 fl).2.2 (F1 k p o)=none:=by
 cases hg:glk (A5 fl).2.2 (F1 k p o)with
 |none=>rfl
 |some e=>
  have hv:=(b1z fl).ent _ (b6B hg);have hq:=hv.key;dsimp only at hq;simp only[F1,Nm.mk.injEq]at hq;obtain⟨q1,q2,q3⟩:=hq;exfalso;refine h (a7c _ (b7e _ (D5.2 ⟨e,D5.2 ⟨_,b6B hg,J⟩,?_⟩)));unfold a47
  rcases hk with hk|hk|hk<;>subst hk
  .rw [F q1.symm,D G];rw[D G,D X]at q2;rw[<- q2,<- q3]
  .rw [D X,F q1.symm,D G];rw[D G,D X]at q2;rw[<- q2,<- q3]
  .rw [D X,D X,F J,<- q3]
theorem a9E{n:Int}(h:k.k=n)(hb:k.b=[]):(⟨n,k.a,[]⟩:Ky)=k:=by
 obtain⟨a,b,c⟩:=k;simp only at h hb;subst h hb;rfl
theorem b1i(hk:Q9 k=true)(hn:k∉KU fl)(hv:k∉ev.map B5):a1E fl ev k=e1r k:=by
 have iQ:∀{n:Int} {p o:U},glk (A5 fl).2.2 (F1 n p o)=none->a04 (A5 fl).2.1 (a0q true (A5 fl).2.2 n p o)=[45]:=λh=>by rw[a04,F (b35 h)]
 have hb:=d2M hk;unfold a1E R7 e1r
 rcases(b2Y hk).1 with h|h|h|h|h|h|h
 .rw [h];refine iQ (b1S (.inl J) λhm=>hn ?_);rw[D G,<- h]at hm;exact hm
 .rw [h];refine iQ (b1S (.inr (.inl J)) λhm=>hn ?_);rw[D G,<- h]at hm;exact hm
 .rw [h];refine iQ (b1S (.inr (.inr J)) λhm=>hn ?_);rw[F J,a9E h (hb X X)]at hm;exact hm
 .rw [h];show(if(C1 fl k.a).isSome then [61]++(C1 fl k.a).getD []else [45])=[45];have:C1 fl k.a=none:=by
   unfold C1;rw[a9K,b8h];intro f hf hh;refine hn (a7c _ (a7c _ (D5.2 ⟨f,hf,?_⟩)));rw[O1,a6B hh,a9E h (hb X X)]
  rw[this];rfl
 .rw [h];show(if(P3 ev k.a).isSome then [61]++Lib.itoa ((P3 ev k.a).getD 0)else [45])=[45];have:P3 ev k.a=none:=by
   unfold P3;rw[a9K,b8h];intro v hf hh;refine hv (D5.2 ⟨v,hf,?_⟩);rw[B5,a6B hh,a9E h (hb X X)]
  rw[this];rfl
 .rw [h];show R5 (A5 fl).2.1 fl k.a=[61];rw[R5,b2L (by rw[a9E h (hb X X)];exact hn)];rfl
 .have h6:(⟨6,k.a,[]⟩:Ky)∉KU fl:=λhm=>by
   refine hn ?_;unfold KU at hm⊢
   rcases J5.1 hm with hm|hm
   .rcases J5.1 hm with hm|hm
    .obtain ⟨f,_,hf⟩:=D5.1 hm;simp[O1]at hf
    .obtain ⟨e,_,he⟩:=D5.1 hm;unfold a47 at he;split at he
     .simp at he
     .split at he<;>simp at he
   .obtain ⟨x,hx,hm⟩:=a6L.1 hm;obtain⟨s,hs,hm⟩:=a6L.1 hm;have hsa:s=k.a:=by simp[a1j]at hm;exact hm.symm
    refine b7e _ (a6L.2 ⟨x,hx,a6L.2 ⟨s,hs,?_⟩⟩);rw[<- a9E h (hb X X),hsa];simp[a1j]
  have hf:=b2L h6;have hr:∀n,n∈[k.a]↔Reach (A5 fl).2.1 fl k.a n:=λn=>by
   rw[b0s];constructor
   .rintro rfl;exact .base
   .intro hr
    induction hr with
    |base=>rfl
    |step _ hff _ ih=>subst ih;rw[hf]at hff;cases hff
  rw[h];show a63 (A5 fl).2.1 fl k.a=[61]++H6 (H6 [] k.a) [61];rw[a63,a6e H hr];have:a0B [k.a]=[k.a]:=by simp[a0B]
  rw[this];show [61]++H6 (H6 [] k.a) (R5 (A5 fl).2.1 fl k.a)=_;rw[R5,hf];rfl
theorem a8G(f g:Ky->U):∀l:List Ky,a3x l (l.map f) (l.map g)=l.filter λk=>decide (f k≠g k)
 | []=>rfl
 |k::l=>by
  rw[b0t,b0t,a3x,a7o,a8G f g l];by_cases h:f k=g k
  .rw [F h,D (by simp[h])]
  .rw [D h,F (by simp[h])]
noncomputable def chL(fl:List Fi)(ev:List Va)(fs:List Fi)(ew:List Va):List Ky:=(H0 (KU fl++KU fs++(ev.map B5++ew.map B5))).filter λk=>decide (a1E fl ev k≠a1E fs ew k)
theorem b8w:∀{l:List Va} {pv:Option Va},evB pv l=true->∀v∈l,C4 v.n=true
 | [],_,_,v,hv=>by cases hv
 |w::l,pv,h,v,hv=>by
  rw[evB,b0P]at h
  rcases J0.1 hv with rfl|hv
  .have:=h.1;unfold a0p at this;simp only[T7]at this;exact this.1.1
  .exact b8w h.2 v hv
theorem b36(h:J9 ev=true):∀v∈ev,C4 v.n=true:=b8w (b0P.1 h).2
theorem b1h(h:J9 ev=true):∀k∈ev.map B5,Q9 k=true:=λk hk=>by
 obtain⟨v,hv,rfl⟩:=D5.1 hk;have:=b36 h v hv;simp[B5,Q9,this]
theorem d2o(h1:x8 fl=0)(h2:x8 fs=0)(h3:J9 ev=true)(h4:J9 ew=true):∀k∈H0 (KU fl++KU fs++(ev.map B5++ew.map B5)),Q9 k=true:=λk hk=>by
 rw[(H8 _).2]at hk;simp only[J5]at hk
 rcases hk with(hk|hk)|hk|hk
 .exact d1n h1 k hk
 .exact d1n h2 k hk
 .exact b1h h3 k hk
 .exact b1h h4 k hk
theorem a9q(h1:x8 fl=0)(h2:x8 fs=0)(h3:J9 ev=true)(h4:J9 ew=true):b0u fl ev fs ew=some (chL fl ev fs ew):=by
 have hu:=d2o h1 h2 h3 h4;have c1:∀l,(∀k∈l,Q9 k=true)->F6 fl ev l=some (l.map (a1E fl ev)):=λl hl=>by rw[F6,F ⟨h1,h3,a40.2 hl⟩];rfl
 have c2:∀l,(∀k∈l,Q9 k=true)->F6 fs ew l=some (l.map (a1E fs ew)):=λl hl=>by rw[F6,F ⟨h2,h4,a40.2 hl⟩];rfl
 rw[<- a17]at hu;rw[b0u,c1 [] H,c2 [] H,F ⟨J,J⟩,c1 _ hu,c2 _ hu,n_9,b83,a8G,chL,a17]
theorem a7Y(h1:x8 fl=0)(h2:x8 fs=0)(h3:J9 ev=true)(h4:J9 ew=true)(k:Ky):k∈chL fl ev fs ew↔Q9 k=true/\a1E fl ev k≠a1E fs ew k:=by
 rw[chL,a7K,a1G];constructor
 .rintro ⟨hm,hd⟩;exact⟨d2o h1 h2 h3 h4 k hm,hd⟩
 .rintro ⟨hk,hd⟩;refine⟨?_,hd⟩;rw[(H8 _).2];by_cases hm:k∈KU fl++KU fs++(ev.map B5++ew.map B5)
  .exact hm
  .simp only[J5,not_or]at hm;exact absurd ((b1i hk hm.1.1 hm.2.1).trans (b1i hk hm.1.2 hm.2.2).symm) hd
theorem b6M(fl fs:List Fi)(ev ew:List Va):b26 (chL fl ev fs ew):=(H8 _).1.filter _
theorem d5D(h1:fl.length<=64)(h2:fs.length<=64)(h3:ev.length<=1000)(h4:ew.length<=1000):(chL fl ev fs ew).length<=100000:=by
 have ku:∀l:List Fi,l.length<=64->(KU l).length<=10000:=λl hl=>by
  have hv:=b1z l;have e1:=hv.el;have e2:=hv.sl;have e3:∀ss:List Src,(∀x∈ss,x.imports.length<=8)->(ss.flatMap b14).length<=18*ss.length:=λss=>by
   induction ss with
   |nil=>intro _;exact n_7 _
   |cons x ss ih=>
    intro hs;have:=ih λy hy=>hs y (a6D _ hy);have hx:=hs x b1P;have e4:∀t:List U,(t.flatMap a1j).length=2*t.length:=λt=>by
     induction t with
     |nil=>rfl
     |cons y t ih=>rw[a5A,n_6,ih];simp[a1j];omega
    rw[a5A,n_6,C5,b14,e4,C5];omega
  have e5:=e3 ((A5 l).2.1.map Prod.snd) λx hx=>by
   obtain⟨y,hy,rfl⟩:=D5.1 hx;exact(hv.src y hy).impl
  unfold KU;rw[n_6,n_6,L7,L7,L7];rw[L7]at e5;omega
 have h5:=ku fl h1;have h6:=ku fs h2;have h7:=a0a (KU fl++KU fs++(ev.map B5++ew.map B5));simp only[n_6,L7]at h7;have h8:(chL fl ev fs ew).length<=_:=a9M _ _;omega
theorem d9o(k:Int)(p o:U):(fiE (r8 fl) k p o).ct=((occ (F1 k p o) fl).length:Int):=by
 have h:=(a9s k p o (r8 fl) ⟨if k=3 then []else p,o,k,[],0,0⟩ (λh3=>D h3)).2.2.2;rw[b99];show(fiL k p o (r8 fl) _).ct=_;rw[h];simp
theorem e0m{q:Nm}{x:U×Src}{d:De}(hx:x∈r8 fl)(hd:x.2.decls[i]?=some d)(hq:deK x.2 d=q):(x.2,d)∈occ q fl:=by
 obtain⟨f,hf,hs⟩:=a7L hx;refine a6L.2 ⟨f,hf,?_⟩;unfold b8U;rw[hs];exact D5.2 ⟨d,a7K.2 ⟨n_2 hd,a1B hq⟩,J⟩
theorem d2Q(h:x8 fl=0)(k:Int)(p o:U):b12 (r8 fl) k p o=e03 (occ (F1 k p o) fl):=by
 have gk:=d9o (fl:=fl) k p o;have ba:=(d3B (r8 fl) k p o).2;unfold b12;cases ho:occ (F1 k p o) fl with
 |nil=>
  rw[ho]at gk;rw[F (by rw[gk];rfl)];rfl
 |cons y t=>
  rw[ho]at gk;rw[C5]at gk;rw[D X];cases t with
  |cons z t=>
   rw[C5]at gk;rw[F X];obtain⟨a,b⟩:=y;rfl
  |nil=>
   rw[J6]at gk;rw[D X];obtain⟨x,hx,i,d,hd,h1,h2,hq⟩:=ba X;have hm:=e0m hx hd hq;rw[ho,b0s]at hm;subst hm;have hD:a7T (r8 fl) (fiE (r8 fl) k p o)=(x.2,(i:Int)):=by
    unfold a7T;rw[h1,b4O (b1v (c48 h)) hx,h2]
   rw[hD];dsimp only;rw[a2L,hd];rfl
theorem c0U{fl:List Fi}(h:x8 fl=0)(pkg:U):∀(M:List Fi) (o:U),(∀f∈M,f∈fl)->a4L fl pkg (r8 M) o=b3e o (M.filter λf=>decide ((Z0 f).map Src.pkg=some pkg))
 | [],_,_=>rfl
 |f::M,o,hM=>by
  have hd:=b5s (c48 h) f (hM f H);have ih:=λo=>c0U h pkg M o λg hg=>hM g (by simp[hg]);rw[a7o];have e:r8 (f::M)=(match Z0 f with|none=>[]|some s=>[(f.p,s)])++r8 M:=by
   unfold r8;rw[List.filterMap_cons,show b0N f.p f.b=Z0 f from J];cases Z0 f<;>rfl
  rw[e];cases hs:Z0 f with
  |none=>
   rw[D H];exact ih o
  |some s=>
   show a4L fl pkg (r8 M) (if s.pkg=pkg then H6 (H6 o f.p) ((if x8 fl=0 then C1 fl f.p else none).getD [])else o)=_;rw[ih];by_cases hp:s.pkg=pkg
   .rw [F hp,F h,hd,F (by simp[hp])];rfl
   .rw [D hp,D (by simp[hp])]
theorem c3z(h:x8 fl=0)(pkg o:U):a4L fl pkg (r8 fl) o=b3e o (B6 (A5 fl).2.1 fl pkg):=by
 rw[a7x h];exact c0U h pkg fl o λ_ hf=>hf
theorem a52{x:U×Src}:x∈r8 fl↔∃f∈fl,Z0 f=some x.2/\x.1=f.p:=by
 unfold r8;rw[c5T];constructor
 .rintro ⟨f,hf,he⟩;rw[P2]at he;obtain⟨s,hs,rfl⟩:=he;exact⟨f,hf,hs,J⟩
 .rintro ⟨f,hf,hs,hp⟩;refine⟨f,hf,?_⟩;rw[show b0N f.p f.b=Z0 f from J,hs];obtain⟨a,b⟩:=x;cases hp;rfl
theorem c4N{fl:List Fi}(h:x8 fl=0)(pkg n:U):a7v (r8 fl) pkg n↔Reach (A5 fl).2.1 fl pkg n:=by
 constructor
 .intro hr
  induction hr with
  |base=>exact .base
  |step _ hx hp hs ih=>
   obtain⟨f,hf,h1,_⟩:=a52.1 hx;refine .step ih (f:=f) ?_ ?_
   .rw [a7x h];refine a7K.2 ⟨hf,a1B ?_⟩;rw[h1,b83,hp]
   .unfold a1I;rw[(a7N h).src f hf,h1];exact hs
 .intro hr
  induction hr with
  |base=>exact .base
  | @step m f s _ hf hs ih=>
   rw[a7x h]at hf;obtain⟨hf,h1⟩:=a7K.1 hf;have h1:=a6B h1;rw[P2]at h1;obtain⟨x,h2,h3⟩:=h1;unfold a1I at hs;rw[(a7N h).src f hf,h2]at hs;exact .step ih (x:=(f.p,x)) (a52.2 ⟨f,hf,h2,J⟩) h3 hs
theorem d1W(h:x8 fl=0)(pkg:U):a0r (r8 fl) pkg=a4G (A5 fl).2.1 fl pkg:=by
 by_cases dD:∃N:List U,N.Nodup/\∀n,n∈N↔a7v (r8 fl) pkg n
 .obtain ⟨N,h1,h2⟩:=dD;rw[b8A h1 h2,a6e h1 λn=>(h2 n).trans (c4N h pkg n)]
 .unfold a0r a4G;rw[dif_neg dD,dif_neg λ⟨N,h1,h2⟩=>dD ⟨N,h1,λn=>(h2 n).trans (c4N h pkg n).symm⟩]
theorem c5p{fl:List Fi}(h:x8 fl=0):∀(N:List U) (o:U),c2u fl (r8 fl) N o=b0S (A5 fl).2.1 fl o N
 | [],_=>rfl
 |q::N,o=>by
  show c2u fl (r8 fl) N (H6 (H6 o q) ([61]++a4L fl q (r8 fl) []))=b0S (A5 fl).2.1 fl (H6 (H6 o q) (R5 (A5 fl).2.1 fl q)) N;rw[c5p h N,c3z h];rfl
theorem c9I(h:x8 fl=0)(ev:List Va)(k:Ky):inR fl (r8 fl) ev k=R7 fl (A5 fl).2.1 (A5 fl).2.2 ev k:=by
 unfold inR R7;simp only[d2Q h,c6c h,F h,c3z h,c5p h,d1W h];rfl
theorem b95{x:U×Src}(hx:x∈r8 fl):a10 x.2:=by
 obtain⟨f,_,hs,_⟩:=a52.1 hx;exact a8E hs
theorem b1L(h:x8 fl=0):∀k∈U3 fl (r8 fl),Q9 k=true:=λk hk=>by
 obtain⟨h1,h2⟩:=X5 h;unfold U3 at hk
 rcases J5.1 hk with hk|hk
 .obtain ⟨f,hf,rfl⟩:=D5.1 hk;simp[O1,Q9,(h2 f hf).1]
 .obtain ⟨x,hx,hk⟩:=a6L.1 hk;have hg:=b95 hx
  rcases J5.1 hk with hk|hk
  .exact c4K hg k hk
  .obtain ⟨d,hd,rfl⟩:=D5.1 hk;have hd:=hg.dec d hd;unfold a9a
   rcases hd.kind with hk|hk|hk
   .rw [D X,D X];simp[Q9,hg.pkg.1,(hd.name X).1]
   .rw [F hk];simp[Q9,hg.pkg.1,(hd.name X).1]
   .rw [D X,F hk];simp[Q9,hd.path hk]
theorem c0I:∀(l:List Fi) (s:WS),∀y∈(a8d l s).2.1,y∈s.2.1\/∃f∈l,Z0 f=some y.2
 | [],s,y,hy=>.inl hy
 |f::l,s,y,hy=>by
  rcases c0I l (a0w s f) y hy with h|⟨g,hg,hs⟩
  .unfold a0w at h;split at h
   .rename_i hp;split at h
    .exact .inl h
    .rename_i x hx
     rcases a8B h with rfl|h
     .exact .inr ⟨f,b1P,by rw[Z0,F hp];exact hx⟩
     .exact .inl h
   .exact .inl h
  .exact .inr ⟨g,a6D _ hg,hs⟩
theorem d3v(h:x8 fl=0)(hk:k∈KU fl):k∈U3 fl (r8 fl):=by
 unfold KU at hk;unfold U3
 rcases J5.1 hk with hk|hk
 .rcases J5.1 hk with hk|hk
  .exact a7c _ hk
  .obtain ⟨e,he,rfl⟩:=D5.1 hk;obtain⟨y,hy,rfl⟩:=D5.1 he;have hv:=(b1z fl).ent y hy;have hw:=(a7N h).ent y.1;cases ho:occ y.1 fl with
   |nil=>
    rw[ho]at hw;exact absurd (List.mem_map_of_mem (f:=(·.1)) hy) (b2e.1 hw)
   |cons z t=>
    have hz:z∈occ y.1 fl:=by rw[ho];exact b1P
    obtain⟨f,hf,hz⟩:=a6L.1 hz;unfold b8U at hz;split at hz
    .cases hz
    .rename_i x hx;obtain⟨d,hd,rfl⟩:=D5.1 hz;obtain⟨hd,hq⟩:=a7K.1 hd;have hq:deK x d=y.1:=a6B hq;rw[hv.key,deK,F1,F1,Nm.mk.injEq]at hq;obtain⟨g1,g2,g3⟩:=hq;refine b7e _ (a6L.2 ⟨(f.p,x),a52.2 ⟨f,hf,hx,J⟩,b7e _ (D5.2 ⟨d,hd,?_⟩)⟩);unfold a9a a47;rw[g1,g3]
     rcases hv.kind with hk|hk|hk
     .rw [D X,D X]at g2;rw[D X,D X,F hk,g2]
     .rw [D X,D X]at g2;rw[F hk,D X,F hk,g2]
     .rw [D X,F hk,D X,D X]
 .obtain ⟨x,hx,hk⟩:=a6L.1 hk;obtain⟨y,hy,rfl⟩:=D5.1 hx;have:∃f∈fl,Z0 f=some y.2:=by
   unfold A5 at hy;rw[F h]at hy
   rcases c0I fl ([],[],[]) y hy with h0|h0
   .cases h0
   .exact h0
  obtain⟨f,hf,hs⟩:=this;exact b7e _ (a6L.2 ⟨(f.p,y.2),a52.2 ⟨f,hf,hs,J⟩,a7c _ hk⟩)
theorem d6G(h:x8 fl=0):(U3 fl (r8 fl)).length<=10000:=by
 obtain⟨h1,h2⟩:=X5 h;have h3:=(b08 (fl:=fl)).1;have hs:∀M:List (U×Src),(∀x∈M,a10 x.2)->(M.flatMap srU).length<=100*M.length:=by
  intro M
  induction M with
  |nil=>intro _;exact n_7 _
  |cons x M ih=>
   intro hM;have i1:=ih λy hy=>hM y (a6D _ hy);have hg:=hM x b1P;have i2:=hg.impl;have i3:=hg.decl;rw[a5A,n_6,srU,n_6,b8C,L7,C5];omega
 have h4:=hs (r8 fl) λx hx=>b95 hx;unfold U3;rw[n_6,L7];omega
theorem d4d(h1:x8 fl=0)(h2:x8 fs=0):(H0 (H0 (U3 fl (r8 fl))++H0 (U3 fs (r8 fs)))).filter (λk=>decide (inR fl (r8 fl) [] k≠inR fs (r8 fs) [] k))=chL fl [] fs []:=by
 refine a57 ((H8 _).1.filter _) (b6M _ _ _ _) λk=>?_;rw[a7K,a7Y h1 h2 G G,(H8 _).2,J5,(H8 _).2,(H8 _).2,c9I h1,c9I h2];show _/\decide (a1E fl [] k≠a1E fs [] k)=true↔_;rw[a1G];refine⟨λ⟨hk,hn⟩=>⟨hk.elim (b1L h1 k) (b1L h2 k),hn⟩,λ⟨hk,hn⟩=>⟨?_,hn⟩⟩;by_cases g1:k∈U3 fl (r8 fl)
 .exact .inl g1
 .by_cases g2:k∈U3 fs (r8 fs)
  .exact .inr g2
  .rw [b1i hk (λh=>g1 (d3v h1 h)) H,b1i hk (λh=>g2 (d3v h2 h)) H]at hn;exact absurd J hn
abbrev isW(b:UInt8):Bool:=inK [1,2,3] b
def NW(s:U):Prop:=∀b r,s=b::r->isW b=false
theorem d5V{w w' s':U}(h1:w.all isW=true)(h2:w'.all isW=true)(n1:NW s)(n2:NW s')(h:w++s=w'++s'):w=w'/\s=s':=by
 induction w generalizing w' with
 |nil=>
  cases w' with
  |nil=>exact⟨J,h⟩
  |cons b w'=>
   have h3:=n1 b (w'++s') h;simp only[b1x,T7]at h2;rw[h2.1]at h3;cases h3
 |cons b w ih=>
  simp only[b1x,T7]at h1;cases w' with
  |nil=>
   have h3:=n2 b (w++s) h.symm;rw[h1.1]at h3;cases h3
  |cons b' w'=>
   simp only[b1x,T7]at h2;injection h with e1 e2
   obtain⟨h4,h5⟩:=ih h1.2 h2.2 e2;exact⟨by rw[e1,h4],h5⟩
def d9V(l:U):Nat:=l.foldl (λa b=>10*a+(b.toNat -48)) 0
theorem d4T:∀k,k<10->(UInt8.ofNat (48+k)).toNat=48+k:=by decide
theorem c0L(u:Nat):d9V (Lib.decDigits u)=u:=by
 induction u using Nat.strongRecOn with
 |_ u ih=>
  rw[Lib.decDigits]
  split
  .rename_i h;simp only[d9V,b3p,List.foldl_nil,d4T u h];omega
  .rename_i h;have h1:=ih (u / 10) X;unfold d9V at h1⊢;rw[b7m,h1];simp only[b3p,List.foldl_nil,d4T (u%10) (a4l _ X)];omega
theorem d4L{u v:Nat}(h:Lib.decDigits u=Lib.decDigits v):u=v:=by rw[<- c0L u,h,c0L]
theorem c4P(u:Nat):∀b∈Lib.decDigits u,48<=b.toNat/\b.toNat<=57:=by
 intro b hb
 induction u using Nat.strongRecOn with
 |_ u ih=>
  rw[Lib.decDigits]at hb;split at hb
  .rename_i h;simp only[J0,a6A,or_false]at hb;subst hb;rw[d4T u h];omega
  .rename_i h
   rcases J5.1 hb with hb|hb
   .exact ih _ X hb
   .simp only[J0,a6A,or_false]at hb;subst hb;rw[d4T (u%10) (a4l _ X)];omega
theorem d7x(u:Nat):(Lib.decDigits u).all isW=true:=a40.2 λb hb=>by
 have h:=c4P u b hb;have hk:l9 b.toNat=2:=by unfold l9;rw[D X,F X]
 simp[inK,hk]
theorem e0e(u:Nat):Lib.decDigits u≠[]:=λh=>by
 have:=n_8 List.length h;rw[Lib.decDigits_length]at this;have h2:=Lib.nDigits_pos u;simp at this;omega
section
variable{ps:List U}
theorem one{l:List Tr}(h:l.length=1):∃a,l=[a]:=by
 match l,h with
 | [a],_=>exact⟨a,J⟩
theorem d9N{u u':Int}{s':U}(hs:NW s)(aU:NW s')(e:Lib.itoa u++s=Lib.itoa u'++s'):u=u'/\s=s':=by
 have key:∀{m n:Nat},Lib.decDigits m++s=Lib.decDigits n++s'->m=n/\s=s':=λ{m n} h=>by
  obtain⟨h1,h2⟩:=d5V (d7x m) (d7x n) hs aU h;exact⟨d4L h1,h2⟩
 have h45:∀(n:Nat) (x y:U),Lib.decDigits n++x≠45::y:=λn x y h=>by
  cases hd:Lib.decDigits n with
  |nil=>exact e0e _ hd
  |cons b r=>
   rw[hd]at h;injection h with h _
   have:=c4P n b (by rw[hd];exact b1P);subst h;simp at this
 unfold Lib.itoa at e;split at e<;>split at e
 .injection e with _ e
  obtain⟨h1,h2⟩:=key e;exact⟨X,h2⟩
 .exact absurd e.symm (h45 _ _ _)
 .exact absurd e (h45 _ _ _)
 .obtain ⟨h1,h2⟩:=key e;exact⟨X,h2⟩
end
theorem W6.of(h:x8 fl=0):W6 fl:=by
 have h1:=d6G h;have h2:=(b08 (fl:=fl)).1;have h3:=(X5 h).1;exact⟨X,X,λk hk=>d4m (b1L h k hk)⟩
theorem c46(h:k.k=5):a1E fl ev k=if(P3 ev k.a).isSome then [61]++Lib.itoa ((P3 ev k.a).getD 0)else [45]:=by
 unfold a1E R7;rw[D X,D X,D X,D X,F h]
theorem b1d(h:¬k.k=5):a1E fl ev k=a1E fl ew k:=by
 unfold a1E R7;rw[D h,D h]
theorem a2v(h:k.k=5):a1E fl ea k≠a1E fs eb k↔P3 ea k.a≠P3 eb k.a:=by
 rw[c46 h,c46 h];refine not_congr ⟨λe=>?_,λe=>by rw[e]⟩;cases h1:P3 ea k.a with
 |none=>
  cases h2:P3 eb k.a with
  |none=>rfl
  |some v=>rw[h1,h2]at e;injection e with e;cases e
 |some u=>
  cases h2:P3 eb k.a with
  |none=>rw[h1,h2]at e;injection e with e;cases e
  |some v=>
   rw[h1,h2]at e;have e:Lib.itoa u++[]=Lib.itoa v++[]:=by
    injection e with _ e
    simpa using e
   rw[(d9N (by simp[NW]) (by simp[NW]) e).1]
theorem c3g(h:P3 ev s≠none):∃v∈ev,v.n=s:=by
 unfold P3 at h;cases hf:ev.find? (λv=>decide (v.n=s))with
 |none=>rw[hf]at h;exact absurd J h
 |some v=>exact⟨v,c0D hf,by simpa using List.find?_some hf⟩
theorem d1w(h3:J9 ea=true)(h4:J9 eb=true):enR ea eb=chL [] ea [] eb:=by
 refine a57 (H8 _).1 (b6M _ _ _ _) λk=>?_;unfold enR neV;rw[(H8 _).2,a7Y G G h3 h4,D5];constructor
 .rintro ⟨v,hv,rfl⟩;obtain⟨hv,hn⟩:=a7K.1 hv;refine⟨?_,(a2v J).2 (a6B hn)⟩
  rcases J5.1 hv with hv|hv
  .exact b1h h3 _ (List.mem_map_of_mem hv)
  .exact b1h h4 _ (List.mem_map_of_mem hv)
 .rintro ⟨hk,hn⟩;by_cases h5:k.k=5
  .have hn:=(a2v h5).1 hn;have:∃v∈ea++eb,v.n=k.a:=by
    by_cases h6:P3 ea k.a=none
    .obtain ⟨v,hv,e⟩:=c3g (ev:=eb) (s:=k.a) λe=>hn (h6.trans e.symm);exact⟨v,b7e _ hv,e⟩
    .obtain ⟨v,hv,e⟩:=c3g h6;exact⟨v,a7c _ hv,e⟩
   obtain⟨v,hv,e⟩:=this;refine⟨v,a7K.2 ⟨hv,by rw[e];exact a1B hn⟩,?_⟩;rw[B5,e];exact a9E h5 (d2M hk X X)
  .exact absurd (b1d h5) hn
theorem d4N(h1:x8 fl=0)(h2:x8 fs=0)(h3:J9 ea=true)(h4:J9 eb=true):H0 (chL fl [] fs []++chL [] ea [] eb)=chL fl ea fs eb:=by
 refine a57 (H8 _).1 (b6M _ _ _ _) λk=>?_;rw[(H8 _).2,J5,a7Y h1 h2 G G,a7Y G G h3 h4,a7Y h1 h2 h3 h4];by_cases h5:k.k=5
 .rw [a2v h5,a2v h5,a2v h5];exact⟨λh=>h.elim (λh=>absurd J h.2) id,.inr⟩
 .rw [b1d (fl:=fl) (ew:=ea) h5,b1d (fl:=fs) (ew:=eb) h5];exact⟨λh=>h.elim id λh=>absurd (b1d h5) h.2,.inl⟩
theorem c6J{l m:List α}{x y:α}(hx:l[i]?=some x)(hy:m[i]?=some y)(h:l.take i=m.take i)(e:x=y):l.take (i+1)=m.take (i+1):=by
 rw[a1H,a1H,hx,hy,h,e]
theorem b29(a b:List U)(na cA:Bool)(ha:a.length<=1000000000)(σ:List b9):b8 CC 18 [(.list (a.map scv) na none),(.list (b.map scv) cA none)] σ λr aa=>r= .ret (.val (.bool (decide (a=b))))/\aa=σ:=by
 refine b8.anyw hCC pu_ pu_ (c7 (qO Tryz.func18 ?_)) σ;refine W I7 ?_;refine W I7 ?_;refine qC ?_ ?_<;>intro h1
 .have ay:¬a=b:=λe=>by subst e;simp at h1
  exact d7F
 .have hl:a.length=b.length:=sm_ h1;refine j8 hCC (α:=Nat) (λi=>[(0,(.list (a.map scv) na none)),(1,(.list (b.map scv) cA none)),(5,iv i)]) (λ_=>[]) (λi=>i<=a.length/\a.take i=b.take i) (λi=>a.length -i) 0 ⟨n_4 _,J⟩ tu_ (ai:=[]) J z8 uz_ ?_;intro i ⟨hi,hp⟩;refine b24 ?_;refine qC ?_ ?_<;>intro h2
  .have ab:i<a.length:=sm_ h2;obtain⟨x,hx,_⟩:=a3n ab;obtain⟨y,hy,_⟩:=a3n (l:=b) (i:=i) X;refine cW 9 ?_;refine a3c ?_;refine d8H ?_;refine a3c ?_;refine hY b4m ?_;refine hY a5u ?_;refine hY a90 ?_;refine W1 ?_;refine qC ?_ ?_<;>intro h3
   .have ay:¬a=b:=λe=>by
     subst e;rw[hx]at hy;simp[Option.some.inj hy]at h3
    exact d7F
   .have gg:x=y:=I h3;refine W j9 ?_;exact⟨(i+1),_,⟨X,X,c6J hx hy hp gg⟩,tu_,J⟩
  .have aF:a.length<=i:=sm_ h2;have cI:a=b:=by rw[<- R3 aF,hp,R3 X]
   refine z_9 ?_;exact⟨_,rE1,_,_,J,J,j4 (a1B cI).symm⟩
def Z7(c:UInt8):List Fi:=[⟨[97,46,115,114,99],[112,97,99,107,97,103,101,32,112,59,32,102,117,110,99,32,102,40,41,32,61,32]++[c]++[59]⟩]
theorem b4L{n:Int}{c:UInt8}(h0:x8 (Z7 c)=0)(hg:glk (A5 (Z7 c)).2.1 [97,46,115,114,99]=some ⟨[112],[],[⟨1,[102],[],[⟨1,n,0,[],[]⟩]⟩]⟩)(hx:a0q true (A5 (Z7 c)).2.2 1 [112] [102]=⟨[112],[102],1,[97,46,115,114,99],0,1⟩):a1E (Z7 c) [] ⟨1,[112],[102]⟩=[61]++a1L ⟨[112],[],[⟨1,[102],[],[⟨1,n,0,[],[]⟩]⟩]⟩ ⟨1,[102],[],[⟨1,n,0,[],[]⟩]⟩/\X1 ⟨1,[102],[],[⟨1,n,0,[],[]⟩]⟩=(Tr.n 1 n 0 [] []).txt [] 0:=by
 have bo:=c3Q h0;have hd:=(bo.src _ _ hg).dec _ b1P;refine⟨?_,c9f hd J⟩;unfold a1E R7;rw[F J,hx];show a04 _ _=_;unfold a04;rw[D G,F J];unfold c0B;rw[hg];rfl
theorem c6C:a1E (Z7 49) [] ⟨1,[112],[102]⟩≠a1E (Z7 50) [] ⟨1,[112],[102]⟩:=by
 obtain⟨h1,h2⟩:=b4L (n:=1) (c:=49) l8 l8 l8;obtain⟨h3,h4⟩:=b4L (n:=2) (c:=50) l8 l8 l8;have e1:(Tr.n 1 1 0 [] []).txt [] 0=[49]:=by kernel_rfl
 have e2:(Tr.n 1 2 0 [] []).txt [] 0=[50]:=by kernel_rfl
 rw[h1,h3];unfold a1L;rw[h2,h4,e1,e2];intro h;exact absurd h (by decide+kernel)
def L16:List Ky:=[⟨1,[112],[102]⟩,⟨4,[97,46,115,114,99],[]⟩,⟨6,[112],[]⟩,⟨7,[112],[]⟩]
theorem e0o:H0 (KU (Z7 49)++KU (Z7 50)++(([]:List Va).map B5++([]:List Va).map B5))=L16:=by kernel_rfl
theorem b2c:decide (a1E (Z7 49) [] ⟨6,[112],[]⟩=a1E (Z7 50) [] ⟨6,[112],[]⟩)=false:=by kernel_rfl
theorem c7M:decide (a1E (Z7 49) [] ⟨4,[97,46,115,114,99],[]⟩=a1E (Z7 50) [] ⟨4,[97,46,115,114,99],[]⟩)=false:=by kernel_rfl
theorem b6X:chS (Z7 49) (Z7 50)=some L16:=by
 rw[chS,a9q l8 l8 J J,chL,e0o]
 congr 1
 refine c5h.2 λk hk=>a1B ?_;simp only[L16,J0,a6A,or_false]at hk
 rcases hk with rfl|rfl|rfl|rfl
 .exact c6C
 .exact b0k c7M
 .exact b0k b2c
 .exact λh=>b0k b2c (b9Q h)
theorem d4D:chS (Z7 49) (Z7 49)=some []:=by
 rw[chS,a9q l8 l8 J J,chL]
 congr 1
 refine c3R.2 λk _=>by simp
theorem a6v(c:UInt8)(h:x8 (Z7 c)=0):a0Y (Z7 c):=a0Y.of h
theorem d5j(σ:List b9):b8 CC 38 [.agg (o4 (Z7 49) true),.agg (o4 (Z7 50) true)] σ λr τ=>r= .ret (.tup [.list (L16.map Ky.cv) true none,iv 0])/\τ=σ:=by
 have h:=a8l (Z7 49) true (Z7 50) true (a6v 49 l8) (a6v 50 l8) σ;rw[b6X]at h;exact h
theorem d4V(σ:List b9):b8 CC 45 [.agg (o4 (Z7 49) true),.agg (o4 (Z7 50) true)] σ λr τ=>r= .ret (.tup [.list ([([112]:U)].map scv) true none,iv 0])/\τ=σ:=by
 have h:=c0X (Z7 49) true (Z7 50) true (a6v 49 l8) (a6v 50 l8) (λl hl=>by rw[b6X]at hl;injection hl with hl;subst hl;decide) σ;rw[b6X]at h;exact h
theorem d3X(σ:List b9):b8 CC 38 [.agg (o4 (Z7 49) true),.agg (o4 (Z7 49) true)] σ λr τ=>r= .ret (.tup [.list (([]:List Ky).map Ky.cv) false none,iv 0])/\τ=σ:=by
 have h:=a8l (Z7 49) true (Z7 49) true (a6v 49 l8) (a6v 49 l8) σ;rw[d4D]at h;exact h
theorem c1F(σ:List b9):b8 CC 37 [] σ λr aa=>r= .ret (.val (.bool true))/\aa=σ:=by
 refine b8.anyw hCC pu_ pu_ (c7 (qO Tryz.func37 ?_)) σ;refine W e2R ?_;refine W (B1 ((Z7 49).map Fi.cv) J ⟨O,O⟩ a7I a5a a6H J J J J J J J J J) ?_;refine W e1g ?_;refine d0V ?_;refine W e2R ?_;refine W (B1 ((Z7 50).map Fi.cv) J ⟨O,O⟩ a7I a5a a6H J J J J J J J J J) ?_;refine W e1g ?_;refine d0V ?_;refine W (c4 J c3a i7 (by exact d5j _) J) ?_;refine W (c4 J Tryz.call45 i7 (by exact d4V _) J) ?_;refine W (c4 J c3a i7 (by exact d3X _) J) ?_;refine qG D4 ?_;refine b0b ?_;refine b0b ?_;refine qG (λhg=>a0u J hg J t_5 a7W J) ?_;refine b0b ?_;refine qG (λhg=>p9 J hg J J J t_5 t_3 a7y (j1 (f:=Ky.cv) (show L16[0]?=some ⟨1,[112],[102]⟩from J)) J) ?_;refine qG d1y ?_;refine qG (λhg=>B4 #[(0,1),(1,1),(2,1)] J ⟨J,J,J,O⟩ c1N t_9 J ⟨_,J⟩ (λw=>by kernel_rfl) J J) ?_;refine qG (λhg=>b5h J hg hg (xs:=[.int .i64 1,.string (str [112]),.string (str [102])]) (ys:=[.int .i64 1,.string (str [112]),.string (str [102])]) J J c1h (b3k ⟨1,[112],[102]⟩ ⟨1,[112],[102]⟩)) ?_;refine W N9 ?_;refine qG D4 ?_;refine qG (λhg=>a0u J hg J t_2 a7W J) ?_;refine b0b ?_;refine qG (λhg=>p9 J hg J J J t_2 t_0 a7y (j1 (f:=scv) (show([[112]]:List U)[0]?=some [112]from J)) J) ?_;refine qG d6Z ?_;refine qG b3t ?_;refine W N9 ?_;refine qG D4 ?_;refine qG (λhg=>a0u J hg J t_5 a7W J) ?_;refine a4k ?_;refine c6 ?_;exact⟨_,rE1,_,_,J,J,j4 (by rfl)⟩
theorem c33(fl fs:List Fi):r5 (.tup [.agg (o4 fl (gnn fl.length)),.agg (o4 fs (gnn fs.length))]):=D7 (cs:=[_,_]) ⟨S5 _ _,S5 _ _,O⟩
theorem d5T(l:List Int)(nn:Bool)(k:Nat)(aV:k<=400000000)(hl:l.length<=maxLen):b8 CC 32 [.ptr 0 0] [x9 l nn k] λr τ=>∃a:(List Fi×List Fi)×Nat,D2 1 τ r (.ret (.tup [.agg (o4 a.1.1 (gnn a.1.1.length)),.agg (o4 a.1.2 (gnn a.1.2.length))])) [x9 l nn a.2]/\(Q2 6300 a.1.1/\Q2 10020 a.1.2/\k<=a.2/\a.2<=k+8000):=by
 refine qO Tryz.func32 ?_;refine d5L ?_;refine qD (c5 J Tryz.call27 ⟨O,O⟩ (b75 l nn k X hl _ 0 J) J ?_);intro⟨fl,p⟩ ⟨hm,fj,cl⟩;dsimp only at hm fj cl⊢;refine d0V ?_;refine d0V ?_;refine qD (c5 J a7G o8 (M4 l nn p _ 0 J X hl 4 X) J ?_);intro _ _;obtain⟨dz,hn4⟩:=a2h (l:=l) (k:=p) (n:=4) X;obtain⟨n,hn⟩:∃n:Nat,Q0 l p 4=n:=⟨(Q0 l p 4).toNat,X⟩;rw[hn];have gj:n<=3:=by omega
 refine qN [x9 l nn (p+1),.box [.list [] false none],.box [.list [] false none],.box (o4 fl (gnn fl.length)),.box (o4 fl (gnn fl.length))] J ?_;refine H3 (α:=List Fi×Nat×Nat) (λx=>[(0,.ptr 0 0),(2,.ptr 1 0),(3,.ptr 2 0),(4,.ptr 3 0),(5,.ptr 4 0),(6,iv x.2.2)]) (λx=>[x9 l nn x.2.1,.box [.list [] false none],.box [.list [] false none],.box (o4 fl (gnn fl.length)),.box (o4 x.1 (gnn x.1.length))]) (λx=>x.2.2<=3/\Q2 (10020-1240*x.2.2) x.1/\k<=x.2.1/\x.2.1+1080*x.2.2<=k+8000) (λx=>x.2.2) (fl,p+1,n) ⟨gj,hm.mono Q,Q,Q⟩ tu_ J ?_;intro⟨bl,q,i⟩ _ ⟨hi,hb,bY,cN⟩;dsimp only at hi hb bY cN⊢;refine qk (qC ?_ ?_)<;> intro h1
 .have eP:1<=i:=sm_ h1;refine qD (c5 J Tryz.call28 i7 (d5p l nn q X hl (10020-1240*i) ⟨X,X⟩ bl hb _ 0 J) J ?_);intro⟨bl2,q2⟩ ⟨cy,aG,aX⟩;dsimp only at cy aG aX⊢;refine qD (j2 J O O J j3 a9H j5 J J (nb J) ?_);refine W X7 ?_;exact⟨(bl2,q2,i-1),Q,⟨Q,cy.mono Q,Q,Q⟩,⟨o0,o0,o0,o0,o0,⟨O,(by show(iv ((i:Int) -1))=iv ((i-1:Nat):Int);congr 2;omega)⟩,O⟩,J⟩
 .refine j6 ?_;refine cF [] [0,1] (tl:=[(2,[1]),(3,[])]) ?_;refine chf J a2l ?_;refine chf J a2l ?_;refine C8 ?_;refine B0 J J J (j2 J O O J j3 a9H j5 J J (nb J) ?_);refine⟨⟨a05,O⟩,?_⟩;refine b5B ?_;exact⟨_,r3 (rs:=[.cell 2 32,.cell 3 32]) (cs:=[_,_]) J ⟨a3T,a3T,O⟩ (n_5 J),⟨((fl,bl),q),a2G J U8 (.old (c33 _ _).old),hm,hb.mono X,Q,Q⟩⟩
theorem d9x(l:List Int)(nn:Bool)(k:Nat)(aV:k<=400000000)(hl:l.length<=maxLen)(σ:List b9)(q:Nat)(hq:σ[q]?=some (x9 l nn k)):b8 CC 32 [.ptr q 0] σ λr τ=>∃a:(List Fi×List Fi)×Nat,r= .ret (.tup [.agg (o4 a.1.1 (gnn a.1.1.length)),.agg (o4 a.1.2 (gnn a.1.2.length))])/\τ=σ.set q (x9 l nn a.2)/\(Q2 6300 a.1.1/\Q2 10020 a.1.2/\k<=a.2/\a.2<=k+8000):=
 a8N (c:=λa:(List Fi×List Fi)×Nat=>(.tup [.agg (o4 a.1.1 (gnn a.1.1.length)),.agg (o4 a.1.2 (gnn a.1.2.length))])) (S:=λa=>x9 l nn a.2) hCC (λa h=>by simp at h) (λ_=>c33 _ _) (λ_=>H7 _ _ _) (H7 _ _ _) J (d5T l nn k aV hl) σ q hq
noncomputable def alP(fl fs:List Fi)(ea eb:List Va):Option (List Ky):=if x8 fl=0/\x8 fs=0/\J9 ea=true/\J9 eb=true then some (chL fl ea fs eb)else none
def RvB(fl:List Fi):Prop:=∀f∈fl,f.p.length<=1000000000
def EvB(ev:List Va):Prop:=∀v∈ev,-9223372036854775808<=v.v/\v.v<=9223372036854775807
theorem b0r(h:(F6 fl ev []).isSome=true):x8 fl=0/\J9 ev=true:=by
 unfold F6 at h;split at h
 .rename_i g;exact⟨g.1,g.2.1⟩
 .cases h
theorem c9i(h:J9 ev=true):(∀v∈ev,v.n.length<=1000000000)/\ev.length<=10000:=by
 refine⟨λv hv=>by have:=B9 (b36 h v hv);omega,?_⟩;unfold J9 at h;simp at h;omega
theorem b1g:b0u fl ea fs eb=alP fl fs ea eb:=by
 unfold alP
 split
 .rename_i h;exact a9q h.1 h.2.1 h.2.2.1 h.2.2.2
 .rename_i h;unfold b0u;rw[D];rintro⟨h1,h2⟩;exact h ⟨(b0r h1).1,(b0r h2).1,(b0r h1).2,(b0r h2).2⟩
theorem b6a:((alP fl fs ea eb).getD []).length<=1000000:=by
 unfold alP
 split
 .rename_i h;have:=d5D (fl:=fl) (fs:=fs) (ev:=ea) (ew:=eb) (X5 h.1).1 (X5 h.2.1).1 (by have h:=h.2.2.1;unfold J9 at h;simp at h;omega) (by have h:=h.2.2.2;unfold J9 at h;simp at h;omega);show(chL fl ea fs eb).length<=_;omega
 .exact n_4 _
theorem c2W:chR fl fs=alP fl fs [] []:=by
 unfold chR alP;by_cases h:x8 fl=0/\x8 fs=0
 .rw [F h,F ⟨h.1,h.2,G,G⟩];exact n_8 some (d4d h.1 h.2)
 .rw [D h,D λg=>h ⟨g.1,g.2.1⟩]
theorem e0i:enO ea eb=alP [] [] ea eb:=by
 unfold enO alP;by_cases h:J9 ea=true/\J9 eb=true
 .rw [F h,F ⟨G,G,h.1,h.2⟩];exact n_8 some (d1w h.1 h.2)
 .rw [D h,D λg=>h ⟨g.2.2.1,g.2.2.2⟩]
theorem e0f:alR fl fs ea eb=alP fl fs ea eb:=by
 unfold alR;by_cases h:x8 fl=0/\x8 fs=0/\J9 ea=true/\J9 eb=true
 .rw [F h,c2W,alP,alP,F h,F ⟨h.1,h.2.1,G,G⟩,d1w h.2.2.1 h.2.2.2];exact n_8 some (d4N h.1 h.2.1 h.2.2.1 h.2.2.2)
 .rw [D h,alP,D h]
theorem kuq(h1:(F6 fl ea []).isSome=true)(h2:(F6 fs eb []).isSome=true):a0Y fl/\a0Y fs:=⟨a0Y.of (b0r h1).1,a0Y.of (b0r h2).1⟩
theorem c3L(fl:List Fi)(nn:Bool)(fs:List Fi)(ns:Bool)(p1:RvB fl)(p2:RvB fs)(ea:List Va)(na:Bool)(eb:List Va)(cA:Bool)(r1:EvB ea)(r2:EvB eb)(σ:List b9):b8 CC 34 [.agg (o4 fl nn),.agg (E7 ea na),.agg (o4 fs ns),.agg (E7 eb cA)] σ λr τ=>r= .ret (a3z (alP fl fs ea eb))/\τ=σ:=by
 have h:=c5t fl nn ea na fs ns eb cA p1 p2 r1 r2 (λh1 h2=>⟨(kuq h1 h2).1,(kuq h1 h2).2,c9i (b0r h1).2,c9i (b0r h2).2⟩) σ;rwa[b1g]at h
theorem b81(fl:List Fi)(nn:Bool)(fs:List Fi)(ns:Bool)(p1:RvB fl)(p2:RvB fs)(σ:List b9):b8 CC 38 [.agg (o4 fl nn),.agg (o4 fs ns)] σ λr τ=>r= .ret (a3z (alP fl fs [] []))/\τ=σ:=by
 have h:=a3d fl nn fs ns p1 p2 (λh1 h2=>kuq h1 h2) σ;unfold chS at h;rwa[b1g]at h
theorem b5X(fl:List Fi)(nn:Bool)(fs:List Fi)(ns:Bool)(p1:RvB fl)(p2:RvB fs)(σ:List b9):b8 CC 45 [.agg (o4 fl nn),.agg (o4 fs ns)] σ λr τ=>r= .ret (pkR (alP fl fs [] []))/\τ=σ:=by
 have h:=a8X fl nn fs ns p1 p2 (λh1 h2=>kuq h1 h2) (λl hl=>by unfold chS at hl;rw[b1g]at hl;have:=b6a (fl:=fl) (fs:=fs) (ea:=[]) (eb:=[]);rw[hl]at this;exact this) σ;unfold chS at h;rwa[b1g]at h
theorem a9o(ea:List Va)(na:Bool)(eb:List Va)(cA:Bool)(r1:EvB ea)(r2:EvB eb)(σ:List b9):b8 CC 42 [.agg (E7 ea na),.agg (E7 eb cA)] σ λr τ=>r= .ret (a3z (alP [] [] ea eb))/\τ=σ:=by
 refine b8.anyw (args:=[_,_]) hCC ⟨P6 _ _,P6 _ _,O⟩ (a1e _) ?_ σ;refine c7 (qO Tryz.func42 ?_);refine z_7 ?_;refine W (c4 J d1R ⟨O,O⟩ (V5 ea na _) J) ?_;refine qG d3N ?_;refine qG (λhg=>c4 J d1R ⟨hg,O⟩ (V5 eb cA _) J) ?_;refine a9R ?_;refine qC ?_ ?_<;>intro h1
 .have hc:alP [] [] ea eb=none:=D λh=>by simp[h.2.2.1,h.2.2.2]at h1
  refine c6 ?_;exact⟨_,r3 (rs:=[.tmp 4,.tmp 5]) (cs:=[_,_]) J T8 (n_5 J),_,_,J,J,(by rw[hc];exact .tups ⟨.old a7A,.old (.val _),O⟩)⟩
 .refine W e1z ?_;refine W e1z ?_;refine W (c4 J c8X a1x (c3L [] false [] false (λf hf=>by cases hf) (λf hf=>by cases hf) ea na eb cA r1 r2 _) J) ?_;exact d8P
theorem b6z(fl:List Fi)(nn:Bool)(fs:List Fi)(ns:Bool)(σ:List b9):b8 CC 41 [.agg (o4 fl nn),.agg (o4 fs ns)] σ λr τ=>r= .ret (a3z (alP fl fs [] []))/\τ=σ:=by
 have h:=a9W fl nn fs ns (λh=>W6.of h) (λh=>W6.of h) [];rw[c2W]at h;exact(F5 (res:=λ_:Unit=>.ret (a3z (alP fl fs [] []))) (P:=λ_=>True) hCC (λa h=>by simp at h;rcases h with rfl|rfl;exact I3 _ _;exact I3 _ _) (h.mono λr τ ⟨_,h1,h2,_⟩=>⟨(),by
  rw[h1,h2];exact .ret (.tups ⟨.tok (λr hr c hc=>(C0 (f:=Ky.cv) (λ_=>O0.all ⟨.val _,.val _,.val _,O⟩) _) r hr c hc),.old (.val _),O⟩),O⟩) (λ_ _=>a1e _) σ).mono λr τ ⟨_,h1,h2,_⟩=>⟨h1,h2⟩
theorem a7O(ea:List Va)(na:Bool)(eb:List Va)(cA:Bool)(σ:List b9):b8 CC 43 [.agg (E7 ea na),.agg (E7 eb cA)] σ λr τ=>r= .ret (a3z (alP [] [] ea eb))/\τ=σ:=by
 have h:=a3P ea na eb cA σ;rwa[e0i]at h
theorem c8x(fl:List Fi)(nn:Bool)(fs:List Fi)(ns:Bool)(ea:List Va)(na:Bool)(eb:List Va)(cA:Bool)(σ:List b9):b8 CC 44 [.agg (o4 fl nn),.agg (E7 ea na),.agg (o4 fs ns),.agg (E7 eb cA)] σ λr τ=>r= .ret (a3z (alP fl fs ea eb))/\τ=σ:=by
 have h:=d6s fl nn fs ns (λh=>W6.of h) (λh=>W6.of h) ea na eb cA σ;rwa[e0f]at h
theorem b3y(fl:List Fi)(nn:Bool)(fs:List Fi)(ns:Bool)(σ:List b9):b8 CC 46 [.agg (o4 fl nn),.agg (o4 fs ns)] σ λr τ=>r= .ret (pkR (alP fl fs [] []))/\τ=σ:=by
 have h:=b54 fl nn fs ns (λh=>W6.of h) (λh=>W6.of h) σ;rwa[c2W]at h
theorem b6W(h:b3w ev):EvB ev:=λv hv=>by
 have:=c4i (b0P.1 h.valid).2 v hv;omega
theorem d9P{b:Bool}(h:b=true):Cls n σ (.val (.bool b)) (.val (.bool true)):=by rw[h];exact .old (.val _)
theorem d4c(l:List Ky):(pkF l).length<=l.length:=by
 unfold pkF;rw[L7];exact a9M _ _
theorem a7t(l:List Int)(nn:Bool)(hl:l.length<=maxLen)(rl:List Fi)(rn:Bool)(cq:RvB rl)(re:List Va)(en:Bool)(hre:EvB re):b8 CC 9 [.list (l.map icv) nn none,.agg (o4 rl rn),.agg (E7 re en)] [] λr τ=>∃_:Unit,a1t 0 τ r (.ret (.val (.bool true)))/\True:=by
 refine cO Tryz.func9 ?_;refine qs 4 ?_;refine z_7 ?_;refine W (B4 #[(0,1),(1,1)] J ⟨O,O⟩ d1J Tryz.zeroValue29 J ⟨_,J⟩ (λw=>by kernel_rfl) J J) ?_;refine qD (I0 J O j3 j5 ?_);refine qD (c5 J Tryz.call32 ⟨O,O⟩ (d9x l nn 0 X hl _ 2 J) J ?_);intro⟨⟨fl,fs⟩,p⟩ ⟨bZ,ce,fj,cl⟩;dsimp only at bZ ce fj cl⊢;refine qD (p7 J c1B J j5 ?_);refine d0V ?_;refine qD (j2 J O O J j3 a9H j5 J J (nb J) ?_);refine qD (c5 J Tryz.call33 ⟨O,O⟩ (a5M l nn p X hl _ 2 J) J ?_);intro⟨ev,p2⟩ ⟨fK,bY,cN⟩;dsimp only at fK bY cN⊢;refine qD (c5 J Tryz.call33 ⟨O,O⟩ (a5M l nn p2 X hl _ 2 J) J ?_);intro⟨ew,p3⟩ ⟨he2,aG,aX⟩;dsimp only at he2 aG aX⊢;refine d8I ?_;refine qD (j2 J O O J j3 b6r j5 J J (nb J) ?_);refine qD (j2 J O O J j3 b6r j5 J J (nb J) ?_);refine N6 (α:=List Fi×Bool) (λ_=>[(5,.ptr 1 0),(7,.ptr 2 0),(8,.ptr 3 0),(9,.ptr 4 0),(10,.ptr 5 0),(11,.ptr 6 0)]) (λa=>[.box (o4 rl rn),.box (E7 re en),x9 l nn (p3+1),.box (o4 fl (gnn fl.length)),.box (o4 a.1 a.2),.box (E7 ev (gnn ev.length)),.box (E7 ew (gnn ew.length))]) (λa=>RvB a.1) ?_ ?_
 .
  refine qk (qD (c5 J b0M a2N (J7 l nn p3 _ 2 J X hl 1 6 X) J ?_));intro _ _;refine qC ?_ ?_<;>intro h1
  .refine qD (j2 J O O J j3 a9H j5 J J (nb J) ?_);exact⟨(rl,rn),cq,tu_,J⟩
  .exact ⟨(fs,gnn fs.length),ce.plen,tu_,J⟩
 .intro ⟨gl,gn⟩ _ hgl;dsimp only at hgl⊢;refine N6 (α:=List Va×Bool) (λ_=>[(8,.ptr 3 0),(9,.ptr 4 0),(10,.ptr 5 0),(11,.ptr 6 0)]) (λa=>[.box (o4 rl rn),.box (E7 re en),x9 l nn (p3+2),.box (o4 fl (gnn fl.length)),.box (o4 gl gn),.box (E7 ev (gnn ev.length)),.box (E7 a.1 a.2)]) (λa=>EvB a.1) ?_ ?_
  .
   refine qk (qD (c5 J b0M a2N (J7 l nn (p3+1) _ 2 J X hl 1 6 X) J ?_));intro _ _;refine qC ?_ ?_<;>intro h2
   .refine qD (j2 J O O J j3 b6r j5 J J (nb J) ?_);exact⟨(re,en),hre,tu_,J⟩
   .exact ⟨(ew,gnn ew.length),(b6W he2),tu_,J⟩
  .intro ⟨we,wn⟩ _ hwe;dsimp only at hwe⊢;refine qk (W (c4 J c3a i7 (b81 fl (gnn fl.length) gl gn bZ.plen hgl _) J) ?_);refine W (c4 J Tryz.call41 i7 (b6z fl (gnn fl.length) gl gn _) J) ?_;refine a1y ?_;refine qG e0Z ?_;refine a9R ?_;refine cC ?_ ?_<;>intro h3
   .exfalso;simp at h3
   .refine qk (W (c4 J Tryz.call42 i7 (a9o ev (gnn ev.length) we wn (b6W fK) hwe _) J) ?_);refine W (c4 J Tryz.call43 i7 (a7O ev (gnn ev.length) we wn _) J) ?_;refine a1y ?_;refine qG e0Z ?_;refine a9R ?_;refine cC ?_ ?_<;>intro h4
    .exfalso;simp at h4
    .refine qk (W (c4 J c8X a1x (c3L fl (gnn fl.length) gl gn bZ.plen hgl ev (gnn ev.length) we wn (b6W fK) hwe _) J) ?_);refine W (c4 J Tryz.call44 a1x (c8x fl (gnn fl.length) gl gn ev (gnn ev.length) we wn _) J) ?_;refine a1y ?_;refine qG e0Z ?_;refine a9R ?_;refine cC ?_ ?_<;>intro h5
     .exfalso;simp at h5
     .refine qk (W (c4 J Tryz.call45 i7 (b5X fl (gnn fl.length) gl gn bZ.plen hgl _) J) ?_);refine W (c4 J Tryz.call46 i7 (b3y fl (gnn fl.length) gl gn _) J) ?_;refine a1y ?_;refine qG (λhg=>c4 J Tryz.call18 ⟨hg,hg,O⟩ (b29 _ _ _ _ (a82 (d4c _) (a82 b6a G)) _) J) ?_;refine W N9 ?_;refine qG (λhg=>c4 J Tryz.call37 trivial (c1F _) J) ?_;refine b0D ?_;exact⟨_,rE1,(by exact⟨(),.ret (d9P H),O⟩)⟩
theorem a72(l:List Int)(nn:Bool)(hl:l.length<=maxLen)(rl:List Fi)(rn:Bool)(cq:RvB rl)(re:List Va)(en:Bool)(hre:EvB re)(σ:List b9):b8 CC 9 [.list (l.map icv) nn none,.agg (o4 rl rn),.agg (E7 re en)] σ λr τ=>r= .ret (.val (.bool true))/\τ=σ:=
 (F5 (res:=λ_:Unit=>.ret (.val (.bool true))) (P:=λ_=>True) hCC (λa h=>by simp at h;rcases h with rfl|rfl|rfl;exact P5 _ _;exact I3 _ _;exact P6 _ _) (a7t l nn hl rl rn cq re en hre) (λ_ _=>.val _) σ).mono λr τ ⟨_,h1,h2,_⟩=>⟨h1,h2⟩
end Go.Proofs.YtlppbmfecjabeaaGreatDoor
