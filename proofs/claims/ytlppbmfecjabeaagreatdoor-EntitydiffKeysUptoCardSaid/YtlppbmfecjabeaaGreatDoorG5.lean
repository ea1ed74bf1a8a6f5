/- Part 5 of what the claim needs: values without addresses, and what the program's functions do with them. -/
import Derived.Shelf.LaysM
import Derived.Shelf.Strconv.Itoa3
import Derived.Test.YtlppbmfecjabeaaGreatDoorG4
set_option linter.all false
set_option maxRecDepth 100000
set_option maxHeartbeats 4000000
namespace Go.Proofs.YtlppbmfecjabeaaGreatDoor
open Go Go.Cl
variable{T:TypeId}{rest:List CV}{n q k:Nat}{l s:U}{σ:List b9}{b:List Ex}{R:Nat->Nat->Prop}{a:Bool}
mutual
def Tr.deps:Nat->Tr->List Nat
 |d,.n k _ _ _ ch=>a6S (if k=4 then d else d+1) ch++[d]
def a6S:Nat->List Tr->List Nat
 |_,[]=>[]
 |d,t::l=>t.deps d++a6S d l
end
mutual
theorem Tr.deps_len:∀(t:Tr) (d:Nat),(t.deps d).length=t.size
 | .n k u o nm ch,d=>by rw[Tr.deps,Tr.size,n_6,a12 ch];rfl
theorem a12:∀(l:List Tr) (d:Nat),(a6S d l).length=A0 l
 | [],_=>rfl
 |t::l,d=>by rw[a6S,A0,n_6,Tr.deps_len t d,a12 l _]
end
theorem Tr.deps_last(t:Tr)(d:Nat):(t.deps d)[t.size -1]?=some d:=by
 cases t with
 |n k u o nm ch=>
  rw[Tr.deps,Tr.size,c3D,a1v (by rw[a12];exact n_7 _),a12];simp
structure d9k(E:List Ex)(Jf:List Nat)(d j:Nat)(x:Ex)(e:Nat):Prop where
 he:E[j]?=some x
 hd:Jf[j]?=some e
 lo:d<=e
 hi:e<=32
 ch:∀a∈x.args,∃r:Nat,a=r/\Jf[r]?=some (if x.k=4 then e else e+1)
theorem b44{d:Nat}:∀(l:List Tr) (s:Nat) (D0 D1:List Nat),D0.length=s->∀a∈o7 l s,∃r:Nat,a=r/\(D0++a6S d l++D1)[r]?=some d
 | [],_,_,_,_,a,h=>by cases h
 |t::l,s,D0,D1,hD,a,h=>by
  rw[o7]at h;have hp:=t.size_pos
  rcases J0.1 h with rfl|h
  .refine ⟨s+t.size -1,J,?_⟩;rw[a6S,C7,C7,a1v X,hD,show s+t.size -1-s=t.size -1 by omega,R8 (by rw[t.deps_len];omega)];exact t.deps_last d
  .have:=b44 (d:=d) l (s+t.size) (D0++t.deps d) D1 (by rw[n_6,t.deps_len,hD]) a h;rw[a6S,<- C7 D0];exact this
mutual
theorem c8A{np:Nat}:∀(t:Tr) {d:Nat} (s:Nat) (E0 E1:List Ex) (D0 D1:List Nat),E0.length=s->D0.length=s->t.wf np d->∀j,s<=j->j<s+t.size->∃x e,d9k (E0++t.flat s++E1) (D0++t.deps d++D1) d j x e
 | .n k u o nm ch,d,s,E0,E1,D0,D1,hE,hD,hw,j,h1,h2=>by
  rw[Tr.wf]at hw;rw[Tr.size]at h2;rw[Tr.flat,Tr.deps];by_cases hj:j<s+A0 ch
  .obtain ⟨x,e,g⟩:=c4X ch s E0 (⟨k,u,o,nm,o7 ch s⟩::E1) D0 (d::D1) hE hD hw.2.2 j h1 hj;refine⟨x,e,⟨by simpa[C7]using g.he,by simpa[C7]using g.hd,?_,g.hi,λa ha=>by simpa[C7]using g.ch a ha⟩⟩;have:=g.lo;split at this<;>omega
  .have hj:j=s+A0 ch:=by omega
   refine⟨⟨k,u,o,nm,o7 ch s⟩,d,?_,?_,n_7 _,hw.1,λa ha=>?_⟩
   .rw [<- C7,C7,a1v (by rw[n_6,T3];omega),n_6,T3,hE,hj,b0o];rfl
   .rw [<- C7,C7,a1v (by rw[n_6,a12];omega),n_6,a12,hD,hj,b0o];rfl
   .have:=b44 (d:=if k=4 then d else d+1) ch s D0 (d::D1) hD a ha;simpa[C7]using this
theorem c4X{np:Nat}:∀(l:List Tr) {d:Nat} (s:Nat) (E0 E1:List Ex) (D0 D1:List Nat),E0.length=s->D0.length=s->wfL np d l->∀j,s<=j->j<s+A0 l->∃x e,d9k (E0++K9 l s++E1) (D0++a6S d l++D1) d j x e
 | [],_,s,_,_,_,_,_,_,_,j,h1,h2=>by rw[A0]at h2;omega
 |t::l,d,s,E0,E1,D0,D1,hE,hD,hw,j,h1,h2=>by
  rw[wfL]at hw;rw[A0]at h2;rw[K9,a6S];by_cases hj:j<s+t.size
  .have:=c8A t s E0 (K9 l (s+t.size)++E1) D0 (a6S d l++D1) hE hD hw.1 j h1 hj;simpa[C7]using this
  .have:=c4X l (s+t.size) (E0++t.flat s) E1 (D0++t.deps d) D1 (by rw[n_6,t.flat_len,hE]) (by rw[n_6,t.deps_len,hD]) hw.2 j X X;simpa[C7]using this
end
theorem d6y{np d:Nat}{t:Tr}(hw:t.wf np d){j:Nat}(h:j<t.size):∃x e,d9k (t.flat 0) (t.deps d) d j x e:=by
 have:=c8A t 0 [] [] [] [] J J hw j (n_4 _) X;simpa using this
structure Bnd(arr:List Int)(Jf:List Nat):Prop where
 len:arr.length=Jf.length
 le:∀(j e:Nat),Jf[j]?=some e->∃v:Int,arr[j]?=some v/\0<=v/\v<=e
theorem Bnd.set{arr:List Int}{Jf:List Nat}(h:Bnd arr Jf){r e:Nat}{v:Int}(hr:Jf[r]?=some e)(h0:0<=v)(h1:v<=e):Bnd (arr.set r v) Jf:=by
 refine⟨by rw[List.length_set];exact h.len,λj e' hj=>?_⟩;by_cases hjr:r=j
 .subst hjr;rw[hr]at hj;injection hj with hj
  subst hj;have hl:=(n_3.1 hr).1;exact⟨v,by rw[b0L (by rw[h.len];exact hl)],h0,h1⟩
 .obtain ⟨u,g1,g2⟩:=h.le j e' hj;exact⟨u,by rw[a2M hjr];exact g1,g2⟩
theorem Bnd.zero(Jf:List Nat):Bnd (List.replicate Jf.length 0) Jf:=by
 refine⟨List.length_replicate,λj e hj=>⟨0,?_,b33 _,X⟩⟩;have hl:=(n_3.1 hj).1;rw[d1M,F hl]
theorem Src.old(x:Src)(n:Nat):I6 n (.box x.cells):=z6 ⟨.val _,A6 _ _ _,U6 _ _ _,O⟩
def c0R(d:De):Sn:=⟨d.k,d.name⟩
theorem d2m{l:List De}(h:(l.map λd=>(d.k,d.name)).Nodup):(l.map c0R).Nodup:=by
 have e:l.map c0R=(l.map λd=>(d.k,d.name)).map λp=>(⟨p.1,p.2⟩:Sn):=by rw[List.map_map];rfl
 rw[e];refine List.Pairwise.map _ (λa b cI he=>?_) h;injection he with h1 h2
 exact cI (Prod.ext h1 h2)
theorem c6q(x:Src)(h:a10 x)(σ:List b9):b8 CC 244 [.agg x.cells] σ λr aa=>r= .ret (.val (.bool false))/\aa=σ:=by
 refine an_ Tryz.func244 ?_;refine b58 ?_;refine cY a5X ?_;refine a7D ?_;refine cY (j7 J O J a7h J a2H G) ?_;refine cY a5L ?_;refine cY I7 ?_;refine cY a0d ?_;refine cY A8 ?_;refine cG c25 ?_;refine cG c49 ?_;refine cG c4q ?_;refine cG a6P ?_;refine cY S6 ?_;refine w9 ?_;refine cC ?_ ?_<;>intro h1
 .exfalso;have:=h.impl;have:=h.decl;simp at h1;omega
 .have bm:=h.impl;have eN:=h.decl;refine c7u ?_;refine z_0 ?_;refine cY c3K ?_;refine cY c5k ?_;refine cY a4S ?_;refine b4H ?_;refine j8 hCC (α:=Nat) (λi=>[(20,(.list (x.decls.map De.cv) (gnn x.decls.length) none)),(21,iv x.decls.length),(22,iv i)]) (λ_=>[.box x.cells]) (λi=>i<=x.decls.length) (λi=>x.decls.length -i) 0 (n_4 _) tu_ (ai:=[]) J z8 uz_ ?_;intro i hi;refine b13 ?_;refine cC ?_ ?_<;>intro h2
  .have ab:(i:Int)<x.decls.length:=I h2;obtain⟨d,hd⟩:=gx_ x.decls i;have hg:=h.dec d (n_2 hd);have ba:=hg.parl;have hb256:=hg.blen;obtain⟨t,fu,hwf⟩:=hg.tree;have hbl:d.body.length=t.size:=by rw[fu,t.flat_len]
   have hdp:(t.deps 1).length=d.body.length:=by rw[t.deps_len,hbl]
   have htp:=t.size_pos;refine a8C ?_;refine z_0 ?_;refine cY c98 ?_;refine cY (X3 J O J c4B a54 (nb J)) ?_;refine cD (p7 J b1V J j5 ?_);refine cD (j2 J O O J j3 a54 j5 J J (nb J) ?_);refine a7D ?_;refine b7P ?_;refine cY a0d ?_;refine cY A8 ?_;refine cG b8F ?_;refine cG b40 ?_;refine cG b8V ?_;refine cG a6P ?_;refine cY S6 ?_;refine w9 ?_;refine cC ?_ ?_<;>intro h3
   .exfalso;simp at h3;omega
   .refine C2 ?_;refine z_0 ?_;refine b9s ?_;refine cD (c2R J O O J J (n:=d.body.length) (c:=d.body.length) J J t_6 t_1 c1J t_8 J (a4h J) J X X (by have hb:Tryz.t3.bytes=8:=J;rw[hb];omega) ?_);refine z_5 ?_;refine L5 [.box x.cells,.box d.cells,.vec 1 ((List.replicate d.body.length 0).map icv)] (by simp[List.map_replicate];exact⟨J,.inr J⟩) ?_;refine z_0 ?_;refine b9s ?_;refine cY X7 ?_;refine z_5 ?_;refine a1A ?_;refine j8 hCC (α:=Nat×List Int) (λy=>[(4,.ptr 1 0),(5,.vec 2 0 d.body.length),(6,(iv ((y.1:Int) -1))),(20,(.list (x.decls.map De.cv) (gnn x.decls.length) none)),(21,iv x.decls.length),(22,iv i)]) (λy=>[.box x.cells,.box d.cells,.vec 1 (y.2.map icv)]) (λy=>y.1<=d.body.length/\Bnd y.2 (t.deps 1)) (λy=>y.1) (d.body.length,List.replicate d.body.length 0) ⟨n_7 _,by rw[<- hdp];exact Bnd.zero _⟩ tu_ (ai:=[]) J z8 uz_ ?_;intro⟨m,arr⟩ ⟨hm,eR⟩;dsimp only at hm eR⊢;refine G4 ?_;refine z_4 ?_;refine b0Z ?_;refine cC ?_ ?_<;>intro h4
    .have hmp:(0:Int)<=(m:Int) -1:=I h4;obtain⟨m,rfl⟩:∃m',m=m'+1:=⟨m-1,X⟩;have hmi:((m+1:Nat):Int) -1=(m:Int):=by omega
     obtain⟨y,e,eU⟩:=d6y hwf (j:=m) X;obtain⟨x',z',ch',cw⟩:=b7k hwf (j:=m) X;have hyx:x'=y:=Option.some.inj (cw.e.symm.trans eU.he);have ap:y.args.length<=256:=by
      rw[<- hyx,cw.args,U2];have:=a3I ch';have:=cw.size;omega
     have fK:=eU.lo;have he32:=eU.hi;obtain⟨v,hv,hv0,eu⟩:=eR.le _ _ eU.hd;have fR:=eR.len;refine a8C ?_;refine S3 hCC (α:=List Int) (λa=>[(4,.ptr 1 0),(5,.vec 2 0 d.body.length),(6,(iv (((m+1:Nat):Int) -1))),(20,(.list (x.decls.map De.cv) (gnn x.decls.length) none)),(21,iv x.decls.length),(22,iv i)]) (λa=>[.box x.cells,.box d.cells,.vec 1 (a.map icv)]) (λa=>Bnd a (t.deps 1)) z8 uz_ ?_ ?_
     .
      refine a78 ?_;refine cY a4N ?_;refine cY d2F ?_;refine b0Z ?_;refine cC ?_ ?_<;>intro h5
      .refine a42 ?_;refine cY A8 ?_;refine cY a4N ?_;refine cD (M8 ((arr.set m 1).map icv) J O J J j3 t_1 (.inl J) J (by rw[hmi];simpa using j1 (f:=icv) hv) J (nb J) (by rw[hmi];simp only[K0,a2L];exact a7B _ _ _) J ?_);refine w9 ?_;exact⟨(arr.set m 1),_,(eR.set eU.hd G X),tu_,J⟩
      .refine C2 ?_;exact⟨arr,_,eR,tu_,J⟩
     .intro arr eR;obtain⟨v,hv,hv0,eu⟩:=eR.le _ _ eU.hd;have fR:=eR.len;refine G4 ?_;refine a78 ?_;refine cY a4N ?_;refine cY d2F ?_;refine b0Z ?_;refine cC ?_ ?_<;>intro h6
      .exfalso;simp at h6;omega
      .refine C2 ?_;refine z_0 ?_;refine c9l ?_;refine cY A8 ?_;refine cY e2J ?_;refine cY (a3Y J O J a68 J b9t G) ?_;refine cY (a1f J O J c0E J) ?_;refine cY a1z ?_;refine b4H ?_;refine j8 hCC (α:=Nat×List Int) (λz=>[(4,.ptr 1 0),(5,.vec 2 0 d.body.length),(6,(iv (((m+1:Nat):Int) -1))),(20,(.list (x.decls.map De.cv) (gnn x.decls.length) none)),(21,iv x.decls.length),(22,iv i),(66,(.list (y.args.map icv) (gnn y.args.length) none)),(67,iv y.args.length),(68,iv z.1)]) (λz=>[.box x.cells,.box d.cells,.vec 1 (z.2.map icv)]) (λz=>z.1<=y.args.length/\Bnd z.2 (t.deps 1)) (λz=>y.args.length -z.1) (0,arr) ⟨n_4 _,eR⟩ tu_ (ai:=[]) J z8 uz_ ?_;intro⟨p,arr⟩ ⟨hp,eR⟩;dsimp only at hp eR⊢;refine b13 ?_;refine cC ?_ ?_<;>intro h7
       .have hpt:(p:Int)<y.args.length:=I h7;obtain⟨a,ha⟩:=gx_ y.args p;obtain⟨r,rfl,hr⟩:=eU.ch a (n_2 ha);obtain⟨v,hv,hv0,eu⟩:=eR.le _ _ eU.hd;have fR:=eR.len;have cq:=(n_3.1 hr).1;obtain⟨v2,cE,_⟩:=eR.le _ _ hr;have hve:v<=((if y.k=4 then e else e+1:Nat):Int):=by split<;>omega
        have hb1:=eR.set hr hv0 hve;have aq:(arr.set r v)[r]?=some v:=by rw[b0L X]
        refine a8C ?_;refine z_0 ?_;refine cY (p9 J O O J J t_6 t_1 X (j1 ha) J) ?_;refine cY a7U ?_;refine z_5 ?_;refine a78 ?_;refine cY A8 ?_;refine cY A8 ?_;refine cY a4N ?_;refine cY d2F ?_;refine cY a4N ?_;refine cD (M8 ((arr.set r v).map icv) J O O J j3 t_1 (.inl J) J (by simpa using j1 (f:=icv) cE) J (nb J) (by simp only[K0,a2L];exact a7B _ _ _) J ?_);refine b2t ?_;refine c9l ?_;refine cY A8 ?_;refine cY e2J ?_;refine cY (a3Y J O J a68 J t_1 G) ?_;refine cY a7U ?_;refine b0Z ?_;refine cC ?_ ?_<;>intro h8
        .have u8:¬y.k=4:=I h8;rw[D u8]at hr;refine a42 ?_;refine cY A8 ?_;refine cY a4N ?_;refine cY (P8 J O J a2K J (by simpa using j1 (f:=icv) aq) J) ?_;refine cY j9 ?_;refine cY a4N ?_;refine cD (M8 ((arr.set r (v+1)).map icv) J O O J j3 t_1 (.inl J) J (by simpa using j1 (f:=icv) aq) J (nb J) (by simp only[K0,a2L];refine(a7B _ _ _).trans ?_;rw[List.set_set]) J ?_);refine w9 ?_;refine a8Q ?_;exact⟨(p+1,arr.set r (v+1)),_,⟨Q,Q,eR.set hr X X⟩,tu_,J⟩
        .refine C2 ?_;refine a8Q ?_;exact⟨(p+1,arr.set r v),_,⟨Q,Q,hb1⟩,tu_,J⟩
       .refine j6 ?_;refine a42 ?_;refine cY X7 ?_;refine z_5 ?_;exact⟨(m,arr),_,⟨Q,Q,eR⟩,⟨o0,o0,⟨O,(n_8 (λz:Int=>(iv z)) Q)⟩,o0,o0,o0,O⟩,J⟩
    .refine j6 ?_;exact c9P
  .refine j6 ?_;refine z_0 ?_;refine b2H ?_;exact c4f
theorem c2L(x:Src)(h:a10 x)(σ:List b9):b8 CC 243 [.agg x.cells] σ λr aa=>r= .ret (.val (.bool false))/\aa=σ:=by
 refine b8.anyw hCC pu_ pu_ (c7 (qO Tryz.func243 ?_)) σ;refine d1l ?_;refine A2 hCC 1 J (α:=Nat×List Sn) (λy=>[(1,.ptr 0 0),(3,(.list (y.2.map Sn.cv) (gnn y.2.length) (C3 y.2.length 1))),(7,(.list (x.decls.map De.cv) (gnn x.decls.length) none)),(8,iv x.decls.length),(9,iv y.1)]) (λy=>[.box x.cells,o5 y.2.length]) (λy=>y.1<=x.decls.length/\y.2=(x.decls.take y.1).map c0R) (λy=>x.decls.length -y.1) ⟨(0,[]),[0,9],⟨n_4 _,J⟩,⟨J,J⟩,ut_,uq_⟩ ?_;intro⟨i,l⟩ ⟨hi,hl⟩;dsimp only at hi hl⊢;have eN:=h.decl;have gr:l.length=i:=by rw[hl,L7,a4Y];omega
 refine qk (qC ?_ ?_)<;> intro h1
 .have ab:(i:Int)<x.decls.length:=I h1;obtain⟨d,hd⟩:=gx_ x.decls i;have hg:=h.dec d (n_2 hd);have eO:=X6 l (c0R d);refine b1Z ?_;refine W (c4 J Tryz.call282 ⟨O,O⟩ (a98 d.params _ (by have:=hg.parl;omega) hg.nod _) J) ?_;refine qC ?_ ?_<;>intro h2
  .cases h2
  .refine W (B4 #[(0,1),(1,1)] J i7 Tryz.runUnderlying305 c4M J ⟨_,J⟩ (λw=>by kernel_rfl) J J) ?_;refine W (B1 [Sn.cv (c0R d)] J ⟨O,O⟩ c2U b6s c4M J J J J J J J J J) ?_;refine qD (A4 J O O J H q_5 c2U b6s Tryz.typeInfo305 c4M J (.inr J) K2 (by have hb:Tryz.t305.bytes=24:=J;rw[hb];first|omega|(simp;done)|(simp;omega)) B7 ((l++[c0R d]).map Sn.cv) (l++[c0R d]).length H H ?_);refine W j9 ?_;exact⟨(i+1,l++[c0R d]),[0,3],⟨Q,Q,by rw[hl,a1H,hd,a3j];rfl⟩,⟨J,J⟩,ut_,uq_⟩
 .have bF:i=x.decls.length:=sm_ h1;rw[bF,a6K]at hl;have bm:=h.impl;refine j6 ?_;refine W (c4 J c0k i7 (a0C x.imports _ x.pkg X _) J) ?_;refine d2i ?_;refine qG (λhg=>c4 J Tryz.call282 ⟨hg,O⟩ (a98 x.imports _ X h.impn _) J) ?_;refine W S6 ?_;refine qG D4 ?_;refine qG (λhg=>c4 J Tryz.call283 ⟨hg,O⟩ (c15 l _ X (by rw[hl];exact d2m h.decn) _) J) ?_;refine W S6 ?_;refine c6 ?_;exact⟨_,rE1,_,_,J,J,j4 (by simp[h.impp])⟩
theorem b2f(x:Src)(h:a10 x)(σ:List b9):b8 CC 198 [.agg x.cells] σ λr aa=>r= .ret (iv (0))/\aa=σ:=by
 refine b8.anyw hCC pu_ pu_ (c7 (qO Tryz.func198 ?_)) σ;refine qD (I0 J O j3 j5 ?_);refine W (c4 J Tryz.call242 ⟨O,O⟩ (b8K x h _) J) ?_;refine qC ?_ ?_<;>intro h1
 .cases h1
 .refine W (c4 J Tryz.call243 ⟨O,O⟩ (c2L x h _) J) ?_;refine qC ?_ ?_<;>intro h2
  .cases h2
  .refine W (c4 J Tryz.call244 ⟨O,O⟩ (c6q x h _) J) ?_;refine qC ?_ ?_<;>intro h3
   .cases h3
   .exact c1f
theorem b9n(s:U)(a:Nat)(ks:List Int):sub s a (A9 s a ks)=(s.drop a).takeWhile (inK ks):=by
 unfold sub A9;rw[List.drop_take,d0i];have h:=List.takeWhile_prefix (inK ks) (l:=s.drop a);exact(List.prefix_iff_eq_take.1 h).symm
theorem c6I{a:Nat}{b:UInt8}(hb:s[a]?=some b)(hk:l9 b.toNat=1)(hl:¬24<A9 s a [1,2,3] -a):C4 (sub s a (A9 s a [1,2,3]))=true:=by
 have ak:(sub s a (A9 s a [1,2,3])).length=A9 s a [1,2,3] -a:=by
  rw[b9n];unfold A9;omega
 rw[b9n]at ak⊢;obtain⟨ab,rfl⟩:=n_3.1 hb;have bv:((s.drop a).takeWhile (inK [1,2,3])).all (inK [1,2,3])=true:=a40.2 λc hc=>a2e hc;rw[R0 ab,b0d,F (by simp[inK,hk])]at ak bv⊢;unfold C4;simp only[T7,a1G];exact⟨⟨X,hk⟩,bv⟩
theorem d5c{a:Nat}{b:UInt8}(hb:s[a]?=some b):((F0 s a b).1.k=1->C4 (F0 s a b).1.t=true)/\(F0 s a b).1.n<=9007199254740992:=by
 have z:((⟨0,[],0,0⟩:Tok).k=1->C4 (⟨0,[],0,0⟩:Tok).t=true)/\(⟨0,[],0,0⟩:Tok).n<=9007199254740992:=⟨λh=>absurd h G,G⟩;unfold F0
 split
 .rename_i hk
  split
  .exact z
  .rename_i hl;exact⟨λ_=>c6I hb hk hl,show(0:Int)<=9007199254740992 by decide⟩
 .split
  .split
   .exact z
   .rename_i hl;exact⟨λh=>absurd h (show ¬(2:Int)=1 by decide),show a44 _<=9007199254740992 by omega⟩
  .split
   .split
    .exact z
    .exact ⟨λh=>absurd h (show ¬(3:Int)=1 by decide),show(0:Int)<=9007199254740992 by decide⟩
   .split
    .split
     .exact ⟨λh=>absurd h (show ¬(4:Int)=1 by decide),show(0:Int)<=9007199254740992 by decide⟩
     .exact ⟨λh=>absurd h (show ¬(4:Int)=1 by decide),show(0:Int)<=9007199254740992 by decide⟩
    .exact z
theorem b7h(s:U):∀(f i:Nat) (T:List Tok),a0W f s i=some T->∀t∈T,(t.k=1->C4 t.t=true)/\t.n<=9007199254740992
 |0,i,T,h=>by cases h
 |f+1,i,T,h=>by
  rw[a0W]at h;cases hb:s[A9 s i [5]]? with
  |none=>
   rw[hb]at h;injection h with h
   subst h;intro t ht;simp at ht;subst ht;exact⟨λh=>absurd h (show ¬(5:Int)=1 by decide),show(0:Int)<=9007199254740992 by decide⟩
  |some b=>
   rw[hb]at h;simp only at h;split at h
   .exact b7h s f _ T h
   .split at h
    .cases h
    .cases hq:a0W f s (F0 s (A9 s i [5]) b).2.1.toNat with
     |none=>rw[hq]at h;cases h
     |some T'=>
      rw[hq]at h;simp only[b83,Option.some.injEq]at h;subst h;intro t ht
      rcases J0.1 ht with rfl|ht
      .exact d5c hb
      .exact b7h s f _ T' hq t ht
theorem d6z{T:List Tok}(h:a3v s=some T):TG T:=λi=>by
 have hc:=(b3r h).1.nn i;unfold a3v at h;split at h
 .cases h
 .rcases c2F (T:=T) i with h1|h1
  .have:=b7h s _ _ T h _ h1;exact⟨this.1,hc.1,this.2⟩
  .rw [h1];exact⟨λh=>absurd h G,G,G⟩
theorem b4u{x:Ex}{w:Nat×List Ex}(h:Z1 b x=some w)(hb:b.length<=256):w.2.length<=256:=by
 unfold Z1 at h;split at h
 .cases h
 .injection h with h
  subst h;simp only[n_6,b6x];omega
theorem Z9{x:Ex}{m:Nat}{y:PX}(h:N8 b x m=some y)(hb:b.length<=256):y.2.2.length<=256:=b4u (w:=(y.1,y.2.2)) (a3w h).1 hb
theorem c62{T:List Tok}{Jh:PF}(hF:∀d n b x,b.length<=256->Jh.ex d n b=some x->x.2.2.length<=256){u:U}{d:Nat}{y:PX}(hb:b.length<=256)(h:Z4 T Jh u d n b=some y):y.2.2.length<=256:=by
 unfold Z4 at h;obtain⟨n1,_,h⟩:=c9 h;split at h
 .obtain ⟨s,h1,h⟩:=c9 h;obtain⟨n2,_,h⟩:=c9 h;obtain⟨x,h3,h⟩:=c9 h;obtain⟨m,_,h⟩:=c9 h;exact Z9 h (hF _ _ _ _ hb h3)
 .split at h
  .obtain ⟨s,h1,h⟩:=c9 h;obtain⟨m,_,h⟩:=c9 h;exact Z9 h hb
  .split at h
   .obtain ⟨s,h1,h⟩:=c9 h;obtain⟨m,_,h⟩:=c9 h;exact Z9 h hb
   .split at h
    .obtain ⟨s,h1,h⟩:=c9 h;split at h
     .obtain ⟨m,_,h⟩:=c9 h;exact Z9 h hb
     .cases h
    .obtain ⟨s,h1,h⟩:=c9 h;split at h
     .cases h
     .obtain ⟨m,_,h⟩:=c9 h;exact Z9 h hb
theorem c3M{T:List Tok}{ps:List U}:∀f:Nat,
 (∀d n b x,b.length<=256->(A3 T ps f).ex d n b=some x->x.2.2.length<=256) /\
 (∀lv d n b x,b.length<=256->(A3 T ps f).bin lv d n b=some x->x.2.2.length<=256) /\
 (∀d n b x,b.length<=256->(A3 T ps f).fac d n b=some x->x.2.2.length<=256) /\
 (∀lv d i n b x,b.length<=256->(A3 T ps f).lp lv d i n b=some x->x.2.2.length<=256) /\
 (∀d n b bt y,b.length<=256->(A3 T ps f).ag d n b bt=some y->y.2.2.length<=256)
 |0=>by
  refine⟨λd n b x _ h=>?_,λlv d n b x _ h=>?_,λd n b x _ h=>?_,λlv d i n b x _ h=>?_,λd n b bt y _ h=>?_⟩<;>cases h
 |f+1=>by
  obtain⟨hE,hB,hF,hL,hA⟩:=c3M (T:=T) (ps:=ps) f;refine⟨λd n b x hb h=>?_,λlv d n b x hb h=>?_,λd n b y hb h=>?_,λlv d i n b x hb h=>?_,λd n b bt y hb h=>?_⟩
  .change (G9 T ps (A3 T ps f)).ex d n b=some x at h;simp only[G9]at h;split at h
   .cases h
   .split at h
    .obtain ⟨x1,h1,h⟩:=c9 h;obtain⟨n2,_,h⟩:=c9 h;obtain⟨x2,h2,h⟩:=c9 h;obtain⟨n3,_,h⟩:=c9 h;obtain⟨x3,h3,h⟩:=c9 h;exact Z9 h (hE _ _ _ _ (hE _ _ _ _ (hE _ _ _ _ hb h1) h2) h3)
    .exact hB _ _ _ _ _ hb h
  .change (G9 T ps (A3 T ps f)).bin lv d n b=some x at h;simp only[G9]at h;split at h
   .exact hF _ _ _ _ hb h
   .obtain ⟨x1,h1,h⟩:=c9 h;exact hL _ _ _ _ _ _ (hB _ _ _ _ _ hb h1) h
  .change (G9 T ps (A3 T ps f)).fac d n b=some y at h;simp only[G9]at h;split at h
   .exact Z9 h hb
   .split at h
    .obtain ⟨s,h1,h⟩:=c9 h;exact Z9 h hb
    .split at h
     .obtain ⟨x1,h1,h⟩:=c9 h;obtain⟨m,_,h⟩:=c9 h;injection h with h
      subst h;exact hE _ _ _ x1 hb h1
     .split at h
      .cases h
      .split at h
       .exact c62 hE hb h
       .split at h
        .cases h
        .split at h
         .obtain ⟨a,h1,h⟩:=c9 h;unfold a2Y at h1;obtain⟨n1,_,h1⟩:=c9 h1;refine Z9 h ?_;split at h1
          .injection h1 with h1
           subst h1;exact hb
          .exact hA _ _ _ _ _ hb h1
         .split at h
          .cases h
          .exact Z9 h hb
  .change (G9 T ps (A3 T ps f)).lp lv d i n b=some x at h;simp only[G9]at h;split at h
   .injection h with h
    subst h;exact hb
   .obtain ⟨y,h1,h⟩:=c9 h;obtain⟨w,h2,h⟩:=c9 h;have hw:=b4u h2 (hB _ _ _ _ _ hb h1);split at h
    .injection h with h
     subst h;exact hw
    .exact hL _ _ _ _ _ _ hw h
  .change (G9 T ps (A3 T ps f)).ag d n b bt=some y at h;simp only[G9]at h;obtain⟨x1,h1,h⟩:=c9 h;have hx:=hE _ _ _ _ hb h1;split at h
   .exact hA _ _ _ _ _ hx h
   .obtain ⟨m,_,h⟩:=c9 h;injection h with h
    subst h;exact hx
theorem a8K{T:List Tok}(hT:TG T){x:Tok×Nat}(h:K8 T n=some x):C4 x.1.t=true/\S7 x.1.t=false:=by
 obtain⟨y,h1,h2⟩:=c9 h;obtain⟨e1,e2⟩:=a7j h1;split at h2
 .cases h2
 .rename_i hr;injection h2 with h2
  subst h2;refine⟨?_,I hr⟩;rw[e1];exact(hT n).1 e2
structure b0q(l:List U):Prop where
 ok:∀s∈l,C4 s=true/\S7 s=false
 len:l.length<=8
 nod:l.Nodup
theorem a4K{α:Type}{l:List α}{x:α}(h:l.Nodup)(hx:x∉l):(l++[x]).Nodup:=by
 rw[List.nodup_append];exact⟨h,H,λa ha b hb=>by simp at hb;subst hb;exact λe=>hx (e▸ha)⟩
theorem b0q.snoc{l:List U}{x:U}(h:b0q l)(hx:C4 x=true/\S7 x=false)(h8:¬l.length=8)(hn:¬x∈l):b0q (l++[x]):=⟨λs hs=>by
 rcases J5.1 hs with hs|hs
 .exact h.ok s hs
 .simp at hs;subst hs;exact hx,by have:=h.len;rw[n_6,b6x];omega,a4K h.nod hn⟩
theorem c0y{T:List Tok}(hT:TG T):∀(f n:Nat) (l:List U) (y:List U×Nat),b0q l->a2X f T n l=some y->b0q y.1
 |0,n,l,y,_,h=>by cases h
 |f+1,n,l,y,hl,h=>by
  rw[a2X]at h;obtain⟨x,h1,h⟩:=c9 h;have hx:=a8K hT h1;split at h
  .cases h
  .rename_i h8;split at h
   .cases h
   .rename_i hn;have hs:=hl.snoc hx h8 hn;split at h
    .exact c0y hT f _ _ y hs h
    .obtain ⟨m,_,h⟩:=c9 h;injection h with h
     subst h;exact hs
theorem a6w:b0q []:=⟨λs h=>(by cases h),n_4 _,List.nodup_nil⟩
theorem d2r{T:List Tok}(hT:TG T){kd:Int}{y:List U×Nat}(h:a3B T kd n=some y):b0q y.1/\(kd≠1->y.1=[]):=by
 unfold a3B at h;split at h
 .rename_i hk;unfold N7 at h;obtain⟨m,_,h⟩:=c9 h;refine⟨?_,λh=>absurd hk h⟩;split at h
  .injection h with h
   subst h;exact a6w
  .exact c0y hT _ _ _ y a6w h
 .injection h with h
  subst h;exact⟨a6w,λ_=>J⟩
theorem c7v(s:U):G7 s=0\/G7 s=1\/G7 s=2\/G7 s=3:=by
 unfold G7 dkL;rw[Q1,Q1,Q1]
 split
 .exact .inr (.inr (.inr J))
 .split
  .exact .inr (.inr (.inl J))
  .split
   .exact .inr (.inl J)
   .exact .inl J
theorem d1B{T:List Tok}(hT:TG T){bs:List De}{y:De×Nat}(h:a01 T bs n=some y):DeG y.1/\(bs.any λd=>(d.k == y.1.k)&&decide (d.name=y.1.name))=false:=by
 unfold a01 at h;split at h
 .cases h
 .rename_i h0;split at h
  .cases h
  .obtain ⟨x,h1,h⟩:=c9 h;split at h
   .cases h
   .rename_i hany;obtain⟨q,h2,h⟩:=c9 h;obtain⟨m,_,h⟩:=c9 h;obtain⟨e,h3,h⟩:=c9 h;obtain⟨m2,_,h⟩:=c9 h;injection h with h
    subst h;obtain⟨p1,p2⟩:=d2r hT h2;obtain⟨t,t1,_,t3⟩:=(c3J hT (8*T.length+6)).1 _ _ _ _ h3;have ak:=(c3M (8*T.length+6)).1 _ _ _ _ (n_4 _) h3;refine⟨⟨?_,λhk=>?_,λhk=>?_,p2,p1.ok,p1.len,p1.nod,⟨t,by rw[t1];rfl,t3⟩,ak⟩,I hany⟩
    .have:=c7v (tk T n).t
     rcases this with g|g|g|g
     .exact absurd (.inr g) h0
     .exact .inl g
     .exact .inr (.inl g)
     .exact .inr (.inr g)
    .unfold a3y at h1;rw[D hk]at h1;exact a8K hT h1
    .unfold a3y at h1;rw[F hk]at h1;exact a79 h1
structure d2l(l:List De):Prop where
 ok:∀d∈l,DeG d
 nod:(l.map λd=>(d.k,d.name)).Nodup
theorem b49{T:List Tok}(hT:TG T):∀(f n:Nat) (l:List De) (y:List De×Nat),d2l l->U5 f T n l=some y->d2l y.1
 |0,n,l,y,_,h=>by cases h
 |f+1,n,l,y,hl,h=>by
  rw[U5]at h;split at h
  .injection h with h
   subst h;exact hl
  .obtain ⟨x,h1,h⟩:=c9 h;obtain⟨g1,g2⟩:=d1B hT h1;refine b49 hT f _ _ y ⟨λd hd=>?_,?_⟩ h
   .rcases J5.1 hd with hd|hd
    .exact hl.ok d hd
    .simp at hd;subst hd;exact g1
   .rw [a3j];refine a4K hl.nod λhm=>?_;obtain⟨d,hd,he⟩:=D5.1 hm;injection he with e1 e2
    have:=List.any_eq_false.1 g2 d hd;simp[e1,e2]at this
structure e2K(pkg:U)(l:List U):Prop where
 g:b0q l
 p:pkg∉l
theorem c0n{T:List Tok}(hT:TG T){pkg:U}:∀(f n:Nat) (l:List U) (y:List U×Nat),e2K pkg l->a1K f T pkg n l=some y->e2K pkg y.1
 |0,n,l,y,_,h=>by cases h
 |f+1,n,l,y,hl,h=>by
  rw[a1K]at h;split at h
  .split at h
   .cases h
   .rename_i h8;obtain⟨x,h1,h⟩:=c9 h;split at h
    .cases h
    .rename_i eg;obtain⟨m,_,h⟩:=c9 h;refine c0n hT f _ _ y ⟨hl.g.snoc (a8K hT h1) h8 λhm=>eg (.inr hm),λhm=>?_⟩ h
     rcases J5.1 hm with hm|hm
     .exact hl.p hm
     .simp at hm;exact eg (.inl hm.symm)
  .injection h with h
   subst h;exact hl
theorem d3K{T:List Tok}(hT:TG T){x:Src}(h:a1r T=some x):a10 x:=by
 have ak:=b4h h;unfold a1r at h;obtain⟨n1,_,h⟩:=c9 h;obtain⟨w,h1,h⟩:=c9 h;obtain⟨n2,_,h⟩:=c9 h;obtain⟨y,h2,h⟩:=c9 h;obtain⟨z,h3,h⟩:=c9 h;injection h with h
 subst h;have hi:=c0n hT _ _ _ _ ⟨a6w,λh=>(by cases h)⟩ h2;have hd:=b49 hT _ _ _ _ (⟨λd h=>(by cases h),List.nodup_nil⟩:d2l []) h3;exact⟨a8K hT h1,hi.g.ok,hi.g.len,hi.g.nod,hi.p,hd.ok,ak,hd.nod⟩
theorem a9t{x:Src}(h:Q8 s=some x):a10 x:=by
 unfold Q8 at h;obtain⟨T,h1,h2⟩:=c9 h;exact d3K (d6z h1) h2
abbrev tU8:Nat:=5
def a5S(T:TypeId)(n:Nat):Prop:=liesAt CC.P CC.P.depth T (n / CC.P.cellsOf T) 0 244 1=true
def d7p(q:Nat):Bool->CV
 |true=>.ptr q 0
 |false=>.val (.pointer none)
def F8(T:TypeId)(q s:Nat)(a:Bool)(l:U)(rest:List CV):b9:=.boxT (some T) (d7p q a::a1g l s::rest)
def bSt(T:TypeId)(a:Bool)(l:U)(rest:List CV):List b9:=[F8 T 0 1 a l rest,A7 tU8 l.length]
def a9A(T:TypeId)(l:U)(rest:List CV):List b9:=[F8 T 0 2 true l rest,.dead,A7 tU8 l.length]
theorem c9p(hT:a5S T (rest.length+2))(l:U):b8 CC 246 [.ptr 0 0] (bSt T false l rest) λr τ=>r= .ret (.tup [])/\τ=bSt T true l rest:=by
 refine qO d2g ?_;refine W (c6a J O J d0D) ?_;refine qC ?_ ?_<;>intro h1
 .refine W (c17 J O J J (Nat.succ_pos _) 244 l8 l8 l8) ?_;refine W (d9R (e:=Extern.AbiNoEscape.same) J Tryz.func285 J J J J O J (λv w=>J)) ?_;refine W (b6d J O J J 244 l8 l8 l8 hT) ?_;refine qD (j2 J O O J j3 Tryz.sizeOf242 (.inl J) J J (nb J) ?_);exact⟨_,rE0,⟨J,J⟩⟩
 .cases h1
theorem c8h(l:U):b8 CC 246 [.ptr 0 0] (bSt T true l rest) λr τ=>r= .ret (.tup [])/\τ=bSt T true l rest:=by
 refine qO d2g ?_;refine W (b9X J O J d0D) ?_;refine qC ?_ ?_<;>intro h1
 .cases h1
 .refine W (b4k J O O J J 244 l8 l8) ?_;refine qC ?_ ?_<;>intro h2
  .cases h2
  .exact ⟨_,rE0,⟨J,J⟩⟩
theorem b56(hT:a5S T (rest.length+2))(a:Bool)(l:U):b8 CC 246 [.ptr 0 0] (bSt T a l rest) λr τ=>∃_:Unit,r= .ret (.tup [])/\τ=bSt T true l rest/\True:=by
 cases a
 .exact (c9p hT l).mono λr τ h=>⟨(),h.1,h.2,O⟩
 .exact (c8h l).mono λr τ h=>⟨(),h.1,h.2,O⟩
theorem b3T(hT:a5S T (rest.length+2))(a:Bool)(l:U)(c:UInt8)(hl:l.length <140737488355328):b8 CC 306 [.ptr 0 0,.val (.int .u8 c.toNat)] (bSt T a l rest) λr τ=>∃_:Unit,r= .ret (.val .nilIface)/\τ=a9A T (l++[c]) rest/\True:=by
 refine qO Tryz.func306 ?_;refine qD (c5 J c3G ⟨O,O⟩ (b56 hT a l) J ?_);intro _ _;refine W e1w ?_;refine qD (a4v (l:=l) (new:=[c]) (p:=1) J O O J (λM w v hr h=>(a5V (Y:=[bcv c]) J (by intro r hr;simp at hr;subst hr;rfl) M w v hr h).any) Z3 a1P b3l a4D J (.inl Z3) J J a96 ?_);refine qD (j2 J O O J j3 c0O (.inl J) J J (nb J) ?_);exact d2K
theorem b0x(hT:a5S T (rest.length+2))(a:Bool)(l:U)(s:U)(hl:l.length+s.length<=140737488355328):b8 CC 200 [.ptr 0 0,sv s] (bSt T a l rest) λr τ=>∃_:Unit,r= .ret (.tup [iv s.length,.val .nilIface])/\τ=a9A T (l++s) rest/\True:=by
 refine qO Tryz.func200 ?_;refine qD (c5 J c3G ⟨O,O⟩ (b56 hT a l) J ?_);intro _ _;refine qD (a4v (l:=l) (new:=s) (p:=1) J O O J (b64 J) Z3 a1P b3l a4D J (.inr t_7) J J a96 ?_);refine d9c ?_;exact d9h
theorem c16(a:Bool)(c:UInt8)(l:U):b8 CC 202 [.ptr 0 0] (bSt T a (c::l) rest) λr τ=>r= .ret (sv (c::l))/\τ=[F8 T 0 1 a (c::l) rest,.dead]:=by
 refine qO Tryz.func202 ?_;refine b5y ?_;refine b5q ?_;refine hY (b78 J O J H) ?_;refine a5e ?_;refine b5q ?_;refine hY a9U ?_;refine W1 ?_;refine qD ((b3b (q:=1) (k:=0) (i:=1) (l:=c::l)) J O O J J J J J H l8 l8 ?_);refine c6 ?_;exact⟨_,rE1,⟨J,J⟩⟩
theorem c12(a:Bool):b8 CC 202 [.ptr 0 0] (bSt T a [] rest) λr τ=>r= .ret (sv [])/\τ=[F8 T 0 1 a [] rest,.dead]:=by
 refine qO Tryz.func202 ?_;refine b5y ?_;refine b5q ?_;refine hY (b5V J O J) ?_;refine a5e ?_;refine b5q ?_;refine hY a9U ?_;refine W1 ?_;refine qD (b0y J O O J J ?_);refine c6 ?_;exact⟨_,rE1,⟨J,J⟩⟩
def BAt(σ:List b9)(q s:Nat)(T:TypeId)(a:Bool)(l:U)(rest:List CV):Prop:=σ[q]?=some (F8 T q s a l rest)/\σ[s]?=some (A7 tU8 l.length)/\q≠s
theorem a16(l:U):∀r∈l.map bcv,∀c∈r,r5 c:=λr hr c hc=>by
 obtain⟨b,_,rfl⟩:=D5.1 hr;simp[bcv]at hc;subst hc;exact .val _
theorem b19{s s':Nat}(h:R s s'):R1 R (a1g l s) (a1g l s'):=by
 refine .list J (λi r r' h1 h2=>by rw[h1]at h2;injection h2 with h2;rw[h2]) (λi j r r' c c' h1 h2 h3 h4=>?_) ?_
 .rw [h1]at h2;injection h2 with h2;subst h2;rw[h3]at h4;injection h4 with h4;subst h4
  exact .pure (a16 l r (n_2 h1) c (n_2 h3))
 .cases hb:l.length with
  |zero=>exact .inl ⟨J,J⟩
  |succ m=>exact .inr ⟨s,s',J,J,h⟩
theorem a71{q' s s':Nat}(hq:R q q')(h:R s s')(hr:∀c∈rest,r5 c):I8 R (F8 T q s a l rest) (F8 T q' s' a l rest):=by
 refine .box (.cons ?_ (.cons (b19 h) (L9 hr)));cases a
 .exact .pure (.val _)
 .exact .ptr hq
theorem a3N(t:TypeId)(m:Nat):I8 R (A7 t m) (A7 t m):=by
 cases m with
 |zero=>exact .dead
 |succ m=>exact .tip _
theorem c1s{α:Type}{f:FuncId}{args:List CV}{c:α->CV}{l':α->U}{rest':α->List CV}{P:α->Prop}(ap:∀a∈args,r5 a)(hc:∀x,P x->r5 (c x))(hr:∀c∈rest,r5 c)(bp:∀x,P x->∀c∈rest' x,r5 c)
 (h:b8 CC f (.ptr 0 0::args) (bSt T a l rest) λr τ=>∃x,r= .ret (c x)/\τ=a9A T (l' x) (rest' x)/\P x){σ:List b9}{q s:Nat}(ao:BAt σ q s T a l rest):
 b8 CC f (.ptr q 0::args) σ λr τ=>∃x,r= .ret (c x)/\τ=(σ.set q (F8 T q σ.length true (l' x) (rest' x))).set s .dead++[A7 tU8 (l' x).length]/\P x:=by
 obtain⟨h1,h2,h3⟩:=ao;have hq:=(n_3.1 h1).1;have hs:=(n_3.1 h2).1;refine I9 [q,s] hCC J (λi j k g1 g2=>?_) (λi k ob g1 g2=>?_) (.cons (.ptr J) (L9 ap)) h λr τ hk=>?_
 .rcases i with _|_|i<;>rcases j with _|_|j<;>simp at g1 g2<;>first|rfl|(exfalso;exact h3 (g1.trans g2.symm))|(exfalso;exact h3 (g2.trans g1.symm))
 .rcases i with _|_|i
  .simp [bSt]at g1 g2;subst g1 g2;exact⟨_,h1,a71 J J hr⟩
  .simp [bSt]at g1 g2;subst g1 g2;exact⟨_,h2,a3N _ _⟩
  .simp at g1
 .obtain ⟨x,rfl,rfl,hp⟩:=hk;refine⟨by simp[bSt,a9A],.ret (c x),(σ.set q (F8 T q σ.length true (l' x) (rest' x))).set s .dead++[A7 tU8 (l' x).length],(.ret (.pure (hc x hp))),by simp[bSt,a9A],λk hk bD=>?_,λi k y ha hx=>?_,x,J,J,hp⟩
  .have n1:q≠k:=λe=>bD a2f;have n2:s≠k:=λe=>bD a2f;rw[R8 (I hk)];simp[n1,n2]
  .rcases ha with ha|⟨ha,rfl⟩
   .rcases i with _|_|i
    .simp [a9A]at ha hx;subst ha hx;refine⟨F8 T q σ.length true (l' x) (rest' x),?_,a71 (.inl J) (.inr ⟨H,H⟩) (bp x hp)⟩;rw[R8 (I hq),a2M h3.symm];simp[hq]
    .simp [a9A]at ha hx;subst ha hx;refine⟨.dead,?_,.dead⟩;rw[R8 (I hs)];simp[hs]
    .simp at ha
   .rcases i with _|_|_|i
    .simp at ha
    .simp at ha
    .simp [a9A]at hx;subst hx;refine⟨A7 tU8 (l' x).length,?_,a3N _ _⟩;rw[a1v H];simp
    .simp [a9A]at hx
theorem a1R(hT:a5S T (rest.length+2))(a:Bool)(l:U)(hr:∀c∈rest,r5 c)(c:UInt8)(hl:l.length <140737488355328){s:Nat}(ao:BAt σ q s T a l rest):
 b8 CC 306 [.ptr q 0,.val (.int .u8 c.toNat)] σ λr τ=>∃_:Unit,r= .ret (.val .nilIface)/\τ=(σ.set q (F8 T q σ.length true (l++[c]) rest)).set s .dead++[A7 tU8 (l++[c]).length]/\True:=
 c1s (c:=λ_=>.val .nilIface) (l':=λ_=>l++[c]) (rest':=λ_=>rest) (λa h=>by simp at h;subst h;exact .val _) (λ_ _=>.val _) hr (λ_ _=>hr) (b3T hT a l c hl) ao
theorem A1(hT:a5S T (rest.length+2))(a:Bool)(l:U)(hr:∀c∈rest,r5 c)(s:U)(hl:l.length+s.length<=140737488355328)(ao:BAt σ q k T a l rest):
 b8 CC 200 [.ptr q 0,sv s] σ λr τ=>∃_:Unit,r= .ret (.tup [iv s.length,.val .nilIface])/\τ=(σ.set q (F8 T q σ.length true (l++s) rest)).set k .dead++[A7 tU8 (l++s).length]/\True:=
 c1s (c:=λ_=>.tup [iv s.length,.val .nilIface]) (l':=λ_=>l++s) (rest':=λ_=>rest) (λa h=>by simp at h;subst h;exact .val _) (λ_ _=>D7 ⟨.val _,.val _,O⟩) hr (λ_ _=>hr) (b0x hT a l s hl) ao
theorem c1C(a:Bool)(l:U):b8 CC 202 [.ptr 0 0] (bSt T a l rest) λr τ=>∃_:Unit,r= .ret (sv l)/\τ=[F8 T 0 1 a l rest,.dead]/\True:=by
 cases l with
 |nil=>exact(c12 a).mono λr τ h=>⟨(),h.1,h.2,O⟩
 |cons c l=>exact(c16 a c l).mono λr τ h=>⟨(),h.1,h.2,O⟩
theorem a3L(hr:∀c∈rest,r5 c)(a:Bool)(l:U)(ao:BAt σ q k T a l rest):b8 CC 202 [.ptr q 0] σ λr τ=>∃_:Unit,r= .ret (sv l)/\τ=σ.set k .dead/\True:=by
 obtain⟨h1,h2,h3⟩:=ao;have hq:=(n_3.1 h1).1;have hs:=(n_3.1 h2).1;refine I9 [q,k] hCC J (λi j k g1 g2=>?_) (λi k ob g1 g2=>?_) (.cons (.ptr J) .nil) (c1C (T:=T) (rest:=rest) a l) λr τ hk=>?_
 .rcases i with _|_|i<;>rcases j with _|_|j<;>simp at g1 g2<;>first|rfl|(exfalso;exact h3 (g1.trans g2.symm))|(exfalso;exact h3 (g2.trans g1.symm))
 .rcases i with _|_|i
  .simp [bSt]at g1 g2;subst g1 g2;exact⟨_,h1,a71 J J hr⟩
  .simp [bSt]at g1 g2;subst g1 g2;exact⟨_,h2,a3N _ _⟩
  .simp at g1
 .obtain ⟨x,rfl,rfl,hp⟩:=hk;refine⟨by simp[bSt],.ret (sv l),σ.set k .dead,.ret (.pure (.val _)),by simp[bSt],λj hj hjs=>?_,λi j y ha hx=>?_,x,J,J,hp⟩
  .have n2:k≠j:=λe=>hjs a2f;simp[n2]
  .rcases ha with ha|⟨ha,rfl⟩
   .rcases i with _|_|i
    .simp at ha hx;subst ha hx;exact⟨_,by rw[a2M h3.symm];exact h1,a71 (.inl J) (.inl J) hr⟩
    .simp at ha hx;subst ha hx;exact⟨.dead,by simp[hs],.dead⟩
    .simp at ha
   .rcases i with _|_|i<;>simp at ha hx
theorem b4q{τ:List b9}{c:CV}(h0:τ[0]?=some (F8 T 0 k true l rest))(hk:τ[k]?=some (A7 tU8 l.length))(h2:2<=k)(hr:∀c∈rest,r5 c)(hc:Old 2 c):D2 2 τ (.ret c) (.ret c) (a9A T l rest):=by
 have k1:a6Z 2 [0,1,k]=true:=J;have k2:a0J [0,1,k]=true:=by
  have e0:(k == 0)=false:=by simp;omega
  have e1:(k == 1)=false:=by simp;omega
  have e2:(0 == k)=false:=by simp;omega
  have e3:(1 == k)=false:=by simp;omega
  simp[a0J];omega
 refine⟨[0,1,k],k1,k2,.ret (.old hc),.inr ⟨_,h0,.box ⟨.old (.ptr G),.list (λr hr c hc=>(a16 l r hr c hc).old) ?_,?_⟩⟩,.inl J,.inr ⟨_,hk,.same J (b5H _ _ _)⟩,O⟩
 .intro j hj;cases hb:l.length with
  |zero=>rw[hb]at hj;cases hj
  |succ m=>rw[hb]at hj;injection hj with hj;subst hj;exact⟨k,J,J⟩
 .have:∀l:List CV,(∀c∈l,r5 c)->b6w 2 l:=λl=>by
   induction l with
   |nil=>intro _;trivial
   |cons x l ih=>intro h;exact⟨(h x H).old,ih λc hc=>h c (by simp[hc])⟩
  exact a8T (this rest hr)
theorem d9Z{C:Ctx}{M:B2}{w:World}{s:Nat}(hr:Rel C M σ w)(ao:BAt σ q s T a l rest):∃M',Ext M w M' w/\Rel C M' ((σ.set q (F8 T q σ.length a l rest)).set s .dead++[A7 tU8 l.length]) w:=by
 obtain⟨h1,h2,h3⟩:=ao;have hq:=(n_3.1 h1).1;have hs:=(n_3.1 h2).1;cases l with
 |nil=>
  rw[show σ.set q (F8 T q σ.length a [] rest)=σ from a2o h1,show σ.set s b9.dead=σ from a2o h2];obtain⟨aG,bd⟩:=hr.addDead ⟨0,0,0⟩;exact⟨_,bd,aG⟩
 |cons x l=>
  obtain⟨ps,cm⟩:∃p,M.pl[s]?=some p:=⟨_,a0H (by rw[hr.len];exact hs)⟩;obtain⟨pq,hpq⟩:∃p,M.pl[q]?=some p:=⟨_,a0H (by rw[hr.len];exact hq)⟩;obtain⟨⟨bj,_⟩,_⟩:=hr.obj s ps _ cm h2;obtain⟨bd,aG⟩:=hr.tipNew (m:=(x::l).length) cm h2 (n_7 _) bj;have hpq':(M.add ps).pl[q]?=some pq:=bd.get hpq;have hps':(M.add ps).pl[s]?=some ps:=bd.get cm;have gD:(M.add ps).pl[σ.length]?=some ps:=by simp[B2.add,<- hr.len]
  have hbq:(σ.set s b9.dead++[b9.tipT (some tU8) (x::l).length])[q]?=some (F8 T q s a (x::l) rest):=by
   rw[R8 (I hq),a2M h3.symm,h1]
  obtain⟨⟨arr,ty,e1,e2,e3,e4⟩,hf,bO⟩:=aG.obj q pq _ hpq' hbq;have aN:∀(i:Nat) (c:CV),(d7p q a::a1g (x::l) σ.length::rest)[i]?=some c->RV (M.add ps) w c (arr.getD i undef):=λi c hi=>by
   rcases i with _|_|i
   .exact e4 0 c hi
   .injection hi with hi
    subst hi;have hl:=e4 1 _ J;obtain⟨a',cap',b',off',s'',fG,fy,q1,q2,q3,q4,q5,q6,q7,q8,q9,q10⟩:=hl.list_inv;rw[fy];refine RV.list' (L:=((x::l).map bcv).length) J fG q1 q2 (by rw[q3]) (λh=>by cases h) q5 q6 q7 q8 q9 (λk' aK=>?_);obtain⟨s3,g1,g2,g3,g4⟩:=q10 s J;injection aK with aK
    subst aK;refine⟨s3,?_,g2,g3,g4⟩;rw[hps']at g1;rw[gD,g1]
   .exact e4 (i+2) c hi
  have hro:S8 (M.add ps) w pq (F8 T q σ.length a (x::l) rest):=⟨arr,ty,e1,e2,λc hc=>by
   rcases J0.1 hc with rfl|hc
   .cases a<;>rfl
   .rcases J0.1 hc with rfl|hc
    .rfl
    .exact e3 c (a6D _ (a6D _ hc)),aN⟩
  have hfin:=aG.putObj (ob:=F8 T q σ.length a (x::l) rest) hpq' hbq J hf bO (.cells arr ((some T).getD ty) (0,0)) (by rw[World.putObj_self w e1];exact hro);rw[World.putObj_self w e1]at hfin;refine⟨_,bd,?_⟩;have aE:(σ.set s b9.dead++[b9.tipT (some tU8) (x::l).length]).set q (F8 T q σ.length a (x::l) rest)=(σ.set q (F8 T q σ.length a (x::l) rest)).set s .dead++[A7 tU8 (x::l).length]:=by
   rw[List.set_append_left _ _ (I hq),List.set_comm _ _ h3.symm];rfl
  rw[<- aE];exact hfin
theorem d6g{C:Ctx}{c:Code}{Jk:D3->Env->List b9->Prop}{E:Env}(T:TypeId)(q s:Nat)(a:Bool)(l:U)(rest:List CV)(ao:BAt σ q s T a l rest)(h:CWp C n c Jk E ((σ.set q (F8 T q σ.length a l rest)).set s .dead++[A7 tU8 l.length])):CWp C n c Jk E σ:=λM w ac hr hf=>by
 obtain⟨M',h1,h2⟩:=d9Z hr ao;exact wp_mono (h _ w ac h2 (hf.mono h1)) λ_ _ _=>Y1.later h1
end Go.Proofs.YtlppbmfecjabeaaGreatDoor
namespace Go.Proofs
open Go.Shelf
def Tryz.laysM171_ren:Go.Shelf.Ren:=⟨λ|171=>113|243=>157|246=>203|283=>248|284=>249|285=>250|286=>251|129=>217|317=>287|318=>288|319=>289|320=>290|337=>309|338=>310|n=>n,λ|3=>3|9=>9|2=>2|4=>4|171=>282|0=>0|53=>86|37=>149|5=>5|173=>284|212=>313|51=>262|20=>20|213=>314|46=>141|232=>331|233=>332|n=>n,λ|17=>1|18=>2|19=>3|n=>n⟩
theorem Tryz.laysM171:Go.Proofs.LaysM.n171 Tryz.prog Tryz.laysM171_ren:={
 mixed:=by kernel_rfl
 f129:=d3I.trans (n_8 some l8)
 f171:=Tryz.func113.trans (n_8 some l8)
 f243:=Tryz.func157.trans (n_8 some l8)
 f246:=Tryz.func203.trans (n_8 some l8)
 f283:=Tryz.func248.trans (n_8 some l8)
 f284:=Tryz.func249.trans (n_8 some l8)
 f285:=Tryz.func250.trans (n_8 some l8)
 f286:=Tryz.func251.trans (n_8 some l8)
 f317:=Tryz.func287.trans (n_8 some l8)
 f318:=Tryz.func288.trans (n_8 some l8)
 f319:=Tryz.func289.trans (n_8 some l8)
 f320:=Tryz.func290.trans (n_8 some l8)
 f337:=Tryz.func309.trans (n_8 some l8)
 f338:=Tryz.func310.trans (n_8 some l8)
 t0:=d3W
 a0:=d1t
 z0:=c8U
 v0:=d1E
 t2:=Tryz.underlying2
 a2:=Tryz.isAgg2
 z2:=Tryz.sizeOf2
 v2:=Tryz.zeroValue2
 t3:=b8r
 a3:=a2K
 z3:=t_1
 v3:=t_8
 t4:=c3V
 a4:=c31
 z4:=c3k
 v4:=d2V
 t5:=d2L
 a5:=d3x
 z5:=a1P
 v5:=a4D
 t9:=c65
 a9:=Y4
 z9:=t_0
 v9:=t_4
 t20:=Tryz.underlying20
 a20:=Tryz.isAgg20
 z20:=Tryz.sizeOf20
 v20:=Tryz.zeroValue20
 t37:=Tryz.underlying149
 a37:=Tryz.isAgg149
 z37:=c0O
 v37:=Tryz.zeroValue149
 t46:=c8H
 a46:=c9Z
 z46:=d2n
 v46:=d1e
 t51:=d3j
 a51:=d1C
 z51:=c9v
 v51:=d0B
 t53:=d0a
 a53:=c8m
 z53:=d0E
 v53:=d0Y
 t171:=Tryz.underlying282
 a171:=Tryz.isAgg282
 z171:=Tryz.sizeOf282
 v171:=Tryz.zeroValue282
 t173:=Tryz.underlying284
 a173:=Tryz.isAgg284
 z173:=Tryz.sizeOf284
 v173:=Tryz.zeroValue284
 t212:=Tryz.underlying313
 a212:=Tryz.isAgg313
 z212:=Tryz.sizeOf313
 v212:=Tryz.zeroValue313
 t213:=Tryz.underlying314
 a213:=Tryz.isAgg314
 z213:=Tryz.sizeOf314
 t232:=Tryz.underlying331
 a232:=Tryz.isAgg331
 z232:=Tryz.sizeOf331
 v232:=Tryz.zeroValue331
 t233:=Tryz.underlying332
 a233:=Tryz.isAgg332
 z233:=Tryz.sizeOf332
 v233:=Tryz.zeroValue332
 g17:=by kernel_rfl
 g18:=by kernel_rfl
 g19:=by kernel_rfl
 i0:=by kernel_rfl
 i2:=by kernel_rfl
 i3:=by kernel_rfl
 i4:=by kernel_rfl
 i5:=by kernel_rfl
 i9:=by kernel_rfl
 i20:=by kernel_rfl
 i37:=by kernel_rfl
 i46:=by kernel_rfl
 i51:=by kernel_rfl
 i53:=by kernel_rfl
 i171:=by kernel_rfl
 i173:=by kernel_rfl
 i212:=by kernel_rfl
 i232:=by kernel_rfl
 i233:=by kernel_rfl
 m17:=by kernel_rfl
 m18:=by kernel_rfl
 m19:=by kernel_rfl}
end Go.Proofs
namespace Go.Proofs.YtlppbmfecjabeaaGreatDoor
open Go Go.Cl
variable{i n s m w q1 q2 t:Nat}{d:De}{k o u b:Int}{E:List Ex}{fl:List Fi}{l nm l' pkg:U}{ms:SM}{ps br:List U}{σ:List b9}{ch:List Tr}{T:TypeId}{rest:List CV}{nn en va pn a:Bool}{α:Type}{x:U×Src}{L:List (U×Src)}{me:EM}{am:List Nat}{c:Tr}
theorem c1j(n:Int)(h0: -9223372036854775808<=n)(h1:n<=9223372036854775807)(σ:List b9):b8 CC 113 [iv n] σ λr aa=>r= .ret (sv (Lib.itoa n))/\aa=σ:=
 b1W (λM σ w vs hr hn hx=>by
  have hv:vs= #[.int .i64 n]:=by
   refine b6q λi=>?_
   rcases i with _|i
   .have h:=r4 (hx 0 _ J);have hs:0<vs.size:=by rw[hn];exact Nat.succ_pos _
    simp only[a0U,a1J hs,a9B]at h;rw[a1J hs,h];rfl
   .have hs:vs.size<=i+1:=by rw[hn];show 1<=i+1;omega
    rw[b0X hs];rfl
  subst hv;have ht:Lib.pow10Tab=[1,10,100,1000,10000,100000,1000000,10000000,100000000,1000000000,10000000000,100000000000,1000000000000,10000000000000,100000000000000,1000000000000000,10000000000000000,100000000000000000,1000000000000000000,10000000000000000000]:=by decide
  refine Any.strconv_Itoa Tryz.laysM171 n h0 h1 w ?_;rw[ht];exact GV.tab (C:=CC) (hr.glob 1 c1r J) l8) σ
theorem b7w{u:Nat}(hn:0<n)(h:u<10^n):(Lib.decDigits u).length<=n:=by
 induction n generalizing u with
 |zero=>omega
 |succ n ih=>
  rw[Lib.decDigits]
  split
  .simp
  .rcases b0J n with rfl|hn
   .omega
   .have:=ih (u:=u / 10) hn (by rw[Nat.pow_succ]at h;omega);simp;omega
theorem a5F{n:Int}(h0: -9223372036854775808<=n)(h1:n<=9223372036854775807):(Lib.itoa n).length<=20:=by
 unfold Lib.itoa
 split
 .have:=b7w (u:=n.natAbs) (n:=19) X X;simp;omega
 .have:=b7w (u:=n.toNat) (n:=19) X X;omega
def a4E(k o:Int):Int:=if k=5 then 0 else if k=4 then F9 o else 4
theorem b27(x:Ex)(σ:List b9):b8 CC 305 [.agg x.cells] σ λr aa=>r= .ret (iv (a4E x.k x.op))/\aa=σ:=by
 refine b8.anyw hCC pu_ pu_ (c7 (qO Tryz.func305 ?_)) σ;refine qD (I0 J O j3 j5 ?_);refine qC ?_ ?_<;>intro h1
 .have u1:x.k=5:=I h1;exact d8t
 .have u1:¬x.k=5:=I h1;refine qC ?_ ?_<;>intro h2
  .have u2:x.k=4:=I h2;refine W (c4 J Tryz.call319 ⟨O,O⟩ (a7Q x.op _) J) ?_;refine c6 ?_;exact⟨_,rE1,_,_,J,J,C9 (by rw[a4E,D u1,F u2])⟩
  .have u2:¬x.k=4:=I h2;exact d8Y
def sgn(o:Int):U:=(glk S0 o).getD []
def a6U(k:Int):U:=if k=7 then [115,105,122,101]else if k=8 then [104,97,115]else if k=9 then [101,110,118]else []
def K7(sep:U):List U->U
 | []=>[]
 | [x]=>x
 |x::y::l=>x++sep++K7 sep (y::l)
def ndT(ps:List U)(k u o:Int)(nm:U)(cs:List U):U:=
 if k=1 then Lib.itoa u else if k=2 then ps.getD u.toNat []else if k=4 then cs.getD 0 []++([32]++sgn o++[32])++cs.getD 1 []else if k=5 then [105,102,32]++cs.getD 0 []++[32,116,104,101,110,32]++cs.getD 1 []++[32,101,108,115,101,32]++cs.getD 2 []
 else if k=3 then nm++[40]++K7 [44,32] cs++[41]else if k=6 then [114,101,97,100,40,34]++nm++[34,44,32]++cs.getD 0 []++[41]else if k=10 then [102,108,105,112,40]++Lib.itoa u++[41]else a6U k++([40,34]++nm++[34,41])
def a1i(k o:Int):List Int:=if k=4 then [if F9 o=1 then F9 o+1 else F9 o,F9 o+1]else []
mutual
def Tr.txt(ps:List U):Tr->Int->U
 | .n k u o nm ch,pl=>if a4E k o<pl then [40]++ndT ps k u o nm (J4 ps ch (a1i k o))++[41]else ndT ps k u o nm (J4 ps ch (a1i k o))
def J4(ps:List U):List Tr->List Int->List U
 | [],_=>[]
 |t::l,cz=>t.txt ps (cz.headD 0)::J4 ps l cz.tail
end
theorem a5r(ps:List U):∀(l:List Tr) (cz:List Int),(J4 ps l cz).length=l.length
 | [],_=>rfl
 |t::l,cz=>by rw[J4,C5,a5r ps l,C5]
theorem a0F(ps:List U):∀(l:List Tr) (cz:List Int) (m:Nat) (c:Tr),l[m]?=some c->(J4 ps l cz)[m]?=some (c.txt ps (cz.getD m 0))
 | [],_,_,_,h=>by simp at h
 |t::l,cz,0,c,h=>by
  injection h with h
  subst h;rw[J4];cases cz<;>rfl
 |t::l,cz,m+1,c,h=>by
  rw[J4,c5J,a0F ps l cz.tail m c h];cases cz<;>rfl
def a9b(E:List Ex)(t:Tr)(s:Nat):Prop:=∃E0 E1,E=E0++t.flat s++E1/\E0.length=s
theorem a9b.node(h:a9b E (.n k u o nm ch) s):E[s+A0 ch]?=some ⟨k,u,o,nm,o7 ch s⟩:=by
 obtain⟨E0,E1,rfl,rfl⟩:=h;rw[Tr.flat,C7,a1v X,C7,a1v (by rw[T3];omega),T3];rw[show E0.length+A0 ch-E0.length -A0 ch=0 by omega];rfl
theorem a9N:∀(l:List Tr) (m s:Nat) (c:Tr),l[m]?=some c->∃Jc,K9 l s=K9 (l.take m) s++c.flat (s+A0 (l.take m))++Jc
 | [],_,_,_,h=>by simp at h
 |t::l,0,s,c,h=>by
  injection h with h
  subst h;exact⟨_,J⟩
 |t::l,m+1,s,c,h=>by
  obtain⟨Jc,hX⟩:=a9N l m (s+t.size) c h;refine⟨Jc,?_⟩;rw[K9,hX,a88,K9,A0,a8e];simp only[C7]
theorem a9b.child(h:a9b E (.n k u o nm ch) s)(hc:ch[m]?=some c):a9b E c (s+A0 (ch.take m)):=by
 obtain⟨E0,E1,rfl,rfl⟩:=h;obtain⟨Jc,hX⟩:=a9N ch m E0.length c hc;refine⟨E0++K9 (ch.take m) E0.length,Jc++[⟨k,u,o,nm,o7 ch E0.length⟩]++E1,?_,?_⟩
 .rw [Tr.flat,hX];simp only[C7]
 .rw [n_6,T3]
theorem a4c{l:List Tr}(h:l[m]?=some c):c.size<=A0 l:=by
 induction l generalizing m with
 |nil=>simp at h
 |cons t l ih=>
  rw[A0]
  rcases m with _|m
  .injection h with h;subst h;omega
  .have:=ih h;omega
abbrev TW:Nat:=309
theorem a2O:a5S TW 5:=by unfold a5S;kernel_rfl
def WR(E:List Ex)(ps:List U)(en pn:Bool)(d:Int):List CV:=[.list (E.map Ex.cv) en none,.list (ps.map scv) pn none,iv d]
theorem G0(E:List Ex)(ps:List U)(en pn:Bool)(d:Int):∀c∈WR E ps en pn d,r5 c:=λc hc=>by
 simp only[WR,J0,a6A,or_false]at hc
 rcases hc with rfl|rfl|rfl
 .exact a0M _ _
 .exact F3 _ _
 .exact .val _
def WEG(E:List Ex)(ps:List U)(en pn:Bool)(t:Tr)(s:Nat)(ok:Int->Prop):Prop:=∀(pl dp:Int) (a:Bool) (b:U) (d:Int),ok pl->0<=dp->dp+2*t.size+1<=1000000000->b.length+(t.txt ps pl).length<=100000000000000->∀(σ:List b9) (q k:Nat),BAt σ q k TW a b (WR E ps en pn d) ->
 b8 CC 284 [.ptr q 0,iv ((s+t.size -1:Nat):Int),iv pl,iv dp] σ λr τ=>∃d':Int,r= .ret (.tup [])/\τ=(σ.set q (F8 TW q σ.length true (b++t.txt ps pl) (WR E ps en pn d'))).set k .dead++[A7 tU8 (b++t.txt ps pl).length]/\True
theorem b25{pl dp:Int}{T:U}{b:U}{d:Int}(h:b8 CC 284 [.ptr 0 0,iv i,iv pl,iv dp] (bSt TW a b (WR E ps en pn d)) λr τ=>∃d':Int,D2 2 τ r (.ret (.tup [])) (a9A TW (b++T) (WR E ps en pn d'))/\True)
 (σ:List b9)(q k:Nat)(ao:BAt σ q k TW a b (WR E ps en pn d)):b8 CC 284 [.ptr q 0,iv i,iv pl,iv dp] σ λr τ=>∃d':Int,r= .ret (.tup [])/\τ=(σ.set q (F8 TW q σ.length true (b++T) (WR E ps en pn d'))).set k .dead++[A7 tU8 (b++T).length]/\True:=
 c1s (c:=λ_:Int=>.tup []) (l':=λ_=>b++T) (rest':=λd'=>WR E ps en pn d') (P:=λ_=>True) (λa h=>by simp at h;rcases h with rfl|rfl|rfl<;>exact .val _) (λ_ _=>D7 trivial) (G0 _ _ _ _ _) (λ_ _=>G0 _ _ _ _ _)
  (G5 hCC (h.mono λr τ hh=>by
   obtain⟨d',h1,h2⟩:=hh;exact⟨_,_,h1,d',J,J,O⟩)) ao
def W3:List U:=[[105,102,32],[32,116,104,101,110,32],[32,101,108,115,101,32]]
def ifP:List U->Nat->U
 |_,0=>[]
 |cs,m+1=>ifP cs m++W3.getD m []++cs.getD m []
def G3(sep:U)(cs:List U)(m:Nat):U:=K7 sep (cs.take m)
theorem a0l{sep:U}{cs:List U}{c:U}(h:cs[m]?=some c):G3 sep cs (m+1)=G3 sep cs m++(if m=0 then []else sep)++c:=by
 unfold G3;have:∀(cs:List U) (m:Nat) (c:U),cs[m]?=some c->K7 sep (cs.take (m+1))=K7 sep (cs.take m)++(if m=0 then []else sep)++c:=by
  intro cs
  induction cs with
  |nil=>intro m c h;simp at h
  |cons x l ih=>
   intro m c h
   rcases m with _|m
   .simp at h;subst h;simp[K7]
   .rw [a88,a88];have:=ih m c (I h)
    rcases l with _|⟨y,l⟩
    .simp at h
    .rcases m with _|m
     .simp only[a88,List.take_zero,K7]at this⊢;simp at this⊢;simpa using h
     .simp only[a88,K7]at this⊢;rw[this];simp
 exact this cs m c h
theorem b59{β:Type}{k:Int}{y:β}:∀{l:List (Int×β)},glk l k=some y->(k,y)∈l
 | [],h=>by cases h
 |(b,c)::l,h=>by
  rw[glk]at h;split at h
  .rename_i e;injection h with h
   subst h e;simp
  .exact a6D _ (b59 h)
theorem d9w(h:m<3):∃w,W3[m]?=some w:=by
 match m,h with
 |0,_=>exact⟨_,J⟩
 |1,_=>exact⟨_,J⟩
 |2,_=>exact⟨_,J⟩
theorem c0w:∀l:List Tr,l.length<=A0 l
 | []=>n_7 _
 |t::l=>by rw[A0,C5];have:=c0w l;have:=t.size_pos;omega
def kp(ph:Bool):Nat:=match ph with|false=>3|true=>4
def op1(ph:Bool)(m:Nat):b9:=match ph with|false=>A7 tU8 m|true=>.dead
def op2(ph:Bool)(m:Nat):b9:=match ph with|false=>.dead |true=>A7 tU8 m
theorem a7r{L:Nat}{s':Nat}(hL:0<L)(hs:am[s']?=some s)(hr:∀c∈rest,r5 c)(he:l=l'):b1N L am (F8 T 0 s a l rest) (F8 T 0 s' a l' rest):=by
 subst he;refine .box ⟨?_,.list (λr hr c hc=>(a16 l r hr c hc).old) (λj hj=>?_),?_⟩
 .cases a
  .exact .old (.val _)
  .exact .old (.ptr hL)
 .cases hb:l.length with
  |zero=>rw[hb]at hj;cases hj
  |succ m=>rw[hb]at hj;injection hj with hj;subst hj;exact⟨s,J,hs⟩
 .have:∀l:List CV,(∀c∈l,r5 c)->b6w L l:=λl=>by
   induction l with
   |nil=>intro _;trivial
   |cons x l ih=>intro h;exact⟨(h x H).old,ih λc hc=>h c (by simp[hc])⟩
  exact a8T (this rest hr)
theorem V2{L:Nat}(he:l=l'):b1N L am (A7 tU8 l.length) (A7 tU8 l'.length):=he▸ .same J (b5H _ _ _)
theorem a3R:Old 2 (.tup []):=(D7 (cs:=[]) O).old
def W0:List (Int×U):=[(7,[115,105,122,101]),(8,[104,97,115]),(9,[101,110,118])]
theorem c9M(k:Int):(glk W0 k).getD []=a6U k:=by
 unfold a6U
 split
 .subst_vars;rfl
 .split
  .subst_vars;rfl
  .split
   .subst_vars;rfl
   .rename_i h1 h2 h3;have e:∀x∈W0,x.1≠k:=λx hx=>by
     simp only[W0,J0,a6A,or_false]at hx
     rcases hx with rfl|rfl|rfl<;>simp only<;>omega
    cases hg:glk W0 k with
    |none=>rfl
    |some y=>
     exact absurd J (e _ (b59 hg))
theorem c4D(o:Int):(sgn o).length<=100:=by
 unfold sgn;cases hg:glk S0 o with
 |none=>exact n_4 _
 |some y=>
  have:∀x∈S0,x.2.length<=100:=by decide
  exact this _ (b59 hg)
theorem b9j(o:Int):1<=F9 o/\F9 o<=3:=by unfold F9;split;omega;split<;>omega
theorem P0(a b:U):(a++b).length=a.length+b.length:=n_6
theorem a7R{l:List Tr}(h:l.length=n)(hm:m<n):∃c,l[m]?=some c:=⟨l[m]'X,H⟩
theorem d6T(cs:List U):∀m,m<=3->(ifP cs m).length<=(ifP cs 3).length:=by
 intro m hm;have h1:∀n,(ifP cs n).length<=(ifP cs (n+1)).length:=λn=>by rw[ifP];simp only[n_6];omega
 have e0:=h1 0;have e1:=h1 1;have e2:=h1 2
 rcases m with _|_|_|_|m<;>simp only[K0,Nat.reduceAdd]at*<;> omega
theorem a9D(sep:U)(cs:List U)(m:Nat):(G3 sep cs m).length<=(K7 sep cs).length:=by
 unfold G3
 induction cs generalizing m with
 |nil=>simp
 |cons x l ih=>
  rcases m with _|m
  .simp [K7]
  .rw [a88]
   rcases l with _|⟨y,l⟩
   .simp
   .rcases m with _|m
    .simp [K7]
    .have:=ih (m+1);rw[a88]at this⊢;simp only[K7,n_6]at this⊢;omega
theorem b5J(k:Int):(a6U k).length<=4:=by
 unfold a6U
 split;decide
 split;decide
 split<;>decide
theorem b4l(eG:a9b E (.n k u o nm ch) s)(hn:X2 ps.length k u o nm ch.length)(_:E.length<=1000000)(hI:∀m c,ch[m]?=some c->WEG E ps en pn c (s+A0 (ch.take m)) (λ_=>True))(T:U)(hT:T=ndT ps k u o nm (J4 ps ch (a1i k o)))(pl dp:Int)(ba:¬a4E k o<pl)(bV:0<=dp)(hd:dp+2*((A0 ch+1:Nat):Int)<=1000000000)(a:Bool)(b:U)(d:Int)(hb:b.length+T.length<=100000000000000):b8 CC 284 [.ptr 0 0,(iv ((s+A0 ch:Nat):Int)),iv pl,iv dp] (bSt TW a b (WR E ps en pn d)) λr τ=>∃d':Int,D2 2 τ r (.ret (.tup [])) (a9A TW (b++T) (WR E ps en pn d'))/\True:=by
 refine d8i ?_;refine d8h ?_;refine qC ?_ ?_<;>intro h1
 .exact absurd (I h1) ba
 .have hnk:=hn.kind;refine W (c8t J O O J J) ?_;refine qD (j2 J O O J j3 t_1 (.inl J) J J (nb J) ?_);refine cC ?_ ?_<;>intro h2
  .refine L5 [F8 TW 0 1 a b (WR E ps en pn (max d dp)),A7 tU8 b.length,.box (Ex.cells ⟨k,u,o,nm,o7 ch s⟩)] J ?_;have u2:k=1:=I h2;have aX:=hn.k1 u2;have eT:T=Lib.itoa u:=by rw[hT,ndT,F u2]
   rw[eT]at hb;refine cW 6 ?_;refine b4i ?_;refine b4E ?_;refine hY (c4 J d1L ⟨O,O⟩ (c1j u X X _) J) ?_;refine W1 ?_;refine qD (c5 J a3h i7 (A1 a2O _ (b) (G0 _ _ _ _ _) (Lib.itoa u) a5o ⟨J,J,n_5 J⟩) J ?_);intro _ _;exact⟨_,rE0,⟨(max d dp),d0X,O⟩⟩
  .have u2:¬k=1:=I h2;refine qk ?_;refine cC ?_ ?_<;>intro h3
   .refine L5 [F8 TW 0 1 a b (WR E ps en pn (max d dp)),A7 tU8 b.length,.box (Ex.cells ⟨k,u,o,nm,o7 ch s⟩)] J ?_;have u3:k=2:=I h3;have eZ:=hn.k2 u3;have hnum:0<=(Ex.mk k u o nm (o7 ch s)).num:=eZ.1;have eT:T=ps.getD u.toNat []:=by rw[hT,ndT,D X,F u3]
    rw[eT]at hb;have g0:ps[u.toNat]?=some (ps.getD u.toNat []):=by
     have ab:u.toNat <ps.length:=by omega
     simp[List.getD,ab]
    refine cW 11 ?_;refine b4i ?_;refine a5e ?_;refine hY (j7 J O J c6L J a2H G) ?_;refine hY a5L ?_;refine b4E ?_;refine hY (p9 J O O J J t_2 t_0 X (j1 g0) J) ?_;refine hY a5u ?_;refine W1 ?_;refine qD (c5 J a3h i7 (A1 a2O _ (b) (G0 _ _ _ _ _) (ps.getD u.toNat []) a5o ⟨J,J,n_5 J⟩) J ?_);intro _ _;exact⟨_,rE0,⟨(max d dp),d0X,O⟩⟩
   .have u3:¬k=2:=I h3;refine qk ?_;refine cC ?_ ?_<;>intro h4
    .refine L5 [F8 TW 0 1 a b (WR E ps en pn (max d dp)),A7 tU8 b.length,.box (Ex.cells ⟨k,u,o,nm,o7 ch s⟩)] J ?_;have u4:k=4:=I h4;have dh:ch.length=2:=by have:=hn.cnt;rw[F u4]at this;exact this
     obtain⟨c0,g0⟩:=a7R (m:=0) dh G;obtain⟨c1,g1⟩:=a7R (m:=1) dh G;have eW:=a4c g0;have bP:=a4c g1;have ca:=b9j o;have dS:=c4D o;have elv:a4E k o=F9 o:=by rw[a4E,D X,F u4]
     refine qk (W (c4 J Tryz.call305 ⟨O,O⟩ ((elv▸b27 ⟨k,u,o,nm,o7 ch s⟩ _)) J) ?_);refine qC ?_ ?_<;>intro h5
     .have u5:F9 o=1:=I h5;have eT:T=c0.txt ps (F9 o+1)++([32]++sgn o++[32])++c1.txt ps (F9 o+1):=by rw[hT,ndT,D X,D X,F u4];simp only[a49,a0F ps ch _ 0 c0 g0,a0F ps ch _ 1 c1 g1,a9B];simp[a1i,u4,u5]
      rw[eT]at hb;refine W j9 ?_;refine W d0l ?_;refine qD (c5 J b3U a1x (hI 0 c0 g0 (F9 o+1) (dp) _ (b) _ trivial X X a5o _ _ _ ⟨J,J,n_5 J⟩) J ?_);rintro d1 _;dsimp only;refine qN [F8 TW 0 3 true (b++c0.txt ps (F9 o+1)) (WR E ps en pn d1),.dead,.box (Ex.cells ⟨k,u,o,nm,o7 ch s⟩),A7 tU8 (b++c0.txt ps (F9 o+1)).length] J ?_;refine d8J ?_;refine chf J d2b ?_;refine chf J (c8 J b9e) ?_;refine chf J b1M ?_;refine d7d ?_;intro _ _;refine a1O [F8 TW 0 3 true (b++c0.txt ps (F9 o+1)) (WR E ps en pn d1),.dead,.box (Ex.cells ⟨k,u,o,nm,o7 ch s⟩),A7 tU8 (b++c0.txt ps (F9 o+1)).length,.map (gm kv sv S0)] J ?_;refine d7T ?_;refine E9 J J (c8 J (I2 J J O J J (by show 1+(sgn o).length<=_;omega))) ⟨⟨F4,a2a,b4K,O⟩,?_⟩;refine E9 J J e1I ⟨⟨F4,a2a,b4K,O⟩,?_⟩;refine B0 J J J (c5 J a3h i7 (A1 a2O _ (b++c0.txt ps (F9 o+1)) (G0 _ _ _ _ _) ([32]++sgn o++[32]) a5o ⟨J,J,n_5 J⟩) J ?_);intro _ _;refine a1O [F8 TW 0 5 true (b++c0.txt ps (F9 o+1)++([32]++sgn o++[32])) (WR E ps en pn d1),.dead,.box (Ex.cells ⟨k,u,o,nm,o7 ch s⟩),.dead,.map (gm kv sv S0),A7 tU8 (b++c0.txt ps (F9 o+1)++([32]++sgn o++[32])).length] J ?_;refine a84 ?_;refine d7g ?_;refine qD (c5 J b3U a1x (hI 1 c1 g1 (F9 o+1) (dp) _ (b++c0.txt ps (F9 o+1)++([32]++sgn o++[32])) _ trivial X X a5o _ _ _ ⟨J,J,n_5 J⟩) J ?_);rintro d2 _;dsimp only;exact⟨_,rE0,⟨d2,e2L,O⟩⟩
     .have u5:¬F9 o=1:=I h5;have eT:T=c0.txt ps (F9 o)++([32]++sgn o++[32])++c1.txt ps (F9 o+1):=by rw[hT,ndT,D X,D X,F u4];simp only[a49,a0F ps ch _ 0 c0 g0,a0F ps ch _ 1 c1 g1,a9B];simp[a1i,u4,u5]
      rw[eT]at hb;refine W d0l ?_;refine qD (c5 J b3U a1x (hI 0 c0 g0 (F9 o) (dp) _ (b) _ trivial X X a5o _ _ _ ⟨J,J,n_5 J⟩) J ?_);rintro d1 _;dsimp only;refine qN [F8 TW 0 3 true (b++c0.txt ps (F9 o)) (WR E ps en pn d1),.dead,.box (Ex.cells ⟨k,u,o,nm,o7 ch s⟩),A7 tU8 (b++c0.txt ps (F9 o)).length] J ?_;refine d8J ?_;refine chf J d2b ?_;refine chf J (c8 J b9e) ?_;refine chf J b1M ?_;refine d7d ?_;intro _ _;refine a1O [F8 TW 0 3 true (b++c0.txt ps (F9 o)) (WR E ps en pn d1),.dead,.box (Ex.cells ⟨k,u,o,nm,o7 ch s⟩),A7 tU8 (b++c0.txt ps (F9 o)).length,.map (gm kv sv S0)] J ?_;refine d7T ?_;refine E9 J J (c8 J (I2 J J O J J (by show 1+(sgn o).length<=_;omega))) ⟨⟨F4,a2a,b4K,O⟩,?_⟩;refine E9 J J e1I ⟨⟨F4,a2a,b4K,O⟩,?_⟩;refine B0 J J J (c5 J a3h i7 (A1 a2O _ (b++c0.txt ps (F9 o)) (G0 _ _ _ _ _) ([32]++sgn o++[32]) a5o ⟨J,J,n_5 J⟩) J ?_);intro _ _;refine a1O [F8 TW 0 5 true (b++c0.txt ps (F9 o)++([32]++sgn o++[32])) (WR E ps en pn d1),.dead,.box (Ex.cells ⟨k,u,o,nm,o7 ch s⟩),.dead,.map (gm kv sv S0),A7 tU8 (b++c0.txt ps (F9 o)++([32]++sgn o++[32])).length] J ?_;refine a84 ?_;refine d7g ?_;refine qD (c5 J b3U a1x (hI 1 c1 g1 (F9 o+1) (dp) _ (b++c0.txt ps (F9 o)++([32]++sgn o++[32])) _ trivial X X a5o _ _ _ ⟨J,J,n_5 J⟩) J ?_);rintro d2 _;dsimp only;exact⟨_,rE0,⟨d2,e2L,O⟩⟩
    .have u4:¬k=4:=I h4;have ep:a1i k o=[]:=by rw[a1i,D u4]
     refine qk ?_;refine cC ?_ ?_<;>intro h6
     .have u6:k=5:=I h6;have dh:ch.length=3:=by have:=hn.cnt;rw[D u4,F u6]at this;exact this
      have eT:T=ifP (J4 ps ch []) 3:=by
       rw[hT,ndT,D X,D X,D X,F u6,ep];simp[ifP,W3]
      have cJ:=d6T (J4 ps ch []);rw[eT]at hb;refine L5 [F8 TW 0 1 a b (WR E ps en pn (max d dp)),A7 tU8 b.length,.box (Ex.cells ⟨k,u,o,nm,o7 ch s⟩)] J ?_;refine d6g TW 0 1 a b (WR E ps en pn (max d dp)) ⟨J,J,n_5 J⟩ ?_;refine L5 [F8 TW 0 3 a b (WR E ps en pn (max d dp)),.dead,.box (Ex.cells ⟨k,u,o,nm,o7 ch s⟩),A7 tU8 b.length] J ?_;refine qk (W (B1 (W3.map scv) J ⟨J,J,J,O⟩ t_2 t_0 t_4 J J J J J J J J J) ?_);refine W I7 ?_;refine A2 hCC 4 J (α:=Nat×Bool×Bool×Int) (λx=>[(0,.ptr 0 0),(3,iv dp),(8,.ptr 2 0),(127,.list (W3.map scv) true none),(128,(iv (3))),(129,iv x.1)]) (λx=>[F8 TW 0 (kp x.2.1) x.2.2.1 (b++ifP (J4 ps ch []) x.1) (WR E ps en pn x.2.2.2),.dead,.box (Ex.cells ⟨k,u,o,nm,o7 ch s⟩),op1 x.2.1 (b++ifP (J4 ps ch []) x.1).length,op2 x.2.1 (b++ifP (J4 ps ch []) x.1).length]) (λx=>x.1<=3/\(0<x.1->x.2.2.1=true)) (λx=>3-x.1) ⟨(0,false,a,max d dp),[0,1,2,3,7],⟨n_4 _,λh=>absurd h (Nat.lt_irrefl _)⟩,⟨J,J⟩,ut_,⟨.inr ⟨_,J,a7r G J (G0 _ _ _ _ _) (by simp[ifP])⟩,.inl J,.inr ⟨_,J,.same J c0J⟩,.inr ⟨_,J,V2 (by simp[ifP])⟩,.inl J,O⟩⟩ ?_;intro⟨m,ph,a',d'⟩ ⟨hm,hma⟩;dsimp only at hm hma⊢;refine qk (qC ?_ ?_)<;> intro h7
      .have ab:m<3:=sm_ h7;obtain⟨w,gw⟩:=d9w ab;obtain⟨c,gm⟩:=a7R (m:=m) dh ab;have hzm:=a4c gm;have es:ifP (J4 ps ch []) (m+1)=ifP (J4 ps ch []) m++w++c.txt ps 0:=by
        rw[ifP];simp only[a49,gw,a0F ps ch _ m c gm,a9B];simp
       have hbm:=cJ (m+1) X;rw[es]at hbm;refine W (p9 J O O J J t_2 t_0 X (j1 gw) J) ?_;refine qD (c5 J a3h i7 (A1 a2O _ (b++ifP (J4 ps ch []) m) (G0 _ _ _ _ _) (w) (by simp only[P0]at hb hbm⊢;omega) ⟨J,by cases ph<;>rfl,by cases ph<;>exact n_5 J⟩) J ?_);intro _ _;refine qN [F8 TW 0 5 true (b++ifP (J4 ps ch []) m++w) (WR E ps en pn d'),.dead,.box (Ex.cells ⟨k,u,o,nm,o7 ch s⟩),.dead,.dead,A7 tU8 (b++ifP (J4 ps ch []) m++w).length] Q5 ?_;refine W (p9 J O O J J t_6 t_1 X (j1 (M7 gm)) J) ?_;refine W j9 ?_;refine qD (c5 J b3U ⟨O,O,J,O,O⟩ (hI m c gm 0 (dp+1) _ (b++ifP (J4 ps ch []) m++w) _ trivial X X (by simp only[P0]at hb hbm⊢;omega) _ _ _ ⟨J,J,n_5 J⟩) J ?_);rintro d3 _;dsimp only;refine qN [F8 TW 0 6 true (b++ifP (J4 ps ch []) m++w++c.txt ps 0) (WR E ps en pn d3),.dead,.box (Ex.cells ⟨k,u,o,nm,o7 ch s⟩),.dead,.dead,.dead,A7 tU8 (b++ifP (J4 ps ch []) m++w++c.txt ps 0).length] J (W j9 ?_);exact⟨(m+1,true,true,d3),[0,1,2,3,6],(show 3- (m+1)<3-m/\m+1<=3/\(0<m+1->true=true)from⟨X,X,λ_=>J⟩),⟨J,J⟩,ut_,⟨.inr ⟨_,J,a7r G J (G0 _ _ _ _ _) c4A⟩,.inl J,.inr ⟨_,J,.same J c0J⟩,.inl J,.inr ⟨_,J,V2 c4A⟩,O⟩⟩
      .have h3m:m=3:=sm_ h7;subst h3m;obtain rfl:=hma G;refine j6 ?_;exact⟨_,rE0,⟨d',(by rw[eT];exact b4q (k:=kp ph) J Q5 (by cases ph<;>decide) (G0 _ _ _ _ _) a3R),O⟩⟩
     .have u6:¬k=5:=I h6;refine qk ?_;refine cC ?_ ?_<;>intro h8
      .refine L5 [F8 TW 0 1 a b (WR E ps en pn (max d dp)),A7 tU8 b.length,.box (Ex.cells ⟨k,u,o,nm,o7 ch s⟩)] J ?_;have u8:k=3:=I h8;have eT:T=nm++[40]++K7 [44,32] (J4 ps ch [])++[41]:=by
        rw[hT,ndT,D X,D X,D X,D X,F u8,ep]
       have cJ:=a9D [44,32] (J4 ps ch []);rw[eT]at hb;have hbn:=hb;simp only[P0,C5,J6]at hbn;refine qk ?_;refine cW 6 ?_;refine b4i ?_;refine c1b ?_;refine hY (I2 J O J J J (by show nm.length+1<=_;omega)) ?_;refine W1 ?_;refine qD (c5 J a3h i7 (A1 a2O _ (b) (G0 _ _ _ _ _) (nm++[40]) a5o ⟨J,J,n_5 J⟩) J ?_);intro _ _;refine qN [F8 TW 0 3 true (b++(nm++[40])) (WR E ps en pn (max d dp)),.dead,.box (Ex.cells ⟨k,u,o,nm,o7 ch s⟩),A7 tU8 (b++(nm++[40])).length] J (W a1z ?_);refine A2 hCC 4 J (α:=Nat×Bool×Int) (λx=>[(0,.ptr 0 0),(3,iv dp),(159,.list ((o7 ch s).map icv) (gnn (o7 ch s).length) none),(160,(iv ((o7 ch s).length:Int))),(161,iv x.1)]) (λx=>[F8 TW 0 (kp x.2.1) true (b++(nm++[40])++G3 [44,32] (J4 ps ch []) x.1) (WR E ps en pn x.2.2),.dead,.box (Ex.cells ⟨k,u,o,nm,o7 ch s⟩),op1 x.2.1 (b++(nm++[40])++G3 [44,32] (J4 ps ch []) x.1).length,op2 x.2.1 (b++(nm++[40])++G3 [44,32] (J4 ps ch []) x.1).length]) (λx=>x.1<=ch.length) (λx=>ch.length -x.1) ⟨(0,false,max d dp),[0,1,2,3,7],(n_4 _),⟨J,J⟩,ut_,⟨.inr ⟨_,J,a7r G J (G0 _ _ _ _ _) (by simp[G3,K7])⟩,.inl J,.inr ⟨_,J,.same J c0J⟩,.inr ⟨_,J,V2 (by simp[G3,K7])⟩,.inl J,O⟩⟩ ?_;intro⟨m,ph,d'⟩ hm;dsimp only at hm⊢;have cq:=U2 ch s;have bO:=c0w ch;refine qk ?_;refine cC ?_ ?_<;>intro h9
       .have ab:m<ch.length:=sm_ h9;obtain⟨c,gm⟩:=a7R (m:=m) J ab;have hzm:=a4c gm;have es:=a0l (sep:=[44,32]) (a0F ps ch [] m c gm);have hbm:=cJ (m+1);rw[es]at hbm;simp only[P0,List.getD_nil]at hbm es;refine qk (W (p9 J O O J J t_6 t_1 X (j1 (M7 gm)) J) ?_);refine qC ?_ ?_<;>intro bb
        .have u10:¬m=0:=sm_ bb;rw[D u10]at hbm es;refine qD (c5 J a3h o8 (A1 a2O _ (b++(nm++[40])++G3 [44,32] (J4 ps ch []) m) (G0 _ _ _ _ _) ([44,32]) d2T ⟨J,by cases ph<;>rfl,by cases ph<;>exact n_5 J⟩) J ?_);intro _ _;refine qN [F8 TW 0 5 true (b++(nm++[40])++G3 [44,32] (J4 ps ch []) m++[44,32]) (WR E ps en pn d'),.dead,.box (Ex.cells ⟨k,u,o,nm,o7 ch s⟩),.dead,.dead,A7 tU8 (b++(nm++[40])++G3 [44,32] (J4 ps ch []) m++[44,32]).length] Q5 ?_;refine W j9 ?_;refine qD (c5 J b3U ⟨O,O,J,O,O⟩ (hI m c gm 0 (dp+1) _ (b++(nm++[40])++G3 [44,32] (J4 ps ch []) m++[44,32]) _ trivial X X d2T _ _ _ ⟨J,J,n_5 J⟩) J ?_);rintro d3 _;dsimp only;refine qN [F8 TW 0 6 true (b++(nm++[40])++G3 [44,32] (J4 ps ch []) m++[44,32]++c.txt ps 0) (WR E ps en pn d3),.dead,.box (Ex.cells ⟨k,u,o,nm,o7 ch s⟩),.dead,.dead,.dead,A7 tU8 (b++(nm++[40])++G3 [44,32] (J4 ps ch []) m++[44,32]++c.txt ps 0).length] J (W j9 ?_);exact⟨(m+1,true,d3),[0,1,2,3,6],Q,⟨J,J⟩,ut_,⟨.inr ⟨_,J,a7r G J (G0 _ _ _ _ _) c4A⟩,.inl J,.inr ⟨_,J,.same J c0J⟩,.inl J,.inr ⟨_,J,V2 c4A⟩,O⟩⟩
        .have u10:m=0:=sm_ bb;rw[F u10]at hbm es;refine W j9 ?_;refine qD (c5 J b3U ⟨O,O,J,O,O⟩ (hI m c gm 0 (dp+1) _ (b++(nm++[40])++G3 [44,32] (J4 ps ch []) m) _ trivial X X d2T _ _ _ ⟨J,by cases ph<;>rfl,by cases ph<;>exact n_5 J⟩) J ?_);rintro d3 _;dsimp only;refine qN [F8 TW 0 5 true (b++(nm++[40])++G3 [44,32] (J4 ps ch []) m++c.txt ps 0) (WR E ps en pn d3),.dead,.box (Ex.cells ⟨k,u,o,nm,o7 ch s⟩),.dead,.dead,A7 tU8 (b++(nm++[40])++G3 [44,32] (J4 ps ch []) m++c.txt ps 0).length] Q5 ?_;refine W j9 ?_;exact⟨(m+1,true,d3),[0,1,2,3,5],Q,⟨J,J⟩,ut_,⟨.inr ⟨_,J,a7r G J (G0 _ _ _ _ _) (by rw[es];simp only[C7,a1D])⟩,.inl J,.inr ⟨_,J,.same J c0J⟩,.inl J,.inr ⟨_,J,V2 (by rw[es];simp only[C7,a1D])⟩,O⟩⟩
       .have bR:m=ch.length:=sm_ h9;subst bR;have ej:G3 [44,32] (J4 ps ch []) ch.length=K7 [44,32] (J4 ps ch []):=by rw[G3,R3 (by rw[a5r];exact n_7 _)]
        rw[ej];refine j6 ?_;refine qD (c5 J c5O o8 (a1R a2O _ (b++(nm++[40])++K7 [44,32] (J4 ps ch [])) (G0 _ _ _ _ _) 41 (by simp only[P0,C5,J6]at hbn⊢;omega) ⟨J,by cases ph<;>rfl,by cases ph<;>exact n_5 J⟩) J ?_);intro _ _;refine qN [F8 TW 0 5 true (b++(nm++[40])++K7 [44,32] (J4 ps ch [])++[41]) (WR E ps en pn d'),.dead,.box (Ex.cells ⟨k,u,o,nm,o7 ch s⟩),.dead,.dead,A7 tU8 (b++(nm++[40])++K7 [44,32] (J4 ps ch [])++[41]).length] Q5 ?_;exact⟨_,rE0,⟨d',e1q,O⟩⟩
      .have u8:¬k=3:=I h8;refine qk ?_;refine cC ?_ ?_<;>intro cB
       .refine L5 [F8 TW 0 1 a b (WR E ps en pn (max d dp)),A7 tU8 b.length,.box (Ex.cells ⟨k,u,o,nm,o7 ch s⟩)] J ?_;have u11:k=6:=I cB;have dh:ch.length=1:=by have:=hn.cnt;rw[D u4,D u6,F u11]at this;exact this
        obtain⟨c0,g0⟩:=a7R (m:=0) dh G;have eW:=a4c g0;have eT:T=([114,101,97,100,40,34]++nm++[34,44,32])++c0.txt ps 0++[41]:=by
         rw[hT,ndT,D X,D X,D X,D X,D X,F u11,ep];simp only[a49,a0F ps ch _ 0 c0 g0,a9B];simp
        rw[eT]at hb;have hbn:=hb;simp only[P0,C5,J6]at hbn;refine qk ?_;refine cW 7 ?_;refine b4i ?_;refine c1b ?_;refine hY (I2 J J O J J (by show 6+nm.length<=_;omega)) ?_;refine hY (I2 J O J J J (by show([114,101,97,100,40,34]++nm:U).length+3<=_;rw[P0];simp;omega)) ?_;refine W1 ?_;refine qD (c5 J a3h i7 (A1 a2O _ (b) (G0 _ _ _ _ _) ([114,101,97,100,40,34]++nm++[34,44,32]) a5o ⟨J,J,n_5 J⟩) J ?_);intro _ _;refine qN [F8 TW 0 3 true (b++([114,101,97,100,40,34]++nm++[34,44,32])) (WR E ps en pn (max d dp)),.dead,.box (Ex.cells ⟨k,u,o,nm,o7 ch s⟩),A7 tU8 (b++([114,101,97,100,40,34]++nm++[34,44,32])).length] J (W d0l ?_);refine W j9 ?_;refine qD (c5 J b3U ⟨O,O,J,O,O⟩ (hI 0 c0 g0 (0) (dp+1) _ (b++([114,101,97,100,40,34]++nm++[34,44,32])) _ trivial X X a5o _ _ _ ⟨J,J,n_5 J⟩) J ?_);rintro d3 _;dsimp only;refine qN [F8 TW 0 4 true (b++([114,101,97,100,40,34]++nm++[34,44,32])++c0.txt ps 0) (WR E ps en pn d3),.dead,.box (Ex.cells ⟨k,u,o,nm,o7 ch s⟩),.dead,A7 tU8 (b++([114,101,97,100,40,34]++nm++[34,44,32])++c0.txt ps 0).length] J (qD (c5 J c5O o8 (a1R a2O _ (b++([114,101,97,100,40,34]++nm++[34,44,32])++c0.txt ps 0) (G0 _ _ _ _ _) 41 a5o ⟨J,J,n_5 J⟩) J ?_));intro _ _;exact⟨_,rE0,⟨d3,e1q,O⟩⟩
       .have u11:¬k=6:=I cB;refine qk ?_;refine cC ?_ ?_<;>intro cX
        .refine L5 [F8 TW 0 1 a b (WR E ps en pn (max d dp)),A7 tU8 b.length,.box (Ex.cells ⟨k,u,o,nm,o7 ch s⟩)] J ?_;have u12:k=10:=I cX;have hr12:=hn.k10 u12;have eT:T=[102,108,105,112,40]++Lib.itoa u++[41]:=by
          rw[hT,ndT,D X,D X,D X,D X,D X,D X,F u12]
         rw[eT]at hb;have bm:=a5F (n:=u) X X;refine cW 8 ?_;refine b4i ?_;refine b4E ?_;refine hY (c4 J d1L ⟨O,O⟩ (c1j u X X _) J) ?_;refine hY (I2 J J O J J (by show 5+(Lib.itoa u).length<=_;omega)) ?_;refine hY (I2 J O J J J (by show([102,108,105,112,40]++Lib.itoa u:U).length+1<=_;rw[P0];simp;omega)) ?_;refine W1 ?_;refine qD (c5 J a3h i7 (A1 a2O _ (b) (G0 _ _ _ _ _) ([102,108,105,112,40]++Lib.itoa u++[41]) a5o ⟨J,J,n_5 J⟩) J ?_);intro _ _;exact⟨_,rE0,⟨(max d dp),d0X,O⟩⟩
        .refine L5 [F8 TW 0 1 a b (WR E ps en pn (max d dp)),A7 tU8 b.length,.box (Ex.cells ⟨k,u,o,nm,o7 ch s⟩)] J ?_;have u12:¬k=10:=I cX;have eT:T=a6U k++[40,34]++nm++[34,41]:=by
          rw[hT,ndT,D X,D X,D X,D X,D X,D X,D X];simp only[C7]
         rw[eT]at hb;have hbn:=hb;simp only[P0,C5,J6]at hbn;have hwl:=b5J k;refine qk (qD (V3 J ?_));refine qD (o3 (vc:=sv) (l:=W0.take 0) (a:=7) (b:=[115,105,122,101]) a0X (.inr J) O J J J J J a2I J ?_);refine qD (o3 (vc:=sv) (l:=W0.take 1) (a:=8) (b:=[104,97,115]) a0X (.inr J) O J J J J J a2I J ?_);refine qD (o3 (vc:=sv) (l:=W0.take 2) (a:=9) (b:=[101,110,118]) a0X (.inr J) O J J J J J a2I J ?_);refine W (U4 (vc:=sv) (l:=W0) (a:=k) a0X J O O J J a2I t_4 J J ((a6x ([]:U) J _).trans (n_8 sv (c9M k)))) ?_;refine cW 9 ?_;refine b4i ?_;refine hY A8 ?_;refine hY (I2 J O J J J (by first|omega|(simp only[C5,J6];omega))) ?_;refine c1b ?_;refine hY (I2 J O O J J (by first|omega|(simp only[P0,C5,J6];omega))) ?_;refine hY (I2 J O J J J (by first|omega|(simp only[P0,C5,J6];omega))) ?_;refine W1 ?_;refine qD (c5 J a3h i7 (A1 a2O _ (b) (G0 _ _ _ _ _) (a6U k++[40,34]++nm++[34,41]) a5o ⟨J,J,n_5 J⟩) J ?_);intro _ _;exact⟨_,rE0,⟨(max d dp),(by rw[eT];exact b4q (k:=4) J J G (G0 _ _ _ _ _) a3R),O⟩⟩
theorem c6P(eG:a9b E (.n k u o nm ch) s)(T:U)(pl dp:Int)(ba:a4E k o<pl)(bV:0<=dp)(hd:dp+2*((A0 ch+1:Nat):Int)+1<=1000000000)(a:Bool)(b:U)(d:Int)(hb:b.length+([40]++T++[41]:U).length<=100000000000000)
 (hW:∀(dp:Int) (a:Bool) (b:U) (d:Int),0<=dp->dp+2*((A0 ch+1:Nat):Int)<=1000000000->b.length+T.length<=100000000000000->∀(σ:List b9) (q k:Nat),BAt σ q k TW a b (WR E ps en pn d) ->
  b8 CC 284 [.ptr q 0,iv ((s+A0 ch:Nat):Int),iv 0,iv dp] σ λr τ=>∃d':Int,r= .ret (.tup [])/\τ=(σ.set q (F8 TW q σ.length true (b++T) (WR E ps en pn d'))).set k .dead++[A7 tU8 (b++T).length]/\True):
 b8 CC 284 [.ptr 0 0,(iv ((s+A0 ch:Nat):Int)),iv pl,iv dp] (bSt TW a b (WR E ps en pn d)) λr τ=>∃d':Int,D2 2 τ r (.ret (.tup [])) (a9A TW (b++([40]++T++[41])) (WR E ps en pn d'))/\True:=by
 refine d8i ?_;refine d8h ?_;refine cC ?_ ?_<;>intro h1
 .refine L5 [F8 TW 0 1 a b (WR E ps en pn d),A7 tU8 b.length,.box (Ex.cells ⟨k,u,o,nm,o7 ch s⟩)] J ?_;refine qk (qD (c5 J c5O o8 (a1R a2O _ (b) (G0 _ _ _ _ _) 40 a5o ⟨J,J,n_5 J⟩) J ?_));intro _ _;refine qN [F8 TW 0 3 true (b++[40]) (WR E ps en pn d),.dead,.box (Ex.cells ⟨k,u,o,nm,o7 ch s⟩),A7 tU8 (b++[40]).length] J (W j9 ?_);refine qD (c5 J b3U ⟨O,O,J,O,O⟩ (hW (dp+1) true (b++[40]) d X X a5o _ 0 3 ⟨J,J,n_5 J⟩) J ?_);rintro d1 _;dsimp only;refine qN [F8 TW 0 4 true (b++[40]++T) (WR E ps en pn d1),.dead,.box (Ex.cells ⟨k,u,o,nm,o7 ch s⟩),.dead,A7 tU8 (b++[40]++T).length] J (qD (c5 J c5O o8 (a1R a2O _ (b++[40]++T) (G0 _ _ _ _ _) 41 a5o ⟨J,J,n_5 J⟩) J ?_));intro _ _;refine c6 ?_;exact⟨_,rE0,⟨d1,(by simp only[<- C7];exact b4q (k:=5) J J G (G0 _ _ _ _ _) a3R),O⟩⟩
 .exact absurd ba (I h1)
theorem a6g{np d:Nat}:∀{l:List Tr} {m:Nat} {c:Tr},wfL np d l->l[m]?=some c->c.wf np d
 | [],_,_,_,h=>by simp at h
 |t::l,0,c,h,hc=>by rw[wfL]at h;injection hc with hc;subst hc;exact h.1
 |t::l,m+1,c,h,hc=>by rw[wfL]at h;exact a6g h.2 (I hc)
theorem d0z(k o:Int):0<=a4E k o:=by
 unfold a4E
 split;decide
 split
 .have:=b9j o;omega
 .decide
theorem b72{E:List Ex}{ps:List U}{en pn:Bool}(hE:E.length<=1000000):∀(n:Nat) (t:Tr) (s:Nat),t.size<=n->a9b E t s->(∃d,t.wf ps.length d)->WEG E ps en pn t s (λ_=>True)
 |0,t,_,h,_,_=>by have:=t.size_pos;omega
 |n+1,.n k u o nm ch,s,aJ,eG,⟨dd,hw⟩=>by
  rw[Tr.wf]at hw;obtain⟨_,hn,hwl⟩:=hw;have hI:∀m c,ch[m]?=some c->WEG E ps en pn c (s+A0 (ch.take m)) (λ_=>True):=λm c hc=>by
   have:=a4c hc;rw[Tr.size]at aJ;exact b72 hE n c _ X (eG.child hc) ⟨_,a6g hwl hc⟩
  intro pl dp a b d _ bV hd hb σ q k' ao;rw[Tr.size]at hd⊢;rw[show s+(A0 ch+1) -1=s+A0 ch by omega];rw[Tr.txt]at hb⊢;by_cases ba:a4E k o<pl
  .rw [F ba]at hb⊢;refine b25 (c6P eG (ndT ps k u o nm (J4 ps ch (a1i k o))) pl dp ba bV X a b d hb λdp' a' b' d' h0 h1 h2 aa q' k'' hσ'=>?_) σ q k' ao;have hp0:=d0z k o;exact b25 (b4l eG hn hE hI _ J 0 dp' X h0 h1 a' b' d' h2) aa q' k'' hσ'
  .rw [D ba]at hb⊢;exact b25 (b4l eG hn hE hI _ J pl dp ba bV X a b d hb) σ q k' ao
def b0v(cs:List U):Nat:=(cs.map List.length).sum
theorem d0j(cs:List U):(cs.getD 0 []).length+(cs.getD 1 []).length+(cs.getD 2 []).length<=b0v cs:=by
 rcases cs with _|⟨a,_|⟨b,_|⟨c,l⟩⟩⟩<;>simp[b0v,List.getD]<;>omega
theorem a4a(sep:U):∀cs:List U,(K7 sep cs).length<=b0v cs+sep.length*cs.length
 | []=>by simp[K7]
 | [x]=>by simp[K7,b0v]
 |x::y::l=>by
  have:=a4a sep (y::l);simp only[K7,n_6,b0v,b0t,List.sum_cons,C5,Nat.mul_add]at this⊢;omega
theorem c4x(hp:∀s∈ps,s.length<=80){c:Nat}(hn:X2 ps.length k u o nm c)(cs:List U):(ndT ps k u o nm cs).length<=b0v cs+2*cs.length+290:=by
 have hg:=d0j cs;have hj:=a4a [44,32] cs;have hs:=c4D o;have hw:=b5J k;have bN:=hn.len;have e2:([44,32]:U).length=2:=J;rw[e2]at hj;unfold ndT
 split
 .rename_i h1;have:=hn.k1 h1;have:=a5F (n:=u) X X;omega
 split
 .have:(ps.getD u.toNat []).length<=80:=by
   rw[a49];cases hh:ps[u.toNat]? with
   |none=>exact n_4 _
   |some x=>exact hp x (n_2 hh)
  omega
 split
 .simp only[n_6,C5,J6];omega
 split
 .simp only[n_6,C5,J6];omega
 split
 .simp only[n_6,C5,J6];omega
 split
 .simp only[n_6,C5,J6];omega
 split
 .rename_i bb;have:=hn.k10 bb;have:=a5F (n:=u) X X;simp only[n_6,C5,J6];omega
 .simp only[n_6,C5,J6];omega
mutual
theorem Tr.txt_len{ps:List U}(hp:∀s∈ps,s.length<=80):∀(t:Tr) (d:Nat) (pl:Int),t.wf ps.length d->(t.txt ps pl).length+2<=300*t.size
 | .n k u o nm ch,d,pl,h=>by
  rw[Tr.wf]at h;have h1:=c4x hp h.2.1 (J4 ps ch (a1i k o));have h2:=a9h hp ch _ (a1i k o) h.2.2;rw[a5r]at h1;rw[Tr.txt,Tr.size];have:([40]++ndT ps k u o nm (J4 ps ch (a1i k o))++[41]:U).length=(ndT ps k u o nm (J4 ps ch (a1i k o))).length+2:=by simp
  split
  .rw [this];omega
  .omega
theorem a9h{ps:List U}(hp:∀s∈ps,s.length<=80):∀(l:List Tr) (d:Nat) (cz:List Int),wfL ps.length d l->b0v (J4 ps l cz)+2*l.length<=300*A0 l
 | [],_,_,_=>by simp[J4,b0v]
 |t::l,d,cz,h=>by
  rw[wfL]at h;have h1:=Tr.txt_len hp t d (cz.headD 0) h.1;have h2:=a9h hp l d cz.tail h.2;rw[J4,A0];simp only[b0v,b0t,List.sum_cons,C5]at h2⊢;omega
end
theorem c7w(en pn:Bool)(hE:E.length<=1000000)(t:Tr)(ht:E=t.flat 0)(hw:∃d,t.wf ps.length d)(hp:∀s∈ps,s.length<=80):b8 CC 245 [(.list (E.map Ex.cv) en none),(.list (ps.map scv) pn none)] [] λr τ=>∃d:Int,a1t 0 τ r (.ret (.tup [sv (t.txt ps 0),iv d]))/\True:=by
 have aJ:E.length=t.size:=by rw[ht,Tr.flat_len]
 have iq:=t.size_pos;have eG:a9b E t 0:=⟨[],[],by rw[ht];simp,J⟩;obtain⟨dd,hwd⟩:=hw;have htl:=t.txt_len hp dd 0 hwd;have hx:=b72 (en:=en) (pn:=pn) hE t.size t 0 (n_7 _) eG ⟨dd,hwd⟩ 0 1 false [] 0 trivial X X (by simp only[J6];omega) ([F8 TW 0 1 false [] (WR E ps en pn 0)]++[.dead]) 0 1 ⟨J,J,n_5 J⟩;replace hx:=a0s hx;rw[show((0+t.size -1:Nat):Int)=(E.length:Int) -1 by omega]at hx;simp only[a1D]at hx;refine qO Tryz.func245 ?_;refine W (B4 #[(0,2),(2,1),(3,1),(4,1)] J i7 c6L Tryz.zeroValue309 J ⟨_,J⟩ (λw=>by kernel_rfl) J J) ?_;refine qD (e0H J O j3 j5 ?_);refine b7L ?_;refine qD (c5 J b3U ⟨O,O,J,J,O⟩ (hx) J ?_);rintro d1 _;dsimp only;refine cF [] [0,1,2,4,5,6,7] (tl:=[(3,[3,4,5,6]),(8,[3,4,5,6]),(9,[])]) ?_;refine b3A ?_;refine chf J d2b ?_;refine b3A ?_;refine chf J (c8 J c8M) ?_;refine chf J b1M ?_;refine C8 ?_;refine B0 J J J (c5 J b9J ⟨O,O⟩ (a3L (rest:=WR E ps en pn d1) (T:=TW) (G0 _ _ _ _ _) true _ (q:=0) (k:=2) ⟨J,J,n_5 J⟩) J ?_);intro _ _;refine⟨⟨F4,a2a,(by exact c8 J c8M),b3o,O⟩,?_⟩;refine E9 J J b97 ⟨⟨F4,a2a,(by exact c8 J c8M),b3o,O⟩,?_⟩;refine b0m ?_;exact⟨_,r3 (rs:=[.tmp 4,.tmp 5]) (cs:=[_,_]) J T8 (n_5 J),⟨d1,.ret (.old (D7 (cs:=[sv (t.txt ps 0),iv d1]) ⟨.val _,.val _,O⟩).old),O⟩⟩
theorem c9e(en pn:Bool)(hE:E.length<=1000000)(t:Tr)(ht:E=t.flat 0)(hw:∃d,t.wf ps.length d)(hp:∀s∈ps,s.length<=80)(σ:List b9):b8 CC 245 [(.list (E.map Ex.cv) en none),(.list (ps.map scv) pn none)] σ λr τ=>∃d:Int,r= .ret (.tup [sv (t.txt ps 0),iv d])/\τ=σ/\True:=
 F5 (res:=λd:Int=>.ret (.tup [sv (t.txt ps 0),iv d])) (P:=λ_=>True) hCC (λc hc=>by simp at hc;rcases hc with rfl|rfl;exact a0M _ _;exact F3 _ _) (c7w en pn hE t ht hw hp) (λd _=>D7 ⟨.val _,.val _,O⟩) σ
abbrev tSB:Nat:=244
theorem a5h:a5S tSB 2:=by unfold a5S;kernel_rfl
def e00(T:TypeId)(rest:List CV):List b9:=[.boxT (some T) (.ptr 0 0::.list [] true (some 2)::rest),.dead,.tipT (some tU8) 0]
theorem c8q{c:CV}{obs:List b9}:b8 CC 246 [.ptr 0 0] (.boxT (some T) (.ptr 0 0::c::rest)::obs) λr τ=>∃_:Unit,r= .ret (.tup [])/\τ= .boxT (some T) (.ptr 0 0::c::rest)::obs/\True:=by
 refine qO d2g ?_;refine W (b9X J O J d0D) ?_;refine qC ?_ ?_<;>intro h1
 .cases h1
 .refine W (b4k J O O J J 244 l8 l8) ?_;refine qC ?_ ?_<;>intro h2
  .cases h2
  .exact ⟨_,rE0,⟨(),J,J,O⟩⟩
theorem d5I(n:Nat)(h1:1<=n)(h2:n<=1000000000):b8 CC 286 [.ptr 0 0,iv n] [.boxT (some T) (.ptr 0 0::.list [] false none::rest),.dead] λr τ=>∃_:Unit,r= .ret (.tup [])/\τ=e00 T rest/\True:=by
 refine cO Tryz.func286 ?_;refine G4 ?_;refine cF [] [0,1,2,3,4,5,6,7,9,10,11,12,13] (tl:=[(8,[8,9,10,11,12]),(14,[]),(15,[])]) ?_;refine b3A ?_;refine chf J (c8 J b5f) ?_;refine chf J (c8 J b9A) ?_;refine chf J (c8 J (c8z J O J Z3)) ?_;refine chf J (c8 J (b9q J J O J J X X)) ?_;refine chf J W7 ?_;refine chf J (c8 J a4P) ?_;refine b3A ?_;refine chf J (c8 J b5f) ?_;refine chf J (c8 J b9A) ?_;refine chf J (c8 J a9U) ?_;refine C8 ?_;refine B0 J J J (b7i (t:=149) (e:=5) J Tryz.func308 J J J J l8 O (n_8 (λz:Int=>iv z) (show(2*0+(n:Int))=n by omega)) X ?_);refine⟨⟨F4,a2a,(by exact c8 J b5f),(by exact c8 J b9A),(by exact c8 J a9U),O⟩,?_⟩;refine E9 J J (c8 J (b9r J O O J J h1 Z3 a1P)) ⟨O,?_⟩;refine c1G ?_;refine a78 ?_;refine cY a6W ?_;refine cY b5f ?_;refine cY b9A ?_;refine cD (d4s J O O J J Z3 a1P ?_);refine w9 ?_;refine a42 ?_;refine cY A8 ?_;refine cY a6W ?_;refine cY b5f ?_;refine cD (j2 J O O J j3 c0O (.inl J) J J (nb J) ?_);refine w9 ?_;exact⟨_,rE0,⟨(),J,J,O⟩⟩
theorem d6R(hT:a5S T (rest.length+2))(n:Nat)(bf:1<=n)(cg:n<=1000000000):b8 CC 247 [.ptr 0 0,iv n] (bSt T false [] rest) λr τ=>∃_:Unit,r= .ret (.tup [])/\τ=e00 T rest/\True:=by
 refine qO Tryz.func247 ?_;refine qD (c5 J c3G ⟨O,O⟩ (b56 hT false []) J ?_);intro _ _;refine qC ?_ ?_<;>intro h1
 .exact absurd (a6B h1) X
 .refine cW 13 ?_;refine a5e ?_;refine b5q ?_;refine hY (c8z J O J Z3) ?_;refine a5e ?_;refine b5q ?_;refine hY a9U ?_;refine hY (b16 J O O J J H H) ?_;refine hY A8 ?_;refine hY a5E ?_;refine W1 ?_;refine qC ?_ ?_<;>intro h2
  .refine qD (c5 J Tryz.call286 i7 (d5I n bf cg) J ?_);intro _ _;exact⟨_,rE0,⟨(),J,J,O⟩⟩
  .exact absurd (b0k h2) (by show ¬¬(0-0:Int)<n;omega)
theorem b0I(s:U)(hs:s≠[])(hl:s.length<=140737488355328):b8 CC 200 [.ptr 0 0,sv s] (e00 T rest) λr τ=>∃_:Unit,r= .ret (.tup [iv s.length,.val .nilIface])/\τ=[F8 T 0 3 true s rest,.dead,.dead,A7 tU8 s.length]/\True:=by
 refine qO Tryz.func200 ?_;refine qD (c5 J c3G ⟨O,O⟩ (c8q) J ?_);intro _ _;refine qD (d4A (new:=s) (p:=2) J O O J (b64 J) Z3 a1P b3l a4D J (.inr t_7) J J hs a96 ?_);refine d9c ?_;exact d9h
theorem d4C{a:Int}(hb:0<b)(h1:0<=a)(h2:a<=9223372036854775807):a7M .quo .i64 a b=some (.int .i64 (a.tdiv b)):=by
 have ay:b≠0:=by omega
 have h0:0<=a.tdiv b:=Int.tdiv_nonneg h1 X;have h3:a.tdiv b<=a:=by rw[c5S h1];exact Int.ediv_le_self b h1
 simp only[a7M,D ay];rw[b0W X X]
theorem d0v{sep:U}{n:Int}(dT:sep.length=2)(h1:0<n)(h2:n<=1000):¬(9223372036854775807:Int).tdiv n<=(sep.length:Int):=by
 rw[dT,c5S G];have:=Int.le_ediv_of_mul_le h1 (show 1000000*n<=9223372036854775807 by omega);omega
theorem List.take_one_eq{l:List α}{x:α}(h:l[0]?=some x):l.take (0+1)=[x]:=by
 cases l with
 |nil=>simp at h
 |cons a l=>simp at h;subst h;rfl
theorem b1A{sep:U}{l:List U}(hs:sep.length=2)(hl:∀s∈l,1<=s.length/\s.length<=1000):∀m,(G3 sep l m).length<=m*1002
 |0=>by simp[G3,K7]
 |m+1=>by
  have ih:=b1A (sep:=sep) (l:=l) hs hl m;cases hg:l[m]? with
  |none=>
   have:l.length<=m:=I hg;have e:G3 sep l (m+1)=G3 sep l m:=by unfold G3;rw[R3 (show l.length<=m+1 by omega),R3 (show l.length<=m by omega)]
   rw[e];exact a82 ih (R9 _ (Nat.le_succ m))
  |some y=>
   have:=(hl y (n_2 hg)).2;rw[a0l hg,n_6,n_6]
   split
   .simp;omega
   .omega
theorem b2p(l:List U)(nn:Bool)(sep:U)(dT:sep.length=2)(hl:l.length<=1000)(cb:∀s∈l,1<=s.length/\s.length<=1000)(σ:List b9):b8 CC 201 [(.list (l.map scv) nn none),(sv sep)] σ λr aa=>r= .ret (sv (K7 sep l))/\aa=σ:=by
 refine an_ Tryz.func201 ?_;refine qs 3 (W I7 ?_);refine qC ?_ ?_<;>intro h1
 .have h0:l=[]:=I h1;refine c6 ?_;exact⟨_,rE1,_,_,J,J,D9 (by rw[h0];rfl)⟩
 .have dW:¬l.length=0:=by simp at h1;simpa using h1
  refine qC ?_ ?_<;>intro h2
  .have h1l:l.length=1:=sm_ h2;obtain⟨e0,he0⟩:∃e0,l=[e0]:=by
    rcases l with _|⟨a,_|⟨b,l⟩⟩
    .simp at h1l
    .exact ⟨a,J⟩
    .simp at h1l
   have g0:l[0]?=some e0:=by rw[he0];rfl
   refine W (p9 J O J J J t_2 t_0 X (j1 g0) J) ?_;refine c6 ?_;exact⟨_,rE1,_,_,J,J,D9 (by rw[he0];rfl)⟩
  .have h2l:2<=l.length:=by
    have:¬(l.length:Int)=1:=I h2;omega
   refine S3 hCC (α:=Nat) (λn=>[(0,(.list (l.map scv) nn none)),(1,(sv sep)),(5,iv n)]) (λ_=>[]) (λn=>1<=n/\n<=2000) z8 uz_ ?_ ?_
   .
    refine a7w ?_;refine qC ?_ ?_<;>intro h3
    .refine W R6 ?_;refine W I7 ?_;refine W X7 ?_;refine W (a0Z J J O J J (d4C X X X)) ?_;refine qC ?_ ?_<;>intro h4
     .exact absurd (a6B h4) (d0v dT X X)
     .have bB:(sep.length:Int)*((l.length:Int) -1)=2*((l.length:Int) -1):=by rw[dT];rfl
      refine W R6 ?_;refine W I7 ?_;refine W X7 ?_;refine W (b9q J O O J J (by rw[bB];omega) (by rw[bB];omega)) ?_;refine W a4P ?_;exact⟨(2*(l.length -1)),_,⟨X,X⟩,⟨o0,o0,⟨O,(n_8 (λz:Int=>iv z) (show(0+(sep.length:Int)*((l.length:Int) -1))=((2*(l.length -1):Nat):Int) by rw[bB];omega))⟩,O⟩,J⟩
    .exact absurd (b0k h3) (by show ¬¬(0:Int)<sep.length;rw[dT];decide)
   .intro n ⟨bf,cg⟩;refine b24 ?_;refine j8 hCC (α:=Nat×Nat) (λx=>[(0,(.list (l.map scv) nn none)),(1,(sv sep)),(5,iv x.2),(39,(.list (l.map scv) nn none)),(40,iv l.length),(41,iv x.1)]) (λ_=>[]) (λx=>x.1<=l.length/\1<=x.2/\x.2<=2000+1000*x.1) (λx=>l.length -x.1) (0,n) ⟨n_4 _,bf,X⟩ tu_ (ai:=[]) J z8 uz_ ?_;intro⟨i,n'⟩ ⟨hi,hn1',hn2'⟩;dsimp only at hi hn1' hn2'⊢;refine qk (qC ?_ ?_)<;> intro h5
    .have ab:i<l.length:=sm_ h5;obtain⟨y,hy⟩:∃y,l[i]?=some y:=⟨l[i]'ab,H⟩;have dY:=cb y (n_2 hy);refine W b4m ?_;refine W R6 ?_;refine W (b16 J J O J J X X) ?_;refine qC ?_ ?_<;>intro h6
     .exact absurd (a6B h6) X
     .refine W R6 ?_;refine W a4P ?_;refine W j9 ?_;exact⟨(i+1,n'+y.length),_,⟨Q,Q,Q,Q⟩,tu_,J⟩
    .have cQ:i=l.length:=sm_ h5;obtain⟨e0,g0⟩:=gx_ l 0;have he0:=cb e0 (n_2 g0);refine j6 ?_;refine qD (b8X J Tryz.zeroValue244 J j5 ?_);refine qD (c5 J Tryz.call247 i7 ((a0s (d6R a5h n' hn1' X))) J ?_);intro _ _;refine W (p9 J O J J J t_2 t_0 X (j1 g0) J) ?_;refine qD (c5 J a3h i7 (b0I e0 (by intro h;rw[h]at he0;simp at he0) X) J ?_);intro _ _;refine W (a4p (l:=1) J O J t_2 t_0 b22 ⟨J,_,_,J,X,X⟩ J a2c H) ?_;refine W I7 ?_;refine A2 hCC 4 J (α:=Nat×Bool) (λx=>[(1,(sv sep)),(8,.ptr 0 0),(63,(.list ((l.drop 1).map scv) nn none)),(64,(iv ((l.length -1:Nat):Int))),(65,iv x.1)]) (λx=>[F8 tSB 0 (kp x.2) true (G3 sep l (x.1+1)) [],.dead,.dead,op1 x.2 (G3 sep l (x.1+1)).length,op2 x.2 (G3 sep l (x.1+1)).length]) (λx=>x.1+1<=l.length) (λx=>l.length -x.1) ⟨(0,false),[0,1,2,3,7],(show 0+1<=l.length by omega),⟨J,J⟩,⟨⟨O,ur_⟩,⟨O,ur_⟩,⟨O,(by first|exact ur_|exact .same (show CV.list (((l.map scv).take (l.map scv).length).drop 1) nn none=_ from by rw[R3 (n_7 _),List.map_drop]) uo_)⟩,⟨O,(by first|exact ur_|exact .same (show(iv ((((l.map scv).take (l.map scv).length).drop 1).length:Int))=_ from by simp) uo_)⟩,⟨O,ur_⟩,O⟩,⟨.inr ⟨_,J,a7r G J (λc hc=>by cases hc) (by rw[G3,List.take_one_eq g0];rfl)⟩,.inl J,.inl J,.inr ⟨_,J,V2 (by rw[G3,List.take_one_eq g0];rfl)⟩,.inl J,O⟩⟩ ?_;intro⟨m,ph⟩ hm;dsimp only at hm⊢;refine qk (qC ?_ ?_)<;> intro h7
     .have ab:m+1<l.length:=sm_ h7;obtain⟨y,hy⟩:∃y,l[m+1]?=some y:=⟨l[m+1]'ab,H⟩;have dY:=cb y (n_2 hy);have ip:(l.drop 1)[m]?=some y:=by rw[a5z,b7a];exact hy
      have es:=a0l (sep:=sep) hy;rw[D X]at es;have cc:=b1A (sep:=sep) (l:=l) dT cb (m+1);have hjl2:(m+1)*1002<=1000*1002:=R9 _ X;refine W (p9 J O O J J t_2 t_0 X (j1 ip) J) ?_;refine qD (c5 J a3h i7 (A1 a5h _ (G3 sep l (m+1)) (λc hc=>by cases hc) sep X (σ:=_) (q:=0) (k:=kp ph) ⟨J,by cases ph<;>rfl,by cases ph<;>exact n_5 J⟩) J ?_);intro _ _;refine qN [F8 tSB 0 5 true (G3 sep l (m+1)++sep) [],.dead,.dead,.dead,.dead,A7 tU8 (G3 sep l (m+1)++sep).length] Q5 ?_;refine qD (c5 J a3h i7 (A1 a5h _ (G3 sep l (m+1)++sep) (λc hc=>by cases hc) y (by rw[P0];omega) (q:=0) (k:=5) ⟨J,J,n_5 J⟩) J ?_);intro _ _;refine qN [F8 tSB 0 6 true (G3 sep l (m+1)++sep++y) [],.dead,.dead,.dead,.dead,.dead,A7 tU8 (G3 sep l (m+1)++sep++y).length] J (W j9 ?_);exact⟨(m+1,true),[0,1,2,3,6],(show l.length - (m+1)<l.length -m/\m+1+1<=l.length from⟨X,X⟩),⟨J,J⟩,ut_,⟨.inr ⟨_,J,a7r G J (λc hc=>by cases hc) es.symm⟩,.inl J,.inl J,.inl J,.inr ⟨_,J,V2 es.symm⟩,O⟩⟩
     .have bR:m+1=l.length:=sm_ h7;refine j6 ?_;refine qD (c5 J b9J ⟨O,O⟩ (a3L (rest:=[]) (T:=tSB) (λc hc=>by cases hc) true (G3 sep l (m+1)) (q:=0) (k:=kp ph) ⟨J,by cases ph<;>rfl,by cases ph<;>exact n_5 J⟩) J ?_);intro _ _;refine c6 ?_;exact⟨_,rE1,_,_,J,J,D9 (by rw[bR,G3,R3 (n_7 _)])⟩
open Classical in
noncomputable def X1(d:De):U:=if h:∃t:Tr,d.body=t.flat 0/\t.wf d.params.length 1 then h.choose.txt d.params 0 else []
theorem a8n(h:DeG d):∃t:Tr,d.body=t.flat 0/\t.wf d.params.length 1/\X1 d=t.txt d.params 0:=by
 refine⟨h.tree.choose,h.tree.choose_spec.1,h.tree.choose_spec.2,?_⟩;unfold X1;rw[dif_pos h.tree]
theorem b5p(h:DeG d):∀s∈d.params,s.length<=80:=λs hs=>by have:=B9 (h.par s hs).1;omega
theorem a9c(h:DeG d):(X1 d).length<=76800:=by
 obtain⟨t,h1,h2,h3⟩:=a8n h;have:=t.txt_len (b5p h) 1 0 h2;have hb:=h.blen;rw[h1,Tr.flat_len]at hb;rw[h3];omega
def e0U(d:De):Src:=⟨[112],[],[⟨1,[102],d.params,d.body⟩]⟩
theorem d4h(h:DeG d):a10 (e0U d) where
 pkg:=by show C4 [112]=true/\S7 [112]=false;decide
 imp:=λs hs=>by cases hs
 impl:=n_4 _
 impn:=List.nodup_nil
 impp:=λh=>by cases h
 dec:=λe he=>by
  simp only[e0U,J0,a6A,or_false]at he;subst he;exact {kind:=.inl J,name:=λ_=>by(show C4 [102]=true/\S7 [102]=false);decide,path:=λhk=>absurd (show(1:Int)=3 from hk) G,pars:=λhk=>absurd J hk,par:=h.par,parl:=h.parl,nod:=h.nod,tree:=h.tree,blen:=h.blen}
 decl:=by show 1<=64;decide
 decn:=by show(List.map _ [_]).Nodup;simp
theorem c6w(d:De)(h:DeG d)(σ:List b9):b8 CC 199 [(.list (d.body.map Ex.cv) (gnn d.body.length) none),(.list (d.params.map scv) (gnn d.params.length) none)] σ λr aa=>r= .ret (.tup [sv (X1 d),(iv (0))])/\aa=σ:=by
 refine b8.anyw hCC pu_ pu_ (c7 (qO Tryz.func199 ?_)) σ;refine W (B4 #[(0,1),(1,1),(2,1),(3,1)] J ⟨J,J,O,O,O⟩ b3s b1V J ⟨_,J⟩ (λw=>by kernel_rfl) J J) ?_;refine W (B1 ([(⟨1,[102],d.params,d.body⟩:De)].map De.cv) J ⟨O,O⟩ b20 a54 b1V J J J J J J J J J) ?_;refine W (B4 #[(0,1),(1,1),(2,1)] J ⟨J,O,O⟩ a7h a48 J ⟨_,J⟩ (λw=>by kernel_rfl) J J) ?_;refine W (c4 J Tryz.call198 ⟨O,O⟩ (b2f (e0U d) (d4h h) _) J) ?_;refine qC ?_ ?_<;>intro h1
 .cases h1
 .obtain ⟨t,ff,fq,ht3⟩:=a8n h;refine qD (c5 J Tryz.call245 i7 (c9e (gnn d.body.length) (gnn d.params.length) (by have:=h.blen;omega) t ff ⟨1,fq⟩ (b5p h) _) J ?_);rintro dd _;dsimp only;rw[<- ht3];refine c6 ?_;exact⟨_,r3 (rs:=[.tmp 4,.tmp 5]) (cs:=[_,_]) J T8 (n_5 J),_,_,J,J,(.old (D7 (cs:=[sv (X1 d),iv 0]) ⟨.val _,.val _,O⟩).old)⟩
def T2(l:List U):U:=(l.map λs=>[105,109,112,111,114,116,32]++s++[59,10]).flatten
theorem b37{l:List U}{s:U}(h:l[m]?=some s):T2 (l.take (m+1))=T2 (l.take m)++([105,109,112,111,114,116,32]++s++[59,10]):=by
 unfold T2;rw[a1H,h];simp
def a6a(d:De):U:=if d.k=1 then [102,117,110,99,32]++d.name++[40]++K7 [44,32] d.params++[41,32,61,32]else if d.k=2 then [116,101,115,116,32]++d.name++[32,61,32]else [103,101,110,32,34]++d.name++[34,32,61,32]
noncomputable def a1L(x:Src)(d:De):U:=([112,97,99,107,97,103,101,32]++x.pkg++[59,10])++T2 x.imports++a6a d++(X1 d++[59,10])
theorem a8s{l:List U}(h:∀s∈l,s.length<=80):∀m,(T2 (l.take m)).length<=100*m
 |0=>by simp[T2]
 |m+1=>by
  have ih:=a8s h m;cases hg:l[m]? with
  |none=>
   have:l.length<=m:=I hg;rw[R3 (show l.length<=m+1 by omega)];rw[R3 this]at ih;omega
  |some y=>
   have:=h y (n_2 hg);rw[b37 hg];simp only[n_6,C5,J6];omega
theorem b6D{l:List U}{k:Nat}(h:∀s∈l,s.length<=k):b0v l<=k*l.length:=by
 induction l with
 |nil=>simp[b0v]
 |cons x l ih=>
  have h1:=h x H;have h2:=ih λs hs=>h s (by simp[hs]);simp only[b0v,b0t,List.sum_cons,C5,Nat.mul_add]at h2⊢;omega
theorem De.name_len(h:DeG d):d.name.length<=80:=by
 by_cases h3:d.k=3
 .exact M5 (h.path h3)
 .have:=B9 (h.name h3).1;omega
def kpn(a:Nat)(ph:Bool):Nat:=match ph with|false=>a|true=>a+1
theorem c3A{L:Nat}{q s':Nat}(hL:q<L)(hs:am[s']?=some s)(hr:∀c∈rest,r5 c)(he:l=l'):b1N L am (F8 T q s a l rest) (F8 T q s' a l' rest):=by
 subst he;refine .box ⟨?_,.list (λr hr c hc=>(a16 l r hr c hc).old) (λj hj=>?_),?_⟩
 .cases a
  .exact .old (.val _)
  .exact .old (.ptr hL)
 .cases hb:l.length with
  |zero=>rw[hb]at hj;cases hj
  |succ m=>rw[hb]at hj;injection hj with hj;subst hj;exact⟨s,J,hs⟩
 .have:∀l:List CV,(∀c∈l,r5 c)->b6w L l:=λl=>by
   induction l with
   |nil=>intro _;trivial
   |cons x l ih=>intro h;exact⟨(h x H).old,ih λc hc=>h c (by simp[hc])⟩
  exact a8T (this rest hr)
theorem c6F{s:U}(h:C4 s=true):1<=s.length:=by
 cases s with
 |nil=>simp[C4]at h
 |cons a l=>simp
theorem c6y(x:Src)(h:a10 x)(i:Nat)(d:De)(hx:x.decls[i]?=some d)(hd:DeG d)(hi:i<x.decls.length)(σ:List b9):b8 CC 156 [.agg x.cells,iv i] σ λr aa=>r= .ret (.tup [sv (a1L x d),(iv (0))])/\aa=σ:=by
 refine b8.anyw hCC pu_ pu_ (c7 (qO Tryz.func156 ?_)) σ;refine qD (I0 J O j3 j5 ?_);refine W (c4 J Tryz.call198 ⟨O,O⟩ (b2f x h _) J) ?_;refine qC ?_ ?_<;>intro h1
 .cases h1
 .refine qG D4 ?_;refine qG c25 ?_;refine qG c49 ?_;refine qG c4q ?_;refine a93 ?_;refine qC ?_ ?_<;>intro h2
  .exact absurd h2 K5
  .have eN:=De.name_len hd;have hbl:=a9c hd;have eD:=B9 h.pkg.1;have himl:=h.impl;have gp:∀s∈x.imports,s.length<=80:=λs hs=>by have:=B9 (h.imp s hs).1;omega
   have cc:=a4a [44,32] d.params;have dS:=b6D (b5p hd);have hprl:=hd.parl;have e2:([44,32]:U).length=2:=J;rw[e2]at cc;refine W (p9 J O O J J b20 a54 X (j1 hx) J) ?_;refine z_6 ?_;refine W (c4 J Tryz.call199 i7 (c6w d hd _) J) ?_;refine qC ?_ ?_<;>intro h3
   .cases h3
   .refine qD (b8X J Tryz.zeroValue244 J j5 ?_);refine W b7u ?_;refine W b5Q ?_;refine qD (c5 J a3h i7 ((a0s (A1 a5h false [] (λc hc=>by cases hc) ([112,97,99,107,97,103,101,32]++x.pkg++[59,10]) a8m (q:=2) (k:=3) ⟨J,J,n_5 J⟩))) J ?_);intro _ _;refine qN [.box x.cells,.box d.cells,F8 tSB 2 4 true (([112,97,99,107,97,103,101,32]++x.pkg++[59,10])) [],.dead,A7 tU8 (([112,97,99,107,97,103,101,32]++x.pkg++[59,10])).length] J (W I7 ?_);refine A2 hCC 5 J (α:=Nat×Bool) (λx'=>[(7,.ptr 1 0),(8,(sv (X1 d))),(10,.ptr 2 0),(49,(.list (x.imports.map scv) (gnn x.imports.length) none)),(50,iv x.imports.length),(51,iv x'.1)]) (λx'=>[.box x.cells,.box d.cells,F8 tSB 2 (kpn 4 x'.2) true (([112,97,99,107,97,103,101,32]++x.pkg++[59,10])++T2 (x.imports.take x'.1)) [],.dead,op1 x'.2 (([112,97,99,107,97,103,101,32]++x.pkg++[59,10])++T2 (x.imports.take x'.1)).length,op2 x'.2 (([112,97,99,107,97,103,101,32]++x.pkg++[59,10])++T2 (x.imports.take x'.1)).length]) (λx'=>x'.1<=x.imports.length) (λx'=>x.imports.length -x'.1) ⟨(0,false),[0,1,2,3,4,9],(n_4 _),⟨J,J⟩,ut_,⟨.inr ⟨_,J,.same J (Src.old x _)⟩,.inr ⟨_,J,.same J (De.old d _)⟩,.inr ⟨_,J,c3A G J (λc hc=>by cases hc) (a0z _).symm⟩,.inl J,.inr ⟨_,J,V2 (a0z _).symm⟩,.inl J,O⟩⟩ ?_;intro⟨m,ph⟩ hm;dsimp only at hm⊢;have bm:=a8s gp m;refine qk ?_;refine cC ?_ ?_<;>intro h4
    .have ab:m<x.imports.length:=sm_ h4;obtain⟨y,hy⟩:∃y,x.imports[m]?=some y:=⟨x.imports[m]'ab,H⟩;have dY:=gp y (n_2 hy);have es:=b37 hy;have ej:([112,97,99,107,97,103,101,32]++x.pkg++[59,10])++T2 (x.imports.take m)++([105,109,112,111,114,116,32]++y++[59,10])=([112,97,99,107,97,103,101,32]++x.pkg++[59,10])++T2 (x.imports.take (m+1)):=by rw[es];simp only[C7]
     refine qk (W b4m ?_);refine W b7u ?_;refine W b5Q ?_;refine qD (c5 J a3h i7 (A1 a5h _ (([112,97,99,107,97,103,101,32]++x.pkg++[59,10])++T2 (x.imports.take m)) (λc hc=>by cases hc) ([105,109,112,111,114,116,32]++y++[59,10]) a8m (q:=2) (k:=kpn 4 ph) ⟨J,by cases ph<;>rfl,by cases ph<;>exact n_5 J⟩) J ?_);intro _ _;refine qN [.box x.cells,.box d.cells,F8 tSB 2 6 true (([112,97,99,107,97,103,101,32]++x.pkg++[59,10])++T2 (x.imports.take m)++([105,109,112,111,114,116,32]++y++[59,10])) [],.dead,.dead,.dead,A7 tU8 (([112,97,99,107,97,103,101,32]++x.pkg++[59,10])++T2 (x.imports.take m)++([105,109,112,111,114,116,32]++y++[59,10])).length] Q5 ?_;refine W j9 ?_;exact⟨(m+1,true),[0,1,2,3,4,6],(show x.imports.length - (m+1)<x.imports.length -m/\m+1<=x.imports.length from⟨X,X⟩),⟨J,J⟩,ut_,⟨.inr ⟨_,J,.same J (Src.old x _)⟩,.inr ⟨_,J,.same J (De.old d _)⟩,.inr ⟨_,J,c3A G J (λc hc=>by cases hc) ej⟩,.inl J,.inl J,.inr ⟨_,J,V2 ej⟩,O⟩⟩
    .have bR:m=x.imports.length:=sm_ h4;rw[bR]at bm;have etk:x.imports.take m=x.imports:=by rw[bR];exact R3 (n_7 _)
     rw[etk];rw[<- bR,etk]at bm;refine j6 ?_;refine qC ?_ ?_<;>intro h5
     .have u5:d.k=1:=I h5;refine cW 9 ?_;refine hY b5E ?_;refine hY W9 ?_;refine hY b7u ?_;refine hY b5Q ?_;refine hY b4P ?_;refine hY a5L ?_;refine hY (c4 J Tryz.call201 o8 (b2p d.params _ [44,32] J X (λs hs=>⟨c6F (hd.par s hs).1,by have:=b5p hd s hs;omega⟩) _) J) ?_;refine hY (I2 J O O J J a8m) ?_;refine hY b5Q ?_;refine W1 ?_;refine qD (c5 J a3h i7 (A1 a5h _ (([112,97,99,107,97,103,101,32]++x.pkg++[59,10])++T2 x.imports) (λc hc=>by cases hc) ([102,117,110,99,32]++d.name++[40]++K7 [44,32] d.params++[41,32,61,32]) a8m (q:=2) (k:=kpn 4 ph) ⟨J,by cases ph<;>rfl,by cases ph<;>exact n_5 J⟩) J ?_);intro _ _;refine qN [.box x.cells,.box d.cells,F8 tSB 2 6 true (([112,97,99,107,97,103,101,32]++x.pkg++[59,10])++T2 x.imports++([102,117,110,99,32]++d.name++[40]++K7 [44,32] d.params++[41,32,61,32])) [],.dead,.dead,.dead,A7 tU8 (([112,97,99,107,97,103,101,32]++x.pkg++[59,10])++T2 x.imports++([102,117,110,99,32]++d.name++[40]++K7 [44,32] d.params++[41,32,61,32])).length] Q5 ?_;refine W c8B ?_;refine qD (c5 J a3h i7 (A1 a5h _ (([112,97,99,107,97,103,101,32]++x.pkg++[59,10])++T2 x.imports++([102,117,110,99,32]++d.name++[40]++K7 [44,32] d.params++[41,32,61,32])) (λc hc=>by cases hc) (X1 d++[59,10]) a8m (q:=2) (k:=6) ⟨J,J,n_5 J⟩) J ?_);intro _ _;refine qN [.box x.cells,.box d.cells,F8 tSB 2 7 true (([112,97,99,107,97,103,101,32]++x.pkg++[59,10])++T2 x.imports++([102,117,110,99,32]++d.name++[40]++K7 [44,32] d.params++[41,32,61,32])++(X1 d++[59,10])) [],.dead,.dead,.dead,.dead,A7 tU8 (([112,97,99,107,97,103,101,32]++x.pkg++[59,10])++T2 x.imports++([102,117,110,99,32]++d.name++[40]++K7 [44,32] d.params++[41,32,61,32])++(X1 d++[59,10])).length] J (qD (c5 J b9J ⟨O,O⟩ (a3L (rest:=[]) (T:=tSB) (λc hc=>by cases hc) true (([112,97,99,107,97,103,101,32]++x.pkg++[59,10])++T2 x.imports++([102,117,110,99,32]++d.name++[40]++K7 [44,32] d.params++[41,32,61,32])++(X1 d++[59,10])) (q:=2) (k:=7) ⟨J,J,n_5 J⟩) J ?_));intro _ _;refine c6 ?_;exact⟨_,r3 (rs:=[.tmp 4,.tmp 5]) (cs:=[_,_]) J T8 (n_5 J),_,_,J,J,(by rw[a1L];rw[a6a,F u5];exact .old (D7 (cs:=[sv _,iv 0]) ⟨.val _,.val _,O⟩).old)⟩
     .have u5:¬d.k=1:=I h5;refine qC ?_ ?_<;>intro h6
      .have u6:d.k=2:=I h6;refine W b7u ?_;refine W b5Q ?_;refine qD (c5 J a3h i7 (A1 a5h _ (([112,97,99,107,97,103,101,32]++x.pkg++[59,10])++T2 x.imports) (λc hc=>by cases hc) ([116,101,115,116,32]++d.name++[32,61,32]) a8m (q:=2) (k:=kpn 4 ph) ⟨J,by cases ph<;>rfl,by cases ph<;>exact n_5 J⟩) J ?_);intro _ _;refine qN [.box x.cells,.box d.cells,F8 tSB 2 6 true (([112,97,99,107,97,103,101,32]++x.pkg++[59,10])++T2 x.imports++([116,101,115,116,32]++d.name++[32,61,32])) [],.dead,.dead,.dead,A7 tU8 (([112,97,99,107,97,103,101,32]++x.pkg++[59,10])++T2 x.imports++([116,101,115,116,32]++d.name++[32,61,32])).length] Q5 ?_;refine W c8B ?_;refine qD (c5 J a3h i7 (A1 a5h _ (([112,97,99,107,97,103,101,32]++x.pkg++[59,10])++T2 x.imports++([116,101,115,116,32]++d.name++[32,61,32])) (λc hc=>by cases hc) (X1 d++[59,10]) a8m (q:=2) (k:=6) ⟨J,J,n_5 J⟩) J ?_);intro _ _;refine qN [.box x.cells,.box d.cells,F8 tSB 2 7 true (([112,97,99,107,97,103,101,32]++x.pkg++[59,10])++T2 x.imports++([116,101,115,116,32]++d.name++[32,61,32])++(X1 d++[59,10])) [],.dead,.dead,.dead,.dead,A7 tU8 (([112,97,99,107,97,103,101,32]++x.pkg++[59,10])++T2 x.imports++([116,101,115,116,32]++d.name++[32,61,32])++(X1 d++[59,10])).length] J (qD (c5 J b9J ⟨O,O⟩ (a3L (rest:=[]) (T:=tSB) (λc hc=>by cases hc) true (([112,97,99,107,97,103,101,32]++x.pkg++[59,10])++T2 x.imports++([116,101,115,116,32]++d.name++[32,61,32])++(X1 d++[59,10])) (q:=2) (k:=7) ⟨J,J,n_5 J⟩) J ?_));intro _ _;refine c6 ?_;exact⟨_,r3 (rs:=[.tmp 4,.tmp 5]) (cs:=[_,_]) J T8 (n_5 J),_,_,J,J,(by rw[a1L];rw[a6a,D u5,F u6];exact .old (D7 (cs:=[sv _,iv 0]) ⟨.val _,.val _,O⟩).old)⟩
      .have u6:¬d.k=2:=I h6;refine W b7u ?_;refine W b5Q ?_;refine qD (c5 J a3h i7 (A1 a5h _ (([112,97,99,107,97,103,101,32]++x.pkg++[59,10])++T2 x.imports) (λc hc=>by cases hc) ([103,101,110,32,34]++d.name++[34,32,61,32]) a8m (q:=2) (k:=kpn 4 ph) ⟨J,by cases ph<;>rfl,by cases ph<;>exact n_5 J⟩) J ?_);intro _ _;refine qN [.box x.cells,.box d.cells,F8 tSB 2 6 true (([112,97,99,107,97,103,101,32]++x.pkg++[59,10])++T2 x.imports++([103,101,110,32,34]++d.name++[34,32,61,32])) [],.dead,.dead,.dead,A7 tU8 (([112,97,99,107,97,103,101,32]++x.pkg++[59,10])++T2 x.imports++([103,101,110,32,34]++d.name++[34,32,61,32])).length] Q5 ?_;refine W c8B ?_;refine qD (c5 J a3h i7 (A1 a5h _ (([112,97,99,107,97,103,101,32]++x.pkg++[59,10])++T2 x.imports++([103,101,110,32,34]++d.name++[34,32,61,32])) (λc hc=>by cases hc) (X1 d++[59,10]) a8m (q:=2) (k:=6) ⟨J,J,n_5 J⟩) J ?_);intro _ _;refine qN [.box x.cells,.box d.cells,F8 tSB 2 7 true (([112,97,99,107,97,103,101,32]++x.pkg++[59,10])++T2 x.imports++([103,101,110,32,34]++d.name++[34,32,61,32])++(X1 d++[59,10])) [],.dead,.dead,.dead,.dead,A7 tU8 (([112,97,99,107,97,103,101,32]++x.pkg++[59,10])++T2 x.imports++([103,101,110,32,34]++d.name++[34,32,61,32])++(X1 d++[59,10])).length] J (qD (c5 J b9J ⟨O,O⟩ (a3L (rest:=[]) (T:=tSB) (λc hc=>by cases hc) true (([112,97,99,107,97,103,101,32]++x.pkg++[59,10])++T2 x.imports++([103,101,110,32,34]++d.name++[34,32,61,32])++(X1 d++[59,10])) (q:=2) (k:=7) ⟨J,J,n_5 J⟩) J ?_));intro _ _;refine c6 ?_;exact⟨_,r3 (rs:=[.tmp 4,.tmp 5]) (cs:=[_,_]) J T8 (n_5 J),_,_,J,J,(by rw[a1L];rw[a6a,D u5,D u6];exact .old (D7 (cs:=[sv _,iv 0]) ⟨.val _,.val _,O⟩).old)⟩
def V9(n:Nat):U:=if h:n<128 then [UInt8.ofNat n]else UInt8.ofNat (n%128+128)::V9 (n / 128)
termination_by n
decreasing_by omega
theorem Y9(n:Nat):V9 n=if n<128 then [UInt8.ofNat n]else UInt8.ofNat (n%128+128)::V9 (n / 128):=by
 rw[V9]
 split<;>rfl
theorem a3Q{k:Nat}(h:n<128^(k+1)):(V9 n).length<=k+1:=by
 induction k generalizing n with
 |zero=>rw[Y9,F (I h)];exact n_7 _
 |succ k ih=>
  rw[Y9]
  split
  .simp
  .have:=ih (n:=n / 128) (by rw[Nat.pow_succ]at h;exact Nat.div_lt_of_lt_mul (by rw[b4V];exact h));simp;omega
def H6(l s:U):U:=l++V9 s.length++s
theorem d9z:∀x:Fin 256,(x.val |||128)=x.val%128+128:=by decide
theorem e2I:(n%256) |||128=n%128+128:=by
 have h:∀x:Fin 256,(x.val |||128)=x.val%128+128:=d9z;have:=h ⟨n%256,a4l _ G⟩;simp only at this;omega
theorem d1H(h:n<256):((UInt8.ofNat n).toNat:Int)=(n:Int):=by
 rw[b7A,b52 (I h)]
theorem e0v(n:Nat):IntKind.u8.wrap (n:Int)=((n%256:Nat):Int):=by
 simp[IntKind.wrap,IntKind.signed,IntKind.bits]
theorem b28{C:Ctx}{E:Env}{y:Operand}{b:UInt8}{tok:Option Nat}(ey:E.val C y= .list [bcv b] nn tok):∀M w v,Rel C M σ w->RV M w (E.val C y) v->c1L C w M ([b].map bcv) 1 v:=λM w v hr h=>(a5V ey (by intro r hr;simp at hr;subst hr;rfl) M w v hr h).any
theorem d4S{L:Nat}{k p:Nat}(hs:am[p]?=some k):C6 L am (a1g l k) (a1g l p):=by
 refine .list (λr hr c hc=>(a16 l r hr c hc).old) (λj hj=>?_);cases hb:l.length with
 |zero=>rw[hb]at hj;cases hj
 |succ m=>rw[hb]at hj;injection hj with hj;subst hj;exact⟨k,J,hs⟩
theorem d5A(m:Nat):CV.list [[CV.val (.int .u8 ((m%256 |||128:Nat):Int))]] true none= .list [bcv (UInt8.ofNat (m%128+128))] true none:=by
 rw[e2I,bcv,d1H X]
theorem c8I(h:m<128):CV.list [[CV.val (.int .u8 (m:Int))]] true none= .list [bcv (UInt8.ofNat m)] true none:=by
 rw[bcv,d1H X]
def b2O(k:Nat)(g:b9):List b9:=List.replicate k .dead++[g]
theorem b2g(k:Nat)(g:b9):(b2O k g).length=k+1:=by simp[b2O]
theorem a8u(k:Nat)(g:b9):(b2O k g)[k]?=some g:=by
 rw[b2O,a1v H];simp
theorem b3c(k:Nat)(g g':b9):(b2O k g).set k .dead++[g']=b2O (k+1) g':=by
 unfold b2O
 congr 1
 rw[List.replicate_succ']
 induction k with
 |zero=>rfl
 |succ k ih=>rw[List.replicate_succ,b0G,List.set_cons_succ,ih];rfl
theorem c07{k:Nat}{g:b9}:D2 1 ((b2O k g).set k .dead++[A7 tU8 l.length]) (.ret (a1g l (b2O k g).length)) (.ret (a1g l 1)) [.dead,A7 tU8 l.length]:=by
 rw[b3c,b2g];refine⟨[0,k+1],J,by simp[a0J],.ret (d4S J),.inl J,.inr ⟨_,a8u _ _,V2 J⟩,O⟩
theorem b8T(l:U)(nn:Bool)(n:Nat)(hl:l.length<=100000000000000)(hn:n<18446744073709551616):b8 CC 204 [(.list (l.map bcv) nn none),.val (.int .u64 (n:Int))] [.dead] λr τ=>D2 1 τ r (.ret (a1g (l++V9 n) 1)) [.dead,A7 tU8 (l++V9 n).length]:=by
 refine qO Tryz.func204 ?_;refine qD (a4v (l:=[]) (new:=l) (p:=0) J J O J (λM w v hr h=>(a5V J (by intro r hr;obtain⟨b,_,rfl⟩:=D5.1 hr;rfl) M w v hr h).any) Z3 a1P b3l a4D J (.inl Z3) J J a96 ?_);refine H3 (α:=U×Nat×Nat) (λx=>[(1,(.val (.int .u64 (x.2.1:Int)))),(5,(a1g x.1 x.2.2))]) (λx=>b2O x.2.2 (A7 tU8 x.1.length)) (λx=>l++V9 n=x.1++V9 x.2.1/\x.2.1<=n) (λx=>x.2.1) (l,n,1) ⟨J,n_7 _⟩ tu_ J ?_;intro⟨b,m,k⟩ _ ⟨hb,hmn⟩;dsimp only at hb hmn⊢;have ak:b.length<=l.length+10:=by
  have h1:=n_8 List.length hb;have h2:=a3Q (n:=n) (k:=9) X;simp only[n_6]at h1;omega
 refine qk (qC ?_ ?_)<;> intro h1
 .have fx:¬m<128:=by have:=a6B h1;omega
  rw[Y9 m,D fx]at hb;refine W (a7a J O J b8a b3H (e0v m)) ?_;refine W (e1R (a:=(m%256)) (b:=128) J O J J J (a4l _ G) G) ?_;refine W (B1 [[.val (.int .u8 ((m%256 |||128:Nat):Int))]] J ⟨O,O⟩ Z3 a1P a4D J J J J J J J J J) ?_;refine qD (a4v (l:=b) (new:=[UInt8.ofNat (m%128+128)]) (p:=k) J O O J (b28 (d5A m)) Z3 a1P b3l a4D J (.inl Z3) J (a8u _ _) a96 ?_);refine W (e0Y (m:=7) J O J J J G (show(m:Int) / 2^7=((m / 128:Nat):Int) by omega)) ?_;exact⟨(b++[UInt8.ofNat (m%128+128)],m / 128,k+1),(show m / 128<m by omega),(show l++V9 n=(b++[UInt8.ofNat (m%128+128)])++V9 (m / 128)/\m / 128<=n from⟨by rw[hb];simp,X⟩),⟨o0,⟨O,(n_8 (a1g _) (b2g k _))⟩,O⟩,(b3c _ _ _)⟩
 .have fx:m<128:=by have:=b0k h1;omega
  rw[Y9 m,F fx]at hb;refine j6 ?_;refine W e2M ?_;refine e2g ?_;refine c6 ?_;exact⟨_,rE1,(by rw[hb];exact c07)⟩
theorem b9k(h:n<18446744073709551616):IntKind.u64.wrap (n:Int)=(n:Int):=by
 simp[IntKind.wrap,IntKind.signed,IntKind.bits];omega
theorem c2D(l:U)(nn:Bool)(n:Nat)(hl:l.length<=100000000000000)(hn:n<18446744073709551616)(σ:List b9):b8 CC 204 [(.list (l.map bcv) nn none),.val (.int .u64 (n:Int))] σ λr τ=>∃_:Unit,r= .ret (a1g (l++V9 n) (σ.length+1))/\τ=σ++[.dead,A7 tU8 (l++V9 n).length]/\True:=
 W8 (α:=Unit) hCC (λa ha=>by simp at ha;rcases ha with rfl|rfl;exact a2j _ _;exact .val _) (res:=λ_=>.ret (a1g (l++V9 n) 1)) (res':=λ_ m=>.ret (a1g (l++V9 n) (m+1))) (S:=λ_=>[.dead,A7 tU8 (l++V9 n).length]) (S':=λ_ _=>[.dead,A7 tU8 (l++V9 n).length]) (P:=λ_=>True)
  (a0s (G5 hCC ((b8T l nn n hl hn).mono λr τ h=>⟨_,_,h,(),J,J,O⟩))) (λ_ _=>J) (λ_ m i x h=>by
   rcases i with _|_|i
   .injection h with h;subst h;exact⟨_,J,.dead⟩
   .injection h with h;subst h;exact⟨_,J,a3N _ _⟩
   .cases h) (λ_ m=>.ret (b19 J)) σ
theorem c7X{τ:List b9}{k:Nat}(h:l=l'):Cls n τ (a1g l k) (.list (l'.map bcv) (gnn l'.length) none):=by
 subst h;refine .list J (λi r r' h h'=>by rw[h]at h';injection h' with h';rw[h']) (λi j r r' c c' h h' g g'=>?_);rw[h]at h';injection h' with h';subst h'
 rw[g]at g';injection g' with g';subst g'
 exact .old (a16 l r (n_2 h) c (n_2 g)).old
theorem a1X(l:U)(nn:Bool)(s:U)(hl:l.length<=100000000000)(hs:s.length<=100000000000)(σ:List b9):b8 CC 159 [(.list (l.map bcv) nn none),(sv s)] σ λr aa=>r= .ret (.list ((H6 l s).map bcv) (gnn (H6 l s).length) none)/\aa=σ:=by
 refine b8.anyw hCC pu_ pu_ (c7 (qO Tryz.func159 ?_)) σ;refine W R6 ?_;refine W d2R ?_;refine qD (c5 J Tryz.call204 i7 (c2D l nn s.length X X _) J ?_);have hpu:=a3Q (n:=s.length) (k:=9) X;intro _ _;refine qD (a4v (l:=(l++V9 s.length)) (new:=s) (p:=1) J O O J (b64 J) Z3 a1P b3l a4D J (.inr t_7) J J (by simp only[n_6];omega) ?_);exact d7B
theorem b6U(h:n<10):Lib.decDigits n=[UInt8.ofNat (48+n)]:=by rw[Lib.decDigits,dif_pos h]
theorem e0k(h:¬n<10):Lib.decDigits n=Lib.decDigits (n / 10)++Lib.decDigits (n%10):=by rw[Lib.decDigits,dif_neg h,b6U (a4l _ X)]
theorem a5s:∀(m n:Nat),n<10^(m+1)->(Lib.decDigits n).length<=m+1
 |0,n,h=>by rw[b6U X];simp
 |m+1,n,h=>by
  by_cases h9:n<10
  .rw [b6U h9];simp
  .have:=a5s m (n / 10) (by rw[Nat.pow_succ]at h;omega);rw[Lib.decDigits,dif_neg h9,n_6];simp;omega
theorem e25:∀n:Nat,n<10->(([48,49,50,51,52,53,54,55,56,57]:U).take (n+1)).drop n=[UInt8.ofNat (48+n)]:=by decide
theorem a8t(h:b8 CC 148 [(.val (.int .u64 ((n:Int))))] [] λr aa=>r= .ret (sv (Lib.decDigits n))/\aa=[])(σ:List b9):b8 CC 148 [(.val (.int .u64 ((n:Int))))] σ λr aa=>r= .ret (sv (Lib.decDigits n))/\aa=σ:=
 b8.anyw hCC pu_ pu_ h σ
theorem a9Z(n:Nat)(hn:n<=9223372036854775807)(σ:List b9):b8 CC 148 [(.val (.int .u64 ((n:Int))))] σ λr aa=>r= .ret (sv (Lib.decDigits n))/\aa=σ:=by
 refine b8.anyw hCC pu_ pu_ ?_ σ
 induction n using Nat.strongRecOn
 rename_i n ih;refine c7 (qO Tryz.func148 ?_);refine qC ?_ ?_<;>intro h1
 .have hn9:n<10:=sm_ h1;have e0:IntKind.u64.wrap ((n:Int)+1)=((n+1:Nat):Int):=b9k (n:=n+1) X;refine W a0d ?_;refine W q_6 ?_;refine c6 ?_;exact⟨_,rE1,_,_,J,J,D9 (by rw[b6U hn9];exact n_8 str (e25 n hn9))⟩
 .have hn9:¬n<10:=sm_ h1;have hd:Int.tdiv (n:Int) 10=((n / 10:Nat):Int):=by rfl
  have hm:Int.tmod (n:Int) 10=((n%10:Nat):Int):=by rfl
  have g1:=a5s 18 (n / 10) X;have g2:=a5s 18 (n%10) X;have e1:IntKind.u64.wrap ((n:Int).tdiv 10)=((n / 10:Nat):Int):=by rw[hd];exact b9k X
  have e2:(n:Int).tmod 10=((n%10:Nat):Int):=by exact hm
  refine W (a0Z J O J J J (J)) ?_;refine W (c4 J c39 ⟨O,O⟩ (by have h:=a8t (ih (n / 10) X X) [];rw[<- e1]at h;exact h) J) ?_;refine W (a0Z J O J J J (J)) ?_;refine W (c4 J c39 ⟨O,O⟩ (by have h:=a8t (ih (n%10) X X) [];rw[<- e2]at h;exact h) J) ?_;refine W a2k ?_;refine c6 ?_;exact⟨_,rE1,_,_,J,J,D9 (n_8 str (e0k hn9).symm)⟩
theorem a5Y(u:Int)(h0: -9007199254740992<=u)(dW:u<=9007199254740992)(σ:List b9):b8 CC 95 [iv u] σ λr aa=>r= .ret (sv (Lib.itoa u))/\aa=σ:=by
 refine b8.anyw hCC pu_ pu_ (c7 (qO Tryz.func95 ?_)) σ;refine qC ?_ ?_<;>intro h1
 .have hu:u<0:=I h1;obtain⟨m,rfl⟩:∃m:Nat,u= -(m:Int):=⟨u.natAbs,X⟩;have g1:=a5s 18 m X;have w1:IntKind.i64.wrap (0- (-(m:Int)+1))=((m-1:Nat):Int):=by rw[b0W X X];omega
  have w2:IntKind.u64.wrap (IntKind.u64.wrap (IntKind.i64.wrap (0- (-(m:Int)+1)))+1)=(m:Int):=by
   rw[w1,b9k X,show(((m-1:Nat):Int)+1)=(m:Int) by omega,b9k X]
  refine W j9 ?_;refine W (c8Z J O J) ?_;refine W (a7a J O J d0x b8a J) ?_;refine W a0d ?_;refine W (c4 J c39 ⟨O,O⟩ (by have h:=a9Z m X [];rw[<- w2]at h;exact h) J) ?_;refine W a5D ?_;refine c6 ?_;exact⟨_,a1V J O J,_,_,J,J,D9 (n_8 str (Lib.itoa_neg m X).symm)⟩
 .have hu:¬u<0:=I h1;obtain⟨m,rfl⟩:∃m:Nat,u=(m:Int):=⟨u.toNat,X⟩;refine W d2R ?_;refine W (c4 J c39 ⟨O,O⟩ (a9Z m X _) J) ?_;refine c6 ?_;exact⟨_,a1V J O J,_,_,J,J,D9 (n_8 str (Lib.itoa_nonneg m).symm)⟩
theorem u0{a:Int}(h:(a == b)=true):a=b:=I h
theorem r9{a:Int}(h:(a == b)=false):¬a=b:=I h
theorem b2V(x:Ex)(σ:List b9):b8 CC 271 [(.agg x.cells)] σ λr aa=>r= .ret (iv (a4E x.k x.op))/\aa=σ:=by
 refine b8.anyw hCC pu_ pu_ (c7 (qO Tryz.func271 ?_)) σ;refine qD (I0 J O j3 j5 ?_);refine qC ?_ ?_<;>intro h1
 .have u1:x.k=5:=I h1;exact d8t
 .have u1:¬x.k=5:=I h1;refine qC ?_ ?_<;>intro h2
  .have u2:¬x.k=4:=I h2;exact d8Y
  .have u2:x.k=4:=I h2;refine qC ?_ ?_<;>intro h3
   .have v3:=u0 h3;refine qC ?_ ?_<;>intro h4
    .have v4:=u0 h4;exact b3Z
    .have v4:=r9 h4;refine qC ?_ ?_<;>intro h5
     .have v5:=u0 h5;refine qC ?_ ?_<;>intro h6
      .have v6:=u0 h6;exact b3Z
      .have v6:=r9 h6;exact b3Z
     .have v5:=r9 h5;refine qC ?_ ?_<;>intro h7
      .have v7:=u0 h7;exact b3Z
      .have v7:=r9 h7;exact b3Z
   .have v3:=r9 h3;refine qC ?_ ?_<;>intro h8
    .have v8:=u0 h8;exact b3Z
    .have v8:=r9 h8;refine qC ?_ ?_<;>intro h9
     .have v9:=u0 h9;refine qC ?_ ?_<;>intro bb
      .have iF:=u0 bb;exact b3Z
      .have iF:=r9 bb;exact b3Z
     .have v9:=r9 h9;refine qC ?_ ?_<;>intro cB
      .have iJ:=u0 cB;exact b3Z
      .have iJ:=r9 cB;exact b3Z
def SG:List U:=[[],[43],[45],[42],[47],[37],[60],[61,61]]
theorem e0c(h:1<=o/\o<=7):SG[o.toNat]?=some (sgn o)/\(sgn o).length<=2:=by
 have:o=1\/o=2\/o=3\/o=4\/o=5\/o=6\/o=7:=by omega
 rcases this with rfl|rfl|rfl|rfl|rfl|rfl|rfl<;>exact⟨J,G⟩
theorem e0X(o:Int):1<=F9 o/\F9 o<=3:=by unfold F9;(repeat(first|split))<;>omega
def RWr(E:List Ex)(ps:List U)(en pn:Bool)(t:Tr)(s:Nat):Prop:=∀(pl:Int) (σ:List b9),b8 CC 226 [.list (E.map Ex.cv) en none,iv ((s+t.size -1:Nat):Int),.list (ps.map scv) pn none,iv pl] σ λr τ=>r= .ret (sv (t.txt ps pl))/\τ=σ
theorem c6M(eG:a9b E (.n k u o nm ch) s)(hn:X2 ps.length k u o nm ch.length)(hI:∀(m:Nat) (c:Tr),ch[m]?=some c->RWr E ps en pn c (s+A0 (ch.take m)))(hL:∀(m:Nat) (c:Tr) (pl:Int),ch[m]?=some c->(c.txt ps pl).length<=100000000)(dh:ch.length<=1000)(hTl:(ndT ps k u o nm (J4 ps ch (a1i k o))).length<=1000000000000)(pl:Int):b8 CC 226 [(.list (E.map Ex.cv) en none),iv ((s+(Tr.n k u o nm ch).size -1:Nat):Int),(.list (ps.map scv) pn none),iv pl] [] λr aa=>r= .ret (sv ((Tr.n k u o nm ch).txt ps pl))/\aa=[]:=by
 refine c7 (cO Tryz.func226 ?_);refine qs 3 (W e0t ?_);refine c2G ?_;refine S3 hCC (α:=U) (λx=>[(3,iv pl),(9,.ptr 0 0),(10,sv x)]) (λ_=>[.box ((⟨k,u,o,nm,o7 ch s⟩:Ex)).cells]) (λx=>x=ndT ps k u o nm (J4 ps ch (a1i k o))) z8 uz_ ?_ ?_
 .
  refine qk (qC ?_ ?_)<;> intro h1
  .have u1:k=1:=u0 h1;have bw:=hn.k1 u1;refine W (c4 J c8j ⟨O,O⟩ (a5Y u bw.1 bw.2 _) J) ?_;exact⟨(Lib.itoa u),_,(by rw[ndT,F u1]),tu_,J⟩
  .have u1:¬k=1:=r9 h1;refine qC ?_ ?_<;>intro h2
   .have u2:k=2:=u0 h2;obtain⟨bK,hk3⟩:=hn.k2 u2;obtain⟨p,hpg⟩:=gx_ ps u.toNat;refine W (p9 J O O J J t_2 t_0 X (j1 hpg) J) ?_;exact⟨p,_,(by rw[ndT,D u1,F u2,a49,hpg];rfl),tu_,J⟩
   .have u2:¬k=2:=r9 h2;refine qC ?_ ?_<;>intro h3
    .have u3:k=3:=u0 h3;have v6:¬k=4:=by omega
     have v8:¬k=5:=by omega
     have gI:=B9 (hn.k3 u3).1;have hpl0:a1i k o=[]:=D v6;have hCl:(J4 ps ch (a1i k o)).length=ch.length:=a5r _ _ _;have hJ:=λm=>a9D [44,32] (J4 ps ch (a1i k o)) m;have hjt:(K7 [44,32] (J4 ps ch (a1i k o))).length<=1000000000000:=by
      rw[ndT,D u1,D u2,D v6,D v8,F u3,n_6,n_6]at hTl;omega
     refine W Z2 ?_;refine W a1z ?_;refine j8 hCC (α:=Nat) (λm=>[(0,(.list (E.map Ex.cv) en none)),(2,(.list (ps.map scv) pn none)),(3,iv pl),(9,.ptr 0 0),(10,sv (nm++[40]++G3 [44,32] (J4 ps ch (a1i k o)) m)),(40,(.list ((o7 ch s).map icv) (gnn (o7 ch s).length) none)),(41,(iv ((o7 ch s).length:Int))),(42,iv m)]) (λ_=>[.box ((⟨k,u,o,nm,o7 ch s⟩:Ex)).cells]) (λm=>m<=ch.length) (λm=>ch.length -m) 0 (n_4 _) ⟨o0,o0,o0,o0,⟨O,(by show sv _=sv _;simp[G3,K7])⟩,o0,o0,o0,O⟩ (ai:=[]) J z8 uz_ ?_;intro m hm;have hJm:=hJ m;refine qk (qC ?_ ?_)<;> intro h4
     .have ab:m<ch.length:=by simp[U2]at h4;omega
      obtain⟨c,hc⟩:∃c,ch[m]?=some c:=⟨ch[m]'ab,H⟩;have hg:=M7 (s:=s) hc;have hx:=a0F ps ch (a1i k o) m c hc;rw[show(a1i k o).getD m 0=0 by rw[hpl0];rfl]at hx;have bO:=hL m c 0 hc;refine W (p9 J O O J J t_6 t_1 X (j1 hg) J) ?_;refine qC ?_ ?_<;>intro h5
      .have hm0:¬m=0:=sm_ h5;refine W Z2 ?_;refine W (c4 J b6Y b2X (hI m c hc 0 _) J) ?_;refine c0W ?_;exact⟨(m+1),_,⟨X,X⟩,⟨o0,o0,o0,o0,⟨O,(by show sv _=sv _;rw[a0l hx,D hm0];simp[C7])⟩,o0,o0,o0,O⟩,J⟩
      .have hm0:m=0:=sm_ h5;refine W (c4 J b6Y b2X (hI m c hc 0 _) J) ?_;refine c0W ?_;exact⟨(m+1),_,⟨X,X⟩,⟨o0,o0,o0,o0,⟨O,(by show sv _=sv _;rw[a0l hx,F hm0];simp[C7])⟩,o0,o0,o0,O⟩,J⟩
     .have bR:m=ch.length:=by simp[U2]at h4;omega
      refine j6 ?_;refine W Z2 ?_;exact⟨(nm++[40]++G3 [44,32] (J4 ps ch (a1i k o)) m++[41]),_,(by rw[ndT,D u1,D u2,D v6,D v8,F u3,G3,bR,<- hCl,a6K]),tu_,J⟩
    .have u3:¬k=3:=r9 h3;refine cC ?_ ?_<;>intro h6
     .have v6:k=4:=u0 h6;have bo:=hn.k4 v6;have gt:=e0X o;obtain⟨hsg,dS⟩:=e0c bo;refine qs 2 (W (c4 J Tryz.call271 ⟨O,O⟩ ((by have h:=b2V (⟨k,u,o,nm,o7 ch s⟩:Ex);rw[show a4E (⟨k,u,o,nm,o7 ch s⟩:Ex).k (⟨k,u,o,nm,o7 ch s⟩:Ex).op=F9 o by show a4E k o=_;rw[a4E,D X,F v6]]at h;exact h _)) J) ?_);refine W j9 ?_;refine S3 hCC (α:=Int) (λx=>[(0,(.list (E.map Ex.cv) en none)),(2,(.list (ps.map scv) pn none)),(3,iv pl),(9,.ptr 0 0),(14,iv x),(15,(iv (F9 o+1)))]) (λ_=>[.box ((⟨k,u,o,nm,o7 ch s⟩:Ex)).cells]) (λx=>x=if F9 o=1 then F9 o+1 else F9 o) z8 uz_ ?_ ?_
      .
       refine qk (qC ?_ ?_)<;> intro h7
       .have w7:F9 o=1:=u0 h7;exact⟨2,_,(by rw[F w7,w7];rfl),tu_,J⟩
       .have w7:¬F9 o=1:=r9 h7;exact⟨(F9 o),_,(by rw[D w7]),tu_,J⟩
      .rintro x hx;obtain⟨c0,c1,rfl⟩:∃a b,ch=[a,b]:=by
        have hc:=hn.cnt;rw[F v6]at hc
        match ch,hc with
        | [a,b],_=>exact⟨a,b,J⟩
       have dy:=hL 0 c0 x J;have cp:=hL 1 c1 (F9 o+1) J;have hoe:(⟨k,u,o,nm,o7 [c0,c1] s⟩:Ex).op=o:=J;refine cW 26 ?_;refine b4e ?_;refine hY d9A ?_;refine c0C ?_;refine hY (c4 J b6Y a1x (hI 0 c0 J x _) J) ?_;refine hY Z2 ?_;refine hY (B1 (SG.map scv) J ⟨J,J,J,J,J,J,J,J,O⟩ t_2 t_0 t_4 J J J J J J J J J) ?_;refine b4E ?_;refine hY (p9 J O O J J t_2 t_0 X (j1 hsg) J) ?_;refine hY a5u ?_;refine hY a2k ?_;refine hY Z2 ?_;refine b4e ?_;refine hY e2m ?_;refine c0C ?_;refine hY (c4 J b6Y a1x (hI 1 c1 J (F9 o+1) _) J) ?_;refine hY a2k ?_;refine a9Y ?_;exact⟨(c0.txt ps x++[32]++sgn o++[32]++c1.txt ps (F9 o+1)),_,(by rw[ndT,D u1,D u2,F v6,a1i,F v6,hx];simp[J4]),tu_,J⟩
     .have v6:¬k=4:=r9 h6;refine qk (qC ?_ ?_)<;> intro h8
      .have v8:k=5:=u0 h8;obtain⟨c0,c1,c2,rfl⟩:∃a b c,ch=[a,b,c]:=by
        have hc:=hn.cnt;rw[D v6,F v8]at hc
        match ch,hc with
        | [a,b,c],_=>exact⟨a,b,c,J⟩
       have dy:=hL 0 c0 0 J;have cp:=hL 1 c1 0 J;have cb:=hL 2 c2 0 J;refine cW 27 ?_;refine b4e ?_;refine hY d9A ?_;refine hY a7U ?_;refine hY A8 ?_;refine hY (c4 J b6Y b2X (hI 0 c0 J 0 _) J) ?_;refine hY a5D ?_;refine hY Z2 ?_;refine b4e ?_;refine hY e2m ?_;refine hY a7U ?_;refine hY A8 ?_;refine hY (c4 J b6Y b2X (hI 1 c1 J 0 _) J) ?_;refine hY a2k ?_;refine hY Z2 ?_;refine b4e ?_;refine hY (p9 J O J J J t_6 t_1 X (j1 (M7 (m:=2) (s:=s) J)) J) ?_;refine hY a7U ?_;refine hY A8 ?_;refine hY (c4 J b6Y b2X (hI 2 c2 J 0 _) J) ?_;refine hY a2k ?_;refine a9Y ?_;exact⟨([105,102,32]++c0.txt ps 0++[32,116,104,101,110,32]++c1.txt ps 0++[32,101,108,115,101,32]++c2.txt ps 0),_,(by rw[ndT,D u1,D u2,D v6,F v8,a1i,D v6];simp[J4]),tu_,J⟩
      .have v8:¬k=5:=r9 h8;refine qC ?_ ?_<;>intro h9
       .have v9:k=6:=u0 h9;have gI:=M5 (hn.k678 (.inl v9));obtain⟨c0,rfl⟩:∃a,ch=[a]:=by
         have hc:=hn.cnt;rw[D v6,D v8,F v9]at hc
         match ch,hc with
         | [a],_=>exact⟨a,J⟩
        have dy:=hL 0 c0 0 J;refine cW 14 ?_;refine c1b ?_;refine hY a5D ?_;refine hY Z2 ?_;refine b4e ?_;refine hY d9A ?_;refine hY a7U ?_;refine hY A8 ?_;refine hY (c4 J b6Y b2X (hI 0 c0 J 0 _) J) ?_;refine hY a2k ?_;refine hY Z2 ?_;refine a9Y ?_;exact⟨([114,101,97,100,40,34]++nm++[34,44,32]++c0.txt ps 0++[41]),_,(by rw[ndT,D u1,D u2,D v6,D v8,D u3,F v9,a1i,D v6];simp[J4]),tu_,J⟩
       .have v9:¬k=6:=r9 h9;refine qC ?_ ?_<;>intro bb
        .have iF:k=7:=u0 bb;have gI:=M5 (hn.k678 (.inr (.inl iF)));refine a3l ?_;exact⟨([115,105,122,101,40,34]++nm++[34,41]),_,(by rw[ndT,D u1,D u2,D v6,D v8,D u3,D v9,D X,a6U];rw[iF];simp),tu_,J⟩
        .have iF:¬k=7:=r9 bb;refine qC ?_ ?_<;>intro cB
         .have iJ:k=8:=u0 cB;have gI:=M5 (hn.k678 (.inr (.inr iJ)));refine a3l ?_;exact⟨([104,97,115,40,34]++nm++[34,41]),_,(by rw[ndT,D u1,D u2,D v6,D v8,D u3,D v9,D X,a6U];rw[iJ];simp),tu_,J⟩
         .have iJ:¬k=8:=r9 cB;refine qC ?_ ?_<;>intro cX
          .have v12:k=9:=u0 cX;have gI:=B9 (hn.k9 v12);refine a3l ?_;exact⟨([101,110,118,40,34]++nm++[34,41]),_,(by rw[ndT,D u1,D u2,D v6,D v8,D u3,D v9,D X,a6U];rw[v12];simp),tu_,J⟩
          .have v12:¬k=9:=r9 cX;refine qC ?_ ?_<;>intro dw
           .have v13:k=10:=u0 dw;have hk10:=hn.k10 v13;have bm:(Lib.itoa u).length<=19:=by
             obtain⟨m,rfl⟩:∃m:Nat,u=(m:Int):=⟨u.toNat,X⟩;rw[Lib.itoa_nonneg];exact a5s 18 m X
            refine W (c4 J c8j ⟨O,O⟩ (a5Y u X X _) J) ?_;refine a3l ?_;exact⟨([102,108,105,112,40]++Lib.itoa u++[41]),_,(by rw[ndT,D u1,D u2,D v6,D v8,D u3,D v9,F v13]),tu_,J⟩
           .exfalso;have v13:¬k=10:=r9 dw;have:=hn.kind;omega
 .rintro x hx;subst hx;have hT:=hTl;refine qk (W (c4 J Tryz.call271 ⟨O,O⟩ (b2V (⟨k,u,o,nm,o7 ch s⟩:Ex) _) J) ?_);refine qC ?_ ?_<;>intro gN
  .have ca:a4E k o<pl:=I gN;refine a3l ?_;refine c6 ?_;exact⟨_,a1V J O J,_,_,J,J,D9 (by rw[Tr.txt,F ca])⟩
  .have ca:¬a4E k o<pl:=I gN;refine c6 ?_;exact⟨_,a1V J O J,_,_,J,J,D9 (by rw[Tr.txt,D ca])⟩
theorem b5r{E:List Ex}{ps:List U}{en pn:Bool}(hE:E.length<=1000)(hp:∀x∈ps,x.length<=80):∀(n:Nat) (t:Tr) (s d:Nat),t.size<=n->a9b E t s->t.wf ps.length d->RWr E ps en pn t s
 |0,t,s,d,hs,_,_=>by have:=t.size_pos;omega
 |n+1,.n k u o nm ch,s,d,hs,eG,hw=>λpl σ=>by
  have hw':=hw;rw[Tr.wf]at hw';have aJ:(Tr.n k u o nm ch).size<=E.length:=by
   obtain⟨E0,E1,he,_⟩:=eG;rw[he,n_6,n_6,Tr.flat_len];omega
  rw[Tr.size]at hs aJ;have fg:∀(m:Nat) (c:Tr),ch[m]?=some c->c.size<=A0 ch:=λm c hc=>by
   have h1:=a4t hc;have h2:=a1o ch (m+1);omega
  have hL:∀(m:Nat) (c:Tr) (pl:Int),ch[m]?=some c->(c.txt ps pl).length<=100000000:=λm c pl hc=>by
   have h1:=Tr.txt_len hp c _ pl (a6g hw'.2.2 hc);have h2:=fg m c hc;omega
  have bO:=a3I ch;have hT:=c4x hp hw'.2.1 (J4 ps ch (a1i k o));have hT2:=a9h hp ch _ (a1i k o) hw'.2.2;rw[a5r]at hT;exact b8.anyw (args:=[_,_,_,_]) hCC ⟨a0M _ _,.val _,F3 _ _,.val _,O⟩ (.val _) (c6M eG hw'.2.1 (λm c hc=>b5r hE hp n c _ _ (by have:=fg m c hc;omega) (eG.child hc) (a6g hw'.2.2 hc)) hL X X pl) σ
theorem c4o(h:DeG d):∀x∈d.params,x.length<=80:=λx hx=>by have:=B9 (h.par x hx).1;omega
theorem c7s(h:DeG d)(en pn:Bool)(σ:List b9):b8 CC 226 [.list (d.body.map Ex.cv) en none,iv ((d.body.length:Int) -1),.list (d.params.map scv) pn none,iv 0] σ λr τ=>r= .ret (sv (X1 d))/\τ=σ:=by
 obtain⟨t,h1,h2,h3⟩:=a8n h;have hl:d.body.length=t.size:=by rw[h1,Tr.flat_len]
 have hp:=t.size_pos;have hb:=h.blen;have:=b5r (E:=d.body) (en:=en) (pn:=pn) X (c4o h) t.size t 0 1 (n_7 _) ⟨[],[],by rw[h1];simp,J⟩ h2 0 σ;rw[show((0+t.size -1:Nat):Int)=(d.body.length:Int) -1 by omega,<- h3]at this;exact this
noncomputable def c0j(d:De):U:=a6a d++(X1 d++[59,10])
theorem c7Z(d:De)(hd:DeG d)(σ:List b9):b8 CC 179 [(.agg d.cells)] σ λr aa=>r= .ret (sv (c0j d))/\aa=σ:=by
 refine an_ Tryz.func179 ?_;refine c86 ?_;refine S3 hCC (α:=U) (λx=>[(1,.ptr 0 0),(3,sv x)]) (λ_=>[.box d.cells]) (λx=>x++[32,61,32]=a6a d/\x.length<=2000) z8 uz_ ?_ ?_
 .
  refine qk (qC ?_ ?_)<;> intro h1
  .have u1:d.k=1:=u0 h1;have gI:=B9 (hd.name X).1;refine a3l ?_;refine W I7 ?_;refine j8 hCC (α:=Nat) (λm=>[(1,.ptr 0 0),(3,sv ([102,117,110,99,32]++d.name++[40]++G3 [44,32] d.params m)),(15,(.list (d.params.map scv) (gnn d.params.length) none)),(16,iv d.params.length),(17,iv m)]) (λ_=>[.box d.cells]) (λm=>m<=d.params.length) (λm=>d.params.length -m) 0 (n_4 _) ⟨o0,⟨O,(by show sv _=sv _;simp[G3,K7])⟩,o0,o0,o0,O⟩ (ai:=[]) J z8 uz_ ?_;intro m hm;have hJ:=a9D [44,32] d.params m;have hJ2:=a4a [44,32] d.params;have hJ3:=b6D (b5p hd);have ba:=hd.parl;have e2:([44,32]:U).length=2:=J;rw[e2]at hJ2;refine qk (qC ?_ ?_)<;> intro h2
   .have ab:m<d.params.length:=sm_ h2;obtain⟨y,hy⟩:∃y,d.params[m]?=some y:=⟨d.params[m]'ab,H⟩;have dY:=c4o hd y (n_2 hy);refine W b4m ?_;refine qC ?_ ?_<;>intro h3
    .have hm0:¬m=0:=sm_ h3;refine W Z2 ?_;refine c0W ?_;exact⟨(m+1),_,⟨X,X⟩,⟨o0,⟨O,(by show sv _=sv _;rw[a0l hy,D hm0];simp[C7])⟩,o0,o0,o0,O⟩,J⟩
    .have hm0:m=0:=sm_ h3;refine c0W ?_;exact⟨(m+1),_,⟨X,X⟩,⟨o0,⟨O,(by show sv _=sv _;rw[a0l hy,F hm0];simp[C7])⟩,o0,o0,o0,O⟩,J⟩
   .have bR:m=d.params.length:=sm_ h2;refine j6 ?_;refine W Z2 ?_;exact⟨([102,117,110,99,32]++d.name++[40]++G3 [44,32] d.params m++[41]),_,⟨by rw[a6a,F u1,G3,bR,a6K];simp,by simp only[n_6,C5,J6];omega⟩,tu_,J⟩
  .have u1:¬d.k=1:=r9 h1;refine qC ?_ ?_<;>intro h4
   .have u2:d.k=2:=u0 h4;have gI:=B9 (hd.name X).1;refine W a5D ?_;exact⟨([116,101,115,116,32]++d.name),_,⟨by rw[a6a,D u1,F u2];first|done|simp,by simp only[n_6,C5,J6];omega⟩,tu_,J⟩
   .have u2:¬d.k=2:=r9 h4;refine qC ?_ ?_<;>intro h5
    .have u3:d.k=3:=u0 h5;have gI:=M5 (hd.path u3);refine a3l ?_;exact⟨([103,101,110,32,34]++d.name++[34]),_,⟨by rw[a6a,D u1,D u2];first|done|simp,by simp only[n_6,C5,J6];omega⟩,tu_,J⟩
    .exfalso;have u3:¬d.k=3:=r9 h5;have:=hd.kind;omega
 .rintro x ⟨hx,hxl⟩;have hbl:=a9c hd;have hb:=hd.blen;refine qk (W Z2 ?_);refine b7L ?_;refine W (c4 J b6Y b2X (c7s hd _ _ _) J) ?_;refine b1s ?_;refine c6 ?_;exact⟨_,a1V J O J,_,_,J,J,D9 (by rw[c0j,<- hx];simp[C7])⟩
theorem c6E(x:Src)(h:a10 x)(σ:List b9):b8 CC 178 [(.agg x.cells)] σ λr aa=>r= .ret (sv (([112,97,99,107,97,103,101,32]++x.pkg++[59,10])++T2 x.imports))/\aa=σ:=by
 refine b8.anyw hCC pu_ pu_ ?_ σ;have eD:=B9 h.pkg.1;have gp:∀s∈x.imports,s.length<=80:=λs hs=>by have:=B9 (h.imp s hs).1;omega
 refine c7 (qO Tryz.func178 ?_);refine qD (I0 J O j3 j5 ?_);refine a3l ?_;refine W I7 ?_;refine j8 hCC (α:=Nat) (λm=>[(3,sv (([112,97,99,107,97,103,101,32]++x.pkg++[59,10])++T2 (x.imports.take m))),(11,(.list (x.imports.map scv) (gnn x.imports.length) none)),(12,iv x.imports.length),(13,iv m)]) (λ_=>[.box x.cells]) (λm=>m<=x.imports.length) (λm=>x.imports.length -m) 0 (n_4 _) ⟨⟨O,(by show sv _=sv _;simp[T2])⟩,o0,o0,o0,O⟩ (ai:=[]) J z8 uz_ ?_;intro m hm;have hI8:=a8s gp m;have himl:=h.impl;have eD:=B9 h.pkg.1;refine qk (qC ?_ ?_)<;> intro h1
 .have ab:m<x.imports.length:=sm_ h1;obtain⟨y,hy⟩:∃y,x.imports[m]?=some y:=⟨x.imports[m]'ab,H⟩;have dY:=gp y (n_2 hy);refine W b4m ?_;refine a3l ?_;refine c0W ?_;exact⟨(m+1),_,⟨X,X⟩,⟨⟨O,(by show sv _=sv _;rw[a1H,hy];simp[T2,C7])⟩,o0,o0,o0,O⟩,J⟩
 .have bR:m=x.imports.length:=sm_ h1;refine z_9 ?_;exact⟨_,a1V J O J,_,_,J,J,D9 (by rw[bR,a6K])⟩
theorem a6r(s:U)(hs:s.length<=1000000000)(σ:List b9):b8 CC 221 [(sv s)] σ λr aa=>r= .ret (.val (.bool (C4 s&& !S7 s)))/\aa=σ:=by
 refine b8.anyw hCC pu_ pu_ (c7 (qO Tryz.func221 ?_)) σ;refine W (c4 J c30 ⟨O,O⟩ (a6k s _) J) ?_;refine qG D4 ?_;refine qG (λhg=>c4 J Tryz.call229 ⟨hg,O⟩ (a62 s _) J) ?_;refine qG a29 ?_;refine b0D ?_;exact⟨_,a1V J O J,_,_,J,J,j4 J⟩
def arK(k:Int):Int:=if k=3 then -1 else if k=4 then 2 else if k=5 then 3 else if k=6 then 1 else 0
theorem c1R(k:Int)(σ:List b9):b8 CC 270 [iv k] σ λr aa=>r= .ret (iv (arK k))/\aa=σ:=by
 refine b8.anyw hCC pu_ pu_ (c7 (qO Tryz.func270 ?_)) σ;refine qC ?_ ?_<;>intro h1
 .have u1:=u0 h1;exact d0J
 .have u1:=r9 h1;refine qC ?_ ?_<;>intro h2
  .have u2:=u0 h2;exact d0J
  .have u2:=r9 h2;refine qC ?_ ?_<;>intro h3
   .have u3:=u0 h3;exact d0J
   .have u3:=r9 h3;refine qC ?_ ?_<;>intro h4
    .have u4:=u0 h4;exact d0J
    .have u4:=r9 h4;exact d0J
theorem c2B(x:Ex)(np c:Nat)(h:X2 np x.k x.num x.op x.name c)(σ:List b9):b8 CC 222 [(.agg x.cells),iv np] σ λr aa=>r= .ret (.val (.bool true))/\aa=σ:=by
 refine b8.anyw hCC pu_ pu_ (c7 (qO Tryz.func222 ?_)) σ;refine qD (I0 J O j3 j5 ?_);refine b2l ?_;refine b2l ?_;refine b2l ?_;refine b2l ?_;refine b2l ?_;refine b2l ?_;refine b2l ?_;refine qG D4 ?_;refine qG a29 ?_;refine qG b0i ?_;refine qH J J (λhk hg=>j7 J O J a68 J t_0 G) ?_;refine qH J J (λhk hg=>o6 J ⟨hk,hg⟩ J Y4 J J) ?_;refine qH J J (λhk hg=>a1F J ⟨hk,hg⟩ J J J (b1u _ _)) ?_;refine qG c5I ?_;refine W S6 ?_;refine qG D4 ?_;refine qG a29 ?_;refine qG b0i ?_;refine d7v ?_;refine d5Z ?_;refine W S6 ?_;refine c7D ?_;refine b7M ?_;refine d7v ?_;refine d5Z ?_;refine W S6 ?_;refine qC ?_ ?_<;>intro h1
 .exfalso;have hk:=h.kind;have hn:=h.num;have ho:=h.op;have bN:=h.name;simp only[a8Z,T7,c02,a1G,c0r,beq_eq_false_iff_ne,bne_iff_ne,ne_eq]at h1
  rcases h1 with(((h1|h1)|⟨h1,h2⟩)|⟨h1,h2⟩)|⟨h1,h2⟩<;>first|omega|exact b0k h2 (bN X)|exact h2 (hn X X X)|exact h2 (ho h1)
 .refine qC ?_ ?_<;>intro h2
  .have u2:=u0 h2;refine c7D ?_;refine a4k ?_;exact b0K
  .have u2:=r9 h2;refine qC ?_ ?_<;>intro h3
   .have u3:=u0 h3;refine c7D ?_;refine qG D4 ?_;refine qG b5j ?_;refine W N9 ?_;exact b0K
   .have u3:=r9 h3;refine qC ?_ ?_<;>intro h4
    .have u4:=u0 h4;refine c7D ?_;refine a4k ?_;exact b0K
    .have u4:=r9 h4;refine qC ?_ ?_<;>intro h5
     .have u5:=u0 h5;refine c7D ?_;refine a4k ?_;exact b0K
     .have u5:=r9 h5;refine qC ?_ ?_<;>intro h6
      .have u6:=u0 h6;refine W (c4 J c4T ⟨O,O⟩ (a6r x.name (by have:=h.len;omega) _) J) ?_;exact b0K
      .have u6:=r9 h6;refine qC ?_ ?_<;>intro h7
       .have u7:=u0 h7;refine W (c4 J c30 ⟨O,O⟩ (a6k x.name _) J) ?_;exact b0K
       .have u7:=r9 h7;refine qC ?_ ?_<;>intro h8
        .have u8:=u0 h8;refine qC ?_ ?_<;>intro h9
         .have u9:=u0 h9;refine W d1m ?_;exact b0K
         .have u9:=r9 h9;exact b0K
        .have u8:=r9 h8;refine qC ?_ ?_<;>intro bb
         .have u10:=u0 bb;refine qC ?_ ?_<;>intro cB
          .have u11:=u0 cB;refine W d1m ?_;exact b0K
          .have u11:=r9 cB;exact b0K
         .have u10:=r9 bb;refine qC ?_ ?_<;>intro cX
          .have u12:=u0 cX;refine W d1m ?_;exact b0K
          .have u12:=r9 cX;exact b0K
mutual
def Tr.dp:Tr->Nat
 | .n k _ _ _ ch=>dpL k ch 1
def dpL(k:Int):List Tr->Nat->Nat
 | [],n=>n
 |c::l,n=>dpL k l (max n (c.dp+if k=4 then 0 else 1))
end
theorem d0b{l:List Tr}(h:l[m]?=some c)(n:Nat):dpL k (l.drop m) n=dpL k (l.drop (m+1)) (max n (c.dp+if k=4 then 0 else 1)):=by
 obtain⟨ab,rfl⟩:=n_3.1 h;rw[R0 ab,dpL]
mutual
theorem Tr.dp_le{np:Nat}:∀(t:Tr) (d:Nat),t.wf np d->t.dp+d<=33
 | .n k u o nm ch,d,h=>by
  rw[Tr.wf]at h;rw[Tr.dp];exact d2O ch k d 1 X h.2.2
theorem d2O{np:Nat}:∀(l:List Tr) (k:Int) (d n:Nat),n+d<=33->wfL np (if k=4 then d else d+1) l->dpL k l n+d<=33
 | [],k,d,n,hn,_=>by rw[dpL];exact hn
 |c::l,k,d,n,hn,h=>by
  rw[wfL]at h;have h1:=Tr.dp_le c _ h.1;rw[dpL];refine d2O l k d _ ?_ h.2;split at h1<;>rename_i hk<;>simp only[hk,if_true,if_false]at*<;> omega
end
def RDp(E:List Ex)(en:Bool)(t:Tr)(s:Nat):Prop:=∀(σ:List b9),b8 CC 225 [.list (E.map Ex.cv) en none,iv ((s+t.size -1:Nat):Int)] σ λr τ=>r= .ret (iv t.dp)/\τ=σ
theorem c9N(eG:a9b E (.n k u o nm ch) s)(hI:∀(m:Nat) (c:Tr),ch[m]?=some c->RDp E en c (s+A0 (ch.take m)))(hB:∀(m:Nat) (c:Tr),ch[m]?=some c->c.dp<=1000)(dh:ch.length<=1000):b8 CC 225 [(.list (E.map Ex.cv) en none),(iv ((s+(Tr.n k u o nm ch).size -1:Nat):Int))] [] λr aa=>r= .ret (iv ((Tr.n k u o nm ch).dp:Int))/\aa=[]:=by
 refine c7 (qO Tryz.func225 ?_);refine W e0t ?_;refine W a1z ?_;refine j8 hCC (α:=Nat×Nat) (λa=>[(0,(.list (E.map Ex.cv) en none)),(1,(iv ((s+(Tr.n k u o nm ch).size -1:Nat):Int))),(5,iv a.2),(13,(.list ((o7 ch s).map icv) (gnn (o7 ch s).length) none)),(14,(iv ((o7 ch s).length:Int))),(15,iv a.1)]) (λ_=>[]) (λa=>a.1<=ch.length/\a.2<=1001/\(Tr.n k u o nm ch).dp=dpL k (ch.drop a.1) a.2) (λa=>ch.length -a.1) (0,1) ⟨n_4 _,G,by rw[Tr.dp];rfl⟩ tu_ (ai:=[]) J z8 uz_ ?_;rintro⟨m,n⟩ ⟨hm,hnb,hr⟩;dsimp only at hm hnb hr⊢;refine qk (qC ?_ ?_)<;> intro h1
 .have ab:m<ch.length:=by simp[U2]at h1;omega
  obtain⟨c,hc⟩:∃c,ch[m]?=some c:=⟨ch[m]'ab,H⟩;have hg:=M7 (s:=s) hc;rw[d0b hc]at hr;have hcb:=hB m c hc;refine W (p9 J O O J J t_6 t_1 X (j1 hg) J) ?_;refine W (c4 J Tryz.call225 i7 (hI m c hc _) J) ?_;refine W e0t ?_;refine qC ?_ ?_<;>intro h2
  .have hk4:¬k=4:=I h2;rw[D hk4]at hr;refine W j9 ?_;refine W (c8t J O O J J) ?_;refine W j9 ?_;exact⟨(m+1,max n (c.dp+1)),_,⟨Q,Q,Q,hr⟩,⟨o0,o0,⟨O,(by show(iv (max (n:Int) ((c.dp:Int)+1)))=iv ((max n (c.dp+1):Nat):Int);congr 2;omega)⟩,o0,o0,o0,O⟩,J⟩
  .have hk4:k=4:=I h2;rw[F hk4]at hr;refine W (c8t J O O J J) ?_;refine W j9 ?_;exact⟨(m+1,max n (c.dp+0)),_,⟨Q,Q,Q,hr⟩,⟨o0,o0,⟨O,(by show(iv (max (n:Int) (c.dp:Int)))=iv ((max n (c.dp+0):Nat):Int);congr 2;omega)⟩,o0,o0,o0,O⟩,J⟩
 .have bR:m=ch.length:=by simp[U2]at h1;omega
  rw[bR,a9T,dpL]at hr;refine z_9 ?_;exact⟨_,rE1,_,_,J,J,C9 (by rw[hr])⟩
theorem c09{E:List Ex}{en:Bool}(hE:E.length<=1000){np:Nat}:∀(n:Nat) (t:Tr) (s d:Nat),t.size<=n->a9b E t s->t.wf np d->RDp E en t s
 |0,t,s,d,hs,_,_=>by have:=t.size_pos;omega
 |n+1,.n k u o nm ch,s,d,hs,eG,hw=>λσ=>by
  have hw':=hw;rw[Tr.wf]at hw';have aJ:(Tr.n k u o nm ch).size<=E.length:=by
   obtain⟨E0,E1,he,_⟩:=eG;rw[he,n_6,n_6,Tr.flat_len];omega
  rw[Tr.size]at hs aJ;have fg:∀(m:Nat) (c:Tr),ch[m]?=some c->c.size<=A0 ch:=λm c hc=>by
   have h1:=a4t hc;have h2:=a1o ch (m+1);omega
  have bO:=a3I ch;exact b8.anyw (args:=[_,_]) hCC ⟨a0M _ _,.val _,O⟩ (.val _) (c9N eG (λm c hc=>c09 hE n c _ _ (by have:=fg m c hc;omega) (eG.child hc) (a6g hw'.2.2 hc)) (λm c hc=>by have:=Tr.dp_le c _ (a6g hw'.2.2 hc);omega) X) σ
theorem c8S(h:DeG d)(en:Bool)(σ:List b9):∃n:Nat,n<=32/\b8 CC 225 [.list (d.body.map Ex.cv) en none,iv ((d.body.length:Int) -1)] σ λr τ=>r= .ret (iv n)/\τ=σ:=by
 obtain⟨t,h1,h2⟩:=h.tree;have hl:d.body.length=t.size:=by rw[h1,Tr.flat_len]
 have hp:=t.size_pos;have hb:=h.blen;have hdp:=Tr.dp_le t 1 h2;have:=c09 (E:=d.body) (en:=en) X t.size t 0 1 (n_7 _) ⟨[],[],by rw[h1];simp,J⟩ h2 σ;rw[show((0+t.size -1:Nat):Int)=(d.body.length:Int) -1 by omega]at this;exact⟨t.dp,X,this⟩
def fiD(k:Int)(o pa pk:U):List De->Nat->En->En
 | [],_,e=>e
 |d::l,j,e=>fiD k o pa pk l (j+1) (if(d.k == k&&decide (d.name=o))=true then(if(e.ct+1 == 1)=true then⟨pk,e.o,e.k,pa,j,e.ct+1⟩else⟨e.p,e.o,e.k,e.pl,e.ix,e.ct+1⟩)else e)
def fiL(k:Int)(p o:U):List (U×Src)->En->En
 | [],e=>e
 |x::l,e=>fiL k p o l (if((k != 3)&& !decide (x.2.pkg=p))=true then e else fiD k o x.1 x.2.pkg x.2.decls 0 e)
def fiE(L:List (U×Src))(k:Int)(p o:U):En:=fiL k p o L ⟨if k=3 then []else p,o,k,[],0,0⟩
theorem c96{o pa pk:U}{l:List De}{j:Nat}{e:En}(h:l[j]?=some d):fiD k o pa pk (l.drop j) j e=fiD k o pa pk (l.drop (j+1)) (j+1) (if(d.k == k&&decide (d.name=o))=true then(if(e.ct+1 == 1)=true then⟨pk,e.o,e.k,pa,j,e.ct+1⟩else⟨e.p,e.o,e.k,e.pl,e.ix,e.ct+1⟩)else e):=by
 obtain⟨ab,rfl⟩:=n_3.1 h;rw[R0 ab];rfl
theorem d0H{p o:U}{l:List (U×Src)}{e:En}(h:l[i]?=some x):fiL k p o (l.drop i) e=fiL k p o (l.drop (i+1)) (if((k != 3)&& !decide (x.2.pkg=p))=true then e else fiD k o x.1 x.2.pkg x.2.decls 0 e):=by
 obtain⟨ab,rfl⟩:=n_3.1 h;rw[R0 ab];rfl
theorem d5t(h:L[i]?=some x):(L.map Prod.fst)[i]?=some x.1:=by rw[O5,h];rfl
theorem c23(h:L[i]?=some x):(L.map Prod.snd)[i]?=some x.2:=by rw[O5,h];rfl
theorem c0e(L:List (U×Src))(k:Int)(p o:U)(hL:L.length<=1000)(hd:∀x∈L,x.2.decls.length<=100000)(σ:List b9):b8 CC 62 [.agg (V4 (L.map Prod.fst) (L.map Prod.snd)),iv k,(sv p),(sv o)] σ λr aa=>r= .ret (.agg (fiE L k p o).cells)/\aa=σ:=by
 refine an_ Tryz.func62 ?_;refine c86 ?_;refine qD (p7 J b0E J j5 ?_);refine W e1E ?_;refine d5G ?_;refine S3 hCC (α:=U) (λ_=>[(1,iv k),(2,(sv p)),(3,(sv o)),(4,.ptr 0 0),(8,.ptr 1 0),(9,.ptr 2 0)]) (λa=>[.box (V4 (L.map Prod.fst) (L.map Prod.snd)),.box En.z.cells,.box (⟨a,o,k,[],0,0⟩:En).cells]) (λa=>a=if k=3 then []else p) z8 uz_ ?_ ?_
 .
  refine qk (qC ?_ ?_)<;> intro h1
  .have hk:k=3:=I h1;refine qD (j2 J O J J j3 t_0 (.inl J) J J (nb J) ?_);exact⟨([]:U),_,(F hk).symm,tu_,J⟩
  .have hk:¬k=3:=I h1;exact⟨p,_,(D hk).symm,tu_,J⟩
 .intro pp fL;have dS:(L.map Prod.snd).length=L.length:=L7 _;refine qk (W c3x ?_);refine j8 hCC (α:=Nat×En) (λa=>[(1,iv k),(2,(sv p)),(3,(sv o)),(4,.ptr 0 0),(8,.ptr 1 0),(9,.ptr 2 0),(22,(.list ((L.map Prod.snd).map Src.cv) (gnn (L.map Prod.snd).length) none)),(23,(iv ((L.map Prod.snd).length:Int))),(24,iv a.1)]) (λa=>[.box (V4 (L.map Prod.fst) (L.map Prod.snd)),.box En.z.cells,.box a.2.cells]) (λa=>a.1<=L.length/\fiE L k p o=fiL k p o (L.drop a.1) a.2/\0<=a.2.ct/\a.2.ct<=100000*(a.1:Int)) (λa=>L.length -a.1) (0,(⟨pp,o,k,[],0,0⟩:En)) ⟨n_4 _,by rw[fL];rfl,b33 _,b33 _⟩ tu_ (ai:=[]) J z8 uz_ ?_;intro⟨i,e⟩ ⟨hi,hr,h0,hc⟩;dsimp only at hi hr h0 hc⊢;refine qk (qC ?_ ?_)<;> intro h2
  .have ab:i<L.length:=sm_ h2;obtain⟨x,hb⟩:∃x,L[i]?=some x:=⟨L[i]'ab,H⟩;have gQ:=hd x (n_2 hb);rw[d0H hb]at hr;refine W c5N ?_;refine c2N ?_;refine qG d0P ?_;refine qG a02 ?_;refine qG D4 ?_;refine qG (λhg=>a1F J hg hg J J (b1u _ _)) ?_;refine W N9 ?_;refine qC ?_ ?_<;>intro h3
   .rw [F h3]at hr;exact d8L
   .rw [D (by rw[h3];exact Bool.false_ne_true)]at hr;refine W a4S ?_;refine j8 hCC (α:=Nat×En) (λa=>[(1,iv k),(2,(sv p)),(3,(sv o)),(4,.ptr 0 0),(8,.ptr 1 0),(9,.ptr 2 0),(10,iv i),(11,.ptr 3 0),(22,(.list ((L.map Prod.snd).map Src.cv) (gnn (L.map Prod.snd).length) none)),(23,(iv ((L.map Prod.snd).length:Int))),(24,iv i),(38,(.list (x.2.decls.map De.cv) (gnn x.2.decls.length) none)),(39,iv x.2.decls.length),(40,iv a.1)]) (λa=>[.box (V4 (L.map Prod.fst) (L.map Prod.snd)),.box En.z.cells,.box a.2.cells,.box x.2.cells]) (λa=>a.1<=x.2.decls.length/\fiE L k p o=fiL k p o (L.drop (i+1)) (fiD k o x.1 x.2.pkg (x.2.decls.drop a.1) a.1 a.2)/\0<=a.2.ct/\a.2.ct<=100000*(i:Int)+(a.1:Int)) (λa=>x.2.decls.length -a.1) (0,e) ⟨n_4 _,hr,h0,Q⟩ tu_ (ai:=[]) J z8 uz_ ?_;intro⟨j,e⟩ ⟨hj,hr,h0,hc⟩;dsimp only at hj hr h0 hc⊢;refine qk (qC ?_ ?_)<;> intro h4
    .have hjt:j<x.2.decls.length:=sm_ h4;obtain⟨d,hdd⟩:∃d,x.2.decls[j]?=some d:=⟨x.2.decls[j]'hjt,H⟩;rw[c96 hdd]at hr;refine W (p9 J O O J J b20 a54 X (j1 hdd) J) ?_;refine z_6 ?_;refine qG b9p ?_;refine qG a02 ?_;refine b4y ?_;refine qC ?_ ?_<;>intro h5
     .rw [F h5]at hr;refine z_8 ?_;refine qC ?_ ?_<;>intro h6
      .rw [F h6]at hr;refine cF [] [0,1,2,3,4,5,6,7,8] (tl:=[(9,[2,3,4,5,6,7]),(10,[7]),(11,[7]),(12,[]),(13,[])]) ?_;refine chf J (c8 J c8O) ?_;refine chf J d1r ?_;refine chf J (c8 J b3a) ?_;refine chf J d3q ?_;refine chf J W7 ?_;refine chf J (c8 J b91) ?_;refine chf J (c8 J a5u) ?_;refine chf J W7 ?_;refine chf J (c8 J b45) ?_;refine C8 ?_;refine B0 J J J (j2 J O O J j3 t_0 (.inl J) J J (nb J) ?_);refine⟨⟨(by exact c8 J b3a),(by exact c8 J a5L),F4,(by exact c8 J b91),(by exact c8 J a5u),F4,O⟩,?_⟩;refine E9 J J (c8 J b45) ⟨⟨F4,O⟩,?_⟩;refine B0 J J J (j2 J O O J j3 t_0 (.inl J) J J (nb J) ?_);refine⟨⟨F4,O⟩,?_⟩;refine E9 J J (c8 J a9P) ⟨O,?_⟩;refine B0 J J J (j2 J O O J j3 t_1 (.inl J) J J (nb J) ?_);refine a84 ?_;refine W j9 ?_;exact⟨(j+1,(⟨x.2.pkg,e.o,e.k,x.1,(j:Int),e.ct+1⟩:En)),_,⟨Q,Q,hr,Q,Q⟩,tu_,J⟩
      .rw [D (by rw[h6];exact Bool.false_ne_true)]at hr;refine W j9 ?_;exact⟨(j+1,(⟨e.p,e.o,e.k,e.pl,e.ix,e.ct+1⟩:En)),_,⟨Q,Q,hr,Q,Q⟩,tu_,J⟩
     .rw [D (by rw[h5];exact Bool.false_ne_true)]at hr;refine W j9 ?_;exact⟨(j+1,e),_,⟨Q,Q,hr,h0,Q⟩,tu_,J⟩
    .have aF:x.2.decls.length<=j:=sm_ h4;rw[T6 aF]at hr;exact d8L
  .have aF:L.length<=i:=sm_ h2;rw[T6 aF]at hr;replace hr:fiE L k p o=e:=hr;refine j6 ?_;refine qD (j2 J O O J j3 b7b j5 J J (nb J) ?_);refine c6 ?_;exact⟨_,F2 J c34,_,_,J,J,(by rw[hr];exact .old (En.pure _).old)⟩
theorem c06{Y:List (List CV)}{r:List CV}{j:Nat}(h:Y[i]?=some r)(e:j=i):Y[j]?=some r:=e▸h
abbrev zK:Ky:=⟨0,[],[]⟩
def a65(k:Ky):List Ky->Nat
 | []=>0
 |y::l=>if ltK y k=true then a65 k l+1 else 0
def N3(l:List Ky)(k:Ky):List Ky:=if l[a65 k l]?=some k then l else l.take (a65 k l)++k::l.drop (a65 k l)
theorem c5K(k:Ky):∀l:List Ky,a65 k l<=l.length
 | []=>n_7 _
 |y::l=>by
  have:=c5K k l;unfold a65
  split<;>simp<;>omega
theorem b46{k y:Ky}{l:List Ky}(h:l[i]?=some y):a65 k (l.drop i)=if ltK y k=true then a65 k (l.drop (i+1))+1 else 0:=by
 obtain⟨ab,rfl⟩:=n_3.1 h;rw[R0 ab];rfl
theorem c2P{l:List (List CV)}{z y:List CV}(hi:i<=l.length):(J3 (l++[z]) (i+1) (((l++[z]).drop i).take (l.length -i))).set i y=l.take i++y::l.drop i:=by
 obtain⟨A,B,rfl,rfl⟩:∃A B,l=A++B/\A.length=i:=⟨l.take i,l.drop i,H,by simp;omega⟩;have h1:((A++B++[z]).drop A.length).take ((A++B).length -A.length)=B:=by simp
 rw[h1];obtain⟨h,t,ht⟩:∃h t,B++[z]=h::t:=by cases B<;>simp
 have h2:A++B++[z]=A++h::t:=by rw[C7,ht]
 have h3:t.length=B.length:=by have:=n_8 List.length ht;simp at this;omega
 unfold J3;have h4:(A++h::t).take (A.length+1)=A++[h]:=by rw[List.take_append,R3 X,d0i];rfl
 have h5:(A++h::t).drop (A.length+1+B.length)=[]:=by rw[List.drop_eq_nil_iff];simp;omega
 rw[h2,h4,h5,a0z];simp
theorem c7B{l N:List (List CV)}{z:List CV}(hi:i<=l.length):(J3 (l++[z]) (i+1) N)[i]?=(l++[z])[i]?:=by
 unfold J3;rw[R8 K5,a2y,F X]
theorem a1h(n:Nat)(l:List Ky):I6 n (.vec 3 (l.map Ky.cv)):=λr hr c hc=>((C0 (f:=Ky.cv) (λ_=>O0.all ⟨.val _,.val _,.val _,O⟩) _) r hr c hc).old
def e3e(g:Bool)(l l':List Ky):List b9:=if g=true then [.dead,.vec 3 (l'.map Ky.cv)]else [.vec 3 (l.map Ky.cv)]
theorem c6i(l:List Ky)(k:Ky)(hl:l.length<=1000000):b8 CC 86 [.vec 0 0 l.length,.agg k.cells] [(.vec 3 (l.map Ky.cv))] λr τ=>∃g:Bool,D2 1 τ r (.ret (.vec (if g=true then 1 else 0) 0 (N3 l k).length)) (e3e g l (N3 l k))/\(g=false->N3 l k=l):=by
 refine qO Tryz.func86 ?_;refine qD (I0 J O j3 j5 ?_);refine H3 (α:=Nat) (λi=>[(0,(.vec 0 0 l.length)),(3,.ptr 1 0),(5,iv i)]) (λ_=>[(.vec 3 (l.map Ky.cv)),.box k.cells]) (λi=>i<=l.length/\a65 k l=i+a65 k (l.drop i)) (λi=>l.length -i) 0 ⟨n_4 _,(K0 _).symm⟩ tu_ J ?_;intro i E0 ⟨hi,hr⟩;obtain⟨y,hb⟩:∃y,i<l.length->l[i]?=some y:=⟨l.getD i ⟨0,[],[]⟩,λh=>by simp[h]⟩;refine qk ?_;refine cW 12 ?_;refine a3c ?_;refine hY b8y ?_;refine hY a5E ?_;refine b5k ?_;refine L1 J J O J e2i ?_;refine L1 J J O J e2z ?_;refine L1 J J O J c43 ?_;refine L1 J J O J (λhg=>c4 J Tryz.call132 ⟨hg,hg,O⟩ (b2w y k _) J) ?_;refine b5w ?_;refine qC ?_ ?_<;>intro h1
 .have dW:(i:Int)< (l.length:Int)/\ltK y k=true:=I h1;have ab:i<l.length:=by omega
  rw[b46 (hb ab),F dW.2]at hr;refine W j9 ?_;exact⟨i+1,X,⟨X,X⟩,tu_,J⟩
 .have hi0:a65 k l=i:=by
   rcases a2J i l.length with ab|aF
   .rw [b46 (hb ab)]at hr;have hn:¬ltK y k=true:=λe=>by
     have:((i:Int)< (l.length:Int)):=by omega
     simp[e]at h1;omega
    rw[D hn]at hr;exact hr
   .rw [T6 aF]at hr;exact hr
  refine j6 ?_;refine cW 12 ?_;refine a3c ?_;refine hY b8y ?_;refine hY a5E ?_;refine b5k ?_;refine L1 J J O J e2i ?_;refine L1 J J O J e2z ?_;refine L1 J J O J c43 ?_;refine L1 J J O J (λhg=>b5h J hg hg (xs:=[.int .i64 y.k,.string (str y.a),.string (str y.b)]) (ys:=[.int .i64 k.k,.string (str k.a),.string (str k.b)]) J J c1h (b3k y k)) ?_;refine b5w ?_;refine qC ?_ ?_<;>intro h2
  .have dr:(i:Int)< (l.length:Int)/\y=k:=I h2;have hh:N3 l k=l:=by rw[N3,hi0,F (by rw[hb X,dr.2])]
   refine c6 ?_;exact⟨_,rE1,⟨false,by rw[hh];exact⟨[0],J,J,.ret (.vec J),.inr ⟨_,J,.same J (a1h _ _)⟩,O⟩,λ_=>hh⟩⟩
  .have hh:N3 l k=l.take i++k::l.drop i:=by
    rw[N3,hi0,D];intro e
    rcases a2J i l.length with ab|aF
    .rw [hb ab]at e;injection e with e;subst e;simp at h2;omega
    .rw [b2P X]at e;cases e
   have hhl:(N3 l k).length=l.length+1:=by rw[hh];simp;omega
   obtain⟨x,hx⟩:∃x,(l++[zK])[i]?=some x:=⟨(l++[zK])[i]'K5,H⟩;have hrx:(J3 ((l++[zK]).map Ky.cv) (0+(i+1)) ((((l++[zK]).map Ky.cv).drop (0+i)).take (l.length+1- (i+1))))[0+(i:Int).toNat]?=some (Ky.cv x):=by
    rw[show 0+(i:Int).toNat=i by omega,K0,K0,show l.length+1- (i+1)=l.length -i by omega,a3j,b0t,b4R,c7B (I hi)];have:((l++[zK]).map Ky.cv)[i]?=some (Ky.cv x):=by rw[O5,hx];rfl
    simpa using this
   have aE:(J3 ((l++[zK]).map Ky.cv) (0+(i+1)) ((((l++[zK]).map Ky.cv).drop (0+i)).take (l.length+1- (i+1)))).set (0+(i:Int).toNat) (Ky.cv k)=(N3 l k).map Ky.cv:=by
    rw[hh,show 0+(i:Int).toNat=i by omega,K0,K0,show l.length+1- (i+1)=l.length -i by omega];have:=c2P (l:=l.map Ky.cv) (z:=Ky.cv zK) (y:=Ky.cv k) (i:=i) (I hi);simpa using this
   refine W e2r ?_;refine W e1K ?_;refine qD (a2R ((l++[zK]).map Ky.cv) (l.length+1) J O O J q_5 t_5 t_3 a4r t_9 J J H H a03 B7 H H ?_);refine cW 7 ?_;refine a3c ?_;refine hY j9 ?_;refine hY (Y6 (l:=(i+1)) J O J t_5 t_3 J a2A J a2c H) ?_;refine a3c ?_;refine hY (Y6 (l:=i) J O J t_5 t_3 J a2A J a2c H) ?_;refine W1 ?_;refine qD (b4I J O O J J t_5 t_3 J X K5 K5 ?_);refine W b0j ?_;refine qD (M8 ((N3 l k).map Ky.cv) J O O J j3 t_3 j5 J hrx J (nb J) (by exact aE) J ?_);refine c6 ?_;exact⟨_,rE1,⟨true,by rw[hhl];exact⟨[0,2],J,J,.ret (.vec J),.inl J,.inr ⟨_,J,.same J (a1h _ _)⟩,O⟩,λh=>by cases h⟩⟩
theorem c7W(k:Ky):b8 CC 86 [.list [] false none,.agg k.cells] [] λr τ=>D2 0 τ r (.ret (.vec 0 0 1)) [.vec 3 ([k].map Ky.cv)]:=by
 refine qO Tryz.func86 ?_;refine qD (I0 J O j3 j5 ?_);refine H3 (α:=Nat) (λi=>[(0,(.list [] false none)),(3,.ptr 0 0),(5,iv i)]) (λ_=>[.box k.cells]) (λi=>i=0) (λi=>0) 0 J tu_ J ?_;intro i E0 hi;subst hi;refine qk ?_;refine cW 12 ?_;refine a3c ?_;refine hY a4W ?_;refine hY a5E ?_;refine b5k ?_;refine L1 J J O J e2G ?_;refine L1 J J O J d1y ?_;refine L1 J J O J c43 ?_;refine L1 J J O J (λhg=>c4 J Tryz.call132 ⟨hg,hg,O⟩ (b2w k k _) J) ?_;refine b5w ?_;refine cC ?_ ?_<;>intro h1
 .exfalso;simp at h1
 .refine j6 ?_;refine cW 12 ?_;refine a3c ?_;refine hY a4W ?_;refine hY a5E ?_;refine b5k ?_;refine L1 J J O J e2G ?_;refine L1 J J O J d1y ?_;refine L1 J J O J c43 ?_;refine L1 J J O J (λhg=>b5h J hg hg (xs:=[.int .i64 k.k,.string (str k.a),.string (str k.b)]) (ys:=[.int .i64 k.k,.string (str k.a),.string (str k.b)]) J J c1h (b3k k k)) ?_;refine b5w ?_;refine cC ?_ ?_<;>intro h2
  .exfalso;simp at h2
  .refine qk (W e2r ?_);refine W e1K ?_;refine qD (c29 1 J O O J q_5 t_5 t_3 a4r t_9 J H a03 B7 H ?_);refine cW 7 ?_;refine a3c ?_;refine hY j9 ?_;refine hY (Y6 (l:=(0+1)) J O J t_5 t_3 J a2A J a2c H) ?_;refine a3c ?_;refine hY (Y6 (l:=0) J O J t_5 t_3 J a2A J a2c H) ?_;refine W1 ?_;refine qD (b4I J O O J J t_5 t_3 J X H H ?_);refine W b0j ?_;refine qD (M8 [Ky.cv k] J O O J j3 t_3 j5 J (r:=Ky.cv zK) J J (nb J) (by rfl) J ?_);refine c6 ?_;exact⟨_,rE1,⟨[1],J,J,.ret (.vec (k:=[b9.box k.cells].length) J),.inr ⟨_,J,.same J (a1h 0 [k])⟩,O⟩⟩
def a1b:List Ky->Nat->CV
 | [],_=>.list [] false none
 |_::l,q=>.vec q 0 (l.length+1)
def a2d:List Ky->b9
 | []=>.dead
 |x::l=>.vec 3 ((x::l).map Ky.cv)
theorem a3b{l:List Ky}(h:l≠[])(q:Nat):a1b l q= .vec q 0 l.length:=by cases l;exact absurd J h;rfl
theorem a2P{l:List Ky}(h:l≠[]):a2d l= .vec 3 (l.map Ky.cv):=by cases l;exact absurd J h;rfl
theorem b03(l:List Ky)(k:Ky):N3 l k≠[]:=by
 unfold N3
 split
 .rename_i h;intro e;rw[e]at h;cases h
 .simp
theorem U1(l:List Ky):∀r∈l.map Ky.cv,∀c∈r,r5 c:=λr hr c hc=>(C0 (f:=Ky.cv) (λ_=>O0.all ⟨.val _,.val _,.val _,O⟩) _) r hr c hc
theorem c0z{l:List α}{x:α}(h:l[i]?=some x):l.set i x=l:=by
 apply b9b;intro j;rw[a9z]
 split
 .rename_i e;subst e;rw[F (n_3.1 h).1,h]
 .rfl
theorem c2c(l:List Ky)(k:Ky)(hl:l.length<=1000000)(σ:List b9)(q:Nat)(hq:σ[q]?=some (a2d l)):b8 CC 86 [a1b l q,.agg k.cells] σ λr τ=>∃g:Bool,r= .ret (.vec (if g=true then σ.length else q) 0 (N3 l k).length)/\τ=(if g=true then σ.set q .dead++[.vec 3 ((N3 l k).map Ky.cv)]else σ)/\(g=false->N3 l k=l):=by
 by_cases h0:l=[]
 .subst h0;have eH:σ[q]?=some .dead:=hq;have hs:σ.set q .dead=σ:=c0z eH;have h:=W8 (α:=Unit) (res:=λ_=>.ret (.vec 0 0 1)) (res':=λ_ n=>.ret (.vec n 0 1)) (S:=λ_=>[.vec 3 ([k].map Ky.cv)]) (S':=λ_ _=>[.vec 3 ([k].map Ky.cv)]) (P:=λ_=>True) hCC (λa h=>by
   simp at h;rcases h with rfl|rfl
   .exact V1 [] false
   .exact r6 ⟨.val _,.val _,.val _,O⟩) (G5 hCC ((c7W k).mono λr τ hh=>⟨_,_,hh,(),J,J,O⟩)) (λ_ _=>J) (λ_ n i x hx=>by
   rcases i with _|i
   .injection hx with hx;subst hx;exact⟨_,J,a8V (U1 [k])⟩
   .cases hx) (λ_ n=>.ret (.vec H)) σ
  exact h.mono λr τ ⟨_,h1,h2,_⟩=>⟨true,by rw[h1];rfl,by rw[h2,hs];rfl,λe=>by cases e⟩
 .rw [a2P h0]at hq;rw[a3b h0];have h:=b3q (α:=Bool) (g:=λg=>g) (rows':=λg=>if g=true then(N3 l k).map Ky.cv else l.map Ky.cv) (off:=λ_=>0) (len:=λ_=>(N3 l k).length) (P:=λg=>g=false->N3 l k=l) hCC (U1 l) (args:=[.agg k.cells]) (λa h=>by
   simp at h;subst h;exact r6 ⟨.val _,.val _,.val _,O⟩) (λg _=>by cases g<;>exact U1 _) ((c6i l k hl).mono λr τ ⟨g,h1,h2⟩=>⟨g,by cases g<;>exact h1,h2⟩) hq
  refine h.mono λr τ ⟨g,h1,h2,h3⟩=>⟨g,h1,?_,h3⟩;cases g
  .have e:σ.set q (.vec 3 (l.map Ky.cv))=σ:=c0z hq;rw[h2];exact e
  .rw [h2];rfl
theorem d3Z(l:List Ky)(q:Nat):(a1b l q).fgt=a1b l q:=by cases l<;>rfl
theorem a97(l:List Ky)(k:Ky)(hl:l.length<=1000000)(σ:List b9)(q:Nat)(hq:σ[q]?=some (a2d l)):b8 CC 86 [(a1b l q).fgt,.agg k.cells] σ λr τ=>∃g:Bool,r= .ret (.vec (if g=true then σ.length else q) 0 (N3 l k).length)/\τ=(if g=true then σ.set q .dead++[.vec 3 ((N3 l k).map Ky.cv)]else σ)/\(g=false->N3 l k=l):=by
 rw[d3Z];exact c2c l k hl σ q hq
def H0(l:List Ky):List Ky:=l.foldl N3 []
theorem c6o{l:List Ky}{y:Ky}(h:l[i]?=some y):(l.take (i+1)).foldl N3 []=N3 ((l.take i).foldl N3 []) y:=by
 rw[a1H,h,b7m];rfl
theorem b7o(l:List Ky)(k:Ky):(N3 l k).length<=l.length+1:=by
 unfold N3
 split
 .omega
 .have:=c5K k l;simp;omega
theorem b2B{f:α->List CV}{k:Nat}{l:List α}(hk:n<=k)(hs:σ[k]?=some (.vec s (l.map f)))(hp:∀r∈l.map f,∀c∈r,r5 c):Cls n σ (.vec k 0 l.length) (.list (l.map f) true none):=
 .vec hk hs H H (λi r r' h1 h2=>by
  have h3:(l.map f)[i]?=some r:=by simpa[R3]using h1
  rw[h3]at h2;injection h2 with h2;rw[h2]) (λi j r r' c c' h1 h2 h3 h4=>by
  have h5:(l.map f)[i]?=some r:=by simpa[R3]using h1
  rw[h5]at h2;injection h2 with h2;subst h2
  rw[h3]at h4;injection h4 with h4;subst h4
  exact .old (hp r (n_2 h5) c (n_2 h3)).old)
theorem b6c{l:List α}(h:l≠[]):gnn l.length=true:=by cases l;exact absurd J h;rfl
theorem d5i(l:List Ky):Cls 0 [a2d l] (a1b l 0) (.list (l.map Ky.cv) (gnn l.length) none):=by
 by_cases h:l=[]
 .subst h;exact .old a7A
 .rw [a3b h,a2P h,b6c h];exact b2B (n_4 _) J (U1 l)
theorem d3E(l:List Ky)(nn:Bool)(hl:l.length<=1000000):b8 CC 39 [(.list (l.map Ky.cv) nn none)] [] λr aa=>∃az c c',aa=[]++az/\r= .ret c/\Cls 0 aa c c'/\c'= .list ((H0 l).map Ky.cv) (gnn (H0 l).length) none:=by
 refine qO Tryz.func39 ?_;refine W a4W ?_;refine A2 hCC 0 J (α:=List Ky×Nat) (λx=>[(3,a1b x.1 0),(6,(.list (l.map Ky.cv) nn none)),(7,iv l.length),(8,iv x.2)]) (λx=>[a2d x.1]) (λx=>x.2<=l.length/\x.1=(l.take x.2).foldl N3 []/\x.1.length<=x.2) (λx=>l.length -x.2) ⟨([],0),[0],⟨n_4 _,J,n_7 _⟩,⟨J,J⟩,q_2,uq_⟩ ?_;intro⟨aw,i⟩ ⟨hi,ho,hn⟩;dsimp only at hi ho hn⊢;refine qk (qC ?_ ?_)<;> intro h1
 .have ab:i<l.length:=sm_ h1;obtain⟨y,hb⟩:∃y,l[i]?=some y:=⟨l[i]'ab,H⟩;refine W c5n ?_;refine d3u ?_;refine qD (c5 J b9v i7 (a97 aw y X _ 0 J) J ?_);intro g hg;have ay:=b03 aw y;have hln:=b7o aw y;have aE:N3 aw y=(l.take (i+1)).foldl N3 []:=by rw[c6o hb,<- ho]
  refine W j9 ?_;exact⟨(N3 aw y,i+1),[if g=true then 2 else 0],⟨Q,Q,aE,Q⟩,⟨J,J⟩,q_2,⟨.inr (by cases g;exact⟨_,J,.same (by rw[hg J]) (by rw[a2P ay];exact a1h _ _)⟩;exact⟨_,J,.same (a2P ay).symm (by rw[a2P ay];exact a1h _ _)⟩),O⟩⟩
 .have aF:l.length<=i:=sm_ h1;have hs:H0 l=aw:=by rw[ho,R3 aF];rfl
  refine z_9 ?_;exact⟨_,rE1,⟨_,_,_,J,J,(by exact d5i aw),by rw[hs]⟩⟩
theorem a0a(l:List Ky):(H0 l).length<=l.length:=by
 have h:∀(l a:List Ky),(l.foldl N3 a).length<=a.length+l.length:=by
  intro l
  induction l with
  |nil=>intro a;simp
  |cons y l ih=>
   intro a;have h1:=ih (N3 a y);have h2:=b7o a y;simp only[b3p,C5];omega
 have:=h l [];unfold H0;simpa using this
theorem c3H(l:List Ky)(nn:Bool)(hl:l.length<=1000000)(σ:List b9):b8 CC 39 [(.list (l.map Ky.cv) nn none)] σ λr τ=>r= .ret (.list ((H0 l).map Ky.cv) (gnn (H0 l).length) none)/\τ=σ:=
 b8.anyw (args:=[.list (l.map Ky.cv) nn none]) hCC ⟨V1 _ _,O⟩ (V1 _ _) ((a4s (d3E l nn hl)).mono λr τ ⟨⟨c,h1,h2⟩,h3⟩=>⟨by rw[h1,h2],h3⟩) σ
def gV{α:Type}:List α->Nat->CV
 | [],_=>.list [] false none
 |x::l,q=>.vec q 0 (x::l).length
theorem b7t{l:List α}(h:l≠[])(q:Nat):gV l q= .vec q 0 l.length:=by cases l;exact absurd J h;rfl
theorem c6g{l:List Fi}(gK:r8 l=L)(nn:Bool)(h0:x8 l=0)(hl:l.length<=1000000)(hp:∀f∈l,f.p.length<=1000000000)(hbl:∀q b,C1 l q=some b->b.length<=1000000000)(hd:x8 l=0->∀f∈l,C1 l f.p=some f.b)(σ:List b9):b8 CC 55 [.agg (o4 l nn)] σ λr τ=>r= .ret (.agg (V4 (L.map Prod.fst) (L.map Prod.snd)))/\τ=σ:=by
 have h:=d4u l nn hl hp hbl hd σ;rw[b5a,b4C,F h0,F h0,gK]at h;exact h
def okK:List Ex->Nat->List Int->Prop
 | [],_,st=>st.length=1
 |x::l,i,st=>x.args.length<=st.length/\x.args=st.drop (st.length -x.args.length)/\okK l (i+1) (st.take (st.length -x.args.length)++[(i:Int)])
theorem d3C{l:List Ex}{x:Ex}(h:l[i]?=some x)(st:List Int):okK (l.drop i) i st↔x.args.length<=st.length/\x.args=st.drop (st.length -x.args.length)/\okK (l.drop (i+1)) (i+1) (st.take (st.length -x.args.length)++[(i:Int)]):=by
 obtain⟨ab,rfl⟩:=n_3.1 h;rw[R0 ab,okK]
def sO:List Int->List Int->b9
 | [],_=>.dead
 |x::l,rest=>.vec 1 ((x::l++rest).map icv)
theorem d2q{l:List Int}(h:l≠[])(rest:List Int):sO l rest= .vec 1 ((l++rest).map icv):=by cases l;exact absurd J h;rfl
theorem b1Y(n:Nat)(l r:List Int):I6 n (sO l r):=by
 cases l
 .trivial
 .exact b3v n _
theorem b8z(E:List Ex)(en:Bool)(hE:E.length<=1000)(hA:∀x∈E,¬arK x.k <0->(x.args.length:Int)=arK x.k)(bo:okK E 0 []):b8 CC 223 [(.list (E.map Ex.cv) en none)] [] λr τ=>∃_:Unit,a1t 0 τ r (.ret (.val (.bool true)))/\True:=by
 refine qO Tryz.func223 ?_;refine W c08 ?_;refine A2 hCC 0 J (α:=List Int×List Int×Nat) (λa=>[(3,gV a.1 0),(8,(.list (E.map Ex.cv) en none)),(9,iv E.length),(10,iv a.2.2)]) (λa=>[sO a.1 a.2.1]) (λa=>a.2.2<=E.length/\a.1.length+a.2.1.length<=a.2.2/\okK (E.drop a.2.2) a.2.2 a.1) (λa=>E.length -a.2.2) ⟨([],[],0),[99],⟨n_4 _,n_7 _,bo⟩,⟨J,J⟩,ut_,uq_⟩ ?_;rintro⟨st,rest,i⟩ ⟨hi,hsr,hr⟩;dsimp only at hi hsr hr⊢;refine qs 2 (qC ?_ ?_)<;> intro h1
 .have ab:i<E.length:=sm_ h1;obtain⟨x,hb⟩:∃x,E[i]?=some x:=⟨E[i]'ab,H⟩;rw[d3C hb]at hr;obtain⟨k1,k2,hr⟩:=hr;have ir:=hA x (n_2 hb);by_cases ay:st=[]
  .subst ay;refine G4 ?_;refine qs 2 (W c5H ?_);refine c2G ?_;refine W d1i ?_;refine S3 hCC (α:=Unit) (λ_=>[(3,(.list [] false none)),(4,iv i),(5,.ptr 1 0),(6,iv x.args.length),(8,(.list (E.map Ex.cv) en none)),(9,iv E.length),(10,iv i)]) (λ_=>[.dead,.box x.cells]) (λ_=>True) z8 uz_ ?_ ?_
   .
    refine qk (qC ?_ ?_)<;> intro h2
    .exact d0Q
    .have aF:¬arK x.k <0:=I h2;have cg:=ir aF;exact⟨(),_,O,e0r,J⟩
   .intro _ _;refine qk (W a1z ?_);refine a1y ?_;refine qG (λhg=>a0u J hg J t_6 a7W J) ?_;refine a93 ?_;refine cC ?_ ?_<;>intro h3
    .exfalso;simp at h3;simp at k1;simp[k1]at h3
    .refine qk ?_;refine j8 hCC (α:=Nat) (λk=>[(3,(.list [] false none)),(4,iv i),(5,.ptr 1 0),(6,iv x.args.length),(7,iv k),(8,(.list (E.map Ex.cv) en none)),(9,iv E.length),(10,iv i)]) (λ_=>[.dead,.box x.cells]) (λk=>k<=x.args.length) (λk=>x.args.length -k) 0 (n_4 _) tu_ (ai:=[]) J z8 uz_ ?_;intro k hk;refine qk ?_;refine cC ?_ ?_<;>intro h4
     .exfalso;have:=Nat.le_zero.1 k1;simp at h4;omega
     .have k0:x.args.length=0:=Nat.le_zero.1 k1;have hnil:∀r∈([]:List (List CV)),r.length=1:=λr h=>by cases h
      have dy:([]:List (List CV)).length=0:=J;have cp:([]:List Int).length=0:=J;refine j6 ?_;refine W a1z ?_;refine W a92 ?_;refine W (a4p (h:=0) J O J t_6 t_1 b22 J a2A a2c B7) ?_;refine W e0b ?_;refine qD (c29 1 J O O J q_5 t_6 t_1 c1J t_8 J H b9f B7 H ?_);refine b0O ?_;exact⟨(([]++[(i:Int)]),[],i+1),[2],⟨Q,Q,by dsimp only;simp,I hr⟩,⟨J,J⟩,ut_,uq_⟩
  .rw [b7t ay,d2q ay];by_cases bF:x.args.length=0/\rest=[]
   .obtain ⟨dz,aP⟩:=bF;refine G4 ?_;refine qs 2 (W c5H ?_);refine c2G ?_;refine W d1i ?_;refine S3 hCC (α:=Unit) (λ_=>[(3,(.vec 0 0 st.length)),(4,iv i),(5,.ptr 1 0),(6,iv x.args.length),(8,(.list (E.map Ex.cv) en none)),(9,iv E.length),(10,iv i)]) (λ_=>[(.vec 1 ((st++rest).map icv)),.box x.cells]) (λ_=>True) z8 uz_ ?_ ?_
    .
     refine qk (qC ?_ ?_)<;> intro h2
     .exact d0Q
     .have aF:¬arK x.k <0:=I h2;have cg:=ir aF;exact⟨(),_,O,e0r,J⟩
    .intro _ _;refine qk (W a1z ?_);refine a1y ?_;refine qG (λhg=>a3G J hg J t_6 J J) ?_;refine a93 ?_;refine cC ?_ ?_<;>intro h3
     .exfalso;simp at h3;omega
     .refine e2a ?_;intro k hk;refine qk (qC ?_ ?_)<;> intro h4
      .have fQ:k<x.args.length:=sm_ h4;obtain⟨v,hv⟩:∃v,x.args[k]?=some v:=⟨x.args[k]'fQ,H⟩;have cE:(st++rest)[st.length -x.args.length+k]?=some v:=by
        rw[R8 X,<- a5z,<- k2,hv]
       refine cW 15 ?_;refine c9A ?_;refine hY A8 ?_;refine hY c51 ?_;refine c0C ?_;refine hY b8Z ?_;refine hY A8 ?_;refine hY a92 ?_;refine hY A8 ?_;refine hY a4P ?_;refine d8S ?_;refine hY a5E ?_;refine W1 ?_;refine cC ?_ ?_<;>intro h5
       .exfalso;simp at h5
       .refine b0O ?_;exact⟨(k+1),_,⟨X,X⟩,tu_,J⟩
      .refine j6 ?_;refine W b8Z ?_;refine W a92 ?_;refine W e2q ?_;refine W e0b ?_;refine qD (a2R (((st.take (st.length -x.args.length)++[(i:Int)])++[]).map icv) (st.take (st.length -x.args.length)++[(i:Int)]).length J O O J q_5 t_6 t_1 c1J t_8 J J (by simp[dz,aP]) H b9f B7 (by simp[dz,aP,icv]) (by simp[dz,aP]) ?_);refine b0O ?_;exact⟨((st.take (st.length -x.args.length)++[(i:Int)]),[],i+1),[2],⟨Q,Q,by dsimp only;simp;omega,hr⟩,⟨J,J⟩,q_4,⟨.inr ⟨_,J,.same (d2q H _).symm (b1Y _ _ _)⟩,O⟩⟩
   .have hin2:st.length -x.args.length+1<=st.length+rest.length:=by
     rcases b0J x.args.length with h|h
     .have:rest≠[]:=λe=>bF ⟨h,e⟩;have:=a81.2 this;omega
     .omega
    refine G4 ?_;refine qs 2 (W c5H ?_);refine c2G ?_;refine W d1i ?_;refine S3 hCC (α:=Unit) (λ_=>[(3,(.vec 0 0 st.length)),(4,iv i),(5,.ptr 1 0),(6,iv x.args.length),(8,(.list (E.map Ex.cv) en none)),(9,iv E.length),(10,iv i)]) (λ_=>[(.vec 1 ((st++rest).map icv)),.box x.cells]) (λ_=>True) z8 uz_ ?_ ?_
    .
     refine qk (qC ?_ ?_)<;> intro h2
     .exact d0Q
     .have aF:¬arK x.k <0:=I h2;have cg:=ir aF;exact⟨(),_,O,e0r,J⟩
    .intro _ _;refine qk (W a1z ?_);refine a1y ?_;refine qG (λhg=>a3G J hg J t_6 J J) ?_;refine a93 ?_;refine cC ?_ ?_<;>intro h3
     .exfalso;simp at h3;omega
     .refine e2a ?_;intro k hk;refine qk (qC ?_ ?_)<;> intro h4
      .have fQ:k<x.args.length:=sm_ h4;obtain⟨v,hv⟩:∃v,x.args[k]?=some v:=⟨x.args[k]'fQ,H⟩;have cE:(st++rest)[st.length -x.args.length+k]?=some v:=by
        rw[R8 X,<- a5z,<- k2,hv]
       refine cW 15 ?_;refine c9A ?_;refine hY A8 ?_;refine hY c51 ?_;refine c0C ?_;refine hY b8Z ?_;refine hY A8 ?_;refine hY a92 ?_;refine hY A8 ?_;refine hY a4P ?_;refine d8S ?_;refine hY a5E ?_;refine W1 ?_;refine cC ?_ ?_<;>intro h5
       .exfalso;simp at h5
       .refine b0O ?_;exact⟨(k+1),_,⟨X,X⟩,tu_,J⟩
      .refine j6 ?_;refine W b8Z ?_;refine W a92 ?_;refine W e2q ?_;refine W e0b ?_;refine qD (b3J (((st.take (st.length -x.args.length)++[(i:Int)])++((st++rest).drop (st.length -x.args.length+1))).map icv) (st.take (st.length -x.args.length)++[(i:Int)]).length J O O J q_5 t_6 t_1 J K5 (by rw[K0];unfold J3;simp[a3j,icv,b2n,List.map_drop,c4l];done) H J ?_);refine b0O ?_;exact⟨((st.take (st.length -x.args.length)++[(i:Int)]),((st++rest).drop (st.length -x.args.length+1)),i+1),[0],⟨Q,Q,by dsimp only;simp;omega,hr⟩,⟨J,J⟩,q_4,⟨.inr ⟨_,J,.same (d2q H _).symm (b1Y _ _ _)⟩,O⟩⟩
 .have cQ:i=E.length:=sm_ h1;rw[cQ,a9T,okK]at hr;obtain⟨z,rfl⟩:=List.length_eq_one_iff.1 hr;refine j6 ?_;refine W b8Z ?_;refine c6 ?_;exact⟨_,a1V J O J,⟨(),.ret (.old (.val _)),O⟩⟩
theorem c1E(E:List Ex)(en:Bool)(hE:E.length<=1000)(hA:∀x∈E,¬arK x.k <0->(x.args.length:Int)=arK x.k)(bo:okK E 0 [])(σ:List b9):b8 CC 223 [.list (E.map Ex.cv) en none] σ λr τ=>r= .ret (.val (.bool true))/\τ=σ:=
 (F5 (res:=λ_:Unit=>.ret (.val (.bool true))) (P:=λ_=>True) hCC (λa h=>by simp at h;subst h;exact a0M _ _) (b8z E en hE hA bo) (λ_ _=>.val _) σ).mono λr τ ⟨_,h1,h2,_⟩=>⟨h1,h2⟩
mutual
theorem c0p:∀(t:Tr) (s:Nat) (R:List Ex) (st:List Int),okK (t.flat s++R) s st↔okK R (s+t.size) (st++[((s+t.size -1:Nat):Int)])
 | .n k u o nm ch,s,R,st=>by
  rw[Tr.flat,C7,b4o ch s _ st,List.singleton_append,okK,Tr.size];have hl:(st++o7 ch s).length - (o7 ch s).length=st.length:=by rw[n_6];omega
  dsimp only;rw[hl,List.drop_left,List.take_left,n_6,show s+(A0 ch+1) -1=s+A0 ch by omega,<- a8e];exact⟨λh=>h.2.2,λh=>⟨X,J,h⟩⟩
theorem b4o:∀(l:List Tr) (s:Nat) (R:List Ex) (st:List Int),okK (K9 l s++R) s st↔okK R (s+A0 l) (st++o7 l s)
 | [],s,R,st=>by rw[K9,A0,o7,a1D,a0z];rfl
 |t::l,s,R,st=>by rw[K9,C7,c0p t s,b4o l,o7,A0,C7,List.singleton_append,a8e]
end
theorem d3t(t:Tr):okK (t.flat 0) 0 []:=by
 have:=(c0p t 0 [] []).2 (by simp[okK]);rwa[a0z]at this
theorem DeG.ar(h:DeG d):∀x∈d.body,X2 d.params.length x.k x.num x.op x.name x.args.length:=λx hx=>by
 obtain⟨t,h1,h2⟩:=h.tree;obtain⟨j,hj⟩:=N0.1 hx;have hl:=(n_3.1 hj).1;rw[h1,Tr.flat_len]at hl;obtain⟨y,z,ch,g⟩:=b7k h2 hl;rw[h1]at hj;obtain rfl:=Option.some.inj (hj.symm.trans g.e);exact g.ok
theorem X2.arK{np c:Nat}{k u o:Int}{nm:U}(h:X2 np k u o nm c)(hn:¬arK k<0):(c:Int)=arK k:=by
 have hc:=h.cnt;unfold Go.Proofs.YtlppbmfecjabeaaGreatDoor.arK at hn⊢;by_cases h3:k=3
 .rw [F h3]at hn;omega
 .rw [D h3]at hn⊢;split at hc
  .rename_i h4;rw[F h4];omega
  .rename_i h4;rw[D h4];split at hc
   .rename_i h5;rw[F h5];omega
   .rename_i h5;rw[D h5];split at hc
    .rename_i h6;rw[F h6];omega
    .rename_i h6;rw[D h6];omega
theorem c6r(l:List De)(nn:Bool)(k:Int)(u:U)(hl:l.length<=1000000):b8 CC 224 [.agg [sv [],.list [] false none,.list (l.map De.cv) nn none],iv k,(sv u)] [] λr aa=>r= .ret (.val (.bool (l.any λd=>(d.k == k)&&decide (d.name=u))))/\aa=[]:=by
 refine c7 (qO Tryz.func224 ?_);refine d1l ?_;refine j8 hCC (α:=Nat) (λi=>[(1,iv k),(2,(sv u)),(10,(.list (l.map De.cv) nn none)),(11,iv l.length),(12,iv i)]) (λ_=>[.box [sv [],.list [] false none,.list (l.map De.cv) nn none]]) (λi=>i<=l.length/\(l.any λd=>(d.k == k)&&decide (d.name=u))=((l.drop i).any λd=>(d.k == k)&&decide (d.name=u))) (λi=>l.length -i) 0 ⟨n_4 _,J⟩ tu_ (ai:=[]) J z8 uz_ ?_;intro i ⟨hi,hd⟩;refine qk (qC ?_ ?_)<;> intro h1
 .have ab:i<l.length:=sm_ h1;obtain⟨w,hb⟩:∃w,l[i]?=some w:=⟨l[i]'ab,H⟩;refine W d2j ?_;refine z_6 ?_;refine qG b9p ?_;refine qG a02 ?_;refine b4y ?_;refine qC ?_ ?_<;>intro h2
  .have hw:((w.k == k)&&decide (w.name=u))=true:=I h2;refine c6 ?_;exact⟨_,rE1,_,_,J,J,j4 (show true=(l.any λd=>(d.k == k)&&decide (d.name=u))from(b4Y hb hw).symm)⟩
  .have hw:((w.k == k)&&decide (w.name=u))=false:=I h2;exact d7A
 .have aF:l.length<=i:=sm_ h1;refine z_9 ?_;exact⟨_,rE1,_,_,J,J,j4 (show false=(l.any λd=>(d.k == k)&&decide (d.name=u)) by rw[hd,T6 aF];rfl)⟩
theorem c7U(l:List De)(nn:Bool)(i:Nat)(k:Int)(u:U)(hl:l.length<=1000000)(σ:List b9):b8 CC 224 [.agg [sv [],.list [] false none,.list (((l.map De.cv).take i).drop 0) nn none],iv k,sv u] σ λr aa=>r= .ret (.val (.bool ((l.take i).any λd=>(d.k == k)&&decide (d.name=u))))/\aa=σ:=by
 rw[b0Q,<- b2n];exact b8.anyw hCC (by repeat' (first|exact .val _|exact F3 [] _|exact a5H _ _|exact O|refine r6 ?_|refine⟨?_,?_⟩)) (.val _) (c6r (l.take i) nn k u a3J) σ
theorem c5c(l:List U)(nn:Bool)(i:Nat)(x:U)(hl:l.length<=1000000)(σ:List b9):b8 CC 186 [.list (((l.map scv).take i).drop 0) nn none,sv x] σ λr aa=>r= .ret (.val (.bool (decide (x∈l.take i))))/\aa=σ:=by
 rw[b0Q,<- b2n];exact a8b (l.take i) nn x a3J σ
theorem c9H{l:List De}(h:(l.map λd=>(d.k,d.name)).Nodup)(hd:l[i]?=some d):((l.take i).any λy=>(y.k == d.k)&&decide (y.name=d.name))=false:=by
 refine List.any_eq_false.2 λy hy he=>?_;simp at he;refine a2B h (i:=i) (y:=(d.k,d.name)) (by rw[O5,hd];rfl) ?_;rw[<- b2n];exact D5.2 ⟨y,hy,by rw[he.1,he.2]⟩
theorem DeG.nlen(h:DeG d):d.name.length<=80:=by
 by_cases hk:d.k=3
 .exact M5 (h.path hk)
 .have:=B9 (h.name hk).1;omega
theorem c2I(x:Src)(h:a10 x)(σ:List b9):b8 CC 177 [.agg x.cells] σ λr aa=>r= .ret (iv (0))/\aa=σ:=by
 refine b8.anyw hCC pu_ pu_ (c7 (qO Tryz.func177 ?_)) σ;refine qD (I0 J O j3 j5 ?_);refine W (c4 J c4T ⟨O,O⟩ (a6r x.pkg (by have:=B9 h.pkg.1;omega) _) J) ?_;refine qC ?_ ?_<;>intro h1
 .exfalso;simp[h.pkg]at h1
 .have bm:=h.impl;have eN:=h.decl;refine W I7 ?_;refine j8 hCC (α:=Nat) (λi=>[(1,.ptr 0 0),(24,(.list (x.imports.map scv) (gnn x.imports.length) none)),(25,iv x.imports.length),(26,iv i)]) (λ_=>[.box x.cells]) (λi=>i<=x.imports.length) (λi=>x.imports.length -i) 0 (n_4 _) tu_ (ai:=[]) J z8 uz_ ?_;intro i hi;refine qk (qC ?_ ?_)<;> intro h2
  .have ab:i<x.imports.length:=sm_ h2;obtain⟨y,hb⟩:∃y,x.imports[i]?=some y:=⟨x.imports[i]'ab,H⟩;have bN:=h.imp y (n_2 hb);refine d7N ?_;refine qC ?_ ?_<;>intro h3
   .exfalso;simp[bN]at h3
   .exact b6u
  .refine j6 ?_;refine W a4S ?_;refine j8 hCC (α:=Nat) (λi=>[(1,.ptr 0 0),(35,(.list (x.decls.map De.cv) (gnn x.decls.length) none)),(36,iv x.decls.length),(37,iv i)]) (λ_=>[.box x.cells]) (λi=>i<=x.decls.length) (λi=>x.decls.length -i) 0 (n_4 _) tu_ (ai:=[]) J z8 uz_ ?_;intro i hi;refine qk (qC ?_ ?_)<;> intro h4
   .have ab:i<x.decls.length:=sm_ h4;obtain⟨d,hd⟩:∃d,x.decls[i]?=some d:=⟨x.decls[i]'ab,H⟩;have hg:=h.dec d (n_2 hd);have ba:=hg.parl;have hbl:=hg.blen;have gI:=hg.nlen;refine b1Z ?_;refine qG b8n ?_;refine qG a5n ?_;refine a38 ?_;refine qG b8n ?_;refine qG a5n ?_;refine b7M ?_;refine qH J J (λhk hg=>j7 J O J b3s J a2H G) ?_;refine qH J J (λhk hg=>o6 J ⟨hk,hg⟩ J b74 J J) ?_;refine qH J J (λhk hg=>a0u J ⟨hk,hg⟩ J t_2 a7W J) ?_;refine d5Z ?_;refine W S6 ?_;refine qG b8n ?_;refine qG a5n ?_;refine b7M ?_;refine d8e ?_;refine qH J J (λhk hg=>c4 J b9y ⟨⟨hk,hg⟩,O⟩ (a3X d.name _) J) ?_;refine d5x ?_;refine W S6 ?_;refine qG b8n ?_;refine qG a5n ?_;refine b7M ?_;refine d8e ?_;refine qH J J (λhk hg=>c4 J c4T ⟨⟨hk,hg⟩,O⟩ (a6r d.name X _) J) ?_;refine d5x ?_;refine W S6 ?_;refine qC ?_ ?_<;>intro h5
    .exfalso;have hn:=hg.name;have hp:=hg.path;have hpa:=hg.pars
     rcases hg.kind with hk|hk|hk
     .have a1:=hn X;simp[hk,a1]at h5
     .have a1:=hn X;have a2:=hpa X;simp[hk,a1,a2]at h5
     .have a1:=hp hk;have a2:=hpa X;simp[hk,a1,a2]at h5
    .refine W I7 ?_;refine j8 hCC (α:=Nat) (λj=>[(1,.ptr 0 0),(6,.ptr 1 0),(35,(.list (x.decls.map De.cv) (gnn x.decls.length) none)),(36,iv x.decls.length),(37,iv i),(83,(.list (d.params.map scv) (gnn d.params.length) none)),(84,iv d.params.length),(85,iv j)]) (λ_=>[.box x.cells,.box d.cells]) (λj=>j<=d.params.length) (λj=>d.params.length -j) 0 (n_4 _) tu_ (ai:=[]) J z8 uz_ ?_;intro j hj;refine qk (qC ?_ ?_)<;> intro h6
     .have ab:j<d.params.length:=sm_ h6;obtain⟨y,hb⟩:∃y,d.params[j]?=some y:=⟨d.params[j]'ab,H⟩;have bN:=hg.par y (n_2 hb);refine d7N ?_;refine qC ?_ ?_<;>intro h7
      .exfalso;simp[bN]at h7
      .exact d8f
     .refine j6 ?_;refine W c08 ?_;refine j8 hCC (α:=Nat) (λj=>[(1,.ptr 0 0),(6,.ptr 1 0),(35,(.list (x.decls.map De.cv) (gnn x.decls.length) none)),(36,iv x.decls.length),(37,iv i),(94,(.list (d.body.map Ex.cv) (gnn d.body.length) none)),(95,iv d.body.length),(96,iv j)]) (λ_=>[.box x.cells,.box d.cells]) (λj=>j<=d.body.length) (λj=>d.body.length -j) 0 (n_4 _) tu_ (ai:=[]) J z8 uz_ ?_;intro j hj;refine qk (qC ?_ ?_)<;> intro h8
      .have ab:j<d.body.length:=sm_ h8;obtain⟨y,hb⟩:∃y,d.body[j]?=some y:=⟨d.body[j]'ab,H⟩;refine W c5H ?_;refine c2G ?_;refine W I7 ?_;refine W (c4 J Tryz.call222 i7 (c2B y d.params.length _ (hg.ar y (n_2 hb)) _) J) ?_;refine cC ?_ ?_<;>intro h9
       .exfalso;simp at h9
       .refine b0O ?_;exact⟨(j+1),_,⟨X,X⟩,tu_,J⟩
      .refine j6 ?_;refine W (c4 J Tryz.call223 ⟨O,O⟩ (c1E d.body _ X (λy hy=>(hg.ar y hy).arK) (by obtain⟨t,ht,_⟩:=hg.tree;rw[ht];exact d3t t) _) J) ?_;refine cC ?_ ?_<;>intro bb
       .exfalso;simp at bb
       .exact b8g
   .refine j6 ?_;refine W I7 ?_;refine j8 hCC (α:=Nat) (λi=>[(1,.ptr 0 0),(113,(.list (x.imports.map scv) (gnn x.imports.length) none)),(114,iv x.imports.length),(115,iv i)]) (λ_=>[.box x.cells]) (λi=>i<=x.imports.length) (λi=>x.imports.length -i) 0 (n_4 _) tu_ (ai:=[]) J z8 uz_ ?_;intro i hi;refine qk (qC ?_ ?_)<;> intro cB
    .have ab:i<x.imports.length:=sm_ cB;obtain⟨y,hb⟩:∃y,x.imports[i]?=some y:=⟨x.imports[i]'ab,H⟩;refine b5t ?_;refine d2i ?_;refine qG D4 ?_;refine qG (λhg=>a4p (h:=i) J hg J t_2 t_0 b22 J ⟨hg,_,_,J,X,X⟩ a2c c0Z) ?_;refine qG D4 ?_;refine qG (λhg=>c4 J b9z ⟨hg,hg,O⟩ (c5c x.imports _ i y X _) J) ?_;refine W S6 ?_;refine qC ?_ ?_<;>intro cX
     .exfalso;have a1:=a2B h.impn hb;have a2:y≠x.pkg:=λe=>h.impp (e▸n_2 hb);simp[a1,a2]at cX
     .exact b6u
    .refine j6 ?_;refine W a4S ?_;refine j8 hCC (α:=Nat) (λi=>[(1,.ptr 0 0),(134,(.list (x.decls.map De.cv) (gnn x.decls.length) none)),(135,iv x.decls.length),(136,iv i)]) (λ_=>[.box x.cells]) (λi=>i<=x.decls.length) (λi=>x.decls.length -i) 0 (n_4 _) tu_ (ai:=[]) J z8 uz_ ?_;intro i hi;refine qk (qC ?_ ?_)<;> intro dw
     .have ab:i<x.decls.length:=sm_ dw;obtain⟨d,hd⟩:∃d,x.decls[i]?=some d:=⟨x.decls[i]'ab,H⟩;have hg:=h.dec d (n_2 hd);have ba:=hg.parl;refine b1Z ?_;refine cW 10 ?_;refine hY c3K ?_;refine hY c5k ?_;refine hY A8 ?_;refine hY (a4p (h:=i) J O J b20 a54 b22 J a2A a2c c0Z) ?_;refine hY e2o ?_;refine hY b2R ?_;refine hY a0R ?_;refine hY b5E ?_;refine hY W9 ?_;refine hY (c4 J Tryz.call224 D6 (c7U x.decls _ i d.k d.name X _) J) ?_;refine W1 ?_;refine qC ?_ ?_<;>intro gN
      .exfalso;rw[c9H h.decn hd]at gN;cases gN
      .refine W I7 ?_;refine j8 hCC (α:=Nat) (λj=>[(1,.ptr 0 0),(14,.ptr 1 0),(134,(.list (x.decls.map De.cv) (gnn x.decls.length) none)),(135,iv x.decls.length),(136,iv i),(152,(.list (d.params.map scv) (gnn d.params.length) none)),(153,iv d.params.length),(154,iv j)]) (λ_=>[.box x.cells,.box d.cells]) (λj=>j<=d.params.length) (λj=>d.params.length -j) 0 (n_4 _) tu_ (ai:=[]) J z8 uz_ ?_;intro j hj;refine qk (qC ?_ ?_)<;> intro h15
       .have ab:j<d.params.length:=sm_ h15;obtain⟨y,hb⟩:∃y,d.params[j]?=some y:=⟨d.params[j]'ab,H⟩;refine W a64 ?_;refine W (a4p (h:=j) J O J t_2 t_0 b22 J a2A a2c c0Z) ?_;refine W (c4 J b9z i7 (c5c d.params _ j y X _) J) ?_;refine qC ?_ ?_<;>intro h16
        .exfalso;simp[a2B hg.nod hb]at h16
        .exact d8f
       .refine j6 ?_;exact b6u
     .refine j6 ?_;refine W I7 ?_;refine qG c25 ?_;refine qG c49 ?_;refine qG c4q ?_;refine a38 ?_;refine cC ?_ ?_<;>intro h17
      .exfalso;simp at h17;omega
      .refine qk (W a4S ?_);refine j8 hCC (α:=Nat) (λi=>[(178,(.list (x.decls.map De.cv) (gnn x.decls.length) none)),(179,iv x.decls.length),(180,iv i)]) (λ_=>[.box x.cells]) (λi=>i<=x.decls.length) (λi=>x.decls.length -i) 0 (n_4 _) tu_ (ai:=[]) J z8 uz_ ?_;intro i hi;refine qk (qC ?_ ?_)<;> intro h18
       .have ab:i<x.decls.length:=sm_ h18;obtain⟨d,hd⟩:∃d,x.decls[i]?=some d:=⟨x.decls[i]'ab,H⟩;have hg:=h.dec d (n_2 hd);have ba:=hg.parl;have hbl:=hg.blen;obtain⟨n,hn,hdeep⟩:=c8S hg (gnn d.body.length) [.box x.cells,.box d.cells];refine b1Z ?_;refine W I7 ?_;refine qG b8F ?_;refine qG b40 ?_;refine qG b8V ?_;refine a38 ?_;refine qG b8F ?_;refine qG b40 ?_;refine qG b8F ?_;refine qG b40 ?_;refine qG b8V ?_;refine qG c8P ?_;refine qG (λhg=>c4 J Tryz.call225 ⟨hg,hg,O⟩ (hdeep) J) ?_;refine a38 ?_;refine cC ?_ ?_<;>intro h19
        .exfalso;simp at h19;omega
        .exact b8g
       .refine z_9 ?_;exact⟨_,rE1,_,_,J,J,C9 J⟩
theorem b66(ao:WAt σ w q1 q2 t fl nn va br ms me)(k:Int)(p o:U):b8 CC 90 [.ptr w 0,iv k,(sv p),(sv o)] σ λr τ=>r= .ret (.agg (a0q va me k p o).cells)/\τ=σ:=
 b5R (λa h=>by simp at h;rcases h with rfl|rfl|rfl<;>exact .val _) (En.pure _) (d0R fl nn va br ms me k p o) ao
theorem d5Y(ao:WAt σ w q1 q2 t fl nn va br ms me)(s:U)(cP:fl.length<=1000000):b8 CC 110 [.ptr w 0,(sv s)] σ λr τ=>r= .ret (.tup [sv ((C1 fl s).getD []),.val (.bool (C1 fl s).isSome)])/\τ=σ:=
 b5R (λa h=>by simp at h;subst h;exact .val _) (D7 (cs:=[sv _,.val _]) ⟨.val _,.val _,O⟩) (d3z fl nn va br ms me s cP) ao
def B6(ms:SM)(fl:List Fi)(pkg:U):List Fi:=fl.filter λf=>(glk ms f.p).isSome &&decide (((glk ms f.p).getD Src.z).pkg=pkg)
theorem b7T{y:Fi}(h:fl[i]?=some y)(pkg:U):B6 ms (fl.drop i) pkg=(if((glk ms y.p).isSome &&decide (((glk ms y.p).getD Src.z).pkg=pkg))=true then [y]else [])++B6 ms (fl.drop (i+1)) pkg:=by
 obtain⟨ab,rfl⟩:=n_3.1 h;rw[R0 ab];unfold B6;rw[a7o]
 split<;>rfl
theorem c7h(fl:List Fi)(nn va:Bool)(br:List U)(ms:SM)(me:EM)(pkg:U)(cP:fl.length<=1000000):b8 CC 158 [.ptr 0 0,(sv pkg)] (wst fl nn va br ms me) λr τ=>D2 4 τ r (.ret (.list ((B6 ms fl pkg).map Fi.cv) (gnn (B6 ms fl pkg).length) none)) (wst fl nn va br ms me):=by
 refine cO Tryz.func158 ?_;refine z_0 ?_;refine b2H ?_;refine z_0 ?_;refine cY a5X ?_;refine a85 ?_;refine a61 ?_;refine cY (j7 J O J c1z J a9H G) ?_;refine cY (j7 J O J c3Y J c1c G) ?_;refine cY (o6 J O J Tryz.isAgg30 J J) ?_;refine cY a0E ?_;refine b4H ?_;refine A2 hCC 4 J (α:=Nat×List Fi) (λx=>[(0,.ptr 0 0),(1,(sv pkg)),(5,(.list (x.2.map Fi.cv) (gnn x.2.length) (C3 x.2.length 4))),(14,(.list (fl.map Fi.cv) nn none)),(15,iv fl.length),(16,iv x.1)]) (λx=>[wbx fl nn va br 1 2 3,smO ms,emO me,o5 br.length,o5 x.2.length]) (λx=>x.1<=fl.length/\x.2.length<=x.1/\B6 ms fl pkg=x.2++B6 ms (fl.drop x.1) pkg) (λx=>fl.length -x.1) ⟨(0,[]),[0,1,2,3,9],⟨n_4 _,n_7 _,J⟩,⟨J,J⟩,ut_,uq_⟩ ?_;intro⟨i,aw⟩ ⟨hi,eQ,hr⟩;dsimp only at hi eQ hr⊢;refine b13 ?_;refine cC ?_ ?_<;>intro h1
 .have ab:(i:Int)<fl.length:=I h1;obtain⟨y,hb⟩:=gx_ fl i;rw[b7T hb]at hr;refine a8C ?_;refine z_0 ?_;refine cY d7y ?_;refine cY (X3 J O J Tryz.isAgg54 a5a (nb J)) ?_;refine cD (p7 J a6H J j5 ?_);refine cD (j2 J O O J j3 a5a j5 J J (nb J) ?_);refine a85 ?_;refine cF [] [0,1,2,3,4,5,6,7,8,9] (tl:=[(10,[0,1,2,3,4,5,6,7,8,9]),(11,[9]),(12,[])]) ?_;refine b3A ?_;refine chf J (c8 J b90) ?_;refine chf J (c8 J b9L) ?_;refine b5x ?_;refine chf J (c8 J e2P) ?_;refine chf J W7 ?_;refine chf J b38 ?_;refine chf J b38 ?_;refine C8 ?_;refine B0 J J J (p7 J a48 J j5 ?_);refine⟨⟨F4,a2a,(by exact c8 J b90),(by exact c8 J b9L),a6T,a5T,(by exact c8 J e2P),F4,a9L,a9L,O⟩,?_⟩;refine B0 J J J (j2 J O O J j3 a4d j5 J J (nb J) ?_);refine⟨⟨a9L,O⟩,?_⟩;refine c1G ?_;refine a78 ?_;refine cG d0P ?_;refine cG a02 ?_;refine cG D4 ?_;refine cG b1X ?_;refine cY N9 ?_;refine w9 ?_;refine cC ?_ ?_<;>intro h2
  .rw [F (I h2)]at hr;refine a42 ?_;refine cY (O4 J O J Tryz.isAgg54 a5a J (nb J)) ?_;refine cY d6u ?_;refine cD (A4 J O O J H q_5 a7I a5a c74 a6H J (.inr J) K2 b5v B7 ((aw++[y]).map Fi.cv) (aw++[y]).length H H ?_);refine z_5 ?_;refine a8Q ?_;exact⟨(i+1,aw++[y]),[0,1,2,3,7],⟨Q,Q,by dsimp only;simp;omega,by dsimp only;rw[hr,C7]⟩,⟨J,J⟩,ut_,uq_⟩
  .rw [D (I h2),a1D]at hr;refine C2 ?_;refine a8Q ?_;exact⟨(i+1,aw),[0,1,2,3,4],⟨Q,Q,Q,hr⟩,⟨J,J⟩,ut_,uq_⟩
 .have aF:fl.length<=i:=sm_ h1;rw[T6 aF]at hr;replace hr:B6 ms fl pkg=aw:=by rw[hr];exact a0z _
  refine j6 ?_;refine z_4 ?_;refine a58 ?_;exact⟨_,rE1,(by rw[hr];exact a3C J (H5 (f:=Fi.cv) (λa=>⟨.val _,.val _,O⟩) _))⟩
theorem c0M(ao:WAt σ w q1 q2 t fl nn va br ms me)(pkg:U)(cP:fl.length<=1000000):b8 CC 158 [.ptr w 0,(sv pkg)] σ λr τ=>r= .ret (.list ((B6 ms fl pkg).map Fi.cv) (gnn (B6 ms fl pkg).length) none)/\τ=σ:=
 b5R (λa h=>by simp at h;subst h;exact .val _) (K6 _ _) (c7h fl nn va br ms me pkg cP) ao
noncomputable def c0B(ms:SM)(x:En):U:=((glk ms x.pl).bind λs=>(s.decls[x.ix.toNat]?).map λd=>a1L s d).getD []
noncomputable def a04(ms:SM)(x:En):U:=if x.ct=0 then [45]else if x.ct=1 then [61]++c0B ms x else [63]
def b3x(ms:SM)(x:En):Prop:=x.ct=1->∃(s:Src) (d:De) (i:Nat),glk ms x.pl=some s/\a10 s/\x.ix=(i:Int)/\s.decls[i]?=some d
theorem a9F{x:Src}(h:a10 x)(hd:DeG d):(a1L x d).length<=100000:=by
 have eN:=De.name_len hd;have hbl:=a9c hd;have eD:=B9 h.pkg.1;have himl:=h.impl;have gp:∀s∈x.imports,s.length<=80:=λs hs=>by have:=B9 (h.imp s hs).1;omega
 have bm:=a8s gp x.imports.length;rw[R3 (n_7 _)]at bm;have cc:=a4a [44,32] d.params;have dS:=b6D (b5p hd);have hprl:=hd.parl;have e2:([44,32]:U).length=2:=J;rw[e2]at cc;have hh:(a6a d).length<=1200:=by
  unfold a6a
  split
  .simp only[n_6,C5,J6];omega
  .split
   .simp only[n_6,C5,J6];omega
   .simp only[n_6,C5,J6];omega
 unfold a1L;simp only[n_6,C5,J6];omega
theorem b50(fl:List Fi)(nn va:Bool)(br:List U)(ms:SM)(me:EM)(x:En)(hx:b3x ms x):b8 CC 106 [.ptr 0 0,.agg x.cells] (wst fl nn va br ms me) λr τ=>D2 4 τ r (.ret (sv (a04 ms x))) (wst fl nn va br ms me):=by
 refine cO Tryz.func106 ?_;refine b58 ?_;refine cY a5X ?_;refine a7D ?_;refine cY a9P ?_;refine cY a0R ?_;refine c7Y ?_;refine a32 ?_;refine cC ?_ ?_<;>intro h1
 .have u1:x.ct=0:=I h1;refine z_0 ?_;refine b2H ?_;refine c6 ?_;exact⟨_,rE1,(by rw[a04,F u1];exact a3C J (.old (.val _)))⟩
 .have u1:¬x.ct=0:=I h1;refine a32 ?_;refine cC ?_ ?_<;>intro h2
  .have u2:x.ct=1:=I h2;obtain⟨src,d,i,hg,hsg,hix,hdi⟩:=hx u2;have hdg:=hsg.dec d (n_2 hdi);have ak:=a9F hsg hdg;have ed:c0B ms x=a1L src d:=by rw[c0B,hg,n_9,hix,a2L,hdi];rfl
   refine G4 ?_;refine cW 15 ?_;refine a5e ?_;refine hY b90 ?_;refine hY b9L ?_;refine hY b45 ?_;refine hY W9 ?_;refine hY (U4 (vc:=vcS) (l:=ms) (a:=x.pl) c0H J O O J J b8s a48 J J (show((glk ms x.pl).map vcS).getD _=vcS src by rw[hg];rfl)) ?_;refine hY a9P ?_;refine hY a0R ?_;refine hY (c4 J Tryz.call156 i7 ((by have h:=c6y src hsg i d hdi hdg (n_3.1 hdi).1 ((wst fl nn va br ms me)++[.box x.cells]);rw[<- hix]at h;exact h)) J) ?_;refine hY A8 ?_;refine hY a8I ?_;refine hY a8I ?_;refine hY a4R ?_;refine b5d ?_;refine w9 ?_;refine z_4 ?_;refine cY (I2 J J O J J (by show 1+(a1L src d).length<=_;omega)) ?_;refine a58 ?_;exact⟨_,rE1,(by rw[a04,D u1,F u2,ed];exact a3C J (.old (.val _)))⟩
  .have u2:¬x.ct=1:=I h2;refine C2 ?_;refine z_0 ?_;refine b2H ?_;refine c6 ?_;exact⟨_,rE1,(by rw[a04,D u1,D u2];exact a3C J (.old (.val _)))⟩
theorem b8L(ao:WAt σ w q1 q2 t fl nn va br ms me)(x:En)(hx:b3x ms x):b8 CC 106 [.ptr w 0,.agg x.cells] σ λr τ=>r= .ret (sv (a04 ms x))/\τ=σ:=
 b5R (λa h=>by simp at h;subst h;exact En.pure _) (.val _) (b50 fl nn va br ms me x hx) ao
theorem c0o(a b c d e f:Bool):(a&& (b&&c)&& !(d&& (e ||f)))= !(((!a || !b) || !c) ||(d&& (e ||f))):=by cases a<;>cases b<;>cases c<;>cases d<;>cases e<;>cases f<;>rfl
theorem b5l(x:Src)(d:De):([112,97,99,107,97,103,101,32]++x.pkg++[59,10])++T2 x.imports++c0j d=a1L x d:=by unfold a1L c0j;simp only[C7]
theorem d0k{x:Src}(h:a10 x)(hd:x.decls[i]?=some d):(([112,97,99,107,97,103,101,32]++x.pkg++[59,10])++T2 x.imports).length+(c0j d).length<=9223372036854775807:=by
 have:=a9F h (h.dec d (n_2 hd));rw[<- b5l,n_6]at this;omega
theorem c8W(a b:Int):decide (a<b)= !decide (b<=a):=by by_cases h:b<=a<;>simp[h]<;>omega
theorem c8R(a b:Int):decide (a > b)= !decide (a<=b):=by by_cases h:a<=b<;>simp[h]<;>omega
theorem a0S(l:List Va)(nn:Bool)(σ:List b9):b8 CC 53 [.agg (E7 l nn)] σ λr aa=>r= .ret (.val (.bool (J9 l)))/\aa=σ:=by
 refine b8.anyw hCC pu_ pu_ (c7 (qO Tryz.func53 ?_)) σ;refine d1U ?_;refine qC ?_ ?_<;>intro h1
 .have ak:¬l.length<=16:=sm_ h1;refine c6 ?_;exact⟨_,rE1,_,_,J,J,j4 (by rw[J9,a1S ak];rfl)⟩
 .have ak:l.length<=16:=sm_ h1;refine W b9E ?_;refine j8 hCC (α:=Nat) (λi=>[(1,.ptr 0 0),(10,(.list (l.map Va.cv) nn none)),(11,iv l.length),(12,iv i)]) (λ_=>[.box (E7 l nn)]) (λi=>i<=l.length/\J9 l=evB (prv l i) (l.drop i)) (λi=>l.length -i) 0 ⟨n_4 _,by rw[J9,a1B ak];rfl⟩ tu_ (ai:=[]) J z8 uz_ ?_;intro i ⟨hi,hr⟩;refine qk (qC ?_ ?_)<;> intro h2
  .have ab:(i:Int)<l.length:=I h2;obtain⟨y,hb⟩:=gx_ l i;obtain⟨p,hp⟩:=b6m (l:=l) (i:=i) X;have fL:0<i->l[i-1]?=some p:=λh=>(hp h).2;rw[b9w hb]at hr;refine b4r ?_;refine cW 30 ?_;refine d8V ?_;refine hY (c4 J c30 ⟨O,O⟩ (a6k y.n _) J) ?_;refine hY d3y ?_;refine hY A8 ?_;refine d0p ?_;refine d1P ?_;refine hY A8 ?_;refine d0p ?_;refine d1P ?_;refine hY A8 ?_;refine L1 J J O J D4 ?_;refine L1 J J O J a6P ?_;refine L1 J J O J b0i ?_;refine e1h ?_;refine e2S ?_;refine d7X ?_;refine a5y J J (λh=>h) J (λhk hg=>p9 J ⟨hk,hg⟩ ⟨hk,hg⟩ J J c0u b7n c4C (j1 (hp (by change (_:Bool)=_ at hk;simp at hk hg;omega)).1) J) ?_;refine e18 ?_;refine d7k ?_;refine hY S6 ?_;refine W1 ?_;refine qC ?_ ?_<;>intro h3
   .have u3:a0p (prv l i) y=false:=by rw[a0p,a0i fL,c0o,<- c8W,<- c8R];rw[h3];rfl
    rw[u3,Bool.false_and]at hr;exact d7C
   .have u3:a0p (prv l i) y=true:=by rw[a0p,a0i fL,c0o,<- c8W,<- c8R];rw[h3];rfl
    rw[u3,a9O]at hr;exact b2F
  .exact d7U
theorem a2z(l:List Va)(nn:Bool)(s:U)(hl:l.length<=1000000000)(σ:List b9):b8 CC 89 [.agg (E7 l nn),(sv s)] σ λr aa=>r= .ret (.tup [(iv ((P3 l s).getD 0)),(.val (.bool ((P3 l s).isSome)))])/\aa=σ:=by
 refine b8.anyw hCC pu_ pu_ (c7 (qO Tryz.func89 ?_)) σ;refine qD (I0 J O j3 j5 ?_);refine e1V ?_;intro i ⟨hi,hr⟩;refine qk (qC ?_ ?_)<;> intro h1
 .have ab:(i:Int)<l.length:=I h1;obtain⟨y,hb⟩:=gx_ l i;rw[b5F hb]at hr;refine b4r ?_;refine W a8q ?_;refine qC ?_ ?_<;>intro h2
  .have u2:y.n=s:=I h2;rw[F u2]at hr;exact d8d
  .have u2:¬y.n=s:=I h2;rw[D u2]at hr;exact b2F
 .have aF:l.length<=i:=sm_ h1;rw[T6 aF]at hr;exact d8Z
theorem c7b(x:Src)(h:a10 x)(i:Nat)(d:De)(hd:x.decls[i]?=some d)(σ:List b9):b8 CC 147 [.agg x.cells,iv i] σ λr aa=>r= .ret (.tup [(sv (a1L x d)),(iv (0))])/\aa=σ:=by
 refine b8.anyw hCC pu_ pu_ (c7 (qO Tryz.func147 ?_)) σ;refine qD (I0 J O j3 j5 ?_);refine W (c4 J Tryz.call177 ⟨O,O⟩ (c2I x h _) J) ?_;refine cC ?_ ?_<;>intro h1
 .exfalso;simp at h1
 .refine qk (qG D4 ?_);refine qG c25 ?_;refine qG c49 ?_;refine qG c4q ?_;refine a93 ?_;refine cC ?_ ?_<;>intro h2
  .exfalso;have ab:=(n_3.1 hd).1;simp at h2;omega
  .have ab:=(n_3.1 hd).1;have eN:=h.decl;refine qk ?_;refine cW 11 ?_;refine hY c0f ?_;refine hY (c4 J Tryz.call178 ⟨O,O⟩ (c6E x h _) J) ?_;refine hY c3K ?_;refine hY c5k ?_;refine hY A8 ?_;refine hY c98 ?_;refine hY (X3 J O J c4B a54 (nb J)) ?_;refine hY (c4 J Tryz.call179 ⟨O,O⟩ (c7Z d (h.dec d (n_2 hd)) _) J) ?_;refine hY (I2 J O O J J (d0k h hd)) ?_;refine hY a4R ?_;refine hY a5X ?_;refine W1 ?_;refine c6 ?_;exact⟨_,r3 (rs:=[.tmp 4,.tmp 5]) (cs:=[_,_]) J T8 (n_5 J),_,_,J,J,(by rw[b5l];exact .tups ⟨.old (.val _),.old (.val _),O⟩)⟩
def a7T(L:List (U×Src))(e:En):Src×Int:=match L.find? (λx=>decide (x.1=e.pl))with
 |some x=>(x.2,e.ix)
 |none=>(Src.z,0)
theorem c7I(h:L[i]?=some x)(e:En):a7T (L.drop i) e=if x.1=e.pl then(x.2,e.ix)else a7T (L.drop (i+1)) e:=by
 obtain⟨ab,rfl⟩:=n_3.1 h;rw[R0 ab];unfold a7T;rw[b9B];by_cases hh:L[i].1=e.pl
 .simp [hh]
 .simp [hh]
theorem b88(L:List (U×Src))(e:En)(hL:L.length<=1000)(σ:List b9):b8 CC 146 [.agg (V4 (L.map Prod.fst) (L.map Prod.snd)),.agg e.cells] σ λr aa=>r= .ret (.tup [.agg (a7T L e).1.cells,(iv ((a7T L e).2))])/\aa=σ:=by
 refine b8.anyw hCC pu_ pu_ (c7 (qO Tryz.func146 ?_)) σ;refine z_7 ?_;refine qD (p7 J a48 J j5 ?_);refine W I7 ?_;refine j8 hCC (α:=Nat) (λi=>[(2,.ptr 0 0),(3,.ptr 1 0),(4,.ptr 2 0),(9,(iv ((L.map Prod.fst).length:Int))),(10,iv i)]) (λ_=>[.box (V4 (L.map Prod.fst) (L.map Prod.snd)),.box e.cells,.box Src.z.cells]) (λi=>i<=L.length/\a7T L e=a7T (L.drop i) e) (λi=>L.length -i) 0 ⟨n_4 _,J⟩ tu_ (ai:=[]) J z8 uz_ ?_;intro i ⟨hi,hr⟩;refine qk (qC ?_ ?_)<;> intro h1
 .have ab:i<L.length:=sm_ h1;obtain⟨x,hb⟩:∃x,L[i]?=some x:=⟨L[i]'ab,H⟩;rw[c7I hb]at hr;refine cW 8 ?_;refine hY b3a ?_;refine hY a5L ?_;refine hY A8 ?_;refine hY b91 ?_;refine hY a5u ?_;refine hY b45 ?_;refine hY W9 ?_;refine hY a8q ?_;refine W1 ?_;refine qC ?_ ?_<;>intro h2
  .have u2:x.1=e.pl:=I h2;rw[F u2]at hr;refine cF [] [0,1,2,3,4,5,6] (tl:=[(7,[5,6]),(8,[])]) ?_;refine chf J c9Q ?_;refine chf J (c8 J c4s) ?_;refine chf J W7 ?_;refine chf J (c8 J c5N) ?_;refine chf J (c8 J (X3 J O J b8O a4d (nb J))) ?_;refine chf J (c8 J a9P) ?_;refine chf J b1M ?_;refine d4r ?_;refine⟨⟨(by exact c8 J a9P),b3o,O⟩,?_⟩;refine b0m ?_;exact⟨_,r3 (rs:=[.cell 4 67,.tmp 5]) (cs:=[_,_]) J d6o (n_5 J),_,_,J,J,(by rw[hr];exact .tups ⟨.old (r6 (Src.pure _)).old,.old (.val _),O⟩)⟩
  .have u2:¬x.1=e.pl:=I h2;rw[D u2]at hr;exact b2F
 .have aF:L.length<=i:=sm_ h1;rw[T6 aF]at hr;refine j6 ?_;refine W e1L ?_;refine c68 ?_;exact⟨_,r3 (rs:=[.cell 4 67,.tmp 5]) (cs:=[_,_]) J d6o (n_5 J),_,_,J,J,(by rw[hr];exact .tups ⟨.old (r6 (Src.pure Src.z)).old,.old (.val _),O⟩)⟩
theorem d9F(m:Nat):a7M .rem .u64 (m:Int) 128=some (.int .u64 ((m%128:Nat):Int)):=by
 have h:(m:Int).tmod 128=((m%128:Nat):Int):=by rw[c8y X];omega
 simp[a7M,h]
theorem e0h(m:Nat)(h:m<18446744073709551616):a7M .quo .u64 (m:Int) 128=some (.int .u64 ((m / 128:Nat):Int)):=by
 have h':(m:Int).tdiv 128=((m / 128:Nat):Int):=by rw[c5S X];omega
 simp[a7M,h',IntKind.wrap,IntKind.signed,IntKind.bits];omega
theorem d6v(m:Nat):CV.list [[CV.val (.int .u8 (IntKind.u8.wrap (((m%128:Nat):Int)+128)))]] true none= .list [bcv (UInt8.ofNat (m%128+128))] true none:=by
 have h:IntKind.u8.wrap (((m%128:Nat):Int)+128)=((m%128+128:Nat):Int):=by
  simp[IntKind.wrap,IntKind.signed,IntKind.bits];omega
 rw[h,bcv,d1H X]
theorem b93(l:U)(nn:Bool)(n:Nat)(hl:l.length<=100000000000000)(hn:n<18446744073709551616):b8 CC 150 [(.list (l.map bcv) nn none),.val (.int .u64 (n:Int))] [.dead] λr τ=>D2 1 τ r (.ret (a1g (l++V9 n) 1)) [.dead,A7 tU8 (l++V9 n).length]:=by
 refine qO Tryz.func150 ?_;refine qD (a4v (l:=[]) (new:=l) (p:=0) J J O J (λM w v hr h=>(a5V J (by intro r hr;obtain⟨b,_,rfl⟩:=D5.1 hr;rfl) M w v hr h).any) Z3 a1P b3l a4D J (.inl Z3) J J a96 ?_);refine H3 (α:=U×Nat×Nat) (λx=>[(1,(.val (.int .u64 (x.2.1:Int)))),(5,(a1g x.1 x.2.2))]) (λx=>b2O x.2.2 (A7 tU8 x.1.length)) (λx=>l++V9 n=x.1++V9 x.2.1/\x.2.1<=n) (λx=>x.2.1) (l,n,1) ⟨J,n_7 _⟩ tu_ J ?_;intro⟨b,m,k⟩ _ ⟨hb,hmn⟩;dsimp only at hb hmn⊢;have ak:b.length<=l.length+10:=by
  have h1:=n_8 List.length hb;have h2:=a3Q (n:=n) (k:=9) X;simp only[n_6]at h1;omega
 refine qk (qC ?_ ?_)<;> intro h1
 .have fx:¬m<128:=by have:=a6B h1;omega
  rw[Y9 m,D fx]at hb;refine W (a0Z J O J J J ((d9F m))) ?_;refine W (a7a J O J b8a b3H ((e0v (m%128)).trans (by rw[b52 X]))) ?_;refine W a0d ?_;refine W (B1 [[.val (.int .u8 (IntKind.u8.wrap (((m%128:Nat):Int)+128)))]] J ⟨O,O⟩ Z3 a1P a4D J J J J J J J J J) ?_;refine qD (a4v (l:=b) (new:=[UInt8.ofNat (m%128+128)]) (p:=k) J O O J (b28 (d6v m)) Z3 a1P b3l a4D J (.inl Z3) J (a8u _ _) a96 ?_);refine W (a0Z J O J J J ((e0h m X))) ?_;exact⟨(b++[UInt8.ofNat (m%128+128)],m / 128,k+1),(show m / 128<m by omega),(show l++V9 n=(b++[UInt8.ofNat (m%128+128)])++V9 (m / 128)/\m / 128<=n from⟨by rw[hb];simp,X⟩),⟨o0,⟨O,(n_8 (a1g _) (b2g k _))⟩,O⟩,(b3c _ _ _)⟩
 .have fx:m<128:=by have:=b0k h1;omega
  rw[Y9 m,F fx]at hb;refine j6 ?_;refine W e2M ?_;refine e2g ?_;refine c6 ?_;exact⟨_,rE1,(by rw[hb];exact c07)⟩
theorem c2v(l:U)(nn:Bool)(n:Nat)(hl:l.length<=100000000000000)(hn:n<18446744073709551616)(σ:List b9):b8 CC 150 [(.list (l.map bcv) nn none),.val (.int .u64 (n:Int))] σ λr τ=>∃_:Unit,r= .ret (a1g (l++V9 n) (σ.length+1))/\τ=σ++[.dead,A7 tU8 (l++V9 n).length]/\True:=
 W8 (α:=Unit) hCC (λa ha=>by simp at ha;rcases ha with rfl|rfl;exact a2j _ _;exact .val _) (res:=λ_=>.ret (a1g (l++V9 n) 1)) (res':=λ_ m=>.ret (a1g (l++V9 n) (m+1))) (S:=λ_=>[.dead,A7 tU8 (l++V9 n).length]) (S':=λ_ _=>[.dead,A7 tU8 (l++V9 n).length]) (P:=λ_=>True)
  (a0s (G5 hCC ((b93 l nn n hl hn).mono λr τ h=>⟨_,_,h,(),J,J,O⟩))) (λ_ _=>J) (λ_ m i x h=>by
   rcases i with _|_|i
   .injection h with h;subst h;exact⟨_,J,.dead⟩
   .injection h with h;subst h;exact⟨_,J,a3N _ _⟩
   .cases h) (λ_ m=>.ret (b19 J)) σ
theorem a1T(l:U)(nn:Bool)(s:U)(hl:l.length<=100000000000)(hs:s.length<=100000000000)(σ:List b9):b8 CC 98 [(.list (l.map bcv) nn none),(sv s)] σ λr aa=>r= .ret (.list ((H6 l s).map bcv) (gnn (H6 l s).length) none)/\aa=σ:=by
 refine b8.anyw hCC pu_ pu_ (c7 (qO Tryz.func98 ?_)) σ;refine W R6 ?_;refine W d2R ?_;refine qD (c5 J Tryz.call150 i7 (c2v l nn s.length X X _) J ?_);have hpu:=a3Q (n:=s.length) (k:=9) X;intro _ _;refine qD (a4v (l:=(l++V9 s.length)) (new:=s) (p:=1) J O O J (b64 J) Z3 a1P b3l a4D J (.inr t_7) J J (by simp only[n_6];omega) ?_);exact d7B
def a4L(fl:List Fi)(pkg:U)(L:List (U×Src))(o:U):U:=L.foldl (λo x=>if x.2.pkg=pkg then H6 (H6 o x.1) ((if x8 fl=0 then C1 fl x.1 else none).getD [])else o) o
theorem c7C(h:L[i]?=some x)(o:U):a4L fl pkg (L.drop i) o=a4L fl pkg (L.drop (i+1)) (if x.2.pkg=pkg then H6 (H6 o x.1) ((if x8 fl=0 then C1 fl x.1 else none).getD [])else o):=by
 obtain⟨ab,rfl⟩:=n_3.1 h;rw[R0 ab];rfl
theorem a6q{s:U}(h:s.length<=1000000000):(H6 l s).length<=l.length+s.length+10:=by
 have:=a3Q (n:=s.length) (k:=9) X;unfold H6;simp only[n_6];omega
def d1N(L:List (U×Src))(k:Int)(p o:U):Prop:=¬(fiE L k p o).ct=0->¬1< (fiE L k p o).ct->∃(s:Src) (d:De) (i:Nat),a7T L (fiE L k p o)=(s,(i:Int))/\a10 s/\s.decls[i]?=some d
noncomputable def b12(L:List (U×Src))(k:Int)(p o:U):U:=if(fiE L k p o).ct=0 then [45]else if 1< (fiE L k p o).ct then [63]else
 match(a7T L (fiE L k p o)).1.decls[(a7T L (fiE L k p o)).2.toNat]? with
 |some d=>[61]++a1L (a7T L (fiE L k p o)).1 d
 |none=>[61]
theorem b0a(fl:List Fi)(nn:Bool)(L:List (U×Src))(pkg:U)(hl:fl.length<=1000000)(hL:L.length<=1000)(hP:∀x∈L,x.1.length<=1000)(hbl:∀q b,C1 fl q=some b->b.length<=100000)(σ:List b9):b8 CC 96 [.agg (o4 fl nn),.agg (V4 (L.map Prod.fst) (L.map Prod.snd)),(sv pkg)] σ λr aa=>r= .ret (sv ([61]++a4L fl pkg L []))/\aa=σ:=by
 refine an_ Tryz.func96 ?_;refine b58 ?_;refine cD (I0 J O j3 j5 ?_);refine b2H ?_;refine z_0 ?_;refine cY a5X ?_;refine a7D ?_;refine cY (j7 J O J c3j J c3s G) ?_;refine cY c4s ?_;refine cY c3x ?_;refine b4H ?_;refine j8 hCC (α:=Nat×U) (λa=>[(2,(sv pkg)),(3,.ptr 0 0),(4,.ptr 1 0),(7,(.list (a.2.map bcv) (gnn a.2.length) none)),(13,(.list ((L.map Prod.snd).map Src.cv) (gnn (L.map Prod.snd).length) none)),(14,(iv ((L.map Prod.snd).length:Int))),(15,iv a.1)]) (λ_=>[.box (o4 fl nn),.box (V4 (L.map Prod.fst) (L.map Prod.snd))]) (λa=>a.1<=L.length/\a4L fl pkg L []=a4L fl pkg (L.drop a.1) a.2/\a.2.length<=200000*a.1) (λa=>L.length -a.1) (0,[]) ⟨n_4 _,J,n_7 _⟩ tu_ (ai:=[]) J z8 uz_ ?_;rintro⟨i,o⟩ ⟨hi,hr,ho⟩;dsimp only at hi hr ho⊢;refine b13 ?_;refine cC ?_ ?_<;>intro h1
 .have ab:i<L.length:=sm_ h1;obtain⟨x,hb⟩:∃x,L[i]?=some x:=⟨L[i]'ab,H⟩;rw[c7C hb]at hr;have bd:=hP x (n_2 hb);have hda:((if x8 fl=0 then C1 fl x.1 else none).getD []).length<=100000:=by
   split
   .cases hdf:C1 fl x.1 with
    |none=>exact n_4 _
    |some b=>exact hbl _ _ hdf
   .exact n_4 _
  refine a8C ?_;refine z_4 ?_;refine cY c5N ?_;refine cY (X3 J O J b8O a4d (nb J)) ?_;refine cD (p7 J a48 J j5 ?_);refine cY a4R ?_;refine cD (j2 J O O J j3 a4d j5 J J (nb J) ?_);refine b2t ?_;refine cY c8O ?_;refine cY W9 ?_;refine cY A8 ?_;refine cY a8q ?_;refine w9 ?_;refine cC ?_ ?_<;>intro h2
  .have u2:x.2.pkg=pkg:=I h2;rw[F u2]at hr;have bY:=a6q (l:=o) (s:=x.1) X;have cN:=a6q (l:=H6 o x.1) (s:=((if x8 fl=0 then C1 fl x.1 else none).getD [])) X;refine G4 ?_;refine cW 12 ?_;refine hY T1 ?_;refine hY b3a ?_;refine hY a5L ?_;refine hY A8 ?_;refine hY b91 ?_;refine hY a5u ?_;refine hY (c4 J d1G i7 (a9n fl nn x.1 hl _) J) ?_;refine hY A8 ?_;refine hY a8I ?_;refine hY a8I ?_;refine hY a4R ?_;refine b5d ?_;refine w9 ?_;refine a42 ?_;refine cY b3a ?_;refine cY a5L ?_;refine cY A8 ?_;refine cY b91 ?_;refine cY a5u ?_;refine ye J c5m i7 (a1T o _ x.1 X X _) J ?_;refine cY A8 ?_;refine ye J c5m i7 (a1T (H6 o x.1) _ ((if x8 fl=0 then C1 fl x.1 else none).getD []) X X _) J ?_;refine z_5 ?_;refine a8Q ?_;exact⟨(i+1,H6 (H6 o x.1) ((if x8 fl=0 then C1 fl x.1 else none).getD [])),_,⟨Q,Q,hr,Q⟩,tu_,J⟩
  .have u2:¬x.2.pkg=pkg:=I h2;rw[D u2]at hr;refine C2 ?_;refine a8Q ?_;exact⟨(i+1,o),_,⟨Q,Q,hr,Q⟩,tu_,J⟩
 .have aF:L.length<=i:=sm_ h1;rw[T6 aF]at hr;refine j6 ?_;refine z_4 ?_;refine cY b73 ?_;refine cY (I2 J J O J J K5) ?_;refine a58 ?_;exact⟨_,rE1,_,_,J,J,D9 (n_8 str c38)⟩
theorem a4F(L:List (U×Src))(k:Int)(p o:U)(hL:L.length<=1000)(hd:∀x∈L,x.2.decls.length<=100000)(bo:d1N L k p o)(σ:List b9):b8 CC 94 [.agg (V4 (L.map Prod.fst) (L.map Prod.snd)),iv k,(sv p),(sv o)] σ λr aa=>r= .ret (sv (b12 L k p o))/\aa=σ:=by
 refine b8.anyw hCC pu_ pu_ (c7 (qO Tryz.func94 ?_)) σ;refine qD (I0 J O j3 j5 ?_);refine W (c4 J Tryz.call62 a1x (c0e L k p o hL hd _) J) ?_;refine d5G ?_;refine qC ?_ ?_<;>intro h1
 .have u1:(fiE L k p o).ct=0:=I h1;refine c6 ?_;exact⟨_,a1V J O J,_,_,J,J,D9 (n_8 str (show([45]:U)=b12 L k p o by unfold b12;rw[F u1]))⟩
 .have u1:¬(fiE L k p o).ct=0:=I h1;refine qC ?_ ?_<;>intro h2
  .have u2:1< (fiE L k p o).ct:=I h2;refine c6 ?_;exact⟨_,a1V J O J,_,_,J,J,D9 (n_8 str (show([63]:U)=b12 L k p o by unfold b12;rw[D u1,F u2]))⟩
  .have u2:¬1< (fiE L k p o).ct:=sm_ h2;obtain⟨s,d,i,hD,hs,hdi⟩:=bo u1 u2;have hDI:∀σ,b8 CC 146 [.agg (V4 (L.map Prod.fst) (L.map Prod.snd)),.agg (fiE L k p o).cells] σ λr aa=>r= .ret (.tup [.agg s.cells,iv i])/\aa=σ:=λσ=>by
    have h:=b88 L (fiE L k p o) hL σ;rw[hD]at h;exact h
   refine W (c4 J Tryz.call146 i7 (hDI _) J) ?_;refine c2N ?_;refine W (c4 J Tryz.call147 i7 (c7b s hs i d hdi _) J) ?_;refine W (I2 J J O J J (by have:=a9F hs (hs.dec d (n_2 hdi));simp;omega)) ?_;refine c6 ?_;exact⟨_,a1V J O J,_,_,J,J,D9 (n_8 str (by unfold b12;rw[D u1,D u2,hD];dsimp only;rw[a2L,hdi]))⟩
def b3e(l:U)(fs:List Fi):U:=fs.foldl (λl f=>H6 (H6 l f.p) f.b) l
theorem c7G{fs:List Fi}{y:Fi}(h:fs[i]?=some y)(l:U):b3e l (fs.drop i)=b3e (H6 (H6 l y.p) y.b) (fs.drop (i+1)):=by
 obtain⟨ab,rfl⟩:=n_3.1 h;rw[R0 ab];rfl
theorem a30{s:U}(hs:s.length<=100000000000):(H6 l s).length<=l.length+s.length+10:=by
 have:=a3Q (n:=s.length) (k:=9) X;unfold H6;simp only[n_6];omega
theorem c9s{fs:List Fi}(h:∀f∈fs,f.p.length<=100/\f.b.length<=100000)(l:U):(b3e l fs).length<=l.length+fs.length*101000:=by
 induction fs generalizing l with
 |nil=>simp[b3e]
 |cons y fs ih=>
  have h1:=h y H;have h2:=ih (λf hf=>h f (by simp[hf])) (H6 (H6 l y.p) y.b);have h3:=a30 (l:=H6 l y.p) (s:=y.b) X;have h4:=a30 (l:=l) (s:=y.p) X;rw[C5,R4];simp only[b3e,b3p]at h2⊢;omega
def R5(ms:SM)(fl:List Fi)(pkg:U):U:=[61]++b3e [] (B6 ms fl pkg)
theorem a4w{f:Fi}(h:f∈B6 ms fl pkg):f∈fl:=(a7K.1 h).1
theorem a9x(ms:SM)(fl:List Fi)(pkg:U):(B6 ms fl pkg).length<=fl.length:=a9M _ _
theorem c1l(cP:fl.length<=1000)(gW:∀f∈fl,f.p.length<=100/\f.b.length<=100000):(R5 ms fl pkg).length<=102000000:=by
 have h1:=c9s (λf hf=>gW f (a4w hf)) (fs:=B6 ms fl pkg) [];have h2:=a9x ms fl pkg;have h3:(B6 ms fl pkg).length*101000<=1000*101000:=R9 _ X;unfold R5;simp only[n_6,C5,J6]at h1⊢;omega
theorem d5M(fl:List Fi)(nn va:Bool)(br:List U)(ms:SM)(me:EM):WAt (wst fl nn va br ms me) 0 1 2 3 fl nn va br ms me:=⟨J,J,J,J,b1G ⟨G,G,G,G,G,G⟩⟩
theorem c6m(fl:List Fi)(nn va:Bool)(br:List U)(ms:SM)(me:EM)(pkg:U)(cP:fl.length<=1000)(gW:∀f∈fl,f.p.length<=100/\f.b.length<=100000):b8 CC 115 [.ptr 0 0,(sv pkg)] (wst fl nn va br ms me) λr τ=>D2 4 τ r (.ret (sv (R5 ms fl pkg))) (wst fl nn va br ms me):=by
 have hffl:=a9x ms fl pkg;refine qO Tryz.func115 ?_;refine W (c4 J Tryz.call158 i7 (c0M (d5M fl nn va br ms me) pkg X) J) ?_;refine W a0E ?_;refine j8 hCC (α:=Nat×U) (λx=>[(5,(.list (x.2.map bcv) (gnn x.2.length) none)),(10,(.list ((B6 ms fl pkg).map Fi.cv) (gnn (B6 ms fl pkg).length) none)),(11,(iv ((B6 ms fl pkg).length:Int))),(12,iv x.1)]) (λ_=>(wst fl nn va br ms me)) (λx=>x.1<=(B6 ms fl pkg).length/\x.2.length<=x.1*101000/\b3e [] (B6 ms fl pkg)=b3e x.2 ((B6 ms fl pkg).drop x.1)) (λx=>(B6 ms fl pkg).length -x.1) (0,[]) ⟨n_4 _,n_4 _,J⟩ tu_ (ai:=[]) J z8 uz_ ?_;intro⟨i,l⟩ ⟨hi,hl,hr⟩;dsimp only at hi hl hr⊢;refine qk (qC ?_ ?_)<;> intro h1
 .have ab:(i:Int)< (B6 ms fl pkg).length:=I h1;obtain⟨y,hb⟩:∃y,(B6 ms fl pkg)[i]?=some y:=⟨(B6 ms fl pkg)[i]'X,H⟩;rw[c7G hb]at hr;obtain⟨ft,hyb⟩:=gW y (a4w (n_2 hb));have fj:=a30 (l:=l) (s:=y.p) X;have cl:=a30 (l:=H6 l y.p) (s:=y.b) X;have db:i*101000<=1000*101000:=R9 _ X;refine b3N ?_;refine cW 8 ?_;refine hY A8 ?_;refine hY c4F ?_;refine hY W9 ?_;refine hY (c4 J c4j i7 (a1X l _ y.p X X _) J) ?_;refine hY c4F ?_;refine hY W9 ?_;refine hY (c4 J c4j i7 (a1X (H6 l y.p) _ y.b X X _) J) ?_;refine a9Y ?_;refine W j9 ?_;exact⟨(i+1,H6 (H6 l y.p) y.b),_,⟨Q,Q,Q,hr⟩,tu_,J⟩
 .have aF:(B6 ms fl pkg).length<=i:=sm_ h1;rw[T6 aF]at hr;replace hr:b3e [] (B6 ms fl pkg)=l:=hr;have db:i*101000<=1000*101000:=R9 _ X;refine j6 ?_;refine W b73 ?_;refine W (I2 J J O J J (by show 1+l.length<=_;omega)) ?_;refine c6 ?_;exact⟨_,rE1,(by rw[R5,hr];exact a3C J (.old (.val _)))⟩
theorem b7W(ao:WAt σ w q1 q2 t fl nn va br ms me)(pkg:U)(cP:fl.length<=1000)(gW:∀f∈fl,f.p.length<=100/\f.b.length<=100000):b8 CC 115 [.ptr w 0,(sv pkg)] σ λr τ=>r= .ret (sv (R5 ms fl pkg))/\τ=σ:=
 b5R (λa h=>by simp at h;subst h;exact .val _) (.val _) (c6m fl nn va br ms me pkg cP gW) ao
end Go.Proofs.YtlppbmfecjabeaaGreatDoor
namespace Go.Proofs
open Go.Shelf
def Tryz.lays190_ren:Go.Shelf.Ren:=⟨λ|190=>161|125=>166|258=>206|128=>216|129=>217|302=>252|303=>253|304=>254|305=>255|306=>256|307=>257|308=>258|309=>259|310=>260|333=>291|329=>265|330=>266|334=>292|335=>293|336=>294|344=>311|n=>n,λ|31=>26|9=>9|3=>3|46=>141|0=>0|51=>262|53=>86|4=>4|183=>256|182=>255|131=>139|5=>5|218=>292|222=>296|228=>320|229=>321|n=>n,λ|n=>n⟩
theorem Tryz.lays190:Go.Proofs.Lays.n190 Tryz.prog Tryz.lays190_ren:={
 mixed:=by kernel_rfl
 f125:=Tryz.func166.trans (n_8 some l8)
 f128:=Tryz.func216.trans (n_8 some l8)
 f129:=d3I.trans (n_8 some l8)
 f190:=Tryz.func161.trans (n_8 some l8)
 f258:=Tryz.func206.trans (n_8 some l8)
 f302:=Tryz.func252.trans (n_8 some l8)
 f303:=Tryz.func253.trans (n_8 some l8)
 f304:=Tryz.func254.trans (n_8 some l8)
 f305:=Tryz.func255.trans (n_8 some l8)
 f306:=Tryz.func256.trans (n_8 some l8)
 f307:=Tryz.func257.trans (n_8 some l8)
 f308:=Tryz.func258.trans (n_8 some l8)
 f309:=Tryz.func259.trans (n_8 some l8)
 f310:=Tryz.func260.trans (n_8 some l8)
 f329:=Tryz.func265.trans (n_8 some l8)
 f330:=Tryz.func266.trans (n_8 some l8)
 f333:=Tryz.func291.trans (n_8 some l8)
 f334:=Tryz.func292.trans (n_8 some l8)
 f335:=Tryz.func293.trans (n_8 some l8)
 f336:=Tryz.func294.trans (n_8 some l8)
 f344:=Tryz.func311.trans (n_8 some l8)
 t0:=d3W
 a0:=d1t
 z0:=c8U
 v0:=d1E
 t3:=b8r
 a3:=a2K
 z3:=t_1
 v3:=t_8
 t4:=c3V
 a4:=c31
 z4:=c3k
 v4:=d2V
 t5:=d2L
 a5:=d3x
 z5:=a1P
 v5:=a4D
 t9:=c65
 a9:=Y4
 z9:=t_0
 v9:=t_4
 t31:=Tryz.underlying26
 a31:=b74
 z31:=a2H
 v31:=Tryz.zeroValue26
 t46:=c8H
 a46:=c9Z
 z46:=d2n
 v46:=d1e
 t51:=d3j
 a51:=d1C
 z51:=c9v
 v51:=d0B
 t53:=d0a
 a53:=c8m
 z53:=d0E
 v53:=d0Y
 t131:=Tryz.underlying139
 a131:=Tryz.isAgg139
 z131:=Tryz.sizeOf139
 v131:=Tryz.zeroValue139
 t182:=Tryz.underlying255
 a182:=Tryz.isAgg255
 z182:=Tryz.sizeOf255
 v182:=Tryz.zeroValue255
 t183:=Tryz.underlying256
 a183:=Tryz.isAgg256
 z183:=Tryz.sizeOf256
 v183:=Tryz.zeroValue256
 t218:=Tryz.underlying292
 a218:=Tryz.isAgg292
 z218:=Tryz.sizeOf292
 v218:=Tryz.zeroValue292
 t222:=Tryz.underlying296
 a222:=Tryz.isAgg296
 z222:=Tryz.sizeOf296
 v222:=Tryz.zeroValue296
 t228:=Tryz.underlying320
 a228:=Tryz.isAgg320
 z228:=Tryz.sizeOf320
 v228:=Tryz.zeroValue320
 t229:=Tryz.underlying321
 a229:=Tryz.isAgg321
 z229:=Tryz.sizeOf321
 v229:=Tryz.zeroValue321}
end Go.Proofs
namespace Go.Proofs.YtlppbmfecjabeaaGreatDoor
open Go Go.Cl
variable{N B:List U}{pkg x n y:U}{Jg Jj Ji σ:List b9}{i k j:Nat}{v b v':b9}{fl:List Fi}{L:List (U×Src)}{ms:SM}
theorem d2z{ss:List U}(ay:ss≠[])(ak:ss.length<=1000000)(hk:σ[k]?=some (.vec 1 (ss.map scv))):b8 CC 161 [.vec k 0 ss.length] σ λr τ=>∃_:Unit,r= .ret (.tup [])/\τ=σ.set k (.vec 1 ((a0B ss).map scv))/\True:=
 (d0I (f:=161) (λblk off cap ss w h1 h2 h3=>b98 Tryz.lays190 blk off cap ss w h1 h2 h3) ay X hk).mono λr τ h=>⟨(),h.1,h.2,O⟩
def a1I(ms:SM)(f:Fi):List U:=((glk ms f.p).getD Src.z).imports
inductive Reach(ms:SM)(fl:List Fi)(pkg:U):U->Prop where
 |base:Reach ms fl pkg pkg
 |step {n:U} {f:Fi} {s:U}:Reach ms fl pkg n->f∈B6 ms fl n->s∈a1I ms f->Reach ms fl pkg s
def allI(ms:SM)(fl:List Fi):List U:=fl.flatMap (a1I ms)
theorem b8P(h:Reach ms fl pkg n):n∈pkg::allI ms fl:=by
 cases h with
 |base=>simp
 |step _ hf hs=>exact a6D _ (a6L.2 ⟨_,a4w hf,hs⟩)
structure NmI(ms:SM)(fl:List Fi)(pkg:U)(N:List U):Prop where
 nd:N.Nodup
 rch:∀n∈N,Reach ms fl pkg n
 pk:pkg∈N
theorem NmI.len(h:NmI ms fl pkg N):N.length<=1+(allI ms fl).length:=by
 have:=List.Nodup.length_le_of_subset h.nd (λn hn=>b8P (h.rch n hn));simpa[b7a]using this
theorem NmI.snoc{s:U}{f:Fi}(h:NmI ms fl pkg N)(hn:n∈N)(hf:f∈B6 ms fl n)(hs:s∈a1I ms f)(hsN:s∉N):NmI ms fl pkg (N++[s]) where
 nd:=a4K h.nd hsN
 rch:=λm hm=>by
  rcases J5.1 hm with hm|hm
  .exact h.rch m hm
  .simp at hm;subst hm;exact .step (h.rch n hn) hf hs
 pk:=a7c _ h.pk
theorem b61(h:NmI ms fl pkg N)(hc:∀n∈N,∀f∈B6 ms fl n,∀s∈a1I ms f,s∈N)(n:U):n∈N↔Reach ms fl pkg n:=
 ⟨h.rch n,λhr=>by
  induction hr with
  |base=>exact h.pk
  |step _ hf hs ih=>exact hc _ ih _ hf _ hs⟩
theorem b0p{A:List U}(hA:A.Nodup)(hB:B.Nodup)(h:∀n,n∈A↔n∈B):a0B A=a0B B:=by
 have hp:A.Perm B:=(List.perm_ext_iff_of_nodup hA hB).2 h;have tr:∀(a b c:U),decide (a<=b)=true->decide (b<=c)=true->decide (a<=c)=true:=λa b c h1 h2=>by
  simp only[a1G]at h1 h2⊢;exact List.le_trans h1 h2
 have to:∀(a b:U),(decide (a<=b) ||decide (b<=a))=true:=λa b=>by
  simp only[a8Z,a1G];exact List.le_total a b
 refine List.Perm.eq_of_pairwise (le:=λa b=>decide (a<=b)=true) (λa b _ _ h1 h2=>?_) (c5d tr to A) (c5d tr to B) ((b2Q A _).trans (hp.trans (b2Q B _).symm));simp only[a1G]at h1 h2;exact c27 h1 h2
open Classical in
noncomputable def a4G(ms:SM)(fl:List Fi)(pkg:U):List U:=if h:∃N:List U,N.Nodup/\∀n,n∈N↔Reach ms fl pkg n then a0B h.choose else []
theorem a6e(hN:N.Nodup)(h:∀n,n∈N↔Reach ms fl pkg n):a4G ms fl pkg=a0B N:=by
 have dD:∃N:List U,N.Nodup/\∀n,n∈N↔Reach ms fl pkg n:=⟨N,hN,h⟩;unfold a4G;rw[dif_pos dD];exact b0p dD.choose_spec.1 hN λn=>(dD.choose_spec.2 n).trans (h n).symm
def b0S(ms:SM)(fl:List Fi)(l:U)(N:List U):U:=N.foldl (λl s=>H6 (H6 l s) (R5 ms fl s)) l
theorem c57(h:N[i]?=some y)(l:U):b0S ms fl l (N.drop i)=b0S ms fl (H6 (H6 l y) (R5 ms fl y)) (N.drop (i+1)):=by
 obtain⟨ab,rfl⟩:=n_3.1 h;rw[R0 ab];rfl
noncomputable def a63(ms:SM)(fl:List Fi)(pkg:U):U:=[61]++b0S ms fl [] (a4G ms fl pkg)
def tst(Ji Jg:List b9)(v:b9)(Jj:List b9):List b9:=Ji++Jg++v::Jj
theorem a4y(hW:Ji.length=4):(tst Ji Jg v Jj)[4+Jg.length]?=some v:=by
 rw[tst,a1v (by simp[hW])];simp[hW]
theorem c3B(hW:Ji.length=4):(tst Ji Jg v Jj).set (4+Jg.length) v'=tst Ji Jg v' Jj:=by
 rw[tst,b4f _ _ (by simp[hW])];simp[hW,tst]
theorem d4H(hW:Ji.length=4):(tst Ji Jg v Jj).set (4+Jg.length) .dead++[v']=tst Ji (Jg++.dead::Jj) v' []:=by
 rw[c3B hW];simp[tst]
theorem d6P(hW:Ji.length=4):(tst Ji Jg v Jj).length=4+(Jg++b9.dead::Jj).length:=by
 simp[tst,hW]
theorem c5j(a b:b9):(tst Ji Jg v Jj++[a]).set (tst Ji Jg v Jj).length b=tst Ji Jg v (Jj++[b]):=by
 rw[b4f _ _ (n_7 _)];simp[tst]
theorem b3D(s:U)(hk:σ[k]?=some (.vec 1 (N.map scv)))(hl:N.length<=1000000):b8 CC 160 [.vec k 0 N.length,sv s] σ λr aa=>r= .ret (.val (.bool (decide (s∈N))))/\aa=σ:=by
 have h:=a8O N true s X;refine a60 (len:=N.length) (Y:=N.map scv) hCC (λa ha=>by simp at ha;subst ha;exact .val _) (λr hr c hc=>?_) H hk ?_
 .obtain ⟨x,_,rfl⟩:=D5.1 hr;simp[scv]at hc;subst hc;exact .val _
 .rw [show((N.map scv).drop 0).take N.length=N.map scv from by rw[b0Q,R3 H]];exact h
theorem c5q(fl:List Fi)(nn va:Bool)(br:List U)(ms:SM)(me:EM):WAt (tst (wst fl nn va br ms me) Jg v Jj) 0 1 2 3 fl nn va br ms me:=⟨J,J,J,J,b1G ⟨G,G,G,G,G,G⟩⟩
theorem d2Y{f:Fi}(h:f∈fl):(a1I ms f).length<=(allI ms fl).length:=by
 unfold allI
 induction fl with
 |nil=>cases h
 |cons x l ih=>
  rw[a5A,n_6]
  rcases J0.1 h with rfl|h
  .omega
  .have:=ih h;omega
theorem d3S(fl:List Fi)(nn va:Bool)(br:List U)(ms:SM)(me:EM)(pkg:U)(cP:fl.length<=64)(gW:∀f∈fl,f.p.length<=100/\f.b.length<=100000)(dU:(allI ms fl).length<=512)(dl:∀{n:U},Reach ms fl pkg n->n.length<=100000):b8 CC 117 [.ptr 0 0,(sv pkg)] (wst fl nn va br ms me) λr τ=>D2 4 τ r (.ret (sv (a63 ms fl pkg))) (wst fl nn va br ms me):=by
 refine qO Tryz.func117 ?_;refine qD (c35 J O J J t_2 t_0 t_4 J ?_);refine H3 (α:=Nat×List U×List b9×List b9) (λx=>[(0,.ptr 0 0),(5,.vec (4+x.2.2.1.length) 0 x.2.1.length),(6,iv x.1)]) (λx=>tst (wst fl nn va br ms me) x.2.2.1 (.vec 1 (x.2.1.map scv)) x.2.2.2) (λx=>NmI ms fl pkg x.2.1/\x.1<=x.2.1.length/\∀n∈x.2.1.take x.1,∀f∈B6 ms fl n,∀s∈a1I ms f,s∈x.2.1) (λx=>1+(allI ms fl).length -x.1) (0,[pkg],[],[]) ⟨⟨H,λn hn=>by simp at hn;subst hn;exact .base,H⟩,n_4 _,λn hn=>by simp at hn⟩ tu_ J ?_;intro⟨i,N,Jg,Jj⟩ _ ⟨hN,hi,hc⟩;dsimp only at hN hi hc⊢;have hNl:=hN.len;have fR:=dU;refine qk (W c3h ?_);refine qC ?_ ?_<;>intro h1
 .have ab:i<N.length:=sm_ h1;obtain⟨n,gn⟩:∃n,N[i]?=some n:=⟨N[i]'ab,H⟩;have hffl:=a9x ms fl n;refine W (T0 J O O J J t_2 t_0 (a4y J) X X) ?_;refine W (P8 J O J Y4 (a4y J) (j1 (by rw[K0];exact gn)) J) ?_;refine W (c4 J Tryz.call158 i7 (c0M (c5q fl nn va br ms me) n X) J) ?_;refine W a0E ?_;refine H3 (α:=Nat×List U×List b9×List b9) (λx=>[(0,.ptr 0 0),(5,.vec (4+x.2.2.1.length) 0 x.2.1.length),(6,iv i),(27,(.list ((B6 ms fl n).map Fi.cv) (gnn (B6 ms fl n).length) none)),(28,(iv ((B6 ms fl n).length:Int))),(29,iv x.1)]) (λx=>tst (wst fl nn va br ms me) x.2.2.1 (.vec 1 (x.2.1.map scv)) x.2.2.2) (λx=>NmI ms fl pkg x.2.1/\(∃t,x.2.1=N++t)/\x.1<=(B6 ms fl n).length/\∀f∈(B6 ms fl n).take x.1,∀s∈a1I ms f,s∈x.2.1) (λx=>(B6 ms fl n).length -x.1) (0,N,Jg,Jj) ⟨hN,⟨[],H⟩,n_4 _,λf hf=>by simp at hf⟩ tu_ J ?_;intro⟨q,N1,G1,H1⟩ _ ⟨hN1,cJ,hq,bW⟩;dsimp only at hN1 cJ hq bW⊢;have hNl1:=hN1.len;refine qk (qC ?_ ?_)<;> intro h2
  .have hlq:q< (B6 ms fl n).length:=sm_ h2;obtain⟨y,hy⟩:∃y,(B6 ms fl n)[q]?=some y:=⟨(B6 ms fl n)[q]'hlq,H⟩;have eS:=n_2 hy;refine W (p9 J O O J J a7I a5a X (j1 hy) J) ?_;refine qD (p7 J a6H J j5 ?_);refine qD (j2 J O O J j3 a5a j5 b3f J (nb J) ?_);refine b5y ?_;refine hY b90 ?_;refine hY b9L ?_;refine hY c4F ?_;refine hY (o6 J O J Y4 (by rw[b0L H]) J) ?_;refine hY (U4 (vc:=vcS) (l:=ms) (a:=y.p) c0H J O O J J b8s a48 J J (a6x Src.z J _)) ?_;refine hY (a4b J O J a7h J b74 J) ?_;refine hY I7 ?_;refine hY c4H ?_;refine W1 ?_;refine H3 (α:=Nat×List U×List b9×List b9) (λx=>[(0,.ptr 0 0),(5,.vec (4+x.2.2.1.length) 0 x.2.1.length),(6,iv i),(27,(.list ((B6 ms fl n).map Fi.cv) (gnn (B6 ms fl n).length) none)),(28,(iv ((B6 ms fl n).length:Int))),(29,iv q),(40,(.list ((a1I ms y).map scv) (gnn (a1I ms y).length) none)),(41,(iv ((a1I ms y).length:Int))),(42,iv x.1)]) (λx=>tst (wst fl nn va br ms me) x.2.2.1 (.vec 1 (x.2.1.map scv)) x.2.2.2) (λx=>NmI ms fl pkg x.2.1/\(∃t,x.2.1=N1++t)/\x.1<=(a1I ms y).length/\∀s∈(a1I ms y).take x.1,s∈x.2.1) (λx=>(a1I ms y).length -x.1) (0,N1,G1,H1++[.box y.cells]) ⟨hN1,⟨[],H⟩,n_4 _,λf hf=>by simp at hf⟩ tu_ (c5j _ _) ?_;intro⟨r,N2,G2,H2⟩ _ ⟨gF,dx,hr,cr⟩;dsimp only at gF dx hr cr⊢;have hNl2:=gF.len;have bm:(a1I ms y).length<=(allI ms fl).length:=d2Y (a4w eS);refine qk (qC ?_ ?_)<;> intro h3
   .have gt:r< (a1I ms y).length:=sm_ h3;obtain⟨s,hs⟩:∃s,(a1I ms y)[r]?=some s:=⟨(a1I ms y)[r]'gt,H⟩;have hsm:=n_2 hs;have fV:(a1I ms y).take (r+1)=(a1I ms y).take r++[s]:=by rw[a1H,hs];rfl
    refine W c5v ?_;refine W (c4 J c0k i7 (b3D s (a4y J) X) J) ?_;refine qC ?_ ?_<;>intro h4
    .have gO:s∉N2:=I h4;obtain⟨t1,ff⟩:=cJ;obtain⟨t2,fq⟩:=dx;have hnN2:n∈N2:=by rw[fq,ff];simp[n_2 gn]
     have eK:=gF.snoc hnN2 eS hsm gO;have hsnl:=eK.len;rw[n_6,b6x]at hsnl;refine W e1H ?_;refine qD (a2R ((N2++[s]).map scv) (N2++[s]).length J O O J q_5 t_2 t_0 a3p t_4 J (a4y J) B7 H Z6 B7 H H ?_);refine W j9 ?_;exact⟨(r+1,N2++[s],G2++.dead::H2,[]),Q,⟨eK,⟨t2++[s],by rw[fq,C7]⟩,Q,λz hz=>by
      dsimp only at hz⊢;rw[fV]at hz
      rcases J5.1 hz with hz|hz
      .exact a7c _ (cr z hz)
      .simp at hz;subst hz;simp⟩,⟨o0,⟨O,(n_8 (λk=>CV.vec k 0 (N2++[s]).length) (d6P J))⟩,o0,o0,o0,o0,o0,o0,o0,O⟩,(d4H J)⟩
    .have gO:s∈N2:=I h4;refine W j9 ?_;exact⟨(r+1,N2,G2,H2),Q,⟨gF,dx,Q,λz hz=>by
      dsimp only at hz⊢;rw[fV]at hz
      rcases J5.1 hz with hz|hz
      .exact cr z hz
      .simp at hz;subst hz;exact gO⟩,tu_,J⟩
   .have hre:r=(a1I ms y).length:=sm_ h3;obtain⟨t1,ff⟩:=cJ;obtain⟨t2,fq⟩:=dx;have fV:(B6 ms fl n).take (q+1)=(B6 ms fl n).take q++[y]:=by rw[a1H,hy];rfl
    refine b6N ?_;exact⟨(q+1,N2,G2,H2),Q,⟨gF,⟨t1++t2,by rw[fq,ff,C7]⟩,Q,λz hz s hs=>by
     dsimp only at hz⊢;rw[fV]at hz
     rcases J5.1 hz with hz|hz
     .rw [fq];exact a7c _ (bW z hz s hs)
     .simp at hz;subst hz;exact cr s (by rw[hre,R3 (n_7 _)];exact hs)⟩,tu_,J⟩
  .have hqe:q=(B6 ms fl n).length:=sm_ h2;obtain⟨t1,ff⟩:=cJ;have fV:N1.take (i+1)=N.take i++[n]:=by
    rw[ff,c4l X,a1H,gn];rfl
   refine b6N ?_;exact⟨(i+1,N1,G1,H1),Q,⟨hN1,by dsimp only;rw[ff,n_6];omega,λz hz f hf s hs=>by
    dsimp only at hz⊢;rw[fV]at hz
    rcases J5.1 hz with hz|hz
    .rw [ff];exact a7c _ (hc z hz f hf s hs)
    .simp at hz;subst hz;exact bW f (by rw[hqe,R3 (n_7 _)];exact hf) s hs⟩,tu_,J⟩
 .have cQ:i=N.length:=sm_ h1;have bO:=b61 hN (λn hn=>hc n (by rw[cQ,R3 (n_7 _)];exact hn));have hT:=a6e hN.nd bO;have ba:(a0B N).length=N.length:=b4j _;have ay:N≠[]:=λh=>by have:=hN.pk;rw[h]at this;cases this
  refine j6 ?_;refine qD (c5 J Tryz.call161 ⟨O,O⟩ (d2z ay X (a4y J)) J ?_);intro _ _;refine qN (tst (wst fl nn va br ms me) Jg (.vec 1 ((a0B N).map scv)) Jj) (c3B J) ?_;refine W c3h ?_;refine H3 (α:=Nat×U) (λx=>[(0,.ptr 0 0),(11,(.list (x.2.map bcv) (gnn x.2.length) none)),(58,.vec (4+Jg.length) 0 N.length),(59,iv N.length),(60,iv x.1)]) (λ_=>tst (wst fl nn va br ms me) Jg (.vec 1 ((a0B N).map scv)) Jj) (λx=>x.1<=N.length/\x.2.length<=x.1*103000000/\b0S ms fl [] (a0B N)=b0S ms fl x.2 ((a0B N).drop x.1)) (λx=>N.length -x.1) (0,[]) ⟨n_4 _,n_4 _,J⟩ tu_ J ?_;intro⟨j,l⟩ _ ⟨hj,hl,hr⟩;dsimp only at hj hl hr⊢;refine qk (qC ?_ ?_)<;> intro h5
  .have hlj:j<N.length:=sm_ h5;obtain⟨s,hs⟩:∃s,(a0B N)[j]?=some s:=⟨(a0B N)[j]'X,H⟩;rw[c57 hs]at hr;have dS:=dl (hN.rch s ((b2Q N _).mem_iff.1 (n_2 hs)));have hfc:=c1l (ms:=ms) (pkg:=s) X gW;have fj:=a30 (l:=l) (s:=s) X;have cl:=a30 (l:=H6 l s) (s:=R5 ms fl s) X;have hj2:j*103000000<=600*103000000:=R9 _ X;refine W (T0 J O O J J t_2 t_0 (a4y J) X X) ?_;refine W (P8 J O J Y4 (a4y J) (j1 (by rw[K0];exact hs)) J) ?_;refine W (c4 J c4j i7 (a1X l _ s X X _) J) ?_;refine W (c4 J Tryz.call115 i7 (b7W (c5q fl nn va br ms me) s X gW) J) ?_;refine W (c4 J c4j i7 (a1X (H6 l s) _ (R5 ms fl s) X X _) J) ?_;refine W j9 ?_;exact⟨(j+1,H6 (H6 l s) (R5 ms fl s)),Q,⟨Q,Q,hr⟩,tu_,J⟩
  .have hje:j=N.length:=sm_ h5;rw[hje,<- ba,a9T]at hr;replace hr:b0S ms fl [] (a0B N)=l:=hr;have hj2:j*103000000<=600*103000000:=R9 _ X;refine j6 ?_;refine W b73 ?_;refine W (I2 J J O J J (by show 1+l.length<=_;omega)) ?_;refine c6 ?_;exact⟨_,rE1,(by rw[a63,hT,hr];exact a3C J (.old (.val _)))⟩
theorem d6S{nn va:Bool}{br:List U}{me:EM}{w q1 q2 t:Nat}(ao:WAt σ w q1 q2 t fl nn va br ms me)(pkg:U)(cP:fl.length<=64)(gW:∀f∈fl,f.p.length<=100/\f.b.length<=100000)(dU:(allI ms fl).length<=512)(dl:∀{n:U},Reach ms fl pkg n->n.length<=100000):b8 CC 117 [.ptr w 0,(sv pkg)] σ λr τ=>r= .ret (sv (a63 ms fl pkg))/\τ=σ:=
 b5R (λa h=>by simp at h;subst h;exact .val _) (.val _) (d3S fl nn va br ms me pkg cP gW dU dl) ao
theorem d6J(l:List U)(nn:Bool)(u:U)(hl:l.length<=1000000):b8 CC 149 [(.list (l.map scv) nn none),(sv u)] [] λr aa=>r= .ret (.val (.bool (decide (u∈l))))/\aa=[]:=by
 refine c7 (qO Tryz.func149 ?_);refine e2j ?_;intro i ⟨hi,hd⟩;refine qk (qC ?_ ?_)<;> intro h1
 .have ab:i<l.length:=sm_ h1;obtain⟨w,hb⟩:∃w,l[i]?=some w:=⟨l[i]'ab,H⟩;refine b5t ?_;refine qC ?_ ?_<;>intro h2
  .have hw:w=u:=I h2;exact d8M
  .have hw:¬w=u:=I h2;exact d6W
 .have aF:l.length<=i:=sm_ h1;refine z_9 ?_;exact⟨_,rE1,_,_,J,J,j4 (show false=decide (u∈l) by rw[hd,T6 aF];simp)⟩
inductive a7v(L:List (U×Src))(pkg:U):U->Prop where
 |base:a7v L pkg pkg
 |step {n:U} {x:U×Src} {s:U}:a7v L pkg n->x∈L->x.2.pkg=n->s∈x.2.imports->a7v L pkg s
def b2m(L:List (U×Src)):List U:=L.flatMap λx=>x.2.imports
theorem c5Q(h:a7v L pkg n):n∈pkg::b2m L:=by
 cases h with
 |base=>simp
 |step _ hf _ hs=>exact a6D _ (a6L.2 ⟨_,hf,hs⟩)
structure NmL(L:List (U×Src))(pkg:U)(N:List U):Prop where
 nd:N.Nodup
 rch:∀n∈N,a7v L pkg n
 pk:pkg∈N
theorem NmL.len(h:NmL L pkg N):N.length<=1+(b2m L).length:=by
 have:=List.Nodup.length_le_of_subset h.nd (λn hn=>c5Q (h.rch n hn));simpa[b7a]using this
theorem NmL.snoc{s:U}{x:U×Src}(h:NmL L pkg N)(hn:x.2.pkg∈N)(hf:x∈L)(hs:s∈x.2.imports)(hsN:s∉N):NmL L pkg (N++[s]) where
 nd:=a4K h.nd hsN
 rch:=λm hm=>by
  rcases J5.1 hm with hm|hm
  .exact h.rch m hm
  .simp at hm;subst hm;exact .step (h.rch _ hn) hf J hs
 pk:=a7c _ h.pk
theorem c0h(h:NmL L pkg N)(hc:∀n∈N,∀x∈L,x.2.pkg=n->∀s∈x.2.imports,s∈N)(n:U):n∈N↔a7v L pkg n:=
 ⟨h.rch n,λhr=>by
  induction hr with
  |base=>exact h.pk
  |step _ hf hp hs ih=>exact hc _ ih _ hf hp _ hs⟩
def swk(B:List U)(i k:Nat)(x:U):List U:=B.take k++x::((B.take i).drop k++B.drop (i+1))
theorem b9T(h:B[i]?=some x):swk B i i x=B:=by
 obtain⟨ab,rfl⟩:=n_3.1 h;rw[swk,T6 K5,a1D,<- R0 ab,b4W]
theorem b1f(h:B[j]?=some y)(hj:j+1<=i):B.take (j+1)=B.take j++[y]/\(B.take i).drop j=y::(B.take i).drop (j+1):=by
 obtain⟨ab,rfl⟩:=n_3.1 h;refine⟨by rw[a1H,a0H ab];rfl,?_⟩;rw[R0 a3J,List.getElem_take]
theorem d4t(hk:k<=i)(hi:i<B.length):(swk B i k x).length=B.length:=by
 simp only[swk,n_6,C5,a94,a4Y];omega
theorem c2o(hk:k<=i)(hi:i<B.length):(swk B i k x)[k]?=some x:=by
 rw[swk,a1v a3J,a4Y,show k-min k B.length=0 by omega];rfl
theorem b6l(hj:j<k)(h:B[j]?=some y):(swk B i k x)[j]?=some y:=by
 have:=(n_3.1 h).1;rw[swk,R8 a3J,a2y,F hj,h]
theorem d3G(h:B[j]?=some y)(hj:j+1<=i):((swk B i (j+1) x).set (j+1) y).set j x=swk B i j x:=by
 obtain⟨h1,h2⟩:=b1f h hj;have ab:=(n_3.1 h).1;have hl:(B.take j).length=j:=by rw[a4Y];omega
 unfold swk;rw[h1,h2,C7,b4f _ _ (by rw[hl];omega),hl,show j+1-j=1 by omega,b4f _ _ (by rw[hl];exact n_7 _),hl,b0o];rfl
theorem d6h(hB:(B.take i).Pairwise (·<=·))(hg:∀z∈(B.take i).drop k,x<=z)(hx:k=0\/∃y,B[k-1]?=some y/\y<=x)(hk:k<=i):(B.take k++x::(B.take i).drop k).Pairwise (·<=·):=by
 have he:B.take i=B.take k++(B.take i).drop k:=by
  have:=b4W k (B.take i);rw[List.take_take,b5O hk]at this;exact this.symm
 rw[he,List.pairwise_append]at hB;obtain⟨p1,p2,p3⟩:=hB;refine List.pairwise_append.2 ⟨p1,a5N.2 ⟨hg,p2⟩,λa ha b hb=>?_⟩
 rcases J0.1 hb with rfl|hb
 .rcases hx with rfl|⟨y,hy,hyx⟩
  .simp at ha
  .by_cases hk0:k=0
   .subst hk0;simp at ha
   .obtain ⟨k,rfl⟩:∃k',k=k'+1:=⟨k-1,X⟩;rw[c3D]at hy;rw[(b1f hy hk).1,List.pairwise_append]at p1;rw[(b1f hy hk).1]at ha
    rcases J5.1 ha with ha|ha
    .exact List.le_trans (p1.2.2 a ha y H) hyx
    .simp at ha;subst ha;exact hyx
 .exact p3 a ha b hb
theorem e0E{A:List U}(hp:A.Perm N)(hs:A.Pairwise (·<=·)):A=a0B N:=by
 have tr:∀(a b c:U),decide (a<=b)=true->decide (b<=c)=true->decide (a<=c)=true:=λa b c h1 h2=>by
  simp only[a1G]at h1 h2⊢;exact List.le_trans h1 h2
 have to:∀(a b:U),(decide (a<=b) ||decide (b<=a))=true:=λa b=>by
  simp only[a8Z,a1G];exact List.le_total a b
 refine List.Perm.eq_of_pairwise (le:=λa b=>decide (a<=b)=true) (λa b _ _ h1 h2=>?_) (hs.imp λh=>I h) (c5d tr to N) (hp.trans (b2Q N _).symm);simp only[a1G]at h1 h2;exact c27 h1 h2
theorem d2Z(h:B[i]?=some x)(hk:k<=i):(swk B i k x).Perm B:=by
 have e1:B=B.take k++((B.take i).drop k++x::B.drop (i+1)):=by
  have h1:=b9T h;have h2:=b4W k (B.take i);rw[List.take_take,b5O hk]at h2;rw[swk,T6 a3J,a1D]at h1;rw[<- C7,h2,h1]
 refine List.Perm.trans ?_ (List.Perm.of_eq e1.symm);exact List.Perm.append_left _ List.perm_middle.symm
theorem d1d(hk:k<=i)(hi:i<B.length):(swk B i k x).take (i+1)=B.take k++x::(B.take i).drop k:=by
 have hl:(B.take k++x::(B.take i).drop k).length=i+1:=by simp only[n_6,C5,a94,a4Y];omega
 rw[swk,show B.take k++x::((B.take i).drop k++B.drop (i+1))=(B.take k++x::(B.take i).drop k)++B.drop (i+1) by simp,c4l X,R3 X]
theorem a1l:(tst [b] Jg v Jj)[1+Jg.length]?=some v:=by
 rw[tst,a1v K5];simp[b7a]
theorem c2Y:(tst [b] Jg v Jj).set (1+Jg.length) v'=tst [b] Jg v' Jj:=by
 rw[tst,b4f _ _ K5];simp[b7a,tst]
theorem d3A:(tst [b] Jg v Jj).set (1+Jg.length) .dead++[v']=tst [b] (Jg++.dead::Jj) v' []:=by
 rw[c2Y];simp[tst]
theorem d9G:(tst [b] Jg v Jj).length=1+(Jg++b9.dead::Jj).length:=by
 simp[tst];omega
theorem d6Q{s:Nat}{Y:List (List CV)}{p:Nat}{c:List CV}(h:(tst [b] Jg (.vec s Y) Jj)[p]?=some (.box c)):(tst [b] (Jg++.dead::Jj) v' [])[p]?=some (.box c):=by
 have hp:1+Jg.length≠p:=λe=>by rw[<- e,a1l]at h;cases h
 rw[<- d3A (v:=.vec s Y),R8 (by rw[List.length_set];exact(n_3.1 h).1),a2M hp];exact h
theorem d9D(a:b9):(tst [b] Jg v (Jj++[a]))[(tst [b] Jg v Jj).length]?=some a:=by
 have:tst [b] Jg v (Jj++[a])=tst [b] Jg v Jj++[a]:=by simp[tst]
 rw[this,a1v (n_7 _),b0o];rfl
theorem c8K(s:U)(hk:σ[k]?=some (.vec 1 (N.map scv)))(hl:N.length<=1000000):b8 CC 149 [.vec k 0 N.length,sv s] σ λr aa=>r= .ret (.val (.bool (decide (s∈N))))/\aa=σ:=by
 have h:=d6J N true s X;refine a60 (len:=N.length) (Y:=N.map scv) hCC (λa ha=>by simp at ha;subst ha;exact .val _) (λr hr c hc=>?_) H hk ?_
 .obtain ⟨x,_,rfl⟩:=D5.1 hr;simp[scv]at hc;subst hc;exact .val _
 .rw [show((N.map scv).drop 0).take N.length=N.map scv from by rw[b0Q,R3 H]];exact h
theorem c5R(l:List U)(i:Nat)(s:U):(l.map scv).set i [sv s]=(l.set i s).map scv:=by rw[List.map_set];rfl
theorem d2A{x:U×Src}(h:x∈L):x.2.imports.length<=(b2m L).length:=by
 unfold b2m
 induction L with
 |nil=>cases h
 |cons y l ih=>
  rw[a5A,n_6]
  rcases J0.1 h with rfl|h
  .omega
  .have:=ih h;omega
theorem c7z(L:List (U×Src))(pkg:U)(hL:L.length<=1000)(hA:(b2m L).length<=100000):b8 CC 97 [.agg (V4 (L.map Prod.fst) (L.map Prod.snd)),(sv pkg)] [] λr τ=>∃N:List U,a1t 0 τ r (.ret (.list ((a0B N).map scv) true none))/\(N.Nodup/\∀n,n∈N↔a7v L pkg n):=by
 refine qO Tryz.func97 ?_;refine qD (I0 J O j3 j5 ?_);refine qD (c35 J O J J t_2 t_0 t_4 J ?_);refine H3 (α:=Nat×List U×List b9×List b9) (λx=>[(2,.ptr 0 0),(5,.vec (1+x.2.2.1.length) 0 x.2.1.length),(6,iv x.1)]) (λx=>tst [.box (V4 (L.map Prod.fst) (L.map Prod.snd))] x.2.2.1 (.vec 1 (x.2.1.map scv)) x.2.2.2) (λx=>NmL L pkg x.2.1/\x.1<=x.2.1.length/\∀n∈x.2.1.take x.1,∀y∈L,y.2.pkg=n->∀s∈y.2.imports,s∈x.2.1) (λx=>1+(b2m L).length -x.1) (0,[pkg],[],[]) ⟨⟨H,λn hn=>by simp at hn;subst hn;exact .base,H⟩,n_4 _,λn hn=>by simp at hn⟩ tu_ J ?_;intro⟨i,N,Jg,Jj⟩ _ ⟨hN,hi,hc⟩;dsimp only at hN hi hc⊢;have hNl:=hN.len;refine qk (W c3h ?_);refine qC ?_ ?_<;>intro h1
 .have ab:i<N.length:=sm_ h1;obtain⟨n,gn⟩:∃n,N[i]?=some n:=⟨N[i]'ab,H⟩;refine W c3x ?_;refine H3 (α:=Nat×List U×List b9×List b9) (λx=>[(2,.ptr 0 0),(5,.vec (1+x.2.2.1.length) 0 x.2.1.length),(6,iv i),(22,(.list ((L.map Prod.snd).map Src.cv) (gnn (L.map Prod.snd).length) none)),(23,(iv ((L.map Prod.snd).length:Int))),(24,iv x.1)]) (λx=>tst [.box (V4 (L.map Prod.fst) (L.map Prod.snd))] x.2.2.1 (.vec 1 (x.2.1.map scv)) x.2.2.2) (λx=>NmL L pkg x.2.1/\(∃t,x.2.1=N++t)/\x.1<=L.length/\∀y∈L.take x.1,y.2.pkg=n->∀s∈y.2.imports,s∈x.2.1) (λx=>L.length -x.1) (0,N,Jg,Jj) ⟨hN,⟨[],H⟩,n_4 _,λy hy=>by simp at hy⟩ tu_ J ?_;intro⟨q,N1,G1,H1⟩ _ ⟨hN1,cJ,hq,bW⟩;dsimp only at hN1 cJ hq bW⊢;have hNl1:=hN1.len;refine qs 2 (qC ?_ ?_)<;> intro h2
  .have hlq:q<L.length:=sm_ h2;obtain⟨y,hy⟩:∃y,L[q]?=some y:=⟨L[q]'hlq,H⟩;have eS:=n_2 hy;have hyi:=d2A eS;refine G4 ?_;refine qs 1 (W (p9 J O O J J b7G a4d X (j1 (c23 hy)) J) ?_);refine qD (p7 J a48 J j5 ?_);refine qD (j2 J O O J j3 a4d j5 b3f J (nb J) ?_);refine z_0 ?_;refine cY (j7 J O J a7h J a2H G) ?_;refine W (o6 J O J b74 (by rw[b0L H]) J) ?_;refine W I7 ?_;refine qk ?_;refine H3 (α:=Nat×List U×List b9×List b9) (λx=>[(2,.ptr 0 0),(5,.vec (1+x.2.2.1.length) 0 x.2.1.length),(6,iv i),(8,.ptr (tst [.box (V4 (L.map Prod.fst) (L.map Prod.snd))] G1 (.vec 1 (N1.map scv)) H1).length 0),(22,(.list ((L.map Prod.snd).map Src.cv) (gnn (L.map Prod.snd).length) none)),(23,(iv ((L.map Prod.snd).length:Int))),(24,iv q),(29,(.list (y.2.imports.map scv) (gnn y.2.imports.length) none)),(30,iv y.2.imports.length),(31,iv x.1)]) (λx=>tst [.box (V4 (L.map Prod.fst) (L.map Prod.snd))] x.2.2.1 (.vec 1 (x.2.1.map scv)) x.2.2.2) (λx=>NmL L pkg x.2.1/\(∃t,x.2.1=N1++t)/\x.1<=y.2.imports.length/\(∀s∈y.2.imports.take x.1,y.2.pkg=n->s∈x.2.1)/\(tst [.box (V4 (L.map Prod.fst) (L.map Prod.snd))] x.2.2.1 (.vec 1 (x.2.1.map scv)) x.2.2.2)[(tst [.box (V4 (L.map Prod.fst) (L.map Prod.snd))] G1 (.vec 1 (N1.map scv)) H1).length]?=some (.box y.2.cells)) (λx=>y.2.imports.length -x.1) (0,N1,G1,H1++[.box y.2.cells]) ⟨hN1,⟨[],H⟩,n_4 _,λs hs=>by simp at hs,d9D _⟩ tu_ (c5j _ _) ?_;intro⟨r,N2,G2,H2⟩ _ ⟨gF,dx,hr,cr,hbx⟩;dsimp only at gF dx hr cr hbx⊢;have hNl2:=gF.len;refine qk (qC ?_ ?_)<;> intro h3
   .have gt:r<y.2.imports.length:=sm_ h3;obtain⟨s,hs⟩:∃s,y.2.imports[r]?=some s:=⟨y.2.imports[r]'gt,H⟩;have hsm:=n_2 hs;have fV:y.2.imports.take (r+1)=y.2.imports.take r++[s]:=by rw[a1H,hs];rfl
    obtain⟨t1,ff⟩:=cJ;obtain⟨t2,fq⟩:=dx;have gn2:N2[i]?=some n:=by rw[fq,ff,C7,R8 ab];exact gn
    have hiN2:i<N2.length:=(n_3.1 gn2).1;refine W c5v ?_;refine cW 13 ?_;refine hY c8O ?_;refine hY (o6 J O J Y4 hbx J) ?_;refine a3c ?_;refine hY (T0 J O O J J t_2 t_0 a1l X X) ?_;refine hY (P8 J O J Y4 a1l (j1 (by rw[K0];exact gn2)) J) ?_;refine hY a8q ?_;refine b5k ?_;refine L1 J J O J (λhg=>c4 J Tryz.call149 ⟨hg,hg,O⟩ (c8K s a1l X) J) ?_;refine L1 J J O J a29 ?_;refine b5w ?_;refine qC ?_ ?_<;>intro h4
    .have gO:y.2.pkg=n/\s∉N2:=I h4;have eK:=gF.snoc (gO.1 ▸n_2 gn2) eS hsm gO.2;have hsnl:=eK.len;rw[n_6,b6x]at hsnl;refine W e1H ?_;refine qD (a2R ((N2++[s]).map scv) (N2++[s]).length J O O J q_5 t_2 t_0 a3p t_4 J a1l B7 H Z6 B7 H H ?_);refine W j9 ?_;exact⟨(r+1,N2++[s],G2++.dead::H2,[]),Q,⟨eK,⟨t2++[s],by rw[fq,C7]⟩,Q,λz hz hp=>by
      dsimp only at hz⊢;rw[fV]at hz
      rcases J5.1 hz with hz|hz
      .exact a7c _ (cr z hz hp)
      .simp at hz;subst hz;simp,d6Q hbx⟩,⟨o0,⟨O,(n_8 (λk=>CV.vec k 0 (N2++[s]).length) d9G)⟩,o0,o0,o0,o0,o0,o0,o0,o0,O⟩,d3A⟩
    .have gO:y.2.pkg=n->s∈N2:=I h4;refine W j9 ?_;exact⟨(r+1,N2,G2,H2),Q,⟨gF,⟨t2,fq⟩,Q,λz hz hp=>by
      dsimp only at hz⊢;rw[fV]at hz
      rcases J5.1 hz with hz|hz
      .exact cr z hz hp
      .simp at hz;subst hz;exact gO hp,hbx⟩,tu_,J⟩
   .have hre:r=y.2.imports.length:=sm_ h3;obtain⟨t1,ff⟩:=cJ;obtain⟨t2,fq⟩:=dx;have fV:L.take (q+1)=L.take q++[y]:=by rw[a1H,hy];rfl
    refine j6 ?_;refine b0O ?_;exact⟨(q+1,N2,G2,H2),Q,⟨gF,⟨t1++t2,by rw[fq,ff,C7]⟩,Q,λz hz hp s hs=>by
     dsimp only at hz⊢;rw[fV]at hz
     rcases J5.1 hz with hz|hz
     .rw [fq];exact a7c _ (bW z hz hp s hs)
     .simp at hz;subst hz;exact cr s (by rw[hre,R3 (n_7 _)];exact hs) hp⟩,tu_,J⟩
  .have hqe:q=L.length:=sm_ h2;obtain⟨t1,ff⟩:=cJ;have fV:N1.take (i+1)=N.take i++[n]:=by
    rw[ff,c4l X,a1H,gn];rfl
   refine b6N ?_;exact⟨(i+1,N1,G1,H1),Q,⟨hN1,by dsimp only;rw[ff,n_6];omega,λz hz f hf hp s hs=>by
    dsimp only at hz⊢;rw[fV]at hz
    rcases J5.1 hz with hz|hz
    .rw [ff];exact a7c _ (hc z hz f hf hp s hs)
    .simp at hz;subst hz;exact bW f (by rw[hqe,R3 (n_7 _)];exact hf) hp s hs⟩,tu_,J⟩
 .have cQ:i=N.length:=sm_ h1;have bO:=c0h hN (λn hn=>hc n (by rw[cQ,R3 (n_7 _)];exact hn));refine j6 ?_;refine W c3h ?_;refine H3 (α:=Nat×List U) (λx=>[(5,.vec (1+Jg.length) 0 N.length),(55,iv N.length),(56,iv x.1)]) (λx=>tst [.box (V4 (L.map Prod.fst) (L.map Prod.snd))] Jg (.vec 1 (x.2.map scv)) Jj) (λx=>x.1<=N.length/\x.2.Perm N/\(x.2.take x.1).Pairwise (·<=·)) (λx=>N.length -x.1) (0,N) ⟨n_4 _,List.Perm.refl _,H⟩ tu_ J ?_;intro⟨m,B⟩ _ ⟨hm,hP,hS⟩;dsimp only at hm hP hS⊢;have hBl:=hP.length_eq;refine qk (qC ?_ ?_)<;> intro h5
  .have fW:m<B.length:=sm_ h5;obtain⟨x0,hx0⟩:∃x,B[m]?=some x:=⟨B[m]'fW,H⟩;refine H3 (α:=Nat) (λk=>[(5,.vec (1+Jg.length) 0 N.length),(12,iv k),(55,iv N.length),(56,iv m)]) (λk=>tst [.box (V4 (L.map Prod.fst) (L.map Prod.snd))] Jg (.vec 1 ((swk B m k x0).map scv)) Jj) (λk=>k<=m/\∀z∈(B.take m).drop k,x0<=z) (λk=>k) m ⟨n_7 _,λz hz=>by rw[T6 a3J]at hz;cases hz⟩ tu_ (by rw[b9T hx0]) ?_;intro k _ ⟨hkm,hgt⟩;have dS:=d4t (x:=x0) hkm fW;obtain⟨y,hy⟩:∃y,0<k->B[k-1]?=some y:=⟨B.getD (k-1) [],λh=>by rw[a49,a0H X];rfl⟩;refine qk ?_;refine cW 14 ?_;refine b79 ?_;refine b5k ?_;refine L1 J J O J e09 ?_;refine L1 J J O J (λhg=>P8 J hg J Y4 a1l (j1 (by rw[K0];exact c2o hkm fW)) J) ?_;refine e2y ?_;refine L1 J J O J c8P ?_;refine L1 J J O J e09 ?_;refine L1 J J O J (λhg=>P8 J hg J Y4 a1l (j1 (by rw[K0,show((k:Int) -1).toNat=k-1 by omega];exact b6l (sm_ hg) (hy (sm_ hg)))) J) ?_;refine d0N ?_;refine W1 ?_;refine qC ?_ ?_<;>intro h6
   .have u6:0<k/\Op.bytesLess x0 y=true:=I h6;have hyk:=hy u6.1;obtain⟨j,rfl⟩:∃j,k=j+1:=⟨k-1,X⟩;rw[c3D]at hyk;have hj1:(((j+1:Nat):Int) -1).toNat=j:=by omega
    have gg:x0<=y:=by have:=u6.2;rw[bytesLess_eq,a1G]at this;exact Std.le_of_lt this
    refine cF [] [0,1,2,3,4,5,6,7,8,9,10,11,12,13,14] (tl:=[(15,[2,3,4]),(16,[]),(17,[])]) ?_;refine a7l ?_;refine a7l ?_;refine chf J (c8 J X7) ?_;refine a7l ?_;refine chf J (c8 J X7) ?_;refine chf J c4E ?_;refine chf J e1a ?_;refine a7l ?_;refine chf J c4E ?_;refine chf J e1a ?_;refine chf J c4E ?_;refine C8 ?_;refine B0 J J J (M8 (((swk B m (j+1) x0).set (j+1) y).map scv) J O O J j3 t_0 (.inl J) a1l (j1 (by rw[K0];exact c2o hkm fW)) J (nb J) (by simp only[K0,a2L];exact c5R _ _ _) c2Y ?_);refine⟨⟨F4,F4,(by exact c8 J X7),O⟩,?_⟩;refine E9 J J c4E ⟨O,?_⟩;refine B0 J J J (M8 ((swk B m j x0).map scv) J O O J j3 t_0 (.inl J) a1l (j1 (by rw[K0,hj1,a2M X];exact b6l X hyk)) J (nb J) (by rw[K0,hj1];refine(c5R _ _ _).trans ?_;rw[d3G hyk hkm]) c2Y ?_);refine a84 ?_;refine W X7 ?_;exact⟨j,X,⟨X,λz hz=>by rw[(b1f hyk hkm).2]at hz;rcases J0.1 hz with rfl|hz;exact gg;exact hgt z hz⟩,⟨o0,⟨O,(n_8 (λz:Int=>iv z) X)⟩,o0,o0,O⟩,J⟩
   .have u6:k=0\/∃y,B[k-1]?=some y/\y<=x0:=by
     rcases b0J k with h0|h0
     .exact .inl h0
     .refine .inr ⟨y,hy h0,?_⟩;have hb:Op.bytesLess x0 y=false:=by simpa[h0]using h6
      rw[bytesLess_eq,b3R]at hb;exact List.not_lt.1 hb
    refine b6N ?_;exact⟨(m+1,swk B m k x0),Q,⟨Q,(d2Z hx0 hkm).trans hP,by dsimp only;rw[d1d hkm fW];exact d6h hS hgt u6 hkm⟩,tu_,J⟩
  .have bR:m=N.length:=sm_ h5;rw[bR,<- hBl,R3 (n_7 _)]at hS;obtain rfl:=e0E hP hS;refine z_9 ?_;exact⟨_,rE1,⟨N,.ret (by rw[<- hBl];exact b2B X a1l (λr hr c hc=>by obtain⟨x,_,rfl⟩:=D5.1 hr;simp[scv]at hc;subst hc;exact .val _)),hN.nd,bO⟩⟩
open Classical in
noncomputable def a0r(L:List (U×Src))(pkg:U):List U:=if h:∃N:List U,N.Nodup/\∀n,n∈N↔a7v L pkg n then a0B h.choose else []
theorem b8A(hN:N.Nodup)(h:∀n,n∈N↔a7v L pkg n):a0r L pkg=a0B N:=by
 have dD:∃N:List U,N.Nodup/\∀n,n∈N↔a7v L pkg n:=⟨N,hN,h⟩;unfold a0r;rw[dif_pos dD];exact b0p dD.choose_spec.1 hN λn=>(dD.choose_spec.2 n).trans (h n).symm
theorem c7K(h:n∈a0r L pkg):a7v L pkg n:=by
 unfold a0r at h;split at h
 .rename_i dD;exact(dD.choose_spec.2 n).1 ((b2Q _ _).mem_iff.1 h)
 .cases h
theorem c6h(L:List (U×Src))(pkg:U):(a0r L pkg).length<=1+(b2m L).length:=by
 unfold a0r
 split
 .rename_i dD;have h1:(a0B dD.choose).length=dD.choose.length:=b4j _;have h2:=List.Nodup.length_le_of_subset dD.choose_spec.1 (λn hn=>c5Q ((dD.choose_spec.2 n).1 hn));rw[h1];simpa[b7a]using h2
 .exact n_4 _
theorem c87(L:List (U×Src))(pkg:U)(hL:L.length<=1000)(hA:(b2m L).length<=100000)(σ:List b9):b8 CC 97 [.agg (V4 (L.map Prod.fst) (L.map Prod.snd)),sv pkg] σ λr τ=>r= .ret (.list ((a0r L pkg).map scv) true none)/\τ=σ:=
 (F5 (res:=λN:List U=>.ret (.list ((a0B N).map scv) true none)) (P:=λN=>N.Nodup/\∀n,n∈N↔a7v L pkg n) hCC (λa h=>by
  simp at h
  rcases h with rfl|rfl
  .exact r6 ⟨F3 _ _,a3U _ _,O⟩
  .exact .val _) (c7z L pkg hL hA) (λ_ _=>F3 _ _) σ).mono λr τ ⟨N,h1,h2,h3,h4⟩=>⟨by rw[h1,b8A h3 h4],h2⟩
def c2u(fl:List Fi)(L:List (U×Src))(N:List U)(o:U):U:=N.foldl (λo q=>H6 (H6 o q) ([61]++a4L fl q L [])) o
theorem c7Q{q:U}(h:N[i]?=some q)(o:U):c2u fl L (N.drop i) o=c2u fl L (N.drop (i+1)) (H6 (H6 o q) ([61]++a4L fl q L [])):=by
 obtain⟨ab,rfl⟩:=n_3.1 h;rw[R0 ab];rfl
theorem b9Y{fl:List Fi}{pkg:U}(hbl:∀q b,C1 fl q=some b->b.length<=100000):∀(L:List (U×Src)) (o:U),(∀x∈L,x.1.length<=1000)->(a4L fl pkg L o).length<=o.length+200000*L.length
 | [],o,_=>n_7 _
 |x::l,o,hP=>by
  have hx:=hP x H;have ih:=b9Y (pkg:=pkg) hbl l (if x.2.pkg=pkg then H6 (H6 o x.1) ((if x8 fl=0 then C1 fl x.1 else none).getD [])else o) λy hy=>hP y (by simp[hy]);have hd:((if x8 fl=0 then C1 fl x.1 else none).getD []).length<=100000:=by
   split
   .cases hdf:C1 fl x.1 with
    |none=>exact n_4 _
    |some b=>exact hbl _ _ hdf
   .exact n_4 _
  have q1:=a6q (l:=o) (s:=x.1) X;have q2:=a6q (l:=H6 o x.1) (s:=(if x8 fl=0 then C1 fl x.1 else none).getD []) X;have e:a4L fl pkg (x::l) o=a4L fl pkg l (if x.2.pkg=pkg then H6 (H6 o x.1) ((if x8 fl=0 then C1 fl x.1 else none).getD [])else o):=J;rw[e,C5];have h2:(if x.2.pkg=pkg then H6 (H6 o x.1) ((if x8 fl=0 then C1 fl x.1 else none).getD [])else o).length<=o.length+200000:=by
   split<;>omega
  omega
noncomputable def inR(fl:List Fi)(L:List (U×Src))(ev:List Va)(k:Ky):U:=
 if k.k=1 then b12 L 1 k.a k.b else if k.k=2 then b12 L 2 k.a k.b else if k.k=3 then b12 L 3 [] k.a else
 if k.k=4 then(if(if x8 fl=0 then C1 fl k.a else none).isSome=true then [61]++(if x8 fl=0 then C1 fl k.a else none).getD []else [45])else
 if k.k=5 then(if(P3 ev k.a).isSome=true then [61]++Lib.itoa ((P3 ev k.a).getD 0)else [45])else
 if k.k=6 then [61]++a4L fl k.a L []else [61]++c2u fl L (a0r L k.a) []
structure d6w(fl:List Fi)(L:List (U×Src)):Prop where
 hl:fl.length<=1000000
 hL:L.length<=64
 hA:(b2m L).length<=512
 hP:∀x∈L,x.1.length<=1000
 hbl:∀q b,C1 fl q=some b->b.length<=100000
 hd:∀x∈L,x.2.decls.length<=100000
 hi:∀x∈L,∀s∈x.2.imports,s.length<=1000
 ok:∀k p o,d1N L k p o
theorem d6w.rch(h:d6w fl L)(hp:pkg.length<=1000)(hr:a7v L pkg n):n.length<=1000:=by
 cases hr with
 |base=>exact hp
 |step _ hx _ hs=>exact h.hi _ hx _ hs
theorem c1a(fl:List Fi)(nn:Bool)(L:List (U×Src))(ev:List Va)(en:Bool)(k:Ky)(h:d6w fl L)(dR:ev.length<=1000000000)(fS:∀v,P3 ev k.a=some v->-9007199254740992<=v/\v<=9007199254740992)(hka:k.a.length<=1000)(σ:List b9):b8 CC 54 [.agg (o4 fl nn),.agg (V4 (L.map Prod.fst) (L.map Prod.snd)),.agg (E7 ev en),.agg k.cells] σ λr aa=>r= .ret (sv (inR fl L ev k))/\aa=σ:=by
 refine b8.anyw hCC pu_ pu_ (c7 (qO Tryz.func54 ?_)) σ;refine z_7 ?_;refine z_7 ?_;refine qC ?_ ?_<;>intro h1
 .have w1:k.k=1:=I h1;refine W (c4 J c9t ⟨O,J,O,O,O⟩ (a4F L 1 k.a k.b (by have:=h.hL;omega) h.hd (h.ok _ _ _) _) J) ?_;refine c6 ?_;exact⟨_,a1V J O J,_,_,J,J,D9 (n_8 str (show _=inR fl L ev k by unfold inR;rw[F w1]))⟩
 .have w1:¬k.k=1:=I h1;refine qC ?_ ?_<;>intro h2
  .have w2:k.k=2:=I h2;refine W (c4 J c9t ⟨O,J,O,O,O⟩ (a4F L 2 k.a k.b (by have:=h.hL;omega) h.hd (h.ok _ _ _) _) J) ?_;refine c6 ?_;exact⟨_,a1V J O J,_,_,J,J,D9 (n_8 str (show _=inR fl L ev k by unfold inR;rw[D w1,F w2]))⟩
  .have w2:¬k.k=2:=I h2;refine qC ?_ ?_<;>intro h3
   .have w3:k.k=3:=I h3;refine W (c4 J c9t ⟨O,J,J,O,O⟩ (a4F L 3 [] k.a (by have:=h.hL;omega) h.hd (h.ok _ _ _) _) J) ?_;refine c6 ?_;exact⟨_,a1V J O J,_,_,J,J,D9 (n_8 str (show _=inR fl L ev k by unfold inR;rw[D w1,D w2,F w3]))⟩
   .have w3:¬k.k=3:=I h3;refine qC ?_ ?_<;>intro h4
    .have w4:k.k=4:=I h4;refine W (c4 J d1G i7 (a9n fl nn k.a h.hl _) J) ?_;refine qC ?_ ?_<;>intro h5
     .have v4:(if x8 fl=0 then C1 fl k.a else none).isSome=true:=h5;have eN:((if x8 fl=0 then C1 fl k.a else none).getD []).length<=100000:=by
       split
       .cases hdf:C1 fl k.a with
        |none=>exact n_4 _
        |some b=>exact h.hbl _ _ hdf
       .exact n_4 _
      refine W (I2 J J O J J K5) ?_;refine c6 ?_;exact⟨_,a1V J O J,_,_,J,J,D9 (n_8 str (show _=inR fl L ev k by unfold inR;rw[D w1,D w2,D w3,F w4,F v4]))⟩
     .have v4:¬(if x8 fl=0 then C1 fl k.a else none).isSome=true:=by rw[show(if x8 fl=0 then C1 fl k.a else none).isSome=false from h5];decide
      refine c6 ?_;exact⟨_,a1V J O J,_,_,J,J,D9 (n_8 str (show _=inR fl L ev k by unfold inR;rw[D w1,D w2,D w3,F w4,D v4]))⟩
    .have w4:¬k.k=4:=I h4;refine qC ?_ ?_<;>intro h6
     .have w5:k.k=5:=I h6;refine W (c4 J c8T i7 (a2z ev en k.a dR _) J) ?_;refine qC ?_ ?_<;>intro h7
      .have v5:(P3 ev k.a).isSome=true:=h7;obtain⟨z,hz⟩:=b8M.1 v5;have hzr:=fS z hz;have eW:(P3 ev k.a).getD 0=z:=by rw[hz];rfl
       have hit:=a5F (n:=z) X X;refine W (c4 J c8j ⟨O,O⟩ (a5Y _ (by rw[eW];exact hzr.1) (by rw[eW];exact hzr.2) _) J) ?_;refine W (I2 J J O J J (by rw[eW];simp;omega)) ?_;refine c6 ?_;exact⟨_,a1V J O J,_,_,J,J,D9 (n_8 str (show _=inR fl L ev k by unfold inR;rw[D w1,D w2,D w3,D w4,F w5,F v5]))⟩
      .have v5:¬(P3 ev k.a).isSome=true:=by rw[show(P3 ev k.a).isSome=false from h7];decide
       refine c6 ?_;exact⟨_,a1V J O J,_,_,J,J,D9 (n_8 str (show _=inR fl L ev k by unfold inR;rw[D w1,D w2,D w3,D w4,F w5,D v5]))⟩
     .have w5:¬k.k=5:=I h6;refine qC ?_ ?_<;>intro h8
      .have w6:k.k=6:=I h8;refine W (c4 J Tryz.call96 D6 (b0a fl nn L k.a h.hl (by have:=h.hL;omega) h.hP h.hbl _) J) ?_;refine c6 ?_;exact⟨_,a1V J O J,_,_,J,J,D9 (n_8 str (show _=inR fl L ev k by unfold inR;rw[D w1,D w2,D w3,D w4,D w5,F w6]))⟩
      .have w6:¬k.k=6:=I h8;have htl:=c6h L k.a;have hA:=h.hA;have hL:=h.hL;refine W (c4 J Tryz.call97 i7 (c87 L k.a X X _) J) ?_;refine W I7 ?_;refine j8 hCC (α:=Nat×U) (λa=>[(4,.ptr 0 0),(5,.ptr 1 0),(13,(.list (a.2.map bcv) (gnn a.2.length) none)),(75,(.list ((a0r L k.a).map scv) true none)),(76,(iv ((a0r L k.a).length:Int))),(77,iv a.1)]) (λ_=>[.box (o4 fl nn),.box (V4 (L.map Prod.fst) (L.map Prod.snd)),.box (E7 ev en),.box k.cells]) (λa=>a.1<=(a0r L k.a).length/\c2u fl L (a0r L k.a) []=c2u fl L ((a0r L k.a).drop a.1) a.2/\a.2.length<=20000000*a.1) (λa=>(a0r L k.a).length -a.1) (0,[]) ⟨n_4 _,J,n_7 _⟩ tu_ (ai:=[]) J z8 uz_ ?_;rintro⟨i,o⟩ ⟨hi,hr,ho⟩;dsimp only at hi hr ho⊢;refine qk (qC ?_ ?_)<;> intro h9
       .have ab:i< (a0r L k.a).length:=sm_ h9;obtain⟨q,hb⟩:∃q,(a0r L k.a)[i]?=some q:=⟨(a0r L k.a)[i]'ab,H⟩;rw[c7Q hb]at hr;have hq:=h.rch hka (c7K (n_2 hb));have hfi:=b9Y (pkg:=q) h.hbl L [] h.hP;have hfj:([61]++a4L fl q L []).length<=12800001:=by simp at hfi⊢;omega
        have q1:=a6q (l:=o) (s:=q) X;have q2:=a6q (l:=H6 o q) (s:=[61]++a4L fl q L []) X;refine W a64 ?_;refine cW 9 ?_;refine a3c ?_;refine hY (c4 J c5m i7 (a1T o _ q X X _) J) ?_;refine hY T1 ?_;refine hY b4A ?_;refine hY A8 ?_;refine hY (c4 J Tryz.call96 D6 (b0a fl nn L q h.hl X h.hP h.hbl _) J) ?_;refine hY (c4 J c5m i7 (a1T (H6 o q) _ ([61]++a4L fl q L []) X X _) J) ?_;refine a9Y ?_;refine W j9 ?_;exact⟨(i+1,H6 (H6 o q) ([61]++a4L fl q L [])),_,⟨Q,Q,hr,Q⟩,tu_,J⟩
       .have aF:(a0r L k.a).length<=i:=sm_ h9;rw[T6 aF]at hr;refine j6 ?_;refine W b73 ?_;refine W (I2 J J O J J K5) ?_;refine c6 ?_;exact⟨_,a1V J O J,_,_,J,J,D9 (n_8 str (show _=inR fl L ev k by unfold inR;rw[D w1,D w2,D w3,D w4,D w5,D w6];rw[hr];rfl))⟩
def er(t:Tok):Tok:=⟨t.k,t.t,t.n,0⟩
end Go.Proofs.YtlppbmfecjabeaaGreatDoor
