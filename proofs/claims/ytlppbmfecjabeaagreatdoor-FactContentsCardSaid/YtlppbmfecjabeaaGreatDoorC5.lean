/- Part 5 of what the claim needs: values without addresses, and what the program's functions do with them. -/
import Derived.Shelf.LaysM
import Derived.Shelf.Strconv.Itoa3
import Derived.Test.YtlppbmfecjabeaaGreatDoorC4
set_option linter.all false
set_option maxRecDepth 100000
set_option maxHeartbeats 4000000
namespace Go.Proofs.YtlppbmfecjabeaaGreatDoor
open Go Go.Cl
variable {T:TypeId} {rest:List CV} {n q k:Nat} {l s:Str} {σ:List b9} {b:List Ex} {R:Nat->Nat->Prop} {a:Bool}
mutual
def Tr.deps:Nat->Tr->List Nat
 | d,.n k _ _ _ ch=>a6z (if k=4 then d else d+1) ch++[d]
def a6z:Nat->List Tr->List Nat
 | _,[]=>[]
 | d,t::l=>t.deps d++a6z d l
end
mutual
theorem Tr.deps_len:∀ (t:Tr) (d:Nat),(t.deps d).length=t.size
 | .n k u o nm ch,d=>by rw [Tr.deps,Tr.size,n_5,a1N ch];rfl
theorem a1N:∀ (l:List Tr) (d:Nat),(a6z d l).length=w8 l
 | [],_=>rfl
 | t::l,d=>by rw [a6z,w8,n_5,Tr.deps_len t d,a1N l _]
end
theorem Tr.deps_last (t:Tr) (d:Nat):(t.deps d)[t.size - 1]? = some d:=by
 cases t with
 | n k u o nm ch =>
  rw [Tr.deps,Tr.size,c3t,a0y (by rw [a1N];exact n_4 _),a1N];simp
structure d6Y (E:List Ex) (D:List Nat) (d j:Nat) (x:Ex) (e:Nat):Prop where
 he:E[j]? = some x
 hd:D[j]? = some e
 lo:d<=e
 hi:e<=32
 ch:∀ a∈x.args,∃ r:Nat,a=r/\D[r]? = some (if x.k=4 then e else e+1)
theorem b3r {d:Nat}:∀ (l:List Tr) (s:Nat) (D0 D1:List Nat),D0.length=s->∀ a∈o0 l s,∃ r:Nat,a=r/\(D0++a6z d l++D1)[r]? = some d
 | [],_,_,_,_,a,h=>by cases h
 | t::l,s,D0,D1,hD,a,h=>by
  rw [o0] at h;have hp:=t.size_pos
  rcases R5.1 h with rfl | h
  ·refine ⟨s+t.size - 1,rfl,?_⟩;rw [a6z,n_8,n_8,a0y om_,hD,show s+t.size - 1 - s=t.size - 1 by omega,M5 (by rw [t.deps_len];omega)];exact t.deps_last d
  ·have:=b3r (d:=d) l (s+t.size) (D0++t.deps d) D1 (by rw [n_5,t.deps_len,hD]) a h;rw [a6z,<- n_8 D0];exact this
mutual
theorem d0H {np:Nat}:∀ (t:Tr) {d:Nat} (s:Nat) (E0 E1:List Ex) (D0 D1:List Nat),E0.length=s->D0.length=s->t.wf np d->∀ j,s<=j->j < s+t.size->∃ x e,d6Y (E0++t.flat s++E1) (D0++t.deps d++D1) d j x e
 | .n k u o nm ch,d,s,E0,E1,D0,D1,hE,hD,hw,j,h1,h2=>by
  rw [Tr.wf] at hw;rw [Tr.size] at h2;rw [Tr.flat,Tr.deps];by_cases hj:j < s+w8 ch
  ·obtain ⟨x,e,g⟩:=c1s ch s E0 (⟨k,u,o,nm,o0 ch s⟩::E1) D0 (d::D1) hE hD hw.2.2 j h1 hj;refine ⟨x,e,⟨by simpa [n_8] using g.he,by simpa [n_8] using g.hd,?_,g.hi,fun a ha=>by simpa [n_8] using g.ch a ha⟩⟩;have:=g.lo;split at this <;> omega
  ·have hj:j=s+w8 ch:=by omega
   refine ⟨⟨k,u,o,nm,o0 ch s⟩,d,?_,?_,n_4 _,hw.1,fun a ha=>?_⟩
   ·rw [<- n_8,n_8,a0y (by rw [n_5,P7];omega),n_5,P7,hE,hj,b5J];rfl
   ·rw [<- n_8,n_8,a0y (by rw [n_5,a1N];omega),n_5,a1N,hD,hj,b5J];rfl
   ·have:=b3r (d:=if k=4 then d else d+1) ch s D0 (d::D1) hD a ha;simpa [n_8] using this
theorem c1s {np:Nat}:∀ (l:List Tr) {d:Nat} (s:Nat) (E0 E1:List Ex) (D0 D1:List Nat),E0.length=s->D0.length=s->wfL np d l->∀ j,s<=j->j < s+w8 l->∃ x e,d6Y (E0++J2 l s++E1) (D0++a6z d l++D1) d j x e
 | [],_,s,_,_,_,_,_,_,_,j,h1,h2=>by rw [w8] at h2;omega
 | t::l,d,s,E0,E1,D0,D1,hE,hD,hw,j,h1,h2=>by
  rw [wfL] at hw;rw [w8] at h2;rw [J2,a6z];by_cases hj:j < s+t.size
  ·have:=d0H t s E0 (J2 l (s+t.size)++E1) D0 (a6z d l++D1) hE hD hw.1 j h1 hj;simpa [n_8] using this
  ·have:=c1s l (s+t.size) (E0++t.flat s) E1 (D0++t.deps d) D1 (by rw [n_5,t.flat_len,hE]) (by rw [n_5,t.deps_len,hD]) hw.2 j om_ om_;simpa [n_8] using this
end
theorem d1J {np d:Nat} {t:Tr} (hw:t.wf np d) {j:Nat} (h:j < t.size):∃ x e,d6Y (t.flat 0) (t.deps d) d j x e:=by
 have:=d0H t 0 [] [] [] [] rfl rfl hw j (n_3 _) om_;simpa using this
structure Bnd (arr:List Int) (D:List Nat):Prop where
 len:arr.length=D.length
 le:∀ (j e:Nat),D[j]? = some e->∃ v:Int,arr[j]? = some v/\0<=v/\v<=e
theorem Bnd.set {arr:List Int} {D:List Nat} (h:Bnd arr D) {r e:Nat} {v:Int} (hr:D[r]? = some e) (h0:0<=v) (h1:v<=e):Bnd (arr.set r v) D:=by
 refine ⟨by rw [List.length_set];exact h.len,fun j e' hj=>?_⟩;by_cases hjr:r=j
 ·subst hjr;rw [hr] at hj;injection hj with hj
  subst hj;have hl:=(n_1.1 hr).1;exact ⟨v,by rw [b3a (by rw [h.len];exact hl)],h0,h1⟩
 ·obtain ⟨u,g1,g2⟩:=h.le j e' hj;exact ⟨u,by rw [a2V hjr];exact g1,g2⟩
theorem Bnd.zero (D:List Nat):Bnd (List.replicate D.length 0) D:=by
 refine ⟨List.length_replicate,fun j e hj=>⟨0,?_,b3b _,om_⟩⟩;have hl:=(n_1.1 hj).1;rw [d1d,if_pos hl]
theorem Src.old (x:Src) (n:Nat):I8 n (.box x.cells):=o9 ⟨.val _,B3 _ _ _,R6 _ _ _,tt⟩
def b8R (d:De):Sn:=⟨d.k,d.name⟩
theorem d0t {l:List De} (h:(l.map fun d=>(d.k,d.name)).Nodup):(l.map b8R).Nodup:=by
 have e:l.map b8R=(l.map fun d=>(d.k,d.name)).map fun p=>(⟨p.1,p.2⟩:Sn):=by rw [List.map_map];rfl
 rw [e];refine List.Pairwise.map _ (fun a b hab he=>?_) h;injection he with h1 h2
 exact hab (Prod.ext h1 h2)
theorem c3O (x:Src) (h:a3z x) (σ:List b9):b8 CC 244 [.agg x.cells] σ fun r σ'=>r = .ret (.val (.bool false))/\σ'=σ:=by
 refine an_ Tryz.func244 ?_;refine a2M ?_;refine a4l ?_;refine cY a0K ?_;refine a6s ?_;refine cG c2L ?_;refine cG c29 ?_;refine cG c3D ?_;refine a7w ?_;refine cC ?_ ?_ <;> intro h1
 ·exfalso;have:=h.impl;have:=h.decl;simp at h1;omega
 ·have hil:=h.impl;have hdl:=h.decl;refine a0E ?_;refine a6I ?_;refine j5 hCC (α:=Nat) (fun i=>[(20,(.list (x.decls.map De.cv) (gnn x.decls.length) none)),(21,iv x.decls.length),(22,iv i)]) (fun _=>[.box x.cells]) (fun i=>i<=x.decls.length) (fun i=>x.decls.length - i) 0 (n_3 _) tu_ (extra0:=[]) rfl r5 uz_ ?_;intro i hi;refine C9 ?_;refine cC ?_ ?_ <;> intro h2
  ·have hlt:(i:Int) < x.decls.length:=sp_ h2;obtain ⟨d,hd⟩:=gx_ x.decls i;have hg:=h.dec d (n_0 hd);have hpl:=hg.parl;have hb256:=hg.blen;obtain ⟨t,hbody,hwf⟩:=hg.tree;have hbl:d.body.length=t.size:=by rw [hbody,t.flat_len]
   have hdp:(t.deps 1).length=d.body.length:=by rw [t.deps_len,hbl]
   have htp:=t.size_pos;refine W7 ?_;refine b2T ?_;refine b5O ?_;refine T5 ?_;refine a6p ?_;refine cY a0K ?_;refine a6s ?_;refine cG b7A ?_;refine b9B ?_;refine a7w ?_;refine cC ?_ ?_ <;> intro h3
   ·exfalso;simp at h3;omega
   ·refine a1d ?_;refine b07 ?_;refine cD (b9U rfl tt tt rfl rfl (n:=d.body.length) (c:=d.body.length) rfl rfl t_4 t_2 b95 t_6 rfl (a6a rfl) rfl om_ om_ (by have hb:Tryz.t3.bytes=8:=rfl;rw [hb];omega) ?_);refine z_1 ?_;refine K9 [.box x.cells,.box d.cells,.vec 1 ((List.replicate d.body.length 0).map icv)] (by simp [List.map_replicate];exact ⟨rfl,.inr rfl⟩) ?_;refine z_0 ?_;refine b07 ?_;refine a7z ?_;refine F5 ?_;refine j5 hCC (α:=Nat × List Int) (fun y=>[(4,.ptr 1 0),(5,.vec 2 0 d.body.length),(6,(iv ((y.1:Int) - 1))),(20,(.list (x.decls.map De.cv) (gnn x.decls.length) none)),(21,iv x.decls.length),(22,iv i)]) (fun y=>[.box x.cells,.box d.cells,.vec 1 (y.2.map icv)]) (fun y=>y.1<=d.body.length/\Bnd y.2 (t.deps 1)) (fun y=>y.1) (d.body.length,List.replicate d.body.length 0) ⟨n_4 _,by rw [<- hdp];exact Bnd.zero _⟩ tu_ (extra0:=[]) rfl r5 uz_ ?_;intro ⟨m,arr⟩ ⟨hm,hbd⟩;dsimp only at hm hbd ⊢;refine a2Q ?_;refine cC ?_ ?_ <;> intro h4
    ·have hmp:(0:Int)<=(m:Int) - 1:=sp_ h4;obtain ⟨m,rfl⟩:∃ m',m=m'+1:=⟨m - 1,om_⟩;have hmi:((m+1:Nat):Int) - 1=(m:Int):=by omega
     obtain ⟨y,e,hdp2⟩:=d1J hwf (j:=m) om_;obtain ⟨x',z',ch',hnd⟩:=b6a hwf (j:=m) om_;have hyx:x'=y:=Option.some.inj (hnd.e.symm.trans hdp2.he);have hargs:y.args.length<=256:=by
      rw [<- hyx,hnd.args,R0];have:=a3x ch';have:=hnd.size;omega
     have he1:=hdp2.lo;have he32:=hdp2.hi;obtain ⟨v,hv,hv0,hv1⟩:=hbd.le _ _ hdp2.hd;have hal:=hbd.len;refine a4O ?_;refine K8 hCC (α:=List Int) (fun a=>[(4,.ptr 1 0),(5,.vec 2 0 d.body.length),(6,(iv (((m+1:Nat):Int) - 1))),(20,(.list (x.decls.map De.cv) (gnn x.decls.length) none)),(21,iv x.decls.length),(22,iv i)]) (fun a=>[.box x.cells,.box d.cells,.vec 1 (a.map icv)]) (fun a=>Bnd a (t.deps 1)) r5 uz_ ?_ ?_
     ·
      refine z_5 ?_;refine cY a4j ?_;refine cY c6o ?_;refine O1 ?_;refine cC ?_ ?_ <;> intro h5
      ·refine X0 ?_;refine cY a4j ?_;refine cD (O7 ((arr.set m 1).map icv) rfl tt rfl rfl c4 t_2 (.inl rfl) rfl (by rw [hmi];simpa using j3 (f:=icv) hv) rfl (nb rfl) (by rw [hmi];simp only [n_9,a2p];exact a8o _ _ _) rfl ?_);refine c8 ?_;exact ⟨(arr.set m 1),_,(hbd.set hdp2.hd de_ om_),tu_,rfl⟩
      ·refine c9 ?_;exact ⟨arr,_,hbd,tu_,rfl⟩
     ·intro arr hbd;obtain ⟨v,hv,hv0,hv1⟩:=hbd.le _ _ hdp2.hd;have hal:=hbd.len;refine a1Q ?_;refine cY a4j ?_;refine cY c6o ?_;refine O1 ?_;refine cC ?_ ?_ <;> intro h6
      ·exfalso;simp at h6;omega
      ·refine a1d ?_;refine b3s ?_;refine cY j1 ?_;refine cY d9Z ?_;refine d5T ?_;refine cY a7Y ?_;refine Z0 ?_;refine j5 hCC (α:=Nat × List Int) (fun z=>[(4,.ptr 1 0),(5,.vec 2 0 d.body.length),(6,(iv (((m+1:Nat):Int) - 1))),(20,(.list (x.decls.map De.cv) (gnn x.decls.length) none)),(21,iv x.decls.length),(22,iv i),(66,(.list (y.args.map icv) (gnn y.args.length) none)),(67,iv y.args.length),(68,iv z.1)]) (fun z=>[.box x.cells,.box d.cells,.vec 1 (z.2.map icv)]) (fun z=>z.1<=y.args.length/\Bnd z.2 (t.deps 1)) (fun z=>y.args.length - z.1) (0,arr) ⟨n_3 _,hbd⟩ tu_ (extra0:=[]) rfl r5 uz_ ?_;intro ⟨p,arr⟩ ⟨hp,hbd⟩;dsimp only at hp hbd ⊢;refine C9 ?_;refine cC ?_ ?_ <;> intro h7
       ·have hpt:(p:Int) < y.args.length:=sp_ h7;obtain ⟨a,ha⟩:=gx_ y.args p;obtain ⟨r,rfl,hr⟩:=hdp2.ch a (n_0 ha);obtain ⟨v,hv,hv0,hv1⟩:=hbd.le _ _ hdp2.hd;have hal:=hbd.len;have hrl:=(n_1.1 hr).1;obtain ⟨v2,hv2,_⟩:=hbd.le _ _ hr;have hve:v<=((if y.k=4 then e else e+1:Nat):Int):=by split <;> omega
        have hb1:=hbd.set hr hv0 hve;have hget:(arr.set r v)[r]? = some v:=by rw [b3a om_]
        refine W7 ?_;refine cY (r8 rfl tt tt rfl rfl t_4 t_2 om_ (j3 ha) rfl) ?_;refine cY a1a ?_;refine z_1 ?_;refine a0M ?_;refine cY j1 ?_;refine cY a4j ?_;refine cY c6o ?_;refine cY a4j ?_;refine cD (O7 ((arr.set r v).map icv) rfl tt tt rfl c4 t_2 (.inl rfl) rfl (by simpa using j3 (f:=icv) hv2) rfl (nb rfl) (by simp only [n_9,a2p];exact a8o _ _ _) rfl ?_);refine S5 ?_;refine b3s ?_;refine cY j1 ?_;refine cY d9Z ?_;refine d5o ?_;refine O1 ?_;refine cC ?_ ?_ <;> intro h8
        ·have u8:¬ y.k=4:=sp_ h8;rw [if_neg u8] at hr;refine X0 ?_;refine cY a4j ?_;refine cY (M9 rfl tt rfl a2Y rfl (by simpa using j3 (f:=icv) hget) rfl) ?_;refine cY a0v ?_;refine cY a4j ?_;refine cD (O7 ((arr.set r (v+1)).map icv) rfl tt tt rfl c4 t_2 (.inl rfl) rfl (by simpa using j3 (f:=icv) hget) rfl (nb rfl) (by simp only [n_9,a2p];refine (a8o _ _ _).trans ?_;rw [List.set_set]) rfl ?_);refine a5e ?_;exact ⟨(p+1,arr.set r (v+1)),_,⟨do_,do_,hbd.set hr om_ om_⟩,tu_,rfl⟩
        ·refine a2l ?_;exact ⟨(p+1,arr.set r v),_,⟨do_,do_,hb1⟩,tu_,rfl⟩
       ·refine A4 ?_;refine z_4 ?_;refine a7z ?_;exact ⟨(m,arr),_,⟨do_,do_,hbd⟩,⟨m0,m0,⟨tt,(congrArg (fun z:Int=>(iv z)) do_)⟩,m0,m0,m0,tt⟩,rfl⟩
    ·exact c8K
  ·exact c18
theorem b9P (x:Src) (h:a3z x) (σ:List b9):b8 CC 243 [.agg x.cells] σ fun r σ'=>r = .ret (.val (.bool false))/\σ'=σ:=by
 refine an_ Tryz.func243 ?_;refine a3J ?_;refine a9y ?_;refine a6I ?_;refine B2 hCC 1 rfl (α:=Nat × List Sn) (fun y=>[(1,.ptr 0 0),(3,(.list (y.2.map Sn.cv) (gnn y.2.length) (G9 y.2.length 1))),(7,(.list (x.decls.map De.cv) (gnn x.decls.length) none)),(8,iv x.decls.length),(9,iv y.1)]) (fun y=>[.box x.cells,u0 y.2.length]) (fun y=>y.1<=x.decls.length/\y.2=(x.decls.take y.1).map b8R) (fun y=>x.decls.length - y.1) ⟨(0,[]),[0,9],⟨n_3 _,rfl⟩,⟨rfl,rfl⟩,ut_,uq_⟩ ?_;intro ⟨i,l⟩ ⟨hi,hl⟩;dsimp only at hi hl ⊢;have hdl:=h.decl;have hll:l.length=i:=by rw [hl,a2O,a7Z];omega
 refine C9 ?_;refine cC ?_ ?_ <;> intro h1
 ·have hlt:(i:Int) < x.decls.length:=sp_ h1;obtain ⟨d,hd⟩:=gx_ x.decls i;have hg:=h.dec d (n_0 hd);have hls:=U4 l (b8R d);refine W7 ?_;refine b2T ?_;refine b5O ?_;refine T5 ?_;refine a6p ?_;refine ye rfl Tryz.call282 ⟨tt,tt⟩ (a9R d.params _ (by have:=hg.parl;omega) hg.nod _) rfl ?_;refine c8 ?_;refine cC ?_ ?_ <;> intro h2
  ·cases h2
  ·refine a6G ?_;refine a4k ?_;refine a6M ?_;refine cY (A9 #[(0,1),(1,1)] rfl i7 Tryz.runUnderlying305 c3A rfl ⟨_,rfl⟩ (fun w=>by kernel_rfl) rfl rfl) ?_;refine cY (A2 [Sn.cv (b8R d)] rfl ⟨tt,tt⟩ b98 b5o c3A rfl rfl rfl rfl rfl rfl rfl rfl rfl) ?_;refine cD (C5 rfl tt tt rfl si_ q_2 b98 b5o Tryz.typeInfo305 c3A rfl (.inr rfl) q_8 (by have hb:Tryz.t305.bytes=24:=rfl;rw [hb];first|omega|(simp;done)|(simp;omega)) E7 ((l++[b8R d]).map Sn.cv) (l++[b8R d]).length si_ si_ ?_);refine a1j ?_;exact ⟨(i+1,l++[b8R d]),[0,3],⟨do_,do_,by rw [hl,a4F,hd,b5x];rfl⟩,⟨rfl,rfl⟩,ut_,uq_⟩
 ·have hin:i=x.decls.length:=sm_ h1;rw [hin,a7O] at hl;have hil:=h.impl;refine U9 ?_;refine a4l ?_;refine a7X ?_;refine ye rfl c7d i7 (a0d x.imports _ x.pkg om_ _) rfl ?_;refine cY j1 ?_;refine c9l ?_;refine cG (fun hg=>j8 rfl Tryz.call282 ⟨hg,tt⟩ (a9R x.imports _ om_ h.impn _) rfl) ?_;refine cY a1f ?_;refine a3q ?_;refine cG (fun hg=>j8 rfl Tryz.call283 ⟨hg,tt⟩ (c0i l _ om_ (by rw [hl];exact d0t h.decn) _) rfl) ?_;refine cY a1f ?_;refine z_7 ?_;exact ⟨_,j2 rfl tt c4,_,_,rfl,rfl,j7 (by simp [h.impp])⟩
theorem b1Z (x:Src) (h:a3z x) (σ:List b9):b8 CC 198 [.agg x.cells] σ fun r σ'=>r = .ret (iv (0))/\σ'=σ:=by
 refine an_ Tryz.func198 ?_;refine a3J ?_;refine a4A ?_;refine b3V ?_;refine yc rfl Tryz.call242 ⟨tt,tt⟩ (b7J x h _) ?_;refine cY a6L ?_;refine z_1 ?_;refine cC ?_ ?_ <;> intro h1
 ·cases h1
 ·refine b3V ?_;refine yc rfl Tryz.call243 ⟨tt,tt⟩ (b9P x h _) ?_;refine z_1 ?_;refine cC ?_ ?_ <;> intro h2
  ·cases h2
  ·refine b3V ?_;refine yc rfl Tryz.call244 ⟨tt,tt⟩ (c3O x h _) ?_;refine z_1 ?_;refine cC ?_ ?_ <;> intro h3
   ·cases h3
   ·refine a9F ?_;exact ⟨_,j2 rfl tt c4,_,_,rfl,rfl,G4 rfl⟩
theorem b8n (s:Str) (a:Nat) (ks:List Int):sub s a (A0 s a ks)=(s.drop a).takeWhile (inK ks):=by
 unfold sub A0;rw [List.drop_take,Nat.add_sub_cancel_left];have h:=List.takeWhile_prefix (inK ks) (l:=s.drop a);exact (List.prefix_iff_eq_take.1 h).symm
theorem c5j {a:Nat} {b:UInt8} (hb:s[a]? = some b) (hk:k8 b.toNat=1) (hl:¬ 24 < A0 s a [1,2,3] - a):C8 (sub s a (A0 s a [1,2,3]))=true:=by
 have hlen:(sub s a (A0 s a [1,2,3])).length=A0 s a [1,2,3] - a:=by
  rw [b8n];unfold A0;omega
 rw [b8n] at hlen ⊢;obtain ⟨hlt,rfl⟩:=n_1.1 hb;have hall:((s.drop a).takeWhile (inK [1,2,3])).all (inK [1,2,3])=true:=a0z.2 fun c hc=>a17 hc;rw [Q4 hlt,b8g,if_pos (by simp [inK,hk])] at hlen hall ⊢;unfold C8;simp only [a0i,a2t];exact ⟨⟨om_,hk⟩,hall⟩
theorem d2y {a:Nat} {b:UInt8} (hb:s[a]? = some b):((D7 s a b).1.k=1->C8 (D7 s a b).1.t=true)/\(D7 s a b).1.n<=9007199254740992:=by
 have z:((⟨0,[],0,0⟩:Tok).k=1->C8 (⟨0,[],0,0⟩:Tok).t=true)/\(⟨0,[],0,0⟩:Tok).n<=9007199254740992:=⟨fun h=>absurd h de_,de_⟩;unfold D7
 split
 ·rename_i hk
  split
  ·exact z
  ·rename_i hl;exact ⟨fun _=>c5j hb hk hl,show (0:Int)<=9007199254740992 by decide⟩
 ·split
  ·split
   ·exact z
   ·rename_i hl;exact ⟨fun h=>absurd h (show ¬ (2:Int)=1 by decide),show a4E _<=9007199254740992 by omega⟩
  ·split
   ·split
    ·exact z
    ·exact ⟨fun h=>absurd h (show ¬ (3:Int)=1 by decide),show (0:Int)<=9007199254740992 by decide⟩
   ·split
    ·split
     ·exact ⟨fun h=>absurd h (show ¬ (4:Int)=1 by decide),show (0:Int)<=9007199254740992 by decide⟩
     ·exact ⟨fun h=>absurd h (show ¬ (4:Int)=1 by decide),show (0:Int)<=9007199254740992 by decide⟩
    ·exact z
theorem b45 (s:Str):∀ (f i:Nat) (T:List Tok),a0C f s i=some T->∀ t∈T,(t.k=1->C8 t.t=true)/\t.n<=9007199254740992
 | 0,i,T,h=>by cases h
 | f+1,i,T,h=>by
  rw [a0C] at h;cases hb:s[A0 s i [5]]? with
  | none =>
   rw [hb] at h;injection h with h
   subst h;intro t ht;simp at ht;subst ht;exact ⟨fun h=>absurd h (show ¬ (5:Int)=1 by decide),show (0:Int)<=9007199254740992 by decide⟩
  | some b =>
   rw [hb] at h;simp only at h;split at h
   ·exact b45 s f _ T h
   ·split at h
    ·cases h
    ·cases hq:a0C f s (D7 s (A0 s i [5]) b).2.1.toNat with
     | none=>rw [hq] at h;cases h
     | some T' =>
      rw [hq] at h;simp only [b3w,Option.some.injEq] at h;subst h;intro t ht
      rcases R5.1 ht with rfl | ht
      ·exact d2y hb
      ·exact b45 s f _ T' hq t ht
theorem d1t {T:List Tok} (h:a3B s=some T):TG T:=fun i=>by
 have hc:=(b0U h).1.nn i;unfold a3B at h;split at h
 ·cases h
 ·rcases b9S (T:=T) i with h1 | h1
  ·have:=b45 s _ _ T h _ h1;exact ⟨this.1,hc.1,this.2⟩
  ·rw [h1];exact ⟨fun h=>absurd h de_,de_,de_⟩
theorem b4Q {x:Ex} {w:Nat × List Ex} (h:V9 b x=some w) (hb:b.length<=256):w.2.length<=256:=by
 unfold V9 at h;split at h
 ·cases h
 ·injection h with h
  subst h;simp only [n_5,b3I];omega
theorem X2 {x:Ex} {m:Nat} {y:PX} (h:K4 b x m=some y) (hb:b.length<=256):y.2.2.length<=256:=b4Q (w:=(y.1,y.2.2)) (a27 h).1 hb
theorem c3S {T:List Tok} {F:PF} (hF:∀ d n b x,b.length<=256->F.ex d n b=some x->x.2.2.length<=256) {u:Str} {d:Nat} {y:PX} (hb:b.length<=256) (h:W6 T F u d n b=some y):y.2.2.length<=256:=by
 unfold W6 at h;obtain ⟨n1,_,h⟩:=c6 h;split at h
 ·obtain ⟨s,h1,h⟩:=c6 h;obtain ⟨n2,_,h⟩:=c6 h;obtain ⟨x,h3,h⟩:=c6 h;obtain ⟨m,_,h⟩:=c6 h;exact X2 h (hF _ _ _ _ hb h3)
 ·split at h
  ·obtain ⟨s,h1,h⟩:=c6 h;obtain ⟨m,_,h⟩:=c6 h;exact X2 h hb
  ·split at h
   ·obtain ⟨s,h1,h⟩:=c6 h;obtain ⟨m,_,h⟩:=c6 h;exact X2 h hb
   ·split at h
    ·obtain ⟨s,h1,h⟩:=c6 h;split at h
     ·obtain ⟨m,_,h⟩:=c6 h;exact X2 h hb
     ·cases h
    ·obtain ⟨s,h1,h⟩:=c6 h;split at h
     ·cases h
     ·obtain ⟨m,_,h⟩:=c6 h;exact X2 h hb
theorem c2U {T:List Tok} {ps:List Str}:∀ f:Nat,
 (∀ d n b x,b.length<=256->(z8 T ps f).ex d n b=some x->x.2.2.length<=256) /\
 (∀ lv d n b x,b.length<=256->(z8 T ps f).bin lv d n b=some x->x.2.2.length<=256) /\
 (∀ d n b x,b.length<=256->(z8 T ps f).fac d n b=some x->x.2.2.length<=256) /\
 (∀ lv d i n b x,b.length<=256->(z8 T ps f).lp lv d i n b=some x->x.2.2.length<=256) /\
 (∀ d n b acc y,b.length<=256->(z8 T ps f).ag d n b acc=some y->y.2.2.length<=256)
 | 0=>by
  refine ⟨fun d n b x _ h=>?_,fun lv d n b x _ h=>?_,fun d n b x _ h=>?_,fun lv d i n b x _ h=>?_,fun d n b acc y _ h=>?_⟩ <;> cases h
 | f+1=>by
  obtain ⟨hE,hB,hF,hL,hA⟩:=c2U (T:=T) (ps:=ps) f;refine ⟨fun d n b x hb h=>?_,fun lv d n b x hb h=>?_,fun d n b y hb h=>?_,fun lv d i n b x hb h=>?_,fun d n b acc y hb h=>?_⟩
  ·change (G0 T ps (z8 T ps f)).ex d n b=some x at h;simp only [G0] at h;split at h
   ·cases h
   ·split at h
    ·obtain ⟨x1,h1,h⟩:=c6 h;obtain ⟨n2,_,h⟩:=c6 h;obtain ⟨x2,h2,h⟩:=c6 h;obtain ⟨n3,_,h⟩:=c6 h;obtain ⟨x3,h3,h⟩:=c6 h;exact X2 h (hE _ _ _ _ (hE _ _ _ _ (hE _ _ _ _ hb h1) h2) h3)
    ·exact hB _ _ _ _ _ hb h
  ·change (G0 T ps (z8 T ps f)).bin lv d n b=some x at h;simp only [G0] at h;split at h
   ·exact hF _ _ _ _ hb h
   ·obtain ⟨x1,h1,h⟩:=c6 h;exact hL _ _ _ _ _ _ (hB _ _ _ _ _ hb h1) h
  ·change (G0 T ps (z8 T ps f)).fac d n b=some y at h;simp only [G0] at h;split at h
   ·exact X2 h hb
   ·split at h
    ·obtain ⟨s,h1,h⟩:=c6 h;exact X2 h hb
    ·split at h
     ·obtain ⟨x1,h1,h⟩:=c6 h;obtain ⟨m,_,h⟩:=c6 h;injection h with h
      subst h;exact hE _ _ _ x1 hb h1
     ·split at h
      ·cases h
      ·split at h
       ·exact c3S hE hb h
       ·split at h
        ·cases h
        ·split at h
         ·obtain ⟨a,h1,h⟩:=c6 h;unfold a2B at h1;obtain ⟨n1,_,h1⟩:=c6 h1;refine X2 h ?_;split at h1
          ·injection h1 with h1
           subst h1;exact hb
          ·exact hA _ _ _ _ _ hb h1
         ·split at h
          ·cases h
          ·exact X2 h hb
  ·change (G0 T ps (z8 T ps f)).lp lv d i n b=some x at h;simp only [G0] at h;split at h
   ·injection h with h
    subst h;exact hb
   ·obtain ⟨y,h1,h⟩:=c6 h;obtain ⟨w,h2,h⟩:=c6 h;have hw:=b4Q h2 (hB _ _ _ _ _ hb h1);split at h
    ·injection h with h
     subst h;exact hw
    ·exact hL _ _ _ _ _ _ hw h
  ·change (G0 T ps (z8 T ps f)).ag d n b acc=some y at h;simp only [G0] at h;obtain ⟨x1,h1,h⟩:=c6 h;have hx:=hE _ _ _ _ hb h1;split at h
   ·exact hA _ _ _ _ _ hx h
   ·obtain ⟨m,_,h⟩:=c6 h;injection h with h
    subst h;exact hx
theorem a7D {T:List Tok} (hT:TG T) {x:Tok × Nat} (h:J1 T n=some x):C8 x.1.t=true/\P5 x.1.t=false:=by
 obtain ⟨y,h1,h2⟩:=c6 h;obtain ⟨e1,e2⟩:=a7c h1;split at h2
 ·cases h2
 ·rename_i hr;injection h2 with h2
  subst h2;refine ⟨?_,sp_ hr⟩;rw [e1];exact (hT n).1 e2
structure a9n (l:List Str):Prop where
 ok:∀ s∈l,C8 s=true/\P5 s=false
 len:l.length<=8
 nod:l.Nodup
theorem a3Y {α:Type} {l:List α} {x:α} (h:l.Nodup) (hx:x∉l):(l++[x]).Nodup:=by
 rw [List.nodup_append];exact ⟨h,si_,fun a ha b hb=>by simp at hb;subst hb;exact fun e=>hx (e ▸ ha)⟩
theorem a9n.snoc {l:List Str} {x:Str} (h:a9n l) (hx:C8 x=true/\P5 x=false) (h8:¬ l.length=8) (hn:¬ x∈l):a9n (l++[x]):=⟨fun s hs=>by
 rcases X1.1 hs with hs | hs
 ·exact h.ok s hs
 ·simp at hs;subst hs;exact hx,by have:=h.len;rw [n_5,b3I];omega,a3Y h.nod hn⟩
theorem b9u {T:List Tok} (hT:TG T):∀ (f n:Nat) (l:List Str) (y:List Str × Nat),a9n l->a2F f T n l=some y->a9n y.1
 | 0,n,l,y,_,h=>by cases h
 | f+1,n,l,y,hl,h=>by
  rw [a2F] at h;obtain ⟨x,h1,h⟩:=c6 h;have hx:=a7D hT h1;split at h
  ·cases h
  ·rename_i h8;split at h
   ·cases h
   ·rename_i hn;have hs:=hl.snoc hx h8 hn;split at h
    ·exact b9u hT f _ _ y hs h
    ·obtain ⟨m,_,h⟩:=c6 h;injection h with h
     subst h;exact hs
theorem a5Z:a9n []:=⟨fun s h=>(by cases h),n_3 _,List.nodup_nil⟩
theorem c7E {T:List Tok} (hT:TG T) {kd:Int} {y:List Str × Nat} (h:a3c T kd n=some y):a9n y.1/\(kd≠1->y.1=[]):=by
 unfold a3c at h;split at h
 ·rename_i hk;unfold K6 at h;obtain ⟨m,_,h⟩:=c6 h;refine ⟨?_,fun h=>absurd hk h⟩;split at h
  ·injection h with h
   subst h;exact a5Z
  ·exact b9u hT _ _ _ y a5Z h
 ·injection h with h
  subst h;exact ⟨a5Z,fun _=>rfl⟩
theorem c5e (s:Str):F7 s=0\/F7 s=1\/F7 s=2\/F7 s=3:=by
 unfold F7 dkL;rw [N7,N7,N7]
 split
 ·exact .inr (.inr (.inr rfl))
 ·split
  ·exact .inr (.inr (.inl rfl))
  ·split
   ·exact .inr (.inl rfl)
   ·exact .inl rfl
theorem c7e {T:List Tok} (hT:TG T) {bs:List De} {y:De × Nat} (h:a0I T bs n=some y):DeG y.1/\(bs.any fun d=>(d.k == y.1.k) && decide (d.name=y.1.name))=false:=by
 unfold a0I at h;split at h
 ·cases h
 ·rename_i h0;split at h
  ·cases h
  ·obtain ⟨x,h1,h⟩:=c6 h;split at h
   ·cases h
   ·rename_i hany;obtain ⟨q,h2,h⟩:=c6 h;obtain ⟨m,_,h⟩:=c6 h;obtain ⟨e,h3,h⟩:=c6 h;obtain ⟨m2,_,h⟩:=c6 h;injection h with h
    subst h;obtain ⟨p1,p2⟩:=c7E hT h2;obtain ⟨t,t1,_,t3⟩:=(c3e hT (8*T.length+6)).1 _ _ _ _ h3;have hlen:=(c2U (8*T.length+6)).1 _ _ _ _ (n_3 _) h3;refine ⟨⟨?_,fun hk=>?_,fun hk=>?_,p2,p1.ok,p1.len,p1.nod,⟨t,by rw [t1];rfl,t3⟩,hlen⟩,sp_ hany⟩
    ·have:=c5e (tk T n).t
     rcases this with g | g | g | g
     ·exact absurd (.inr g) h0
     ·exact .inl g
     ·exact .inr (.inl g)
     ·exact .inr (.inr g)
    ·unfold a23 at h1;rw [if_neg hk] at h1;exact a7D hT h1
    ·unfold a23 at h1;rw [if_pos hk] at h1;exact a8m h1
structure c9o (l:List De):Prop where
 ok:∀ d∈l,DeG d
 nod:(l.map fun d=>(d.k,d.name)).Nodup
theorem b4w {T:List Tok} (hT:TG T):∀ (f n:Nat) (l:List De) (y:List De × Nat),c9o l->R4 f T n l=some y->c9o y.1
 | 0,n,l,y,_,h=>by cases h
 | f+1,n,l,y,hl,h=>by
  rw [R4] at h;split at h
  ·injection h with h
   subst h;exact hl
  ·obtain ⟨x,h1,h⟩:=c6 h;obtain ⟨g1,g2⟩:=c7e hT h1;refine b4w hT f _ _ y ⟨fun d hd=>?_,?_⟩ h
   ·rcases X1.1 hd with hd | hd
    ·exact hl.ok d hd
    ·simp at hd;subst hd;exact g1
   ·rw [b5x];refine a3Y hl.nod fun hm=>?_;obtain ⟨d,hd,he⟩:=K5.1 hm;injection he with e1 e2
    have:=List.any_eq_false.1 g2 d hd;simp [e1,e2] at this
structure d9i (pkg:Str) (l:List Str):Prop where
 g:a9n l
 p:pkg∉l
theorem b7v {T:List Tok} (hT:TG T) {pkg:Str}:∀ (f n:Nat) (l:List Str) (y:List Str × Nat),d9i pkg l->a1s f T pkg n l=some y->d9i pkg y.1
 | 0,n,l,y,_,h=>by cases h
 | f+1,n,l,y,hl,h=>by
  rw [a1s] at h;split at h
  ·split at h
   ·cases h
   ·rename_i h8;obtain ⟨x,h1,h⟩:=c6 h;split at h
    ·cases h
    ·rename_i hno;obtain ⟨m,_,h⟩:=c6 h;refine b7v hT f _ _ y ⟨hl.g.snoc (a7D hT h1) h8 fun hm=>hno (.inr hm),fun hm=>?_⟩ h
     rcases X1.1 hm with hm | hm
     ·exact hl.p hm
     ·simp at hm;exact hno (.inl hm.symm)
  ·injection h with h
   subst h;exact hl
theorem c9W {T:List Tok} (hT:TG T) {x:Src} (h:a1c T=some x):a3z x:=by
 have hlen:=b3E h;unfold a1c at h;obtain ⟨n1,_,h⟩:=c6 h;obtain ⟨w,h1,h⟩:=c6 h;obtain ⟨n2,_,h⟩:=c6 h;obtain ⟨y,h2,h⟩:=c6 h;obtain ⟨z,h3,h⟩:=c6 h;injection h with h
 subst h;have hi:=b7v hT _ _ _ _ ⟨a5Z,fun h=>(by cases h)⟩ h2;have hd:=b4w hT _ _ _ _ (⟨fun d h=>(by cases h),List.nodup_nil⟩:c9o []) h3;exact ⟨a7D hT h1,hi.g.ok,hi.g.len,hi.g.nod,hi.p,hd.ok,hlen,hd.nod⟩
theorem b3B {x:Src} (h:P4 s=some x):a3z x:=by
 unfold P4 at h;obtain ⟨T,h1,h2⟩:=c6 h;exact c9W (d1t h1) h2
abbrev tU8:Nat:=5
def a5g (T:TypeId) (n:Nat):Prop:=liesAt CC.P CC.P.depth T (n / CC.P.cellsOf T) 0 244 1=true
def d4j (q:Nat):Bool->CV
 | true=>.ptr q 0
 | false=>.val (.pointer none)
def E9 (T:TypeId) (q s:Nat) (a:Bool) (l:Str) (rest:List CV):b9:=.boxT (some T) (d4j q a::a09 l s::rest)
def bSt (T:TypeId) (a:Bool) (l:Str) (rest:List CV):List b9:=[E9 T 0 1 a l rest,A1 tU8 l.length]
def a9f (T:TypeId) (l:Str) (rest:List CV):List b9:=[E9 T 0 2 true l rest,.dead,A1 tU8 l.length]
theorem c7h (hT:a5g T (rest.length+2)) (l:Str):b8 CC 246 [.ptr 0 0] (bSt T false l rest) fun r τ=>r = .ret (.tup [])/\τ=bSt T true l rest:=by
 refine cO c8l ?_;refine a4P ?_;refine b8l ?_;refine cY (c48 rfl tt rfl c8m) ?_;refine c8 ?_;refine cC ?_ ?_ <;> intro h1
 ·refine X0 ?_;refine cY (c0Y rfl tt rfl rfl (Nat.succ_pos _) 244 C6 C6 C6) ?_;refine cY (d7s (e:=Extern.AbiNoEscape.same) rfl Tryz.func285 rfl rfl rfl rfl tt rfl (fun v w=>rfl)) ?_;refine cY (b46 rfl tt rfl rfl 244 C6 C6 C6 hT) ?_;refine cY K2 ?_;refine cY d5E ?_;refine cD (j6 rfl tt tt rfl c4 Tryz.sizeOf242 (.inl rfl) rfl rfl (nb rfl) ?_);refine c8 ?_;exact ⟨_,j9 (rs:=[]) (cs:=[]) rfl tt (n_2 rfl),⟨rfl,rfl⟩⟩
 ·cases h1
theorem d0Q (l:Str):b8 CC 246 [.ptr 0 0] (bSt T true l rest) fun r τ=>r = .ret (.tup [])/\τ=bSt T true l rest:=by
 refine cO c8l ?_;refine a4P ?_;refine b8l ?_;refine cY (b8r rfl tt rfl c8m) ?_;refine c8 ?_;refine cC ?_ ?_ <;> intro h1
 ·cases h1
 ·refine a4P ?_;refine b8l ?_;refine cY j1 ?_;refine cY (b4D rfl tt tt rfl rfl 244 C6 C6) ?_;refine c8 ?_;refine cC ?_ ?_ <;> intro h2
  ·cases h2
  ·refine c9 ?_;exact ⟨_,j9 (rs:=[]) (cs:=[]) rfl tt (n_2 rfl),⟨rfl,rfl⟩⟩
theorem b5D (hT:a5g T (rest.length+2)) (a:Bool) (l:Str):b8 CC 246 [.ptr 0 0] (bSt T a l rest) fun r τ=>∃ _:Unit,r = .ret (.tup [])/\τ=bSt T true l rest/\True:=by
 cases a
 ·exact (c7h hT l).mono fun r τ h=>⟨(),h.1,h.2,tt⟩
 ·exact (d0Q l).mono fun r τ h=>⟨(),h.1,h.2,tt⟩
theorem b3c (hT:a5g T (rest.length+2)) (a:Bool) (l:Str) (c:UInt8) (hl:l.length < 140737488355328):b8 CC 306 [.ptr 0 0,.val (.int .u8 c.toNat)] (bSt T a l rest) fun r τ=>∃ _:Unit,r = .ret (.val .nilIface)/\τ=a9f T (l++[c]) rest/\True:=by
 refine cO Tryz.func306 ?_;refine U5 ?_;refine dc rfl c2c ⟨tt,tt⟩ (b5D hT a l) ?_;intro _ _;refine b2a ?_;refine cY K2 ?_;refine cY a8B ?_;refine cY a90 ?_;refine cY j1 ?_;refine cY d9W ?_;refine cD (a38 (l:=l) (new:=[c]) (p:=1) rfl tt tt rfl (fun M w v hr h=>(a5m (rows:=[bcv c]) rfl (by intro r hr;simp at hr;subst hr;rfl) M w v hr h).any) t_7 t_9 b1V a4N rfl (.inl t_7) rfl rfl a9u ?_);refine cY K2 ?_;refine c17 ?_;refine c8 ?_;refine I0 ?_;exact ⟨_,j2 rfl tt c4,⟨(),rfl,rfl,tt⟩⟩
theorem b0d (hT:a5g T (rest.length+2)) (a:Bool) (l:Str) (s:Str) (hl:l.length+s.length<=140737488355328):b8 CC 200 [.ptr 0 0,sv s] (bSt T a l rest) fun r τ=>∃ _:Unit,r = .ret (.tup [iv s.length,.val .nilIface])/\τ=a9f T (l++s) rest/\True:=by
 refine cO Tryz.func200 ?_;refine z_0 ?_;refine a4W ?_;refine z_2 ?_;refine dc rfl c2c ⟨tt,tt⟩ (b5D hT a l) ?_;intro _ _;refine b2a ?_;refine cY K2 ?_;refine cY a8B ?_;refine cY a90 ?_;refine cY j1 ?_;refine cD (a38 (l:=l) (new:=s) (p:=1) rfl tt tt rfl (b5m rfl) t_7 t_9 b1V a4N rfl (.inr t_5) rfl rfl a9u ?_);refine cY K2 ?_;refine c17 ?_;refine L7 ?_;refine cY X5 ?_;exact d4k
theorem c0b (a:Bool) (c:UInt8) (l:Str):b8 CC 202 [.ptr 0 0] (bSt T a (c::l) rest) fun r τ=>r = .ret (sv (c::l))/\τ=[E9 T 0 1 a (c::l) rest,.dead]:=by
 refine cO Tryz.func202 ?_;refine b41 ?_;refine b4Z ?_;refine b3D ?_;refine hY (b8D rfl tt rfl si_) ?_;refine a5d ?_;refine b3D ?_;refine hY a9r ?_;refine P8 ?_;refine cD ((b1t (q:=1) (k:=0) (i:=1) (l:=c::l)) rfl tt tt rfl rfl rfl rfl rfl si_ C6 C6 ?_);refine z_7 ?_;exact ⟨_,j2 rfl tt c4,⟨rfl,rfl⟩⟩
theorem b9Q (a:Bool):b8 CC 202 [.ptr 0 0] (bSt T a [] rest) fun r τ=>r = .ret (sv [])/\τ=[E9 T 0 1 a [] rest,.dead]:=by
 refine cO Tryz.func202 ?_;refine b41 ?_;refine b4Z ?_;refine b3D ?_;refine hY (b5E rfl tt rfl) ?_;refine a5d ?_;refine b3D ?_;refine hY a9r ?_;refine P8 ?_;refine cD (b0m rfl tt tt rfl rfl ?_);refine z_7 ?_;exact ⟨_,j2 rfl tt c4,⟨rfl,rfl⟩⟩
def BAt (σ:List b9) (q s:Nat) (T:TypeId) (a:Bool) (l:Str) (rest:List CV):Prop:=σ[q]? = some (E9 T q s a l rest)/\σ[s]? = some (A1 tU8 l.length)/\q≠s
theorem a1H (l:Str):∀ r∈l.map bcv,∀ c∈r,r9 c:=fun r hr c hc=>by
 obtain ⟨b,_,rfl⟩:=K5.1 hr;simp [bcv] at hc;subst hc;exact .val _
theorem b0L {s s':Nat} (h:R s s'):Q5 R (a09 l s) (a09 l s'):=by
 refine .list rfl (fun i r r' h1 h2=>by rw [h1] at h2;injection h2 with h2;rw [h2]) (fun i j r r' c c' h1 h2 h3 h4=>?_) ?_
 ·rw [h1] at h2;injection h2 with h2;subst h2;rw [h3] at h4;injection h4 with h4;subst h4
  exact .pure (a1H l r (n_0 h1) c (n_0 h3))
 ·cases hb:l.length with
  | zero=>exact .inl ⟨rfl,rfl⟩
  | succ m=>exact .inr ⟨s,s',rfl,rfl,h⟩
theorem a7A {q' s s':Nat} (hq:R q q') (h:R s s') (hr:∀ c∈rest,r9 c):J4 R (E9 T q s a l rest) (E9 T q' s' a l rest):=by
 refine .box (.cons ?_ (.cons (b0L h) (N0 hr)));cases a
 ·exact .pure (.val _)
 ·exact .ptr hq
theorem a3H (t:TypeId) (m:Nat):J4 R (A1 t m) (A1 t m):=by
 cases m with
 | zero=>exact .dead
 | succ m=>exact .tip _
theorem c0o {α:Type} {f:FuncId} {args:List CV} {c:α->CV} {l':α->Str} {rest':α->List CV} {P:α->Prop} (hargs:∀ a∈args,r9 a) (hc:∀ x,P x->r9 (c x)) (hr:∀ c∈rest,r9 c) (hr':∀ x,P x->∀ c∈rest' x,r9 c)
 (h:b8 CC f (.ptr 0 0::args) (bSt T a l rest) fun r τ=>∃ x,r = .ret (c x)/\τ=a9f T (l' x) (rest' x)/\P x) {σ:List b9} {q s:Nat} (hσ:BAt σ q s T a l rest) :
 b8 CC f (.ptr q 0::args) σ fun r τ=>∃ x,r = .ret (c x)/\τ=(σ.set q (E9 T q σ.length true (l' x) (rest' x))).set s .dead++[A1 tU8 (l' x).length]/\P x:=by
 obtain ⟨h1,h2,h3⟩:=hσ;have hq:=(n_1.1 h1).1;have hs:=(n_1.1 h2).1;refine J5 [q,s] hCC rfl (fun i j k g1 g2=>?_) (fun i k ob g1 g2=>?_) (.cons (.ptr rfl) (N0 hargs)) h fun r τ hk=>?_
 ·rcases i with _ | _ | i <;> rcases j with _ | _ | j <;> simp at g1 g2 <;> first|rfl|(exfalso;exact h3 (g1.trans g2.symm))|(exfalso;exact h3 (g2.trans g1.symm))
 ·rcases i with _ | _ | i
  ·simp [bSt] at g1 g2;subst g1 g2;exact ⟨_,h1,a7A rfl rfl hr⟩
  ·simp [bSt] at g1 g2;subst g1 g2;exact ⟨_,h2,a3H _ _⟩
  ·simp at g1
 ·obtain ⟨x,rfl,rfl,hp⟩:=hk;refine ⟨by simp [bSt,a9f],.ret (c x),(σ.set q (E9 T q σ.length true (l' x) (rest' x))).set s .dead++[A1 tU8 (l' x).length],(.ret (.pure (hc x hp))),by simp [bSt,a9f],fun k hk hks=>?_,fun i k y ha hx=>?_,x,rfl,rfl,hp⟩
  ·have n1:q≠k:=fun e=>hks a28;have n2:s≠k:=fun e=>hks a28;rw [M5 (sp_ hk)];simp [n1,n2]
  ·rcases ha with ha | ⟨ha,rfl⟩
   ·rcases i with _ | _ | i
    ·simp [a9f] at ha hx;subst ha hx;refine ⟨E9 T q σ.length true (l' x) (rest' x),?_,a7A (.inl rfl) (.inr ⟨si_,si_⟩) (hr' x hp)⟩;rw [M5 (sp_ hq),a2V h3.symm];simp [hq]
    ·simp [a9f] at ha hx;subst ha hx;refine ⟨.dead,?_,.dead⟩;rw [M5 (sp_ hs)];simp [hs]
    ·simp at ha
   ·rcases i with _ | _ | _ | i
    ·simp at ha
    ·simp at ha
    ·simp [a9f] at hx;subst hx;refine ⟨A1 tU8 (l' x).length,?_,a3H _ _⟩;rw [a0y si_];simp
    ·simp [a9f] at hx
theorem a1D (hT:a5g T (rest.length+2)) (a:Bool) (l:Str) (hr:∀ c∈rest,r9 c) (c:UInt8) (hl:l.length < 140737488355328) {s:Nat} (hσ:BAt σ q s T a l rest) :
 b8 CC 306 [.ptr q 0,.val (.int .u8 c.toNat)] σ fun r τ=>∃ _:Unit,r = .ret (.val .nilIface)/\τ=(σ.set q (E9 T q σ.length true (l++[c]) rest)).set s .dead++[A1 tU8 (l++[c]).length]/\True :=
 c0o (c:=fun _=>.val .nilIface) (l':=fun _=>l++[c]) (rest':=fun _=>rest) (fun a h=>by simp at h;subst h;exact .val _) (fun _ _=>.val _) hr (fun _ _=>hr) (b3c hT a l c hl) hσ
theorem w9 (hT:a5g T (rest.length+2)) (a:Bool) (l:Str) (hr:∀ c∈rest,r9 c) (s:Str) (hl:l.length+s.length<=140737488355328) (hσ:BAt σ q k T a l rest) :
 b8 CC 200 [.ptr q 0,sv s] σ fun r τ=>∃ _:Unit,r = .ret (.tup [iv s.length,.val .nilIface])/\τ=(σ.set q (E9 T q σ.length true (l++s) rest)).set k .dead++[A1 tU8 (l++s).length]/\True :=
 c0o (c:=fun _=>.tup [iv s.length,.val .nilIface]) (l':=fun _=>l++s) (rest':=fun _=>rest) (fun a h=>by simp at h;subst h;exact .val _) (fun _ _=>B9 ⟨.val _,.val _,tt⟩) hr (fun _ _=>hr) (b0d hT a l s hl) hσ
theorem c0U (a:Bool) (l:Str):b8 CC 202 [.ptr 0 0] (bSt T a l rest) fun r τ=>∃ _:Unit,r = .ret (sv l)/\τ=[E9 T 0 1 a l rest,.dead]/\True:=by
 cases l with
 | nil=>exact (b9Q a).mono fun r τ h=>⟨(),h.1,h.2,tt⟩
 | cons c l=>exact (c0b a c l).mono fun r τ h=>⟨(),h.1,h.2,tt⟩
theorem a3h (hr:∀ c∈rest,r9 c) (a:Bool) (l:Str) (hσ:BAt σ q k T a l rest):b8 CC 202 [.ptr q 0] σ fun r τ=>∃ _:Unit,r = .ret (sv l)/\τ=σ.set k .dead/\True:=by
 obtain ⟨h1,h2,h3⟩:=hσ;have hq:=(n_1.1 h1).1;have hs:=(n_1.1 h2).1;refine J5 [q,k] hCC rfl (fun i j k g1 g2=>?_) (fun i k ob g1 g2=>?_) (.cons (.ptr rfl) .nil) (c0U (T:=T) (rest:=rest) a l) fun r τ hk=>?_
 ·rcases i with _ | _ | i <;> rcases j with _ | _ | j <;> simp at g1 g2 <;> first|rfl|(exfalso;exact h3 (g1.trans g2.symm))|(exfalso;exact h3 (g2.trans g1.symm))
 ·rcases i with _ | _ | i
  ·simp [bSt] at g1 g2;subst g1 g2;exact ⟨_,h1,a7A rfl rfl hr⟩
  ·simp [bSt] at g1 g2;subst g1 g2;exact ⟨_,h2,a3H _ _⟩
  ·simp at g1
 ·obtain ⟨x,rfl,rfl,hp⟩:=hk;refine ⟨by simp [bSt],.ret (sv l),σ.set k .dead,.ret (.pure (.val _)),by simp [bSt],fun j hj hjs=>?_,fun i j y ha hx=>?_,x,rfl,rfl,hp⟩
  ·have n2:k≠j:=fun e=>hjs a28;simp [n2]
  ·rcases ha with ha | ⟨ha,rfl⟩
   ·rcases i with _ | _ | i
    ·simp at ha hx;subst ha hx;exact ⟨_,by rw [a2V h3.symm];exact h1,a7A (.inl rfl) (.inl rfl) hr⟩
    ·simp at ha hx;subst ha hx;exact ⟨.dead,by simp [hs],.dead⟩
    ·simp at ha
   ·rcases i with _ | _ | i <;> simp at ha hx
theorem b3H {τ:List b9} {c:CV} (h0:τ[0]? = some (E9 T 0 k true l rest)) (hk:τ[k]? = some (A1 tU8 l.length)) (h2:2<=k) (hr:∀ c∈rest,r9 c) (hc:Old 2 c):F1 2 τ (.ret c) (.ret c) (a9f T l rest):=by
 have k1:a6A 2 [0,1,k]=true:=rfl;have k2:Y7 [0,1,k]=true:=by
  have e0:(k == 0)=false:=by simp;omega
  have e1:(k == 1)=false:=by simp;omega
  have e2:(0 == k)=false:=by simp;omega
  have e3:(1 == k)=false:=by simp;omega
  simp [Y7];omega
 refine ⟨[0,1,k],k1,k2,.ret (.old hc),.inr ⟨_,h0,.box ⟨.old (.ptr de_),.list (fun r hr c hc=>(a1H l r hr c hc).old) ?_,?_⟩⟩,.inl rfl,.inr ⟨_,hk,.same rfl (b3o _ _ _)⟩,tt⟩
 ·intro j hj;cases hb:l.length with
  | zero=>rw [hb] at hj;cases hj
  | succ m=>rw [hb] at hj;injection hj with hj;subst hj;exact ⟨k,rfl,rfl⟩
 ·have:∀ l:List CV,(∀ c∈l,r9 c)->b5g 2 l:=fun l=>by
   induction l with
   | nil=>intro _;trivial
   | cons x l ih=>intro h;exact ⟨(h x si_).old,ih fun c hc=>h c (by simp [hc])⟩
  exact a8c (this rest hr)
theorem d7u {C:Ctx} {M:z6} {w:World} {s:Nat} (hr:Rel C M σ w) (hσ:BAt σ q s T a l rest):∃ M',Ext M w M' w/\Rel C M' ((σ.set q (E9 T q σ.length a l rest)).set s .dead++[A1 tU8 l.length]) w:=by
 obtain ⟨h1,h2,h3⟩:=hσ;have hq:=(n_1.1 h1).1;have hs:=(n_1.1 h2).1;cases l with
 | nil =>
  rw [show σ.set q (E9 T q σ.length a [] rest)=σ from a2e h1,show σ.set s b9.dead=σ from a2e h2];obtain ⟨hr1,hx1⟩:=hr.addDead ⟨0,0,0⟩;exact ⟨_,hx1,hr1⟩
 | cons x l =>
  obtain ⟨ps,hps⟩:∃ p,M.pl[s]? = some p:=⟨_,a2b (by rw [hr.len];exact hs)⟩;obtain ⟨pq,hpq⟩:∃ p,M.pl[q]? = some p:=⟨_,a2b (by rw [hr.len];exact hq)⟩;obtain ⟨⟨hcap,_⟩,_⟩:=hr.obj s ps _ hps h2;obtain ⟨hx1,hr1⟩:=hr.tipNew (m:=(x::l).length) hps h2 (n_4 _) hcap;have hpq':(M.add ps).pl[q]? = some pq:=hx1.get hpq;have hps':(M.add ps).pl[s]? = some ps:=hx1.get hps;have hpn:(M.add ps).pl[σ.length]? = some ps:=by simp [z6.add,<- hr.len]
  have hbq:(σ.set s b9.dead++[b9.tipT (some tU8) (x::l).length])[q]? = some (E9 T q s a (x::l) rest):=by
   rw [M5 (sp_ hq),a2V h3.symm,h1]
  obtain ⟨⟨arr,ty,e1,e2,e3,e4⟩,hf,hcl⟩:=hr1.obj q pq _ hpq' hbq;have hcell:∀ (i:Nat) (c:CV),(d4j q a::a09 (x::l) σ.length::rest)[i]? = some c->RV (M.add ps) w c (arr.getD i undef):=fun i c hi=>by
   rcases i with _ | _ | i
   ·exact e4 0 c hi
   ·injection hi with hi
    subst hi;have hl:=e4 1 _ rfl;obtain ⟨a',cap',b',off',s'',vals',hv',q1,q2,q3,q4,q5,q6,q7,q8,q9,q10⟩:=hl.list_inv;rw [hv'];refine RV.list' (L:=((x::l).map bcv).length) rfl vals' q1 q2 (by rw [q3]) (fun h=>by cases h) q5 q6 q7 q8 q9 (fun k' hk'=>?_);obtain ⟨s3,g1,g2,g3,g4⟩:=q10 s rfl;injection hk' with hk'
    subst hk';refine ⟨s3,?_,g2,g3,g4⟩;rw [hps'] at g1;rw [hpn,g1]
   ·exact e4 (i+2) c hi
  have hro:O5 (M.add ps) w pq (E9 T q σ.length a (x::l) rest):=⟨arr,ty,e1,e2,fun c hc=>by
   rcases R5.1 hc with rfl | hc
   ·cases a <;> rfl
   ·rcases R5.1 hc with rfl | hc
    ·rfl
    ·exact e3 c (b5h _ (b5h _ hc)),hcell⟩
  have hfin:=hr1.putObj (ob:=E9 T q σ.length a (x::l) rest) hpq' hbq rfl hf hcl (.cells arr ((some T).getD ty) (0,0)) (by rw [World.putObj_self w e1];exact hro);rw [World.putObj_self w e1] at hfin;refine ⟨_,hx1,?_⟩;have hst:(σ.set s b9.dead++[b9.tipT (some tU8) (x::l).length]).set q (E9 T q σ.length a (x::l) rest)=(σ.set q (E9 T q σ.length a (x::l) rest)).set s .dead++[A1 tU8 (x::l).length]:=by
   rw [List.set_append_left _ _ (sp_ hq),List.set_comm _ _ h3.symm];rfl
  rw [<- hst];exact hfin
theorem d1M {C:Ctx} {c:Code} {Q:G6->Env->List b9->Prop} {E:Env} (T:TypeId) (q s:Nat) (a:Bool) (l:Str) (rest:List CV) (hσ:BAt σ q s T a l rest) (h:CWp C n c Q E ((σ.set q (E9 T q σ.length a l rest)).set s .dead++[A1 tU8 l.length])):CWp C n c Q E σ:=fun M w ac hr hf=>by
 obtain ⟨M',h1,h2⟩:=d7u hr hσ;exact wp_mono (h _ w ac h2 (hf.mono h1)) fun _ _ _=>P3.later h1
end Go.Proofs.YtlppbmfecjabeaaGreatDoor
namespace Go.Proofs
open Go.Shelf
def Tryz.laysM171_ren:Go.Shelf.Ren:=⟨fun | 171=>113 | 243=>157 | 246=>203 | 283=>248 | 284=>249 | 285=>250 | 286=>251 | 129=>217 | 317=>287 | 318=>288 | 319=>289 | 320=>290 | 337=>309 | 338=>310 | n=>n,fun | 3=>3 | 9=>9 | 2=>2 | 4=>4 | 171=>282 | 0=>0 | 53=>86 | 37=>149 | 5=>5 | 173=>284 | 212=>313 | 51=>262 | 20=>20 | 213=>314 | 46=>141 | 232=>331 | 233=>332 | n=>n,fun | 17=>1 | 18=>2 | 19=>3 | n=>n⟩
theorem Tryz.laysM171:Go.Proofs.LaysM.n171 Tryz.prog Tryz.laysM171_ren:={
 mixed:=by kernel_rfl
 f129:=Tryz.func217.trans (congrArg some C6)
 f171:=Tryz.func113.trans (congrArg some C6)
 f243:=Tryz.func157.trans (congrArg some C6)
 f246:=Tryz.func203.trans (congrArg some C6)
 f283:=Tryz.func248.trans (congrArg some C6)
 f284:=Tryz.func249.trans (congrArg some C6)
 f285:=Tryz.func250.trans (congrArg some C6)
 f286:=Tryz.func251.trans (congrArg some C6)
 f317:=Tryz.func287.trans (congrArg some C6)
 f318:=Tryz.func288.trans (congrArg some C6)
 f319:=Tryz.func289.trans (congrArg some C6)
 f320:=Tryz.func290.trans (congrArg some C6)
 f337:=Tryz.func309.trans (congrArg some C6)
 f338:=Tryz.func310.trans (congrArg some C6)
 t0:=Tryz.underlying0
 a0:=Tryz.isAgg0
 z0:=Tryz.sizeOf0
 v0:=Tryz.zeroValue0
 t2:=Tryz.underlying2
 a2:=Tryz.isAgg2
 z2:=Tryz.sizeOf2
 v2:=Tryz.zeroValue2
 t3:=c2E
 a3:=a2Y
 z3:=t_2
 v3:=t_6
 t4:=Tryz.underlying4
 a4:=c8O
 z4:=c9X
 v4:=Tryz.zeroValue4
 t5:=Tryz.underlying5
 a5:=c6r
 z5:=t_9
 v5:=a4N
 t9:=c26
 a9:=t_8
 z9:=t_0
 v9:=t_3
 t20:=Tryz.underlying20
 a20:=Tryz.isAgg20
 z20:=Tryz.sizeOf20
 v20:=Tryz.zeroValue20
 t37:=Tryz.underlying149
 a37:=Tryz.isAgg149
 z37:=d0D
 v37:=Tryz.zeroValue149
 t46:=Tryz.underlying141
 a46:=Tryz.isAgg141
 z46:=Tryz.sizeOf141
 v46:=Tryz.zeroValue141
 t51:=Tryz.underlying262
 a51:=Tryz.isAgg262
 z51:=Tryz.sizeOf262
 v51:=Tryz.zeroValue262
 t53:=Tryz.underlying86
 a53:=Tryz.isAgg86
 z53:=Tryz.sizeOf86
 v53:=Tryz.zeroValue86
 t171:=Tryz.underlying282
 a171:=Tryz.isAgg282
 z171:=Tryz.sizeOf282
 v171:=Tryz.zeroValue282
 t173:=Tryz.underlying284
 a173:=Tryz.isAgg284
 z173:=Tryz.sizeOf284
 v173:=Tryz.zeroValue284
 t212:=Tryz.underlying313
 a212:=Tryz.isAgg313
 z212:=Tryz.sizeOf313
 v212:=Tryz.zeroValue313
 t213:=Tryz.underlying314
 a213:=Tryz.isAgg314
 z213:=Tryz.sizeOf314
 t232:=Tryz.underlying331
 a232:=Tryz.isAgg331
 z232:=Tryz.sizeOf331
 v232:=Tryz.zeroValue331
 t233:=Tryz.underlying332
 a233:=Tryz.isAgg332
 z233:=Tryz.sizeOf332
 v233:=Tryz.zeroValue332
 g17:=by kernel_rfl
 g18:=by kernel_rfl
 g19:=by kernel_rfl
 i0:=by kernel_rfl
 i2:=by kernel_rfl
 i3:=by kernel_rfl
 i4:=by kernel_rfl
 i5:=by kernel_rfl
 i9:=by kernel_rfl
 i20:=by kernel_rfl
 i37:=by kernel_rfl
 i46:=by kernel_rfl
 i51:=by kernel_rfl
 i53:=by kernel_rfl
 i171:=by kernel_rfl
 i173:=by kernel_rfl
 i212:=by kernel_rfl
 i232:=by kernel_rfl
 i233:=by kernel_rfl
 m17:=by kernel_rfl
 m18:=by kernel_rfl
 m19:=by kernel_rfl}
end Go.Proofs
namespace Go.Proofs.YtlppbmfecjabeaaGreatDoor
open Go Go.Cl
variable {d:De} {i n s m w q1 q2 t:Nat} {k o u b:Int} {E:List Ex} {fl:List Fi} {l nm l' pkg:Str} {ms:SM} {ps br:List Str} {σ:List b9} {ch:List Tr} {T:TypeId} {rest:List CV} {nn en va pn a:Bool} {x:Str × Src} {L:List (Str × Src)} {me:EM} {sel:List Nat} {c:Tr} {α:Type}
theorem b94 (n:Int) (h0 : -9223372036854775808<=n) (h1:n<=9223372036854775807) (σ:List b9):b8 CC 113 [iv n] σ fun r σ'=>r = .ret (sv (Lib.itoa n))/\σ'=σ :=
 b1d (fun M σ w vs hr hn hx=>by
  have hv:vs = #[.int .i64 n]:=by
   refine c0s fun i=>?_
   rcases i with _ | i
   ·have h:=r2 (hx 0 _ rfl);have hs:0 < vs.size:=by rw [hn];exact Nat.succ_pos _
    simp only [W4,a0q hs,a7R] at h;rw [a0q hs,h];rfl
   ·have hs:vs.size<=i+1:=by rw [hn];show 1<=i+1;omega
    rw [a9a hs];rfl
  subst hv;have ht:Lib.pow10Tab=[1,10,100,1000,10000,100000,1000000,10000000,100000000,1000000000,10000000000,100000000000,1000000000000,10000000000000,100000000000000,1000000000000000,10000000000000000,100000000000000000,1000000000000000000,10000000000000000000]:=by decide
  refine Any.strconv_Itoa Tryz.laysM171 n h0 h1 w ?_;rw [ht];exact GV.tab (C:=CC) (hr.glob 1 c47 rfl) C6) σ
theorem b75 {u:Nat} (hn:0 < n) (h:u < 10^n):(Lib.decDigits u).length<=n:=by
 induction n generalizing u with
 | zero=>omega
 | succ n ih =>
  rw [Lib.decDigits]
  split
  ·simp
  ·rcases b3g n with rfl | hn
   ·omega
   ·have:=ih (u:=u / 10) hn (by rw [Nat.pow_succ] at h;omega);simp;omega
theorem a4S {n:Int} (h0 : -9223372036854775808<=n) (h1:n<=9223372036854775807):(Lib.itoa n).length<=20:=by
 unfold Lib.itoa
 split
 ·have:=b75 (u:=n.natAbs) (n:=19) om_ om_;simp;omega
 ·have:=b75 (u:=n.toNat) (n:=19) om_ om_;omega
def a3m (k o:Int):Int:=if k=5 then 0 else if k=4 then F0 o else 4
theorem b1r (x:Ex) (σ:List b9):b8 CC 305 [.agg x.cells] σ fun r σ'=>r = .ret (iv (a3m x.k x.op))/\σ'=σ:=by
 refine an_ Tryz.func305 ?_;refine a2M ?_;refine a8S ?_;refine a2m ?_;refine cC ?_ ?_ <;> intro h1
 ·have u1:x.k=5:=sp_ h1;exact d4c
 ·have u1:¬ x.k=5:=sp_ h1;refine D6 ?_;refine cC ?_ ?_ <;> intro h2
  ·have u2:x.k=4:=sp_ h2;refine c2n ?_;refine yc rfl Tryz.call319 ⟨tt,tt⟩ (a8f x.op _) ?_;refine z_7 ?_;exact ⟨_,j2 rfl tt c4,_,_,rfl,rfl,G4 (by rw [a3m,if_neg u1,if_pos u2])⟩
  ·have u2:¬ x.k=4:=sp_ h2;refine a9F ?_;exact ⟨_,j2 rfl tt c4,_,_,rfl,rfl,G4 (by rw [a3m,if_neg u1,if_neg u2])⟩
def sgn (o:Int):Str:=(glk S0 o).getD []
def a6P (k:Int):Str:=if k=7 then [115,105,122,101] else if k=8 then [104,97,115] else if k=9 then [101,110,118] else []
def J3 (sep:Str):List Str->Str
 | []=>[]
 | [x]=>x
 | x::y::l=>x++sep++J3 sep (y::l)
def ndT (ps:List Str) (k u o:Int) (nm:Str) (cs:List Str):Str :=
 if k=1 then Lib.itoa u else if k=2 then ps.getD u.toNat [] else if k=4 then cs.getD 0 []++([32]++sgn o++[32])++cs.getD 1 [] else if k=5 then [105,102,32]++cs.getD 0 []++[32,116,104,101,110,32]++cs.getD 1 []++[32,101,108,115,101,32]++cs.getD 2 []
 else if k=3 then nm++[40]++J3 [44,32] cs++[41] else if k=6 then [114,101,97,100,40,34]++nm++[34,44,32]++cs.getD 0 []++[41] else if k=10 then [102,108,105,112,40]++Lib.itoa u++[41] else a6P k++([40,34]++nm++[34,41])
def a0R (k o:Int):List Int:=if k=4 then [if F0 o=1 then F0 o+1 else F0 o,F0 o+1] else []
mutual
def Tr.txt (ps:List Str):Tr->Int->Str
 | .n k u o nm ch,pl=>if a3m k o < pl then [40]++ndT ps k u o nm (I2 ps ch (a0R k o))++[41] else ndT ps k u o nm (I2 ps ch (a0R k o))
def I2 (ps:List Str):List Tr->List Int->List Str
 | [],_=>[]
 | t::l,pls=>t.txt ps (pls.headD 0)::I2 ps l pls.tail
end
theorem a5D (ps:List Str):∀ (l:List Tr) (pls:List Int),(I2 ps l pls).length=l.length
 | [],_=>rfl
 | t::l,pls=>by rw [I2,n_7,a5D ps l,n_7]
theorem a0e (ps:List Str):∀ (l:List Tr) (pls:List Int) (m:Nat) (c:Tr),l[m]? = some c->(I2 ps l pls)[m]? = some (c.txt ps (pls.getD m 0))
 | [],_,_,_,h=>by simp at h
 | t::l,pls,0,c,h=>by
  injection h with h
  subst h;rw [I2];cases pls <;> rfl
 | t::l,pls,m+1,c,h=>by
  rw [I2,c2S,a0e ps l pls.tail m c h];cases pls <;> rfl
def a8U (E:List Ex) (t:Tr) (s:Nat):Prop:=∃ E0 E1,E=E0++t.flat s++E1/\E0.length=s
theorem a8U.node (h:a8U E (.n k u o nm ch) s):E[s+w8 ch]? = some ⟨k,u,o,nm,o0 ch s⟩:=by
 obtain ⟨E0,E1,rfl,rfl⟩:=h;rw [Tr.flat,n_8,a0y om_,n_8,a0y (by rw [P7];omega),P7];rw [show E0.length+w8 ch - E0.length - w8 ch=0 by omega];rfl
theorem a93:∀ (l:List Tr) (m s:Nat) (c:Tr),l[m]? = some c->∃ X,J2 l s=J2 (l.take m) s++c.flat (s+w8 (l.take m))++X
 | [],_,_,_,h=>by simp at h
 | t::l,0,s,c,h=>by
  injection h with h
  subst h;exact ⟨_,rfl⟩
 | t::l,m+1,s,c,h=>by
  obtain ⟨X,hX⟩:=a93 l m (s+t.size) c h;refine ⟨X,?_⟩;rw [J2,hX,b0c,J2,w8,b0k];simp only [n_8]
theorem a8U.child (h:a8U E (.n k u o nm ch) s) (hc:ch[m]? = some c):a8U E c (s+w8 (ch.take m)):=by
 obtain ⟨E0,E1,rfl,rfl⟩:=h;obtain ⟨X,hX⟩:=a93 ch m E0.length c hc;refine ⟨E0++J2 (ch.take m) E0.length,X++[⟨k,u,o,nm,o0 ch E0.length⟩]++E1,?_,?_⟩
 ·rw [Tr.flat,hX];simp only [n_8]
 ·rw [n_5,P7]
theorem a22 {l:List Tr} (h:l[m]? = some c):c.size<=w8 l:=by
 induction l generalizing m with
 | nil=>simp at h
 | cons t l ih =>
  rw [w8]
  rcases m with _ | m
  ·injection h with h;subst h;omega
  ·have:=ih h;omega
abbrev TW:Nat:=309
theorem a2u:a5g TW 5:=by unfold a5g;kernel_rfl
def WR (E:List Ex) (ps:List Str) (en pn:Bool) (d:Int):List CV:=[.list (E.map Ex.cv) en none,.list (ps.map scv) pn none,iv d]
theorem F2 (E:List Ex) (ps:List Str) (en pn:Bool) (d:Int):∀ c∈WR E ps en pn d,r9 c:=fun c hc=>by
 simp only [WR,R5,b2M,or_false] at hc
 rcases hc with rfl | rfl | rfl
 ·exact a0t _ _
 ·exact C2 _ _
 ·exact .val _
def WEG (E:List Ex) (ps:List Str) (en pn:Bool) (t:Tr) (s:Nat) (ok:Int->Prop):Prop:=∀ (pl dp:Int) (a:Bool) (b:Str) (d:Int),ok pl->0<=dp->dp+2*t.size+1<=1000000000->b.length+(t.txt ps pl).length<=100000000000000->∀ (σ:List b9) (q k:Nat),BAt σ q k TW a b (WR E ps en pn d) ->
 b8 CC 284 [.ptr q 0,iv ((s+t.size - 1:Nat):Int),iv pl,iv dp] σ fun r τ=>∃ d':Int,r = .ret (.tup [])/\τ=(σ.set q (E9 TW q σ.length true (b++t.txt ps pl) (WR E ps en pn d'))).set k .dead++[A1 tU8 (b++t.txt ps pl).length]/\True
theorem b2r {pl dp:Int} {T:Str} {b:Str} {d:Int} (h:b8 CC 284 [.ptr 0 0,iv i,iv pl,iv dp] (bSt TW a b (WR E ps en pn d)) fun r τ=>∃ d':Int,F1 2 τ r (.ret (.tup [])) (a9f TW (b++T) (WR E ps en pn d'))/\True)
 (σ:List b9) (q k:Nat) (hσ:BAt σ q k TW a b (WR E ps en pn d)):b8 CC 284 [.ptr q 0,iv i,iv pl,iv dp] σ fun r τ=>∃ d':Int,r = .ret (.tup [])/\τ=(σ.set q (E9 TW q σ.length true (b++T) (WR E ps en pn d'))).set k .dead++[A1 tU8 (b++T).length]/\True :=
 c0o (c:=fun _:Int=>.tup []) (l':=fun _=>b++T) (rest':=fun d'=>WR E ps en pn d') (P:=fun _=>True) (fun a h=>by simp at h;rcases h with rfl | rfl | rfl <;> exact .val _) (fun _ _=>B9 trivial) (F2 _ _ _ _ _) (fun _ _=>F2 _ _ _ _ _)
  (L2 hCC (h.mono fun r τ hh=>by
   obtain ⟨d',h1,h2⟩:=hh;exact ⟨_,_,h1,d',rfl,rfl,tt⟩)) hσ
def W3:List Str:=[[105,102,32],[32,116,104,101,110,32],[32,101,108,115,101,32]]
def ifP:List Str->Nat->Str
 | _,0=>[]
 | cs,m+1=>ifP cs m++W3.getD m []++cs.getD m []
def F4 (sep:Str) (cs:List Str) (m:Nat):Str:=J3 sep (cs.take m)
theorem Y5 {sep:Str} {cs:List Str} {c:Str} (h:cs[m]? = some c):F4 sep cs (m+1)=F4 sep cs m++(if m=0 then [] else sep)++c:=by
 unfold F4;have:∀ (cs:List Str) (m:Nat) (c:Str),cs[m]? = some c->J3 sep (cs.take (m+1))=J3 sep (cs.take m)++(if m=0 then [] else sep)++c:=by
  intro cs
  induction cs with
  | nil=>intro m c h;simp at h
  | cons x l ih =>
   intro m c h
   rcases m with _ | m
   ·simp at h;subst h;simp [J3]
   ·rw [b0c,b0c];have:=ih m c (sp_ h)
    rcases l with _ | ⟨y,l⟩
    ·simp at h
    ·rcases m with _ | m
     ·simp only [b0c,List.take_zero,J3] at this ⊢;simp at this ⊢;simpa using h
     ·simp only [b0c,J3] at this ⊢;rw [this];simp
 exact this cs m c h
theorem b5z {β:Type} {k:Int} {y:β}:∀ {l:List (Int × β)},glk l k=some y->(k,y)∈l
 | [],h=>by cases h
 | (b,c)::l,h=>by
  rw [glk] at h;split at h
  ·rename_i e;injection h with h
   subst h e;simp
  ·exact b5h _ (b5z h)
theorem d7K (h:m < 3):∃ w,W3[m]? = some w:=by
 match m,h with
 | 0,_=>exact ⟨_,rfl⟩
 | 1,_=>exact ⟨_,rfl⟩
 | 2,_=>exact ⟨_,rfl⟩
theorem b7k:∀ l:List Tr,l.length<=w8 l
 | []=>n_4 _
 | t::l=>by rw [w8,n_7];have:=b7k l;have:=t.size_pos;omega
def kp (ph:Bool):Nat:=match ph with | false=>3 | true=>4
def op1 (ph:Bool) (m:Nat):b9:=match ph with | false=>A1 tU8 m | true=>.dead
def op2 (ph:Bool) (m:Nat):b9:=match ph with | false=>.dead | true=>A1 tU8 m
theorem a6Y {L:Nat} {s':Nat} (hL:0 < L) (hs:sel[s']? = some s) (hr:∀ c∈rest,r9 c) (he:l=l'):b2y L sel (E9 T 0 s a l rest) (E9 T 0 s' a l' rest):=by
 subst he;refine .box ⟨?_,.list (fun r hr c hc=>(a1H l r hr c hc).old) (fun j hj=>?_),?_⟩
 ·cases a
  ·exact .old (.val _)
  ·exact .old (.ptr hL)
 ·cases hb:l.length with
  | zero=>rw [hb] at hj;cases hj
  | succ m=>rw [hb] at hj;injection hj with hj;subst hj;exact ⟨s,rfl,hs⟩
 ·have:∀ l:List CV,(∀ c∈l,r9 c)->b5g L l:=fun l=>by
   induction l with
   | nil=>intro _;trivial
   | cons x l ih=>intro h;exact ⟨(h x si_).old,ih fun c hc=>h c (by simp [hc])⟩
  exact a8c (this rest hr)
theorem T1 {L:Nat} (he:l=l'):b2y L sel (A1 tU8 l.length) (A1 tU8 l'.length):=he ▸ .same rfl (b3o _ _ _)
theorem a3e:Old 2 (.tup []):=(B9 (cs:=[]) tt).old
def W0:List (Int × Str):=[(7,[115,105,122,101]),(8,[104,97,115]),(9,[101,110,118])]
theorem c8F (k:Int):(glk W0 k).getD []=a6P k:=by
 unfold a6P
 split
 ·subst_vars;rfl
 ·split
  ·subst_vars;rfl
  ·split
   ·subst_vars;rfl
   ·rename_i h1 h2 h3;have e:∀ x∈W0,x.1≠k:=fun x hx=>by
     simp only [W0,R5,b2M,or_false] at hx
     rcases hx with rfl | rfl | rfl <;> simp only <;> omega
    cases hg:glk W0 k with
    | none=>rfl
    | some y =>
     exact absurd rfl (e _ (b5z hg))
theorem c2x (o:Int):(sgn o).length<=100:=by
 unfold sgn;cases hg:glk S0 o with
 | none=>exact n_3 _
 | some y =>
  have:∀ x∈S0,x.2.length<=100:=by decide
  exact this _ (b5z hg)
theorem b7b (o:Int):1<=F0 o/\F0 o<=3:=by unfold F0;split;omega;split <;> omega
theorem L9 (a b:Str):(a++b).length=a.length+b.length:=n_5
theorem a7U {l:List Tr} (h:l.length=n) (hm:m < n):∃ c,l[m]? = some c:=⟨l[m]'om_,si_⟩
theorem d1k (cs:List Str):∀ m,m<=3->(ifP cs m).length<=(ifP cs 3).length:=by
 intro m hm;have h1:∀ n,(ifP cs n).length<=(ifP cs (n+1)).length:=fun n=>by rw [ifP];simp only [n_5];omega
 have e0:=h1 0;have e1:=h1 1;have e2:=h1 2
 rcases m with _ | _ | _ | _ | m <;> simp only [n_9,Nat.reduceAdd] at*<;> omega
theorem a8W (sep:Str) (cs:List Str) (m:Nat):(F4 sep cs m).length<=(J3 sep cs).length:=by
 unfold F4
 induction cs generalizing m with
 | nil=>simp
 | cons x l ih =>
  rcases m with _ | m
  ·simp [J3]
  ·rw [b0c]
   rcases l with _ | ⟨y,l⟩
   ·simp
   ·rcases m with _ | m
    ·simp [J3]
    ·have:=ih (m+1);rw [b0c] at this ⊢;simp only [J3,n_5] at this ⊢;omega
theorem b4N (k:Int):(a6P k).length<=4:=by
 unfold a6P
 split;decide
 split;decide
 split <;> decide
theorem b30 (hAt:a8U E (.n k u o nm ch) s) (hn:U8 ps.length k u o nm ch.length) (_:E.length<=1000000) (hI:∀ m c,ch[m]? = some c->WEG E ps en pn c (s+w8 (ch.take m)) (fun _=>True)) (T:Str) (hT:T=ndT ps k u o nm (I2 ps ch (a0R k o))) (pl dp:Int) (hpl:¬ a3m k o < pl) (hd0:0<=dp) (hd:dp+2*((w8 ch+1:Nat):Int)<=1000000000) (a:Bool) (b:Str) (d:Int) (hb:b.length+T.length<=100000000000000):b8 CC 284 [.ptr 0 0,(iv ((s+w8 ch:Nat):Int)),iv pl,iv dp] (bSt TW a b (WR E ps en pn d)) fun r τ=>∃ d':Int,F1 2 τ r (.ret (.tup [])) (a9f TW (b++T) (WR E ps en pn d'))/\True:=by
 refine cO Tryz.func284 ?_;refine a4P ?_;refine d5W ?_;refine d3s ?_;refine cY b9s ?_;refine c9g ?_;refine T5 ?_;refine d5L ?_;refine b65 ?_;refine cC ?_ ?_ <;> intro h1
 ·exact absurd (sp_ h1) hpl
 ·have hnk:=hn.kind;refine a95 ?_;refine cY K2 ?_;refine cY b7d ?_;refine cY a0H ?_;refine cY j1 ?_;refine cY (c8W rfl tt tt rfl rfl) ?_;refine cY K2 ?_;refine cY b7d ?_;refine b9Z ?_;refine c2n ?_;refine a2m ?_;refine cC ?_ ?_ <;> intro h2
  ·refine K9 [E9 TW 0 1 a b (WR E ps en pn (max d dp)),A1 tU8 b.length,.box (Ex.cells ⟨k,u,o,nm,o0 ch s⟩)] rfl ?_;have u2:k=1:=sp_ h2;have hr2:=hn.k1 u2;have eT:T=Lib.itoa u:=by rw [hT,ndT,if_pos u2]
   rw [eT] at hb;refine cW 6 ?_;refine b3P ?_;refine b4h ?_;refine hY (j8 rfl c6i ⟨tt,tt⟩ (b94 u om_ om_ _) rfl) ?_;refine P8 ?_;refine de rfl a2N i7 (w9 a2u _ (b) (F2 _ _ _ _ _) (Lib.itoa u) a5y ⟨rfl,rfl,n_2 rfl⟩) rfl ?_;intro _ _;exact c8I
  ·have u2:¬ k=1:=sp_ h2;refine D6 ?_;refine cC ?_ ?_ <;> intro h3
   ·refine K9 [E9 TW 0 1 a b (WR E ps en pn (max d dp)),A1 tU8 b.length,.box (Ex.cells ⟨k,u,o,nm,o0 ch s⟩)] rfl ?_;have u3:k=2:=sp_ h3;have hr3:=hn.k2 u3;have hnum:0<=(Ex.mk k u o nm (o0 ch s)).num:=hr3.1;have eT:T=ps.getD u.toNat []:=by rw [hT,ndT,if_neg om_,if_pos u3]
    rw [eT] at hb;have g0:ps[u.toNat]? = some (ps.getD u.toNat []):=by
     have hlt:u.toNat < ps.length:=by omega
     simp [List.getD,hlt]
    refine cW 11 ?_;refine b3P ?_;refine a5d ?_;refine hY (j4 rfl tt rfl c0t rfl a2U de_) ?_;refine hY a2D ?_;refine b4h ?_;refine hY (r8 rfl tt tt rfl rfl t_1 t_0 om_ (j3 g0) rfl) ?_;refine hY U1 ?_;refine P8 ?_;refine de rfl a2N i7 (w9 a2u _ (b) (F2 _ _ _ _ _) (ps.getD u.toNat []) a5y ⟨rfl,rfl,n_2 rfl⟩) rfl ?_;intro _ _;exact c8I
   ·have u3:¬ k=2:=sp_ h3;refine D6 ?_;refine cC ?_ ?_ <;> intro h4
    ·refine K9 [E9 TW 0 1 a b (WR E ps en pn (max d dp)),A1 tU8 b.length,.box (Ex.cells ⟨k,u,o,nm,o0 ch s⟩)] rfl ?_;have u4:k=4:=sp_ h4;have hch:ch.length=2:=by have:=hn.cnt;rw [if_pos u4] at this;exact this
     obtain ⟨c0,g0⟩:=a7U (m:=0) hch de_;obtain ⟨c1,g1⟩:=a7U (m:=1) hch de_;have hz0:=a22 g0;have hz1:=a22 g1;have hlv:=b7b o;have hsl:=c2x o;have elv:a3m k o=F0 o:=by rw [a3m,if_neg om_,if_pos u4]
     refine z_0 ?_;refine cY a5B ?_;refine ye rfl Tryz.call305 ⟨tt,tt⟩ ((elv ▸ b1r ⟨k,u,o,nm,o0 ch s⟩ _)) rfl ?_;refine O0 ?_;refine b1w ?_;refine cC ?_ ?_ <;> intro h5
     ·have u5:F0 o=1:=sp_ h5;have eT:T=c0.txt ps (F0 o+1)++([32]++sgn o++[32])++c1.txt ps (F0 o+1):=by rw [hT,ndT,if_neg om_,if_neg om_,if_pos u4];simp only [a3o,a0e ps ch _ 0 c0 g0,a0e ps ch _ 1 c1 g1,a7R];simp [a0R,u4,u5]
      rw [eT] at hb;refine z_4 ?_;refine cY a0v ?_;refine O0 ?_;refine a9z ?_;refine cY d7p ?_;refine cY a1a ?_;refine a4Q ?_;refine de rfl b27 a1v (hI 0 c0 g0 (F0 o+1) (dp) _ (b) _ trivial om_ om_ a5y _ _ _ ⟨rfl,rfl,n_2 rfl⟩) rfl ?_;rintro d1 _;dsimp only;refine c5 [E9 TW 0 3 true (b++c0.txt ps (F0 o+1)) (WR E ps en pn d1),.dead,.box (Ex.cells ⟨k,u,o,nm,o0 ch s⟩),A1 tU8 (b++c0.txt ps (F0 o+1)).length] rfl ?_;refine z_9 ?_;refine d6G ?_;refine chf rfl c7N ?_;refine chf rfl (c7 rfl b7i) ?_;refine chf rfl b1m ?_;refine d4G ?_;intro _ _;refine a1E [E9 TW 0 3 true (b++c0.txt ps (F0 o+1)) (WR E ps en pn d1),.dead,.box (Ex.cells ⟨k,u,o,nm,o0 ch s⟩),A1 tU8 (b++c0.txt ps (F0 o+1)).length,.map (gm kv sv S0)] rfl ?_;refine d4u ?_;refine D9 rfl rfl rfl (c7 rfl (I1 rfl rfl tt rfl rfl (by show 1+(sgn o).length<=_;omega))) ⟨⟨E8,a2k,b3n,tt⟩,?_⟩;refine D9 rfl rfl rfl d9l ⟨⟨E8,a2k,b3n,tt⟩,?_⟩;refine A6 rfl rfl rfl rfl (C1 rfl a2N i7 (w9 a2u _ (b++c0.txt ps (F0 o+1)) (F2 _ _ _ _ _) ([32]++sgn o++[32]) a5y ⟨rfl,rfl,n_2 rfl⟩) rfl ?_);intro _ _;refine a1E [E9 TW 0 5 true (b++c0.txt ps (F0 o+1)++([32]++sgn o++[32])) (WR E ps en pn d1),.dead,.box (Ex.cells ⟨k,u,o,nm,o0 ch s⟩),.dead,.map (gm kv sv S0),A1 tU8 (b++c0.txt ps (F0 o+1)++([32]++sgn o++[32])).length] rfl ?_;refine a2C ?_;refine z_4 ?_;refine a9z ?_;refine d5G ?_;refine cY j1 ?_;refine c0n ?_;refine de rfl b27 a1v (hI 1 c1 g1 (F0 o+1) (dp) _ (b++c0.txt ps (F0 o+1)++([32]++sgn o++[32])) _ trivial om_ om_ a5y _ _ _ ⟨rfl,rfl,n_2 rfl⟩) rfl ?_;rintro d2 _;dsimp only;exact d5P
     ·have u5:¬ F0 o=1:=sp_ h5;have eT:T=c0.txt ps (F0 o)++([32]++sgn o++[32])++c1.txt ps (F0 o+1):=by rw [hT,ndT,if_neg om_,if_neg om_,if_pos u4];simp only [a3o,a0e ps ch _ 0 c0 g0,a0e ps ch _ 1 c1 g1,a7R];simp [a0R,u4,u5]
      rw [eT] at hb;refine a1m ?_;refine a9z ?_;refine cY d7p ?_;refine cY a1a ?_;refine a4Q ?_;refine de rfl b27 a1v (hI 0 c0 g0 (F0 o) (dp) _ (b) _ trivial om_ om_ a5y _ _ _ ⟨rfl,rfl,n_2 rfl⟩) rfl ?_;rintro d1 _;dsimp only;refine c5 [E9 TW 0 3 true (b++c0.txt ps (F0 o)) (WR E ps en pn d1),.dead,.box (Ex.cells ⟨k,u,o,nm,o0 ch s⟩),A1 tU8 (b++c0.txt ps (F0 o)).length] rfl ?_;refine z_9 ?_;refine d6G ?_;refine chf rfl c7N ?_;refine chf rfl (c7 rfl b7i) ?_;refine chf rfl b1m ?_;refine d4G ?_;intro _ _;refine a1E [E9 TW 0 3 true (b++c0.txt ps (F0 o)) (WR E ps en pn d1),.dead,.box (Ex.cells ⟨k,u,o,nm,o0 ch s⟩),A1 tU8 (b++c0.txt ps (F0 o)).length,.map (gm kv sv S0)] rfl ?_;refine d4u ?_;refine D9 rfl rfl rfl (c7 rfl (I1 rfl rfl tt rfl rfl (by show 1+(sgn o).length<=_;omega))) ⟨⟨E8,a2k,b3n,tt⟩,?_⟩;refine D9 rfl rfl rfl d9l ⟨⟨E8,a2k,b3n,tt⟩,?_⟩;refine A6 rfl rfl rfl rfl (C1 rfl a2N i7 (w9 a2u _ (b++c0.txt ps (F0 o)) (F2 _ _ _ _ _) ([32]++sgn o++[32]) a5y ⟨rfl,rfl,n_2 rfl⟩) rfl ?_);intro _ _;refine a1E [E9 TW 0 5 true (b++c0.txt ps (F0 o)++([32]++sgn o++[32])) (WR E ps en pn d1),.dead,.box (Ex.cells ⟨k,u,o,nm,o0 ch s⟩),.dead,.map (gm kv sv S0),A1 tU8 (b++c0.txt ps (F0 o)++([32]++sgn o++[32])).length] rfl ?_;refine a2C ?_;refine z_4 ?_;refine a9z ?_;refine d5G ?_;refine cY j1 ?_;refine c0n ?_;refine de rfl b27 a1v (hI 1 c1 g1 (F0 o+1) (dp) _ (b++c0.txt ps (F0 o)++([32]++sgn o++[32])) _ trivial om_ om_ a5y _ _ _ ⟨rfl,rfl,n_2 rfl⟩) rfl ?_;rintro d2 _;dsimp only;exact d5P
    ·have u4:¬ k=4:=sp_ h4;have ep:a0R k o=[]:=by rw [a0R,if_neg u4]
     refine D6 ?_;refine cC ?_ ?_ <;> intro h6
     ·have u6:k=5:=sp_ h6;have hch:ch.length=3:=by have:=hn.cnt;rw [if_neg u4,if_pos u6] at this;exact this
      have eT:T=ifP (I2 ps ch []) 3:=by
       rw [hT,ndT,if_neg om_,if_neg om_,if_neg om_,if_pos u6,ep];simp [ifP,W3]
      have hpre:=d1k (I2 ps ch []);rw [eT] at hb;refine K9 [E9 TW 0 1 a b (WR E ps en pn (max d dp)),A1 tU8 b.length,.box (Ex.cells ⟨k,u,o,nm,o0 ch s⟩)] rfl ?_;refine d1M TW 0 1 a b (WR E ps en pn (max d dp)) ⟨rfl,rfl,n_2 rfl⟩ ?_;refine K9 [E9 TW 0 3 a b (WR E ps en pn (max d dp)),.dead,.box (Ex.cells ⟨k,u,o,nm,o0 ch s⟩),A1 tU8 b.length] rfl ?_;refine z_0 ?_;refine cY (A2 (W3.map scv) rfl ⟨rfl,rfl,rfl,tt⟩ t_1 t_0 t_3 rfl rfl rfl rfl rfl rfl rfl rfl rfl) ?_;refine a1i ?_;refine B2 hCC 4 rfl (α:=Nat × Bool × Bool × Int) (fun x=>[(0,.ptr 0 0),(3,iv dp),(8,.ptr 2 0),(127,.list (W3.map scv) true none),(128,(iv (3))),(129,iv x.1)]) (fun x=>[E9 TW 0 (kp x.2.1) x.2.2.1 (b++ifP (I2 ps ch []) x.1) (WR E ps en pn x.2.2.2),.dead,.box (Ex.cells ⟨k,u,o,nm,o0 ch s⟩),op1 x.2.1 (b++ifP (I2 ps ch []) x.1).length,op2 x.2.1 (b++ifP (I2 ps ch []) x.1).length]) (fun x=>x.1<=3/\(0 < x.1->x.2.2.1=true)) (fun x=>3 - x.1) ⟨(0,false,a,max d dp),[0,1,2,3,7],⟨n_3 _,fun h=>absurd h (Nat.lt_irrefl _)⟩,⟨rfl,rfl⟩,ut_,⟨.inr ⟨_,rfl,a6Y de_ rfl (F2 _ _ _ _ _) (by simp [ifP])⟩,.inl rfl,.inr ⟨_,rfl,.same rfl b7C⟩,.inr ⟨_,rfl,T1 (by simp [ifP])⟩,.inl rfl,tt⟩⟩ ?_;intro ⟨m,ph,a',d'⟩ ⟨hm,hma⟩;dsimp only at hm hma ⊢;refine C9 ?_;refine cC ?_ ?_ <;> intro h7
      ·have hlt:m < 3:=sm_ h7;obtain ⟨w,gw⟩:=d7K hlt;obtain ⟨c,gm⟩:=a7U (m:=m) hch hlt;have hzm:=a22 gm;have es:ifP (I2 ps ch []) (m+1)=ifP (I2 ps ch []) m++w++c.txt ps 0:=by
        rw [ifP];simp only [a3o,gw,a0e ps ch _ m c gm,a7R];simp
       have hbm:=hpre (m+1) om_;rw [es] at hbm;refine X9 ?_;refine cY (r8 rfl tt tt rfl rfl t_1 t_0 om_ (j3 gw) rfl) ?_;refine cY U1 ?_;refine a9t ?_;refine b6u ?_;refine cY j1 ?_;refine de rfl a2N i7 (w9 a2u _ (b++ifP (I2 ps ch []) m) (F2 _ _ _ _ _) (w) (by simp only [L9] at hb hbm ⊢;omega) ⟨rfl,by cases ph <;> rfl,by cases ph <;> exact n_2 rfl⟩) rfl ?_;intro _ _;refine c5 [E9 TW 0 5 true (b++ifP (I2 ps ch []) m++w) (WR E ps en pn d'),.dead,.box (Ex.cells ⟨k,u,o,nm,o0 ch s⟩),.dead,.dead,A1 tU8 (b++ifP (I2 ps ch []) m++w).length] N8 ?_;refine b1y ?_;refine a9z ?_;refine cY j1 ?_;refine d4I ?_;refine a9P ?_;refine de rfl b27 ⟨tt,tt,rfl,tt,tt⟩ (hI m c gm 0 (dp+1) _ (b++ifP (I2 ps ch []) m++w) _ trivial om_ om_ (by simp only [L9] at hb hbm ⊢;omega) _ _ _ ⟨rfl,rfl,n_2 rfl⟩) rfl ?_;rintro d3 _;dsimp only;refine c5 [E9 TW 0 6 true (b++ifP (I2 ps ch []) m++w++c.txt ps 0) (WR E ps en pn d3),.dead,.box (Ex.cells ⟨k,u,o,nm,o0 ch s⟩),.dead,.dead,.dead,A1 tU8 (b++ifP (I2 ps ch []) m++w++c.txt ps 0).length] rfl ?_;refine a5e ?_;exact ⟨(m+1,true,true,d3),[0,1,2,3,6],(show 3 - (m+1) < 3 - m/\m+1<=3/\(0 < m+1->true=true) from ⟨om_,om_,fun _=>rfl⟩),⟨rfl,rfl⟩,ut_,⟨.inr ⟨_,rfl,a6Y de_ rfl (F2 _ _ _ _ _) c1k⟩,.inl rfl,.inr ⟨_,rfl,.same rfl b7C⟩,.inl rfl,.inr ⟨_,rfl,T1 c1k⟩,tt⟩⟩
      ·have h3m:m=3:=sm_ h7;subst h3m;obtain rfl:=hma de_;refine A4 ?_;exact ⟨_,j9 (rs:=[]) (cs:=[]) rfl tt (n_2 rfl),⟨d',(by rw [eT];exact b3H (k:=kp ph) rfl N8 (by cases ph <;> decide) (F2 _ _ _ _ _) a3e),tt⟩⟩
     ·have u6:¬ k=5:=sp_ h6;refine D6 ?_;refine cC ?_ ?_ <;> intro h8
      ·refine K9 [E9 TW 0 1 a b (WR E ps en pn (max d dp)),A1 tU8 b.length,.box (Ex.cells ⟨k,u,o,nm,o0 ch s⟩)] rfl ?_;have u8:k=3:=sp_ h8;have eT:T=nm++[40]++J3 [44,32] (I2 ps ch [])++[41]:=by
        rw [hT,ndT,if_neg om_,if_neg om_,if_neg om_,if_neg om_,if_pos u8,ep]
       have hpre:=a8W [44,32] (I2 ps ch []);rw [eT] at hb;have hbn:=hb;simp only [L9,n_7,I4] at hbn;refine A5 ?_;refine cW 6 ?_;refine b3P ?_;refine b6z ?_;refine hY (I1 rfl tt rfl rfl rfl (by show nm.length+1<=_;omega)) ?_;refine P8 ?_;refine de rfl a2N i7 (w9 a2u _ (b) (F2 _ _ _ _ _) (nm++[40]) a5y ⟨rfl,rfl,n_2 rfl⟩) rfl ?_;intro _ _;refine c5 [E9 TW 0 3 true (b++(nm++[40])) (WR E ps en pn (max d dp)),.dead,.box (Ex.cells ⟨k,u,o,nm,o0 ch s⟩),A1 tU8 (b++(nm++[40])).length] rfl ?_;refine T5 ?_;refine a6y ?_;refine Z0 ?_;refine B2 hCC 4 rfl (α:=Nat × Bool × Int) (fun x=>[(0,.ptr 0 0),(3,iv dp),(159,.list ((o0 ch s).map icv) (gnn (o0 ch s).length) none),(160,(iv ((o0 ch s).length:Int))),(161,iv x.1)]) (fun x=>[E9 TW 0 (kp x.2.1) true (b++(nm++[40])++F4 [44,32] (I2 ps ch []) x.1) (WR E ps en pn x.2.2),.dead,.box (Ex.cells ⟨k,u,o,nm,o0 ch s⟩),op1 x.2.1 (b++(nm++[40])++F4 [44,32] (I2 ps ch []) x.1).length,op2 x.2.1 (b++(nm++[40])++F4 [44,32] (I2 ps ch []) x.1).length]) (fun x=>x.1<=ch.length) (fun x=>ch.length - x.1) ⟨(0,false,max d dp),[0,1,2,3,7],(n_3 _),⟨rfl,rfl⟩,ut_,⟨.inr ⟨_,rfl,a6Y de_ rfl (F2 _ _ _ _ _) (by simp [F4,J3])⟩,.inl rfl,.inr ⟨_,rfl,.same rfl b7C⟩,.inr ⟨_,rfl,T1 (by simp [F4,J3])⟩,.inl rfl,tt⟩⟩ ?_;intro ⟨m,ph,d'⟩ hm;dsimp only at hm ⊢;have hrl:=R0 ch s;have hcl:=b7k ch;refine C9 ?_;refine cC ?_ ?_ <;> intro h9
       ·have hlt:m < ch.length:=sm_ h9;obtain ⟨c,gm⟩:=a7U (m:=m) rfl hlt;have hzm:=a22 gm;have es:=Y5 (sep:=[44,32]) (a0e ps ch [] m c gm);have hbm:=hpre (m+1);rw [es] at hbm;simp only [L9,List.getD_nil] at hbm es;refine X9 ?_;refine d4I ?_;refine b2R ?_;refine cC ?_ ?_ <;> intro h10
        ·have u10:¬ m=0:=sm_ h10;rw [if_neg u10] at hbm es;refine z_4 ?_;refine b6u ?_;refine de rfl a2N o7 (w9 a2u _ (b++(nm++[40])++F4 [44,32] (I2 ps ch []) m) (F2 _ _ _ _ _) ([44,32]) d0c ⟨rfl,by cases ph <;> rfl,by cases ph <;> exact n_2 rfl⟩) rfl ?_;intro _ _;refine c5 [E9 TW 0 5 true (b++(nm++[40])++F4 [44,32] (I2 ps ch []) m++[44,32]) (WR E ps en pn d'),.dead,.box (Ex.cells ⟨k,u,o,nm,o0 ch s⟩),.dead,.dead,A1 tU8 (b++(nm++[40])++F4 [44,32] (I2 ps ch []) m++[44,32]).length] N8 ?_;refine c8 ?_;refine X0 ?_;refine a9P ?_;refine de rfl b27 ⟨tt,tt,rfl,tt,tt⟩ (hI m c gm 0 (dp+1) _ (b++(nm++[40])++F4 [44,32] (I2 ps ch []) m++[44,32]) _ trivial om_ om_ d0c _ _ _ ⟨rfl,rfl,n_2 rfl⟩) rfl ?_;rintro d3 _;dsimp only;refine c5 [E9 TW 0 6 true (b++(nm++[40])++F4 [44,32] (I2 ps ch []) m++[44,32]++c.txt ps 0) (WR E ps en pn d3),.dead,.box (Ex.cells ⟨k,u,o,nm,o0 ch s⟩),.dead,.dead,.dead,A1 tU8 (b++(nm++[40])++F4 [44,32] (I2 ps ch []) m++[44,32]++c.txt ps 0).length] rfl ?_;refine a5e ?_;exact ⟨(m+1,true,d3),[0,1,2,3,6],do_,⟨rfl,rfl⟩,ut_,⟨.inr ⟨_,rfl,a6Y de_ rfl (F2 _ _ _ _ _) c1k⟩,.inl rfl,.inr ⟨_,rfl,.same rfl b7C⟩,.inl rfl,.inr ⟨_,rfl,T1 c1k⟩,tt⟩⟩
        ·have u10:m=0:=sm_ h10;rw [if_pos u10] at hbm es;refine a9p ?_;refine a9P ?_;refine de rfl b27 ⟨tt,tt,rfl,tt,tt⟩ (hI m c gm 0 (dp+1) _ (b++(nm++[40])++F4 [44,32] (I2 ps ch []) m) _ trivial om_ om_ d0c _ _ _ ⟨rfl,by cases ph <;> rfl,by cases ph <;> exact n_2 rfl⟩) rfl ?_;rintro d3 _;dsimp only;refine c5 [E9 TW 0 5 true (b++(nm++[40])++F4 [44,32] (I2 ps ch []) m++c.txt ps 0) (WR E ps en pn d3),.dead,.box (Ex.cells ⟨k,u,o,nm,o0 ch s⟩),.dead,.dead,A1 tU8 (b++(nm++[40])++F4 [44,32] (I2 ps ch []) m++c.txt ps 0).length] N8 ?_;refine a5e ?_;exact ⟨(m+1,true,d3),[0,1,2,3,5],do_,⟨rfl,rfl⟩,ut_,⟨.inr ⟨_,rfl,a6Y de_ rfl (F2 _ _ _ _ _) (by rw [es];simp only [n_8,a7t])⟩,.inl rfl,.inr ⟨_,rfl,.same rfl b7C⟩,.inl rfl,.inr ⟨_,rfl,T1 (by rw [es];simp only [n_8,a7t])⟩,tt⟩⟩
       ·have hme:m=ch.length:=sm_ h9;subst hme;have ej:F4 [44,32] (I2 ps ch []) ch.length=J3 [44,32] (I2 ps ch []):=by rw [F4,U3 (by rw [a5D];exact n_4 _)]
        rw [ej];refine A4 ?_;refine z_4 ?_;refine b6u ?_;refine de rfl c1E o7 (a1D a2u _ (b++(nm++[40])++J3 [44,32] (I2 ps ch [])) (F2 _ _ _ _ _) 41 (by simp only [L9,n_7,I4] at hbn ⊢;omega) ⟨rfl,by cases ph <;> rfl,by cases ph <;> exact n_2 rfl⟩) rfl ?_;intro _ _;refine c5 [E9 TW 0 5 true (b++(nm++[40])++J3 [44,32] (I2 ps ch [])++[41]) (WR E ps en pn d'),.dead,.box (Ex.cells ⟨k,u,o,nm,o0 ch s⟩),.dead,.dead,A1 tU8 (b++(nm++[40])++J3 [44,32] (I2 ps ch [])++[41]).length] N8 ?_;refine c8 ?_;exact ⟨_,j9 (rs:=[]) (cs:=[]) rfl tt (n_2 rfl),⟨d',d9Y,tt⟩⟩
      ·have u8:¬ k=3:=sp_ h8;refine D6 ?_;refine cC ?_ ?_ <;> intro h11
       ·refine K9 [E9 TW 0 1 a b (WR E ps en pn (max d dp)),A1 tU8 b.length,.box (Ex.cells ⟨k,u,o,nm,o0 ch s⟩)] rfl ?_;have u11:k=6:=sp_ h11;have hch:ch.length=1:=by have:=hn.cnt;rw [if_neg u4,if_neg u6,if_pos u11] at this;exact this
        obtain ⟨c0,g0⟩:=a7U (m:=0) hch de_;have hz0:=a22 g0;have eT:T=([114,101,97,100,40,34]++nm++[34,44,32])++c0.txt ps 0++[41]:=by
         rw [hT,ndT,if_neg om_,if_neg om_,if_neg om_,if_neg om_,if_neg om_,if_pos u11,ep];simp only [a3o,a0e ps ch _ 0 c0 g0,a7R];simp
        rw [eT] at hb;have hbn:=hb;simp only [L9,n_7,I4] at hbn;refine A5 ?_;refine cW 7 ?_;refine b3P ?_;refine b6z ?_;refine hY (I1 rfl rfl tt rfl rfl (by show 6+nm.length<=_;omega)) ?_;refine hY (I1 rfl tt rfl rfl rfl (by show ([114,101,97,100,40,34]++nm:Str).length+3<=_;rw [L9];simp;omega)) ?_;refine P8 ?_;refine de rfl a2N i7 (w9 a2u _ (b) (F2 _ _ _ _ _) ([114,101,97,100,40,34]++nm++[34,44,32]) a5y ⟨rfl,rfl,n_2 rfl⟩) rfl ?_;intro _ _;refine c5 [E9 TW 0 3 true (b++([114,101,97,100,40,34]++nm++[34,44,32])) (WR E ps en pn (max d dp)),.dead,.box (Ex.cells ⟨k,u,o,nm,o0 ch s⟩),A1 tU8 (b++([114,101,97,100,40,34]++nm++[34,44,32])).length] rfl ?_;refine L7 ?_;refine a9z ?_;refine cY d7p ?_;refine cY a1a ?_;refine a9P ?_;refine de rfl b27 ⟨tt,tt,rfl,tt,tt⟩ (hI 0 c0 g0 (0) (dp+1) _ (b++([114,101,97,100,40,34]++nm++[34,44,32])) _ trivial om_ om_ a5y _ _ _ ⟨rfl,rfl,n_2 rfl⟩) rfl ?_;rintro d3 _;dsimp only;refine c5 [E9 TW 0 4 true (b++([114,101,97,100,40,34]++nm++[34,44,32])++c0.txt ps 0) (WR E ps en pn d3),.dead,.box (Ex.cells ⟨k,u,o,nm,o0 ch s⟩),.dead,A1 tU8 (b++([114,101,97,100,40,34]++nm++[34,44,32])++c0.txt ps 0).length] rfl ?_;refine b1y ?_;refine b6u ?_;refine de rfl c1E o7 (a1D a2u _ (b++([114,101,97,100,40,34]++nm++[34,44,32])++c0.txt ps 0) (F2 _ _ _ _ _) 41 a5y ⟨rfl,rfl,n_2 rfl⟩) rfl ?_;intro _ _;refine c8 ?_;exact ⟨_,j9 (rs:=[]) (cs:=[]) rfl tt (n_2 rfl),⟨d3,d9Y,tt⟩⟩
       ·have u11:¬ k=6:=sp_ h11;refine D6 ?_;refine cC ?_ ?_ <;> intro h12
        ·refine K9 [E9 TW 0 1 a b (WR E ps en pn (max d dp)),A1 tU8 b.length,.box (Ex.cells ⟨k,u,o,nm,o0 ch s⟩)] rfl ?_;have u12:k=10:=sp_ h12;have hr12:=hn.k10 u12;have eT:T=[102,108,105,112,40]++Lib.itoa u++[41]:=by
          rw [hT,ndT,if_neg om_,if_neg om_,if_neg om_,if_neg om_,if_neg om_,if_neg om_,if_pos u12]
         rw [eT] at hb;have hil:=a4S (n:=u) om_ om_;refine cW 8 ?_;refine b3P ?_;refine b4h ?_;refine hY (j8 rfl c6i ⟨tt,tt⟩ (b94 u om_ om_ _) rfl) ?_;refine hY (I1 rfl rfl tt rfl rfl (by show 5+(Lib.itoa u).length<=_;omega)) ?_;refine hY (I1 rfl tt rfl rfl rfl (by show ([102,108,105,112,40]++Lib.itoa u:Str).length+1<=_;rw [L9];simp;omega)) ?_;refine P8 ?_;refine de rfl a2N i7 (w9 a2u _ (b) (F2 _ _ _ _ _) ([102,108,105,112,40]++Lib.itoa u++[41]) a5y ⟨rfl,rfl,n_2 rfl⟩) rfl ?_;intro _ _;exact c8I
        ·refine K9 [E9 TW 0 1 a b (WR E ps en pn (max d dp)),A1 tU8 b.length,.box (Ex.cells ⟨k,u,o,nm,o0 ch s⟩)] rfl ?_;have u12:¬ k=10:=sp_ h12;have eT:T=a6P k++[40,34]++nm++[34,41]:=by
          rw [hT,ndT,if_neg om_,if_neg om_,if_neg om_,if_neg om_,if_neg om_,if_neg om_,if_neg om_];simp only [n_8]
         rw [eT] at hb;have hbn:=hb;simp only [L9,n_7,I4] at hbn;have hwl:=b4N k;refine z_0 ?_;refine cD (Z5 rfl ?_);refine cD (l8 (vc:=sv) (l:=W0.take 0) (a:=7) (b:=[115,105,122,101]) a0A (.inr rfl) tt rfl rfl rfl rfl rfl a2s rfl ?_);refine cD (l8 (vc:=sv) (l:=W0.take 1) (a:=8) (b:=[104,97,115]) a0A (.inr rfl) tt rfl rfl rfl rfl rfl a2s rfl ?_);refine cD (l8 (vc:=sv) (l:=W0.take 2) (a:=9) (b:=[101,110,118]) a0A (.inr rfl) tt rfl rfl rfl rfl rfl a2s rfl ?_);refine cY j1 ?_;refine a8S ?_;refine cY (R2 (vc:=sv) (l:=W0) (a:=k) a0A rfl tt tt rfl rfl a2s t_3 rfl rfl ((a52 ([]:Str) rfl _).trans (congrArg sv (c8F k)))) ?_;refine z_1 ?_;refine cW 9 ?_;refine b3P ?_;refine hY j1 ?_;refine hY (I1 rfl tt rfl rfl rfl (by first|omega|(simp only [n_7,I4];omega))) ?_;refine b6z ?_;refine hY (I1 rfl tt tt rfl rfl (by first|omega|(simp only [L9,n_7,I4];omega))) ?_;refine hY (I1 rfl tt rfl rfl rfl (by first|omega|(simp only [L9,n_7,I4];omega))) ?_;refine P8 ?_;refine de rfl a2N i7 (w9 a2u _ (b) (F2 _ _ _ _ _) (a6P k++[40,34]++nm++[34,41]) a5y ⟨rfl,rfl,n_2 rfl⟩) rfl ?_;intro _ _;refine c8 ?_;exact ⟨_,j9 (rs:=[]) (cs:=[]) rfl tt (n_2 rfl),⟨(max d dp),(by rw [eT];exact b3H (k:=4) rfl rfl de_ (F2 _ _ _ _ _) a3e),tt⟩⟩
theorem c4w (hAt:a8U E (.n k u o nm ch) s) (T:Str) (pl dp:Int) (hpl:a3m k o < pl) (hd0:0<=dp) (hd:dp+2*((w8 ch+1:Nat):Int)+1<=1000000000) (a:Bool) (b:Str) (d:Int) (hb:b.length+([40]++T++[41]:Str).length<=100000000000000)
 (hW:∀ (dp:Int) (a:Bool) (b:Str) (d:Int),0<=dp->dp+2*((w8 ch+1:Nat):Int)<=1000000000->b.length+T.length<=100000000000000->∀ (σ:List b9) (q k:Nat),BAt σ q k TW a b (WR E ps en pn d) ->
  b8 CC 284 [.ptr q 0,iv ((s+w8 ch:Nat):Int),iv 0,iv dp] σ fun r τ=>∃ d':Int,r = .ret (.tup [])/\τ=(σ.set q (E9 TW q σ.length true (b++T) (WR E ps en pn d'))).set k .dead++[A1 tU8 (b++T).length]/\True) :
 b8 CC 284 [.ptr 0 0,(iv ((s+w8 ch:Nat):Int)),iv pl,iv dp] (bSt TW a b (WR E ps en pn d)) fun r τ=>∃ d':Int,F1 2 τ r (.ret (.tup [])) (a9f TW (b++([40]++T++[41])) (WR E ps en pn d'))/\True:=by
 refine cO Tryz.func284 ?_;refine a4P ?_;refine d5W ?_;refine d3s ?_;refine cY b9s ?_;refine c9g ?_;refine T5 ?_;refine d5L ?_;refine b65 ?_;refine cC ?_ ?_ <;> intro h1
 ·refine K9 [E9 TW 0 1 a b (WR E ps en pn d),A1 tU8 b.length,.box (Ex.cells ⟨k,u,o,nm,o0 ch s⟩)] rfl ?_;refine a4P ?_;refine cY c6e ?_;refine de rfl c1E o7 (a1D a2u _ (b) (F2 _ _ _ _ _) 40 a5y ⟨rfl,rfl,n_2 rfl⟩) rfl ?_;intro _ _;refine c5 [E9 TW 0 3 true (b++[40]) (WR E ps en pn d),.dead,.box (Ex.cells ⟨k,u,o,nm,o0 ch s⟩),A1 tU8 (b++[40]).length] rfl ?_;refine c8 ?_;refine a0M ?_;refine cY a0v ?_;refine de rfl b27 ⟨tt,tt,rfl,tt,tt⟩ (hW (dp+1) true (b++[40]) d om_ om_ a5y _ 0 3 ⟨rfl,rfl,n_2 rfl⟩) rfl ?_;rintro d1 _;dsimp only;refine c5 [E9 TW 0 4 true (b++[40]++T) (WR E ps en pn d1),.dead,.box (Ex.cells ⟨k,u,o,nm,o0 ch s⟩),.dead,A1 tU8 (b++[40]++T).length] rfl ?_;refine L7 ?_;refine b6u ?_;refine de rfl c1E o7 (a1D a2u _ (b++[40]++T) (F2 _ _ _ _ _) 41 a5y ⟨rfl,rfl,n_2 rfl⟩) rfl ?_;intro _ _;refine a1n ?_;exact ⟨_,j9 (rs:=[]) (cs:=[]) rfl tt (n_2 rfl),⟨d1,(by simp only [<- n_8];exact b3H (k:=5) rfl rfl de_ (F2 _ _ _ _ _) a3e),tt⟩⟩
 ·exact absurd hpl (sp_ h1)
theorem a54 {np d:Nat}:∀ {l:List Tr} {m:Nat} {c:Tr},wfL np d l->l[m]? = some c->c.wf np d
 | [],_,_,_,h=>by simp at h
 | t::l,0,c,h,hc=>by rw [wfL] at h;injection hc with hc;subst hc;exact h.1
 | t::l,m+1,c,h,hc=>by rw [wfL] at h;exact a54 h.2 (sp_ hc)
theorem c9x (k o:Int):0<=a3m k o:=by
 unfold a3m
 split;decide
 split
 ·have:=b7b o;omega
 ·decide
theorem b7j {E:List Ex} {ps:List Str} {en pn:Bool} (hE:E.length<=1000000):∀ (n:Nat) (t:Tr) (s:Nat),t.size<=n->a8U E t s->(∃ d,t.wf ps.length d)->WEG E ps en pn t s (fun _=>True)
 | 0,t,_,h,_,_=>by have:=t.size_pos;omega
 | n+1,.n k u o nm ch,s,hsz,hAt,⟨dd,hw⟩=>by
  rw [Tr.wf] at hw;obtain ⟨_,hn,hwl⟩:=hw;have hI:∀ m c,ch[m]? = some c->WEG E ps en pn c (s+w8 (ch.take m)) (fun _=>True):=fun m c hc=>by
   have:=a22 hc;rw [Tr.size] at hsz;exact b7j hE n c _ om_ (hAt.child hc) ⟨_,a54 hwl hc⟩
  intro pl dp a b d _ hd0 hd hb σ q k' hσ;rw [Tr.size] at hd ⊢;rw [show s+(w8 ch+1) - 1=s+w8 ch by omega];rw [Tr.txt] at hb ⊢;by_cases hpl:a3m k o < pl
  ·rw [if_pos hpl] at hb ⊢;refine b2r (c4w hAt (ndT ps k u o nm (I2 ps ch (a0R k o))) pl dp hpl hd0 om_ a b d hb fun dp' a' b' d' h0 h1 h2 σ' q' k'' hσ'=>?_) σ q k' hσ;have hp0:=c9x k o;exact b2r (b30 hAt hn hE hI _ rfl 0 dp' om_ h0 h1 a' b' d' h2) σ' q' k'' hσ'
  ·rw [if_neg hpl] at hb ⊢;exact b2r (b30 hAt hn hE hI _ rfl pl dp hpl hd0 om_ a b d hb) σ q k' hσ
def b0q (cs:List Str):Nat:=(cs.map List.length).sum
theorem c5X (cs:List Str):(cs.getD 0 []).length+(cs.getD 1 []).length+(cs.getD 2 []).length<=b0q cs:=by
 rcases cs with _ | ⟨a,_ | ⟨b,_ | ⟨c,l⟩⟩⟩ <;> simp [b0q,List.getD] <;> omega
theorem a3p (sep:Str):∀ cs:List Str,(J3 sep cs).length<=b0q cs+sep.length*cs.length
 | []=>by simp [J3]
 | [x]=>by simp [J3,b0q]
 | x::y::l=>by
  have:=a3p sep (y::l);simp only [J3,n_5,b0q,b3h,List.sum_cons,n_7,Nat.mul_add] at this ⊢;omega
theorem c23 (hp:∀ s∈ps,s.length<=80) {c:Nat} (hn:U8 ps.length k u o nm c) (cs:List Str):(ndT ps k u o nm cs).length<=b0q cs+2*cs.length+290:=by
 have hg:=c5X cs;have hj:=a3p [44,32] cs;have hs:=c2x o;have hw:=b4N k;have hnm:=hn.len;have e2:([44,32]:Str).length=2:=rfl;rw [e2] at hj;unfold ndT
 split
 ·rename_i h1;have:=hn.k1 h1;have:=a4S (n:=u) om_ om_;omega
 split
 ·have:(ps.getD u.toNat []).length<=80:=by
   rw [a3o];cases hh:ps[u.toNat]? with
   | none=>exact n_3 _
   | some x=>exact hp x (n_0 hh)
  omega
 split
 ·simp only [n_5,n_7,I4];omega
 split
 ·simp only [n_5,n_7,I4];omega
 split
 ·simp only [n_5,n_7,I4];omega
 split
 ·simp only [n_5,n_7,I4];omega
 split
 ·rename_i h10;have:=hn.k10 h10;have:=a4S (n:=u) om_ om_;simp only [n_5,n_7,I4];omega
 ·simp only [n_5,n_7,I4];omega
mutual
theorem Tr.txt_len {ps:List Str} (hp:∀ s∈ps,s.length<=80):∀ (t:Tr) (d:Nat) (pl:Int),t.wf ps.length d->(t.txt ps pl).length+2<=300*t.size
 | .n k u o nm ch,d,pl,h=>by
  rw [Tr.wf] at h;have h1:=c23 hp h.2.1 (I2 ps ch (a0R k o));have h2:=a8P hp ch _ (a0R k o) h.2.2;rw [a5D] at h1;rw [Tr.txt,Tr.size];have:([40]++ndT ps k u o nm (I2 ps ch (a0R k o))++[41]:Str).length=(ndT ps k u o nm (I2 ps ch (a0R k o))).length+2:=by simp
  split
  ·rw [this];omega
  ·omega
theorem a8P {ps:List Str} (hp:∀ s∈ps,s.length<=80):∀ (l:List Tr) (d:Nat) (pls:List Int),wfL ps.length d l->b0q (I2 ps l pls)+2*l.length<=300*w8 l
 | [],_,_,_=>by simp [I2,b0q]
 | t::l,d,pls,h=>by
  rw [wfL] at h;have h1:=Tr.txt_len hp t d (pls.headD 0) h.1;have h2:=a8P hp l d pls.tail h.2;rw [I2,w8];simp only [b0q,b3h,List.sum_cons,n_7] at h2 ⊢;omega
end
theorem c5A (en pn:Bool) (hE:E.length<=1000000) (t:Tr) (ht:E=t.flat 0) (hw:∃ d,t.wf ps.length d) (hp:∀ s∈ps,s.length<=80):b8 CC 245 [(.list (E.map Ex.cv) en none),(.list (ps.map scv) pn none)] [] fun r τ=>∃ d:Int,a1e 0 τ r (.ret (.tup [sv (t.txt ps 0),iv d]))/\True:=by
 have hsz:E.length=t.size:=by rw [ht,Tr.flat_len]
 have hpos:=t.size_pos;have hAt:a8U E t 0:=⟨[],[],by rw [ht];simp,rfl⟩;obtain ⟨dd,hwd⟩:=hw;have htl:=t.txt_len hp dd 0 hwd;have hx:=b7j (en:=en) (pn:=pn) hE t.size t 0 (n_4 _) hAt ⟨dd,hwd⟩ 0 1 false [] 0 trivial om_ om_ (by simp only [I4];omega) ([E9 TW 0 1 false [] (WR E ps en pn 0)]++[.dead]) 0 1 ⟨rfl,rfl,n_2 rfl⟩;replace hx:=a0a hx;rw [show ((0+t.size - 1:Nat):Int)=(E.length:Int) - 1 by omega] at hx;simp only [a7t] at hx;refine cO Tryz.func245 ?_;refine z_0 ?_;refine a4W ?_;refine z_5 ?_;refine cY (A9 #[(0,2),(2,1),(3,1),(4,1)] rfl i7 c0t Tryz.zeroValue309 rfl ⟨_,rfl⟩ (fun w=>by kernel_rfl) rfl rfl) ?_;refine cD (d7S rfl tt c4 p8 ?_);refine a7L ?_;refine cY b1P ?_;refine cY a24 ?_;refine dc rfl b27 ⟨tt,tt,rfl,rfl,tt⟩ (hx) ?_;rintro d1 _;dsimp only;refine z_9 ?_;refine cF [] [] [0,1,2,4,5,6,7,3,8,9] 7 [[3,4,5,6],[3,4,5,6],[]] trivial ?_;refine a6N ?_;refine chf rfl c7N ?_;refine a6N ?_;refine chf rfl (c7 rfl b7d) ?_;refine chf rfl b1m ?_;refine F9 ?_;refine A6 rfl rfl rfl rfl (C1 rfl b66 ⟨tt,tt⟩ (a3h (rest:=WR E ps en pn d1) (T:=TW) (F2 _ _ _ _ _) true _ (q:=0) (k:=2) ⟨rfl,rfl,n_2 rfl⟩) rfl ?_);intro _ _;refine ⟨⟨E8,a2k,(by exact c7 rfl b7d),b1k,tt⟩,?_⟩;refine D9 rfl rfl rfl c7r ⟨⟨E8,a2k,(by exact c7 rfl b7d),b1k,tt⟩,?_⟩;refine b1R ?_;exact ⟨_,j9 (rs:=[.tmp 4,.tmp 5]) (cs:=[_,_]) rfl S6 (n_2 rfl),⟨d1,.ret (.old (B9 (cs:=[sv (t.txt ps 0),iv d1]) ⟨.val _,.val _,tt⟩).old),tt⟩⟩
theorem c9h (en pn:Bool) (hE:E.length<=1000000) (t:Tr) (ht:E=t.flat 0) (hw:∃ d,t.wf ps.length d) (hp:∀ s∈ps,s.length<=80) (σ:List b9):b8 CC 245 [(.list (E.map Ex.cv) en none),(.list (ps.map scv) pn none)] σ fun r τ=>∃ d:Int,r = .ret (.tup [sv (t.txt ps 0),iv d])/\τ=σ/\True :=
 F6 (res:=fun d:Int=>.ret (.tup [sv (t.txt ps 0),iv d])) (P:=fun _=>True) hCC (fun c hc=>by simp at hc;rcases hc with rfl | rfl;exact a0t _ _;exact C2 _ _) (c5A en pn hE t ht hw hp) (fun d _=>B9 ⟨.val _,.val _,tt⟩) σ
abbrev tSB:Nat:=244
theorem a5C:a5g tSB 2:=by unfold a5g;kernel_rfl
def d7y (T:TypeId) (rest:List CV):List b9:=[.boxT (some T) (.ptr 0 0::.list [] true (some 2)::rest),.dead,.tipT (some tU8) 0]
theorem d0X {c:CV} {obs:List b9}:b8 CC 246 [.ptr 0 0] (.boxT (some T) (.ptr 0 0::c::rest)::obs) fun r τ=>∃ _:Unit,r = .ret (.tup [])/\τ = .boxT (some T) (.ptr 0 0::c::rest)::obs/\True:=by
 refine cO c8l ?_;refine a4P ?_;refine b8l ?_;refine cY (b8r rfl tt rfl c8m) ?_;refine c8 ?_;refine cC ?_ ?_ <;> intro h1
 ·cases h1
 ·refine a4P ?_;refine b8l ?_;refine cY j1 ?_;refine cY (b4D rfl tt tt rfl rfl 244 C6 C6) ?_;refine c8 ?_;refine cC ?_ ?_ <;> intro h2
  ·cases h2
  ·refine c9 ?_;exact ⟨_,j9 (rs:=[]) (cs:=[]) rfl tt (n_2 rfl),⟨(),rfl,rfl,tt⟩⟩
theorem d2N (n:Nat) (h1:1<=n) (h2:n<=1000000000):b8 CC 286 [.ptr 0 0,iv n] [.boxT (some T) (.ptr 0 0::.list [] false none::rest),.dead] fun r τ=>∃ _:Unit,r = .ret (.tup [])/\τ=d7y T rest/\True:=by
 refine cO Tryz.func286 ?_;refine A5 ?_;refine cF [] [] [0,1,2,3,4,5,6,7,9,10,11,12,13,8,14,15] 13 [[8,9,10,11,12],[],[]] trivial ?_;refine a6N ?_;refine chf rfl (c7 rfl a8B) ?_;refine chf rfl (c7 rfl a90) ?_;refine chf rfl (c7 rfl (c9U rfl tt rfl t_7)) ?_;refine chf rfl (c7 rfl (b7M rfl rfl tt rfl rfl om_ om_)) ?_;refine chf rfl W9 ?_;refine chf rfl (c7 rfl a4s) ?_;refine a6N ?_;refine chf rfl (c7 rfl a8B) ?_;refine chf rfl (c7 rfl a90) ?_;refine chf rfl (c7 rfl a9r) ?_;refine F9 ?_;refine A6 rfl rfl rfl rfl (b5R (t:=149) (e:=5) rfl Tryz.func308 rfl rfl rfl rfl C6 tt (congrArg (fun z:Int=>iv z) (show (2*0+(n:Int))=n by omega)) om_ ?_);refine ⟨⟨E8,a2k,(by exact c7 rfl a8B),(by exact c7 rfl a90),(by exact c7 rfl a9r),tt⟩,?_⟩;refine D9 rfl rfl rfl (c7 rfl (b7G rfl tt tt rfl rfl h1 t_7 t_9)) ⟨tt,?_⟩;refine c0w ?_;refine z_5 ?_;refine cY K2 ?_;refine cY a8B ?_;refine cY a90 ?_;refine cD (d2x rfl tt tt rfl rfl t_7 t_9 ?_);refine c8 ?_;refine X0 ?_;refine cY K2 ?_;refine c17 ?_;exact d5H
theorem d2n (hT:a5g T (rest.length+2)) (n:Nat) (hn1:1<=n) (hn2:n<=1000000000):b8 CC 247 [.ptr 0 0,iv n] (bSt T false [] rest) fun r τ=>∃ _:Unit,r = .ret (.tup [])/\τ=d7y T rest/\True:=by
 refine cO Tryz.func247 ?_;refine z_2 ?_;refine dc rfl c2c ⟨tt,tt⟩ (b5D hT false []) ?_;intro _ _;refine z_9 ?_;refine a3F ?_;refine cC ?_ ?_ <;> intro h1
 ·exact absurd (of_decide_eq_true h1) om_
 ·refine z_8 ?_;refine cW 13 ?_;refine a5d ?_;refine b3D ?_;refine hY (c9U rfl tt rfl t_7) ?_;refine a5d ?_;refine b3D ?_;refine hY a9r ?_;refine hY (b1v rfl tt tt rfl rfl si_ si_) ?_;refine hY j1 ?_;refine hY a5P ?_;refine a4L ?_;refine cC ?_ ?_ <;> intro h2
  ·refine X0 ?_;refine dc rfl Tryz.call286 i7 (d2N n hn1 hn2) ?_;intro _ _;exact d5H
  ·exact absurd (of_decide_eq_false h2) (by show ¬ ¬ (0 - 0:Int) < n;omega)
theorem b0o (s:Str) (hs:s≠[]) (hl:s.length<=140737488355328):b8 CC 200 [.ptr 0 0,sv s] (d7y T rest) fun r τ=>∃ _:Unit,r = .ret (.tup [iv s.length,.val .nilIface])/\τ=[E9 T 0 3 true s rest,.dead,.dead,A1 tU8 s.length]/\True:=by
 refine cO Tryz.func200 ?_;refine z_0 ?_;refine a4W ?_;refine z_2 ?_;refine dc rfl c2c ⟨tt,tt⟩ (d0X) ?_;intro _ _;refine b2a ?_;refine cY K2 ?_;refine cY a8B ?_;refine cY a90 ?_;refine cY j1 ?_;refine cD (d1B (new:=s) (p:=2) rfl tt tt rfl (b5m rfl) t_7 t_9 b1V a4N rfl (.inr t_5) rfl rfl hs a9u ?_);refine cY K2 ?_;refine c17 ?_;refine L7 ?_;refine cY X5 ?_;exact d4k
theorem d2d {a:Int} (hb:0 < b) (h1:0<=a) (h2:a<=9223372036854775807):a84 .quo .i64 a b=some (.int .i64 (a.tdiv b)):=by
 have hne:b≠0:=by omega
 have h0:0<=a.tdiv b:=Int.tdiv_nonneg h1 om_;have h3:a.tdiv b<=a:=by rw [c1A h1];exact Int.ediv_le_self b h1
 simp only [a84,if_neg hne];rw [b0g om_ om_]
theorem d0J {sep:Str} {n:Int} (hs2:sep.length=2) (h1:0 < n) (h2:n<=1000):¬ (9223372036854775807:Int).tdiv n<=(sep.length:Int):=by
 rw [hs2,c1A de_];have:=Int.le_ediv_of_mul_le h1 (show 1000000*n<=9223372036854775807 by omega);omega
theorem List.take_one_eq {l:List α} {x:α} (h:l[0]? = some x):l.take (0+1)=[x]:=by
 cases l with
 | nil=>simp at h
 | cons a l=>simp at h;subst h;rfl
theorem b1G {sep:Str} {l:List Str} (hs:sep.length=2) (hl:∀ s∈l,1<=s.length/\s.length<=1000):∀ m,(F4 sep l m).length<=m*1002
 | 0=>by simp [F4,J3]
 | m+1=>by
  have ih:=b1G (sep:=sep) (l:=l) hs hl m;cases hg:l[m]? with
  | none =>
   have:l.length<=m:=sp_ hg;have e:F4 sep l (m+1)=F4 sep l m:=by unfold F4;rw [U3 (show l.length<=m+1 by omega),U3 (show l.length<=m by omega)]
   rw [e];exact Nat.le_trans ih (R9 _ (Nat.le_succ m))
  | some y =>
   have:=(hl y (n_0 hg)).2;rw [Y5 hg,n_5,n_5]
   split
   ·simp;omega
   ·omega
theorem b10 (l:List Str) (nn:Bool) (sep:Str) (hs2:sep.length=2) (hl:l.length<=1000) (hl2:∀ s∈l,1<=s.length/\s.length<=1000) (σ:List b9):b8 CC 201 [(.list (l.map scv) nn none),(sv sep)] σ fun r σ'=>r = .ret (sv (J3 sep l))/\σ'=σ:=by
 refine an_ Tryz.func201 ?_;refine Q7 ?_;refine cY a0K ?_;refine a2m ?_;refine cC ?_ ?_ <;> intro h1
 ·have h0:l=[]:=sp_ h1;refine I0 ?_;exact ⟨_,j2 rfl tt c4,_,_,rfl,rfl,D4 (by rw [h0];rfl)⟩
 ·have h1':¬ l.length=0:=by simp at h1;simpa using h1
  refine D6 ?_;refine cC ?_ ?_ <;> intro h2
  ·have h1l:l.length=1:=sm_ h2;obtain ⟨e0,he0⟩:∃ e0,l=[e0]:=by
    rcases l with _ | ⟨a,_ | ⟨b,l⟩⟩
    ·simp at h1l
    ·exact ⟨a,rfl⟩
    ·simp at h1l
   have g0:l[0]? = some e0:=by rw [he0];rfl
   refine z_2 ?_;refine d6u ?_;refine z_7 ?_;exact ⟨_,j2 rfl tt c4,_,_,rfl,rfl,D4 (by rw [he0];rfl)⟩
  ·have h2l:2<=l.length:=by
    have:¬ (l.length:Int)=1:=sp_ h2;omega
   refine c9 ?_;refine z_6 ?_;refine K8 hCC (α:=Nat) (fun n=>[(0,(.list (l.map scv) nn none)),(1,(sv sep)),(5,iv n)]) (fun _=>[]) (fun n=>1<=n/\n<=2000) r5 uz_ ?_ ?_
   ·
    refine z_2 ?_;refine b1D ?_;refine cC ?_ ?_ <;> intro h3
    ·refine a1z ?_;refine b38 ?_;refine cY a0K ?_;refine cY a24 ?_;refine cY (a08 rfl rfl tt rfl rfl (d2d om_ om_ om_)) ?_;refine a7N ?_;refine cC ?_ ?_ <;> intro h4
     ·exact absurd (of_decide_eq_true h4) (d0J hs2 om_ om_)
     ·have hmm:(sep.length:Int)*((l.length:Int) - 1)=2*((l.length:Int) - 1):=by rw [hs2];rfl
      refine a9p ?_;refine b38 ?_;refine cY a0K ?_;refine cY a24 ?_;refine cY (b7M rfl tt tt rfl rfl (by rw [hmm];omega) (by rw [hmm];omega)) ?_;refine cY a4s ?_;refine z_1 ?_;exact ⟨(2*(l.length - 1)),_,⟨om_,om_⟩,⟨m0,m0,⟨tt,(congrArg (fun z:Int=>iv z) (show (0+(sep.length:Int)*((l.length:Int) - 1))=((2*(l.length - 1):Nat):Int) by rw [hmm];omega))⟩,tt⟩,rfl⟩
    ·exact absurd (of_decide_eq_false h3) (by show ¬ ¬ (0:Int) < sep.length;rw [hs2];decide)
   ·intro n ⟨hn1,hn2⟩;refine a1z ?_;refine a1i ?_;refine j5 hCC (α:=Nat × Nat) (fun x=>[(0,(.list (l.map scv) nn none)),(1,(sv sep)),(5,iv x.2),(39,(.list (l.map scv) nn none)),(40,iv l.length),(41,iv x.1)]) (fun _=>[]) (fun x=>x.1<=l.length/\1<=x.2/\x.2<=2000+1000*x.1) (fun x=>l.length - x.1) (0,n) ⟨n_3 _,hn1,om_⟩ tu_ (extra0:=[]) rfl r5 uz_ ?_;intro ⟨i,n'⟩ ⟨hi,hn1',hn2'⟩;dsimp only at hi hn1' hn2' ⊢;refine C9 ?_;refine cC ?_ ?_ <;> intro h5
    ·have hlt:i < l.length:=sm_ h5;obtain ⟨y,hy⟩:∃ y,l[i]? = some y:=⟨l[i]'hlt,si_⟩;have hyl:=hl2 y (n_0 hy);refine W7 ?_;refine b6I ?_;refine a4y ?_;refine b38 ?_;refine cY (b1v rfl rfl tt rfl rfl om_ om_) ?_;refine a7N ?_;refine cC ?_ ?_ <;> intro h6
     ·exact absurd (of_decide_eq_true h6) om_
     ·refine a9p ?_;refine cY X5 ?_;refine cY a4s ?_;refine a1j ?_;exact ⟨(i+1,n'+y.length),_,⟨do_,do_,do_,do_⟩,tu_,rfl⟩
    ·have hie:i=l.length:=sm_ h5;obtain ⟨e0,g0⟩:=gx_ l 0;have he0:=hl2 e0 (n_0 g0);refine U9 ?_;refine cD (b8I rfl Tryz.zeroValue244 rfl p8 ?_);refine L7 ?_;refine de rfl Tryz.call247 i7 ((a0a (d2n a5C n' hn1' om_))) rfl ?_;intro _ _;refine L7 ?_;refine d6u ?_;refine de rfl a2N i7 (b0o e0 (by intro h;rw [h] at he0;simp at he0) om_) rfl ?_;intro _ _;refine a9l ?_;refine cY (a3R (l:=1) rfl tt rfl t_1 t_0 b2v ⟨rfl,_,_,rfl,om_,om_⟩ rfl a9q si_) ?_;refine a1i ?_;refine B2 hCC 4 rfl (α:=Nat × Bool) (fun x=>[(1,(sv sep)),(8,.ptr 0 0),(63,(.list ((l.drop 1).map scv) nn none)),(64,(iv ((l.length - 1:Nat):Int))),(65,iv x.1)]) (fun x=>[E9 tSB 0 (kp x.2) true (F4 sep l (x.1+1)) [],.dead,.dead,op1 x.2 (F4 sep l (x.1+1)).length,op2 x.2 (F4 sep l (x.1+1)).length]) (fun x=>x.1+1<=l.length) (fun x=>l.length - x.1) ⟨(0,false),[0,1,2,3,7],(show 0+1<=l.length by omega),⟨rfl,rfl⟩,⟨a1g,a1g,⟨tt,(by first|exact ur_|exact .same (show CV.list (((l.map scv).take (l.map scv).length).drop 1) nn none=_ from by rw [U3 (n_4 _),List.map_drop]) uo_)⟩,⟨tt,(by first|exact ur_|exact .same (show (iv ((((l.map scv).take (l.map scv).length).drop 1).length:Int))=_ from by simp) uo_)⟩,a1g,tt⟩,⟨.inr ⟨_,rfl,a6Y de_ rfl (fun c hc=>by cases hc) (by rw [F4,List.take_one_eq g0];rfl)⟩,.inl rfl,.inl rfl,.inr ⟨_,rfl,T1 (by rw [F4,List.take_one_eq g0];rfl)⟩,.inl rfl,tt⟩⟩ ?_;intro ⟨m,ph⟩ hm;dsimp only at hm ⊢;refine C9 ?_;refine cC ?_ ?_ <;> intro h7
     ·have hlt:m+1 < l.length:=sm_ h7;obtain ⟨y,hy⟩:∃ y,l[m+1]? = some y:=⟨l[m+1]'hlt,si_⟩;have hyl:=hl2 y (n_0 hy);have hy':(l.drop 1)[m]? = some y:=by rw [a66,b3k];exact hy
      have es:=Y5 (sep:=sep) hy;rw [if_neg om_] at es;have hjl:=b1G (sep:=sep) (l:=l) hs2 hl2 (m+1);have hjl2:(m+1)*1002<=1000*1002:=R9 _ om_;refine W7 ?_;refine cY (r8 rfl tt tt rfl rfl t_1 t_0 om_ (j3 hy') rfl) ?_;refine cY U1 ?_;refine O0 ?_;refine de rfl a2N i7 (w9 a5C _ (F4 sep l (m+1)) (fun c hc=>by cases hc) sep om_ (σ:=_) (q:=0) (k:=kp ph) ⟨rfl,by cases ph <;> rfl,by cases ph <;> exact n_2 rfl⟩) rfl ?_;intro _ _;refine c5 [E9 tSB 0 5 true (F4 sep l (m+1)++sep) [],.dead,.dead,.dead,.dead,A1 tU8 (F4 sep l (m+1)++sep).length] N8 ?_;refine b1y ?_;refine de rfl a2N i7 (w9 a5C _ (F4 sep l (m+1)++sep) (fun c hc=>by cases hc) y (by rw [L9];omega) (q:=0) (k:=5) ⟨rfl,rfl,n_2 rfl⟩) rfl ?_;intro _ _;refine c5 [E9 tSB 0 6 true (F4 sep l (m+1)++sep++y) [],.dead,.dead,.dead,.dead,.dead,A1 tU8 (F4 sep l (m+1)++sep++y).length] rfl ?_;refine a5e ?_;exact ⟨(m+1,true),[0,1,2,3,6],(show l.length - (m+1) < l.length - m/\m+1+1<=l.length from ⟨om_,om_⟩),⟨rfl,rfl⟩,ut_,⟨.inr ⟨_,rfl,a6Y de_ rfl (fun c hc=>by cases hc) es.symm⟩,.inl rfl,.inl rfl,.inl rfl,.inr ⟨_,rfl,T1 es.symm⟩,tt⟩⟩
     ·have hme:m+1=l.length:=sm_ h7;refine U9 ?_;refine de rfl b66 ⟨tt,tt⟩ (a3h (rest:=[]) (T:=tSB) (fun c hc=>by cases hc) true (F4 sep l (m+1)) (q:=0) (k:=kp ph) ⟨rfl,by cases ph <;> rfl,by cases ph <;> exact n_2 rfl⟩) rfl ?_;intro _ _;refine z_7 ?_;exact ⟨_,j2 rfl tt c4,_,_,rfl,rfl,D4 (by rw [hme,F4,U3 (n_4 _)])⟩
open Classical in
noncomputable def U7 (d:De):Str:=if h:∃ t:Tr,d.body=t.flat 0/\t.wf d.params.length 1 then h.choose.txt d.params 0 else []
theorem a8d (h:DeG d):∃ t:Tr,d.body=t.flat 0/\t.wf d.params.length 1/\U7 d=t.txt d.params 0:=by
 refine ⟨h.tree.choose,h.tree.choose_spec.1,h.tree.choose_spec.2,?_⟩;unfold U7;rw [dif_pos h.tree]
theorem b4k (h:DeG d):∀ s∈d.params,s.length<=80:=fun s hs=>by have:=B4 (h.par s hs).1;omega
theorem a9b (h:DeG d):(U7 d).length<=76800:=by
 obtain ⟨t,h1,h2,h3⟩:=a8d h;have:=t.txt_len (b4k h) 1 0 h2;have hb:=h.blen;rw [h1,Tr.flat_len] at hb;rw [h3];omega
def d6U (d:De):Src:=⟨[112],[],[⟨1,[102],d.params,d.body⟩]⟩
theorem d2S (h:DeG d):a3z (d6U d) where
 pkg:=by show C8 [112]=true/\P5 [112]=false;decide
 imp:=fun s hs=>by cases hs
 impl:=n_3 _
 impn:=List.nodup_nil
 impp:=fun h=>by cases h
 dec:=fun e he=>by
  simp only [d6U,R5,b2M,or_false] at he;subst he;exact { kind:=.inl rfl,name:=fun _=>by (show C8 [102]=true/\P5 [102]=false);decide,path:=fun hk=>absurd (show (1:Int)=3 from hk) de_,pars:=fun hk=>absurd rfl hk,par:=h.par,parl:=h.parl,nod:=h.nod,tree:=h.tree,blen:=h.blen}
 decl:=by show 1<=64;decide
 decn:=by show (List.map _ [_]).Nodup;simp
theorem c4s (d:De) (h:DeG d) (σ:List b9):b8 CC 199 [(.list (d.body.map Ex.cv) (gnn d.body.length) none),(.list (d.params.map scv) (gnn d.params.length) none)] σ fun r σ'=>r = .ret (.tup [sv (U7 d),(iv (0))])/\σ'=σ:=by
 refine an_ Tryz.func199 ?_;refine z_0 ?_;refine a4W ?_;refine a1Q ?_;refine cY (A9 #[(0,1),(1,1),(2,1),(3,1)] rfl ⟨rfl,rfl,tt,tt,tt⟩ b1n b02 rfl ⟨_,rfl⟩ (fun w=>by kernel_rfl) rfl rfl) ?_;refine cY (A2 ([(⟨1,[102],d.params,d.body⟩:De)].map De.cv) rfl ⟨tt,tt⟩ b2w a68 b02 rfl rfl rfl rfl rfl rfl rfl rfl rfl) ?_;refine cY (A9 #[(0,1),(1,1),(2,1)] rfl ⟨rfl,tt,tt⟩ a8x a5h rfl ⟨_,rfl⟩ (fun w=>by kernel_rfl) rfl rfl) ?_;refine yc rfl Tryz.call198 ⟨tt,tt⟩ (b1Z (d6U d) (d2S h) _) ?_;refine O0 ?_;refine O1 ?_;refine cC ?_ ?_ <;> intro h1
 ·cases h1
 ·obtain ⟨t,ht1,ht2,ht3⟩:=a8d h;refine a95 ?_;refine de rfl Tryz.call245 i7 (c9h (gnn d.body.length) (gnn d.params.length) (by have:=h.blen;omega) t ht1 ⟨1,ht2⟩ (b4k h) _) rfl ?_;rintro dd _;dsimp only;rw [<- ht3];refine b1C ?_;refine a9t ?_;refine a4m ?_;exact ⟨_,j9 (rs:=[.tmp 4,.tmp 5]) (cs:=[_,_]) rfl S6 (n_2 rfl),_,_,rfl,rfl,(.old (B9 (cs:=[sv (U7 d),iv 0]) ⟨.val _,.val _,tt⟩).old)⟩
def Q2 (l:List Str):Str:=(l.map fun s=>[105,109,112,111,114,116,32]++s++[59,10]).flatten
theorem b4I {l:List Str} {s:Str} (h:l[m]? = some s):Q2 (l.take (m+1))=Q2 (l.take m)++([105,109,112,111,114,116,32]++s++[59,10]):=by
 unfold Q2;rw [a4F,h];simp
def a4U (d:De):Str:=if d.k=1 then [102,117,110,99,32]++d.name++[40]++J3 [44,32] d.params++[41,32,61,32] else if d.k=2 then [116,101,115,116,32]++d.name++[32,61,32] else [103,101,110,32,34]++d.name++[34,32,61,32]
noncomputable def a0D (x:Src) (d:De):Str:=([112,97,99,107,97,103,101,32]++x.pkg++[59,10])++Q2 x.imports++a4U d++(U7 d++[59,10])
theorem a8g {l:List Str} (h:∀ s∈l,s.length<=80):∀ m,(Q2 (l.take m)).length<=100*m
 | 0=>by simp [Q2]
 | m+1=>by
  have ih:=a8g h m;cases hg:l[m]? with
  | none =>
   have:l.length<=m:=sp_ hg;rw [U3 (show l.length<=m+1 by omega)];rw [U3 this] at ih;omega
  | some y =>
   have:=h y (n_0 hg);rw [b4I hg];simp only [n_5,n_7,I4];omega
theorem b6b {l:List Str} {k:Nat} (h:∀ s∈l,s.length<=k):b0q l<=k*l.length:=by
 induction l with
 | nil=>simp [b0q]
 | cons x l ih =>
  have h1:=h x si_;have h2:=ih fun s hs=>h s (by simp [hs]);simp only [b0q,b3h,List.sum_cons,n_7,Nat.mul_add] at h2 ⊢;omega
theorem De.name_len (h:DeG d):d.name.length<=80:=by
 by_cases h3:d.k=3
 ·exact L1 (h.path h3)
 ·have:=B4 (h.name h3).1;omega
def kpn (a:Nat) (ph:Bool):Nat:=match ph with | false=>a | true=>a+1
theorem c1z {L:Nat} {q s':Nat} (hL:q < L) (hs:sel[s']? = some s) (hr:∀ c∈rest,r9 c) (he:l=l'):b2y L sel (E9 T q s a l rest) (E9 T q s' a l' rest):=by
 subst he;refine .box ⟨?_,.list (fun r hr c hc=>(a1H l r hr c hc).old) (fun j hj=>?_),?_⟩
 ·cases a
  ·exact .old (.val _)
  ·exact .old (.ptr hL)
 ·cases hb:l.length with
  | zero=>rw [hb] at hj;cases hj
  | succ m=>rw [hb] at hj;injection hj with hj;subst hj;exact ⟨s,rfl,hs⟩
 ·have:∀ l:List CV,(∀ c∈l,r9 c)->b5g L l:=fun l=>by
   induction l with
   | nil=>intro _;trivial
   | cons x l ih=>intro h;exact ⟨(h x si_).old,ih fun c hc=>h c (by simp [hc])⟩
  exact a8c (this rest hr)
theorem c36 {s:Str} (h:C8 s=true):1<=s.length:=by
 cases s with
 | nil=>simp [C8] at h
 | cons a l=>simp
theorem c5J (x:Src) (h:a3z x) (i:Nat) (d:De) (hx:x.decls[i]? = some d) (hd:DeG d) (hi:i < x.decls.length) (σ:List b9):b8 CC 156 [.agg x.cells,iv i] σ fun r σ'=>r = .ret (.tup [sv (a0D x d),(iv (0))])/\σ'=σ:=by
 refine an_ Tryz.func156 ?_;refine a65 ?_;refine b18 ?_;refine cY a75 ?_;refine yc rfl Tryz.call198 ⟨tt,tt⟩ (b1Z x h _) ?_;refine O0 ?_;refine O1 ?_;refine cC ?_ ?_ <;> intro h1
 ·cases h1
 ·refine a5L ?_;refine a1h ?_;refine cG c2L ?_;refine cG c29 ?_;refine cG c3D ?_;refine a6v ?_;refine cC ?_ ?_ <;> intro h2
  ·exact absurd h2 Q9
  ·have hdl:=De.name_len hd;have hbl:=a9b hd;have hpk:=B4 h.pkg.1;have himl:=h.impl;have him8:∀ s∈x.imports,s.length<=80:=fun s hs=>by have:=B4 (h.imp s hs).1;omega
   have hjl:=a3p [44,32] d.params;have hsl:=b6b (b4k hd);have hprl:=hd.parl;have e2:([44,32]:Str).length=2:=rfl;rw [e2] at hjl;refine a1d ?_;refine d4O ?_;refine cY j1 ?_;refine cY (r8 rfl tt tt rfl rfl b2w a68 om_ (j3 hx) rfl) ?_;refine cY b0K ?_;refine b5O ?_;refine S5 ?_;refine b3s ?_;refine a6p ?_;refine yc rfl Tryz.call199 i7 (c4s d hd _) ?_;refine a1T ?_;refine a2Q ?_;refine cC ?_ ?_ <;> intro h3
   ·cases h3
   ·refine a1d ?_;refine cD (b8I rfl Tryz.zeroValue244 rfl p8 ?_);refine S5 ?_;refine a7X ?_;refine cY b84 ?_;refine cY c4W ?_;refine de rfl a2N i7 ((a0a (w9 a5C false [] (fun c hc=>by cases hc) ([112,97,99,107,97,103,101,32]++x.pkg++[59,10]) a7K (q:=2) (k:=3) ⟨rfl,rfl,n_2 rfl⟩))) rfl ?_;intro _ _;refine c5 [.box x.cells,.box d.cells,E9 tSB 2 4 true (([112,97,99,107,97,103,101,32]++x.pkg++[59,10])) [],.dead,A1 tU8 (([112,97,99,107,97,103,101,32]++x.pkg++[59,10])).length] rfl ?_;refine T5 ?_;refine a4l ?_;refine a1i ?_;refine B2 hCC 5 rfl (α:=Nat × Bool) (fun x'=>[(7,.ptr 1 0),(8,(sv (U7 d))),(10,.ptr 2 0),(49,(.list (x.imports.map scv) (gnn x.imports.length) none)),(50,iv x.imports.length),(51,iv x'.1)]) (fun x'=>[.box x.cells,.box d.cells,E9 tSB 2 (kpn 4 x'.2) true (([112,97,99,107,97,103,101,32]++x.pkg++[59,10])++Q2 (x.imports.take x'.1)) [],.dead,op1 x'.2 (([112,97,99,107,97,103,101,32]++x.pkg++[59,10])++Q2 (x.imports.take x'.1)).length,op2 x'.2 (([112,97,99,107,97,103,101,32]++x.pkg++[59,10])++Q2 (x.imports.take x'.1)).length]) (fun x'=>x'.1<=x.imports.length) (fun x'=>x.imports.length - x'.1) ⟨(0,false),[0,1,2,3,4,9],(n_3 _),⟨rfl,rfl⟩,ut_,⟨.inr ⟨_,rfl,.same rfl (Src.old x _)⟩,.inr ⟨_,rfl,.same rfl (De.old d _)⟩,.inr ⟨_,rfl,c1z de_ rfl (fun c hc=>by cases hc) (a2q _).symm⟩,.inl rfl,.inr ⟨_,rfl,T1 (a2q _).symm⟩,.inl rfl,tt⟩⟩ ?_;intro ⟨m,ph⟩ hm;dsimp only at hm ⊢;have hil:=a8g him8 m;refine C9 ?_;refine cC ?_ ?_ <;> intro h4
    ·have hlt:m < x.imports.length:=sm_ h4;obtain ⟨y,hy⟩:∃ y,x.imports[m]? = some y:=⟨x.imports[m]'hlt,si_⟩;have hyl:=him8 y (n_0 hy);have es:=b4I hy;have ej:([112,97,99,107,97,103,101,32]++x.pkg++[59,10])++Q2 (x.imports.take m)++([105,109,112,111,114,116,32]++y++[59,10])=([112,97,99,107,97,103,101,32]++x.pkg++[59,10])++Q2 (x.imports.take (m+1)):=by rw [es];simp only [n_8]
     refine W7 ?_;refine b6I ?_;refine a9T ?_;refine cY b84 ?_;refine cY c4W ?_;refine de rfl a2N i7 (w9 a5C _ (([112,97,99,107,97,103,101,32]++x.pkg++[59,10])++Q2 (x.imports.take m)) (fun c hc=>by cases hc) ([105,109,112,111,114,116,32]++y++[59,10]) a7K (q:=2) (k:=kpn 4 ph) ⟨rfl,by cases ph <;> rfl,by cases ph <;> exact n_2 rfl⟩) rfl ?_;intro _ _;refine c5 [.box x.cells,.box d.cells,E9 tSB 2 6 true (([112,97,99,107,97,103,101,32]++x.pkg++[59,10])++Q2 (x.imports.take m)++([105,109,112,111,114,116,32]++y++[59,10])) [],.dead,.dead,.dead,A1 tU8 (([112,97,99,107,97,103,101,32]++x.pkg++[59,10])++Q2 (x.imports.take m)++([105,109,112,111,114,116,32]++y++[59,10])).length] N8 ?_;refine a5e ?_;exact ⟨(m+1,true),[0,1,2,3,4,6],(show x.imports.length - (m+1) < x.imports.length - m/\m+1<=x.imports.length from ⟨om_,om_⟩),⟨rfl,rfl⟩,ut_,⟨.inr ⟨_,rfl,.same rfl (Src.old x _)⟩,.inr ⟨_,rfl,.same rfl (De.old d _)⟩,.inr ⟨_,rfl,c1z de_ rfl (fun c hc=>by cases hc) ej⟩,.inl rfl,.inl rfl,.inr ⟨_,rfl,T1 ej⟩,tt⟩⟩
    ·have hme:m=x.imports.length:=sm_ h4;rw [hme] at hil;have etk:x.imports.take m=x.imports:=by rw [hme];exact U3 (n_4 _)
     rw [etk];rw [<- hme,etk] at hil;refine a9O ?_;refine a4k ?_;refine a2m ?_;refine cC ?_ ?_ <;> intro h5
     ·have u5:d.k=1:=sp_ h5;refine cW 9 ?_;refine hY c3i ?_;refine hY V7 ?_;refine hY b84 ?_;refine hY c4W ?_;refine hY c5T ?_;refine hY a2D ?_;refine hY (j8 rfl Tryz.call201 o7 (b10 d.params _ [44,32] rfl om_ (fun s hs=>⟨c36 (hd.par s hs).1,by have:=b4k hd s hs;omega⟩) _) rfl) ?_;refine hY (I1 rfl tt tt rfl rfl a7K) ?_;refine hY c4W ?_;refine P8 ?_;refine de rfl a2N i7 (w9 a5C _ (([112,97,99,107,97,103,101,32]++x.pkg++[59,10])++Q2 x.imports) (fun c hc=>by cases hc) ([102,117,110,99,32]++d.name++[40]++J3 [44,32] d.params++[41,32,61,32]) a7K (q:=2) (k:=kpn 4 ph) ⟨rfl,by cases ph <;> rfl,by cases ph <;> exact n_2 rfl⟩) rfl ?_;intro _ _;refine c5 [.box x.cells,.box d.cells,E9 tSB 2 6 true (([112,97,99,107,97,103,101,32]++x.pkg++[59,10])++Q2 x.imports++([102,117,110,99,32]++d.name++[40]++J3 [44,32] d.params++[41,32,61,32])) [],.dead,.dead,.dead,A1 tU8 (([112,97,99,107,97,103,101,32]++x.pkg++[59,10])++Q2 x.imports++([102,117,110,99,32]++d.name++[40]++J3 [44,32] d.params++[41,32,61,32])).length] N8 ?_;refine L7 ?_;refine cY c7I ?_;refine de rfl a2N i7 (w9 a5C _ (([112,97,99,107,97,103,101,32]++x.pkg++[59,10])++Q2 x.imports++([102,117,110,99,32]++d.name++[40]++J3 [44,32] d.params++[41,32,61,32])) (fun c hc=>by cases hc) (U7 d++[59,10]) a7K (q:=2) (k:=6) ⟨rfl,rfl,n_2 rfl⟩) rfl ?_;intro _ _;refine c5 [.box x.cells,.box d.cells,E9 tSB 2 7 true (([112,97,99,107,97,103,101,32]++x.pkg++[59,10])++Q2 x.imports++([102,117,110,99,32]++d.name++[40]++J3 [44,32] d.params++[41,32,61,32])++(U7 d++[59,10])) [],.dead,.dead,.dead,.dead,A1 tU8 (([112,97,99,107,97,103,101,32]++x.pkg++[59,10])++Q2 x.imports++([102,117,110,99,32]++d.name++[40]++J3 [44,32] d.params++[41,32,61,32])++(U7 d++[59,10])).length] rfl ?_;refine S5 ?_;refine de rfl b66 ⟨tt,tt⟩ (a3h (rest:=[]) (T:=tSB) (fun c hc=>by cases hc) true (([112,97,99,107,97,103,101,32]++x.pkg++[59,10])++Q2 x.imports++([102,117,110,99,32]++d.name++[40]++J3 [44,32] d.params++[41,32,61,32])++(U7 d++[59,10])) (q:=2) (k:=7) ⟨rfl,rfl,n_2 rfl⟩) rfl ?_;intro _ _;refine a4m ?_;exact ⟨_,j9 (rs:=[.tmp 4,.tmp 5]) (cs:=[_,_]) rfl S6 (n_2 rfl),_,_,rfl,rfl,(by rw [a0D];rw [a4U,if_pos u5];exact .old (B9 (cs:=[sv _,iv 0]) ⟨.val _,.val _,tt⟩).old)⟩
     ·have u5:¬ d.k=1:=sp_ h5;refine D6 ?_;refine cC ?_ ?_ <;> intro h6
      ·have u6:d.k=2:=sp_ h6;refine r3 ?_;refine a6M ?_;refine cY b84 ?_;refine cY c4W ?_;refine de rfl a2N i7 (w9 a5C _ (([112,97,99,107,97,103,101,32]++x.pkg++[59,10])++Q2 x.imports) (fun c hc=>by cases hc) ([116,101,115,116,32]++d.name++[32,61,32]) a7K (q:=2) (k:=kpn 4 ph) ⟨rfl,by cases ph <;> rfl,by cases ph <;> exact n_2 rfl⟩) rfl ?_;intro _ _;refine c5 [.box x.cells,.box d.cells,E9 tSB 2 6 true (([112,97,99,107,97,103,101,32]++x.pkg++[59,10])++Q2 x.imports++([116,101,115,116,32]++d.name++[32,61,32])) [],.dead,.dead,.dead,A1 tU8 (([112,97,99,107,97,103,101,32]++x.pkg++[59,10])++Q2 x.imports++([116,101,115,116,32]++d.name++[32,61,32])).length] N8 ?_;refine L7 ?_;refine cY c7I ?_;refine de rfl a2N i7 (w9 a5C _ (([112,97,99,107,97,103,101,32]++x.pkg++[59,10])++Q2 x.imports++([116,101,115,116,32]++d.name++[32,61,32])) (fun c hc=>by cases hc) (U7 d++[59,10]) a7K (q:=2) (k:=6) ⟨rfl,rfl,n_2 rfl⟩) rfl ?_;intro _ _;refine c5 [.box x.cells,.box d.cells,E9 tSB 2 7 true (([112,97,99,107,97,103,101,32]++x.pkg++[59,10])++Q2 x.imports++([116,101,115,116,32]++d.name++[32,61,32])++(U7 d++[59,10])) [],.dead,.dead,.dead,.dead,A1 tU8 (([112,97,99,107,97,103,101,32]++x.pkg++[59,10])++Q2 x.imports++([116,101,115,116,32]++d.name++[32,61,32])++(U7 d++[59,10])).length] rfl ?_;refine S5 ?_;refine de rfl b66 ⟨tt,tt⟩ (a3h (rest:=[]) (T:=tSB) (fun c hc=>by cases hc) true (([112,97,99,107,97,103,101,32]++x.pkg++[59,10])++Q2 x.imports++([116,101,115,116,32]++d.name++[32,61,32])++(U7 d++[59,10])) (q:=2) (k:=7) ⟨rfl,rfl,n_2 rfl⟩) rfl ?_;intro _ _;refine a4m ?_;exact ⟨_,j9 (rs:=[.tmp 4,.tmp 5]) (cs:=[_,_]) rfl S6 (n_2 rfl),_,_,rfl,rfl,(by rw [a0D];rw [a4U,if_neg u5,if_pos u6];exact .old (B9 (cs:=[sv _,iv 0]) ⟨.val _,.val _,tt⟩).old)⟩
      ·have u6:¬ d.k=2:=sp_ h6;refine r3 ?_;refine a6M ?_;refine cY b84 ?_;refine cY c4W ?_;refine de rfl a2N i7 (w9 a5C _ (([112,97,99,107,97,103,101,32]++x.pkg++[59,10])++Q2 x.imports) (fun c hc=>by cases hc) ([103,101,110,32,34]++d.name++[34,32,61,32]) a7K (q:=2) (k:=kpn 4 ph) ⟨rfl,by cases ph <;> rfl,by cases ph <;> exact n_2 rfl⟩) rfl ?_;intro _ _;refine c5 [.box x.cells,.box d.cells,E9 tSB 2 6 true (([112,97,99,107,97,103,101,32]++x.pkg++[59,10])++Q2 x.imports++([103,101,110,32,34]++d.name++[34,32,61,32])) [],.dead,.dead,.dead,A1 tU8 (([112,97,99,107,97,103,101,32]++x.pkg++[59,10])++Q2 x.imports++([103,101,110,32,34]++d.name++[34,32,61,32])).length] N8 ?_;refine L7 ?_;refine cY c7I ?_;refine de rfl a2N i7 (w9 a5C _ (([112,97,99,107,97,103,101,32]++x.pkg++[59,10])++Q2 x.imports++([103,101,110,32,34]++d.name++[34,32,61,32])) (fun c hc=>by cases hc) (U7 d++[59,10]) a7K (q:=2) (k:=6) ⟨rfl,rfl,n_2 rfl⟩) rfl ?_;intro _ _;refine c5 [.box x.cells,.box d.cells,E9 tSB 2 7 true (([112,97,99,107,97,103,101,32]++x.pkg++[59,10])++Q2 x.imports++([103,101,110,32,34]++d.name++[34,32,61,32])++(U7 d++[59,10])) [],.dead,.dead,.dead,.dead,A1 tU8 (([112,97,99,107,97,103,101,32]++x.pkg++[59,10])++Q2 x.imports++([103,101,110,32,34]++d.name++[34,32,61,32])++(U7 d++[59,10])).length] rfl ?_;refine S5 ?_;refine de rfl b66 ⟨tt,tt⟩ (a3h (rest:=[]) (T:=tSB) (fun c hc=>by cases hc) true (([112,97,99,107,97,103,101,32]++x.pkg++[59,10])++Q2 x.imports++([103,101,110,32,34]++d.name++[34,32,61,32])++(U7 d++[59,10])) (q:=2) (k:=7) ⟨rfl,rfl,n_2 rfl⟩) rfl ?_;intro _ _;refine a4m ?_;exact ⟨_,j9 (rs:=[.tmp 4,.tmp 5]) (cs:=[_,_]) rfl S6 (n_2 rfl),_,_,rfl,rfl,(by rw [a0D];rw [a4U,if_neg u5,if_neg u6];exact .old (B9 (cs:=[sv _,iv 0]) ⟨.val _,.val _,tt⟩).old)⟩
def Y6 (n:Nat):Str:=if h:n < 128 then [UInt8.ofNat n] else UInt8.ofNat (n%128+128)::Y6 (n / 128)
termination_by n
decreasing_by omega
theorem a1J (n:Nat):Y6 n=if n < 128 then [UInt8.ofNat n] else UInt8.ofNat (n%128+128)::Y6 (n / 128):=by
 rw [Y6]
 split <;> rfl
theorem a3t {k:Nat} (h:n < 128^(k+1)):(Y6 n).length<=k+1:=by
 induction k generalizing n with
 | zero=>rw [a1J,if_pos (sp_ h)];exact n_4 _
 | succ k ih =>
  rw [a1J]
  split
  ·simp
  ·have:=ih (n:=n / 128) (by rw [Nat.pow_succ] at h;exact Nat.div_lt_of_lt_mul (by rw [Nat.mul_comm];exact h));simp;omega
def J0 (l s:Str):Str:=l++Y6 s.length++s
theorem d7D:∀ x:Fin 256,(x.val ||| 128)=x.val%128+128:=by decide
theorem d9r:(n%256) ||| 128=n%128+128:=by
 have h:∀ x:Fin 256,(x.val ||| 128)=x.val%128+128:=d7D;have:=h ⟨n%256,a6o _ de_⟩;simp only at this;omega
theorem c9R (h:n < 256):((UInt8.ofNat n).toNat:Int)=(n:Int):=by
 rw [UInt8.toNat_ofNat',b9X (sp_ h)]
theorem d7m (n:Nat):IntKind.u8.wrap (n:Int)=((n%256:Nat):Int):=by
 simp [IntKind.wrap,IntKind.signed,IntKind.bits]
theorem b2A {C:Ctx} {E:Env} {y:Operand} {b:UInt8} {tok:Option Nat} (ey:E.val C y = .list [bcv b] nn tok):∀ M w v,Rel C M σ w->RV M w (E.val C y) v->c0X C w M ([b].map bcv) 1 v:=fun M w v hr h=>(a5m ey (by intro r hr;simp at hr;subst hr;rfl) M w v hr h).any
theorem d2E {L:Nat} {k p:Nat} (hs:sel[p]? = some k):D2 L sel (a09 l k) (a09 l p):=by
 refine .list (fun r hr c hc=>(a1H l r hr c hc).old) (fun j hj=>?_);cases hb:l.length with
 | zero=>rw [hb] at hj;cases hj
 | succ m=>rw [hb] at hj;injection hj with hj;subst hj;exact ⟨k,rfl,hs⟩
theorem d2F (m:Nat):CV.list [[CV.val (.int .u8 ((m%256 ||| 128:Nat):Int))]] true none = .list [bcv (UInt8.ofNat (m%128+128))] true none:=by
 rw [d9r,bcv,c9R om_]
theorem c6u (h:m < 128):CV.list [[CV.val (.int .u8 (m:Int))]] true none = .list [bcv (UInt8.ofNat m)] true none:=by
 rw [bcv,c9R om_]
def b2U (k:Nat) (g:b9):List b9:=List.replicate k .dead++[g]
theorem b2D (k:Nat) (g:b9):(b2U k g).length=k+1:=by simp [b2U]
theorem a7I (k:Nat) (g:b9):(b2U k g)[k]? = some g:=by
 rw [b2U,a0y si_];simp
theorem b1q (k:Nat) (g g':b9):(b2U k g).set k .dead++[g']=b2U (k+1) g':=by
 unfold b2U
 congr 1
 rw [List.replicate_succ']
 induction k with
 | zero=>rfl
 | succ k ih=>rw [List.replicate_succ,b4i,List.set_cons_succ,ih];rfl
theorem b6r {k:Nat} {g:b9}:F1 1 ((b2U k g).set k .dead++[A1 tU8 l.length]) (.ret (a09 l (b2U k g).length)) (.ret (a09 l 1)) [.dead,A1 tU8 l.length]:=by
 rw [b1q,b2D];refine ⟨[0,k+1],rfl,by simp [Y7],.ret (d2E rfl),.inl rfl,.inr ⟨_,a7I _ _,T1 rfl⟩,tt⟩
theorem b7Z (l:Str) (nn:Bool) (n:Nat) (hl:l.length<=100000000000000) (hn:n < 18446744073709551616):b8 CC 204 [(.list (l.map bcv) nn none),.val (.int .u64 (n:Int))] [.dead] fun r τ=>F1 1 τ r (.ret (a09 (l++Y6 n) 1)) [.dead,A1 tU8 (l++Y6 n).length]:=by
 refine cO Tryz.func204 ?_;refine U5 ?_;refine cD (a38 (l:=[]) (new:=l) (p:=0) rfl rfl tt rfl (fun M w v hr h=>(a5m rfl (by intro r hr;obtain ⟨b,_,rfl⟩:=K5.1 hr;rfl) M w v hr h).any) t_7 t_9 b1V a4N rfl (.inl t_7) rfl rfl a9u ?_);refine z_1 ?_;refine d5M ?_;intro ⟨b,m,k⟩ _ ⟨hb,hmn⟩;dsimp only at hb hmn ⊢;have hlen:b.length<=l.length+10:=by
  have h1:=congrArg List.length hb;have h2:=a3t (n:=n) (k:=9) om_;simp only [n_5] at h1;omega
 refine a2Q ?_;refine cC ?_ ?_ <;> intro h1
 ·have h128:¬ m < 128:=by have:=of_decide_eq_true h1;omega
  rw [a1J m,if_neg h128] at hb;refine a21 ?_;refine z_5 ?_;refine cY (a7a rfl tt rfl b7D b28 (d7m m)) ?_;refine cY (d9M (a:=(m%256)) (b:=128) rfl tt rfl rfl rfl (a6o _ de_) de_) ?_;refine cY (A2 [[.val (.int .u8 ((m%256 ||| 128:Nat):Int))]] rfl ⟨tt,tt⟩ t_7 t_9 a4N rfl rfl rfl rfl rfl rfl rfl rfl rfl) ?_;refine cD (a38 (l:=b) (new:=[UInt8.ofNat (m%128+128)]) (p:=k) rfl tt tt rfl (b2A (d2F m)) t_7 t_9 b1V a4N rfl (.inl t_7) rfl (a7I _ _) a9u ?_);refine a9T ?_;refine cY (d7I (m:=7) rfl tt rfl rfl rfl de_ (show (m:Int) / 2^7=((m / 128:Nat):Int) by omega)) ?_;refine z_1 ?_;exact ⟨(b++[UInt8.ofNat (m%128+128)],m / 128,k+1),(show m / 128 < m by omega),(show l++Y6 n=(b++[UInt8.ofNat (m%128+128)])++Y6 (m / 128)/\m / 128<=n from ⟨by rw [hb];simp,om_⟩),⟨m0,⟨tt,(congrArg (a09 _) (b2D k _))⟩,tt⟩,(b1q _ _ _)⟩
 ·have h128:m < 128:=by have:=of_decide_eq_false h1;omega
  rw [a1J m,if_pos h128] at hb;refine A4 ?_;refine z_5 ?_;refine cY d8y ?_;refine d4B ?_;refine z_7 ?_;exact ⟨_,j2 rfl tt c4,(by rw [hb];exact b6r)⟩
theorem b8f (h:n < 18446744073709551616):IntKind.u64.wrap (n:Int)=(n:Int):=by
 simp [IntKind.wrap,IntKind.signed,IntKind.bits];omega
theorem c03 (l:Str) (nn:Bool) (n:Nat) (hl:l.length<=100000000000000) (hn:n < 18446744073709551616) (σ:List b9):b8 CC 204 [(.list (l.map bcv) nn none),.val (.int .u64 (n:Int))] σ fun r τ=>∃ _:Unit,r = .ret (a09 (l++Y6 n) (σ.length+1))/\τ=σ++[.dead,A1 tU8 (l++Y6 n).length]/\True :=
 a4g (α:=Unit) hCC (fun a ha=>by simp at ha;rcases ha with rfl | rfl;exact a2g _ _;exact .val _) (res:=fun _=>.ret (a09 (l++Y6 n) 1)) (res':=fun _ m=>.ret (a09 (l++Y6 n) (m+1))) (S:=fun _=>[.dead,A1 tU8 (l++Y6 n).length]) (S':=fun _ _=>[.dead,A1 tU8 (l++Y6 n).length]) (P:=fun _=>True)
  (a0a (L2 hCC ((b7Z l nn n hl hn).mono fun r τ h=>⟨_,_,h,(),rfl,rfl,tt⟩))) (fun _ _=>rfl) (fun _ m i x h=>by
   rcases i with _ | _ | i
   ·injection h with h;subst h;exact ⟨_,rfl,.dead⟩
   ·injection h with h;subst h;exact ⟨_,rfl,a3H _ _⟩
   ·cases h) (fun _ m=>.ret (b0L rfl)) σ
theorem c5h {τ:List b9} {k:Nat} (h:l=l'):Cls n τ (a09 l k) (.list (l'.map bcv) (gnn l'.length) none):=by
 subst h;refine .list rfl (fun i r r' h h'=>by rw [h] at h';injection h' with h';rw [h']) (fun i j r r' c c' h h' g g'=>?_);rw [h] at h';injection h' with h';subst h'
 rw [g] at g';injection g' with g';subst g'
 exact .old (a1H l r (n_0 h) c (n_0 g)).old
theorem a1A (l:Str) (nn:Bool) (s:Str) (hl:l.length<=100000000000) (hs:s.length<=100000000000) (σ:List b9):b8 CC 159 [(.list (l.map bcv) nn none),(sv s)] σ fun r σ'=>r = .ret (.list ((J0 l s).map bcv) (gnn (J0 l s).length) none)/\σ'=σ:=by
 refine an_ Tryz.func159 ?_;refine a11 ?_;refine cY X5 ?_;refine cY c6A ?_;refine de rfl Tryz.call204 i7 (c03 l nn s.length om_ om_ _) rfl ?_;have hpu:=a3t (n:=s.length) (k:=9) om_;intro _ _;refine cY j1 ?_;refine cD (a38 (l:=(l++Y6 s.length)) (new:=s) (p:=1) rfl tt tt rfl (b5m rfl) t_7 t_9 b1V a4N rfl (.inr t_5) rfl rfl (by simp only [n_5];omega) ?_);exact d4H
theorem b5u (h:n < 10):Lib.decDigits n=[UInt8.ofNat (48+n)]:=by rw [Lib.decDigits,dif_pos h]
theorem d8i (h:¬ n < 10):Lib.decDigits n=Lib.decDigits (n / 10)++Lib.decDigits (n%10):=by rw [Lib.decDigits,dif_neg h,b5u (a6o _ om_)]
theorem a5f:∀ (m n:Nat),n < 10^(m+1)->(Lib.decDigits n).length<=m+1
 | 0,n,h=>by rw [b5u om_];simp
 | m+1,n,h=>by
  by_cases h9:n < 10
  ·rw [b5u h9];simp
  ·have:=a5f m (n / 10) (by rw [Nat.pow_succ] at h;omega);rw [Lib.decDigits,dif_neg h9,n_5];simp;omega
theorem e0u:∀ n:Nat,n < 10->(([48,49,50,51,52,53,54,55,56,57]:Str).take (n+1)).drop n=[UInt8.ofNat (48+n)]:=by decide
theorem a8n (h:b8 CC 148 [(.val (.int .u64 ((n:Int))))] [] fun r σ'=>r = .ret (sv (Lib.decDigits n))/\σ'=[]) (σ:List b9):b8 CC 148 [(.val (.int .u64 ((n:Int))))] σ fun r σ'=>r = .ret (sv (Lib.decDigits n))/\σ'=σ :=
 b8.anyw hCC pu_ pu_ h σ
theorem a92 (n:Nat) (hn:n<=9223372036854775807) (σ:List b9):b8 CC 148 [(.val (.int .u64 ((n:Int))))] σ fun r σ'=>r = .ret (sv (Lib.decDigits n))/\σ'=σ:=by
 refine b8.anyw hCC pu_ pu_ ?_ σ
 induction n using Nat.strongRecOn
 rename_i n ih;refine D5 (cO Tryz.func148 ?_);refine z_6 ?_;refine a2Q ?_;refine cC ?_ ?_ <;> intro h1
 ·have hn9:n < 10:=sm_ h1;have e0:IntKind.u64.wrap ((n:Int)+1)=((n+1:Nat):Int):=b8f (n:=n+1) om_;refine z_5 ?_;refine cY S7 ?_;refine cY q_3 ?_;refine z_7 ?_;exact ⟨_,j2 rfl tt c4,_,_,rfl,rfl,D4 (by rw [b5u hn9];exact congrArg str (e0u n hn9))⟩
 ·have hn9:¬ n < 10:=sm_ h1;have hd:Int.tdiv (n:Int) 10=((n / 10:Nat):Int):=by rfl
  have hm:Int.tmod (n:Int) 10=((n%10:Nat):Int):=by rfl
  have g1:=a5f 18 (n / 10) om_;have g2:=a5f 18 (n%10) om_;have e1:IntKind.u64.wrap ((n:Int).tdiv 10)=((n / 10:Nat):Int):=by rw [hd];exact b8f om_
  have e2:(n:Int).tmod 10=((n%10:Nat):Int):=by exact hm
  refine a1m ?_;refine cY (a08 rfl tt rfl rfl rfl (rfl)) ?_;refine ye rfl c1I ⟨tt,tt⟩ (by have h:=a8n (ih (n / 10) om_ om_) [];rw [<- e1] at h;exact h) rfl ?_;refine cY j1 ?_;refine cY (a08 rfl tt rfl rfl rfl (rfl)) ?_;refine ye rfl c1I ⟨tt,tt⟩ (by have h:=a8n (ih (n%10) om_ om_) [];rw [<- e2] at h;exact h) rfl ?_;refine cY a2j ?_;refine z_7 ?_;exact ⟨_,j2 rfl tt c4,_,_,rfl,rfl,D4 (congrArg str (d8i hn9).symm)⟩
theorem a5x (u:Int) (h0 : -9007199254740992<=u) (h1':u<=9007199254740992) (σ:List b9):b8 CC 95 [iv u] σ fun r σ'=>r = .ret (sv (Lib.itoa u))/\σ'=σ:=by
 refine an_ Tryz.func95 ?_;refine z_6 ?_;refine a2Q ?_;refine cC ?_ ?_ <;> intro h1
 ·have hu:u < 0:=sp_ h1;obtain ⟨m,rfl⟩:∃ m:Nat,u = -(m:Int):=⟨u.natAbs,om_⟩;have g1:=a5f 18 m om_;have w1:IntKind.i64.wrap (0 - (-(m:Int)+1))=((m - 1:Nat):Int):=by rw [b0g om_ om_];omega
  have w2:IntKind.u64.wrap (IntKind.u64.wrap (IntKind.i64.wrap (0 - (-(m:Int)+1)))+1)=(m:Int):=by
   rw [w1,b8f om_,show (((m - 1:Nat):Int)+1)=(m:Int) by omega,b8f om_]
  refine z_2 ?_;refine cY a0v ?_;refine cY (c9w rfl tt rfl) ?_;refine cY (a7a rfl tt rfl d0U b7D rfl) ?_;refine cY S7 ?_;refine ye rfl c1I ⟨tt,tt⟩ (by have h:=a92 m om_ [];rw [<- w2] at h;exact h) rfl ?_;refine cY a5n ?_;refine z_7 ?_;exact ⟨_,j2 rfl tt rfl,_,_,rfl,rfl,D4 (congrArg str (Lib.itoa_neg m om_).symm)⟩
 ·have hu:¬ u < 0:=sp_ h1;obtain ⟨m,rfl⟩:∃ m:Nat,u=(m:Int):=⟨u.toNat,om_⟩;refine a1m ?_;refine cY c6A ?_;refine ye rfl c1I ⟨tt,tt⟩ (a92 m om_ _) rfl ?_;refine z_7 ?_;exact ⟨_,j2 rfl tt rfl,_,_,rfl,rfl,D4 (congrArg str (Lib.itoa_nonneg m).symm)⟩
theorem r7 {a:Int} (h:(a == b)=true):a=b:=sp_ h
theorem r6 {a:Int} (h:(a == b)=false):¬ a=b:=sp_ h
theorem b1J (x:Ex) (σ:List b9):b8 CC 271 [(.agg x.cells)] σ fun r σ'=>r = .ret (iv (a3m x.k x.op))/\σ'=σ:=by
 refine an_ Tryz.func271 ?_;refine a2M ?_;refine a8S ?_;refine O1 ?_;refine cC ?_ ?_ <;> intro h1
 ·have u1:x.k=5:=sp_ h1;exact d4c
 ·have u1:¬ x.k=5:=sp_ h1;refine a0E ?_;refine a8S ?_;refine O1 ?_;refine cC ?_ ?_ <;> intro h2
  ·have u2:¬ x.k=4:=sp_ h2;refine I0 ?_;exact ⟨_,j2 rfl tt c4,_,_,rfl,rfl,G4 (by rw [a3m,if_neg u1,if_neg u2])⟩
  ·have u2:x.k=4:=sp_ h2;refine a0E ?_;refine a8S ?_;refine a4B ?_;refine a6T ?_;refine cC ?_ ?_ <;> intro h3
   ·have v3:=r7 h3;refine c9 ?_;refine cC ?_ ?_ <;> intro h4
    ·have v4:=r7 h4;exact b9V
    ·have v4:=r6 h4;refine a6T ?_;refine cC ?_ ?_ <;> intro h5
     ·have v5:=r7 h5;refine c9 ?_;refine cC ?_ ?_ <;> intro h6
      ·have v6:=r7 h6;exact b9V
      ·have v6:=r6 h6;exact c2w
     ·have v5:=r6 h5;refine a1o ?_;refine cC ?_ ?_ <;> intro h7
      ·have v7:=r7 h7;exact b9V
      ·have v7:=r6 h7;exact c2w
   ·have v3:=r6 h3;refine a1o ?_;refine cC ?_ ?_ <;> intro h8
    ·have v8:=r7 h8;exact b9V
    ·have v8:=r6 h8;refine a6T ?_;refine cC ?_ ?_ <;> intro h9
     ·have v9:=r7 h9;refine c9 ?_;refine cC ?_ ?_ <;> intro h10
      ·have v10:=r7 h10;exact b9V
      ·have v10:=r6 h10;exact c2w
     ·have v9:=r6 h9;refine a1o ?_;refine cC ?_ ?_ <;> intro h11
      ·have v11:=r7 h11;exact b9V
      ·have v11:=r6 h11;exact c2w
def SG:List Str:=[[],[43],[45],[42],[47],[37],[60],[61,61]]
theorem d7N (h:1<=o/\o<=7):SG[o.toNat]? = some (sgn o)/\(sgn o).length<=2:=by
 have:o=1\/o=2\/o=3\/o=4\/o=5\/o=6\/o=7:=by omega
 rcases this with rfl | rfl | rfl | rfl | rfl | rfl | rfl <;> exact ⟨rfl,de_⟩
theorem d7T (o:Int):1<=F0 o/\F0 o<=3:=by unfold F0;(repeat (first | split)) <;> omega
def RWr (E:List Ex) (ps:List Str) (en pn:Bool) (t:Tr) (s:Nat):Prop:=∀ (pl:Int) (σ:List b9),b8 CC 226 [.list (E.map Ex.cv) en none,iv ((s+t.size - 1:Nat):Int),.list (ps.map scv) pn none,iv pl] σ fun r τ=>r = .ret (sv (t.txt ps pl))/\τ=σ
theorem c3R (hAt:a8U E (.n k u o nm ch) s) (hn:U8 ps.length k u o nm ch.length) (hI:∀ (m:Nat) (c:Tr),ch[m]? = some c->RWr E ps en pn c (s+w8 (ch.take m))) (hL:∀ (m:Nat) (c:Tr) (pl:Int),ch[m]? = some c->(c.txt ps pl).length<=100000000) (hch:ch.length<=1000) (hTl:(ndT ps k u o nm (I2 ps ch (a0R k o))).length<=1000000000000) (pl:Int):b8 CC 226 [(.list (E.map Ex.cv) en none),iv ((s+(Tr.n k u o nm ch).size - 1:Nat):Int),(.list (ps.map scv) pn none),iv pl] [] fun r σ'=>r = .ret (sv ((Tr.n k u o nm ch).txt ps pl))/\σ'=[]:=by
 refine D5 (cO Tryz.func226 ?_);refine a11 ?_;refine cY d6R ?_;refine cY b9s ?_;refine c9g ?_;refine c8 ?_;refine z_6 ?_;refine K8 hCC (α:=Str) (fun x=>[(3,iv pl),(9,.ptr 0 0),(10,sv x)]) (fun _=>[.box ((⟨k,u,o,nm,o0 ch s⟩:Ex)).cells]) (fun x=>x=ndT ps k u o nm (I2 ps ch (a0R k o))) r5 uz_ ?_ ?_
 ·
  refine c2n ?_;refine a2m ?_;refine cC ?_ ?_ <;> intro h1
  ·have u1:k=1:=r7 h1;have hk1:=hn.k1 u1;refine r3 ?_;refine a8S ?_;refine yc rfl c6s ⟨tt,tt⟩ (a5x u hk1.1 hk1.2 _) ?_;refine z_1 ?_;exact ⟨(Lib.itoa u),_,(by rw [ndT,if_pos u1]),tu_,rfl⟩
  ·have u1:¬ k=1:=r6 h1;refine D6 ?_;refine cC ?_ ?_ <;> intro h2
   ·have u2:k=2:=r7 h2;obtain ⟨hk2,hk3⟩:=hn.k2 u2;obtain ⟨p,hpg⟩:=gx_ ps u.toNat;refine z_4 ?_;refine a8S ?_;refine cY (r8 rfl tt tt rfl rfl t_1 t_0 om_ (j3 hpg) rfl) ?_;refine cY U1 ?_;refine z_1 ?_;exact ⟨p,_,(by rw [ndT,if_neg u1,if_pos u2,a3o,hpg];rfl),tu_,rfl⟩
   ·have u2:¬ k=2:=r6 h2;refine D6 ?_;refine cC ?_ ?_ <;> intro h3
    ·have u3:k=3:=r7 h3;have v6:¬ k=4:=by omega
     have v8:¬ k=5:=by omega
     have hnl:=B4 (hn.k3 u3).1;have hpl0:a0R k o=[]:=if_neg v6;have hCl:(I2 ps ch (a0R k o)).length=ch.length:=a5D _ _ _;have hJ:=fun m=>a8W [44,32] (I2 ps ch (a0R k o)) m;have hjt:(J3 [44,32] (I2 ps ch (a0R k o))).length<=1000000000000:=by
      rw [ndT,if_neg u1,if_neg u2,if_neg v6,if_neg v8,if_pos u3,n_5,n_5] at hTl;omega
     refine b31 ?_;refine cY V8 ?_;refine z_1 ?_;refine a0Y ?_;refine a6y ?_;refine Z0 ?_;refine j5 hCC (α:=Nat) (fun m=>[(0,(.list (E.map Ex.cv) en none)),(2,(.list (ps.map scv) pn none)),(3,iv pl),(9,.ptr 0 0),(10,sv (nm++[40]++F4 [44,32] (I2 ps ch (a0R k o)) m)),(40,(.list ((o0 ch s).map icv) (gnn (o0 ch s).length) none)),(41,(iv ((o0 ch s).length:Int))),(42,iv m)]) (fun _=>[.box ((⟨k,u,o,nm,o0 ch s⟩:Ex)).cells]) (fun m=>m<=ch.length) (fun m=>ch.length - m) 0 (n_3 _) ⟨m0,m0,m0,m0,⟨tt,(by show sv _=sv _;simp [F4,J3])⟩,m0,m0,m0,tt⟩ (extra0:=[]) rfl r5 uz_ ?_;intro m hm;have hJm:=hJ m;refine C9 ?_;refine cC ?_ ?_ <;> intro h4
     ·have hlt:m < ch.length:=by simp [R0] at h4;omega
      obtain ⟨c,hc⟩:∃ c,ch[m]? = some c:=⟨ch[m]'hlt,si_⟩;have hg:=L4 (s:=s) hc;have hx:=a0e ps ch (a0R k o) m c hc;rw [show (a0R k o).getD m 0=0 by rw [hpl0];rfl] at hx;have hcl:=hL m c 0 hc;refine X9 ?_;refine d5g ?_;refine b2R ?_;refine cC ?_ ?_ <;> intro h5
      ·have hm0:¬ m=0:=sm_ h5;refine z_4 ?_;refine cY V8 ?_;refine d3H ?_;refine yc rfl b5s b1i (hI m c hc 0 _) ?_;refine b9J ?_;exact ⟨(m+1),_,⟨om_,om_⟩,⟨m0,m0,m0,m0,⟨tt,(by show sv _=sv _;rw [Y5 hx,if_neg hm0];simp [n_8])⟩,m0,m0,m0,tt⟩,rfl⟩
      ·have hm0:m=0:=sm_ h5;refine a9p ?_;refine a4Q ?_;refine yc rfl b5s b1i (hI m c hc 0 _) ?_;refine b9J ?_;exact ⟨(m+1),_,⟨om_,om_⟩,⟨m0,m0,m0,m0,⟨tt,(by show sv _=sv _;rw [Y5 hx,if_pos hm0];simp [n_8])⟩,m0,m0,m0,tt⟩,rfl⟩
     ·have hme:m=ch.length:=by simp [R0] at h4;omega
      refine A4 ?_;refine z_4 ?_;refine cY V8 ?_;refine z_1 ?_;exact ⟨(nm++[40]++F4 [44,32] (I2 ps ch (a0R k o)) m++[41]),_,(by rw [ndT,if_neg u1,if_neg u2,if_neg v6,if_neg v8,if_pos u3,F4,hme,<- hCl,a7O]),tu_,rfl⟩
    ·have u3:¬ k=3:=r6 h3;refine D6 ?_;refine cC ?_ ?_ <;> intro h6
     ·have v6:k=4:=r7 h6;have hok:=hn.k4 v6;have hlr:=d7T o;obtain ⟨hsg,hsl⟩:=d7N hok;refine z_0 ?_;refine cY a5B ?_;refine ye rfl Tryz.call271 ⟨tt,tt⟩ ((by have h:=b1J (⟨k,u,o,nm,o0 ch s⟩:Ex);rw [show a3m (⟨k,u,o,nm,o0 ch s⟩:Ex).k (⟨k,u,o,nm,o0 ch s⟩:Ex).op=F0 o by show a3m k o=_;rw [a3m,if_neg om_,if_pos v6]] at h;exact h _)) rfl ?_;refine z_1 ?_;refine a4x ?_;refine b25 ?_;refine K8 hCC (α:=Int) (fun x=>[(0,(.list (E.map Ex.cv) en none)),(2,(.list (ps.map scv) pn none)),(3,iv pl),(9,.ptr 0 0),(14,iv x),(15,(iv (F0 o+1)))]) (fun _=>[.box ((⟨k,u,o,nm,o0 ch s⟩:Ex)).cells]) (fun x=>x=if F0 o=1 then F0 o+1 else F0 o) r5 uz_ ?_ ?_
      ·
       refine a3F ?_;refine cC ?_ ?_ <;> intro h7
       ·have w7:F0 o=1:=r7 h7;refine b42 ?_;exact ⟨2,_,(by rw [if_pos w7,w7];rfl),tu_,rfl⟩
       ·have w7:¬ F0 o=1:=r6 h7;refine c9 ?_;exact ⟨(F0 o),_,(by rw [if_neg w7]),tu_,rfl⟩
      ·rintro x hx;obtain ⟨c0,c1,rfl⟩:∃ a b,ch=[a,b]:=by
        have hc:=hn.cnt;rw [if_pos v6] at hc
        match ch,hc with
        | [a,b],_=>exact ⟨a,b,rfl⟩
       have hl0:=hL 0 c0 x rfl;have hl1:=hL 1 c1 (F0 o+1) rfl;have hoe:(⟨k,u,o,nm,o0 [c0,c1] s⟩:Ex).op=o:=rfl;refine cW 26 ?_;refine b4p ?_;refine hY d6H ?_;refine b8G ?_;refine hY (j8 rfl b5s a1v (hI 0 c0 rfl x _) rfl) ?_;refine hY V8 ?_;refine hY (A2 (SG.map scv) rfl ⟨rfl,rfl,rfl,rfl,rfl,rfl,rfl,rfl,tt⟩ t_1 t_0 t_3 rfl rfl rfl rfl rfl rfl rfl rfl rfl) ?_;refine b4h ?_;refine hY (r8 rfl tt tt rfl rfl t_1 t_0 om_ (j3 hsg) rfl) ?_;refine hY U1 ?_;refine hY a2j ?_;refine hY V8 ?_;refine b4p ?_;refine hY e0j ?_;refine b8G ?_;refine hY (j8 rfl b5s a1v (hI 1 c1 rfl (F0 o+1) _) rfl) ?_;refine hY a2j ?_;refine a9G ?_;exact ⟨(c0.txt ps x++[32]++sgn o++[32]++c1.txt ps (F0 o+1)),_,(by rw [ndT,if_neg u1,if_neg u2,if_pos v6,a0R,if_pos v6,hx];simp [I2]),tu_,rfl⟩
     ·have v6:¬ k=4:=r6 h6;refine D6 ?_;refine cC ?_ ?_ <;> intro h8
      ·have v8:k=5:=r7 h8;obtain ⟨c0,c1,c2,rfl⟩:∃ a b c,ch=[a,b,c]:=by
        have hc:=hn.cnt;rw [if_neg v6,if_pos v8] at hc
        match ch,hc with
        | [a,b,c],_=>exact ⟨a,b,c,rfl⟩
       have hl0:=hL 0 c0 0 rfl;have hl1:=hL 1 c1 0 rfl;have hl2:=hL 2 c2 0 rfl;refine cW 27 ?_;refine b4p ?_;refine hY d6H ?_;refine hY a1a ?_;refine hY j1 ?_;refine hY (j8 rfl b5s b1i (hI 0 c0 rfl 0 _) rfl) ?_;refine hY a5n ?_;refine hY V8 ?_;refine b4p ?_;refine hY e0j ?_;refine hY a1a ?_;refine hY j1 ?_;refine hY (j8 rfl b5s b1i (hI 1 c1 rfl 0 _) rfl) ?_;refine hY a2j ?_;refine hY V8 ?_;refine b4p ?_;refine hY (r8 rfl tt rfl rfl rfl t_4 t_2 om_ (j3 (L4 (m:=2) (s:=s) rfl)) rfl) ?_;refine hY a1a ?_;refine hY j1 ?_;refine hY (j8 rfl b5s b1i (hI 2 c2 rfl 0 _) rfl) ?_;refine hY a2j ?_;refine a9G ?_;exact ⟨([105,102,32]++c0.txt ps 0++[32,116,104,101,110,32]++c1.txt ps 0++[32,101,108,115,101,32]++c2.txt ps 0),_,(by rw [ndT,if_neg u1,if_neg u2,if_neg v6,if_pos v8,a0R,if_neg v6];simp [I2]),tu_,rfl⟩
      ·have v8:¬ k=5:=r6 h8;refine D6 ?_;refine cC ?_ ?_ <;> intro h9
       ·have v9:k=6:=r7 h9;have hnl:=L1 (hn.k678 (.inl v9));obtain ⟨c0,rfl⟩:∃ a,ch=[a]:=by
         have hc:=hn.cnt;rw [if_neg v6,if_neg v8,if_pos v9] at hc
         match ch,hc with
         | [a],_=>exact ⟨a,rfl⟩
        have hl0:=hL 0 c0 0 rfl;refine cW 14 ?_;refine b6z ?_;refine hY a5n ?_;refine hY V8 ?_;refine b4p ?_;refine hY d6H ?_;refine hY a1a ?_;refine hY j1 ?_;refine hY (j8 rfl b5s b1i (hI 0 c0 rfl 0 _) rfl) ?_;refine hY a2j ?_;refine hY V8 ?_;refine a9G ?_;exact ⟨([114,101,97,100,40,34]++nm++[34,44,32]++c0.txt ps 0++[41]),_,(by rw [ndT,if_neg u1,if_neg u2,if_neg v6,if_neg v8,if_neg u3,if_pos v9,a0R,if_neg v6];simp [I2]),tu_,rfl⟩
       ·have v9:¬ k=6:=r6 h9;refine D6 ?_;refine cC ?_ ?_ <;> intro h10
        ·have v10:k=7:=r7 h10;have hnl:=L1 (hn.k678 (.inr (.inl v10)));refine r3 ?_;refine c1Z ?_;refine a9X ?_;exact ⟨([115,105,122,101,40,34]++nm++[34,41]),_,(by rw [ndT,if_neg u1,if_neg u2,if_neg v6,if_neg v8,if_neg u3,if_neg v9,if_neg om_,a6P];rw [v10];simp),tu_,rfl⟩
        ·have v10:¬ k=7:=r6 h10;refine D6 ?_;refine cC ?_ ?_ <;> intro h11
         ·have v11:k=8:=r7 h11;have hnl:=L1 (hn.k678 (.inr (.inr v11)));refine r3 ?_;refine c1Z ?_;refine a9X ?_;exact ⟨([104,97,115,40,34]++nm++[34,41]),_,(by rw [ndT,if_neg u1,if_neg u2,if_neg v6,if_neg v8,if_neg u3,if_neg v9,if_neg om_,a6P];rw [v11];simp),tu_,rfl⟩
         ·have v11:¬ k=8:=r6 h11;refine D6 ?_;refine cC ?_ ?_ <;> intro h12
          ·have v12:k=9:=r7 h12;have hnl:=B4 (hn.k9 v12);refine r3 ?_;refine c1Z ?_;refine a9X ?_;exact ⟨([101,110,118,40,34]++nm++[34,41]),_,(by rw [ndT,if_neg u1,if_neg u2,if_neg v6,if_neg v8,if_neg u3,if_neg v9,if_neg om_,a6P];rw [v12];simp),tu_,rfl⟩
          ·have v12:¬ k=9:=r6 h12;refine D6 ?_;refine cC ?_ ?_ <;> intro h13
           ·have v13:k=10:=r7 h13;have hk10:=hn.k10 v13;have hil:(Lib.itoa u).length<=19:=by
             obtain ⟨m,rfl⟩:∃ m:Nat,u=(m:Int):=⟨u.toNat,om_⟩;rw [Lib.itoa_nonneg];exact a5f 18 m om_
            refine r3 ?_;refine a8S ?_;refine ye rfl c6s ⟨tt,tt⟩ (a5x u om_ om_ _) rfl ?_;refine a9X ?_;exact ⟨([102,108,105,112,40]++Lib.itoa u++[41]),_,(by rw [ndT,if_neg u1,if_neg u2,if_neg v6,if_neg v8,if_neg u3,if_neg v9,if_pos v13]),tu_,rfl⟩
           ·exfalso;have v13:¬ k=10:=r6 h13;have:=hn.kind;omega
 ·rintro x hx;subst hx;have hT:=hTl;refine a0Y ?_;refine cY a5B ?_;refine ye rfl Tryz.call271 ⟨tt,tt⟩ (b1J (⟨k,u,o,nm,o0 ch s⟩:Ex) _) rfl ?_;refine b65 ?_;refine cC ?_ ?_ <;> intro h14
  ·have hlv:a3m k o < pl:=sp_ h14;refine z_2 ?_;refine a8y ?_;refine z_7 ?_;exact ⟨_,j2 rfl tt rfl,_,_,rfl,rfl,D4 (by rw [Tr.txt,if_pos hlv])⟩
  ·have hlv:¬ a3m k o < pl:=sp_ h14;refine a1m ?_;refine z_7 ?_;exact ⟨_,j2 rfl tt rfl,_,_,rfl,rfl,D4 (by rw [Tr.txt,if_neg hlv])⟩
theorem b4E {E:List Ex} {ps:List Str} {en pn:Bool} (hE:E.length<=1000) (hp:∀ x∈ps,x.length<=80):∀ (n:Nat) (t:Tr) (s d:Nat),t.size<=n->a8U E t s->t.wf ps.length d->RWr E ps en pn t s
 | 0,t,s,d,hs,_,_=>by have:=t.size_pos;omega
 | n+1,.n k u o nm ch,s,d,hs,hAt,hw=>fun pl σ=>by
  have hw':=hw;rw [Tr.wf] at hw';have hsz:(Tr.n k u o nm ch).size<=E.length:=by
   obtain ⟨E0,E1,he,_⟩:=hAt;rw [he,n_5,n_5,Tr.flat_len];omega
  rw [Tr.size] at hs hsz;have hsub:∀ (m:Nat) (c:Tr),ch[m]? = some c->c.size<=w8 ch:=fun m c hc=>by
   have h1:=a32 hc;have h2:=a07 ch (m+1);omega
  have hL:∀ (m:Nat) (c:Tr) (pl:Int),ch[m]? = some c->(c.txt ps pl).length<=100000000:=fun m c pl hc=>by
   have h1:=Tr.txt_len hp c _ pl (a54 hw'.2.2 hc);have h2:=hsub m c hc;omega
  have hcl:=a3x ch;have hT:=c23 hp hw'.2.1 (I2 ps ch (a0R k o));have hT2:=a8P hp ch _ (a0R k o) hw'.2.2;rw [a5D] at hT;exact b8.anyw (args:=[_,_,_,_]) hCC ⟨a0t _ _,.val _,C2 _ _,.val _,tt⟩ (.val _) (c3R hAt hw'.2.1 (fun m c hc=>b4E hE hp n c _ _ (by have:=hsub m c hc;omega) (hAt.child hc) (a54 hw'.2.2 hc)) hL om_ om_ pl) σ
theorem c3v (h:DeG d):∀ x∈d.params,x.length<=80:=fun x hx=>by have:=B4 (h.par x hx).1;omega
theorem c5k (h:DeG d) (en pn:Bool) (σ:List b9):b8 CC 226 [.list (d.body.map Ex.cv) en none,iv ((d.body.length:Int) - 1),.list (d.params.map scv) pn none,iv 0] σ fun r τ=>r = .ret (sv (U7 d))/\τ=σ:=by
 obtain ⟨t,h1,h2,h3⟩:=a8d h;have hl:d.body.length=t.size:=by rw [h1,Tr.flat_len]
 have hp:=t.size_pos;have hb:=h.blen;have:=b4E (E:=d.body) (en:=en) (pn:=pn) om_ (c3v h) t.size t 0 1 (n_4 _) ⟨[],[],by rw [h1];simp,rfl⟩ h2 0 σ;rw [show ((0+t.size - 1:Nat):Int)=(d.body.length:Int) - 1 by omega,<- h3] at this;exact this
noncomputable def b76 (d:De):Str:=a4U d++(U7 d++[59,10])
theorem c4R (d:De) (hd:DeG d) (σ:List b9):b8 CC 179 [(.agg d.cells)] σ fun r σ'=>r = .ret (sv (b76 d))/\σ'=σ:=by
 refine an_ Tryz.func179 ?_;refine a3J ?_;refine z_6 ?_;refine K8 hCC (α:=Str) (fun x=>[(1,.ptr 0 0),(3,sv x)]) (fun _=>[.box d.cells]) (fun x=>x++[32,61,32]=a4U d/\x.length<=2000) r5 uz_ ?_ ?_
 ·
  refine z_0 ?_;refine a4k ?_;refine a2m ?_;refine cC ?_ ?_ <;> intro h1
  ·have u1:d.k=1:=r7 h1;have hnl:=B4 (hd.name om_).1;refine z_0 ?_;refine a6M ?_;refine a9X ?_;refine a0Y ?_;refine a6p ?_;refine a1i ?_;refine j5 hCC (α:=Nat) (fun m=>[(1,.ptr 0 0),(3,sv ([102,117,110,99,32]++d.name++[40]++F4 [44,32] d.params m)),(15,(.list (d.params.map scv) (gnn d.params.length) none)),(16,iv d.params.length),(17,iv m)]) (fun _=>[.box d.cells]) (fun m=>m<=d.params.length) (fun m=>d.params.length - m) 0 (n_3 _) ⟨m0,⟨tt,(by show sv _=sv _;simp [F4,J3])⟩,m0,m0,m0,tt⟩ (extra0:=[]) rfl r5 uz_ ?_;intro m hm;have hJ:=a8W [44,32] d.params m;have hJ2:=a3p [44,32] d.params;have hJ3:=b6b (b4k hd);have hpl:=hd.parl;have e2:([44,32]:Str).length=2:=rfl;rw [e2] at hJ2;refine C9 ?_;refine cC ?_ ?_ <;> intro h2
   ·have hlt:m < d.params.length:=sm_ h2;obtain ⟨y,hy⟩:∃ y,d.params[m]? = some y:=⟨d.params[m]'hlt,si_⟩;have hyl:=c3v hd y (n_0 hy);refine X9 ?_;refine b6I ?_;refine b2R ?_;refine cC ?_ ?_ <;> intro h3
    ·have hm0:¬ m=0:=sm_ h3;refine z_4 ?_;refine cY V8 ?_;refine a7W ?_;refine b9J ?_;exact ⟨(m+1),_,⟨om_,om_⟩,⟨m0,⟨tt,(by show sv _=sv _;rw [Y5 hy,if_neg hm0];simp [n_8])⟩,m0,m0,m0,tt⟩,rfl⟩
    ·have hm0:m=0:=sm_ h3;refine a9p ?_;refine b9J ?_;exact ⟨(m+1),_,⟨om_,om_⟩,⟨m0,⟨tt,(by show sv _=sv _;rw [Y5 hy,if_pos hm0];simp [n_8])⟩,m0,m0,m0,tt⟩,rfl⟩
   ·have hme:m=d.params.length:=sm_ h2;refine A4 ?_;refine z_4 ?_;refine cY V8 ?_;refine z_1 ?_;exact ⟨([102,117,110,99,32]++d.name++[40]++F4 [44,32] d.params m++[41]),_,⟨by rw [a4U,if_pos u1,F4,hme,a7O];simp,by simp only [n_5,n_7,I4];omega⟩,tu_,rfl⟩
  ·have u1:¬ d.k=1:=r6 h1;refine D6 ?_;refine cC ?_ ?_ <;> intro h4
   ·have u2:d.k=2:=r7 h4;have hnl:=B4 (hd.name om_).1;refine r3 ?_;refine a6M ?_;refine cY a5n ?_;refine z_1 ?_;exact ⟨([116,101,115,116,32]++d.name),_,⟨by rw [a4U,if_neg u1,if_pos u2];first | done | simp,by simp only [n_5,n_7,I4];omega⟩,tu_,rfl⟩
   ·have u2:¬ d.k=2:=r6 h4;refine D6 ?_;refine cC ?_ ?_ <;> intro h5
    ·have u3:d.k=3:=r7 h5;have hnl:=L1 (hd.path u3);refine r3 ?_;refine a6M ?_;refine a9X ?_;exact ⟨([103,101,110,32,34]++d.name++[34]),_,⟨by rw [a4U,if_neg u1,if_neg u2];first | done | simp,by simp only [n_5,n_7,I4];omega⟩,tu_,rfl⟩
    ·exfalso;have u3:¬ d.k=3:=r6 h5;have:=hd.kind;omega
 ·rintro x ⟨hx,hxl⟩;have hbl:=a9b hd;have hb:=hd.blen;refine z_2 ?_;refine cY V8 ?_;refine b3s ?_;refine b07 ?_;refine cY a24 ?_;refine a6p ?_;refine yc rfl b5s b1i (c5k hd _ _ _) ?_;refine b2L ?_;refine z_7 ?_;exact ⟨_,j2 rfl tt rfl,_,_,rfl,rfl,D4 (by rw [b76,<- hx];simp [n_8])⟩
theorem c4z (x:Src) (h:a3z x) (σ:List b9):b8 CC 178 [(.agg x.cells)] σ fun r σ'=>r = .ret (sv (([112,97,99,107,97,103,101,32]++x.pkg++[59,10])++Q2 x.imports))/\σ'=σ:=by
 refine b8.anyw hCC pu_ pu_ ?_ σ;have hpk:=B4 h.pkg.1;have him8:∀ s∈x.imports,s.length<=80:=fun s hs=>by have:=B4 (h.imp s hs).1;omega
 refine D5 (cO Tryz.func178 ?_);refine a3J ?_;refine z_0 ?_;refine a7X ?_;refine a9X ?_;refine a0Y ?_;refine a4l ?_;refine a1i ?_;refine j5 hCC (α:=Nat) (fun m=>[(3,sv (([112,97,99,107,97,103,101,32]++x.pkg++[59,10])++Q2 (x.imports.take m))),(11,(.list (x.imports.map scv) (gnn x.imports.length) none)),(12,iv x.imports.length),(13,iv m)]) (fun _=>[.box x.cells]) (fun m=>m<=x.imports.length) (fun m=>x.imports.length - m) 0 (n_3 _) ⟨⟨tt,(by show sv _=sv _;simp [Q2])⟩,m0,m0,m0,tt⟩ (extra0:=[]) rfl r5 uz_ ?_;intro m hm;have hI8:=a8g him8 m;have himl:=h.impl;have hpk:=B4 h.pkg.1;refine C9 ?_;refine cC ?_ ?_ <;> intro h1
 ·have hlt:m < x.imports.length:=sm_ h1;obtain ⟨y,hy⟩:∃ y,x.imports[m]? = some y:=⟨x.imports[m]'hlt,si_⟩;have hyl:=him8 y (n_0 hy);refine W7 ?_;refine b6I ?_;refine a7W ?_;refine a8y ?_;refine b9J ?_;exact ⟨(m+1),_,⟨om_,om_⟩,⟨⟨tt,(by show sv _=sv _;rw [a4F,hy];simp [Q2,n_8])⟩,m0,m0,m0,tt⟩,rfl⟩
 ·have hme:m=x.imports.length:=sm_ h1;refine a2y ?_;exact ⟨_,j2 rfl tt rfl,_,_,rfl,rfl,D4 (by rw [hme,a7O])⟩
theorem a29 (s:Str) (hs:s.length<=1000000000) (σ:List b9):b8 CC 221 [(sv s)] σ fun r σ'=>r = .ret (.val (.bool (C8 s && !P5 s)))/\σ'=σ:=by
 refine an_ Tryz.func221 ?_;refine U5 ?_;refine yc rfl c5Q ⟨tt,tt⟩ (a1M s _) ?_;refine a3q ?_;refine cG (fun hg=>j8 rfl Tryz.call229 ⟨hg,tt⟩ (a6U s _) rfl) ?_;refine cG a6C ?_;refine a3j ?_;exact ⟨_,j2 rfl tt rfl,_,_,rfl,rfl,j7 rfl⟩
def arK (k:Int):Int:=if k=3 then -1 else if k=4 then 2 else if k=5 then 3 else if k=6 then 1 else 0
theorem c0q (k:Int) (σ:List b9):b8 CC 270 [iv k] σ fun r σ'=>r = .ret (iv (arK k))/\σ'=σ:=by
 refine an_ Tryz.func270 ?_;refine Q7 ?_;refine a2m ?_;refine cC ?_ ?_ <;> intro h1
 ·have u1:=r7 h1;exact b7r
 ·have u1:=r6 h1;refine D6 ?_;refine cC ?_ ?_ <;> intro h2
  ·have u2:=r7 h2;exact b7r
  ·have u2:=r6 h2;refine D6 ?_;refine cC ?_ ?_ <;> intro h3
   ·have u3:=r7 h3;exact b7r
   ·have u3:=r6 h3;refine D6 ?_;refine cC ?_ ?_ <;> intro h4
    ·have u4:=r7 h4;exact b7r
    ·have u4:=r6 h4;refine c9 ?_;exact b7r
theorem c0T (x:Ex) (np c:Nat) (h:U8 np x.k x.num x.op x.name c) (σ:List b9):b8 CC 222 [(.agg x.cells),iv np] σ fun r σ'=>r = .ret (.val (.bool true))/\σ'=σ:=by
 refine an_ Tryz.func222 ?_;refine a3J ?_;refine b3N ?_;refine a4D ?_;refine b0Y ?_;refine a4D ?_;refine b0Y ?_;refine a4D ?_;refine b0Y ?_;refine a4D ?_;refine z_1 ?_;refine b3N ?_;refine a4D ?_;refine b0Y ?_;refine a4D ?_;refine z_1 ?_;refine a0Y ?_;refine a8S ?_;refine d4m ?_;refine a4D ?_;refine a3q ?_;refine cG a6C ?_;refine cG a9U ?_;refine U2 rfl rfl (fun h=>h) rfl rfl (fun hk hg=>j4 rfl tt rfl a7l rfl t_0 de_) ?_;refine U2 rfl rfl (fun h=>h) rfl rfl (fun hk hg=>o5 rfl ⟨hk,hg⟩ rfl t_8 rfl rfl) ?_;refine U2 rfl rfl (fun h=>h) rfl rfl (fun hk hg=>a2T rfl ⟨hk,hg⟩ rfl rfl rfl (b1U _ _)) ?_;refine cG c2A ?_;refine cY a1f ?_;refine a3q ?_;refine cG a6C ?_;refine cG a9U ?_;refine d5k ?_;refine c2f ?_;refine cY a1f ?_;refine b0Y ?_;refine b8j ?_;refine d5k ?_;refine c2f ?_;refine a8t ?_;refine cC ?_ ?_ <;> intro h1
 ·exfalso;have hk:=h.kind;have hn:=h.num;have ho:=h.op;have hnm:=h.name;simp only [a6j,a0i,b6x,a2t,b8d,beq_eq_false_iff_ne,bne_iff_ne,ne_eq] at h1
  rcases h1 with (((h1 | h1) | ⟨h1,h2⟩) | ⟨h1,h2⟩) | ⟨h1,h2⟩ <;> first|omega|exact of_decide_eq_false h2 (hnm om_)|exact h2 (hn om_ om_ om_)|exact h2 (ho h1)
 ·refine a0E ?_;refine a8S ?_;refine a2m ?_;refine cC ?_ ?_ <;> intro h2
  ·have u2:=r7 h2;refine b3N ?_;refine a88 ?_;exact b9K
  ·have u2:=r6 h2;refine D6 ?_;refine cC ?_ ?_ <;> intro h3
   ·have u3:=r7 h3;refine b3N ?_;refine cG T7 ?_;refine cG b2Q ?_;refine cY a4t ?_;exact b9K
   ·have u3:=r6 h3;refine D6 ?_;refine cC ?_ ?_ <;> intro h4
    ·have u4:=r7 h4;refine b3N ?_;refine a88 ?_;exact b9K
    ·have u4:=r6 h4;refine D6 ?_;refine cC ?_ ?_ <;> intro h5
     ·have u5:=r7 h5;refine b3N ?_;refine a88 ?_;exact b9K
     ·have u5:=r6 h5;refine D6 ?_;refine cC ?_ ?_ <;> intro h6
      ·have u6:=r7 h6;refine b31 ?_;refine ye rfl b6V ⟨tt,tt⟩ (a29 x.name (by have:=h.len;omega) _) rfl ?_;exact b9K
      ·have u6:=r6 h6;refine D6 ?_;refine cC ?_ ?_ <;> intro h7
       ·have u7:=r7 h7;refine b31 ?_;refine yc rfl c5Q ⟨tt,tt⟩ (a1M x.name _) ?_;exact b9K
       ·have u7:=r6 h7;refine a6T ?_;refine cC ?_ ?_ <;> intro h8
        ·have u8:=r7 h8;refine c9 ?_;refine cC ?_ ?_ <;> intro h9
         ·have u9:=r7 h9;refine b31 ?_;exact d0h
         ·have u9:=r6 h9;exact d0e
        ·have u8:=r6 h8;refine D6 ?_;refine cC ?_ ?_ <;> intro h10
         ·have u10:=r7 h10;refine c9 ?_;refine cC ?_ ?_ <;> intro h11
          ·have u11:=r7 h11;refine b31 ?_;exact d0h
          ·have u11:=r6 h11;exact d0e
         ·have u10:=r6 h10;refine a1o ?_;refine cC ?_ ?_ <;> intro h12
          ·have u12:=r7 h12;refine b31 ?_;exact d0h
          ·have u12:=r6 h12;exact d0e
mutual
def Tr.dp:Tr->Nat
 | .n k _ _ _ ch=>dpL k ch 1
def dpL (k:Int):List Tr->Nat->Nat
 | [],n=>n
 | c::l,n=>dpL k l (max n (c.dp+if k=4 then 0 else 1))
end
theorem c8b {l:List Tr} (h:l[m]? = some c) (n:Nat):dpL k (l.drop m) n=dpL k (l.drop (m+1)) (max n (c.dp+if k=4 then 0 else 1)):=by
 obtain ⟨hlt,rfl⟩:=n_1.1 h;rw [Q4 hlt,dpL]
mutual
theorem Tr.dp_le {np:Nat}:∀ (t:Tr) (d:Nat),t.wf np d->t.dp+d<=33
 | .n k u o nm ch,d,h=>by
  rw [Tr.wf] at h;rw [Tr.dp];exact c7q ch k d 1 om_ h.2.2
theorem c7q {np:Nat}:∀ (l:List Tr) (k:Int) (d n:Nat),n+d<=33->wfL np (if k=4 then d else d+1) l->dpL k l n+d<=33
 | [],k,d,n,hn,_=>by rw [dpL];exact hn
 | c::l,k,d,n,hn,h=>by
  rw [wfL] at h;have h1:=Tr.dp_le c _ h.1;rw [dpL];refine c7q l k d _ ?_ h.2;split at h1 <;> rename_i hk <;> simp only [hk,if_true,if_false] at*<;> omega
end
def RDp (E:List Ex) (en:Bool) (t:Tr) (s:Nat):Prop:=∀ (σ:List b9),b8 CC 225 [.list (E.map Ex.cv) en none,iv ((s+t.size - 1:Nat):Int)] σ fun r τ=>r = .ret (iv t.dp)/\τ=σ
theorem d0y (hAt:a8U E (.n k u o nm ch) s) (hI:∀ (m:Nat) (c:Tr),ch[m]? = some c->RDp E en c (s+w8 (ch.take m))) (hB:∀ (m:Nat) (c:Tr),ch[m]? = some c->c.dp<=1000) (hch:ch.length<=1000):b8 CC 225 [(.list (E.map Ex.cv) en none),(iv ((s+(Tr.n k u o nm ch).size - 1:Nat):Int))] [] fun r σ'=>r = .ret (iv ((Tr.n k u o nm ch).dp:Int))/\σ'=[]:=by
 refine D5 (cO Tryz.func225 ?_);refine z_6 ?_;refine z_6 ?_;refine a1Q ?_;refine cY d6R ?_;refine d5T ?_;refine cY a7Y ?_;refine Z0 ?_;refine j5 hCC (α:=Nat × Nat) (fun a=>[(0,(.list (E.map Ex.cv) en none)),(1,(iv ((s+(Tr.n k u o nm ch).size - 1:Nat):Int))),(5,iv a.2),(13,(.list ((o0 ch s).map icv) (gnn (o0 ch s).length) none)),(14,(iv ((o0 ch s).length:Int))),(15,iv a.1)]) (fun _=>[]) (fun a=>a.1<=ch.length/\a.2<=1001/\(Tr.n k u o nm ch).dp=dpL k (ch.drop a.1) a.2) (fun a=>ch.length - a.1) (0,1) ⟨n_3 _,de_,by rw [Tr.dp];rfl⟩ tu_ (extra0:=[]) rfl r5 uz_ ?_;rintro ⟨m,n⟩ ⟨hm,hnb,hr⟩;dsimp only at hm hnb hr ⊢;refine C9 ?_;refine cC ?_ ?_ <;> intro h1
 ·have hlt:m < ch.length:=by simp [R0] at h1;omega
  obtain ⟨c,hc⟩:∃ c,ch[m]? = some c:=⟨ch[m]'hlt,si_⟩;have hg:=L4 (s:=s) hc;rw [c8b hc] at hr;have hcb:=hB m c hc;refine W7 ?_;refine d5g ?_;refine a7L ?_;refine yc rfl Tryz.call225 i7 (hI m c hc _) ?_;refine z_1 ?_;refine a1Q ?_;refine cY d6R ?_;refine d5o ?_;refine O1 ?_;refine cC ?_ ?_ <;> intro h2
  ·have hk4:¬ k=4:=sp_ h2;rw [if_neg hk4] at hr;refine a74 ?_;refine X0 ?_;refine cY (c8W rfl tt tt rfl rfl) ?_;refine a1j ?_;exact ⟨(m+1,max n (c.dp+1)),_,⟨do_,do_,do_,hr⟩,⟨m0,m0,⟨tt,(by show (iv (max (n:Int) ((c.dp:Int)+1)))=iv ((max n (c.dp+1):Nat):Int);congr 2;omega)⟩,m0,m0,m0,tt⟩,rfl⟩
  ·have hk4:k=4:=sp_ h2;rw [if_pos hk4] at hr;refine a9p ?_;refine cY (c8W rfl tt tt rfl rfl) ?_;refine a1j ?_;exact ⟨(m+1,max n (c.dp+0)),_,⟨do_,do_,do_,hr⟩,⟨m0,m0,⟨tt,(by show (iv (max (n:Int) (c.dp:Int)))=iv ((max n (c.dp+0):Nat):Int);congr 2;omega)⟩,m0,m0,m0,tt⟩,rfl⟩
 ·have hme:m=ch.length:=by simp [R0] at h1;omega
  rw [hme,b7S,dpL] at hr;refine a2y ?_;exact ⟨_,j2 rfl tt c4,_,_,rfl,rfl,G4 (by rw [hr])⟩
theorem b9p {E:List Ex} {en:Bool} (hE:E.length<=1000) {np:Nat}:∀ (n:Nat) (t:Tr) (s d:Nat),t.size<=n->a8U E t s->t.wf np d->RDp E en t s
 | 0,t,s,d,hs,_,_=>by have:=t.size_pos;omega
 | n+1,.n k u o nm ch,s,d,hs,hAt,hw=>fun σ=>by
  have hw':=hw;rw [Tr.wf] at hw';have hsz:(Tr.n k u o nm ch).size<=E.length:=by
   obtain ⟨E0,E1,he,_⟩:=hAt;rw [he,n_5,n_5,Tr.flat_len];omega
  rw [Tr.size] at hs hsz;have hsub:∀ (m:Nat) (c:Tr),ch[m]? = some c->c.size<=w8 ch:=fun m c hc=>by
   have h1:=a32 hc;have h2:=a07 ch (m+1);omega
  have hcl:=a3x ch;exact b8.anyw (args:=[_,_]) hCC ⟨a0t _ _,.val _,tt⟩ (.val _) (d0y hAt (fun m c hc=>b9p hE n c _ _ (by have:=hsub m c hc;omega) (hAt.child hc) (a54 hw'.2.2 hc)) (fun m c hc=>by have:=Tr.dp_le c _ (a54 hw'.2.2 hc);omega) om_) σ
theorem c6N (h:DeG d) (en:Bool) (σ:List b9):∃ n:Nat,n<=32/\b8 CC 225 [.list (d.body.map Ex.cv) en none,iv ((d.body.length:Int) - 1)] σ fun r τ=>r = .ret (iv n)/\τ=σ:=by
 obtain ⟨t,h1,h2⟩:=h.tree;have hl:d.body.length=t.size:=by rw [h1,Tr.flat_len]
 have hp:=t.size_pos;have hb:=h.blen;have hdp:=Tr.dp_le t 1 h2;have:=b9p (E:=d.body) (en:=en) om_ t.size t 0 1 (n_4 _) ⟨[],[],by rw [h1];simp,rfl⟩ h2 σ;rw [show ((0+t.size - 1:Nat):Int)=(d.body.length:Int) - 1 by omega] at this;exact ⟨t.dp,om_,this⟩
def fiD (k:Int) (o pa pk:Str):List De->Nat->En->En
 | [],_,e=>e
 | d::l,j,e=>fiD k o pa pk l (j+1) (if (d.k == k && decide (d.name=o))=true then (if (e.ct+1 == 1)=true then ⟨pk,e.o,e.k,pa,j,e.ct+1⟩ else ⟨e.p,e.o,e.k,e.pl,e.ix,e.ct+1⟩) else e)
def fiL (k:Int) (p o:Str):List (Str × Src)->En->En
 | [],e=>e
 | x::l,e=>fiL k p o l (if ((k != 3) && !decide (x.2.pkg=p))=true then e else fiD k o x.1 x.2.pkg x.2.decls 0 e)
def fiE (L:List (Str × Src)) (k:Int) (p o:Str):En:=fiL k p o L ⟨if k=3 then [] else p,o,k,[],0,0⟩
theorem c63 {o pa pk:Str} {l:List De} {j:Nat} {e:En} (h:l[j]? = some d):fiD k o pa pk (l.drop j) j e=fiD k o pa pk (l.drop (j+1)) (j+1) (if (d.k == k && decide (d.name=o))=true then (if (e.ct+1 == 1)=true then ⟨pk,e.o,e.k,pa,j,e.ct+1⟩ else ⟨e.p,e.o,e.k,e.pl,e.ix,e.ct+1⟩) else e):=by
 obtain ⟨hlt,rfl⟩:=n_1.1 h;rw [Q4 hlt];rfl
theorem c5W {p o:Str} {l:List (Str × Src)} {e:En} (h:l[i]? = some x):fiL k p o (l.drop i) e=fiL k p o (l.drop (i+1)) (if ((k != 3) && !decide (x.2.pkg=p))=true then e else fiD k o x.1 x.2.pkg x.2.decls 0 e):=by
 obtain ⟨hlt,rfl⟩:=n_1.1 h;rw [Q4 hlt];rfl
theorem d2Z (h:L[i]? = some x):(L.map Prod.fst)[i]? = some x.1:=by rw [O9,h];rfl
theorem c3H (h:L[i]? = some x):(L.map Prod.snd)[i]? = some x.2:=by rw [O9,h];rfl
theorem b7o (L:List (Str × Src)) (k:Int) (p o:Str) (hL:L.length<=1000) (hd:∀ x∈L,x.2.decls.length<=100000) (σ:List b9):b8 CC 62 [.agg (a0x (L.map Prod.fst) (L.map Prod.snd)),iv k,(sv p),(sv o)] σ fun r σ'=>r = .ret (.agg (fiE L k p o).cells)/\σ'=σ:=by
 refine an_ Tryz.func62 ?_;refine a65 ?_;refine cD (x8 rfl b3l rfl p8 ?_);refine c8 ?_;refine a0M ?_;refine cY d8E ?_;refine d6x ?_;refine c8 ?_;refine K8 hCC (α:=Str) (fun _=>[(1,iv k),(2,(sv p)),(3,(sv o)),(4,.ptr 0 0),(8,.ptr 1 0),(9,.ptr 2 0)]) (fun a=>[.box (a0x (L.map Prod.fst) (L.map Prod.snd)),.box En.z.cells,.box (⟨a,o,k,[],0,0⟩:En).cells]) (fun a=>a=if k=3 then [] else p) r5 uz_ ?_ ?_
 ·
  refine a3F ?_;refine cC ?_ ?_ <;> intro h1
  ·have hk:k=3:=sp_ h1;refine r3 ?_;refine cY b0W ?_;refine cD (j6 rfl tt rfl rfl c4 t_0 (.inl rfl) rfl rfl (nb rfl) ?_);refine c8 ?_;exact ⟨([]:Str),_,(if_pos hk).symm,tu_,rfl⟩
  ·have hk:¬ k=3:=sp_ h1;refine c9 ?_;exact ⟨p,_,(if_neg hk).symm,tu_,rfl⟩
 ·intro pp hpp;have hsl:(L.map Prod.snd).length=L.length:=a2O _;refine a0Y ?_;refine cY c2D ?_;refine cY b40 ?_;refine cY c8A ?_;refine Z0 ?_;refine j5 hCC (α:=Nat × En) (fun a=>[(1,iv k),(2,(sv p)),(3,(sv o)),(4,.ptr 0 0),(8,.ptr 1 0),(9,.ptr 2 0),(22,(.list ((L.map Prod.snd).map Src.cv) (gnn (L.map Prod.snd).length) none)),(23,(iv ((L.map Prod.snd).length:Int))),(24,iv a.1)]) (fun a=>[.box (a0x (L.map Prod.fst) (L.map Prod.snd)),.box En.z.cells,.box a.2.cells]) (fun a=>a.1<=L.length/\fiE L k p o=fiL k p o (L.drop a.1) a.2/\0<=a.2.ct/\a.2.ct<=100000*(a.1:Int)) (fun a=>L.length - a.1) (0,(⟨pp,o,k,[],0,0⟩:En)) ⟨n_3 _,by rw [hpp];rfl,b3b _,b3b _⟩ tu_ (extra0:=[]) rfl r5 uz_ ?_;intro ⟨i,e⟩ ⟨hi,hr,h0,hc⟩;dsimp only at hi hr h0 hc ⊢;refine C9 ?_;refine cC ?_ ?_ <;> intro h2
  ·have hlt:i < L.length:=sm_ h2;obtain ⟨x,hb⟩:∃ x,L[i]? = some x:=⟨L[i]'hlt,si_⟩;have hxd:=hd x (n_0 hb);rw [c5W hb] at hr;refine X9 ?_;refine cY d6X ?_;refine c7G ?_;refine d5j ?_;refine a9l ?_;refine a6s ?_;refine cG c5S ?_;refine cG a2E ?_;refine cG T7 ?_;refine cG (fun hg=>a2T rfl hg hg rfl rfl (b1U _ _)) ?_;refine a4M ?_;refine cC ?_ ?_ <;> intro h3
   ·rw [if_pos h3] at hr;exact d4N
   ·rw [if_neg (by rw [h3];exact Bool.false_ne_true)] at hr;refine a1d ?_;refine a6I ?_;refine j5 hCC (α:=Nat × En) (fun a=>[(1,iv k),(2,(sv p)),(3,(sv o)),(4,.ptr 0 0),(8,.ptr 1 0),(9,.ptr 2 0),(10,iv i),(11,.ptr 3 0),(22,(.list ((L.map Prod.snd).map Src.cv) (gnn (L.map Prod.snd).length) none)),(23,(iv ((L.map Prod.snd).length:Int))),(24,iv i),(38,(.list (x.2.decls.map De.cv) (gnn x.2.decls.length) none)),(39,iv x.2.decls.length),(40,iv a.1)]) (fun a=>[.box (a0x (L.map Prod.fst) (L.map Prod.snd)),.box En.z.cells,.box a.2.cells,.box x.2.cells]) (fun a=>a.1<=x.2.decls.length/\fiE L k p o=fiL k p o (L.drop (i+1)) (fiD k o x.1 x.2.pkg (x.2.decls.drop a.1) a.1 a.2)/\0<=a.2.ct/\a.2.ct<=100000*(i:Int)+(a.1:Int)) (fun a=>x.2.decls.length - a.1) (0,e) ⟨n_3 _,hr,h0,do_⟩ tu_ (extra0:=[]) rfl r5 uz_ ?_;intro ⟨j,e⟩ ⟨hj,hr,h0,hc⟩;dsimp only at hj hr h0 hc ⊢;refine C9 ?_;refine cC ?_ ?_ <;> intro h4
    ·have hjt:j < x.2.decls.length:=sm_ h4;obtain ⟨d,hdd⟩:∃ d,x.2.decls[j]? = some d:=⟨x.2.decls[j]'hjt,si_⟩;rw [c63 hdd] at hr;refine X9 ?_;refine cY (r8 rfl tt tt rfl rfl b2w a68 om_ (j3 hdd) rfl) ?_;refine cY b0K ?_;refine c64 ?_;refine S5 ?_;refine a4k ?_;refine b9k ?_;refine cY j1 ?_;refine cG b7W ?_;refine b3T ?_;refine a4M ?_;refine cC ?_ ?_ <;> intro h5
     ·rw [if_pos h5] at hr;refine z_0 ?_;refine b0M ?_;refine cY a0v ?_;refine cY b2G ?_;refine b9Z ?_;refine z_0 ?_;refine b0M ?_;refine O1 ?_;refine cC ?_ ?_ <;> intro h6
      ·rw [if_pos h6] at hr;refine cF [] [] [0,1,2,3,4,5,6,7,8,9,10,11,12,13] 9 [[2,3,4,5,6,7],[7],[7],[],[]] trivial ?_;refine chf rfl (c7 rfl c1H) ?_;refine chf rfl d0d ?_;refine chf rfl (c7 rfl a9x) ?_;refine chf rfl c51 ?_;refine chf rfl W9 ?_;refine chf rfl (c7 rfl b9C) ?_;refine chf rfl (c7 rfl U1) ?_;refine chf rfl W9 ?_;refine chf rfl (c7 rfl b0W) ?_;refine F9 ?_;refine A6 rfl rfl rfl rfl (j6 rfl tt tt rfl c4 t_0 (.inl rfl) rfl rfl (nb rfl) ?_);refine ⟨⟨(by exact c7 rfl a9x),(by exact c7 rfl a2D),E8,(by exact c7 rfl b9C),(by exact c7 rfl U1),E8,tt⟩,?_⟩;refine D9 rfl rfl rfl (c7 rfl b0W) ⟨⟨E8,tt⟩,?_⟩;refine A6 rfl rfl rfl rfl (j6 rfl tt tt rfl c4 t_0 (.inl rfl) rfl rfl (nb rfl) ?_);refine ⟨⟨E8,tt⟩,?_⟩;refine D9 rfl rfl rfl (c7 rfl b2G) ⟨tt,?_⟩;refine A6 rfl rfl rfl rfl (j6 rfl tt tt rfl c4 t_2 (.inl rfl) rfl rfl (nb rfl) ?_);refine a2C ?_;refine b0I ?_;exact ⟨(j+1,(⟨x.2.pkg,e.o,e.k,x.1,(j:Int),e.ct+1⟩:En)),_,⟨do_,do_,hr,do_,do_⟩,tu_,rfl⟩
      ·rw [if_neg (by rw [h6];exact Bool.false_ne_true)] at hr;refine a2l ?_;exact ⟨(j+1,(⟨e.p,e.o,e.k,e.pl,e.ix,e.ct+1⟩:En)),_,⟨do_,do_,hr,do_,do_⟩,tu_,rfl⟩
     ·rw [if_neg (by rw [h5];exact Bool.false_ne_true)] at hr;refine a2l ?_;exact ⟨(j+1,e),_,⟨do_,do_,hr,h0,do_⟩,tu_,rfl⟩
    ·have hge:x.2.decls.length<=j:=sm_ h4;rw [S8 hge] at hr;exact d4N
  ·have hge:L.length<=i:=sm_ h2;rw [S8 hge] at hr;replace hr:fiE L k p o=e:=hr;refine U9 ?_;refine cY b4l ?_;refine c1R ?_;exact ⟨_,B6 rfl c1w,_,_,rfl,rfl,(by rw [hr];exact .old (En.pure _).old)⟩
theorem d8Z {rows:List (List CV)} {r:List CV} {j:Nat} (h:rows[i]? = some r) (e:j=i):rows[j]? = some r:=e ▸ h
theorem c85 {f:α->List CV} {k:Nat} {l:List α} (hk:n<=k) (hs:σ[k]? = some (.vec s (l.map f))) (hp:∀ r∈l.map f,∀ c∈r,r9 c):Cls n σ (.vec k 0 l.length) (.list (l.map f) true none) :=
 .vec hk hs si_ si_ (fun i r r' h1 h2=>by
  have h3:(l.map f)[i]? = some r:=by simpa [U3] using h1
  rw [h3] at h2;injection h2 with h2;rw [h2]) (fun i j r r' c c' h1 h2 h3 h4=>by
  have h5:(l.map f)[i]? = some r:=by simpa [U3] using h1
  rw [h5] at h2;injection h2 with h2;subst h2
  rw [h3] at h4;injection h4 with h4;subst h4
  exact .old (hp r (n_0 h5) c (n_0 h3)).old)
def gV {α:Type}:List α->Nat->CV
 | [],_=>.list [] false none
 | x::l,q=>.vec q 0 (x::l).length
theorem b86 {l:List α} (h:l≠[]) (q:Nat):gV l q = .vec q 0 l.length:=by cases l;exact absurd rfl h;rfl
theorem c5p {l:List Fi} (hLe:B0 l=L) (nn:Bool) (h0:B7 l=0) (hl:l.length<=1000000) (hp:∀ f∈l,f.p.length<=1000000000) (hbl:∀ q b,B5 l q=some b->b.length<=1000000000) (hd:B7 l=0->∀ f∈l,B5 l f.p=some f.b) (σ:List b9):b8 CC 55 [.agg (A8 l nn)] σ fun r τ=>r = .ret (.agg (a0x (L.map Prod.fst) (L.map Prod.snd)))/\τ=σ:=by
 have h:=d1W l nn hl hp hbl hd σ;rw [b4T,b39,if_pos h0,if_pos h0,hLe] at h;exact h
def okK:List Ex->Nat->List Int->Prop
 | [],_,st=>st.length=1
 | x::l,i,st=>x.args.length<=st.length/\x.args=st.drop (st.length - x.args.length)/\okK l (i+1) (st.take (st.length - x.args.length)++[(i:Int)])
theorem c9G {l:List Ex} {x:Ex} (h:l[i]? = some x) (st:List Int):okK (l.drop i) i st↔x.args.length<=st.length/\x.args=st.drop (st.length - x.args.length)/\okK (l.drop (i+1)) (i+1) (st.take (st.length - x.args.length)++[(i:Int)]):=by
 obtain ⟨hlt,rfl⟩:=n_1.1 h;rw [Q4 hlt,okK]
def sO:List Int->List Int->b9
 | [],_=>.dead
 | x::l,rest=>.vec 1 ((x::l++rest).map icv)
theorem c8f {l:List Int} (h:l≠[]) (rest:List Int):sO l rest = .vec 1 ((l++rest).map icv):=by cases l;exact absurd rfl h;rfl
theorem b2S (n:Nat) (l r:List Int):I8 n (sO l r):=by
 cases l
 ·trivial
 ·exact b1l n _
theorem b8U (E:List Ex) (en:Bool) (hE:E.length<=1000) (hA:∀ x∈E,¬ arK x.k < 0->(x.args.length:Int)=arK x.k) (hok:okK E 0 []):b8 CC 223 [(.list (E.map Ex.cv) en none)] [] fun r τ=>∃ _:Unit,a1e 0 τ r (.ret (.val (.bool true)))/\True:=by
 refine cO Tryz.func223 ?_;refine z_6 ?_;refine Q7 ?_;refine cY b1P ?_;refine Z0 ?_;refine B2 hCC 0 rfl (α:=List Int × List Int × Nat) (fun a=>[(3,gV a.1 0),(8,(.list (E.map Ex.cv) en none)),(9,iv E.length),(10,iv a.2.2)]) (fun a=>[sO a.1 a.2.1]) (fun a=>a.2.2<=E.length/\a.1.length+a.2.1.length<=a.2.2/\okK (E.drop a.2.2) a.2.2 a.1) (fun a=>E.length - a.2.2) ⟨([],[],0),[99],⟨n_3 _,n_4 _,hok⟩,⟨rfl,rfl⟩,ut_,uq_⟩ ?_;rintro ⟨st,rest,i⟩ ⟨hi,hsr,hr⟩;dsimp only at hi hsr hr ⊢;refine C9 ?_;refine cC ?_ ?_ <;> intro h1
 ·have hlt:i < E.length:=sm_ h1;obtain ⟨x,hb⟩:∃ x,E[i]? = some x:=⟨E[i]'hlt,si_⟩;rw [c9G hb] at hr;obtain ⟨k1,k2,hr⟩:=hr;have hax:=hA x (n_0 hb);by_cases hne:st=[]
  ·subst hne;refine X9 ?_;refine cY c2h ?_;refine c3j ?_;refine c2G ?_;refine S5 ?_;refine c8R ?_;refine z_1 ?_;refine K8 hCC (α:=Unit) (fun _=>[(3,(.list [] false none)),(4,iv i),(5,.ptr 1 0),(6,iv x.args.length),(8,(.list (E.map Ex.cv) en none)),(9,iv E.length),(10,iv i)]) (fun _=>[.dead,.box x.cells]) (fun _=>True) r5 uz_ ?_ ?_
   ·
    refine a3F ?_;refine cC ?_ ?_ <;> intro h2
    ·refine r3 ?_;refine a6y ?_;exact c83
    ·have hge:¬ arK x.k < 0:=sp_ h2;have hn2:=hax hge;exact c7l
   ·intro _ _;refine a0Y ?_;refine a6y ?_;refine cY j1 ?_;refine a9H ?_;refine cG (fun hg=>a0j rfl hg rfl t_4 b1s rfl) ?_;refine a6v ?_;refine cC ?_ ?_ <;> intro h3
    ·exfalso;simp at h3;simp at k1;simp [k1] at h3
    ·refine z_8 ?_;refine a7q ?_;refine j5 hCC (α:=Nat) (fun k=>[(3,(.list [] false none)),(4,iv i),(5,.ptr 1 0),(6,iv x.args.length),(7,iv k),(8,(.list (E.map Ex.cv) en none)),(9,iv E.length),(10,iv i)]) (fun _=>[.dead,.box x.cells]) (fun k=>k<=x.args.length) (fun k=>x.args.length - k) 0 (n_3 _) tu_ (extra0:=[]) rfl r5 uz_ ?_;intro k hk;refine a1Q ?_;refine a7N ?_;refine cC ?_ ?_ <;> intro h4
     ·exfalso;have:=Nat.le_zero.1 k1;simp at h4;omega
     ·have k0:x.args.length=0:=Nat.le_zero.1 k1;have hnil:∀ r∈([]:List (List CV)),r.length=1:=fun r h=>by cases h
      have hl0:([]:List (List CV)).length=0:=rfl;have hl1:([]:List Int).length=0:=rfl;refine A4 ?_;refine X0 ?_;refine cY a7Y ?_;refine cY j1 ?_;refine cY a9w ?_;refine cY (a3R (h:=0) rfl tt rfl t_4 t_2 b2v rfl a94 a9q E7) ?_;refine cY j1 ?_;refine cY d8a ?_;refine cD (c1Q 1 rfl tt tt rfl q_2 t_4 t_2 b95 t_6 rfl si_ c7F E7 si_ ?_);refine a1j ?_;exact ⟨(([]++[(i:Int)]),[],i+1),[2],⟨do_,do_,by dsimp only;simp,sp_ hr⟩,⟨rfl,rfl⟩,ut_,uq_⟩
  ·rw [b86 hne,c8f hne];by_cases hin:x.args.length=0/\rest=[]
   ·obtain ⟨hn0,hrest⟩:=hin;refine X9 ?_;refine cY c2h ?_;refine c3j ?_;refine c2G ?_;refine S5 ?_;refine c8R ?_;refine z_1 ?_;refine K8 hCC (α:=Unit) (fun _=>[(3,(.vec 0 0 st.length)),(4,iv i),(5,.ptr 1 0),(6,iv x.args.length),(8,(.list (E.map Ex.cv) en none)),(9,iv E.length),(10,iv i)]) (fun _=>[(.vec 1 ((st++rest).map icv)),.box x.cells]) (fun _=>True) r5 uz_ ?_ ?_
    ·
     refine a3F ?_;refine cC ?_ ?_ <;> intro h2
     ·refine r3 ?_;refine a6y ?_;exact c83
     ·have hge:¬ arK x.k < 0:=sp_ h2;have hn2:=hax hge;exact c7l
    ·intro _ _;refine a0Y ?_;refine a6y ?_;refine cY j1 ?_;refine a9H ?_;refine cG (fun hg=>a6e rfl hg rfl t_4 rfl rfl) ?_;refine a6v ?_;refine cC ?_ ?_ <;> intro h3
     ·exfalso;simp at h3;omega
     ·refine z_8 ?_;refine z_6 ?_;refine d5q ?_;intro k hk;refine a1Q ?_;refine a7N ?_;refine cC ?_ ?_ <;> intro h4
      ·have hlk:k < x.args.length:=sm_ h4;obtain ⟨v,hv⟩:∃ v,x.args[k]? = some v:=⟨x.args[k]'hlk,si_⟩;have hv2:(st++rest)[st.length - x.args.length+k]? = some v:=by
        rw [M5 om_,<- a66,<- k2,hv]
       refine a4O ?_;refine A5 ?_;refine cW 15 ?_;refine b67 ?_;refine hY j1 ?_;refine hY c1X ?_;refine b8G ?_;refine hY b9w ?_;refine hY j1 ?_;refine hY a9w ?_;refine hY j1 ?_;refine hY a4s ?_;refine d5m ?_;refine hY a5P ?_;refine a4L ?_;refine cC ?_ ?_ <;> intro h5
       ·exfalso;simp at h5
       ·exact d5r
      ·refine A4 ?_;refine X0 ?_;refine cY b9w ?_;refine cY j1 ?_;refine cY a9w ?_;refine cY q_9 ?_;refine cY j1 ?_;refine cY d8a ?_;refine cD (a5i (((st.take (st.length - x.args.length)++[(i:Int)])++[]).map icv) (st.take (st.length - x.args.length)++[(i:Int)]).length rfl tt tt rfl q_2 t_4 t_2 b95 t_6 rfl rfl (by simp [hn0,hrest]) si_ c7F E7 (by simp [hn0,hrest,icv]) (by simp [hn0,hrest]) ?_);refine a1j ?_;exact ⟨((st.take (st.length - x.args.length)++[(i:Int)]),[],i+1),[2],⟨do_,do_,by dsimp only;simp;omega,hr⟩,⟨rfl,rfl⟩,q_1,⟨.inr ⟨_,rfl,.same (c8f si_ _).symm (b2S _ _ _)⟩,tt⟩⟩
   ·have hin2:st.length - x.args.length+1<=st.length+rest.length:=by
     rcases b3g x.args.length with h | h
     ·have:rest≠[]:=fun e=>hin ⟨h,e⟩;have:=a85.2 this;omega
     ·omega
    refine X9 ?_;refine cY c2h ?_;refine c3j ?_;refine c2G ?_;refine S5 ?_;refine c8R ?_;refine z_1 ?_;refine K8 hCC (α:=Unit) (fun _=>[(3,(.vec 0 0 st.length)),(4,iv i),(5,.ptr 1 0),(6,iv x.args.length),(8,(.list (E.map Ex.cv) en none)),(9,iv E.length),(10,iv i)]) (fun _=>[(.vec 1 ((st++rest).map icv)),.box x.cells]) (fun _=>True) r5 uz_ ?_ ?_
    ·
     refine a3F ?_;refine cC ?_ ?_ <;> intro h2
     ·refine r3 ?_;refine a6y ?_;exact c83
     ·have hge:¬ arK x.k < 0:=sp_ h2;have hn2:=hax hge;exact c7l
    ·intro _ _;refine a0Y ?_;refine a6y ?_;refine cY j1 ?_;refine a9H ?_;refine cG (fun hg=>a6e rfl hg rfl t_4 rfl rfl) ?_;refine a6v ?_;refine cC ?_ ?_ <;> intro h3
     ·exfalso;simp at h3;omega
     ·refine z_8 ?_;refine z_6 ?_;refine d5q ?_;intro k hk;refine a1Q ?_;refine a7N ?_;refine cC ?_ ?_ <;> intro h4
      ·have hlk:k < x.args.length:=sm_ h4;obtain ⟨v,hv⟩:∃ v,x.args[k]? = some v:=⟨x.args[k]'hlk,si_⟩;have hv2:(st++rest)[st.length - x.args.length+k]? = some v:=by
        rw [M5 om_,<- a66,<- k2,hv]
       refine a4O ?_;refine A5 ?_;refine cW 15 ?_;refine b67 ?_;refine hY j1 ?_;refine hY c1X ?_;refine b8G ?_;refine hY b9w ?_;refine hY j1 ?_;refine hY a9w ?_;refine hY j1 ?_;refine hY a4s ?_;refine d5m ?_;refine hY a5P ?_;refine a4L ?_;refine cC ?_ ?_ <;> intro h5
       ·exfalso;simp at h5
       ·exact d5r
      ·refine A4 ?_;refine X0 ?_;refine cY b9w ?_;refine cY j1 ?_;refine cY a9w ?_;refine cY q_9 ?_;refine cY j1 ?_;refine cY d8a ?_;refine cD (b3j (((st.take (st.length - x.args.length)++[(i:Int)])++((st++rest).drop (st.length - x.args.length+1))).map icv) (st.take (st.length - x.args.length)++[(i:Int)]).length rfl tt tt rfl q_2 t_4 t_2 rfl Q9 (by rw [n_9];unfold V5;simp [b5x,icv,b3x,List.map_drop,c1N];done) si_ rfl ?_);refine a1j ?_;exact ⟨((st.take (st.length - x.args.length)++[(i:Int)]),((st++rest).drop (st.length - x.args.length+1)),i+1),[0],⟨do_,do_,by dsimp only;simp;omega,hr⟩,⟨rfl,rfl⟩,q_1,⟨.inr ⟨_,rfl,.same (c8f si_ _).symm (b2S _ _ _)⟩,tt⟩⟩
 ·have hie:i=E.length:=sm_ h1;rw [hie,b7S,okK] at hr;obtain ⟨z,rfl⟩:=List.length_eq_one_iff.1 hr;refine b0t ?_;refine cY b9w ?_;refine cY S7 ?_;refine z_7 ?_;exact ⟨_,j2 rfl tt rfl,⟨(),.ret (.old (.val _)),tt⟩⟩
theorem b9R (E:List Ex) (en:Bool) (hE:E.length<=1000) (hA:∀ x∈E,¬ arK x.k < 0->(x.args.length:Int)=arK x.k) (hok:okK E 0 []) (σ:List b9):b8 CC 223 [.list (E.map Ex.cv) en none] σ fun r τ=>r = .ret (.val (.bool true))/\τ=σ :=
 (F6 (res:=fun _:Unit=>.ret (.val (.bool true))) (P:=fun _=>True) hCC (fun a h=>by simp at h;subst h;exact a0t _ _) (b8U E en hE hA hok) (fun _ _=>.val _) σ).mono fun r τ ⟨_,h1,h2,_⟩=>⟨h1,h2⟩
mutual
theorem b7P:∀ (t:Tr) (s:Nat) (R:List Ex) (st:List Int),okK (t.flat s++R) s st↔okK R (s+t.size) (st++[((s+t.size - 1:Nat):Int)])
 | .n k u o nm ch,s,R,st=>by
  rw [Tr.flat,n_8,b4M ch s _ st,List.singleton_append,okK,Tr.size];have hl:(st++o0 ch s).length - (o0 ch s).length=st.length:=by rw [n_5];omega
  dsimp only;rw [hl,List.drop_left,List.take_left,n_5,show s+(w8 ch+1) - 1=s+w8 ch by omega,<- b0k];exact ⟨fun h=>h.2.2,fun h=>⟨om_,rfl,h⟩⟩
theorem b4M:∀ (l:List Tr) (s:Nat) (R:List Ex) (st:List Int),okK (J2 l s++R) s st↔okK R (s+w8 l) (st++o0 l s)
 | [],s,R,st=>by rw [J2,w8,o0,a7t,a2q];rfl
 | t::l,s,R,st=>by rw [J2,n_8,b7P t s,b4M l,o0,w8,n_8,List.singleton_append,b0k]
end
theorem c7X (t:Tr):okK (t.flat 0) 0 []:=by
 have:=(b7P t 0 [] []).2 (by simp [okK]);rwa [a2q] at this
theorem DeG.ar (h:DeG d):∀ x∈d.body,U8 d.params.length x.k x.num x.op x.name x.args.length:=fun x hx=>by
 obtain ⟨t,h1,h2⟩:=h.tree;obtain ⟨j,hj⟩:=L3.1 hx;have hl:=(n_1.1 hj).1;rw [h1,Tr.flat_len] at hl;obtain ⟨y,z,ch,g⟩:=b6a h2 hl;rw [h1] at hj;obtain rfl:=Option.some.inj (hj.symm.trans g.e);exact g.ok
theorem U8.arK {np c:Nat} {k u o:Int} {nm:Str} (h:U8 np k u o nm c) (hn:¬ arK k < 0):(c:Int)=arK k:=by
 have hc:=h.cnt;unfold Go.Proofs.YtlppbmfecjabeaaGreatDoor.arK at hn ⊢;by_cases h3:k=3
 ·rw [if_pos h3] at hn;omega
 ·rw [if_neg h3] at hn ⊢;split at hc
  ·rename_i h4;rw [if_pos h4];omega
  ·rename_i h4;rw [if_neg h4];split at hc
   ·rename_i h5;rw [if_pos h5];omega
   ·rename_i h5;rw [if_neg h5];split at hc
    ·rename_i h6;rw [if_pos h6];omega
    ·rename_i h6;rw [if_neg h6];omega
theorem c4D (l:List De) (nn:Bool) (k:Int) (u:Str) (hl:l.length<=1000000):b8 CC 224 [.agg [sv [],.list [] false none,.list (l.map De.cv) nn none],iv k,(sv u)] [] fun r σ'=>r = .ret (.val (.bool (l.any fun d=>(d.k == k) && decide (d.name=u))))/\σ'=[]:=by
 refine D5 (cO Tryz.func224 ?_);refine a2M ?_;refine a6I ?_;refine j5 hCC (α:=Nat) (fun i=>[(1,iv k),(2,(sv u)),(10,(.list (l.map De.cv) nn none)),(11,iv l.length),(12,iv i)]) (fun _=>[.box [sv [],.list [] false none,.list (l.map De.cv) nn none]]) (fun i=>i<=l.length/\(l.any fun d=>(d.k == k) && decide (d.name=u))=((l.drop i).any fun d=>(d.k == k) && decide (d.name=u))) (fun i=>l.length - i) 0 ⟨n_3 _,rfl⟩ tu_ (extra0:=[]) rfl r5 uz_ ?_;intro i ⟨hi,hd⟩;refine C9 ?_;refine cC ?_ ?_ <;> intro h1
 ·have hlt:i < l.length:=sm_ h1;obtain ⟨w,hb⟩:∃ w,l[i]? = some w:=⟨l[i]'hlt,si_⟩;refine W7 ?_;refine cY c7S ?_;refine cY b0K ?_;refine b5O ?_;refine S5 ?_;refine a4k ?_;refine b9k ?_;refine cY j1 ?_;refine cG b7W ?_;refine b3T ?_;refine a4M ?_;refine cC ?_ ?_ <;> intro h2
  ·have hw:((w.k == k) && decide (w.name=u))=true:=sp_ h2;refine I0 ?_;exact ⟨_,j2 rfl tt c4,_,_,rfl,rfl,j7 (show true=(l.any fun d=>(d.k == k) && decide (d.name=u)) from (b3L hb hw).symm)⟩
  ·have hw:((w.k == k) && decide (w.name=u))=false:=sp_ h2;exact d4Z
 ·have hge:l.length<=i:=sm_ h1;refine a1w ?_;exact ⟨_,j2 rfl tt c4,_,_,rfl,rfl,j7 (show false=(l.any fun d=>(d.k == k) && decide (d.name=u)) by rw [hd,S8 hge];rfl)⟩
theorem c4V (l:List De) (nn:Bool) (i:Nat) (k:Int) (u:Str) (hl:l.length<=1000000) (σ:List b9):b8 CC 224 [.agg [sv [],.list [] false none,.list (((l.map De.cv).take i).drop 0) nn none],iv k,sv u] σ fun r σ'=>r = .ret (.val (.bool ((l.take i).any fun d=>(d.k == k) && decide (d.name=u))))/\σ'=σ:=by
 rw [a8G,<- b3x];exact b8.anyw hCC (by repeat' (first|exact .val _|exact C2 [] _|exact a42 _ _|exact tt | refine o3 ?_ | refine ⟨?_,?_⟩)) (.val _) (c4D (l.take i) nn k u a5U) σ
theorem c3L (l:List Str) (nn:Bool) (i:Nat) (x:Str) (hl:l.length<=1000000) (σ:List b9):b8 CC 186 [.list (((l.map scv).take i).drop 0) nn none,sv x] σ fun r σ'=>r = .ret (.val (.bool (decide (x∈l.take i))))/\σ'=σ:=by
 rw [a8G,<- b3x];exact a7x (l.take i) nn x a5U σ
theorem c75 {l:List De} (h:(l.map fun d=>(d.k,d.name)).Nodup) (hd:l[i]? = some d):((l.take i).any fun y=>(y.k == d.k) && decide (y.name=d.name))=false:=by
 refine List.any_eq_false.2 fun y hy he=>?_;simp at he;refine a2a h (i:=i) (y:=(d.k,d.name)) (by rw [O9,hd];rfl) ?_;rw [<- b3x];exact K5.2 ⟨y,hy,by rw [he.1,he.2]⟩
theorem DeG.nlen (h:DeG d):d.name.length<=80:=by
 by_cases hk:d.k=3
 ·exact L1 (h.path hk)
 ·have:=B4 (h.name hk).1;omega
theorem c0j (x:Src) (h:a3z x) (σ:List b9):b8 CC 177 [.agg x.cells] σ fun r σ'=>r = .ret (iv (0))/\σ'=σ:=by
 refine an_ Tryz.func177 ?_;refine a2M ?_;refine a7X ?_;refine ye rfl b6V ⟨tt,tt⟩ (a29 x.pkg (by have:=B4 h.pkg.1;omega) _) rfl ?_;refine S4 ?_;refine cC ?_ ?_ <;> intro h1
 ·exfalso;simp [h.pkg] at h1
 ·have hil:=h.impl;have hdl:=h.decl;refine a0E ?_;refine a4l ?_;refine a1i ?_;refine j5 hCC (α:=Nat) (fun i=>[(1,.ptr 0 0),(24,(.list (x.imports.map scv) (gnn x.imports.length) none)),(25,iv x.imports.length),(26,iv i)]) (fun _=>[.box x.cells]) (fun i=>i<=x.imports.length) (fun i=>x.imports.length - i) 0 (n_3 _) tu_ (extra0:=[]) rfl r5 uz_ ?_;intro i hi;refine C9 ?_;refine cC ?_ ?_ <;> intro h2
  ·have hlt:i < x.imports.length:=sm_ h2;obtain ⟨y,hb⟩:∃ y,x.imports[i]? = some y:=⟨x.imports[i]'hlt,si_⟩;have hnm:=h.imp y (n_0 hb);refine a6S ?_;refine O0 ?_;refine ye rfl b6V ⟨tt,tt⟩ (a29 y b3Y _) rfl ?_;refine S4 ?_;refine cC ?_ ?_ <;> intro h3
   ·exfalso;simp [hnm] at h3
   ·exact a69
  ·refine a9O ?_;refine a6I ?_;refine j5 hCC (α:=Nat) (fun i=>[(1,.ptr 0 0),(35,(.list (x.decls.map De.cv) (gnn x.decls.length) none)),(36,iv x.decls.length),(37,iv i)]) (fun _=>[.box x.cells]) (fun i=>i<=x.decls.length) (fun i=>x.decls.length - i) 0 (n_3 _) tu_ (extra0:=[]) rfl r5 uz_ ?_;intro i hi;refine C9 ?_;refine cC ?_ ?_ <;> intro h4
   ·have hlt:i < x.decls.length:=sm_ h4;obtain ⟨d,hd⟩:∃ d,x.decls[i]? = some d:=⟨x.decls[i]'hlt,si_⟩;have hg:=h.dec d (n_0 hd);have hpl:=hg.parl;have hbl:=hg.blen;have hnl:=hg.nlen;refine W7 ?_;refine b2T ?_;refine b5O ?_;refine T5 ?_;refine a4k ?_;refine a6s ?_;refine b6q ?_;refine a4D ?_;refine cY j1 ?_;refine b6q ?_;refine b8j ?_;refine U2 rfl rfl (fun h=>h) rfl rfl (fun hk hg=>j4 rfl tt rfl b1n rfl a2U de_) ?_;refine U2 rfl rfl (fun h=>h) rfl rfl (fun hk hg=>o5 rfl ⟨hk,hg⟩ rfl b51 rfl rfl) ?_;refine U2 rfl rfl (fun h=>h) rfl rfl (fun hk hg=>a0j rfl ⟨hk,hg⟩ rfl t_1 b1s rfl) ?_;refine c2f ?_;refine cY a1f ?_;refine cY j1 ?_;refine b6q ?_;refine b8j ?_;refine d5V ?_;refine U2 rfl rfl (fun h=>h) rfl rfl (fun hk hg=>j8 rfl c34 ⟨⟨hk,hg⟩,tt⟩ (a1K d.name _) rfl) ?_;refine c2d ?_;refine cY a1f ?_;refine cY j1 ?_;refine b6q ?_;refine b8j ?_;refine d5V ?_;refine U2 rfl rfl (fun h=>h) rfl rfl (fun hk hg=>j8 rfl b6V ⟨⟨hk,hg⟩,tt⟩ (a29 d.name om_ _) rfl) ?_;refine c2d ?_;refine a8t ?_;refine cC ?_ ?_ <;> intro h5
    ·exfalso;have hn:=hg.name;have hp:=hg.path;have hpa:=hg.pars
     rcases hg.kind with hk | hk | hk
     ·have a1:=hn om_;simp [hk,a1] at h5
     ·have a1:=hn om_;have a2:=hpa om_;simp [hk,a1,a2] at h5
     ·have a1:=hp hk;have a2:=hpa om_;simp [hk,a1,a2] at h5
    ·refine a0E ?_;refine a6p ?_;refine a1i ?_;refine j5 hCC (α:=Nat) (fun j=>[(1,.ptr 0 0),(6,.ptr 1 0),(35,(.list (x.decls.map De.cv) (gnn x.decls.length) none)),(36,iv x.decls.length),(37,iv i),(83,(.list (d.params.map scv) (gnn d.params.length) none)),(84,iv d.params.length),(85,iv j)]) (fun _=>[.box x.cells,.box d.cells]) (fun j=>j<=d.params.length) (fun j=>d.params.length - j) 0 (n_3 _) tu_ (extra0:=[]) rfl r5 uz_ ?_;intro j hj;refine C9 ?_;refine cC ?_ ?_ <;> intro h6
     ·have hlt:j < d.params.length:=sm_ h6;obtain ⟨y,hb⟩:∃ y,d.params[j]? = some y:=⟨d.params[j]'hlt,si_⟩;have hnm:=hg.par y (n_0 hb);refine a6S ?_;refine O0 ?_;refine ye rfl b6V ⟨tt,tt⟩ (a29 y b3Y _) rfl ?_;refine S4 ?_;refine cC ?_ ?_ <;> intro h7
      ·exfalso;simp [hnm] at h7
      ·exact c6x
     ·refine a9O ?_;refine b07 ?_;refine Z0 ?_;refine j5 hCC (α:=Nat) (fun j=>[(1,.ptr 0 0),(6,.ptr 1 0),(35,(.list (x.decls.map De.cv) (gnn x.decls.length) none)),(36,iv x.decls.length),(37,iv i),(94,(.list (d.body.map Ex.cv) (gnn d.body.length) none)),(95,iv d.body.length),(96,iv j)]) (fun _=>[.box x.cells,.box d.cells]) (fun j=>j<=d.body.length) (fun j=>d.body.length - j) 0 (n_3 _) tu_ (extra0:=[]) rfl r5 uz_ ?_;intro j hj;refine C9 ?_;refine cC ?_ ?_ <;> intro h8
      ·have hlt:j < d.body.length:=sm_ h8;obtain ⟨y,hb⟩:∃ y,d.body[j]? = some y:=⟨d.body[j]'hlt,si_⟩;refine W7 ?_;refine cY c2h ?_;refine cY b9s ?_;refine c9g ?_;refine S5 ?_;refine cY a5B ?_;refine a6p ?_;refine cY a0K ?_;refine yc rfl Tryz.call222 i7 (c0T y d.params.length _ (hg.ar y (n_0 hb)) _) ?_;refine S4 ?_;refine cC ?_ ?_ <;> intro h9
       ·exfalso;simp at h9
       ·exact c6x
      ·refine U9 ?_;refine b3s ?_;refine ye rfl Tryz.call223 ⟨tt,tt⟩ (b9R d.body _ om_ (fun y hy=>(hg.ar y hy).arK) (by obtain ⟨t,ht,_⟩:=hg.tree;rw [ht];exact c7X t) _) rfl ?_;refine S4 ?_;refine cC ?_ ?_ <;> intro h10
       ·exfalso;simp at h10
       ·exact a69
   ·refine a9O ?_;refine a4l ?_;refine a1i ?_;refine j5 hCC (α:=Nat) (fun i=>[(1,.ptr 0 0),(113,(.list (x.imports.map scv) (gnn x.imports.length) none)),(114,iv x.imports.length),(115,iv i)]) (fun _=>[.box x.cells]) (fun i=>i<=x.imports.length) (fun i=>x.imports.length - i) 0 (n_3 _) tu_ (extra0:=[]) rfl r5 uz_ ?_;intro i hi;refine C9 ?_;refine cC ?_ ?_ <;> intro h11
    ·have hlt:i < x.imports.length:=sm_ h11;obtain ⟨y,hb⟩:∃ y,x.imports[i]? = some y:=⟨x.imports[i]'hlt,si_⟩;refine X9 ?_;refine b1K ?_;refine a9t ?_;refine a7X ?_;refine cY b3u ?_;refine cY j1 ?_;refine c9l ?_;refine cG T7 ?_;refine cG (fun hg=>a3R (h:=i) rfl hg rfl t_1 t_0 b2v rfl ⟨hg,_,_,rfl,om_,om_⟩ a9q b4W) ?_;refine cG T7 ?_;refine cG (fun hg=>j8 rfl b8x ⟨hg,hg,tt⟩ (c3L x.imports _ i y om_ _) rfl) ?_;refine a8t ?_;refine cC ?_ ?_ <;> intro h12
     ·exfalso;have a1:=a2a h.impn hb;have a2:y≠x.pkg:=fun e=>h.impp (e ▸ n_0 hb);simp [a1,a2] at h12
     ·exact a69
    ·refine a9O ?_;refine a6I ?_;refine j5 hCC (α:=Nat) (fun i=>[(1,.ptr 0 0),(134,(.list (x.decls.map De.cv) (gnn x.decls.length) none)),(135,iv x.decls.length),(136,iv i)]) (fun _=>[.box x.cells]) (fun i=>i<=x.decls.length) (fun i=>x.decls.length - i) 0 (n_3 _) tu_ (extra0:=[]) rfl r5 uz_ ?_;intro i hi;refine C9 ?_;refine cC ?_ ?_ <;> intro h13
     ·have hlt:i < x.decls.length:=sm_ h13;obtain ⟨d,hd⟩:∃ d,x.decls[i]? = some d:=⟨x.decls[i]'hlt,si_⟩;have hg:=h.dec d (n_0 hd);have hpl:=hg.parl;refine X9 ?_;refine b2T ?_;refine c64 ?_;refine z_9 ?_;refine A5 ?_;refine cW 10 ?_;refine hY c7P ?_;refine hY c9v ?_;refine hY j1 ?_;refine hY (a3R (h:=i) rfl tt rfl b2w a68 b2v rfl a94 a9q b4W) ?_;refine hY d8p ?_;refine hY c1C ?_;refine hY a0H ?_;refine hY c3i ?_;refine hY V7 ?_;refine hY (j8 rfl Tryz.call224 C0 (c4V x.decls _ i d.k d.name om_ _) rfl) ?_;refine a4L ?_;refine cC ?_ ?_ <;> intro h14
      ·exfalso;rw [c75 h.decn hd] at h14;cases h14
      ·refine a1d ?_;refine a6p ?_;refine a1i ?_;refine j5 hCC (α:=Nat) (fun j=>[(1,.ptr 0 0),(14,.ptr 1 0),(134,(.list (x.decls.map De.cv) (gnn x.decls.length) none)),(135,iv x.decls.length),(136,iv i),(152,(.list (d.params.map scv) (gnn d.params.length) none)),(153,iv d.params.length),(154,iv j)]) (fun _=>[.box x.cells,.box d.cells]) (fun j=>j<=d.params.length) (fun j=>d.params.length - j) 0 (n_3 _) tu_ (extra0:=[]) rfl r5 uz_ ?_;intro j hj;refine C9 ?_;refine cC ?_ ?_ <;> intro h15
       ·have hlt:j < d.params.length:=sm_ h15;obtain ⟨y,hb⟩:∃ y,d.params[j]? = some y:=⟨d.params[j]'hlt,si_⟩;refine X9 ?_;refine b1K ?_;refine b25 ?_;refine z_0 ?_;refine b17 ?_;refine cY (a3R (h:=j) rfl tt rfl t_1 t_0 b2v rfl a94 a9q b4W) ?_;refine cY j1 ?_;refine ye rfl b8x i7 (c3L d.params _ j y om_ _) rfl ?_;refine c8 ?_;refine cC ?_ ?_ <;> intro h16
        ·exfalso;simp [a2a hg.nod hb] at h16
        ·exact c6x
       ·exact c8K
     ·refine a9O ?_;refine a4l ?_;refine cY a0K ?_;refine a6s ?_;refine cG c2L ?_;refine cG c29 ?_;refine cG c3D ?_;refine a7w ?_;refine cC ?_ ?_ <;> intro h17
      ·exfalso;simp at h17;omega
      ·refine a0E ?_;refine a6I ?_;refine j5 hCC (α:=Nat) (fun i=>[(178,(.list (x.decls.map De.cv) (gnn x.decls.length) none)),(179,iv x.decls.length),(180,iv i)]) (fun _=>[.box x.cells]) (fun i=>i<=x.decls.length) (fun i=>x.decls.length - i) 0 (n_3 _) tu_ (extra0:=[]) rfl r5 uz_ ?_;intro i hi;refine C9 ?_;refine cC ?_ ?_ <;> intro h18
       ·have hlt:i < x.decls.length:=sm_ h18;obtain ⟨d,hd⟩:∃ d,x.decls[i]? = some d:=⟨x.decls[i]'hlt,si_⟩;have hg:=h.dec d (n_0 hd);have hpl:=hg.parl;have hbl:=hg.blen;obtain ⟨n,hn,hdeep⟩:=c6N hg (gnn d.body.length) [.box x.cells,.box d.cells];refine W7 ?_;refine b2T ?_;refine b5O ?_;refine S5 ?_;refine a6p ?_;refine cY a0K ?_;refine a6s ?_;refine cG b7A ?_;refine b9B ?_;refine a4D ?_;refine cY j1 ?_;refine cG b7A ?_;refine cG d4z ?_;refine cG b7A ?_;refine b9B ?_;refine cG d1N ?_;refine cG (fun hg=>j8 rfl Tryz.call225 ⟨hg,hg,tt⟩ (hdeep) rfl) ?_;refine a7w ?_;refine cC ?_ ?_ <;> intro h19
        ·exfalso;simp at h19;omega
        ·exact a69
       ·refine a1w ?_;exact ⟨_,j2 rfl tt c4,_,_,rfl,rfl,G4 rfl⟩
theorem b5e (hσ:WAt σ w q1 q2 t fl nn va br ms me) (k:Int) (p o:Str):b8 CC 90 [.ptr w 0,iv k,(sv p),(sv o)] σ fun r τ=>r = .ret (.agg (a0w va me k p o).cells)/\τ=σ :=
 b4e (fun a h=>by simp at h;rcases h with rfl | rfl | rfl <;> exact .val _) (En.pure _) (c8C fl nn va br ms me k p o) hσ
theorem d1q (hσ:WAt σ w q1 q2 t fl nn va br ms me) (s:Str) (hfl:fl.length<=1000000):b8 CC 110 [.ptr w 0,(sv s)] σ fun r τ=>r = .ret (.tup [sv ((B5 fl s).getD []),.val (.bool (B5 fl s).isSome)])/\τ=σ :=
 b4e (fun a h=>by simp at h;subst h;exact .val _) (B9 (cs:=[sv _,.val _]) ⟨.val _,.val _,tt⟩) (c9Q fl nn va br ms me s hfl) hσ
def B1 (ms:SM) (fl:List Fi) (pkg:Str):List Fi:=fl.filter fun f=>(glk ms f.p).isSome && decide (((glk ms f.p).getD Src.z).pkg=pkg)
theorem b9H {y:Fi} (h:fl[i]? = some y) (pkg:Str):B1 ms (fl.drop i) pkg=(if ((glk ms y.p).isSome && decide (((glk ms y.p).getD Src.z).pkg=pkg))=true then [y] else [])++B1 ms (fl.drop (i+1)) pkg:=by
 obtain ⟨hlt,rfl⟩:=n_1.1 h;rw [Q4 hlt];unfold B1;rw [b0s]
 split <;> rfl
theorem c5t (fl:List Fi) (nn va:Bool) (br:List Str) (ms:SM) (me:EM) (pkg:Str) (hfl:fl.length<=1000000):b8 CC 158 [.ptr 0 0,(sv pkg)] (wst fl nn va br ms me) fun r τ=>F1 4 τ r (.ret (.list ((B1 ms fl pkg).map Fi.cv) (gnn (B1 ms fl pkg).length) none)) (wst fl nn va br ms me):=by
 refine cO Tryz.func158 ?_;refine z_6 ?_;refine Q7 ?_;refine cY K2 ?_;refine cY (j4 rfl tt rfl b85 rfl b0i de_) ?_;refine a3f ?_;refine B2 hCC 4 rfl (α:=Nat × List Fi) (fun x=>[(0,.ptr 0 0),(1,(sv pkg)),(5,(.list (x.2.map Fi.cv) (gnn x.2.length) (G9 x.2.length 4))),(14,(.list (fl.map Fi.cv) nn none)),(15,iv fl.length),(16,iv x.1)]) (fun x=>[wbx fl nn va br 1 2 3,smO ms,emO me,u0 br.length,u0 x.2.length]) (fun x=>x.1<=fl.length/\x.2.length<=x.1/\B1 ms fl pkg=x.2++B1 ms (fl.drop x.1) pkg) (fun x=>fl.length - x.1) ⟨(0,[]),[0,1,2,3,9],⟨n_3 _,n_4 _,rfl⟩,⟨rfl,rfl⟩,ut_,uq_⟩ ?_;intro ⟨i,out⟩ ⟨hi,hol,hr⟩;dsimp only at hi hol hr ⊢;refine C9 ?_;refine cC ?_ ?_ <;> intro h1
 ·have hlt:(i:Int) < fl.length:=sp_ h1;obtain ⟨y,hb⟩:=gx_ fl i;rw [b9H hb] at hr;refine b7R ?_;refine z_9 ?_;refine cF [] [] [0,1,2,3,4,5,6,7,8,9,10,11,12] 10 [[0,1,2,3,4,5,6,7,8,9],[9],[]] trivial ?_;refine a6N ?_;refine chf rfl (c7 rfl b7I) ?_;refine chf rfl (c7 rfl b9g) ?_;refine b3C ?_;refine chf rfl (c7 rfl e0c) ?_;refine chf rfl W9 ?_;refine chf rfl b32 ?_;refine chf rfl b32 ?_;refine F9 ?_;refine A6 rfl rfl rfl rfl (x8 rfl a5h rfl p8 ?_);refine ⟨⟨E8,a2k,(by exact c7 rfl b7I),(by exact c7 rfl b9g),a6F,a5V,(by exact c7 rfl e0c),E8,a9I,a9I,tt⟩,?_⟩;refine A6 rfl rfl rfl rfl (j6 rfl tt tt rfl c4 a2R p8 rfl rfl (nb rfl) ?_);refine ⟨⟨a9I,tt⟩,?_⟩;refine c0w ?_;refine z_5 ?_;refine cG c5S ?_;refine b3T ?_;refine a4M ?_;refine cC ?_ ?_ <;> intro h2
  ·rw [if_pos (sp_ h2)] at hr;refine z_4 ?_;refine cY d6t ?_;refine cY d2i ?_;refine cD (C5 rfl tt tt rfl si_ q_2 a8M a41 c5C a6r rfl (.inr rfl) q_8 c5m E7 ((out++[y]).map Fi.cv) (out++[y]).length si_ si_ ?_);refine a1j ?_;exact ⟨(i+1,out++[y]),[0,1,2,3,7],⟨do_,do_,by dsimp only;simp;omega,by dsimp only;rw [hr,n_8]⟩,⟨rfl,rfl⟩,ut_,uq_⟩
  ·rw [if_neg (sp_ h2),a7t] at hr;refine a2l ?_;exact ⟨(i+1,out),[0,1,2,3,4],⟨do_,do_,do_,hr⟩,⟨rfl,rfl⟩,ut_,uq_⟩
 ·have hge:fl.length<=i:=sm_ h1;rw [S8 hge] at hr;replace hr:B1 ms fl pkg=out:=by rw [hr];exact a2q _
  refine a2y ?_;exact ⟨_,j2 rfl tt c4,(by rw [hr];exact a3n rfl (Y4 (f:=Fi.cv) (fun a=>⟨.val _,.val _,tt⟩) _))⟩
theorem b70 (hσ:WAt σ w q1 q2 t fl nn va br ms me) (pkg:Str) (hfl:fl.length<=1000000):b8 CC 158 [.ptr w 0,(sv pkg)] σ fun r τ=>r = .ret (.list ((B1 ms fl pkg).map Fi.cv) (gnn (B1 ms fl pkg).length) none)/\τ=σ :=
 b4e (fun a h=>by simp at h;subst h;exact .val _) (G8 _ _) (c5t fl nn va br ms me pkg hfl) hσ
noncomputable def b7B (ms:SM) (x:En):Str:=((glk ms x.pl).bind fun s=>(s.decls[x.ix.toNat]?).map fun d=>a0D s d).getD []
noncomputable def a1q (ms:SM) (x:En):Str:=if x.ct=0 then [45] else if x.ct=1 then [61]++b7B ms x else [63]
def b3e (ms:SM) (x:En):Prop:=x.ct=1->∃ (s:Src) (d:De) (i:Nat),glk ms x.pl=some s/\a3z s/\x.ix=(i:Int)/\s.decls[i]? = some d
theorem a9e {x:Src} (h:a3z x) (hd:DeG d):(a0D x d).length<=100000:=by
 have hdl:=De.name_len hd;have hbl:=a9b hd;have hpk:=B4 h.pkg.1;have himl:=h.impl;have him8:∀ s∈x.imports,s.length<=80:=fun s hs=>by have:=B4 (h.imp s hs).1;omega
 have hil:=a8g him8 x.imports.length;rw [U3 (n_4 _)] at hil;have hjl:=a3p [44,32] d.params;have hsl:=b6b (b4k hd);have hprl:=hd.parl;have e2:([44,32]:Str).length=2:=rfl;rw [e2] at hjl;have hh:(a4U d).length<=1200:=by
  unfold a4U
  split
  ·simp only [n_5,n_7,I4];omega
  ·split
   ·simp only [n_5,n_7,I4];omega
   ·simp only [n_5,n_7,I4];omega
 unfold a0D;simp only [n_5,n_7,I4];omega
theorem b5q (fl:List Fi) (nn va:Bool) (br:List Str) (ms:SM) (me:EM) (x:En) (hx:b3e ms x):b8 CC 106 [.ptr 0 0,.agg x.cells] (wst fl nn va br ms me) fun r τ=>F1 4 τ r (.ret (sv (a1q ms x))) (wst fl nn va br ms me):=by
 refine cO Tryz.func106 ?_;refine a2M ?_;refine b0M ?_;refine a2m ?_;refine cC ?_ ?_ <;> intro h1
 ·have u1:x.ct=0:=sp_ h1;refine I0 ?_;exact ⟨_,j2 rfl tt c4,(by rw [a1q,if_pos u1];exact a3n rfl (.old (.val _)))⟩
 ·have u1:¬ x.ct=0:=sp_ h1;refine D6 ?_;refine cC ?_ ?_ <;> intro h2
  ·have u2:x.ct=1:=sp_ h2;obtain ⟨src,d,i,hg,hsg,hix,hdi⟩:=hx u2;have hdg:=hsg.dec d (n_0 hdi);have hlen:=a9e hsg hdg;have ed:b7B ms x=a0D src d:=by rw [b7B,hg,n_6,hix,a2p,hdi];rfl
   refine A5 ?_;refine cW 15 ?_;refine a5d ?_;refine hY b7I ?_;refine hY b9g ?_;refine hY b0W ?_;refine hY V7 ?_;refine hY (R2 (vc:=vcS) (l:=ms) (a:=x.pl) b7z rfl tt tt rfl rfl c3o a5h rfl rfl (show ((glk ms x.pl).map vcS).getD _=vcS src by rw [hg];rfl)) ?_;refine hY b2G ?_;refine hY a0H ?_;refine hY (j8 rfl Tryz.call156 i7 ((by have h:=c5J src hsg i d hdi hdg (n_1.1 hdi).1 ((wst fl nn va br ms me)++[.box x.cells]);rw [<- hix] at h;exact h)) rfl) ?_;refine hY j1 ?_;refine hY a5p ?_;refine hY a5p ?_;refine hY Q1 ?_;refine b7N ?_;refine L7 ?_;refine cY (I1 rfl rfl tt rfl rfl (by show 1+(a0D src d).length<=_;omega)) ?_;refine z_7 ?_;exact ⟨_,j2 rfl tt c4,(by rw [a1q,if_neg u1,if_pos u2,ed];exact a3n rfl (.old (.val _)))⟩
  ·have u2:¬ x.ct=1:=sp_ h2;refine a9F ?_;exact ⟨_,j2 rfl tt c4,(by rw [a1q,if_neg u1,if_neg u2];exact a3n rfl (.old (.val _)))⟩
theorem b7L (hσ:WAt σ w q1 q2 t fl nn va br ms me) (x:En) (hx:b3e ms x):b8 CC 106 [.ptr w 0,.agg x.cells] σ fun r τ=>r = .ret (sv (a1q ms x))/\τ=σ :=
 b4e (fun a h=>by simp at h;subst h;exact En.pure _) (.val _) (b5q fl nn va br ms me x hx) hσ
theorem b6G (a b c d e f:Bool):(a && (b && c) && !(d && (e || f))) = !(((!a || !b) || !c) || (d && (e || f))):=by cases a <;> cases b <;> cases c <;> cases d <;> cases e <;> cases f <;> rfl
theorem b3G (x:Src) (d:De):([112,97,99,107,97,103,101,32]++x.pkg++[59,10])++Q2 x.imports++b76 d=a0D x d:=by unfold a0D b76;simp only [n_8]
theorem c8j {x:Src} (h:a3z x) (hd:x.decls[i]? = some d):(([112,97,99,107,97,103,101,32]++x.pkg++[59,10])++Q2 x.imports).length+(b76 d).length<=9223372036854775807:=by
 have:=a9e h (h.dec d (n_0 hd));rw [<- b3G,n_5] at this;omega
theorem c67 (a b:Int):decide (a < b) = !decide (b<=a):=by by_cases h:b<=a <;> simp [h] <;> omega
theorem c8v (a b:Int):decide (a > b) = !decide (a<=b):=by by_cases h:a<=b <;> simp [h] <;> omega
theorem a4d (l:List Va) (nn:Bool) (σ:List b9):b8 CC 53 [.agg (G3 l nn)] σ fun r σ'=>r = .ret (.val (.bool (a2r l)))/\σ'=σ:=by
 refine an_ Tryz.func53 ?_;refine a2M ?_;refine b4P ?_;refine O1 ?_;refine cC ?_ ?_ <;> intro h1
 ·have hlen:¬ l.length<=16:=sm_ h1;refine I0 ?_;exact ⟨_,j2 rfl tt c4,_,_,rfl,rfl,j7 (by rw [a2r,a1W hlen];rfl)⟩
 ·have hlen:l.length<=16:=sm_ h1;refine a0E ?_;refine b4P ?_;refine Z0 ?_;refine j5 hCC (α:=Nat) (fun i=>[(1,.ptr 0 0),(10,(.list (l.map Va.cv) nn none)),(11,iv l.length),(12,iv i)]) (fun _=>[.box (G3 l nn)]) (fun i=>i<=l.length/\a2r l=evB (prv l i) (l.drop i)) (fun i=>l.length - i) 0 ⟨n_3 _,by rw [a2r,a2d hlen];rfl⟩ tu_ (extra0:=[]) rfl r5 uz_ ?_;intro i ⟨hi,hr⟩;refine C9 ?_;refine cC ?_ ?_ <;> intro h2
  ·have hlt:(i:Int) < l.length:=sp_ h2;obtain ⟨y,hb⟩:=gx_ l i;obtain ⟨p,hp⟩:=b56 (l:=l) (i:=i) om_;have hpp:0 < i->l[i - 1]? = some p:=fun h=>(hp h).2;rw [b9G hb] at hr;refine X9 ?_;refine cY c3w ?_;refine c7H ?_;refine d3D ?_;refine z_9 ?_;refine cW 30 ?_;refine hY c2Z ?_;refine hY V7 ?_;refine hY (j8 rfl c5Q ⟨tt,tt⟩ (a1M y.n _) rfl) ?_;refine hY a6L ?_;refine hY j1 ?_;refine c6X ?_;refine c90 ?_;refine hY j1 ?_;refine c6X ?_;refine c90 ?_;refine c3n ?_;refine T3 rfl rfl tt rfl b1a ?_;refine T3 rfl rfl tt rfl a9U ?_;refine d4o ?_;refine d3C ?_;refine d5y ?_;refine a5A rfl rfl (fun h=>h) rfl (fun hk hg=>r8 rfl ⟨hk,hg⟩ ⟨hk,hg⟩ rfl rfl c5G b6M d2V (j3 (hp (by change (_:Bool)=_ at hk;simp at hk hg;omega)).1) rfl) ?_;refine d3W ?_;refine d4Y ?_;refine hY a1f ?_;refine a4L ?_;refine cC ?_ ?_ <;> intro h3
   ·have u3:a1V (prv l i) y=false:=by rw [a1V,Y3 hpp,b6G,<- c67,<- c8v];rw [h3];rfl
    rw [u3,Bool.false_and] at hr;exact d5l
   ·have u3:a1V (prv l i) y=true:=by rw [a1V,Y3 hpp,b6G,<- c67,<- c8v];rw [h3];rfl
    rw [u3,b74] at hr;exact a89
  ·exact d5u
theorem b2n (l:List Va) (nn:Bool) (s:Str) (hl:l.length<=1000000000) (σ:List b9):b8 CC 89 [.agg (G3 l nn),(sv s)] σ fun r σ'=>r = .ret (.tup [(iv ((a1b l s).getD 0)),(.val (.bool ((a1b l s).isSome)))])/\σ'=σ:=by
 refine an_ Tryz.func89 ?_;refine a65 ?_;refine b18 ?_;refine b4P ?_;refine d3K ?_;intro i ⟨hi,hr⟩;refine C9 ?_;refine cC ?_ ?_ <;> intro h1
 ·have hlt:(i:Int) < l.length:=sp_ h1;obtain ⟨y,hb⟩:=gx_ l i;rw [b33 hb] at hr;refine W7 ?_;refine cY c3w ?_;refine d5B ?_;refine S5 ?_;refine cY c2Z ?_;refine cY V7 ?_;refine b8Y ?_;refine cC ?_ ?_ <;> intro h2
  ·have u2:y.n=s:=sp_ h2;rw [if_pos u2] at hr;refine z_0 ?_;refine d6m ?_;exact d4x
  ·have u2:¬ y.n=s:=sp_ h2;rw [if_neg u2] at hr;exact a89
 ·have hge:l.length<=i:=sm_ h1;rw [S8 hge] at hr;refine U9 ?_;exact d4X
theorem c30 (x:Src) (h:a3z x) (i:Nat) (d:De) (hd:x.decls[i]? = some d) (σ:List b9):b8 CC 147 [.agg x.cells,iv i] σ fun r σ'=>r = .ret (.tup [(sv (a0D x d)),(iv (0))])/\σ'=σ:=by
 refine an_ Tryz.func147 ?_;refine a65 ?_;refine b18 ?_;refine cY a75 ?_;refine yc rfl Tryz.call177 ⟨tt,tt⟩ (c0j x h _) ?_;refine O0 ?_;refine O1 ?_;refine cC ?_ ?_ <;> intro h1
 ·exfalso;simp at h1
 ·refine a5L ?_;refine a1h ?_;refine cG c2L ?_;refine cG c29 ?_;refine cG c3D ?_;refine a6v ?_;refine cC ?_ ?_ <;> intro h2
  ·exfalso;have hlt:=(n_1.1 hd).1;simp at h2;omega
  ·have hlt:=(n_1.1 hd).1;have hdl:=h.decl;refine z_8 ?_;refine cW 11 ?_;refine hY a75 ?_;refine hY (j8 rfl Tryz.call178 ⟨tt,tt⟩ (c4z x h _) rfl) ?_;refine hY c7P ?_;refine hY c9v ?_;refine hY j1 ?_;refine hY d5h ?_;refine hY b0K ?_;refine hY (j8 rfl Tryz.call179 ⟨tt,tt⟩ (c4R d (h.dec d (n_0 hd)) _) rfl) ?_;refine hY (I1 rfl tt tt rfl rfl (c8j h hd)) ?_;refine hY Q1 ?_;refine hY a2H ?_;refine P8 ?_;refine a1n ?_;exact ⟨_,j9 (rs:=[.tmp 4,.tmp 5]) (cs:=[_,_]) rfl S6 (n_2 rfl),_,_,rfl,rfl,(by rw [b3G];exact .tups ⟨.old (.val _),.old (.val _),tt⟩)⟩
def a8C (L:List (Str × Src)) (e:En):Src × Int:=match L.find? (fun x=>decide (x.1=e.pl)) with
 | some x=>(x.2,e.ix)
 | none=>(Src.z,0)
theorem c5g (h:L[i]? = some x) (e:En):a8C (L.drop i) e=if x.1=e.pl then (x.2,e.ix) else a8C (L.drop (i+1)) e:=by
 obtain ⟨hlt,rfl⟩:=n_1.1 h;rw [Q4 hlt];unfold a8C;rw [b7p];by_cases hh:L[i].1=e.pl
 ·simp [hh]
 ·simp [hh]
theorem b7e (L:List (Str × Src)) (e:En) (hL:L.length<=1000) (σ:List b9):b8 CC 146 [.agg (a0x (L.map Prod.fst) (L.map Prod.snd)),.agg e.cells] σ fun r σ'=>r = .ret (.tup [.agg (a8C L e).1.cells,(iv ((a8C L e).2))])/\σ'=σ:=by
 refine an_ Tryz.func146 ?_;refine a8l ?_;refine cD (x8 rfl a5h rfl p8 ?_);refine z_3 ?_;refine a0Y ?_;refine cY a9x ?_;refine cY a2D ?_;refine a1i ?_;refine j5 hCC (α:=Nat) (fun i=>[(2,.ptr 0 0),(3,.ptr 1 0),(4,.ptr 2 0),(9,(iv ((L.map Prod.fst).length:Int))),(10,iv i)]) (fun _=>[.box (a0x (L.map Prod.fst) (L.map Prod.snd)),.box e.cells,.box Src.z.cells]) (fun i=>i<=L.length/\a8C L e=a8C (L.drop i) e) (fun i=>L.length - i) 0 ⟨n_3 _,rfl⟩ tu_ (extra0:=[]) rfl r5 uz_ ?_;intro i ⟨hi,hr⟩;refine C9 ?_;refine cC ?_ ?_ <;> intro h1
 ·have hlt:i < L.length:=sm_ h1;obtain ⟨x,hb⟩:∃ x,L[i]? = some x:=⟨L[i]'hlt,si_⟩;rw [c5g hb] at hr;refine X9 ?_;refine b2i ?_;refine cW 8 ?_;refine hY a9x ?_;refine hY a2D ?_;refine hY j1 ?_;refine hY b9C ?_;refine hY U1 ?_;refine hY b0W ?_;refine hY V7 ?_;refine hY b3u ?_;refine a4L ?_;refine cC ?_ ?_ <;> intro h2
  ·have u2:x.1=e.pl:=sp_ h2;rw [if_pos u2] at hr;refine A5 ?_;refine cF [] [] [0,1,2,3,4,5,6,7,8] 7 [[5,6],[]] trivial ?_;refine chf rfl c6R ?_;refine chf rfl (c7 rfl b40) ?_;refine chf rfl W9 ?_;refine chf rfl (c7 rfl d6X) ?_;refine chf rfl (c7 rfl d4y) ?_;refine chf rfl (c7 rfl b2G) ?_;refine chf rfl b1m ?_;refine c1W ?_;refine ⟨⟨(by exact c7 rfl b2G),b1k,tt⟩,?_⟩;refine b1R ?_;exact ⟨_,j9 (rs:=[.cell 4 67,.tmp 5]) (cs:=[_,_]) rfl d1e (n_2 rfl),_,_,rfl,rfl,(by rw [hr];exact .tups ⟨.old (o3 (Src.pure _)).old,.old (.val _),tt⟩)⟩
  ·have u2:¬ x.1=e.pl:=sp_ h2;rw [if_neg u2] at hr;exact a89
 ·have hge:L.length<=i:=sm_ h1;rw [S8 hge] at hr;refine U9 ?_;refine d3F ?_;refine a9Q ?_;exact ⟨_,j9 (rs:=[.cell 4 67,.tmp 5]) (cs:=[_,_]) rfl d1e (n_2 rfl),_,_,rfl,rfl,(by rw [hr];exact .tups ⟨.old (o3 (Src.pure Src.z)).old,.old (.val _),tt⟩)⟩
theorem d7M (m:Nat):a84 .rem .u64 (m:Int) 128=some (.int .u64 ((m%128:Nat):Int)):=by
 have h:(m:Int).tmod 128=((m%128:Nat):Int):=by rw [c8P om_];omega
 simp [a84,h]
theorem d7J (m:Nat) (h:m < 18446744073709551616):a84 .quo .u64 (m:Int) 128=some (.int .u64 ((m / 128:Nat):Int)):=by
 have h':(m:Int).tdiv 128=((m / 128:Nat):Int):=by rw [c1A om_];omega
 simp [a84,h',IntKind.wrap,IntKind.signed,IntKind.bits];omega
theorem d1R (m:Nat):CV.list [[CV.val (.int .u8 (IntKind.u8.wrap (((m%128:Nat):Int)+128)))]] true none = .list [bcv (UInt8.ofNat (m%128+128))] true none:=by
 have h:IntKind.u8.wrap (((m%128:Nat):Int)+128)=((m%128+128:Nat):Int):=by
  simp [IntKind.wrap,IntKind.signed,IntKind.bits];omega
 rw [h,bcv,c9R om_]
theorem b8F (l:Str) (nn:Bool) (n:Nat) (hl:l.length<=100000000000000) (hn:n < 18446744073709551616):b8 CC 150 [(.list (l.map bcv) nn none),.val (.int .u64 (n:Int))] [.dead] fun r τ=>F1 1 τ r (.ret (a09 (l++Y6 n) 1)) [.dead,A1 tU8 (l++Y6 n).length]:=by
 refine cO Tryz.func150 ?_;refine U5 ?_;refine cD (a38 (l:=[]) (new:=l) (p:=0) rfl rfl tt rfl (fun M w v hr h=>(a5m rfl (by intro r hr;obtain ⟨b,_,rfl⟩:=K5.1 hr;rfl) M w v hr h).any) t_7 t_9 b1V a4N rfl (.inl t_7) rfl rfl a9u ?_);refine z_1 ?_;refine d5M ?_;intro ⟨b,m,k⟩ _ ⟨hb,hmn⟩;dsimp only at hb hmn ⊢;have hlen:b.length<=l.length+10:=by
  have h1:=congrArg List.length hb;have h2:=a3t (n:=n) (k:=9) om_;simp only [n_5] at h1;omega
 refine a2Q ?_;refine cC ?_ ?_ <;> intro h1
 ·have h128:¬ m < 128:=by have:=of_decide_eq_true h1;omega
  rw [a1J m,if_neg h128] at hb;refine a21 ?_;refine z_5 ?_;refine cY (a08 rfl tt rfl rfl rfl ((d7M m))) ?_;refine cY (a7a rfl tt rfl b7D b28 ((d7m (m%128)).trans (by rw [b9X om_]))) ?_;refine cY S7 ?_;refine cY (A2 [[.val (.int .u8 (IntKind.u8.wrap (((m%128:Nat):Int)+128)))]] rfl ⟨tt,tt⟩ t_7 t_9 a4N rfl rfl rfl rfl rfl rfl rfl rfl rfl) ?_;refine cD (a38 (l:=b) (new:=[UInt8.ofNat (m%128+128)]) (p:=k) rfl tt tt rfl (b2A (d1R m)) t_7 t_9 b1V a4N rfl (.inl t_7) rfl (a7I _ _) a9u ?_);refine a9T ?_;refine cY (a08 rfl tt rfl rfl rfl ((d7J m om_))) ?_;refine z_1 ?_;exact ⟨(b++[UInt8.ofNat (m%128+128)],m / 128,k+1),(show m / 128 < m by omega),(show l++Y6 n=(b++[UInt8.ofNat (m%128+128)])++Y6 (m / 128)/\m / 128<=n from ⟨by rw [hb];simp,om_⟩),⟨m0,⟨tt,(congrArg (a09 _) (b2D k _))⟩,tt⟩,(b1q _ _ _)⟩
 ·have h128:m < 128:=by have:=of_decide_eq_false h1;omega
  rw [a1J m,if_pos h128] at hb;refine A4 ?_;refine z_5 ?_;refine cY d8y ?_;refine d4B ?_;refine z_7 ?_;exact ⟨_,j2 rfl tt c4,(by rw [hb];exact b6r)⟩
theorem c0O (l:Str) (nn:Bool) (n:Nat) (hl:l.length<=100000000000000) (hn:n < 18446744073709551616) (σ:List b9):b8 CC 150 [(.list (l.map bcv) nn none),.val (.int .u64 (n:Int))] σ fun r τ=>∃ _:Unit,r = .ret (a09 (l++Y6 n) (σ.length+1))/\τ=σ++[.dead,A1 tU8 (l++Y6 n).length]/\True :=
 a4g (α:=Unit) hCC (fun a ha=>by simp at ha;rcases ha with rfl | rfl;exact a2g _ _;exact .val _) (res:=fun _=>.ret (a09 (l++Y6 n) 1)) (res':=fun _ m=>.ret (a09 (l++Y6 n) (m+1))) (S:=fun _=>[.dead,A1 tU8 (l++Y6 n).length]) (S':=fun _ _=>[.dead,A1 tU8 (l++Y6 n).length]) (P:=fun _=>True)
  (a0a (L2 hCC ((b8F l nn n hl hn).mono fun r τ h=>⟨_,_,h,(),rfl,rfl,tt⟩))) (fun _ _=>rfl) (fun _ m i x h=>by
   rcases i with _ | _ | i
   ·injection h with h;subst h;exact ⟨_,rfl,.dead⟩
   ·injection h with h;subst h;exact ⟨_,rfl,a3H _ _⟩
   ·cases h) (fun _ m=>.ret (b0L rfl)) σ
theorem a1C (l:Str) (nn:Bool) (s:Str) (hl:l.length<=100000000000) (hs:s.length<=100000000000) (σ:List b9):b8 CC 98 [(.list (l.map bcv) nn none),(sv s)] σ fun r σ'=>r = .ret (.list ((J0 l s).map bcv) (gnn (J0 l s).length) none)/\σ'=σ:=by
 refine an_ Tryz.func98 ?_;refine a11 ?_;refine cY X5 ?_;refine cY c6A ?_;refine de rfl Tryz.call150 i7 (c0O l nn s.length om_ om_ _) rfl ?_;have hpu:=a3t (n:=s.length) (k:=9) om_;intro _ _;refine cY j1 ?_;refine cD (a38 (l:=(l++Y6 s.length)) (new:=s) (p:=1) rfl tt tt rfl (b5m rfl) t_7 t_9 b1V a4N rfl (.inr t_5) rfl rfl (by simp only [n_5];omega) ?_);exact d4H
def a4b (fl:List Fi) (pkg:Str) (L:List (Str × Src)) (o:Str):Str:=L.foldl (fun o x=>if x.2.pkg=pkg then J0 (J0 o x.1) ((if B7 fl=0 then B5 fl x.1 else none).getD []) else o) o
theorem c5s (h:L[i]? = some x) (o:Str):a4b fl pkg (L.drop i) o=a4b fl pkg (L.drop (i+1)) (if x.2.pkg=pkg then J0 (J0 o x.1) ((if B7 fl=0 then B5 fl x.1 else none).getD []) else o):=by
 obtain ⟨hlt,rfl⟩:=n_1.1 h;rw [Q4 hlt];rfl
theorem a57 {s:Str} (h:s.length<=1000000000):(J0 l s).length<=l.length+s.length+10:=by
 have:=a3t (n:=s.length) (k:=9) om_;unfold J0;simp only [n_5];omega
def c6y (L:List (Str × Src)) (k:Int) (p o:Str):Prop:=¬ (fiE L k p o).ct=0->¬ 1 < (fiE L k p o).ct->∃ (s:Src) (d:De) (i:Nat),a8C L (fiE L k p o)=(s,(i:Int))/\a3z s/\s.decls[i]? = some d
noncomputable def b0O (L:List (Str × Src)) (k:Int) (p o:Str):Str:=if (fiE L k p o).ct=0 then [45] else if 1 < (fiE L k p o).ct then [63] else
 match (a8C L (fiE L k p o)).1.decls[(a8C L (fiE L k p o)).2.toNat]? with
 | some d=>[61]++a0D (a8C L (fiE L k p o)).1 d
 | none=>[61]
theorem a9W (fl:List Fi) (nn:Bool) (L:List (Str × Src)) (pkg:Str) (hl:fl.length<=1000000) (hL:L.length<=1000) (hP:∀ x∈L,x.1.length<=1000) (hbl:∀ q b,B5 fl q=some b->b.length<=100000) (σ:List b9):b8 CC 96 [.agg (A8 fl nn),.agg (a0x (L.map Prod.fst) (L.map Prod.snd)),(sv pkg)] σ fun r σ'=>r = .ret (sv ([61]++a4b fl pkg L []))/\σ'=σ:=by
 refine an_ Tryz.func96 ?_;refine a8l ?_;refine z_3 ?_;refine a9y ?_;refine cY c2D ?_;refine cY b40 ?_;refine cY c8A ?_;refine Z0 ?_;refine j5 hCC (α:=Nat × Str) (fun a=>[(2,(sv pkg)),(3,.ptr 0 0),(4,.ptr 1 0),(7,(.list (a.2.map bcv) (gnn a.2.length) none)),(13,(.list ((L.map Prod.snd).map Src.cv) (gnn (L.map Prod.snd).length) none)),(14,(iv ((L.map Prod.snd).length:Int))),(15,iv a.1)]) (fun _=>[.box (A8 fl nn),.box (a0x (L.map Prod.fst) (L.map Prod.snd))]) (fun a=>a.1<=L.length/\a4b fl pkg L []=a4b fl pkg (L.drop a.1) a.2/\a.2.length<=200000*a.1) (fun a=>L.length - a.1) (0,[]) ⟨n_3 _,rfl,n_4 _⟩ tu_ (extra0:=[]) rfl r5 uz_ ?_;rintro ⟨i,o⟩ ⟨hi,hr,ho⟩;dsimp only at hi hr ho ⊢;refine C9 ?_;refine cC ?_ ?_ <;> intro h1
 ·have hlt:i < L.length:=sm_ h1;obtain ⟨x,hb⟩:∃ x,L[i]? = some x:=⟨L[i]'hlt,si_⟩;rw [c5s hb] at hr;have hx1:=hP x (n_0 hb);have hda:((if B7 fl=0 then B5 fl x.1 else none).getD []).length<=100000:=by
   split
   ·cases hdf:B5 fl x.1 with
    | none=>exact n_3 _
    | some b=>exact hbl _ _ hdf
   ·exact n_3 _
  refine X9 ?_;refine cY d6X ?_;refine c7G ?_;refine d5j ?_;refine S5 ?_;refine a7X ?_;refine b8Y ?_;refine cC ?_ ?_ <;> intro h2
  ·have u2:x.2.pkg=pkg:=sp_ h2;rw [if_pos u2] at hr;have hq1:=a57 (l:=o) (s:=x.1) om_;have hq2:=a57 (l:=J0 o x.1) (s:=((if B7 fl=0 then B5 fl x.1 else none).getD [])) om_;refine A5 ?_;refine cW 12 ?_;refine hY X3 ?_;refine hY a9x ?_;refine hY a2D ?_;refine hY j1 ?_;refine hY b9C ?_;refine hY U1 ?_;refine hY (j8 rfl c8c i7 (a8Q fl nn x.1 hl _) rfl) ?_;refine hY j1 ?_;refine hY a5p ?_;refine hY a5p ?_;refine hY Q1 ?_;refine a9G ?_;refine z_4 ?_;refine cY a9x ?_;refine cY a2D ?_;refine cY j1 ?_;refine cY b9C ?_;refine cY U1 ?_;refine ye rfl c3g i7 (a1C o _ x.1 om_ om_ _) rfl ?_;refine cY j1 ?_;refine ye rfl c3g i7 (a1C (J0 o x.1) _ ((if B7 fl=0 then B5 fl x.1 else none).getD []) om_ om_ _) rfl ?_;refine a1j ?_;exact ⟨(i+1,J0 (J0 o x.1) ((if B7 fl=0 then B5 fl x.1 else none).getD [])),_,⟨do_,do_,hr,do_⟩,tu_,rfl⟩
  ·have u2:¬ x.2.pkg=pkg:=sp_ h2;rw [if_neg u2] at hr;refine a2l ?_;exact ⟨(i+1,o),_,⟨do_,do_,hr,do_⟩,tu_,rfl⟩
 ·have hge:L.length<=i:=sm_ h1;rw [S8 hge] at hr;refine b9d ?_;refine c8o ?_;exact ⟨_,j2 rfl tt c4,_,_,rfl,rfl,D4 (congrArg str c7K)⟩
theorem a4e (L:List (Str × Src)) (k:Int) (p o:Str) (hL:L.length<=1000) (hd:∀ x∈L,x.2.decls.length<=100000) (hok:c6y L k p o) (σ:List b9):b8 CC 94 [.agg (a0x (L.map Prod.fst) (L.map Prod.snd)),iv k,(sv p),(sv o)] σ fun r σ'=>r = .ret (sv (b0O L k p o))/\σ'=σ:=by
 refine an_ Tryz.func94 ?_;refine a3J ?_;refine z_0 ?_;refine cY b4C ?_;refine a4Q ?_;refine cY j1 ?_;refine yc rfl Tryz.call62 a1v (b7o L k p o hL hd _) ?_;refine d6x ?_;refine z_9 ?_;refine F5 ?_;refine z_0 ?_;refine b0M ?_;refine a73 ?_;refine cC ?_ ?_ <;> intro h1
 ·have u1:(fiE L k p o).ct=0:=sp_ h1;refine I0 ?_;exact ⟨_,j2 rfl tt rfl,_,_,rfl,rfl,D4 (congrArg str (show ([45]:Str)=b0O L k p o by unfold b0O;rw [if_pos u1]))⟩
 ·have u1:¬ (fiE L k p o).ct=0:=sp_ h1;refine z_0 ?_;refine b0M ?_;refine a73 ?_;refine cC ?_ ?_ <;> intro h2
  ·have u2:1 < (fiE L k p o).ct:=sp_ h2;refine I0 ?_;exact ⟨_,j2 rfl tt rfl,_,_,rfl,rfl,D4 (congrArg str (show ([63]:Str)=b0O L k p o by unfold b0O;rw [if_neg u1,if_pos u2]))⟩
  ·have u2:¬ 1 < (fiE L k p o).ct:=sm_ h2;obtain ⟨s,d,i,hD,hs,hdi⟩:=hok u1 u2;have hDI:∀ σ,b8 CC 146 [.agg (a0x (L.map Prod.fst) (L.map Prod.snd)),.agg (fiE L k p o).cells] σ fun r σ'=>r = .ret (.tup [.agg s.cells,iv i])/\σ'=σ:=fun σ=>by
    have h:=b7e L (fiE L k p o) hL σ;rw [hD] at h;exact h
   refine a1d ?_;refine cY b4C ?_;refine cY b4l ?_;refine yc rfl Tryz.call146 i7 (hDI _) ?_;refine b1C ?_;refine c7O ?_;refine z_1 ?_;refine b3V ?_;refine cY j1 ?_;refine yc rfl Tryz.call147 i7 (c30 s hs i d hdi _) ?_;refine b1C ?_;refine a9t ?_;refine cY (I1 rfl rfl tt rfl rfl (by have:=a9e hs (hs.dec d (n_0 hdi));simp;omega)) ?_;refine z_7 ?_;exact ⟨_,j2 rfl tt rfl,_,_,rfl,rfl,D4 (congrArg str (by unfold b0O;rw [if_neg u1,if_neg u2,hD];dsimp only;rw [a2p,hdi]))⟩
def b05 (l:Str) (fs:List Fi):Str:=fs.foldl (fun l f=>J0 (J0 l f.p) f.b) l
theorem c4Q {fs:List Fi} {y:Fi} (h:fs[i]? = some y) (l:Str):b05 l (fs.drop i)=b05 (J0 (J0 l y.p) y.b) (fs.drop (i+1)):=by
 obtain ⟨hlt,rfl⟩:=n_1.1 h;rw [Q4 hlt];rfl
theorem a3E {s:Str} (hs:s.length<=100000000000):(J0 l s).length<=l.length+s.length+10:=by
 have:=a3t (n:=s.length) (k:=9) om_;unfold J0;simp only [n_5];omega
theorem c6M {fs:List Fi} (h:∀ f∈fs,f.p.length<=100/\f.b.length<=100000) (l:Str):(b05 l fs).length<=l.length+fs.length*101000:=by
 induction fs generalizing l with
 | nil=>simp [b05]
 | cons y fs ih =>
  have h1:=h y si_;have h2:=ih (fun f hf=>h f (by simp [hf])) (J0 (J0 l y.p) y.b);have h3:=a3E (l:=J0 l y.p) (s:=y.b) om_;have h4:=a3E (l:=l) (s:=y.p) om_;rw [n_7,R7];simp only [b05,List.foldl_cons] at h2 ⊢;omega
def a0T (ms:SM) (fl:List Fi) (pkg:Str):Str:=[61]++b05 [] (B1 ms fl pkg)
theorem a3I {f:Fi} (h:f∈B1 ms fl pkg):f∈fl:=(b5r.1 h).1
theorem a8D (ms:SM) (fl:List Fi) (pkg:Str):(B1 ms fl pkg).length<=fl.length:=List.length_filter_le _ _
theorem b99 (hfl:fl.length<=1000) (hfb:∀ f∈fl,f.p.length<=100/\f.b.length<=100000):(a0T ms fl pkg).length<=102000000:=by
 have h1:=c6M (fun f hf=>hfb f (a3I hf)) (fs:=B1 ms fl pkg) [];have h2:=a8D ms fl pkg;have h3:(B1 ms fl pkg).length*101000<=1000*101000:=R9 _ om_;unfold a0T;simp only [n_5,n_7,I4] at h1 ⊢;omega
theorem d2Y (fl:List Fi) (nn va:Bool) (br:List Str) (ms:SM) (me:EM):WAt (wst fl nn va br ms me) 0 1 2 3 fl nn va br ms me:=⟨rfl,rfl,rfl,rfl,b5k ⟨de_,de_,de_,de_,de_,de_⟩⟩
theorem c4E (fl:List Fi) (nn va:Bool) (br:List Str) (ms:SM) (me:EM) (pkg:Str) (hfl:fl.length<=1000) (hfb:∀ f∈fl,f.p.length<=100/\f.b.length<=100000):b8 CC 115 [.ptr 0 0,(sv pkg)] (wst fl nn va br ms me) fun r τ=>F1 4 τ r (.ret (sv (a0T ms fl pkg))) (wst fl nn va br ms me):=by
 have hffl:=a8D ms fl pkg;refine cO Tryz.func115 ?_;refine z_6 ?_;refine z_6 ?_;refine a1Q ?_;refine ye rfl Tryz.call158 i7 (b70 (d2Y fl nn va br ms me) pkg om_) rfl ?_;refine cY d0b ?_;refine Z0 ?_;refine j5 hCC (α:=Nat × Str) (fun x=>[(5,(.list (x.2.map bcv) (gnn x.2.length) none)),(10,(.list ((B1 ms fl pkg).map Fi.cv) (gnn (B1 ms fl pkg).length) none)),(11,(iv ((B1 ms fl pkg).length:Int))),(12,iv x.1)]) (fun _=>(wst fl nn va br ms me)) (fun x=>x.1<=(B1 ms fl pkg).length/\x.2.length<=x.1*101000/\b05 [] (B1 ms fl pkg)=b05 x.2 ((B1 ms fl pkg).drop x.1)) (fun x=>(B1 ms fl pkg).length - x.1) (0,[]) ⟨n_3 _,n_3 _,rfl⟩ tu_ (extra0:=[]) rfl r5 uz_ ?_;intro ⟨i,l⟩ ⟨hi,hl,hr⟩;dsimp only at hi hl hr ⊢;refine C9 ?_;refine cC ?_ ?_ <;> intro h1
 ·have hlt:(i:Int) < (B1 ms fl pkg).length:=sp_ h1;obtain ⟨y,hb⟩:∃ y,(B1 ms fl pkg)[i]? = some y:=⟨(B1 ms fl pkg)[i]'om_,si_⟩;rw [c4Q hb] at hr;obtain ⟨hyp,hyb⟩:=hfb y (a3I (n_0 hb));have hp1:=a3E (l:=l) (s:=y.p) om_;have hp2:=a3E (l:=J0 l y.p) (s:=y.b) om_;have hi2:i*101000<=1000*101000:=R9 _ om_;refine b7R ?_;refine c8 ?_;refine cW 8 ?_;refine hY j1 ?_;refine hY b8q ?_;refine hY V7 ?_;refine hY (j8 rfl c2I i7 (a1A l _ y.p om_ om_ _) rfl) ?_;refine hY b8q ?_;refine hY V7 ?_;refine hY (j8 rfl c2I i7 (a1A (J0 l y.p) _ y.b om_ om_ _) rfl) ?_;refine a9G ?_;refine b0I ?_;exact ⟨(i+1,J0 (J0 l y.p) y.b),_,⟨do_,do_,do_,hr⟩,tu_,rfl⟩
 ·have hge:(B1 ms fl pkg).length<=i:=sm_ h1;rw [S8 hge] at hr;replace hr:b05 [] (B1 ms fl pkg)=l:=hr;have hi2:i*101000<=1000*101000:=R9 _ om_;refine b9d ?_;refine cY (I1 rfl rfl tt rfl rfl (by show 1+l.length<=_;omega)) ?_;refine z_7 ?_;exact ⟨_,j2 rfl tt c4,(by rw [a0T,hr];exact a3n rfl (.old (.val _)))⟩
theorem b8i (hσ:WAt σ w q1 q2 t fl nn va br ms me) (pkg:Str) (hfl:fl.length<=1000) (hfb:∀ f∈fl,f.p.length<=100/\f.b.length<=100000):b8 CC 115 [.ptr w 0,(sv pkg)] σ fun r τ=>r = .ret (sv (a0T ms fl pkg))/\τ=σ :=
 b4e (fun a h=>by simp at h;subst h;exact .val _) (.val _) (c4E fl nn va br ms me pkg hfl hfb) hσ
end Go.Proofs.YtlppbmfecjabeaaGreatDoor
namespace Go.Proofs
open Go.Shelf
def Tryz.lays190_ren:Go.Shelf.Ren:=⟨fun | 190=>161 | 125=>166 | 258=>206 | 128=>216 | 129=>217 | 302=>252 | 303=>253 | 304=>254 | 305=>255 | 306=>256 | 307=>257 | 308=>258 | 309=>259 | 310=>260 | 333=>291 | 329=>265 | 330=>266 | 334=>292 | 335=>293 | 336=>294 | 344=>311 | n=>n,fun | 31=>26 | 9=>9 | 3=>3 | 46=>141 | 0=>0 | 51=>262 | 53=>86 | 4=>4 | 183=>256 | 182=>255 | 131=>139 | 5=>5 | 218=>292 | 222=>296 | 228=>320 | 229=>321 | n=>n,fun | n=>n⟩
theorem Tryz.lays190:Go.Proofs.Lays.n190 Tryz.prog Tryz.lays190_ren:={
 mixed:=by kernel_rfl
 f125:=Tryz.func166.trans (congrArg some C6)
 f128:=Tryz.func216.trans (congrArg some C6)
 f129:=Tryz.func217.trans (congrArg some C6)
 f190:=Tryz.func161.trans (congrArg some C6)
 f258:=Tryz.func206.trans (congrArg some C6)
 f302:=Tryz.func252.trans (congrArg some C6)
 f303:=Tryz.func253.trans (congrArg some C6)
 f304:=Tryz.func254.trans (congrArg some C6)
 f305:=Tryz.func255.trans (congrArg some C6)
 f306:=Tryz.func256.trans (congrArg some C6)
 f307:=Tryz.func257.trans (congrArg some C6)
 f308:=Tryz.func258.trans (congrArg some C6)
 f309:=Tryz.func259.trans (congrArg some C6)
 f310:=Tryz.func260.trans (congrArg some C6)
 f329:=Tryz.func265.trans (congrArg some C6)
 f330:=Tryz.func266.trans (congrArg some C6)
 f333:=Tryz.func291.trans (congrArg some C6)
 f334:=Tryz.func292.trans (congrArg some C6)
 f335:=Tryz.func293.trans (congrArg some C6)
 f336:=Tryz.func294.trans (congrArg some C6)
 f344:=Tryz.func311.trans (congrArg some C6)
 t0:=Tryz.underlying0
 a0:=Tryz.isAgg0
 z0:=Tryz.sizeOf0
 v0:=Tryz.zeroValue0
 t3:=c2E
 a3:=a2Y
 z3:=t_2
 v3:=t_6
 t4:=Tryz.underlying4
 a4:=c8O
 z4:=c9X
 v4:=Tryz.zeroValue4
 t5:=Tryz.underlying5
 a5:=c6r
 z5:=t_9
 v5:=a4N
 t9:=c26
 a9:=t_8
 z9:=t_0
 v9:=t_3
 t31:=d0E
 a31:=b51
 z31:=a2U
 v31:=Tryz.zeroValue26
 t46:=Tryz.underlying141
 a46:=Tryz.isAgg141
 z46:=Tryz.sizeOf141
 v46:=Tryz.zeroValue141
 t51:=Tryz.underlying262
 a51:=Tryz.isAgg262
 z51:=Tryz.sizeOf262
 v51:=Tryz.zeroValue262
 t53:=Tryz.underlying86
 a53:=Tryz.isAgg86
 z53:=Tryz.sizeOf86
 v53:=Tryz.zeroValue86
 t131:=Tryz.underlying139
 a131:=Tryz.isAgg139
 z131:=Tryz.sizeOf139
 v131:=Tryz.zeroValue139
 t182:=Tryz.underlying255
 a182:=Tryz.isAgg255
 z182:=Tryz.sizeOf255
 v182:=Tryz.zeroValue255
 t183:=Tryz.underlying256
 a183:=Tryz.isAgg256
 z183:=Tryz.sizeOf256
 v183:=Tryz.zeroValue256
 t218:=Tryz.underlying292
 a218:=Tryz.isAgg292
 z218:=Tryz.sizeOf292
 v218:=Tryz.zeroValue292
 t222:=Tryz.underlying296
 a222:=Tryz.isAgg296
 z222:=Tryz.sizeOf296
 v222:=Tryz.zeroValue296
 t228:=Tryz.underlying320
 a228:=Tryz.isAgg320
 z228:=Tryz.sizeOf320
 v228:=Tryz.zeroValue320
 t229:=Tryz.underlying321
 a229:=Tryz.isAgg321
 z229:=Tryz.sizeOf321
 v229:=Tryz.zeroValue321}
end Go.Proofs
namespace Go.Proofs.YtlppbmfecjabeaaGreatDoor
open Go Go.Cl
variable {fl:List Fi} {ms:SM} {N B br:List Str} {σ G H W:List b9} {pkg x n s y:Str} {i k w q1 q2 t j:Nat} {v b v':b9} {me:EM} {nn:Bool} {L:List (Str × Src)}
theorem d0m {ss:List Str} (hne:ss≠[]) (hlen:ss.length<=1000000) (hk:σ[k]? = some (.vec 1 (ss.map scv))):b8 CC 161 [.vec k 0 ss.length] σ fun r τ=>∃ _:Unit,r = .ret (.tup [])/\τ=σ.set k (.vec 1 ((a0Z ss).map scv))/\True :=
 (c6S (f:=161) (fun blk off cap ss w h1 h2 h3=>b8J Tryz.lays190 blk off cap ss w h1 h2 h3) hne om_ hk).mono fun r τ h=>⟨(),h.1,h.2,tt⟩
def a1l (ms:SM) (f:Fi):List Str:=((glk ms f.p).getD Src.z).imports
inductive Reach (ms:SM) (fl:List Fi) (pkg:Str):Str->Prop where
 | base:Reach ms fl pkg pkg
 | step {n:Str} {f:Fi} {s:Str}:Reach ms fl pkg n->f∈B1 ms fl n->s∈a1l ms f->Reach ms fl pkg s
def allI (ms:SM) (fl:List Fi):List Str:=fl.flatMap (a1l ms)
theorem c56 (h:Reach ms fl pkg n):n∈pkg::allI ms fl:=by
 cases h with
 | base=>simp
 | step _ hf hs=>exact b5h _ (List.mem_flatMap.2 ⟨_,a3I hf,hs⟩)
structure NmI (ms:SM) (fl:List Fi) (pkg:Str) (N:List Str):Prop where
 nd:N.Nodup
 rch:∀ n∈N,Reach ms fl pkg n
 pk:pkg∈N
theorem NmI.len (h:NmI ms fl pkg N):N.length<=1+(allI ms fl).length:=by
 have:=List.Nodup.length_le_of_subset h.nd (fun n hn=>c56 (h.rch n hn));simpa [b3k] using this
theorem NmI.snoc {f:Fi} (h:NmI ms fl pkg N) (hn:n∈N) (hf:f∈B1 ms fl n) (hs:s∈a1l ms f) (hsN:s∉N):NmI ms fl pkg (N++[s]) where
 nd:=a3Y h.nd hsN
 rch:=fun m hm=>by
  rcases X1.1 hm with hm | hm
  ·exact h.rch m hm
  ·simp at hm;subst hm;exact .step (h.rch n hn) hf hs
 pk:=b47 _ h.pk
theorem b5M (h:NmI ms fl pkg N) (hc:∀ n∈N,∀ f∈B1 ms fl n,∀ s∈a1l ms f,s∈N) (n:Str):n∈N↔Reach ms fl pkg n :=
 ⟨h.rch n,fun hr=>by
  induction hr with
  | base=>exact h.pk
  | step _ hf hs ih=>exact hc _ ih _ hf _ hs⟩
theorem a99 {A:List Str} (hA:A.Nodup) (hB:B.Nodup) (h:∀ n,n∈A↔n∈B):a0Z A=a0Z B:=by
 have hp:A.Perm B:=(List.perm_ext_iff_of_nodup hA hB).2 h;have tr:∀ (a b c:Str),decide (a<=b)=true->decide (b<=c)=true->decide (a<=c)=true:=fun a b c h1 h2=>by
  simp only [a2t] at h1 h2 ⊢;exact List.le_trans h1 h2
 have to:∀ (a b:Str),(decide (a<=b) || decide (b<=a))=true:=fun a b=>by
  simp only [a6j,a2t];exact List.le_total a b
 refine List.Perm.eq_of_pairwise (le:=fun a b=>decide (a<=b)=true) (fun a b _ _ h1 h2=>?_) (c97 tr to A) (c97 tr to B) ((b9i A _).trans (hp.trans (b9i B _).symm));simp only [a2t] at h1 h2;exact c2v h1 h2
open Classical in
noncomputable def b1x (ms:SM) (fl:List Fi) (pkg:Str):List Str:=if h:∃ N:List Str,N.Nodup/\∀ n,n∈N↔Reach ms fl pkg n then a0Z h.choose else []
theorem b4g (hN:N.Nodup) (h:∀ n,n∈N↔Reach ms fl pkg n):b1x ms fl pkg=a0Z N:=by
 have hex:∃ N:List Str,N.Nodup/\∀ n,n∈N↔Reach ms fl pkg n:=⟨N,hN,h⟩;unfold b1x;rw [dif_pos hex];exact a99 hex.choose_spec.1 hN fun n=>(hex.choose_spec.2 n).trans (h n).symm
def b8C (ms:SM) (fl:List Fi) (l:Str) (N:List Str):Str:=N.foldl (fun l s=>J0 (J0 l s) (a0T ms fl s)) l
theorem c4i (h:N[i]? = some y) (l:Str):b8C ms fl l (N.drop i)=b8C ms fl (J0 (J0 l y) (a0T ms fl y)) (N.drop (i+1)):=by
 obtain ⟨hlt,rfl⟩:=n_1.1 h;rw [Q4 hlt];rfl
noncomputable def b8M (ms:SM) (fl:List Fi) (pkg:Str):Str:=[61]++b8C ms fl [] (b1x ms fl pkg)
def tst (W G:List b9) (v:b9) (H:List b9):List b9:=W++G++v::H
theorem a3Z (hW:W.length=4):(tst W G v H)[4+G.length]? = some v:=by
 rw [tst,a0y (by simp [hW])];simp [hW]
theorem c24 (hW:W.length=4):(tst W G v H).set (4+G.length) v'=tst W G v' H:=by
 rw [tst,b3t _ _ (by simp [hW])];simp [hW,tst]
theorem d3l (hW:W.length=4):(tst W G v H).set (4+G.length) .dead++[v']=tst W (G++.dead::H) v' []:=by
 rw [c24 hW];simp [tst]
theorem d1U (hW:W.length=4):(tst W G v H).length=4+(G++b9.dead::H).length:=by
 simp [tst,hW]
theorem c2a (a b:b9):(tst W G v H++[a]).set (tst W G v H).length b=tst W G v (H++[b]):=by
 rw [b3t _ _ (n_4 _)];simp [tst]
theorem b26 (s:Str) (hk:σ[k]? = some (.vec 1 (N.map scv))) (hl:N.length<=1000000):b8 CC 160 [.vec k 0 N.length,sv s] σ fun r σ'=>r = .ret (.val (.bool (decide (s∈N))))/\σ'=σ:=by
 have h:=a7C N true s om_;refine a6E (len:=N.length) (rows:=N.map scv) hCC (fun a ha=>by simp at ha;subst ha;exact .val _) (fun r hr c hc=>?_) si_ hk ?_
 ·obtain ⟨x,_,rfl⟩:=K5.1 hr;simp [scv] at hc;subst hc;exact .val _
 ·rw [show ((N.map scv).drop 0).take N.length=N.map scv from by rw [a8G,U3 si_]];exact h
theorem c3h (fl:List Fi) (nn va:Bool) (br:List Str) (ms:SM) (me:EM):WAt (tst (wst fl nn va br ms me) G v H) 0 1 2 3 fl nn va br ms me:=⟨rfl,rfl,rfl,rfl,b5k ⟨de_,de_,de_,de_,de_,de_⟩⟩
theorem c9Y {f:Fi} (h:f∈fl):(a1l ms f).length<=(allI ms fl).length:=by
 unfold allI
 induction fl with
 | nil=>cases h
 | cons x l ih =>
  rw [b7l,n_5]
  rcases R5.1 h with rfl | h
  ·omega
  ·have:=ih h;omega
theorem c6G (fl:List Fi) (nn va:Bool) (br:List Str) (ms:SM) (me:EM) (pkg:Str) (hfl:fl.length<=64) (hfb:∀ f∈fl,f.p.length<=100/\f.b.length<=100000) (allI_len:(allI ms fl).length<=512) (reach_len:∀ {n:Str},Reach ms fl pkg n->n.length<=100000):b8 CC 117 [.ptr 0 0,(sv pkg)] (wst fl nn va br ms me) fun r τ=>F1 4 τ r (.ret (sv (b8M ms fl pkg))) (wst fl nn va br ms me):=by
 refine cO Tryz.func117 ?_;refine U5 ?_;refine d5N ?_;refine a7q ?_;refine K3 (α:=Nat × List Str × List b9 × List b9) (fun x=>[(0,.ptr 0 0),(5,.vec (4+x.2.2.1.length) 0 x.2.1.length),(6,iv x.1)]) (fun x=>tst (wst fl nn va br ms me) x.2.2.1 (.vec 1 (x.2.1.map scv)) x.2.2.2) (fun x=>NmI ms fl pkg x.2.1/\x.1<=x.2.1.length/\∀ n∈x.2.1.take x.1,∀ f∈B1 ms fl n,∀ s∈a1l ms f,s∈x.2.1) (fun x=>1+(allI ms fl).length - x.1) (0,[pkg],[],[]) ⟨⟨si_,fun n hn=>by simp at hn;subst hn;exact .base,si_⟩,n_3 _,fun n hn=>by simp at hn⟩ tu_ rfl ?_;intro ⟨i,N,G,H⟩ _ ⟨hN,hi,hc⟩;dsimp only at hN hi hc ⊢;have hNl:=hN.len;have hal:=allI_len;refine a1Q ?_;refine cY b4G ?_;refine a7N ?_;refine cC ?_ ?_ <;> intro h1
 ·have hlt:i < N.length:=sm_ h1;obtain ⟨n,gn⟩:∃ n,N[i]? = some n:=⟨N[i]'hlt,si_⟩;have hffl:=a8D ms fl n;refine a4O ?_;refine a0M ?_;refine cY (Z4 rfl tt tt rfl rfl t_1 t_0 (a3Z rfl) om_ om_) ?_;refine cY (M9 rfl tt rfl t_8 (a3Z rfl) (j3 (by rw [n_9];exact gn)) rfl) ?_;refine ye rfl Tryz.call158 i7 (b70 (c3h fl nn va br ms me) n om_) rfl ?_;refine cY d0b ?_;refine Z0 ?_;refine K3 (α:=Nat × List Str × List b9 × List b9) (fun x=>[(0,.ptr 0 0),(5,.vec (4+x.2.2.1.length) 0 x.2.1.length),(6,iv i),(27,(.list ((B1 ms fl n).map Fi.cv) (gnn (B1 ms fl n).length) none)),(28,(iv ((B1 ms fl n).length:Int))),(29,iv x.1)]) (fun x=>tst (wst fl nn va br ms me) x.2.2.1 (.vec 1 (x.2.1.map scv)) x.2.2.2) (fun x=>NmI ms fl pkg x.2.1/\(∃ t,x.2.1=N++t)/\x.1<=(B1 ms fl n).length/\∀ f∈(B1 ms fl n).take x.1,∀ s∈a1l ms f,s∈x.2.1) (fun x=>(B1 ms fl n).length - x.1) (0,N,G,H) ⟨hN,⟨[],si_⟩,n_3 _,fun f hf=>by simp at hf⟩ tu_ rfl ?_;intro ⟨q,N1,G1,H1⟩ _ ⟨hN1,hpre,hq,hc1⟩;dsimp only at hN1 hpre hq hc1 ⊢;have hNl1:=hN1.len;refine C9 ?_;refine cC ?_ ?_ <;> intro h2
  ·have hlq:q < (B1 ms fl n).length:=sm_ h2;obtain ⟨y,hy⟩:∃ y,(B1 ms fl n)[q]? = some y:=⟨(B1 ms fl n)[q]'hlq,si_⟩;have hym:=n_0 hy;refine W7 ?_;refine cY (r8 rfl tt tt rfl rfl a8M a41 om_ (j3 hy) rfl) ?_;refine cY d5Q ?_;refine cD (x8 rfl a6r rfl p8 ?_);refine cD (j6 rfl tt tt rfl c4 a41 p8 b2j rfl (nb rfl) ?_);refine z_9 ?_;refine b4Z ?_;refine hY b7I ?_;refine hY b9g ?_;refine hY b8q ?_;refine hY (o5 rfl tt rfl t_8 (by rw [b3a si_]) rfl) ?_;refine hY (R2 (vc:=vcS) (l:=ms) (a:=y.p) b7z rfl tt tt rfl rfl c3o a5h rfl rfl (a52 Src.z rfl _)) ?_;refine hY (a3l rfl tt rfl a8x rfl b51 rfl) ?_;refine hY a0K ?_;refine hY d4s ?_;refine P8 ?_;refine a4B ?_;refine K3 (α:=Nat × List Str × List b9 × List b9) (fun x=>[(0,.ptr 0 0),(5,.vec (4+x.2.2.1.length) 0 x.2.1.length),(6,iv i),(27,(.list ((B1 ms fl n).map Fi.cv) (gnn (B1 ms fl n).length) none)),(28,(iv ((B1 ms fl n).length:Int))),(29,iv q),(40,(.list ((a1l ms y).map scv) (gnn (a1l ms y).length) none)),(41,(iv ((a1l ms y).length:Int))),(42,iv x.1)]) (fun x=>tst (wst fl nn va br ms me) x.2.2.1 (.vec 1 (x.2.1.map scv)) x.2.2.2) (fun x=>NmI ms fl pkg x.2.1/\(∃ t,x.2.1=N1++t)/\x.1<=(a1l ms y).length/\∀ s∈(a1l ms y).take x.1,s∈x.2.1) (fun x=>(a1l ms y).length - x.1) (0,N1,G1,H1++[.box y.cells]) ⟨hN1,⟨[],si_⟩,n_3 _,fun f hf=>by simp at hf⟩ tu_ (c2a _ _) ?_;intro ⟨r,N2,G2,H2⟩ _ ⟨hN2,hpre2,hr,hc2⟩;dsimp only at hN2 hpre2 hr hc2 ⊢;have hNl2:=hN2.len;have hil:(a1l ms y).length<=(allI ms fl).length:=c9Y (a3I hym);refine C9 ?_;refine cC ?_ ?_ <;> intro h3
   ·have hlr:r < (a1l ms y).length:=sm_ h3;obtain ⟨s,hs⟩:∃ s,(a1l ms y)[r]? = some s:=⟨(a1l ms y)[r]'hlr,si_⟩;have hsm:=n_0 hs;have htk:(a1l ms y).take (r+1)=(a1l ms y).take r++[s]:=by rw [a4F,hs];rfl
    refine W7 ?_;refine d3Q ?_;refine a7L ?_;refine ye rfl c7d i7 (b26 s (a3Z rfl) om_) rfl ?_;refine S4 ?_;refine cC ?_ ?_ <;> intro h4
    ·have h4':s∉N2:=sp_ h4;obtain ⟨t1,ht1⟩:=hpre;obtain ⟨t2,ht2⟩:=hpre2;have hnN2:n∈N2:=by rw [ht2,ht1];simp [n_0 gn]
     have hsn:=hN2.snoc hnN2 hym hsm h4';have hsnl:=hsn.len;rw [n_5,b3I] at hsnl;refine X0 ?_;refine cY d8F ?_;refine cD (a5i ((N2++[s]).map scv) (N2++[s]).length rfl tt tt rfl q_2 t_1 t_0 a3y t_3 rfl (a3Z rfl) E7 si_ a36 E7 si_ si_ ?_);refine a1j ?_;exact ⟨(r+1,N2++[s],G2++.dead::H2,[]),do_,⟨hsn,⟨t2++[s],by rw [ht2,n_8]⟩,do_,fun z hz=>by
      dsimp only at hz ⊢;rw [htk] at hz
      rcases X1.1 hz with hz | hz
      ·exact b47 _ (hc2 z hz)
      ·simp at hz;subst hz;simp⟩,⟨m0,⟨tt,(congrArg (fun k=>CV.vec k 0 (N2++[s]).length) (d1U rfl))⟩,m0,m0,m0,m0,m0,m0,m0,tt⟩,(d3l rfl)⟩
    ·have h4':s∈N2:=sp_ h4;refine a2l ?_;exact ⟨(r+1,N2,G2,H2),do_,⟨hN2,hpre2,do_,fun z hz=>by
      dsimp only at hz ⊢;rw [htk] at hz
      rcases X1.1 hz with hz | hz
      ·exact hc2 z hz
      ·simp at hz;subst hz;exact h4'⟩,tu_,rfl⟩
   ·have hre:r=(a1l ms y).length:=sm_ h3;obtain ⟨t1,ht1⟩:=hpre;obtain ⟨t2,ht2⟩:=hpre2;have htk:(B1 ms fl n).take (q+1)=(B1 ms fl n).take q++[y]:=by rw [a4F,hy];rfl
    refine a9B ?_;exact ⟨(q+1,N2,G2,H2),do_,⟨hN2,⟨t1++t2,by rw [ht2,ht1,n_8]⟩,do_,fun z hz s hs=>by
     dsimp only at hz ⊢;rw [htk] at hz
     rcases X1.1 hz with hz | hz
     ·rw [ht2];exact b47 _ (hc1 z hz s hs)
     ·simp at hz;subst hz;exact hc2 s (by rw [hre,U3 (n_4 _)];exact hs)⟩,tu_,rfl⟩
  ·have hqe:q=(B1 ms fl n).length:=sm_ h2;obtain ⟨t1,ht1⟩:=hpre;have htk:N1.take (i+1)=N.take i++[n]:=by
    rw [ht1,c1N om_,a4F,gn];rfl
   refine A4 ?_;refine a74 ?_;exact ⟨(i+1,N1,G1,H1),do_,⟨hN1,by dsimp only;rw [ht1,n_5];omega,fun z hz f hf s hs=>by
    dsimp only at hz ⊢;rw [htk] at hz
    rcases X1.1 hz with hz | hz
    ·rw [ht1];exact b47 _ (hc z hz f hf s hs)
    ·simp at hz;subst hz;exact hc1 f (by rw [hqe,U3 (n_4 _)];exact hf) s hs⟩,tu_,rfl⟩
 ·have hie:i=N.length:=sm_ h1;have hcl:=b5M hN (fun n hn=>hc n (by rw [hie,U3 (n_4 _)];exact hn));have hT:=b4g hN.nd hcl;have hpl:(a0Z N).length=N.length:=List.length_mergeSort _;have hne:N≠[]:=fun h=>by have:=hN.pk;rw [h] at this;cases this
  refine b0t ?_;refine de rfl Tryz.call161 ⟨tt,tt⟩ (d0m hne om_ (a3Z rfl)) rfl ?_;intro _ _;refine c5 (tst (wst fl nn va br ms me) G (.vec 1 ((a0Z N).map scv)) H) (c24 rfl) ?_;refine c8 ?_;refine Q7 ?_;refine cY b4G ?_;refine Z0 ?_;refine K3 (α:=Nat × Str) (fun x=>[(0,.ptr 0 0),(11,(.list (x.2.map bcv) (gnn x.2.length) none)),(58,.vec (4+G.length) 0 N.length),(59,iv N.length),(60,iv x.1)]) (fun _=>tst (wst fl nn va br ms me) G (.vec 1 ((a0Z N).map scv)) H) (fun x=>x.1<=N.length/\x.2.length<=x.1*103000000/\b8C ms fl [] (a0Z N)=b8C ms fl x.2 ((a0Z N).drop x.1)) (fun x=>N.length - x.1) (0,[]) ⟨n_3 _,n_3 _,rfl⟩ tu_ rfl ?_;intro ⟨j,l⟩ _ ⟨hj,hl,hr⟩;dsimp only at hj hl hr ⊢;refine C9 ?_;refine cC ?_ ?_ <;> intro h5
  ·have hlj:j < N.length:=sm_ h5;obtain ⟨s,hs⟩:∃ s,(a0Z N)[j]? = some s:=⟨(a0Z N)[j]'om_,si_⟩;rw [c4i hs] at hr;have hsl:=reach_len (hN.rch s ((b9i N _).mem_iff.1 (n_0 hs)));have hfc:=b99 (ms:=ms) (pkg:=s) om_ hfb;have hp1:=a3E (l:=l) (s:=s) om_;have hp2:=a3E (l:=J0 l s) (s:=a0T ms fl s) om_;have hj2:j*103000000<=600*103000000:=R9 _ om_;refine W7 ?_;refine cY (Z4 rfl tt tt rfl rfl t_1 t_0 (a3Z rfl) om_ om_) ?_;refine cY (M9 rfl tt rfl t_8 (a3Z rfl) (j3 (by rw [n_9];exact hs)) rfl) ?_;refine a7W ?_;refine ye rfl c2I i7 (a1A l _ s om_ om_ _) rfl ?_;refine a4Q ?_;refine ye rfl Tryz.call115 i7 (b8i (c3h fl nn va br ms me) s om_ hfb) rfl ?_;refine ye rfl c2I i7 (a1A (J0 l s) _ (a0T ms fl s) om_ om_ _) rfl ?_;refine a1j ?_;exact ⟨(j+1,J0 (J0 l s) (a0T ms fl s)),do_,⟨do_,do_,hr⟩,tu_,rfl⟩
  ·have hje:j=N.length:=sm_ h5;rw [hje,<- hpl,b7S] at hr;replace hr:b8C ms fl [] (a0Z N)=l:=hr;have hj2:j*103000000<=600*103000000:=R9 _ om_;refine b9d ?_;refine cY (I1 rfl rfl tt rfl rfl (by show 1+l.length<=_;omega)) ?_;refine z_7 ?_;exact ⟨_,j2 rfl tt c4,(by rw [b8M,hT,hr];exact a3n rfl (.old (.val _)))⟩
theorem d2k {va:Bool} (hσ:WAt σ w q1 q2 t fl nn va br ms me) (pkg:Str) (hfl:fl.length<=64) (hfb:∀ f∈fl,f.p.length<=100/\f.b.length<=100000) (allI_len:(allI ms fl).length<=512) (reach_len:∀ {n:Str},Reach ms fl pkg n->n.length<=100000):b8 CC 117 [.ptr w 0,(sv pkg)] σ fun r τ=>r = .ret (sv (b8M ms fl pkg))/\τ=σ :=
 b4e (fun a h=>by simp at h;subst h;exact .val _) (.val _) (c6G fl nn va br ms me pkg hfl hfb allI_len reach_len) hσ
theorem d2A (l:List Str) (nn:Bool) (u:Str) (hl:l.length<=1000000):b8 CC 149 [(.list (l.map scv) nn none),(sv u)] [] fun r σ'=>r = .ret (.val (.bool (decide (u∈l))))/\σ'=[]:=by
 refine D5 (cO Tryz.func149 ?_);refine Q7 ?_;refine d3v ?_;intro i ⟨hi,hd⟩;refine C9 ?_;refine cC ?_ ?_ <;> intro h1
 ·have hlt:i < l.length:=sm_ h1;obtain ⟨w,hb⟩:∃ w,l[i]? = some w:=⟨l[i]'hlt,si_⟩;refine a6S ?_;refine a7L ?_;refine b9b ?_;refine cC ?_ ?_ <;> intro h2
  ·have hw:w=u:=sp_ h2;exact d5a
  ·have hw:¬ w=u:=sp_ h2;exact d6B
 ·have hge:l.length<=i:=sm_ h1;refine a1w ?_;exact ⟨_,j2 rfl tt c4,_,_,rfl,rfl,j7 (show false=decide (u∈l) by rw [hd,S8 hge];simp)⟩
inductive a67 (L:List (Str × Src)) (pkg:Str):Str->Prop where
 | base:a67 L pkg pkg
 | step {n:Str} {x:Str × Src} {s:Str}:a67 L pkg n->x∈L->x.2.pkg=n->s∈x.2.imports->a67 L pkg s
def b19 (L:List (Str × Src)):List Str:=L.flatMap fun x=>x.2.imports
theorem c10 (h:a67 L pkg n):n∈pkg::b19 L:=by
 cases h with
 | base=>simp
 | step _ hf _ hs=>exact b5h _ (List.mem_flatMap.2 ⟨_,hf,hs⟩)
structure NmL (L:List (Str × Src)) (pkg:Str) (N:List Str):Prop where
 nd:N.Nodup
 rch:∀ n∈N,a67 L pkg n
 pk:pkg∈N
theorem NmL.len (h:NmL L pkg N):N.length<=1+(b19 L).length:=by
 have:=List.Nodup.length_le_of_subset h.nd (fun n hn=>c10 (h.rch n hn));simpa [b3k] using this
theorem NmL.snoc {x:Str × Src} (h:NmL L pkg N) (hn:x.2.pkg∈N) (hf:x∈L) (hs:s∈x.2.imports) (hsN:s∉N):NmL L pkg (N++[s]) where
 nd:=a3Y h.nd hsN
 rch:=fun m hm=>by
  rcases X1.1 hm with hm | hm
  ·exact h.rch m hm
  ·simp at hm;subst hm;exact .step (h.rch _ hn) hf rfl hs
 pk:=b47 _ h.pk
theorem b7K (h:NmL L pkg N) (hc:∀ n∈N,∀ x∈L,x.2.pkg=n->∀ s∈x.2.imports,s∈N) (n:Str):n∈N↔a67 L pkg n :=
 ⟨h.rch n,fun hr=>by
  induction hr with
  | base=>exact h.pk
  | step _ hf hp hs ih=>exact hc _ ih _ hf hp _ hs⟩
def swk (B:List Str) (i k:Nat) (x:Str):List Str:=B.take k++x::((B.take i).drop k++B.drop (i+1))
theorem b6W (h:B[i]? = some x):swk B i i x=B:=by
 obtain ⟨hlt,rfl⟩:=n_1.1 h;rw [swk,S8 Q9,a7t,<- Q4 hlt,c40]
theorem b0w (h:B[j]? = some y) (hj:j+1<=i):B.take (j+1)=B.take j++[y]/\(B.take i).drop j=y::(B.take i).drop (j+1):=by
 obtain ⟨hlt,rfl⟩:=n_1.1 h;refine ⟨by rw [a4F,a2b hlt];rfl,?_⟩;rw [Q4 a5U,List.getElem_take]
theorem d2m (hk:k<=i) (hi:i < B.length):(swk B i k x).length=B.length:=by
 simp only [swk,n_5,n_7,b9x,a7Z];omega
theorem c1f (hk:k<=i) (hi:i < B.length):(swk B i k x)[k]? = some x:=by
 rw [swk,a0y a5U,a7Z,show k - min k B.length=0 by omega];rfl
theorem b5n (hj:j < k) (h:B[j]? = some y):(swk B i k x)[j]? = some y:=by
 have:=(n_1.1 h).1;rw [swk,M5 a5U,a2o,if_pos hj,h]
theorem c7R (h:B[j]? = some y) (hj:j+1<=i):((swk B i (j+1) x).set (j+1) y).set j x=swk B i j x:=by
 obtain ⟨h1,h2⟩:=b0w h hj;have hlt:=(n_1.1 h).1;have hl:(B.take j).length=j:=by rw [a7Z];omega
 unfold swk;rw [h1,h2,n_8,b3t _ _ (by rw [hl];omega),hl,show j+1 - j=1 by omega,b3t _ _ (by rw [hl];exact n_4 _),hl,b5J];rfl
theorem d1Q (hB:(B.take i).Pairwise (·<=·)) (hg:∀ z∈(B.take i).drop k,x<=z) (hx:k=0\/∃ y,B[k - 1]? = some y/\y<=x) (hk:k<=i):(B.take k++x::(B.take i).drop k).Pairwise (·<=·):=by
 have he:B.take i=B.take k++(B.take i).drop k:=by
  have:=c40 k (B.take i);rw [List.take_take,c4U hk] at this;exact this.symm
 rw [he,List.pairwise_append] at hB;obtain ⟨p1,p2,p3⟩:=hB;refine List.pairwise_append.2 ⟨p1,b12.2 ⟨hg,p2⟩,fun a ha b hb=>?_⟩
 rcases R5.1 hb with rfl | hb
 ·rcases hx with rfl | ⟨y,hy,hyx⟩
  ·simp at ha
  ·by_cases hk0:k=0
   ·subst hk0;simp at ha
   ·obtain ⟨k,rfl⟩:∃ k',k=k'+1:=⟨k - 1,om_⟩;rw [c3t] at hy;rw [(b0w hy hk).1,List.pairwise_append] at p1;rw [(b0w hy hk).1] at ha
    rcases X1.1 ha with ha | ha
    ·exact List.le_trans (p1.2.2 a ha y si_) hyx
    ·simp at ha;subst ha;exact hyx
 ·exact p3 a ha b hb
theorem d8e {A:List Str} (hp:A.Perm N) (hs:A.Pairwise (·<=·)):A=a0Z N:=by
 have tr:∀ (a b c:Str),decide (a<=b)=true->decide (b<=c)=true->decide (a<=c)=true:=fun a b c h1 h2=>by
  simp only [a2t] at h1 h2 ⊢;exact List.le_trans h1 h2
 have to:∀ (a b:Str),(decide (a<=b) || decide (b<=a))=true:=fun a b=>by
  simp only [a6j,a2t];exact List.le_total a b
 refine List.Perm.eq_of_pairwise (le:=fun a b=>decide (a<=b)=true) (fun a b _ _ h1 h2=>?_) (hs.imp fun h=>sp_ h) (c97 tr to N) (hp.trans (b9i N _).symm);simp only [a2t] at h1 h2;exact c2v h1 h2
theorem c7c (h:B[i]? = some x) (hk:k<=i):(swk B i k x).Perm B:=by
 have e1:B=B.take k++((B.take i).drop k++x::B.drop (i+1)):=by
  have h1:=b6W h;have h2:=c40 k (B.take i);rw [List.take_take,c4U hk] at h2;rw [swk,S8 a5U,a7t] at h1;rw [<- n_8,h2,h1]
 refine List.Perm.trans ?_ (List.Perm.of_eq e1.symm);exact List.Perm.append_left _ List.perm_middle.symm
theorem c7J (hk:k<=i) (hi:i < B.length):(swk B i k x).take (i+1)=B.take k++x::(B.take i).drop k:=by
 have hl:(B.take k++x::(B.take i).drop k).length=i+1:=by simp only [n_5,n_7,b9x,a7Z];omega
 rw [swk,show B.take k++x::((B.take i).drop k++B.drop (i+1))=(B.take k++x::(B.take i).drop k)++B.drop (i+1) by simp,c1N om_,U3 om_]
theorem a02:(tst [b] G v H)[1+G.length]? = some v:=by
 rw [tst,a0y Q9];simp [b3k]
theorem c0f:(tst [b] G v H).set (1+G.length) v'=tst [b] G v' H:=by
 rw [tst,b3t _ _ Q9];simp [b3k,tst]
theorem c95:(tst [b] G v H).set (1+G.length) .dead++[v']=tst [b] (G++.dead::H) v' []:=by
 rw [c0f];simp [tst]
theorem d7V:(tst [b] G v H).length=1+(G++b9.dead::H).length:=by
 simp [tst];omega
theorem d2O {s:Nat} {rows:List (List CV)} {p:Nat} {c:List CV} (h:(tst [b] G (.vec s rows) H)[p]? = some (.box c)):(tst [b] (G++.dead::H) v' [])[p]? = some (.box c):=by
 have hp:1+G.length≠p:=fun e=>by rw [<- e,a02] at h;cases h
 rw [<- c95 (v:=.vec s rows),M5 (by rw [List.length_set];exact (n_1.1 h).1),a2V hp];exact h
theorem d6Z (a:b9):(tst [b] G v (H++[a]))[(tst [b] G v H).length]? = some a:=by
 have:tst [b] G v (H++[a])=tst [b] G v H++[a]:=by simp [tst]
 rw [this,a0y (n_4 _),b5J];rfl
theorem c9r (s:Str) (hk:σ[k]? = some (.vec 1 (N.map scv))) (hl:N.length<=1000000):b8 CC 149 [.vec k 0 N.length,sv s] σ fun r σ'=>r = .ret (.val (.bool (decide (s∈N))))/\σ'=σ:=by
 have h:=d2A N true s om_;refine a6E (len:=N.length) (rows:=N.map scv) hCC (fun a ha=>by simp at ha;subst ha;exact .val _) (fun r hr c hc=>?_) si_ hk ?_
 ·obtain ⟨x,_,rfl⟩:=K5.1 hr;simp [scv] at hc;subst hc;exact .val _
 ·rw [show ((N.map scv).drop 0).take N.length=N.map scv from by rw [a8G,U3 si_]];exact h
theorem c1v (l:List Str) (i:Nat) (s:Str):(l.map scv).set i [sv s]=(l.set i s).map scv:=by rw [List.map_set];rfl
theorem c8M {x:Str × Src} (h:x∈L):x.2.imports.length<=(b19 L).length:=by
 unfold b19
 induction L with
 | nil=>cases h
 | cons y l ih =>
  rw [b7l,n_5]
  rcases R5.1 h with rfl | h
  ·omega
  ·have:=ih h;omega
theorem c5i (L:List (Str × Src)) (pkg:Str) (hL:L.length<=1000) (hA:(b19 L).length<=100000):b8 CC 97 [.agg (a0x (L.map Prod.fst) (L.map Prod.snd)),(sv pkg)] [] fun r τ=>∃ N:List Str,a1e 0 τ r (.ret (.list ((a0Z N).map scv) true none))/\(N.Nodup/\∀ n,n∈N↔a67 L pkg n):=by
 refine cO Tryz.func97 ?_;refine b0X ?_;refine d5N ?_;refine a7q ?_;refine K3 (α:=Nat × List Str × List b9 × List b9) (fun x=>[(2,.ptr 0 0),(5,.vec (1+x.2.2.1.length) 0 x.2.1.length),(6,iv x.1)]) (fun x=>tst [.box (a0x (L.map Prod.fst) (L.map Prod.snd))] x.2.2.1 (.vec 1 (x.2.1.map scv)) x.2.2.2) (fun x=>NmL L pkg x.2.1/\x.1<=x.2.1.length/\∀ n∈x.2.1.take x.1,∀ y∈L,y.2.pkg=n->∀ s∈y.2.imports,s∈x.2.1) (fun x=>1+(b19 L).length - x.1) (0,[pkg],[],[]) ⟨⟨si_,fun n hn=>by simp at hn;subst hn;exact .base,si_⟩,n_3 _,fun n hn=>by simp at hn⟩ tu_ rfl ?_;intro ⟨i,N,G,H⟩ _ ⟨hN,hi,hc⟩;dsimp only at hN hi hc ⊢;have hNl:=hN.len;refine a1Q ?_;refine cY b4G ?_;refine a7N ?_;refine cC ?_ ?_ <;> intro h1
 ·have hlt:i < N.length:=sm_ h1;obtain ⟨n,gn⟩:∃ n,N[i]? = some n:=⟨N[i]'hlt,si_⟩;refine W7 ?_;refine cY c2D ?_;refine cY b40 ?_;refine cY c8A ?_;refine Z0 ?_;refine K3 (α:=Nat × List Str × List b9 × List b9) (fun x=>[(2,.ptr 0 0),(5,.vec (1+x.2.2.1.length) 0 x.2.1.length),(6,iv i),(22,(.list ((L.map Prod.snd).map Src.cv) (gnn (L.map Prod.snd).length) none)),(23,(iv ((L.map Prod.snd).length:Int))),(24,iv x.1)]) (fun x=>tst [.box (a0x (L.map Prod.fst) (L.map Prod.snd))] x.2.2.1 (.vec 1 (x.2.1.map scv)) x.2.2.2) (fun x=>NmL L pkg x.2.1/\(∃ t,x.2.1=N++t)/\x.1<=L.length/\∀ y∈L.take x.1,y.2.pkg=n->∀ s∈y.2.imports,s∈x.2.1) (fun x=>L.length - x.1) (0,N,G,H) ⟨hN,⟨[],si_⟩,n_3 _,fun y hy=>by simp at hy⟩ tu_ rfl ?_;intro ⟨q,N1,G1,H1⟩ _ ⟨hN1,hpre,hq,hc1⟩;dsimp only at hN1 hpre hq hc1 ⊢;have hNl1:=hN1.len;refine C9 ?_;refine cC ?_ ?_ <;> intro h2
  ·have hlq:q < L.length:=sm_ h2;obtain ⟨y,hy⟩:∃ y,L[q]? = some y:=⟨L[q]'hlq,si_⟩;have hym:=n_0 hy;have hyi:=c8M hym;refine W7 ?_;refine cY (r8 rfl tt tt rfl rfl b61 a2R om_ (j3 (c3H hy)) rfl) ?_;refine c7G ?_;refine cD (j6 rfl tt tt rfl c4 a2R p8 b2j rfl (nb rfl) ?_);refine S5 ?_;refine cY c2z ?_;refine cY (o5 rfl tt rfl b51 (by rw [b3a si_]) rfl) ?_;refine a1i ?_;refine K3 (α:=Nat × List Str × List b9 × List b9) (fun x=>[(2,.ptr 0 0),(5,.vec (1+x.2.2.1.length) 0 x.2.1.length),(6,iv i),(8,.ptr (tst [.box (a0x (L.map Prod.fst) (L.map Prod.snd))] G1 (.vec 1 (N1.map scv)) H1).length 0),(22,(.list ((L.map Prod.snd).map Src.cv) (gnn (L.map Prod.snd).length) none)),(23,(iv ((L.map Prod.snd).length:Int))),(24,iv q),(29,(.list (y.2.imports.map scv) (gnn y.2.imports.length) none)),(30,iv y.2.imports.length),(31,iv x.1)]) (fun x=>tst [.box (a0x (L.map Prod.fst) (L.map Prod.snd))] x.2.2.1 (.vec 1 (x.2.1.map scv)) x.2.2.2) (fun x=>NmL L pkg x.2.1/\(∃ t,x.2.1=N1++t)/\x.1<=y.2.imports.length/\(∀ s∈y.2.imports.take x.1,y.2.pkg=n->s∈x.2.1)/\(tst [.box (a0x (L.map Prod.fst) (L.map Prod.snd))] x.2.2.1 (.vec 1 (x.2.1.map scv)) x.2.2.2)[(tst [.box (a0x (L.map Prod.fst) (L.map Prod.snd))] G1 (.vec 1 (N1.map scv)) H1).length]? = some (.box y.2.cells)) (fun x=>y.2.imports.length - x.1) (0,N1,G1,H1++[.box y.2.cells]) ⟨hN1,⟨[],si_⟩,n_3 _,fun s hs=>by simp at hs,d6Z _⟩ tu_ (c2a _ _) ?_;intro ⟨r,N2,G2,H2⟩ _ ⟨hN2,hpre2,hr,hc2,hbx⟩;dsimp only at hN2 hpre2 hr hc2 hbx ⊢;have hNl2:=hN2.len;refine C9 ?_;refine cC ?_ ?_ <;> intro h3
   ·have hlr:r < y.2.imports.length:=sm_ h3;obtain ⟨s,hs⟩:∃ s,y.2.imports[r]? = some s:=⟨y.2.imports[r]'hlr,si_⟩;have hsm:=n_0 hs;have htk:y.2.imports.take (r+1)=y.2.imports.take r++[s]:=by rw [a4F,hs];rfl
    obtain ⟨t1,ht1⟩:=hpre;obtain ⟨t2,ht2⟩:=hpre2;have gn2:N2[i]? = some n:=by rw [ht2,ht1,n_8,M5 hlt];exact gn
    have hiN2:i < N2.length:=(n_1.1 gn2).1;refine W7 ?_;refine d3Q ?_;refine b2i ?_;refine cW 13 ?_;refine hY c1H ?_;refine hY (o5 rfl tt rfl t_8 hbx rfl) ?_;refine a8w ?_;refine hY (Z4 rfl tt tt rfl rfl t_1 t_0 a02 om_ om_) ?_;refine hY (M9 rfl tt rfl t_8 a02 (j3 (by rw [n_9];exact gn2)) rfl) ?_;refine hY b3u ?_;refine c3n ?_;refine T3 rfl rfl tt rfl T7 ?_;refine T3 rfl rfl tt rfl (fun hg=>j8 rfl Tryz.call149 ⟨hg,hg,tt⟩ (c9r s a02 om_) rfl) ?_;refine T3 rfl rfl tt rfl a6C ?_;refine hY a4t ?_;refine a4L ?_;refine cC ?_ ?_ <;> intro h4
    ·have h4':y.2.pkg=n/\s∉N2:=sp_ h4;have hsn:=hN2.snoc (h4'.1 ▸ n_0 gn2) hym hsm h4'.2;have hsnl:=hsn.len;rw [n_5,b3I] at hsnl;refine X0 ?_;refine cY d8F ?_;refine cD (a5i ((N2++[s]).map scv) (N2++[s]).length rfl tt tt rfl q_2 t_1 t_0 a3y t_3 rfl a02 E7 si_ a36 E7 si_ si_ ?_);refine a1j ?_;exact ⟨(r+1,N2++[s],G2++.dead::H2,[]),do_,⟨hsn,⟨t2++[s],by rw [ht2,n_8]⟩,do_,fun z hz hp=>by
      dsimp only at hz ⊢;rw [htk] at hz
      rcases X1.1 hz with hz | hz
      ·exact b47 _ (hc2 z hz hp)
      ·simp at hz;subst hz;simp,d2O hbx⟩,⟨m0,⟨tt,(congrArg (fun k=>CV.vec k 0 (N2++[s]).length) d7V)⟩,m0,m0,m0,m0,m0,m0,m0,m0,tt⟩,c95⟩
    ·have h4':y.2.pkg=n->s∈N2:=sp_ h4;refine a2l ?_;exact ⟨(r+1,N2,G2,H2),do_,⟨hN2,⟨t2,ht2⟩,do_,fun z hz hp=>by
      dsimp only at hz ⊢;rw [htk] at hz
      rcases X1.1 hz with hz | hz
      ·exact hc2 z hz hp
      ·simp at hz;subst hz;exact h4' hp,hbx⟩,tu_,rfl⟩
   ·have hre:r=y.2.imports.length:=sm_ h3;obtain ⟨t1,ht1⟩:=hpre;obtain ⟨t2,ht2⟩:=hpre2;have htk:L.take (q+1)=L.take q++[y]:=by rw [a4F,hy];rfl
    refine a9B ?_;exact ⟨(q+1,N2,G2,H2),do_,⟨hN2,⟨t1++t2,by rw [ht2,ht1,n_8]⟩,do_,fun z hz hp s hs=>by
     dsimp only at hz ⊢;rw [htk] at hz
     rcases X1.1 hz with hz | hz
     ·rw [ht2];exact b47 _ (hc1 z hz hp s hs)
     ·simp at hz;subst hz;exact hc2 s (by rw [hre,U3 (n_4 _)];exact hs) hp⟩,tu_,rfl⟩
  ·have hqe:q=L.length:=sm_ h2;obtain ⟨t1,ht1⟩:=hpre;have htk:N1.take (i+1)=N.take i++[n]:=by
    rw [ht1,c1N om_,a4F,gn];rfl
   refine A4 ?_;refine a74 ?_;exact ⟨(i+1,N1,G1,H1),do_,⟨hN1,by dsimp only;rw [ht1,n_5];omega,fun z hz f hf hp s hs=>by
    dsimp only at hz ⊢;rw [htk] at hz
    rcases X1.1 hz with hz | hz
    ·rw [ht1];exact b47 _ (hc z hz f hf hp s hs)
    ·simp at hz;subst hz;exact hc1 f (by rw [hqe,U3 (n_4 _)];exact hf) hp s hs⟩,tu_,rfl⟩
 ·have hie:i=N.length:=sm_ h1;have hcl:=b7K hN (fun n hn=>hc n (by rw [hie,U3 (n_4 _)];exact hn));refine A4 ?_;refine a1z ?_;refine cY b4G ?_;refine Z0 ?_;refine K3 (α:=Nat × List Str) (fun x=>[(5,.vec (1+G.length) 0 N.length),(55,iv N.length),(56,iv x.1)]) (fun x=>tst [.box (a0x (L.map Prod.fst) (L.map Prod.snd))] G (.vec 1 (x.2.map scv)) H) (fun x=>x.1<=N.length/\x.2.Perm N/\(x.2.take x.1).Pairwise (·<=·)) (fun x=>N.length - x.1) (0,N) ⟨n_3 _,List.Perm.refl _,si_⟩ tu_ rfl ?_;intro ⟨m,B⟩ _ ⟨hm,hP,hS⟩;dsimp only at hm hP hS ⊢;have hBl:=hP.length_eq;refine C9 ?_;refine cC ?_ ?_ <;> intro h5
  ·have hlm:m < B.length:=sm_ h5;obtain ⟨x0,hx0⟩:∃ x,B[m]? = some x:=⟨B[m]'hlm,si_⟩;refine X9 ?_;refine O0 ?_;refine b13 ?_;refine K3 (α:=Nat) (fun k=>[(5,.vec (1+G.length) 0 N.length),(12,iv k),(55,iv N.length),(56,iv m)]) (fun k=>tst [.box (a0x (L.map Prod.fst) (L.map Prod.snd))] G (.vec 1 ((swk B m k x0).map scv)) H) (fun k=>k<=m/\∀ z∈(B.take m).drop k,x0<=z) (fun k=>k) m ⟨n_4 _,fun z hz=>by rw [S8 a5U] at hz;cases hz⟩ tu_ (by rw [b6W hx0]) ?_;intro k _ ⟨hkm,hgt⟩;have hsl:=d2m (x:=x0) hkm hlm;obtain ⟨y,hy⟩:∃ y,0 < k->B[k - 1]? = some y:=⟨B.getD (k - 1) [],fun h=>by rw [a3o,a2b om_];rfl⟩;refine A5 (A5 ?_);refine cW 14 ?_;refine b7a ?_;refine c3n ?_;refine T3 rfl rfl tt rfl T7 ?_;refine T3 rfl rfl tt rfl d9m ?_;refine T3 rfl rfl tt rfl (fun hg=>M9 rfl hg rfl t_8 a02 (j3 (by rw [n_9];exact c1f hkm hlm)) rfl) ?_;refine T3 rfl rfl tt rfl T7 ?_;refine d4Q ?_;refine T3 rfl rfl tt rfl d9m ?_;refine T3 rfl rfl tt rfl (fun hg=>M9 rfl hg rfl t_8 a02 (j3 (by rw [n_9,show ((k:Int) - 1).toNat=k - 1 by omega];exact b5n (sm_ hg) (hy (sm_ hg)))) rfl) ?_;refine c74 ?_;refine a4L ?_;refine cC ?_ ?_ <;> intro h6
   ·have u6:0 < k/\Op.bytesLess x0 y=true:=sp_ h6;have hyk:=hy u6.1;obtain ⟨j,rfl⟩:∃ j,k=j+1:=⟨k - 1,om_⟩;rw [c3t] at hyk;have hj1:(((j+1:Nat):Int) - 1).toNat=j:=by omega
    have hxy:x0<=y:=by have:=u6.2;rw [bytesLess_eq,a2t] at this;exact Std.le_of_lt this
    refine a4O ?_;refine cF [] [] [0,1,2,3,4,5,6,7,8,9,10,11,12,13,14,15,16,17] 15 [[2,3,4],[],[]] trivial ?_;refine a60 ?_;refine a60 ?_;refine chf rfl (c7 rfl a24) ?_;refine a60 ?_;refine chf rfl (c7 rfl a24) ?_;refine chf rfl c2M ?_;refine chf rfl d8C ?_;refine a60 ?_;refine chf rfl c2M ?_;refine chf rfl d8C ?_;refine chf rfl c2M ?_;refine F9 ?_;refine A6 rfl rfl rfl rfl (O7 (((swk B m (j+1) x0).set (j+1) y).map scv) rfl tt tt rfl c4 t_0 (.inl rfl) a02 (j3 (by rw [n_9];exact c1f hkm hlm)) rfl (nb rfl) (by simp only [n_9,a2p];exact c1v _ _ _) c0f ?_);refine ⟨⟨E8,E8,(by exact c7 rfl a24),tt⟩,?_⟩;refine D9 rfl rfl rfl c2M ⟨tt,?_⟩;refine A6 rfl rfl rfl rfl (O7 ((swk B m j x0).map scv) rfl tt tt rfl c4 t_0 (.inl rfl) a02 (j3 (by rw [n_9,hj1,a2V om_];exact b5n om_ hyk)) rfl (nb rfl) (by rw [n_9,hj1];refine (c1v _ _ _).trans ?_;rw [c7R hyk hkm]) c0f ?_);refine a2C ?_;refine z_4 ?_;refine a7z ?_;exact ⟨j,om_,⟨om_,fun z hz=>by rw [(b0w hyk hkm).2] at hz;rcases R5.1 hz with rfl | hz;exact hxy;exact hgt z hz⟩,⟨m0,⟨tt,(congrArg (fun z:Int=>iv z) om_)⟩,m0,m0,tt⟩,rfl⟩
   ·have u6:k=0\/∃ y,B[k - 1]? = some y/\y<=x0:=by
     rcases b3g k with h0 | h0
     ·exact .inl h0
     ·refine .inr ⟨y,hy h0,?_⟩;have hb:Op.bytesLess x0 y=false:=by simpa [h0] using h6
      rw [bytesLess_eq,decide_eq_false_iff_not] at hb;exact List.not_lt.1 hb
    refine a9B ?_;exact ⟨(m+1,swk B m k x0),do_,⟨do_,(c7c hx0 hkm).trans hP,by dsimp only;rw [c7J hkm hlm];exact d1Q hS hgt u6 hkm⟩,tu_,rfl⟩
  ·have hme:m=N.length:=sm_ h5;rw [hme,<- hBl,U3 (n_4 _)] at hS;obtain rfl:=d8e hP hS;refine a2y ?_;exact ⟨_,j2 rfl tt c4,⟨N,.ret (by rw [<- hBl];exact c85 om_ a02 (fun r hr c hc=>by obtain ⟨x,_,rfl⟩:=K5.1 hr;simp [scv] at hc;subst hc;exact .val _)),hN.nd,hcl⟩⟩
open Classical in
noncomputable def Z9 (L:List (Str × Src)) (pkg:Str):List Str:=if h:∃ N:List Str,N.Nodup/\∀ n,n∈N↔a67 L pkg n then a0Z h.choose else []
theorem b6Z (hN:N.Nodup) (h:∀ n,n∈N↔a67 L pkg n):Z9 L pkg=a0Z N:=by
 have hex:∃ N:List Str,N.Nodup/\∀ n,n∈N↔a67 L pkg n:=⟨N,hN,h⟩;unfold Z9;rw [dif_pos hex];exact a99 hex.choose_spec.1 hN fun n=>(hex.choose_spec.2 n).trans (h n).symm
theorem c4Y (h:n∈Z9 L pkg):a67 L pkg n:=by
 unfold Z9 at h;split at h
 ·rename_i hex;exact (hex.choose_spec.2 n).1 ((b9i _ _).mem_iff.1 h)
 ·cases h
theorem c4m (L:List (Str × Src)) (pkg:Str):(Z9 L pkg).length<=1+(b19 L).length:=by
 unfold Z9
 split
 ·rename_i hex;have h1:(a0Z hex.choose).length=hex.choose.length:=List.length_mergeSort _;have h2:=List.Nodup.length_le_of_subset hex.choose_spec.1 (fun n hn=>c10 ((hex.choose_spec.2 n).1 hn));rw [h1];simpa [b3k] using h2
 ·exact n_3 _
theorem d0i (L:List (Str × Src)) (pkg:Str) (hL:L.length<=1000) (hA:(b19 L).length<=100000) (σ:List b9):b8 CC 97 [.agg (a0x (L.map Prod.fst) (L.map Prod.snd)),sv pkg] σ fun r τ=>r = .ret (.list ((Z9 L pkg).map scv) true none)/\τ=σ :=
 (F6 (res:=fun N:List Str=>.ret (.list ((a0Z N).map scv) true none)) (P:=fun N=>N.Nodup/\∀ n,n∈N↔a67 L pkg n) hCC (fun a h=>by
  simp at h
  rcases h with rfl | rfl
  ·exact o3 ⟨C2 _ _,a5W _ _,tt⟩
  ·exact .val _) (c5i L pkg hL hA) (fun _ _=>C2 _ _) σ).mono fun r τ ⟨N,h1,h2,h3,h4⟩=>⟨by rw [h1,b6Z h3 h4],h2⟩
def c01 (fl:List Fi) (L:List (Str × Src)) (N:List Str) (o:Str):Str:=N.foldl (fun o q=>J0 (J0 o q) ([61]++a4b fl q L [])) o
theorem c3P {q:Str} (h:N[i]? = some q) (o:Str):c01 fl L (N.drop i) o=c01 fl L (N.drop (i+1)) (J0 (J0 o q) ([61]++a4b fl q L [])):=by
 obtain ⟨hlt,rfl⟩:=n_1.1 h;rw [Q4 hlt];rfl
theorem b8m {fl:List Fi} {pkg:Str} (hbl:∀ q b,B5 fl q=some b->b.length<=100000):∀ (L:List (Str × Src)) (o:Str),(∀ x∈L,x.1.length<=1000)->(a4b fl pkg L o).length<=o.length+200000*L.length
 | [],o,_=>n_4 _
 | x::l,o,hP=>by
  have hx:=hP x si_;have ih:=b8m (pkg:=pkg) hbl l (if x.2.pkg=pkg then J0 (J0 o x.1) ((if B7 fl=0 then B5 fl x.1 else none).getD []) else o) fun y hy=>hP y (by simp [hy]);have hd:((if B7 fl=0 then B5 fl x.1 else none).getD []).length<=100000:=by
   split
   ·cases hdf:B5 fl x.1 with
    | none=>exact n_3 _
    | some b=>exact hbl _ _ hdf
   ·exact n_3 _
  have q1:=a57 (l:=o) (s:=x.1) om_;have q2:=a57 (l:=J0 o x.1) (s:=(if B7 fl=0 then B5 fl x.1 else none).getD []) om_;have e:a4b fl pkg (x::l) o=a4b fl pkg l (if x.2.pkg=pkg then J0 (J0 o x.1) ((if B7 fl=0 then B5 fl x.1 else none).getD []) else o):=rfl;rw [e,n_7];have h2:(if x.2.pkg=pkg then J0 (J0 o x.1) ((if B7 fl=0 then B5 fl x.1 else none).getD []) else o).length<=o.length+200000:=by
   split <;> omega
  omega
noncomputable def inR (fl:List Fi) (L:List (Str × Src)) (ev:List Va) (k:Ky):Str :=
 if k.k=1 then b0O L 1 k.a k.b else if k.k=2 then b0O L 2 k.a k.b else if k.k=3 then b0O L 3 [] k.a else
 if k.k=4 then (if (if B7 fl=0 then B5 fl k.a else none).isSome=true then [61]++(if B7 fl=0 then B5 fl k.a else none).getD [] else [45]) else
 if k.k=5 then (if (a1b ev k.a).isSome=true then [61]++Lib.itoa ((a1b ev k.a).getD 0) else [45]) else
 if k.k=6 then [61]++a4b fl k.a L [] else [61]++c01 fl L (Z9 L k.a) []
structure d3e (fl:List Fi) (L:List (Str × Src)):Prop where
 hl:fl.length<=1000000
 hL:L.length<=64
 hA:(b19 L).length<=512
 hP:∀ x∈L,x.1.length<=1000
 hbl:∀ q b,B5 fl q=some b->b.length<=100000
 hd:∀ x∈L,x.2.decls.length<=100000
 hi:∀ x∈L,∀ s∈x.2.imports,s.length<=1000
 ok:∀ k p o,c6y L k p o
theorem d3e.rch (h:d3e fl L) (hp:pkg.length<=1000) (hr:a67 L pkg n):n.length<=1000:=by
 cases hr with
 | base=>exact hp
 | step _ hx _ hs=>exact h.hi _ hx _ hs
theorem b80 (fl:List Fi) (nn:Bool) (L:List (Str × Src)) (ev:List Va) (en:Bool) (k:Ky) (h:d3e fl L) (hel:ev.length<=1000000000) (hev:∀ v,a1b ev k.a=some v->-9007199254740992<=v/\v<=9007199254740992) (hka:k.a.length<=1000) (σ:List b9):b8 CC 54 [.agg (A8 fl nn),.agg (a0x (L.map Prod.fst) (L.map Prod.snd)),.agg (G3 ev en),.agg k.cells] σ fun r σ'=>r = .ret (sv (inR fl L ev k))/\σ'=σ:=by
 refine an_ Tryz.func54 ?_;refine c7g ?_;refine cD (a5v rfl tt c4 p8 ?_);refine z_3 ?_;refine a0Y ?_;refine b8k ?_;refine a2m ?_;refine cC ?_ ?_ <;> intro h1
 ·have w1:k.k=1:=sp_ h1;refine z_0 ?_;refine b6E ?_;refine c5u ?_;refine ye rfl c8L ⟨tt,rfl,tt,tt,tt⟩ (a4e L 1 k.a k.b (by have:=h.hL;omega) h.hd (h.ok _ _ _) _) rfl ?_;refine z_7 ?_;exact ⟨_,j2 rfl tt rfl,_,_,rfl,rfl,D4 (congrArg str (show _=inR fl L ev k by unfold inR;rw [if_pos w1]))⟩
 ·have w1:¬ k.k=1:=sp_ h1;refine D6 ?_;refine cC ?_ ?_ <;> intro h2
  ·have w2:k.k=2:=sp_ h2;refine z_0 ?_;refine b6E ?_;refine c5u ?_;refine ye rfl c8L ⟨tt,rfl,tt,tt,tt⟩ (a4e L 2 k.a k.b (by have:=h.hL;omega) h.hd (h.ok _ _ _) _) rfl ?_;refine z_7 ?_;exact ⟨_,j2 rfl tt rfl,_,_,rfl,rfl,D4 (congrArg str (show _=inR fl L ev k by unfold inR;rw [if_neg w1,if_pos w2]))⟩
  ·have w2:¬ k.k=2:=sp_ h2;refine D6 ?_;refine cC ?_ ?_ <;> intro h3
   ·have w3:k.k=3:=sp_ h3;refine z_0 ?_;refine b6E ?_;refine ye rfl c8L ⟨tt,rfl,rfl,tt,tt⟩ (a4e L 3 [] k.a (by have:=h.hL;omega) h.hd (h.ok _ _ _) _) rfl ?_;refine z_7 ?_;exact ⟨_,j2 rfl tt rfl,_,_,rfl,rfl,D4 (congrArg str (show _=inR fl L ev k by unfold inR;rw [if_neg w1,if_neg w2,if_pos w3]))⟩
   ·have w3:¬ k.k=3:=sp_ h3;refine D6 ?_;refine cC ?_ ?_ <;> intro h4
    ·have w4:k.k=4:=sp_ h4;refine a0Y ?_;refine cY X3 ?_;refine c5u ?_;refine yc rfl c8c i7 (a8Q fl nn k.a h.hl _) ?_;refine b1C ?_;refine a9t ?_;refine c8 ?_;refine cC ?_ ?_ <;> intro h5
     ·have v4:(if B7 fl=0 then B5 fl k.a else none).isSome=true:=h5;have hdl:((if B7 fl=0 then B5 fl k.a else none).getD []).length<=100000:=by
       split
       ·cases hdf:B5 fl k.a with
        | none=>exact n_3 _
        | some b=>exact h.hbl _ _ hdf
       ·exact n_3 _
      refine z_2 ?_;refine c8o ?_;exact ⟨_,j2 rfl tt rfl,_,_,rfl,rfl,D4 (congrArg str (show _=inR fl L ev k by unfold inR;rw [if_neg w1,if_neg w2,if_neg w3,if_pos w4,if_pos v4]))⟩
     ·have v4:¬ (if B7 fl=0 then B5 fl k.a else none).isSome=true:=by rw [show (if B7 fl=0 then B5 fl k.a else none).isSome=false from h5];decide
      refine a9F ?_;exact ⟨_,j2 rfl tt rfl,_,_,rfl,rfl,D4 (congrArg str (show _=inR fl L ev k by unfold inR;rw [if_neg w1,if_neg w2,if_neg w3,if_pos w4,if_neg v4]))⟩
    ·have w4:¬ k.k=4:=sp_ h4;refine D6 ?_;refine cC ?_ ?_ <;> intro h6
     ·have w5:k.k=5:=sp_ h6;refine a0Y ?_;refine cY a9Z ?_;refine c5u ?_;refine yc rfl Tryz.call89 i7 (b2n ev en k.a hel _) ?_;refine b1C ?_;refine a9t ?_;refine c8 ?_;refine cC ?_ ?_ <;> intro h7
      ·have v5:(a1b ev k.a).isSome=true:=h7;obtain ⟨z,hz⟩:=b8w.1 v5;have hzr:=hev z hz;have hz0:(a1b ev k.a).getD 0=z:=by rw [hz];rfl
       have hit:=a4S (n:=z) om_ om_;refine z_2 ?_;refine ye rfl c6s ⟨tt,tt⟩ (a5x _ (by rw [hz0];exact hzr.1) (by rw [hz0];exact hzr.2) _) rfl ?_;refine cY (I1 rfl rfl tt rfl rfl (by rw [hz0];simp;omega)) ?_;refine z_7 ?_;exact ⟨_,j2 rfl tt rfl,_,_,rfl,rfl,D4 (congrArg str (show _=inR fl L ev k by unfold inR;rw [if_neg w1,if_neg w2,if_neg w3,if_neg w4,if_pos w5,if_pos v5]))⟩
      ·have v5:¬ (a1b ev k.a).isSome=true:=by rw [show (a1b ev k.a).isSome=false from h7];decide
       refine a9F ?_;exact ⟨_,j2 rfl tt rfl,_,_,rfl,rfl,D4 (congrArg str (show _=inR fl L ev k by unfold inR;rw [if_neg w1,if_neg w2,if_neg w3,if_neg w4,if_pos w5,if_neg v5]))⟩
     ·have w5:¬ k.k=5:=sp_ h6;refine D6 ?_;refine cC ?_ ?_ <;> intro h8
      ·have w6:k.k=6:=sp_ h8;refine b04 ?_;refine b6E ?_;refine ye rfl Tryz.call96 C0 (a9W fl nn L k.a h.hl (by have:=h.hL;omega) h.hP h.hbl _) rfl ?_;refine z_7 ?_;exact ⟨_,j2 rfl tt rfl,_,_,rfl,rfl,D4 (congrArg str (show _=inR fl L ev k by unfold inR;rw [if_neg w1,if_neg w2,if_neg w3,if_neg w4,if_neg w5,if_pos w6]))⟩
      ·have w6:¬ k.k=6:=sp_ h8;have htl:=c4m L k.a;have hA:=h.hA;have hL:=h.hL;refine c9 ?_;refine a9y ?_;refine b6E ?_;refine ye rfl Tryz.call97 i7 (d0i L k.a om_ om_ _) rfl ?_;refine a1i ?_;refine j5 hCC (α:=Nat × Str) (fun a=>[(4,.ptr 0 0),(5,.ptr 1 0),(13,(.list (a.2.map bcv) (gnn a.2.length) none)),(75,(.list ((Z9 L k.a).map scv) true none)),(76,(iv ((Z9 L k.a).length:Int))),(77,iv a.1)]) (fun _=>[.box (A8 fl nn),.box (a0x (L.map Prod.fst) (L.map Prod.snd)),.box (G3 ev en),.box k.cells]) (fun a=>a.1<=(Z9 L k.a).length/\c01 fl L (Z9 L k.a) []=c01 fl L ((Z9 L k.a).drop a.1) a.2/\a.2.length<=20000000*a.1) (fun a=>(Z9 L k.a).length - a.1) (0,[]) ⟨n_3 _,rfl,n_4 _⟩ tu_ (extra0:=[]) rfl r5 uz_ ?_;rintro ⟨i,o⟩ ⟨hi,hr,ho⟩;dsimp only at hi hr ho ⊢;refine C9 ?_;refine cC ?_ ?_ <;> intro h9
       ·have hlt:i < (Z9 L k.a).length:=sm_ h9;obtain ⟨q,hb⟩:∃ q,(Z9 L k.a)[i]? = some q:=⟨(Z9 L k.a)[i]'hlt,si_⟩;rw [c3P hb] at hr;have hq:=h.rch hka (c4Y (n_0 hb));have hfi:=b8m (pkg:=q) h.hbl L [] h.hP;have hfj:([61]++a4b fl q L []).length<=12800001:=by simp at hfi ⊢;omega
        have q1:=a57 (l:=o) (s:=q) om_;have q2:=a57 (l:=J0 o q) (s:=[61]++a4b fl q L []) om_;refine a6S ?_;refine z_1 ?_;refine cW 9 ?_;refine a8w ?_;refine hY (j8 rfl c3g i7 (a1C o _ q om_ om_ _) rfl) ?_;refine hY X3 ?_;refine hY b4C ?_;refine hY j1 ?_;refine hY (j8 rfl Tryz.call96 C0 (a9W fl nn L q h.hl om_ h.hP h.hbl _) rfl) ?_;refine hY (j8 rfl c3g i7 (a1C (J0 o q) _ ([61]++a4b fl q L []) om_ om_ _) rfl) ?_;refine a9G ?_;refine b0I ?_;exact ⟨(i+1,J0 (J0 o q) ([61]++a4b fl q L [])),_,⟨do_,do_,hr,do_⟩,tu_,rfl⟩
       ·have hge:(Z9 L k.a).length<=i:=sm_ h9;rw [S8 hge] at hr;refine b9d ?_;refine c8o ?_;exact ⟨_,j2 rfl tt rfl,_,_,rfl,rfl,D4 (congrArg str (show _=inR fl L ev k by unfold inR;rw [if_neg w1,if_neg w2,if_neg w3,if_neg w4,if_neg w5,if_neg w6];rw [hr];rfl))⟩
def er (t:Tok):Tok:=⟨t.k,t.t,t.n,0⟩
theorem a39 {va:Bool} (hσ:WAt σ w q1 q2 t fl nn va br ms me) (l:List b9):WAt (σ++l) w q1 q2 t fl nn va br ms me:=⟨a1G hσ.hw l,a1G hσ.hs l,a1G hσ.he l,a1G hσ.ht l,hσ.nd⟩
structure WOk (fl:List Fi) (ms:SM) (me:EM):Prop where
 len:fl.length<=64
 fb:∀ f∈fl,f.p.length<=100/\f.b.length<=100000
 src:∀ p s,glk ms p=some s->a3z s
 ent:∀ k e,glk me k=some e->b3e ms e
theorem WOk.find (h:WOk fl ms me) (k:Int) (p o:Str):b3e ms (a0w true me k p o):=by
 unfold a0w;rw [if_pos rfl]
 split
 ·rename_i x hx;exact h.ent _ _ hx
 ·intro h1;cases h1
theorem WOk.imp (h:WOk fl ms me) (f:Fi):(a1l ms f).length<=8/\∀ s∈a1l ms f,s.length<=24:=by
 unfold a1l;cases hg:glk ms f.p with
 | none=>exact ⟨n_3 _,fun s hs=>by cases hs⟩
 | some x =>
  have:=h.src _ _ hg;exact ⟨this.impl,fun s hs=>B4 (this.imp s hs).1⟩
theorem WOk.allI {fl:List Fi} {ms:SM} {me:EM} (h:WOk fl ms me):(allI ms fl).length<=512:=by
 have:∀ l:List Fi,(Go.Proofs.YtlppbmfecjabeaaGreatDoor.allI ms l).length<=8*l.length:=fun l=>by
  induction l with
  | nil=>exact n_3 _
  | cons x l ih =>
   have:=(h.imp x).1;unfold Go.Proofs.YtlppbmfecjabeaaGreatDoor.allI at ih ⊢;rw [b7l,n_5,n_7];omega
 have h1:=this fl;have h2:=h.len;omega
theorem WOk.reach {fl:List Fi} {ms:SM} {me:EM} (h:WOk fl ms me) {pkg:Str} (hp:pkg.length<=100) {n:Str} (hr:Reach ms fl pkg n):n.length<=100000:=by
 cases hr with
 | base=>omega
 | @step _ f _ _ _ hs=>have:=(h.imp f).2 _ hs;omega
noncomputable def V6 (fl:List Fi) (ms:SM) (me:EM) (ev:List Va) (k:Ky):Str :=
 if k.k=1 then a1q ms (a0w true me 1 k.a k.b) else if k.k=2 then a1q ms (a0w true me 2 k.a k.b) else if k.k=3 then a1q ms (a0w true me 3 [] k.a)
 else if k.k=4 then (if (B5 fl k.a).isSome then [61]++(B5 fl k.a).getD [] else [45]) else if k.k=5 then (if (a1b ev k.a).isSome then [61]++Lib.itoa ((a1b ev k.a).getD 0) else [45])
 else if k.k=6 then a0T ms fl k.a else b8M ms fl k.a
theorem b4m {b:Str} (h:B5 fl s=some b):∃ f∈fl,f.b=b:=by
 unfold B5 at h;rw [O3] at h;obtain ⟨f,hf,rfl⟩:=h;exact ⟨f,b9v hf,rfl⟩
theorem c7i {ev:List Va} {v:Int} (hev:∀ v∈ev,-9223372036854775808<=v.v/\v.v<=9223372036854775807) (h:a1b ev s=some v) : -9223372036854775808<=v/\v<=9223372036854775807:=by
 unfold a1b at h;rw [O3] at h;obtain ⟨x,hx,rfl⟩:=h;exact hev x (b9v hx)
theorem e0d (hσ:WAt σ w q1 q2 t fl nn true br ms me) (hok:WOk fl ms me) (k:Ky):b8 CC 105 [.ptr w 0,.agg k.cells] σ fun r τ=>r = .ret (sv (a1q ms (a0w true me 1 k.a k.b)))/\τ=σ:=by
 refine D5 (cO Tryz.func105 ?_);refine a3J ?_;refine z_5 ?_;refine cY a5q ?_;refine cY (o5 rfl tt rfl t_8 b2j rfl) ?_;refine cY a5q ?_;refine cY (o5 rfl tt rfl t_8 b2j rfl) ?_;refine yc rfl c9i ⟨tt,rfl,tt,tt,tt⟩ (b5e (a39 hσ _) 1 k.a k.b) ?_;exact c7t
theorem d9O (hσ:WAt σ w q1 q2 t fl nn true br ms me) (hok:WOk fl ms me) (k:Ky):b8 CC 107 [.ptr w 0,.agg k.cells] σ fun r τ=>r = .ret (sv (a1q ms (a0w true me 2 k.a k.b)))/\τ=σ:=by
 refine D5 (cO Tryz.func107 ?_);refine a3J ?_;refine z_5 ?_;refine cY a5q ?_;refine cY (o5 rfl tt rfl t_8 b2j rfl) ?_;refine cY a5q ?_;refine cY (o5 rfl tt rfl t_8 b2j rfl) ?_;refine yc rfl c9i ⟨tt,rfl,tt,tt,tt⟩ (b5e (a39 hσ _) 2 k.a k.b) ?_;exact c7t
theorem d9Q (hσ:WAt σ w q1 q2 t fl nn true br ms me) (hok:WOk fl ms me) (k:Ky):b8 CC 108 [.ptr w 0,.agg k.cells] σ fun r τ=>r = .ret (sv (a1q ms (a0w true me 3 [] k.a)))/\τ=σ:=by
 refine D5 (cO Tryz.func108 ?_);refine a3J ?_;refine z_5 ?_;refine cY a5q ?_;refine cY (o5 rfl tt rfl t_8 b2j rfl) ?_;refine yc rfl c9i ⟨tt,rfl,rfl,tt,tt⟩ (b5e (a39 hσ _) 3 [] k.a) ?_;exact c7t
theorem d8x (hσ:WAt σ w q1 q2 t fl nn true br ms me) (hok:WOk fl ms me) (k:Ky):b8 CC 109 [.ptr w 0,.agg k.cells] σ fun r τ=>r = .ret (sv (if (B5 fl k.a).isSome then [61]++(B5 fl k.a).getD [] else [45]))/\τ=σ:=by
 refine D5 (cO Tryz.func109 ?_);refine b0X ?_;refine cY a5q ?_;refine cY (o5 rfl tt rfl t_8 b2j rfl) ?_;refine ye rfl Tryz.call110 i7 (d1q (a39 hσ _) k.a (by have:=hok.len;omega)) rfl ?_;refine a1T ?_;refine a1z ?_;refine S4 ?_;refine cC ?_ ?_ <;> intro h1
 ·have u1:(B5 fl k.a).isSome=false:=sp_ h1;refine I0 ?_;exact ⟨_,j2 rfl tt c4,_,_,rfl,rfl,D4 (by rw [u1];rfl)⟩
 ·have u1:(B5 fl k.a).isSome=true:=sp_ h1;obtain ⟨b,hb⟩:=b8w.1 u1;obtain ⟨f,hf,hfb⟩:=b4m hb;have hlen:=(hok.fb f hf).2;rw [hb];refine a1m ?_;refine cY (I1 rfl rfl tt rfl rfl (by show 1+b.length<=_;rw [<- hfb];omega)) ?_;refine z_7 ?_;exact ⟨_,j2 rfl tt c4,_,_,rfl,rfl,D4 (show str ([61]++(some b).getD [])=_ from rfl)⟩
theorem d8M (hσ:WAt σ w q1 q2 t fl nn true br ms me) (hok:WOk fl ms me) (k:Ky):b8 CC 114 [.ptr w 0,.agg k.cells] σ fun r τ=>r = .ret (sv (a0T ms fl k.a))/\τ=σ:=by
 refine D5 (cO Tryz.func114 ?_);refine b0X ?_;refine cY a5q ?_;refine cY (o5 rfl tt rfl t_8 b2j rfl) ?_;refine ye rfl Tryz.call115 i7 (b8i (a39 hσ _) k.a (by have:=hok.len;omega) hok.fb) rfl ?_;exact c6z
theorem d8Y (hσ:WAt σ w q1 q2 t fl nn true br ms me) (hok:WOk fl ms me) (k:Ky)(hka:k.a.length<=100):b8 CC 116 [.ptr w 0,.agg k.cells] σ fun r τ=>r = .ret (sv (b8M ms fl k.a))/\τ=σ:=by
 refine D5 (cO Tryz.func116 ?_);refine b0X ?_;refine cY a5q ?_;refine cY (o5 rfl tt rfl t_8 b2j rfl) ?_;refine yc rfl Tryz.call117 i7 (d2k (a39 hσ _) k.a hok.len hok.fb hok.allI (hok.reach hka)) ?_;exact c6z
theorem d8G {q:Nat} {ev:List Va} (hq:σ[q]? = some (.box (G3 ev nn))) (hev:∀ v∈ev,-9223372036854775808<=v.v/\v.v<=9223372036854775807) (hel:ev.length<=1000000000) (k:Ky):b8 CC 111 [.ptr w 0,.agg k.cells,.ptr q 0] σ fun r τ=>r = .ret (sv (if (a1b ev k.a).isSome then [61]++Lib.itoa ((a1b ev k.a).getD 0) else [45]))/\τ=σ:=by
 refine D5 (cO Tryz.func111 ?_);refine a3J ?_;refine z_0 ?_;refine cY (R8 rfl tt rfl b6D b6g (a1G hq _) (nb rfl)) ?_;refine cY a5q ?_;refine cY (o5 rfl tt rfl t_8 b2j rfl) ?_;refine yc rfl Tryz.call112 i7 (b2Y ev nn k.a hel _) ?_;refine a1T ?_;refine a1z ?_;refine S4 ?_;refine cC ?_ ?_ <;> intro h1
 ·have u1:(a1b ev k.a).isSome=false:=sp_ h1;refine I0 ?_;exact ⟨_,j2 rfl tt c4,_,_,rfl,rfl,D4 (by rw [u1];rfl)⟩
 ·have u1:(a1b ev k.a).isSome=true:=sp_ h1;obtain ⟨v,hv⟩:=b8w.1 u1;have hvr:=c7i hev hv;rw [hv];have hil:=a4S hvr.1 hvr.2;refine a1m ?_;refine yc rfl c6i ⟨tt,tt⟩ (b94 v hvr.1 hvr.2 _) ?_;refine cY (I1 rfl rfl tt rfl rfl (by show 1+(Lib.itoa v).length<=_;omega)) ?_;refine z_7 ?_;exact ⟨_,j2 rfl tt c4,_,_,rfl,rfl,D4 (show str ([61]++Lib.itoa v)=_ from rfl)⟩
end Go.Proofs.YtlppbmfecjabeaaGreatDoor
